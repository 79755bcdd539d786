/- Lemmas for PlanFromSaid, which YtohibkdhajkmdaaFinP7 proves. -/
import Derived.Test.YtohibkdhajkmdaaCode1
/- That the code does what the shallow programs do, function by function. Written by a program (gen.py). -/
namespace Go.Lift
open Go.RowKit
open Go.Proofs
set_option maxRecDepth 10000 in
theorem Qk (N : Nat) (p0 : Ae) (r : (List Af)) (h : GU N p0 = some r) : AB Try.prog 104 [.e (.agg [.pure (.sl (p0.fVersions.map Ag)), .pure (.sl (p0.fNow.map Ag)), .pure (.sl (p0.fTarget.map Ag)), .pure (.sl (p0.fTables.map Ai))])] [(3, r.map Ay)] (.e (.one (.own 0))) := by
 unfold GU at h
 refine Aq (n := 54) (rs := [.tmp 2]) Try.func104 rfl rfl rfl (BM rfl) (BM rfl) rfl fun w0 S0 => ?_
 refine Ab (Aa Ad rfl (qb rfl (qa rfl (Ac (Ab (Aa Ad rfl (qa rfl (Ac (Ab (Ab (Aa Ad rfl (qf Bn rfl (ql A9 rfl (AS AE rfl (qm rfl (Ac ?_))))))))))))))))
 refine AR (L := CR N p0) h (fun v1 => mk [(1, .e (.one (.ptr 1 0))), (3, .e (.one (.own 2001))), (10, .e (.one (.pure (.sl (p0.fVersions.map Ag))))), (11, .e (.one (.pure (.val (.int .i64 ((p0.fVersions.length : Int))))))), (12, .e (.one (.pure (.val (.int .i64 v1.2)))))] [(1, .box [.pure (.sl (p0.fVersions.map Ag)), .pure (.sl (p0.fNow.map Ag)), .pure (.sl (p0.fTarget.map Ag)), .pure (.sl (p0.fTables.map Ai))]), (2001, .vec 3 (v1.1.map Ay))]) (fun v2 => mk [(1, .e (.one (.ptr 1 0))), (3, .e (.one (.own 2002)))] [(1, .box [.pure (.sl (p0.fVersions.map Ag)), .pure (.sl (p0.fNow.map Ag)), .pure (.sl (p0.fTarget.map Ag)), .pure (.sl (p0.fTables.map Ai))]), (2002, .vec 3 (v2.map Ay))]) (fun _ _ => rfl) ((BF 3 2005 3 rfl rfl rfl).trans (sm [(2001, 2005)] _ _ rfl rfl)) (fun j1 n1 v1 h => ?_) (fun v2 s h hs => ?_)
 ·unfold CR at h
  refine Ab (Aa Ad rfl (A8 rfl (Ac (Ab ?_))))
  refine As rfl (fun c3 => ?_) (fun c3 => ?_)
  ·have h := Ao c3 h
   refine Au (Ab (AU (Ab (Aa Ad rfl (qm rfl ?_)))))
   obtain ⟨v4, a4, b4, h⟩ := Am h
   refine qi AE C7 a4 (Aj b4) rfl (qk B7 rfl (qa rfl (qa rfl (Ac (Ab (Aa Ad rfl (qm rfl (qm rfl (Ac ?_)))))))))
   refine AR (L := DW N v1 v4) h (fun v5 => mk [(1, .e (.one (.ptr 1 0))), (3, .e (.one (.own 2003))), (4, .e (.one (.pure (.val (.int .i64 v1.2))))), (10, .e (.one (.pure (.sl (p0.fVersions.map Ag))))), (11, .e (.one (.pure (.val (.int .i64 ((p0.fVersions.length : Int))))))), (12, .e (.one (.pure (.val (.int .i64 v1.2))))), (17, .e (.one (.pure (.val (.int .i64 v4))))), (18, .e (.one (.pure (.val (.int .i64 v5.2)))))] [(1, .box [.pure (.sl (p0.fVersions.map Ag)), .pure (.sl (p0.fNow.map Ag)), .pure (.sl (p0.fTarget.map Ag)), .pure (.sl (p0.fTables.map Ai))]), (2003, .vec 3 (v5.1.map Ay))]) (fun v6 => mk [(1, .e (.one (.ptr 1 0))), (3, .e (.one (.own 2004))), (10, .e (.one (.pure (.sl (p0.fVersions.map Ag))))), (11, .e (.one (.pure (.val (.int .i64 ((p0.fVersions.length : Int))))))), (12, .e (.one (.pure (.val (.int .i64 v1.2)))))] [(1, .box [.pure (.sl (p0.fVersions.map Ag)), .pure (.sl (p0.fNow.map Ag)), .pure (.sl (p0.fTarget.map Ag)), .pure (.sl (p0.fTables.map Ai))]), (2004, .vec 3 (v6.map Ay))]) (fun _ _ => rfl) (sm [(2003, 2001)] _ _ rfl rfl) (fun j5 n5 v5 h => ?_) (fun v6 s h hs => ?_)
   ·unfold DW at h
    refine Ab (Aa Ad rfl (A8 rfl (Ac (Ab ?_))))
    refine As rfl (fun c7 => ?_) (fun c7 => ?_)
    ·have h := Ao c7 h
     refine Au (Ab (AU (Ab (Aa Ad rfl (qm rfl (qa rfl (Ac (Aa Ad rfl (qm rfl (qm rfl (qm rfl (A7 Gx OV rfl (En CU Dj Gx rfl ?_)))))))))))))
     obtain ⟨c8, h⟩ := AN h
     refine Dy (f := Ay) CU CU Dj N4 Gx c8 rfl (qa rfl (Ac (Aa Ad rfl (Bp rfl (qm rfl (Ac ?_))))))
     exact Aw _ h (sm [(2003, 26)] _ _ rfl rfl)
    ·have h := Ap c7 h
     refine A5 ?_
     exact Aw _ h (sm [(2004, 2003)] _ _ rfl rfl)
   ·refine Al hs (Aa Ad rfl (Bp rfl (qm rfl (Ac ?_))))
    exact Aw _ h (sm [(2001, 2004)] _ _ rfl rfl)
  ·have h := Ap c3 h
   refine A5 ?_
   exact Aw _ h (sm [(2002, 2001)] _ _ rfl rfl)
 ·refine Al hs (Ab (Ab (Aa Ad rfl (qf Bn rfl (ql A9 rfl (AS AE rfl (qm rfl (Ac ?_))))))))
  refine AR (L := Cd N p0) h (fun v9 => mk [(1, .e (.one (.ptr 1 0))), (3, .e (.one (.own 2006))), (31, .e (.one (.pure (.val (.int .i64 ((p0.fVersions.length : Int))))))), (32, .e (.one (.pure (.val (.int .i64 v9.2)))))] [(1, .box [.pure (.sl (p0.fVersions.map Ag)), .pure (.sl (p0.fNow.map Ag)), .pure (.sl (p0.fTarget.map Ag)), .pure (.sl (p0.fTables.map Ai))]), (2006, .vec 3 (v9.1.map Ay))]) (fun v10 => mk [(1, .e (.one (.ptr 1 0))), (3, .e (.one (.own 2007)))] [(1, .box [.pure (.sl (p0.fVersions.map Ag)), .pure (.sl (p0.fNow.map Ag)), .pure (.sl (p0.fTarget.map Ag)), .pure (.sl (p0.fTables.map Ai))]), (2007, .vec 3 (v10.map Ay))]) (fun _ _ => rfl) (sm [(2006, 2002)] _ _ rfl rfl) (fun j9 n9 v9 h => ?_) (fun v10 s h hs => ?_)
  ·unfold Cd at h
   refine Ab (Aa Ad rfl (A8 rfl (Ac (Ab ?_))))
   refine As rfl (fun c11 => ?_) (fun c11 => ?_)
   ·have h := Ao c11 h
    refine Au (Ab (AU (Ab (Aa Ad rfl (qm rfl (qa rfl (Ac (Aa Ad rfl (qm rfl (qm rfl (A7 Gx OV rfl (En CU Dj Gx rfl ?_))))))))))))
    obtain ⟨c12, h⟩ := AN h
    refine Dy (f := Ay) CU CU Dj N4 Gx c12 rfl (qa rfl (Ac (Aa Ad rfl (Bp rfl (qm rfl (Ac ?_))))))
    exact Aw _ h (sm [(2006, 39)] _ _ rfl rfl)
   ·have h := Ap c11 h
    refine A5 ?_
    exact Aw _ h (sm [(2007, 2006)] _ _ rfl rfl)
  ·refine Al hs (Ab (Ab (Aa Ad rfl (qf CH rfl (ql Gw rfl (AS DV rfl (qm rfl (Ac ?_))))))))
   refine AR (L := Br N p0) h (fun v13 => mk [(3, .e (.one (.own 2008))), (43, .e (.one (.pure (.val (.int .i64 ((p0.fTables.length : Int))))))), (44, .e (.one (.pure (.val (.int .i64 v13.2)))))] [(2008, .vec 3 (v13.1.map Ay))]) (fun v14 => mk [(3, .e (.one (.own 2009)))] [(2009, .vec 3 (v14.map Ay))]) (fun _ _ => rfl) (sm [(2008, 2007)] _ _ rfl rfl) (fun j13 n13 v13 h => ?_) (fun v14 s h hs => ?_)
   ·unfold Br at h
    refine Ab (Aa Ad rfl (A8 rfl (Ac (Ab ?_))))
    refine As rfl (fun c15 => ?_) (fun c15 => ?_)
    ·have h := Ao c15 h
     refine Au (Ab (AU (Ab (Aa Ad rfl (qm rfl (qa rfl (Ac (Aa Ad rfl (qm rfl (qm rfl (A7 Gx OV rfl (En CU Dj Gx rfl ?_))))))))))))
     obtain ⟨c16, h⟩ := AN h
     refine Dy (f := Ay) CU CU Dj N4 Gx c16 rfl (qa rfl (Ac (Aa Ad rfl (Bp rfl (qm rfl (Ac ?_))))))
     exact Aw _ h (sm [(2008, 51)] _ _ rfl rfl)
    ·have h := Ap c15 h
     refine A5 ?_
     exact Aw _ h (sm [(2009, 2008)] _ _ rfl rfl)
   ·refine Al hs (Ab (Aa Ad rfl (qm rfl (qa rfl (Ac ?_)))))
    obtain rfl := sj h
    refine Al (sm [(1000, 2009)] [(2, .e (.one (.own 1000)))] [(1000, .vec 3 (v14.map Ay))] rfl rfl) (AC ?_)
    exact ⟨⟨[_], ⟨.tmp _ _ rfl, trivial⟩, rfl⟩, ⟨rfl, trivial⟩⟩
set_option maxRecDepth 10000 in
theorem Nc (N : Nat) (p0 : Ah) (r : Ah) (h : Fq N p0 = some r) : AB Try.prog 93 [.e (.agg [.pure (.sl (p0.fBase.map Ag)), .pure (.sl (p0.fNext.map Ag)), .pure (.sl (p0.fHeld.map A3))])] [(1, r.fBase.map Ag), (1, r.fNext.map Ag), (1, r.fHeld.map A3)] (.e (.agg [.own 0, .own 1, .own 2])) := by
 unfold Fq at h
 refine Aq (n := 13) (rs := [.cell 2 43]) Try.func93 rfl rfl rfl (BM rfl) (BM rfl) rfl fun w0 S0 => ?_
 refine Ab (Aa Ad rfl (qb rfl (qz Di rfl (Ac (Ab (Aa Ad rfl (qf Cy rfl (ql A9 rfl ?_))))))))
 obtain ⟨v1, a1, h⟩ := bind_some h
 refine AK [2001] (DB N p0.fBase v1 a1) Sl rfl (qf By rfl (ql A9 rfl ?_))
 obtain ⟨v2, a2, h⟩ := bind_some h
 refine AK [2002] (DB N p0.fNext v2 a2) Sl rfl (qf Cz rfl (ql Gd rfl ?_))
 obtain ⟨v3, a3, h⟩ := bind_some h
 refine AK [2003] (EY N p0.fHeld v3 a3) WJ rfl (A7 Di GG rfl (qs AT rfl (A0 (by kernel_rfl) ?_)))
 obtain rfl := sj h
 refine Al (sm [(1000, 2001), (1001, 2002), (1002, 2003)] [(2, .e (.one (.ptr 2 0)))] [(2, .box [.own 1000, .own 1001, .own 1002]), (1000, .vec 1 (v1.map Ag)), (1001, .vec 1 (v2.map Ag)), (1002, .vec 1 (v3.map A3))] rfl rfl) (AC ?_)
 exact ⟨⟨[_], ⟨.cellN _ _ _ _ _ _ _ rfl rfl Bq AT rfl rfl (Hm rfl), trivial⟩, rfl⟩, ⟨rfl, rfl, rfl, trivial⟩⟩
set_option maxRecDepth 10000 in
theorem J0 (N : Nat) (p0 : AF) (r : Bool) (h : ET N p0 = some r) : AB Try.prog 119 [.e (.agg [.pure (.val (.int .i64 p0.fKind)), .pure (.val (.int .i64 p0.fFrom)), .pure (.val (.int .i64 p0.fTo)), .pure (.val (.bool p0.fAware)), .pure (.sl (p0.fOK.map (Ep eB))), .pure (.sl (p0.fRewrite.map (Ep eB)))])] [] (.e (.one (.pure (.val (.bool r))))) := by
 unfold ET at h
 refine Aq (n := 11) (rs := [.tmp 2]) Try.func119 rfl rfl rfl (BM rfl) (BM rfl) rfl fun w0 S0 => ?_
 refine Ab (Aa Ad rfl (qb rfl (qa rfl (Ac ?_))))
 refine AW h (fun v1 => mk [(2, .e (.one (.pure (.val (.bool v1)))))] []) (fun j1 h => ?_) (fun v1 h => ?_)
 ·refine Aa Ad rfl (qf Fm rfl (ql B7 rfl (B4 rfl (qm rfl ?_))))
  refine AI (t := 6) rfl (fun c2 => ?_) (fun c2 => ?_)
  ·have h := Ao c2 h
   refine qn rfl (qn rfl (qn rfl (qp rfl (qa rfl (Ac ?_)))))
   exact Aw _ h (sm [] _ _ rfl rfl)
  ·have h := Ap c2 h
   refine qf Fm rfl (ql B7 rfl (B4 rfl (qp rfl (qa rfl (Ac ?_)))))
   exact Aw _ h (sm [] _ _ rfl rfl)
 ·obtain rfl := sj h
  refine Al (sm [] [(2, .e (.one (.pure (.val (.bool v1)))))] [] rfl rfl) (AC ?_)
  exact ⟨⟨[_], ⟨.tmp _ _ rfl, trivial⟩, rfl⟩, trivial⟩
set_option maxRecDepth 10000 in
theorem OD (N : Nat) (p0 : Ae) (p1 : Ah) (p2 : Af) (r : Bool × (List Int) × (List Int)) (h : GN N p0 p1 p2 = some r) : FC Try.prog 112 [.e (.agg [.pure (.sl (p0.fVersions.map Ag)), .pure (.sl (p0.fNow.map Ag)), .pure (.sl (p0.fTarget.map Ag)), .pure (.sl (p0.fTables.map Ai))]), .e (.one (.ptr 90000 0)), .e (.agg [.pure (.val (.int .i64 p2.fKind)), .pure (.val (.int .i64 p2.fIndex)), .pure (.val (.int .i64 p2.fVersion))])] [(.box [.own 90001, .own 90002, .own 90003], .box [.own 90001, .own 90002, .own 90003]), (.vec 1 (p1.fBase.map Ag), .vec 1 (p1.fBase.map Ag)), (.vec 1 (p1.fNext.map Ag), .vec 1 (r.2.1.map Ag)), (.vec 1 (p1.fHeld.map A3), .vec 1 (r.2.2.map A3))] [] (.e (.one (.pure (.val (.bool r.1))))) := by
 unfold GN at h
 refine Gl (n := 70) (rs := [.tmp 6]) Try.func112 rfl rfl rfl (BM rfl) (BM rfl) rfl rfl (BM rfl) rfl (BM rfl) fun w0 S0 GL => ?_
 refine Al (sm [] [(0, .e (.agg [.pure (.sl (p0.fVersions.map Ag)), .pure (.sl (p0.fNow.map Ag)), .pure (.sl (p0.fTarget.map Ag)), .pure (.sl (p0.fTables.map Ai))])), (1, .e (.one (.ptr 90000 0))), (2, .e (.agg [.pure (.val (.int .i64 p2.fKind)), .pure (.val (.int .i64 p2.fIndex)), .pure (.val (.int .i64 p2.fVersion))]))] [(90000, .box [.own 90001, .own 90002, .own 90003]), (90001, .vec 1 (p1.fBase.map Ag)), (90002, .vec 1 (p1.fNext.map Ag)), (90003, .vec 1 (p1.fHeld.map A3))] rfl rfl) (Ab (Aa Ad rfl (qb rfl (qb rfl (qa rfl (Ac (Ab ?_)))))))
 refine AW h (fun v1 => mk [(1, .e (.one (.ptr 90000 0))), (3, .e (.one (.ptr 3 0))), (5, .e (.one (.ptr 5 0))), (30, .e (.one (.pure (.val (.bool v1)))))] [(3, .box [.pure (.sl (p0.fVersions.map Ag)), .pure (.sl (p0.fNow.map Ag)), .pure (.sl (p0.fTarget.map Ag)), .pure (.sl (p0.fTables.map Ai))]), (5, .box [.pure (.val (.int .i64 p2.fKind)), .pure (.val (.int .i64 p2.fIndex)), .pure (.val (.int .i64 p2.fVersion))]), (90000, .box [.own 90001, .own 90002, .own 90003]), (90001, .vec 1 (p1.fBase.map Ag)), (90002, .vec 1 (p1.fNext.map Ag)), (90003, .vec 1 (p1.fHeld.map A3))]) (fun j1 h => ?_) (fun v1 h => ?_)
 ·refine Aa Ad rfl (qm rfl (To rfl (qf By rfl (ql A9 rfl (qf Ex rfl (ql B7 rfl ?_))))))
  obtain ⟨v2, a2, b2, h⟩ := Am h
  refine qI AE C7 a2 (Aj b2) rfl (qj B7 (Aj b2) rfl (Ey rfl (qm rfl ?_)))
  refine AI (t := 18) rfl (fun c3 => ?_) (fun c3 => ?_)
  ·have h := Ao c3 h
   refine qn rfl (qn rfl (qn rfl (qn rfl (qn rfl (qn rfl (qn rfl (qn rfl (qn rfl (qn rfl (qn rfl (qp rfl (A0 (by kernel_rfl) ?_))))))))))))
   exact Aw _ h (sm [] _ _ rfl rfl)
  ·have h := Ap c3 h
   refine qm rfl (To rfl (qf Cy rfl (ql A9 rfl (qf Ex rfl (ql B7 rfl ?_)))))
   obtain ⟨v4, a4, b4, h⟩ := Am h
   refine qI AE C7 a4 (Aj b4) rfl (qj B7 (Aj b4) rfl (qf FW rfl (ql B7 rfl (B4 rfl (qp rfl (A0 (by kernel_rfl) ?_))))))
   exact Aw _ h (sm [] _ _ rfl rfl)
 ·refine As rfl (fun c5 => ?_) (fun c5 => ?_)
  ·have h := Ao c5 h
   refine Ab (Aa Ad rfl (qa rfl (Ac ?_)))
   obtain rfl := sj h
   refine Al (sm [] [(6, .e (.one (.pure (.val (.bool false)))))] [(90000, .box [.own 90001, .own 90002, .own 90003]), (90001, .vec 1 (p1.fBase.map Ag)), (90002, .vec 1 (p1.fNext.map Ag)), (90003, .vec 1 (p1.fHeld.map A3))] rfl rfl) (AC ?_)
   exact ⟨⟨[_], ⟨.tmp _ _ rfl, trivial⟩, rfl⟩, ⟨rfl, rfl, rfl, rfl, trivial⟩, trivial⟩
  ·have h := Ap c5 h
   refine Au (Ab (Aa Ad rfl (qm rfl (To rfl (qf By rfl (ql A9 rfl (qf Ex rfl (ql B7 rfl (qf FW rfl (ql B7 rfl ?_))))))))))
   obtain ⟨v6, a6, b6, h⟩ := Am h
   refine qI AE C7 a6 (Aj b6) rfl ?_
   refine D1 rfl rfl rfl rfl (Aj b6) rfl C7 rfl (BM rfl) (DO Ag p1.fNext _ p2.fVersion) ?_
   refine A0 (by kernel_rfl) (Ab (Ab (Aa Ad rfl (qf CH rfl (ql Gw rfl (AS DV rfl (qm rfl (Ac ?_))))))))
   refine AR (L := Do N p0 p2) h (fun v7 => mk [(1, .e (.one (.ptr 90000 0))), (5, .e (.one (.ptr 5 0))), (41, .e (.one (.pure (.sl (p0.fTables.map Ai))))), (42, .e (.one (.pure (.val (.int .i64 ((p0.fTables.length : Int))))))), (43, .e (.one (.pure (.val (.int .i64 v7.2)))))] [(5, .box [.pure (.val (.int .i64 p2.fKind)), .pure (.val (.int .i64 p2.fIndex)), .pure (.val (.int .i64 p2.fVersion))]), (90000, .box [.own 90001, .own 90002, .own 90003]), (90001, .vec 1 (p1.fBase.map Ag)), (90002, .vec 1 ((p1.fNext.set ((p2.fIndex).toNat) p2.fVersion).map Ag)), (90003, .vec 1 (v7.1.map A3))]) (fun v8 => mk [] [(90000, .box [.own 90001, .own 90002, .own 90003]), (90001, .vec 1 (p1.fBase.map Ag)), (90002, .vec 1 ((p1.fNext.set ((p2.fIndex).toNat) p2.fVersion).map Ag)), (90003, .vec 1 (v8.map A3))]) (fun _ _ => rfl) (sm [] _ _ rfl rfl) (fun j7 n7 v7 h => ?_) (fun v8 s h hs => ?_)
   ·unfold Do at h
    refine Ab (Aa Ad rfl (A8 rfl (Ac (Ab ?_))))
    refine As rfl (fun c9 => ?_) (fun c9 => ?_)
    ·have h := Ao c9 h
     refine Au ?_
     refine AW h (fun v10 => mk [(1, .e (.one (.ptr 90000 0))), (5, .e (.one (.ptr 5 0))), (41, .e (.one (.pure (.sl (p0.fTables.map Ai))))), (42, .e (.one (.pure (.val (.int .i64 ((p0.fTables.length : Int))))))), (43, .e (.one (.pure (.val (.int .i64 v7.2)))))] [(5, .box [.pure (.val (.int .i64 p2.fKind)), .pure (.val (.int .i64 p2.fIndex)), .pure (.val (.int .i64 p2.fVersion))]), (90000, .box [.own 90001, .own 90002, .own 90003]), (90001, .vec 1 (p1.fBase.map Ag)), (90002, .vec 1 ((p1.fNext.set ((p2.fIndex).toNat) p2.fVersion).map Ag)), (90003, .vec 1 (v10.map A3))]) (fun j10 h => ?_) (fun v10 h => ?_)
     ·refine AU (Ab (Aa Ad rfl (qm rfl ?_)))
      obtain ⟨v11, a11, b11, h⟩ := Am h
      refine qi DV DJ a11 (Aj b11) rfl (qK Gf DJ rfl (qz Jd rfl (qa rfl (qs DJ rfl (Ac ?_)))))
      refine AW h (fun v12 => mk [(1, .e (.one (.ptr 90000 0))), (5, .e (.one (.ptr 5 0))), (7, .e (.one (.pure (.val (.int .i64 v7.2))))), (41, .e (.one (.pure (.sl (p0.fTables.map Ai))))), (42, .e (.one (.pure (.val (.int .i64 ((p0.fTables.length : Int))))))), (43, .e (.one (.pure (.val (.int .i64 v7.2))))), (56, .e (.one (.pure (.val (.bool v12)))))] [(5, .box [.pure (.val (.int .i64 p2.fKind)), .pure (.val (.int .i64 p2.fIndex)), .pure (.val (.int .i64 p2.fVersion))]), (90000, .box [.own 90001, .own 90002, .own 90003]), (90001, .vec 1 (p1.fBase.map Ag)), (90002, .vec 1 ((p1.fNext.set ((p2.fIndex).toNat) p2.fVersion).map Ag)), (90003, .vec 1 (v7.1.map A3))]) (fun j12 h => ?_) (fun v12 h => ?_)
      ·refine Aa Ad rfl (qf CQ rfl (ql B7 rfl (qf Ex rfl (ql B7 rfl (B4 rfl (qm rfl ?_))))))
       refine AI (t := 53) rfl (fun c13 => ?_) (fun c13 => ?_)
       ·have h := Ao c13 h
        refine qL Gf DJ rfl ?_
        obtain ⟨v14, a14, h⟩ := bind_some h
        refine AK [] (J0 N v11 v14 a14) UC rfl (qp rfl (Ac ?_))
        exact Aw _ h (sm [] _ _ rfl rfl)
       ·have h := Ap c13 h
        refine qn rfl (qn rfl (qp rfl (Ac ?_)))
        exact Aw _ h (sm [] _ _ rfl rfl)
      ·refine As rfl (fun c15 => ?_) (fun c15 => ?_)
       ·have h := Ao c15 h
        refine Aa Ad rfl (qm rfl (To rfl (qf Cz rfl (ql Gd rfl (qm rfl ?_)))))
        obtain ⟨v16, a16, b16, h⟩ := Am h
        refine qI Dm Fn a16 (Aj b16) rfl (qj Jz (Aj b16) rfl (qf FW rfl (ql B7 rfl ?_)))
        obtain ⟨c17, h⟩ := AN h
        refine H0 rfl c17 (Rq rfl ?_)
        obtain ⟨v18, a18, b18, h⟩ := Am h
        refine qI Dm Fn a18 (Aj b18) rfl ?_
        refine D1 rfl rfl rfl rfl (Aj b18) rfl Fn rfl (BM rfl) (DO A3 v7.1 _ ((Lg .u8 v16 ((Dz .u8 1 p2.fVersion))))) ?_
        refine A0 (by kernel_rfl) ?_
        exact Aw _ h (sm [] _ _ rfl rfl)
       ·have h := Ap c15 h
        refine Au ?_
        exact Aw _ h (sm [] _ _ rfl rfl)
     ·refine Aa Ad rfl (Bp rfl (qm rfl (Ac ?_)))
      exact Aw _ h (sm [] _ _ rfl rfl)
    ·have h := Ap c9 h
     refine A5 ?_
     exact Aw _ h (sm [] _ _ rfl rfl)
   ·refine Al hs (Ab (Aa Ad rfl (qa rfl (Ac ?_))))
    obtain rfl := sj h
    refine Al (sm [] [(6, .e (.one (.pure (.val (.bool true)))))] [(90000, .box [.own 90001, .own 90002, .own 90003]), (90001, .vec 1 (p1.fBase.map Ag)), (90002, .vec 1 ((p1.fNext.set ((p2.fIndex).toNat) p2.fVersion).map Ag)), (90003, .vec 1 (v8.map A3))] rfl rfl) (AC ?_)
    exact ⟨⟨[_], ⟨.tmp _ _ rfl, trivial⟩, rfl⟩, ⟨rfl, rfl, rfl, rfl, trivial⟩, trivial⟩
set_option maxRecDepth 10000 in
theorem Ms (N : Nat) (p0 : Ah) (p1 : Int) (r : Int) (h : Fc N p0 p1 = some r) : AB Try.prog 120 [.e (.agg [.pure (.sl (p0.fBase.map Ag)), .pure (.sl (p0.fNext.map Ag)), .pure (.sl (p0.fHeld.map A3))]), .e (.one (.pure (.val (.int .i64 p1))))] [] (.e (.one (.pure (.val (.int .u8 r))))) := by
 unfold Fc at h
 refine Aq (n := 27) (rs := [.tmp 4]) Try.func120 rfl rfl rfl (BM rfl) (BM rfl) rfl fun w0 S0 => ?_
 refine Ab (Aa Ad rfl (qb rfl (qa rfl (Ac (Ab (Aa Ad rfl (qf Cy rfl (ql A9 rfl (qm rfl ?_)))))))))
 obtain ⟨v1, a1, b1, h⟩ := Am h
 refine qi AE C7 a1 (Aj b1) rfl (qk B7 rfl ?_)
 obtain ⟨c2, h⟩ := AN h
 refine H0 rfl c2 (qa rfl (Ac ?_))
 refine AW h (fun v3 => mk [(5, .e (.one (.pure (.val (.int .u8 v3)))))] []) (fun j3 h => ?_) (fun v3 h => ?_)
 ·refine Ab (Aa Ad rfl (qf By rfl (ql A9 rfl (qm rfl ?_))))
  obtain ⟨v4, a4, b4, h⟩ := Am h
  refine qi AE C7 a4 (Aj b4) rfl (qk B7 rfl (Ey rfl (Ac ?_)))
  refine As rfl (fun c5 => ?_) (fun c5 => ?_)
  ·have h := Ao c5 h
   refine Aa Ad rfl (qm rfl (qf By rfl (ql A9 rfl (qm rfl ?_))))
   obtain ⟨v6, a6, b6, h⟩ := Am h
   refine qi AE C7 a6 (Aj b6) rfl (qk B7 rfl ?_)
   obtain ⟨c7, h⟩ := AN h
   refine H0 rfl c7 (Rq rfl (qa rfl (Ac ?_)))
   exact Aw _ h (sm [] _ _ rfl rfl)
  ·have h := Ap c5 h
   refine Au ?_
   exact Aw _ h (sm [] _ _ rfl rfl)
 ·refine Ab (Aa Ad rfl (qm rfl (qa rfl (Ac ?_))))
  obtain rfl := sj h
  refine Al (sm [] [(4, .e (.one (.pure (.val (.int .u8 v3)))))] [] rfl rfl) (AC ?_)
  exact ⟨⟨[_], ⟨.tmp _ _ rfl, trivial⟩, rfl⟩, trivial⟩
set_option maxRecDepth 10000 in
theorem HE (N : Nat) (p0 : Int) (r : Int) (h : CM N p0 = some r) : AB Try.prog 123 [.e (.one (.pure (.val (.int .u8 p0))))] [] (.e (.one (.pure (.val (.int .i64 r))))) := by
 unfold CM at h
 refine Aq (n := 6) (rs := [.tmp 2]) Try.func123 rfl rfl rfl (BM rfl) (BM rfl) rfl fun w0 S0 => ?_
 refine Ab (Aa Ad rfl (qa rfl (Ac (Ab (Aa Ad rfl (qm rfl ?_))))))
 obtain ⟨v1, a1, h⟩ := bind_some h
 refine RB (.p rfl) rfl rfl WR a1 ?_
 refine HT Vr T8 rfl (qa rfl (Ac ?_))
 obtain rfl := sj h
 refine Al (sm [] [(2, .e (.one (.pure (.val (.int .i64 ((IntKind.wrap .i64 v1)))))))] [] rfl rfl) (AC ?_)
 exact ⟨⟨[_], ⟨.tmp _ _ rfl, trivial⟩, rfl⟩, trivial⟩
set_option maxRecDepth 10000 in
theorem K4 (N : Nat) (p0 : AF) (p1 : Int) (p2 : Int) (r : Bool) (h : E5 N p0 p1 p2 = some r) : AB Try.prog 121 [.e (.agg [.pure (.val (.int .i64 p0.fKind)), .pure (.val (.int .i64 p0.fFrom)), .pure (.val (.int .i64 p0.fTo)), .pure (.val (.bool p0.fAware)), .pure (.sl (p0.fOK.map (Ep eB))), .pure (.sl (p0.fRewrite.map (Ep eB)))]), .e (.one (.pure (.val (.int .u8 p1)))), .e (.one (.pure (.val (.int .i64 p2))))] [] (.e (.one (.pure (.val (.bool r))))) := by
 unfold E5 at h
 refine Aq (n := 25) (rs := [.tmp 6]) Try.func121 rfl rfl rfl (BM rfl) (BM rfl) rfl fun w0 S0 => ?_
 refine Ab (Aa Ad rfl (qb rfl (qa rfl (Ac (Ab (Ab (Aa Ad rfl (qm rfl (qa rfl (Ac ?_))))))))))
 refine AR (L := Db N p0 p2) h (fun v1 => mk [(2, .e (.one (.pure (.val (.int .i64 p2))))), (3, .e (.one (.ptr 3 0))), (7, .e (.one (.pure (.val (.int .u8 v1)))))] [(3, .box [.pure (.val (.int .i64 p0.fKind)), .pure (.val (.int .i64 p0.fFrom)), .pure (.val (.int .i64 p0.fTo)), .pure (.val (.bool p0.fAware)), .pure (.sl (p0.fOK.map (Ep eB))), .pure (.sl (p0.fRewrite.map (Ep eB)))])]) (fun v2 => mk [] []) (fun _ _ => rfl) (sm [] _ _ rfl rfl) (fun j1 n1 v1 h => ?_) (fun v2 s h hs => ?_)
 ·unfold Db at h
  refine Ab (Ab (Aa Ad rfl (qm rfl (CD rfl (Ac ?_)))))
  refine As rfl (fun c3 => ?_) (fun c3 => ?_)
  ·have h := Ao c3 h
   refine Au (Ab (AU (Ab (Aa Ad rfl (qf FU rfl (ql IZ rfl (qm rfl ?_)))))))
   obtain ⟨v4, a4, h⟩ := bind_some h
   refine AK [] (HE N v1 v4 a4) Wp rfl ?_
   obtain ⟨v5, a5, b5, h⟩ := Am h
   refine qi FF LW a5 (Aj b5) rfl (qk Ou rfl (qm rfl ?_))
   obtain ⟨v6, a6, b6, h⟩ := Am h
   refine qi FN Pc a6 (Aj b6) rfl (qk Rj rfl (CE rfl (A0 (by kernel_rfl) ?_)))
   refine As rfl (fun c7 => ?_) (fun c7 => ?_)
   ·have h := Ao c7 h
    refine Ab (Aa Ad rfl (qa rfl (Ac ?_)))
    obtain rfl := sj h
    refine Al (sm [] [(6, .e (.one (.pure (.val (.bool false)))))] [] rfl rfl) (AC ?_)
    exact ⟨⟨[_], ⟨.tmp _ _ rfl, trivial⟩, rfl⟩, trivial⟩
   ·have h := Ap c7 h
    refine Au (Aa Ad rfl (qm rfl (qm rfl (Nu rfl (K9 rfl (qa rfl (Ac ?_)))))))
    exact Aw _ h (sm [] _ _ rfl rfl)
  ·have h := Ap c3 h
   refine A5 ?_
   exact Aw _ h (sm [] _ _ rfl rfl)
 ·refine Al hs (Ab (Aa Ad rfl (qa rfl (Ac ?_))))
  obtain rfl := sj h
  refine Al (sm [] [(6, .e (.one (.pure (.val (.bool true)))))] [] rfl rfl) (AC ?_)
  exact ⟨⟨[_], ⟨.tmp _ _ rfl, trivial⟩, rfl⟩, trivial⟩
set_option maxRecDepth 10000 in
theorem Ox (N : Nat) (p0 : Ae) (p1 : Ah) (p2 : Int) (r : Bool × (List Int)) (h : FR N p0 p1 p2 = some r) : FC Try.prog 113 [.e (.agg [.pure (.sl (p0.fVersions.map Ag)), .pure (.sl (p0.fNow.map Ag)), .pure (.sl (p0.fTarget.map Ag)), .pure (.sl (p0.fTables.map Ai))]), .e (.one (.ptr 90000 0)), .e (.one (.pure (.val (.int .i64 p2))))] [(.box [.own 90001, .own 90002, .own 90003], .box [.own 90001, .own 90002, .own 90003]), (.vec 1 (p1.fBase.map Ag), .vec 1 (p1.fBase.map Ag)), (.vec 1 (p1.fNext.map Ag), .vec 1 (p1.fNext.map Ag)), (.vec 1 (p1.fHeld.map A3), .vec 1 (r.2.map A3))] [] (.e (.one (.pure (.val (.bool r.1))))) := by
 unfold FR at h
 refine Gl (n := 68) (rs := [.tmp 6]) Try.func113 rfl rfl rfl (BM rfl) (BM rfl) rfl rfl (BM rfl) rfl (BM rfl) fun w0 S0 GL => ?_
 refine Al (sm [] [(0, .e (.agg [.pure (.sl (p0.fVersions.map Ag)), .pure (.sl (p0.fNow.map Ag)), .pure (.sl (p0.fTarget.map Ag)), .pure (.sl (p0.fTables.map Ai))])), (1, .e (.one (.ptr 90000 0))), (2, .e (.one (.pure (.val (.int .i64 p2)))))] [(90000, .box [.own 90001, .own 90002, .own 90003]), (90001, .vec 1 (p1.fBase.map Ag)), (90002, .vec 1 (p1.fNext.map Ag)), (90003, .vec 1 (p1.fHeld.map A3))] rfl rfl) (Ab (Aa Ad rfl (qb rfl (qa rfl (Ac (Ab (Aa Ad rfl (qf CH rfl (ql Gw rfl (qm rfl ?_))))))))))
 obtain ⟨v1, a1, b1, h⟩ := Am h
 refine qi DV DJ a1 (Aj b1) rfl (qK Gf DJ rfl (qz Jd rfl (qs DJ rfl (Ac (Ab (Ab (Aa Ad rfl (qL Gf DJ rfl ?_))))))))
 obtain ⟨v2, a2, h⟩ := bind_some h
 refine AK [] (J0 N v1 v2 a2) UC rfl (CE rfl (Ac ?_))
 refine As rfl (fun c3 => ?_) (fun c3 => ?_)
 ·have h := Ao c3 h
  refine Ab (Aa Ad rfl (qa rfl (Ac ?_)))
  obtain rfl := sj h
  refine Al (sm [] [(6, .e (.one (.pure (.val (.bool false)))))] [(90000, .box [.own 90001, .own 90002, .own 90003]), (90001, .vec 1 (p1.fBase.map Ag)), (90002, .vec 1 (p1.fNext.map Ag)), (90003, .vec 1 (p1.fHeld.map A3))] rfl rfl) (AC ?_)
  exact ⟨⟨[_], ⟨.tmp _ _ rfl, trivial⟩, rfl⟩, ⟨rfl, rfl, rfl, rfl, trivial⟩, trivial⟩
 ·have h := Ap c3 h
  refine Au (Ab (Aa Ad rfl (qm rfl (To rfl (qL Bq AT rfl (qf CQ rfl (ql B7 rfl ?_)))))))
  obtain ⟨v4, a4, h⟩ := bind_some h
  refine Ed [] [90001, 90002, 90003] (Ms N p1 v1.fFrom v4 a4) WY CO rfl (qa rfl (A0 (by kernel_rfl) (Ab (Aa Ad rfl (qm rfl (To rfl (qf Cz rfl (ql Gd rfl (qm rfl ?_)))))))))
  obtain ⟨v5, a5, b5, h⟩ := Am h
  refine qI Dm Fn a5 (Aj b5) rfl (qj Jz (Aj b5) rfl (qm rfl (HJ rfl (qa rfl (Ac (Ab ?_))))))
  refine AW h (fun v6 => mk [(1, .e (.one (.ptr 90000 0))), (2, .e (.one (.pure (.val (.int .i64 p2))))), (8, .e (.one (.pure (.val (.int .u8 v4))))), (60, .e (.one (.pure (.val (.bool v6)))))] [(90000, .box [.own 90001, .own 90002, .own 90003]), (90001, .vec 1 (p1.fBase.map Ag)), (90002, .vec 1 (p1.fNext.map Ag)), (90003, .vec 1 (p1.fHeld.map A3))]) (fun j6 h => ?_) (fun v6 h => ?_)
  ·refine Aa Ad rfl (qm rfl (To rfl (qf Cz rfl (ql Gd rfl (qm rfl ?_)))))
   obtain ⟨v7, a7, b7, h⟩ := Am h
   refine qI Dm Fn a7 (Aj b7) rfl (qj Jz (Aj b7) rfl (qm rfl (B4 rfl (qm rfl ?_))))
   refine AI (t := 42) rfl (fun c8 => ?_) (fun c8 => ?_)
   ·have h := Ao c8 h
    refine qn rfl (qn rfl (qn rfl (qn rfl (qu rfl (qu rfl (qu rfl (qu rfl (qu rfl (qu rfl (qu rfl (qu rfl (qu rfl (qu rfl (qu rfl (qu rfl (qn rfl (qp rfl (A0 (by kernel_rfl) ?_))))))))))))))))))
    exact Aw _ h (sm [] _ _ rfl rfl)
   ·have h := Ap c8 h
    refine qf Fm rfl (ql B7 rfl (B4 rfl (qm rfl ?_)))
    refine AI (t := 46) rfl (fun c9 => ?_) (fun c9 => ?_)
    ·have h := Ao c9 h
     refine qL Gf DJ rfl (qm rfl (qm rfl (To rfl (qf Cy rfl (ql A9 rfl (qf CQ rfl (ql B7 rfl ?_)))))))
     obtain ⟨v10, a10, b10, h⟩ := Am h
     refine qI AE C7 a10 (Aj b10) rfl (qj B7 (Aj b10) rfl ?_)
     obtain ⟨v11, a11, h⟩ := bind_some h
     refine AK [] (K4 N v1 ((CX .u8 v5 v4)) v10 v11 a11) VY rfl (CE rfl (qp rfl (qp rfl (A0 (by kernel_rfl) ?_))))
     exact Aw _ h (sm [] _ _ rfl rfl)
    ·have h := Ap c9 h
     refine qn rfl (qn rfl (qn rfl (qn rfl (qn rfl (qn rfl (qn rfl (qn rfl (qn rfl (qn rfl (qn rfl (qn rfl (qp rfl (qp rfl (A0 (by kernel_rfl) ?_))))))))))))))
     exact Aw _ h (sm [] _ _ rfl rfl)
  ·refine As rfl (fun c12 => ?_) (fun c12 => ?_)
   ·have h := Ao c12 h
    refine Ab (Aa Ad rfl (qa rfl (Ac ?_)))
    obtain rfl := sj h
    refine Al (sm [] [(6, .e (.one (.pure (.val (.bool false)))))] [(90000, .box [.own 90001, .own 90002, .own 90003]), (90001, .vec 1 (p1.fBase.map Ag)), (90002, .vec 1 (p1.fNext.map Ag)), (90003, .vec 1 (p1.fHeld.map A3))] rfl rfl) (AC ?_)
    exact ⟨⟨[_], ⟨.tmp _ _ rfl, trivial⟩, rfl⟩, ⟨rfl, rfl, rfl, rfl, trivial⟩, trivial⟩
   ·have h := Ap c12 h
    refine Au (Ab (Aa Ad rfl (qm rfl (To rfl (qf Cz rfl (ql Gd rfl (qm rfl (qm rfl ?_))))))))
    obtain ⟨v13, a13, b13, h⟩ := Am h
    refine qI Dm Fn a13 (Aj b13) rfl ?_
    refine D1 rfl rfl rfl rfl (Aj b13) rfl Fn rfl (BM rfl) (DO A3 p1.fHeld _ v4) ?_
    refine Ac (Ab (Aa Ad rfl (qa rfl (Ac ?_))))
    obtain rfl := sj h
    refine Al (sm [] [(6, .e (.one (.pure (.val (.bool true)))))] [(90000, .box [.own 90001, .own 90002, .own 90003]), (90001, .vec 1 (p1.fBase.map Ag)), (90002, .vec 1 (p1.fNext.map Ag)), (90003, .vec 1 ((p1.fHeld.set ((p2).toNat) v4).map A3))] rfl rfl) (AC ?_)
    exact ⟨⟨[_], ⟨.tmp _ _ rfl, trivial⟩, rfl⟩, ⟨rfl, rfl, rfl, rfl, trivial⟩, trivial⟩
set_option maxRecDepth 10000 in
theorem KJ (N : Nat) (p0 : Ae) (p1 : Ah) (p2 : Af) (r : Ah × Bool) (h : EG N p0 p1 p2 = some r) : AB Try.prog 102 [.e (.agg [.pure (.sl (p0.fVersions.map Ag)), .pure (.sl (p0.fNow.map Ag)), .pure (.sl (p0.fTarget.map Ag)), .pure (.sl (p0.fTables.map Ai))]), .e (.agg [.pure (.sl (p1.fBase.map Ag)), .pure (.sl (p1.fNext.map Ag)), .pure (.sl (p1.fHeld.map A3))]), .e (.agg [.pure (.val (.int .i64 p2.fKind)), .pure (.val (.int .i64 p2.fIndex)), .pure (.val (.int .i64 p2.fVersion))])] [(1, r.1.fBase.map Ag), (1, r.1.fNext.map Ag), (1, r.1.fHeld.map A3)] (.tup [.agg [.own 0, .own 1, .own 2], .one (.pure (.val (.bool r.2)))]) := by
 unfold EG at h
 refine Aq (n := 51) (rs := [.cell 6 43, .tmp 7]) Try.func102 rfl rfl rfl (BM rfl) (BM rfl) rfl fun w0 S0 => ?_
 refine Ab (Aa Ad rfl (qb rfl (qb rfl (qb rfl (qz Di rfl (qa rfl (Ac (Ab (Aa Ad rfl (qL Bq AT rfl ?_))))))))))
 obtain ⟨v1, a1, h⟩ := bind_some h
 refine AK [2001, 2002, 2003] (Nc N p1 v1 a1) XV rfl (qz Di rfl (qs AT rfl (Ac (Ab (Ab (Aa Ad rfl (qf EO rfl (ql B7 rfl (Ac (AU (Ab (Aa Ad rfl (B4 rfl (qa rfl (Ac ?_)))))))))))))))
 refine As rfl (fun c2 => ?_) (fun c2 => ?_)
 ·have h := Ao c2 h
  refine Ab (Aa Ad rfl (qL Bq AT rfl (qL DM Dw rfl (qL GB Dj rfl ?_))))
  obtain ⟨v3, a3, h⟩ := bind_some h
  refine L1 (ds0 := [_, _, _]) [8, 2001, 2002, 2003] [] [false, false, true, true] (OD N p0 v1 p2 v3 a3) (.p rfl) WT rfl ⟨rfl, rfl, rfl, trivial⟩ rfl rfl (by decide) ⟨rfl, rfl, rfl, rfl, trivial⟩ rfl (H4 rfl) trivial ⟨(fun _ => rfl), (fun _ => rfl), (fun h => by cases h), (fun h => by cases h), trivial⟩ rfl rfl rfl ?_
  refine qs AT rfl (qa rfl (A0 (by kernel_rfl) ?_))
  obtain rfl := sj h
  refine Al (sm [(1000, 2001), (1001, 2002), (1002, 2003)] [(6, .e (.one (.ptr 6 0))), (7, .e (.one (.pure (.val (.bool v3.1)))))] [(6, .box [.own 1000, .own 1001, .own 1002]), (1000, .vec 1 (v1.fBase.map Ag)), (1001, .vec 1 (v3.2.1.map Ag)), (1002, .vec 1 (v3.2.2.map A3))] rfl rfl) (AC ?_)
  exact ⟨⟨[_, _], ⟨.cellN _ _ _ _ _ _ _ rfl rfl Bq AT rfl rfl (Hm rfl), ⟨.tmp _ _ rfl, trivial⟩⟩, rfl⟩, ⟨rfl, rfl, rfl, trivial⟩⟩
 ·have h := Ap c2 h
  refine Ab (Aa Ad rfl (B4 rfl (qa rfl (Ac ?_))))
  refine As rfl (fun c4 => ?_) (fun c4 => ?_)
  ·have h := Ao c4 h
   refine Ab (Aa Ad rfl (qL Bq AT rfl (qL DM Dw rfl (qf Ex rfl (ql B7 rfl ?_)))))
   obtain ⟨v5, a5, h⟩ := bind_some h
   refine L1 (ds0 := [_, _, _]) [8, 2001, 2002, 2003] [] [false, false, false, true] (Ox N p0 v1 p2.fIndex v5 a5) (.p rfl) We rfl ⟨rfl, rfl, rfl, trivial⟩ rfl rfl (by decide) ⟨rfl, rfl, rfl, rfl, trivial⟩ rfl (H4 rfl) trivial ⟨(fun _ => rfl), (fun _ => rfl), (fun _ => rfl), (fun h => by cases h), trivial⟩ rfl rfl rfl ?_
   refine qs AT rfl (qa rfl (A0 (by kernel_rfl) ?_))
   obtain rfl := sj h
   refine Al (sm [(1000, 2001), (1001, 2002), (1002, 2003)] [(6, .e (.one (.ptr 6 0))), (7, .e (.one (.pure (.val (.bool v5.1)))))] [(6, .box [.own 1000, .own 1001, .own 1002]), (1000, .vec 1 (v1.fBase.map Ag)), (1001, .vec 1 (v1.fNext.map Ag)), (1002, .vec 1 (v5.2.map A3))] rfl rfl) (AC ?_)
   exact ⟨⟨[_, _], ⟨.cellN _ _ _ _ _ _ _ rfl rfl Bq AT rfl rfl (Hm rfl), ⟨.tmp _ _ rfl, trivial⟩⟩, rfl⟩, ⟨rfl, rfl, rfl, trivial⟩⟩
  ·have h := Ap c4 h
   refine Au (Ab (Aa Ad rfl (qf By rfl (ql A9 rfl (qf Ex rfl (ql B7 rfl ?_))))))
   obtain ⟨v6, a6, b6, h⟩ := Am h
   refine qI AE C7 a6 (Aj b6) rfl (qj B7 (Aj b6) rfl (qa rfl (Ac (Ab (Ab (Aa Ad rfl (qm rfl (A8 rfl (Ac ?_)))))))))
   refine As rfl (fun c7 => ?_) (fun c7 => ?_)
   ·have h := Ao c7 h
    refine Ab (Aa Ad rfl (qL Bq AT rfl (qs AT rfl (qa rfl (Ac ?_)))))
    obtain rfl := sj h
    refine Al (sm [(1000, 2001), (1001, 2002), (1002, 2003)] [(6, .e (.one (.ptr 6 0))), (7, .e (.one (.pure (.val (.bool false)))))] [(6, .box [.own 1000, .own 1001, .own 1002]), (1000, .vec 1 (v1.fBase.map Ag)), (1001, .vec 1 (v1.fNext.map Ag)), (1002, .vec 1 (v1.fHeld.map A3))] rfl rfl) (AC ?_)
    exact ⟨⟨[_, _], ⟨.cellN _ _ _ _ _ _ _ rfl rfl Bq AT rfl rfl (Hm rfl), ⟨.tmp _ _ rfl, trivial⟩⟩, rfl⟩, ⟨rfl, rfl, rfl, trivial⟩⟩
   ·have h := Ap c7 h
    refine Au (Ab (Aa Ad rfl (qf By rfl (ql A9 rfl (qf Ex rfl (ql B7 rfl ?_))))))
    obtain ⟨v8, a8, b8, h⟩ := Am h
    refine qI AE C7 a8 (Aj b8) rfl ?_
    refine D1 rfl rfl rfl rfl (Aj b8) rfl C7 rfl (BM rfl) (DO Ag v1.fNext _ ((-1))) ?_
    refine Ac ?_
    refine AW h (fun v9 => mk [(6, .e (.one (.ptr 6 0))), (8, .e (.one (.ptr 8 0)))] [(6, .box [.pure (.nil0), .pure (.nil0), .pure (.nil0)]), (8, .box [.own 2004, .own 2005, .own 2006]), (2004, .vec 1 (v9.map Ag)), (2005, .vec 1 ((v1.fNext.set ((p2.fIndex).toNat) ((-1))).map Ag)), (2006, .vec 1 (v1.fHeld.map A3))]) (fun j9 h => ?_) (fun v9 h => ?_)
    ·refine Ab (Aa Ad rfl (qf EO rfl (ql B7 rfl (B4 rfl (Ac ?_)))))
     refine As rfl (fun c10 => ?_) (fun c10 => ?_)
     ·have h := Ao c10 h
      refine Aa Ad rfl (qf Cy rfl (ql A9 rfl (qf Ex rfl (ql B7 rfl (qm rfl ?_)))))
      obtain ⟨v11, a11, b11, h⟩ := Am h
      refine qI AE C7 a11 (Aj b11) rfl ?_
      refine D1 rfl rfl rfl rfl (Aj b11) rfl C7 rfl (BM rfl) (DO Ag v1.fBase _ v6) ?_
      refine Ac ?_
      exact Aw _ h (sm [(2004, 2001), (2005, 2002), (2006, 2003)] _ _ rfl rfl)
     ·have h := Ap c10 h
      refine Au ?_
      exact Aw _ h (sm [(2004, 2001), (2005, 2002), (2006, 2003)] _ _ rfl rfl)
    ·refine Ab (Aa Ad rfl (qL Bq AT rfl (qs AT rfl (qa rfl (Ac ?_)))))
     obtain rfl := sj h
     refine Al (sm [(1000, 2004), (1001, 2005), (1002, 2006)] [(6, .e (.one (.ptr 6 0))), (7, .e (.one (.pure (.val (.bool true)))))] [(6, .box [.own 1000, .own 1001, .own 1002]), (1000, .vec 1 (v9.map Ag)), (1001, .vec 1 ((v1.fNext.set ((p2.fIndex).toNat) ((-1))).map Ag)), (1002, .vec 1 (v1.fHeld.map A3))] rfl rfl) (AC ?_)
     exact ⟨⟨[_, _], ⟨.cellN _ _ _ _ _ _ _ rfl rfl Bq AT rfl rfl (Hm rfl), ⟨.tmp _ _ rfl, trivial⟩⟩, rfl⟩, ⟨rfl, rfl, rfl, trivial⟩⟩
set_option maxRecDepth 10000 in
theorem Li (N : Nat) (p0 : Af) (p1 : List Int) (p2 : List Int) (p3 : List Int) (p4 : List AF) (p5 : List Int) (p6 : List Int) (p7 : List Int) (r : Bool) (h : C3 N p0 p1 p2 p3 p4 p5 p6 p7 = some r) : AB Try.prog 105 [.e (.agg [.pure (.val (.int .i64 p0.fKind)), .pure (.val (.int .i64 p0.fIndex)), .pure (.val (.int .i64 p0.fVersion))]), .e (.one (.rop [.sl (p1.map Ag), .sl (p2.map Ag), .sl (p3.map Ag), .sl (p4.map Ai)])), .e (.one (.rop [.sl (p5.map Ag), .sl (p6.map Ag), .sl (p7.map A3)]))] [] (.e (.one (.pure (.val (.bool r))))) := by
 unfold C3 at h
 refine Aq (n := 16) (rs := [.tmp 4]) Try.func105 rfl rfl rfl (BM rfl) (BM rfl) rfl fun w0 S0 => ?_
 refine Ab (Aa Ad rfl (qb rfl (qa rfl (Ac (Ab (Aa Ad rfl (qK DM Dw rfl (qK Bq AT rfl (qL GB Dj rfl ?_)))))))))
 obtain ⟨v1, a1, h⟩ := bind_some h
 refine AK [2001, 2002, 2003] (KJ N ((Ae.mk p1 p2 p3 p4)) ((Ah.mk p5 p6 p7)) p0 v1 a1) UG rfl (qm rfl (qx rfl (qx rfl (qz Di rfl (qs AT rfl (qa rfl (Ac (Ab (Aa Ad rfl (qm rfl (CE rfl (qa rfl (Ac ?_)))))))))))))
 obtain rfl := sj h
 refine Al (sm [] [(4, .e (.one (.pure (.val (.bool ((!v1.2)))))))] [] rfl rfl) (AC ?_)
 exact ⟨⟨[_], ⟨.tmp _ _ rfl, trivial⟩, rfl⟩, trivial⟩
set_option maxRecDepth 10000 in
theorem FG (N : Nat) (p0 : List Af) (p1 : Af → Option Bool) (r : Int) (h : BI N p0 p1 = some r) : AB Try.prog 114 [.e (.one (.pure (.sl (p0.map Ay)))), .e (.one (.clo (If (L0 true Ay) tB p1)))] [] (.e (.one (.pure (.val (.int .i64 r))))) := by
 unfold BI at h
 refine Aq (n := 19) (rs := [.tmp 4]) Try.func114 rfl rfl rfl (BM rfl) (BM rfl) rfl fun w0 S0 => ?_
 refine Ab (Aa Ad rfl (qa rfl (Ac (Ab (Ab (Aa Ad rfl (qm rfl (AS CU rfl (qm rfl (Ac ?_))))))))))
 refine AR (L := A2 N p0 p1) h (fun v1 => mk [(0, .e (.one (.pure (.sl (p0.map Ay))))), (1, .e (.one (.clo (If (L0 true Ay) tB p1)))), (7, .e (.one (.pure (.val (.int .i64 ((p0.length : Int))))))), (8, .e (.one (.pure (.val (.int .i64 v1)))))] []) (fun v2 => mk [] []) (fun _ _ => rfl) (sm [] _ _ rfl rfl) (fun j1 n1 v1 h => ?_) (fun v2 s h hs => ?_)
 ·unfold A2 at h
  refine Ab (Aa Ad rfl (A8 rfl (Ac (Ab ?_))))
  refine As rfl (fun c3 => ?_) (fun c3 => ?_)
  ·have h := Ao c3 h
   refine Au (Ab (AU (Ab (Aa Ad rfl (qm rfl (qa rfl (Ac (Ab (Aa Ad rfl (qm rfl (qm rfl (qm rfl ?_))))))))))))
   obtain ⟨v4, a4, b4, h⟩ := Am h
   refine qi CU Dj a4 (Aj b4) rfl (qK GB Dj rfl ?_)
   obtain ⟨v5, a5, h⟩ := bind_some h
   refine Kr (ds0 := [_]) (ar := (L0 true Ay) v4) (.p rfl) rfl rfl ⟨rfl, trivial⟩ rfl rfl rfl (KV (Ku _ _ Mq) a5) ?_
   refine Ac ?_
   refine As rfl (fun c6 => ?_) (fun c6 => ?_)
   ·have h := Ao c6 h
    refine Ab (Aa Ad rfl (qm rfl (qa rfl (Ac ?_))))
    obtain rfl := sj h
    refine Al (sm [] [(4, .e (.one (.pure (.val (.int .i64 v1)))))] [] rfl rfl) (AC ?_)
    exact ⟨⟨[_], ⟨.tmp _ _ rfl, trivial⟩, rfl⟩, trivial⟩
   ·have h := Ap c6 h
    refine Au (Aa Ad rfl (Bp rfl (qm rfl (Ac ?_))))
    exact Aw _ h (sm [] _ _ rfl rfl)
  ·have h := Ap c3 h
   refine A5 ?_
   exact Aw _ h (sm [] _ _ rfl rfl)
 ·refine Al hs (Ab (Aa Ad rfl (qa rfl (Ac ?_))))
  obtain rfl := sj h
  refine Al (sm [] [(4, .e (.one (.pure (.val (.int .i64 ((-1)))))))] [] rfl rfl) (AC ?_)
  exact ⟨⟨[_], ⟨.tmp _ _ rfl, trivial⟩, rfl⟩, trivial⟩
set_option maxRecDepth 10000 in
theorem Fz (N : Nat) (p0 : List Af) (p1 : Af → Option Bool) (r : Nat × (List Af)) (h : BE N p0 p1 = some r) : FC Try.prog 103 [.e (.one (.own 90000)), .e (.one (.clo (If (L0 true Ay) tB p1)))] [(.vec 3 (p0.map Ay), .vec 3 (r.2.map Ay))] [] (.e (.one (.view 90000 3 0 r.1))) := by
 unfold BE at h
 refine Gl (n := 42) (rs := [.tmp 4]) Try.func103 rfl rfl rfl (BM rfl) (BM rfl) rfl rfl (BM rfl) rfl (BM rfl) fun w0 S0 GL => ?_
 refine Al (sm [] [(0, .e (.one (.own 90000))), (1, .e (.one (.clo (If (L0 true Ay) tB p1))))] [(90000, .vec 3 (p0.map Ay))] rfl rfl) (Ab (Aa Ad rfl (qa rfl (Ac (Ab (Aa Ad rfl (qm rfl (qm rfl ?_))))))))
 obtain ⟨v1, a1, h⟩ := bind_some h
 refine Ed [] [90000] (FG N p0 p1 v1 a1) WV CO rfl (qa rfl (Ac (Ab (Ab (Aa Ad rfl (qm rfl (B4 rfl (Ac ?_))))))))
 refine As rfl (fun c2 => ?_) (fun c2 => ?_)
 ·have h := Ao c2 h
  refine Ab (Aa Ad rfl (qm rfl (qa rfl (Ac ?_))))
  obtain rfl := sj h
  refine Al ((TE Ay p0 4 90000 3 rfl rfl).trans (sm [] [(4, .e (.one (.view 90000 3 0 p0.length)))] [(90000, .vec 3 (p0.map Ay))] rfl rfl)) (AC ?_)
  exact ⟨⟨[_], ⟨.tmp _ _ rfl, trivial⟩, rfl⟩, ⟨rfl, trivial⟩, trivial⟩
 ·have h := Ap c2 h
  refine Au (Ab (Ab (Aa Ad rfl (qm rfl (Bp rfl (qa rfl (Ac ?_)))))))
  refine AR (L := AX N p1) h (fun v3 => mk [(0, .e (.one (.own 90000))), (1, .e (.one (.clo (If (L0 true Ay) tB p1)))), (5, .e (.one (.pure (.val (.int .i64 v3.2.1))))), (6, .e (.one (.pure (.val (.int .i64 v3.2.2)))))] [(90000, .vec 3 (v3.1.map Ay))]) (fun v4 => mk [(0, .e (.one (.own 90000))), (5, .e (.one (.pure (.val (.int .i64 v4.2)))))] [(90000, .vec 3 (v4.1.map Ay))]) (fun _ _ => rfl) (sm [] _ _ rfl rfl) (fun j3 n3 v3 h => ?_) (fun v4 s h hs => ?_)
  ·unfold AX at h
   refine Ab (Ab (Aa Ad rfl (qm rfl (qm rfl (Fx CU rfl (A8 rfl (Ac ?_)))))))
   refine As rfl (fun c5 => ?_) (fun c5 => ?_)
   ·have h := Ao c5 h
    refine Au ?_
    refine AW h (fun v6 => mk [(0, .e (.one (.own 90000))), (1, .e (.one (.clo (If (L0 true Ay) tB p1)))), (5, .e (.one (.pure (.val (.int .i64 v6.2))))), (6, .e (.one (.pure (.val (.int .i64 v3.2.2)))))] [(90000, .vec 3 (v6.1.map Ay))]) (fun j6 h => ?_) (fun v6 h => ?_)
    ·refine AU (Ab (Aa Ad rfl (qm rfl (qm rfl ?_))))
     obtain ⟨v7, a7, b7, h⟩ := Am h
     refine qI CU Dj a7 (Aj b7) rfl (qJ GB Dj (Aj b7) rfl (qz Gx rfl (qs Dj rfl (Ac (Ab (Aa Ad rfl (qm rfl (qL GB Dj rfl ?_))))))))
     obtain ⟨v8, a8, h⟩ := bind_some h
     refine Kr (ds0 := [_]) (ar := (L0 true Ay) v7) (.p rfl) rfl rfl ⟨rfl, trivial⟩ rfl rfl rfl (KV (Ku _ _ Mq) a8) ?_
     refine CE rfl (Ac ?_)
     refine As rfl (fun c9 => ?_) (fun c9 => ?_)
     ·have h := Ao c9 h
      refine Ab (Aa Ad rfl (qm rfl (qm rfl (qL GB Dj rfl ?_))))
      obtain ⟨v10, a10, b10, h⟩ := Am h
      refine qI CU Dj a10 (Aj b10) rfl ?_
      refine D1 rfl rfl rfl rfl (Aj b10) rfl Dj rfl (BM rfl) (DO Ay v3.1 _ v7) ?_
      refine Ac (Aa Ad rfl (qm rfl (Bp rfl (qa rfl (Ac ?_)))))
      exact Aw _ h (sm [] _ _ rfl rfl)
     ·have h := Ap c9 h
      refine Au ?_
      exact Aw _ h (sm [] _ _ rfl rfl)
    ·refine Aa Ad rfl (qm rfl (Bp rfl (qa rfl (Ac ?_))))
     exact Aw _ h (sm [] _ _ rfl rfl)
   ·have h := Ap c5 h
    refine A5 ?_
    exact Aw _ h (sm [] _ _ rfl rfl)
  ·refine Al hs (Ab (Aa Ad rfl (qm rfl (qm rfl ?_))))
   obtain ⟨c11, h⟩ := AN h
   have w12 : ((v4.2).toNat) + ((v4.1.length - (v4.2).toNat)) ≤ v4.1.length := by have := c11.2.1; have := c11.2.2; omega
   refine KE Ay v4.1 (.p rfl) rfl (Jr Ay _ _ v4.1) rfl CU Dj (.some _ _ _ _ c11.1) (.none _) ⟨rfl, trivial⟩ trivial c11.2.1 (by rw [Nat.zero_add]; exact c11.2.2) (Nat.zero_add _) rfl ?_
   have w13 : (Il v4.1 ((v4.2).toNat) (List.replicate ((v4.1.length - (v4.2).toNat)) ((Af.mk 0 0 0)))).length = v4.1.length := IK (by rw [List.length_replicate]; exact w12)
   refine Tf Ay v4.1 ((Af.mk 0 0 0)) rfl rfl (ND Ay _ _ ((v4.2).toNat) ((v4.1.length - (v4.2).toNat)) v4.1 w12) rfl CU Gx rfl rfl rfl rfl ?_
   refine Ac (Ab (Aa Ad rfl (qm rfl (qm rfl ?_))))
   obtain ⟨c14, h⟩ := AN h
   have w15 : 0 + ((v4.2).toNat) ≤ (Il v4.1 ((v4.2).toNat) (List.replicate ((v4.1.length - (v4.2).toNat)) ((Af.mk 0 0 0)))).length := by have := c14.2.1; have := c14.2.2; omega
   refine KE Ay (Il v4.1 ((v4.2).toNat) (List.replicate ((v4.1.length - (v4.2).toNat)) ((Af.mk 0 0 0)))) (.p rfl) rfl (Jr Ay _ _ (Il v4.1 ((v4.2).toNat) (List.replicate ((v4.1.length - (v4.2).toNat)) ((Af.mk 0 0 0))))) rfl CU Dj (.none _) (.some _ _ _ _ c14.1) trivial ⟨rfl, trivial⟩ c14.2.1 (by rw [Nat.zero_add]; exact c14.2.2) (Nat.zero_add _) rfl ?_
   refine qa rfl (Ac ?_)
   obtain rfl := sj h
   refine Al (sm [] [(4, .e (.one (.view 90000 3 0 ((v4.2).toNat))))] [(90000, .vec 3 ((Il v4.1 ((v4.2).toNat) (List.replicate ((v4.1.length - (v4.2).toNat)) ((Af.mk 0 0 0)))).map Ay))] rfl rfl) (AC ?_)
   exact ⟨⟨[_], ⟨.tmp _ _ rfl, trivial⟩, rfl⟩, ⟨rfl, trivial⟩, trivial⟩
set_option maxRecDepth 10000 in
theorem Mz (N : Nat) (p0 : Ae) (p1 : Ah) (r : (List Af) × Int) (h : Fb N p0 p1 = some r) : AB Try.prog 87 [.e (.agg [.pure (.sl (p0.fVersions.map Ag)), .pure (.sl (p0.fNow.map Ag)), .pure (.sl (p0.fTarget.map Ag)), .pure (.sl (p0.fTables.map Ai))]), .e (.agg [.pure (.sl (p1.fBase.map Ag)), .pure (.sl (p1.fNext.map Ag)), .pure (.sl (p1.fHeld.map A3))])] [(3, r.1.map Ay)] (.tup [.one (.own 0), .one (.pure (.val (.int .i64 r.2)))]) := by
 unfold Fb at h
 refine Aq (n := 17) (rs := [.tmp 4, .tmp 5]) Try.func87 rfl rfl rfl (BM rfl) (BM rfl) rfl fun w0 S0 => ?_
 refine Ab (Aa Ad rfl (qb rfl (qb rfl (qa rfl (qa rfl (Ac (Ab (Ab (Aa Ad rfl (qL DM Dw rfl (qL Bq AT rfl ?_)))))))))))
 obtain ⟨v1, a1, h⟩ := bind_some h
 refine AK [] (H3 N p0 p1 v1 a1) TB rfl (qa rfl (Ac (Ab (Aa Ad rfl (qm rfl (CD rfl (Ac ?_)))))))
 refine As rfl (fun c2 => ?_) (fun c2 => ?_)
 ·have h := Ao c2 h
  refine Ab (Aa Ad rfl (qm rfl (qa rfl (qa rfl (Ac ?_)))))
  obtain rfl := sj h
  refine Al ((BF 4 2001 3 rfl rfl rfl).trans (sm [(1000, 2001)] [(4, .e (.one (.own 1000))), (5, .e (.one (.pure (.val (.int .i64 v1)))))] [(1000, .vec 3 ((([] : List Af)).map Ay))] rfl rfl)) (AC ?_)
  exact ⟨⟨[_, _], ⟨.tmp _ _ rfl, ⟨.tmp _ _ rfl, trivial⟩⟩, rfl⟩, ⟨rfl, trivial⟩⟩
 ·have h := Ap c2 h
  refine Au (Ab (Aa Ad rfl (qL DM Dw rfl ?_)))
  obtain ⟨v3, a3, h⟩ := bind_some h
  refine AK [2002] (Qk N p0 v3 a3) W7 rfl (Du (Ld 2 [.sl (p0.fVersions.map Ag), .sl (p0.fNow.map Ag), .sl (p0.fTarget.map Ag), .sl (p0.fTables.map Ai)] rfl rfl) (Du (Ld 3 [.sl (p1.fBase.map Ag), .sl (p1.fNext.map Ag), .sl (p1.fHeld.map A3)] rfl rfl) ?_))
  refine J8 (capD := [_, _]) (If (L0 true Ay) tB ((fun (x : Af) => C3 N x p0.fVersions p0.fNow p0.fTarget p0.fTables p1.fBase p1.fNext p1.fHeld))) (.p rfl) Wm rfl ⟨rfl, rfl, trivial⟩ rfl (fun ar t ht => by obtain ⟨x, r, rfl, hq, rfl⟩ := JM ht; exact Li N x p0.fVersions p0.fNow p0.fTarget p0.fTables p1.fBase p1.fNext p1.fHeld r hq) ?_
  obtain ⟨v4, a4, h⟩ := bind_some h
  obtain ⟨c5, h⟩ := AN h
  have w6 : 0 + v4.1 ≤ v4.2.length := by rw [Nat.zero_add]; exact c5
  refine L1 (ds0 := [_, _]) [2002] [] [true] (Fz N v3 ((fun (x : Af) => C3 N x p0.fVersions p0.fNow p0.fTarget p0.fTables p1.fBase p1.fNext p1.fHeld)) v4 a4) (.p rfl) V2 rfl ⟨rfl, rfl, trivial⟩ rfl rfl (by decide) ⟨rfl, trivial⟩ rfl (H4 rfl) trivial ⟨(fun h => by cases h), trivial⟩ rfl rfl rfl ?_
  refine Du (Ve Ay v4.2 16 2002 2003 3 v4.1 rfl rfl rfl rfl rfl c5) (qa rfl (qa rfl (Ac ?_)))
  obtain rfl := sj h
  refine Al (sm [(1000, 2003)] [(4, .e (.one (.own 1000))), (5, .e (.one (.pure (.val (.int .i64 0)))))] [(1000, .vec 3 ((v4.2.take v4.1).map Ay))] rfl rfl) (AC ?_)
  exact ⟨⟨[_, _], ⟨.tmp _ _ rfl, ⟨.tmp _ _ rfl, trivial⟩⟩, rfl⟩, ⟨rfl, trivial⟩⟩
set_option maxRecDepth 10000 in
theorem OG (N : Nat) (p0 : Af) (r : Bool) (h : zFS N p0 = some r) : AB Try.prog 100 [.e (.agg [.pure (.val (.int .i64 p0.fKind)), .pure (.val (.int .i64 p0.fIndex)), .pure (.val (.int .i64 p0.fVersion))])] [] (.e (.one (.pure (.val (.bool r))))) := by
 unfold zFS at h
 refine Aq (n := 27) (rs := [.tmp 2]) Try.func100 rfl rfl rfl (BM rfl) (BM rfl) rfl fun w0 S0 => ?_
 refine Ab (Aa Ad rfl (qb rfl (qa rfl (Ac (Ab ?_)))))
 refine AW h (fun v1 => mk [(1, .e (.one (.ptr 1 0))), (18, .e (.one (.pure (.val (.bool v1)))))] [(1, .box [.pure (.val (.int .i64 p0.fKind)), .pure (.val (.int .i64 p0.fIndex)), .pure (.val (.int .i64 p0.fVersion))])]) (fun j1 h => ?_) (fun v1 h => ?_)
 ·refine Aa Ad rfl (qf Ex rfl (ql B7 rfl (qf FW rfl (ql B7 rfl ?_))))
  refine V0 (.p rfl) rfl rfl ?_
  refine A8 rfl (qm rfl ?_)
  refine AI (t := 9) rfl (fun c2 => ?_) (fun c2 => ?_)
  ·have h := Ao c2 h
   refine qn rfl (qn rfl (qn rfl (qp rfl (qm rfl (qn rfl (qn rfl (qn rfl (qp rfl (Ac ?_)))))))))
   exact Aw _ h (sm [] _ _ rfl rfl)
  ·have h := Ap c2 h
   refine qf EO rfl (ql B7 rfl (A8 rfl (qp rfl (qm rfl ?_))))
   refine AI (t := 14) rfl (fun c3 => ?_) (fun c3 => ?_)
   ·have h := Ao c3 h
    refine qn rfl (qn rfl (qn rfl (qp rfl (Ac ?_))))
    exact Aw _ h (sm [] _ _ rfl rfl)
   ·have h := Ap c3 h
    refine qf EO rfl (ql B7 rfl (FT rfl (qp rfl (Ac ?_))))
    exact Aw _ h (sm [] _ _ rfl rfl)
 ·refine As rfl (fun c4 => ?_) (fun c4 => ?_)
  ·have h := Ao c4 h
   refine Ab (Aa Ad rfl (qa rfl (Ac ?_)))
   obtain rfl := sj h
   refine Al (sm [] [(2, .e (.one (.pure (.val (.bool false)))))] [] rfl rfl) (AC ?_)
   exact ⟨⟨[_], ⟨.tmp _ _ rfl, trivial⟩, rfl⟩, trivial⟩
  ·have h := Ap c4 h
   refine Au ?_
   refine AW h (fun v5 => mk [(2, .e (.one (.pure (.val (.bool v5)))))] []) (fun j5 h => ?_) (fun v5 h => ?_)
   ·refine Aa Ad rfl (qf EO rfl (ql B7 rfl (B4 rfl (qm rfl ?_))))
    refine AI (t := 22) rfl (fun c6 => ?_) (fun c6 => ?_)
    ·have h := Ao c6 h
     refine qn rfl (qn rfl (qn rfl (qp rfl (qa rfl (Ac ?_)))))
     exact Aw _ h (sm [] _ _ rfl rfl)
    ·have h := Ap c6 h
     refine qf FW rfl (ql B7 rfl (B4 rfl (qp rfl (qa rfl (Ac ?_)))))
     exact Aw _ h (sm [] _ _ rfl rfl)
   ·obtain rfl := sj h
    refine Al (sm [] [(2, .e (.one (.pure (.val (.bool v5)))))] [] rfl rfl) (AC ?_)
    exact ⟨⟨[_], ⟨.tmp _ _ rfl, trivial⟩, rfl⟩, trivial⟩
set_option maxRecDepth 10000 in
theorem M6 (N : Nat) (p0 : Ae) (p1 : Af) (r : Bool) (h : Fu N p0 p1 = some r) : AB Try.prog 101 [.e (.agg [.pure (.sl (p0.fVersions.map Ag)), .pure (.sl (p0.fNow.map Ag)), .pure (.sl (p0.fTarget.map Ag)), .pure (.sl (p0.fTables.map Ai))]), .e (.agg [.pure (.val (.int .i64 p1.fKind)), .pure (.val (.int .i64 p1.fIndex)), .pure (.val (.int .i64 p1.fVersion))])] [] (.e (.one (.pure (.val (.bool r))))) := by
 unfold Fu at h
 refine Aq (n := 36) (rs := [.tmp 4]) Try.func101 rfl rfl rfl (BM rfl) (BM rfl) rfl fun w0 S0 => ?_
 refine Ab (Aa Ad rfl (qb rfl (qb rfl (qa rfl (Ac (Ab (Ab (Aa Ad rfl (qf EO rfl (ql B7 rfl (B4 rfl (Ac ?_))))))))))))
 refine As rfl (fun c1 => ?_) (fun c1 => ?_)
 ·have h := Ao c1 h
  refine Ab (Aa Ad rfl (qf Ex rfl (ql B7 rfl (qf CH rfl (ql Gw rfl (AS DV rfl (A8 rfl (qa rfl (Ac ?_)))))))))
  obtain rfl := sj h
  refine Al (sm [] [(4, .e (.one (.pure (.val (.bool ((decide (p1.fIndex < (p0.fTables.length : Int)))))))))] [] rfl rfl) (AC ?_)
  exact ⟨⟨[_], ⟨.tmp _ _ rfl, trivial⟩, rfl⟩, trivial⟩
 ·have h := Ap c1 h
  refine Au ?_
  refine AW h (fun v2 => mk [(4, .e (.one (.pure (.val (.bool v2)))))] []) (fun j2 h => ?_) (fun v2 h => ?_)
  ·refine Aa Ad rfl (qf Ex rfl (ql B7 rfl (qf Bn rfl (ql A9 rfl (AS AE rfl (A8 rfl (qm rfl ?_)))))))
   refine AI (t := 20) rfl (fun c3 => ?_) (fun c3 => ?_)
   ·have h := Ao c3 h
    refine qf EO rfl (ql B7 rfl (CD rfl (qm rfl ?_)))
    refine AI (t := 24) rfl (fun c4 => ?_) (fun c4 => ?_)
    ·have h := Ao c4 h
     refine qn rfl (qn rfl (qn rfl (qn rfl (qn rfl (qn rfl (qn rfl (qn rfl (qn rfl (qp rfl (qp rfl (qa rfl (A0 (by kernel_rfl) ?_))))))))))))
     exact Aw _ h (sm [] _ _ rfl rfl)
    ·have h := Ap c4 h
     refine qf FW rfl (ql B7 rfl (qf Bn rfl (ql A9 rfl (qf Ex rfl (ql B7 rfl ?_)))))
     obtain ⟨v5, a5, b5, h⟩ := Am h
     refine qi AE C7 a5 (Aj b5) rfl (qk B7 rfl (A8 rfl (qp rfl (qp rfl (qa rfl (A0 (by kernel_rfl) ?_))))))
     exact Aw _ h (sm [] _ _ rfl rfl)
   ·have h := Ap c3 h
    refine qn rfl (qn rfl (qn rfl (qn rfl (qu rfl (qu rfl (qu rfl (qu rfl (qu rfl (qu rfl (qu rfl (qu rfl (qu rfl (qn rfl (qp rfl (qa rfl (A0 (by kernel_rfl) ?_))))))))))))))))
    exact Aw _ h (sm [] _ _ rfl rfl)
  ·obtain rfl := sj h
   refine Al (sm [] [(4, .e (.one (.pure (.val (.bool v2)))))] [] rfl rfl) (AC ?_)
   exact ⟨⟨[_], ⟨.tmp _ _ rfl, trivial⟩, rfl⟩, trivial⟩
set_option maxRecDepth 10000 in
theorem Oj (N : Nat) (p0 : Ae) (p1 : Ah) (p2 : Af) (r : Ah × Int) (h : FM N p0 p1 p2 = some r) : AB Try.prog 78 [.e (.agg [.pure (.sl (p0.fVersions.map Ag)), .pure (.sl (p0.fNow.map Ag)), .pure (.sl (p0.fTarget.map Ag)), .pure (.sl (p0.fTables.map Ai))]), .e (.agg [.pure (.sl (p1.fBase.map Ag)), .pure (.sl (p1.fNext.map Ag)), .pure (.sl (p1.fHeld.map A3))]), .e (.agg [.pure (.val (.int .i64 p2.fKind)), .pure (.val (.int .i64 p2.fIndex)), .pure (.val (.int .i64 p2.fVersion))])] [(1, r.1.fBase.map Ag), (1, r.1.fNext.map Ag), (1, r.1.fHeld.map A3)] (.tup [.agg [.own 0, .own 1, .own 2], .one (.pure (.val (.int .i64 r.2)))]) := by
 unfold FM at h
 refine Aq (n := 32) (rs := [.cell 6 43, .tmp 7]) Try.func78 rfl rfl rfl (BM rfl) (BM rfl) rfl fun w0 S0 => ?_
 refine Ab (Aa Ad rfl (qb rfl (qb rfl (qb rfl (qz Di rfl (qa rfl (Ac (Ab (AU (Ab (Aa Ad rfl (qL GB Dj rfl ?_))))))))))))
 obtain ⟨v1, a1, h⟩ := bind_some h
 refine AK [] (OG N p2 v1 a1) W4 rfl (CE rfl (qa rfl (Ac ?_)))
 refine As rfl (fun c2 => ?_) (fun c2 => ?_)
 ·have h := Ao c2 h
  refine Ab (Aa Ad rfl (A7 Di GG rfl (qs AT rfl (qa rfl (Ac ?_)))))
  obtain rfl := sj h
  refine Al ((AG 6 0 2001 1 _ rfl rfl rfl rfl).trans ((AG 6 1 2002 1 _ rfl rfl rfl rfl).trans ((AG 6 2 2003 1 _ rfl rfl rfl rfl).trans (sm [(1000, 2001), (1001, 2002), (1002, 2003)] [(6, .e (.one (.ptr 6 0))), (7, .e (.one (.pure (.val (.int .i64 1)))))] [(6, .box [.own 1000, .own 1001, .own 1002]), (1000, .vec 1 ((([] : List Int)).map Ag)), (1001, .vec 1 ((([] : List Int)).map Ag)), (1002, .vec 1 ((([] : List Int)).map A3))] rfl rfl)))) (AC ?_)
  exact ⟨⟨[_, _], ⟨.cellN _ _ _ _ _ _ _ rfl rfl Bq AT rfl rfl (Hm rfl), ⟨.tmp _ _ rfl, trivial⟩⟩, rfl⟩, ⟨rfl, rfl, rfl, trivial⟩⟩
 ·have h := Ap c2 h
  refine Ab (Aa Ad rfl (qL DM Dw rfl (qL GB Dj rfl ?_)))
  obtain ⟨v3, a3, h⟩ := bind_some h
  refine AK [] (M6 N p0 p2 v3 a3) VW rfl (CE rfl (qa rfl (Ac ?_)))
  refine As rfl (fun c4 => ?_) (fun c4 => ?_)
  ·have h := Ao c4 h
   refine Ab (Aa Ad rfl (A7 Di GG rfl (qs AT rfl (qa rfl (Ac ?_)))))
   obtain rfl := sj h
   refine Al ((AG 6 0 2004 1 _ rfl rfl rfl rfl).trans ((AG 6 1 2005 1 _ rfl rfl rfl rfl).trans ((AG 6 2 2006 1 _ rfl rfl rfl rfl).trans (sm [(1000, 2004), (1001, 2005), (1002, 2006)] [(6, .e (.one (.ptr 6 0))), (7, .e (.one (.pure (.val (.int .i64 4)))))] [(6, .box [.own 1000, .own 1001, .own 1002]), (1000, .vec 1 ((([] : List Int)).map Ag)), (1001, .vec 1 ((([] : List Int)).map Ag)), (1002, .vec 1 ((([] : List Int)).map A3))] rfl rfl)))) (AC ?_)
   exact ⟨⟨[_, _], ⟨.cellN _ _ _ _ _ _ _ rfl rfl Bq AT rfl rfl (Hm rfl), ⟨.tmp _ _ rfl, trivial⟩⟩, rfl⟩, ⟨rfl, rfl, rfl, trivial⟩⟩
  ·have h := Ap c4 h
   refine Au (Ab (Aa Ad rfl (qL DM Dw rfl (qL Bq AT rfl (qL GB Dj rfl ?_)))))
   obtain ⟨v5, a5, h⟩ := bind_some h
   refine AK [2007, 2008, 2009] (KJ N p0 p1 p2 v5 a5) UG rfl (qm rfl (qx rfl (qx rfl (qz Di rfl (qs AT rfl (qa rfl (Ac (Ab (Ab (Aa Ad rfl (qm rfl (CE rfl (Ac ?_)))))))))))))
   refine As rfl (fun c6 => ?_) (fun c6 => ?_)
   ·have h := Ao c6 h
    refine Ab (Aa Ad rfl (A7 Di GG rfl (qs AT rfl (qa rfl (Ac ?_)))))
    obtain rfl := sj h
    refine Al ((AG 6 0 2010 1 _ rfl rfl rfl rfl).trans ((AG 6 1 2011 1 _ rfl rfl rfl rfl).trans ((AG 6 2 2012 1 _ rfl rfl rfl rfl).trans (sm [(1000, 2010), (1001, 2011), (1002, 2012)] [(6, .e (.one (.ptr 6 0))), (7, .e (.one (.pure (.val (.int .i64 11)))))] [(6, .box [.own 1000, .own 1001, .own 1002]), (1000, .vec 1 ((([] : List Int)).map Ag)), (1001, .vec 1 ((([] : List Int)).map Ag)), (1002, .vec 1 ((([] : List Int)).map A3))] rfl rfl)))) (AC ?_)
    exact ⟨⟨[_, _], ⟨.cellN _ _ _ _ _ _ _ rfl rfl Bq AT rfl rfl (Hm rfl), ⟨.tmp _ _ rfl, trivial⟩⟩, rfl⟩, ⟨rfl, rfl, rfl, trivial⟩⟩
   ·have h := Ap c6 h
    refine Au (Ab (Aa Ad rfl (qL Bq AT rfl (qs AT rfl (qa rfl (Ac ?_))))))
    obtain rfl := sj h
    refine Al (sm [(1000, 2007), (1001, 2008), (1002, 2009)] [(6, .e (.one (.ptr 6 0))), (7, .e (.one (.pure (.val (.int .i64 0)))))] [(6, .box [.own 1000, .own 1001, .own 1002]), (1000, .vec 1 (v5.1.fBase.map Ag)), (1001, .vec 1 (v5.1.fNext.map Ag)), (1002, .vec 1 (v5.1.fHeld.map A3))] rfl rfl) (AC ?_)
    exact ⟨⟨[_, _], ⟨.cellN _ _ _ _ _ _ _ rfl rfl Bq AT rfl rfl (Hm rfl), ⟨.tmp _ _ rfl, trivial⟩⟩, rfl⟩, ⟨rfl, rfl, rfl, trivial⟩⟩
set_option maxRecDepth 10000 in
theorem KI (N : Nat) (p0 : Ae) (p1 : Ah) (p2 : Af) (r : Ah × Int) (h : Ff N p0 p1 p2 = some r) : AB Try.prog 39 [.e (.agg [.pure (.sl (p0.fVersions.map Ag)), .pure (.sl (p0.fNow.map Ag)), .pure (.sl (p0.fTarget.map Ag)), .pure (.sl (p0.fTables.map Ai))]), .e (.agg [.pure (.sl (p1.fBase.map Ag)), .pure (.sl (p1.fNext.map Ag)), .pure (.sl (p1.fHeld.map A3))]), .e (.agg [.pure (.val (.int .i64 p2.fKind)), .pure (.val (.int .i64 p2.fIndex)), .pure (.val (.int .i64 p2.fVersion))])] [(1, r.1.fBase.map Ag), (1, r.1.fNext.map Ag), (1, r.1.fHeld.map A3)] (.tup [.agg [.own 0, .own 1, .own 2], .one (.pure (.val (.int .i64 r.2)))]) := by
 unfold Ff at h
 refine Aq (n := 22) (rs := [.cell 6 43, .tmp 7]) Try.func39 rfl rfl rfl (BM rfl) (BM rfl) rfl fun w0 S0 => ?_
 refine Ab (Aa Ad rfl (qb rfl (qb rfl (qb rfl (qz Di rfl (qa rfl (Ac (Ab (Ab (Aa Ad rfl (qL DM Dw rfl (qL Bq AT rfl ?_))))))))))))
 obtain ⟨v1, a1, h⟩ := bind_some h
 refine AK [] (H3 N p0 p1 v1 a1) TB rfl (qa rfl (Ac (Ab (Aa Ad rfl (qm rfl (CD rfl (Ac ?_)))))))
 refine As rfl (fun c2 => ?_) (fun c2 => ?_)
 ·have h := Ao c2 h
  refine Ab (Aa Ad rfl (A7 Di GG rfl (qm rfl (qs AT rfl (qa rfl (Ac ?_))))))
  obtain rfl := sj h
  refine Al ((AG 6 0 2001 1 _ rfl rfl rfl rfl).trans ((AG 6 1 2002 1 _ rfl rfl rfl rfl).trans ((AG 6 2 2003 1 _ rfl rfl rfl rfl).trans (sm [(1000, 2001), (1001, 2002), (1002, 2003)] [(6, .e (.one (.ptr 6 0))), (7, .e (.one (.pure (.val (.int .i64 v1)))))] [(6, .box [.own 1000, .own 1001, .own 1002]), (1000, .vec 1 ((([] : List Int)).map Ag)), (1001, .vec 1 ((([] : List Int)).map Ag)), (1002, .vec 1 ((([] : List Int)).map A3))] rfl rfl)))) (AC ?_)
  exact ⟨⟨[_, _], ⟨.cellN _ _ _ _ _ _ _ rfl rfl Bq AT rfl rfl (Hm rfl), ⟨.tmp _ _ rfl, trivial⟩⟩, rfl⟩, ⟨rfl, rfl, rfl, trivial⟩⟩
 ·have h := Ap c2 h
  refine Au (Ab (Aa Ad rfl (qL DM Dw rfl (qL Bq AT rfl (qL GB Dj rfl ?_)))))
  obtain ⟨v3, a3, h⟩ := bind_some h
  refine AK [2004, 2005, 2006] (Oj N p0 p1 p2 v3 a3) XF rfl (qx rfl (qx rfl (qs AT rfl (qa rfl (Ac ?_)))))
  obtain rfl := sj h
  refine Al (sm [(1000, 2004), (1001, 2005), (1002, 2006)] [(6, .e (.one (.ptr 6 0))), (7, .e (.one (.pure (.val (.int .i64 v3.2)))))] [(6, .box [.own 1000, .own 1001, .own 1002]), (1000, .vec 1 (v3.1.fBase.map Ag)), (1001, .vec 1 (v3.1.fNext.map Ag)), (1002, .vec 1 (v3.1.fHeld.map A3))] rfl rfl) (AC ?_)
  exact ⟨⟨[_, _], ⟨.cellN _ _ _ _ _ _ _ rfl rfl Bq AT rfl rfl (Hm rfl), ⟨.tmp _ _ rfl, trivial⟩⟩, rfl⟩, ⟨rfl, rfl, rfl, trivial⟩⟩
set_option maxRecDepth 10000 in
theorem Ng (N : Nat) (p0 : Ae) (p1 : Ah) (r : (List AD) × Int) (h : Fp N p0 p1 = some r) : AB Try.prog 55 [.e (.agg [.pure (.sl (p0.fVersions.map Ag)), .pure (.sl (p0.fNow.map Ag)), .pure (.sl (p0.fTarget.map Ag)), .pure (.sl (p0.fTables.map Ai))]), .e (.agg [.pure (.sl (p1.fBase.map Ag)), .pure (.sl (p1.fNext.map Ag)), .pure (.sl (p1.fHeld.map A3))])] [] (.tup [.one (.pure (.sl (r.1.map Bd))), .one (.pure (.val (.int .i64 r.2)))]) := by
 unfold Fp at h
 refine Aq (n := 119) (rs := [.tmp 4, .tmp 5]) Try.func55 rfl rfl rfl (BM rfl) (BM rfl) rfl fun w0 S0 => ?_
 refine Ab (Aa Ad rfl (qb rfl (qb rfl (qa rfl (qa rfl (Ac (Ab (Aa Ad rfl (qL Bq AT rfl (A7 O1 UL rfl ?_))))))))))
 refine J2 [(0, .tmp 21, _)] (.p rfl) rfl ⟨rfl, trivial⟩ rfl Hb IR O1 rfl rfl (BM rfl) rfl rfl ?_
 refine Du (NB 22 8 [.s, .s, .s, .s, .s, .s, .s, .x 1 []] _ ((([(AD.mk p1 ((-1)) ((Af.mk 0 0 0)) (([] : List Int)))] : List AD)).map Bd) rfl rfl) (qa rfl (Ac (Ab (Aa Ad rfl ?_))))
 refine RH (.p rfl) rfl ?_
 refine qL Bq AT rfl ?_
 obtain ⟨v1, a1, h⟩ := bind_some h
 refine AK [] (Mn N p1 v1 a1) VX rfl ?_
 refine PA (kv := Value.string) (vt := Nn) (m := ([] : List (ByteArray × Int))) (k := v1) (v := 0) rfl (.inr rfl) rfl rfl rfl rfl (Ls Oe Vx) rfl ?_
 refine qm rfl (qa rfl (Ac (Ab (Ab (Aa Ad rfl (qa rfl (Ac ?_)))))))
 refine AR (L := C4 N p0) h (fun v2 => mk [(2, .e (.one (.ptr 2 0))), (6, .e (.one (.own 2001))), (7, .e (.one (.mref 2002))), (8, .e (.one (.pure (.val (.int .i64 v2.2.2)))))] [(2, .box [.pure (.sl (p0.fVersions.map Ag)), .pure (.sl (p0.fNow.map Ag)), .pure (.sl (p0.fTarget.map Ag)), .pure (.sl (p0.fTables.map Ai))]), (2001, .dvec 8 [.s, .s, .s, .s, .s, .s, .s, .x 1 []] (v2.1.map Bd)), (2002, .mp (HM Value.string Nn v2.2.1))]) (fun v3 => mk [(6, .e (.one (.own 2003)))] [(2003, .dvec 8 [.s, .s, .s, .s, .s, .s, .s, .x 1 []] (v3.map Bd))]) (fun _ _ => rfl) (sm [(2001, 22), (2002, 23)] _ _ rfl rfl) (fun j2 n2 v2 h => ?_) (fun v3 s h hs => ?_)
 ·unfold C4 at h
  refine Ab (Ab (Aa Ad rfl (qm rfl (qm rfl ?_))))
  refine Qt (.p rfl) rfl rfl (JI Bd v2.1 _ _) Hb ?_
  refine A8 rfl (Ac ?_)
  refine As rfl (fun c4 => ?_) (fun c4 => ?_)
  ·have h := Ao c4 h
   refine Au (Ab (AU (Ab (Aa Ad rfl (qL DM Dw rfl (qm rfl (qm rfl ?_)))))))
   obtain ⟨v5, a5, b5, h⟩ := Am h
   refine KT (.p rfl) rfl rfl rfl (JI Bd v2.1 _ _) Hb IR a5 (AJ b5) ?_
   refine qh ME rfl ?_
   refine Pt (.p rfl) rfl Bq AT rfl (Aj b5) rfl rfl (by decide) rfl ?_
   obtain ⟨v6, a6, h⟩ := bind_some h
   refine AK [2004] (Mz N p0 ((Ah.mk v5.fM.fBase v5.fM.fNext v5.fM.fHeld)) v6 a6) XG rfl (qm rfl (qx rfl (qx rfl (qa rfl (qa rfl (A0 (by kernel_rfl) (Ab (Ab (Aa Ad rfl (qm rfl (CD rfl (Ac ?_))))))))))))
   refine As rfl (fun c7 => ?_) (fun c7 => ?_)
   ·have h := Ao c7 h
    refine Ab (Aa Ad rfl (qm rfl (qa rfl (qa rfl (Ac ?_)))))
    obtain rfl := sj h
    refine Al ((MN 4 _ rfl).trans (sm [] [(4, .e (.one (.pure (.sl ((([] : List AD)).map Bd))))), (5, .e (.one (.pure (.val (.int .i64 v6.2)))))] [] rfl rfl)) (AC ?_)
    exact ⟨⟨[_, _], ⟨.tmp _ _ rfl, ⟨.tmp _ _ rfl, trivial⟩⟩, rfl⟩, trivial⟩
   ·have h := Ap c7 h
    refine Au (Ab (Aa Ad rfl (qm rfl (Fx CU rfl (qm rfl (Ac ?_))))))
    refine AR (L := Ce N p0 v2 v6) h (fun v8 => mk [(2, .e (.one (.ptr 2 0))), (6, .e (.one (.own 2005))), (7, .e (.one (.mref 2006))), (8, .e (.one (.pure (.val (.int .i64 v2.2.2))))), (46, .e (.one (.own 2007))), (47, .e (.one (.pure (.val (.int .i64 ((v6.1.length : Int))))))), (48, .e (.one (.pure (.val (.int .i64 v8.2.2)))))] [(2, .box [.pure (.sl (p0.fVersions.map Ag)), .pure (.sl (p0.fNow.map Ag)), .pure (.sl (p0.fTarget.map Ag)), .pure (.sl (p0.fTables.map Ai))]), (2005, .dvec 8 [.s, .s, .s, .s, .s, .s, .s, .x 1 []] (v8.1.map Bd)), (2006, .mp (HM Value.string Nn v8.2.1)), (2007, .vec 3 (v6.1.map Ay))]) (fun v9 => mk [(2, .e (.one (.ptr 2 0))), (6, .e (.one (.own 2008))), (7, .e (.one (.mref 2009))), (8, .e (.one (.pure (.val (.int .i64 v2.2.2)))))] [(2, .box [.pure (.sl (p0.fVersions.map Ag)), .pure (.sl (p0.fNow.map Ag)), .pure (.sl (p0.fTarget.map Ag)), .pure (.sl (p0.fTables.map Ai))]), (2008, .dvec 8 [.s, .s, .s, .s, .s, .s, .s, .x 1 []] (v9.1.map Bd)), (2009, .mp (HM Value.string Nn v9.2))]) (fun _ _ => rfl) (sm [(2005, 2001), (2006, 2002), (2007, 2004)] _ _ rfl rfl) (fun j8 n8 v8 h => ?_) (fun v9 s h hs => ?_)
    ·unfold Ce at h
     refine Ab (Aa Ad rfl (A8 rfl (Ac (Ab ?_))))
     refine As rfl (fun c10 => ?_) (fun c10 => ?_)
     ·have h := Ao c10 h
      refine Au (Ab (AU (Ab (Aa Ad rfl ?_))))
      obtain ⟨v11, a11, b11, h⟩ := Am h
      refine qI CU Dj a11 (Aj b11) rfl (qJ GB Dj (Aj b11) rfl (qz Gx rfl (qs Dj rfl (Ac (Ab (Aa Ad rfl (qL DM Dw rfl (qm rfl (qm rfl ?_)))))))))
      obtain ⟨v12, a12, b12, h⟩ := Am h
      refine KT (.p rfl) rfl rfl rfl (JI Bd v8.1 _ _) Hb IR a12 (AJ b12) ?_
      refine qh ME rfl ?_
      refine Pt (.p rfl) rfl Bq AT rfl (Aj b12) rfl rfl (by decide) rfl ?_
      refine qL GB Dj rfl ?_
      obtain ⟨v13, a13, h⟩ := bind_some h
      refine AK [2010, 2011, 2012] (KI N p0 ((Ah.mk v12.fM.fBase v12.fM.fNext v12.fM.fHeld)) v11 v13 a13) W6 rfl (qm rfl (qx rfl (qx rfl (qz Di rfl (qs AT rfl (qa rfl (A0 (by kernel_rfl) (Ab (Ab (Aa Ad rfl (qm rfl (CD rfl (Ac ?_)))))))))))))
      refine As rfl (fun c14 => ?_) (fun c14 => ?_)
      ·have h := Ao c14 h
       refine Ab (Aa Ad rfl (qm rfl (qa rfl (qa rfl (Ac ?_)))))
       obtain rfl := sj h
       refine Al ((MN 4 _ rfl).trans (sm [] [(4, .e (.one (.pure (.sl ((([] : List AD)).map Bd))))), (5, .e (.one (.pure (.val (.int .i64 v13.2)))))] [] rfl rfl)) (AC ?_)
       exact ⟨⟨[_, _], ⟨.tmp _ _ rfl, ⟨.tmp _ _ rfl, trivial⟩⟩, rfl⟩, trivial⟩
      ·have h := Ap c14 h
       refine Au (Ab (Aa Ad rfl (qL Bq AT rfl ?_)))
       obtain ⟨v15, a15, h⟩ := bind_some h
       refine Ed [] [2010, 2011, 2012] (Mn N v13.1 v15 a15) VX CO rfl (qa rfl (Ac (Ab (Aa Ad rfl (qm rfl (qm rfl ?_))))))
       refine Sp (kv := Value.string) (vt := Nn) (m := v8.2.1) (dv := 0) (.p rfl) rfl rfl rfl (Ls Oe Vx) (by rw [Oe]; rfl) J5 rfl rfl rfl ?_
       refine qm rfl (qx rfl (qx rfl (qa rfl (qa rfl (Ac ?_)))))
       refine AW h (fun v16 => mk [(2, .e (.one (.ptr 2 0))), (6, .e (.one (.own 2013))), (7, .e (.one (.mref 2014))), (8, .e (.one (.pure (.val (.int .i64 v2.2.2))))), (16, .e (.one (.pure (.val (.int .i64 v16.2.2))))), (46, .e (.one (.own 2015))), (47, .e (.one (.pure (.val (.int .i64 ((v6.1.length : Int))))))), (48, .e (.one (.pure (.val (.int .i64 v8.2.2)))))] [(2, .box [.pure (.sl (p0.fVersions.map Ag)), .pure (.sl (p0.fNow.map Ag)), .pure (.sl (p0.fTarget.map Ag)), .pure (.sl (p0.fTables.map Ai))]), (2013, .dvec 8 [.s, .s, .s, .s, .s, .s, .s, .x 1 []] (v16.1.map Bd)), (2014, .mp (HM Value.string Nn v16.2.1)), (2015, .vec 3 (v6.1.map Ay))]) (fun j16 h => ?_) (fun v16 h => ?_)
       ·refine Ab (Aa Ad rfl (qm rfl (CE rfl (Ac ?_))))
        refine As rfl (fun c17 => ?_) (fun c17 => ?_)
        ·have h := Ao c17 h
         refine AW h (fun v18 => mk [(2, .e (.one (.ptr 2 0))), (6, .e (.one (.own 2016))), (7, .e (.one (.mref 2017))), (8, .e (.one (.pure (.val (.int .i64 v2.2.2))))), (15, .e (.one (.pure (.val (.string v15))))), (16, .e (.one (.pure (.val (.int .i64 v18.2))))), (46, .e (.one (.own 2018))), (47, .e (.one (.pure (.val (.int .i64 ((v6.1.length : Int))))))), (48, .e (.one (.pure (.val (.int .i64 v8.2.2)))))] [(2, .box [.pure (.sl (p0.fVersions.map Ag)), .pure (.sl (p0.fNow.map Ag)), .pure (.sl (p0.fTarget.map Ag)), .pure (.sl (p0.fTables.map Ai))]), (2016, .dvec 8 [.s, .s, .s, .s, .s, .s, .s, .x 1 []] (v18.1.map Bd)), (2017, .mp (HM Value.string Nn v8.2.1)), (2018, .vec 3 (v6.1.map Ay))]) (fun j18 h => ?_) (fun v18 h => ?_)
         ·refine Ab (Aa Ad rfl (qL DM Dw rfl (qL Bq AT rfl ?_)))
          obtain ⟨v19, a19, h⟩ := bind_some h
          refine Ed [] [2010, 2011, 2012] (KC N p0 v13.1 v19 a19) WH CO rfl (qm rfl (qx rfl (qx rfl (qa rfl (qa rfl (Ac ?_))))))
          refine AW h (fun v20 => mk [(2, .e (.one (.ptr 2 0))), (6, .e (.one (.own 2022))), (7, .e (.one (.mref 2023))), (8, .e (.one (.pure (.val (.int .i64 v2.2.2))))), (12, .e (.one (.ptr 12 0))), (13, .e (.one (.ptr 13 0))), (15, .e (.one (.pure (.val (.string v15))))), (46, .e (.one (.own 2024))), (47, .e (.one (.pure (.val (.int .i64 ((v6.1.length : Int))))))), (48, .e (.one (.pure (.val (.int .i64 v8.2.2))))), (87, .e (.one (.pure (.val (.bool v20)))))] [(2, .box [.pure (.sl (p0.fVersions.map Ag)), .pure (.sl (p0.fNow.map Ag)), .pure (.sl (p0.fTarget.map Ag)), .pure (.sl (p0.fTables.map Ai))]), (12, .box [.pure (.val (.int .i64 v11.fKind)), .pure (.val (.int .i64 v11.fIndex)), .pure (.val (.int .i64 v11.fVersion))]), (13, .box [.own 2019, .own 2020, .own 2021]), (2019, .vec 1 (v13.1.fBase.map Ag)), (2020, .vec 1 (v13.1.fNext.map Ag)), (2021, .vec 1 (v13.1.fHeld.map A3)), (2022, .dvec 8 [.s, .s, .s, .s, .s, .s, .s, .x 1 []] (v8.1.map Bd)), (2023, .mp (HM Value.string Nn v8.2.1)), (2024, .vec 3 (v6.1.map Ay))]) (fun j20 h => ?_) (fun v20 h => ?_)
          ·refine Aa Ad rfl (qm rfl (CD rfl (qm rfl ?_)))
           refine AI (t := 84) rfl (fun c21 => ?_) (fun c21 => ?_)
           ·have h := Ao c21 h
            refine qn rfl (qn rfl (qp rfl (Ac ?_)))
            exact Aw _ h (sm [(2019, 2010), (2020, 2011), (2021, 2012), (2022, 2005), (2023, 2006), (2024, 2007)] _ _ rfl rfl)
           ·have h := Ap c21 h
            refine qm rfl (CE rfl (qp rfl (Ac ?_)))
            exact Aw _ h (sm [(2019, 2010), (2020, 2011), (2021, 2012), (2022, 2005), (2023, 2006), (2024, 2007)] _ _ rfl rfl)
          ·refine As rfl (fun c22 => ?_) (fun c22 => ?_)
           ·have h := Ao c22 h
            refine Aa Ad rfl (qa rfl (Ac ?_))
            exact Aw _ h (sm [(2016, 2022), (2017, 2023), (2018, 2024)] _ _ rfl rfl)
           ·have h := Ap c22 h
            refine Ab (Aa Ad rfl (qm rfl ?_))
            refine Qt (.p rfl) rfl rfl (JI Bd v8.1 _ _) Hb ?_
            refine qa rfl (Ac (Aa Ad rfl (qm rfl (qL Bq AT rfl (qm rfl (qL GB Dj rfl (A7 O1 UL rfl (Du (Ba 2019 _ _ rfl rfl) (Du (Ba 2020 _ _ rfl rfl) (Du (Ba 2021 _ _ rfl rfl) ?_))))))))))
            refine J2 [(0, .tmp 94, _)] (.p rfl) rfl ⟨rfl, trivial⟩ rfl Hb IR O1 rfl rfl (BM rfl) rfl rfl ?_
            refine Du (NB 95 8 [.s, .s, .s, .s, .s, .s, .s, .x 1 []] _ ((([(AD.mk v13.1 v2.2.2 v11 (([] : List Int)))] : List AD)).map Bd) rfl rfl) ?_
            obtain ⟨c23, h⟩ := AN h
            refine RG (.p rfl) rfl rfl rfl rfl rfl (by decide) Hb Hb IR U5 (BM rfl) O1 rfl (T2 (f := Bd) (g := Bd) (xs := v8.1) (ys := (([(AD.mk v13.1 v2.2.2 v11 (([] : List Int)))] : List AD))) c23) (TZ Bd v8.1 (([(AD.mk v13.1 v2.2.2 v11 (([] : List Int)))] : List AD))) rfl rfl ?_
            refine qa rfl (Ac ?_)
            exact Aw _ h (sm [(2016, 96), (2017, 2023), (2018, 2024)] _ _ rfl rfl)
         ·refine Aa Ad rfl (qm rfl (qm rfl (qm rfl ?_)))
          refine PA (kv := Value.string) (vt := Nn) (m := v8.2.1) (k := v15) (v := v18.2) rfl (.inl rfl) rfl rfl rfl rfl (Ls Oe Vx) rfl ?_
          refine Ac ?_
          exact Aw _ h (sm [(2013, 2016), (2014, 2017), (2015, 2018)] _ _ rfl rfl)
        ·have h := Ap c17 h
         refine Au ?_
         exact Aw _ h (sm [(2013, 2005), (2014, 2006), (2015, 2007)] _ _ rfl rfl)
       ·refine AW h (fun v24 => mk [(2, .e (.one (.ptr 2 0))), (6, .e (.one (.own 2025))), (7, .e (.one (.mref 2026))), (8, .e (.one (.pure (.val (.int .i64 v2.2.2))))), (46, .e (.one (.own 2027))), (47, .e (.one (.pure (.val (.int .i64 ((v6.1.length : Int))))))), (48, .e (.one (.pure (.val (.int .i64 v8.2.2)))))] [(2, .box [.pure (.sl (p0.fVersions.map Ag)), .pure (.sl (p0.fNow.map Ag)), .pure (.sl (p0.fTarget.map Ag)), .pure (.sl (p0.fTables.map Ai))]), (2025, .dvec 8 [.s, .s, .s, .s, .s, .s, .s, .x 1 []] (v24.map Bd)), (2026, .mp (HM Value.string Nn v16.2.1)), (2027, .vec 3 (v6.1.map Ay))]) (fun j24 h => ?_) (fun v24 h => ?_)
        ·refine Ab (Aa Ad rfl (qm rfl (Ey rfl (Ac ?_))))
         refine As rfl (fun c25 => ?_) (fun c25 => ?_)
         ·have h := Ao c25 h
          refine Aa Ad rfl (qm rfl (qm rfl (qm rfl (qm rfl ?_))))
          obtain ⟨v26, a26, b26, h⟩ := Am h
          refine KT (.p rfl) rfl rfl rfl (JI Bd v16.1 _ _) Hb IR a26 (AJ b26) ?_
          refine qh P0 rfl ?_
          refine Vw (.p rfl) rfl A9 rfl (Aj b26) rfl rfl rfl rfl ?_
          refine qm rfl (En AE C7 J5 rfl ?_)
          obtain ⟨c27, h⟩ := AN h
          refine Dy (f := Ag) AE AE C7 KP J5 c27 rfl ?_
          obtain ⟨v28, a28, b28, h⟩ := Am h
          refine KT (.p rfl) rfl rfl rfl (VM Bd v16.1 _ _ _ _ _) Hb IR a28 (AJ b28) ?_
          refine qh P0 rfl ?_
          refine SY rfl rfl rfl rfl (rows2 := (v26.fNext ++ (([v16.2.2] : List Int))).map Ag) (cols2 := []) rfl rfl (Aj b28) (by decide) Rr rfl rfl (DO Bd v16.1 _ ((AD.mk ((Ah.mk v28.fM.fBase v28.fM.fNext v28.fM.fHeld)) v28.fFrom ((Af.mk v28.fBy.fKind v28.fBy.fIndex v28.fBy.fVersion)) (v26.fNext ++ (([v16.2.2] : List Int)))))) ?_
          refine Ac ?_
          exact Aw _ h (sm [(2025, 2013), (2026, 2014), (2027, 2015)] _ _ rfl rfl)
         ·have h := Ap c25 h
          refine Au ?_
          exact Aw _ h (sm [(2025, 2013), (2026, 2014), (2027, 2015)] _ _ rfl rfl)
        ·refine Ab (Aa Ad rfl (qm rfl ?_))
         refine Qt (.p rfl) rfl rfl (JI Bd v24 _ _) Hb ?_
         refine FT rfl (Ac ?_)
         refine As rfl (fun c29 => ?_) (fun c29 => ?_)
         ·have h := Ao c29 h
          refine Ab (Aa Ad rfl (qa rfl (qa rfl (Ac ?_))))
          obtain rfl := sj h
          refine Al ((MN 4 _ rfl).trans (sm [] [(4, .e (.one (.pure (.sl ((([] : List AD)).map Bd))))), (5, .e (.one (.pure (.val (.int .i64 3)))))] [] rfl rfl)) (AC ?_)
          exact ⟨⟨[_, _], ⟨.tmp _ _ rfl, ⟨.tmp _ _ rfl, trivial⟩⟩, rfl⟩, trivial⟩
         ·have h := Ap c29 h
          refine Au (Aa Ad rfl (Bp rfl (qm rfl (Ac ?_))))
          exact Aw _ h (sm [(2005, 2025), (2006, 2026), (2007, 2027)] _ _ rfl rfl)
     ·have h := Ap c10 h
      refine A5 ?_
      exact Aw _ h (sm [(2008, 2005), (2009, 2006)] _ _ rfl rfl)
    ·refine Al hs (Aa Ad rfl (qm rfl (Bp rfl (qa rfl (Ac ?_)))))
     exact Aw _ h (sm [(2001, 2008), (2002, 2009)] _ _ rfl rfl)
  ·have h := Ap c4 h
   refine A5 ?_
   exact Aw _ h (sm [(2003, 2001)] _ _ rfl rfl)
 ·refine Al hs (Ab (Aa Ad rfl (qm rfl (qa rfl (qa rfl (Ac ?_))))))
  obtain rfl := sj h
  refine Al ((RS 2003 _ _ _ rfl rfl).trans (sm [] [(4, .e (.one (.pure (.sl (v3.map Bd))))), (5, .e (.one (.pure (.val (.int .i64 0)))))] [] rfl rfl)) (AC ?_)
  exact ⟨⟨[_, _], ⟨.tmp _ _ rfl, ⟨.tmp _ _ rfl, trivial⟩⟩, rfl⟩, trivial⟩
set_option maxRecDepth 10000 in
theorem IF (N : Nat) (p0 : List Int) (p1 : List Int) (r : Bool) (h : Dn N p0 p1 = some r) : AB Try.prog 65 [.e (.one (.pure (.sl (p0.map Ag)))), .e (.one (.pure (.sl (p1.map Ag))))] [] (.e (.one (.pure (.val (.bool r))))) := by
 unfold Dn at h
 refine Aq (n := 26) (rs := [.tmp 4]) Try.func65 rfl rfl rfl (BM rfl) (BM rfl) rfl fun w0 S0 => ?_
 refine Ab (Aa Ad rfl (qa rfl (Ac (Ab (Ab (Aa Ad rfl (qm rfl (AS AE rfl (qm rfl (AS AE rfl (CD rfl (Ac ?_))))))))))))
 refine As rfl (fun c1 => ?_) (fun c1 => ?_)
 ·have h := Ao c1 h
  refine Ab (Aa Ad rfl (qa rfl (Ac ?_)))
  obtain rfl := sj h
  refine Al (sm [] [(4, .e (.one (.pure (.val (.bool false)))))] [] rfl rfl) (AC ?_)
  exact ⟨⟨[_], ⟨.tmp _ _ rfl, trivial⟩, rfl⟩, trivial⟩
 ·have h := Ap c1 h
  refine Au (Ab (Ab (Aa Ad rfl (qm rfl (AS AE rfl (qm rfl (Ac ?_)))))))
  refine AR (L := BY N p0 p1) h (fun v2 => mk [(0, .e (.one (.pure (.sl (p0.map Ag))))), (1, .e (.one (.pure (.sl (p1.map Ag))))), (12, .e (.one (.pure (.val (.int .i64 ((p0.length : Int))))))), (13, .e (.one (.pure (.val (.int .i64 v2)))))] []) (fun v3 => mk [] []) (fun _ _ => rfl) (sm [] _ _ rfl rfl) (fun j2 n2 v2 h => ?_) (fun v3 s h hs => ?_)
  ·unfold BY at h
   refine Ab (Aa Ad rfl (A8 rfl (Ac (Ab ?_))))
   refine As rfl (fun c4 => ?_) (fun c4 => ?_)
   ·have h := Ao c4 h
    refine Au (Ab (AU (Ab (Aa Ad rfl (qm rfl (qa rfl (Ac (Ab (Aa Ad rfl (qm rfl (qm rfl ?_)))))))))))
    obtain ⟨v5, a5, b5, h⟩ := Am h
    refine qi AE C7 a5 (Aj b5) rfl (qk B7 rfl (qm rfl (qm rfl ?_)))
    obtain ⟨v6, a6, b6, h⟩ := Am h
    refine qi AE C7 a6 (Aj b6) rfl (qk B7 rfl (CD rfl (A0 (by kernel_rfl) ?_)))
    refine As rfl (fun c7 => ?_) (fun c7 => ?_)
    ·have h := Ao c7 h
     refine Ab (Aa Ad rfl (qa rfl (Ac ?_)))
     obtain rfl := sj h
     refine Al (sm [] [(4, .e (.one (.pure (.val (.bool false)))))] [] rfl rfl) (AC ?_)
     exact ⟨⟨[_], ⟨.tmp _ _ rfl, trivial⟩, rfl⟩, trivial⟩
    ·have h := Ap c7 h
     refine Au (Aa Ad rfl (Bp rfl (qm rfl (Ac ?_))))
     exact Aw _ h (sm [] _ _ rfl rfl)
   ·have h := Ap c4 h
    refine A5 ?_
    exact Aw _ h (sm [] _ _ rfl rfl)
  ·refine Al hs (Ab (Aa Ad rfl (qa rfl (Ac ?_))))
   obtain rfl := sj h
   refine Al (sm [] [(4, .e (.one (.pure (.val (.bool true)))))] [] rfl rfl) (AC ?_)
   exact ⟨⟨[_], ⟨.tmp _ _ rfl, trivial⟩, rfl⟩, trivial⟩
set_option maxRecDepth 10000 in
theorem Hy (N : Nat) (p0 : List Int) (p1 : Int → Option Bool) (r : Int) (h : Dt N p0 p1 = some r) : AB Try.prog 92 [.e (.one (.pure (.sl (p0.map Ag)))), .e (.one (.clo (If (L0 false Ag) tB p1)))] [] (.e (.one (.pure (.val (.int .i64 r))))) := by
 unfold Dt at h
 refine Aq (n := 19) (rs := [.tmp 4]) Try.func92 rfl rfl rfl (BM rfl) (BM rfl) rfl fun w0 S0 => ?_
 refine Ab (Aa Ad rfl (qa rfl (Ac (Ab (Ab (Aa Ad rfl (qm rfl (AS AE rfl (qm rfl (Ac ?_))))))))))
 refine AR (L := Bg N p0 p1) h (fun v1 => mk [(0, .e (.one (.pure (.sl (p0.map Ag))))), (1, .e (.one (.clo (If (L0 false Ag) tB p1)))), (7, .e (.one (.pure (.val (.int .i64 ((p0.length : Int))))))), (8, .e (.one (.pure (.val (.int .i64 v1)))))] []) (fun v2 => mk [] []) (fun _ _ => rfl) (sm [] _ _ rfl rfl) (fun j1 n1 v1 h => ?_) (fun v2 s h hs => ?_)
 ·unfold Bg at h
  refine Ab (Aa Ad rfl (A8 rfl (Ac (Ab ?_))))
  refine As rfl (fun c3 => ?_) (fun c3 => ?_)
  ·have h := Ao c3 h
   refine Au (Ab (AU (Ab (Aa Ad rfl (qm rfl (qa rfl (Ac (Ab (Aa Ad rfl (qm rfl (qm rfl (qm rfl ?_))))))))))))
   obtain ⟨v4, a4, b4, h⟩ := Am h
   refine qi AE C7 a4 (Aj b4) rfl (qk B7 rfl ?_)
   obtain ⟨v5, a5, h⟩ := bind_some h
   refine Kr (ds0 := [_]) (ar := (L0 false Ag) v4) (.p rfl) rfl rfl ⟨rfl, trivial⟩ rfl rfl rfl (KV (Ku _ _ Oq) a5) ?_
   refine Ac ?_
   refine As rfl (fun c6 => ?_) (fun c6 => ?_)
   ·have h := Ao c6 h
    refine Ab (Aa Ad rfl (qm rfl (qa rfl (Ac ?_))))
    obtain rfl := sj h
    refine Al (sm [] [(4, .e (.one (.pure (.val (.int .i64 v1)))))] [] rfl rfl) (AC ?_)
    exact ⟨⟨[_], ⟨.tmp _ _ rfl, trivial⟩, rfl⟩, trivial⟩
   ·have h := Ap c6 h
    refine Au (Aa Ad rfl (Bp rfl (qm rfl (Ac ?_))))
    exact Aw _ h (sm [] _ _ rfl rfl)
  ·have h := Ap c3 h
   refine A5 ?_
   exact Aw _ h (sm [] _ _ rfl rfl)
 ·refine Al hs (Ab (Aa Ad rfl (qa rfl (Ac ?_))))
  obtain rfl := sj h
  refine Al (sm [] [(4, .e (.one (.pure (.val (.int .i64 ((-1)))))))] [] rfl rfl) (AC ?_)
  exact ⟨⟨[_], ⟨.tmp _ _ rfl, trivial⟩, rfl⟩, trivial⟩
set_option maxRecDepth 10000 in
theorem GW (N : Nat) (p0 : List Int) (p1 : Int → Option Bool) (r : Bool) (h : Co N p0 p1 = some r) : AB Try.prog 66 [.e (.one (.pure (.sl (p0.map Ag)))), .e (.one (.clo (If (L0 false Ag) tB p1)))] [] (.e (.one (.pure (.val (.bool r))))) := by
 unfold Co at h
 refine Aq (n := 9) (rs := [.tmp 4]) Try.func66 rfl rfl rfl (BM rfl) (BM rfl) rfl fun w0 S0 => ?_
 refine Ab (Aa Ad rfl (qa rfl (Ac (Ab (Aa Ad rfl (qm rfl (qm rfl ?_)))))))
 obtain ⟨v1, a1, h⟩ := bind_some h
 refine AK [] (Hy N p0 p1 v1 a1) XU rfl (Ey rfl (qa rfl (Ac ?_)))
 obtain rfl := sj h
 refine Al (sm [] [(4, .e (.one (.pure (.val (.bool ((decide (0 ≤ v1))))))))] [] rfl rfl) (AC ?_)
 exact ⟨⟨[_], ⟨.tmp _ _ rfl, trivial⟩, rfl⟩, trivial⟩
set_option maxRecDepth 10000 in
theorem OW (N : Nat) (p0 : Int) (r : Bool) (h : FK N p0 = some r) : AB Try.prog 79 [.e (.one (.pure (.val (.int .i64 p0))))] [] (.e (.one (.pure (.val (.bool r))))) := by
 unfold FK at h
 refine Aq (n := 5) (rs := [.tmp 2]) Try.func79 rfl rfl rfl (BM rfl) (BM rfl) rfl fun w0 S0 => ?_
 refine Ab (Aa Ad rfl (qa rfl (Ac (Ab (Aa Ad rfl (qm rfl (Ey rfl (qa rfl (Ac ?_)))))))))
 obtain rfl := sj h
 refine Al (sm [] [(2, .e (.one (.pure (.val (.bool ((decide (0 ≤ p0))))))))] [] rfl rfl) (AC ?_)
 exact ⟨⟨[_], ⟨.tmp _ _ rfl, trivial⟩, rfl⟩, trivial⟩
set_option maxRecDepth 10000 in
theorem MR (N : Nat) (p0 : Ae) (p1 : Ah) (r : Bool) (h : F7 N p0 p1 = some r) : AB Try.prog 40 [.e (.agg [.pure (.sl (p0.fVersions.map Ag)), .pure (.sl (p0.fNow.map Ag)), .pure (.sl (p0.fTarget.map Ag)), .pure (.sl (p0.fTables.map Ai))]), .e (.agg [.pure (.sl (p1.fBase.map Ag)), .pure (.sl (p1.fNext.map Ag)), .pure (.sl (p1.fHeld.map A3))])] [] (.e (.one (.pure (.val (.bool r))))) := by
 unfold F7 at h
 refine Aq (n := 22) (rs := [.tmp 4]) Try.func40 rfl rfl rfl (BM rfl) (BM rfl) rfl fun w0 S0 => ?_
 refine Ab (Aa Ad rfl (qb rfl (qb rfl (qa rfl (Ac ?_)))))
 refine AW h (fun v1 => mk [(4, .e (.one (.pure (.val (.bool v1)))))] []) (fun j1 h => ?_) (fun v1 h => ?_)
 ·refine Aa Ad rfl (qL DM Dw rfl (qL Bq AT rfl ?_))
  obtain ⟨v2, a2, h⟩ := bind_some h
  refine AK [] (H3 N p0 p1 v2 a2) TB rfl (B4 rfl (qm rfl ?_))
  refine AI (t := 9) rfl (fun c3 => ?_) (fun c3 => ?_)
  ·have h := Ao c3 h
   refine qf Cy rfl (ql A9 rfl (qf Hf rfl (ql A9 rfl ?_)))
   obtain ⟨v4, a4, h⟩ := bind_some h
   refine AK [] (IF N p1.fBase p0.fTarget v4 a4) Xy rfl (qp rfl (qm rfl ?_))
   refine AI (t := 16) rfl (fun c5 => ?_) (fun c5 => ?_)
   ·have h := Ao c5 h
    refine qf By rfl (ql A9 rfl ?_)
    obtain ⟨v6, a6, h⟩ := bind_some h
    refine AK [] (AB.weak (ds' := [.e (.one (.pure (.sl (p1.fNext.map Ag)))), .e (.one (.fnc 79))]) (GW N p1.fNext ((fun (x : Int) => FK N x)) v6 a6) ⟨(fun _ _ _ hh => hh), (fun _ _ _ hh => Ul Xu (fun ar t ht => by obtain ⟨x, r, rfl, hq, rfl⟩ := JM ht; exact OW N x r hq) hh), trivial⟩) X2 rfl ?_
    refine CE rfl (qp rfl (qa rfl (Ac ?_)))
    exact Aw _ h (sm [] _ _ rfl rfl)
   ·have h := Ap c5 h
    refine qn rfl (qn rfl (qn rfl (qn rfl (qp rfl (qa rfl (Ac ?_))))))
    exact Aw _ h (sm [] _ _ rfl rfl)
  ·have h := Ap c3 h
   refine qn rfl (qn rfl (qn rfl (qn rfl (qn rfl (qp rfl (qm rfl (qn rfl (qn rfl (qn rfl (qn rfl (qp rfl (qa rfl (Ac ?_)))))))))))))
   exact Aw _ h (sm [] _ _ rfl rfl)
 ·obtain rfl := sj h
  refine Al (sm [] [(4, .e (.one (.pure (.val (.bool v1)))))] [] rfl rfl) (AC ?_)
  exact ⟨⟨[_], ⟨.tmp _ _ rfl, trivial⟩, rfl⟩, trivial⟩
set_option maxRecDepth 10000 in
theorem M7 (N : Nat) (p0 : AD) (p1 : List Int) (p2 : List Int) (p3 : List Int) (p4 : List AF) (r : Bool) (h : D4 N p0 p1 p2 p3 p4 = some r) : AB Try.prog 57 [.e (.agg [.pure (.sl (p0.fM.fBase.map Ag)), .pure (.sl (p0.fM.fNext.map Ag)), .pure (.sl (p0.fM.fHeld.map A3)), .pure (.val (.int .i64 p0.fFrom)), .pure (.val (.int .i64 p0.fBy.fKind)), .pure (.val (.int .i64 p0.fBy.fIndex)), .pure (.val (.int .i64 p0.fBy.fVersion)), .pure (.sl (p0.fNext.map Ag))]), .e (.one (.rop [.sl (p1.map Ag), .sl (p2.map Ag), .sl (p3.map Ag), .sl (p4.map Ai)]))] [] (.e (.one (.pure (.val (.bool r))))) := by
 unfold D4 at h
 refine Aq (n := 8) (rs := [.tmp 3]) Try.func57 rfl rfl rfl (BM rfl) (BM rfl) rfl fun w0 S0 => ?_
 refine Ab (Aa Ad rfl (qb rfl (qa rfl (Ac (Ab (Aa Ad rfl (qK DM Dw rfl (qf ME rfl (qL Bq AT rfl ?_)))))))))
 obtain ⟨v1, a1, h⟩ := bind_some h
 refine AK [] (MR N ((Ae.mk p1 p2 p3 p4)) ((Ah.mk p0.fM.fBase p0.fM.fNext p0.fM.fHeld)) v1 a1) WK rfl (qa rfl (Ac ?_))
 obtain rfl := sj h
 refine Al (sm [] [(3, .e (.one (.pure (.val (.bool v1)))))] [] rfl rfl) (AC ?_)
 exact ⟨⟨[_], ⟨.tmp _ _ rfl, trivial⟩, rfl⟩, trivial⟩
set_option maxRecDepth 10000 in
theorem Fv (N : Nat) (p0 : List AD) (p1 : AD → Option Bool) (r : Int) (h : B5 N p0 p1 = some r) : AB Try.prog 56 [.e (.one (.pure (.sl (p0.map Bd)))), .e (.one (.clo (If (L0 true Bd) tB p1)))] [] (.e (.one (.pure (.val (.int .i64 r))))) := by
 unfold B5 at h
 refine Aq (n := 19) (rs := [.tmp 4]) Try.func56 rfl rfl rfl (BM rfl) (BM rfl) rfl fun w0 S0 => ?_
 refine Ab (Aa Ad rfl (qa rfl (Ac (Ab (Ab (Aa Ad rfl (qm rfl (AS Hb rfl (qm rfl (Ac ?_))))))))))
 refine AR (L := AV N p0 p1) h (fun v1 => mk [(0, .e (.one (.pure (.sl (p0.map Bd))))), (1, .e (.one (.clo (If (L0 true Bd) tB p1)))), (7, .e (.one (.pure (.val (.int .i64 ((p0.length : Int))))))), (8, .e (.one (.pure (.val (.int .i64 v1)))))] []) (fun v2 => mk [] []) (fun _ _ => rfl) (sm [] _ _ rfl rfl) (fun j1 n1 v1 h => ?_) (fun v2 s h hs => ?_)
 ·unfold AV at h
  refine Ab (Aa Ad rfl (A8 rfl (Ac (Ab ?_))))
  refine As rfl (fun c3 => ?_) (fun c3 => ?_)
  ·have h := Ao c3 h
   refine Au (Ab (AU (Ab (Aa Ad rfl (qm rfl (qa rfl (Ac (Ab (Aa Ad rfl (qm rfl (qm rfl (qm rfl ?_))))))))))))
   obtain ⟨v4, a4, b4, h⟩ := Am h
   refine qi Hb IR a4 (Aj b4) rfl (qK WO IR rfl ?_)
   obtain ⟨v5, a5, h⟩ := bind_some h
   refine Kr (ds0 := [_]) (ar := (L0 true Bd) ((AD.mk ((Ah.mk v4.fM.fBase v4.fM.fNext v4.fM.fHeld)) v4.fFrom ((Af.mk v4.fBy.fKind v4.fBy.fIndex v4.fBy.fVersion)) v4.fNext))) (.p rfl) rfl rfl ⟨rfl, trivial⟩ rfl rfl rfl (KV (Ku _ _ P3) a5) ?_
   refine Ac ?_
   refine As rfl (fun c6 => ?_) (fun c6 => ?_)
   ·have h := Ao c6 h
    refine Ab (Aa Ad rfl (qm rfl (qa rfl (Ac ?_))))
    obtain rfl := sj h
    refine Al (sm [] [(4, .e (.one (.pure (.val (.int .i64 v1)))))] [] rfl rfl) (AC ?_)
    exact ⟨⟨[_], ⟨.tmp _ _ rfl, trivial⟩, rfl⟩, trivial⟩
   ·have h := Ap c6 h
    refine Au (Aa Ad rfl (Bp rfl (qm rfl (Ac ?_))))
    exact Aw _ h (sm [] _ _ rfl rfl)
  ·have h := Ap c3 h
   refine A5 ?_
   exact Aw _ h (sm [] _ _ rfl rfl)
 ·refine Al hs (Ab (Aa Ad rfl (qa rfl (Ac ?_))))
  obtain rfl := sj h
  refine Al (sm [] [(4, .e (.one (.pure (.val (.int .i64 ((-1)))))))] [] rfl rfl) (AC ?_)
  exact ⟨⟨[_], ⟨.tmp _ _ rfl, trivial⟩, rfl⟩, trivial⟩
set_option maxRecDepth 10000 in
theorem F0 (N : Nat) (p0 : List Af) (r : (List Af)) (h : Bu N p0 = some r) : FC Try.prog 88 [.e (.one (.own 90000))] [(.vec 3 (p0.map Ay), .vec 3 (r.map Ay))] [] (.tup []) := by
 unfold Bu at h
 refine Gl (n := 28) (rs := []) Try.func88 rfl rfl rfl (BM rfl) (BM rfl) rfl rfl (BM rfl) rfl (BM rfl) fun w0 S0 GL => Wk ?_
 refine Al (sm [] [(0, .e (.one (.own 90000)))] [(90000, .vec 3 (p0.map Ay))] rfl rfl) (Ab (Aa Ad rfl (qm rfl (Fx CU rfl (Nu rfl (qa rfl (qa rfl (Ac ?_))))))))
 refine AR (L := Bi N) h (fun v1 => mk [(0, .e (.one (.own 90000))), (2, .e (.one (.pure (.val (.int .i64 v1.2.1))))), (3, .e (.one (.pure (.val (.int .i64 v1.2.2)))))] [(90000, .vec 3 (v1.1.map Ay))]) (fun v2 => mk [] [(90000, .vec 3 (v2.map Ay))]) (fun _ _ => rfl) (sm [] _ _ rfl rfl) (fun j1 n1 v1 h => ?_) (fun v2 s h hs => ?_)
 ·unfold Bi at h
  refine Ab (Ab (Aa Ad rfl (qm rfl (qm rfl (A8 rfl (Ac ?_))))))
  refine As rfl (fun c3 => ?_) (fun c3 => ?_)
  ·have h := Ao c3 h
   refine Au (Ab (AU (Aa Ad rfl (qm rfl (qm rfl (qm rfl (qm rfl (qm rfl (qm rfl ?_)))))))))
   obtain ⟨v4, a4, b4, h⟩ := Am h
   refine qI CU Dj a4 (Aj b4) rfl (qJ GB Dj (Aj b4) rfl (qm rfl (qm rfl ?_)))
   obtain ⟨v5, a5, b5, h⟩ := Am h
   refine qI CU Dj a5 (Aj b5) rfl (qJ GB Dj (Aj b5) rfl ?_)
   obtain ⟨v6, a6, b6, h⟩ := Am h
   refine qI CU Dj a6 (Aj b6) rfl ?_
   refine D1 rfl rfl rfl rfl (Aj b6) rfl Dj rfl (BM rfl) (DO Ay v1.1 _ v4) ?_
   obtain ⟨v7, a7, b7, h⟩ := Am h
   refine qI CU Dj a7 (Aj b7) rfl ?_
   refine D1 rfl rfl rfl rfl (Aj b7) rfl Dj rfl (BM rfl) (DO Ay (v1.1.set ((v1.2.1).toNat) v4) _ v5) ?_
   refine A0 (by kernel_rfl) (Aa Ad rfl (qm rfl (Bp rfl (qm rfl (Nu rfl (qa rfl (qa rfl (Ac ?_))))))))
   exact Aw _ h (sm [] _ _ rfl rfl)
  ·have h := Ap c3 h
   refine A5 ?_
   exact Aw _ h (sm [] _ _ rfl rfl)
 ·obtain rfl := sj h
  refine ⟨_, hs.trans (sm [] [] [(90000, .vec 3 (v2.map Ay))] rfl rfl), ?_⟩
  exact ⟨⟨[], trivial, rfl⟩, ⟨rfl, trivial⟩, trivial⟩
set_option maxRecDepth 10000 in
theorem Qn (N : Nat) (p0 : List AD) (p1 : Int) (r : (List Af)) (h : HX N p0 p1 = some r) : AB Try.prog 58 [.e (.one (.pure (.sl (p0.map Bd)))), .e (.one (.pure (.val (.int .i64 p1))))] [(3, r.map Ay)] (.e (.one (.own 0))) := by
 unfold HX at h
 refine Aq (n := 28) (rs := [.tmp 4]) Try.func58 rfl rfl rfl (BM rfl) (BM rfl) rfl fun w0 S0 => ?_
 refine Ab (Aa Ad rfl (qa rfl (Ac (Ab (Aa Ad rfl (qa rfl (Ac (Ab ?_))))))))
 refine AR (L := ES N p0) h (fun v1 => mk [(0, .e (.one (.pure (.sl (p0.map Bd))))), (1, .e (.one (.pure (.val (.int .i64 v1.1))))), (5, .e (.one (.own 2001)))] [(2001, .vec 3 (v1.2.map Ay))]) (fun v2 => mk [(5, .e (.one (.own 2002)))] [(2002, .vec 3 (v2.map Ay))]) (fun _ _ => rfl) ((BF 5 2003 3 rfl rfl rfl).trans (sm [(2001, 2003)] _ _ rfl rfl)) (fun j1 n1 v1 h => ?_) (fun v2 s h hs => ?_)
 ·unfold ES at h
  refine Ab (Ab (Aa Ad rfl (qm rfl (qm rfl ?_))))
  obtain ⟨v3, a3, b3, h⟩ := Am h
  refine qi Hb IR a3 (Aj b3) rfl (qg PJ rfl (qk B7 rfl (Ey rfl (Ac ?_))))
  refine As rfl (fun c4 => ?_) (fun c4 => ?_)
  ·have h := Ao c4 h
   refine Au (Ab (AU (Aa Ad rfl (qm rfl (qm rfl (qm rfl ?_))))))
   obtain ⟨v5, a5, b5, h⟩ := Am h
   refine qi Hb IR a5 (Aj b5) rfl (qg SV rfl (qK GB Dj rfl (En CU Dj Gx rfl ?_)))
   obtain ⟨c6, h⟩ := AN h
   refine Dy (f := Ay) CU CU Dj N4 Gx c6 rfl (qa rfl (Ac (Aa Ad rfl (qm rfl (qm rfl ?_)))))
   obtain ⟨v7, a7, b7, h⟩ := Am h
   refine qi Hb IR a7 (Aj b7) rfl (qg PJ rfl (qk B7 rfl (qa rfl (Ac ?_))))
   exact Aw _ h (sm [(2001, 24)] _ _ rfl rfl)
  ·have h := Ap c4 h
   refine A5 ?_
   exact Aw _ h (sm [(2002, 2001)] _ _ rfl rfl)
 ·refine Al hs (Ab (Aa Ad rfl (qm rfl ?_)))
  obtain ⟨v8, a8, h⟩ := bind_some h
  refine L1 (ds0 := [_]) [2002] [] [true] (F0 N v2 v8 a8) (.p rfl) X5 rfl ⟨rfl, trivial⟩ rfl rfl (by decide) ⟨rfl, trivial⟩ rfl (H4 rfl) trivial ⟨(fun h => by cases h), trivial⟩ rfl rfl rfl ?_
  refine Ac (Ab (Aa Ad rfl (qm rfl (qa rfl (Ac ?_)))))
  obtain rfl := sj h
  refine Al (sm [(1000, 2002)] [(4, .e (.one (.own 1000)))] [(1000, .vec 3 (v8.map Ay))] rfl rfl) (AC ?_)
  exact ⟨⟨[_], ⟨.tmp _ _ rfl, trivial⟩, rfl⟩, ⟨rfl, trivial⟩⟩
set_option maxRecDepth 10000 in
theorem LP (N : Nat) (p0 : Ae) (p1 : Ah) (r : (List Af) × Int) (h : El N p0 p1 = some r) : AB Try.prog 27 [.e (.agg [.pure (.sl (p0.fVersions.map Ag)), .pure (.sl (p0.fNow.map Ag)), .pure (.sl (p0.fTarget.map Ag)), .pure (.sl (p0.fTables.map Ai))]), .e (.agg [.pure (.sl (p1.fBase.map Ag)), .pure (.sl (p1.fNext.map Ag)), .pure (.sl (p1.fHeld.map A3))])] [(3, r.1.map Ay)] (.tup [.one (.own 0), .one (.pure (.val (.int .i64 r.2)))]) := by
 unfold El at h
 refine Aq (n := 38) (rs := [.tmp 4, .tmp 5]) Try.func27 rfl rfl rfl (BM rfl) (BM rfl) rfl fun w0 S0 => ?_
 refine Ab (Aa Ad rfl (qb rfl (qb rfl (qa rfl (qa rfl (Ac (Ab (Aa Ad rfl (qL DM Dw rfl (qL Bq AT rfl ?_))))))))))
 obtain ⟨v1, a1, h⟩ := bind_some h
 refine AK [] (KC N p0 p1 v1 a1) WH rfl (qm rfl (qx rfl (qx rfl (qa rfl (qa rfl (Ac (Ab (Ab (Aa Ad rfl (qm rfl (CD rfl (Ac ?_))))))))))))
 refine As rfl (fun c2 => ?_) (fun c2 => ?_)
 ·have h := Ao c2 h
  refine Ab (Aa Ad rfl (qm rfl (qa rfl (qa rfl (Ac ?_)))))
  obtain rfl := sj h
  refine Al ((BF 4 2001 3 rfl rfl rfl).trans (sm [(1000, 2001)] [(4, .e (.one (.own 1000))), (5, .e (.one (.pure (.val (.int .i64 v1.2)))))] [(1000, .vec 3 ((([] : List Af)).map Ay))] rfl rfl)) (AC ?_)
  exact ⟨⟨[_, _], ⟨.tmp _ _ rfl, ⟨.tmp _ _ rfl, trivial⟩⟩, rfl⟩, ⟨rfl, trivial⟩⟩
 ·have h := Ap c2 h
  refine Au (Ab (Ab (Aa Ad rfl (qm rfl (CE rfl (Ac ?_))))))
  refine As rfl (fun c3 => ?_) (fun c3 => ?_)
  ·have h := Ao c3 h
   refine Ab (Aa Ad rfl (qa rfl (qa rfl (Ac ?_))))
   obtain rfl := sj h
   refine Al ((BF 4 2002 3 rfl rfl rfl).trans (sm [(1000, 2002)] [(4, .e (.one (.own 1000))), (5, .e (.one (.pure (.val (.int .i64 13)))))] [(1000, .vec 3 ((([] : List Af)).map Ay))] rfl rfl)) (AC ?_)
   exact ⟨⟨[_, _], ⟨.tmp _ _ rfl, ⟨.tmp _ _ rfl, trivial⟩⟩, rfl⟩, ⟨rfl, trivial⟩⟩
  ·have h := Ap c3 h
   refine Au (Ab (Aa Ad rfl (qL DM Dw rfl (qL Bq AT rfl ?_))))
   obtain ⟨v4, a4, h⟩ := bind_some h
   refine AK [] (Ng N p0 p1 v4 a4) XK rfl (qm rfl (qx rfl (qx rfl (qa rfl (qa rfl (Ac (Ab (Ab (Aa Ad rfl (qm rfl (CD rfl (Ac ?_))))))))))))
   refine As rfl (fun c5 => ?_) (fun c5 => ?_)
   ·have h := Ao c5 h
    refine Ab (Aa Ad rfl (qm rfl (qa rfl (qa rfl (Ac ?_)))))
    obtain rfl := sj h
    refine Al ((BF 4 2003 3 rfl rfl rfl).trans (sm [(1000, 2003)] [(4, .e (.one (.own 1000))), (5, .e (.one (.pure (.val (.int .i64 v4.2)))))] [(1000, .vec 3 ((([] : List Af)).map Ay))] rfl rfl)) (AC ?_)
    exact ⟨⟨[_, _], ⟨.tmp _ _ rfl, ⟨.tmp _ _ rfl, trivial⟩⟩, rfl⟩, ⟨rfl, trivial⟩⟩
   ·have h := Ap c5 h
    refine Au (Ab (Aa Ad rfl (qm rfl (Du (Ld 2 [.sl (p0.fVersions.map Ag), .sl (p0.fNow.map Ag), .sl (p0.fTarget.map Ag), .sl (p0.fTables.map Ai)] rfl rfl) ?_))))
    refine J8 (capD := [_]) (If (L0 true Bd) tB ((fun (x : AD) => D4 N x p0.fVersions p0.fNow p0.fTarget p0.fTables))) (.p rfl) Xz rfl ⟨rfl, trivial⟩ rfl (fun ar t ht => by obtain ⟨x, r, rfl, hq, rfl⟩ := JM ht; exact M7 N x p0.fVersions p0.fNow p0.fTarget p0.fTables r hq) ?_
    obtain ⟨v6, a6, h⟩ := bind_some h
    refine AK [] (Fv N v4.1 ((fun (x : AD) => D4 N x p0.fVersions p0.fNow p0.fTarget p0.fTables)) v6 a6) Xx rfl (qa rfl (Ac (Ab (Ab (Aa Ad rfl (qm rfl (A8 rfl (Ac ?_))))))))
    refine As rfl (fun c7 => ?_) (fun c7 => ?_)
    ·have h := Ao c7 h
     refine Ab (Aa Ad rfl (qa rfl (qa rfl (Ac ?_))))
     obtain rfl := sj h
     refine Al ((BF 4 2004 3 rfl rfl rfl).trans (sm [(1000, 2004)] [(4, .e (.one (.own 1000))), (5, .e (.one (.pure (.val (.int .i64 14)))))] [(1000, .vec 3 ((([] : List Af)).map Ay))] rfl rfl)) (AC ?_)
     exact ⟨⟨[_, _], ⟨.tmp _ _ rfl, ⟨.tmp _ _ rfl, trivial⟩⟩, rfl⟩, ⟨rfl, trivial⟩⟩
    ·have h := Ap c7 h
     refine Au (Ab (Aa Ad rfl (qm rfl (qm rfl ?_))))
     obtain ⟨v8, a8, h⟩ := bind_some h
     refine AK [2005] (Qn N v4.1 v6 v8 a8) Xq rfl (qa rfl (qa rfl (Ac ?_)))
     obtain rfl := sj h
     refine Al (sm [(1000, 2005)] [(4, .e (.one (.own 1000))), (5, .e (.one (.pure (.val (.int .i64 0)))))] [(1000, .vec 3 (v8.map Ay))] rfl rfl) (AC ?_)
     exact ⟨⟨[_, _], ⟨.tmp _ _ rfl, ⟨.tmp _ _ rfl, trivial⟩⟩, rfl⟩, ⟨rfl, trivial⟩⟩
set_option maxRecDepth 10000 in
theorem Jl (N : Nat) (p0 : Ae) (r : (List Af) × Int) (h : Gg N p0 = some r) : AB Try.prog 13 [.e (.agg [.pure (.sl (p0.fVersions.map Ag)), .pure (.sl (p0.fNow.map Ag)), .pure (.sl (p0.fTarget.map Ag)), .pure (.sl (p0.fTables.map Ai))])] [(3, r.1.map Ay)] (.tup [.one (.own 0), .one (.pure (.val (.int .i64 r.2)))]) := by
 unfold Gg at h
 refine Aq (n := 19) (rs := [.tmp 2, .tmp 3]) Try.func13 rfl rfl rfl (BM rfl) (BM rfl) rfl fun w0 S0 => ?_
 refine Ab (Aa Ad rfl (qb rfl (qa rfl (qa rfl (Ac (Ab (Aa Ad rfl (qL DM Dw rfl ?_))))))))
 obtain ⟨v1, a1, h⟩ := bind_some h
 refine AK [2001, 2002, 2003] (LD N p0 v1 a1) WN rfl (qm rfl (qx rfl (qx rfl (qz Di rfl (qs AT rfl (qa rfl (Ac (Ab (Ab (Aa Ad rfl (qm rfl (CD rfl (Ac ?_)))))))))))))
 refine As rfl (fun c2 => ?_) (fun c2 => ?_)
 ·have h := Ao c2 h
  refine Ab (Aa Ad rfl (qm rfl (qa rfl (qa rfl (Ac ?_)))))
  obtain rfl := sj h
  refine Al ((BF 2 2004 3 rfl rfl rfl).trans (sm [(1000, 2004)] [(2, .e (.one (.own 1000))), (3, .e (.one (.pure (.val (.int .i64 v1.2)))))] [(1000, .vec 3 ((([] : List Af)).map Ay))] rfl rfl)) (AC ?_)
  exact ⟨⟨[_, _], ⟨.tmp _ _ rfl, ⟨.tmp _ _ rfl, trivial⟩⟩, rfl⟩, ⟨rfl, trivial⟩⟩
 ·have h := Ap c2 h
  refine Au (Ab (Aa Ad rfl (qL DM Dw rfl (qL Bq AT rfl ?_))))
  obtain ⟨v3, a3, h⟩ := bind_some h
  refine Ed [2005] [2001, 2002, 2003] (LP N p0 v1.1 v3 a3) WW (E4 (fun _ => rfl) CO) rfl (qx rfl (qx rfl (qa rfl (qa rfl (Ac ?_)))))
  obtain rfl := sj h
  refine Al (sm [(1000, 2005)] [(2, .e (.one (.own 1000))), (3, .e (.one (.pure (.val (.int .i64 v3.2)))))] [(1000, .vec 3 (v3.1.map Ay))] rfl rfl) (AC ?_)
  exact ⟨⟨[_, _], ⟨.tmp _ _ rfl, ⟨.tmp _ _ rfl, trivial⟩⟩, rfl⟩, ⟨rfl, trivial⟩⟩
set_option maxRecDepth 10000 in
theorem JA (N : Nat) (p0 : Ae) (p1 : List Af) (r : Int × Ah × An × Int) (h : FX N p0 p1 = some r) : AB Try.prog 19 [.e (.agg [.pure (.sl (p0.fVersions.map Ag)), .pure (.sl (p0.fNow.map Ag)), .pure (.sl (p0.fTarget.map Ag)), .pure (.sl (p0.fTables.map Ai))]), .e (.one (.pure (.sl (p1.map Ay))))] [] (.tup [.one (.pure (.val (.int .i64 r.1))), .agg [.pure (.sl (r.2.1.fBase.map Ag)), .pure (.sl (r.2.1.fNext.map Ag)), .pure (.sl (r.2.1.fHeld.map A3))], .agg [.pure (.val (.int .i64 r.2.2.1.fTable)), .pure (.val (.int .i64 r.2.2.1.fWriter)), .pure (.val (.int .i64 r.2.2.1.fReader))], .one (.pure (.val (.int .i64 r.2.2.2)))]) := by
 unfold FX at h
 refine Aq (n := 89) (rs := [.tmp 4, .cell 5 43, .cell 6 45, .tmp 7]) Try.func19 rfl rfl rfl (BM rfl) (BM rfl) rfl fun w0 S0 => ?_
 refine Ab (Aa Ad rfl (qb rfl (qa rfl (qz Di rfl (qz GZ rfl (qa rfl (Ac (Ab (Aa Ad rfl (qL DM Dw rfl ?_))))))))))
 obtain ⟨v1, a1, h⟩ := bind_some h
 refine AK [2001, 2002, 2003] (LD N p0 v1 a1) WN rfl (qm rfl (qx rfl (qx rfl (qz Di rfl (qs AT rfl (qa rfl (Ac (Ab (Ab (Aa Ad rfl (qm rfl (CD rfl (Ac ?_)))))))))))))
 refine As rfl (fun c2 => ?_) (fun c2 => ?_)
 ·have h := Ao c2 h
  refine Ab (Aa Ad rfl (A7 Di GG rfl (A7 GZ Mc rfl (qm rfl (qa rfl (qs AT rfl (qs Fo rfl (qa rfl (Ac ?_)))))))))
  obtain rfl := sj h
  refine Al ((Hr 5 _ rfl).trans (sm [] [(4, .e (.one (.pure (.val (.int .i64 0))))), (5, .e (.one (.ptr 5 0))), (6, .e (.one (.ptr 6 0))), (7, .e (.one (.pure (.val (.int .i64 v1.2)))))] [(5, .box [.pure (.sl ((([] : List Int)).map Ag)), .pure (.sl ((([] : List Int)).map Ag)), .pure (.sl ((([] : List Int)).map A3))]), (6, .box [.pure (.val (.int .i64 0)), .pure (.val (.int .i64 0)), .pure (.val (.int .i64 0))])] rfl rfl)) (AC ?_)
  exact ⟨⟨[_, _, _, _], ⟨.tmp _ _ rfl, ⟨.cellN _ _ _ _ _ _ _ rfl rfl Bq AT rfl rfl (Hm rfl), ⟨.cellN _ _ _ _ _ _ _ rfl rfl Lq Fo rfl rfl (Hm rfl), ⟨.tmp _ _ rfl, trivial⟩⟩⟩⟩, rfl⟩, trivial⟩
 ·have h := Ap c2 h
  refine Au (Ab (Ab (Aa Ad rfl (qL DM Dw rfl (qL Bq AT rfl (Du (Ba 2001 _ _ rfl rfl) (Du (Ba 2002 _ _ rfl rfl) (Du (Ba 2003 _ _ rfl rfl) ?_))))))))
  obtain ⟨v3, a3, h⟩ := bind_some h
  refine AK [] (Jq N p0 v1.1 v3 a3) Va rfl (qm rfl (qx rfl (qx rfl (qx rfl (qz Di rfl (qz GZ rfl (qs AT rfl (qs Fo rfl (qa rfl (Ac (Ab (Aa Ad rfl (qm rfl (B4 rfl (Ac ?_)))))))))))))))
  refine As rfl (fun c4 => ?_) (fun c4 => ?_)
  ·have h := Ao c4 h
   refine Ab (Aa Ad rfl (qL Bq AT rfl (qL Lq Fo rfl (qa rfl (qs AT rfl (qs Fo rfl (qa rfl (A0 (by kernel_rfl) ?_))))))))
   obtain rfl := sj h
   refine Al (sm [] [(4, .e (.one (.pure (.val (.int .i64 ((-1))))))), (5, .e (.one (.ptr 5 0))), (6, .e (.one (.ptr 6 0))), (7, .e (.one (.pure (.val (.int .i64 0)))))] [(5, .box [.pure (.sl (v3.1.fBase.map Ag)), .pure (.sl (v3.1.fNext.map Ag)), .pure (.sl (v3.1.fHeld.map A3))]), (6, .box [.pure (.val (.int .i64 v3.2.1.fTable)), .pure (.val (.int .i64 v3.2.1.fWriter)), .pure (.val (.int .i64 v3.2.1.fReader))])] rfl rfl) (AC ?_)
   exact ⟨⟨[_, _, _, _], ⟨.tmp _ _ rfl, ⟨.cellN _ _ _ _ _ _ _ rfl rfl Bq AT rfl rfl (Hm rfl), ⟨.cellN _ _ _ _ _ _ _ rfl rfl Lq Fo rfl rfl (Hm rfl), ⟨.tmp _ _ rfl, trivial⟩⟩⟩⟩, rfl⟩, trivial⟩
  ·have h := Ap c4 h
   refine Au (Ab (Ab (Aa Ad rfl (qm rfl (AS CU rfl (qm rfl (Ac ?_)))))))
   refine AR (L := E6 N p0 p1) h (fun v5 => mk [(1, .e (.one (.pure (.sl (p1.map Ay))))), (2, .e (.one (.ptr 2 0))), (5, .e (.one (.ptr 5 0))), (6, .e (.one (.ptr 6 0))), (8, .e (.one (.ptr 8 0))), (41, .e (.one (.pure (.sl (p1.map Ay))))), (42, .e (.one (.pure (.val (.int .i64 ((p1.length : Int))))))), (43, .e (.one (.pure (.val (.int .i64 v5.2)))))] [(2, .box [.pure (.sl (p0.fVersions.map Ag)), .pure (.sl (p0.fNow.map Ag)), .pure (.sl (p0.fTarget.map Ag)), .pure (.sl (p0.fTables.map Ai))]), (5, .box [.pure (.nil0), .pure (.nil0), .pure (.nil0)]), (6, .box [.pure (.val (.int .i64 0)), .pure (.val (.int .i64 0)), .pure (.val (.int .i64 0))]), (8, .box [.pure (.sl (v5.1.fBase.map Ag)), .pure (.sl (v5.1.fNext.map Ag)), .pure (.sl (v5.1.fHeld.map A3))])]) (fun v6 => mk [(1, .e (.one (.pure (.sl (p1.map Ay))))), (2, .e (.one (.ptr 2 0))), (5, .e (.one (.ptr 5 0))), (6, .e (.one (.ptr 6 0))), (8, .e (.one (.ptr 8 0)))] [(2, .box [.pure (.sl (p0.fVersions.map Ag)), .pure (.sl (p0.fNow.map Ag)), .pure (.sl (p0.fTarget.map Ag)), .pure (.sl (p0.fTables.map Ai))]), (5, .box [.pure (.nil0), .pure (.nil0), .pure (.nil0)]), (6, .box [.pure (.val (.int .i64 0)), .pure (.val (.int .i64 0)), .pure (.val (.int .i64 0))]), (8, .box [.pure (.sl (v6.fBase.map Ag)), .pure (.sl (v6.fNext.map Ag)), .pure (.sl (v6.fHeld.map A3))])]) (fun _ _ => rfl) (sm [] _ _ rfl rfl) (fun j5 n5 v5 h => ?_) (fun v6 s h hs => ?_)
   ·unfold E6 at h
    refine Ab (Aa Ad rfl (A8 rfl (Ac (Ab ?_))))
    refine As rfl (fun c7 => ?_) (fun c7 => ?_)
    ·have h := Ao c7 h
     refine Au (Ab (AU (Ab (Aa Ad rfl (qm rfl ?_)))))
     obtain ⟨v8, a8, b8, h⟩ := Am h
     refine qi CU Dj a8 (Aj b8) rfl (qK GB Dj rfl (qz Gx rfl (qa rfl (qs Dj rfl (Ac (Ab (Aa Ad rfl (qL DM Dw rfl (qL Bq AT rfl (qL GB Dj rfl ?_))))))))))
     obtain ⟨v9, a9, h⟩ := bind_some h
     refine AK [2004, 2005, 2006] (KI N p0 v5.1 v8 v9 a9) W6 rfl (qm rfl (qx rfl (qx rfl (qz Di rfl (qs AT rfl (qa rfl (Ac (Ab ?_))))))))
     refine AW h (fun v10 => mk [(1, .e (.one (.pure (.sl (p1.map Ay))))), (2, .e (.one (.ptr 2 0))), (5, .e (.one (.ptr 5 0))), (6, .e (.one (.ptr 6 0))), (8, .e (.one (.ptr 8 0))), (13, .e (.one (.pure (.val (.int .i64 v5.2))))), (15, .e (.one (.ptr 15 0))), (41, .e (.one (.pure (.sl (p1.map Ay))))), (42, .e (.one (.pure (.val (.int .i64 ((p1.length : Int))))))), (43, .e (.one (.pure (.val (.int .i64 v5.2))))), (61, .e (.one (.pure (.val (.bool v10)))))] [(2, .box [.pure (.sl (p0.fVersions.map Ag)), .pure (.sl (p0.fNow.map Ag)), .pure (.sl (p0.fTarget.map Ag)), .pure (.sl (p0.fTables.map Ai))]), (5, .box [.pure (.nil0), .pure (.nil0), .pure (.nil0)]), (6, .box [.pure (.val (.int .i64 0)), .pure (.val (.int .i64 0)), .pure (.val (.int .i64 0))]), (8, .box [.pure (.sl (v5.1.fBase.map Ag)), .pure (.sl (v5.1.fNext.map Ag)), .pure (.sl (v5.1.fHeld.map A3))]), (15, .box [.own 2007, .own 2008, .own 2009]), (2007, .vec 1 (v9.1.fBase.map Ag)), (2008, .vec 1 (v9.1.fNext.map Ag)), (2009, .vec 1 (v9.1.fHeld.map A3))]) (fun j10 h => ?_) (fun v10 h => ?_)
     ·refine Aa Ad rfl (qm rfl (CD rfl (qm rfl ?_)))
      refine AI (t := 57) rfl (fun c11 => ?_) (fun c11 => ?_)
      ·have h := Ao c11 h
       refine qn rfl (qn rfl (qn rfl (qp rfl (Ac ?_))))
       exact Aw _ h (sm [(2007, 2004), (2008, 2005), (2009, 2006)] _ _ rfl rfl)
      ·have h := Ap c11 h
       refine qf EO rfl (ql B7 rfl (B4 rfl (qp rfl (Ac ?_))))
       exact Aw _ h (sm [(2007, 2004), (2008, 2005), (2009, 2006)] _ _ rfl rfl)
     ·refine As rfl (fun c12 => ?_) (fun c12 => ?_)
      ·have h := Ao c12 h
       refine Ab (Aa Ad rfl (qm rfl (A7 Di GG rfl (A7 GZ Mc rfl (qa rfl (qs AT rfl (qs Fo rfl (qa rfl (Ac ?_)))))))))
       obtain rfl := sj h
       refine Al ((Hr 5 _ rfl).trans (sm [] [(4, .e (.one (.pure (.val (.int .i64 v5.2))))), (5, .e (.one (.ptr 5 0))), (6, .e (.one (.ptr 6 0))), (7, .e (.one (.pure (.val (.int .i64 0)))))] [(5, .box [.pure (.sl ((([] : List Int)).map Ag)), .pure (.sl ((([] : List Int)).map Ag)), .pure (.sl ((([] : List Int)).map A3))]), (6, .box [.pure (.val (.int .i64 0)), .pure (.val (.int .i64 0)), .pure (.val (.int .i64 0))])] rfl rfl)) (AC ?_)
       exact ⟨⟨[_, _, _, _], ⟨.tmp _ _ rfl, ⟨.cellN _ _ _ _ _ _ _ rfl rfl Bq AT rfl rfl (Hm rfl), ⟨.cellN _ _ _ _ _ _ _ rfl rfl Lq Fo rfl rfl (Hm rfl), ⟨.tmp _ _ rfl, trivial⟩⟩⟩⟩, rfl⟩, trivial⟩
      ·have h := Ap c12 h
       refine Au (Ab (Ab (Aa Ad rfl (qL DM Dw rfl (qL Bq AT rfl (Du (Ba 2007 _ _ rfl rfl) (Du (Ba 2008 _ _ rfl rfl) (Du (Ba 2009 _ _ rfl rfl) ?_))))))))
       obtain ⟨v13, a13, h⟩ := bind_some h
       refine AK [] (Jq N p0 v9.1 v13 a13) Va rfl (qm rfl (qx rfl (qx rfl (qx rfl (qz Di rfl (qz GZ rfl (qs AT rfl (qs Fo rfl (qa rfl (Ac (Ab (Aa Ad rfl (qm rfl (B4 rfl (Ac ?_)))))))))))))))
       refine As rfl (fun c14 => ?_) (fun c14 => ?_)
       ·have h := Ao c14 h
        refine Ab (Aa Ad rfl (qm rfl (qL Bq AT rfl (qL Lq Fo rfl (qa rfl (qs AT rfl (qs Fo rfl (qa rfl (A0 (by kernel_rfl) ?_)))))))))
        obtain rfl := sj h
        refine Al (sm [] [(4, .e (.one (.pure (.val (.int .i64 v5.2))))), (5, .e (.one (.ptr 5 0))), (6, .e (.one (.ptr 6 0))), (7, .e (.one (.pure (.val (.int .i64 0)))))] [(5, .box [.pure (.sl (v13.1.fBase.map Ag)), .pure (.sl (v13.1.fNext.map Ag)), .pure (.sl (v13.1.fHeld.map A3))]), (6, .box [.pure (.val (.int .i64 v13.2.1.fTable)), .pure (.val (.int .i64 v13.2.1.fWriter)), .pure (.val (.int .i64 v13.2.1.fReader))])] rfl rfl) (AC ?_)
        exact ⟨⟨[_, _, _, _], ⟨.tmp _ _ rfl, ⟨.cellN _ _ _ _ _ _ _ rfl rfl Bq AT rfl rfl (Hm rfl), ⟨.cellN _ _ _ _ _ _ _ rfl rfl Lq Fo rfl rfl (Hm rfl), ⟨.tmp _ _ rfl, trivial⟩⟩⟩⟩, rfl⟩, trivial⟩
       ·have h := Ap c14 h
        refine Au (Aa Ad rfl (qL Bq AT rfl (qs AT rfl (Ac (Aa Ad rfl (Bp rfl (qm rfl (Ac ?_))))))))
        exact Aw _ h (sm [] _ _ rfl rfl)
    ·have h := Ap c7 h
     refine A5 ?_
     exact Aw _ h (sm [] _ _ rfl rfl)
   ·refine Al hs (Ab (Ab (Aa Ad rfl (qL DM Dw rfl (qL Bq AT rfl ?_)))))
    obtain ⟨v15, a15, h⟩ := bind_some h
    refine AK [] (MR N p0 v6 v15 a15) WK rfl (CE rfl (Ac ?_))
    refine As rfl (fun c16 => ?_) (fun c16 => ?_)
    ·have h := Ao c16 h
     refine Ab (Aa Ad rfl (qm rfl (AS CU rfl (A7 Di GG rfl (A7 GZ Mc rfl (qa rfl (qs AT rfl (qs Fo rfl (qa rfl (Ac ?_))))))))))
     obtain rfl := sj h
     refine Al ((Hr 5 _ rfl).trans (sm [] [(4, .e (.one (.pure (.val (.int .i64 ((p1.length : Int))))))), (5, .e (.one (.ptr 5 0))), (6, .e (.one (.ptr 6 0))), (7, .e (.one (.pure (.val (.int .i64 14)))))] [(5, .box [.pure (.sl ((([] : List Int)).map Ag)), .pure (.sl ((([] : List Int)).map Ag)), .pure (.sl ((([] : List Int)).map A3))]), (6, .box [.pure (.val (.int .i64 0)), .pure (.val (.int .i64 0)), .pure (.val (.int .i64 0))])] rfl rfl)) (AC ?_)
     exact ⟨⟨[_, _, _, _], ⟨.tmp _ _ rfl, ⟨.cellN _ _ _ _ _ _ _ rfl rfl Bq AT rfl rfl (Hm rfl), ⟨.cellN _ _ _ _ _ _ _ rfl rfl Lq Fo rfl rfl (Hm rfl), ⟨.tmp _ _ rfl, trivial⟩⟩⟩⟩, rfl⟩, trivial⟩
    ·have h := Ap c16 h
     refine Au (Ab (Aa Ad rfl (A7 Di GG rfl (A7 GZ Mc rfl (qa rfl (qs AT rfl (qs Fo rfl (qa rfl (Ac ?_)))))))))
     obtain rfl := sj h
     refine Al ((Hr 5 _ rfl).trans (sm [] [(4, .e (.one (.pure (.val (.int .i64 0))))), (5, .e (.one (.ptr 5 0))), (6, .e (.one (.ptr 6 0))), (7, .e (.one (.pure (.val (.int .i64 15)))))] [(5, .box [.pure (.sl ((([] : List Int)).map Ag)), .pure (.sl ((([] : List Int)).map Ag)), .pure (.sl ((([] : List Int)).map A3))]), (6, .box [.pure (.val (.int .i64 0)), .pure (.val (.int .i64 0)), .pure (.val (.int .i64 0))])] rfl rfl)) (AC ?_)
     exact ⟨⟨[_, _, _, _], ⟨.tmp _ _ rfl, ⟨.cellN _ _ _ _ _ _ _ rfl rfl Bq AT rfl rfl (Hm rfl), ⟨.cellN _ _ _ _ _ _ _ rfl rfl Lq Fo rfl rfl (Hm rfl), ⟨.tmp _ _ rfl, trivial⟩⟩⟩⟩, rfl⟩, trivial⟩
set_option maxRecDepth 10000 in
theorem HB (N : Nat) (p0 : List Af) (p1 : List Af) (r : Bool) (h : DE N p0 p1 = some r) : AB Try.prog 15 [.e (.one (.pure (.sl (p0.map Ay)))), .e (.one (.pure (.sl (p1.map Ay))))] [] (.e (.one (.pure (.val (.bool r))))) := by
 unfold DE at h
 refine Aq (n := 26) (rs := [.tmp 4]) Try.func15 rfl rfl rfl (BM rfl) (BM rfl) rfl fun w0 S0 => ?_
 refine Ab (Aa Ad rfl (qa rfl (Ac (Ab (Ab (Aa Ad rfl (qm rfl (AS CU rfl (qm rfl (AS CU rfl (CD rfl (Ac ?_))))))))))))
 refine As rfl (fun c1 => ?_) (fun c1 => ?_)
 ·have h := Ao c1 h
  refine Ab (Aa Ad rfl (qa rfl (Ac ?_)))
  obtain rfl := sj h
  refine Al (sm [] [(4, .e (.one (.pure (.val (.bool false)))))] [] rfl rfl) (AC ?_)
  exact ⟨⟨[_], ⟨.tmp _ _ rfl, trivial⟩, rfl⟩, trivial⟩
 ·have h := Ap c1 h
  refine Au (Ab (Ab (Aa Ad rfl (qa rfl (Ac ?_)))))
  refine AR (L := CC N p0 p1) h (fun v2 => mk [(0, .e (.one (.pure (.sl (p0.map Ay))))), (1, .e (.one (.pure (.sl (p1.map Ay))))), (5, .e (.one (.pure (.val (.int .i64 v2)))))] []) (fun v3 => mk [] []) (fun _ _ => rfl) (sm [] _ _ rfl rfl) (fun j2 n2 v2 h => ?_) (fun v3 s h hs => ?_)
  ·unfold CC at h
   refine Ab (Ab (Aa Ad rfl (qm rfl (qm rfl (AS CU rfl (A8 rfl (Ac ?_)))))))
   refine As rfl (fun c4 => ?_) (fun c4 => ?_)
   ·have h := Ao c4 h
    refine Au (Ab (AU (Ab (Aa Ad rfl (qm rfl (qm rfl ?_))))))
    obtain ⟨v5, a5, b5, h⟩ := Am h
    refine qi CU Dj a5 (Aj b5) rfl (qK GB Dj rfl (qm rfl (qm rfl ?_)))
    obtain ⟨v6, a6, b6, h⟩ := Am h
    refine qi CU Dj a6 (Aj b6) rfl (qK GB Dj rfl ?_)
    refine V4 [.int .i64 v5.fKind, .int .i64 v5.fIndex, .int .i64 v5.fVersion] [.int .i64 v6.fKind, .int .i64 v6.fIndex, .int .i64 v6.fVersion] (.p rfl) rfl rfl WL rfl ?_
    refine A0 (by kernel_rfl) ?_
    refine As rfl (fun c7 => ?_) (fun c7 => ?_)
    ·have h := Ao c7 h
     refine Ab (Aa Ad rfl (qa rfl (Ac ?_)))
     obtain rfl := sj h
     refine Al (sm [] [(4, .e (.one (.pure (.val (.bool false)))))] [] rfl rfl) (AC ?_)
     exact ⟨⟨[_], ⟨.tmp _ _ rfl, trivial⟩, rfl⟩, trivial⟩
    ·have h := Ap c7 h
     refine Au (Aa Ad rfl (qm rfl (Bp rfl (qa rfl (Ac ?_)))))
     exact Aw _ h (sm [] _ _ rfl rfl)
   ·have h := Ap c4 h
    refine A5 ?_
    exact Aw _ h (sm [] _ _ rfl rfl)
  ·refine Al hs (Ab (Aa Ad rfl (qa rfl (Ac ?_))))
   obtain rfl := sj h
   refine Al (sm [] [(4, .e (.one (.pure (.val (.bool true)))))] [] rfl rfl) (AC ?_)
   exact ⟨⟨[_], ⟨.tmp _ _ rfl, trivial⟩, rfl⟩, trivial⟩
set_option maxRecDepth 10000 in
theorem OI (N : Nat) (p0 : Ae) (p1 : List Af) (r : Bool) (h : Id N p0 p1 = some r) : AB Try.prog 16 [.e (.agg [.pure (.sl (p0.fVersions.map Ag)), .pure (.sl (p0.fNow.map Ag)), .pure (.sl (p0.fTarget.map Ag)), .pure (.sl (p0.fTables.map Ai))]), .e (.one (.pure (.sl (p1.map Ay))))] [] (.e (.one (.pure (.val (.bool r))))) := by
 unfold Id at h
 refine Aq (n := 19) (rs := [.tmp 4]) Try.func16 rfl rfl rfl (BM rfl) (BM rfl) rfl fun w0 S0 => ?_
 refine Ab (Aa Ad rfl (qb rfl (qa rfl (Ac (Ab (Aa Ad rfl (qL DM Dw rfl (qm rfl ?_))))))))
 obtain ⟨v1, a1, h⟩ := bind_some h
 refine AK [] (JA N p0 p1 v1 a1) W0 rfl (qm rfl (qx rfl (qx rfl (qx rfl (qx rfl (qz Di rfl (qz GZ rfl (qa rfl (qs AT rfl (qs Fo rfl (qa rfl (Ac (Ab (Aa Ad rfl (qm rfl (B4 rfl (qa rfl (Ac ?_))))))))))))))))))
 obtain rfl := sj h
 refine Al (sm [] [(4, .e (.one (.pure (.val (.bool ((v1.2.2.2 == 15)))))))] [] rfl rfl) (AC ?_)
 exact ⟨⟨[_], ⟨.tmp _ _ rfl, trivial⟩, rfl⟩, trivial⟩
set_option maxRecDepth 10000 in
theorem He (N : Nat) (r : Bool) (h : DY N = some r) : AB Try.prog 11 [] [] (.e (.one (.pure (.val (.bool r))))) := by
 unfold DY at h
 refine Aq (n := 74) (rs := [.tmp 0]) Try.func11 rfl rfl rfl (BM rfl) (BM rfl) rfl fun w0 S0 => ?_
 refine Ab (Aa Ad rfl (qa rfl (Ac (Ab (Aa Ad rfl ?_)))))
 obtain ⟨v1, a1, h⟩ := bind_some h
 refine AK [2001, 2002, 2003, 2004] (DL N false false v1 a1) Te rfl ?_
 obtain ⟨v2, a2, h⟩ := bind_some h
 refine Ed [2005] [2001, 2002, 2003, 2004] (Jl N v1 v2 a2) Vu (E4 (fun _ => rfl) CO) rfl (qm rfl (qx rfl (qx rfl (qa rfl (qa rfl (Ac (Ab (Aa Ad rfl ?_))))))))
 obtain ⟨v3, a3, h⟩ := bind_some h
 refine AK [2006, 2007, 2008, 2009] (DL N true false v3 a3) Te rfl ?_
 obtain ⟨v4, a4, h⟩ := bind_some h
 refine Ed [2010] [2006, 2007, 2008, 2009] (Jl N v3 v4 a4) Vu (E4 (fun _ => rfl) CO) rfl (qm rfl (qx rfl (qx rfl (qa rfl (qa rfl (Ac (Ab (Aa Ad rfl ?_))))))))
 obtain ⟨v5, a5, h⟩ := bind_some h
 refine AK [2011, 2012, 2013, 2014] (DL N true true v5 a5) Te rfl ?_
 obtain ⟨v6, a6, h⟩ := bind_some h
 refine Ed [2015] [2011, 2012, 2013, 2014] (Jl N v5 v6 a6) Vu (E4 (fun _ => rfl) CO) rfl (qm rfl (qx rfl (qx rfl (qa rfl (qa rfl (Ac (Ab (Aa Ad rfl ?_))))))))
 obtain ⟨v7, a7, h⟩ := bind_some h
 refine AK [2016, 2017, 2018, 2019] (DL N false false v7 a7) Te rfl (A7 Gx OV rfl (En CU Dj Gx rfl (Du (Ba 2016 _ _ rfl rfl) (Du (Ba 2017 _ _ rfl rfl) (Du (Ba 2018 _ _ rfl rfl) (Du (Ba 2019 _ _ rfl rfl) (Du (Ba 30 _ _ rfl rfl) ?_)))))))
 obtain ⟨v8, a8, h⟩ := bind_some h
 refine AK [] (JA N v7 (([(Af.mk 1 0 1)] : List Af)) v8 a8) W0 rfl (qm rfl (qx rfl (qx rfl (qx rfl (qx rfl (qz Di rfl (qz GZ rfl (qa rfl (qs AT rfl (qs Fo rfl (qa rfl (Ac (Ab (Aa Ad rfl (A7 Gx OV rfl (A7 Gx OV rfl (A7 Gx OV rfl (A7 Gx OV rfl (En CU Dj Gx rfl (qa rfl (Ac ?_)))))))))))))))))))))
 refine AW h (fun v9 => mk [(0, .e (.one (.pure (.val (.bool v9)))))] []) (fun j9 h => ?_) (fun v9 h => ?_)
 ·refine Aa Ad rfl (qm rfl (B4 rfl (qm rfl ?_)))
  refine AI (t := 43) rfl (fun c10 => ?_) (fun c10 => ?_)
  ·have h := Ao c10 h
   refine qm rfl (qm rfl ?_)
   obtain ⟨v11, a11, h⟩ := bind_some h
   refine Ed [] [2005, 40] (HB N v2.1 (([(Af.mk 1 1 1), (Af.mk 2 1 0), (Af.mk 1 0 1), (Af.mk 2 0 0)] : List Af)) v11 a11) Wj CO rfl (qp rfl (qm rfl ?_))
   refine AI (t := 48) rfl (fun c12 => ?_) (fun c12 => ?_)
   ·have h := Ao c12 h
    refine qm rfl (B4 rfl (qp rfl (qm rfl ?_)))
    refine AI (t := 52) rfl (fun c13 => ?_) (fun c13 => ?_)
    ·have h := Ao c13 h
     refine qm rfl (B4 rfl (qp rfl (qm rfl ?_)))
     refine AI (t := 56) rfl (fun c14 => ?_) (fun c14 => ?_)
     ·have h := Ao c14 h
      refine qm rfl (B4 rfl (qp rfl (qm rfl ?_)))
      refine AI (t := 60) rfl (fun c15 => ?_) (fun c15 => ?_)
      ·have h := Ao c15 h
       refine qm rfl (B4 rfl (qp rfl (qm rfl ?_)))
       refine AI (t := 64) rfl (fun c16 => ?_) (fun c16 => ?_)
       ·have h := Ao c16 h
        refine qL Lq Fo rfl (A7 GZ Mc rfl ?_)
        refine V6 [.int .i64 v8.2.2.1.fTable, .int .i64 v8.2.2.1.fWriter, .int .i64 v8.2.2.1.fReader] [.int .i64 0, .int .i64 1, .int .i64 0] (.g rfl rfl) rfl rfl V1 rfl ?_
        refine qp rfl (qm rfl ?_)
        refine AI (t := 69) rfl (fun c17 => ?_) (fun c17 => ?_)
        ·have h := Ao c17 h
         obtain ⟨v18, a18, h⟩ := bind_some h
         refine AK [2020, 2021, 2022, 2023] (DL N false false v18 a18) Te rfl (qm rfl ?_)
         obtain ⟨v19, a19, h⟩ := bind_some h
         refine Ed [] [2020, 2021, 2022, 2023, 40] (OI N v18 (([(Af.mk 1 1 1), (Af.mk 2 1 0), (Af.mk 1 0 1), (Af.mk 2 0 0)] : List Af)) v19 a19) XA CO rfl (qp rfl (qa rfl (Ac ?_)))
         exact Aw _ h (sm [] _ _ rfl rfl)
        ·have h := Ap c17 h
         refine qn rfl (qn rfl (qn rfl (qp rfl (qa rfl (Ac ?_)))))
         exact Aw _ h (sm [] _ _ rfl rfl)
       ·have h := Ap c16 h
        refine qn rfl (qn rfl (qn rfl (qp rfl (qm rfl (qn rfl (qn rfl (qn rfl (qp rfl (qa rfl (Ac ?_))))))))))
        exact Aw _ h (sm [] _ _ rfl rfl)
      ·have h := Ap c15 h
       refine qn rfl (qn rfl (qp rfl (qm rfl (qn rfl (qn rfl (qn rfl (qp rfl (qm rfl (qn rfl (qn rfl (qn rfl (qp rfl (qa rfl (Ac ?_))))))))))))))
       exact Aw _ h (sm [] _ _ rfl rfl)
     ·have h := Ap c14 h
      refine qn rfl (qn rfl (qp rfl (qm rfl (qn rfl (qn rfl (qp rfl (qm rfl (qn rfl (qn rfl (qn rfl (qp rfl (qm rfl (qn rfl (qn rfl (qn rfl (qp rfl (qa rfl (Ac ?_))))))))))))))))))
      exact Aw _ h (sm [] _ _ rfl rfl)
    ·have h := Ap c13 h
     refine qn rfl (qn rfl (qp rfl (qm rfl (qn rfl (qn rfl (qp rfl (qm rfl (qn rfl (qn rfl (qp rfl (qm rfl (qn rfl (qn rfl (qn rfl (qp rfl (qm rfl (qn rfl (qn rfl (qn rfl (qp rfl (qa rfl (Ac ?_))))))))))))))))))))))
     exact Aw _ h (sm [] _ _ rfl rfl)
   ·have h := Ap c12 h
    refine qn rfl (qn rfl (qp rfl (qm rfl (qn rfl (qn rfl (qp rfl (qm rfl (qn rfl (qn rfl (qp rfl (qm rfl (qn rfl (qn rfl (qp rfl (qm rfl (qn rfl (qn rfl (qn rfl (qp rfl (qm rfl (qn rfl (qn rfl (qn rfl (qp rfl (qa rfl (Ac ?_))))))))))))))))))))))))))
    exact Aw _ h (sm [] _ _ rfl rfl)
  ·have h := Ap c10 h
   refine qn rfl (qn rfl (qn rfl (qp rfl (qm rfl (qn rfl (qn rfl (qp rfl (qm rfl (qn rfl (qn rfl (qp rfl (qm rfl (qn rfl (qn rfl (qp rfl (qm rfl (qn rfl (qn rfl (qp rfl (qm rfl (qn rfl (qn rfl (qn rfl (qp rfl (qm rfl (qn rfl (qn rfl (qn rfl (qp rfl (qa rfl (Ac ?_)))))))))))))))))))))))))))))))
   exact Aw _ h (sm [] _ _ rfl rfl)
 ·obtain rfl := sj h
  refine Al (sm [] [(0, .e (.one (.pure (.val (.bool v9)))))] [] rfl rfl) (AC ?_)
  exact ⟨⟨[_], ⟨.tmp _ _ rfl, trivial⟩, rfl⟩, trivial⟩
set_option maxRecDepth 10000 in
theorem FY (N : Nat) (p0 : List Int) (p1 : Int) (r : Int) (h : C0 N p0 p1 = some r) : AB Try.prog 48 [.e (.one (.pure (.sl (p0.map A3)))), .e (.one (.pure (.val (.int .i64 p1))))] [] (.e (.one (.pure (.val (.int .i64 r))))) := by
 unfold C0 at h
 refine Aq (n := 14) (rs := [.tmp 4]) Try.func48 rfl rfl rfl (BM rfl) (BM rfl) rfl fun w0 S0 => ?_
 refine Ab (Aa Ad rfl (qa rfl (Ac (Ab (Ab (Aa Ad rfl (qm rfl (qm rfl (AS HW rfl (A8 rfl (Ac ?_)))))))))))
 refine As rfl (fun c1 => ?_) (fun c1 => ?_)
 ·have h := Ao c1 h
  refine Ab (Aa Ad rfl (qm rfl (qm rfl ?_)))
  obtain ⟨v2, a2, b2, h⟩ := Am h
  refine qi HW UO a2 (Aj b2) rfl (qk VV rfl (HT Vr T8 rfl (qa rfl (Ac ?_))))
  obtain rfl := sj h
  refine Al (sm [] [(4, .e (.one (.pure (.val (.int .i64 ((IntKind.wrap .i64 v2)))))))] [] rfl rfl) (AC ?_)
  exact ⟨⟨[_], ⟨.tmp _ _ rfl, trivial⟩, rfl⟩, trivial⟩
 ·have h := Ap c1 h
  refine Au (Ab (Aa Ad rfl (qa rfl (Ac ?_))))
  obtain rfl := sj h
  refine Al (sm [] [(4, .e (.one (.pure (.val (.int .i64 0)))))] [] rfl rfl) (AC ?_)
  exact ⟨⟨[_], ⟨.tmp _ _ rfl, trivial⟩, rfl⟩, trivial⟩
set_option maxRecDepth 10000 in
theorem C9 (N : Nat) (p0 : Ah) (p1 : Int) (r : Int) (h : BB N p0 p1 = some r) : AB Try.prog 49 [.e (.agg [.pure (.sl (p0.fBase.map Ag)), .pure (.sl (p0.fNext.map Ag)), .pure (.sl (p0.fHeld.map A3))]), .e (.one (.pure (.val (.int .i64 p1))))] [] (.e (.one (.pure (.val (.int .u8 r))))) := by
 unfold BB at h
 refine Aq (n := 27) (rs := [.tmp 4]) Try.func49 rfl rfl rfl (BM rfl) (BM rfl) rfl fun w0 S0 => ?_
 refine Ab (Aa Ad rfl (qb rfl (qa rfl (Ac (Ab (Aa Ad rfl (qf Cy rfl (ql A9 rfl (qm rfl ?_)))))))))
 obtain ⟨v1, a1, b1, h⟩ := Am h
 refine qi AE C7 a1 (Aj b1) rfl (qk B7 rfl ?_)
 obtain ⟨c2, h⟩ := AN h
 refine H0 rfl c2 (qa rfl (Ac ?_))
 refine AW h (fun v3 => mk [(5, .e (.one (.pure (.val (.int .u8 v3)))))] []) (fun j3 h => ?_) (fun v3 h => ?_)
 ·refine Ab (Aa Ad rfl (qf By rfl (ql A9 rfl (qm rfl ?_))))
  obtain ⟨v4, a4, b4, h⟩ := Am h
  refine qi AE C7 a4 (Aj b4) rfl (qk B7 rfl (Ey rfl (Ac ?_)))
  refine As rfl (fun c5 => ?_) (fun c5 => ?_)
  ·have h := Ao c5 h
   refine Aa Ad rfl (qm rfl (qf By rfl (ql A9 rfl (qm rfl ?_))))
   obtain ⟨v6, a6, b6, h⟩ := Am h
   refine qi AE C7 a6 (Aj b6) rfl (qk B7 rfl ?_)
   obtain ⟨c7, h⟩ := AN h
   refine H0 rfl c7 (Rq rfl (qa rfl (Ac ?_)))
   exact Aw _ h (sm [] _ _ rfl rfl)
  ·have h := Ap c5 h
   refine Au ?_
   exact Aw _ h (sm [] _ _ rfl rfl)
 ·refine Ab (Aa Ad rfl (qm rfl (qa rfl (Ac ?_))))
  obtain rfl := sj h
  refine Al (sm [] [(4, .e (.one (.pure (.val (.int .u8 v3)))))] [] rfl rfl) (AC ?_)
  exact ⟨⟨[_], ⟨.tmp _ _ rfl, trivial⟩, rfl⟩, trivial⟩
set_option maxRecDepth 10000 in
theorem Ly (N : Nat) (p0 : Ae) (p1 : BJ) (r : Ah) (h : Eb N p0 p1 = some r) : AB Try.prog 23 [.e (.agg [.pure (.sl (p0.fVersions.map Ag)), .pure (.sl (p0.fNow.map Ag)), .pure (.sl (p0.fTarget.map Ag)), .pure (.sl (p0.fTables.map Ai))]), .e (.agg [.pure (.sl (p1.fBase.map A3)), .pure (.sl (p1.fNext.map A3)), .pure (.sl (p1.fHeld.map A3))])] [(1, r.fBase.map Ag), (1, r.fNext.map Ag), (1, r.fHeld.map A3)] (.e (.agg [.own 0, .own 1, .own 2])) := by
 unfold Eb at h
 refine Aq (n := 99) (rs := [.cell 4 43]) Try.func23 rfl rfl rfl (BM rfl) (BM rfl) rfl fun w0 S0 => ?_
 refine Ab (Aa Ad rfl (qb rfl (qb rfl (qz Di rfl (Ac (Ab (Aa Ad rfl (qz Di rfl (Ac (Ab (Ab (Aa Ad rfl (qa rfl (Ac ?_))))))))))))))
 refine AR (L := Cv N p0 p1) h (fun v1 => mk [(2, .e (.one (.ptr 2 0))), (3, .e (.one (.ptr 3 0))), (4, .e (.one (.ptr 4 0))), (5, .e (.one (.ptr 5 0))), (6, .e (.one (.pure (.val (.int .i64 v1.2.2)))))] [(2, .box [.pure (.sl (p0.fVersions.map Ag)), .pure (.sl (p0.fNow.map Ag)), .pure (.sl (p0.fTarget.map Ag)), .pure (.sl (p0.fTables.map Ai))]), (3, .box [.pure (.sl (p1.fBase.map A3)), .pure (.sl (p1.fNext.map A3)), .pure (.sl (p1.fHeld.map A3))]), (4, .box [.pure (.nil0), .pure (.nil0), .pure (.nil0)]), (5, .box [.own 2001, .own 2002, .pure (.nil0)]), (2001, .vec 1 (v1.1.map Ag)), (2002, .vec 1 (v1.2.1.map Ag))]) (fun v2 => mk [(2, .e (.one (.ptr 2 0))), (3, .e (.one (.ptr 3 0))), (4, .e (.one (.ptr 4 0))), (5, .e (.one (.ptr 5 0)))] [(2, .box [.pure (.sl (p0.fVersions.map Ag)), .pure (.sl (p0.fNow.map Ag)), .pure (.sl (p0.fTarget.map Ag)), .pure (.sl (p0.fTables.map Ai))]), (3, .box [.pure (.sl (p1.fBase.map A3)), .pure (.sl (p1.fNext.map A3)), .pure (.sl (p1.fHeld.map A3))]), (4, .box [.pure (.nil0), .pure (.nil0), .pure (.nil0)]), (5, .box [.own 2003, .own 2004, .pure (.nil0)]), (2003, .vec 1 (v2.1.map Ag)), (2004, .vec 1 (v2.2.map Ag))]) (fun _ _ => rfl) ((AG 5 0 2007 1 _ rfl rfl rfl rfl).trans ((AG 5 1 2008 1 _ rfl rfl rfl rfl).trans (sm [(2001, 2007), (2002, 2008)] _ _ rfl rfl))) (fun j1 n1 v1 h => ?_) (fun v2 s h hs => ?_)
 ·unfold Cv at h
  refine Ab (Ab (Aa Ad rfl (qm rfl (qf Bn rfl (ql A9 rfl (AS AE rfl (A8 rfl (Ac ?_))))))))
  refine As rfl (fun c3 => ?_) (fun c3 => ?_)
  ·have h := Ao c3 h
   refine Au (Ab (AU (Ab (Aa Ad rfl (qf Bn rfl (ql A9 rfl (qm rfl ?_)))))))
   obtain ⟨v4, a4, b4, h⟩ := Am h
   refine qi AE C7 a4 (Aj b4) rfl (qk B7 rfl (qa rfl (Ac (Ab (Aa Ad rfl (qf TF rfl (ql O8 rfl (qm rfl ?_))))))))
   obtain ⟨v5, a5, h⟩ := bind_some h
   refine AK [] (FY N p1.fBase v1.2.2 v5 a5) VN rfl (qm rfl ?_)
   obtain ⟨c6, h⟩ := AN h
   refine IW rfl c6 (qa rfl (Ac (Ab (Aa Ad rfl (qa rfl (Ac ?_))))))
   refine AW h (fun v7 => mk [(2, .e (.one (.ptr 2 0))), (3, .e (.one (.ptr 3 0))), (4, .e (.one (.ptr 4 0))), (5, .e (.one (.ptr 5 0))), (6, .e (.one (.pure (.val (.int .i64 v1.2.2))))), (8, .e (.one (.pure (.val (.int .i64 ((Int.tmod v5 v4))))))), (9, .e (.one (.pure (.val (.int .i64 v7)))))] [(2, .box [.pure (.sl (p0.fVersions.map Ag)), .pure (.sl (p0.fNow.map Ag)), .pure (.sl (p0.fTarget.map Ag)), .pure (.sl (p0.fTables.map Ai))]), (3, .box [.pure (.sl (p1.fBase.map A3)), .pure (.sl (p1.fNext.map A3)), .pure (.sl (p1.fHeld.map A3))]), (4, .box [.pure (.nil0), .pure (.nil0), .pure (.nil0)]), (5, .box [.own 2005, .own 2006, .pure (.nil0)]), (2005, .vec 1 (v1.1.map Ag)), (2006, .vec 1 (v1.2.1.map Ag))]) (fun j7 h => ?_) (fun v7 h => ?_)
   ·refine Ab (Aa Ad rfl (qf Tu rfl (ql O8 rfl (qm rfl ?_))))
    obtain ⟨v8, a8, h⟩ := bind_some h
    refine AK [] (FY N p1.fNext v1.2.2 v8 a8) VN rfl (qm rfl ?_)
    obtain ⟨c9, h⟩ := AN h
    refine IW rfl c9 (qa rfl (Ac (Ab (Aa Ad rfl (qm rfl (FT rfl (Ac ?_)))))))
    refine As rfl (fun c10 => ?_) (fun c10 => ?_)
    ·have h := Ao c10 h
     refine Aa Ad rfl (qm rfl (qm rfl (Bp rfl (qm rfl ?_))))
     obtain ⟨c11, h⟩ := AN h
     refine IW rfl c11 (qa rfl (Ac ?_))
     exact Aw _ h (sm [(2005, 2001), (2006, 2002)] _ _ rfl rfl)
    ·have h := Ap c10 h
     refine Au ?_
     exact Aw _ h (sm [(2005, 2001), (2006, 2002)] _ _ rfl rfl)
   ·refine Ab (Aa Ad rfl (qf Cy rfl (ql A9 rfl (qm rfl (En AE C7 J5 rfl ?_)))))
    obtain ⟨c12, h⟩ := AN h
    refine Dy (f := Ag) AE AE C7 KP J5 c12 rfl (qf Cy rfl (qs Rr rfl (Ac (Aa Ad rfl (qf By rfl (ql A9 rfl (qm rfl (En AE C7 J5 rfl ?_))))))))
    obtain ⟨c13, h⟩ := AN h
    refine Dy (f := Ag) AE AE C7 KP J5 c13 rfl (qf By rfl (qs Rr rfl (Ac (Aa Ad rfl (qm rfl (Bp rfl (qa rfl (Ac ?_))))))))
    exact Aw _ h (sm [(2001, 50), (2002, 56)] _ _ rfl rfl)
  ·have h := Ap c3 h
   refine A5 ?_
   exact Aw _ h (sm [(2003, 2001), (2004, 2002)] _ _ rfl rfl)
 ·refine Al hs (Ab (Ab (Aa Ad rfl (qa rfl (Ac ?_)))))
  refine AR (L := Bk N p0 p1 v2) h (fun v14 => mk [(2, .e (.one (.ptr 2 0))), (3, .e (.one (.ptr 3 0))), (4, .e (.one (.ptr 4 0))), (5, .e (.one (.ptr 5 0))), (11, .e (.one (.pure (.val (.int .i64 v14.2)))))] [(2, .box [.pure (.sl (p0.fVersions.map Ag)), .pure (.sl (p0.fNow.map Ag)), .pure (.sl (p0.fTarget.map Ag)), .pure (.sl (p0.fTables.map Ai))]), (3, .box [.pure (.sl (p1.fBase.map A3)), .pure (.sl (p1.fNext.map A3)), .pure (.sl (p1.fHeld.map A3))]), (4, .box [.pure (.nil0), .pure (.nil0), .pure (.nil0)]), (5, .box [.own 2009, .own 2010, .own 2011]), (2009, .vec 1 (v2.1.map Ag)), (2010, .vec 1 (v2.2.map Ag)), (2011, .vec 1 (v14.1.map A3))]) (fun v15 => mk [(4, .e (.one (.ptr 4 0))), (5, .e (.one (.ptr 5 0)))] [(4, .box [.pure (.nil0), .pure (.nil0), .pure (.nil0)]), (5, .box [.own 2012, .own 2013, .own 2014]), (2012, .vec 1 (v2.1.map Ag)), (2013, .vec 1 (v2.2.map Ag)), (2014, .vec 1 (v15.map A3))]) (fun _ _ => rfl) ((AG 5 2 2018 1 _ rfl rfl rfl rfl).trans (sm [(2009, 2003), (2010, 2004), (2011, 2018)] _ _ rfl rfl)) (fun j14 n14 v14 h => ?_) (fun v15 s h hs => ?_)
  ·unfold Bk at h
   refine Ab (Ab (Aa Ad rfl (qm rfl (qf CH rfl (ql Gw rfl (AS DV rfl (A8 rfl (Ac ?_))))))))
   refine As rfl (fun c16 => ?_) (fun c16 => ?_)
   ·have h := Ao c16 h
    refine Au (Ab (AU (Ab (Aa Ad rfl (qf CH rfl (ql Gw rfl (qm rfl ?_)))))))
    obtain ⟨v17, a17, b17, h⟩ := Am h
    refine qi DV DJ a17 (Aj b17) rfl (qK Gf DJ rfl (qz Jd rfl (qs DJ rfl (Ac (Ab (Aa Ad rfl (qa rfl (Ac ?_))))))))
    refine AW h (fun v18 => mk [(2, .e (.one (.ptr 2 0))), (3, .e (.one (.ptr 3 0))), (4, .e (.one (.ptr 4 0))), (5, .e (.one (.ptr 5 0))), (11, .e (.one (.pure (.val (.int .i64 v14.2))))), (13, .e (.one (.pure (.val (.int .u8 v18)))))] [(2, .box [.pure (.sl (p0.fVersions.map Ag)), .pure (.sl (p0.fNow.map Ag)), .pure (.sl (p0.fTarget.map Ag)), .pure (.sl (p0.fTables.map Ai))]), (3, .box [.pure (.sl (p1.fBase.map A3)), .pure (.sl (p1.fNext.map A3)), .pure (.sl (p1.fHeld.map A3))]), (4, .box [.pure (.nil0), .pure (.nil0), .pure (.nil0)]), (5, .box [.own 2015, .own 2016, .own 2017]), (2015, .vec 1 (v2.1.map Ag)), (2016, .vec 1 (v2.2.map Ag)), (2017, .vec 1 (v14.1.map A3))]) (fun j18 h => ?_) (fun v18 h => ?_)
    ·refine Ab (Aa Ad rfl (qL Gf DJ rfl ?_))
     obtain ⟨v19, a19, h⟩ := bind_some h
     refine AK [] (Cc N v17 v19 a19) Ov rfl (Ac ?_)
     refine As rfl (fun c20 => ?_) (fun c20 => ?_)
     ·have h := Ao c20 h
      refine Ab (Aa Ad rfl (qf Bn rfl (ql A9 rfl (qf CQ rfl (ql B7 rfl ?_)))))
      obtain ⟨v21, a21, b21, h⟩ := Am h
      refine qi AE C7 a21 (Aj b21) rfl (qk B7 rfl ?_)
      obtain ⟨c22, h⟩ := AN h
      refine H0 rfl c22 (Nu rfl (qa rfl (Ac (Aa Ad rfl (qL Bq AT rfl (qf CQ rfl (ql B7 rfl ?_)))))))
      obtain ⟨v23, a23, h⟩ := bind_some h
      refine Ed [] [2009, 2010, 2011] (C9 N ((Ah.mk v2.1 v2.2 v14.1)) v17.fFrom v23 a23) Rs CO rfl (qf Uv rfl (ql O8 rfl (qm rfl ?_)))
      obtain ⟨v24, a24, h⟩ := bind_some h
      refine AK [] (FY N p1.fHeld v14.2 v24 a24) VN rfl (HT VZ XH rfl (qm rfl (K9 rfl (Rq rfl (qa rfl (A0 (by kernel_rfl) ?_))))))
      exact Aw _ h (sm [(2015, 2009), (2016, 2010), (2017, 2011)] _ _ rfl rfl)
     ·have h := Ap c20 h
      refine Au ?_
      exact Aw _ h (sm [(2015, 2009), (2016, 2010), (2017, 2011)] _ _ rfl rfl)
    ·refine Aa Ad rfl (qf Cz rfl (ql Gd rfl (qm rfl (En Dm Fn OJ rfl ?_))))
     obtain ⟨c25, h⟩ := AN h
     refine Dy (f := A3) Dm Dm Fn PR OJ c25 rfl (qf Cz rfl (qs Xg rfl (Ac (Aa Ad rfl (qm rfl (Bp rfl (qa rfl (Ac ?_))))))))
     exact Aw _ h (sm [(2009, 2015), (2010, 2016), (2011, 96)] _ _ rfl rfl)
   ·have h := Ap c16 h
    refine A5 ?_
    exact Aw _ h (sm [(2012, 2009), (2013, 2010), (2014, 2011)] _ _ rfl rfl)
  ·refine Al hs (Ab (Aa Ad rfl (qL Bq AT rfl (qs AT rfl (Ac ?_)))))
   obtain rfl := sj h
   refine Al (sm [(1000, 2012), (1001, 2013), (1002, 2014)] [(4, .e (.one (.ptr 4 0)))] [(4, .box [.own 1000, .own 1001, .own 1002]), (1000, .vec 1 (v2.1.map Ag)), (1001, .vec 1 (v2.2.map Ag)), (1002, .vec 1 (v15.map A3))] rfl rfl) (AC ?_)
   exact ⟨⟨[_], ⟨.cellN _ _ _ _ _ _ _ rfl rfl Bq AT rfl rfl (Hm rfl), trivial⟩, rfl⟩, ⟨rfl, rfl, rfl, trivial⟩⟩
set_option maxRecDepth 10000 in
theorem G4 (N : Nat) (p0 : List (List Bool)) (p1 : Int) (p2 : Int) (r : Bool) (h : Da N p0 p1 p2 = some r) : AB Try.prog 91 [.e (.one (.pure (.sl (p0.map (Ep eB))))), .e (.one (.pure (.val (.int .i64 p1)))), .e (.one (.pure (.val (.int .i64 p2))))] [] (.e (.one (.pure (.val (.bool r))))) := by
 unfold Da at h
 refine Aq (n := 24) (rs := [.tmp 6]) Try.func91 rfl rfl rfl (BM rfl) (BM rfl) rfl fun w0 S0 => ?_
 refine Ab (Aa Ad rfl (qa rfl (Ac (Ab (Ab (Aa Ad rfl (qm rfl (AS FF rfl (qm rfl (CD rfl (Ac ?_)))))))))))
 refine As rfl (fun c1 => ?_) (fun c1 => ?_)
 ·have h := Ao c1 h
  refine Ab (Aa Ad rfl (qa rfl (Ac ?_)))
  obtain rfl := sj h
  refine Al (sm [] [(6, .e (.one (.pure (.val (.bool false)))))] [] rfl rfl) (AC ?_)
  exact ⟨⟨[_], ⟨.tmp _ _ rfl, trivial⟩, rfl⟩, trivial⟩
 ·have h := Ap c1 h
  refine Au (Ab (Ab (Aa Ad rfl (qa rfl (Ac ?_)))))
  refine AR (L := Ci N p0 p1 p2) h (fun v2 => mk [(0, .e (.one (.pure (.sl (p0.map (Ep eB)))))), (1, .e (.one (.pure (.val (.int .i64 p1))))), (2, .e (.one (.pure (.val (.int .i64 p2))))), (7, .e (.one (.pure (.val (.int .i64 v2)))))] []) (fun v3 => mk [] []) (fun _ _ => rfl) (sm [] _ _ rfl rfl) (fun j2 n2 v2 h => ?_) (fun v3 s h hs => ?_)
  ·unfold Ci at h
   refine Ab (Ab (Aa Ad rfl (qm rfl (qm rfl (A8 rfl (Ac ?_))))))
   refine As rfl (fun c4 => ?_) (fun c4 => ?_)
   ·have h := Ao c4 h
    refine Au (Ab (AU (Ab (Aa Ad rfl (qm rfl (qm rfl ?_))))))
    obtain ⟨v5, a5, b5, h⟩ := Am h
    refine qi FF LW a5 (Aj b5) rfl (qk Ou rfl (AS FN rfl (qm rfl (CD rfl (Ac ?_)))))
    refine As rfl (fun c6 => ?_) (fun c6 => ?_)
    ·have h := Ao c6 h
     refine Ab (Aa Ad rfl (qa rfl (Ac ?_)))
     obtain rfl := sj h
     refine Al (sm [] [(6, .e (.one (.pure (.val (.bool false)))))] [] rfl rfl) (AC ?_)
     exact ⟨⟨[_], ⟨.tmp _ _ rfl, trivial⟩, rfl⟩, trivial⟩
    ·have h := Ap c6 h
     refine Au (Aa Ad rfl (qm rfl (Bp rfl (qa rfl (Ac ?_)))))
     exact Aw _ h (sm [] _ _ rfl rfl)
   ·have h := Ap c4 h
    refine A5 ?_
    exact Aw _ h (sm [] _ _ rfl rfl)
  ·refine Al hs (Ab (Aa Ad rfl (qa rfl (Ac ?_))))
   obtain rfl := sj h
   refine Al (sm [] [(6, .e (.one (.pure (.val (.bool true)))))] [] rfl rfl) (AC ?_)
   exact ⟨⟨[_], ⟨.tmp _ _ rfl, trivial⟩, rfl⟩, trivial⟩
end Go.Lift

/- That the code does what the shallow programs do, function by function. Written by a program (gen.py). -/
namespace Go.Lift
open Go.RowKit
open Go.Proofs
set_option maxRecDepth 10000 in
theorem JW (N : Nat) (p0 : Ae) (p1 : AF) (r : Int) (h : D0 N p0 p1 = some r) : AB Try.prog 64 [.e (.agg [.pure (.sl (p0.fVersions.map Ag)), .pure (.sl (p0.fNow.map Ag)), .pure (.sl (p0.fTarget.map Ag)), .pure (.sl (p0.fTables.map Ai))]), .e (.agg [.pure (.val (.int .i64 p1.fKind)), .pure (.val (.int .i64 p1.fFrom)), .pure (.val (.int .i64 p1.fTo)), .pure (.val (.bool p1.fAware)), .pure (.sl (p1.fOK.map (Ep eB))), .pure (.sl (p1.fRewrite.map (Ep eB)))])] [] (.e (.one (.pure (.val (.int .i64 r))))) := by
 unfold D0 at h
 refine Aq (n := 101) (rs := [.tmp 4]) Try.func64 rfl rfl rfl (BM rfl) (BM rfl) rfl fun w0 S0 => ?_
 refine Ab (Aa Ad rfl (qb rfl (qb rfl (qa rfl (Ac (Ab ?_))))))
 refine AW h (fun v1 => mk [(2, .e (.one (.ptr 2 0))), (3, .e (.one (.ptr 3 0))), (22, .e (.one (.pure (.val (.bool v1)))))] [(2, .box [.pure (.sl (p0.fVersions.map Ag)), .pure (.sl (p0.fNow.map Ag)), .pure (.sl (p0.fTarget.map Ag)), .pure (.sl (p0.fTables.map Ai))]), (3, .box [.pure (.val (.int .i64 p1.fKind)), .pure (.val (.int .i64 p1.fFrom)), .pure (.val (.int .i64 p1.fTo)), .pure (.val (.bool p1.fAware)), .pure (.sl (p1.fOK.map (Ep eB))), .pure (.sl (p1.fRewrite.map (Ep eB)))])]) (fun j1 h => ?_) (fun v1 h => ?_)
 ·refine Aa Ad rfl (qf Fm rfl (ql B7 rfl (A8 rfl (qm rfl ?_))))
  refine AI (t := 10) rfl (fun c2 => ?_) (fun c2 => ?_)
  ·have h := Ao c2 h
   refine qn rfl (qn rfl (qn rfl (qp rfl (qm rfl (qn rfl (qn rfl (qn rfl (qu rfl (qu rfl (qn rfl (qp rfl (Ac ?_))))))))))))
   exact Aw _ h (sm [] _ _ rfl rfl)
  ·have h := Ap c2 h
   refine qf Fm rfl (ql B7 rfl (FT rfl (qp rfl (qm rfl ?_))))
   refine AI (t := 15) rfl (fun c3 => ?_) (fun c3 => ?_)
   ·have h := Ao c3 h
    refine qn rfl (qn rfl (qn rfl (qu rfl (qu rfl (qn rfl (qp rfl (Ac ?_)))))))
    exact Aw _ h (sm [] _ _ rfl rfl)
   ·have h := Ap c3 h
    refine qf H7 rfl (ql Rj rfl (qm rfl ?_))
    refine AI (t := 18) rfl (fun c4 => ?_) (fun c4 => ?_)
    ·have h := Ao c4 h
     refine qL Gf DJ rfl ?_
     obtain ⟨v5, a5, h⟩ := bind_some h
     refine AK [] (Cc N p1 v5 a5) Ov rfl (qp rfl (qp rfl (Ac ?_)))
     exact Aw _ h (sm [] _ _ rfl rfl)
    ·have h := Ap c4 h
     refine qn rfl (qn rfl (qp rfl (qp rfl (Ac ?_))))
     exact Aw _ h (sm [] _ _ rfl rfl)
 ·refine As rfl (fun c6 => ?_) (fun c6 => ?_)
  ·have h := Ao c6 h
   refine Ab (Aa Ad rfl (qa rfl (Ac ?_)))
   obtain rfl := sj h
   refine Al (sm [] [(4, .e (.one (.pure (.val (.int .i64 1)))))] [] rfl rfl) (AC ?_)
   exact ⟨⟨[_], ⟨.tmp _ _ rfl, trivial⟩, rfl⟩, trivial⟩
  ·have h := Ap c6 h
   refine Au (Ab (Aa Ad rfl (qf Bn rfl (ql A9 rfl (AS AE rfl (qa rfl (Ac (Ab ?_))))))))
   refine AW h (fun v7 => mk [(2, .e (.one (.ptr 2 0))), (3, .e (.one (.ptr 3 0))), (45, .e (.one (.pure (.val (.bool v7)))))] [(2, .box [.pure (.sl (p0.fVersions.map Ag)), .pure (.sl (p0.fNow.map Ag)), .pure (.sl (p0.fTarget.map Ag)), .pure (.sl (p0.fTables.map Ai))]), (3, .box [.pure (.val (.int .i64 p1.fKind)), .pure (.val (.int .i64 p1.fFrom)), .pure (.val (.int .i64 p1.fTo)), .pure (.val (.bool p1.fAware)), .pure (.sl (p1.fOK.map (Ep eB))), .pure (.sl (p1.fRewrite.map (Ep eB)))])]) (fun j7 h => ?_) (fun v7 h => ?_)
   ·refine Aa Ad rfl (qf CQ rfl (ql B7 rfl (A8 rfl (qm rfl ?_))))
    refine AI (t := 29) rfl (fun c8 => ?_) (fun c8 => ?_)
    ·have h := Ao c8 h
     refine qn rfl (qn rfl (qn rfl (qn rfl (qp rfl (qm rfl (qn rfl (qn rfl (qn rfl (qp rfl (qm rfl (qn rfl (qn rfl (qn rfl (qn rfl (qp rfl (Ac ?_))))))))))))))))
     exact Aw _ h (sm [] _ _ rfl rfl)
    ·have h := Ap c8 h
     refine qf CQ rfl (ql B7 rfl (qm rfl (Ey rfl (qp rfl (qm rfl ?_)))))
     refine AI (t := 35) rfl (fun c9 => ?_) (fun c9 => ?_)
     ·have h := Ao c9 h
      refine qn rfl (qn rfl (qn rfl (qp rfl (qm rfl (qn rfl (qn rfl (qn rfl (qn rfl (qp rfl (Ac ?_))))))))))
      exact Aw _ h (sm [] _ _ rfl rfl)
     ·have h := Ap c9 h
      refine qf Hl rfl (ql B7 rfl (A8 rfl (qp rfl (qm rfl ?_))))
      refine AI (t := 40) rfl (fun c10 => ?_) (fun c10 => ?_)
      ·have h := Ao c10 h
       refine qn rfl (qn rfl (qn rfl (qn rfl (qp rfl (Ac ?_)))))
       exact Aw _ h (sm [] _ _ rfl rfl)
      ·have h := Ap c10 h
       refine qf Hl rfl (ql B7 rfl (qm rfl (Ey rfl (qp rfl (Ac ?_)))))
       exact Aw _ h (sm [] _ _ rfl rfl)
   ·refine As rfl (fun c11 => ?_) (fun c11 => ?_)
    ·have h := Ao c11 h
     refine Ab (Aa Ad rfl (qa rfl (Ac ?_)))
     obtain rfl := sj h
     refine Al (sm [] [(4, .e (.one (.pure (.val (.int .i64 4)))))] [] rfl rfl) (AC ?_)
     exact ⟨⟨[_], ⟨.tmp _ _ rfl, trivial⟩, rfl⟩, trivial⟩
    ·have h := Ap c11 h
     refine Au (Ab (Ab (Aa Ad rfl (qf IJ rfl (ql IZ rfl (qf Bn rfl (ql A9 rfl (qf CQ rfl (ql B7 rfl ?_)))))))))
     obtain ⟨v12, a12, b12, h⟩ := Am h
     refine qi AE C7 a12 (Aj b12) rfl (qk B7 rfl (qf Bn rfl (ql A9 rfl (qf Hl rfl (ql B7 rfl ?_)))))
     obtain ⟨v13, a13, b13, h⟩ := Am h
     refine qi AE C7 a13 (Aj b13) rfl (qk B7 rfl ?_)
     obtain ⟨v14, a14, h⟩ := bind_some h
     refine AK [] (G4 N p1.fOK v12 v13 v14 a14) WX rfl (CE rfl (A0 (by kernel_rfl) ?_))
     refine As rfl (fun c15 => ?_) (fun c15 => ?_)
     ·have h := Ao c15 h
      refine Ab (Aa Ad rfl (qa rfl (Ac ?_)))
      obtain rfl := sj h
      refine Al (sm [] [(4, .e (.one (.pure (.val (.int .i64 6)))))] [] rfl rfl) (AC ?_)
      exact ⟨⟨[_], ⟨.tmp _ _ rfl, trivial⟩, rfl⟩, trivial⟩
     ·have h := Ap c15 h
      refine Au (Ab (Ab (Aa Ad rfl (qf Fm rfl (ql B7 rfl (CD rfl (Ac ?_)))))))
      refine As rfl (fun c16 => ?_) (fun c16 => ?_)
      ·have h := Ao c16 h
       refine Ab (Ab (Aa Ad rfl (qf FU rfl (ql IZ rfl (AS FF rfl (CD rfl (Ac ?_)))))))
       refine As rfl (fun c17 => ?_) (fun c17 => ?_)
       ·have h := Ao c17 h
        refine Ab (Aa Ad rfl (qa rfl (Ac ?_)))
        obtain rfl := sj h
        refine Al (sm [] [(4, .e (.one (.pure (.val (.int .i64 6)))))] [] rfl rfl) (AC ?_)
        exact ⟨⟨[_], ⟨.tmp _ _ rfl, trivial⟩, rfl⟩, trivial⟩
       ·have h := Ap c17 h
        refine Au (Ab (Aa Ad rfl (qa rfl (Ac ?_))))
        obtain rfl := sj h
        refine Al (sm [] [(4, .e (.one (.pure (.val (.int .i64 0)))))] [] rfl rfl) (AC ?_)
        exact ⟨⟨[_], ⟨.tmp _ _ rfl, trivial⟩, rfl⟩, trivial⟩
      ·have h := Ap c16 h
       refine Au (Ab (Ab (Aa Ad rfl (qf FU rfl (ql IZ rfl (qf Bn rfl (ql A9 rfl (qf CQ rfl (ql B7 rfl ?_)))))))))
       obtain ⟨v18, a18, b18, h⟩ := Am h
       refine qi AE C7 a18 (Aj b18) rfl (qk B7 rfl (qf Bn rfl (ql A9 rfl (qf CQ rfl (ql B7 rfl ?_)))))
       obtain ⟨v19, a19, b19, h⟩ := Am h
       refine qi AE C7 a19 (Aj b19) rfl (qk B7 rfl ?_)
       obtain ⟨v20, a20, h⟩ := bind_some h
       refine AK [] (G4 N p1.fRewrite v18 v19 v20 a20) WX rfl (CE rfl (A0 (by kernel_rfl) ?_))
       refine As rfl (fun c21 => ?_) (fun c21 => ?_)
       ·have h := Ao c21 h
        refine Ab (Aa Ad rfl (qa rfl (Ac ?_)))
        obtain rfl := sj h
        refine Al (sm [] [(4, .e (.one (.pure (.val (.int .i64 6)))))] [] rfl rfl) (AC ?_)
        exact ⟨⟨[_], ⟨.tmp _ _ rfl, trivial⟩, rfl⟩, trivial⟩
       ·have h := Ap c21 h
        refine Au (Ab (Ab (Aa Ad rfl (qa rfl (Ac ?_)))))
        refine AR (L := BV N p1) h (fun v22 => mk [(3, .e (.one (.ptr 3 0))), (6, .e (.one (.pure (.val (.int .i64 v22)))))] [(3, .box [.pure (.val (.int .i64 p1.fKind)), .pure (.val (.int .i64 p1.fFrom)), .pure (.val (.int .i64 p1.fTo)), .pure (.val (.bool p1.fAware)), .pure (.sl (p1.fOK.map (Ep eB))), .pure (.sl (p1.fRewrite.map (Ep eB)))])]) (fun v23 => mk [] []) (fun _ _ => rfl) (sm [] _ _ rfl rfl) (fun j22 n22 v22 h => ?_) (fun v23 s h hs => ?_)
        ·unfold BV at h
         refine Ab (Ab (Aa Ad rfl (qm rfl (qf FU rfl (ql IZ rfl (AS FF rfl (A8 rfl (Ac ?_))))))))
         refine As rfl (fun c24 => ?_) (fun c24 => ?_)
         ·have h := Ao c24 h
          refine Au (Ab (AU (Ab (Aa Ad rfl (qf FU rfl (ql IZ rfl (qm rfl ?_)))))))
          obtain ⟨v25, a25, b25, h⟩ := Am h
          refine qi FF LW a25 (Aj b25) rfl (qk Ou rfl (qm rfl ?_))
          obtain ⟨v26, a26, b26, h⟩ := Am h
          refine qi FN Pc a26 (Aj b26) rfl (qk Rj rfl (CE rfl (Ac ?_)))
          refine As rfl (fun c27 => ?_) (fun c27 => ?_)
          ·have h := Ao c27 h
           refine Ab (Aa Ad rfl (qa rfl (Ac ?_)))
           obtain rfl := sj h
           refine Al (sm [] [(4, .e (.one (.pure (.val (.int .i64 1)))))] [] rfl rfl) (AC ?_)
           exact ⟨⟨[_], ⟨.tmp _ _ rfl, trivial⟩, rfl⟩, trivial⟩
          ·have h := Ap c27 h
           refine Au (Aa Ad rfl (qm rfl (Bp rfl (qa rfl (Ac ?_)))))
           exact Aw _ h (sm [] _ _ rfl rfl)
         ·have h := Ap c24 h
          refine A5 ?_
          exact Aw _ h (sm [] _ _ rfl rfl)
        ·refine Al hs (Ab (Aa Ad rfl (qa rfl (Ac ?_))))
         obtain rfl := sj h
         refine Al (sm [] [(4, .e (.one (.pure (.val (.int .i64 0)))))] [] rfl rfl) (AC ?_)
         exact ⟨⟨[_], ⟨.tmp _ _ rfl, trivial⟩, rfl⟩, trivial⟩
set_option maxRecDepth 10000 in
theorem Hv (N : Nat) (p0 : Ae) (r : Int) (h : CK N p0 = some r) : AB Try.prog 33 [.e (.agg [.pure (.sl (p0.fVersions.map Ag)), .pure (.sl (p0.fNow.map Ag)), .pure (.sl (p0.fTarget.map Ag)), .pure (.sl (p0.fTables.map Ai))])] [] (.e (.one (.pure (.val (.int .i64 r))))) := by
 unfold CK at h
 refine Aq (n := 102) (rs := [.tmp 2]) Try.func33 rfl rfl rfl (BM rfl) (BM rfl) rfl fun w0 S0 => ?_
 refine Ab (Aa Ad rfl (qb rfl (qa rfl (Ac (Ab ?_)))))
 refine AW h (fun v1 => mk [(1, .e (.one (.ptr 1 0))), (16, .e (.one (.pure (.val (.bool v1)))))] [(1, .box [.pure (.sl (p0.fVersions.map Ag)), .pure (.sl (p0.fNow.map Ag)), .pure (.sl (p0.fTarget.map Ag)), .pure (.sl (p0.fTables.map Ai))])]) (fun j1 h => ?_) (fun v1 h => ?_)
 ·refine Aa Ad rfl (qf Bn rfl (ql A9 rfl (AS AE rfl (FT rfl (qm rfl ?_)))))
  refine AI (t := 11) rfl (fun c2 => ?_) (fun c2 => ?_)
  ·have h := Ao c2 h
   refine qn rfl (qn rfl (qn rfl (qn rfl (qp rfl (Ac ?_)))))
   exact Aw _ h (sm [] _ _ rfl rfl)
  ·have h := Ap c2 h
   refine qf CH rfl (ql Gw rfl (AS DV rfl (FT rfl (qp rfl (Ac ?_)))))
   exact Aw _ h (sm [] _ _ rfl rfl)
 ·refine As rfl (fun c3 => ?_) (fun c3 => ?_)
  ·have h := Ao c3 h
   refine Ab (Aa Ad rfl (qa rfl (Ac ?_)))
   obtain rfl := sj h
   refine Al (sm [] [(2, .e (.one (.pure (.val (.int .i64 3)))))] [] rfl rfl) (AC ?_)
   exact ⟨⟨[_], ⟨.tmp _ _ rfl, trivial⟩, rfl⟩, trivial⟩
  ·have h := Ap c3 h
   refine Au (Ab ?_)
   refine AW h (fun v4 => mk [(1, .e (.one (.ptr 1 0))), (32, .e (.one (.pure (.val (.bool v4)))))] [(1, .box [.pure (.sl (p0.fVersions.map Ag)), .pure (.sl (p0.fNow.map Ag)), .pure (.sl (p0.fTarget.map Ag)), .pure (.sl (p0.fTables.map Ai))])]) (fun j4 h => ?_) (fun v4 h => ?_)
   ·refine Aa Ad rfl (qf GQ rfl (ql A9 rfl (AS AE rfl (qf Bn rfl (ql A9 rfl (AS AE rfl (CD rfl (qm rfl ?_))))))))
    refine AI (t := 24) rfl (fun c5 => ?_) (fun c5 => ?_)
    ·have h := Ao c5 h
     refine qn rfl (qn rfl (qn rfl (qn rfl (qn rfl (qn rfl (qn rfl (qp rfl (Ac ?_))))))))
     exact Aw _ h (sm [] _ _ rfl rfl)
    ·have h := Ap c5 h
     refine qf Hf rfl (ql A9 rfl (AS AE rfl (qf Bn rfl (ql A9 rfl (AS AE rfl (CD rfl (qp rfl (Ac ?_))))))))
     exact Aw _ h (sm [] _ _ rfl rfl)
   ·refine As rfl (fun c6 => ?_) (fun c6 => ?_)
    ·have h := Ao c6 h
     refine Ab (Aa Ad rfl (qa rfl (Ac ?_)))
     obtain rfl := sj h
     refine Al (sm [] [(2, .e (.one (.pure (.val (.int .i64 6)))))] [] rfl rfl) (AC ?_)
     exact ⟨⟨[_], ⟨.tmp _ _ rfl, trivial⟩, rfl⟩, trivial⟩
    ·have h := Ap c6 h
     refine Au (Ab (Ab (Aa Ad rfl (qa rfl (Ac ?_)))))
     refine AR (L := Bh N p0) h (fun v7 => mk [(1, .e (.one (.ptr 1 0))), (3, .e (.one (.pure (.val (.int .i64 v7)))))] [(1, .box [.pure (.sl (p0.fVersions.map Ag)), .pure (.sl (p0.fNow.map Ag)), .pure (.sl (p0.fTarget.map Ag)), .pure (.sl (p0.fTables.map Ai))])]) (fun v8 => mk [(1, .e (.one (.ptr 1 0)))] [(1, .box [.pure (.sl (p0.fVersions.map Ag)), .pure (.sl (p0.fNow.map Ag)), .pure (.sl (p0.fTarget.map Ag)), .pure (.sl (p0.fTables.map Ai))])]) (fun _ _ => rfl) (sm [] _ _ rfl rfl) (fun j7 n7 v7 h => ?_) (fun v8 s h hs => ?_)
     ·unfold Bh at h
      refine Ab (Ab (Aa Ad rfl (qm rfl (qf Bn rfl (ql A9 rfl (AS AE rfl (A8 rfl (Ac ?_))))))))
      refine As rfl (fun c9 => ?_) (fun c9 => ?_)
      ·have h := Ao c9 h
       refine Au (Ab (AU (Ab (Aa Ad rfl (qf Bn rfl (ql A9 rfl (qm rfl ?_)))))))
       obtain ⟨v10, a10, b10, h⟩ := Am h
       refine qi AE C7 a10 (Aj b10) rfl (qk B7 rfl (qa rfl (Ac ?_)))
       refine AW h (fun v11 => mk [(1, .e (.one (.ptr 1 0))), (3, .e (.one (.pure (.val (.int .i64 v7))))), (84, .e (.one (.pure (.val (.bool v11)))))] [(1, .box [.pure (.sl (p0.fVersions.map Ag)), .pure (.sl (p0.fNow.map Ag)), .pure (.sl (p0.fTarget.map Ag)), .pure (.sl (p0.fTables.map Ai))])]) (fun j11 h => ?_) (fun v11 h => ?_)
       ·refine Aa Ad rfl (qm rfl (A8 rfl (qm rfl ?_)))
        refine AI (t := 47) rfl (fun c12 => ?_) (fun c12 => ?_)
        ·have h := Ao c12 h
         refine qn rfl (qn rfl (qp rfl (qm rfl (qn rfl (qn rfl (qn rfl (qn rfl (qn rfl (qn rfl (qp rfl (qm rfl (qn rfl (qn rfl (qn rfl (qn rfl (qn rfl (qn rfl (qn rfl (qp rfl (qm rfl (qn rfl (qn rfl (qn rfl (qn rfl (qn rfl (qn rfl (qp rfl (qm rfl (qn rfl (qn rfl (qn rfl (qn rfl (qn rfl (qn rfl (qn rfl (qp rfl (Ac ?_)))))))))))))))))))))))))))))))))))))
         exact Aw _ h (sm [] _ _ rfl rfl)
        ·have h := Ap c12 h
         refine qm rfl (FT rfl (qp rfl (qm rfl ?_)))
         refine AI (t := 51) rfl (fun c13 => ?_) (fun c13 => ?_)
         ·have h := Ao c13 h
          refine qn rfl (qn rfl (qn rfl (qn rfl (qn rfl (qn rfl (qp rfl (qm rfl (qn rfl (qn rfl (qn rfl (qn rfl (qn rfl (qn rfl (qn rfl (qp rfl (qm rfl (qn rfl (qn rfl (qn rfl (qn rfl (qn rfl (qn rfl (qp rfl (qm rfl (qn rfl (qn rfl (qn rfl (qn rfl (qn rfl (qn rfl (qn rfl (qp rfl (Ac ?_)))))))))))))))))))))))))))))))))
          exact Aw _ h (sm [] _ _ rfl rfl)
         ·have h := Ap c13 h
          refine qf GQ rfl (ql A9 rfl (qm rfl ?_))
          obtain ⟨v14, a14, b14, h⟩ := Am h
          refine qi AE C7 a14 (Aj b14) rfl (qk B7 rfl (A8 rfl (qp rfl (qm rfl ?_))))
          refine AI (t := 59) rfl (fun c15 => ?_) (fun c15 => ?_)
          ·have h := Ao c15 h
           refine qn rfl (qn rfl (qn rfl (qn rfl (qn rfl (qn rfl (qn rfl (qp rfl (qm rfl (qn rfl (qn rfl (qn rfl (qn rfl (qn rfl (qn rfl (qp rfl (qm rfl (qn rfl (qn rfl (qn rfl (qn rfl (qn rfl (qn rfl (qn rfl (qp rfl (Ac ?_)))))))))))))))))))))))))
           exact Aw _ h (sm [] _ _ rfl rfl)
          ·have h := Ap c15 h
           refine qf GQ rfl (ql A9 rfl (qm rfl ?_))
           obtain ⟨v16, a16, b16, h⟩ := Am h
           refine qi AE C7 a16 (Aj b16) rfl (qk B7 rfl (qm rfl (Ey rfl (qp rfl (qm rfl ?_)))))
           refine AI (t := 68) rfl (fun c17 => ?_) (fun c17 => ?_)
           ·have h := Ao c17 h
            refine qn rfl (qn rfl (qn rfl (qn rfl (qn rfl (qn rfl (qp rfl (qm rfl (qn rfl (qn rfl (qn rfl (qn rfl (qn rfl (qn rfl (qn rfl (qp rfl (Ac ?_))))))))))))))))
            exact Aw _ h (sm [] _ _ rfl rfl)
           ·have h := Ap c17 h
            refine qf Hf rfl (ql A9 rfl (qm rfl ?_))
            obtain ⟨v18, a18, b18, h⟩ := Am h
            refine qi AE C7 a18 (Aj b18) rfl (qk B7 rfl (A8 rfl (qp rfl (qm rfl ?_))))
            refine AI (t := 76) rfl (fun c19 => ?_) (fun c19 => ?_)
            ·have h := Ao c19 h
             refine qn rfl (qn rfl (qn rfl (qn rfl (qn rfl (qn rfl (qn rfl (qp rfl (Ac ?_))))))))
             exact Aw _ h (sm [] _ _ rfl rfl)
            ·have h := Ap c19 h
             refine qf Hf rfl (ql A9 rfl (qm rfl ?_))
             obtain ⟨v20, a20, b20, h⟩ := Am h
             refine qi AE C7 a20 (Aj b20) rfl (qk B7 rfl (qm rfl (Ey rfl (qp rfl (Ac ?_)))))
             exact Aw _ h (sm [] _ _ rfl rfl)
       ·refine As rfl (fun c21 => ?_) (fun c21 => ?_)
        ·have h := Ao c21 h
         refine Ab (Aa Ad rfl (qa rfl (Ac ?_)))
         obtain rfl := sj h
         refine Al (sm [] [(2, .e (.one (.pure (.val (.int .i64 7)))))] [] rfl rfl) (AC ?_)
         exact ⟨⟨[_], ⟨.tmp _ _ rfl, trivial⟩, rfl⟩, trivial⟩
        ·have h := Ap c21 h
         refine Au (Aa Ad rfl (qm rfl (Bp rfl (qa rfl (Ac ?_)))))
         exact Aw _ h (sm [] _ _ rfl rfl)
      ·have h := Ap c9 h
       refine A5 ?_
       exact Aw _ h (sm [] _ _ rfl rfl)
     ·refine Al hs (Ab (Ab (Aa Ad rfl (qa rfl (Ac ?_)))))
      refine AR (L := Bb N p0) h (fun v22 => mk [(1, .e (.one (.ptr 1 0))), (5, .e (.one (.pure (.val (.int .i64 v22)))))] [(1, .box [.pure (.sl (p0.fVersions.map Ag)), .pure (.sl (p0.fNow.map Ag)), .pure (.sl (p0.fTarget.map Ag)), .pure (.sl (p0.fTables.map Ai))])]) (fun v23 => mk [] []) (fun _ _ => rfl) (sm [] _ _ rfl rfl) (fun j22 n22 v22 h => ?_) (fun v23 s h hs => ?_)
      ·unfold Bb at h
       refine Ab (Ab (Aa Ad rfl (qm rfl (qf CH rfl (ql Gw rfl (AS DV rfl (A8 rfl (Ac ?_))))))))
       refine As rfl (fun c24 => ?_) (fun c24 => ?_)
       ·have h := Ao c24 h
        refine Au (Ab (AU (Ab (Aa Ad rfl (qL DM Dw rfl (qf CH rfl (ql Gw rfl (qm rfl ?_))))))))
        obtain ⟨v25, a25, b25, h⟩ := Am h
        refine qi DV DJ a25 (Aj b25) rfl (qK Gf DJ rfl ?_)
        obtain ⟨v26, a26, h⟩ := bind_some h
        refine AK [] (JW N p0 v25 v26 a26) XC rfl (qa rfl (A0 (by kernel_rfl) (Ab (Aa Ad rfl (qm rfl (CD rfl (Ac ?_)))))))
        refine As rfl (fun c27 => ?_) (fun c27 => ?_)
        ·have h := Ao c27 h
         refine Ab (Aa Ad rfl (qm rfl (qa rfl (Ac ?_))))
         obtain rfl := sj h
         refine Al (sm [] [(2, .e (.one (.pure (.val (.int .i64 v26)))))] [] rfl rfl) (AC ?_)
         exact ⟨⟨[_], ⟨.tmp _ _ rfl, trivial⟩, rfl⟩, trivial⟩
        ·have h := Ap c27 h
         refine Au (Aa Ad rfl (qm rfl (Bp rfl (qa rfl (Ac ?_)))))
         exact Aw _ h (sm [] _ _ rfl rfl)
       ·have h := Ap c24 h
        refine A5 ?_
        exact Aw _ h (sm [] _ _ rfl rfl)
      ·refine Al hs (Ab (Aa Ad rfl (qa rfl (Ac ?_))))
       obtain rfl := sj h
       refine Al (sm [] [(2, .e (.one (.pure (.val (.int .i64 0)))))] [] rfl rfl) (AC ?_)
       exact ⟨⟨[_], ⟨.tmp _ _ rfl, trivial⟩, rfl⟩, trivial⟩
set_option maxRecDepth 10000 in
theorem EP (N : Nat) (p0 : Ae) (p1 : Ah) (r : Int) (h : Cu N p0 p1 = some r) : AB Try.prog 24 [.e (.agg [.pure (.sl (p0.fVersions.map Ag)), .pure (.sl (p0.fNow.map Ag)), .pure (.sl (p0.fTarget.map Ag)), .pure (.sl (p0.fTables.map Ai))]), .e (.agg [.pure (.sl (p1.fBase.map Ag)), .pure (.sl (p1.fNext.map Ag)), .pure (.sl (p1.fHeld.map A3))])] [] (.e (.one (.pure (.val (.int .i64 r))))) := by
 unfold Cu at h
 refine Aq (n := 154) (rs := [.tmp 4]) Try.func24 rfl rfl rfl (BM rfl) (BM rfl) rfl fun w0 S0 => ?_
 refine Ab (Aa Ad rfl (qb rfl (qb rfl (qa rfl (Ac (Ab (Ab (Aa Ad rfl (qL DM Dw rfl ?_)))))))))
 obtain ⟨v1, a1, h⟩ := bind_some h
 refine AK [] (Hv N p0 v1 a1) XS rfl (qa rfl (Ac (Ab (Aa Ad rfl (qm rfl (CD rfl (Ac ?_)))))))
 refine As rfl (fun c2 => ?_) (fun c2 => ?_)
 ·have h := Ao c2 h
  refine Ab (Aa Ad rfl (qm rfl (qa rfl (Ac ?_))))
  obtain rfl := sj h
  refine Al (sm [] [(4, .e (.one (.pure (.val (.int .i64 v1)))))] [] rfl rfl) (AC ?_)
  exact ⟨⟨[_], ⟨.tmp _ _ rfl, trivial⟩, rfl⟩, trivial⟩
 ·have h := Ap c2 h
  refine Au (Ab (Aa Ad rfl (qf Bn rfl (ql A9 rfl (AS AE rfl (qa rfl (Ac (Ab ?_))))))))
  refine AW h (fun v3 => mk [(2, .e (.one (.ptr 2 0))), (3, .e (.one (.ptr 3 0))), (6, .e (.one (.pure (.val (.int .i64 ((p0.fVersions.length : Int))))))), (39, .e (.one (.pure (.val (.bool v3)))))] [(2, .box [.pure (.sl (p0.fVersions.map Ag)), .pure (.sl (p0.fNow.map Ag)), .pure (.sl (p0.fTarget.map Ag)), .pure (.sl (p0.fTables.map Ai))]), (3, .box [.pure (.sl (p1.fBase.map Ag)), .pure (.sl (p1.fNext.map Ag)), .pure (.sl (p1.fHeld.map A3))])]) (fun j3 h => ?_) (fun v3 h => ?_)
  ·refine Aa Ad rfl (qf Cy rfl (ql A9 rfl (AS AE rfl (qm rfl (CD rfl (qm rfl ?_))))))
   refine AI (t := 24) rfl (fun c4 => ?_) (fun c4 => ?_)
   ·have h := Ao c4 h
    refine qn rfl (qn rfl (qn rfl (qn rfl (qn rfl (qp rfl (qm rfl (qn rfl (qn rfl (qn rfl (qn rfl (qn rfl (qn rfl (qn rfl (qp rfl (Ac ?_)))))))))))))))
    exact Aw _ h (sm [] _ _ rfl rfl)
   ·have h := Ap c4 h
    refine qf By rfl (ql A9 rfl (AS AE rfl (qm rfl (CD rfl (qp rfl (qm rfl ?_))))))
    refine AI (t := 31) rfl (fun c5 => ?_) (fun c5 => ?_)
    ·have h := Ao c5 h
     refine qn rfl (qn rfl (qn rfl (qn rfl (qn rfl (qn rfl (qn rfl (qp rfl (Ac ?_))))))))
     exact Aw _ h (sm [] _ _ rfl rfl)
    ·have h := Ap c5 h
     refine qf Cz rfl (ql Gd rfl (AS Dm rfl (qf CH rfl (ql Gw rfl (AS DV rfl (CD rfl (qp rfl (Ac ?_))))))))
     exact Aw _ h (sm [] _ _ rfl rfl)
  ·refine As rfl (fun c6 => ?_) (fun c6 => ?_)
   ·have h := Ao c6 h
    refine Ab (Aa Ad rfl (qa rfl (Ac ?_)))
    obtain rfl := sj h
    refine Al (sm [] [(4, .e (.one (.pure (.val (.int .i64 6)))))] [] rfl rfl) (AC ?_)
    exact ⟨⟨[_], ⟨.tmp _ _ rfl, trivial⟩, rfl⟩, trivial⟩
   ·have h := Ap c6 h
    refine Au (Ab (Ab (Aa Ad rfl (qa rfl (Ac ?_)))))
    refine AR (L := B1 N p0 p1) h (fun v7 => mk [(2, .e (.one (.ptr 2 0))), (3, .e (.one (.ptr 3 0))), (6, .e (.one (.pure (.val (.int .i64 ((p0.fVersions.length : Int))))))), (7, .e (.one (.pure (.val (.int .i64 v7)))))] [(2, .box [.pure (.sl (p0.fVersions.map Ag)), .pure (.sl (p0.fNow.map Ag)), .pure (.sl (p0.fTarget.map Ag)), .pure (.sl (p0.fTables.map Ai))]), (3, .box [.pure (.sl (p1.fBase.map Ag)), .pure (.sl (p1.fNext.map Ag)), .pure (.sl (p1.fHeld.map A3))])]) (fun v8 => mk [(2, .e (.one (.ptr 2 0))), (3, .e (.one (.ptr 3 0)))] [(2, .box [.pure (.sl (p0.fVersions.map Ag)), .pure (.sl (p0.fNow.map Ag)), .pure (.sl (p0.fTarget.map Ag)), .pure (.sl (p0.fTables.map Ai))]), (3, .box [.pure (.sl (p1.fBase.map Ag)), .pure (.sl (p1.fNext.map Ag)), .pure (.sl (p1.fHeld.map A3))])]) (fun _ _ => rfl) (sm [] _ _ rfl rfl) (fun j7 n7 v7 h => ?_) (fun v8 s h hs => ?_)
    ·unfold B1 at h
     refine Ab (Ab (Aa Ad rfl (qm rfl (qm rfl (A8 rfl (Ac ?_))))))
     refine As rfl (fun c9 => ?_) (fun c9 => ?_)
     ·have h := Ao c9 h
      refine Au (Ab (AU (Ab ?_)))
      refine AW h (fun v10 => mk [(2, .e (.one (.ptr 2 0))), (3, .e (.one (.ptr 3 0))), (6, .e (.one (.pure (.val (.int .i64 ((p0.fVersions.length : Int))))))), (7, .e (.one (.pure (.val (.int .i64 v7))))), (84, .e (.one (.pure (.val (.bool v10)))))] [(2, .box [.pure (.sl (p0.fVersions.map Ag)), .pure (.sl (p0.fNow.map Ag)), .pure (.sl (p0.fTarget.map Ag)), .pure (.sl (p0.fTables.map Ai))]), (3, .box [.pure (.sl (p1.fBase.map Ag)), .pure (.sl (p1.fNext.map Ag)), .pure (.sl (p1.fHeld.map A3))])]) (fun j10 h => ?_) (fun v10 h => ?_)
      ·refine Aa Ad rfl (qf Cy rfl (ql A9 rfl (qm rfl ?_)))
       obtain ⟨v11, a11, b11, h⟩ := Am h
       refine qi AE C7 a11 (Aj b11) rfl (qk B7 rfl (A8 rfl (qm rfl ?_)))
       refine AI (t := 51) rfl (fun c12 => ?_) (fun c12 => ?_)
       ·have h := Ao c12 h
        refine qn rfl (qn rfl (qn rfl (qn rfl (qn rfl (qn rfl (qn rfl (qn rfl (qn rfl (qn rfl (qn rfl (qp rfl (qm rfl (qn rfl (qn rfl (qn rfl (qn rfl (qn rfl (qn rfl (qp rfl (qm rfl (qn rfl (qn rfl (qn rfl (qn rfl (qn rfl (qn rfl (qn rfl (qn rfl (qn rfl (qn rfl (qn rfl (qp rfl (A0 (by kernel_rfl) ?_)))))))))))))))))))))))))))))))))
        exact Aw _ h (sm [] _ _ rfl rfl)
       ·have h := Ap c12 h
        refine qf Cy rfl (ql A9 rfl (qm rfl ?_))
        obtain ⟨v13, a13, b13, h⟩ := Am h
        refine qi AE C7 a13 (Aj b13) rfl (qk B7 rfl (qf Bn rfl (ql A9 rfl (qm rfl ?_))))
        obtain ⟨v14, a14, b14, h⟩ := Am h
        refine qi AE C7 a14 (Aj b14) rfl (qk B7 rfl (Ey rfl (qp rfl (qm rfl ?_))))
        refine AI (t := 64) rfl (fun c15 => ?_) (fun c15 => ?_)
        ·have h := Ao c15 h
         refine qn rfl (qn rfl (qn rfl (qn rfl (qn rfl (qn rfl (qp rfl (qm rfl (qn rfl (qn rfl (qn rfl (qn rfl (qn rfl (qn rfl (qn rfl (qn rfl (qn rfl (qn rfl (qn rfl (qp rfl (A0 (by kernel_rfl) ?_))))))))))))))))))))
         exact Aw _ h (sm [] _ _ rfl rfl)
        ·have h := Ap c15 h
         refine qf By rfl (ql A9 rfl (qm rfl ?_))
         obtain ⟨v16, a16, b16, h⟩ := Am h
         refine qi AE C7 a16 (Aj b16) rfl (qk B7 rfl (A8 rfl (qp rfl (qm rfl ?_))))
         refine AI (t := 72) rfl (fun c17 => ?_) (fun c17 => ?_)
         ·have h := Ao c17 h
          refine qn rfl (qn rfl (qn rfl (qn rfl (qn rfl (qn rfl (qn rfl (qn rfl (qn rfl (qn rfl (qn rfl (qp rfl (A0 (by kernel_rfl) ?_))))))))))))
          exact Aw _ h (sm [] _ _ rfl rfl)
         ·have h := Ap c17 h
          refine qf By rfl (ql A9 rfl (qm rfl ?_))
          obtain ⟨v18, a18, b18, h⟩ := Am h
          refine qi AE C7 a18 (Aj b18) rfl (qk B7 rfl (qf Bn rfl (ql A9 rfl (qm rfl ?_))))
          obtain ⟨v19, a19, b19, h⟩ := Am h
          refine qi AE C7 a19 (Aj b19) rfl (qk B7 rfl (Ey rfl (qp rfl (A0 (by kernel_rfl) ?_))))
          exact Aw _ h (sm [] _ _ rfl rfl)
      ·refine As rfl (fun c20 => ?_) (fun c20 => ?_)
       ·have h := Ao c20 h
        refine Ab (Aa Ad rfl (qa rfl (Ac ?_)))
        obtain rfl := sj h
        refine Al (sm [] [(4, .e (.one (.pure (.val (.int .i64 7)))))] [] rfl rfl) (AC ?_)
        exact ⟨⟨[_], ⟨.tmp _ _ rfl, trivial⟩, rfl⟩, trivial⟩
       ·have h := Ap c20 h
        refine Au (Ab (Aa Ad rfl (qf Cy rfl (ql A9 rfl (qm rfl ?_)))))
        obtain ⟨v21, a21, b21, h⟩ := Am h
        refine qi AE C7 a21 (Aj b21) rfl (qk B7 rfl (qf By rfl (ql A9 rfl (qm rfl ?_))))
        obtain ⟨v22, a22, b22, h⟩ := Am h
        refine qi AE C7 a22 (Aj b22) rfl (qk B7 rfl (B4 rfl (A0 (by kernel_rfl) ?_)))
        refine As rfl (fun c23 => ?_) (fun c23 => ?_)
        ·have h := Ao c23 h
         refine Ab (Aa Ad rfl (qa rfl (Ac ?_)))
         obtain rfl := sj h
         refine Al (sm [] [(4, .e (.one (.pure (.val (.int .i64 1)))))] [] rfl rfl) (AC ?_)
         exact ⟨⟨[_], ⟨.tmp _ _ rfl, trivial⟩, rfl⟩, trivial⟩
        ·have h := Ap c23 h
         refine Au (Aa Ad rfl (qm rfl (Bp rfl (qa rfl (Ac ?_)))))
         exact Aw _ h (sm [] _ _ rfl rfl)
     ·have h := Ap c9 h
      refine A5 ?_
      exact Aw _ h (sm [] _ _ rfl rfl)
    ·refine Al hs (Ab (Ab (Aa Ad rfl (qa rfl (Ac ?_)))))
     refine AR (L := BU N p0 p1) h (fun v24 => mk [(2, .e (.one (.ptr 2 0))), (3, .e (.one (.ptr 3 0))), (8, .e (.one (.pure (.val (.int .i64 v24)))))] [(2, .box [.pure (.sl (p0.fVersions.map Ag)), .pure (.sl (p0.fNow.map Ag)), .pure (.sl (p0.fTarget.map Ag)), .pure (.sl (p0.fTables.map Ai))]), (3, .box [.pure (.sl (p1.fBase.map Ag)), .pure (.sl (p1.fNext.map Ag)), .pure (.sl (p1.fHeld.map A3))])]) (fun v25 => mk [] []) (fun _ _ => rfl) (sm [] _ _ rfl rfl) (fun j24 n24 v24 h => ?_) (fun v25 s h hs => ?_)
     ·unfold BU at h
      refine Ab (Ab (Aa Ad rfl (qm rfl (qf CH rfl (ql Gw rfl (AS DV rfl (A8 rfl (Ac ?_))))))))
      refine As rfl (fun c26 => ?_) (fun c26 => ?_)
      ·have h := Ao c26 h
       refine Au (Ab (AU (Ab (Aa Ad rfl (qf CH rfl (ql Gw rfl (qm rfl ?_)))))))
       obtain ⟨v27, a27, b27, h⟩ := Am h
       refine qi DV DJ a27 (Aj b27) rfl (qK Gf DJ rfl (qz Jd rfl (qs DJ rfl (Ac (Ab (Aa Ad rfl (qf Bn rfl (ql A9 rfl (qf CQ rfl (ql B7 rfl ?_))))))))))
       obtain ⟨v28, a28, b28, h⟩ := Am h
       refine qi AE C7 a28 (Aj b28) rfl (qk B7 rfl ?_)
       obtain ⟨c29, h⟩ := AN h
       refine H0 rfl c29 (Nu rfl (qa rfl (Ac ?_)))
       refine AW h (fun v30 => mk [(2, .e (.one (.ptr 2 0))), (3, .e (.one (.ptr 3 0))), (8, .e (.one (.pure (.val (.int .i64 v24))))), (153, .e (.one (.pure (.val (.bool v30)))))] [(2, .box [.pure (.sl (p0.fVersions.map Ag)), .pure (.sl (p0.fNow.map Ag)), .pure (.sl (p0.fTarget.map Ag)), .pure (.sl (p0.fTables.map Ai))]), (3, .box [.pure (.sl (p1.fBase.map Ag)), .pure (.sl (p1.fNext.map Ag)), .pure (.sl (p1.fHeld.map A3))])]) (fun j30 h => ?_) (fun v30 h => ?_)
       ·refine Aa Ad rfl (qL Gf DJ rfl ?_)
        obtain ⟨v31, a31, h⟩ := bind_some h
        refine AK [] (Cc N v27 v31 a31) Ov rfl (CE rfl (qm rfl ?_))
        refine AI (t := 119) rfl (fun c32 => ?_) (fun c32 => ?_)
        ·have h := Ao c32 h
         refine qf Cz rfl (ql Gd rfl (qm rfl ?_))
         obtain ⟨v33, a33, b33, h⟩ := Am h
         refine qi Dm Fn a33 (Aj b33) rfl (qk Jz rfl (CD rfl (qp rfl (qm rfl ?_))))
         refine AI (t := 127) rfl (fun c34 => ?_) (fun c34 => ?_)
         ·have h := Ao c34 h
          refine qn rfl (qn rfl (qn rfl (qu rfl (qu rfl (qu rfl (qu rfl (qu rfl (qu rfl (qu rfl (qu rfl (qu rfl (qu rfl (qu rfl (qu rfl (qu rfl (qu rfl (qu rfl (qu rfl (qu rfl (qu rfl (qu rfl (qu rfl (qu rfl (qn rfl (qp rfl (A0 (by kernel_rfl) ?_))))))))))))))))))))))))))
          exact Aw _ h (sm [] _ _ rfl rfl)
         ·have h := Ap c34 h
          refine qL Gf DJ rfl ?_
          obtain ⟨v35, a35, h⟩ := bind_some h
          refine AK [] (Cc N v27 v35 a35) Ov rfl (qm rfl ?_)
          refine AI (t := 130) rfl (fun c36 => ?_) (fun c36 => ?_)
          ·have h := Ao c36 h
           refine qf Cz rfl (ql Gd rfl (qm rfl ?_))
           obtain ⟨v37, a37, b37, h⟩ := Am h
           refine qi Dm Fn a37 (Aj b37) rfl (qk Jz rfl (qm rfl (HJ rfl (CD rfl (qm rfl ?_)))))
           refine AI (t := 139) rfl (fun c38 => ?_) (fun c38 => ?_)
           ·have h := Ao c38 h
            refine qn rfl (qn rfl (qn rfl (qn rfl (qn rfl (qn rfl (qn rfl (qn rfl (qn rfl (qn rfl (qn rfl (qp rfl (qp rfl (qp rfl (A0 (by kernel_rfl) ?_))))))))))))))
            exact Aw _ h (sm [] _ _ rfl rfl)
           ·have h := Ap c38 h
            refine qL Bq AT rfl (qf CQ rfl (ql B7 rfl ?_))
            obtain ⟨v39, a39, h⟩ := bind_some h
            refine AK [] (C9 N p1 v27.fFrom v39 a39) Rs rfl (qf Cz rfl (ql Gd rfl (qm rfl ?_)))
            obtain ⟨v40, a40, b40, h⟩ := Am h
            refine qi Dm Fn a40 (Aj b40) rfl (qk Jz rfl (HJ rfl (CD rfl (qp rfl (qp rfl (qp rfl (A0 (by kernel_rfl) ?_)))))))
            exact Aw _ h (sm [] _ _ rfl rfl)
          ·have h := Ap c36 h
           refine qn rfl (qn rfl (qn rfl (qn rfl (qn rfl (qn rfl (qn rfl (qn rfl (qn rfl (qu rfl (qu rfl (qu rfl (qu rfl (qu rfl (qu rfl (qu rfl (qu rfl (qu rfl (qu rfl (qu rfl (qn rfl (qp rfl (qp rfl (A0 (by kernel_rfl) ?_)))))))))))))))))))))))
           exact Aw _ h (sm [] _ _ rfl rfl)
        ·have h := Ap c32 h
         refine qn rfl (qn rfl (qn rfl (qn rfl (qn rfl (qn rfl (qp rfl (qm rfl (qL Gf DJ rfl ?_))))))))
         obtain ⟨v41, a41, h⟩ := bind_some h
         refine AK [] (Cc N v27 v41 a41) Ov rfl (qm rfl ?_)
         refine AI (t := 130) rfl (fun c42 => ?_) (fun c42 => ?_)
         ·have h := Ao c42 h
          refine qf Cz rfl (ql Gd rfl (qm rfl ?_))
          obtain ⟨v43, a43, b43, h⟩ := Am h
          refine qi Dm Fn a43 (Aj b43) rfl (qk Jz rfl (qm rfl (HJ rfl (CD rfl (qm rfl ?_)))))
          refine AI (t := 139) rfl (fun c44 => ?_) (fun c44 => ?_)
          ·have h := Ao c44 h
           refine qn rfl (qn rfl (qn rfl (qn rfl (qn rfl (qn rfl (qn rfl (qn rfl (qn rfl (qn rfl (qn rfl (qp rfl (qp rfl (qp rfl (A0 (by kernel_rfl) ?_))))))))))))))
           exact Aw _ h (sm [] _ _ rfl rfl)
          ·have h := Ap c44 h
           refine qL Bq AT rfl (qf CQ rfl (ql B7 rfl ?_))
           obtain ⟨v45, a45, h⟩ := bind_some h
           refine AK [] (C9 N p1 v27.fFrom v45 a45) Rs rfl (qf Cz rfl (ql Gd rfl (qm rfl ?_)))
           obtain ⟨v46, a46, b46, h⟩ := Am h
           refine qi Dm Fn a46 (Aj b46) rfl (qk Jz rfl (HJ rfl (CD rfl (qp rfl (qp rfl (qp rfl (A0 (by kernel_rfl) ?_)))))))
           exact Aw _ h (sm [] _ _ rfl rfl)
         ·have h := Ap c42 h
          refine qn rfl (qn rfl (qn rfl (qn rfl (qn rfl (qn rfl (qn rfl (qn rfl (qn rfl (qu rfl (qu rfl (qu rfl (qu rfl (qu rfl (qu rfl (qu rfl (qu rfl (qu rfl (qu rfl (qu rfl (qn rfl (qp rfl (qp rfl (A0 (by kernel_rfl) ?_)))))))))))))))))))))))
          exact Aw _ h (sm [] _ _ rfl rfl)
       ·refine As rfl (fun c47 => ?_) (fun c47 => ?_)
        ·have h := Ao c47 h
         refine Ab (Aa Ad rfl (qa rfl (Ac ?_)))
         obtain rfl := sj h
         refine Al (sm [] [(4, .e (.one (.pure (.val (.int .i64 1)))))] [] rfl rfl) (AC ?_)
         exact ⟨⟨[_], ⟨.tmp _ _ rfl, trivial⟩, rfl⟩, trivial⟩
        ·have h := Ap c47 h
         refine Au (Aa Ad rfl (qm rfl (Bp rfl (qa rfl (Ac ?_)))))
         exact Aw _ h (sm [] _ _ rfl rfl)
      ·have h := Ap c26 h
       refine A5 ?_
       exact Aw _ h (sm [] _ _ rfl rfl)
     ·refine Al hs (Ab (Aa Ad rfl (qa rfl (Ac ?_))))
      obtain rfl := sj h
      refine Al (sm [] [(4, .e (.one (.pure (.val (.int .i64 0)))))] [] rfl rfl) (AC ?_)
      exact ⟨⟨[_], ⟨.tmp _ _ rfl, trivial⟩, rfl⟩, trivial⟩
set_option maxRecDepth 10000 in
theorem Je (N : Nat) (p0 : Ah) (r : Ah) (h : DN N p0 = some r) : AB Try.prog 85 [.e (.agg [.pure (.sl (p0.fBase.map Ag)), .pure (.sl (p0.fNext.map Ag)), .pure (.sl (p0.fHeld.map A3))])] [(1, r.fBase.map Ag), (1, r.fNext.map Ag), (1, r.fHeld.map A3)] (.e (.agg [.own 0, .own 1, .own 2])) := by
 unfold DN at h
 refine Aq (n := 16) (rs := [.cell 2 43]) Try.func85 rfl rfl rfl (BM rfl) (BM rfl) rfl fun w0 S0 => ?_
 refine Ab (Aa Ad rfl (qb rfl (qz Di rfl (Ac (Ab (Aa Ad rfl (En AE C7 J5 rfl (qf Cy rfl (ql A9 rfl ?_)))))))))
 obtain ⟨c1, h⟩ := AN h
 refine I8 (f := Ag) AE AE C7 KP J5 (fun _ => rfl) c1 rfl (En AE C7 J5 rfl (qf By rfl (ql A9 rfl ?_)))
 obtain ⟨c2, h⟩ := AN h
 refine I8 (f := Ag) AE AE C7 KP J5 (fun _ => rfl) c2 rfl (En Dm Fn OJ rfl (qf Cz rfl (ql Gd rfl ?_)))
 obtain ⟨c3, h⟩ := AN h
 refine I8 (f := A3) Dm Dm Fn PR OJ (fun _ => rfl) c3 rfl (A7 Di GG rfl (qs AT rfl (A0 (by kernel_rfl) ?_)))
 obtain rfl := sj h
 refine Al (sm [(1000, 6), (1001, 10), (1002, 14)] [(2, .e (.one (.ptr 2 0)))] [(2, .box [.own 1000, .own 1001, .own 1002]), (1000, .vec 1 (((([] : List Int)) ++ p0.fBase).map Ag)), (1001, .vec 1 (((([] : List Int)) ++ p0.fNext).map Ag)), (1002, .vec 1 (((([] : List Int)) ++ p0.fHeld).map A3))] rfl rfl) (AC ?_)
 exact ⟨⟨[_], ⟨.cellN _ _ _ _ _ _ _ rfl rfl Bq AT rfl rfl (Hm rfl), trivial⟩, rfl⟩, ⟨rfl, rfl, rfl, trivial⟩⟩
set_option maxRecDepth 10000 in
theorem Kw (N : Nat) (p0 : Ah) (r : (List Ah)) (h : DU N p0 = some r) : AB Try.prog 50 [.e (.agg [.pure (.sl (p0.fBase.map Ag)), .pure (.sl (p0.fNext.map Ag)), .pure (.sl (p0.fHeld.map A3))])] [(3, r.map Ea)] (.e (.one (.own 0))) := by
 unfold DU at h
 refine Aq (n := 62) (rs := [.tmp 2]) Try.func50 rfl rfl rfl (BM rfl) (BM rfl) rfl fun w0 S0 => ?_
 refine Ab (Aa Ad rfl (qb rfl (qa rfl (Ac (Ab (Aa Ad rfl (qa rfl (Ac (Ab (Ab (Aa Ad rfl (qa rfl (Ac ?_)))))))))))))
 refine AR (L := Cm N p0) h (fun v1 => mk [(1, .e (.one (.ptr 1 0))), (3, .e (.one (.pure (.val (.int .i64 v1.1))))), (4, .e (.one (.pure (.val (.int .i64 v1.2)))))] [(1, .box [.pure (.sl (p0.fBase.map Ag)), .pure (.sl (p0.fNext.map Ag)), .pure (.sl (p0.fHeld.map A3))])]) (fun v2 => mk [(1, .e (.one (.ptr 1 0))), (3, .e (.one (.pure (.val (.int .i64 v2)))))] [(1, .box [.pure (.sl (p0.fBase.map Ag)), .pure (.sl (p0.fNext.map Ag)), .pure (.sl (p0.fHeld.map A3))])]) (fun _ _ => rfl) (sm [] _ _ rfl rfl) (fun j1 n1 v1 h => ?_) (fun v2 s h hs => ?_)
 ·unfold Cm at h
  refine Ab (Ab (Aa Ad rfl (qm rfl (qf By rfl (ql A9 rfl (AS AE rfl (A8 rfl (Ac ?_))))))))
  refine As rfl (fun c3 => ?_) (fun c3 => ?_)
  ·have h := Ao c3 h
   refine Au ?_
   refine AW h (fun v4 => mk [(1, .e (.one (.ptr 1 0))), (3, .e (.one (.pure (.val (.int .i64 v4))))), (4, .e (.one (.pure (.val (.int .i64 v1.2)))))] [(1, .box [.pure (.sl (p0.fBase.map Ag)), .pure (.sl (p0.fNext.map Ag)), .pure (.sl (p0.fHeld.map A3))])]) (fun j4 h => ?_) (fun v4 h => ?_)
   ·refine AU (Ab (Aa Ad rfl (qf By rfl (ql A9 rfl (qm rfl ?_)))))
    obtain ⟨v5, a5, b5, h⟩ := Am h
    refine qi AE C7 a5 (Aj b5) rfl (qk B7 rfl (Ey rfl (Ac ?_)))
    refine As rfl (fun c6 => ?_) (fun c6 => ?_)
    ·have h := Ao c6 h
     refine Aa Ad rfl (qm rfl (Bp rfl (qa rfl (Ac ?_))))
     exact Aw _ h (sm [] _ _ rfl rfl)
    ·have h := Ap c6 h
     refine Au ?_
     exact Aw _ h (sm [] _ _ rfl rfl)
   ·refine Aa Ad rfl (qm rfl (Bp rfl (qa rfl (Ac ?_))))
    exact Aw _ h (sm [] _ _ rfl rfl)
  ·have h := Ap c3 h
   refine A5 ?_
   exact Aw _ h (sm [] _ _ rfl rfl)
 ·refine Al hs (Ab (Aa Ad rfl (qa rfl (Ac (Ab (Ab (Aa Ad rfl (qa rfl (Ac ?_)))))))))
  refine AR (L := Bv N p0 v2) h (fun v7 => mk [(1, .e (.one (.ptr 1 0))), (3, .e (.one (.pure (.val (.int .i64 v2))))), (5, .e (.one (.own 2001))), (6, .e (.one (.pure (.val (.int .i64 v7.2)))))] [(1, .box [.pure (.sl (p0.fBase.map Ag)), .pure (.sl (p0.fNext.map Ag)), .pure (.sl (p0.fHeld.map A3))]), (2001, .vec 3 (v7.1.map Ea))]) (fun v8 => mk [(5, .e (.one (.own 2002)))] [(2002, .vec 3 (v8.map Ea))]) (fun _ _ => rfl) ((BF 5 2022 3 rfl rfl rfl).trans (sm [(2001, 2022)] _ _ rfl rfl)) (fun j7 n7 v7 h => ?_) (fun v8 s h hs => ?_)
  ·unfold Bv at h
   refine Ab (Ab (Aa Ad rfl (qm rfl (qm rfl ?_))))
   obtain ⟨c9, h⟩ := AN h
   refine H0 rfl c9 (A8 rfl (Ac ?_))
   refine As rfl (fun c10 => ?_) (fun c10 => ?_)
   ·have h := Ao c10 h
    refine Au (Ab (AU (Ab (Aa Ad rfl (qL Bq AT rfl ?_)))))
    obtain ⟨v11, a11, h⟩ := bind_some h
    refine AK [2003, 2004, 2005] (Je N p0 v11 a11) Xe rfl (qz Di rfl (qs AT rfl (Ac (Ab (Aa Ad rfl (qa rfl (Ac (Ab (Ab (Aa Ad rfl (qa rfl (Ac ?_))))))))))))
    refine AR (L := BQ N p0 v7) h (fun v12 => mk [(1, .e (.one (.ptr 1 0))), (3, .e (.one (.pure (.val (.int .i64 v2))))), (5, .e (.one (.own 2009))), (6, .e (.one (.pure (.val (.int .i64 v7.2))))), (7, .e (.one (.ptr 7 0))), (8, .e (.one (.pure (.val (.int .i64 v12.2.1))))), (9, .e (.one (.pure (.val (.int .i64 v12.2.2)))))] [(1, .box [.pure (.sl (p0.fBase.map Ag)), .pure (.sl (p0.fNext.map Ag)), .pure (.sl (p0.fHeld.map A3))]), (7, .box [.own 2006, .own 2007, .own 2008]), (2006, .vec 1 (v11.fBase.map Ag)), (2007, .vec 1 (v12.1.map Ag)), (2008, .vec 1 (v11.fHeld.map A3)), (2009, .vec 3 (v7.1.map Ea))]) (fun v13 => mk [(1, .e (.one (.ptr 1 0))), (3, .e (.one (.pure (.val (.int .i64 v2))))), (5, .e (.one (.own 2013))), (6, .e (.one (.pure (.val (.int .i64 v7.2))))), (7, .e (.one (.ptr 7 0)))] [(1, .box [.pure (.sl (p0.fBase.map Ag)), .pure (.sl (p0.fNext.map Ag)), .pure (.sl (p0.fHeld.map A3))]), (7, .box [.own 2010, .own 2011, .own 2012]), (2010, .vec 1 (v11.fBase.map Ag)), (2011, .vec 1 (v13.map Ag)), (2012, .vec 1 (v11.fHeld.map A3)), (2013, .vec 3 (v7.1.map Ea))]) (fun _ _ => rfl) (sm [(2006, 2003), (2007, 2004), (2008, 2005), (2009, 2001)] _ _ rfl rfl) (fun j12 n12 v12 h => ?_) (fun v13 s h hs => ?_)
    ·unfold BQ at h
     refine Ab (Ab (Aa Ad rfl (qm rfl (qf By rfl (ql A9 rfl (AS AE rfl (A8 rfl (Ac ?_))))))))
     refine As rfl (fun c14 => ?_) (fun c14 => ?_)
     ·have h := Ao c14 h
      refine Au ?_
      refine AW h (fun v15 => mk [(1, .e (.one (.ptr 1 0))), (3, .e (.one (.pure (.val (.int .i64 v2))))), (5, .e (.one (.own 2017))), (6, .e (.one (.pure (.val (.int .i64 v7.2))))), (7, .e (.one (.ptr 7 0))), (8, .e (.one (.pure (.val (.int .i64 v15.2))))), (9, .e (.one (.pure (.val (.int .i64 v12.2.2)))))] [(1, .box [.pure (.sl (p0.fBase.map Ag)), .pure (.sl (p0.fNext.map Ag)), .pure (.sl (p0.fHeld.map A3))]), (7, .box [.own 2014, .own 2015, .own 2016]), (2014, .vec 1 (v11.fBase.map Ag)), (2015, .vec 1 (v15.1.map Ag)), (2016, .vec 1 (v11.fHeld.map A3)), (2017, .vec 3 (v7.1.map Ea))]) (fun j15 h => ?_) (fun v15 h => ?_)
      ·refine AU (Ab (Ab (Aa Ad rfl (qf By rfl (ql A9 rfl (qm rfl ?_))))))
       obtain ⟨v16, a16, b16, h⟩ := Am h
       refine qi AE C7 a16 (Aj b16) rfl (qk B7 rfl (A8 rfl (Ac ?_)))
       refine As rfl (fun c17 => ?_) (fun c17 => ?_)
       ·have h := Ao c17 h
        refine A5 ?_
        exact Aw _ h (sm [(2014, 2006), (2015, 2007), (2016, 2008), (2017, 2009)] _ _ rfl rfl)
       ·have h := Ap c17 h
        refine Au ?_
        refine AW h (fun v18 => mk [(1, .e (.one (.ptr 1 0))), (3, .e (.one (.pure (.val (.int .i64 v2))))), (5, .e (.one (.own 2021))), (6, .e (.one (.pure (.val (.int .i64 v7.2))))), (7, .e (.one (.ptr 7 0))), (8, .e (.one (.pure (.val (.int .i64 v12.2.1))))), (9, .e (.one (.pure (.val (.int .i64 v12.2.2)))))] [(1, .box [.pure (.sl (p0.fBase.map Ag)), .pure (.sl (p0.fNext.map Ag)), .pure (.sl (p0.fHeld.map A3))]), (7, .box [.own 2018, .own 2019, .own 2020]), (2018, .vec 1 (v11.fBase.map Ag)), (2019, .vec 1 (v18.map Ag)), (2020, .vec 1 (v11.fHeld.map A3)), (2021, .vec 3 (v7.1.map Ea))]) (fun j18 h => ?_) (fun v18 h => ?_)
        ·refine Ab (Aa Ad rfl (qm rfl (qm rfl ?_)))
         obtain ⟨c19, h⟩ := AN h
         refine It rfl c19 (IW rfl (by decide) (B4 rfl (Ac ?_)))
         refine As rfl (fun c20 => ?_) (fun c20 => ?_)
         ·have h := Ao c20 h
          refine Aa Ad rfl (qf By rfl (ql A9 rfl (qm rfl ?_)))
          obtain ⟨v21, a21, b21, h⟩ := Am h
          refine qI AE C7 a21 (Aj b21) rfl ?_
          refine D1 rfl rfl rfl rfl (Aj b21) rfl C7 rfl (BM rfl) (DO Ag v12.1 _ ((-1))) ?_
          refine Ac ?_
          exact Aw _ h (sm [(2018, 2006), (2019, 2007), (2020, 2008), (2021, 2009)] _ _ rfl rfl)
         ·have h := Ap c20 h
          refine Au ?_
          exact Aw _ h (sm [(2018, 2006), (2019, 2007), (2020, 2008), (2021, 2009)] _ _ rfl rfl)
        ·refine Aa Ad rfl (qm rfl (Bp rfl (qa rfl (Ac ?_))))
         exact Aw _ h (sm [(2014, 2018), (2015, 2019), (2016, 2020), (2017, 2021)] _ _ rfl rfl)
      ·refine Aa Ad rfl (qm rfl (Bp rfl (qa rfl (Ac ?_))))
       exact Aw _ h (sm [(2006, 2014), (2007, 2015), (2008, 2016), (2009, 2017)] _ _ rfl rfl)
     ·have h := Ap c14 h
      refine A5 ?_
      exact Aw _ h (sm [(2010, 2006), (2011, 2007), (2012, 2008), (2013, 2009)] _ _ rfl rfl)
    ·refine Al hs (Aa Ad rfl (qm rfl (qL Bq AT rfl (Du (Ba 2010 _ _ rfl rfl) (Du (Ba 2011 _ _ rfl rfl) (Du (Ba 2012 _ _ rfl rfl) (En JY AT Di rfl ?_)))))))
     obtain ⟨c22, h⟩ := AN h
     refine Dy (f := Ea) JY JY AT UM Di c22 rfl (qa rfl (Ac (Aa Ad rfl (qm rfl (Bp rfl (qa rfl (Ac ?_)))))))
     exact Aw _ h (sm [(2001, 60)] _ _ rfl rfl)
   ·have h := Ap c10 h
    refine A5 ?_
    exact Aw _ h (sm [(2002, 2001)] _ _ rfl rfl)
  ·refine Al hs (Ab (Aa Ad rfl (qm rfl (qa rfl (Ac ?_)))))
   obtain rfl := sj h
   refine Al (sm [(1000, 2002)] [(2, .e (.one (.own 1000)))] [(1000, .vec 3 (v8.map Ea))] rfl rfl) (AC ?_)
   exact ⟨⟨[_], ⟨.tmp _ _ rfl, trivial⟩, rfl⟩, ⟨rfl, trivial⟩⟩
set_option maxRecDepth 10000 in
theorem Fj (N : Nat) (p0 : Int) (p1 : Int) (r : Bool) (h : Ck N p0 p1 = some r) : AB Try.prog 60 [.e (.one (.pure (.val (.int .u8 p0)))), .e (.one (.pure (.val (.int .i64 p1))))] [] (.e (.one (.pure (.val (.bool r))))) := by
 unfold Ck at h
 refine Aq (n := 10) (rs := [.tmp 4]) Try.func60 rfl rfl rfl (BM rfl) (BM rfl) rfl fun w0 S0 => ?_
 refine Ab (Aa Ad rfl (qa rfl (Ac (Ab (Aa Ad rfl (qm rfl (qm rfl ?_)))))))
 obtain ⟨c1, h⟩ := AN h
 refine It rfl c1 (K9 rfl (B4 rfl (qa rfl (Ac ?_))))
 obtain rfl := sj h
 refine Al (sm [] [(4, .e (.one (.pure (.val (.bool (((EZ .u8 ((E0 .u8 p0 p1)) 1) == 1)))))))] [] rfl rfl) (AC ?_)
 exact ⟨⟨[_], ⟨.tmp _ _ rfl, trivial⟩, rfl⟩, trivial⟩
set_option maxRecDepth 10000 in
theorem JP (N : Nat) (p0 : Ae) (p1 : Ah) (r : (List An)) (h : D2 N p0 p1 = some r) : AB Try.prog 82 [.e (.agg [.pure (.sl (p0.fVersions.map Ag)), .pure (.sl (p0.fNow.map Ag)), .pure (.sl (p0.fTarget.map Ag)), .pure (.sl (p0.fTables.map Ai))]), .e (.agg [.pure (.sl (p1.fBase.map Ag)), .pure (.sl (p1.fNext.map Ag)), .pure (.sl (p1.fHeld.map A3))])] [(3, r.map AY)] (.e (.one (.own 0))) := by
 unfold D2 at h
 refine Aq (n := 111) (rs := [.tmp 4]) Try.func82 rfl rfl rfl (BM rfl) (BM rfl) rfl fun w0 S0 => ?_
 refine Ab (Aa Ad rfl (qb rfl (qb rfl (qa rfl (Ac (Ab (Aa Ad rfl (qa rfl (Ac (Ab (Ab (Aa Ad rfl (qa rfl (Ac ?_))))))))))))))
 refine AR (L := Cp N p0 p1) h (fun v1 => mk [(2, .e (.one (.ptr 2 0))), (3, .e (.one (.ptr 3 0))), (5, .e (.one (.own 2001))), (6, .e (.one (.pure (.val (.int .i64 v1.2)))))] [(2, .box [.pure (.sl (p0.fVersions.map Ag)), .pure (.sl (p0.fNow.map Ag)), .pure (.sl (p0.fTarget.map Ag)), .pure (.sl (p0.fTables.map Ai))]), (3, .box [.pure (.sl (p1.fBase.map Ag)), .pure (.sl (p1.fNext.map Ag)), .pure (.sl (p1.fHeld.map A3))]), (2001, .vec 3 (v1.1.map AY))]) (fun v2 => mk [(5, .e (.one (.own 2002)))] [(2002, .vec 3 (v2.map AY))]) (fun _ _ => rfl) ((BF 5 2013 3 rfl rfl rfl).trans (sm [(2001, 2013)] _ _ rfl rfl)) (fun j1 n1 v1 h => ?_) (fun v2 s h hs => ?_)
 ·unfold Cp at h
  refine Ab (Ab (Aa Ad rfl (qm rfl (qf CH rfl (ql Gw rfl (AS DV rfl (A8 rfl (Ac ?_))))))))
  refine As rfl (fun c3 => ?_) (fun c3 => ?_)
  ·have h := Ao c3 h
   refine Au (Ab (AU (Ab (Aa Ad rfl (qf CH rfl (ql Gw rfl (qm rfl ?_)))))))
   obtain ⟨v4, a4, b4, h⟩ := Am h
   refine qi DV DJ a4 (Aj b4) rfl (qK Gf DJ rfl (qz Jd rfl (qs DJ rfl (Ac (Ab (Aa Ad rfl (qL Bq AT rfl (qf CQ rfl (ql B7 rfl ?_)))))))))
   obtain ⟨v5, a5, h⟩ := bind_some h
   refine AK [] (C9 N p1 v4.fFrom v5 a5) Rs rfl (qa rfl (Ac ?_))
   refine AW h (fun v6 => mk [(2, .e (.one (.ptr 2 0))), (3, .e (.one (.ptr 3 0))), (5, .e (.one (.own 2003))), (6, .e (.one (.pure (.val (.int .i64 v1.2))))), (7, .e (.one (.ptr 7 0))), (8, .e (.one (.pure (.val (.int .u8 v6)))))] [(2, .box [.pure (.sl (p0.fVersions.map Ag)), .pure (.sl (p0.fNow.map Ag)), .pure (.sl (p0.fTarget.map Ag)), .pure (.sl (p0.fTables.map Ai))]), (3, .box [.pure (.sl (p1.fBase.map Ag)), .pure (.sl (p1.fNext.map Ag)), .pure (.sl (p1.fHeld.map A3))]), (7, .box [.pure (.val (.int .i64 v4.fKind)), .pure (.val (.int .i64 v4.fFrom)), .pure (.val (.int .i64 v4.fTo)), .pure (.val (.bool v4.fAware)), .pure (.sl (v4.fOK.map (Ep eB))), .pure (.sl (v4.fRewrite.map (Ep eB)))]), (2003, .vec 3 (v1.1.map AY))]) (fun j6 h => ?_) (fun v6 h => ?_)
   ·refine Ab (Aa Ad rfl (qL Gf DJ rfl ?_))
    obtain ⟨v7, a7, h⟩ := bind_some h
    refine AK [] (Cc N v4 v7 a7) Ov rfl (Ac ?_)
    refine As rfl (fun c8 => ?_) (fun c8 => ?_)
    ·have h := Ao c8 h
     refine Aa Ad rfl (qf Cz rfl (ql Gd rfl (qm rfl ?_)))
     obtain ⟨v9, a9, b9, h⟩ := Am h
     refine qi Dm Fn a9 (Aj b9) rfl (qk Jz rfl (qa rfl (Ac ?_)))
     exact Aw _ h (sm [(2003, 2001)] _ _ rfl rfl)
    ·have h := Ap c8 h
     refine Au ?_
     exact Aw _ h (sm [(2003, 2001)] _ _ rfl rfl)
   ·refine Ab (Aa Ad rfl (qa rfl (Ac ?_)))
    refine AR (L := BA N p0 p1 v1 v4 v6) h (fun v10 => mk [(2, .e (.one (.ptr 2 0))), (3, .e (.one (.ptr 3 0))), (5, .e (.one (.own 2004))), (6, .e (.one (.pure (.val (.int .i64 v1.2))))), (7, .e (.one (.ptr 7 0))), (8, .e (.one (.pure (.val (.int .u8 v6))))), (9, .e (.one (.pure (.val (.int .i64 v10.2)))))] [(2, .box [.pure (.sl (p0.fVersions.map Ag)), .pure (.sl (p0.fNow.map Ag)), .pure (.sl (p0.fTarget.map Ag)), .pure (.sl (p0.fTables.map Ai))]), (3, .box [.pure (.sl (p1.fBase.map Ag)), .pure (.sl (p1.fNext.map Ag)), .pure (.sl (p1.fHeld.map A3))]), (7, .box [.pure (.val (.int .i64 v4.fKind)), .pure (.val (.int .i64 v4.fFrom)), .pure (.val (.int .i64 v4.fTo)), .pure (.val (.bool v4.fAware)), .pure (.sl (v4.fOK.map (Ep eB))), .pure (.sl (v4.fRewrite.map (Ep eB)))]), (2004, .vec 3 (v10.1.map AY))]) (fun v11 => mk [(2, .e (.one (.ptr 2 0))), (3, .e (.one (.ptr 3 0))), (5, .e (.one (.own 2005))), (6, .e (.one (.pure (.val (.int .i64 v1.2)))))] [(2, .box [.pure (.sl (p0.fVersions.map Ag)), .pure (.sl (p0.fNow.map Ag)), .pure (.sl (p0.fTarget.map Ag)), .pure (.sl (p0.fTables.map Ai))]), (3, .box [.pure (.sl (p1.fBase.map Ag)), .pure (.sl (p1.fNext.map Ag)), .pure (.sl (p1.fHeld.map A3))]), (2005, .vec 3 (v11.map AY))]) (fun _ _ => rfl) (sm [(2004, 2003)] _ _ rfl rfl) (fun j10 n10 v10 h => ?_) (fun v11 s h hs => ?_)
    ·unfold BA at h
     refine Ab (Ab (Aa Ad rfl (qm rfl (qf Bn rfl (ql A9 rfl (qf CQ rfl (ql B7 rfl ?_)))))))
     obtain ⟨v12, a12, b12, h⟩ := Am h
     refine qi AE C7 a12 (Aj b12) rfl (qk B7 rfl (A8 rfl (Ac ?_)))
     refine As rfl (fun c13 => ?_) (fun c13 => ?_)
     ·have h := Ao c13 h
      refine Au ?_
      refine AW h (fun v14 => mk [(2, .e (.one (.ptr 2 0))), (3, .e (.one (.ptr 3 0))), (5, .e (.one (.own 2006))), (6, .e (.one (.pure (.val (.int .i64 v1.2))))), (7, .e (.one (.ptr 7 0))), (8, .e (.one (.pure (.val (.int .u8 v6))))), (9, .e (.one (.pure (.val (.int .i64 v10.2)))))] [(2, .box [.pure (.sl (p0.fVersions.map Ag)), .pure (.sl (p0.fNow.map Ag)), .pure (.sl (p0.fTarget.map Ag)), .pure (.sl (p0.fTables.map Ai))]), (3, .box [.pure (.sl (p1.fBase.map Ag)), .pure (.sl (p1.fNext.map Ag)), .pure (.sl (p1.fHeld.map A3))]), (7, .box [.pure (.val (.int .i64 v4.fKind)), .pure (.val (.int .i64 v4.fFrom)), .pure (.val (.int .i64 v4.fTo)), .pure (.val (.bool v4.fAware)), .pure (.sl (v4.fOK.map (Ep eB))), .pure (.sl (v4.fRewrite.map (Ep eB)))]), (2006, .vec 3 (v14.map AY))]) (fun j14 h => ?_) (fun v14 h => ?_)
      ·refine AU (Ab (Ab (Aa Ad rfl (qm rfl (qm rfl ?_)))))
       obtain ⟨v15, a15, h⟩ := bind_some h
       refine AK [] (Fj N v6 v10.2 v15 a15) Tq rfl (CE rfl (Ac ?_))
       refine As rfl (fun c16 => ?_) (fun c16 => ?_)
       ·have h := Ao c16 h
        refine A5 ?_
        exact Aw _ h (sm [(2006, 2004)] _ _ rfl rfl)
       ·have h := Ap c16 h
        refine Au (Ab (Aa Ad rfl (qa rfl (Ac (Ab (Ab (Aa Ad rfl (qa rfl (Ac ?_)))))))))
        refine AR (L := Bl N p0 p1 v1 v4 v10) h (fun v17 => mk [(2, .e (.one (.ptr 2 0))), (3, .e (.one (.ptr 3 0))), (5, .e (.one (.own 2007))), (6, .e (.one (.pure (.val (.int .i64 v1.2))))), (7, .e (.one (.ptr 7 0))), (8, .e (.one (.pure (.val (.int .u8 v6))))), (9, .e (.one (.pure (.val (.int .i64 v10.2))))), (10, .e (.one (.pure (.val (.bool v17.2.1))))), (11, .e (.one (.pure (.val (.int .i64 v17.2.2)))))] [(2, .box [.pure (.sl (p0.fVersions.map Ag)), .pure (.sl (p0.fNow.map Ag)), .pure (.sl (p0.fTarget.map Ag)), .pure (.sl (p0.fTables.map Ai))]), (3, .box [.pure (.sl (p1.fBase.map Ag)), .pure (.sl (p1.fNext.map Ag)), .pure (.sl (p1.fHeld.map A3))]), (7, .box [.pure (.val (.int .i64 v4.fKind)), .pure (.val (.int .i64 v4.fFrom)), .pure (.val (.int .i64 v4.fTo)), .pure (.val (.bool v4.fAware)), .pure (.sl (v4.fOK.map (Ep eB))), .pure (.sl (v4.fRewrite.map (Ep eB)))]), (2007, .vec 3 (v17.1.map AY))]) (fun v18 => mk [(2, .e (.one (.ptr 2 0))), (3, .e (.one (.ptr 3 0))), (5, .e (.one (.own 2008))), (6, .e (.one (.pure (.val (.int .i64 v1.2))))), (7, .e (.one (.ptr 7 0))), (8, .e (.one (.pure (.val (.int .u8 v6))))), (9, .e (.one (.pure (.val (.int .i64 v10.2))))), (10, .e (.one (.pure (.val (.bool v18.2)))))] [(2, .box [.pure (.sl (p0.fVersions.map Ag)), .pure (.sl (p0.fNow.map Ag)), .pure (.sl (p0.fTarget.map Ag)), .pure (.sl (p0.fTables.map Ai))]), (3, .box [.pure (.sl (p1.fBase.map Ag)), .pure (.sl (p1.fNext.map Ag)), .pure (.sl (p1.fHeld.map A3))]), (7, .box [.pure (.val (.int .i64 v4.fKind)), .pure (.val (.int .i64 v4.fFrom)), .pure (.val (.int .i64 v4.fTo)), .pure (.val (.bool v4.fAware)), .pure (.sl (v4.fOK.map (Ep eB))), .pure (.sl (v4.fRewrite.map (Ep eB)))]), (2008, .vec 3 (v18.1.map AY))]) (fun _ _ => rfl) (sm [(2007, 2004)] _ _ rfl rfl) (fun j17 n17 v17 h => ?_) (fun v18 s h hs => ?_)
        ·unfold Bl at h
         refine Ab (Ab (Aa Ad rfl (qm rfl (qf Bn rfl (ql A9 rfl (qf Hl rfl (ql B7 rfl ?_)))))))
         obtain ⟨v19, a19, b19, h⟩ := Am h
         refine qi AE C7 a19 (Aj b19) rfl (qk B7 rfl (A8 rfl (Ac ?_)))
         refine As rfl (fun c20 => ?_) (fun c20 => ?_)
         ·have h := Ao c20 h
          refine Au ?_
          refine AW h (fun v21 => mk [(2, .e (.one (.ptr 2 0))), (3, .e (.one (.ptr 3 0))), (5, .e (.one (.own 2009))), (6, .e (.one (.pure (.val (.int .i64 v1.2))))), (7, .e (.one (.ptr 7 0))), (8, .e (.one (.pure (.val (.int .u8 v6))))), (9, .e (.one (.pure (.val (.int .i64 v10.2))))), (10, .e (.one (.pure (.val (.bool v21.2))))), (11, .e (.one (.pure (.val (.int .i64 v17.2.2)))))] [(2, .box [.pure (.sl (p0.fVersions.map Ag)), .pure (.sl (p0.fNow.map Ag)), .pure (.sl (p0.fTarget.map Ag)), .pure (.sl (p0.fTables.map Ai))]), (3, .box [.pure (.sl (p1.fBase.map Ag)), .pure (.sl (p1.fNext.map Ag)), .pure (.sl (p1.fHeld.map A3))]), (7, .box [.pure (.val (.int .i64 v4.fKind)), .pure (.val (.int .i64 v4.fFrom)), .pure (.val (.int .i64 v4.fTo)), .pure (.val (.bool v4.fAware)), .pure (.sl (v4.fOK.map (Ep eB))), .pure (.sl (v4.fRewrite.map (Ep eB)))]), (2009, .vec 3 (v21.1.map AY))]) (fun j21 h => ?_) (fun v21 h => ?_)
          ·refine AU (Ab (Ab (Aa Ad rfl (qL Bq AT rfl (qf Hl rfl (ql B7 rfl ?_))))))
           obtain ⟨v22, a22, h⟩ := bind_some h
           refine AK [] (C9 N p1 v4.fTo v22 a22) Rs rfl (qm rfl ?_)
           obtain ⟨v23, a23, h⟩ := bind_some h
           refine AK [] (Fj N v22 v17.2.2 v23 a23) Tq rfl (CE rfl (Ac ?_))
           refine As rfl (fun c24 => ?_) (fun c24 => ?_)
           ·have h := Ao c24 h
            refine A5 ?_
            exact Aw _ h (sm [(2009, 2007)] _ _ rfl rfl)
           ·have h := Ap c24 h
            refine Au ?_
            refine AW h (fun v25 => mk [(2, .e (.one (.ptr 2 0))), (3, .e (.one (.ptr 3 0))), (5, .e (.one (.own 2010))), (6, .e (.one (.pure (.val (.int .i64 v1.2))))), (7, .e (.one (.ptr 7 0))), (8, .e (.one (.pure (.val (.int .u8 v6))))), (9, .e (.one (.pure (.val (.int .i64 v10.2))))), (10, .e (.one (.pure (.val (.bool v25))))), (11, .e (.one (.pure (.val (.int .i64 v17.2.2)))))] [(2, .box [.pure (.sl (p0.fVersions.map Ag)), .pure (.sl (p0.fNow.map Ag)), .pure (.sl (p0.fTarget.map Ag)), .pure (.sl (p0.fTables.map Ai))]), (3, .box [.pure (.sl (p1.fBase.map Ag)), .pure (.sl (p1.fNext.map Ag)), .pure (.sl (p1.fHeld.map A3))]), (7, .box [.pure (.val (.int .i64 v4.fKind)), .pure (.val (.int .i64 v4.fFrom)), .pure (.val (.int .i64 v4.fTo)), .pure (.val (.bool v4.fAware)), .pure (.sl (v4.fOK.map (Ep eB))), .pure (.sl (v4.fRewrite.map (Ep eB)))]), (2010, .vec 3 (v17.1.map AY))]) (fun j25 h => ?_) (fun v25 h => ?_)
            ·refine Aa Ad rfl (qm rfl (qm rfl ?_))
             refine AI (t := 67) rfl (fun c26 => ?_) (fun c26 => ?_)
             ·have h := Ao c26 h
              refine qn rfl (qn rfl (qn rfl (qn rfl (qn rfl (qn rfl (qn rfl (qn rfl (qp rfl (qa rfl (Ac ?_))))))))))
              exact Aw _ h (sm [(2010, 2007)] _ _ rfl rfl)
             ·have h := Ap c26 h
              refine qf IJ rfl (ql IZ rfl (qm rfl ?_))
              obtain ⟨v27, a27, b27, h⟩ := Am h
              refine qi FF LW a27 (Aj b27) rfl (qk Ou rfl (qm rfl ?_))
              obtain ⟨v28, a28, b28, h⟩ := Am h
              refine qi FN Pc a28 (Aj b28) rfl (qk Rj rfl (qp rfl (qa rfl (Ac ?_))))
              exact Aw _ h (sm [(2010, 2007)] _ _ rfl rfl)
            ·refine AW h (fun v29 => mk [(2, .e (.one (.ptr 2 0))), (3, .e (.one (.ptr 3 0))), (5, .e (.one (.own 2011))), (6, .e (.one (.pure (.val (.int .i64 v1.2))))), (7, .e (.one (.ptr 7 0))), (8, .e (.one (.pure (.val (.int .u8 v6))))), (9, .e (.one (.pure (.val (.int .i64 v10.2))))), (10, .e (.one (.pure (.val (.bool v25))))), (11, .e (.one (.pure (.val (.int .i64 v17.2.2))))), (90, .e (.one (.pure (.val (.bool v29)))))] [(2, .box [.pure (.sl (p0.fVersions.map Ag)), .pure (.sl (p0.fNow.map Ag)), .pure (.sl (p0.fTarget.map Ag)), .pure (.sl (p0.fTables.map Ai))]), (3, .box [.pure (.sl (p1.fBase.map Ag)), .pure (.sl (p1.fNext.map Ag)), .pure (.sl (p1.fHeld.map A3))]), (7, .box [.pure (.val (.int .i64 v4.fKind)), .pure (.val (.int .i64 v4.fFrom)), .pure (.val (.int .i64 v4.fTo)), .pure (.val (.bool v4.fAware)), .pure (.sl (v4.fOK.map (Ep eB))), .pure (.sl (v4.fRewrite.map (Ep eB)))]), (2011, .vec 3 (v17.1.map AY))]) (fun j29 h => ?_) (fun v29 h => ?_)
             ·refine Aa Ad rfl (qf H7 rfl (ql Rj rfl (CE rfl (qm rfl ?_))))
              refine AI (t := 80) rfl (fun c30 => ?_) (fun c30 => ?_)
              ·have h := Ao c30 h
               refine qf IJ rfl (ql IZ rfl (qm rfl ?_))
               obtain ⟨v31, a31, b31, h⟩ := Am h
               refine qi FF LW a31 (Aj b31) rfl (qk Ou rfl (qm rfl ?_))
               obtain ⟨v32, a32, b32, h⟩ := Am h
               refine qi FN Pc a32 (Aj b32) rfl (qk Rj rfl (CE rfl (qp rfl (Ac ?_))))
               exact Aw _ h (sm [(2011, 2010)] _ _ rfl rfl)
              ·have h := Ap c30 h
               refine qn rfl (qn rfl (qn rfl (qn rfl (qn rfl (qn rfl (qn rfl (qn rfl (qn rfl (qp rfl (Ac ?_))))))))))
               exact Aw _ h (sm [(2011, 2010)] _ _ rfl rfl)
             ·refine As rfl (fun c33 => ?_) (fun c33 => ?_)
              ·have h := Ao c33 h
               refine Aa Ad rfl (qm rfl (qm rfl (qm rfl (qm rfl (A7 GZ Mc rfl (En FZ Fo GZ rfl ?_))))))
               obtain ⟨c34, h⟩ := AN h
               refine Dy (f := AY) FZ FZ Fo Ra GZ c34 rfl (qa rfl (Ac ?_))
               exact Aw _ h (sm [(2009, 97)] _ _ rfl rfl)
              ·have h := Ap c33 h
               refine Au ?_
               exact Aw _ h (sm [(2009, 2011)] _ _ rfl rfl)
          ·refine Aa Ad rfl (qm rfl (Bp rfl (qa rfl (Ac ?_))))
           exact Aw _ h (sm [(2007, 2009)] _ _ rfl rfl)
         ·have h := Ap c20 h
          refine A5 ?_
          exact Aw _ h (sm [(2008, 2007)] _ _ rfl rfl)
        ·refine Al hs ?_
         refine AW h (fun v35 => mk [(2, .e (.one (.ptr 2 0))), (3, .e (.one (.ptr 3 0))), (5, .e (.one (.own 2012))), (6, .e (.one (.pure (.val (.int .i64 v1.2))))), (7, .e (.one (.ptr 7 0))), (8, .e (.one (.pure (.val (.int .u8 v6))))), (9, .e (.one (.pure (.val (.int .i64 v10.2))))), (103, .e (.one (.pure (.val (.bool v35)))))] [(2, .box [.pure (.sl (p0.fVersions.map Ag)), .pure (.sl (p0.fNow.map Ag)), .pure (.sl (p0.fTarget.map Ag)), .pure (.sl (p0.fTables.map Ai))]), (3, .box [.pure (.sl (p1.fBase.map Ag)), .pure (.sl (p1.fNext.map Ag)), .pure (.sl (p1.fHeld.map A3))]), (7, .box [.pure (.val (.int .i64 v4.fKind)), .pure (.val (.int .i64 v4.fFrom)), .pure (.val (.int .i64 v4.fTo)), .pure (.val (.bool v4.fAware)), .pure (.sl (v4.fOK.map (Ep eB))), .pure (.sl (v4.fRewrite.map (Ep eB)))]), (2012, .vec 3 (v18.1.map AY))]) (fun j35 h => ?_) (fun v35 h => ?_)
         ·refine Aa Ad rfl (qf H7 rfl (ql Rj rfl (qm rfl ?_)))
          refine AI (t := 100) rfl (fun c36 => ?_) (fun c36 => ?_)
          ·have h := Ao c36 h
           refine qm rfl (CE rfl (qp rfl (Ac ?_)))
           exact Aw _ h (sm [(2012, 2008)] _ _ rfl rfl)
          ·have h := Ap c36 h
           refine qn rfl (qn rfl (qp rfl (Ac ?_)))
           exact Aw _ h (sm [(2012, 2008)] _ _ rfl rfl)
         ·refine As rfl (fun c37 => ?_) (fun c37 => ?_)
          ·have h := Ao c37 h
           refine Aa Ad rfl (qm rfl (qm rfl (qm rfl (A7 GZ Mc rfl (En FZ Fo GZ rfl ?_)))))
           obtain ⟨c38, h⟩ := AN h
           refine Dy (f := AY) FZ FZ Fo Ra GZ c38 rfl (qa rfl (Ac ?_))
           exact Aw _ h (sm [(2006, 109)] _ _ rfl rfl)
          ·have h := Ap c37 h
           refine Au ?_
           exact Aw _ h (sm [(2006, 2012)] _ _ rfl rfl)
      ·refine Aa Ad rfl (qm rfl (Bp rfl (qa rfl (Ac ?_))))
       exact Aw _ h (sm [(2004, 2006)] _ _ rfl rfl)
     ·have h := Ap c13 h
      refine A5 ?_
      exact Aw _ h (sm [(2005, 2004)] _ _ rfl rfl)
    ·refine Al hs (Aa Ad rfl (qm rfl (Bp rfl (qa rfl (Ac ?_)))))
     exact Aw _ h (sm [(2001, 2005)] _ _ rfl rfl)
  ·have h := Ap c3 h
   refine A5 ?_
   exact Aw _ h (sm [(2002, 2001)] _ _ rfl rfl)
 ·refine Al hs (Ab (Aa Ad rfl (qm rfl (qa rfl (Ac ?_)))))
  obtain rfl := sj h
  refine Al (sm [(1000, 2002)] [(4, .e (.one (.own 1000)))] [(1000, .vec 3 (v2.map AY))] rfl rfl) (AC ?_)
  exact ⟨⟨[_], ⟨.tmp _ _ rfl, trivial⟩, rfl⟩, ⟨rfl, trivial⟩⟩
set_option maxRecDepth 10000 in
theorem I3 (N : Nat) (p0 : Ae) (p1 : Ah) (r : Bool) (h : DP N p0 p1 = some r) : AB Try.prog 51 [.e (.agg [.pure (.sl (p0.fVersions.map Ag)), .pure (.sl (p0.fNow.map Ag)), .pure (.sl (p0.fTarget.map Ag)), .pure (.sl (p0.fTables.map Ai))]), .e (.agg [.pure (.sl (p1.fBase.map Ag)), .pure (.sl (p1.fNext.map Ag)), .pure (.sl (p1.fHeld.map A3))])] [] (.e (.one (.pure (.val (.bool r))))) := by
 unfold DP at h
 refine Aq (n := 10) (rs := [.tmp 4]) Try.func51 rfl rfl rfl (BM rfl) (BM rfl) rfl fun w0 S0 => ?_
 refine Ab (Aa Ad rfl (qb rfl (qb rfl (qa rfl (Ac (Ab (Aa Ad rfl (qL DM Dw rfl (qL Bq AT rfl ?_)))))))))
 obtain ⟨v1, a1, h⟩ := bind_some h
 refine AK [2001] (JP N p0 p1 v1 a1) XW rfl (Fx FZ rfl (B4 rfl (qa rfl (Ac ?_))))
 obtain rfl := sj h
 refine Al (sm [] [(4, .e (.one (.pure (.val (.bool (((v1.length : Int) == 0)))))))] [] rfl rfl) (AC ?_)
 exact ⟨⟨[_], ⟨.tmp _ _ rfl, trivial⟩, rfl⟩, trivial⟩
set_option maxRecDepth 10000 in
theorem E9 (N : Nat) (p0 : Ae) (p1 : Ah) (r : Bool) (h : Cq N p0 p1 = some r) : AB Try.prog 25 [.e (.agg [.pure (.sl (p0.fVersions.map Ag)), .pure (.sl (p0.fNow.map Ag)), .pure (.sl (p0.fTarget.map Ag)), .pure (.sl (p0.fTables.map Ai))]), .e (.agg [.pure (.sl (p1.fBase.map Ag)), .pure (.sl (p1.fNext.map Ag)), .pure (.sl (p1.fHeld.map A3))])] [] (.e (.one (.pure (.val (.bool r))))) := by
 unfold Cq at h
 refine Aq (n := 22) (rs := [.tmp 4]) Try.func25 rfl rfl rfl (BM rfl) (BM rfl) rfl fun w0 S0 => ?_
 refine Ab (Aa Ad rfl (qb rfl (qb rfl (qa rfl (Ac (Ab (Aa Ad rfl (qL Bq AT rfl ?_))))))))
 obtain ⟨v1, a1, h⟩ := bind_some h
 refine AK [2001] (Kw N p1 v1 a1) XT rfl (qa rfl (Ac (Ab (Ab (Aa Ad rfl (qa rfl (Ac ?_)))))))
 refine AR (L := BZ N p0 v1) h (fun v2 => mk [(2, .e (.one (.ptr 2 0))), (5, .e (.one (.own 2002))), (6, .e (.one (.pure (.val (.int .i64 v2)))))] [(2, .box [.pure (.sl (p0.fVersions.map Ag)), .pure (.sl (p0.fNow.map Ag)), .pure (.sl (p0.fTarget.map Ag)), .pure (.sl (p0.fTables.map Ai))]), (2002, .vec 3 (v1.map Ea))]) (fun v3 => mk [] []) (fun _ _ => rfl) (sm [(2002, 2001)] _ _ rfl rfl) (fun j2 n2 v2 h => ?_) (fun v3 s h hs => ?_)
 ·unfold BZ at h
  refine Ab (Ab (Aa Ad rfl (qm rfl (qm rfl (Fx JY rfl (A8 rfl (Ac ?_)))))))
  refine As rfl (fun c4 => ?_) (fun c4 => ?_)
  ·have h := Ao c4 h
   refine Au (Ab (AU (Ab (Aa Ad rfl (qL DM Dw rfl (qm rfl (qm rfl ?_)))))))
   obtain ⟨v5, a5, b5, h⟩ := Am h
   refine qI JY AT a5 (Aj b5) rfl (qJ Bq AT (Aj b5) rfl ?_)
   obtain ⟨v6, a6, h⟩ := bind_some h
   refine AK [] (I3 N p0 v5 v6 a6) Xt rfl (CE rfl (A0 (by kernel_rfl) ?_))
   refine As rfl (fun c7 => ?_) (fun c7 => ?_)
   ·have h := Ao c7 h
    refine Ab (Aa Ad rfl (qa rfl (Ac ?_)))
    obtain rfl := sj h
    refine Al (sm [] [(4, .e (.one (.pure (.val (.bool false)))))] [] rfl rfl) (AC ?_)
    exact ⟨⟨[_], ⟨.tmp _ _ rfl, trivial⟩, rfl⟩, trivial⟩
   ·have h := Ap c7 h
    refine Au (Aa Ad rfl (qm rfl (Bp rfl (qa rfl (Ac ?_)))))
    exact Aw _ h (sm [] _ _ rfl rfl)
  ·have h := Ap c4 h
   refine A5 ?_
   exact Aw _ h (sm [] _ _ rfl rfl)
 ·refine Al hs (Ab (Aa Ad rfl (qa rfl (Ac ?_))))
  obtain rfl := sj h
  refine Al (sm [] [(4, .e (.one (.pure (.val (.bool true)))))] [] rfl rfl) (AC ?_)
  exact ⟨⟨[_], ⟨.tmp _ _ rfl, trivial⟩, rfl⟩, trivial⟩
set_option maxRecDepth 10000 in
theorem JT (N : Nat) (p0 : Af) (r : Bool) (h : D7 N p0 = some r) : AB Try.prog 80 [.e (.agg [.pure (.val (.int .i64 p0.fKind)), .pure (.val (.int .i64 p0.fIndex)), .pure (.val (.int .i64 p0.fVersion))])] [] (.e (.one (.pure (.val (.bool r))))) := by
 unfold D7 at h
 refine Aq (n := 31) (rs := [.tmp 2]) Try.func80 rfl rfl rfl (BM rfl) (BM rfl) rfl fun w0 S0 => ?_
 refine Ab (Aa Ad rfl (qb rfl (qa rfl (Ac ?_))))
 refine AW h (fun v1 => mk [(2, .e (.one (.pure (.val (.bool v1)))))] []) (fun j1 h => ?_) (fun v1 h => ?_)
 ·refine Aa Ad rfl (qf EO rfl (ql B7 rfl (Ey rfl (qm rfl ?_))))
  refine AI (t := 6) rfl (fun c2 => ?_) (fun c2 => ?_)
  ·have h := Ao c2 h
   refine qf EO rfl (ql B7 rfl (UD rfl (qp rfl (qm rfl ?_))))
   refine AI (t := 11) rfl (fun c3 => ?_) (fun c3 => ?_)
   ·have h := Ao c3 h
    refine qf Ex rfl (ql B7 rfl (Ey rfl (qp rfl (qm rfl ?_))))
    refine AI (t := 16) rfl (fun c4 => ?_) (fun c4 => ?_)
    ·have h := Ao c4 h
     refine qf FW rfl (ql B7 rfl (Ey rfl (qp rfl (qm rfl ?_))))
     refine AI (t := 21) rfl (fun c5 => ?_) (fun c5 => ?_)
     ·have h := Ao c5 h
      refine qf EO rfl (ql B7 rfl (B4 rfl (qm rfl ?_)))
      refine AI (t := 25) rfl (fun c6 => ?_) (fun c6 => ?_)
      ·have h := Ao c6 h
       refine qn rfl (qn rfl (qn rfl (qp rfl (qp rfl (qa rfl (Ac ?_))))))
       exact Aw _ h (sm [] _ _ rfl rfl)
      ·have h := Ap c6 h
       refine qf FW rfl (ql B7 rfl (B4 rfl (qp rfl (qp rfl (qa rfl (Ac ?_))))))
       exact Aw _ h (sm [] _ _ rfl rfl)
     ·have h := Ap c5 h
      refine qn rfl (qn rfl (qn rfl (qn rfl (qu rfl (qu rfl (qu rfl (qn rfl (qp rfl (qa rfl (Ac ?_))))))))))
      exact Aw _ h (sm [] _ _ rfl rfl)
    ·have h := Ap c4 h
     refine qn rfl (qn rfl (qn rfl (qp rfl (qm rfl (qn rfl (qn rfl (qn rfl (qn rfl (qu rfl (qu rfl (qu rfl (qn rfl (qp rfl (qa rfl (Ac ?_)))))))))))))))
     exact Aw _ h (sm [] _ _ rfl rfl)
   ·have h := Ap c3 h
    refine qn rfl (qn rfl (qn rfl (qp rfl (qm rfl (qn rfl (qn rfl (qn rfl (qp rfl (qm rfl (qn rfl (qn rfl (qn rfl (qn rfl (qu rfl (qu rfl (qu rfl (qn rfl (qp rfl (qa rfl (Ac ?_))))))))))))))))))))
    exact Aw _ h (sm [] _ _ rfl rfl)
  ·have h := Ap c2 h
   refine qn rfl (qn rfl (qn rfl (qp rfl (qm rfl (qn rfl (qn rfl (qn rfl (qp rfl (qm rfl (qn rfl (qn rfl (qn rfl (qp rfl (qm rfl (qn rfl (qn rfl (qn rfl (qn rfl (qu rfl (qu rfl (qu rfl (qn rfl (qp rfl (qa rfl (Ac ?_)))))))))))))))))))))))))
   exact Aw _ h (sm [] _ _ rfl rfl)
 ·obtain rfl := sj h
  refine Al (sm [] [(2, .e (.one (.pure (.val (.bool v1)))))] [] rfl rfl) (AC ?_)
  exact ⟨⟨[_], ⟨.tmp _ _ rfl, trivial⟩, rfl⟩, trivial⟩
set_option maxRecDepth 10000 in
theorem Ha (N : Nat) (p0 : Ae) (p1 : Ah) (p2 : Af) (r : Ah × Bool) (h : Cw N p0 p1 p2 = some r) : AB Try.prog 30 [.e (.agg [.pure (.sl (p0.fVersions.map Ag)), .pure (.sl (p0.fNow.map Ag)), .pure (.sl (p0.fTarget.map Ag)), .pure (.sl (p0.fTables.map Ai))]), .e (.agg [.pure (.sl (p1.fBase.map Ag)), .pure (.sl (p1.fNext.map Ag)), .pure (.sl (p1.fHeld.map A3))]), .e (.agg [.pure (.val (.int .i64 p2.fKind)), .pure (.val (.int .i64 p2.fIndex)), .pure (.val (.int .i64 p2.fVersion))])] [(1, r.1.fBase.map Ag), (1, r.1.fNext.map Ag), (1, r.1.fHeld.map A3)] (.tup [.agg [.own 0, .own 1, .own 2], .one (.pure (.val (.bool r.2)))]) := by
 unfold Cw at h
 refine Aq (n := 201) (rs := [.cell 6 43, .tmp 7]) Try.func30 rfl rfl rfl (BM rfl) (BM rfl) rfl fun w0 S0 => ?_
 refine Ab (Aa Ad rfl (qb rfl (qb rfl (qb rfl (qz Di rfl (qa rfl (Ac (Ab (Aa Ad rfl (En AE C7 J5 rfl (qf Cy rfl (ql A9 rfl ?_))))))))))))
 obtain ⟨c1, h⟩ := AN h
 refine I8 (f := Ag) AE AE C7 KP J5 (fun _ => rfl) c1 rfl (En AE C7 J5 rfl (qf By rfl (ql A9 rfl ?_)))
 obtain ⟨c2, h⟩ := AN h
 refine I8 (f := Ag) AE AE C7 KP J5 (fun _ => rfl) c2 rfl (En Dm Fn OJ rfl (qf Cz rfl (ql Gd rfl ?_)))
 obtain ⟨c3, h⟩ := AN h
 refine I8 (f := A3) Dm Dm Fn PR OJ (fun _ => rfl) c3 rfl (A7 Di GG rfl (qz Di rfl (qs AT rfl (A0 (by kernel_rfl) (Ab (Aa Ad rfl (qf Ex rfl (ql B7 rfl (qa rfl (Ac ?_))))))))))
 refine AW h (fun v4 => mk [(6, .e (.one (.ptr 6 0))), (8, .e (.one (.ptr 8 0)))] [(6, .box [.pure (.nil0), .pure (.nil0), .pure (.nil0)]), (8, .box [.own 2001, .own 2002, .own 2003]), (2001, .vec 1 (v4.1.map Ag)), (2002, .vec 1 (v4.2.1.map Ag)), (2003, .vec 1 (v4.2.2.map A3))]) (fun j4 h => ?_) (fun v4 h => ?_)
 ·refine Ab (Aa Ad rfl (qf EO rfl (ql B7 rfl (Ac (AU (Ab (Aa Ad rfl (B4 rfl (qa rfl (Ac ?_))))))))))
  refine As rfl (fun c5 => ?_) (fun c5 => ?_)
  ·have h := Ao c5 h
   refine Ab ?_
   refine AW h (fun v6 => mk [(3, .e (.one (.ptr 3 0))), (5, .e (.one (.ptr 5 0))), (6, .e (.one (.ptr 6 0))), (8, .e (.one (.ptr 8 0))), (9, .e (.one (.pure (.val (.int .i64 p2.fIndex))))), (60, .e (.one (.pure (.val (.bool v6)))))] [(3, .box [.pure (.sl (p0.fVersions.map Ag)), .pure (.sl (p0.fNow.map Ag)), .pure (.sl (p0.fTarget.map Ag)), .pure (.sl (p0.fTables.map Ai))]), (5, .box [.pure (.val (.int .i64 p2.fKind)), .pure (.val (.int .i64 p2.fIndex)), .pure (.val (.int .i64 p2.fVersion))]), (6, .box [.pure (.nil0), .pure (.nil0), .pure (.nil0)]), (8, .box [.own 2004, .own 2005, .own 2006]), (2004, .vec 1 (((([] : List Int)) ++ p1.fBase).map Ag)), (2005, .vec 1 (((([] : List Int)) ++ p1.fNext).map Ag)), (2006, .vec 1 (((([] : List Int)) ++ p1.fHeld).map A3))]) (fun j6 h => ?_) (fun v6 h => ?_)
   ·refine Aa Ad rfl (qf By rfl (ql A9 rfl (qm rfl ?_)))
    obtain ⟨v7, a7, b7, h⟩ := Am h
    refine qi AE C7 a7 (Aj b7) rfl (qk B7 rfl (Ey rfl (qm rfl ?_)))
    refine AI (t := 51) rfl (fun c8 => ?_) (fun c8 => ?_)
    ·have h := Ao c8 h
     refine qn rfl (qn rfl (qn rfl (qn rfl (qn rfl (qn rfl (qn rfl (qn rfl (qp rfl (A0 (by kernel_rfl) ?_)))))))))
     exact Aw _ h (sm [(2004, 18), (2005, 22), (2006, 26)] _ _ rfl rfl)
    ·have h := Ap c8 h
     refine qf FW rfl (ql B7 rfl (qf Cy rfl (ql A9 rfl (qm rfl ?_))))
     obtain ⟨v9, a9, b9, h⟩ := Am h
     refine qi AE C7 a9 (Aj b9) rfl (qk B7 rfl (B4 rfl (qp rfl (A0 (by kernel_rfl) ?_))))
     exact Aw _ h (sm [(2004, 18), (2005, 22), (2006, 26)] _ _ rfl rfl)
   ·refine As rfl (fun c10 => ?_) (fun c10 => ?_)
    ·have h := Ao c10 h
     refine Ab (Aa Ad rfl (A7 Di GG rfl (qs AT rfl (qa rfl (Ac ?_)))))
     obtain rfl := sj h
     refine Al ((AG 6 0 2007 1 _ rfl rfl rfl rfl).trans ((AG 6 1 2008 1 _ rfl rfl rfl rfl).trans ((AG 6 2 2009 1 _ rfl rfl rfl rfl).trans (sm [(1000, 2007), (1001, 2008), (1002, 2009)] [(6, .e (.one (.ptr 6 0))), (7, .e (.one (.pure (.val (.bool false)))))] [(6, .box [.own 1000, .own 1001, .own 1002]), (1000, .vec 1 ((([] : List Int)).map Ag)), (1001, .vec 1 ((([] : List Int)).map Ag)), (1002, .vec 1 ((([] : List Int)).map A3))] rfl rfl)))) (AC ?_)
     exact ⟨⟨[_, _], ⟨.cellN _ _ _ _ _ _ _ rfl rfl Bq AT rfl rfl (Hm rfl), ⟨.tmp _ _ rfl, trivial⟩⟩, rfl⟩, ⟨rfl, rfl, rfl, trivial⟩⟩
    ·have h := Ap c10 h
     refine Au (Ab (Aa Ad rfl (qf By rfl (ql A9 rfl (qm rfl (qf FW rfl (ql B7 rfl ?_)))))))
     obtain ⟨v11, a11, b11, h⟩ := Am h
     refine qI AE C7 a11 (Aj b11) rfl ?_
     refine D1 rfl rfl rfl rfl (Aj b11) rfl C7 rfl (BM rfl) (DO Ag ((([] : List Int)) ++ p1.fNext) _ p2.fVersion) ?_
     refine Ac (Ab (Aa Ad rfl (qa rfl (Ac ?_))))
     refine AR (L := BT N p0 p2) h (fun v12 => mk [(3, .e (.one (.ptr 3 0))), (5, .e (.one (.ptr 5 0))), (6, .e (.one (.ptr 6 0))), (8, .e (.one (.ptr 8 0))), (9, .e (.one (.pure (.val (.int .i64 p2.fIndex))))), (10, .e (.one (.pure (.val (.int .i64 v12.2)))))] [(3, .box [.pure (.sl (p0.fVersions.map Ag)), .pure (.sl (p0.fNow.map Ag)), .pure (.sl (p0.fTarget.map Ag)), .pure (.sl (p0.fTables.map Ai))]), (5, .box [.pure (.val (.int .i64 p2.fKind)), .pure (.val (.int .i64 p2.fIndex)), .pure (.val (.int .i64 p2.fVersion))]), (6, .box [.pure (.nil0), .pure (.nil0), .pure (.nil0)]), (8, .box [.own 2010, .own 2011, .own 2012]), (2010, .vec 1 (((([] : List Int)) ++ p1.fBase).map Ag)), (2011, .vec 1 ((((([] : List Int)) ++ p1.fNext).set ((p2.fIndex).toNat) p2.fVersion).map Ag)), (2012, .vec 1 (v12.1.map A3))]) (fun v13 => mk [(6, .e (.one (.ptr 6 0))), (8, .e (.one (.ptr 8 0)))] [(6, .box [.pure (.nil0), .pure (.nil0), .pure (.nil0)]), (8, .box [.own 2013, .own 2014, .own 2015]), (2013, .vec 1 (((([] : List Int)) ++ p1.fBase).map Ag)), (2014, .vec 1 ((((([] : List Int)) ++ p1.fNext).set ((p2.fIndex).toNat) p2.fVersion).map Ag)), (2015, .vec 1 (v13.map A3))]) (fun _ _ => rfl) (sm [(2010, 2004), (2011, 2005), (2012, 2006)] _ _ rfl rfl) (fun j12 n12 v12 h => ?_) (fun v13 s h hs => ?_)
     ·unfold BT at h
      refine Ab (Ab (Aa Ad rfl (qm rfl (qf CH rfl (ql Gw rfl (AS DV rfl (A8 rfl (Ac ?_))))))))
      refine As rfl (fun c14 => ?_) (fun c14 => ?_)
      ·have h := Ao c14 h
       refine Au ?_
       refine AW h (fun v15 => mk [(3, .e (.one (.ptr 3 0))), (5, .e (.one (.ptr 5 0))), (6, .e (.one (.ptr 6 0))), (8, .e (.one (.ptr 8 0))), (9, .e (.one (.pure (.val (.int .i64 p2.fIndex))))), (10, .e (.one (.pure (.val (.int .i64 v12.2)))))] [(3, .box [.pure (.sl (p0.fVersions.map Ag)), .pure (.sl (p0.fNow.map Ag)), .pure (.sl (p0.fTarget.map Ag)), .pure (.sl (p0.fTables.map Ai))]), (5, .box [.pure (.val (.int .i64 p2.fKind)), .pure (.val (.int .i64 p2.fIndex)), .pure (.val (.int .i64 p2.fVersion))]), (6, .box [.pure (.nil0), .pure (.nil0), .pure (.nil0)]), (8, .box [.own 2016, .own 2017, .own 2018]), (2016, .vec 1 (((([] : List Int)) ++ p1.fBase).map Ag)), (2017, .vec 1 ((((([] : List Int)) ++ p1.fNext).set ((p2.fIndex).toNat) p2.fVersion).map Ag)), (2018, .vec 1 (v15.map A3))]) (fun j15 h => ?_) (fun v15 h => ?_)
       ·refine AU ?_
        refine AW h (fun v16 => mk [(3, .e (.one (.ptr 3 0))), (5, .e (.one (.ptr 5 0))), (6, .e (.one (.ptr 6 0))), (8, .e (.one (.ptr 8 0))), (9, .e (.one (.pure (.val (.int .i64 p2.fIndex))))), (10, .e (.one (.pure (.val (.int .i64 v12.2))))), (90, .e (.one (.pure (.val (.bool v16)))))] [(3, .box [.pure (.sl (p0.fVersions.map Ag)), .pure (.sl (p0.fNow.map Ag)), .pure (.sl (p0.fTarget.map Ag)), .pure (.sl (p0.fTables.map Ai))]), (5, .box [.pure (.val (.int .i64 p2.fKind)), .pure (.val (.int .i64 p2.fIndex)), .pure (.val (.int .i64 p2.fVersion))]), (6, .box [.pure (.nil0), .pure (.nil0), .pure (.nil0)]), (8, .box [.own 2019, .own 2020, .own 2021]), (2019, .vec 1 (((([] : List Int)) ++ p1.fBase).map Ag)), (2020, .vec 1 ((((([] : List Int)) ++ p1.fNext).set ((p2.fIndex).toNat) p2.fVersion).map Ag)), (2021, .vec 1 (v12.1.map A3))]) (fun j16 h => ?_) (fun v16 h => ?_)
        ·refine Aa Ad rfl (qf CH rfl (ql Gw rfl (qm rfl ?_)))
         obtain ⟨v17, a17, b17, h⟩ := Am h
         refine qi DV DJ a17 (Aj b17) rfl (qg CQ rfl (qk B7 rfl (qm rfl (B4 rfl (qm rfl ?_)))))
         refine AI (t := 83) rfl (fun c18 => ?_) (fun c18 => ?_)
         ·have h := Ao c18 h
          refine qf CH rfl (ql Gw rfl (qm rfl ?_))
          obtain ⟨v19, a19, b19, h⟩ := Am h
          refine qi DV DJ a19 (Aj b19) rfl (qK Gf DJ rfl ?_)
          obtain ⟨v20, a20, h⟩ := bind_some h
          refine AK [] (Cc N v19 v20 a20) Ov rfl (qp rfl (Ac ?_))
          exact Aw _ h (sm [(2019, 2010), (2020, 2011), (2021, 2012)] _ _ rfl rfl)
         ·have h := Ap c18 h
          refine qn rfl (qn rfl (qn rfl (qn rfl (qn rfl (qn rfl (qp rfl (Ac ?_)))))))
          exact Aw _ h (sm [(2019, 2010), (2020, 2011), (2021, 2012)] _ _ rfl rfl)
        ·refine As rfl (fun c21 => ?_) (fun c21 => ?_)
         ·have h := Ao c21 h
          refine Aa Ad rfl (qf Cz rfl (ql Gd rfl (qm rfl (qf Cz rfl (ql Gd rfl (qm rfl ?_))))))
          obtain ⟨v22, a22, b22, h⟩ := Am h
          refine qI Dm Fn a22 (Aj b22) rfl (qj Jz (Aj b22) rfl (qf FW rfl (ql B7 rfl ?_)))
          obtain ⟨c23, h⟩ := AN h
          refine H0 rfl c23 (Rq rfl ?_)
          obtain ⟨v24, a24, b24, h⟩ := Am h
          refine qI Dm Fn a24 (Aj b24) rfl ?_
          refine D1 rfl rfl rfl rfl (Aj b24) rfl Fn rfl (BM rfl) (DO A3 v12.1 _ ((Lg .u8 v22 ((Dz .u8 1 p2.fVersion))))) ?_
          refine A0 (by kernel_rfl) ?_
          exact Aw _ h (sm [(2016, 2019), (2017, 2020), (2018, 2021)] _ _ rfl rfl)
         ·have h := Ap c21 h
          refine Au ?_
          exact Aw _ h (sm [(2016, 2019), (2017, 2020), (2018, 2021)] _ _ rfl rfl)
       ·refine Aa Ad rfl (qm rfl (Bp rfl (qa rfl (Ac ?_))))
        exact Aw _ h (sm [(2010, 2016), (2011, 2017), (2012, 2018)] _ _ rfl rfl)
      ·have h := Ap c14 h
       refine A5 ?_
       exact Aw _ h (sm [(2013, 2010), (2014, 2011), (2015, 2012)] _ _ rfl rfl)
     ·exact Aw _ h (hs.trans (sm [(2001, 2013), (2002, 2014), (2003, 2015)] _ _ rfl rfl))
  ·have h := Ap c5 h
   refine Ab (Aa Ad rfl (B4 rfl (qa rfl (Ac ?_))))
   refine As rfl (fun c25 => ?_) (fun c25 => ?_)
   ·have h := Ao c25 h
    refine Ab (Ab (Aa Ad rfl (qf By rfl (ql A9 rfl (qm rfl ?_)))))
    obtain ⟨v26, a26, b26, h⟩ := Am h
    refine qi AE C7 a26 (Aj b26) rfl (qk B7 rfl (A8 rfl (Ac ?_)))
    refine As rfl (fun c27 => ?_) (fun c27 => ?_)
    ·have h := Ao c27 h
     refine Ab (Aa Ad rfl (A7 Di GG rfl (qs AT rfl (qa rfl (Ac ?_)))))
     obtain rfl := sj h
     refine Al ((AG 6 0 2022 1 _ rfl rfl rfl rfl).trans ((AG 6 1 2023 1 _ rfl rfl rfl rfl).trans ((AG 6 2 2024 1 _ rfl rfl rfl rfl).trans (sm [(1000, 2022), (1001, 2023), (1002, 2024)] [(6, .e (.one (.ptr 6 0))), (7, .e (.one (.pure (.val (.bool false)))))] [(6, .box [.own 1000, .own 1001, .own 1002]), (1000, .vec 1 ((([] : List Int)).map Ag)), (1001, .vec 1 ((([] : List Int)).map Ag)), (1002, .vec 1 ((([] : List Int)).map A3))] rfl rfl)))) (AC ?_)
     exact ⟨⟨[_, _], ⟨.cellN _ _ _ _ _ _ _ rfl rfl Bq AT rfl rfl (Hm rfl), ⟨.tmp _ _ rfl, trivial⟩⟩, rfl⟩, ⟨rfl, rfl, rfl, trivial⟩⟩
    ·have h := Ap c27 h
     refine Au (Aa Ad rfl (qf Cy rfl (ql A9 rfl (qm rfl (qf By rfl (ql A9 rfl (qm rfl (qf By rfl (ql A9 rfl (qm rfl ?_))))))))))
     obtain ⟨v28, a28, b28, h⟩ := Am h
     refine qi AE C7 a28 (Aj b28) rfl (qk B7 rfl ?_)
     obtain ⟨v29, a29, b29, h⟩ := Am h
     refine qI AE C7 a29 (Aj b29) rfl ?_
     refine D1 rfl rfl rfl rfl (Aj b29) rfl C7 rfl (BM rfl) (DO Ag ((([] : List Int)) ++ p1.fBase) _ v28) ?_
     obtain ⟨v30, a30, b30, h⟩ := Am h
     refine qI AE C7 a30 (Aj b30) rfl ?_
     refine D1 rfl rfl rfl rfl (Aj b30) rfl C7 rfl (BM rfl) (DO Ag ((([] : List Int)) ++ p1.fNext) _ ((-1))) ?_
     refine A0 (by kernel_rfl) ?_
     exact Aw _ h (sm [(2001, 18), (2002, 22), (2003, 26)] _ _ rfl rfl)
   ·have h := Ap c25 h
    refine Ab (Aa Ad rfl (B4 rfl (qa rfl (Ac ?_))))
    refine As rfl (fun c31 => ?_) (fun c31 => ?_)
    ·have h := Ao c31 h
     refine Ab (Aa Ad rfl (qf CH rfl (ql Gw rfl (qm rfl ?_))))
     obtain ⟨v32, a32, b32, h⟩ := Am h
     refine qi DV DJ a32 (Aj b32) rfl (qK Gf DJ rfl (qz Jd rfl (qs DJ rfl (Ac (Ab (Ab (Aa Ad rfl (qL Gf DJ rfl ?_))))))))
     obtain ⟨v33, a33, h⟩ := bind_some h
     refine AK [] (Cc N v32 v33 a33) Ov rfl (CE rfl (Ac ?_))
     refine As rfl (fun c34 => ?_) (fun c34 => ?_)
     ·have h := Ao c34 h
      refine Ab (Aa Ad rfl (A7 Di GG rfl (qs AT rfl (qa rfl (Ac ?_)))))
      obtain rfl := sj h
      refine Al ((AG 6 0 2025 1 _ rfl rfl rfl rfl).trans ((AG 6 1 2026 1 _ rfl rfl rfl rfl).trans ((AG 6 2 2027 1 _ rfl rfl rfl rfl).trans (sm [(1000, 2025), (1001, 2026), (1002, 2027)] [(6, .e (.one (.ptr 6 0))), (7, .e (.one (.pure (.val (.bool false)))))] [(6, .box [.own 1000, .own 1001, .own 1002]), (1000, .vec 1 ((([] : List Int)).map Ag)), (1001, .vec 1 ((([] : List Int)).map Ag)), (1002, .vec 1 ((([] : List Int)).map A3))] rfl rfl)))) (AC ?_)
      exact ⟨⟨[_, _], ⟨.cellN _ _ _ _ _ _ _ rfl rfl Bq AT rfl rfl (Hm rfl), ⟨.tmp _ _ rfl, trivial⟩⟩, rfl⟩, ⟨rfl, rfl, rfl, trivial⟩⟩
     ·have h := Ap c34 h
      refine Au (Ab (Aa Ad rfl (qL Bq AT rfl (qf CQ rfl (ql B7 rfl ?_)))))
      obtain ⟨v35, a35, h⟩ := bind_some h
      refine AK [] (C9 N p1 v32.fFrom v35 a35) Rs rfl (qa rfl (Ac (Ab (Ab (Aa Ad rfl (qf Cz rfl (ql Gd rfl (qm rfl ?_))))))))
      obtain ⟨v36, a36, b36, h⟩ := Am h
      refine qi Dm Fn a36 (Aj b36) rfl (qk Jz rfl (qm rfl (B4 rfl (Ac ?_))))
      refine As rfl (fun c37 => ?_) (fun c37 => ?_)
      ·have h := Ao c37 h
       refine Ab (Aa Ad rfl (A7 Di GG rfl (qs AT rfl (qa rfl (Ac ?_)))))
       obtain rfl := sj h
       refine Al ((AG 6 0 2028 1 _ rfl rfl rfl rfl).trans ((AG 6 1 2029 1 _ rfl rfl rfl rfl).trans ((AG 6 2 2030 1 _ rfl rfl rfl rfl).trans (sm [(1000, 2028), (1001, 2029), (1002, 2030)] [(6, .e (.one (.ptr 6 0))), (7, .e (.one (.pure (.val (.bool false)))))] [(6, .box [.own 1000, .own 1001, .own 1002]), (1000, .vec 1 ((([] : List Int)).map Ag)), (1001, .vec 1 ((([] : List Int)).map Ag)), (1002, .vec 1 ((([] : List Int)).map A3))] rfl rfl)))) (AC ?_)
       exact ⟨⟨[_, _], ⟨.cellN _ _ _ _ _ _ _ rfl rfl Bq AT rfl rfl (Hm rfl), ⟨.tmp _ _ rfl, trivial⟩⟩, rfl⟩, ⟨rfl, rfl, rfl, trivial⟩⟩
      ·have h := Ap c37 h
       refine Au (Ab (Ab (Aa Ad rfl (qa rfl (Ac ?_)))))
       refine AR (L := Bz N p0 p1 p2 v32 v35) h (fun v38 => mk [(3, .e (.one (.ptr 3 0))), (4, .e (.one (.ptr 4 0))), (6, .e (.one (.ptr 6 0))), (8, .e (.one (.ptr 8 0))), (9, .e (.one (.pure (.val (.int .i64 p2.fIndex))))), (11, .e (.one (.ptr 11 0))), (12, .e (.one (.pure (.val (.int .u8 v35))))), (13, .e (.one (.pure (.val (.int .i64 v38)))))] [(3, .box [.pure (.sl (p0.fVersions.map Ag)), .pure (.sl (p0.fNow.map Ag)), .pure (.sl (p0.fTarget.map Ag)), .pure (.sl (p0.fTables.map Ai))]), (4, .box [.pure (.sl (p1.fBase.map Ag)), .pure (.sl (p1.fNext.map Ag)), .pure (.sl (p1.fHeld.map A3))]), (6, .box [.pure (.nil0), .pure (.nil0), .pure (.nil0)]), (8, .box [.own 2031, .own 2032, .own 2033]), (11, .box [.pure (.val (.int .i64 v32.fKind)), .pure (.val (.int .i64 v32.fFrom)), .pure (.val (.int .i64 v32.fTo)), .pure (.val (.bool v32.fAware)), .pure (.sl (v32.fOK.map (Ep eB))), .pure (.sl (v32.fRewrite.map (Ep eB)))]), (2031, .vec 1 (((([] : List Int)) ++ p1.fBase).map Ag)), (2032, .vec 1 (((([] : List Int)) ++ p1.fNext).map Ag)), (2033, .vec 1 (((([] : List Int)) ++ p1.fHeld).map A3))]) (fun v39 => mk [(6, .e (.one (.ptr 6 0))), (8, .e (.one (.ptr 8 0))), (9, .e (.one (.pure (.val (.int .i64 p2.fIndex))))), (12, .e (.one (.pure (.val (.int .u8 v35)))))] [(6, .box [.pure (.nil0), .pure (.nil0), .pure (.nil0)]), (8, .box [.own 2034, .own 2035, .own 2036]), (2034, .vec 1 (((([] : List Int)) ++ p1.fBase).map Ag)), (2035, .vec 1 (((([] : List Int)) ++ p1.fNext).map Ag)), (2036, .vec 1 (((([] : List Int)) ++ p1.fHeld).map A3))]) (fun _ _ => rfl) (sm [(2031, 18), (2032, 22), (2033, 26)] _ _ rfl rfl) (fun j38 n38 v38 h => ?_) (fun v39 s h hs => ?_)
       ·unfold Bz at h
        refine Ab (Ab (Aa Ad rfl (qm rfl (qf Bn rfl (ql A9 rfl (qf CQ rfl (ql B7 rfl ?_)))))))
        obtain ⟨v40, a40, b40, h⟩ := Am h
        refine qi AE C7 a40 (Aj b40) rfl (qk B7 rfl (A8 rfl (Ac ?_)))
        refine As rfl (fun c41 => ?_) (fun c41 => ?_)
        ·have h := Ao c41 h
         refine Au (Ab (AU ?_))
         refine AW h (fun v42 => mk [(3, .e (.one (.ptr 3 0))), (4, .e (.one (.ptr 4 0))), (6, .e (.one (.ptr 6 0))), (8, .e (.one (.ptr 8 0))), (9, .e (.one (.pure (.val (.int .i64 p2.fIndex))))), (11, .e (.one (.ptr 11 0))), (12, .e (.one (.pure (.val (.int .u8 v35))))), (13, .e (.one (.pure (.val (.int .i64 v38))))), (14, .e (.one (.pure (.val (.bool v42)))))] [(3, .box [.pure (.sl (p0.fVersions.map Ag)), .pure (.sl (p0.fNow.map Ag)), .pure (.sl (p0.fTarget.map Ag)), .pure (.sl (p0.fTables.map Ai))]), (4, .box [.pure (.sl (p1.fBase.map Ag)), .pure (.sl (p1.fNext.map Ag)), .pure (.sl (p1.fHeld.map A3))]), (6, .box [.pure (.nil0), .pure (.nil0), .pure (.nil0)]), (8, .box [.own 2037, .own 2038, .own 2039]), (11, .box [.pure (.val (.int .i64 v32.fKind)), .pure (.val (.int .i64 v32.fFrom)), .pure (.val (.int .i64 v32.fTo)), .pure (.val (.bool v32.fAware)), .pure (.sl (v32.fOK.map (Ep eB))), .pure (.sl (v32.fRewrite.map (Ep eB)))]), (2037, .vec 1 (((([] : List Int)) ++ p1.fBase).map Ag)), (2038, .vec 1 (((([] : List Int)) ++ p1.fNext).map Ag)), (2039, .vec 1 (((([] : List Int)) ++ p1.fHeld).map A3))]) (fun j42 h => ?_) (fun v42 h => ?_)
         ·refine Aa Ad rfl (qf Cz rfl (ql Gd rfl (qm rfl ?_)))
          obtain ⟨v43, a43, b43, h⟩ := Am h
          refine qi Dm Fn a43 (Aj b43) rfl (qk Jz rfl (qm rfl ?_))
          obtain ⟨v44, a44, h⟩ := bind_some h
          refine AK [] (Fj N v43 v38 v44 a44) Tq rfl (qm rfl ?_)
          refine AI (t := 166) rfl (fun c45 => ?_) (fun c45 => ?_)
          ·have h := Ao c45 h
           refine qm rfl (qm rfl ?_)
           obtain ⟨v46, a46, h⟩ := bind_some h
           refine AK [] (Fj N v35 v38 v46 a46) Tq rfl (CE rfl (qp rfl (qa rfl (Ac ?_))))
           exact Aw _ h (sm [(2037, 2031), (2038, 2032), (2039, 2033)] _ _ rfl rfl)
          ·have h := Ap c45 h
           refine qn rfl (qn rfl (qn rfl (qn rfl (qp rfl (qa rfl (Ac ?_))))))
           exact Aw _ h (sm [(2037, 2031), (2038, 2032), (2039, 2033)] _ _ rfl rfl)
         ·refine AW h (fun v47 => mk [(3, .e (.one (.ptr 3 0))), (4, .e (.one (.ptr 4 0))), (6, .e (.one (.ptr 6 0))), (8, .e (.one (.ptr 8 0))), (9, .e (.one (.pure (.val (.int .i64 p2.fIndex))))), (11, .e (.one (.ptr 11 0))), (12, .e (.one (.pure (.val (.int .u8 v35))))), (13, .e (.one (.pure (.val (.int .i64 v38))))), (193, .e (.one (.pure (.val (.bool v47)))))] [(3, .box [.pure (.sl (p0.fVersions.map Ag)), .pure (.sl (p0.fNow.map Ag)), .pure (.sl (p0.fTarget.map Ag)), .pure (.sl (p0.fTables.map Ai))]), (4, .box [.pure (.sl (p1.fBase.map Ag)), .pure (.sl (p1.fNext.map Ag)), .pure (.sl (p1.fHeld.map A3))]), (6, .box [.pure (.nil0), .pure (.nil0), .pure (.nil0)]), (8, .box [.own 2040, .own 2041, .own 2042]), (11, .box [.pure (.val (.int .i64 v32.fKind)), .pure (.val (.int .i64 v32.fFrom)), .pure (.val (.int .i64 v32.fTo)), .pure (.val (.bool v32.fAware)), .pure (.sl (v32.fOK.map (Ep eB))), .pure (.sl (v32.fRewrite.map (Ep eB)))]), (2040, .vec 1 (((([] : List Int)) ++ p1.fBase).map Ag)), (2041, .vec 1 (((([] : List Int)) ++ p1.fNext).map Ag)), (2042, .vec 1 (((([] : List Int)) ++ p1.fHeld).map A3))]) (fun j47 h => ?_) (fun v47 h => ?_)
          ·refine Aa Ad rfl (qm rfl (qm rfl ?_))
           refine AI (t := 173) rfl (fun c48 => ?_) (fun c48 => ?_)
           ·have h := Ao c48 h
            refine qf Fm rfl (ql B7 rfl (B4 rfl (qp rfl (qm rfl ?_))))
            refine AI (t := 178) rfl (fun c49 => ?_) (fun c49 => ?_)
            ·have h := Ao c49 h
             refine qf FU rfl (ql IZ rfl (qm rfl ?_))
             obtain ⟨v50, a50, b50, h⟩ := Am h
             refine qi FF LW a50 (Aj b50) rfl (qk Ou rfl (qf Cy rfl (ql A9 rfl (qf CQ rfl (ql B7 rfl ?_)))))
             obtain ⟨v51, a51, b51, h⟩ := Am h
             refine qi AE C7 a51 (Aj b51) rfl (qk B7 rfl ?_)
             obtain ⟨v52, a52, b52, h⟩ := Am h
             refine qi FN Pc a52 (Aj b52) rfl (qk Rj rfl (CE rfl (qp rfl (A0 (by kernel_rfl) ?_))))
             exact Aw _ h (sm [(2040, 2037), (2041, 2038), (2042, 2039)] _ _ rfl rfl)
            ·have h := Ap c49 h
             refine qn rfl (qn rfl (qn rfl (qn rfl (qn rfl (qn rfl (qn rfl (qn rfl (qn rfl (qn rfl (qn rfl (qn rfl (qn rfl (qn rfl (qp rfl (A0 (by kernel_rfl) ?_)))))))))))))))
             exact Aw _ h (sm [(2040, 2037), (2041, 2038), (2042, 2039)] _ _ rfl rfl)
           ·have h := Ap c48 h
            refine qn rfl (qn rfl (qn rfl (qp rfl (qm rfl (qn rfl (qn rfl (qn rfl (qn rfl (qn rfl (qn rfl (qn rfl (qn rfl (qn rfl (qn rfl (qn rfl (qn rfl (qn rfl (qn rfl (qp rfl (A0 (by kernel_rfl) ?_))))))))))))))))))))
            exact Aw _ h (sm [(2040, 2037), (2041, 2038), (2042, 2039)] _ _ rfl rfl)
          ·refine As rfl (fun c53 => ?_) (fun c53 => ?_)
           ·have h := Ao c53 h
            refine Ab (Aa Ad rfl (A7 Di GG rfl (qs AT rfl (qa rfl (Ac ?_)))))
            obtain rfl := sj h
            refine Al ((AG 6 0 2043 1 _ rfl rfl rfl rfl).trans ((AG 6 1 2044 1 _ rfl rfl rfl rfl).trans ((AG 6 2 2045 1 _ rfl rfl rfl rfl).trans (sm [(1000, 2043), (1001, 2044), (1002, 2045)] [(6, .e (.one (.ptr 6 0))), (7, .e (.one (.pure (.val (.bool false)))))] [(6, .box [.own 1000, .own 1001, .own 1002]), (1000, .vec 1 ((([] : List Int)).map Ag)), (1001, .vec 1 ((([] : List Int)).map Ag)), (1002, .vec 1 ((([] : List Int)).map A3))] rfl rfl)))) (AC ?_)
            exact ⟨⟨[_, _], ⟨.cellN _ _ _ _ _ _ _ rfl rfl Bq AT rfl rfl (Hm rfl), ⟨.tmp _ _ rfl, trivial⟩⟩, rfl⟩, ⟨rfl, rfl, rfl, trivial⟩⟩
           ·have h := Ap c53 h
            refine Au (Aa Ad rfl (qm rfl (Bp rfl (qa rfl (Ac ?_)))))
            exact Aw _ h (sm [(2031, 2040), (2032, 2041), (2033, 2042)] _ _ rfl rfl)
        ·have h := Ap c41 h
         refine A5 ?_
         exact Aw _ h (sm [(2034, 2031), (2035, 2032), (2036, 2033)] _ _ rfl rfl)
       ·refine Al hs (Aa Ad rfl (qf Cz rfl (ql Gd rfl (qm rfl (qm rfl ?_)))))
        obtain ⟨v54, a54, b54, h⟩ := Am h
        refine qI Dm Fn a54 (Aj b54) rfl ?_
        refine D1 rfl rfl rfl rfl (Aj b54) rfl Fn rfl (BM rfl) (DO A3 ((([] : List Int)) ++ p1.fHeld) _ v35) ?_
        refine Ac ?_
        exact Aw _ h (sm [(2001, 2034), (2002, 2035), (2003, 2036)] _ _ rfl rfl)
    ·have h := Ap c31 h
     refine Ab (Ab (Aa Ad rfl (qf By rfl (ql A9 rfl (qm rfl ?_)))))
     obtain ⟨v55, a55, b55, h⟩ := Am h
     refine qi AE C7 a55 (Aj b55) rfl (qk B7 rfl (A8 rfl (Ac ?_)))
     refine As rfl (fun c56 => ?_) (fun c56 => ?_)
     ·have h := Ao c56 h
      refine Ab (Aa Ad rfl (A7 Di GG rfl (qs AT rfl (qa rfl (Ac ?_)))))
      obtain rfl := sj h
      refine Al ((AG 6 0 2046 1 _ rfl rfl rfl rfl).trans ((AG 6 1 2047 1 _ rfl rfl rfl rfl).trans ((AG 6 2 2048 1 _ rfl rfl rfl rfl).trans (sm [(1000, 2046), (1001, 2047), (1002, 2048)] [(6, .e (.one (.ptr 6 0))), (7, .e (.one (.pure (.val (.bool false)))))] [(6, .box [.own 1000, .own 1001, .own 1002]), (1000, .vec 1 ((([] : List Int)).map Ag)), (1001, .vec 1 ((([] : List Int)).map Ag)), (1002, .vec 1 ((([] : List Int)).map A3))] rfl rfl)))) (AC ?_)
      exact ⟨⟨[_, _], ⟨.cellN _ _ _ _ _ _ _ rfl rfl Bq AT rfl rfl (Hm rfl), ⟨.tmp _ _ rfl, trivial⟩⟩, rfl⟩, ⟨rfl, rfl, rfl, trivial⟩⟩
     ·have h := Ap c56 h
      refine Au (Aa Ad rfl (qf By rfl (ql A9 rfl (qm rfl ?_))))
      obtain ⟨v57, a57, b57, h⟩ := Am h
      refine qI AE C7 a57 (Aj b57) rfl ?_
      refine D1 rfl rfl rfl rfl (Aj b57) rfl C7 rfl (BM rfl) (DO Ag ((([] : List Int)) ++ p1.fNext) _ ((-1))) ?_
      refine Ac ?_
      exact Aw _ h (sm [(2001, 18), (2002, 22), (2003, 26)] _ _ rfl rfl)
 ·refine Ab (Aa Ad rfl (qL Bq AT rfl (qs AT rfl (qa rfl (Ac ?_)))))
  obtain rfl := sj h
  refine Al (sm [(1000, 2001), (1001, 2002), (1002, 2003)] [(6, .e (.one (.ptr 6 0))), (7, .e (.one (.pure (.val (.bool true)))))] [(6, .box [.own 1000, .own 1001, .own 1002]), (1000, .vec 1 (v4.1.map Ag)), (1001, .vec 1 (v4.2.1.map Ag)), (1002, .vec 1 (v4.2.2.map A3))] rfl rfl) (AC ?_)
  exact ⟨⟨[_, _], ⟨.cellN _ _ _ _ _ _ _ rfl rfl Bq AT rfl rfl (Hm rfl), ⟨.tmp _ _ rfl, trivial⟩⟩, rfl⟩, ⟨rfl, rfl, rfl, trivial⟩⟩
set_option maxRecDepth 10000 in
theorem JR (N : Nat) (p0 : Ae) (p1 : Ah) (p2 : Af) (r : Ah × Int) (h : D3 N p0 p1 p2 = some r) : AB Try.prog 41 [.e (.agg [.pure (.sl (p0.fVersions.map Ag)), .pure (.sl (p0.fNow.map Ag)), .pure (.sl (p0.fTarget.map Ag)), .pure (.sl (p0.fTables.map Ai))]), .e (.agg [.pure (.sl (p1.fBase.map Ag)), .pure (.sl (p1.fNext.map Ag)), .pure (.sl (p1.fHeld.map A3))]), .e (.agg [.pure (.val (.int .i64 p2.fKind)), .pure (.val (.int .i64 p2.fIndex)), .pure (.val (.int .i64 p2.fVersion))])] [(1, r.1.fBase.map Ag), (1, r.1.fNext.map Ag), (1, r.1.fHeld.map A3)] (.tup [.agg [.own 0, .own 1, .own 2], .one (.pure (.val (.int .i64 r.2)))]) := by
 unfold D3 at h
 refine Aq (n := 73) (rs := [.cell 6 43, .tmp 7]) Try.func41 rfl rfl rfl (BM rfl) (BM rfl) rfl fun w0 S0 => ?_
 refine Ab (Aa Ad rfl (qb rfl (qb rfl (qb rfl (qz Di rfl (qa rfl (Ac (Ab (Ab (Aa Ad rfl (qL DM Dw rfl (qL Bq AT rfl ?_))))))))))))
 obtain ⟨v1, a1, h⟩ := bind_some h
 refine AK [] (EP N p0 p1 v1 a1) TO rfl (qa rfl (Ac (Ab (Aa Ad rfl (qm rfl (CD rfl (Ac ?_)))))))
 refine As rfl (fun c2 => ?_) (fun c2 => ?_)
 ·have h := Ao c2 h
  refine Ab (Aa Ad rfl (A7 Di GG rfl (qm rfl (qs AT rfl (qa rfl (Ac ?_))))))
  obtain rfl := sj h
  refine Al ((AG 6 0 2001 1 _ rfl rfl rfl rfl).trans ((AG 6 1 2002 1 _ rfl rfl rfl rfl).trans ((AG 6 2 2003 1 _ rfl rfl rfl rfl).trans (sm [(1000, 2001), (1001, 2002), (1002, 2003)] [(6, .e (.one (.ptr 6 0))), (7, .e (.one (.pure (.val (.int .i64 v1)))))] [(6, .box [.own 1000, .own 1001, .own 1002]), (1000, .vec 1 ((([] : List Int)).map Ag)), (1001, .vec 1 ((([] : List Int)).map Ag)), (1002, .vec 1 ((([] : List Int)).map A3))] rfl rfl)))) (AC ?_)
  exact ⟨⟨[_, _], ⟨.cellN _ _ _ _ _ _ _ rfl rfl Bq AT rfl rfl (Hm rfl), ⟨.tmp _ _ rfl, trivial⟩⟩, rfl⟩, ⟨rfl, rfl, rfl, trivial⟩⟩
 ·have h := Ap c2 h
  refine Au (Ab (Ab (Aa Ad rfl (qL GB Dj rfl ?_))))
  obtain ⟨v3, a3, h⟩ := bind_some h
  refine AK [] (JT N p2 v3 a3) XR rfl (CE rfl (Ac ?_))
  refine As rfl (fun c4 => ?_) (fun c4 => ?_)
  ·have h := Ao c4 h
   refine Ab (Aa Ad rfl (A7 Di GG rfl (qs AT rfl (qa rfl (Ac ?_)))))
   obtain rfl := sj h
   refine Al ((AG 6 0 2004 1 _ rfl rfl rfl rfl).trans ((AG 6 1 2005 1 _ rfl rfl rfl rfl).trans ((AG 6 2 2006 1 _ rfl rfl rfl rfl).trans (sm [(1000, 2004), (1001, 2005), (1002, 2006)] [(6, .e (.one (.ptr 6 0))), (7, .e (.one (.pure (.val (.int .i64 1)))))] [(6, .box [.own 1000, .own 1001, .own 1002]), (1000, .vec 1 ((([] : List Int)).map Ag)), (1001, .vec 1 ((([] : List Int)).map Ag)), (1002, .vec 1 ((([] : List Int)).map A3))] rfl rfl)))) (AC ?_)
   exact ⟨⟨[_, _], ⟨.cellN _ _ _ _ _ _ _ rfl rfl Bq AT rfl rfl (Hm rfl), ⟨.tmp _ _ rfl, trivial⟩⟩, rfl⟩, ⟨rfl, rfl, rfl, trivial⟩⟩
  ·have h := Ap c4 h
   refine Au (Ab ?_)
   refine AW h (fun v5 => mk [(3, .e (.one (.ptr 3 0))), (4, .e (.one (.ptr 4 0))), (5, .e (.one (.ptr 5 0))), (6, .e (.one (.ptr 6 0))), (45, .e (.one (.pure (.val (.bool v5)))))] [(3, .box [.pure (.sl (p0.fVersions.map Ag)), .pure (.sl (p0.fNow.map Ag)), .pure (.sl (p0.fTarget.map Ag)), .pure (.sl (p0.fTables.map Ai))]), (4, .box [.pure (.sl (p1.fBase.map Ag)), .pure (.sl (p1.fNext.map Ag)), .pure (.sl (p1.fHeld.map A3))]), (5, .box [.pure (.val (.int .i64 p2.fKind)), .pure (.val (.int .i64 p2.fIndex)), .pure (.val (.int .i64 p2.fVersion))]), (6, .box [.pure (.nil0), .pure (.nil0), .pure (.nil0)])]) (fun j5 h => ?_) (fun v5 h => ?_)
   ·refine Aa Ad rfl (qf EO rfl (ql B7 rfl (B4 rfl (qm rfl ?_))))
    refine AI (t := 25) rfl (fun c6 => ?_) (fun c6 => ?_)
    ·have h := Ao c6 h
     refine qf Ex rfl (ql B7 rfl (qf CH rfl (ql Gw rfl (AS DV rfl (Ey rfl (qp rfl (qm rfl ?_)))))))
     refine AI (t := 33) rfl (fun c7 => ?_) (fun c7 => ?_)
     ·have h := Ao c7 h
      refine qn rfl (qn rfl (qn rfl (qn rfl (qu rfl (qu rfl (qu rfl (qu rfl (qu rfl (qu rfl (qn rfl (qp rfl (Ac ?_))))))))))))
      exact Aw _ h (sm [] _ _ rfl rfl)
     ·have h := Ap c7 h
      refine qf EO rfl (ql B7 rfl (CD rfl (qm rfl ?_)))
      refine AI (t := 37) rfl (fun c8 => ?_) (fun c8 => ?_)
      ·have h := Ao c8 h
       refine qf Ex rfl (ql B7 rfl (qf Bn rfl (ql A9 rfl (AS AE rfl (Ey rfl (qp rfl (qp rfl (Ac ?_))))))))
       exact Aw _ h (sm [] _ _ rfl rfl)
      ·have h := Ap c8 h
       refine qn rfl (qn rfl (qn rfl (qn rfl (qn rfl (qn rfl (qp rfl (qp rfl (Ac ?_))))))))
       exact Aw _ h (sm [] _ _ rfl rfl)
    ·have h := Ap c6 h
     refine qn rfl (qn rfl (qn rfl (qn rfl (qn rfl (qn rfl (qp rfl (qm rfl (qf EO rfl (ql B7 rfl (CD rfl (qm rfl ?_)))))))))))
     refine AI (t := 37) rfl (fun c9 => ?_) (fun c9 => ?_)
     ·have h := Ao c9 h
      refine qf Ex rfl (ql B7 rfl (qf Bn rfl (ql A9 rfl (AS AE rfl (Ey rfl (qp rfl (qp rfl (Ac ?_))))))))
      exact Aw _ h (sm [] _ _ rfl rfl)
     ·have h := Ap c9 h
      refine qn rfl (qn rfl (qn rfl (qn rfl (qn rfl (qn rfl (qp rfl (qp rfl (Ac ?_))))))))
      exact Aw _ h (sm [] _ _ rfl rfl)
   ·refine As rfl (fun c10 => ?_) (fun c10 => ?_)
    ·have h := Ao c10 h
     refine Ab (Aa Ad rfl (A7 Di GG rfl (qs AT rfl (qa rfl (Ac ?_)))))
     obtain rfl := sj h
     refine Al ((AG 6 0 2007 1 _ rfl rfl rfl rfl).trans ((AG 6 1 2008 1 _ rfl rfl rfl rfl).trans ((AG 6 2 2009 1 _ rfl rfl rfl rfl).trans (sm [(1000, 2007), (1001, 2008), (1002, 2009)] [(6, .e (.one (.ptr 6 0))), (7, .e (.one (.pure (.val (.int .i64 4)))))] [(6, .box [.own 1000, .own 1001, .own 1002]), (1000, .vec 1 ((([] : List Int)).map Ag)), (1001, .vec 1 ((([] : List Int)).map Ag)), (1002, .vec 1 ((([] : List Int)).map A3))] rfl rfl)))) (AC ?_)
     exact ⟨⟨[_, _], ⟨.cellN _ _ _ _ _ _ _ rfl rfl Bq AT rfl rfl (Hm rfl), ⟨.tmp _ _ rfl, trivial⟩⟩, rfl⟩, ⟨rfl, rfl, rfl, trivial⟩⟩
    ·have h := Ap c10 h
     refine Au (Ab ?_)
     refine AW h (fun v11 => mk [(3, .e (.one (.ptr 3 0))), (4, .e (.one (.ptr 4 0))), (5, .e (.one (.ptr 5 0))), (6, .e (.one (.ptr 6 0))), (60, .e (.one (.pure (.val (.bool v11)))))] [(3, .box [.pure (.sl (p0.fVersions.map Ag)), .pure (.sl (p0.fNow.map Ag)), .pure (.sl (p0.fTarget.map Ag)), .pure (.sl (p0.fTables.map Ai))]), (4, .box [.pure (.sl (p1.fBase.map Ag)), .pure (.sl (p1.fNext.map Ag)), .pure (.sl (p1.fHeld.map A3))]), (5, .box [.pure (.val (.int .i64 p2.fKind)), .pure (.val (.int .i64 p2.fIndex)), .pure (.val (.int .i64 p2.fVersion))]), (6, .box [.pure (.nil0), .pure (.nil0), .pure (.nil0)])]) (fun j11 h => ?_) (fun v11 h => ?_)
     ·refine Aa Ad rfl (qf EO rfl (ql B7 rfl (B4 rfl (qm rfl ?_))))
      refine AI (t := 50) rfl (fun c12 => ?_) (fun c12 => ?_)
      ·have h := Ao c12 h
       refine qf FW rfl (ql B7 rfl (qf Bn rfl (ql A9 rfl (qf Ex rfl (ql B7 rfl ?_)))))
       obtain ⟨v13, a13, b13, h⟩ := Am h
       refine qi AE C7 a13 (Aj b13) rfl (qk B7 rfl (Ey rfl (qp rfl (A0 (by kernel_rfl) ?_))))
       exact Aw _ h (sm [] _ _ rfl rfl)
      ·have h := Ap c12 h
       refine qn rfl (qn rfl (qn rfl (qn rfl (qn rfl (qn rfl (qn rfl (qn rfl (qn rfl (qp rfl (A0 (by kernel_rfl) ?_))))))))))
       exact Aw _ h (sm [] _ _ rfl rfl)
     ·refine As rfl (fun c14 => ?_) (fun c14 => ?_)
      ·have h := Ao c14 h
       refine Ab (Aa Ad rfl (A7 Di GG rfl (qs AT rfl (qa rfl (Ac ?_)))))
       obtain rfl := sj h
       refine Al ((AG 6 0 2010 1 _ rfl rfl rfl rfl).trans ((AG 6 1 2011 1 _ rfl rfl rfl rfl).trans ((AG 6 2 2012 1 _ rfl rfl rfl rfl).trans (sm [(1000, 2010), (1001, 2011), (1002, 2012)] [(6, .e (.one (.ptr 6 0))), (7, .e (.one (.pure (.val (.int .i64 4)))))] [(6, .box [.own 1000, .own 1001, .own 1002]), (1000, .vec 1 ((([] : List Int)).map Ag)), (1001, .vec 1 ((([] : List Int)).map Ag)), (1002, .vec 1 ((([] : List Int)).map A3))] rfl rfl)))) (AC ?_)
       exact ⟨⟨[_, _], ⟨.cellN _ _ _ _ _ _ _ rfl rfl Bq AT rfl rfl (Hm rfl), ⟨.tmp _ _ rfl, trivial⟩⟩, rfl⟩, ⟨rfl, rfl, rfl, trivial⟩⟩
      ·have h := Ap c14 h
       refine Au (Ab (Aa Ad rfl (qL DM Dw rfl (qL Bq AT rfl (qL GB Dj rfl ?_)))))
       obtain ⟨v15, a15, h⟩ := bind_some h
       refine AK [2013, 2014, 2015] (Ha N p0 p1 p2 v15 a15) WS rfl (qm rfl (qx rfl (qx rfl (qz Di rfl (qs AT rfl (qa rfl (Ac (Ab (Ab (Aa Ad rfl (qm rfl (CE rfl (Ac ?_)))))))))))))
       refine As rfl (fun c16 => ?_) (fun c16 => ?_)
       ·have h := Ao c16 h
        refine Ab (Aa Ad rfl (A7 Di GG rfl (qs AT rfl (qa rfl (Ac ?_)))))
        obtain rfl := sj h
        refine Al ((AG 6 0 2016 1 _ rfl rfl rfl rfl).trans ((AG 6 1 2017 1 _ rfl rfl rfl rfl).trans ((AG 6 2 2018 1 _ rfl rfl rfl rfl).trans (sm [(1000, 2016), (1001, 2017), (1002, 2018)] [(6, .e (.one (.ptr 6 0))), (7, .e (.one (.pure (.val (.int .i64 11)))))] [(6, .box [.own 1000, .own 1001, .own 1002]), (1000, .vec 1 ((([] : List Int)).map Ag)), (1001, .vec 1 ((([] : List Int)).map Ag)), (1002, .vec 1 ((([] : List Int)).map A3))] rfl rfl)))) (AC ?_)
        exact ⟨⟨[_, _], ⟨.cellN _ _ _ _ _ _ _ rfl rfl Bq AT rfl rfl (Hm rfl), ⟨.tmp _ _ rfl, trivial⟩⟩, rfl⟩, ⟨rfl, rfl, rfl, trivial⟩⟩
       ·have h := Ap c16 h
        refine Au (Ab (Aa Ad rfl (qL Bq AT rfl (qs AT rfl (qa rfl (Ac ?_))))))
        obtain rfl := sj h
        refine Al (sm [(1000, 2013), (1001, 2014), (1002, 2015)] [(6, .e (.one (.ptr 6 0))), (7, .e (.one (.pure (.val (.int .i64 0)))))] [(6, .box [.own 1000, .own 1001, .own 1002]), (1000, .vec 1 (v15.1.fBase.map Ag)), (1001, .vec 1 (v15.1.fNext.map Ag)), (1002, .vec 1 (v15.1.fHeld.map A3))] rfl rfl) (AC ?_)
        exact ⟨⟨[_, _], ⟨.cellN _ _ _ _ _ _ _ rfl rfl Bq AT rfl rfl (Hm rfl), ⟨.tmp _ _ rfl, trivial⟩⟩, rfl⟩, ⟨rfl, rfl, rfl, trivial⟩⟩
set_option maxRecDepth 10000 in
theorem JQ (N : Nat) (p0 : Ae) (p1 : Ah) (r : (List Af)) (h : DX N p0 p1 = some r) : AB Try.prog 52 [.e (.agg [.pure (.sl (p0.fVersions.map Ag)), .pure (.sl (p0.fNow.map Ag)), .pure (.sl (p0.fTarget.map Ag)), .pure (.sl (p0.fTables.map Ai))]), .e (.agg [.pure (.sl (p1.fBase.map Ag)), .pure (.sl (p1.fNext.map Ag)), .pure (.sl (p1.fHeld.map A3))])] [(3, r.map Ay)] (.e (.one (.own 0))) := by
 unfold DX at h
 refine Aq (n := 49) (rs := [.tmp 4]) Try.func52 rfl rfl rfl (BM rfl) (BM rfl) rfl fun w0 S0 => ?_
 refine Ab (Aa Ad rfl (qb rfl (qb rfl (qa rfl (Ac (Ab (Aa Ad rfl (qa rfl (Ac (Ab (Ab (Aa Ad rfl (qa rfl (Ac ?_))))))))))))))
 refine AR (L := Bt N p0 p1) h (fun v1 => mk [(2, .e (.one (.ptr 2 0))), (3, .e (.one (.ptr 3 0))), (5, .e (.one (.own 2001))), (6, .e (.one (.pure (.val (.int .i64 v1.2)))))] [(2, .box [.pure (.sl (p0.fVersions.map Ag)), .pure (.sl (p0.fNow.map Ag)), .pure (.sl (p0.fTarget.map Ag)), .pure (.sl (p0.fTables.map Ai))]), (3, .box [.pure (.sl (p1.fBase.map Ag)), .pure (.sl (p1.fNext.map Ag)), .pure (.sl (p1.fHeld.map A3))]), (2001, .vec 3 (v1.1.map Ay))]) (fun v2 => mk [(5, .e (.one (.own 2002)))] [(2002, .vec 3 (v2.map Ay))]) (fun _ _ => rfl) ((BF 5 2011 3 rfl rfl rfl).trans (sm [(2001, 2011)] _ _ rfl rfl)) (fun j1 n1 v1 h => ?_) (fun v2 s h hs => ?_)
 ·unfold Bt at h
  refine Ab (Ab (Aa Ad rfl (qm rfl (UD rfl (Ac ?_)))))
  refine As rfl (fun c3 => ?_) (fun c3 => ?_)
  ·have h := Ao c3 h
   refine Au (Ab (AU (Ab (Aa Ad rfl (qa rfl (Ac ?_))))))
   refine AR (L := B3 N p0 p1 v1) h (fun v4 => mk [(2, .e (.one (.ptr 2 0))), (3, .e (.one (.ptr 3 0))), (5, .e (.one (.own 2003))), (6, .e (.one (.pure (.val (.int .i64 v1.2))))), (7, .e (.one (.pure (.val (.int .i64 v4.2)))))] [(2, .box [.pure (.sl (p0.fVersions.map Ag)), .pure (.sl (p0.fNow.map Ag)), .pure (.sl (p0.fTarget.map Ag)), .pure (.sl (p0.fTables.map Ai))]), (3, .box [.pure (.sl (p1.fBase.map Ag)), .pure (.sl (p1.fNext.map Ag)), .pure (.sl (p1.fHeld.map A3))]), (2003, .vec 3 (v4.1.map Ay))]) (fun v5 => mk [(2, .e (.one (.ptr 2 0))), (3, .e (.one (.ptr 3 0))), (5, .e (.one (.own 2004))), (6, .e (.one (.pure (.val (.int .i64 v1.2)))))] [(2, .box [.pure (.sl (p0.fVersions.map Ag)), .pure (.sl (p0.fNow.map Ag)), .pure (.sl (p0.fTarget.map Ag)), .pure (.sl (p0.fTables.map Ai))]), (3, .box [.pure (.sl (p1.fBase.map Ag)), .pure (.sl (p1.fNext.map Ag)), .pure (.sl (p1.fHeld.map A3))]), (2004, .vec 3 (v5.map Ay))]) (fun _ _ => rfl) (sm [(2003, 2001)] _ _ rfl rfl) (fun j4 n4 v4 h => ?_) (fun v5 s h hs => ?_)
   ·unfold B3 at h
    refine Ab (Ab (Aa Ad rfl (qm rfl (qf Bn rfl (ql A9 rfl (AS AE rfl (qf CH rfl (ql Gw rfl (AS DV rfl ?_)))))))))
    refine Wh (.p rfl) rfl rfl ?_
    refine A8 rfl (Ac ?_)
    refine As rfl (fun c6 => ?_) (fun c6 => ?_)
    ·have h := Ao c6 h
     refine Au (Ab (AU (Ab (Aa Ad rfl (qa rfl (Ac ?_))))))
     refine AR (L := B2 N p0 p1 v1 v4) h (fun v7 => mk [(2, .e (.one (.ptr 2 0))), (3, .e (.one (.ptr 3 0))), (5, .e (.one (.own 2005))), (6, .e (.one (.pure (.val (.int .i64 v1.2))))), (7, .e (.one (.pure (.val (.int .i64 v4.2))))), (8, .e (.one (.pure (.val (.int .i64 v7.2)))))] [(2, .box [.pure (.sl (p0.fVersions.map Ag)), .pure (.sl (p0.fNow.map Ag)), .pure (.sl (p0.fTarget.map Ag)), .pure (.sl (p0.fTables.map Ai))]), (3, .box [.pure (.sl (p1.fBase.map Ag)), .pure (.sl (p1.fNext.map Ag)), .pure (.sl (p1.fHeld.map A3))]), (2005, .vec 3 (v7.1.map Ay))]) (fun v8 => mk [(2, .e (.one (.ptr 2 0))), (3, .e (.one (.ptr 3 0))), (5, .e (.one (.own 2006))), (6, .e (.one (.pure (.val (.int .i64 v1.2))))), (7, .e (.one (.pure (.val (.int .i64 v4.2)))))] [(2, .box [.pure (.sl (p0.fVersions.map Ag)), .pure (.sl (p0.fNow.map Ag)), .pure (.sl (p0.fTarget.map Ag)), .pure (.sl (p0.fTables.map Ai))]), (3, .box [.pure (.sl (p1.fBase.map Ag)), .pure (.sl (p1.fNext.map Ag)), .pure (.sl (p1.fHeld.map A3))]), (2006, .vec 3 (v8.map Ay))]) (fun _ _ => rfl) (sm [(2005, 2003)] _ _ rfl rfl) (fun j7 n7 v7 h => ?_) (fun v8 s h hs => ?_)
     ·unfold B2 at h
      refine Ab (Ab (Aa Ad rfl (qm rfl (A8 rfl (Ac ?_)))))
      refine As rfl (fun c9 => ?_) (fun c9 => ?_)
      ·have h := Ao c9 h
       refine Au ?_
       refine AW h (fun v10 => mk [(2, .e (.one (.ptr 2 0))), (3, .e (.one (.ptr 3 0))), (5, .e (.one (.own 2007))), (6, .e (.one (.pure (.val (.int .i64 v1.2))))), (7, .e (.one (.pure (.val (.int .i64 v4.2))))), (8, .e (.one (.pure (.val (.int .i64 v7.2)))))] [(2, .box [.pure (.sl (p0.fVersions.map Ag)), .pure (.sl (p0.fNow.map Ag)), .pure (.sl (p0.fTarget.map Ag)), .pure (.sl (p0.fTables.map Ai))]), (3, .box [.pure (.sl (p1.fBase.map Ag)), .pure (.sl (p1.fNext.map Ag)), .pure (.sl (p1.fHeld.map A3))]), (2007, .vec 3 (v10.map Ay))]) (fun j10 h => ?_) (fun v10 h => ?_)
       ·refine AU (Ab (Aa Ad rfl (qm rfl (qm rfl (qm rfl (A7 Gx OV rfl (qz Gx rfl (qs Dj rfl (Ac (Ab (Aa Ad rfl (qL DM Dw rfl (qL Bq AT rfl (qL GB Dj rfl ?_))))))))))))))
        obtain ⟨v11, a11, h⟩ := bind_some h
        refine AK [2008, 2009, 2010] (JR N p0 p1 ((Af.mk v1.2 v4.2 v7.2)) v11 a11) Xm rfl (qm rfl (qx rfl (qx rfl (qz Di rfl (qs AT rfl (qa rfl (Ac (Ab (Aa Ad rfl (qm rfl (B4 rfl (Ac ?_))))))))))))
        refine As rfl (fun c12 => ?_) (fun c12 => ?_)
        ·have h := Ao c12 h
         refine Aa Ad rfl (qm rfl (qL GB Dj rfl (En CU Dj Gx rfl ?_)))
         obtain ⟨c13, h⟩ := AN h
         refine Dy (f := Ay) CU CU Dj N4 Gx c13 rfl (qa rfl (Ac ?_))
         exact Aw _ h (sm [(2007, 47)] _ _ rfl rfl)
        ·have h := Ap c12 h
         refine Au ?_
         exact Aw _ h (sm [(2007, 2005)] _ _ rfl rfl)
       ·refine Aa Ad rfl (qm rfl (Bp rfl (qa rfl (Ac ?_))))
        exact Aw _ h (sm [(2005, 2007)] _ _ rfl rfl)
      ·have h := Ap c9 h
       refine A5 ?_
       exact Aw _ h (sm [(2006, 2005)] _ _ rfl rfl)
     ·refine Al hs (Aa Ad rfl (qm rfl (Bp rfl (qa rfl (Ac ?_)))))
      exact Aw _ h (sm [(2003, 2006)] _ _ rfl rfl)
    ·have h := Ap c6 h
     refine A5 ?_
     exact Aw _ h (sm [(2004, 2003)] _ _ rfl rfl)
   ·refine Al hs (Aa Ad rfl (qm rfl (Bp rfl (qa rfl (Ac ?_)))))
    exact Aw _ h (sm [(2001, 2004)] _ _ rfl rfl)
  ·have h := Ap c3 h
   refine A5 ?_
   exact Aw _ h (sm [(2002, 2001)] _ _ rfl rfl)
 ·refine Al hs (Ab (Aa Ad rfl (qm rfl (qa rfl (Ac ?_)))))
  obtain rfl := sj h
  refine Al (sm [(1000, 2002)] [(4, .e (.one (.own 1000)))] [(1000, .vec 3 (v2.map Ay))] rfl rfl) (AC ?_)
  exact ⟨⟨[_], ⟨.tmp _ _ rfl, trivial⟩, rfl⟩, ⟨rfl, trivial⟩⟩
set_option maxRecDepth 10000 in
theorem F4 (N : Nat) (p0 : List Int) (p1 : List Int) (r : Int) (h : CY N p0 p1 = some r) : AB Try.prog 83 [.e (.one (.pure (.sl (p0.map Ag)))), .e (.one (.pure (.sl (p1.map Ag))))] [] (.e (.one (.pure (.val (.int .i64 r))))) := by
 unfold CY at h
 refine Aq (n := 46) (rs := [.tmp 4]) Try.func83 rfl rfl rfl (BM rfl) (BM rfl) rfl fun w0 S0 => ?_
 refine Ab (Aa Ad rfl (qa rfl (Ac (Ab (Ab (Aa Ad rfl (qa rfl (Ac ?_))))))))
 refine AR (L := CV N p0 p1) h (fun v1 => mk [(0, .e (.one (.pure (.sl (p0.map Ag))))), (1, .e (.one (.pure (.sl (p1.map Ag))))), (5, .e (.one (.pure (.val (.int .i64 v1)))))] []) (fun v2 => mk [(0, .e (.one (.pure (.sl (p0.map Ag))))), (1, .e (.one (.pure (.sl (p1.map Ag)))))] []) (fun _ _ => rfl) (sm [] _ _ rfl rfl) (fun j1 n1 v1 h => ?_) (fun v2 s h hs => ?_)
 ·unfold CV at h
  refine Ab ?_
  refine AW h (fun v3 => mk [(0, .e (.one (.pure (.sl (p0.map Ag))))), (1, .e (.one (.pure (.sl (p1.map Ag))))), (5, .e (.one (.pure (.val (.int .i64 v1))))), (15, .e (.one (.pure (.val (.bool v3)))))] []) (fun j3 h => ?_) (fun v3 h => ?_)
  ·refine Aa Ad rfl (qm rfl (qm rfl (AS AE rfl (A8 rfl (qm rfl ?_)))))
   refine AI (t := 10) rfl (fun c4 => ?_) (fun c4 => ?_)
   ·have h := Ao c4 h
    refine qm rfl (qm rfl (AS AE rfl (A8 rfl (qp rfl (Ac ?_)))))
    exact Aw _ h (sm [] _ _ rfl rfl)
   ·have h := Ap c4 h
    refine qn rfl (qn rfl (qn rfl (qn rfl (qp rfl (Ac ?_)))))
    exact Aw _ h (sm [] _ _ rfl rfl)
  ·refine As rfl (fun c5 => ?_) (fun c5 => ?_)
   ·have h := Ao c5 h
    refine Au (Ab (AU (Ab (Ab (Aa Ad rfl (qm rfl (qm rfl ?_)))))))
    obtain ⟨v6, a6, b6, h⟩ := Am h
    refine qi AE C7 a6 (Aj b6) rfl (qk B7 rfl (qm rfl (qm rfl ?_)))
    obtain ⟨v7, a7, b7, h⟩ := Am h
    refine qi AE C7 a7 (Aj b7) rfl (qk B7 rfl (A8 rfl (A0 (by kernel_rfl) ?_)))
    refine As rfl (fun c8 => ?_) (fun c8 => ?_)
    ·have h := Ao c8 h
     refine Ab (Aa Ad rfl (qa rfl (Ac ?_)))
     obtain rfl := sj h
     refine Al (sm [] [(4, .e (.one (.pure (.val (.int .i64 ((-1)))))))] [] rfl rfl) (AC ?_)
     exact ⟨⟨[_], ⟨.tmp _ _ rfl, trivial⟩, rfl⟩, trivial⟩
    ·have h := Ap c8 h
     refine Au (Ab (Aa Ad rfl (qm rfl (qm rfl ?_))))
     obtain ⟨v9, a9, b9, h⟩ := Am h
     refine qi AE C7 a9 (Aj b9) rfl (qk B7 rfl (qm rfl (qm rfl ?_)))
     obtain ⟨v10, a10, b10, h⟩ := Am h
     refine qi AE C7 a10 (Aj b10) rfl (qk B7 rfl (FT rfl (A0 (by kernel_rfl) ?_)))
     refine As rfl (fun c11 => ?_) (fun c11 => ?_)
     ·have h := Ao c11 h
      refine Ab (Aa Ad rfl (qa rfl (Ac ?_)))
      obtain rfl := sj h
      refine Al (sm [] [(4, .e (.one (.pure (.val (.int .i64 1)))))] [] rfl rfl) (AC ?_)
      exact ⟨⟨[_], ⟨.tmp _ _ rfl, trivial⟩, rfl⟩, trivial⟩
     ·have h := Ap c11 h
      refine Au (Aa Ad rfl (qm rfl (Bp rfl (qa rfl (Ac ?_)))))
      exact Aw _ h (sm [] _ _ rfl rfl)
   ·have h := Ap c5 h
    refine A5 ?_
    exact Aw _ h (sm [] _ _ rfl rfl)
 ·refine Al hs (Ab (Ab (Aa Ad rfl (qm rfl (AS AE rfl (qm rfl (AS AE rfl (A8 rfl (Ac ?_)))))))))
  refine As rfl (fun c12 => ?_) (fun c12 => ?_)
  ·have h := Ao c12 h
   refine Ab (Aa Ad rfl (qa rfl (Ac ?_)))
   obtain rfl := sj h
   refine Al (sm [] [(4, .e (.one (.pure (.val (.int .i64 ((-1)))))))] [] rfl rfl) (AC ?_)
   exact ⟨⟨[_], ⟨.tmp _ _ rfl, trivial⟩, rfl⟩, trivial⟩
  ·have h := Ap c12 h
   refine Au (Ab (Ab (Aa Ad rfl (qm rfl (AS AE rfl (qm rfl (AS AE rfl (FT rfl (Ac ?_)))))))))
   refine As rfl (fun c13 => ?_) (fun c13 => ?_)
   ·have h := Ao c13 h
    refine Ab (Aa Ad rfl (qa rfl (Ac ?_)))
    obtain rfl := sj h
    refine Al (sm [] [(4, .e (.one (.pure (.val (.int .i64 1)))))] [] rfl rfl) (AC ?_)
    exact ⟨⟨[_], ⟨.tmp _ _ rfl, trivial⟩, rfl⟩, trivial⟩
   ·have h := Ap c13 h
    refine Au (Ab (Aa Ad rfl (qa rfl (Ac ?_))))
    obtain rfl := sj h
    refine Al (sm [] [(4, .e (.one (.pure (.val (.int .i64 0)))))] [] rfl rfl) (AC ?_)
    exact ⟨⟨[_], ⟨.tmp _ _ rfl, trivial⟩, rfl⟩, trivial⟩
set_option maxRecDepth 10000 in
theorem Gz (N : Nat) (p0 : List Int) (r : (List Int)) (h : CW N p0 = some r) : AB Try.prog 84 [.e (.one (.pure (.sl (p0.map A3))))] [(1, r.map Ag)] (.e (.one (.own 0))) := by
 unfold CW at h
 refine Aq (n := 20) (rs := [.tmp 2]) Try.func84 rfl rfl rfl (BM rfl) (BM rfl) rfl fun w0 S0 => ?_
 refine Ab (Aa Ad rfl (qa rfl (Ac (Ab (Aa Ad rfl (qa rfl (Ac (Ab (Ab (Aa Ad rfl (qa rfl (Ac ?_))))))))))))
 refine AR (L := Cx N p0) h (fun v1 => mk [(0, .e (.one (.pure (.sl (p0.map A3))))), (3, .e (.one (.own 2001))), (4, .e (.one (.pure (.val (.int .i64 v1.2)))))] [(2001, .vec 1 (v1.1.map Ag))]) (fun v2 => mk [(3, .e (.one (.own 2002)))] [(2002, .vec 1 (v2.map Ag))]) (fun _ _ => rfl) ((BF 3 2003 1 rfl rfl rfl).trans (sm [(2001, 2003)] _ _ rfl rfl)) (fun j1 n1 v1 h => ?_) (fun v2 s h hs => ?_)
 ·unfold Cx at h
  refine Ab (Ab (Aa Ad rfl (qm rfl (qm rfl (AS Dm rfl (A8 rfl (Ac ?_)))))))
  refine As rfl (fun c3 => ?_) (fun c3 => ?_)
  ·have h := Ao c3 h
   refine Au (Ab (AU (Aa Ad rfl (qm rfl (qm rfl (qm rfl ?_))))))
   obtain ⟨v4, a4, b4, h⟩ := Am h
   refine qi Dm Fn a4 (Aj b4) rfl (qk Jz rfl (HT XO T8 rfl (En AE C7 J5 rfl ?_)))
   obtain ⟨c5, h⟩ := AN h
   refine Dy (f := Ag) AE AE C7 KP J5 c5 rfl (qa rfl (Ac (Aa Ad rfl (qm rfl (Bp rfl (qa rfl (Ac ?_)))))))
   exact Aw _ h (sm [(2001, 18)] _ _ rfl rfl)
  ·have h := Ap c3 h
   refine A5 ?_
   exact Aw _ h (sm [(2002, 2001)] _ _ rfl rfl)
 ·refine Al hs (Ab (Aa Ad rfl (qm rfl (qa rfl (Ac ?_)))))
  obtain rfl := sj h
  refine Al (sm [(1000, 2002)] [(2, .e (.one (.own 1000)))] [(1000, .vec 1 (v2.map Ag))] rfl rfl) (AC ?_)
  exact ⟨⟨[_], ⟨.tmp _ _ rfl, trivial⟩, rfl⟩, ⟨rfl, trivial⟩⟩
set_option maxRecDepth 10000 in
theorem IY (N : Nat) (p0 : Ah) (p1 : Ah) (r : Int) (h : Dx N p0 p1 = some r) : AB Try.prog 44 [.e (.agg [.pure (.sl (p0.fBase.map Ag)), .pure (.sl (p0.fNext.map Ag)), .pure (.sl (p0.fHeld.map A3))]), .e (.agg [.pure (.sl (p1.fBase.map Ag)), .pure (.sl (p1.fNext.map Ag)), .pure (.sl (p1.fHeld.map A3))])] [] (.e (.one (.pure (.val (.int .i64 r))))) := by
 unfold Dx at h
 refine Aq (n := 30) (rs := [.tmp 4]) Try.func44 rfl rfl rfl (BM rfl) (BM rfl) rfl fun w0 S0 => ?_
 refine Ab (Aa Ad rfl (qb rfl (qb rfl (qa rfl (Ac (Ab (Ab (Aa Ad rfl (qf Cy rfl (ql A9 rfl (qf Cy rfl (ql A9 rfl ?_))))))))))))
 obtain ⟨v1, a1, h⟩ := bind_some h
 refine AK [] (F4 N p0.fBase p1.fBase v1 a1) Vl rfl (qa rfl (Ac (Ab (Aa Ad rfl (qm rfl (CD rfl (Ac ?_)))))))
 refine As rfl (fun c2 => ?_) (fun c2 => ?_)
 ·have h := Ao c2 h
  refine Ab (Aa Ad rfl (qm rfl (qa rfl (Ac ?_))))
  obtain rfl := sj h
  refine Al (sm [] [(4, .e (.one (.pure (.val (.int .i64 v1)))))] [] rfl rfl) (AC ?_)
  exact ⟨⟨[_], ⟨.tmp _ _ rfl, trivial⟩, rfl⟩, trivial⟩
 ·have h := Ap c2 h
  refine Au (Ab (Ab (Aa Ad rfl (qf By rfl (ql A9 rfl (qf By rfl (ql A9 rfl ?_)))))))
  obtain ⟨v3, a3, h⟩ := bind_some h
  refine AK [] (F4 N p0.fNext p1.fNext v3 a3) Vl rfl (qa rfl (Ac (Ab (Aa Ad rfl (qm rfl (CD rfl (Ac ?_)))))))
  refine As rfl (fun c4 => ?_) (fun c4 => ?_)
  ·have h := Ao c4 h
   refine Ab (Aa Ad rfl (qm rfl (qa rfl (Ac ?_))))
   obtain rfl := sj h
   refine Al (sm [] [(4, .e (.one (.pure (.val (.int .i64 v3)))))] [] rfl rfl) (AC ?_)
   exact ⟨⟨[_], ⟨.tmp _ _ rfl, trivial⟩, rfl⟩, trivial⟩
  ·have h := Ap c4 h
   refine Au (Ab (Aa Ad rfl (qf Cz rfl (ql Gd rfl ?_))))
   obtain ⟨v5, a5, h⟩ := bind_some h
   refine AK [2001] (Gz N p0.fHeld v5 a5) Wr rfl (qf Cz rfl (ql Gd rfl ?_))
   obtain ⟨v6, a6, h⟩ := bind_some h
   refine AK [2002] (Gz N p1.fHeld v6 a6) Wr rfl ?_
   obtain ⟨v7, a7, h⟩ := bind_some h
   refine Ed [] [2001, 2002] (F4 N v5 v6 v7 a7) Vl CO rfl (qa rfl (A0 (by kernel_rfl) ?_))
   obtain rfl := sj h
   refine Al (sm [] [(4, .e (.one (.pure (.val (.int .i64 v7)))))] [] rfl rfl) (AC ?_)
   exact ⟨⟨[_], ⟨.tmp _ _ rfl, trivial⟩, rfl⟩, trivial⟩
set_option maxRecDepth 10000 in
theorem JU (N : Nat) (p0 : Ah) (p1 : Ah) (r : Bool) (h : D6 N p0 p1 = some r) : AB Try.prog 21 [.e (.agg [.pure (.sl (p0.fBase.map Ag)), .pure (.sl (p0.fNext.map Ag)), .pure (.sl (p0.fHeld.map A3))]), .e (.agg [.pure (.sl (p1.fBase.map Ag)), .pure (.sl (p1.fNext.map Ag)), .pure (.sl (p1.fHeld.map A3))])] [] (.e (.one (.pure (.val (.bool r))))) := by
 unfold D6 at h
 refine Aq (n := 9) (rs := [.tmp 4]) Try.func21 rfl rfl rfl (BM rfl) (BM rfl) rfl fun w0 S0 => ?_
 refine Ab (Aa Ad rfl (qb rfl (qb rfl (qa rfl (Ac (Ab (Aa Ad rfl (qL Bq AT rfl (qL Bq AT rfl ?_)))))))))
 obtain ⟨v1, a1, h⟩ := bind_some h
 refine AK [] (IY N p0 p1 v1 a1) XQ rfl (B4 rfl (qa rfl (Ac ?_)))
 obtain rfl := sj h
 refine Al (sm [] [(4, .e (.one (.pure (.val (.bool ((v1 == 0)))))))] [] rfl rfl) (AC ?_)
 exact ⟨⟨[_], ⟨.tmp _ _ rfl, trivial⟩, rfl⟩, trivial⟩
set_option maxRecDepth 10000 in
theorem Kn (N : Nat) (p0 : List AA) (p1 : Ah) (r : Int) (h : DF N p0 p1 = some r) : AB Try.prog 53 [.e (.one (.pure (.sl (p0.map Bx)))), .e (.agg [.pure (.sl (p1.fBase.map Ag)), .pure (.sl (p1.fNext.map Ag)), .pure (.sl (p1.fHeld.map A3))])] [] (.e (.one (.pure (.val (.int .i64 r))))) := by
 unfold DF at h
 refine Aq (n := 20) (rs := [.tmp 4]) Try.func53 rfl rfl rfl (BM rfl) (BM rfl) rfl fun w0 S0 => ?_
 refine Ab (Aa Ad rfl (qb rfl (qa rfl (Ac (Ab (Ab (Aa Ad rfl (qa rfl (Ac ?_)))))))))
 refine AR (L := Cg N p0 p1) h (fun v1 => mk [(0, .e (.one (.pure (.sl (p0.map Bx))))), (3, .e (.one (.ptr 3 0))), (5, .e (.one (.pure (.val (.int .i64 v1)))))] [(3, .box [.pure (.sl (p1.fBase.map Ag)), .pure (.sl (p1.fNext.map Ag)), .pure (.sl (p1.fHeld.map A3))])]) (fun v2 => mk [] []) (fun _ _ => rfl) (sm [] _ _ rfl rfl) (fun j1 n1 v1 h => ?_) (fun v2 s h hs => ?_)
 ·unfold Cg at h
  refine Ab (Ab (Aa Ad rfl (qm rfl (qm rfl (AS HI rfl (A8 rfl (Ac ?_)))))))
  refine As rfl (fun c3 => ?_) (fun c3 => ?_)
  ·have h := Ao c3 h
   refine Au (Ab (AU (Ab (Aa Ad rfl (qm rfl (qm rfl ?_))))))
   obtain ⟨v4, a4, b4, h⟩ := Am h
   refine qi HI Ni a4 (Aj b4) rfl (qg L5 rfl (qK Bq AT rfl (qL Bq AT rfl ?_)))
   obtain ⟨v5, a5, h⟩ := bind_some h
   refine AK [] (JU N ((Ah.mk v4.fMix.fBase v4.fMix.fNext v4.fMix.fHeld)) p1 v5 a5) XJ rfl (A0 (by kernel_rfl) ?_)
   refine As rfl (fun c6 => ?_) (fun c6 => ?_)
   ·have h := Ao c6 h
    refine Ab (Aa Ad rfl (qm rfl (qa rfl (Ac ?_))))
    obtain rfl := sj h
    refine Al (sm [] [(4, .e (.one (.pure (.val (.int .i64 v1)))))] [] rfl rfl) (AC ?_)
    exact ⟨⟨[_], ⟨.tmp _ _ rfl, trivial⟩, rfl⟩, trivial⟩
   ·have h := Ap c6 h
    refine Au (Aa Ad rfl (qm rfl (Bp rfl (qa rfl (Ac ?_)))))
    exact Aw _ h (sm [] _ _ rfl rfl)
  ·have h := Ap c3 h
   refine A5 ?_
   exact Aw _ h (sm [] _ _ rfl rfl)
 ·refine Al hs (Ab (Aa Ad rfl (qa rfl (Ac ?_))))
  obtain rfl := sj h
  refine Al (sm [] [(4, .e (.one (.pure (.val (.int .i64 ((-1)))))))] [] rfl rfl) (AC ?_)
  exact ⟨⟨[_], ⟨.tmp _ _ rfl, trivial⟩, rfl⟩, trivial⟩
end Go.Lift

/- That the code does what the shallow programs do, function by function. Written by a program (gen.py). -/
namespace Go.Lift
open Go.RowKit
open Go.Proofs
set_option maxRecDepth 10000 in
theorem Hd (N : Nat) (p0 : Ae) (p1 : Ah) (p2 : Int) (r : (List AA) × Bool) (h : Cs N p0 p1 p2 = some r) : AB Try.prog 26 [.e (.agg [.pure (.sl (p0.fVersions.map Ag)), .pure (.sl (p0.fNow.map Ag)), .pure (.sl (p0.fTarget.map Ag)), .pure (.sl (p0.fTables.map Ai))]), .e (.agg [.pure (.sl (p1.fBase.map Ag)), .pure (.sl (p1.fNext.map Ag)), .pure (.sl (p1.fHeld.map A3))]), .e (.one (.pure (.val (.int .i64 p2))))] [(7, r.1.map Bx)] (.tup [.one (.own 0), .one (.pure (.val (.bool r.2)))]) := by
 unfold Cs at h
 refine Aq (n := 74) (rs := [.tmp 6, .tmp 7]) Try.func26 rfl rfl rfl (BM rfl) (BM rfl) rfl fun w0 S0 => ?_
 refine Ab (Aa Ad rfl (qb rfl (qb rfl (qa rfl (qa rfl (Ac (Ab (Aa Ad rfl (qL Bq AT rfl (A7 R8 V5 rfl (En HI Ni R8 rfl (qa rfl (Ac (Ab (Ab (Aa Ad rfl (qa rfl (Ac ?_))))))))))))))))))
 refine AR (L := BK N p0 p2) h (fun v1 => mk [(2, .e (.one (.pure (.val (.int .i64 p2))))), (3, .e (.one (.ptr 3 0))), (8, .e (.one (.own 2001))), (9, .e (.one (.pure (.val (.int .i64 v1.2)))))] [(3, .box [.pure (.sl (p0.fVersions.map Ag)), .pure (.sl (p0.fNow.map Ag)), .pure (.sl (p0.fTarget.map Ag)), .pure (.sl (p0.fTables.map Ai))]), (2001, .vec 7 (v1.1.map Bx))]) (fun v2 => mk [(8, .e (.one (.own 2002)))] [(2002, .vec 7 (v2.map Bx))]) (fun _ _ => rfl) (sm [(2001, 16)] _ _ rfl rfl) (fun j1 n1 v1 h => ?_) (fun v2 s h hs => ?_)
 ·unfold BK at h
  refine Ab (Ab (Aa Ad rfl (qm rfl (qm rfl (Fx HI rfl (A8 rfl (Ac ?_)))))))
  refine As rfl (fun c3 => ?_) (fun c3 => ?_)
  ·have h := Ao c3 h
   refine Au (Ab (AU (Ab (Aa Ad rfl (qL DM Dw rfl (qm rfl (qm rfl ?_)))))))
   obtain ⟨v4, a4, b4, h⟩ := Am h
   refine qI HI Ni a4 (Aj b4) rfl (qh L5 rfl ?_)
   refine Mk (.p rfl) rfl Bq AT rfl (Aj b4) rfl rfl (by decide) ?_
   obtain ⟨v5, a5, h⟩ := bind_some h
   refine AK [2003] (JQ N p0 ((Ah.mk v4.fMix.fBase v4.fMix.fNext v4.fMix.fHeld)) v5 a5) Xj rfl (qa rfl (A0 (by kernel_rfl) (Ab (Aa Ad rfl (qa rfl (Ac ?_))))))
   refine AR (L := BL N p0 p2 v1 v5) h (fun v6 => mk [(2, .e (.one (.pure (.val (.int .i64 p2))))), (3, .e (.one (.ptr 3 0))), (8, .e (.one (.own 2004))), (9, .e (.one (.pure (.val (.int .i64 v1.2))))), (10, .e (.one (.own 2005))), (11, .e (.one (.pure (.val (.int .i64 v6.2)))))] [(3, .box [.pure (.sl (p0.fVersions.map Ag)), .pure (.sl (p0.fNow.map Ag)), .pure (.sl (p0.fTarget.map Ag)), .pure (.sl (p0.fTables.map Ai))]), (2004, .vec 7 (v6.1.map Bx)), (2005, .vec 3 (v5.map Ay))]) (fun v7 => mk [(2, .e (.one (.pure (.val (.int .i64 p2))))), (3, .e (.one (.ptr 3 0))), (8, .e (.one (.own 2006))), (9, .e (.one (.pure (.val (.int .i64 v1.2)))))] [(3, .box [.pure (.sl (p0.fVersions.map Ag)), .pure (.sl (p0.fNow.map Ag)), .pure (.sl (p0.fTarget.map Ag)), .pure (.sl (p0.fTables.map Ai))]), (2006, .vec 7 (v7.map Bx))]) (fun _ _ => rfl) (sm [(2004, 2001), (2005, 2003)] _ _ rfl rfl) (fun j6 n6 v6 h => ?_) (fun v7 s h hs => ?_)
   ·unfold BL at h
    refine Ab (Ab (Aa Ad rfl (qm rfl (qm rfl (Fx CU rfl (A8 rfl (Ac ?_)))))))
    refine As rfl (fun c8 => ?_) (fun c8 => ?_)
    ·have h := Ao c8 h
     refine Au (Ab (AU (Ab (Aa Ad rfl (qL DM Dw rfl (qm rfl (qm rfl ?_)))))))
     obtain ⟨v9, a9, b9, h⟩ := Am h
     refine qI HI Ni a9 (Aj b9) rfl (qh L5 rfl ?_)
     refine Mk (.p rfl) rfl Bq AT rfl (Aj b9) rfl rfl (by decide) ?_
     refine qm rfl (qm rfl ?_)
     obtain ⟨v10, a10, b10, h⟩ := Am h
     refine qI CU Dj a10 (Aj b10) rfl (qJ GB Dj (Aj b10) rfl ?_)
     obtain ⟨v11, a11, h⟩ := bind_some h
     refine AK [2007, 2008, 2009] (Ha N p0 ((Ah.mk v9.fMix.fBase v9.fMix.fNext v9.fMix.fHeld)) v10 v11 a11) WS rfl (qm rfl (qx rfl (qx rfl (qz Di rfl (qs AT rfl (qa rfl (A0 (by kernel_rfl) ?_)))))))
     refine AW h (fun v12 => mk [(2, .e (.one (.pure (.val (.int .i64 p2))))), (3, .e (.one (.ptr 3 0))), (8, .e (.one (.own 2010))), (9, .e (.one (.pure (.val (.int .i64 v1.2))))), (10, .e (.one (.own 2011))), (11, .e (.one (.pure (.val (.int .i64 v6.2)))))] [(3, .box [.pure (.sl (p0.fVersions.map Ag)), .pure (.sl (p0.fNow.map Ag)), .pure (.sl (p0.fTarget.map Ag)), .pure (.sl (p0.fTables.map Ai))]), (2010, .vec 7 (v12.map Bx)), (2011, .vec 3 (v5.map Ay))]) (fun j12 h => ?_) (fun v12 h => ?_)
     ·refine AW h (fun v13 => mk [(2, .e (.one (.pure (.val (.int .i64 p2))))), (3, .e (.one (.ptr 3 0))), (8, .e (.one (.own 2015))), (9, .e (.one (.pure (.val (.int .i64 v1.2))))), (10, .e (.one (.own 2016))), (11, .e (.one (.pure (.val (.int .i64 v6.2))))), (12, .e (.one (.ptr 12 0))), (58, .e (.one (.pure (.val (.bool v13)))))] [(3, .box [.pure (.sl (p0.fVersions.map Ag)), .pure (.sl (p0.fNow.map Ag)), .pure (.sl (p0.fTarget.map Ag)), .pure (.sl (p0.fTables.map Ai))]), (12, .box [.own 2012, .own 2013, .own 2014]), (2012, .vec 1 (v11.1.fBase.map Ag)), (2013, .vec 1 (v11.1.fNext.map Ag)), (2014, .vec 1 (v11.1.fHeld.map A3)), (2015, .vec 7 (v6.1.map Bx)), (2016, .vec 3 (v5.map Ay))]) (fun j13 h => ?_) (fun v13 h => ?_)
      ·refine Aa Ad rfl (qL DM Dw rfl (qL Bq AT rfl ?_))
       obtain ⟨v14, a14, h⟩ := bind_some h
       refine Ed [] [2007, 2008, 2009] (E9 N p0 v11.1 v14 a14) Vv CO rfl (qm rfl ?_)
       refine AI (t := 53) rfl (fun c15 => ?_) (fun c15 => ?_)
       ·have h := Ao c15 h
        refine qm rfl (qL Bq AT rfl ?_)
        obtain ⟨v16, a16, h⟩ := bind_some h
        refine Ed [] [2004, 2007, 2008, 2009] (Kn N v6.1 v11.1 v16 a16) XI CO rfl (A8 rfl (qp rfl (Ac ?_)))
        exact Aw _ h (sm [(2012, 2007), (2013, 2008), (2014, 2009), (2015, 2004), (2016, 2005)] _ _ rfl rfl)
       ·have h := Ap c15 h
        refine qn rfl (qn rfl (qn rfl (qn rfl (qp rfl (Ac ?_)))))
        exact Aw _ h (sm [(2012, 2007), (2013, 2008), (2014, 2009), (2015, 2004), (2016, 2005)] _ _ rfl rfl)
      ·refine As rfl (fun c17 => ?_) (fun c17 => ?_)
       ·have h := Ao c17 h
        refine Al (Ba 2012 _ _ rfl rfl) (Al (Ba 2013 _ _ rfl rfl) (Al (Ba 2014 _ _ rfl rfl) (Aa Ad rfl (qm rfl (qL Bq AT rfl (qm rfl (qm rfl (qm rfl ?_))))))))
        obtain ⟨v18, a18, b18, h⟩ := Am h
        refine qI CU Dj a18 (Aj b18) rfl (qJ GB Dj (Aj b18) rfl (A7 R8 V5 rfl (En HI Ni R8 rfl ?_)))
        obtain ⟨c19, h⟩ := AN h
        refine Dy (f := Bx) HI HI Ni WE R8 c19 rfl (qa rfl (A0 (by kernel_rfl) ?_))
        exact Aw _ h (sm [(2010, 68), (2011, 2016)] _ _ rfl rfl)
       ·have h := Ap c17 h
        refine Au ?_
        exact Aw _ h (sm [(2010, 2015), (2011, 2016)] _ _ rfl rfl)
     ·refine Ab (Aa Ad rfl (qm rfl (Fx HI rfl (qm rfl (FT rfl (Ac ?_))))))
      refine As rfl (fun c20 => ?_) (fun c20 => ?_)
      ·have h := Ao c20 h
       refine Ab (Aa Ad rfl (qa rfl (qa rfl (Ac ?_))))
       obtain rfl := sj h
       refine Al ((BF 6 2017 7 rfl rfl rfl).trans (sm [(1000, 2017)] [(6, .e (.one (.own 1000))), (7, .e (.one (.pure (.val (.bool false)))))] [(1000, .vec 7 ((([] : List AA)).map Bx))] rfl rfl)) (AC ?_)
       exact ⟨⟨[_, _], ⟨.tmp _ _ rfl, ⟨.tmp _ _ rfl, trivial⟩⟩, rfl⟩, ⟨rfl, trivial⟩⟩
      ·have h := Ap c20 h
       refine Au (Aa Ad rfl (qm rfl (Bp rfl (qa rfl (Ac ?_)))))
       exact Aw _ h (sm [(2004, 2010), (2005, 2011)] _ _ rfl rfl)
    ·have h := Ap c8 h
     refine A5 ?_
     exact Aw _ h (sm [(2006, 2004)] _ _ rfl rfl)
   ·refine Al hs (Aa Ad rfl (qm rfl (Bp rfl (qa rfl (Ac ?_)))))
    exact Aw _ h (sm [(2001, 2006)] _ _ rfl rfl)
  ·have h := Ap c3 h
   refine A5 ?_
   exact Aw _ h (sm [(2002, 2001)] _ _ rfl rfl)
 ·refine Al hs (Ab (Aa Ad rfl (qm rfl (qa rfl (qa rfl (Ac ?_))))))
  obtain rfl := sj h
  refine Al (sm [(1000, 2002)] [(6, .e (.one (.own 1000))), (7, .e (.one (.pure (.val (.bool true)))))] [(1000, .vec 7 (v2.map Bx))] rfl rfl) (AC ?_)
  exact ⟨⟨[_, _], ⟨.tmp _ _ rfl, ⟨.tmp _ _ rfl, trivial⟩⟩, rfl⟩, ⟨rfl, trivial⟩⟩
set_option maxRecDepth 10000 in
theorem Km (N : Nat) (p0 : Ae) (p1 : Ah) (r : Bool) (h : Ek N p0 p1 = some r) : AB Try.prog 43 [.e (.agg [.pure (.sl (p0.fVersions.map Ag)), .pure (.sl (p0.fNow.map Ag)), .pure (.sl (p0.fTarget.map Ag)), .pure (.sl (p0.fTables.map Ai))]), .e (.agg [.pure (.sl (p1.fBase.map Ag)), .pure (.sl (p1.fNext.map Ag)), .pure (.sl (p1.fHeld.map A3))])] [] (.e (.one (.pure (.val (.bool r))))) := by
 unfold Ek at h
 refine Aq (n := 36) (rs := [.tmp 4]) Try.func43 rfl rfl rfl (BM rfl) (BM rfl) rfl fun w0 S0 => ?_
 refine Ab (Aa Ad rfl (qb rfl (qb rfl (qa rfl (Ac (Ab (Ab (Aa Ad rfl (qL DM Dw rfl (qL Bq AT rfl ?_))))))))))
 obtain ⟨v1, a1, h⟩ := bind_some h
 refine AK [] (EP N p0 p1 v1 a1) TO rfl (CD rfl (Ac ?_))
 refine As rfl (fun c2 => ?_) (fun c2 => ?_)
 ·have h := Ao c2 h
  refine Ab (Aa Ad rfl (qa rfl (Ac ?_)))
  obtain rfl := sj h
  refine Al (sm [] [(4, .e (.one (.pure (.val (.bool false)))))] [] rfl rfl) (AC ?_)
  exact ⟨⟨[_], ⟨.tmp _ _ rfl, trivial⟩, rfl⟩, trivial⟩
 ·have h := Ap c2 h
  refine Au (Ab (Ab (Aa Ad rfl (qa rfl (Ac ?_)))))
  refine AR (L := CA N p0 p1) h (fun v3 => mk [(2, .e (.one (.ptr 2 0))), (3, .e (.one (.ptr 3 0))), (5, .e (.one (.pure (.val (.int .i64 v3)))))] [(2, .box [.pure (.sl (p0.fVersions.map Ag)), .pure (.sl (p0.fNow.map Ag)), .pure (.sl (p0.fTarget.map Ag)), .pure (.sl (p0.fTables.map Ai))]), (3, .box [.pure (.sl (p1.fBase.map Ag)), .pure (.sl (p1.fNext.map Ag)), .pure (.sl (p1.fHeld.map A3))])]) (fun v4 => mk [] []) (fun _ _ => rfl) (sm [] _ _ rfl rfl) (fun j3 n3 v3 h => ?_) (fun v4 s h hs => ?_)
  ·unfold CA at h
   refine Ab (Ab (Aa Ad rfl (qm rfl (qf Cy rfl (ql A9 rfl (AS AE rfl (A8 rfl (Ac ?_))))))))
   refine As rfl (fun c5 => ?_) (fun c5 => ?_)
   ·have h := Ao c5 h
    refine Au (Ab (AU ?_))
    refine AW h (fun v6 => mk [(2, .e (.one (.ptr 2 0))), (3, .e (.one (.ptr 3 0))), (5, .e (.one (.pure (.val (.int .i64 v3))))), (35, .e (.one (.pure (.val (.bool v6)))))] [(2, .box [.pure (.sl (p0.fVersions.map Ag)), .pure (.sl (p0.fNow.map Ag)), .pure (.sl (p0.fTarget.map Ag)), .pure (.sl (p0.fTables.map Ai))]), (3, .box [.pure (.sl (p1.fBase.map Ag)), .pure (.sl (p1.fNext.map Ag)), .pure (.sl (p1.fHeld.map A3))])]) (fun j6 h => ?_) (fun v6 h => ?_)
    ·refine Aa Ad rfl (qf By rfl (ql A9 rfl (qm rfl ?_)))
     obtain ⟨v7, a7, b7, h⟩ := Am h
     refine qi AE C7 a7 (Aj b7) rfl (qk B7 rfl (Ey rfl (qm rfl ?_)))
     refine AI (t := 23) rfl (fun c8 => ?_) (fun c8 => ?_)
     ·have h := Ao c8 h
      refine qn rfl (qn rfl (qn rfl (qn rfl (qn rfl (qn rfl (qn rfl (qn rfl (qn rfl (qn rfl (qn rfl (qp rfl (A0 (by kernel_rfl) ?_))))))))))))
      exact Aw _ h (sm [] _ _ rfl rfl)
     ·have h := Ap c8 h
      refine qf Cy rfl (ql A9 rfl (qm rfl ?_))
      obtain ⟨v9, a9, b9, h⟩ := Am h
      refine qi AE C7 a9 (Aj b9) rfl (qk B7 rfl (qf Hf rfl (ql A9 rfl (qm rfl ?_))))
      obtain ⟨v10, a10, b10, h⟩ := Am h
      refine qi AE C7 a10 (Aj b10) rfl (qk B7 rfl (CD rfl (qp rfl (A0 (by kernel_rfl) ?_))))
      exact Aw _ h (sm [] _ _ rfl rfl)
    ·refine As rfl (fun c11 => ?_) (fun c11 => ?_)
     ·have h := Ao c11 h
      refine Ab (Aa Ad rfl (qa rfl (Ac ?_)))
      obtain rfl := sj h
      refine Al (sm [] [(4, .e (.one (.pure (.val (.bool false)))))] [] rfl rfl) (AC ?_)
      exact ⟨⟨[_], ⟨.tmp _ _ rfl, trivial⟩, rfl⟩, trivial⟩
     ·have h := Ap c11 h
      refine Au (Aa Ad rfl (qm rfl (Bp rfl (qa rfl (Ac ?_)))))
      exact Aw _ h (sm [] _ _ rfl rfl)
   ·have h := Ap c5 h
    refine A5 ?_
    exact Aw _ h (sm [] _ _ rfl rfl)
  ·refine Al hs (Ab (Aa Ad rfl (qa rfl (Ac ?_))))
   obtain rfl := sj h
   refine Al (sm [] [(4, .e (.one (.pure (.val (.bool true)))))] [] rfl rfl) (AC ?_)
   exact ⟨⟨[_], ⟨.tmp _ _ rfl, trivial⟩, rfl⟩, trivial⟩
set_option maxRecDepth 10000 in
theorem K3 (N : Nat) (p0 : List AA) (p1 : Int) (r : (List Af)) (h : E7 N p0 p1 = some r) : AB Try.prog 59 [.e (.one (.pure (.sl (p0.map Bx)))), .e (.one (.pure (.val (.int .i64 p1))))] [(3, r.map Ay)] (.e (.one (.own 0))) := by
 unfold E7 at h
 refine Aq (n := 26) (rs := [.tmp 4]) Try.func59 rfl rfl rfl (BM rfl) (BM rfl) rfl fun w0 S0 => ?_
 refine Ab (Aa Ad rfl (qa rfl (Ac (Ab (Aa Ad rfl (qa rfl (Ac (Ab ?_))))))))
 refine AR (L := C8 N p0) h (fun v1 => mk [(0, .e (.one (.pure (.sl (p0.map Bx))))), (1, .e (.one (.pure (.val (.int .i64 v1.1))))), (5, .e (.one (.own 2001)))] [(2001, .vec 3 (v1.2.map Ay))]) (fun v2 => mk [(5, .e (.one (.own 2002)))] [(2002, .vec 3 (v2.map Ay))]) (fun _ _ => rfl) ((BF 5 2003 3 rfl rfl rfl).trans (sm [(2001, 2003)] _ _ rfl rfl)) (fun j1 n1 v1 h => ?_) (fun v2 s h hs => ?_)
 ·unfold C8 at h
  refine Ab (Ab (Aa Ad rfl (qm rfl (qm rfl ?_))))
  obtain ⟨v3, a3, b3, h⟩ := Am h
  refine qi HI Ni a3 (Aj b3) rfl (qg Rl rfl (qk B7 rfl (Ey rfl (Ac ?_))))
  refine As rfl (fun c4 => ?_) (fun c4 => ?_)
  ·have h := Ao c4 h
   refine Au (AU (Ab (Aa Ad rfl (qm rfl (qm rfl ?_)))))
   obtain ⟨v5, a5, b5, h⟩ := Am h
   refine qi HI Ni a5 (Aj b5) rfl (qg TS rfl (qK GB Dj rfl (En CU Dj Gx rfl (qm rfl ?_))))
   obtain ⟨c6, h⟩ := AN h
   refine Dy (f := Ay) CU CU Dj N4 Gx c6 rfl (qa rfl (Ac (Aa Ad rfl (qm rfl (qm rfl ?_)))))
   obtain ⟨v7, a7, b7, h⟩ := Am h
   refine qi HI Ni a7 (Aj b7) rfl (qg Rl rfl (qk B7 rfl (qa rfl (Ac ?_))))
   exact Aw _ h (sm [(2001, 19)] _ _ rfl rfl)
  ·have h := Ap c4 h
   refine A5 ?_
   exact Aw _ h (sm [(2002, 2001)] _ _ rfl rfl)
 ·refine Al hs (Ab (Aa Ad rfl (qm rfl (qa rfl (Ac ?_)))))
  obtain rfl := sj h
  refine Al (sm [(1000, 2002)] [(4, .e (.one (.own 1000)))] [(1000, .vec 3 (v2.map Ay))] rfl rfl) (AC ?_)
  exact ⟨⟨[_], ⟨.tmp _ _ rfl, trivial⟩, rfl⟩, ⟨rfl, trivial⟩⟩
set_option maxRecDepth 10000 in
theorem Ka (N : Nat) (p0 : Ae) (p1 : Ah) (r : (List Af) × Int) (h : CG N p0 p1 = some r) : AB Try.prog 28 [.e (.agg [.pure (.sl (p0.fVersions.map Ag)), .pure (.sl (p0.fNow.map Ag)), .pure (.sl (p0.fTarget.map Ag)), .pure (.sl (p0.fTables.map Ai))]), .e (.agg [.pure (.sl (p1.fBase.map Ag)), .pure (.sl (p1.fNext.map Ag)), .pure (.sl (p1.fHeld.map A3))])] [(3, r.1.map Ay)] (.tup [.one (.own 0), .one (.pure (.val (.int .i64 r.2)))]) := by
 unfold CG at h
 refine Aq (n := 44) (rs := [.tmp 4, .tmp 5]) Try.func28 rfl rfl rfl (BM rfl) (BM rfl) rfl fun w0 S0 => ?_
 refine Ab (Aa Ad rfl (qb rfl (qb rfl (qa rfl (qa rfl (Ac (Ab (Ab (Aa Ad rfl (qL DM Dw rfl (qL Bq AT rfl ?_)))))))))))
 obtain ⟨v1, a1, h⟩ := bind_some h
 refine AK [] (EP N p0 p1 v1 a1) TO rfl (qa rfl (Ac (Ab (Aa Ad rfl (qm rfl (CD rfl (Ac ?_)))))))
 refine As rfl (fun c2 => ?_) (fun c2 => ?_)
 ·have h := Ao c2 h
  refine Ab (Aa Ad rfl (qm rfl (qa rfl (qa rfl (Ac ?_)))))
  obtain rfl := sj h
  refine Al ((BF 4 2001 3 rfl rfl rfl).trans (sm [(1000, 2001)] [(4, .e (.one (.own 1000))), (5, .e (.one (.pure (.val (.int .i64 v1)))))] [(1000, .vec 3 ((([] : List Af)).map Ay))] rfl rfl)) (AC ?_)
  exact ⟨⟨[_, _], ⟨.tmp _ _ rfl, ⟨.tmp _ _ rfl, trivial⟩⟩, rfl⟩, ⟨rfl, trivial⟩⟩
 ·have h := Ap c2 h
  refine Au (Ab (Ab (Aa Ad rfl (qL DM Dw rfl (qL Bq AT rfl ?_)))))
  obtain ⟨v3, a3, h⟩ := bind_some h
  refine AK [] (E9 N p0 p1 v3 a3) Vv rfl (CE rfl (Ac ?_))
  refine As rfl (fun c4 => ?_) (fun c4 => ?_)
  ·have h := Ao c4 h
   refine Ab (Aa Ad rfl (qa rfl (qa rfl (Ac ?_))))
   obtain rfl := sj h
   refine Al ((BF 4 2002 3 rfl rfl rfl).trans (sm [(1000, 2002)] [(4, .e (.one (.own 1000))), (5, .e (.one (.pure (.val (.int .i64 13)))))] [(1000, .vec 3 ((([] : List Af)).map Ay))] rfl rfl)) (AC ?_)
   exact ⟨⟨[_, _], ⟨.tmp _ _ rfl, ⟨.tmp _ _ rfl, trivial⟩⟩, rfl⟩, ⟨rfl, trivial⟩⟩
  ·have h := Ap c4 h
   refine Au (Ab (Aa Ad rfl (qL DM Dw rfl (qL Bq AT rfl ?_))))
   obtain ⟨v5, a5, h⟩ := bind_some h
   refine AK [2003] (Hd N p0 p1 20000 v5 a5) V7 rfl (qm rfl (qx rfl (qx rfl (qa rfl (qa rfl (Ac (Ab (Ab (Aa Ad rfl (qm rfl (CE rfl (Ac ?_))))))))))))
   refine As rfl (fun c6 => ?_) (fun c6 => ?_)
   ·have h := Ao c6 h
    refine Ab (Aa Ad rfl (qa rfl (qa rfl (Ac ?_))))
    obtain rfl := sj h
    refine Al ((BF 4 2004 3 rfl rfl rfl).trans (sm [(1000, 2004)] [(4, .e (.one (.own 1000))), (5, .e (.one (.pure (.val (.int .i64 3)))))] [(1000, .vec 3 ((([] : List Af)).map Ay))] rfl rfl)) (AC ?_)
    exact ⟨⟨[_, _], ⟨.tmp _ _ rfl, ⟨.tmp _ _ rfl, trivial⟩⟩, rfl⟩, ⟨rfl, trivial⟩⟩
   ·have h := Ap c6 h
    refine Au (Ab (Ab (Aa Ad rfl (qa rfl (Ac ?_)))))
    refine AR (L := B9 N p0 v5) h (fun v7 => mk [(2, .e (.one (.ptr 2 0))), (7, .e (.one (.own 2005))), (9, .e (.one (.pure (.val (.int .i64 v7)))))] [(2, .box [.pure (.sl (p0.fVersions.map Ag)), .pure (.sl (p0.fNow.map Ag)), .pure (.sl (p0.fTarget.map Ag)), .pure (.sl (p0.fTables.map Ai))]), (2005, .vec 7 (v5.1.map Bx))]) (fun v8 => mk [] []) (fun _ _ => rfl) (sm [(2005, 2003)] _ _ rfl rfl) (fun j7 n7 v7 h => ?_) (fun v8 s h hs => ?_)
    ·unfold B9 at h
     refine Ab (Ab (Aa Ad rfl (qm rfl (qm rfl (Fx HI rfl (A8 rfl (Ac ?_)))))))
     refine As rfl (fun c9 => ?_) (fun c9 => ?_)
     ·have h := Ao c9 h
      refine Au (Ab (AU (Ab (Aa Ad rfl (qL DM Dw rfl (qm rfl (qm rfl ?_)))))))
      obtain ⟨v10, a10, b10, h⟩ := Am h
      refine qI HI Ni a10 (Aj b10) rfl (qh L5 rfl ?_)
      refine Mk (.p rfl) rfl Bq AT rfl (Aj b10) rfl rfl (by decide) ?_
      obtain ⟨v11, a11, h⟩ := bind_some h
      refine AK [] (Km N p0 ((Ah.mk v10.fMix.fBase v10.fMix.fNext v10.fMix.fHeld)) v11 a11) Xr rfl (A0 (by kernel_rfl) ?_)
      refine As rfl (fun c12 => ?_) (fun c12 => ?_)
      ·have h := Ao c12 h
       refine Ab (Aa Ad rfl (qm rfl (qm rfl ?_)))
       obtain ⟨v13, a13, h⟩ := bind_some h
       refine Ed [2006] [2005] (K3 N v5.1 v7 v13 a13) Xf (E4 (fun _ => rfl) CO) rfl (qa rfl (qa rfl (Ac ?_)))
       obtain rfl := sj h
       refine Al (sm [(1000, 2006)] [(4, .e (.one (.own 1000))), (5, .e (.one (.pure (.val (.int .i64 0)))))] [(1000, .vec 3 (v13.map Ay))] rfl rfl) (AC ?_)
       exact ⟨⟨[_, _], ⟨.tmp _ _ rfl, ⟨.tmp _ _ rfl, trivial⟩⟩, rfl⟩, ⟨rfl, trivial⟩⟩
      ·have h := Ap c12 h
       refine Au (Aa Ad rfl (qm rfl (Bp rfl (qa rfl (Ac ?_)))))
       exact Aw _ h (sm [] _ _ rfl rfl)
     ·have h := Ap c9 h
      refine A5 ?_
      exact Aw _ h (sm [] _ _ rfl rfl)
    ·refine Al hs (Ab (Aa Ad rfl (qa rfl (qa rfl (Ac ?_)))))
     obtain rfl := sj h
     refine Al ((BF 4 2007 3 rfl rfl rfl).trans (sm [(1000, 2007)] [(4, .e (.one (.own 1000))), (5, .e (.one (.pure (.val (.int .i64 14)))))] [(1000, .vec 3 ((([] : List Af)).map Ay))] rfl rfl)) (AC ?_)
     exact ⟨⟨[_, _], ⟨.tmp _ _ rfl, ⟨.tmp _ _ rfl, trivial⟩⟩, rfl⟩, ⟨rfl, trivial⟩⟩
set_option maxRecDepth 10000 in
theorem ID (N : Nat) (p0 : B8) (p1 : BJ) (r : Bool) (h : Dl N p0 p1 = some r) : AB Try.prog 7 [.e (.agg [.pure (.sl (p0.fVersions.map A3)), .pure (.sl (p0.fNow.map A3)), .pure (.sl (p0.fTarget.map A3)), .pure (.sl (p0.fLinks.map B6))]), .e (.agg [.pure (.sl (p1.fBase.map A3)), .pure (.sl (p1.fNext.map A3)), .pure (.sl (p1.fHeld.map A3))])] [] (.e (.one (.pure (.val (.bool r))))) := by
 unfold Dl at h
 refine Aq (n := 66) (rs := [.tmp 4]) Try.func7 rfl rfl rfl (BM rfl) (BM rfl) rfl fun w0 S0 => ?_
 refine Ab (Aa Ad rfl (qb rfl (qb rfl (qa rfl (Ac (Ab (Aa Ad rfl (qL Xh XZ rfl ?_))))))))
 obtain ⟨v1, a1, h⟩ := bind_some h
 refine AK [2001, 2002, 2003, 2004] (Ll N p0 v1 a1) X0 rfl (qm rfl (qx rfl (qx rfl (qz Rz rfl (qs Dw rfl (qa rfl (Ac (Ab ?_))))))))
 refine AW h (fun v2 => mk [(3, .e (.one (.ptr 3 0))), (5, .e (.one (.ptr 5 0))), (24, .e (.one (.pure (.val (.bool v2)))))] [(3, .box [.pure (.sl (p1.fBase.map A3)), .pure (.sl (p1.fNext.map A3)), .pure (.sl (p1.fHeld.map A3))]), (5, .box [.own 2005, .own 2006, .own 2007, .own 2008]), (2005, .vec 1 (v1.1.fVersions.map Ag)), (2006, .vec 1 (v1.1.fNow.map Ag)), (2007, .vec 1 (v1.1.fTarget.map Ag)), (2008, .vec 6 (v1.1.fTables.map Ai))]) (fun j2 h => ?_) (fun v2 h => ?_)
 ·refine Aa Ad rfl ?_
  obtain ⟨v3, a3, h⟩ := bind_some h
  refine AK [] (He N v3 a3) Ws rfl (CE rfl (qm rfl ?_))
  refine AI (t := 21) rfl (fun c4 => ?_) (fun c4 => ?_)
  ·have h := Ao c4 h
   refine qn rfl (qn rfl (qp rfl (Ac ?_)))
   exact Aw _ h (sm [(2005, 2001), (2006, 2002), (2007, 2003), (2008, 2004)] _ _ rfl rfl)
  ·have h := Ap c4 h
   refine qm rfl (CE rfl (qp rfl (Ac ?_)))
   exact Aw _ h (sm [(2005, 2001), (2006, 2002), (2007, 2003), (2008, 2004)] _ _ rfl rfl)
 ·refine As rfl (fun c5 => ?_) (fun c5 => ?_)
  ·have h := Ao c5 h
   refine Ab (Aa Ad rfl ?_)
   obtain ⟨v6, a6, h⟩ := bind_some h
   refine AK [] (He N v6 a6) Ws rfl (qa rfl (Ac ?_))
   obtain rfl := sj h
   refine Al (sm [] [(4, .e (.one (.pure (.val (.bool v6)))))] [] rfl rfl) (AC ?_)
   exact ⟨⟨[_], ⟨.tmp _ _ rfl, trivial⟩, rfl⟩, trivial⟩
  ·have h := Ap c5 h
   refine Au (Ab (Aa Ad rfl (qL DM Dw rfl (qL Xs XY rfl ?_))))
   obtain ⟨v7, a7, h⟩ := bind_some h
   refine Ed [2009, 2010, 2011] [2005, 2006, 2007, 2008] (Ly N v1.1 p1 v7 a7) XE (E4 (fun _ => rfl) (E4 (fun _ => rfl) (E4 (fun _ => rfl) CO))) rfl (qz Di rfl (qs AT rfl (Ac ?_)))
   refine AW h (fun v8 => mk [(5, .e (.one (.ptr 5 0))), (7, .e (.one (.ptr 7 0)))] [(5, .box [.pure (.sl (v8.1.map Ag)), .pure (.sl (v8.2.1.map Ag)), .pure (.sl (v8.2.2.1.map Ag)), .pure (.sl (v8.2.2.2.1.map Ai))]), (7, .box [.pure (.sl (v8.2.2.2.2.1.map Ag)), .pure (.sl (v8.2.2.2.2.2.1.map Ag)), .pure (.sl (v8.2.2.2.2.2.2.map A3))])]) (fun j8 h => ?_) (fun v8 h => ?_)
   ·refine AW h (fun v9 => mk [(5, .e (.one (.ptr 5 0))), (7, .e (.one (.ptr 7 0))), (37, .e (.one (.pure (.val (.bool v9)))))] [(5, .box [.own 2012, .own 2013, .own 2014, .own 2015]), (7, .box [.own 2016, .own 2017, .own 2018]), (2012, .vec 1 (v1.1.fVersions.map Ag)), (2013, .vec 1 (v1.1.fNow.map Ag)), (2014, .vec 1 (v1.1.fTarget.map Ag)), (2015, .vec 6 (v1.1.fTables.map Ai)), (2016, .vec 1 (v7.fBase.map Ag)), (2017, .vec 1 (v7.fNext.map Ag)), (2018, .vec 1 (v7.fHeld.map A3))]) (fun j9 h => ?_) (fun v9 h => ?_)
    ·refine Aa Ad rfl (qL DM Dw rfl (qL Bq AT rfl ?_))
     obtain ⟨v10, a10, h⟩ := bind_some h
     refine Ed [] [2005, 2006, 2007, 2008, 2009, 2010, 2011] (EP N v1.1 v7 v10 a10) TO CO rfl (B4 rfl (qm rfl ?_))
     refine AI (t := 33) rfl (fun c11 => ?_) (fun c11 => ?_)
     ·have h := Ao c11 h
      refine qL DM Dw rfl (qL Bq AT rfl ?_)
      obtain ⟨v12, a12, h⟩ := bind_some h
      refine Ed [] [2005, 2006, 2007, 2008, 2009, 2010, 2011] (E9 N v1.1 v7 v12 a12) Vv CO rfl (qp rfl (Ac ?_))
      exact Aw _ h (sm [(2012, 2005), (2013, 2006), (2014, 2007), (2015, 2008), (2016, 2009), (2017, 2010), (2018, 2011)] _ _ rfl rfl)
     ·have h := Ap c11 h
      refine qn rfl (qn rfl (qn rfl (qp rfl (Ac ?_))))
      exact Aw _ h (sm [(2012, 2005), (2013, 2006), (2014, 2007), (2015, 2008), (2016, 2009), (2017, 2010), (2018, 2011)] _ _ rfl rfl)
    ·refine As rfl (fun c13 => ?_) (fun c13 => ?_)
     ·have h := Ao c13 h
      refine Ab (Aa Ad rfl (qL DM Dw rfl (qL Bq AT rfl (Du (Ba 2012 _ _ rfl rfl) (Du (Ba 2013 _ _ rfl rfl) (Du (Ba 2014 _ _ rfl rfl) (Du (Ba 2015 _ _ rfl rfl) (Du (Ba 2016 _ _ rfl rfl) (Du (Ba 2017 _ _ rfl rfl) (Du (Ba 2018 _ _ rfl rfl) ?_))))))))))
      obtain ⟨v14, a14, h⟩ := bind_some h
      refine AK [2019] (Hd N v1.1 v7 120 v14 a14) V7 rfl (qm rfl (qx rfl (qx rfl (qa rfl (qa rfl (Ac (Ab (Aa Ad rfl (qm rfl (CE rfl (Ac ?_)))))))))))
      refine As rfl (fun c15 => ?_) (fun c15 => ?_)
      ·have h := Ao c15 h
       refine Ab (Aa Ad rfl (qa rfl (Ac ?_)))
       obtain rfl := sj h
       refine Al (sm [] [(4, .e (.one (.pure (.val (.bool true)))))] [] rfl rfl) (AC ?_)
       exact ⟨⟨[_], ⟨.tmp _ _ rfl, trivial⟩, rfl⟩, trivial⟩
      ·have h := Ap c15 h
       refine Au ?_
       exact Aw _ h (sm [] _ _ rfl rfl)
     ·have h := Ap c13 h
      refine Au ?_
      exact Aw _ h ((Ba 2012 _ _ rfl rfl).trans ((Ba 2013 _ _ rfl rfl).trans ((Ba 2014 _ _ rfl rfl).trans ((Ba 2015 _ _ rfl rfl).trans ((Ba 2016 _ _ rfl rfl).trans ((Ba 2017 _ _ rfl rfl).trans ((Ba 2018 _ _ rfl rfl).trans (sm [] _ _ rfl rfl))))))))
   ·refine Ab (Aa Ad rfl (qL DM Dw rfl (qL Bq AT rfl ?_)))
    obtain ⟨v16, a16, h⟩ := bind_some h
    refine AK [2020] (LP N ((Ae.mk v8.1 v8.2.1 v8.2.2.1 v8.2.2.2.1)) ((Ah.mk v8.2.2.2.2.1 v8.2.2.2.2.2.1 v8.2.2.2.2.2.2)) v16 a16) WW rfl (qm rfl (qx rfl (qx rfl (qa rfl (qa rfl (Ac (Ab (Aa Ad rfl (qL DM Dw rfl (qL Bq AT rfl ?_))))))))))
    obtain ⟨v17, a17, h⟩ := bind_some h
    refine AK [2021] (Ka N ((Ae.mk v8.1 v8.2.1 v8.2.2.1 v8.2.2.2.1)) ((Ah.mk v8.2.2.2.2.1 v8.2.2.2.2.2.1 v8.2.2.2.2.2.2)) v17 a17) XD rfl (qm rfl (qx rfl (qx rfl (qa rfl (qa rfl (Ac ?_))))))
    refine AW h (fun v18 => mk [(4, .e (.one (.pure (.val (.bool v18)))))] []) (fun j18 h => ?_) (fun v18 h => ?_)
    ·refine Aa Ad rfl (qm rfl (qm rfl (B4 rfl (qm rfl ?_))))
     refine AI (t := 61) rfl (fun c19 => ?_) (fun c19 => ?_)
     ·have h := Ao c19 h
      refine qm rfl (qm rfl ?_)
      obtain ⟨v20, a20, h⟩ := bind_some h
      refine Ed [] [2020, 2021] (HB N v16.1 v17.1 v20 a20) Wj CO rfl (qp rfl (qa rfl (Ac ?_)))
      exact Aw _ h (sm [] _ _ rfl rfl)
     ·have h := Ap c19 h
      refine qn rfl (qn rfl (qn rfl (qp rfl (qa rfl (Ac ?_)))))
      exact Aw _ h (sm [] _ _ rfl rfl)
    ·obtain rfl := sj h
     refine Al (sm [] [(4, .e (.one (.pure (.val (.bool v18)))))] [] rfl rfl) (AC ?_)
     exact ⟨⟨[_], ⟨.tmp _ _ rfl, trivial⟩, rfl⟩, trivial⟩
end Go.Lift

