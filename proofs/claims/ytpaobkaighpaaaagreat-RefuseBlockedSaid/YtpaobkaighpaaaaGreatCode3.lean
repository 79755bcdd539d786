/- Lemmas for RefuseBlockedSaid, which YtpaobkaighpaaaaGreatFinR4 proves. -/
import Derived.Test.YtpaobkaighpaaaaGreatCode1
/- That the code does what the shallow programs do, function by function. Written by a program (gen.py). -/
namespace Go.Lift
open Go.RowKit
open Go.Proofs
set_option maxRecDepth 10000 in
theorem Sg (N : Nat) (p0 : Ak) (r : (List Av)) (h : Jc N p0 = some r) : AB Tryz.prog 95 [.e (.agg [.pure (.sl (p0.fVersions.map Al)), .pure (.sl (p0.fNow.map Al)), .pure (.sl (p0.fTarget.map Al)), .pure (.sl (p0.fTables.map Ar))])] [(3, r.map A0)] (.e (.one (.own 0))) := by
 unfold Jc at h
 refine As (n := 54) (rs := [.tmp 2]) Tryz.func95 rfl rfl rfl (A3 rfl) (A3 rfl) rfl fun w0 S0 => ?_
 refine Ab (Aa Ac rfl (qb rfl (qa rfl (Ae (Ab (Aa Ac rfl (qa rfl (Ae (Ab (Ab (Aa Ac rfl (qf BF rfl (ql Bo rfl (AU AJ rfl (qm rfl (Ae ?_))))))))))))))))
 refine AC (L := D8 N p0) h (fun v1 => mk [(1, .e (.one (.ptr 1 0))), (3, .e (.one (.own 2001))), (10, .e (.one (.pure (.sl (p0.fVersions.map Al))))), (11, .e (.one (.pure (.val (.int .i64 ((p0.fVersions.length : Int))))))), (12, .e (.one (.pure (.val (.int .i64 v1.2)))))] [(1, .box [.pure (.sl (p0.fVersions.map Al)), .pure (.sl (p0.fNow.map Al)), .pure (.sl (p0.fTarget.map Al)), .pure (.sl (p0.fTables.map Ar))]), (2001, .vec 3 (v1.1.map A0))]) (fun v2 => mk [(1, .e (.one (.ptr 1 0))), (3, .e (.one (.own 2002)))] [(1, .box [.pure (.sl (p0.fVersions.map Al)), .pure (.sl (p0.fNow.map Al)), .pure (.sl (p0.fTarget.map Al)), .pure (.sl (p0.fTables.map Ar))]), (2002, .vec 3 (v2.map A0))]) (fun _ _ => rfl) ((Br 3 2005 3 rfl rfl rfl).trans (sm [(2001, 2005)] _ _ rfl rfl)) (fun j1 n1 v1 h => ?_) (fun v2 s h hs => ?_)
 ·unfold D8 at h
  refine Ab (Aa Ac rfl (AT rfl (Ae (Ab ?_))))
  refine Ap rfl (fun c3 => ?_) (fun c3 => ?_)
  ·have h := Ao c3 h
   refine Aq (Ab (AH (Ab (Aa Ac rfl (qm rfl ?_)))))
   obtain ⟨v4, a4, b4, h⟩ := Ai h
   refine qi AJ Ec a4 (Ah b4) rfl (qk CN rfl (qa rfl (qa rfl (Ae (Ab (Aa Ac rfl (qm rfl (qm rfl (Ae ?_)))))))))
   refine AC (L := Fq N v1 v4) h (fun v5 => mk [(1, .e (.one (.ptr 1 0))), (3, .e (.one (.own 2003))), (4, .e (.one (.pure (.val (.int .i64 v1.2))))), (10, .e (.one (.pure (.sl (p0.fVersions.map Al))))), (11, .e (.one (.pure (.val (.int .i64 ((p0.fVersions.length : Int))))))), (12, .e (.one (.pure (.val (.int .i64 v1.2))))), (17, .e (.one (.pure (.val (.int .i64 v4))))), (18, .e (.one (.pure (.val (.int .i64 v5.2)))))] [(1, .box [.pure (.sl (p0.fVersions.map Al)), .pure (.sl (p0.fNow.map Al)), .pure (.sl (p0.fTarget.map Al)), .pure (.sl (p0.fTables.map Ar))]), (2003, .vec 3 (v5.1.map A0))]) (fun v6 => mk [(1, .e (.one (.ptr 1 0))), (3, .e (.one (.own 2004))), (10, .e (.one (.pure (.sl (p0.fVersions.map Al))))), (11, .e (.one (.pure (.val (.int .i64 ((p0.fVersions.length : Int))))))), (12, .e (.one (.pure (.val (.int .i64 v1.2)))))] [(1, .box [.pure (.sl (p0.fVersions.map Al)), .pure (.sl (p0.fNow.map Al)), .pure (.sl (p0.fTarget.map Al)), .pure (.sl (p0.fTables.map Ar))]), (2004, .vec 3 (v6.map A0))]) (fun _ _ => rfl) (sm [(2003, 2001)] _ _ rfl rfl) (fun j5 n5 v5 h => ?_) (fun v6 s h hs => ?_)
   ·unfold Fq at h
    refine Ab (Aa Ac rfl (AT rfl (Ae (Ab ?_))))
    refine Ap rfl (fun c7 => ?_) (fun c7 => ?_)
    ·have h := Ao c7 h
     refine Aq (Ab (AH (Ab (Aa Ac rfl (qm rfl (qa rfl (Ae (Aa Ac rfl (qm rfl (qm rfl (qm rfl (Bq Kx T5 rfl (EU FR Ft Kx rfl ?_)))))))))))))
     obtain ⟨c8, h⟩ := AQ h
     refine El (f := A0) FR FR Ft RM Kx c8 rfl (qa rfl (Ae (Aa Ac rfl (AN rfl (qm rfl (Ae ?_))))))
     exact Au _ h (sm [(2003, 26)] _ _ rfl rfl)
    ·have h := An c7 h
     refine AP ?_
     exact Au _ h (sm [(2004, 2003)] _ _ rfl rfl)
   ·refine Am hs (Aa Ac rfl (AN rfl (qm rfl (Ae ?_))))
    exact Au _ h (sm [(2001, 2004)] _ _ rfl rfl)
  ·have h := An c3 h
   refine AP ?_
   exact Au _ h (sm [(2002, 2001)] _ _ rfl rfl)
 ·refine Am hs (Ab (Ab (Aa Ac rfl (qf BF rfl (ql Bo rfl (AU AJ rfl (qm rfl (Ae ?_))))))))
  refine AC (L := C3 N p0) h (fun v9 => mk [(1, .e (.one (.ptr 1 0))), (3, .e (.one (.own 2006))), (31, .e (.one (.pure (.val (.int .i64 ((p0.fVersions.length : Int))))))), (32, .e (.one (.pure (.val (.int .i64 v9.2)))))] [(1, .box [.pure (.sl (p0.fVersions.map Al)), .pure (.sl (p0.fNow.map Al)), .pure (.sl (p0.fTarget.map Al)), .pure (.sl (p0.fTables.map Ar))]), (2006, .vec 3 (v9.1.map A0))]) (fun v10 => mk [(1, .e (.one (.ptr 1 0))), (3, .e (.one (.own 2007)))] [(1, .box [.pure (.sl (p0.fVersions.map Al)), .pure (.sl (p0.fNow.map Al)), .pure (.sl (p0.fTarget.map Al)), .pure (.sl (p0.fTables.map Ar))]), (2007, .vec 3 (v10.map A0))]) (fun _ _ => rfl) (sm [(2006, 2002)] _ _ rfl rfl) (fun j9 n9 v9 h => ?_) (fun v10 s h hs => ?_)
  ·unfold C3 at h
   refine Ab (Aa Ac rfl (AT rfl (Ae (Ab ?_))))
   refine Ap rfl (fun c11 => ?_) (fun c11 => ?_)
   ·have h := Ao c11 h
    refine Aq (Ab (AH (Ab (Aa Ac rfl (qm rfl (qa rfl (Ae (Aa Ac rfl (qm rfl (qm rfl (Bq Kx T5 rfl (EU FR Ft Kx rfl ?_))))))))))))
    obtain ⟨c12, h⟩ := AQ h
    refine El (f := A0) FR FR Ft RM Kx c12 rfl (qa rfl (Ae (Aa Ac rfl (AN rfl (qm rfl (Ae ?_))))))
    exact Au _ h (sm [(2006, 39)] _ _ rfl rfl)
   ·have h := An c11 h
    refine AP ?_
    exact Au _ h (sm [(2007, 2006)] _ _ rfl rfl)
  ·refine Am hs (Ab (Ab (Aa Ac rfl (qf DS rfl (ql IM rfl (AU Fk rfl (qm rfl (Ae ?_))))))))
   refine AC (L := BN N p0) h (fun v13 => mk [(3, .e (.one (.own 2008))), (43, .e (.one (.pure (.val (.int .i64 ((p0.fTables.length : Int))))))), (44, .e (.one (.pure (.val (.int .i64 v13.2)))))] [(2008, .vec 3 (v13.1.map A0))]) (fun v14 => mk [(3, .e (.one (.own 2009)))] [(2009, .vec 3 (v14.map A0))]) (fun _ _ => rfl) (sm [(2008, 2007)] _ _ rfl rfl) (fun j13 n13 v13 h => ?_) (fun v14 s h hs => ?_)
   ·unfold BN at h
    refine Ab (Aa Ac rfl (AT rfl (Ae (Ab ?_))))
    refine Ap rfl (fun c15 => ?_) (fun c15 => ?_)
    ·have h := Ao c15 h
     refine Aq (Ab (AH (Ab (Aa Ac rfl (qm rfl (qa rfl (Ae (Aa Ac rfl (qm rfl (qm rfl (Bq Kx T5 rfl (EU FR Ft Kx rfl ?_))))))))))))
     obtain ⟨c16, h⟩ := AQ h
     refine El (f := A0) FR FR Ft RM Kx c16 rfl (qa rfl (Ae (Aa Ac rfl (AN rfl (qm rfl (Ae ?_))))))
     exact Au _ h (sm [(2008, 51)] _ _ rfl rfl)
    ·have h := An c15 h
     refine AP ?_
     exact Au _ h (sm [(2009, 2008)] _ _ rfl rfl)
   ·refine Am hs (Ab (Aa Ac rfl (qm rfl (qa rfl (Ae ?_)))))
    obtain rfl := sj h
    refine Am (sm [(1000, 2009)] [(2, .e (.one (.own 1000)))] [(1000, .vec 3 (v14.map A0))] rfl rfl) (Az ?_)
    exact ⟨⟨[_], ⟨.tmp _ _ rfl, trivial⟩, rfl⟩, ⟨rfl, trivial⟩⟩
set_option maxRecDepth 10000 in
theorem Po (N : Nat) (p0 : Ag) (r : Ag) (h : Hr N p0 = some r) : AB Tryz.prog 123 [.e (.agg [.pure (.sl (p0.fBase.map Al)), .pure (.sl (p0.fNext.map Al)), .pure (.sl (p0.fHeld.map Bg))])] [(1, r.fBase.map Al), (1, r.fNext.map Al), (1, r.fHeld.map Bg)] (.e (.agg [.own 0, .own 1, .own 2])) := by
 unfold Hr at h
 refine As (n := 13) (rs := [.cell 2 46]) Tryz.func123 rfl rfl rfl (A3 rfl) (A3 rfl) rfl fun w0 S0 => ?_
 refine Ab (Aa Ac rfl (qb rfl (qz Dc rfl (Ae (Ab (Aa Ac rfl (qf Dx rfl (ql Bo rfl ?_))))))))
 obtain ⟨v1, a1, h⟩ := bind_some h
 refine AG [2001] (DL N p0.fBase v1 a1) R5 rfl (qf BK rfl (ql Bo rfl ?_))
 obtain ⟨v2, a2, h⟩ := bind_some h
 refine AG [2002] (DL N p0.fNext v2 a2) R5 rfl (qf Dm rfl (ql HV rfl ?_))
 obtain ⟨v3, a3, h⟩ := bind_some h
 refine AG [2003] (Fd N p0.fHeld v3 a3) WD rfl (Bq Dc HS rfl (qs Ay rfl (AA (by kernel_rfl) ?_)))
 obtain rfl := sj h
 refine Am (sm [(1000, 2001), (1001, 2002), (1002, 2003)] [(2, .e (.one (.ptr 2 0)))] [(2, .box [.own 1000, .own 1001, .own 1002]), (1000, .vec 1 (v1.map Al)), (1001, .vec 1 (v2.map Al)), (1002, .vec 1 (v3.map Bg))] rfl rfl) (Az ?_)
 exact ⟨⟨[_], ⟨.cellN _ _ _ _ _ _ _ rfl rfl A4 Ay rfl rfl (Jw rfl), trivial⟩, rfl⟩, ⟨rfl, rfl, rfl, trivial⟩⟩
set_option maxRecDepth 10000 in
theorem Mb (N : Nat) (p0 : AO) (r : Bool) (h : GB N p0 = some r) : AB Tryz.prog 156 [.e (.agg [.pure (.val (.int .i64 p0.fKind)), .pure (.val (.int .i64 p0.fFrom)), .pure (.val (.int .i64 p0.fTo)), .pure (.val (.bool p0.fAware)), .pure (.sl (p0.fOK.map (FZ eB))), .pure (.sl (p0.fRewrite.map (FZ eB)))])] [] (.e (.one (.pure (.val (.bool r))))) := by
 unfold GB at h
 refine As (n := 11) (rs := [.tmp 2]) Tryz.func156 rfl rfl rfl (A3 rfl) (A3 rfl) rfl fun w0 S0 => ?_
 refine Ab (Aa Ac rfl (qb rfl (qa rfl (Ae ?_))))
 refine AM h (fun v1 => mk [(2, .e (.one (.pure (.val (.bool v1)))))] []) (fun j1 h => ?_) (fun v1 h => ?_)
 ·refine Aa Ac rfl (qf Hh rfl (ql CN rfl (BX rfl (qm rfl ?_))))
  refine AD (t := 6) rfl (fun c2 => ?_) (fun c2 => ?_)
  ·have h := Ao c2 h
   refine qn rfl (qn rfl (qn rfl (qp rfl (qa rfl (Ae ?_)))))
   exact Au _ h (sm [] _ _ rfl rfl)
  ·have h := An c2 h
   refine qf Hh rfl (ql CN rfl (BX rfl (qp rfl (qa rfl (Ae ?_)))))
   exact Au _ h (sm [] _ _ rfl rfl)
 ·obtain rfl := sj h
  refine Am (sm [] [(2, .e (.one (.pure (.val (.bool v1)))))] [] rfl rfl) (Az ?_)
  exact ⟨⟨[_], ⟨.tmp _ _ rfl, trivial⟩, rfl⟩, trivial⟩
set_option maxRecDepth 10000 in
theorem P2 (N : Nat) (p0 : Ak) (p1 : Ag) (p2 : Av) (r : Bool × (List Int) × (List Int)) (h : I7 N p0 p1 p2 = some r) : Bi Tryz.prog 124 [.e (.agg [.pure (.sl (p0.fVersions.map Al)), .pure (.sl (p0.fNow.map Al)), .pure (.sl (p0.fTarget.map Al)), .pure (.sl (p0.fTables.map Ar))]), .e (.one (.ptr 90000 0)), .e (.agg [.pure (.val (.int .i64 p2.fKind)), .pure (.val (.int .i64 p2.fIndex)), .pure (.val (.int .i64 p2.fVersion))])] [(.box [.own 90001, .own 90002, .own 90003], .box [.own 90001, .own 90002, .own 90003]), (.vec 1 (p1.fBase.map Al), .vec 1 (p1.fBase.map Al)), (.vec 1 (p1.fNext.map Al), .vec 1 (r.2.1.map Al)), (.vec 1 (p1.fHeld.map Bg), .vec 1 (r.2.2.map Bg))] [] (.e (.one (.pure (.val (.bool r.1))))) := by
 unfold I7 at h
 refine A9 (n := 70) (rs := [.tmp 6]) Tryz.func124 rfl rfl rfl (A3 rfl) (A3 rfl) rfl rfl (A3 rfl) rfl (A3 rfl) fun w0 S0 GL => ?_
 refine Am (sm [] [(0, .e (.agg [.pure (.sl (p0.fVersions.map Al)), .pure (.sl (p0.fNow.map Al)), .pure (.sl (p0.fTarget.map Al)), .pure (.sl (p0.fTables.map Ar))])), (1, .e (.one (.ptr 90000 0))), (2, .e (.agg [.pure (.val (.int .i64 p2.fKind)), .pure (.val (.int .i64 p2.fIndex)), .pure (.val (.int .i64 p2.fVersion))]))] [(90000, .box [.own 90001, .own 90002, .own 90003]), (90001, .vec 1 (p1.fBase.map Al)), (90002, .vec 1 (p1.fNext.map Al)), (90003, .vec 1 (p1.fHeld.map Bg))] rfl rfl) (Ab (Aa Ac rfl (qb rfl (qb rfl (qa rfl (Ae (Ab ?_)))))))
 refine AM h (fun v1 => mk [(1, .e (.one (.ptr 90000 0))), (3, .e (.one (.ptr 3 0))), (5, .e (.one (.ptr 5 0))), (30, .e (.one (.pure (.val (.bool v1)))))] [(3, .box [.pure (.sl (p0.fVersions.map Al)), .pure (.sl (p0.fNow.map Al)), .pure (.sl (p0.fTarget.map Al)), .pure (.sl (p0.fTables.map Ar))]), (5, .box [.pure (.val (.int .i64 p2.fKind)), .pure (.val (.int .i64 p2.fIndex)), .pure (.val (.int .i64 p2.fVersion))]), (90000, .box [.own 90001, .own 90002, .own 90003]), (90001, .vec 1 (p1.fBase.map Al)), (90002, .vec 1 (p1.fNext.map Al)), (90003, .vec 1 (p1.fHeld.map Bg))]) (fun j1 h => ?_) (fun v1 h => ?_)
 ·refine Aa Ac rfl (qm rfl (O5 rfl (qf BK rfl (ql Bo rfl (qf F2 rfl (ql CN rfl ?_))))))
  obtain ⟨v2, a2, b2, h⟩ := Ai h
  refine qI AJ Ec a2 (Ah b2) rfl (qj CN (Ah b2) rfl (Db rfl (qm rfl ?_)))
  refine AD (t := 18) rfl (fun c3 => ?_) (fun c3 => ?_)
  ·have h := Ao c3 h
   refine qn rfl (qn rfl (qn rfl (qn rfl (qn rfl (qn rfl (qn rfl (qn rfl (qn rfl (qn rfl (qn rfl (qp rfl (AA (by kernel_rfl) ?_))))))))))))
   exact Au _ h (sm [] _ _ rfl rfl)
  ·have h := An c3 h
   refine qm rfl (O5 rfl (qf Dx rfl (ql Bo rfl (qf F2 rfl (ql CN rfl ?_)))))
   obtain ⟨v4, a4, b4, h⟩ := Ai h
   refine qI AJ Ec a4 (Ah b4) rfl (qj CN (Ah b4) rfl (qf H5 rfl (ql CN rfl (BX rfl (qp rfl (AA (by kernel_rfl) ?_))))))
   exact Au _ h (sm [] _ _ rfl rfl)
 ·refine Ap rfl (fun c5 => ?_) (fun c5 => ?_)
  ·have h := Ao c5 h
   refine Ab (Aa Ac rfl (qa rfl (Ae ?_)))
   obtain rfl := sj h
   refine Am (sm [] [(6, .e (.one (.pure (.val (.bool false)))))] [(90000, .box [.own 90001, .own 90002, .own 90003]), (90001, .vec 1 (p1.fBase.map Al)), (90002, .vec 1 (p1.fNext.map Al)), (90003, .vec 1 (p1.fHeld.map Bg))] rfl rfl) (Az ?_)
   exact ⟨⟨[_], ⟨.tmp _ _ rfl, trivial⟩, rfl⟩, ⟨rfl, rfl, rfl, rfl, trivial⟩, trivial⟩
  ·have h := An c5 h
   refine Aq (Ab (Aa Ac rfl (qm rfl (O5 rfl (qf BK rfl (ql Bo rfl (qf F2 rfl (ql CN rfl (qf H5 rfl (ql CN rfl ?_))))))))))
   obtain ⟨v6, a6, b6, h⟩ := Ai h
   refine qI AJ Ec a6 (Ah b6) rfl ?_
   refine AV rfl rfl rfl rfl (Ah b6) rfl Ec rfl (A3 rfl) (AW Al p1.fNext _ p2.fVersion) ?_
   refine AA (by kernel_rfl) (Ab (Ab (Aa Ac rfl (qf DS rfl (ql IM rfl (AU Fk rfl (qm rfl (Ae ?_))))))))
   refine AC (L := EL N p0 p2) h (fun v7 => mk [(1, .e (.one (.ptr 90000 0))), (5, .e (.one (.ptr 5 0))), (41, .e (.one (.pure (.sl (p0.fTables.map Ar))))), (42, .e (.one (.pure (.val (.int .i64 ((p0.fTables.length : Int))))))), (43, .e (.one (.pure (.val (.int .i64 v7.2)))))] [(5, .box [.pure (.val (.int .i64 p2.fKind)), .pure (.val (.int .i64 p2.fIndex)), .pure (.val (.int .i64 p2.fVersion))]), (90000, .box [.own 90001, .own 90002, .own 90003]), (90001, .vec 1 (p1.fBase.map Al)), (90002, .vec 1 ((p1.fNext.set ((p2.fIndex).toNat) p2.fVersion).map Al)), (90003, .vec 1 (v7.1.map Bg))]) (fun v8 => mk [] [(90000, .box [.own 90001, .own 90002, .own 90003]), (90001, .vec 1 (p1.fBase.map Al)), (90002, .vec 1 ((p1.fNext.set ((p2.fIndex).toNat) p2.fVersion).map Al)), (90003, .vec 1 (v8.map Bg))]) (fun _ _ => rfl) (sm [] _ _ rfl rfl) (fun j7 n7 v7 h => ?_) (fun v8 s h hs => ?_)
   ·unfold EL at h
    refine Ab (Aa Ac rfl (AT rfl (Ae (Ab ?_))))
    refine Ap rfl (fun c9 => ?_) (fun c9 => ?_)
    ·have h := Ao c9 h
     refine Aq ?_
     refine AM h (fun v10 => mk [(1, .e (.one (.ptr 90000 0))), (5, .e (.one (.ptr 5 0))), (41, .e (.one (.pure (.sl (p0.fTables.map Ar))))), (42, .e (.one (.pure (.val (.int .i64 ((p0.fTables.length : Int))))))), (43, .e (.one (.pure (.val (.int .i64 v7.2)))))] [(5, .box [.pure (.val (.int .i64 p2.fKind)), .pure (.val (.int .i64 p2.fIndex)), .pure (.val (.int .i64 p2.fVersion))]), (90000, .box [.own 90001, .own 90002, .own 90003]), (90001, .vec 1 (p1.fBase.map Al)), (90002, .vec 1 ((p1.fNext.set ((p2.fIndex).toNat) p2.fVersion).map Al)), (90003, .vec 1 (v10.map Bg))]) (fun j10 h => ?_) (fun v10 h => ?_)
     ·refine AH (Ab (Aa Ac rfl (qm rfl ?_)))
      obtain ⟨v11, a11, b11, h⟩ := Ai h
      refine qi Fk Fe a11 (Ah b11) rfl (qK IN Fe rfl (qz LW rfl (qa rfl (qs Fe rfl (Ae ?_)))))
      refine AM h (fun v12 => mk [(1, .e (.one (.ptr 90000 0))), (5, .e (.one (.ptr 5 0))), (7, .e (.one (.pure (.val (.int .i64 v7.2))))), (41, .e (.one (.pure (.sl (p0.fTables.map Ar))))), (42, .e (.one (.pure (.val (.int .i64 ((p0.fTables.length : Int))))))), (43, .e (.one (.pure (.val (.int .i64 v7.2))))), (56, .e (.one (.pure (.val (.bool v12)))))] [(5, .box [.pure (.val (.int .i64 p2.fKind)), .pure (.val (.int .i64 p2.fIndex)), .pure (.val (.int .i64 p2.fVersion))]), (90000, .box [.own 90001, .own 90002, .own 90003]), (90001, .vec 1 (p1.fBase.map Al)), (90002, .vec 1 ((p1.fNext.set ((p2.fIndex).toNat) p2.fVersion).map Al)), (90003, .vec 1 (v7.1.map Bg))]) (fun j12 h => ?_) (fun v12 h => ?_)
      ·refine Aa Ac rfl (qf D3 rfl (ql CN rfl (qf F2 rfl (ql CN rfl (BX rfl (qm rfl ?_))))))
       refine AD (t := 53) rfl (fun c13 => ?_) (fun c13 => ?_)
       ·have h := Ao c13 h
        refine qL IN Fe rfl ?_
        obtain ⟨v14, a14, h⟩ := bind_some h
        refine AG [] (Mb N v11 v14 a14) Wf rfl (qp rfl (Ae ?_))
        exact Au _ h (sm [] _ _ rfl rfl)
       ·have h := An c13 h
        refine qn rfl (qn rfl (qp rfl (Ae ?_)))
        exact Au _ h (sm [] _ _ rfl rfl)
      ·refine Ap rfl (fun c15 => ?_) (fun c15 => ?_)
       ·have h := Ao c15 h
        refine Aa Ac rfl (qm rfl (O5 rfl (qf Dm rfl (ql HV rfl (qm rfl ?_)))))
        obtain ⟨v16, a16, b16, h⟩ := Ai h
        refine qI D0 GJ a16 (Ah b16) rfl (qj KY (Ah b16) rfl (qf H5 rfl (ql CN rfl ?_)))
        obtain ⟨c17, h⟩ := AQ h
        refine I9 rfl c17 (Tq rfl ?_)
        obtain ⟨v18, a18, b18, h⟩ := Ai h
        refine qI D0 GJ a18 (Ah b18) rfl ?_
        refine AV rfl rfl rfl rfl (Ah b18) rfl GJ rfl (A3 rfl) (AW Bg v7.1 _ ((M5 .u8 v16 ((Dy .u8 1 p2.fVersion))))) ?_
        refine AA (by kernel_rfl) ?_
        exact Au _ h (sm [] _ _ rfl rfl)
       ·have h := An c15 h
        refine Aq ?_
        exact Au _ h (sm [] _ _ rfl rfl)
     ·refine Aa Ac rfl (AN rfl (qm rfl (Ae ?_)))
      exact Au _ h (sm [] _ _ rfl rfl)
    ·have h := An c9 h
     refine AP ?_
     exact Au _ h (sm [] _ _ rfl rfl)
   ·refine Am hs (Ab (Aa Ac rfl (qa rfl (Ae ?_))))
    obtain rfl := sj h
    refine Am (sm [] [(6, .e (.one (.pure (.val (.bool true)))))] [(90000, .box [.own 90001, .own 90002, .own 90003]), (90001, .vec 1 (p1.fBase.map Al)), (90002, .vec 1 ((p1.fNext.set ((p2.fIndex).toNat) p2.fVersion).map Al)), (90003, .vec 1 (v8.map Bg))] rfl rfl) (Az ?_)
    exact ⟨⟨[_], ⟨.tmp _ _ rfl, trivial⟩, rfl⟩, ⟨rfl, rfl, rfl, rfl, trivial⟩, trivial⟩
set_option maxRecDepth 10000 in
theorem Oh (N : Nat) (p0 : Ag) (p1 : Int) (r : Int) (h : GW N p0 p1 = some r) : AB Tryz.prog 157 [.e (.agg [.pure (.sl (p0.fBase.map Al)), .pure (.sl (p0.fNext.map Al)), .pure (.sl (p0.fHeld.map Bg))]), .e (.one (.pure (.val (.int .i64 p1))))] [] (.e (.one (.pure (.val (.int .u8 r))))) := by
 unfold GW at h
 refine As (n := 27) (rs := [.tmp 4]) Tryz.func157 rfl rfl rfl (A3 rfl) (A3 rfl) rfl fun w0 S0 => ?_
 refine Ab (Aa Ac rfl (qb rfl (qa rfl (Ae (Ab (Aa Ac rfl (qf Dx rfl (ql Bo rfl (qm rfl ?_)))))))))
 obtain ⟨v1, a1, b1, h⟩ := Ai h
 refine qi AJ Ec a1 (Ah b1) rfl (qk CN rfl ?_)
 obtain ⟨c2, h⟩ := AQ h
 refine I9 rfl c2 (qa rfl (Ae ?_))
 refine AM h (fun v3 => mk [(5, .e (.one (.pure (.val (.int .u8 v3)))))] []) (fun j3 h => ?_) (fun v3 h => ?_)
 ·refine Ab (Aa Ac rfl (qf BK rfl (ql Bo rfl (qm rfl ?_))))
  obtain ⟨v4, a4, b4, h⟩ := Ai h
  refine qi AJ Ec a4 (Ah b4) rfl (qk CN rfl (Db rfl (Ae ?_)))
  refine Ap rfl (fun c5 => ?_) (fun c5 => ?_)
  ·have h := Ao c5 h
   refine Aa Ac rfl (qm rfl (qf BK rfl (ql Bo rfl (qm rfl ?_))))
   obtain ⟨v6, a6, b6, h⟩ := Ai h
   refine qi AJ Ec a6 (Ah b6) rfl (qk CN rfl ?_)
   obtain ⟨c7, h⟩ := AQ h
   refine I9 rfl c7 (Tq rfl (qa rfl (Ae ?_)))
   exact Au _ h (sm [] _ _ rfl rfl)
  ·have h := An c5 h
   refine Aq ?_
   exact Au _ h (sm [] _ _ rfl rfl)
 ·refine Ab (Aa Ac rfl (qm rfl (qa rfl (Ae ?_))))
  obtain rfl := sj h
  refine Am (sm [] [(4, .e (.one (.pure (.val (.int .u8 v3)))))] [] rfl rfl) (Az ?_)
  exact ⟨⟨[_], ⟨.tmp _ _ rfl, trivial⟩, rfl⟩, trivial⟩
set_option maxRecDepth 10000 in
theorem J1 (N : Nat) (p0 : Int) (r : Int) (h : DV N p0 = some r) : AB Tryz.prog 169 [.e (.one (.pure (.val (.int .u8 p0))))] [] (.e (.one (.pure (.val (.int .i64 r))))) := by
 unfold DV at h
 refine As (n := 6) (rs := [.tmp 2]) Tryz.func169 rfl rfl rfl (A3 rfl) (A3 rfl) rfl fun w0 S0 => ?_
 refine Ab (Aa Ac rfl (qa rfl (Ae (Ab (Aa Ac rfl (qm rfl ?_))))))
 obtain ⟨v1, a1, h⟩ := bind_some h
 refine Nv (.p rfl) rfl rfl Vh a1 ?_
 refine Hj Vg SI rfl (qa rfl (Ae ?_))
 obtain rfl := sj h
 refine Am (sm [] [(2, .e (.one (.pure (.val (.int .i64 ((IntKind.wrap .i64 v1)))))))] [] rfl rfl) (Az ?_)
 exact ⟨⟨[_], ⟨.tmp _ _ rfl, trivial⟩, rfl⟩, trivial⟩
set_option maxRecDepth 10000 in
theorem MS (N : Nat) (p0 : AO) (p1 : Int) (p2 : Int) (r : Bool) (h : GO N p0 p1 p2 = some r) : AB Tryz.prog 158 [.e (.agg [.pure (.val (.int .i64 p0.fKind)), .pure (.val (.int .i64 p0.fFrom)), .pure (.val (.int .i64 p0.fTo)), .pure (.val (.bool p0.fAware)), .pure (.sl (p0.fOK.map (FZ eB))), .pure (.sl (p0.fRewrite.map (FZ eB)))]), .e (.one (.pure (.val (.int .u8 p1)))), .e (.one (.pure (.val (.int .i64 p2))))] [] (.e (.one (.pure (.val (.bool r))))) := by
 unfold GO at h
 refine As (n := 25) (rs := [.tmp 6]) Tryz.func158 rfl rfl rfl (A3 rfl) (A3 rfl) rfl fun w0 S0 => ?_
 refine Ab (Aa Ac rfl (qb rfl (qa rfl (Ae (Ab (Ab (Aa Ac rfl (qm rfl (qa rfl (Ae ?_))))))))))
 refine AC (L := Ew N p0 p2) h (fun v1 => mk [(2, .e (.one (.pure (.val (.int .i64 p2))))), (3, .e (.one (.ptr 3 0))), (7, .e (.one (.pure (.val (.int .u8 v1)))))] [(3, .box [.pure (.val (.int .i64 p0.fKind)), .pure (.val (.int .i64 p0.fFrom)), .pure (.val (.int .i64 p0.fTo)), .pure (.val (.bool p0.fAware)), .pure (.sl (p0.fOK.map (FZ eB))), .pure (.sl (p0.fRewrite.map (FZ eB)))])]) (fun v2 => mk [] []) (fun _ _ => rfl) (sm [] _ _ rfl rfl) (fun j1 n1 v1 h => ?_) (fun v2 s h hs => ?_)
 ·unfold Ew at h
  refine Ab (Ab (Aa Ac rfl (qm rfl (Ct rfl (Ae ?_)))))
  refine Ap rfl (fun c3 => ?_) (fun c3 => ?_)
  ·have h := Ao c3 h
   refine Aq (Ab (AH (Ab (Aa Ac rfl (qf H9 rfl (ql Lz rfl (qm rfl ?_)))))))
   obtain ⟨v4, a4, h⟩ := bind_some h
   refine AG [] (J1 N v1 v4 a4) Yi rfl ?_
   obtain ⟨v5, a5, b5, h⟩ := Ai h
   refine qi HK N2 a5 (Ah b5) rfl (qk Qs rfl (qm rfl ?_))
   obtain ⟨v6, a6, b6, h⟩ := Ai h
   refine qi HY QO a6 (Ah b6) rfl (qk SX rfl (Cb rfl (AA (by kernel_rfl) ?_)))
   refine Ap rfl (fun c7 => ?_) (fun c7 => ?_)
   ·have h := Ao c7 h
    refine Ab (Aa Ac rfl (qa rfl (Ae ?_)))
    obtain rfl := sj h
    refine Am (sm [] [(6, .e (.one (.pure (.val (.bool false)))))] [] rfl rfl) (Az ?_)
    exact ⟨⟨[_], ⟨.tmp _ _ rfl, trivial⟩, rfl⟩, trivial⟩
   ·have h := An c7 h
    refine Aq (Aa Ac rfl (qm rfl (qm rfl (Bj rfl (LD rfl (qa rfl (Ae ?_)))))))
    exact Au _ h (sm [] _ _ rfl rfl)
  ·have h := An c3 h
   refine AP ?_
   exact Au _ h (sm [] _ _ rfl rfl)
 ·refine Am hs (Ab (Aa Ac rfl (qa rfl (Ae ?_))))
  obtain rfl := sj h
  refine Am (sm [] [(6, .e (.one (.pure (.val (.bool true)))))] [] rfl rfl) (Az ?_)
  exact ⟨⟨[_], ⟨.tmp _ _ rfl, trivial⟩, rfl⟩, trivial⟩
set_option maxRecDepth 10000 in
theorem P0 (N : Nat) (p0 : Ak) (p1 : Ag) (p2 : Int) (r : Bool × (List Int)) (h : H0 N p0 p1 p2 = some r) : Bi Tryz.prog 125 [.e (.agg [.pure (.sl (p0.fVersions.map Al)), .pure (.sl (p0.fNow.map Al)), .pure (.sl (p0.fTarget.map Al)), .pure (.sl (p0.fTables.map Ar))]), .e (.one (.ptr 90000 0)), .e (.one (.pure (.val (.int .i64 p2))))] [(.box [.own 90001, .own 90002, .own 90003], .box [.own 90001, .own 90002, .own 90003]), (.vec 1 (p1.fBase.map Al), .vec 1 (p1.fBase.map Al)), (.vec 1 (p1.fNext.map Al), .vec 1 (p1.fNext.map Al)), (.vec 1 (p1.fHeld.map Bg), .vec 1 (r.2.map Bg))] [] (.e (.one (.pure (.val (.bool r.1))))) := by
 unfold H0 at h
 refine A9 (n := 68) (rs := [.tmp 6]) Tryz.func125 rfl rfl rfl (A3 rfl) (A3 rfl) rfl rfl (A3 rfl) rfl (A3 rfl) fun w0 S0 GL => ?_
 refine Am (sm [] [(0, .e (.agg [.pure (.sl (p0.fVersions.map Al)), .pure (.sl (p0.fNow.map Al)), .pure (.sl (p0.fTarget.map Al)), .pure (.sl (p0.fTables.map Ar))])), (1, .e (.one (.ptr 90000 0))), (2, .e (.one (.pure (.val (.int .i64 p2)))))] [(90000, .box [.own 90001, .own 90002, .own 90003]), (90001, .vec 1 (p1.fBase.map Al)), (90002, .vec 1 (p1.fNext.map Al)), (90003, .vec 1 (p1.fHeld.map Bg))] rfl rfl) (Ab (Aa Ac rfl (qb rfl (qa rfl (Ae (Ab (Aa Ac rfl (qf DS rfl (ql IM rfl (qm rfl ?_))))))))))
 obtain ⟨v1, a1, b1, h⟩ := Ai h
 refine qi Fk Fe a1 (Ah b1) rfl (qK IN Fe rfl (qz LW rfl (qs Fe rfl (Ae (Ab (Ab (Aa Ac rfl (qL IN Fe rfl ?_))))))))
 obtain ⟨v2, a2, h⟩ := bind_some h
 refine AG [] (Mb N v1 v2 a2) Wf rfl (Cb rfl (Ae ?_))
 refine Ap rfl (fun c3 => ?_) (fun c3 => ?_)
 ·have h := Ao c3 h
  refine Ab (Aa Ac rfl (qa rfl (Ae ?_)))
  obtain rfl := sj h
  refine Am (sm [] [(6, .e (.one (.pure (.val (.bool false)))))] [(90000, .box [.own 90001, .own 90002, .own 90003]), (90001, .vec 1 (p1.fBase.map Al)), (90002, .vec 1 (p1.fNext.map Al)), (90003, .vec 1 (p1.fHeld.map Bg))] rfl rfl) (Az ?_)
  exact ⟨⟨[_], ⟨.tmp _ _ rfl, trivial⟩, rfl⟩, ⟨rfl, rfl, rfl, rfl, trivial⟩, trivial⟩
 ·have h := An c3 h
  refine Aq (Ab (Aa Ac rfl (qm rfl (O5 rfl (qL A4 Ay rfl (qf D3 rfl (ql CN rfl ?_)))))))
  obtain ⟨v4, a4, h⟩ := bind_some h
  refine Et [] [90001, 90002, 90003] (Oh N p1 v1.fFrom v4 a4) Yl CQ rfl (qa rfl (AA (by kernel_rfl) (Ab (Aa Ac rfl (qm rfl (O5 rfl (qf Dm rfl (ql HV rfl (qm rfl ?_)))))))))
  obtain ⟨v5, a5, b5, h⟩ := Ai h
  refine qI D0 GJ a5 (Ah b5) rfl (qj KY (Ah b5) rfl (qm rfl (J6 rfl (qa rfl (Ae (Ab ?_))))))
  refine AM h (fun v6 => mk [(1, .e (.one (.ptr 90000 0))), (2, .e (.one (.pure (.val (.int .i64 p2))))), (8, .e (.one (.pure (.val (.int .u8 v4))))), (60, .e (.one (.pure (.val (.bool v6)))))] [(90000, .box [.own 90001, .own 90002, .own 90003]), (90001, .vec 1 (p1.fBase.map Al)), (90002, .vec 1 (p1.fNext.map Al)), (90003, .vec 1 (p1.fHeld.map Bg))]) (fun j6 h => ?_) (fun v6 h => ?_)
  ·refine Aa Ac rfl (qm rfl (O5 rfl (qf Dm rfl (ql HV rfl (qm rfl ?_)))))
   obtain ⟨v7, a7, b7, h⟩ := Ai h
   refine qI D0 GJ a7 (Ah b7) rfl (qj KY (Ah b7) rfl (qm rfl (BX rfl (qm rfl ?_))))
   refine AD (t := 42) rfl (fun c8 => ?_) (fun c8 => ?_)
   ·have h := Ao c8 h
    refine qn rfl (qn rfl (qn rfl (qn rfl (qu rfl (qu rfl (qu rfl (qu rfl (qu rfl (qu rfl (qu rfl (qu rfl (qu rfl (qu rfl (qu rfl (qu rfl (qn rfl (qp rfl (AA (by kernel_rfl) ?_))))))))))))))))))
    exact Au _ h (sm [] _ _ rfl rfl)
   ·have h := An c8 h
    refine qf Hh rfl (ql CN rfl (BX rfl (qm rfl ?_)))
    refine AD (t := 46) rfl (fun c9 => ?_) (fun c9 => ?_)
    ·have h := Ao c9 h
     refine qL IN Fe rfl (qm rfl (qm rfl (O5 rfl (qf Dx rfl (ql Bo rfl (qf D3 rfl (ql CN rfl ?_)))))))
     obtain ⟨v10, a10, b10, h⟩ := Ai h
     refine qI AJ Ec a10 (Ah b10) rfl (qj CN (Ah b10) rfl ?_)
     obtain ⟨v11, a11, h⟩ := bind_some h
     refine AG [] (MS N v1 ((Eh .u8 v5 v4)) v10 v11 a11) Ys rfl (Cb rfl (qp rfl (qp rfl (AA (by kernel_rfl) ?_))))
     exact Au _ h (sm [] _ _ rfl rfl)
    ·have h := An c9 h
     refine qn rfl (qn rfl (qn rfl (qn rfl (qn rfl (qn rfl (qn rfl (qn rfl (qn rfl (qn rfl (qn rfl (qn rfl (qp rfl (qp rfl (AA (by kernel_rfl) ?_))))))))))))))
     exact Au _ h (sm [] _ _ rfl rfl)
  ·refine Ap rfl (fun c12 => ?_) (fun c12 => ?_)
   ·have h := Ao c12 h
    refine Ab (Aa Ac rfl (qa rfl (Ae ?_)))
    obtain rfl := sj h
    refine Am (sm [] [(6, .e (.one (.pure (.val (.bool false)))))] [(90000, .box [.own 90001, .own 90002, .own 90003]), (90001, .vec 1 (p1.fBase.map Al)), (90002, .vec 1 (p1.fNext.map Al)), (90003, .vec 1 (p1.fHeld.map Bg))] rfl rfl) (Az ?_)
    exact ⟨⟨[_], ⟨.tmp _ _ rfl, trivial⟩, rfl⟩, ⟨rfl, rfl, rfl, rfl, trivial⟩, trivial⟩
   ·have h := An c12 h
    refine Aq (Ab (Aa Ac rfl (qm rfl (O5 rfl (qf Dm rfl (ql HV rfl (qm rfl (qm rfl ?_))))))))
    obtain ⟨v13, a13, b13, h⟩ := Ai h
    refine qI D0 GJ a13 (Ah b13) rfl ?_
    refine AV rfl rfl rfl rfl (Ah b13) rfl GJ rfl (A3 rfl) (AW Bg p1.fHeld _ v4) ?_
    refine Ae (Ab (Aa Ac rfl (qa rfl (Ae ?_))))
    obtain rfl := sj h
    refine Am (sm [] [(6, .e (.one (.pure (.val (.bool true)))))] [(90000, .box [.own 90001, .own 90002, .own 90003]), (90001, .vec 1 (p1.fBase.map Al)), (90002, .vec 1 (p1.fNext.map Al)), (90003, .vec 1 ((p1.fHeld.set ((p2).toNat) v4).map Bg))] rfl rfl) (Az ?_)
    exact ⟨⟨[_], ⟨.tmp _ _ rfl, trivial⟩, rfl⟩, ⟨rfl, rfl, rfl, rfl, trivial⟩, trivial⟩
set_option maxRecDepth 10000 in
theorem MZ (N : Nat) (p0 : Ak) (p1 : Ag) (p2 : Av) (r : Ag × Bool) (h : Gv N p0 p1 p2 = some r) : AB Tryz.prog 97 [.e (.agg [.pure (.sl (p0.fVersions.map Al)), .pure (.sl (p0.fNow.map Al)), .pure (.sl (p0.fTarget.map Al)), .pure (.sl (p0.fTables.map Ar))]), .e (.agg [.pure (.sl (p1.fBase.map Al)), .pure (.sl (p1.fNext.map Al)), .pure (.sl (p1.fHeld.map Bg))]), .e (.agg [.pure (.val (.int .i64 p2.fKind)), .pure (.val (.int .i64 p2.fIndex)), .pure (.val (.int .i64 p2.fVersion))])] [(1, r.1.fBase.map Al), (1, r.1.fNext.map Al), (1, r.1.fHeld.map Bg)] (.tup [.agg [.own 0, .own 1, .own 2], .one (.pure (.val (.bool r.2)))]) := by
 unfold Gv at h
 refine As (n := 51) (rs := [.cell 6 46, .tmp 7]) Tryz.func97 rfl rfl rfl (A3 rfl) (A3 rfl) rfl fun w0 S0 => ?_
 refine Ab (Aa Ac rfl (qb rfl (qb rfl (qb rfl (qz Dc rfl (qa rfl (Ae (Ab (Aa Ac rfl (qL A4 Ay rfl ?_))))))))))
 obtain ⟨v1, a1, h⟩ := bind_some h
 refine AG [2001, 2002, 2003] (Po N p1 v1 a1) Yk rfl (qz Dc rfl (qs Ay rfl (Ae (Ab (Ab (Aa Ac rfl (qf GN rfl (ql CN rfl (Ae (AH (Ab (Aa Ac rfl (BX rfl (qa rfl (Ae ?_)))))))))))))))
 refine Ap rfl (fun c2 => ?_) (fun c2 => ?_)
 ·have h := Ao c2 h
  refine Ab (Aa Ac rfl (qL A4 Ay rfl (qL EH Ep rfl (qL I2 Ft rfl ?_))))
  obtain ⟨v3, a3, h⟩ := bind_some h
  refine BD (ds0 := [_, _, _]) [8, 2001, 2002, 2003] [] [false, false, true, true] (P2 N p0 v1 p2 v3 a3) (.p rfl) Yu rfl ⟨rfl, rfl, rfl, trivial⟩ rfl rfl (by decide) ⟨rfl, rfl, rfl, rfl, trivial⟩ rfl (AX rfl) trivial ⟨(fun _ => rfl), (fun _ => rfl), (fun h => by cases h), (fun h => by cases h), trivial⟩ rfl rfl rfl ?_
  refine qs Ay rfl (qa rfl (AA (by kernel_rfl) ?_))
  obtain rfl := sj h
  refine Am (sm [(1000, 2001), (1001, 2002), (1002, 2003)] [(6, .e (.one (.ptr 6 0))), (7, .e (.one (.pure (.val (.bool v3.1)))))] [(6, .box [.own 1000, .own 1001, .own 1002]), (1000, .vec 1 (v1.fBase.map Al)), (1001, .vec 1 (v3.2.1.map Al)), (1002, .vec 1 (v3.2.2.map Bg))] rfl rfl) (Az ?_)
  exact ⟨⟨[_, _], ⟨.cellN _ _ _ _ _ _ _ rfl rfl A4 Ay rfl rfl (Jw rfl), ⟨.tmp _ _ rfl, trivial⟩⟩, rfl⟩, ⟨rfl, rfl, rfl, trivial⟩⟩
 ·have h := An c2 h
  refine Ab (Aa Ac rfl (BX rfl (qa rfl (Ae ?_))))
  refine Ap rfl (fun c4 => ?_) (fun c4 => ?_)
  ·have h := Ao c4 h
   refine Ab (Aa Ac rfl (qL A4 Ay rfl (qL EH Ep rfl (qf F2 rfl (ql CN rfl ?_)))))
   obtain ⟨v5, a5, h⟩ := bind_some h
   refine BD (ds0 := [_, _, _]) [8, 2001, 2002, 2003] [] [false, false, false, true] (P0 N p0 v1 p2.fIndex v5 a5) (.p rfl) Xn rfl ⟨rfl, rfl, rfl, trivial⟩ rfl rfl (by decide) ⟨rfl, rfl, rfl, rfl, trivial⟩ rfl (AX rfl) trivial ⟨(fun _ => rfl), (fun _ => rfl), (fun _ => rfl), (fun h => by cases h), trivial⟩ rfl rfl rfl ?_
   refine qs Ay rfl (qa rfl (AA (by kernel_rfl) ?_))
   obtain rfl := sj h
   refine Am (sm [(1000, 2001), (1001, 2002), (1002, 2003)] [(6, .e (.one (.ptr 6 0))), (7, .e (.one (.pure (.val (.bool v5.1)))))] [(6, .box [.own 1000, .own 1001, .own 1002]), (1000, .vec 1 (v1.fBase.map Al)), (1001, .vec 1 (v1.fNext.map Al)), (1002, .vec 1 (v5.2.map Bg))] rfl rfl) (Az ?_)
   exact ⟨⟨[_, _], ⟨.cellN _ _ _ _ _ _ _ rfl rfl A4 Ay rfl rfl (Jw rfl), ⟨.tmp _ _ rfl, trivial⟩⟩, rfl⟩, ⟨rfl, rfl, rfl, trivial⟩⟩
  ·have h := An c4 h
   refine Aq (Ab (Aa Ac rfl (qf BK rfl (ql Bo rfl (qf F2 rfl (ql CN rfl ?_))))))
   obtain ⟨v6, a6, b6, h⟩ := Ai h
   refine qI AJ Ec a6 (Ah b6) rfl (qj CN (Ah b6) rfl (qa rfl (Ae (Ab (Ab (Aa Ac rfl (qm rfl (AT rfl (Ae ?_)))))))))
   refine Ap rfl (fun c7 => ?_) (fun c7 => ?_)
   ·have h := Ao c7 h
    refine Ab (Aa Ac rfl (qL A4 Ay rfl (qs Ay rfl (qa rfl (Ae ?_)))))
    obtain rfl := sj h
    refine Am (sm [(1000, 2001), (1001, 2002), (1002, 2003)] [(6, .e (.one (.ptr 6 0))), (7, .e (.one (.pure (.val (.bool false)))))] [(6, .box [.own 1000, .own 1001, .own 1002]), (1000, .vec 1 (v1.fBase.map Al)), (1001, .vec 1 (v1.fNext.map Al)), (1002, .vec 1 (v1.fHeld.map Bg))] rfl rfl) (Az ?_)
    exact ⟨⟨[_, _], ⟨.cellN _ _ _ _ _ _ _ rfl rfl A4 Ay rfl rfl (Jw rfl), ⟨.tmp _ _ rfl, trivial⟩⟩, rfl⟩, ⟨rfl, rfl, rfl, trivial⟩⟩
   ·have h := An c7 h
    refine Aq (Ab (Aa Ac rfl (qf BK rfl (ql Bo rfl (qf F2 rfl (ql CN rfl ?_))))))
    obtain ⟨v8, a8, b8, h⟩ := Ai h
    refine qI AJ Ec a8 (Ah b8) rfl ?_
    refine AV rfl rfl rfl rfl (Ah b8) rfl Ec rfl (A3 rfl) (AW Al v1.fNext _ ((-1))) ?_
    refine Ae ?_
    refine AM h (fun v9 => mk [(6, .e (.one (.ptr 6 0))), (8, .e (.one (.ptr 8 0)))] [(6, .box [.pure (.nil0), .pure (.nil0), .pure (.nil0)]), (8, .box [.own 2004, .own 2005, .own 2006]), (2004, .vec 1 (v9.map Al)), (2005, .vec 1 ((v1.fNext.set ((p2.fIndex).toNat) ((-1))).map Al)), (2006, .vec 1 (v1.fHeld.map Bg))]) (fun j9 h => ?_) (fun v9 h => ?_)
    ·refine Ab (Aa Ac rfl (qf GN rfl (ql CN rfl (BX rfl (Ae ?_)))))
     refine Ap rfl (fun c10 => ?_) (fun c10 => ?_)
     ·have h := Ao c10 h
      refine Aa Ac rfl (qf Dx rfl (ql Bo rfl (qf F2 rfl (ql CN rfl (qm rfl ?_)))))
      obtain ⟨v11, a11, b11, h⟩ := Ai h
      refine qI AJ Ec a11 (Ah b11) rfl ?_
      refine AV rfl rfl rfl rfl (Ah b11) rfl Ec rfl (A3 rfl) (AW Al v1.fBase _ v6) ?_
      refine Ae ?_
      exact Au _ h (sm [(2004, 2001), (2005, 2002), (2006, 2003)] _ _ rfl rfl)
     ·have h := An c10 h
      refine Aq ?_
      exact Au _ h (sm [(2004, 2001), (2005, 2002), (2006, 2003)] _ _ rfl rfl)
    ·refine Ab (Aa Ac rfl (qL A4 Ay rfl (qs Ay rfl (qa rfl (Ae ?_)))))
     obtain rfl := sj h
     refine Am (sm [(1000, 2004), (1001, 2005), (1002, 2006)] [(6, .e (.one (.ptr 6 0))), (7, .e (.one (.pure (.val (.bool true)))))] [(6, .box [.own 1000, .own 1001, .own 1002]), (1000, .vec 1 (v9.map Al)), (1001, .vec 1 ((v1.fNext.set ((p2.fIndex).toNat) ((-1))).map Al)), (1002, .vec 1 (v1.fHeld.map Bg))] rfl rfl) (Az ?_)
     exact ⟨⟨[_, _], ⟨.cellN _ _ _ _ _ _ _ rfl rfl A4 Ay rfl rfl (Jw rfl), ⟨.tmp _ _ rfl, trivial⟩⟩, rfl⟩, ⟨rfl, rfl, rfl, trivial⟩⟩
set_option maxRecDepth 10000 in
theorem Ng (N : Nat) (p0 : Av) (p1 : List Int) (p2 : List Int) (p3 : List Int) (p4 : List AO) (p5 : List Int) (p6 : List Int) (p7 : List Int) (r : Bool) (h : Eu N p0 p1 p2 p3 p4 p5 p6 p7 = some r) : AB Tryz.prog 96 [.e (.agg [.pure (.val (.int .i64 p0.fKind)), .pure (.val (.int .i64 p0.fIndex)), .pure (.val (.int .i64 p0.fVersion))]), .e (.one (.rop [.sl (p1.map Al), .sl (p2.map Al), .sl (p3.map Al), .sl (p4.map Ar)])), .e (.one (.rop [.sl (p5.map Al), .sl (p6.map Al), .sl (p7.map Bg)]))] [] (.e (.one (.pure (.val (.bool r))))) := by
 unfold Eu at h
 refine As (n := 16) (rs := [.tmp 4]) Tryz.func96 rfl rfl rfl (A3 rfl) (A3 rfl) rfl fun w0 S0 => ?_
 refine Ab (Aa Ac rfl (qb rfl (qa rfl (Ae (Ab (Aa Ac rfl (qK EH Ep rfl (qK A4 Ay rfl (qL I2 Ft rfl ?_)))))))))
 obtain ⟨v1, a1, h⟩ := bind_some h
 refine AG [2001, 2002, 2003] (MZ N ((Ak.mk p1 p2 p3 p4)) ((Ag.mk p5 p6 p7)) p0 v1 a1) XU rfl (qm rfl (qx rfl (qx rfl (qz Dc rfl (qs Ay rfl (qa rfl (Ae (Ab (Aa Ac rfl (qm rfl (Cb rfl (qa rfl (Ae ?_)))))))))))))
 obtain rfl := sj h
 refine Am (sm [] [(4, .e (.one (.pure (.val (.bool ((!v1.2)))))))] [] rfl rfl) (Az ?_)
 exact ⟨⟨[_], ⟨.tmp _ _ rfl, trivial⟩, rfl⟩, trivial⟩
set_option maxRecDepth 10000 in
theorem HL (N : Nat) (p0 : List Av) (p1 : Av → Option Bool) (r : Int) (h : Cc N p0 p1 = some r) : AB Tryz.prog 122 [.e (.one (.pure (.sl (p0.map A0)))), .e (.one (.clo (Bc (NS true A0) tB p1)))] [] (.e (.one (.pure (.val (.int .i64 r))))) := by
 unfold Cc at h
 refine As (n := 19) (rs := [.tmp 4]) Tryz.func122 rfl rfl rfl (A3 rfl) (A3 rfl) rfl fun w0 S0 => ?_
 refine Ab (Aa Ac rfl (qa rfl (Ae (Ab (Ab (Aa Ac rfl (qm rfl (AU FR rfl (qm rfl (Ae ?_))))))))))
 refine AC (L := Bl N p0 p1) h (fun v1 => mk [(0, .e (.one (.pure (.sl (p0.map A0))))), (1, .e (.one (.clo (Bc (NS true A0) tB p1)))), (7, .e (.one (.pure (.val (.int .i64 ((p0.length : Int))))))), (8, .e (.one (.pure (.val (.int .i64 v1)))))] []) (fun v2 => mk [] []) (fun _ _ => rfl) (sm [] _ _ rfl rfl) (fun j1 n1 v1 h => ?_) (fun v2 s h hs => ?_)
 ·unfold Bl at h
  refine Ab (Aa Ac rfl (AT rfl (Ae (Ab ?_))))
  refine Ap rfl (fun c3 => ?_) (fun c3 => ?_)
  ·have h := Ao c3 h
   refine Aq (Ab (AH (Ab (Aa Ac rfl (qm rfl (qa rfl (Ae (Ab (Aa Ac rfl (qm rfl (qm rfl (qm rfl ?_))))))))))))
   obtain ⟨v4, a4, b4, h⟩ := Ai h
   refine qi FR Ft a4 (Ah b4) rfl (qK I2 Ft rfl ?_)
   obtain ⟨v5, a5, h⟩ := bind_some h
   refine C9 (ds0 := [_]) (ar := (NS true A0) v4) (.p rfl) rfl rfl ⟨rfl, trivial⟩ rfl rfl rfl (C2 (My _ _ OI) a5) ?_
   refine Ae ?_
   refine Ap rfl (fun c6 => ?_) (fun c6 => ?_)
   ·have h := Ao c6 h
    refine Ab (Aa Ac rfl (qm rfl (qa rfl (Ae ?_))))
    obtain rfl := sj h
    refine Am (sm [] [(4, .e (.one (.pure (.val (.int .i64 v1)))))] [] rfl rfl) (Az ?_)
    exact ⟨⟨[_], ⟨.tmp _ _ rfl, trivial⟩, rfl⟩, trivial⟩
   ·have h := An c6 h
    refine Aq (Aa Ac rfl (AN rfl (qm rfl (Ae ?_))))
    exact Au _ h (sm [] _ _ rfl rfl)
  ·have h := An c3 h
   refine AP ?_
   exact Au _ h (sm [] _ _ rfl rfl)
 ·refine Am hs (Ab (Aa Ac rfl (qa rfl (Ae ?_))))
  obtain rfl := sj h
  refine Am (sm [] [(4, .e (.one (.pure (.val (.int .i64 ((-1)))))))] [] rfl rfl) (Az ?_)
  exact ⟨⟨[_], ⟨.tmp _ _ rfl, trivial⟩, rfl⟩, trivial⟩
set_option maxRecDepth 10000 in
theorem HH (N : Nat) (p0 : List Av) (p1 : Av → Option Bool) (r : Nat × (List Av)) (h : B9 N p0 p1 = some r) : Bi Tryz.prog 94 [.e (.one (.own 90000)), .e (.one (.clo (Bc (NS true A0) tB p1)))] [(.vec 3 (p0.map A0), .vec 3 (r.2.map A0))] [] (.e (.one (.view 90000 3 0 r.1))) := by
 unfold B9 at h
 refine A9 (n := 42) (rs := [.tmp 4]) Tryz.func94 rfl rfl rfl (A3 rfl) (A3 rfl) rfl rfl (A3 rfl) rfl (A3 rfl) fun w0 S0 GL => ?_
 refine Am (sm [] [(0, .e (.one (.own 90000))), (1, .e (.one (.clo (Bc (NS true A0) tB p1))))] [(90000, .vec 3 (p0.map A0))] rfl rfl) (Ab (Aa Ac rfl (qa rfl (Ae (Ab (Aa Ac rfl (qm rfl (qm rfl ?_))))))))
 obtain ⟨v1, a1, h⟩ := bind_some h
 refine Et [] [90000] (HL N p0 p1 v1 a1) Xv CQ rfl (qa rfl (Ae (Ab (Ab (Aa Ac rfl (qm rfl (BX rfl (Ae ?_))))))))
 refine Ap rfl (fun c2 => ?_) (fun c2 => ?_)
 ·have h := Ao c2 h
  refine Ab (Aa Ac rfl (qm rfl (qa rfl (Ae ?_))))
  obtain rfl := sj h
  refine Am ((Qy A0 p0 4 90000 3 rfl rfl).trans (sm [] [(4, .e (.one (.view 90000 3 0 p0.length)))] [(90000, .vec 3 (p0.map A0))] rfl rfl)) (Az ?_)
  exact ⟨⟨[_], ⟨.tmp _ _ rfl, trivial⟩, rfl⟩, ⟨rfl, trivial⟩, trivial⟩
 ·have h := An c2 h
  refine Aq (Ab (Ab (Aa Ac rfl (qm rfl (AN rfl (qa rfl (Ae ?_)))))))
  refine AC (L := Bd N p1) h (fun v3 => mk [(0, .e (.one (.own 90000))), (1, .e (.one (.clo (Bc (NS true A0) tB p1)))), (5, .e (.one (.pure (.val (.int .i64 v3.2.1))))), (6, .e (.one (.pure (.val (.int .i64 v3.2.2)))))] [(90000, .vec 3 (v3.1.map A0))]) (fun v4 => mk [(0, .e (.one (.own 90000))), (5, .e (.one (.pure (.val (.int .i64 v4.2)))))] [(90000, .vec 3 (v4.1.map A0))]) (fun _ _ => rfl) (sm [] _ _ rfl rfl) (fun j3 n3 v3 h => ?_) (fun v4 s h hs => ?_)
  ·unfold Bd at h
   refine Ab (Ab (Aa Ac rfl (qm rfl (qm rfl (FL FR rfl (AT rfl (Ae ?_)))))))
   refine Ap rfl (fun c5 => ?_) (fun c5 => ?_)
   ·have h := Ao c5 h
    refine Aq ?_
    refine AM h (fun v6 => mk [(0, .e (.one (.own 90000))), (1, .e (.one (.clo (Bc (NS true A0) tB p1)))), (5, .e (.one (.pure (.val (.int .i64 v6.2))))), (6, .e (.one (.pure (.val (.int .i64 v3.2.2)))))] [(90000, .vec 3 (v6.1.map A0))]) (fun j6 h => ?_) (fun v6 h => ?_)
    ·refine AH (Ab (Aa Ac rfl (qm rfl (qm rfl ?_))))
     obtain ⟨v7, a7, b7, h⟩ := Ai h
     refine qI FR Ft a7 (Ah b7) rfl (qJ I2 Ft (Ah b7) rfl (qz Kx rfl (qs Ft rfl (Ae (Ab (Aa Ac rfl (qm rfl (qL I2 Ft rfl ?_))))))))
     obtain ⟨v8, a8, h⟩ := bind_some h
     refine C9 (ds0 := [_]) (ar := (NS true A0) v7) (.p rfl) rfl rfl ⟨rfl, trivial⟩ rfl rfl rfl (C2 (My _ _ OI) a8) ?_
     refine Cb rfl (Ae ?_)
     refine Ap rfl (fun c9 => ?_) (fun c9 => ?_)
     ·have h := Ao c9 h
      refine Ab (Aa Ac rfl (qm rfl (qm rfl (qL I2 Ft rfl ?_))))
      obtain ⟨v10, a10, b10, h⟩ := Ai h
      refine qI FR Ft a10 (Ah b10) rfl ?_
      refine AV rfl rfl rfl rfl (Ah b10) rfl Ft rfl (A3 rfl) (AW A0 v3.1 _ v7) ?_
      refine Ae (Aa Ac rfl (qm rfl (AN rfl (qa rfl (Ae ?_)))))
      exact Au _ h (sm [] _ _ rfl rfl)
     ·have h := An c9 h
      refine Aq ?_
      exact Au _ h (sm [] _ _ rfl rfl)
    ·refine Aa Ac rfl (qm rfl (AN rfl (qa rfl (Ae ?_))))
     exact Au _ h (sm [] _ _ rfl rfl)
   ·have h := An c5 h
    refine AP ?_
    exact Au _ h (sm [] _ _ rfl rfl)
  ·refine Am hs (Ab (Aa Ac rfl (qm rfl (qm rfl ?_))))
   obtain ⟨c11, h⟩ := AQ h
   have w12 : ((v4.2).toNat) + ((v4.1.length - (v4.2).toNat)) ≤ v4.1.length := by have := c11.2.1; have := c11.2.2; omega
   refine JS A0 v4.1 (.p rfl) rfl (Jg A0 _ _ v4.1) rfl FR Ft (.some _ _ _ _ c11.1) (.none _) ⟨rfl, trivial⟩ trivial c11.2.1 (by rw [Nat.zero_add]; exact c11.2.2) (Nat.zero_add _) rfl ?_
   have w13 : (JA v4.1 ((v4.2).toNat) (List.replicate ((v4.1.length - (v4.2).toNat)) ((Av.mk 0 0 0)))).length = v4.1.length := JM (by rw [List.length_replicate]; exact w12)
   refine Rn A0 v4.1 ((Av.mk 0 0 0)) rfl rfl (Np A0 _ _ ((v4.2).toNat) ((v4.1.length - (v4.2).toNat)) v4.1 w12) rfl FR Kx rfl rfl rfl rfl ?_
   refine Ae (Ab (Aa Ac rfl (qm rfl (qm rfl ?_))))
   obtain ⟨c14, h⟩ := AQ h
   have w15 : 0 + ((v4.2).toNat) ≤ (JA v4.1 ((v4.2).toNat) (List.replicate ((v4.1.length - (v4.2).toNat)) ((Av.mk 0 0 0)))).length := by have := c14.2.1; have := c14.2.2; omega
   refine JS A0 (JA v4.1 ((v4.2).toNat) (List.replicate ((v4.1.length - (v4.2).toNat)) ((Av.mk 0 0 0)))) (.p rfl) rfl (Jg A0 _ _ (JA v4.1 ((v4.2).toNat) (List.replicate ((v4.1.length - (v4.2).toNat)) ((Av.mk 0 0 0))))) rfl FR Ft (.none _) (.some _ _ _ _ c14.1) trivial ⟨rfl, trivial⟩ c14.2.1 (by rw [Nat.zero_add]; exact c14.2.2) (Nat.zero_add _) rfl ?_
   refine qa rfl (Ae ?_)
   obtain rfl := sj h
   refine Am (sm [] [(4, .e (.one (.view 90000 3 0 ((v4.2).toNat))))] [(90000, .vec 3 ((JA v4.1 ((v4.2).toNat) (List.replicate ((v4.1.length - (v4.2).toNat)) ((Av.mk 0 0 0)))).map A0))] rfl rfl) (Az ?_)
   exact ⟨⟨[_], ⟨.tmp _ _ rfl, trivial⟩, rfl⟩, ⟨rfl, trivial⟩, trivial⟩
set_option maxRecDepth 10000 in
theorem J8 (N : Nat) (p0 : Ak) (p1 : Ag) (r : (List Av) × Int) (h : ED N p0 p1 = some r) : AB Tryz.prog 48 [.e (.agg [.pure (.sl (p0.fVersions.map Al)), .pure (.sl (p0.fNow.map Al)), .pure (.sl (p0.fTarget.map Al)), .pure (.sl (p0.fTables.map Ar))]), .e (.agg [.pure (.sl (p1.fBase.map Al)), .pure (.sl (p1.fNext.map Al)), .pure (.sl (p1.fHeld.map Bg))])] [(3, r.1.map A0)] (.tup [.one (.own 0), .one (.pure (.val (.int .i64 r.2)))]) := by
 unfold ED at h
 refine As (n := 17) (rs := [.tmp 4, .tmp 5]) Tryz.func48 rfl rfl rfl (A3 rfl) (A3 rfl) rfl fun w0 S0 => ?_
 refine Ab (Aa Ac rfl (qb rfl (qb rfl (qa rfl (qa rfl (Ae (Ab (Ab (Aa Ac rfl (qL EH Ep rfl (qL A4 Ay rfl ?_)))))))))))
 obtain ⟨v1, a1, h⟩ := bind_some h
 refine AG [] (Ja N p0 p1 v1 a1) TQ rfl (qa rfl (Ae (Ab (Aa Ac rfl (qm rfl (Ct rfl (Ae ?_)))))))
 refine Ap rfl (fun c2 => ?_) (fun c2 => ?_)
 ·have h := Ao c2 h
  refine Ab (Aa Ac rfl (qm rfl (qa rfl (qa rfl (Ae ?_)))))
  obtain rfl := sj h
  refine Am ((Br 4 2001 3 rfl rfl rfl).trans (sm [(1000, 2001)] [(4, .e (.one (.own 1000))), (5, .e (.one (.pure (.val (.int .i64 v1)))))] [(1000, .vec 3 ((([] : List Av)).map A0))] rfl rfl)) (Az ?_)
  exact ⟨⟨[_, _], ⟨.tmp _ _ rfl, ⟨.tmp _ _ rfl, trivial⟩⟩, rfl⟩, ⟨rfl, trivial⟩⟩
 ·have h := An c2 h
  refine Aq (Ab (Aa Ac rfl (qL EH Ep rfl ?_)))
  obtain ⟨v3, a3, h⟩ := bind_some h
  refine AG [2002] (Sg N p0 v3 a3) Zl rfl (Ev (MO 2 [.sl (p0.fVersions.map Al), .sl (p0.fNow.map Al), .sl (p0.fTarget.map Al), .sl (p0.fTables.map Ar)] rfl rfl) (Ev (MO 3 [.sl (p1.fBase.map Al), .sl (p1.fNext.map Al), .sl (p1.fHeld.map Bg)] rfl rfl) ?_))
  refine Mn (capD := [_, _]) (Bc (NS true A0) tB ((fun (x : Av) => Eu N x p0.fVersions p0.fNow p0.fTarget p0.fTables p1.fBase p1.fNext p1.fHeld))) (.p rfl) Y6 rfl ⟨rfl, rfl, trivial⟩ rfl (fun ar t ht => by obtain ⟨x, r, rfl, hq, rfl⟩ := IX ht; exact Ng N x p0.fVersions p0.fNow p0.fTarget p0.fTables p1.fBase p1.fNext p1.fHeld r hq) ?_
  obtain ⟨v4, a4, h⟩ := bind_some h
  obtain ⟨c5, h⟩ := AQ h
  have w6 : 0 + v4.1 ≤ v4.2.length := by rw [Nat.zero_add]; exact c5
  refine BD (ds0 := [_, _]) [2002] [] [true] (HH N v3 ((fun (x : Av) => Eu N x p0.fVersions p0.fNow p0.fTarget p0.fTables p1.fBase p1.fNext p1.fHeld)) v4 a4) (.p rfl) Zc rfl ⟨rfl, rfl, trivial⟩ rfl rfl (by decide) ⟨rfl, trivial⟩ rfl (AX rfl) trivial ⟨(fun h => by cases h), trivial⟩ rfl rfl rfl ?_
  refine Ev (TX A0 v4.2 16 2002 2003 3 v4.1 rfl rfl rfl rfl rfl c5) (qa rfl (qa rfl (Ae ?_)))
  obtain rfl := sj h
  refine Am (sm [(1000, 2003)] [(4, .e (.one (.own 1000))), (5, .e (.one (.pure (.val (.int .i64 0)))))] [(1000, .vec 3 ((v4.2.take v4.1).map A0))] rfl rfl) (Az ?_)
  exact ⟨⟨[_, _], ⟨.tmp _ _ rfl, ⟨.tmp _ _ rfl, trivial⟩⟩, rfl⟩, ⟨rfl, trivial⟩⟩
set_option maxRecDepth 10000 in
theorem Qd (N : Nat) (p0 : Av) (r : Bool) (h : H1 N p0 = some r) : AB Tryz.prog 126 [.e (.agg [.pure (.val (.int .i64 p0.fKind)), .pure (.val (.int .i64 p0.fIndex)), .pure (.val (.int .i64 p0.fVersion))])] [] (.e (.one (.pure (.val (.bool r))))) := by
 unfold H1 at h
 refine As (n := 27) (rs := [.tmp 2]) Tryz.func126 rfl rfl rfl (A3 rfl) (A3 rfl) rfl fun w0 S0 => ?_
 refine Ab (Aa Ac rfl (qb rfl (qa rfl (Ae (Ab ?_)))))
 refine AM h (fun v1 => mk [(1, .e (.one (.ptr 1 0))), (18, .e (.one (.pure (.val (.bool v1)))))] [(1, .box [.pure (.val (.int .i64 p0.fKind)), .pure (.val (.int .i64 p0.fIndex)), .pure (.val (.int .i64 p0.fVersion))])]) (fun j1 h => ?_) (fun v1 h => ?_)
 ·refine Aa Ac rfl (qf F2 rfl (ql CN rfl (qf H5 rfl (ql CN rfl ?_))))
  refine Yw (.p rfl) rfl rfl ?_
  refine AT rfl (qm rfl ?_)
  refine AD (t := 9) rfl (fun c2 => ?_) (fun c2 => ?_)
  ·have h := Ao c2 h
   refine qn rfl (qn rfl (qn rfl (qp rfl (qm rfl (qn rfl (qn rfl (qn rfl (qp rfl (Ae ?_)))))))))
   exact Au _ h (sm [] _ _ rfl rfl)
  ·have h := An c2 h
   refine qf GN rfl (ql CN rfl (AT rfl (qp rfl (qm rfl ?_))))
   refine AD (t := 14) rfl (fun c3 => ?_) (fun c3 => ?_)
   ·have h := Ao c3 h
    refine qn rfl (qn rfl (qn rfl (qp rfl (Ae ?_))))
    exact Au _ h (sm [] _ _ rfl rfl)
   ·have h := An c3 h
    refine qf GN rfl (ql CN rfl (Fv rfl (qp rfl (Ae ?_))))
    exact Au _ h (sm [] _ _ rfl rfl)
 ·refine Ap rfl (fun c4 => ?_) (fun c4 => ?_)
  ·have h := Ao c4 h
   refine Ab (Aa Ac rfl (qa rfl (Ae ?_)))
   obtain rfl := sj h
   refine Am (sm [] [(2, .e (.one (.pure (.val (.bool false)))))] [] rfl rfl) (Az ?_)
   exact ⟨⟨[_], ⟨.tmp _ _ rfl, trivial⟩, rfl⟩, trivial⟩
  ·have h := An c4 h
   refine Aq ?_
   refine AM h (fun v5 => mk [(2, .e (.one (.pure (.val (.bool v5)))))] []) (fun j5 h => ?_) (fun v5 h => ?_)
   ·refine Aa Ac rfl (qf GN rfl (ql CN rfl (BX rfl (qm rfl ?_))))
    refine AD (t := 22) rfl (fun c6 => ?_) (fun c6 => ?_)
    ·have h := Ao c6 h
     refine qn rfl (qn rfl (qn rfl (qp rfl (qa rfl (Ae ?_)))))
     exact Au _ h (sm [] _ _ rfl rfl)
    ·have h := An c6 h
     refine qf H5 rfl (ql CN rfl (BX rfl (qp rfl (qa rfl (Ae ?_)))))
     exact Au _ h (sm [] _ _ rfl rfl)
   ·obtain rfl := sj h
    refine Am (sm [] [(2, .e (.one (.pure (.val (.bool v5)))))] [] rfl rfl) (Az ?_)
    exact ⟨⟨[_], ⟨.tmp _ _ rfl, trivial⟩, rfl⟩, trivial⟩
set_option maxRecDepth 10000 in
theorem Pc (N : Nat) (p0 : Ak) (p1 : Av) (r : Bool) (h : Hl N p0 p1 = some r) : AB Tryz.prog 127 [.e (.agg [.pure (.sl (p0.fVersions.map Al)), .pure (.sl (p0.fNow.map Al)), .pure (.sl (p0.fTarget.map Al)), .pure (.sl (p0.fTables.map Ar))]), .e (.agg [.pure (.val (.int .i64 p1.fKind)), .pure (.val (.int .i64 p1.fIndex)), .pure (.val (.int .i64 p1.fVersion))])] [] (.e (.one (.pure (.val (.bool r))))) := by
 unfold Hl at h
 refine As (n := 36) (rs := [.tmp 4]) Tryz.func127 rfl rfl rfl (A3 rfl) (A3 rfl) rfl fun w0 S0 => ?_
 refine Ab (Aa Ac rfl (qb rfl (qb rfl (qa rfl (Ae (Ab (Ab (Aa Ac rfl (qf GN rfl (ql CN rfl (BX rfl (Ae ?_))))))))))))
 refine Ap rfl (fun c1 => ?_) (fun c1 => ?_)
 ·have h := Ao c1 h
  refine Ab (Aa Ac rfl (qf F2 rfl (ql CN rfl (qf DS rfl (ql IM rfl (AU Fk rfl (AT rfl (qa rfl (Ae ?_)))))))))
  obtain rfl := sj h
  refine Am (sm [] [(4, .e (.one (.pure (.val (.bool ((decide (p1.fIndex < (p0.fTables.length : Int)))))))))] [] rfl rfl) (Az ?_)
  exact ⟨⟨[_], ⟨.tmp _ _ rfl, trivial⟩, rfl⟩, trivial⟩
 ·have h := An c1 h
  refine Aq ?_
  refine AM h (fun v2 => mk [(4, .e (.one (.pure (.val (.bool v2)))))] []) (fun j2 h => ?_) (fun v2 h => ?_)
  ·refine Aa Ac rfl (qf F2 rfl (ql CN rfl (qf BF rfl (ql Bo rfl (AU AJ rfl (AT rfl (qm rfl ?_)))))))
   refine AD (t := 20) rfl (fun c3 => ?_) (fun c3 => ?_)
   ·have h := Ao c3 h
    refine qf GN rfl (ql CN rfl (Ct rfl (qm rfl ?_)))
    refine AD (t := 24) rfl (fun c4 => ?_) (fun c4 => ?_)
    ·have h := Ao c4 h
     refine qn rfl (qn rfl (qn rfl (qn rfl (qn rfl (qn rfl (qn rfl (qn rfl (qn rfl (qp rfl (qp rfl (qa rfl (AA (by kernel_rfl) ?_))))))))))))
     exact Au _ h (sm [] _ _ rfl rfl)
    ·have h := An c4 h
     refine qf H5 rfl (ql CN rfl (qf BF rfl (ql Bo rfl (qf F2 rfl (ql CN rfl ?_)))))
     obtain ⟨v5, a5, b5, h⟩ := Ai h
     refine qi AJ Ec a5 (Ah b5) rfl (qk CN rfl (AT rfl (qp rfl (qp rfl (qa rfl (AA (by kernel_rfl) ?_))))))
     exact Au _ h (sm [] _ _ rfl rfl)
   ·have h := An c3 h
    refine qn rfl (qn rfl (qn rfl (qn rfl (qu rfl (qu rfl (qu rfl (qu rfl (qu rfl (qu rfl (qu rfl (qu rfl (qu rfl (qn rfl (qp rfl (qa rfl (AA (by kernel_rfl) ?_))))))))))))))))
    exact Au _ h (sm [] _ _ rfl rfl)
  ·obtain rfl := sj h
   refine Am (sm [] [(4, .e (.one (.pure (.val (.bool v2)))))] [] rfl rfl) (Az ?_)
   exact ⟨⟨[_], ⟨.tmp _ _ rfl, trivial⟩, rfl⟩, trivial⟩
set_option maxRecDepth 10000 in
theorem Qq (N : Nat) (p0 : Ak) (p1 : Ag) (p2 : Av) (r : Ag × Int) (h : HT N p0 p1 p2 = some r) : AB Tryz.prog 98 [.e (.agg [.pure (.sl (p0.fVersions.map Al)), .pure (.sl (p0.fNow.map Al)), .pure (.sl (p0.fTarget.map Al)), .pure (.sl (p0.fTables.map Ar))]), .e (.agg [.pure (.sl (p1.fBase.map Al)), .pure (.sl (p1.fNext.map Al)), .pure (.sl (p1.fHeld.map Bg))]), .e (.agg [.pure (.val (.int .i64 p2.fKind)), .pure (.val (.int .i64 p2.fIndex)), .pure (.val (.int .i64 p2.fVersion))])] [(1, r.1.fBase.map Al), (1, r.1.fNext.map Al), (1, r.1.fHeld.map Bg)] (.tup [.agg [.own 0, .own 1, .own 2], .one (.pure (.val (.int .i64 r.2)))]) := by
 unfold HT at h
 refine As (n := 32) (rs := [.cell 6 46, .tmp 7]) Tryz.func98 rfl rfl rfl (A3 rfl) (A3 rfl) rfl fun w0 S0 => ?_
 refine Ab (Aa Ac rfl (qb rfl (qb rfl (qb rfl (qz Dc rfl (qa rfl (Ae (Ab (AH (Ab (Aa Ac rfl (qL I2 Ft rfl ?_))))))))))))
 obtain ⟨v1, a1, h⟩ := bind_some h
 refine AG [] (Qd N p2 v1 a1) XI rfl (Cb rfl (qa rfl (Ae ?_)))
 refine Ap rfl (fun c2 => ?_) (fun c2 => ?_)
 ·have h := Ao c2 h
  refine Ab (Aa Ac rfl (Bq Dc HS rfl (qs Ay rfl (qa rfl (Ae ?_)))))
  obtain rfl := sj h
  refine Am ((AF 6 0 2001 1 _ rfl rfl rfl rfl).trans ((AF 6 1 2002 1 _ rfl rfl rfl rfl).trans ((AF 6 2 2003 1 _ rfl rfl rfl rfl).trans (sm [(1000, 2001), (1001, 2002), (1002, 2003)] [(6, .e (.one (.ptr 6 0))), (7, .e (.one (.pure (.val (.int .i64 1)))))] [(6, .box [.own 1000, .own 1001, .own 1002]), (1000, .vec 1 ((([] : List Int)).map Al)), (1001, .vec 1 ((([] : List Int)).map Al)), (1002, .vec 1 ((([] : List Int)).map Bg))] rfl rfl)))) (Az ?_)
  exact ⟨⟨[_, _], ⟨.cellN _ _ _ _ _ _ _ rfl rfl A4 Ay rfl rfl (Jw rfl), ⟨.tmp _ _ rfl, trivial⟩⟩, rfl⟩, ⟨rfl, rfl, rfl, trivial⟩⟩
 ·have h := An c2 h
  refine Ab (Aa Ac rfl (qL EH Ep rfl (qL I2 Ft rfl ?_)))
  obtain ⟨v3, a3, h⟩ := bind_some h
  refine AG [] (Pc N p0 p2 v3 a3) Yq rfl (Cb rfl (qa rfl (Ae ?_)))
  refine Ap rfl (fun c4 => ?_) (fun c4 => ?_)
  ·have h := Ao c4 h
   refine Ab (Aa Ac rfl (Bq Dc HS rfl (qs Ay rfl (qa rfl (Ae ?_)))))
   obtain rfl := sj h
   refine Am ((AF 6 0 2004 1 _ rfl rfl rfl rfl).trans ((AF 6 1 2005 1 _ rfl rfl rfl rfl).trans ((AF 6 2 2006 1 _ rfl rfl rfl rfl).trans (sm [(1000, 2004), (1001, 2005), (1002, 2006)] [(6, .e (.one (.ptr 6 0))), (7, .e (.one (.pure (.val (.int .i64 4)))))] [(6, .box [.own 1000, .own 1001, .own 1002]), (1000, .vec 1 ((([] : List Int)).map Al)), (1001, .vec 1 ((([] : List Int)).map Al)), (1002, .vec 1 ((([] : List Int)).map Bg))] rfl rfl)))) (Az ?_)
   exact ⟨⟨[_, _], ⟨.cellN _ _ _ _ _ _ _ rfl rfl A4 Ay rfl rfl (Jw rfl), ⟨.tmp _ _ rfl, trivial⟩⟩, rfl⟩, ⟨rfl, rfl, rfl, trivial⟩⟩
  ·have h := An c4 h
   refine Aq (Ab (Aa Ac rfl (qL EH Ep rfl (qL A4 Ay rfl (qL I2 Ft rfl ?_)))))
   obtain ⟨v5, a5, h⟩ := bind_some h
   refine AG [2007, 2008, 2009] (MZ N p0 p1 p2 v5 a5) XU rfl (qm rfl (qx rfl (qx rfl (qz Dc rfl (qs Ay rfl (qa rfl (Ae (Ab (Ab (Aa Ac rfl (qm rfl (Cb rfl (Ae ?_)))))))))))))
   refine Ap rfl (fun c6 => ?_) (fun c6 => ?_)
   ·have h := Ao c6 h
    refine Ab (Aa Ac rfl (Bq Dc HS rfl (qs Ay rfl (qa rfl (Ae ?_)))))
    obtain rfl := sj h
    refine Am ((AF 6 0 2010 1 _ rfl rfl rfl rfl).trans ((AF 6 1 2011 1 _ rfl rfl rfl rfl).trans ((AF 6 2 2012 1 _ rfl rfl rfl rfl).trans (sm [(1000, 2010), (1001, 2011), (1002, 2012)] [(6, .e (.one (.ptr 6 0))), (7, .e (.one (.pure (.val (.int .i64 11)))))] [(6, .box [.own 1000, .own 1001, .own 1002]), (1000, .vec 1 ((([] : List Int)).map Al)), (1001, .vec 1 ((([] : List Int)).map Al)), (1002, .vec 1 ((([] : List Int)).map Bg))] rfl rfl)))) (Az ?_)
    exact ⟨⟨[_, _], ⟨.cellN _ _ _ _ _ _ _ rfl rfl A4 Ay rfl rfl (Jw rfl), ⟨.tmp _ _ rfl, trivial⟩⟩, rfl⟩, ⟨rfl, rfl, rfl, trivial⟩⟩
   ·have h := An c6 h
    refine Aq (Ab (Aa Ac rfl (qL A4 Ay rfl (qs Ay rfl (qa rfl (Ae ?_))))))
    obtain rfl := sj h
    refine Am (sm [(1000, 2007), (1001, 2008), (1002, 2009)] [(6, .e (.one (.ptr 6 0))), (7, .e (.one (.pure (.val (.int .i64 0)))))] [(6, .box [.own 1000, .own 1001, .own 1002]), (1000, .vec 1 (v5.1.fBase.map Al)), (1001, .vec 1 (v5.1.fNext.map Al)), (1002, .vec 1 (v5.1.fHeld.map Bg))] rfl rfl) (Az ?_)
    exact ⟨⟨[_, _], ⟨.cellN _ _ _ _ _ _ _ rfl rfl A4 Ay rfl rfl (Jw rfl), ⟨.tmp _ _ rfl, trivial⟩⟩, rfl⟩, ⟨rfl, rfl, rfl, trivial⟩⟩
set_option maxRecDepth 10000 in
theorem K1 (N : Nat) (p0 : Ak) (p1 : Ag) (p2 : Av) (r : Ag × Int) (h : Gt N p0 p1 p2 = some r) : AB Tryz.prog 49 [.e (.agg [.pure (.sl (p0.fVersions.map Al)), .pure (.sl (p0.fNow.map Al)), .pure (.sl (p0.fTarget.map Al)), .pure (.sl (p0.fTables.map Ar))]), .e (.agg [.pure (.sl (p1.fBase.map Al)), .pure (.sl (p1.fNext.map Al)), .pure (.sl (p1.fHeld.map Bg))]), .e (.agg [.pure (.val (.int .i64 p2.fKind)), .pure (.val (.int .i64 p2.fIndex)), .pure (.val (.int .i64 p2.fVersion))])] [(1, r.1.fBase.map Al), (1, r.1.fNext.map Al), (1, r.1.fHeld.map Bg)] (.tup [.agg [.own 0, .own 1, .own 2], .one (.pure (.val (.int .i64 r.2)))]) := by
 unfold Gt at h
 refine As (n := 22) (rs := [.cell 6 46, .tmp 7]) Tryz.func49 rfl rfl rfl (A3 rfl) (A3 rfl) rfl fun w0 S0 => ?_
 refine Ab (Aa Ac rfl (qb rfl (qb rfl (qb rfl (qz Dc rfl (qa rfl (Ae (Ab (Ab (Aa Ac rfl (qL EH Ep rfl (qL A4 Ay rfl ?_))))))))))))
 obtain ⟨v1, a1, h⟩ := bind_some h
 refine AG [] (Ja N p0 p1 v1 a1) TQ rfl (qa rfl (Ae (Ab (Aa Ac rfl (qm rfl (Ct rfl (Ae ?_)))))))
 refine Ap rfl (fun c2 => ?_) (fun c2 => ?_)
 ·have h := Ao c2 h
  refine Ab (Aa Ac rfl (Bq Dc HS rfl (qm rfl (qs Ay rfl (qa rfl (Ae ?_))))))
  obtain rfl := sj h
  refine Am ((AF 6 0 2001 1 _ rfl rfl rfl rfl).trans ((AF 6 1 2002 1 _ rfl rfl rfl rfl).trans ((AF 6 2 2003 1 _ rfl rfl rfl rfl).trans (sm [(1000, 2001), (1001, 2002), (1002, 2003)] [(6, .e (.one (.ptr 6 0))), (7, .e (.one (.pure (.val (.int .i64 v1)))))] [(6, .box [.own 1000, .own 1001, .own 1002]), (1000, .vec 1 ((([] : List Int)).map Al)), (1001, .vec 1 ((([] : List Int)).map Al)), (1002, .vec 1 ((([] : List Int)).map Bg))] rfl rfl)))) (Az ?_)
  exact ⟨⟨[_, _], ⟨.cellN _ _ _ _ _ _ _ rfl rfl A4 Ay rfl rfl (Jw rfl), ⟨.tmp _ _ rfl, trivial⟩⟩, rfl⟩, ⟨rfl, rfl, rfl, trivial⟩⟩
 ·have h := An c2 h
  refine Aq (Ab (Aa Ac rfl (qL EH Ep rfl (qL A4 Ay rfl (qL I2 Ft rfl ?_)))))
  obtain ⟨v3, a3, h⟩ := bind_some h
  refine AG [2004, 2005, 2006] (Qq N p0 p1 p2 v3 a3) Zu rfl (qx rfl (qx rfl (qs Ay rfl (qa rfl (Ae ?_)))))
  obtain rfl := sj h
  refine Am (sm [(1000, 2004), (1001, 2005), (1002, 2006)] [(6, .e (.one (.ptr 6 0))), (7, .e (.one (.pure (.val (.int .i64 v3.2)))))] [(6, .box [.own 1000, .own 1001, .own 1002]), (1000, .vec 1 (v3.1.fBase.map Al)), (1001, .vec 1 (v3.1.fNext.map Al)), (1002, .vec 1 (v3.1.fHeld.map Bg))] rfl rfl) (Az ?_)
  exact ⟨⟨[_, _], ⟨.cellN _ _ _ _ _ _ _ rfl rfl A4 Ay rfl rfl (Jw rfl), ⟨.tmp _ _ rfl, trivial⟩⟩, rfl⟩, ⟨rfl, rfl, rfl, trivial⟩⟩
set_option maxRecDepth 10000 in
theorem P6 (N : Nat) (p0 : Ak) (p1 : Ag) (r : (List Av) × (List Ag)) (h : Kt N p0 p1 = some r) : AB Tryz.prog 85 [.e (.agg [.pure (.sl (p0.fVersions.map Al)), .pure (.sl (p0.fNow.map Al)), .pure (.sl (p0.fTarget.map Al)), .pure (.sl (p0.fTables.map Ar))]), .e (.agg [.pure (.sl (p1.fBase.map Al)), .pure (.sl (p1.fNext.map Al)), .pure (.sl (p1.fHeld.map Bg))])] [(3, r.1.map A0), (3, r.2.map Aj)] (.tup [.one (.own 0), .one (.own 1)]) := by
 unfold Kt at h
 refine As (n := 55) (rs := [.tmp 4, .tmp 5]) Tryz.func85 rfl rfl rfl (A3 rfl) (A3 rfl) rfl fun w0 S0 => ?_
 refine Ab (Aa Ac rfl (qb rfl (qb rfl (qa rfl (qa rfl (Ae (Ab (Aa Ac rfl (qa rfl (Ae (Ab (Aa Ac rfl (qa rfl (Ae (Ab (Aa Ac rfl (qL EH Ep rfl (qL A4 Ay rfl ?_))))))))))))))))))
 obtain ⟨v1, a1, h⟩ := bind_some h
 refine AG [2001] (J8 N p0 p1 v1 a1) W0 rfl (qm rfl (qx rfl (qx rfl (qa rfl (qa rfl (Ae (Ab (Ab (Aa Ac rfl (qm rfl (FL FR rfl (qm rfl (Ae ?_)))))))))))))
 refine AC (L := HE N p0 p1 v1) h (fun v2 => mk [(2, .e (.one (.ptr 2 0))), (3, .e (.one (.ptr 3 0))), (6, .e (.one (.own 2002))), (7, .e (.one (.own 2003))), (22, .e (.one (.own 2004))), (23, .e (.one (.pure (.val (.int .i64 ((v1.1.length : Int))))))), (24, .e (.one (.pure (.val (.int .i64 v2.2.2)))))] [(2, .box [.pure (.sl (p0.fVersions.map Al)), .pure (.sl (p0.fNow.map Al)), .pure (.sl (p0.fTarget.map Al)), .pure (.sl (p0.fTables.map Ar))]), (3, .box [.pure (.sl (p1.fBase.map Al)), .pure (.sl (p1.fNext.map Al)), .pure (.sl (p1.fHeld.map Bg))]), (2002, .vec 3 (v2.1.map A0)), (2003, .vec 3 (v2.2.1.map Aj)), (2004, .vec 3 (v1.1.map A0))]) (fun v3 => mk [(6, .e (.one (.own 2005))), (7, .e (.one (.own 2006)))] [(2005, .vec 3 (v3.1.map A0)), (2006, .vec 3 (v3.2.map Aj))]) (fun _ _ => rfl) ((Br 6 2013 3 rfl rfl rfl).trans ((Br 7 2014 3 rfl rfl rfl).trans (sm [(2002, 2013), (2003, 2014), (2004, 2001)] _ _ rfl rfl))) (fun j2 n2 v2 h => ?_) (fun v3 s h hs => ?_)
 ·unfold HE at h
  refine Ab (Aa Ac rfl (AT rfl (Ae (Ab ?_))))
  refine Ap rfl (fun c4 => ?_) (fun c4 => ?_)
  ·have h := Ao c4 h
   refine Aq ?_
   refine AM h (fun v5 => mk [(2, .e (.one (.ptr 2 0))), (3, .e (.one (.ptr 3 0))), (6, .e (.one (.own 2007))), (7, .e (.one (.own 2008))), (22, .e (.one (.own 2009))), (23, .e (.one (.pure (.val (.int .i64 ((v1.1.length : Int))))))), (24, .e (.one (.pure (.val (.int .i64 v2.2.2)))))] [(2, .box [.pure (.sl (p0.fVersions.map Al)), .pure (.sl (p0.fNow.map Al)), .pure (.sl (p0.fTarget.map Al)), .pure (.sl (p0.fTables.map Ar))]), (3, .box [.pure (.sl (p1.fBase.map Al)), .pure (.sl (p1.fNext.map Al)), .pure (.sl (p1.fHeld.map Bg))]), (2007, .vec 3 (v5.1.map A0)), (2008, .vec 3 (v5.2.map Aj)), (2009, .vec 3 (v1.1.map A0))]) (fun j5 h => ?_) (fun v5 h => ?_)
   ·refine AH (Ab (Aa Ac rfl ?_))
    obtain ⟨v6, a6, b6, h⟩ := Ai h
    refine qI FR Ft a6 (Ah b6) rfl (qJ I2 Ft (Ah b6) rfl (qz Kx rfl (qs Ft rfl (Ae (Ab (Aa Ac rfl (qL EH Ep rfl (qL A4 Ay rfl (qL I2 Ft rfl ?_)))))))))
    obtain ⟨v7, a7, h⟩ := bind_some h
    refine AG [2010, 2011, 2012] (K1 N p0 p1 v6 v7 a7) W6 rfl (qm rfl (qx rfl (qx rfl (qz Dc rfl (qs Ay rfl (qa rfl (Ae (Ab (Ab (Aa Ac rfl (qm rfl (Ct rfl (Ae ?_)))))))))))))
    refine Ap rfl (fun c8 => ?_) (fun c8 => ?_)
    ·have h := Ao c8 h
     refine AP ?_
     exact Au _ h (sm [(2007, 2002), (2008, 2003), (2009, 2004)] _ _ rfl rfl)
    ·have h := An c8 h
     refine Aq (Ab (Aa Ac rfl (qL EH Ep rfl (qL A4 Ay rfl ?_))))
     obtain ⟨v9, a9, h⟩ := bind_some h
     refine Et [] [2010, 2011, 2012] (II N p0 v7.1 v9 a9) T8 CQ rfl (qm rfl (qx rfl (qx rfl (qa rfl (qa rfl (Ae (Ab (Aa Ac rfl (qm rfl (Ae ?_))))))))))
     refine Ap rfl (fun c10 => ?_) (fun c10 => ?_)
     ·have h := Ao c10 h
      refine Am (Bm 2010 _ _ rfl rfl) (Am (Bm 2011 _ _ rfl rfl) (Am (Bm 2012 _ _ rfl rfl) (Aa Ac rfl (qm rfl (qL I2 Ft rfl (EU FR Ft Kx rfl ?_))))))
      obtain ⟨c11, h⟩ := AQ h
      refine El (f := A0) FR FR Ft RM Kx c11 rfl (qm rfl (qL A4 Ay rfl (EU AZ Ay Dc rfl ?_)))
      obtain ⟨c12, h⟩ := AQ h
      refine El (f := Aj) AZ AZ Ay ST Dc c12 rfl (qa rfl (qa rfl (AA (by kernel_rfl) ?_)))
      exact Au _ h (sm [(2007, 47), (2008, 51), (2009, 2004)] _ _ rfl rfl)
     ·have h := An c10 h
      refine Aq ?_
      exact Au _ h (sm [(2007, 2002), (2008, 2003), (2009, 2004)] _ _ rfl rfl)
   ·refine Aa Ac rfl (AN rfl (qm rfl (Ae ?_)))
    exact Au _ h (sm [(2002, 2007), (2003, 2008), (2004, 2009)] _ _ rfl rfl)
  ·have h := An c4 h
   refine AP ?_
   exact Au _ h (sm [(2005, 2002), (2006, 2003)] _ _ rfl rfl)
 ·refine Am hs (Ab (Aa Ac rfl (qm rfl (qm rfl (qa rfl (qa rfl (Ae ?_)))))))
  obtain rfl := sj h
  refine Am (sm [(1000, 2005), (1001, 2006)] [(4, .e (.one (.own 1000))), (5, .e (.one (.own 1001)))] [(1000, .vec 3 (v3.1.map A0)), (1001, .vec 3 (v3.2.map Aj))] rfl rfl) (Az ?_)
  exact ⟨⟨[_, _], ⟨.tmp _ _ rfl, ⟨.tmp _ _ rfl, trivial⟩⟩, rfl⟩, ⟨rfl, rfl, trivial⟩⟩
set_option maxRecDepth 10000 in
theorem MA (N : Nat) (p0 : Int) (r : Int) (h : Ih N p0 = some r) : AB Tryz.prog 140 [.e (.one (.pure (.val (.int .u32 p0))))] [] (.e (.one (.pure (.val (.int .i64 r))))) := by
 unfold Ih at h
 refine As (n := 19) (rs := [.tmp 2]) Tryz.func140 rfl rfl rfl (A3 rfl) (A3 rfl) rfl fun w0 S0 => ?_
 refine Ab (Aa Ac rfl (qa rfl (Ae ?_)))
 refine AM h (fun v1 => mk [(0, .e (.one (.pure (.val (.int .u32 v1.1))))), (2, .e (.one (.pure (.val (.int .i64 v1.2)))))] []) (fun j1 h => ?_) (fun v1 h => ?_)
 ·refine Ab (Aa Ac rfl (qm rfl (Db rfl (Ae ?_))))
  refine Ap rfl (fun c2 => ?_) (fun c2 => ?_)
  ·have h := Ao c2 h
   refine Ab (Aa Ac rfl (qm rfl (Iq rfl (by decide) (qa rfl (Ae (Aa Ac rfl (qa rfl (Ae ?_))))))))
   exact Au _ h (sm [] _ _ rfl rfl)
  ·have h := An c2 h
   refine Aq ?_
   exact Au _ h (sm [] _ _ rfl rfl)
 ·refine AM h (fun v3 => mk [(0, .e (.one (.pure (.val (.int .u32 v3.1))))), (2, .e (.one (.pure (.val (.int .i64 v3.2)))))] []) (fun j3 h => ?_) (fun v3 h => ?_)
  ·refine Ab (Aa Ac rfl (qm rfl (Db rfl (Ae ?_))))
   refine Ap rfl (fun c4 => ?_) (fun c4 => ?_)
   ·have h := Ao c4 h
    refine Ab (Aa Ac rfl (qm rfl (Iq rfl (by decide) (qa rfl (Ae (Aa Ac rfl (qm rfl (AN rfl (qa rfl (Ae ?_))))))))))
    exact Au _ h (sm [] _ _ rfl rfl)
   ·have h := An c4 h
    refine Aq ?_
    exact Au _ h (sm [] _ _ rfl rfl)
  ·refine Ab (Aa Ac rfl (qm rfl (qm rfl (Hj QW YR rfl ?_))))
   obtain ⟨v5, a5, h⟩ := bind_some h
   refine Nv (.p rfl) rfl rfl Vh a5 ?_
   refine Hj Vg SI rfl (AN rfl (qa rfl (Ae ?_)))
   obtain rfl := sj h
   refine Am (sm [] [(2, .e (.one (.pure (.val (.int .i64 ((IntKind.wrap .i64 (v3.2 + (IntKind.wrap .i64 v5)))))))))] [] rfl rfl) (Az ?_)
   exact ⟨⟨[_], ⟨.tmp _ _ rfl, trivial⟩, rfl⟩, trivial⟩
set_option maxRecDepth 10000 in
theorem ML (N : Nat) (p0 : Int) (r : Int) (h : Ic N p0 = some r) : AB Tryz.prog 141 [.e (.one (.pure (.val (.int .u64 p0))))] [] (.e (.one (.pure (.val (.int .i64 r))))) := by
 unfold Ic at h
 refine As (n := 25) (rs := [.tmp 2]) Tryz.func141 rfl rfl rfl (A3 rfl) (A3 rfl) rfl fun w0 S0 => ?_
 refine Ab (Aa Ac rfl (qa rfl (Ae ?_)))
 refine AM h (fun v1 => mk [(0, .e (.one (.pure (.val (.int .u64 v1.1))))), (2, .e (.one (.pure (.val (.int .i64 v1.2)))))] []) (fun j1 h => ?_) (fun v1 h => ?_)
 ·refine Ab (Aa Ac rfl (qm rfl (Db rfl (Ae ?_))))
  refine Ap rfl (fun c2 => ?_) (fun c2 => ?_)
  ·have h := Ao c2 h
   refine Ab (Aa Ac rfl (qm rfl (Iq rfl (by decide) (qa rfl (Ae (Aa Ac rfl (qa rfl (Ae ?_))))))))
   exact Au _ h (sm [] _ _ rfl rfl)
  ·have h := An c2 h
   refine Aq ?_
   exact Au _ h (sm [] _ _ rfl rfl)
 ·refine AM h (fun v3 => mk [(0, .e (.one (.pure (.val (.int .u64 v3.1))))), (2, .e (.one (.pure (.val (.int .i64 v3.2)))))] []) (fun j3 h => ?_) (fun v3 h => ?_)
  ·refine Ab (Aa Ac rfl (qm rfl (Db rfl (Ae ?_))))
   refine Ap rfl (fun c4 => ?_) (fun c4 => ?_)
   ·have h := Ao c4 h
    refine Ab (Aa Ac rfl (qm rfl (Iq rfl (by decide) (qa rfl (Ae (Aa Ac rfl (qm rfl (AN rfl (qa rfl (Ae ?_))))))))))
    exact Au _ h (sm [] _ _ rfl rfl)
   ·have h := An c4 h
    refine Aq ?_
    exact Au _ h (sm [] _ _ rfl rfl)
  ·refine AM h (fun v5 => mk [(0, .e (.one (.pure (.val (.int .u64 v5.1))))), (2, .e (.one (.pure (.val (.int .i64 v5.2)))))] []) (fun j5 h => ?_) (fun v5 h => ?_)
   ·refine Ab (Aa Ac rfl (qm rfl (Db rfl (Ae ?_))))
    refine Ap rfl (fun c6 => ?_) (fun c6 => ?_)
    ·have h := Ao c6 h
     refine Ab (Aa Ac rfl (qm rfl (Iq rfl (by decide) (qa rfl (Ae (Aa Ac rfl (qm rfl (AN rfl (qa rfl (Ae ?_))))))))))
     exact Au _ h (sm [] _ _ rfl rfl)
    ·have h := An c6 h
     refine Aq ?_
     exact Au _ h (sm [] _ _ rfl rfl)
   ·refine Ab (Aa Ac rfl (qm rfl (qm rfl (Hj TR YR rfl ?_))))
    obtain ⟨v7, a7, h⟩ := bind_some h
    refine Nv (.p rfl) rfl rfl Vh a7 ?_
    refine Hj Vg SI rfl (AN rfl (qa rfl (Ae ?_)))
    obtain rfl := sj h
    refine Am (sm [] [(2, .e (.one (.pure (.val (.int .i64 ((IntKind.wrap .i64 (v5.2 + (IntKind.wrap .i64 v7)))))))))] [] rfl rfl) (Az ?_)
    exact ⟨⟨[_], ⟨.tmp _ _ rfl, trivial⟩, rfl⟩, trivial⟩
set_option maxRecDepth 10000 in
theorem Jn (N : Nat) (p0 : Int) (r : Int) (h : GG N p0 = some r) : AB Tryz.prog 105 [.e (.one (.pure (.val (.int .u64 p0))))] [] (.e (.one (.pure (.val (.int .i64 r))))) := by
 unfold GG at h
 refine As (n := 8) (rs := [.tmp 2]) Tryz.func105 rfl rfl rfl (A3 rfl) (A3 rfl) rfl fun w0 S0 => ?_
 refine Ab (Aa Ac rfl (qa rfl (Ae (Ab ?_))))
 refine Ap rfl (fun c1 => ?_) (fun c1 => ?_)
 ·have h := Ao c1 h
  refine Ab (Aa Ac rfl (qm rfl (Hj O6 QZ rfl ?_)))
  obtain ⟨v2, a2, h⟩ := bind_some h
  refine AG [] (MA N ((IntKind.wrap .u32 p0)) v2 a2) Yj rfl (qa rfl (Ae ?_))
  obtain rfl := sj h
  refine Am (sm [] [(2, .e (.one (.pure (.val (.int .i64 v2)))))] [] rfl rfl) (Az ?_)
  exact ⟨⟨[_], ⟨.tmp _ _ rfl, trivial⟩, rfl⟩, trivial⟩
 ·have h := An c1 h
  refine Aq (Ab (Aa Ac rfl (qm rfl ?_)))
  obtain ⟨v3, a3, h⟩ := bind_some h
  refine AG [] (ML N p0 v3 a3) Yz rfl (qa rfl (Ae ?_))
  obtain rfl := sj h
  refine Am (sm [] [(2, .e (.one (.pure (.val (.int .i64 v3)))))] [] rfl rfl) (Az ?_)
  exact ⟨⟨[_], ⟨.tmp _ _ rfl, trivial⟩, rfl⟩, trivial⟩
set_option maxRecDepth 10000 in
theorem HA (N : Nat) (p0 : List Ag) (p1 : Int) (p2 : Int) (p3 : (Ag × Ag) → Option Int) (r : (List Ag)) (h : D4 N p0 p1 p2 p3 = some r) : Bi Tryz.prog 145 [.e (.one (.own 90000)), .e (.one (.pure (.val (.int .i64 p1)))), .e (.one (.pure (.val (.int .i64 p2)))), .e (.one (.clo (Bc (CL true Aj true Aj) Bh p3)))] [(.vec 3 (p0.map Aj), .vec 3 (r.map Aj))] [] (.tup []) := by
 unfold D4 at h
 refine A9 (n := 53) (rs := []) Tryz.func145 rfl rfl rfl (A3 rfl) (A3 rfl) rfl rfl (A3 rfl) rfl (A3 rfl) fun w0 S0 GL => Kc ?_
 refine Am (sm [] [(0, .e (.one (.own 90000))), (1, .e (.one (.pure (.val (.int .i64 p1))))), (2, .e (.one (.pure (.val (.int .i64 p2))))), (3, .e (.one (.clo (Bc (CL true Aj true Aj) Bh p3))))] [(90000, .vec 3 (p0.map Aj))] rfl rfl) (Ab (Aa Ac rfl (qm rfl (AN rfl (qa rfl (Ae ?_))))))
 refine AC (L := CH N p1 p2 p3) h (fun v1 => mk [(0, .e (.one (.own 90000))), (1, .e (.one (.pure (.val (.int .i64 p1))))), (2, .e (.one (.pure (.val (.int .i64 p2))))), (3, .e (.one (.clo (Bc (CL true Aj true Aj) Bh p3)))), (8, .e (.one (.pure (.val (.int .i64 v1.2)))))] [(90000, .vec 3 (v1.1.map Aj))]) (fun v2 => mk [] [(90000, .vec 3 (v2.map Aj))]) (fun _ _ => rfl) (sm [] _ _ rfl rfl) (fun j1 n1 v1 h => ?_) (fun v2 s h hs => ?_)
 ·unfold CH at h
  refine Ab (Ab (Aa Ac rfl (qm rfl (qm rfl (AT rfl (Ae ?_))))))
  refine Ap rfl (fun c3 => ?_) (fun c3 => ?_)
  ·have h := Ao c3 h
   refine Aq (Ab (AH (Ab (Aa Ac rfl (qm rfl (qa rfl (Ae ?_)))))))
   refine AC (L := CC N p1 p3) h (fun v4 => mk [(0, .e (.one (.own 90000))), (1, .e (.one (.pure (.val (.int .i64 p1))))), (2, .e (.one (.pure (.val (.int .i64 p2))))), (3, .e (.one (.clo (Bc (CL true Aj true Aj) Bh p3)))), (8, .e (.one (.pure (.val (.int .i64 v1.2))))), (9, .e (.one (.pure (.val (.int .i64 v4.2)))))] [(90000, .vec 3 (v4.1.map Aj))]) (fun v5 => mk [(0, .e (.one (.own 90000))), (1, .e (.one (.pure (.val (.int .i64 p1))))), (2, .e (.one (.pure (.val (.int .i64 p2))))), (3, .e (.one (.clo (Bc (CL true Aj true Aj) Bh p3)))), (8, .e (.one (.pure (.val (.int .i64 v1.2)))))] [(90000, .vec 3 (v5.map Aj))]) (fun _ _ => rfl) (sm [] _ _ rfl rfl) (fun j4 n4 v4 h => ?_) (fun v5 s h hs => ?_)
   ·unfold CC at h
    refine Ab ?_
    refine AM h (fun v6 => mk [(0, .e (.one (.own 90000))), (1, .e (.one (.pure (.val (.int .i64 p1))))), (2, .e (.one (.pure (.val (.int .i64 p2))))), (3, .e (.one (.clo (Bc (CL true Aj true Aj) Bh p3)))), (8, .e (.one (.pure (.val (.int .i64 v1.2))))), (9, .e (.one (.pure (.val (.int .i64 v4.2))))), (34, .e (.one (.pure (.val (.bool v6)))))] [(90000, .vec 3 (v4.1.map Aj))]) (fun j6 h => ?_) (fun v6 h => ?_)
    ·refine Aa Ac rfl (qm rfl (qm rfl (Fv rfl (qm rfl ?_))))
     refine AD (t := 21) rfl (fun c7 => ?_) (fun c7 => ?_)
     ·have h := Ao c7 h
      refine qm rfl (qm rfl (qm rfl ?_))
      obtain ⟨v8, a8, b8, h⟩ := Ai h
      refine qI AZ Ay a8 (Ah b8) rfl (qJ A4 Ay (Ah b8) rfl (qm rfl (qm rfl (Bj rfl ?_))))
      obtain ⟨v9, a9, b9, h⟩ := Ai h
      refine qI AZ Ay a9 (Ah b9) rfl (qJ A4 Ay (Ah b9) rfl ?_)
      obtain ⟨v10, a10, h⟩ := bind_some h
      refine C9 (ds0 := [_, _]) (ar := (CL true Aj true Aj) ((v8, v9))) (.g rfl rfl) rfl rfl ⟨rfl, rfl, trivial⟩ rfl rfl rfl (C2 (DQ _ _ _ _ BI BI) a10) ?_
      refine AT rfl (qp rfl (AA (by kernel_rfl) ?_))
      exact Au _ h (sm [] _ _ rfl rfl)
     ·have h := An c7 h
      refine qn rfl (qn rfl (qn rfl (qn rfl (qn rfl (qn rfl (qn rfl (qn rfl (qn rfl (qn rfl (qn rfl (qn rfl (qp rfl (AA (by kernel_rfl) ?_)))))))))))))
      exact Au _ h (sm [] _ _ rfl rfl)
    ·refine Ap rfl (fun c11 => ?_) (fun c11 => ?_)
     ·have h := Ao c11 h
      refine Aq (Ab (AH (Aa Ac rfl (qm rfl (qm rfl (qm rfl (qm rfl (Bj rfl (qm rfl (qm rfl (Bj rfl ?_)))))))))))
      obtain ⟨v12, a12, b12, h⟩ := Ai h
      refine qI AZ Ay a12 (Ah b12) rfl (qJ A4 Ay (Ah b12) rfl (qm rfl (qm rfl ?_)))
      obtain ⟨v13, a13, b13, h⟩ := Ai h
      refine qI AZ Ay a13 (Ah b13) rfl (qJ A4 Ay (Ah b13) rfl ?_)
      obtain ⟨v14, a14, b14, h⟩ := Ai h
      refine qI AZ Ay a14 (Ah b14) rfl ?_
      refine AV rfl rfl rfl rfl (Ah b14) rfl Ay rfl (A3 rfl) (AW Aj v4.1 _ v12) ?_
      obtain ⟨v15, a15, b15, h⟩ := Ai h
      refine qI AZ Ay a15 (Ah b15) rfl ?_
      refine AV rfl rfl rfl rfl (Ah b15) rfl Ay rfl (A3 rfl) (AW Aj (v4.1.set ((v4.2).toNat) v12) _ v13) ?_
      refine AA (by kernel_rfl) (Aa Ac rfl (qm rfl (Bj rfl (qa rfl (Ae ?_)))))
      exact Au _ h (sm [] _ _ rfl rfl)
     ·have h := An c11 h
      refine AP ?_
      exact Au _ h (sm [] _ _ rfl rfl)
   ·refine Am hs (Aa Ac rfl (qm rfl (AN rfl (qa rfl (Ae ?_)))))
    exact Au _ h (sm [] _ _ rfl rfl)
  ·have h := An c3 h
   refine AP ?_
   exact Au _ h (sm [] _ _ rfl rfl)
 ·obtain rfl := sj h
  refine ⟨_, hs.trans (sm [] [] [(90000, .vec 3 (v2.map Aj))] rfl rfl), ?_⟩
  exact ⟨⟨[], trivial, rfl⟩, ⟨rfl, trivial⟩, trivial⟩
set_option maxRecDepth 10000 in
theorem Gm (N : Nat) (p0 : List Ag) (p1 : Int) (p2 : Int) (p3 : Int) (p4 : (Ag × Ag) → Option Int) (r : (List Ag)) (h : DP N p0 p1 p2 p3 p4 = some r) : Bi Tryz.prog 166 [.e (.one (.own 90000)), .e (.one (.pure (.val (.int .i64 p1)))), .e (.one (.pure (.val (.int .i64 p2)))), .e (.one (.pure (.val (.int .i64 p3)))), .e (.one (.clo (Bc (CL true Aj true Aj) Bh p4)))] [(.vec 3 (p0.map Aj), .vec 3 (r.map Aj))] [] (.tup []) := by
 unfold DP at h
 refine A9 (n := 82) (rs := []) Tryz.func166 rfl rfl rfl (A3 rfl) (A3 rfl) rfl rfl (A3 rfl) rfl (A3 rfl) fun w0 S0 GL => Kc ?_
 refine Am (sm [] [(0, .e (.one (.own 90000))), (1, .e (.one (.pure (.val (.int .i64 p1))))), (2, .e (.one (.pure (.val (.int .i64 p2))))), (3, .e (.one (.pure (.val (.int .i64 p3))))), (4, .e (.one (.clo (Bc (CL true Aj true Aj) Bh p4))))] [(90000, .vec 3 (p0.map Aj))] rfl rfl) (Ab (Aa Ac rfl (qm rfl (qa rfl (Ae ?_)))))
 refine AC (L := Dr N p2 p3 p4) h (fun v1 => mk [(0, .e (.one (.own 90000))), (2, .e (.one (.pure (.val (.int .i64 p2))))), (3, .e (.one (.pure (.val (.int .i64 p3))))), (4, .e (.one (.clo (Bc (CL true Aj true Aj) Bh p4)))), (10, .e (.one (.pure (.val (.int .i64 v1.2)))))] [(90000, .vec 3 (v1.1.map Aj))]) (fun v2 => mk [] [(90000, .vec 3 (v2.map Aj))]) (fun _ _ => rfl) (sm [] _ _ rfl rfl) (fun j1 n1 v1 h => ?_) (fun v2 s h hs => ?_)
 ·unfold Dr at h
  refine AH (Ab (Aa Ac rfl (qm rfl (In rfl (AN rfl (qa rfl (Ae (Ab (Ab (Aa Ac rfl (qm rfl (qm rfl (Db rfl (Ae ?_))))))))))))))
  refine Ap rfl (fun c3 => ?_) (fun c3 => ?_)
  ·have h := Ao c3 h
   refine AP ?_
   exact Au _ h (sm [] _ _ rfl rfl)
  ·have h := An c3 h
   refine Aq ?_
   refine AM h (fun v4 => mk [(0, .e (.one (.own 90000))), (2, .e (.one (.pure (.val (.int .i64 p2))))), (3, .e (.one (.pure (.val (.int .i64 p3))))), (4, .e (.one (.clo (Bc (CL true Aj true Aj) Bh p4)))), (10, .e (.one (.pure (.val (.int .i64 v1.2))))), (11, .e (.one (.pure (.val (.int .i64 v4)))))] [(90000, .vec 3 (v1.1.map Aj))]) (fun j4 h => ?_) (fun v4 h => ?_)
   ·refine AM h (fun v5 => mk [(0, .e (.one (.own 90000))), (2, .e (.one (.pure (.val (.int .i64 p2))))), (3, .e (.one (.pure (.val (.int .i64 p3))))), (4, .e (.one (.clo (Bc (CL true Aj true Aj) Bh p4)))), (10, .e (.one (.pure (.val (.int .i64 v1.2))))), (11, .e (.one (.pure (.val (.int .i64 ((IntKind.wrap .i64 ((IntKind.wrap .i64 (2 * v1.2)) + 1)))))))), (40, .e (.one (.pure (.val (.bool v5)))))] [(90000, .vec 3 (v1.1.map Aj))]) (fun j5 h => ?_) (fun v5 h => ?_)
    ·refine Aa Ac rfl (qm rfl (AN rfl (qm rfl (AT rfl (qm rfl ?_)))))
     refine AD (t := 23) rfl (fun c6 => ?_) (fun c6 => ?_)
     ·have h := Ao c6 h
      refine qm rfl (qm rfl (qm rfl (qm rfl (AN rfl ?_))))
      obtain ⟨v7, a7, b7, h⟩ := Ai h
      refine qI AZ Ay a7 (Ah b7) rfl (qJ A4 Ay (Ah b7) rfl (qm rfl (qm rfl (qm rfl (AN rfl (AN rfl ?_))))))
      obtain ⟨v8, a8, b8, h⟩ := Ai h
      refine qI AZ Ay a8 (Ah b8) rfl (qJ A4 Ay (Ah b8) rfl ?_)
      obtain ⟨v9, a9, h⟩ := bind_some h
      refine C9 (ds0 := [_, _]) (ar := (CL true Aj true Aj) ((v7, v8))) (.g rfl rfl) rfl rfl ⟨rfl, rfl, trivial⟩ rfl rfl rfl (C2 (DQ _ _ _ _ BI BI) a9) ?_
      refine AT rfl (qp rfl (AA (by kernel_rfl) ?_))
      exact Au _ h (sm [] _ _ rfl rfl)
     ·have h := An c6 h
      refine qn rfl (qn rfl (qn rfl (qn rfl (qn rfl (qn rfl (qn rfl (qn rfl (qn rfl (qn rfl (qn rfl (qn rfl (qn rfl (qn rfl (qn rfl (qn rfl (qp rfl (AA (by kernel_rfl) ?_)))))))))))))))))
      exact Au _ h (sm [] _ _ rfl rfl)
    ·refine Ap rfl (fun c10 => ?_) (fun c10 => ?_)
     ·have h := Ao c10 h
      refine Aa Ac rfl (qm rfl (AN rfl (qa rfl (Ae ?_))))
      exact Au _ h (sm [] _ _ rfl rfl)
     ·have h := An c10 h
      refine Aq ?_
      exact Au _ h (sm [] _ _ rfl rfl)
   ·refine Ab (Ab (Aa Ac rfl (qm rfl (qm rfl (qm rfl (qm rfl (AN rfl ?_)))))))
    obtain ⟨v11, a11, b11, h⟩ := Ai h
    refine qI AZ Ay a11 (Ah b11) rfl (qJ A4 Ay (Ah b11) rfl (qm rfl (qm rfl (qm rfl (AN rfl ?_)))))
    obtain ⟨v12, a12, b12, h⟩ := Ai h
    refine qI AZ Ay a12 (Ah b12) rfl (qJ A4 Ay (Ah b12) rfl ?_)
    obtain ⟨v13, a13, h⟩ := bind_some h
    refine C9 (ds0 := [_, _]) (ar := (CL true Aj true Aj) ((v11, v12))) (.p rfl) rfl rfl ⟨rfl, rfl, trivial⟩ rfl rfl rfl (C2 (DQ _ _ _ _ BI BI) a13) ?_
    refine AT rfl (Cb rfl (AA (by kernel_rfl) ?_))
    refine Ap rfl (fun c14 => ?_) (fun c14 => ?_)
    ·have h := Ao c14 h
     obtain rfl := sj h
     refine Az ⟨_, (sm [] [] [(90000, .vec 3 (v1.1.map Aj))] rfl rfl), ?_⟩
     exact ⟨⟨[], trivial, rfl⟩, ⟨rfl, trivial⟩, trivial⟩
    ·have h := An c14 h
     refine Aq (Ab (Aa Ac rfl (qm rfl (qm rfl (qm rfl (AN rfl (qm rfl (qm rfl (qm rfl (AN rfl (qm rfl (qm rfl (qm rfl (AN rfl ?_))))))))))))))
     obtain ⟨v15, a15, b15, h⟩ := Ai h
     refine qI AZ Ay a15 (Ah b15) rfl (qJ A4 Ay (Ah b15) rfl (qm rfl (qm rfl (qm rfl (AN rfl ?_)))))
     obtain ⟨v16, a16, b16, h⟩ := Ai h
     refine qI AZ Ay a16 (Ah b16) rfl (qJ A4 Ay (Ah b16) rfl ?_)
     obtain ⟨v17, a17, b17, h⟩ := Ai h
     refine qI AZ Ay a17 (Ah b17) rfl ?_
     refine AV rfl rfl rfl rfl (Ah b17) rfl Ay rfl (A3 rfl) (AW Aj v1.1 _ v15) ?_
     obtain ⟨v18, a18, b18, h⟩ := Ai h
     refine qI AZ Ay a18 (Ah b18) rfl ?_
     refine AV rfl rfl rfl rfl (Ah b18) rfl Ay rfl (A3 rfl) (AW Aj (v1.1.set (((IntKind.wrap .i64 (p3 + v1.2))).toNat) v15) _ v16) ?_
     refine AA (by kernel_rfl) (Aa Ac rfl (qm rfl (qa rfl (Ae ?_))))
     exact Au _ h (sm [] _ _ rfl rfl)
 ·obtain rfl := sj h
  refine ⟨_, hs.trans (sm [] [] [(90000, .vec 3 (v2.map Aj))] rfl rfl), ?_⟩
  exact ⟨⟨[], trivial, rfl⟩, ⟨rfl, trivial⟩, trivial⟩
set_option maxRecDepth 10000 in
theorem IE (N : Nat) (p0 : List Ag) (p1 : Int) (p2 : Int) (p3 : (Ag × Ag) → Option Int) (r : (List Ag)) (h : EQ N p0 p1 p2 p3 = some r) : Bi Tryz.prog 146 [.e (.one (.own 90000)), .e (.one (.pure (.val (.int .i64 p1)))), .e (.one (.pure (.val (.int .i64 p2)))), .e (.one (.clo (Bc (CL true Aj true Aj) Bh p3)))] [(.vec 3 (p0.map Aj), .vec 3 (r.map Aj))] [] (.tup []) := by
 unfold EQ at h
 refine A9 (n := 60) (rs := []) Tryz.func146 rfl rfl rfl (A3 rfl) (A3 rfl) rfl rfl (A3 rfl) rfl (A3 rfl) fun w0 S0 GL => Kc ?_
 refine Am (sm [] [(0, .e (.one (.own 90000))), (1, .e (.one (.pure (.val (.int .i64 p1))))), (2, .e (.one (.pure (.val (.int .i64 p2))))), (3, .e (.one (.clo (Bc (CL true Aj true Aj) Bh p3))))] [(90000, .vec 3 (p0.map Aj))] rfl rfl) (Ab (Aa Ac rfl (qm rfl (qa rfl (Ae (Ab (Aa Ac rfl (qa rfl (Ae (Ab (Aa Ac rfl (qm rfl (qm rfl (Bj rfl (qa rfl (Ae (Ab (Ab (Aa Ac rfl (qm rfl (Bj rfl (Kn rfl (by decide) (qa rfl (Ae ?_))))))))))))))))))))))))
 refine AC (L := Do N p1 p2 p3) h (fun v1 => mk [(0, .e (.one (.own 90000))), (3, .e (.one (.clo (Bc (CL true Aj true Aj) Bh p3)))), (8, .e (.one (.pure (.val (.int .i64 p1))))), (9, .e (.one (.pure (.val (.int .i64 0))))), (10, .e (.one (.pure (.val (.int .i64 ((IntKind.wrap .i64 (p2 - p1)))))))), (11, .e (.one (.pure (.val (.int .i64 v1.2)))))] [(90000, .vec 3 (v1.1.map Aj))]) (fun v2 => mk [(0, .e (.one (.own 90000))), (3, .e (.one (.clo (Bc (CL true Aj true Aj) Bh p3)))), (8, .e (.one (.pure (.val (.int .i64 p1))))), (9, .e (.one (.pure (.val (.int .i64 0))))), (10, .e (.one (.pure (.val (.int .i64 ((IntKind.wrap .i64 (p2 - p1))))))))] [(90000, .vec 3 (v2.map Aj))]) (fun _ _ => rfl) (sm [] _ _ rfl rfl) (fun j1 n1 v1 h => ?_) (fun v2 s h hs => ?_)
 ·unfold Do at h
  refine Ab (Ab (Aa Ac rfl (qm rfl (Db rfl (Ae ?_)))))
  refine Ap rfl (fun c3 => ?_) (fun c3 => ?_)
  ·have h := Ao c3 h
   refine Aq (Ab (AH (Aa Ac rfl (qm rfl (qm rfl (qm rfl (qm rfl (qm rfl ?_))))))))
   obtain ⟨v4, a4, h⟩ := bind_some h
   refine BD (ds0 := [_, _, _, _, _]) [90000] [] [true] (Gm N v1.1 v1.2 ((IntKind.wrap .i64 (p2 - p1))) p1 p3 v4 a4) (.p rfl) Wg rfl ⟨rfl, rfl, rfl, rfl, rfl, trivial⟩ rfl rfl (by decide) ⟨rfl, trivial⟩ rfl (AX rfl) trivial ⟨(fun h => by cases h), trivial⟩ rfl rfl rfl ?_
   refine Ae (Aa Ac rfl (qm rfl (Bj rfl (qa rfl (Ae ?_)))))
   exact Au _ h (sm [] _ _ rfl rfl)
  ·have h := An c3 h
   refine AP ?_
   exact Au _ h (sm [] _ _ rfl rfl)
 ·refine Am hs (Ab (Aa Ac rfl (qm rfl (Bj rfl (qa rfl (Ae ?_))))))
  refine AC (L := Dp N p1 p3) h (fun v5 => mk [(0, .e (.one (.own 90000))), (3, .e (.one (.clo (Bc (CL true Aj true Aj) Bh p3)))), (8, .e (.one (.pure (.val (.int .i64 p1))))), (9, .e (.one (.pure (.val (.int .i64 0))))), (12, .e (.one (.pure (.val (.int .i64 v5.2)))))] [(90000, .vec 3 (v5.1.map Aj))]) (fun v6 => mk [] [(90000, .vec 3 (v6.map Aj))]) (fun _ _ => rfl) (sm [] _ _ rfl rfl) (fun j5 n5 v5 h => ?_) (fun v6 s h hs => ?_)
  ·unfold Dp at h
   refine Ab (Ab (Aa Ac rfl (qm rfl (Db rfl (Ae ?_)))))
   refine Ap rfl (fun c7 => ?_) (fun c7 => ?_)
   ·have h := Ao c7 h
    refine Aq (Ab (AH (Ab (Aa Ac rfl (qm rfl (qm rfl (qm rfl (qm rfl (qm rfl (AN rfl (qm rfl (qm rfl (qm rfl (AN rfl ?_))))))))))))))
    obtain ⟨v8, a8, b8, h⟩ := Ai h
    refine qI AZ Ay a8 (Ah b8) rfl (qJ A4 Ay (Ah b8) rfl (qm rfl (qm rfl ?_)))
    obtain ⟨v9, a9, b9, h⟩ := Ai h
    refine qI AZ Ay a9 (Ah b9) rfl (qJ A4 Ay (Ah b9) rfl ?_)
    obtain ⟨v10, a10, b10, h⟩ := Ai h
    refine qI AZ Ay a10 (Ah b10) rfl ?_
    refine AV rfl rfl rfl rfl (Ah b10) rfl Ay rfl (A3 rfl) (AW Aj v5.1 _ v8) ?_
    obtain ⟨v11, a11, b11, h⟩ := Ai h
    refine qI AZ Ay a11 (Ah b11) rfl ?_
    refine AV rfl rfl rfl rfl (Ah b11) rfl Ay rfl (A3 rfl) (AW Aj (v5.1.set ((p1).toNat) v8) _ v9) ?_
    refine AA (by kernel_rfl) (Aa Ac rfl (qm rfl (qm rfl (qm rfl (qm rfl (qm rfl ?_))))))
    obtain ⟨v12, a12, h⟩ := bind_some h
    refine BD (ds0 := [_, _, _, _, _]) [90000] [] [true] (Gm N ((v5.1.set ((p1).toNat) v8).set (((IntKind.wrap .i64 (p1 + v5.2))).toNat) v9) 0 v5.2 p1 p3 v12 a12) (.p rfl) Wg rfl ⟨rfl, rfl, rfl, rfl, rfl, trivial⟩ rfl rfl (by decide) ⟨rfl, trivial⟩ rfl (AX rfl) trivial ⟨(fun h => by cases h), trivial⟩ rfl rfl rfl ?_
    refine Ae (Aa Ac rfl (qm rfl (Bj rfl (qa rfl (Ae ?_)))))
    exact Au _ h (sm [] _ _ rfl rfl)
   ·have h := An c7 h
    refine AP ?_
    exact Au _ h (sm [] _ _ rfl rfl)
  ·obtain rfl := sj h
   refine ⟨_, hs.trans (sm [] [] [(90000, .vec 3 (v6.map Aj))] rfl rfl), ?_⟩
   exact ⟨⟨[], trivial, rfl⟩, ⟨rfl, trivial⟩, trivial⟩
set_option maxRecDepth 10000 in
theorem Io (N : Nat) (p0 : Int) (r : Int) (h : Fl N p0 = some r) : AB Tryz.prog 162 [.e (.one (.pure (.val (.int .i64 p0))))] [] (.e (.one (.pure (.val (.int .u64 r))))) := by
 unfold Fl at h
 refine As (n := 7) (rs := [.tmp 2]) Tryz.func162 rfl rfl rfl (A3 rfl) (A3 rfl) rfl fun w0 S0 => ?_
 refine Ab (Aa Ac rfl (qa rfl (Ae (Ab (Aa Ac rfl (qm rfl (Hj TV NE rfl ?_)))))))
 obtain ⟨v1, a1, h⟩ := bind_some h
 refine AG [] (Jn N ((IntKind.wrap .u64 p0)) v1 a1) TS rfl ?_
 obtain ⟨c2, h⟩ := AQ h
 refine I9 rfl c2 (qa rfl (Ae ?_))
 obtain rfl := sj h
 refine Am (sm [] [(2, .e (.one (.pure (.val (.int .u64 ((Dy .u64 1 v1)))))))] [] rfl rfl) (Az ?_)
 exact ⟨⟨[_], ⟨.tmp _ _ rfl, trivial⟩, rfl⟩, trivial⟩
set_option maxRecDepth 10000 in
theorem Iz (N : Nat) (p0 : Int) (r : Int × Int) (h : FE N p0 = some r) : Bi Tryz.prog 163 [.e (.one (.ptr 90000 0))] [(.box [.pure (.val (.int .u64 p0))], .box [.pure (.val (.int .u64 r.2))])] [] (.e (.one (.pure (.val (.int .u64 r.1))))) := by
 unfold FE at h
 refine A9 (n := 33) (rs := [.tmp 2]) Tryz.func163 rfl rfl rfl (A3 rfl) (A3 rfl) rfl rfl (A3 rfl) rfl (A3 rfl) fun w0 S0 GL => ?_
 refine Am (sm [] [(0, .e (.one (.ptr 90000 0)))] [(90000, .box [.pure (.val (.int .u64 p0))])] rfl rfl) (Ab (Aa Ac rfl (qa rfl (Ae (Ab (Aa Ac rfl (qm rfl (O5 rfl (ql OG rfl (qm rfl (O5 rfl (ql OG rfl (I9 rfl (by decide) (T4 rfl (O5 rfl (qs QI rfl (AA (by kernel_rfl) (Ab (Aa Ac rfl (qm rfl (O5 rfl (ql OG rfl (qm rfl (O5 rfl (ql OG rfl (Iq rfl (by decide) (T4 rfl (O5 rfl (qs QI rfl (AA (by kernel_rfl) (Ab (Aa Ac rfl (qm rfl (O5 rfl (ql OG rfl (qm rfl (O5 rfl (ql OG rfl (I9 rfl (by decide) ?_)))))))))))))))))))))))))))))))))))))))
 refine T4 rfl (O5 rfl (qs QI rfl (AA (by kernel_rfl) (Ab (Aa Ac rfl (qm rfl (O5 rfl (ql OG rfl (qa rfl (Ae ?_))))))))))
 obtain rfl := sj h
 refine Am (sm [] [(2, .e (.one (.pure (.val (.int .u64 ((Ib .u64 ((Ib .u64 ((Ib .u64 p0 ((Dy .u64 p0 13)))) ((Fa .u64 ((Ib .u64 p0 ((Dy .u64 p0 13)))) 7)))) ((Dy .u64 ((Ib .u64 ((Ib .u64 p0 ((Dy .u64 p0 13)))) ((Fa .u64 ((Ib .u64 p0 ((Dy .u64 p0 13)))) 7)))) 17)))))))))] [(90000, .box [.pure (.val (.int .u64 ((Ib .u64 ((Ib .u64 ((Ib .u64 p0 ((Dy .u64 p0 13)))) ((Fa .u64 ((Ib .u64 p0 ((Dy .u64 p0 13)))) 7)))) ((Dy .u64 ((Ib .u64 ((Ib .u64 p0 ((Dy .u64 p0 13)))) ((Fa .u64 ((Ib .u64 p0 ((Dy .u64 p0 13)))) 7)))) 17))))))])] rfl rfl) (Az ?_)
 exact ⟨⟨[_], ⟨.tmp _ _ rfl, trivial⟩, rfl⟩, ⟨rfl, trivial⟩, trivial⟩
set_option maxRecDepth 10000 in
theorem HD (N : Nat) (p0 : List Ag) (p1 : Int) (p2 : Int) (p3 : (Ag × Ag) → Option Int) (r : (List Ag)) (h : Eb N p0 p1 p2 p3 = some r) : Bi Tryz.prog 147 [.e (.one (.own 90000)), .e (.one (.pure (.val (.int .i64 p1)))), .e (.one (.pure (.val (.int .i64 p2)))), .e (.one (.clo (Bc (CL true Aj true Aj) Bh p3)))] [(.vec 3 (p0.map Aj), .vec 3 (r.map Aj))] [] (.tup []) := by
 unfold Eb at h
 refine A9 (n := 67) (rs := []) Tryz.func147 rfl rfl rfl (A3 rfl) (A3 rfl) rfl rfl (A3 rfl) rfl (A3 rfl) fun w0 S0 GL => Kc ?_
 refine Am (sm [] [(0, .e (.one (.own 90000))), (1, .e (.one (.pure (.val (.int .i64 p1))))), (2, .e (.one (.pure (.val (.int .i64 p2))))), (3, .e (.one (.clo (Bc (CL true Aj true Aj) Bh p3))))] [(90000, .vec 3 (p0.map Aj))] rfl rfl) (Ab (Aa Ac rfl (qm rfl (qm rfl (Bj rfl (qa rfl (Ae (Ab (Aa Ac rfl (qm rfl (Db rfl (Ae ?_))))))))))))
 refine Ap rfl (fun c1 => ?_) (fun c1 => ?_)
 ·have h := Ao c1 h
  refine Ab (Aa Ac rfl (qm rfl (Hj TV V8 rfl (qz V2 rfl (qs QI rfl (Ae (Ab (Aa Ac rfl (qm rfl ?_)))))))))
  obtain ⟨v2, a2, h⟩ := bind_some h
  refine AG [] (Io N ((IntKind.wrap .i64 (p2 - p1))) v2 a2) Wm rfl (qa rfl (Ae (Ab (Aa Ac rfl (qm rfl (qm rfl (Kn rfl (by decide) (In rfl (AN rfl (Bj rfl (qa rfl (Ae ?_))))))))))))
  refine AC (L := CD N p1 p2 v2) h (fun v3 => mk [(0, .e (.one (.own 90000))), (1, .e (.one (.pure (.val (.int .i64 p1))))), (8, .e (.one (.pure (.val (.int .i64 ((IntKind.wrap .i64 (p2 - p1)))))))), (9, .e (.one (.ptr 9 0))), (10, .e (.one (.pure (.val (.int .u64 v2))))), (11, .e (.one (.pure (.val (.int .i64 v3.2.2)))))] [(9, .box [.pure (.val (.int .u64 v3.2.1))]), (90000, .vec 3 (v3.1.map Aj))]) (fun v4 => mk [] [(90000, .vec 3 (v4.map Aj))]) (fun _ _ => rfl) (sm [] _ _ rfl rfl) (fun j3 n3 v3 h => ?_) (fun v4 s h hs => ?_)
  ·unfold CD at h
   refine Ab (Ab (Aa Ac rfl (qm rfl (qm rfl (qm rfl (Kn rfl (by decide) (In rfl (AN rfl (AN rfl (IR rfl (Ae ?_)))))))))))
   refine Ap rfl (fun c5 => ?_) (fun c5 => ?_)
   ·have h := Ao c5 h
    refine Aq (Ab (AH (Ab (Aa Ac rfl ?_))))
    obtain ⟨v6, a6, h⟩ := bind_some h
    refine BD (ds0 := [_]) [9] [] [true] (Iz N v3.2.1 v6 a6) (.p rfl) We rfl ⟨rfl, trivial⟩ rfl rfl (by decide) ⟨rfl, trivial⟩ rfl (AX rfl) trivial ⟨(fun h => by cases h), trivial⟩ rfl rfl rfl ?_
    refine qm rfl (Bj rfl (LD rfl (Hj O6 SI rfl (qa rfl (Ae ?_)))))
    refine AM h (fun v7 => mk [(0, .e (.one (.own 90000))), (1, .e (.one (.pure (.val (.int .i64 p1))))), (8, .e (.one (.pure (.val (.int .i64 ((IntKind.wrap .i64 (p2 - p1)))))))), (9, .e (.one (.ptr 9 0))), (10, .e (.one (.pure (.val (.int .u64 v2))))), (11, .e (.one (.pure (.val (.int .i64 v3.2.2))))), (12, .e (.one (.pure (.val (.int .i64 v7)))))] [(9, .box [.pure (.val (.int .u64 v6.2))]), (90000, .vec 3 (v3.1.map Aj))]) (fun j7 h => ?_) (fun v7 h => ?_)
    ·refine Ab (Aa Ac rfl (qm rfl (qm rfl (Db rfl (Ae ?_)))))
     refine Ap rfl (fun c8 => ?_) (fun c8 => ?_)
     ·have h := Ao c8 h
      refine Aa Ac rfl (qm rfl (qm rfl (Bj rfl (qa rfl (Ae ?_)))))
      exact Au _ h (sm [] _ _ rfl rfl)
     ·have h := An c8 h
      refine Aq ?_
      exact Au _ h (sm [] _ _ rfl rfl)
    ·refine Aa Ac rfl (qm rfl (qm rfl (qm rfl (qm rfl (qm rfl (AN rfl (qm rfl (qm rfl (qm rfl (AN rfl ?_))))))))))
     obtain ⟨v9, a9, b9, h⟩ := Ai h
     refine qI AZ Ay a9 (Ah b9) rfl (qJ A4 Ay (Ah b9) rfl (qm rfl (qm rfl ?_)))
     obtain ⟨v10, a10, b10, h⟩ := Ai h
     refine qI AZ Ay a10 (Ah b10) rfl (qJ A4 Ay (Ah b10) rfl ?_)
     obtain ⟨v11, a11, b11, h⟩ := Ai h
     refine qI AZ Ay a11 (Ah b11) rfl ?_
     refine AV rfl rfl rfl rfl (Ah b11) rfl Ay rfl (A3 rfl) (AW Aj v3.1 _ v9) ?_
     obtain ⟨v12, a12, b12, h⟩ := Ai h
     refine qI AZ Ay a12 (Ah b12) rfl ?_
     refine AV rfl rfl rfl rfl (Ah b12) rfl Ay rfl (A3 rfl) (AW Aj (v3.1.set ((v3.2.2).toNat) v9) _ v10) ?_
     refine AA (by kernel_rfl) (Aa Ac rfl (qm rfl (AN rfl (qa rfl (Ae ?_)))))
     exact Au _ h (sm [] _ _ rfl rfl)
   ·have h := An c5 h
    refine AP ?_
    exact Au _ h (sm [] _ _ rfl rfl)
  ·obtain rfl := sj h
   refine ⟨_, hs.trans (sm [] [] [(90000, .vec 3 (v4.map Aj))] rfl rfl), ?_⟩
   exact ⟨⟨[], trivial, rfl⟩, ⟨rfl, trivial⟩, trivial⟩
 ·have h := An c1 h
  refine Aq ?_
  obtain rfl := sj h
  refine ⟨_, (sm [] [] [(90000, .vec 3 (p0.map Aj))] rfl rfl), ?_⟩
  exact ⟨⟨[], trivial, rfl⟩, ⟨rfl, trivial⟩, trivial⟩
set_option maxRecDepth 10000 in
theorem Fj (N : Nat) (p0 : List Ag) (p1 : Int) (p2 : Int) (p3 : Int) (p4 : (Ag × Ag) → Option Int) (r : Int × Int × Int) (h : Di N p0 p1 p2 p3 p4 = some r) : Bi Tryz.prog 172 [.e (.one (.pure (.sl (p0.map Aj)))), .e (.one (.pure (.val (.int .i64 p1)))), .e (.one (.pure (.val (.int .i64 p2)))), .e (.one (.ptr 90000 0)), .e (.one (.clo (Bc (CL true Aj true Aj) Bh p4)))] [(.box [.pure (.val (.int .i64 p3))], .box [.pure (.val (.int .i64 r.2.2))])] [] (.tup [.one (.pure (.val (.int .i64 r.1))), .one (.pure (.val (.int .i64 r.2.1)))]) := by
 unfold Di at h
 refine A9 (n := 32) (rs := [.tmp 10, .tmp 11]) Tryz.func172 rfl rfl rfl (A3 rfl) (A3 rfl) rfl rfl (A3 rfl) rfl (A3 rfl) fun w0 S0 GL => ?_
 refine Am (sm [] [(0, .e (.one (.pure (.sl (p0.map Aj))))), (1, .e (.one (.pure (.val (.int .i64 p1))))), (2, .e (.one (.pure (.val (.int .i64 p2))))), (3, .e (.one (.ptr 90000 0))), (4, .e (.one (.clo (Bc (CL true Aj true Aj) Bh p4))))] [(90000, .box [.pure (.val (.int .i64 p3))])] rfl rfl) (Ab (Aa Ac rfl (qa rfl (qa rfl (Ae (Ab (Ab (Aa Ac rfl (qm rfl (qm rfl (qm rfl ?_)))))))))))
 obtain ⟨v1, a1, b1, h⟩ := Ai h
 refine qi AZ Ay a1 (Ah b1) rfl (qK A4 Ay rfl (qm rfl (qm rfl ?_)))
 obtain ⟨v2, a2, b2, h⟩ := Ai h
 refine qi AZ Ay a2 (Ah b2) rfl (qK A4 Ay rfl ?_)
 obtain ⟨v3, a3, h⟩ := bind_some h
 refine C9 (ds0 := [_, _]) (ar := (CL true Aj true Aj) ((v1, v2))) (.p rfl) rfl rfl ⟨rfl, rfl, trivial⟩ rfl rfl rfl (C2 (DQ _ _ _ _ BI BI) a3) ?_
 refine AT rfl (AA (by kernel_rfl) ?_)
 refine Ap rfl (fun c4 => ?_) (fun c4 => ?_)
 ·have h := Ao c4 h
  refine Ab (Aa Ac rfl (qm rfl (O5 rfl (ql CN rfl (AN rfl (O5 rfl (qs Ec rfl (Ae (Ab (Aa Ac rfl (qm rfl (qm rfl (qa rfl (qa rfl (Ae ?_)))))))))))))))
  obtain rfl := sj h
  refine Am (sm [] [(10, .e (.one (.pure (.val (.int .i64 p2))))), (11, .e (.one (.pure (.val (.int .i64 p1)))))] [(90000, .box [.pure (.val (.int .i64 ((IntKind.wrap .i64 (p3 + 1)))))])] rfl rfl) (Az ?_)
  exact ⟨⟨[_, _], ⟨.tmp _ _ rfl, ⟨.tmp _ _ rfl, trivial⟩⟩, rfl⟩, ⟨rfl, trivial⟩, trivial⟩
 ·have h := An c4 h
  refine Aq (Ab (Aa Ac rfl (qm rfl (qm rfl (qa rfl (qa rfl (Ae ?_)))))))
  obtain rfl := sj h
  refine Am (sm [] [(10, .e (.one (.pure (.val (.int .i64 p1))))), (11, .e (.one (.pure (.val (.int .i64 p2)))))] [(90000, .box [.pure (.val (.int .i64 p3))])] rfl rfl) (Az ?_)
  exact ⟨⟨[_, _], ⟨.tmp _ _ rfl, ⟨.tmp _ _ rfl, trivial⟩⟩, rfl⟩, ⟨rfl, trivial⟩, trivial⟩
set_option maxRecDepth 10000 in
theorem GD (N : Nat) (p0 : List Ag) (p1 : Int) (p2 : Int) (p3 : Int) (p4 : Int) (p5 : (Ag × Ag) → Option Int) (r : Int × Int) (h : D2 N p0 p1 p2 p3 p4 p5 = some r) : Bi Tryz.prog 168 [.e (.one (.pure (.sl (p0.map Aj)))), .e (.one (.pure (.val (.int .i64 p1)))), .e (.one (.pure (.val (.int .i64 p2)))), .e (.one (.pure (.val (.int .i64 p3)))), .e (.one (.ptr 90000 0)), .e (.one (.clo (Bc (CL true Aj true Aj) Bh p5)))] [(.box [.pure (.val (.int .i64 p4))], .box [.pure (.val (.int .i64 r.2))])] [] (.e (.one (.pure (.val (.int .i64 r.1))))) := by
 unfold D2 at h
 refine A9 (n := 41) (rs := [.tmp 12]) Tryz.func168 rfl rfl rfl (A3 rfl) (A3 rfl) rfl rfl (A3 rfl) rfl (A3 rfl) fun w0 S0 GL => ?_
 refine Am (sm [] [(0, .e (.one (.pure (.sl (p0.map Aj))))), (1, .e (.one (.pure (.val (.int .i64 p1))))), (2, .e (.one (.pure (.val (.int .i64 p2))))), (3, .e (.one (.pure (.val (.int .i64 p3))))), (4, .e (.one (.ptr 90000 0))), (5, .e (.one (.clo (Bc (CL true Aj true Aj) Bh p5))))] [(90000, .box [.pure (.val (.int .i64 p4))])] rfl rfl) (Ab (Aa Ac rfl (qa rfl (Ae (Ab (Aa Ac rfl (qm rfl (qm rfl (qm rfl (qm rfl (qm rfl ?_)))))))))))
 obtain ⟨v1, a1, h⟩ := bind_some h
 refine BD (ds0 := [_, _, _, _, _]) [90000] [] [true] (Fj N p0 p1 p2 p4 p5 v1 a1) (.p rfl) UF rfl ⟨rfl, rfl, rfl, rfl, rfl, trivial⟩ rfl rfl (by decide) ⟨rfl, trivial⟩ rfl (AX rfl) trivial ⟨(fun h => by cases h), trivial⟩ rfl rfl rfl ?_
 refine qm rfl (qx rfl (qx rfl (qa rfl (qa rfl (Ae (Ab (Aa Ac rfl (qm rfl (qm rfl (qm rfl (qm rfl (qm rfl ?_))))))))))))
 obtain ⟨v2, a2, h⟩ := bind_some h
 refine BD (ds0 := [_, _, _, _, _]) [90000] [] [true] (Fj N p0 v1.2.1 p3 v1.2.2 p5 v2 a2) (.p rfl) UF rfl ⟨rfl, rfl, rfl, rfl, rfl, trivial⟩ rfl rfl (by decide) ⟨rfl, trivial⟩ rfl (AX rfl) trivial ⟨(fun h => by cases h), trivial⟩ rfl rfl rfl ?_
 refine qm rfl (qx rfl (qx rfl (qa rfl (qa rfl (Ae (Ab (Aa Ac rfl (qm rfl (qm rfl (qm rfl (qm rfl (qm rfl ?_))))))))))))
 obtain ⟨v3, a3, h⟩ := bind_some h
 refine BD (ds0 := [_, _, _, _, _]) [90000] [] [true] (Fj N p0 v1.1 v2.1 v2.2.2 p5 v3 a3) (.p rfl) UF rfl ⟨rfl, rfl, rfl, rfl, rfl, trivial⟩ rfl rfl (by decide) ⟨rfl, trivial⟩ rfl (AX rfl) trivial ⟨(fun h => by cases h), trivial⟩ rfl rfl rfl ?_
 refine qm rfl (qx rfl (qx rfl (qa rfl (qa rfl (Ae (Ab (Aa Ac rfl (qm rfl (qa rfl (Ae ?_))))))))))
 obtain rfl := sj h
 refine Am (sm [] [(12, .e (.one (.pure (.val (.int .i64 v3.2.1)))))] [(90000, .box [.pure (.val (.int .i64 v3.2.2))])] rfl rfl) (Az ?_)
 exact ⟨⟨[_], ⟨.tmp _ _ rfl, trivial⟩, rfl⟩, ⟨rfl, trivial⟩, trivial⟩
set_option maxRecDepth 10000 in
theorem D9 (N : Nat) (p0 : List Ag) (p1 : Int) (p2 : Int) (p3 : (Ag × Ag) → Option Int) (r : Int × Int) (h : B1 N p0 p1 p2 p3 = some r) : Bi Tryz.prog 167 [.e (.one (.pure (.sl (p0.map Aj)))), .e (.one (.pure (.val (.int .i64 p1)))), .e (.one (.ptr 90000 0)), .e (.one (.clo (Bc (CL true Aj true Aj) Bh p3)))] [(.box [.pure (.val (.int .i64 p2))], .box [.pure (.val (.int .i64 r.2))])] [] (.e (.one (.pure (.val (.int .i64 r.1))))) := by
 unfold B1 at h
 refine A9 (n := 18) (rs := [.tmp 8]) Tryz.func167 rfl rfl rfl (A3 rfl) (A3 rfl) rfl rfl (A3 rfl) rfl (A3 rfl) fun w0 S0 GL => ?_
 refine Am (sm [] [(0, .e (.one (.pure (.sl (p0.map Aj))))), (1, .e (.one (.pure (.val (.int .i64 p1))))), (2, .e (.one (.ptr 90000 0))), (3, .e (.one (.clo (Bc (CL true Aj true Aj) Bh p3))))] [(90000, .box [.pure (.val (.int .i64 p2))])] rfl rfl) (Ab (Aa Ac rfl (qa rfl (Ae (Ab (Aa Ac rfl (qm rfl (qm rfl (Bj rfl (qm rfl (qm rfl (AN rfl (qm rfl (qm rfl ?_))))))))))))))
 obtain ⟨v1, a1, h⟩ := bind_some h
 refine BD (ds0 := [_, _, _, _, _, _]) [90000] [] [true] (GD N p0 ((IntKind.wrap .i64 (p1 - 1))) p1 ((IntKind.wrap .i64 (p1 + 1))) p2 p3 v1 a1) (.p rfl) V3 rfl ⟨rfl, rfl, rfl, rfl, rfl, rfl, trivial⟩ rfl rfl (by decide) ⟨rfl, trivial⟩ rfl (AX rfl) trivial ⟨(fun h => by cases h), trivial⟩ rfl rfl rfl ?_
 refine qa rfl (Ae ?_)
 obtain rfl := sj h
 refine Am (sm [] [(8, .e (.one (.pure (.val (.int .i64 v1.1)))))] [(90000, .box [.pure (.val (.int .i64 v1.2))])] rfl rfl) (Az ?_)
 exact ⟨⟨[_], ⟨.tmp _ _ rfl, trivial⟩, rfl⟩, ⟨rfl, trivial⟩, trivial⟩
set_option maxRecDepth 10000 in
theorem H3 (N : Nat) (p0 : List Ag) (p1 : Int) (p2 : Int) (p3 : (Ag × Ag) → Option Int) (r : Int × Int) (h : Eq N p0 p1 p2 p3 = some r) : AB Tryz.prog 148 [.e (.one (.pure (.sl (p0.map Aj)))), .e (.one (.pure (.val (.int .i64 p1)))), .e (.one (.pure (.val (.int .i64 p2)))), .e (.one (.clo (Bc (CL true Aj true Aj) Bh p3)))] [] (.tup [.one (.pure (.val (.int .i64 r.1))), .one (.pure (.val (.int .i64 r.2)))]) := by
 unfold Eq at h
 refine As (n := 63) (rs := [.tmp 8, .tmp 9]) Tryz.func148 rfl rfl rfl (A3 rfl) (A3 rfl) rfl fun w0 S0 => ?_
 refine Ab (Aa Ac rfl (qa rfl (qa rfl (Ae (Ab (Aa Ac rfl (qm rfl (qm rfl (Bj rfl (qa rfl (Ae (Ab (Aa Ac rfl (qz Lb rfl (Ae (Ab (Aa Ac rfl (qm rfl (qm rfl (Kn rfl (by decide) (In rfl (AN rfl (qa rfl (Ae (Ab (Aa Ac rfl (qm rfl (qm rfl (Kn rfl (by decide) (In rfl (AN rfl (qa rfl (Ae (Ab (Aa Ac rfl (qm rfl (qm rfl (Kn rfl (by decide) (In rfl ?_)))))))))))))))))))))))))))))))))))))))
 refine AN rfl (qa rfl (Ae ?_))
 refine AM h (fun v1 => mk [(11, .e (.one (.ptr 11 0))), (13, .e (.one (.pure (.val (.int .i64 v1.2)))))] [(11, .box [.pure (.val (.int .i64 v1.1))])]) (fun j1 h => ?_) (fun v1 h => ?_)
 ·refine Ab (Aa Ac rfl (qm rfl (Db rfl (Ae ?_))))
  refine Ap rfl (fun c2 => ?_) (fun c2 => ?_)
  ·have h := Ao c2 h
   refine AM h (fun v3 => mk [(0, .e (.one (.pure (.sl (p0.map Aj))))), (3, .e (.one (.clo (Bc (CL true Aj true Aj) Bh p3)))), (11, .e (.one (.ptr 11 0))), (12, .e (.one (.pure (.val (.int .i64 v3.2.1))))), (13, .e (.one (.pure (.val (.int .i64 v3.2.2.1))))), (14, .e (.one (.pure (.val (.int .i64 v3.2.2.2)))))] [(11, .box [.pure (.val (.int .i64 v3.1))])]) (fun j3 h => ?_) (fun v3 h => ?_)
   ·refine Ab (Aa Ac rfl (qm rfl (Db rfl (Ae ?_))))
    refine Ap rfl (fun c4 => ?_) (fun c4 => ?_)
    ·have h := Ao c4 h
     refine Ab (Aa Ac rfl (qm rfl (qm rfl (qm rfl ?_))))
     obtain ⟨v5, a5, h⟩ := bind_some h
     refine BD (ds0 := [_, _, _, _]) [11] [] [true] (D9 N p0 ((IntKind.wrap .i64 (p1 + (IntKind.wrap .i64 ((IntKind.wrap .i64 (Int.tdiv ((IntKind.wrap .i64 (p2 - p1))) 4)) * 1))))) 0 p3 v5 a5) (.p rfl) Um rfl ⟨rfl, rfl, rfl, rfl, trivial⟩ rfl rfl (by decide) ⟨rfl, trivial⟩ rfl (AX rfl) trivial ⟨(fun h => by cases h), trivial⟩ rfl rfl rfl ?_
     refine qa rfl (Ae (Ab (Aa Ac rfl (qm rfl (qm rfl (qm rfl ?_))))))
     obtain ⟨v6, a6, h⟩ := bind_some h
     refine BD (ds0 := [_, _, _, _]) [11] [] [true] (D9 N p0 ((IntKind.wrap .i64 (p1 + (IntKind.wrap .i64 ((IntKind.wrap .i64 (Int.tdiv ((IntKind.wrap .i64 (p2 - p1))) 4)) * 2))))) v5.2 p3 v6 a6) (.p rfl) Um rfl ⟨rfl, rfl, rfl, rfl, trivial⟩ rfl rfl (by decide) ⟨rfl, trivial⟩ rfl (AX rfl) trivial ⟨(fun h => by cases h), trivial⟩ rfl rfl rfl ?_
     refine qa rfl (Ae (Aa Ac rfl (qm rfl (qm rfl (qm rfl ?_)))))
     obtain ⟨v7, a7, h⟩ := bind_some h
     refine BD (ds0 := [_, _, _, _]) [11] [] [true] (D9 N p0 ((IntKind.wrap .i64 (p1 + (IntKind.wrap .i64 ((IntKind.wrap .i64 (Int.tdiv ((IntKind.wrap .i64 (p2 - p1))) 4)) * 3))))) v6.2 p3 v7 a7) (.p rfl) Um rfl ⟨rfl, rfl, rfl, rfl, trivial⟩ rfl rfl (by decide) ⟨rfl, trivial⟩ rfl (AX rfl) trivial ⟨(fun h => by cases h), trivial⟩ rfl rfl rfl ?_
     refine qa rfl (Ae ?_)
     exact Au _ h (sm [] _ _ rfl rfl)
    ·have h := An c4 h
     refine Aq ?_
     exact Au _ h (sm [] _ _ rfl rfl)
   ·refine Aa Ac rfl (qm rfl (qm rfl (qm rfl (qm rfl (qm rfl ?_)))))
    obtain ⟨v8, a8, h⟩ := bind_some h
    refine BD (ds0 := [_, _, _, _, _, _]) [11] [] [true] (GD N p0 v3.2.1 v3.2.2.1 v3.2.2.2 v3.1 p3 v8 a8) (.p rfl) V3 rfl ⟨rfl, rfl, rfl, rfl, rfl, rfl, trivial⟩ rfl rfl (by decide) ⟨rfl, trivial⟩ rfl (AX rfl) trivial ⟨(fun h => by cases h), trivial⟩ rfl rfl rfl ?_
    refine qa rfl (Ae ?_)
    exact Au _ h (sm [] _ _ rfl rfl)
  ·have h := An c2 h
   refine Aq ?_
   exact Au _ h (sm [] _ _ rfl rfl)
 ·refine Ab (Aa Ac rfl (ql CN rfl (Ae (AH (Ab (Aa Ac rfl (BX rfl (qa rfl (Ae ?_)))))))))
  refine Ap rfl (fun c9 => ?_) (fun c9 => ?_)
  ·have h := Ao c9 h
   refine Ab (Aa Ac rfl (qm rfl (qa rfl (qa rfl (Ae ?_)))))
   obtain rfl := sj h
   refine Am (sm [] [(8, .e (.one (.pure (.val (.int .i64 v1.2))))), (9, .e (.one (.pure (.val (.int .i64 1)))))] [] rfl rfl) (Az ?_)
   exact ⟨⟨[_, _], ⟨.tmp _ _ rfl, ⟨.tmp _ _ rfl, trivial⟩⟩, rfl⟩, trivial⟩
  ·have h := An c9 h
   refine Ab (Aa Ac rfl (BX rfl (qa rfl (Ae ?_))))
   refine Ap rfl (fun c10 => ?_) (fun c10 => ?_)
   ·have h := Ao c10 h
    refine Ab (Aa Ac rfl (qm rfl (qa rfl (qa rfl (Ae ?_)))))
    obtain rfl := sj h
    refine Am (sm [] [(8, .e (.one (.pure (.val (.int .i64 v1.2))))), (9, .e (.one (.pure (.val (.int .i64 2)))))] [] rfl rfl) (Az ?_)
    exact ⟨⟨[_, _], ⟨.tmp _ _ rfl, ⟨.tmp _ _ rfl, trivial⟩⟩, rfl⟩, trivial⟩
   ·have h := An c10 h
    refine Ab (Aa Ac rfl (qm rfl (qa rfl (qa rfl (Ae ?_)))))
    obtain rfl := sj h
    refine Am (sm [] [(8, .e (.one (.pure (.val (.int .i64 v1.2))))), (9, .e (.one (.pure (.val (.int .i64 0)))))] [] rfl rfl) (Az ?_)
    exact ⟨⟨[_, _], ⟨.tmp _ _ rfl, ⟨.tmp _ _ rfl, trivial⟩⟩, rfl⟩, trivial⟩
set_option maxRecDepth 10000 in
theorem HM (N : Nat) (p0 : List Ag) (p1 : Int) (p2 : Int) (p3 : (Ag × Ag) → Option Int) (r : (List Ag)) (h : Ef N p0 p1 p2 p3 = some r) : Bi Tryz.prog 149 [.e (.one (.own 90000)), .e (.one (.pure (.val (.int .i64 p1)))), .e (.one (.pure (.val (.int .i64 p2)))), .e (.one (.clo (Bc (CL true Aj true Aj) Bh p3)))] [(.vec 3 (p0.map Aj), .vec 3 (r.map Aj))] [] (.tup []) := by
 unfold Ef at h
 refine A9 (n := 34) (rs := []) Tryz.func149 rfl rfl rfl (A3 rfl) (A3 rfl) rfl rfl (A3 rfl) rfl (A3 rfl) fun w0 S0 GL => Kc ?_
 refine Am (sm [] [(0, .e (.one (.own 90000))), (1, .e (.one (.pure (.val (.int .i64 p1))))), (2, .e (.one (.pure (.val (.int .i64 p2))))), (3, .e (.one (.clo (Bc (CL true Aj true Aj) Bh p3))))] [(90000, .vec 3 (p0.map Aj))] rfl rfl) (Ab (Aa Ac rfl (qm rfl (qa rfl (Ae (Ab (Aa Ac rfl (qm rfl (Bj rfl (qa rfl (Ae ?_)))))))))))
 refine AC (L := CM N) h (fun v1 => mk [(0, .e (.one (.own 90000))), (8, .e (.one (.pure (.val (.int .i64 v1.2.1))))), (9, .e (.one (.pure (.val (.int .i64 v1.2.2)))))] [(90000, .vec 3 (v1.1.map Aj))]) (fun v2 => mk [] [(90000, .vec 3 (v2.map Aj))]) (fun _ _ => rfl) (sm [] _ _ rfl rfl) (fun j1 n1 v1 h => ?_) (fun v2 s h hs => ?_)
 ·unfold CM at h
  refine Ab (Ab (Aa Ac rfl (qm rfl (qm rfl (AT rfl (Ae ?_))))))
  refine Ap rfl (fun c3 => ?_) (fun c3 => ?_)
  ·have h := Ao c3 h
   refine Aq (AH (Ab (Aa Ac rfl (qm rfl (qm rfl (qm rfl (qm rfl (qm rfl (qm rfl ?_)))))))))
   obtain ⟨v4, a4, b4, h⟩ := Ai h
   refine qI AZ Ay a4 (Ah b4) rfl (qJ A4 Ay (Ah b4) rfl (qm rfl (qm rfl ?_)))
   obtain ⟨v5, a5, b5, h⟩ := Ai h
   refine qI AZ Ay a5 (Ah b5) rfl (qJ A4 Ay (Ah b5) rfl ?_)
   obtain ⟨v6, a6, b6, h⟩ := Ai h
   refine qI AZ Ay a6 (Ah b6) rfl ?_
   refine AV rfl rfl rfl rfl (Ah b6) rfl Ay rfl (A3 rfl) (AW Aj v1.1 _ v4) ?_
   obtain ⟨v7, a7, b7, h⟩ := Ai h
   refine qI AZ Ay a7 (Ah b7) rfl ?_
   refine AV rfl rfl rfl rfl (Ah b7) rfl Ay rfl (A3 rfl) (AW Aj (v1.1.set ((v1.2.1).toNat) v4) _ v5) ?_
   refine AA (by kernel_rfl) (Ab (Aa Ac rfl (qm rfl (AN rfl (qa rfl (Ae (Aa Ac rfl (qm rfl (Bj rfl (qa rfl (Ae ?_)))))))))))
   exact Au _ h (sm [] _ _ rfl rfl)
  ·have h := An c3 h
   refine AP ?_
   exact Au _ h (sm [] _ _ rfl rfl)
 ·obtain rfl := sj h
  refine ⟨_, hs.trans (sm [] [] [(90000, .vec 3 (v2.map Aj))] rfl rfl), ?_⟩
  exact ⟨⟨[], trivial, rfl⟩, ⟨rfl, trivial⟩, trivial⟩
set_option maxRecDepth 10000 in
theorem GE (N : Nat) (p0 : List Ag) (p1 : Int) (p2 : Int) (p3 : (Ag × Ag) → Option Int) (r : Bool × (List Ag)) (h : Dj N p0 p1 p2 p3 = some r) : Bi Tryz.prog 150 [.e (.one (.own 90000)), .e (.one (.pure (.val (.int .i64 p1)))), .e (.one (.pure (.val (.int .i64 p2)))), .e (.one (.clo (Bc (CL true Aj true Aj) Bh p3)))] [(.vec 3 (p0.map Aj), .vec 3 (r.2.map Aj))] [] (.e (.one (.pure (.val (.bool r.1))))) := by
 unfold Dj at h
 refine A9 (n := 141) (rs := [.tmp 8]) Tryz.func150 rfl rfl rfl (A3 rfl) (A3 rfl) rfl rfl (A3 rfl) rfl (A3 rfl) fun w0 S0 GL => ?_
 refine Am (sm [] [(0, .e (.one (.own 90000))), (1, .e (.one (.pure (.val (.int .i64 p1))))), (2, .e (.one (.pure (.val (.int .i64 p2))))), (3, .e (.one (.clo (Bc (CL true Aj true Aj) Bh p3))))] [(90000, .vec 3 (p0.map Aj))] rfl rfl) (Ab (Aa Ac rfl (qa rfl (Ae (Ab (Aa Ac rfl (qm rfl (AN rfl (qa rfl (Ae (Ab (Ab (Aa Ac rfl (qa rfl (Ae ?_)))))))))))))))
 refine AC (L := BR N p1 p2 p3) h (fun v1 => mk [(0, .e (.one (.own 90000))), (1, .e (.one (.pure (.val (.int .i64 p1))))), (2, .e (.one (.pure (.val (.int .i64 p2))))), (3, .e (.one (.clo (Bc (CL true Aj true Aj) Bh p3)))), (9, .e (.one (.pure (.val (.int .i64 v1.2.1))))), (10, .e (.one (.pure (.val (.int .i64 v1.2.2)))))] [(90000, .vec 3 (v1.1.map Aj))]) (fun v2 => mk [] [(90000, .vec 3 (v2.map Aj))]) (fun _ _ => rfl) (sm [] _ _ rfl rfl) (fun j1 n1 v1 h => ?_) (fun v2 s h hs => ?_)
 ·unfold BR at h
  refine Ab (Ab (Aa Ac rfl (qm rfl (AT rfl (Ae ?_)))))
  refine Ap rfl (fun c3 => ?_) (fun c3 => ?_)
  ·have h := Ao c3 h
   refine Aq ?_
   refine AM h (fun v4 => mk [(0, .e (.one (.own 90000))), (1, .e (.one (.pure (.val (.int .i64 p1))))), (2, .e (.one (.pure (.val (.int .i64 p2))))), (3, .e (.one (.clo (Bc (CL true Aj true Aj) Bh p3)))), (9, .e (.one (.pure (.val (.int .i64 v4.2))))), (10, .e (.one (.pure (.val (.int .i64 v1.2.2)))))] [(90000, .vec 3 (v4.1.map Aj))]) (fun j4 h => ?_) (fun v4 h => ?_)
   ·refine AH (Ab ?_)
    refine AC (L := BT N p2 p3 v1) h (fun v5 => mk [(0, .e (.one (.own 90000))), (1, .e (.one (.pure (.val (.int .i64 p1))))), (2, .e (.one (.pure (.val (.int .i64 p2))))), (3, .e (.one (.clo (Bc (CL true Aj true Aj) Bh p3)))), (9, .e (.one (.pure (.val (.int .i64 v5))))), (10, .e (.one (.pure (.val (.int .i64 v1.2.2)))))] [(90000, .vec 3 (v1.1.map Aj))]) (fun v6 => mk [(0, .e (.one (.own 90000))), (1, .e (.one (.pure (.val (.int .i64 p1))))), (2, .e (.one (.pure (.val (.int .i64 p2))))), (3, .e (.one (.clo (Bc (CL true Aj true Aj) Bh p3)))), (9, .e (.one (.pure (.val (.int .i64 v6))))), (10, .e (.one (.pure (.val (.int .i64 v1.2.2)))))] [(90000, .vec 3 (v1.1.map Aj))]) (fun _ _ => rfl) (sm [] _ _ rfl rfl) (fun j5 n5 v5 h => ?_) (fun v6 s h hs => ?_)
    ·unfold BT at h
     refine Ab ?_
     refine AM h (fun v7 => mk [(0, .e (.one (.own 90000))), (1, .e (.one (.pure (.val (.int .i64 p1))))), (2, .e (.one (.pure (.val (.int .i64 p2))))), (3, .e (.one (.clo (Bc (CL true Aj true Aj) Bh p3)))), (9, .e (.one (.pure (.val (.int .i64 v5))))), (10, .e (.one (.pure (.val (.int .i64 v1.2.2))))), (36, .e (.one (.pure (.val (.bool v7)))))] [(90000, .vec 3 (v1.1.map Aj))]) (fun j7 h => ?_) (fun v7 h => ?_)
     ·refine Aa Ac rfl (qm rfl (qm rfl (AT rfl (qm rfl ?_))))
      refine AD (t := 22) rfl (fun c8 => ?_) (fun c8 => ?_)
      ·have h := Ao c8 h
       refine qm rfl (qm rfl (qm rfl ?_))
       obtain ⟨v9, a9, b9, h⟩ := Ai h
       refine qI AZ Ay a9 (Ah b9) rfl (qJ A4 Ay (Ah b9) rfl (qm rfl (qm rfl (Bj rfl ?_))))
       obtain ⟨v10, a10, b10, h⟩ := Ai h
       refine qI AZ Ay a10 (Ah b10) rfl (qJ A4 Ay (Ah b10) rfl ?_)
       obtain ⟨v11, a11, h⟩ := bind_some h
       refine C9 (ds0 := [_, _]) (ar := (CL true Aj true Aj) ((v9, v10))) (.g rfl rfl) rfl rfl ⟨rfl, rfl, trivial⟩ rfl rfl rfl (C2 (DQ _ _ _ _ BI BI) a11) ?_
       refine AT rfl (Cb rfl (qp rfl (AA (by kernel_rfl) ?_)))
       exact Au _ h (sm [] _ _ rfl rfl)
      ·have h := An c8 h
       refine qn rfl (qn rfl (qn rfl (qn rfl (qn rfl (qn rfl (qn rfl (qn rfl (qn rfl (qn rfl (qn rfl (qn rfl (qn rfl (qp rfl (AA (by kernel_rfl) ?_))))))))))))))
       exact Au _ h (sm [] _ _ rfl rfl)
     ·refine Ap rfl (fun c12 => ?_) (fun c12 => ?_)
      ·have h := Ao c12 h
       refine Aq (AH (Aa Ac rfl (qm rfl (AN rfl (qa rfl (Ae ?_))))))
       exact Au _ h (sm [] _ _ rfl rfl)
      ·have h := An c12 h
       refine AP ?_
       exact Au _ h (sm [] _ _ rfl rfl)
    ·refine Am hs (Ab (Ab (Aa Ac rfl (qm rfl (qm rfl (BX rfl (Ae ?_)))))))
     refine Ap rfl (fun c13 => ?_) (fun c13 => ?_)
     ·have h := Ao c13 h
      refine Ab (Aa Ac rfl (qa rfl (Ae ?_)))
      obtain rfl := sj h
      refine Am (sm [] [(8, .e (.one (.pure (.val (.bool true)))))] [(90000, .vec 3 (v1.1.map Aj))] rfl rfl) (Az ?_)
      exact ⟨⟨[_], ⟨.tmp _ _ rfl, trivial⟩, rfl⟩, ⟨rfl, trivial⟩, trivial⟩
     ·have h := An c13 h
      refine Aq (Ab (Ab (Aa Ac rfl (qm rfl (qm rfl (Bj rfl (AT rfl (Ae ?_))))))))
      refine Ap rfl (fun c14 => ?_) (fun c14 => ?_)
      ·have h := Ao c14 h
       refine Ab (Aa Ac rfl (qa rfl (Ae ?_)))
       obtain rfl := sj h
       refine Am (sm [] [(8, .e (.one (.pure (.val (.bool false)))))] [(90000, .vec 3 (v1.1.map Aj))] rfl rfl) (Az ?_)
       exact ⟨⟨[_], ⟨.tmp _ _ rfl, trivial⟩, rfl⟩, ⟨rfl, trivial⟩, trivial⟩
      ·have h := An c14 h
       refine Aq (Ab (Aa Ac rfl (qm rfl (qm rfl (qm rfl (qm rfl (Bj rfl (qm rfl (qm rfl (Bj rfl ?_))))))))))
       obtain ⟨v15, a15, b15, h⟩ := Ai h
       refine qI AZ Ay a15 (Ah b15) rfl (qJ A4 Ay (Ah b15) rfl (qm rfl (qm rfl ?_)))
       obtain ⟨v16, a16, b16, h⟩ := Ai h
       refine qI AZ Ay a16 (Ah b16) rfl (qJ A4 Ay (Ah b16) rfl ?_)
       obtain ⟨v17, a17, b17, h⟩ := Ai h
       refine qI AZ Ay a17 (Ah b17) rfl ?_
       refine AV rfl rfl rfl rfl (Ah b17) rfl Ay rfl (A3 rfl) (AW Aj v1.1 _ v15) ?_
       obtain ⟨v18, a18, b18, h⟩ := Ai h
       refine qI AZ Ay a18 (Ah b18) rfl ?_
       refine AV rfl rfl rfl rfl (Ah b18) rfl Ay rfl (A3 rfl) (AW Aj (v1.1.set ((v6).toNat) v15) _ v16) ?_
       refine AA (by kernel_rfl) ?_
       refine AM h (fun v19 => mk [(0, .e (.one (.own 90000))), (1, .e (.one (.pure (.val (.int .i64 p1))))), (2, .e (.one (.pure (.val (.int .i64 p2))))), (3, .e (.one (.clo (Bc (CL true Aj true Aj) Bh p3)))), (9, .e (.one (.pure (.val (.int .i64 v6))))), (10, .e (.one (.pure (.val (.int .i64 v1.2.2)))))] [(90000, .vec 3 (v19.map Aj))]) (fun j19 h => ?_) (fun v19 h => ?_)
       ·refine Ab (Aa Ac rfl (qm rfl (qm rfl (Bj rfl (Db rfl (Ae ?_))))))
        refine Ap rfl (fun c20 => ?_) (fun c20 => ?_)
        ·have h := Ao c20 h
         refine Ab (Aa Ac rfl (qm rfl (Bj rfl (qa rfl (Ae ?_)))))
         refine AC (L := BM N p3) h (fun v21 => mk [(0, .e (.one (.own 90000))), (1, .e (.one (.pure (.val (.int .i64 p1))))), (2, .e (.one (.pure (.val (.int .i64 p2))))), (3, .e (.one (.clo (Bc (CL true Aj true Aj) Bh p3)))), (9, .e (.one (.pure (.val (.int .i64 v6))))), (10, .e (.one (.pure (.val (.int .i64 v1.2.2))))), (11, .e (.one (.pure (.val (.int .i64 v21.2)))))] [(90000, .vec 3 (v21.1.map Aj))]) (fun v22 => mk [(0, .e (.one (.own 90000))), (1, .e (.one (.pure (.val (.int .i64 p1))))), (2, .e (.one (.pure (.val (.int .i64 p2))))), (3, .e (.one (.clo (Bc (CL true Aj true Aj) Bh p3)))), (9, .e (.one (.pure (.val (.int .i64 v6))))), (10, .e (.one (.pure (.val (.int .i64 v1.2.2)))))] [(90000, .vec 3 (v22.map Aj))]) (fun _ _ => rfl) (sm [] _ _ rfl rfl) (fun j21 n21 v21 h => ?_) (fun v22 s h hs => ?_)
         ·unfold BM at h
          refine Ab (Ab (Aa Ac rfl (qm rfl (Db rfl (Ae ?_)))))
          refine Ap rfl (fun c23 => ?_) (fun c23 => ?_)
          ·have h := Ao c23 h
           refine Aq (Ab (AH (Ab (Ab (Aa Ac rfl (qm rfl (qm rfl (qm rfl ?_))))))))
           obtain ⟨v24, a24, b24, h⟩ := Ai h
           refine qI AZ Ay a24 (Ah b24) rfl (qJ A4 Ay (Ah b24) rfl (qm rfl (qm rfl (Bj rfl ?_))))
           obtain ⟨v25, a25, b25, h⟩ := Ai h
           refine qI AZ Ay a25 (Ah b25) rfl (qJ A4 Ay (Ah b25) rfl ?_)
           obtain ⟨v26, a26, h⟩ := bind_some h
           refine C9 (ds0 := [_, _]) (ar := (CL true Aj true Aj) ((v24, v25))) (.p rfl) rfl rfl ⟨rfl, rfl, trivial⟩ rfl rfl rfl (C2 (DQ _ _ _ _ BI BI) a26) ?_
           refine AT rfl (Cb rfl (AA (by kernel_rfl) ?_))
           refine Ap rfl (fun c27 => ?_) (fun c27 => ?_)
           ·have h := Ao c27 h
            refine AP ?_
            exact Au _ h (sm [] _ _ rfl rfl)
           ·have h := An c27 h
            refine Aq (Aa Ac rfl (qm rfl (qm rfl (qm rfl (qm rfl (Bj rfl (qm rfl (qm rfl (Bj rfl ?_)))))))))
            obtain ⟨v28, a28, b28, h⟩ := Ai h
            refine qI AZ Ay a28 (Ah b28) rfl (qJ A4 Ay (Ah b28) rfl (qm rfl (qm rfl ?_)))
            obtain ⟨v29, a29, b29, h⟩ := Ai h
            refine qI AZ Ay a29 (Ah b29) rfl (qJ A4 Ay (Ah b29) rfl ?_)
            obtain ⟨v30, a30, b30, h⟩ := Ai h
            refine qI AZ Ay a30 (Ah b30) rfl ?_
            refine AV rfl rfl rfl rfl (Ah b30) rfl Ay rfl (A3 rfl) (AW Aj v21.1 _ v28) ?_
            obtain ⟨v31, a31, b31, h⟩ := Ai h
            refine qI AZ Ay a31 (Ah b31) rfl ?_
            refine AV rfl rfl rfl rfl (Ah b31) rfl Ay rfl (A3 rfl) (AW Aj (v21.1.set ((v21.2).toNat) v28) _ v29) ?_
            refine AA (by kernel_rfl) (Aa Ac rfl (qm rfl (Bj rfl (qa rfl (Ae ?_)))))
            exact Au _ h (sm [] _ _ rfl rfl)
          ·have h := An c23 h
           refine AP ?_
           exact Au _ h (sm [] _ _ rfl rfl)
         ·exact Au _ h (hs.trans (sm [] _ _ rfl rfl))
        ·have h := An c20 h
         refine Aq ?_
         exact Au _ h (sm [] _ _ rfl rfl)
       ·refine Ab (Aa Ac rfl (qm rfl (qm rfl (Bj rfl (Db rfl (Ae ?_))))))
        refine Ap rfl (fun c32 => ?_) (fun c32 => ?_)
        ·have h := Ao c32 h
         refine Ab (Aa Ac rfl (qm rfl (AN rfl (qa rfl (Ae ?_)))))
         refine AC (L := BL N p2 p3) h (fun v33 => mk [(0, .e (.one (.own 90000))), (1, .e (.one (.pure (.val (.int .i64 p1))))), (2, .e (.one (.pure (.val (.int .i64 p2))))), (3, .e (.one (.clo (Bc (CL true Aj true Aj) Bh p3)))), (9, .e (.one (.pure (.val (.int .i64 v6))))), (10, .e (.one (.pure (.val (.int .i64 v1.2.2))))), (12, .e (.one (.pure (.val (.int .i64 v33.2)))))] [(90000, .vec 3 (v33.1.map Aj))]) (fun v34 => mk [(0, .e (.one (.own 90000))), (1, .e (.one (.pure (.val (.int .i64 p1))))), (2, .e (.one (.pure (.val (.int .i64 p2))))), (3, .e (.one (.clo (Bc (CL true Aj true Aj) Bh p3)))), (9, .e (.one (.pure (.val (.int .i64 v6))))), (10, .e (.one (.pure (.val (.int .i64 v1.2.2)))))] [(90000, .vec 3 (v34.map Aj))]) (fun _ _ => rfl) (sm [] _ _ rfl rfl) (fun j33 n33 v33 h => ?_) (fun v34 s h hs => ?_)
         ·unfold BL at h
          refine Ab (Ab (Aa Ac rfl (qm rfl (qm rfl (AT rfl (Ae ?_))))))
          refine Ap rfl (fun c35 => ?_) (fun c35 => ?_)
          ·have h := Ao c35 h
           refine Aq (Ab (AH (Ab (Ab (Aa Ac rfl (qm rfl (qm rfl (qm rfl ?_))))))))
           obtain ⟨v36, a36, b36, h⟩ := Ai h
           refine qI AZ Ay a36 (Ah b36) rfl (qJ A4 Ay (Ah b36) rfl (qm rfl (qm rfl (Bj rfl ?_))))
           obtain ⟨v37, a37, b37, h⟩ := Ai h
           refine qI AZ Ay a37 (Ah b37) rfl (qJ A4 Ay (Ah b37) rfl ?_)
           obtain ⟨v38, a38, h⟩ := bind_some h
           refine C9 (ds0 := [_, _]) (ar := (CL true Aj true Aj) ((v36, v37))) (.p rfl) rfl rfl ⟨rfl, rfl, trivial⟩ rfl rfl rfl (C2 (DQ _ _ _ _ BI BI) a38) ?_
           refine AT rfl (Cb rfl (AA (by kernel_rfl) ?_))
           refine Ap rfl (fun c39 => ?_) (fun c39 => ?_)
           ·have h := Ao c39 h
            refine AP ?_
            exact Au _ h (sm [] _ _ rfl rfl)
           ·have h := An c39 h
            refine Aq (Aa Ac rfl (qm rfl (qm rfl (qm rfl (qm rfl (Bj rfl (qm rfl (qm rfl (Bj rfl ?_)))))))))
            obtain ⟨v40, a40, b40, h⟩ := Ai h
            refine qI AZ Ay a40 (Ah b40) rfl (qJ A4 Ay (Ah b40) rfl (qm rfl (qm rfl ?_)))
            obtain ⟨v41, a41, b41, h⟩ := Ai h
            refine qI AZ Ay a41 (Ah b41) rfl (qJ A4 Ay (Ah b41) rfl ?_)
            obtain ⟨v42, a42, b42, h⟩ := Ai h
            refine qI AZ Ay a42 (Ah b42) rfl ?_
            refine AV rfl rfl rfl rfl (Ah b42) rfl Ay rfl (A3 rfl) (AW Aj v33.1 _ v40) ?_
            obtain ⟨v43, a43, b43, h⟩ := Ai h
            refine qI AZ Ay a43 (Ah b43) rfl ?_
            refine AV rfl rfl rfl rfl (Ah b43) rfl Ay rfl (A3 rfl) (AW Aj (v33.1.set ((v33.2).toNat) v40) _ v41) ?_
            refine AA (by kernel_rfl) (Aa Ac rfl (qm rfl (AN rfl (qa rfl (Ae ?_)))))
            exact Au _ h (sm [] _ _ rfl rfl)
          ·have h := An c35 h
           refine AP ?_
           exact Au _ h (sm [] _ _ rfl rfl)
         ·exact Au _ h (hs.trans (sm [] _ _ rfl rfl))
        ·have h := An c32 h
         refine Aq ?_
         exact Au _ h (sm [] _ _ rfl rfl)
   ·refine Aa Ac rfl (qm rfl (AN rfl (qa rfl (Ae ?_))))
    exact Au _ h (sm [] _ _ rfl rfl)
  ·have h := An c3 h
   refine AP ?_
   exact Au _ h (sm [] _ _ rfl rfl)
 ·refine Am hs (Ab (Aa Ac rfl (qa rfl (Ae ?_))))
  obtain rfl := sj h
  refine Am (sm [] [(8, .e (.one (.pure (.val (.bool false)))))] [(90000, .vec 3 (v2.map Aj))] rfl rfl) (Az ?_)
  exact ⟨⟨[_], ⟨.tmp _ _ rfl, trivial⟩, rfl⟩, ⟨rfl, trivial⟩, trivial⟩
set_option maxRecDepth 10000 in
theorem Hp (N : Nat) (p0 : List Ag) (p1 : Int) (p2 : Int) (p3 : Int) (p4 : (Ag × Ag) → Option Int) (r : Int × (List Ag)) (h : DZ N p0 p1 p2 p3 p4 = some r) : Bi Tryz.prog 151 [.e (.one (.own 90000)), .e (.one (.pure (.val (.int .i64 p1)))), .e (.one (.pure (.val (.int .i64 p2)))), .e (.one (.pure (.val (.int .i64 p3)))), .e (.one (.clo (Bc (CL true Aj true Aj) Bh p4)))] [(.vec 3 (p0.map Aj), .vec 3 (r.2.map Aj))] [] (.e (.one (.pure (.val (.int .i64 r.1))))) := by
 unfold DZ at h
 refine A9 (n := 90) (rs := [.tmp 10]) Tryz.func151 rfl rfl rfl (A3 rfl) (A3 rfl) rfl rfl (A3 rfl) rfl (A3 rfl) fun w0 S0 GL => ?_
 refine Am (sm [] [(0, .e (.one (.own 90000))), (1, .e (.one (.pure (.val (.int .i64 p1))))), (2, .e (.one (.pure (.val (.int .i64 p2))))), (3, .e (.one (.pure (.val (.int .i64 p3))))), (4, .e (.one (.clo (Bc (CL true Aj true Aj) Bh p4))))] [(90000, .vec 3 (p0.map Aj))] rfl rfl) (Ab (Aa Ac rfl (qa rfl (Ae (Ab (Aa Ac rfl (qm rfl (qm rfl (qm rfl (qm rfl (qm rfl (qm rfl ?_))))))))))))
 obtain ⟨v1, a1, b1, h⟩ := Ai h
 refine qI AZ Ay a1 (Ah b1) rfl (qJ A4 Ay (Ah b1) rfl (qm rfl (qm rfl ?_)))
 obtain ⟨v2, a2, b2, h⟩ := Ai h
 refine qI AZ Ay a2 (Ah b2) rfl (qJ A4 Ay (Ah b2) rfl ?_)
 obtain ⟨v3, a3, b3, h⟩ := Ai h
 refine qI AZ Ay a3 (Ah b3) rfl ?_
 refine AV rfl rfl rfl rfl (Ah b3) rfl Ay rfl (A3 rfl) (AW Aj p0 _ v1) ?_
 obtain ⟨v4, a4, b4, h⟩ := Ai h
 refine qI AZ Ay a4 (Ah b4) rfl ?_
 refine AV rfl rfl rfl rfl (Ah b4) rfl Ay rfl (A3 rfl) (AW Aj (p0.set ((p1).toNat) v1) _ v2) ?_
 refine AA (by kernel_rfl) (Ab (Aa Ac rfl (qm rfl (AN rfl (qm rfl (Bj rfl (qa rfl (qa rfl (Ae (Ab ?_))))))))))
 refine AC (L := Cn N p1 p4) h (fun v5 => mk [(0, .e (.one (.own 90000))), (1, .e (.one (.pure (.val (.int .i64 p1))))), (4, .e (.one (.clo (Bc (CL true Aj true Aj) Bh p4)))), (11, .e (.one (.pure (.val (.int .i64 v5.2.1))))), (12, .e (.one (.pure (.val (.int .i64 v5.2.2)))))] [(90000, .vec 3 (v5.1.map Aj))]) (fun v6 => mk [(11, .e (.one (.pure (.val (.int .i64 v6.2)))))] [(90000, .vec 3 (v6.1.map Aj))]) (fun _ _ => rfl) (sm [] _ _ rfl rfl) (fun j5 n5 v5 h => ?_) (fun v6 s h hs => ?_)
 ·unfold Cn at h
  refine AH (Ab ?_)
  refine AC (L := Cr N p1 p4 v5) h (fun v7 => mk [(0, .e (.one (.own 90000))), (1, .e (.one (.pure (.val (.int .i64 p1))))), (4, .e (.one (.clo (Bc (CL true Aj true Aj) Bh p4)))), (11, .e (.one (.pure (.val (.int .i64 v7))))), (12, .e (.one (.pure (.val (.int .i64 v5.2.2)))))] [(90000, .vec 3 (v5.1.map Aj))]) (fun v8 => mk [(0, .e (.one (.own 90000))), (1, .e (.one (.pure (.val (.int .i64 p1))))), (4, .e (.one (.clo (Bc (CL true Aj true Aj) Bh p4)))), (11, .e (.one (.pure (.val (.int .i64 v8))))), (12, .e (.one (.pure (.val (.int .i64 v5.2.2)))))] [(90000, .vec 3 (v5.1.map Aj))]) (fun _ _ => rfl) (sm [] _ _ rfl rfl) (fun j7 n7 v7 h => ?_) (fun v8 s h hs => ?_)
  ·unfold Cr at h
   refine Ab ?_
   refine AM h (fun v9 => mk [(0, .e (.one (.own 90000))), (1, .e (.one (.pure (.val (.int .i64 p1))))), (4, .e (.one (.clo (Bc (CL true Aj true Aj) Bh p4)))), (11, .e (.one (.pure (.val (.int .i64 v7))))), (12, .e (.one (.pure (.val (.int .i64 v5.2.2))))), (47, .e (.one (.pure (.val (.bool v9)))))] [(90000, .vec 3 (v5.1.map Aj))]) (fun j9 h => ?_) (fun v9 h => ?_)
   ·refine Aa Ac rfl (qm rfl (qm rfl (IR rfl (qm rfl ?_))))
    refine AD (t := 34) rfl (fun c10 => ?_) (fun c10 => ?_)
    ·have h := Ao c10 h
     refine qm rfl (qm rfl (qm rfl ?_))
     obtain ⟨v11, a11, b11, h⟩ := Ai h
     refine qI AZ Ay a11 (Ah b11) rfl (qJ A4 Ay (Ah b11) rfl (qm rfl (qm rfl ?_)))
     obtain ⟨v12, a12, b12, h⟩ := Ai h
     refine qI AZ Ay a12 (Ah b12) rfl (qJ A4 Ay (Ah b12) rfl ?_)
     obtain ⟨v13, a13, h⟩ := bind_some h
     refine C9 (ds0 := [_, _]) (ar := (CL true Aj true Aj) ((v11, v12))) (.g rfl rfl) rfl rfl ⟨rfl, rfl, trivial⟩ rfl rfl rfl (C2 (DQ _ _ _ _ BI BI) a13) ?_
     refine AT rfl (Cb rfl (qp rfl (AA (by kernel_rfl) ?_)))
     exact Au _ h (sm [] _ _ rfl rfl)
    ·have h := An c10 h
     refine qn rfl (qn rfl (qn rfl (qn rfl (qn rfl (qn rfl (qn rfl (qn rfl (qn rfl (qn rfl (qn rfl (qn rfl (qp rfl (AA (by kernel_rfl) ?_)))))))))))))
     exact Au _ h (sm [] _ _ rfl rfl)
   ·refine Ap rfl (fun c14 => ?_) (fun c14 => ?_)
    ·have h := Ao c14 h
     refine Aq (AH (Aa Ac rfl (qm rfl (AN rfl (qa rfl (Ae ?_))))))
     exact Au _ h (sm [] _ _ rfl rfl)
    ·have h := An c14 h
     refine AP ?_
     exact Au _ h (sm [] _ _ rfl rfl)
  ·refine Am hs (Ab ?_)
   refine AC (L := Ch N p1 p4 v5 v8) h (fun v15 => mk [(0, .e (.one (.own 90000))), (1, .e (.one (.pure (.val (.int .i64 p1))))), (4, .e (.one (.clo (Bc (CL true Aj true Aj) Bh p4)))), (11, .e (.one (.pure (.val (.int .i64 v8))))), (12, .e (.one (.pure (.val (.int .i64 v15)))))] [(90000, .vec 3 (v5.1.map Aj))]) (fun v16 => mk [(0, .e (.one (.own 90000))), (1, .e (.one (.pure (.val (.int .i64 p1))))), (4, .e (.one (.clo (Bc (CL true Aj true Aj) Bh p4)))), (11, .e (.one (.pure (.val (.int .i64 v8))))), (12, .e (.one (.pure (.val (.int .i64 v16)))))] [(90000, .vec 3 (v5.1.map Aj))]) (fun _ _ => rfl) (sm [] _ _ rfl rfl) (fun j15 n15 v15 h => ?_) (fun v16 s h hs => ?_)
   ·unfold Ch at h
    refine Ab ?_
    refine AM h (fun v17 => mk [(0, .e (.one (.own 90000))), (1, .e (.one (.pure (.val (.int .i64 p1))))), (4, .e (.one (.clo (Bc (CL true Aj true Aj) Bh p4)))), (11, .e (.one (.pure (.val (.int .i64 v8))))), (12, .e (.one (.pure (.val (.int .i64 v15))))), (65, .e (.one (.pure (.val (.bool v17)))))] [(90000, .vec 3 (v5.1.map Aj))]) (fun j17 h => ?_) (fun v17 h => ?_)
    ·refine Aa Ac rfl (qm rfl (qm rfl (IR rfl (qm rfl ?_))))
     refine AD (t := 53) rfl (fun c18 => ?_) (fun c18 => ?_)
     ·have h := Ao c18 h
      refine qm rfl (qm rfl (qm rfl ?_))
      obtain ⟨v19, a19, b19, h⟩ := Ai h
      refine qI AZ Ay a19 (Ah b19) rfl (qJ A4 Ay (Ah b19) rfl (qm rfl (qm rfl ?_)))
      obtain ⟨v20, a20, b20, h⟩ := Ai h
      refine qI AZ Ay a20 (Ah b20) rfl (qJ A4 Ay (Ah b20) rfl ?_)
      obtain ⟨v21, a21, h⟩ := bind_some h
      refine C9 (ds0 := [_, _]) (ar := (CL true Aj true Aj) ((v19, v20))) (.g rfl rfl) rfl rfl ⟨rfl, rfl, trivial⟩ rfl rfl rfl (C2 (DQ _ _ _ _ BI BI) a21) ?_
      refine AT rfl (qp rfl (AA (by kernel_rfl) ?_))
      exact Au _ h (sm [] _ _ rfl rfl)
     ·have h := An c18 h
      refine qn rfl (qn rfl (qn rfl (qn rfl (qn rfl (qn rfl (qn rfl (qn rfl (qn rfl (qn rfl (qn rfl (qp rfl (AA (by kernel_rfl) ?_))))))))))))
      exact Au _ h (sm [] _ _ rfl rfl)
    ·refine Ap rfl (fun c22 => ?_) (fun c22 => ?_)
     ·have h := Ao c22 h
      refine Aq (AH (Aa Ac rfl (qm rfl (Bj rfl (qa rfl (Ae ?_))))))
      exact Au _ h (sm [] _ _ rfl rfl)
     ·have h := An c22 h
      refine AP ?_
      exact Au _ h (sm [] _ _ rfl rfl)
   ·refine Am hs (Ab (Ab (Aa Ac rfl (qm rfl (qm rfl (Fv rfl (Ae ?_)))))))
    refine Ap rfl (fun c23 => ?_) (fun c23 => ?_)
    ·have h := Ao c23 h
     refine AP ?_
     exact Au _ h (sm [] _ _ rfl rfl)
    ·have h := An c23 h
     refine Aq (Ab (Aa Ac rfl (qm rfl (qm rfl (qm rfl (qm rfl (qm rfl (qm rfl ?_))))))))
     obtain ⟨v24, a24, b24, h⟩ := Ai h
     refine qI AZ Ay a24 (Ah b24) rfl (qJ A4 Ay (Ah b24) rfl (qm rfl (qm rfl ?_)))
     obtain ⟨v25, a25, b25, h⟩ := Ai h
     refine qI AZ Ay a25 (Ah b25) rfl (qJ A4 Ay (Ah b25) rfl ?_)
     obtain ⟨v26, a26, b26, h⟩ := Ai h
     refine qI AZ Ay a26 (Ah b26) rfl ?_
     refine AV rfl rfl rfl rfl (Ah b26) rfl Ay rfl (A3 rfl) (AW Aj v5.1 _ v24) ?_
     obtain ⟨v27, a27, b27, h⟩ := Ai h
     refine qI AZ Ay a27 (Ah b27) rfl ?_
     refine AV rfl rfl rfl rfl (Ah b27) rfl Ay rfl (A3 rfl) (AW Aj (v5.1.set ((v8).toNat) v24) _ v25) ?_
     refine AA (by kernel_rfl) (Ab (Aa Ac rfl (qm rfl (AN rfl (qa rfl (Ae (Aa Ac rfl (qm rfl (Bj rfl (qa rfl (Ae ?_)))))))))))
     exact Au _ h (sm [] _ _ rfl rfl)
 ·refine Am hs (Ab (Aa Ac rfl (qm rfl (qa rfl (Ae ?_)))))
  obtain rfl := sj h
  refine Am (sm [] [(10, .e (.one (.pure (.val (.int .i64 v6.2)))))] [(90000, .vec 3 (v6.1.map Aj))] rfl rfl) (Az ?_)
  exact ⟨⟨[_], ⟨.tmp _ _ rfl, trivial⟩, rfl⟩, ⟨rfl, trivial⟩, trivial⟩
end Go.Lift

/- That the code does what the shallow programs do, function by function. Written by a program (gen.py). -/
namespace Go.Lift
open Go.RowKit
open Go.Proofs
set_option maxRecDepth 10000 in
theorem Ir (N : Nat) (p0 : List Ag) (p1 : Int) (p2 : Int) (p3 : Int) (p4 : (Ag × Ag) → Option Int) (r : Int × Bool × (List Ag)) (h : EJ N p0 p1 p2 p3 p4 = some r) : Bi Tryz.prog 152 [.e (.one (.own 90000)), .e (.one (.pure (.val (.int .i64 p1)))), .e (.one (.pure (.val (.int .i64 p2)))), .e (.one (.pure (.val (.int .i64 p3)))), .e (.one (.clo (Bc (CL true Aj true Aj) Bh p4)))] [(.vec 3 (p0.map Aj), .vec 3 (r.2.2.map Aj))] [] (.tup [.one (.pure (.val (.int .i64 r.1))), .one (.pure (.val (.bool r.2.1)))]) := by
 unfold EJ at h
 refine A9 (n := 178) (rs := [.tmp 10, .tmp 11]) Tryz.func152 rfl rfl rfl (A3 rfl) (A3 rfl) rfl rfl (A3 rfl) rfl (A3 rfl) fun w0 S0 GL => ?_
 refine Am (sm [] [(0, .e (.one (.own 90000))), (1, .e (.one (.pure (.val (.int .i64 p1))))), (2, .e (.one (.pure (.val (.int .i64 p2))))), (3, .e (.one (.pure (.val (.int .i64 p3))))), (4, .e (.one (.clo (Bc (CL true Aj true Aj) Bh p4))))] [(90000, .vec 3 (p0.map Aj))] rfl rfl) (Ab (Aa Ac rfl (qa rfl (qa rfl (Ae (Ab (Aa Ac rfl (qm rfl (qm rfl (qm rfl (qm rfl (qm rfl (qm rfl ?_)))))))))))))
 obtain ⟨v1, a1, b1, h⟩ := Ai h
 refine qI AZ Ay a1 (Ah b1) rfl (qJ A4 Ay (Ah b1) rfl (qm rfl (qm rfl ?_)))
 obtain ⟨v2, a2, b2, h⟩ := Ai h
 refine qI AZ Ay a2 (Ah b2) rfl (qJ A4 Ay (Ah b2) rfl ?_)
 obtain ⟨v3, a3, b3, h⟩ := Ai h
 refine qI AZ Ay a3 (Ah b3) rfl ?_
 refine AV rfl rfl rfl rfl (Ah b3) rfl Ay rfl (A3 rfl) (AW Aj p0 _ v1) ?_
 obtain ⟨v4, a4, b4, h⟩ := Ai h
 refine qI AZ Ay a4 (Ah b4) rfl ?_
 refine AV rfl rfl rfl rfl (Ah b4) rfl Ay rfl (A3 rfl) (AW Aj (p0.set ((p1).toNat) v1) _ v2) ?_
 refine AA (by kernel_rfl) (Ab (Aa Ac rfl (qm rfl (AN rfl (qm rfl (Bj rfl (qa rfl (qa rfl (Ae (Ab ?_))))))))))
 refine AC (L := Dh N p0 p1 p2 p3 p4 v1 v2) h (fun v5 => mk [(0, .e (.one (.own 90000))), (1, .e (.one (.pure (.val (.int .i64 p1))))), (4, .e (.one (.clo (Bc (CL true Aj true Aj) Bh p4)))), (12, .e (.one (.pure (.val (.int .i64 v5))))), (13, .e (.one (.pure (.val (.int .i64 ((IntKind.wrap .i64 (p2 - 1))))))))] [(90000, .vec 3 (((p0.set ((p1).toNat) v1).set ((p3).toNat) v2).map Aj))]) (fun v6 => mk [(0, .e (.one (.own 90000))), (1, .e (.one (.pure (.val (.int .i64 p1))))), (4, .e (.one (.clo (Bc (CL true Aj true Aj) Bh p4)))), (12, .e (.one (.pure (.val (.int .i64 v6))))), (13, .e (.one (.pure (.val (.int .i64 ((IntKind.wrap .i64 (p2 - 1))))))))] [(90000, .vec 3 (((p0.set ((p1).toNat) v1).set ((p3).toNat) v2).map Aj))]) (fun _ _ => rfl) (sm [] _ _ rfl rfl) (fun j5 n5 v5 h => ?_) (fun v6 s h hs => ?_)
 ·unfold Dh at h
  refine Ab ?_
  refine AM h (fun v7 => mk [(0, .e (.one (.own 90000))), (1, .e (.one (.pure (.val (.int .i64 p1))))), (4, .e (.one (.clo (Bc (CL true Aj true Aj) Bh p4)))), (12, .e (.one (.pure (.val (.int .i64 v5))))), (13, .e (.one (.pure (.val (.int .i64 ((IntKind.wrap .i64 (p2 - 1)))))))), (47, .e (.one (.pure (.val (.bool v7)))))] [(90000, .vec 3 (((p0.set ((p1).toNat) v1).set ((p3).toNat) v2).map Aj))]) (fun j7 h => ?_) (fun v7 h => ?_)
  ·refine Aa Ac rfl (qm rfl (qm rfl (IR rfl (qm rfl ?_))))
   refine AD (t := 35) rfl (fun c8 => ?_) (fun c8 => ?_)
   ·have h := Ao c8 h
    refine qm rfl (qm rfl (qm rfl ?_))
    obtain ⟨v9, a9, b9, h⟩ := Ai h
    refine qI AZ Ay a9 (Ah b9) rfl (qJ A4 Ay (Ah b9) rfl (qm rfl (qm rfl ?_)))
    obtain ⟨v10, a10, b10, h⟩ := Ai h
    refine qI AZ Ay a10 (Ah b10) rfl (qJ A4 Ay (Ah b10) rfl ?_)
    obtain ⟨v11, a11, h⟩ := bind_some h
    refine C9 (ds0 := [_, _]) (ar := (CL true Aj true Aj) ((v9, v10))) (.g rfl rfl) rfl rfl ⟨rfl, rfl, trivial⟩ rfl rfl rfl (C2 (DQ _ _ _ _ BI BI) a11) ?_
    refine AT rfl (qp rfl (AA (by kernel_rfl) ?_))
    exact Au _ h (sm [] _ _ rfl rfl)
   ·have h := An c8 h
    refine qn rfl (qn rfl (qn rfl (qn rfl (qn rfl (qn rfl (qn rfl (qn rfl (qn rfl (qn rfl (qn rfl (qp rfl (AA (by kernel_rfl) ?_))))))))))))
    exact Au _ h (sm [] _ _ rfl rfl)
  ·refine Ap rfl (fun c12 => ?_) (fun c12 => ?_)
   ·have h := Ao c12 h
    refine Aq (AH (Aa Ac rfl (qm rfl (AN rfl (qa rfl (Ae ?_))))))
    exact Au _ h (sm [] _ _ rfl rfl)
   ·have h := An c12 h
    refine AP ?_
    exact Au _ h (sm [] _ _ rfl rfl)
 ·refine Am hs (Ab ?_)
  refine AC (L := CZ N p0 p1 p3 p4 v1 v2 v6) h (fun v13 => mk [(0, .e (.one (.own 90000))), (1, .e (.one (.pure (.val (.int .i64 p1))))), (4, .e (.one (.clo (Bc (CL true Aj true Aj) Bh p4)))), (12, .e (.one (.pure (.val (.int .i64 v6))))), (13, .e (.one (.pure (.val (.int .i64 v13)))))] [(90000, .vec 3 (((p0.set ((p1).toNat) v1).set ((p3).toNat) v2).map Aj))]) (fun v14 => mk [(0, .e (.one (.own 90000))), (1, .e (.one (.pure (.val (.int .i64 p1))))), (4, .e (.one (.clo (Bc (CL true Aj true Aj) Bh p4)))), (12, .e (.one (.pure (.val (.int .i64 v6))))), (13, .e (.one (.pure (.val (.int .i64 v14)))))] [(90000, .vec 3 (((p0.set ((p1).toNat) v1).set ((p3).toNat) v2).map Aj))]) (fun _ _ => rfl) (sm [] _ _ rfl rfl) (fun j13 n13 v13 h => ?_) (fun v14 s h hs => ?_)
  ·unfold CZ at h
   refine Ab ?_
   refine AM h (fun v15 => mk [(0, .e (.one (.own 90000))), (1, .e (.one (.pure (.val (.int .i64 p1))))), (4, .e (.one (.clo (Bc (CL true Aj true Aj) Bh p4)))), (12, .e (.one (.pure (.val (.int .i64 v6))))), (13, .e (.one (.pure (.val (.int .i64 v13))))), (66, .e (.one (.pure (.val (.bool v15)))))] [(90000, .vec 3 (((p0.set ((p1).toNat) v1).set ((p3).toNat) v2).map Aj))]) (fun j15 h => ?_) (fun v15 h => ?_)
   ·refine Aa Ac rfl (qm rfl (qm rfl (IR rfl (qm rfl ?_))))
    refine AD (t := 53) rfl (fun c16 => ?_) (fun c16 => ?_)
    ·have h := Ao c16 h
     refine qm rfl (qm rfl (qm rfl ?_))
     obtain ⟨v17, a17, b17, h⟩ := Ai h
     refine qI AZ Ay a17 (Ah b17) rfl (qJ A4 Ay (Ah b17) rfl (qm rfl (qm rfl ?_)))
     obtain ⟨v18, a18, b18, h⟩ := Ai h
     refine qI AZ Ay a18 (Ah b18) rfl (qJ A4 Ay (Ah b18) rfl ?_)
     obtain ⟨v19, a19, h⟩ := bind_some h
     refine C9 (ds0 := [_, _]) (ar := (CL true Aj true Aj) ((v17, v18))) (.g rfl rfl) rfl rfl ⟨rfl, rfl, trivial⟩ rfl rfl rfl (C2 (DQ _ _ _ _ BI BI) a19) ?_
     refine AT rfl (Cb rfl (qp rfl (AA (by kernel_rfl) ?_)))
     exact Au _ h (sm [] _ _ rfl rfl)
    ·have h := An c16 h
     refine qn rfl (qn rfl (qn rfl (qn rfl (qn rfl (qn rfl (qn rfl (qn rfl (qn rfl (qn rfl (qn rfl (qn rfl (qp rfl (AA (by kernel_rfl) ?_)))))))))))))
     exact Au _ h (sm [] _ _ rfl rfl)
   ·refine Ap rfl (fun c20 => ?_) (fun c20 => ?_)
    ·have h := Ao c20 h
     refine Aq (AH (Aa Ac rfl (qm rfl (Bj rfl (qa rfl (Ae ?_))))))
     exact Au _ h (sm [] _ _ rfl rfl)
    ·have h := An c20 h
     refine AP ?_
     exact Au _ h (sm [] _ _ rfl rfl)
  ·refine Am hs (Ab (Ab (Aa Ac rfl (qm rfl (qm rfl (Fv rfl (Ae ?_)))))))
   refine Ap rfl (fun c21 => ?_) (fun c21 => ?_)
   ·have h := Ao c21 h
    refine Ab (Aa Ac rfl (qm rfl (qm rfl (qm rfl (qm rfl (qm rfl (qm rfl ?_)))))))
    obtain ⟨v22, a22, b22, h⟩ := Ai h
    refine qI AZ Ay a22 (Ah b22) rfl (qJ A4 Ay (Ah b22) rfl (qm rfl (qm rfl ?_)))
    obtain ⟨v23, a23, b23, h⟩ := Ai h
    refine qI AZ Ay a23 (Ah b23) rfl (qJ A4 Ay (Ah b23) rfl ?_)
    obtain ⟨v24, a24, b24, h⟩ := Ai h
    refine qI AZ Ay a24 (Ah b24) rfl ?_
    refine AV rfl rfl rfl rfl (Ah b24) rfl Ay rfl (A3 rfl) (AW Aj ((p0.set ((p1).toNat) v1).set ((p3).toNat) v2) _ v22) ?_
    obtain ⟨v25, a25, b25, h⟩ := Ai h
    refine qI AZ Ay a25 (Ah b25) rfl ?_
    refine AV rfl rfl rfl rfl (Ah b25) rfl Ay rfl (A3 rfl) (AW Aj (((p0.set ((p1).toNat) v1).set ((p3).toNat) v2).set ((v14).toNat) v22) _ v23) ?_
    refine AA (by kernel_rfl) (Ab (Aa Ac rfl (qm rfl (qa rfl (qa rfl (Ae ?_))))))
    obtain rfl := sj h
    refine Am (sm [] [(10, .e (.one (.pure (.val (.int .i64 v14))))), (11, .e (.one (.pure (.val (.bool true)))))] [(90000, .vec 3 (((((p0.set ((p1).toNat) v1).set ((p3).toNat) v2).set ((v14).toNat) v22).set ((p1).toNat) v23).map Aj))] rfl rfl) (Az ?_)
    exact ⟨⟨[_, _], ⟨.tmp _ _ rfl, ⟨.tmp _ _ rfl, trivial⟩⟩, rfl⟩, ⟨rfl, trivial⟩, trivial⟩
   ·have h := An c21 h
    refine Aq (Ab (Aa Ac rfl (qm rfl (qm rfl (qm rfl (qm rfl (qm rfl (qm rfl ?_))))))))
    obtain ⟨v26, a26, b26, h⟩ := Ai h
    refine qI AZ Ay a26 (Ah b26) rfl (qJ A4 Ay (Ah b26) rfl (qm rfl (qm rfl ?_)))
    obtain ⟨v27, a27, b27, h⟩ := Ai h
    refine qI AZ Ay a27 (Ah b27) rfl (qJ A4 Ay (Ah b27) rfl ?_)
    obtain ⟨v28, a28, b28, h⟩ := Ai h
    refine qI AZ Ay a28 (Ah b28) rfl ?_
    refine AV rfl rfl rfl rfl (Ah b28) rfl Ay rfl (A3 rfl) (AW Aj ((p0.set ((p1).toNat) v1).set ((p3).toNat) v2) _ v26) ?_
    obtain ⟨v29, a29, b29, h⟩ := Ai h
    refine qI AZ Ay a29 (Ah b29) rfl ?_
    refine AV rfl rfl rfl rfl (Ah b29) rfl Ay rfl (A3 rfl) (AW Aj (((p0.set ((p1).toNat) v1).set ((p3).toNat) v2).set ((v6).toNat) v26) _ v27) ?_
    refine AA (by kernel_rfl) (Ab (Aa Ac rfl (qm rfl (AN rfl (qa rfl (Ae (Ab (Aa Ac rfl (qm rfl (Bj rfl (qa rfl (Ae (Ab ?_)))))))))))))
    refine AC (L := C4 N p1 p4) h (fun v30 => mk [(0, .e (.one (.own 90000))), (1, .e (.one (.pure (.val (.int .i64 p1))))), (4, .e (.one (.clo (Bc (CL true Aj true Aj) Bh p4)))), (12, .e (.one (.pure (.val (.int .i64 v30.2.1))))), (13, .e (.one (.pure (.val (.int .i64 v30.2.2)))))] [(90000, .vec 3 (v30.1.map Aj))]) (fun v31 => mk [(0, .e (.one (.own 90000))), (1, .e (.one (.pure (.val (.int .i64 p1))))), (13, .e (.one (.pure (.val (.int .i64 v31.2)))))] [(90000, .vec 3 (v31.1.map Aj))]) (fun _ _ => rfl) (sm [] _ _ rfl rfl) (fun j30 n30 v30 h => ?_) (fun v31 s h hs => ?_)
    ·unfold C4 at h
     refine AH (Ab ?_)
     refine AC (L := C8 N p1 p4 v30) h (fun v32 => mk [(0, .e (.one (.own 90000))), (1, .e (.one (.pure (.val (.int .i64 p1))))), (4, .e (.one (.clo (Bc (CL true Aj true Aj) Bh p4)))), (12, .e (.one (.pure (.val (.int .i64 v32))))), (13, .e (.one (.pure (.val (.int .i64 v30.2.2)))))] [(90000, .vec 3 (v30.1.map Aj))]) (fun v33 => mk [(0, .e (.one (.own 90000))), (1, .e (.one (.pure (.val (.int .i64 p1))))), (4, .e (.one (.clo (Bc (CL true Aj true Aj) Bh p4)))), (12, .e (.one (.pure (.val (.int .i64 v33))))), (13, .e (.one (.pure (.val (.int .i64 v30.2.2)))))] [(90000, .vec 3 (v30.1.map Aj))]) (fun _ _ => rfl) (sm [] _ _ rfl rfl) (fun j32 n32 v32 h => ?_) (fun v33 s h hs => ?_)
     ·unfold C8 at h
      refine Ab ?_
      refine AM h (fun v34 => mk [(0, .e (.one (.own 90000))), (1, .e (.one (.pure (.val (.int .i64 p1))))), (4, .e (.one (.clo (Bc (CL true Aj true Aj) Bh p4)))), (12, .e (.one (.pure (.val (.int .i64 v32))))), (13, .e (.one (.pure (.val (.int .i64 v30.2.2))))), (120, .e (.one (.pure (.val (.bool v34)))))] [(90000, .vec 3 (v30.1.map Aj))]) (fun j34 h => ?_) (fun v34 h => ?_)
      ·refine Aa Ac rfl (qm rfl (qm rfl (IR rfl (qm rfl ?_))))
       refine AD (t := 108) rfl (fun c35 => ?_) (fun c35 => ?_)
       ·have h := Ao c35 h
        refine qm rfl (qm rfl (qm rfl ?_))
        obtain ⟨v36, a36, b36, h⟩ := Ai h
        refine qI AZ Ay a36 (Ah b36) rfl (qJ A4 Ay (Ah b36) rfl (qm rfl (qm rfl ?_)))
        obtain ⟨v37, a37, b37, h⟩ := Ai h
        refine qI AZ Ay a37 (Ah b37) rfl (qJ A4 Ay (Ah b37) rfl ?_)
        obtain ⟨v38, a38, h⟩ := bind_some h
        refine C9 (ds0 := [_, _]) (ar := (CL true Aj true Aj) ((v36, v37))) (.g rfl rfl) rfl rfl ⟨rfl, rfl, trivial⟩ rfl rfl rfl (C2 (DQ _ _ _ _ BI BI) a38) ?_
        refine AT rfl (qp rfl (AA (by kernel_rfl) ?_))
        exact Au _ h (sm [] _ _ rfl rfl)
       ·have h := An c35 h
        refine qn rfl (qn rfl (qn rfl (qn rfl (qn rfl (qn rfl (qn rfl (qn rfl (qn rfl (qn rfl (qn rfl (qp rfl (AA (by kernel_rfl) ?_))))))))))))
        exact Au _ h (sm [] _ _ rfl rfl)
      ·refine Ap rfl (fun c39 => ?_) (fun c39 => ?_)
       ·have h := Ao c39 h
        refine Aq (AH (Aa Ac rfl (qm rfl (AN rfl (qa rfl (Ae ?_))))))
        exact Au _ h (sm [] _ _ rfl rfl)
       ·have h := An c39 h
        refine AP ?_
        exact Au _ h (sm [] _ _ rfl rfl)
     ·refine Am hs (Ab ?_)
      refine AC (L := Da N p1 p4 v30 v33) h (fun v40 => mk [(0, .e (.one (.own 90000))), (1, .e (.one (.pure (.val (.int .i64 p1))))), (4, .e (.one (.clo (Bc (CL true Aj true Aj) Bh p4)))), (12, .e (.one (.pure (.val (.int .i64 v33))))), (13, .e (.one (.pure (.val (.int .i64 v40)))))] [(90000, .vec 3 (v30.1.map Aj))]) (fun v41 => mk [(0, .e (.one (.own 90000))), (1, .e (.one (.pure (.val (.int .i64 p1))))), (4, .e (.one (.clo (Bc (CL true Aj true Aj) Bh p4)))), (12, .e (.one (.pure (.val (.int .i64 v33))))), (13, .e (.one (.pure (.val (.int .i64 v41)))))] [(90000, .vec 3 (v30.1.map Aj))]) (fun _ _ => rfl) (sm [] _ _ rfl rfl) (fun j40 n40 v40 h => ?_) (fun v41 s h hs => ?_)
      ·unfold Da at h
       refine Ab ?_
       refine AM h (fun v42 => mk [(0, .e (.one (.own 90000))), (1, .e (.one (.pure (.val (.int .i64 p1))))), (4, .e (.one (.clo (Bc (CL true Aj true Aj) Bh p4)))), (12, .e (.one (.pure (.val (.int .i64 v33))))), (13, .e (.one (.pure (.val (.int .i64 v40))))), (139, .e (.one (.pure (.val (.bool v42)))))] [(90000, .vec 3 (v30.1.map Aj))]) (fun j42 h => ?_) (fun v42 h => ?_)
       ·refine Aa Ac rfl (qm rfl (qm rfl (IR rfl (qm rfl ?_))))
        refine AD (t := 126) rfl (fun c43 => ?_) (fun c43 => ?_)
        ·have h := Ao c43 h
         refine qm rfl (qm rfl (qm rfl ?_))
         obtain ⟨v44, a44, b44, h⟩ := Ai h
         refine qI AZ Ay a44 (Ah b44) rfl (qJ A4 Ay (Ah b44) rfl (qm rfl (qm rfl ?_)))
         obtain ⟨v45, a45, b45, h⟩ := Ai h
         refine qI AZ Ay a45 (Ah b45) rfl (qJ A4 Ay (Ah b45) rfl ?_)
         obtain ⟨v46, a46, h⟩ := bind_some h
         refine C9 (ds0 := [_, _]) (ar := (CL true Aj true Aj) ((v44, v45))) (.g rfl rfl) rfl rfl ⟨rfl, rfl, trivial⟩ rfl rfl rfl (C2 (DQ _ _ _ _ BI BI) a46) ?_
         refine AT rfl (Cb rfl (qp rfl (AA (by kernel_rfl) ?_)))
         exact Au _ h (sm [] _ _ rfl rfl)
        ·have h := An c43 h
         refine qn rfl (qn rfl (qn rfl (qn rfl (qn rfl (qn rfl (qn rfl (qn rfl (qn rfl (qn rfl (qn rfl (qn rfl (qp rfl (AA (by kernel_rfl) ?_)))))))))))))
         exact Au _ h (sm [] _ _ rfl rfl)
       ·refine Ap rfl (fun c47 => ?_) (fun c47 => ?_)
        ·have h := Ao c47 h
         refine Aq (AH (Aa Ac rfl (qm rfl (Bj rfl (qa rfl (Ae ?_))))))
         exact Au _ h (sm [] _ _ rfl rfl)
        ·have h := An c47 h
         refine AP ?_
         exact Au _ h (sm [] _ _ rfl rfl)
      ·refine Am hs (Ab (Ab (Aa Ac rfl (qm rfl (qm rfl (Fv rfl (Ae ?_)))))))
       refine Ap rfl (fun c48 => ?_) (fun c48 => ?_)
       ·have h := Ao c48 h
        refine AP ?_
        exact Au _ h (sm [] _ _ rfl rfl)
       ·have h := An c48 h
        refine Aq (Ab (Aa Ac rfl (qm rfl (qm rfl (qm rfl (qm rfl (qm rfl (qm rfl ?_))))))))
        obtain ⟨v49, a49, b49, h⟩ := Ai h
        refine qI AZ Ay a49 (Ah b49) rfl (qJ A4 Ay (Ah b49) rfl (qm rfl (qm rfl ?_)))
        obtain ⟨v50, a50, b50, h⟩ := Ai h
        refine qI AZ Ay a50 (Ah b50) rfl (qJ A4 Ay (Ah b50) rfl ?_)
        obtain ⟨v51, a51, b51, h⟩ := Ai h
        refine qI AZ Ay a51 (Ah b51) rfl ?_
        refine AV rfl rfl rfl rfl (Ah b51) rfl Ay rfl (A3 rfl) (AW Aj v30.1 _ v49) ?_
        obtain ⟨v52, a52, b52, h⟩ := Ai h
        refine qI AZ Ay a52 (Ah b52) rfl ?_
        refine AV rfl rfl rfl rfl (Ah b52) rfl Ay rfl (A3 rfl) (AW Aj (v30.1.set ((v33).toNat) v49) _ v50) ?_
        refine AA (by kernel_rfl) (Ab (Aa Ac rfl (qm rfl (AN rfl (qa rfl (Ae (Aa Ac rfl (qm rfl (Bj rfl (qa rfl (Ae ?_)))))))))))
        exact Au _ h (sm [] _ _ rfl rfl)
    ·refine Am hs (Ab (Aa Ac rfl (qm rfl (qm rfl (qm rfl (qm rfl (qm rfl (qm rfl ?_))))))))
     obtain ⟨v53, a53, b53, h⟩ := Ai h
     refine qI AZ Ay a53 (Ah b53) rfl (qJ A4 Ay (Ah b53) rfl (qm rfl (qm rfl ?_)))
     obtain ⟨v54, a54, b54, h⟩ := Ai h
     refine qI AZ Ay a54 (Ah b54) rfl (qJ A4 Ay (Ah b54) rfl ?_)
     obtain ⟨v55, a55, b55, h⟩ := Ai h
     refine qI AZ Ay a55 (Ah b55) rfl ?_
     refine AV rfl rfl rfl rfl (Ah b55) rfl Ay rfl (A3 rfl) (AW Aj v31.1 _ v53) ?_
     obtain ⟨v56, a56, b56, h⟩ := Ai h
     refine qI AZ Ay a56 (Ah b56) rfl ?_
     refine AV rfl rfl rfl rfl (Ah b56) rfl Ay rfl (A3 rfl) (AW Aj (v31.1.set ((v31.2).toNat) v53) _ v54) ?_
     refine AA (by kernel_rfl) (Ab (Aa Ac rfl (qm rfl (qa rfl (qa rfl (Ae ?_))))))
     obtain rfl := sj h
     refine Am (sm [] [(10, .e (.one (.pure (.val (.int .i64 v31.2))))), (11, .e (.one (.pure (.val (.bool false)))))] [(90000, .vec 3 (((v31.1.set ((v31.2).toNat) v53).set ((p1).toNat) v54).map Aj))] rfl rfl) (Az ?_)
     exact ⟨⟨[_, _], ⟨.tmp _ _ rfl, ⟨.tmp _ _ rfl, trivial⟩⟩, rfl⟩, ⟨rfl, trivial⟩, trivial⟩
set_option maxRecDepth 10000 in
theorem Is (N : Nat) (rc : (List Ag) → Int → Int → Int → ((Ag × Ag) → Option Int) → Option ((List Ag))) (hrc : ∀ (p0 : List Ag) (p1 : Int) (p2 : Int) (p3 : Int) (p4 : (Ag × Ag) → Option Int) (r : (List Ag)), rc p0 p1 p2 p3 p4 = some r → Bi Tryz.prog 118 [.e (.one (.own 90000)), .e (.one (.pure (.val (.int .i64 p1)))), .e (.one (.pure (.val (.int .i64 p2)))), .e (.one (.pure (.val (.int .i64 p3)))), .e (.one (.clo (Bc (CL true Aj true Aj) Bh p4)))] [(.vec 3 (p0.map Aj), .vec 3 (r.map Aj))] [] (.tup [])) (p0 : List Ag) (p1 : Int) (p2 : Int) (p3 : Int) (p4 : (Ag × Ag) → Option Int) (r : (List Ag)) (h : EK N rc p0 p1 p2 p3 p4 = some r) : Bi Tryz.prog 118 [.e (.one (.own 90000)), .e (.one (.pure (.val (.int .i64 p1)))), .e (.one (.pure (.val (.int .i64 p2)))), .e (.one (.pure (.val (.int .i64 p3)))), .e (.one (.clo (Bc (CL true Aj true Aj) Bh p4)))] [(.vec 3 (p0.map Aj), .vec 3 (r.map Aj))] [] (.tup []) := by
 unfold EK at h
 refine A9 (n := 148) (rs := []) Tryz.func118 rfl rfl rfl (A3 rfl) (A3 rfl) rfl rfl (A3 rfl) rfl (A3 rfl) fun w0 S0 GL => Kc ?_
 refine Am (sm [] [(0, .e (.one (.own 90000))), (1, .e (.one (.pure (.val (.int .i64 p1))))), (2, .e (.one (.pure (.val (.int .i64 p2))))), (3, .e (.one (.pure (.val (.int .i64 p3))))), (4, .e (.one (.clo (Bc (CL true Aj true Aj) Bh p4))))] [(90000, .vec 3 (p0.map Aj))] rfl rfl) (Ab (Aa Ac rfl (qa rfl (Ae (Ab (Aa Ac rfl (qa rfl (Ae ?_))))))))
 refine AC (L := BQ N p4 rc) h (fun v1 => mk [(0, .e (.one (.own 90000))), (1, .e (.one (.pure (.val (.int .i64 v1.2.1))))), (2, .e (.one (.pure (.val (.int .i64 v1.2.2.1))))), (3, .e (.one (.pure (.val (.int .i64 v1.2.2.2.1))))), (4, .e (.one (.clo (Bc (CL true Aj true Aj) Bh p4)))), (10, .e (.one (.pure (.val (.bool v1.2.2.2.2.1))))), (11, .e (.one (.pure (.val (.bool v1.2.2.2.2.2)))))] [(90000, .vec 3 (v1.1.map Aj))]) (fun v2 => mk [] []) (fun _ _ => rfl) (sm [] _ _ rfl rfl) (fun j1 n1 v1 h => ?_) (fun v2 s h hs => ?_)
 ·unfold BQ at h
  refine AH (Ab (Aa Ac rfl (qm rfl (qm rfl (Bj rfl (qa rfl (Ae (Ab (Ab (Aa Ac rfl (qm rfl (IR rfl (Ae ?_)))))))))))))
  refine Ap rfl (fun c3 => ?_) (fun c3 => ?_)
  ·have h := Ao c3 h
   refine Ab (Aa Ac rfl (qm rfl (qm rfl (qm rfl (qm rfl ?_)))))
   obtain ⟨v4, a4, h⟩ := bind_some h
   refine BD (ds0 := [_, _, _, _]) [90000] [] [true] (HA N v1.1 v1.2.1 v1.2.2.1 p4 v4 a4) (.p rfl) YK rfl ⟨rfl, rfl, rfl, rfl, trivial⟩ rfl rfl (by decide) ⟨rfl, trivial⟩ rfl (AX rfl) trivial ⟨(fun h => by cases h), trivial⟩ rfl rfl rfl ?_
   refine Ae ?_
   obtain rfl := sj h
   refine Az ⟨_, (sm [] [] [(90000, .vec 3 (v4.map Aj))] rfl rfl), ?_⟩
   exact ⟨⟨[], trivial, rfl⟩, ⟨rfl, trivial⟩, trivial⟩
  ·have h := An c3 h
   refine Aq (Ab (Ab (Aa Ac rfl (qm rfl (BX rfl (Ae ?_))))))
   refine Ap rfl (fun c5 => ?_) (fun c5 => ?_)
   ·have h := Ao c5 h
    refine Ab (Aa Ac rfl (qm rfl (qm rfl (qm rfl (qm rfl ?_)))))
    obtain ⟨v6, a6, h⟩ := bind_some h
    refine BD (ds0 := [_, _, _, _]) [90000] [] [true] (IE N v1.1 v1.2.1 v1.2.2.1 p4 v6 a6) (.p rfl) XS rfl ⟨rfl, rfl, rfl, rfl, trivial⟩ rfl rfl (by decide) ⟨rfl, trivial⟩ rfl (AX rfl) trivial ⟨(fun h => by cases h), trivial⟩ rfl rfl rfl ?_
    refine Ae ?_
    obtain rfl := sj h
    refine Az ⟨_, (sm [] [] [(90000, .vec 3 (v6.map Aj))] rfl rfl), ?_⟩
    exact ⟨⟨[], trivial, rfl⟩, ⟨rfl, trivial⟩, trivial⟩
   ·have h := An c5 h
    refine Aq ?_
    refine AM h (fun v7 => mk [(0, .e (.one (.own 90000))), (1, .e (.one (.pure (.val (.int .i64 v1.2.1))))), (2, .e (.one (.pure (.val (.int .i64 v1.2.2.1))))), (3, .e (.one (.pure (.val (.int .i64 v7.2))))), (4, .e (.one (.clo (Bc (CL true Aj true Aj) Bh p4)))), (10, .e (.one (.pure (.val (.bool v1.2.2.2.2.1))))), (11, .e (.one (.pure (.val (.bool v1.2.2.2.2.2))))), (12, .e (.one (.pure (.val (.int .i64 ((IntKind.wrap .i64 (v1.2.2.1 - v1.2.1))))))))] [(90000, .vec 3 (v7.1.map Aj))]) (fun j7 h => ?_) (fun v7 h => ?_)
    ·refine Ab (Aa Ac rfl (qm rfl (Cb rfl (Ae ?_))))
     refine Ap rfl (fun c8 => ?_) (fun c8 => ?_)
     ·have h := Ao c8 h
      refine Ab (Aa Ac rfl (qm rfl (qm rfl (qm rfl (qm rfl ?_)))))
      obtain ⟨v9, a9, h⟩ := bind_some h
      refine BD (ds0 := [_, _, _, _]) [90000] [] [true] (HD N v1.1 v1.2.1 v1.2.2.1 p4 v9 a9) (.p rfl) YE rfl ⟨rfl, rfl, rfl, rfl, trivial⟩ rfl rfl (by decide) ⟨rfl, trivial⟩ rfl (AX rfl) trivial ⟨(fun h => by cases h), trivial⟩ rfl rfl rfl ?_
      refine Ae (Aa Ac rfl (qm rfl (Bj rfl (qa rfl (Ae ?_)))))
      exact Au _ h (sm [] _ _ rfl rfl)
     ·have h := An c8 h
      refine Aq ?_
      exact Au _ h (sm [] _ _ rfl rfl)
    ·refine Ab (Aa Ac rfl (qm rfl (qm rfl (qm rfl (qm rfl ?_)))))
     obtain ⟨v10, a10, h⟩ := bind_some h
     refine Et [] [90000] (H3 N v7.1 v1.2.1 v1.2.2.1 p4 v10 a10) YC CQ rfl (qm rfl (qx rfl (qx rfl (qa rfl (qa rfl (Ae ?_))))))
     refine AM h (fun v11 => mk [(0, .e (.one (.own 90000))), (1, .e (.one (.pure (.val (.int .i64 v1.2.1))))), (2, .e (.one (.pure (.val (.int .i64 v1.2.2.1))))), (3, .e (.one (.pure (.val (.int .i64 v7.2))))), (4, .e (.one (.clo (Bc (CL true Aj true Aj) Bh p4)))), (10, .e (.one (.pure (.val (.bool v1.2.2.2.2.1))))), (11, .e (.one (.pure (.val (.bool v1.2.2.2.2.2))))), (12, .e (.one (.pure (.val (.int .i64 ((IntKind.wrap .i64 (v1.2.2.1 - v1.2.1)))))))), (13, .e (.one (.pure (.val (.int .i64 v11.2.1))))), (14, .e (.one (.pure (.val (.int .i64 v11.2.2)))))] [(90000, .vec 3 (v11.1.map Aj))]) (fun j11 h => ?_) (fun v11 h => ?_)
     ·refine Ab (Aa Ac rfl (qm rfl (BX rfl (Ae ?_))))
      refine Ap rfl (fun c12 => ?_) (fun c12 => ?_)
      ·have h := Ao c12 h
       refine Ab (Aa Ac rfl (qm rfl (qm rfl (qm rfl (qm rfl ?_)))))
       obtain ⟨v13, a13, h⟩ := bind_some h
       refine BD (ds0 := [_, _, _, _]) [90000] [] [true] (HM N v7.1 v1.2.1 v1.2.2.1 p4 v13 a13) (.p rfl) Xq rfl ⟨rfl, rfl, rfl, rfl, trivial⟩ rfl rfl (by decide) ⟨rfl, trivial⟩ rfl (AX rfl) trivial ⟨(fun h => by cases h), trivial⟩ rfl rfl rfl ?_
       refine Ae (Ab (Aa Ac rfl (qm rfl (Bj rfl (qm rfl (qm rfl (Bj rfl (Bj rfl (qa rfl (Ae (Aa Ac rfl (qa rfl (Ae ?_)))))))))))))
       exact Au _ h (sm [] _ _ rfl rfl)
      ·have h := An c12 h
       refine Aq ?_
       exact Au _ h (sm [] _ _ rfl rfl)
     ·refine AM h (fun v14 => mk [(0, .e (.one (.own 90000))), (1, .e (.one (.pure (.val (.int .i64 v1.2.1))))), (2, .e (.one (.pure (.val (.int .i64 v1.2.2.1))))), (3, .e (.one (.pure (.val (.int .i64 v7.2))))), (4, .e (.one (.clo (Bc (CL true Aj true Aj) Bh p4)))), (10, .e (.one (.pure (.val (.bool v1.2.2.2.2.1))))), (11, .e (.one (.pure (.val (.bool v1.2.2.2.2.2))))), (12, .e (.one (.pure (.val (.int .i64 ((IntKind.wrap .i64 (v1.2.2.1 - v1.2.1)))))))), (13, .e (.one (.pure (.val (.int .i64 v11.2.1)))))] [(90000, .vec 3 (v14.map Aj))]) (fun j14 h => ?_) (fun v14 h => ?_)
      ·refine AM h (fun v15 => mk [(0, .e (.one (.own 90000))), (1, .e (.one (.pure (.val (.int .i64 v1.2.1))))), (2, .e (.one (.pure (.val (.int .i64 v1.2.2.1))))), (3, .e (.one (.pure (.val (.int .i64 v7.2))))), (4, .e (.one (.clo (Bc (CL true Aj true Aj) Bh p4)))), (10, .e (.one (.pure (.val (.bool v1.2.2.2.2.1))))), (11, .e (.one (.pure (.val (.bool v1.2.2.2.2.2))))), (12, .e (.one (.pure (.val (.int .i64 ((IntKind.wrap .i64 (v1.2.2.1 - v1.2.1)))))))), (13, .e (.one (.pure (.val (.int .i64 v11.2.1))))), (75, .e (.one (.pure (.val (.bool v15)))))] [(90000, .vec 3 (v11.1.map Aj))]) (fun j15 h => ?_) (fun v15 h => ?_)
       ·refine Aa Ac rfl (qm rfl (qm rfl ?_))
        refine AD (t := 69) rfl (fun c16 => ?_) (fun c16 => ?_)
        ·have h := Ao c16 h
         refine qm rfl (qp rfl (qm rfl ?_))
         refine AD (t := 72) rfl (fun c17 => ?_) (fun c17 => ?_)
         ·have h := Ao c17 h
          refine qm rfl (BX rfl (qp rfl (Ae ?_)))
          exact Au _ h (sm [] _ _ rfl rfl)
         ·have h := An c17 h
          refine qn rfl (qn rfl (qp rfl (Ae ?_)))
          exact Au _ h (sm [] _ _ rfl rfl)
        ·have h := An c16 h
         refine qn rfl (qp rfl (qm rfl (qn rfl (qn rfl (qp rfl (Ae ?_))))))
         exact Au _ h (sm [] _ _ rfl rfl)
       ·refine Ap rfl (fun c18 => ?_) (fun c18 => ?_)
        ·have h := Ao c18 h
         refine Ab (Aa Ac rfl (qm rfl (qm rfl (qm rfl (qm rfl ?_)))))
         obtain ⟨v19, a19, h⟩ := bind_some h
         refine BD (ds0 := [_, _, _, _]) [90000] [] [true] (GE N v11.1 v1.2.1 v1.2.2.1 p4 v19 a19) (.p rfl) Xp rfl ⟨rfl, rfl, rfl, rfl, trivial⟩ rfl rfl (by decide) ⟨rfl, trivial⟩ rfl (AX rfl) trivial ⟨(fun h => by cases h), trivial⟩ rfl rfl rfl ?_
         refine Ae ?_
         refine Ap rfl (fun c20 => ?_) (fun c20 => ?_)
         ·have h := Ao c20 h
          obtain rfl := sj h
          refine Az ⟨_, (sm [] [] [(90000, .vec 3 (v19.2.map Aj))] rfl rfl), ?_⟩
          exact ⟨⟨[], trivial, rfl⟩, ⟨rfl, trivial⟩, trivial⟩
         ·have h := An c20 h
          refine Aq ?_
          exact Au _ h (sm [] _ _ rfl rfl)
        ·have h := An c18 h
         refine Aq ?_
         exact Au _ h (sm [] _ _ rfl rfl)
      ·refine Ab ?_
       refine AM h (fun v21 => mk [(0, .e (.one (.own 90000))), (1, .e (.one (.pure (.val (.int .i64 v1.2.1))))), (2, .e (.one (.pure (.val (.int .i64 v1.2.2.1))))), (3, .e (.one (.pure (.val (.int .i64 v7.2))))), (4, .e (.one (.clo (Bc (CL true Aj true Aj) Bh p4)))), (10, .e (.one (.pure (.val (.bool v1.2.2.2.2.1))))), (11, .e (.one (.pure (.val (.bool v1.2.2.2.2.2))))), (12, .e (.one (.pure (.val (.int .i64 ((IntKind.wrap .i64 (v1.2.2.1 - v1.2.1)))))))), (13, .e (.one (.pure (.val (.int .i64 v11.2.1))))), (97, .e (.one (.pure (.val (.bool v21)))))] [(90000, .vec 3 (v14.map Aj))]) (fun j21 h => ?_) (fun v21 h => ?_)
       ·refine Aa Ac rfl (qm rfl (Fv rfl (qm rfl ?_)))
        refine AD (t := 83) rfl (fun c22 => ?_) (fun c22 => ?_)
        ·have h := Ao c22 h
         refine qm rfl (qm rfl (qm rfl (Bj rfl ?_)))
         obtain ⟨v23, a23, b23, h⟩ := Ai h
         refine qI AZ Ay a23 (Ah b23) rfl (qJ A4 Ay (Ah b23) rfl (qm rfl (qm rfl ?_)))
         obtain ⟨v24, a24, b24, h⟩ := Ai h
         refine qI AZ Ay a24 (Ah b24) rfl (qJ A4 Ay (Ah b24) rfl ?_)
         obtain ⟨v25, a25, h⟩ := bind_some h
         refine C9 (ds0 := [_, _]) (ar := (CL true Aj true Aj) ((v23, v24))) (.g rfl rfl) rfl rfl ⟨rfl, rfl, trivial⟩ rfl rfl rfl (C2 (DQ _ _ _ _ BI BI) a25) ?_
         refine AT rfl (Cb rfl (qp rfl (AA (by kernel_rfl) ?_)))
         exact Au _ h (sm [] _ _ rfl rfl)
        ·have h := An c22 h
         refine qn rfl (qn rfl (qn rfl (qn rfl (qn rfl (qn rfl (qn rfl (qn rfl (qn rfl (qn rfl (qn rfl (qn rfl (qn rfl (qp rfl (AA (by kernel_rfl) ?_))))))))))))))
         exact Au _ h (sm [] _ _ rfl rfl)
       ·refine Ap rfl (fun c26 => ?_) (fun c26 => ?_)
        ·have h := Ao c26 h
         refine Ab (Aa Ac rfl (qm rfl (qm rfl (qm rfl (qm rfl (qm rfl ?_))))))
         obtain ⟨v27, a27, h⟩ := bind_some h
         refine BD (ds0 := [_, _, _, _, _]) [90000] [] [true] (Hp N v14 v1.2.1 v1.2.2.1 v11.2.1 p4 v27 a27) (.p rfl) XD rfl ⟨rfl, rfl, rfl, rfl, rfl, trivial⟩ rfl rfl (by decide) ⟨rfl, trivial⟩ rfl (AX rfl) trivial ⟨(fun h => by cases h), trivial⟩ rfl rfl rfl ?_
         refine qa rfl (Ae (Ab (Aa Ac rfl (qm rfl (qa rfl (Ae (AP ?_)))))))
         exact Au _ h (sm [] _ _ rfl rfl)
        ·have h := An c26 h
         refine Aq (Ab (Aa Ac rfl (qm rfl (qm rfl (qm rfl (qm rfl (qm rfl ?_)))))))
         obtain ⟨v28, a28, h⟩ := bind_some h
         refine BD (ds0 := [_, _, _, _, _]) [90000] [] [true] (Ir N v14 v1.2.1 v1.2.2.1 v11.2.1 p4 v28 a28) (.p rfl) XY rfl ⟨rfl, rfl, rfl, rfl, rfl, trivial⟩ rfl rfl (by decide) ⟨rfl, trivial⟩ rfl (AX rfl) trivial ⟨(fun h => by cases h), trivial⟩ rfl rfl rfl ?_
         refine qm rfl (qx rfl (qx rfl (qa rfl (qa rfl (Ae (Ab (Aa Ac rfl (qm rfl (qa rfl (Ae (Ab (Aa Ac rfl (qm rfl (qm rfl (Bj rfl (qm rfl (qm rfl (Bj rfl (qa rfl (qa rfl (Ae (Ab (Aa Ac rfl (qm rfl (Kn rfl (by decide) (qa rfl (Ae (Ab (Aa Ac rfl (qm rfl (qm rfl (AT rfl (Ae ?_)))))))))))))))))))))))))))))))))
         refine Ap rfl (fun c29 => ?_) (fun c29 => ?_)
         ·have h := Ao c29 h
          refine Ab (Aa Ac rfl (qm rfl (qm rfl (Db rfl (qa rfl (Ae (Ab (Aa Ac rfl (qm rfl (qm rfl (qm rfl (qm rfl (qm rfl ?_)))))))))))))
          obtain ⟨v30, a30, h⟩ := bind_some h
          refine BD (ds0 := [_, _, _, _, _]) [90000] [] [true] (hrc v28.2.2 v1.2.1 v28.1 v7.2 p4 v30 a30) (.p rfl) UD rfl ⟨rfl, rfl, rfl, rfl, rfl, trivial⟩ rfl rfl (by decide) ⟨rfl, trivial⟩ rfl (AX rfl) trivial ⟨(fun h => by cases h), trivial⟩ rfl rfl rfl ?_
          refine Ae (Aa Ac rfl (qm rfl (AN rfl (qa rfl (Ae ?_)))))
          exact Au _ h (sm [] _ _ rfl rfl)
         ·have h := An c29 h
          refine Ab (Aa Ac rfl (qm rfl (qm rfl (Db rfl (qa rfl (Ae (Ab (Aa Ac rfl (qm rfl (qm rfl (AN rfl (qm rfl (qm rfl (qm rfl ?_))))))))))))))
          obtain ⟨v31, a31, h⟩ := bind_some h
          refine BD (ds0 := [_, _, _, _, _]) [90000] [] [true] (hrc v28.2.2 ((IntKind.wrap .i64 (v28.1 + 1))) v1.2.2.1 v7.2 p4 v31 a31) (.p rfl) UD rfl ⟨rfl, rfl, rfl, rfl, rfl, trivial⟩ rfl rfl (by decide) ⟨rfl, trivial⟩ rfl (AX rfl) trivial ⟨(fun h => by cases h), trivial⟩ rfl rfl rfl ?_
          refine Ae (Aa Ac rfl (qm rfl (qa rfl (Ae ?_))))
          exact Au _ h (sm [] _ _ rfl rfl)
 ·cases h
theorem F8 (N : Nat) : ∀ (k : Nat) (p0 : List Ag) (p1 : Int) (p2 : Int) (p3 : Int) (p4 : (Ag × Ag) → Option Int) (r : (List Ag)), DK N k p0 p1 p2 p3 p4 = some r → Bi Tryz.prog 118 [.e (.one (.own 90000)), .e (.one (.pure (.val (.int .i64 p1)))), .e (.one (.pure (.val (.int .i64 p2)))), .e (.one (.pure (.val (.int .i64 p3)))), .e (.one (.clo (Bc (CL true Aj true Aj) Bh p4)))] [(.vec 3 (p0.map Aj), .vec 3 (r.map Aj))] [] (.tup [])
 | 0, _, _, _, _, _, _, h => by cases h
 | k + 1, p0, p1, p2, p3, p4, r, h => Is N (DK N k) (F8 N k) p0 p1 p2 p3 p4 r h
theorem IK (N : Nat) (p0 : List Ag) (p1 : Int) (p2 : Int) (p3 : Int) (p4 : (Ag × Ag) → Option Int) (r : (List Ag)) (h : Gk N p0 p1 p2 p3 p4 = some r) : Bi Tryz.prog 118 [.e (.one (.own 90000)), .e (.one (.pure (.val (.int .i64 p1)))), .e (.one (.pure (.val (.int .i64 p2)))), .e (.one (.pure (.val (.int .i64 p3)))), .e (.one (.clo (Bc (CL true Aj true Aj) Bh p4)))] [(.vec 3 (p0.map Aj), .vec 3 (r.map Aj))] [] (.tup []) := F8 N N p0 p1 p2 p3 p4 r h
set_option maxRecDepth 10000 in
theorem Iu (N : Nat) (p0 : List Ag) (p1 : (Ag × Ag) → Option Int) (r : (List Ag)) (h : EG N p0 p1 = some r) : Bi Tryz.prog 86 [.e (.one (.own 90000)), .e (.one (.clo (Bc (CL true Aj true Aj) Bh p1)))] [(.vec 3 (p0.map Aj), .vec 3 (r.map Aj))] [] (.tup []) := by
 unfold EG at h
 refine A9 (n := 14) (rs := []) Tryz.func86 rfl rfl rfl (A3 rfl) (A3 rfl) rfl rfl (A3 rfl) rfl (A3 rfl) fun w0 S0 GL => Kc ?_
 refine Am (sm [] [(0, .e (.one (.own 90000))), (1, .e (.one (.clo (Bc (CL true Aj true Aj) Bh p1))))] [(90000, .vec 3 (p0.map Aj))] rfl rfl) (Ab (Aa Ac rfl (qm rfl (FL AZ rfl (qa rfl (Ae (Aa Ac rfl (qm rfl (qm rfl (qm rfl (Hj TV NE rfl ?_)))))))))))
 obtain ⟨v1, a1, h⟩ := bind_some h
 refine AG [] (Jn N ((IntKind.wrap .u64 ((p0.length : Int)))) v1 a1) TS rfl (qm rfl ?_)
 obtain ⟨v2, a2, h⟩ := bind_some h
 refine BD (ds0 := [_, _, _, _, _]) [90000] [] [true] (IK N p0 0 ((p0.length : Int)) v1 p1 v2 a2) (.p rfl) UD rfl ⟨rfl, rfl, rfl, rfl, rfl, trivial⟩ rfl rfl (by decide) ⟨rfl, trivial⟩ rfl (AX rfl) trivial ⟨(fun h => by cases h), trivial⟩ rfl rfl rfl ?_
 refine Ae ?_
 obtain rfl := sj h
 refine ⟨_, (sm [] [] [(90000, .vec 3 (v2.map Aj))] rfl rfl), ?_⟩
 exact ⟨⟨[], trivial, rfl⟩, ⟨rfl, trivial⟩, trivial⟩
set_option maxRecDepth 10000 in
theorem K8 (N : Nat) (p0 : Int) (r : Bool) (h : HG N p0 = some r) : AB Tryz.prog 106 [.e (.one (.pure (.val (.int .i64 p0))))] [] (.e (.one (.pure (.val (.bool r))))) := by
 unfold HG at h
 refine As (n := 6) (rs := [.tmp 2]) Tryz.func106 rfl rfl rfl (A3 rfl) (A3 rfl) rfl fun w0 S0 => ?_
 refine Ab (Aa Ac rfl (qa rfl (Ae (Ab (Aa Ac rfl (qm rfl (qm rfl (Ct rfl (qa rfl (Ae ?_))))))))))
 obtain rfl := sj h
 refine Am (sm [] [(2, .e (.one (.pure (.val (.bool ((p0 != p0)))))))] [] rfl rfl) (Az ?_)
 exact ⟨⟨[_], ⟨.tmp _ _ rfl, trivial⟩, rfl⟩, trivial⟩
set_option maxRecDepth 10000 in
theorem Hi (N : Nat) (p0 : Int) (p1 : Int) (r : Int) (h : Fh N p0 p1 = some r) : AB Tryz.prog 62 [.e (.one (.pure (.val (.int .i64 p0)))), .e (.one (.pure (.val (.int .i64 p1))))] [] (.e (.one (.pure (.val (.int .i64 r))))) := by
 unfold Fh at h
 refine As (n := 20) (rs := [.tmp 4]) Tryz.func62 rfl rfl rfl (A3 rfl) (A3 rfl) rfl fun w0 S0 => ?_
 refine Ab (Aa Ac rfl (qa rfl (Ae (Ab (Aa Ac rfl (qm rfl ?_))))))
 obtain ⟨v1, a1, h⟩ := bind_some h
 refine AG [] (K8 N p0 v1 a1) Wi rfl (qa rfl (Ae (Ab (Aa Ac rfl (qm rfl ?_)))))
 obtain ⟨v2, a2, h⟩ := bind_some h
 refine AG [] (K8 N p1 v2 a2) Wi rfl (qa rfl (Ae (Ab (Ab (Aa Ac rfl (qm rfl (Ae ?_)))))))
 refine Ap rfl (fun c3 => ?_) (fun c3 => ?_)
 ·have h := Ao c3 h
  refine Ab (Ab (Aa Ac rfl (qm rfl (Ae ?_))))
  refine Ap rfl (fun c4 => ?_) (fun c4 => ?_)
  ·have h := Ao c4 h
   refine Ab (Aa Ac rfl (qa rfl (Ae ?_)))
   obtain rfl := sj h
   refine Am (sm [] [(4, .e (.one (.pure (.val (.int .i64 0)))))] [] rfl rfl) (Az ?_)
   exact ⟨⟨[_], ⟨.tmp _ _ rfl, trivial⟩, rfl⟩, trivial⟩
  ·have h := An c4 h
   refine Aq (Ab (Aa Ac rfl (qa rfl (Ae ?_))))
   obtain rfl := sj h
   refine Am (sm [] [(4, .e (.one (.pure (.val (.int .i64 ((-1)))))))] [] rfl rfl) (Az ?_)
   exact ⟨⟨[_], ⟨.tmp _ _ rfl, trivial⟩, rfl⟩, trivial⟩
 ·have h := An c3 h
  refine Aq (Ab (Ab (Aa Ac rfl (qm rfl (Ae ?_)))))
  refine Ap rfl (fun c5 => ?_) (fun c5 => ?_)
  ·have h := Ao c5 h
   refine Ab (Aa Ac rfl (qa rfl (Ae ?_)))
   obtain rfl := sj h
   refine Am (sm [] [(4, .e (.one (.pure (.val (.int .i64 1)))))] [] rfl rfl) (Az ?_)
   exact ⟨⟨[_], ⟨.tmp _ _ rfl, trivial⟩, rfl⟩, trivial⟩
  ·have h := An c5 h
   refine Aq (Ab (Ab (Aa Ac rfl (qm rfl (qm rfl (AT rfl (Ae ?_)))))))
   refine Ap rfl (fun c6 => ?_) (fun c6 => ?_)
   ·have h := Ao c6 h
    refine Ab (Aa Ac rfl (qa rfl (Ae ?_)))
    obtain rfl := sj h
    refine Am (sm [] [(4, .e (.one (.pure (.val (.int .i64 ((-1)))))))] [] rfl rfl) (Az ?_)
    exact ⟨⟨[_], ⟨.tmp _ _ rfl, trivial⟩, rfl⟩, trivial⟩
   ·have h := An c6 h
    refine Aq (Ab (Ab (Aa Ac rfl (qm rfl (qm rfl (Fv rfl (Ae ?_)))))))
    refine Ap rfl (fun c7 => ?_) (fun c7 => ?_)
    ·have h := Ao c7 h
     refine Ab (Aa Ac rfl (qa rfl (Ae ?_)))
     obtain rfl := sj h
     refine Am (sm [] [(4, .e (.one (.pure (.val (.int .i64 1)))))] [] rfl rfl) (Az ?_)
     exact ⟨⟨[_], ⟨.tmp _ _ rfl, trivial⟩, rfl⟩, trivial⟩
    ·have h := An c7 h
     refine Aq (Ab (Aa Ac rfl (qa rfl (Ae ?_))))
     obtain rfl := sj h
     refine Am (sm [] [(4, .e (.one (.pure (.val (.int .i64 0)))))] [] rfl rfl) (Az ?_)
     exact ⟨⟨[_], ⟨.tmp _ _ rfl, trivial⟩, rfl⟩, trivial⟩
set_option maxRecDepth 10000 in
theorem H2 (N : Nat) (p0 : List Int) (p1 : List Int) (r : Int) (h : E6 N p0 p1 = some r) : AB Tryz.prog 92 [.e (.one (.pure (.sl (p0.map Al)))), .e (.one (.pure (.sl (p1.map Al))))] [] (.e (.one (.pure (.val (.int .i64 r))))) := by
 unfold E6 at h
 refine As (n := 36) (rs := [.tmp 4]) Tryz.func92 rfl rfl rfl (A3 rfl) (A3 rfl) rfl fun w0 S0 => ?_
 refine Ab (Aa Ac rfl (qa rfl (Ae (Ab (Ab (Aa Ac rfl (qm rfl (AU AJ rfl (qm rfl (Ae ?_))))))))))
 refine AC (L := EE N p0 p1) h (fun v1 => mk [(0, .e (.one (.pure (.sl (p0.map Al))))), (1, .e (.one (.pure (.sl (p1.map Al))))), (9, .e (.one (.pure (.sl (p0.map Al))))), (10, .e (.one (.pure (.val (.int .i64 ((p0.length : Int))))))), (11, .e (.one (.pure (.val (.int .i64 v1)))))] []) (fun v2 => mk [(0, .e (.one (.pure (.sl (p0.map Al))))), (1, .e (.one (.pure (.sl (p1.map Al)))))] []) (fun _ _ => rfl) (sm [] _ _ rfl rfl) (fun j1 n1 v1 h => ?_) (fun v2 s h hs => ?_)
 ·unfold EE at h
  refine Ab (Aa Ac rfl (AT rfl (Ae (Ab ?_))))
  refine Ap rfl (fun c3 => ?_) (fun c3 => ?_)
  ·have h := Ao c3 h
   refine Aq (Ab (AH (Ab (Aa Ac rfl (qm rfl ?_)))))
   obtain ⟨v4, a4, b4, h⟩ := Ai h
   refine qi AJ Ec a4 (Ah b4) rfl (qk CN rfl (qa rfl (qa rfl (Ae (Ab (Ab (Aa Ac rfl (qm rfl (qm rfl (AU AJ rfl (Db rfl (Ae ?_))))))))))))
   refine Ap rfl (fun c5 => ?_) (fun c5 => ?_)
   ·have h := Ao c5 h
    refine Ab (Aa Ac rfl (qa rfl (Ae ?_)))
    obtain rfl := sj h
    refine Am (sm [] [(4, .e (.one (.pure (.val (.int .i64 1)))))] [] rfl rfl) (Az ?_)
    exact ⟨⟨[_], ⟨.tmp _ _ rfl, trivial⟩, rfl⟩, trivial⟩
   ·have h := An c5 h
    refine Aq (Ab (Aa Ac rfl (qm rfl (qm rfl ?_))))
    obtain ⟨v6, a6, b6, h⟩ := Ai h
    refine qi AJ Ec a6 (Ah b6) rfl (qk CN rfl (qa rfl (Ae (Ab (Aa Ac rfl (qm rfl (qm rfl ?_)))))))
    obtain ⟨v7, a7, h⟩ := bind_some h
    refine AG [] (Hi N v4 v6 v7 a7) U6 rfl (qa rfl (Ae (Ab (Aa Ac rfl (qm rfl (Ct rfl (Ae ?_)))))))
    refine Ap rfl (fun c8 => ?_) (fun c8 => ?_)
    ·have h := Ao c8 h
     refine Ab (Aa Ac rfl (qm rfl (qa rfl (Ae ?_))))
     obtain rfl := sj h
     refine Am (sm [] [(4, .e (.one (.pure (.val (.int .i64 v7)))))] [] rfl rfl) (Az ?_)
     exact ⟨⟨[_], ⟨.tmp _ _ rfl, trivial⟩, rfl⟩, trivial⟩
    ·have h := An c8 h
     refine Aq (Aa Ac rfl (AN rfl (qm rfl (Ae ?_))))
     exact Au _ h (sm [] _ _ rfl rfl)
  ·have h := An c3 h
   refine AP ?_
   exact Au _ h (sm [] _ _ rfl rfl)
 ·refine Am hs (Ab (Ab (Aa Ac rfl (qm rfl (AU AJ rfl (qm rfl (AU AJ rfl (AT rfl (Ae ?_)))))))))
  refine Ap rfl (fun c9 => ?_) (fun c9 => ?_)
  ·have h := Ao c9 h
   refine Ab (Aa Ac rfl (qa rfl (Ae ?_)))
   obtain rfl := sj h
   refine Am (sm [] [(4, .e (.one (.pure (.val (.int .i64 ((-1)))))))] [] rfl rfl) (Az ?_)
   exact ⟨⟨[_], ⟨.tmp _ _ rfl, trivial⟩, rfl⟩, trivial⟩
  ·have h := An c9 h
   refine Aq (Ab (Aa Ac rfl (qa rfl (Ae ?_))))
   obtain rfl := sj h
   refine Am (sm [] [(4, .e (.one (.pure (.val (.int .i64 0)))))] [] rfl rfl) (Az ?_)
   exact ⟨⟨[_], ⟨.tmp _ _ rfl, trivial⟩, rfl⟩, trivial⟩
set_option maxRecDepth 10000 in
theorem Jr (N : Nat) (p0 : Int) (r : Bool) (h : Gf N p0 = some r) : AB Tryz.prog 155 [.e (.one (.pure (.val (.int .u8 p0))))] [] (.e (.one (.pure (.val (.bool r))))) := by
 unfold Gf at h
 refine As (n := 6) (rs := [.tmp 2]) Tryz.func155 rfl rfl rfl (A3 rfl) (A3 rfl) rfl fun w0 S0 => ?_
 refine Ab (Aa Ac rfl (qa rfl (Ae (Ab (Aa Ac rfl (qm rfl (qm rfl (Ct rfl (qa rfl (Ae ?_))))))))))
 obtain rfl := sj h
 refine Am (sm [] [(2, .e (.one (.pure (.val (.bool ((p0 != p0)))))))] [] rfl rfl) (Az ?_)
 exact ⟨⟨[_], ⟨.tmp _ _ rfl, trivial⟩, rfl⟩, trivial⟩
set_option maxRecDepth 10000 in
theorem Lc (N : Nat) (p0 : Int) (p1 : Int) (r : Int) (h : GM N p0 p1 = some r) : AB Tryz.prog 121 [.e (.one (.pure (.val (.int .u8 p0)))), .e (.one (.pure (.val (.int .u8 p1))))] [] (.e (.one (.pure (.val (.int .i64 r))))) := by
 unfold GM at h
 refine As (n := 20) (rs := [.tmp 4]) Tryz.func121 rfl rfl rfl (A3 rfl) (A3 rfl) rfl fun w0 S0 => ?_
 refine Ab (Aa Ac rfl (qa rfl (Ae (Ab (Aa Ac rfl (qm rfl ?_))))))
 obtain ⟨v1, a1, h⟩ := bind_some h
 refine AG [] (Jr N p0 v1 a1) Wt rfl (qa rfl (Ae (Ab (Aa Ac rfl (qm rfl ?_)))))
 obtain ⟨v2, a2, h⟩ := bind_some h
 refine AG [] (Jr N p1 v2 a2) Wt rfl (qa rfl (Ae (Ab (Ab (Aa Ac rfl (qm rfl (Ae ?_)))))))
 refine Ap rfl (fun c3 => ?_) (fun c3 => ?_)
 ·have h := Ao c3 h
  refine Ab (Ab (Aa Ac rfl (qm rfl (Ae ?_))))
  refine Ap rfl (fun c4 => ?_) (fun c4 => ?_)
  ·have h := Ao c4 h
   refine Ab (Aa Ac rfl (qa rfl (Ae ?_)))
   obtain rfl := sj h
   refine Am (sm [] [(4, .e (.one (.pure (.val (.int .i64 0)))))] [] rfl rfl) (Az ?_)
   exact ⟨⟨[_], ⟨.tmp _ _ rfl, trivial⟩, rfl⟩, trivial⟩
  ·have h := An c4 h
   refine Aq (Ab (Aa Ac rfl (qa rfl (Ae ?_))))
   obtain rfl := sj h
   refine Am (sm [] [(4, .e (.one (.pure (.val (.int .i64 ((-1)))))))] [] rfl rfl) (Az ?_)
   exact ⟨⟨[_], ⟨.tmp _ _ rfl, trivial⟩, rfl⟩, trivial⟩
 ·have h := An c3 h
  refine Aq (Ab (Ab (Aa Ac rfl (qm rfl (Ae ?_)))))
  refine Ap rfl (fun c5 => ?_) (fun c5 => ?_)
  ·have h := Ao c5 h
   refine Ab (Aa Ac rfl (qa rfl (Ae ?_)))
   obtain rfl := sj h
   refine Am (sm [] [(4, .e (.one (.pure (.val (.int .i64 1)))))] [] rfl rfl) (Az ?_)
   exact ⟨⟨[_], ⟨.tmp _ _ rfl, trivial⟩, rfl⟩, trivial⟩
  ·have h := An c5 h
   refine Aq (Ab (Ab (Aa Ac rfl (qm rfl (qm rfl (AT rfl (Ae ?_)))))))
   refine Ap rfl (fun c6 => ?_) (fun c6 => ?_)
   ·have h := Ao c6 h
    refine Ab (Aa Ac rfl (qa rfl (Ae ?_)))
    obtain rfl := sj h
    refine Am (sm [] [(4, .e (.one (.pure (.val (.int .i64 ((-1)))))))] [] rfl rfl) (Az ?_)
    exact ⟨⟨[_], ⟨.tmp _ _ rfl, trivial⟩, rfl⟩, trivial⟩
   ·have h := An c6 h
    refine Aq (Ab (Ab (Aa Ac rfl (qm rfl (qm rfl (Fv rfl (Ae ?_)))))))
    refine Ap rfl (fun c7 => ?_) (fun c7 => ?_)
    ·have h := Ao c7 h
     refine Ab (Aa Ac rfl (qa rfl (Ae ?_)))
     obtain rfl := sj h
     refine Am (sm [] [(4, .e (.one (.pure (.val (.int .i64 1)))))] [] rfl rfl) (Az ?_)
     exact ⟨⟨[_], ⟨.tmp _ _ rfl, trivial⟩, rfl⟩, trivial⟩
    ·have h := An c7 h
     refine Aq (Ab (Aa Ac rfl (qa rfl (Ae ?_))))
     obtain rfl := sj h
     refine Am (sm [] [(4, .e (.one (.pure (.val (.int .i64 0)))))] [] rfl rfl) (Az ?_)
     exact ⟨⟨[_], ⟨.tmp _ _ rfl, trivial⟩, rfl⟩, trivial⟩
set_option maxRecDepth 10000 in
theorem Iw (N : Nat) (p0 : List Int) (p1 : List Int) (r : Int) (h : ER N p0 p1 = some r) : AB Tryz.prog 93 [.e (.one (.pure (.sl (p0.map Bg)))), .e (.one (.pure (.sl (p1.map Bg))))] [] (.e (.one (.pure (.val (.int .i64 r))))) := by
 unfold ER at h
 refine As (n := 36) (rs := [.tmp 4]) Tryz.func93 rfl rfl rfl (A3 rfl) (A3 rfl) rfl fun w0 S0 => ?_
 refine Ab (Aa Ac rfl (qa rfl (Ae (Ab (Ab (Aa Ac rfl (qm rfl (AU D0 rfl (qm rfl (Ae ?_))))))))))
 refine AC (L := Dn N p0 p1) h (fun v1 => mk [(0, .e (.one (.pure (.sl (p0.map Bg))))), (1, .e (.one (.pure (.sl (p1.map Bg))))), (9, .e (.one (.pure (.sl (p0.map Bg))))), (10, .e (.one (.pure (.val (.int .i64 ((p0.length : Int))))))), (11, .e (.one (.pure (.val (.int .i64 v1)))))] []) (fun v2 => mk [(0, .e (.one (.pure (.sl (p0.map Bg))))), (1, .e (.one (.pure (.sl (p1.map Bg)))))] []) (fun _ _ => rfl) (sm [] _ _ rfl rfl) (fun j1 n1 v1 h => ?_) (fun v2 s h hs => ?_)
 ·unfold Dn at h
  refine Ab (Aa Ac rfl (AT rfl (Ae (Ab ?_))))
  refine Ap rfl (fun c3 => ?_) (fun c3 => ?_)
  ·have h := Ao c3 h
   refine Aq (Ab (AH (Ab (Aa Ac rfl (qm rfl ?_)))))
   obtain ⟨v4, a4, b4, h⟩ := Ai h
   refine qi D0 GJ a4 (Ah b4) rfl (qk KY rfl (qa rfl (qa rfl (Ae (Ab (Ab (Aa Ac rfl (qm rfl (qm rfl (AU D0 rfl (Db rfl (Ae ?_))))))))))))
   refine Ap rfl (fun c5 => ?_) (fun c5 => ?_)
   ·have h := Ao c5 h
    refine Ab (Aa Ac rfl (qa rfl (Ae ?_)))
    obtain rfl := sj h
    refine Am (sm [] [(4, .e (.one (.pure (.val (.int .i64 1)))))] [] rfl rfl) (Az ?_)
    exact ⟨⟨[_], ⟨.tmp _ _ rfl, trivial⟩, rfl⟩, trivial⟩
   ·have h := An c5 h
    refine Aq (Ab (Aa Ac rfl (qm rfl (qm rfl ?_))))
    obtain ⟨v6, a6, b6, h⟩ := Ai h
    refine qi D0 GJ a6 (Ah b6) rfl (qk KY rfl (qa rfl (Ae (Ab (Aa Ac rfl (qm rfl (qm rfl ?_)))))))
    obtain ⟨v7, a7, h⟩ := bind_some h
    refine AG [] (Lc N v4 v6 v7 a7) Xk rfl (qa rfl (Ae (Ab (Aa Ac rfl (qm rfl (Ct rfl (Ae ?_)))))))
    refine Ap rfl (fun c8 => ?_) (fun c8 => ?_)
    ·have h := Ao c8 h
     refine Ab (Aa Ac rfl (qm rfl (qa rfl (Ae ?_))))
     obtain rfl := sj h
     refine Am (sm [] [(4, .e (.one (.pure (.val (.int .i64 v7)))))] [] rfl rfl) (Az ?_)
     exact ⟨⟨[_], ⟨.tmp _ _ rfl, trivial⟩, rfl⟩, trivial⟩
    ·have h := An c8 h
     refine Aq (Aa Ac rfl (AN rfl (qm rfl (Ae ?_))))
     exact Au _ h (sm [] _ _ rfl rfl)
  ·have h := An c3 h
   refine AP ?_
   exact Au _ h (sm [] _ _ rfl rfl)
 ·refine Am hs (Ab (Ab (Aa Ac rfl (qm rfl (AU D0 rfl (qm rfl (AU D0 rfl (AT rfl (Ae ?_)))))))))
  refine Ap rfl (fun c9 => ?_) (fun c9 => ?_)
  ·have h := Ao c9 h
   refine Ab (Aa Ac rfl (qa rfl (Ae ?_)))
   obtain rfl := sj h
   refine Am (sm [] [(4, .e (.one (.pure (.val (.int .i64 ((-1)))))))] [] rfl rfl) (Az ?_)
   exact ⟨⟨[_], ⟨.tmp _ _ rfl, trivial⟩, rfl⟩, trivial⟩
  ·have h := An c9 h
   refine Aq (Ab (Aa Ac rfl (qa rfl (Ae ?_))))
   obtain rfl := sj h
   refine Am (sm [] [(4, .e (.one (.pure (.val (.int .i64 0)))))] [] rfl rfl) (Az ?_)
   exact ⟨⟨[_], ⟨.tmp _ _ rfl, trivial⟩, rfl⟩, trivial⟩
set_option maxRecDepth 10000 in
theorem MD (N : Nat) (p0 : List Int) (r : Int) (h : I3 N p0 = some r) : AB Tryz.prog 61 [.e (.one (.pure (.sl (p0.map Al))))] [] (.e (.one (.pure (.val (.int .i64 r))))) := by
 unfold I3 at h
 refine As (n := 18) (rs := [.tmp 2]) Tryz.func61 rfl rfl rfl (A3 rfl) (A3 rfl) rfl fun w0 S0 => ?_
 refine Ab (Aa Ac rfl (qa rfl (Ae (Ab (Aa Ac rfl (qa rfl (Ae (Ab (Ab (Aa Ac rfl (qm rfl (AU AJ rfl (qm rfl (Ae ?_))))))))))))))
 refine AC (L := HI N p0) h (fun v1 => mk [(3, .e (.one (.pure (.val (.int .i64 0))))), (6, .e (.one (.pure (.sl (p0.map Al))))), (7, .e (.one (.pure (.val (.int .i64 ((p0.length : Int))))))), (8, .e (.one (.pure (.val (.int .i64 v1)))))] []) (fun v2 => mk [(3, .e (.one (.pure (.val (.int .i64 0)))))] []) (fun _ _ => rfl) (sm [] _ _ rfl rfl) (fun j1 n1 v1 h => ?_) (fun v2 s h hs => ?_)
 ·unfold HI at h
  refine Ab (Aa Ac rfl (AT rfl (Ae (Ab ?_))))
  refine Ap rfl (fun c3 => ?_) (fun c3 => ?_)
  ·have h := Ao c3 h
   refine Aq (Ab (AH (Ab (Aa Ac rfl ?_))))
   obtain ⟨v4, a4, b4, h⟩ := Ai h
   refine qi AJ Ec a4 (Ah b4) rfl (qk CN rfl (qa rfl (Ae (Ab (Aa Ac rfl (qm rfl (qm rfl (Ct rfl (Ae ?_)))))))))
   refine Ap rfl (fun c5 => ?_) (fun c5 => ?_)
   ·have h := Ao c5 h
    refine Ab (Aa Ac rfl (qm rfl (qa rfl (Ae ?_))))
    obtain rfl := sj h
    refine Am (sm [] [(2, .e (.one (.pure (.val (.int .i64 v4)))))] [] rfl rfl) (Az ?_)
    exact ⟨⟨[_], ⟨.tmp _ _ rfl, trivial⟩, rfl⟩, trivial⟩
   ·have h := An c5 h
    refine Aq (Aa Ac rfl (AN rfl (qm rfl (Ae ?_))))
    exact Au _ h (sm [] _ _ rfl rfl)
  ·have h := An c3 h
   refine AP ?_
   exact Au _ h (sm [] _ _ rfl rfl)
 ·refine Am hs (Ab (Aa Ac rfl (qm rfl (qa rfl (Ae ?_)))))
  obtain rfl := sj h
  refine Am (sm [] [(2, .e (.one (.pure (.val (.int .i64 0)))))] [] rfl rfl) (Az ?_)
  exact ⟨⟨[_], ⟨.tmp _ _ rfl, trivial⟩, rfl⟩, trivial⟩
set_option maxRecDepth 10000 in
theorem Kp (N : Nat) (p0 : Ag) (p1 : Ag) (r : Int) (h : FV N p0 p1 = some r) : AB Tryz.prog 46 [.e (.agg [.pure (.sl (p0.fBase.map Al)), .pure (.sl (p0.fNext.map Al)), .pure (.sl (p0.fHeld.map Bg))]), .e (.agg [.pure (.sl (p1.fBase.map Al)), .pure (.sl (p1.fNext.map Al)), .pure (.sl (p1.fHeld.map Bg))])] [] (.e (.one (.pure (.val (.int .i64 r))))) := by
 unfold FV at h
 refine As (n := 22) (rs := [.tmp 4]) Tryz.func46 rfl rfl rfl (A3 rfl) (A3 rfl) rfl fun w0 S0 => ?_
 refine Ab (Aa Ac rfl (qb rfl (qb rfl (qa rfl (Ae (Ab (Aa Ac rfl (qf Dx rfl (ql Bo rfl (qf Dx rfl (ql Bo rfl ?_)))))))))))
 obtain ⟨v1, a1, h⟩ := bind_some h
 refine AG [] (H2 N p0.fBase p1.fBase v1 a1) XZ rfl (qf BK rfl (ql Bo rfl (qf BK rfl (ql Bo rfl ?_))))
 obtain ⟨v2, a2, h⟩ := bind_some h
 refine AG [] (H2 N p0.fNext p1.fNext v2 a2) XZ rfl (qf Dm rfl (ql HV rfl (qf Dm rfl (ql HV rfl ?_))))
 obtain ⟨v3, a3, h⟩ := bind_some h
 refine AG [] (Iw N p0.fHeld p1.fHeld v3 a3) Zy rfl (EU AJ Ec Lb rfl ?_)
 obtain ⟨v4, a4, h⟩ := bind_some h
 refine Et [] [20] (MD N (([v1, v2, v3] : List Int)) v4 a4) Yn CQ rfl (qa rfl (AA (by kernel_rfl) ?_))
 obtain rfl := sj h
 refine Am (sm [] [(4, .e (.one (.pure (.val (.int .i64 v4)))))] [] rfl rfl) (Az ?_)
 exact ⟨⟨[_], ⟨.tmp _ _ rfl, trivial⟩, rfl⟩, trivial⟩
set_option maxRecDepth 10000 in
theorem OS (N : Nat) (p0 : Ak) (r : (List Ag) × Int) (h : Jk N p0 = some r) : AB Tryz.prog 40 [.e (.agg [.pure (.sl (p0.fVersions.map Al)), .pure (.sl (p0.fNow.map Al)), .pure (.sl (p0.fTarget.map Al)), .pure (.sl (p0.fTables.map Ar))])] [(3, r.1.map Aj)] (.tup [.one (.own 0), .one (.pure (.val (.int .i64 r.2)))]) := by
 unfold Jk at h
 refine As (n := 73) (rs := [.tmp 2, .tmp 3]) Tryz.func40 rfl rfl rfl (A3 rfl) (A3 rfl) rfl fun w0 S0 => ?_
 refine Ab (Aa Ac rfl (qb rfl (qa rfl (qa rfl (Ae (Ab (Aa Ac rfl (qL EH Ep rfl ?_))))))))
 obtain ⟨v1, a1, h⟩ := bind_some h
 refine AG [2001, 2002, 2003] (Pg N p0 v1 a1) Zb rfl (qm rfl (qx rfl (qx rfl (qx rfl (qz Dc rfl (qs Ay rfl (qa rfl (qa rfl (Ae (Ab ?_))))))))))
 refine AM h (fun v2 => mk [(1, .e (.one (.ptr 1 0))), (4, .e (.one (.ptr 4 0))), (6, .e (.one (.pure (.val (.int .i64 v1.2.2))))), (25, .e (.one (.pure (.val (.bool v2)))))] [(1, .box [.pure (.sl (p0.fVersions.map Al)), .pure (.sl (p0.fNow.map Al)), .pure (.sl (p0.fTarget.map Al)), .pure (.sl (p0.fTables.map Ar))]), (4, .box [.own 2004, .own 2005, .own 2006]), (2004, .vec 1 (v1.1.fBase.map Al)), (2005, .vec 1 (v1.1.fNext.map Al)), (2006, .vec 1 (v1.1.fHeld.map Bg))]) (fun j2 h => ?_) (fun v2 h => ?_)
 ·refine Aa Ac rfl (qm rfl (Ct rfl (qm rfl ?_)))
  refine AD (t := 22) rfl (fun c3 => ?_) (fun c3 => ?_)
  ·have h := Ao c3 h
   refine qn rfl (qn rfl (qp rfl (Ae ?_)))
   exact Au _ h (sm [(2004, 2001), (2005, 2002), (2006, 2003)] _ _ rfl rfl)
  ·have h := An c3 h
   refine qm rfl (Cb rfl (qp rfl (Ae ?_)))
   exact Au _ h (sm [(2004, 2001), (2005, 2002), (2006, 2003)] _ _ rfl rfl)
 ·refine Ap rfl (fun c4 => ?_) (fun c4 => ?_)
  ·have h := Ao c4 h
   refine Ab (Aa Ac rfl (qm rfl (qa rfl (qa rfl (Ae ?_)))))
   obtain rfl := sj h
   refine Am ((Br 2 2007 3 rfl rfl rfl).trans (sm [(1000, 2007)] [(2, .e (.one (.own 1000))), (3, .e (.one (.pure (.val (.int .i64 v1.2.2)))))] [(1000, .vec 3 ((([] : List Ag)).map Aj))] rfl rfl)) (Az ?_)
   exact ⟨⟨[_, _], ⟨.tmp _ _ rfl, ⟨.tmp _ _ rfl, trivial⟩⟩, rfl⟩, ⟨rfl, trivial⟩⟩
  ·have h := An c4 h
   refine Aq (Ab (Aa Ac rfl (qL A4 Ay rfl (Ev (Bm 2004 _ _ rfl rfl) (Ev (Bm 2005 _ _ rfl rfl) (Ev (Bm 2006 _ _ rfl rfl) (EU AZ Ay Dc rfl (qa rfl (Ae (Ab (Aa Ac rfl ?_)))))))))))
   refine S5 (.p rfl) rfl ?_
   refine qL A4 Ay rfl ?_
   obtain ⟨v5, a5, h⟩ := bind_some h
   refine AG [] (Ll N v1.1 v5 a5) WG rfl ?_
   refine Rs (kv := Value.string) (vt := tB) (m := ([] : List (ByteArray × Bool))) (k := v5) (v := true) rfl (.inr rfl) rfl rfl rfl rfl (Nn Qk WP) rfl ?_
   refine qm rfl (qa rfl (Ae (Ab (Ab (Aa Ac rfl (qa rfl (Ae ?_)))))))
   refine AC (L := GQ N p0) h (fun v6 => mk [(1, .e (.one (.ptr 1 0))), (7, .e (.one (.own 2008))), (8, .e (.one (.mref 2009))), (9, .e (.one (.pure (.val (.int .i64 v6.2.2)))))] [(1, .box [.pure (.sl (p0.fVersions.map Al)), .pure (.sl (p0.fNow.map Al)), .pure (.sl (p0.fTarget.map Al)), .pure (.sl (p0.fTables.map Ar))]), (2008, .vec 3 (v6.1.map Aj)), (2009, .mp (KG Value.string tB v6.2.1))]) (fun v7 => mk [(7, .e (.one (.own 2010)))] [(2010, .vec 3 (v7.map Aj))]) (fun _ _ => rfl) (sm [(2008, 28), (2009, 29)] _ _ rfl rfl) (fun j6 n6 v6 h => ?_) (fun v7 s h hs => ?_)
   ·unfold GQ at h
    refine Ab (Ab (Aa Ac rfl (qm rfl (qm rfl (FL AZ rfl (AT rfl (Ae ?_)))))))
    refine Ap rfl (fun c8 => ?_) (fun c8 => ?_)
    ·have h := Ao c8 h
     refine Aq (Ab (AH (Ab (Aa Ac rfl (qL EH Ep rfl (qm rfl (qm rfl ?_)))))))
     obtain ⟨v9, a9, b9, h⟩ := Ai h
     refine qI AZ Ay a9 (Ah b9) rfl (qJ A4 Ay (Ah b9) rfl ?_)
     obtain ⟨v10, a10, h⟩ := bind_some h
     refine AG [2011, 2012] (P6 N p0 v9 v10 a10) Zr rfl (qm rfl (qx rfl (qx rfl (qa rfl (qa rfl (AA (by kernel_rfl) (Ab (Ab (Aa Ac rfl (qm rfl (FL AZ rfl (qm rfl (Ae ?_)))))))))))))
     refine AC (L := Gz N v10) h (fun v11 => mk [(1, .e (.one (.ptr 1 0))), (7, .e (.one (.own 2013))), (8, .e (.one (.mref 2014))), (9, .e (.one (.pure (.val (.int .i64 v6.2.2))))), (48, .e (.one (.own 2015))), (49, .e (.one (.pure (.val (.int .i64 ((v10.2.length : Int))))))), (50, .e (.one (.pure (.val (.int .i64 v11.2.2)))))] [(1, .box [.pure (.sl (p0.fVersions.map Al)), .pure (.sl (p0.fNow.map Al)), .pure (.sl (p0.fTarget.map Al)), .pure (.sl (p0.fTables.map Ar))]), (2013, .vec 3 (v11.1.map Aj)), (2014, .mp (KG Value.string tB v11.2.1)), (2015, .vec 3 (v10.2.map Aj))]) (fun v12 => mk [(1, .e (.one (.ptr 1 0))), (7, .e (.one (.own 2016))), (8, .e (.one (.mref 2017))), (9, .e (.one (.pure (.val (.int .i64 v6.2.2)))))] [(1, .box [.pure (.sl (p0.fVersions.map Al)), .pure (.sl (p0.fNow.map Al)), .pure (.sl (p0.fTarget.map Al)), .pure (.sl (p0.fTables.map Ar))]), (2016, .vec 3 (v12.1.map Aj)), (2017, .mp (KG Value.string tB v12.2))]) (fun _ _ => rfl) (sm [(2013, 2008), (2014, 2009), (2015, 2012)] _ _ rfl rfl) (fun j11 n11 v11 h => ?_) (fun v12 s h hs => ?_)
     ·unfold Gz at h
      refine Ab (Aa Ac rfl (AT rfl (Ae (Ab ?_))))
      refine Ap rfl (fun c13 => ?_) (fun c13 => ?_)
      ·have h := Ao c13 h
       refine Aq ?_
       refine AM h (fun v14 => mk [(1, .e (.one (.ptr 1 0))), (7, .e (.one (.own 2018))), (8, .e (.one (.mref 2019))), (9, .e (.one (.pure (.val (.int .i64 v6.2.2))))), (48, .e (.one (.own 2020))), (49, .e (.one (.pure (.val (.int .i64 ((v10.2.length : Int))))))), (50, .e (.one (.pure (.val (.int .i64 v11.2.2)))))] [(1, .box [.pure (.sl (p0.fVersions.map Al)), .pure (.sl (p0.fNow.map Al)), .pure (.sl (p0.fTarget.map Al)), .pure (.sl (p0.fTables.map Ar))]), (2018, .vec 3 (v14.1.map Aj)), (2019, .mp (KG Value.string tB v14.2)), (2020, .vec 3 (v10.2.map Aj))]) (fun j14 h => ?_) (fun v14 h => ?_)
       ·refine AH (Ab (Aa Ac rfl ?_))
        obtain ⟨v15, a15, b15, h⟩ := Ai h
        refine qI AZ Ay a15 (Ah b15) rfl (qJ A4 Ay (Ah b15) rfl (qz Dc rfl (qs Ay rfl (Ae (Ab (Aa Ac rfl (qm rfl (qL A4 Ay rfl ?_))))))))
        obtain ⟨v16, a16, h⟩ := bind_some h
        refine AG [] (Ll N v15 v16 a16) WG rfl ?_
        refine Us (kv := Value.string) (vt := tB) (m := v11.2.1) (dv := false) (.p rfl) rfl rfl rfl (Nn Qk WP) (by rw [Qk]; rfl) Vp rfl rfl rfl ?_
        refine Cb rfl (Ae ?_)
        refine Ap rfl (fun c17 => ?_) (fun c17 => ?_)
        ·have h := Ao c17 h
         refine Ab (Aa Ac rfl (qm rfl (qL A4 Ay rfl ?_)))
         obtain ⟨v18, a18, h⟩ := bind_some h
         refine AG [] (Ll N v15 v18 a18) WG rfl ?_
         refine Rs (kv := Value.string) (vt := tB) (m := v11.2.1) (k := v18) (v := true) rfl (.inl rfl) rfl rfl rfl rfl (Nn Qk WP) rfl ?_
         refine Ae (Aa Ac rfl (qm rfl (qL A4 Ay rfl (EU AZ Ay Dc rfl ?_))))
         obtain ⟨c19, h⟩ := AQ h
         refine El (f := Aj) AZ AZ Ay ST Dc c19 rfl (qa rfl (Ae ?_))
         exact Au _ h (sm [(2018, 65), (2019, 2014), (2020, 2015)] _ _ rfl rfl)
        ·have h := An c17 h
         refine Aq ?_
         exact Au _ h (sm [(2018, 2013), (2019, 2014), (2020, 2015)] _ _ rfl rfl)
       ·refine Aa Ac rfl (AN rfl (qm rfl (Ae ?_)))
        exact Au _ h (sm [(2013, 2018), (2014, 2019), (2015, 2020)] _ _ rfl rfl)
      ·have h := An c13 h
       refine AP ?_
       exact Au _ h (sm [(2016, 2013), (2017, 2014)] _ _ rfl rfl)
     ·refine Am hs (Ab (Aa Ac rfl (qm rfl (FL AZ rfl (Fv rfl (Ae ?_))))))
      refine Ap rfl (fun c20 => ?_) (fun c20 => ?_)
      ·have h := Ao c20 h
       refine Ab (Aa Ac rfl (qa rfl (qa rfl (Ae ?_))))
       obtain rfl := sj h
       refine Am ((Br 2 2021 3 rfl rfl rfl).trans (sm [(1000, 2021)] [(2, .e (.one (.own 1000))), (3, .e (.one (.pure (.val (.int .i64 3)))))] [(1000, .vec 3 ((([] : List Ag)).map Aj))] rfl rfl)) (Az ?_)
       exact ⟨⟨[_, _], ⟨.tmp _ _ rfl, ⟨.tmp _ _ rfl, trivial⟩⟩, rfl⟩, ⟨rfl, trivial⟩⟩
      ·have h := An c20 h
       refine Aq (Aa Ac rfl (qm rfl (AN rfl (qa rfl (Ae ?_)))))
       exact Au _ h (sm [(2008, 2016), (2009, 2017)] _ _ rfl rfl)
    ·have h := An c8 h
     refine AP ?_
     exact Au _ h (sm [(2010, 2008)] _ _ rfl rfl)
   ·refine Am hs (Ab (Aa Ac rfl (qm rfl ?_)))
    obtain ⟨v21, a21, h⟩ := bind_some h
    refine BD (ds0 := [_, _]) [2010] [] [true] (Bi.weak (ds' := [_, .e (.one (.fnc 46))]) (Iu N v7 ((fun (x : Ag × Ag) => FV N x.1 x.2)) v21 a21) ⟨(fun _ _ _ hh => hh), (fun _ _ _ hh => QR Xb (fun ar t ht => by obtain ⟨x, r, rfl, hq, rfl⟩ := IX ht; exact Kp N x.1 x.2 r hq) hh), trivial⟩) (.p rfl) Zp rfl ⟨rfl, rfl, trivial⟩ rfl rfl (by decide) ⟨rfl, trivial⟩ rfl (AX rfl) trivial ⟨(fun h => by cases h), trivial⟩ rfl rfl rfl ?_
    refine Ae (Ab (Aa Ac rfl (qm rfl (qa rfl (qa rfl (Ae ?_))))))
    obtain rfl := sj h
    refine Am (sm [(1000, 2010)] [(2, .e (.one (.own 1000))), (3, .e (.one (.pure (.val (.int .i64 0)))))] [(1000, .vec 3 (v21.map Aj))] rfl rfl) (Az ?_)
    exact ⟨⟨[_, _], ⟨.tmp _ _ rfl, ⟨.tmp _ _ rfl, trivial⟩⟩, rfl⟩, ⟨rfl, trivial⟩⟩
set_option maxRecDepth 10000 in
theorem KQ (N : Nat) (p0 : List Int) (p1 : List Int) (r : Bool) (h : GF N p0 p1 = some r) : AB Tryz.prog 87 [.e (.one (.pure (.sl (p0.map Al)))), .e (.one (.pure (.sl (p1.map Al))))] [] (.e (.one (.pure (.val (.bool r))))) := by
 unfold GF at h
 refine As (n := 26) (rs := [.tmp 4]) Tryz.func87 rfl rfl rfl (A3 rfl) (A3 rfl) rfl fun w0 S0 => ?_
 refine Ab (Aa Ac rfl (qa rfl (Ae (Ab (Ab (Aa Ac rfl (qm rfl (AU AJ rfl (qm rfl (AU AJ rfl (Ct rfl (Ae ?_))))))))))))
 refine Ap rfl (fun c1 => ?_) (fun c1 => ?_)
 ·have h := Ao c1 h
  refine Ab (Aa Ac rfl (qa rfl (Ae ?_)))
  obtain rfl := sj h
  refine Am (sm [] [(4, .e (.one (.pure (.val (.bool false)))))] [] rfl rfl) (Az ?_)
  exact ⟨⟨[_], ⟨.tmp _ _ rfl, trivial⟩, rfl⟩, trivial⟩
 ·have h := An c1 h
  refine Aq (Ab (Ab (Aa Ac rfl (qm rfl (AU AJ rfl (qm rfl (Ae ?_)))))))
  refine AC (L := EW N p0 p1) h (fun v2 => mk [(0, .e (.one (.pure (.sl (p0.map Al))))), (1, .e (.one (.pure (.sl (p1.map Al))))), (12, .e (.one (.pure (.val (.int .i64 ((p0.length : Int))))))), (13, .e (.one (.pure (.val (.int .i64 v2)))))] []) (fun v3 => mk [] []) (fun _ _ => rfl) (sm [] _ _ rfl rfl) (fun j2 n2 v2 h => ?_) (fun v3 s h hs => ?_)
  ·unfold EW at h
   refine Ab (Aa Ac rfl (AT rfl (Ae (Ab ?_))))
   refine Ap rfl (fun c4 => ?_) (fun c4 => ?_)
   ·have h := Ao c4 h
    refine Aq (Ab (AH (Ab (Aa Ac rfl (qm rfl (qa rfl (Ae (Ab (Aa Ac rfl (qm rfl (qm rfl ?_)))))))))))
    obtain ⟨v5, a5, b5, h⟩ := Ai h
    refine qi AJ Ec a5 (Ah b5) rfl (qk CN rfl (qm rfl (qm rfl ?_)))
    obtain ⟨v6, a6, b6, h⟩ := Ai h
    refine qi AJ Ec a6 (Ah b6) rfl (qk CN rfl (Ct rfl (AA (by kernel_rfl) ?_)))
    refine Ap rfl (fun c7 => ?_) (fun c7 => ?_)
    ·have h := Ao c7 h
     refine Ab (Aa Ac rfl (qa rfl (Ae ?_)))
     obtain rfl := sj h
     refine Am (sm [] [(4, .e (.one (.pure (.val (.bool false)))))] [] rfl rfl) (Az ?_)
     exact ⟨⟨[_], ⟨.tmp _ _ rfl, trivial⟩, rfl⟩, trivial⟩
    ·have h := An c7 h
     refine Aq (Aa Ac rfl (AN rfl (qm rfl (Ae ?_))))
     exact Au _ h (sm [] _ _ rfl rfl)
   ·have h := An c4 h
    refine AP ?_
    exact Au _ h (sm [] _ _ rfl rfl)
  ·refine Am hs (Ab (Aa Ac rfl (qa rfl (Ae ?_))))
   obtain rfl := sj h
   refine Am (sm [] [(4, .e (.one (.pure (.val (.bool true)))))] [] rfl rfl) (Az ?_)
   exact ⟨⟨[_], ⟨.tmp _ _ rfl, trivial⟩, rfl⟩, trivial⟩
set_option maxRecDepth 10000 in
theorem J4 (N : Nat) (p0 : List Int) (p1 : Int → Option Bool) (r : Int) (h : FO N p0 p1 = some r) : AB Tryz.prog 119 [.e (.one (.pure (.sl (p0.map Al)))), .e (.one (.clo (Bc (NS false Al) tB p1)))] [] (.e (.one (.pure (.val (.int .i64 r))))) := by
 unfold FO at h
 refine As (n := 19) (rs := [.tmp 4]) Tryz.func119 rfl rfl rfl (A3 rfl) (A3 rfl) rfl fun w0 S0 => ?_
 refine Ab (Aa Ac rfl (qa rfl (Ae (Ab (Ab (Aa Ac rfl (qm rfl (AU AJ rfl (qm rfl (Ae ?_))))))))))
 refine AC (L := Ei N p0 p1) h (fun v1 => mk [(0, .e (.one (.pure (.sl (p0.map Al))))), (1, .e (.one (.clo (Bc (NS false Al) tB p1)))), (7, .e (.one (.pure (.val (.int .i64 ((p0.length : Int))))))), (8, .e (.one (.pure (.val (.int .i64 v1)))))] []) (fun v2 => mk [] []) (fun _ _ => rfl) (sm [] _ _ rfl rfl) (fun j1 n1 v1 h => ?_) (fun v2 s h hs => ?_)
 ·unfold Ei at h
  refine Ab (Aa Ac rfl (AT rfl (Ae (Ab ?_))))
  refine Ap rfl (fun c3 => ?_) (fun c3 => ?_)
  ·have h := Ao c3 h
   refine Aq (Ab (AH (Ab (Aa Ac rfl (qm rfl (qa rfl (Ae (Ab (Aa Ac rfl (qm rfl (qm rfl (qm rfl ?_))))))))))))
   obtain ⟨v4, a4, b4, h⟩ := Ai h
   refine qi AJ Ec a4 (Ah b4) rfl (qk CN rfl ?_)
   obtain ⟨v5, a5, h⟩ := bind_some h
   refine C9 (ds0 := [_]) (ar := (NS false Al) v4) (.p rfl) rfl rfl ⟨rfl, trivial⟩ rfl rfl rfl (C2 (My _ _ RT) a5) ?_
   refine Ae ?_
   refine Ap rfl (fun c6 => ?_) (fun c6 => ?_)
   ·have h := Ao c6 h
    refine Ab (Aa Ac rfl (qm rfl (qa rfl (Ae ?_))))
    obtain rfl := sj h
    refine Am (sm [] [(4, .e (.one (.pure (.val (.int .i64 v1)))))] [] rfl rfl) (Az ?_)
    exact ⟨⟨[_], ⟨.tmp _ _ rfl, trivial⟩, rfl⟩, trivial⟩
   ·have h := An c6 h
    refine Aq (Aa Ac rfl (AN rfl (qm rfl (Ae ?_))))
    exact Au _ h (sm [] _ _ rfl rfl)
  ·have h := An c3 h
   refine AP ?_
   exact Au _ h (sm [] _ _ rfl rfl)
 ·refine Am hs (Ab (Aa Ac rfl (qa rfl (Ae ?_))))
  obtain rfl := sj h
  refine Am (sm [] [(4, .e (.one (.pure (.val (.int .i64 ((-1)))))))] [] rfl rfl) (Az ?_)
  exact ⟨⟨[_], ⟨.tmp _ _ rfl, trivial⟩, rfl⟩, trivial⟩
set_option maxRecDepth 10000 in
theorem Jh (N : Nat) (p0 : List Int) (p1 : Int → Option Bool) (r : Bool) (h : Fi N p0 p1 = some r) : AB Tryz.prog 88 [.e (.one (.pure (.sl (p0.map Al)))), .e (.one (.clo (Bc (NS false Al) tB p1)))] [] (.e (.one (.pure (.val (.bool r))))) := by
 unfold Fi at h
 refine As (n := 9) (rs := [.tmp 4]) Tryz.func88 rfl rfl rfl (A3 rfl) (A3 rfl) rfl fun w0 S0 => ?_
 refine Ab (Aa Ac rfl (qa rfl (Ae (Ab (Aa Ac rfl (qm rfl (qm rfl ?_)))))))
 obtain ⟨v1, a1, h⟩ := bind_some h
 refine AG [] (J4 N p0 p1 v1 a1) XE rfl (Db rfl (qa rfl (Ae ?_)))
 obtain rfl := sj h
 refine Am (sm [] [(4, .e (.one (.pure (.val (.bool ((decide (0 ≤ v1))))))))] [] rfl rfl) (Az ?_)
 exact ⟨⟨[_], ⟨.tmp _ _ rfl, trivial⟩, rfl⟩, trivial⟩
set_option maxRecDepth 10000 in
theorem Qw (N : Nat) (p0 : Int) (r : Bool) (h : I4 N p0 = some r) : AB Tryz.prog 89 [.e (.one (.pure (.val (.int .i64 p0))))] [] (.e (.one (.pure (.val (.bool r))))) := by
 unfold I4 at h
 refine As (n := 5) (rs := [.tmp 2]) Tryz.func89 rfl rfl rfl (A3 rfl) (A3 rfl) rfl fun w0 S0 => ?_
 refine Ab (Aa Ac rfl (qa rfl (Ae (Ab (Aa Ac rfl (qm rfl (Db rfl (qa rfl (Ae ?_)))))))))
 obtain rfl := sj h
 refine Am (sm [] [(2, .e (.one (.pure (.val (.bool ((decide (0 ≤ p0))))))))] [] rfl rfl) (Az ?_)
 exact ⟨⟨[_], ⟨.tmp _ _ rfl, trivial⟩, rfl⟩, trivial⟩
set_option maxRecDepth 10000 in
theorem OH (N : Nat) (p0 : Ak) (p1 : Ag) (r : Bool) (h : Kf N p0 p1 = some r) : AB Tryz.prog 42 [.e (.agg [.pure (.sl (p0.fVersions.map Al)), .pure (.sl (p0.fNow.map Al)), .pure (.sl (p0.fTarget.map Al)), .pure (.sl (p0.fTables.map Ar))]), .e (.agg [.pure (.sl (p1.fBase.map Al)), .pure (.sl (p1.fNext.map Al)), .pure (.sl (p1.fHeld.map Bg))])] [] (.e (.one (.pure (.val (.bool r))))) := by
 unfold Kf at h
 refine As (n := 22) (rs := [.tmp 4]) Tryz.func42 rfl rfl rfl (A3 rfl) (A3 rfl) rfl fun w0 S0 => ?_
 refine Ab (Aa Ac rfl (qb rfl (qb rfl (qa rfl (Ae ?_)))))
 refine AM h (fun v1 => mk [(4, .e (.one (.pure (.val (.bool v1)))))] []) (fun j1 h => ?_) (fun v1 h => ?_)
 ·refine Aa Ac rfl (qL EH Ep rfl (qL A4 Ay rfl ?_))
  obtain ⟨v2, a2, h⟩ := bind_some h
  refine AG [] (Ja N p0 p1 v2 a2) TQ rfl (BX rfl (qm rfl ?_))
  refine AD (t := 9) rfl (fun c3 => ?_) (fun c3 => ?_)
  ·have h := Ao c3 h
   refine qf Dx rfl (ql Bo rfl (qf JF rfl (ql Bo rfl ?_)))
   obtain ⟨v4, a4, h⟩ := bind_some h
   refine AG [] (KQ N p1.fBase p0.fTarget v4 a4) Zo rfl (qp rfl (qm rfl ?_))
   refine AD (t := 16) rfl (fun c5 => ?_) (fun c5 => ?_)
   ·have h := Ao c5 h
    refine qf BK rfl (ql Bo rfl ?_)
    obtain ⟨v6, a6, h⟩ := bind_some h
    refine AG [] (AB.weak (ds' := [.e (.one (.pure (.sl (p1.fNext.map Al)))), .e (.one (.fnc 89))]) (Jh N p1.fNext ((fun (x : Int) => I4 N x)) v6 a6) ⟨(fun _ _ _ hh => hh), (fun _ _ _ hh => Qb Zn (fun ar t ht => by obtain ⟨x, r, rfl, hq, rfl⟩ := IX ht; exact Qw N x r hq) hh), trivial⟩) ZB rfl ?_
    refine Cb rfl (qp rfl (qa rfl (Ae ?_)))
    exact Au _ h (sm [] _ _ rfl rfl)
   ·have h := An c5 h
    refine qn rfl (qn rfl (qn rfl (qn rfl (qp rfl (qa rfl (Ae ?_))))))
    exact Au _ h (sm [] _ _ rfl rfl)
  ·have h := An c3 h
   refine qn rfl (qn rfl (qn rfl (qn rfl (qn rfl (qp rfl (qm rfl (qn rfl (qn rfl (qn rfl (qn rfl (qp rfl (qa rfl (Ae ?_)))))))))))))
   exact Au _ h (sm [] _ _ rfl rfl)
 ·obtain rfl := sj h
  refine Am (sm [] [(4, .e (.one (.pure (.val (.bool v1)))))] [] rfl rfl) (Az ?_)
  exact ⟨⟨[_], ⟨.tmp _ _ rfl, trivial⟩, rfl⟩, trivial⟩
set_option maxRecDepth 10000 in
theorem Nc (N : Nat) (p0 : Ag) (p1 : List Int) (p2 : List Int) (p3 : List Int) (p4 : List AO) (r : Bool) (h : Ge N p0 p1 p2 p3 p4 = some r) : AB Tryz.prog 41 [.e (.agg [.pure (.sl (p0.fBase.map Al)), .pure (.sl (p0.fNext.map Al)), .pure (.sl (p0.fHeld.map Bg))]), .e (.one (.rop [.sl (p1.map Al), .sl (p2.map Al), .sl (p3.map Al), .sl (p4.map Ar)]))] [] (.e (.one (.pure (.val (.bool r))))) := by
 unfold Ge at h
 refine As (n := 7) (rs := [.tmp 3]) Tryz.func41 rfl rfl rfl (A3 rfl) (A3 rfl) rfl fun w0 S0 => ?_
 refine Ab (Aa Ac rfl (qb rfl (qa rfl (Ae (Ab (Aa Ac rfl (qK EH Ep rfl (qL A4 Ay rfl ?_))))))))
 obtain ⟨v1, a1, h⟩ := bind_some h
 refine AG [] (OH N ((Ak.mk p1 p2 p3 p4)) p0 v1 a1) YL rfl (qa rfl (Ae ?_))
 obtain rfl := sj h
 refine Am (sm [] [(3, .e (.one (.pure (.val (.bool v1)))))] [] rfl rfl) (Az ?_)
 exact ⟨⟨[_], ⟨.tmp _ _ rfl, trivial⟩, rfl⟩, trivial⟩
set_option maxRecDepth 10000 in
theorem Id (N : Nat) (p0 : List Ag) (p1 : Ag → Option Bool) (r : Int) (h : EC N p0 p1 = some r) : AB Tryz.prog 75 [.e (.one (.pure (.sl (p0.map Aj)))), .e (.one (.clo (Bc (NS true Aj) tB p1)))] [] (.e (.one (.pure (.val (.int .i64 r))))) := by
 unfold EC at h
 refine As (n := 19) (rs := [.tmp 4]) Tryz.func75 rfl rfl rfl (A3 rfl) (A3 rfl) rfl fun w0 S0 => ?_
 refine Ab (Aa Ac rfl (qa rfl (Ae (Ab (Ab (Aa Ac rfl (qm rfl (AU AZ rfl (qm rfl (Ae ?_))))))))))
 refine AC (L := C0 N p0 p1) h (fun v1 => mk [(0, .e (.one (.pure (.sl (p0.map Aj))))), (1, .e (.one (.clo (Bc (NS true Aj) tB p1)))), (7, .e (.one (.pure (.val (.int .i64 ((p0.length : Int))))))), (8, .e (.one (.pure (.val (.int .i64 v1)))))] []) (fun v2 => mk [] []) (fun _ _ => rfl) (sm [] _ _ rfl rfl) (fun j1 n1 v1 h => ?_) (fun v2 s h hs => ?_)
 ·unfold C0 at h
  refine Ab (Aa Ac rfl (AT rfl (Ae (Ab ?_))))
  refine Ap rfl (fun c3 => ?_) (fun c3 => ?_)
  ·have h := Ao c3 h
   refine Aq (Ab (AH (Ab (Aa Ac rfl (qm rfl (qa rfl (Ae (Ab (Aa Ac rfl (qm rfl (qm rfl (qm rfl ?_))))))))))))
   obtain ⟨v4, a4, b4, h⟩ := Ai h
   refine qi AZ Ay a4 (Ah b4) rfl (qK A4 Ay rfl ?_)
   obtain ⟨v5, a5, h⟩ := bind_some h
   refine C9 (ds0 := [_]) (ar := (NS true Aj) v4) (.p rfl) rfl rfl ⟨rfl, trivial⟩ rfl rfl rfl (C2 (My _ _ BI) a5) ?_
   refine Ae ?_
   refine Ap rfl (fun c6 => ?_) (fun c6 => ?_)
   ·have h := Ao c6 h
    refine Ab (Aa Ac rfl (qm rfl (qa rfl (Ae ?_))))
    obtain rfl := sj h
    refine Am (sm [] [(4, .e (.one (.pure (.val (.int .i64 v1)))))] [] rfl rfl) (Az ?_)
    exact ⟨⟨[_], ⟨.tmp _ _ rfl, trivial⟩, rfl⟩, trivial⟩
   ·have h := An c6 h
    refine Aq (Aa Ac rfl (AN rfl (qm rfl (Ae ?_))))
    exact Au _ h (sm [] _ _ rfl rfl)
  ·have h := An c3 h
   refine AP ?_
   exact Au _ h (sm [] _ _ rfl rfl)
 ·refine Am hs (Ab (Aa Ac rfl (qa rfl (Ae ?_))))
  obtain rfl := sj h
  refine Am (sm [] [(4, .e (.one (.pure (.val (.int .i64 ((-1)))))))] [] rfl rfl) (Az ?_)
  exact ⟨⟨[_], ⟨.tmp _ _ rfl, trivial⟩, rfl⟩, trivial⟩
set_option maxRecDepth 10000 in
theorem Hy (N : Nat) (p0 : List Ag) (p1 : Ag → Option Bool) (r : Bool) (h : Ea N p0 p1 = some r) : AB Tryz.prog 30 [.e (.one (.pure (.sl (p0.map Aj)))), .e (.one (.clo (Bc (NS true Aj) tB p1)))] [] (.e (.one (.pure (.val (.bool r))))) := by
 unfold Ea at h
 refine As (n := 9) (rs := [.tmp 4]) Tryz.func30 rfl rfl rfl (A3 rfl) (A3 rfl) rfl fun w0 S0 => ?_
 refine Ab (Aa Ac rfl (qa rfl (Ae (Ab (Aa Ac rfl (qm rfl (qm rfl ?_)))))))
 obtain ⟨v1, a1, h⟩ := bind_some h
 refine AG [] (Id N p0 p1 v1 a1) Zh rfl (Db rfl (qa rfl (Ae ?_)))
 obtain rfl := sj h
 refine Am (sm [] [(4, .e (.one (.pure (.val (.bool ((decide (0 ≤ v1))))))))] [] rfl rfl) (Az ?_)
 exact ⟨⟨[_], ⟨.tmp _ _ rfl, trivial⟩, rfl⟩, trivial⟩
set_option maxRecDepth 10000 in
theorem OC (N : Nat) (p0 : Ak) (r : (List Ag) × Int) (h : Jj N p0 = some r) : AB Tryz.prog 12 [.e (.agg [.pure (.sl (p0.fVersions.map Al)), .pure (.sl (p0.fNow.map Al)), .pure (.sl (p0.fTarget.map Al)), .pure (.sl (p0.fTables.map Ar))])] [(3, r.1.map Aj)] (.tup [.one (.own 0), .one (.pure (.val (.int .i64 r.2)))]) := by
 unfold Jj at h
 refine As (n := 18) (rs := [.tmp 2, .tmp 3]) Tryz.func12 rfl rfl rfl (A3 rfl) (A3 rfl) rfl fun w0 S0 => ?_
 refine Ab (Aa Ac rfl (qb rfl (qa rfl (qa rfl (Ae (Ab (Aa Ac rfl (qL EH Ep rfl ?_))))))))
 obtain ⟨v1, a1, h⟩ := bind_some h
 refine AG [2001] (OS N p0 v1 a1) Y0 rfl (qm rfl (qx rfl (qx rfl (qa rfl (qa rfl (Ae (Ab (Ab (Aa Ac rfl (qm rfl (Ct rfl (Ae ?_))))))))))))
 refine Ap rfl (fun c2 => ?_) (fun c2 => ?_)
 ·have h := Ao c2 h
  refine Ab (Aa Ac rfl (qm rfl (qa rfl (qa rfl (Ae ?_)))))
  obtain rfl := sj h
  refine Am ((Br 2 2002 3 rfl rfl rfl).trans (sm [(1000, 2002)] [(2, .e (.one (.own 1000))), (3, .e (.one (.pure (.val (.int .i64 v1.2)))))] [(1000, .vec 3 ((([] : List Ag)).map Aj))] rfl rfl)) (Az ?_)
  exact ⟨⟨[_, _], ⟨.tmp _ _ rfl, ⟨.tmp _ _ rfl, trivial⟩⟩, rfl⟩, ⟨rfl, trivial⟩⟩
 ·have h := An c2 h
  refine Aq (Ab (Ab (Aa Ac rfl (qm rfl (Ev (MO 1 [.sl (p0.fVersions.map Al), .sl (p0.fNow.map Al), .sl (p0.fTarget.map Al), .sl (p0.fTables.map Ar)] rfl rfl) ?_)))))
  refine Mn (capD := [_]) (Bc (NS true Aj) tB ((fun (x : Ag) => Ge N x p0.fVersions p0.fNow p0.fTarget p0.fTables))) (.p rfl) Y1 rfl ⟨rfl, trivial⟩ rfl (fun ar t ht => by obtain ⟨x, r, rfl, hq, rfl⟩ := IX ht; exact Nc N x p0.fVersions p0.fNow p0.fTarget p0.fTables r hq) ?_
  obtain ⟨v3, a3, h⟩ := bind_some h
  refine Et [] [2001] (Hy N v1.1 ((fun (x : Ag) => Ge N x p0.fVersions p0.fNow p0.fTarget p0.fTables)) v3 a3) ZE CQ rfl (Ae ?_)
  refine Ap rfl (fun c4 => ?_) (fun c4 => ?_)
  ·have h := Ao c4 h
   refine Ab (Aa Ac rfl (qa rfl (qa rfl (Ae ?_))))
   obtain rfl := sj h
   refine Am ((Br 2 2003 3 rfl rfl rfl).trans (sm [(1000, 2003)] [(2, .e (.one (.own 1000))), (3, .e (.one (.pure (.val (.int .i64 15)))))] [(1000, .vec 3 ((([] : List Ag)).map Aj))] rfl rfl)) (Az ?_)
   exact ⟨⟨[_, _], ⟨.tmp _ _ rfl, ⟨.tmp _ _ rfl, trivial⟩⟩, rfl⟩, ⟨rfl, trivial⟩⟩
  ·have h := An c4 h
   refine Aq (Ab (Aa Ac rfl (qm rfl (qa rfl (qa rfl (Ae ?_))))))
   obtain rfl := sj h
   refine Am (sm [(1000, 2001)] [(2, .e (.one (.own 1000))), (3, .e (.one (.pure (.val (.int .i64 0)))))] [(1000, .vec 3 (v1.1.map Aj))] rfl rfl) (Az ?_)
   exact ⟨⟨[_, _], ⟨.tmp _ _ rfl, ⟨.tmp _ _ rfl, trivial⟩⟩, rfl⟩, ⟨rfl, trivial⟩⟩
set_option maxRecDepth 10000 in
theorem KJ (N : Nat) (p0 : Ak) (p1 : Ag) (r : (List A7) × Int) (h : FA N p0 p1 = some r) : AB Tryz.prog 18 [.e (.agg [.pure (.sl (p0.fVersions.map Al)), .pure (.sl (p0.fNow.map Al)), .pure (.sl (p0.fTarget.map Al)), .pure (.sl (p0.fTables.map Ar))]), .e (.agg [.pure (.sl (p1.fBase.map Al)), .pure (.sl (p1.fNext.map Al)), .pure (.sl (p1.fHeld.map Bg))])] [(9, r.1.map BA)] (.tup [.one (.own 0), .one (.pure (.val (.int .i64 r.2)))]) := by
 unfold FA at h
 refine As (n := 56) (rs := [.tmp 4, .tmp 5]) Tryz.func18 rfl rfl rfl (A3 rfl) (A3 rfl) rfl fun w0 S0 => ?_
 refine Ab (Aa Ac rfl (qb rfl (qb rfl (qa rfl (qa rfl (Ae (Ab (Aa Ac rfl (qL EH Ep rfl (qL A4 Ay rfl ?_))))))))))
 obtain ⟨v1, a1, h⟩ := bind_some h
 refine AG [2001] (J8 N p0 p1 v1 a1) W0 rfl (qm rfl (qx rfl (qx rfl (qa rfl (qa rfl (Ae (Ab (Ab (Aa Ac rfl (qm rfl (Ct rfl (Ae ?_))))))))))))
 refine Ap rfl (fun c2 => ?_) (fun c2 => ?_)
 ·have h := Ao c2 h
  refine Ab (Aa Ac rfl (qm rfl (qa rfl (qa rfl (Ae ?_)))))
  obtain rfl := sj h
  refine Am ((Br 4 2002 9 rfl rfl rfl).trans (sm [(1000, 2002)] [(4, .e (.one (.own 1000))), (5, .e (.one (.pure (.val (.int .i64 v1.2)))))] [(1000, .vec 9 ((([] : List A7)).map BA))] rfl rfl)) (Az ?_)
  exact ⟨⟨[_, _], ⟨.tmp _ _ rfl, ⟨.tmp _ _ rfl, trivial⟩⟩, rfl⟩, ⟨rfl, trivial⟩⟩
 ·have h := An c2 h
  refine Aq (Ab (Aa Ac rfl (qa rfl (Ae (Ab (Ab (Aa Ac rfl (qm rfl (FL FR rfl (qm rfl (Ae ?_)))))))))))
  refine AC (L := DG N p0 p1 v1) h (fun v3 => mk [(2, .e (.one (.ptr 2 0))), (3, .e (.one (.ptr 3 0))), (8, .e (.one (.own 2003))), (25, .e (.one (.own 2004))), (26, .e (.one (.pure (.val (.int .i64 ((v1.1.length : Int))))))), (27, .e (.one (.pure (.val (.int .i64 v3.2)))))] [(2, .box [.pure (.sl (p0.fVersions.map Al)), .pure (.sl (p0.fNow.map Al)), .pure (.sl (p0.fTarget.map Al)), .pure (.sl (p0.fTables.map Ar))]), (3, .box [.pure (.sl (p1.fBase.map Al)), .pure (.sl (p1.fNext.map Al)), .pure (.sl (p1.fHeld.map Bg))]), (2003, .vec 9 (v3.1.map BA)), (2004, .vec 3 (v1.1.map A0))]) (fun v4 => mk [(8, .e (.one (.own 2005)))] [(2005, .vec 9 (v4.map BA))]) (fun _ _ => rfl) ((Br 8 2011 9 rfl rfl rfl).trans (sm [(2003, 2011), (2004, 2001)] _ _ rfl rfl)) (fun j3 n3 v3 h => ?_) (fun v4 s h hs => ?_)
  ·unfold DG at h
   refine Ab (Aa Ac rfl (AT rfl (Ae (Ab ?_))))
   refine Ap rfl (fun c5 => ?_) (fun c5 => ?_)
   ·have h := Ao c5 h
    refine Aq ?_
    refine AM h (fun v6 => mk [(2, .e (.one (.ptr 2 0))), (3, .e (.one (.ptr 3 0))), (8, .e (.one (.own 2006))), (25, .e (.one (.own 2007))), (26, .e (.one (.pure (.val (.int .i64 ((v1.1.length : Int))))))), (27, .e (.one (.pure (.val (.int .i64 v3.2)))))] [(2, .box [.pure (.sl (p0.fVersions.map Al)), .pure (.sl (p0.fNow.map Al)), .pure (.sl (p0.fTarget.map Al)), .pure (.sl (p0.fTables.map Ar))]), (3, .box [.pure (.sl (p1.fBase.map Al)), .pure (.sl (p1.fNext.map Al)), .pure (.sl (p1.fHeld.map Bg))]), (2006, .vec 9 (v6.map BA)), (2007, .vec 3 (v1.1.map A0))]) (fun j6 h => ?_) (fun v6 h => ?_)
    ·refine AH (Ab (Aa Ac rfl ?_))
     obtain ⟨v7, a7, b7, h⟩ := Ai h
     refine qI FR Ft a7 (Ah b7) rfl (qJ I2 Ft (Ah b7) rfl (qz Kx rfl (qs Ft rfl (Ae (Ab (Aa Ac rfl (qL EH Ep rfl (qL A4 Ay rfl (qL I2 Ft rfl ?_)))))))))
     obtain ⟨v8, a8, h⟩ := bind_some h
     refine AG [2008, 2009, 2010] (K1 N p0 p1 v7 v8 a8) W6 rfl (qm rfl (qx rfl (qx rfl (qz Dc rfl (qs Ay rfl (qa rfl (Ae (Ab (Aa Ac rfl (qL EH Ep rfl (qL A4 Ay rfl (Ev (Bm 2008 _ _ rfl rfl) (Ev (Bm 2009 _ _ rfl rfl) (Ev (Bm 2010 _ _ rfl rfl) ?_))))))))))))))
     obtain ⟨v9, a9, h⟩ := bind_some h
     refine AG [] (NO N p0 v8.1 v9 a9) X7 rfl (qm rfl (qx rfl (qx rfl (qx rfl (qz Dc rfl (qz IV rfl (qs Ay rfl (qs AS rfl (qa rfl (Ae (Ab (Aa Ac rfl (qm rfl (BX rfl (Ae ?_)))))))))))))))
     refine Ap rfl (fun c10 => ?_) (fun c10 => ?_)
     ·have h := Ao c10 h
      refine Aa Ac rfl (qm rfl (qL I2 Ft rfl (qL A4 Ay rfl (qL Dz AS rfl (Bq Qp Yg rfl (EU Hd Lp Qp rfl ?_))))))
      obtain ⟨c11, h⟩ := AQ h
      refine El (f := BA) Hd Hd Lp SQ Qp c11 rfl (qa rfl (Ae ?_))
      exact Au _ h (sm [(2006, 53), (2007, 2004)] _ _ rfl rfl)
     ·have h := An c10 h
      refine Aq ?_
      exact Au _ h (sm [(2006, 2003), (2007, 2004)] _ _ rfl rfl)
    ·refine Aa Ac rfl (AN rfl (qm rfl (Ae ?_)))
     exact Au _ h (sm [(2003, 2006), (2004, 2007)] _ _ rfl rfl)
   ·have h := An c5 h
    refine AP ?_
    exact Au _ h (sm [(2005, 2003)] _ _ rfl rfl)
  ·refine Am hs (Ab (Aa Ac rfl (qm rfl (qa rfl (qa rfl (Ae ?_))))))
   obtain rfl := sj h
   refine Am (sm [(1000, 2005)] [(4, .e (.one (.own 1000))), (5, .e (.one (.pure (.val (.int .i64 0)))))] [(1000, .vec 9 (v4.map BA))] rfl rfl) (Az ?_)
   exact ⟨⟨[_, _], ⟨.tmp _ _ rfl, ⟨.tmp _ _ rfl, trivial⟩⟩, rfl⟩, ⟨rfl, trivial⟩⟩
set_option maxRecDepth 10000 in
theorem K9 (N : Nat) (p0 : Ak) (p1 : List Ag) (r : (List A7) × Int) (h : HC N p0 p1 = some r) : AB Tryz.prog 21 [.e (.agg [.pure (.sl (p0.fVersions.map Al)), .pure (.sl (p0.fNow.map Al)), .pure (.sl (p0.fTarget.map Al)), .pure (.sl (p0.fTables.map Ar))]), .e (.one (.pure (.sl (p1.map Aj))))] [(9, r.1.map BA)] (.tup [.one (.own 0), .one (.pure (.val (.int .i64 r.2)))]) := by
 unfold HC at h
 refine As (n := 37) (rs := [.tmp 4, .tmp 5]) Tryz.func21 rfl rfl rfl (A3 rfl) (A3 rfl) rfl fun w0 S0 => ?_
 refine Ab (Aa Ac rfl (qb rfl (qa rfl (qa rfl (Ae (Ab (Ab (Aa Ac rfl (qL EH Ep rfl ?_)))))))))
 obtain ⟨v1, a1, h⟩ := bind_some h
 refine AG [] (Gd N p0 v1 a1) VH rfl (qa rfl (Ae (Ab (Aa Ac rfl (qm rfl (Ct rfl (Ae ?_)))))))
 refine Ap rfl (fun c2 => ?_) (fun c2 => ?_)
 ·have h := Ao c2 h
  refine Ab (Aa Ac rfl (qm rfl (qa rfl (qa rfl (Ae ?_)))))
  obtain rfl := sj h
  refine Am ((Br 4 2001 9 rfl rfl rfl).trans (sm [(1000, 2001)] [(4, .e (.one (.own 1000))), (5, .e (.one (.pure (.val (.int .i64 v1)))))] [(1000, .vec 9 ((([] : List A7)).map BA))] rfl rfl)) (Az ?_)
  exact ⟨⟨[_, _], ⟨.tmp _ _ rfl, ⟨.tmp _ _ rfl, trivial⟩⟩, rfl⟩, ⟨rfl, trivial⟩⟩
 ·have h := An c2 h
  refine Aq (Ab (Aa Ac rfl (qa rfl (Ae (Ab (Ab (Aa Ac rfl (qm rfl (AU AZ rfl (qm rfl (Ae ?_)))))))))))
  refine AC (L := Gy N p0 p1) h (fun v3 => mk [(2, .e (.one (.ptr 2 0))), (7, .e (.one (.own 2002))), (17, .e (.one (.pure (.sl (p1.map Aj))))), (18, .e (.one (.pure (.val (.int .i64 ((p1.length : Int))))))), (19, .e (.one (.pure (.val (.int .i64 v3.2)))))] [(2, .box [.pure (.sl (p0.fVersions.map Al)), .pure (.sl (p0.fNow.map Al)), .pure (.sl (p0.fTarget.map Al)), .pure (.sl (p0.fTables.map Ar))]), (2002, .vec 9 (v3.1.map BA))]) (fun v4 => mk [(7, .e (.one (.own 2003)))] [(2003, .vec 9 (v4.map BA))]) (fun _ _ => rfl) ((Br 7 2006 9 rfl rfl rfl).trans (sm [(2002, 2006)] _ _ rfl rfl)) (fun j3 n3 v3 h => ?_) (fun v4 s h hs => ?_)
  ·unfold Gy at h
   refine Ab (Aa Ac rfl (AT rfl (Ae (Ab ?_))))
   refine Ap rfl (fun c5 => ?_) (fun c5 => ?_)
   ·have h := Ao c5 h
    refine Aq (Ab (AH (Ab (Aa Ac rfl ?_))))
    obtain ⟨v6, a6, b6, h⟩ := Ai h
    refine qi AZ Ay a6 (Ah b6) rfl (qK A4 Ay rfl (qz Dc rfl (qs Ay rfl (Ae (Ab (Aa Ac rfl (qL EH Ep rfl (qL A4 Ay rfl ?_))))))))
    obtain ⟨v7, a7, h⟩ := bind_some h
    refine AG [2004] (KJ N p0 v6 v7 a7) XR rfl (qm rfl (qx rfl (qx rfl (qa rfl (qa rfl (Ae (Ab (Ab (Aa Ac rfl (qm rfl (Ct rfl (Ae ?_))))))))))))
    refine Ap rfl (fun c8 => ?_) (fun c8 => ?_)
    ·have h := Ao c8 h
     refine Ab (Aa Ac rfl (qm rfl (qa rfl (qa rfl (Ae ?_)))))
     obtain rfl := sj h
     refine Am ((Br 4 2005 9 rfl rfl rfl).trans (sm [(1000, 2005)] [(4, .e (.one (.own 1000))), (5, .e (.one (.pure (.val (.int .i64 v7.2)))))] [(1000, .vec 9 ((([] : List A7)).map BA))] rfl rfl)) (Az ?_)
     exact ⟨⟨[_, _], ⟨.tmp _ _ rfl, ⟨.tmp _ _ rfl, trivial⟩⟩, rfl⟩, ⟨rfl, trivial⟩⟩
    ·have h := An c8 h
     refine Aq (Aa Ac rfl (qm rfl (qm rfl ?_)))
     obtain ⟨c9, h⟩ := AQ h
     refine El (f := BA) Hd Hd Lp SQ Qp c9 rfl (qa rfl (Ae (Aa Ac rfl (AN rfl (qm rfl (Ae ?_))))))
     exact Au _ h (sm [(2002, 34)] _ _ rfl rfl)
   ·have h := An c5 h
    refine AP ?_
    exact Au _ h (sm [(2003, 2002)] _ _ rfl rfl)
  ·refine Am hs (Ab (Aa Ac rfl (qm rfl (qa rfl (qa rfl (Ae ?_))))))
   obtain rfl := sj h
   refine Am (sm [(1000, 2003)] [(4, .e (.one (.own 1000))), (5, .e (.one (.pure (.val (.int .i64 0)))))] [(1000, .vec 9 (v4.map BA))] rfl rfl) (Az ?_)
   exact ⟨⟨[_, _], ⟨.tmp _ _ rfl, ⟨.tmp _ _ rfl, trivial⟩⟩, rfl⟩, ⟨rfl, trivial⟩⟩
set_option maxRecDepth 10000 in
theorem GU (N : Nat) (p0 : List Af) (p1 : Int) (p2 : Int) (p3 : (Af × Af) → Option Int) (r : (List Af)) (h : DC N p0 p1 p2 p3 = some r) : Bi Tryz.prog 132 [.e (.one (.own 90000)), .e (.one (.pure (.val (.int .i64 p1)))), .e (.one (.pure (.val (.int .i64 p2)))), .e (.one (.clo (Bc (CL true Ad true Ad) Bh p3)))] [(.vec 3 (p0.map Ad), .vec 3 (r.map Ad))] [] (.tup []) := by
 unfold DC at h
 refine A9 (n := 53) (rs := []) Tryz.func132 rfl rfl rfl (A3 rfl) (A3 rfl) rfl rfl (A3 rfl) rfl (A3 rfl) fun w0 S0 GL => Kc ?_
 refine Am (sm [] [(0, .e (.one (.own 90000))), (1, .e (.one (.pure (.val (.int .i64 p1))))), (2, .e (.one (.pure (.val (.int .i64 p2))))), (3, .e (.one (.clo (Bc (CL true Ad true Ad) Bh p3))))] [(90000, .vec 3 (p0.map Ad))] rfl rfl) (Ab (Aa Ac rfl (qm rfl (AN rfl (qa rfl (Ae ?_))))))
 refine AC (L := B6 N p1 p2 p3) h (fun v1 => mk [(0, .e (.one (.own 90000))), (1, .e (.one (.pure (.val (.int .i64 p1))))), (2, .e (.one (.pure (.val (.int .i64 p2))))), (3, .e (.one (.clo (Bc (CL true Ad true Ad) Bh p3)))), (8, .e (.one (.pure (.val (.int .i64 v1.2)))))] [(90000, .vec 3 (v1.1.map Ad))]) (fun v2 => mk [] [(90000, .vec 3 (v2.map Ad))]) (fun _ _ => rfl) (sm [] _ _ rfl rfl) (fun j1 n1 v1 h => ?_) (fun v2 s h hs => ?_)
 ·unfold B6 at h
  refine Ab (Ab (Aa Ac rfl (qm rfl (qm rfl (AT rfl (Ae ?_))))))
  refine Ap rfl (fun c3 => ?_) (fun c3 => ?_)
  ·have h := Ao c3 h
   refine Aq (Ab (AH (Ab (Aa Ac rfl (qm rfl (qa rfl (Ae ?_)))))))
   refine AC (L := B8 N p1 p3) h (fun v4 => mk [(0, .e (.one (.own 90000))), (1, .e (.one (.pure (.val (.int .i64 p1))))), (2, .e (.one (.pure (.val (.int .i64 p2))))), (3, .e (.one (.clo (Bc (CL true Ad true Ad) Bh p3)))), (8, .e (.one (.pure (.val (.int .i64 v1.2))))), (9, .e (.one (.pure (.val (.int .i64 v4.2)))))] [(90000, .vec 3 (v4.1.map Ad))]) (fun v5 => mk [(0, .e (.one (.own 90000))), (1, .e (.one (.pure (.val (.int .i64 p1))))), (2, .e (.one (.pure (.val (.int .i64 p2))))), (3, .e (.one (.clo (Bc (CL true Ad true Ad) Bh p3)))), (8, .e (.one (.pure (.val (.int .i64 v1.2)))))] [(90000, .vec 3 (v5.map Ad))]) (fun _ _ => rfl) (sm [] _ _ rfl rfl) (fun j4 n4 v4 h => ?_) (fun v5 s h hs => ?_)
   ·unfold B8 at h
    refine Ab ?_
    refine AM h (fun v6 => mk [(0, .e (.one (.own 90000))), (1, .e (.one (.pure (.val (.int .i64 p1))))), (2, .e (.one (.pure (.val (.int .i64 p2))))), (3, .e (.one (.clo (Bc (CL true Ad true Ad) Bh p3)))), (8, .e (.one (.pure (.val (.int .i64 v1.2))))), (9, .e (.one (.pure (.val (.int .i64 v4.2))))), (34, .e (.one (.pure (.val (.bool v6)))))] [(90000, .vec 3 (v4.1.map Ad))]) (fun j6 h => ?_) (fun v6 h => ?_)
    ·refine Aa Ac rfl (qm rfl (qm rfl (Fv rfl (qm rfl ?_))))
     refine AD (t := 21) rfl (fun c7 => ?_) (fun c7 => ?_)
     ·have h := Ao c7 h
      refine qm rfl (qm rfl (qm rfl ?_))
      obtain ⟨v8, a8, b8, h⟩ := Ai h
      refine qI Bb AS a8 (Ah b8) rfl (qJ Dz AS (Ah b8) rfl (qm rfl (qm rfl (Bj rfl ?_))))
      obtain ⟨v9, a9, b9, h⟩ := Ai h
      refine qI Bb AS a9 (Ah b9) rfl (qJ Dz AS (Ah b9) rfl ?_)
      obtain ⟨v10, a10, h⟩ := bind_some h
      refine C9 (ds0 := [_, _]) (ar := (CL true Ad true Ad) ((v8, v9))) (.g rfl rfl) rfl rfl ⟨rfl, rfl, trivial⟩ rfl rfl rfl (C2 (DQ _ _ _ _ Be Be) a10) ?_
      refine AT rfl (qp rfl (AA (by kernel_rfl) ?_))
      exact Au _ h (sm [] _ _ rfl rfl)
     ·have h := An c7 h
      refine qn rfl (qn rfl (qn rfl (qn rfl (qn rfl (qn rfl (qn rfl (qn rfl (qn rfl (qn rfl (qn rfl (qn rfl (qp rfl (AA (by kernel_rfl) ?_)))))))))))))
      exact Au _ h (sm [] _ _ rfl rfl)
    ·refine Ap rfl (fun c11 => ?_) (fun c11 => ?_)
     ·have h := Ao c11 h
      refine Aq (Ab (AH (Aa Ac rfl (qm rfl (qm rfl (qm rfl (qm rfl (Bj rfl (qm rfl (qm rfl (Bj rfl ?_)))))))))))
      obtain ⟨v12, a12, b12, h⟩ := Ai h
      refine qI Bb AS a12 (Ah b12) rfl (qJ Dz AS (Ah b12) rfl (qm rfl (qm rfl ?_)))
      obtain ⟨v13, a13, b13, h⟩ := Ai h
      refine qI Bb AS a13 (Ah b13) rfl (qJ Dz AS (Ah b13) rfl ?_)
      obtain ⟨v14, a14, b14, h⟩ := Ai h
      refine qI Bb AS a14 (Ah b14) rfl ?_
      refine AV rfl rfl rfl rfl (Ah b14) rfl AS rfl (A3 rfl) (AW Ad v4.1 _ v12) ?_
      obtain ⟨v15, a15, b15, h⟩ := Ai h
      refine qI Bb AS a15 (Ah b15) rfl ?_
      refine AV rfl rfl rfl rfl (Ah b15) rfl AS rfl (A3 rfl) (AW Ad (v4.1.set ((v4.2).toNat) v12) _ v13) ?_
      refine AA (by kernel_rfl) (Aa Ac rfl (qm rfl (Bj rfl (qa rfl (Ae ?_)))))
      exact Au _ h (sm [] _ _ rfl rfl)
     ·have h := An c11 h
      refine AP ?_
      exact Au _ h (sm [] _ _ rfl rfl)
   ·refine Am hs (Aa Ac rfl (qm rfl (AN rfl (qa rfl (Ae ?_)))))
    exact Au _ h (sm [] _ _ rfl rfl)
  ·have h := An c3 h
   refine AP ?_
   exact Au _ h (sm [] _ _ rfl rfl)
 ·obtain rfl := sj h
  refine ⟨_, hs.trans (sm [] [] [(90000, .vec 3 (v2.map Ad))] rfl rfl), ?_⟩
  exact ⟨⟨[], trivial, rfl⟩, ⟨rfl, trivial⟩, trivial⟩
set_option maxRecDepth 10000 in
theorem FB (N : Nat) (p0 : List Af) (p1 : Int) (p2 : Int) (p3 : Int) (p4 : (Af × Af) → Option Int) (r : (List Af)) (h : C6 N p0 p1 p2 p3 p4 = some r) : Bi Tryz.prog 161 [.e (.one (.own 90000)), .e (.one (.pure (.val (.int .i64 p1)))), .e (.one (.pure (.val (.int .i64 p2)))), .e (.one (.pure (.val (.int .i64 p3)))), .e (.one (.clo (Bc (CL true Ad true Ad) Bh p4)))] [(.vec 3 (p0.map Ad), .vec 3 (r.map Ad))] [] (.tup []) := by
 unfold C6 at h
 refine A9 (n := 82) (rs := []) Tryz.func161 rfl rfl rfl (A3 rfl) (A3 rfl) rfl rfl (A3 rfl) rfl (A3 rfl) fun w0 S0 GL => Kc ?_
 refine Am (sm [] [(0, .e (.one (.own 90000))), (1, .e (.one (.pure (.val (.int .i64 p1))))), (2, .e (.one (.pure (.val (.int .i64 p2))))), (3, .e (.one (.pure (.val (.int .i64 p3))))), (4, .e (.one (.clo (Bc (CL true Ad true Ad) Bh p4))))] [(90000, .vec 3 (p0.map Ad))] rfl rfl) (Ab (Aa Ac rfl (qm rfl (qa rfl (Ae ?_)))))
 refine AC (L := CE N p2 p3 p4) h (fun v1 => mk [(0, .e (.one (.own 90000))), (2, .e (.one (.pure (.val (.int .i64 p2))))), (3, .e (.one (.pure (.val (.int .i64 p3))))), (4, .e (.one (.clo (Bc (CL true Ad true Ad) Bh p4)))), (10, .e (.one (.pure (.val (.int .i64 v1.2)))))] [(90000, .vec 3 (v1.1.map Ad))]) (fun v2 => mk [] [(90000, .vec 3 (v2.map Ad))]) (fun _ _ => rfl) (sm [] _ _ rfl rfl) (fun j1 n1 v1 h => ?_) (fun v2 s h hs => ?_)
 ·unfold CE at h
  refine AH (Ab (Aa Ac rfl (qm rfl (In rfl (AN rfl (qa rfl (Ae (Ab (Ab (Aa Ac rfl (qm rfl (qm rfl (Db rfl (Ae ?_))))))))))))))
  refine Ap rfl (fun c3 => ?_) (fun c3 => ?_)
  ·have h := Ao c3 h
   refine AP ?_
   exact Au _ h (sm [] _ _ rfl rfl)
  ·have h := An c3 h
   refine Aq ?_
   refine AM h (fun v4 => mk [(0, .e (.one (.own 90000))), (2, .e (.one (.pure (.val (.int .i64 p2))))), (3, .e (.one (.pure (.val (.int .i64 p3))))), (4, .e (.one (.clo (Bc (CL true Ad true Ad) Bh p4)))), (10, .e (.one (.pure (.val (.int .i64 v1.2))))), (11, .e (.one (.pure (.val (.int .i64 v4)))))] [(90000, .vec 3 (v1.1.map Ad))]) (fun j4 h => ?_) (fun v4 h => ?_)
   ·refine AM h (fun v5 => mk [(0, .e (.one (.own 90000))), (2, .e (.one (.pure (.val (.int .i64 p2))))), (3, .e (.one (.pure (.val (.int .i64 p3))))), (4, .e (.one (.clo (Bc (CL true Ad true Ad) Bh p4)))), (10, .e (.one (.pure (.val (.int .i64 v1.2))))), (11, .e (.one (.pure (.val (.int .i64 ((IntKind.wrap .i64 ((IntKind.wrap .i64 (2 * v1.2)) + 1)))))))), (40, .e (.one (.pure (.val (.bool v5)))))] [(90000, .vec 3 (v1.1.map Ad))]) (fun j5 h => ?_) (fun v5 h => ?_)
    ·refine Aa Ac rfl (qm rfl (AN rfl (qm rfl (AT rfl (qm rfl ?_)))))
     refine AD (t := 23) rfl (fun c6 => ?_) (fun c6 => ?_)
     ·have h := Ao c6 h
      refine qm rfl (qm rfl (qm rfl (qm rfl (AN rfl ?_))))
      obtain ⟨v7, a7, b7, h⟩ := Ai h
      refine qI Bb AS a7 (Ah b7) rfl (qJ Dz AS (Ah b7) rfl (qm rfl (qm rfl (qm rfl (AN rfl (AN rfl ?_))))))
      obtain ⟨v8, a8, b8, h⟩ := Ai h
      refine qI Bb AS a8 (Ah b8) rfl (qJ Dz AS (Ah b8) rfl ?_)
      obtain ⟨v9, a9, h⟩ := bind_some h
      refine C9 (ds0 := [_, _]) (ar := (CL true Ad true Ad) ((v7, v8))) (.g rfl rfl) rfl rfl ⟨rfl, rfl, trivial⟩ rfl rfl rfl (C2 (DQ _ _ _ _ Be Be) a9) ?_
      refine AT rfl (qp rfl (AA (by kernel_rfl) ?_))
      exact Au _ h (sm [] _ _ rfl rfl)
     ·have h := An c6 h
      refine qn rfl (qn rfl (qn rfl (qn rfl (qn rfl (qn rfl (qn rfl (qn rfl (qn rfl (qn rfl (qn rfl (qn rfl (qn rfl (qn rfl (qn rfl (qn rfl (qp rfl (AA (by kernel_rfl) ?_)))))))))))))))))
      exact Au _ h (sm [] _ _ rfl rfl)
    ·refine Ap rfl (fun c10 => ?_) (fun c10 => ?_)
     ·have h := Ao c10 h
      refine Aa Ac rfl (qm rfl (AN rfl (qa rfl (Ae ?_))))
      exact Au _ h (sm [] _ _ rfl rfl)
     ·have h := An c10 h
      refine Aq ?_
      exact Au _ h (sm [] _ _ rfl rfl)
   ·refine Ab (Ab (Aa Ac rfl (qm rfl (qm rfl (qm rfl (qm rfl (AN rfl ?_)))))))
    obtain ⟨v11, a11, b11, h⟩ := Ai h
    refine qI Bb AS a11 (Ah b11) rfl (qJ Dz AS (Ah b11) rfl (qm rfl (qm rfl (qm rfl (AN rfl ?_)))))
    obtain ⟨v12, a12, b12, h⟩ := Ai h
    refine qI Bb AS a12 (Ah b12) rfl (qJ Dz AS (Ah b12) rfl ?_)
    obtain ⟨v13, a13, h⟩ := bind_some h
    refine C9 (ds0 := [_, _]) (ar := (CL true Ad true Ad) ((v11, v12))) (.p rfl) rfl rfl ⟨rfl, rfl, trivial⟩ rfl rfl rfl (C2 (DQ _ _ _ _ Be Be) a13) ?_
    refine AT rfl (Cb rfl (AA (by kernel_rfl) ?_))
    refine Ap rfl (fun c14 => ?_) (fun c14 => ?_)
    ·have h := Ao c14 h
     obtain rfl := sj h
     refine Az ⟨_, (sm [] [] [(90000, .vec 3 (v1.1.map Ad))] rfl rfl), ?_⟩
     exact ⟨⟨[], trivial, rfl⟩, ⟨rfl, trivial⟩, trivial⟩
    ·have h := An c14 h
     refine Aq (Ab (Aa Ac rfl (qm rfl (qm rfl (qm rfl (AN rfl (qm rfl (qm rfl (qm rfl (AN rfl (qm rfl (qm rfl (qm rfl (AN rfl ?_))))))))))))))
     obtain ⟨v15, a15, b15, h⟩ := Ai h
     refine qI Bb AS a15 (Ah b15) rfl (qJ Dz AS (Ah b15) rfl (qm rfl (qm rfl (qm rfl (AN rfl ?_)))))
     obtain ⟨v16, a16, b16, h⟩ := Ai h
     refine qI Bb AS a16 (Ah b16) rfl (qJ Dz AS (Ah b16) rfl ?_)
     obtain ⟨v17, a17, b17, h⟩ := Ai h
     refine qI Bb AS a17 (Ah b17) rfl ?_
     refine AV rfl rfl rfl rfl (Ah b17) rfl AS rfl (A3 rfl) (AW Ad v1.1 _ v15) ?_
     obtain ⟨v18, a18, b18, h⟩ := Ai h
     refine qI Bb AS a18 (Ah b18) rfl ?_
     refine AV rfl rfl rfl rfl (Ah b18) rfl AS rfl (A3 rfl) (AW Ad (v1.1.set (((IntKind.wrap .i64 (p3 + v1.2))).toNat) v15) _ v16) ?_
     refine AA (by kernel_rfl) (Aa Ac rfl (qm rfl (qa rfl (Ae ?_))))
     exact Au _ h (sm [] _ _ rfl rfl)
 ·obtain rfl := sj h
  refine ⟨_, hs.trans (sm [] [] [(90000, .vec 3 (v2.map Ad))] rfl rfl), ?_⟩
  exact ⟨⟨[], trivial, rfl⟩, ⟨rfl, trivial⟩, trivial⟩
set_option maxRecDepth 10000 in
theorem Hz (N : Nat) (p0 : List Af) (p1 : Int) (p2 : Int) (p3 : (Af × Af) → Option Int) (r : (List Af)) (h : D6 N p0 p1 p2 p3 = some r) : Bi Tryz.prog 133 [.e (.one (.own 90000)), .e (.one (.pure (.val (.int .i64 p1)))), .e (.one (.pure (.val (.int .i64 p2)))), .e (.one (.clo (Bc (CL true Ad true Ad) Bh p3)))] [(.vec 3 (p0.map Ad), .vec 3 (r.map Ad))] [] (.tup []) := by
 unfold D6 at h
 refine A9 (n := 60) (rs := []) Tryz.func133 rfl rfl rfl (A3 rfl) (A3 rfl) rfl rfl (A3 rfl) rfl (A3 rfl) fun w0 S0 GL => Kc ?_
 refine Am (sm [] [(0, .e (.one (.own 90000))), (1, .e (.one (.pure (.val (.int .i64 p1))))), (2, .e (.one (.pure (.val (.int .i64 p2))))), (3, .e (.one (.clo (Bc (CL true Ad true Ad) Bh p3))))] [(90000, .vec 3 (p0.map Ad))] rfl rfl) (Ab (Aa Ac rfl (qm rfl (qa rfl (Ae (Ab (Aa Ac rfl (qa rfl (Ae (Ab (Aa Ac rfl (qm rfl (qm rfl (Bj rfl (qa rfl (Ae (Ab (Ab (Aa Ac rfl (qm rfl (Bj rfl (Kn rfl (by decide) (qa rfl (Ae ?_))))))))))))))))))))))))
 refine AC (L := CG N p1 p2 p3) h (fun v1 => mk [(0, .e (.one (.own 90000))), (3, .e (.one (.clo (Bc (CL true Ad true Ad) Bh p3)))), (8, .e (.one (.pure (.val (.int .i64 p1))))), (9, .e (.one (.pure (.val (.int .i64 0))))), (10, .e (.one (.pure (.val (.int .i64 ((IntKind.wrap .i64 (p2 - p1)))))))), (11, .e (.one (.pure (.val (.int .i64 v1.2)))))] [(90000, .vec 3 (v1.1.map Ad))]) (fun v2 => mk [(0, .e (.one (.own 90000))), (3, .e (.one (.clo (Bc (CL true Ad true Ad) Bh p3)))), (8, .e (.one (.pure (.val (.int .i64 p1))))), (9, .e (.one (.pure (.val (.int .i64 0))))), (10, .e (.one (.pure (.val (.int .i64 ((IntKind.wrap .i64 (p2 - p1))))))))] [(90000, .vec 3 (v2.map Ad))]) (fun _ _ => rfl) (sm [] _ _ rfl rfl) (fun j1 n1 v1 h => ?_) (fun v2 s h hs => ?_)
 ·unfold CG at h
  refine Ab (Ab (Aa Ac rfl (qm rfl (Db rfl (Ae ?_)))))
  refine Ap rfl (fun c3 => ?_) (fun c3 => ?_)
  ·have h := Ao c3 h
   refine Aq (Ab (AH (Aa Ac rfl (qm rfl (qm rfl (qm rfl (qm rfl (qm rfl ?_))))))))
   obtain ⟨v4, a4, h⟩ := bind_some h
   refine BD (ds0 := [_, _, _, _, _]) [90000] [] [true] (FB N v1.1 v1.2 ((IntKind.wrap .i64 (p2 - p1))) p1 p3 v4 a4) (.p rfl) Wh rfl ⟨rfl, rfl, rfl, rfl, rfl, trivial⟩ rfl rfl (by decide) ⟨rfl, trivial⟩ rfl (AX rfl) trivial ⟨(fun h => by cases h), trivial⟩ rfl rfl rfl ?_
   refine Ae (Aa Ac rfl (qm rfl (Bj rfl (qa rfl (Ae ?_)))))
   exact Au _ h (sm [] _ _ rfl rfl)
  ·have h := An c3 h
   refine AP ?_
   exact Au _ h (sm [] _ _ rfl rfl)
 ·refine Am hs (Ab (Aa Ac rfl (qm rfl (Bj rfl (qa rfl (Ae ?_))))))
  refine AC (L := CF N p1 p3) h (fun v5 => mk [(0, .e (.one (.own 90000))), (3, .e (.one (.clo (Bc (CL true Ad true Ad) Bh p3)))), (8, .e (.one (.pure (.val (.int .i64 p1))))), (9, .e (.one (.pure (.val (.int .i64 0))))), (12, .e (.one (.pure (.val (.int .i64 v5.2)))))] [(90000, .vec 3 (v5.1.map Ad))]) (fun v6 => mk [] [(90000, .vec 3 (v6.map Ad))]) (fun _ _ => rfl) (sm [] _ _ rfl rfl) (fun j5 n5 v5 h => ?_) (fun v6 s h hs => ?_)
  ·unfold CF at h
   refine Ab (Ab (Aa Ac rfl (qm rfl (Db rfl (Ae ?_)))))
   refine Ap rfl (fun c7 => ?_) (fun c7 => ?_)
   ·have h := Ao c7 h
    refine Aq (Ab (AH (Ab (Aa Ac rfl (qm rfl (qm rfl (qm rfl (qm rfl (qm rfl (AN rfl (qm rfl (qm rfl (qm rfl (AN rfl ?_))))))))))))))
    obtain ⟨v8, a8, b8, h⟩ := Ai h
    refine qI Bb AS a8 (Ah b8) rfl (qJ Dz AS (Ah b8) rfl (qm rfl (qm rfl ?_)))
    obtain ⟨v9, a9, b9, h⟩ := Ai h
    refine qI Bb AS a9 (Ah b9) rfl (qJ Dz AS (Ah b9) rfl ?_)
    obtain ⟨v10, a10, b10, h⟩ := Ai h
    refine qI Bb AS a10 (Ah b10) rfl ?_
    refine AV rfl rfl rfl rfl (Ah b10) rfl AS rfl (A3 rfl) (AW Ad v5.1 _ v8) ?_
    obtain ⟨v11, a11, b11, h⟩ := Ai h
    refine qI Bb AS a11 (Ah b11) rfl ?_
    refine AV rfl rfl rfl rfl (Ah b11) rfl AS rfl (A3 rfl) (AW Ad (v5.1.set ((p1).toNat) v8) _ v9) ?_
    refine AA (by kernel_rfl) (Aa Ac rfl (qm rfl (qm rfl (qm rfl (qm rfl (qm rfl ?_))))))
    obtain ⟨v12, a12, h⟩ := bind_some h
    refine BD (ds0 := [_, _, _, _, _]) [90000] [] [true] (FB N ((v5.1.set ((p1).toNat) v8).set (((IntKind.wrap .i64 (p1 + v5.2))).toNat) v9) 0 v5.2 p1 p3 v12 a12) (.p rfl) Wh rfl ⟨rfl, rfl, rfl, rfl, rfl, trivial⟩ rfl rfl (by decide) ⟨rfl, trivial⟩ rfl (AX rfl) trivial ⟨(fun h => by cases h), trivial⟩ rfl rfl rfl ?_
    refine Ae (Aa Ac rfl (qm rfl (Bj rfl (qa rfl (Ae ?_)))))
    exact Au _ h (sm [] _ _ rfl rfl)
   ·have h := An c7 h
    refine AP ?_
    exact Au _ h (sm [] _ _ rfl rfl)
  ·obtain rfl := sj h
   refine ⟨_, hs.trans (sm [] [] [(90000, .vec 3 (v6.map Ad))] rfl rfl), ?_⟩
   exact ⟨⟨[], trivial, rfl⟩, ⟨rfl, trivial⟩, trivial⟩
set_option maxRecDepth 10000 in
theorem GK (N : Nat) (p0 : List Af) (p1 : Int) (p2 : Int) (p3 : (Af × Af) → Option Int) (r : (List Af)) (h : DA N p0 p1 p2 p3 = some r) : Bi Tryz.prog 134 [.e (.one (.own 90000)), .e (.one (.pure (.val (.int .i64 p1)))), .e (.one (.pure (.val (.int .i64 p2)))), .e (.one (.clo (Bc (CL true Ad true Ad) Bh p3)))] [(.vec 3 (p0.map Ad), .vec 3 (r.map Ad))] [] (.tup []) := by
 unfold DA at h
 refine A9 (n := 67) (rs := []) Tryz.func134 rfl rfl rfl (A3 rfl) (A3 rfl) rfl rfl (A3 rfl) rfl (A3 rfl) fun w0 S0 GL => Kc ?_
 refine Am (sm [] [(0, .e (.one (.own 90000))), (1, .e (.one (.pure (.val (.int .i64 p1))))), (2, .e (.one (.pure (.val (.int .i64 p2))))), (3, .e (.one (.clo (Bc (CL true Ad true Ad) Bh p3))))] [(90000, .vec 3 (p0.map Ad))] rfl rfl) (Ab (Aa Ac rfl (qm rfl (qm rfl (Bj rfl (qa rfl (Ae (Ab (Aa Ac rfl (qm rfl (Db rfl (Ae ?_))))))))))))
 refine Ap rfl (fun c1 => ?_) (fun c1 => ?_)
 ·have h := Ao c1 h
  refine Ab (Aa Ac rfl (qm rfl (Hj TV V8 rfl (qz V2 rfl (qs QI rfl (Ae (Ab (Aa Ac rfl (qm rfl ?_)))))))))
  obtain ⟨v2, a2, h⟩ := bind_some h
  refine AG [] (Io N ((IntKind.wrap .i64 (p2 - p1))) v2 a2) Wm rfl (qa rfl (Ae (Ab (Aa Ac rfl (qm rfl (qm rfl (Kn rfl (by decide) (In rfl (AN rfl (Bj rfl (qa rfl (Ae ?_))))))))))))
  refine AC (L := B2 N p1 p2 v2) h (fun v3 => mk [(0, .e (.one (.own 90000))), (1, .e (.one (.pure (.val (.int .i64 p1))))), (8, .e (.one (.pure (.val (.int .i64 ((IntKind.wrap .i64 (p2 - p1)))))))), (9, .e (.one (.ptr 9 0))), (10, .e (.one (.pure (.val (.int .u64 v2))))), (11, .e (.one (.pure (.val (.int .i64 v3.2.2)))))] [(9, .box [.pure (.val (.int .u64 v3.2.1))]), (90000, .vec 3 (v3.1.map Ad))]) (fun v4 => mk [] [(90000, .vec 3 (v4.map Ad))]) (fun _ _ => rfl) (sm [] _ _ rfl rfl) (fun j3 n3 v3 h => ?_) (fun v4 s h hs => ?_)
  ·unfold B2 at h
   refine Ab (Ab (Aa Ac rfl (qm rfl (qm rfl (qm rfl (Kn rfl (by decide) (In rfl (AN rfl (AN rfl (IR rfl (Ae ?_)))))))))))
   refine Ap rfl (fun c5 => ?_) (fun c5 => ?_)
   ·have h := Ao c5 h
    refine Aq (Ab (AH (Ab (Aa Ac rfl ?_))))
    obtain ⟨v6, a6, h⟩ := bind_some h
    refine BD (ds0 := [_]) [9] [] [true] (Iz N v3.2.1 v6 a6) (.p rfl) We rfl ⟨rfl, trivial⟩ rfl rfl (by decide) ⟨rfl, trivial⟩ rfl (AX rfl) trivial ⟨(fun h => by cases h), trivial⟩ rfl rfl rfl ?_
    refine qm rfl (Bj rfl (LD rfl (Hj O6 SI rfl (qa rfl (Ae ?_)))))
    refine AM h (fun v7 => mk [(0, .e (.one (.own 90000))), (1, .e (.one (.pure (.val (.int .i64 p1))))), (8, .e (.one (.pure (.val (.int .i64 ((IntKind.wrap .i64 (p2 - p1)))))))), (9, .e (.one (.ptr 9 0))), (10, .e (.one (.pure (.val (.int .u64 v2))))), (11, .e (.one (.pure (.val (.int .i64 v3.2.2))))), (12, .e (.one (.pure (.val (.int .i64 v7)))))] [(9, .box [.pure (.val (.int .u64 v6.2))]), (90000, .vec 3 (v3.1.map Ad))]) (fun j7 h => ?_) (fun v7 h => ?_)
    ·refine Ab (Aa Ac rfl (qm rfl (qm rfl (Db rfl (Ae ?_)))))
     refine Ap rfl (fun c8 => ?_) (fun c8 => ?_)
     ·have h := Ao c8 h
      refine Aa Ac rfl (qm rfl (qm rfl (Bj rfl (qa rfl (Ae ?_)))))
      exact Au _ h (sm [] _ _ rfl rfl)
     ·have h := An c8 h
      refine Aq ?_
      exact Au _ h (sm [] _ _ rfl rfl)
    ·refine Aa Ac rfl (qm rfl (qm rfl (qm rfl (qm rfl (qm rfl (AN rfl (qm rfl (qm rfl (qm rfl (AN rfl ?_))))))))))
     obtain ⟨v9, a9, b9, h⟩ := Ai h
     refine qI Bb AS a9 (Ah b9) rfl (qJ Dz AS (Ah b9) rfl (qm rfl (qm rfl ?_)))
     obtain ⟨v10, a10, b10, h⟩ := Ai h
     refine qI Bb AS a10 (Ah b10) rfl (qJ Dz AS (Ah b10) rfl ?_)
     obtain ⟨v11, a11, b11, h⟩ := Ai h
     refine qI Bb AS a11 (Ah b11) rfl ?_
     refine AV rfl rfl rfl rfl (Ah b11) rfl AS rfl (A3 rfl) (AW Ad v3.1 _ v9) ?_
     obtain ⟨v12, a12, b12, h⟩ := Ai h
     refine qI Bb AS a12 (Ah b12) rfl ?_
     refine AV rfl rfl rfl rfl (Ah b12) rfl AS rfl (A3 rfl) (AW Ad (v3.1.set ((v3.2.2).toNat) v9) _ v10) ?_
     refine AA (by kernel_rfl) (Aa Ac rfl (qm rfl (AN rfl (qa rfl (Ae ?_)))))
     exact Au _ h (sm [] _ _ rfl rfl)
   ·have h := An c5 h
    refine AP ?_
    exact Au _ h (sm [] _ _ rfl rfl)
  ·obtain rfl := sj h
   refine ⟨_, hs.trans (sm [] [] [(90000, .vec 3 (v4.map Ad))] rfl rfl), ?_⟩
   exact ⟨⟨[], trivial, rfl⟩, ⟨rfl, trivial⟩, trivial⟩
 ·have h := An c1 h
  refine Aq ?_
  obtain rfl := sj h
  refine ⟨_, (sm [] [] [(90000, .vec 3 (p0.map Ad))] rfl rfl), ?_⟩
  exact ⟨⟨[], trivial, rfl⟩, ⟨rfl, trivial⟩, trivial⟩
set_option maxRecDepth 10000 in
theorem EB (N : Nat) (p0 : List Af) (p1 : Int) (p2 : Int) (p3 : Int) (p4 : (Af × Af) → Option Int) (r : Int × Int × Int) (h : Cl N p0 p1 p2 p3 p4 = some r) : Bi Tryz.prog 171 [.e (.one (.pure (.sl (p0.map Ad)))), .e (.one (.pure (.val (.int .i64 p1)))), .e (.one (.pure (.val (.int .i64 p2)))), .e (.one (.ptr 90000 0)), .e (.one (.clo (Bc (CL true Ad true Ad) Bh p4)))] [(.box [.pure (.val (.int .i64 p3))], .box [.pure (.val (.int .i64 r.2.2))])] [] (.tup [.one (.pure (.val (.int .i64 r.1))), .one (.pure (.val (.int .i64 r.2.1)))]) := by
 unfold Cl at h
 refine A9 (n := 32) (rs := [.tmp 10, .tmp 11]) Tryz.func171 rfl rfl rfl (A3 rfl) (A3 rfl) rfl rfl (A3 rfl) rfl (A3 rfl) fun w0 S0 GL => ?_
 refine Am (sm [] [(0, .e (.one (.pure (.sl (p0.map Ad))))), (1, .e (.one (.pure (.val (.int .i64 p1))))), (2, .e (.one (.pure (.val (.int .i64 p2))))), (3, .e (.one (.ptr 90000 0))), (4, .e (.one (.clo (Bc (CL true Ad true Ad) Bh p4))))] [(90000, .box [.pure (.val (.int .i64 p3))])] rfl rfl) (Ab (Aa Ac rfl (qa rfl (qa rfl (Ae (Ab (Ab (Aa Ac rfl (qm rfl (qm rfl (qm rfl ?_)))))))))))
 obtain ⟨v1, a1, b1, h⟩ := Ai h
 refine qi Bb AS a1 (Ah b1) rfl (qK Dz AS rfl (qm rfl (qm rfl ?_)))
 obtain ⟨v2, a2, b2, h⟩ := Ai h
 refine qi Bb AS a2 (Ah b2) rfl (qK Dz AS rfl ?_)
 obtain ⟨v3, a3, h⟩ := bind_some h
 refine C9 (ds0 := [_, _]) (ar := (CL true Ad true Ad) ((v1, v2))) (.p rfl) rfl rfl ⟨rfl, rfl, trivial⟩ rfl rfl rfl (C2 (DQ _ _ _ _ Be Be) a3) ?_
 refine AT rfl (AA (by kernel_rfl) ?_)
 refine Ap rfl (fun c4 => ?_) (fun c4 => ?_)
 ·have h := Ao c4 h
  refine Ab (Aa Ac rfl (qm rfl (O5 rfl (ql CN rfl (AN rfl (O5 rfl (qs Ec rfl (Ae (Ab (Aa Ac rfl (qm rfl (qm rfl (qa rfl (qa rfl (Ae ?_)))))))))))))))
  obtain rfl := sj h
  refine Am (sm [] [(10, .e (.one (.pure (.val (.int .i64 p2))))), (11, .e (.one (.pure (.val (.int .i64 p1)))))] [(90000, .box [.pure (.val (.int .i64 ((IntKind.wrap .i64 (p3 + 1)))))])] rfl rfl) (Az ?_)
  exact ⟨⟨[_, _], ⟨.tmp _ _ rfl, ⟨.tmp _ _ rfl, trivial⟩⟩, rfl⟩, ⟨rfl, trivial⟩, trivial⟩
 ·have h := An c4 h
  refine Aq (Ab (Aa Ac rfl (qm rfl (qm rfl (qa rfl (qa rfl (Ae ?_)))))))
  obtain rfl := sj h
  refine Am (sm [] [(10, .e (.one (.pure (.val (.int .i64 p1))))), (11, .e (.one (.pure (.val (.int .i64 p2)))))] [(90000, .box [.pure (.val (.int .i64 p3))])] rfl rfl) (Az ?_)
  exact ⟨⟨[_, _], ⟨.tmp _ _ rfl, ⟨.tmp _ _ rfl, trivial⟩⟩, rfl⟩, ⟨rfl, trivial⟩, trivial⟩
set_option maxRecDepth 10000 in
theorem zFS (N : Nat) (p0 : List Af) (p1 : Int) (p2 : Int) (p3 : Int) (p4 : Int) (p5 : (Af × Af) → Option Int) (r : Int × Int) (h : Dq N p0 p1 p2 p3 p4 p5 = some r) : Bi Tryz.prog 165 [.e (.one (.pure (.sl (p0.map Ad)))), .e (.one (.pure (.val (.int .i64 p1)))), .e (.one (.pure (.val (.int .i64 p2)))), .e (.one (.pure (.val (.int .i64 p3)))), .e (.one (.ptr 90000 0)), .e (.one (.clo (Bc (CL true Ad true Ad) Bh p5)))] [(.box [.pure (.val (.int .i64 p4))], .box [.pure (.val (.int .i64 r.2))])] [] (.e (.one (.pure (.val (.int .i64 r.1))))) := by
 unfold Dq at h
 refine A9 (n := 41) (rs := [.tmp 12]) Tryz.func165 rfl rfl rfl (A3 rfl) (A3 rfl) rfl rfl (A3 rfl) rfl (A3 rfl) fun w0 S0 GL => ?_
 refine Am (sm [] [(0, .e (.one (.pure (.sl (p0.map Ad))))), (1, .e (.one (.pure (.val (.int .i64 p1))))), (2, .e (.one (.pure (.val (.int .i64 p2))))), (3, .e (.one (.pure (.val (.int .i64 p3))))), (4, .e (.one (.ptr 90000 0))), (5, .e (.one (.clo (Bc (CL true Ad true Ad) Bh p5))))] [(90000, .box [.pure (.val (.int .i64 p4))])] rfl rfl) (Ab (Aa Ac rfl (qa rfl (Ae (Ab (Aa Ac rfl (qm rfl (qm rfl (qm rfl (qm rfl (qm rfl ?_)))))))))))
 obtain ⟨v1, a1, h⟩ := bind_some h
 refine BD (ds0 := [_, _, _, _, _]) [90000] [] [true] (EB N p0 p1 p2 p4 p5 v1 a1) (.p rfl) TB rfl ⟨rfl, rfl, rfl, rfl, rfl, trivial⟩ rfl rfl (by decide) ⟨rfl, trivial⟩ rfl (AX rfl) trivial ⟨(fun h => by cases h), trivial⟩ rfl rfl rfl ?_
 refine qm rfl (qx rfl (qx rfl (qa rfl (qa rfl (Ae (Ab (Aa Ac rfl (qm rfl (qm rfl (qm rfl (qm rfl (qm rfl ?_))))))))))))
 obtain ⟨v2, a2, h⟩ := bind_some h
 refine BD (ds0 := [_, _, _, _, _]) [90000] [] [true] (EB N p0 v1.2.1 p3 v1.2.2 p5 v2 a2) (.p rfl) TB rfl ⟨rfl, rfl, rfl, rfl, rfl, trivial⟩ rfl rfl (by decide) ⟨rfl, trivial⟩ rfl (AX rfl) trivial ⟨(fun h => by cases h), trivial⟩ rfl rfl rfl ?_
 refine qm rfl (qx rfl (qx rfl (qa rfl (qa rfl (Ae (Ab (Aa Ac rfl (qm rfl (qm rfl (qm rfl (qm rfl (qm rfl ?_))))))))))))
 obtain ⟨v3, a3, h⟩ := bind_some h
 refine BD (ds0 := [_, _, _, _, _]) [90000] [] [true] (EB N p0 v1.1 v2.1 v2.2.2 p5 v3 a3) (.p rfl) TB rfl ⟨rfl, rfl, rfl, rfl, rfl, trivial⟩ rfl rfl (by decide) ⟨rfl, trivial⟩ rfl (AX rfl) trivial ⟨(fun h => by cases h), trivial⟩ rfl rfl rfl ?_
 refine qm rfl (qx rfl (qx rfl (qa rfl (qa rfl (Ae (Ab (Aa Ac rfl (qm rfl (qa rfl (Ae ?_))))))))))
 obtain rfl := sj h
 refine Am (sm [] [(12, .e (.one (.pure (.val (.int .i64 v3.2.1)))))] [(90000, .box [.pure (.val (.int .i64 v3.2.2))])] rfl rfl) (Az ?_)
 exact ⟨⟨[_], ⟨.tmp _ _ rfl, trivial⟩, rfl⟩, ⟨rfl, trivial⟩, trivial⟩
set_option maxRecDepth 10000 in
theorem DD (N : Nat) (p0 : List Af) (p1 : Int) (p2 : Int) (p3 : (Af × Af) → Option Int) (r : Int × Int) (h : By N p0 p1 p2 p3 = some r) : Bi Tryz.prog 164 [.e (.one (.pure (.sl (p0.map Ad)))), .e (.one (.pure (.val (.int .i64 p1)))), .e (.one (.ptr 90000 0)), .e (.one (.clo (Bc (CL true Ad true Ad) Bh p3)))] [(.box [.pure (.val (.int .i64 p2))], .box [.pure (.val (.int .i64 r.2))])] [] (.e (.one (.pure (.val (.int .i64 r.1))))) := by
 unfold By at h
 refine A9 (n := 18) (rs := [.tmp 8]) Tryz.func164 rfl rfl rfl (A3 rfl) (A3 rfl) rfl rfl (A3 rfl) rfl (A3 rfl) fun w0 S0 GL => ?_
 refine Am (sm [] [(0, .e (.one (.pure (.sl (p0.map Ad))))), (1, .e (.one (.pure (.val (.int .i64 p1))))), (2, .e (.one (.ptr 90000 0))), (3, .e (.one (.clo (Bc (CL true Ad true Ad) Bh p3))))] [(90000, .box [.pure (.val (.int .i64 p2))])] rfl rfl) (Ab (Aa Ac rfl (qa rfl (Ae (Ab (Aa Ac rfl (qm rfl (qm rfl (Bj rfl (qm rfl (qm rfl (AN rfl (qm rfl (qm rfl ?_))))))))))))))
 obtain ⟨v1, a1, h⟩ := bind_some h
 refine BD (ds0 := [_, _, _, _, _, _]) [90000] [] [true] (zFS N p0 ((IntKind.wrap .i64 (p1 - 1))) p1 ((IntKind.wrap .i64 (p1 + 1))) p2 p3 v1 a1) (.p rfl) Wj rfl ⟨rfl, rfl, rfl, rfl, rfl, rfl, trivial⟩ rfl rfl (by decide) ⟨rfl, trivial⟩ rfl (AX rfl) trivial ⟨(fun h => by cases h), trivial⟩ rfl rfl rfl ?_
 refine qa rfl (Ae ?_)
 obtain rfl := sj h
 refine Am (sm [] [(8, .e (.one (.pure (.val (.int .i64 v1.1)))))] [(90000, .box [.pure (.val (.int .i64 v1.2))])] rfl rfl) (Az ?_)
 exact ⟨⟨[_], ⟨.tmp _ _ rfl, trivial⟩, rfl⟩, ⟨rfl, trivial⟩, trivial⟩
set_option maxRecDepth 10000 in
theorem Ha (N : Nat) (p0 : List Af) (p1 : Int) (p2 : Int) (p3 : (Af × Af) → Option Int) (r : Int × Int) (h : DO N p0 p1 p2 p3 = some r) : AB Tryz.prog 135 [.e (.one (.pure (.sl (p0.map Ad)))), .e (.one (.pure (.val (.int .i64 p1)))), .e (.one (.pure (.val (.int .i64 p2)))), .e (.one (.clo (Bc (CL true Ad true Ad) Bh p3)))] [] (.tup [.one (.pure (.val (.int .i64 r.1))), .one (.pure (.val (.int .i64 r.2)))]) := by
 unfold DO at h
 refine As (n := 63) (rs := [.tmp 8, .tmp 9]) Tryz.func135 rfl rfl rfl (A3 rfl) (A3 rfl) rfl fun w0 S0 => ?_
 refine Ab (Aa Ac rfl (qa rfl (qa rfl (Ae (Ab (Aa Ac rfl (qm rfl (qm rfl (Bj rfl (qa rfl (Ae (Ab (Aa Ac rfl (qz Lb rfl (Ae (Ab (Aa Ac rfl (qm rfl (qm rfl (Kn rfl (by decide) (In rfl (AN rfl (qa rfl (Ae (Ab (Aa Ac rfl (qm rfl (qm rfl (Kn rfl (by decide) (In rfl (AN rfl (qa rfl (Ae (Ab (Aa Ac rfl (qm rfl (qm rfl (Kn rfl (by decide) (In rfl ?_)))))))))))))))))))))))))))))))))))))))
 refine AN rfl (qa rfl (Ae ?_))
 refine AM h (fun v1 => mk [(11, .e (.one (.ptr 11 0))), (13, .e (.one (.pure (.val (.int .i64 v1.2)))))] [(11, .box [.pure (.val (.int .i64 v1.1))])]) (fun j1 h => ?_) (fun v1 h => ?_)
 ·refine Ab (Aa Ac rfl (qm rfl (Db rfl (Ae ?_))))
  refine Ap rfl (fun c2 => ?_) (fun c2 => ?_)
  ·have h := Ao c2 h
   refine AM h (fun v3 => mk [(0, .e (.one (.pure (.sl (p0.map Ad))))), (3, .e (.one (.clo (Bc (CL true Ad true Ad) Bh p3)))), (11, .e (.one (.ptr 11 0))), (12, .e (.one (.pure (.val (.int .i64 v3.2.1))))), (13, .e (.one (.pure (.val (.int .i64 v3.2.2.1))))), (14, .e (.one (.pure (.val (.int .i64 v3.2.2.2)))))] [(11, .box [.pure (.val (.int .i64 v3.1))])]) (fun j3 h => ?_) (fun v3 h => ?_)
   ·refine Ab (Aa Ac rfl (qm rfl (Db rfl (Ae ?_))))
    refine Ap rfl (fun c4 => ?_) (fun c4 => ?_)
    ·have h := Ao c4 h
     refine Ab (Aa Ac rfl (qm rfl (qm rfl (qm rfl ?_))))
     obtain ⟨v5, a5, h⟩ := bind_some h
     refine BD (ds0 := [_, _, _, _]) [11] [] [true] (DD N p0 ((IntKind.wrap .i64 (p1 + (IntKind.wrap .i64 ((IntKind.wrap .i64 (Int.tdiv ((IntKind.wrap .i64 (p2 - p1))) 4)) * 1))))) 0 p3 v5 a5) (.p rfl) T6 rfl ⟨rfl, rfl, rfl, rfl, trivial⟩ rfl rfl (by decide) ⟨rfl, trivial⟩ rfl (AX rfl) trivial ⟨(fun h => by cases h), trivial⟩ rfl rfl rfl ?_
     refine qa rfl (Ae (Ab (Aa Ac rfl (qm rfl (qm rfl (qm rfl ?_))))))
     obtain ⟨v6, a6, h⟩ := bind_some h
     refine BD (ds0 := [_, _, _, _]) [11] [] [true] (DD N p0 ((IntKind.wrap .i64 (p1 + (IntKind.wrap .i64 ((IntKind.wrap .i64 (Int.tdiv ((IntKind.wrap .i64 (p2 - p1))) 4)) * 2))))) v5.2 p3 v6 a6) (.p rfl) T6 rfl ⟨rfl, rfl, rfl, rfl, trivial⟩ rfl rfl (by decide) ⟨rfl, trivial⟩ rfl (AX rfl) trivial ⟨(fun h => by cases h), trivial⟩ rfl rfl rfl ?_
     refine qa rfl (Ae (Aa Ac rfl (qm rfl (qm rfl (qm rfl ?_)))))
     obtain ⟨v7, a7, h⟩ := bind_some h
     refine BD (ds0 := [_, _, _, _]) [11] [] [true] (DD N p0 ((IntKind.wrap .i64 (p1 + (IntKind.wrap .i64 ((IntKind.wrap .i64 (Int.tdiv ((IntKind.wrap .i64 (p2 - p1))) 4)) * 3))))) v6.2 p3 v7 a7) (.p rfl) T6 rfl ⟨rfl, rfl, rfl, rfl, trivial⟩ rfl rfl (by decide) ⟨rfl, trivial⟩ rfl (AX rfl) trivial ⟨(fun h => by cases h), trivial⟩ rfl rfl rfl ?_
     refine qa rfl (Ae ?_)
     exact Au _ h (sm [] _ _ rfl rfl)
    ·have h := An c4 h
     refine Aq ?_
     exact Au _ h (sm [] _ _ rfl rfl)
   ·refine Aa Ac rfl (qm rfl (qm rfl (qm rfl (qm rfl (qm rfl ?_)))))
    obtain ⟨v8, a8, h⟩ := bind_some h
    refine BD (ds0 := [_, _, _, _, _, _]) [11] [] [true] (zFS N p0 v3.2.1 v3.2.2.1 v3.2.2.2 v3.1 p3 v8 a8) (.p rfl) Wj rfl ⟨rfl, rfl, rfl, rfl, rfl, rfl, trivial⟩ rfl rfl (by decide) ⟨rfl, trivial⟩ rfl (AX rfl) trivial ⟨(fun h => by cases h), trivial⟩ rfl rfl rfl ?_
    refine qa rfl (Ae ?_)
    exact Au _ h (sm [] _ _ rfl rfl)
  ·have h := An c2 h
   refine Aq ?_
   exact Au _ h (sm [] _ _ rfl rfl)
 ·refine Ab (Aa Ac rfl (ql CN rfl (Ae (AH (Ab (Aa Ac rfl (BX rfl (qa rfl (Ae ?_)))))))))
  refine Ap rfl (fun c9 => ?_) (fun c9 => ?_)
  ·have h := Ao c9 h
   refine Ab (Aa Ac rfl (qm rfl (qa rfl (qa rfl (Ae ?_)))))
   obtain rfl := sj h
   refine Am (sm [] [(8, .e (.one (.pure (.val (.int .i64 v1.2))))), (9, .e (.one (.pure (.val (.int .i64 1)))))] [] rfl rfl) (Az ?_)
   exact ⟨⟨[_, _], ⟨.tmp _ _ rfl, ⟨.tmp _ _ rfl, trivial⟩⟩, rfl⟩, trivial⟩
  ·have h := An c9 h
   refine Ab (Aa Ac rfl (BX rfl (qa rfl (Ae ?_))))
   refine Ap rfl (fun c10 => ?_) (fun c10 => ?_)
   ·have h := Ao c10 h
    refine Ab (Aa Ac rfl (qm rfl (qa rfl (qa rfl (Ae ?_)))))
    obtain rfl := sj h
    refine Am (sm [] [(8, .e (.one (.pure (.val (.int .i64 v1.2))))), (9, .e (.one (.pure (.val (.int .i64 2)))))] [] rfl rfl) (Az ?_)
    exact ⟨⟨[_, _], ⟨.tmp _ _ rfl, ⟨.tmp _ _ rfl, trivial⟩⟩, rfl⟩, trivial⟩
   ·have h := An c10 h
    refine Ab (Aa Ac rfl (qm rfl (qa rfl (qa rfl (Ae ?_)))))
    obtain rfl := sj h
    refine Am (sm [] [(8, .e (.one (.pure (.val (.int .i64 v1.2))))), (9, .e (.one (.pure (.val (.int .i64 0)))))] [] rfl rfl) (Az ?_)
    exact ⟨⟨[_, _], ⟨.tmp _ _ rfl, ⟨.tmp _ _ rfl, trivial⟩⟩, rfl⟩, trivial⟩
set_option maxRecDepth 10000 in
theorem GV (N : Nat) (p0 : List Af) (p1 : Int) (p2 : Int) (p3 : (Af × Af) → Option Int) (r : (List Af)) (h : DM N p0 p1 p2 p3 = some r) : Bi Tryz.prog 136 [.e (.one (.own 90000)), .e (.one (.pure (.val (.int .i64 p1)))), .e (.one (.pure (.val (.int .i64 p2)))), .e (.one (.clo (Bc (CL true Ad true Ad) Bh p3)))] [(.vec 3 (p0.map Ad), .vec 3 (r.map Ad))] [] (.tup []) := by
 unfold DM at h
 refine A9 (n := 34) (rs := []) Tryz.func136 rfl rfl rfl (A3 rfl) (A3 rfl) rfl rfl (A3 rfl) rfl (A3 rfl) fun w0 S0 GL => Kc ?_
 refine Am (sm [] [(0, .e (.one (.own 90000))), (1, .e (.one (.pure (.val (.int .i64 p1))))), (2, .e (.one (.pure (.val (.int .i64 p2))))), (3, .e (.one (.clo (Bc (CL true Ad true Ad) Bh p3))))] [(90000, .vec 3 (p0.map Ad))] rfl rfl) (Ab (Aa Ac rfl (qm rfl (qa rfl (Ae (Ab (Aa Ac rfl (qm rfl (Bj rfl (qa rfl (Ae ?_)))))))))))
 refine AC (L := Ca N) h (fun v1 => mk [(0, .e (.one (.own 90000))), (8, .e (.one (.pure (.val (.int .i64 v1.2.1))))), (9, .e (.one (.pure (.val (.int .i64 v1.2.2)))))] [(90000, .vec 3 (v1.1.map Ad))]) (fun v2 => mk [] [(90000, .vec 3 (v2.map Ad))]) (fun _ _ => rfl) (sm [] _ _ rfl rfl) (fun j1 n1 v1 h => ?_) (fun v2 s h hs => ?_)
 ·unfold Ca at h
  refine Ab (Ab (Aa Ac rfl (qm rfl (qm rfl (AT rfl (Ae ?_))))))
  refine Ap rfl (fun c3 => ?_) (fun c3 => ?_)
  ·have h := Ao c3 h
   refine Aq (AH (Ab (Aa Ac rfl (qm rfl (qm rfl (qm rfl (qm rfl (qm rfl (qm rfl ?_)))))))))
   obtain ⟨v4, a4, b4, h⟩ := Ai h
   refine qI Bb AS a4 (Ah b4) rfl (qJ Dz AS (Ah b4) rfl (qm rfl (qm rfl ?_)))
   obtain ⟨v5, a5, b5, h⟩ := Ai h
   refine qI Bb AS a5 (Ah b5) rfl (qJ Dz AS (Ah b5) rfl ?_)
   obtain ⟨v6, a6, b6, h⟩ := Ai h
   refine qI Bb AS a6 (Ah b6) rfl ?_
   refine AV rfl rfl rfl rfl (Ah b6) rfl AS rfl (A3 rfl) (AW Ad v1.1 _ v4) ?_
   obtain ⟨v7, a7, b7, h⟩ := Ai h
   refine qI Bb AS a7 (Ah b7) rfl ?_
   refine AV rfl rfl rfl rfl (Ah b7) rfl AS rfl (A3 rfl) (AW Ad (v1.1.set ((v1.2.1).toNat) v4) _ v5) ?_
   refine AA (by kernel_rfl) (Ab (Aa Ac rfl (qm rfl (AN rfl (qa rfl (Ae (Aa Ac rfl (qm rfl (Bj rfl (qa rfl (Ae ?_)))))))))))
   exact Au _ h (sm [] _ _ rfl rfl)
  ·have h := An c3 h
   refine AP ?_
   exact Au _ h (sm [] _ _ rfl rfl)
 ·obtain rfl := sj h
  refine ⟨_, hs.trans (sm [] [] [(90000, .vec 3 (v2.map Ad))] rfl rfl), ?_⟩
  exact ⟨⟨[], trivial, rfl⟩, ⟨rfl, trivial⟩, trivial⟩
end Go.Lift

