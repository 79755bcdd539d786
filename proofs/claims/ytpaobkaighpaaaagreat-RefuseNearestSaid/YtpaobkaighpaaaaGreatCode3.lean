/- Lemmas for RefuseNearestSaid, which YtpaobkaighpaaaaGreatFinR6 proves. -/
import Derived.Test.YtpaobkaighpaaaaGreatCode1
/- That the code does what the shallow programs do, function by function. Written by a program (gen.py). -/
namespace Go.Lift
open Go.RowKit
open Go.Proofs
set_option maxRecDepth 10000 in
theorem Pj (N : Nat) (p0 : Al) (r : (List AH)) (h : Kq N p0 = some r) : AA Tryz.prog 95 [.e (.agg [.pure (.sl (p0.fVersions.map Ak)), .pure (.sl (p0.fNow.map Ak)), .pure (.sl (p0.fTarget.map Ak)), .pure (.sl (p0.fTables.map Au))])] [(3, r.map A3)] (.e (.one (.own 0))) := by
 unfold Kq at h
 refine Ar (n := 54) (rs := [.tmp 2]) Tryz.func95 rfl rfl rfl (AZ rfl) (AZ rfl) rfl fun w0 S0 => ?_
 refine Ab (Aa Ad rfl (qb rfl (qa rfl (Ae (Ab (Aa Ad rfl (qa rfl (Ae (Ab (Ab (Aa Ad rfl (qf BZ rfl (ql Bw rfl (AP AJ rfl (qm rfl (Ae ?_))))))))))))))))
 refine AB (L := Hs N p0) h (fun v1 => mk [(1, .e (.one (.ptr 1 0))), (3, .e (.one (.own 2001))), (10, .e (.one (.pure (.sl (p0.fVersions.map Ak))))), (11, .e (.one (.pure (.val (.int .i64 ((p0.fVersions.length : Int))))))), (12, .e (.one (.pure (.val (.int .i64 v1.2)))))] [(1, .box [.pure (.sl (p0.fVersions.map Ak)), .pure (.sl (p0.fNow.map Ak)), .pure (.sl (p0.fTarget.map Ak)), .pure (.sl (p0.fTables.map Au))]), (2001, .vec 3 (v1.1.map A3))]) (fun v2 => mk [(1, .e (.one (.ptr 1 0))), (3, .e (.one (.own 2002)))] [(1, .box [.pure (.sl (p0.fVersions.map Ak)), .pure (.sl (p0.fNow.map Ak)), .pure (.sl (p0.fTarget.map Ak)), .pure (.sl (p0.fTables.map Au))]), (2002, .vec 3 (v2.map A3))]) (fun _ _ => rfl) ((BR 3 2005 3 rfl rfl rfl).trans (sm [(2001, 2005)] _ _ rfl rfl)) (fun j1 n1 v1 h => ?_) (fun v2 s h hs => ?_)
 ·unfold Hs at h
  refine Ab (Aa Ad rfl (AR rfl (Ae (Ab ?_))))
  refine Ap rfl (fun c3 => ?_) (fun c3 => ?_)
  ·have h := An c3 h
   refine Aq (Ab (AD (Ab (Aa Ad rfl (qm rfl ?_)))))
   obtain ⟨v4, a4, b4, h⟩ := Aj h
   refine qi AJ Es a4 (Ag b4) rfl (qk Dn rfl (qa rfl (qa rfl (Ae (Ab (Aa Ad rfl (qm rfl (qm rfl (Ae ?_)))))))))
   refine AB (L := HK N v1 v4) h (fun v5 => mk [(1, .e (.one (.ptr 1 0))), (3, .e (.one (.own 2003))), (4, .e (.one (.pure (.val (.int .i64 v1.2))))), (10, .e (.one (.pure (.sl (p0.fVersions.map Ak))))), (11, .e (.one (.pure (.val (.int .i64 ((p0.fVersions.length : Int))))))), (12, .e (.one (.pure (.val (.int .i64 v1.2))))), (17, .e (.one (.pure (.val (.int .i64 v4))))), (18, .e (.one (.pure (.val (.int .i64 v5.2)))))] [(1, .box [.pure (.sl (p0.fVersions.map Ak)), .pure (.sl (p0.fNow.map Ak)), .pure (.sl (p0.fTarget.map Ak)), .pure (.sl (p0.fTables.map Au))]), (2003, .vec 3 (v5.1.map A3))]) (fun v6 => mk [(1, .e (.one (.ptr 1 0))), (3, .e (.one (.own 2004))), (10, .e (.one (.pure (.sl (p0.fVersions.map Ak))))), (11, .e (.one (.pure (.val (.int .i64 ((p0.fVersions.length : Int))))))), (12, .e (.one (.pure (.val (.int .i64 v1.2)))))] [(1, .box [.pure (.sl (p0.fVersions.map Ak)), .pure (.sl (p0.fNow.map Ak)), .pure (.sl (p0.fTarget.map Ak)), .pure (.sl (p0.fTables.map Au))]), (2004, .vec 3 (v6.map A3))]) (fun _ _ => rfl) (sm [(2003, 2001)] _ _ rfl rfl) (fun j5 n5 v5 h => ?_) (fun v6 s h hs => ?_)
   ·unfold HK at h
    refine Ab (Aa Ad rfl (AR rfl (Ae (Ab ?_))))
    refine Ap rfl (fun c7 => ?_) (fun c7 => ?_)
    ·have h := An c7 h
     refine Aq (Ab (AD (Ab (Aa Ad rfl (qm rfl (qa rfl (Ae (Aa Ad rfl (qm rfl (qm rfl (qm rfl (CO J9 Sg rfl (EX FR FQ J9 rfl ?_)))))))))))))
     obtain ⟨c8, h⟩ := AW h
     refine Ep (f := A3) FR FR FQ Qf J9 c8 rfl (qa rfl (Ae (Aa Ad rfl (AI rfl (qm rfl (Ae ?_))))))
     exact Av _ h (sm [(2003, 26)] _ _ rfl rfl)
    ·have h := Ao c7 h
     refine AL ?_
     exact Av _ h (sm [(2004, 2003)] _ _ rfl rfl)
   ·refine Am hs (Aa Ad rfl (AI rfl (qm rfl (Ae ?_))))
    exact Av _ h (sm [(2001, 2004)] _ _ rfl rfl)
  ·have h := Ao c3 h
   refine AL ?_
   exact Av _ h (sm [(2002, 2001)] _ _ rfl rfl)
 ·refine Am hs (Ab (Ab (Aa Ad rfl (qf BZ rfl (ql Bw rfl (AP AJ rfl (qm rfl (Ae ?_))))))))
  refine AB (L := HE N p0) h (fun v9 => mk [(1, .e (.one (.ptr 1 0))), (3, .e (.one (.own 2006))), (31, .e (.one (.pure (.val (.int .i64 ((p0.fVersions.length : Int))))))), (32, .e (.one (.pure (.val (.int .i64 v9.2)))))] [(1, .box [.pure (.sl (p0.fVersions.map Ak)), .pure (.sl (p0.fNow.map Ak)), .pure (.sl (p0.fTarget.map Ak)), .pure (.sl (p0.fTables.map Au))]), (2006, .vec 3 (v9.1.map A3))]) (fun v10 => mk [(1, .e (.one (.ptr 1 0))), (3, .e (.one (.own 2007)))] [(1, .box [.pure (.sl (p0.fVersions.map Ak)), .pure (.sl (p0.fNow.map Ak)), .pure (.sl (p0.fTarget.map Ak)), .pure (.sl (p0.fTables.map Au))]), (2007, .vec 3 (v10.map A3))]) (fun _ _ => rfl) (sm [(2006, 2002)] _ _ rfl rfl) (fun j9 n9 v9 h => ?_) (fun v10 s h hs => ?_)
  ·unfold HE at h
   refine Ab (Aa Ad rfl (AR rfl (Ae (Ab ?_))))
   refine Ap rfl (fun c11 => ?_) (fun c11 => ?_)
   ·have h := An c11 h
    refine Aq (Ab (AD (Ab (Aa Ad rfl (qm rfl (qa rfl (Ae (Aa Ad rfl (qm rfl (qm rfl (CO J9 Sg rfl (EX FR FQ J9 rfl ?_))))))))))))
    obtain ⟨c12, h⟩ := AW h
    refine Ep (f := A3) FR FR FQ Qf J9 c12 rfl (qa rfl (Ae (Aa Ad rfl (AI rfl (qm rfl (Ae ?_))))))
    exact Av _ h (sm [(2006, 39)] _ _ rfl rfl)
   ·have h := Ao c11 h
    refine AL ?_
    exact Av _ h (sm [(2007, 2006)] _ _ rfl rfl)
  ·refine Am hs (Ab (Ab (Aa Ad rfl (qf EC rfl (ql JG rfl (AP FC rfl (qm rfl (Ae ?_))))))))
   refine AB (L := GX N p0) h (fun v13 => mk [(3, .e (.one (.own 2008))), (43, .e (.one (.pure (.val (.int .i64 ((p0.fTables.length : Int))))))), (44, .e (.one (.pure (.val (.int .i64 v13.2)))))] [(2008, .vec 3 (v13.1.map A3))]) (fun v14 => mk [(3, .e (.one (.own 2009)))] [(2009, .vec 3 (v14.map A3))]) (fun _ _ => rfl) (sm [(2008, 2007)] _ _ rfl rfl) (fun j13 n13 v13 h => ?_) (fun v14 s h hs => ?_)
   ·unfold GX at h
    refine Ab (Aa Ad rfl (AR rfl (Ae (Ab ?_))))
    refine Ap rfl (fun c15 => ?_) (fun c15 => ?_)
    ·have h := An c15 h
     refine Aq (Ab (AD (Ab (Aa Ad rfl (qm rfl (qa rfl (Ae (Aa Ad rfl (qm rfl (qm rfl (CO J9 Sg rfl (EX FR FQ J9 rfl ?_))))))))))))
     obtain ⟨c16, h⟩ := AW h
     refine Ep (f := A3) FR FR FQ Qf J9 c16 rfl (qa rfl (Ae (Aa Ad rfl (AI rfl (qm rfl (Ae ?_))))))
     exact Av _ h (sm [(2008, 51)] _ _ rfl rfl)
    ·have h := Ao c15 h
     refine AL ?_
     exact Av _ h (sm [(2009, 2008)] _ _ rfl rfl)
   ·refine Am hs (Ab (Aa Ad rfl (qm rfl (qa rfl (Ae ?_)))))
    obtain rfl := sj h
    refine Am (sm [(1000, 2009)] [(2, .e (.one (.own 1000)))] [(1000, .vec 3 (v14.map A3))] rfl rfl) (Ax ?_)
    exact ⟨⟨[_], ⟨.tmp _ _ rfl, trivial⟩, rfl⟩, ⟨rfl, trivial⟩⟩
set_option maxRecDepth 10000 in
theorem Nn (N : Nat) (p0 : Ah) (r : Ah) (h : II N p0 = some r) : AA Tryz.prog 123 [.e (.agg [.pure (.sl (p0.fBase.map Ak)), .pure (.sl (p0.fNext.map Ak)), .pure (.sl (p0.fHeld.map Bv))])] [(1, r.fBase.map Ak), (1, r.fNext.map Ak), (1, r.fHeld.map Bv)] (.e (.agg [.own 0, .own 1, .own 2])) := by
 unfold II at h
 refine Ar (n := 13) (rs := [.cell 2 46]) Tryz.func123 rfl rfl rfl (AZ rfl) (AZ rfl) rfl fun w0 S0 => ?_
 refine Ab (Aa Ad rfl (qb rfl (qz DN rfl (Ae (Ab (Aa Ad rfl (qf Du rfl (ql Bw rfl ?_))))))))
 obtain ⟨v1, a1, h⟩ := bind_some h
 refine AG [2001] (De N p0.fBase v1 a1) PE rfl (qf CU rfl (ql Bw rfl ?_))
 obtain ⟨v2, a2, h⟩ := bind_some h
 refine AG [2002] (De N p0.fNext v2 a2) PE rfl (qf DX rfl (ql It rfl ?_))
 obtain ⟨v3, a3, h⟩ := bind_some h
 refine AG [2003] (Ew N p0.fHeld v3 a3) Uo rfl (CO DN Jv rfl (qs Ay rfl (Az (by kernel_rfl) ?_)))
 obtain rfl := sj h
 refine Am (sm [(1000, 2001), (1001, 2002), (1002, 2003)] [(2, .e (.one (.ptr 2 0)))] [(2, .box [.own 1000, .own 1001, .own 1002]), (1000, .vec 1 (v1.map Ak)), (1001, .vec 1 (v2.map Ak)), (1002, .vec 1 (v3.map Bv))] rfl rfl) (Ax ?_)
 exact ⟨⟨[_], ⟨.cellN _ _ _ _ _ _ _ rfl rfl A6 Ay rfl rfl (Kw rfl), trivial⟩, rfl⟩, ⟨rfl, rfl, rfl, trivial⟩⟩
set_option maxRecDepth 10000 in
theorem KG (N : Nat) (p0 : AQ) (r : Bool) (h : HB N p0 = some r) : AA Tryz.prog 156 [.e (.agg [.pure (.val (.int .i64 p0.fKind)), .pure (.val (.int .i64 p0.fFrom)), .pure (.val (.int .i64 p0.fTo)), .pure (.val (.bool p0.fAware)), .pure (.sl (p0.fOK.map (Gl eB))), .pure (.sl (p0.fRewrite.map (Gl eB)))])] [] (.e (.one (.pure (.val (.bool r))))) := by
 unfold HB at h
 refine Ar (n := 11) (rs := [.tmp 2]) Tryz.func156 rfl rfl rfl (AZ rfl) (AZ rfl) rfl fun w0 S0 => ?_
 refine Ab (Aa Ad rfl (qb rfl (qa rfl (Ae ?_))))
 refine AK h (fun v1 => mk [(2, .e (.one (.pure (.val (.bool v1)))))] []) (fun j1 h => ?_) (fun v1 h => ?_)
 ·refine Aa Ad rfl (qf GH rfl (ql Dn rfl (Cp rfl (qm rfl ?_))))
  refine AC (t := 6) rfl (fun c2 => ?_) (fun c2 => ?_)
  ·have h := An c2 h
   refine qn rfl (qn rfl (qn rfl (qp rfl (qa rfl (Ae ?_)))))
   exact Av _ h (sm [] _ _ rfl rfl)
  ·have h := Ao c2 h
   refine qf GH rfl (ql Dn rfl (Cp rfl (qp rfl (qa rfl (Ae ?_)))))
   exact Av _ h (sm [] _ _ rfl rfl)
 ·obtain rfl := sj h
  refine Am (sm [] [(2, .e (.one (.pure (.val (.bool v1)))))] [] rfl rfl) (Ax ?_)
  exact ⟨⟨[_], ⟨.tmp _ _ rfl, trivial⟩, rfl⟩, trivial⟩
set_option maxRecDepth 10000 in
theorem Og (N : Nat) (p0 : Al) (p1 : Ah) (p2 : AH) (r : Bool × (List Int) × (List Int)) (h : Jj N p0 p1 p2 = some r) : A9 Tryz.prog 124 [.e (.agg [.pure (.sl (p0.fVersions.map Ak)), .pure (.sl (p0.fNow.map Ak)), .pure (.sl (p0.fTarget.map Ak)), .pure (.sl (p0.fTables.map Au))]), .e (.one (.ptr 90000 0)), .e (.agg [.pure (.val (.int .i64 p2.fKind)), .pure (.val (.int .i64 p2.fIndex)), .pure (.val (.int .i64 p2.fVersion))])] [(.box [.own 90001, .own 90002, .own 90003], .box [.own 90001, .own 90002, .own 90003]), (.vec 1 (p1.fBase.map Ak), .vec 1 (p1.fBase.map Ak)), (.vec 1 (p1.fNext.map Ak), .vec 1 (r.2.1.map Ak)), (.vec 1 (p1.fHeld.map Bv), .vec 1 (r.2.2.map Bv))] [] (.e (.one (.pure (.val (.bool r.1))))) := by
 unfold Jj at h
 refine AY (n := 70) (rs := [.tmp 6]) Tryz.func124 rfl rfl rfl (AZ rfl) (AZ rfl) rfl rfl (AZ rfl) rfl (AZ rfl) fun w0 S0 GL => ?_
 refine Am (sm [] [(0, .e (.agg [.pure (.sl (p0.fVersions.map Ak)), .pure (.sl (p0.fNow.map Ak)), .pure (.sl (p0.fTarget.map Ak)), .pure (.sl (p0.fTables.map Au))])), (1, .e (.one (.ptr 90000 0))), (2, .e (.agg [.pure (.val (.int .i64 p2.fKind)), .pure (.val (.int .i64 p2.fIndex)), .pure (.val (.int .i64 p2.fVersion))]))] [(90000, .box [.own 90001, .own 90002, .own 90003]), (90001, .vec 1 (p1.fBase.map Ak)), (90002, .vec 1 (p1.fNext.map Ak)), (90003, .vec 1 (p1.fHeld.map Bv))] rfl rfl) (Ab (Aa Ad rfl (qb rfl (qb rfl (qa rfl (Ae (Ab ?_)))))))
 refine AK h (fun v1 => mk [(1, .e (.one (.ptr 90000 0))), (3, .e (.one (.ptr 3 0))), (5, .e (.one (.ptr 5 0))), (30, .e (.one (.pure (.val (.bool v1)))))] [(3, .box [.pure (.sl (p0.fVersions.map Ak)), .pure (.sl (p0.fNow.map Ak)), .pure (.sl (p0.fTarget.map Ak)), .pure (.sl (p0.fTables.map Au))]), (5, .box [.pure (.val (.int .i64 p2.fKind)), .pure (.val (.int .i64 p2.fIndex)), .pure (.val (.int .i64 p2.fVersion))]), (90000, .box [.own 90001, .own 90002, .own 90003]), (90001, .vec 1 (p1.fBase.map Ak)), (90002, .vec 1 (p1.fNext.map Ak)), (90003, .vec 1 (p1.fHeld.map Bv))]) (fun j1 h => ?_) (fun v1 h => ?_)
 ·refine Aa Ad rfl (qm rfl (M9 rfl (qf CU rfl (ql Bw rfl (qf G4 rfl (ql Dn rfl ?_))))))
  obtain ⟨v2, a2, b2, h⟩ := Aj h
  refine qI AJ Es a2 (Ag b2) rfl (qj Dn (Ag b2) rfl (Dl rfl (qm rfl ?_)))
  refine AC (t := 18) rfl (fun c3 => ?_) (fun c3 => ?_)
  ·have h := An c3 h
   refine qn rfl (qn rfl (qn rfl (qn rfl (qn rfl (qn rfl (qn rfl (qn rfl (qn rfl (qn rfl (qn rfl (qp rfl (Az (by kernel_rfl) ?_))))))))))))
   exact Av _ h (sm [] _ _ rfl rfl)
  ·have h := Ao c3 h
   refine qm rfl (M9 rfl (qf Du rfl (ql Bw rfl (qf G4 rfl (ql Dn rfl ?_)))))
   obtain ⟨v4, a4, b4, h⟩ := Aj h
   refine qI AJ Es a4 (Ag b4) rfl (qj Dn (Ag b4) rfl (qf Ks rfl (ql Dn rfl (Cp rfl (qp rfl (Az (by kernel_rfl) ?_))))))
   exact Av _ h (sm [] _ _ rfl rfl)
 ·refine Ap rfl (fun c5 => ?_) (fun c5 => ?_)
  ·have h := An c5 h
   refine Ab (Aa Ad rfl (qa rfl (Ae ?_)))
   obtain rfl := sj h
   refine Am (sm [] [(6, .e (.one (.pure (.val (.bool false)))))] [(90000, .box [.own 90001, .own 90002, .own 90003]), (90001, .vec 1 (p1.fBase.map Ak)), (90002, .vec 1 (p1.fNext.map Ak)), (90003, .vec 1 (p1.fHeld.map Bv))] rfl rfl) (Ax ?_)
   exact ⟨⟨[_], ⟨.tmp _ _ rfl, trivial⟩, rfl⟩, ⟨rfl, rfl, rfl, rfl, trivial⟩, trivial⟩
  ·have h := Ao c5 h
   refine Aq (Ab (Aa Ad rfl (qm rfl (M9 rfl (qf CU rfl (ql Bw rfl (qf G4 rfl (ql Dn rfl (qf Ks rfl (ql Dn rfl ?_))))))))))
   obtain ⟨v6, a6, b6, h⟩ := Aj h
   refine qI AJ Es a6 (Ag b6) rfl ?_
   refine AT rfl rfl rfl rfl (Ag b6) rfl Es rfl (AZ rfl) (AU Ak p1.fNext _ p2.fVersion) ?_
   refine Az (by kernel_rfl) (Ab (Ab (Aa Ad rfl (qf EC rfl (ql JG rfl (AP FC rfl (qm rfl (Ae ?_))))))))
   refine AB (L := Gw N p0 p2) h (fun v7 => mk [(1, .e (.one (.ptr 90000 0))), (5, .e (.one (.ptr 5 0))), (41, .e (.one (.pure (.sl (p0.fTables.map Au))))), (42, .e (.one (.pure (.val (.int .i64 ((p0.fTables.length : Int))))))), (43, .e (.one (.pure (.val (.int .i64 v7.2)))))] [(5, .box [.pure (.val (.int .i64 p2.fKind)), .pure (.val (.int .i64 p2.fIndex)), .pure (.val (.int .i64 p2.fVersion))]), (90000, .box [.own 90001, .own 90002, .own 90003]), (90001, .vec 1 (p1.fBase.map Ak)), (90002, .vec 1 ((p1.fNext.set ((p2.fIndex).toNat) p2.fVersion).map Ak)), (90003, .vec 1 (v7.1.map Bv))]) (fun v8 => mk [] [(90000, .box [.own 90001, .own 90002, .own 90003]), (90001, .vec 1 (p1.fBase.map Ak)), (90002, .vec 1 ((p1.fNext.set ((p2.fIndex).toNat) p2.fVersion).map Ak)), (90003, .vec 1 (v8.map Bv))]) (fun _ _ => rfl) (sm [] _ _ rfl rfl) (fun j7 n7 v7 h => ?_) (fun v8 s h hs => ?_)
   ·unfold Gw at h
    refine Ab (Aa Ad rfl (AR rfl (Ae (Ab ?_))))
    refine Ap rfl (fun c9 => ?_) (fun c9 => ?_)
    ·have h := An c9 h
     refine Aq ?_
     refine AK h (fun v10 => mk [(1, .e (.one (.ptr 90000 0))), (5, .e (.one (.ptr 5 0))), (41, .e (.one (.pure (.sl (p0.fTables.map Au))))), (42, .e (.one (.pure (.val (.int .i64 ((p0.fTables.length : Int))))))), (43, .e (.one (.pure (.val (.int .i64 v7.2)))))] [(5, .box [.pure (.val (.int .i64 p2.fKind)), .pure (.val (.int .i64 p2.fIndex)), .pure (.val (.int .i64 p2.fVersion))]), (90000, .box [.own 90001, .own 90002, .own 90003]), (90001, .vec 1 (p1.fBase.map Ak)), (90002, .vec 1 ((p1.fNext.set ((p2.fIndex).toNat) p2.fVersion).map Ak)), (90003, .vec 1 (v10.map Bv))]) (fun j10 h => ?_) (fun v10 h => ?_)
     ·refine AD (Ab (Aa Ad rfl (qm rfl ?_)))
      obtain ⟨v11, a11, b11, h⟩ := Aj h
      refine qi FC Fj a11 (Ag b11) rfl (qK IS Fj rfl (qz K9 rfl (qa rfl (qs Fj rfl (Ae ?_)))))
      refine AK h (fun v12 => mk [(1, .e (.one (.ptr 90000 0))), (5, .e (.one (.ptr 5 0))), (7, .e (.one (.pure (.val (.int .i64 v7.2))))), (41, .e (.one (.pure (.sl (p0.fTables.map Au))))), (42, .e (.one (.pure (.val (.int .i64 ((p0.fTables.length : Int))))))), (43, .e (.one (.pure (.val (.int .i64 v7.2))))), (56, .e (.one (.pure (.val (.bool v12)))))] [(5, .box [.pure (.val (.int .i64 p2.fKind)), .pure (.val (.int .i64 p2.fIndex)), .pure (.val (.int .i64 p2.fVersion))]), (90000, .box [.own 90001, .own 90002, .own 90003]), (90001, .vec 1 (p1.fBase.map Ak)), (90002, .vec 1 ((p1.fNext.set ((p2.fIndex).toNat) p2.fVersion).map Ak)), (90003, .vec 1 (v7.1.map Bv))]) (fun j12 h => ?_) (fun v12 h => ?_)
      ·refine Aa Ad rfl (qf Et rfl (ql Dn rfl (qf G4 rfl (ql Dn rfl (Cp rfl (qm rfl ?_))))))
       refine AC (t := 53) rfl (fun c13 => ?_) (fun c13 => ?_)
       ·have h := An c13 h
        refine qL IS Fj rfl ?_
        obtain ⟨v14, a14, h⟩ := bind_some h
        refine AG [] (KG N v11 v14 a14) Tg rfl (qp rfl (Ae ?_))
        exact Av _ h (sm [] _ _ rfl rfl)
       ·have h := Ao c13 h
        refine qn rfl (qn rfl (qp rfl (Ae ?_)))
        exact Av _ h (sm [] _ _ rfl rfl)
      ·refine Ap rfl (fun c15 => ?_) (fun c15 => ?_)
       ·have h := An c15 h
        refine Aa Ad rfl (qm rfl (M9 rfl (qf DX rfl (ql It rfl (qm rfl ?_)))))
        obtain ⟨v16, a16, b16, h⟩ := Aj h
        refine qI EB HM a16 (Ag b16) rfl (qj KO (Ag b16) rfl (qf Ks rfl (ql Dn rfl ?_)))
        obtain ⟨c17, h⟩ := AW h
        refine IX rfl c17 (Ro rfl ?_)
        obtain ⟨v18, a18, b18, h⟩ := Aj h
        refine qI EB HM a18 (Ag b18) rfl ?_
        refine AT rfl rfl rfl rfl (Ag b18) rfl HM rfl (AZ rfl) (AU Bv v7.1 _ ((Oy .u8 v16 ((DD .u8 1 p2.fVersion))))) ?_
        refine Az (by kernel_rfl) ?_
        exact Av _ h (sm [] _ _ rfl rfl)
       ·have h := Ao c15 h
        refine Aq ?_
        exact Av _ h (sm [] _ _ rfl rfl)
     ·refine Aa Ad rfl (AI rfl (qm rfl (Ae ?_)))
      exact Av _ h (sm [] _ _ rfl rfl)
    ·have h := Ao c9 h
     refine AL ?_
     exact Av _ h (sm [] _ _ rfl rfl)
   ·refine Am hs (Ab (Aa Ad rfl (qa rfl (Ae ?_))))
    obtain rfl := sj h
    refine Am (sm [] [(6, .e (.one (.pure (.val (.bool true)))))] [(90000, .box [.own 90001, .own 90002, .own 90003]), (90001, .vec 1 (p1.fBase.map Ak)), (90002, .vec 1 ((p1.fNext.set ((p2.fIndex).toNat) p2.fVersion).map Ak)), (90003, .vec 1 (v8.map Bv))] rfl rfl) (Ax ?_)
    exact ⟨⟨[_], ⟨.tmp _ _ rfl, trivial⟩, rfl⟩, ⟨rfl, rfl, rfl, rfl, trivial⟩, trivial⟩
set_option maxRecDepth 10000 in
theorem MZ (N : Nat) (p0 : Ah) (p1 : Int) (r : Int) (h : Ij N p0 p1 = some r) : AA Tryz.prog 157 [.e (.agg [.pure (.sl (p0.fBase.map Ak)), .pure (.sl (p0.fNext.map Ak)), .pure (.sl (p0.fHeld.map Bv))]), .e (.one (.pure (.val (.int .i64 p1))))] [] (.e (.one (.pure (.val (.int .u8 r))))) := by
 unfold Ij at h
 refine Ar (n := 27) (rs := [.tmp 4]) Tryz.func157 rfl rfl rfl (AZ rfl) (AZ rfl) rfl fun w0 S0 => ?_
 refine Ab (Aa Ad rfl (qb rfl (qa rfl (Ae (Ab (Aa Ad rfl (qf Du rfl (ql Bw rfl (qm rfl ?_)))))))))
 obtain ⟨v1, a1, b1, h⟩ := Aj h
 refine qi AJ Es a1 (Ag b1) rfl (qk Dn rfl ?_)
 obtain ⟨c2, h⟩ := AW h
 refine IX rfl c2 (qa rfl (Ae ?_))
 refine AK h (fun v3 => mk [(5, .e (.one (.pure (.val (.int .u8 v3)))))] []) (fun j3 h => ?_) (fun v3 h => ?_)
 ·refine Ab (Aa Ad rfl (qf CU rfl (ql Bw rfl (qm rfl ?_))))
  obtain ⟨v4, a4, b4, h⟩ := Aj h
  refine qi AJ Es a4 (Ag b4) rfl (qk Dn rfl (Dl rfl (Ae ?_)))
  refine Ap rfl (fun c5 => ?_) (fun c5 => ?_)
  ·have h := An c5 h
   refine Aa Ad rfl (qm rfl (qf CU rfl (ql Bw rfl (qm rfl ?_))))
   obtain ⟨v6, a6, b6, h⟩ := Aj h
   refine qi AJ Es a6 (Ag b6) rfl (qk Dn rfl ?_)
   obtain ⟨c7, h⟩ := AW h
   refine IX rfl c7 (Ro rfl (qa rfl (Ae ?_)))
   exact Av _ h (sm [] _ _ rfl rfl)
  ·have h := Ao c5 h
   refine Aq ?_
   exact Av _ h (sm [] _ _ rfl rfl)
 ·refine Ab (Aa Ad rfl (qm rfl (qa rfl (Ae ?_))))
  obtain rfl := sj h
  refine Am (sm [] [(4, .e (.one (.pure (.val (.int .u8 v3)))))] [] rfl rfl) (Ax ?_)
  exact ⟨⟨[_], ⟨.tmp _ _ rfl, trivial⟩, rfl⟩, trivial⟩
set_option maxRecDepth 10000 in
theorem IQ (N : Nat) (p0 : Int) (r : Int) (h : EV N p0 = some r) : AA Tryz.prog 169 [.e (.one (.pure (.val (.int .u8 p0))))] [] (.e (.one (.pure (.val (.int .i64 r))))) := by
 unfold EV at h
 refine Ar (n := 6) (rs := [.tmp 2]) Tryz.func169 rfl rfl rfl (AZ rfl) (AZ rfl) rfl fun w0 S0 => ?_
 refine Ab (Aa Ad rfl (qa rfl (Ae (Ab (Aa Ad rfl (qm rfl ?_))))))
 obtain ⟨v1, a1, h⟩ := bind_some h
 refine LE (.p rfl) rfl rfl SS a1 ?_
 refine Gk Sq P7 rfl (qa rfl (Ae ?_))
 obtain rfl := sj h
 refine Am (sm [] [(2, .e (.one (.pure (.val (.int .i64 ((IntKind.wrap .i64 v1)))))))] [] rfl rfl) (Ax ?_)
 exact ⟨⟨[_], ⟨.tmp _ _ rfl, trivial⟩, rfl⟩, trivial⟩
set_option maxRecDepth 10000 in
theorem Ll (N : Nat) (p0 : AQ) (p1 : Int) (p2 : Int) (r : Bool) (h : He N p0 p1 p2 = some r) : AA Tryz.prog 158 [.e (.agg [.pure (.val (.int .i64 p0.fKind)), .pure (.val (.int .i64 p0.fFrom)), .pure (.val (.int .i64 p0.fTo)), .pure (.val (.bool p0.fAware)), .pure (.sl (p0.fOK.map (Gl eB))), .pure (.sl (p0.fRewrite.map (Gl eB)))]), .e (.one (.pure (.val (.int .u8 p1)))), .e (.one (.pure (.val (.int .i64 p2))))] [] (.e (.one (.pure (.val (.bool r))))) := by
 unfold He at h
 refine Ar (n := 25) (rs := [.tmp 6]) Tryz.func158 rfl rfl rfl (AZ rfl) (AZ rfl) rfl fun w0 S0 => ?_
 refine Ab (Aa Ad rfl (qb rfl (qa rfl (Ae (Ab (Ab (Aa Ad rfl (qm rfl (qa rfl (Ae ?_))))))))))
 refine AB (L := E8 N p0 p2) h (fun v1 => mk [(2, .e (.one (.pure (.val (.int .i64 p2))))), (3, .e (.one (.ptr 3 0))), (7, .e (.one (.pure (.val (.int .u8 v1)))))] [(3, .box [.pure (.val (.int .i64 p0.fKind)), .pure (.val (.int .i64 p0.fFrom)), .pure (.val (.int .i64 p0.fTo)), .pure (.val (.bool p0.fAware)), .pure (.sl (p0.fOK.map (Gl eB))), .pure (.sl (p0.fRewrite.map (Gl eB)))])]) (fun v2 => mk [] []) (fun _ _ => rfl) (sm [] _ _ rfl rfl) (fun j1 n1 v1 h => ?_) (fun v2 s h hs => ?_)
 ·unfold E8 at h
  refine Ab (Ab (Aa Ad rfl (qm rfl (Cy rfl (Ae ?_)))))
  refine Ap rfl (fun c3 => ?_) (fun c3 => ?_)
  ·have h := An c3 h
   refine Aq (Ab (AD (Ab (Aa Ad rfl (qf Hw rfl (ql Le rfl (qm rfl ?_)))))))
   obtain ⟨v4, a4, h⟩ := bind_some h
   refine AG [] (IQ N v1 v4 a4) Vn rfl ?_
   obtain ⟨v5, a5, b5, h⟩ := Aj h
   refine qi Hp Oe a5 (Ag b5) rfl (qk Qr rfl (qm rfl ?_))
   obtain ⟨v6, a6, b6, h⟩ := Aj h
   refine qi HQ PX a6 (Ag b6) rfl (qk S9 rfl (CC rfl (Az (by kernel_rfl) ?_)))
   refine Ap rfl (fun c7 => ?_) (fun c7 => ?_)
   ·have h := An c7 h
    refine Ab (Aa Ad rfl (qa rfl (Ae ?_)))
    obtain rfl := sj h
    refine Am (sm [] [(6, .e (.one (.pure (.val (.bool false)))))] [] rfl rfl) (Ax ?_)
    exact ⟨⟨[_], ⟨.tmp _ _ rfl, trivial⟩, rfl⟩, trivial⟩
   ·have h := Ao c7 h
    refine Aq (Aa Ad rfl (qm rfl (qm rfl (Bb rfl (KD rfl (qa rfl (Ae ?_)))))))
    exact Av _ h (sm [] _ _ rfl rfl)
  ·have h := Ao c3 h
   refine AL ?_
   exact Av _ h (sm [] _ _ rfl rfl)
 ·refine Am hs (Ab (Aa Ad rfl (qa rfl (Ae ?_))))
  obtain rfl := sj h
  refine Am (sm [] [(6, .e (.one (.pure (.val (.bool true)))))] [] rfl rfl) (Ax ?_)
  exact ⟨⟨[_], ⟨.tmp _ _ rfl, trivial⟩, rfl⟩, trivial⟩
set_option maxRecDepth 10000 in
theorem Ol (N : Nat) (p0 : Al) (p1 : Ah) (p2 : Int) (r : Bool × (List Int)) (h : Jk N p0 p1 p2 = some r) : A9 Tryz.prog 125 [.e (.agg [.pure (.sl (p0.fVersions.map Ak)), .pure (.sl (p0.fNow.map Ak)), .pure (.sl (p0.fTarget.map Ak)), .pure (.sl (p0.fTables.map Au))]), .e (.one (.ptr 90000 0)), .e (.one (.pure (.val (.int .i64 p2))))] [(.box [.own 90001, .own 90002, .own 90003], .box [.own 90001, .own 90002, .own 90003]), (.vec 1 (p1.fBase.map Ak), .vec 1 (p1.fBase.map Ak)), (.vec 1 (p1.fNext.map Ak), .vec 1 (p1.fNext.map Ak)), (.vec 1 (p1.fHeld.map Bv), .vec 1 (r.2.map Bv))] [] (.e (.one (.pure (.val (.bool r.1))))) := by
 unfold Jk at h
 refine AY (n := 68) (rs := [.tmp 6]) Tryz.func125 rfl rfl rfl (AZ rfl) (AZ rfl) rfl rfl (AZ rfl) rfl (AZ rfl) fun w0 S0 GL => ?_
 refine Am (sm [] [(0, .e (.agg [.pure (.sl (p0.fVersions.map Ak)), .pure (.sl (p0.fNow.map Ak)), .pure (.sl (p0.fTarget.map Ak)), .pure (.sl (p0.fTables.map Au))])), (1, .e (.one (.ptr 90000 0))), (2, .e (.one (.pure (.val (.int .i64 p2)))))] [(90000, .box [.own 90001, .own 90002, .own 90003]), (90001, .vec 1 (p1.fBase.map Ak)), (90002, .vec 1 (p1.fNext.map Ak)), (90003, .vec 1 (p1.fHeld.map Bv))] rfl rfl) (Ab (Aa Ad rfl (qb rfl (qa rfl (Ae (Ab (Aa Ad rfl (qf EC rfl (ql JG rfl (qm rfl ?_))))))))))
 obtain ⟨v1, a1, b1, h⟩ := Aj h
 refine qi FC Fj a1 (Ag b1) rfl (qK IS Fj rfl (qz K9 rfl (qs Fj rfl (Ae (Ab (Ab (Aa Ad rfl (qL IS Fj rfl ?_))))))))
 obtain ⟨v2, a2, h⟩ := bind_some h
 refine AG [] (KG N v1 v2 a2) Tg rfl (CC rfl (Ae ?_))
 refine Ap rfl (fun c3 => ?_) (fun c3 => ?_)
 ·have h := An c3 h
  refine Ab (Aa Ad rfl (qa rfl (Ae ?_)))
  obtain rfl := sj h
  refine Am (sm [] [(6, .e (.one (.pure (.val (.bool false)))))] [(90000, .box [.own 90001, .own 90002, .own 90003]), (90001, .vec 1 (p1.fBase.map Ak)), (90002, .vec 1 (p1.fNext.map Ak)), (90003, .vec 1 (p1.fHeld.map Bv))] rfl rfl) (Ax ?_)
  exact ⟨⟨[_], ⟨.tmp _ _ rfl, trivial⟩, rfl⟩, ⟨rfl, rfl, rfl, rfl, trivial⟩, trivial⟩
 ·have h := Ao c3 h
  refine Aq (Ab (Aa Ad rfl (qm rfl (M9 rfl (qL A6 Ay rfl (qf Et rfl (ql Dn rfl ?_)))))))
  obtain ⟨v4, a4, h⟩ := bind_some h
  refine DE [] [90001, 90002, 90003] (MZ N p1 v1.fFrom v4 a4) UY Cf rfl (qa rfl (Az (by kernel_rfl) (Ab (Aa Ad rfl (qm rfl (M9 rfl (qf DX rfl (ql It rfl (qm rfl ?_)))))))))
  obtain ⟨v5, a5, b5, h⟩ := Aj h
  refine qI EB HM a5 (Ag b5) rfl (qj KO (Ag b5) rfl (qm rfl (IM rfl (qa rfl (Ae (Ab ?_))))))
  refine AK h (fun v6 => mk [(1, .e (.one (.ptr 90000 0))), (2, .e (.one (.pure (.val (.int .i64 p2))))), (8, .e (.one (.pure (.val (.int .u8 v4))))), (60, .e (.one (.pure (.val (.bool v6)))))] [(90000, .box [.own 90001, .own 90002, .own 90003]), (90001, .vec 1 (p1.fBase.map Ak)), (90002, .vec 1 (p1.fNext.map Ak)), (90003, .vec 1 (p1.fHeld.map Bv))]) (fun j6 h => ?_) (fun v6 h => ?_)
  ·refine Aa Ad rfl (qm rfl (M9 rfl (qf DX rfl (ql It rfl (qm rfl ?_)))))
   obtain ⟨v7, a7, b7, h⟩ := Aj h
   refine qI EB HM a7 (Ag b7) rfl (qj KO (Ag b7) rfl (qm rfl (Cp rfl (qm rfl ?_))))
   refine AC (t := 42) rfl (fun c8 => ?_) (fun c8 => ?_)
   ·have h := An c8 h
    refine qn rfl (qn rfl (qn rfl (qn rfl (qu rfl (qu rfl (qu rfl (qu rfl (qu rfl (qu rfl (qu rfl (qu rfl (qu rfl (qu rfl (qu rfl (qu rfl (qn rfl (qp rfl (Az (by kernel_rfl) ?_))))))))))))))))))
    exact Av _ h (sm [] _ _ rfl rfl)
   ·have h := Ao c8 h
    refine qf GH rfl (ql Dn rfl (Cp rfl (qm rfl ?_)))
    refine AC (t := 46) rfl (fun c9 => ?_) (fun c9 => ?_)
    ·have h := An c9 h
     refine qL IS Fj rfl (qm rfl (qm rfl (M9 rfl (qf Du rfl (ql Bw rfl (qf Et rfl (ql Dn rfl ?_)))))))
     obtain ⟨v10, a10, b10, h⟩ := Aj h
     refine qI AJ Es a10 (Ag b10) rfl (qj Dn (Ag b10) rfl ?_)
     obtain ⟨v11, a11, h⟩ := bind_some h
     refine AG [] (Ll N v1 ((Ed .u8 v5 v4)) v10 v11 a11) VN rfl (CC rfl (qp rfl (qp rfl (Az (by kernel_rfl) ?_))))
     exact Av _ h (sm [] _ _ rfl rfl)
    ·have h := Ao c9 h
     refine qn rfl (qn rfl (qn rfl (qn rfl (qn rfl (qn rfl (qn rfl (qn rfl (qn rfl (qn rfl (qn rfl (qn rfl (qp rfl (qp rfl (Az (by kernel_rfl) ?_))))))))))))))
     exact Av _ h (sm [] _ _ rfl rfl)
  ·refine Ap rfl (fun c12 => ?_) (fun c12 => ?_)
   ·have h := An c12 h
    refine Ab (Aa Ad rfl (qa rfl (Ae ?_)))
    obtain rfl := sj h
    refine Am (sm [] [(6, .e (.one (.pure (.val (.bool false)))))] [(90000, .box [.own 90001, .own 90002, .own 90003]), (90001, .vec 1 (p1.fBase.map Ak)), (90002, .vec 1 (p1.fNext.map Ak)), (90003, .vec 1 (p1.fHeld.map Bv))] rfl rfl) (Ax ?_)
    exact ⟨⟨[_], ⟨.tmp _ _ rfl, trivial⟩, rfl⟩, ⟨rfl, rfl, rfl, rfl, trivial⟩, trivial⟩
   ·have h := Ao c12 h
    refine Aq (Ab (Aa Ad rfl (qm rfl (M9 rfl (qf DX rfl (ql It rfl (qm rfl (qm rfl ?_))))))))
    obtain ⟨v13, a13, b13, h⟩ := Aj h
    refine qI EB HM a13 (Ag b13) rfl ?_
    refine AT rfl rfl rfl rfl (Ag b13) rfl HM rfl (AZ rfl) (AU Bv p1.fHeld _ v4) ?_
    refine Ae (Ab (Aa Ad rfl (qa rfl (Ae ?_))))
    obtain rfl := sj h
    refine Am (sm [] [(6, .e (.one (.pure (.val (.bool true)))))] [(90000, .box [.own 90001, .own 90002, .own 90003]), (90001, .vec 1 (p1.fBase.map Ak)), (90002, .vec 1 (p1.fNext.map Ak)), (90003, .vec 1 ((p1.fHeld.set ((p2).toNat) v4).map Bv))] rfl rfl) (Ax ?_)
    exact ⟨⟨[_], ⟨.tmp _ _ rfl, trivial⟩, rfl⟩, ⟨rfl, rfl, rfl, rfl, trivial⟩, trivial⟩
set_option maxRecDepth 10000 in
theorem Lk (N : Nat) (p0 : Al) (p1 : Ah) (p2 : AH) (r : Ah × Bool) (h : H2 N p0 p1 p2 = some r) : AA Tryz.prog 97 [.e (.agg [.pure (.sl (p0.fVersions.map Ak)), .pure (.sl (p0.fNow.map Ak)), .pure (.sl (p0.fTarget.map Ak)), .pure (.sl (p0.fTables.map Au))]), .e (.agg [.pure (.sl (p1.fBase.map Ak)), .pure (.sl (p1.fNext.map Ak)), .pure (.sl (p1.fHeld.map Bv))]), .e (.agg [.pure (.val (.int .i64 p2.fKind)), .pure (.val (.int .i64 p2.fIndex)), .pure (.val (.int .i64 p2.fVersion))])] [(1, r.1.fBase.map Ak), (1, r.1.fNext.map Ak), (1, r.1.fHeld.map Bv)] (.tup [.agg [.own 0, .own 1, .own 2], .one (.pure (.val (.bool r.2)))]) := by
 unfold H2 at h
 refine Ar (n := 51) (rs := [.cell 6 46, .tmp 7]) Tryz.func97 rfl rfl rfl (AZ rfl) (AZ rfl) rfl fun w0 S0 => ?_
 refine Ab (Aa Ad rfl (qb rfl (qb rfl (qb rfl (qz DN rfl (qa rfl (Ae (Ab (Aa Ad rfl (qL A6 Ay rfl ?_))))))))))
 obtain ⟨v1, a1, h⟩ := bind_some h
 refine AG [2001, 2002, 2003] (Nn N p1 v1 a1) UH rfl (qz DN rfl (qs Ay rfl (Ae (Ab (Ab (Aa Ad rfl (qf JO rfl (ql Dn rfl (Ae (AD (Ab (Aa Ad rfl (Cp rfl (qa rfl (Ae ?_)))))))))))))))
 refine Ap rfl (fun c2 => ?_) (fun c2 => ?_)
 ·have h := An c2 h
  refine Ab (Aa Ad rfl (qL A6 Ay rfl (qL EE Ek rfl (qL JP FQ rfl ?_))))
  obtain ⟨v3, a3, h⟩ := bind_some h
  refine Bp (ds0 := [_, _, _]) [8, 2001, 2002, 2003] [] [false, false, true, true] (Og N p0 v1 p2 v3 a3) (.p rfl) Vx rfl ⟨rfl, rfl, rfl, trivial⟩ rfl rfl (by decide) ⟨rfl, rfl, rfl, rfl, trivial⟩ rfl (AM rfl) trivial ⟨(fun _ => rfl), (fun _ => rfl), (fun h => by cases h), (fun h => by cases h), trivial⟩ rfl rfl rfl ?_
  refine qs Ay rfl (qa rfl (Az (by kernel_rfl) ?_))
  obtain rfl := sj h
  refine Am (sm [(1000, 2001), (1001, 2002), (1002, 2003)] [(6, .e (.one (.ptr 6 0))), (7, .e (.one (.pure (.val (.bool v3.1)))))] [(6, .box [.own 1000, .own 1001, .own 1002]), (1000, .vec 1 (v1.fBase.map Ak)), (1001, .vec 1 (v3.2.1.map Ak)), (1002, .vec 1 (v3.2.2.map Bv))] rfl rfl) (Ax ?_)
  exact ⟨⟨[_, _], ⟨.cellN _ _ _ _ _ _ _ rfl rfl A6 Ay rfl rfl (Kw rfl), ⟨.tmp _ _ rfl, trivial⟩⟩, rfl⟩, ⟨rfl, rfl, rfl, trivial⟩⟩
 ·have h := Ao c2 h
  refine Ab (Aa Ad rfl (Cp rfl (qa rfl (Ae ?_))))
  refine Ap rfl (fun c4 => ?_) (fun c4 => ?_)
  ·have h := An c4 h
   refine Ab (Aa Ad rfl (qL A6 Ay rfl (qL EE Ek rfl (qf G4 rfl (ql Dn rfl ?_)))))
   obtain ⟨v5, a5, h⟩ := bind_some h
   refine Bp (ds0 := [_, _, _]) [8, 2001, 2002, 2003] [] [false, false, false, true] (Ol N p0 v1 p2.fIndex v5 a5) (.p rfl) Vm rfl ⟨rfl, rfl, rfl, trivial⟩ rfl rfl (by decide) ⟨rfl, rfl, rfl, rfl, trivial⟩ rfl (AM rfl) trivial ⟨(fun _ => rfl), (fun _ => rfl), (fun _ => rfl), (fun h => by cases h), trivial⟩ rfl rfl rfl ?_
   refine qs Ay rfl (qa rfl (Az (by kernel_rfl) ?_))
   obtain rfl := sj h
   refine Am (sm [(1000, 2001), (1001, 2002), (1002, 2003)] [(6, .e (.one (.ptr 6 0))), (7, .e (.one (.pure (.val (.bool v5.1)))))] [(6, .box [.own 1000, .own 1001, .own 1002]), (1000, .vec 1 (v1.fBase.map Ak)), (1001, .vec 1 (v1.fNext.map Ak)), (1002, .vec 1 (v5.2.map Bv))] rfl rfl) (Ax ?_)
   exact ⟨⟨[_, _], ⟨.cellN _ _ _ _ _ _ _ rfl rfl A6 Ay rfl rfl (Kw rfl), ⟨.tmp _ _ rfl, trivial⟩⟩, rfl⟩, ⟨rfl, rfl, rfl, trivial⟩⟩
  ·have h := Ao c4 h
   refine Aq (Ab (Aa Ad rfl (qf CU rfl (ql Bw rfl (qf G4 rfl (ql Dn rfl ?_))))))
   obtain ⟨v6, a6, b6, h⟩ := Aj h
   refine qI AJ Es a6 (Ag b6) rfl (qj Dn (Ag b6) rfl (qa rfl (Ae (Ab (Ab (Aa Ad rfl (qm rfl (AR rfl (Ae ?_)))))))))
   refine Ap rfl (fun c7 => ?_) (fun c7 => ?_)
   ·have h := An c7 h
    refine Ab (Aa Ad rfl (qL A6 Ay rfl (qs Ay rfl (qa rfl (Ae ?_)))))
    obtain rfl := sj h
    refine Am (sm [(1000, 2001), (1001, 2002), (1002, 2003)] [(6, .e (.one (.ptr 6 0))), (7, .e (.one (.pure (.val (.bool false)))))] [(6, .box [.own 1000, .own 1001, .own 1002]), (1000, .vec 1 (v1.fBase.map Ak)), (1001, .vec 1 (v1.fNext.map Ak)), (1002, .vec 1 (v1.fHeld.map Bv))] rfl rfl) (Ax ?_)
    exact ⟨⟨[_, _], ⟨.cellN _ _ _ _ _ _ _ rfl rfl A6 Ay rfl rfl (Kw rfl), ⟨.tmp _ _ rfl, trivial⟩⟩, rfl⟩, ⟨rfl, rfl, rfl, trivial⟩⟩
   ·have h := Ao c7 h
    refine Aq (Ab (Aa Ad rfl (qf CU rfl (ql Bw rfl (qf G4 rfl (ql Dn rfl ?_))))))
    obtain ⟨v8, a8, b8, h⟩ := Aj h
    refine qI AJ Es a8 (Ag b8) rfl ?_
    refine AT rfl rfl rfl rfl (Ag b8) rfl Es rfl (AZ rfl) (AU Ak v1.fNext _ ((-1))) ?_
    refine Ae ?_
    refine AK h (fun v9 => mk [(6, .e (.one (.ptr 6 0))), (8, .e (.one (.ptr 8 0)))] [(6, .box [.pure (.nil0), .pure (.nil0), .pure (.nil0)]), (8, .box [.own 2004, .own 2005, .own 2006]), (2004, .vec 1 (v9.map Ak)), (2005, .vec 1 ((v1.fNext.set ((p2.fIndex).toNat) ((-1))).map Ak)), (2006, .vec 1 (v1.fHeld.map Bv))]) (fun j9 h => ?_) (fun v9 h => ?_)
    ·refine Ab (Aa Ad rfl (qf JO rfl (ql Dn rfl (Cp rfl (Ae ?_)))))
     refine Ap rfl (fun c10 => ?_) (fun c10 => ?_)
     ·have h := An c10 h
      refine Aa Ad rfl (qf Du rfl (ql Bw rfl (qf G4 rfl (ql Dn rfl (qm rfl ?_)))))
      obtain ⟨v11, a11, b11, h⟩ := Aj h
      refine qI AJ Es a11 (Ag b11) rfl ?_
      refine AT rfl rfl rfl rfl (Ag b11) rfl Es rfl (AZ rfl) (AU Ak v1.fBase _ v6) ?_
      refine Ae ?_
      exact Av _ h (sm [(2004, 2001), (2005, 2002), (2006, 2003)] _ _ rfl rfl)
     ·have h := Ao c10 h
      refine Aq ?_
      exact Av _ h (sm [(2004, 2001), (2005, 2002), (2006, 2003)] _ _ rfl rfl)
    ·refine Ab (Aa Ad rfl (qL A6 Ay rfl (qs Ay rfl (qa rfl (Ae ?_)))))
     obtain rfl := sj h
     refine Am (sm [(1000, 2004), (1001, 2005), (1002, 2006)] [(6, .e (.one (.ptr 6 0))), (7, .e (.one (.pure (.val (.bool true)))))] [(6, .box [.own 1000, .own 1001, .own 1002]), (1000, .vec 1 (v9.map Ak)), (1001, .vec 1 ((v1.fNext.set ((p2.fIndex).toNat) ((-1))).map Ak)), (1002, .vec 1 (v1.fHeld.map Bv))] rfl rfl) (Ax ?_)
     exact ⟨⟨[_, _], ⟨.cellN _ _ _ _ _ _ _ rfl rfl A6 Ay rfl rfl (Kw rfl), ⟨.tmp _ _ rfl, trivial⟩⟩, rfl⟩, ⟨rfl, rfl, rfl, trivial⟩⟩
set_option maxRecDepth 10000 in
theorem Lv (N : Nat) (p0 : AH) (p1 : List Int) (p2 : List Int) (p3 : List Int) (p4 : List AQ) (p5 : List Int) (p6 : List Int) (p7 : List Int) (r : Bool) (h : Fn N p0 p1 p2 p3 p4 p5 p6 p7 = some r) : AA Tryz.prog 96 [.e (.agg [.pure (.val (.int .i64 p0.fKind)), .pure (.val (.int .i64 p0.fIndex)), .pure (.val (.int .i64 p0.fVersion))]), .e (.one (.rop [.sl (p1.map Ak), .sl (p2.map Ak), .sl (p3.map Ak), .sl (p4.map Au)])), .e (.one (.rop [.sl (p5.map Ak), .sl (p6.map Ak), .sl (p7.map Bv)]))] [] (.e (.one (.pure (.val (.bool r))))) := by
 unfold Fn at h
 refine Ar (n := 16) (rs := [.tmp 4]) Tryz.func96 rfl rfl rfl (AZ rfl) (AZ rfl) rfl fun w0 S0 => ?_
 refine Ab (Aa Ad rfl (qb rfl (qa rfl (Ae (Ab (Aa Ad rfl (qK EE Ek rfl (qK A6 Ay rfl (qL JP FQ rfl ?_)))))))))
 obtain ⟨v1, a1, h⟩ := bind_some h
 refine AG [2001, 2002, 2003] (Lk N ((Al.mk p1 p2 p3 p4)) ((Ah.mk p5 p6 p7)) p0 v1 a1) UF rfl (qm rfl (qx rfl (qx rfl (qz DN rfl (qs Ay rfl (qa rfl (Ae (Ab (Aa Ad rfl (qm rfl (CC rfl (qa rfl (Ae ?_)))))))))))))
 obtain rfl := sj h
 refine Am (sm [] [(4, .e (.one (.pure (.val (.bool ((!v1.2)))))))] [] rfl rfl) (Ax ?_)
 exact ⟨⟨[_], ⟨.tmp _ _ rfl, trivial⟩, rfl⟩, trivial⟩
set_option maxRecDepth 10000 in
theorem GM (N : Nat) (p0 : List AH) (p1 : AH → Option Bool) (r : Int) (h : DG N p0 p1 = some r) : AA Tryz.prog 122 [.e (.one (.pure (.sl (p0.map A3)))), .e (.one (.clo (A0 (L4 true A3) tB p1)))] [] (.e (.one (.pure (.val (.int .i64 r))))) := by
 unfold DG at h
 refine Ar (n := 19) (rs := [.tmp 4]) Tryz.func122 rfl rfl rfl (AZ rfl) (AZ rfl) rfl fun w0 S0 => ?_
 refine Ab (Aa Ad rfl (qa rfl (Ae (Ab (Ab (Aa Ad rfl (qm rfl (AP FR rfl (qm rfl (Ae ?_))))))))))
 refine AB (L := Cs N p0 p1) h (fun v1 => mk [(0, .e (.one (.pure (.sl (p0.map A3))))), (1, .e (.one (.clo (A0 (L4 true A3) tB p1)))), (7, .e (.one (.pure (.val (.int .i64 ((p0.length : Int))))))), (8, .e (.one (.pure (.val (.int .i64 v1)))))] []) (fun v2 => mk [] []) (fun _ _ => rfl) (sm [] _ _ rfl rfl) (fun j1 n1 v1 h => ?_) (fun v2 s h hs => ?_)
 ·unfold Cs at h
  refine Ab (Aa Ad rfl (AR rfl (Ae (Ab ?_))))
  refine Ap rfl (fun c3 => ?_) (fun c3 => ?_)
  ·have h := An c3 h
   refine Aq (Ab (AD (Ab (Aa Ad rfl (qm rfl (qa rfl (Ae (Ab (Aa Ad rfl (qm rfl (qm rfl (qm rfl ?_))))))))))))
   obtain ⟨v4, a4, b4, h⟩ := Aj h
   refine qi FR FQ a4 (Ag b4) rfl (qK JP FQ rfl ?_)
   obtain ⟨v5, a5, h⟩ := bind_some h
   refine CK (ds0 := [_]) (ar := (L4 true A3) v4) (.p rfl) rfl rfl ⟨rfl, trivial⟩ rfl rfl rfl (CA (Lm _ _ Mx) a5) ?_
   refine Ae ?_
   refine Ap rfl (fun c6 => ?_) (fun c6 => ?_)
   ·have h := An c6 h
    refine Ab (Aa Ad rfl (qm rfl (qa rfl (Ae ?_))))
    obtain rfl := sj h
    refine Am (sm [] [(4, .e (.one (.pure (.val (.int .i64 v1)))))] [] rfl rfl) (Ax ?_)
    exact ⟨⟨[_], ⟨.tmp _ _ rfl, trivial⟩, rfl⟩, trivial⟩
   ·have h := Ao c6 h
    refine Aq (Aa Ad rfl (AI rfl (qm rfl (Ae ?_))))
    exact Av _ h (sm [] _ _ rfl rfl)
  ·have h := Ao c3 h
   refine AL ?_
   exact Av _ h (sm [] _ _ rfl rfl)
 ·refine Am hs (Ab (Aa Ad rfl (qa rfl (Ae ?_))))
  obtain rfl := sj h
  refine Am (sm [] [(4, .e (.one (.pure (.val (.int .i64 ((-1)))))))] [] rfl rfl) (Ax ?_)
  exact ⟨⟨[_], ⟨.tmp _ _ rfl, trivial⟩, rfl⟩, trivial⟩
set_option maxRecDepth 10000 in
theorem GD (N : Nat) (p0 : List AH) (p1 : AH → Option Bool) (r : Nat × (List AH)) (h : Dz N p0 p1 = some r) : A9 Tryz.prog 94 [.e (.one (.own 90000)), .e (.one (.clo (A0 (L4 true A3) tB p1)))] [(.vec 3 (p0.map A3), .vec 3 (r.2.map A3))] [] (.e (.one (.view 90000 3 0 r.1))) := by
 unfold Dz at h
 refine AY (n := 42) (rs := [.tmp 4]) Tryz.func94 rfl rfl rfl (AZ rfl) (AZ rfl) rfl rfl (AZ rfl) rfl (AZ rfl) fun w0 S0 GL => ?_
 refine Am (sm [] [(0, .e (.one (.own 90000))), (1, .e (.one (.clo (A0 (L4 true A3) tB p1))))] [(90000, .vec 3 (p0.map A3))] rfl rfl) (Ab (Aa Ad rfl (qa rfl (Ae (Ab (Aa Ad rfl (qm rfl (qm rfl ?_))))))))
 obtain ⟨v1, a1, h⟩ := bind_some h
 refine DE [] [90000] (GM N p0 p1 v1 a1) VA Cf rfl (qa rfl (Ae (Ab (Ab (Aa Ad rfl (qm rfl (Cp rfl (Ae ?_))))))))
 refine Ap rfl (fun c2 => ?_) (fun c2 => ?_)
 ·have h := An c2 h
  refine Ab (Aa Ad rfl (qm rfl (qa rfl (Ae ?_))))
  obtain rfl := sj h
  refine Am ((NX A3 p0 4 90000 3 rfl rfl).trans (sm [] [(4, .e (.one (.view 90000 3 0 p0.length)))] [(90000, .vec 3 (p0.map A3))] rfl rfl)) (Ax ?_)
  exact ⟨⟨[_], ⟨.tmp _ _ rfl, trivial⟩, rfl⟩, ⟨rfl, trivial⟩, trivial⟩
 ·have h := Ao c2 h
  refine Aq (Ab (Ab (Aa Ad rfl (qm rfl (AI rfl (qa rfl (Ae ?_)))))))
  refine AB (L := Ci N p1) h (fun v3 => mk [(0, .e (.one (.own 90000))), (1, .e (.one (.clo (A0 (L4 true A3) tB p1)))), (5, .e (.one (.pure (.val (.int .i64 v3.2.1))))), (6, .e (.one (.pure (.val (.int .i64 v3.2.2)))))] [(90000, .vec 3 (v3.1.map A3))]) (fun v4 => mk [(0, .e (.one (.own 90000))), (5, .e (.one (.pure (.val (.int .i64 v4.2)))))] [(90000, .vec 3 (v4.1.map A3))]) (fun _ _ => rfl) (sm [] _ _ rfl rfl) (fun j3 n3 v3 h => ?_) (fun v4 s h hs => ?_)
  ·unfold Ci at h
   refine Ab (Ab (Aa Ad rfl (qm rfl (qm rfl (Fz FR rfl (AR rfl (Ae ?_)))))))
   refine Ap rfl (fun c5 => ?_) (fun c5 => ?_)
   ·have h := An c5 h
    refine Aq ?_
    refine AK h (fun v6 => mk [(0, .e (.one (.own 90000))), (1, .e (.one (.clo (A0 (L4 true A3) tB p1)))), (5, .e (.one (.pure (.val (.int .i64 v6.2))))), (6, .e (.one (.pure (.val (.int .i64 v3.2.2)))))] [(90000, .vec 3 (v6.1.map A3))]) (fun j6 h => ?_) (fun v6 h => ?_)
    ·refine AD (Ab (Aa Ad rfl (qm rfl (qm rfl ?_))))
     obtain ⟨v7, a7, b7, h⟩ := Aj h
     refine qI FR FQ a7 (Ag b7) rfl (qJ JP FQ (Ag b7) rfl (qz J9 rfl (qs FQ rfl (Ae (Ab (Aa Ad rfl (qm rfl (qL JP FQ rfl ?_))))))))
     obtain ⟨v8, a8, h⟩ := bind_some h
     refine CK (ds0 := [_]) (ar := (L4 true A3) v7) (.p rfl) rfl rfl ⟨rfl, trivial⟩ rfl rfl rfl (CA (Lm _ _ Mx) a8) ?_
     refine CC rfl (Ae ?_)
     refine Ap rfl (fun c9 => ?_) (fun c9 => ?_)
     ·have h := An c9 h
      refine Ab (Aa Ad rfl (qm rfl (qm rfl (qL JP FQ rfl ?_))))
      obtain ⟨v10, a10, b10, h⟩ := Aj h
      refine qI FR FQ a10 (Ag b10) rfl ?_
      refine AT rfl rfl rfl rfl (Ag b10) rfl FQ rfl (AZ rfl) (AU A3 v3.1 _ v7) ?_
      refine Ae (Aa Ad rfl (qm rfl (AI rfl (qa rfl (Ae ?_)))))
      exact Av _ h (sm [] _ _ rfl rfl)
     ·have h := Ao c9 h
      refine Aq ?_
      exact Av _ h (sm [] _ _ rfl rfl)
    ·refine Aa Ad rfl (qm rfl (AI rfl (qa rfl (Ae ?_))))
     exact Av _ h (sm [] _ _ rfl rfl)
   ·have h := Ao c5 h
    refine AL ?_
    exact Av _ h (sm [] _ _ rfl rfl)
  ·refine Am hs (Ab (Aa Ad rfl (qm rfl (qm rfl ?_))))
   obtain ⟨c11, h⟩ := AW h
   have w12 : ((v4.2).toNat) + ((v4.1.length - (v4.2).toNat)) ≤ v4.1.length := by have := c11.2.1; have := c11.2.2; omega
   refine IV A3 v4.1 (.p rfl) rfl (Ib A3 _ _ v4.1) rfl FR FQ (.some _ _ _ _ c11.1) (.none _) ⟨rfl, trivial⟩ trivial c11.2.1 (by rw [Nat.zero_add]; exact c11.2.2) (Nat.zero_add _) rfl ?_
   have w13 : (Jw v4.1 ((v4.2).toNat) (List.replicate ((v4.1.length - (v4.2).toNat)) ((AH.mk 0 0 0)))).length = v4.1.length := JL (by rw [List.length_replicate]; exact w12)
   refine O1 A3 v4.1 ((AH.mk 0 0 0)) rfl rfl (LQ A3 _ _ ((v4.2).toNat) ((v4.1.length - (v4.2).toNat)) v4.1 w12) rfl FR J9 rfl rfl rfl rfl ?_
   refine Ae (Ab (Aa Ad rfl (qm rfl (qm rfl ?_))))
   obtain ⟨c14, h⟩ := AW h
   have w15 : 0 + ((v4.2).toNat) ≤ (Jw v4.1 ((v4.2).toNat) (List.replicate ((v4.1.length - (v4.2).toNat)) ((AH.mk 0 0 0)))).length := by have := c14.2.1; have := c14.2.2; omega
   refine IV A3 (Jw v4.1 ((v4.2).toNat) (List.replicate ((v4.1.length - (v4.2).toNat)) ((AH.mk 0 0 0)))) (.p rfl) rfl (Ib A3 _ _ (Jw v4.1 ((v4.2).toNat) (List.replicate ((v4.1.length - (v4.2).toNat)) ((AH.mk 0 0 0))))) rfl FR FQ (.none _) (.some _ _ _ _ c14.1) trivial ⟨rfl, trivial⟩ c14.2.1 (by rw [Nat.zero_add]; exact c14.2.2) (Nat.zero_add _) rfl ?_
   refine qa rfl (Ae ?_)
   obtain rfl := sj h
   refine Am (sm [] [(4, .e (.one (.view 90000 3 0 ((v4.2).toNat))))] [(90000, .vec 3 ((Jw v4.1 ((v4.2).toNat) (List.replicate ((v4.1.length - (v4.2).toNat)) ((AH.mk 0 0 0)))).map A3))] rfl rfl) (Ax ?_)
   exact ⟨⟨[_], ⟨.tmp _ _ rfl, trivial⟩, rfl⟩, ⟨rfl, trivial⟩, trivial⟩
set_option maxRecDepth 10000 in
theorem IH (N : Nat) (p0 : Al) (p1 : Ah) (r : (List AH) × Int) (h : F1 N p0 p1 = some r) : AA Tryz.prog 48 [.e (.agg [.pure (.sl (p0.fVersions.map Ak)), .pure (.sl (p0.fNow.map Ak)), .pure (.sl (p0.fTarget.map Ak)), .pure (.sl (p0.fTables.map Au))]), .e (.agg [.pure (.sl (p1.fBase.map Ak)), .pure (.sl (p1.fNext.map Ak)), .pure (.sl (p1.fHeld.map Bv))])] [(3, r.1.map A3)] (.tup [.one (.own 0), .one (.pure (.val (.int .i64 r.2)))]) := by
 unfold F1 at h
 refine Ar (n := 17) (rs := [.tmp 4, .tmp 5]) Tryz.func48 rfl rfl rfl (AZ rfl) (AZ rfl) rfl fun w0 S0 => ?_
 refine Ab (Aa Ad rfl (qb rfl (qb rfl (qa rfl (qa rfl (Ae (Ab (Ab (Aa Ad rfl (qL EE Ek rfl (qL A6 Ay rfl ?_)))))))))))
 obtain ⟨v1, a1, h⟩ := bind_some h
 refine AG [] (Id N p0 p1 v1 a1) RP rfl (qa rfl (Ae (Ab (Aa Ad rfl (qm rfl (Cy rfl (Ae ?_)))))))
 refine Ap rfl (fun c2 => ?_) (fun c2 => ?_)
 ·have h := An c2 h
  refine Ab (Aa Ad rfl (qm rfl (qa rfl (qa rfl (Ae ?_)))))
  obtain rfl := sj h
  refine Am ((BR 4 2001 3 rfl rfl rfl).trans (sm [(1000, 2001)] [(4, .e (.one (.own 1000))), (5, .e (.one (.pure (.val (.int .i64 v1)))))] [(1000, .vec 3 ((([] : List AH)).map A3))] rfl rfl)) (Ax ?_)
  exact ⟨⟨[_, _], ⟨.tmp _ _ rfl, ⟨.tmp _ _ rfl, trivial⟩⟩, rfl⟩, ⟨rfl, trivial⟩⟩
 ·have h := Ao c2 h
  refine Aq (Ab (Aa Ad rfl (qL EE Ek rfl ?_)))
  obtain ⟨v3, a3, h⟩ := bind_some h
  refine AG [2002] (Pj N p0 v3 a3) V1 rfl (En (K8 2 [.sl (p0.fVersions.map Ak), .sl (p0.fNow.map Ak), .sl (p0.fTarget.map Ak), .sl (p0.fTables.map Au)] rfl rfl) (En (K8 3 [.sl (p1.fBase.map Ak), .sl (p1.fNext.map Ak), .sl (p1.fHeld.map Bv)] rfl rfl) ?_))
  refine KM (capD := [_, _]) (A0 (L4 true A3) tB ((fun (x : AH) => Fn N x p0.fVersions p0.fNow p0.fTarget p0.fTables p1.fBase p1.fNext p1.fHeld))) (.p rfl) Wn rfl ⟨rfl, rfl, trivial⟩ rfl (fun ar t ht => by obtain ⟨x, r, rfl, hq, rfl⟩ := HV ht; exact Lv N x p0.fVersions p0.fNow p0.fTarget p0.fTables p1.fBase p1.fNext p1.fHeld r hq) ?_
  obtain ⟨v4, a4, h⟩ := bind_some h
  obtain ⟨c5, h⟩ := AW h
  have w6 : 0 + v4.1 ≤ v4.2.length := by rw [Nat.zero_add]; exact c5
  refine Bp (ds0 := [_, _]) [2002] [] [true] (GD N v3 ((fun (x : AH) => Fn N x p0.fVersions p0.fNow p0.fTarget p0.fTables p1.fBase p1.fNext p1.fHeld)) v4 a4) (.p rfl) Wv rfl ⟨rfl, rfl, trivial⟩ rfl rfl (by decide) ⟨rfl, trivial⟩ rfl (AM rfl) trivial ⟨(fun h => by cases h), trivial⟩ rfl rfl rfl ?_
  refine En (RL A3 v4.2 16 2002 2003 3 v4.1 rfl rfl rfl rfl rfl c5) (qa rfl (qa rfl (Ae ?_)))
  obtain rfl := sj h
  refine Am (sm [(1000, 2003)] [(4, .e (.one (.own 1000))), (5, .e (.one (.pure (.val (.int .i64 0)))))] [(1000, .vec 3 ((v4.2.take v4.1).map A3))] rfl rfl) (Ax ?_)
  exact ⟨⟨[_, _], ⟨.tmp _ _ rfl, ⟨.tmp _ _ rfl, trivial⟩⟩, rfl⟩, ⟨rfl, trivial⟩⟩
set_option maxRecDepth 10000 in
theorem Or (N : Nat) (p0 : AH) (r : Bool) (h : Ji N p0 = some r) : AA Tryz.prog 126 [.e (.agg [.pure (.val (.int .i64 p0.fKind)), .pure (.val (.int .i64 p0.fIndex)), .pure (.val (.int .i64 p0.fVersion))])] [] (.e (.one (.pure (.val (.bool r))))) := by
 unfold Ji at h
 refine Ar (n := 27) (rs := [.tmp 2]) Tryz.func126 rfl rfl rfl (AZ rfl) (AZ rfl) rfl fun w0 S0 => ?_
 refine Ab (Aa Ad rfl (qb rfl (qa rfl (Ae (Ab ?_)))))
 refine AK h (fun v1 => mk [(1, .e (.one (.ptr 1 0))), (18, .e (.one (.pure (.val (.bool v1)))))] [(1, .box [.pure (.val (.int .i64 p0.fKind)), .pure (.val (.int .i64 p0.fIndex)), .pure (.val (.int .i64 p0.fVersion))])]) (fun j1 h => ?_) (fun v1 h => ?_)
 ·refine Aa Ad rfl (qf G4 rfl (ql Dn rfl (qf Ks rfl (ql Dn rfl ?_))))
  refine Vs (.p rfl) rfl rfl ?_
  refine AR rfl (qm rfl ?_)
  refine AC (t := 9) rfl (fun c2 => ?_) (fun c2 => ?_)
  ·have h := An c2 h
   refine qn rfl (qn rfl (qn rfl (qp rfl (qm rfl (qn rfl (qn rfl (qn rfl (qp rfl (Ae ?_)))))))))
   exact Av _ h (sm [] _ _ rfl rfl)
  ·have h := Ao c2 h
   refine qf JO rfl (ql Dn rfl (AR rfl (qp rfl (qm rfl ?_))))
   refine AC (t := 14) rfl (fun c3 => ?_) (fun c3 => ?_)
   ·have h := An c3 h
    refine qn rfl (qn rfl (qn rfl (qp rfl (Ae ?_))))
    exact Av _ h (sm [] _ _ rfl rfl)
   ·have h := Ao c3 h
    refine qf JO rfl (ql Dn rfl (EA rfl (qp rfl (Ae ?_))))
    exact Av _ h (sm [] _ _ rfl rfl)
 ·refine Ap rfl (fun c4 => ?_) (fun c4 => ?_)
  ·have h := An c4 h
   refine Ab (Aa Ad rfl (qa rfl (Ae ?_)))
   obtain rfl := sj h
   refine Am (sm [] [(2, .e (.one (.pure (.val (.bool false)))))] [] rfl rfl) (Ax ?_)
   exact ⟨⟨[_], ⟨.tmp _ _ rfl, trivial⟩, rfl⟩, trivial⟩
  ·have h := Ao c4 h
   refine Aq ?_
   refine AK h (fun v5 => mk [(2, .e (.one (.pure (.val (.bool v5)))))] []) (fun j5 h => ?_) (fun v5 h => ?_)
   ·refine Aa Ad rfl (qf JO rfl (ql Dn rfl (Cp rfl (qm rfl ?_))))
    refine AC (t := 22) rfl (fun c6 => ?_) (fun c6 => ?_)
    ·have h := An c6 h
     refine qn rfl (qn rfl (qn rfl (qp rfl (qa rfl (Ae ?_)))))
     exact Av _ h (sm [] _ _ rfl rfl)
    ·have h := Ao c6 h
     refine qf Ks rfl (ql Dn rfl (Cp rfl (qp rfl (qa rfl (Ae ?_)))))
     exact Av _ h (sm [] _ _ rfl rfl)
   ·obtain rfl := sj h
    refine Am (sm [] [(2, .e (.one (.pure (.val (.bool v5)))))] [] rfl rfl) (Ax ?_)
    exact ⟨⟨[_], ⟨.tmp _ _ rfl, trivial⟩, rfl⟩, trivial⟩
set_option maxRecDepth 10000 in
theorem Ng (N : Nat) (p0 : Al) (p1 : AH) (r : Bool) (h : IG N p0 p1 = some r) : AA Tryz.prog 127 [.e (.agg [.pure (.sl (p0.fVersions.map Ak)), .pure (.sl (p0.fNow.map Ak)), .pure (.sl (p0.fTarget.map Ak)), .pure (.sl (p0.fTables.map Au))]), .e (.agg [.pure (.val (.int .i64 p1.fKind)), .pure (.val (.int .i64 p1.fIndex)), .pure (.val (.int .i64 p1.fVersion))])] [] (.e (.one (.pure (.val (.bool r))))) := by
 unfold IG at h
 refine Ar (n := 36) (rs := [.tmp 4]) Tryz.func127 rfl rfl rfl (AZ rfl) (AZ rfl) rfl fun w0 S0 => ?_
 refine Ab (Aa Ad rfl (qb rfl (qb rfl (qa rfl (Ae (Ab (Ab (Aa Ad rfl (qf JO rfl (ql Dn rfl (Cp rfl (Ae ?_))))))))))))
 refine Ap rfl (fun c1 => ?_) (fun c1 => ?_)
 ·have h := An c1 h
  refine Ab (Aa Ad rfl (qf G4 rfl (ql Dn rfl (qf EC rfl (ql JG rfl (AP FC rfl (AR rfl (qa rfl (Ae ?_)))))))))
  obtain rfl := sj h
  refine Am (sm [] [(4, .e (.one (.pure (.val (.bool ((decide (p1.fIndex < (p0.fTables.length : Int)))))))))] [] rfl rfl) (Ax ?_)
  exact ⟨⟨[_], ⟨.tmp _ _ rfl, trivial⟩, rfl⟩, trivial⟩
 ·have h := Ao c1 h
  refine Aq ?_
  refine AK h (fun v2 => mk [(4, .e (.one (.pure (.val (.bool v2)))))] []) (fun j2 h => ?_) (fun v2 h => ?_)
  ·refine Aa Ad rfl (qf G4 rfl (ql Dn rfl (qf BZ rfl (ql Bw rfl (AP AJ rfl (AR rfl (qm rfl ?_)))))))
   refine AC (t := 20) rfl (fun c3 => ?_) (fun c3 => ?_)
   ·have h := An c3 h
    refine qf JO rfl (ql Dn rfl (Cy rfl (qm rfl ?_)))
    refine AC (t := 24) rfl (fun c4 => ?_) (fun c4 => ?_)
    ·have h := An c4 h
     refine qn rfl (qn rfl (qn rfl (qn rfl (qn rfl (qn rfl (qn rfl (qn rfl (qn rfl (qp rfl (qp rfl (qa rfl (Az (by kernel_rfl) ?_))))))))))))
     exact Av _ h (sm [] _ _ rfl rfl)
    ·have h := Ao c4 h
     refine qf Ks rfl (ql Dn rfl (qf BZ rfl (ql Bw rfl (qf G4 rfl (ql Dn rfl ?_)))))
     obtain ⟨v5, a5, b5, h⟩ := Aj h
     refine qi AJ Es a5 (Ag b5) rfl (qk Dn rfl (AR rfl (qp rfl (qp rfl (qa rfl (Az (by kernel_rfl) ?_))))))
     exact Av _ h (sm [] _ _ rfl rfl)
   ·have h := Ao c3 h
    refine qn rfl (qn rfl (qn rfl (qn rfl (qu rfl (qu rfl (qu rfl (qu rfl (qu rfl (qu rfl (qu rfl (qu rfl (qu rfl (qn rfl (qp rfl (qa rfl (Az (by kernel_rfl) ?_))))))))))))))))
    exact Av _ h (sm [] _ _ rfl rfl)
  ·obtain rfl := sj h
   refine Am (sm [] [(4, .e (.one (.pure (.val (.bool v2)))))] [] rfl rfl) (Ax ?_)
   exact ⟨⟨[_], ⟨.tmp _ _ rfl, trivial⟩, rfl⟩, trivial⟩
set_option maxRecDepth 10000 in
theorem Oz (N : Nat) (p0 : Al) (p1 : Ah) (p2 : AH) (r : Ah × Int) (h : Jf N p0 p1 p2 = some r) : AA Tryz.prog 98 [.e (.agg [.pure (.sl (p0.fVersions.map Ak)), .pure (.sl (p0.fNow.map Ak)), .pure (.sl (p0.fTarget.map Ak)), .pure (.sl (p0.fTables.map Au))]), .e (.agg [.pure (.sl (p1.fBase.map Ak)), .pure (.sl (p1.fNext.map Ak)), .pure (.sl (p1.fHeld.map Bv))]), .e (.agg [.pure (.val (.int .i64 p2.fKind)), .pure (.val (.int .i64 p2.fIndex)), .pure (.val (.int .i64 p2.fVersion))])] [(1, r.1.fBase.map Ak), (1, r.1.fNext.map Ak), (1, r.1.fHeld.map Bv)] (.tup [.agg [.own 0, .own 1, .own 2], .one (.pure (.val (.int .i64 r.2)))]) := by
 unfold Jf at h
 refine Ar (n := 32) (rs := [.cell 6 46, .tmp 7]) Tryz.func98 rfl rfl rfl (AZ rfl) (AZ rfl) rfl fun w0 S0 => ?_
 refine Ab (Aa Ad rfl (qb rfl (qb rfl (qb rfl (qz DN rfl (qa rfl (Ae (Ab (AD (Ab (Aa Ad rfl (qL JP FQ rfl ?_))))))))))))
 obtain ⟨v1, a1, h⟩ := bind_some h
 refine AG [] (Or N p2 v1 a1) VH rfl (CC rfl (qa rfl (Ae ?_)))
 refine Ap rfl (fun c2 => ?_) (fun c2 => ?_)
 ·have h := An c2 h
  refine Ab (Aa Ad rfl (CO DN Jv rfl (qs Ay rfl (qa rfl (Ae ?_)))))
  obtain rfl := sj h
  refine Am ((A1 6 0 2001 1 _ rfl rfl rfl rfl).trans ((A1 6 1 2002 1 _ rfl rfl rfl rfl).trans ((A1 6 2 2003 1 _ rfl rfl rfl rfl).trans (sm [(1000, 2001), (1001, 2002), (1002, 2003)] [(6, .e (.one (.ptr 6 0))), (7, .e (.one (.pure (.val (.int .i64 1)))))] [(6, .box [.own 1000, .own 1001, .own 1002]), (1000, .vec 1 ((([] : List Int)).map Ak)), (1001, .vec 1 ((([] : List Int)).map Ak)), (1002, .vec 1 ((([] : List Int)).map Bv))] rfl rfl)))) (Ax ?_)
  exact ⟨⟨[_, _], ⟨.cellN _ _ _ _ _ _ _ rfl rfl A6 Ay rfl rfl (Kw rfl), ⟨.tmp _ _ rfl, trivial⟩⟩, rfl⟩, ⟨rfl, rfl, rfl, trivial⟩⟩
 ·have h := Ao c2 h
  refine Ab (Aa Ad rfl (qL EE Ek rfl (qL JP FQ rfl ?_)))
  obtain ⟨v3, a3, h⟩ := bind_some h
  refine AG [] (Ng N p0 p2 v3 a3) UQ rfl (CC rfl (qa rfl (Ae ?_)))
  refine Ap rfl (fun c4 => ?_) (fun c4 => ?_)
  ·have h := An c4 h
   refine Ab (Aa Ad rfl (CO DN Jv rfl (qs Ay rfl (qa rfl (Ae ?_)))))
   obtain rfl := sj h
   refine Am ((A1 6 0 2004 1 _ rfl rfl rfl rfl).trans ((A1 6 1 2005 1 _ rfl rfl rfl rfl).trans ((A1 6 2 2006 1 _ rfl rfl rfl rfl).trans (sm [(1000, 2004), (1001, 2005), (1002, 2006)] [(6, .e (.one (.ptr 6 0))), (7, .e (.one (.pure (.val (.int .i64 4)))))] [(6, .box [.own 1000, .own 1001, .own 1002]), (1000, .vec 1 ((([] : List Int)).map Ak)), (1001, .vec 1 ((([] : List Int)).map Ak)), (1002, .vec 1 ((([] : List Int)).map Bv))] rfl rfl)))) (Ax ?_)
   exact ⟨⟨[_, _], ⟨.cellN _ _ _ _ _ _ _ rfl rfl A6 Ay rfl rfl (Kw rfl), ⟨.tmp _ _ rfl, trivial⟩⟩, rfl⟩, ⟨rfl, rfl, rfl, trivial⟩⟩
  ·have h := Ao c4 h
   refine Aq (Ab (Aa Ad rfl (qL EE Ek rfl (qL A6 Ay rfl (qL JP FQ rfl ?_)))))
   obtain ⟨v5, a5, h⟩ := bind_some h
   refine AG [2007, 2008, 2009] (Lk N p0 p1 p2 v5 a5) UF rfl (qm rfl (qx rfl (qx rfl (qz DN rfl (qs Ay rfl (qa rfl (Ae (Ab (Ab (Aa Ad rfl (qm rfl (CC rfl (Ae ?_)))))))))))))
   refine Ap rfl (fun c6 => ?_) (fun c6 => ?_)
   ·have h := An c6 h
    refine Ab (Aa Ad rfl (CO DN Jv rfl (qs Ay rfl (qa rfl (Ae ?_)))))
    obtain rfl := sj h
    refine Am ((A1 6 0 2010 1 _ rfl rfl rfl rfl).trans ((A1 6 1 2011 1 _ rfl rfl rfl rfl).trans ((A1 6 2 2012 1 _ rfl rfl rfl rfl).trans (sm [(1000, 2010), (1001, 2011), (1002, 2012)] [(6, .e (.one (.ptr 6 0))), (7, .e (.one (.pure (.val (.int .i64 11)))))] [(6, .box [.own 1000, .own 1001, .own 1002]), (1000, .vec 1 ((([] : List Int)).map Ak)), (1001, .vec 1 ((([] : List Int)).map Ak)), (1002, .vec 1 ((([] : List Int)).map Bv))] rfl rfl)))) (Ax ?_)
    exact ⟨⟨[_, _], ⟨.cellN _ _ _ _ _ _ _ rfl rfl A6 Ay rfl rfl (Kw rfl), ⟨.tmp _ _ rfl, trivial⟩⟩, rfl⟩, ⟨rfl, rfl, rfl, trivial⟩⟩
   ·have h := Ao c6 h
    refine Aq (Ab (Aa Ad rfl (qL A6 Ay rfl (qs Ay rfl (qa rfl (Ae ?_))))))
    obtain rfl := sj h
    refine Am (sm [(1000, 2007), (1001, 2008), (1002, 2009)] [(6, .e (.one (.ptr 6 0))), (7, .e (.one (.pure (.val (.int .i64 0)))))] [(6, .box [.own 1000, .own 1001, .own 1002]), (1000, .vec 1 (v5.1.fBase.map Ak)), (1001, .vec 1 (v5.1.fNext.map Ak)), (1002, .vec 1 (v5.1.fHeld.map Bv))] rfl rfl) (Ax ?_)
    exact ⟨⟨[_, _], ⟨.cellN _ _ _ _ _ _ _ rfl rfl A6 Ay rfl rfl (Kw rfl), ⟨.tmp _ _ rfl, trivial⟩⟩, rfl⟩, ⟨rfl, rfl, rfl, trivial⟩⟩
set_option maxRecDepth 10000 in
theorem JS (N : Nat) (p0 : Al) (p1 : Ah) (p2 : AH) (r : Ah × Int) (h : GT N p0 p1 p2 = some r) : AA Tryz.prog 49 [.e (.agg [.pure (.sl (p0.fVersions.map Ak)), .pure (.sl (p0.fNow.map Ak)), .pure (.sl (p0.fTarget.map Ak)), .pure (.sl (p0.fTables.map Au))]), .e (.agg [.pure (.sl (p1.fBase.map Ak)), .pure (.sl (p1.fNext.map Ak)), .pure (.sl (p1.fHeld.map Bv))]), .e (.agg [.pure (.val (.int .i64 p2.fKind)), .pure (.val (.int .i64 p2.fIndex)), .pure (.val (.int .i64 p2.fVersion))])] [(1, r.1.fBase.map Ak), (1, r.1.fNext.map Ak), (1, r.1.fHeld.map Bv)] (.tup [.agg [.own 0, .own 1, .own 2], .one (.pure (.val (.int .i64 r.2)))]) := by
 unfold GT at h
 refine Ar (n := 22) (rs := [.cell 6 46, .tmp 7]) Tryz.func49 rfl rfl rfl (AZ rfl) (AZ rfl) rfl fun w0 S0 => ?_
 refine Ab (Aa Ad rfl (qb rfl (qb rfl (qb rfl (qz DN rfl (qa rfl (Ae (Ab (Ab (Aa Ad rfl (qL EE Ek rfl (qL A6 Ay rfl ?_))))))))))))
 obtain ⟨v1, a1, h⟩ := bind_some h
 refine AG [] (Id N p0 p1 v1 a1) RP rfl (qa rfl (Ae (Ab (Aa Ad rfl (qm rfl (Cy rfl (Ae ?_)))))))
 refine Ap rfl (fun c2 => ?_) (fun c2 => ?_)
 ·have h := An c2 h
  refine Ab (Aa Ad rfl (CO DN Jv rfl (qm rfl (qs Ay rfl (qa rfl (Ae ?_))))))
  obtain rfl := sj h
  refine Am ((A1 6 0 2001 1 _ rfl rfl rfl rfl).trans ((A1 6 1 2002 1 _ rfl rfl rfl rfl).trans ((A1 6 2 2003 1 _ rfl rfl rfl rfl).trans (sm [(1000, 2001), (1001, 2002), (1002, 2003)] [(6, .e (.one (.ptr 6 0))), (7, .e (.one (.pure (.val (.int .i64 v1)))))] [(6, .box [.own 1000, .own 1001, .own 1002]), (1000, .vec 1 ((([] : List Int)).map Ak)), (1001, .vec 1 ((([] : List Int)).map Ak)), (1002, .vec 1 ((([] : List Int)).map Bv))] rfl rfl)))) (Ax ?_)
  exact ⟨⟨[_, _], ⟨.cellN _ _ _ _ _ _ _ rfl rfl A6 Ay rfl rfl (Kw rfl), ⟨.tmp _ _ rfl, trivial⟩⟩, rfl⟩, ⟨rfl, rfl, rfl, trivial⟩⟩
 ·have h := Ao c2 h
  refine Aq (Ab (Aa Ad rfl (qL EE Ek rfl (qL A6 Ay rfl (qL JP FQ rfl ?_)))))
  obtain ⟨v3, a3, h⟩ := bind_some h
  refine AG [2004, 2005, 2006] (Oz N p0 p1 p2 v3 a3) Wm rfl (qx rfl (qx rfl (qs Ay rfl (qa rfl (Ae ?_)))))
  obtain rfl := sj h
  refine Am (sm [(1000, 2004), (1001, 2005), (1002, 2006)] [(6, .e (.one (.ptr 6 0))), (7, .e (.one (.pure (.val (.int .i64 v3.2)))))] [(6, .box [.own 1000, .own 1001, .own 1002]), (1000, .vec 1 (v3.1.fBase.map Ak)), (1001, .vec 1 (v3.1.fNext.map Ak)), (1002, .vec 1 (v3.1.fHeld.map Bv))] rfl rfl) (Ax ?_)
  exact ⟨⟨[_, _], ⟨.cellN _ _ _ _ _ _ _ rfl rfl A6 Ay rfl rfl (Kw rfl), ⟨.tmp _ _ rfl, trivial⟩⟩, rfl⟩, ⟨rfl, rfl, rfl, trivial⟩⟩
set_option maxRecDepth 10000 in
theorem Od (N : Nat) (p0 : Al) (p1 : Ah) (r : (List AH) × (List Ah)) (h : Jo N p0 p1 = some r) : AA Tryz.prog 85 [.e (.agg [.pure (.sl (p0.fVersions.map Ak)), .pure (.sl (p0.fNow.map Ak)), .pure (.sl (p0.fTarget.map Ak)), .pure (.sl (p0.fTables.map Au))]), .e (.agg [.pure (.sl (p1.fBase.map Ak)), .pure (.sl (p1.fNext.map Ak)), .pure (.sl (p1.fHeld.map Bv))])] [(3, r.1.map A3), (3, r.2.map Ai)] (.tup [.one (.own 0), .one (.own 1)]) := by
 unfold Jo at h
 refine Ar (n := 55) (rs := [.tmp 4, .tmp 5]) Tryz.func85 rfl rfl rfl (AZ rfl) (AZ rfl) rfl fun w0 S0 => ?_
 refine Ab (Aa Ad rfl (qb rfl (qb rfl (qa rfl (qa rfl (Ae (Ab (Aa Ad rfl (qa rfl (Ae (Ab (Aa Ad rfl (qa rfl (Ae (Ab (Aa Ad rfl (qL EE Ek rfl (qL A6 Ay rfl ?_))))))))))))))))))
 obtain ⟨v1, a1, h⟩ := bind_some h
 refine AG [2001] (IH N p0 p1 v1 a1) T3 rfl (qm rfl (qx rfl (qx rfl (qa rfl (qa rfl (Ae (Ab (Ab (Aa Ad rfl (qm rfl (Fz FR rfl (qm rfl (Ae ?_)))))))))))))
 refine AB (L := GG N p0 p1 v1) h (fun v2 => mk [(2, .e (.one (.ptr 2 0))), (3, .e (.one (.ptr 3 0))), (6, .e (.one (.own 2002))), (7, .e (.one (.own 2003))), (22, .e (.one (.own 2004))), (23, .e (.one (.pure (.val (.int .i64 ((v1.1.length : Int))))))), (24, .e (.one (.pure (.val (.int .i64 v2.2.2)))))] [(2, .box [.pure (.sl (p0.fVersions.map Ak)), .pure (.sl (p0.fNow.map Ak)), .pure (.sl (p0.fTarget.map Ak)), .pure (.sl (p0.fTables.map Au))]), (3, .box [.pure (.sl (p1.fBase.map Ak)), .pure (.sl (p1.fNext.map Ak)), .pure (.sl (p1.fHeld.map Bv))]), (2002, .vec 3 (v2.1.map A3)), (2003, .vec 3 (v2.2.1.map Ai)), (2004, .vec 3 (v1.1.map A3))]) (fun v3 => mk [(6, .e (.one (.own 2005))), (7, .e (.one (.own 2006)))] [(2005, .vec 3 (v3.1.map A3)), (2006, .vec 3 (v3.2.map Ai))]) (fun _ _ => rfl) ((BR 6 2013 3 rfl rfl rfl).trans ((BR 7 2014 3 rfl rfl rfl).trans (sm [(2002, 2013), (2003, 2014), (2004, 2001)] _ _ rfl rfl))) (fun j2 n2 v2 h => ?_) (fun v3 s h hs => ?_)
 ·unfold GG at h
  refine Ab (Aa Ad rfl (AR rfl (Ae (Ab ?_))))
  refine Ap rfl (fun c4 => ?_) (fun c4 => ?_)
  ·have h := An c4 h
   refine Aq ?_
   refine AK h (fun v5 => mk [(2, .e (.one (.ptr 2 0))), (3, .e (.one (.ptr 3 0))), (6, .e (.one (.own 2007))), (7, .e (.one (.own 2008))), (22, .e (.one (.own 2009))), (23, .e (.one (.pure (.val (.int .i64 ((v1.1.length : Int))))))), (24, .e (.one (.pure (.val (.int .i64 v2.2.2)))))] [(2, .box [.pure (.sl (p0.fVersions.map Ak)), .pure (.sl (p0.fNow.map Ak)), .pure (.sl (p0.fTarget.map Ak)), .pure (.sl (p0.fTables.map Au))]), (3, .box [.pure (.sl (p1.fBase.map Ak)), .pure (.sl (p1.fNext.map Ak)), .pure (.sl (p1.fHeld.map Bv))]), (2007, .vec 3 (v5.1.map A3)), (2008, .vec 3 (v5.2.map Ai)), (2009, .vec 3 (v1.1.map A3))]) (fun j5 h => ?_) (fun v5 h => ?_)
   ·refine AD (Ab (Aa Ad rfl ?_))
    obtain ⟨v6, a6, b6, h⟩ := Aj h
    refine qI FR FQ a6 (Ag b6) rfl (qJ JP FQ (Ag b6) rfl (qz J9 rfl (qs FQ rfl (Ae (Ab (Aa Ad rfl (qL EE Ek rfl (qL A6 Ay rfl (qL JP FQ rfl ?_)))))))))
    obtain ⟨v7, a7, h⟩ := bind_some h
    refine AG [2010, 2011, 2012] (JS N p0 p1 v6 v7 a7) Uc rfl (qm rfl (qx rfl (qx rfl (qz DN rfl (qs Ay rfl (qa rfl (Ae (Ab (Ab (Aa Ad rfl (qm rfl (Cy rfl (Ae ?_)))))))))))))
    refine Ap rfl (fun c8 => ?_) (fun c8 => ?_)
    ·have h := An c8 h
     refine AL ?_
     exact Av _ h (sm [(2007, 2002), (2008, 2003), (2009, 2004)] _ _ rfl rfl)
    ·have h := Ao c8 h
     refine Aq (Ab (Aa Ad rfl (qL EE Ek rfl (qL A6 Ay rfl ?_))))
     obtain ⟨v9, a9, h⟩ := bind_some h
     refine DE [] [2010, 2011, 2012] (HJ N p0 v7.1 v9 a9) Rc Cf rfl (qm rfl (qx rfl (qx rfl (qa rfl (qa rfl (Ae (Ab (Aa Ad rfl (qm rfl (Ae ?_))))))))))
     refine Ap rfl (fun c10 => ?_) (fun c10 => ?_)
     ·have h := An c10 h
      refine Am (Bl 2010 _ _ rfl rfl) (Am (Bl 2011 _ _ rfl rfl) (Am (Bl 2012 _ _ rfl rfl) (Aa Ad rfl (qm rfl (qL JP FQ rfl (EX FR FQ J9 rfl ?_))))))
      obtain ⟨c11, h⟩ := AW h
      refine Ep (f := A3) FR FR FQ Qf J9 c11 rfl (qm rfl (qL A6 Ay rfl (EX AS Ay DN rfl ?_)))
      obtain ⟨c12, h⟩ := AW h
      refine Ep (f := Ai) AS AS Ay P6 DN c12 rfl (qa rfl (qa rfl (Az (by kernel_rfl) ?_)))
      exact Av _ h (sm [(2007, 47), (2008, 51), (2009, 2004)] _ _ rfl rfl)
     ·have h := Ao c10 h
      refine Aq ?_
      exact Av _ h (sm [(2007, 2002), (2008, 2003), (2009, 2004)] _ _ rfl rfl)
   ·refine Aa Ad rfl (AI rfl (qm rfl (Ae ?_)))
    exact Av _ h (sm [(2002, 2007), (2003, 2008), (2004, 2009)] _ _ rfl rfl)
  ·have h := Ao c4 h
   refine AL ?_
   exact Av _ h (sm [(2005, 2002), (2006, 2003)] _ _ rfl rfl)
 ·refine Am hs (Ab (Aa Ad rfl (qm rfl (qm rfl (qa rfl (qa rfl (Ae ?_)))))))
  obtain rfl := sj h
  refine Am (sm [(1000, 2005), (1001, 2006)] [(4, .e (.one (.own 1000))), (5, .e (.one (.own 1001)))] [(1000, .vec 3 (v3.1.map A3)), (1001, .vec 3 (v3.2.map Ai))] rfl rfl) (Ax ?_)
  exact ⟨⟨[_, _], ⟨.tmp _ _ rfl, ⟨.tmp _ _ rfl, trivial⟩⟩, rfl⟩, ⟨rfl, rfl, trivial⟩⟩
set_option maxRecDepth 10000 in
theorem K3 (N : Nat) (p0 : Int) (r : Int) (h : G8 N p0 = some r) : AA Tryz.prog 140 [.e (.one (.pure (.val (.int .u32 p0))))] [] (.e (.one (.pure (.val (.int .i64 r))))) := by
 unfold G8 at h
 refine Ar (n := 19) (rs := [.tmp 2]) Tryz.func140 rfl rfl rfl (AZ rfl) (AZ rfl) rfl fun w0 S0 => ?_
 refine Ab (Aa Ad rfl (qa rfl (Ae ?_)))
 refine AK h (fun v1 => mk [(0, .e (.one (.pure (.val (.int .u32 v1.1))))), (2, .e (.one (.pure (.val (.int .i64 v1.2)))))] []) (fun j1 h => ?_) (fun v1 h => ?_)
 ·refine Ab (Aa Ad rfl (qm rfl (Dl rfl (Ae ?_))))
  refine Ap rfl (fun c2 => ?_) (fun c2 => ?_)
  ·have h := An c2 h
   refine Ab (Aa Ad rfl (qm rfl (HP rfl (by decide) (qa rfl (Ae (Aa Ad rfl (qa rfl (Ae ?_))))))))
   exact Av _ h (sm [] _ _ rfl rfl)
  ·have h := Ao c2 h
   refine Aq ?_
   exact Av _ h (sm [] _ _ rfl rfl)
 ·refine AK h (fun v3 => mk [(0, .e (.one (.pure (.val (.int .u32 v3.1))))), (2, .e (.one (.pure (.val (.int .i64 v3.2)))))] []) (fun j3 h => ?_) (fun v3 h => ?_)
  ·refine Ab (Aa Ad rfl (qm rfl (Dl rfl (Ae ?_))))
   refine Ap rfl (fun c4 => ?_) (fun c4 => ?_)
   ·have h := An c4 h
    refine Ab (Aa Ad rfl (qm rfl (HP rfl (by decide) (qa rfl (Ae (Aa Ad rfl (qm rfl (AI rfl (qa rfl (Ae ?_))))))))))
    exact Av _ h (sm [] _ _ rfl rfl)
   ·have h := Ao c4 h
    refine Aq ?_
    exact Av _ h (sm [] _ _ rfl rfl)
  ·refine Ab (Aa Ad rfl (qm rfl (qm rfl (Gk OR VX rfl ?_))))
   obtain ⟨v5, a5, h⟩ := bind_some h
   refine LE (.p rfl) rfl rfl SS a5 ?_
   refine Gk Sq P7 rfl (AI rfl (qa rfl (Ae ?_)))
   obtain rfl := sj h
   refine Am (sm [] [(2, .e (.one (.pure (.val (.int .i64 ((IntKind.wrap .i64 (v3.2 + (IntKind.wrap .i64 v5)))))))))] [] rfl rfl) (Ax ?_)
   exact ⟨⟨[_], ⟨.tmp _ _ rfl, trivial⟩, rfl⟩, trivial⟩
set_option maxRecDepth 10000 in
theorem La (N : Nat) (p0 : Int) (r : Int) (h : Hc N p0 = some r) : AA Tryz.prog 141 [.e (.one (.pure (.val (.int .u64 p0))))] [] (.e (.one (.pure (.val (.int .i64 r))))) := by
 unfold Hc at h
 refine Ar (n := 25) (rs := [.tmp 2]) Tryz.func141 rfl rfl rfl (AZ rfl) (AZ rfl) rfl fun w0 S0 => ?_
 refine Ab (Aa Ad rfl (qa rfl (Ae ?_)))
 refine AK h (fun v1 => mk [(0, .e (.one (.pure (.val (.int .u64 v1.1))))), (2, .e (.one (.pure (.val (.int .i64 v1.2)))))] []) (fun j1 h => ?_) (fun v1 h => ?_)
 ·refine Ab (Aa Ad rfl (qm rfl (Dl rfl (Ae ?_))))
  refine Ap rfl (fun c2 => ?_) (fun c2 => ?_)
  ·have h := An c2 h
   refine Ab (Aa Ad rfl (qm rfl (HP rfl (by decide) (qa rfl (Ae (Aa Ad rfl (qa rfl (Ae ?_))))))))
   exact Av _ h (sm [] _ _ rfl rfl)
  ·have h := Ao c2 h
   refine Aq ?_
   exact Av _ h (sm [] _ _ rfl rfl)
 ·refine AK h (fun v3 => mk [(0, .e (.one (.pure (.val (.int .u64 v3.1))))), (2, .e (.one (.pure (.val (.int .i64 v3.2)))))] []) (fun j3 h => ?_) (fun v3 h => ?_)
  ·refine Ab (Aa Ad rfl (qm rfl (Dl rfl (Ae ?_))))
   refine Ap rfl (fun c4 => ?_) (fun c4 => ?_)
   ·have h := An c4 h
    refine Ab (Aa Ad rfl (qm rfl (HP rfl (by decide) (qa rfl (Ae (Aa Ad rfl (qm rfl (AI rfl (qa rfl (Ae ?_))))))))))
    exact Av _ h (sm [] _ _ rfl rfl)
   ·have h := Ao c4 h
    refine Aq ?_
    exact Av _ h (sm [] _ _ rfl rfl)
  ·refine AK h (fun v5 => mk [(0, .e (.one (.pure (.val (.int .u64 v5.1))))), (2, .e (.one (.pure (.val (.int .i64 v5.2)))))] []) (fun j5 h => ?_) (fun v5 h => ?_)
   ·refine Ab (Aa Ad rfl (qm rfl (Dl rfl (Ae ?_))))
    refine Ap rfl (fun c6 => ?_) (fun c6 => ?_)
    ·have h := An c6 h
     refine Ab (Aa Ad rfl (qm rfl (HP rfl (by decide) (qa rfl (Ae (Aa Ad rfl (qm rfl (AI rfl (qa rfl (Ae ?_))))))))))
     exact Av _ h (sm [] _ _ rfl rfl)
    ·have h := Ao c6 h
     refine Aq ?_
     exact Av _ h (sm [] _ _ rfl rfl)
   ·refine Ab (Aa Ad rfl (qm rfl (qm rfl (Gk QI VX rfl ?_))))
    obtain ⟨v7, a7, h⟩ := bind_some h
    refine LE (.p rfl) rfl rfl SS a7 ?_
    refine Gk Sq P7 rfl (AI rfl (qa rfl (Ae ?_)))
    obtain rfl := sj h
    refine Am (sm [] [(2, .e (.one (.pure (.val (.int .i64 ((IntKind.wrap .i64 (v5.2 + (IntKind.wrap .i64 v7)))))))))] [] rfl rfl) (Ax ?_)
    exact ⟨⟨[_], ⟨.tmp _ _ rfl, trivial⟩, rfl⟩, trivial⟩
set_option maxRecDepth 10000 in
theorem Ih (N : Nat) (p0 : Int) (r : Int) (h : FN N p0 = some r) : AA Tryz.prog 105 [.e (.one (.pure (.val (.int .u64 p0))))] [] (.e (.one (.pure (.val (.int .i64 r))))) := by
 unfold FN at h
 refine Ar (n := 8) (rs := [.tmp 2]) Tryz.func105 rfl rfl rfl (AZ rfl) (AZ rfl) rfl fun w0 S0 => ?_
 refine Ab (Aa Ad rfl (qa rfl (Ae (Ab ?_))))
 refine Ap rfl (fun c1 => ?_) (fun c1 => ?_)
 ·have h := An c1 h
  refine Ab (Aa Ad rfl (qm rfl (Gk MJ OZ rfl ?_)))
  obtain ⟨v2, a2, h⟩ := bind_some h
  refine AG [] (K3 N ((IntKind.wrap .u32 p0)) v2 a2) Ve rfl (qa rfl (Ae ?_))
  obtain rfl := sj h
  refine Am (sm [] [(2, .e (.one (.pure (.val (.int .i64 v2)))))] [] rfl rfl) (Ax ?_)
  exact ⟨⟨[_], ⟨.tmp _ _ rfl, trivial⟩, rfl⟩, trivial⟩
 ·have h := Ao c1 h
  refine Aq (Ab (Aa Ad rfl (qm rfl ?_)))
  obtain ⟨v3, a3, h⟩ := bind_some h
  refine AG [] (La N p0 v3 a3) VQ rfl (qa rfl (Ae ?_))
  obtain rfl := sj h
  refine Am (sm [] [(2, .e (.one (.pure (.val (.int .i64 v3)))))] [] rfl rfl) (Ax ?_)
  exact ⟨⟨[_], ⟨.tmp _ _ rfl, trivial⟩, rfl⟩, trivial⟩
set_option maxRecDepth 10000 in
theorem Gy (N : Nat) (p0 : List Ah) (p1 : Int) (p2 : Int) (p3 : (Ah × Ah) → Option Int) (r : (List Ah)) (h : Dy N p0 p1 p2 p3 = some r) : A9 Tryz.prog 145 [.e (.one (.own 90000)), .e (.one (.pure (.val (.int .i64 p1)))), .e (.one (.pure (.val (.int .i64 p2)))), .e (.one (.clo (A0 (Cq true Ai true Ai) A8 p3)))] [(.vec 3 (p0.map Ai), .vec 3 (r.map Ai))] [] (.tup []) := by
 unfold Dy at h
 refine AY (n := 53) (rs := []) Tryz.func145 rfl rfl rfl (AZ rfl) (AZ rfl) rfl rfl (AZ rfl) rfl (AZ rfl) fun w0 S0 GL => I4 ?_
 refine Am (sm [] [(0, .e (.one (.own 90000))), (1, .e (.one (.pure (.val (.int .i64 p1))))), (2, .e (.one (.pure (.val (.int .i64 p2))))), (3, .e (.one (.clo (A0 (Cq true Ai true Ai) A8 p3))))] [(90000, .vec 3 (p0.map Ai))] rfl rfl) (Ab (Aa Ad rfl (qm rfl (AI rfl (qa rfl (Ae ?_))))))
 refine AB (L := Cl N p1 p2 p3) h (fun v1 => mk [(0, .e (.one (.own 90000))), (1, .e (.one (.pure (.val (.int .i64 p1))))), (2, .e (.one (.pure (.val (.int .i64 p2))))), (3, .e (.one (.clo (A0 (Cq true Ai true Ai) A8 p3)))), (8, .e (.one (.pure (.val (.int .i64 v1.2)))))] [(90000, .vec 3 (v1.1.map Ai))]) (fun v2 => mk [] [(90000, .vec 3 (v2.map Ai))]) (fun _ _ => rfl) (sm [] _ _ rfl rfl) (fun j1 n1 v1 h => ?_) (fun v2 s h hs => ?_)
 ·unfold Cl at h
  refine Ab (Ab (Aa Ad rfl (qm rfl (qm rfl (AR rfl (Ae ?_))))))
  refine Ap rfl (fun c3 => ?_) (fun c3 => ?_)
  ·have h := An c3 h
   refine Aq (Ab (AD (Ab (Aa Ad rfl (qm rfl (qa rfl (Ae ?_)))))))
   refine AB (L := Ch N p1 p3) h (fun v4 => mk [(0, .e (.one (.own 90000))), (1, .e (.one (.pure (.val (.int .i64 p1))))), (2, .e (.one (.pure (.val (.int .i64 p2))))), (3, .e (.one (.clo (A0 (Cq true Ai true Ai) A8 p3)))), (8, .e (.one (.pure (.val (.int .i64 v1.2))))), (9, .e (.one (.pure (.val (.int .i64 v4.2)))))] [(90000, .vec 3 (v4.1.map Ai))]) (fun v5 => mk [(0, .e (.one (.own 90000))), (1, .e (.one (.pure (.val (.int .i64 p1))))), (2, .e (.one (.pure (.val (.int .i64 p2))))), (3, .e (.one (.clo (A0 (Cq true Ai true Ai) A8 p3)))), (8, .e (.one (.pure (.val (.int .i64 v1.2)))))] [(90000, .vec 3 (v5.map Ai))]) (fun _ _ => rfl) (sm [] _ _ rfl rfl) (fun j4 n4 v4 h => ?_) (fun v5 s h hs => ?_)
   ·unfold Ch at h
    refine Ab ?_
    refine AK h (fun v6 => mk [(0, .e (.one (.own 90000))), (1, .e (.one (.pure (.val (.int .i64 p1))))), (2, .e (.one (.pure (.val (.int .i64 p2))))), (3, .e (.one (.clo (A0 (Cq true Ai true Ai) A8 p3)))), (8, .e (.one (.pure (.val (.int .i64 v1.2))))), (9, .e (.one (.pure (.val (.int .i64 v4.2))))), (34, .e (.one (.pure (.val (.bool v6)))))] [(90000, .vec 3 (v4.1.map Ai))]) (fun j6 h => ?_) (fun v6 h => ?_)
    ·refine Aa Ad rfl (qm rfl (qm rfl (EA rfl (qm rfl ?_))))
     refine AC (t := 21) rfl (fun c7 => ?_) (fun c7 => ?_)
     ·have h := An c7 h
      refine qm rfl (qm rfl (qm rfl ?_))
      obtain ⟨v8, a8, b8, h⟩ := Aj h
      refine qI AS Ay a8 (Ag b8) rfl (qJ A6 Ay (Ag b8) rfl (qm rfl (qm rfl (Bb rfl ?_))))
      obtain ⟨v9, a9, b9, h⟩ := Aj h
      refine qI AS Ay a9 (Ag b9) rfl (qJ A6 Ay (Ag b9) rfl ?_)
      obtain ⟨v10, a10, h⟩ := bind_some h
      refine CK (ds0 := [_, _]) (ar := (Cq true Ai true Ai) ((v8, v9))) (.g rfl rfl) rfl rfl ⟨rfl, rfl, trivial⟩ rfl rfl rfl (CA (Dk _ _ _ _ Bu Bu) a10) ?_
      refine AR rfl (qp rfl (Az (by kernel_rfl) ?_))
      exact Av _ h (sm [] _ _ rfl rfl)
     ·have h := Ao c7 h
      refine qn rfl (qn rfl (qn rfl (qn rfl (qn rfl (qn rfl (qn rfl (qn rfl (qn rfl (qn rfl (qn rfl (qn rfl (qp rfl (Az (by kernel_rfl) ?_)))))))))))))
      exact Av _ h (sm [] _ _ rfl rfl)
    ·refine Ap rfl (fun c11 => ?_) (fun c11 => ?_)
     ·have h := An c11 h
      refine Aq (Ab (AD (Aa Ad rfl (qm rfl (qm rfl (qm rfl (qm rfl (Bb rfl (qm rfl (qm rfl (Bb rfl ?_)))))))))))
      obtain ⟨v12, a12, b12, h⟩ := Aj h
      refine qI AS Ay a12 (Ag b12) rfl (qJ A6 Ay (Ag b12) rfl (qm rfl (qm rfl ?_)))
      obtain ⟨v13, a13, b13, h⟩ := Aj h
      refine qI AS Ay a13 (Ag b13) rfl (qJ A6 Ay (Ag b13) rfl ?_)
      obtain ⟨v14, a14, b14, h⟩ := Aj h
      refine qI AS Ay a14 (Ag b14) rfl ?_
      refine AT rfl rfl rfl rfl (Ag b14) rfl Ay rfl (AZ rfl) (AU Ai v4.1 _ v12) ?_
      obtain ⟨v15, a15, b15, h⟩ := Aj h
      refine qI AS Ay a15 (Ag b15) rfl ?_
      refine AT rfl rfl rfl rfl (Ag b15) rfl Ay rfl (AZ rfl) (AU Ai (v4.1.set ((v4.2).toNat) v12) _ v13) ?_
      refine Az (by kernel_rfl) (Aa Ad rfl (qm rfl (Bb rfl (qa rfl (Ae ?_)))))
      exact Av _ h (sm [] _ _ rfl rfl)
     ·have h := Ao c11 h
      refine AL ?_
      exact Av _ h (sm [] _ _ rfl rfl)
   ·refine Am hs (Aa Ad rfl (qm rfl (AI rfl (qa rfl (Ae ?_)))))
    exact Av _ h (sm [] _ _ rfl rfl)
  ·have h := Ao c3 h
   refine AL ?_
   exact Av _ h (sm [] _ _ rfl rfl)
 ·obtain rfl := sj h
  refine ⟨_, hs.trans (sm [] [] [(90000, .vec 3 (v2.map Ai))] rfl rfl), ?_⟩
  exact ⟨⟨[], trivial, rfl⟩, ⟨rfl, trivial⟩, trivial⟩
set_option maxRecDepth 10000 in
theorem Fo (N : Nat) (p0 : List Ah) (p1 : Int) (p2 : Int) (p3 : Int) (p4 : (Ah × Ah) → Option Int) (r : (List Ah)) (h : Di N p0 p1 p2 p3 p4 = some r) : A9 Tryz.prog 166 [.e (.one (.own 90000)), .e (.one (.pure (.val (.int .i64 p1)))), .e (.one (.pure (.val (.int .i64 p2)))), .e (.one (.pure (.val (.int .i64 p3)))), .e (.one (.clo (A0 (Cq true Ai true Ai) A8 p4)))] [(.vec 3 (p0.map Ai), .vec 3 (r.map Ai))] [] (.tup []) := by
 unfold Di at h
 refine AY (n := 82) (rs := []) Tryz.func166 rfl rfl rfl (AZ rfl) (AZ rfl) rfl rfl (AZ rfl) rfl (AZ rfl) fun w0 S0 GL => I4 ?_
 refine Am (sm [] [(0, .e (.one (.own 90000))), (1, .e (.one (.pure (.val (.int .i64 p1))))), (2, .e (.one (.pure (.val (.int .i64 p2))))), (3, .e (.one (.pure (.val (.int .i64 p3))))), (4, .e (.one (.clo (A0 (Cq true Ai true Ai) A8 p4))))] [(90000, .vec 3 (p0.map Ai))] rfl rfl) (Ab (Aa Ad rfl (qm rfl (qa rfl (Ae ?_)))))
 refine AB (L := CT N p2 p3 p4) h (fun v1 => mk [(0, .e (.one (.own 90000))), (2, .e (.one (.pure (.val (.int .i64 p2))))), (3, .e (.one (.pure (.val (.int .i64 p3))))), (4, .e (.one (.clo (A0 (Cq true Ai true Ai) A8 p4)))), (10, .e (.one (.pure (.val (.int .i64 v1.2)))))] [(90000, .vec 3 (v1.1.map Ai))]) (fun v2 => mk [] [(90000, .vec 3 (v2.map Ai))]) (fun _ _ => rfl) (sm [] _ _ rfl rfl) (fun j1 n1 v1 h => ?_) (fun v2 s h hs => ?_)
 ·unfold CT at h
  refine AD (Ab (Aa Ad rfl (qm rfl (Hg rfl (AI rfl (qa rfl (Ae (Ab (Ab (Aa Ad rfl (qm rfl (qm rfl (Dl rfl (Ae ?_))))))))))))))
  refine Ap rfl (fun c3 => ?_) (fun c3 => ?_)
  ·have h := An c3 h
   refine AL ?_
   exact Av _ h (sm [] _ _ rfl rfl)
  ·have h := Ao c3 h
   refine Aq ?_
   refine AK h (fun v4 => mk [(0, .e (.one (.own 90000))), (2, .e (.one (.pure (.val (.int .i64 p2))))), (3, .e (.one (.pure (.val (.int .i64 p3))))), (4, .e (.one (.clo (A0 (Cq true Ai true Ai) A8 p4)))), (10, .e (.one (.pure (.val (.int .i64 v1.2))))), (11, .e (.one (.pure (.val (.int .i64 v4)))))] [(90000, .vec 3 (v1.1.map Ai))]) (fun j4 h => ?_) (fun v4 h => ?_)
   ·refine AK h (fun v5 => mk [(0, .e (.one (.own 90000))), (2, .e (.one (.pure (.val (.int .i64 p2))))), (3, .e (.one (.pure (.val (.int .i64 p3))))), (4, .e (.one (.clo (A0 (Cq true Ai true Ai) A8 p4)))), (10, .e (.one (.pure (.val (.int .i64 v1.2))))), (11, .e (.one (.pure (.val (.int .i64 ((IntKind.wrap .i64 ((IntKind.wrap .i64 (2 * v1.2)) + 1)))))))), (40, .e (.one (.pure (.val (.bool v5)))))] [(90000, .vec 3 (v1.1.map Ai))]) (fun j5 h => ?_) (fun v5 h => ?_)
    ·refine Aa Ad rfl (qm rfl (AI rfl (qm rfl (AR rfl (qm rfl ?_)))))
     refine AC (t := 23) rfl (fun c6 => ?_) (fun c6 => ?_)
     ·have h := An c6 h
      refine qm rfl (qm rfl (qm rfl (qm rfl (AI rfl ?_))))
      obtain ⟨v7, a7, b7, h⟩ := Aj h
      refine qI AS Ay a7 (Ag b7) rfl (qJ A6 Ay (Ag b7) rfl (qm rfl (qm rfl (qm rfl (AI rfl (AI rfl ?_))))))
      obtain ⟨v8, a8, b8, h⟩ := Aj h
      refine qI AS Ay a8 (Ag b8) rfl (qJ A6 Ay (Ag b8) rfl ?_)
      obtain ⟨v9, a9, h⟩ := bind_some h
      refine CK (ds0 := [_, _]) (ar := (Cq true Ai true Ai) ((v7, v8))) (.g rfl rfl) rfl rfl ⟨rfl, rfl, trivial⟩ rfl rfl rfl (CA (Dk _ _ _ _ Bu Bu) a9) ?_
      refine AR rfl (qp rfl (Az (by kernel_rfl) ?_))
      exact Av _ h (sm [] _ _ rfl rfl)
     ·have h := Ao c6 h
      refine qn rfl (qn rfl (qn rfl (qn rfl (qn rfl (qn rfl (qn rfl (qn rfl (qn rfl (qn rfl (qn rfl (qn rfl (qn rfl (qn rfl (qn rfl (qn rfl (qp rfl (Az (by kernel_rfl) ?_)))))))))))))))))
      exact Av _ h (sm [] _ _ rfl rfl)
    ·refine Ap rfl (fun c10 => ?_) (fun c10 => ?_)
     ·have h := An c10 h
      refine Aa Ad rfl (qm rfl (AI rfl (qa rfl (Ae ?_))))
      exact Av _ h (sm [] _ _ rfl rfl)
     ·have h := Ao c10 h
      refine Aq ?_
      exact Av _ h (sm [] _ _ rfl rfl)
   ·refine Ab (Ab (Aa Ad rfl (qm rfl (qm rfl (qm rfl (qm rfl (AI rfl ?_)))))))
    obtain ⟨v11, a11, b11, h⟩ := Aj h
    refine qI AS Ay a11 (Ag b11) rfl (qJ A6 Ay (Ag b11) rfl (qm rfl (qm rfl (qm rfl (AI rfl ?_)))))
    obtain ⟨v12, a12, b12, h⟩ := Aj h
    refine qI AS Ay a12 (Ag b12) rfl (qJ A6 Ay (Ag b12) rfl ?_)
    obtain ⟨v13, a13, h⟩ := bind_some h
    refine CK (ds0 := [_, _]) (ar := (Cq true Ai true Ai) ((v11, v12))) (.p rfl) rfl rfl ⟨rfl, rfl, trivial⟩ rfl rfl rfl (CA (Dk _ _ _ _ Bu Bu) a13) ?_
    refine AR rfl (CC rfl (Az (by kernel_rfl) ?_))
    refine Ap rfl (fun c14 => ?_) (fun c14 => ?_)
    ·have h := An c14 h
     obtain rfl := sj h
     refine Ax ⟨_, (sm [] [] [(90000, .vec 3 (v1.1.map Ai))] rfl rfl), ?_⟩
     exact ⟨⟨[], trivial, rfl⟩, ⟨rfl, trivial⟩, trivial⟩
    ·have h := Ao c14 h
     refine Aq (Ab (Aa Ad rfl (qm rfl (qm rfl (qm rfl (AI rfl (qm rfl (qm rfl (qm rfl (AI rfl (qm rfl (qm rfl (qm rfl (AI rfl ?_))))))))))))))
     obtain ⟨v15, a15, b15, h⟩ := Aj h
     refine qI AS Ay a15 (Ag b15) rfl (qJ A6 Ay (Ag b15) rfl (qm rfl (qm rfl (qm rfl (AI rfl ?_)))))
     obtain ⟨v16, a16, b16, h⟩ := Aj h
     refine qI AS Ay a16 (Ag b16) rfl (qJ A6 Ay (Ag b16) rfl ?_)
     obtain ⟨v17, a17, b17, h⟩ := Aj h
     refine qI AS Ay a17 (Ag b17) rfl ?_
     refine AT rfl rfl rfl rfl (Ag b17) rfl Ay rfl (AZ rfl) (AU Ai v1.1 _ v15) ?_
     obtain ⟨v18, a18, b18, h⟩ := Aj h
     refine qI AS Ay a18 (Ag b18) rfl ?_
     refine AT rfl rfl rfl rfl (Ag b18) rfl Ay rfl (AZ rfl) (AU Ai (v1.1.set (((IntKind.wrap .i64 (p3 + v1.2))).toNat) v15) _ v16) ?_
     refine Az (by kernel_rfl) (Aa Ad rfl (qm rfl (qa rfl (Ae ?_))))
     exact Av _ h (sm [] _ _ rfl rfl)
 ·obtain rfl := sj h
  refine ⟨_, hs.trans (sm [] [] [(90000, .vec 3 (v2.map Ai))] rfl rfl), ?_⟩
  exact ⟨⟨[], trivial, rfl⟩, ⟨rfl, trivial⟩, trivial⟩
set_option maxRecDepth 10000 in
theorem HG (N : Nat) (p0 : List Ah) (p1 : Int) (p2 : Int) (p3 : (Ah × Ah) → Option Int) (r : (List Ah)) (h : D8 N p0 p1 p2 p3 = some r) : A9 Tryz.prog 146 [.e (.one (.own 90000)), .e (.one (.pure (.val (.int .i64 p1)))), .e (.one (.pure (.val (.int .i64 p2)))), .e (.one (.clo (A0 (Cq true Ai true Ai) A8 p3)))] [(.vec 3 (p0.map Ai), .vec 3 (r.map Ai))] [] (.tup []) := by
 unfold D8 at h
 refine AY (n := 60) (rs := []) Tryz.func146 rfl rfl rfl (AZ rfl) (AZ rfl) rfl rfl (AZ rfl) rfl (AZ rfl) fun w0 S0 GL => I4 ?_
 refine Am (sm [] [(0, .e (.one (.own 90000))), (1, .e (.one (.pure (.val (.int .i64 p1))))), (2, .e (.one (.pure (.val (.int .i64 p2))))), (3, .e (.one (.clo (A0 (Cq true Ai true Ai) A8 p3))))] [(90000, .vec 3 (p0.map Ai))] rfl rfl) (Ab (Aa Ad rfl (qm rfl (qa rfl (Ae (Ab (Aa Ad rfl (qa rfl (Ae (Ab (Aa Ad rfl (qm rfl (qm rfl (Bb rfl (qa rfl (Ae (Ab (Ab (Aa Ad rfl (qm rfl (Bb rfl (I5 rfl (by decide) (qa rfl (Ae ?_))))))))))))))))))))))))
 refine AB (L := CV N p1 p2 p3) h (fun v1 => mk [(0, .e (.one (.own 90000))), (3, .e (.one (.clo (A0 (Cq true Ai true Ai) A8 p3)))), (8, .e (.one (.pure (.val (.int .i64 p1))))), (9, .e (.one (.pure (.val (.int .i64 0))))), (10, .e (.one (.pure (.val (.int .i64 ((IntKind.wrap .i64 (p2 - p1)))))))), (11, .e (.one (.pure (.val (.int .i64 v1.2)))))] [(90000, .vec 3 (v1.1.map Ai))]) (fun v2 => mk [(0, .e (.one (.own 90000))), (3, .e (.one (.clo (A0 (Cq true Ai true Ai) A8 p3)))), (8, .e (.one (.pure (.val (.int .i64 p1))))), (9, .e (.one (.pure (.val (.int .i64 0))))), (10, .e (.one (.pure (.val (.int .i64 ((IntKind.wrap .i64 (p2 - p1))))))))] [(90000, .vec 3 (v2.map Ai))]) (fun _ _ => rfl) (sm [] _ _ rfl rfl) (fun j1 n1 v1 h => ?_) (fun v2 s h hs => ?_)
 ·unfold CV at h
  refine Ab (Ab (Aa Ad rfl (qm rfl (Dl rfl (Ae ?_)))))
  refine Ap rfl (fun c3 => ?_) (fun c3 => ?_)
  ·have h := An c3 h
   refine Aq (Ab (AD (Aa Ad rfl (qm rfl (qm rfl (qm rfl (qm rfl (qm rfl ?_))))))))
   obtain ⟨v4, a4, h⟩ := bind_some h
   refine Bp (ds0 := [_, _, _, _, _]) [90000] [] [true] (Fo N v1.1 v1.2 ((IntKind.wrap .i64 (p2 - p1))) p1 p3 v4 a4) (.p rfl) Tk rfl ⟨rfl, rfl, rfl, rfl, rfl, trivial⟩ rfl rfl (by decide) ⟨rfl, trivial⟩ rfl (AM rfl) trivial ⟨(fun h => by cases h), trivial⟩ rfl rfl rfl ?_
   refine Ae (Aa Ad rfl (qm rfl (Bb rfl (qa rfl (Ae ?_)))))
   exact Av _ h (sm [] _ _ rfl rfl)
  ·have h := Ao c3 h
   refine AL ?_
   exact Av _ h (sm [] _ _ rfl rfl)
 ·refine Am hs (Ab (Aa Ad rfl (qm rfl (Bb rfl (qa rfl (Ae ?_))))))
  refine AB (L := CY N p1 p3) h (fun v5 => mk [(0, .e (.one (.own 90000))), (3, .e (.one (.clo (A0 (Cq true Ai true Ai) A8 p3)))), (8, .e (.one (.pure (.val (.int .i64 p1))))), (9, .e (.one (.pure (.val (.int .i64 0))))), (12, .e (.one (.pure (.val (.int .i64 v5.2)))))] [(90000, .vec 3 (v5.1.map Ai))]) (fun v6 => mk [] [(90000, .vec 3 (v6.map Ai))]) (fun _ _ => rfl) (sm [] _ _ rfl rfl) (fun j5 n5 v5 h => ?_) (fun v6 s h hs => ?_)
  ·unfold CY at h
   refine Ab (Ab (Aa Ad rfl (qm rfl (Dl rfl (Ae ?_)))))
   refine Ap rfl (fun c7 => ?_) (fun c7 => ?_)
   ·have h := An c7 h
    refine Aq (Ab (AD (Ab (Aa Ad rfl (qm rfl (qm rfl (qm rfl (qm rfl (qm rfl (AI rfl (qm rfl (qm rfl (qm rfl (AI rfl ?_))))))))))))))
    obtain ⟨v8, a8, b8, h⟩ := Aj h
    refine qI AS Ay a8 (Ag b8) rfl (qJ A6 Ay (Ag b8) rfl (qm rfl (qm rfl ?_)))
    obtain ⟨v9, a9, b9, h⟩ := Aj h
    refine qI AS Ay a9 (Ag b9) rfl (qJ A6 Ay (Ag b9) rfl ?_)
    obtain ⟨v10, a10, b10, h⟩ := Aj h
    refine qI AS Ay a10 (Ag b10) rfl ?_
    refine AT rfl rfl rfl rfl (Ag b10) rfl Ay rfl (AZ rfl) (AU Ai v5.1 _ v8) ?_
    obtain ⟨v11, a11, b11, h⟩ := Aj h
    refine qI AS Ay a11 (Ag b11) rfl ?_
    refine AT rfl rfl rfl rfl (Ag b11) rfl Ay rfl (AZ rfl) (AU Ai (v5.1.set ((p1).toNat) v8) _ v9) ?_
    refine Az (by kernel_rfl) (Aa Ad rfl (qm rfl (qm rfl (qm rfl (qm rfl (qm rfl ?_))))))
    obtain ⟨v12, a12, h⟩ := bind_some h
    refine Bp (ds0 := [_, _, _, _, _]) [90000] [] [true] (Fo N ((v5.1.set ((p1).toNat) v8).set (((IntKind.wrap .i64 (p1 + v5.2))).toNat) v9) 0 v5.2 p1 p3 v12 a12) (.p rfl) Tk rfl ⟨rfl, rfl, rfl, rfl, rfl, trivial⟩ rfl rfl (by decide) ⟨rfl, trivial⟩ rfl (AM rfl) trivial ⟨(fun h => by cases h), trivial⟩ rfl rfl rfl ?_
    refine Ae (Aa Ad rfl (qm rfl (Bb rfl (qa rfl (Ae ?_)))))
    exact Av _ h (sm [] _ _ rfl rfl)
   ·have h := Ao c7 h
    refine AL ?_
    exact Av _ h (sm [] _ _ rfl rfl)
  ·obtain rfl := sj h
   refine ⟨_, hs.trans (sm [] [] [(90000, .vec 3 (v6.map Ai))] rfl rfl), ?_⟩
   exact ⟨⟨[], trivial, rfl⟩, ⟨rfl, trivial⟩, trivial⟩
set_option maxRecDepth 10000 in
theorem Hh (N : Nat) (p0 : Int) (r : Int) (h : ED N p0 = some r) : AA Tryz.prog 162 [.e (.one (.pure (.val (.int .i64 p0))))] [] (.e (.one (.pure (.val (.int .u64 r))))) := by
 unfold ED at h
 refine Ar (n := 7) (rs := [.tmp 2]) Tryz.func162 rfl rfl rfl (AZ rfl) (AZ rfl) rfl fun w0 S0 => ?_
 refine Ab (Aa Ad rfl (qa rfl (Ae (Ab (Aa Ad rfl (qm rfl (Gk Rw Mb rfl ?_)))))))
 obtain ⟨v1, a1, h⟩ := bind_some h
 refine AG [] (Ih N ((IntKind.wrap .u64 p0)) v1 a1) Rp rfl ?_
 obtain ⟨c2, h⟩ := AW h
 refine IX rfl c2 (qa rfl (Ae ?_))
 obtain rfl := sj h
 refine Am (sm [] [(2, .e (.one (.pure (.val (.int .u64 ((DD .u64 1 v1)))))))] [] rfl rfl) (Ax ?_)
 exact ⟨⟨[_], ⟨.tmp _ _ rfl, trivial⟩, rfl⟩, trivial⟩
set_option maxRecDepth 10000 in
theorem HI (N : Nat) (p0 : Int) (r : Int × Int) (h : EP N p0 = some r) : A9 Tryz.prog 163 [.e (.one (.ptr 90000 0))] [(.box [.pure (.val (.int .u64 p0))], .box [.pure (.val (.int .u64 r.2))])] [] (.e (.one (.pure (.val (.int .u64 r.1))))) := by
 unfold EP at h
 refine AY (n := 33) (rs := [.tmp 2]) Tryz.func163 rfl rfl rfl (AZ rfl) (AZ rfl) rfl rfl (AZ rfl) rfl (AZ rfl) fun w0 S0 GL => ?_
 refine Am (sm [] [(0, .e (.one (.ptr 90000 0)))] [(90000, .box [.pure (.val (.int .u64 p0))])] rfl rfl) (Ab (Aa Ad rfl (qa rfl (Ae (Ab (Aa Ad rfl (qm rfl (M9 rfl (ql MB rfl (qm rfl (M9 rfl (ql MB rfl (IX rfl (by decide) (RV rfl (M9 rfl (qs Pd rfl (Az (by kernel_rfl) (Ab (Aa Ad rfl (qm rfl (M9 rfl (ql MB rfl (qm rfl (M9 rfl (ql MB rfl (HP rfl (by decide) (RV rfl (M9 rfl (qs Pd rfl (Az (by kernel_rfl) (Ab (Aa Ad rfl (qm rfl (M9 rfl (ql MB rfl (qm rfl (M9 rfl (ql MB rfl (IX rfl (by decide) ?_)))))))))))))))))))))))))))))))))))))))
 refine RV rfl (M9 rfl (qs Pd rfl (Az (by kernel_rfl) (Ab (Aa Ad rfl (qm rfl (M9 rfl (ql MB rfl (qa rfl (Ae ?_))))))))))
 obtain rfl := sj h
 refine Am (sm [] [(2, .e (.one (.pure (.val (.int .u64 ((Ha .u64 ((Ha .u64 ((Ha .u64 p0 ((DD .u64 p0 13)))) ((E2 .u64 ((Ha .u64 p0 ((DD .u64 p0 13)))) 7)))) ((DD .u64 ((Ha .u64 ((Ha .u64 p0 ((DD .u64 p0 13)))) ((E2 .u64 ((Ha .u64 p0 ((DD .u64 p0 13)))) 7)))) 17)))))))))] [(90000, .box [.pure (.val (.int .u64 ((Ha .u64 ((Ha .u64 ((Ha .u64 p0 ((DD .u64 p0 13)))) ((E2 .u64 ((Ha .u64 p0 ((DD .u64 p0 13)))) 7)))) ((DD .u64 ((Ha .u64 ((Ha .u64 p0 ((DD .u64 p0 13)))) ((E2 .u64 ((Ha .u64 p0 ((DD .u64 p0 13)))) 7)))) 17))))))])] rfl rfl) (Ax ?_)
 exact ⟨⟨[_], ⟨.tmp _ _ rfl, trivial⟩, rfl⟩, ⟨rfl, trivial⟩, trivial⟩
set_option maxRecDepth 10000 in
theorem GA (N : Nat) (p0 : List Ah) (p1 : Int) (p2 : Int) (p3 : (Ah × Ah) → Option Int) (r : (List Ah)) (h : DC N p0 p1 p2 p3 = some r) : A9 Tryz.prog 147 [.e (.one (.own 90000)), .e (.one (.pure (.val (.int .i64 p1)))), .e (.one (.pure (.val (.int .i64 p2)))), .e (.one (.clo (A0 (Cq true Ai true Ai) A8 p3)))] [(.vec 3 (p0.map Ai), .vec 3 (r.map Ai))] [] (.tup []) := by
 unfold DC at h
 refine AY (n := 67) (rs := []) Tryz.func147 rfl rfl rfl (AZ rfl) (AZ rfl) rfl rfl (AZ rfl) rfl (AZ rfl) fun w0 S0 GL => I4 ?_
 refine Am (sm [] [(0, .e (.one (.own 90000))), (1, .e (.one (.pure (.val (.int .i64 p1))))), (2, .e (.one (.pure (.val (.int .i64 p2))))), (3, .e (.one (.clo (A0 (Cq true Ai true Ai) A8 p3))))] [(90000, .vec 3 (p0.map Ai))] rfl rfl) (Ab (Aa Ad rfl (qm rfl (qm rfl (Bb rfl (qa rfl (Ae (Ab (Aa Ad rfl (qm rfl (Dl rfl (Ae ?_))))))))))))
 refine Ap rfl (fun c1 => ?_) (fun c1 => ?_)
 ·have h := An c1 h
  refine Ab (Aa Ad rfl (qm rfl (Gk Rw Tq rfl (qz TD rfl (qs Pd rfl (Ae (Ab (Aa Ad rfl (qm rfl ?_)))))))))
  obtain ⟨v2, a2, h⟩ := bind_some h
  refine AG [] (Hh N ((IntKind.wrap .i64 (p2 - p1))) v2 a2) Tf rfl (qa rfl (Ae (Ab (Aa Ad rfl (qm rfl (qm rfl (I5 rfl (by decide) (Hg rfl (AI rfl (Bb rfl (qa rfl (Ae ?_))))))))))))
  refine AB (L := Cj N p1 p2 v2) h (fun v3 => mk [(0, .e (.one (.own 90000))), (1, .e (.one (.pure (.val (.int .i64 p1))))), (8, .e (.one (.pure (.val (.int .i64 ((IntKind.wrap .i64 (p2 - p1)))))))), (9, .e (.one (.ptr 9 0))), (10, .e (.one (.pure (.val (.int .u64 v2))))), (11, .e (.one (.pure (.val (.int .i64 v3.2.2)))))] [(9, .box [.pure (.val (.int .u64 v3.2.1))]), (90000, .vec 3 (v3.1.map Ai))]) (fun v4 => mk [] [(90000, .vec 3 (v4.map Ai))]) (fun _ _ => rfl) (sm [] _ _ rfl rfl) (fun j3 n3 v3 h => ?_) (fun v4 s h hs => ?_)
  ·unfold Cj at h
   refine Ab (Ab (Aa Ad rfl (qm rfl (qm rfl (qm rfl (I5 rfl (by decide) (Hg rfl (AI rfl (AI rfl (Io rfl (Ae ?_)))))))))))
   refine Ap rfl (fun c5 => ?_) (fun c5 => ?_)
   ·have h := An c5 h
    refine Aq (Ab (AD (Ab (Aa Ad rfl ?_))))
    obtain ⟨v6, a6, h⟩ := bind_some h
    refine Bp (ds0 := [_]) [9] [] [true] (HI N v3.2.1 v6 a6) (.p rfl) Tm rfl ⟨rfl, trivial⟩ rfl rfl (by decide) ⟨rfl, trivial⟩ rfl (AM rfl) trivial ⟨(fun h => by cases h), trivial⟩ rfl rfl rfl ?_
    refine qm rfl (Bb rfl (KD rfl (Gk MJ P7 rfl (qa rfl (Ae ?_)))))
    refine AK h (fun v7 => mk [(0, .e (.one (.own 90000))), (1, .e (.one (.pure (.val (.int .i64 p1))))), (8, .e (.one (.pure (.val (.int .i64 ((IntKind.wrap .i64 (p2 - p1)))))))), (9, .e (.one (.ptr 9 0))), (10, .e (.one (.pure (.val (.int .u64 v2))))), (11, .e (.one (.pure (.val (.int .i64 v3.2.2))))), (12, .e (.one (.pure (.val (.int .i64 v7)))))] [(9, .box [.pure (.val (.int .u64 v6.2))]), (90000, .vec 3 (v3.1.map Ai))]) (fun j7 h => ?_) (fun v7 h => ?_)
    ·refine Ab (Aa Ad rfl (qm rfl (qm rfl (Dl rfl (Ae ?_)))))
     refine Ap rfl (fun c8 => ?_) (fun c8 => ?_)
     ·have h := An c8 h
      refine Aa Ad rfl (qm rfl (qm rfl (Bb rfl (qa rfl (Ae ?_)))))
      exact Av _ h (sm [] _ _ rfl rfl)
     ·have h := Ao c8 h
      refine Aq ?_
      exact Av _ h (sm [] _ _ rfl rfl)
    ·refine Aa Ad rfl (qm rfl (qm rfl (qm rfl (qm rfl (qm rfl (AI rfl (qm rfl (qm rfl (qm rfl (AI rfl ?_))))))))))
     obtain ⟨v9, a9, b9, h⟩ := Aj h
     refine qI AS Ay a9 (Ag b9) rfl (qJ A6 Ay (Ag b9) rfl (qm rfl (qm rfl ?_)))
     obtain ⟨v10, a10, b10, h⟩ := Aj h
     refine qI AS Ay a10 (Ag b10) rfl (qJ A6 Ay (Ag b10) rfl ?_)
     obtain ⟨v11, a11, b11, h⟩ := Aj h
     refine qI AS Ay a11 (Ag b11) rfl ?_
     refine AT rfl rfl rfl rfl (Ag b11) rfl Ay rfl (AZ rfl) (AU Ai v3.1 _ v9) ?_
     obtain ⟨v12, a12, b12, h⟩ := Aj h
     refine qI AS Ay a12 (Ag b12) rfl ?_
     refine AT rfl rfl rfl rfl (Ag b12) rfl Ay rfl (AZ rfl) (AU Ai (v3.1.set ((v3.2.2).toNat) v9) _ v10) ?_
     refine Az (by kernel_rfl) (Aa Ad rfl (qm rfl (AI rfl (qa rfl (Ae ?_)))))
     exact Av _ h (sm [] _ _ rfl rfl)
   ·have h := Ao c5 h
    refine AL ?_
    exact Av _ h (sm [] _ _ rfl rfl)
  ·obtain rfl := sj h
   refine ⟨_, hs.trans (sm [] [] [(90000, .vec 3 (v4.map Ai))] rfl rfl), ?_⟩
   exact ⟨⟨[], trivial, rfl⟩, ⟨rfl, trivial⟩, trivial⟩
 ·have h := Ao c1 h
  refine Aq ?_
  obtain rfl := sj h
  refine ⟨_, (sm [] [] [(90000, .vec 3 (p0.map Ai))] rfl rfl), ?_⟩
  exact ⟨⟨[], trivial, rfl⟩, ⟨rfl, trivial⟩, trivial⟩
set_option maxRecDepth 10000 in
theorem Ev (N : Nat) (p0 : List Ah) (p1 : Int) (p2 : Int) (p3 : Int) (p4 : (Ah × Ah) → Option Int) (r : Int × Int × Int) (h : CP N p0 p1 p2 p3 p4 = some r) : A9 Tryz.prog 172 [.e (.one (.pure (.sl (p0.map Ai)))), .e (.one (.pure (.val (.int .i64 p1)))), .e (.one (.pure (.val (.int .i64 p2)))), .e (.one (.ptr 90000 0)), .e (.one (.clo (A0 (Cq true Ai true Ai) A8 p4)))] [(.box [.pure (.val (.int .i64 p3))], .box [.pure (.val (.int .i64 r.2.2))])] [] (.tup [.one (.pure (.val (.int .i64 r.1))), .one (.pure (.val (.int .i64 r.2.1)))]) := by
 unfold CP at h
 refine AY (n := 32) (rs := [.tmp 10, .tmp 11]) Tryz.func172 rfl rfl rfl (AZ rfl) (AZ rfl) rfl rfl (AZ rfl) rfl (AZ rfl) fun w0 S0 GL => ?_
 refine Am (sm [] [(0, .e (.one (.pure (.sl (p0.map Ai))))), (1, .e (.one (.pure (.val (.int .i64 p1))))), (2, .e (.one (.pure (.val (.int .i64 p2))))), (3, .e (.one (.ptr 90000 0))), (4, .e (.one (.clo (A0 (Cq true Ai true Ai) A8 p4))))] [(90000, .box [.pure (.val (.int .i64 p3))])] rfl rfl) (Ab (Aa Ad rfl (qa rfl (qa rfl (Ae (Ab (Ab (Aa Ad rfl (qm rfl (qm rfl (qm rfl ?_)))))))))))
 obtain ⟨v1, a1, b1, h⟩ := Aj h
 refine qi AS Ay a1 (Ag b1) rfl (qK A6 Ay rfl (qm rfl (qm rfl ?_)))
 obtain ⟨v2, a2, b2, h⟩ := Aj h
 refine qi AS Ay a2 (Ag b2) rfl (qK A6 Ay rfl ?_)
 obtain ⟨v3, a3, h⟩ := bind_some h
 refine CK (ds0 := [_, _]) (ar := (Cq true Ai true Ai) ((v1, v2))) (.p rfl) rfl rfl ⟨rfl, rfl, trivial⟩ rfl rfl rfl (CA (Dk _ _ _ _ Bu Bu) a3) ?_
 refine AR rfl (Az (by kernel_rfl) ?_)
 refine Ap rfl (fun c4 => ?_) (fun c4 => ?_)
 ·have h := An c4 h
  refine Ab (Aa Ad rfl (qm rfl (M9 rfl (ql Dn rfl (AI rfl (M9 rfl (qs Es rfl (Ae (Ab (Aa Ad rfl (qm rfl (qm rfl (qa rfl (qa rfl (Ae ?_)))))))))))))))
  obtain rfl := sj h
  refine Am (sm [] [(10, .e (.one (.pure (.val (.int .i64 p2))))), (11, .e (.one (.pure (.val (.int .i64 p1)))))] [(90000, .box [.pure (.val (.int .i64 ((IntKind.wrap .i64 (p3 + 1)))))])] rfl rfl) (Ax ?_)
  exact ⟨⟨[_, _], ⟨.tmp _ _ rfl, ⟨.tmp _ _ rfl, trivial⟩⟩, rfl⟩, ⟨rfl, trivial⟩, trivial⟩
 ·have h := Ao c4 h
  refine Aq (Ab (Aa Ad rfl (qm rfl (qm rfl (qa rfl (qa rfl (Ae ?_)))))))
  obtain rfl := sj h
  refine Am (sm [] [(10, .e (.one (.pure (.val (.int .i64 p1))))), (11, .e (.one (.pure (.val (.int .i64 p2)))))] [(90000, .box [.pure (.val (.int .i64 p3))])] rfl rfl) (Ax ?_)
  exact ⟨⟨[_, _], ⟨.tmp _ _ rfl, ⟨.tmp _ _ rfl, trivial⟩⟩, rfl⟩, ⟨rfl, trivial⟩, trivial⟩
set_option maxRecDepth 10000 in
theorem FK (N : Nat) (p0 : List Ah) (p1 : Int) (p2 : Int) (p3 : Int) (p4 : Int) (p5 : (Ah × Ah) → Option Int) (r : Int × Int) (h : Dv N p0 p1 p2 p3 p4 p5 = some r) : A9 Tryz.prog 168 [.e (.one (.pure (.sl (p0.map Ai)))), .e (.one (.pure (.val (.int .i64 p1)))), .e (.one (.pure (.val (.int .i64 p2)))), .e (.one (.pure (.val (.int .i64 p3)))), .e (.one (.ptr 90000 0)), .e (.one (.clo (A0 (Cq true Ai true Ai) A8 p5)))] [(.box [.pure (.val (.int .i64 p4))], .box [.pure (.val (.int .i64 r.2))])] [] (.e (.one (.pure (.val (.int .i64 r.1))))) := by
 unfold Dv at h
 refine AY (n := 41) (rs := [.tmp 12]) Tryz.func168 rfl rfl rfl (AZ rfl) (AZ rfl) rfl rfl (AZ rfl) rfl (AZ rfl) fun w0 S0 GL => ?_
 refine Am (sm [] [(0, .e (.one (.pure (.sl (p0.map Ai))))), (1, .e (.one (.pure (.val (.int .i64 p1))))), (2, .e (.one (.pure (.val (.int .i64 p2))))), (3, .e (.one (.pure (.val (.int .i64 p3))))), (4, .e (.one (.ptr 90000 0))), (5, .e (.one (.clo (A0 (Cq true Ai true Ai) A8 p5))))] [(90000, .box [.pure (.val (.int .i64 p4))])] rfl rfl) (Ab (Aa Ad rfl (qa rfl (Ae (Ab (Aa Ad rfl (qm rfl (qm rfl (qm rfl (qm rfl (qm rfl ?_)))))))))))
 obtain ⟨v1, a1, h⟩ := bind_some h
 refine Bp (ds0 := [_, _, _, _, _]) [90000] [] [true] (Ev N p0 p1 p2 p4 p5 v1 a1) (.p rfl) RY rfl ⟨rfl, rfl, rfl, rfl, rfl, trivial⟩ rfl rfl (by decide) ⟨rfl, trivial⟩ rfl (AM rfl) trivial ⟨(fun h => by cases h), trivial⟩ rfl rfl rfl ?_
 refine qm rfl (qx rfl (qx rfl (qa rfl (qa rfl (Ae (Ab (Aa Ad rfl (qm rfl (qm rfl (qm rfl (qm rfl (qm rfl ?_))))))))))))
 obtain ⟨v2, a2, h⟩ := bind_some h
 refine Bp (ds0 := [_, _, _, _, _]) [90000] [] [true] (Ev N p0 v1.2.1 p3 v1.2.2 p5 v2 a2) (.p rfl) RY rfl ⟨rfl, rfl, rfl, rfl, rfl, trivial⟩ rfl rfl (by decide) ⟨rfl, trivial⟩ rfl (AM rfl) trivial ⟨(fun h => by cases h), trivial⟩ rfl rfl rfl ?_
 refine qm rfl (qx rfl (qx rfl (qa rfl (qa rfl (Ae (Ab (Aa Ad rfl (qm rfl (qm rfl (qm rfl (qm rfl (qm rfl ?_))))))))))))
 obtain ⟨v3, a3, h⟩ := bind_some h
 refine Bp (ds0 := [_, _, _, _, _]) [90000] [] [true] (Ev N p0 v1.1 v2.1 v2.2.2 p5 v3 a3) (.p rfl) RY rfl ⟨rfl, rfl, rfl, rfl, rfl, trivial⟩ rfl rfl (by decide) ⟨rfl, trivial⟩ rfl (AM rfl) trivial ⟨(fun h => by cases h), trivial⟩ rfl rfl rfl ?_
 refine qm rfl (qx rfl (qx rfl (qa rfl (qa rfl (Ae (Ab (Aa Ad rfl (qm rfl (qa rfl (Ae ?_))))))))))
 obtain rfl := sj h
 refine Am (sm [] [(12, .e (.one (.pure (.val (.int .i64 v3.2.1)))))] [(90000, .box [.pure (.val (.int .i64 v3.2.2))])] rfl rfl) (Ax ?_)
 exact ⟨⟨[_], ⟨.tmp _ _ rfl, trivial⟩, rfl⟩, ⟨rfl, trivial⟩, trivial⟩
set_option maxRecDepth 10000 in
theorem Dx (N : Nat) (p0 : List Ah) (p1 : Int) (p2 : Int) (p3 : (Ah × Ah) → Option Int) (r : Int × Int) (h : BM N p0 p1 p2 p3 = some r) : A9 Tryz.prog 167 [.e (.one (.pure (.sl (p0.map Ai)))), .e (.one (.pure (.val (.int .i64 p1)))), .e (.one (.ptr 90000 0)), .e (.one (.clo (A0 (Cq true Ai true Ai) A8 p3)))] [(.box [.pure (.val (.int .i64 p2))], .box [.pure (.val (.int .i64 r.2))])] [] (.e (.one (.pure (.val (.int .i64 r.1))))) := by
 unfold BM at h
 refine AY (n := 18) (rs := [.tmp 8]) Tryz.func167 rfl rfl rfl (AZ rfl) (AZ rfl) rfl rfl (AZ rfl) rfl (AZ rfl) fun w0 S0 GL => ?_
 refine Am (sm [] [(0, .e (.one (.pure (.sl (p0.map Ai))))), (1, .e (.one (.pure (.val (.int .i64 p1))))), (2, .e (.one (.ptr 90000 0))), (3, .e (.one (.clo (A0 (Cq true Ai true Ai) A8 p3))))] [(90000, .box [.pure (.val (.int .i64 p2))])] rfl rfl) (Ab (Aa Ad rfl (qa rfl (Ae (Ab (Aa Ad rfl (qm rfl (qm rfl (Bb rfl (qm rfl (qm rfl (AI rfl (qm rfl (qm rfl ?_))))))))))))))
 obtain ⟨v1, a1, h⟩ := bind_some h
 refine Bp (ds0 := [_, _, _, _, _, _]) [90000] [] [true] (FK N p0 ((IntKind.wrap .i64 (p1 - 1))) p1 ((IntKind.wrap .i64 (p1 + 1))) p2 p3 v1 a1) (.p rfl) Ti rfl ⟨rfl, rfl, rfl, rfl, rfl, rfl, trivial⟩ rfl rfl (by decide) ⟨rfl, trivial⟩ rfl (AM rfl) trivial ⟨(fun h => by cases h), trivial⟩ rfl rfl rfl ?_
 refine qa rfl (Ae ?_)
 obtain rfl := sj h
 refine Am (sm [] [(8, .e (.one (.pure (.val (.int .i64 v1.1)))))] [(90000, .box [.pure (.val (.int .i64 v1.2))])] rfl rfl) (Ax ?_)
 exact ⟨⟨[_], ⟨.tmp _ _ rfl, trivial⟩, rfl⟩, ⟨rfl, trivial⟩, trivial⟩
set_option maxRecDepth 10000 in
theorem GQ (N : Nat) (p0 : List Ah) (p1 : Int) (p2 : Int) (p3 : (Ah × Ah) → Option Int) (r : Int × Int) (h : DM N p0 p1 p2 p3 = some r) : AA Tryz.prog 148 [.e (.one (.pure (.sl (p0.map Ai)))), .e (.one (.pure (.val (.int .i64 p1)))), .e (.one (.pure (.val (.int .i64 p2)))), .e (.one (.clo (A0 (Cq true Ai true Ai) A8 p3)))] [] (.tup [.one (.pure (.val (.int .i64 r.1))), .one (.pure (.val (.int .i64 r.2)))]) := by
 unfold DM at h
 refine Ar (n := 63) (rs := [.tmp 8, .tmp 9]) Tryz.func148 rfl rfl rfl (AZ rfl) (AZ rfl) rfl fun w0 S0 => ?_
 refine Ab (Aa Ad rfl (qa rfl (qa rfl (Ae (Ab (Aa Ad rfl (qm rfl (qm rfl (Bb rfl (qa rfl (Ae (Ab (Aa Ad rfl (qz Lr rfl (Ae (Ab (Aa Ad rfl (qm rfl (qm rfl (I5 rfl (by decide) (Hg rfl (AI rfl (qa rfl (Ae (Ab (Aa Ad rfl (qm rfl (qm rfl (I5 rfl (by decide) (Hg rfl (AI rfl (qa rfl (Ae (Ab (Aa Ad rfl (qm rfl (qm rfl (I5 rfl (by decide) (Hg rfl ?_)))))))))))))))))))))))))))))))))))))))
 refine AI rfl (qa rfl (Ae ?_))
 refine AK h (fun v1 => mk [(11, .e (.one (.ptr 11 0))), (13, .e (.one (.pure (.val (.int .i64 v1.2)))))] [(11, .box [.pure (.val (.int .i64 v1.1))])]) (fun j1 h => ?_) (fun v1 h => ?_)
 ·refine Ab (Aa Ad rfl (qm rfl (Dl rfl (Ae ?_))))
  refine Ap rfl (fun c2 => ?_) (fun c2 => ?_)
  ·have h := An c2 h
   refine AK h (fun v3 => mk [(0, .e (.one (.pure (.sl (p0.map Ai))))), (3, .e (.one (.clo (A0 (Cq true Ai true Ai) A8 p3)))), (11, .e (.one (.ptr 11 0))), (12, .e (.one (.pure (.val (.int .i64 v3.2.1))))), (13, .e (.one (.pure (.val (.int .i64 v3.2.2.1))))), (14, .e (.one (.pure (.val (.int .i64 v3.2.2.2)))))] [(11, .box [.pure (.val (.int .i64 v3.1))])]) (fun j3 h => ?_) (fun v3 h => ?_)
   ·refine Ab (Aa Ad rfl (qm rfl (Dl rfl (Ae ?_))))
    refine Ap rfl (fun c4 => ?_) (fun c4 => ?_)
    ·have h := An c4 h
     refine Ab (Aa Ad rfl (qm rfl (qm rfl (qm rfl ?_))))
     obtain ⟨v5, a5, h⟩ := bind_some h
     refine Bp (ds0 := [_, _, _, _]) [11] [] [true] (Dx N p0 ((IntKind.wrap .i64 (p1 + (IntKind.wrap .i64 ((IntKind.wrap .i64 (Int.tdiv ((IntKind.wrap .i64 (p2 - p1))) 4)) * 1))))) 0 p3 v5 a5) (.p rfl) Rr rfl ⟨rfl, rfl, rfl, rfl, trivial⟩ rfl rfl (by decide) ⟨rfl, trivial⟩ rfl (AM rfl) trivial ⟨(fun h => by cases h), trivial⟩ rfl rfl rfl ?_
     refine qa rfl (Ae (Ab (Aa Ad rfl (qm rfl (qm rfl (qm rfl ?_))))))
     obtain ⟨v6, a6, h⟩ := bind_some h
     refine Bp (ds0 := [_, _, _, _]) [11] [] [true] (Dx N p0 ((IntKind.wrap .i64 (p1 + (IntKind.wrap .i64 ((IntKind.wrap .i64 (Int.tdiv ((IntKind.wrap .i64 (p2 - p1))) 4)) * 2))))) v5.2 p3 v6 a6) (.p rfl) Rr rfl ⟨rfl, rfl, rfl, rfl, trivial⟩ rfl rfl (by decide) ⟨rfl, trivial⟩ rfl (AM rfl) trivial ⟨(fun h => by cases h), trivial⟩ rfl rfl rfl ?_
     refine qa rfl (Ae (Aa Ad rfl (qm rfl (qm rfl (qm rfl ?_)))))
     obtain ⟨v7, a7, h⟩ := bind_some h
     refine Bp (ds0 := [_, _, _, _]) [11] [] [true] (Dx N p0 ((IntKind.wrap .i64 (p1 + (IntKind.wrap .i64 ((IntKind.wrap .i64 (Int.tdiv ((IntKind.wrap .i64 (p2 - p1))) 4)) * 3))))) v6.2 p3 v7 a7) (.p rfl) Rr rfl ⟨rfl, rfl, rfl, rfl, trivial⟩ rfl rfl (by decide) ⟨rfl, trivial⟩ rfl (AM rfl) trivial ⟨(fun h => by cases h), trivial⟩ rfl rfl rfl ?_
     refine qa rfl (Ae ?_)
     exact Av _ h (sm [] _ _ rfl rfl)
    ·have h := Ao c4 h
     refine Aq ?_
     exact Av _ h (sm [] _ _ rfl rfl)
   ·refine Aa Ad rfl (qm rfl (qm rfl (qm rfl (qm rfl (qm rfl ?_)))))
    obtain ⟨v8, a8, h⟩ := bind_some h
    refine Bp (ds0 := [_, _, _, _, _, _]) [11] [] [true] (FK N p0 v3.2.1 v3.2.2.1 v3.2.2.2 v3.1 p3 v8 a8) (.p rfl) Ti rfl ⟨rfl, rfl, rfl, rfl, rfl, rfl, trivial⟩ rfl rfl (by decide) ⟨rfl, trivial⟩ rfl (AM rfl) trivial ⟨(fun h => by cases h), trivial⟩ rfl rfl rfl ?_
    refine qa rfl (Ae ?_)
    exact Av _ h (sm [] _ _ rfl rfl)
  ·have h := Ao c2 h
   refine Aq ?_
   exact Av _ h (sm [] _ _ rfl rfl)
 ·refine Ab (Aa Ad rfl (ql Dn rfl (Ae (AD (Ab (Aa Ad rfl (Cp rfl (qa rfl (Ae ?_)))))))))
  refine Ap rfl (fun c9 => ?_) (fun c9 => ?_)
  ·have h := An c9 h
   refine Ab (Aa Ad rfl (qm rfl (qa rfl (qa rfl (Ae ?_)))))
   obtain rfl := sj h
   refine Am (sm [] [(8, .e (.one (.pure (.val (.int .i64 v1.2))))), (9, .e (.one (.pure (.val (.int .i64 1)))))] [] rfl rfl) (Ax ?_)
   exact ⟨⟨[_, _], ⟨.tmp _ _ rfl, ⟨.tmp _ _ rfl, trivial⟩⟩, rfl⟩, trivial⟩
  ·have h := Ao c9 h
   refine Ab (Aa Ad rfl (Cp rfl (qa rfl (Ae ?_))))
   refine Ap rfl (fun c10 => ?_) (fun c10 => ?_)
   ·have h := An c10 h
    refine Ab (Aa Ad rfl (qm rfl (qa rfl (qa rfl (Ae ?_)))))
    obtain rfl := sj h
    refine Am (sm [] [(8, .e (.one (.pure (.val (.int .i64 v1.2))))), (9, .e (.one (.pure (.val (.int .i64 2)))))] [] rfl rfl) (Ax ?_)
    exact ⟨⟨[_, _], ⟨.tmp _ _ rfl, ⟨.tmp _ _ rfl, trivial⟩⟩, rfl⟩, trivial⟩
   ·have h := Ao c10 h
    refine Ab (Aa Ad rfl (qm rfl (qa rfl (qa rfl (Ae ?_)))))
    obtain rfl := sj h
    refine Am (sm [] [(8, .e (.one (.pure (.val (.int .i64 v1.2))))), (9, .e (.one (.pure (.val (.int .i64 0)))))] [] rfl rfl) (Ax ?_)
    exact ⟨⟨[_, _], ⟨.tmp _ _ rfl, ⟨.tmp _ _ rfl, trivial⟩⟩, rfl⟩, trivial⟩
set_option maxRecDepth 10000 in
theorem GO (N : Nat) (p0 : List Ah) (p1 : Int) (p2 : Int) (p3 : (Ah × Ah) → Option Int) (r : (List Ah)) (h : DI N p0 p1 p2 p3 = some r) : A9 Tryz.prog 149 [.e (.one (.own 90000)), .e (.one (.pure (.val (.int .i64 p1)))), .e (.one (.pure (.val (.int .i64 p2)))), .e (.one (.clo (A0 (Cq true Ai true Ai) A8 p3)))] [(.vec 3 (p0.map Ai), .vec 3 (r.map Ai))] [] (.tup []) := by
 unfold DI at h
 refine AY (n := 34) (rs := []) Tryz.func149 rfl rfl rfl (AZ rfl) (AZ rfl) rfl rfl (AZ rfl) rfl (AZ rfl) fun w0 S0 GL => I4 ?_
 refine Am (sm [] [(0, .e (.one (.own 90000))), (1, .e (.one (.pure (.val (.int .i64 p1))))), (2, .e (.one (.pure (.val (.int .i64 p2))))), (3, .e (.one (.clo (A0 (Cq true Ai true Ai) A8 p3))))] [(90000, .vec 3 (p0.map Ai))] rfl rfl) (Ab (Aa Ad rfl (qm rfl (qa rfl (Ae (Ab (Aa Ad rfl (qm rfl (Bb rfl (qa rfl (Ae ?_)))))))))))
 refine AB (L := Cr N) h (fun v1 => mk [(0, .e (.one (.own 90000))), (8, .e (.one (.pure (.val (.int .i64 v1.2.1))))), (9, .e (.one (.pure (.val (.int .i64 v1.2.2)))))] [(90000, .vec 3 (v1.1.map Ai))]) (fun v2 => mk [] [(90000, .vec 3 (v2.map Ai))]) (fun _ _ => rfl) (sm [] _ _ rfl rfl) (fun j1 n1 v1 h => ?_) (fun v2 s h hs => ?_)
 ·unfold Cr at h
  refine Ab (Ab (Aa Ad rfl (qm rfl (qm rfl (AR rfl (Ae ?_))))))
  refine Ap rfl (fun c3 => ?_) (fun c3 => ?_)
  ·have h := An c3 h
   refine Aq (AD (Ab (Aa Ad rfl (qm rfl (qm rfl (qm rfl (qm rfl (qm rfl (qm rfl ?_)))))))))
   obtain ⟨v4, a4, b4, h⟩ := Aj h
   refine qI AS Ay a4 (Ag b4) rfl (qJ A6 Ay (Ag b4) rfl (qm rfl (qm rfl ?_)))
   obtain ⟨v5, a5, b5, h⟩ := Aj h
   refine qI AS Ay a5 (Ag b5) rfl (qJ A6 Ay (Ag b5) rfl ?_)
   obtain ⟨v6, a6, b6, h⟩ := Aj h
   refine qI AS Ay a6 (Ag b6) rfl ?_
   refine AT rfl rfl rfl rfl (Ag b6) rfl Ay rfl (AZ rfl) (AU Ai v1.1 _ v4) ?_
   obtain ⟨v7, a7, b7, h⟩ := Aj h
   refine qI AS Ay a7 (Ag b7) rfl ?_
   refine AT rfl rfl rfl rfl (Ag b7) rfl Ay rfl (AZ rfl) (AU Ai (v1.1.set ((v1.2.1).toNat) v4) _ v5) ?_
   refine Az (by kernel_rfl) (Ab (Aa Ad rfl (qm rfl (AI rfl (qa rfl (Ae (Aa Ad rfl (qm rfl (Bb rfl (qa rfl (Ae ?_)))))))))))
   exact Av _ h (sm [] _ _ rfl rfl)
  ·have h := Ao c3 h
   refine AL ?_
   exact Av _ h (sm [] _ _ rfl rfl)
 ·obtain rfl := sj h
  refine ⟨_, hs.trans (sm [] [] [(90000, .vec 3 (v2.map Ai))] rfl rfl), ?_⟩
  exact ⟨⟨[], trivial, rfl⟩, ⟨rfl, trivial⟩, trivial⟩
set_option maxRecDepth 10000 in
theorem FM (N : Nat) (p0 : List Ah) (p1 : Int) (p2 : Int) (p3 : (Ah × Ah) → Option Int) (r : Bool × (List Ah)) (h : CQ N p0 p1 p2 p3 = some r) : A9 Tryz.prog 150 [.e (.one (.own 90000)), .e (.one (.pure (.val (.int .i64 p1)))), .e (.one (.pure (.val (.int .i64 p2)))), .e (.one (.clo (A0 (Cq true Ai true Ai) A8 p3)))] [(.vec 3 (p0.map Ai), .vec 3 (r.2.map Ai))] [] (.e (.one (.pure (.val (.bool r.1))))) := by
 unfold CQ at h
 refine AY (n := 141) (rs := [.tmp 8]) Tryz.func150 rfl rfl rfl (AZ rfl) (AZ rfl) rfl rfl (AZ rfl) rfl (AZ rfl) fun w0 S0 GL => ?_
 refine Am (sm [] [(0, .e (.one (.own 90000))), (1, .e (.one (.pure (.val (.int .i64 p1))))), (2, .e (.one (.pure (.val (.int .i64 p2))))), (3, .e (.one (.clo (A0 (Cq true Ai true Ai) A8 p3))))] [(90000, .vec 3 (p0.map Ai))] rfl rfl) (Ab (Aa Ad rfl (qa rfl (Ae (Ab (Aa Ad rfl (qm rfl (AI rfl (qa rfl (Ae (Ab (Ab (Aa Ad rfl (qa rfl (Ae ?_)))))))))))))))
 refine AB (L := BF N p1 p2 p3) h (fun v1 => mk [(0, .e (.one (.own 90000))), (1, .e (.one (.pure (.val (.int .i64 p1))))), (2, .e (.one (.pure (.val (.int .i64 p2))))), (3, .e (.one (.clo (A0 (Cq true Ai true Ai) A8 p3)))), (9, .e (.one (.pure (.val (.int .i64 v1.2.1))))), (10, .e (.one (.pure (.val (.int .i64 v1.2.2)))))] [(90000, .vec 3 (v1.1.map Ai))]) (fun v2 => mk [] [(90000, .vec 3 (v2.map Ai))]) (fun _ _ => rfl) (sm [] _ _ rfl rfl) (fun j1 n1 v1 h => ?_) (fun v2 s h hs => ?_)
 ·unfold BF at h
  refine Ab (Ab (Aa Ad rfl (qm rfl (AR rfl (Ae ?_)))))
  refine Ap rfl (fun c3 => ?_) (fun c3 => ?_)
  ·have h := An c3 h
   refine Aq ?_
   refine AK h (fun v4 => mk [(0, .e (.one (.own 90000))), (1, .e (.one (.pure (.val (.int .i64 p1))))), (2, .e (.one (.pure (.val (.int .i64 p2))))), (3, .e (.one (.clo (A0 (Cq true Ai true Ai) A8 p3)))), (9, .e (.one (.pure (.val (.int .i64 v4.2))))), (10, .e (.one (.pure (.val (.int .i64 v1.2.2)))))] [(90000, .vec 3 (v4.1.map Ai))]) (fun j4 h => ?_) (fun v4 h => ?_)
   ·refine AD (Ab ?_)
    refine AB (L := BE N p2 p3 v1) h (fun v5 => mk [(0, .e (.one (.own 90000))), (1, .e (.one (.pure (.val (.int .i64 p1))))), (2, .e (.one (.pure (.val (.int .i64 p2))))), (3, .e (.one (.clo (A0 (Cq true Ai true Ai) A8 p3)))), (9, .e (.one (.pure (.val (.int .i64 v5))))), (10, .e (.one (.pure (.val (.int .i64 v1.2.2)))))] [(90000, .vec 3 (v1.1.map Ai))]) (fun v6 => mk [(0, .e (.one (.own 90000))), (1, .e (.one (.pure (.val (.int .i64 p1))))), (2, .e (.one (.pure (.val (.int .i64 p2))))), (3, .e (.one (.clo (A0 (Cq true Ai true Ai) A8 p3)))), (9, .e (.one (.pure (.val (.int .i64 v6))))), (10, .e (.one (.pure (.val (.int .i64 v1.2.2)))))] [(90000, .vec 3 (v1.1.map Ai))]) (fun _ _ => rfl) (sm [] _ _ rfl rfl) (fun j5 n5 v5 h => ?_) (fun v6 s h hs => ?_)
    ·unfold BE at h
     refine Ab ?_
     refine AK h (fun v7 => mk [(0, .e (.one (.own 90000))), (1, .e (.one (.pure (.val (.int .i64 p1))))), (2, .e (.one (.pure (.val (.int .i64 p2))))), (3, .e (.one (.clo (A0 (Cq true Ai true Ai) A8 p3)))), (9, .e (.one (.pure (.val (.int .i64 v5))))), (10, .e (.one (.pure (.val (.int .i64 v1.2.2))))), (36, .e (.one (.pure (.val (.bool v7)))))] [(90000, .vec 3 (v1.1.map Ai))]) (fun j7 h => ?_) (fun v7 h => ?_)
     ·refine Aa Ad rfl (qm rfl (qm rfl (AR rfl (qm rfl ?_))))
      refine AC (t := 22) rfl (fun c8 => ?_) (fun c8 => ?_)
      ·have h := An c8 h
       refine qm rfl (qm rfl (qm rfl ?_))
       obtain ⟨v9, a9, b9, h⟩ := Aj h
       refine qI AS Ay a9 (Ag b9) rfl (qJ A6 Ay (Ag b9) rfl (qm rfl (qm rfl (Bb rfl ?_))))
       obtain ⟨v10, a10, b10, h⟩ := Aj h
       refine qI AS Ay a10 (Ag b10) rfl (qJ A6 Ay (Ag b10) rfl ?_)
       obtain ⟨v11, a11, h⟩ := bind_some h
       refine CK (ds0 := [_, _]) (ar := (Cq true Ai true Ai) ((v9, v10))) (.g rfl rfl) rfl rfl ⟨rfl, rfl, trivial⟩ rfl rfl rfl (CA (Dk _ _ _ _ Bu Bu) a11) ?_
       refine AR rfl (CC rfl (qp rfl (Az (by kernel_rfl) ?_)))
       exact Av _ h (sm [] _ _ rfl rfl)
      ·have h := Ao c8 h
       refine qn rfl (qn rfl (qn rfl (qn rfl (qn rfl (qn rfl (qn rfl (qn rfl (qn rfl (qn rfl (qn rfl (qn rfl (qn rfl (qp rfl (Az (by kernel_rfl) ?_))))))))))))))
       exact Av _ h (sm [] _ _ rfl rfl)
     ·refine Ap rfl (fun c12 => ?_) (fun c12 => ?_)
      ·have h := An c12 h
       refine Aq (AD (Aa Ad rfl (qm rfl (AI rfl (qa rfl (Ae ?_))))))
       exact Av _ h (sm [] _ _ rfl rfl)
      ·have h := Ao c12 h
       refine AL ?_
       exact Av _ h (sm [] _ _ rfl rfl)
    ·refine Am hs (Ab (Ab (Aa Ad rfl (qm rfl (qm rfl (Cp rfl (Ae ?_)))))))
     refine Ap rfl (fun c13 => ?_) (fun c13 => ?_)
     ·have h := An c13 h
      refine Ab (Aa Ad rfl (qa rfl (Ae ?_)))
      obtain rfl := sj h
      refine Am (sm [] [(8, .e (.one (.pure (.val (.bool true)))))] [(90000, .vec 3 (v1.1.map Ai))] rfl rfl) (Ax ?_)
      exact ⟨⟨[_], ⟨.tmp _ _ rfl, trivial⟩, rfl⟩, ⟨rfl, trivial⟩, trivial⟩
     ·have h := Ao c13 h
      refine Aq (Ab (Ab (Aa Ad rfl (qm rfl (qm rfl (Bb rfl (AR rfl (Ae ?_))))))))
      refine Ap rfl (fun c14 => ?_) (fun c14 => ?_)
      ·have h := An c14 h
       refine Ab (Aa Ad rfl (qa rfl (Ae ?_)))
       obtain rfl := sj h
       refine Am (sm [] [(8, .e (.one (.pure (.val (.bool false)))))] [(90000, .vec 3 (v1.1.map Ai))] rfl rfl) (Ax ?_)
       exact ⟨⟨[_], ⟨.tmp _ _ rfl, trivial⟩, rfl⟩, ⟨rfl, trivial⟩, trivial⟩
      ·have h := Ao c14 h
       refine Aq (Ab (Aa Ad rfl (qm rfl (qm rfl (qm rfl (qm rfl (Bb rfl (qm rfl (qm rfl (Bb rfl ?_))))))))))
       obtain ⟨v15, a15, b15, h⟩ := Aj h
       refine qI AS Ay a15 (Ag b15) rfl (qJ A6 Ay (Ag b15) rfl (qm rfl (qm rfl ?_)))
       obtain ⟨v16, a16, b16, h⟩ := Aj h
       refine qI AS Ay a16 (Ag b16) rfl (qJ A6 Ay (Ag b16) rfl ?_)
       obtain ⟨v17, a17, b17, h⟩ := Aj h
       refine qI AS Ay a17 (Ag b17) rfl ?_
       refine AT rfl rfl rfl rfl (Ag b17) rfl Ay rfl (AZ rfl) (AU Ai v1.1 _ v15) ?_
       obtain ⟨v18, a18, b18, h⟩ := Aj h
       refine qI AS Ay a18 (Ag b18) rfl ?_
       refine AT rfl rfl rfl rfl (Ag b18) rfl Ay rfl (AZ rfl) (AU Ai (v1.1.set ((v6).toNat) v15) _ v16) ?_
       refine Az (by kernel_rfl) ?_
       refine AK h (fun v19 => mk [(0, .e (.one (.own 90000))), (1, .e (.one (.pure (.val (.int .i64 p1))))), (2, .e (.one (.pure (.val (.int .i64 p2))))), (3, .e (.one (.clo (A0 (Cq true Ai true Ai) A8 p3)))), (9, .e (.one (.pure (.val (.int .i64 v6))))), (10, .e (.one (.pure (.val (.int .i64 v1.2.2)))))] [(90000, .vec 3 (v19.map Ai))]) (fun j19 h => ?_) (fun v19 h => ?_)
       ·refine Ab (Aa Ad rfl (qm rfl (qm rfl (Bb rfl (Dl rfl (Ae ?_))))))
        refine Ap rfl (fun c20 => ?_) (fun c20 => ?_)
        ·have h := An c20 h
         refine Ab (Aa Ad rfl (qm rfl (Bb rfl (qa rfl (Ae ?_)))))
         refine AB (L := Bx N p3) h (fun v21 => mk [(0, .e (.one (.own 90000))), (1, .e (.one (.pure (.val (.int .i64 p1))))), (2, .e (.one (.pure (.val (.int .i64 p2))))), (3, .e (.one (.clo (A0 (Cq true Ai true Ai) A8 p3)))), (9, .e (.one (.pure (.val (.int .i64 v6))))), (10, .e (.one (.pure (.val (.int .i64 v1.2.2))))), (11, .e (.one (.pure (.val (.int .i64 v21.2)))))] [(90000, .vec 3 (v21.1.map Ai))]) (fun v22 => mk [(0, .e (.one (.own 90000))), (1, .e (.one (.pure (.val (.int .i64 p1))))), (2, .e (.one (.pure (.val (.int .i64 p2))))), (3, .e (.one (.clo (A0 (Cq true Ai true Ai) A8 p3)))), (9, .e (.one (.pure (.val (.int .i64 v6))))), (10, .e (.one (.pure (.val (.int .i64 v1.2.2)))))] [(90000, .vec 3 (v22.map Ai))]) (fun _ _ => rfl) (sm [] _ _ rfl rfl) (fun j21 n21 v21 h => ?_) (fun v22 s h hs => ?_)
         ·unfold Bx at h
          refine Ab (Ab (Aa Ad rfl (qm rfl (Dl rfl (Ae ?_)))))
          refine Ap rfl (fun c23 => ?_) (fun c23 => ?_)
          ·have h := An c23 h
           refine Aq (Ab (AD (Ab (Ab (Aa Ad rfl (qm rfl (qm rfl (qm rfl ?_))))))))
           obtain ⟨v24, a24, b24, h⟩ := Aj h
           refine qI AS Ay a24 (Ag b24) rfl (qJ A6 Ay (Ag b24) rfl (qm rfl (qm rfl (Bb rfl ?_))))
           obtain ⟨v25, a25, b25, h⟩ := Aj h
           refine qI AS Ay a25 (Ag b25) rfl (qJ A6 Ay (Ag b25) rfl ?_)
           obtain ⟨v26, a26, h⟩ := bind_some h
           refine CK (ds0 := [_, _]) (ar := (Cq true Ai true Ai) ((v24, v25))) (.p rfl) rfl rfl ⟨rfl, rfl, trivial⟩ rfl rfl rfl (CA (Dk _ _ _ _ Bu Bu) a26) ?_
           refine AR rfl (CC rfl (Az (by kernel_rfl) ?_))
           refine Ap rfl (fun c27 => ?_) (fun c27 => ?_)
           ·have h := An c27 h
            refine AL ?_
            exact Av _ h (sm [] _ _ rfl rfl)
           ·have h := Ao c27 h
            refine Aq (Aa Ad rfl (qm rfl (qm rfl (qm rfl (qm rfl (Bb rfl (qm rfl (qm rfl (Bb rfl ?_)))))))))
            obtain ⟨v28, a28, b28, h⟩ := Aj h
            refine qI AS Ay a28 (Ag b28) rfl (qJ A6 Ay (Ag b28) rfl (qm rfl (qm rfl ?_)))
            obtain ⟨v29, a29, b29, h⟩ := Aj h
            refine qI AS Ay a29 (Ag b29) rfl (qJ A6 Ay (Ag b29) rfl ?_)
            obtain ⟨v30, a30, b30, h⟩ := Aj h
            refine qI AS Ay a30 (Ag b30) rfl ?_
            refine AT rfl rfl rfl rfl (Ag b30) rfl Ay rfl (AZ rfl) (AU Ai v21.1 _ v28) ?_
            obtain ⟨v31, a31, b31, h⟩ := Aj h
            refine qI AS Ay a31 (Ag b31) rfl ?_
            refine AT rfl rfl rfl rfl (Ag b31) rfl Ay rfl (AZ rfl) (AU Ai (v21.1.set ((v21.2).toNat) v28) _ v29) ?_
            refine Az (by kernel_rfl) (Aa Ad rfl (qm rfl (Bb rfl (qa rfl (Ae ?_)))))
            exact Av _ h (sm [] _ _ rfl rfl)
          ·have h := Ao c23 h
           refine AL ?_
           exact Av _ h (sm [] _ _ rfl rfl)
         ·exact Av _ h (hs.trans (sm [] _ _ rfl rfl))
        ·have h := Ao c20 h
         refine Aq ?_
         exact Av _ h (sm [] _ _ rfl rfl)
       ·refine Ab (Aa Ad rfl (qm rfl (qm rfl (Bb rfl (Dl rfl (Ae ?_))))))
        refine Ap rfl (fun c32 => ?_) (fun c32 => ?_)
        ·have h := An c32 h
         refine Ab (Aa Ad rfl (qm rfl (AI rfl (qa rfl (Ae ?_)))))
         refine AB (L := By N p2 p3) h (fun v33 => mk [(0, .e (.one (.own 90000))), (1, .e (.one (.pure (.val (.int .i64 p1))))), (2, .e (.one (.pure (.val (.int .i64 p2))))), (3, .e (.one (.clo (A0 (Cq true Ai true Ai) A8 p3)))), (9, .e (.one (.pure (.val (.int .i64 v6))))), (10, .e (.one (.pure (.val (.int .i64 v1.2.2))))), (12, .e (.one (.pure (.val (.int .i64 v33.2)))))] [(90000, .vec 3 (v33.1.map Ai))]) (fun v34 => mk [(0, .e (.one (.own 90000))), (1, .e (.one (.pure (.val (.int .i64 p1))))), (2, .e (.one (.pure (.val (.int .i64 p2))))), (3, .e (.one (.clo (A0 (Cq true Ai true Ai) A8 p3)))), (9, .e (.one (.pure (.val (.int .i64 v6))))), (10, .e (.one (.pure (.val (.int .i64 v1.2.2)))))] [(90000, .vec 3 (v34.map Ai))]) (fun _ _ => rfl) (sm [] _ _ rfl rfl) (fun j33 n33 v33 h => ?_) (fun v34 s h hs => ?_)
         ·unfold By at h
          refine Ab (Ab (Aa Ad rfl (qm rfl (qm rfl (AR rfl (Ae ?_))))))
          refine Ap rfl (fun c35 => ?_) (fun c35 => ?_)
          ·have h := An c35 h
           refine Aq (Ab (AD (Ab (Ab (Aa Ad rfl (qm rfl (qm rfl (qm rfl ?_))))))))
           obtain ⟨v36, a36, b36, h⟩ := Aj h
           refine qI AS Ay a36 (Ag b36) rfl (qJ A6 Ay (Ag b36) rfl (qm rfl (qm rfl (Bb rfl ?_))))
           obtain ⟨v37, a37, b37, h⟩ := Aj h
           refine qI AS Ay a37 (Ag b37) rfl (qJ A6 Ay (Ag b37) rfl ?_)
           obtain ⟨v38, a38, h⟩ := bind_some h
           refine CK (ds0 := [_, _]) (ar := (Cq true Ai true Ai) ((v36, v37))) (.p rfl) rfl rfl ⟨rfl, rfl, trivial⟩ rfl rfl rfl (CA (Dk _ _ _ _ Bu Bu) a38) ?_
           refine AR rfl (CC rfl (Az (by kernel_rfl) ?_))
           refine Ap rfl (fun c39 => ?_) (fun c39 => ?_)
           ·have h := An c39 h
            refine AL ?_
            exact Av _ h (sm [] _ _ rfl rfl)
           ·have h := Ao c39 h
            refine Aq (Aa Ad rfl (qm rfl (qm rfl (qm rfl (qm rfl (Bb rfl (qm rfl (qm rfl (Bb rfl ?_)))))))))
            obtain ⟨v40, a40, b40, h⟩ := Aj h
            refine qI AS Ay a40 (Ag b40) rfl (qJ A6 Ay (Ag b40) rfl (qm rfl (qm rfl ?_)))
            obtain ⟨v41, a41, b41, h⟩ := Aj h
            refine qI AS Ay a41 (Ag b41) rfl (qJ A6 Ay (Ag b41) rfl ?_)
            obtain ⟨v42, a42, b42, h⟩ := Aj h
            refine qI AS Ay a42 (Ag b42) rfl ?_
            refine AT rfl rfl rfl rfl (Ag b42) rfl Ay rfl (AZ rfl) (AU Ai v33.1 _ v40) ?_
            obtain ⟨v43, a43, b43, h⟩ := Aj h
            refine qI AS Ay a43 (Ag b43) rfl ?_
            refine AT rfl rfl rfl rfl (Ag b43) rfl Ay rfl (AZ rfl) (AU Ai (v33.1.set ((v33.2).toNat) v40) _ v41) ?_
            refine Az (by kernel_rfl) (Aa Ad rfl (qm rfl (AI rfl (qa rfl (Ae ?_)))))
            exact Av _ h (sm [] _ _ rfl rfl)
          ·have h := Ao c35 h
           refine AL ?_
           exact Av _ h (sm [] _ _ rfl rfl)
         ·exact Av _ h (hs.trans (sm [] _ _ rfl rfl))
        ·have h := Ao c32 h
         refine Aq ?_
         exact Av _ h (sm [] _ _ rfl rfl)
   ·refine Aa Ad rfl (qm rfl (AI rfl (qa rfl (Ae ?_))))
    exact Av _ h (sm [] _ _ rfl rfl)
  ·have h := Ao c3 h
   refine AL ?_
   exact Av _ h (sm [] _ _ rfl rfl)
 ·refine Am hs (Ab (Aa Ad rfl (qa rfl (Ae ?_))))
  obtain rfl := sj h
  refine Am (sm [] [(8, .e (.one (.pure (.val (.bool false)))))] [(90000, .vec 3 (v2.map Ai))] rfl rfl) (Ax ?_)
  exact ⟨⟨[_], ⟨.tmp _ _ rfl, trivial⟩, rfl⟩, ⟨rfl, trivial⟩, trivial⟩
set_option maxRecDepth 10000 in
theorem Gu (N : Nat) (p0 : List Ah) (p1 : Int) (p2 : Int) (p3 : Int) (p4 : (Ah × Ah) → Option Int) (r : Int × (List Ah)) (h : Dq N p0 p1 p2 p3 p4 = some r) : A9 Tryz.prog 151 [.e (.one (.own 90000)), .e (.one (.pure (.val (.int .i64 p1)))), .e (.one (.pure (.val (.int .i64 p2)))), .e (.one (.pure (.val (.int .i64 p3)))), .e (.one (.clo (A0 (Cq true Ai true Ai) A8 p4)))] [(.vec 3 (p0.map Ai), .vec 3 (r.2.map Ai))] [] (.e (.one (.pure (.val (.int .i64 r.1))))) := by
 unfold Dq at h
 refine AY (n := 90) (rs := [.tmp 10]) Tryz.func151 rfl rfl rfl (AZ rfl) (AZ rfl) rfl rfl (AZ rfl) rfl (AZ rfl) fun w0 S0 GL => ?_
 refine Am (sm [] [(0, .e (.one (.own 90000))), (1, .e (.one (.pure (.val (.int .i64 p1))))), (2, .e (.one (.pure (.val (.int .i64 p2))))), (3, .e (.one (.pure (.val (.int .i64 p3))))), (4, .e (.one (.clo (A0 (Cq true Ai true Ai) A8 p4))))] [(90000, .vec 3 (p0.map Ai))] rfl rfl) (Ab (Aa Ad rfl (qa rfl (Ae (Ab (Aa Ad rfl (qm rfl (qm rfl (qm rfl (qm rfl (qm rfl (qm rfl ?_))))))))))))
 obtain ⟨v1, a1, b1, h⟩ := Aj h
 refine qI AS Ay a1 (Ag b1) rfl (qJ A6 Ay (Ag b1) rfl (qm rfl (qm rfl ?_)))
 obtain ⟨v2, a2, b2, h⟩ := Aj h
 refine qI AS Ay a2 (Ag b2) rfl (qJ A6 Ay (Ag b2) rfl ?_)
 obtain ⟨v3, a3, b3, h⟩ := Aj h
 refine qI AS Ay a3 (Ag b3) rfl ?_
 refine AT rfl rfl rfl rfl (Ag b3) rfl Ay rfl (AZ rfl) (AU Ai p0 _ v1) ?_
 obtain ⟨v4, a4, b4, h⟩ := Aj h
 refine qI AS Ay a4 (Ag b4) rfl ?_
 refine AT rfl rfl rfl rfl (Ag b4) rfl Ay rfl (AZ rfl) (AU Ai (p0.set ((p1).toNat) v1) _ v2) ?_
 refine Az (by kernel_rfl) (Ab (Aa Ad rfl (qm rfl (AI rfl (qm rfl (Bb rfl (qa rfl (qa rfl (Ae (Ab ?_))))))))))
 refine AB (L := Ca N p1 p4) h (fun v5 => mk [(0, .e (.one (.own 90000))), (1, .e (.one (.pure (.val (.int .i64 p1))))), (4, .e (.one (.clo (A0 (Cq true Ai true Ai) A8 p4)))), (11, .e (.one (.pure (.val (.int .i64 v5.2.1))))), (12, .e (.one (.pure (.val (.int .i64 v5.2.2)))))] [(90000, .vec 3 (v5.1.map Ai))]) (fun v6 => mk [(11, .e (.one (.pure (.val (.int .i64 v6.2)))))] [(90000, .vec 3 (v6.1.map Ai))]) (fun _ _ => rfl) (sm [] _ _ rfl rfl) (fun j5 n5 v5 h => ?_) (fun v6 s h hs => ?_)
 ·unfold Ca at h
  refine AD (Ab ?_)
  refine AB (L := B9 N p1 p4 v5) h (fun v7 => mk [(0, .e (.one (.own 90000))), (1, .e (.one (.pure (.val (.int .i64 p1))))), (4, .e (.one (.clo (A0 (Cq true Ai true Ai) A8 p4)))), (11, .e (.one (.pure (.val (.int .i64 v7))))), (12, .e (.one (.pure (.val (.int .i64 v5.2.2)))))] [(90000, .vec 3 (v5.1.map Ai))]) (fun v8 => mk [(0, .e (.one (.own 90000))), (1, .e (.one (.pure (.val (.int .i64 p1))))), (4, .e (.one (.clo (A0 (Cq true Ai true Ai) A8 p4)))), (11, .e (.one (.pure (.val (.int .i64 v8))))), (12, .e (.one (.pure (.val (.int .i64 v5.2.2)))))] [(90000, .vec 3 (v5.1.map Ai))]) (fun _ _ => rfl) (sm [] _ _ rfl rfl) (fun j7 n7 v7 h => ?_) (fun v8 s h hs => ?_)
  ·unfold B9 at h
   refine Ab ?_
   refine AK h (fun v9 => mk [(0, .e (.one (.own 90000))), (1, .e (.one (.pure (.val (.int .i64 p1))))), (4, .e (.one (.clo (A0 (Cq true Ai true Ai) A8 p4)))), (11, .e (.one (.pure (.val (.int .i64 v7))))), (12, .e (.one (.pure (.val (.int .i64 v5.2.2))))), (47, .e (.one (.pure (.val (.bool v9)))))] [(90000, .vec 3 (v5.1.map Ai))]) (fun j9 h => ?_) (fun v9 h => ?_)
   ·refine Aa Ad rfl (qm rfl (qm rfl (Io rfl (qm rfl ?_))))
    refine AC (t := 34) rfl (fun c10 => ?_) (fun c10 => ?_)
    ·have h := An c10 h
     refine qm rfl (qm rfl (qm rfl ?_))
     obtain ⟨v11, a11, b11, h⟩ := Aj h
     refine qI AS Ay a11 (Ag b11) rfl (qJ A6 Ay (Ag b11) rfl (qm rfl (qm rfl ?_)))
     obtain ⟨v12, a12, b12, h⟩ := Aj h
     refine qI AS Ay a12 (Ag b12) rfl (qJ A6 Ay (Ag b12) rfl ?_)
     obtain ⟨v13, a13, h⟩ := bind_some h
     refine CK (ds0 := [_, _]) (ar := (Cq true Ai true Ai) ((v11, v12))) (.g rfl rfl) rfl rfl ⟨rfl, rfl, trivial⟩ rfl rfl rfl (CA (Dk _ _ _ _ Bu Bu) a13) ?_
     refine AR rfl (CC rfl (qp rfl (Az (by kernel_rfl) ?_)))
     exact Av _ h (sm [] _ _ rfl rfl)
    ·have h := Ao c10 h
     refine qn rfl (qn rfl (qn rfl (qn rfl (qn rfl (qn rfl (qn rfl (qn rfl (qn rfl (qn rfl (qn rfl (qn rfl (qp rfl (Az (by kernel_rfl) ?_)))))))))))))
     exact Av _ h (sm [] _ _ rfl rfl)
   ·refine Ap rfl (fun c14 => ?_) (fun c14 => ?_)
    ·have h := An c14 h
     refine Aq (AD (Aa Ad rfl (qm rfl (AI rfl (qa rfl (Ae ?_))))))
     exact Av _ h (sm [] _ _ rfl rfl)
    ·have h := Ao c14 h
     refine AL ?_
     exact Av _ h (sm [] _ _ rfl rfl)
  ·refine Am hs (Ab ?_)
   refine AB (L := BY N p1 p4 v5 v8) h (fun v15 => mk [(0, .e (.one (.own 90000))), (1, .e (.one (.pure (.val (.int .i64 p1))))), (4, .e (.one (.clo (A0 (Cq true Ai true Ai) A8 p4)))), (11, .e (.one (.pure (.val (.int .i64 v8))))), (12, .e (.one (.pure (.val (.int .i64 v15)))))] [(90000, .vec 3 (v5.1.map Ai))]) (fun v16 => mk [(0, .e (.one (.own 90000))), (1, .e (.one (.pure (.val (.int .i64 p1))))), (4, .e (.one (.clo (A0 (Cq true Ai true Ai) A8 p4)))), (11, .e (.one (.pure (.val (.int .i64 v8))))), (12, .e (.one (.pure (.val (.int .i64 v16)))))] [(90000, .vec 3 (v5.1.map Ai))]) (fun _ _ => rfl) (sm [] _ _ rfl rfl) (fun j15 n15 v15 h => ?_) (fun v16 s h hs => ?_)
   ·unfold BY at h
    refine Ab ?_
    refine AK h (fun v17 => mk [(0, .e (.one (.own 90000))), (1, .e (.one (.pure (.val (.int .i64 p1))))), (4, .e (.one (.clo (A0 (Cq true Ai true Ai) A8 p4)))), (11, .e (.one (.pure (.val (.int .i64 v8))))), (12, .e (.one (.pure (.val (.int .i64 v15))))), (65, .e (.one (.pure (.val (.bool v17)))))] [(90000, .vec 3 (v5.1.map Ai))]) (fun j17 h => ?_) (fun v17 h => ?_)
    ·refine Aa Ad rfl (qm rfl (qm rfl (Io rfl (qm rfl ?_))))
     refine AC (t := 53) rfl (fun c18 => ?_) (fun c18 => ?_)
     ·have h := An c18 h
      refine qm rfl (qm rfl (qm rfl ?_))
      obtain ⟨v19, a19, b19, h⟩ := Aj h
      refine qI AS Ay a19 (Ag b19) rfl (qJ A6 Ay (Ag b19) rfl (qm rfl (qm rfl ?_)))
      obtain ⟨v20, a20, b20, h⟩ := Aj h
      refine qI AS Ay a20 (Ag b20) rfl (qJ A6 Ay (Ag b20) rfl ?_)
      obtain ⟨v21, a21, h⟩ := bind_some h
      refine CK (ds0 := [_, _]) (ar := (Cq true Ai true Ai) ((v19, v20))) (.g rfl rfl) rfl rfl ⟨rfl, rfl, trivial⟩ rfl rfl rfl (CA (Dk _ _ _ _ Bu Bu) a21) ?_
      refine AR rfl (qp rfl (Az (by kernel_rfl) ?_))
      exact Av _ h (sm [] _ _ rfl rfl)
     ·have h := Ao c18 h
      refine qn rfl (qn rfl (qn rfl (qn rfl (qn rfl (qn rfl (qn rfl (qn rfl (qn rfl (qn rfl (qn rfl (qp rfl (Az (by kernel_rfl) ?_))))))))))))
      exact Av _ h (sm [] _ _ rfl rfl)
    ·refine Ap rfl (fun c22 => ?_) (fun c22 => ?_)
     ·have h := An c22 h
      refine Aq (AD (Aa Ad rfl (qm rfl (Bb rfl (qa rfl (Ae ?_))))))
      exact Av _ h (sm [] _ _ rfl rfl)
     ·have h := Ao c22 h
      refine AL ?_
      exact Av _ h (sm [] _ _ rfl rfl)
   ·refine Am hs (Ab (Ab (Aa Ad rfl (qm rfl (qm rfl (EA rfl (Ae ?_)))))))
    refine Ap rfl (fun c23 => ?_) (fun c23 => ?_)
    ·have h := An c23 h
     refine AL ?_
     exact Av _ h (sm [] _ _ rfl rfl)
    ·have h := Ao c23 h
     refine Aq (Ab (Aa Ad rfl (qm rfl (qm rfl (qm rfl (qm rfl (qm rfl (qm rfl ?_))))))))
     obtain ⟨v24, a24, b24, h⟩ := Aj h
     refine qI AS Ay a24 (Ag b24) rfl (qJ A6 Ay (Ag b24) rfl (qm rfl (qm rfl ?_)))
     obtain ⟨v25, a25, b25, h⟩ := Aj h
     refine qI AS Ay a25 (Ag b25) rfl (qJ A6 Ay (Ag b25) rfl ?_)
     obtain ⟨v26, a26, b26, h⟩ := Aj h
     refine qI AS Ay a26 (Ag b26) rfl ?_
     refine AT rfl rfl rfl rfl (Ag b26) rfl Ay rfl (AZ rfl) (AU Ai v5.1 _ v24) ?_
     obtain ⟨v27, a27, b27, h⟩ := Aj h
     refine qI AS Ay a27 (Ag b27) rfl ?_
     refine AT rfl rfl rfl rfl (Ag b27) rfl Ay rfl (AZ rfl) (AU Ai (v5.1.set ((v8).toNat) v24) _ v25) ?_
     refine Az (by kernel_rfl) (Ab (Aa Ad rfl (qm rfl (AI rfl (qa rfl (Ae (Aa Ad rfl (qm rfl (Bb rfl (qa rfl (Ae ?_)))))))))))
     exact Av _ h (sm [] _ _ rfl rfl)
 ·refine Am hs (Ab (Aa Ad rfl (qm rfl (qa rfl (Ae ?_)))))
  obtain rfl := sj h
  refine Am (sm [] [(10, .e (.one (.pure (.val (.int .i64 v6.2)))))] [(90000, .vec 3 (v6.1.map Ai))] rfl rfl) (Ax ?_)
  exact ⟨⟨[_], ⟨.tmp _ _ rfl, trivial⟩, rfl⟩, ⟨rfl, trivial⟩, trivial⟩
end Go.Lift

/- That the code does what the shallow programs do, function by function. Written by a program (gen.py). -/
namespace Go.Lift
open Go.RowKit
open Go.Proofs
set_option maxRecDepth 10000 in
theorem Ho (N : Nat) (p0 : List Ah) (p1 : Int) (p2 : Int) (p3 : Int) (p4 : (Ah × Ah) → Option Int) (r : Int × Bool × (List Ah)) (h : DZ N p0 p1 p2 p3 p4 = some r) : A9 Tryz.prog 152 [.e (.one (.own 90000)), .e (.one (.pure (.val (.int .i64 p1)))), .e (.one (.pure (.val (.int .i64 p2)))), .e (.one (.pure (.val (.int .i64 p3)))), .e (.one (.clo (A0 (Cq true Ai true Ai) A8 p4)))] [(.vec 3 (p0.map Ai), .vec 3 (r.2.2.map Ai))] [] (.tup [.one (.pure (.val (.int .i64 r.1))), .one (.pure (.val (.bool r.2.1)))]) := by
 unfold DZ at h
 refine AY (n := 178) (rs := [.tmp 10, .tmp 11]) Tryz.func152 rfl rfl rfl (AZ rfl) (AZ rfl) rfl rfl (AZ rfl) rfl (AZ rfl) fun w0 S0 GL => ?_
 refine Am (sm [] [(0, .e (.one (.own 90000))), (1, .e (.one (.pure (.val (.int .i64 p1))))), (2, .e (.one (.pure (.val (.int .i64 p2))))), (3, .e (.one (.pure (.val (.int .i64 p3))))), (4, .e (.one (.clo (A0 (Cq true Ai true Ai) A8 p4))))] [(90000, .vec 3 (p0.map Ai))] rfl rfl) (Ab (Aa Ad rfl (qa rfl (qa rfl (Ae (Ab (Aa Ad rfl (qm rfl (qm rfl (qm rfl (qm rfl (qm rfl (qm rfl ?_)))))))))))))
 obtain ⟨v1, a1, b1, h⟩ := Aj h
 refine qI AS Ay a1 (Ag b1) rfl (qJ A6 Ay (Ag b1) rfl (qm rfl (qm rfl ?_)))
 obtain ⟨v2, a2, b2, h⟩ := Aj h
 refine qI AS Ay a2 (Ag b2) rfl (qJ A6 Ay (Ag b2) rfl ?_)
 obtain ⟨v3, a3, b3, h⟩ := Aj h
 refine qI AS Ay a3 (Ag b3) rfl ?_
 refine AT rfl rfl rfl rfl (Ag b3) rfl Ay rfl (AZ rfl) (AU Ai p0 _ v1) ?_
 obtain ⟨v4, a4, b4, h⟩ := Aj h
 refine qI AS Ay a4 (Ag b4) rfl ?_
 refine AT rfl rfl rfl rfl (Ag b4) rfl Ay rfl (AZ rfl) (AU Ai (p0.set ((p1).toNat) v1) _ v2) ?_
 refine Az (by kernel_rfl) (Ab (Aa Ad rfl (qm rfl (AI rfl (qm rfl (Bb rfl (qa rfl (qa rfl (Ae (Ab ?_))))))))))
 refine AB (L := CN N p0 p1 p2 p3 p4 v1 v2) h (fun v5 => mk [(0, .e (.one (.own 90000))), (1, .e (.one (.pure (.val (.int .i64 p1))))), (4, .e (.one (.clo (A0 (Cq true Ai true Ai) A8 p4)))), (12, .e (.one (.pure (.val (.int .i64 v5))))), (13, .e (.one (.pure (.val (.int .i64 ((IntKind.wrap .i64 (p2 - 1))))))))] [(90000, .vec 3 (((p0.set ((p1).toNat) v1).set ((p3).toNat) v2).map Ai))]) (fun v6 => mk [(0, .e (.one (.own 90000))), (1, .e (.one (.pure (.val (.int .i64 p1))))), (4, .e (.one (.clo (A0 (Cq true Ai true Ai) A8 p4)))), (12, .e (.one (.pure (.val (.int .i64 v6))))), (13, .e (.one (.pure (.val (.int .i64 ((IntKind.wrap .i64 (p2 - 1))))))))] [(90000, .vec 3 (((p0.set ((p1).toNat) v1).set ((p3).toNat) v2).map Ai))]) (fun _ _ => rfl) (sm [] _ _ rfl rfl) (fun j5 n5 v5 h => ?_) (fun v6 s h hs => ?_)
 ·unfold CN at h
  refine Ab ?_
  refine AK h (fun v7 => mk [(0, .e (.one (.own 90000))), (1, .e (.one (.pure (.val (.int .i64 p1))))), (4, .e (.one (.clo (A0 (Cq true Ai true Ai) A8 p4)))), (12, .e (.one (.pure (.val (.int .i64 v5))))), (13, .e (.one (.pure (.val (.int .i64 ((IntKind.wrap .i64 (p2 - 1)))))))), (47, .e (.one (.pure (.val (.bool v7)))))] [(90000, .vec 3 (((p0.set ((p1).toNat) v1).set ((p3).toNat) v2).map Ai))]) (fun j7 h => ?_) (fun v7 h => ?_)
  ·refine Aa Ad rfl (qm rfl (qm rfl (Io rfl (qm rfl ?_))))
   refine AC (t := 35) rfl (fun c8 => ?_) (fun c8 => ?_)
   ·have h := An c8 h
    refine qm rfl (qm rfl (qm rfl ?_))
    obtain ⟨v9, a9, b9, h⟩ := Aj h
    refine qI AS Ay a9 (Ag b9) rfl (qJ A6 Ay (Ag b9) rfl (qm rfl (qm rfl ?_)))
    obtain ⟨v10, a10, b10, h⟩ := Aj h
    refine qI AS Ay a10 (Ag b10) rfl (qJ A6 Ay (Ag b10) rfl ?_)
    obtain ⟨v11, a11, h⟩ := bind_some h
    refine CK (ds0 := [_, _]) (ar := (Cq true Ai true Ai) ((v9, v10))) (.g rfl rfl) rfl rfl ⟨rfl, rfl, trivial⟩ rfl rfl rfl (CA (Dk _ _ _ _ Bu Bu) a11) ?_
    refine AR rfl (qp rfl (Az (by kernel_rfl) ?_))
    exact Av _ h (sm [] _ _ rfl rfl)
   ·have h := Ao c8 h
    refine qn rfl (qn rfl (qn rfl (qn rfl (qn rfl (qn rfl (qn rfl (qn rfl (qn rfl (qn rfl (qn rfl (qp rfl (Az (by kernel_rfl) ?_))))))))))))
    exact Av _ h (sm [] _ _ rfl rfl)
  ·refine Ap rfl (fun c12 => ?_) (fun c12 => ?_)
   ·have h := An c12 h
    refine Aq (AD (Aa Ad rfl (qm rfl (AI rfl (qa rfl (Ae ?_))))))
    exact Av _ h (sm [] _ _ rfl rfl)
   ·have h := Ao c12 h
    refine AL ?_
    exact Av _ h (sm [] _ _ rfl rfl)
 ·refine Am hs (Ab ?_)
  refine AB (L := CL N p0 p1 p3 p4 v1 v2 v6) h (fun v13 => mk [(0, .e (.one (.own 90000))), (1, .e (.one (.pure (.val (.int .i64 p1))))), (4, .e (.one (.clo (A0 (Cq true Ai true Ai) A8 p4)))), (12, .e (.one (.pure (.val (.int .i64 v6))))), (13, .e (.one (.pure (.val (.int .i64 v13)))))] [(90000, .vec 3 (((p0.set ((p1).toNat) v1).set ((p3).toNat) v2).map Ai))]) (fun v14 => mk [(0, .e (.one (.own 90000))), (1, .e (.one (.pure (.val (.int .i64 p1))))), (4, .e (.one (.clo (A0 (Cq true Ai true Ai) A8 p4)))), (12, .e (.one (.pure (.val (.int .i64 v6))))), (13, .e (.one (.pure (.val (.int .i64 v14)))))] [(90000, .vec 3 (((p0.set ((p1).toNat) v1).set ((p3).toNat) v2).map Ai))]) (fun _ _ => rfl) (sm [] _ _ rfl rfl) (fun j13 n13 v13 h => ?_) (fun v14 s h hs => ?_)
  ·unfold CL at h
   refine Ab ?_
   refine AK h (fun v15 => mk [(0, .e (.one (.own 90000))), (1, .e (.one (.pure (.val (.int .i64 p1))))), (4, .e (.one (.clo (A0 (Cq true Ai true Ai) A8 p4)))), (12, .e (.one (.pure (.val (.int .i64 v6))))), (13, .e (.one (.pure (.val (.int .i64 v13))))), (66, .e (.one (.pure (.val (.bool v15)))))] [(90000, .vec 3 (((p0.set ((p1).toNat) v1).set ((p3).toNat) v2).map Ai))]) (fun j15 h => ?_) (fun v15 h => ?_)
   ·refine Aa Ad rfl (qm rfl (qm rfl (Io rfl (qm rfl ?_))))
    refine AC (t := 53) rfl (fun c16 => ?_) (fun c16 => ?_)
    ·have h := An c16 h
     refine qm rfl (qm rfl (qm rfl ?_))
     obtain ⟨v17, a17, b17, h⟩ := Aj h
     refine qI AS Ay a17 (Ag b17) rfl (qJ A6 Ay (Ag b17) rfl (qm rfl (qm rfl ?_)))
     obtain ⟨v18, a18, b18, h⟩ := Aj h
     refine qI AS Ay a18 (Ag b18) rfl (qJ A6 Ay (Ag b18) rfl ?_)
     obtain ⟨v19, a19, h⟩ := bind_some h
     refine CK (ds0 := [_, _]) (ar := (Cq true Ai true Ai) ((v17, v18))) (.g rfl rfl) rfl rfl ⟨rfl, rfl, trivial⟩ rfl rfl rfl (CA (Dk _ _ _ _ Bu Bu) a19) ?_
     refine AR rfl (CC rfl (qp rfl (Az (by kernel_rfl) ?_)))
     exact Av _ h (sm [] _ _ rfl rfl)
    ·have h := Ao c16 h
     refine qn rfl (qn rfl (qn rfl (qn rfl (qn rfl (qn rfl (qn rfl (qn rfl (qn rfl (qn rfl (qn rfl (qn rfl (qp rfl (Az (by kernel_rfl) ?_)))))))))))))
     exact Av _ h (sm [] _ _ rfl rfl)
   ·refine Ap rfl (fun c20 => ?_) (fun c20 => ?_)
    ·have h := An c20 h
     refine Aq (AD (Aa Ad rfl (qm rfl (Bb rfl (qa rfl (Ae ?_))))))
     exact Av _ h (sm [] _ _ rfl rfl)
    ·have h := Ao c20 h
     refine AL ?_
     exact Av _ h (sm [] _ _ rfl rfl)
  ·refine Am hs (Ab (Ab (Aa Ad rfl (qm rfl (qm rfl (EA rfl (Ae ?_)))))))
   refine Ap rfl (fun c21 => ?_) (fun c21 => ?_)
   ·have h := An c21 h
    refine Ab (Aa Ad rfl (qm rfl (qm rfl (qm rfl (qm rfl (qm rfl (qm rfl ?_)))))))
    obtain ⟨v22, a22, b22, h⟩ := Aj h
    refine qI AS Ay a22 (Ag b22) rfl (qJ A6 Ay (Ag b22) rfl (qm rfl (qm rfl ?_)))
    obtain ⟨v23, a23, b23, h⟩ := Aj h
    refine qI AS Ay a23 (Ag b23) rfl (qJ A6 Ay (Ag b23) rfl ?_)
    obtain ⟨v24, a24, b24, h⟩ := Aj h
    refine qI AS Ay a24 (Ag b24) rfl ?_
    refine AT rfl rfl rfl rfl (Ag b24) rfl Ay rfl (AZ rfl) (AU Ai ((p0.set ((p1).toNat) v1).set ((p3).toNat) v2) _ v22) ?_
    obtain ⟨v25, a25, b25, h⟩ := Aj h
    refine qI AS Ay a25 (Ag b25) rfl ?_
    refine AT rfl rfl rfl rfl (Ag b25) rfl Ay rfl (AZ rfl) (AU Ai (((p0.set ((p1).toNat) v1).set ((p3).toNat) v2).set ((v14).toNat) v22) _ v23) ?_
    refine Az (by kernel_rfl) (Ab (Aa Ad rfl (qm rfl (qa rfl (qa rfl (Ae ?_))))))
    obtain rfl := sj h
    refine Am (sm [] [(10, .e (.one (.pure (.val (.int .i64 v14))))), (11, .e (.one (.pure (.val (.bool true)))))] [(90000, .vec 3 (((((p0.set ((p1).toNat) v1).set ((p3).toNat) v2).set ((v14).toNat) v22).set ((p1).toNat) v23).map Ai))] rfl rfl) (Ax ?_)
    exact ⟨⟨[_, _], ⟨.tmp _ _ rfl, ⟨.tmp _ _ rfl, trivial⟩⟩, rfl⟩, ⟨rfl, trivial⟩, trivial⟩
   ·have h := Ao c21 h
    refine Aq (Ab (Aa Ad rfl (qm rfl (qm rfl (qm rfl (qm rfl (qm rfl (qm rfl ?_))))))))
    obtain ⟨v26, a26, b26, h⟩ := Aj h
    refine qI AS Ay a26 (Ag b26) rfl (qJ A6 Ay (Ag b26) rfl (qm rfl (qm rfl ?_)))
    obtain ⟨v27, a27, b27, h⟩ := Aj h
    refine qI AS Ay a27 (Ag b27) rfl (qJ A6 Ay (Ag b27) rfl ?_)
    obtain ⟨v28, a28, b28, h⟩ := Aj h
    refine qI AS Ay a28 (Ag b28) rfl ?_
    refine AT rfl rfl rfl rfl (Ag b28) rfl Ay rfl (AZ rfl) (AU Ai ((p0.set ((p1).toNat) v1).set ((p3).toNat) v2) _ v26) ?_
    obtain ⟨v29, a29, b29, h⟩ := Aj h
    refine qI AS Ay a29 (Ag b29) rfl ?_
    refine AT rfl rfl rfl rfl (Ag b29) rfl Ay rfl (AZ rfl) (AU Ai (((p0.set ((p1).toNat) v1).set ((p3).toNat) v2).set ((v6).toNat) v26) _ v27) ?_
    refine Az (by kernel_rfl) (Ab (Aa Ad rfl (qm rfl (AI rfl (qa rfl (Ae (Ab (Aa Ad rfl (qm rfl (Bb rfl (qa rfl (Ae (Ab ?_)))))))))))))
    refine AB (L := CD N p1 p4) h (fun v30 => mk [(0, .e (.one (.own 90000))), (1, .e (.one (.pure (.val (.int .i64 p1))))), (4, .e (.one (.clo (A0 (Cq true Ai true Ai) A8 p4)))), (12, .e (.one (.pure (.val (.int .i64 v30.2.1))))), (13, .e (.one (.pure (.val (.int .i64 v30.2.2)))))] [(90000, .vec 3 (v30.1.map Ai))]) (fun v31 => mk [(0, .e (.one (.own 90000))), (1, .e (.one (.pure (.val (.int .i64 p1))))), (13, .e (.one (.pure (.val (.int .i64 v31.2)))))] [(90000, .vec 3 (v31.1.map Ai))]) (fun _ _ => rfl) (sm [] _ _ rfl rfl) (fun j30 n30 v30 h => ?_) (fun v31 s h hs => ?_)
    ·unfold CD at h
     refine AD (Ab ?_)
     refine AB (L := CB N p1 p4 v30) h (fun v32 => mk [(0, .e (.one (.own 90000))), (1, .e (.one (.pure (.val (.int .i64 p1))))), (4, .e (.one (.clo (A0 (Cq true Ai true Ai) A8 p4)))), (12, .e (.one (.pure (.val (.int .i64 v32))))), (13, .e (.one (.pure (.val (.int .i64 v30.2.2)))))] [(90000, .vec 3 (v30.1.map Ai))]) (fun v33 => mk [(0, .e (.one (.own 90000))), (1, .e (.one (.pure (.val (.int .i64 p1))))), (4, .e (.one (.clo (A0 (Cq true Ai true Ai) A8 p4)))), (12, .e (.one (.pure (.val (.int .i64 v33))))), (13, .e (.one (.pure (.val (.int .i64 v30.2.2)))))] [(90000, .vec 3 (v30.1.map Ai))]) (fun _ _ => rfl) (sm [] _ _ rfl rfl) (fun j32 n32 v32 h => ?_) (fun v33 s h hs => ?_)
     ·unfold CB at h
      refine Ab ?_
      refine AK h (fun v34 => mk [(0, .e (.one (.own 90000))), (1, .e (.one (.pure (.val (.int .i64 p1))))), (4, .e (.one (.clo (A0 (Cq true Ai true Ai) A8 p4)))), (12, .e (.one (.pure (.val (.int .i64 v32))))), (13, .e (.one (.pure (.val (.int .i64 v30.2.2))))), (120, .e (.one (.pure (.val (.bool v34)))))] [(90000, .vec 3 (v30.1.map Ai))]) (fun j34 h => ?_) (fun v34 h => ?_)
      ·refine Aa Ad rfl (qm rfl (qm rfl (Io rfl (qm rfl ?_))))
       refine AC (t := 108) rfl (fun c35 => ?_) (fun c35 => ?_)
       ·have h := An c35 h
        refine qm rfl (qm rfl (qm rfl ?_))
        obtain ⟨v36, a36, b36, h⟩ := Aj h
        refine qI AS Ay a36 (Ag b36) rfl (qJ A6 Ay (Ag b36) rfl (qm rfl (qm rfl ?_)))
        obtain ⟨v37, a37, b37, h⟩ := Aj h
        refine qI AS Ay a37 (Ag b37) rfl (qJ A6 Ay (Ag b37) rfl ?_)
        obtain ⟨v38, a38, h⟩ := bind_some h
        refine CK (ds0 := [_, _]) (ar := (Cq true Ai true Ai) ((v36, v37))) (.g rfl rfl) rfl rfl ⟨rfl, rfl, trivial⟩ rfl rfl rfl (CA (Dk _ _ _ _ Bu Bu) a38) ?_
        refine AR rfl (qp rfl (Az (by kernel_rfl) ?_))
        exact Av _ h (sm [] _ _ rfl rfl)
       ·have h := Ao c35 h
        refine qn rfl (qn rfl (qn rfl (qn rfl (qn rfl (qn rfl (qn rfl (qn rfl (qn rfl (qn rfl (qn rfl (qp rfl (Az (by kernel_rfl) ?_))))))))))))
        exact Av _ h (sm [] _ _ rfl rfl)
      ·refine Ap rfl (fun c39 => ?_) (fun c39 => ?_)
       ·have h := An c39 h
        refine Aq (AD (Aa Ad rfl (qm rfl (AI rfl (qa rfl (Ae ?_))))))
        exact Av _ h (sm [] _ _ rfl rfl)
       ·have h := Ao c39 h
        refine AL ?_
        exact Av _ h (sm [] _ _ rfl rfl)
     ·refine Am hs (Ab ?_)
      refine AB (L := CH N p1 p4 v30 v33) h (fun v40 => mk [(0, .e (.one (.own 90000))), (1, .e (.one (.pure (.val (.int .i64 p1))))), (4, .e (.one (.clo (A0 (Cq true Ai true Ai) A8 p4)))), (12, .e (.one (.pure (.val (.int .i64 v33))))), (13, .e (.one (.pure (.val (.int .i64 v40)))))] [(90000, .vec 3 (v30.1.map Ai))]) (fun v41 => mk [(0, .e (.one (.own 90000))), (1, .e (.one (.pure (.val (.int .i64 p1))))), (4, .e (.one (.clo (A0 (Cq true Ai true Ai) A8 p4)))), (12, .e (.one (.pure (.val (.int .i64 v33))))), (13, .e (.one (.pure (.val (.int .i64 v41)))))] [(90000, .vec 3 (v30.1.map Ai))]) (fun _ _ => rfl) (sm [] _ _ rfl rfl) (fun j40 n40 v40 h => ?_) (fun v41 s h hs => ?_)
      ·unfold CH at h
       refine Ab ?_
       refine AK h (fun v42 => mk [(0, .e (.one (.own 90000))), (1, .e (.one (.pure (.val (.int .i64 p1))))), (4, .e (.one (.clo (A0 (Cq true Ai true Ai) A8 p4)))), (12, .e (.one (.pure (.val (.int .i64 v33))))), (13, .e (.one (.pure (.val (.int .i64 v40))))), (139, .e (.one (.pure (.val (.bool v42)))))] [(90000, .vec 3 (v30.1.map Ai))]) (fun j42 h => ?_) (fun v42 h => ?_)
       ·refine Aa Ad rfl (qm rfl (qm rfl (Io rfl (qm rfl ?_))))
        refine AC (t := 126) rfl (fun c43 => ?_) (fun c43 => ?_)
        ·have h := An c43 h
         refine qm rfl (qm rfl (qm rfl ?_))
         obtain ⟨v44, a44, b44, h⟩ := Aj h
         refine qI AS Ay a44 (Ag b44) rfl (qJ A6 Ay (Ag b44) rfl (qm rfl (qm rfl ?_)))
         obtain ⟨v45, a45, b45, h⟩ := Aj h
         refine qI AS Ay a45 (Ag b45) rfl (qJ A6 Ay (Ag b45) rfl ?_)
         obtain ⟨v46, a46, h⟩ := bind_some h
         refine CK (ds0 := [_, _]) (ar := (Cq true Ai true Ai) ((v44, v45))) (.g rfl rfl) rfl rfl ⟨rfl, rfl, trivial⟩ rfl rfl rfl (CA (Dk _ _ _ _ Bu Bu) a46) ?_
         refine AR rfl (CC rfl (qp rfl (Az (by kernel_rfl) ?_)))
         exact Av _ h (sm [] _ _ rfl rfl)
        ·have h := Ao c43 h
         refine qn rfl (qn rfl (qn rfl (qn rfl (qn rfl (qn rfl (qn rfl (qn rfl (qn rfl (qn rfl (qn rfl (qn rfl (qp rfl (Az (by kernel_rfl) ?_)))))))))))))
         exact Av _ h (sm [] _ _ rfl rfl)
       ·refine Ap rfl (fun c47 => ?_) (fun c47 => ?_)
        ·have h := An c47 h
         refine Aq (AD (Aa Ad rfl (qm rfl (Bb rfl (qa rfl (Ae ?_))))))
         exact Av _ h (sm [] _ _ rfl rfl)
        ·have h := Ao c47 h
         refine AL ?_
         exact Av _ h (sm [] _ _ rfl rfl)
      ·refine Am hs (Ab (Ab (Aa Ad rfl (qm rfl (qm rfl (EA rfl (Ae ?_)))))))
       refine Ap rfl (fun c48 => ?_) (fun c48 => ?_)
       ·have h := An c48 h
        refine AL ?_
        exact Av _ h (sm [] _ _ rfl rfl)
       ·have h := Ao c48 h
        refine Aq (Ab (Aa Ad rfl (qm rfl (qm rfl (qm rfl (qm rfl (qm rfl (qm rfl ?_))))))))
        obtain ⟨v49, a49, b49, h⟩ := Aj h
        refine qI AS Ay a49 (Ag b49) rfl (qJ A6 Ay (Ag b49) rfl (qm rfl (qm rfl ?_)))
        obtain ⟨v50, a50, b50, h⟩ := Aj h
        refine qI AS Ay a50 (Ag b50) rfl (qJ A6 Ay (Ag b50) rfl ?_)
        obtain ⟨v51, a51, b51, h⟩ := Aj h
        refine qI AS Ay a51 (Ag b51) rfl ?_
        refine AT rfl rfl rfl rfl (Ag b51) rfl Ay rfl (AZ rfl) (AU Ai v30.1 _ v49) ?_
        obtain ⟨v52, a52, b52, h⟩ := Aj h
        refine qI AS Ay a52 (Ag b52) rfl ?_
        refine AT rfl rfl rfl rfl (Ag b52) rfl Ay rfl (AZ rfl) (AU Ai (v30.1.set ((v33).toNat) v49) _ v50) ?_
        refine Az (by kernel_rfl) (Ab (Aa Ad rfl (qm rfl (AI rfl (qa rfl (Ae (Aa Ad rfl (qm rfl (Bb rfl (qa rfl (Ae ?_)))))))))))
        exact Av _ h (sm [] _ _ rfl rfl)
    ·refine Am hs (Ab (Aa Ad rfl (qm rfl (qm rfl (qm rfl (qm rfl (qm rfl (qm rfl ?_))))))))
     obtain ⟨v53, a53, b53, h⟩ := Aj h
     refine qI AS Ay a53 (Ag b53) rfl (qJ A6 Ay (Ag b53) rfl (qm rfl (qm rfl ?_)))
     obtain ⟨v54, a54, b54, h⟩ := Aj h
     refine qI AS Ay a54 (Ag b54) rfl (qJ A6 Ay (Ag b54) rfl ?_)
     obtain ⟨v55, a55, b55, h⟩ := Aj h
     refine qI AS Ay a55 (Ag b55) rfl ?_
     refine AT rfl rfl rfl rfl (Ag b55) rfl Ay rfl (AZ rfl) (AU Ai v31.1 _ v53) ?_
     obtain ⟨v56, a56, b56, h⟩ := Aj h
     refine qI AS Ay a56 (Ag b56) rfl ?_
     refine AT rfl rfl rfl rfl (Ag b56) rfl Ay rfl (AZ rfl) (AU Ai (v31.1.set ((v31.2).toNat) v53) _ v54) ?_
     refine Az (by kernel_rfl) (Ab (Aa Ad rfl (qm rfl (qa rfl (qa rfl (Ae ?_))))))
     obtain rfl := sj h
     refine Am (sm [] [(10, .e (.one (.pure (.val (.int .i64 v31.2))))), (11, .e (.one (.pure (.val (.bool false)))))] [(90000, .vec 3 (((v31.1.set ((v31.2).toNat) v53).set ((p1).toNat) v54).map Ai))] rfl rfl) (Ax ?_)
     exact ⟨⟨[_, _], ⟨.tmp _ _ rfl, ⟨.tmp _ _ rfl, trivial⟩⟩, rfl⟩, ⟨rfl, trivial⟩, trivial⟩
set_option maxRecDepth 10000 in
theorem Hl (N : Nat) (rc : (List Ah) → Int → Int → Int → ((Ah × Ah) → Option Int) → Option ((List Ah))) (hrc : ∀ (p0 : List Ah) (p1 : Int) (p2 : Int) (p3 : Int) (p4 : (Ah × Ah) → Option Int) (r : (List Ah)), rc p0 p1 p2 p3 p4 = some r → A9 Tryz.prog 118 [.e (.one (.own 90000)), .e (.one (.pure (.val (.int .i64 p1)))), .e (.one (.pure (.val (.int .i64 p2)))), .e (.one (.pure (.val (.int .i64 p3)))), .e (.one (.clo (A0 (Cq true Ai true Ai) A8 p4)))] [(.vec 3 (p0.map Ai), .vec 3 (r.map Ai))] [] (.tup [])) (p0 : List Ah) (p1 : Int) (p2 : Int) (p3 : Int) (p4 : (Ah × Ah) → Option Int) (r : (List Ah)) (h : D2 N rc p0 p1 p2 p3 p4 = some r) : A9 Tryz.prog 118 [.e (.one (.own 90000)), .e (.one (.pure (.val (.int .i64 p1)))), .e (.one (.pure (.val (.int .i64 p2)))), .e (.one (.pure (.val (.int .i64 p3)))), .e (.one (.clo (A0 (Cq true Ai true Ai) A8 p4)))] [(.vec 3 (p0.map Ai), .vec 3 (r.map Ai))] [] (.tup []) := by
 unfold D2 at h
 refine AY (n := 148) (rs := []) Tryz.func118 rfl rfl rfl (AZ rfl) (AZ rfl) rfl rfl (AZ rfl) rfl (AZ rfl) fun w0 S0 GL => I4 ?_
 refine Am (sm [] [(0, .e (.one (.own 90000))), (1, .e (.one (.pure (.val (.int .i64 p1))))), (2, .e (.one (.pure (.val (.int .i64 p2))))), (3, .e (.one (.pure (.val (.int .i64 p3))))), (4, .e (.one (.clo (A0 (Cq true Ai true Ai) A8 p4))))] [(90000, .vec 3 (p0.map Ai))] rfl rfl) (Ab (Aa Ad rfl (qa rfl (Ae (Ab (Aa Ad rfl (qa rfl (Ae ?_))))))))
 refine AB (L := BC N p4 rc) h (fun v1 => mk [(0, .e (.one (.own 90000))), (1, .e (.one (.pure (.val (.int .i64 v1.2.1))))), (2, .e (.one (.pure (.val (.int .i64 v1.2.2.1))))), (3, .e (.one (.pure (.val (.int .i64 v1.2.2.2.1))))), (4, .e (.one (.clo (A0 (Cq true Ai true Ai) A8 p4)))), (10, .e (.one (.pure (.val (.bool v1.2.2.2.2.1))))), (11, .e (.one (.pure (.val (.bool v1.2.2.2.2.2)))))] [(90000, .vec 3 (v1.1.map Ai))]) (fun v2 => mk [] []) (fun _ _ => rfl) (sm [] _ _ rfl rfl) (fun j1 n1 v1 h => ?_) (fun v2 s h hs => ?_)
 ·unfold BC at h
  refine AD (Ab (Aa Ad rfl (qm rfl (qm rfl (Bb rfl (qa rfl (Ae (Ab (Ab (Aa Ad rfl (qm rfl (Io rfl (Ae ?_)))))))))))))
  refine Ap rfl (fun c3 => ?_) (fun c3 => ?_)
  ·have h := An c3 h
   refine Ab (Aa Ad rfl (qm rfl (qm rfl (qm rfl (qm rfl ?_)))))
   obtain ⟨v4, a4, h⟩ := bind_some h
   refine Bp (ds0 := [_, _, _, _]) [90000] [] [true] (Gy N v1.1 v1.2.1 v1.2.2.1 p4 v4 a4) (.p rfl) UL rfl ⟨rfl, rfl, rfl, rfl, trivial⟩ rfl rfl (by decide) ⟨rfl, trivial⟩ rfl (AM rfl) trivial ⟨(fun h => by cases h), trivial⟩ rfl rfl rfl ?_
   refine Ae ?_
   obtain rfl := sj h
   refine Ax ⟨_, (sm [] [] [(90000, .vec 3 (v4.map Ai))] rfl rfl), ?_⟩
   exact ⟨⟨[], trivial, rfl⟩, ⟨rfl, trivial⟩, trivial⟩
  ·have h := Ao c3 h
   refine Aq (Ab (Ab (Aa Ad rfl (qm rfl (Cp rfl (Ae ?_))))))
   refine Ap rfl (fun c5 => ?_) (fun c5 => ?_)
   ·have h := An c5 h
    refine Ab (Aa Ad rfl (qm rfl (qm rfl (qm rfl (qm rfl ?_)))))
    obtain ⟨v6, a6, h⟩ := bind_some h
    refine Bp (ds0 := [_, _, _, _]) [90000] [] [true] (HG N v1.1 v1.2.1 v1.2.2.1 p4 v6 a6) (.p rfl) UD rfl ⟨rfl, rfl, rfl, rfl, trivial⟩ rfl rfl (by decide) ⟨rfl, trivial⟩ rfl (AM rfl) trivial ⟨(fun h => by cases h), trivial⟩ rfl rfl rfl ?_
    refine Ae ?_
    obtain rfl := sj h
    refine Ax ⟨_, (sm [] [] [(90000, .vec 3 (v6.map Ai))] rfl rfl), ?_⟩
    exact ⟨⟨[], trivial, rfl⟩, ⟨rfl, trivial⟩, trivial⟩
   ·have h := Ao c5 h
    refine Aq ?_
    refine AK h (fun v7 => mk [(0, .e (.one (.own 90000))), (1, .e (.one (.pure (.val (.int .i64 v1.2.1))))), (2, .e (.one (.pure (.val (.int .i64 v1.2.2.1))))), (3, .e (.one (.pure (.val (.int .i64 v7.2))))), (4, .e (.one (.clo (A0 (Cq true Ai true Ai) A8 p4)))), (10, .e (.one (.pure (.val (.bool v1.2.2.2.2.1))))), (11, .e (.one (.pure (.val (.bool v1.2.2.2.2.2))))), (12, .e (.one (.pure (.val (.int .i64 ((IntKind.wrap .i64 (v1.2.2.1 - v1.2.1))))))))] [(90000, .vec 3 (v7.1.map Ai))]) (fun j7 h => ?_) (fun v7 h => ?_)
    ·refine Ab (Aa Ad rfl (qm rfl (CC rfl (Ae ?_))))
     refine Ap rfl (fun c8 => ?_) (fun c8 => ?_)
     ·have h := An c8 h
      refine Ab (Aa Ad rfl (qm rfl (qm rfl (qm rfl (qm rfl ?_)))))
      obtain ⟨v9, a9, h⟩ := bind_some h
      refine Bp (ds0 := [_, _, _, _]) [90000] [] [true] (GA N v1.1 v1.2.1 v1.2.2.1 p4 v9 a9) (.p rfl) Vg rfl ⟨rfl, rfl, rfl, rfl, trivial⟩ rfl rfl (by decide) ⟨rfl, trivial⟩ rfl (AM rfl) trivial ⟨(fun h => by cases h), trivial⟩ rfl rfl rfl ?_
      refine Ae (Aa Ad rfl (qm rfl (Bb rfl (qa rfl (Ae ?_)))))
      exact Av _ h (sm [] _ _ rfl rfl)
     ·have h := Ao c8 h
      refine Aq ?_
      exact Av _ h (sm [] _ _ rfl rfl)
    ·refine Ab (Aa Ad rfl (qm rfl (qm rfl (qm rfl (qm rfl ?_)))))
     obtain ⟨v10, a10, h⟩ := bind_some h
     refine DE [] [90000] (GQ N v7.1 v1.2.1 v1.2.2.1 p4 v10 a10) UR Cf rfl (qm rfl (qx rfl (qx rfl (qa rfl (qa rfl (Ae ?_))))))
     refine AK h (fun v11 => mk [(0, .e (.one (.own 90000))), (1, .e (.one (.pure (.val (.int .i64 v1.2.1))))), (2, .e (.one (.pure (.val (.int .i64 v1.2.2.1))))), (3, .e (.one (.pure (.val (.int .i64 v7.2))))), (4, .e (.one (.clo (A0 (Cq true Ai true Ai) A8 p4)))), (10, .e (.one (.pure (.val (.bool v1.2.2.2.2.1))))), (11, .e (.one (.pure (.val (.bool v1.2.2.2.2.2))))), (12, .e (.one (.pure (.val (.int .i64 ((IntKind.wrap .i64 (v1.2.2.1 - v1.2.1)))))))), (13, .e (.one (.pure (.val (.int .i64 v11.2.1))))), (14, .e (.one (.pure (.val (.int .i64 v11.2.2)))))] [(90000, .vec 3 (v11.1.map Ai))]) (fun j11 h => ?_) (fun v11 h => ?_)
     ·refine Ab (Aa Ad rfl (qm rfl (Cp rfl (Ae ?_))))
      refine Ap rfl (fun c12 => ?_) (fun c12 => ?_)
      ·have h := An c12 h
       refine Ab (Aa Ad rfl (qm rfl (qm rfl (qm rfl (qm rfl ?_)))))
       obtain ⟨v13, a13, h⟩ := bind_some h
       refine Bp (ds0 := [_, _, _, _]) [90000] [] [true] (GO N v7.1 v1.2.1 v1.2.2.1 p4 v13 a13) (.p rfl) VC rfl ⟨rfl, rfl, rfl, rfl, trivial⟩ rfl rfl (by decide) ⟨rfl, trivial⟩ rfl (AM rfl) trivial ⟨(fun h => by cases h), trivial⟩ rfl rfl rfl ?_
       refine Ae (Ab (Aa Ad rfl (qm rfl (Bb rfl (qm rfl (qm rfl (Bb rfl (Bb rfl (qa rfl (Ae (Aa Ad rfl (qa rfl (Ae ?_)))))))))))))
       exact Av _ h (sm [] _ _ rfl rfl)
      ·have h := Ao c12 h
       refine Aq ?_
       exact Av _ h (sm [] _ _ rfl rfl)
     ·refine AK h (fun v14 => mk [(0, .e (.one (.own 90000))), (1, .e (.one (.pure (.val (.int .i64 v1.2.1))))), (2, .e (.one (.pure (.val (.int .i64 v1.2.2.1))))), (3, .e (.one (.pure (.val (.int .i64 v7.2))))), (4, .e (.one (.clo (A0 (Cq true Ai true Ai) A8 p4)))), (10, .e (.one (.pure (.val (.bool v1.2.2.2.2.1))))), (11, .e (.one (.pure (.val (.bool v1.2.2.2.2.2))))), (12, .e (.one (.pure (.val (.int .i64 ((IntKind.wrap .i64 (v1.2.2.1 - v1.2.1)))))))), (13, .e (.one (.pure (.val (.int .i64 v11.2.1)))))] [(90000, .vec 3 (v14.map Ai))]) (fun j14 h => ?_) (fun v14 h => ?_)
      ·refine AK h (fun v15 => mk [(0, .e (.one (.own 90000))), (1, .e (.one (.pure (.val (.int .i64 v1.2.1))))), (2, .e (.one (.pure (.val (.int .i64 v1.2.2.1))))), (3, .e (.one (.pure (.val (.int .i64 v7.2))))), (4, .e (.one (.clo (A0 (Cq true Ai true Ai) A8 p4)))), (10, .e (.one (.pure (.val (.bool v1.2.2.2.2.1))))), (11, .e (.one (.pure (.val (.bool v1.2.2.2.2.2))))), (12, .e (.one (.pure (.val (.int .i64 ((IntKind.wrap .i64 (v1.2.2.1 - v1.2.1)))))))), (13, .e (.one (.pure (.val (.int .i64 v11.2.1))))), (75, .e (.one (.pure (.val (.bool v15)))))] [(90000, .vec 3 (v11.1.map Ai))]) (fun j15 h => ?_) (fun v15 h => ?_)
       ·refine Aa Ad rfl (qm rfl (qm rfl ?_))
        refine AC (t := 69) rfl (fun c16 => ?_) (fun c16 => ?_)
        ·have h := An c16 h
         refine qm rfl (qp rfl (qm rfl ?_))
         refine AC (t := 72) rfl (fun c17 => ?_) (fun c17 => ?_)
         ·have h := An c17 h
          refine qm rfl (Cp rfl (qp rfl (Ae ?_)))
          exact Av _ h (sm [] _ _ rfl rfl)
         ·have h := Ao c17 h
          refine qn rfl (qn rfl (qp rfl (Ae ?_)))
          exact Av _ h (sm [] _ _ rfl rfl)
        ·have h := Ao c16 h
         refine qn rfl (qp rfl (qm rfl (qn rfl (qn rfl (qp rfl (Ae ?_))))))
         exact Av _ h (sm [] _ _ rfl rfl)
       ·refine Ap rfl (fun c18 => ?_) (fun c18 => ?_)
        ·have h := An c18 h
         refine Ab (Aa Ad rfl (qm rfl (qm rfl (qm rfl (qm rfl ?_)))))
         obtain ⟨v19, a19, h⟩ := bind_some h
         refine Bp (ds0 := [_, _, _, _]) [90000] [] [true] (FM N v11.1 v1.2.1 v1.2.2.1 p4 v19 a19) (.p rfl) Vp rfl ⟨rfl, rfl, rfl, rfl, trivial⟩ rfl rfl (by decide) ⟨rfl, trivial⟩ rfl (AM rfl) trivial ⟨(fun h => by cases h), trivial⟩ rfl rfl rfl ?_
         refine Ae ?_
         refine Ap rfl (fun c20 => ?_) (fun c20 => ?_)
         ·have h := An c20 h
          obtain rfl := sj h
          refine Ax ⟨_, (sm [] [] [(90000, .vec 3 (v19.2.map Ai))] rfl rfl), ?_⟩
          exact ⟨⟨[], trivial, rfl⟩, ⟨rfl, trivial⟩, trivial⟩
         ·have h := Ao c20 h
          refine Aq ?_
          exact Av _ h (sm [] _ _ rfl rfl)
        ·have h := Ao c18 h
         refine Aq ?_
         exact Av _ h (sm [] _ _ rfl rfl)
      ·refine Ab ?_
       refine AK h (fun v21 => mk [(0, .e (.one (.own 90000))), (1, .e (.one (.pure (.val (.int .i64 v1.2.1))))), (2, .e (.one (.pure (.val (.int .i64 v1.2.2.1))))), (3, .e (.one (.pure (.val (.int .i64 v7.2))))), (4, .e (.one (.clo (A0 (Cq true Ai true Ai) A8 p4)))), (10, .e (.one (.pure (.val (.bool v1.2.2.2.2.1))))), (11, .e (.one (.pure (.val (.bool v1.2.2.2.2.2))))), (12, .e (.one (.pure (.val (.int .i64 ((IntKind.wrap .i64 (v1.2.2.1 - v1.2.1)))))))), (13, .e (.one (.pure (.val (.int .i64 v11.2.1))))), (97, .e (.one (.pure (.val (.bool v21)))))] [(90000, .vec 3 (v14.map Ai))]) (fun j21 h => ?_) (fun v21 h => ?_)
       ·refine Aa Ad rfl (qm rfl (EA rfl (qm rfl ?_)))
        refine AC (t := 83) rfl (fun c22 => ?_) (fun c22 => ?_)
        ·have h := An c22 h
         refine qm rfl (qm rfl (qm rfl (Bb rfl ?_)))
         obtain ⟨v23, a23, b23, h⟩ := Aj h
         refine qI AS Ay a23 (Ag b23) rfl (qJ A6 Ay (Ag b23) rfl (qm rfl (qm rfl ?_)))
         obtain ⟨v24, a24, b24, h⟩ := Aj h
         refine qI AS Ay a24 (Ag b24) rfl (qJ A6 Ay (Ag b24) rfl ?_)
         obtain ⟨v25, a25, h⟩ := bind_some h
         refine CK (ds0 := [_, _]) (ar := (Cq true Ai true Ai) ((v23, v24))) (.g rfl rfl) rfl rfl ⟨rfl, rfl, trivial⟩ rfl rfl rfl (CA (Dk _ _ _ _ Bu Bu) a25) ?_
         refine AR rfl (CC rfl (qp rfl (Az (by kernel_rfl) ?_)))
         exact Av _ h (sm [] _ _ rfl rfl)
        ·have h := Ao c22 h
         refine qn rfl (qn rfl (qn rfl (qn rfl (qn rfl (qn rfl (qn rfl (qn rfl (qn rfl (qn rfl (qn rfl (qn rfl (qn rfl (qp rfl (Az (by kernel_rfl) ?_))))))))))))))
         exact Av _ h (sm [] _ _ rfl rfl)
       ·refine Ap rfl (fun c26 => ?_) (fun c26 => ?_)
        ·have h := An c26 h
         refine Ab (Aa Ad rfl (qm rfl (qm rfl (qm rfl (qm rfl (qm rfl ?_))))))
         obtain ⟨v27, a27, h⟩ := bind_some h
         refine Bp (ds0 := [_, _, _, _, _]) [90000] [] [true] (Gu N v14 v1.2.1 v1.2.2.1 v11.2.1 p4 v27 a27) (.p rfl) UZ rfl ⟨rfl, rfl, rfl, rfl, rfl, trivial⟩ rfl rfl (by decide) ⟨rfl, trivial⟩ rfl (AM rfl) trivial ⟨(fun h => by cases h), trivial⟩ rfl rfl rfl ?_
         refine qa rfl (Ae (Ab (Aa Ad rfl (qm rfl (qa rfl (Ae (AL ?_)))))))
         exact Av _ h (sm [] _ _ rfl rfl)
        ·have h := Ao c26 h
         refine Aq (Ab (Aa Ad rfl (qm rfl (qm rfl (qm rfl (qm rfl (qm rfl ?_)))))))
         obtain ⟨v28, a28, h⟩ := bind_some h
         refine Bp (ds0 := [_, _, _, _, _]) [90000] [] [true] (Ho N v14 v1.2.1 v1.2.2.1 v11.2.1 p4 v28 a28) (.p rfl) VD rfl ⟨rfl, rfl, rfl, rfl, rfl, trivial⟩ rfl rfl (by decide) ⟨rfl, trivial⟩ rfl (AM rfl) trivial ⟨(fun h => by cases h), trivial⟩ rfl rfl rfl ?_
         refine qm rfl (qx rfl (qx rfl (qa rfl (qa rfl (Ae (Ab (Aa Ad rfl (qm rfl (qa rfl (Ae (Ab (Aa Ad rfl (qm rfl (qm rfl (Bb rfl (qm rfl (qm rfl (Bb rfl (qa rfl (qa rfl (Ae (Ab (Aa Ad rfl (qm rfl (I5 rfl (by decide) (qa rfl (Ae (Ab (Aa Ad rfl (qm rfl (qm rfl (AR rfl (Ae ?_)))))))))))))))))))))))))))))))))
         refine Ap rfl (fun c29 => ?_) (fun c29 => ?_)
         ·have h := An c29 h
          refine Ab (Aa Ad rfl (qm rfl (qm rfl (Dl rfl (qa rfl (Ae (Ab (Aa Ad rfl (qm rfl (qm rfl (qm rfl (qm rfl (qm rfl ?_)))))))))))))
          obtain ⟨v30, a30, h⟩ := bind_some h
          refine Bp (ds0 := [_, _, _, _, _]) [90000] [] [true] (hrc v28.2.2 v1.2.1 v28.1 v7.2 p4 v30 a30) (.p rfl) Q5 rfl ⟨rfl, rfl, rfl, rfl, rfl, trivial⟩ rfl rfl (by decide) ⟨rfl, trivial⟩ rfl (AM rfl) trivial ⟨(fun h => by cases h), trivial⟩ rfl rfl rfl ?_
          refine Ae (Aa Ad rfl (qm rfl (AI rfl (qa rfl (Ae ?_)))))
          exact Av _ h (sm [] _ _ rfl rfl)
         ·have h := Ao c29 h
          refine Ab (Aa Ad rfl (qm rfl (qm rfl (Dl rfl (qa rfl (Ae (Ab (Aa Ad rfl (qm rfl (qm rfl (AI rfl (qm rfl (qm rfl (qm rfl ?_))))))))))))))
          obtain ⟨v31, a31, h⟩ := bind_some h
          refine Bp (ds0 := [_, _, _, _, _]) [90000] [] [true] (hrc v28.2.2 ((IntKind.wrap .i64 (v28.1 + 1))) v1.2.2.1 v7.2 p4 v31 a31) (.p rfl) Q5 rfl ⟨rfl, rfl, rfl, rfl, rfl, trivial⟩ rfl rfl (by decide) ⟨rfl, trivial⟩ rfl (AM rfl) trivial ⟨(fun h => by cases h), trivial⟩ rfl rfl rfl ?_
          refine Ae (Aa Ad rfl (qm rfl (qa rfl (Ae ?_))))
          exact Av _ h (sm [] _ _ rfl rfl)
 ·cases h
theorem Fc (N : Nat) : ∀ (k : Nat) (p0 : List Ah) (p1 : Int) (p2 : Int) (p3 : Int) (p4 : (Ah × Ah) → Option Int) (r : (List Ah)), Dc N k p0 p1 p2 p3 p4 = some r → A9 Tryz.prog 118 [.e (.one (.own 90000)), .e (.one (.pure (.val (.int .i64 p1)))), .e (.one (.pure (.val (.int .i64 p2)))), .e (.one (.pure (.val (.int .i64 p3)))), .e (.one (.clo (A0 (Cq true Ai true Ai) A8 p4)))] [(.vec 3 (p0.map Ai), .vec 3 (r.map Ai))] [] (.tup [])
 | 0, _, _, _, _, _, _, h => by cases h
 | k + 1, p0, p1, p2, p3, p4, r, h => Hl N (Dc N k) (Fc N k) p0 p1 p2 p3 p4 r h
theorem HN (N : Nat) (p0 : List Ah) (p1 : Int) (p2 : Int) (p3 : Int) (p4 : (Ah × Ah) → Option Int) (r : (List Ah)) (h : Fg N p0 p1 p2 p3 p4 = some r) : A9 Tryz.prog 118 [.e (.one (.own 90000)), .e (.one (.pure (.val (.int .i64 p1)))), .e (.one (.pure (.val (.int .i64 p2)))), .e (.one (.pure (.val (.int .i64 p3)))), .e (.one (.clo (A0 (Cq true Ai true Ai) A8 p4)))] [(.vec 3 (p0.map Ai), .vec 3 (r.map Ai))] [] (.tup []) := Fc N N p0 p1 p2 p3 p4 r h
set_option maxRecDepth 10000 in
theorem Hn (N : Nat) (p0 : List Ah) (p1 : (Ah × Ah) → Option Int) (r : (List Ah)) (h : D0 N p0 p1 = some r) : A9 Tryz.prog 86 [.e (.one (.own 90000)), .e (.one (.clo (A0 (Cq true Ai true Ai) A8 p1)))] [(.vec 3 (p0.map Ai), .vec 3 (r.map Ai))] [] (.tup []) := by
 unfold D0 at h
 refine AY (n := 14) (rs := []) Tryz.func86 rfl rfl rfl (AZ rfl) (AZ rfl) rfl rfl (AZ rfl) rfl (AZ rfl) fun w0 S0 GL => I4 ?_
 refine Am (sm [] [(0, .e (.one (.own 90000))), (1, .e (.one (.clo (A0 (Cq true Ai true Ai) A8 p1))))] [(90000, .vec 3 (p0.map Ai))] rfl rfl) (Ab (Aa Ad rfl (qm rfl (Fz AS rfl (qa rfl (Ae (Aa Ad rfl (qm rfl (qm rfl (qm rfl (Gk Rw Mb rfl ?_)))))))))))
 obtain ⟨v1, a1, h⟩ := bind_some h
 refine AG [] (Ih N ((IntKind.wrap .u64 ((p0.length : Int)))) v1 a1) Rp rfl (qm rfl ?_)
 obtain ⟨v2, a2, h⟩ := bind_some h
 refine Bp (ds0 := [_, _, _, _, _]) [90000] [] [true] (HN N p0 0 ((p0.length : Int)) v1 p1 v2 a2) (.p rfl) Q5 rfl ⟨rfl, rfl, rfl, rfl, rfl, trivial⟩ rfl rfl (by decide) ⟨rfl, trivial⟩ rfl (AM rfl) trivial ⟨(fun h => by cases h), trivial⟩ rfl rfl rfl ?_
 refine Ae ?_
 obtain rfl := sj h
 refine ⟨_, (sm [] [] [(90000, .vec 3 (v2.map Ai))] rfl rfl), ?_⟩
 exact ⟨⟨[], trivial, rfl⟩, ⟨rfl, trivial⟩, trivial⟩
set_option maxRecDepth 10000 in
theorem JZ (N : Nat) (p0 : Int) (r : Bool) (h : Gv N p0 = some r) : AA Tryz.prog 106 [.e (.one (.pure (.val (.int .i64 p0))))] [] (.e (.one (.pure (.val (.bool r))))) := by
 unfold Gv at h
 refine Ar (n := 6) (rs := [.tmp 2]) Tryz.func106 rfl rfl rfl (AZ rfl) (AZ rfl) rfl fun w0 S0 => ?_
 refine Ab (Aa Ad rfl (qa rfl (Ae (Ab (Aa Ad rfl (qm rfl (qm rfl (Cy rfl (qa rfl (Ae ?_))))))))))
 obtain rfl := sj h
 refine Am (sm [] [(2, .e (.one (.pure (.val (.bool ((p0 != p0)))))))] [] rfl rfl) (Ax ?_)
 exact ⟨⟨[_], ⟨.tmp _ _ rfl, trivial⟩, rfl⟩, trivial⟩
set_option maxRecDepth 10000 in
theorem Gi (N : Nat) (p0 : Int) (p1 : Int) (r : Int) (h : Eu N p0 p1 = some r) : AA Tryz.prog 62 [.e (.one (.pure (.val (.int .i64 p0)))), .e (.one (.pure (.val (.int .i64 p1))))] [] (.e (.one (.pure (.val (.int .i64 r))))) := by
 unfold Eu at h
 refine Ar (n := 20) (rs := [.tmp 4]) Tryz.func62 rfl rfl rfl (AZ rfl) (AZ rfl) rfl fun w0 S0 => ?_
 refine Ab (Aa Ad rfl (qa rfl (Ae (Ab (Aa Ad rfl (qm rfl ?_))))))
 obtain ⟨v1, a1, h⟩ := bind_some h
 refine AG [] (JZ N p0 v1 a1) Td rfl (qa rfl (Ae (Ab (Aa Ad rfl (qm rfl ?_)))))
 obtain ⟨v2, a2, h⟩ := bind_some h
 refine AG [] (JZ N p1 v2 a2) Td rfl (qa rfl (Ae (Ab (Ab (Aa Ad rfl (qm rfl (Ae ?_)))))))
 refine Ap rfl (fun c3 => ?_) (fun c3 => ?_)
 ·have h := An c3 h
  refine Ab (Ab (Aa Ad rfl (qm rfl (Ae ?_))))
  refine Ap rfl (fun c4 => ?_) (fun c4 => ?_)
  ·have h := An c4 h
   refine Ab (Aa Ad rfl (qa rfl (Ae ?_)))
   obtain rfl := sj h
   refine Am (sm [] [(4, .e (.one (.pure (.val (.int .i64 0)))))] [] rfl rfl) (Ax ?_)
   exact ⟨⟨[_], ⟨.tmp _ _ rfl, trivial⟩, rfl⟩, trivial⟩
  ·have h := Ao c4 h
   refine Aq (Ab (Aa Ad rfl (qa rfl (Ae ?_))))
   obtain rfl := sj h
   refine Am (sm [] [(4, .e (.one (.pure (.val (.int .i64 ((-1)))))))] [] rfl rfl) (Ax ?_)
   exact ⟨⟨[_], ⟨.tmp _ _ rfl, trivial⟩, rfl⟩, trivial⟩
 ·have h := Ao c3 h
  refine Aq (Ab (Ab (Aa Ad rfl (qm rfl (Ae ?_)))))
  refine Ap rfl (fun c5 => ?_) (fun c5 => ?_)
  ·have h := An c5 h
   refine Ab (Aa Ad rfl (qa rfl (Ae ?_)))
   obtain rfl := sj h
   refine Am (sm [] [(4, .e (.one (.pure (.val (.int .i64 1)))))] [] rfl rfl) (Ax ?_)
   exact ⟨⟨[_], ⟨.tmp _ _ rfl, trivial⟩, rfl⟩, trivial⟩
  ·have h := Ao c5 h
   refine Aq (Ab (Ab (Aa Ad rfl (qm rfl (qm rfl (AR rfl (Ae ?_)))))))
   refine Ap rfl (fun c6 => ?_) (fun c6 => ?_)
   ·have h := An c6 h
    refine Ab (Aa Ad rfl (qa rfl (Ae ?_)))
    obtain rfl := sj h
    refine Am (sm [] [(4, .e (.one (.pure (.val (.int .i64 ((-1)))))))] [] rfl rfl) (Ax ?_)
    exact ⟨⟨[_], ⟨.tmp _ _ rfl, trivial⟩, rfl⟩, trivial⟩
   ·have h := Ao c6 h
    refine Aq (Ab (Ab (Aa Ad rfl (qm rfl (qm rfl (EA rfl (Ae ?_)))))))
    refine Ap rfl (fun c7 => ?_) (fun c7 => ?_)
    ·have h := An c7 h
     refine Ab (Aa Ad rfl (qa rfl (Ae ?_)))
     obtain rfl := sj h
     refine Am (sm [] [(4, .e (.one (.pure (.val (.int .i64 1)))))] [] rfl rfl) (Ax ?_)
     exact ⟨⟨[_], ⟨.tmp _ _ rfl, trivial⟩, rfl⟩, trivial⟩
    ·have h := Ao c7 h
     refine Aq (Ab (Aa Ad rfl (qa rfl (Ae ?_))))
     obtain rfl := sj h
     refine Am (sm [] [(4, .e (.one (.pure (.val (.int .i64 0)))))] [] rfl rfl) (Ax ?_)
     exact ⟨⟨[_], ⟨.tmp _ _ rfl, trivial⟩, rfl⟩, trivial⟩
set_option maxRecDepth 10000 in
theorem GS (N : Nat) (p0 : List Int) (p1 : List Int) (r : Int) (h : Er N p0 p1 = some r) : AA Tryz.prog 92 [.e (.one (.pure (.sl (p0.map Ak)))), .e (.one (.pure (.sl (p1.map Ak))))] [] (.e (.one (.pure (.val (.int .i64 r))))) := by
 unfold Er at h
 refine Ar (n := 36) (rs := [.tmp 4]) Tryz.func92 rfl rfl rfl (AZ rfl) (AZ rfl) rfl fun w0 S0 => ?_
 refine Ab (Aa Ad rfl (qa rfl (Ae (Ab (Ab (Aa Ad rfl (qm rfl (AP AJ rfl (qm rfl (Ae ?_))))))))))
 refine AB (L := DW N p0 p1) h (fun v1 => mk [(0, .e (.one (.pure (.sl (p0.map Ak))))), (1, .e (.one (.pure (.sl (p1.map Ak))))), (9, .e (.one (.pure (.sl (p0.map Ak))))), (10, .e (.one (.pure (.val (.int .i64 ((p0.length : Int))))))), (11, .e (.one (.pure (.val (.int .i64 v1)))))] []) (fun v2 => mk [(0, .e (.one (.pure (.sl (p0.map Ak))))), (1, .e (.one (.pure (.sl (p1.map Ak)))))] []) (fun _ _ => rfl) (sm [] _ _ rfl rfl) (fun j1 n1 v1 h => ?_) (fun v2 s h hs => ?_)
 ·unfold DW at h
  refine Ab (Aa Ad rfl (AR rfl (Ae (Ab ?_))))
  refine Ap rfl (fun c3 => ?_) (fun c3 => ?_)
  ·have h := An c3 h
   refine Aq (Ab (AD (Ab (Aa Ad rfl (qm rfl ?_)))))
   obtain ⟨v4, a4, b4, h⟩ := Aj h
   refine qi AJ Es a4 (Ag b4) rfl (qk Dn rfl (qa rfl (qa rfl (Ae (Ab (Ab (Aa Ad rfl (qm rfl (qm rfl (AP AJ rfl (Dl rfl (Ae ?_))))))))))))
   refine Ap rfl (fun c5 => ?_) (fun c5 => ?_)
   ·have h := An c5 h
    refine Ab (Aa Ad rfl (qa rfl (Ae ?_)))
    obtain rfl := sj h
    refine Am (sm [] [(4, .e (.one (.pure (.val (.int .i64 1)))))] [] rfl rfl) (Ax ?_)
    exact ⟨⟨[_], ⟨.tmp _ _ rfl, trivial⟩, rfl⟩, trivial⟩
   ·have h := Ao c5 h
    refine Aq (Ab (Aa Ad rfl (qm rfl (qm rfl ?_))))
    obtain ⟨v6, a6, b6, h⟩ := Aj h
    refine qi AJ Es a6 (Ag b6) rfl (qk Dn rfl (qa rfl (Ae (Ab (Aa Ad rfl (qm rfl (qm rfl ?_)))))))
    obtain ⟨v7, a7, h⟩ := bind_some h
    refine AG [] (Gi N v4 v6 v7 a7) SI rfl (qa rfl (Ae (Ab (Aa Ad rfl (qm rfl (Cy rfl (Ae ?_)))))))
    refine Ap rfl (fun c8 => ?_) (fun c8 => ?_)
    ·have h := An c8 h
     refine Ab (Aa Ad rfl (qm rfl (qa rfl (Ae ?_))))
     obtain rfl := sj h
     refine Am (sm [] [(4, .e (.one (.pure (.val (.int .i64 v7)))))] [] rfl rfl) (Ax ?_)
     exact ⟨⟨[_], ⟨.tmp _ _ rfl, trivial⟩, rfl⟩, trivial⟩
    ·have h := Ao c8 h
     refine Aq (Aa Ad rfl (AI rfl (qm rfl (Ae ?_))))
     exact Av _ h (sm [] _ _ rfl rfl)
  ·have h := Ao c3 h
   refine AL ?_
   exact Av _ h (sm [] _ _ rfl rfl)
 ·refine Am hs (Ab (Ab (Aa Ad rfl (qm rfl (AP AJ rfl (qm rfl (AP AJ rfl (AR rfl (Ae ?_)))))))))
  refine Ap rfl (fun c9 => ?_) (fun c9 => ?_)
  ·have h := An c9 h
   refine Ab (Aa Ad rfl (qa rfl (Ae ?_)))
   obtain rfl := sj h
   refine Am (sm [] [(4, .e (.one (.pure (.val (.int .i64 ((-1)))))))] [] rfl rfl) (Ax ?_)
   exact ⟨⟨[_], ⟨.tmp _ _ rfl, trivial⟩, rfl⟩, trivial⟩
  ·have h := Ao c9 h
   refine Aq (Ab (Aa Ad rfl (qa rfl (Ae ?_))))
   obtain rfl := sj h
   refine Am (sm [] [(4, .e (.one (.pure (.val (.int .i64 0)))))] [] rfl rfl) (Ax ?_)
   exact ⟨⟨[_], ⟨.tmp _ _ rfl, trivial⟩, rfl⟩, trivial⟩
set_option maxRecDepth 10000 in
theorem Im (N : Nat) (p0 : Int) (r : Bool) (h : Fi N p0 = some r) : AA Tryz.prog 155 [.e (.one (.pure (.val (.int .u8 p0))))] [] (.e (.one (.pure (.val (.bool r))))) := by
 unfold Fi at h
 refine Ar (n := 6) (rs := [.tmp 2]) Tryz.func155 rfl rfl rfl (AZ rfl) (AZ rfl) rfl fun w0 S0 => ?_
 refine Ab (Aa Ad rfl (qa rfl (Ae (Ab (Aa Ad rfl (qm rfl (qm rfl (Cy rfl (qa rfl (Ae ?_))))))))))
 obtain rfl := sj h
 refine Am (sm [] [(2, .e (.one (.pure (.val (.bool ((p0 != p0)))))))] [] rfl rfl) (Ax ?_)
 exact ⟨⟨[_], ⟨.tmp _ _ rfl, trivial⟩, rfl⟩, trivial⟩
set_option maxRecDepth 10000 in
theorem J1 (N : Nat) (p0 : Int) (p1 : Int) (r : Int) (h : FZ N p0 p1 = some r) : AA Tryz.prog 121 [.e (.one (.pure (.val (.int .u8 p0)))), .e (.one (.pure (.val (.int .u8 p1))))] [] (.e (.one (.pure (.val (.int .i64 r))))) := by
 unfold FZ at h
 refine Ar (n := 20) (rs := [.tmp 4]) Tryz.func121 rfl rfl rfl (AZ rfl) (AZ rfl) rfl fun w0 S0 => ?_
 refine Ab (Aa Ad rfl (qa rfl (Ae (Ab (Aa Ad rfl (qm rfl ?_))))))
 obtain ⟨v1, a1, h⟩ := bind_some h
 refine AG [] (Im N p0 v1 a1) TC rfl (qa rfl (Ae (Ab (Aa Ad rfl (qm rfl ?_)))))
 obtain ⟨v2, a2, h⟩ := bind_some h
 refine AG [] (Im N p1 v2 a2) TC rfl (qa rfl (Ae (Ab (Ab (Aa Ad rfl (qm rfl (Ae ?_)))))))
 refine Ap rfl (fun c3 => ?_) (fun c3 => ?_)
 ·have h := An c3 h
  refine Ab (Ab (Aa Ad rfl (qm rfl (Ae ?_))))
  refine Ap rfl (fun c4 => ?_) (fun c4 => ?_)
  ·have h := An c4 h
   refine Ab (Aa Ad rfl (qa rfl (Ae ?_)))
   obtain rfl := sj h
   refine Am (sm [] [(4, .e (.one (.pure (.val (.int .i64 0)))))] [] rfl rfl) (Ax ?_)
   exact ⟨⟨[_], ⟨.tmp _ _ rfl, trivial⟩, rfl⟩, trivial⟩
  ·have h := Ao c4 h
   refine Aq (Ab (Aa Ad rfl (qa rfl (Ae ?_))))
   obtain rfl := sj h
   refine Am (sm [] [(4, .e (.one (.pure (.val (.int .i64 ((-1)))))))] [] rfl rfl) (Ax ?_)
   exact ⟨⟨[_], ⟨.tmp _ _ rfl, trivial⟩, rfl⟩, trivial⟩
 ·have h := Ao c3 h
  refine Aq (Ab (Ab (Aa Ad rfl (qm rfl (Ae ?_)))))
  refine Ap rfl (fun c5 => ?_) (fun c5 => ?_)
  ·have h := An c5 h
   refine Ab (Aa Ad rfl (qa rfl (Ae ?_)))
   obtain rfl := sj h
   refine Am (sm [] [(4, .e (.one (.pure (.val (.int .i64 1)))))] [] rfl rfl) (Ax ?_)
   exact ⟨⟨[_], ⟨.tmp _ _ rfl, trivial⟩, rfl⟩, trivial⟩
  ·have h := Ao c5 h
   refine Aq (Ab (Ab (Aa Ad rfl (qm rfl (qm rfl (AR rfl (Ae ?_)))))))
   refine Ap rfl (fun c6 => ?_) (fun c6 => ?_)
   ·have h := An c6 h
    refine Ab (Aa Ad rfl (qa rfl (Ae ?_)))
    obtain rfl := sj h
    refine Am (sm [] [(4, .e (.one (.pure (.val (.int .i64 ((-1)))))))] [] rfl rfl) (Ax ?_)
    exact ⟨⟨[_], ⟨.tmp _ _ rfl, trivial⟩, rfl⟩, trivial⟩
   ·have h := Ao c6 h
    refine Aq (Ab (Ab (Aa Ad rfl (qm rfl (qm rfl (EA rfl (Ae ?_)))))))
    refine Ap rfl (fun c7 => ?_) (fun c7 => ?_)
    ·have h := An c7 h
     refine Ab (Aa Ad rfl (qa rfl (Ae ?_)))
     obtain rfl := sj h
     refine Am (sm [] [(4, .e (.one (.pure (.val (.int .i64 1)))))] [] rfl rfl) (Ax ?_)
     exact ⟨⟨[_], ⟨.tmp _ _ rfl, trivial⟩, rfl⟩, trivial⟩
    ·have h := Ao c7 h
     refine Aq (Ab (Aa Ad rfl (qa rfl (Ae ?_))))
     obtain rfl := sj h
     refine Am (sm [] [(4, .e (.one (.pure (.val (.int .i64 0)))))] [] rfl rfl) (Ax ?_)
     exact ⟨⟨[_], ⟨.tmp _ _ rfl, trivial⟩, rfl⟩, trivial⟩
set_option maxRecDepth 10000 in
theorem HD (N : Nat) (p0 : List Int) (p1 : List Int) (r : Int) (h : D9 N p0 p1 = some r) : AA Tryz.prog 93 [.e (.one (.pure (.sl (p0.map Bv)))), .e (.one (.pure (.sl (p1.map Bv))))] [] (.e (.one (.pure (.val (.int .i64 r))))) := by
 unfold D9 at h
 refine Ar (n := 36) (rs := [.tmp 4]) Tryz.func93 rfl rfl rfl (AZ rfl) (AZ rfl) rfl fun w0 S0 => ?_
 refine Ab (Aa Ad rfl (qa rfl (Ae (Ab (Ab (Aa Ad rfl (qm rfl (AP EB rfl (qm rfl (Ae ?_))))))))))
 refine AB (L := CW N p0 p1) h (fun v1 => mk [(0, .e (.one (.pure (.sl (p0.map Bv))))), (1, .e (.one (.pure (.sl (p1.map Bv))))), (9, .e (.one (.pure (.sl (p0.map Bv))))), (10, .e (.one (.pure (.val (.int .i64 ((p0.length : Int))))))), (11, .e (.one (.pure (.val (.int .i64 v1)))))] []) (fun v2 => mk [(0, .e (.one (.pure (.sl (p0.map Bv))))), (1, .e (.one (.pure (.sl (p1.map Bv)))))] []) (fun _ _ => rfl) (sm [] _ _ rfl rfl) (fun j1 n1 v1 h => ?_) (fun v2 s h hs => ?_)
 ·unfold CW at h
  refine Ab (Aa Ad rfl (AR rfl (Ae (Ab ?_))))
  refine Ap rfl (fun c3 => ?_) (fun c3 => ?_)
  ·have h := An c3 h
   refine Aq (Ab (AD (Ab (Aa Ad rfl (qm rfl ?_)))))
   obtain ⟨v4, a4, b4, h⟩ := Aj h
   refine qi EB HM a4 (Ag b4) rfl (qk KO rfl (qa rfl (qa rfl (Ae (Ab (Ab (Aa Ad rfl (qm rfl (qm rfl (AP EB rfl (Dl rfl (Ae ?_))))))))))))
   refine Ap rfl (fun c5 => ?_) (fun c5 => ?_)
   ·have h := An c5 h
    refine Ab (Aa Ad rfl (qa rfl (Ae ?_)))
    obtain rfl := sj h
    refine Am (sm [] [(4, .e (.one (.pure (.val (.int .i64 1)))))] [] rfl rfl) (Ax ?_)
    exact ⟨⟨[_], ⟨.tmp _ _ rfl, trivial⟩, rfl⟩, trivial⟩
   ·have h := Ao c5 h
    refine Aq (Ab (Aa Ad rfl (qm rfl (qm rfl ?_))))
    obtain ⟨v6, a6, b6, h⟩ := Aj h
    refine qi EB HM a6 (Ag b6) rfl (qk KO rfl (qa rfl (Ae (Ab (Aa Ad rfl (qm rfl (qm rfl ?_)))))))
    obtain ⟨v7, a7, h⟩ := bind_some h
    refine AG [] (J1 N v4 v6 v7 a7) UG rfl (qa rfl (Ae (Ab (Aa Ad rfl (qm rfl (Cy rfl (Ae ?_)))))))
    refine Ap rfl (fun c8 => ?_) (fun c8 => ?_)
    ·have h := An c8 h
     refine Ab (Aa Ad rfl (qm rfl (qa rfl (Ae ?_))))
     obtain rfl := sj h
     refine Am (sm [] [(4, .e (.one (.pure (.val (.int .i64 v7)))))] [] rfl rfl) (Ax ?_)
     exact ⟨⟨[_], ⟨.tmp _ _ rfl, trivial⟩, rfl⟩, trivial⟩
    ·have h := Ao c8 h
     refine Aq (Aa Ad rfl (AI rfl (qm rfl (Ae ?_))))
     exact Av _ h (sm [] _ _ rfl rfl)
  ·have h := Ao c3 h
   refine AL ?_
   exact Av _ h (sm [] _ _ rfl rfl)
 ·refine Am hs (Ab (Ab (Aa Ad rfl (qm rfl (AP EB rfl (qm rfl (AP EB rfl (AR rfl (Ae ?_)))))))))
  refine Ap rfl (fun c9 => ?_) (fun c9 => ?_)
  ·have h := An c9 h
   refine Ab (Aa Ad rfl (qa rfl (Ae ?_)))
   obtain rfl := sj h
   refine Am (sm [] [(4, .e (.one (.pure (.val (.int .i64 ((-1)))))))] [] rfl rfl) (Ax ?_)
   exact ⟨⟨[_], ⟨.tmp _ _ rfl, trivial⟩, rfl⟩, trivial⟩
  ·have h := Ao c9 h
   refine Aq (Ab (Aa Ad rfl (qa rfl (Ae ?_))))
   obtain rfl := sj h
   refine Am (sm [] [(4, .e (.one (.pure (.val (.int .i64 0)))))] [] rfl rfl) (Ax ?_)
   exact ⟨⟨[_], ⟨.tmp _ _ rfl, trivial⟩, rfl⟩, trivial⟩
set_option maxRecDepth 10000 in
theorem K1 (N : Nat) (p0 : List Int) (r : Int) (h : H5 N p0 = some r) : AA Tryz.prog 61 [.e (.one (.pure (.sl (p0.map Ak))))] [] (.e (.one (.pure (.val (.int .i64 r))))) := by
 unfold H5 at h
 refine Ar (n := 18) (rs := [.tmp 2]) Tryz.func61 rfl rfl rfl (AZ rfl) (AZ rfl) rfl fun w0 S0 => ?_
 refine Ab (Aa Ad rfl (qa rfl (Ae (Ab (Aa Ad rfl (qa rfl (Ae (Ab (Ab (Aa Ad rfl (qm rfl (AP AJ rfl (qm rfl (Ae ?_))))))))))))))
 refine AB (L := GE N p0) h (fun v1 => mk [(3, .e (.one (.pure (.val (.int .i64 0))))), (6, .e (.one (.pure (.sl (p0.map Ak))))), (7, .e (.one (.pure (.val (.int .i64 ((p0.length : Int))))))), (8, .e (.one (.pure (.val (.int .i64 v1)))))] []) (fun v2 => mk [(3, .e (.one (.pure (.val (.int .i64 0)))))] []) (fun _ _ => rfl) (sm [] _ _ rfl rfl) (fun j1 n1 v1 h => ?_) (fun v2 s h hs => ?_)
 ·unfold GE at h
  refine Ab (Aa Ad rfl (AR rfl (Ae (Ab ?_))))
  refine Ap rfl (fun c3 => ?_) (fun c3 => ?_)
  ·have h := An c3 h
   refine Aq (Ab (AD (Ab (Aa Ad rfl ?_))))
   obtain ⟨v4, a4, b4, h⟩ := Aj h
   refine qi AJ Es a4 (Ag b4) rfl (qk Dn rfl (qa rfl (Ae (Ab (Aa Ad rfl (qm rfl (qm rfl (Cy rfl (Ae ?_)))))))))
   refine Ap rfl (fun c5 => ?_) (fun c5 => ?_)
   ·have h := An c5 h
    refine Ab (Aa Ad rfl (qm rfl (qa rfl (Ae ?_))))
    obtain rfl := sj h
    refine Am (sm [] [(2, .e (.one (.pure (.val (.int .i64 v4)))))] [] rfl rfl) (Ax ?_)
    exact ⟨⟨[_], ⟨.tmp _ _ rfl, trivial⟩, rfl⟩, trivial⟩
   ·have h := Ao c5 h
    refine Aq (Aa Ad rfl (AI rfl (qm rfl (Ae ?_))))
    exact Av _ h (sm [] _ _ rfl rfl)
  ·have h := Ao c3 h
   refine AL ?_
   exact Av _ h (sm [] _ _ rfl rfl)
 ·refine Am hs (Ab (Aa Ad rfl (qm rfl (qa rfl (Ae ?_)))))
  obtain rfl := sj h
  refine Am (sm [] [(2, .e (.one (.pure (.val (.int .i64 0)))))] [] rfl rfl) (Ax ?_)
  exact ⟨⟨[_], ⟨.tmp _ _ rfl, trivial⟩, rfl⟩, trivial⟩
set_option maxRecDepth 10000 in
theorem Jd (N : Nat) (p0 : Ah) (p1 : Ah) (r : Int) (h : E7 N p0 p1 = some r) : AA Tryz.prog 46 [.e (.agg [.pure (.sl (p0.fBase.map Ak)), .pure (.sl (p0.fNext.map Ak)), .pure (.sl (p0.fHeld.map Bv))]), .e (.agg [.pure (.sl (p1.fBase.map Ak)), .pure (.sl (p1.fNext.map Ak)), .pure (.sl (p1.fHeld.map Bv))])] [] (.e (.one (.pure (.val (.int .i64 r))))) := by
 unfold E7 at h
 refine Ar (n := 22) (rs := [.tmp 4]) Tryz.func46 rfl rfl rfl (AZ rfl) (AZ rfl) rfl fun w0 S0 => ?_
 refine Ab (Aa Ad rfl (qb rfl (qb rfl (qa rfl (Ae (Ab (Aa Ad rfl (qf Du rfl (ql Bw rfl (qf Du rfl (ql Bw rfl ?_)))))))))))
 obtain ⟨v1, a1, h⟩ := bind_some h
 refine AG [] (GS N p0.fBase p1.fBase v1 a1) Uv rfl (qf CU rfl (ql Bw rfl (qf CU rfl (ql Bw rfl ?_))))
 obtain ⟨v2, a2, h⟩ := bind_some h
 refine AG [] (GS N p0.fNext p1.fNext v2 a2) Uv rfl (qf DX rfl (ql It rfl (qf DX rfl (ql It rfl ?_))))
 obtain ⟨v3, a3, h⟩ := bind_some h
 refine AG [] (HD N p0.fHeld p1.fHeld v3 a3) WI rfl (EX AJ Es Lr rfl ?_)
 obtain ⟨v4, a4, h⟩ := bind_some h
 refine DE [] [20] (K1 N (([v1, v2, v3] : List Int)) v4 a4) Vt Cf rfl (qa rfl (Az (by kernel_rfl) ?_))
 obtain rfl := sj h
 refine Am (sm [] [(4, .e (.one (.pure (.val (.int .i64 v4)))))] [] rfl rfl) (Ax ?_)
 exact ⟨⟨[_], ⟨.tmp _ _ rfl, trivial⟩, rfl⟩, trivial⟩
set_option maxRecDepth 10000 in
theorem MG (N : Nat) (p0 : Al) (r : (List Ah) × Int) (h : Ie N p0 = some r) : AA Tryz.prog 40 [.e (.agg [.pure (.sl (p0.fVersions.map Ak)), .pure (.sl (p0.fNow.map Ak)), .pure (.sl (p0.fTarget.map Ak)), .pure (.sl (p0.fTables.map Au))])] [(3, r.1.map Ai)] (.tup [.one (.own 0), .one (.pure (.val (.int .i64 r.2)))]) := by
 unfold Ie at h
 refine Ar (n := 73) (rs := [.tmp 2, .tmp 3]) Tryz.func40 rfl rfl rfl (AZ rfl) (AZ rfl) rfl fun w0 S0 => ?_
 refine Ab (Aa Ad rfl (qb rfl (qa rfl (qa rfl (Ae (Ab (Aa Ad rfl (qL EE Ek rfl ?_))))))))
 obtain ⟨v1, a1, h⟩ := bind_some h
 refine AG [2001, 2002, 2003] (Nm N p0 v1 a1) Wj rfl (qm rfl (qx rfl (qx rfl (qx rfl (qz DN rfl (qs Ay rfl (qa rfl (qa rfl (Ae (Ab ?_))))))))))
 refine AK h (fun v2 => mk [(1, .e (.one (.ptr 1 0))), (4, .e (.one (.ptr 4 0))), (6, .e (.one (.pure (.val (.int .i64 v1.2.2))))), (25, .e (.one (.pure (.val (.bool v2)))))] [(1, .box [.pure (.sl (p0.fVersions.map Ak)), .pure (.sl (p0.fNow.map Ak)), .pure (.sl (p0.fTarget.map Ak)), .pure (.sl (p0.fTables.map Au))]), (4, .box [.own 2004, .own 2005, .own 2006]), (2004, .vec 1 (v1.1.fBase.map Ak)), (2005, .vec 1 (v1.1.fNext.map Ak)), (2006, .vec 1 (v1.1.fHeld.map Bv))]) (fun j2 h => ?_) (fun v2 h => ?_)
 ·refine Aa Ad rfl (qm rfl (Cy rfl (qm rfl ?_)))
  refine AC (t := 22) rfl (fun c3 => ?_) (fun c3 => ?_)
  ·have h := An c3 h
   refine qn rfl (qn rfl (qp rfl (Ae ?_)))
   exact Av _ h (sm [(2004, 2001), (2005, 2002), (2006, 2003)] _ _ rfl rfl)
  ·have h := Ao c3 h
   refine qm rfl (CC rfl (qp rfl (Ae ?_)))
   exact Av _ h (sm [(2004, 2001), (2005, 2002), (2006, 2003)] _ _ rfl rfl)
 ·refine Ap rfl (fun c4 => ?_) (fun c4 => ?_)
  ·have h := An c4 h
   refine Ab (Aa Ad rfl (qm rfl (qa rfl (qa rfl (Ae ?_)))))
   obtain rfl := sj h
   refine Am ((BR 2 2007 3 rfl rfl rfl).trans (sm [(1000, 2007)] [(2, .e (.one (.own 1000))), (3, .e (.one (.pure (.val (.int .i64 v1.2.2)))))] [(1000, .vec 3 ((([] : List Ah)).map Ai))] rfl rfl)) (Ax ?_)
   exact ⟨⟨[_, _], ⟨.tmp _ _ rfl, ⟨.tmp _ _ rfl, trivial⟩⟩, rfl⟩, ⟨rfl, trivial⟩⟩
  ·have h := Ao c4 h
   refine Aq (Ab (Aa Ad rfl (qL A6 Ay rfl (En (Bl 2004 _ _ rfl rfl) (En (Bl 2005 _ _ rfl rfl) (En (Bl 2006 _ _ rfl rfl) (EX AS Ay DN rfl (qa rfl (Ae (Ab (Aa Ad rfl ?_)))))))))))
   refine Qz (.p rfl) rfl ?_
   refine qL A6 Ay rfl ?_
   obtain ⟨v5, a5, h⟩ := bind_some h
   refine AG [] (Kj N v1.1 v5 a5) T8 rfl ?_
   refine O3 (kv := Value.string) (vt := tB) (m := ([] : List (ByteArray × Bool))) (k := v5) (v := true) rfl (.inr rfl) rfl rfl rfl rfl (LU N7 Ua) rfl ?_
   refine qm rfl (qa rfl (Ae (Ab (Ab (Aa Ad rfl (qa rfl (Ae ?_)))))))
   refine AB (L := FU N p0) h (fun v6 => mk [(1, .e (.one (.ptr 1 0))), (7, .e (.one (.own 2008))), (8, .e (.one (.mref 2009))), (9, .e (.one (.pure (.val (.int .i64 v6.2.2)))))] [(1, .box [.pure (.sl (p0.fVersions.map Ak)), .pure (.sl (p0.fNow.map Ak)), .pure (.sl (p0.fTarget.map Ak)), .pure (.sl (p0.fTables.map Au))]), (2008, .vec 3 (v6.1.map Ai)), (2009, .mp (Jq Value.string tB v6.2.1))]) (fun v7 => mk [(7, .e (.one (.own 2010)))] [(2010, .vec 3 (v7.map Ai))]) (fun _ _ => rfl) (sm [(2008, 28), (2009, 29)] _ _ rfl rfl) (fun j6 n6 v6 h => ?_) (fun v7 s h hs => ?_)
   ·unfold FU at h
    refine Ab (Ab (Aa Ad rfl (qm rfl (qm rfl (Fz AS rfl (AR rfl (Ae ?_)))))))
    refine Ap rfl (fun c8 => ?_) (fun c8 => ?_)
    ·have h := An c8 h
     refine Aq (Ab (AD (Ab (Aa Ad rfl (qL EE Ek rfl (qm rfl (qm rfl ?_)))))))
     obtain ⟨v9, a9, b9, h⟩ := Aj h
     refine qI AS Ay a9 (Ag b9) rfl (qJ A6 Ay (Ag b9) rfl ?_)
     obtain ⟨v10, a10, h⟩ := bind_some h
     refine AG [2011, 2012] (Od N p0 v9 v10 a10) Wu rfl (qm rfl (qx rfl (qx rfl (qa rfl (qa rfl (Az (by kernel_rfl) (Ab (Ab (Aa Ad rfl (qm rfl (Fz AS rfl (qm rfl (Ae ?_)))))))))))))
     refine AB (L := FH N v10) h (fun v11 => mk [(1, .e (.one (.ptr 1 0))), (7, .e (.one (.own 2013))), (8, .e (.one (.mref 2014))), (9, .e (.one (.pure (.val (.int .i64 v6.2.2))))), (48, .e (.one (.own 2015))), (49, .e (.one (.pure (.val (.int .i64 ((v10.2.length : Int))))))), (50, .e (.one (.pure (.val (.int .i64 v11.2.2)))))] [(1, .box [.pure (.sl (p0.fVersions.map Ak)), .pure (.sl (p0.fNow.map Ak)), .pure (.sl (p0.fTarget.map Ak)), .pure (.sl (p0.fTables.map Au))]), (2013, .vec 3 (v11.1.map Ai)), (2014, .mp (Jq Value.string tB v11.2.1)), (2015, .vec 3 (v10.2.map Ai))]) (fun v12 => mk [(1, .e (.one (.ptr 1 0))), (7, .e (.one (.own 2016))), (8, .e (.one (.mref 2017))), (9, .e (.one (.pure (.val (.int .i64 v6.2.2)))))] [(1, .box [.pure (.sl (p0.fVersions.map Ak)), .pure (.sl (p0.fNow.map Ak)), .pure (.sl (p0.fTarget.map Ak)), .pure (.sl (p0.fTables.map Au))]), (2016, .vec 3 (v12.1.map Ai)), (2017, .mp (Jq Value.string tB v12.2))]) (fun _ _ => rfl) (sm [(2013, 2008), (2014, 2009), (2015, 2012)] _ _ rfl rfl) (fun j11 n11 v11 h => ?_) (fun v12 s h hs => ?_)
     ·unfold FH at h
      refine Ab (Aa Ad rfl (AR rfl (Ae (Ab ?_))))
      refine Ap rfl (fun c13 => ?_) (fun c13 => ?_)
      ·have h := An c13 h
       refine Aq ?_
       refine AK h (fun v14 => mk [(1, .e (.one (.ptr 1 0))), (7, .e (.one (.own 2018))), (8, .e (.one (.mref 2019))), (9, .e (.one (.pure (.val (.int .i64 v6.2.2))))), (48, .e (.one (.own 2020))), (49, .e (.one (.pure (.val (.int .i64 ((v10.2.length : Int))))))), (50, .e (.one (.pure (.val (.int .i64 v11.2.2)))))] [(1, .box [.pure (.sl (p0.fVersions.map Ak)), .pure (.sl (p0.fNow.map Ak)), .pure (.sl (p0.fTarget.map Ak)), .pure (.sl (p0.fTables.map Au))]), (2018, .vec 3 (v14.1.map Ai)), (2019, .mp (Jq Value.string tB v14.2)), (2020, .vec 3 (v10.2.map Ai))]) (fun j14 h => ?_) (fun v14 h => ?_)
       ·refine AD (Ab (Aa Ad rfl ?_))
        obtain ⟨v15, a15, b15, h⟩ := Aj h
        refine qI AS Ay a15 (Ag b15) rfl (qJ A6 Ay (Ag b15) rfl (qz DN rfl (qs Ay rfl (Ae (Ab (Aa Ad rfl (qm rfl (qL A6 Ay rfl ?_))))))))
        obtain ⟨v16, a16, h⟩ := bind_some h
        refine AG [] (Kj N v15 v16 a16) T8 rfl ?_
        refine Rz (kv := Value.string) (vt := tB) (m := v11.2.1) (dv := false) (.p rfl) rfl rfl rfl (LU N7 Ua) (by rw [N7]; rfl) S7 rfl rfl rfl ?_
        refine CC rfl (Ae ?_)
        refine Ap rfl (fun c17 => ?_) (fun c17 => ?_)
        ·have h := An c17 h
         refine Ab (Aa Ad rfl (qm rfl (qL A6 Ay rfl ?_)))
         obtain ⟨v18, a18, h⟩ := bind_some h
         refine AG [] (Kj N v15 v18 a18) T8 rfl ?_
         refine O3 (kv := Value.string) (vt := tB) (m := v11.2.1) (k := v18) (v := true) rfl (.inl rfl) rfl rfl rfl rfl (LU N7 Ua) rfl ?_
         refine Ae (Aa Ad rfl (qm rfl (qL A6 Ay rfl (EX AS Ay DN rfl ?_))))
         obtain ⟨c19, h⟩ := AW h
         refine Ep (f := Ai) AS AS Ay P6 DN c19 rfl (qa rfl (Ae ?_))
         exact Av _ h (sm [(2018, 65), (2019, 2014), (2020, 2015)] _ _ rfl rfl)
        ·have h := Ao c17 h
         refine Aq ?_
         exact Av _ h (sm [(2018, 2013), (2019, 2014), (2020, 2015)] _ _ rfl rfl)
       ·refine Aa Ad rfl (AI rfl (qm rfl (Ae ?_)))
        exact Av _ h (sm [(2013, 2018), (2014, 2019), (2015, 2020)] _ _ rfl rfl)
      ·have h := Ao c13 h
       refine AL ?_
       exact Av _ h (sm [(2016, 2013), (2017, 2014)] _ _ rfl rfl)
     ·refine Am hs (Ab (Aa Ad rfl (qm rfl (Fz AS rfl (EA rfl (Ae ?_))))))
      refine Ap rfl (fun c20 => ?_) (fun c20 => ?_)
      ·have h := An c20 h
       refine Ab (Aa Ad rfl (qa rfl (qa rfl (Ae ?_))))
       obtain rfl := sj h
       refine Am ((BR 2 2021 3 rfl rfl rfl).trans (sm [(1000, 2021)] [(2, .e (.one (.own 1000))), (3, .e (.one (.pure (.val (.int .i64 3)))))] [(1000, .vec 3 ((([] : List Ah)).map Ai))] rfl rfl)) (Ax ?_)
       exact ⟨⟨[_, _], ⟨.tmp _ _ rfl, ⟨.tmp _ _ rfl, trivial⟩⟩, rfl⟩, ⟨rfl, trivial⟩⟩
      ·have h := Ao c20 h
       refine Aq (Aa Ad rfl (qm rfl (AI rfl (qa rfl (Ae ?_)))))
       exact Av _ h (sm [(2008, 2016), (2009, 2017)] _ _ rfl rfl)
    ·have h := Ao c8 h
     refine AL ?_
     exact Av _ h (sm [(2010, 2008)] _ _ rfl rfl)
   ·refine Am hs (Ab (Aa Ad rfl (qm rfl ?_)))
    obtain ⟨v21, a21, h⟩ := bind_some h
    refine Bp (ds0 := [_, _]) [2010] [] [true] (A9.weak (ds' := [_, .e (.one (.fnc 46))]) (Hn N v7 ((fun (x : Ah × Ah) => E7 N x.1 x.2)) v21 a21) ⟨(fun _ _ _ hh => hh), (fun _ _ _ hh => OF Um (fun ar t ht => by obtain ⟨x, r, rfl, hq, rfl⟩ := HV ht; exact Jd N x.1 x.2 r hq) hh), trivial⟩) (.p rfl) Wc rfl ⟨rfl, rfl, trivial⟩ rfl rfl (by decide) ⟨rfl, trivial⟩ rfl (AM rfl) trivial ⟨(fun h => by cases h), trivial⟩ rfl rfl rfl ?_
    refine Ae (Ab (Aa Ad rfl (qm rfl (qa rfl (qa rfl (Ae ?_))))))
    obtain rfl := sj h
    refine Am (sm [(1000, 2010)] [(2, .e (.one (.own 1000))), (3, .e (.one (.pure (.val (.int .i64 0)))))] [(1000, .vec 3 (v21.map Ai))] rfl rfl) (Ax ?_)
    exact ⟨⟨[_, _], ⟨.tmp _ _ rfl, ⟨.tmp _ _ rfl, trivial⟩⟩, rfl⟩, ⟨rfl, trivial⟩⟩
set_option maxRecDepth 10000 in
theorem JM (N : Nat) (p0 : List Int) (p1 : List Int) (r : Bool) (h : FJ N p0 p1 = some r) : AA Tryz.prog 87 [.e (.one (.pure (.sl (p0.map Ak)))), .e (.one (.pure (.sl (p1.map Ak))))] [] (.e (.one (.pure (.val (.bool r))))) := by
 unfold FJ at h
 refine Ar (n := 26) (rs := [.tmp 4]) Tryz.func87 rfl rfl rfl (AZ rfl) (AZ rfl) rfl fun w0 S0 => ?_
 refine Ab (Aa Ad rfl (qa rfl (Ae (Ab (Ab (Aa Ad rfl (qm rfl (AP AJ rfl (qm rfl (AP AJ rfl (Cy rfl (Ae ?_))))))))))))
 refine Ap rfl (fun c1 => ?_) (fun c1 => ?_)
 ·have h := An c1 h
  refine Ab (Aa Ad rfl (qa rfl (Ae ?_)))
  obtain rfl := sj h
  refine Am (sm [] [(4, .e (.one (.pure (.val (.bool false)))))] [] rfl rfl) (Ax ?_)
  exact ⟨⟨[_], ⟨.tmp _ _ rfl, trivial⟩, rfl⟩, trivial⟩
 ·have h := Ao c1 h
  refine Aq (Ab (Ab (Aa Ad rfl (qm rfl (AP AJ rfl (qm rfl (Ae ?_)))))))
  refine AB (L := Eb N p0 p1) h (fun v2 => mk [(0, .e (.one (.pure (.sl (p0.map Ak))))), (1, .e (.one (.pure (.sl (p1.map Ak))))), (12, .e (.one (.pure (.val (.int .i64 ((p0.length : Int))))))), (13, .e (.one (.pure (.val (.int .i64 v2)))))] []) (fun v3 => mk [] []) (fun _ _ => rfl) (sm [] _ _ rfl rfl) (fun j2 n2 v2 h => ?_) (fun v3 s h hs => ?_)
  ·unfold Eb at h
   refine Ab (Aa Ad rfl (AR rfl (Ae (Ab ?_))))
   refine Ap rfl (fun c4 => ?_) (fun c4 => ?_)
   ·have h := An c4 h
    refine Aq (Ab (AD (Ab (Aa Ad rfl (qm rfl (qa rfl (Ae (Ab (Aa Ad rfl (qm rfl (qm rfl ?_)))))))))))
    obtain ⟨v5, a5, b5, h⟩ := Aj h
    refine qi AJ Es a5 (Ag b5) rfl (qk Dn rfl (qm rfl (qm rfl ?_)))
    obtain ⟨v6, a6, b6, h⟩ := Aj h
    refine qi AJ Es a6 (Ag b6) rfl (qk Dn rfl (Cy rfl (Az (by kernel_rfl) ?_)))
    refine Ap rfl (fun c7 => ?_) (fun c7 => ?_)
    ·have h := An c7 h
     refine Ab (Aa Ad rfl (qa rfl (Ae ?_)))
     obtain rfl := sj h
     refine Am (sm [] [(4, .e (.one (.pure (.val (.bool false)))))] [] rfl rfl) (Ax ?_)
     exact ⟨⟨[_], ⟨.tmp _ _ rfl, trivial⟩, rfl⟩, trivial⟩
    ·have h := Ao c7 h
     refine Aq (Aa Ad rfl (AI rfl (qm rfl (Ae ?_))))
     exact Av _ h (sm [] _ _ rfl rfl)
   ·have h := Ao c4 h
    refine AL ?_
    exact Av _ h (sm [] _ _ rfl rfl)
  ·refine Am hs (Ab (Aa Ad rfl (qa rfl (Ae ?_))))
   obtain rfl := sj h
   refine Am (sm [] [(4, .e (.one (.pure (.val (.bool true)))))] [] rfl rfl) (Ax ?_)
   exact ⟨⟨[_], ⟨.tmp _ _ rfl, trivial⟩, rfl⟩, trivial⟩
set_option maxRecDepth 10000 in
theorem IT (N : Nat) (p0 : List Int) (p1 : Int → Option Bool) (r : Int) (h : ET N p0 p1 = some r) : AA Tryz.prog 119 [.e (.one (.pure (.sl (p0.map Ak)))), .e (.one (.clo (A0 (L4 false Ak) tB p1)))] [] (.e (.one (.pure (.val (.int .i64 r))))) := by
 unfold ET at h
 refine Ar (n := 19) (rs := [.tmp 4]) Tryz.func119 rfl rfl rfl (AZ rfl) (AZ rfl) rfl fun w0 S0 => ?_
 refine Ab (Aa Ad rfl (qa rfl (Ae (Ab (Ab (Aa Ad rfl (qm rfl (AP AJ rfl (qm rfl (Ae ?_))))))))))
 refine AB (L := DF N p0 p1) h (fun v1 => mk [(0, .e (.one (.pure (.sl (p0.map Ak))))), (1, .e (.one (.clo (A0 (L4 false Ak) tB p1)))), (7, .e (.one (.pure (.val (.int .i64 ((p0.length : Int))))))), (8, .e (.one (.pure (.val (.int .i64 v1)))))] []) (fun v2 => mk [] []) (fun _ _ => rfl) (sm [] _ _ rfl rfl) (fun j1 n1 v1 h => ?_) (fun v2 s h hs => ?_)
 ·unfold DF at h
  refine Ab (Aa Ad rfl (AR rfl (Ae (Ab ?_))))
  refine Ap rfl (fun c3 => ?_) (fun c3 => ?_)
  ·have h := An c3 h
   refine Aq (Ab (AD (Ab (Aa Ad rfl (qm rfl (qa rfl (Ae (Ab (Aa Ad rfl (qm rfl (qm rfl (qm rfl ?_))))))))))))
   obtain ⟨v4, a4, b4, h⟩ := Aj h
   refine qi AJ Es a4 (Ag b4) rfl (qk Dn rfl ?_)
   obtain ⟨v5, a5, h⟩ := bind_some h
   refine CK (ds0 := [_]) (ar := (L4 false Ak) v4) (.p rfl) rfl rfl ⟨rfl, trivial⟩ rfl rfl rfl (CA (Lm _ _ Pz) a5) ?_
   refine Ae ?_
   refine Ap rfl (fun c6 => ?_) (fun c6 => ?_)
   ·have h := An c6 h
    refine Ab (Aa Ad rfl (qm rfl (qa rfl (Ae ?_))))
    obtain rfl := sj h
    refine Am (sm [] [(4, .e (.one (.pure (.val (.int .i64 v1)))))] [] rfl rfl) (Ax ?_)
    exact ⟨⟨[_], ⟨.tmp _ _ rfl, trivial⟩, rfl⟩, trivial⟩
   ·have h := Ao c6 h
    refine Aq (Aa Ad rfl (AI rfl (qm rfl (Ae ?_))))
    exact Av _ h (sm [] _ _ rfl rfl)
  ·have h := Ao c3 h
   refine AL ?_
   exact Av _ h (sm [] _ _ rfl rfl)
 ·refine Am hs (Ab (Aa Ad rfl (qa rfl (Ae ?_))))
  obtain rfl := sj h
  refine Am (sm [] [(4, .e (.one (.pure (.val (.int .i64 ((-1)))))))] [] rfl rfl) (Ax ?_)
  exact ⟨⟨[_], ⟨.tmp _ _ rfl, trivial⟩, rfl⟩, trivial⟩
set_option maxRecDepth 10000 in
theorem H9 (N : Nat) (p0 : List Int) (p1 : Int → Option Bool) (r : Bool) (h : Ey N p0 p1 = some r) : AA Tryz.prog 88 [.e (.one (.pure (.sl (p0.map Ak)))), .e (.one (.clo (A0 (L4 false Ak) tB p1)))] [] (.e (.one (.pure (.val (.bool r))))) := by
 unfold Ey at h
 refine Ar (n := 9) (rs := [.tmp 4]) Tryz.func88 rfl rfl rfl (AZ rfl) (AZ rfl) rfl fun w0 S0 => ?_
 refine Ab (Aa Ad rfl (qa rfl (Ae (Ab (Aa Ad rfl (qm rfl (qm rfl ?_)))))))
 obtain ⟨v1, a1, h⟩ := bind_some h
 refine AG [] (IT N p0 p1 v1 a1) VB rfl (Dl rfl (qa rfl (Ae ?_)))
 obtain rfl := sj h
 refine Am (sm [] [(4, .e (.one (.pure (.val (.bool ((decide (0 ≤ v1))))))))] [] rfl rfl) (Ax ?_)
 exact ⟨⟨[_], ⟨.tmp _ _ rfl, trivial⟩, rfl⟩, trivial⟩
set_option maxRecDepth 10000 in
theorem Of (N : Nat) (p0 : Int) (r : Bool) (h : H6 N p0 = some r) : AA Tryz.prog 89 [.e (.one (.pure (.val (.int .i64 p0))))] [] (.e (.one (.pure (.val (.bool r))))) := by
 unfold H6 at h
 refine Ar (n := 5) (rs := [.tmp 2]) Tryz.func89 rfl rfl rfl (AZ rfl) (AZ rfl) rfl fun w0 S0 => ?_
 refine Ab (Aa Ad rfl (qa rfl (Ae (Ab (Aa Ad rfl (qm rfl (Dl rfl (qa rfl (Ae ?_)))))))))
 obtain rfl := sj h
 refine Am (sm [] [(2, .e (.one (.pure (.val (.bool ((decide (0 ≤ p0))))))))] [] rfl rfl) (Ax ?_)
 exact ⟨⟨[_], ⟨.tmp _ _ rfl, trivial⟩, rfl⟩, trivial⟩
set_option maxRecDepth 10000 in
theorem MI (N : Nat) (p0 : Al) (p1 : Ah) (r : Bool) (h : I1 N p0 p1 = some r) : AA Tryz.prog 42 [.e (.agg [.pure (.sl (p0.fVersions.map Ak)), .pure (.sl (p0.fNow.map Ak)), .pure (.sl (p0.fTarget.map Ak)), .pure (.sl (p0.fTables.map Au))]), .e (.agg [.pure (.sl (p1.fBase.map Ak)), .pure (.sl (p1.fNext.map Ak)), .pure (.sl (p1.fHeld.map Bv))])] [] (.e (.one (.pure (.val (.bool r))))) := by
 unfold I1 at h
 refine Ar (n := 22) (rs := [.tmp 4]) Tryz.func42 rfl rfl rfl (AZ rfl) (AZ rfl) rfl fun w0 S0 => ?_
 refine Ab (Aa Ad rfl (qb rfl (qb rfl (qa rfl (Ae ?_)))))
 refine AK h (fun v1 => mk [(4, .e (.one (.pure (.val (.bool v1)))))] []) (fun j1 h => ?_) (fun v1 h => ?_)
 ·refine Aa Ad rfl (qL EE Ek rfl (qL A6 Ay rfl ?_))
  obtain ⟨v2, a2, h⟩ := bind_some h
  refine AG [] (Id N p0 p1 v2 a2) RP rfl (Cp rfl (qm rfl ?_))
  refine AC (t := 9) rfl (fun c3 => ?_) (fun c3 => ?_)
  ·have h := An c3 h
   refine qf Du rfl (ql Bw rfl (qf Hx rfl (ql Bw rfl ?_)))
   obtain ⟨v4, a4, h⟩ := bind_some h
   refine AG [] (JM N p1.fBase p0.fTarget v4 a4) VZ rfl (qp rfl (qm rfl ?_))
   refine AC (t := 16) rfl (fun c5 => ?_) (fun c5 => ?_)
   ·have h := An c5 h
    refine qf CU rfl (ql Bw rfl ?_)
    obtain ⟨v6, a6, h⟩ := bind_some h
    refine AG [] (AA.weak (ds' := [.e (.one (.pure (.sl (p1.fNext.map Ak)))), .e (.one (.fnc 89))]) (H9 N p1.fNext ((fun (x : Int) => H6 N x)) v6 a6) ⟨(fun _ _ _ hh => hh), (fun _ _ _ hh => Ok V0 (fun ar t ht => by obtain ⟨x, r, rfl, hq, rfl⟩ := HV ht; exact Of N x r hq) hh), trivial⟩) WQ rfl ?_
    refine CC rfl (qp rfl (qa rfl (Ae ?_)))
    exact Av _ h (sm [] _ _ rfl rfl)
   ·have h := Ao c5 h
    refine qn rfl (qn rfl (qn rfl (qn rfl (qp rfl (qa rfl (Ae ?_))))))
    exact Av _ h (sm [] _ _ rfl rfl)
  ·have h := Ao c3 h
   refine qn rfl (qn rfl (qn rfl (qn rfl (qn rfl (qp rfl (qm rfl (qn rfl (qn rfl (qn rfl (qn rfl (qp rfl (qa rfl (Ae ?_)))))))))))))
   exact Av _ h (sm [] _ _ rfl rfl)
 ·obtain rfl := sj h
  refine Am (sm [] [(4, .e (.one (.pure (.val (.bool v1)))))] [] rfl rfl) (Ax ?_)
  exact ⟨⟨[_], ⟨.tmp _ _ rfl, trivial⟩, rfl⟩, trivial⟩
set_option maxRecDepth 10000 in
theorem LM (N : Nat) (p0 : Ah) (p1 : List Int) (p2 : List Int) (p3 : List Int) (p4 : List AQ) (r : Bool) (h : Fr N p0 p1 p2 p3 p4 = some r) : AA Tryz.prog 41 [.e (.agg [.pure (.sl (p0.fBase.map Ak)), .pure (.sl (p0.fNext.map Ak)), .pure (.sl (p0.fHeld.map Bv))]), .e (.one (.rop [.sl (p1.map Ak), .sl (p2.map Ak), .sl (p3.map Ak), .sl (p4.map Au)]))] [] (.e (.one (.pure (.val (.bool r))))) := by
 unfold Fr at h
 refine Ar (n := 7) (rs := [.tmp 3]) Tryz.func41 rfl rfl rfl (AZ rfl) (AZ rfl) rfl fun w0 S0 => ?_
 refine Ab (Aa Ad rfl (qb rfl (qa rfl (Ae (Ab (Aa Ad rfl (qK EE Ek rfl (qL A6 Ay rfl ?_))))))))
 obtain ⟨v1, a1, h⟩ := bind_some h
 refine AG [] (MI N ((Al.mk p1 p2 p3 p4)) p0 v1 a1) U9 rfl (qa rfl (Ae ?_))
 obtain rfl := sj h
 refine Am (sm [] [(3, .e (.one (.pure (.val (.bool v1)))))] [] rfl rfl) (Ax ?_)
 exact ⟨⟨[_], ⟨.tmp _ _ rfl, trivial⟩, rfl⟩, trivial⟩
set_option maxRecDepth 10000 in
theorem Hd (N : Nat) (p0 : List Ah) (p1 : Ah → Option Bool) (r : Int) (h : DU N p0 p1 = some r) : AA Tryz.prog 75 [.e (.one (.pure (.sl (p0.map Ai)))), .e (.one (.clo (A0 (L4 true Ai) tB p1)))] [] (.e (.one (.pure (.val (.int .i64 r))))) := by
 unfold DU at h
 refine Ar (n := 19) (rs := [.tmp 4]) Tryz.func75 rfl rfl rfl (AZ rfl) (AZ rfl) rfl fun w0 S0 => ?_
 refine Ab (Aa Ad rfl (qa rfl (Ae (Ab (Ab (Aa Ad rfl (qm rfl (AP AS rfl (qm rfl (Ae ?_))))))))))
 refine AB (L := CE N p0 p1) h (fun v1 => mk [(0, .e (.one (.pure (.sl (p0.map Ai))))), (1, .e (.one (.clo (A0 (L4 true Ai) tB p1)))), (7, .e (.one (.pure (.val (.int .i64 ((p0.length : Int))))))), (8, .e (.one (.pure (.val (.int .i64 v1)))))] []) (fun v2 => mk [] []) (fun _ _ => rfl) (sm [] _ _ rfl rfl) (fun j1 n1 v1 h => ?_) (fun v2 s h hs => ?_)
 ·unfold CE at h
  refine Ab (Aa Ad rfl (AR rfl (Ae (Ab ?_))))
  refine Ap rfl (fun c3 => ?_) (fun c3 => ?_)
  ·have h := An c3 h
   refine Aq (Ab (AD (Ab (Aa Ad rfl (qm rfl (qa rfl (Ae (Ab (Aa Ad rfl (qm rfl (qm rfl (qm rfl ?_))))))))))))
   obtain ⟨v4, a4, b4, h⟩ := Aj h
   refine qi AS Ay a4 (Ag b4) rfl (qK A6 Ay rfl ?_)
   obtain ⟨v5, a5, h⟩ := bind_some h
   refine CK (ds0 := [_]) (ar := (L4 true Ai) v4) (.p rfl) rfl rfl ⟨rfl, trivial⟩ rfl rfl rfl (CA (Lm _ _ Bu) a5) ?_
   refine Ae ?_
   refine Ap rfl (fun c6 => ?_) (fun c6 => ?_)
   ·have h := An c6 h
    refine Ab (Aa Ad rfl (qm rfl (qa rfl (Ae ?_))))
    obtain rfl := sj h
    refine Am (sm [] [(4, .e (.one (.pure (.val (.int .i64 v1)))))] [] rfl rfl) (Ax ?_)
    exact ⟨⟨[_], ⟨.tmp _ _ rfl, trivial⟩, rfl⟩, trivial⟩
   ·have h := Ao c6 h
    refine Aq (Aa Ad rfl (AI rfl (qm rfl (Ae ?_))))
    exact Av _ h (sm [] _ _ rfl rfl)
  ·have h := Ao c3 h
   refine AL ?_
   exact Av _ h (sm [] _ _ rfl rfl)
 ·refine Am hs (Ab (Aa Ad rfl (qa rfl (Ae ?_))))
  obtain rfl := sj h
  refine Am (sm [] [(4, .e (.one (.pure (.val (.int .i64 ((-1)))))))] [] rfl rfl) (Ax ?_)
  exact ⟨⟨[_], ⟨.tmp _ _ rfl, trivial⟩, rfl⟩, trivial⟩
set_option maxRecDepth 10000 in
theorem Gz (N : Nat) (p0 : List Ah) (p1 : Ah → Option Bool) (r : Bool) (h : DB N p0 p1 = some r) : AA Tryz.prog 30 [.e (.one (.pure (.sl (p0.map Ai)))), .e (.one (.clo (A0 (L4 true Ai) tB p1)))] [] (.e (.one (.pure (.val (.bool r))))) := by
 unfold DB at h
 refine Ar (n := 9) (rs := [.tmp 4]) Tryz.func30 rfl rfl rfl (AZ rfl) (AZ rfl) rfl fun w0 S0 => ?_
 refine Ab (Aa Ad rfl (qa rfl (Ae (Ab (Aa Ad rfl (qm rfl (qm rfl ?_)))))))
 obtain ⟨v1, a1, h⟩ := bind_some h
 refine AG [] (Hd N p0 p1 v1 a1) WO rfl (Dl rfl (qa rfl (Ae ?_)))
 obtain rfl := sj h
 refine Am (sm [] [(4, .e (.one (.pure (.val (.bool ((decide (0 ≤ v1))))))))] [] rfl rfl) (Ax ?_)
 exact ⟨⟨[_], ⟨.tmp _ _ rfl, trivial⟩, rfl⟩, trivial⟩
set_option maxRecDepth 10000 in
theorem MU (N : Nat) (p0 : Al) (r : (List Ah) × Int) (h : Ig N p0 = some r) : AA Tryz.prog 12 [.e (.agg [.pure (.sl (p0.fVersions.map Ak)), .pure (.sl (p0.fNow.map Ak)), .pure (.sl (p0.fTarget.map Ak)), .pure (.sl (p0.fTables.map Au))])] [(3, r.1.map Ai)] (.tup [.one (.own 0), .one (.pure (.val (.int .i64 r.2)))]) := by
 unfold Ig at h
 refine Ar (n := 18) (rs := [.tmp 2, .tmp 3]) Tryz.func12 rfl rfl rfl (AZ rfl) (AZ rfl) rfl fun w0 S0 => ?_
 refine Ab (Aa Ad rfl (qb rfl (qa rfl (qa rfl (Ae (Ab (Aa Ad rfl (qL EE Ek rfl ?_))))))))
 obtain ⟨v1, a1, h⟩ := bind_some h
 refine AG [2001] (MG N p0 v1 a1) Ww rfl (qm rfl (qx rfl (qx rfl (qa rfl (qa rfl (Ae (Ab (Ab (Aa Ad rfl (qm rfl (Cy rfl (Ae ?_))))))))))))
 refine Ap rfl (fun c2 => ?_) (fun c2 => ?_)
 ·have h := An c2 h
  refine Ab (Aa Ad rfl (qm rfl (qa rfl (qa rfl (Ae ?_)))))
  obtain rfl := sj h
  refine Am ((BR 2 2002 3 rfl rfl rfl).trans (sm [(1000, 2002)] [(2, .e (.one (.own 1000))), (3, .e (.one (.pure (.val (.int .i64 v1.2)))))] [(1000, .vec 3 ((([] : List Ah)).map Ai))] rfl rfl)) (Ax ?_)
  exact ⟨⟨[_, _], ⟨.tmp _ _ rfl, ⟨.tmp _ _ rfl, trivial⟩⟩, rfl⟩, ⟨rfl, trivial⟩⟩
 ·have h := Ao c2 h
  refine Aq (Ab (Ab (Aa Ad rfl (qm rfl (En (K8 1 [.sl (p0.fVersions.map Ak), .sl (p0.fNow.map Ak), .sl (p0.fTarget.map Ak), .sl (p0.fTables.map Au)] rfl rfl) ?_)))))
  refine KM (capD := [_]) (A0 (L4 true Ai) tB ((fun (x : Ah) => Fr N x p0.fVersions p0.fNow p0.fTarget p0.fTables))) (.p rfl) WF rfl ⟨rfl, trivial⟩ rfl (fun ar t ht => by obtain ⟨x, r, rfl, hq, rfl⟩ := HV ht; exact LM N x p0.fVersions p0.fNow p0.fTarget p0.fTables r hq) ?_
  obtain ⟨v3, a3, h⟩ := bind_some h
  refine DE [] [2001] (Gz N v1.1 ((fun (x : Ah) => Fr N x p0.fVersions p0.fNow p0.fTarget p0.fTables)) v3 a3) Wa Cf rfl (Ae ?_)
  refine Ap rfl (fun c4 => ?_) (fun c4 => ?_)
  ·have h := An c4 h
   refine Ab (Aa Ad rfl (qa rfl (qa rfl (Ae ?_))))
   obtain rfl := sj h
   refine Am ((BR 2 2003 3 rfl rfl rfl).trans (sm [(1000, 2003)] [(2, .e (.one (.own 1000))), (3, .e (.one (.pure (.val (.int .i64 15)))))] [(1000, .vec 3 ((([] : List Ah)).map Ai))] rfl rfl)) (Ax ?_)
   exact ⟨⟨[_, _], ⟨.tmp _ _ rfl, ⟨.tmp _ _ rfl, trivial⟩⟩, rfl⟩, ⟨rfl, trivial⟩⟩
  ·have h := Ao c4 h
   refine Aq (Ab (Aa Ad rfl (qm rfl (qa rfl (qa rfl (Ae ?_))))))
   obtain rfl := sj h
   refine Am (sm [(1000, 2001)] [(2, .e (.one (.own 1000))), (3, .e (.one (.pure (.val (.int .i64 0)))))] [(1000, .vec 3 (v1.1.map Ai))] rfl rfl) (Ax ?_)
   exact ⟨⟨[_, _], ⟨.tmp _ _ rfl, ⟨.tmp _ _ rfl, trivial⟩⟩, rfl⟩, ⟨rfl, trivial⟩⟩
set_option maxRecDepth 10000 in
theorem LT (N : Nat) (p0 : Al) (p1 : Ah) (r : (List CG) × Int) (h : Hy N p0 p1 = some r) : AA Tryz.prog 18 [.e (.agg [.pure (.sl (p0.fVersions.map Ak)), .pure (.sl (p0.fNow.map Ak)), .pure (.sl (p0.fTarget.map Ak)), .pure (.sl (p0.fTables.map Au))]), .e (.agg [.pure (.sl (p1.fBase.map Ak)), .pure (.sl (p1.fNext.map Ak)), .pure (.sl (p1.fHeld.map Bv))])] [(9, r.1.map D3)] (.tup [.one (.own 0), .one (.pure (.val (.int .i64 r.2)))]) := by
 unfold Hy at h
 refine Ar (n := 56) (rs := [.tmp 4, .tmp 5]) Tryz.func18 rfl rfl rfl (AZ rfl) (AZ rfl) rfl fun w0 S0 => ?_
 refine Ab (Aa Ad rfl (qb rfl (qb rfl (qa rfl (qa rfl (Ae (Ab (Aa Ad rfl (qL EE Ek rfl (qL A6 Ay rfl ?_))))))))))
 obtain ⟨v1, a1, h⟩ := bind_some h
 refine AG [2001] (IH N p0 p1 v1 a1) T3 rfl (qm rfl (qx rfl (qx rfl (qa rfl (qa rfl (Ae (Ab (Ab (Aa Ad rfl (qm rfl (Cy rfl (Ae ?_))))))))))))
 refine Ap rfl (fun c2 => ?_) (fun c2 => ?_)
 ·have h := An c2 h
  refine Ab (Aa Ad rfl (qm rfl (qa rfl (qa rfl (Ae ?_)))))
  obtain rfl := sj h
  refine Am ((BR 4 2002 9 rfl rfl rfl).trans (sm [(1000, 2002)] [(4, .e (.one (.own 1000))), (5, .e (.one (.pure (.val (.int .i64 v1.2)))))] [(1000, .vec 9 ((([] : List CG)).map D3))] rfl rfl)) (Ax ?_)
  exact ⟨⟨[_, _], ⟨.tmp _ _ rfl, ⟨.tmp _ _ rfl, trivial⟩⟩, rfl⟩, ⟨rfl, trivial⟩⟩
 ·have h := Ao c2 h
  refine Aq (Ab (Aa Ad rfl (qa rfl (Ae (Ab (Ab (Aa Ad rfl (qm rfl (Fz FR rfl (qm rfl (Ae ?_)))))))))))
  refine AB (L := Fh N p0 p1 v1) h (fun v3 => mk [(2, .e (.one (.ptr 2 0))), (3, .e (.one (.ptr 3 0))), (8, .e (.one (.own 2003))), (25, .e (.one (.own 2004))), (26, .e (.one (.pure (.val (.int .i64 ((v1.1.length : Int))))))), (27, .e (.one (.pure (.val (.int .i64 v3.2)))))] [(2, .box [.pure (.sl (p0.fVersions.map Ak)), .pure (.sl (p0.fNow.map Ak)), .pure (.sl (p0.fTarget.map Ak)), .pure (.sl (p0.fTables.map Au))]), (3, .box [.pure (.sl (p1.fBase.map Ak)), .pure (.sl (p1.fNext.map Ak)), .pure (.sl (p1.fHeld.map Bv))]), (2003, .vec 9 (v3.1.map D3)), (2004, .vec 3 (v1.1.map A3))]) (fun v4 => mk [(8, .e (.one (.own 2005)))] [(2005, .vec 9 (v4.map D3))]) (fun _ _ => rfl) ((BR 8 2011 9 rfl rfl rfl).trans (sm [(2003, 2011), (2004, 2001)] _ _ rfl rfl)) (fun j3 n3 v3 h => ?_) (fun v4 s h hs => ?_)
  ·unfold Fh at h
   refine Ab (Aa Ad rfl (AR rfl (Ae (Ab ?_))))
   refine Ap rfl (fun c5 => ?_) (fun c5 => ?_)
   ·have h := An c5 h
    refine Aq ?_
    refine AK h (fun v6 => mk [(2, .e (.one (.ptr 2 0))), (3, .e (.one (.ptr 3 0))), (8, .e (.one (.own 2006))), (25, .e (.one (.own 2007))), (26, .e (.one (.pure (.val (.int .i64 ((v1.1.length : Int))))))), (27, .e (.one (.pure (.val (.int .i64 v3.2)))))] [(2, .box [.pure (.sl (p0.fVersions.map Ak)), .pure (.sl (p0.fNow.map Ak)), .pure (.sl (p0.fTarget.map Ak)), .pure (.sl (p0.fTables.map Au))]), (3, .box [.pure (.sl (p1.fBase.map Ak)), .pure (.sl (p1.fNext.map Ak)), .pure (.sl (p1.fHeld.map Bv))]), (2006, .vec 9 (v6.map D3)), (2007, .vec 3 (v1.1.map A3))]) (fun j6 h => ?_) (fun v6 h => ?_)
    ·refine AD (Ab (Aa Ad rfl ?_))
     obtain ⟨v7, a7, b7, h⟩ := Aj h
     refine qI FR FQ a7 (Ag b7) rfl (qJ JP FQ (Ag b7) rfl (qz J9 rfl (qs FQ rfl (Ae (Ab (Aa Ad rfl (qL EE Ek rfl (qL A6 Ay rfl (qL JP FQ rfl ?_)))))))))
     obtain ⟨v8, a8, h⟩ := bind_some h
     refine AG [2008, 2009, 2010] (JS N p0 p1 v7 v8 a8) Uc rfl (qm rfl (qx rfl (qx rfl (qz DN rfl (qs Ay rfl (qa rfl (Ae (Ab (Aa Ad rfl (qL EE Ek rfl (qL A6 Ay rfl (En (Bl 2008 _ _ rfl rfl) (En (Bl 2009 _ _ rfl rfl) (En (Bl 2010 _ _ rfl rfl) ?_))))))))))))))
     obtain ⟨v9, a9, h⟩ := bind_some h
     refine AG [] (L1 N p0 v8.1 v9 a9) US rfl (qm rfl (qx rfl (qx rfl (qx rfl (qz DN rfl (qz Ko rfl (qs Ay rfl (qs AN rfl (qa rfl (Ae (Ab (Aa Ad rfl (qm rfl (Cp rfl (Ae ?_)))))))))))))))
     refine Ap rfl (fun c10 => ?_) (fun c10 => ?_)
     ·have h := An c10 h
      refine Aa Ad rfl (qm rfl (qL JP FQ rfl (qL A6 Ay rfl (qL Dp AN rfl (CO R2 V7 rfl (EX KE OY R2 rfl ?_))))))
      obtain ⟨c11, h⟩ := AW h
      refine Ep (f := D3) KE KE OY TG R2 c11 rfl (qa rfl (Ae ?_))
      exact Av _ h (sm [(2006, 53), (2007, 2004)] _ _ rfl rfl)
     ·have h := Ao c10 h
      refine Aq ?_
      exact Av _ h (sm [(2006, 2003), (2007, 2004)] _ _ rfl rfl)
    ·refine Aa Ad rfl (AI rfl (qm rfl (Ae ?_)))
     exact Av _ h (sm [(2003, 2006), (2004, 2007)] _ _ rfl rfl)
   ·have h := Ao c5 h
    refine AL ?_
    exact Av _ h (sm [(2005, 2003)] _ _ rfl rfl)
  ·refine Am hs (Ab (Aa Ad rfl (qm rfl (qa rfl (qa rfl (Ae ?_))))))
   obtain rfl := sj h
   refine Am (sm [(1000, 2005)] [(4, .e (.one (.own 1000))), (5, .e (.one (.pure (.val (.int .i64 0)))))] [(1000, .vec 9 (v4.map D3))] rfl rfl) (Ax ?_)
   exact ⟨⟨[_, _], ⟨.tmp _ _ rfl, ⟨.tmp _ _ rfl, trivial⟩⟩, rfl⟩, ⟨rfl, trivial⟩⟩
set_option maxRecDepth 10000 in
theorem JW (N : Nat) (p0 : Al) (p1 : List Ah) (r : (List CG) × Int) (h : GI N p0 p1 = some r) : AA Tryz.prog 21 [.e (.agg [.pure (.sl (p0.fVersions.map Ak)), .pure (.sl (p0.fNow.map Ak)), .pure (.sl (p0.fTarget.map Ak)), .pure (.sl (p0.fTables.map Au))]), .e (.one (.pure (.sl (p1.map Ai))))] [(9, r.1.map D3)] (.tup [.one (.own 0), .one (.pure (.val (.int .i64 r.2)))]) := by
 unfold GI at h
 refine Ar (n := 37) (rs := [.tmp 4, .tmp 5]) Tryz.func21 rfl rfl rfl (AZ rfl) (AZ rfl) rfl fun w0 S0 => ?_
 refine Ab (Aa Ad rfl (qb rfl (qa rfl (qa rfl (Ae (Ab (Ab (Aa Ad rfl (qL EE Ek rfl ?_)))))))))
 obtain ⟨v1, a1, h⟩ := bind_some h
 refine AG [] (Fl N p0 v1 a1) Sj rfl (qa rfl (Ae (Ab (Aa Ad rfl (qm rfl (Cy rfl (Ae ?_)))))))
 refine Ap rfl (fun c2 => ?_) (fun c2 => ?_)
 ·have h := An c2 h
  refine Ab (Aa Ad rfl (qm rfl (qa rfl (qa rfl (Ae ?_)))))
  obtain rfl := sj h
  refine Am ((BR 4 2001 9 rfl rfl rfl).trans (sm [(1000, 2001)] [(4, .e (.one (.own 1000))), (5, .e (.one (.pure (.val (.int .i64 v1)))))] [(1000, .vec 9 ((([] : List CG)).map D3))] rfl rfl)) (Ax ?_)
  exact ⟨⟨[_, _], ⟨.tmp _ _ rfl, ⟨.tmp _ _ rfl, trivial⟩⟩, rfl⟩, ⟨rfl, trivial⟩⟩
 ·have h := Ao c2 h
  refine Aq (Ab (Aa Ad rfl (qa rfl (Ae (Ab (Ab (Aa Ad rfl (qm rfl (AP AS rfl (qm rfl (Ae ?_)))))))))))
  refine AB (L := FD N p0 p1) h (fun v3 => mk [(2, .e (.one (.ptr 2 0))), (7, .e (.one (.own 2002))), (17, .e (.one (.pure (.sl (p1.map Ai))))), (18, .e (.one (.pure (.val (.int .i64 ((p1.length : Int))))))), (19, .e (.one (.pure (.val (.int .i64 v3.2)))))] [(2, .box [.pure (.sl (p0.fVersions.map Ak)), .pure (.sl (p0.fNow.map Ak)), .pure (.sl (p0.fTarget.map Ak)), .pure (.sl (p0.fTables.map Au))]), (2002, .vec 9 (v3.1.map D3))]) (fun v4 => mk [(7, .e (.one (.own 2003)))] [(2003, .vec 9 (v4.map D3))]) (fun _ _ => rfl) ((BR 7 2006 9 rfl rfl rfl).trans (sm [(2002, 2006)] _ _ rfl rfl)) (fun j3 n3 v3 h => ?_) (fun v4 s h hs => ?_)
  ·unfold FD at h
   refine Ab (Aa Ad rfl (AR rfl (Ae (Ab ?_))))
   refine Ap rfl (fun c5 => ?_) (fun c5 => ?_)
   ·have h := An c5 h
    refine Aq (Ab (AD (Ab (Aa Ad rfl ?_))))
    obtain ⟨v6, a6, b6, h⟩ := Aj h
    refine qi AS Ay a6 (Ag b6) rfl (qK A6 Ay rfl (qz DN rfl (qs Ay rfl (Ae (Ab (Aa Ad rfl (qL EE Ek rfl (qL A6 Ay rfl ?_))))))))
    obtain ⟨v7, a7, h⟩ := bind_some h
    refine AG [2004] (LT N p0 v6 v7 a7) Wz rfl (qm rfl (qx rfl (qx rfl (qa rfl (qa rfl (Ae (Ab (Ab (Aa Ad rfl (qm rfl (Cy rfl (Ae ?_))))))))))))
    refine Ap rfl (fun c8 => ?_) (fun c8 => ?_)
    ·have h := An c8 h
     refine Ab (Aa Ad rfl (qm rfl (qa rfl (qa rfl (Ae ?_)))))
     obtain rfl := sj h
     refine Am ((BR 4 2005 9 rfl rfl rfl).trans (sm [(1000, 2005)] [(4, .e (.one (.own 1000))), (5, .e (.one (.pure (.val (.int .i64 v7.2)))))] [(1000, .vec 9 ((([] : List CG)).map D3))] rfl rfl)) (Ax ?_)
     exact ⟨⟨[_, _], ⟨.tmp _ _ rfl, ⟨.tmp _ _ rfl, trivial⟩⟩, rfl⟩, ⟨rfl, trivial⟩⟩
    ·have h := Ao c8 h
     refine Aq (Aa Ad rfl (qm rfl (qm rfl ?_)))
     obtain ⟨c9, h⟩ := AW h
     refine Ep (f := D3) KE KE OY TG R2 c9 rfl (qa rfl (Ae (Aa Ad rfl (AI rfl (qm rfl (Ae ?_))))))
     exact Av _ h (sm [(2002, 34)] _ _ rfl rfl)
   ·have h := Ao c5 h
    refine AL ?_
    exact Av _ h (sm [(2003, 2002)] _ _ rfl rfl)
  ·refine Am hs (Ab (Aa Ad rfl (qm rfl (qa rfl (qa rfl (Ae ?_))))))
   obtain rfl := sj h
   refine Am (sm [(1000, 2003)] [(4, .e (.one (.own 1000))), (5, .e (.one (.pure (.val (.int .i64 0)))))] [(1000, .vec 9 (v4.map D3))] rfl rfl) (Ax ?_)
   exact ⟨⟨[_, _], ⟨.tmp _ _ rfl, ⟨.tmp _ _ rfl, trivial⟩⟩, rfl⟩, ⟨rfl, trivial⟩⟩
set_option maxRecDepth 10000 in
theorem FW (N : Nat) (p0 : List Af) (p1 : Int) (p2 : Int) (p3 : (Af × Af) → Option Int) (r : (List Af)) (h : C4 N p0 p1 p2 p3 = some r) : A9 Tryz.prog 132 [.e (.one (.own 90000)), .e (.one (.pure (.val (.int .i64 p1)))), .e (.one (.pure (.val (.int .i64 p2)))), .e (.one (.clo (A0 (Cq true Ac true Ac) A8 p3)))] [(.vec 3 (p0.map Ac), .vec 3 (r.map Ac))] [] (.tup []) := by
 unfold C4 at h
 refine AY (n := 53) (rs := []) Tryz.func132 rfl rfl rfl (AZ rfl) (AZ rfl) rfl rfl (AZ rfl) rfl (AZ rfl) fun w0 S0 GL => I4 ?_
 refine Am (sm [] [(0, .e (.one (.own 90000))), (1, .e (.one (.pure (.val (.int .i64 p1))))), (2, .e (.one (.pure (.val (.int .i64 p2))))), (3, .e (.one (.clo (A0 (Cq true Ac true Ac) A8 p3))))] [(90000, .vec 3 (p0.map Ac))] rfl rfl) (Ab (Aa Ad rfl (qm rfl (AI rfl (qa rfl (Ae ?_))))))
 refine AB (L := BP N p1 p2 p3) h (fun v1 => mk [(0, .e (.one (.own 90000))), (1, .e (.one (.pure (.val (.int .i64 p1))))), (2, .e (.one (.pure (.val (.int .i64 p2))))), (3, .e (.one (.clo (A0 (Cq true Ac true Ac) A8 p3)))), (8, .e (.one (.pure (.val (.int .i64 v1.2)))))] [(90000, .vec 3 (v1.1.map Ac))]) (fun v2 => mk [] [(90000, .vec 3 (v2.map Ac))]) (fun _ _ => rfl) (sm [] _ _ rfl rfl) (fun j1 n1 v1 h => ?_) (fun v2 s h hs => ?_)
 ·unfold BP at h
  refine Ab (Ab (Aa Ad rfl (qm rfl (qm rfl (AR rfl (Ae ?_))))))
  refine Ap rfl (fun c3 => ?_) (fun c3 => ?_)
  ·have h := An c3 h
   refine Aq (Ab (AD (Ab (Aa Ad rfl (qm rfl (qa rfl (Ae ?_)))))))
   refine AB (L := BO N p1 p3) h (fun v4 => mk [(0, .e (.one (.own 90000))), (1, .e (.one (.pure (.val (.int .i64 p1))))), (2, .e (.one (.pure (.val (.int .i64 p2))))), (3, .e (.one (.clo (A0 (Cq true Ac true Ac) A8 p3)))), (8, .e (.one (.pure (.val (.int .i64 v1.2))))), (9, .e (.one (.pure (.val (.int .i64 v4.2)))))] [(90000, .vec 3 (v4.1.map Ac))]) (fun v5 => mk [(0, .e (.one (.own 90000))), (1, .e (.one (.pure (.val (.int .i64 p1))))), (2, .e (.one (.pure (.val (.int .i64 p2))))), (3, .e (.one (.clo (A0 (Cq true Ac true Ac) A8 p3)))), (8, .e (.one (.pure (.val (.int .i64 v1.2)))))] [(90000, .vec 3 (v5.map Ac))]) (fun _ _ => rfl) (sm [] _ _ rfl rfl) (fun j4 n4 v4 h => ?_) (fun v5 s h hs => ?_)
   ·unfold BO at h
    refine Ab ?_
    refine AK h (fun v6 => mk [(0, .e (.one (.own 90000))), (1, .e (.one (.pure (.val (.int .i64 p1))))), (2, .e (.one (.pure (.val (.int .i64 p2))))), (3, .e (.one (.clo (A0 (Cq true Ac true Ac) A8 p3)))), (8, .e (.one (.pure (.val (.int .i64 v1.2))))), (9, .e (.one (.pure (.val (.int .i64 v4.2))))), (34, .e (.one (.pure (.val (.bool v6)))))] [(90000, .vec 3 (v4.1.map Ac))]) (fun j6 h => ?_) (fun v6 h => ?_)
    ·refine Aa Ad rfl (qm rfl (qm rfl (EA rfl (qm rfl ?_))))
     refine AC (t := 21) rfl (fun c7 => ?_) (fun c7 => ?_)
     ·have h := An c7 h
      refine qm rfl (qm rfl (qm rfl ?_))
      obtain ⟨v8, a8, b8, h⟩ := Aj h
      refine qI A2 AN a8 (Ag b8) rfl (qJ Dp AN (Ag b8) rfl (qm rfl (qm rfl (Bb rfl ?_))))
      obtain ⟨v9, a9, b9, h⟩ := Aj h
      refine qI A2 AN a9 (Ag b9) rfl (qJ Dp AN (Ag b9) rfl ?_)
      obtain ⟨v10, a10, h⟩ := bind_some h
      refine CK (ds0 := [_, _]) (ar := (Cq true Ac true Ac) ((v8, v9))) (.g rfl rfl) rfl rfl ⟨rfl, rfl, trivial⟩ rfl rfl rfl (CA (Dk _ _ _ _ A4 A4) a10) ?_
      refine AR rfl (qp rfl (Az (by kernel_rfl) ?_))
      exact Av _ h (sm [] _ _ rfl rfl)
     ·have h := Ao c7 h
      refine qn rfl (qn rfl (qn rfl (qn rfl (qn rfl (qn rfl (qn rfl (qn rfl (qn rfl (qn rfl (qn rfl (qn rfl (qp rfl (Az (by kernel_rfl) ?_)))))))))))))
      exact Av _ h (sm [] _ _ rfl rfl)
    ·refine Ap rfl (fun c11 => ?_) (fun c11 => ?_)
     ·have h := An c11 h
      refine Aq (Ab (AD (Aa Ad rfl (qm rfl (qm rfl (qm rfl (qm rfl (Bb rfl (qm rfl (qm rfl (Bb rfl ?_)))))))))))
      obtain ⟨v12, a12, b12, h⟩ := Aj h
      refine qI A2 AN a12 (Ag b12) rfl (qJ Dp AN (Ag b12) rfl (qm rfl (qm rfl ?_)))
      obtain ⟨v13, a13, b13, h⟩ := Aj h
      refine qI A2 AN a13 (Ag b13) rfl (qJ Dp AN (Ag b13) rfl ?_)
      obtain ⟨v14, a14, b14, h⟩ := Aj h
      refine qI A2 AN a14 (Ag b14) rfl ?_
      refine AT rfl rfl rfl rfl (Ag b14) rfl AN rfl (AZ rfl) (AU Ac v4.1 _ v12) ?_
      obtain ⟨v15, a15, b15, h⟩ := Aj h
      refine qI A2 AN a15 (Ag b15) rfl ?_
      refine AT rfl rfl rfl rfl (Ag b15) rfl AN rfl (AZ rfl) (AU Ac (v4.1.set ((v4.2).toNat) v12) _ v13) ?_
      refine Az (by kernel_rfl) (Aa Ad rfl (qm rfl (Bb rfl (qa rfl (Ae ?_)))))
      exact Av _ h (sm [] _ _ rfl rfl)
     ·have h := Ao c11 h
      refine AL ?_
      exact Av _ h (sm [] _ _ rfl rfl)
   ·refine Am hs (Aa Ad rfl (qm rfl (AI rfl (qa rfl (Ae ?_)))))
    exact Av _ h (sm [] _ _ rfl rfl)
  ·have h := Ao c3 h
   refine AL ?_
   exact Av _ h (sm [] _ _ rfl rfl)
 ·obtain rfl := sj h
  refine ⟨_, hs.trans (sm [] [] [(90000, .vec 3 (v2.map Ac))] rfl rfl), ?_⟩
  exact ⟨⟨[], trivial, rfl⟩, ⟨rfl, trivial⟩, trivial⟩
set_option maxRecDepth 10000 in
theorem EL (N : Nat) (p0 : List Af) (p1 : Int) (p2 : Int) (p3 : Int) (p4 : (Af × Af) → Option Int) (r : (List Af)) (h : CI N p0 p1 p2 p3 p4 = some r) : A9 Tryz.prog 161 [.e (.one (.own 90000)), .e (.one (.pure (.val (.int .i64 p1)))), .e (.one (.pure (.val (.int .i64 p2)))), .e (.one (.pure (.val (.int .i64 p3)))), .e (.one (.clo (A0 (Cq true Ac true Ac) A8 p4)))] [(.vec 3 (p0.map Ac), .vec 3 (r.map Ac))] [] (.tup []) := by
 unfold CI at h
 refine AY (n := 82) (rs := []) Tryz.func161 rfl rfl rfl (AZ rfl) (AZ rfl) rfl rfl (AZ rfl) rfl (AZ rfl) fun w0 S0 GL => I4 ?_
 refine Am (sm [] [(0, .e (.one (.own 90000))), (1, .e (.one (.pure (.val (.int .i64 p1))))), (2, .e (.one (.pure (.val (.int .i64 p2))))), (3, .e (.one (.pure (.val (.int .i64 p3))))), (4, .e (.one (.clo (A0 (Cq true Ac true Ac) A8 p4))))] [(90000, .vec 3 (p0.map Ac))] rfl rfl) (Ab (Aa Ad rfl (qm rfl (qa rfl (Ae ?_)))))
 refine AB (L := Cm N p2 p3 p4) h (fun v1 => mk [(0, .e (.one (.own 90000))), (2, .e (.one (.pure (.val (.int .i64 p2))))), (3, .e (.one (.pure (.val (.int .i64 p3))))), (4, .e (.one (.clo (A0 (Cq true Ac true Ac) A8 p4)))), (10, .e (.one (.pure (.val (.int .i64 v1.2)))))] [(90000, .vec 3 (v1.1.map Ac))]) (fun v2 => mk [] [(90000, .vec 3 (v2.map Ac))]) (fun _ _ => rfl) (sm [] _ _ rfl rfl) (fun j1 n1 v1 h => ?_) (fun v2 s h hs => ?_)
 ·unfold Cm at h
  refine AD (Ab (Aa Ad rfl (qm rfl (Hg rfl (AI rfl (qa rfl (Ae (Ab (Ab (Aa Ad rfl (qm rfl (qm rfl (Dl rfl (Ae ?_))))))))))))))
  refine Ap rfl (fun c3 => ?_) (fun c3 => ?_)
  ·have h := An c3 h
   refine AL ?_
   exact Av _ h (sm [] _ _ rfl rfl)
  ·have h := Ao c3 h
   refine Aq ?_
   refine AK h (fun v4 => mk [(0, .e (.one (.own 90000))), (2, .e (.one (.pure (.val (.int .i64 p2))))), (3, .e (.one (.pure (.val (.int .i64 p3))))), (4, .e (.one (.clo (A0 (Cq true Ac true Ac) A8 p4)))), (10, .e (.one (.pure (.val (.int .i64 v1.2))))), (11, .e (.one (.pure (.val (.int .i64 v4)))))] [(90000, .vec 3 (v1.1.map Ac))]) (fun j4 h => ?_) (fun v4 h => ?_)
   ·refine AK h (fun v5 => mk [(0, .e (.one (.own 90000))), (2, .e (.one (.pure (.val (.int .i64 p2))))), (3, .e (.one (.pure (.val (.int .i64 p3))))), (4, .e (.one (.clo (A0 (Cq true Ac true Ac) A8 p4)))), (10, .e (.one (.pure (.val (.int .i64 v1.2))))), (11, .e (.one (.pure (.val (.int .i64 ((IntKind.wrap .i64 ((IntKind.wrap .i64 (2 * v1.2)) + 1)))))))), (40, .e (.one (.pure (.val (.bool v5)))))] [(90000, .vec 3 (v1.1.map Ac))]) (fun j5 h => ?_) (fun v5 h => ?_)
    ·refine Aa Ad rfl (qm rfl (AI rfl (qm rfl (AR rfl (qm rfl ?_)))))
     refine AC (t := 23) rfl (fun c6 => ?_) (fun c6 => ?_)
     ·have h := An c6 h
      refine qm rfl (qm rfl (qm rfl (qm rfl (AI rfl ?_))))
      obtain ⟨v7, a7, b7, h⟩ := Aj h
      refine qI A2 AN a7 (Ag b7) rfl (qJ Dp AN (Ag b7) rfl (qm rfl (qm rfl (qm rfl (AI rfl (AI rfl ?_))))))
      obtain ⟨v8, a8, b8, h⟩ := Aj h
      refine qI A2 AN a8 (Ag b8) rfl (qJ Dp AN (Ag b8) rfl ?_)
      obtain ⟨v9, a9, h⟩ := bind_some h
      refine CK (ds0 := [_, _]) (ar := (Cq true Ac true Ac) ((v7, v8))) (.g rfl rfl) rfl rfl ⟨rfl, rfl, trivial⟩ rfl rfl rfl (CA (Dk _ _ _ _ A4 A4) a9) ?_
      refine AR rfl (qp rfl (Az (by kernel_rfl) ?_))
      exact Av _ h (sm [] _ _ rfl rfl)
     ·have h := Ao c6 h
      refine qn rfl (qn rfl (qn rfl (qn rfl (qn rfl (qn rfl (qn rfl (qn rfl (qn rfl (qn rfl (qn rfl (qn rfl (qn rfl (qn rfl (qn rfl (qn rfl (qp rfl (Az (by kernel_rfl) ?_)))))))))))))))))
      exact Av _ h (sm [] _ _ rfl rfl)
    ·refine Ap rfl (fun c10 => ?_) (fun c10 => ?_)
     ·have h := An c10 h
      refine Aa Ad rfl (qm rfl (AI rfl (qa rfl (Ae ?_))))
      exact Av _ h (sm [] _ _ rfl rfl)
     ·have h := Ao c10 h
      refine Aq ?_
      exact Av _ h (sm [] _ _ rfl rfl)
   ·refine Ab (Ab (Aa Ad rfl (qm rfl (qm rfl (qm rfl (qm rfl (AI rfl ?_)))))))
    obtain ⟨v11, a11, b11, h⟩ := Aj h
    refine qI A2 AN a11 (Ag b11) rfl (qJ Dp AN (Ag b11) rfl (qm rfl (qm rfl (qm rfl (AI rfl ?_)))))
    obtain ⟨v12, a12, b12, h⟩ := Aj h
    refine qI A2 AN a12 (Ag b12) rfl (qJ Dp AN (Ag b12) rfl ?_)
    obtain ⟨v13, a13, h⟩ := bind_some h
    refine CK (ds0 := [_, _]) (ar := (Cq true Ac true Ac) ((v11, v12))) (.p rfl) rfl rfl ⟨rfl, rfl, trivial⟩ rfl rfl rfl (CA (Dk _ _ _ _ A4 A4) a13) ?_
    refine AR rfl (CC rfl (Az (by kernel_rfl) ?_))
    refine Ap rfl (fun c14 => ?_) (fun c14 => ?_)
    ·have h := An c14 h
     obtain rfl := sj h
     refine Ax ⟨_, (sm [] [] [(90000, .vec 3 (v1.1.map Ac))] rfl rfl), ?_⟩
     exact ⟨⟨[], trivial, rfl⟩, ⟨rfl, trivial⟩, trivial⟩
    ·have h := Ao c14 h
     refine Aq (Ab (Aa Ad rfl (qm rfl (qm rfl (qm rfl (AI rfl (qm rfl (qm rfl (qm rfl (AI rfl (qm rfl (qm rfl (qm rfl (AI rfl ?_))))))))))))))
     obtain ⟨v15, a15, b15, h⟩ := Aj h
     refine qI A2 AN a15 (Ag b15) rfl (qJ Dp AN (Ag b15) rfl (qm rfl (qm rfl (qm rfl (AI rfl ?_)))))
     obtain ⟨v16, a16, b16, h⟩ := Aj h
     refine qI A2 AN a16 (Ag b16) rfl (qJ Dp AN (Ag b16) rfl ?_)
     obtain ⟨v17, a17, b17, h⟩ := Aj h
     refine qI A2 AN a17 (Ag b17) rfl ?_
     refine AT rfl rfl rfl rfl (Ag b17) rfl AN rfl (AZ rfl) (AU Ac v1.1 _ v15) ?_
     obtain ⟨v18, a18, b18, h⟩ := Aj h
     refine qI A2 AN a18 (Ag b18) rfl ?_
     refine AT rfl rfl rfl rfl (Ag b18) rfl AN rfl (AZ rfl) (AU Ac (v1.1.set (((IntKind.wrap .i64 (p3 + v1.2))).toNat) v15) _ v16) ?_
     refine Az (by kernel_rfl) (Aa Ad rfl (qm rfl (qa rfl (Ae ?_))))
     exact Av _ h (sm [] _ _ rfl rfl)
 ·obtain rfl := sj h
  refine ⟨_, hs.trans (sm [] [] [(90000, .vec 3 (v2.map Ac))] rfl rfl), ?_⟩
  exact ⟨⟨[], trivial, rfl⟩, ⟨rfl, trivial⟩, trivial⟩
set_option maxRecDepth 10000 in
theorem GF (N : Nat) (p0 : List Af) (p1 : Int) (p2 : Int) (p3 : (Af × Af) → Option Int) (r : (List Af)) (h : DA N p0 p1 p2 p3 = some r) : A9 Tryz.prog 133 [.e (.one (.own 90000)), .e (.one (.pure (.val (.int .i64 p1)))), .e (.one (.pure (.val (.int .i64 p2)))), .e (.one (.clo (A0 (Cq true Ac true Ac) A8 p3)))] [(.vec 3 (p0.map Ac), .vec 3 (r.map Ac))] [] (.tup []) := by
 unfold DA at h
 refine AY (n := 60) (rs := []) Tryz.func133 rfl rfl rfl (AZ rfl) (AZ rfl) rfl rfl (AZ rfl) rfl (AZ rfl) fun w0 S0 GL => I4 ?_
 refine Am (sm [] [(0, .e (.one (.own 90000))), (1, .e (.one (.pure (.val (.int .i64 p1))))), (2, .e (.one (.pure (.val (.int .i64 p2))))), (3, .e (.one (.clo (A0 (Cq true Ac true Ac) A8 p3))))] [(90000, .vec 3 (p0.map Ac))] rfl rfl) (Ab (Aa Ad rfl (qm rfl (qa rfl (Ae (Ab (Aa Ad rfl (qa rfl (Ae (Ab (Aa Ad rfl (qm rfl (qm rfl (Bb rfl (qa rfl (Ae (Ab (Ab (Aa Ad rfl (qm rfl (Bb rfl (I5 rfl (by decide) (qa rfl (Ae ?_))))))))))))))))))))))))
 refine AB (L := Cg N p1 p2 p3) h (fun v1 => mk [(0, .e (.one (.own 90000))), (3, .e (.one (.clo (A0 (Cq true Ac true Ac) A8 p3)))), (8, .e (.one (.pure (.val (.int .i64 p1))))), (9, .e (.one (.pure (.val (.int .i64 0))))), (10, .e (.one (.pure (.val (.int .i64 ((IntKind.wrap .i64 (p2 - p1)))))))), (11, .e (.one (.pure (.val (.int .i64 v1.2)))))] [(90000, .vec 3 (v1.1.map Ac))]) (fun v2 => mk [(0, .e (.one (.own 90000))), (3, .e (.one (.clo (A0 (Cq true Ac true Ac) A8 p3)))), (8, .e (.one (.pure (.val (.int .i64 p1))))), (9, .e (.one (.pure (.val (.int .i64 0))))), (10, .e (.one (.pure (.val (.int .i64 ((IntKind.wrap .i64 (p2 - p1))))))))] [(90000, .vec 3 (v2.map Ac))]) (fun _ _ => rfl) (sm [] _ _ rfl rfl) (fun j1 n1 v1 h => ?_) (fun v2 s h hs => ?_)
 ·unfold Cg at h
  refine Ab (Ab (Aa Ad rfl (qm rfl (Dl rfl (Ae ?_)))))
  refine Ap rfl (fun c3 => ?_) (fun c3 => ?_)
  ·have h := An c3 h
   refine Aq (Ab (AD (Aa Ad rfl (qm rfl (qm rfl (qm rfl (qm rfl (qm rfl ?_))))))))
   obtain ⟨v4, a4, h⟩ := bind_some h
   refine Bp (ds0 := [_, _, _, _, _]) [90000] [] [true] (EL N v1.1 v1.2 ((IntKind.wrap .i64 (p2 - p1))) p1 p3 v4 a4) (.p rfl) Ty rfl ⟨rfl, rfl, rfl, rfl, rfl, trivial⟩ rfl rfl (by decide) ⟨rfl, trivial⟩ rfl (AM rfl) trivial ⟨(fun h => by cases h), trivial⟩ rfl rfl rfl ?_
   refine Ae (Aa Ad rfl (qm rfl (Bb rfl (qa rfl (Ae ?_)))))
   exact Av _ h (sm [] _ _ rfl rfl)
  ·have h := Ao c3 h
   refine AL ?_
   exact Av _ h (sm [] _ _ rfl rfl)
 ·refine Am hs (Ab (Aa Ad rfl (qm rfl (Bb rfl (qa rfl (Ae ?_))))))
  refine AB (L := Ck N p1 p3) h (fun v5 => mk [(0, .e (.one (.own 90000))), (3, .e (.one (.clo (A0 (Cq true Ac true Ac) A8 p3)))), (8, .e (.one (.pure (.val (.int .i64 p1))))), (9, .e (.one (.pure (.val (.int .i64 0))))), (12, .e (.one (.pure (.val (.int .i64 v5.2)))))] [(90000, .vec 3 (v5.1.map Ac))]) (fun v6 => mk [] [(90000, .vec 3 (v6.map Ac))]) (fun _ _ => rfl) (sm [] _ _ rfl rfl) (fun j5 n5 v5 h => ?_) (fun v6 s h hs => ?_)
  ·unfold Ck at h
   refine Ab (Ab (Aa Ad rfl (qm rfl (Dl rfl (Ae ?_)))))
   refine Ap rfl (fun c7 => ?_) (fun c7 => ?_)
   ·have h := An c7 h
    refine Aq (Ab (AD (Ab (Aa Ad rfl (qm rfl (qm rfl (qm rfl (qm rfl (qm rfl (AI rfl (qm rfl (qm rfl (qm rfl (AI rfl ?_))))))))))))))
    obtain ⟨v8, a8, b8, h⟩ := Aj h
    refine qI A2 AN a8 (Ag b8) rfl (qJ Dp AN (Ag b8) rfl (qm rfl (qm rfl ?_)))
    obtain ⟨v9, a9, b9, h⟩ := Aj h
    refine qI A2 AN a9 (Ag b9) rfl (qJ Dp AN (Ag b9) rfl ?_)
    obtain ⟨v10, a10, b10, h⟩ := Aj h
    refine qI A2 AN a10 (Ag b10) rfl ?_
    refine AT rfl rfl rfl rfl (Ag b10) rfl AN rfl (AZ rfl) (AU Ac v5.1 _ v8) ?_
    obtain ⟨v11, a11, b11, h⟩ := Aj h
    refine qI A2 AN a11 (Ag b11) rfl ?_
    refine AT rfl rfl rfl rfl (Ag b11) rfl AN rfl (AZ rfl) (AU Ac (v5.1.set ((p1).toNat) v8) _ v9) ?_
    refine Az (by kernel_rfl) (Aa Ad rfl (qm rfl (qm rfl (qm rfl (qm rfl (qm rfl ?_))))))
    obtain ⟨v12, a12, h⟩ := bind_some h
    refine Bp (ds0 := [_, _, _, _, _]) [90000] [] [true] (EL N ((v5.1.set ((p1).toNat) v8).set (((IntKind.wrap .i64 (p1 + v5.2))).toNat) v9) 0 v5.2 p1 p3 v12 a12) (.p rfl) Ty rfl ⟨rfl, rfl, rfl, rfl, rfl, trivial⟩ rfl rfl (by decide) ⟨rfl, trivial⟩ rfl (AM rfl) trivial ⟨(fun h => by cases h), trivial⟩ rfl rfl rfl ?_
    refine Ae (Aa Ad rfl (qm rfl (Bb rfl (qa rfl (Ae ?_)))))
    exact Av _ h (sm [] _ _ rfl rfl)
   ·have h := Ao c7 h
    refine AL ?_
    exact Av _ h (sm [] _ _ rfl rfl)
  ·obtain rfl := sj h
   refine ⟨_, hs.trans (sm [] [] [(90000, .vec 3 (v6.map Ac))] rfl rfl), ?_⟩
   exact ⟨⟨[], trivial, rfl⟩, ⟨rfl, trivial⟩, trivial⟩
set_option maxRecDepth 10000 in
theorem FV (N : Nat) (p0 : List Af) (p1 : Int) (p2 : Int) (p3 : (Af × Af) → Option Int) (r : (List Af)) (h : C5 N p0 p1 p2 p3 = some r) : A9 Tryz.prog 134 [.e (.one (.own 90000)), .e (.one (.pure (.val (.int .i64 p1)))), .e (.one (.pure (.val (.int .i64 p2)))), .e (.one (.clo (A0 (Cq true Ac true Ac) A8 p3)))] [(.vec 3 (p0.map Ac), .vec 3 (r.map Ac))] [] (.tup []) := by
 unfold C5 at h
 refine AY (n := 67) (rs := []) Tryz.func134 rfl rfl rfl (AZ rfl) (AZ rfl) rfl rfl (AZ rfl) rfl (AZ rfl) fun w0 S0 GL => I4 ?_
 refine Am (sm [] [(0, .e (.one (.own 90000))), (1, .e (.one (.pure (.val (.int .i64 p1))))), (2, .e (.one (.pure (.val (.int .i64 p2))))), (3, .e (.one (.clo (A0 (Cq true Ac true Ac) A8 p3))))] [(90000, .vec 3 (p0.map Ac))] rfl rfl) (Ab (Aa Ad rfl (qm rfl (qm rfl (Bb rfl (qa rfl (Ae (Ab (Aa Ad rfl (qm rfl (Dl rfl (Ae ?_))))))))))))
 refine Ap rfl (fun c1 => ?_) (fun c1 => ?_)
 ·have h := An c1 h
  refine Ab (Aa Ad rfl (qm rfl (Gk Rw Tq rfl (qz TD rfl (qs Pd rfl (Ae (Ab (Aa Ad rfl (qm rfl ?_)))))))))
  obtain ⟨v2, a2, h⟩ := bind_some h
  refine AG [] (Hh N ((IntKind.wrap .i64 (p2 - p1))) v2 a2) Tf rfl (qa rfl (Ae (Ab (Aa Ad rfl (qm rfl (qm rfl (I5 rfl (by decide) (Hg rfl (AI rfl (Bb rfl (qa rfl (Ae ?_))))))))))))
  refine AB (L := BN N p1 p2 v2) h (fun v3 => mk [(0, .e (.one (.own 90000))), (1, .e (.one (.pure (.val (.int .i64 p1))))), (8, .e (.one (.pure (.val (.int .i64 ((IntKind.wrap .i64 (p2 - p1)))))))), (9, .e (.one (.ptr 9 0))), (10, .e (.one (.pure (.val (.int .u64 v2))))), (11, .e (.one (.pure (.val (.int .i64 v3.2.2)))))] [(9, .box [.pure (.val (.int .u64 v3.2.1))]), (90000, .vec 3 (v3.1.map Ac))]) (fun v4 => mk [] [(90000, .vec 3 (v4.map Ac))]) (fun _ _ => rfl) (sm [] _ _ rfl rfl) (fun j3 n3 v3 h => ?_) (fun v4 s h hs => ?_)
  ·unfold BN at h
   refine Ab (Ab (Aa Ad rfl (qm rfl (qm rfl (qm rfl (I5 rfl (by decide) (Hg rfl (AI rfl (AI rfl (Io rfl (Ae ?_)))))))))))
   refine Ap rfl (fun c5 => ?_) (fun c5 => ?_)
   ·have h := An c5 h
    refine Aq (Ab (AD (Ab (Aa Ad rfl ?_))))
    obtain ⟨v6, a6, h⟩ := bind_some h
    refine Bp (ds0 := [_]) [9] [] [true] (HI N v3.2.1 v6 a6) (.p rfl) Tm rfl ⟨rfl, trivial⟩ rfl rfl (by decide) ⟨rfl, trivial⟩ rfl (AM rfl) trivial ⟨(fun h => by cases h), trivial⟩ rfl rfl rfl ?_
    refine qm rfl (Bb rfl (KD rfl (Gk MJ P7 rfl (qa rfl (Ae ?_)))))
    refine AK h (fun v7 => mk [(0, .e (.one (.own 90000))), (1, .e (.one (.pure (.val (.int .i64 p1))))), (8, .e (.one (.pure (.val (.int .i64 ((IntKind.wrap .i64 (p2 - p1)))))))), (9, .e (.one (.ptr 9 0))), (10, .e (.one (.pure (.val (.int .u64 v2))))), (11, .e (.one (.pure (.val (.int .i64 v3.2.2))))), (12, .e (.one (.pure (.val (.int .i64 v7)))))] [(9, .box [.pure (.val (.int .u64 v6.2))]), (90000, .vec 3 (v3.1.map Ac))]) (fun j7 h => ?_) (fun v7 h => ?_)
    ·refine Ab (Aa Ad rfl (qm rfl (qm rfl (Dl rfl (Ae ?_)))))
     refine Ap rfl (fun c8 => ?_) (fun c8 => ?_)
     ·have h := An c8 h
      refine Aa Ad rfl (qm rfl (qm rfl (Bb rfl (qa rfl (Ae ?_)))))
      exact Av _ h (sm [] _ _ rfl rfl)
     ·have h := Ao c8 h
      refine Aq ?_
      exact Av _ h (sm [] _ _ rfl rfl)
    ·refine Aa Ad rfl (qm rfl (qm rfl (qm rfl (qm rfl (qm rfl (AI rfl (qm rfl (qm rfl (qm rfl (AI rfl ?_))))))))))
     obtain ⟨v9, a9, b9, h⟩ := Aj h
     refine qI A2 AN a9 (Ag b9) rfl (qJ Dp AN (Ag b9) rfl (qm rfl (qm rfl ?_)))
     obtain ⟨v10, a10, b10, h⟩ := Aj h
     refine qI A2 AN a10 (Ag b10) rfl (qJ Dp AN (Ag b10) rfl ?_)
     obtain ⟨v11, a11, b11, h⟩ := Aj h
     refine qI A2 AN a11 (Ag b11) rfl ?_
     refine AT rfl rfl rfl rfl (Ag b11) rfl AN rfl (AZ rfl) (AU Ac v3.1 _ v9) ?_
     obtain ⟨v12, a12, b12, h⟩ := Aj h
     refine qI A2 AN a12 (Ag b12) rfl ?_
     refine AT rfl rfl rfl rfl (Ag b12) rfl AN rfl (AZ rfl) (AU Ac (v3.1.set ((v3.2.2).toNat) v9) _ v10) ?_
     refine Az (by kernel_rfl) (Aa Ad rfl (qm rfl (AI rfl (qa rfl (Ae ?_)))))
     exact Av _ h (sm [] _ _ rfl rfl)
   ·have h := Ao c5 h
    refine AL ?_
    exact Av _ h (sm [] _ _ rfl rfl)
  ·obtain rfl := sj h
   refine ⟨_, hs.trans (sm [] [] [(90000, .vec 3 (v4.map Ac))] rfl rfl), ?_⟩
   exact ⟨⟨[], trivial, rfl⟩, ⟨rfl, trivial⟩, trivial⟩
 ·have h := Ao c1 h
  refine Aq ?_
  obtain rfl := sj h
  refine ⟨_, (sm [] [] [(90000, .vec 3 (p0.map Ac))] rfl rfl), ?_⟩
  exact ⟨⟨[], trivial, rfl⟩, ⟨rfl, trivial⟩, trivial⟩
set_option maxRecDepth 10000 in
theorem DV (N : Nat) (p0 : List Af) (p1 : Int) (p2 : Int) (p3 : Int) (p4 : (Af × Af) → Option Int) (r : Int × Int × Int) (h : B4 N p0 p1 p2 p3 p4 = some r) : A9 Tryz.prog 171 [.e (.one (.pure (.sl (p0.map Ac)))), .e (.one (.pure (.val (.int .i64 p1)))), .e (.one (.pure (.val (.int .i64 p2)))), .e (.one (.ptr 90000 0)), .e (.one (.clo (A0 (Cq true Ac true Ac) A8 p4)))] [(.box [.pure (.val (.int .i64 p3))], .box [.pure (.val (.int .i64 r.2.2))])] [] (.tup [.one (.pure (.val (.int .i64 r.1))), .one (.pure (.val (.int .i64 r.2.1)))]) := by
 unfold B4 at h
 refine AY (n := 32) (rs := [.tmp 10, .tmp 11]) Tryz.func171 rfl rfl rfl (AZ rfl) (AZ rfl) rfl rfl (AZ rfl) rfl (AZ rfl) fun w0 S0 GL => ?_
 refine Am (sm [] [(0, .e (.one (.pure (.sl (p0.map Ac))))), (1, .e (.one (.pure (.val (.int .i64 p1))))), (2, .e (.one (.pure (.val (.int .i64 p2))))), (3, .e (.one (.ptr 90000 0))), (4, .e (.one (.clo (A0 (Cq true Ac true Ac) A8 p4))))] [(90000, .box [.pure (.val (.int .i64 p3))])] rfl rfl) (Ab (Aa Ad rfl (qa rfl (qa rfl (Ae (Ab (Ab (Aa Ad rfl (qm rfl (qm rfl (qm rfl ?_)))))))))))
 obtain ⟨v1, a1, b1, h⟩ := Aj h
 refine qi A2 AN a1 (Ag b1) rfl (qK Dp AN rfl (qm rfl (qm rfl ?_)))
 obtain ⟨v2, a2, b2, h⟩ := Aj h
 refine qi A2 AN a2 (Ag b2) rfl (qK Dp AN rfl ?_)
 obtain ⟨v3, a3, h⟩ := bind_some h
 refine CK (ds0 := [_, _]) (ar := (Cq true Ac true Ac) ((v1, v2))) (.p rfl) rfl rfl ⟨rfl, rfl, trivial⟩ rfl rfl rfl (CA (Dk _ _ _ _ A4 A4) a3) ?_
 refine AR rfl (Az (by kernel_rfl) ?_)
 refine Ap rfl (fun c4 => ?_) (fun c4 => ?_)
 ·have h := An c4 h
  refine Ab (Aa Ad rfl (qm rfl (M9 rfl (ql Dn rfl (AI rfl (M9 rfl (qs Es rfl (Ae (Ab (Aa Ad rfl (qm rfl (qm rfl (qa rfl (qa rfl (Ae ?_)))))))))))))))
  obtain rfl := sj h
  refine Am (sm [] [(10, .e (.one (.pure (.val (.int .i64 p2))))), (11, .e (.one (.pure (.val (.int .i64 p1)))))] [(90000, .box [.pure (.val (.int .i64 ((IntKind.wrap .i64 (p3 + 1)))))])] rfl rfl) (Ax ?_)
  exact ⟨⟨[_, _], ⟨.tmp _ _ rfl, ⟨.tmp _ _ rfl, trivial⟩⟩, rfl⟩, ⟨rfl, trivial⟩, trivial⟩
 ·have h := Ao c4 h
  refine Aq (Ab (Aa Ad rfl (qm rfl (qm rfl (qa rfl (qa rfl (Ae ?_)))))))
  obtain rfl := sj h
  refine Am (sm [] [(10, .e (.one (.pure (.val (.int .i64 p1))))), (11, .e (.one (.pure (.val (.int .i64 p2)))))] [(90000, .box [.pure (.val (.int .i64 p3))])] rfl rfl) (Ax ?_)
  exact ⟨⟨[_, _], ⟨.tmp _ _ rfl, ⟨.tmp _ _ rfl, trivial⟩⟩, rfl⟩, ⟨rfl, trivial⟩, trivial⟩
set_option maxRecDepth 10000 in
theorem EZ (N : Nat) (p0 : List Af) (p1 : Int) (p2 : Int) (p3 : Int) (p4 : Int) (p5 : (Af × Af) → Option Int) (r : Int × Int) (h : CX N p0 p1 p2 p3 p4 p5 = some r) : A9 Tryz.prog 165 [.e (.one (.pure (.sl (p0.map Ac)))), .e (.one (.pure (.val (.int .i64 p1)))), .e (.one (.pure (.val (.int .i64 p2)))), .e (.one (.pure (.val (.int .i64 p3)))), .e (.one (.ptr 90000 0)), .e (.one (.clo (A0 (Cq true Ac true Ac) A8 p5)))] [(.box [.pure (.val (.int .i64 p4))], .box [.pure (.val (.int .i64 r.2))])] [] (.e (.one (.pure (.val (.int .i64 r.1))))) := by
 unfold CX at h
 refine AY (n := 41) (rs := [.tmp 12]) Tryz.func165 rfl rfl rfl (AZ rfl) (AZ rfl) rfl rfl (AZ rfl) rfl (AZ rfl) fun w0 S0 GL => ?_
 refine Am (sm [] [(0, .e (.one (.pure (.sl (p0.map Ac))))), (1, .e (.one (.pure (.val (.int .i64 p1))))), (2, .e (.one (.pure (.val (.int .i64 p2))))), (3, .e (.one (.pure (.val (.int .i64 p3))))), (4, .e (.one (.ptr 90000 0))), (5, .e (.one (.clo (A0 (Cq true Ac true Ac) A8 p5))))] [(90000, .box [.pure (.val (.int .i64 p4))])] rfl rfl) (Ab (Aa Ad rfl (qa rfl (Ae (Ab (Aa Ad rfl (qm rfl (qm rfl (qm rfl (qm rfl (qm rfl ?_)))))))))))
 obtain ⟨v1, a1, h⟩ := bind_some h
 refine Bp (ds0 := [_, _, _, _, _]) [90000] [] [true] (DV N p0 p1 p2 p4 p5 v1 a1) (.p rfl) RT rfl ⟨rfl, rfl, rfl, rfl, rfl, trivial⟩ rfl rfl (by decide) ⟨rfl, trivial⟩ rfl (AM rfl) trivial ⟨(fun h => by cases h), trivial⟩ rfl rfl rfl ?_
 refine qm rfl (qx rfl (qx rfl (qa rfl (qa rfl (Ae (Ab (Aa Ad rfl (qm rfl (qm rfl (qm rfl (qm rfl (qm rfl ?_))))))))))))
 obtain ⟨v2, a2, h⟩ := bind_some h
 refine Bp (ds0 := [_, _, _, _, _]) [90000] [] [true] (DV N p0 v1.2.1 p3 v1.2.2 p5 v2 a2) (.p rfl) RT rfl ⟨rfl, rfl, rfl, rfl, rfl, trivial⟩ rfl rfl (by decide) ⟨rfl, trivial⟩ rfl (AM rfl) trivial ⟨(fun h => by cases h), trivial⟩ rfl rfl rfl ?_
 refine qm rfl (qx rfl (qx rfl (qa rfl (qa rfl (Ae (Ab (Aa Ad rfl (qm rfl (qm rfl (qm rfl (qm rfl (qm rfl ?_))))))))))))
 obtain ⟨v3, a3, h⟩ := bind_some h
 refine Bp (ds0 := [_, _, _, _, _]) [90000] [] [true] (DV N p0 v1.1 v2.1 v2.2.2 p5 v3 a3) (.p rfl) RT rfl ⟨rfl, rfl, rfl, rfl, rfl, trivial⟩ rfl rfl (by decide) ⟨rfl, trivial⟩ rfl (AM rfl) trivial ⟨(fun h => by cases h), trivial⟩ rfl rfl rfl ?_
 refine qm rfl (qx rfl (qx rfl (qa rfl (qa rfl (Ae (Ab (Aa Ad rfl (qm rfl (qa rfl (Ae ?_))))))))))
 obtain rfl := sj h
 refine Am (sm [] [(12, .e (.one (.pure (.val (.int .i64 v3.2.1)))))] [(90000, .box [.pure (.val (.int .i64 v3.2.2))])] rfl rfl) (Ax ?_)
 exact ⟨⟨[_], ⟨.tmp _ _ rfl, trivial⟩, rfl⟩, ⟨rfl, trivial⟩, trivial⟩
set_option maxRecDepth 10000 in
theorem C2 (N : Nat) (p0 : List Af) (p1 : Int) (p2 : Int) (p3 : (Af × Af) → Option Int) (r : Int × Int) (h : Bn N p0 p1 p2 p3 = some r) : A9 Tryz.prog 164 [.e (.one (.pure (.sl (p0.map Ac)))), .e (.one (.pure (.val (.int .i64 p1)))), .e (.one (.ptr 90000 0)), .e (.one (.clo (A0 (Cq true Ac true Ac) A8 p3)))] [(.box [.pure (.val (.int .i64 p2))], .box [.pure (.val (.int .i64 r.2))])] [] (.e (.one (.pure (.val (.int .i64 r.1))))) := by
 unfold Bn at h
 refine AY (n := 18) (rs := [.tmp 8]) Tryz.func164 rfl rfl rfl (AZ rfl) (AZ rfl) rfl rfl (AZ rfl) rfl (AZ rfl) fun w0 S0 GL => ?_
 refine Am (sm [] [(0, .e (.one (.pure (.sl (p0.map Ac))))), (1, .e (.one (.pure (.val (.int .i64 p1))))), (2, .e (.one (.ptr 90000 0))), (3, .e (.one (.clo (A0 (Cq true Ac true Ac) A8 p3))))] [(90000, .box [.pure (.val (.int .i64 p2))])] rfl rfl) (Ab (Aa Ad rfl (qa rfl (Ae (Ab (Aa Ad rfl (qm rfl (qm rfl (Bb rfl (qm rfl (qm rfl (AI rfl (qm rfl (qm rfl ?_))))))))))))))
 obtain ⟨v1, a1, h⟩ := bind_some h
 refine Bp (ds0 := [_, _, _, _, _, _]) [90000] [] [true] (EZ N p0 ((IntKind.wrap .i64 (p1 - 1))) p1 ((IntKind.wrap .i64 (p1 + 1))) p2 p3 v1 a1) (.p rfl) Tu rfl ⟨rfl, rfl, rfl, rfl, rfl, rfl, trivial⟩ rfl rfl (by decide) ⟨rfl, trivial⟩ rfl (AM rfl) trivial ⟨(fun h => by cases h), trivial⟩ rfl rfl rfl ?_
 refine qa rfl (Ae ?_)
 obtain rfl := sj h
 refine Am (sm [] [(8, .e (.one (.pure (.val (.int .i64 v1.1)))))] [(90000, .box [.pure (.val (.int .i64 v1.2))])] rfl rfl) (Ax ?_)
 exact ⟨⟨[_], ⟨.tmp _ _ rfl, trivial⟩, rfl⟩, ⟨rfl, trivial⟩, trivial⟩
set_option maxRecDepth 10000 in
theorem F9 (N : Nat) (p0 : List Af) (p1 : Int) (p2 : Int) (p3 : (Af × Af) → Option Int) (r : Int × Int) (h : Dg N p0 p1 p2 p3 = some r) : AA Tryz.prog 135 [.e (.one (.pure (.sl (p0.map Ac)))), .e (.one (.pure (.val (.int .i64 p1)))), .e (.one (.pure (.val (.int .i64 p2)))), .e (.one (.clo (A0 (Cq true Ac true Ac) A8 p3)))] [] (.tup [.one (.pure (.val (.int .i64 r.1))), .one (.pure (.val (.int .i64 r.2)))]) := by
 unfold Dg at h
 refine Ar (n := 63) (rs := [.tmp 8, .tmp 9]) Tryz.func135 rfl rfl rfl (AZ rfl) (AZ rfl) rfl fun w0 S0 => ?_
 refine Ab (Aa Ad rfl (qa rfl (qa rfl (Ae (Ab (Aa Ad rfl (qm rfl (qm rfl (Bb rfl (qa rfl (Ae (Ab (Aa Ad rfl (qz Lr rfl (Ae (Ab (Aa Ad rfl (qm rfl (qm rfl (I5 rfl (by decide) (Hg rfl (AI rfl (qa rfl (Ae (Ab (Aa Ad rfl (qm rfl (qm rfl (I5 rfl (by decide) (Hg rfl (AI rfl (qa rfl (Ae (Ab (Aa Ad rfl (qm rfl (qm rfl (I5 rfl (by decide) (Hg rfl ?_)))))))))))))))))))))))))))))))))))))))
 refine AI rfl (qa rfl (Ae ?_))
 refine AK h (fun v1 => mk [(11, .e (.one (.ptr 11 0))), (13, .e (.one (.pure (.val (.int .i64 v1.2)))))] [(11, .box [.pure (.val (.int .i64 v1.1))])]) (fun j1 h => ?_) (fun v1 h => ?_)
 ·refine Ab (Aa Ad rfl (qm rfl (Dl rfl (Ae ?_))))
  refine Ap rfl (fun c2 => ?_) (fun c2 => ?_)
  ·have h := An c2 h
   refine AK h (fun v3 => mk [(0, .e (.one (.pure (.sl (p0.map Ac))))), (3, .e (.one (.clo (A0 (Cq true Ac true Ac) A8 p3)))), (11, .e (.one (.ptr 11 0))), (12, .e (.one (.pure (.val (.int .i64 v3.2.1))))), (13, .e (.one (.pure (.val (.int .i64 v3.2.2.1))))), (14, .e (.one (.pure (.val (.int .i64 v3.2.2.2)))))] [(11, .box [.pure (.val (.int .i64 v3.1))])]) (fun j3 h => ?_) (fun v3 h => ?_)
   ·refine Ab (Aa Ad rfl (qm rfl (Dl rfl (Ae ?_))))
    refine Ap rfl (fun c4 => ?_) (fun c4 => ?_)
    ·have h := An c4 h
     refine Ab (Aa Ad rfl (qm rfl (qm rfl (qm rfl ?_))))
     obtain ⟨v5, a5, h⟩ := bind_some h
     refine Bp (ds0 := [_, _, _, _]) [11] [] [true] (C2 N p0 ((IntKind.wrap .i64 (p1 + (IntKind.wrap .i64 ((IntKind.wrap .i64 (Int.tdiv ((IntKind.wrap .i64 (p2 - p1))) 4)) * 1))))) 0 p3 v5 a5) (.p rfl) QP rfl ⟨rfl, rfl, rfl, rfl, trivial⟩ rfl rfl (by decide) ⟨rfl, trivial⟩ rfl (AM rfl) trivial ⟨(fun h => by cases h), trivial⟩ rfl rfl rfl ?_
     refine qa rfl (Ae (Ab (Aa Ad rfl (qm rfl (qm rfl (qm rfl ?_))))))
     obtain ⟨v6, a6, h⟩ := bind_some h
     refine Bp (ds0 := [_, _, _, _]) [11] [] [true] (C2 N p0 ((IntKind.wrap .i64 (p1 + (IntKind.wrap .i64 ((IntKind.wrap .i64 (Int.tdiv ((IntKind.wrap .i64 (p2 - p1))) 4)) * 2))))) v5.2 p3 v6 a6) (.p rfl) QP rfl ⟨rfl, rfl, rfl, rfl, trivial⟩ rfl rfl (by decide) ⟨rfl, trivial⟩ rfl (AM rfl) trivial ⟨(fun h => by cases h), trivial⟩ rfl rfl rfl ?_
     refine qa rfl (Ae (Aa Ad rfl (qm rfl (qm rfl (qm rfl ?_)))))
     obtain ⟨v7, a7, h⟩ := bind_some h
     refine Bp (ds0 := [_, _, _, _]) [11] [] [true] (C2 N p0 ((IntKind.wrap .i64 (p1 + (IntKind.wrap .i64 ((IntKind.wrap .i64 (Int.tdiv ((IntKind.wrap .i64 (p2 - p1))) 4)) * 3))))) v6.2 p3 v7 a7) (.p rfl) QP rfl ⟨rfl, rfl, rfl, rfl, trivial⟩ rfl rfl (by decide) ⟨rfl, trivial⟩ rfl (AM rfl) trivial ⟨(fun h => by cases h), trivial⟩ rfl rfl rfl ?_
     refine qa rfl (Ae ?_)
     exact Av _ h (sm [] _ _ rfl rfl)
    ·have h := Ao c4 h
     refine Aq ?_
     exact Av _ h (sm [] _ _ rfl rfl)
   ·refine Aa Ad rfl (qm rfl (qm rfl (qm rfl (qm rfl (qm rfl ?_)))))
    obtain ⟨v8, a8, h⟩ := bind_some h
    refine Bp (ds0 := [_, _, _, _, _, _]) [11] [] [true] (EZ N p0 v3.2.1 v3.2.2.1 v3.2.2.2 v3.1 p3 v8 a8) (.p rfl) Tu rfl ⟨rfl, rfl, rfl, rfl, rfl, rfl, trivial⟩ rfl rfl (by decide) ⟨rfl, trivial⟩ rfl (AM rfl) trivial ⟨(fun h => by cases h), trivial⟩ rfl rfl rfl ?_
    refine qa rfl (Ae ?_)
    exact Av _ h (sm [] _ _ rfl rfl)
  ·have h := Ao c2 h
   refine Aq ?_
   exact Av _ h (sm [] _ _ rfl rfl)
 ·refine Ab (Aa Ad rfl (ql Dn rfl (Ae (AD (Ab (Aa Ad rfl (Cp rfl (qa rfl (Ae ?_)))))))))
  refine Ap rfl (fun c9 => ?_) (fun c9 => ?_)
  ·have h := An c9 h
   refine Ab (Aa Ad rfl (qm rfl (qa rfl (qa rfl (Ae ?_)))))
   obtain rfl := sj h
   refine Am (sm [] [(8, .e (.one (.pure (.val (.int .i64 v1.2))))), (9, .e (.one (.pure (.val (.int .i64 1)))))] [] rfl rfl) (Ax ?_)
   exact ⟨⟨[_, _], ⟨.tmp _ _ rfl, ⟨.tmp _ _ rfl, trivial⟩⟩, rfl⟩, trivial⟩
  ·have h := Ao c9 h
   refine Ab (Aa Ad rfl (Cp rfl (qa rfl (Ae ?_))))
   refine Ap rfl (fun c10 => ?_) (fun c10 => ?_)
   ·have h := An c10 h
    refine Ab (Aa Ad rfl (qm rfl (qa rfl (qa rfl (Ae ?_)))))
    obtain rfl := sj h
    refine Am (sm [] [(8, .e (.one (.pure (.val (.int .i64 v1.2))))), (9, .e (.one (.pure (.val (.int .i64 2)))))] [] rfl rfl) (Ax ?_)
    exact ⟨⟨[_, _], ⟨.tmp _ _ rfl, ⟨.tmp _ _ rfl, trivial⟩⟩, rfl⟩, trivial⟩
   ·have h := Ao c10 h
    refine Ab (Aa Ad rfl (qm rfl (qa rfl (qa rfl (Ae ?_)))))
    obtain rfl := sj h
    refine Am (sm [] [(8, .e (.one (.pure (.val (.int .i64 v1.2))))), (9, .e (.one (.pure (.val (.int .i64 0)))))] [] rfl rfl) (Ax ?_)
    exact ⟨⟨[_, _], ⟨.tmp _ _ rfl, ⟨.tmp _ _ rfl, trivial⟩⟩, rfl⟩, trivial⟩
set_option maxRecDepth 10000 in
theorem F0 (N : Nat) (p0 : List Af) (p1 : Int) (p2 : Int) (p3 : (Af × Af) → Option Int) (r : (List Af)) (h : Dd N p0 p1 p2 p3 = some r) : A9 Tryz.prog 136 [.e (.one (.own 90000)), .e (.one (.pure (.val (.int .i64 p1)))), .e (.one (.pure (.val (.int .i64 p2)))), .e (.one (.clo (A0 (Cq true Ac true Ac) A8 p3)))] [(.vec 3 (p0.map Ac), .vec 3 (r.map Ac))] [] (.tup []) := by
 unfold Dd at h
 refine AY (n := 34) (rs := []) Tryz.func136 rfl rfl rfl (AZ rfl) (AZ rfl) rfl rfl (AZ rfl) rfl (AZ rfl) fun w0 S0 GL => I4 ?_
 refine Am (sm [] [(0, .e (.one (.own 90000))), (1, .e (.one (.pure (.val (.int .i64 p1))))), (2, .e (.one (.pure (.val (.int .i64 p2))))), (3, .e (.one (.clo (A0 (Cq true Ac true Ac) A8 p3))))] [(90000, .vec 3 (p0.map Ac))] rfl rfl) (Ab (Aa Ad rfl (qm rfl (qa rfl (Ae (Ab (Aa Ad rfl (qm rfl (Bb rfl (qa rfl (Ae ?_)))))))))))
 refine AB (L := BS N) h (fun v1 => mk [(0, .e (.one (.own 90000))), (8, .e (.one (.pure (.val (.int .i64 v1.2.1))))), (9, .e (.one (.pure (.val (.int .i64 v1.2.2)))))] [(90000, .vec 3 (v1.1.map Ac))]) (fun v2 => mk [] [(90000, .vec 3 (v2.map Ac))]) (fun _ _ => rfl) (sm [] _ _ rfl rfl) (fun j1 n1 v1 h => ?_) (fun v2 s h hs => ?_)
 ·unfold BS at h
  refine Ab (Ab (Aa Ad rfl (qm rfl (qm rfl (AR rfl (Ae ?_))))))
  refine Ap rfl (fun c3 => ?_) (fun c3 => ?_)
  ·have h := An c3 h
   refine Aq (AD (Ab (Aa Ad rfl (qm rfl (qm rfl (qm rfl (qm rfl (qm rfl (qm rfl ?_)))))))))
   obtain ⟨v4, a4, b4, h⟩ := Aj h
   refine qI A2 AN a4 (Ag b4) rfl (qJ Dp AN (Ag b4) rfl (qm rfl (qm rfl ?_)))
   obtain ⟨v5, a5, b5, h⟩ := Aj h
   refine qI A2 AN a5 (Ag b5) rfl (qJ Dp AN (Ag b5) rfl ?_)
   obtain ⟨v6, a6, b6, h⟩ := Aj h
   refine qI A2 AN a6 (Ag b6) rfl ?_
   refine AT rfl rfl rfl rfl (Ag b6) rfl AN rfl (AZ rfl) (AU Ac v1.1 _ v4) ?_
   obtain ⟨v7, a7, b7, h⟩ := Aj h
   refine qI A2 AN a7 (Ag b7) rfl ?_
   refine AT rfl rfl rfl rfl (Ag b7) rfl AN rfl (AZ rfl) (AU Ac (v1.1.set ((v1.2.1).toNat) v4) _ v5) ?_
   refine Az (by kernel_rfl) (Ab (Aa Ad rfl (qm rfl (AI rfl (qa rfl (Ae (Aa Ad rfl (qm rfl (Bb rfl (qa rfl (Ae ?_)))))))))))
   exact Av _ h (sm [] _ _ rfl rfl)
  ·have h := Ao c3 h
   refine AL ?_
   exact Av _ h (sm [] _ _ rfl rfl)
 ·obtain rfl := sj h
  refine ⟨_, hs.trans (sm [] [] [(90000, .vec 3 (v2.map Ac))] rfl rfl), ?_⟩
  exact ⟨⟨[], trivial, rfl⟩, ⟨rfl, trivial⟩, trivial⟩
end Go.Lift

