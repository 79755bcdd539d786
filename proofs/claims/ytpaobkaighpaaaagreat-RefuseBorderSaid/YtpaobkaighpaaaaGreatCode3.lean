/- Lemmas for RefuseBorderSaid, which YtpaobkaighpaaaaGreatFinR5 proves. -/
import Derived.Test.YtpaobkaighpaaaaGreatCode1
namespace Go.Lift
open IntKind renaming wrap → wI
set_option maxRecDepth 10000
open Go.RowKit
open Go.Proofs
theorem RJ (N : Nat) (p0 : Ak) (r : (List Av)) (h : Im N p0 = some r) : AC Tryz.prog 95 [.e (.agg [sC (p0.fVersions.map Al), sC (p0.fNow.map Al), sC (p0.fTarget.map Al), sC (p0.fTables.map Ar)])] [(3, r.map A5)] (oD (.own 0)) := by
 unfold Im at h
 refine Au (n := 54) (rs := [.tmp 2]) Tryz.func95 rfl rfl rfl (A7 rfl) (A7 rfl) rfl fun w0 S0 => ?_
 refine Ab (Aa Ac rfl (qb rfl (qa rfl (Ae (Ab (Aa Ac rfl (qa rfl (Ae (Ab (Ab (Aa Ac rfl (qf BH rfl (ql Bu rfl (AX AM rfl (qm rfl (Ae ?_))))))))))))))))
 refine AE (L := Dq N p0) h (fun v1 => mk [(1, oD (.ptr 1 0)), (3, oD (.own 2001)), (10, pD (.sl (p0.fVersions.map Al))), (11, iD ((p0.fVersions.length : Int))), (12, iD v1.2)] [(1, .box [sC (p0.fVersions.map Al), sC (p0.fNow.map Al), sC (p0.fTarget.map Al), sC (p0.fTables.map Ar)]), (2001, .vec 3 (v1.1.map A5))]) (fun v2 => mk [(1, oD (.ptr 1 0)), (3, oD (.own 2002))] [(1, .box [sC (p0.fVersions.map Al), sC (p0.fNow.map Al), sC (p0.fTarget.map Al), sC (p0.fTables.map Ar)]), (2002, .vec 3 (v2.map A5))]) (fun _ _ => rfl) ((Br 3 2005 3 rfl rfl rfl).trans (sm [(2001, 2005)] _ _ rfl rfl)) (fun j1 n1 v1 h => ?_) (fun v2 s h hs => ?_)
 ·unfold Dq at h
  refine Ab (Aa Ac rfl (AV rfl (Ae (Ab ?_))))
  refine Ap rfl (fun c3 => ?_) (fun c3 => ?_)
  ·have h := An c3 h
   refine Aq (Ab (AJ (Ab (Aa Ac rfl (qm rfl ?_)))))
   obtain ⟨v4, a4, b4, h⟩ := Ai h
   refine qi AM Dw a4 (Af b4) rfl (qk B6 rfl (qa rfl (qa rfl (Ae (Ab (Aa Ac rfl (qm rfl (qm rfl (Ae ?_)))))))))
   refine AE (L := EJ N v1 v4) h (fun v5 => mk [(1, oD (.ptr 1 0)), (3, oD (.own 2003)), (4, iD v1.2), (10, pD (.sl (p0.fVersions.map Al))), (11, iD ((p0.fVersions.length : Int))), (12, iD v1.2), (17, iD v4), (18, iD v5.2)] [(1, .box [sC (p0.fVersions.map Al), sC (p0.fNow.map Al), sC (p0.fTarget.map Al), sC (p0.fTables.map Ar)]), (2003, .vec 3 (v5.1.map A5))]) (fun v6 => mk [(1, oD (.ptr 1 0)), (3, oD (.own 2004)), (10, pD (.sl (p0.fVersions.map Al))), (11, iD ((p0.fVersions.length : Int))), (12, iD v1.2)] [(1, .box [sC (p0.fVersions.map Al), sC (p0.fNow.map Al), sC (p0.fTarget.map Al), sC (p0.fTables.map Ar)]), (2004, .vec 3 (v6.map A5))]) (fun _ _ => rfl) (sm [(2003, 2001)] _ _ rfl rfl) (fun j5 n5 v5 h => ?_) (fun v6 s h hs => ?_)
   ·unfold EJ at h
    refine Ab (Aa Ac rfl (AV rfl (Ae (Ab ?_))))
    refine Ap rfl (fun c7 => ?_) (fun c7 => ?_)
    ·have h := An c7 h
     refine Aq (Ab (AJ (Ab (Aa Ac rfl (qm rfl (qa rfl (Ae (Aa Ac rfl (qm rfl (qm rfl (qm rfl (Bw JI Uc rfl (D8 EZ EG JI rfl ?_)))))))))))))
     obtain ⟨c8, h⟩ := AS h
     refine Dt (f := A5) EZ EZ EG Rq JI c8 rfl (qa rfl (Ae (Aa Ac rfl (AP rfl (qm rfl (Ae ?_))))))
     exact As _ h (sm [(2003, 26)] _ _ rfl rfl)
    ·have h := Ao c7 h
     refine AT ?_
     exact As _ h (sm [(2004, 2003)] _ _ rfl rfl)
   ·refine Am hs (Aa Ac rfl (AP rfl (qm rfl (Ae ?_))))
    exact As _ h (sm [(2001, 2004)] _ _ rfl rfl)
  ·have h := Ao c3 h
   refine AT ?_
   exact As _ h (sm [(2002, 2001)] _ _ rfl rfl)
 ·refine Am hs (Ab (Ab (Aa Ac rfl (qf BH rfl (ql Bu rfl (AX AM rfl (qm rfl (Ae ?_))))))))
  refine AE (L := CD N p0) h (fun v9 => mk [(1, oD (.ptr 1 0)), (3, oD (.own 2006)), (31, iD ((p0.fVersions.length : Int))), (32, iD v9.2)] [(1, .box [sC (p0.fVersions.map Al), sC (p0.fNow.map Al), sC (p0.fTarget.map Al), sC (p0.fTables.map Ar)]), (2006, .vec 3 (v9.1.map A5))]) (fun v10 => mk [(1, oD (.ptr 1 0)), (3, oD (.own 2007))] [(1, .box [sC (p0.fVersions.map Al), sC (p0.fNow.map Al), sC (p0.fTarget.map Al), sC (p0.fTables.map Ar)]), (2007, .vec 3 (v10.map A5))]) (fun _ _ => rfl) (sm [(2006, 2002)] _ _ rfl rfl) (fun j9 n9 v9 h => ?_) (fun v10 s h hs => ?_)
  ·unfold CD at h
   refine Ab (Aa Ac rfl (AV rfl (Ae (Ab ?_))))
   refine Ap rfl (fun c11 => ?_) (fun c11 => ?_)
   ·have h := An c11 h
    refine Aq (Ab (AJ (Ab (Aa Ac rfl (qm rfl (qa rfl (Ae (Aa Ac rfl (qm rfl (qm rfl (Bw JI Uc rfl (D8 EZ EG JI rfl ?_))))))))))))
    obtain ⟨c12, h⟩ := AS h
    refine Dt (f := A5) EZ EZ EG Rq JI c12 rfl (qa rfl (Ae (Aa Ac rfl (AP rfl (qm rfl (Ae ?_))))))
    exact As _ h (sm [(2006, 39)] _ _ rfl rfl)
   ·have h := Ao c11 h
    refine AT ?_
    exact As _ h (sm [(2007, 2006)] _ _ rfl rfl)
  ·refine Am hs (Ab (Ab (Aa Ac rfl (qf Df rfl (ql H0 rfl (AX Ez rfl (qm rfl (Ae ?_))))))))
   refine AE (L := BK N p0) h (fun v13 => mk [(3, oD (.own 2008)), (43, iD ((p0.fTables.length : Int))), (44, iD v13.2)] [(2008, .vec 3 (v13.1.map A5))]) (fun v14 => mk [(3, oD (.own 2009))] [(2009, .vec 3 (v14.map A5))]) (fun _ _ => rfl) (sm [(2008, 2007)] _ _ rfl rfl) (fun j13 n13 v13 h => ?_) (fun v14 s h hs => ?_)
   ·unfold BK at h
    refine Ab (Aa Ac rfl (AV rfl (Ae (Ab ?_))))
    refine Ap rfl (fun c15 => ?_) (fun c15 => ?_)
    ·have h := An c15 h
     refine Aq (Ab (AJ (Ab (Aa Ac rfl (qm rfl (qa rfl (Ae (Aa Ac rfl (qm rfl (qm rfl (Bw JI Uc rfl (D8 EZ EG JI rfl ?_))))))))))))
     obtain ⟨c16, h⟩ := AS h
     refine Dt (f := A5) EZ EZ EG Rq JI c16 rfl (qa rfl (Ae (Aa Ac rfl (AP rfl (qm rfl (Ae ?_))))))
     exact As _ h (sm [(2008, 51)] _ _ rfl rfl)
    ·have h := Ao c15 h
     refine AT ?_
     exact As _ h (sm [(2009, 2008)] _ _ rfl rfl)
   ·refine Am hs (Ab (Aa Ac rfl (qm rfl (qa rfl (Ae ?_)))))
    obtain rfl := sj h
    refine Am (sm [(1000, 2009)] [(2, oD (.own 1000))] [(1000, .vec 3 (v14.map A5))] rfl rfl) (Az ?_)
    exact ⟨⟨[_], ⟨.tmp _ _ rfl, tv⟩, rfl⟩, ⟨rfl, tv⟩⟩
theorem OV (N : Nat) (p0 : Ah) (r : Ah) (h : Gu N p0 = some r) : AC Tryz.prog 123 [.e (.agg [sC (p0.fBase.map Al), sC (p0.fNext.map Al), sC (p0.fHeld.map Bj)])] [(1, r.fBase.map Al), (1, r.fNext.map Al), (1, r.fHeld.map Bj)] (.e (.agg [.own 0, .own 1, .own 2])) := by
 unfold Gu at h
 refine Au (n := 13) (rs := [.cell 2 46]) Tryz.func123 rfl rfl rfl (A7 rfl) (A7 rfl) rfl fun w0 S0 => ?_
 refine Ab (Aa Ac rfl (qb rfl (qz CI rfl (Ae (Ab (Aa Ac rfl (qf CY rfl (ql Bu rfl ?_))))))))
 obtain ⟨v1, a1, h⟩ := bind_some h
 refine AG [2001] (C6 N p0.fBase v1 a1) RZ rfl (qf BJ rfl (ql Bu rfl ?_))
 obtain ⟨v2, a2, h⟩ := bind_some h
 refine AG [2002] (C6 N p0.fNext v2 a2) RZ rfl (qf CS rfl (ql G4 rfl ?_))
 obtain ⟨v3, a3, h⟩ := bind_some h
 refine AG [2003] (Er N p0.fHeld v3 a3) Xb rfl (Bw CI G5 rfl (qs AA rfl (AB (by kernel_rfl) ?_)))
 obtain rfl := sj h
 refine Am (sm [(1000, 2001), (1001, 2002), (1002, 2003)] [(2, oD (.ptr 2 0))] [(2, .box [.own 1000, .own 1001, .own 1002]), (1000, .vec 1 (v1.map Al)), (1001, .vec 1 (v2.map Al)), (1002, .vec 1 (v3.map Bj))] rfl rfl) (Az ?_)
 exact ⟨⟨[_], ⟨.cellN _ _ _ _ _ _ _ rfl rfl A9 AA rfl rfl (IM rfl), tv⟩, rfl⟩, ⟨rfl, rfl, rfl, tv⟩⟩
theorem LA (N : Nat) (p0 : AR) (r : Bool) (h : FH N p0 = some r) : AC Tryz.prog 156 [.e (.agg [iC p0.fKind, iC p0.fFrom, iC p0.fTo, .pure (.val (.bool p0.fAware)), sC (p0.fOK.map (E4 eB)), sC (p0.fRewrite.map (E4 eB))])] [] (bD r) := by
 unfold FH at h
 refine Au (n := 11) (rs := [.tmp 2]) Tryz.func156 rfl rfl rfl (A7 rfl) (A7 rfl) rfl fun w0 S0 => ?_
 refine Ab (Aa Ac rfl (qb rfl (qa rfl (Ae ?_))))
 refine AO h (fun v1 => mk [(2, bD v1)] []) (fun j1 h => ?_) (fun v1 h => ?_)
 ·refine Aa Ac rfl (qf Gl rfl (ql B6 rfl (BL rfl (qm rfl ?_))))
  refine AF (t := 6) rfl (fun c2 => ?_) (fun c2 => ?_)
  ·have h := An c2 h
   refine qn rfl (qn rfl (qn rfl (qp rfl (qa rfl (Ae ?_)))))
   exact As _ h (sm [] _ _ rfl rfl)
  ·have h := Ao c2 h
   refine qf Gl rfl (ql B6 rfl (BL rfl (qp rfl (qa rfl (Ae ?_)))))
   exact As _ h (sm [] _ _ rfl rfl)
 ·obtain rfl := sj h
  refine Am (sm [] [(2, bD v1)] [] rfl rfl) (Az ?_)
  exact ⟨⟨[_], ⟨.tmp _ _ rfl, tv⟩, rfl⟩, tv⟩
theorem Qj (N : Nat) (p0 : Ak) (p1 : Ah) (p2 : Av) (r : Bool × (List Int) × (List Int)) (h : Ig N p0 p1 p2 = some r) : Bh Tryz.prog 124 [.e (.agg [sC (p0.fVersions.map Al), sC (p0.fNow.map Al), sC (p0.fTarget.map Al), sC (p0.fTables.map Ar)]), oD (.ptr 90000 0), .e (.agg [iC p2.fKind, iC p2.fIndex, iC p2.fVersion])] [(.box [.own 90001, .own 90002, .own 90003], .box [.own 90001, .own 90002, .own 90003]), (.vec 1 (p1.fBase.map Al), .vec 1 (p1.fBase.map Al)), (.vec 1 (p1.fNext.map Al), .vec 1 (r.2.1.map Al)), (.vec 1 (p1.fHeld.map Bj), .vec 1 (r.2.2.map Bj))] [] (bD r.1) := by
 unfold Ig at h
 refine Ba (n := 70) (rs := [.tmp 6]) Tryz.func124 rfl rfl rfl (A7 rfl) (A7 rfl) rfl rfl (A7 rfl) rfl (A7 rfl) fun w0 S0 GL => ?_
 refine Am (sm [] [(0, .e (.agg [sC (p0.fVersions.map Al), sC (p0.fNow.map Al), sC (p0.fTarget.map Al), sC (p0.fTables.map Ar)])), (1, oD (.ptr 90000 0)), (2, .e (.agg [iC p2.fKind, iC p2.fIndex, iC p2.fVersion]))] [(90000, .box [.own 90001, .own 90002, .own 90003]), (90001, .vec 1 (p1.fBase.map Al)), (90002, .vec 1 (p1.fNext.map Al)), (90003, .vec 1 (p1.fHeld.map Bj))] rfl rfl) (Ab (Aa Ac rfl (qb rfl (qb rfl (qa rfl (Ae (Ab ?_)))))))
 refine AO h (fun v1 => mk [(1, oD (.ptr 90000 0)), (3, oD (.ptr 3 0)), (5, oD (.ptr 5 0)), (30, bD v1)] [(3, .box [sC (p0.fVersions.map Al), sC (p0.fNow.map Al), sC (p0.fTarget.map Al), sC (p0.fTables.map Ar)]), (5, .box [iC p2.fKind, iC p2.fIndex, iC p2.fVersion]), (90000, .box [.own 90001, .own 90002, .own 90003]), (90001, .vec 1 (p1.fBase.map Al)), (90002, .vec 1 (p1.fNext.map Al)), (90003, .vec 1 (p1.fHeld.map Bj))]) (fun j1 h => ?_) (fun v1 h => ?_)
 ·refine Aa Ac rfl (qm rfl (NR rfl (qf BJ rfl (ql Bu rfl (qf Fe rfl (ql B6 rfl ?_))))))
  obtain ⟨v2, a2, b2, h⟩ := Ai h
  refine qI AM Dw a2 (Af b2) rfl (qj B6 (Af b2) rfl (Cz rfl (qm rfl ?_)))
  refine AF (t := 18) rfl (fun c3 => ?_) (fun c3 => ?_)
  ·have h := An c3 h
   refine qn rfl (qn rfl (qn rfl (qn rfl (qn rfl (qn rfl (qn rfl (qn rfl (qn rfl (qn rfl (qn rfl (qp rfl (AB (by kernel_rfl) ?_))))))))))))
   exact As _ h (sm [] _ _ rfl rfl)
  ·have h := Ao c3 h
   refine qm rfl (NR rfl (qf CY rfl (ql Bu rfl (qf Fe rfl (ql B6 rfl ?_)))))
   obtain ⟨v4, a4, b4, h⟩ := Ai h
   refine qI AM Dw a4 (Af b4) rfl (qj B6 (Af b4) rfl (qf Hj rfl (ql B6 rfl (BL rfl (qp rfl (AB (by kernel_rfl) ?_))))))
   exact As _ h (sm [] _ _ rfl rfl)
 ·refine Ap rfl (fun c5 => ?_) (fun c5 => ?_)
  ·have h := An c5 h
   refine Ab (Aa Ac rfl (qa rfl (Ae ?_)))
   obtain rfl := sj h
   refine Am (sm [] [(6, bD false)] [(90000, .box [.own 90001, .own 90002, .own 90003]), (90001, .vec 1 (p1.fBase.map Al)), (90002, .vec 1 (p1.fNext.map Al)), (90003, .vec 1 (p1.fHeld.map Bj))] rfl rfl) (Az ?_)
   exact ⟨⟨[_], ⟨.tmp _ _ rfl, tv⟩, rfl⟩, ⟨rfl, rfl, rfl, rfl, tv⟩, tv⟩
  ·have h := Ao c5 h
   refine Aq (Ab (Aa Ac rfl (qm rfl (NR rfl (qf BJ rfl (ql Bu rfl (qf Fe rfl (ql B6 rfl (qf Hj rfl (ql B6 rfl ?_))))))))))
   obtain ⟨v6, a6, b6, h⟩ := Ai h
   refine qI AM Dw a6 (Af b6) rfl ?_
   refine A0 rfl rfl rfl rfl (Af b6) rfl Dw rfl (A7 rfl) (AY Al p1.fNext _ p2.fVersion) ?_
   refine AB (by kernel_rfl) (Ab (Ab (Aa Ac rfl (qf Df rfl (ql H0 rfl (AX Ez rfl (qm rfl (Ae ?_))))))))
   refine AE (L := D6 N p0 p2) h (fun v7 => mk [(1, oD (.ptr 90000 0)), (5, oD (.ptr 5 0)), (41, pD (.sl (p0.fTables.map Ar))), (42, iD ((p0.fTables.length : Int))), (43, iD v7.2)] [(5, .box [iC p2.fKind, iC p2.fIndex, iC p2.fVersion]), (90000, .box [.own 90001, .own 90002, .own 90003]), (90001, .vec 1 (p1.fBase.map Al)), (90002, .vec 1 ((p1.fNext.set ((p2.fIndex).toNat) p2.fVersion).map Al)), (90003, .vec 1 (v7.1.map Bj))]) (fun v8 => mk [] [(90000, .box [.own 90001, .own 90002, .own 90003]), (90001, .vec 1 (p1.fBase.map Al)), (90002, .vec 1 ((p1.fNext.set ((p2.fIndex).toNat) p2.fVersion).map Al)), (90003, .vec 1 (v8.map Bj))]) (fun _ _ => rfl) (sm [] _ _ rfl rfl) (fun j7 n7 v7 h => ?_) (fun v8 s h hs => ?_)
   ·unfold D6 at h
    refine Ab (Aa Ac rfl (AV rfl (Ae (Ab ?_))))
    refine Ap rfl (fun c9 => ?_) (fun c9 => ?_)
    ·have h := An c9 h
     refine Aq ?_
     refine AO h (fun v10 => mk [(1, oD (.ptr 90000 0)), (5, oD (.ptr 5 0)), (41, pD (.sl (p0.fTables.map Ar))), (42, iD ((p0.fTables.length : Int))), (43, iD v7.2)] [(5, .box [iC p2.fKind, iC p2.fIndex, iC p2.fVersion]), (90000, .box [.own 90001, .own 90002, .own 90003]), (90001, .vec 1 (p1.fBase.map Al)), (90002, .vec 1 ((p1.fNext.set ((p2.fIndex).toNat) p2.fVersion).map Al)), (90003, .vec 1 (v10.map Bj))]) (fun j10 h => ?_) (fun v10 h => ?_)
     ·refine AJ (Ab (Aa Ac rfl (qm rfl ?_)))
      obtain ⟨v11, a11, b11, h⟩ := Ai h
      refine qi Ez Eu a11 (Af b11) rfl (qK H1 Eu rfl (qz Lq rfl (qa rfl (qs Eu rfl (Ae ?_)))))
      refine AO h (fun v12 => mk [(1, oD (.ptr 90000 0)), (5, oD (.ptr 5 0)), (7, iD v7.2), (41, pD (.sl (p0.fTables.map Ar))), (42, iD ((p0.fTables.length : Int))), (43, iD v7.2), (56, bD v12)] [(5, .box [iC p2.fKind, iC p2.fIndex, iC p2.fVersion]), (90000, .box [.own 90001, .own 90002, .own 90003]), (90001, .vec 1 (p1.fBase.map Al)), (90002, .vec 1 ((p1.fNext.set ((p2.fIndex).toNat) p2.fVersion).map Al)), (90003, .vec 1 (v7.1.map Bj))]) (fun j12 h => ?_) (fun v12 h => ?_)
      ·refine Aa Ac rfl (qf Dj rfl (ql B6 rfl (qf Fe rfl (ql B6 rfl (BL rfl (qm rfl ?_))))))
       refine AF (t := 53) rfl (fun c13 => ?_) (fun c13 => ?_)
       ·have h := An c13 h
        refine qL H1 Eu rfl ?_
        obtain ⟨v14, a14, h⟩ := bind_some h
        refine AG [] (LA N v11 v14 a14) WM rfl (qp rfl (Ae ?_))
        exact As _ h (sm [] _ _ rfl rfl)
       ·have h := Ao c13 h
        refine qn rfl (qn rfl (qp rfl (Ae ?_)))
        exact As _ h (sm [] _ _ rfl rfl)
      ·refine Ap rfl (fun c15 => ?_) (fun c15 => ?_)
       ·have h := An c15 h
        refine Aa Ac rfl (qm rfl (NR rfl (qf CS rfl (ql G4 rfl (qm rfl ?_)))))
        obtain ⟨v16, a16, b16, h⟩ := Ai h
        refine qI Dg FN a16 (Af b16) rfl (qj Kq (Af b16) rfl (qf Hj rfl (ql B6 rfl ?_)))
        obtain ⟨c17, h⟩ := AS h
        refine Il rfl c17 (Tx rfl ?_)
        obtain ⟨v18, a18, b18, h⟩ := Ai h
        refine qI Dg FN a18 (Af b18) rfl ?_
        refine A0 rfl rfl rfl rfl (Af b18) rfl FN rfl (A7 rfl) (AY Bj v7.1 _ ((MC .u8 v16 ((CJ .u8 1 p2.fVersion))))) ?_
        refine AB (by kernel_rfl) ?_
        exact As _ h (sm [] _ _ rfl rfl)
       ·have h := Ao c15 h
        refine Aq ?_
        exact As _ h (sm [] _ _ rfl rfl)
     ·refine Aa Ac rfl (AP rfl (qm rfl (Ae ?_)))
      exact As _ h (sm [] _ _ rfl rfl)
    ·have h := Ao c9 h
     refine AT ?_
     exact As _ h (sm [] _ _ rfl rfl)
   ·refine Am hs (Ab (Aa Ac rfl (qa rfl (Ae ?_))))
    obtain rfl := sj h
    refine Am (sm [] [(6, bD true)] [(90000, .box [.own 90001, .own 90002, .own 90003]), (90001, .vec 1 (p1.fBase.map Al)), (90002, .vec 1 ((p1.fNext.set ((p2.fIndex).toNat) p2.fVersion).map Al)), (90003, .vec 1 (v8.map Bj))] rfl rfl) (Az ?_)
    exact ⟨⟨[_], ⟨.tmp _ _ rfl, tv⟩, rfl⟩, ⟨rfl, rfl, rfl, rfl, tv⟩, tv⟩
theorem N9 (N : Nat) (p0 : Ah) (p1 : Int) (r : Int) (h : F3 N p0 p1 = some r) : AC Tryz.prog 157 [.e (.agg [sC (p0.fBase.map Al), sC (p0.fNext.map Al), sC (p0.fHeld.map Bj)]), iD p1] [] (pD (.val (.int .u8 r))) := by
 unfold F3 at h
 refine Au (n := 27) (rs := [.tmp 4]) Tryz.func157 rfl rfl rfl (A7 rfl) (A7 rfl) rfl fun w0 S0 => ?_
 refine Ab (Aa Ac rfl (qb rfl (qa rfl (Ae (Ab (Aa Ac rfl (qf CY rfl (ql Bu rfl (qm rfl ?_)))))))))
 obtain ⟨v1, a1, b1, h⟩ := Ai h
 refine qi AM Dw a1 (Af b1) rfl (qk B6 rfl ?_)
 obtain ⟨c2, h⟩ := AS h
 refine Il rfl c2 (qa rfl (Ae ?_))
 refine AO h (fun v3 => mk [(5, pD (.val (.int .u8 v3)))] []) (fun j3 h => ?_) (fun v3 h => ?_)
 ·refine Ab (Aa Ac rfl (qf BJ rfl (ql Bu rfl (qm rfl ?_))))
  obtain ⟨v4, a4, b4, h⟩ := Ai h
  refine qi AM Dw a4 (Af b4) rfl (qk B6 rfl (Cz rfl (Ae ?_)))
  refine Ap rfl (fun c5 => ?_) (fun c5 => ?_)
  ·have h := An c5 h
   refine Aa Ac rfl (qm rfl (qf BJ rfl (ql Bu rfl (qm rfl ?_))))
   obtain ⟨v6, a6, b6, h⟩ := Ai h
   refine qi AM Dw a6 (Af b6) rfl (qk B6 rfl ?_)
   obtain ⟨c7, h⟩ := AS h
   refine Il rfl c7 (Tx rfl (qa rfl (Ae ?_)))
   exact As _ h (sm [] _ _ rfl rfl)
  ·have h := Ao c5 h
   refine Aq ?_
   exact As _ h (sm [] _ _ rfl rfl)
 ·refine Ab (Aa Ac rfl (qm rfl (qa rfl (Ae ?_))))
  obtain rfl := sj h
  refine Am (sm [] [(4, pD (.val (.int .u8 v3)))] [] rfl rfl) (Az ?_)
  exact ⟨⟨[_], ⟨.tmp _ _ rfl, tv⟩, rfl⟩, tv⟩
theorem Jj (N : Nat) (p0 : Int) (r : Int) (h : Dc N p0 = some r) : AC Tryz.prog 169 [pD (.val (.int .u8 p0))] [] (iD r) := by
 unfold Dc at h
 refine Au (n := 6) (rs := [.tmp 2]) Tryz.func169 rfl rfl rfl (A7 rfl) (A7 rfl) rfl fun w0 S0 => ?_
 refine Ab (Aa Ac rfl (qa rfl (Ae (Ab (Aa Ac rfl (qm rfl ?_))))))
 obtain ⟨v1, a1, h⟩ := bind_some h
 refine MT (.p rfl) rfl rfl Wb a1 ?_
 refine Gq Wk SY rfl (qa rfl (Ae ?_))
 obtain rfl := sj h
 refine Am (sm [] [(2, iD ((wI .i64 v1)))] [] rfl rfl) (Az ?_)
 exact ⟨⟨[_], ⟨.tmp _ _ rfl, tv⟩, rfl⟩, tv⟩
theorem Mo (N : Nat) (p0 : AR) (p1 : Int) (p2 : Int) (r : Bool) (h : FY N p0 p1 p2 = some r) : AC Tryz.prog 158 [.e (.agg [iC p0.fKind, iC p0.fFrom, iC p0.fTo, .pure (.val (.bool p0.fAware)), sC (p0.fOK.map (E4 eB)), sC (p0.fRewrite.map (E4 eB))]), pD (.val (.int .u8 p1)), iD p2] [] (bD r) := by
 unfold FY at h
 refine Au (n := 25) (rs := [.tmp 6]) Tryz.func158 rfl rfl rfl (A7 rfl) (A7 rfl) rfl fun w0 S0 => ?_
 refine Ab (Aa Ac rfl (qb rfl (qa rfl (Ae (Ab (Ab (Aa Ac rfl (qm rfl (qa rfl (Ae ?_))))))))))
 refine AE (L := DR N p0 p2) h (fun v1 => mk [(2, iD p2), (3, oD (.ptr 3 0)), (7, pD (.val (.int .u8 v1)))] [(3, .box [iC p0.fKind, iC p0.fFrom, iC p0.fTo, .pure (.val (.bool p0.fAware)), sC (p0.fOK.map (E4 eB)), sC (p0.fRewrite.map (E4 eB))])]) (fun v2 => mk [] []) (fun _ _ => rfl) (sm [] _ _ rfl rfl) (fun j1 n1 v1 h => ?_) (fun v2 s h hs => ?_)
 ·unfold DR at h
  refine Ab (Ab (Aa Ac rfl (qm rfl (B3 rfl (Ae ?_)))))
  refine Ap rfl (fun c3 => ?_) (fun c3 => ?_)
  ·have h := An c3 h
   refine Aq (Ab (AJ (Ab (Aa Ac rfl (qf Hm rfl (ql K8 rfl (qm rfl ?_)))))))
   obtain ⟨v4, a4, h⟩ := bind_some h
   refine AG [] (Jj N v1 v4 a4) Yu rfl ?_
   obtain ⟨v5, a5, b5, h⟩ := Ai h
   refine qi GS Nz a5 (Af b5) rfl (qk P7 rfl (qm rfl ?_))
   obtain ⟨v6, a6, b6, h⟩ := Ai h
   refine qi G9 Q1 a6 (Af b6) rfl (qk Sn rfl (BZ rfl (AB (by kernel_rfl) ?_)))
   refine Ap rfl (fun c7 => ?_) (fun c7 => ?_)
   ·have h := An c7 h
    refine Ab (Aa Ac rfl (qa rfl (Ae ?_)))
    obtain rfl := sj h
    refine Am (sm [] [(6, bD false)] [] rfl rfl) (Az ?_)
    exact ⟨⟨[_], ⟨.tmp _ _ rfl, tv⟩, rfl⟩, tv⟩
   ·have h := Ao c7 h
    refine Aq (Aa Ac rfl (qm rfl (qm rfl (Bk rfl (KJ rfl (qa rfl (Ae ?_)))))))
    exact As _ h (sm [] _ _ rfl rfl)
  ·have h := Ao c3 h
   refine AT ?_
   exact As _ h (sm [] _ _ rfl rfl)
 ·refine Am hs (Ab (Aa Ac rfl (qa rfl (Ae ?_))))
  obtain rfl := sj h
  refine Am (sm [] [(6, bD true)] [] rfl rfl) (Az ?_)
  exact ⟨⟨[_], ⟨.tmp _ _ rfl, tv⟩, rfl⟩, tv⟩
theorem Qr (N : Nat) (p0 : Ak) (p1 : Ah) (p2 : Int) (r : Bool × (List Int)) (h : Hc N p0 p1 p2 = some r) : Bh Tryz.prog 125 [.e (.agg [sC (p0.fVersions.map Al), sC (p0.fNow.map Al), sC (p0.fTarget.map Al), sC (p0.fTables.map Ar)]), oD (.ptr 90000 0), iD p2] [(.box [.own 90001, .own 90002, .own 90003], .box [.own 90001, .own 90002, .own 90003]), (.vec 1 (p1.fBase.map Al), .vec 1 (p1.fBase.map Al)), (.vec 1 (p1.fNext.map Al), .vec 1 (p1.fNext.map Al)), (.vec 1 (p1.fHeld.map Bj), .vec 1 (r.2.map Bj))] [] (bD r.1) := by
 unfold Hc at h
 refine Ba (n := 68) (rs := [.tmp 6]) Tryz.func125 rfl rfl rfl (A7 rfl) (A7 rfl) rfl rfl (A7 rfl) rfl (A7 rfl) fun w0 S0 GL => ?_
 refine Am (sm [] [(0, .e (.agg [sC (p0.fVersions.map Al), sC (p0.fNow.map Al), sC (p0.fTarget.map Al), sC (p0.fTables.map Ar)])), (1, oD (.ptr 90000 0)), (2, iD p2)] [(90000, .box [.own 90001, .own 90002, .own 90003]), (90001, .vec 1 (p1.fBase.map Al)), (90002, .vec 1 (p1.fNext.map Al)), (90003, .vec 1 (p1.fHeld.map Bj))] rfl rfl) (Ab (Aa Ac rfl (qb rfl (qa rfl (Ae (Ab (Aa Ac rfl (qf Df rfl (ql H0 rfl (qm rfl ?_))))))))))
 obtain ⟨v1, a1, b1, h⟩ := Ai h
 refine qi Ez Eu a1 (Af b1) rfl (qK H1 Eu rfl (qz Lq rfl (qs Eu rfl (Ae (Ab (Ab (Aa Ac rfl (qL H1 Eu rfl ?_))))))))
 obtain ⟨v2, a2, h⟩ := bind_some h
 refine AG [] (LA N v1 v2 a2) WM rfl (BZ rfl (Ae ?_))
 refine Ap rfl (fun c3 => ?_) (fun c3 => ?_)
 ·have h := An c3 h
  refine Ab (Aa Ac rfl (qa rfl (Ae ?_)))
  obtain rfl := sj h
  refine Am (sm [] [(6, bD false)] [(90000, .box [.own 90001, .own 90002, .own 90003]), (90001, .vec 1 (p1.fBase.map Al)), (90002, .vec 1 (p1.fNext.map Al)), (90003, .vec 1 (p1.fHeld.map Bj))] rfl rfl) (Az ?_)
  exact ⟨⟨[_], ⟨.tmp _ _ rfl, tv⟩, rfl⟩, ⟨rfl, rfl, rfl, rfl, tv⟩, tv⟩
 ·have h := Ao c3 h
  refine Aq (Ab (Aa Ac rfl (qm rfl (NR rfl (qL A9 AA rfl (qf Dj rfl (ql B6 rfl ?_)))))))
  obtain ⟨v4, a4, h⟩ := bind_some h
  refine DC [] [90001, 90002, 90003] (N9 N p1 v1.fFrom v4 a4) Zd Cj rfl (qa rfl (AB (by kernel_rfl) (Ab (Aa Ac rfl (qm rfl (NR rfl (qf CS rfl (ql G4 rfl (qm rfl ?_)))))))))
  obtain ⟨v5, a5, b5, h⟩ := Ai h
  refine qI Dg FN a5 (Af b5) rfl (qj Kq (Af b5) rfl (qm rfl (IY rfl (qa rfl (Ae (Ab ?_))))))
  refine AO h (fun v6 => mk [(1, oD (.ptr 90000 0)), (2, iD p2), (8, pD (.val (.int .u8 v4))), (60, bD v6)] [(90000, .box [.own 90001, .own 90002, .own 90003]), (90001, .vec 1 (p1.fBase.map Al)), (90002, .vec 1 (p1.fNext.map Al)), (90003, .vec 1 (p1.fHeld.map Bj))]) (fun j6 h => ?_) (fun v6 h => ?_)
  ·refine Aa Ac rfl (qm rfl (NR rfl (qf CS rfl (ql G4 rfl (qm rfl ?_)))))
   obtain ⟨v7, a7, b7, h⟩ := Ai h
   refine qI Dg FN a7 (Af b7) rfl (qj Kq (Af b7) rfl (qm rfl (BL rfl (qm rfl ?_))))
   refine AF (t := 42) rfl (fun c8 => ?_) (fun c8 => ?_)
   ·have h := An c8 h
    refine qn rfl (qn rfl (qn rfl (qn rfl (qu rfl (qu rfl (qu rfl (qu rfl (qu rfl (qu rfl (qu rfl (qu rfl (qu rfl (qu rfl (qu rfl (qu rfl (qn rfl (qp rfl (AB (by kernel_rfl) ?_))))))))))))))))))
    exact As _ h (sm [] _ _ rfl rfl)
   ·have h := Ao c8 h
    refine qf Gl rfl (ql B6 rfl (BL rfl (qm rfl ?_)))
    refine AF (t := 46) rfl (fun c9 => ?_) (fun c9 => ?_)
    ·have h := An c9 h
     refine qL H1 Eu rfl (qm rfl (qm rfl (NR rfl (qf CY rfl (ql Bu rfl (qf Dj rfl (ql B6 rfl ?_)))))))
     obtain ⟨v10, a10, b10, h⟩ := Ai h
     refine qI AM Dw a10 (Af b10) rfl (qj B6 (Af b10) rfl ?_)
     obtain ⟨v11, a11, h⟩ := bind_some h
     refine AG [] (Mo N v1 ((Dz .u8 v5 v4)) v10 v11 a11) YA rfl (BZ rfl (qp rfl (qp rfl (AB (by kernel_rfl) ?_))))
     exact As _ h (sm [] _ _ rfl rfl)
    ·have h := Ao c9 h
     refine qn rfl (qn rfl (qn rfl (qn rfl (qn rfl (qn rfl (qn rfl (qn rfl (qn rfl (qn rfl (qn rfl (qn rfl (qp rfl (qp rfl (AB (by kernel_rfl) ?_))))))))))))))
     exact As _ h (sm [] _ _ rfl rfl)
  ·refine Ap rfl (fun c12 => ?_) (fun c12 => ?_)
   ·have h := An c12 h
    refine Ab (Aa Ac rfl (qa rfl (Ae ?_)))
    obtain rfl := sj h
    refine Am (sm [] [(6, bD false)] [(90000, .box [.own 90001, .own 90002, .own 90003]), (90001, .vec 1 (p1.fBase.map Al)), (90002, .vec 1 (p1.fNext.map Al)), (90003, .vec 1 (p1.fHeld.map Bj))] rfl rfl) (Az ?_)
    exact ⟨⟨[_], ⟨.tmp _ _ rfl, tv⟩, rfl⟩, ⟨rfl, rfl, rfl, rfl, tv⟩, tv⟩
   ·have h := Ao c12 h
    refine Aq (Ab (Aa Ac rfl (qm rfl (NR rfl (qf CS rfl (ql G4 rfl (qm rfl (qm rfl ?_))))))))
    obtain ⟨v13, a13, b13, h⟩ := Ai h
    refine qI Dg FN a13 (Af b13) rfl ?_
    refine A0 rfl rfl rfl rfl (Af b13) rfl FN rfl (A7 rfl) (AY Bj p1.fHeld _ v4) ?_
    refine Ae (Ab (Aa Ac rfl (qa rfl (Ae ?_))))
    obtain rfl := sj h
    refine Am (sm [] [(6, bD true)] [(90000, .box [.own 90001, .own 90002, .own 90003]), (90001, .vec 1 (p1.fBase.map Al)), (90002, .vec 1 (p1.fNext.map Al)), (90003, .vec 1 ((p1.fHeld.set ((p2).toNat) v4).map Bj))] rfl rfl) (Az ?_)
    exact ⟨⟨[_], ⟨.tmp _ _ rfl, tv⟩, rfl⟩, ⟨rfl, rfl, rfl, rfl, tv⟩, tv⟩
theorem Mf (N : Nat) (p0 : Ak) (p1 : Ah) (p2 : Av) (r : Ah × Bool) (h : Fx N p0 p1 p2 = some r) : AC Tryz.prog 97 [.e (.agg [sC (p0.fVersions.map Al), sC (p0.fNow.map Al), sC (p0.fTarget.map Al), sC (p0.fTables.map Ar)]), .e (.agg [sC (p1.fBase.map Al), sC (p1.fNext.map Al), sC (p1.fHeld.map Bj)]), .e (.agg [iC p2.fKind, iC p2.fIndex, iC p2.fVersion])] [(1, r.1.fBase.map Al), (1, r.1.fNext.map Al), (1, r.1.fHeld.map Bj)] (.tup [.agg [.own 0, .own 1, .own 2], .one (.pure (.val (.bool r.2)))]) := by
 unfold Fx at h
 refine Au (n := 51) (rs := [.cell 6 46, .tmp 7]) Tryz.func97 rfl rfl rfl (A7 rfl) (A7 rfl) rfl fun w0 S0 => ?_
 refine Ab (Aa Ac rfl (qb rfl (qb rfl (qb rfl (qz CI rfl (qa rfl (Ae (Ab (Aa Ac rfl (qL A9 AA rfl ?_))))))))))
 obtain ⟨v1, a1, h⟩ := bind_some h
 refine AG [2001, 2002, 2003] (OV N p1 v1 a1) YQ rfl (qz CI rfl (qs AA rfl (Ae (Ab (Ab (Aa Ac rfl (qf FX rfl (ql B6 rfl (Ae (AJ (Ab (Aa Ac rfl (BL rfl (qa rfl (Ae ?_)))))))))))))))
 refine Ap rfl (fun c2 => ?_) (fun c2 => ?_)
 ·have h := An c2 h
  refine Ab (Aa Ac rfl (qL A9 AA rfl (qL DO Dv rfl (qL H6 EG rfl ?_))))
  obtain ⟨v3, a3, h⟩ := bind_some h
  refine BC (ds0 := [_, _, _]) [8, 2001, 2002, 2003] [] [false, false, true, true] (Qj N p0 v1 p2 v3 a3) (.p rfl) Zh rfl ⟨rfl, rfl, rfl, tv⟩ rfl rfl (by decide) ⟨rfl, rfl, rfl, rfl, tv⟩ rfl (A2 rfl) tv ⟨(fun _ => rfl), (fun _ => rfl), (fun h => by cases h), (fun h => by cases h), tv⟩ rfl rfl rfl ?_
  refine qs AA rfl (qa rfl (AB (by kernel_rfl) ?_))
  obtain rfl := sj h
  refine Am (sm [(1000, 2001), (1001, 2002), (1002, 2003)] [(6, oD (.ptr 6 0)), (7, bD v3.1)] [(6, .box [.own 1000, .own 1001, .own 1002]), (1000, .vec 1 (v1.fBase.map Al)), (1001, .vec 1 (v3.2.1.map Al)), (1002, .vec 1 (v3.2.2.map Bj))] rfl rfl) (Az ?_)
  exact ⟨⟨[_, _], ⟨.cellN _ _ _ _ _ _ _ rfl rfl A9 AA rfl rfl (IM rfl), ⟨.tmp _ _ rfl, tv⟩⟩, rfl⟩, ⟨rfl, rfl, rfl, tv⟩⟩
 ·have h := Ao c2 h
  refine Ab (Aa Ac rfl (BL rfl (qa rfl (Ae ?_))))
  refine Ap rfl (fun c4 => ?_) (fun c4 => ?_)
  ·have h := An c4 h
   refine Ab (Aa Ac rfl (qL A9 AA rfl (qL DO Dv rfl (qf Fe rfl (ql B6 rfl ?_)))))
   obtain ⟨v5, a5, h⟩ := bind_some h
   refine BC (ds0 := [_, _, _]) [8, 2001, 2002, 2003] [] [false, false, false, true] (Qr N p0 v1 p2.fIndex v5 a5) (.p rfl) Yt rfl ⟨rfl, rfl, rfl, tv⟩ rfl rfl (by decide) ⟨rfl, rfl, rfl, rfl, tv⟩ rfl (A2 rfl) tv ⟨(fun _ => rfl), (fun _ => rfl), (fun _ => rfl), (fun h => by cases h), tv⟩ rfl rfl rfl ?_
   refine qs AA rfl (qa rfl (AB (by kernel_rfl) ?_))
   obtain rfl := sj h
   refine Am (sm [(1000, 2001), (1001, 2002), (1002, 2003)] [(6, oD (.ptr 6 0)), (7, bD v5.1)] [(6, .box [.own 1000, .own 1001, .own 1002]), (1000, .vec 1 (v1.fBase.map Al)), (1001, .vec 1 (v1.fNext.map Al)), (1002, .vec 1 (v5.2.map Bj))] rfl rfl) (Az ?_)
   exact ⟨⟨[_, _], ⟨.cellN _ _ _ _ _ _ _ rfl rfl A9 AA rfl rfl (IM rfl), ⟨.tmp _ _ rfl, tv⟩⟩, rfl⟩, ⟨rfl, rfl, rfl, tv⟩⟩
  ·have h := Ao c4 h
   refine Aq (Ab (Aa Ac rfl (qf BJ rfl (ql Bu rfl (qf Fe rfl (ql B6 rfl ?_))))))
   obtain ⟨v6, a6, b6, h⟩ := Ai h
   refine qI AM Dw a6 (Af b6) rfl (qj B6 (Af b6) rfl (qa rfl (Ae (Ab (Ab (Aa Ac rfl (qm rfl (AV rfl (Ae ?_)))))))))
   refine Ap rfl (fun c7 => ?_) (fun c7 => ?_)
   ·have h := An c7 h
    refine Ab (Aa Ac rfl (qL A9 AA rfl (qs AA rfl (qa rfl (Ae ?_)))))
    obtain rfl := sj h
    refine Am (sm [(1000, 2001), (1001, 2002), (1002, 2003)] [(6, oD (.ptr 6 0)), (7, bD false)] [(6, .box [.own 1000, .own 1001, .own 1002]), (1000, .vec 1 (v1.fBase.map Al)), (1001, .vec 1 (v1.fNext.map Al)), (1002, .vec 1 (v1.fHeld.map Bj))] rfl rfl) (Az ?_)
    exact ⟨⟨[_, _], ⟨.cellN _ _ _ _ _ _ _ rfl rfl A9 AA rfl rfl (IM rfl), ⟨.tmp _ _ rfl, tv⟩⟩, rfl⟩, ⟨rfl, rfl, rfl, tv⟩⟩
   ·have h := Ao c7 h
    refine Aq (Ab (Aa Ac rfl (qf BJ rfl (ql Bu rfl (qf Fe rfl (ql B6 rfl ?_))))))
    obtain ⟨v8, a8, b8, h⟩ := Ai h
    refine qI AM Dw a8 (Af b8) rfl ?_
    refine A0 rfl rfl rfl rfl (Af b8) rfl Dw rfl (A7 rfl) (AY Al v1.fNext _ ((-1))) ?_
    refine Ae ?_
    refine AO h (fun v9 => mk [(6, oD (.ptr 6 0)), (8, oD (.ptr 8 0))] [(6, .box [.pure (.nil0), .pure (.nil0), .pure (.nil0)]), (8, .box [.own 2004, .own 2005, .own 2006]), (2004, .vec 1 (v9.map Al)), (2005, .vec 1 ((v1.fNext.set ((p2.fIndex).toNat) ((-1))).map Al)), (2006, .vec 1 (v1.fHeld.map Bj))]) (fun j9 h => ?_) (fun v9 h => ?_)
    ·refine Ab (Aa Ac rfl (qf FX rfl (ql B6 rfl (BL rfl (Ae ?_)))))
     refine Ap rfl (fun c10 => ?_) (fun c10 => ?_)
     ·have h := An c10 h
      refine Aa Ac rfl (qf CY rfl (ql Bu rfl (qf Fe rfl (ql B6 rfl (qm rfl ?_)))))
      obtain ⟨v11, a11, b11, h⟩ := Ai h
      refine qI AM Dw a11 (Af b11) rfl ?_
      refine A0 rfl rfl rfl rfl (Af b11) rfl Dw rfl (A7 rfl) (AY Al v1.fBase _ v6) ?_
      refine Ae ?_
      exact As _ h (sm [(2004, 2001), (2005, 2002), (2006, 2003)] _ _ rfl rfl)
     ·have h := Ao c10 h
      refine Aq ?_
      exact As _ h (sm [(2004, 2001), (2005, 2002), (2006, 2003)] _ _ rfl rfl)
    ·refine Ab (Aa Ac rfl (qL A9 AA rfl (qs AA rfl (qa rfl (Ae ?_)))))
     obtain rfl := sj h
     refine Am (sm [(1000, 2004), (1001, 2005), (1002, 2006)] [(6, oD (.ptr 6 0)), (7, bD true)] [(6, .box [.own 1000, .own 1001, .own 1002]), (1000, .vec 1 (v9.map Al)), (1001, .vec 1 ((v1.fNext.set ((p2.fIndex).toNat) ((-1))).map Al)), (1002, .vec 1 (v1.fHeld.map Bj))] rfl rfl) (Az ?_)
     exact ⟨⟨[_, _], ⟨.cellN _ _ _ _ _ _ _ rfl rfl A9 AA rfl rfl (IM rfl), ⟨.tmp _ _ rfl, tv⟩⟩, rfl⟩, ⟨rfl, rfl, rfl, tv⟩⟩
theorem MR (N : Nat) (p0 : Av) (p1 : List Int) (p2 : List Int) (p3 : List Int) (p4 : List AR) (p5 : List Int) (p6 : List Int) (p7 : List Int) (r : Bool) (h : DL N p0 p1 p2 p3 p4 p5 p6 p7 = some r) : AC Tryz.prog 96 [.e (.agg [iC p0.fKind, iC p0.fIndex, iC p0.fVersion]), oD (.rop [.sl (p1.map Al), .sl (p2.map Al), .sl (p3.map Al), .sl (p4.map Ar)]), oD (.rop [.sl (p5.map Al), .sl (p6.map Al), .sl (p7.map Bj)])] [] (bD r) := by
 unfold DL at h
 refine Au (n := 16) (rs := [.tmp 4]) Tryz.func96 rfl rfl rfl (A7 rfl) (A7 rfl) rfl fun w0 S0 => ?_
 refine Ab (Aa Ac rfl (qb rfl (qa rfl (Ae (Ab (Aa Ac rfl (qK DO Dv rfl (qK A9 AA rfl (qL H6 EG rfl ?_)))))))))
 obtain ⟨v1, a1, h⟩ := bind_some h
 refine AG [2001, 2002, 2003] (Mf N ((Ak.mk p1 p2 p3 p4)) ((Ah.mk p5 p6 p7)) p0 v1 a1) Zu rfl (qm rfl (qx rfl (qx rfl (qz CI rfl (qs AA rfl (qa rfl (Ae (Ab (Aa Ac rfl (qm rfl (BZ rfl (qa rfl (Ae ?_)))))))))))))
 obtain rfl := sj h
 refine Am (sm [] [(4, bD ((!v1.2)))] [] rfl rfl) (Az ?_)
 exact ⟨⟨[_], ⟨.tmp _ _ rfl, tv⟩, rfl⟩, tv⟩
theorem GU (N : Nat) (p0 : List Av) (p1 : Av → Option Bool) (r : Int) (h : B0 N p0 p1 = some r) : AC Tryz.prog 122 [pD (.sl (p0.map A5)), oD (.clo (Bb (M8 true A5) tB p1))] [] (iD r) := by
 unfold B0 at h
 refine Au (n := 19) (rs := [.tmp 4]) Tryz.func122 rfl rfl rfl (A7 rfl) (A7 rfl) rfl fun w0 S0 => ?_
 refine Ab (Aa Ac rfl (qa rfl (Ae (Ab (Ab (Aa Ac rfl (qm rfl (AX EZ rfl (qm rfl (Ae ?_))))))))))
 refine AE (L := Bm N p0 p1) h (fun v1 => mk [(0, pD (.sl (p0.map A5))), (1, oD (.clo (Bb (M8 true A5) tB p1))), (7, iD ((p0.length : Int))), (8, iD v1)] []) (fun v2 => mk [] []) (fun _ _ => rfl) (sm [] _ _ rfl rfl) (fun j1 n1 v1 h => ?_) (fun v2 s h hs => ?_)
 ·unfold Bm at h
  refine Ab (Aa Ac rfl (AV rfl (Ae (Ab ?_))))
  refine Ap rfl (fun c3 => ?_) (fun c3 => ?_)
  ·have h := An c3 h
   refine Aq (Ab (AJ (Ab (Aa Ac rfl (qm rfl (qa rfl (Ae (Ab (Aa Ac rfl (qm rfl (qm rfl (qm rfl ?_))))))))))))
   obtain ⟨v4, a4, b4, h⟩ := Ai h
   refine qi EZ EG a4 (Af b4) rfl (qK H6 EG rfl ?_)
   obtain ⟨v5, a5, h⟩ := bind_some h
   refine CA (ds0 := [_]) (ar := (M8 true A5) v4) (.p rfl) rfl rfl ⟨rfl, tv⟩ rfl rfl rfl (CC (L3 _ _ Oq) a5) ?_
   refine Ae ?_
   refine Ap rfl (fun c6 => ?_) (fun c6 => ?_)
   ·have h := An c6 h
    refine Ab (Aa Ac rfl (qm rfl (qa rfl (Ae ?_))))
    obtain rfl := sj h
    refine Am (sm [] [(4, iD v1)] [] rfl rfl) (Az ?_)
    exact ⟨⟨[_], ⟨.tmp _ _ rfl, tv⟩, rfl⟩, tv⟩
   ·have h := Ao c6 h
    refine Aq (Aa Ac rfl (AP rfl (qm rfl (Ae ?_))))
    exact As _ h (sm [] _ _ rfl rfl)
  ·have h := Ao c3 h
   refine AT ?_
   exact As _ h (sm [] _ _ rfl rfl)
 ·refine Am hs (Ab (Aa Ac rfl (qa rfl (Ae ?_))))
  obtain rfl := sj h
  refine Am (sm [] [(4, iD ((-1)))] [] rfl rfl) (Az ?_)
  exact ⟨⟨[_], ⟨.tmp _ _ rfl, tv⟩, rfl⟩, tv⟩
theorem GQ (N : Nat) (p0 : List Av) (p1 : Av → Option Bool) (r : Nat × (List Av)) (h : BX N p0 p1 = some r) : Bh Tryz.prog 94 [oD (.own 90000), oD (.clo (Bb (M8 true A5) tB p1))] [(.vec 3 (p0.map A5), .vec 3 (r.2.map A5))] [] (oD (.view 90000 3 0 r.1)) := by
 unfold BX at h
 refine Ba (n := 42) (rs := [.tmp 4]) Tryz.func94 rfl rfl rfl (A7 rfl) (A7 rfl) rfl rfl (A7 rfl) rfl (A7 rfl) fun w0 S0 GL => ?_
 refine Am (sm [] [(0, oD (.own 90000)), (1, oD (.clo (Bb (M8 true A5) tB p1)))] [(90000, .vec 3 (p0.map A5))] rfl rfl) (Ab (Aa Ac rfl (qa rfl (Ae (Ab (Aa Ac rfl (qm rfl (qm rfl ?_))))))))
 obtain ⟨v1, a1, h⟩ := bind_some h
 refine DC [] [90000] (GU N p0 p1 v1 a1) Yf Cj rfl (qa rfl (Ae (Ab (Ab (Aa Ac rfl (qm rfl (BL rfl (Ae ?_))))))))
 refine Ap rfl (fun c2 => ?_) (fun c2 => ?_)
 ·have h := An c2 h
  refine Ab (Aa Ac rfl (qm rfl (qa rfl (Ae ?_))))
  obtain rfl := sj h
  refine Am ((PK A5 p0 4 90000 3 rfl rfl).trans (sm [] [(4, oD (.view 90000 3 0 p0.length))] [(90000, .vec 3 (p0.map A5))] rfl rfl)) (Az ?_)
  exact ⟨⟨[_], ⟨.tmp _ _ rfl, tv⟩, rfl⟩, ⟨rfl, tv⟩, tv⟩
 ·have h := Ao c2 h
  refine Aq (Ab (Ab (Aa Ac rfl (qm rfl (AP rfl (qa rfl (Ae ?_)))))))
  refine AE (L := Bc N p1) h (fun v3 => mk [(0, oD (.own 90000)), (1, oD (.clo (Bb (M8 true A5) tB p1))), (5, iD v3.2.1), (6, iD v3.2.2)] [(90000, .vec 3 (v3.1.map A5))]) (fun v4 => mk [(0, oD (.own 90000)), (5, iD v4.2)] [(90000, .vec 3 (v4.1.map A5))]) (fun _ _ => rfl) (sm [] _ _ rfl rfl) (fun j3 n3 v3 h => ?_) (fun v4 s h hs => ?_)
  ·unfold Bc at h
   refine Ab (Ab (Aa Ac rfl (qm rfl (qm rfl (Ex EZ rfl (AV rfl (Ae ?_)))))))
   refine Ap rfl (fun c5 => ?_) (fun c5 => ?_)
   ·have h := An c5 h
    refine Aq ?_
    refine AO h (fun v6 => mk [(0, oD (.own 90000)), (1, oD (.clo (Bb (M8 true A5) tB p1))), (5, iD v6.2), (6, iD v3.2.2)] [(90000, .vec 3 (v6.1.map A5))]) (fun j6 h => ?_) (fun v6 h => ?_)
    ·refine AJ (Ab (Aa Ac rfl (qm rfl (qm rfl ?_))))
     obtain ⟨v7, a7, b7, h⟩ := Ai h
     refine qI EZ EG a7 (Af b7) rfl (qJ H6 EG (Af b7) rfl (qz JI rfl (qs EG rfl (Ae (Ab (Aa Ac rfl (qm rfl (qL H6 EG rfl ?_))))))))
     obtain ⟨v8, a8, h⟩ := bind_some h
     refine CA (ds0 := [_]) (ar := (M8 true A5) v7) (.p rfl) rfl rfl ⟨rfl, tv⟩ rfl rfl rfl (CC (L3 _ _ Oq) a8) ?_
     refine BZ rfl (Ae ?_)
     refine Ap rfl (fun c9 => ?_) (fun c9 => ?_)
     ·have h := An c9 h
      refine Ab (Aa Ac rfl (qm rfl (qm rfl (qL H6 EG rfl ?_))))
      obtain ⟨v10, a10, b10, h⟩ := Ai h
      refine qI EZ EG a10 (Af b10) rfl ?_
      refine A0 rfl rfl rfl rfl (Af b10) rfl EG rfl (A7 rfl) (AY A5 v3.1 _ v7) ?_
      refine Ae (Aa Ac rfl (qm rfl (AP rfl (qa rfl (Ae ?_)))))
      exact As _ h (sm [] _ _ rfl rfl)
     ·have h := Ao c9 h
      refine Aq ?_
      exact As _ h (sm [] _ _ rfl rfl)
    ·refine Aa Ac rfl (qm rfl (AP rfl (qa rfl (Ae ?_))))
     exact As _ h (sm [] _ _ rfl rfl)
   ·have h := Ao c5 h
    refine AT ?_
    exact As _ h (sm [] _ _ rfl rfl)
  ·refine Am hs (Ab (Aa Ac rfl (qm rfl (qm rfl ?_))))
   obtain ⟨c11, h⟩ := AS h
   have w12 : ((v4.2).toNat) + ((v4.1.length - (v4.2).toNat)) ≤ v4.1.length := by have := c11.2.1; have := c11.2.2; omega
   refine Jd A5 v4.1 (.p rfl) rfl (Io A5 _ _ v4.1) rfl EZ EG (.some _ _ _ _ c11.1) (.none _) ⟨rfl, tv⟩ tv c11.2.1 (by rw [Nat.zero_add]; exact c11.2.2) (Nat.zero_add _) rfl ?_
   have w13 : (H5 v4.1 ((v4.2).toNat) (List.replicate ((v4.1.length - (v4.2).toNat)) ((Av.mk 0 0 0)))).length = v4.1.length := Ja (by rw [List.length_replicate]; exact w12)
   refine Rs A5 v4.1 ((Av.mk 0 0 0)) rfl rfl (MV A5 _ _ ((v4.2).toNat) ((v4.1.length - (v4.2).toNat)) v4.1 w12) rfl EZ JI rfl rfl rfl rfl ?_
   refine Ae (Ab (Aa Ac rfl (qm rfl (qm rfl ?_))))
   obtain ⟨c14, h⟩ := AS h
   have w15 : 0 + ((v4.2).toNat) ≤ (H5 v4.1 ((v4.2).toNat) (List.replicate ((v4.1.length - (v4.2).toNat)) ((Av.mk 0 0 0)))).length := by have := c14.2.1; have := c14.2.2; omega
   refine Jd A5 (H5 v4.1 ((v4.2).toNat) (List.replicate ((v4.1.length - (v4.2).toNat)) ((Av.mk 0 0 0)))) (.p rfl) rfl (Io A5 _ _ (H5 v4.1 ((v4.2).toNat) (List.replicate ((v4.1.length - (v4.2).toNat)) ((Av.mk 0 0 0))))) rfl EZ EG (.none _) (.some _ _ _ _ c14.1) tv ⟨rfl, tv⟩ c14.2.1 (by rw [Nat.zero_add]; exact c14.2.2) (Nat.zero_add _) rfl ?_
   refine qa rfl (Ae ?_)
   obtain rfl := sj h
   refine Am (sm [] [(4, oD (.view 90000 3 0 ((v4.2).toNat)))] [(90000, .vec 3 ((H5 v4.1 ((v4.2).toNat) (List.replicate ((v4.1.length - (v4.2).toNat)) ((Av.mk 0 0 0)))).map A5))] rfl rfl) (Az ?_)
   exact ⟨⟨[_], ⟨.tmp _ _ rfl, tv⟩, rfl⟩, ⟨rfl, tv⟩, tv⟩
theorem Jc (N : Nat) (p0 : Ak) (p1 : Ah) (r : (List Av) × Int) (h : DX N p0 p1 = some r) : AC Tryz.prog 48 [.e (.agg [sC (p0.fVersions.map Al), sC (p0.fNow.map Al), sC (p0.fTarget.map Al), sC (p0.fTables.map Ar)]), .e (.agg [sC (p1.fBase.map Al), sC (p1.fNext.map Al), sC (p1.fHeld.map Bj)])] [(3, r.1.map A5)] (.tup [.one (.own 0), .one (iC r.2)]) := by
 unfold DX at h
 refine Au (n := 17) (rs := [.tmp 4, .tmp 5]) Tryz.func48 rfl rfl rfl (A7 rfl) (A7 rfl) rfl fun w0 S0 => ?_
 refine Ab (Aa Ac rfl (qb rfl (qb rfl (qa rfl (qa rfl (Ae (Ab (Ab (Aa Ac rfl (qL DO Dv rfl (qL A9 AA rfl ?_)))))))))))
 obtain ⟨v1, a1, h⟩ := bind_some h
 refine AG [] (In N p0 p1 v1 a1) UC rfl (qa rfl (Ae (Ab (Aa Ac rfl (qm rfl (B3 rfl (Ae ?_)))))))
 refine Ap rfl (fun c2 => ?_) (fun c2 => ?_)
 ·have h := An c2 h
  refine Ab (Aa Ac rfl (qm rfl (qa rfl (qa rfl (Ae ?_)))))
  obtain rfl := sj h
  refine Am ((Br 4 2001 3 rfl rfl rfl).trans (sm [(1000, 2001)] [(4, oD (.own 1000)), (5, iD v1)] [(1000, .vec 3 ((([] : List Av)).map A5))] rfl rfl)) (Az ?_)
  exact ⟨⟨[_, _], ⟨.tmp _ _ rfl, ⟨.tmp _ _ rfl, tv⟩⟩, rfl⟩, ⟨rfl, tv⟩⟩
 ·have h := Ao c2 h
  refine Aq (Ab (Aa Ac rfl (qL DO Dv rfl ?_)))
  obtain ⟨v3, a3, h⟩ := bind_some h
  refine AG [2002] (RJ N p0 v3 a3) aj rfl (DK (L8 2 [.sl (p0.fVersions.map Al), .sl (p0.fNow.map Al), .sl (p0.fTarget.map Al), .sl (p0.fTables.map Ar)] rfl rfl) (DK (L8 3 [.sl (p1.fBase.map Al), .sl (p1.fNext.map Al), .sl (p1.fHeld.map Bj)] rfl rfl) ?_))
  refine LM (capD := [_, _]) (Bb (M8 true A5) tB ((fun (x : Av) => DL N x p0.fVersions p0.fNow p0.fTarget p0.fTables p1.fBase p1.fNext p1.fHeld))) (.p rfl) ZQ rfl ⟨rfl, rfl, tv⟩ rfl (fun ar t ht => by obtain ⟨x, r, rfl, hq, rfl⟩ := H9 ht; exact MR N x p0.fVersions p0.fNow p0.fTarget p0.fTables p1.fBase p1.fNext p1.fHeld r hq) ?_
  obtain ⟨v4, a4, h⟩ := bind_some h
  obtain ⟨c5, h⟩ := AS h
  have w6 : 0 + v4.1 ≤ v4.2.length := by rw [Nat.zero_add]; exact c5
  refine BC (ds0 := [_, _]) [2002] [] [true] (GQ N v3 ((fun (x : Av) => DL N x p0.fVersions p0.fNow p0.fTarget p0.fTables p1.fBase p1.fNext p1.fHeld)) v4 a4) (.p rfl) aa rfl ⟨rfl, rfl, tv⟩ rfl rfl (by decide) ⟨rfl, tv⟩ rfl (A2 rfl) tv ⟨(fun h => by cases h), tv⟩ rfl rfl rfl ?_
  refine DK (T3 A5 v4.2 16 2002 2003 3 v4.1 rfl rfl rfl rfl rfl c5) (qa rfl (qa rfl (Ae ?_)))
  obtain rfl := sj h
  refine Am (sm [(1000, 2003)] [(4, oD (.own 1000)), (5, iD 0)] [(1000, .vec 3 ((v4.2.take v4.1).map A5))] rfl rfl) (Az ?_)
  exact ⟨⟨[_, _], ⟨.tmp _ _ rfl, ⟨.tmp _ _ rfl, tv⟩⟩, rfl⟩, ⟨rfl, tv⟩⟩
theorem P8 (N : Nat) (p0 : Av) (r : Bool) (h : Ha N p0 = some r) : AC Tryz.prog 126 [.e (.agg [iC p0.fKind, iC p0.fIndex, iC p0.fVersion])] [] (bD r) := by
 unfold Ha at h
 refine Au (n := 27) (rs := [.tmp 2]) Tryz.func126 rfl rfl rfl (A7 rfl) (A7 rfl) rfl fun w0 S0 => ?_
 refine Ab (Aa Ac rfl (qb rfl (qa rfl (Ae (Ab ?_)))))
 refine AO h (fun v1 => mk [(1, oD (.ptr 1 0)), (18, bD v1)] [(1, .box [iC p0.fKind, iC p0.fIndex, iC p0.fVersion])]) (fun j1 h => ?_) (fun v1 h => ?_)
 ·refine Aa Ac rfl (qf Fe rfl (ql B6 rfl (qf Hj rfl (ql B6 rfl ?_))))
  refine Zv (.p rfl) rfl rfl ?_
  refine AV rfl (qm rfl ?_)
  refine AF (t := 9) rfl (fun c2 => ?_) (fun c2 => ?_)
  ·have h := An c2 h
   refine qn rfl (qn rfl (qn rfl (qp rfl (qm rfl (qn rfl (qn rfl (qn rfl (qp rfl (Ae ?_)))))))))
   exact As _ h (sm [] _ _ rfl rfl)
  ·have h := Ao c2 h
   refine qf FX rfl (ql B6 rfl (AV rfl (qp rfl (qm rfl ?_))))
   refine AF (t := 14) rfl (fun c3 => ?_) (fun c3 => ?_)
   ·have h := An c3 h
    refine qn rfl (qn rfl (qn rfl (qp rfl (Ae ?_))))
    exact As _ h (sm [] _ _ rfl rfl)
   ·have h := Ao c3 h
    refine qf FX rfl (ql B6 rfl (Ey rfl (qp rfl (Ae ?_))))
    exact As _ h (sm [] _ _ rfl rfl)
 ·refine Ap rfl (fun c4 => ?_) (fun c4 => ?_)
  ·have h := An c4 h
   refine Ab (Aa Ac rfl (qa rfl (Ae ?_)))
   obtain rfl := sj h
   refine Am (sm [] [(2, bD false)] [] rfl rfl) (Az ?_)
   exact ⟨⟨[_], ⟨.tmp _ _ rfl, tv⟩, rfl⟩, tv⟩
  ·have h := Ao c4 h
   refine Aq ?_
   refine AO h (fun v5 => mk [(2, bD v5)] []) (fun j5 h => ?_) (fun v5 h => ?_)
   ·refine Aa Ac rfl (qf FX rfl (ql B6 rfl (BL rfl (qm rfl ?_))))
    refine AF (t := 22) rfl (fun c6 => ?_) (fun c6 => ?_)
    ·have h := An c6 h
     refine qn rfl (qn rfl (qn rfl (qp rfl (qa rfl (Ae ?_)))))
     exact As _ h (sm [] _ _ rfl rfl)
    ·have h := Ao c6 h
     refine qf Hj rfl (ql B6 rfl (BL rfl (qp rfl (qa rfl (Ae ?_)))))
     exact As _ h (sm [] _ _ rfl rfl)
   ·obtain rfl := sj h
    refine Am (sm [] [(2, bD v5)] [] rfl rfl) (Az ?_)
    exact ⟨⟨[_], ⟨.tmp _ _ rfl, tv⟩, rfl⟩, tv⟩
theorem OQ (N : Nat) (p0 : Ak) (p1 : Av) (r : Bool) (h : GE N p0 p1 = some r) : AC Tryz.prog 127 [.e (.agg [sC (p0.fVersions.map Al), sC (p0.fNow.map Al), sC (p0.fTarget.map Al), sC (p0.fTables.map Ar)]), .e (.agg [iC p1.fKind, iC p1.fIndex, iC p1.fVersion])] [] (bD r) := by
 unfold GE at h
 refine Au (n := 36) (rs := [.tmp 4]) Tryz.func127 rfl rfl rfl (A7 rfl) (A7 rfl) rfl fun w0 S0 => ?_
 refine Ab (Aa Ac rfl (qb rfl (qb rfl (qa rfl (Ae (Ab (Ab (Aa Ac rfl (qf FX rfl (ql B6 rfl (BL rfl (Ae ?_))))))))))))
 refine Ap rfl (fun c1 => ?_) (fun c1 => ?_)
 ·have h := An c1 h
  refine Ab (Aa Ac rfl (qf Fe rfl (ql B6 rfl (qf Df rfl (ql H0 rfl (AX Ez rfl (AV rfl (qa rfl (Ae ?_)))))))))
  obtain rfl := sj h
  refine Am (sm [] [(4, bD ((decide (p1.fIndex < (p0.fTables.length : Int)))))] [] rfl rfl) (Az ?_)
  exact ⟨⟨[_], ⟨.tmp _ _ rfl, tv⟩, rfl⟩, tv⟩
 ·have h := Ao c1 h
  refine Aq ?_
  refine AO h (fun v2 => mk [(4, bD v2)] []) (fun j2 h => ?_) (fun v2 h => ?_)
  ·refine Aa Ac rfl (qf Fe rfl (ql B6 rfl (qf BH rfl (ql Bu rfl (AX AM rfl (AV rfl (qm rfl ?_)))))))
   refine AF (t := 20) rfl (fun c3 => ?_) (fun c3 => ?_)
   ·have h := An c3 h
    refine qf FX rfl (ql B6 rfl (B3 rfl (qm rfl ?_)))
    refine AF (t := 24) rfl (fun c4 => ?_) (fun c4 => ?_)
    ·have h := An c4 h
     refine qn rfl (qn rfl (qn rfl (qn rfl (qn rfl (qn rfl (qn rfl (qn rfl (qn rfl (qp rfl (qp rfl (qa rfl (AB (by kernel_rfl) ?_))))))))))))
     exact As _ h (sm [] _ _ rfl rfl)
    ·have h := Ao c4 h
     refine qf Hj rfl (ql B6 rfl (qf BH rfl (ql Bu rfl (qf Fe rfl (ql B6 rfl ?_)))))
     obtain ⟨v5, a5, b5, h⟩ := Ai h
     refine qi AM Dw a5 (Af b5) rfl (qk B6 rfl (AV rfl (qp rfl (qp rfl (qa rfl (AB (by kernel_rfl) ?_))))))
     exact As _ h (sm [] _ _ rfl rfl)
   ·have h := Ao c3 h
    refine qn rfl (qn rfl (qn rfl (qn rfl (qu rfl (qu rfl (qu rfl (qu rfl (qu rfl (qu rfl (qu rfl (qu rfl (qu rfl (qn rfl (qp rfl (qa rfl (AB (by kernel_rfl) ?_))))))))))))))))
    exact As _ h (sm [] _ _ rfl rfl)
  ·obtain rfl := sj h
   refine Am (sm [] [(4, bD v2)] [] rfl rfl) (Az ?_)
   exact ⟨⟨[_], ⟨.tmp _ _ rfl, tv⟩, rfl⟩, tv⟩
theorem PQ (N : Nat) (p0 : Ak) (p1 : Ah) (p2 : Av) (r : Ah × Int) (h : Hg N p0 p1 p2 = some r) : AC Tryz.prog 98 [.e (.agg [sC (p0.fVersions.map Al), sC (p0.fNow.map Al), sC (p0.fTarget.map Al), sC (p0.fTables.map Ar)]), .e (.agg [sC (p1.fBase.map Al), sC (p1.fNext.map Al), sC (p1.fHeld.map Bj)]), .e (.agg [iC p2.fKind, iC p2.fIndex, iC p2.fVersion])] [(1, r.1.fBase.map Al), (1, r.1.fNext.map Al), (1, r.1.fHeld.map Bj)] (.tup [.agg [.own 0, .own 1, .own 2], .one (iC r.2)]) := by
 unfold Hg at h
 refine Au (n := 32) (rs := [.cell 6 46, .tmp 7]) Tryz.func98 rfl rfl rfl (A7 rfl) (A7 rfl) rfl fun w0 S0 => ?_
 refine Ab (Aa Ac rfl (qb rfl (qb rfl (qb rfl (qz CI rfl (qa rfl (Ae (Ab (AJ (Ab (Aa Ac rfl (qL H6 EG rfl ?_))))))))))))
 obtain ⟨v1, a1, h⟩ := bind_some h
 refine AG [] (P8 N p2 v1 a1) Zg rfl (BZ rfl (qa rfl (Ae ?_)))
 refine Ap rfl (fun c2 => ?_) (fun c2 => ?_)
 ·have h := An c2 h
  refine Ab (Aa Ac rfl (Bw CI G5 rfl (qs AA rfl (qa rfl (Ae ?_)))))
  obtain rfl := sj h
  refine Am ((AI 6 0 2001 1 _ rfl rfl rfl rfl).trans ((AI 6 1 2002 1 _ rfl rfl rfl rfl).trans ((AI 6 2 2003 1 _ rfl rfl rfl rfl).trans (sm [(1000, 2001), (1001, 2002), (1002, 2003)] [(6, oD (.ptr 6 0)), (7, iD 1)] [(6, .box [.own 1000, .own 1001, .own 1002]), (1000, .vec 1 ((([] : List Int)).map Al)), (1001, .vec 1 ((([] : List Int)).map Al)), (1002, .vec 1 ((([] : List Int)).map Bj))] rfl rfl)))) (Az ?_)
  exact ⟨⟨[_, _], ⟨.cellN _ _ _ _ _ _ _ rfl rfl A9 AA rfl rfl (IM rfl), ⟨.tmp _ _ rfl, tv⟩⟩, rfl⟩, ⟨rfl, rfl, rfl, tv⟩⟩
 ·have h := Ao c2 h
  refine Ab (Aa Ac rfl (qL DO Dv rfl (qL H6 EG rfl ?_)))
  obtain ⟨v3, a3, h⟩ := bind_some h
  refine AG [] (OQ N p0 p2 v3 a3) X6 rfl (BZ rfl (qa rfl (Ae ?_)))
  refine Ap rfl (fun c4 => ?_) (fun c4 => ?_)
  ·have h := An c4 h
   refine Ab (Aa Ac rfl (Bw CI G5 rfl (qs AA rfl (qa rfl (Ae ?_)))))
   obtain rfl := sj h
   refine Am ((AI 6 0 2004 1 _ rfl rfl rfl rfl).trans ((AI 6 1 2005 1 _ rfl rfl rfl rfl).trans ((AI 6 2 2006 1 _ rfl rfl rfl rfl).trans (sm [(1000, 2004), (1001, 2005), (1002, 2006)] [(6, oD (.ptr 6 0)), (7, iD 4)] [(6, .box [.own 1000, .own 1001, .own 1002]), (1000, .vec 1 ((([] : List Int)).map Al)), (1001, .vec 1 ((([] : List Int)).map Al)), (1002, .vec 1 ((([] : List Int)).map Bj))] rfl rfl)))) (Az ?_)
   exact ⟨⟨[_, _], ⟨.cellN _ _ _ _ _ _ _ rfl rfl A9 AA rfl rfl (IM rfl), ⟨.tmp _ _ rfl, tv⟩⟩, rfl⟩, ⟨rfl, rfl, rfl, tv⟩⟩
  ·have h := Ao c4 h
   refine Aq (Ab (Aa Ac rfl (qL DO Dv rfl (qL A9 AA rfl (qL H6 EG rfl ?_)))))
   obtain ⟨v5, a5, h⟩ := bind_some h
   refine AG [2007, 2008, 2009] (Mf N p0 p1 p2 v5 a5) Zu rfl (qm rfl (qx rfl (qx rfl (qz CI rfl (qs AA rfl (qa rfl (Ae (Ab (Ab (Aa Ac rfl (qm rfl (BZ rfl (Ae ?_)))))))))))))
   refine Ap rfl (fun c6 => ?_) (fun c6 => ?_)
   ·have h := An c6 h
    refine Ab (Aa Ac rfl (Bw CI G5 rfl (qs AA rfl (qa rfl (Ae ?_)))))
    obtain rfl := sj h
    refine Am ((AI 6 0 2010 1 _ rfl rfl rfl rfl).trans ((AI 6 1 2011 1 _ rfl rfl rfl rfl).trans ((AI 6 2 2012 1 _ rfl rfl rfl rfl).trans (sm [(1000, 2010), (1001, 2011), (1002, 2012)] [(6, oD (.ptr 6 0)), (7, iD 11)] [(6, .box [.own 1000, .own 1001, .own 1002]), (1000, .vec 1 ((([] : List Int)).map Al)), (1001, .vec 1 ((([] : List Int)).map Al)), (1002, .vec 1 ((([] : List Int)).map Bj))] rfl rfl)))) (Az ?_)
    exact ⟨⟨[_, _], ⟨.cellN _ _ _ _ _ _ _ rfl rfl A9 AA rfl rfl (IM rfl), ⟨.tmp _ _ rfl, tv⟩⟩, rfl⟩, ⟨rfl, rfl, rfl, tv⟩⟩
   ·have h := Ao c6 h
    refine Aq (Ab (Aa Ac rfl (qL A9 AA rfl (qs AA rfl (qa rfl (Ae ?_))))))
    obtain rfl := sj h
    refine Am (sm [(1000, 2007), (1001, 2008), (1002, 2009)] [(6, oD (.ptr 6 0)), (7, iD 0)] [(6, .box [.own 1000, .own 1001, .own 1002]), (1000, .vec 1 (v5.1.fBase.map Al)), (1001, .vec 1 (v5.1.fNext.map Al)), (1002, .vec 1 (v5.1.fHeld.map Bj))] rfl rfl) (Az ?_)
    exact ⟨⟨[_, _], ⟨.cellN _ _ _ _ _ _ _ rfl rfl A9 AA rfl rfl (IM rfl), ⟨.tmp _ _ rfl, tv⟩⟩, rfl⟩, ⟨rfl, rfl, rfl, tv⟩⟩
theorem Kk (N : Nat) (p0 : Ak) (p1 : Ah) (p2 : Av) (r : Ah × Int) (h : FA N p0 p1 p2 = some r) : AC Tryz.prog 49 [.e (.agg [sC (p0.fVersions.map Al), sC (p0.fNow.map Al), sC (p0.fTarget.map Al), sC (p0.fTables.map Ar)]), .e (.agg [sC (p1.fBase.map Al), sC (p1.fNext.map Al), sC (p1.fHeld.map Bj)]), .e (.agg [iC p2.fKind, iC p2.fIndex, iC p2.fVersion])] [(1, r.1.fBase.map Al), (1, r.1.fNext.map Al), (1, r.1.fHeld.map Bj)] (.tup [.agg [.own 0, .own 1, .own 2], .one (iC r.2)]) := by
 unfold FA at h
 refine Au (n := 22) (rs := [.cell 6 46, .tmp 7]) Tryz.func49 rfl rfl rfl (A7 rfl) (A7 rfl) rfl fun w0 S0 => ?_
 refine Ab (Aa Ac rfl (qb rfl (qb rfl (qb rfl (qz CI rfl (qa rfl (Ae (Ab (Ab (Aa Ac rfl (qL DO Dv rfl (qL A9 AA rfl ?_))))))))))))
 obtain ⟨v1, a1, h⟩ := bind_some h
 refine AG [] (In N p0 p1 v1 a1) UC rfl (qa rfl (Ae (Ab (Aa Ac rfl (qm rfl (B3 rfl (Ae ?_)))))))
 refine Ap rfl (fun c2 => ?_) (fun c2 => ?_)
 ·have h := An c2 h
  refine Ab (Aa Ac rfl (Bw CI G5 rfl (qm rfl (qs AA rfl (qa rfl (Ae ?_))))))
  obtain rfl := sj h
  refine Am ((AI 6 0 2001 1 _ rfl rfl rfl rfl).trans ((AI 6 1 2002 1 _ rfl rfl rfl rfl).trans ((AI 6 2 2003 1 _ rfl rfl rfl rfl).trans (sm [(1000, 2001), (1001, 2002), (1002, 2003)] [(6, oD (.ptr 6 0)), (7, iD v1)] [(6, .box [.own 1000, .own 1001, .own 1002]), (1000, .vec 1 ((([] : List Int)).map Al)), (1001, .vec 1 ((([] : List Int)).map Al)), (1002, .vec 1 ((([] : List Int)).map Bj))] rfl rfl)))) (Az ?_)
  exact ⟨⟨[_, _], ⟨.cellN _ _ _ _ _ _ _ rfl rfl A9 AA rfl rfl (IM rfl), ⟨.tmp _ _ rfl, tv⟩⟩, rfl⟩, ⟨rfl, rfl, rfl, tv⟩⟩
 ·have h := Ao c2 h
  refine Aq (Ab (Aa Ac rfl (qL DO Dv rfl (qL A9 AA rfl (qL H6 EG rfl ?_)))))
  obtain ⟨v3, a3, h⟩ := bind_some h
  refine AG [2004, 2005, 2006] (PQ N p0 p1 p2 v3 a3) aG rfl (qx rfl (qx rfl (qs AA rfl (qa rfl (Ae ?_)))))
  obtain rfl := sj h
  refine Am (sm [(1000, 2004), (1001, 2005), (1002, 2006)] [(6, oD (.ptr 6 0)), (7, iD v3.2)] [(6, .box [.own 1000, .own 1001, .own 1002]), (1000, .vec 1 (v3.1.fBase.map Al)), (1001, .vec 1 (v3.1.fNext.map Al)), (1002, .vec 1 (v3.1.fHeld.map Bj))] rfl rfl) (Az ?_)
  exact ⟨⟨[_, _], ⟨.cellN _ _ _ _ _ _ _ rfl rfl A9 AA rfl rfl (IM rfl), ⟨.tmp _ _ rfl, tv⟩⟩, rfl⟩, ⟨rfl, rfl, rfl, tv⟩⟩
theorem Qv (N : Nat) (p0 : Ak) (p1 : Ah) (r : (List Av) × (List Ah)) (h : JL N p0 p1 = some r) : AC Tryz.prog 85 [.e (.agg [sC (p0.fVersions.map Al), sC (p0.fNow.map Al), sC (p0.fTarget.map Al), sC (p0.fTables.map Ar)]), .e (.agg [sC (p1.fBase.map Al), sC (p1.fNext.map Al), sC (p1.fHeld.map Bj)])] [(3, r.1.map A5), (3, r.2.map Aj)] (.tup [.one (.own 0), .one (.own 1)]) := by
 unfold JL at h
 refine Au (n := 55) (rs := [.tmp 4, .tmp 5]) Tryz.func85 rfl rfl rfl (A7 rfl) (A7 rfl) rfl fun w0 S0 => ?_
 refine Ab (Aa Ac rfl (qb rfl (qb rfl (qa rfl (qa rfl (Ae (Ab (Aa Ac rfl (qa rfl (Ae (Ab (Aa Ac rfl (qa rfl (Ae (Ab (Aa Ac rfl (qL DO Dv rfl (qL A9 AA rfl ?_))))))))))))))))))
 obtain ⟨v1, a1, h⟩ := bind_some h
 refine AG [2001] (Jc N p0 p1 v1 a1) Xc rfl (qm rfl (qx rfl (qx rfl (qa rfl (qa rfl (Ae (Ab (Ab (Aa Ac rfl (qm rfl (Ex EZ rfl (qm rfl (Ae ?_)))))))))))))
 refine AE (L := GO N p0 p1 v1) h (fun v2 => mk [(2, oD (.ptr 2 0)), (3, oD (.ptr 3 0)), (6, oD (.own 2002)), (7, oD (.own 2003)), (22, oD (.own 2004)), (23, iD ((v1.1.length : Int))), (24, iD v2.2.2)] [(2, .box [sC (p0.fVersions.map Al), sC (p0.fNow.map Al), sC (p0.fTarget.map Al), sC (p0.fTables.map Ar)]), (3, .box [sC (p1.fBase.map Al), sC (p1.fNext.map Al), sC (p1.fHeld.map Bj)]), (2002, .vec 3 (v2.1.map A5)), (2003, .vec 3 (v2.2.1.map Aj)), (2004, .vec 3 (v1.1.map A5))]) (fun v3 => mk [(6, oD (.own 2005)), (7, oD (.own 2006))] [(2005, .vec 3 (v3.1.map A5)), (2006, .vec 3 (v3.2.map Aj))]) (fun _ _ => rfl) ((Br 6 2013 3 rfl rfl rfl).trans ((Br 7 2014 3 rfl rfl rfl).trans (sm [(2002, 2013), (2003, 2014), (2004, 2001)] _ _ rfl rfl))) (fun j2 n2 v2 h => ?_) (fun v3 s h hs => ?_)
 ·unfold GO at h
  refine Ab (Aa Ac rfl (AV rfl (Ae (Ab ?_))))
  refine Ap rfl (fun c4 => ?_) (fun c4 => ?_)
  ·have h := An c4 h
   refine Aq ?_
   refine AO h (fun v5 => mk [(2, oD (.ptr 2 0)), (3, oD (.ptr 3 0)), (6, oD (.own 2007)), (7, oD (.own 2008)), (22, oD (.own 2009)), (23, iD ((v1.1.length : Int))), (24, iD v2.2.2)] [(2, .box [sC (p0.fVersions.map Al), sC (p0.fNow.map Al), sC (p0.fTarget.map Al), sC (p0.fTables.map Ar)]), (3, .box [sC (p1.fBase.map Al), sC (p1.fNext.map Al), sC (p1.fHeld.map Bj)]), (2007, .vec 3 (v5.1.map A5)), (2008, .vec 3 (v5.2.map Aj)), (2009, .vec 3 (v1.1.map A5))]) (fun j5 h => ?_) (fun v5 h => ?_)
   ·refine AJ (Ab (Aa Ac rfl ?_))
    obtain ⟨v6, a6, b6, h⟩ := Ai h
    refine qI EZ EG a6 (Af b6) rfl (qJ H6 EG (Af b6) rfl (qz JI rfl (qs EG rfl (Ae (Ab (Aa Ac rfl (qL DO Dv rfl (qL A9 AA rfl (qL H6 EG rfl ?_)))))))))
    obtain ⟨v7, a7, h⟩ := bind_some h
    refine AG [2010, 2011, 2012] (Kk N p0 p1 v6 v7 a7) Xo rfl (qm rfl (qx rfl (qx rfl (qz CI rfl (qs AA rfl (qa rfl (Ae (Ab (Ab (Aa Ac rfl (qm rfl (B3 rfl (Ae ?_)))))))))))))
    refine Ap rfl (fun c8 => ?_) (fun c8 => ?_)
    ·have h := An c8 h
     refine AT ?_
     exact As _ h (sm [(2007, 2002), (2008, 2003), (2009, 2004)] _ _ rfl rfl)
    ·have h := Ao c8 h
     refine Aq (Ab (Aa Ac rfl (qL DO Dv rfl (qL A9 AA rfl ?_))))
     obtain ⟨v9, a9, h⟩ := bind_some h
     refine DC [] [2010, 2011, 2012] (HO N p0 v7.1 v9 a9) UQ Cj rfl (qm rfl (qx rfl (qx rfl (qa rfl (qa rfl (Ae (Ab (Aa Ac rfl (qm rfl (Ae ?_))))))))))
     refine Ap rfl (fun c10 => ?_) (fun c10 => ?_)
     ·have h := An c10 h
      refine Am (Bq 2010 _ _ rfl rfl) (Am (Bq 2011 _ _ rfl rfl) (Am (Bq 2012 _ _ rfl rfl) (Aa Ac rfl (qm rfl (qL H6 EG rfl (D8 EZ EG JI rfl ?_))))))
      obtain ⟨c11, h⟩ := AS h
      refine Dt (f := A5) EZ EZ EG Rq JI c11 rfl (qm rfl (qL A9 AA rfl (D8 A3 AA CI rfl ?_)))
      obtain ⟨c12, h⟩ := AS h
      refine Dt (f := Aj) A3 A3 AA Q0 CI c12 rfl (qa rfl (qa rfl (AB (by kernel_rfl) ?_)))
      exact As _ h (sm [(2007, 47), (2008, 51), (2009, 2004)] _ _ rfl rfl)
     ·have h := Ao c10 h
      refine Aq ?_
      exact As _ h (sm [(2007, 2002), (2008, 2003), (2009, 2004)] _ _ rfl rfl)
   ·refine Aa Ac rfl (AP rfl (qm rfl (Ae ?_)))
    exact As _ h (sm [(2002, 2007), (2003, 2008), (2004, 2009)] _ _ rfl rfl)
  ·have h := Ao c4 h
   refine AT ?_
   exact As _ h (sm [(2005, 2002), (2006, 2003)] _ _ rfl rfl)
 ·refine Am hs (Ab (Aa Ac rfl (qm rfl (qm rfl (qa rfl (qa rfl (Ae ?_)))))))
  obtain rfl := sj h
  refine Am (sm [(1000, 2005), (1001, 2006)] [(4, oD (.own 1000)), (5, oD (.own 1001))] [(1000, .vec 3 (v3.1.map A5)), (1001, .vec 3 (v3.2.map Aj))] rfl rfl) (Az ?_)
  exact ⟨⟨[_, _], ⟨.tmp _ _ rfl, ⟨.tmp _ _ rfl, tv⟩⟩, rfl⟩, ⟨rfl, rfl, tv⟩⟩
theorem MB (N : Nat) (p0 : Int) (r : Int) (h : Ho N p0 = some r) : AC Tryz.prog 140 [pD (.val (.int .u32 p0))] [] (iD r) := by
 unfold Ho at h
 refine Au (n := 19) (rs := [.tmp 2]) Tryz.func140 rfl rfl rfl (A7 rfl) (A7 rfl) rfl fun w0 S0 => ?_
 refine Ab (Aa Ac rfl (qa rfl (Ae ?_)))
 refine AO h (fun v1 => mk [(0, pD (.val (.int .u32 v1.1))), (2, iD v1.2)] []) (fun j1 h => ?_) (fun v1 h => ?_)
 ·refine Ab (Aa Ac rfl (qm rfl (Cz rfl (Ae ?_))))
  refine Ap rfl (fun c2 => ?_) (fun c2 => ?_)
  ·have h := An c2 h
   refine Ab (Aa Ac rfl (qm rfl (Hz rfl (by decide) (qa rfl (Ae (Aa Ac rfl (qa rfl (Ae ?_))))))))
   exact As _ h (sm [] _ _ rfl rfl)
  ·have h := Ao c2 h
   refine Aq ?_
   exact As _ h (sm [] _ _ rfl rfl)
 ·refine AO h (fun v3 => mk [(0, pD (.val (.int .u32 v3.1))), (2, iD v3.2)] []) (fun j3 h => ?_) (fun v3 h => ?_)
  ·refine Ab (Aa Ac rfl (qm rfl (Cz rfl (Ae ?_))))
   refine Ap rfl (fun c4 => ?_) (fun c4 => ?_)
   ·have h := An c4 h
    refine Ab (Aa Ac rfl (qm rfl (Hz rfl (by decide) (qa rfl (Ae (Aa Ac rfl (qm rfl (AP rfl (qa rfl (Ae ?_))))))))))
    exact As _ h (sm [] _ _ rfl rfl)
   ·have h := Ao c4 h
    refine Aq ?_
    exact As _ h (sm [] _ _ rfl rfl)
  ·refine Ab (Aa Ac rfl (qm rfl (qm rfl (Gq RE ZB rfl ?_))))
   obtain ⟨v5, a5, h⟩ := bind_some h
   refine MT (.p rfl) rfl rfl Wb a5 ?_
   refine Gq Wk SY rfl (AP rfl (qa rfl (Ae ?_)))
   obtain rfl := sj h
   refine Am (sm [] [(2, iD ((wI .i64 (v3.2 + (wI .i64 v5)))))] [] rfl rfl) (Az ?_)
   exact ⟨⟨[_], ⟨.tmp _ _ rfl, tv⟩, rfl⟩, tv⟩
theorem Ml (N : Nat) (p0 : Int) (r : Int) (h : Ht N p0 = some r) : AC Tryz.prog 141 [pD (.val (.int .u64 p0))] [] (iD r) := by
 unfold Ht at h
 refine Au (n := 25) (rs := [.tmp 2]) Tryz.func141 rfl rfl rfl (A7 rfl) (A7 rfl) rfl fun w0 S0 => ?_
 refine Ab (Aa Ac rfl (qa rfl (Ae ?_)))
 refine AO h (fun v1 => mk [(0, pD (.val (.int .u64 v1.1))), (2, iD v1.2)] []) (fun j1 h => ?_) (fun v1 h => ?_)
 ·refine Ab (Aa Ac rfl (qm rfl (Cz rfl (Ae ?_))))
  refine Ap rfl (fun c2 => ?_) (fun c2 => ?_)
  ·have h := An c2 h
   refine Ab (Aa Ac rfl (qm rfl (Hz rfl (by decide) (qa rfl (Ae (Aa Ac rfl (qa rfl (Ae ?_))))))))
   exact As _ h (sm [] _ _ rfl rfl)
  ·have h := Ao c2 h
   refine Aq ?_
   exact As _ h (sm [] _ _ rfl rfl)
 ·refine AO h (fun v3 => mk [(0, pD (.val (.int .u64 v3.1))), (2, iD v3.2)] []) (fun j3 h => ?_) (fun v3 h => ?_)
  ·refine Ab (Aa Ac rfl (qm rfl (Cz rfl (Ae ?_))))
   refine Ap rfl (fun c4 => ?_) (fun c4 => ?_)
   ·have h := An c4 h
    refine Ab (Aa Ac rfl (qm rfl (Hz rfl (by decide) (qa rfl (Ae (Aa Ac rfl (qm rfl (AP rfl (qa rfl (Ae ?_))))))))))
    exact As _ h (sm [] _ _ rfl rfl)
   ·have h := Ao c4 h
    refine Aq ?_
    exact As _ h (sm [] _ _ rfl rfl)
  ·refine AO h (fun v5 => mk [(0, pD (.val (.int .u64 v5.1))), (2, iD v5.2)] []) (fun j5 h => ?_) (fun v5 h => ?_)
   ·refine Ab (Aa Ac rfl (qm rfl (Cz rfl (Ae ?_))))
    refine Ap rfl (fun c6 => ?_) (fun c6 => ?_)
    ·have h := An c6 h
     refine Ab (Aa Ac rfl (qm rfl (Hz rfl (by decide) (qa rfl (Ae (Aa Ac rfl (qm rfl (AP rfl (qa rfl (Ae ?_))))))))))
     exact As _ h (sm [] _ _ rfl rfl)
    ·have h := Ao c6 h
     refine Aq ?_
     exact As _ h (sm [] _ _ rfl rfl)
   ·refine Ab (Aa Ac rfl (qm rfl (qm rfl (Gq T9 ZB rfl ?_))))
    obtain ⟨v7, a7, h⟩ := bind_some h
    refine MT (.p rfl) rfl rfl Wb a7 ?_
    refine Gq Wk SY rfl (AP rfl (qa rfl (Ae ?_)))
    obtain rfl := sj h
    refine Am (sm [] [(2, iD ((wI .i64 (v5.2 + (wI .i64 v7)))))] [] rfl rfl) (Az ?_)
    exact ⟨⟨[_], ⟨.tmp _ _ rfl, tv⟩, rfl⟩, tv⟩
theorem Iu (N : Nat) (p0 : Int) (r : Int) (h : DB N p0 = some r) : AC Tryz.prog 105 [pD (.val (.int .u64 p0))] [] (iD r) := by
 unfold DB at h
 refine Au (n := 8) (rs := [.tmp 2]) Tryz.func105 rfl rfl rfl (A7 rfl) (A7 rfl) rfl fun w0 S0 => ?_
 refine Ab (Aa Ac rfl (qa rfl (Ae (Ab ?_))))
 refine Ap rfl (fun c1 => ?_) (fun c1 => ?_)
 ·have h := An c1 h
  refine Ab (Aa Ac rfl (qm rfl (Gq Ot Q3 rfl ?_)))
  obtain ⟨v2, a2, h⟩ := bind_some h
  refine AG [] (MB N ((wI .u32 p0)) v2 a2) YL rfl (qa rfl (Ae ?_))
  obtain rfl := sj h
  refine Am (sm [] [(2, iD v2)] [] rfl rfl) (Az ?_)
  exact ⟨⟨[_], ⟨.tmp _ _ rfl, tv⟩, rfl⟩, tv⟩
 ·have h := Ao c1 h
  refine Aq (Ab (Aa Ac rfl (qm rfl ?_)))
  obtain ⟨v3, a3, h⟩ := bind_some h
  refine AG [] (Ml N p0 v3 a3) Zk rfl (qa rfl (Ae ?_))
  obtain rfl := sj h
  refine Am (sm [] [(2, iD v3)] [] rfl rfl) (Az ?_)
  exact ⟨⟨[_], ⟨.tmp _ _ rfl, tv⟩, rfl⟩, tv⟩
theorem GG (N : Nat) (p0 : List Ah) (p1 : Int) (p2 : Int) (p3 : (Ah × Ah) → Option Int) (r : (List Ah)) (h : Gs.insertionSort N p0 p1 p2 p3 = some r) : Bh Tryz.prog 145 [oD (.own 90000), iD p1, iD p2, oD (.clo (Bb (Cm true Aj true Aj) Bg p3))] [(.vec 3 (p0.map Aj), .vec 3 (r.map Aj))] [] (.tup []) := by
 unfold Gs.insertionSort at h
 refine Ba (n := 53) (rs := []) Tryz.func145 rfl rfl rfl (A7 rfl) (A7 rfl) rfl rfl (A7 rfl) rfl (A7 rfl) fun w0 S0 GL => Jy ?_
 refine Am (sm [] [(0, oD (.own 90000)), (1, iD p1), (2, iD p2), (3, oD (.clo (Bb (Cm true Aj true Aj) Bg p3)))] [(90000, .vec 3 (p0.map Aj))] rfl rfl) (Ab (Aa Ac rfl (qm rfl (AP rfl (qa rfl (Ae ?_))))))
 refine AE (L := Gs.insertionSort_L1 N p1 p2 p3) h (fun v1 => mk [(0, oD (.own 90000)), (1, iD p1), (2, iD p2), (3, oD (.clo (Bb (Cm true Aj true Aj) Bg p3))), (8, iD v1.2)] [(90000, .vec 3 (v1.1.map Aj))]) (fun v2 => mk [] [(90000, .vec 3 (v2.map Aj))]) (fun _ _ => rfl) (sm [] _ _ rfl rfl) (fun j1 n1 v1 h => ?_) (fun v2 s h hs => ?_)
 ·unfold Gs.insertionSort_L1 at h
  refine Ab (Ab (Aa Ac rfl (qm rfl (qm rfl (AV rfl (Ae ?_))))))
  refine Ap rfl (fun c3 => ?_) (fun c3 => ?_)
  ·have h := An c3 h
   refine Aq (Ab (AJ (Ab (Aa Ac rfl (qm rfl (qa rfl (Ae ?_)))))))
   refine AE (L := Gs.insertionSort_L4 N p1 p3) h (fun v4 => mk [(0, oD (.own 90000)), (1, iD p1), (2, iD p2), (3, oD (.clo (Bb (Cm true Aj true Aj) Bg p3))), (8, iD v1.2), (9, iD v4.2)] [(90000, .vec 3 (v4.1.map Aj))]) (fun v5 => mk [(0, oD (.own 90000)), (1, iD p1), (2, iD p2), (3, oD (.clo (Bb (Cm true Aj true Aj) Bg p3))), (8, iD v1.2)] [(90000, .vec 3 (v5.map Aj))]) (fun _ _ => rfl) (sm [] _ _ rfl rfl) (fun j4 n4 v4 h => ?_) (fun v5 s h hs => ?_)
   ·unfold Gs.insertionSort_L4 at h
    refine Ab ?_
    refine AO h (fun v6 => mk [(0, oD (.own 90000)), (1, iD p1), (2, iD p2), (3, oD (.clo (Bb (Cm true Aj true Aj) Bg p3))), (8, iD v1.2), (9, iD v4.2), (34, bD v6)] [(90000, .vec 3 (v4.1.map Aj))]) (fun j6 h => ?_) (fun v6 h => ?_)
    ·refine Aa Ac rfl (qm rfl (qm rfl (Ey rfl (qm rfl ?_))))
     refine AF (t := 21) rfl (fun c7 => ?_) (fun c7 => ?_)
     ·have h := An c7 h
      refine qm rfl (qm rfl (qm rfl ?_))
      obtain ⟨v8, a8, b8, h⟩ := Ai h
      refine qI A3 AA a8 (Af b8) rfl (qJ A9 AA (Af b8) rfl (qm rfl (qm rfl (Bk rfl ?_))))
      obtain ⟨v9, a9, b9, h⟩ := Ai h
      refine qI A3 AA a9 (Af b9) rfl (qJ A9 AA (Af b9) rfl ?_)
      obtain ⟨v10, a10, h⟩ := bind_some h
      refine CA (ds0 := [_, _]) (ar := (Cm true Aj true Aj) ((v8, v9))) (.g rfl rfl) rfl rfl ⟨rfl, rfl, tv⟩ rfl rfl rfl (CC (C7 _ _ _ _ BI BI) a10) ?_
      refine AV rfl (qp rfl (AB (by kernel_rfl) ?_))
      exact As _ h (sm [] _ _ rfl rfl)
     ·have h := Ao c7 h
      refine qn rfl (qn rfl (qn rfl (qn rfl (qn rfl (qn rfl (qn rfl (qn rfl (qn rfl (qn rfl (qn rfl (qn rfl (qp rfl (AB (by kernel_rfl) ?_)))))))))))))
      exact As _ h (sm [] _ _ rfl rfl)
    ·refine Ap rfl (fun c11 => ?_) (fun c11 => ?_)
     ·have h := An c11 h
      refine Aq (Ab (AJ (Aa Ac rfl (qm rfl (qm rfl (qm rfl (qm rfl (Bk rfl (qm rfl (qm rfl (Bk rfl ?_)))))))))))
      obtain ⟨v12, a12, b12, h⟩ := Ai h
      refine qI A3 AA a12 (Af b12) rfl (qJ A9 AA (Af b12) rfl (qm rfl (qm rfl ?_)))
      obtain ⟨v13, a13, b13, h⟩ := Ai h
      refine qI A3 AA a13 (Af b13) rfl (qJ A9 AA (Af b13) rfl ?_)
      obtain ⟨v14, a14, b14, h⟩ := Ai h
      refine qI A3 AA a14 (Af b14) rfl ?_
      refine A0 rfl rfl rfl rfl (Af b14) rfl AA rfl (A7 rfl) (AY Aj v4.1 _ v12) ?_
      obtain ⟨v15, a15, b15, h⟩ := Ai h
      refine qI A3 AA a15 (Af b15) rfl ?_
      refine A0 rfl rfl rfl rfl (Af b15) rfl AA rfl (A7 rfl) (AY Aj (v4.1.set ((v4.2).toNat) v12) _ v13) ?_
      refine AB (by kernel_rfl) (Aa Ac rfl (qm rfl (Bk rfl (qa rfl (Ae ?_)))))
      exact As _ h (sm [] _ _ rfl rfl)
     ·have h := Ao c11 h
      refine AT ?_
      exact As _ h (sm [] _ _ rfl rfl)
   ·refine Am hs (Aa Ac rfl (qm rfl (AP rfl (qa rfl (Ae ?_)))))
    exact As _ h (sm [] _ _ rfl rfl)
  ·have h := Ao c3 h
   refine AT ?_
   exact As _ h (sm [] _ _ rfl rfl)
 ·obtain rfl := sj h
  refine ⟨_, hs.trans (sm [] [] [(90000, .vec 3 (v2.map Aj))] rfl rfl), ?_⟩
  exact ⟨⟨[], tv, rfl⟩, ⟨rfl, tv⟩, tv⟩
theorem Fl (N : Nat) (p0 : List Ah) (p1 : Int) (p2 : Int) (p3 : Int) (p4 : (Ah × Ah) → Option Int) (r : (List Ah)) (h : Gs.siftDown N p0 p1 p2 p3 p4 = some r) : Bh Tryz.prog 166 [oD (.own 90000), iD p1, iD p2, iD p3, oD (.clo (Bb (Cm true Aj true Aj) Bg p4))] [(.vec 3 (p0.map Aj), .vec 3 (r.map Aj))] [] (.tup []) := by
 unfold Gs.siftDown at h
 refine Ba (n := 82) (rs := []) Tryz.func166 rfl rfl rfl (A7 rfl) (A7 rfl) rfl rfl (A7 rfl) rfl (A7 rfl) fun w0 S0 GL => Jy ?_
 refine Am (sm [] [(0, oD (.own 90000)), (1, iD p1), (2, iD p2), (3, iD p3), (4, oD (.clo (Bb (Cm true Aj true Aj) Bg p4)))] [(90000, .vec 3 (p0.map Aj))] rfl rfl) (Ab (Aa Ac rfl (qm rfl (qa rfl (Ae ?_)))))
 refine AE (L := Gs.siftDown_L1 N p2 p3 p4) h (fun v1 => mk [(0, oD (.own 90000)), (2, iD p2), (3, iD p3), (4, oD (.clo (Bb (Cm true Aj true Aj) Bg p4))), (10, iD v1.2)] [(90000, .vec 3 (v1.1.map Aj))]) (fun v2 => mk [] [(90000, .vec 3 (v2.map Aj))]) (fun _ _ => rfl) (sm [] _ _ rfl rfl) (fun j1 n1 v1 h => ?_) (fun v2 s h hs => ?_)
 ·unfold Gs.siftDown_L1 at h
  refine AJ (Ab (Aa Ac rfl (qm rfl (HC rfl (AP rfl (qa rfl (Ae (Ab (Ab (Aa Ac rfl (qm rfl (qm rfl (Cz rfl (Ae ?_))))))))))))))
  refine Ap rfl (fun c3 => ?_) (fun c3 => ?_)
  ·have h := An c3 h
   refine AT ?_
   exact As _ h (sm [] _ _ rfl rfl)
  ·have h := Ao c3 h
   refine Aq ?_
   refine AO h (fun v4 => mk [(0, oD (.own 90000)), (2, iD p2), (3, iD p3), (4, oD (.clo (Bb (Cm true Aj true Aj) Bg p4))), (10, iD v1.2), (11, iD v4)] [(90000, .vec 3 (v1.1.map Aj))]) (fun j4 h => ?_) (fun v4 h => ?_)
   ·refine AO h (fun v5 => mk [(0, oD (.own 90000)), (2, iD p2), (3, iD p3), (4, oD (.clo (Bb (Cm true Aj true Aj) Bg p4))), (10, iD v1.2), (11, iD ((wI .i64 ((wI .i64 (2 * v1.2)) + 1)))), (40, bD v5)] [(90000, .vec 3 (v1.1.map Aj))]) (fun j5 h => ?_) (fun v5 h => ?_)
    ·refine Aa Ac rfl (qm rfl (AP rfl (qm rfl (AV rfl (qm rfl ?_)))))
     refine AF (t := 23) rfl (fun c6 => ?_) (fun c6 => ?_)
     ·have h := An c6 h
      refine qm rfl (qm rfl (qm rfl (qm rfl (AP rfl ?_))))
      obtain ⟨v7, a7, b7, h⟩ := Ai h
      refine qI A3 AA a7 (Af b7) rfl (qJ A9 AA (Af b7) rfl (qm rfl (qm rfl (qm rfl (AP rfl (AP rfl ?_))))))
      obtain ⟨v8, a8, b8, h⟩ := Ai h
      refine qI A3 AA a8 (Af b8) rfl (qJ A9 AA (Af b8) rfl ?_)
      obtain ⟨v9, a9, h⟩ := bind_some h
      refine CA (ds0 := [_, _]) (ar := (Cm true Aj true Aj) ((v7, v8))) (.g rfl rfl) rfl rfl ⟨rfl, rfl, tv⟩ rfl rfl rfl (CC (C7 _ _ _ _ BI BI) a9) ?_
      refine AV rfl (qp rfl (AB (by kernel_rfl) ?_))
      exact As _ h (sm [] _ _ rfl rfl)
     ·have h := Ao c6 h
      refine qn rfl (qn rfl (qn rfl (qn rfl (qn rfl (qn rfl (qn rfl (qn rfl (qn rfl (qn rfl (qn rfl (qn rfl (qn rfl (qn rfl (qn rfl (qn rfl (qp rfl (AB (by kernel_rfl) ?_)))))))))))))))))
      exact As _ h (sm [] _ _ rfl rfl)
    ·refine Ap rfl (fun c10 => ?_) (fun c10 => ?_)
     ·have h := An c10 h
      refine Aa Ac rfl (qm rfl (AP rfl (qa rfl (Ae ?_))))
      exact As _ h (sm [] _ _ rfl rfl)
     ·have h := Ao c10 h
      refine Aq ?_
      exact As _ h (sm [] _ _ rfl rfl)
   ·refine Ab (Ab (Aa Ac rfl (qm rfl (qm rfl (qm rfl (qm rfl (AP rfl ?_)))))))
    obtain ⟨v11, a11, b11, h⟩ := Ai h
    refine qI A3 AA a11 (Af b11) rfl (qJ A9 AA (Af b11) rfl (qm rfl (qm rfl (qm rfl (AP rfl ?_)))))
    obtain ⟨v12, a12, b12, h⟩ := Ai h
    refine qI A3 AA a12 (Af b12) rfl (qJ A9 AA (Af b12) rfl ?_)
    obtain ⟨v13, a13, h⟩ := bind_some h
    refine CA (ds0 := [_, _]) (ar := (Cm true Aj true Aj) ((v11, v12))) (.p rfl) rfl rfl ⟨rfl, rfl, tv⟩ rfl rfl rfl (CC (C7 _ _ _ _ BI BI) a13) ?_
    refine AV rfl (BZ rfl (AB (by kernel_rfl) ?_))
    refine Ap rfl (fun c14 => ?_) (fun c14 => ?_)
    ·have h := An c14 h
     obtain rfl := sj h
     refine Az ⟨_, (sm [] [] [(90000, .vec 3 (v1.1.map Aj))] rfl rfl), ?_⟩
     exact ⟨⟨[], tv, rfl⟩, ⟨rfl, tv⟩, tv⟩
    ·have h := Ao c14 h
     refine Aq (Ab (Aa Ac rfl (qm rfl (qm rfl (qm rfl (AP rfl (qm rfl (qm rfl (qm rfl (AP rfl (qm rfl (qm rfl (qm rfl (AP rfl ?_))))))))))))))
     obtain ⟨v15, a15, b15, h⟩ := Ai h
     refine qI A3 AA a15 (Af b15) rfl (qJ A9 AA (Af b15) rfl (qm rfl (qm rfl (qm rfl (AP rfl ?_)))))
     obtain ⟨v16, a16, b16, h⟩ := Ai h
     refine qI A3 AA a16 (Af b16) rfl (qJ A9 AA (Af b16) rfl ?_)
     obtain ⟨v17, a17, b17, h⟩ := Ai h
     refine qI A3 AA a17 (Af b17) rfl ?_
     refine A0 rfl rfl rfl rfl (Af b17) rfl AA rfl (A7 rfl) (AY Aj v1.1 _ v15) ?_
     obtain ⟨v18, a18, b18, h⟩ := Ai h
     refine qI A3 AA a18 (Af b18) rfl ?_
     refine A0 rfl rfl rfl rfl (Af b18) rfl AA rfl (A7 rfl) (AY Aj (v1.1.set (((wI .i64 (p3 + v1.2))).toNat) v15) _ v16) ?_
     refine AB (by kernel_rfl) (Aa Ac rfl (qm rfl (qa rfl (Ae ?_))))
     exact As _ h (sm [] _ _ rfl rfl)
 ·obtain rfl := sj h
  refine ⟨_, hs.trans (sm [] [] [(90000, .vec 3 (v2.map Aj))] rfl rfl), ?_⟩
  exact ⟨⟨[], tv, rfl⟩, ⟨rfl, tv⟩, tv⟩
theorem HL (N : Nat) (p0 : List Ah) (p1 : Int) (p2 : Int) (p3 : (Ah × Ah) → Option Int) (r : (List Ah)) (h : Gs.heapSort N p0 p1 p2 p3 = some r) : Bh Tryz.prog 146 [oD (.own 90000), iD p1, iD p2, oD (.clo (Bb (Cm true Aj true Aj) Bg p3))] [(.vec 3 (p0.map Aj), .vec 3 (r.map Aj))] [] (.tup []) := by
 unfold Gs.heapSort at h
 refine Ba (n := 60) (rs := []) Tryz.func146 rfl rfl rfl (A7 rfl) (A7 rfl) rfl rfl (A7 rfl) rfl (A7 rfl) fun w0 S0 GL => Jy ?_
 refine Am (sm [] [(0, oD (.own 90000)), (1, iD p1), (2, iD p2), (3, oD (.clo (Bb (Cm true Aj true Aj) Bg p3)))] [(90000, .vec 3 (p0.map Aj))] rfl rfl) (Ab (Aa Ac rfl (qm rfl (qa rfl (Ae (Ab (Aa Ac rfl (qa rfl (Ae (Ab (Aa Ac rfl (qm rfl (qm rfl (Bk rfl (qa rfl (Ae (Ab (Ab (Aa Ac rfl (qm rfl (Bk rfl (Jz rfl (by decide) (qa rfl (Ae ?_))))))))))))))))))))))))
 refine AE (L := Gs.heapSort_L1 N p1 p2 p3) h (fun v1 => mk [(0, oD (.own 90000)), (3, oD (.clo (Bb (Cm true Aj true Aj) Bg p3))), (8, iD p1), (9, iD 0), (10, iD ((wI .i64 (p2 - p1)))), (11, iD v1.2)] [(90000, .vec 3 (v1.1.map Aj))]) (fun v2 => mk [(0, oD (.own 90000)), (3, oD (.clo (Bb (Cm true Aj true Aj) Bg p3))), (8, iD p1), (9, iD 0), (10, iD ((wI .i64 (p2 - p1))))] [(90000, .vec 3 (v2.map Aj))]) (fun _ _ => rfl) (sm [] _ _ rfl rfl) (fun j1 n1 v1 h => ?_) (fun v2 s h hs => ?_)
 ·unfold Gs.heapSort_L1 at h
  refine Ab (Ab (Aa Ac rfl (qm rfl (Cz rfl (Ae ?_)))))
  refine Ap rfl (fun c3 => ?_) (fun c3 => ?_)
  ·have h := An c3 h
   refine Aq (Ab (AJ (Aa Ac rfl (qm rfl (qm rfl (qm rfl (qm rfl (qm rfl ?_))))))))
   obtain ⟨v4, a4, h⟩ := bind_some h
   refine BC (ds0 := [_, _, _, _, _]) [90000] [] [true] (Fl N v1.1 v1.2 ((wI .i64 (p2 - p1))) p1 p3 v4 a4) (.p rfl) WC rfl ⟨rfl, rfl, rfl, rfl, rfl, tv⟩ rfl rfl (by decide) ⟨rfl, tv⟩ rfl (A2 rfl) tv ⟨(fun h => by cases h), tv⟩ rfl rfl rfl ?_
   refine Ae (Aa Ac rfl (qm rfl (Bk rfl (qa rfl (Ae ?_)))))
   exact As _ h (sm [] _ _ rfl rfl)
  ·have h := Ao c3 h
   refine AT ?_
   exact As _ h (sm [] _ _ rfl rfl)
 ·refine Am hs (Ab (Aa Ac rfl (qm rfl (Bk rfl (qa rfl (Ae ?_))))))
  refine AE (L := Gs.heapSort_L5 N p1 p3) h (fun v5 => mk [(0, oD (.own 90000)), (3, oD (.clo (Bb (Cm true Aj true Aj) Bg p3))), (8, iD p1), (9, iD 0), (12, iD v5.2)] [(90000, .vec 3 (v5.1.map Aj))]) (fun v6 => mk [] [(90000, .vec 3 (v6.map Aj))]) (fun _ _ => rfl) (sm [] _ _ rfl rfl) (fun j5 n5 v5 h => ?_) (fun v6 s h hs => ?_)
  ·unfold Gs.heapSort_L5 at h
   refine Ab (Ab (Aa Ac rfl (qm rfl (Cz rfl (Ae ?_)))))
   refine Ap rfl (fun c7 => ?_) (fun c7 => ?_)
   ·have h := An c7 h
    refine Aq (Ab (AJ (Ab (Aa Ac rfl (qm rfl (qm rfl (qm rfl (qm rfl (qm rfl (AP rfl (qm rfl (qm rfl (qm rfl (AP rfl ?_))))))))))))))
    obtain ⟨v8, a8, b8, h⟩ := Ai h
    refine qI A3 AA a8 (Af b8) rfl (qJ A9 AA (Af b8) rfl (qm rfl (qm rfl ?_)))
    obtain ⟨v9, a9, b9, h⟩ := Ai h
    refine qI A3 AA a9 (Af b9) rfl (qJ A9 AA (Af b9) rfl ?_)
    obtain ⟨v10, a10, b10, h⟩ := Ai h
    refine qI A3 AA a10 (Af b10) rfl ?_
    refine A0 rfl rfl rfl rfl (Af b10) rfl AA rfl (A7 rfl) (AY Aj v5.1 _ v8) ?_
    obtain ⟨v11, a11, b11, h⟩ := Ai h
    refine qI A3 AA a11 (Af b11) rfl ?_
    refine A0 rfl rfl rfl rfl (Af b11) rfl AA rfl (A7 rfl) (AY Aj (v5.1.set ((p1).toNat) v8) _ v9) ?_
    refine AB (by kernel_rfl) (Aa Ac rfl (qm rfl (qm rfl (qm rfl (qm rfl (qm rfl ?_))))))
    obtain ⟨v12, a12, h⟩ := bind_some h
    refine BC (ds0 := [_, _, _, _, _]) [90000] [] [true] (Fl N ((v5.1.set ((p1).toNat) v8).set (((wI .i64 (p1 + v5.2))).toNat) v9) 0 v5.2 p1 p3 v12 a12) (.p rfl) WC rfl ⟨rfl, rfl, rfl, rfl, rfl, tv⟩ rfl rfl (by decide) ⟨rfl, tv⟩ rfl (A2 rfl) tv ⟨(fun h => by cases h), tv⟩ rfl rfl rfl ?_
    refine Ae (Aa Ac rfl (qm rfl (Bk rfl (qa rfl (Ae ?_)))))
    exact As _ h (sm [] _ _ rfl rfl)
   ·have h := Ao c7 h
    refine AT ?_
    exact As _ h (sm [] _ _ rfl rfl)
  ·obtain rfl := sj h
   refine ⟨_, hs.trans (sm [] [] [(90000, .vec 3 (v6.map Aj))] rfl rfl), ?_⟩
   exact ⟨⟨[], tv, rfl⟩, ⟨rfl, tv⟩, tv⟩
theorem HD (N : Nat) (p0 : Int) (r : Int) (h : DV N p0 = some r) : AC Tryz.prog 162 [iD p0] [] (pD (.val (.int .u64 r))) := by
 unfold DV at h
 refine Au (n := 7) (rs := [.tmp 2]) Tryz.func162 rfl rfl rfl (A7 rfl) (A7 rfl) rfl fun w0 S0 => ?_
 refine Ab (Aa Ac rfl (qa rfl (Ae (Ab (Aa Ac rfl (qm rfl (Gq T1 Nl rfl ?_)))))))
 obtain ⟨v1, a1, h⟩ := bind_some h
 refine AG [] (Iu N ((wI .u64 p0)) v1 a1) Vh rfl ?_
 obtain ⟨c2, h⟩ := AS h
 refine Il rfl c2 (qa rfl (Ae ?_))
 obtain rfl := sj h
 refine Am (sm [] [(2, pD (.val (.int .u64 ((CJ .u64 1 v1)))))] [] rfl rfl) (Az ?_)
 exact ⟨⟨[_], ⟨.tmp _ _ rfl, tv⟩, rfl⟩, tv⟩
theorem HT (N : Nat) (p0 : Int) (r : Int × Int) (h : Ea N p0 = some r) : Bh Tryz.prog 163 [oD (.ptr 90000 0)] [(.box [.pure (.val (.int .u64 p0))], .box [.pure (.val (.int .u64 r.2))])] [] (pD (.val (.int .u64 r.1))) := by
 unfold Ea at h
 refine Ba (n := 33) (rs := [.tmp 2]) Tryz.func163 rfl rfl rfl (A7 rfl) (A7 rfl) rfl rfl (A7 rfl) rfl (A7 rfl) fun w0 S0 GL => ?_
 refine Am (sm [] [(0, oD (.ptr 90000 0))] [(90000, .box [.pure (.val (.int .u64 p0))])] rfl rfl) (Ab (Aa Ac rfl (qa rfl (Ae (Ab (Aa Ac rfl (qm rfl (NR rfl (ql NZ rfl (qm rfl (NR rfl (ql NZ rfl (Il rfl (by decide) (U9 rfl (NR rfl (qs Rn rfl (AB (by kernel_rfl) (Ab (Aa Ac rfl (qm rfl (NR rfl (ql NZ rfl (qm rfl (NR rfl (ql NZ rfl (Hz rfl (by decide) (U9 rfl (NR rfl (qs Rn rfl (AB (by kernel_rfl) (Ab (Aa Ac rfl (qm rfl (NR rfl (ql NZ rfl (qm rfl (NR rfl (ql NZ rfl (Il rfl (by decide) ?_)))))))))))))))))))))))))))))))))))))))
 refine U9 rfl (NR rfl (qs Rn rfl (AB (by kernel_rfl) (Ab (Aa Ac rfl (qm rfl (NR rfl (ql NZ rfl (qa rfl (Ae ?_))))))))))
 obtain rfl := sj h
 refine Am (sm [] [(2, pD (.val (.int .u64 ((Hh .u64 ((Hh .u64 ((Hh .u64 p0 ((CJ .u64 p0 13)))) ((El .u64 ((Hh .u64 p0 ((CJ .u64 p0 13)))) 7)))) ((CJ .u64 ((Hh .u64 ((Hh .u64 p0 ((CJ .u64 p0 13)))) ((El .u64 ((Hh .u64 p0 ((CJ .u64 p0 13)))) 7)))) 17)))))))] [(90000, .box [.pure (.val (.int .u64 ((Hh .u64 ((Hh .u64 ((Hh .u64 p0 ((CJ .u64 p0 13)))) ((El .u64 ((Hh .u64 p0 ((CJ .u64 p0 13)))) 7)))) ((CJ .u64 ((Hh .u64 ((Hh .u64 p0 ((CJ .u64 p0 13)))) ((El .u64 ((Hh .u64 p0 ((CJ .u64 p0 13)))) 7)))) 17))))))])] rfl rfl) (Az ?_)
 exact ⟨⟨[_], ⟨.tmp _ _ rfl, tv⟩, rfl⟩, ⟨rfl, tv⟩, tv⟩
theorem GP (N : Nat) (p0 : List Ah) (p1 : Int) (p2 : Int) (p3 : (Ah × Ah) → Option Int) (r : (List Ah)) (h : Gs.breakPatterns N p0 p1 p2 p3 = some r) : Bh Tryz.prog 147 [oD (.own 90000), iD p1, iD p2, oD (.clo (Bb (Cm true Aj true Aj) Bg p3))] [(.vec 3 (p0.map Aj), .vec 3 (r.map Aj))] [] (.tup []) := by
 unfold Gs.breakPatterns at h
 refine Ba (n := 67) (rs := []) Tryz.func147 rfl rfl rfl (A7 rfl) (A7 rfl) rfl rfl (A7 rfl) rfl (A7 rfl) fun w0 S0 GL => Jy ?_
 refine Am (sm [] [(0, oD (.own 90000)), (1, iD p1), (2, iD p2), (3, oD (.clo (Bb (Cm true Aj true Aj) Bg p3)))] [(90000, .vec 3 (p0.map Aj))] rfl rfl) (Ab (Aa Ac rfl (qm rfl (qm rfl (Bk rfl (qa rfl (Ae (Ab (Aa Ac rfl (qm rfl (Cz rfl (Ae ?_))))))))))))
 refine Ap rfl (fun c1 => ?_) (fun c1 => ?_)
 ·have h := An c1 h
  refine Ab (Aa Ac rfl (qm rfl (Gq T1 WF rfl (qz WB rfl (qs Rn rfl (Ae (Ab (Aa Ac rfl (qm rfl ?_)))))))))
  obtain ⟨v2, a2, h⟩ := bind_some h
  refine AG [] (HD N ((wI .i64 (p2 - p1))) v2 a2) WR rfl (qa rfl (Ae (Ab (Aa Ac rfl (qm rfl (qm rfl (Jz rfl (by decide) (HC rfl (AP rfl (Bk rfl (qa rfl (Ae ?_))))))))))))
  refine AE (L := Gs.breakPatterns_L3 N p1 p2 v2) h (fun v3 => mk [(0, oD (.own 90000)), (1, iD p1), (8, iD ((wI .i64 (p2 - p1)))), (9, oD (.ptr 9 0)), (10, pD (.val (.int .u64 v2))), (11, iD v3.2.2)] [(9, .box [.pure (.val (.int .u64 v3.2.1))]), (90000, .vec 3 (v3.1.map Aj))]) (fun v4 => mk [] [(90000, .vec 3 (v4.map Aj))]) (fun _ _ => rfl) (sm [] _ _ rfl rfl) (fun j3 n3 v3 h => ?_) (fun v4 s h hs => ?_)
  ·unfold Gs.breakPatterns_L3 at h
   refine Ab (Ab (Aa Ac rfl (qm rfl (qm rfl (qm rfl (Jz rfl (by decide) (HC rfl (AP rfl (AP rfl (H3 rfl (Ae ?_)))))))))))
   refine Ap rfl (fun c5 => ?_) (fun c5 => ?_)
   ·have h := An c5 h
    refine Aq (Ab (AJ (Ab (Aa Ac rfl ?_))))
    obtain ⟨v6, a6, h⟩ := bind_some h
    refine BC (ds0 := [_]) [9] [] [true] (HT N v3.2.1 v6 a6) (.p rfl) WD rfl ⟨rfl, tv⟩ rfl rfl (by decide) ⟨rfl, tv⟩ rfl (A2 rfl) tv ⟨(fun h => by cases h), tv⟩ rfl rfl rfl ?_
    refine qm rfl (Bk rfl (KJ rfl (Gq Ot SY rfl (qa rfl (Ae ?_)))))
    refine AO h (fun v7 => mk [(0, oD (.own 90000)), (1, iD p1), (8, iD ((wI .i64 (p2 - p1)))), (9, oD (.ptr 9 0)), (10, pD (.val (.int .u64 v2))), (11, iD v3.2.2), (12, iD v7)] [(9, .box [.pure (.val (.int .u64 v6.2))]), (90000, .vec 3 (v3.1.map Aj))]) (fun j7 h => ?_) (fun v7 h => ?_)
    ·refine Ab (Aa Ac rfl (qm rfl (qm rfl (Cz rfl (Ae ?_)))))
     refine Ap rfl (fun c8 => ?_) (fun c8 => ?_)
     ·have h := An c8 h
      refine Aa Ac rfl (qm rfl (qm rfl (Bk rfl (qa rfl (Ae ?_)))))
      exact As _ h (sm [] _ _ rfl rfl)
     ·have h := Ao c8 h
      refine Aq ?_
      exact As _ h (sm [] _ _ rfl rfl)
    ·refine Aa Ac rfl (qm rfl (qm rfl (qm rfl (qm rfl (qm rfl (AP rfl (qm rfl (qm rfl (qm rfl (AP rfl ?_))))))))))
     obtain ⟨v9, a9, b9, h⟩ := Ai h
     refine qI A3 AA a9 (Af b9) rfl (qJ A9 AA (Af b9) rfl (qm rfl (qm rfl ?_)))
     obtain ⟨v10, a10, b10, h⟩ := Ai h
     refine qI A3 AA a10 (Af b10) rfl (qJ A9 AA (Af b10) rfl ?_)
     obtain ⟨v11, a11, b11, h⟩ := Ai h
     refine qI A3 AA a11 (Af b11) rfl ?_
     refine A0 rfl rfl rfl rfl (Af b11) rfl AA rfl (A7 rfl) (AY Aj v3.1 _ v9) ?_
     obtain ⟨v12, a12, b12, h⟩ := Ai h
     refine qI A3 AA a12 (Af b12) rfl ?_
     refine A0 rfl rfl rfl rfl (Af b12) rfl AA rfl (A7 rfl) (AY Aj (v3.1.set ((v3.2.2).toNat) v9) _ v10) ?_
     refine AB (by kernel_rfl) (Aa Ac rfl (qm rfl (AP rfl (qa rfl (Ae ?_)))))
     exact As _ h (sm [] _ _ rfl rfl)
   ·have h := Ao c5 h
    refine AT ?_
    exact As _ h (sm [] _ _ rfl rfl)
  ·obtain rfl := sj h
   refine ⟨_, hs.trans (sm [] [] [(90000, .vec 3 (v4.map Aj))] rfl rfl), ?_⟩
   exact ⟨⟨[], tv, rfl⟩, ⟨rfl, tv⟩, tv⟩
 ·have h := Ao c1 h
  refine Aq ?_
  obtain rfl := sj h
  refine ⟨_, (sm [] [] [(90000, .vec 3 (p0.map Aj))] rfl rfl), ?_⟩
  exact ⟨⟨[], tv, rfl⟩, ⟨rfl, tv⟩, tv⟩
theorem Ew (N : Nat) (p0 : List Ah) (p1 : Int) (p2 : Int) (p3 : Int) (p4 : (Ah × Ah) → Option Int) (r : Int × Int × Int) (h : Gs.order2 N p0 p1 p2 p3 p4 = some r) : Bh Tryz.prog 172 [pD (.sl (p0.map Aj)), iD p1, iD p2, oD (.ptr 90000 0), oD (.clo (Bb (Cm true Aj true Aj) Bg p4))] [(.box [iC p3], .box [iC r.2.2])] [] (.tup [.one (iC r.1), .one (iC r.2.1)]) := by
 unfold Gs.order2 at h
 refine Ba (n := 32) (rs := [.tmp 10, .tmp 11]) Tryz.func172 rfl rfl rfl (A7 rfl) (A7 rfl) rfl rfl (A7 rfl) rfl (A7 rfl) fun w0 S0 GL => ?_
 refine Am (sm [] [(0, pD (.sl (p0.map Aj))), (1, iD p1), (2, iD p2), (3, oD (.ptr 90000 0)), (4, oD (.clo (Bb (Cm true Aj true Aj) Bg p4)))] [(90000, .box [iC p3])] rfl rfl) (Ab (Aa Ac rfl (qa rfl (qa rfl (Ae (Ab (Ab (Aa Ac rfl (qm rfl (qm rfl (qm rfl ?_)))))))))))
 obtain ⟨v1, a1, b1, h⟩ := Ai h
 refine qi A3 AA a1 (Af b1) rfl (qK A9 AA rfl (qm rfl (qm rfl ?_)))
 obtain ⟨v2, a2, b2, h⟩ := Ai h
 refine qi A3 AA a2 (Af b2) rfl (qK A9 AA rfl ?_)
 obtain ⟨v3, a3, h⟩ := bind_some h
 refine CA (ds0 := [_, _]) (ar := (Cm true Aj true Aj) ((v1, v2))) (.p rfl) rfl rfl ⟨rfl, rfl, tv⟩ rfl rfl rfl (CC (C7 _ _ _ _ BI BI) a3) ?_
 refine AV rfl (AB (by kernel_rfl) ?_)
 refine Ap rfl (fun c4 => ?_) (fun c4 => ?_)
 ·have h := An c4 h
  refine Ab (Aa Ac rfl (qm rfl (NR rfl (ql B6 rfl (AP rfl (NR rfl (qs Dw rfl (Ae (Ab (Aa Ac rfl (qm rfl (qm rfl (qa rfl (qa rfl (Ae ?_)))))))))))))))
  obtain rfl := sj h
  refine Am (sm [] [(10, iD p2), (11, iD p1)] [(90000, .box [iC ((wI .i64 (p3 + 1)))])] rfl rfl) (Az ?_)
  exact ⟨⟨[_, _], ⟨.tmp _ _ rfl, ⟨.tmp _ _ rfl, tv⟩⟩, rfl⟩, ⟨rfl, tv⟩, tv⟩
 ·have h := Ao c4 h
  refine Aq (Ab (Aa Ac rfl (qm rfl (qm rfl (qa rfl (qa rfl (Ae ?_)))))))
  obtain rfl := sj h
  refine Am (sm [] [(10, iD p1), (11, iD p2)] [(90000, .box [iC p3])] rfl rfl) (Az ?_)
  exact ⟨⟨[_, _], ⟨.tmp _ _ rfl, ⟨.tmp _ _ rfl, tv⟩⟩, rfl⟩, ⟨rfl, tv⟩, tv⟩
theorem FK (N : Nat) (p0 : List Ah) (p1 : Int) (p2 : Int) (p3 : Int) (p4 : Int) (p5 : (Ah × Ah) → Option Int) (r : Int × Int) (h : Gs.median N p0 p1 p2 p3 p4 p5 = some r) : Bh Tryz.prog 168 [pD (.sl (p0.map Aj)), iD p1, iD p2, iD p3, oD (.ptr 90000 0), oD (.clo (Bb (Cm true Aj true Aj) Bg p5))] [(.box [iC p4], .box [iC r.2])] [] (iD r.1) := by
 unfold Gs.median at h
 refine Ba (n := 41) (rs := [.tmp 12]) Tryz.func168 rfl rfl rfl (A7 rfl) (A7 rfl) rfl rfl (A7 rfl) rfl (A7 rfl) fun w0 S0 GL => ?_
 refine Am (sm [] [(0, pD (.sl (p0.map Aj))), (1, iD p1), (2, iD p2), (3, iD p3), (4, oD (.ptr 90000 0)), (5, oD (.clo (Bb (Cm true Aj true Aj) Bg p5)))] [(90000, .box [iC p4])] rfl rfl) (Ab (Aa Ac rfl (qa rfl (Ae (Ab (Aa Ac rfl (qm rfl (qm rfl (qm rfl (qm rfl (qm rfl ?_)))))))))))
 obtain ⟨v1, a1, h⟩ := bind_some h
 refine BC (ds0 := [_, _, _, _, _]) [90000] [] [true] (Ew N p0 p1 p2 p4 p5 v1 a1) (.p rfl) UK rfl ⟨rfl, rfl, rfl, rfl, rfl, tv⟩ rfl rfl (by decide) ⟨rfl, tv⟩ rfl (A2 rfl) tv ⟨(fun h => by cases h), tv⟩ rfl rfl rfl ?_
 refine qm rfl (qx rfl (qx rfl (qa rfl (qa rfl (Ae (Ab (Aa Ac rfl (qm rfl (qm rfl (qm rfl (qm rfl (qm rfl ?_))))))))))))
 obtain ⟨v2, a2, h⟩ := bind_some h
 refine BC (ds0 := [_, _, _, _, _]) [90000] [] [true] (Ew N p0 v1.2.1 p3 v1.2.2 p5 v2 a2) (.p rfl) UK rfl ⟨rfl, rfl, rfl, rfl, rfl, tv⟩ rfl rfl (by decide) ⟨rfl, tv⟩ rfl (A2 rfl) tv ⟨(fun h => by cases h), tv⟩ rfl rfl rfl ?_
 refine qm rfl (qx rfl (qx rfl (qa rfl (qa rfl (Ae (Ab (Aa Ac rfl (qm rfl (qm rfl (qm rfl (qm rfl (qm rfl ?_))))))))))))
 obtain ⟨v3, a3, h⟩ := bind_some h
 refine BC (ds0 := [_, _, _, _, _]) [90000] [] [true] (Ew N p0 v1.1 v2.1 v2.2.2 p5 v3 a3) (.p rfl) UK rfl ⟨rfl, rfl, rfl, rfl, rfl, tv⟩ rfl rfl (by decide) ⟨rfl, tv⟩ rfl (A2 rfl) tv ⟨(fun h => by cases h), tv⟩ rfl rfl rfl ?_
 refine qm rfl (qx rfl (qx rfl (qa rfl (qa rfl (Ae (Ab (Aa Ac rfl (qm rfl (qa rfl (Ae ?_))))))))))
 obtain rfl := sj h
 refine Am (sm [] [(12, iD v3.2.1)] [(90000, .box [iC v3.2.2])] rfl rfl) (Az ?_)
 exact ⟨⟨[_], ⟨.tmp _ _ rfl, tv⟩, rfl⟩, ⟨rfl, tv⟩, tv⟩
theorem Do (N : Nat) (p0 : List Ah) (p1 : Int) (p2 : Int) (p3 : (Ah × Ah) → Option Int) (r : Int × Int) (h : Gs.medianAdjacent N p0 p1 p2 p3 = some r) : Bh Tryz.prog 167 [pD (.sl (p0.map Aj)), iD p1, oD (.ptr 90000 0), oD (.clo (Bb (Cm true Aj true Aj) Bg p3))] [(.box [iC p2], .box [iC r.2])] [] (iD r.1) := by
 unfold Gs.medianAdjacent at h
 refine Ba (n := 18) (rs := [.tmp 8]) Tryz.func167 rfl rfl rfl (A7 rfl) (A7 rfl) rfl rfl (A7 rfl) rfl (A7 rfl) fun w0 S0 GL => ?_
 refine Am (sm [] [(0, pD (.sl (p0.map Aj))), (1, iD p1), (2, oD (.ptr 90000 0)), (3, oD (.clo (Bb (Cm true Aj true Aj) Bg p3)))] [(90000, .box [iC p2])] rfl rfl) (Ab (Aa Ac rfl (qa rfl (Ae (Ab (Aa Ac rfl (qm rfl (qm rfl (Bk rfl (qm rfl (qm rfl (AP rfl (qm rfl (qm rfl ?_))))))))))))))
 obtain ⟨v1, a1, h⟩ := bind_some h
 refine BC (ds0 := [_, _, _, _, _, _]) [90000] [] [true] (FK N p0 ((wI .i64 (p1 - 1))) p1 ((wI .i64 (p1 + 1))) p2 p3 v1 a1) (.p rfl) WW rfl ⟨rfl, rfl, rfl, rfl, rfl, rfl, tv⟩ rfl rfl (by decide) ⟨rfl, tv⟩ rfl (A2 rfl) tv ⟨(fun h => by cases h), tv⟩ rfl rfl rfl ?_
 refine qa rfl (Ae ?_)
 obtain rfl := sj h
 refine Am (sm [] [(8, iD v1.1)] [(90000, .box [iC v1.2])] rfl rfl) (Az ?_)
 exact ⟨⟨[_], ⟨.tmp _ _ rfl, tv⟩, rfl⟩, ⟨rfl, tv⟩, tv⟩
theorem G1 (N : Nat) (p0 : List Ah) (p1 : Int) (p2 : Int) (p3 : (Ah × Ah) → Option Int) (r : Int × Int) (h : Gs.choosePivot N p0 p1 p2 p3 = some r) : AC Tryz.prog 148 [pD (.sl (p0.map Aj)), iD p1, iD p2, oD (.clo (Bb (Cm true Aj true Aj) Bg p3))] [] (.tup [.one (iC r.1), .one (iC r.2)]) := by
 unfold Gs.choosePivot at h
 refine Au (n := 63) (rs := [.tmp 8, .tmp 9]) Tryz.func148 rfl rfl rfl (A7 rfl) (A7 rfl) rfl fun w0 S0 => ?_
 refine Ab (Aa Ac rfl (qa rfl (qa rfl (Ae (Ab (Aa Ac rfl (qm rfl (qm rfl (Bk rfl (qa rfl (Ae (Ab (Aa Ac rfl (qz Kv rfl (Ae (Ab (Aa Ac rfl (qm rfl (qm rfl (Jz rfl (by decide) (HC rfl (AP rfl (qa rfl (Ae (Ab (Aa Ac rfl (qm rfl (qm rfl (Jz rfl (by decide) (HC rfl (AP rfl (qa rfl (Ae (Ab (Aa Ac rfl (qm rfl (qm rfl (Jz rfl (by decide) (HC rfl ?_)))))))))))))))))))))))))))))))))))))))
 refine AP rfl (qa rfl (Ae ?_))
 refine AO h (fun v1 => mk [(11, oD (.ptr 11 0)), (13, iD v1.2)] [(11, .box [iC v1.1])]) (fun j1 h => ?_) (fun v1 h => ?_)
 ·refine Ab (Aa Ac rfl (qm rfl (Cz rfl (Ae ?_))))
  refine Ap rfl (fun c2 => ?_) (fun c2 => ?_)
  ·have h := An c2 h
   refine AO h (fun v3 => mk [(0, pD (.sl (p0.map Aj))), (3, oD (.clo (Bb (Cm true Aj true Aj) Bg p3))), (11, oD (.ptr 11 0)), (12, iD v3.2.1), (13, iD v3.2.2.1), (14, iD v3.2.2.2)] [(11, .box [iC v3.1])]) (fun j3 h => ?_) (fun v3 h => ?_)
   ·refine Ab (Aa Ac rfl (qm rfl (Cz rfl (Ae ?_))))
    refine Ap rfl (fun c4 => ?_) (fun c4 => ?_)
    ·have h := An c4 h
     refine Ab (Aa Ac rfl (qm rfl (qm rfl (qm rfl ?_))))
     obtain ⟨v5, a5, h⟩ := bind_some h
     refine BC (ds0 := [_, _, _, _]) [11] [] [true] (Do N p0 ((wI .i64 (p1 + (wI .i64 ((wI .i64 (Int.tdiv ((wI .i64 (p2 - p1))) 4)) * 1))))) 0 p3 v5 a5) (.p rfl) TW rfl ⟨rfl, rfl, rfl, rfl, tv⟩ rfl rfl (by decide) ⟨rfl, tv⟩ rfl (A2 rfl) tv ⟨(fun h => by cases h), tv⟩ rfl rfl rfl ?_
     refine qa rfl (Ae (Ab (Aa Ac rfl (qm rfl (qm rfl (qm rfl ?_))))))
     obtain ⟨v6, a6, h⟩ := bind_some h
     refine BC (ds0 := [_, _, _, _]) [11] [] [true] (Do N p0 ((wI .i64 (p1 + (wI .i64 ((wI .i64 (Int.tdiv ((wI .i64 (p2 - p1))) 4)) * 2))))) v5.2 p3 v6 a6) (.p rfl) TW rfl ⟨rfl, rfl, rfl, rfl, tv⟩ rfl rfl (by decide) ⟨rfl, tv⟩ rfl (A2 rfl) tv ⟨(fun h => by cases h), tv⟩ rfl rfl rfl ?_
     refine qa rfl (Ae (Aa Ac rfl (qm rfl (qm rfl (qm rfl ?_)))))
     obtain ⟨v7, a7, h⟩ := bind_some h
     refine BC (ds0 := [_, _, _, _]) [11] [] [true] (Do N p0 ((wI .i64 (p1 + (wI .i64 ((wI .i64 (Int.tdiv ((wI .i64 (p2 - p1))) 4)) * 3))))) v6.2 p3 v7 a7) (.p rfl) TW rfl ⟨rfl, rfl, rfl, rfl, tv⟩ rfl rfl (by decide) ⟨rfl, tv⟩ rfl (A2 rfl) tv ⟨(fun h => by cases h), tv⟩ rfl rfl rfl ?_
     refine qa rfl (Ae ?_)
     exact As _ h (sm [] _ _ rfl rfl)
    ·have h := Ao c4 h
     refine Aq ?_
     exact As _ h (sm [] _ _ rfl rfl)
   ·refine Aa Ac rfl (qm rfl (qm rfl (qm rfl (qm rfl (qm rfl ?_)))))
    obtain ⟨v8, a8, h⟩ := bind_some h
    refine BC (ds0 := [_, _, _, _, _, _]) [11] [] [true] (FK N p0 v3.2.1 v3.2.2.1 v3.2.2.2 v3.1 p3 v8 a8) (.p rfl) WW rfl ⟨rfl, rfl, rfl, rfl, rfl, rfl, tv⟩ rfl rfl (by decide) ⟨rfl, tv⟩ rfl (A2 rfl) tv ⟨(fun h => by cases h), tv⟩ rfl rfl rfl ?_
    refine qa rfl (Ae ?_)
    exact As _ h (sm [] _ _ rfl rfl)
  ·have h := Ao c2 h
   refine Aq ?_
   exact As _ h (sm [] _ _ rfl rfl)
 ·refine Ab (Aa Ac rfl (ql B6 rfl (Ae (AJ (Ab (Aa Ac rfl (BL rfl (qa rfl (Ae ?_)))))))))
  refine Ap rfl (fun c9 => ?_) (fun c9 => ?_)
  ·have h := An c9 h
   refine Ab (Aa Ac rfl (qm rfl (qa rfl (qa rfl (Ae ?_)))))
   obtain rfl := sj h
   refine Am (sm [] [(8, iD v1.2), (9, iD 1)] [] rfl rfl) (Az ?_)
   exact ⟨⟨[_, _], ⟨.tmp _ _ rfl, ⟨.tmp _ _ rfl, tv⟩⟩, rfl⟩, tv⟩
  ·have h := Ao c9 h
   refine Ab (Aa Ac rfl (BL rfl (qa rfl (Ae ?_))))
   refine Ap rfl (fun c10 => ?_) (fun c10 => ?_)
   ·have h := An c10 h
    refine Ab (Aa Ac rfl (qm rfl (qa rfl (qa rfl (Ae ?_)))))
    obtain rfl := sj h
    refine Am (sm [] [(8, iD v1.2), (9, iD 2)] [] rfl rfl) (Az ?_)
    exact ⟨⟨[_, _], ⟨.tmp _ _ rfl, ⟨.tmp _ _ rfl, tv⟩⟩, rfl⟩, tv⟩
   ·have h := Ao c10 h
    refine Ab (Aa Ac rfl (qm rfl (qa rfl (qa rfl (Ae ?_)))))
    obtain rfl := sj h
    refine Am (sm [] [(8, iD v1.2), (9, iD 0)] [] rfl rfl) (Az ?_)
    exact ⟨⟨[_, _], ⟨.tmp _ _ rfl, ⟨.tmp _ _ rfl, tv⟩⟩, rfl⟩, tv⟩
theorem GT (N : Nat) (p0 : List Ah) (p1 : Int) (p2 : Int) (p3 : (Ah × Ah) → Option Int) (r : (List Ah)) (h : Gs.reverseRange N p0 p1 p2 p3 = some r) : Bh Tryz.prog 149 [oD (.own 90000), iD p1, iD p2, oD (.clo (Bb (Cm true Aj true Aj) Bg p3))] [(.vec 3 (p0.map Aj), .vec 3 (r.map Aj))] [] (.tup []) := by
 unfold Gs.reverseRange at h
 refine Ba (n := 34) (rs := []) Tryz.func149 rfl rfl rfl (A7 rfl) (A7 rfl) rfl rfl (A7 rfl) rfl (A7 rfl) fun w0 S0 GL => Jy ?_
 refine Am (sm [] [(0, oD (.own 90000)), (1, iD p1), (2, iD p2), (3, oD (.clo (Bb (Cm true Aj true Aj) Bg p3)))] [(90000, .vec 3 (p0.map Aj))] rfl rfl) (Ab (Aa Ac rfl (qm rfl (qa rfl (Ae (Ab (Aa Ac rfl (qm rfl (Bk rfl (qa rfl (Ae ?_)))))))))))
 refine AE (L := Gs.reverseRange_L1 N) h (fun v1 => mk [(0, oD (.own 90000)), (8, iD v1.2.1), (9, iD v1.2.2)] [(90000, .vec 3 (v1.1.map Aj))]) (fun v2 => mk [] [(90000, .vec 3 (v2.map Aj))]) (fun _ _ => rfl) (sm [] _ _ rfl rfl) (fun j1 n1 v1 h => ?_) (fun v2 s h hs => ?_)
 ·unfold Gs.reverseRange_L1 at h
  refine Ab (Ab (Aa Ac rfl (qm rfl (qm rfl (AV rfl (Ae ?_))))))
  refine Ap rfl (fun c3 => ?_) (fun c3 => ?_)
  ·have h := An c3 h
   refine Aq (AJ (Ab (Aa Ac rfl (qm rfl (qm rfl (qm rfl (qm rfl (qm rfl (qm rfl ?_)))))))))
   obtain ⟨v4, a4, b4, h⟩ := Ai h
   refine qI A3 AA a4 (Af b4) rfl (qJ A9 AA (Af b4) rfl (qm rfl (qm rfl ?_)))
   obtain ⟨v5, a5, b5, h⟩ := Ai h
   refine qI A3 AA a5 (Af b5) rfl (qJ A9 AA (Af b5) rfl ?_)
   obtain ⟨v6, a6, b6, h⟩ := Ai h
   refine qI A3 AA a6 (Af b6) rfl ?_
   refine A0 rfl rfl rfl rfl (Af b6) rfl AA rfl (A7 rfl) (AY Aj v1.1 _ v4) ?_
   obtain ⟨v7, a7, b7, h⟩ := Ai h
   refine qI A3 AA a7 (Af b7) rfl ?_
   refine A0 rfl rfl rfl rfl (Af b7) rfl AA rfl (A7 rfl) (AY Aj (v1.1.set ((v1.2.1).toNat) v4) _ v5) ?_
   refine AB (by kernel_rfl) (Ab (Aa Ac rfl (qm rfl (AP rfl (qa rfl (Ae (Aa Ac rfl (qm rfl (Bk rfl (qa rfl (Ae ?_)))))))))))
   exact As _ h (sm [] _ _ rfl rfl)
  ·have h := Ao c3 h
   refine AT ?_
   exact As _ h (sm [] _ _ rfl rfl)
 ·obtain rfl := sj h
  refine ⟨_, hs.trans (sm [] [] [(90000, .vec 3 (v2.map Aj))] rfl rfl), ?_⟩
  exact ⟨⟨[], tv, rfl⟩, ⟨rfl, tv⟩, tv⟩
theorem FL (N : Nat) (p0 : List Ah) (p1 : Int) (p2 : Int) (p3 : (Ah × Ah) → Option Int) (r : Bool × (List Ah)) (h : Gs.partialInsertionSort N p0 p1 p2 p3 = some r) : Bh Tryz.prog 150 [oD (.own 90000), iD p1, iD p2, oD (.clo (Bb (Cm true Aj true Aj) Bg p3))] [(.vec 3 (p0.map Aj), .vec 3 (r.2.map Aj))] [] (bD r.1) := by
 unfold Gs.partialInsertionSort at h
 refine Ba (n := 141) (rs := [.tmp 8]) Tryz.func150 rfl rfl rfl (A7 rfl) (A7 rfl) rfl rfl (A7 rfl) rfl (A7 rfl) fun w0 S0 GL => ?_
 refine Am (sm [] [(0, oD (.own 90000)), (1, iD p1), (2, iD p2), (3, oD (.clo (Bb (Cm true Aj true Aj) Bg p3)))] [(90000, .vec 3 (p0.map Aj))] rfl rfl) (Ab (Aa Ac rfl (qa rfl (Ae (Ab (Aa Ac rfl (qm rfl (AP rfl (qa rfl (Ae (Ab (Ab (Aa Ac rfl (qa rfl (Ae ?_)))))))))))))))
 refine AE (L := Gs.partialInsertionSort_L1 N p1 p2 p3) h (fun v1 => mk [(0, oD (.own 90000)), (1, iD p1), (2, iD p2), (3, oD (.clo (Bb (Cm true Aj true Aj) Bg p3))), (9, iD v1.2.1), (10, iD v1.2.2)] [(90000, .vec 3 (v1.1.map Aj))]) (fun v2 => mk [] [(90000, .vec 3 (v2.map Aj))]) (fun _ _ => rfl) (sm [] _ _ rfl rfl) (fun j1 n1 v1 h => ?_) (fun v2 s h hs => ?_)
 ·unfold Gs.partialInsertionSort_L1 at h
  refine Ab (Ab (Aa Ac rfl (qm rfl (AV rfl (Ae ?_)))))
  refine Ap rfl (fun c3 => ?_) (fun c3 => ?_)
  ·have h := An c3 h
   refine Aq ?_
   refine AO h (fun v4 => mk [(0, oD (.own 90000)), (1, iD p1), (2, iD p2), (3, oD (.clo (Bb (Cm true Aj true Aj) Bg p3))), (9, iD v4.2), (10, iD v1.2.2)] [(90000, .vec 3 (v4.1.map Aj))]) (fun j4 h => ?_) (fun v4 h => ?_)
   ·refine AJ (Ab ?_)
    refine AE (L := Gs.partialInsertionSort_L5 N p2 p3 v1) h (fun v5 => mk [(0, oD (.own 90000)), (1, iD p1), (2, iD p2), (3, oD (.clo (Bb (Cm true Aj true Aj) Bg p3))), (9, iD v5), (10, iD v1.2.2)] [(90000, .vec 3 (v1.1.map Aj))]) (fun v6 => mk [(0, oD (.own 90000)), (1, iD p1), (2, iD p2), (3, oD (.clo (Bb (Cm true Aj true Aj) Bg p3))), (9, iD v6), (10, iD v1.2.2)] [(90000, .vec 3 (v1.1.map Aj))]) (fun _ _ => rfl) (sm [] _ _ rfl rfl) (fun j5 n5 v5 h => ?_) (fun v6 s h hs => ?_)
    ·unfold Gs.partialInsertionSort_L5 at h
     refine Ab ?_
     refine AO h (fun v7 => mk [(0, oD (.own 90000)), (1, iD p1), (2, iD p2), (3, oD (.clo (Bb (Cm true Aj true Aj) Bg p3))), (9, iD v5), (10, iD v1.2.2), (36, bD v7)] [(90000, .vec 3 (v1.1.map Aj))]) (fun j7 h => ?_) (fun v7 h => ?_)
     ·refine Aa Ac rfl (qm rfl (qm rfl (AV rfl (qm rfl ?_))))
      refine AF (t := 22) rfl (fun c8 => ?_) (fun c8 => ?_)
      ·have h := An c8 h
       refine qm rfl (qm rfl (qm rfl ?_))
       obtain ⟨v9, a9, b9, h⟩ := Ai h
       refine qI A3 AA a9 (Af b9) rfl (qJ A9 AA (Af b9) rfl (qm rfl (qm rfl (Bk rfl ?_))))
       obtain ⟨v10, a10, b10, h⟩ := Ai h
       refine qI A3 AA a10 (Af b10) rfl (qJ A9 AA (Af b10) rfl ?_)
       obtain ⟨v11, a11, h⟩ := bind_some h
       refine CA (ds0 := [_, _]) (ar := (Cm true Aj true Aj) ((v9, v10))) (.g rfl rfl) rfl rfl ⟨rfl, rfl, tv⟩ rfl rfl rfl (CC (C7 _ _ _ _ BI BI) a11) ?_
       refine AV rfl (BZ rfl (qp rfl (AB (by kernel_rfl) ?_)))
       exact As _ h (sm [] _ _ rfl rfl)
      ·have h := Ao c8 h
       refine qn rfl (qn rfl (qn rfl (qn rfl (qn rfl (qn rfl (qn rfl (qn rfl (qn rfl (qn rfl (qn rfl (qn rfl (qn rfl (qp rfl (AB (by kernel_rfl) ?_))))))))))))))
       exact As _ h (sm [] _ _ rfl rfl)
     ·refine Ap rfl (fun c12 => ?_) (fun c12 => ?_)
      ·have h := An c12 h
       refine Aq (AJ (Aa Ac rfl (qm rfl (AP rfl (qa rfl (Ae ?_))))))
       exact As _ h (sm [] _ _ rfl rfl)
      ·have h := Ao c12 h
       refine AT ?_
       exact As _ h (sm [] _ _ rfl rfl)
    ·refine Am hs (Ab (Ab (Aa Ac rfl (qm rfl (qm rfl (BL rfl (Ae ?_)))))))
     refine Ap rfl (fun c13 => ?_) (fun c13 => ?_)
     ·have h := An c13 h
      refine Ab (Aa Ac rfl (qa rfl (Ae ?_)))
      obtain rfl := sj h
      refine Am (sm [] [(8, bD true)] [(90000, .vec 3 (v1.1.map Aj))] rfl rfl) (Az ?_)
      exact ⟨⟨[_], ⟨.tmp _ _ rfl, tv⟩, rfl⟩, ⟨rfl, tv⟩, tv⟩
     ·have h := Ao c13 h
      refine Aq (Ab (Ab (Aa Ac rfl (qm rfl (qm rfl (Bk rfl (AV rfl (Ae ?_))))))))
      refine Ap rfl (fun c14 => ?_) (fun c14 => ?_)
      ·have h := An c14 h
       refine Ab (Aa Ac rfl (qa rfl (Ae ?_)))
       obtain rfl := sj h
       refine Am (sm [] [(8, bD false)] [(90000, .vec 3 (v1.1.map Aj))] rfl rfl) (Az ?_)
       exact ⟨⟨[_], ⟨.tmp _ _ rfl, tv⟩, rfl⟩, ⟨rfl, tv⟩, tv⟩
      ·have h := Ao c14 h
       refine Aq (Ab (Aa Ac rfl (qm rfl (qm rfl (qm rfl (qm rfl (Bk rfl (qm rfl (qm rfl (Bk rfl ?_))))))))))
       obtain ⟨v15, a15, b15, h⟩ := Ai h
       refine qI A3 AA a15 (Af b15) rfl (qJ A9 AA (Af b15) rfl (qm rfl (qm rfl ?_)))
       obtain ⟨v16, a16, b16, h⟩ := Ai h
       refine qI A3 AA a16 (Af b16) rfl (qJ A9 AA (Af b16) rfl ?_)
       obtain ⟨v17, a17, b17, h⟩ := Ai h
       refine qI A3 AA a17 (Af b17) rfl ?_
       refine A0 rfl rfl rfl rfl (Af b17) rfl AA rfl (A7 rfl) (AY Aj v1.1 _ v15) ?_
       obtain ⟨v18, a18, b18, h⟩ := Ai h
       refine qI A3 AA a18 (Af b18) rfl ?_
       refine A0 rfl rfl rfl rfl (Af b18) rfl AA rfl (A7 rfl) (AY Aj (v1.1.set ((v6).toNat) v15) _ v16) ?_
       refine AB (by kernel_rfl) ?_
       refine AO h (fun v19 => mk [(0, oD (.own 90000)), (1, iD p1), (2, iD p2), (3, oD (.clo (Bb (Cm true Aj true Aj) Bg p3))), (9, iD v6), (10, iD v1.2.2)] [(90000, .vec 3 (v19.map Aj))]) (fun j19 h => ?_) (fun v19 h => ?_)
       ·refine Ab (Aa Ac rfl (qm rfl (qm rfl (Bk rfl (Cz rfl (Ae ?_))))))
        refine Ap rfl (fun c20 => ?_) (fun c20 => ?_)
        ·have h := An c20 h
         refine Ab (Aa Ac rfl (qm rfl (Bk rfl (qa rfl (Ae ?_)))))
         refine AE (L := Gs.partialInsertionSort_L21 N p3) h (fun v21 => mk [(0, oD (.own 90000)), (1, iD p1), (2, iD p2), (3, oD (.clo (Bb (Cm true Aj true Aj) Bg p3))), (9, iD v6), (10, iD v1.2.2), (11, iD v21.2)] [(90000, .vec 3 (v21.1.map Aj))]) (fun v22 => mk [(0, oD (.own 90000)), (1, iD p1), (2, iD p2), (3, oD (.clo (Bb (Cm true Aj true Aj) Bg p3))), (9, iD v6), (10, iD v1.2.2)] [(90000, .vec 3 (v22.map Aj))]) (fun _ _ => rfl) (sm [] _ _ rfl rfl) (fun j21 n21 v21 h => ?_) (fun v22 s h hs => ?_)
         ·unfold Gs.partialInsertionSort_L21 at h
          refine Ab (Ab (Aa Ac rfl (qm rfl (Cz rfl (Ae ?_)))))
          refine Ap rfl (fun c23 => ?_) (fun c23 => ?_)
          ·have h := An c23 h
           refine Aq (Ab (AJ (Ab (Ab (Aa Ac rfl (qm rfl (qm rfl (qm rfl ?_))))))))
           obtain ⟨v24, a24, b24, h⟩ := Ai h
           refine qI A3 AA a24 (Af b24) rfl (qJ A9 AA (Af b24) rfl (qm rfl (qm rfl (Bk rfl ?_))))
           obtain ⟨v25, a25, b25, h⟩ := Ai h
           refine qI A3 AA a25 (Af b25) rfl (qJ A9 AA (Af b25) rfl ?_)
           obtain ⟨v26, a26, h⟩ := bind_some h
           refine CA (ds0 := [_, _]) (ar := (Cm true Aj true Aj) ((v24, v25))) (.p rfl) rfl rfl ⟨rfl, rfl, tv⟩ rfl rfl rfl (CC (C7 _ _ _ _ BI BI) a26) ?_
           refine AV rfl (BZ rfl (AB (by kernel_rfl) ?_))
           refine Ap rfl (fun c27 => ?_) (fun c27 => ?_)
           ·have h := An c27 h
            refine AT ?_
            exact As _ h (sm [] _ _ rfl rfl)
           ·have h := Ao c27 h
            refine Aq (Aa Ac rfl (qm rfl (qm rfl (qm rfl (qm rfl (Bk rfl (qm rfl (qm rfl (Bk rfl ?_)))))))))
            obtain ⟨v28, a28, b28, h⟩ := Ai h
            refine qI A3 AA a28 (Af b28) rfl (qJ A9 AA (Af b28) rfl (qm rfl (qm rfl ?_)))
            obtain ⟨v29, a29, b29, h⟩ := Ai h
            refine qI A3 AA a29 (Af b29) rfl (qJ A9 AA (Af b29) rfl ?_)
            obtain ⟨v30, a30, b30, h⟩ := Ai h
            refine qI A3 AA a30 (Af b30) rfl ?_
            refine A0 rfl rfl rfl rfl (Af b30) rfl AA rfl (A7 rfl) (AY Aj v21.1 _ v28) ?_
            obtain ⟨v31, a31, b31, h⟩ := Ai h
            refine qI A3 AA a31 (Af b31) rfl ?_
            refine A0 rfl rfl rfl rfl (Af b31) rfl AA rfl (A7 rfl) (AY Aj (v21.1.set ((v21.2).toNat) v28) _ v29) ?_
            refine AB (by kernel_rfl) (Aa Ac rfl (qm rfl (Bk rfl (qa rfl (Ae ?_)))))
            exact As _ h (sm [] _ _ rfl rfl)
          ·have h := Ao c23 h
           refine AT ?_
           exact As _ h (sm [] _ _ rfl rfl)
         ·exact As _ h (hs.trans (sm [] _ _ rfl rfl))
        ·have h := Ao c20 h
         refine Aq ?_
         exact As _ h (sm [] _ _ rfl rfl)
       ·refine Ab (Aa Ac rfl (qm rfl (qm rfl (Bk rfl (Cz rfl (Ae ?_))))))
        refine Ap rfl (fun c32 => ?_) (fun c32 => ?_)
        ·have h := An c32 h
         refine Ab (Aa Ac rfl (qm rfl (AP rfl (qa rfl (Ae ?_)))))
         refine AE (L := Gs.partialInsertionSort_L33 N p2 p3) h (fun v33 => mk [(0, oD (.own 90000)), (1, iD p1), (2, iD p2), (3, oD (.clo (Bb (Cm true Aj true Aj) Bg p3))), (9, iD v6), (10, iD v1.2.2), (12, iD v33.2)] [(90000, .vec 3 (v33.1.map Aj))]) (fun v34 => mk [(0, oD (.own 90000)), (1, iD p1), (2, iD p2), (3, oD (.clo (Bb (Cm true Aj true Aj) Bg p3))), (9, iD v6), (10, iD v1.2.2)] [(90000, .vec 3 (v34.map Aj))]) (fun _ _ => rfl) (sm [] _ _ rfl rfl) (fun j33 n33 v33 h => ?_) (fun v34 s h hs => ?_)
         ·unfold Gs.partialInsertionSort_L33 at h
          refine Ab (Ab (Aa Ac rfl (qm rfl (qm rfl (AV rfl (Ae ?_))))))
          refine Ap rfl (fun c35 => ?_) (fun c35 => ?_)
          ·have h := An c35 h
           refine Aq (Ab (AJ (Ab (Ab (Aa Ac rfl (qm rfl (qm rfl (qm rfl ?_))))))))
           obtain ⟨v36, a36, b36, h⟩ := Ai h
           refine qI A3 AA a36 (Af b36) rfl (qJ A9 AA (Af b36) rfl (qm rfl (qm rfl (Bk rfl ?_))))
           obtain ⟨v37, a37, b37, h⟩ := Ai h
           refine qI A3 AA a37 (Af b37) rfl (qJ A9 AA (Af b37) rfl ?_)
           obtain ⟨v38, a38, h⟩ := bind_some h
           refine CA (ds0 := [_, _]) (ar := (Cm true Aj true Aj) ((v36, v37))) (.p rfl) rfl rfl ⟨rfl, rfl, tv⟩ rfl rfl rfl (CC (C7 _ _ _ _ BI BI) a38) ?_
           refine AV rfl (BZ rfl (AB (by kernel_rfl) ?_))
           refine Ap rfl (fun c39 => ?_) (fun c39 => ?_)
           ·have h := An c39 h
            refine AT ?_
            exact As _ h (sm [] _ _ rfl rfl)
           ·have h := Ao c39 h
            refine Aq (Aa Ac rfl (qm rfl (qm rfl (qm rfl (qm rfl (Bk rfl (qm rfl (qm rfl (Bk rfl ?_)))))))))
            obtain ⟨v40, a40, b40, h⟩ := Ai h
            refine qI A3 AA a40 (Af b40) rfl (qJ A9 AA (Af b40) rfl (qm rfl (qm rfl ?_)))
            obtain ⟨v41, a41, b41, h⟩ := Ai h
            refine qI A3 AA a41 (Af b41) rfl (qJ A9 AA (Af b41) rfl ?_)
            obtain ⟨v42, a42, b42, h⟩ := Ai h
            refine qI A3 AA a42 (Af b42) rfl ?_
            refine A0 rfl rfl rfl rfl (Af b42) rfl AA rfl (A7 rfl) (AY Aj v33.1 _ v40) ?_
            obtain ⟨v43, a43, b43, h⟩ := Ai h
            refine qI A3 AA a43 (Af b43) rfl ?_
            refine A0 rfl rfl rfl rfl (Af b43) rfl AA rfl (A7 rfl) (AY Aj (v33.1.set ((v33.2).toNat) v40) _ v41) ?_
            refine AB (by kernel_rfl) (Aa Ac rfl (qm rfl (AP rfl (qa rfl (Ae ?_)))))
            exact As _ h (sm [] _ _ rfl rfl)
          ·have h := Ao c35 h
           refine AT ?_
           exact As _ h (sm [] _ _ rfl rfl)
         ·exact As _ h (hs.trans (sm [] _ _ rfl rfl))
        ·have h := Ao c32 h
         refine Aq ?_
         exact As _ h (sm [] _ _ rfl rfl)
   ·refine Aa Ac rfl (qm rfl (AP rfl (qa rfl (Ae ?_))))
    exact As _ h (sm [] _ _ rfl rfl)
  ·have h := Ao c3 h
   refine AT ?_
   exact As _ h (sm [] _ _ rfl rfl)
 ·refine Am hs (Ab (Aa Ac rfl (qa rfl (Ae ?_))))
  obtain rfl := sj h
  refine Am (sm [] [(8, bD false)] [(90000, .vec 3 (v2.map Aj))] rfl rfl) (Az ?_)
  exact ⟨⟨[_], ⟨.tmp _ _ rfl, tv⟩, rfl⟩, ⟨rfl, tv⟩, tv⟩
theorem GB (N : Nat) (p0 : List Ah) (p1 : Int) (p2 : Int) (p3 : Int) (p4 : (Ah × Ah) → Option Int) (r : Int × (List Ah)) (h : Gs.partitionEqual N p0 p1 p2 p3 p4 = some r) : Bh Tryz.prog 151 [oD (.own 90000), iD p1, iD p2, iD p3, oD (.clo (Bb (Cm true Aj true Aj) Bg p4))] [(.vec 3 (p0.map Aj), .vec 3 (r.2.map Aj))] [] (iD r.1) := by
 unfold Gs.partitionEqual at h
 refine Ba (n := 90) (rs := [.tmp 10]) Tryz.func151 rfl rfl rfl (A7 rfl) (A7 rfl) rfl rfl (A7 rfl) rfl (A7 rfl) fun w0 S0 GL => ?_
 refine Am (sm [] [(0, oD (.own 90000)), (1, iD p1), (2, iD p2), (3, iD p3), (4, oD (.clo (Bb (Cm true Aj true Aj) Bg p4)))] [(90000, .vec 3 (p0.map Aj))] rfl rfl) (Ab (Aa Ac rfl (qa rfl (Ae (Ab (Aa Ac rfl (qm rfl (qm rfl (qm rfl (qm rfl (qm rfl (qm rfl ?_))))))))))))
 obtain ⟨v1, a1, b1, h⟩ := Ai h
 refine qI A3 AA a1 (Af b1) rfl (qJ A9 AA (Af b1) rfl (qm rfl (qm rfl ?_)))
 obtain ⟨v2, a2, b2, h⟩ := Ai h
 refine qI A3 AA a2 (Af b2) rfl (qJ A9 AA (Af b2) rfl ?_)
 obtain ⟨v3, a3, b3, h⟩ := Ai h
 refine qI A3 AA a3 (Af b3) rfl ?_
 refine A0 rfl rfl rfl rfl (Af b3) rfl AA rfl (A7 rfl) (AY Aj p0 _ v1) ?_
 obtain ⟨v4, a4, b4, h⟩ := Ai h
 refine qI A3 AA a4 (Af b4) rfl ?_
 refine A0 rfl rfl rfl rfl (Af b4) rfl AA rfl (A7 rfl) (AY Aj (p0.set ((p1).toNat) v1) _ v2) ?_
 refine AB (by kernel_rfl) (Ab (Aa Ac rfl (qm rfl (AP rfl (qm rfl (Bk rfl (qa rfl (qa rfl (Ae (Ab ?_))))))))))
 refine AE (L := Gs.partitionEqual_L5 N p1 p4) h (fun v5 => mk [(0, oD (.own 90000)), (1, iD p1), (4, oD (.clo (Bb (Cm true Aj true Aj) Bg p4))), (11, iD v5.2.1), (12, iD v5.2.2)] [(90000, .vec 3 (v5.1.map Aj))]) (fun v6 => mk [(11, iD v6.2)] [(90000, .vec 3 (v6.1.map Aj))]) (fun _ _ => rfl) (sm [] _ _ rfl rfl) (fun j5 n5 v5 h => ?_) (fun v6 s h hs => ?_)
 ·unfold Gs.partitionEqual_L5 at h
  refine AJ (Ab ?_)
  refine AE (L := Gs.partitionEqual_L7 N p1 p4 v5) h (fun v7 => mk [(0, oD (.own 90000)), (1, iD p1), (4, oD (.clo (Bb (Cm true Aj true Aj) Bg p4))), (11, iD v7), (12, iD v5.2.2)] [(90000, .vec 3 (v5.1.map Aj))]) (fun v8 => mk [(0, oD (.own 90000)), (1, iD p1), (4, oD (.clo (Bb (Cm true Aj true Aj) Bg p4))), (11, iD v8), (12, iD v5.2.2)] [(90000, .vec 3 (v5.1.map Aj))]) (fun _ _ => rfl) (sm [] _ _ rfl rfl) (fun j7 n7 v7 h => ?_) (fun v8 s h hs => ?_)
  ·unfold Gs.partitionEqual_L7 at h
   refine Ab ?_
   refine AO h (fun v9 => mk [(0, oD (.own 90000)), (1, iD p1), (4, oD (.clo (Bb (Cm true Aj true Aj) Bg p4))), (11, iD v7), (12, iD v5.2.2), (47, bD v9)] [(90000, .vec 3 (v5.1.map Aj))]) (fun j9 h => ?_) (fun v9 h => ?_)
   ·refine Aa Ac rfl (qm rfl (qm rfl (H3 rfl (qm rfl ?_))))
    refine AF (t := 34) rfl (fun c10 => ?_) (fun c10 => ?_)
    ·have h := An c10 h
     refine qm rfl (qm rfl (qm rfl ?_))
     obtain ⟨v11, a11, b11, h⟩ := Ai h
     refine qI A3 AA a11 (Af b11) rfl (qJ A9 AA (Af b11) rfl (qm rfl (qm rfl ?_)))
     obtain ⟨v12, a12, b12, h⟩ := Ai h
     refine qI A3 AA a12 (Af b12) rfl (qJ A9 AA (Af b12) rfl ?_)
     obtain ⟨v13, a13, h⟩ := bind_some h
     refine CA (ds0 := [_, _]) (ar := (Cm true Aj true Aj) ((v11, v12))) (.g rfl rfl) rfl rfl ⟨rfl, rfl, tv⟩ rfl rfl rfl (CC (C7 _ _ _ _ BI BI) a13) ?_
     refine AV rfl (BZ rfl (qp rfl (AB (by kernel_rfl) ?_)))
     exact As _ h (sm [] _ _ rfl rfl)
    ·have h := Ao c10 h
     refine qn rfl (qn rfl (qn rfl (qn rfl (qn rfl (qn rfl (qn rfl (qn rfl (qn rfl (qn rfl (qn rfl (qn rfl (qp rfl (AB (by kernel_rfl) ?_)))))))))))))
     exact As _ h (sm [] _ _ rfl rfl)
   ·refine Ap rfl (fun c14 => ?_) (fun c14 => ?_)
    ·have h := An c14 h
     refine Aq (AJ (Aa Ac rfl (qm rfl (AP rfl (qa rfl (Ae ?_))))))
     exact As _ h (sm [] _ _ rfl rfl)
    ·have h := Ao c14 h
     refine AT ?_
     exact As _ h (sm [] _ _ rfl rfl)
  ·refine Am hs (Ab ?_)
   refine AE (L := Gs.partitionEqual_L15 N p1 p4 v5 v8) h (fun v15 => mk [(0, oD (.own 90000)), (1, iD p1), (4, oD (.clo (Bb (Cm true Aj true Aj) Bg p4))), (11, iD v8), (12, iD v15)] [(90000, .vec 3 (v5.1.map Aj))]) (fun v16 => mk [(0, oD (.own 90000)), (1, iD p1), (4, oD (.clo (Bb (Cm true Aj true Aj) Bg p4))), (11, iD v8), (12, iD v16)] [(90000, .vec 3 (v5.1.map Aj))]) (fun _ _ => rfl) (sm [] _ _ rfl rfl) (fun j15 n15 v15 h => ?_) (fun v16 s h hs => ?_)
   ·unfold Gs.partitionEqual_L15 at h
    refine Ab ?_
    refine AO h (fun v17 => mk [(0, oD (.own 90000)), (1, iD p1), (4, oD (.clo (Bb (Cm true Aj true Aj) Bg p4))), (11, iD v8), (12, iD v15), (65, bD v17)] [(90000, .vec 3 (v5.1.map Aj))]) (fun j17 h => ?_) (fun v17 h => ?_)
    ·refine Aa Ac rfl (qm rfl (qm rfl (H3 rfl (qm rfl ?_))))
     refine AF (t := 53) rfl (fun c18 => ?_) (fun c18 => ?_)
     ·have h := An c18 h
      refine qm rfl (qm rfl (qm rfl ?_))
      obtain ⟨v19, a19, b19, h⟩ := Ai h
      refine qI A3 AA a19 (Af b19) rfl (qJ A9 AA (Af b19) rfl (qm rfl (qm rfl ?_)))
      obtain ⟨v20, a20, b20, h⟩ := Ai h
      refine qI A3 AA a20 (Af b20) rfl (qJ A9 AA (Af b20) rfl ?_)
      obtain ⟨v21, a21, h⟩ := bind_some h
      refine CA (ds0 := [_, _]) (ar := (Cm true Aj true Aj) ((v19, v20))) (.g rfl rfl) rfl rfl ⟨rfl, rfl, tv⟩ rfl rfl rfl (CC (C7 _ _ _ _ BI BI) a21) ?_
      refine AV rfl (qp rfl (AB (by kernel_rfl) ?_))
      exact As _ h (sm [] _ _ rfl rfl)
     ·have h := Ao c18 h
      refine qn rfl (qn rfl (qn rfl (qn rfl (qn rfl (qn rfl (qn rfl (qn rfl (qn rfl (qn rfl (qn rfl (qp rfl (AB (by kernel_rfl) ?_))))))))))))
      exact As _ h (sm [] _ _ rfl rfl)
    ·refine Ap rfl (fun c22 => ?_) (fun c22 => ?_)
     ·have h := An c22 h
      refine Aq (AJ (Aa Ac rfl (qm rfl (Bk rfl (qa rfl (Ae ?_))))))
      exact As _ h (sm [] _ _ rfl rfl)
     ·have h := Ao c22 h
      refine AT ?_
      exact As _ h (sm [] _ _ rfl rfl)
   ·refine Am hs (Ab (Ab (Aa Ac rfl (qm rfl (qm rfl (Ey rfl (Ae ?_)))))))
    refine Ap rfl (fun c23 => ?_) (fun c23 => ?_)
    ·have h := An c23 h
     refine AT ?_
     exact As _ h (sm [] _ _ rfl rfl)
    ·have h := Ao c23 h
     refine Aq (Ab (Aa Ac rfl (qm rfl (qm rfl (qm rfl (qm rfl (qm rfl (qm rfl ?_))))))))
     obtain ⟨v24, a24, b24, h⟩ := Ai h
     refine qI A3 AA a24 (Af b24) rfl (qJ A9 AA (Af b24) rfl (qm rfl (qm rfl ?_)))
     obtain ⟨v25, a25, b25, h⟩ := Ai h
     refine qI A3 AA a25 (Af b25) rfl (qJ A9 AA (Af b25) rfl ?_)
     obtain ⟨v26, a26, b26, h⟩ := Ai h
     refine qI A3 AA a26 (Af b26) rfl ?_
     refine A0 rfl rfl rfl rfl (Af b26) rfl AA rfl (A7 rfl) (AY Aj v5.1 _ v24) ?_
     obtain ⟨v27, a27, b27, h⟩ := Ai h
     refine qI A3 AA a27 (Af b27) rfl ?_
     refine A0 rfl rfl rfl rfl (Af b27) rfl AA rfl (A7 rfl) (AY Aj (v5.1.set ((v8).toNat) v24) _ v25) ?_
     refine AB (by kernel_rfl) (Ab (Aa Ac rfl (qm rfl (AP rfl (qa rfl (Ae (Aa Ac rfl (qm rfl (Bk rfl (qa rfl (Ae ?_)))))))))))
     exact As _ h (sm [] _ _ rfl rfl)
 ·refine Am hs (Ab (Aa Ac rfl (qm rfl (qa rfl (Ae ?_)))))
  obtain rfl := sj h
  refine Am (sm [] [(10, iD v6.2)] [(90000, .vec 3 (v6.1.map Aj))] rfl rfl) (Az ?_)
  exact ⟨⟨[_], ⟨.tmp _ _ rfl, tv⟩, rfl⟩, ⟨rfl, tv⟩, tv⟩
theorem HE (N : Nat) (p0 : List Ah) (p1 : Int) (p2 : Int) (p3 : Int) (p4 : (Ah × Ah) → Option Int) (r : Int × Bool × (List Ah)) (h : Gs.partition N p0 p1 p2 p3 p4 = some r) : Bh Tryz.prog 152 [oD (.own 90000), iD p1, iD p2, iD p3, oD (.clo (Bb (Cm true Aj true Aj) Bg p4))] [(.vec 3 (p0.map Aj), .vec 3 (r.2.2.map Aj))] [] (.tup [.one (iC r.1), .one (.pure (.val (.bool r.2.1)))]) := by
 unfold Gs.partition at h
 refine Ba (n := 178) (rs := [.tmp 10, .tmp 11]) Tryz.func152 rfl rfl rfl (A7 rfl) (A7 rfl) rfl rfl (A7 rfl) rfl (A7 rfl) fun w0 S0 GL => ?_
 refine Am (sm [] [(0, oD (.own 90000)), (1, iD p1), (2, iD p2), (3, iD p3), (4, oD (.clo (Bb (Cm true Aj true Aj) Bg p4)))] [(90000, .vec 3 (p0.map Aj))] rfl rfl) (Ab (Aa Ac rfl (qa rfl (qa rfl (Ae (Ab (Aa Ac rfl (qm rfl (qm rfl (qm rfl (qm rfl (qm rfl (qm rfl ?_)))))))))))))
 obtain ⟨v1, a1, b1, h⟩ := Ai h
 refine qI A3 AA a1 (Af b1) rfl (qJ A9 AA (Af b1) rfl (qm rfl (qm rfl ?_)))
 obtain ⟨v2, a2, b2, h⟩ := Ai h
 refine qI A3 AA a2 (Af b2) rfl (qJ A9 AA (Af b2) rfl ?_)
 obtain ⟨v3, a3, b3, h⟩ := Ai h
 refine qI A3 AA a3 (Af b3) rfl ?_
 refine A0 rfl rfl rfl rfl (Af b3) rfl AA rfl (A7 rfl) (AY Aj p0 _ v1) ?_
 obtain ⟨v4, a4, b4, h⟩ := Ai h
 refine qI A3 AA a4 (Af b4) rfl ?_
 refine A0 rfl rfl rfl rfl (Af b4) rfl AA rfl (A7 rfl) (AY Aj (p0.set ((p1).toNat) v1) _ v2) ?_
 refine AB (by kernel_rfl) (Ab (Aa Ac rfl (qm rfl (AP rfl (qm rfl (Bk rfl (qa rfl (qa rfl (Ae (Ab ?_))))))))))
 refine AE (L := Gs.partition_L5 N p0 p1 p2 p3 p4 v1 v2) h (fun v5 => mk [(0, oD (.own 90000)), (1, iD p1), (4, oD (.clo (Bb (Cm true Aj true Aj) Bg p4))), (12, iD v5), (13, iD ((wI .i64 (p2 - 1))))] [(90000, .vec 3 (((p0.set ((p1).toNat) v1).set ((p3).toNat) v2).map Aj))]) (fun v6 => mk [(0, oD (.own 90000)), (1, iD p1), (4, oD (.clo (Bb (Cm true Aj true Aj) Bg p4))), (12, iD v6), (13, iD ((wI .i64 (p2 - 1))))] [(90000, .vec 3 (((p0.set ((p1).toNat) v1).set ((p3).toNat) v2).map Aj))]) (fun _ _ => rfl) (sm [] _ _ rfl rfl) (fun j5 n5 v5 h => ?_) (fun v6 s h hs => ?_)
 ·unfold Gs.partition_L5 at h
  refine Ab ?_
  refine AO h (fun v7 => mk [(0, oD (.own 90000)), (1, iD p1), (4, oD (.clo (Bb (Cm true Aj true Aj) Bg p4))), (12, iD v5), (13, iD ((wI .i64 (p2 - 1)))), (47, bD v7)] [(90000, .vec 3 (((p0.set ((p1).toNat) v1).set ((p3).toNat) v2).map Aj))]) (fun j7 h => ?_) (fun v7 h => ?_)
  ·refine Aa Ac rfl (qm rfl (qm rfl (H3 rfl (qm rfl ?_))))
   refine AF (t := 35) rfl (fun c8 => ?_) (fun c8 => ?_)
   ·have h := An c8 h
    refine qm rfl (qm rfl (qm rfl ?_))
    obtain ⟨v9, a9, b9, h⟩ := Ai h
    refine qI A3 AA a9 (Af b9) rfl (qJ A9 AA (Af b9) rfl (qm rfl (qm rfl ?_)))
    obtain ⟨v10, a10, b10, h⟩ := Ai h
    refine qI A3 AA a10 (Af b10) rfl (qJ A9 AA (Af b10) rfl ?_)
    obtain ⟨v11, a11, h⟩ := bind_some h
    refine CA (ds0 := [_, _]) (ar := (Cm true Aj true Aj) ((v9, v10))) (.g rfl rfl) rfl rfl ⟨rfl, rfl, tv⟩ rfl rfl rfl (CC (C7 _ _ _ _ BI BI) a11) ?_
    refine AV rfl (qp rfl (AB (by kernel_rfl) ?_))
    exact As _ h (sm [] _ _ rfl rfl)
   ·have h := Ao c8 h
    refine qn rfl (qn rfl (qn rfl (qn rfl (qn rfl (qn rfl (qn rfl (qn rfl (qn rfl (qn rfl (qn rfl (qp rfl (AB (by kernel_rfl) ?_))))))))))))
    exact As _ h (sm [] _ _ rfl rfl)
  ·refine Ap rfl (fun c12 => ?_) (fun c12 => ?_)
   ·have h := An c12 h
    refine Aq (AJ (Aa Ac rfl (qm rfl (AP rfl (qa rfl (Ae ?_))))))
    exact As _ h (sm [] _ _ rfl rfl)
   ·have h := Ao c12 h
    refine AT ?_
    exact As _ h (sm [] _ _ rfl rfl)
 ·refine Am hs (Ab ?_)
  refine AE (L := Gs.partition_L13 N p0 p1 p3 p4 v1 v2 v6) h (fun v13 => mk [(0, oD (.own 90000)), (1, iD p1), (4, oD (.clo (Bb (Cm true Aj true Aj) Bg p4))), (12, iD v6), (13, iD v13)] [(90000, .vec 3 (((p0.set ((p1).toNat) v1).set ((p3).toNat) v2).map Aj))]) (fun v14 => mk [(0, oD (.own 90000)), (1, iD p1), (4, oD (.clo (Bb (Cm true Aj true Aj) Bg p4))), (12, iD v6), (13, iD v14)] [(90000, .vec 3 (((p0.set ((p1).toNat) v1).set ((p3).toNat) v2).map Aj))]) (fun _ _ => rfl) (sm [] _ _ rfl rfl) (fun j13 n13 v13 h => ?_) (fun v14 s h hs => ?_)
  ·unfold Gs.partition_L13 at h
   refine Ab ?_
   refine AO h (fun v15 => mk [(0, oD (.own 90000)), (1, iD p1), (4, oD (.clo (Bb (Cm true Aj true Aj) Bg p4))), (12, iD v6), (13, iD v13), (66, bD v15)] [(90000, .vec 3 (((p0.set ((p1).toNat) v1).set ((p3).toNat) v2).map Aj))]) (fun j15 h => ?_) (fun v15 h => ?_)
   ·refine Aa Ac rfl (qm rfl (qm rfl (H3 rfl (qm rfl ?_))))
    refine AF (t := 53) rfl (fun c16 => ?_) (fun c16 => ?_)
    ·have h := An c16 h
     refine qm rfl (qm rfl (qm rfl ?_))
     obtain ⟨v17, a17, b17, h⟩ := Ai h
     refine qI A3 AA a17 (Af b17) rfl (qJ A9 AA (Af b17) rfl (qm rfl (qm rfl ?_)))
     obtain ⟨v18, a18, b18, h⟩ := Ai h
     refine qI A3 AA a18 (Af b18) rfl (qJ A9 AA (Af b18) rfl ?_)
     obtain ⟨v19, a19, h⟩ := bind_some h
     refine CA (ds0 := [_, _]) (ar := (Cm true Aj true Aj) ((v17, v18))) (.g rfl rfl) rfl rfl ⟨rfl, rfl, tv⟩ rfl rfl rfl (CC (C7 _ _ _ _ BI BI) a19) ?_
     refine AV rfl (BZ rfl (qp rfl (AB (by kernel_rfl) ?_)))
     exact As _ h (sm [] _ _ rfl rfl)
    ·have h := Ao c16 h
     refine qn rfl (qn rfl (qn rfl (qn rfl (qn rfl (qn rfl (qn rfl (qn rfl (qn rfl (qn rfl (qn rfl (qn rfl (qp rfl (AB (by kernel_rfl) ?_)))))))))))))
     exact As _ h (sm [] _ _ rfl rfl)
   ·refine Ap rfl (fun c20 => ?_) (fun c20 => ?_)
    ·have h := An c20 h
     refine Aq (AJ (Aa Ac rfl (qm rfl (Bk rfl (qa rfl (Ae ?_))))))
     exact As _ h (sm [] _ _ rfl rfl)
    ·have h := Ao c20 h
     refine AT ?_
     exact As _ h (sm [] _ _ rfl rfl)
  ·refine Am hs (Ab (Ab (Aa Ac rfl (qm rfl (qm rfl (Ey rfl (Ae ?_)))))))
   refine Ap rfl (fun c21 => ?_) (fun c21 => ?_)
   ·have h := An c21 h
    refine Ab (Aa Ac rfl (qm rfl (qm rfl (qm rfl (qm rfl (qm rfl (qm rfl ?_)))))))
    obtain ⟨v22, a22, b22, h⟩ := Ai h
    refine qI A3 AA a22 (Af b22) rfl (qJ A9 AA (Af b22) rfl (qm rfl (qm rfl ?_)))
    obtain ⟨v23, a23, b23, h⟩ := Ai h
    refine qI A3 AA a23 (Af b23) rfl (qJ A9 AA (Af b23) rfl ?_)
    obtain ⟨v24, a24, b24, h⟩ := Ai h
    refine qI A3 AA a24 (Af b24) rfl ?_
    refine A0 rfl rfl rfl rfl (Af b24) rfl AA rfl (A7 rfl) (AY Aj ((p0.set ((p1).toNat) v1).set ((p3).toNat) v2) _ v22) ?_
    obtain ⟨v25, a25, b25, h⟩ := Ai h
    refine qI A3 AA a25 (Af b25) rfl ?_
    refine A0 rfl rfl rfl rfl (Af b25) rfl AA rfl (A7 rfl) (AY Aj (((p0.set ((p1).toNat) v1).set ((p3).toNat) v2).set ((v14).toNat) v22) _ v23) ?_
    refine AB (by kernel_rfl) (Ab (Aa Ac rfl (qm rfl (qa rfl (qa rfl (Ae ?_))))))
    obtain rfl := sj h
    refine Am (sm [] [(10, iD v14), (11, bD true)] [(90000, .vec 3 (((((p0.set ((p1).toNat) v1).set ((p3).toNat) v2).set ((v14).toNat) v22).set ((p1).toNat) v23).map Aj))] rfl rfl) (Az ?_)
    exact ⟨⟨[_, _], ⟨.tmp _ _ rfl, ⟨.tmp _ _ rfl, tv⟩⟩, rfl⟩, ⟨rfl, tv⟩, tv⟩
   ·have h := Ao c21 h
    refine Aq (Ab (Aa Ac rfl (qm rfl (qm rfl (qm rfl (qm rfl (qm rfl (qm rfl ?_))))))))
    obtain ⟨v26, a26, b26, h⟩ := Ai h
    refine qI A3 AA a26 (Af b26) rfl (qJ A9 AA (Af b26) rfl (qm rfl (qm rfl ?_)))
    obtain ⟨v27, a27, b27, h⟩ := Ai h
    refine qI A3 AA a27 (Af b27) rfl (qJ A9 AA (Af b27) rfl ?_)
    obtain ⟨v28, a28, b28, h⟩ := Ai h
    refine qI A3 AA a28 (Af b28) rfl ?_
    refine A0 rfl rfl rfl rfl (Af b28) rfl AA rfl (A7 rfl) (AY Aj ((p0.set ((p1).toNat) v1).set ((p3).toNat) v2) _ v26) ?_
    obtain ⟨v29, a29, b29, h⟩ := Ai h
    refine qI A3 AA a29 (Af b29) rfl ?_
    refine A0 rfl rfl rfl rfl (Af b29) rfl AA rfl (A7 rfl) (AY Aj (((p0.set ((p1).toNat) v1).set ((p3).toNat) v2).set ((v6).toNat) v26) _ v27) ?_
    refine AB (by kernel_rfl) (Ab (Aa Ac rfl (qm rfl (AP rfl (qa rfl (Ae (Ab (Aa Ac rfl (qm rfl (Bk rfl (qa rfl (Ae (Ab ?_)))))))))))))
    refine AE (L := Gs.partition_L30 N p1 p4) h (fun v30 => mk [(0, oD (.own 90000)), (1, iD p1), (4, oD (.clo (Bb (Cm true Aj true Aj) Bg p4))), (12, iD v30.2.1), (13, iD v30.2.2)] [(90000, .vec 3 (v30.1.map Aj))]) (fun v31 => mk [(0, oD (.own 90000)), (1, iD p1), (13, iD v31.2)] [(90000, .vec 3 (v31.1.map Aj))]) (fun _ _ => rfl) (sm [] _ _ rfl rfl) (fun j30 n30 v30 h => ?_) (fun v31 s h hs => ?_)
    ·unfold Gs.partition_L30 at h
     refine AJ (Ab ?_)
     refine AE (L := Gs.partition_L32 N p1 p4 v30) h (fun v32 => mk [(0, oD (.own 90000)), (1, iD p1), (4, oD (.clo (Bb (Cm true Aj true Aj) Bg p4))), (12, iD v32), (13, iD v30.2.2)] [(90000, .vec 3 (v30.1.map Aj))]) (fun v33 => mk [(0, oD (.own 90000)), (1, iD p1), (4, oD (.clo (Bb (Cm true Aj true Aj) Bg p4))), (12, iD v33), (13, iD v30.2.2)] [(90000, .vec 3 (v30.1.map Aj))]) (fun _ _ => rfl) (sm [] _ _ rfl rfl) (fun j32 n32 v32 h => ?_) (fun v33 s h hs => ?_)
     ·unfold Gs.partition_L32 at h
      refine Ab ?_
      refine AO h (fun v34 => mk [(0, oD (.own 90000)), (1, iD p1), (4, oD (.clo (Bb (Cm true Aj true Aj) Bg p4))), (12, iD v32), (13, iD v30.2.2), (120, bD v34)] [(90000, .vec 3 (v30.1.map Aj))]) (fun j34 h => ?_) (fun v34 h => ?_)
      ·refine Aa Ac rfl (qm rfl (qm rfl (H3 rfl (qm rfl ?_))))
       refine AF (t := 108) rfl (fun c35 => ?_) (fun c35 => ?_)
       ·have h := An c35 h
        refine qm rfl (qm rfl (qm rfl ?_))
        obtain ⟨v36, a36, b36, h⟩ := Ai h
        refine qI A3 AA a36 (Af b36) rfl (qJ A9 AA (Af b36) rfl (qm rfl (qm rfl ?_)))
        obtain ⟨v37, a37, b37, h⟩ := Ai h
        refine qI A3 AA a37 (Af b37) rfl (qJ A9 AA (Af b37) rfl ?_)
        obtain ⟨v38, a38, h⟩ := bind_some h
        refine CA (ds0 := [_, _]) (ar := (Cm true Aj true Aj) ((v36, v37))) (.g rfl rfl) rfl rfl ⟨rfl, rfl, tv⟩ rfl rfl rfl (CC (C7 _ _ _ _ BI BI) a38) ?_
        refine AV rfl (qp rfl (AB (by kernel_rfl) ?_))
        exact As _ h (sm [] _ _ rfl rfl)
       ·have h := Ao c35 h
        refine qn rfl (qn rfl (qn rfl (qn rfl (qn rfl (qn rfl (qn rfl (qn rfl (qn rfl (qn rfl (qn rfl (qp rfl (AB (by kernel_rfl) ?_))))))))))))
        exact As _ h (sm [] _ _ rfl rfl)
      ·refine Ap rfl (fun c39 => ?_) (fun c39 => ?_)
       ·have h := An c39 h
        refine Aq (AJ (Aa Ac rfl (qm rfl (AP rfl (qa rfl (Ae ?_))))))
        exact As _ h (sm [] _ _ rfl rfl)
       ·have h := Ao c39 h
        refine AT ?_
        exact As _ h (sm [] _ _ rfl rfl)
     ·refine Am hs (Ab ?_)
      refine AE (L := Gs.partition_L40 N p1 p4 v30 v33) h (fun v40 => mk [(0, oD (.own 90000)), (1, iD p1), (4, oD (.clo (Bb (Cm true Aj true Aj) Bg p4))), (12, iD v33), (13, iD v40)] [(90000, .vec 3 (v30.1.map Aj))]) (fun v41 => mk [(0, oD (.own 90000)), (1, iD p1), (4, oD (.clo (Bb (Cm true Aj true Aj) Bg p4))), (12, iD v33), (13, iD v41)] [(90000, .vec 3 (v30.1.map Aj))]) (fun _ _ => rfl) (sm [] _ _ rfl rfl) (fun j40 n40 v40 h => ?_) (fun v41 s h hs => ?_)
      ·unfold Gs.partition_L40 at h
       refine Ab ?_
       refine AO h (fun v42 => mk [(0, oD (.own 90000)), (1, iD p1), (4, oD (.clo (Bb (Cm true Aj true Aj) Bg p4))), (12, iD v33), (13, iD v40), (139, bD v42)] [(90000, .vec 3 (v30.1.map Aj))]) (fun j42 h => ?_) (fun v42 h => ?_)
       ·refine Aa Ac rfl (qm rfl (qm rfl (H3 rfl (qm rfl ?_))))
        refine AF (t := 126) rfl (fun c43 => ?_) (fun c43 => ?_)
        ·have h := An c43 h
         refine qm rfl (qm rfl (qm rfl ?_))
         obtain ⟨v44, a44, b44, h⟩ := Ai h
         refine qI A3 AA a44 (Af b44) rfl (qJ A9 AA (Af b44) rfl (qm rfl (qm rfl ?_)))
         obtain ⟨v45, a45, b45, h⟩ := Ai h
         refine qI A3 AA a45 (Af b45) rfl (qJ A9 AA (Af b45) rfl ?_)
         obtain ⟨v46, a46, h⟩ := bind_some h
         refine CA (ds0 := [_, _]) (ar := (Cm true Aj true Aj) ((v44, v45))) (.g rfl rfl) rfl rfl ⟨rfl, rfl, tv⟩ rfl rfl rfl (CC (C7 _ _ _ _ BI BI) a46) ?_
         refine AV rfl (BZ rfl (qp rfl (AB (by kernel_rfl) ?_)))
         exact As _ h (sm [] _ _ rfl rfl)
        ·have h := Ao c43 h
         refine qn rfl (qn rfl (qn rfl (qn rfl (qn rfl (qn rfl (qn rfl (qn rfl (qn rfl (qn rfl (qn rfl (qn rfl (qp rfl (AB (by kernel_rfl) ?_)))))))))))))
         exact As _ h (sm [] _ _ rfl rfl)
       ·refine Ap rfl (fun c47 => ?_) (fun c47 => ?_)
        ·have h := An c47 h
         refine Aq (AJ (Aa Ac rfl (qm rfl (Bk rfl (qa rfl (Ae ?_))))))
         exact As _ h (sm [] _ _ rfl rfl)
        ·have h := Ao c47 h
         refine AT ?_
         exact As _ h (sm [] _ _ rfl rfl)
      ·refine Am hs (Ab (Ab (Aa Ac rfl (qm rfl (qm rfl (Ey rfl (Ae ?_)))))))
       refine Ap rfl (fun c48 => ?_) (fun c48 => ?_)
       ·have h := An c48 h
        refine AT ?_
        exact As _ h (sm [] _ _ rfl rfl)
       ·have h := Ao c48 h
        refine Aq (Ab (Aa Ac rfl (qm rfl (qm rfl (qm rfl (qm rfl (qm rfl (qm rfl ?_))))))))
        obtain ⟨v49, a49, b49, h⟩ := Ai h
        refine qI A3 AA a49 (Af b49) rfl (qJ A9 AA (Af b49) rfl (qm rfl (qm rfl ?_)))
        obtain ⟨v50, a50, b50, h⟩ := Ai h
        refine qI A3 AA a50 (Af b50) rfl (qJ A9 AA (Af b50) rfl ?_)
        obtain ⟨v51, a51, b51, h⟩ := Ai h
        refine qI A3 AA a51 (Af b51) rfl ?_
        refine A0 rfl rfl rfl rfl (Af b51) rfl AA rfl (A7 rfl) (AY Aj v30.1 _ v49) ?_
        obtain ⟨v52, a52, b52, h⟩ := Ai h
        refine qI A3 AA a52 (Af b52) rfl ?_
        refine A0 rfl rfl rfl rfl (Af b52) rfl AA rfl (A7 rfl) (AY Aj (v30.1.set ((v33).toNat) v49) _ v50) ?_
        refine AB (by kernel_rfl) (Ab (Aa Ac rfl (qm rfl (AP rfl (qa rfl (Ae (Aa Ac rfl (qm rfl (Bk rfl (qa rfl (Ae ?_)))))))))))
        exact As _ h (sm [] _ _ rfl rfl)
    ·refine Am hs (Ab (Aa Ac rfl (qm rfl (qm rfl (qm rfl (qm rfl (qm rfl (qm rfl ?_))))))))
     obtain ⟨v53, a53, b53, h⟩ := Ai h
     refine qI A3 AA a53 (Af b53) rfl (qJ A9 AA (Af b53) rfl (qm rfl (qm rfl ?_)))
     obtain ⟨v54, a54, b54, h⟩ := Ai h
     refine qI A3 AA a54 (Af b54) rfl (qJ A9 AA (Af b54) rfl ?_)
     obtain ⟨v55, a55, b55, h⟩ := Ai h
     refine qI A3 AA a55 (Af b55) rfl ?_
     refine A0 rfl rfl rfl rfl (Af b55) rfl AA rfl (A7 rfl) (AY Aj v31.1 _ v53) ?_
     obtain ⟨v56, a56, b56, h⟩ := Ai h
     refine qI A3 AA a56 (Af b56) rfl ?_
     refine A0 rfl rfl rfl rfl (Af b56) rfl AA rfl (A7 rfl) (AY Aj (v31.1.set ((v31.2).toNat) v53) _ v54) ?_
     refine AB (by kernel_rfl) (Ab (Aa Ac rfl (qm rfl (qa rfl (qa rfl (Ae ?_))))))
     obtain rfl := sj h
     refine Am (sm [] [(10, iD v31.2), (11, bD false)] [(90000, .vec 3 (((v31.1.set ((v31.2).toNat) v53).set ((p1).toNat) v54).map Aj))] rfl rfl) (Az ?_)
     exact ⟨⟨[_, _], ⟨.tmp _ _ rfl, ⟨.tmp _ _ rfl, tv⟩⟩, rfl⟩, ⟨rfl, tv⟩, tv⟩
theorem HH (N : Nat) (rc : (List Ah) → Int → Int → Int → ((Ah × Ah) → Option Int) → Option ((List Ah))) (hrc : ∀ (p0 : List Ah) (p1 : Int) (p2 : Int) (p3 : Int) (p4 : (Ah × Ah) → Option Int) (r : (List Ah)), rc p0 p1 p2 p3 p4 = some r → Bh Tryz.prog 118 [oD (.own 90000), iD p1, iD p2, iD p3, oD (.clo (Bb (Cm true Aj true Aj) Bg p4))] [(.vec 3 (p0.map Aj), .vec 3 (r.map Aj))] [] (.tup [])) (p0 : List Ah) (p1 : Int) (p2 : Int) (p3 : Int) (p4 : (Ah × Ah) → Option Int) (r : (List Ah)) (h : Gs.pdqsort_B N rc p0 p1 p2 p3 p4 = some r) : Bh Tryz.prog 118 [oD (.own 90000), iD p1, iD p2, iD p3, oD (.clo (Bb (Cm true Aj true Aj) Bg p4))] [(.vec 3 (p0.map Aj), .vec 3 (r.map Aj))] [] (.tup []) := by
 unfold Gs.pdqsort_B at h
 refine Ba (n := 148) (rs := []) Tryz.func118 rfl rfl rfl (A7 rfl) (A7 rfl) rfl rfl (A7 rfl) rfl (A7 rfl) fun w0 S0 GL => Jy ?_
 refine Am (sm [] [(0, oD (.own 90000)), (1, iD p1), (2, iD p2), (3, iD p3), (4, oD (.clo (Bb (Cm true Aj true Aj) Bg p4)))] [(90000, .vec 3 (p0.map Aj))] rfl rfl) (Ab (Aa Ac rfl (qa rfl (Ae (Ab (Aa Ac rfl (qa rfl (Ae ?_))))))))
 refine AE (L := Gs.pdqsort_L1 N p4 rc) h (fun v1 => mk [(0, oD (.own 90000)), (1, iD v1.2.1), (2, iD v1.2.2.1), (3, iD v1.2.2.2.1), (4, oD (.clo (Bb (Cm true Aj true Aj) Bg p4))), (10, bD v1.2.2.2.2.1), (11, bD v1.2.2.2.2.2)] [(90000, .vec 3 (v1.1.map Aj))]) (fun v2 => mk [] []) (fun _ _ => rfl) (sm [] _ _ rfl rfl) (fun j1 n1 v1 h => ?_) (fun v2 s h hs => ?_)
 ·unfold Gs.pdqsort_L1 at h
  refine AJ (Ab (Aa Ac rfl (qm rfl (qm rfl (Bk rfl (qa rfl (Ae (Ab (Ab (Aa Ac rfl (qm rfl (H3 rfl (Ae ?_)))))))))))))
  refine Ap rfl (fun c3 => ?_) (fun c3 => ?_)
  ·have h := An c3 h
   refine Ab (Aa Ac rfl (qm rfl (qm rfl (qm rfl (qm rfl ?_)))))
   obtain ⟨v4, a4, h⟩ := bind_some h
   refine BC (ds0 := [_, _, _, _]) [90000] [] [true] (GG N v1.1 v1.2.1 v1.2.2.1 p4 v4 a4) (.p rfl) YZ rfl ⟨rfl, rfl, rfl, rfl, tv⟩ rfl rfl (by decide) ⟨rfl, tv⟩ rfl (A2 rfl) tv ⟨(fun h => by cases h), tv⟩ rfl rfl rfl ?_
   refine Ae ?_
   obtain rfl := sj h
   refine Az ⟨_, (sm [] [] [(90000, .vec 3 (v4.map Aj))] rfl rfl), ?_⟩
   exact ⟨⟨[], tv, rfl⟩, ⟨rfl, tv⟩, tv⟩
  ·have h := Ao c3 h
   refine Aq (Ab (Ab (Aa Ac rfl (qm rfl (BL rfl (Ae ?_))))))
   refine Ap rfl (fun c5 => ?_) (fun c5 => ?_)
   ·have h := An c5 h
    refine Ab (Aa Ac rfl (qm rfl (qm rfl (qm rfl (qm rfl ?_)))))
    obtain ⟨v6, a6, h⟩ := bind_some h
    refine BC (ds0 := [_, _, _, _]) [90000] [] [true] (HL N v1.1 v1.2.1 v1.2.2.1 p4 v6 a6) (.p rfl) YR rfl ⟨rfl, rfl, rfl, rfl, tv⟩ rfl rfl (by decide) ⟨rfl, tv⟩ rfl (A2 rfl) tv ⟨(fun h => by cases h), tv⟩ rfl rfl rfl ?_
    refine Ae ?_
    obtain rfl := sj h
    refine Az ⟨_, (sm [] [] [(90000, .vec 3 (v6.map Aj))] rfl rfl), ?_⟩
    exact ⟨⟨[], tv, rfl⟩, ⟨rfl, tv⟩, tv⟩
   ·have h := Ao c5 h
    refine Aq ?_
    refine AO h (fun v7 => mk [(0, oD (.own 90000)), (1, iD v1.2.1), (2, iD v1.2.2.1), (3, iD v7.2), (4, oD (.clo (Bb (Cm true Aj true Aj) Bg p4))), (10, bD v1.2.2.2.2.1), (11, bD v1.2.2.2.2.2), (12, iD ((wI .i64 (v1.2.2.1 - v1.2.1))))] [(90000, .vec 3 (v7.1.map Aj))]) (fun j7 h => ?_) (fun v7 h => ?_)
    ·refine Ab (Aa Ac rfl (qm rfl (BZ rfl (Ae ?_))))
     refine Ap rfl (fun c8 => ?_) (fun c8 => ?_)
     ·have h := An c8 h
      refine Ab (Aa Ac rfl (qm rfl (qm rfl (qm rfl (qm rfl ?_)))))
      obtain ⟨v9, a9, h⟩ := bind_some h
      refine BC (ds0 := [_, _, _, _]) [90000] [] [true] (GP N v1.1 v1.2.1 v1.2.2.1 p4 v9 a9) (.p rfl) YB rfl ⟨rfl, rfl, rfl, rfl, tv⟩ rfl rfl (by decide) ⟨rfl, tv⟩ rfl (A2 rfl) tv ⟨(fun h => by cases h), tv⟩ rfl rfl rfl ?_
      refine Ae (Aa Ac rfl (qm rfl (Bk rfl (qa rfl (Ae ?_)))))
      exact As _ h (sm [] _ _ rfl rfl)
     ·have h := Ao c8 h
      refine Aq ?_
      exact As _ h (sm [] _ _ rfl rfl)
    ·refine Ab (Aa Ac rfl (qm rfl (qm rfl (qm rfl (qm rfl ?_)))))
     obtain ⟨v10, a10, h⟩ := bind_some h
     refine DC [] [90000] (G1 N v7.1 v1.2.1 v1.2.2.1 p4 v10 a10) X8 Cj rfl (qm rfl (qx rfl (qx rfl (qa rfl (qa rfl (Ae ?_))))))
     refine AO h (fun v11 => mk [(0, oD (.own 90000)), (1, iD v1.2.1), (2, iD v1.2.2.1), (3, iD v7.2), (4, oD (.clo (Bb (Cm true Aj true Aj) Bg p4))), (10, bD v1.2.2.2.2.1), (11, bD v1.2.2.2.2.2), (12, iD ((wI .i64 (v1.2.2.1 - v1.2.1)))), (13, iD v11.2.1), (14, iD v11.2.2)] [(90000, .vec 3 (v11.1.map Aj))]) (fun j11 h => ?_) (fun v11 h => ?_)
     ·refine Ab (Aa Ac rfl (qm rfl (BL rfl (Ae ?_))))
      refine Ap rfl (fun c12 => ?_) (fun c12 => ?_)
      ·have h := An c12 h
       refine Ab (Aa Ac rfl (qm rfl (qm rfl (qm rfl (qm rfl ?_)))))
       obtain ⟨v13, a13, h⟩ := bind_some h
       refine BC (ds0 := [_, _, _, _]) [90000] [] [true] (GT N v7.1 v1.2.1 v1.2.2.1 p4 v13 a13) (.p rfl) Yz rfl ⟨rfl, rfl, rfl, rfl, tv⟩ rfl rfl (by decide) ⟨rfl, tv⟩ rfl (A2 rfl) tv ⟨(fun h => by cases h), tv⟩ rfl rfl rfl ?_
       refine Ae (Ab (Aa Ac rfl (qm rfl (Bk rfl (qm rfl (qm rfl (Bk rfl (Bk rfl (qa rfl (Ae (Aa Ac rfl (qa rfl (Ae ?_)))))))))))))
       exact As _ h (sm [] _ _ rfl rfl)
      ·have h := Ao c12 h
       refine Aq ?_
       exact As _ h (sm [] _ _ rfl rfl)
     ·refine AO h (fun v14 => mk [(0, oD (.own 90000)), (1, iD v1.2.1), (2, iD v1.2.2.1), (3, iD v7.2), (4, oD (.clo (Bb (Cm true Aj true Aj) Bg p4))), (10, bD v1.2.2.2.2.1), (11, bD v1.2.2.2.2.2), (12, iD ((wI .i64 (v1.2.2.1 - v1.2.1)))), (13, iD v11.2.1)] [(90000, .vec 3 (v14.map Aj))]) (fun j14 h => ?_) (fun v14 h => ?_)
      ·refine AO h (fun v15 => mk [(0, oD (.own 90000)), (1, iD v1.2.1), (2, iD v1.2.2.1), (3, iD v7.2), (4, oD (.clo (Bb (Cm true Aj true Aj) Bg p4))), (10, bD v1.2.2.2.2.1), (11, bD v1.2.2.2.2.2), (12, iD ((wI .i64 (v1.2.2.1 - v1.2.1)))), (13, iD v11.2.1), (75, bD v15)] [(90000, .vec 3 (v11.1.map Aj))]) (fun j15 h => ?_) (fun v15 h => ?_)
       ·refine Aa Ac rfl (qm rfl (qm rfl ?_))
        refine AF (t := 69) rfl (fun c16 => ?_) (fun c16 => ?_)
        ·have h := An c16 h
         refine qm rfl (qp rfl (qm rfl ?_))
         refine AF (t := 72) rfl (fun c17 => ?_) (fun c17 => ?_)
         ·have h := An c17 h
          refine qm rfl (BL rfl (qp rfl (Ae ?_)))
          exact As _ h (sm [] _ _ rfl rfl)
         ·have h := Ao c17 h
          refine qn rfl (qn rfl (qp rfl (Ae ?_)))
          exact As _ h (sm [] _ _ rfl rfl)
        ·have h := Ao c16 h
         refine qn rfl (qp rfl (qm rfl (qn rfl (qn rfl (qp rfl (Ae ?_))))))
         exact As _ h (sm [] _ _ rfl rfl)
       ·refine Ap rfl (fun c18 => ?_) (fun c18 => ?_)
        ·have h := An c18 h
         refine Ab (Aa Ac rfl (qm rfl (qm rfl (qm rfl (qm rfl ?_)))))
         obtain ⟨v19, a19, h⟩ := bind_some h
         refine BC (ds0 := [_, _, _, _]) [90000] [] [true] (FL N v11.1 v1.2.1 v1.2.2.1 p4 v19 a19) (.p rfl) X9 rfl ⟨rfl, rfl, rfl, rfl, tv⟩ rfl rfl (by decide) ⟨rfl, tv⟩ rfl (A2 rfl) tv ⟨(fun h => by cases h), tv⟩ rfl rfl rfl ?_
         refine Ae ?_
         refine Ap rfl (fun c20 => ?_) (fun c20 => ?_)
         ·have h := An c20 h
          obtain rfl := sj h
          refine Az ⟨_, (sm [] [] [(90000, .vec 3 (v19.2.map Aj))] rfl rfl), ?_⟩
          exact ⟨⟨[], tv, rfl⟩, ⟨rfl, tv⟩, tv⟩
         ·have h := Ao c20 h
          refine Aq ?_
          exact As _ h (sm [] _ _ rfl rfl)
        ·have h := Ao c18 h
         refine Aq ?_
         exact As _ h (sm [] _ _ rfl rfl)
      ·refine Ab ?_
       refine AO h (fun v21 => mk [(0, oD (.own 90000)), (1, iD v1.2.1), (2, iD v1.2.2.1), (3, iD v7.2), (4, oD (.clo (Bb (Cm true Aj true Aj) Bg p4))), (10, bD v1.2.2.2.2.1), (11, bD v1.2.2.2.2.2), (12, iD ((wI .i64 (v1.2.2.1 - v1.2.1)))), (13, iD v11.2.1), (97, bD v21)] [(90000, .vec 3 (v14.map Aj))]) (fun j21 h => ?_) (fun v21 h => ?_)
       ·refine Aa Ac rfl (qm rfl (Ey rfl (qm rfl ?_)))
        refine AF (t := 83) rfl (fun c22 => ?_) (fun c22 => ?_)
        ·have h := An c22 h
         refine qm rfl (qm rfl (qm rfl (Bk rfl ?_)))
         obtain ⟨v23, a23, b23, h⟩ := Ai h
         refine qI A3 AA a23 (Af b23) rfl (qJ A9 AA (Af b23) rfl (qm rfl (qm rfl ?_)))
         obtain ⟨v24, a24, b24, h⟩ := Ai h
         refine qI A3 AA a24 (Af b24) rfl (qJ A9 AA (Af b24) rfl ?_)
         obtain ⟨v25, a25, h⟩ := bind_some h
         refine CA (ds0 := [_, _]) (ar := (Cm true Aj true Aj) ((v23, v24))) (.g rfl rfl) rfl rfl ⟨rfl, rfl, tv⟩ rfl rfl rfl (CC (C7 _ _ _ _ BI BI) a25) ?_
         refine AV rfl (BZ rfl (qp rfl (AB (by kernel_rfl) ?_)))
         exact As _ h (sm [] _ _ rfl rfl)
        ·have h := Ao c22 h
         refine qn rfl (qn rfl (qn rfl (qn rfl (qn rfl (qn rfl (qn rfl (qn rfl (qn rfl (qn rfl (qn rfl (qn rfl (qn rfl (qp rfl (AB (by kernel_rfl) ?_))))))))))))))
         exact As _ h (sm [] _ _ rfl rfl)
       ·refine Ap rfl (fun c26 => ?_) (fun c26 => ?_)
        ·have h := An c26 h
         refine Ab (Aa Ac rfl (qm rfl (qm rfl (qm rfl (qm rfl (qm rfl ?_))))))
         obtain ⟨v27, a27, h⟩ := bind_some h
         refine BC (ds0 := [_, _, _, _, _]) [90000] [] [true] (GB N v14 v1.2.1 v1.2.2.1 v11.2.1 p4 v27 a27) (.p rfl) Yj rfl ⟨rfl, rfl, rfl, rfl, rfl, tv⟩ rfl rfl (by decide) ⟨rfl, tv⟩ rfl (A2 rfl) tv ⟨(fun h => by cases h), tv⟩ rfl rfl rfl ?_
         refine qa rfl (Ae (Ab (Aa Ac rfl (qm rfl (qa rfl (Ae (AT ?_)))))))
         exact As _ h (sm [] _ _ rfl rfl)
        ·have h := Ao c26 h
         refine Aq (Ab (Aa Ac rfl (qm rfl (qm rfl (qm rfl (qm rfl (qm rfl ?_)))))))
         obtain ⟨v28, a28, h⟩ := bind_some h
         refine BC (ds0 := [_, _, _, _, _]) [90000] [] [true] (HE N v14 v1.2.1 v1.2.2.1 v11.2.1 p4 v28 a28) (.p rfl) YG rfl ⟨rfl, rfl, rfl, rfl, rfl, tv⟩ rfl rfl (by decide) ⟨rfl, tv⟩ rfl (A2 rfl) tv ⟨(fun h => by cases h), tv⟩ rfl rfl rfl ?_
         refine qm rfl (qx rfl (qx rfl (qa rfl (qa rfl (Ae (Ab (Aa Ac rfl (qm rfl (qa rfl (Ae (Ab (Aa Ac rfl (qm rfl (qm rfl (Bk rfl (qm rfl (qm rfl (Bk rfl (qa rfl (qa rfl (Ae (Ab (Aa Ac rfl (qm rfl (Jz rfl (by decide) (qa rfl (Ae (Ab (Aa Ac rfl (qm rfl (qm rfl (AV rfl (Ae ?_)))))))))))))))))))))))))))))))))
         refine Ap rfl (fun c29 => ?_) (fun c29 => ?_)
         ·have h := An c29 h
          refine Ab (Aa Ac rfl (qm rfl (qm rfl (Cz rfl (qa rfl (Ae (Ab (Aa Ac rfl (qm rfl (qm rfl (qm rfl (qm rfl (qm rfl ?_)))))))))))))
          obtain ⟨v30, a30, h⟩ := bind_some h
          refine BC (ds0 := [_, _, _, _, _]) [90000] [] [true] (hrc v28.2.2 v1.2.1 v28.1 v7.2 p4 v30 a30) (.p rfl) TZ rfl ⟨rfl, rfl, rfl, rfl, rfl, tv⟩ rfl rfl (by decide) ⟨rfl, tv⟩ rfl (A2 rfl) tv ⟨(fun h => by cases h), tv⟩ rfl rfl rfl ?_
          refine Ae (Aa Ac rfl (qm rfl (AP rfl (qa rfl (Ae ?_)))))
          exact As _ h (sm [] _ _ rfl rfl)
         ·have h := Ao c29 h
          refine Ab (Aa Ac rfl (qm rfl (qm rfl (Cz rfl (qa rfl (Ae (Ab (Aa Ac rfl (qm rfl (qm rfl (AP rfl (qm rfl (qm rfl (qm rfl ?_))))))))))))))
          obtain ⟨v31, a31, h⟩ := bind_some h
          refine BC (ds0 := [_, _, _, _, _]) [90000] [] [true] (hrc v28.2.2 ((wI .i64 (v28.1 + 1))) v1.2.2.1 v7.2 p4 v31 a31) (.p rfl) TZ rfl ⟨rfl, rfl, rfl, rfl, rfl, tv⟩ rfl rfl (by decide) ⟨rfl, tv⟩ rfl (A2 rfl) tv ⟨(fun h => by cases h), tv⟩ rfl rfl rfl ?_
          refine Ae (Aa Ac rfl (qm rfl (qa rfl (Ae ?_))))
          exact As _ h (sm [] _ _ rfl rfl)
 ·cases h
theorem Fi (N : Nat) : ∀ (k : Nat) (p0 : List Ah) (p1 : Int) (p2 : Int) (p3 : Int) (p4 : (Ah × Ah) → Option Int) (r : (List Ah)), Gs.pdqsort_R N k p0 p1 p2 p3 p4 = some r → Bh Tryz.prog 118 [oD (.own 90000), iD p1, iD p2, iD p3, oD (.clo (Bb (Cm true Aj true Aj) Bg p4))] [(.vec 3 (p0.map Aj), .vec 3 (r.map Aj))] [] (.tup [])
 | 0, _, _, _, _, _, _, h => by cases h
 | k + 1, p0, p1, p2, p3, p4, r, h => HH N (Gs.pdqsort_R N k) (Fi N k) p0 p1 p2 p3 p4 r h
theorem HY (N : Nat) (p0 : List Ah) (p1 : Int) (p2 : Int) (p3 : Int) (p4 : (Ah × Ah) → Option Int) (r : (List Ah)) (h : Gs.pdqsort N p0 p1 p2 p3 p4 = some r) : Bh Tryz.prog 118 [oD (.own 90000), iD p1, iD p2, iD p3, oD (.clo (Bb (Cm true Aj true Aj) Bg p4))] [(.vec 3 (p0.map Aj), .vec 3 (r.map Aj))] [] (.tup []) := Fi N N p0 p1 p2 p3 p4 r h
theorem HG (N : Nat) (p0 : List Ah) (p1 : (Ah × Ah) → Option Int) (r : (List Ah)) (h : D1 N p0 p1 = some r) : Bh Tryz.prog 86 [oD (.own 90000), oD (.clo (Bb (Cm true Aj true Aj) Bg p1))] [(.vec 3 (p0.map Aj), .vec 3 (r.map Aj))] [] (.tup []) := by
 unfold D1 at h
 refine Ba (n := 14) (rs := []) Tryz.func86 rfl rfl rfl (A7 rfl) (A7 rfl) rfl rfl (A7 rfl) rfl (A7 rfl) fun w0 S0 GL => Jy ?_
 refine Am (sm [] [(0, oD (.own 90000)), (1, oD (.clo (Bb (Cm true Aj true Aj) Bg p1)))] [(90000, .vec 3 (p0.map Aj))] rfl rfl) (Ab (Aa Ac rfl (qm rfl (Ex A3 rfl (qa rfl (Ae (Aa Ac rfl (qm rfl (qm rfl (qm rfl (Gq T1 Nl rfl ?_)))))))))))
 obtain ⟨v1, a1, h⟩ := bind_some h
 refine AG [] (Iu N ((wI .u64 ((p0.length : Int)))) v1 a1) Vh rfl (qm rfl ?_)
 obtain ⟨v2, a2, h⟩ := bind_some h
 refine BC (ds0 := [_, _, _, _, _]) [90000] [] [true] (HY N p0 0 ((p0.length : Int)) v1 p1 v2 a2) (.p rfl) TZ rfl ⟨rfl, rfl, rfl, rfl, rfl, tv⟩ rfl rfl (by decide) ⟨rfl, tv⟩ rfl (A2 rfl) tv ⟨(fun h => by cases h), tv⟩ rfl rfl rfl ?_
 refine Ae ?_
 obtain rfl := sj h
 refine ⟨_, (sm [] [] [(90000, .vec 3 (v2.map Aj))] rfl rfl), ?_⟩
 exact ⟨⟨[], tv, rfl⟩, ⟨rfl, tv⟩, tv⟩
theorem Kr (N : Nat) (p0 : Int) (r : Bool) (h : FM N p0 = some r) : AC Tryz.prog 106 [iD p0] [] (bD r) := by
 unfold FM at h
 refine Au (n := 6) (rs := [.tmp 2]) Tryz.func106 rfl rfl rfl (A7 rfl) (A7 rfl) rfl fun w0 S0 => ?_
 refine Ab (Aa Ac rfl (qa rfl (Ae (Ab (Aa Ac rfl (qm rfl (qm rfl (B3 rfl (qa rfl (Ae ?_))))))))))
 obtain rfl := sj h
 refine Am (sm [] [(2, bD ((p0 != p0)))] [] rfl rfl) (Az ?_)
 exact ⟨⟨[_], ⟨.tmp _ _ rfl, tv⟩, rfl⟩, tv⟩
theorem Gm (N : Nat) (p0 : Int) (p1 : Int) (r : Int) (h : Dn N p0 p1 = some r) : AC Tryz.prog 62 [iD p0, iD p1] [] (iD r) := by
 unfold Dn at h
 refine Au (n := 20) (rs := [.tmp 4]) Tryz.func62 rfl rfl rfl (A7 rfl) (A7 rfl) rfl fun w0 S0 => ?_
 refine Ab (Aa Ac rfl (qa rfl (Ae (Ab (Aa Ac rfl (qm rfl ?_))))))
 obtain ⟨v1, a1, h⟩ := bind_some h
 refine AG [] (Kr N p0 v1 a1) WI rfl (qa rfl (Ae (Ab (Aa Ac rfl (qm rfl ?_)))))
 obtain ⟨v2, a2, h⟩ := bind_some h
 refine AG [] (Kr N p1 v2 a2) WI rfl (qa rfl (Ae (Ab (Ab (Aa Ac rfl (qm rfl (Ae ?_)))))))
 refine Ap rfl (fun c3 => ?_) (fun c3 => ?_)
 ·have h := An c3 h
  refine Ab (Ab (Aa Ac rfl (qm rfl (Ae ?_))))
  refine Ap rfl (fun c4 => ?_) (fun c4 => ?_)
  ·have h := An c4 h
   refine Ab (Aa Ac rfl (qa rfl (Ae ?_)))
   obtain rfl := sj h
   refine Am (sm [] [(4, iD 0)] [] rfl rfl) (Az ?_)
   exact ⟨⟨[_], ⟨.tmp _ _ rfl, tv⟩, rfl⟩, tv⟩
  ·have h := Ao c4 h
   refine Aq (Ab (Aa Ac rfl (qa rfl (Ae ?_))))
   obtain rfl := sj h
   refine Am (sm [] [(4, iD ((-1)))] [] rfl rfl) (Az ?_)
   exact ⟨⟨[_], ⟨.tmp _ _ rfl, tv⟩, rfl⟩, tv⟩
 ·have h := Ao c3 h
  refine Aq (Ab (Ab (Aa Ac rfl (qm rfl (Ae ?_)))))
  refine Ap rfl (fun c5 => ?_) (fun c5 => ?_)
  ·have h := An c5 h
   refine Ab (Aa Ac rfl (qa rfl (Ae ?_)))
   obtain rfl := sj h
   refine Am (sm [] [(4, iD 1)] [] rfl rfl) (Az ?_)
   exact ⟨⟨[_], ⟨.tmp _ _ rfl, tv⟩, rfl⟩, tv⟩
  ·have h := Ao c5 h
   refine Aq (Ab (Ab (Aa Ac rfl (qm rfl (qm rfl (AV rfl (Ae ?_)))))))
   refine Ap rfl (fun c6 => ?_) (fun c6 => ?_)
   ·have h := An c6 h
    refine Ab (Aa Ac rfl (qa rfl (Ae ?_)))
    obtain rfl := sj h
    refine Am (sm [] [(4, iD ((-1)))] [] rfl rfl) (Az ?_)
    exact ⟨⟨[_], ⟨.tmp _ _ rfl, tv⟩, rfl⟩, tv⟩
   ·have h := Ao c6 h
    refine Aq (Ab (Ab (Aa Ac rfl (qm rfl (qm rfl (Ey rfl (Ae ?_)))))))
    refine Ap rfl (fun c7 => ?_) (fun c7 => ?_)
    ·have h := An c7 h
     refine Ab (Aa Ac rfl (qa rfl (Ae ?_)))
     obtain rfl := sj h
     refine Am (sm [] [(4, iD 1)] [] rfl rfl) (Az ?_)
     exact ⟨⟨[_], ⟨.tmp _ _ rfl, tv⟩, rfl⟩, tv⟩
    ·have h := Ao c7 h
     refine Aq (Ab (Aa Ac rfl (qa rfl (Ae ?_))))
     obtain rfl := sj h
     refine Am (sm [] [(4, iD 0)] [] rfl rfl) (Az ?_)
     exact ⟨⟨[_], ⟨.tmp _ _ rfl, tv⟩, rfl⟩, tv⟩
theorem He (N : Nat) (p0 : List Int) (p1 : List Int) (r : Int) (h : En N p0 p1 = some r) : AC Tryz.prog 92 [pD (.sl (p0.map Al)), pD (.sl (p1.map Al))] [] (iD r) := by
 unfold En at h
 refine Au (n := 36) (rs := [.tmp 4]) Tryz.func92 rfl rfl rfl (A7 rfl) (A7 rfl) rfl fun w0 S0 => ?_
 refine Ab (Aa Ac rfl (qa rfl (Ae (Ab (Ab (Aa Ac rfl (qm rfl (AX AM rfl (qm rfl (Ae ?_))))))))))
 refine AE (L := DY N p0 p1) h (fun v1 => mk [(0, pD (.sl (p0.map Al))), (1, pD (.sl (p1.map Al))), (9, pD (.sl (p0.map Al))), (10, iD ((p0.length : Int))), (11, iD v1)] []) (fun v2 => mk [(0, pD (.sl (p0.map Al))), (1, pD (.sl (p1.map Al)))] []) (fun _ _ => rfl) (sm [] _ _ rfl rfl) (fun j1 n1 v1 h => ?_) (fun v2 s h hs => ?_)
 ·unfold DY at h
  refine Ab (Aa Ac rfl (AV rfl (Ae (Ab ?_))))
  refine Ap rfl (fun c3 => ?_) (fun c3 => ?_)
  ·have h := An c3 h
   refine Aq (Ab (AJ (Ab (Aa Ac rfl (qm rfl ?_)))))
   obtain ⟨v4, a4, b4, h⟩ := Ai h
   refine qi AM Dw a4 (Af b4) rfl (qk B6 rfl (qa rfl (qa rfl (Ae (Ab (Ab (Aa Ac rfl (qm rfl (qm rfl (AX AM rfl (Cz rfl (Ae ?_))))))))))))
   refine Ap rfl (fun c5 => ?_) (fun c5 => ?_)
   ·have h := An c5 h
    refine Ab (Aa Ac rfl (qa rfl (Ae ?_)))
    obtain rfl := sj h
    refine Am (sm [] [(4, iD 1)] [] rfl rfl) (Az ?_)
    exact ⟨⟨[_], ⟨.tmp _ _ rfl, tv⟩, rfl⟩, tv⟩
   ·have h := Ao c5 h
    refine Aq (Ab (Aa Ac rfl (qm rfl (qm rfl ?_))))
    obtain ⟨v6, a6, b6, h⟩ := Ai h
    refine qi AM Dw a6 (Af b6) rfl (qk B6 rfl (qa rfl (Ae (Ab (Aa Ac rfl (qm rfl (qm rfl ?_)))))))
    obtain ⟨v7, a7, h⟩ := bind_some h
    refine AG [] (Gm N v4 v6 v7 a7) Wv rfl (qa rfl (Ae (Ab (Aa Ac rfl (qm rfl (B3 rfl (Ae ?_)))))))
    refine Ap rfl (fun c8 => ?_) (fun c8 => ?_)
    ·have h := An c8 h
     refine Ab (Aa Ac rfl (qm rfl (qa rfl (Ae ?_))))
     obtain rfl := sj h
     refine Am (sm [] [(4, iD v7)] [] rfl rfl) (Az ?_)
     exact ⟨⟨[_], ⟨.tmp _ _ rfl, tv⟩, rfl⟩, tv⟩
    ·have h := Ao c8 h
     refine Aq (Aa Ac rfl (AP rfl (qm rfl (Ae ?_))))
     exact As _ h (sm [] _ _ rfl rfl)
  ·have h := Ao c3 h
   refine AT ?_
   exact As _ h (sm [] _ _ rfl rfl)
 ·refine Am hs (Ab (Ab (Aa Ac rfl (qm rfl (AX AM rfl (qm rfl (AX AM rfl (AV rfl (Ae ?_)))))))))
  refine Ap rfl (fun c9 => ?_) (fun c9 => ?_)
  ·have h := An c9 h
   refine Ab (Aa Ac rfl (qa rfl (Ae ?_)))
   obtain rfl := sj h
   refine Am (sm [] [(4, iD ((-1)))] [] rfl rfl) (Az ?_)
   exact ⟨⟨[_], ⟨.tmp _ _ rfl, tv⟩, rfl⟩, tv⟩
  ·have h := Ao c9 h
   refine Aq (Ab (Aa Ac rfl (qa rfl (Ae ?_))))
   obtain rfl := sj h
   refine Am (sm [] [(4, iD 0)] [] rfl rfl) (Az ?_)
   exact ⟨⟨[_], ⟨.tmp _ _ rfl, tv⟩, rfl⟩, tv⟩
theorem IF (N : Nat) (p0 : Int) (r : Bool) (h : Fm N p0 = some r) : AC Tryz.prog 155 [pD (.val (.int .u8 p0))] [] (bD r) := by
 unfold Fm at h
 refine Au (n := 6) (rs := [.tmp 2]) Tryz.func155 rfl rfl rfl (A7 rfl) (A7 rfl) rfl fun w0 S0 => ?_
 refine Ab (Aa Ac rfl (qa rfl (Ae (Ab (Aa Ac rfl (qm rfl (qm rfl (B3 rfl (qa rfl (Ae ?_))))))))))
 obtain rfl := sj h
 refine Am (sm [] [(2, bD ((p0 != p0)))] [] rfl rfl) (Az ?_)
 exact ⟨⟨[_], ⟨.tmp _ _ rfl, tv⟩, rfl⟩, tv⟩
theorem Ku (N : Nat) (p0 : Int) (p1 : Int) (r : Int) (h : FT N p0 p1 = some r) : AC Tryz.prog 121 [pD (.val (.int .u8 p0)), pD (.val (.int .u8 p1))] [] (iD r) := by
 unfold FT at h
 refine Au (n := 20) (rs := [.tmp 4]) Tryz.func121 rfl rfl rfl (A7 rfl) (A7 rfl) rfl fun w0 S0 => ?_
 refine Ab (Aa Ac rfl (qa rfl (Ae (Ab (Aa Ac rfl (qm rfl ?_))))))
 obtain ⟨v1, a1, h⟩ := bind_some h
 refine AG [] (IF N p0 v1 a1) W1 rfl (qa rfl (Ae (Ab (Aa Ac rfl (qm rfl ?_)))))
 obtain ⟨v2, a2, h⟩ := bind_some h
 refine AG [] (IF N p1 v2 a2) W1 rfl (qa rfl (Ae (Ab (Ab (Aa Ac rfl (qm rfl (Ae ?_)))))))
 refine Ap rfl (fun c3 => ?_) (fun c3 => ?_)
 ·have h := An c3 h
  refine Ab (Ab (Aa Ac rfl (qm rfl (Ae ?_))))
  refine Ap rfl (fun c4 => ?_) (fun c4 => ?_)
  ·have h := An c4 h
   refine Ab (Aa Ac rfl (qa rfl (Ae ?_)))
   obtain rfl := sj h
   refine Am (sm [] [(4, iD 0)] [] rfl rfl) (Az ?_)
   exact ⟨⟨[_], ⟨.tmp _ _ rfl, tv⟩, rfl⟩, tv⟩
  ·have h := Ao c4 h
   refine Aq (Ab (Aa Ac rfl (qa rfl (Ae ?_))))
   obtain rfl := sj h
   refine Am (sm [] [(4, iD ((-1)))] [] rfl rfl) (Az ?_)
   exact ⟨⟨[_], ⟨.tmp _ _ rfl, tv⟩, rfl⟩, tv⟩
 ·have h := Ao c3 h
  refine Aq (Ab (Ab (Aa Ac rfl (qm rfl (Ae ?_)))))
  refine Ap rfl (fun c5 => ?_) (fun c5 => ?_)
  ·have h := An c5 h
   refine Ab (Aa Ac rfl (qa rfl (Ae ?_)))
   obtain rfl := sj h
   refine Am (sm [] [(4, iD 1)] [] rfl rfl) (Az ?_)
   exact ⟨⟨[_], ⟨.tmp _ _ rfl, tv⟩, rfl⟩, tv⟩
  ·have h := Ao c5 h
   refine Aq (Ab (Ab (Aa Ac rfl (qm rfl (qm rfl (AV rfl (Ae ?_)))))))
   refine Ap rfl (fun c6 => ?_) (fun c6 => ?_)
   ·have h := An c6 h
    refine Ab (Aa Ac rfl (qa rfl (Ae ?_)))
    obtain rfl := sj h
    refine Am (sm [] [(4, iD ((-1)))] [] rfl rfl) (Az ?_)
    exact ⟨⟨[_], ⟨.tmp _ _ rfl, tv⟩, rfl⟩, tv⟩
   ·have h := Ao c6 h
    refine Aq (Ab (Ab (Aa Ac rfl (qm rfl (qm rfl (Ey rfl (Ae ?_)))))))
    refine Ap rfl (fun c7 => ?_) (fun c7 => ?_)
    ·have h := An c7 h
     refine Ab (Aa Ac rfl (qa rfl (Ae ?_)))
     obtain rfl := sj h
     refine Am (sm [] [(4, iD 1)] [] rfl rfl) (Az ?_)
     exact ⟨⟨[_], ⟨.tmp _ _ rfl, tv⟩, rfl⟩, tv⟩
    ·have h := Ao c7 h
     refine Aq (Ab (Aa Ac rfl (qa rfl (Ae ?_))))
     obtain rfl := sj h
     refine Am (sm [] [(4, iD 0)] [] rfl rfl) (Az ?_)
     exact ⟨⟨[_], ⟨.tmp _ _ rfl, tv⟩, rfl⟩, tv⟩
theorem HJ (N : Nat) (p0 : List Int) (p1 : List Int) (r : Int) (h : Ec N p0 p1 = some r) : AC Tryz.prog 93 [pD (.sl (p0.map Bj)), pD (.sl (p1.map Bj))] [] (iD r) := by
 unfold Ec at h
 refine Au (n := 36) (rs := [.tmp 4]) Tryz.func93 rfl rfl rfl (A7 rfl) (A7 rfl) rfl fun w0 S0 => ?_
 refine Ab (Aa Ac rfl (qa rfl (Ae (Ab (Ab (Aa Ac rfl (qm rfl (AX Dg rfl (qm rfl (Ae ?_))))))))))
 refine AE (L := CT N p0 p1) h (fun v1 => mk [(0, pD (.sl (p0.map Bj))), (1, pD (.sl (p1.map Bj))), (9, pD (.sl (p0.map Bj))), (10, iD ((p0.length : Int))), (11, iD v1)] []) (fun v2 => mk [(0, pD (.sl (p0.map Bj))), (1, pD (.sl (p1.map Bj)))] []) (fun _ _ => rfl) (sm [] _ _ rfl rfl) (fun j1 n1 v1 h => ?_) (fun v2 s h hs => ?_)
 ·unfold CT at h
  refine Ab (Aa Ac rfl (AV rfl (Ae (Ab ?_))))
  refine Ap rfl (fun c3 => ?_) (fun c3 => ?_)
  ·have h := An c3 h
   refine Aq (Ab (AJ (Ab (Aa Ac rfl (qm rfl ?_)))))
   obtain ⟨v4, a4, b4, h⟩ := Ai h
   refine qi Dg FN a4 (Af b4) rfl (qk Kq rfl (qa rfl (qa rfl (Ae (Ab (Ab (Aa Ac rfl (qm rfl (qm rfl (AX Dg rfl (Cz rfl (Ae ?_))))))))))))
   refine Ap rfl (fun c5 => ?_) (fun c5 => ?_)
   ·have h := An c5 h
    refine Ab (Aa Ac rfl (qa rfl (Ae ?_)))
    obtain rfl := sj h
    refine Am (sm [] [(4, iD 1)] [] rfl rfl) (Az ?_)
    exact ⟨⟨[_], ⟨.tmp _ _ rfl, tv⟩, rfl⟩, tv⟩
   ·have h := Ao c5 h
    refine Aq (Ab (Aa Ac rfl (qm rfl (qm rfl ?_))))
    obtain ⟨v6, a6, b6, h⟩ := Ai h
    refine qi Dg FN a6 (Af b6) rfl (qk Kq rfl (qa rfl (Ae (Ab (Aa Ac rfl (qm rfl (qm rfl ?_)))))))
    obtain ⟨v7, a7, h⟩ := bind_some h
    refine AG [] (Ku N v4 v6 v7 a7) YY rfl (qa rfl (Ae (Ab (Aa Ac rfl (qm rfl (B3 rfl (Ae ?_)))))))
    refine Ap rfl (fun c8 => ?_) (fun c8 => ?_)
    ·have h := An c8 h
     refine Ab (Aa Ac rfl (qm rfl (qa rfl (Ae ?_))))
     obtain rfl := sj h
     refine Am (sm [] [(4, iD v7)] [] rfl rfl) (Az ?_)
     exact ⟨⟨[_], ⟨.tmp _ _ rfl, tv⟩, rfl⟩, tv⟩
    ·have h := Ao c8 h
     refine Aq (Aa Ac rfl (AP rfl (qm rfl (Ae ?_))))
     exact As _ h (sm [] _ _ rfl rfl)
  ·have h := Ao c3 h
   refine AT ?_
   exact As _ h (sm [] _ _ rfl rfl)
 ·refine Am hs (Ab (Ab (Aa Ac rfl (qm rfl (AX Dg rfl (qm rfl (AX Dg rfl (AV rfl (Ae ?_)))))))))
  refine Ap rfl (fun c9 => ?_) (fun c9 => ?_)
  ·have h := An c9 h
   refine Ab (Aa Ac rfl (qa rfl (Ae ?_)))
   obtain rfl := sj h
   refine Am (sm [] [(4, iD ((-1)))] [] rfl rfl) (Az ?_)
   exact ⟨⟨[_], ⟨.tmp _ _ rfl, tv⟩, rfl⟩, tv⟩
  ·have h := Ao c9 h
   refine Aq (Ab (Aa Ac rfl (qa rfl (Ae ?_))))
   obtain rfl := sj h
   refine Am (sm [] [(4, iD 0)] [] rfl rfl) (Az ?_)
   exact ⟨⟨[_], ⟨.tmp _ _ rfl, tv⟩, rfl⟩, tv⟩
theorem Mq (N : Nat) (p0 : List Int) (r : Int) (h : F5 N p0 = some r) : AC Tryz.prog 61 [pD (.sl (p0.map Al))] [] (iD r) := by
 unfold F5 at h
 refine Au (n := 18) (rs := [.tmp 2]) Tryz.func61 rfl rfl rfl (A7 rfl) (A7 rfl) rfl fun w0 S0 => ?_
 refine Ab (Aa Ac rfl (qa rfl (Ae (Ab (Aa Ac rfl (qa rfl (Ae (Ab (Ab (Aa Ac rfl (qm rfl (AX AM rfl (qm rfl (Ae ?_))))))))))))))
 refine AE (L := E3 N p0) h (fun v1 => mk [(3, iD 0), (6, pD (.sl (p0.map Al))), (7, iD ((p0.length : Int))), (8, iD v1)] []) (fun v2 => mk [(3, iD 0)] []) (fun _ _ => rfl) (sm [] _ _ rfl rfl) (fun j1 n1 v1 h => ?_) (fun v2 s h hs => ?_)
 ·unfold E3 at h
  refine Ab (Aa Ac rfl (AV rfl (Ae (Ab ?_))))
  refine Ap rfl (fun c3 => ?_) (fun c3 => ?_)
  ·have h := An c3 h
   refine Aq (Ab (AJ (Ab (Aa Ac rfl ?_))))
   obtain ⟨v4, a4, b4, h⟩ := Ai h
   refine qi AM Dw a4 (Af b4) rfl (qk B6 rfl (qa rfl (Ae (Ab (Aa Ac rfl (qm rfl (qm rfl (B3 rfl (Ae ?_)))))))))
   refine Ap rfl (fun c5 => ?_) (fun c5 => ?_)
   ·have h := An c5 h
    refine Ab (Aa Ac rfl (qm rfl (qa rfl (Ae ?_))))
    obtain rfl := sj h
    refine Am (sm [] [(2, iD v4)] [] rfl rfl) (Az ?_)
    exact ⟨⟨[_], ⟨.tmp _ _ rfl, tv⟩, rfl⟩, tv⟩
   ·have h := Ao c5 h
    refine Aq (Aa Ac rfl (AP rfl (qm rfl (Ae ?_))))
    exact As _ h (sm [] _ _ rfl rfl)
  ·have h := Ao c3 h
   refine AT ?_
   exact As _ h (sm [] _ _ rfl rfl)
 ·refine Am hs (Ab (Aa Ac rfl (qm rfl (qa rfl (Ae ?_)))))
  obtain rfl := sj h
  refine Am (sm [] [(2, iD 0)] [] rfl rfl) (Az ?_)
  exact ⟨⟨[_], ⟨.tmp _ _ rfl, tv⟩, rfl⟩, tv⟩
theorem JF (N : Nat) (p0 : Ah) (p1 : Ah) (r : Int) (h : E9 N p0 p1 = some r) : AC Tryz.prog 46 [.e (.agg [sC (p0.fBase.map Al), sC (p0.fNext.map Al), sC (p0.fHeld.map Bj)]), .e (.agg [sC (p1.fBase.map Al), sC (p1.fNext.map Al), sC (p1.fHeld.map Bj)])] [] (iD r) := by
 unfold E9 at h
 refine Au (n := 22) (rs := [.tmp 4]) Tryz.func46 rfl rfl rfl (A7 rfl) (A7 rfl) rfl fun w0 S0 => ?_
 refine Ab (Aa Ac rfl (qb rfl (qb rfl (qa rfl (Ae (Ab (Aa Ac rfl (qf CY rfl (ql Bu rfl (qf CY rfl (ql Bu rfl ?_)))))))))))
 obtain ⟨v1, a1, h⟩ := bind_some h
 refine AG [] (He N p0.fBase p1.fBase v1 a1) Zc rfl (qf BJ rfl (ql Bu rfl (qf BJ rfl (ql Bu rfl ?_))))
 obtain ⟨v2, a2, h⟩ := bind_some h
 refine AG [] (He N p0.fNext p1.fNext v2 a2) Zc rfl (qf CS rfl (ql G4 rfl (qf CS rfl (ql G4 rfl ?_))))
 obtain ⟨v3, a3, h⟩ := bind_some h
 refine AG [] (HJ N p0.fHeld p1.fHeld v3 a3) Z9 rfl (D8 AM Dw Kv rfl ?_)
 obtain ⟨v4, a4, h⟩ := bind_some h
 refine DC [] [20] (Mq N (([v1, v2, v3] : List Int)) v4 a4) Zr Cj rfl (qa rfl (AB (by kernel_rfl) ?_))
 obtain rfl := sj h
 refine Am (sm [] [(4, iD v4)] [] rfl rfl) (Az ?_)
 exact ⟨⟨[_], ⟨.tmp _ _ rfl, tv⟩, rfl⟩, tv⟩
theorem OG (N : Nat) (p0 : Ak) (r : (List Ah) × Int) (h : Ix N p0 = some r) : AC Tryz.prog 40 [.e (.agg [sC (p0.fVersions.map Al), sC (p0.fNow.map Al), sC (p0.fTarget.map Al), sC (p0.fTables.map Ar)])] [(3, r.1.map Aj)] (.tup [.one (.own 0), .one (iC r.2)]) := by
 unfold Ix at h
 refine Au (n := 73) (rs := [.tmp 2, .tmp 3]) Tryz.func40 rfl rfl rfl (A7 rfl) (A7 rfl) rfl fun w0 S0 => ?_
 refine Ab (Aa Ac rfl (qb rfl (qa rfl (qa rfl (Ae (Ab (Aa Ac rfl (qL DO Dv rfl ?_))))))))
 obtain ⟨v1, a1, h⟩ := bind_some h
 refine AG [2001, 2002, 2003] (OZ N p0 v1 a1) ZV rfl (qm rfl (qx rfl (qx rfl (qx rfl (qz CI rfl (qs AA rfl (qa rfl (qa rfl (Ae (Ab ?_))))))))))
 refine AO h (fun v2 => mk [(1, oD (.ptr 1 0)), (4, oD (.ptr 4 0)), (6, iD v1.2.2), (25, bD v2)] [(1, .box [sC (p0.fVersions.map Al), sC (p0.fNow.map Al), sC (p0.fTarget.map Al), sC (p0.fTables.map Ar)]), (4, .box [.own 2004, .own 2005, .own 2006]), (2004, .vec 1 (v1.1.fBase.map Al)), (2005, .vec 1 (v1.1.fNext.map Al)), (2006, .vec 1 (v1.1.fHeld.map Bj))]) (fun j2 h => ?_) (fun v2 h => ?_)
 ·refine Aa Ac rfl (qm rfl (B3 rfl (qm rfl ?_)))
  refine AF (t := 22) rfl (fun c3 => ?_) (fun c3 => ?_)
  ·have h := An c3 h
   refine qn rfl (qn rfl (qp rfl (Ae ?_)))
   exact As _ h (sm [(2004, 2001), (2005, 2002), (2006, 2003)] _ _ rfl rfl)
  ·have h := Ao c3 h
   refine qm rfl (BZ rfl (qp rfl (Ae ?_)))
   exact As _ h (sm [(2004, 2001), (2005, 2002), (2006, 2003)] _ _ rfl rfl)
 ·refine Ap rfl (fun c4 => ?_) (fun c4 => ?_)
  ·have h := An c4 h
   refine Ab (Aa Ac rfl (qm rfl (qa rfl (qa rfl (Ae ?_)))))
   obtain rfl := sj h
   refine Am ((Br 2 2007 3 rfl rfl rfl).trans (sm [(1000, 2007)] [(2, oD (.own 1000)), (3, iD v1.2.2)] [(1000, .vec 3 ((([] : List Ah)).map Aj))] rfl rfl)) (Az ?_)
   exact ⟨⟨[_, _], ⟨.tmp _ _ rfl, ⟨.tmp _ _ rfl, tv⟩⟩, rfl⟩, ⟨rfl, tv⟩⟩
  ·have h := Ao c4 h
   refine Aq (Ab (Aa Ac rfl (qL A9 AA rfl (DK (Bq 2004 _ _ rfl rfl) (DK (Bq 2005 _ _ rfl rfl) (DK (Bq 2006 _ _ rfl rfl) (D8 A3 AA CI rfl (qa rfl (Ae (Ab (Aa Ac rfl ?_)))))))))))
   refine Tm (.p rfl) rfl ?_
   refine qL A9 AA rfl ?_
   obtain ⟨v5, a5, h⟩ := bind_some h
   refine AG [] (K5 N v1.1 v5 a5) W8 rfl ?_
   refine QJ (kv := Value.string) (vt := tB) (m := ([] : List (ByteArray × Bool))) (k := v5) (v := true) rfl (.inr rfl) rfl rfl rfl rfl (M0 PU XD) rfl ?_
   refine qm rfl (qa rfl (Ae (Ab (Ab (Aa Ac rfl (qa rfl (Ae ?_)))))))
   refine AE (L := FZ N p0) h (fun v6 => mk [(1, oD (.ptr 1 0)), (7, oD (.own 2008)), (8, oD (.mref 2009)), (9, iD v6.2.2)] [(1, .box [sC (p0.fVersions.map Al), sC (p0.fNow.map Al), sC (p0.fTarget.map Al), sC (p0.fTables.map Ar)]), (2008, .vec 3 (v6.1.map Aj)), (2009, .mp (JU Value.string tB v6.2.1))]) (fun v7 => mk [(7, oD (.own 2010))] [(2010, .vec 3 (v7.map Aj))]) (fun _ _ => rfl) (sm [(2008, 28), (2009, 29)] _ _ rfl rfl) (fun j6 n6 v6 h => ?_) (fun v7 s h hs => ?_)
   ·unfold FZ at h
    refine Ab (Ab (Aa Ac rfl (qm rfl (qm rfl (Ex A3 rfl (AV rfl (Ae ?_)))))))
    refine Ap rfl (fun c8 => ?_) (fun c8 => ?_)
    ·have h := An c8 h
     refine Aq (Ab (AJ (Ab (Aa Ac rfl (qL DO Dv rfl (qm rfl (qm rfl ?_)))))))
     obtain ⟨v9, a9, b9, h⟩ := Ai h
     refine qI A3 AA a9 (Af b9) rfl (qJ A9 AA (Af b9) rfl ?_)
     obtain ⟨v10, a10, h⟩ := bind_some h
     refine AG [2011, 2012] (Qv N p0 v9 v10 a10) ZY rfl (qm rfl (qx rfl (qx rfl (qa rfl (qa rfl (AB (by kernel_rfl) (Ab (Ab (Aa Ac rfl (qm rfl (Ex A3 rfl (qm rfl (Ae ?_)))))))))))))
     refine AE (L := FF N v10) h (fun v11 => mk [(1, oD (.ptr 1 0)), (7, oD (.own 2013)), (8, oD (.mref 2014)), (9, iD v6.2.2), (48, oD (.own 2015)), (49, iD ((v10.2.length : Int))), (50, iD v11.2.2)] [(1, .box [sC (p0.fVersions.map Al), sC (p0.fNow.map Al), sC (p0.fTarget.map Al), sC (p0.fTables.map Ar)]), (2013, .vec 3 (v11.1.map Aj)), (2014, .mp (JU Value.string tB v11.2.1)), (2015, .vec 3 (v10.2.map Aj))]) (fun v12 => mk [(1, oD (.ptr 1 0)), (7, oD (.own 2016)), (8, oD (.mref 2017)), (9, iD v6.2.2)] [(1, .box [sC (p0.fVersions.map Al), sC (p0.fNow.map Al), sC (p0.fTarget.map Al), sC (p0.fTables.map Ar)]), (2016, .vec 3 (v12.1.map Aj)), (2017, .mp (JU Value.string tB v12.2))]) (fun _ _ => rfl) (sm [(2013, 2008), (2014, 2009), (2015, 2012)] _ _ rfl rfl) (fun j11 n11 v11 h => ?_) (fun v12 s h hs => ?_)
     ·unfold FF at h
      refine Ab (Aa Ac rfl (AV rfl (Ae (Ab ?_))))
      refine Ap rfl (fun c13 => ?_) (fun c13 => ?_)
      ·have h := An c13 h
       refine Aq ?_
       refine AO h (fun v14 => mk [(1, oD (.ptr 1 0)), (7, oD (.own 2018)), (8, oD (.mref 2019)), (9, iD v6.2.2), (48, oD (.own 2020)), (49, iD ((v10.2.length : Int))), (50, iD v11.2.2)] [(1, .box [sC (p0.fVersions.map Al), sC (p0.fNow.map Al), sC (p0.fTarget.map Al), sC (p0.fTables.map Ar)]), (2018, .vec 3 (v14.1.map Aj)), (2019, .mp (JU Value.string tB v14.2)), (2020, .vec 3 (v10.2.map Aj))]) (fun j14 h => ?_) (fun v14 h => ?_)
       ·refine AJ (Ab (Aa Ac rfl ?_))
        obtain ⟨v15, a15, b15, h⟩ := Ai h
        refine qI A3 AA a15 (Af b15) rfl (qJ A9 AA (Af b15) rfl (qz CI rfl (qs AA rfl (Ae (Ab (Aa Ac rfl (qm rfl (qL A9 AA rfl ?_))))))))
        obtain ⟨v16, a16, h⟩ := bind_some h
        refine AG [] (K5 N v15 v16 a16) W8 rfl ?_
        refine U3 (kv := Value.string) (vt := tB) (m := v11.2.1) (dv := false) (.p rfl) rfl rfl rfl (M0 PU XD) (by rw [PU]; rfl) Wd rfl rfl rfl ?_
        refine BZ rfl (Ae ?_)
        refine Ap rfl (fun c17 => ?_) (fun c17 => ?_)
        ·have h := An c17 h
         refine Ab (Aa Ac rfl (qm rfl (qL A9 AA rfl ?_)))
         obtain ⟨v18, a18, h⟩ := bind_some h
         refine AG [] (K5 N v15 v18 a18) W8 rfl ?_
         refine QJ (kv := Value.string) (vt := tB) (m := v11.2.1) (k := v18) (v := true) rfl (.inl rfl) rfl rfl rfl rfl (M0 PU XD) rfl ?_
         refine Ae (Aa Ac rfl (qm rfl (qL A9 AA rfl (D8 A3 AA CI rfl ?_))))
         obtain ⟨c19, h⟩ := AS h
         refine Dt (f := Aj) A3 A3 AA Q0 CI c19 rfl (qa rfl (Ae ?_))
         exact As _ h (sm [(2018, 65), (2019, 2014), (2020, 2015)] _ _ rfl rfl)
        ·have h := Ao c17 h
         refine Aq ?_
         exact As _ h (sm [(2018, 2013), (2019, 2014), (2020, 2015)] _ _ rfl rfl)
       ·refine Aa Ac rfl (AP rfl (qm rfl (Ae ?_)))
        exact As _ h (sm [(2013, 2018), (2014, 2019), (2015, 2020)] _ _ rfl rfl)
      ·have h := Ao c13 h
       refine AT ?_
       exact As _ h (sm [(2016, 2013), (2017, 2014)] _ _ rfl rfl)
     ·refine Am hs (Ab (Aa Ac rfl (qm rfl (Ex A3 rfl (Ey rfl (Ae ?_))))))
      refine Ap rfl (fun c20 => ?_) (fun c20 => ?_)
      ·have h := An c20 h
       refine Ab (Aa Ac rfl (qa rfl (qa rfl (Ae ?_))))
       obtain rfl := sj h
       refine Am ((Br 2 2021 3 rfl rfl rfl).trans (sm [(1000, 2021)] [(2, oD (.own 1000)), (3, iD 3)] [(1000, .vec 3 ((([] : List Ah)).map Aj))] rfl rfl)) (Az ?_)
       exact ⟨⟨[_, _], ⟨.tmp _ _ rfl, ⟨.tmp _ _ rfl, tv⟩⟩, rfl⟩, ⟨rfl, tv⟩⟩
      ·have h := Ao c20 h
       refine Aq (Aa Ac rfl (qm rfl (AP rfl (qa rfl (Ae ?_)))))
       exact As _ h (sm [(2008, 2016), (2009, 2017)] _ _ rfl rfl)
    ·have h := Ao c8 h
     refine AT ?_
     exact As _ h (sm [(2010, 2008)] _ _ rfl rfl)
   ·refine Am hs (Ab (Aa Ac rfl (qm rfl ?_)))
    obtain ⟨v21, a21, h⟩ := bind_some h
    refine BC (ds0 := [_, _]) [2010] [] [true] (Bh.weak (ds' := [_, oD (.fnc 46)]) (HG N v7 ((fun (x : Ah × Ah) => E9 N x.1 x.2)) v21 a21) ⟨(fun _ _ _ hh => hh), (fun _ _ _ hh => RC Xl (fun ar t ht => by obtain ⟨x, r, rfl, hq, rfl⟩ := H9 ht; exact JF N x.1 x.2 r hq) hh), tv⟩) (.p rfl) af rfl ⟨rfl, rfl, tv⟩ rfl rfl (by decide) ⟨rfl, tv⟩ rfl (A2 rfl) tv ⟨(fun h => by cases h), tv⟩ rfl rfl rfl ?_
    refine Ae (Ab (Aa Ac rfl (qm rfl (qa rfl (qa rfl (Ae ?_))))))
    obtain rfl := sj h
    refine Am (sm [(1000, 2010)] [(2, oD (.own 1000)), (3, iD 0)] [(1000, .vec 3 (v21.map Aj))] rfl rfl) (Az ?_)
    exact ⟨⟨[_, _], ⟨.tmp _ _ rfl, ⟨.tmp _ _ rfl, tv⟩⟩, rfl⟩, ⟨rfl, tv⟩⟩
theorem J7 (N : Nat) (p0 : List Int) (p1 : List Int) (r : Bool) (h : FJ N p0 p1 = some r) : AC Tryz.prog 87 [pD (.sl (p0.map Al)), pD (.sl (p1.map Al))] [] (bD r) := by
 unfold FJ at h
 refine Au (n := 26) (rs := [.tmp 4]) Tryz.func87 rfl rfl rfl (A7 rfl) (A7 rfl) rfl fun w0 S0 => ?_
 refine Ab (Aa Ac rfl (qa rfl (Ae (Ab (Ab (Aa Ac rfl (qm rfl (AX AM rfl (qm rfl (AX AM rfl (B3 rfl (Ae ?_))))))))))))
 refine Ap rfl (fun c1 => ?_) (fun c1 => ?_)
 ·have h := An c1 h
  refine Ab (Aa Ac rfl (qa rfl (Ae ?_)))
  obtain rfl := sj h
  refine Am (sm [] [(4, bD false)] [] rfl rfl) (Az ?_)
  exact ⟨⟨[_], ⟨.tmp _ _ rfl, tv⟩, rfl⟩, tv⟩
 ·have h := Ao c1 h
  refine Aq (Ab (Ab (Aa Ac rfl (qm rfl (AX AM rfl (qm rfl (Ae ?_)))))))
  refine AE (L := Ee N p0 p1) h (fun v2 => mk [(0, pD (.sl (p0.map Al))), (1, pD (.sl (p1.map Al))), (12, iD ((p0.length : Int))), (13, iD v2)] []) (fun v3 => mk [] []) (fun _ _ => rfl) (sm [] _ _ rfl rfl) (fun j2 n2 v2 h => ?_) (fun v3 s h hs => ?_)
  ·unfold Ee at h
   refine Ab (Aa Ac rfl (AV rfl (Ae (Ab ?_))))
   refine Ap rfl (fun c4 => ?_) (fun c4 => ?_)
   ·have h := An c4 h
    refine Aq (Ab (AJ (Ab (Aa Ac rfl (qm rfl (qa rfl (Ae (Ab (Aa Ac rfl (qm rfl (qm rfl ?_)))))))))))
    obtain ⟨v5, a5, b5, h⟩ := Ai h
    refine qi AM Dw a5 (Af b5) rfl (qk B6 rfl (qm rfl (qm rfl ?_)))
    obtain ⟨v6, a6, b6, h⟩ := Ai h
    refine qi AM Dw a6 (Af b6) rfl (qk B6 rfl (B3 rfl (AB (by kernel_rfl) ?_)))
    refine Ap rfl (fun c7 => ?_) (fun c7 => ?_)
    ·have h := An c7 h
     refine Ab (Aa Ac rfl (qa rfl (Ae ?_)))
     obtain rfl := sj h
     refine Am (sm [] [(4, bD false)] [] rfl rfl) (Az ?_)
     exact ⟨⟨[_], ⟨.tmp _ _ rfl, tv⟩, rfl⟩, tv⟩
    ·have h := Ao c7 h
     refine Aq (Aa Ac rfl (AP rfl (qm rfl (Ae ?_))))
     exact As _ h (sm [] _ _ rfl rfl)
   ·have h := Ao c4 h
    refine AT ?_
    exact As _ h (sm [] _ _ rfl rfl)
  ·refine Am hs (Ab (Aa Ac rfl (qa rfl (Ae ?_))))
   obtain rfl := sj h
   refine Am (sm [] [(4, bD true)] [] rfl rfl) (Az ?_)
   exact ⟨⟨[_], ⟨.tmp _ _ rfl, tv⟩, rfl⟩, tv⟩
theorem I9 (N : Nat) (p0 : List Int) (p1 : Int → Option Bool) (r : Int) (h : EU N p0 p1 = some r) : AC Tryz.prog 119 [pD (.sl (p0.map Al)), oD (.clo (Bb (M8 false Al) tB p1))] [] (iD r) := by
 unfold EU at h
 refine Au (n := 19) (rs := [.tmp 4]) Tryz.func119 rfl rfl rfl (A7 rfl) (A7 rfl) rfl fun w0 S0 => ?_
 refine Ab (Aa Ac rfl (qa rfl (Ae (Ab (Ab (Aa Ac rfl (qm rfl (AX AM rfl (qm rfl (Ae ?_))))))))))
 refine AE (L := Dx N p0 p1) h (fun v1 => mk [(0, pD (.sl (p0.map Al))), (1, oD (.clo (Bb (M8 false Al) tB p1))), (7, iD ((p0.length : Int))), (8, iD v1)] []) (fun v2 => mk [] []) (fun _ _ => rfl) (sm [] _ _ rfl rfl) (fun j1 n1 v1 h => ?_) (fun v2 s h hs => ?_)
 ·unfold Dx at h
  refine Ab (Aa Ac rfl (AV rfl (Ae (Ab ?_))))
  refine Ap rfl (fun c3 => ?_) (fun c3 => ?_)
  ·have h := An c3 h
   refine Aq (Ab (AJ (Ab (Aa Ac rfl (qm rfl (qa rfl (Ae (Ab (Aa Ac rfl (qm rfl (qm rfl (qm rfl ?_))))))))))))
   obtain ⟨v4, a4, b4, h⟩ := Ai h
   refine qi AM Dw a4 (Af b4) rfl (qk B6 rfl ?_)
   obtain ⟨v5, a5, h⟩ := bind_some h
   refine CA (ds0 := [_]) (ar := (M8 false Al) v4) (.p rfl) rfl rfl ⟨rfl, tv⟩ rfl rfl rfl (CC (L3 _ _ RP) a5) ?_
   refine Ae ?_
   refine Ap rfl (fun c6 => ?_) (fun c6 => ?_)
   ·have h := An c6 h
    refine Ab (Aa Ac rfl (qm rfl (qa rfl (Ae ?_))))
    obtain rfl := sj h
    refine Am (sm [] [(4, iD v1)] [] rfl rfl) (Az ?_)
    exact ⟨⟨[_], ⟨.tmp _ _ rfl, tv⟩, rfl⟩, tv⟩
   ·have h := Ao c6 h
    refine Aq (Aa Ac rfl (AP rfl (qm rfl (Ae ?_))))
    exact As _ h (sm [] _ _ rfl rfl)
  ·have h := Ao c3 h
   refine AT ?_
   exact As _ h (sm [] _ _ rfl rfl)
 ·refine Am hs (Ab (Aa Ac rfl (qa rfl (Ae ?_))))
  obtain rfl := sj h
  refine Am (sm [] [(4, iD ((-1)))] [] rfl rfl) (Az ?_)
  exact ⟨⟨[_], ⟨.tmp _ _ rfl, tv⟩, rfl⟩, tv⟩
theorem Ip (N : Nat) (p0 : List Int) (p1 : Int → Option Bool) (r : Bool) (h : Et N p0 p1 = some r) : AC Tryz.prog 88 [pD (.sl (p0.map Al)), oD (.clo (Bb (M8 false Al) tB p1))] [] (bD r) := by
 unfold Et at h
 refine Au (n := 9) (rs := [.tmp 4]) Tryz.func88 rfl rfl rfl (A7 rfl) (A7 rfl) rfl fun w0 S0 => ?_
 refine Ab (Aa Ac rfl (qa rfl (Ae (Ab (Aa Ac rfl (qm rfl (qm rfl ?_)))))))
 obtain ⟨v1, a1, h⟩ := bind_some h
 refine AG [] (I9 N p0 p1 v1 a1) Yy rfl (Cz rfl (qa rfl (Ae ?_)))
 obtain rfl := sj h
 refine Am (sm [] [(4, bD ((decide (0 ≤ v1))))] [] rfl rfl) (Az ?_)
 exact ⟨⟨[_], ⟨.tmp _ _ rfl, tv⟩, rfl⟩, tv⟩
theorem PM (N : Nat) (p0 : Int) (r : Bool) (h : If N p0 = some r) : AC Tryz.prog 89 [iD p0] [] (bD r) := by
 unfold If at h
 refine Au (n := 5) (rs := [.tmp 2]) Tryz.func89 rfl rfl rfl (A7 rfl) (A7 rfl) rfl fun w0 S0 => ?_
 refine Ab (Aa Ac rfl (qa rfl (Ae (Ab (Aa Ac rfl (qm rfl (Cz rfl (qa rfl (Ae ?_)))))))))
 obtain rfl := sj h
 refine Am (sm [] [(2, bD ((decide (0 ≤ p0))))] [] rfl rfl) (Az ?_)
 exact ⟨⟨[_], ⟨.tmp _ _ rfl, tv⟩, rfl⟩, tv⟩
theorem ON (N : Nat) (p0 : Ak) (p1 : Ah) (r : Bool) (h : Jr N p0 p1 = some r) : AC Tryz.prog 42 [.e (.agg [sC (p0.fVersions.map Al), sC (p0.fNow.map Al), sC (p0.fTarget.map Al), sC (p0.fTables.map Ar)]), .e (.agg [sC (p1.fBase.map Al), sC (p1.fNext.map Al), sC (p1.fHeld.map Bj)])] [] (bD r) := by
 unfold Jr at h
 refine Au (n := 22) (rs := [.tmp 4]) Tryz.func42 rfl rfl rfl (A7 rfl) (A7 rfl) rfl fun w0 S0 => ?_
 refine Ab (Aa Ac rfl (qb rfl (qb rfl (qa rfl (Ae ?_)))))
 refine AO h (fun v1 => mk [(4, bD v1)] []) (fun j1 h => ?_) (fun v1 h => ?_)
 ·refine Aa Ac rfl (qL DO Dv rfl (qL A9 AA rfl ?_))
  obtain ⟨v2, a2, h⟩ := bind_some h
  refine AG [] (In N p0 p1 v2 a2) UC rfl (BL rfl (qm rfl ?_))
  refine AF (t := 9) rfl (fun c3 => ?_) (fun c3 => ?_)
  ·have h := An c3 h
   refine qf CY rfl (ql Bu rfl (qf IK rfl (ql Bu rfl ?_)))
   obtain ⟨v4, a4, h⟩ := bind_some h
   refine AG [] (J7 N p1.fBase p0.fTarget v4 a4) ZJ rfl (qp rfl (qm rfl ?_))
   refine AF (t := 16) rfl (fun c5 => ?_) (fun c5 => ?_)
   ·have h := An c5 h
    refine qf BJ rfl (ql Bu rfl ?_)
    obtain ⟨v6, a6, h⟩ := bind_some h
    refine AG [] (AC.weak (ds' := [pD (.sl (p1.fNext.map Al)), oD (.fnc 89)]) (Ip N p1.fNext ((fun (x : Int) => If N x)) v6 a6) ⟨(fun _ _ _ hh => hh), (fun _ _ _ hh => Qk aI (fun ar t ht => by obtain ⟨x, r, rfl, hq, rfl⟩ := H9 ht; exact PM N x r hq) hh), tv⟩) ZP rfl ?_
    refine BZ rfl (qp rfl (qa rfl (Ae ?_)))
    exact As _ h (sm [] _ _ rfl rfl)
   ·have h := Ao c5 h
    refine qn rfl (qn rfl (qn rfl (qn rfl (qp rfl (qa rfl (Ae ?_))))))
    exact As _ h (sm [] _ _ rfl rfl)
  ·have h := Ao c3 h
   refine qn rfl (qn rfl (qn rfl (qn rfl (qn rfl (qp rfl (qm rfl (qn rfl (qn rfl (qn rfl (qn rfl (qp rfl (qa rfl (Ae ?_)))))))))))))
   exact As _ h (sm [] _ _ rfl rfl)
 ·obtain rfl := sj h
  refine Am (sm [] [(4, bD v1)] [] rfl rfl) (Az ?_)
  exact ⟨⟨[_], ⟨.tmp _ _ rfl, tv⟩, rfl⟩, tv⟩
theorem MS (N : Nat) (p0 : Ah) (p1 : List Int) (p2 : List Int) (p3 : List Int) (p4 : List AR) (r : Bool) (h : Fr N p0 p1 p2 p3 p4 = some r) : AC Tryz.prog 41 [.e (.agg [sC (p0.fBase.map Al), sC (p0.fNext.map Al), sC (p0.fHeld.map Bj)]), oD (.rop [.sl (p1.map Al), .sl (p2.map Al), .sl (p3.map Al), .sl (p4.map Ar)])] [] (bD r) := by
 unfold Fr at h
 refine Au (n := 7) (rs := [.tmp 3]) Tryz.func41 rfl rfl rfl (A7 rfl) (A7 rfl) rfl fun w0 S0 => ?_
 refine Ab (Aa Ac rfl (qb rfl (qa rfl (Ae (Ab (Aa Ac rfl (qK DO Dv rfl (qL A9 AA rfl ?_))))))))
 obtain ⟨v1, a1, h⟩ := bind_some h
 refine AG [] (ON N ((Ak.mk p1 p2 p3 p4)) p0 v1 a1) Y9 rfl (qa rfl (Ae ?_))
 obtain rfl := sj h
 refine Am (sm [] [(3, bD v1)] [] rfl rfl) (Az ?_)
 exact ⟨⟨[_], ⟨.tmp _ _ rfl, tv⟩, rfl⟩, tv⟩
theorem Hr (N : Nat) (p0 : List Ah) (p1 : Ah → Option Bool) (r : Int) (h : DS N p0 p1 = some r) : AC Tryz.prog 75 [pD (.sl (p0.map Aj)), oD (.clo (Bb (M8 true Aj) tB p1))] [] (iD r) := by
 unfold DS at h
 refine Au (n := 19) (rs := [.tmp 4]) Tryz.func75 rfl rfl rfl (A7 rfl) (A7 rfl) rfl fun w0 S0 => ?_
 refine Ab (Aa Ac rfl (qa rfl (Ae (Ab (Ab (Aa Ac rfl (qm rfl (AX A3 rfl (qm rfl (Ae ?_))))))))))
 refine AE (L := CE N p0 p1) h (fun v1 => mk [(0, pD (.sl (p0.map Aj))), (1, oD (.clo (Bb (M8 true Aj) tB p1))), (7, iD ((p0.length : Int))), (8, iD v1)] []) (fun v2 => mk [] []) (fun _ _ => rfl) (sm [] _ _ rfl rfl) (fun j1 n1 v1 h => ?_) (fun v2 s h hs => ?_)
 ·unfold CE at h
  refine Ab (Aa Ac rfl (AV rfl (Ae (Ab ?_))))
  refine Ap rfl (fun c3 => ?_) (fun c3 => ?_)
  ·have h := An c3 h
   refine Aq (Ab (AJ (Ab (Aa Ac rfl (qm rfl (qa rfl (Ae (Ab (Aa Ac rfl (qm rfl (qm rfl (qm rfl ?_))))))))))))
   obtain ⟨v4, a4, b4, h⟩ := Ai h
   refine qi A3 AA a4 (Af b4) rfl (qK A9 AA rfl ?_)
   obtain ⟨v5, a5, h⟩ := bind_some h
   refine CA (ds0 := [_]) (ar := (M8 true Aj) v4) (.p rfl) rfl rfl ⟨rfl, tv⟩ rfl rfl rfl (CC (L3 _ _ BI) a5) ?_
   refine Ae ?_
   refine Ap rfl (fun c6 => ?_) (fun c6 => ?_)
   ·have h := An c6 h
    refine Ab (Aa Ac rfl (qm rfl (qa rfl (Ae ?_))))
    obtain rfl := sj h
    refine Am (sm [] [(4, iD v1)] [] rfl rfl) (Az ?_)
    exact ⟨⟨[_], ⟨.tmp _ _ rfl, tv⟩, rfl⟩, tv⟩
   ·have h := Ao c6 h
    refine Aq (Aa Ac rfl (AP rfl (qm rfl (Ae ?_))))
    exact As _ h (sm [] _ _ rfl rfl)
  ·have h := Ao c3 h
   refine AT ?_
   exact As _ h (sm [] _ _ rfl rfl)
 ·refine Am hs (Ab (Aa Ac rfl (qa rfl (Ae ?_))))
  obtain rfl := sj h
  refine Am (sm [] [(4, iD ((-1)))] [] rfl rfl) (Az ?_)
  exact ⟨⟨[_], ⟨.tmp _ _ rfl, tv⟩, rfl⟩, tv⟩
theorem GM (N : Nat) (p0 : List Ah) (p1 : Ah → Option Bool) (r : Bool) (h : Dp N p0 p1 = some r) : AC Tryz.prog 30 [pD (.sl (p0.map Aj)), oD (.clo (Bb (M8 true Aj) tB p1))] [] (bD r) := by
 unfold Dp at h
 refine Au (n := 9) (rs := [.tmp 4]) Tryz.func30 rfl rfl rfl (A7 rfl) (A7 rfl) rfl fun w0 S0 => ?_
 refine Ab (Aa Ac rfl (qa rfl (Ae (Ab (Aa Ac rfl (qm rfl (qm rfl ?_)))))))
 obtain ⟨v1, a1, h⟩ := bind_some h
 refine AG [] (Hr N p0 p1 v1 a1) ZU rfl (Cz rfl (qa rfl (Ae ?_)))
 obtain rfl := sj h
 refine Am (sm [] [(4, bD ((decide (0 ≤ v1))))] [] rfl rfl) (Az ?_)
 exact ⟨⟨[_], ⟨.tmp _ _ rfl, tv⟩, rfl⟩, tv⟩
theorem Oz (N : Nat) (p0 : Ak) (r : (List Ah) × Int) (h : Iw N p0 = some r) : AC Tryz.prog 12 [.e (.agg [sC (p0.fVersions.map Al), sC (p0.fNow.map Al), sC (p0.fTarget.map Al), sC (p0.fTables.map Ar)])] [(3, r.1.map Aj)] (.tup [.one (.own 0), .one (iC r.2)]) := by
 unfold Iw at h
 refine Au (n := 18) (rs := [.tmp 2, .tmp 3]) Tryz.func12 rfl rfl rfl (A7 rfl) (A7 rfl) rfl fun w0 S0 => ?_
 refine Ab (Aa Ac rfl (qb rfl (qa rfl (qa rfl (Ae (Ab (Aa Ac rfl (qL DO Dv rfl ?_))))))))
 obtain ⟨v1, a1, h⟩ := bind_some h
 refine AG [2001] (OG N p0 v1 a1) aH rfl (qm rfl (qx rfl (qx rfl (qa rfl (qa rfl (Ae (Ab (Ab (Aa Ac rfl (qm rfl (B3 rfl (Ae ?_))))))))))))
 refine Ap rfl (fun c2 => ?_) (fun c2 => ?_)
 ·have h := An c2 h
  refine Ab (Aa Ac rfl (qm rfl (qa rfl (qa rfl (Ae ?_)))))
  obtain rfl := sj h
  refine Am ((Br 2 2002 3 rfl rfl rfl).trans (sm [(1000, 2002)] [(2, oD (.own 1000)), (3, iD v1.2)] [(1000, .vec 3 ((([] : List Ah)).map Aj))] rfl rfl)) (Az ?_)
  exact ⟨⟨[_, _], ⟨.tmp _ _ rfl, ⟨.tmp _ _ rfl, tv⟩⟩, rfl⟩, ⟨rfl, tv⟩⟩
 ·have h := Ao c2 h
  refine Aq (Ab (Ab (Aa Ac rfl (qm rfl (DK (L8 1 [.sl (p0.fVersions.map Al), .sl (p0.fNow.map Al), .sl (p0.fTarget.map Al), .sl (p0.fTables.map Ar)] rfl rfl) ?_)))))
  refine LM (capD := [_]) (Bb (M8 true Aj) tB ((fun (x : Ah) => Fr N x p0.fVersions p0.fNow p0.fTarget p0.fTables))) (.p rfl) ad rfl ⟨rfl, tv⟩ rfl (fun ar t ht => by obtain ⟨x, r, rfl, hq, rfl⟩ := H9 ht; exact MS N x p0.fVersions p0.fNow p0.fTarget p0.fTables r hq) ?_
  obtain ⟨v3, a3, h⟩ := bind_some h
  refine DC [] [2001] (GM N v1.1 ((fun (x : Ah) => Fr N x p0.fVersions p0.fNow p0.fTarget p0.fTables)) v3 a3) Z5 Cj rfl (Ae ?_)
  refine Ap rfl (fun c4 => ?_) (fun c4 => ?_)
  ·have h := An c4 h
   refine Ab (Aa Ac rfl (qa rfl (qa rfl (Ae ?_))))
   obtain rfl := sj h
   refine Am ((Br 2 2003 3 rfl rfl rfl).trans (sm [(1000, 2003)] [(2, oD (.own 1000)), (3, iD 15)] [(1000, .vec 3 ((([] : List Ah)).map Aj))] rfl rfl)) (Az ?_)
   exact ⟨⟨[_, _], ⟨.tmp _ _ rfl, ⟨.tmp _ _ rfl, tv⟩⟩, rfl⟩, ⟨rfl, tv⟩⟩
  ·have h := Ao c4 h
   refine Aq (Ab (Aa Ac rfl (qm rfl (qa rfl (qa rfl (Ae ?_))))))
   obtain rfl := sj h
   refine Am (sm [(1000, 2001)] [(2, oD (.own 1000)), (3, iD 0)] [(1000, .vec 3 (v1.1.map Aj))] rfl rfl) (Az ?_)
   exact ⟨⟨[_, _], ⟨.tmp _ _ rfl, ⟨.tmp _ _ rfl, tv⟩⟩, rfl⟩, ⟨rfl, tv⟩⟩
theorem MG (N : Nat) (p0 : Ak) (p1 : Ah) (r : (List A1) × Int) (h : Fs N p0 p1 = some r) : AC Tryz.prog 18 [.e (.agg [sC (p0.fVersions.map Al), sC (p0.fNow.map Al), sC (p0.fTarget.map Al), sC (p0.fTables.map Ar)]), .e (.agg [sC (p1.fBase.map Al), sC (p1.fNext.map Al), sC (p1.fHeld.map Bj)])] [(9, r.1.map Bo)] (.tup [.one (.own 0), .one (iC r.2)]) := by
 unfold Fs at h
 refine Au (n := 56) (rs := [.tmp 4, .tmp 5]) Tryz.func18 rfl rfl rfl (A7 rfl) (A7 rfl) rfl fun w0 S0 => ?_
 refine Ab (Aa Ac rfl (qb rfl (qb rfl (qa rfl (qa rfl (Ae (Ab (Aa Ac rfl (qL DO Dv rfl (qL A9 AA rfl ?_))))))))))
 obtain ⟨v1, a1, h⟩ := bind_some h
 refine AG [2001] (Jc N p0 p1 v1 a1) Xc rfl (qm rfl (qx rfl (qx rfl (qa rfl (qa rfl (Ae (Ab (Ab (Aa Ac rfl (qm rfl (B3 rfl (Ae ?_))))))))))))
 refine Ap rfl (fun c2 => ?_) (fun c2 => ?_)
 ·have h := An c2 h
  refine Ab (Aa Ac rfl (qm rfl (qa rfl (qa rfl (Ae ?_)))))
  obtain rfl := sj h
  refine Am ((Br 4 2002 9 rfl rfl rfl).trans (sm [(1000, 2002)] [(4, oD (.own 1000)), (5, iD v1.2)] [(1000, .vec 9 ((([] : List A1)).map Bo))] rfl rfl)) (Az ?_)
  exact ⟨⟨[_, _], ⟨.tmp _ _ rfl, ⟨.tmp _ _ rfl, tv⟩⟩, rfl⟩, ⟨rfl, tv⟩⟩
 ·have h := Ao c2 h
  refine Aq (Ab (Aa Ac rfl (qa rfl (Ae (Ab (Ab (Aa Ac rfl (qm rfl (Ex EZ rfl (qm rfl (Ae ?_)))))))))))
  refine AE (L := C1 N p0 p1 v1) h (fun v3 => mk [(2, oD (.ptr 2 0)), (3, oD (.ptr 3 0)), (8, oD (.own 2003)), (25, oD (.own 2004)), (26, iD ((v1.1.length : Int))), (27, iD v3.2)] [(2, .box [sC (p0.fVersions.map Al), sC (p0.fNow.map Al), sC (p0.fTarget.map Al), sC (p0.fTables.map Ar)]), (3, .box [sC (p1.fBase.map Al), sC (p1.fNext.map Al), sC (p1.fHeld.map Bj)]), (2003, .vec 9 (v3.1.map Bo)), (2004, .vec 3 (v1.1.map A5))]) (fun v4 => mk [(8, oD (.own 2005))] [(2005, .vec 9 (v4.map Bo))]) (fun _ _ => rfl) ((Br 8 2011 9 rfl rfl rfl).trans (sm [(2003, 2011), (2004, 2001)] _ _ rfl rfl)) (fun j3 n3 v3 h => ?_) (fun v4 s h hs => ?_)
  ·unfold C1 at h
   refine Ab (Aa Ac rfl (AV rfl (Ae (Ab ?_))))
   refine Ap rfl (fun c5 => ?_) (fun c5 => ?_)
   ·have h := An c5 h
    refine Aq ?_
    refine AO h (fun v6 => mk [(2, oD (.ptr 2 0)), (3, oD (.ptr 3 0)), (8, oD (.own 2006)), (25, oD (.own 2007)), (26, iD ((v1.1.length : Int))), (27, iD v3.2)] [(2, .box [sC (p0.fVersions.map Al), sC (p0.fNow.map Al), sC (p0.fTarget.map Al), sC (p0.fTables.map Ar)]), (3, .box [sC (p1.fBase.map Al), sC (p1.fNext.map Al), sC (p1.fHeld.map Bj)]), (2006, .vec 9 (v6.map Bo)), (2007, .vec 3 (v1.1.map A5))]) (fun j6 h => ?_) (fun v6 h => ?_)
    ·refine AJ (Ab (Aa Ac rfl ?_))
     obtain ⟨v7, a7, b7, h⟩ := Ai h
     refine qI EZ EG a7 (Af b7) rfl (qJ H6 EG (Af b7) rfl (qz JI rfl (qs EG rfl (Ae (Ab (Aa Ac rfl (qL DO Dv rfl (qL A9 AA rfl (qL H6 EG rfl ?_)))))))))
     obtain ⟨v8, a8, h⟩ := bind_some h
     refine AG [2008, 2009, 2010] (Kk N p0 p1 v7 v8 a8) Xo rfl (qm rfl (qx rfl (qx rfl (qz CI rfl (qs AA rfl (qa rfl (Ae (Ab (Aa Ac rfl (qL DO Dv rfl (qL A9 AA rfl (DK (Bq 2008 _ _ rfl rfl) (DK (Bq 2009 _ _ rfl rfl) (DK (Bq 2010 _ _ rfl rfl) ?_))))))))))))))
     obtain ⟨v9, a9, h⟩ := bind_some h
     refine AG [] (Nq N p0 v8.1 v9 a9) YI rfl (qm rfl (qx rfl (qx rfl (qx rfl (qz CI rfl (qz G6 rfl (qs AA rfl (qs AU rfl (qa rfl (Ae (Ab (Aa Ac rfl (qm rfl (BL rfl (Ae ?_)))))))))))))))
     refine Ap rfl (fun c10 => ?_) (fun c10 => ?_)
     ·have h := An c10 h
      refine Aa Ac rfl (qm rfl (qL H6 EG rfl (qL A9 AA rfl (qL CP AU rfl (Bw PZ Yk rfl (D8 FC J3 PZ rfl ?_))))))
      obtain ⟨c11, h⟩ := AS h
      refine Dt (f := Bo) FC FC J3 S5 PZ c11 rfl (qa rfl (Ae ?_))
      exact As _ h (sm [(2006, 53), (2007, 2004)] _ _ rfl rfl)
     ·have h := Ao c10 h
      refine Aq ?_
      exact As _ h (sm [(2006, 2003), (2007, 2004)] _ _ rfl rfl)
    ·refine Aa Ac rfl (AP rfl (qm rfl (Ae ?_)))
     exact As _ h (sm [(2003, 2006), (2004, 2007)] _ _ rfl rfl)
   ·have h := Ao c5 h
    refine AT ?_
    exact As _ h (sm [(2005, 2003)] _ _ rfl rfl)
  ·refine Am hs (Ab (Aa Ac rfl (qm rfl (qa rfl (qa rfl (Ae ?_))))))
   obtain rfl := sj h
   refine Am (sm [(1000, 2005)] [(4, oD (.own 1000)), (5, iD 0)] [(1000, .vec 9 (v4.map Bo))] rfl rfl) (Az ?_)
   exact ⟨⟨[_, _], ⟨.tmp _ _ rfl, ⟨.tmp _ _ rfl, tv⟩⟩, rfl⟩, ⟨rfl, tv⟩⟩
theorem Iv (N : Nat) (p0 : Ak) (p1 : List Ah) (r : (List A1) × Int) (h : C8 N p0 p1 = some r) : AC Tryz.prog 21 [.e (.agg [sC (p0.fVersions.map Al), sC (p0.fNow.map Al), sC (p0.fTarget.map Al), sC (p0.fTables.map Ar)]), pD (.sl (p1.map Aj))] [(9, r.1.map Bo)] (.tup [.one (.own 0), .one (iC r.2)]) := by
 unfold C8 at h
 refine Au (n := 37) (rs := [.tmp 4, .tmp 5]) Tryz.func21 rfl rfl rfl (A7 rfl) (A7 rfl) rfl fun w0 S0 => ?_
 refine Ab (Aa Ac rfl (qb rfl (qa rfl (qa rfl (Ae (Ab (Ab (Aa Ac rfl (qL DO Dv rfl ?_)))))))))
 obtain ⟨v1, a1, h⟩ := bind_some h
 refine AG [] (Fo N p0 v1 a1) V9 rfl (qa rfl (Ae (Ab (Aa Ac rfl (qm rfl (B3 rfl (Ae ?_)))))))
 refine Ap rfl (fun c2 => ?_) (fun c2 => ?_)
 ·have h := An c2 h
  refine Ab (Aa Ac rfl (qm rfl (qa rfl (qa rfl (Ae ?_)))))
  obtain rfl := sj h
  refine Am ((Br 4 2001 9 rfl rfl rfl).trans (sm [(1000, 2001)] [(4, oD (.own 1000)), (5, iD v1)] [(1000, .vec 9 ((([] : List A1)).map Bo))] rfl rfl)) (Az ?_)
  exact ⟨⟨[_, _], ⟨.tmp _ _ rfl, ⟨.tmp _ _ rfl, tv⟩⟩, rfl⟩, ⟨rfl, tv⟩⟩
 ·have h := Ao c2 h
  refine Aq (Ab (Aa Ac rfl (qa rfl (Ae (Ab (Ab (Aa Ac rfl (qm rfl (AX A3 rfl (qm rfl (Ae ?_)))))))))))
  refine AE (L := DJ N p0 p1) h (fun v3 => mk [(2, oD (.ptr 2 0)), (7, oD (.own 2002)), (17, pD (.sl (p1.map Aj))), (18, iD ((p1.length : Int))), (19, iD v3.2)] [(2, .box [sC (p0.fVersions.map Al), sC (p0.fNow.map Al), sC (p0.fTarget.map Al), sC (p0.fTables.map Ar)]), (2002, .vec 9 (v3.1.map Bo))]) (fun v4 => mk [(7, oD (.own 2003))] [(2003, .vec 9 (v4.map Bo))]) (fun _ _ => rfl) ((Br 7 2006 9 rfl rfl rfl).trans (sm [(2002, 2006)] _ _ rfl rfl)) (fun j3 n3 v3 h => ?_) (fun v4 s h hs => ?_)
  ·unfold DJ at h
   refine Ab (Aa Ac rfl (AV rfl (Ae (Ab ?_))))
   refine Ap rfl (fun c5 => ?_) (fun c5 => ?_)
   ·have h := An c5 h
    refine Aq (Ab (AJ (Ab (Aa Ac rfl ?_))))
    obtain ⟨v6, a6, b6, h⟩ := Ai h
    refine qi A3 AA a6 (Af b6) rfl (qK A9 AA rfl (qz CI rfl (qs AA rfl (Ae (Ab (Aa Ac rfl (qL DO Dv rfl (qL A9 AA rfl ?_))))))))
    obtain ⟨v7, a7, h⟩ := bind_some h
    refine AG [2004] (MG N p0 v6 v7 a7) az rfl (qm rfl (qx rfl (qx rfl (qa rfl (qa rfl (Ae (Ab (Ab (Aa Ac rfl (qm rfl (B3 rfl (Ae ?_))))))))))))
    refine Ap rfl (fun c8 => ?_) (fun c8 => ?_)
    ·have h := An c8 h
     refine Ab (Aa Ac rfl (qm rfl (qa rfl (qa rfl (Ae ?_)))))
     obtain rfl := sj h
     refine Am ((Br 4 2005 9 rfl rfl rfl).trans (sm [(1000, 2005)] [(4, oD (.own 1000)), (5, iD v7.2)] [(1000, .vec 9 ((([] : List A1)).map Bo))] rfl rfl)) (Az ?_)
     exact ⟨⟨[_, _], ⟨.tmp _ _ rfl, ⟨.tmp _ _ rfl, tv⟩⟩, rfl⟩, ⟨rfl, tv⟩⟩
    ·have h := Ao c8 h
     refine Aq (Aa Ac rfl (qm rfl (qm rfl ?_)))
     obtain ⟨c9, h⟩ := AS h
     refine Dt (f := Bo) FC FC J3 S5 PZ c9 rfl (qa rfl (Ae (Aa Ac rfl (AP rfl (qm rfl (Ae ?_))))))
     exact As _ h (sm [(2002, 34)] _ _ rfl rfl)
   ·have h := Ao c5 h
    refine AT ?_
    exact As _ h (sm [(2003, 2002)] _ _ rfl rfl)
  ·refine Am hs (Ab (Aa Ac rfl (qm rfl (qa rfl (qa rfl (Ae ?_))))))
   obtain rfl := sj h
   refine Am (sm [(1000, 2003)] [(4, oD (.own 1000)), (5, iD 0)] [(1000, .vec 9 (v4.map Bo))] rfl rfl) (Az ?_)
   exact ⟨⟨[_, _], ⟨.tmp _ _ rfl, ⟨.tmp _ _ rfl, tv⟩⟩, rfl⟩, ⟨rfl, tv⟩⟩
theorem FU (N : Nat) (p0 : List Ag) (p1 : Int) (p2 : Int) (p3 : (Ag × Ag) → Option Int) (r : (List Ag)) (h : Gs.insertionSort N p0 p1 p2 p3 = some r) : Bh Tryz.prog 132 [oD (.own 90000), iD p1, iD p2, oD (.clo (Bb (Cm true Ad true Ad) Bg p3))] [(.vec 3 (p0.map Ad), .vec 3 (r.map Ad))] [] (.tup []) := by
 unfold Gs.insertionSort at h
 refine Ba (n := 53) (rs := []) Tryz.func132 rfl rfl rfl (A7 rfl) (A7 rfl) rfl rfl (A7 rfl) rfl (A7 rfl) fun w0 S0 GL => Jy ?_
 refine Am (sm [] [(0, oD (.own 90000)), (1, iD p1), (2, iD p2), (3, oD (.clo (Bb (Cm true Ad true Ad) Bg p3)))] [(90000, .vec 3 (p0.map Ad))] rfl rfl) (Ab (Aa Ac rfl (qm rfl (AP rfl (qa rfl (Ae ?_))))))
 refine AE (L := Gs.insertionSort_L1 N p1 p2 p3) h (fun v1 => mk [(0, oD (.own 90000)), (1, iD p1), (2, iD p2), (3, oD (.clo (Bb (Cm true Ad true Ad) Bg p3))), (8, iD v1.2)] [(90000, .vec 3 (v1.1.map Ad))]) (fun v2 => mk [] [(90000, .vec 3 (v2.map Ad))]) (fun _ _ => rfl) (sm [] _ _ rfl rfl) (fun j1 n1 v1 h => ?_) (fun v2 s h hs => ?_)
 ·unfold Gs.insertionSort_L1 at h
  refine Ab (Ab (Aa Ac rfl (qm rfl (qm rfl (AV rfl (Ae ?_))))))
  refine Ap rfl (fun c3 => ?_) (fun c3 => ?_)
  ·have h := An c3 h
   refine Aq (Ab (AJ (Ab (Aa Ac rfl (qm rfl (qa rfl (Ae ?_)))))))
   refine AE (L := Gs.insertionSort_L4 N p1 p3) h (fun v4 => mk [(0, oD (.own 90000)), (1, iD p1), (2, iD p2), (3, oD (.clo (Bb (Cm true Ad true Ad) Bg p3))), (8, iD v1.2), (9, iD v4.2)] [(90000, .vec 3 (v4.1.map Ad))]) (fun v5 => mk [(0, oD (.own 90000)), (1, iD p1), (2, iD p2), (3, oD (.clo (Bb (Cm true Ad true Ad) Bg p3))), (8, iD v1.2)] [(90000, .vec 3 (v5.map Ad))]) (fun _ _ => rfl) (sm [] _ _ rfl rfl) (fun j4 n4 v4 h => ?_) (fun v5 s h hs => ?_)
   ·unfold Gs.insertionSort_L4 at h
    refine Ab ?_
    refine AO h (fun v6 => mk [(0, oD (.own 90000)), (1, iD p1), (2, iD p2), (3, oD (.clo (Bb (Cm true Ad true Ad) Bg p3))), (8, iD v1.2), (9, iD v4.2), (34, bD v6)] [(90000, .vec 3 (v4.1.map Ad))]) (fun j6 h => ?_) (fun v6 h => ?_)
    ·refine Aa Ac rfl (qm rfl (qm rfl (Ey rfl (qm rfl ?_))))
     refine AF (t := 21) rfl (fun c7 => ?_) (fun c7 => ?_)
     ·have h := An c7 h
      refine qm rfl (qm rfl (qm rfl ?_))
      obtain ⟨v8, a8, b8, h⟩ := Ai h
      refine qI A4 AU a8 (Af b8) rfl (qJ CP AU (Af b8) rfl (qm rfl (qm rfl (Bk rfl ?_))))
      obtain ⟨v9, a9, b9, h⟩ := Ai h
      refine qI A4 AU a9 (Af b9) rfl (qJ CP AU (Af b9) rfl ?_)
      obtain ⟨v10, a10, h⟩ := bind_some h
      refine CA (ds0 := [_, _]) (ar := (Cm true Ad true Ad) ((v8, v9))) (.g rfl rfl) rfl rfl ⟨rfl, rfl, tv⟩ rfl rfl rfl (CC (C7 _ _ _ _ Bd Bd) a10) ?_
      refine AV rfl (qp rfl (AB (by kernel_rfl) ?_))
      exact As _ h (sm [] _ _ rfl rfl)
     ·have h := Ao c7 h
      refine qn rfl (qn rfl (qn rfl (qn rfl (qn rfl (qn rfl (qn rfl (qn rfl (qn rfl (qn rfl (qn rfl (qn rfl (qp rfl (AB (by kernel_rfl) ?_)))))))))))))
      exact As _ h (sm [] _ _ rfl rfl)
    ·refine Ap rfl (fun c11 => ?_) (fun c11 => ?_)
     ·have h := An c11 h
      refine Aq (Ab (AJ (Aa Ac rfl (qm rfl (qm rfl (qm rfl (qm rfl (Bk rfl (qm rfl (qm rfl (Bk rfl ?_)))))))))))
      obtain ⟨v12, a12, b12, h⟩ := Ai h
      refine qI A4 AU a12 (Af b12) rfl (qJ CP AU (Af b12) rfl (qm rfl (qm rfl ?_)))
      obtain ⟨v13, a13, b13, h⟩ := Ai h
      refine qI A4 AU a13 (Af b13) rfl (qJ CP AU (Af b13) rfl ?_)
      obtain ⟨v14, a14, b14, h⟩ := Ai h
      refine qI A4 AU a14 (Af b14) rfl ?_
      refine A0 rfl rfl rfl rfl (Af b14) rfl AU rfl (A7 rfl) (AY Ad v4.1 _ v12) ?_
      obtain ⟨v15, a15, b15, h⟩ := Ai h
      refine qI A4 AU a15 (Af b15) rfl ?_
      refine A0 rfl rfl rfl rfl (Af b15) rfl AU rfl (A7 rfl) (AY Ad (v4.1.set ((v4.2).toNat) v12) _ v13) ?_
      refine AB (by kernel_rfl) (Aa Ac rfl (qm rfl (Bk rfl (qa rfl (Ae ?_)))))
      exact As _ h (sm [] _ _ rfl rfl)
     ·have h := Ao c11 h
      refine AT ?_
      exact As _ h (sm [] _ _ rfl rfl)
   ·refine Am hs (Aa Ac rfl (qm rfl (AP rfl (qa rfl (Ae ?_)))))
    exact As _ h (sm [] _ _ rfl rfl)
  ·have h := Ao c3 h
   refine AT ?_
   exact As _ h (sm [] _ _ rfl rfl)
 ·obtain rfl := sj h
  refine ⟨_, hs.trans (sm [] [] [(90000, .vec 3 (v2.map Ad))] rfl rfl), ?_⟩
  exact ⟨⟨[], tv, rfl⟩, ⟨rfl, tv⟩, tv⟩
theorem EO (N : Nat) (p0 : List Ag) (p1 : Int) (p2 : Int) (p3 : Int) (p4 : (Ag × Ag) → Option Int) (r : (List Ag)) (h : Gs.siftDown N p0 p1 p2 p3 p4 = some r) : Bh Tryz.prog 161 [oD (.own 90000), iD p1, iD p2, iD p3, oD (.clo (Bb (Cm true Ad true Ad) Bg p4))] [(.vec 3 (p0.map Ad), .vec 3 (r.map Ad))] [] (.tup []) := by
 unfold Gs.siftDown at h
 refine Ba (n := 82) (rs := []) Tryz.func161 rfl rfl rfl (A7 rfl) (A7 rfl) rfl rfl (A7 rfl) rfl (A7 rfl) fun w0 S0 GL => Jy ?_
 refine Am (sm [] [(0, oD (.own 90000)), (1, iD p1), (2, iD p2), (3, iD p3), (4, oD (.clo (Bb (Cm true Ad true Ad) Bg p4)))] [(90000, .vec 3 (p0.map Ad))] rfl rfl) (Ab (Aa Ac rfl (qm rfl (qa rfl (Ae ?_)))))
 refine AE (L := Gs.siftDown_L1 N p2 p3 p4) h (fun v1 => mk [(0, oD (.own 90000)), (2, iD p2), (3, iD p3), (4, oD (.clo (Bb (Cm true Ad true Ad) Bg p4))), (10, iD v1.2)] [(90000, .vec 3 (v1.1.map Ad))]) (fun v2 => mk [] [(90000, .vec 3 (v2.map Ad))]) (fun _ _ => rfl) (sm [] _ _ rfl rfl) (fun j1 n1 v1 h => ?_) (fun v2 s h hs => ?_)
 ·unfold Gs.siftDown_L1 at h
  refine AJ (Ab (Aa Ac rfl (qm rfl (HC rfl (AP rfl (qa rfl (Ae (Ab (Ab (Aa Ac rfl (qm rfl (qm rfl (Cz rfl (Ae ?_))))))))))))))
  refine Ap rfl (fun c3 => ?_) (fun c3 => ?_)
  ·have h := An c3 h
   refine AT ?_
   exact As _ h (sm [] _ _ rfl rfl)
  ·have h := Ao c3 h
   refine Aq ?_
   refine AO h (fun v4 => mk [(0, oD (.own 90000)), (2, iD p2), (3, iD p3), (4, oD (.clo (Bb (Cm true Ad true Ad) Bg p4))), (10, iD v1.2), (11, iD v4)] [(90000, .vec 3 (v1.1.map Ad))]) (fun j4 h => ?_) (fun v4 h => ?_)
   ·refine AO h (fun v5 => mk [(0, oD (.own 90000)), (2, iD p2), (3, iD p3), (4, oD (.clo (Bb (Cm true Ad true Ad) Bg p4))), (10, iD v1.2), (11, iD ((wI .i64 ((wI .i64 (2 * v1.2)) + 1)))), (40, bD v5)] [(90000, .vec 3 (v1.1.map Ad))]) (fun j5 h => ?_) (fun v5 h => ?_)
    ·refine Aa Ac rfl (qm rfl (AP rfl (qm rfl (AV rfl (qm rfl ?_)))))
     refine AF (t := 23) rfl (fun c6 => ?_) (fun c6 => ?_)
     ·have h := An c6 h
      refine qm rfl (qm rfl (qm rfl (qm rfl (AP rfl ?_))))
      obtain ⟨v7, a7, b7, h⟩ := Ai h
      refine qI A4 AU a7 (Af b7) rfl (qJ CP AU (Af b7) rfl (qm rfl (qm rfl (qm rfl (AP rfl (AP rfl ?_))))))
      obtain ⟨v8, a8, b8, h⟩ := Ai h
      refine qI A4 AU a8 (Af b8) rfl (qJ CP AU (Af b8) rfl ?_)
      obtain ⟨v9, a9, h⟩ := bind_some h
      refine CA (ds0 := [_, _]) (ar := (Cm true Ad true Ad) ((v7, v8))) (.g rfl rfl) rfl rfl ⟨rfl, rfl, tv⟩ rfl rfl rfl (CC (C7 _ _ _ _ Bd Bd) a9) ?_
      refine AV rfl (qp rfl (AB (by kernel_rfl) ?_))
      exact As _ h (sm [] _ _ rfl rfl)
     ·have h := Ao c6 h
      refine qn rfl (qn rfl (qn rfl (qn rfl (qn rfl (qn rfl (qn rfl (qn rfl (qn rfl (qn rfl (qn rfl (qn rfl (qn rfl (qn rfl (qn rfl (qn rfl (qp rfl (AB (by kernel_rfl) ?_)))))))))))))))))
      exact As _ h (sm [] _ _ rfl rfl)
    ·refine Ap rfl (fun c10 => ?_) (fun c10 => ?_)
     ·have h := An c10 h
      refine Aa Ac rfl (qm rfl (AP rfl (qa rfl (Ae ?_))))
      exact As _ h (sm [] _ _ rfl rfl)
     ·have h := Ao c10 h
      refine Aq ?_
      exact As _ h (sm [] _ _ rfl rfl)
   ·refine Ab (Ab (Aa Ac rfl (qm rfl (qm rfl (qm rfl (qm rfl (AP rfl ?_)))))))
    obtain ⟨v11, a11, b11, h⟩ := Ai h
    refine qI A4 AU a11 (Af b11) rfl (qJ CP AU (Af b11) rfl (qm rfl (qm rfl (qm rfl (AP rfl ?_)))))
    obtain ⟨v12, a12, b12, h⟩ := Ai h
    refine qI A4 AU a12 (Af b12) rfl (qJ CP AU (Af b12) rfl ?_)
    obtain ⟨v13, a13, h⟩ := bind_some h
    refine CA (ds0 := [_, _]) (ar := (Cm true Ad true Ad) ((v11, v12))) (.p rfl) rfl rfl ⟨rfl, rfl, tv⟩ rfl rfl rfl (CC (C7 _ _ _ _ Bd Bd) a13) ?_
    refine AV rfl (BZ rfl (AB (by kernel_rfl) ?_))
    refine Ap rfl (fun c14 => ?_) (fun c14 => ?_)
    ·have h := An c14 h
     obtain rfl := sj h
     refine Az ⟨_, (sm [] [] [(90000, .vec 3 (v1.1.map Ad))] rfl rfl), ?_⟩
     exact ⟨⟨[], tv, rfl⟩, ⟨rfl, tv⟩, tv⟩
    ·have h := Ao c14 h
     refine Aq (Ab (Aa Ac rfl (qm rfl (qm rfl (qm rfl (AP rfl (qm rfl (qm rfl (qm rfl (AP rfl (qm rfl (qm rfl (qm rfl (AP rfl ?_))))))))))))))
     obtain ⟨v15, a15, b15, h⟩ := Ai h
     refine qI A4 AU a15 (Af b15) rfl (qJ CP AU (Af b15) rfl (qm rfl (qm rfl (qm rfl (AP rfl ?_)))))
     obtain ⟨v16, a16, b16, h⟩ := Ai h
     refine qI A4 AU a16 (Af b16) rfl (qJ CP AU (Af b16) rfl ?_)
     obtain ⟨v17, a17, b17, h⟩ := Ai h
     refine qI A4 AU a17 (Af b17) rfl ?_
     refine A0 rfl rfl rfl rfl (Af b17) rfl AU rfl (A7 rfl) (AY Ad v1.1 _ v15) ?_
     obtain ⟨v18, a18, b18, h⟩ := Ai h
     refine qI A4 AU a18 (Af b18) rfl ?_
     refine A0 rfl rfl rfl rfl (Af b18) rfl AU rfl (A7 rfl) (AY Ad (v1.1.set (((wI .i64 (p3 + v1.2))).toNat) v15) _ v16) ?_
     refine AB (by kernel_rfl) (Aa Ac rfl (qm rfl (qa rfl (Ae ?_))))
     exact As _ h (sm [] _ _ rfl rfl)
 ·obtain rfl := sj h
  refine ⟨_, hs.trans (sm [] [] [(90000, .vec 3 (v2.map Ad))] rfl rfl), ?_⟩
  exact ⟨⟨[], tv, rfl⟩, ⟨rfl, tv⟩, tv⟩
theorem GF (N : Nat) (p0 : List Ag) (p1 : Int) (p2 : Int) (p3 : (Ag × Ag) → Option Int) (r : (List Ag)) (h : Gs.heapSort N p0 p1 p2 p3 = some r) : Bh Tryz.prog 133 [oD (.own 90000), iD p1, iD p2, oD (.clo (Bb (Cm true Ad true Ad) Bg p3))] [(.vec 3 (p0.map Ad), .vec 3 (r.map Ad))] [] (.tup []) := by
 unfold Gs.heapSort at h
 refine Ba (n := 60) (rs := []) Tryz.func133 rfl rfl rfl (A7 rfl) (A7 rfl) rfl rfl (A7 rfl) rfl (A7 rfl) fun w0 S0 GL => Jy ?_
 refine Am (sm [] [(0, oD (.own 90000)), (1, iD p1), (2, iD p2), (3, oD (.clo (Bb (Cm true Ad true Ad) Bg p3)))] [(90000, .vec 3 (p0.map Ad))] rfl rfl) (Ab (Aa Ac rfl (qm rfl (qa rfl (Ae (Ab (Aa Ac rfl (qa rfl (Ae (Ab (Aa Ac rfl (qm rfl (qm rfl (Bk rfl (qa rfl (Ae (Ab (Ab (Aa Ac rfl (qm rfl (Bk rfl (Jz rfl (by decide) (qa rfl (Ae ?_))))))))))))))))))))))))
 refine AE (L := Gs.heapSort_L1 N p1 p2 p3) h (fun v1 => mk [(0, oD (.own 90000)), (3, oD (.clo (Bb (Cm true Ad true Ad) Bg p3))), (8, iD p1), (9, iD 0), (10, iD ((wI .i64 (p2 - p1)))), (11, iD v1.2)] [(90000, .vec 3 (v1.1.map Ad))]) (fun v2 => mk [(0, oD (.own 90000)), (3, oD (.clo (Bb (Cm true Ad true Ad) Bg p3))), (8, iD p1), (9, iD 0), (10, iD ((wI .i64 (p2 - p1))))] [(90000, .vec 3 (v2.map Ad))]) (fun _ _ => rfl) (sm [] _ _ rfl rfl) (fun j1 n1 v1 h => ?_) (fun v2 s h hs => ?_)
 ·unfold Gs.heapSort_L1 at h
  refine Ab (Ab (Aa Ac rfl (qm rfl (Cz rfl (Ae ?_)))))
  refine Ap rfl (fun c3 => ?_) (fun c3 => ?_)
  ·have h := An c3 h
   refine Aq (Ab (AJ (Aa Ac rfl (qm rfl (qm rfl (qm rfl (qm rfl (qm rfl ?_))))))))
   obtain ⟨v4, a4, h⟩ := bind_some h
   refine BC (ds0 := [_, _, _, _, _]) [90000] [] [true] (EO N v1.1 v1.2 ((wI .i64 (p2 - p1))) p1 p3 v4 a4) (.p rfl) WL rfl ⟨rfl, rfl, rfl, rfl, rfl, tv⟩ rfl rfl (by decide) ⟨rfl, tv⟩ rfl (A2 rfl) tv ⟨(fun h => by cases h), tv⟩ rfl rfl rfl ?_
   refine Ae (Aa Ac rfl (qm rfl (Bk rfl (qa rfl (Ae ?_)))))
   exact As _ h (sm [] _ _ rfl rfl)
  ·have h := Ao c3 h
   refine AT ?_
   exact As _ h (sm [] _ _ rfl rfl)
 ·refine Am hs (Ab (Aa Ac rfl (qm rfl (Bk rfl (qa rfl (Ae ?_))))))
  refine AE (L := Gs.heapSort_L5 N p1 p3) h (fun v5 => mk [(0, oD (.own 90000)), (3, oD (.clo (Bb (Cm true Ad true Ad) Bg p3))), (8, iD p1), (9, iD 0), (12, iD v5.2)] [(90000, .vec 3 (v5.1.map Ad))]) (fun v6 => mk [] [(90000, .vec 3 (v6.map Ad))]) (fun _ _ => rfl) (sm [] _ _ rfl rfl) (fun j5 n5 v5 h => ?_) (fun v6 s h hs => ?_)
  ·unfold Gs.heapSort_L5 at h
   refine Ab (Ab (Aa Ac rfl (qm rfl (Cz rfl (Ae ?_)))))
   refine Ap rfl (fun c7 => ?_) (fun c7 => ?_)
   ·have h := An c7 h
    refine Aq (Ab (AJ (Ab (Aa Ac rfl (qm rfl (qm rfl (qm rfl (qm rfl (qm rfl (AP rfl (qm rfl (qm rfl (qm rfl (AP rfl ?_))))))))))))))
    obtain ⟨v8, a8, b8, h⟩ := Ai h
    refine qI A4 AU a8 (Af b8) rfl (qJ CP AU (Af b8) rfl (qm rfl (qm rfl ?_)))
    obtain ⟨v9, a9, b9, h⟩ := Ai h
    refine qI A4 AU a9 (Af b9) rfl (qJ CP AU (Af b9) rfl ?_)
    obtain ⟨v10, a10, b10, h⟩ := Ai h
    refine qI A4 AU a10 (Af b10) rfl ?_
    refine A0 rfl rfl rfl rfl (Af b10) rfl AU rfl (A7 rfl) (AY Ad v5.1 _ v8) ?_
    obtain ⟨v11, a11, b11, h⟩ := Ai h
    refine qI A4 AU a11 (Af b11) rfl ?_
    refine A0 rfl rfl rfl rfl (Af b11) rfl AU rfl (A7 rfl) (AY Ad (v5.1.set ((p1).toNat) v8) _ v9) ?_
    refine AB (by kernel_rfl) (Aa Ac rfl (qm rfl (qm rfl (qm rfl (qm rfl (qm rfl ?_))))))
    obtain ⟨v12, a12, h⟩ := bind_some h
    refine BC (ds0 := [_, _, _, _, _]) [90000] [] [true] (EO N ((v5.1.set ((p1).toNat) v8).set (((wI .i64 (p1 + v5.2))).toNat) v9) 0 v5.2 p1 p3 v12 a12) (.p rfl) WL rfl ⟨rfl, rfl, rfl, rfl, rfl, tv⟩ rfl rfl (by decide) ⟨rfl, tv⟩ rfl (A2 rfl) tv ⟨(fun h => by cases h), tv⟩ rfl rfl rfl ?_
    refine Ae (Aa Ac rfl (qm rfl (Bk rfl (qa rfl (Ae ?_)))))
    exact As _ h (sm [] _ _ rfl rfl)
   ·have h := Ao c7 h
    refine AT ?_
    exact As _ h (sm [] _ _ rfl rfl)
  ·obtain rfl := sj h
   refine ⟨_, hs.trans (sm [] [] [(90000, .vec 3 (v6.map Ad))] rfl rfl), ?_⟩
   exact ⟨⟨[], tv, rfl⟩, ⟨rfl, tv⟩, tv⟩
theorem FV (N : Nat) (p0 : List Ag) (p1 : Int) (p2 : Int) (p3 : (Ag × Ag) → Option Int) (r : (List Ag)) (h : Gs.breakPatterns N p0 p1 p2 p3 = some r) : Bh Tryz.prog 134 [oD (.own 90000), iD p1, iD p2, oD (.clo (Bb (Cm true Ad true Ad) Bg p3))] [(.vec 3 (p0.map Ad), .vec 3 (r.map Ad))] [] (.tup []) := by
 unfold Gs.breakPatterns at h
 refine Ba (n := 67) (rs := []) Tryz.func134 rfl rfl rfl (A7 rfl) (A7 rfl) rfl rfl (A7 rfl) rfl (A7 rfl) fun w0 S0 GL => Jy ?_
 refine Am (sm [] [(0, oD (.own 90000)), (1, iD p1), (2, iD p2), (3, oD (.clo (Bb (Cm true Ad true Ad) Bg p3)))] [(90000, .vec 3 (p0.map Ad))] rfl rfl) (Ab (Aa Ac rfl (qm rfl (qm rfl (Bk rfl (qa rfl (Ae (Ab (Aa Ac rfl (qm rfl (Cz rfl (Ae ?_))))))))))))
 refine Ap rfl (fun c1 => ?_) (fun c1 => ?_)
 ·have h := An c1 h
  refine Ab (Aa Ac rfl (qm rfl (Gq T1 WF rfl (qz WB rfl (qs Rn rfl (Ae (Ab (Aa Ac rfl (qm rfl ?_)))))))))
  obtain ⟨v2, a2, h⟩ := bind_some h
  refine AG [] (HD N ((wI .i64 (p2 - p1))) v2 a2) WR rfl (qa rfl (Ae (Ab (Aa Ac rfl (qm rfl (qm rfl (Jz rfl (by decide) (HC rfl (AP rfl (Bk rfl (qa rfl (Ae ?_))))))))))))
  refine AE (L := Gs.breakPatterns_L3 N p1 p2 v2) h (fun v3 => mk [(0, oD (.own 90000)), (1, iD p1), (8, iD ((wI .i64 (p2 - p1)))), (9, oD (.ptr 9 0)), (10, pD (.val (.int .u64 v2))), (11, iD v3.2.2)] [(9, .box [.pure (.val (.int .u64 v3.2.1))]), (90000, .vec 3 (v3.1.map Ad))]) (fun v4 => mk [] [(90000, .vec 3 (v4.map Ad))]) (fun _ _ => rfl) (sm [] _ _ rfl rfl) (fun j3 n3 v3 h => ?_) (fun v4 s h hs => ?_)
  ·unfold Gs.breakPatterns_L3 at h
   refine Ab (Ab (Aa Ac rfl (qm rfl (qm rfl (qm rfl (Jz rfl (by decide) (HC rfl (AP rfl (AP rfl (H3 rfl (Ae ?_)))))))))))
   refine Ap rfl (fun c5 => ?_) (fun c5 => ?_)
   ·have h := An c5 h
    refine Aq (Ab (AJ (Ab (Aa Ac rfl ?_))))
    obtain ⟨v6, a6, h⟩ := bind_some h
    refine BC (ds0 := [_]) [9] [] [true] (HT N v3.2.1 v6 a6) (.p rfl) WD rfl ⟨rfl, tv⟩ rfl rfl (by decide) ⟨rfl, tv⟩ rfl (A2 rfl) tv ⟨(fun h => by cases h), tv⟩ rfl rfl rfl ?_
    refine qm rfl (Bk rfl (KJ rfl (Gq Ot SY rfl (qa rfl (Ae ?_)))))
    refine AO h (fun v7 => mk [(0, oD (.own 90000)), (1, iD p1), (8, iD ((wI .i64 (p2 - p1)))), (9, oD (.ptr 9 0)), (10, pD (.val (.int .u64 v2))), (11, iD v3.2.2), (12, iD v7)] [(9, .box [.pure (.val (.int .u64 v6.2))]), (90000, .vec 3 (v3.1.map Ad))]) (fun j7 h => ?_) (fun v7 h => ?_)
    ·refine Ab (Aa Ac rfl (qm rfl (qm rfl (Cz rfl (Ae ?_)))))
     refine Ap rfl (fun c8 => ?_) (fun c8 => ?_)
     ·have h := An c8 h
      refine Aa Ac rfl (qm rfl (qm rfl (Bk rfl (qa rfl (Ae ?_)))))
      exact As _ h (sm [] _ _ rfl rfl)
     ·have h := Ao c8 h
      refine Aq ?_
      exact As _ h (sm [] _ _ rfl rfl)
    ·refine Aa Ac rfl (qm rfl (qm rfl (qm rfl (qm rfl (qm rfl (AP rfl (qm rfl (qm rfl (qm rfl (AP rfl ?_))))))))))
     obtain ⟨v9, a9, b9, h⟩ := Ai h
     refine qI A4 AU a9 (Af b9) rfl (qJ CP AU (Af b9) rfl (qm rfl (qm rfl ?_)))
     obtain ⟨v10, a10, b10, h⟩ := Ai h
     refine qI A4 AU a10 (Af b10) rfl (qJ CP AU (Af b10) rfl ?_)
     obtain ⟨v11, a11, b11, h⟩ := Ai h
     refine qI A4 AU a11 (Af b11) rfl ?_
     refine A0 rfl rfl rfl rfl (Af b11) rfl AU rfl (A7 rfl) (AY Ad v3.1 _ v9) ?_
     obtain ⟨v12, a12, b12, h⟩ := Ai h
     refine qI A4 AU a12 (Af b12) rfl ?_
     refine A0 rfl rfl rfl rfl (Af b12) rfl AU rfl (A7 rfl) (AY Ad (v3.1.set ((v3.2.2).toNat) v9) _ v10) ?_
     refine AB (by kernel_rfl) (Aa Ac rfl (qm rfl (AP rfl (qa rfl (Ae ?_)))))
     exact As _ h (sm [] _ _ rfl rfl)
   ·have h := Ao c5 h
    refine AT ?_
    exact As _ h (sm [] _ _ rfl rfl)
  ·obtain rfl := sj h
   refine ⟨_, hs.trans (sm [] [] [(90000, .vec 3 (v4.map Ad))] rfl rfl), ?_⟩
   exact ⟨⟨[], tv, rfl⟩, ⟨rfl, tv⟩, tv⟩
 ·have h := Ao c1 h
  refine Aq ?_
  obtain rfl := sj h
  refine ⟨_, (sm [] [] [(90000, .vec 3 (p0.map Ad))] rfl rfl), ?_⟩
  exact ⟨⟨[], tv, rfl⟩, ⟨rfl, tv⟩, tv⟩
theorem DU (N : Nat) (p0 : List Ag) (p1 : Int) (p2 : Int) (p3 : Int) (p4 : (Ag × Ag) → Option Int) (r : Int × Int × Int) (h : Gs.order2 N p0 p1 p2 p3 p4 = some r) : Bh Tryz.prog 171 [pD (.sl (p0.map Ad)), iD p1, iD p2, oD (.ptr 90000 0), oD (.clo (Bb (Cm true Ad true Ad) Bg p4))] [(.box [iC p3], .box [iC r.2.2])] [] (.tup [.one (iC r.1), .one (iC r.2.1)]) := by
 unfold Gs.order2 at h
 refine Ba (n := 32) (rs := [.tmp 10, .tmp 11]) Tryz.func171 rfl rfl rfl (A7 rfl) (A7 rfl) rfl rfl (A7 rfl) rfl (A7 rfl) fun w0 S0 GL => ?_
 refine Am (sm [] [(0, pD (.sl (p0.map Ad))), (1, iD p1), (2, iD p2), (3, oD (.ptr 90000 0)), (4, oD (.clo (Bb (Cm true Ad true Ad) Bg p4)))] [(90000, .box [iC p3])] rfl rfl) (Ab (Aa Ac rfl (qa rfl (qa rfl (Ae (Ab (Ab (Aa Ac rfl (qm rfl (qm rfl (qm rfl ?_)))))))))))
 obtain ⟨v1, a1, b1, h⟩ := Ai h
 refine qi A4 AU a1 (Af b1) rfl (qK CP AU rfl (qm rfl (qm rfl ?_)))
 obtain ⟨v2, a2, b2, h⟩ := Ai h
 refine qi A4 AU a2 (Af b2) rfl (qK CP AU rfl ?_)
 obtain ⟨v3, a3, h⟩ := bind_some h
 refine CA (ds0 := [_, _]) (ar := (Cm true Ad true Ad) ((v1, v2))) (.p rfl) rfl rfl ⟨rfl, rfl, tv⟩ rfl rfl rfl (CC (C7 _ _ _ _ Bd Bd) a3) ?_
 refine AV rfl (AB (by kernel_rfl) ?_)
 refine Ap rfl (fun c4 => ?_) (fun c4 => ?_)
 ·have h := An c4 h
  refine Ab (Aa Ac rfl (qm rfl (NR rfl (ql B6 rfl (AP rfl (NR rfl (qs Dw rfl (Ae (Ab (Aa Ac rfl (qm rfl (qm rfl (qa rfl (qa rfl (Ae ?_)))))))))))))))
  obtain rfl := sj h
  refine Am (sm [] [(10, iD p2), (11, iD p1)] [(90000, .box [iC ((wI .i64 (p3 + 1)))])] rfl rfl) (Az ?_)
  exact ⟨⟨[_, _], ⟨.tmp _ _ rfl, ⟨.tmp _ _ rfl, tv⟩⟩, rfl⟩, ⟨rfl, tv⟩, tv⟩
 ·have h := Ao c4 h
  refine Aq (Ab (Aa Ac rfl (qm rfl (qm rfl (qa rfl (qa rfl (Ae ?_)))))))
  obtain rfl := sj h
  refine Am (sm [] [(10, iD p1), (11, iD p2)] [(90000, .box [iC p3])] rfl rfl) (Az ?_)
  exact ⟨⟨[_, _], ⟨.tmp _ _ rfl, ⟨.tmp _ _ rfl, tv⟩⟩, rfl⟩, ⟨rfl, tv⟩, tv⟩
theorem E0 (N : Nat) (p0 : List Ag) (p1 : Int) (p2 : Int) (p3 : Int) (p4 : Int) (p5 : (Ag × Ag) → Option Int) (r : Int × Int) (h : Gs.median N p0 p1 p2 p3 p4 p5 = some r) : Bh Tryz.prog 165 [pD (.sl (p0.map Ad)), iD p1, iD p2, iD p3, oD (.ptr 90000 0), oD (.clo (Bb (Cm true Ad true Ad) Bg p5))] [(.box [iC p4], .box [iC r.2])] [] (iD r.1) := by
 unfold Gs.median at h
 refine Ba (n := 41) (rs := [.tmp 12]) Tryz.func165 rfl rfl rfl (A7 rfl) (A7 rfl) rfl rfl (A7 rfl) rfl (A7 rfl) fun w0 S0 GL => ?_
 refine Am (sm [] [(0, pD (.sl (p0.map Ad))), (1, iD p1), (2, iD p2), (3, iD p3), (4, oD (.ptr 90000 0)), (5, oD (.clo (Bb (Cm true Ad true Ad) Bg p5)))] [(90000, .box [iC p4])] rfl rfl) (Ab (Aa Ac rfl (qa rfl (Ae (Ab (Aa Ac rfl (qm rfl (qm rfl (qm rfl (qm rfl (qm rfl ?_)))))))))))
 obtain ⟨v1, a1, h⟩ := bind_some h
 refine BC (ds0 := [_, _, _, _, _]) [90000] [] [true] (DU N p0 p1 p2 p4 p5 v1 a1) (.p rfl) Vj rfl ⟨rfl, rfl, rfl, rfl, rfl, tv⟩ rfl rfl (by decide) ⟨rfl, tv⟩ rfl (A2 rfl) tv ⟨(fun h => by cases h), tv⟩ rfl rfl rfl ?_
 refine qm rfl (qx rfl (qx rfl (qa rfl (qa rfl (Ae (Ab (Aa Ac rfl (qm rfl (qm rfl (qm rfl (qm rfl (qm rfl ?_))))))))))))
 obtain ⟨v2, a2, h⟩ := bind_some h
 refine BC (ds0 := [_, _, _, _, _]) [90000] [] [true] (DU N p0 v1.2.1 p3 v1.2.2 p5 v2 a2) (.p rfl) Vj rfl ⟨rfl, rfl, rfl, rfl, rfl, tv⟩ rfl rfl (by decide) ⟨rfl, tv⟩ rfl (A2 rfl) tv ⟨(fun h => by cases h), tv⟩ rfl rfl rfl ?_
 refine qm rfl (qx rfl (qx rfl (qa rfl (qa rfl (Ae (Ab (Aa Ac rfl (qm rfl (qm rfl (qm rfl (qm rfl (qm rfl ?_))))))))))))
 obtain ⟨v3, a3, h⟩ := bind_some h
 refine BC (ds0 := [_, _, _, _, _]) [90000] [] [true] (DU N p0 v1.1 v2.1 v2.2.2 p5 v3 a3) (.p rfl) Vj rfl ⟨rfl, rfl, rfl, rfl, rfl, tv⟩ rfl rfl (by decide) ⟨rfl, tv⟩ rfl (A2 rfl) tv ⟨(fun h => by cases h), tv⟩ rfl rfl rfl ?_
 refine qm rfl (qx rfl (qx rfl (qa rfl (qa rfl (Ae (Ab (Aa Ac rfl (qm rfl (qa rfl (Ae ?_))))))))))
 obtain rfl := sj h
 refine Am (sm [] [(12, iD v3.2.1)] [(90000, .box [iC v3.2.2])] rfl rfl) (Az ?_)
 exact ⟨⟨[_], ⟨.tmp _ _ rfl, tv⟩, rfl⟩, ⟨rfl, tv⟩, tv⟩
theorem CZ (N : Nat) (p0 : List Ag) (p1 : Int) (p2 : Int) (p3 : (Ag × Ag) → Option Int) (r : Int × Int) (h : Gs.medianAdjacent N p0 p1 p2 p3 = some r) : Bh Tryz.prog 164 [pD (.sl (p0.map Ad)), iD p1, oD (.ptr 90000 0), oD (.clo (Bb (Cm true Ad true Ad) Bg p3))] [(.box [iC p2], .box [iC r.2])] [] (iD r.1) := by
 unfold Gs.medianAdjacent at h
 refine Ba (n := 18) (rs := [.tmp 8]) Tryz.func164 rfl rfl rfl (A7 rfl) (A7 rfl) rfl rfl (A7 rfl) rfl (A7 rfl) fun w0 S0 GL => ?_
 refine Am (sm [] [(0, pD (.sl (p0.map Ad))), (1, iD p1), (2, oD (.ptr 90000 0)), (3, oD (.clo (Bb (Cm true Ad true Ad) Bg p3)))] [(90000, .box [iC p2])] rfl rfl) (Ab (Aa Ac rfl (qa rfl (Ae (Ab (Aa Ac rfl (qm rfl (qm rfl (Bk rfl (qm rfl (qm rfl (AP rfl (qm rfl (qm rfl ?_))))))))))))))
 obtain ⟨v1, a1, h⟩ := bind_some h
 refine BC (ds0 := [_, _, _, _, _, _]) [90000] [] [true] (E0 N p0 ((wI .i64 (p1 - 1))) p1 ((wI .i64 (p1 + 1))) p2 p3 v1 a1) (.p rfl) WJ rfl ⟨rfl, rfl, rfl, rfl, rfl, rfl, tv⟩ rfl rfl (by decide) ⟨rfl, tv⟩ rfl (A2 rfl) tv ⟨(fun h => by cases h), tv⟩ rfl rfl rfl ?_
 refine qa rfl (Ae ?_)
 obtain rfl := sj h
 refine Am (sm [] [(8, iD v1.1)] [(90000, .box [iC v1.2])] rfl rfl) (Az ?_)
 exact ⟨⟨[_], ⟨.tmp _ _ rfl, tv⟩, rfl⟩, ⟨rfl, tv⟩, tv⟩
theorem F9 (N : Nat) (p0 : List Ag) (p1 : Int) (p2 : Int) (p3 : (Ag × Ag) → Option Int) (r : Int × Int) (h : Gs.choosePivot N p0 p1 p2 p3 = some r) : AC Tryz.prog 135 [pD (.sl (p0.map Ad)), iD p1, iD p2, oD (.clo (Bb (Cm true Ad true Ad) Bg p3))] [] (.tup [.one (iC r.1), .one (iC r.2)]) := by
 unfold Gs.choosePivot at h
 refine Au (n := 63) (rs := [.tmp 8, .tmp 9]) Tryz.func135 rfl rfl rfl (A7 rfl) (A7 rfl) rfl fun w0 S0 => ?_
 refine Ab (Aa Ac rfl (qa rfl (qa rfl (Ae (Ab (Aa Ac rfl (qm rfl (qm rfl (Bk rfl (qa rfl (Ae (Ab (Aa Ac rfl (qz Kv rfl (Ae (Ab (Aa Ac rfl (qm rfl (qm rfl (Jz rfl (by decide) (HC rfl (AP rfl (qa rfl (Ae (Ab (Aa Ac rfl (qm rfl (qm rfl (Jz rfl (by decide) (HC rfl (AP rfl (qa rfl (Ae (Ab (Aa Ac rfl (qm rfl (qm rfl (Jz rfl (by decide) (HC rfl ?_)))))))))))))))))))))))))))))))))))))))
 refine AP rfl (qa rfl (Ae ?_))
 refine AO h (fun v1 => mk [(11, oD (.ptr 11 0)), (13, iD v1.2)] [(11, .box [iC v1.1])]) (fun j1 h => ?_) (fun v1 h => ?_)
 ·refine Ab (Aa Ac rfl (qm rfl (Cz rfl (Ae ?_))))
  refine Ap rfl (fun c2 => ?_) (fun c2 => ?_)
  ·have h := An c2 h
   refine AO h (fun v3 => mk [(0, pD (.sl (p0.map Ad))), (3, oD (.clo (Bb (Cm true Ad true Ad) Bg p3))), (11, oD (.ptr 11 0)), (12, iD v3.2.1), (13, iD v3.2.2.1), (14, iD v3.2.2.2)] [(11, .box [iC v3.1])]) (fun j3 h => ?_) (fun v3 h => ?_)
   ·refine Ab (Aa Ac rfl (qm rfl (Cz rfl (Ae ?_))))
    refine Ap rfl (fun c4 => ?_) (fun c4 => ?_)
    ·have h := An c4 h
     refine Ab (Aa Ac rfl (qm rfl (qm rfl (qm rfl ?_))))
     obtain ⟨v5, a5, h⟩ := bind_some h
     refine BC (ds0 := [_, _, _, _]) [11] [] [true] (CZ N p0 ((wI .i64 (p1 + (wI .i64 ((wI .i64 (Int.tdiv ((wI .i64 (p2 - p1))) 4)) * 1))))) 0 p3 v5 a5) (.p rfl) Uv rfl ⟨rfl, rfl, rfl, rfl, tv⟩ rfl rfl (by decide) ⟨rfl, tv⟩ rfl (A2 rfl) tv ⟨(fun h => by cases h), tv⟩ rfl rfl rfl ?_
     refine qa rfl (Ae (Ab (Aa Ac rfl (qm rfl (qm rfl (qm rfl ?_))))))
     obtain ⟨v6, a6, h⟩ := bind_some h
     refine BC (ds0 := [_, _, _, _]) [11] [] [true] (CZ N p0 ((wI .i64 (p1 + (wI .i64 ((wI .i64 (Int.tdiv ((wI .i64 (p2 - p1))) 4)) * 2))))) v5.2 p3 v6 a6) (.p rfl) Uv rfl ⟨rfl, rfl, rfl, rfl, tv⟩ rfl rfl (by decide) ⟨rfl, tv⟩ rfl (A2 rfl) tv ⟨(fun h => by cases h), tv⟩ rfl rfl rfl ?_
     refine qa rfl (Ae (Aa Ac rfl (qm rfl (qm rfl (qm rfl ?_)))))
     obtain ⟨v7, a7, h⟩ := bind_some h
     refine BC (ds0 := [_, _, _, _]) [11] [] [true] (CZ N p0 ((wI .i64 (p1 + (wI .i64 ((wI .i64 (Int.tdiv ((wI .i64 (p2 - p1))) 4)) * 3))))) v6.2 p3 v7 a7) (.p rfl) Uv rfl ⟨rfl, rfl, rfl, rfl, tv⟩ rfl rfl (by decide) ⟨rfl, tv⟩ rfl (A2 rfl) tv ⟨(fun h => by cases h), tv⟩ rfl rfl rfl ?_
     refine qa rfl (Ae ?_)
     exact As _ h (sm [] _ _ rfl rfl)
    ·have h := Ao c4 h
     refine Aq ?_
     exact As _ h (sm [] _ _ rfl rfl)
   ·refine Aa Ac rfl (qm rfl (qm rfl (qm rfl (qm rfl (qm rfl ?_)))))
    obtain ⟨v8, a8, h⟩ := bind_some h
    refine BC (ds0 := [_, _, _, _, _, _]) [11] [] [true] (E0 N p0 v3.2.1 v3.2.2.1 v3.2.2.2 v3.1 p3 v8 a8) (.p rfl) WJ rfl ⟨rfl, rfl, rfl, rfl, rfl, rfl, tv⟩ rfl rfl (by decide) ⟨rfl, tv⟩ rfl (A2 rfl) tv ⟨(fun h => by cases h), tv⟩ rfl rfl rfl ?_
    refine qa rfl (Ae ?_)
    exact As _ h (sm [] _ _ rfl rfl)
  ·have h := Ao c2 h
   refine Aq ?_
   exact As _ h (sm [] _ _ rfl rfl)
 ·refine Ab (Aa Ac rfl (ql B6 rfl (Ae (AJ (Ab (Aa Ac rfl (BL rfl (qa rfl (Ae ?_)))))))))
  refine Ap rfl (fun c9 => ?_) (fun c9 => ?_)
  ·have h := An c9 h
   refine Ab (Aa Ac rfl (qm rfl (qa rfl (qa rfl (Ae ?_)))))
   obtain rfl := sj h
   refine Am (sm [] [(8, iD v1.2), (9, iD 1)] [] rfl rfl) (Az ?_)
   exact ⟨⟨[_, _], ⟨.tmp _ _ rfl, ⟨.tmp _ _ rfl, tv⟩⟩, rfl⟩, tv⟩
  ·have h := Ao c9 h
   refine Ab (Aa Ac rfl (BL rfl (qa rfl (Ae ?_))))
   refine Ap rfl (fun c10 => ?_) (fun c10 => ?_)
   ·have h := An c10 h
    refine Ab (Aa Ac rfl (qm rfl (qa rfl (qa rfl (Ae ?_)))))
    obtain rfl := sj h
    refine Am (sm [] [(8, iD v1.2), (9, iD 2)] [] rfl rfl) (Az ?_)
    exact ⟨⟨[_, _], ⟨.tmp _ _ rfl, ⟨.tmp _ _ rfl, tv⟩⟩, rfl⟩, tv⟩
   ·have h := Ao c10 h
    refine Ab (Aa Ac rfl (qm rfl (qa rfl (qa rfl (Ae ?_)))))
    obtain rfl := sj h
    refine Am (sm [] [(8, iD v1.2), (9, iD 0)] [] rfl rfl) (Az ?_)
    exact ⟨⟨[_, _], ⟨.tmp _ _ rfl, ⟨.tmp _ _ rfl, tv⟩⟩, rfl⟩, tv⟩
theorem F0 (N : Nat) (p0 : List Ag) (p1 : Int) (p2 : Int) (p3 : (Ag × Ag) → Option Int) (r : (List Ag)) (h : Gs.reverseRange N p0 p1 p2 p3 = some r) : Bh Tryz.prog 136 [oD (.own 90000), iD p1, iD p2, oD (.clo (Bb (Cm true Ad true Ad) Bg p3))] [(.vec 3 (p0.map Ad), .vec 3 (r.map Ad))] [] (.tup []) := by
 unfold Gs.reverseRange at h
 refine Ba (n := 34) (rs := []) Tryz.func136 rfl rfl rfl (A7 rfl) (A7 rfl) rfl rfl (A7 rfl) rfl (A7 rfl) fun w0 S0 GL => Jy ?_
 refine Am (sm [] [(0, oD (.own 90000)), (1, iD p1), (2, iD p2), (3, oD (.clo (Bb (Cm true Ad true Ad) Bg p3)))] [(90000, .vec 3 (p0.map Ad))] rfl rfl) (Ab (Aa Ac rfl (qm rfl (qa rfl (Ae (Ab (Aa Ac rfl (qm rfl (Bk rfl (qa rfl (Ae ?_)))))))))))
 refine AE (L := Gs.reverseRange_L1 N) h (fun v1 => mk [(0, oD (.own 90000)), (8, iD v1.2.1), (9, iD v1.2.2)] [(90000, .vec 3 (v1.1.map Ad))]) (fun v2 => mk [] [(90000, .vec 3 (v2.map Ad))]) (fun _ _ => rfl) (sm [] _ _ rfl rfl) (fun j1 n1 v1 h => ?_) (fun v2 s h hs => ?_)
 ·unfold Gs.reverseRange_L1 at h
  refine Ab (Ab (Aa Ac rfl (qm rfl (qm rfl (AV rfl (Ae ?_))))))
  refine Ap rfl (fun c3 => ?_) (fun c3 => ?_)
  ·have h := An c3 h
   refine Aq (AJ (Ab (Aa Ac rfl (qm rfl (qm rfl (qm rfl (qm rfl (qm rfl (qm rfl ?_)))))))))
   obtain ⟨v4, a4, b4, h⟩ := Ai h
   refine qI A4 AU a4 (Af b4) rfl (qJ CP AU (Af b4) rfl (qm rfl (qm rfl ?_)))
   obtain ⟨v5, a5, b5, h⟩ := Ai h
   refine qI A4 AU a5 (Af b5) rfl (qJ CP AU (Af b5) rfl ?_)
   obtain ⟨v6, a6, b6, h⟩ := Ai h
   refine qI A4 AU a6 (Af b6) rfl ?_
   refine A0 rfl rfl rfl rfl (Af b6) rfl AU rfl (A7 rfl) (AY Ad v1.1 _ v4) ?_
   obtain ⟨v7, a7, b7, h⟩ := Ai h
   refine qI A4 AU a7 (Af b7) rfl ?_
   refine A0 rfl rfl rfl rfl (Af b7) rfl AU rfl (A7 rfl) (AY Ad (v1.1.set ((v1.2.1).toNat) v4) _ v5) ?_
   refine AB (by kernel_rfl) (Ab (Aa Ac rfl (qm rfl (AP rfl (qa rfl (Ae (Aa Ac rfl (qm rfl (Bk rfl (qa rfl (Ae ?_)))))))))))
   exact As _ h (sm [] _ _ rfl rfl)
  ·have h := Ao c3 h
   refine AT ?_
   exact As _ h (sm [] _ _ rfl rfl)
 ·obtain rfl := sj h
  refine ⟨_, hs.trans (sm [] [] [(90000, .vec 3 (v2.map Ad))] rfl rfl), ?_⟩
  exact ⟨⟨[], tv, rfl⟩, ⟨rfl, tv⟩, tv⟩
end Go.Lift
