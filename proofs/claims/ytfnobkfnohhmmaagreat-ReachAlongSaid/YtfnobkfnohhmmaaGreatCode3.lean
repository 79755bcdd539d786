/- Lemmas for ReachAlongSaid, which YtfnobkfnohhmmaaGreatFinZ3 proves. -/
import Derived.Test.YtfnobkfnohhmmaaGreatCode1
namespace Go.Lift
open IntKind renaming wrap → wI
set_option maxRecDepth 10000
open Go.RowKit
open Go.Proofs
theorem QN (N : Nat) (p0 : Ah) (r : (List Au)) (h : Jn N p0 = some r) : AB Tryz.prog 96 [.e (.agg [sC (p0.fVersions.map Ai), sC (p0.fNow.map Ai), sC (p0.fTarget.map Ai), sC (p0.fTables.map Ao)])] [(3, r.map AP)] (oD (.own 0)) := by
 unfold Jn at h
 refine Ar (n := 54) (rs := [.tmp 2]) Tryz.func96 rfl rfl rfl (A4 rfl) (A4 rfl) rfl fun w0 S0 => ?_
 refine Ab (Aa Ac rfl (qb rfl (qa rfl (Ad (Ab (Aa Ac rfl (qa rfl (Ad (Ab (Ab (Aa Ac rfl (qf By rfl (ql Bh rfl (AW AJ rfl (qm rfl (Ad ?_))))))))))))))))
 refine AM (L := GK N p0) h (fun v1 => mk [(1, oD (.ptr 1 0)), (3, oD (.own 2001)), (10, pD (.sl (p0.fVersions.map Ai))), (11, iD ((p0.fVersions.length : Int))), (12, iD v1.2)] [(1, .box [sC (p0.fVersions.map Ai), sC (p0.fNow.map Ai), sC (p0.fTarget.map Ai), sC (p0.fTables.map Ao)]), (2001, .vec 3 (v1.1.map AP))]) (fun v2 => mk [(1, oD (.ptr 1 0)), (3, oD (.own 2002))] [(1, .box [sC (p0.fVersions.map Ai), sC (p0.fNow.map Ai), sC (p0.fTarget.map Ai), sC (p0.fTables.map Ao)]), (2002, .vec 3 (v2.map AP))]) (fun _ _ => rfl) ((Bg 3 2005 3 rfl rfl rfl).trans (sm [(2001, 2005)] _ _ rfl rfl)) (fun j1 n1 v1 h => ?_) (fun v2 s h hs => ?_)
 ·unfold GK at h
  refine Ab (Aa Ac rfl (A0 rfl (Ad (Ab ?_))))
  refine An rfl (fun c3 => ?_) (fun c3 => ?_)
  ·have h := Am c3 h
   refine Ap (Ab (AR (Ab (Aa Ac rfl (qm rfl ?_)))))
   obtain ⟨v4, a4, b4, h⟩ := Aj h
   refine qi AJ Dh a4 (Ag b4) rfl (qk Cg rfl (qa rfl (qa rfl (Ad (Ab (Aa Ac rfl (qm rfl (qm rfl (Ad ?_)))))))))
   refine AM (L := GD N v1 v4) h (fun v5 => mk [(1, oD (.ptr 1 0)), (3, oD (.own 2003)), (4, iD v1.2), (10, pD (.sl (p0.fVersions.map Ai))), (11, iD ((p0.fVersions.length : Int))), (12, iD v1.2), (17, iD v4), (18, iD v5.2)] [(1, .box [sC (p0.fVersions.map Ai), sC (p0.fNow.map Ai), sC (p0.fTarget.map Ai), sC (p0.fTables.map Ao)]), (2003, .vec 3 (v5.1.map AP))]) (fun v6 => mk [(1, oD (.ptr 1 0)), (3, oD (.own 2004)), (10, pD (.sl (p0.fVersions.map Ai))), (11, iD ((p0.fVersions.length : Int))), (12, iD v1.2)] [(1, .box [sC (p0.fVersions.map Ai), sC (p0.fNow.map Ai), sC (p0.fTarget.map Ai), sC (p0.fTables.map Ao)]), (2004, .vec 3 (v6.map AP))]) (fun _ _ => rfl) (sm [(2003, 2001)] _ _ rfl rfl) (fun j5 n5 v5 h => ?_) (fun v6 s h hs => ?_)
   ·unfold GD at h
    refine Ab (Aa Ac rfl (A0 rfl (Ad (Ab ?_))))
    refine An rfl (fun c7 => ?_) (fun c7 => ?_)
    ·have h := Am c7 h
     refine Ap (Ab (AR (Ab (Aa Ac rfl (qm rfl (qa rfl (Ad (Aa Ac rfl (qm rfl (qm rfl (qm rfl (BK Ix TS rfl (DX Dp EH Ix rfl ?_)))))))))))))
     obtain ⟨c8, h⟩ := AL h
     refine De (f := AP) Dp Dp EH NX Ix c8 rfl (qa rfl (Ad (Aa Ac rfl (AX rfl (qm rfl (Ad ?_))))))
     exact Aw _ h (sm [(2003, 26)] _ _ rfl rfl)
    ·have h := Al c7 h
     refine AY ?_
     exact Aw _ h (sm [(2004, 2003)] _ _ rfl rfl)
   ·refine Ak hs (Aa Ac rfl (AX rfl (qm rfl (Ad ?_))))
    exact Aw _ h (sm [(2001, 2004)] _ _ rfl rfl)
  ·have h := Al c3 h
   refine AY ?_
   exact Aw _ h (sm [(2002, 2001)] _ _ rfl rfl)
 ·refine Ak hs (Ab (Ab (Aa Ac rfl (qf By rfl (ql Bh rfl (AW AJ rfl (qm rfl (Ad ?_))))))))
  refine AM (L := GM N p0) h (fun v9 => mk [(1, oD (.ptr 1 0)), (3, oD (.own 2006)), (31, iD ((p0.fVersions.length : Int))), (32, iD v9.2)] [(1, .box [sC (p0.fVersions.map Ai), sC (p0.fNow.map Ai), sC (p0.fTarget.map Ai), sC (p0.fTables.map Ao)]), (2006, .vec 3 (v9.1.map AP))]) (fun v10 => mk [(1, oD (.ptr 1 0)), (3, oD (.own 2007))] [(1, .box [sC (p0.fVersions.map Ai), sC (p0.fNow.map Ai), sC (p0.fTarget.map Ai), sC (p0.fTables.map Ao)]), (2007, .vec 3 (v10.map AP))]) (fun _ _ => rfl) (sm [(2006, 2002)] _ _ rfl rfl) (fun j9 n9 v9 h => ?_) (fun v10 s h hs => ?_)
  ·unfold GM at h
   refine Ab (Aa Ac rfl (A0 rfl (Ad (Ab ?_))))
   refine An rfl (fun c11 => ?_) (fun c11 => ?_)
   ·have h := Am c11 h
    refine Ap (Ab (AR (Ab (Aa Ac rfl (qm rfl (qa rfl (Ad (Aa Ac rfl (qm rfl (qm rfl (BK Ix TS rfl (DX Dp EH Ix rfl ?_))))))))))))
    obtain ⟨c12, h⟩ := AL h
    refine De (f := AP) Dp Dp EH NX Ix c12 rfl (qa rfl (Ad (Aa Ac rfl (AX rfl (qm rfl (Ad ?_))))))
    exact Aw _ h (sm [(2006, 39)] _ _ rfl rfl)
   ·have h := Al c11 h
    refine AY ?_
    exact Aw _ h (sm [(2007, 2006)] _ _ rfl rfl)
  ·refine Ak hs (Ab (Ab (Aa Ac rfl (qf CH rfl (ql G5 rfl (AW D2 rfl (qm rfl (Ad ?_))))))))
   refine AM (L := Gf N p0) h (fun v13 => mk [(3, oD (.own 2008)), (43, iD ((p0.fTables.length : Int))), (44, iD v13.2)] [(2008, .vec 3 (v13.1.map AP))]) (fun v14 => mk [(3, oD (.own 2009))] [(2009, .vec 3 (v14.map AP))]) (fun _ _ => rfl) (sm [(2008, 2007)] _ _ rfl rfl) (fun j13 n13 v13 h => ?_) (fun v14 s h hs => ?_)
   ·unfold Gf at h
    refine Ab (Aa Ac rfl (A0 rfl (Ad (Ab ?_))))
    refine An rfl (fun c15 => ?_) (fun c15 => ?_)
    ·have h := Am c15 h
     refine Ap (Ab (AR (Ab (Aa Ac rfl (qm rfl (qa rfl (Ad (Aa Ac rfl (qm rfl (qm rfl (BK Ix TS rfl (DX Dp EH Ix rfl ?_))))))))))))
     obtain ⟨c16, h⟩ := AL h
     refine De (f := AP) Dp Dp EH NX Ix c16 rfl (qa rfl (Ad (Aa Ac rfl (AX rfl (qm rfl (Ad ?_))))))
     exact Aw _ h (sm [(2008, 51)] _ _ rfl rfl)
    ·have h := Al c15 h
     refine AY ?_
     exact Aw _ h (sm [(2009, 2008)] _ _ rfl rfl)
   ·refine Ak hs (Ab (Aa Ac rfl (qm rfl (qa rfl (Ad ?_)))))
    obtain rfl := sj h
    refine Ak (sm [(1000, 2009)] [(2, oD (.own 1000))] [(1000, .vec 3 (v14.map AP))] rfl rfl) (Az ?_)
    exact ⟨⟨[_], ⟨.tmp _ _ rfl, tv⟩, rfl⟩, ⟨rfl, tv⟩⟩
theorem JY (N : Nat) (p0 : Ae) (r : Ae) (h : Fb N p0 = some r) : AB Tryz.prog 78 [.e (.agg [sC (p0.fBase.map Ai), sC (p0.fNext.map Ai), sC (p0.fHeld.map Bj)])] [(1, r.fBase.map Ai), (1, r.fNext.map Ai), (1, r.fHeld.map Bj)] (.e (.agg [.own 0, .own 1, .own 2])) := by
 unfold Fb at h
 refine Ar (n := 13) (rs := [.cell 2 50]) Tryz.func78 rfl rfl rfl (A4 rfl) (A4 rfl) rfl fun w0 S0 => ?_
 refine Ab (Aa Ac rfl (qb rfl (qz Cm rfl (Ad (Ab (Aa Ac rfl (qf CE rfl (ql Bh rfl ?_))))))))
 obtain ⟨v1, a1, h⟩ := bind_some h
 refine AH [2001] (DF N p0.fBase v1 a1) SV rfl (qf BB rfl (ql Bh rfl ?_))
 obtain ⟨v2, a2, h⟩ := bind_some h
 refine AH [2002] (DF N p0.fNext v2 a2) SV rfl (qf Cn rfl (ql Gr rfl ?_))
 obtain ⟨v3, a3, h⟩ := bind_some h
 refine AH [2003] (E5 N p0.fHeld v3 a3) WU rfl (BK Cm Hu rfl (qs Ay rfl (AQ (by kernel_rfl) ?_)))
 obtain rfl := sj h
 refine Ak (sm [(1000, 2001), (1001, 2002), (1002, 2003)] [(2, oD (.ptr 2 0))] [(2, .box [.own 1000, .own 1001, .own 1002]), (1000, .vec 1 (v1.map Ai)), (1001, .vec 1 (v2.map Ai)), (1002, .vec 1 (v3.map Bj))] rfl rfl) (Az ?_)
 exact ⟨⟨[_], ⟨.cellN _ _ _ _ _ _ _ rfl rfl A1 Ay rfl rfl (IQ rfl), tv⟩, rfl⟩, ⟨rfl, rfl, rfl, tv⟩⟩
theorem JZ (N : Nat) (p0 : AI) (r : Bool) (h : Fc N p0 = some r) : AB Tryz.prog 120 [.e (.agg [iC p0.fKind, iC p0.fFrom, iC p0.fTo, .pure (.val (.bool p0.fAware)), sC (p0.fOK.map (Eu eB)), sC (p0.fRewrite.map (Eu eB))])] [] (bD r) := by
 unfold Fc at h
 refine Ar (n := 11) (rs := [.tmp 2]) Tryz.func120 rfl rfl rfl (A4 rfl) (A4 rfl) rfl fun w0 S0 => ?_
 refine Ab (Aa Ac rfl (qb rfl (qa rfl (Ad ?_))))
 refine AT h (fun v1 => mk [(2, bD v1)] []) (fun j1 h => ?_) (fun v1 h => ?_)
 ·refine Aa Ac rfl (qf Fx rfl (ql Cg rfl (BE rfl (qm rfl ?_))))
  refine AF (t := 6) rfl (fun c2 => ?_) (fun c2 => ?_)
  ·have h := Am c2 h
   refine qn rfl (qn rfl (qn rfl (qp rfl (qa rfl (Ad ?_)))))
   exact Aw _ h (sm [] _ _ rfl rfl)
  ·have h := Al c2 h
   refine qf Fx rfl (ql Cg rfl (BE rfl (qp rfl (qa rfl (Ad ?_)))))
   exact Aw _ h (sm [] _ _ rfl rfl)
 ·obtain rfl := sj h
  refine Ak (sm [] [(2, bD v1)] [] rfl rfl) (Az ?_)
  exact ⟨⟨[_], ⟨.tmp _ _ rfl, tv⟩, rfl⟩, tv⟩
theorem Pk (N : Nat) (p0 : Ah) (p1 : Ae) (p2 : Au) (r : Bool × (List Int) × (List Int)) (h : Hk N p0 p1 p2 = some r) : BG Tryz.prog 113 [.e (.agg [sC (p0.fVersions.map Ai), sC (p0.fNow.map Ai), sC (p0.fTarget.map Ai), sC (p0.fTables.map Ao)]), oD (.ptr 90000 0), .e (.agg [iC p2.fKind, iC p2.fIndex, iC p2.fVersion])] [(.box [.own 90001, .own 90002, .own 90003], .box [.own 90001, .own 90002, .own 90003]), (.vec 1 (p1.fBase.map Ai), .vec 1 (p1.fBase.map Ai)), (.vec 1 (p1.fNext.map Ai), .vec 1 (r.2.1.map Ai)), (.vec 1 (p1.fHeld.map Bj), .vec 1 (r.2.2.map Bj))] [] (bD r.1) := by
 unfold Hk at h
 refine Bw (n := 70) (rs := [.tmp 6]) Tryz.func113 rfl rfl rfl (A4 rfl) (A4 rfl) rfl rfl (A4 rfl) rfl (A4 rfl) fun w0 S0 GL => ?_
 refine Ak (sm [] [(0, .e (.agg [sC (p0.fVersions.map Ai), sC (p0.fNow.map Ai), sC (p0.fTarget.map Ai), sC (p0.fTables.map Ao)])), (1, oD (.ptr 90000 0)), (2, .e (.agg [iC p2.fKind, iC p2.fIndex, iC p2.fVersion]))] [(90000, .box [.own 90001, .own 90002, .own 90003]), (90001, .vec 1 (p1.fBase.map Ai)), (90002, .vec 1 (p1.fNext.map Ai)), (90003, .vec 1 (p1.fHeld.map Bj))] rfl rfl) (Ab (Aa Ac rfl (qb rfl (qb rfl (qa rfl (Ad (Ab ?_)))))))
 refine AT h (fun v1 => mk [(1, oD (.ptr 90000 0)), (3, oD (.ptr 3 0)), (5, oD (.ptr 5 0)), (30, bD v1)] [(3, .box [sC (p0.fVersions.map Ai), sC (p0.fNow.map Ai), sC (p0.fTarget.map Ai), sC (p0.fTables.map Ao)]), (5, .box [iC p2.fKind, iC p2.fIndex, iC p2.fVersion]), (90000, .box [.own 90001, .own 90002, .own 90003]), (90001, .vec 1 (p1.fBase.map Ai)), (90002, .vec 1 (p1.fNext.map Ai)), (90003, .vec 1 (p1.fHeld.map Bj))]) (fun j1 h => ?_) (fun v1 h => ?_)
 ·refine Aa Ac rfl (qm rfl (NN rfl (qf BB rfl (ql Bh rfl (qf ED rfl (ql Cg rfl ?_))))))
  obtain ⟨v2, a2, b2, h⟩ := Aj h
  refine qI AJ Dh a2 (Ag b2) rfl (qj Cg (Ag b2) rfl (Df rfl (qm rfl ?_)))
  refine AF (t := 18) rfl (fun c3 => ?_) (fun c3 => ?_)
  ·have h := Am c3 h
   refine qn rfl (qn rfl (qn rfl (qn rfl (qn rfl (qn rfl (qn rfl (qn rfl (qn rfl (qn rfl (qn rfl (qp rfl (AQ (by kernel_rfl) ?_))))))))))))
   exact Aw _ h (sm [] _ _ rfl rfl)
  ·have h := Al c3 h
   refine qm rfl (NN rfl (qf CE rfl (ql Bh rfl (qf ED rfl (ql Cg rfl ?_)))))
   obtain ⟨v4, a4, b4, h⟩ := Aj h
   refine qI AJ Dh a4 (Ag b4) rfl (qj Cg (Ag b4) rfl (qf Gb rfl (ql Cg rfl (BE rfl (qp rfl (AQ (by kernel_rfl) ?_))))))
   exact Aw _ h (sm [] _ _ rfl rfl)
 ·refine An rfl (fun c5 => ?_) (fun c5 => ?_)
  ·have h := Am c5 h
   refine Ab (Aa Ac rfl (qa rfl (Ad ?_)))
   obtain rfl := sj h
   refine Ak (sm [] [(6, bD false)] [(90000, .box [.own 90001, .own 90002, .own 90003]), (90001, .vec 1 (p1.fBase.map Ai)), (90002, .vec 1 (p1.fNext.map Ai)), (90003, .vec 1 (p1.fHeld.map Bj))] rfl rfl) (Az ?_)
   exact ⟨⟨[_], ⟨.tmp _ _ rfl, tv⟩, rfl⟩, ⟨rfl, rfl, rfl, rfl, tv⟩, tv⟩
  ·have h := Al c5 h
   refine Ap (Ab (Aa Ac rfl (qm rfl (NN rfl (qf BB rfl (ql Bh rfl (qf ED rfl (ql Cg rfl (qf Gb rfl (ql Cg rfl ?_))))))))))
   obtain ⟨v6, a6, b6, h⟩ := Aj h
   refine qI AJ Dh a6 (Ag b6) rfl ?_
   refine Ba rfl rfl rfl rfl (Ag b6) rfl Dh rfl (A4 rfl) (A9 Ai p1.fNext _ p2.fVersion) ?_
   refine AQ (by kernel_rfl) (Ab (Ab (Aa Ac rfl (qf CH rfl (ql G5 rfl (AW D2 rfl (qm rfl (Ad ?_))))))))
   refine AM (L := Dk N p0 p2) h (fun v7 => mk [(1, oD (.ptr 90000 0)), (5, oD (.ptr 5 0)), (41, pD (.sl (p0.fTables.map Ao))), (42, iD ((p0.fTables.length : Int))), (43, iD v7.2)] [(5, .box [iC p2.fKind, iC p2.fIndex, iC p2.fVersion]), (90000, .box [.own 90001, .own 90002, .own 90003]), (90001, .vec 1 (p1.fBase.map Ai)), (90002, .vec 1 ((p1.fNext.set ((p2.fIndex).toNat) p2.fVersion).map Ai)), (90003, .vec 1 (v7.1.map Bj))]) (fun v8 => mk [] [(90000, .box [.own 90001, .own 90002, .own 90003]), (90001, .vec 1 (p1.fBase.map Ai)), (90002, .vec 1 ((p1.fNext.set ((p2.fIndex).toNat) p2.fVersion).map Ai)), (90003, .vec 1 (v8.map Bj))]) (fun _ _ => rfl) (sm [] _ _ rfl rfl) (fun j7 n7 v7 h => ?_) (fun v8 s h hs => ?_)
   ·unfold Dk at h
    refine Ab (Aa Ac rfl (A0 rfl (Ad (Ab ?_))))
    refine An rfl (fun c9 => ?_) (fun c9 => ?_)
    ·have h := Am c9 h
     refine Ap ?_
     refine AT h (fun v10 => mk [(1, oD (.ptr 90000 0)), (5, oD (.ptr 5 0)), (41, pD (.sl (p0.fTables.map Ao))), (42, iD ((p0.fTables.length : Int))), (43, iD v7.2)] [(5, .box [iC p2.fKind, iC p2.fIndex, iC p2.fVersion]), (90000, .box [.own 90001, .own 90002, .own 90003]), (90001, .vec 1 (p1.fBase.map Ai)), (90002, .vec 1 ((p1.fNext.set ((p2.fIndex).toNat) p2.fVersion).map Ai)), (90003, .vec 1 (v10.map Bj))]) (fun j10 h => ?_) (fun v10 h => ?_)
     ·refine AR (Ab (Aa Ac rfl (qm rfl ?_)))
      obtain ⟨v11, a11, b11, h⟩ := Aj h
      refine qi D2 DT a11 (Ag b11) rfl (qK G1 DT rfl (qz JV rfl (qa rfl (qs DT rfl (Ad ?_)))))
      refine AT h (fun v12 => mk [(1, oD (.ptr 90000 0)), (5, oD (.ptr 5 0)), (7, iD v7.2), (41, pD (.sl (p0.fTables.map Ao))), (42, iD ((p0.fTables.length : Int))), (43, iD v7.2), (56, bD v12)] [(5, .box [iC p2.fKind, iC p2.fIndex, iC p2.fVersion]), (90000, .box [.own 90001, .own 90002, .own 90003]), (90001, .vec 1 (p1.fBase.map Ai)), (90002, .vec 1 ((p1.fNext.set ((p2.fIndex).toNat) p2.fVersion).map Ai)), (90003, .vec 1 (v7.1.map Bj))]) (fun j12 h => ?_) (fun v12 h => ?_)
      ·refine Aa Ac rfl (qf C0 rfl (ql Cg rfl (qf ED rfl (ql Cg rfl (BE rfl (qm rfl ?_))))))
       refine AF (t := 53) rfl (fun c13 => ?_) (fun c13 => ?_)
       ·have h := Am c13 h
        refine qL G1 DT rfl ?_
        obtain ⟨v14, a14, h⟩ := bind_some h
        refine AH [] (JZ N v11 v14 a14) UW rfl (qp rfl (Ad ?_))
        exact Aw _ h (sm [] _ _ rfl rfl)
       ·have h := Al c13 h
        refine qn rfl (qn rfl (qp rfl (Ad ?_)))
        exact Aw _ h (sm [] _ _ rfl rfl)
      ·refine An rfl (fun c15 => ?_) (fun c15 => ?_)
       ·have h := Am c15 h
        refine Aa Ac rfl (qm rfl (NN rfl (qf Cn rfl (ql Gr rfl (qm rfl ?_)))))
        obtain ⟨v16, a16, b16, h⟩ := Aj h
        refine qI CQ Fo a16 (Ag b16) rfl (qj IY (Ag b16) rfl (qf Gb rfl (ql Cg rfl ?_)))
        obtain ⟨c17, h⟩ := AL h
        refine Hs rfl c17 (SZ rfl ?_)
        obtain ⟨v18, a18, b18, h⟩ := Aj h
        refine qI CQ Fo a18 (Ag b18) rfl ?_
        refine Ba rfl rfl rfl rfl (Ag b18) rfl Fo rfl (A4 rfl) (A9 Bj v7.1 _ ((NC .u8 v16 ((Cc .u8 1 p2.fVersion))))) ?_
        refine AQ (by kernel_rfl) ?_
        exact Aw _ h (sm [] _ _ rfl rfl)
       ·have h := Al c15 h
        refine Ap ?_
        exact Aw _ h (sm [] _ _ rfl rfl)
     ·refine Aa Ac rfl (AX rfl (qm rfl (Ad ?_)))
      exact Aw _ h (sm [] _ _ rfl rfl)
    ·have h := Al c9 h
     refine AY ?_
     exact Aw _ h (sm [] _ _ rfl rfl)
   ·refine Ak hs (Ab (Aa Ac rfl (qa rfl (Ad ?_))))
    obtain rfl := sj h
    refine Ak (sm [] [(6, bD true)] [(90000, .box [.own 90001, .own 90002, .own 90003]), (90001, .vec 1 (p1.fBase.map Ai)), (90002, .vec 1 ((p1.fNext.set ((p2.fIndex).toNat) p2.fVersion).map Ai)), (90003, .vec 1 (v8.map Bj))] rfl rfl) (Az ?_)
    exact ⟨⟨[_], ⟨.tmp _ _ rfl, tv⟩, rfl⟩, ⟨rfl, rfl, rfl, rfl, tv⟩, tv⟩
theorem Mv (N : Nat) (p0 : Ae) (p1 : Int) (r : Int) (h : Fn N p0 p1 = some r) : AB Tryz.prog 121 [.e (.agg [sC (p0.fBase.map Ai), sC (p0.fNext.map Ai), sC (p0.fHeld.map Bj)]), iD p1] [] (pD (.val (.int .u8 r))) := by
 unfold Fn at h
 refine Ar (n := 27) (rs := [.tmp 4]) Tryz.func121 rfl rfl rfl (A4 rfl) (A4 rfl) rfl fun w0 S0 => ?_
 refine Ab (Aa Ac rfl (qb rfl (qa rfl (Ad (Ab (Aa Ac rfl (qf CE rfl (ql Bh rfl (qm rfl ?_)))))))))
 obtain ⟨v1, a1, b1, h⟩ := Aj h
 refine qi AJ Dh a1 (Ag b1) rfl (qk Cg rfl ?_)
 obtain ⟨c2, h⟩ := AL h
 refine Hs rfl c2 (qa rfl (Ad ?_))
 refine AT h (fun v3 => mk [(5, pD (.val (.int .u8 v3)))] []) (fun j3 h => ?_) (fun v3 h => ?_)
 ·refine Ab (Aa Ac rfl (qf BB rfl (ql Bh rfl (qm rfl ?_))))
  obtain ⟨v4, a4, b4, h⟩ := Aj h
  refine qi AJ Dh a4 (Ag b4) rfl (qk Cg rfl (Df rfl (Ad ?_)))
  refine An rfl (fun c5 => ?_) (fun c5 => ?_)
  ·have h := Am c5 h
   refine Aa Ac rfl (qm rfl (qf BB rfl (ql Bh rfl (qm rfl ?_))))
   obtain ⟨v6, a6, b6, h⟩ := Aj h
   refine qi AJ Dh a6 (Ag b6) rfl (qk Cg rfl ?_)
   obtain ⟨c7, h⟩ := AL h
   refine Hs rfl c7 (SZ rfl (qa rfl (Ad ?_)))
   exact Aw _ h (sm [] _ _ rfl rfl)
  ·have h := Al c5 h
   refine Ap ?_
   exact Aw _ h (sm [] _ _ rfl rfl)
 ·refine Ab (Aa Ac rfl (qm rfl (qa rfl (Ad ?_))))
  obtain rfl := sj h
  refine Ak (sm [] [(4, pD (.val (.int .u8 v3)))] [] rfl rfl) (Az ?_)
  exact ⟨⟨[_], ⟨.tmp _ _ rfl, tv⟩, rfl⟩, tv⟩
theorem H7 (N : Nat) (p0 : Int) (r : Int) (h : CF N p0 = some r) : AB Tryz.prog 125 [pD (.val (.int .u8 p0))] [] (iD r) := by
 unfold CF at h
 refine Ar (n := 6) (rs := [.tmp 2]) Tryz.func125 rfl rfl rfl (A4 rfl) (A4 rfl) rfl fun w0 S0 => ?_
 refine Ab (Aa Ac rfl (qa rfl (Ad (Ab (Aa Ac rfl (qm rfl ?_))))))
 obtain ⟨v1, a1, h⟩ := bind_some h
 refine LA (.p rfl) rfl rfl TZ a1 ?_
 refine Gz UR R7 rfl (qa rfl (Ad ?_))
 obtain rfl := sj h
 refine Ak (sm [] [(2, iD ((wI .i64 v1)))] [] rfl rfl) (Az ?_)
 exact ⟨⟨[_], ⟨.tmp _ _ rfl, tv⟩, rfl⟩, tv⟩
theorem KO (N : Nat) (p0 : AI) (p1 : Int) (p2 : Int) (r : Bool) (h : Fl N p0 p1 p2 = some r) : AB Tryz.prog 122 [.e (.agg [iC p0.fKind, iC p0.fFrom, iC p0.fTo, .pure (.val (.bool p0.fAware)), sC (p0.fOK.map (Eu eB)), sC (p0.fRewrite.map (Eu eB))]), pD (.val (.int .u8 p1)), iD p2] [] (bD r) := by
 unfold Fl at h
 refine Ar (n := 25) (rs := [.tmp 6]) Tryz.func122 rfl rfl rfl (A4 rfl) (A4 rfl) rfl fun w0 S0 => ?_
 refine Ab (Aa Ac rfl (qb rfl (qa rfl (Ad (Ab (Ab (Aa Ac rfl (qm rfl (qa rfl (Ad ?_))))))))))
 refine AM (L := C9 N p0 p2) h (fun v1 => mk [(2, iD p2), (3, oD (.ptr 3 0)), (7, pD (.val (.int .u8 v1)))] [(3, .box [iC p0.fKind, iC p0.fFrom, iC p0.fTo, .pure (.val (.bool p0.fAware)), sC (p0.fOK.map (Eu eB)), sC (p0.fRewrite.map (Eu eB))])]) (fun v2 => mk [] []) (fun _ _ => rfl) (sm [] _ _ rfl rfl) (fun j1 n1 v1 h => ?_) (fun v2 s h hs => ?_)
 ·unfold C9 at h
  refine Ab (Ab (Aa Ac rfl (qm rfl (B2 rfl (Ad ?_)))))
  refine An rfl (fun c3 => ?_) (fun c3 => ?_)
  ·have h := Am c3 h
   refine Ap (Ab (AR (Ab (Aa Ac rfl (qf F7 rfl (ql Js rfl (qm rfl ?_)))))))
   obtain ⟨v4, a4, h⟩ := bind_some h
   refine AH [] (H7 N v1 v4 a4) Xm rfl ?_
   obtain ⟨v5, a5, b5, h⟩ := Aj h
   refine qi FP Jg a5 (Ag b5) rfl (qk KK rfl (qm rfl ?_))
   obtain ⟨v6, a6, b6, h⟩ := Aj h
   refine qi EU Qi a6 (Ag b6) rfl (qk Rr rfl (Cd rfl (AQ (by kernel_rfl) ?_)))
   refine An rfl (fun c7 => ?_) (fun c7 => ?_)
   ·have h := Am c7 h
    refine Ab (Aa Ac rfl (qa rfl (Ad ?_)))
    obtain rfl := sj h
    refine Ak (sm [] [(6, bD false)] [] rfl rfl) (Az ?_)
    exact ⟨⟨[_], ⟨.tmp _ _ rfl, tv⟩, rfl⟩, tv⟩
   ·have h := Al c7 h
    refine Ap (Aa Ac rfl (qm rfl (qm rfl (Cz rfl (Ky rfl (qa rfl (Ad ?_)))))))
    exact Aw _ h (sm [] _ _ rfl rfl)
  ·have h := Al c3 h
   refine AY ?_
   exact Aw _ h (sm [] _ _ rfl rfl)
 ·refine Ak hs (Ab (Aa Ac rfl (qa rfl (Ad ?_))))
  obtain rfl := sj h
  refine Ak (sm [] [(6, bD true)] [] rfl rfl) (Az ?_)
  exact ⟨⟨[_], ⟨.tmp _ _ rfl, tv⟩, rfl⟩, tv⟩
theorem OG (N : Nat) (p0 : Ah) (p1 : Ae) (p2 : Int) (r : Bool × (List Int)) (h : FW N p0 p1 p2 = some r) : BG Tryz.prog 114 [.e (.agg [sC (p0.fVersions.map Ai), sC (p0.fNow.map Ai), sC (p0.fTarget.map Ai), sC (p0.fTables.map Ao)]), oD (.ptr 90000 0), iD p2] [(.box [.own 90001, .own 90002, .own 90003], .box [.own 90001, .own 90002, .own 90003]), (.vec 1 (p1.fBase.map Ai), .vec 1 (p1.fBase.map Ai)), (.vec 1 (p1.fNext.map Ai), .vec 1 (p1.fNext.map Ai)), (.vec 1 (p1.fHeld.map Bj), .vec 1 (r.2.map Bj))] [] (bD r.1) := by
 unfold FW at h
 refine Bw (n := 68) (rs := [.tmp 6]) Tryz.func114 rfl rfl rfl (A4 rfl) (A4 rfl) rfl rfl (A4 rfl) rfl (A4 rfl) fun w0 S0 GL => ?_
 refine Ak (sm [] [(0, .e (.agg [sC (p0.fVersions.map Ai), sC (p0.fNow.map Ai), sC (p0.fTarget.map Ai), sC (p0.fTables.map Ao)])), (1, oD (.ptr 90000 0)), (2, iD p2)] [(90000, .box [.own 90001, .own 90002, .own 90003]), (90001, .vec 1 (p1.fBase.map Ai)), (90002, .vec 1 (p1.fNext.map Ai)), (90003, .vec 1 (p1.fHeld.map Bj))] rfl rfl) (Ab (Aa Ac rfl (qb rfl (qa rfl (Ad (Ab (Aa Ac rfl (qf CH rfl (ql G5 rfl (qm rfl ?_))))))))))
 obtain ⟨v1, a1, b1, h⟩ := Aj h
 refine qi D2 DT a1 (Ag b1) rfl (qK G1 DT rfl (qz JV rfl (qs DT rfl (Ad (Ab (Ab (Aa Ac rfl (qL G1 DT rfl ?_))))))))
 obtain ⟨v2, a2, h⟩ := bind_some h
 refine AH [] (JZ N v1 v2 a2) UW rfl (Cd rfl (Ad ?_))
 refine An rfl (fun c3 => ?_) (fun c3 => ?_)
 ·have h := Am c3 h
  refine Ab (Aa Ac rfl (qa rfl (Ad ?_)))
  obtain rfl := sj h
  refine Ak (sm [] [(6, bD false)] [(90000, .box [.own 90001, .own 90002, .own 90003]), (90001, .vec 1 (p1.fBase.map Ai)), (90002, .vec 1 (p1.fNext.map Ai)), (90003, .vec 1 (p1.fHeld.map Bj))] rfl rfl) (Az ?_)
  exact ⟨⟨[_], ⟨.tmp _ _ rfl, tv⟩, rfl⟩, ⟨rfl, rfl, rfl, rfl, tv⟩, tv⟩
 ·have h := Al c3 h
  refine Ap (Ab (Aa Ac rfl (qm rfl (NN rfl (qL A1 Ay rfl (qf C0 rfl (ql Cg rfl ?_)))))))
  obtain ⟨v4, a4, h⟩ := bind_some h
  refine F9 [] [90001, 90002, 90003] (Mv N p1 v1.fFrom v4 a4) Wu EJ rfl (qa rfl (AQ (by kernel_rfl) (Ab (Aa Ac rfl (qm rfl (NN rfl (qf Cn rfl (ql Gr rfl (qm rfl ?_)))))))))
  obtain ⟨v5, a5, b5, h⟩ := Aj h
  refine qI CQ Fo a5 (Ag b5) rfl (qj IY (Ag b5) rfl (qm rfl (H5 rfl (qa rfl (Ad (Ab ?_))))))
  refine AT h (fun v6 => mk [(1, oD (.ptr 90000 0)), (2, iD p2), (8, pD (.val (.int .u8 v4))), (60, bD v6)] [(90000, .box [.own 90001, .own 90002, .own 90003]), (90001, .vec 1 (p1.fBase.map Ai)), (90002, .vec 1 (p1.fNext.map Ai)), (90003, .vec 1 (p1.fHeld.map Bj))]) (fun j6 h => ?_) (fun v6 h => ?_)
  ·refine Aa Ac rfl (qm rfl (NN rfl (qf Cn rfl (ql Gr rfl (qm rfl ?_)))))
   obtain ⟨v7, a7, b7, h⟩ := Aj h
   refine qI CQ Fo a7 (Ag b7) rfl (qj IY (Ag b7) rfl (qm rfl (BE rfl (qm rfl ?_))))
   refine AF (t := 42) rfl (fun c8 => ?_) (fun c8 => ?_)
   ·have h := Am c8 h
    refine qn rfl (qn rfl (qn rfl (qn rfl (qu rfl (qu rfl (qu rfl (qu rfl (qu rfl (qu rfl (qu rfl (qu rfl (qu rfl (qu rfl (qu rfl (qu rfl (qn rfl (qp rfl (AQ (by kernel_rfl) ?_))))))))))))))))))
    exact Aw _ h (sm [] _ _ rfl rfl)
   ·have h := Al c8 h
    refine qf Fx rfl (ql Cg rfl (BE rfl (qm rfl ?_)))
    refine AF (t := 46) rfl (fun c9 => ?_) (fun c9 => ?_)
    ·have h := Am c9 h
     refine qL G1 DT rfl (qm rfl (qm rfl (NN rfl (qf CE rfl (ql Bh rfl (qf C0 rfl (ql Cg rfl ?_)))))))
     obtain ⟨v10, a10, b10, h⟩ := Aj h
     refine qI AJ Dh a10 (Ag b10) rfl (qj Cg (Ag b10) rfl ?_)
     obtain ⟨v11, a11, h⟩ := bind_some h
     refine AH [] (KO N v1 ((CX .u8 v5 v4)) v10 v11 a11) Xo rfl (Cd rfl (qp rfl (qp rfl (AQ (by kernel_rfl) ?_))))
     exact Aw _ h (sm [] _ _ rfl rfl)
    ·have h := Al c9 h
     refine qn rfl (qn rfl (qn rfl (qn rfl (qn rfl (qn rfl (qn rfl (qn rfl (qn rfl (qn rfl (qn rfl (qn rfl (qp rfl (qp rfl (AQ (by kernel_rfl) ?_))))))))))))))
     exact Aw _ h (sm [] _ _ rfl rfl)
  ·refine An rfl (fun c12 => ?_) (fun c12 => ?_)
   ·have h := Am c12 h
    refine Ab (Aa Ac rfl (qa rfl (Ad ?_)))
    obtain rfl := sj h
    refine Ak (sm [] [(6, bD false)] [(90000, .box [.own 90001, .own 90002, .own 90003]), (90001, .vec 1 (p1.fBase.map Ai)), (90002, .vec 1 (p1.fNext.map Ai)), (90003, .vec 1 (p1.fHeld.map Bj))] rfl rfl) (Az ?_)
    exact ⟨⟨[_], ⟨.tmp _ _ rfl, tv⟩, rfl⟩, ⟨rfl, rfl, rfl, rfl, tv⟩, tv⟩
   ·have h := Al c12 h
    refine Ap (Ab (Aa Ac rfl (qm rfl (NN rfl (qf Cn rfl (ql Gr rfl (qm rfl (qm rfl ?_))))))))
    obtain ⟨v13, a13, b13, h⟩ := Aj h
    refine qI CQ Fo a13 (Ag b13) rfl ?_
    refine Ba rfl rfl rfl rfl (Ag b13) rfl Fo rfl (A4 rfl) (A9 Bj p1.fHeld _ v4) ?_
    refine Ad (Ab (Aa Ac rfl (qa rfl (Ad ?_))))
    obtain rfl := sj h
    refine Ak (sm [] [(6, bD true)] [(90000, .box [.own 90001, .own 90002, .own 90003]), (90001, .vec 1 (p1.fBase.map Ai)), (90002, .vec 1 (p1.fNext.map Ai)), (90003, .vec 1 ((p1.fHeld.set ((p2).toNat) v4).map Bj))] rfl rfl) (Az ?_)
    exact ⟨⟨[_], ⟨.tmp _ _ rfl, tv⟩, rfl⟩, ⟨rfl, rfl, rfl, rfl, tv⟩, tv⟩
theorem KG (N : Nat) (p0 : Ah) (p1 : Ae) (p2 : Au) (r : Ae × Bool) (h : Fs N p0 p1 p2 = some r) : AB Tryz.prog 98 [.e (.agg [sC (p0.fVersions.map Ai), sC (p0.fNow.map Ai), sC (p0.fTarget.map Ai), sC (p0.fTables.map Ao)]), .e (.agg [sC (p1.fBase.map Ai), sC (p1.fNext.map Ai), sC (p1.fHeld.map Bj)]), .e (.agg [iC p2.fKind, iC p2.fIndex, iC p2.fVersion])] [(1, r.1.fBase.map Ai), (1, r.1.fNext.map Ai), (1, r.1.fHeld.map Bj)] (.tup [.agg [.own 0, .own 1, .own 2], .one (.pure (.val (.bool r.2)))]) := by
 unfold Fs at h
 refine Ar (n := 51) (rs := [.cell 6 50, .tmp 7]) Tryz.func98 rfl rfl rfl (A4 rfl) (A4 rfl) rfl fun w0 S0 => ?_
 refine Ab (Aa Ac rfl (qb rfl (qb rfl (qb rfl (qz Cm rfl (qa rfl (Ad (Ab (Aa Ac rfl (qL A1 Ay rfl ?_))))))))))
 obtain ⟨v1, a1, h⟩ := bind_some h
 refine AH [2001, 2002, 2003] (JY N p1 v1 a1) Xg rfl (qz Cm rfl (qs Ay rfl (Ad (Ab (Ab (Aa Ac rfl (qf Fj rfl (ql Cg rfl (Ad (AR (Ab (Aa Ac rfl (BE rfl (qa rfl (Ad ?_)))))))))))))))
 refine An rfl (fun c2 => ?_) (fun c2 => ?_)
 ·have h := Am c2 h
  refine Ab (Aa Ac rfl (qL A1 Ay rfl (qL Ec DQ rfl (qL IV EH rfl ?_))))
  obtain ⟨v3, a3, h⟩ := bind_some h
  refine CZ (ds0 := [_, _, _]) [8, 2001, 2002, 2003] [] [false, false, true, true] (Pk N p0 v1 p2 v3 a3) (.p rfl) Wa rfl ⟨rfl, rfl, rfl, tv⟩ rfl rfl (by decide) ⟨rfl, rfl, rfl, rfl, tv⟩ rfl (Bm rfl) tv ⟨(fun _ => rfl), (fun _ => rfl), (fun h => by cases h), (fun h => by cases h), tv⟩ rfl rfl rfl ?_
  refine qs Ay rfl (qa rfl (AQ (by kernel_rfl) ?_))
  obtain rfl := sj h
  refine Ak (sm [(1000, 2001), (1001, 2002), (1002, 2003)] [(6, oD (.ptr 6 0)), (7, bD v3.1)] [(6, .box [.own 1000, .own 1001, .own 1002]), (1000, .vec 1 (v1.fBase.map Ai)), (1001, .vec 1 (v3.2.1.map Ai)), (1002, .vec 1 (v3.2.2.map Bj))] rfl rfl) (Az ?_)
  exact ⟨⟨[_, _], ⟨.cellN _ _ _ _ _ _ _ rfl rfl A1 Ay rfl rfl (IQ rfl), ⟨.tmp _ _ rfl, tv⟩⟩, rfl⟩, ⟨rfl, rfl, rfl, tv⟩⟩
 ·have h := Al c2 h
  refine Ab (Aa Ac rfl (BE rfl (qa rfl (Ad ?_))))
  refine An rfl (fun c4 => ?_) (fun c4 => ?_)
  ·have h := Am c4 h
   refine Ab (Aa Ac rfl (qL A1 Ay rfl (qL Ec DQ rfl (qf ED rfl (ql Cg rfl ?_)))))
   obtain ⟨v5, a5, h⟩ := bind_some h
   refine CZ (ds0 := [_, _, _]) [8, 2001, 2002, 2003] [] [false, false, false, true] (OG N p0 v1 p2.fIndex v5 a5) (.p rfl) WJ rfl ⟨rfl, rfl, rfl, tv⟩ rfl rfl (by decide) ⟨rfl, rfl, rfl, rfl, tv⟩ rfl (Bm rfl) tv ⟨(fun _ => rfl), (fun _ => rfl), (fun _ => rfl), (fun h => by cases h), tv⟩ rfl rfl rfl ?_
   refine qs Ay rfl (qa rfl (AQ (by kernel_rfl) ?_))
   obtain rfl := sj h
   refine Ak (sm [(1000, 2001), (1001, 2002), (1002, 2003)] [(6, oD (.ptr 6 0)), (7, bD v5.1)] [(6, .box [.own 1000, .own 1001, .own 1002]), (1000, .vec 1 (v1.fBase.map Ai)), (1001, .vec 1 (v1.fNext.map Ai)), (1002, .vec 1 (v5.2.map Bj))] rfl rfl) (Az ?_)
   exact ⟨⟨[_, _], ⟨.cellN _ _ _ _ _ _ _ rfl rfl A1 Ay rfl rfl (IQ rfl), ⟨.tmp _ _ rfl, tv⟩⟩, rfl⟩, ⟨rfl, rfl, rfl, tv⟩⟩
  ·have h := Al c4 h
   refine Ap (Ab (Aa Ac rfl (qf BB rfl (ql Bh rfl (qf ED rfl (ql Cg rfl ?_))))))
   obtain ⟨v6, a6, b6, h⟩ := Aj h
   refine qI AJ Dh a6 (Ag b6) rfl (qj Cg (Ag b6) rfl (qa rfl (Ad (Ab (Ab (Aa Ac rfl (qm rfl (A0 rfl (Ad ?_)))))))))
   refine An rfl (fun c7 => ?_) (fun c7 => ?_)
   ·have h := Am c7 h
    refine Ab (Aa Ac rfl (qL A1 Ay rfl (qs Ay rfl (qa rfl (Ad ?_)))))
    obtain rfl := sj h
    refine Ak (sm [(1000, 2001), (1001, 2002), (1002, 2003)] [(6, oD (.ptr 6 0)), (7, bD false)] [(6, .box [.own 1000, .own 1001, .own 1002]), (1000, .vec 1 (v1.fBase.map Ai)), (1001, .vec 1 (v1.fNext.map Ai)), (1002, .vec 1 (v1.fHeld.map Bj))] rfl rfl) (Az ?_)
    exact ⟨⟨[_, _], ⟨.cellN _ _ _ _ _ _ _ rfl rfl A1 Ay rfl rfl (IQ rfl), ⟨.tmp _ _ rfl, tv⟩⟩, rfl⟩, ⟨rfl, rfl, rfl, tv⟩⟩
   ·have h := Al c7 h
    refine Ap (Ab (Aa Ac rfl (qf BB rfl (ql Bh rfl (qf ED rfl (ql Cg rfl ?_))))))
    obtain ⟨v8, a8, b8, h⟩ := Aj h
    refine qI AJ Dh a8 (Ag b8) rfl ?_
    refine Ba rfl rfl rfl rfl (Ag b8) rfl Dh rfl (A4 rfl) (A9 Ai v1.fNext _ ((-1))) ?_
    refine Ad ?_
    refine AT h (fun v9 => mk [(6, oD (.ptr 6 0)), (8, oD (.ptr 8 0))] [(6, .box [.pure (.nil0), .pure (.nil0), .pure (.nil0)]), (8, .box [.own 2004, .own 2005, .own 2006]), (2004, .vec 1 (v9.map Ai)), (2005, .vec 1 ((v1.fNext.set ((p2.fIndex).toNat) ((-1))).map Ai)), (2006, .vec 1 (v1.fHeld.map Bj))]) (fun j9 h => ?_) (fun v9 h => ?_)
    ·refine Ab (Aa Ac rfl (qf Fj rfl (ql Cg rfl (BE rfl (Ad ?_)))))
     refine An rfl (fun c10 => ?_) (fun c10 => ?_)
     ·have h := Am c10 h
      refine Aa Ac rfl (qf CE rfl (ql Bh rfl (qf ED rfl (ql Cg rfl (qm rfl ?_)))))
      obtain ⟨v11, a11, b11, h⟩ := Aj h
      refine qI AJ Dh a11 (Ag b11) rfl ?_
      refine Ba rfl rfl rfl rfl (Ag b11) rfl Dh rfl (A4 rfl) (A9 Ai v1.fBase _ v6) ?_
      refine Ad ?_
      exact Aw _ h (sm [(2004, 2001), (2005, 2002), (2006, 2003)] _ _ rfl rfl)
     ·have h := Al c10 h
      refine Ap ?_
      exact Aw _ h (sm [(2004, 2001), (2005, 2002), (2006, 2003)] _ _ rfl rfl)
    ·refine Ab (Aa Ac rfl (qL A1 Ay rfl (qs Ay rfl (qa rfl (Ad ?_)))))
     obtain rfl := sj h
     refine Ak (sm [(1000, 2004), (1001, 2005), (1002, 2006)] [(6, oD (.ptr 6 0)), (7, bD true)] [(6, .box [.own 1000, .own 1001, .own 1002]), (1000, .vec 1 (v9.map Ai)), (1001, .vec 1 ((v1.fNext.set ((p2.fIndex).toNat) ((-1))).map Ai)), (1002, .vec 1 (v1.fHeld.map Bj))] rfl rfl) (Az ?_)
     exact ⟨⟨[_, _], ⟨.cellN _ _ _ _ _ _ _ rfl rfl A1 Ay rfl rfl (IQ rfl), ⟨.tmp _ _ rfl, tv⟩⟩, rfl⟩, ⟨rfl, rfl, rfl, tv⟩⟩
theorem Ly (N : Nat) (p0 : Au) (p1 : List Int) (p2 : List Int) (p3 : List Int) (p4 : List AI) (p5 : List Int) (p6 : List Int) (p7 : List Int) (r : Bool) (h : EM N p0 p1 p2 p3 p4 p5 p6 p7 = some r) : AB Tryz.prog 97 [.e (.agg [iC p0.fKind, iC p0.fIndex, iC p0.fVersion]), oD (.rop [.sl (p1.map Ai), .sl (p2.map Ai), .sl (p3.map Ai), .sl (p4.map Ao)]), oD (.rop [.sl (p5.map Ai), .sl (p6.map Ai), .sl (p7.map Bj)])] [] (bD r) := by
 unfold EM at h
 refine Ar (n := 16) (rs := [.tmp 4]) Tryz.func97 rfl rfl rfl (A4 rfl) (A4 rfl) rfl fun w0 S0 => ?_
 refine Ab (Aa Ac rfl (qb rfl (qa rfl (Ad (Ab (Aa Ac rfl (qK Ec DQ rfl (qK A1 Ay rfl (qL IV EH rfl ?_)))))))))
 obtain ⟨v1, a1, h⟩ := bind_some h
 refine AH [2001, 2002, 2003] (KG N ((Ah.mk p1 p2 p3 p4)) ((Ae.mk p5 p6 p7)) p0 v1 a1) Xc rfl (qm rfl (qx rfl (qx rfl (qz Cm rfl (qs Ay rfl (qa rfl (Ad (Ab (Aa Ac rfl (qm rfl (Cd rfl (qa rfl (Ad ?_)))))))))))))
 obtain rfl := sj h
 refine Ak (sm [] [(4, bD ((!v1.2)))] [] rfl rfl) (Az ?_)
 exact ⟨⟨[_], ⟨.tmp _ _ rfl, tv⟩, rfl⟩, tv⟩
theorem zFS (N : Nat) (p0 : List Au) (p1 : Au → Option Bool) (r : Int) (h : CR N p0 p1 = some r) : AB Tryz.prog 112 [pD (.sl (p0.map AP)), oD (.clo (BT (PH true AP) tB p1))] [] (iD r) := by
 unfold CR at h
 refine Ar (n := 19) (rs := [.tmp 4]) Tryz.func112 rfl rfl rfl (A4 rfl) (A4 rfl) rfl fun w0 S0 => ?_
 refine Ab (Aa Ac rfl (qa rfl (Ad (Ab (Ab (Aa Ac rfl (qm rfl (AW Dp rfl (qm rfl (Ad ?_))))))))))
 refine AM (L := BW N p0 p1) h (fun v1 => mk [(0, pD (.sl (p0.map AP))), (1, oD (.clo (BT (PH true AP) tB p1))), (7, iD ((p0.length : Int))), (8, iD v1)] []) (fun v2 => mk [] []) (fun _ _ => rfl) (sm [] _ _ rfl rfl) (fun j1 n1 v1 h => ?_) (fun v2 s h hs => ?_)
 ·unfold BW at h
  refine Ab (Aa Ac rfl (A0 rfl (Ad (Ab ?_))))
  refine An rfl (fun c3 => ?_) (fun c3 => ?_)
  ·have h := Am c3 h
   refine Ap (Ab (AR (Ab (Aa Ac rfl (qm rfl (qa rfl (Ad (Ab (Aa Ac rfl (qm rfl (qm rfl (qm rfl ?_))))))))))))
   obtain ⟨v4, a4, b4, h⟩ := Aj h
   refine qi Dp EH a4 (Ag b4) rfl (qK IV EH rfl ?_)
   obtain ⟨v5, a5, h⟩ := bind_some h
   refine Em (ds0 := [_]) (ar := (PH true AP) v4) (.p rfl) rfl rfl ⟨rfl, tv⟩ rfl rfl rfl (En (OY _ _ MJ) a5) ?_
   refine Ad ?_
   refine An rfl (fun c6 => ?_) (fun c6 => ?_)
   ·have h := Am c6 h
    refine Ab (Aa Ac rfl (qm rfl (qa rfl (Ad ?_))))
    obtain rfl := sj h
    refine Ak (sm [] [(4, iD v1)] [] rfl rfl) (Az ?_)
    exact ⟨⟨[_], ⟨.tmp _ _ rfl, tv⟩, rfl⟩, tv⟩
   ·have h := Al c6 h
    refine Ap (Aa Ac rfl (AX rfl (qm rfl (Ad ?_))))
    exact Aw _ h (sm [] _ _ rfl rfl)
  ·have h := Al c3 h
   refine AY ?_
   exact Aw _ h (sm [] _ _ rfl rfl)
 ·refine Ak hs (Ab (Aa Ac rfl (qa rfl (Ad ?_))))
  obtain rfl := sj h
  refine Ak (sm [] [(4, iD ((-1)))] [] rfl rfl) (Az ?_)
  exact ⟨⟨[_], ⟨.tmp _ _ rfl, tv⟩, rfl⟩, tv⟩
theorem FK (N : Nat) (p0 : List Au) (p1 : Au → Option Bool) (r : Nat × (List Au)) (h : CO N p0 p1 = some r) : BG Tryz.prog 95 [oD (.own 90000), oD (.clo (BT (PH true AP) tB p1))] [(.vec 3 (p0.map AP), .vec 3 (r.2.map AP))] [] (oD (.view 90000 3 0 r.1)) := by
 unfold CO at h
 refine Bw (n := 42) (rs := [.tmp 4]) Tryz.func95 rfl rfl rfl (A4 rfl) (A4 rfl) rfl rfl (A4 rfl) rfl (A4 rfl) fun w0 S0 GL => ?_
 refine Ak (sm [] [(0, oD (.own 90000)), (1, oD (.clo (BT (PH true AP) tB p1)))] [(90000, .vec 3 (p0.map AP))] rfl rfl) (Ab (Aa Ac rfl (qa rfl (Ad (Ab (Aa Ac rfl (qm rfl (qm rfl ?_))))))))
 obtain ⟨v1, a1, h⟩ := bind_some h
 refine F9 [] [90000] (zFS N p0 p1 v1 a1) Xe EJ rfl (qa rfl (Ad (Ab (Ab (Aa Ac rfl (qm rfl (BE rfl (Ad ?_))))))))
 refine An rfl (fun c2 => ?_) (fun c2 => ?_)
 ·have h := Am c2 h
  refine Ab (Aa Ac rfl (qm rfl (qa rfl (Ad ?_))))
  obtain rfl := sj h
  refine Ak ((OZ AP p0 4 90000 3 rfl rfl).trans (sm [] [(4, oD (.view 90000 3 0 p0.length))] [(90000, .vec 3 (p0.map AP))] rfl rfl)) (Az ?_)
  exact ⟨⟨[_], ⟨.tmp _ _ rfl, tv⟩, rfl⟩, ⟨rfl, tv⟩, tv⟩
 ·have h := Al c2 h
  refine Ap (Ab (Ab (Aa Ac rfl (qm rfl (AX rfl (qa rfl (Ad ?_)))))))
  refine AM (L := BV N p1) h (fun v3 => mk [(0, oD (.own 90000)), (1, oD (.clo (BT (PH true AP) tB p1))), (5, iD v3.2.1), (6, iD v3.2.2)] [(90000, .vec 3 (v3.1.map AP))]) (fun v4 => mk [(0, oD (.own 90000)), (5, iD v4.2)] [(90000, .vec 3 (v4.1.map AP))]) (fun _ _ => rfl) (sm [] _ _ rfl rfl) (fun j3 n3 v3 h => ?_) (fun v4 s h hs => ?_)
  ·unfold BV at h
   refine Ab (Ab (Aa Ac rfl (qm rfl (qm rfl (DD Dp rfl (A0 rfl (Ad ?_)))))))
   refine An rfl (fun c5 => ?_) (fun c5 => ?_)
   ·have h := Am c5 h
    refine Ap ?_
    refine AT h (fun v6 => mk [(0, oD (.own 90000)), (1, oD (.clo (BT (PH true AP) tB p1))), (5, iD v6.2), (6, iD v3.2.2)] [(90000, .vec 3 (v6.1.map AP))]) (fun j6 h => ?_) (fun v6 h => ?_)
    ·refine AR (Ab (Aa Ac rfl (qm rfl (qm rfl ?_))))
     obtain ⟨v7, a7, b7, h⟩ := Aj h
     refine qI Dp EH a7 (Ag b7) rfl (qJ IV EH (Ag b7) rfl (qz Ix rfl (qs EH rfl (Ad (Ab (Aa Ac rfl (qm rfl (qL IV EH rfl ?_))))))))
     obtain ⟨v8, a8, h⟩ := bind_some h
     refine Em (ds0 := [_]) (ar := (PH true AP) v7) (.p rfl) rfl rfl ⟨rfl, tv⟩ rfl rfl rfl (En (OY _ _ MJ) a8) ?_
     refine Cd rfl (Ad ?_)
     refine An rfl (fun c9 => ?_) (fun c9 => ?_)
     ·have h := Am c9 h
      refine Ab (Aa Ac rfl (qm rfl (qm rfl (qL IV EH rfl ?_))))
      obtain ⟨v10, a10, b10, h⟩ := Aj h
      refine qI Dp EH a10 (Ag b10) rfl ?_
      refine Ba rfl rfl rfl rfl (Ag b10) rfl EH rfl (A4 rfl) (A9 AP v3.1 _ v7) ?_
      refine Ad (Aa Ac rfl (qm rfl (AX rfl (qa rfl (Ad ?_)))))
      exact Aw _ h (sm [] _ _ rfl rfl)
     ·have h := Al c9 h
      refine Ap ?_
      exact Aw _ h (sm [] _ _ rfl rfl)
    ·refine Aa Ac rfl (qm rfl (AX rfl (qa rfl (Ad ?_))))
     exact Aw _ h (sm [] _ _ rfl rfl)
   ·have h := Al c5 h
    refine AY ?_
    exact Aw _ h (sm [] _ _ rfl rfl)
  ·refine Ak hs (Ab (Aa Ac rfl (qm rfl (qm rfl ?_))))
   obtain ⟨c11, h⟩ := AL h
   have w12 : ((v4.2).toNat) + ((v4.1.length - (v4.2).toNat)) ≤ v4.1.length := by have := c11.2.1; have := c11.2.2; omega
   refine GG AP v4.1 (.p rfl) rfl (F4 AP _ _ v4.1) rfl Dp EH (.some _ _ _ _ c11.1) (.none _) ⟨rfl, tv⟩ tv c11.2.1 (by rw [Nat.zero_add]; exact c11.2.2) (Nat.zero_add _) rfl ?_
   have w13 : (HP v4.1 ((v4.2).toNat) (List.replicate ((v4.1.length - (v4.2).toNat)) ((Au.mk 0 0 0)))).length = v4.1.length := Jd (by rw [List.length_replicate]; exact w12)
   refine Pw AP v4.1 ((Au.mk 0 0 0)) rfl rfl (LE AP _ _ ((v4.2).toNat) ((v4.1.length - (v4.2).toNat)) v4.1 w12) rfl Dp Ix rfl rfl rfl rfl ?_
   refine Ad (Ab (Aa Ac rfl (qm rfl (qm rfl ?_))))
   obtain ⟨c14, h⟩ := AL h
   have w15 : 0 + ((v4.2).toNat) ≤ (HP v4.1 ((v4.2).toNat) (List.replicate ((v4.1.length - (v4.2).toNat)) ((Au.mk 0 0 0)))).length := by have := c14.2.1; have := c14.2.2; omega
   refine GG AP (HP v4.1 ((v4.2).toNat) (List.replicate ((v4.1.length - (v4.2).toNat)) ((Au.mk 0 0 0)))) (.p rfl) rfl (F4 AP _ _ (HP v4.1 ((v4.2).toNat) (List.replicate ((v4.1.length - (v4.2).toNat)) ((Au.mk 0 0 0))))) rfl Dp EH (.none _) (.some _ _ _ _ c14.1) tv ⟨rfl, tv⟩ c14.2.1 (by rw [Nat.zero_add]; exact c14.2.2) (Nat.zero_add _) rfl ?_
   refine qa rfl (Ad ?_)
   obtain rfl := sj h
   refine Ak (sm [] [(4, oD (.view 90000 3 0 ((v4.2).toNat)))] [(90000, .vec 3 ((HP v4.1 ((v4.2).toNat) (List.replicate ((v4.1.length - (v4.2).toNat)) ((Au.mk 0 0 0)))).map AP))] rfl rfl) (Az ?_)
   exact ⟨⟨[_], ⟨.tmp _ _ rfl, tv⟩, rfl⟩, ⟨rfl, tv⟩, tv⟩
theorem MT (N : Nat) (p0 : Ah) (p1 : Ae) (r : (List Au) × Int) (h : Hy N p0 p1 = some r) : AB Tryz.prog 70 [.e (.agg [sC (p0.fVersions.map Ai), sC (p0.fNow.map Ai), sC (p0.fTarget.map Ai), sC (p0.fTables.map Ao)]), .e (.agg [sC (p1.fBase.map Ai), sC (p1.fNext.map Ai), sC (p1.fHeld.map Bj)])] [(3, r.1.map AP)] (.tup [.one (.own 0), .one (iC r.2)]) := by
 unfold Hy at h
 refine Ar (n := 17) (rs := [.tmp 4, .tmp 5]) Tryz.func70 rfl rfl rfl (A4 rfl) (A4 rfl) rfl fun w0 S0 => ?_
 refine Ab (Aa Ac rfl (qb rfl (qb rfl (qa rfl (qa rfl (Ad (Ab (Ab (Aa Ac rfl (qL Ec DQ rfl (qL A1 Ay rfl ?_)))))))))))
 obtain ⟨v1, a1, h⟩ := bind_some h
 refine AH [] (H9 N p0 p1 v1 a1) TL rfl (qa rfl (Ad (Ab (Aa Ac rfl (qm rfl (B2 rfl (Ad ?_)))))))
 refine An rfl (fun c2 => ?_) (fun c2 => ?_)
 ·have h := Am c2 h
  refine Ab (Aa Ac rfl (qm rfl (qa rfl (qa rfl (Ad ?_)))))
  obtain rfl := sj h
  refine Ak ((Bg 4 2001 3 rfl rfl rfl).trans (sm [(1000, 2001)] [(4, oD (.own 1000)), (5, iD v1)] [(1000, .vec 3 ((([] : List Au)).map AP))] rfl rfl)) (Az ?_)
  exact ⟨⟨[_, _], ⟨.tmp _ _ rfl, ⟨.tmp _ _ rfl, tv⟩⟩, rfl⟩, ⟨rfl, tv⟩⟩
 ·have h := Al c2 h
  refine Ap (Ab (Aa Ac rfl (qL Ec DQ rfl ?_)))
  obtain ⟨v3, a3, h⟩ := bind_some h
  refine AH [2002] (QN N p0 v3 a3) X7 rfl (CJ (M3 2 [.sl (p0.fVersions.map Ai), .sl (p0.fNow.map Ai), .sl (p0.fTarget.map Ai), .sl (p0.fTables.map Ao)] rfl rfl) (CJ (M3 3 [.sl (p1.fBase.map Ai), .sl (p1.fNext.map Ai), .sl (p1.fHeld.map Bj)] rfl rfl) ?_))
  refine M2 (capD := [_, _]) (BT (PH true AP) tB ((fun (x : Au) => EM N x p0.fVersions p0.fNow p0.fTarget p0.fTables p1.fBase p1.fNext p1.fHeld))) (.p rfl) XP rfl ⟨rfl, rfl, tv⟩ rfl (fun ar t ht => by obtain ⟨x, r, rfl, hq, rfl⟩ := IJ ht; exact Ly N x p0.fVersions p0.fNow p0.fTarget p0.fTables p1.fBase p1.fNext p1.fHeld r hq) ?_
  obtain ⟨v4, a4, h⟩ := bind_some h
  obtain ⟨c5, h⟩ := AL h
  have w6 : 0 + v4.1 ≤ v4.2.length := by rw [Nat.zero_add]; exact c5
  refine CZ (ds0 := [_, _]) [2002] [] [true] (FK N v3 ((fun (x : Au) => EM N x p0.fVersions p0.fNow p0.fTarget p0.fTables p1.fBase p1.fNext p1.fHeld)) v4 a4) (.p rfl) Ya rfl ⟨rfl, rfl, tv⟩ rfl rfl (by decide) ⟨rfl, tv⟩ rfl (Bm rfl) tv ⟨(fun h => by cases h), tv⟩ rfl rfl rfl ?_
  refine CJ (Sp AP v4.2 16 2002 2003 3 v4.1 rfl rfl rfl rfl rfl c5) (qa rfl (qa rfl (Ad ?_)))
  obtain rfl := sj h
  refine Ak (sm [(1000, 2003)] [(4, oD (.own 1000)), (5, iD 0)] [(1000, .vec 3 ((v4.2.take v4.1).map AP))] rfl rfl) (Az ?_)
  exact ⟨⟨[_, _], ⟨.tmp _ _ rfl, ⟨.tmp _ _ rfl, tv⟩⟩, rfl⟩, ⟨rfl, tv⟩⟩
theorem Pd (N : Nat) (p0 : Au) (r : Bool) (h : F3 N p0 = some r) : AB Tryz.prog 103 [.e (.agg [iC p0.fKind, iC p0.fIndex, iC p0.fVersion])] [] (bD r) := by
 unfold F3 at h
 refine Ar (n := 27) (rs := [.tmp 2]) Tryz.func103 rfl rfl rfl (A4 rfl) (A4 rfl) rfl fun w0 S0 => ?_
 refine Ab (Aa Ac rfl (qb rfl (qa rfl (Ad (Ab ?_)))))
 refine AT h (fun v1 => mk [(1, oD (.ptr 1 0)), (18, bD v1)] [(1, .box [iC p0.fKind, iC p0.fIndex, iC p0.fVersion])]) (fun j1 h => ?_) (fun v1 h => ?_)
 ·refine Aa Ac rfl (qf ED rfl (ql Cg rfl (qf Gb rfl (ql Cg rfl ?_))))
  refine Wy (.p rfl) rfl rfl ?_
  refine A0 rfl (qm rfl ?_)
  refine AF (t := 9) rfl (fun c2 => ?_) (fun c2 => ?_)
  ·have h := Am c2 h
   refine qn rfl (qn rfl (qn rfl (qp rfl (qm rfl (qn rfl (qn rfl (qn rfl (qp rfl (Ad ?_)))))))))
   exact Aw _ h (sm [] _ _ rfl rfl)
  ·have h := Al c2 h
   refine qf Fj rfl (ql Cg rfl (A0 rfl (qp rfl (qm rfl ?_))))
   refine AF (t := 14) rfl (fun c3 => ?_) (fun c3 => ?_)
   ·have h := Am c3 h
    refine qn rfl (qn rfl (qn rfl (qp rfl (Ad ?_))))
    exact Aw _ h (sm [] _ _ rfl rfl)
   ·have h := Al c3 h
    refine qf Fj rfl (ql Cg rfl (E0 rfl (qp rfl (Ad ?_))))
    exact Aw _ h (sm [] _ _ rfl rfl)
 ·refine An rfl (fun c4 => ?_) (fun c4 => ?_)
  ·have h := Am c4 h
   refine Ab (Aa Ac rfl (qa rfl (Ad ?_)))
   obtain rfl := sj h
   refine Ak (sm [] [(2, bD false)] [] rfl rfl) (Az ?_)
   exact ⟨⟨[_], ⟨.tmp _ _ rfl, tv⟩, rfl⟩, tv⟩
  ·have h := Al c4 h
   refine Ap ?_
   refine AT h (fun v5 => mk [(2, bD v5)] []) (fun j5 h => ?_) (fun v5 h => ?_)
   ·refine Aa Ac rfl (qf Fj rfl (ql Cg rfl (BE rfl (qm rfl ?_))))
    refine AF (t := 22) rfl (fun c6 => ?_) (fun c6 => ?_)
    ·have h := Am c6 h
     refine qn rfl (qn rfl (qn rfl (qp rfl (qa rfl (Ad ?_)))))
     exact Aw _ h (sm [] _ _ rfl rfl)
    ·have h := Al c6 h
     refine qf Gb rfl (ql Cg rfl (BE rfl (qp rfl (qa rfl (Ad ?_)))))
     exact Aw _ h (sm [] _ _ rfl rfl)
   ·obtain rfl := sj h
    refine Ak (sm [] [(2, bD v5)] [] rfl rfl) (Az ?_)
    exact ⟨⟨[_], ⟨.tmp _ _ rfl, tv⟩, rfl⟩, tv⟩
theorem NP (N : Nat) (p0 : Ah) (p1 : Au) (r : Bool) (h : FF N p0 p1 = some r) : AB Tryz.prog 104 [.e (.agg [sC (p0.fVersions.map Ai), sC (p0.fNow.map Ai), sC (p0.fTarget.map Ai), sC (p0.fTables.map Ao)]), .e (.agg [iC p1.fKind, iC p1.fIndex, iC p1.fVersion])] [] (bD r) := by
 unfold FF at h
 refine Ar (n := 36) (rs := [.tmp 4]) Tryz.func104 rfl rfl rfl (A4 rfl) (A4 rfl) rfl fun w0 S0 => ?_
 refine Ab (Aa Ac rfl (qb rfl (qb rfl (qa rfl (Ad (Ab (Ab (Aa Ac rfl (qf Fj rfl (ql Cg rfl (BE rfl (Ad ?_))))))))))))
 refine An rfl (fun c1 => ?_) (fun c1 => ?_)
 ·have h := Am c1 h
  refine Ab (Aa Ac rfl (qf ED rfl (ql Cg rfl (qf CH rfl (ql G5 rfl (AW D2 rfl (A0 rfl (qa rfl (Ad ?_)))))))))
  obtain rfl := sj h
  refine Ak (sm [] [(4, bD ((decide (p1.fIndex < (p0.fTables.length : Int)))))] [] rfl rfl) (Az ?_)
  exact ⟨⟨[_], ⟨.tmp _ _ rfl, tv⟩, rfl⟩, tv⟩
 ·have h := Al c1 h
  refine Ap ?_
  refine AT h (fun v2 => mk [(4, bD v2)] []) (fun j2 h => ?_) (fun v2 h => ?_)
  ·refine Aa Ac rfl (qf ED rfl (ql Cg rfl (qf By rfl (ql Bh rfl (AW AJ rfl (A0 rfl (qm rfl ?_)))))))
   refine AF (t := 20) rfl (fun c3 => ?_) (fun c3 => ?_)
   ·have h := Am c3 h
    refine qf Fj rfl (ql Cg rfl (B2 rfl (qm rfl ?_)))
    refine AF (t := 24) rfl (fun c4 => ?_) (fun c4 => ?_)
    ·have h := Am c4 h
     refine qn rfl (qn rfl (qn rfl (qn rfl (qn rfl (qn rfl (qn rfl (qn rfl (qn rfl (qp rfl (qp rfl (qa rfl (AQ (by kernel_rfl) ?_))))))))))))
     exact Aw _ h (sm [] _ _ rfl rfl)
    ·have h := Al c4 h
     refine qf Gb rfl (ql Cg rfl (qf By rfl (ql Bh rfl (qf ED rfl (ql Cg rfl ?_)))))
     obtain ⟨v5, a5, b5, h⟩ := Aj h
     refine qi AJ Dh a5 (Ag b5) rfl (qk Cg rfl (A0 rfl (qp rfl (qp rfl (qa rfl (AQ (by kernel_rfl) ?_))))))
     exact Aw _ h (sm [] _ _ rfl rfl)
   ·have h := Al c3 h
    refine qn rfl (qn rfl (qn rfl (qn rfl (qu rfl (qu rfl (qu rfl (qu rfl (qu rfl (qu rfl (qu rfl (qu rfl (qu rfl (qn rfl (qp rfl (qa rfl (AQ (by kernel_rfl) ?_))))))))))))))))
    exact Aw _ h (sm [] _ _ rfl rfl)
  ·obtain rfl := sj h
   refine Ak (sm [] [(4, bD v2)] [] rfl rfl) (Az ?_)
   exact ⟨⟨[_], ⟨.tmp _ _ rfl, tv⟩, rfl⟩, tv⟩
theorem KR (N : Nat) (p0 : Ah) (p1 : Ae) (p2 : Au) (r : Ae × Int) (h : Ft N p0 p1 p2 = some r) : AB Tryz.prog 79 [.e (.agg [sC (p0.fVersions.map Ai), sC (p0.fNow.map Ai), sC (p0.fTarget.map Ai), sC (p0.fTables.map Ao)]), .e (.agg [sC (p1.fBase.map Ai), sC (p1.fNext.map Ai), sC (p1.fHeld.map Bj)]), .e (.agg [iC p2.fKind, iC p2.fIndex, iC p2.fVersion])] [(1, r.1.fBase.map Ai), (1, r.1.fNext.map Ai), (1, r.1.fHeld.map Bj)] (.tup [.agg [.own 0, .own 1, .own 2], .one (iC r.2)]) := by
 unfold Ft at h
 refine Ar (n := 32) (rs := [.cell 6 50, .tmp 7]) Tryz.func79 rfl rfl rfl (A4 rfl) (A4 rfl) rfl fun w0 S0 => ?_
 refine Ab (Aa Ac rfl (qb rfl (qb rfl (qb rfl (qz Cm rfl (qa rfl (Ad (Ab (AR (Ab (Aa Ac rfl (qL IV EH rfl ?_))))))))))))
 obtain ⟨v1, a1, h⟩ := bind_some h
 refine AH [] (Pd N p2 v1 a1) W9 rfl (Cd rfl (qa rfl (Ad ?_)))
 refine An rfl (fun c2 => ?_) (fun c2 => ?_)
 ·have h := Am c2 h
  refine Ab (Aa Ac rfl (BK Cm Hu rfl (qs Ay rfl (qa rfl (Ad ?_)))))
  obtain rfl := sj h
  refine Ak ((AE 6 0 2001 1 _ rfl rfl rfl rfl).trans ((AE 6 1 2002 1 _ rfl rfl rfl rfl).trans ((AE 6 2 2003 1 _ rfl rfl rfl rfl).trans (sm [(1000, 2001), (1001, 2002), (1002, 2003)] [(6, oD (.ptr 6 0)), (7, iD 1)] [(6, .box [.own 1000, .own 1001, .own 1002]), (1000, .vec 1 ((([] : List Int)).map Ai)), (1001, .vec 1 ((([] : List Int)).map Ai)), (1002, .vec 1 ((([] : List Int)).map Bj))] rfl rfl)))) (Az ?_)
  exact ⟨⟨[_, _], ⟨.cellN _ _ _ _ _ _ _ rfl rfl A1 Ay rfl rfl (IQ rfl), ⟨.tmp _ _ rfl, tv⟩⟩, rfl⟩, ⟨rfl, rfl, rfl, tv⟩⟩
 ·have h := Al c2 h
  refine Ab (Aa Ac rfl (qL Ec DQ rfl (qL IV EH rfl ?_)))
  obtain ⟨v3, a3, h⟩ := bind_some h
  refine AH [] (NP N p0 p2 v3 a3) WY rfl (Cd rfl (qa rfl (Ad ?_)))
  refine An rfl (fun c4 => ?_) (fun c4 => ?_)
  ·have h := Am c4 h
   refine Ab (Aa Ac rfl (BK Cm Hu rfl (qs Ay rfl (qa rfl (Ad ?_)))))
   obtain rfl := sj h
   refine Ak ((AE 6 0 2004 1 _ rfl rfl rfl rfl).trans ((AE 6 1 2005 1 _ rfl rfl rfl rfl).trans ((AE 6 2 2006 1 _ rfl rfl rfl rfl).trans (sm [(1000, 2004), (1001, 2005), (1002, 2006)] [(6, oD (.ptr 6 0)), (7, iD 4)] [(6, .box [.own 1000, .own 1001, .own 1002]), (1000, .vec 1 ((([] : List Int)).map Ai)), (1001, .vec 1 ((([] : List Int)).map Ai)), (1002, .vec 1 ((([] : List Int)).map Bj))] rfl rfl)))) (Az ?_)
   exact ⟨⟨[_, _], ⟨.cellN _ _ _ _ _ _ _ rfl rfl A1 Ay rfl rfl (IQ rfl), ⟨.tmp _ _ rfl, tv⟩⟩, rfl⟩, ⟨rfl, rfl, rfl, tv⟩⟩
  ·have h := Al c4 h
   refine Ap (Ab (Aa Ac rfl (qL Ec DQ rfl (qL A1 Ay rfl (qL IV EH rfl ?_)))))
   obtain ⟨v5, a5, h⟩ := bind_some h
   refine AH [2007, 2008, 2009] (KG N p0 p1 p2 v5 a5) Xc rfl (qm rfl (qx rfl (qx rfl (qz Cm rfl (qs Ay rfl (qa rfl (Ad (Ab (Ab (Aa Ac rfl (qm rfl (Cd rfl (Ad ?_)))))))))))))
   refine An rfl (fun c6 => ?_) (fun c6 => ?_)
   ·have h := Am c6 h
    refine Ab (Aa Ac rfl (BK Cm Hu rfl (qs Ay rfl (qa rfl (Ad ?_)))))
    obtain rfl := sj h
    refine Ak ((AE 6 0 2010 1 _ rfl rfl rfl rfl).trans ((AE 6 1 2011 1 _ rfl rfl rfl rfl).trans ((AE 6 2 2012 1 _ rfl rfl rfl rfl).trans (sm [(1000, 2010), (1001, 2011), (1002, 2012)] [(6, oD (.ptr 6 0)), (7, iD 11)] [(6, .box [.own 1000, .own 1001, .own 1002]), (1000, .vec 1 ((([] : List Int)).map Ai)), (1001, .vec 1 ((([] : List Int)).map Ai)), (1002, .vec 1 ((([] : List Int)).map Bj))] rfl rfl)))) (Az ?_)
    exact ⟨⟨[_, _], ⟨.cellN _ _ _ _ _ _ _ rfl rfl A1 Ay rfl rfl (IQ rfl), ⟨.tmp _ _ rfl, tv⟩⟩, rfl⟩, ⟨rfl, rfl, rfl, tv⟩⟩
   ·have h := Al c6 h
    refine Ap (Ab (Aa Ac rfl (qL A1 Ay rfl (qs Ay rfl (qa rfl (Ad ?_))))))
    obtain rfl := sj h
    refine Ak (sm [(1000, 2007), (1001, 2008), (1002, 2009)] [(6, oD (.ptr 6 0)), (7, iD 0)] [(6, .box [.own 1000, .own 1001, .own 1002]), (1000, .vec 1 (v5.1.fBase.map Ai)), (1001, .vec 1 (v5.1.fNext.map Ai)), (1002, .vec 1 (v5.1.fHeld.map Bj))] rfl rfl) (Az ?_)
    exact ⟨⟨[_, _], ⟨.cellN _ _ _ _ _ _ _ rfl rfl A1 Ay rfl rfl (IQ rfl), ⟨.tmp _ _ rfl, tv⟩⟩, rfl⟩, ⟨rfl, rfl, rfl, tv⟩⟩
theorem O3 (N : Nat) (p0 : Ah) (p1 : Ae) (p2 : Au) (r : Ae × Int) (h : Io N p0 p1 p2 = some r) : AB Tryz.prog 71 [.e (.agg [sC (p0.fVersions.map Ai), sC (p0.fNow.map Ai), sC (p0.fTarget.map Ai), sC (p0.fTables.map Ao)]), .e (.agg [sC (p1.fBase.map Ai), sC (p1.fNext.map Ai), sC (p1.fHeld.map Bj)]), .e (.agg [iC p2.fKind, iC p2.fIndex, iC p2.fVersion])] [(1, r.1.fBase.map Ai), (1, r.1.fNext.map Ai), (1, r.1.fHeld.map Bj)] (.tup [.agg [.own 0, .own 1, .own 2], .one (iC r.2)]) := by
 unfold Io at h
 refine Ar (n := 22) (rs := [.cell 6 50, .tmp 7]) Tryz.func71 rfl rfl rfl (A4 rfl) (A4 rfl) rfl fun w0 S0 => ?_
 refine Ab (Aa Ac rfl (qb rfl (qb rfl (qb rfl (qz Cm rfl (qa rfl (Ad (Ab (Ab (Aa Ac rfl (qL Ec DQ rfl (qL A1 Ay rfl ?_))))))))))))
 obtain ⟨v1, a1, h⟩ := bind_some h
 refine AH [] (H9 N p0 p1 v1 a1) TL rfl (qa rfl (Ad (Ab (Aa Ac rfl (qm rfl (B2 rfl (Ad ?_)))))))
 refine An rfl (fun c2 => ?_) (fun c2 => ?_)
 ·have h := Am c2 h
  refine Ab (Aa Ac rfl (BK Cm Hu rfl (qm rfl (qs Ay rfl (qa rfl (Ad ?_))))))
  obtain rfl := sj h
  refine Ak ((AE 6 0 2001 1 _ rfl rfl rfl rfl).trans ((AE 6 1 2002 1 _ rfl rfl rfl rfl).trans ((AE 6 2 2003 1 _ rfl rfl rfl rfl).trans (sm [(1000, 2001), (1001, 2002), (1002, 2003)] [(6, oD (.ptr 6 0)), (7, iD v1)] [(6, .box [.own 1000, .own 1001, .own 1002]), (1000, .vec 1 ((([] : List Int)).map Ai)), (1001, .vec 1 ((([] : List Int)).map Ai)), (1002, .vec 1 ((([] : List Int)).map Bj))] rfl rfl)))) (Az ?_)
  exact ⟨⟨[_, _], ⟨.cellN _ _ _ _ _ _ _ rfl rfl A1 Ay rfl rfl (IQ rfl), ⟨.tmp _ _ rfl, tv⟩⟩, rfl⟩, ⟨rfl, rfl, rfl, tv⟩⟩
 ·have h := Al c2 h
  refine Ap (Ab (Aa Ac rfl (qL Ec DQ rfl (qL A1 Ay rfl (qL IV EH rfl ?_)))))
  obtain ⟨v3, a3, h⟩ := bind_some h
  refine AH [2004, 2005, 2006] (KR N p0 p1 p2 v3 a3) Wr rfl (qx rfl (qx rfl (qs Ay rfl (qa rfl (Ad ?_)))))
  obtain rfl := sj h
  refine Ak (sm [(1000, 2004), (1001, 2005), (1002, 2006)] [(6, oD (.ptr 6 0)), (7, iD v3.2)] [(6, .box [.own 1000, .own 1001, .own 1002]), (1000, .vec 1 (v3.1.fBase.map Ai)), (1001, .vec 1 (v3.1.fNext.map Ai)), (1002, .vec 1 (v3.1.fHeld.map Bj))] rfl rfl) (Az ?_)
  exact ⟨⟨[_, _], ⟨.cellN _ _ _ _ _ _ _ rfl rfl A1 Ay rfl rfl (IQ rfl), ⟨.tmp _ _ rfl, tv⟩⟩, rfl⟩, ⟨rfl, rfl, rfl, tv⟩⟩
theorem K8 (N : Nat) (p0 : Ah) (p1 : Ae) (r : (List Au) × (List Ae)) (h : Hi N p0 p1 = some r) : AB Tryz.prog 49 [.e (.agg [sC (p0.fVersions.map Ai), sC (p0.fNow.map Ai), sC (p0.fTarget.map Ai), sC (p0.fTables.map Ao)]), .e (.agg [sC (p1.fBase.map Ai), sC (p1.fNext.map Ai), sC (p1.fHeld.map Bj)])] [(3, r.1.map AP), (3, r.2.map Af)] (.tup [.one (.own 0), .one (.own 1)]) := by
 unfold Hi at h
 refine Ar (n := 55) (rs := [.tmp 4, .tmp 5]) Tryz.func49 rfl rfl rfl (A4 rfl) (A4 rfl) rfl fun w0 S0 => ?_
 refine Ab (Aa Ac rfl (qb rfl (qb rfl (qa rfl (qa rfl (Ad (Ab (Aa Ac rfl (qa rfl (Ad (Ab (Aa Ac rfl (qa rfl (Ad (Ab (Aa Ac rfl (qL Ec DQ rfl (qL A1 Ay rfl ?_))))))))))))))))))
 obtain ⟨v1, a1, h⟩ := bind_some h
 refine AH [2001] (MT N p0 p1 v1 a1) XW rfl (qm rfl (qx rfl (qx rfl (qa rfl (qa rfl (Ad (Ab (Ab (Aa Ac rfl (qm rfl (DD Dp rfl (qm rfl (Ad ?_)))))))))))))
 refine AM (L := FG N p0 p1 v1) h (fun v2 => mk [(2, oD (.ptr 2 0)), (3, oD (.ptr 3 0)), (6, oD (.own 2002)), (7, oD (.own 2003)), (22, oD (.own 2004)), (23, iD ((v1.1.length : Int))), (24, iD v2.2.2)] [(2, .box [sC (p0.fVersions.map Ai), sC (p0.fNow.map Ai), sC (p0.fTarget.map Ai), sC (p0.fTables.map Ao)]), (3, .box [sC (p1.fBase.map Ai), sC (p1.fNext.map Ai), sC (p1.fHeld.map Bj)]), (2002, .vec 3 (v2.1.map AP)), (2003, .vec 3 (v2.2.1.map Af)), (2004, .vec 3 (v1.1.map AP))]) (fun v3 => mk [(6, oD (.own 2005)), (7, oD (.own 2006))] [(2005, .vec 3 (v3.1.map AP)), (2006, .vec 3 (v3.2.map Af))]) (fun _ _ => rfl) ((Bg 6 2013 3 rfl rfl rfl).trans ((Bg 7 2014 3 rfl rfl rfl).trans (sm [(2002, 2013), (2003, 2014), (2004, 2001)] _ _ rfl rfl))) (fun j2 n2 v2 h => ?_) (fun v3 s h hs => ?_)
 ·unfold FG at h
  refine Ab (Aa Ac rfl (A0 rfl (Ad (Ab ?_))))
  refine An rfl (fun c4 => ?_) (fun c4 => ?_)
  ·have h := Am c4 h
   refine Ap ?_
   refine AT h (fun v5 => mk [(2, oD (.ptr 2 0)), (3, oD (.ptr 3 0)), (6, oD (.own 2007)), (7, oD (.own 2008)), (22, oD (.own 2009)), (23, iD ((v1.1.length : Int))), (24, iD v2.2.2)] [(2, .box [sC (p0.fVersions.map Ai), sC (p0.fNow.map Ai), sC (p0.fTarget.map Ai), sC (p0.fTables.map Ao)]), (3, .box [sC (p1.fBase.map Ai), sC (p1.fNext.map Ai), sC (p1.fHeld.map Bj)]), (2007, .vec 3 (v5.1.map AP)), (2008, .vec 3 (v5.2.map Af)), (2009, .vec 3 (v1.1.map AP))]) (fun j5 h => ?_) (fun v5 h => ?_)
   ·refine AR (Ab (Aa Ac rfl ?_))
    obtain ⟨v6, a6, b6, h⟩ := Aj h
    refine qI Dp EH a6 (Ag b6) rfl (qJ IV EH (Ag b6) rfl (qz Ix rfl (qs EH rfl (Ad (Ab (Aa Ac rfl (qL Ec DQ rfl (qL A1 Ay rfl (qL IV EH rfl ?_)))))))))
    obtain ⟨v7, a7, h⟩ := bind_some h
    refine AH [2010, 2011, 2012] (O3 N p0 p1 v6 v7 a7) X6 rfl (qm rfl (qx rfl (qx rfl (qz Cm rfl (qs Ay rfl (qa rfl (Ad (Ab (Ab (Aa Ac rfl (qm rfl (B2 rfl (Ad ?_)))))))))))))
    refine An rfl (fun c8 => ?_) (fun c8 => ?_)
    ·have h := Am c8 h
     refine AY ?_
     exact Aw _ h (sm [(2007, 2002), (2008, 2003), (2009, 2004)] _ _ rfl rfl)
    ·have h := Al c8 h
     refine Ap (Ab (Aa Ac rfl (qL Ec DQ rfl (qL A1 Ay rfl ?_))))
     obtain ⟨v9, a9, h⟩ := bind_some h
     refine F9 [] [2010, 2011, 2012] (I2 N p0 v7.1 v9 a9) Vl EJ rfl (qm rfl (qx rfl (qx rfl (qa rfl (qa rfl (Ad (Ab (Aa Ac rfl (qm rfl (Ad ?_))))))))))
     refine An rfl (fun c10 => ?_) (fun c10 => ?_)
     ·have h := Am c10 h
      refine Ak (A3 2010 _ _ rfl rfl) (Ak (A3 2011 _ _ rfl rfl) (Ak (A3 2012 _ _ rfl rfl) (Aa Ac rfl (qm rfl (qL IV EH rfl (DX Dp EH Ix rfl ?_))))))
      obtain ⟨c11, h⟩ := AL h
      refine De (f := AP) Dp Dp EH NX Ix c11 rfl (qm rfl (qL A1 Ay rfl (DX AN Ay Cm rfl ?_)))
      obtain ⟨c12, h⟩ := AL h
      refine De (f := Af) AN AN Ay Jl Cm c12 rfl (qa rfl (qa rfl (AQ (by kernel_rfl) ?_)))
      exact Aw _ h (sm [(2007, 47), (2008, 51), (2009, 2004)] _ _ rfl rfl)
     ·have h := Al c10 h
      refine Ap ?_
      exact Aw _ h (sm [(2007, 2002), (2008, 2003), (2009, 2004)] _ _ rfl rfl)
   ·refine Aa Ac rfl (AX rfl (qm rfl (Ad ?_)))
    exact Aw _ h (sm [(2002, 2007), (2003, 2008), (2004, 2009)] _ _ rfl rfl)
  ·have h := Al c4 h
   refine AY ?_
   exact Aw _ h (sm [(2005, 2002), (2006, 2003)] _ _ rfl rfl)
 ·refine Ak hs (Ab (Aa Ac rfl (qm rfl (qm rfl (qa rfl (qa rfl (Ad ?_)))))))
  obtain rfl := sj h
  refine Ak (sm [(1000, 2005), (1001, 2006)] [(4, oD (.own 1000)), (5, oD (.own 1001))] [(1000, .vec 3 (v3.1.map AP)), (1001, .vec 3 (v3.2.map Af))] rfl rfl) (Az ?_)
  exact ⟨⟨[_, _], ⟨.tmp _ _ rfl, ⟨.tmp _ _ rfl, tv⟩⟩, rfl⟩, ⟨rfl, rfl, tv⟩⟩
theorem K9 (N : Nat) (p0 : Int) (r : Int) (h : Gk N p0 = some r) : AB Tryz.prog 89 [pD (.val (.int .u32 p0))] [] (iD r) := by
 unfold Gk at h
 refine Ar (n := 19) (rs := [.tmp 2]) Tryz.func89 rfl rfl rfl (A4 rfl) (A4 rfl) rfl fun w0 S0 => ?_
 refine Ab (Aa Ac rfl (qa rfl (Ad ?_)))
 refine AT h (fun v1 => mk [(0, pD (.val (.int .u32 v1.1))), (2, iD v1.2)] []) (fun j1 h => ?_) (fun v1 h => ?_)
 ·refine Ab (Aa Ac rfl (qm rfl (Df rfl (Ad ?_))))
  refine An rfl (fun c2 => ?_) (fun c2 => ?_)
  ·have h := Am c2 h
   refine Ab (Aa Ac rfl (qm rfl (GC rfl (by decide) (qa rfl (Ad (Aa Ac rfl (qa rfl (Ad ?_))))))))
   exact Aw _ h (sm [] _ _ rfl rfl)
  ·have h := Al c2 h
   refine Ap ?_
   exact Aw _ h (sm [] _ _ rfl rfl)
 ·refine AT h (fun v3 => mk [(0, pD (.val (.int .u32 v3.1))), (2, iD v3.2)] []) (fun j3 h => ?_) (fun v3 h => ?_)
  ·refine Ab (Aa Ac rfl (qm rfl (Df rfl (Ad ?_))))
   refine An rfl (fun c4 => ?_) (fun c4 => ?_)
   ·have h := Am c4 h
    refine Ab (Aa Ac rfl (qm rfl (GC rfl (by decide) (qa rfl (Ad (Aa Ac rfl (qm rfl (AX rfl (qa rfl (Ad ?_))))))))))
    exact Aw _ h (sm [] _ _ rfl rfl)
   ·have h := Al c4 h
    refine Ap ?_
    exact Aw _ h (sm [] _ _ rfl rfl)
  ·refine Ab (Aa Ac rfl (qm rfl (qm rfl (Gz Qq Xy rfl ?_))))
   obtain ⟨v5, a5, h⟩ := bind_some h
   refine LA (.p rfl) rfl rfl TZ a5 ?_
   refine Gz UR R7 rfl (AX rfl (qa rfl (Ad ?_)))
   obtain rfl := sj h
   refine Ak (sm [] [(2, iD ((wI .i64 (v3.2 + (wI .i64 v5)))))] [] rfl rfl) (Az ?_)
   exact ⟨⟨[_], ⟨.tmp _ _ rfl, tv⟩, rfl⟩, tv⟩
theorem Kz (N : Nat) (p0 : Int) (r : Int) (h : Gj N p0 = some r) : AB Tryz.prog 90 [pD (.val (.int .u64 p0))] [] (iD r) := by
 unfold Gj at h
 refine Ar (n := 25) (rs := [.tmp 2]) Tryz.func90 rfl rfl rfl (A4 rfl) (A4 rfl) rfl fun w0 S0 => ?_
 refine Ab (Aa Ac rfl (qa rfl (Ad ?_)))
 refine AT h (fun v1 => mk [(0, pD (.val (.int .u64 v1.1))), (2, iD v1.2)] []) (fun j1 h => ?_) (fun v1 h => ?_)
 ·refine Ab (Aa Ac rfl (qm rfl (Df rfl (Ad ?_))))
  refine An rfl (fun c2 => ?_) (fun c2 => ?_)
  ·have h := Am c2 h
   refine Ab (Aa Ac rfl (qm rfl (GC rfl (by decide) (qa rfl (Ad (Aa Ac rfl (qa rfl (Ad ?_))))))))
   exact Aw _ h (sm [] _ _ rfl rfl)
  ·have h := Al c2 h
   refine Ap ?_
   exact Aw _ h (sm [] _ _ rfl rfl)
 ·refine AT h (fun v3 => mk [(0, pD (.val (.int .u64 v3.1))), (2, iD v3.2)] []) (fun j3 h => ?_) (fun v3 h => ?_)
  ·refine Ab (Aa Ac rfl (qm rfl (Df rfl (Ad ?_))))
   refine An rfl (fun c4 => ?_) (fun c4 => ?_)
   ·have h := Am c4 h
    refine Ab (Aa Ac rfl (qm rfl (GC rfl (by decide) (qa rfl (Ad (Aa Ac rfl (qm rfl (AX rfl (qa rfl (Ad ?_))))))))))
    exact Aw _ h (sm [] _ _ rfl rfl)
   ·have h := Al c4 h
    refine Ap ?_
    exact Aw _ h (sm [] _ _ rfl rfl)
  ·refine AT h (fun v5 => mk [(0, pD (.val (.int .u64 v5.1))), (2, iD v5.2)] []) (fun j5 h => ?_) (fun v5 h => ?_)
   ·refine Ab (Aa Ac rfl (qm rfl (Df rfl (Ad ?_))))
    refine An rfl (fun c6 => ?_) (fun c6 => ?_)
    ·have h := Am c6 h
     refine Ab (Aa Ac rfl (qm rfl (GC rfl (by decide) (qa rfl (Ad (Aa Ac rfl (qm rfl (AX rfl (qa rfl (Ad ?_))))))))))
     exact Aw _ h (sm [] _ _ rfl rfl)
    ·have h := Al c6 h
     refine Ap ?_
     exact Aw _ h (sm [] _ _ rfl rfl)
   ·refine Ab (Aa Ac rfl (qm rfl (qm rfl (Gz Ss Xy rfl ?_))))
    obtain ⟨v7, a7, h⟩ := bind_some h
    refine LA (.p rfl) rfl rfl TZ a7 ?_
    refine Gz UR R7 rfl (AX rfl (qa rfl (Ad ?_)))
    obtain rfl := sj h
    refine Ak (sm [] [(2, iD ((wI .i64 (v5.2 + (wI .i64 v7)))))] [] rfl rfl) (Az ?_)
    exact ⟨⟨[_], ⟨.tmp _ _ rfl, tv⟩, rfl⟩, tv⟩
theorem Jh (N : Nat) (p0 : Int) (r : Int) (h : Dl N p0 = some r) : AB Tryz.prog 61 [pD (.val (.int .u64 p0))] [] (iD r) := by
 unfold Dl at h
 refine Ar (n := 8) (rs := [.tmp 2]) Tryz.func61 rfl rfl rfl (A4 rfl) (A4 rfl) rfl fun w0 S0 => ?_
 refine Ab (Aa Ac rfl (qa rfl (Ad (Ab ?_))))
 refine An rfl (fun c1 => ?_) (fun c1 => ?_)
 ·have h := Am c1 h
  refine Ab (Aa Ac rfl (qm rfl (Gz P6 P7 rfl ?_)))
  obtain ⟨v2, a2, h⟩ := bind_some h
  refine AH [] (K9 N ((wI .u32 p0)) v2 a2) XZ rfl (qa rfl (Ad ?_))
  obtain rfl := sj h
  refine Ak (sm [] [(2, iD v2)] [] rfl rfl) (Az ?_)
  exact ⟨⟨[_], ⟨.tmp _ _ rfl, tv⟩, rfl⟩, tv⟩
 ·have h := Al c1 h
  refine Ap (Ab (Aa Ac rfl (qm rfl ?_)))
  obtain ⟨v3, a3, h⟩ := bind_some h
  refine AH [] (Kz N p0 v3 a3) XS rfl (qa rfl (Ad ?_))
  obtain rfl := sj h
  refine Ak (sm [] [(2, iD v3)] [] rfl rfl) (Az ?_)
  exact ⟨⟨[_], ⟨.tmp _ _ rfl, tv⟩, rfl⟩, tv⟩
theorem FJ (N : Nat) (p0 : List Ae) (p1 : Int) (p2 : Int) (p3 : (Ae × Ae) → Option Int) (r : (List Ae)) (h : Gs.insertionSort N p0 p1 p2 p3 = some r) : BG Tryz.prog 81 [oD (.own 90000), iD p1, iD p2, oD (.clo (BT (Ek true Af true Af) CA p3))] [(.vec 3 (p0.map Af), .vec 3 (r.map Af))] [] (.tup []) := by
 unfold Gs.insertionSort at h
 refine Bw (n := 53) (rs := []) Tryz.func81 rfl rfl rfl (A4 rfl) (A4 rfl) rfl rfl (A4 rfl) rfl (A4 rfl) fun w0 S0 GL => Nz ?_
 refine Ak (sm [] [(0, oD (.own 90000)), (1, iD p1), (2, iD p2), (3, oD (.clo (BT (Ek true Af true Af) CA p3)))] [(90000, .vec 3 (p0.map Af))] rfl rfl) (Ab (Aa Ac rfl (qm rfl (AX rfl (qa rfl (Ad ?_))))))
 refine AM (L := Gs.insertionSort_L1 N p1 p2 p3) h (fun v1 => mk [(0, oD (.own 90000)), (1, iD p1), (2, iD p2), (3, oD (.clo (BT (Ek true Af true Af) CA p3))), (8, iD v1.2)] [(90000, .vec 3 (v1.1.map Af))]) (fun v2 => mk [] [(90000, .vec 3 (v2.map Af))]) (fun _ _ => rfl) (sm [] _ _ rfl rfl) (fun j1 n1 v1 h => ?_) (fun v2 s h hs => ?_)
 ·unfold Gs.insertionSort_L1 at h
  refine Ab (Ab (Aa Ac rfl (qm rfl (qm rfl (A0 rfl (Ad ?_))))))
  refine An rfl (fun c3 => ?_) (fun c3 => ?_)
  ·have h := Am c3 h
   refine Ap (Ab (AR (Ab (Aa Ac rfl (qm rfl (qa rfl (Ad ?_)))))))
   refine AM (L := Gs.insertionSort_L4 N p1 p3) h (fun v4 => mk [(0, oD (.own 90000)), (1, iD p1), (2, iD p2), (3, oD (.clo (BT (Ek true Af true Af) CA p3))), (8, iD v1.2), (9, iD v4.2)] [(90000, .vec 3 (v4.1.map Af))]) (fun v5 => mk [(0, oD (.own 90000)), (1, iD p1), (2, iD p2), (3, oD (.clo (BT (Ek true Af true Af) CA p3))), (8, iD v1.2)] [(90000, .vec 3 (v5.map Af))]) (fun _ _ => rfl) (sm [] _ _ rfl rfl) (fun j4 n4 v4 h => ?_) (fun v5 s h hs => ?_)
   ·unfold Gs.insertionSort_L4 at h
    refine Ab ?_
    refine AT h (fun v6 => mk [(0, oD (.own 90000)), (1, iD p1), (2, iD p2), (3, oD (.clo (BT (Ek true Af true Af) CA p3))), (8, iD v1.2), (9, iD v4.2), (34, bD v6)] [(90000, .vec 3 (v4.1.map Af))]) (fun j6 h => ?_) (fun v6 h => ?_)
    ·refine Aa Ac rfl (qm rfl (qm rfl (E0 rfl (qm rfl ?_))))
     refine AF (t := 21) rfl (fun c7 => ?_) (fun c7 => ?_)
     ·have h := Am c7 h
      refine qm rfl (qm rfl (qm rfl ?_))
      obtain ⟨v8, a8, b8, h⟩ := Aj h
      refine qI AN Ay a8 (Ag b8) rfl (qJ A1 Ay (Ag b8) rfl (qm rfl (qm rfl (Cz rfl ?_))))
      obtain ⟨v9, a9, b9, h⟩ := Aj h
      refine qI AN Ay a9 (Ag b9) rfl (qJ A1 Ay (Ag b9) rfl ?_)
      obtain ⟨v10, a10, h⟩ := bind_some h
      refine Em (ds0 := [_, _]) (ar := (Ek true Af true Af) ((v8, v9))) (.g rfl rfl) rfl rfl ⟨rfl, rfl, tv⟩ rfl rfl rfl (En (E3 _ _ _ _ Bt Bt) a10) ?_
      refine A0 rfl (qp rfl (AQ (by kernel_rfl) ?_))
      exact Aw _ h (sm [] _ _ rfl rfl)
     ·have h := Al c7 h
      refine qn rfl (qn rfl (qn rfl (qn rfl (qn rfl (qn rfl (qn rfl (qn rfl (qn rfl (qn rfl (qn rfl (qn rfl (qp rfl (AQ (by kernel_rfl) ?_)))))))))))))
      exact Aw _ h (sm [] _ _ rfl rfl)
    ·refine An rfl (fun c11 => ?_) (fun c11 => ?_)
     ·have h := Am c11 h
      refine Ap (Ab (AR (Aa Ac rfl (qm rfl (qm rfl (qm rfl (qm rfl (Cz rfl (qm rfl (qm rfl (Cz rfl ?_)))))))))))
      obtain ⟨v12, a12, b12, h⟩ := Aj h
      refine qI AN Ay a12 (Ag b12) rfl (qJ A1 Ay (Ag b12) rfl (qm rfl (qm rfl ?_)))
      obtain ⟨v13, a13, b13, h⟩ := Aj h
      refine qI AN Ay a13 (Ag b13) rfl (qJ A1 Ay (Ag b13) rfl ?_)
      obtain ⟨v14, a14, b14, h⟩ := Aj h
      refine qI AN Ay a14 (Ag b14) rfl ?_
      refine Ba rfl rfl rfl rfl (Ag b14) rfl Ay rfl (A4 rfl) (A9 Af v4.1 _ v12) ?_
      obtain ⟨v15, a15, b15, h⟩ := Aj h
      refine qI AN Ay a15 (Ag b15) rfl ?_
      refine Ba rfl rfl rfl rfl (Ag b15) rfl Ay rfl (A4 rfl) (A9 Af (v4.1.set ((v4.2).toNat) v12) _ v13) ?_
      refine AQ (by kernel_rfl) (Aa Ac rfl (qm rfl (Cz rfl (qa rfl (Ad ?_)))))
      exact Aw _ h (sm [] _ _ rfl rfl)
     ·have h := Al c11 h
      refine AY ?_
      exact Aw _ h (sm [] _ _ rfl rfl)
   ·refine Ak hs (Aa Ac rfl (qm rfl (AX rfl (qa rfl (Ad ?_)))))
    exact Aw _ h (sm [] _ _ rfl rfl)
  ·have h := Al c3 h
   refine AY ?_
   exact Aw _ h (sm [] _ _ rfl rfl)
 ·obtain rfl := sj h
  refine ⟨_, hs.trans (sm [] [] [(90000, .vec 3 (v2.map Af))] rfl rfl), ?_⟩
  exact ⟨⟨[], tv, rfl⟩, ⟨rfl, tv⟩, tv⟩
theorem EK (N : Nat) (p0 : List Ae) (p1 : Int) (p2 : Int) (p3 : Int) (p4 : (Ae × Ae) → Option Int) (r : (List Ae)) (h : Gs.siftDown N p0 p1 p2 p3 p4 = some r) : BG Tryz.prog 105 [oD (.own 90000), iD p1, iD p2, iD p3, oD (.clo (BT (Ek true Af true Af) CA p4))] [(.vec 3 (p0.map Af), .vec 3 (r.map Af))] [] (.tup []) := by
 unfold Gs.siftDown at h
 refine Bw (n := 82) (rs := []) Tryz.func105 rfl rfl rfl (A4 rfl) (A4 rfl) rfl rfl (A4 rfl) rfl (A4 rfl) fun w0 S0 GL => Nz ?_
 refine Ak (sm [] [(0, oD (.own 90000)), (1, iD p1), (2, iD p2), (3, iD p3), (4, oD (.clo (BT (Ek true Af true Af) CA p4)))] [(90000, .vec 3 (p0.map Af))] rfl rfl) (Ab (Aa Ac rfl (qm rfl (qa rfl (Ad ?_)))))
 refine AM (L := Gs.siftDown_L1 N p2 p3 p4) h (fun v1 => mk [(0, oD (.own 90000)), (2, iD p2), (3, iD p3), (4, oD (.clo (BT (Ek true Af true Af) CA p4))), (10, iD v1.2)] [(90000, .vec 3 (v1.1.map Af))]) (fun v2 => mk [] [(90000, .vec 3 (v2.map Af))]) (fun _ _ => rfl) (sm [] _ _ rfl rfl) (fun j1 n1 v1 h => ?_) (fun v2 s h hs => ?_)
 ·unfold Gs.siftDown_L1 at h
  refine AR (Ab (Aa Ac rfl (qm rfl (Ie rfl (AX rfl (qa rfl (Ad (Ab (Ab (Aa Ac rfl (qm rfl (qm rfl (Df rfl (Ad ?_))))))))))))))
  refine An rfl (fun c3 => ?_) (fun c3 => ?_)
  ·have h := Am c3 h
   refine AY ?_
   exact Aw _ h (sm [] _ _ rfl rfl)
  ·have h := Al c3 h
   refine Ap ?_
   refine AT h (fun v4 => mk [(0, oD (.own 90000)), (2, iD p2), (3, iD p3), (4, oD (.clo (BT (Ek true Af true Af) CA p4))), (10, iD v1.2), (11, iD v4)] [(90000, .vec 3 (v1.1.map Af))]) (fun j4 h => ?_) (fun v4 h => ?_)
   ·refine AT h (fun v5 => mk [(0, oD (.own 90000)), (2, iD p2), (3, iD p3), (4, oD (.clo (BT (Ek true Af true Af) CA p4))), (10, iD v1.2), (11, iD ((wI .i64 ((wI .i64 (2 * v1.2)) + 1)))), (40, bD v5)] [(90000, .vec 3 (v1.1.map Af))]) (fun j5 h => ?_) (fun v5 h => ?_)
    ·refine Aa Ac rfl (qm rfl (AX rfl (qm rfl (A0 rfl (qm rfl ?_)))))
     refine AF (t := 23) rfl (fun c6 => ?_) (fun c6 => ?_)
     ·have h := Am c6 h
      refine qm rfl (qm rfl (qm rfl (qm rfl (AX rfl ?_))))
      obtain ⟨v7, a7, b7, h⟩ := Aj h
      refine qI AN Ay a7 (Ag b7) rfl (qJ A1 Ay (Ag b7) rfl (qm rfl (qm rfl (qm rfl (AX rfl (AX rfl ?_))))))
      obtain ⟨v8, a8, b8, h⟩ := Aj h
      refine qI AN Ay a8 (Ag b8) rfl (qJ A1 Ay (Ag b8) rfl ?_)
      obtain ⟨v9, a9, h⟩ := bind_some h
      refine Em (ds0 := [_, _]) (ar := (Ek true Af true Af) ((v7, v8))) (.g rfl rfl) rfl rfl ⟨rfl, rfl, tv⟩ rfl rfl rfl (En (E3 _ _ _ _ Bt Bt) a9) ?_
      refine A0 rfl (qp rfl (AQ (by kernel_rfl) ?_))
      exact Aw _ h (sm [] _ _ rfl rfl)
     ·have h := Al c6 h
      refine qn rfl (qn rfl (qn rfl (qn rfl (qn rfl (qn rfl (qn rfl (qn rfl (qn rfl (qn rfl (qn rfl (qn rfl (qn rfl (qn rfl (qn rfl (qn rfl (qp rfl (AQ (by kernel_rfl) ?_)))))))))))))))))
      exact Aw _ h (sm [] _ _ rfl rfl)
    ·refine An rfl (fun c10 => ?_) (fun c10 => ?_)
     ·have h := Am c10 h
      refine Aa Ac rfl (qm rfl (AX rfl (qa rfl (Ad ?_))))
      exact Aw _ h (sm [] _ _ rfl rfl)
     ·have h := Al c10 h
      refine Ap ?_
      exact Aw _ h (sm [] _ _ rfl rfl)
   ·refine Ab (Ab (Aa Ac rfl (qm rfl (qm rfl (qm rfl (qm rfl (AX rfl ?_)))))))
    obtain ⟨v11, a11, b11, h⟩ := Aj h
    refine qI AN Ay a11 (Ag b11) rfl (qJ A1 Ay (Ag b11) rfl (qm rfl (qm rfl (qm rfl (AX rfl ?_)))))
    obtain ⟨v12, a12, b12, h⟩ := Aj h
    refine qI AN Ay a12 (Ag b12) rfl (qJ A1 Ay (Ag b12) rfl ?_)
    obtain ⟨v13, a13, h⟩ := bind_some h
    refine Em (ds0 := [_, _]) (ar := (Ek true Af true Af) ((v11, v12))) (.p rfl) rfl rfl ⟨rfl, rfl, tv⟩ rfl rfl rfl (En (E3 _ _ _ _ Bt Bt) a13) ?_
    refine A0 rfl (Cd rfl (AQ (by kernel_rfl) ?_))
    refine An rfl (fun c14 => ?_) (fun c14 => ?_)
    ·have h := Am c14 h
     obtain rfl := sj h
     refine Az ⟨_, (sm [] [] [(90000, .vec 3 (v1.1.map Af))] rfl rfl), ?_⟩
     exact ⟨⟨[], tv, rfl⟩, ⟨rfl, tv⟩, tv⟩
    ·have h := Al c14 h
     refine Ap (Ab (Aa Ac rfl (qm rfl (qm rfl (qm rfl (AX rfl (qm rfl (qm rfl (qm rfl (AX rfl (qm rfl (qm rfl (qm rfl (AX rfl ?_))))))))))))))
     obtain ⟨v15, a15, b15, h⟩ := Aj h
     refine qI AN Ay a15 (Ag b15) rfl (qJ A1 Ay (Ag b15) rfl (qm rfl (qm rfl (qm rfl (AX rfl ?_)))))
     obtain ⟨v16, a16, b16, h⟩ := Aj h
     refine qI AN Ay a16 (Ag b16) rfl (qJ A1 Ay (Ag b16) rfl ?_)
     obtain ⟨v17, a17, b17, h⟩ := Aj h
     refine qI AN Ay a17 (Ag b17) rfl ?_
     refine Ba rfl rfl rfl rfl (Ag b17) rfl Ay rfl (A4 rfl) (A9 Af v1.1 _ v15) ?_
     obtain ⟨v18, a18, b18, h⟩ := Aj h
     refine qI AN Ay a18 (Ag b18) rfl ?_
     refine Ba rfl rfl rfl rfl (Ag b18) rfl Ay rfl (A4 rfl) (A9 Af (v1.1.set (((wI .i64 (p3 + v1.2))).toNat) v15) _ v16) ?_
     refine AQ (by kernel_rfl) (Aa Ac rfl (qm rfl (qa rfl (Ad ?_))))
     exact Aw _ h (sm [] _ _ rfl rfl)
 ·obtain rfl := sj h
  refine ⟨_, hs.trans (sm [] [] [(90000, .vec 3 (v2.map Af))] rfl rfl), ?_⟩
  exact ⟨⟨[], tv, rfl⟩, ⟨rfl, tv⟩, tv⟩
theorem GQ (N : Nat) (p0 : List Ae) (p1 : Int) (p2 : Int) (p3 : (Ae × Ae) → Option Int) (r : (List Ae)) (h : Gs.heapSort N p0 p1 p2 p3 = some r) : BG Tryz.prog 82 [oD (.own 90000), iD p1, iD p2, oD (.clo (BT (Ek true Af true Af) CA p3))] [(.vec 3 (p0.map Af), .vec 3 (r.map Af))] [] (.tup []) := by
 unfold Gs.heapSort at h
 refine Bw (n := 60) (rs := []) Tryz.func82 rfl rfl rfl (A4 rfl) (A4 rfl) rfl rfl (A4 rfl) rfl (A4 rfl) fun w0 S0 GL => Nz ?_
 refine Ak (sm [] [(0, oD (.own 90000)), (1, iD p1), (2, iD p2), (3, oD (.clo (BT (Ek true Af true Af) CA p3)))] [(90000, .vec 3 (p0.map Af))] rfl rfl) (Ab (Aa Ac rfl (qm rfl (qa rfl (Ad (Ab (Aa Ac rfl (qa rfl (Ad (Ab (Aa Ac rfl (qm rfl (qm rfl (Cz rfl (qa rfl (Ad (Ab (Ab (Aa Ac rfl (qm rfl (Cz rfl (MU rfl (by decide) (qa rfl (Ad ?_))))))))))))))))))))))))
 refine AM (L := Gs.heapSort_L1 N p1 p2 p3) h (fun v1 => mk [(0, oD (.own 90000)), (3, oD (.clo (BT (Ek true Af true Af) CA p3))), (8, iD p1), (9, iD 0), (10, iD ((wI .i64 (p2 - p1)))), (11, iD v1.2)] [(90000, .vec 3 (v1.1.map Af))]) (fun v2 => mk [(0, oD (.own 90000)), (3, oD (.clo (BT (Ek true Af true Af) CA p3))), (8, iD p1), (9, iD 0), (10, iD ((wI .i64 (p2 - p1))))] [(90000, .vec 3 (v2.map Af))]) (fun _ _ => rfl) (sm [] _ _ rfl rfl) (fun j1 n1 v1 h => ?_) (fun v2 s h hs => ?_)
 ·unfold Gs.heapSort_L1 at h
  refine Ab (Ab (Aa Ac rfl (qm rfl (Df rfl (Ad ?_)))))
  refine An rfl (fun c3 => ?_) (fun c3 => ?_)
  ·have h := Am c3 h
   refine Ap (Ab (AR (Aa Ac rfl (qm rfl (qm rfl (qm rfl (qm rfl (qm rfl ?_))))))))
   obtain ⟨v4, a4, h⟩ := bind_some h
   refine CZ (ds0 := [_, _, _, _, _]) [90000] [] [true] (EK N v1.1 v1.2 ((wI .i64 (p2 - p1))) p1 p3 v4 a4) (.p rfl) U8 rfl ⟨rfl, rfl, rfl, rfl, rfl, tv⟩ rfl rfl (by decide) ⟨rfl, tv⟩ rfl (Bm rfl) tv ⟨(fun h => by cases h), tv⟩ rfl rfl rfl ?_
   refine Ad (Aa Ac rfl (qm rfl (Cz rfl (qa rfl (Ad ?_)))))
   exact Aw _ h (sm [] _ _ rfl rfl)
  ·have h := Al c3 h
   refine AY ?_
   exact Aw _ h (sm [] _ _ rfl rfl)
 ·refine Ak hs (Ab (Aa Ac rfl (qm rfl (Cz rfl (qa rfl (Ad ?_))))))
  refine AM (L := Gs.heapSort_L5 N p1 p3) h (fun v5 => mk [(0, oD (.own 90000)), (3, oD (.clo (BT (Ek true Af true Af) CA p3))), (8, iD p1), (9, iD 0), (12, iD v5.2)] [(90000, .vec 3 (v5.1.map Af))]) (fun v6 => mk [] [(90000, .vec 3 (v6.map Af))]) (fun _ _ => rfl) (sm [] _ _ rfl rfl) (fun j5 n5 v5 h => ?_) (fun v6 s h hs => ?_)
  ·unfold Gs.heapSort_L5 at h
   refine Ab (Ab (Aa Ac rfl (qm rfl (Df rfl (Ad ?_)))))
   refine An rfl (fun c7 => ?_) (fun c7 => ?_)
   ·have h := Am c7 h
    refine Ap (Ab (AR (Ab (Aa Ac rfl (qm rfl (qm rfl (qm rfl (qm rfl (qm rfl (AX rfl (qm rfl (qm rfl (qm rfl (AX rfl ?_))))))))))))))
    obtain ⟨v8, a8, b8, h⟩ := Aj h
    refine qI AN Ay a8 (Ag b8) rfl (qJ A1 Ay (Ag b8) rfl (qm rfl (qm rfl ?_)))
    obtain ⟨v9, a9, b9, h⟩ := Aj h
    refine qI AN Ay a9 (Ag b9) rfl (qJ A1 Ay (Ag b9) rfl ?_)
    obtain ⟨v10, a10, b10, h⟩ := Aj h
    refine qI AN Ay a10 (Ag b10) rfl ?_
    refine Ba rfl rfl rfl rfl (Ag b10) rfl Ay rfl (A4 rfl) (A9 Af v5.1 _ v8) ?_
    obtain ⟨v11, a11, b11, h⟩ := Aj h
    refine qI AN Ay a11 (Ag b11) rfl ?_
    refine Ba rfl rfl rfl rfl (Ag b11) rfl Ay rfl (A4 rfl) (A9 Af (v5.1.set ((p1).toNat) v8) _ v9) ?_
    refine AQ (by kernel_rfl) (Aa Ac rfl (qm rfl (qm rfl (qm rfl (qm rfl (qm rfl ?_))))))
    obtain ⟨v12, a12, h⟩ := bind_some h
    refine CZ (ds0 := [_, _, _, _, _]) [90000] [] [true] (EK N ((v5.1.set ((p1).toNat) v8).set (((wI .i64 (p1 + v5.2))).toNat) v9) 0 v5.2 p1 p3 v12 a12) (.p rfl) U8 rfl ⟨rfl, rfl, rfl, rfl, rfl, tv⟩ rfl rfl (by decide) ⟨rfl, tv⟩ rfl (Bm rfl) tv ⟨(fun h => by cases h), tv⟩ rfl rfl rfl ?_
    refine Ad (Aa Ac rfl (qm rfl (Cz rfl (qa rfl (Ad ?_)))))
    exact Aw _ h (sm [] _ _ rfl rfl)
   ·have h := Al c7 h
    refine AY ?_
    exact Aw _ h (sm [] _ _ rfl rfl)
  ·obtain rfl := sj h
   refine ⟨_, hs.trans (sm [] [] [(90000, .vec 3 (v6.map Af))] rfl rfl), ?_⟩
   exact ⟨⟨[], tv, rfl⟩, ⟨rfl, tv⟩, tv⟩
theorem IA (N : Nat) (p0 : Int) (r : Int) (h : Dg N p0 = some r) : AB Tryz.prog 106 [iD p0] [] (pD (.val (.int .u64 r))) := by
 unfold Dg at h
 refine Ar (n := 7) (rs := [.tmp 2]) Tryz.func106 rfl rfl rfl (A4 rfl) (A4 rfl) rfl fun w0 S0 => ?_
 refine Ab (Aa Ac rfl (qa rfl (Ad (Ab (Aa Ac rfl (qm rfl (Gz VT N8 rfl ?_)))))))
 obtain ⟨v1, a1, h⟩ := bind_some h
 refine AH [] (Jh N ((wI .u64 p0)) v1 a1) Wn rfl ?_
 obtain ⟨c2, h⟩ := AL h
 refine Hs rfl c2 (qa rfl (Ad ?_))
 obtain rfl := sj h
 refine Ak (sm [] [(2, pD (.val (.int .u64 ((Cc .u64 1 v1)))))] [] rfl rfl) (Az ?_)
 exact ⟨⟨[_], ⟨.tmp _ _ rfl, tv⟩, rfl⟩, tv⟩
theorem IS (N : Nat) (p0 : Int) (r : Int × Int) (h : Dj N p0 = some r) : BG Tryz.prog 107 [oD (.ptr 90000 0)] [(.box [.pure (.val (.int .u64 p0))], .box [.pure (.val (.int .u64 r.2))])] [] (pD (.val (.int .u64 r.1))) := by
 unfold Dj at h
 refine Bw (n := 33) (rs := [.tmp 2]) Tryz.func107 rfl rfl rfl (A4 rfl) (A4 rfl) rfl rfl (A4 rfl) rfl (A4 rfl) fun w0 S0 GL => ?_
 refine Ak (sm [] [(0, oD (.ptr 90000 0))] [(90000, .box [.pure (.val (.int .u64 p0))])] rfl rfl) (Ab (Aa Ac rfl (qa rfl (Ad (Ab (Aa Ac rfl (qm rfl (NN rfl (ql MA rfl (qm rfl (NN rfl (ql MA rfl (Hs rfl (by decide) (Te rfl (NN rfl (qs Rt rfl (AQ (by kernel_rfl) (Ab (Aa Ac rfl (qm rfl (NN rfl (ql MA rfl (qm rfl (NN rfl (ql MA rfl (GC rfl (by decide) (Te rfl (NN rfl (qs Rt rfl (AQ (by kernel_rfl) (Ab (Aa Ac rfl (qm rfl (NN rfl (ql MA rfl (qm rfl (NN rfl (ql MA rfl (Hs rfl (by decide) ?_)))))))))))))))))))))))))))))))))))))))
 refine Te rfl (NN rfl (qs Rt rfl (AQ (by kernel_rfl) (Ab (Aa Ac rfl (qm rfl (NN rfl (ql MA rfl (qa rfl (Ad ?_))))))))))
 obtain rfl := sj h
 refine Ak (sm [] [(2, pD (.val (.int .u64 ((FZ .u64 ((FZ .u64 ((FZ .u64 p0 ((Cc .u64 p0 13)))) ((D3 .u64 ((FZ .u64 p0 ((Cc .u64 p0 13)))) 7)))) ((Cc .u64 ((FZ .u64 ((FZ .u64 p0 ((Cc .u64 p0 13)))) ((D3 .u64 ((FZ .u64 p0 ((Cc .u64 p0 13)))) 7)))) 17)))))))] [(90000, .box [.pure (.val (.int .u64 ((FZ .u64 ((FZ .u64 ((FZ .u64 p0 ((Cc .u64 p0 13)))) ((D3 .u64 ((FZ .u64 p0 ((Cc .u64 p0 13)))) 7)))) ((Cc .u64 ((FZ .u64 ((FZ .u64 p0 ((Cc .u64 p0 13)))) ((D3 .u64 ((FZ .u64 p0 ((Cc .u64 p0 13)))) 7)))) 17))))))])] rfl rfl) (Az ?_)
 exact ⟨⟨[_], ⟨.tmp _ _ rfl, tv⟩, rfl⟩, ⟨rfl, tv⟩, tv⟩
theorem FN (N : Nat) (p0 : List Ae) (p1 : Int) (p2 : Int) (p3 : (Ae × Ae) → Option Int) (r : (List Ae)) (h : Gs.breakPatterns N p0 p1 p2 p3 = some r) : BG Tryz.prog 83 [oD (.own 90000), iD p1, iD p2, oD (.clo (BT (Ek true Af true Af) CA p3))] [(.vec 3 (p0.map Af), .vec 3 (r.map Af))] [] (.tup []) := by
 unfold Gs.breakPatterns at h
 refine Bw (n := 67) (rs := []) Tryz.func83 rfl rfl rfl (A4 rfl) (A4 rfl) rfl rfl (A4 rfl) rfl (A4 rfl) fun w0 S0 GL => Nz ?_
 refine Ak (sm [] [(0, oD (.own 90000)), (1, iD p1), (2, iD p2), (3, oD (.clo (BT (Ek true Af true Af) CA p3)))] [(90000, .vec 3 (p0.map Af))] rfl rfl) (Ab (Aa Ac rfl (qm rfl (qm rfl (Cz rfl (qa rfl (Ad (Ab (Aa Ac rfl (qm rfl (Df rfl (Ad ?_))))))))))))
 refine An rfl (fun c1 => ?_) (fun c1 => ?_)
 ·have h := Am c1 h
  refine Ab (Aa Ac rfl (qm rfl (Gz VT W5 rfl (qz WC rfl (qs Rt rfl (Ad (Ab (Aa Ac rfl (qm rfl ?_)))))))))
  obtain ⟨v2, a2, h⟩ := bind_some h
  refine AH [] (IA N ((wI .i64 (p2 - p1))) v2 a2) Xq rfl (qa rfl (Ad (Ab (Aa Ac rfl (qm rfl (qm rfl (MU rfl (by decide) (Ie rfl (AX rfl (Cz rfl (qa rfl (Ad ?_))))))))))))
  refine AM (L := Gs.breakPatterns_L3 N p1 p2 v2) h (fun v3 => mk [(0, oD (.own 90000)), (1, iD p1), (8, iD ((wI .i64 (p2 - p1)))), (9, oD (.ptr 9 0)), (10, pD (.val (.int .u64 v2))), (11, iD v3.2.2)] [(9, .box [.pure (.val (.int .u64 v3.2.1))]), (90000, .vec 3 (v3.1.map Af))]) (fun v4 => mk [] [(90000, .vec 3 (v4.map Af))]) (fun _ _ => rfl) (sm [] _ _ rfl rfl) (fun j3 n3 v3 h => ?_) (fun v4 s h hs => ?_)
  ·unfold Gs.breakPatterns_L3 at h
   refine Ab (Ab (Aa Ac rfl (qm rfl (qm rfl (qm rfl (MU rfl (by decide) (Ie rfl (AX rfl (AX rfl (KH rfl (Ad ?_)))))))))))
   refine An rfl (fun c5 => ?_) (fun c5 => ?_)
   ·have h := Am c5 h
    refine Ap (Ab (AR (Ab (Aa Ac rfl ?_))))
    obtain ⟨v6, a6, h⟩ := bind_some h
    refine CZ (ds0 := [_]) [9] [] [true] (IS N v3.2.1 v6 a6) (.p rfl) Wd rfl ⟨rfl, tv⟩ rfl rfl (by decide) ⟨rfl, tv⟩ rfl (Bm rfl) tv ⟨(fun h => by cases h), tv⟩ rfl rfl rfl ?_
    refine qm rfl (Cz rfl (Ky rfl (Gz P6 R7 rfl (qa rfl (Ad ?_)))))
    refine AT h (fun v7 => mk [(0, oD (.own 90000)), (1, iD p1), (8, iD ((wI .i64 (p2 - p1)))), (9, oD (.ptr 9 0)), (10, pD (.val (.int .u64 v2))), (11, iD v3.2.2), (12, iD v7)] [(9, .box [.pure (.val (.int .u64 v6.2))]), (90000, .vec 3 (v3.1.map Af))]) (fun j7 h => ?_) (fun v7 h => ?_)
    ·refine Ab (Aa Ac rfl (qm rfl (qm rfl (Df rfl (Ad ?_)))))
     refine An rfl (fun c8 => ?_) (fun c8 => ?_)
     ·have h := Am c8 h
      refine Aa Ac rfl (qm rfl (qm rfl (Cz rfl (qa rfl (Ad ?_)))))
      exact Aw _ h (sm [] _ _ rfl rfl)
     ·have h := Al c8 h
      refine Ap ?_
      exact Aw _ h (sm [] _ _ rfl rfl)
    ·refine Aa Ac rfl (qm rfl (qm rfl (qm rfl (qm rfl (qm rfl (AX rfl (qm rfl (qm rfl (qm rfl (AX rfl ?_))))))))))
     obtain ⟨v9, a9, b9, h⟩ := Aj h
     refine qI AN Ay a9 (Ag b9) rfl (qJ A1 Ay (Ag b9) rfl (qm rfl (qm rfl ?_)))
     obtain ⟨v10, a10, b10, h⟩ := Aj h
     refine qI AN Ay a10 (Ag b10) rfl (qJ A1 Ay (Ag b10) rfl ?_)
     obtain ⟨v11, a11, b11, h⟩ := Aj h
     refine qI AN Ay a11 (Ag b11) rfl ?_
     refine Ba rfl rfl rfl rfl (Ag b11) rfl Ay rfl (A4 rfl) (A9 Af v3.1 _ v9) ?_
     obtain ⟨v12, a12, b12, h⟩ := Aj h
     refine qI AN Ay a12 (Ag b12) rfl ?_
     refine Ba rfl rfl rfl rfl (Ag b12) rfl Ay rfl (A4 rfl) (A9 Af (v3.1.set ((v3.2.2).toNat) v9) _ v10) ?_
     refine AQ (by kernel_rfl) (Aa Ac rfl (qm rfl (AX rfl (qa rfl (Ad ?_)))))
     exact Aw _ h (sm [] _ _ rfl rfl)
   ·have h := Al c5 h
    refine AY ?_
    exact Aw _ h (sm [] _ _ rfl rfl)
  ·obtain rfl := sj h
   refine ⟨_, hs.trans (sm [] [] [(90000, .vec 3 (v4.map Af))] rfl rfl), ?_⟩
   exact ⟨⟨[], tv, rfl⟩, ⟨rfl, tv⟩, tv⟩
 ·have h := Al c1 h
  refine Ap ?_
  obtain rfl := sj h
  refine ⟨_, (sm [] [] [(90000, .vec 3 (p0.map Af))] rfl rfl), ?_⟩
  exact ⟨⟨[], tv, rfl⟩, ⟨rfl, tv⟩, tv⟩
theorem D0 (N : Nat) (p0 : List Ae) (p1 : Int) (p2 : Int) (p3 : Int) (p4 : (Ae × Ae) → Option Int) (r : Int × Int × Int) (h : Gs.order2 N p0 p1 p2 p3 p4 = some r) : BG Tryz.prog 119 [pD (.sl (p0.map Af)), iD p1, iD p2, oD (.ptr 90000 0), oD (.clo (BT (Ek true Af true Af) CA p4))] [(.box [iC p3], .box [iC r.2.2])] [] (.tup [.one (iC r.1), .one (iC r.2.1)]) := by
 unfold Gs.order2 at h
 refine Bw (n := 32) (rs := [.tmp 10, .tmp 11]) Tryz.func119 rfl rfl rfl (A4 rfl) (A4 rfl) rfl rfl (A4 rfl) rfl (A4 rfl) fun w0 S0 GL => ?_
 refine Ak (sm [] [(0, pD (.sl (p0.map Af))), (1, iD p1), (2, iD p2), (3, oD (.ptr 90000 0)), (4, oD (.clo (BT (Ek true Af true Af) CA p4)))] [(90000, .box [iC p3])] rfl rfl) (Ab (Aa Ac rfl (qa rfl (qa rfl (Ad (Ab (Ab (Aa Ac rfl (qm rfl (qm rfl (qm rfl ?_)))))))))))
 obtain ⟨v1, a1, b1, h⟩ := Aj h
 refine qi AN Ay a1 (Ag b1) rfl (qK A1 Ay rfl (qm rfl (qm rfl ?_)))
 obtain ⟨v2, a2, b2, h⟩ := Aj h
 refine qi AN Ay a2 (Ag b2) rfl (qK A1 Ay rfl ?_)
 obtain ⟨v3, a3, h⟩ := bind_some h
 refine Em (ds0 := [_, _]) (ar := (Ek true Af true Af) ((v1, v2))) (.p rfl) rfl rfl ⟨rfl, rfl, tv⟩ rfl rfl rfl (En (E3 _ _ _ _ Bt Bt) a3) ?_
 refine A0 rfl (AQ (by kernel_rfl) ?_)
 refine An rfl (fun c4 => ?_) (fun c4 => ?_)
 ·have h := Am c4 h
  refine Ab (Aa Ac rfl (qm rfl (NN rfl (ql Cg rfl (AX rfl (NN rfl (qs Dh rfl (Ad (Ab (Aa Ac rfl (qm rfl (qm rfl (qa rfl (qa rfl (Ad ?_)))))))))))))))
  obtain rfl := sj h
  refine Ak (sm [] [(10, iD p2), (11, iD p1)] [(90000, .box [iC ((wI .i64 (p3 + 1)))])] rfl rfl) (Az ?_)
  exact ⟨⟨[_, _], ⟨.tmp _ _ rfl, ⟨.tmp _ _ rfl, tv⟩⟩, rfl⟩, ⟨rfl, tv⟩, tv⟩
 ·have h := Al c4 h
  refine Ap (Ab (Aa Ac rfl (qm rfl (qm rfl (qa rfl (qa rfl (Ad ?_)))))))
  obtain rfl := sj h
  refine Ak (sm [] [(10, iD p1), (11, iD p2)] [(90000, .box [iC p3])] rfl rfl) (Az ?_)
  exact ⟨⟨[_, _], ⟨.tmp _ _ rfl, ⟨.tmp _ _ rfl, tv⟩⟩, rfl⟩, ⟨rfl, tv⟩, tv⟩
theorem E4 (N : Nat) (p0 : List Ae) (p1 : Int) (p2 : Int) (p3 : Int) (p4 : Int) (p5 : (Ae × Ae) → Option Int) (r : Int × Int) (h : Gs.median N p0 p1 p2 p3 p4 p5 = some r) : BG Tryz.prog 109 [pD (.sl (p0.map Af)), iD p1, iD p2, iD p3, oD (.ptr 90000 0), oD (.clo (BT (Ek true Af true Af) CA p5))] [(.box [iC p4], .box [iC r.2])] [] (iD r.1) := by
 unfold Gs.median at h
 refine Bw (n := 41) (rs := [.tmp 12]) Tryz.func109 rfl rfl rfl (A4 rfl) (A4 rfl) rfl rfl (A4 rfl) rfl (A4 rfl) fun w0 S0 GL => ?_
 refine Ak (sm [] [(0, pD (.sl (p0.map Af))), (1, iD p1), (2, iD p2), (3, iD p3), (4, oD (.ptr 90000 0)), (5, oD (.clo (BT (Ek true Af true Af) CA p5)))] [(90000, .box [iC p4])] rfl rfl) (Ab (Aa Ac rfl (qa rfl (Ad (Ab (Aa Ac rfl (qm rfl (qm rfl (qm rfl (qm rfl (qm rfl ?_)))))))))))
 obtain ⟨v1, a1, h⟩ := bind_some h
 refine CZ (ds0 := [_, _, _, _, _]) [90000] [] [true] (D0 N p0 p1 p2 p4 p5 v1 a1) (.p rfl) Tw rfl ⟨rfl, rfl, rfl, rfl, rfl, tv⟩ rfl rfl (by decide) ⟨rfl, tv⟩ rfl (Bm rfl) tv ⟨(fun h => by cases h), tv⟩ rfl rfl rfl ?_
 refine qm rfl (qx rfl (qx rfl (qa rfl (qa rfl (Ad (Ab (Aa Ac rfl (qm rfl (qm rfl (qm rfl (qm rfl (qm rfl ?_))))))))))))
 obtain ⟨v2, a2, h⟩ := bind_some h
 refine CZ (ds0 := [_, _, _, _, _]) [90000] [] [true] (D0 N p0 v1.2.1 p3 v1.2.2 p5 v2 a2) (.p rfl) Tw rfl ⟨rfl, rfl, rfl, rfl, rfl, tv⟩ rfl rfl (by decide) ⟨rfl, tv⟩ rfl (Bm rfl) tv ⟨(fun h => by cases h), tv⟩ rfl rfl rfl ?_
 refine qm rfl (qx rfl (qx rfl (qa rfl (qa rfl (Ad (Ab (Aa Ac rfl (qm rfl (qm rfl (qm rfl (qm rfl (qm rfl ?_))))))))))))
 obtain ⟨v3, a3, h⟩ := bind_some h
 refine CZ (ds0 := [_, _, _, _, _]) [90000] [] [true] (D0 N p0 v1.1 v2.1 v2.2.2 p5 v3 a3) (.p rfl) Tw rfl ⟨rfl, rfl, rfl, rfl, rfl, tv⟩ rfl rfl (by decide) ⟨rfl, tv⟩ rfl (Bm rfl) tv ⟨(fun h => by cases h), tv⟩ rfl rfl rfl ?_
 refine qm rfl (qx rfl (qx rfl (qa rfl (qa rfl (Ad (Ab (Aa Ac rfl (qm rfl (qa rfl (Ad ?_))))))))))
 obtain rfl := sj h
 refine Ak (sm [] [(12, iD v3.2.1)] [(90000, .box [iC v3.2.2])] rfl rfl) (Az ?_)
 exact ⟨⟨[_], ⟨.tmp _ _ rfl, tv⟩, rfl⟩, ⟨rfl, tv⟩, tv⟩
theorem CN (N : Nat) (p0 : List Ae) (p1 : Int) (p2 : Int) (p3 : (Ae × Ae) → Option Int) (r : Int × Int) (h : Gs.medianAdjacent N p0 p1 p2 p3 = some r) : BG Tryz.prog 108 [pD (.sl (p0.map Af)), iD p1, oD (.ptr 90000 0), oD (.clo (BT (Ek true Af true Af) CA p3))] [(.box [iC p2], .box [iC r.2])] [] (iD r.1) := by
 unfold Gs.medianAdjacent at h
 refine Bw (n := 18) (rs := [.tmp 8]) Tryz.func108 rfl rfl rfl (A4 rfl) (A4 rfl) rfl rfl (A4 rfl) rfl (A4 rfl) fun w0 S0 GL => ?_
 refine Ak (sm [] [(0, pD (.sl (p0.map Af))), (1, iD p1), (2, oD (.ptr 90000 0)), (3, oD (.clo (BT (Ek true Af true Af) CA p3)))] [(90000, .box [iC p2])] rfl rfl) (Ab (Aa Ac rfl (qa rfl (Ad (Ab (Aa Ac rfl (qm rfl (qm rfl (Cz rfl (qm rfl (qm rfl (AX rfl (qm rfl (qm rfl ?_))))))))))))))
 obtain ⟨v1, a1, h⟩ := bind_some h
 refine CZ (ds0 := [_, _, _, _, _, _]) [90000] [] [true] (E4 N p0 ((wI .i64 (p1 - 1))) p1 ((wI .i64 (p1 + 1))) p2 p3 v1 a1) (.p rfl) U3 rfl ⟨rfl, rfl, rfl, rfl, rfl, rfl, tv⟩ rfl rfl (by decide) ⟨rfl, tv⟩ rfl (Bm rfl) tv ⟨(fun h => by cases h), tv⟩ rfl rfl rfl ?_
 refine qa rfl (Ad ?_)
 obtain rfl := sj h
 refine Ak (sm [] [(8, iD v1.1)] [(90000, .box [iC v1.2])] rfl rfl) (Az ?_)
 exact ⟨⟨[_], ⟨.tmp _ _ rfl, tv⟩, rfl⟩, ⟨rfl, tv⟩, tv⟩
theorem F2 (N : Nat) (p0 : List Ae) (p1 : Int) (p2 : Int) (p3 : (Ae × Ae) → Option Int) (r : Int × Int) (h : Gs.choosePivot N p0 p1 p2 p3 = some r) : AB Tryz.prog 84 [pD (.sl (p0.map Af)), iD p1, iD p2, oD (.clo (BT (Ek true Af true Af) CA p3))] [] (.tup [.one (iC r.1), .one (iC r.2)]) := by
 unfold Gs.choosePivot at h
 refine Ar (n := 63) (rs := [.tmp 8, .tmp 9]) Tryz.func84 rfl rfl rfl (A4 rfl) (A4 rfl) rfl fun w0 S0 => ?_
 refine Ab (Aa Ac rfl (qa rfl (qa rfl (Ad (Ab (Aa Ac rfl (qm rfl (qm rfl (Cz rfl (qa rfl (Ad (Ab (Aa Ac rfl (qz Km rfl (Ad (Ab (Aa Ac rfl (qm rfl (qm rfl (MU rfl (by decide) (Ie rfl (AX rfl (qa rfl (Ad (Ab (Aa Ac rfl (qm rfl (qm rfl (MU rfl (by decide) (Ie rfl (AX rfl (qa rfl (Ad (Ab (Aa Ac rfl (qm rfl (qm rfl (MU rfl (by decide) (Ie rfl ?_)))))))))))))))))))))))))))))))))))))))
 refine AX rfl (qa rfl (Ad ?_))
 refine AT h (fun v1 => mk [(11, oD (.ptr 11 0)), (13, iD v1.2)] [(11, .box [iC v1.1])]) (fun j1 h => ?_) (fun v1 h => ?_)
 ·refine Ab (Aa Ac rfl (qm rfl (Df rfl (Ad ?_))))
  refine An rfl (fun c2 => ?_) (fun c2 => ?_)
  ·have h := Am c2 h
   refine AT h (fun v3 => mk [(0, pD (.sl (p0.map Af))), (3, oD (.clo (BT (Ek true Af true Af) CA p3))), (11, oD (.ptr 11 0)), (12, iD v3.2.1), (13, iD v3.2.2.1), (14, iD v3.2.2.2)] [(11, .box [iC v3.1])]) (fun j3 h => ?_) (fun v3 h => ?_)
   ·refine Ab (Aa Ac rfl (qm rfl (Df rfl (Ad ?_))))
    refine An rfl (fun c4 => ?_) (fun c4 => ?_)
    ·have h := Am c4 h
     refine Ab (Aa Ac rfl (qm rfl (qm rfl (qm rfl ?_))))
     obtain ⟨v5, a5, h⟩ := bind_some h
     refine CZ (ds0 := [_, _, _, _]) [11] [] [true] (CN N p0 ((wI .i64 (p1 + (wI .i64 ((wI .i64 (Int.tdiv ((wI .i64 (p2 - p1))) 4)) * 1))))) 0 p3 v5 a5) (.p rfl) Tj rfl ⟨rfl, rfl, rfl, rfl, tv⟩ rfl rfl (by decide) ⟨rfl, tv⟩ rfl (Bm rfl) tv ⟨(fun h => by cases h), tv⟩ rfl rfl rfl ?_
     refine qa rfl (Ad (Ab (Aa Ac rfl (qm rfl (qm rfl (qm rfl ?_))))))
     obtain ⟨v6, a6, h⟩ := bind_some h
     refine CZ (ds0 := [_, _, _, _]) [11] [] [true] (CN N p0 ((wI .i64 (p1 + (wI .i64 ((wI .i64 (Int.tdiv ((wI .i64 (p2 - p1))) 4)) * 2))))) v5.2 p3 v6 a6) (.p rfl) Tj rfl ⟨rfl, rfl, rfl, rfl, tv⟩ rfl rfl (by decide) ⟨rfl, tv⟩ rfl (Bm rfl) tv ⟨(fun h => by cases h), tv⟩ rfl rfl rfl ?_
     refine qa rfl (Ad (Aa Ac rfl (qm rfl (qm rfl (qm rfl ?_)))))
     obtain ⟨v7, a7, h⟩ := bind_some h
     refine CZ (ds0 := [_, _, _, _]) [11] [] [true] (CN N p0 ((wI .i64 (p1 + (wI .i64 ((wI .i64 (Int.tdiv ((wI .i64 (p2 - p1))) 4)) * 3))))) v6.2 p3 v7 a7) (.p rfl) Tj rfl ⟨rfl, rfl, rfl, rfl, tv⟩ rfl rfl (by decide) ⟨rfl, tv⟩ rfl (Bm rfl) tv ⟨(fun h => by cases h), tv⟩ rfl rfl rfl ?_
     refine qa rfl (Ad ?_)
     exact Aw _ h (sm [] _ _ rfl rfl)
    ·have h := Al c4 h
     refine Ap ?_
     exact Aw _ h (sm [] _ _ rfl rfl)
   ·refine Aa Ac rfl (qm rfl (qm rfl (qm rfl (qm rfl (qm rfl ?_)))))
    obtain ⟨v8, a8, h⟩ := bind_some h
    refine CZ (ds0 := [_, _, _, _, _, _]) [11] [] [true] (E4 N p0 v3.2.1 v3.2.2.1 v3.2.2.2 v3.1 p3 v8 a8) (.p rfl) U3 rfl ⟨rfl, rfl, rfl, rfl, rfl, rfl, tv⟩ rfl rfl (by decide) ⟨rfl, tv⟩ rfl (Bm rfl) tv ⟨(fun h => by cases h), tv⟩ rfl rfl rfl ?_
    refine qa rfl (Ad ?_)
    exact Aw _ h (sm [] _ _ rfl rfl)
  ·have h := Al c2 h
   refine Ap ?_
   exact Aw _ h (sm [] _ _ rfl rfl)
 ·refine Ab (Aa Ac rfl (ql Cg rfl (Ad (AR (Ab (Aa Ac rfl (BE rfl (qa rfl (Ad ?_)))))))))
  refine An rfl (fun c9 => ?_) (fun c9 => ?_)
  ·have h := Am c9 h
   refine Ab (Aa Ac rfl (qm rfl (qa rfl (qa rfl (Ad ?_)))))
   obtain rfl := sj h
   refine Ak (sm [] [(8, iD v1.2), (9, iD 1)] [] rfl rfl) (Az ?_)
   exact ⟨⟨[_, _], ⟨.tmp _ _ rfl, ⟨.tmp _ _ rfl, tv⟩⟩, rfl⟩, tv⟩
  ·have h := Al c9 h
   refine Ab (Aa Ac rfl (BE rfl (qa rfl (Ad ?_))))
   refine An rfl (fun c10 => ?_) (fun c10 => ?_)
   ·have h := Am c10 h
    refine Ab (Aa Ac rfl (qm rfl (qa rfl (qa rfl (Ad ?_)))))
    obtain rfl := sj h
    refine Ak (sm [] [(8, iD v1.2), (9, iD 2)] [] rfl rfl) (Az ?_)
    exact ⟨⟨[_, _], ⟨.tmp _ _ rfl, ⟨.tmp _ _ rfl, tv⟩⟩, rfl⟩, tv⟩
   ·have h := Al c10 h
    refine Ab (Aa Ac rfl (qm rfl (qa rfl (qa rfl (Ad ?_)))))
    obtain rfl := sj h
    refine Ak (sm [] [(8, iD v1.2), (9, iD 0)] [] rfl rfl) (Az ?_)
    exact ⟨⟨[_, _], ⟨.tmp _ _ rfl, ⟨.tmp _ _ rfl, tv⟩⟩, rfl⟩, tv⟩
theorem FT (N : Nat) (p0 : List Ae) (p1 : Int) (p2 : Int) (p3 : (Ae × Ae) → Option Int) (r : (List Ae)) (h : Gs.reverseRange N p0 p1 p2 p3 = some r) : BG Tryz.prog 85 [oD (.own 90000), iD p1, iD p2, oD (.clo (BT (Ek true Af true Af) CA p3))] [(.vec 3 (p0.map Af), .vec 3 (r.map Af))] [] (.tup []) := by
 unfold Gs.reverseRange at h
 refine Bw (n := 34) (rs := []) Tryz.func85 rfl rfl rfl (A4 rfl) (A4 rfl) rfl rfl (A4 rfl) rfl (A4 rfl) fun w0 S0 GL => Nz ?_
 refine Ak (sm [] [(0, oD (.own 90000)), (1, iD p1), (2, iD p2), (3, oD (.clo (BT (Ek true Af true Af) CA p3)))] [(90000, .vec 3 (p0.map Af))] rfl rfl) (Ab (Aa Ac rfl (qm rfl (qa rfl (Ad (Ab (Aa Ac rfl (qm rfl (Cz rfl (qa rfl (Ad ?_)))))))))))
 refine AM (L := Gs.reverseRange_L1 N) h (fun v1 => mk [(0, oD (.own 90000)), (8, iD v1.2.1), (9, iD v1.2.2)] [(90000, .vec 3 (v1.1.map Af))]) (fun v2 => mk [] [(90000, .vec 3 (v2.map Af))]) (fun _ _ => rfl) (sm [] _ _ rfl rfl) (fun j1 n1 v1 h => ?_) (fun v2 s h hs => ?_)
 ·unfold Gs.reverseRange_L1 at h
  refine Ab (Ab (Aa Ac rfl (qm rfl (qm rfl (A0 rfl (Ad ?_))))))
  refine An rfl (fun c3 => ?_) (fun c3 => ?_)
  ·have h := Am c3 h
   refine Ap (AR (Ab (Aa Ac rfl (qm rfl (qm rfl (qm rfl (qm rfl (qm rfl (qm rfl ?_)))))))))
   obtain ⟨v4, a4, b4, h⟩ := Aj h
   refine qI AN Ay a4 (Ag b4) rfl (qJ A1 Ay (Ag b4) rfl (qm rfl (qm rfl ?_)))
   obtain ⟨v5, a5, b5, h⟩ := Aj h
   refine qI AN Ay a5 (Ag b5) rfl (qJ A1 Ay (Ag b5) rfl ?_)
   obtain ⟨v6, a6, b6, h⟩ := Aj h
   refine qI AN Ay a6 (Ag b6) rfl ?_
   refine Ba rfl rfl rfl rfl (Ag b6) rfl Ay rfl (A4 rfl) (A9 Af v1.1 _ v4) ?_
   obtain ⟨v7, a7, b7, h⟩ := Aj h
   refine qI AN Ay a7 (Ag b7) rfl ?_
   refine Ba rfl rfl rfl rfl (Ag b7) rfl Ay rfl (A4 rfl) (A9 Af (v1.1.set ((v1.2.1).toNat) v4) _ v5) ?_
   refine AQ (by kernel_rfl) (Ab (Aa Ac rfl (qm rfl (AX rfl (qa rfl (Ad (Aa Ac rfl (qm rfl (Cz rfl (qa rfl (Ad ?_)))))))))))
   exact Aw _ h (sm [] _ _ rfl rfl)
  ·have h := Al c3 h
   refine AY ?_
   exact Aw _ h (sm [] _ _ rfl rfl)
 ·obtain rfl := sj h
  refine ⟨_, hs.trans (sm [] [] [(90000, .vec 3 (v2.map Af))] rfl rfl), ?_⟩
  exact ⟨⟨[], tv, rfl⟩, ⟨rfl, tv⟩, tv⟩
theorem E8 (N : Nat) (p0 : List Ae) (p1 : Int) (p2 : Int) (p3 : (Ae × Ae) → Option Int) (r : Bool × (List Ae)) (h : Gs.partialInsertionSort N p0 p1 p2 p3 = some r) : BG Tryz.prog 86 [oD (.own 90000), iD p1, iD p2, oD (.clo (BT (Ek true Af true Af) CA p3))] [(.vec 3 (p0.map Af), .vec 3 (r.2.map Af))] [] (bD r.1) := by
 unfold Gs.partialInsertionSort at h
 refine Bw (n := 141) (rs := [.tmp 8]) Tryz.func86 rfl rfl rfl (A4 rfl) (A4 rfl) rfl rfl (A4 rfl) rfl (A4 rfl) fun w0 S0 GL => ?_
 refine Ak (sm [] [(0, oD (.own 90000)), (1, iD p1), (2, iD p2), (3, oD (.clo (BT (Ek true Af true Af) CA p3)))] [(90000, .vec 3 (p0.map Af))] rfl rfl) (Ab (Aa Ac rfl (qa rfl (Ad (Ab (Aa Ac rfl (qm rfl (AX rfl (qa rfl (Ad (Ab (Ab (Aa Ac rfl (qa rfl (Ad ?_)))))))))))))))
 refine AM (L := Gs.partialInsertionSort_L1 N p1 p2 p3) h (fun v1 => mk [(0, oD (.own 90000)), (1, iD p1), (2, iD p2), (3, oD (.clo (BT (Ek true Af true Af) CA p3))), (9, iD v1.2.1), (10, iD v1.2.2)] [(90000, .vec 3 (v1.1.map Af))]) (fun v2 => mk [] [(90000, .vec 3 (v2.map Af))]) (fun _ _ => rfl) (sm [] _ _ rfl rfl) (fun j1 n1 v1 h => ?_) (fun v2 s h hs => ?_)
 ·unfold Gs.partialInsertionSort_L1 at h
  refine Ab (Ab (Aa Ac rfl (qm rfl (A0 rfl (Ad ?_)))))
  refine An rfl (fun c3 => ?_) (fun c3 => ?_)
  ·have h := Am c3 h
   refine Ap ?_
   refine AT h (fun v4 => mk [(0, oD (.own 90000)), (1, iD p1), (2, iD p2), (3, oD (.clo (BT (Ek true Af true Af) CA p3))), (9, iD v4.2), (10, iD v1.2.2)] [(90000, .vec 3 (v4.1.map Af))]) (fun j4 h => ?_) (fun v4 h => ?_)
   ·refine AR (Ab ?_)
    refine AM (L := Gs.partialInsertionSort_L5 N p2 p3 v1) h (fun v5 => mk [(0, oD (.own 90000)), (1, iD p1), (2, iD p2), (3, oD (.clo (BT (Ek true Af true Af) CA p3))), (9, iD v5), (10, iD v1.2.2)] [(90000, .vec 3 (v1.1.map Af))]) (fun v6 => mk [(0, oD (.own 90000)), (1, iD p1), (2, iD p2), (3, oD (.clo (BT (Ek true Af true Af) CA p3))), (9, iD v6), (10, iD v1.2.2)] [(90000, .vec 3 (v1.1.map Af))]) (fun _ _ => rfl) (sm [] _ _ rfl rfl) (fun j5 n5 v5 h => ?_) (fun v6 s h hs => ?_)
    ·unfold Gs.partialInsertionSort_L5 at h
     refine Ab ?_
     refine AT h (fun v7 => mk [(0, oD (.own 90000)), (1, iD p1), (2, iD p2), (3, oD (.clo (BT (Ek true Af true Af) CA p3))), (9, iD v5), (10, iD v1.2.2), (36, bD v7)] [(90000, .vec 3 (v1.1.map Af))]) (fun j7 h => ?_) (fun v7 h => ?_)
     ·refine Aa Ac rfl (qm rfl (qm rfl (A0 rfl (qm rfl ?_))))
      refine AF (t := 22) rfl (fun c8 => ?_) (fun c8 => ?_)
      ·have h := Am c8 h
       refine qm rfl (qm rfl (qm rfl ?_))
       obtain ⟨v9, a9, b9, h⟩ := Aj h
       refine qI AN Ay a9 (Ag b9) rfl (qJ A1 Ay (Ag b9) rfl (qm rfl (qm rfl (Cz rfl ?_))))
       obtain ⟨v10, a10, b10, h⟩ := Aj h
       refine qI AN Ay a10 (Ag b10) rfl (qJ A1 Ay (Ag b10) rfl ?_)
       obtain ⟨v11, a11, h⟩ := bind_some h
       refine Em (ds0 := [_, _]) (ar := (Ek true Af true Af) ((v9, v10))) (.g rfl rfl) rfl rfl ⟨rfl, rfl, tv⟩ rfl rfl rfl (En (E3 _ _ _ _ Bt Bt) a11) ?_
       refine A0 rfl (Cd rfl (qp rfl (AQ (by kernel_rfl) ?_)))
       exact Aw _ h (sm [] _ _ rfl rfl)
      ·have h := Al c8 h
       refine qn rfl (qn rfl (qn rfl (qn rfl (qn rfl (qn rfl (qn rfl (qn rfl (qn rfl (qn rfl (qn rfl (qn rfl (qn rfl (qp rfl (AQ (by kernel_rfl) ?_))))))))))))))
       exact Aw _ h (sm [] _ _ rfl rfl)
     ·refine An rfl (fun c12 => ?_) (fun c12 => ?_)
      ·have h := Am c12 h
       refine Ap (AR (Aa Ac rfl (qm rfl (AX rfl (qa rfl (Ad ?_))))))
       exact Aw _ h (sm [] _ _ rfl rfl)
      ·have h := Al c12 h
       refine AY ?_
       exact Aw _ h (sm [] _ _ rfl rfl)
    ·refine Ak hs (Ab (Ab (Aa Ac rfl (qm rfl (qm rfl (BE rfl (Ad ?_)))))))
     refine An rfl (fun c13 => ?_) (fun c13 => ?_)
     ·have h := Am c13 h
      refine Ab (Aa Ac rfl (qa rfl (Ad ?_)))
      obtain rfl := sj h
      refine Ak (sm [] [(8, bD true)] [(90000, .vec 3 (v1.1.map Af))] rfl rfl) (Az ?_)
      exact ⟨⟨[_], ⟨.tmp _ _ rfl, tv⟩, rfl⟩, ⟨rfl, tv⟩, tv⟩
     ·have h := Al c13 h
      refine Ap (Ab (Ab (Aa Ac rfl (qm rfl (qm rfl (Cz rfl (A0 rfl (Ad ?_))))))))
      refine An rfl (fun c14 => ?_) (fun c14 => ?_)
      ·have h := Am c14 h
       refine Ab (Aa Ac rfl (qa rfl (Ad ?_)))
       obtain rfl := sj h
       refine Ak (sm [] [(8, bD false)] [(90000, .vec 3 (v1.1.map Af))] rfl rfl) (Az ?_)
       exact ⟨⟨[_], ⟨.tmp _ _ rfl, tv⟩, rfl⟩, ⟨rfl, tv⟩, tv⟩
      ·have h := Al c14 h
       refine Ap (Ab (Aa Ac rfl (qm rfl (qm rfl (qm rfl (qm rfl (Cz rfl (qm rfl (qm rfl (Cz rfl ?_))))))))))
       obtain ⟨v15, a15, b15, h⟩ := Aj h
       refine qI AN Ay a15 (Ag b15) rfl (qJ A1 Ay (Ag b15) rfl (qm rfl (qm rfl ?_)))
       obtain ⟨v16, a16, b16, h⟩ := Aj h
       refine qI AN Ay a16 (Ag b16) rfl (qJ A1 Ay (Ag b16) rfl ?_)
       obtain ⟨v17, a17, b17, h⟩ := Aj h
       refine qI AN Ay a17 (Ag b17) rfl ?_
       refine Ba rfl rfl rfl rfl (Ag b17) rfl Ay rfl (A4 rfl) (A9 Af v1.1 _ v15) ?_
       obtain ⟨v18, a18, b18, h⟩ := Aj h
       refine qI AN Ay a18 (Ag b18) rfl ?_
       refine Ba rfl rfl rfl rfl (Ag b18) rfl Ay rfl (A4 rfl) (A9 Af (v1.1.set ((v6).toNat) v15) _ v16) ?_
       refine AQ (by kernel_rfl) ?_
       refine AT h (fun v19 => mk [(0, oD (.own 90000)), (1, iD p1), (2, iD p2), (3, oD (.clo (BT (Ek true Af true Af) CA p3))), (9, iD v6), (10, iD v1.2.2)] [(90000, .vec 3 (v19.map Af))]) (fun j19 h => ?_) (fun v19 h => ?_)
       ·refine Ab (Aa Ac rfl (qm rfl (qm rfl (Cz rfl (Df rfl (Ad ?_))))))
        refine An rfl (fun c20 => ?_) (fun c20 => ?_)
        ·have h := Am c20 h
         refine Ab (Aa Ac rfl (qm rfl (Cz rfl (qa rfl (Ad ?_)))))
         refine AM (L := Gs.partialInsertionSort_L21 N p3) h (fun v21 => mk [(0, oD (.own 90000)), (1, iD p1), (2, iD p2), (3, oD (.clo (BT (Ek true Af true Af) CA p3))), (9, iD v6), (10, iD v1.2.2), (11, iD v21.2)] [(90000, .vec 3 (v21.1.map Af))]) (fun v22 => mk [(0, oD (.own 90000)), (1, iD p1), (2, iD p2), (3, oD (.clo (BT (Ek true Af true Af) CA p3))), (9, iD v6), (10, iD v1.2.2)] [(90000, .vec 3 (v22.map Af))]) (fun _ _ => rfl) (sm [] _ _ rfl rfl) (fun j21 n21 v21 h => ?_) (fun v22 s h hs => ?_)
         ·unfold Gs.partialInsertionSort_L21 at h
          refine Ab (Ab (Aa Ac rfl (qm rfl (Df rfl (Ad ?_)))))
          refine An rfl (fun c23 => ?_) (fun c23 => ?_)
          ·have h := Am c23 h
           refine Ap (Ab (AR (Ab (Ab (Aa Ac rfl (qm rfl (qm rfl (qm rfl ?_))))))))
           obtain ⟨v24, a24, b24, h⟩ := Aj h
           refine qI AN Ay a24 (Ag b24) rfl (qJ A1 Ay (Ag b24) rfl (qm rfl (qm rfl (Cz rfl ?_))))
           obtain ⟨v25, a25, b25, h⟩ := Aj h
           refine qI AN Ay a25 (Ag b25) rfl (qJ A1 Ay (Ag b25) rfl ?_)
           obtain ⟨v26, a26, h⟩ := bind_some h
           refine Em (ds0 := [_, _]) (ar := (Ek true Af true Af) ((v24, v25))) (.p rfl) rfl rfl ⟨rfl, rfl, tv⟩ rfl rfl rfl (En (E3 _ _ _ _ Bt Bt) a26) ?_
           refine A0 rfl (Cd rfl (AQ (by kernel_rfl) ?_))
           refine An rfl (fun c27 => ?_) (fun c27 => ?_)
           ·have h := Am c27 h
            refine AY ?_
            exact Aw _ h (sm [] _ _ rfl rfl)
           ·have h := Al c27 h
            refine Ap (Aa Ac rfl (qm rfl (qm rfl (qm rfl (qm rfl (Cz rfl (qm rfl (qm rfl (Cz rfl ?_)))))))))
            obtain ⟨v28, a28, b28, h⟩ := Aj h
            refine qI AN Ay a28 (Ag b28) rfl (qJ A1 Ay (Ag b28) rfl (qm rfl (qm rfl ?_)))
            obtain ⟨v29, a29, b29, h⟩ := Aj h
            refine qI AN Ay a29 (Ag b29) rfl (qJ A1 Ay (Ag b29) rfl ?_)
            obtain ⟨v30, a30, b30, h⟩ := Aj h
            refine qI AN Ay a30 (Ag b30) rfl ?_
            refine Ba rfl rfl rfl rfl (Ag b30) rfl Ay rfl (A4 rfl) (A9 Af v21.1 _ v28) ?_
            obtain ⟨v31, a31, b31, h⟩ := Aj h
            refine qI AN Ay a31 (Ag b31) rfl ?_
            refine Ba rfl rfl rfl rfl (Ag b31) rfl Ay rfl (A4 rfl) (A9 Af (v21.1.set ((v21.2).toNat) v28) _ v29) ?_
            refine AQ (by kernel_rfl) (Aa Ac rfl (qm rfl (Cz rfl (qa rfl (Ad ?_)))))
            exact Aw _ h (sm [] _ _ rfl rfl)
          ·have h := Al c23 h
           refine AY ?_
           exact Aw _ h (sm [] _ _ rfl rfl)
         ·exact Aw _ h (hs.trans (sm [] _ _ rfl rfl))
        ·have h := Al c20 h
         refine Ap ?_
         exact Aw _ h (sm [] _ _ rfl rfl)
       ·refine Ab (Aa Ac rfl (qm rfl (qm rfl (Cz rfl (Df rfl (Ad ?_))))))
        refine An rfl (fun c32 => ?_) (fun c32 => ?_)
        ·have h := Am c32 h
         refine Ab (Aa Ac rfl (qm rfl (AX rfl (qa rfl (Ad ?_)))))
         refine AM (L := Gs.partialInsertionSort_L33 N p2 p3) h (fun v33 => mk [(0, oD (.own 90000)), (1, iD p1), (2, iD p2), (3, oD (.clo (BT (Ek true Af true Af) CA p3))), (9, iD v6), (10, iD v1.2.2), (12, iD v33.2)] [(90000, .vec 3 (v33.1.map Af))]) (fun v34 => mk [(0, oD (.own 90000)), (1, iD p1), (2, iD p2), (3, oD (.clo (BT (Ek true Af true Af) CA p3))), (9, iD v6), (10, iD v1.2.2)] [(90000, .vec 3 (v34.map Af))]) (fun _ _ => rfl) (sm [] _ _ rfl rfl) (fun j33 n33 v33 h => ?_) (fun v34 s h hs => ?_)
         ·unfold Gs.partialInsertionSort_L33 at h
          refine Ab (Ab (Aa Ac rfl (qm rfl (qm rfl (A0 rfl (Ad ?_))))))
          refine An rfl (fun c35 => ?_) (fun c35 => ?_)
          ·have h := Am c35 h
           refine Ap (Ab (AR (Ab (Ab (Aa Ac rfl (qm rfl (qm rfl (qm rfl ?_))))))))
           obtain ⟨v36, a36, b36, h⟩ := Aj h
           refine qI AN Ay a36 (Ag b36) rfl (qJ A1 Ay (Ag b36) rfl (qm rfl (qm rfl (Cz rfl ?_))))
           obtain ⟨v37, a37, b37, h⟩ := Aj h
           refine qI AN Ay a37 (Ag b37) rfl (qJ A1 Ay (Ag b37) rfl ?_)
           obtain ⟨v38, a38, h⟩ := bind_some h
           refine Em (ds0 := [_, _]) (ar := (Ek true Af true Af) ((v36, v37))) (.p rfl) rfl rfl ⟨rfl, rfl, tv⟩ rfl rfl rfl (En (E3 _ _ _ _ Bt Bt) a38) ?_
           refine A0 rfl (Cd rfl (AQ (by kernel_rfl) ?_))
           refine An rfl (fun c39 => ?_) (fun c39 => ?_)
           ·have h := Am c39 h
            refine AY ?_
            exact Aw _ h (sm [] _ _ rfl rfl)
           ·have h := Al c39 h
            refine Ap (Aa Ac rfl (qm rfl (qm rfl (qm rfl (qm rfl (Cz rfl (qm rfl (qm rfl (Cz rfl ?_)))))))))
            obtain ⟨v40, a40, b40, h⟩ := Aj h
            refine qI AN Ay a40 (Ag b40) rfl (qJ A1 Ay (Ag b40) rfl (qm rfl (qm rfl ?_)))
            obtain ⟨v41, a41, b41, h⟩ := Aj h
            refine qI AN Ay a41 (Ag b41) rfl (qJ A1 Ay (Ag b41) rfl ?_)
            obtain ⟨v42, a42, b42, h⟩ := Aj h
            refine qI AN Ay a42 (Ag b42) rfl ?_
            refine Ba rfl rfl rfl rfl (Ag b42) rfl Ay rfl (A4 rfl) (A9 Af v33.1 _ v40) ?_
            obtain ⟨v43, a43, b43, h⟩ := Aj h
            refine qI AN Ay a43 (Ag b43) rfl ?_
            refine Ba rfl rfl rfl rfl (Ag b43) rfl Ay rfl (A4 rfl) (A9 Af (v33.1.set ((v33.2).toNat) v40) _ v41) ?_
            refine AQ (by kernel_rfl) (Aa Ac rfl (qm rfl (AX rfl (qa rfl (Ad ?_)))))
            exact Aw _ h (sm [] _ _ rfl rfl)
          ·have h := Al c35 h
           refine AY ?_
           exact Aw _ h (sm [] _ _ rfl rfl)
         ·exact Aw _ h (hs.trans (sm [] _ _ rfl rfl))
        ·have h := Al c32 h
         refine Ap ?_
         exact Aw _ h (sm [] _ _ rfl rfl)
   ·refine Aa Ac rfl (qm rfl (AX rfl (qa rfl (Ad ?_))))
    exact Aw _ h (sm [] _ _ rfl rfl)
  ·have h := Al c3 h
   refine AY ?_
   exact Aw _ h (sm [] _ _ rfl rfl)
 ·refine Ak hs (Ab (Aa Ac rfl (qa rfl (Ad ?_))))
  obtain rfl := sj h
  refine Ak (sm [] [(8, bD false)] [(90000, .vec 3 (v2.map Af))] rfl rfl) (Az ?_)
  exact ⟨⟨[_], ⟨.tmp _ _ rfl, tv⟩, rfl⟩, ⟨rfl, tv⟩, tv⟩
theorem FE (N : Nat) (p0 : List Ae) (p1 : Int) (p2 : Int) (p3 : Int) (p4 : (Ae × Ae) → Option Int) (r : Int × (List Ae)) (h : Gs.partitionEqual N p0 p1 p2 p3 p4 = some r) : BG Tryz.prog 87 [oD (.own 90000), iD p1, iD p2, iD p3, oD (.clo (BT (Ek true Af true Af) CA p4))] [(.vec 3 (p0.map Af), .vec 3 (r.2.map Af))] [] (iD r.1) := by
 unfold Gs.partitionEqual at h
 refine Bw (n := 90) (rs := [.tmp 10]) Tryz.func87 rfl rfl rfl (A4 rfl) (A4 rfl) rfl rfl (A4 rfl) rfl (A4 rfl) fun w0 S0 GL => ?_
 refine Ak (sm [] [(0, oD (.own 90000)), (1, iD p1), (2, iD p2), (3, iD p3), (4, oD (.clo (BT (Ek true Af true Af) CA p4)))] [(90000, .vec 3 (p0.map Af))] rfl rfl) (Ab (Aa Ac rfl (qa rfl (Ad (Ab (Aa Ac rfl (qm rfl (qm rfl (qm rfl (qm rfl (qm rfl (qm rfl ?_))))))))))))
 obtain ⟨v1, a1, b1, h⟩ := Aj h
 refine qI AN Ay a1 (Ag b1) rfl (qJ A1 Ay (Ag b1) rfl (qm rfl (qm rfl ?_)))
 obtain ⟨v2, a2, b2, h⟩ := Aj h
 refine qI AN Ay a2 (Ag b2) rfl (qJ A1 Ay (Ag b2) rfl ?_)
 obtain ⟨v3, a3, b3, h⟩ := Aj h
 refine qI AN Ay a3 (Ag b3) rfl ?_
 refine Ba rfl rfl rfl rfl (Ag b3) rfl Ay rfl (A4 rfl) (A9 Af p0 _ v1) ?_
 obtain ⟨v4, a4, b4, h⟩ := Aj h
 refine qI AN Ay a4 (Ag b4) rfl ?_
 refine Ba rfl rfl rfl rfl (Ag b4) rfl Ay rfl (A4 rfl) (A9 Af (p0.set ((p1).toNat) v1) _ v2) ?_
 refine AQ (by kernel_rfl) (Ab (Aa Ac rfl (qm rfl (AX rfl (qm rfl (Cz rfl (qa rfl (qa rfl (Ad (Ab ?_))))))))))
 refine AM (L := Gs.partitionEqual_L5 N p1 p4) h (fun v5 => mk [(0, oD (.own 90000)), (1, iD p1), (4, oD (.clo (BT (Ek true Af true Af) CA p4))), (11, iD v5.2.1), (12, iD v5.2.2)] [(90000, .vec 3 (v5.1.map Af))]) (fun v6 => mk [(11, iD v6.2)] [(90000, .vec 3 (v6.1.map Af))]) (fun _ _ => rfl) (sm [] _ _ rfl rfl) (fun j5 n5 v5 h => ?_) (fun v6 s h hs => ?_)
 ·unfold Gs.partitionEqual_L5 at h
  refine AR (Ab ?_)
  refine AM (L := Gs.partitionEqual_L7 N p1 p4 v5) h (fun v7 => mk [(0, oD (.own 90000)), (1, iD p1), (4, oD (.clo (BT (Ek true Af true Af) CA p4))), (11, iD v7), (12, iD v5.2.2)] [(90000, .vec 3 (v5.1.map Af))]) (fun v8 => mk [(0, oD (.own 90000)), (1, iD p1), (4, oD (.clo (BT (Ek true Af true Af) CA p4))), (11, iD v8), (12, iD v5.2.2)] [(90000, .vec 3 (v5.1.map Af))]) (fun _ _ => rfl) (sm [] _ _ rfl rfl) (fun j7 n7 v7 h => ?_) (fun v8 s h hs => ?_)
  ·unfold Gs.partitionEqual_L7 at h
   refine Ab ?_
   refine AT h (fun v9 => mk [(0, oD (.own 90000)), (1, iD p1), (4, oD (.clo (BT (Ek true Af true Af) CA p4))), (11, iD v7), (12, iD v5.2.2), (47, bD v9)] [(90000, .vec 3 (v5.1.map Af))]) (fun j9 h => ?_) (fun v9 h => ?_)
   ·refine Aa Ac rfl (qm rfl (qm rfl (KH rfl (qm rfl ?_))))
    refine AF (t := 34) rfl (fun c10 => ?_) (fun c10 => ?_)
    ·have h := Am c10 h
     refine qm rfl (qm rfl (qm rfl ?_))
     obtain ⟨v11, a11, b11, h⟩ := Aj h
     refine qI AN Ay a11 (Ag b11) rfl (qJ A1 Ay (Ag b11) rfl (qm rfl (qm rfl ?_)))
     obtain ⟨v12, a12, b12, h⟩ := Aj h
     refine qI AN Ay a12 (Ag b12) rfl (qJ A1 Ay (Ag b12) rfl ?_)
     obtain ⟨v13, a13, h⟩ := bind_some h
     refine Em (ds0 := [_, _]) (ar := (Ek true Af true Af) ((v11, v12))) (.g rfl rfl) rfl rfl ⟨rfl, rfl, tv⟩ rfl rfl rfl (En (E3 _ _ _ _ Bt Bt) a13) ?_
     refine A0 rfl (Cd rfl (qp rfl (AQ (by kernel_rfl) ?_)))
     exact Aw _ h (sm [] _ _ rfl rfl)
    ·have h := Al c10 h
     refine qn rfl (qn rfl (qn rfl (qn rfl (qn rfl (qn rfl (qn rfl (qn rfl (qn rfl (qn rfl (qn rfl (qn rfl (qp rfl (AQ (by kernel_rfl) ?_)))))))))))))
     exact Aw _ h (sm [] _ _ rfl rfl)
   ·refine An rfl (fun c14 => ?_) (fun c14 => ?_)
    ·have h := Am c14 h
     refine Ap (AR (Aa Ac rfl (qm rfl (AX rfl (qa rfl (Ad ?_))))))
     exact Aw _ h (sm [] _ _ rfl rfl)
    ·have h := Al c14 h
     refine AY ?_
     exact Aw _ h (sm [] _ _ rfl rfl)
  ·refine Ak hs (Ab ?_)
   refine AM (L := Gs.partitionEqual_L15 N p1 p4 v5 v8) h (fun v15 => mk [(0, oD (.own 90000)), (1, iD p1), (4, oD (.clo (BT (Ek true Af true Af) CA p4))), (11, iD v8), (12, iD v15)] [(90000, .vec 3 (v5.1.map Af))]) (fun v16 => mk [(0, oD (.own 90000)), (1, iD p1), (4, oD (.clo (BT (Ek true Af true Af) CA p4))), (11, iD v8), (12, iD v16)] [(90000, .vec 3 (v5.1.map Af))]) (fun _ _ => rfl) (sm [] _ _ rfl rfl) (fun j15 n15 v15 h => ?_) (fun v16 s h hs => ?_)
   ·unfold Gs.partitionEqual_L15 at h
    refine Ab ?_
    refine AT h (fun v17 => mk [(0, oD (.own 90000)), (1, iD p1), (4, oD (.clo (BT (Ek true Af true Af) CA p4))), (11, iD v8), (12, iD v15), (65, bD v17)] [(90000, .vec 3 (v5.1.map Af))]) (fun j17 h => ?_) (fun v17 h => ?_)
    ·refine Aa Ac rfl (qm rfl (qm rfl (KH rfl (qm rfl ?_))))
     refine AF (t := 53) rfl (fun c18 => ?_) (fun c18 => ?_)
     ·have h := Am c18 h
      refine qm rfl (qm rfl (qm rfl ?_))
      obtain ⟨v19, a19, b19, h⟩ := Aj h
      refine qI AN Ay a19 (Ag b19) rfl (qJ A1 Ay (Ag b19) rfl (qm rfl (qm rfl ?_)))
      obtain ⟨v20, a20, b20, h⟩ := Aj h
      refine qI AN Ay a20 (Ag b20) rfl (qJ A1 Ay (Ag b20) rfl ?_)
      obtain ⟨v21, a21, h⟩ := bind_some h
      refine Em (ds0 := [_, _]) (ar := (Ek true Af true Af) ((v19, v20))) (.g rfl rfl) rfl rfl ⟨rfl, rfl, tv⟩ rfl rfl rfl (En (E3 _ _ _ _ Bt Bt) a21) ?_
      refine A0 rfl (qp rfl (AQ (by kernel_rfl) ?_))
      exact Aw _ h (sm [] _ _ rfl rfl)
     ·have h := Al c18 h
      refine qn rfl (qn rfl (qn rfl (qn rfl (qn rfl (qn rfl (qn rfl (qn rfl (qn rfl (qn rfl (qn rfl (qp rfl (AQ (by kernel_rfl) ?_))))))))))))
      exact Aw _ h (sm [] _ _ rfl rfl)
    ·refine An rfl (fun c22 => ?_) (fun c22 => ?_)
     ·have h := Am c22 h
      refine Ap (AR (Aa Ac rfl (qm rfl (Cz rfl (qa rfl (Ad ?_))))))
      exact Aw _ h (sm [] _ _ rfl rfl)
     ·have h := Al c22 h
      refine AY ?_
      exact Aw _ h (sm [] _ _ rfl rfl)
   ·refine Ak hs (Ab (Ab (Aa Ac rfl (qm rfl (qm rfl (E0 rfl (Ad ?_)))))))
    refine An rfl (fun c23 => ?_) (fun c23 => ?_)
    ·have h := Am c23 h
     refine AY ?_
     exact Aw _ h (sm [] _ _ rfl rfl)
    ·have h := Al c23 h
     refine Ap (Ab (Aa Ac rfl (qm rfl (qm rfl (qm rfl (qm rfl (qm rfl (qm rfl ?_))))))))
     obtain ⟨v24, a24, b24, h⟩ := Aj h
     refine qI AN Ay a24 (Ag b24) rfl (qJ A1 Ay (Ag b24) rfl (qm rfl (qm rfl ?_)))
     obtain ⟨v25, a25, b25, h⟩ := Aj h
     refine qI AN Ay a25 (Ag b25) rfl (qJ A1 Ay (Ag b25) rfl ?_)
     obtain ⟨v26, a26, b26, h⟩ := Aj h
     refine qI AN Ay a26 (Ag b26) rfl ?_
     refine Ba rfl rfl rfl rfl (Ag b26) rfl Ay rfl (A4 rfl) (A9 Af v5.1 _ v24) ?_
     obtain ⟨v27, a27, b27, h⟩ := Aj h
     refine qI AN Ay a27 (Ag b27) rfl ?_
     refine Ba rfl rfl rfl rfl (Ag b27) rfl Ay rfl (A4 rfl) (A9 Af (v5.1.set ((v8).toNat) v24) _ v25) ?_
     refine AQ (by kernel_rfl) (Ab (Aa Ac rfl (qm rfl (AX rfl (qa rfl (Ad (Aa Ac rfl (qm rfl (Cz rfl (qa rfl (Ad ?_)))))))))))
     exact Aw _ h (sm [] _ _ rfl rfl)
 ·refine Ak hs (Ab (Aa Ac rfl (qm rfl (qa rfl (Ad ?_)))))
  obtain rfl := sj h
  refine Ak (sm [] [(10, iD v6.2)] [(90000, .vec 3 (v6.1.map Af))] rfl rfl) (Az ?_)
  exact ⟨⟨[_], ⟨.tmp _ _ rfl, tv⟩, rfl⟩, ⟨rfl, tv⟩, tv⟩
theorem GB (N : Nat) (p0 : List Ae) (p1 : Int) (p2 : Int) (p3 : Int) (p4 : (Ae × Ae) → Option Int) (r : Int × Bool × (List Ae)) (h : Gs.partition N p0 p1 p2 p3 p4 = some r) : BG Tryz.prog 88 [oD (.own 90000), iD p1, iD p2, iD p3, oD (.clo (BT (Ek true Af true Af) CA p4))] [(.vec 3 (p0.map Af), .vec 3 (r.2.2.map Af))] [] (.tup [.one (iC r.1), .one (.pure (.val (.bool r.2.1)))]) := by
 unfold Gs.partition at h
 refine Bw (n := 178) (rs := [.tmp 10, .tmp 11]) Tryz.func88 rfl rfl rfl (A4 rfl) (A4 rfl) rfl rfl (A4 rfl) rfl (A4 rfl) fun w0 S0 GL => ?_
 refine Ak (sm [] [(0, oD (.own 90000)), (1, iD p1), (2, iD p2), (3, iD p3), (4, oD (.clo (BT (Ek true Af true Af) CA p4)))] [(90000, .vec 3 (p0.map Af))] rfl rfl) (Ab (Aa Ac rfl (qa rfl (qa rfl (Ad (Ab (Aa Ac rfl (qm rfl (qm rfl (qm rfl (qm rfl (qm rfl (qm rfl ?_)))))))))))))
 obtain ⟨v1, a1, b1, h⟩ := Aj h
 refine qI AN Ay a1 (Ag b1) rfl (qJ A1 Ay (Ag b1) rfl (qm rfl (qm rfl ?_)))
 obtain ⟨v2, a2, b2, h⟩ := Aj h
 refine qI AN Ay a2 (Ag b2) rfl (qJ A1 Ay (Ag b2) rfl ?_)
 obtain ⟨v3, a3, b3, h⟩ := Aj h
 refine qI AN Ay a3 (Ag b3) rfl ?_
 refine Ba rfl rfl rfl rfl (Ag b3) rfl Ay rfl (A4 rfl) (A9 Af p0 _ v1) ?_
 obtain ⟨v4, a4, b4, h⟩ := Aj h
 refine qI AN Ay a4 (Ag b4) rfl ?_
 refine Ba rfl rfl rfl rfl (Ag b4) rfl Ay rfl (A4 rfl) (A9 Af (p0.set ((p1).toNat) v1) _ v2) ?_
 refine AQ (by kernel_rfl) (Ab (Aa Ac rfl (qm rfl (AX rfl (qm rfl (Cz rfl (qa rfl (qa rfl (Ad (Ab ?_))))))))))
 refine AM (L := Gs.partition_L5 N p0 p1 p2 p3 p4 v1 v2) h (fun v5 => mk [(0, oD (.own 90000)), (1, iD p1), (4, oD (.clo (BT (Ek true Af true Af) CA p4))), (12, iD v5), (13, iD ((wI .i64 (p2 - 1))))] [(90000, .vec 3 (((p0.set ((p1).toNat) v1).set ((p3).toNat) v2).map Af))]) (fun v6 => mk [(0, oD (.own 90000)), (1, iD p1), (4, oD (.clo (BT (Ek true Af true Af) CA p4))), (12, iD v6), (13, iD ((wI .i64 (p2 - 1))))] [(90000, .vec 3 (((p0.set ((p1).toNat) v1).set ((p3).toNat) v2).map Af))]) (fun _ _ => rfl) (sm [] _ _ rfl rfl) (fun j5 n5 v5 h => ?_) (fun v6 s h hs => ?_)
 ·unfold Gs.partition_L5 at h
  refine Ab ?_
  refine AT h (fun v7 => mk [(0, oD (.own 90000)), (1, iD p1), (4, oD (.clo (BT (Ek true Af true Af) CA p4))), (12, iD v5), (13, iD ((wI .i64 (p2 - 1)))), (47, bD v7)] [(90000, .vec 3 (((p0.set ((p1).toNat) v1).set ((p3).toNat) v2).map Af))]) (fun j7 h => ?_) (fun v7 h => ?_)
  ·refine Aa Ac rfl (qm rfl (qm rfl (KH rfl (qm rfl ?_))))
   refine AF (t := 35) rfl (fun c8 => ?_) (fun c8 => ?_)
   ·have h := Am c8 h
    refine qm rfl (qm rfl (qm rfl ?_))
    obtain ⟨v9, a9, b9, h⟩ := Aj h
    refine qI AN Ay a9 (Ag b9) rfl (qJ A1 Ay (Ag b9) rfl (qm rfl (qm rfl ?_)))
    obtain ⟨v10, a10, b10, h⟩ := Aj h
    refine qI AN Ay a10 (Ag b10) rfl (qJ A1 Ay (Ag b10) rfl ?_)
    obtain ⟨v11, a11, h⟩ := bind_some h
    refine Em (ds0 := [_, _]) (ar := (Ek true Af true Af) ((v9, v10))) (.g rfl rfl) rfl rfl ⟨rfl, rfl, tv⟩ rfl rfl rfl (En (E3 _ _ _ _ Bt Bt) a11) ?_
    refine A0 rfl (qp rfl (AQ (by kernel_rfl) ?_))
    exact Aw _ h (sm [] _ _ rfl rfl)
   ·have h := Al c8 h
    refine qn rfl (qn rfl (qn rfl (qn rfl (qn rfl (qn rfl (qn rfl (qn rfl (qn rfl (qn rfl (qn rfl (qp rfl (AQ (by kernel_rfl) ?_))))))))))))
    exact Aw _ h (sm [] _ _ rfl rfl)
  ·refine An rfl (fun c12 => ?_) (fun c12 => ?_)
   ·have h := Am c12 h
    refine Ap (AR (Aa Ac rfl (qm rfl (AX rfl (qa rfl (Ad ?_))))))
    exact Aw _ h (sm [] _ _ rfl rfl)
   ·have h := Al c12 h
    refine AY ?_
    exact Aw _ h (sm [] _ _ rfl rfl)
 ·refine Ak hs (Ab ?_)
  refine AM (L := Gs.partition_L13 N p0 p1 p3 p4 v1 v2 v6) h (fun v13 => mk [(0, oD (.own 90000)), (1, iD p1), (4, oD (.clo (BT (Ek true Af true Af) CA p4))), (12, iD v6), (13, iD v13)] [(90000, .vec 3 (((p0.set ((p1).toNat) v1).set ((p3).toNat) v2).map Af))]) (fun v14 => mk [(0, oD (.own 90000)), (1, iD p1), (4, oD (.clo (BT (Ek true Af true Af) CA p4))), (12, iD v6), (13, iD v14)] [(90000, .vec 3 (((p0.set ((p1).toNat) v1).set ((p3).toNat) v2).map Af))]) (fun _ _ => rfl) (sm [] _ _ rfl rfl) (fun j13 n13 v13 h => ?_) (fun v14 s h hs => ?_)
  ·unfold Gs.partition_L13 at h
   refine Ab ?_
   refine AT h (fun v15 => mk [(0, oD (.own 90000)), (1, iD p1), (4, oD (.clo (BT (Ek true Af true Af) CA p4))), (12, iD v6), (13, iD v13), (66, bD v15)] [(90000, .vec 3 (((p0.set ((p1).toNat) v1).set ((p3).toNat) v2).map Af))]) (fun j15 h => ?_) (fun v15 h => ?_)
   ·refine Aa Ac rfl (qm rfl (qm rfl (KH rfl (qm rfl ?_))))
    refine AF (t := 53) rfl (fun c16 => ?_) (fun c16 => ?_)
    ·have h := Am c16 h
     refine qm rfl (qm rfl (qm rfl ?_))
     obtain ⟨v17, a17, b17, h⟩ := Aj h
     refine qI AN Ay a17 (Ag b17) rfl (qJ A1 Ay (Ag b17) rfl (qm rfl (qm rfl ?_)))
     obtain ⟨v18, a18, b18, h⟩ := Aj h
     refine qI AN Ay a18 (Ag b18) rfl (qJ A1 Ay (Ag b18) rfl ?_)
     obtain ⟨v19, a19, h⟩ := bind_some h
     refine Em (ds0 := [_, _]) (ar := (Ek true Af true Af) ((v17, v18))) (.g rfl rfl) rfl rfl ⟨rfl, rfl, tv⟩ rfl rfl rfl (En (E3 _ _ _ _ Bt Bt) a19) ?_
     refine A0 rfl (Cd rfl (qp rfl (AQ (by kernel_rfl) ?_)))
     exact Aw _ h (sm [] _ _ rfl rfl)
    ·have h := Al c16 h
     refine qn rfl (qn rfl (qn rfl (qn rfl (qn rfl (qn rfl (qn rfl (qn rfl (qn rfl (qn rfl (qn rfl (qn rfl (qp rfl (AQ (by kernel_rfl) ?_)))))))))))))
     exact Aw _ h (sm [] _ _ rfl rfl)
   ·refine An rfl (fun c20 => ?_) (fun c20 => ?_)
    ·have h := Am c20 h
     refine Ap (AR (Aa Ac rfl (qm rfl (Cz rfl (qa rfl (Ad ?_))))))
     exact Aw _ h (sm [] _ _ rfl rfl)
    ·have h := Al c20 h
     refine AY ?_
     exact Aw _ h (sm [] _ _ rfl rfl)
  ·refine Ak hs (Ab (Ab (Aa Ac rfl (qm rfl (qm rfl (E0 rfl (Ad ?_)))))))
   refine An rfl (fun c21 => ?_) (fun c21 => ?_)
   ·have h := Am c21 h
    refine Ab (Aa Ac rfl (qm rfl (qm rfl (qm rfl (qm rfl (qm rfl (qm rfl ?_)))))))
    obtain ⟨v22, a22, b22, h⟩ := Aj h
    refine qI AN Ay a22 (Ag b22) rfl (qJ A1 Ay (Ag b22) rfl (qm rfl (qm rfl ?_)))
    obtain ⟨v23, a23, b23, h⟩ := Aj h
    refine qI AN Ay a23 (Ag b23) rfl (qJ A1 Ay (Ag b23) rfl ?_)
    obtain ⟨v24, a24, b24, h⟩ := Aj h
    refine qI AN Ay a24 (Ag b24) rfl ?_
    refine Ba rfl rfl rfl rfl (Ag b24) rfl Ay rfl (A4 rfl) (A9 Af ((p0.set ((p1).toNat) v1).set ((p3).toNat) v2) _ v22) ?_
    obtain ⟨v25, a25, b25, h⟩ := Aj h
    refine qI AN Ay a25 (Ag b25) rfl ?_
    refine Ba rfl rfl rfl rfl (Ag b25) rfl Ay rfl (A4 rfl) (A9 Af (((p0.set ((p1).toNat) v1).set ((p3).toNat) v2).set ((v14).toNat) v22) _ v23) ?_
    refine AQ (by kernel_rfl) (Ab (Aa Ac rfl (qm rfl (qa rfl (qa rfl (Ad ?_))))))
    obtain rfl := sj h
    refine Ak (sm [] [(10, iD v14), (11, bD true)] [(90000, .vec 3 (((((p0.set ((p1).toNat) v1).set ((p3).toNat) v2).set ((v14).toNat) v22).set ((p1).toNat) v23).map Af))] rfl rfl) (Az ?_)
    exact ⟨⟨[_, _], ⟨.tmp _ _ rfl, ⟨.tmp _ _ rfl, tv⟩⟩, rfl⟩, ⟨rfl, tv⟩, tv⟩
   ·have h := Al c21 h
    refine Ap (Ab (Aa Ac rfl (qm rfl (qm rfl (qm rfl (qm rfl (qm rfl (qm rfl ?_))))))))
    obtain ⟨v26, a26, b26, h⟩ := Aj h
    refine qI AN Ay a26 (Ag b26) rfl (qJ A1 Ay (Ag b26) rfl (qm rfl (qm rfl ?_)))
    obtain ⟨v27, a27, b27, h⟩ := Aj h
    refine qI AN Ay a27 (Ag b27) rfl (qJ A1 Ay (Ag b27) rfl ?_)
    obtain ⟨v28, a28, b28, h⟩ := Aj h
    refine qI AN Ay a28 (Ag b28) rfl ?_
    refine Ba rfl rfl rfl rfl (Ag b28) rfl Ay rfl (A4 rfl) (A9 Af ((p0.set ((p1).toNat) v1).set ((p3).toNat) v2) _ v26) ?_
    obtain ⟨v29, a29, b29, h⟩ := Aj h
    refine qI AN Ay a29 (Ag b29) rfl ?_
    refine Ba rfl rfl rfl rfl (Ag b29) rfl Ay rfl (A4 rfl) (A9 Af (((p0.set ((p1).toNat) v1).set ((p3).toNat) v2).set ((v6).toNat) v26) _ v27) ?_
    refine AQ (by kernel_rfl) (Ab (Aa Ac rfl (qm rfl (AX rfl (qa rfl (Ad (Ab (Aa Ac rfl (qm rfl (Cz rfl (qa rfl (Ad (Ab ?_)))))))))))))
    refine AM (L := Gs.partition_L30 N p1 p4) h (fun v30 => mk [(0, oD (.own 90000)), (1, iD p1), (4, oD (.clo (BT (Ek true Af true Af) CA p4))), (12, iD v30.2.1), (13, iD v30.2.2)] [(90000, .vec 3 (v30.1.map Af))]) (fun v31 => mk [(0, oD (.own 90000)), (1, iD p1), (13, iD v31.2)] [(90000, .vec 3 (v31.1.map Af))]) (fun _ _ => rfl) (sm [] _ _ rfl rfl) (fun j30 n30 v30 h => ?_) (fun v31 s h hs => ?_)
    ·unfold Gs.partition_L30 at h
     refine AR (Ab ?_)
     refine AM (L := Gs.partition_L32 N p1 p4 v30) h (fun v32 => mk [(0, oD (.own 90000)), (1, iD p1), (4, oD (.clo (BT (Ek true Af true Af) CA p4))), (12, iD v32), (13, iD v30.2.2)] [(90000, .vec 3 (v30.1.map Af))]) (fun v33 => mk [(0, oD (.own 90000)), (1, iD p1), (4, oD (.clo (BT (Ek true Af true Af) CA p4))), (12, iD v33), (13, iD v30.2.2)] [(90000, .vec 3 (v30.1.map Af))]) (fun _ _ => rfl) (sm [] _ _ rfl rfl) (fun j32 n32 v32 h => ?_) (fun v33 s h hs => ?_)
     ·unfold Gs.partition_L32 at h
      refine Ab ?_
      refine AT h (fun v34 => mk [(0, oD (.own 90000)), (1, iD p1), (4, oD (.clo (BT (Ek true Af true Af) CA p4))), (12, iD v32), (13, iD v30.2.2), (120, bD v34)] [(90000, .vec 3 (v30.1.map Af))]) (fun j34 h => ?_) (fun v34 h => ?_)
      ·refine Aa Ac rfl (qm rfl (qm rfl (KH rfl (qm rfl ?_))))
       refine AF (t := 108) rfl (fun c35 => ?_) (fun c35 => ?_)
       ·have h := Am c35 h
        refine qm rfl (qm rfl (qm rfl ?_))
        obtain ⟨v36, a36, b36, h⟩ := Aj h
        refine qI AN Ay a36 (Ag b36) rfl (qJ A1 Ay (Ag b36) rfl (qm rfl (qm rfl ?_)))
        obtain ⟨v37, a37, b37, h⟩ := Aj h
        refine qI AN Ay a37 (Ag b37) rfl (qJ A1 Ay (Ag b37) rfl ?_)
        obtain ⟨v38, a38, h⟩ := bind_some h
        refine Em (ds0 := [_, _]) (ar := (Ek true Af true Af) ((v36, v37))) (.g rfl rfl) rfl rfl ⟨rfl, rfl, tv⟩ rfl rfl rfl (En (E3 _ _ _ _ Bt Bt) a38) ?_
        refine A0 rfl (qp rfl (AQ (by kernel_rfl) ?_))
        exact Aw _ h (sm [] _ _ rfl rfl)
       ·have h := Al c35 h
        refine qn rfl (qn rfl (qn rfl (qn rfl (qn rfl (qn rfl (qn rfl (qn rfl (qn rfl (qn rfl (qn rfl (qp rfl (AQ (by kernel_rfl) ?_))))))))))))
        exact Aw _ h (sm [] _ _ rfl rfl)
      ·refine An rfl (fun c39 => ?_) (fun c39 => ?_)
       ·have h := Am c39 h
        refine Ap (AR (Aa Ac rfl (qm rfl (AX rfl (qa rfl (Ad ?_))))))
        exact Aw _ h (sm [] _ _ rfl rfl)
       ·have h := Al c39 h
        refine AY ?_
        exact Aw _ h (sm [] _ _ rfl rfl)
     ·refine Ak hs (Ab ?_)
      refine AM (L := Gs.partition_L40 N p1 p4 v30 v33) h (fun v40 => mk [(0, oD (.own 90000)), (1, iD p1), (4, oD (.clo (BT (Ek true Af true Af) CA p4))), (12, iD v33), (13, iD v40)] [(90000, .vec 3 (v30.1.map Af))]) (fun v41 => mk [(0, oD (.own 90000)), (1, iD p1), (4, oD (.clo (BT (Ek true Af true Af) CA p4))), (12, iD v33), (13, iD v41)] [(90000, .vec 3 (v30.1.map Af))]) (fun _ _ => rfl) (sm [] _ _ rfl rfl) (fun j40 n40 v40 h => ?_) (fun v41 s h hs => ?_)
      ·unfold Gs.partition_L40 at h
       refine Ab ?_
       refine AT h (fun v42 => mk [(0, oD (.own 90000)), (1, iD p1), (4, oD (.clo (BT (Ek true Af true Af) CA p4))), (12, iD v33), (13, iD v40), (139, bD v42)] [(90000, .vec 3 (v30.1.map Af))]) (fun j42 h => ?_) (fun v42 h => ?_)
       ·refine Aa Ac rfl (qm rfl (qm rfl (KH rfl (qm rfl ?_))))
        refine AF (t := 126) rfl (fun c43 => ?_) (fun c43 => ?_)
        ·have h := Am c43 h
         refine qm rfl (qm rfl (qm rfl ?_))
         obtain ⟨v44, a44, b44, h⟩ := Aj h
         refine qI AN Ay a44 (Ag b44) rfl (qJ A1 Ay (Ag b44) rfl (qm rfl (qm rfl ?_)))
         obtain ⟨v45, a45, b45, h⟩ := Aj h
         refine qI AN Ay a45 (Ag b45) rfl (qJ A1 Ay (Ag b45) rfl ?_)
         obtain ⟨v46, a46, h⟩ := bind_some h
         refine Em (ds0 := [_, _]) (ar := (Ek true Af true Af) ((v44, v45))) (.g rfl rfl) rfl rfl ⟨rfl, rfl, tv⟩ rfl rfl rfl (En (E3 _ _ _ _ Bt Bt) a46) ?_
         refine A0 rfl (Cd rfl (qp rfl (AQ (by kernel_rfl) ?_)))
         exact Aw _ h (sm [] _ _ rfl rfl)
        ·have h := Al c43 h
         refine qn rfl (qn rfl (qn rfl (qn rfl (qn rfl (qn rfl (qn rfl (qn rfl (qn rfl (qn rfl (qn rfl (qn rfl (qp rfl (AQ (by kernel_rfl) ?_)))))))))))))
         exact Aw _ h (sm [] _ _ rfl rfl)
       ·refine An rfl (fun c47 => ?_) (fun c47 => ?_)
        ·have h := Am c47 h
         refine Ap (AR (Aa Ac rfl (qm rfl (Cz rfl (qa rfl (Ad ?_))))))
         exact Aw _ h (sm [] _ _ rfl rfl)
        ·have h := Al c47 h
         refine AY ?_
         exact Aw _ h (sm [] _ _ rfl rfl)
      ·refine Ak hs (Ab (Ab (Aa Ac rfl (qm rfl (qm rfl (E0 rfl (Ad ?_)))))))
       refine An rfl (fun c48 => ?_) (fun c48 => ?_)
       ·have h := Am c48 h
        refine AY ?_
        exact Aw _ h (sm [] _ _ rfl rfl)
       ·have h := Al c48 h
        refine Ap (Ab (Aa Ac rfl (qm rfl (qm rfl (qm rfl (qm rfl (qm rfl (qm rfl ?_))))))))
        obtain ⟨v49, a49, b49, h⟩ := Aj h
        refine qI AN Ay a49 (Ag b49) rfl (qJ A1 Ay (Ag b49) rfl (qm rfl (qm rfl ?_)))
        obtain ⟨v50, a50, b50, h⟩ := Aj h
        refine qI AN Ay a50 (Ag b50) rfl (qJ A1 Ay (Ag b50) rfl ?_)
        obtain ⟨v51, a51, b51, h⟩ := Aj h
        refine qI AN Ay a51 (Ag b51) rfl ?_
        refine Ba rfl rfl rfl rfl (Ag b51) rfl Ay rfl (A4 rfl) (A9 Af v30.1 _ v49) ?_
        obtain ⟨v52, a52, b52, h⟩ := Aj h
        refine qI AN Ay a52 (Ag b52) rfl ?_
        refine Ba rfl rfl rfl rfl (Ag b52) rfl Ay rfl (A4 rfl) (A9 Af (v30.1.set ((v33).toNat) v49) _ v50) ?_
        refine AQ (by kernel_rfl) (Ab (Aa Ac rfl (qm rfl (AX rfl (qa rfl (Ad (Aa Ac rfl (qm rfl (Cz rfl (qa rfl (Ad ?_)))))))))))
        exact Aw _ h (sm [] _ _ rfl rfl)
    ·refine Ak hs (Ab (Aa Ac rfl (qm rfl (qm rfl (qm rfl (qm rfl (qm rfl (qm rfl ?_))))))))
     obtain ⟨v53, a53, b53, h⟩ := Aj h
     refine qI AN Ay a53 (Ag b53) rfl (qJ A1 Ay (Ag b53) rfl (qm rfl (qm rfl ?_)))
     obtain ⟨v54, a54, b54, h⟩ := Aj h
     refine qI AN Ay a54 (Ag b54) rfl (qJ A1 Ay (Ag b54) rfl ?_)
     obtain ⟨v55, a55, b55, h⟩ := Aj h
     refine qI AN Ay a55 (Ag b55) rfl ?_
     refine Ba rfl rfl rfl rfl (Ag b55) rfl Ay rfl (A4 rfl) (A9 Af v31.1 _ v53) ?_
     obtain ⟨v56, a56, b56, h⟩ := Aj h
     refine qI AN Ay a56 (Ag b56) rfl ?_
     refine Ba rfl rfl rfl rfl (Ag b56) rfl Ay rfl (A4 rfl) (A9 Af (v31.1.set ((v31.2).toNat) v53) _ v54) ?_
     refine AQ (by kernel_rfl) (Ab (Aa Ac rfl (qm rfl (qa rfl (qa rfl (Ad ?_))))))
     obtain rfl := sj h
     refine Ak (sm [] [(10, iD v31.2), (11, bD false)] [(90000, .vec 3 (((v31.1.set ((v31.2).toNat) v53).set ((p1).toNat) v54).map Af))] rfl rfl) (Az ?_)
     exact ⟨⟨[_, _], ⟨.tmp _ _ rfl, ⟨.tmp _ _ rfl, tv⟩⟩, rfl⟩, ⟨rfl, tv⟩, tv⟩
theorem GA (N : Nat) (rc : (List Ae) → Int → Int → Int → ((Ae × Ae) → Option Int) → Option ((List Ae))) (hrc : ∀ (p0 : List Ae) (p1 : Int) (p2 : Int) (p3 : Int) (p4 : (Ae × Ae) → Option Int) (r : (List Ae)), rc p0 p1 p2 p3 p4 = some r → BG Tryz.prog 60 [oD (.own 90000), iD p1, iD p2, iD p3, oD (.clo (BT (Ek true Af true Af) CA p4))] [(.vec 3 (p0.map Af), .vec 3 (r.map Af))] [] (.tup [])) (p0 : List Ae) (p1 : Int) (p2 : Int) (p3 : Int) (p4 : (Ae × Ae) → Option Int) (r : (List Ae)) (h : Gs.pdqsort_B N rc p0 p1 p2 p3 p4 = some r) : BG Tryz.prog 60 [oD (.own 90000), iD p1, iD p2, iD p3, oD (.clo (BT (Ek true Af true Af) CA p4))] [(.vec 3 (p0.map Af), .vec 3 (r.map Af))] [] (.tup []) := by
 unfold Gs.pdqsort_B at h
 refine Bw (n := 148) (rs := []) Tryz.func60 rfl rfl rfl (A4 rfl) (A4 rfl) rfl rfl (A4 rfl) rfl (A4 rfl) fun w0 S0 GL => Nz ?_
 refine Ak (sm [] [(0, oD (.own 90000)), (1, iD p1), (2, iD p2), (3, iD p3), (4, oD (.clo (BT (Ek true Af true Af) CA p4)))] [(90000, .vec 3 (p0.map Af))] rfl rfl) (Ab (Aa Ac rfl (qa rfl (Ad (Ab (Aa Ac rfl (qa rfl (Ad ?_))))))))
 refine AM (L := Gs.pdqsort_L1 N p4 rc) h (fun v1 => mk [(0, oD (.own 90000)), (1, iD v1.2.1), (2, iD v1.2.2.1), (3, iD v1.2.2.2.1), (4, oD (.clo (BT (Ek true Af true Af) CA p4))), (10, bD v1.2.2.2.2.1), (11, bD v1.2.2.2.2.2)] [(90000, .vec 3 (v1.1.map Af))]) (fun v2 => mk [] []) (fun _ _ => rfl) (sm [] _ _ rfl rfl) (fun j1 n1 v1 h => ?_) (fun v2 s h hs => ?_)
 ·unfold Gs.pdqsort_L1 at h
  refine AR (Ab (Aa Ac rfl (qm rfl (qm rfl (Cz rfl (qa rfl (Ad (Ab (Ab (Aa Ac rfl (qm rfl (KH rfl (Ad ?_)))))))))))))
  refine An rfl (fun c3 => ?_) (fun c3 => ?_)
  ·have h := Am c3 h
   refine Ab (Aa Ac rfl (qm rfl (qm rfl (qm rfl (qm rfl ?_)))))
   obtain ⟨v4, a4, h⟩ := bind_some h
   refine CZ (ds0 := [_, _, _, _]) [90000] [] [true] (FJ N v1.1 v1.2.1 v1.2.2.1 p4 v4 a4) (.p rfl) Yf rfl ⟨rfl, rfl, rfl, rfl, tv⟩ rfl rfl (by decide) ⟨rfl, tv⟩ rfl (Bm rfl) tv ⟨(fun h => by cases h), tv⟩ rfl rfl rfl ?_
   refine Ad ?_
   obtain rfl := sj h
   refine Az ⟨_, (sm [] [] [(90000, .vec 3 (v4.map Af))] rfl rfl), ?_⟩
   exact ⟨⟨[], tv, rfl⟩, ⟨rfl, tv⟩, tv⟩
  ·have h := Al c3 h
   refine Ap (Ab (Ab (Aa Ac rfl (qm rfl (BE rfl (Ad ?_))))))
   refine An rfl (fun c5 => ?_) (fun c5 => ?_)
   ·have h := Am c5 h
    refine Ab (Aa Ac rfl (qm rfl (qm rfl (qm rfl (qm rfl ?_)))))
    obtain ⟨v6, a6, h⟩ := bind_some h
    refine CZ (ds0 := [_, _, _, _]) [90000] [] [true] (GQ N v1.1 v1.2.1 v1.2.2.1 p4 v6 a6) (.p rfl) Yv rfl ⟨rfl, rfl, rfl, rfl, tv⟩ rfl rfl (by decide) ⟨rfl, tv⟩ rfl (Bm rfl) tv ⟨(fun h => by cases h), tv⟩ rfl rfl rfl ?_
    refine Ad ?_
    obtain rfl := sj h
    refine Az ⟨_, (sm [] [] [(90000, .vec 3 (v6.map Af))] rfl rfl), ?_⟩
    exact ⟨⟨[], tv, rfl⟩, ⟨rfl, tv⟩, tv⟩
   ·have h := Al c5 h
    refine Ap ?_
    refine AT h (fun v7 => mk [(0, oD (.own 90000)), (1, iD v1.2.1), (2, iD v1.2.2.1), (3, iD v7.2), (4, oD (.clo (BT (Ek true Af true Af) CA p4))), (10, bD v1.2.2.2.2.1), (11, bD v1.2.2.2.2.2), (12, iD ((wI .i64 (v1.2.2.1 - v1.2.1))))] [(90000, .vec 3 (v7.1.map Af))]) (fun j7 h => ?_) (fun v7 h => ?_)
    ·refine Ab (Aa Ac rfl (qm rfl (Cd rfl (Ad ?_))))
     refine An rfl (fun c8 => ?_) (fun c8 => ?_)
     ·have h := Am c8 h
      refine Ab (Aa Ac rfl (qm rfl (qm rfl (qm rfl (qm rfl ?_)))))
      obtain ⟨v9, a9, h⟩ := bind_some h
      refine CZ (ds0 := [_, _, _, _]) [90000] [] [true] (FN N v1.1 v1.2.1 v1.2.2.1 p4 v9 a9) (.p rfl) XQ rfl ⟨rfl, rfl, rfl, rfl, tv⟩ rfl rfl (by decide) ⟨rfl, tv⟩ rfl (Bm rfl) tv ⟨(fun h => by cases h), tv⟩ rfl rfl rfl ?_
      refine Ad (Aa Ac rfl (qm rfl (Cz rfl (qa rfl (Ad ?_)))))
      exact Aw _ h (sm [] _ _ rfl rfl)
     ·have h := Al c8 h
      refine Ap ?_
      exact Aw _ h (sm [] _ _ rfl rfl)
    ·refine Ab (Aa Ac rfl (qm rfl (qm rfl (qm rfl (qm rfl ?_)))))
     obtain ⟨v10, a10, h⟩ := bind_some h
     refine F9 [] [90000] (F2 N v7.1 v1.2.1 v1.2.2.1 p4 v10 a10) Yl EJ rfl (qm rfl (qx rfl (qx rfl (qa rfl (qa rfl (Ad ?_))))))
     refine AT h (fun v11 => mk [(0, oD (.own 90000)), (1, iD v1.2.1), (2, iD v1.2.2.1), (3, iD v7.2), (4, oD (.clo (BT (Ek true Af true Af) CA p4))), (10, bD v1.2.2.2.2.1), (11, bD v1.2.2.2.2.2), (12, iD ((wI .i64 (v1.2.2.1 - v1.2.1)))), (13, iD v11.2.1), (14, iD v11.2.2)] [(90000, .vec 3 (v11.1.map Af))]) (fun j11 h => ?_) (fun v11 h => ?_)
     ·refine Ab (Aa Ac rfl (qm rfl (BE rfl (Ad ?_))))
      refine An rfl (fun c12 => ?_) (fun c12 => ?_)
      ·have h := Am c12 h
       refine Ab (Aa Ac rfl (qm rfl (qm rfl (qm rfl (qm rfl ?_)))))
       obtain ⟨v13, a13, h⟩ := bind_some h
       refine CZ (ds0 := [_, _, _, _]) [90000] [] [true] (FT N v7.1 v1.2.1 v1.2.2.1 p4 v13 a13) (.p rfl) XB rfl ⟨rfl, rfl, rfl, rfl, tv⟩ rfl rfl (by decide) ⟨rfl, tv⟩ rfl (Bm rfl) tv ⟨(fun h => by cases h), tv⟩ rfl rfl rfl ?_
       refine Ad (Ab (Aa Ac rfl (qm rfl (Cz rfl (qm rfl (qm rfl (Cz rfl (Cz rfl (qa rfl (Ad (Aa Ac rfl (qa rfl (Ad ?_)))))))))))))
       exact Aw _ h (sm [] _ _ rfl rfl)
      ·have h := Al c12 h
       refine Ap ?_
       exact Aw _ h (sm [] _ _ rfl rfl)
     ·refine AT h (fun v14 => mk [(0, oD (.own 90000)), (1, iD v1.2.1), (2, iD v1.2.2.1), (3, iD v7.2), (4, oD (.clo (BT (Ek true Af true Af) CA p4))), (10, bD v1.2.2.2.2.1), (11, bD v1.2.2.2.2.2), (12, iD ((wI .i64 (v1.2.2.1 - v1.2.1)))), (13, iD v11.2.1)] [(90000, .vec 3 (v14.map Af))]) (fun j14 h => ?_) (fun v14 h => ?_)
      ·refine AT h (fun v15 => mk [(0, oD (.own 90000)), (1, iD v1.2.1), (2, iD v1.2.2.1), (3, iD v7.2), (4, oD (.clo (BT (Ek true Af true Af) CA p4))), (10, bD v1.2.2.2.2.1), (11, bD v1.2.2.2.2.2), (12, iD ((wI .i64 (v1.2.2.1 - v1.2.1)))), (13, iD v11.2.1), (75, bD v15)] [(90000, .vec 3 (v11.1.map Af))]) (fun j15 h => ?_) (fun v15 h => ?_)
       ·refine Aa Ac rfl (qm rfl (qm rfl ?_))
        refine AF (t := 69) rfl (fun c16 => ?_) (fun c16 => ?_)
        ·have h := Am c16 h
         refine qm rfl (qp rfl (qm rfl ?_))
         refine AF (t := 72) rfl (fun c17 => ?_) (fun c17 => ?_)
         ·have h := Am c17 h
          refine qm rfl (BE rfl (qp rfl (Ad ?_)))
          exact Aw _ h (sm [] _ _ rfl rfl)
         ·have h := Al c17 h
          refine qn rfl (qn rfl (qp rfl (Ad ?_)))
          exact Aw _ h (sm [] _ _ rfl rfl)
        ·have h := Al c16 h
         refine qn rfl (qp rfl (qm rfl (qn rfl (qn rfl (qp rfl (Ad ?_))))))
         exact Aw _ h (sm [] _ _ rfl rfl)
       ·refine An rfl (fun c18 => ?_) (fun c18 => ?_)
        ·have h := Am c18 h
         refine Ab (Aa Ac rfl (qm rfl (qm rfl (qm rfl (qm rfl ?_)))))
         obtain ⟨v19, a19, h⟩ := bind_some h
         refine CZ (ds0 := [_, _, _, _]) [90000] [] [true] (E8 N v11.1 v1.2.1 v1.2.2.1 p4 v19 a19) (.p rfl) XJ rfl ⟨rfl, rfl, rfl, rfl, tv⟩ rfl rfl (by decide) ⟨rfl, tv⟩ rfl (Bm rfl) tv ⟨(fun h => by cases h), tv⟩ rfl rfl rfl ?_
         refine Ad ?_
         refine An rfl (fun c20 => ?_) (fun c20 => ?_)
         ·have h := Am c20 h
          obtain rfl := sj h
          refine Az ⟨_, (sm [] [] [(90000, .vec 3 (v19.2.map Af))] rfl rfl), ?_⟩
          exact ⟨⟨[], tv, rfl⟩, ⟨rfl, tv⟩, tv⟩
         ·have h := Al c20 h
          refine Ap ?_
          exact Aw _ h (sm [] _ _ rfl rfl)
        ·have h := Al c18 h
         refine Ap ?_
         exact Aw _ h (sm [] _ _ rfl rfl)
      ·refine Ab ?_
       refine AT h (fun v21 => mk [(0, oD (.own 90000)), (1, iD v1.2.1), (2, iD v1.2.2.1), (3, iD v7.2), (4, oD (.clo (BT (Ek true Af true Af) CA p4))), (10, bD v1.2.2.2.2.1), (11, bD v1.2.2.2.2.2), (12, iD ((wI .i64 (v1.2.2.1 - v1.2.1)))), (13, iD v11.2.1), (97, bD v21)] [(90000, .vec 3 (v14.map Af))]) (fun j21 h => ?_) (fun v21 h => ?_)
       ·refine Aa Ac rfl (qm rfl (E0 rfl (qm rfl ?_)))
        refine AF (t := 83) rfl (fun c22 => ?_) (fun c22 => ?_)
        ·have h := Am c22 h
         refine qm rfl (qm rfl (qm rfl (Cz rfl ?_)))
         obtain ⟨v23, a23, b23, h⟩ := Aj h
         refine qI AN Ay a23 (Ag b23) rfl (qJ A1 Ay (Ag b23) rfl (qm rfl (qm rfl ?_)))
         obtain ⟨v24, a24, b24, h⟩ := Aj h
         refine qI AN Ay a24 (Ag b24) rfl (qJ A1 Ay (Ag b24) rfl ?_)
         obtain ⟨v25, a25, h⟩ := bind_some h
         refine Em (ds0 := [_, _]) (ar := (Ek true Af true Af) ((v23, v24))) (.g rfl rfl) rfl rfl ⟨rfl, rfl, tv⟩ rfl rfl rfl (En (E3 _ _ _ _ Bt Bt) a25) ?_
         refine A0 rfl (Cd rfl (qp rfl (AQ (by kernel_rfl) ?_)))
         exact Aw _ h (sm [] _ _ rfl rfl)
        ·have h := Al c22 h
         refine qn rfl (qn rfl (qn rfl (qn rfl (qn rfl (qn rfl (qn rfl (qn rfl (qn rfl (qn rfl (qn rfl (qn rfl (qn rfl (qp rfl (AQ (by kernel_rfl) ?_))))))))))))))
         exact Aw _ h (sm [] _ _ rfl rfl)
       ·refine An rfl (fun c26 => ?_) (fun c26 => ?_)
        ·have h := Am c26 h
         refine Ab (Aa Ac rfl (qm rfl (qm rfl (qm rfl (qm rfl (qm rfl ?_))))))
         obtain ⟨v27, a27, h⟩ := bind_some h
         refine CZ (ds0 := [_, _, _, _, _]) [90000] [] [true] (FE N v14 v1.2.1 v1.2.2.1 v11.2.1 p4 v27 a27) (.p rfl) XI rfl ⟨rfl, rfl, rfl, rfl, rfl, tv⟩ rfl rfl (by decide) ⟨rfl, tv⟩ rfl (Bm rfl) tv ⟨(fun h => by cases h), tv⟩ rfl rfl rfl ?_
         refine qa rfl (Ad (Ab (Aa Ac rfl (qm rfl (qa rfl (Ad (AY ?_)))))))
         exact Aw _ h (sm [] _ _ rfl rfl)
        ·have h := Al c26 h
         refine Ap (Ab (Aa Ac rfl (qm rfl (qm rfl (qm rfl (qm rfl (qm rfl ?_)))))))
         obtain ⟨v28, a28, h⟩ := bind_some h
         refine CZ (ds0 := [_, _, _, _, _]) [90000] [] [true] (GB N v14 v1.2.1 v1.2.2.1 v11.2.1 p4 v28 a28) (.p rfl) Yo rfl ⟨rfl, rfl, rfl, rfl, rfl, tv⟩ rfl rfl (by decide) ⟨rfl, tv⟩ rfl (Bm rfl) tv ⟨(fun h => by cases h), tv⟩ rfl rfl rfl ?_
         refine qm rfl (qx rfl (qx rfl (qa rfl (qa rfl (Ad (Ab (Aa Ac rfl (qm rfl (qa rfl (Ad (Ab (Aa Ac rfl (qm rfl (qm rfl (Cz rfl (qm rfl (qm rfl (Cz rfl (qa rfl (qa rfl (Ad (Ab (Aa Ac rfl (qm rfl (MU rfl (by decide) (qa rfl (Ad (Ab (Aa Ac rfl (qm rfl (qm rfl (A0 rfl (Ad ?_)))))))))))))))))))))))))))))))))
         refine An rfl (fun c29 => ?_) (fun c29 => ?_)
         ·have h := Am c29 h
          refine Ab (Aa Ac rfl (qm rfl (qm rfl (Df rfl (qa rfl (Ad (Ab (Aa Ac rfl (qm rfl (qm rfl (qm rfl (qm rfl (qm rfl ?_)))))))))))))
          obtain ⟨v30, a30, h⟩ := bind_some h
          refine CZ (ds0 := [_, _, _, _, _]) [90000] [] [true] (hrc v28.2.2 v1.2.1 v28.1 v7.2 p4 v30 a30) (.p rfl) VE rfl ⟨rfl, rfl, rfl, rfl, rfl, tv⟩ rfl rfl (by decide) ⟨rfl, tv⟩ rfl (Bm rfl) tv ⟨(fun h => by cases h), tv⟩ rfl rfl rfl ?_
          refine Ad (Aa Ac rfl (qm rfl (AX rfl (qa rfl (Ad ?_)))))
          exact Aw _ h (sm [] _ _ rfl rfl)
         ·have h := Al c29 h
          refine Ab (Aa Ac rfl (qm rfl (qm rfl (Df rfl (qa rfl (Ad (Ab (Aa Ac rfl (qm rfl (qm rfl (AX rfl (qm rfl (qm rfl (qm rfl ?_))))))))))))))
          obtain ⟨v31, a31, h⟩ := bind_some h
          refine CZ (ds0 := [_, _, _, _, _]) [90000] [] [true] (hrc v28.2.2 ((wI .i64 (v28.1 + 1))) v1.2.2.1 v7.2 p4 v31 a31) (.p rfl) VE rfl ⟨rfl, rfl, rfl, rfl, rfl, tv⟩ rfl rfl (by decide) ⟨rfl, tv⟩ rfl (Bm rfl) tv ⟨(fun h => by cases h), tv⟩ rfl rfl rfl ?_
          refine Ad (Aa Ac rfl (qm rfl (qa rfl (Ad ?_))))
          exact Aw _ h (sm [] _ _ rfl rfl)
 ·cases h
theorem EF (N : Nat) : ∀ (k : Nat) (p0 : List Ae) (p1 : Int) (p2 : Int) (p3 : Int) (p4 : (Ae × Ae) → Option Int) (r : (List Ae)), Gs.pdqsort_R N k p0 p1 p2 p3 p4 = some r → BG Tryz.prog 60 [oD (.own 90000), iD p1, iD p2, iD p3, oD (.clo (BT (Ek true Af true Af) CA p4))] [(.vec 3 (p0.map Af), .vec 3 (r.map Af))] [] (.tup [])
 | 0, _, _, _, _, _, _, h => by cases h
 | k + 1, p0, p1, p2, p3, p4, r, h => GA N (Gs.pdqsort_R N k) (EF N k) p0 p1 p2 p3 p4 r h
theorem G4 (N : Nat) (p0 : List Ae) (p1 : Int) (p2 : Int) (p3 : Int) (p4 : (Ae × Ae) → Option Int) (r : (List Ae)) (h : Gs.pdqsort N p0 p1 p2 p3 p4 = some r) : BG Tryz.prog 60 [oD (.own 90000), iD p1, iD p2, iD p3, oD (.clo (BT (Ek true Af true Af) CA p4))] [(.vec 3 (p0.map Af), .vec 3 (r.map Af))] [] (.tup []) := EF N N p0 p1 p2 p3 p4 r h
theorem EE (N : Nat) (p0 : List Ae) (p1 : (Ae × Ae) → Option Int) (r : (List Ae)) (h : Bk N p0 p1 = some r) : BG Tryz.prog 38 [oD (.own 90000), oD (.clo (BT (Ek true Af true Af) CA p1))] [(.vec 3 (p0.map Af), .vec 3 (r.map Af))] [] (.tup []) := by
 unfold Bk at h
 refine Bw (n := 14) (rs := []) Tryz.func38 rfl rfl rfl (A4 rfl) (A4 rfl) rfl rfl (A4 rfl) rfl (A4 rfl) fun w0 S0 GL => Nz ?_
 refine Ak (sm [] [(0, oD (.own 90000)), (1, oD (.clo (BT (Ek true Af true Af) CA p1)))] [(90000, .vec 3 (p0.map Af))] rfl rfl) (Ab (Aa Ac rfl (qm rfl (DD AN rfl (qa rfl (Ad (Aa Ac rfl (qm rfl (qm rfl (qm rfl (Gz VT N8 rfl ?_)))))))))))
 obtain ⟨v1, a1, h⟩ := bind_some h
 refine AH [] (Jh N ((wI .u64 ((p0.length : Int)))) v1 a1) Wn rfl (qm rfl ?_)
 obtain ⟨v2, a2, h⟩ := bind_some h
 refine CZ (ds0 := [_, _, _, _, _]) [90000] [] [true] (G4 N p0 0 ((p0.length : Int)) v1 p1 v2 a2) (.p rfl) VE rfl ⟨rfl, rfl, rfl, rfl, rfl, tv⟩ rfl rfl (by decide) ⟨rfl, tv⟩ rfl (Bm rfl) tv ⟨(fun h => by cases h), tv⟩ rfl rfl rfl ?_
 refine Ad ?_
 obtain rfl := sj h
 refine ⟨_, (sm [] [] [(90000, .vec 3 (v2.map Af))] rfl rfl), ?_⟩
 exact ⟨⟨[], tv, rfl⟩, ⟨rfl, tv⟩, tv⟩
theorem Jf (N : Nat) (p0 : Int) (r : Bool) (h : E7 N p0 = some r) : AB Tryz.prog 110 [iD p0] [] (bD r) := by
 unfold E7 at h
 refine Ar (n := 6) (rs := [.tmp 2]) Tryz.func110 rfl rfl rfl (A4 rfl) (A4 rfl) rfl fun w0 S0 => ?_
 refine Ab (Aa Ac rfl (qa rfl (Ad (Ab (Aa Ac rfl (qm rfl (qm rfl (B2 rfl (qa rfl (Ad ?_))))))))))
 obtain rfl := sj h
 refine Ak (sm [] [(2, bD ((p0 != p0)))] [] rfl rfl) (Az ?_)
 exact ⟨⟨[_], ⟨.tmp _ _ rfl, tv⟩, rfl⟩, tv⟩
theorem KQ (N : Nat) (p0 : Int) (p1 : Int) (r : Int) (h : EB N p0 p1 = some r) : AB Tryz.prog 91 [iD p0, iD p1] [] (iD r) := by
 unfold EB at h
 refine Ar (n := 20) (rs := [.tmp 4]) Tryz.func91 rfl rfl rfl (A4 rfl) (A4 rfl) rfl fun w0 S0 => ?_
 refine Ab (Aa Ac rfl (qa rfl (Ad (Ab (Aa Ac rfl (qm rfl ?_))))))
 obtain ⟨v1, a1, h⟩ := bind_some h
 refine AH [] (Jf N p0 v1 a1) U4 rfl (qa rfl (Ad (Ab (Aa Ac rfl (qm rfl ?_)))))
 obtain ⟨v2, a2, h⟩ := bind_some h
 refine AH [] (Jf N p1 v2 a2) U4 rfl (qa rfl (Ad (Ab (Ab (Aa Ac rfl (qm rfl (Ad ?_)))))))
 refine An rfl (fun c3 => ?_) (fun c3 => ?_)
 ·have h := Am c3 h
  refine Ab (Ab (Aa Ac rfl (qm rfl (Ad ?_))))
  refine An rfl (fun c4 => ?_) (fun c4 => ?_)
  ·have h := Am c4 h
   refine Ab (Aa Ac rfl (qa rfl (Ad ?_)))
   obtain rfl := sj h
   refine Ak (sm [] [(4, iD 0)] [] rfl rfl) (Az ?_)
   exact ⟨⟨[_], ⟨.tmp _ _ rfl, tv⟩, rfl⟩, tv⟩
  ·have h := Al c4 h
   refine Ap (Ab (Aa Ac rfl (qa rfl (Ad ?_))))
   obtain rfl := sj h
   refine Ak (sm [] [(4, iD ((-1)))] [] rfl rfl) (Az ?_)
   exact ⟨⟨[_], ⟨.tmp _ _ rfl, tv⟩, rfl⟩, tv⟩
 ·have h := Al c3 h
  refine Ap (Ab (Ab (Aa Ac rfl (qm rfl (Ad ?_)))))
  refine An rfl (fun c5 => ?_) (fun c5 => ?_)
  ·have h := Am c5 h
   refine Ab (Aa Ac rfl (qa rfl (Ad ?_)))
   obtain rfl := sj h
   refine Ak (sm [] [(4, iD 1)] [] rfl rfl) (Az ?_)
   exact ⟨⟨[_], ⟨.tmp _ _ rfl, tv⟩, rfl⟩, tv⟩
  ·have h := Al c5 h
   refine Ap (Ab (Ab (Aa Ac rfl (qm rfl (qm rfl (A0 rfl (Ad ?_)))))))
   refine An rfl (fun c6 => ?_) (fun c6 => ?_)
   ·have h := Am c6 h
    refine Ab (Aa Ac rfl (qa rfl (Ad ?_)))
    obtain rfl := sj h
    refine Ak (sm [] [(4, iD ((-1)))] [] rfl rfl) (Az ?_)
    exact ⟨⟨[_], ⟨.tmp _ _ rfl, tv⟩, rfl⟩, tv⟩
   ·have h := Al c6 h
    refine Ap (Ab (Ab (Aa Ac rfl (qm rfl (qm rfl (E0 rfl (Ad ?_)))))))
    refine An rfl (fun c7 => ?_) (fun c7 => ?_)
    ·have h := Am c7 h
     refine Ab (Aa Ac rfl (qa rfl (Ad ?_)))
     obtain rfl := sj h
     refine Ak (sm [] [(4, iD 1)] [] rfl rfl) (Az ?_)
     exact ⟨⟨[_], ⟨.tmp _ _ rfl, tv⟩, rfl⟩, tv⟩
    ·have h := Al c7 h
     refine Ap (Ab (Aa Ac rfl (qa rfl (Ad ?_))))
     obtain rfl := sj h
     refine Ak (sm [] [(4, iD 0)] [] rfl rfl) (Az ?_)
     exact ⟨⟨[_], ⟨.tmp _ _ rfl, tv⟩, rfl⟩, tv⟩
theorem FY (N : Nat) (p0 : List Int) (p1 : List Int) (r : Int) (h : Ct N p0 p1 = some r) : AB Tryz.prog 63 [pD (.sl (p0.map Ai)), pD (.sl (p1.map Ai))] [] (iD r) := by
 unfold Ct at h
 refine Ar (n := 36) (rs := [.tmp 4]) Tryz.func63 rfl rfl rfl (A4 rfl) (A4 rfl) rfl fun w0 S0 => ?_
 refine Ab (Aa Ac rfl (qa rfl (Ad (Ab (Ab (Aa Ac rfl (qm rfl (AW AJ rfl (qm rfl (Ad ?_))))))))))
 refine AM (L := B4 N p0 p1) h (fun v1 => mk [(0, pD (.sl (p0.map Ai))), (1, pD (.sl (p1.map Ai))), (9, pD (.sl (p0.map Ai))), (10, iD ((p0.length : Int))), (11, iD v1)] []) (fun v2 => mk [(0, pD (.sl (p0.map Ai))), (1, pD (.sl (p1.map Ai)))] []) (fun _ _ => rfl) (sm [] _ _ rfl rfl) (fun j1 n1 v1 h => ?_) (fun v2 s h hs => ?_)
 ·unfold B4 at h
  refine Ab (Aa Ac rfl (A0 rfl (Ad (Ab ?_))))
  refine An rfl (fun c3 => ?_) (fun c3 => ?_)
  ·have h := Am c3 h
   refine Ap (Ab (AR (Ab (Aa Ac rfl (qm rfl ?_)))))
   obtain ⟨v4, a4, b4, h⟩ := Aj h
   refine qi AJ Dh a4 (Ag b4) rfl (qk Cg rfl (qa rfl (qa rfl (Ad (Ab (Ab (Aa Ac rfl (qm rfl (qm rfl (AW AJ rfl (Df rfl (Ad ?_))))))))))))
   refine An rfl (fun c5 => ?_) (fun c5 => ?_)
   ·have h := Am c5 h
    refine Ab (Aa Ac rfl (qa rfl (Ad ?_)))
    obtain rfl := sj h
    refine Ak (sm [] [(4, iD 1)] [] rfl rfl) (Az ?_)
    exact ⟨⟨[_], ⟨.tmp _ _ rfl, tv⟩, rfl⟩, tv⟩
   ·have h := Al c5 h
    refine Ap (Ab (Aa Ac rfl (qm rfl (qm rfl ?_))))
    obtain ⟨v6, a6, b6, h⟩ := Aj h
    refine qi AJ Dh a6 (Ag b6) rfl (qk Cg rfl (qa rfl (Ad (Ab (Aa Ac rfl (qm rfl (qm rfl ?_)))))))
    obtain ⟨v7, a7, h⟩ := bind_some h
    refine AH [] (KQ N v4 v6 v7 a7) Yj rfl (qa rfl (Ad (Ab (Aa Ac rfl (qm rfl (B2 rfl (Ad ?_)))))))
    refine An rfl (fun c8 => ?_) (fun c8 => ?_)
    ·have h := Am c8 h
     refine Ab (Aa Ac rfl (qm rfl (qa rfl (Ad ?_))))
     obtain rfl := sj h
     refine Ak (sm [] [(4, iD v7)] [] rfl rfl) (Az ?_)
     exact ⟨⟨[_], ⟨.tmp _ _ rfl, tv⟩, rfl⟩, tv⟩
    ·have h := Al c8 h
     refine Ap (Aa Ac rfl (AX rfl (qm rfl (Ad ?_))))
     exact Aw _ h (sm [] _ _ rfl rfl)
  ·have h := Al c3 h
   refine AY ?_
   exact Aw _ h (sm [] _ _ rfl rfl)
 ·refine Ak hs (Ab (Ab (Aa Ac rfl (qm rfl (AW AJ rfl (qm rfl (AW AJ rfl (A0 rfl (Ad ?_)))))))))
  refine An rfl (fun c9 => ?_) (fun c9 => ?_)
  ·have h := Am c9 h
   refine Ab (Aa Ac rfl (qa rfl (Ad ?_)))
   obtain rfl := sj h
   refine Ak (sm [] [(4, iD ((-1)))] [] rfl rfl) (Az ?_)
   exact ⟨⟨[_], ⟨.tmp _ _ rfl, tv⟩, rfl⟩, tv⟩
  ·have h := Al c9 h
   refine Ap (Ab (Aa Ac rfl (qa rfl (Ad ?_))))
   obtain rfl := sj h
   refine Ak (sm [] [(4, iD 0)] [] rfl rfl) (Az ?_)
   exact ⟨⟨[_], ⟨.tmp _ _ rfl, tv⟩, rfl⟩, tv⟩
theorem HC (N : Nat) (p0 : Int) (r : Bool) (h : Ef N p0 = some r) : AB Tryz.prog 111 [pD (.val (.int .u8 p0))] [] (bD r) := by
 unfold Ef at h
 refine Ar (n := 6) (rs := [.tmp 2]) Tryz.func111 rfl rfl rfl (A4 rfl) (A4 rfl) rfl fun w0 S0 => ?_
 refine Ab (Aa Ac rfl (qa rfl (Ad (Ab (Aa Ac rfl (qm rfl (qm rfl (B2 rfl (qa rfl (Ad ?_))))))))))
 obtain rfl := sj h
 refine Ak (sm [] [(2, bD ((p0 != p0)))] [] rfl rfl) (Az ?_)
 exact ⟨⟨[_], ⟨.tmp _ _ rfl, tv⟩, rfl⟩, tv⟩
theorem Jj (N : Nat) (p0 : Int) (p1 : Int) (r : Int) (h : Dy N p0 p1 = some r) : AB Tryz.prog 92 [pD (.val (.int .u8 p0)), pD (.val (.int .u8 p1))] [] (iD r) := by
 unfold Dy at h
 refine Ar (n := 20) (rs := [.tmp 4]) Tryz.func92 rfl rfl rfl (A4 rfl) (A4 rfl) rfl fun w0 S0 => ?_
 refine Ab (Aa Ac rfl (qa rfl (Ad (Ab (Aa Ac rfl (qm rfl ?_))))))
 obtain ⟨v1, a1, h⟩ := bind_some h
 refine AH [] (HC N p0 v1 a1) Va rfl (qa rfl (Ad (Ab (Aa Ac rfl (qm rfl ?_)))))
 obtain ⟨v2, a2, h⟩ := bind_some h
 refine AH [] (HC N p1 v2 a2) Va rfl (qa rfl (Ad (Ab (Ab (Aa Ac rfl (qm rfl (Ad ?_)))))))
 refine An rfl (fun c3 => ?_) (fun c3 => ?_)
 ·have h := Am c3 h
  refine Ab (Ab (Aa Ac rfl (qm rfl (Ad ?_))))
  refine An rfl (fun c4 => ?_) (fun c4 => ?_)
  ·have h := Am c4 h
   refine Ab (Aa Ac rfl (qa rfl (Ad ?_)))
   obtain rfl := sj h
   refine Ak (sm [] [(4, iD 0)] [] rfl rfl) (Az ?_)
   exact ⟨⟨[_], ⟨.tmp _ _ rfl, tv⟩, rfl⟩, tv⟩
  ·have h := Al c4 h
   refine Ap (Ab (Aa Ac rfl (qa rfl (Ad ?_))))
   obtain rfl := sj h
   refine Ak (sm [] [(4, iD ((-1)))] [] rfl rfl) (Az ?_)
   exact ⟨⟨[_], ⟨.tmp _ _ rfl, tv⟩, rfl⟩, tv⟩
 ·have h := Al c3 h
  refine Ap (Ab (Ab (Aa Ac rfl (qm rfl (Ad ?_)))))
  refine An rfl (fun c5 => ?_) (fun c5 => ?_)
  ·have h := Am c5 h
   refine Ab (Aa Ac rfl (qa rfl (Ad ?_)))
   obtain rfl := sj h
   refine Ak (sm [] [(4, iD 1)] [] rfl rfl) (Az ?_)
   exact ⟨⟨[_], ⟨.tmp _ _ rfl, tv⟩, rfl⟩, tv⟩
  ·have h := Al c5 h
   refine Ap (Ab (Ab (Aa Ac rfl (qm rfl (qm rfl (A0 rfl (Ad ?_)))))))
   refine An rfl (fun c6 => ?_) (fun c6 => ?_)
   ·have h := Am c6 h
    refine Ab (Aa Ac rfl (qa rfl (Ad ?_)))
    obtain rfl := sj h
    refine Ak (sm [] [(4, iD ((-1)))] [] rfl rfl) (Az ?_)
    exact ⟨⟨[_], ⟨.tmp _ _ rfl, tv⟩, rfl⟩, tv⟩
   ·have h := Al c6 h
    refine Ap (Ab (Ab (Aa Ac rfl (qm rfl (qm rfl (E0 rfl (Ad ?_)))))))
    refine An rfl (fun c7 => ?_) (fun c7 => ?_)
    ·have h := Am c7 h
     refine Ab (Aa Ac rfl (qa rfl (Ad ?_)))
     obtain rfl := sj h
     refine Ak (sm [] [(4, iD 1)] [] rfl rfl) (Az ?_)
     exact ⟨⟨[_], ⟨.tmp _ _ rfl, tv⟩, rfl⟩, tv⟩
    ·have h := Al c7 h
     refine Ap (Ab (Aa Ac rfl (qa rfl (Ad ?_))))
     obtain rfl := sj h
     refine Ak (sm [] [(4, iD 0)] [] rfl rfl) (Az ?_)
     exact ⟨⟨[_], ⟨.tmp _ _ rfl, tv⟩, rfl⟩, tv⟩
theorem GI (N : Nat) (p0 : List Int) (p1 : List Int) (r : Int) (h : B1 N p0 p1 = some r) : AB Tryz.prog 64 [pD (.sl (p0.map Bj)), pD (.sl (p1.map Bj))] [] (iD r) := by
 unfold B1 at h
 refine Ar (n := 36) (rs := [.tmp 4]) Tryz.func64 rfl rfl rfl (A4 rfl) (A4 rfl) rfl fun w0 S0 => ?_
 refine Ab (Aa Ac rfl (qa rfl (Ad (Ab (Ab (Aa Ac rfl (qm rfl (AW CQ rfl (qm rfl (Ad ?_))))))))))
 refine AM (L := Br N p0 p1) h (fun v1 => mk [(0, pD (.sl (p0.map Bj))), (1, pD (.sl (p1.map Bj))), (9, pD (.sl (p0.map Bj))), (10, iD ((p0.length : Int))), (11, iD v1)] []) (fun v2 => mk [(0, pD (.sl (p0.map Bj))), (1, pD (.sl (p1.map Bj)))] []) (fun _ _ => rfl) (sm [] _ _ rfl rfl) (fun j1 n1 v1 h => ?_) (fun v2 s h hs => ?_)
 ·unfold Br at h
  refine Ab (Aa Ac rfl (A0 rfl (Ad (Ab ?_))))
  refine An rfl (fun c3 => ?_) (fun c3 => ?_)
  ·have h := Am c3 h
   refine Ap (Ab (AR (Ab (Aa Ac rfl (qm rfl ?_)))))
   obtain ⟨v4, a4, b4, h⟩ := Aj h
   refine qi CQ Fo a4 (Ag b4) rfl (qk IY rfl (qa rfl (qa rfl (Ad (Ab (Ab (Aa Ac rfl (qm rfl (qm rfl (AW CQ rfl (Df rfl (Ad ?_))))))))))))
   refine An rfl (fun c5 => ?_) (fun c5 => ?_)
   ·have h := Am c5 h
    refine Ab (Aa Ac rfl (qa rfl (Ad ?_)))
    obtain rfl := sj h
    refine Ak (sm [] [(4, iD 1)] [] rfl rfl) (Az ?_)
    exact ⟨⟨[_], ⟨.tmp _ _ rfl, tv⟩, rfl⟩, tv⟩
   ·have h := Al c5 h
    refine Ap (Ab (Aa Ac rfl (qm rfl (qm rfl ?_))))
    obtain ⟨v6, a6, b6, h⟩ := Aj h
    refine qi CQ Fo a6 (Ag b6) rfl (qk IY rfl (qa rfl (Ad (Ab (Aa Ac rfl (qm rfl (qm rfl ?_)))))))
    obtain ⟨v7, a7, h⟩ := bind_some h
    refine AH [] (Jj N v4 v6 v7 a7) XE rfl (qa rfl (Ad (Ab (Aa Ac rfl (qm rfl (B2 rfl (Ad ?_)))))))
    refine An rfl (fun c8 => ?_) (fun c8 => ?_)
    ·have h := Am c8 h
     refine Ab (Aa Ac rfl (qm rfl (qa rfl (Ad ?_))))
     obtain rfl := sj h
     refine Ak (sm [] [(4, iD v7)] [] rfl rfl) (Az ?_)
     exact ⟨⟨[_], ⟨.tmp _ _ rfl, tv⟩, rfl⟩, tv⟩
    ·have h := Al c8 h
     refine Ap (Aa Ac rfl (AX rfl (qm rfl (Ad ?_))))
     exact Aw _ h (sm [] _ _ rfl rfl)
  ·have h := Al c3 h
   refine AY ?_
   exact Aw _ h (sm [] _ _ rfl rfl)
 ·refine Ak hs (Ab (Ab (Aa Ac rfl (qm rfl (AW CQ rfl (qm rfl (AW CQ rfl (A0 rfl (Ad ?_)))))))))
  refine An rfl (fun c9 => ?_) (fun c9 => ?_)
  ·have h := Am c9 h
   refine Ab (Aa Ac rfl (qa rfl (Ad ?_)))
   obtain rfl := sj h
   refine Ak (sm [] [(4, iD ((-1)))] [] rfl rfl) (Az ?_)
   exact ⟨⟨[_], ⟨.tmp _ _ rfl, tv⟩, rfl⟩, tv⟩
  ·have h := Al c9 h
   refine Ap (Ab (Aa Ac rfl (qa rfl (Ad ?_))))
   obtain rfl := sj h
   refine Ak (sm [] [(4, iD 0)] [] rfl rfl) (Az ?_)
   exact ⟨⟨[_], ⟨.tmp _ _ rfl, tv⟩, rfl⟩, tv⟩
theorem Po (N : Nat) (p0 : List Int) (r : Int) (h : F1 N p0 = some r) : AB Tryz.prog 62 [pD (.sl (p0.map Ai))] [] (iD r) := by
 unfold F1 at h
 refine Ar (n := 18) (rs := [.tmp 2]) Tryz.func62 rfl rfl rfl (A4 rfl) (A4 rfl) rfl fun w0 S0 => ?_
 refine Ab (Aa Ac rfl (qa rfl (Ad (Ab (Aa Ac rfl (qa rfl (Ad (Ab (Ab (Aa Ac rfl (qm rfl (AW AJ rfl (qm rfl (Ad ?_))))))))))))))
 refine AM (L := Es N p0) h (fun v1 => mk [(3, iD 0), (6, pD (.sl (p0.map Ai))), (7, iD ((p0.length : Int))), (8, iD v1)] []) (fun v2 => mk [(3, iD 0)] []) (fun _ _ => rfl) (sm [] _ _ rfl rfl) (fun j1 n1 v1 h => ?_) (fun v2 s h hs => ?_)
 ·unfold Es at h
  refine Ab (Aa Ac rfl (A0 rfl (Ad (Ab ?_))))
  refine An rfl (fun c3 => ?_) (fun c3 => ?_)
  ·have h := Am c3 h
   refine Ap (Ab (AR (Ab (Aa Ac rfl ?_))))
   obtain ⟨v4, a4, b4, h⟩ := Aj h
   refine qi AJ Dh a4 (Ag b4) rfl (qk Cg rfl (qa rfl (Ad (Ab (Aa Ac rfl (qm rfl (qm rfl (B2 rfl (Ad ?_)))))))))
   refine An rfl (fun c5 => ?_) (fun c5 => ?_)
   ·have h := Am c5 h
    refine Ab (Aa Ac rfl (qm rfl (qa rfl (Ad ?_))))
    obtain rfl := sj h
    refine Ak (sm [] [(2, iD v4)] [] rfl rfl) (Az ?_)
    exact ⟨⟨[_], ⟨.tmp _ _ rfl, tv⟩, rfl⟩, tv⟩
   ·have h := Al c5 h
    refine Ap (Aa Ac rfl (AX rfl (qm rfl (Ad ?_))))
    exact Aw _ h (sm [] _ _ rfl rfl)
  ·have h := Al c3 h
   refine AY ?_
   exact Aw _ h (sm [] _ _ rfl rfl)
 ·refine Ak hs (Ab (Aa Ac rfl (qm rfl (qa rfl (Ad ?_)))))
  obtain rfl := sj h
  refine Ak (sm [] [(2, iD 0)] [] rfl rfl) (Az ?_)
  exact ⟨⟨[_], ⟨.tmp _ _ rfl, tv⟩, rfl⟩, tv⟩
theorem It (N : Nat) (p0 : Ae) (p1 : Ae) (r : Int) (h : Cl N p0 p1 = some r) : AB Tryz.prog 39 [.e (.agg [sC (p0.fBase.map Ai), sC (p0.fNext.map Ai), sC (p0.fHeld.map Bj)]), .e (.agg [sC (p1.fBase.map Ai), sC (p1.fNext.map Ai), sC (p1.fHeld.map Bj)])] [] (iD r) := by
 unfold Cl at h
 refine Ar (n := 22) (rs := [.tmp 4]) Tryz.func39 rfl rfl rfl (A4 rfl) (A4 rfl) rfl fun w0 S0 => ?_
 refine Ab (Aa Ac rfl (qb rfl (qb rfl (qa rfl (Ad (Ab (Aa Ac rfl (qf CE rfl (ql Bh rfl (qf CE rfl (ql Bh rfl ?_)))))))))))
 obtain ⟨v1, a1, h⟩ := bind_some h
 refine AH [] (FY N p0.fBase p1.fBase v1 a1) Wq rfl (qf BB rfl (ql Bh rfl (qf BB rfl (ql Bh rfl ?_))))
 obtain ⟨v2, a2, h⟩ := bind_some h
 refine AH [] (FY N p0.fNext p1.fNext v2 a2) Wq rfl (qf Cn rfl (ql Gr rfl (qf Cn rfl (ql Gr rfl ?_))))
 obtain ⟨v3, a3, h⟩ := bind_some h
 refine AH [] (GI N p0.fHeld p1.fHeld v3 a3) Yt rfl (DX AJ Dh Km rfl ?_)
 obtain ⟨v4, a4, h⟩ := bind_some h
 refine F9 [] [20] (Po N (([v1, v2, v3] : List Int)) v4 a4) XN EJ rfl (qa rfl (AQ (by kernel_rfl) ?_))
 obtain rfl := sj h
 refine Ak (sm [] [(4, iD v4)] [] rfl rfl) (Az ?_)
 exact ⟨⟨[_], ⟨.tmp _ _ rfl, tv⟩, rfl⟩, tv⟩
theorem Jp (N : Nat) (p0 : Ah) (r : (List Ae) × Int) (h : Ga N p0 = some r) : AB Tryz.prog 18 [.e (.agg [sC (p0.fVersions.map Ai), sC (p0.fNow.map Ai), sC (p0.fTarget.map Ai), sC (p0.fTables.map Ao)])] [(3, r.1.map Af)] (.tup [.one (.own 0), .one (iC r.2)]) := by
 unfold Ga at h
 refine Ar (n := 73) (rs := [.tmp 2, .tmp 3]) Tryz.func18 rfl rfl rfl (A4 rfl) (A4 rfl) rfl fun w0 S0 => ?_
 refine Ab (Aa Ac rfl (qb rfl (qa rfl (qa rfl (Ad (Ab (Aa Ac rfl (qL Ec DQ rfl ?_))))))))
 obtain ⟨v1, a1, h⟩ := bind_some h
 refine AH [2001, 2002, 2003] (J8 N p0 v1 a1) Xa rfl (qm rfl (qx rfl (qx rfl (qx rfl (qz Cm rfl (qs Ay rfl (qa rfl (qa rfl (Ad (Ab ?_))))))))))
 refine AT h (fun v2 => mk [(1, oD (.ptr 1 0)), (4, oD (.ptr 4 0)), (6, iD v1.2.2), (25, bD v2)] [(1, .box [sC (p0.fVersions.map Ai), sC (p0.fNow.map Ai), sC (p0.fTarget.map Ai), sC (p0.fTables.map Ao)]), (4, .box [.own 2004, .own 2005, .own 2006]), (2004, .vec 1 (v1.1.fBase.map Ai)), (2005, .vec 1 (v1.1.fNext.map Ai)), (2006, .vec 1 (v1.1.fHeld.map Bj))]) (fun j2 h => ?_) (fun v2 h => ?_)
 ·refine Aa Ac rfl (qm rfl (B2 rfl (qm rfl ?_)))
  refine AF (t := 22) rfl (fun c3 => ?_) (fun c3 => ?_)
  ·have h := Am c3 h
   refine qn rfl (qn rfl (qp rfl (Ad ?_)))
   exact Aw _ h (sm [(2004, 2001), (2005, 2002), (2006, 2003)] _ _ rfl rfl)
  ·have h := Al c3 h
   refine qm rfl (Cd rfl (qp rfl (Ad ?_)))
   exact Aw _ h (sm [(2004, 2001), (2005, 2002), (2006, 2003)] _ _ rfl rfl)
 ·refine An rfl (fun c4 => ?_) (fun c4 => ?_)
  ·have h := Am c4 h
   refine Ab (Aa Ac rfl (qm rfl (qa rfl (qa rfl (Ad ?_)))))
   obtain rfl := sj h
   refine Ak ((Bg 2 2007 3 rfl rfl rfl).trans (sm [(1000, 2007)] [(2, oD (.own 1000)), (3, iD v1.2.2)] [(1000, .vec 3 ((([] : List Ae)).map Af))] rfl rfl)) (Az ?_)
   exact ⟨⟨[_, _], ⟨.tmp _ _ rfl, ⟨.tmp _ _ rfl, tv⟩⟩, rfl⟩, ⟨rfl, tv⟩⟩
  ·have h := Al c4 h
   refine Ap (Ab (Aa Ac rfl (qL A1 Ay rfl (CJ (A3 2004 _ _ rfl rfl) (CJ (A3 2005 _ _ rfl rfl) (CJ (A3 2006 _ _ rfl rfl) (DX AN Ay Cm rfl (qa rfl (Ad (Ab (Aa Ac rfl ?_)))))))))))
   refine RT (.p rfl) rfl ?_
   refine qL A1 Ay rfl ?_
   obtain ⟨v5, a5, h⟩ := bind_some h
   refine AH [] (Jw N v1.1 v5 a5) Vs rfl ?_
   refine PF (kv := Value.string) (vt := tB) (m := ([] : List (ByteArray × Bool))) (k := v5) (v := true) rfl (.inr rfl) rfl rfl rfl rfl (Lf Rz VU) rfl ?_
   refine qm rfl (qa rfl (Ad (Ab (Ab (Aa Ac rfl (qa rfl (Ad ?_)))))))
   refine AM (L := Fk N p0) h (fun v6 => mk [(1, oD (.ptr 1 0)), (7, oD (.own 2008)), (8, oD (.mref 2009)), (9, iD v6.2.2)] [(1, .box [sC (p0.fVersions.map Ai), sC (p0.fNow.map Ai), sC (p0.fTarget.map Ai), sC (p0.fTables.map Ao)]), (2008, .vec 3 (v6.1.map Af)), (2009, .mp (II Value.string tB v6.2.1))]) (fun v7 => mk [(7, oD (.own 2010))] [(2010, .vec 3 (v7.map Af))]) (fun _ _ => rfl) (sm [(2008, 28), (2009, 29)] _ _ rfl rfl) (fun j6 n6 v6 h => ?_) (fun v7 s h hs => ?_)
   ·unfold Fk at h
    refine Ab (Ab (Aa Ac rfl (qm rfl (qm rfl (DD AN rfl (A0 rfl (Ad ?_)))))))
    refine An rfl (fun c8 => ?_) (fun c8 => ?_)
    ·have h := Am c8 h
     refine Ap (Ab (AR (Ab (Aa Ac rfl (qL Ec DQ rfl (qm rfl (qm rfl ?_)))))))
     obtain ⟨v9, a9, b9, h⟩ := Aj h
     refine qI AN Ay a9 (Ag b9) rfl (qJ A1 Ay (Ag b9) rfl ?_)
     obtain ⟨v10, a10, h⟩ := bind_some h
     refine AH [2011, 2012] (K8 N p0 v9 v10 a10) Wg rfl (qm rfl (qx rfl (qx rfl (qa rfl (qa rfl (AQ (by kernel_rfl) (Ab (Ab (Aa Ac rfl (qm rfl (DD AN rfl (qm rfl (Ad ?_)))))))))))))
     refine AM (L := E2 N v10) h (fun v11 => mk [(1, oD (.ptr 1 0)), (7, oD (.own 2013)), (8, oD (.mref 2014)), (9, iD v6.2.2), (48, oD (.own 2015)), (49, iD ((v10.2.length : Int))), (50, iD v11.2.2)] [(1, .box [sC (p0.fVersions.map Ai), sC (p0.fNow.map Ai), sC (p0.fTarget.map Ai), sC (p0.fTables.map Ao)]), (2013, .vec 3 (v11.1.map Af)), (2014, .mp (II Value.string tB v11.2.1)), (2015, .vec 3 (v10.2.map Af))]) (fun v12 => mk [(1, oD (.ptr 1 0)), (7, oD (.own 2016)), (8, oD (.mref 2017)), (9, iD v6.2.2)] [(1, .box [sC (p0.fVersions.map Ai), sC (p0.fNow.map Ai), sC (p0.fTarget.map Ai), sC (p0.fTables.map Ao)]), (2016, .vec 3 (v12.1.map Af)), (2017, .mp (II Value.string tB v12.2))]) (fun _ _ => rfl) (sm [(2013, 2008), (2014, 2009), (2015, 2012)] _ _ rfl rfl) (fun j11 n11 v11 h => ?_) (fun v12 s h hs => ?_)
     ·unfold E2 at h
      refine Ab (Aa Ac rfl (A0 rfl (Ad (Ab ?_))))
      refine An rfl (fun c13 => ?_) (fun c13 => ?_)
      ·have h := Am c13 h
       refine Ap ?_
       refine AT h (fun v14 => mk [(1, oD (.ptr 1 0)), (7, oD (.own 2018)), (8, oD (.mref 2019)), (9, iD v6.2.2), (48, oD (.own 2020)), (49, iD ((v10.2.length : Int))), (50, iD v11.2.2)] [(1, .box [sC (p0.fVersions.map Ai), sC (p0.fNow.map Ai), sC (p0.fTarget.map Ai), sC (p0.fTables.map Ao)]), (2018, .vec 3 (v14.1.map Af)), (2019, .mp (II Value.string tB v14.2)), (2020, .vec 3 (v10.2.map Af))]) (fun j14 h => ?_) (fun v14 h => ?_)
       ·refine AR (Ab (Aa Ac rfl ?_))
        obtain ⟨v15, a15, b15, h⟩ := Aj h
        refine qI AN Ay a15 (Ag b15) rfl (qJ A1 Ay (Ag b15) rfl (qz Cm rfl (qs Ay rfl (Ad (Ab (Aa Ac rfl (qm rfl (qL A1 Ay rfl ?_))))))))
        obtain ⟨v16, a16, h⟩ := bind_some h
        refine AH [] (Jw N v15 v16 a16) Vs rfl ?_
        refine Ts (kv := Value.string) (vt := tB) (m := v11.2.1) (dv := false) (.p rfl) rfl rfl rfl (Lf Rz VU) (by rw [Rz]; rfl) Up rfl rfl rfl ?_
        refine Cd rfl (Ad ?_)
        refine An rfl (fun c17 => ?_) (fun c17 => ?_)
        ·have h := Am c17 h
         refine Ab (Aa Ac rfl (qm rfl (qL A1 Ay rfl ?_)))
         obtain ⟨v18, a18, h⟩ := bind_some h
         refine AH [] (Jw N v15 v18 a18) Vs rfl ?_
         refine PF (kv := Value.string) (vt := tB) (m := v11.2.1) (k := v18) (v := true) rfl (.inl rfl) rfl rfl rfl rfl (Lf Rz VU) rfl ?_
         refine Ad (Aa Ac rfl (qm rfl (qL A1 Ay rfl (DX AN Ay Cm rfl ?_))))
         obtain ⟨c19, h⟩ := AL h
         refine De (f := Af) AN AN Ay Jl Cm c19 rfl (qa rfl (Ad ?_))
         exact Aw _ h (sm [(2018, 65), (2019, 2014), (2020, 2015)] _ _ rfl rfl)
        ·have h := Al c17 h
         refine Ap ?_
         exact Aw _ h (sm [(2018, 2013), (2019, 2014), (2020, 2015)] _ _ rfl rfl)
       ·refine Aa Ac rfl (AX rfl (qm rfl (Ad ?_)))
        exact Aw _ h (sm [(2013, 2018), (2014, 2019), (2015, 2020)] _ _ rfl rfl)
      ·have h := Al c13 h
       refine AY ?_
       exact Aw _ h (sm [(2016, 2013), (2017, 2014)] _ _ rfl rfl)
     ·refine Ak hs (Ab (Aa Ac rfl (qm rfl (DD AN rfl (E0 rfl (Ad ?_))))))
      refine An rfl (fun c20 => ?_) (fun c20 => ?_)
      ·have h := Am c20 h
       refine Ab (Aa Ac rfl (qa rfl (qa rfl (Ad ?_))))
       obtain rfl := sj h
       refine Ak ((Bg 2 2021 3 rfl rfl rfl).trans (sm [(1000, 2021)] [(2, oD (.own 1000)), (3, iD 3)] [(1000, .vec 3 ((([] : List Ae)).map Af))] rfl rfl)) (Az ?_)
       exact ⟨⟨[_, _], ⟨.tmp _ _ rfl, ⟨.tmp _ _ rfl, tv⟩⟩, rfl⟩, ⟨rfl, tv⟩⟩
      ·have h := Al c20 h
       refine Ap (Aa Ac rfl (qm rfl (AX rfl (qa rfl (Ad ?_)))))
       exact Aw _ h (sm [(2008, 2016), (2009, 2017)] _ _ rfl rfl)
    ·have h := Al c8 h
     refine AY ?_
     exact Aw _ h (sm [(2010, 2008)] _ _ rfl rfl)
   ·refine Ak hs (Ab (Aa Ac rfl (qm rfl ?_)))
    obtain ⟨v21, a21, h⟩ := bind_some h
    refine CZ (ds0 := [_, _]) [2010] [] [true] (BG.weak (ds' := [_, oD (.fnc 39)]) (EE N v7 ((fun (x : Ae × Ae) => Cl N x.1 x.2)) v21 a21) ⟨(fun _ _ _ hh => hh), (fun _ _ _ hh => Nw VA (fun ar t ht => by obtain ⟨x, r, rfl, hq, rfl⟩ := IJ ht; exact It N x.1 x.2 r hq) hh), tv⟩) (.p rfl) Wv rfl ⟨rfl, rfl, tv⟩ rfl rfl (by decide) ⟨rfl, tv⟩ rfl (Bm rfl) tv ⟨(fun h => by cases h), tv⟩ rfl rfl rfl ?_
    refine Ad (Ab (Aa Ac rfl (qm rfl (qa rfl (qa rfl (Ad ?_))))))
    obtain rfl := sj h
    refine Ak (sm [(1000, 2010)] [(2, oD (.own 1000)), (3, iD 0)] [(1000, .vec 3 (v21.map Af))] rfl rfl) (Az ?_)
    exact ⟨⟨[_, _], ⟨.tmp _ _ rfl, ⟨.tmp _ _ rfl, tv⟩⟩, rfl⟩, ⟨rfl, tv⟩⟩
theorem OD (N : Nat) (p0 : Ah) (p1 : List Int) (r : (List Au) × Int) (h : Iu N p0 p1 = some r) : AB Tryz.prog 20 [.e (.agg [sC (p0.fVersions.map Ai), sC (p0.fNow.map Ai), sC (p0.fTarget.map Ai), sC (p0.fTables.map Ao)]), pD (.sl (p1.map Bj))] [(3, r.1.map AP)] (.tup [.one (.own 0), .one (iC r.2)]) := by
 unfold Iu at h
 refine Ar (n := 61) (rs := [.tmp 4, .tmp 5]) Tryz.func20 rfl rfl rfl (A4 rfl) (A4 rfl) rfl fun w0 S0 => ?_
 refine Ab (Aa Ac rfl (qb rfl (qa rfl (qa rfl (Ad (Ab (Aa Ac rfl (qL Ec DQ rfl ?_))))))))
 obtain ⟨v1, a1, h⟩ := bind_some h
 refine AH [2001, 2002, 2003] (J8 N p0 v1 a1) Xa rfl (qm rfl (qx rfl (qx rfl (qx rfl (qz Cm rfl (qs Ay rfl (qa rfl (qa rfl (Ad (Ab ?_))))))))))
 refine AT h (fun v2 => mk [(1, pD (.sl (p1.map Bj))), (2, oD (.ptr 2 0)), (6, oD (.ptr 6 0)), (8, iD v1.2.2), (26, bD v2)] [(2, .box [sC (p0.fVersions.map Ai), sC (p0.fNow.map Ai), sC (p0.fTarget.map Ai), sC (p0.fTables.map Ao)]), (6, .box [.own 2004, .own 2005, .own 2006]), (2004, .vec 1 (v1.1.fBase.map Ai)), (2005, .vec 1 (v1.1.fNext.map Ai)), (2006, .vec 1 (v1.1.fHeld.map Bj))]) (fun j2 h => ?_) (fun v2 h => ?_)
 ·refine Aa Ac rfl (qm rfl (B2 rfl (qm rfl ?_)))
  refine AF (t := 23) rfl (fun c3 => ?_) (fun c3 => ?_)
  ·have h := Am c3 h
   refine qn rfl (qn rfl (qp rfl (Ad ?_)))
   exact Aw _ h (sm [(2004, 2001), (2005, 2002), (2006, 2003)] _ _ rfl rfl)
  ·have h := Al c3 h
   refine qm rfl (Cd rfl (qp rfl (Ad ?_)))
   exact Aw _ h (sm [(2004, 2001), (2005, 2002), (2006, 2003)] _ _ rfl rfl)
 ·refine An rfl (fun c4 => ?_) (fun c4 => ?_)
  ·have h := Am c4 h
   refine Ab (Aa Ac rfl (qm rfl (qa rfl (qa rfl (Ad ?_)))))
   obtain rfl := sj h
   refine Ak ((Bg 4 2007 3 rfl rfl rfl).trans (sm [(1000, 2007)] [(4, oD (.own 1000)), (5, iD v1.2.2)] [(1000, .vec 3 ((([] : List Au)).map AP))] rfl rfl)) (Az ?_)
   exact ⟨⟨[_, _], ⟨.tmp _ _ rfl, ⟨.tmp _ _ rfl, tv⟩⟩, rfl⟩, ⟨rfl, tv⟩⟩
  ·have h := Al c4 h
   refine Ap (Ab (Aa Ac rfl (qa rfl (Ad (Ab (Ab (Aa Ac rfl (qm rfl (AW Ik rfl (qm rfl (Ad ?_)))))))))))
   refine AM (L := FL N p0 p1) h (fun v5 => mk [(2, oD (.ptr 2 0)), (6, oD (.ptr 6 0)), (9, oD (.own 2008)), (28, pD (.sl (p1.map Bj))), (29, iD ((p1.length : Int))), (30, iD v5.2.2.2.2)] [(2, .box [sC (p0.fVersions.map Ai), sC (p0.fNow.map Ai), sC (p0.fTarget.map Ai), sC (p0.fTables.map Ao)]), (6, .box [sC (v5.1.map Ai), sC (v5.2.1.map Ai), sC (v5.2.2.1.map Bj)]), (2008, .vec 3 (v5.2.2.2.1.map AP))]) (fun v6 => mk [(9, oD (.own 2009))] [(2009, .vec 3 (v6.map AP))]) (fun _ _ => rfl) ((Bg 9 2012 3 rfl rfl rfl).trans ((A3 2004 _ _ rfl rfl).trans ((A3 2005 _ _ rfl rfl).trans ((A3 2006 _ _ rfl rfl).trans (sm [(2008, 2012)] _ _ rfl rfl))))) (fun j5 n5 v5 h => ?_) (fun v6 s h hs => ?_)
   ·unfold FL at h
    refine Ab (Aa Ac rfl (A0 rfl (Ad (Ab ?_))))
    refine An rfl (fun c7 => ?_) (fun c7 => ?_)
    ·have h := Am c7 h
     refine Ap (Ab (AR (Ab (Aa Ac rfl ?_))))
     obtain ⟨v8, a8, b8, h⟩ := Aj h
     refine qi Ik U2 a8 (Ag b8) rfl (qk V6 rfl (qa rfl (Ad (Ab (Aa Ac rfl (qL Ec DQ rfl (qL A1 Ay rfl ?_)))))))
     obtain ⟨v9, a9, h⟩ := bind_some h
     refine AH [2010, 2011] (K8 N p0 ((Ae.mk v5.1 v5.2.1 v5.2.2.1)) v9 a9) Wg rfl (qm rfl (qx rfl (qx rfl (qa rfl (qa rfl (Ad (Ab (Ab (Aa Ac rfl (qm rfl (DD Dp rfl (BE rfl (Ad ?_)))))))))))))
     refine An rfl (fun c10 => ?_) (fun c10 => ?_)
     ·have h := Am c10 h
      refine AY ?_
      exact Aw _ h (sm [(2009, 2008)] _ _ rfl rfl)
     ·have h := Al c10 h
      refine Ap (Ab (Aa Ac rfl (qm rfl (Gz UR R7 rfl (qm rfl (DD Dp rfl ?_))))))
      obtain ⟨c11, h⟩ := AL h
      refine J2 rfl c11 (qa rfl (Ad (Aa Ac rfl (qm rfl (qm rfl (qm rfl ?_))))))
      obtain ⟨v12, a12, b12, h⟩ := Aj h
      refine qI Dp EH a12 (Ag b12) rfl (qJ IV EH (Ag b12) rfl (DX Dp EH Ix rfl ?_))
      obtain ⟨c13, h⟩ := AL h
      refine De (f := AP) Dp Dp EH NX Ix c13 rfl (qm rfl (qm rfl ?_))
      obtain ⟨v14, a14, b14, h⟩ := Aj h
      refine qI AN Ay a14 (Ag b14) rfl (qJ A1 Ay (Ag b14) rfl (qa rfl (qs Ay rfl (AQ (by kernel_rfl) (Aa Ac rfl (AX rfl (qm rfl (Ad ?_))))))))
      exact Aw _ h (sm [(2008, 54)] _ _ rfl rfl)
    ·have h := Al c7 h
     refine AY ?_
     exact Aw _ h (sm [(2009, 2008)] _ _ rfl rfl)
   ·refine Ak hs (Ab (Aa Ac rfl (qm rfl (qa rfl (qa rfl (Ad ?_))))))
    obtain rfl := sj h
    refine Ak (sm [(1000, 2009)] [(4, oD (.own 1000)), (5, iD 0)] [(1000, .vec 3 (v6.map AP))] rfl rfl) (Az ?_)
    exact ⟨⟨[_, _], ⟨.tmp _ _ rfl, ⟨.tmp _ _ rfl, tv⟩⟩, rfl⟩, ⟨rfl, tv⟩⟩
theorem QL (N : Nat) (p0 : Ah) (p1 : Ae) (p2 : List Au) (r : (List Ae) × Int × Int) (h : Ht N p0 p1 p2 = some r) : AB Tryz.prog 56 [.e (.agg [sC (p0.fVersions.map Ai), sC (p0.fNow.map Ai), sC (p0.fTarget.map Ai), sC (p0.fTables.map Ao)]), .e (.agg [sC (p1.fBase.map Ai), sC (p1.fNext.map Ai), sC (p1.fHeld.map Bj)]), pD (.sl (p2.map AP))] [(3, r.1.map Af)] (.tup [.one (.own 0), .one (iC r.2.1), .one (iC r.2.2)]) := by
 unfold Ht at h
 refine Ar (n := 53) (rs := [.tmp 6, .tmp 7, .tmp 8]) Tryz.func56 rfl rfl rfl (A4 rfl) (A4 rfl) rfl fun w0 S0 => ?_
 refine Ab (Aa Ac rfl (qb rfl (qb rfl (qa rfl (qa rfl (qa rfl (Ad (Ab (Ab (Aa Ac rfl (qL Ec DQ rfl (qL A1 Ay rfl ?_))))))))))))
 obtain ⟨v1, a1, h⟩ := bind_some h
 refine AH [] (H9 N p0 p1 v1 a1) TL rfl (qa rfl (Ad (Ab (Aa Ac rfl (qm rfl (B2 rfl (Ad ?_)))))))
 refine An rfl (fun c2 => ?_) (fun c2 => ?_)
 ·have h := Am c2 h
  refine Ab (Aa Ac rfl (qm rfl (qa rfl (qa rfl (qa rfl (Ad ?_))))))
  obtain rfl := sj h
  refine Ak ((Bg 6 2001 3 rfl rfl rfl).trans (sm [(1000, 2001)] [(6, oD (.own 1000)), (7, iD 0), (8, iD v1)] [(1000, .vec 3 ((([] : List Ae)).map Af))] rfl rfl)) (Az ?_)
  exact ⟨⟨[_, _, _], ⟨.tmp _ _ rfl, ⟨.tmp _ _ rfl, ⟨.tmp _ _ rfl, tv⟩⟩⟩, rfl⟩, ⟨rfl, tv⟩⟩
 ·have h := Al c2 h
  refine Ap (Ab (Aa Ac rfl (qL A1 Ay rfl ?_)))
  obtain ⟨v3, a3, h⟩ := bind_some h
  refine AH [2002, 2003, 2004] (JY N p1 v3 a3) Xg rfl (CJ (A3 2002 _ _ rfl rfl) (CJ (A3 2003 _ _ rfl rfl) (CJ (A3 2004 _ _ rfl rfl) (DX AN Ay Cm rfl (qa rfl (Ad (Ab (Ab (Aa Ac rfl (qm rfl (AW Dp rfl (qm rfl (Ad ?_)))))))))))))
  refine AM (L := E9 N p0 p2) h (fun v4 => mk [(2, pD (.sl (p2.map AP))), (3, oD (.ptr 3 0)), (10, oD (.own 2005)), (24, pD (.sl (p2.map AP))), (25, iD ((p2.length : Int))), (26, iD v4.2)] [(3, .box [sC (p0.fVersions.map Ai), sC (p0.fNow.map Ai), sC (p0.fTarget.map Ai), sC (p0.fTables.map Ao)]), (2005, .vec 3 (v4.1.map Af))]) (fun v5 => mk [(2, pD (.sl (p2.map AP))), (10, oD (.own 2006))] [(2006, .vec 3 (v5.map Af))]) (fun _ _ => rfl) (sm [(2005, 23)] _ _ rfl rfl) (fun j4 n4 v4 h => ?_) (fun v5 s h hs => ?_)
  ·unfold E9 at h
   refine Ab (Aa Ac rfl (A0 rfl (Ad (Ab ?_))))
   refine An rfl (fun c6 => ?_) (fun c6 => ?_)
   ·have h := Am c6 h
    refine Ap (Ab (AR (Ab (Aa Ac rfl (qm rfl ?_)))))
    obtain ⟨v7, a7, b7, h⟩ := Aj h
    refine qi Dp EH a7 (Ag b7) rfl (qK IV EH rfl (qz Ix rfl (qa rfl (qs EH rfl (Ad (Ab (Aa Ac rfl (qL Ec DQ rfl (qm rfl (qm rfl ?_))))))))))
    obtain ⟨v8, a8, b8, h⟩ := Aj h
    refine qI AN Ay a8 (Ag b8) rfl (qJ A1 Ay (Ag b8) rfl (qL IV EH rfl ?_))
    obtain ⟨v9, a9, h⟩ := bind_some h
    refine AH [2007, 2008, 2009] (KR N p0 v8 v7 v9 a9) Wr rfl (qm rfl (qx rfl (qx rfl (qz Cm rfl (qs Ay rfl (qa rfl (AQ (by kernel_rfl) (Ab (Ab (Aa Ac rfl (qm rfl (B2 rfl (Ad ?_)))))))))))))
    refine An rfl (fun c10 => ?_) (fun c10 => ?_)
    ·have h := Am c10 h
     refine Ab (Aa Ac rfl (qm rfl (qm rfl (qa rfl (qa rfl (qa rfl (Ad ?_)))))))
     obtain rfl := sj h
     refine Ak ((Bg 6 2010 3 rfl rfl rfl).trans (sm [(1000, 2010)] [(6, oD (.own 1000)), (7, iD v4.2), (8, iD v9.2)] [(1000, .vec 3 ((([] : List Ae)).map Af))] rfl rfl)) (Az ?_)
     exact ⟨⟨[_, _, _], ⟨.tmp _ _ rfl, ⟨.tmp _ _ rfl, ⟨.tmp _ _ rfl, tv⟩⟩⟩, rfl⟩, ⟨rfl, tv⟩⟩
    ·have h := Al c10 h
     refine Ap (Aa Ac rfl (qm rfl (qL A1 Ay rfl (CJ (A3 2007 _ _ rfl rfl) (CJ (A3 2008 _ _ rfl rfl) (CJ (A3 2009 _ _ rfl rfl) (DX AN Ay Cm rfl ?_)))))))
     obtain ⟨c11, h⟩ := AL h
     refine De (f := Af) AN AN Ay Jl Cm c11 rfl (qa rfl (Ad (Aa Ac rfl (AX rfl (qm rfl (Ad ?_))))))
     exact Aw _ h (sm [(2005, 48)] _ _ rfl rfl)
   ·have h := Al c6 h
    refine AY ?_
    exact Aw _ h (sm [(2006, 2005)] _ _ rfl rfl)
  ·refine Ak hs (Ab (Aa Ac rfl (qm rfl (qm rfl (AW Dp rfl (qa rfl (qa rfl (qa rfl (Ad ?_)))))))))
   obtain rfl := sj h
   refine Ak (sm [(1000, 2006)] [(6, oD (.own 1000)), (7, iD ((p2.length : Int))), (8, iD 0)] [(1000, .vec 3 (v5.map Af))] rfl rfl) (Az ?_)
   exact ⟨⟨[_, _, _], ⟨.tmp _ _ rfl, ⟨.tmp _ _ rfl, ⟨.tmp _ _ rfl, tv⟩⟩⟩, rfl⟩, ⟨rfl, tv⟩⟩
theorem LK (N : Nat) (p0 : Ah) (p1 : List Au) (r : (List Ae) × Int × Int) (h : FI N p0 p1 = some r) : AB Tryz.prog 36 [.e (.agg [sC (p0.fVersions.map Ai), sC (p0.fNow.map Ai), sC (p0.fTarget.map Ai), sC (p0.fTables.map Ao)]), pD (.sl (p1.map AP))] [(3, r.1.map Af)] (.tup [.one (.own 0), .one (iC r.2.1), .one (iC r.2.2)]) := by
 unfold FI at h
 refine Ar (n := 24) (rs := [.tmp 4, .tmp 5, .tmp 6]) Tryz.func36 rfl rfl rfl (A4 rfl) (A4 rfl) rfl fun w0 S0 => ?_
 refine Ab (Aa Ac rfl (qb rfl (qa rfl (qa rfl (qa rfl (Ad (Ab (Aa Ac rfl (qL Ec DQ rfl ?_)))))))))
 obtain ⟨v1, a1, h⟩ := bind_some h
 refine AH [2001, 2002, 2003] (LW N p0 v1 a1) Xl rfl (qm rfl (qx rfl (qx rfl (qz Cm rfl (qs Ay rfl (qa rfl (Ad (Ab (Ab (Aa Ac rfl (qm rfl (B2 rfl (Ad ?_)))))))))))))
 refine An rfl (fun c2 => ?_) (fun c2 => ?_)
 ·have h := Am c2 h
  refine Ab (Aa Ac rfl (qm rfl (qa rfl (qa rfl (qa rfl (Ad ?_))))))
  obtain rfl := sj h
  refine Ak ((Bg 4 2004 3 rfl rfl rfl).trans (sm [(1000, 2004)] [(4, oD (.own 1000)), (5, iD 0), (6, iD v1.2)] [(1000, .vec 3 ((([] : List Ae)).map Af))] rfl rfl)) (Az ?_)
  exact ⟨⟨[_, _, _], ⟨.tmp _ _ rfl, ⟨.tmp _ _ rfl, ⟨.tmp _ _ rfl, tv⟩⟩⟩, rfl⟩, ⟨rfl, tv⟩⟩
 ·have h := Al c2 h
  refine Ap (Ab (Aa Ac rfl (qL Ec DQ rfl (qL A1 Ay rfl (qm rfl (CJ (A3 2001 _ _ rfl rfl) (CJ (A3 2002 _ _ rfl rfl) (CJ (A3 2003 _ _ rfl rfl) ?_))))))))
  obtain ⟨v3, a3, h⟩ := bind_some h
  refine AH [2005] (QL N p0 v1.1 p1 v3 a3) Yp rfl (qx rfl (qx rfl (qx rfl (qa rfl (qa rfl (qa rfl (Ad ?_)))))))
  obtain rfl := sj h
  refine Ak (sm [(1000, 2005)] [(4, oD (.own 1000)), (5, iD v3.2.1), (6, iD v3.2.2)] [(1000, .vec 3 (v3.1.map Af))] rfl rfl) (Az ?_)
  exact ⟨⟨[_, _, _], ⟨.tmp _ _ rfl, ⟨.tmp _ _ rfl, ⟨.tmp _ _ rfl, tv⟩⟩⟩, rfl⟩, ⟨rfl, tv⟩⟩
theorem FQ (N : Nat) (p0 : List Ae) (p1 : (Ae × Ae) → Option Bool) (r : Nat × (List Ae)) (h : BH N p0 p1 = some r) : BG Tryz.prog 40 [oD (.own 90000), oD (.clo (BT (Ek true Af true Af) tB p1))] [(.vec 3 (p0.map Af), .vec 3 (r.2.map Af))] [] (oD (.view 90000 3 0 r.1)) := by
 unfold BH at h
 refine Bw (n := 66) (rs := [.tmp 4]) Tryz.func40 rfl rfl rfl (A4 rfl) (A4 rfl) rfl rfl (A4 rfl) rfl (A4 rfl) fun w0 S0 GL => ?_
 refine Ak (sm [] [(0, oD (.own 90000)), (1, oD (.clo (BT (Ek true Af true Af) tB p1)))] [(90000, .vec 3 (p0.map Af))] rfl rfl) (Ab (Aa Ac rfl (qa rfl (Ad (Ab (Ab (Aa Ac rfl (qm rfl (DD AN rfl (A0 rfl (Ad ?_)))))))))))
 refine An rfl (fun c1 => ?_) (fun c1 => ?_)
 ·have h := Am c1 h
  refine Ab (Aa Ac rfl (qm rfl (qa rfl (Ad ?_))))
  obtain rfl := sj h
  refine Ak ((OZ Af p0 4 90000 3 rfl rfl).trans (sm [] [(4, oD (.view 90000 3 0 p0.length))] [(90000, .vec 3 (p0.map Af))] rfl rfl)) (Az ?_)
  exact ⟨⟨[_], ⟨.tmp _ _ rfl, tv⟩, rfl⟩, ⟨rfl, tv⟩, tv⟩
 ·have h := Al c1 h
  refine Ap (Ab (Ab (Aa Ac rfl (qa rfl (Ad ?_)))))
  refine AM (L := BX N p0 p1) h (fun v2 => mk [(0, oD (.own 90000)), (1, oD (.clo (BT (Ek true Af true Af) tB p1))), (5, iD v2)] [(90000, .vec 3 (p0.map Af))]) (fun v3 => mk [(0, oD (.own 90000))] [(90000, .vec 3 (p0.map Af))]) (fun _ _ => rfl) (sm [] _ _ rfl rfl) (fun j2 n2 v2 h => ?_) (fun v3 s h hs => ?_)
  ·unfold BX at h
   refine Ab (Ab (Aa Ac rfl (qm rfl (qm rfl (DD AN rfl (A0 rfl (Ad ?_)))))))
   refine An rfl (fun c4 => ?_) (fun c4 => ?_)
   ·have h := Am c4 h
    refine Ap (Ab (AR (Ab (Aa Ac rfl (qm rfl (qm rfl (qm rfl ?_)))))))
    obtain ⟨v5, a5, b5, h⟩ := Aj h
    refine qI AN Ay a5 (Ag b5) rfl (qJ A1 Ay (Ag b5) rfl (qm rfl (qm rfl (Cz rfl ?_))))
    obtain ⟨v6, a6, b6, h⟩ := Aj h
    refine qI AN Ay a6 (Ag b6) rfl (qJ A1 Ay (Ag b6) rfl ?_)
    obtain ⟨v7, a7, h⟩ := bind_some h
    refine Em (ds0 := [_, _]) (ar := (Ek true Af true Af) ((v5, v6))) (.p rfl) rfl rfl ⟨rfl, rfl, tv⟩ rfl rfl rfl (En (E3 _ _ _ _ Bt Bt) a7) ?_
    refine AQ (by kernel_rfl) ?_
    refine An rfl (fun c8 => ?_) (fun c8 => ?_)
    ·have h := Am c8 h
     refine Ab (Aa Ac rfl (qm rfl (qm rfl ?_)))
     obtain ⟨c9, h⟩ := AL h
     have w10 : ((v2).toNat) + ((p0.length - (v2).toNat)) ≤ p0.length := by have := c9.2.1; have := c9.2.2; omega
     refine GG Af p0 (.p rfl) rfl (F4 Af _ _ p0) rfl AN Ay (.some _ _ _ _ c9.1) (.none _) ⟨rfl, tv⟩ tv c9.2.1 (by rw [Nat.zero_add]; exact c9.2.2) (Nat.zero_add _) rfl ?_
     refine qa rfl (Ad (Ab (Ab (Aa Ac rfl (qa rfl (Ad ?_))))))
     refine AM (L := BU N p0 p1 v2) h (fun v11 => mk [(0, oD (.own 90000)), (1, oD (.clo (BT (Ek true Af true Af) tB p1))), (5, iD v11.2.1), (6, oD (.view 90000 3 ((v2).toNat) ((p0.length - (v2).toNat)))), (7, iD v11.2.2)] [(90000, .vec 3 (v11.1.map Af))]) (fun v12 => mk [(0, oD (.own 90000)), (5, iD v12.2)] [(90000, .vec 3 (v12.1.map Af))]) (fun _ _ => rfl) (sm [] _ _ rfl rfl) (fun j11 n11 v11 h => ?_) (fun v12 s h hs => ?_)
     ·unfold BU at h
      refine Ab (Ab (Aa Ac rfl (qm rfl (qm rfl ?_))))
      refine UH (.p rfl) rfl AN ?_
      refine A0 rfl (Ad ?_)
      refine An rfl (fun c13 => ?_) (fun c13 => ?_)
      ·have h := Am c13 h
       refine Ap ?_
       refine AT h (fun v14 => mk [(0, oD (.own 90000)), (1, oD (.clo (BT (Ek true Af true Af) tB p1))), (5, iD v14.2), (6, oD (.view 90000 3 ((v2).toNat) ((p0.length - (v2).toNat)))), (7, iD v11.2.2)] [(90000, .vec 3 (v14.1.map Af))]) (fun j14 h => ?_) (fun v14 h => ?_)
       ·refine AR (Ab (Aa Ac rfl (qm rfl (qm rfl (qm rfl ?_)))))
        obtain ⟨c16, h⟩ := AL h
        obtain ⟨v15, a15, b15, h⟩ := Aj h
        refine Ln Af v11.1 (.p rfl) rfl c16 rfl rfl AN Ay a15 (IM b15).1 rfl ?_
        refine K3 (.p rfl) rfl A1 Ay rfl (Ag (IM b15).2) ?_
        refine qm rfl (qm rfl (Cz rfl ?_))
        obtain ⟨v17, a17, b17, h⟩ := Aj h
        refine Ln Af v11.1 (.p rfl) rfl c16 rfl rfl AN Ay a17 (IM b17).1 rfl ?_
        refine K3 (.p rfl) rfl A1 Ay rfl (Ag (IM b17).2) ?_
        obtain ⟨v18, a18, h⟩ := bind_some h
        refine Em (ds0 := [_, _]) (ar := (Ek true Af true Af) ((v15, v17))) (.p rfl) rfl rfl ⟨rfl, rfl, tv⟩ rfl rfl rfl (En (E3 _ _ _ _ Bt Bt) a18) ?_
        refine Cd rfl (AQ (by kernel_rfl) ?_)
        refine An rfl (fun c19 => ?_) (fun c19 => ?_)
        ·have h := Am c19 h
         refine Ab (Aa Ac rfl (qm rfl (qm rfl (qm rfl (qm rfl ?_)))))
         obtain ⟨v20, a20, b20, h⟩ := Aj h
         refine Ln Af v11.1 (.p rfl) rfl c16 rfl rfl AN Ay a20 (IM b20).1 rfl ?_
         refine K3 (.p rfl) rfl A1 Ay rfl (Ag (IM b20).2) ?_
         obtain ⟨v21, a21, b21, h⟩ := Aj h
         refine qI AN Ay a21 (Ag b21) rfl ?_
         refine Ba rfl rfl rfl rfl (Ag b21) rfl Ay rfl (A4 rfl) (A9 Af v11.1 _ v20) ?_
         refine Ad (Aa Ac rfl (qm rfl (AX rfl (qa rfl (Ad ?_)))))
         exact Aw _ h (sm [] _ _ rfl rfl)
        ·have h := Al c19 h
         refine Ap ?_
         exact Aw _ h (sm [] _ _ rfl rfl)
       ·refine Aa Ac rfl (qm rfl (AX rfl (qa rfl (Ad ?_))))
        exact Aw _ h (sm [] _ _ rfl rfl)
      ·have h := Al c13 h
       refine AY ?_
       exact Aw _ h (sm [] _ _ rfl rfl)
     ·refine Ak hs (Ab (Aa Ac rfl (qm rfl (qm rfl ?_))))
      obtain ⟨c22, h⟩ := AL h
      have w23 : ((v12.2).toNat) + ((v12.1.length - (v12.2).toNat)) ≤ v12.1.length := by have := c22.2.1; have := c22.2.2; omega
      refine GG Af v12.1 (.p rfl) rfl (F4 Af _ _ v12.1) rfl AN Ay (.some _ _ _ _ c22.1) (.none _) ⟨rfl, tv⟩ tv c22.2.1 (by rw [Nat.zero_add]; exact c22.2.2) (Nat.zero_add _) rfl ?_
      have w24 : (HP v12.1 ((v12.2).toNat) (List.replicate ((v12.1.length - (v12.2).toNat)) ((Ae.mk (([] : List Int)) (([] : List Int)) (([] : List Int)))))).length = v12.1.length := Jd (by rw [List.length_replicate]; exact w23)
      refine Pw Af v12.1 ((Ae.mk (([] : List Int)) (([] : List Int)) (([] : List Int)))) rfl rfl (LE Af _ _ ((v12.2).toNat) ((v12.1.length - (v12.2).toNat)) v12.1 w23) rfl AN Cm rfl rfl rfl rfl ?_
      refine Ad (Ab (Aa Ac rfl (qm rfl (qm rfl ?_))))
      obtain ⟨c25, h⟩ := AL h
      have w26 : 0 + ((v12.2).toNat) ≤ (HP v12.1 ((v12.2).toNat) (List.replicate ((v12.1.length - (v12.2).toNat)) ((Ae.mk (([] : List Int)) (([] : List Int)) (([] : List Int)))))).length := by have := c25.2.1; have := c25.2.2; omega
      refine GG Af (HP v12.1 ((v12.2).toNat) (List.replicate ((v12.1.length - (v12.2).toNat)) ((Ae.mk (([] : List Int)) (([] : List Int)) (([] : List Int)))))) (.p rfl) rfl (F4 Af _ _ (HP v12.1 ((v12.2).toNat) (List.replicate ((v12.1.length - (v12.2).toNat)) ((Ae.mk (([] : List Int)) (([] : List Int)) (([] : List Int))))))) rfl AN Ay (.none _) (.some _ _ _ _ c25.1) tv ⟨rfl, tv⟩ c25.2.1 (by rw [Nat.zero_add]; exact c25.2.2) (Nat.zero_add _) rfl ?_
      refine qa rfl (Ad ?_)
      obtain rfl := sj h
      refine Ak (sm [] [(4, oD (.view 90000 3 0 ((v12.2).toNat)))] [(90000, .vec 3 ((HP v12.1 ((v12.2).toNat) (List.replicate ((v12.1.length - (v12.2).toNat)) ((Ae.mk (([] : List Int)) (([] : List Int)) (([] : List Int)))))).map Af))] rfl rfl) (Az ?_)
      exact ⟨⟨[_], ⟨.tmp _ _ rfl, tv⟩, rfl⟩, ⟨rfl, tv⟩, tv⟩
    ·have h := Al c8 h
     refine Ap (Aa Ac rfl (qm rfl (AX rfl (qa rfl (Ad ?_)))))
     exact Aw _ h (sm [] _ _ rfl rfl)
   ·have h := Al c4 h
    refine AY ?_
    exact Aw _ h (sm [] _ _ rfl rfl)
  ·refine Ak hs (Ab (Aa Ac rfl (qm rfl (qa rfl (Ad ?_)))))
   obtain rfl := sj h
   refine Ak ((OZ Af p0 4 90000 3 rfl rfl).trans (sm [] [(4, oD (.view 90000 3 0 p0.length))] [(90000, .vec 3 (p0.map Af))] rfl rfl)) (Az ?_)
   exact ⟨⟨[_], ⟨.tmp _ _ rfl, tv⟩, rfl⟩, ⟨rfl, tv⟩, tv⟩
theorem Mj (N : Nat) (p0 : Ae) (p1 : Ae) (r : Bool) (h : CY N p0 p1 = some r) : AB Tryz.prog 41 [.e (.agg [sC (p0.fBase.map Ai), sC (p0.fNext.map Ai), sC (p0.fHeld.map Bj)]), .e (.agg [sC (p1.fBase.map Ai), sC (p1.fNext.map Ai), sC (p1.fHeld.map Bj)])] [] (bD r) := by
 unfold CY at h
 refine Ar (n := 9) (rs := [.tmp 4]) Tryz.func41 rfl rfl rfl (A4 rfl) (A4 rfl) rfl fun w0 S0 => ?_
 refine Ab (Aa Ac rfl (qb rfl (qb rfl (qa rfl (Ad (Ab (Aa Ac rfl (qL A1 Ay rfl (qL A1 Ay rfl ?_)))))))))
 obtain ⟨v1, a1, h⟩ := bind_some h
 refine AH [] (It N p0 p1 v1 a1) VA rfl (BE rfl (qa rfl (Ad ?_)))
 obtain rfl := sj h
 refine Ak (sm [] [(4, bD ((v1 == 0)))] [] rfl rfl) (Az ?_)
 exact ⟨⟨[_], ⟨.tmp _ _ rfl, tv⟩, rfl⟩, tv⟩
theorem J0 (N : Nat) (p0 : Ah) (p1 : List Au) (r : (List Ae) × Int) (h : Ee N p0 p1 = some r) : AB Tryz.prog 11 [.e (.agg [sC (p0.fVersions.map Ai), sC (p0.fNow.map Ai), sC (p0.fTarget.map Ai), sC (p0.fTables.map Ao)]), pD (.sl (p1.map AP))] [(3, r.1.map Af)] (.tup [.one (.own 0), .one (iC r.2)]) := by
 unfold Ee at h
 refine Ar (n := 47) (rs := [.tmp 4, .tmp 5]) Tryz.func11 rfl rfl rfl (A4 rfl) (A4 rfl) rfl fun w0 S0 => ?_
 refine Ab (Aa Ac rfl (qb rfl (qa rfl (qa rfl (Ad (Ab (Aa Ac rfl (qL Ec DQ rfl (qm rfl ?_)))))))))
 obtain ⟨v1, a1, h⟩ := bind_some h
 refine AH [2001] (LK N p0 p1 v1 a1) W3 rfl (qm rfl (qx rfl (qx rfl (qx rfl (qa rfl (qa rfl (qa rfl (Ad (Ab (Ab (Aa Ac rfl (qm rfl (B2 rfl (Ad ?_))))))))))))))
 refine An rfl (fun c2 => ?_) (fun c2 => ?_)
 ·have h := Am c2 h
  refine Ab (Aa Ac rfl (qm rfl (qa rfl (qa rfl (Ad ?_)))))
  obtain rfl := sj h
  refine Ak ((Bg 4 2002 3 rfl rfl rfl).trans (sm [(1000, 2002)] [(4, oD (.own 1000)), (5, iD v1.2.2)] [(1000, .vec 3 ((([] : List Ae)).map Af))] rfl rfl)) (Az ?_)
  exact ⟨⟨[_, _], ⟨.tmp _ _ rfl, ⟨.tmp _ _ rfl, tv⟩⟩, rfl⟩, ⟨rfl, tv⟩⟩
 ·have h := Al c2 h
  refine Ap (Ab (Aa Ac rfl (qa rfl (Ad (Ab (Ab (Aa Ac rfl (qm rfl (DD AN rfl (qm rfl (Ad ?_)))))))))))
  refine AM (L := Eg N p0 v1) h (fun v3 => mk [(2, oD (.ptr 2 0)), (9, oD (.own 2003)), (24, oD (.own 2004)), (25, iD ((v1.1.length : Int))), (26, iD v3.2)] [(2, .box [sC (p0.fVersions.map Ai), sC (p0.fNow.map Ai), sC (p0.fTarget.map Ai), sC (p0.fTables.map Ao)]), (2003, .vec 3 (v3.1.map Af)), (2004, .vec 3 (v1.1.map Af))]) (fun v4 => mk [(9, oD (.own 2005))] [(2005, .vec 3 (v4.map Af))]) (fun _ _ => rfl) ((Bg 9 2008 3 rfl rfl rfl).trans (sm [(2003, 2008), (2004, 2001)] _ _ rfl rfl)) (fun j3 n3 v3 h => ?_) (fun v4 s h hs => ?_)
  ·unfold Eg at h
   refine Ab (Aa Ac rfl (A0 rfl (Ad (Ab ?_))))
   refine An rfl (fun c5 => ?_) (fun c5 => ?_)
   ·have h := Am c5 h
    refine Ap (Ab (AR (Ab (Aa Ac rfl ?_))))
    obtain ⟨v6, a6, b6, h⟩ := Aj h
    refine qI AN Ay a6 (Ag b6) rfl (qJ A1 Ay (Ag b6) rfl (qz Cm rfl (qs Ay rfl (Ad (Ab (Aa Ac rfl (qL Ec DQ rfl (qL A1 Ay rfl ?_))))))))
    obtain ⟨v7, a7, h⟩ := bind_some h
    refine AH [2006] (KJ N p0 v6 v7 a7) WK rfl (qm rfl (qx rfl (qx rfl (qa rfl (qa rfl (Ad (Ab (Ab (Aa Ac rfl (qm rfl (B2 rfl (Ad ?_))))))))))))
    refine An rfl (fun c8 => ?_) (fun c8 => ?_)
    ·have h := Am c8 h
     refine Ab (Aa Ac rfl (qm rfl (qa rfl (qa rfl (Ad ?_)))))
     obtain rfl := sj h
     refine Ak ((Bg 4 2007 3 rfl rfl rfl).trans (sm [(1000, 2007)] [(4, oD (.own 1000)), (5, iD v7.2)] [(1000, .vec 3 ((([] : List Ae)).map Af))] rfl rfl)) (Az ?_)
     exact ⟨⟨[_, _], ⟨.tmp _ _ rfl, ⟨.tmp _ _ rfl, tv⟩⟩, rfl⟩, ⟨rfl, tv⟩⟩
    ·have h := Al c8 h
     refine Ap (Aa Ac rfl (qm rfl (qm rfl ?_)))
     obtain ⟨c9, h⟩ := AL h
     refine De (f := Af) AN AN Ay Jl Cm c9 rfl (qa rfl (Ad (Aa Ac rfl (AX rfl (qm rfl (Ad ?_))))))
     exact Aw _ h (sm [(2003, 41)] _ _ rfl rfl)
   ·have h := Al c5 h
    refine AY ?_
    exact Aw _ h (sm [(2005, 2003)] _ _ rfl rfl)
  ·refine Ak hs (Ab (Aa Ac rfl (qm rfl ?_)))
   obtain ⟨v10, a10, h⟩ := bind_some h
   refine CZ (ds0 := [_, _]) [2005] [] [true] (BG.weak (ds' := [_, oD (.fnc 39)]) (EE N v4 ((fun (x : Ae × Ae) => Cl N x.1 x.2)) v10 a10) ⟨(fun _ _ _ hh => hh), (fun _ _ _ hh => Nw VA (fun ar t ht => by obtain ⟨x, r, rfl, hq, rfl⟩ := IJ ht; exact It N x.1 x.2 r hq) hh), tv⟩) (.p rfl) Wv rfl ⟨rfl, rfl, tv⟩ rfl rfl (by decide) ⟨rfl, tv⟩ rfl (Bm rfl) tv ⟨(fun h => by cases h), tv⟩ rfl rfl rfl ?_
   refine Ad (Ab (Aa Ac rfl (qm rfl ?_)))
   obtain ⟨v11, a11, h⟩ := bind_some h
   obtain ⟨c12, h⟩ := AL h
   have w13 : 0 + v11.1 ≤ v11.2.length := by rw [Nat.zero_add]; exact c12
   refine CZ (ds0 := [_, _]) [2005] [] [true] (BG.weak (ds' := [_, oD (.fnc 41)]) (FQ N v10 ((fun (x : Ae × Ae) => CY N x.1 x.2)) v11 a11) ⟨(fun _ _ _ hh => hh), (fun _ _ _ hh => Nw XT (fun ar t ht => by obtain ⟨x, r, rfl, hq, rfl⟩ := IJ ht; exact Mj N x.1 x.2 r hq) hh), tv⟩) (.p rfl) XM rfl ⟨rfl, rfl, tv⟩ rfl rfl (by decide) ⟨rfl, tv⟩ rfl (Bm rfl) tv ⟨(fun h => by cases h), tv⟩ rfl rfl rfl ?_
   refine CJ (Sp Af v11.2 46 2005 2009 3 v11.1 rfl rfl rfl rfl rfl c12) (qa rfl (qa rfl (Ad ?_)))
   obtain rfl := sj h
   refine Ak (sm [(1000, 2009)] [(4, oD (.own 1000)), (5, iD 0)] [(1000, .vec 3 ((v11.2.take v11.1).map Af))] rfl rfl) (Az ?_)
   exact ⟨⟨[_, _], ⟨.tmp _ _ rfl, ⟨.tmp _ _ rfl, tv⟩⟩, rfl⟩, ⟨rfl, tv⟩⟩
theorem KM (N : Nat) (p0 : Ah) (p1 : List Au) (r : Bool × Int) (h : Er N p0 p1 = some r) : AB Tryz.prog 14 [.e (.agg [sC (p0.fVersions.map Ai), sC (p0.fNow.map Ai), sC (p0.fTarget.map Ai), sC (p0.fTables.map Ao)]), pD (.sl (p1.map AP))] [] (.tup [.one (.pure (.val (.bool r.1))), .one (iC r.2)]) := by
 unfold Er at h
 refine Ar (n := 43) (rs := [.tmp 4, .tmp 5]) Tryz.func14 rfl rfl rfl (A4 rfl) (A4 rfl) rfl fun w0 S0 => ?_
 refine Ab (Aa Ac rfl (qb rfl (qa rfl (qa rfl (Ad (Ab (Aa Ac rfl (qL Ec DQ rfl (qm rfl ?_)))))))))
 obtain ⟨v1, a1, h⟩ := bind_some h
 refine AH [2001] (LK N p0 p1 v1 a1) W3 rfl (qm rfl (qx rfl (qx rfl (qx rfl (qa rfl (qa rfl (qa rfl (Ad (Ab (Ab (Aa Ac rfl (qm rfl (B2 rfl (Ad ?_))))))))))))))
 refine An rfl (fun c2 => ?_) (fun c2 => ?_)
 ·have h := Am c2 h
  refine Ab (Aa Ac rfl (qm rfl (qa rfl (qa rfl (Ad ?_)))))
  obtain rfl := sj h
  refine Ak (sm [] [(4, bD false), (5, iD v1.2.2)] [] rfl rfl) (Az ?_)
  exact ⟨⟨[_, _], ⟨.tmp _ _ rfl, ⟨.tmp _ _ rfl, tv⟩⟩, rfl⟩, tv⟩
 ·have h := Al c2 h
  refine Ap (Ab (Ab (Aa Ac rfl (qm rfl (DD AN rfl (qm rfl (Ad ?_)))))))
  refine AM (L := Et N p0 v1) h (fun v3 => mk [(2, oD (.ptr 2 0)), (23, oD (.own 2002)), (24, iD ((v1.1.length : Int))), (25, iD v3)] [(2, .box [sC (p0.fVersions.map Ai), sC (p0.fNow.map Ai), sC (p0.fTarget.map Ai), sC (p0.fTables.map Ao)]), (2002, .vec 3 (v1.1.map Af))]) (fun v4 => mk [] []) (fun _ _ => rfl) (sm [(2002, 2001)] _ _ rfl rfl) (fun j3 n3 v3 h => ?_) (fun v4 s h hs => ?_)
  ·unfold Et at h
   refine Ab (Aa Ac rfl (A0 rfl (Ad (Ab ?_))))
   refine An rfl (fun c5 => ?_) (fun c5 => ?_)
   ·have h := Am c5 h
    refine Ap (Ab (AR (Ab (Aa Ac rfl ?_))))
    obtain ⟨v6, a6, b6, h⟩ := Aj h
    refine qI AN Ay a6 (Ag b6) rfl (qJ A1 Ay (Ag b6) rfl (qz Cm rfl (qs Ay rfl (Ad (Ab (Aa Ac rfl (qL Ec DQ rfl (qL A1 Ay rfl ?_))))))))
    obtain ⟨v7, a7, h⟩ := bind_some h
    refine AH [] (I2 N p0 v6 v7 a7) Vl rfl (qm rfl (qx rfl (qx rfl (qa rfl (qa rfl (Ad ?_))))))
    refine AT h (fun v8 => mk [(2, oD (.ptr 2 0)), (12, iD v7.2), (23, oD (.own 2003)), (24, iD ((v1.1.length : Int))), (25, iD v3), (40, bD v8)] [(2, .box [sC (p0.fVersions.map Ai), sC (p0.fNow.map Ai), sC (p0.fTarget.map Ai), sC (p0.fTables.map Ao)]), (2003, .vec 3 (v1.1.map Af))]) (fun j8 h => ?_) (fun v8 h => ?_)
    ·refine Aa Ac rfl (qm rfl (B2 rfl (qm rfl ?_)))
     refine AF (t := 37) rfl (fun c9 => ?_) (fun c9 => ?_)
     ·have h := Am c9 h
      refine qn rfl (qn rfl (qp rfl (Ad ?_)))
      exact Aw _ h (sm [(2003, 2002)] _ _ rfl rfl)
     ·have h := Al c9 h
      refine qm rfl (Cd rfl (qp rfl (Ad ?_)))
      exact Aw _ h (sm [(2003, 2002)] _ _ rfl rfl)
    ·refine An rfl (fun c10 => ?_) (fun c10 => ?_)
     ·have h := Am c10 h
      refine Ab (Aa Ac rfl (qm rfl (qa rfl (qa rfl (Ad ?_)))))
      obtain rfl := sj h
      refine Ak (sm [] [(4, bD false), (5, iD v7.2)] [] rfl rfl) (Az ?_)
      exact ⟨⟨[_, _], ⟨.tmp _ _ rfl, ⟨.tmp _ _ rfl, tv⟩⟩, rfl⟩, tv⟩
     ·have h := Al c10 h
      refine Ap (Aa Ac rfl (AX rfl (qm rfl (Ad ?_))))
      exact Aw _ h (sm [(2002, 2003)] _ _ rfl rfl)
   ·have h := Al c5 h
    refine AY ?_
    exact Aw _ h (sm [] _ _ rfl rfl)
  ·refine Ak hs (Ab (Aa Ac rfl (qa rfl (qa rfl (Ad ?_)))))
   obtain rfl := sj h
   refine Ak (sm [] [(4, bD true), (5, iD 0)] [] rfl rfl) (Az ?_)
   exact ⟨⟨[_, _], ⟨.tmp _ _ rfl, ⟨.tmp _ _ rfl, tv⟩⟩, rfl⟩, tv⟩
theorem HF (N : Nat) (r : Bool) (h : Dn N = some r) : AB Tryz.prog 10 [] [] (bD r) := by
 unfold Dn at h
 refine Ar (n := 84) (rs := [.tmp 0]) Tryz.func10 rfl rfl rfl (A4 rfl) (A4 rfl) rfl fun w0 S0 => ?_
 refine Ab (Aa Ac rfl (qa rfl (Ad (Ab (Aa Ac rfl ?_)))))
 obtain ⟨v1, a1, h⟩ := bind_some h
 refine AH [2001, 2002, 2003, 2004] (DR N false v1 a1) SG rfl (CJ (A3 2001 _ _ rfl rfl) (CJ (A3 2002 _ _ rfl rfl) (CJ (A3 2003 _ _ rfl rfl) (CJ (A3 2004 _ _ rfl rfl) ?_))))
 obtain ⟨v2, a2, h⟩ := bind_some h
 refine AH [2005] (Jp N v1 v2 a2) WR rfl (qm rfl (qx rfl (qx rfl (qa rfl (qa rfl (Ad (Ab (Aa Ac rfl ?_))))))))
 obtain ⟨v3, a3, h⟩ := bind_some h
 refine AH [2006, 2007, 2008, 2009] (DR N true v3 a3) SG rfl (CJ (A3 2006 _ _ rfl rfl) (CJ (A3 2007 _ _ rfl rfl) (CJ (A3 2008 _ _ rfl rfl) (CJ (A3 2009 _ _ rfl rfl) ?_))))
 obtain ⟨v4, a4, h⟩ := bind_some h
 refine AH [2010] (Jp N v3 v4 a4) WR rfl (qm rfl (qx rfl (qx rfl (qa rfl (qa rfl (Ad (Ab (Aa Ac rfl ?_))))))))
 obtain ⟨v5, a5, h⟩ := bind_some h
 refine AH [2011, 2012, 2013, 2014] (DR N false v5 a5) SG rfl (DX Ik U2 Xk rfl ?_)
 obtain ⟨v6, a6, h⟩ := bind_some h
 refine F9 [2015] [2011, 2012, 2013, 2014, 24] (OD N v5 (([1, 2, 3] : List Int)) v6 a6) Ys (Ng (fun _ => rfl) EJ) rfl (qm rfl (qx rfl (qx rfl (qa rfl (qa rfl (Ad (Ab (Aa Ac rfl (BK Ix TS rfl (DX Dp EH Ix rfl (qa rfl (Ad (Ab (Aa Ac rfl ?_))))))))))))))
 obtain ⟨v7, a7, h⟩ := bind_some h
 refine AH [2016, 2017, 2018, 2019] (DR N false v7 a7) SG rfl (qm rfl (CJ (A3 2016 _ _ rfl rfl) (CJ (A3 2017 _ _ rfl rfl) (CJ (A3 2018 _ _ rfl rfl) (CJ (A3 2019 _ _ rfl rfl) (CJ (A3 29 _ _ rfl rfl) ?_))))))
 obtain ⟨v8, a8, h⟩ := bind_some h
 refine AH [2020] (J0 N v7 (([(Au.mk 1 0 1)] : List Au)) v8 a8) WW rfl (qm rfl (qx rfl (qx rfl (qa rfl (qa rfl (Ad (Ab (Aa Ac rfl ?_))))))))
 obtain ⟨v9, a9, h⟩ := bind_some h
 refine AH [2021, 2022, 2023, 2024] (DR N false v9 a9) SG rfl (qm rfl ?_)
 obtain ⟨v10, a10, h⟩ := bind_some h
 refine F9 [] [2021, 2022, 2023, 2024] (KM N v9 (([(Au.mk 1 0 1)] : List Au)) v10 a10) Xb EJ rfl (qm rfl (qx rfl (qx rfl (qa rfl (qa rfl (Ad ?_))))))
 refine AT h (fun v11 => mk [(0, bD v11)] []) (fun j11 h => ?_) (fun v11 h => ?_)
 ·refine Aa Ac rfl (qm rfl (BE rfl (qm rfl ?_)))
  refine AF (t := 44) rfl (fun c12 => ?_) (fun c12 => ?_)
  ·have h := Am c12 h
   refine qm rfl (BE rfl (qp rfl (qm rfl ?_)))
   refine AF (t := 48) rfl (fun c13 => ?_) (fun c13 => ?_)
   ·have h := Am c13 h
    refine qm rfl (BE rfl (qp rfl (qm rfl ?_)))
    refine AF (t := 52) rfl (fun c14 => ?_) (fun c14 => ?_)
    ·have h := Am c14 h
     refine qm rfl (BE rfl (qp rfl (qm rfl ?_)))
     refine AF (t := 56) rfl (fun c15 => ?_) (fun c15 => ?_)
     ·have h := Am c15 h
      refine qm rfl (BE rfl (qp rfl (qm rfl ?_)))
      refine AF (t := 60) rfl (fun c16 => ?_) (fun c16 => ?_)
      ·have h := Am c16 h
       refine qm rfl (DD AN rfl (BE rfl (qp rfl (qm rfl ?_))))
       refine AF (t := 65) rfl (fun c17 => ?_) (fun c17 => ?_)
       ·have h := Am c17 h
        refine qm rfl (DD AN rfl (BE rfl (qp rfl (qm rfl ?_))))
        refine AF (t := 70) rfl (fun c18 => ?_) (fun c18 => ?_)
        ·have h := Am c18 h
         refine qm rfl (DD Dp rfl (BE rfl (qp rfl (qm rfl ?_))))
         refine AF (t := 75) rfl (fun c19 => ?_) (fun c19 => ?_)
         ·have h := Am c19 h
          refine qm rfl (DD AN rfl (BE rfl (qp rfl (qm rfl ?_))))
          refine AF (t := 80) rfl (fun c20 => ?_) (fun c20 => ?_)
          ·have h := Am c20 h
           refine qm rfl (Cd rfl (qp rfl (qa rfl (Ad ?_))))
           exact Aw _ h (sm [] _ _ rfl rfl)
          ·have h := Al c20 h
           refine qn rfl (qn rfl (qp rfl (qa rfl (Ad ?_))))
           exact Aw _ h (sm [] _ _ rfl rfl)
         ·have h := Al c19 h
          refine qn rfl (qn rfl (qn rfl (qp rfl (qm rfl (qn rfl (qn rfl (qp rfl (qa rfl (Ad ?_)))))))))
          exact Aw _ h (sm [] _ _ rfl rfl)
        ·have h := Al c18 h
         refine qn rfl (qn rfl (qn rfl (qp rfl (qm rfl (qn rfl (qn rfl (qn rfl (qp rfl (qm rfl (qn rfl (qn rfl (qp rfl (qa rfl (Ad ?_))))))))))))))
         exact Aw _ h (sm [] _ _ rfl rfl)
       ·have h := Al c17 h
        refine qn rfl (qn rfl (qn rfl (qp rfl (qm rfl (qn rfl (qn rfl (qn rfl (qp rfl (qm rfl (qn rfl (qn rfl (qn rfl (qp rfl (qm rfl (qn rfl (qn rfl (qp rfl (qa rfl (Ad ?_)))))))))))))))))))
        exact Aw _ h (sm [] _ _ rfl rfl)
      ·have h := Al c16 h
       refine qn rfl (qn rfl (qn rfl (qp rfl (qm rfl (qn rfl (qn rfl (qn rfl (qp rfl (qm rfl (qn rfl (qn rfl (qn rfl (qp rfl (qm rfl (qn rfl (qn rfl (qn rfl (qp rfl (qm rfl (qn rfl (qn rfl (qp rfl (qa rfl (Ad ?_))))))))))))))))))))))))
       exact Aw _ h (sm [] _ _ rfl rfl)
     ·have h := Al c15 h
      refine qn rfl (qn rfl (qp rfl (qm rfl (qn rfl (qn rfl (qn rfl (qp rfl (qm rfl (qn rfl (qn rfl (qn rfl (qp rfl (qm rfl (qn rfl (qn rfl (qn rfl (qp rfl (qm rfl (qn rfl (qn rfl (qn rfl (qp rfl (qm rfl (qn rfl (qn rfl (qp rfl (qa rfl (Ad ?_))))))))))))))))))))))))))))
      exact Aw _ h (sm [] _ _ rfl rfl)
    ·have h := Al c14 h
     refine qn rfl (qn rfl (qp rfl (qm rfl (qn rfl (qn rfl (qp rfl (qm rfl (qn rfl (qn rfl (qn rfl (qp rfl (qm rfl (qn rfl (qn rfl (qn rfl (qp rfl (qm rfl (qn rfl (qn rfl (qn rfl (qp rfl (qm rfl (qn rfl (qn rfl (qn rfl (qp rfl (qm rfl (qn rfl (qn rfl (qp rfl (qa rfl (Ad ?_))))))))))))))))))))))))))))))))
     exact Aw _ h (sm [] _ _ rfl rfl)
   ·have h := Al c13 h
    refine qn rfl (qn rfl (qp rfl (qm rfl (qn rfl (qn rfl (qp rfl (qm rfl (qn rfl (qn rfl (qp rfl (qm rfl (qn rfl (qn rfl (qn rfl (qp rfl (qm rfl (qn rfl (qn rfl (qn rfl (qp rfl (qm rfl (qn rfl (qn rfl (qn rfl (qp rfl (qm rfl (qn rfl (qn rfl (qn rfl (qp rfl (qm rfl (qn rfl (qn rfl (qp rfl (qa rfl (Ad ?_))))))))))))))))))))))))))))))))))))
    exact Aw _ h (sm [] _ _ rfl rfl)
  ·have h := Al c12 h
   refine qn rfl (qn rfl (qp rfl (qm rfl (qn rfl (qn rfl (qp rfl (qm rfl (qn rfl (qn rfl (qp rfl (qm rfl (qn rfl (qn rfl (qp rfl (qm rfl (qn rfl (qn rfl (qn rfl (qp rfl (qm rfl (qn rfl (qn rfl (qn rfl (qp rfl (qm rfl (qn rfl (qn rfl (qn rfl (qp rfl (qm rfl (qn rfl (qn rfl (qn rfl (qp rfl (qm rfl (qn rfl (qn rfl (qp rfl (qa rfl ?_)))))))))))))))))))))))))))))))))))))))
   refine Ad ?_
   exact Aw _ h (sm [] _ _ rfl rfl)
 ·obtain rfl := sj h
  refine Ak (sm [] [(0, bD v11)] [] rfl rfl) (Az ?_)
  exact ⟨⟨[_], ⟨.tmp _ _ rfl, tv⟩, rfl⟩, tv⟩
theorem EO (N : Nat) (p0 : List Au) (r : (List Au)) (h : BD N p0 = some r) : AB Tryz.prog 12 [pD (.sl (p0.map AP))] [(3, r.map AP)] (oD (.own 0)) := by
 unfold BD at h
 refine Ar (n := 8) (rs := [.tmp 2]) Tryz.func12 rfl rfl rfl (A4 rfl) (A4 rfl) rfl fun w0 S0 => ?_
 refine Ab (Aa Ac rfl (qa rfl (Ad (Ab (Ab (Aa Ac rfl (qm rfl ?_)))))))
 refine Pa (.p rfl) rfl Dp ?_
 refine Ad ?_
 refine OV rfl (fun c2 => ?_) ?_
 ·have c2 := List.map_eq_nil_iff.1 c2
  rw [c2] at h
  have h : (some (([] : List Au))) = some r := h
  refine Ab (Aa Ac rfl (qa rfl (Ad ?_)))
  obtain rfl := sj h
  refine Ak ((Bg 2 2001 3 rfl rfl rfl).trans (sm [(1000, 2001)] [(2, oD (.own 1000))] [(1000, .vec 3 ((([] : List Au)).map AP))] rfl rfl)) (Az ?_)
  exact ⟨⟨[_], ⟨.tmp _ _ rfl, tv⟩, rfl⟩, ⟨rfl, tv⟩⟩
 ·refine Ap (Ab (Aa Ac rfl (DX Dp EH Ix rfl (qm rfl ?_))))
  obtain ⟨c1, h⟩ := AL h
  refine I1 (f := AP) Dp Dp EH NX Ix (fun _ => rfl) c1 rfl (qa rfl (Ad ?_))
  obtain rfl := sj h
  refine Ak (sm [(1000, 7)] [(2, oD (.own 1000))] [(1000, .vec 3 (((([] : List Au)) ++ p0).map AP))] rfl rfl) (Az ?_)
  exact ⟨⟨[_], ⟨.tmp _ _ rfl, tv⟩, rfl⟩, ⟨rfl, tv⟩⟩
theorem Ho (N : Nat) (p0 : List (List Bool)) (p1 : Int) (p2 : Int) (r : Bool) (h : Db N p0 p1 p2 = some r) : AB Tryz.prog 99 [pD (.sl (p0.map (Eu eB))), iD p1, iD p2] [] (bD r) := by
 unfold Db at h
 refine Ar (n := 24) (rs := [.tmp 6]) Tryz.func99 rfl rfl rfl (A4 rfl) (A4 rfl) rfl fun w0 S0 => ?_
 refine Ab (Aa Ac rfl (qa rfl (Ad (Ab (Ab (Aa Ac rfl (qm rfl (AW FP rfl (qm rfl (B2 rfl (Ad ?_)))))))))))
 refine An rfl (fun c1 => ?_) (fun c1 => ?_)
 ·have h := Am c1 h
  refine Ab (Aa Ac rfl (qa rfl (Ad ?_)))
  obtain rfl := sj h
  refine Ak (sm [] [(6, bD false)] [] rfl rfl) (Az ?_)
  exact ⟨⟨[_], ⟨.tmp _ _ rfl, tv⟩, rfl⟩, tv⟩
 ·have h := Al c1 h
  refine Ap (Ab (Ab (Aa Ac rfl (qa rfl (Ad ?_)))))
  refine AM (L := Ce N p0 p1 p2) h (fun v2 => mk [(0, pD (.sl (p0.map (Eu eB)))), (1, iD p1), (2, iD p2), (7, iD v2)] []) (fun v3 => mk [] []) (fun _ _ => rfl) (sm [] _ _ rfl rfl) (fun j2 n2 v2 h => ?_) (fun v3 s h hs => ?_)
  ·unfold Ce at h
   refine Ab (Ab (Aa Ac rfl (qm rfl (qm rfl (A0 rfl (Ad ?_))))))
   refine An rfl (fun c4 => ?_) (fun c4 => ?_)
   ·have h := Am c4 h
    refine Ap (Ab (AR (Ab (Aa Ac rfl (qm rfl (qm rfl ?_))))))
    obtain ⟨v5, a5, b5, h⟩ := Aj h
    refine qi FP Jg a5 (Ag b5) rfl (qk KK rfl (AW EU rfl (qm rfl (B2 rfl (Ad ?_)))))
    refine An rfl (fun c6 => ?_) (fun c6 => ?_)
    ·have h := Am c6 h
     refine Ab (Aa Ac rfl (qa rfl (Ad ?_)))
     obtain rfl := sj h
     refine Ak (sm [] [(6, bD false)] [] rfl rfl) (Az ?_)
     exact ⟨⟨[_], ⟨.tmp _ _ rfl, tv⟩, rfl⟩, tv⟩
    ·have h := Al c6 h
     refine Ap (Aa Ac rfl (qm rfl (AX rfl (qa rfl (Ad ?_)))))
     exact Aw _ h (sm [] _ _ rfl rfl)
   ·have h := Al c4 h
    refine AY ?_
    exact Aw _ h (sm [] _ _ rfl rfl)
  ·refine Ak hs (Ab (Aa Ac rfl (qa rfl (Ad ?_))))
   obtain rfl := sj h
   refine Ak (sm [] [(6, bD true)] [] rfl rfl) (Az ?_)
   exact ⟨⟨[_], ⟨.tmp _ _ rfl, tv⟩, rfl⟩, tv⟩
theorem JW (N : Nat) (p0 : Ah) (p1 : AI) (r : Int) (h : Eb N p0 p1 = some r) : AB Tryz.prog 72 [.e (.agg [sC (p0.fVersions.map Ai), sC (p0.fNow.map Ai), sC (p0.fTarget.map Ai), sC (p0.fTables.map Ao)]), .e (.agg [iC p1.fKind, iC p1.fFrom, iC p1.fTo, .pure (.val (.bool p1.fAware)), sC (p1.fOK.map (Eu eB)), sC (p1.fRewrite.map (Eu eB))])] [] (iD r) := by
 unfold Eb at h
 refine Ar (n := 101) (rs := [.tmp 4]) Tryz.func72 rfl rfl rfl (A4 rfl) (A4 rfl) rfl fun w0 S0 => ?_
 refine Ab (Aa Ac rfl (qb rfl (qb rfl (qa rfl (Ad (Ab ?_))))))
 refine AT h (fun v1 => mk [(2, oD (.ptr 2 0)), (3, oD (.ptr 3 0)), (22, bD v1)] [(2, .box [sC (p0.fVersions.map Ai), sC (p0.fNow.map Ai), sC (p0.fTarget.map Ai), sC (p0.fTables.map Ao)]), (3, .box [iC p1.fKind, iC p1.fFrom, iC p1.fTo, .pure (.val (.bool p1.fAware)), sC (p1.fOK.map (Eu eB)), sC (p1.fRewrite.map (Eu eB))])]) (fun j1 h => ?_) (fun v1 h => ?_)
 ·refine Aa Ac rfl (qf Fx rfl (ql Cg rfl (A0 rfl (qm rfl ?_))))
  refine AF (t := 10) rfl (fun c2 => ?_) (fun c2 => ?_)
  ·have h := Am c2 h
   refine qn rfl (qn rfl (qn rfl (qp rfl (qm rfl (qn rfl (qn rfl (qn rfl (qu rfl (qu rfl (qn rfl (qp rfl (Ad ?_))))))))))))
   exact Aw _ h (sm [] _ _ rfl rfl)
  ·have h := Al c2 h
   refine qf Fx rfl (ql Cg rfl (E0 rfl (qp rfl (qm rfl ?_))))
   refine AF (t := 15) rfl (fun c3 => ?_) (fun c3 => ?_)
   ·have h := Am c3 h
    refine qn rfl (qn rfl (qn rfl (qu rfl (qu rfl (qn rfl (qp rfl (Ad ?_)))))))
    exact Aw _ h (sm [] _ _ rfl rfl)
   ·have h := Al c3 h
    refine qf Im rfl (ql Rr rfl (qm rfl ?_))
    refine AF (t := 18) rfl (fun c4 => ?_) (fun c4 => ?_)
    ·have h := Am c4 h
     refine qL G1 DT rfl ?_
     obtain ⟨v5, a5, h⟩ := bind_some h
     refine AH [] (B9 N p1 v5 a5) O4 rfl (qp rfl (qp rfl (Ad ?_)))
     exact Aw _ h (sm [] _ _ rfl rfl)
    ·have h := Al c4 h
     refine qn rfl (qn rfl (qp rfl (qp rfl (Ad ?_))))
     exact Aw _ h (sm [] _ _ rfl rfl)
 ·refine An rfl (fun c6 => ?_) (fun c6 => ?_)
  ·have h := Am c6 h
   refine Ab (Aa Ac rfl (qa rfl (Ad ?_)))
   obtain rfl := sj h
   refine Ak (sm [] [(4, iD 1)] [] rfl rfl) (Az ?_)
   exact ⟨⟨[_], ⟨.tmp _ _ rfl, tv⟩, rfl⟩, tv⟩
  ·have h := Al c6 h
   refine Ap (Ab (Aa Ac rfl (qf By rfl (ql Bh rfl (AW AJ rfl (qa rfl (Ad (Ab ?_))))))))
   refine AT h (fun v7 => mk [(2, oD (.ptr 2 0)), (3, oD (.ptr 3 0)), (45, bD v7)] [(2, .box [sC (p0.fVersions.map Ai), sC (p0.fNow.map Ai), sC (p0.fTarget.map Ai), sC (p0.fTables.map Ao)]), (3, .box [iC p1.fKind, iC p1.fFrom, iC p1.fTo, .pure (.val (.bool p1.fAware)), sC (p1.fOK.map (Eu eB)), sC (p1.fRewrite.map (Eu eB))])]) (fun j7 h => ?_) (fun v7 h => ?_)
   ·refine Aa Ac rfl (qf C0 rfl (ql Cg rfl (A0 rfl (qm rfl ?_))))
    refine AF (t := 29) rfl (fun c8 => ?_) (fun c8 => ?_)
    ·have h := Am c8 h
     refine qn rfl (qn rfl (qn rfl (qn rfl (qp rfl (qm rfl (qn rfl (qn rfl (qn rfl (qp rfl (qm rfl (qn rfl (qn rfl (qn rfl (qn rfl (qp rfl (Ad ?_))))))))))))))))
     exact Aw _ h (sm [] _ _ rfl rfl)
    ·have h := Al c8 h
     refine qf C0 rfl (ql Cg rfl (qm rfl (Df rfl (qp rfl (qm rfl ?_)))))
     refine AF (t := 35) rfl (fun c9 => ?_) (fun c9 => ?_)
     ·have h := Am c9 h
      refine qn rfl (qn rfl (qn rfl (qp rfl (qm rfl (qn rfl (qn rfl (qn rfl (qn rfl (qp rfl (Ad ?_))))))))))
      exact Aw _ h (sm [] _ _ rfl rfl)
     ·have h := Al c9 h
      refine qf HN rfl (ql Cg rfl (A0 rfl (qp rfl (qm rfl ?_))))
      refine AF (t := 40) rfl (fun c10 => ?_) (fun c10 => ?_)
      ·have h := Am c10 h
       refine qn rfl (qn rfl (qn rfl (qn rfl (qp rfl (Ad ?_)))))
       exact Aw _ h (sm [] _ _ rfl rfl)
      ·have h := Al c10 h
       refine qf HN rfl (ql Cg rfl (qm rfl (Df rfl (qp rfl (Ad ?_)))))
       exact Aw _ h (sm [] _ _ rfl rfl)
   ·refine An rfl (fun c11 => ?_) (fun c11 => ?_)
    ·have h := Am c11 h
     refine Ab (Aa Ac rfl (qa rfl (Ad ?_)))
     obtain rfl := sj h
     refine Ak (sm [] [(4, iD 4)] [] rfl rfl) (Az ?_)
     exact ⟨⟨[_], ⟨.tmp _ _ rfl, tv⟩, rfl⟩, tv⟩
    ·have h := Al c11 h
     refine Ap (Ab (Ab (Aa Ac rfl (qf I8 rfl (ql Js rfl (qf By rfl (ql Bh rfl (qf C0 rfl (ql Cg rfl ?_)))))))))
     obtain ⟨v12, a12, b12, h⟩ := Aj h
     refine qi AJ Dh a12 (Ag b12) rfl (qk Cg rfl (qf By rfl (ql Bh rfl (qf HN rfl (ql Cg rfl ?_)))))
     obtain ⟨v13, a13, b13, h⟩ := Aj h
     refine qi AJ Dh a13 (Ag b13) rfl (qk Cg rfl ?_)
     obtain ⟨v14, a14, h⟩ := bind_some h
     refine AH [] (Ho N p1.fOK v12 v13 v14 a14) WS rfl (Cd rfl (AQ (by kernel_rfl) ?_))
     refine An rfl (fun c15 => ?_) (fun c15 => ?_)
     ·have h := Am c15 h
      refine Ab (Aa Ac rfl (qa rfl (Ad ?_)))
      obtain rfl := sj h
      refine Ak (sm [] [(4, iD 6)] [] rfl rfl) (Az ?_)
      exact ⟨⟨[_], ⟨.tmp _ _ rfl, tv⟩, rfl⟩, tv⟩
     ·have h := Al c15 h
      refine Ap (Ab (Ab (Aa Ac rfl (qf Fx rfl (ql Cg rfl (B2 rfl (Ad ?_)))))))
      refine An rfl (fun c16 => ?_) (fun c16 => ?_)
      ·have h := Am c16 h
       refine Ab (Ab (Aa Ac rfl (qf F7 rfl (ql Js rfl (AW FP rfl (B2 rfl (Ad ?_)))))))
       refine An rfl (fun c17 => ?_) (fun c17 => ?_)
       ·have h := Am c17 h
        refine Ab (Aa Ac rfl (qa rfl (Ad ?_)))
        obtain rfl := sj h
        refine Ak (sm [] [(4, iD 6)] [] rfl rfl) (Az ?_)
        exact ⟨⟨[_], ⟨.tmp _ _ rfl, tv⟩, rfl⟩, tv⟩
       ·have h := Al c17 h
        refine Ap (Ab (Aa Ac rfl (qa rfl (Ad ?_))))
        obtain rfl := sj h
        refine Ak (sm [] [(4, iD 0)] [] rfl rfl) (Az ?_)
        exact ⟨⟨[_], ⟨.tmp _ _ rfl, tv⟩, rfl⟩, tv⟩
      ·have h := Al c16 h
       refine Ap (Ab (Ab (Aa Ac rfl (qf F7 rfl (ql Js rfl (qf By rfl (ql Bh rfl (qf C0 rfl (ql Cg rfl ?_)))))))))
       obtain ⟨v18, a18, b18, h⟩ := Aj h
       refine qi AJ Dh a18 (Ag b18) rfl (qk Cg rfl (qf By rfl (ql Bh rfl (qf C0 rfl (ql Cg rfl ?_)))))
       obtain ⟨v19, a19, b19, h⟩ := Aj h
       refine qi AJ Dh a19 (Ag b19) rfl (qk Cg rfl ?_)
       obtain ⟨v20, a20, h⟩ := bind_some h
       refine AH [] (Ho N p1.fRewrite v18 v19 v20 a20) WS rfl (Cd rfl (AQ (by kernel_rfl) ?_))
       refine An rfl (fun c21 => ?_) (fun c21 => ?_)
       ·have h := Am c21 h
        refine Ab (Aa Ac rfl (qa rfl (Ad ?_)))
        obtain rfl := sj h
        refine Ak (sm [] [(4, iD 6)] [] rfl rfl) (Az ?_)
        exact ⟨⟨[_], ⟨.tmp _ _ rfl, tv⟩, rfl⟩, tv⟩
       ·have h := Al c21 h
        refine Ap (Ab (Ab (Aa Ac rfl (qa rfl (Ad ?_)))))
        refine AM (L := BP N p1) h (fun v22 => mk [(3, oD (.ptr 3 0)), (6, iD v22)] [(3, .box [iC p1.fKind, iC p1.fFrom, iC p1.fTo, .pure (.val (.bool p1.fAware)), sC (p1.fOK.map (Eu eB)), sC (p1.fRewrite.map (Eu eB))])]) (fun v23 => mk [] []) (fun _ _ => rfl) (sm [] _ _ rfl rfl) (fun j22 n22 v22 h => ?_) (fun v23 s h hs => ?_)
        ·unfold BP at h
         refine Ab (Ab (Aa Ac rfl (qm rfl (qf F7 rfl (ql Js rfl (AW FP rfl (A0 rfl (Ad ?_))))))))
         refine An rfl (fun c24 => ?_) (fun c24 => ?_)
         ·have h := Am c24 h
          refine Ap (Ab (AR (Ab (Aa Ac rfl (qf F7 rfl (ql Js rfl (qm rfl ?_)))))))
          obtain ⟨v25, a25, b25, h⟩ := Aj h
          refine qi FP Jg a25 (Ag b25) rfl (qk KK rfl (qm rfl ?_))
          obtain ⟨v26, a26, b26, h⟩ := Aj h
          refine qi EU Qi a26 (Ag b26) rfl (qk Rr rfl (Cd rfl (Ad ?_)))
          refine An rfl (fun c27 => ?_) (fun c27 => ?_)
          ·have h := Am c27 h
           refine Ab (Aa Ac rfl (qa rfl (Ad ?_)))
           obtain rfl := sj h
           refine Ak (sm [] [(4, iD 1)] [] rfl rfl) (Az ?_)
           exact ⟨⟨[_], ⟨.tmp _ _ rfl, tv⟩, rfl⟩, tv⟩
          ·have h := Al c27 h
           refine Ap (Aa Ac rfl (qm rfl (AX rfl (qa rfl (Ad ?_)))))
           exact Aw _ h (sm [] _ _ rfl rfl)
         ·have h := Al c24 h
          refine AY ?_
          exact Aw _ h (sm [] _ _ rfl rfl)
        ·refine Ak hs (Ab (Aa Ac rfl (qa rfl (Ad ?_))))
         obtain rfl := sj h
         refine Ak (sm [] [(4, iD 0)] [] rfl rfl) (Az ?_)
         exact ⟨⟨[_], ⟨.tmp _ _ rfl, tv⟩, rfl⟩, tv⟩
theorem FB (N : Nat) (p0 : Ah) (r : Int) (h : Ch N p0 = some r) : AB Tryz.prog 50 [.e (.agg [sC (p0.fVersions.map Ai), sC (p0.fNow.map Ai), sC (p0.fTarget.map Ai), sC (p0.fTables.map Ao)])] [] (iD r) := by
 unfold Ch at h
 refine Ar (n := 102) (rs := [.tmp 2]) Tryz.func50 rfl rfl rfl (A4 rfl) (A4 rfl) rfl fun w0 S0 => ?_
 refine Ab (Aa Ac rfl (qb rfl (qa rfl (Ad (Ab ?_)))))
 refine AT h (fun v1 => mk [(1, oD (.ptr 1 0)), (16, bD v1)] [(1, .box [sC (p0.fVersions.map Ai), sC (p0.fNow.map Ai), sC (p0.fTarget.map Ai), sC (p0.fTables.map Ao)])]) (fun j1 h => ?_) (fun v1 h => ?_)
 ·refine Aa Ac rfl (qf By rfl (ql Bh rfl (AW AJ rfl (E0 rfl (qm rfl ?_)))))
  refine AF (t := 11) rfl (fun c2 => ?_) (fun c2 => ?_)
  ·have h := Am c2 h
   refine qn rfl (qn rfl (qn rfl (qn rfl (qp rfl (Ad ?_)))))
   exact Aw _ h (sm [] _ _ rfl rfl)
  ·have h := Al c2 h
   refine qf CH rfl (ql G5 rfl (AW D2 rfl (E0 rfl (qp rfl (Ad ?_)))))
   exact Aw _ h (sm [] _ _ rfl rfl)
 ·refine An rfl (fun c3 => ?_) (fun c3 => ?_)
  ·have h := Am c3 h
   refine Ab (Aa Ac rfl (qa rfl (Ad ?_)))
   obtain rfl := sj h
   refine Ak (sm [] [(2, iD 3)] [] rfl rfl) (Az ?_)
   exact ⟨⟨[_], ⟨.tmp _ _ rfl, tv⟩, rfl⟩, tv⟩
  ·have h := Al c3 h
   refine Ap (Ab ?_)
   refine AT h (fun v4 => mk [(1, oD (.ptr 1 0)), (32, bD v4)] [(1, .box [sC (p0.fVersions.map Ai), sC (p0.fNow.map Ai), sC (p0.fTarget.map Ai), sC (p0.fTables.map Ao)])]) (fun j4 h => ?_) (fun v4 h => ?_)
   ·refine Aa Ac rfl (qf Ge rfl (ql Bh rfl (AW AJ rfl (qf By rfl (ql Bh rfl (AW AJ rfl (B2 rfl (qm rfl ?_))))))))
    refine AF (t := 24) rfl (fun c5 => ?_) (fun c5 => ?_)
    ·have h := Am c5 h
     refine qn rfl (qn rfl (qn rfl (qn rfl (qn rfl (qn rfl (qn rfl (qp rfl (Ad ?_))))))))
     exact Aw _ h (sm [] _ _ rfl rfl)
    ·have h := Al c5 h
     refine qf I9 rfl (ql Bh rfl (AW AJ rfl (qf By rfl (ql Bh rfl (AW AJ rfl (B2 rfl (qp rfl (Ad ?_))))))))
     exact Aw _ h (sm [] _ _ rfl rfl)
   ·refine An rfl (fun c6 => ?_) (fun c6 => ?_)
    ·have h := Am c6 h
     refine Ab (Aa Ac rfl (qa rfl (Ad ?_)))
     obtain rfl := sj h
     refine Ak (sm [] [(2, iD 6)] [] rfl rfl) (Az ?_)
     exact ⟨⟨[_], ⟨.tmp _ _ rfl, tv⟩, rfl⟩, tv⟩
    ·have h := Al c6 h
     refine Ap (Ab (Ab (Aa Ac rfl (qa rfl (Ad ?_)))))
     refine AM (L := Bl N p0) h (fun v7 => mk [(1, oD (.ptr 1 0)), (3, iD v7)] [(1, .box [sC (p0.fVersions.map Ai), sC (p0.fNow.map Ai), sC (p0.fTarget.map Ai), sC (p0.fTables.map Ao)])]) (fun v8 => mk [(1, oD (.ptr 1 0))] [(1, .box [sC (p0.fVersions.map Ai), sC (p0.fNow.map Ai), sC (p0.fTarget.map Ai), sC (p0.fTables.map Ao)])]) (fun _ _ => rfl) (sm [] _ _ rfl rfl) (fun j7 n7 v7 h => ?_) (fun v8 s h hs => ?_)
     ·unfold Bl at h
      refine Ab (Ab (Aa Ac rfl (qm rfl (qf By rfl (ql Bh rfl (AW AJ rfl (A0 rfl (Ad ?_))))))))
      refine An rfl (fun c9 => ?_) (fun c9 => ?_)
      ·have h := Am c9 h
       refine Ap (Ab (AR (Ab (Aa Ac rfl (qf By rfl (ql Bh rfl (qm rfl ?_)))))))
       obtain ⟨v10, a10, b10, h⟩ := Aj h
       refine qi AJ Dh a10 (Ag b10) rfl (qk Cg rfl (qa rfl (Ad ?_)))
       refine AT h (fun v11 => mk [(1, oD (.ptr 1 0)), (3, iD v7), (84, bD v11)] [(1, .box [sC (p0.fVersions.map Ai), sC (p0.fNow.map Ai), sC (p0.fTarget.map Ai), sC (p0.fTables.map Ao)])]) (fun j11 h => ?_) (fun v11 h => ?_)
       ·refine Aa Ac rfl (qm rfl (A0 rfl (qm rfl ?_)))
        refine AF (t := 47) rfl (fun c12 => ?_) (fun c12 => ?_)
        ·have h := Am c12 h
         refine qn rfl (qn rfl (qp rfl (qm rfl (qn rfl (qn rfl (qn rfl (qn rfl (qn rfl (qn rfl (qp rfl (qm rfl (qn rfl (qn rfl (qn rfl (qn rfl (qn rfl (qn rfl (qn rfl (qp rfl (qm rfl (qn rfl (qn rfl (qn rfl (qn rfl (qn rfl (qn rfl (qp rfl (qm rfl (qn rfl (qn rfl (qn rfl (qn rfl (qn rfl (qn rfl (qn rfl (qp rfl (Ad ?_)))))))))))))))))))))))))))))))))))))
         exact Aw _ h (sm [] _ _ rfl rfl)
        ·have h := Al c12 h
         refine qm rfl (E0 rfl (qp rfl (qm rfl ?_)))
         refine AF (t := 51) rfl (fun c13 => ?_) (fun c13 => ?_)
         ·have h := Am c13 h
          refine qn rfl (qn rfl (qn rfl (qn rfl (qn rfl (qn rfl (qp rfl (qm rfl (qn rfl (qn rfl (qn rfl (qn rfl (qn rfl (qn rfl (qn rfl (qp rfl (qm rfl (qn rfl (qn rfl (qn rfl (qn rfl (qn rfl (qn rfl (qp rfl (qm rfl (qn rfl (qn rfl (qn rfl (qn rfl (qn rfl (qn rfl (qn rfl (qp rfl (Ad ?_)))))))))))))))))))))))))))))))))
          exact Aw _ h (sm [] _ _ rfl rfl)
         ·have h := Al c13 h
          refine qf Ge rfl (ql Bh rfl (qm rfl ?_))
          obtain ⟨v14, a14, b14, h⟩ := Aj h
          refine qi AJ Dh a14 (Ag b14) rfl (qk Cg rfl (A0 rfl (qp rfl (qm rfl ?_))))
          refine AF (t := 59) rfl (fun c15 => ?_) (fun c15 => ?_)
          ·have h := Am c15 h
           refine qn rfl (qn rfl (qn rfl (qn rfl (qn rfl (qn rfl (qn rfl (qp rfl (qm rfl (qn rfl (qn rfl (qn rfl (qn rfl (qn rfl (qn rfl (qp rfl (qm rfl (qn rfl (qn rfl (qn rfl (qn rfl (qn rfl (qn rfl (qn rfl (qp rfl (Ad ?_)))))))))))))))))))))))))
           exact Aw _ h (sm [] _ _ rfl rfl)
          ·have h := Al c15 h
           refine qf Ge rfl (ql Bh rfl (qm rfl ?_))
           obtain ⟨v16, a16, b16, h⟩ := Aj h
           refine qi AJ Dh a16 (Ag b16) rfl (qk Cg rfl (qm rfl (Df rfl (qp rfl (qm rfl ?_)))))
           refine AF (t := 68) rfl (fun c17 => ?_) (fun c17 => ?_)
           ·have h := Am c17 h
            refine qn rfl (qn rfl (qn rfl (qn rfl (qn rfl (qn rfl (qp rfl (qm rfl (qn rfl (qn rfl (qn rfl (qn rfl (qn rfl (qn rfl (qn rfl (qp rfl (Ad ?_))))))))))))))))
            exact Aw _ h (sm [] _ _ rfl rfl)
           ·have h := Al c17 h
            refine qf I9 rfl (ql Bh rfl (qm rfl ?_))
            obtain ⟨v18, a18, b18, h⟩ := Aj h
            refine qi AJ Dh a18 (Ag b18) rfl (qk Cg rfl (A0 rfl (qp rfl (qm rfl ?_))))
            refine AF (t := 76) rfl (fun c19 => ?_) (fun c19 => ?_)
            ·have h := Am c19 h
             refine qn rfl (qn rfl (qn rfl (qn rfl (qn rfl (qn rfl (qn rfl (qp rfl (Ad ?_))))))))
             exact Aw _ h (sm [] _ _ rfl rfl)
            ·have h := Al c19 h
             refine qf I9 rfl (ql Bh rfl (qm rfl ?_))
             obtain ⟨v20, a20, b20, h⟩ := Aj h
             refine qi AJ Dh a20 (Ag b20) rfl (qk Cg rfl (qm rfl (Df rfl (qp rfl (Ad ?_)))))
             exact Aw _ h (sm [] _ _ rfl rfl)
       ·refine An rfl (fun c21 => ?_) (fun c21 => ?_)
        ·have h := Am c21 h
         refine Ab (Aa Ac rfl (qa rfl (Ad ?_)))
         obtain rfl := sj h
         refine Ak (sm [] [(2, iD 7)] [] rfl rfl) (Az ?_)
         exact ⟨⟨[_], ⟨.tmp _ _ rfl, tv⟩, rfl⟩, tv⟩
        ·have h := Al c21 h
         refine Ap (Aa Ac rfl (qm rfl (AX rfl (qa rfl (Ad ?_)))))
         exact Aw _ h (sm [] _ _ rfl rfl)
      ·have h := Al c9 h
       refine AY ?_
       exact Aw _ h (sm [] _ _ rfl rfl)
     ·refine Ak hs (Ab (Ab (Aa Ac rfl (qa rfl (Ad ?_)))))
      refine AM (L := Bi N p0) h (fun v22 => mk [(1, oD (.ptr 1 0)), (5, iD v22)] [(1, .box [sC (p0.fVersions.map Ai), sC (p0.fNow.map Ai), sC (p0.fTarget.map Ai), sC (p0.fTables.map Ao)])]) (fun v23 => mk [] []) (fun _ _ => rfl) (sm [] _ _ rfl rfl) (fun j22 n22 v22 h => ?_) (fun v23 s h hs => ?_)
      ·unfold Bi at h
       refine Ab (Ab (Aa Ac rfl (qm rfl (qf CH rfl (ql G5 rfl (AW D2 rfl (A0 rfl (Ad ?_))))))))
       refine An rfl (fun c24 => ?_) (fun c24 => ?_)
       ·have h := Am c24 h
        refine Ap (Ab (AR (Ab (Aa Ac rfl (qL Ec DQ rfl (qf CH rfl (ql G5 rfl (qm rfl ?_))))))))
        obtain ⟨v25, a25, b25, h⟩ := Aj h
        refine qi D2 DT a25 (Ag b25) rfl (qK G1 DT rfl ?_)
        obtain ⟨v26, a26, h⟩ := bind_some h
        refine AH [] (JW N p0 v25 v26 a26) XX rfl (qa rfl (AQ (by kernel_rfl) (Ab (Aa Ac rfl (qm rfl (B2 rfl (Ad ?_)))))))
        refine An rfl (fun c27 => ?_) (fun c27 => ?_)
        ·have h := Am c27 h
         refine Ab (Aa Ac rfl (qm rfl (qa rfl (Ad ?_))))
         obtain rfl := sj h
         refine Ak (sm [] [(2, iD v26)] [] rfl rfl) (Az ?_)
         exact ⟨⟨[_], ⟨.tmp _ _ rfl, tv⟩, rfl⟩, tv⟩
        ·have h := Al c27 h
         refine Ap (Aa Ac rfl (qm rfl (AX rfl (qa rfl (Ad ?_)))))
         exact Aw _ h (sm [] _ _ rfl rfl)
       ·have h := Al c24 h
        refine AY ?_
        exact Aw _ h (sm [] _ _ rfl rfl)
      ·refine Ak hs (Ab (Aa Ac rfl (qa rfl (Ad ?_))))
       obtain rfl := sj h
       refine Ak (sm [] [(2, iD 0)] [] rfl rfl) (Az ?_)
       exact ⟨⟨[_], ⟨.tmp _ _ rfl, tv⟩, rfl⟩, tv⟩
end Go.Lift
