/- Lemmas for ReachRegionSaid, which YtfnobkfnohhmmaaGreatFinZ4 proves. -/
import Derived.Test.YtfnobkfnohhmmaaGreatCode1
namespace Go.Lift
open IntKind renaming wrap → wI
set_option maxRecDepth 10000
open Go.RowKit
open Go.Proofs
theorem RL (N : Nat) (p0 : Ag) (r : (List Ak)) (h : HE N p0 = some r) : AE Tryz.prog 96 [.e (.agg [sC (p0.fVersions.map Ai), sC (p0.fNow.map Ai), sC (p0.fTarget.map Ai), sC (p0.fTables.map Ao)])] [(3, r.map AL)] (oD (.own 0)) := by
 unfold HE at h
 refine Ar (n := 54) (rs := [.tmp 2]) Tryz.func96 rfl rfl rfl (A7 rfl) (A7 rfl) rfl fun w0 S0 => ?_
 refine Ab (Aa Ac rfl (qb rfl (qa rfl (Ad (Ab (Aa Ac rfl (qa rfl (Ad (Ab (Ab (Aa Ac rfl (qf BB rfl (ql Bh rfl (AZ AJ rfl (qm rfl (Ad ?_))))))))))))))))
 refine AK (L := CZ N p0) h (fun v1 => mk [(1, oD (.ptr 1 0)), (3, oD (.own 2001)), (10, pD (.sl (p0.fVersions.map Ai))), (11, iD ((p0.fVersions.length : Int))), (12, iD v1.2)] [(1, .box [sC (p0.fVersions.map Ai), sC (p0.fNow.map Ai), sC (p0.fTarget.map Ai), sC (p0.fTables.map Ao)]), (2001, .vec 3 (v1.1.map AL))]) (fun v2 => mk [(1, oD (.ptr 1 0)), (3, oD (.own 2002))] [(1, .box [sC (p0.fVersions.map Ai), sC (p0.fNow.map Ai), sC (p0.fTarget.map Ai), sC (p0.fTables.map Ao)]), (2002, .vec 3 (v2.map AL))]) (fun _ _ => rfl) ((Bn 3 2005 3 rfl rfl rfl).trans (sm [(2001, 2005)] _ _ rfl rfl)) (fun j1 n1 v1 h => ?_) (fun v2 s h hs => ?_)
 ·unfold CZ at h
  refine Ab (Aa Ac rfl (A1 rfl (Ad (Ab ?_))))
  refine Ap rfl (fun c3 => ?_) (fun c3 => ?_)
  ·have h := Am c3 h
   refine Aq (Ab (AR (Ab (Aa Ac rfl (qm rfl ?_)))))
   obtain ⟨v4, a4, b4, h⟩ := Aj h
   refine qi AJ DA a4 (Ah b4) rfl (qk Cs rfl (qa rfl (qa rfl (Ad (Ab (Aa Ac rfl (qm rfl (qm rfl (Ad ?_)))))))))
   refine AK (L := Ep N v1 v4) h (fun v5 => mk [(1, oD (.ptr 1 0)), (3, oD (.own 2003)), (4, iD v1.2), (10, pD (.sl (p0.fVersions.map Ai))), (11, iD ((p0.fVersions.length : Int))), (12, iD v1.2), (17, iD v4), (18, iD v5.2)] [(1, .box [sC (p0.fVersions.map Ai), sC (p0.fNow.map Ai), sC (p0.fTarget.map Ai), sC (p0.fTables.map Ao)]), (2003, .vec 3 (v5.1.map AL))]) (fun v6 => mk [(1, oD (.ptr 1 0)), (3, oD (.own 2004)), (10, pD (.sl (p0.fVersions.map Ai))), (11, iD ((p0.fVersions.length : Int))), (12, iD v1.2)] [(1, .box [sC (p0.fVersions.map Ai), sC (p0.fNow.map Ai), sC (p0.fTarget.map Ai), sC (p0.fTables.map Ao)]), (2004, .vec 3 (v6.map AL))]) (fun _ _ => rfl) (sm [(2003, 2001)] _ _ rfl rfl) (fun j5 n5 v5 h => ?_) (fun v6 s h hs => ?_)
   ·unfold Ep at h
    refine Ab (Aa Ac rfl (A1 rfl (Ad (Ab ?_))))
    refine Ap rfl (fun c7 => ?_) (fun c7 => ?_)
    ·have h := Am c7 h
     refine Aq (Ab (AR (Ab (Aa Ac rfl (qm rfl (qa rfl (Ad (Aa Ac rfl (qm rfl (qm rfl (qm rfl (BO HO Tk rfl (D6 Do Ej HO rfl ?_)))))))))))))
     obtain ⟨c8, h⟩ := AN h
     refine Da (f := AL) Do Do Ej MW HO c8 rfl (qa rfl (Ad (Aa Ac rfl (AY rfl (qm rfl (Ad ?_))))))
     exact Aw _ h (sm [(2003, 26)] _ _ rfl rfl)
    ·have h := An c7 h
     refine AW ?_
     exact Aw _ h (sm [(2004, 2003)] _ _ rfl rfl)
   ·refine Al hs (Aa Ac rfl (AY rfl (qm rfl (Ad ?_))))
    exact Aw _ h (sm [(2001, 2004)] _ _ rfl rfl)
  ·have h := An c3 h
   refine AW ?_
   exact Aw _ h (sm [(2002, 2001)] _ _ rfl rfl)
 ·refine Al hs (Ab (Ab (Aa Ac rfl (qf BB rfl (ql Bh rfl (AZ AJ rfl (qm rfl (Ad ?_))))))))
  refine AK (L := Ck N p0) h (fun v9 => mk [(1, oD (.ptr 1 0)), (3, oD (.own 2006)), (31, iD ((p0.fVersions.length : Int))), (32, iD v9.2)] [(1, .box [sC (p0.fVersions.map Ai), sC (p0.fNow.map Ai), sC (p0.fTarget.map Ai), sC (p0.fTables.map Ao)]), (2006, .vec 3 (v9.1.map AL))]) (fun v10 => mk [(1, oD (.ptr 1 0)), (3, oD (.own 2007))] [(1, .box [sC (p0.fVersions.map Ai), sC (p0.fNow.map Ai), sC (p0.fTarget.map Ai), sC (p0.fTables.map Ao)]), (2007, .vec 3 (v10.map AL))]) (fun _ _ => rfl) (sm [(2006, 2002)] _ _ rfl rfl) (fun j9 n9 v9 h => ?_) (fun v10 s h hs => ?_)
  ·unfold Ck at h
   refine Ab (Aa Ac rfl (A1 rfl (Ad (Ab ?_))))
   refine Ap rfl (fun c11 => ?_) (fun c11 => ?_)
   ·have h := Am c11 h
    refine Aq (Ab (AR (Ab (Aa Ac rfl (qm rfl (qa rfl (Ad (Aa Ac rfl (qm rfl (qm rfl (BO HO Tk rfl (D6 Do Ej HO rfl ?_))))))))))))
    obtain ⟨c12, h⟩ := AN h
    refine Da (f := AL) Do Do Ej MW HO c12 rfl (qa rfl (Ad (Aa Ac rfl (AY rfl (qm rfl (Ad ?_))))))
    exact Aw _ h (sm [(2006, 39)] _ _ rfl rfl)
   ·have h := An c11 h
    refine AW ?_
    exact Aw _ h (sm [(2007, 2006)] _ _ rfl rfl)
  ·refine Al hs (Ab (Ab (Aa Ac rfl (qf CO rfl (ql He rfl (AZ Ed rfl (qm rfl (Ad ?_))))))))
   refine AK (L := Bw N p0) h (fun v13 => mk [(3, oD (.own 2008)), (43, iD ((p0.fTables.length : Int))), (44, iD v13.2)] [(2008, .vec 3 (v13.1.map AL))]) (fun v14 => mk [(3, oD (.own 2009))] [(2009, .vec 3 (v14.map AL))]) (fun _ _ => rfl) (sm [(2008, 2007)] _ _ rfl rfl) (fun j13 n13 v13 h => ?_) (fun v14 s h hs => ?_)
   ·unfold Bw at h
    refine Ab (Aa Ac rfl (A1 rfl (Ad (Ab ?_))))
    refine Ap rfl (fun c15 => ?_) (fun c15 => ?_)
    ·have h := Am c15 h
     refine Aq (Ab (AR (Ab (Aa Ac rfl (qm rfl (qa rfl (Ad (Aa Ac rfl (qm rfl (qm rfl (BO HO Tk rfl (D6 Do Ej HO rfl ?_))))))))))))
     obtain ⟨c16, h⟩ := AN h
     refine Da (f := AL) Do Do Ej MW HO c16 rfl (qa rfl (Ad (Aa Ac rfl (AY rfl (qm rfl (Ad ?_))))))
     exact Aw _ h (sm [(2008, 51)] _ _ rfl rfl)
    ·have h := An c15 h
     refine AW ?_
     exact Aw _ h (sm [(2009, 2008)] _ _ rfl rfl)
   ·refine Al hs (Ab (Aa Ac rfl (qm rfl (qa rfl (Ad ?_)))))
    obtain rfl := sj h
    refine Al (sm [(1000, 2009)] [(2, oD (.own 1000))] [(1000, .vec 3 (v14.map AL))] rfl rfl) (Az ?_)
    exact ⟨⟨[_], ⟨.tmp _ _ rfl, tv⟩, rfl⟩, ⟨rfl, tv⟩⟩
theorem Kv (N : Nat) (p0 : Ae) (r : Ae) (h : Fp N p0 = some r) : AE Tryz.prog 78 [.e (.agg [sC (p0.fBase.map Ai), sC (p0.fNext.map Ai), sC (p0.fHeld.map Bg)])] [(1, r.fBase.map Ai), (1, r.fNext.map Ai), (1, r.fHeld.map Bg)] (.e (.agg [.own 0, .own 1, .own 2])) := by
 unfold Fp at h
 refine Ar (n := 13) (rs := [.cell 2 50]) Tryz.func78 rfl rfl rfl (A7 rfl) (A7 rfl) rfl fun w0 S0 => ?_
 refine Ab (Aa Ac rfl (qb rfl (qz Cu rfl (Ad (Ab (Aa Ac rfl (qf CS rfl (ql Bh rfl ?_))))))))
 obtain ⟨v1, a1, h⟩ := bind_some h
 refine AH [2001] (DS N p0.fBase v1 a1) Ui rfl (qf BH rfl (ql Bh rfl ?_))
 obtain ⟨v2, a2, h⟩ := bind_some h
 refine AH [2002] (DS N p0.fNext v2 a2) Ui rfl (qf CC rfl (ql GN rfl ?_))
 obtain ⟨v3, a3, h⟩ := bind_some h
 refine AH [2003] (Fo N p0.fHeld v3 a3) XM rfl (BO Cu HQ rfl (qs Ay rfl (AQ (by kernel_rfl) ?_)))
 obtain rfl := sj h
 refine Al (sm [(1000, 2001), (1001, 2002), (1002, 2003)] [(2, oD (.ptr 2 0))] [(2, .box [.own 1000, .own 1001, .own 1002]), (1000, .vec 1 (v1.map Ai)), (1001, .vec 1 (v2.map Ai)), (1002, .vec 1 (v3.map Bg))] rfl rfl) (Az ?_)
 exact ⟨⟨[_], ⟨.cellN _ _ _ _ _ _ _ rfl rfl A0 Ay rfl rfl (Jb rfl), tv⟩, rfl⟩, ⟨rfl, rfl, rfl, tv⟩⟩
theorem KA (N : Nat) (p0 : AI) (r : Bool) (h : Fm N p0 = some r) : AE Tryz.prog 120 [.e (.agg [iC p0.fKind, iC p0.fFrom, iC p0.fTo, .pure (.val (.bool p0.fAware)), sC (p0.fOK.map (EN eB)), sC (p0.fRewrite.map (EN eB))])] [] (bD r) := by
 unfold Fm at h
 refine Ar (n := 11) (rs := [.tmp 2]) Tryz.func120 rfl rfl rfl (A7 rfl) (A7 rfl) rfl fun w0 S0 => ?_
 refine Ab (Aa Ac rfl (qb rfl (qa rfl (Ad ?_))))
 refine AU h (fun v1 => mk [(2, bD v1)] []) (fun j1 h => ?_) (fun v1 h => ?_)
 ·refine Aa Ac rfl (qf FV rfl (ql Cs rfl (BM rfl (qm rfl ?_))))
  refine AG (t := 6) rfl (fun c2 => ?_) (fun c2 => ?_)
  ·have h := Am c2 h
   refine qn rfl (qn rfl (qn rfl (qp rfl (qa rfl (Ad ?_)))))
   exact Aw _ h (sm [] _ _ rfl rfl)
  ·have h := An c2 h
   refine qf FV rfl (ql Cs rfl (BM rfl (qp rfl (qa rfl (Ad ?_)))))
   exact Aw _ h (sm [] _ _ rfl rfl)
 ·obtain rfl := sj h
  refine Al (sm [] [(2, bD v1)] [] rfl rfl) (Az ?_)
  exact ⟨⟨[_], ⟨.tmp _ _ rfl, tv⟩, rfl⟩, tv⟩
theorem Pl (N : Nat) (p0 : Ag) (p1 : Ae) (p2 : Ak) (r : Bool × (List Int) × (List Int)) (h : Hy N p0 p1 p2 = some r) : BK Tryz.prog 113 [.e (.agg [sC (p0.fVersions.map Ai), sC (p0.fNow.map Ai), sC (p0.fTarget.map Ai), sC (p0.fTables.map Ao)]), oD (.ptr 90000 0), .e (.agg [iC p2.fKind, iC p2.fIndex, iC p2.fVersion])] [(.box [.own 90001, .own 90002, .own 90003], .box [.own 90001, .own 90002, .own 90003]), (.vec 1 (p1.fBase.map Ai), .vec 1 (p1.fBase.map Ai)), (.vec 1 (p1.fNext.map Ai), .vec 1 (r.2.1.map Ai)), (.vec 1 (p1.fHeld.map Bg), .vec 1 (r.2.2.map Bg))] [] (bD r.1) := by
 unfold Hy at h
 refine BC (n := 70) (rs := [.tmp 6]) Tryz.func113 rfl rfl rfl (A7 rfl) (A7 rfl) rfl rfl (A7 rfl) rfl (A7 rfl) fun w0 S0 GL => ?_
 refine Al (sm [] [(0, .e (.agg [sC (p0.fVersions.map Ai), sC (p0.fNow.map Ai), sC (p0.fTarget.map Ai), sC (p0.fTables.map Ao)])), (1, oD (.ptr 90000 0)), (2, .e (.agg [iC p2.fKind, iC p2.fIndex, iC p2.fVersion]))] [(90000, .box [.own 90001, .own 90002, .own 90003]), (90001, .vec 1 (p1.fBase.map Ai)), (90002, .vec 1 (p1.fNext.map Ai)), (90003, .vec 1 (p1.fHeld.map Bg))] rfl rfl) (Ab (Aa Ac rfl (qb rfl (qb rfl (qa rfl (Ad (Ab ?_)))))))
 refine AU h (fun v1 => mk [(1, oD (.ptr 90000 0)), (3, oD (.ptr 3 0)), (5, oD (.ptr 5 0)), (30, bD v1)] [(3, .box [sC (p0.fVersions.map Ai), sC (p0.fNow.map Ai), sC (p0.fTarget.map Ai), sC (p0.fTables.map Ao)]), (5, .box [iC p2.fKind, iC p2.fIndex, iC p2.fVersion]), (90000, .box [.own 90001, .own 90002, .own 90003]), (90001, .vec 1 (p1.fBase.map Ai)), (90002, .vec 1 (p1.fNext.map Ai)), (90003, .vec 1 (p1.fHeld.map Bg))]) (fun j1 h => ?_) (fun v1 h => ?_)
 ·refine Aa Ac rfl (qm rfl (Ou rfl (qf BH rfl (ql Bh rfl (qf ET rfl (ql Cs rfl ?_))))))
  obtain ⟨v2, a2, b2, h⟩ := Aj h
  refine qI AJ DA a2 (Ah b2) rfl (qj Cs (Ah b2) rfl (Dz rfl (qm rfl ?_)))
  refine AG (t := 18) rfl (fun c3 => ?_) (fun c3 => ?_)
  ·have h := Am c3 h
   refine qn rfl (qn rfl (qn rfl (qn rfl (qn rfl (qn rfl (qn rfl (qn rfl (qn rfl (qn rfl (qn rfl (qp rfl (AQ (by kernel_rfl) ?_))))))))))))
   exact Aw _ h (sm [] _ _ rfl rfl)
  ·have h := An c3 h
   refine qm rfl (Ou rfl (qf CS rfl (ql Bh rfl (qf ET rfl (ql Cs rfl ?_)))))
   obtain ⟨v4, a4, b4, h⟩ := Aj h
   refine qI AJ DA a4 (Ah b4) rfl (qj Cs (Ah b4) rfl (qf GD rfl (ql Cs rfl (BM rfl (qp rfl (AQ (by kernel_rfl) ?_))))))
   exact Aw _ h (sm [] _ _ rfl rfl)
 ·refine Ap rfl (fun c5 => ?_) (fun c5 => ?_)
  ·have h := Am c5 h
   refine Ab (Aa Ac rfl (qa rfl (Ad ?_)))
   obtain rfl := sj h
   refine Al (sm [] [(6, bD false)] [(90000, .box [.own 90001, .own 90002, .own 90003]), (90001, .vec 1 (p1.fBase.map Ai)), (90002, .vec 1 (p1.fNext.map Ai)), (90003, .vec 1 (p1.fHeld.map Bg))] rfl rfl) (Az ?_)
   exact ⟨⟨[_], ⟨.tmp _ _ rfl, tv⟩, rfl⟩, ⟨rfl, rfl, rfl, rfl, tv⟩, tv⟩
  ·have h := An c5 h
   refine Aq (Ab (Aa Ac rfl (qm rfl (Ou rfl (qf BH rfl (ql Bh rfl (qf ET rfl (ql Cs rfl (qf GD rfl (ql Cs rfl ?_))))))))))
   obtain ⟨v6, a6, b6, h⟩ := Aj h
   refine qI AJ DA a6 (Ah b6) rfl ?_
   refine Bd rfl rfl rfl rfl (Ah b6) rfl DA rfl (A7 rfl) (Bc Ai p1.fNext _ p2.fVersion) ?_
   refine AQ (by kernel_rfl) (Ab (Ab (Aa Ac rfl (qf CO rfl (ql He rfl (AZ Ed rfl (qm rfl (Ad ?_))))))))
   refine AK (L := DH N p0 p2) h (fun v7 => mk [(1, oD (.ptr 90000 0)), (5, oD (.ptr 5 0)), (41, pD (.sl (p0.fTables.map Ao))), (42, iD ((p0.fTables.length : Int))), (43, iD v7.2)] [(5, .box [iC p2.fKind, iC p2.fIndex, iC p2.fVersion]), (90000, .box [.own 90001, .own 90002, .own 90003]), (90001, .vec 1 (p1.fBase.map Ai)), (90002, .vec 1 ((p1.fNext.set ((p2.fIndex).toNat) p2.fVersion).map Ai)), (90003, .vec 1 (v7.1.map Bg))]) (fun v8 => mk [] [(90000, .box [.own 90001, .own 90002, .own 90003]), (90001, .vec 1 (p1.fBase.map Ai)), (90002, .vec 1 ((p1.fNext.set ((p2.fIndex).toNat) p2.fVersion).map Ai)), (90003, .vec 1 (v8.map Bg))]) (fun _ _ => rfl) (sm [] _ _ rfl rfl) (fun j7 n7 v7 h => ?_) (fun v8 s h hs => ?_)
   ·unfold DH at h
    refine Ab (Aa Ac rfl (A1 rfl (Ad (Ab ?_))))
    refine Ap rfl (fun c9 => ?_) (fun c9 => ?_)
    ·have h := Am c9 h
     refine Aq ?_
     refine AU h (fun v10 => mk [(1, oD (.ptr 90000 0)), (5, oD (.ptr 5 0)), (41, pD (.sl (p0.fTables.map Ao))), (42, iD ((p0.fTables.length : Int))), (43, iD v7.2)] [(5, .box [iC p2.fKind, iC p2.fIndex, iC p2.fVersion]), (90000, .box [.own 90001, .own 90002, .own 90003]), (90001, .vec 1 (p1.fBase.map Ai)), (90002, .vec 1 ((p1.fNext.set ((p2.fIndex).toNat) p2.fVersion).map Ai)), (90003, .vec 1 (v10.map Bg))]) (fun j10 h => ?_) (fun v10 h => ?_)
     ·refine AR (Ab (Aa Ac rfl (qm rfl ?_)))
      obtain ⟨v11, a11, b11, h⟩ := Aj h
      refine qi Ed Eb a11 (Ah b11) rfl (qK Hn Eb rfl (qz Km rfl (qa rfl (qs Eb rfl (Ad ?_)))))
      refine AU h (fun v12 => mk [(1, oD (.ptr 90000 0)), (5, oD (.ptr 5 0)), (7, iD v7.2), (41, pD (.sl (p0.fTables.map Ao))), (42, iD ((p0.fTables.length : Int))), (43, iD v7.2), (56, bD v12)] [(5, .box [iC p2.fKind, iC p2.fIndex, iC p2.fVersion]), (90000, .box [.own 90001, .own 90002, .own 90003]), (90001, .vec 1 (p1.fBase.map Ai)), (90002, .vec 1 ((p1.fNext.set ((p2.fIndex).toNat) p2.fVersion).map Ai)), (90003, .vec 1 (v7.1.map Bg))]) (fun j12 h => ?_) (fun v12 h => ?_)
      ·refine Aa Ac rfl (qf Db rfl (ql Cs rfl (qf ET rfl (ql Cs rfl (BM rfl (qm rfl ?_))))))
       refine AG (t := 53) rfl (fun c13 => ?_) (fun c13 => ?_)
       ·have h := Am c13 h
        refine qL Hn Eb rfl ?_
        obtain ⟨v14, a14, h⟩ := bind_some h
        refine AH [] (KA N v11 v14 a14) Wa rfl (qp rfl (Ad ?_))
        exact Aw _ h (sm [] _ _ rfl rfl)
       ·have h := An c13 h
        refine qn rfl (qn rfl (qp rfl (Ad ?_)))
        exact Aw _ h (sm [] _ _ rfl rfl)
      ·refine Ap rfl (fun c15 => ?_) (fun c15 => ?_)
       ·have h := Am c15 h
        refine Aa Ac rfl (qm rfl (Ou rfl (qf CC rfl (ql GN rfl (qm rfl ?_)))))
        obtain ⟨v16, a16, b16, h⟩ := Aj h
        refine qI C4 FE a16 (Ah b16) rfl (qj Jl (Ah b16) rfl (qf GD rfl (ql Cs rfl ?_)))
        obtain ⟨c17, h⟩ := AN h
        refine HA rfl c17 (Tn rfl ?_)
        obtain ⟨v18, a18, b18, h⟩ := Aj h
        refine qI C4 FE a18 (Ah b18) rfl ?_
        refine Bd rfl rfl rfl rfl (Ah b18) rfl FE rfl (A7 rfl) (Bc Bg v7.1 _ ((Oa .u8 v16 ((Co .u8 1 p2.fVersion))))) ?_
        refine AQ (by kernel_rfl) ?_
        exact Aw _ h (sm [] _ _ rfl rfl)
       ·have h := An c15 h
        refine Aq ?_
        exact Aw _ h (sm [] _ _ rfl rfl)
     ·refine Aa Ac rfl (AY rfl (qm rfl (Ad ?_)))
      exact Aw _ h (sm [] _ _ rfl rfl)
    ·have h := An c9 h
     refine AW ?_
     exact Aw _ h (sm [] _ _ rfl rfl)
   ·refine Al hs (Ab (Aa Ac rfl (qa rfl (Ad ?_))))
    obtain rfl := sj h
    refine Al (sm [] [(6, bD true)] [(90000, .box [.own 90001, .own 90002, .own 90003]), (90001, .vec 1 (p1.fBase.map Ai)), (90002, .vec 1 ((p1.fNext.set ((p2.fIndex).toNat) p2.fVersion).map Ai)), (90003, .vec 1 (v8.map Bg))] rfl rfl) (Az ?_)
    exact ⟨⟨[_], ⟨.tmp _ _ rfl, tv⟩, rfl⟩, ⟨rfl, rfl, rfl, rfl, tv⟩, tv⟩
theorem NU (N : Nat) (p0 : Ae) (p1 : Int) (r : Int) (h : FD N p0 p1 = some r) : AE Tryz.prog 121 [.e (.agg [sC (p0.fBase.map Ai), sC (p0.fNext.map Ai), sC (p0.fHeld.map Bg)]), iD p1] [] (pD (.val (.int .u8 r))) := by
 unfold FD at h
 refine Ar (n := 27) (rs := [.tmp 4]) Tryz.func121 rfl rfl rfl (A7 rfl) (A7 rfl) rfl fun w0 S0 => ?_
 refine Ab (Aa Ac rfl (qb rfl (qa rfl (Ad (Ab (Aa Ac rfl (qf CS rfl (ql Bh rfl (qm rfl ?_)))))))))
 obtain ⟨v1, a1, b1, h⟩ := Aj h
 refine qi AJ DA a1 (Ah b1) rfl (qk Cs rfl ?_)
 obtain ⟨c2, h⟩ := AN h
 refine HA rfl c2 (qa rfl (Ad ?_))
 refine AU h (fun v3 => mk [(5, pD (.val (.int .u8 v3)))] []) (fun j3 h => ?_) (fun v3 h => ?_)
 ·refine Ab (Aa Ac rfl (qf BH rfl (ql Bh rfl (qm rfl ?_))))
  obtain ⟨v4, a4, b4, h⟩ := Aj h
  refine qi AJ DA a4 (Ah b4) rfl (qk Cs rfl (Dz rfl (Ad ?_)))
  refine Ap rfl (fun c5 => ?_) (fun c5 => ?_)
  ·have h := Am c5 h
   refine Aa Ac rfl (qm rfl (qf BH rfl (ql Bh rfl (qm rfl ?_))))
   obtain ⟨v6, a6, b6, h⟩ := Aj h
   refine qi AJ DA a6 (Ah b6) rfl (qk Cs rfl ?_)
   obtain ⟨c7, h⟩ := AN h
   refine HA rfl c7 (Tn rfl (qa rfl (Ad ?_)))
   exact Aw _ h (sm [] _ _ rfl rfl)
  ·have h := An c5 h
   refine Aq ?_
   exact Aw _ h (sm [] _ _ rfl rfl)
 ·refine Ab (Aa Ac rfl (qm rfl (qa rfl (Ad ?_))))
  obtain rfl := sj h
  refine Al (sm [] [(4, pD (.val (.int .u8 v3)))] [] rfl rfl) (Az ?_)
  exact ⟨⟨[_], ⟨.tmp _ _ rfl, tv⟩, rfl⟩, tv⟩
theorem Iq (N : Nat) (p0 : Int) (r : Int) (h : CW N p0 = some r) : AE Tryz.prog 125 [pD (.val (.int .u8 p0))] [] (iD r) := by
 unfold CW at h
 refine Ar (n := 6) (rs := [.tmp 2]) Tryz.func125 rfl rfl rfl (A7 rfl) (A7 rfl) rfl fun w0 S0 => ?_
 refine Ab (Aa Ac rfl (qa rfl (Ad (Ab (Aa Ac rfl (qm rfl ?_))))))
 obtain ⟨v1, a1, h⟩ := bind_some h
 refine Mc (.p rfl) rfl rfl VE a1 ?_
 refine G5 Vg S5 rfl (qa rfl (Ad ?_))
 obtain rfl := sj h
 refine Al (sm [] [(2, iD ((wI .i64 v1)))] [] rfl rfl) (Az ?_)
 exact ⟨⟨[_], ⟨.tmp _ _ rfl, tv⟩, rfl⟩, tv⟩
theorem K9 (N : Nat) (p0 : AI) (p1 : Int) (p2 : Int) (r : Bool) (h : Fw N p0 p1 p2 = some r) : AE Tryz.prog 122 [.e (.agg [iC p0.fKind, iC p0.fFrom, iC p0.fTo, .pure (.val (.bool p0.fAware)), sC (p0.fOK.map (EN eB)), sC (p0.fRewrite.map (EN eB))]), pD (.val (.int .u8 p1)), iD p2] [] (bD r) := by
 unfold Fw at h
 refine Ar (n := 25) (rs := [.tmp 6]) Tryz.func122 rfl rfl rfl (A7 rfl) (A7 rfl) rfl fun w0 S0 => ?_
 refine Ab (Aa Ac rfl (qb rfl (qa rfl (Ad (Ab (Ab (Aa Ac rfl (qm rfl (qa rfl (Ad ?_))))))))))
 refine AK (L := Du N p0 p2) h (fun v1 => mk [(2, iD p2), (3, oD (.ptr 3 0)), (7, pD (.val (.int .u8 v1)))] [(3, .box [iC p0.fKind, iC p0.fFrom, iC p0.fTo, .pure (.val (.bool p0.fAware)), sC (p0.fOK.map (EN eB)), sC (p0.fRewrite.map (EN eB))])]) (fun v2 => mk [] []) (fun _ _ => rfl) (sm [] _ _ rfl rfl) (fun j1 n1 v1 h => ?_) (fun v2 s h hs => ?_)
 ·unfold Du at h
  refine Ab (Ab (Aa Ac rfl (qm rfl (Cw rfl (Ad ?_)))))
  refine Ap rfl (fun c3 => ?_) (fun c3 => ?_)
  ·have h := Am c3 h
   refine Aq (Ab (AR (Ab (Aa Ac rfl (qf GC rfl (ql JL rfl (qm rfl ?_)))))))
   obtain ⟨v4, a4, h⟩ := bind_some h
   refine AH [] (Iq N v1 v4 a4) Yl rfl ?_
   obtain ⟨v5, a5, b5, h⟩ := Aj h
   refine qi Gg Jz a5 (Ah b5) rfl (qk K0 rfl (qm rfl ?_))
   obtain ⟨v6, a6, b6, h⟩ := Aj h
   refine qi Fe QC a6 (Ah b6) rfl (qk Sx rfl (B7 rfl (AQ (by kernel_rfl) ?_)))
   refine Ap rfl (fun c7 => ?_) (fun c7 => ?_)
   ·have h := Am c7 h
    refine Ab (Aa Ac rfl (qa rfl (Ad ?_)))
    obtain rfl := sj h
    refine Al (sm [] [(6, bD false)] [] rfl rfl) (Az ?_)
    exact ⟨⟨[_], ⟨.tmp _ _ rfl, tv⟩, rfl⟩, tv⟩
   ·have h := An c7 h
    refine Aq (Aa Ac rfl (qm rfl (qm rfl (CM rfl (Lh rfl (qa rfl (Ad ?_)))))))
    exact Aw _ h (sm [] _ _ rfl rfl)
  ·have h := An c3 h
   refine AW ?_
   exact Aw _ h (sm [] _ _ rfl rfl)
 ·refine Al hs (Ab (Aa Ac rfl (qa rfl (Ad ?_))))
  obtain rfl := sj h
  refine Al (sm [] [(6, bD true)] [] rfl rfl) (Az ?_)
  exact ⟨⟨[_], ⟨.tmp _ _ rfl, tv⟩, rfl⟩, tv⟩
theorem PJ (N : Nat) (p0 : Ag) (p1 : Ae) (p2 : Int) (r : Bool × (List Int)) (h : Gn N p0 p1 p2 = some r) : BK Tryz.prog 114 [.e (.agg [sC (p0.fVersions.map Ai), sC (p0.fNow.map Ai), sC (p0.fTarget.map Ai), sC (p0.fTables.map Ao)]), oD (.ptr 90000 0), iD p2] [(.box [.own 90001, .own 90002, .own 90003], .box [.own 90001, .own 90002, .own 90003]), (.vec 1 (p1.fBase.map Ai), .vec 1 (p1.fBase.map Ai)), (.vec 1 (p1.fNext.map Ai), .vec 1 (p1.fNext.map Ai)), (.vec 1 (p1.fHeld.map Bg), .vec 1 (r.2.map Bg))] [] (bD r.1) := by
 unfold Gn at h
 refine BC (n := 68) (rs := [.tmp 6]) Tryz.func114 rfl rfl rfl (A7 rfl) (A7 rfl) rfl rfl (A7 rfl) rfl (A7 rfl) fun w0 S0 GL => ?_
 refine Al (sm [] [(0, .e (.agg [sC (p0.fVersions.map Ai), sC (p0.fNow.map Ai), sC (p0.fTarget.map Ai), sC (p0.fTables.map Ao)])), (1, oD (.ptr 90000 0)), (2, iD p2)] [(90000, .box [.own 90001, .own 90002, .own 90003]), (90001, .vec 1 (p1.fBase.map Ai)), (90002, .vec 1 (p1.fNext.map Ai)), (90003, .vec 1 (p1.fHeld.map Bg))] rfl rfl) (Ab (Aa Ac rfl (qb rfl (qa rfl (Ad (Ab (Aa Ac rfl (qf CO rfl (ql He rfl (qm rfl ?_))))))))))
 obtain ⟨v1, a1, b1, h⟩ := Aj h
 refine qi Ed Eb a1 (Ah b1) rfl (qK Hn Eb rfl (qz Km rfl (qs Eb rfl (Ad (Ab (Ab (Aa Ac rfl (qL Hn Eb rfl ?_))))))))
 obtain ⟨v2, a2, h⟩ := bind_some h
 refine AH [] (KA N v1 v2 a2) Wa rfl (B7 rfl (Ad ?_))
 refine Ap rfl (fun c3 => ?_) (fun c3 => ?_)
 ·have h := Am c3 h
  refine Ab (Aa Ac rfl (qa rfl (Ad ?_)))
  obtain rfl := sj h
  refine Al (sm [] [(6, bD false)] [(90000, .box [.own 90001, .own 90002, .own 90003]), (90001, .vec 1 (p1.fBase.map Ai)), (90002, .vec 1 (p1.fNext.map Ai)), (90003, .vec 1 (p1.fHeld.map Bg))] rfl rfl) (Az ?_)
  exact ⟨⟨[_], ⟨.tmp _ _ rfl, tv⟩, rfl⟩, ⟨rfl, rfl, rfl, rfl, tv⟩, tv⟩
 ·have h := An c3 h
  refine Aq (Ab (Aa Ac rfl (qm rfl (Ou rfl (qL A0 Ay rfl (qf Db rfl (ql Cs rfl ?_)))))))
  obtain ⟨v4, a4, h⟩ := bind_some h
  refine FT [] [90001, 90002, 90003] (NU N p1 v1.fFrom v4 a4) XA Ex rfl (qa rfl (AQ (by kernel_rfl) (Ab (Aa Ac rfl (qm rfl (Ou rfl (qf CC rfl (ql GN rfl (qm rfl ?_)))))))))
  obtain ⟨v5, a5, b5, h⟩ := Aj h
  refine qI C4 FE a5 (Ah b5) rfl (qj Jl (Ah b5) rfl (qm rfl (Is rfl (qa rfl (Ad (Ab ?_))))))
  refine AU h (fun v6 => mk [(1, oD (.ptr 90000 0)), (2, iD p2), (8, pD (.val (.int .u8 v4))), (60, bD v6)] [(90000, .box [.own 90001, .own 90002, .own 90003]), (90001, .vec 1 (p1.fBase.map Ai)), (90002, .vec 1 (p1.fNext.map Ai)), (90003, .vec 1 (p1.fHeld.map Bg))]) (fun j6 h => ?_) (fun v6 h => ?_)
  ·refine Aa Ac rfl (qm rfl (Ou rfl (qf CC rfl (ql GN rfl (qm rfl ?_)))))
   obtain ⟨v7, a7, b7, h⟩ := Aj h
   refine qI C4 FE a7 (Ah b7) rfl (qj Jl (Ah b7) rfl (qm rfl (BM rfl (qm rfl ?_))))
   refine AG (t := 42) rfl (fun c8 => ?_) (fun c8 => ?_)
   ·have h := Am c8 h
    refine qn rfl (qn rfl (qn rfl (qn rfl (qu rfl (qu rfl (qu rfl (qu rfl (qu rfl (qu rfl (qu rfl (qu rfl (qu rfl (qu rfl (qu rfl (qu rfl (qn rfl (qp rfl (AQ (by kernel_rfl) ?_))))))))))))))))))
    exact Aw _ h (sm [] _ _ rfl rfl)
   ·have h := An c8 h
    refine qf FV rfl (ql Cs rfl (BM rfl (qm rfl ?_)))
    refine AG (t := 46) rfl (fun c9 => ?_) (fun c9 => ?_)
    ·have h := Am c9 h
     refine qL Hn Eb rfl (qm rfl (qm rfl (Ou rfl (qf CS rfl (ql Bh rfl (qf Db rfl (ql Cs rfl ?_)))))))
     obtain ⟨v10, a10, b10, h⟩ := Aj h
     refine qI AJ DA a10 (Ah b10) rfl (qj Cs (Ah b10) rfl ?_)
     obtain ⟨v11, a11, h⟩ := bind_some h
     refine AH [] (K9 N v1 ((De .u8 v5 v4)) v10 v11 a11) Yd rfl (B7 rfl (qp rfl (qp rfl (AQ (by kernel_rfl) ?_))))
     exact Aw _ h (sm [] _ _ rfl rfl)
    ·have h := An c9 h
     refine qn rfl (qn rfl (qn rfl (qn rfl (qn rfl (qn rfl (qn rfl (qn rfl (qn rfl (qn rfl (qn rfl (qn rfl (qp rfl (qp rfl (AQ (by kernel_rfl) ?_))))))))))))))
     exact Aw _ h (sm [] _ _ rfl rfl)
  ·refine Ap rfl (fun c12 => ?_) (fun c12 => ?_)
   ·have h := Am c12 h
    refine Ab (Aa Ac rfl (qa rfl (Ad ?_)))
    obtain rfl := sj h
    refine Al (sm [] [(6, bD false)] [(90000, .box [.own 90001, .own 90002, .own 90003]), (90001, .vec 1 (p1.fBase.map Ai)), (90002, .vec 1 (p1.fNext.map Ai)), (90003, .vec 1 (p1.fHeld.map Bg))] rfl rfl) (Az ?_)
    exact ⟨⟨[_], ⟨.tmp _ _ rfl, tv⟩, rfl⟩, ⟨rfl, rfl, rfl, rfl, tv⟩, tv⟩
   ·have h := An c12 h
    refine Aq (Ab (Aa Ac rfl (qm rfl (Ou rfl (qf CC rfl (ql GN rfl (qm rfl (qm rfl ?_))))))))
    obtain ⟨v13, a13, b13, h⟩ := Aj h
    refine qI C4 FE a13 (Ah b13) rfl ?_
    refine Bd rfl rfl rfl rfl (Ah b13) rfl FE rfl (A7 rfl) (Bc Bg p1.fHeld _ v4) ?_
    refine Ad (Ab (Aa Ac rfl (qa rfl (Ad ?_))))
    obtain rfl := sj h
    refine Al (sm [] [(6, bD true)] [(90000, .box [.own 90001, .own 90002, .own 90003]), (90001, .vec 1 (p1.fBase.map Ai)), (90002, .vec 1 (p1.fNext.map Ai)), (90003, .vec 1 ((p1.fHeld.set ((p2).toNat) v4).map Bg))] rfl rfl) (Az ?_)
    exact ⟨⟨[_], ⟨.tmp _ _ rfl, tv⟩, rfl⟩, ⟨rfl, rfl, rfl, rfl, tv⟩, tv⟩
theorem K5 (N : Nat) (p0 : Ag) (p1 : Ae) (p2 : Ak) (r : Ae × Bool) (h : Ff N p0 p1 p2 = some r) : AE Tryz.prog 98 [.e (.agg [sC (p0.fVersions.map Ai), sC (p0.fNow.map Ai), sC (p0.fTarget.map Ai), sC (p0.fTables.map Ao)]), .e (.agg [sC (p1.fBase.map Ai), sC (p1.fNext.map Ai), sC (p1.fHeld.map Bg)]), .e (.agg [iC p2.fKind, iC p2.fIndex, iC p2.fVersion])] [(1, r.1.fBase.map Ai), (1, r.1.fNext.map Ai), (1, r.1.fHeld.map Bg)] (.tup [.agg [.own 0, .own 1, .own 2], .one (.pure (.val (.bool r.2)))]) := by
 unfold Ff at h
 refine Ar (n := 51) (rs := [.cell 6 50, .tmp 7]) Tryz.func98 rfl rfl rfl (A7 rfl) (A7 rfl) rfl fun w0 S0 => ?_
 refine Ab (Aa Ac rfl (qb rfl (qb rfl (qb rfl (qz Cu rfl (qa rfl (Ad (Ab (Aa Ac rfl (qL A0 Ay rfl ?_))))))))))
 obtain ⟨v1, a1, h⟩ := bind_some h
 refine AH [2001, 2002, 2003] (Kv N p1 v1 a1) Yg rfl (qz Cu rfl (qs Ay rfl (Ad (Ab (Ab (Aa Ac rfl (qf Fu rfl (ql Cs rfl (Ad (AR (Ab (Aa Ac rfl (BM rfl (qa rfl (Ad ?_)))))))))))))))
 refine Ap rfl (fun c2 => ?_) (fun c2 => ?_)
 ·have h := Am c2 h
  refine Ab (Aa Ac rfl (qL A0 Ay rfl (qL Ee DQ rfl (qL Im Ej rfl ?_))))
  obtain ⟨v3, a3, h⟩ := bind_some h
  refine Dc (ds0 := [_, _, _]) [8, 2001, 2002, 2003] [] [false, false, true, true] (Pl N p0 v1 p2 v3 a3) (.p rfl) Yr rfl ⟨rfl, rfl, rfl, tv⟩ rfl rfl (by decide) ⟨rfl, rfl, rfl, rfl, tv⟩ rfl (Bo rfl) tv ⟨(fun _ => rfl), (fun _ => rfl), (fun h => by cases h), (fun h => by cases h), tv⟩ rfl rfl rfl ?_
  refine qs Ay rfl (qa rfl (AQ (by kernel_rfl) ?_))
  obtain rfl := sj h
  refine Al (sm [(1000, 2001), (1001, 2002), (1002, 2003)] [(6, oD (.ptr 6 0)), (7, bD v3.1)] [(6, .box [.own 1000, .own 1001, .own 1002]), (1000, .vec 1 (v1.fBase.map Ai)), (1001, .vec 1 (v3.2.1.map Ai)), (1002, .vec 1 (v3.2.2.map Bg))] rfl rfl) (Az ?_)
  exact ⟨⟨[_, _], ⟨.cellN _ _ _ _ _ _ _ rfl rfl A0 Ay rfl rfl (Jb rfl), ⟨.tmp _ _ rfl, tv⟩⟩, rfl⟩, ⟨rfl, rfl, rfl, tv⟩⟩
 ·have h := An c2 h
  refine Ab (Aa Ac rfl (BM rfl (qa rfl (Ad ?_))))
  refine Ap rfl (fun c4 => ?_) (fun c4 => ?_)
  ·have h := Am c4 h
   refine Ab (Aa Ac rfl (qL A0 Ay rfl (qL Ee DQ rfl (qf ET rfl (ql Cs rfl ?_)))))
   obtain ⟨v5, a5, h⟩ := bind_some h
   refine Dc (ds0 := [_, _, _]) [8, 2001, 2002, 2003] [] [false, false, false, true] (PJ N p0 v1 p2.fIndex v5 a5) (.p rfl) X1 rfl ⟨rfl, rfl, rfl, tv⟩ rfl rfl (by decide) ⟨rfl, rfl, rfl, rfl, tv⟩ rfl (Bo rfl) tv ⟨(fun _ => rfl), (fun _ => rfl), (fun _ => rfl), (fun h => by cases h), tv⟩ rfl rfl rfl ?_
   refine qs Ay rfl (qa rfl (AQ (by kernel_rfl) ?_))
   obtain rfl := sj h
   refine Al (sm [(1000, 2001), (1001, 2002), (1002, 2003)] [(6, oD (.ptr 6 0)), (7, bD v5.1)] [(6, .box [.own 1000, .own 1001, .own 1002]), (1000, .vec 1 (v1.fBase.map Ai)), (1001, .vec 1 (v1.fNext.map Ai)), (1002, .vec 1 (v5.2.map Bg))] rfl rfl) (Az ?_)
   exact ⟨⟨[_, _], ⟨.cellN _ _ _ _ _ _ _ rfl rfl A0 Ay rfl rfl (Jb rfl), ⟨.tmp _ _ rfl, tv⟩⟩, rfl⟩, ⟨rfl, rfl, rfl, tv⟩⟩
  ·have h := An c4 h
   refine Aq (Ab (Aa Ac rfl (qf BH rfl (ql Bh rfl (qf ET rfl (ql Cs rfl ?_))))))
   obtain ⟨v6, a6, b6, h⟩ := Aj h
   refine qI AJ DA a6 (Ah b6) rfl (qj Cs (Ah b6) rfl (qa rfl (Ad (Ab (Ab (Aa Ac rfl (qm rfl (A1 rfl (Ad ?_)))))))))
   refine Ap rfl (fun c7 => ?_) (fun c7 => ?_)
   ·have h := Am c7 h
    refine Ab (Aa Ac rfl (qL A0 Ay rfl (qs Ay rfl (qa rfl (Ad ?_)))))
    obtain rfl := sj h
    refine Al (sm [(1000, 2001), (1001, 2002), (1002, 2003)] [(6, oD (.ptr 6 0)), (7, bD false)] [(6, .box [.own 1000, .own 1001, .own 1002]), (1000, .vec 1 (v1.fBase.map Ai)), (1001, .vec 1 (v1.fNext.map Ai)), (1002, .vec 1 (v1.fHeld.map Bg))] rfl rfl) (Az ?_)
    exact ⟨⟨[_, _], ⟨.cellN _ _ _ _ _ _ _ rfl rfl A0 Ay rfl rfl (Jb rfl), ⟨.tmp _ _ rfl, tv⟩⟩, rfl⟩, ⟨rfl, rfl, rfl, tv⟩⟩
   ·have h := An c7 h
    refine Aq (Ab (Aa Ac rfl (qf BH rfl (ql Bh rfl (qf ET rfl (ql Cs rfl ?_))))))
    obtain ⟨v8, a8, b8, h⟩ := Aj h
    refine qI AJ DA a8 (Ah b8) rfl ?_
    refine Bd rfl rfl rfl rfl (Ah b8) rfl DA rfl (A7 rfl) (Bc Ai v1.fNext _ ((-1))) ?_
    refine Ad ?_
    refine AU h (fun v9 => mk [(6, oD (.ptr 6 0)), (8, oD (.ptr 8 0))] [(6, .box [.pure (.nil0), .pure (.nil0), .pure (.nil0)]), (8, .box [.own 2004, .own 2005, .own 2006]), (2004, .vec 1 (v9.map Ai)), (2005, .vec 1 ((v1.fNext.set ((p2.fIndex).toNat) ((-1))).map Ai)), (2006, .vec 1 (v1.fHeld.map Bg))]) (fun j9 h => ?_) (fun v9 h => ?_)
    ·refine Ab (Aa Ac rfl (qf Fu rfl (ql Cs rfl (BM rfl (Ad ?_)))))
     refine Ap rfl (fun c10 => ?_) (fun c10 => ?_)
     ·have h := Am c10 h
      refine Aa Ac rfl (qf CS rfl (ql Bh rfl (qf ET rfl (ql Cs rfl (qm rfl ?_)))))
      obtain ⟨v11, a11, b11, h⟩ := Aj h
      refine qI AJ DA a11 (Ah b11) rfl ?_
      refine Bd rfl rfl rfl rfl (Ah b11) rfl DA rfl (A7 rfl) (Bc Ai v1.fBase _ v6) ?_
      refine Ad ?_
      exact Aw _ h (sm [(2004, 2001), (2005, 2002), (2006, 2003)] _ _ rfl rfl)
     ·have h := An c10 h
      refine Aq ?_
      exact Aw _ h (sm [(2004, 2001), (2005, 2002), (2006, 2003)] _ _ rfl rfl)
    ·refine Ab (Aa Ac rfl (qL A0 Ay rfl (qs Ay rfl (qa rfl (Ad ?_)))))
     obtain rfl := sj h
     refine Al (sm [(1000, 2004), (1001, 2005), (1002, 2006)] [(6, oD (.ptr 6 0)), (7, bD true)] [(6, .box [.own 1000, .own 1001, .own 1002]), (1000, .vec 1 (v9.map Ai)), (1001, .vec 1 ((v1.fNext.set ((p2.fIndex).toNat) ((-1))).map Ai)), (1002, .vec 1 (v1.fHeld.map Bg))] rfl rfl) (Az ?_)
     exact ⟨⟨[_, _], ⟨.cellN _ _ _ _ _ _ _ rfl rfl A0 Ay rfl rfl (Jb rfl), ⟨.tmp _ _ rfl, tv⟩⟩, rfl⟩, ⟨rfl, rfl, rfl, tv⟩⟩
theorem LV (N : Nat) (p0 : Ak) (p1 : List Int) (p2 : List Int) (p3 : List Int) (p4 : List AI) (p5 : List Int) (p6 : List Int) (p7 : List Int) (r : Bool) (h : Dl N p0 p1 p2 p3 p4 p5 p6 p7 = some r) : AE Tryz.prog 97 [.e (.agg [iC p0.fKind, iC p0.fIndex, iC p0.fVersion]), oD (.rop [.sl (p1.map Ai), .sl (p2.map Ai), .sl (p3.map Ai), .sl (p4.map Ao)]), oD (.rop [.sl (p5.map Ai), .sl (p6.map Ai), .sl (p7.map Bg)])] [] (bD r) := by
 unfold Dl at h
 refine Ar (n := 16) (rs := [.tmp 4]) Tryz.func97 rfl rfl rfl (A7 rfl) (A7 rfl) rfl fun w0 S0 => ?_
 refine Ab (Aa Ac rfl (qb rfl (qa rfl (Ad (Ab (Aa Ac rfl (qK Ee DQ rfl (qK A0 Ay rfl (qL Im Ej rfl ?_)))))))))
 obtain ⟨v1, a1, h⟩ := bind_some h
 refine AH [2001, 2002, 2003] (K5 N ((Ag.mk p1 p2 p3 p4)) ((Ae.mk p5 p6 p7)) p0 v1 a1) XB rfl (qm rfl (qx rfl (qx rfl (qz Cu rfl (qs Ay rfl (qa rfl (Ad (Ab (Aa Ac rfl (qm rfl (B7 rfl (qa rfl (Ad ?_)))))))))))))
 obtain rfl := sj h
 refine Al (sm [] [(4, bD ((!v1.2)))] [] rfl rfl) (Az ?_)
 exact ⟨⟨[_], ⟨.tmp _ _ rfl, tv⟩, rfl⟩, tv⟩
theorem Gj (N : Nat) (p0 : List Ak) (p1 : Ak → Option Bool) (r : Int) (h : BJ N p0 p1 = some r) : AE Tryz.prog 112 [pD (.sl (p0.map AL)), oD (.clo (B0 (Q4 true AL) tB p1))] [] (iD r) := by
 unfold BJ at h
 refine Ar (n := 19) (rs := [.tmp 4]) Tryz.func112 rfl rfl rfl (A7 rfl) (A7 rfl) rfl fun w0 S0 => ?_
 refine Ab (Aa Ac rfl (qa rfl (Ad (Ab (Ab (Aa Ac rfl (qm rfl (AZ Do rfl (qm rfl (Ad ?_))))))))))
 refine AK (L := A8 N p0 p1) h (fun v1 => mk [(0, pD (.sl (p0.map AL))), (1, oD (.clo (B0 (Q4 true AL) tB p1))), (7, iD ((p0.length : Int))), (8, iD v1)] []) (fun v2 => mk [] []) (fun _ _ => rfl) (sm [] _ _ rfl rfl) (fun j1 n1 v1 h => ?_) (fun v2 s h hs => ?_)
 ·unfold A8 at h
  refine Ab (Aa Ac rfl (A1 rfl (Ad (Ab ?_))))
  refine Ap rfl (fun c3 => ?_) (fun c3 => ?_)
  ·have h := Am c3 h
   refine Aq (Ab (AR (Ab (Aa Ac rfl (qm rfl (qa rfl (Ad (Ab (Aa Ac rfl (qm rfl (qm rfl (qm rfl ?_))))))))))))
   obtain ⟨v4, a4, b4, h⟩ := Aj h
   refine qi Do Ej a4 (Ah b4) rfl (qK Im Ej rfl ?_)
   obtain ⟨v5, a5, h⟩ := bind_some h
   refine EF (ds0 := [_]) (ar := (Q4 true AL) v4) (.p rfl) rfl rfl ⟨rfl, tv⟩ rfl rfl rfl (EE (Pv _ _ M3) a5) ?_
   refine Ad ?_
   refine Ap rfl (fun c6 => ?_) (fun c6 => ?_)
   ·have h := Am c6 h
    refine Ab (Aa Ac rfl (qm rfl (qa rfl (Ad ?_))))
    obtain rfl := sj h
    refine Al (sm [] [(4, iD v1)] [] rfl rfl) (Az ?_)
    exact ⟨⟨[_], ⟨.tmp _ _ rfl, tv⟩, rfl⟩, tv⟩
   ·have h := An c6 h
    refine Aq (Aa Ac rfl (AY rfl (qm rfl (Ad ?_))))
    exact Aw _ h (sm [] _ _ rfl rfl)
  ·have h := An c3 h
   refine AW ?_
   exact Aw _ h (sm [] _ _ rfl rfl)
 ·refine Al hs (Ab (Aa Ac rfl (qa rfl (Ad ?_))))
  obtain rfl := sj h
  refine Al (sm [] [(4, iD ((-1)))] [] rfl rfl) (Az ?_)
  exact ⟨⟨[_], ⟨.tmp _ _ rfl, tv⟩, rfl⟩, tv⟩
theorem Ga (N : Nat) (p0 : List Ak) (p1 : Ak → Option Bool) (r : Nat × (List Ak)) (h : BI N p0 p1 = some r) : BK Tryz.prog 95 [oD (.own 90000), oD (.clo (B0 (Q4 true AL) tB p1))] [(.vec 3 (p0.map AL), .vec 3 (r.2.map AL))] [] (oD (.view 90000 3 0 r.1)) := by
 unfold BI at h
 refine BC (n := 42) (rs := [.tmp 4]) Tryz.func95 rfl rfl rfl (A7 rfl) (A7 rfl) rfl rfl (A7 rfl) rfl (A7 rfl) fun w0 S0 GL => ?_
 refine Al (sm [] [(0, oD (.own 90000)), (1, oD (.clo (B0 (Q4 true AL) tB p1)))] [(90000, .vec 3 (p0.map AL))] rfl rfl) (Ab (Aa Ac rfl (qa rfl (Ad (Ab (Aa Ac rfl (qm rfl (qm rfl ?_))))))))
 obtain ⟨v1, a1, h⟩ := bind_some h
 refine FT [] [90000] (Gj N p0 p1 v1 a1) XU Ex rfl (qa rfl (Ad (Ab (Ab (Aa Ac rfl (qm rfl (BM rfl (Ad ?_))))))))
 refine Ap rfl (fun c2 => ?_) (fun c2 => ?_)
 ·have h := Am c2 h
  refine Ab (Aa Ac rfl (qm rfl (qa rfl (Ad ?_))))
  obtain rfl := sj h
  refine Al ((Pq AL p0 4 90000 3 rfl rfl).trans (sm [] [(4, oD (.view 90000 3 0 p0.length))] [(90000, .vec 3 (p0.map AL))] rfl rfl)) (Az ?_)
  exact ⟨⟨[_], ⟨.tmp _ _ rfl, tv⟩, rfl⟩, ⟨rfl, tv⟩, tv⟩
 ·have h := An c2 h
  refine Aq (Ab (Ab (Aa Ac rfl (qm rfl (AY rfl (qa rfl (Ad ?_)))))))
  refine AK (L := A2 N p1) h (fun v3 => mk [(0, oD (.own 90000)), (1, oD (.clo (B0 (Q4 true AL) tB p1))), (5, iD v3.2.1), (6, iD v3.2.2)] [(90000, .vec 3 (v3.1.map AL))]) (fun v4 => mk [(0, oD (.own 90000)), (5, iD v4.2)] [(90000, .vec 3 (v4.1.map AL))]) (fun _ _ => rfl) (sm [] _ _ rfl rfl) (fun j3 n3 v3 h => ?_) (fun v4 s h hs => ?_)
  ·unfold A2 at h
   refine Ab (Ab (Aa Ac rfl (qm rfl (qm rfl (Dh Do rfl (A1 rfl (Ad ?_)))))))
   refine Ap rfl (fun c5 => ?_) (fun c5 => ?_)
   ·have h := Am c5 h
    refine Aq ?_
    refine AU h (fun v6 => mk [(0, oD (.own 90000)), (1, oD (.clo (B0 (Q4 true AL) tB p1))), (5, iD v6.2), (6, iD v3.2.2)] [(90000, .vec 3 (v6.1.map AL))]) (fun j6 h => ?_) (fun v6 h => ?_)
    ·refine AR (Ab (Aa Ac rfl (qm rfl (qm rfl ?_))))
     obtain ⟨v7, a7, b7, h⟩ := Aj h
     refine qI Do Ej a7 (Ah b7) rfl (qJ Im Ej (Ah b7) rfl (qz HO rfl (qs Ej rfl (Ad (Ab (Aa Ac rfl (qm rfl (qL Im Ej rfl ?_))))))))
     obtain ⟨v8, a8, h⟩ := bind_some h
     refine EF (ds0 := [_]) (ar := (Q4 true AL) v7) (.p rfl) rfl rfl ⟨rfl, tv⟩ rfl rfl rfl (EE (Pv _ _ M3) a8) ?_
     refine B7 rfl (Ad ?_)
     refine Ap rfl (fun c9 => ?_) (fun c9 => ?_)
     ·have h := Am c9 h
      refine Ab (Aa Ac rfl (qm rfl (qm rfl (qL Im Ej rfl ?_))))
      obtain ⟨v10, a10, b10, h⟩ := Aj h
      refine qI Do Ej a10 (Ah b10) rfl ?_
      refine Bd rfl rfl rfl rfl (Ah b10) rfl Ej rfl (A7 rfl) (Bc AL v3.1 _ v7) ?_
      refine Ad (Aa Ac rfl (qm rfl (AY rfl (qa rfl (Ad ?_)))))
      exact Aw _ h (sm [] _ _ rfl rfl)
     ·have h := An c9 h
      refine Aq ?_
      exact Aw _ h (sm [] _ _ rfl rfl)
    ·refine Aa Ac rfl (qm rfl (AY rfl (qa rfl (Ad ?_))))
     exact Aw _ h (sm [] _ _ rfl rfl)
   ·have h := An c5 h
    refine AW ?_
    exact Aw _ h (sm [] _ _ rfl rfl)
  ·refine Al hs (Ab (Aa Ac rfl (qm rfl (qm rfl ?_))))
   obtain ⟨c11, h⟩ := AN h
   have w12 : ((v4.2).toNat) + ((v4.1.length - (v4.2).toNat)) ≤ v4.1.length := by have := c11.2.1; have := c11.2.2; omega
   refine Hh AL v4.1 (.p rfl) rfl (Gt AL _ _ v4.1) rfl Do Ej (.some _ _ _ _ c11.1) (.none _) ⟨rfl, tv⟩ tv c11.2.1 (by rw [Nat.zero_add]; exact c11.2.2) (Nat.zero_add _) rfl ?_
   have w13 : (H4 v4.1 ((v4.2).toNat) (List.replicate ((v4.1.length - (v4.2).toNat)) ((Ak.mk 0 0 0)))).length = v4.1.length := Ia (by rw [List.length_replicate]; exact w12)
   refine P9 AL v4.1 ((Ak.mk 0 0 0)) rfl rfl (L4 AL _ _ ((v4.2).toNat) ((v4.1.length - (v4.2).toNat)) v4.1 w12) rfl Do HO rfl rfl rfl rfl ?_
   refine Ad (Ab (Aa Ac rfl (qm rfl (qm rfl ?_))))
   obtain ⟨c14, h⟩ := AN h
   have w15 : 0 + ((v4.2).toNat) ≤ (H4 v4.1 ((v4.2).toNat) (List.replicate ((v4.1.length - (v4.2).toNat)) ((Ak.mk 0 0 0)))).length := by have := c14.2.1; have := c14.2.2; omega
   refine Hh AL (H4 v4.1 ((v4.2).toNat) (List.replicate ((v4.1.length - (v4.2).toNat)) ((Ak.mk 0 0 0)))) (.p rfl) rfl (Gt AL _ _ (H4 v4.1 ((v4.2).toNat) (List.replicate ((v4.1.length - (v4.2).toNat)) ((Ak.mk 0 0 0))))) rfl Do Ej (.none _) (.some _ _ _ _ c14.1) tv ⟨rfl, tv⟩ c14.2.1 (by rw [Nat.zero_add]; exact c14.2.2) (Nat.zero_add _) rfl ?_
   refine qa rfl (Ad ?_)
   obtain rfl := sj h
   refine Al (sm [] [(4, oD (.view 90000 3 0 ((v4.2).toNat)))] [(90000, .vec 3 ((H4 v4.1 ((v4.2).toNat) (List.replicate ((v4.1.length - (v4.2).toNat)) ((Ak.mk 0 0 0)))).map AL))] rfl rfl) (Az ?_)
   exact ⟨⟨[_], ⟨.tmp _ _ rfl, tv⟩, rfl⟩, ⟨rfl, tv⟩, tv⟩
theorem NA (N : Nat) (p0 : Ag) (p1 : Ae) (r : (List Ak) × Int) (h : FC N p0 p1 = some r) : AE Tryz.prog 70 [.e (.agg [sC (p0.fVersions.map Ai), sC (p0.fNow.map Ai), sC (p0.fTarget.map Ai), sC (p0.fTables.map Ao)]), .e (.agg [sC (p1.fBase.map Ai), sC (p1.fNext.map Ai), sC (p1.fHeld.map Bg)])] [(3, r.1.map AL)] (.tup [.one (.own 0), .one (iC r.2)]) := by
 unfold FC at h
 refine Ar (n := 17) (rs := [.tmp 4, .tmp 5]) Tryz.func70 rfl rfl rfl (A7 rfl) (A7 rfl) rfl fun w0 S0 => ?_
 refine Ab (Aa Ac rfl (qb rfl (qb rfl (qa rfl (qa rfl (Ad (Ab (Ab (Aa Ac rfl (qL Ee DQ rfl (qL A0 Ay rfl ?_)))))))))))
 obtain ⟨v1, a1, h⟩ := bind_some h
 refine AH [] (Iv N p0 p1 v1 a1) Vq rfl (qa rfl (Ad (Ab (Aa Ac rfl (qm rfl (Cw rfl (Ad ?_)))))))
 refine Ap rfl (fun c2 => ?_) (fun c2 => ?_)
 ·have h := Am c2 h
  refine Ab (Aa Ac rfl (qm rfl (qa rfl (qa rfl (Ad ?_)))))
  obtain rfl := sj h
  refine Al ((Bn 4 2001 3 rfl rfl rfl).trans (sm [(1000, 2001)] [(4, oD (.own 1000)), (5, iD v1)] [(1000, .vec 3 ((([] : List Ak)).map AL))] rfl rfl)) (Az ?_)
  exact ⟨⟨[_, _], ⟨.tmp _ _ rfl, ⟨.tmp _ _ rfl, tv⟩⟩, rfl⟩, ⟨rfl, tv⟩⟩
 ·have h := An c2 h
  refine Aq (Ab (Aa Ac rfl (qL Ee DQ rfl ?_)))
  obtain ⟨v3, a3, h⟩ := bind_some h
  refine AH [2002] (RL N p0 v3 a3) Zh rfl (CL (Nw 2 [.sl (p0.fVersions.map Ai), .sl (p0.fNow.map Ai), .sl (p0.fTarget.map Ai), .sl (p0.fTables.map Ao)] rfl rfl) (CL (Nw 3 [.sl (p1.fBase.map Ai), .sl (p1.fNext.map Ai), .sl (p1.fHeld.map Bg)] rfl rfl) ?_))
  refine MU (capD := [_, _]) (B0 (Q4 true AL) tB ((fun (x : Ak) => Dl N x p0.fVersions p0.fNow p0.fTarget p0.fTables p1.fBase p1.fNext p1.fHeld))) (.p rfl) Zx rfl ⟨rfl, rfl, tv⟩ rfl (fun ar t ht => by obtain ⟨x, r, rfl, hq, rfl⟩ := IU ht; exact LV N x p0.fVersions p0.fNow p0.fTarget p0.fTables p1.fBase p1.fNext p1.fHeld r hq) ?_
  obtain ⟨v4, a4, h⟩ := bind_some h
  obtain ⟨c5, h⟩ := AN h
  have w6 : 0 + v4.1 ≤ v4.2.length := by rw [Nat.zero_add]; exact c5
  refine Dc (ds0 := [_, _]) [2002] [] [true] (Ga N v3 ((fun (x : Ak) => Dl N x p0.fVersions p0.fNow p0.fTarget p0.fTables p1.fBase p1.fNext p1.fHeld)) v4 a4) (.p rfl) YH rfl ⟨rfl, rfl, tv⟩ rfl rfl (by decide) ⟨rfl, tv⟩ rfl (Bo rfl) tv ⟨(fun h => by cases h), tv⟩ rfl rfl rfl ?_
  refine CL (Tb AL v4.2 16 2002 2003 3 v4.1 rfl rfl rfl rfl rfl c5) (qa rfl (qa rfl (Ad ?_)))
  obtain rfl := sj h
  refine Al (sm [(1000, 2003)] [(4, oD (.own 1000)), (5, iD 0)] [(1000, .vec 3 ((v4.2.take v4.1).map AL))] rfl rfl) (Az ?_)
  exact ⟨⟨[_, _], ⟨.tmp _ _ rfl, ⟨.tmp _ _ rfl, tv⟩⟩, rfl⟩, ⟨rfl, tv⟩⟩
theorem PN (N : Nat) (p0 : Ak) (r : Bool) (h : Gp N p0 = some r) : AE Tryz.prog 103 [.e (.agg [iC p0.fKind, iC p0.fIndex, iC p0.fVersion])] [] (bD r) := by
 unfold Gp at h
 refine Ar (n := 27) (rs := [.tmp 2]) Tryz.func103 rfl rfl rfl (A7 rfl) (A7 rfl) rfl fun w0 S0 => ?_
 refine Ab (Aa Ac rfl (qb rfl (qa rfl (Ad (Ab ?_)))))
 refine AU h (fun v1 => mk [(1, oD (.ptr 1 0)), (18, bD v1)] [(1, .box [iC p0.fKind, iC p0.fIndex, iC p0.fVersion])]) (fun j1 h => ?_) (fun v1 h => ?_)
 ·refine Aa Ac rfl (qf ET rfl (ql Cs rfl (qf GD rfl (ql Cs rfl ?_))))
  refine XG (.p rfl) rfl rfl ?_
  refine A1 rfl (qm rfl ?_)
  refine AG (t := 9) rfl (fun c2 => ?_) (fun c2 => ?_)
  ·have h := Am c2 h
   refine qn rfl (qn rfl (qn rfl (qp rfl (qm rfl (qn rfl (qn rfl (qn rfl (qp rfl (Ad ?_)))))))))
   exact Aw _ h (sm [] _ _ rfl rfl)
  ·have h := An c2 h
   refine qf Fu rfl (ql Cs rfl (A1 rfl (qp rfl (qm rfl ?_))))
   refine AG (t := 14) rfl (fun c3 => ?_) (fun c3 => ?_)
   ·have h := Am c3 h
    refine qn rfl (qn rfl (qn rfl (qp rfl (Ad ?_))))
    exact Aw _ h (sm [] _ _ rfl rfl)
   ·have h := An c3 h
    refine qf Fu rfl (ql Cs rfl (Fh rfl (qp rfl (Ad ?_))))
    exact Aw _ h (sm [] _ _ rfl rfl)
 ·refine Ap rfl (fun c4 => ?_) (fun c4 => ?_)
  ·have h := Am c4 h
   refine Ab (Aa Ac rfl (qa rfl (Ad ?_)))
   obtain rfl := sj h
   refine Al (sm [] [(2, bD false)] [] rfl rfl) (Az ?_)
   exact ⟨⟨[_], ⟨.tmp _ _ rfl, tv⟩, rfl⟩, tv⟩
  ·have h := An c4 h
   refine Aq ?_
   refine AU h (fun v5 => mk [(2, bD v5)] []) (fun j5 h => ?_) (fun v5 h => ?_)
   ·refine Aa Ac rfl (qf Fu rfl (ql Cs rfl (BM rfl (qm rfl ?_))))
    refine AG (t := 22) rfl (fun c6 => ?_) (fun c6 => ?_)
    ·have h := Am c6 h
     refine qn rfl (qn rfl (qn rfl (qp rfl (qa rfl (Ad ?_)))))
     exact Aw _ h (sm [] _ _ rfl rfl)
    ·have h := An c6 h
     refine qf GD rfl (ql Cs rfl (BM rfl (qp rfl (qa rfl (Ad ?_)))))
     exact Aw _ h (sm [] _ _ rfl rfl)
   ·obtain rfl := sj h
    refine Al (sm [] [(2, bD v5)] [] rfl rfl) (Az ?_)
    exact ⟨⟨[_], ⟨.tmp _ _ rfl, tv⟩, rfl⟩, tv⟩
theorem Ot (N : Nat) (p0 : Ag) (p1 : Ak) (r : Bool) (h : F2 N p0 p1 = some r) : AE Tryz.prog 104 [.e (.agg [sC (p0.fVersions.map Ai), sC (p0.fNow.map Ai), sC (p0.fTarget.map Ai), sC (p0.fTables.map Ao)]), .e (.agg [iC p1.fKind, iC p1.fIndex, iC p1.fVersion])] [] (bD r) := by
 unfold F2 at h
 refine Ar (n := 36) (rs := [.tmp 4]) Tryz.func104 rfl rfl rfl (A7 rfl) (A7 rfl) rfl fun w0 S0 => ?_
 refine Ab (Aa Ac rfl (qb rfl (qb rfl (qa rfl (Ad (Ab (Ab (Aa Ac rfl (qf Fu rfl (ql Cs rfl (BM rfl (Ad ?_))))))))))))
 refine Ap rfl (fun c1 => ?_) (fun c1 => ?_)
 ·have h := Am c1 h
  refine Ab (Aa Ac rfl (qf ET rfl (ql Cs rfl (qf CO rfl (ql He rfl (AZ Ed rfl (A1 rfl (qa rfl (Ad ?_)))))))))
  obtain rfl := sj h
  refine Al (sm [] [(4, bD ((decide (p1.fIndex < (p0.fTables.length : Int)))))] [] rfl rfl) (Az ?_)
  exact ⟨⟨[_], ⟨.tmp _ _ rfl, tv⟩, rfl⟩, tv⟩
 ·have h := An c1 h
  refine Aq ?_
  refine AU h (fun v2 => mk [(4, bD v2)] []) (fun j2 h => ?_) (fun v2 h => ?_)
  ·refine Aa Ac rfl (qf ET rfl (ql Cs rfl (qf BB rfl (ql Bh rfl (AZ AJ rfl (A1 rfl (qm rfl ?_)))))))
   refine AG (t := 20) rfl (fun c3 => ?_) (fun c3 => ?_)
   ·have h := Am c3 h
    refine qf Fu rfl (ql Cs rfl (Cw rfl (qm rfl ?_)))
    refine AG (t := 24) rfl (fun c4 => ?_) (fun c4 => ?_)
    ·have h := Am c4 h
     refine qn rfl (qn rfl (qn rfl (qn rfl (qn rfl (qn rfl (qn rfl (qn rfl (qn rfl (qp rfl (qp rfl (qa rfl (AQ (by kernel_rfl) ?_))))))))))))
     exact Aw _ h (sm [] _ _ rfl rfl)
    ·have h := An c4 h
     refine qf GD rfl (ql Cs rfl (qf BB rfl (ql Bh rfl (qf ET rfl (ql Cs rfl ?_)))))
     obtain ⟨v5, a5, b5, h⟩ := Aj h
     refine qi AJ DA a5 (Ah b5) rfl (qk Cs rfl (A1 rfl (qp rfl (qp rfl (qa rfl (AQ (by kernel_rfl) ?_))))))
     exact Aw _ h (sm [] _ _ rfl rfl)
   ·have h := An c3 h
    refine qn rfl (qn rfl (qn rfl (qn rfl (qu rfl (qu rfl (qu rfl (qu rfl (qu rfl (qu rfl (qu rfl (qu rfl (qu rfl (qn rfl (qp rfl (qa rfl (AQ (by kernel_rfl) ?_))))))))))))))))
    exact Aw _ h (sm [] _ _ rfl rfl)
  ·obtain rfl := sj h
   refine Al (sm [] [(4, bD v2)] [] rfl rfl) (Az ?_)
   exact ⟨⟨[_], ⟨.tmp _ _ rfl, tv⟩, rfl⟩, tv⟩
theorem Lt (N : Nat) (p0 : Ag) (p1 : Ae) (p2 : Ak) (r : Ae × Int) (h : FH N p0 p1 p2 = some r) : AE Tryz.prog 79 [.e (.agg [sC (p0.fVersions.map Ai), sC (p0.fNow.map Ai), sC (p0.fTarget.map Ai), sC (p0.fTables.map Ao)]), .e (.agg [sC (p1.fBase.map Ai), sC (p1.fNext.map Ai), sC (p1.fHeld.map Bg)]), .e (.agg [iC p2.fKind, iC p2.fIndex, iC p2.fVersion])] [(1, r.1.fBase.map Ai), (1, r.1.fNext.map Ai), (1, r.1.fHeld.map Bg)] (.tup [.agg [.own 0, .own 1, .own 2], .one (iC r.2)]) := by
 unfold FH at h
 refine Ar (n := 32) (rs := [.cell 6 50, .tmp 7]) Tryz.func79 rfl rfl rfl (A7 rfl) (A7 rfl) rfl fun w0 S0 => ?_
 refine Ab (Aa Ac rfl (qb rfl (qb rfl (qb rfl (qz Cu rfl (qa rfl (Ad (Ab (AR (Ab (Aa Ac rfl (qL Im Ej rfl ?_))))))))))))
 obtain ⟨v1, a1, h⟩ := bind_some h
 refine AH [] (PN N p2 v1 a1) XS rfl (B7 rfl (qa rfl (Ad ?_)))
 refine Ap rfl (fun c2 => ?_) (fun c2 => ?_)
 ·have h := Am c2 h
  refine Ab (Aa Ac rfl (BO Cu HQ rfl (qs Ay rfl (qa rfl (Ad ?_)))))
  obtain rfl := sj h
  refine Al ((AF 6 0 2001 1 _ rfl rfl rfl rfl).trans ((AF 6 1 2002 1 _ rfl rfl rfl rfl).trans ((AF 6 2 2003 1 _ rfl rfl rfl rfl).trans (sm [(1000, 2001), (1001, 2002), (1002, 2003)] [(6, oD (.ptr 6 0)), (7, iD 1)] [(6, .box [.own 1000, .own 1001, .own 1002]), (1000, .vec 1 ((([] : List Int)).map Ai)), (1001, .vec 1 ((([] : List Int)).map Ai)), (1002, .vec 1 ((([] : List Int)).map Bg))] rfl rfl)))) (Az ?_)
  exact ⟨⟨[_, _], ⟨.cellN _ _ _ _ _ _ _ rfl rfl A0 Ay rfl rfl (Jb rfl), ⟨.tmp _ _ rfl, tv⟩⟩, rfl⟩, ⟨rfl, rfl, rfl, tv⟩⟩
 ·have h := An c2 h
  refine Ab (Aa Ac rfl (qL Ee DQ rfl (qL Im Ej rfl ?_)))
  obtain ⟨v3, a3, h⟩ := bind_some h
  refine AH [] (Ot N p0 p2 v3 a3) Yp rfl (B7 rfl (qa rfl (Ad ?_)))
  refine Ap rfl (fun c4 => ?_) (fun c4 => ?_)
  ·have h := Am c4 h
   refine Ab (Aa Ac rfl (BO Cu HQ rfl (qs Ay rfl (qa rfl (Ad ?_)))))
   obtain rfl := sj h
   refine Al ((AF 6 0 2004 1 _ rfl rfl rfl rfl).trans ((AF 6 1 2005 1 _ rfl rfl rfl rfl).trans ((AF 6 2 2006 1 _ rfl rfl rfl rfl).trans (sm [(1000, 2004), (1001, 2005), (1002, 2006)] [(6, oD (.ptr 6 0)), (7, iD 4)] [(6, .box [.own 1000, .own 1001, .own 1002]), (1000, .vec 1 ((([] : List Int)).map Ai)), (1001, .vec 1 ((([] : List Int)).map Ai)), (1002, .vec 1 ((([] : List Int)).map Bg))] rfl rfl)))) (Az ?_)
   exact ⟨⟨[_, _], ⟨.cellN _ _ _ _ _ _ _ rfl rfl A0 Ay rfl rfl (Jb rfl), ⟨.tmp _ _ rfl, tv⟩⟩, rfl⟩, ⟨rfl, rfl, rfl, tv⟩⟩
  ·have h := An c4 h
   refine Aq (Ab (Aa Ac rfl (qL Ee DQ rfl (qL A0 Ay rfl (qL Im Ej rfl ?_)))))
   obtain ⟨v5, a5, h⟩ := bind_some h
   refine AH [2007, 2008, 2009] (K5 N p0 p1 p2 v5 a5) XB rfl (qm rfl (qx rfl (qx rfl (qz Cu rfl (qs Ay rfl (qa rfl (Ad (Ab (Ab (Aa Ac rfl (qm rfl (B7 rfl (Ad ?_)))))))))))))
   refine Ap rfl (fun c6 => ?_) (fun c6 => ?_)
   ·have h := Am c6 h
    refine Ab (Aa Ac rfl (BO Cu HQ rfl (qs Ay rfl (qa rfl (Ad ?_)))))
    obtain rfl := sj h
    refine Al ((AF 6 0 2010 1 _ rfl rfl rfl rfl).trans ((AF 6 1 2011 1 _ rfl rfl rfl rfl).trans ((AF 6 2 2012 1 _ rfl rfl rfl rfl).trans (sm [(1000, 2010), (1001, 2011), (1002, 2012)] [(6, oD (.ptr 6 0)), (7, iD 11)] [(6, .box [.own 1000, .own 1001, .own 1002]), (1000, .vec 1 ((([] : List Int)).map Ai)), (1001, .vec 1 ((([] : List Int)).map Ai)), (1002, .vec 1 ((([] : List Int)).map Bg))] rfl rfl)))) (Az ?_)
    exact ⟨⟨[_, _], ⟨.cellN _ _ _ _ _ _ _ rfl rfl A0 Ay rfl rfl (Jb rfl), ⟨.tmp _ _ rfl, tv⟩⟩, rfl⟩, ⟨rfl, rfl, rfl, tv⟩⟩
   ·have h := An c6 h
    refine Aq (Ab (Aa Ac rfl (qL A0 Ay rfl (qs Ay rfl (qa rfl (Ad ?_))))))
    obtain rfl := sj h
    refine Al (sm [(1000, 2007), (1001, 2008), (1002, 2009)] [(6, oD (.ptr 6 0)), (7, iD 0)] [(6, .box [.own 1000, .own 1001, .own 1002]), (1000, .vec 1 (v5.1.fBase.map Ai)), (1001, .vec 1 (v5.1.fNext.map Ai)), (1002, .vec 1 (v5.1.fHeld.map Bg))] rfl rfl) (Az ?_)
    exact ⟨⟨[_, _], ⟨.cellN _ _ _ _ _ _ _ rfl rfl A0 Ay rfl rfl (Jb rfl), ⟨.tmp _ _ rfl, tv⟩⟩, rfl⟩, ⟨rfl, rfl, rfl, tv⟩⟩
theorem PZ (N : Nat) (p0 : Ag) (p1 : Ae) (p2 : Ak) (r : Ae × Int) (h : Gw N p0 p1 p2 = some r) : AE Tryz.prog 71 [.e (.agg [sC (p0.fVersions.map Ai), sC (p0.fNow.map Ai), sC (p0.fTarget.map Ai), sC (p0.fTables.map Ao)]), .e (.agg [sC (p1.fBase.map Ai), sC (p1.fNext.map Ai), sC (p1.fHeld.map Bg)]), .e (.agg [iC p2.fKind, iC p2.fIndex, iC p2.fVersion])] [(1, r.1.fBase.map Ai), (1, r.1.fNext.map Ai), (1, r.1.fHeld.map Bg)] (.tup [.agg [.own 0, .own 1, .own 2], .one (iC r.2)]) := by
 unfold Gw at h
 refine Ar (n := 22) (rs := [.cell 6 50, .tmp 7]) Tryz.func71 rfl rfl rfl (A7 rfl) (A7 rfl) rfl fun w0 S0 => ?_
 refine Ab (Aa Ac rfl (qb rfl (qb rfl (qb rfl (qz Cu rfl (qa rfl (Ad (Ab (Ab (Aa Ac rfl (qL Ee DQ rfl (qL A0 Ay rfl ?_))))))))))))
 obtain ⟨v1, a1, h⟩ := bind_some h
 refine AH [] (Iv N p0 p1 v1 a1) Vq rfl (qa rfl (Ad (Ab (Aa Ac rfl (qm rfl (Cw rfl (Ad ?_)))))))
 refine Ap rfl (fun c2 => ?_) (fun c2 => ?_)
 ·have h := Am c2 h
  refine Ab (Aa Ac rfl (BO Cu HQ rfl (qm rfl (qs Ay rfl (qa rfl (Ad ?_))))))
  obtain rfl := sj h
  refine Al ((AF 6 0 2001 1 _ rfl rfl rfl rfl).trans ((AF 6 1 2002 1 _ rfl rfl rfl rfl).trans ((AF 6 2 2003 1 _ rfl rfl rfl rfl).trans (sm [(1000, 2001), (1001, 2002), (1002, 2003)] [(6, oD (.ptr 6 0)), (7, iD v1)] [(6, .box [.own 1000, .own 1001, .own 1002]), (1000, .vec 1 ((([] : List Int)).map Ai)), (1001, .vec 1 ((([] : List Int)).map Ai)), (1002, .vec 1 ((([] : List Int)).map Bg))] rfl rfl)))) (Az ?_)
  exact ⟨⟨[_, _], ⟨.cellN _ _ _ _ _ _ _ rfl rfl A0 Ay rfl rfl (Jb rfl), ⟨.tmp _ _ rfl, tv⟩⟩, rfl⟩, ⟨rfl, rfl, rfl, tv⟩⟩
 ·have h := An c2 h
  refine Aq (Ab (Aa Ac rfl (qL Ee DQ rfl (qL A0 Ay rfl (qL Im Ej rfl ?_)))))
  obtain ⟨v3, a3, h⟩ := bind_some h
  refine AH [2004, 2005, 2006] (Lt N p0 p1 p2 v3 a3) Yj rfl (qx rfl (qx rfl (qs Ay rfl (qa rfl (Ad ?_)))))
  obtain rfl := sj h
  refine Al (sm [(1000, 2004), (1001, 2005), (1002, 2006)] [(6, oD (.ptr 6 0)), (7, iD v3.2)] [(6, .box [.own 1000, .own 1001, .own 1002]), (1000, .vec 1 (v3.1.fBase.map Ai)), (1001, .vec 1 (v3.1.fNext.map Ai)), (1002, .vec 1 (v3.1.fHeld.map Bg))] rfl rfl) (Az ?_)
  exact ⟨⟨[_, _], ⟨.cellN _ _ _ _ _ _ _ rfl rfl A0 Ay rfl rfl (Jb rfl), ⟨.tmp _ _ rfl, tv⟩⟩, rfl⟩, ⟨rfl, rfl, rfl, tv⟩⟩
theorem LB (N : Nat) (p0 : Ag) (p1 : Ae) (r : (List Ak) × (List Ae)) (h : FJ N p0 p1 = some r) : AE Tryz.prog 49 [.e (.agg [sC (p0.fVersions.map Ai), sC (p0.fNow.map Ai), sC (p0.fTarget.map Ai), sC (p0.fTables.map Ao)]), .e (.agg [sC (p1.fBase.map Ai), sC (p1.fNext.map Ai), sC (p1.fHeld.map Bg)])] [(3, r.1.map AL), (3, r.2.map Af)] (.tup [.one (.own 0), .one (.own 1)]) := by
 unfold FJ at h
 refine Ar (n := 55) (rs := [.tmp 4, .tmp 5]) Tryz.func49 rfl rfl rfl (A7 rfl) (A7 rfl) rfl fun w0 S0 => ?_
 refine Ab (Aa Ac rfl (qb rfl (qb rfl (qa rfl (qa rfl (Ad (Ab (Aa Ac rfl (qa rfl (Ad (Ab (Aa Ac rfl (qa rfl (Ad (Ab (Aa Ac rfl (qL Ee DQ rfl (qL A0 Ay rfl ?_))))))))))))))))))
 obtain ⟨v1, a1, h⟩ := bind_some h
 refine AH [2001] (NA N p0 p1 v1 a1) Zw rfl (qm rfl (qx rfl (qx rfl (qa rfl (qa rfl (Ad (Ab (Ab (Aa Ac rfl (qm rfl (Dh Do rfl (qm rfl (Ad ?_)))))))))))))
 refine AK (L := EH N p0 p1 v1) h (fun v2 => mk [(2, oD (.ptr 2 0)), (3, oD (.ptr 3 0)), (6, oD (.own 2002)), (7, oD (.own 2003)), (22, oD (.own 2004)), (23, iD ((v1.1.length : Int))), (24, iD v2.2.2)] [(2, .box [sC (p0.fVersions.map Ai), sC (p0.fNow.map Ai), sC (p0.fTarget.map Ai), sC (p0.fTables.map Ao)]), (3, .box [sC (p1.fBase.map Ai), sC (p1.fNext.map Ai), sC (p1.fHeld.map Bg)]), (2002, .vec 3 (v2.1.map AL)), (2003, .vec 3 (v2.2.1.map Af)), (2004, .vec 3 (v1.1.map AL))]) (fun v3 => mk [(6, oD (.own 2005)), (7, oD (.own 2006))] [(2005, .vec 3 (v3.1.map AL)), (2006, .vec 3 (v3.2.map Af))]) (fun _ _ => rfl) ((Bn 6 2013 3 rfl rfl rfl).trans ((Bn 7 2014 3 rfl rfl rfl).trans (sm [(2002, 2013), (2003, 2014), (2004, 2001)] _ _ rfl rfl))) (fun j2 n2 v2 h => ?_) (fun v3 s h hs => ?_)
 ·unfold EH at h
  refine Ab (Aa Ac rfl (A1 rfl (Ad (Ab ?_))))
  refine Ap rfl (fun c4 => ?_) (fun c4 => ?_)
  ·have h := Am c4 h
   refine Aq ?_
   refine AU h (fun v5 => mk [(2, oD (.ptr 2 0)), (3, oD (.ptr 3 0)), (6, oD (.own 2007)), (7, oD (.own 2008)), (22, oD (.own 2009)), (23, iD ((v1.1.length : Int))), (24, iD v2.2.2)] [(2, .box [sC (p0.fVersions.map Ai), sC (p0.fNow.map Ai), sC (p0.fTarget.map Ai), sC (p0.fTables.map Ao)]), (3, .box [sC (p1.fBase.map Ai), sC (p1.fNext.map Ai), sC (p1.fHeld.map Bg)]), (2007, .vec 3 (v5.1.map AL)), (2008, .vec 3 (v5.2.map Af)), (2009, .vec 3 (v1.1.map AL))]) (fun j5 h => ?_) (fun v5 h => ?_)
   ·refine AR (Ab (Aa Ac rfl ?_))
    obtain ⟨v6, a6, b6, h⟩ := Aj h
    refine qI Do Ej a6 (Ah b6) rfl (qJ Im Ej (Ah b6) rfl (qz HO rfl (qs Ej rfl (Ad (Ab (Aa Ac rfl (qL Ee DQ rfl (qL A0 Ay rfl (qL Im Ej rfl ?_)))))))))
    obtain ⟨v7, a7, h⟩ := bind_some h
    refine AH [2010, 2011, 2012] (PZ N p0 p1 v6 v7 a7) YK rfl (qm rfl (qx rfl (qx rfl (qz Cu rfl (qs Ay rfl (qa rfl (Ad (Ab (Ab (Aa Ac rfl (qm rfl (Cw rfl (Ad ?_)))))))))))))
    refine Ap rfl (fun c8 => ?_) (fun c8 => ?_)
    ·have h := Am c8 h
     refine AW ?_
     exact Aw _ h (sm [(2007, 2002), (2008, 2003), (2009, 2004)] _ _ rfl rfl)
    ·have h := An c8 h
     refine Aq (Ab (Aa Ac rfl (qL Ee DQ rfl (qL A0 Ay rfl ?_))))
     obtain ⟨v9, a9, h⟩ := bind_some h
     refine FT [] [2010, 2011, 2012] (Jn N p0 v7.1 v9 a9) WK Ex rfl (qm rfl (qx rfl (qx rfl (qa rfl (qa rfl (Ad (Ab (Aa Ac rfl (qm rfl (Ad ?_))))))))))
     refine Ap rfl (fun c10 => ?_) (fun c10 => ?_)
     ·have h := Am c10 h
      refine Al (A4 2010 _ _ rfl rfl) (Al (A4 2011 _ _ rfl rfl) (Al (A4 2012 _ _ rfl rfl) (Aa Ac rfl (qm rfl (qL Im Ej rfl (D6 Do Ej HO rfl ?_))))))
      obtain ⟨c11, h⟩ := AN h
      refine Da (f := AL) Do Do Ej MW HO c11 rfl (qm rfl (qL A0 Ay rfl (D6 AM Ay Cu rfl ?_)))
      obtain ⟨c12, h⟩ := AN h
      refine Da (f := Af) AM AM Ay JN Cu c12 rfl (qa rfl (qa rfl (AQ (by kernel_rfl) ?_)))
      exact Aw _ h (sm [(2007, 47), (2008, 51), (2009, 2004)] _ _ rfl rfl)
     ·have h := An c10 h
      refine Aq ?_
      exact Aw _ h (sm [(2007, 2002), (2008, 2003), (2009, 2004)] _ _ rfl rfl)
   ·refine Aa Ac rfl (AY rfl (qm rfl (Ad ?_)))
    exact Aw _ h (sm [(2002, 2007), (2003, 2008), (2004, 2009)] _ _ rfl rfl)
  ·have h := An c4 h
   refine AW ?_
   exact Aw _ h (sm [(2005, 2002), (2006, 2003)] _ _ rfl rfl)
 ·refine Al hs (Ab (Aa Ac rfl (qm rfl (qm rfl (qa rfl (qa rfl (Ad ?_)))))))
  obtain rfl := sj h
  refine Al (sm [(1000, 2005), (1001, 2006)] [(4, oD (.own 1000)), (5, oD (.own 1001))] [(1000, .vec 3 (v3.1.map AL)), (1001, .vec 3 (v3.2.map Af))] rfl rfl) (Az ?_)
  exact ⟨⟨[_, _], ⟨.tmp _ _ rfl, ⟨.tmp _ _ rfl, tv⟩⟩, rfl⟩, ⟨rfl, rfl, tv⟩⟩
theorem Li (N : Nat) (p0 : Int) (r : Int) (h : GM N p0 = some r) : AE Tryz.prog 89 [pD (.val (.int .u32 p0))] [] (iD r) := by
 unfold GM at h
 refine Ar (n := 19) (rs := [.tmp 2]) Tryz.func89 rfl rfl rfl (A7 rfl) (A7 rfl) rfl fun w0 S0 => ?_
 refine Ab (Aa Ac rfl (qa rfl (Ad ?_)))
 refine AU h (fun v1 => mk [(0, pD (.val (.int .u32 v1.1))), (2, iD v1.2)] []) (fun j1 h => ?_) (fun v1 h => ?_)
 ·refine Ab (Aa Ac rfl (qm rfl (Dz rfl (Ad ?_))))
  refine Ap rfl (fun c2 => ?_) (fun c2 => ?_)
  ·have h := Am c2 h
   refine Ab (Aa Ac rfl (qm rfl (Hi rfl (by decide) (qa rfl (Ad (Aa Ac rfl (qa rfl (Ad ?_))))))))
   exact Aw _ h (sm [] _ _ rfl rfl)
  ·have h := An c2 h
   refine Aq ?_
   exact Aw _ h (sm [] _ _ rfl rfl)
 ·refine AU h (fun v3 => mk [(0, pD (.val (.int .u32 v3.1))), (2, iD v3.2)] []) (fun j3 h => ?_) (fun v3 h => ?_)
  ·refine Ab (Aa Ac rfl (qm rfl (Dz rfl (Ad ?_))))
   refine Ap rfl (fun c4 => ?_) (fun c4 => ?_)
   ·have h := Am c4 h
    refine Ab (Aa Ac rfl (qm rfl (Hi rfl (by decide) (qa rfl (Ad (Aa Ac rfl (qm rfl (AY rfl (qa rfl (Ad ?_))))))))))
    exact Aw _ h (sm [] _ _ rfl rfl)
   ·have h := An c4 h
    refine Aq ?_
    exact Aw _ h (sm [] _ _ rfl rfl)
  ·refine Ab (Aa Ac rfl (qm rfl (qm rfl (G5 P8 YA rfl ?_))))
   obtain ⟨v5, a5, h⟩ := bind_some h
   refine Mc (.p rfl) rfl rfl VE a5 ?_
   refine G5 Vg S5 rfl (AY rfl (qa rfl (Ad ?_)))
   obtain rfl := sj h
   refine Al (sm [] [(2, iD ((wI .i64 (v3.2 + (wI .i64 v5)))))] [] rfl rfl) (Az ?_)
   exact ⟨⟨[_], ⟨.tmp _ _ rfl, tv⟩, rfl⟩, tv⟩
theorem LD (N : Nat) (p0 : Int) (r : Int) (h : GR N p0 = some r) : AE Tryz.prog 90 [pD (.val (.int .u64 p0))] [] (iD r) := by
 unfold GR at h
 refine Ar (n := 25) (rs := [.tmp 2]) Tryz.func90 rfl rfl rfl (A7 rfl) (A7 rfl) rfl fun w0 S0 => ?_
 refine Ab (Aa Ac rfl (qa rfl (Ad ?_)))
 refine AU h (fun v1 => mk [(0, pD (.val (.int .u64 v1.1))), (2, iD v1.2)] []) (fun j1 h => ?_) (fun v1 h => ?_)
 ·refine Ab (Aa Ac rfl (qm rfl (Dz rfl (Ad ?_))))
  refine Ap rfl (fun c2 => ?_) (fun c2 => ?_)
  ·have h := Am c2 h
   refine Ab (Aa Ac rfl (qm rfl (Hi rfl (by decide) (qa rfl (Ad (Aa Ac rfl (qa rfl (Ad ?_))))))))
   exact Aw _ h (sm [] _ _ rfl rfl)
  ·have h := An c2 h
   refine Aq ?_
   exact Aw _ h (sm [] _ _ rfl rfl)
 ·refine AU h (fun v3 => mk [(0, pD (.val (.int .u64 v3.1))), (2, iD v3.2)] []) (fun j3 h => ?_) (fun v3 h => ?_)
  ·refine Ab (Aa Ac rfl (qm rfl (Dz rfl (Ad ?_))))
   refine Ap rfl (fun c4 => ?_) (fun c4 => ?_)
   ·have h := Am c4 h
    refine Ab (Aa Ac rfl (qm rfl (Hi rfl (by decide) (qa rfl (Ad (Aa Ac rfl (qm rfl (AY rfl (qa rfl (Ad ?_))))))))))
    exact Aw _ h (sm [] _ _ rfl rfl)
   ·have h := An c4 h
    refine Aq ?_
    exact Aw _ h (sm [] _ _ rfl rfl)
  ·refine AU h (fun v5 => mk [(0, pD (.val (.int .u64 v5.1))), (2, iD v5.2)] []) (fun j5 h => ?_) (fun v5 h => ?_)
   ·refine Ab (Aa Ac rfl (qm rfl (Dz rfl (Ad ?_))))
    refine Ap rfl (fun c6 => ?_) (fun c6 => ?_)
    ·have h := Am c6 h
     refine Ab (Aa Ac rfl (qm rfl (Hi rfl (by decide) (qa rfl (Ad (Aa Ac rfl (qm rfl (AY rfl (qa rfl (Ad ?_))))))))))
     exact Aw _ h (sm [] _ _ rfl rfl)
    ·have h := An c6 h
     refine Aq ?_
     exact Aw _ h (sm [] _ _ rfl rfl)
   ·refine Ab (Aa Ac rfl (qm rfl (qm rfl (G5 Uy YA rfl ?_))))
    obtain ⟨v7, a7, h⟩ := bind_some h
    refine Mc (.p rfl) rfl rfl VE a7 ?_
    refine G5 Vg S5 rfl (AY rfl (qa rfl (Ad ?_)))
    obtain rfl := sj h
    refine Al (sm [] [(2, iD ((wI .i64 (v5.2 + (wI .i64 v7)))))] [] rfl rfl) (Az ?_)
    exact ⟨⟨[_], ⟨.tmp _ _ rfl, tv⟩, rfl⟩, tv⟩
theorem Jx (N : Nat) (p0 : Int) (r : Int) (h : DD N p0 = some r) : AE Tryz.prog 61 [pD (.val (.int .u64 p0))] [] (iD r) := by
 unfold DD at h
 refine Ar (n := 8) (rs := [.tmp 2]) Tryz.func61 rfl rfl rfl (A7 rfl) (A7 rfl) rfl fun w0 S0 => ?_
 refine Ab (Aa Ac rfl (qa rfl (Ad (Ab ?_))))
 refine Ap rfl (fun c1 => ?_) (fun c1 => ?_)
 ·have h := Am c1 h
  refine Ab (Aa Ac rfl (qm rfl (G5 QO QI rfl ?_)))
  obtain ⟨v2, a2, h⟩ := bind_some h
  refine AH [] (Li N ((wI .u32 p0)) v2 a2) Y7 rfl (qa rfl (Ad ?_))
  obtain rfl := sj h
  refine Al (sm [] [(2, iD v2)] [] rfl rfl) (Az ?_)
  exact ⟨⟨[_], ⟨.tmp _ _ rfl, tv⟩, rfl⟩, tv⟩
 ·have h := An c1 h
  refine Aq (Ab (Aa Ac rfl (qm rfl ?_)))
  obtain ⟨v3, a3, h⟩ := bind_some h
  refine AH [] (LD N p0 v3 a3) Zl rfl (qa rfl (Ad ?_))
  obtain rfl := sj h
  refine Al (sm [] [(2, iD v3)] [] rfl rfl) (Az ?_)
  exact ⟨⟨[_], ⟨.tmp _ _ rfl, tv⟩, rfl⟩, tv⟩
theorem F8 (N : Nat) (p0 : List Ae) (p1 : Int) (p2 : Int) (p3 : (Ae × Ae) → Option Int) (r : (List Ae)) (h : Gs.insertionSort N p0 p1 p2 p3 = some r) : BK Tryz.prog 81 [oD (.own 90000), iD p1, iD p2, oD (.clo (B0 (EA true Af true Af) CN p3))] [(.vec 3 (p0.map Af), .vec 3 (r.map Af))] [] (.tup []) := by
 unfold Gs.insertionSort at h
 refine BC (n := 53) (rs := []) Tryz.func81 rfl rfl rfl (A7 rfl) (A7 rfl) rfl rfl (A7 rfl) rfl (A7 rfl) fun w0 S0 GL => Nh ?_
 refine Al (sm [] [(0, oD (.own 90000)), (1, iD p1), (2, iD p2), (3, oD (.clo (B0 (EA true Af true Af) CN p3)))] [(90000, .vec 3 (p0.map Af))] rfl rfl) (Ab (Aa Ac rfl (qm rfl (AY rfl (qa rfl (Ad ?_))))))
 refine AK (L := Gs.insertionSort_L1 N p1 p2 p3) h (fun v1 => mk [(0, oD (.own 90000)), (1, iD p1), (2, iD p2), (3, oD (.clo (B0 (EA true Af true Af) CN p3))), (8, iD v1.2)] [(90000, .vec 3 (v1.1.map Af))]) (fun v2 => mk [] [(90000, .vec 3 (v2.map Af))]) (fun _ _ => rfl) (sm [] _ _ rfl rfl) (fun j1 n1 v1 h => ?_) (fun v2 s h hs => ?_)
 ·unfold Gs.insertionSort_L1 at h
  refine Ab (Ab (Aa Ac rfl (qm rfl (qm rfl (A1 rfl (Ad ?_))))))
  refine Ap rfl (fun c3 => ?_) (fun c3 => ?_)
  ·have h := Am c3 h
   refine Aq (Ab (AR (Ab (Aa Ac rfl (qm rfl (qa rfl (Ad ?_)))))))
   refine AK (L := Gs.insertionSort_L4 N p1 p3) h (fun v4 => mk [(0, oD (.own 90000)), (1, iD p1), (2, iD p2), (3, oD (.clo (B0 (EA true Af true Af) CN p3))), (8, iD v1.2), (9, iD v4.2)] [(90000, .vec 3 (v4.1.map Af))]) (fun v5 => mk [(0, oD (.own 90000)), (1, iD p1), (2, iD p2), (3, oD (.clo (B0 (EA true Af true Af) CN p3))), (8, iD v1.2)] [(90000, .vec 3 (v5.map Af))]) (fun _ _ => rfl) (sm [] _ _ rfl rfl) (fun j4 n4 v4 h => ?_) (fun v5 s h hs => ?_)
   ·unfold Gs.insertionSort_L4 at h
    refine Ab ?_
    refine AU h (fun v6 => mk [(0, oD (.own 90000)), (1, iD p1), (2, iD p2), (3, oD (.clo (B0 (EA true Af true Af) CN p3))), (8, iD v1.2), (9, iD v4.2), (34, bD v6)] [(90000, .vec 3 (v4.1.map Af))]) (fun j6 h => ?_) (fun v6 h => ?_)
    ·refine Aa Ac rfl (qm rfl (qm rfl (Fh rfl (qm rfl ?_))))
     refine AG (t := 21) rfl (fun c7 => ?_) (fun c7 => ?_)
     ·have h := Am c7 h
      refine qm rfl (qm rfl (qm rfl ?_))
      obtain ⟨v8, a8, b8, h⟩ := Aj h
      refine qI AM Ay a8 (Ah b8) rfl (qJ A0 Ay (Ah b8) rfl (qm rfl (qm rfl (CM rfl ?_))))
      obtain ⟨v9, a9, b9, h⟩ := Aj h
      refine qI AM Ay a9 (Ah b9) rfl (qJ A0 Ay (Ah b9) rfl ?_)
      obtain ⟨v10, a10, h⟩ := bind_some h
      refine EF (ds0 := [_, _]) (ar := (EA true Af true Af) ((v8, v9))) (.g rfl rfl) rfl rfl ⟨rfl, rfl, tv⟩ rfl rfl rfl (EE (Fj _ _ _ _ Bz Bz) a10) ?_
      refine A1 rfl (qp rfl (AQ (by kernel_rfl) ?_))
      exact Aw _ h (sm [] _ _ rfl rfl)
     ·have h := An c7 h
      refine qn rfl (qn rfl (qn rfl (qn rfl (qn rfl (qn rfl (qn rfl (qn rfl (qn rfl (qn rfl (qn rfl (qn rfl (qp rfl (AQ (by kernel_rfl) ?_)))))))))))))
      exact Aw _ h (sm [] _ _ rfl rfl)
    ·refine Ap rfl (fun c11 => ?_) (fun c11 => ?_)
     ·have h := Am c11 h
      refine Aq (Ab (AR (Aa Ac rfl (qm rfl (qm rfl (qm rfl (qm rfl (CM rfl (qm rfl (qm rfl (CM rfl ?_)))))))))))
      obtain ⟨v12, a12, b12, h⟩ := Aj h
      refine qI AM Ay a12 (Ah b12) rfl (qJ A0 Ay (Ah b12) rfl (qm rfl (qm rfl ?_)))
      obtain ⟨v13, a13, b13, h⟩ := Aj h
      refine qI AM Ay a13 (Ah b13) rfl (qJ A0 Ay (Ah b13) rfl ?_)
      obtain ⟨v14, a14, b14, h⟩ := Aj h
      refine qI AM Ay a14 (Ah b14) rfl ?_
      refine Bd rfl rfl rfl rfl (Ah b14) rfl Ay rfl (A7 rfl) (Bc Af v4.1 _ v12) ?_
      obtain ⟨v15, a15, b15, h⟩ := Aj h
      refine qI AM Ay a15 (Ah b15) rfl ?_
      refine Bd rfl rfl rfl rfl (Ah b15) rfl Ay rfl (A7 rfl) (Bc Af (v4.1.set ((v4.2).toNat) v12) _ v13) ?_
      refine AQ (by kernel_rfl) (Aa Ac rfl (qm rfl (CM rfl (qa rfl (Ad ?_)))))
      exact Aw _ h (sm [] _ _ rfl rfl)
     ·have h := An c11 h
      refine AW ?_
      exact Aw _ h (sm [] _ _ rfl rfl)
   ·refine Al hs (Aa Ac rfl (qm rfl (AY rfl (qa rfl (Ad ?_)))))
    exact Aw _ h (sm [] _ _ rfl rfl)
  ·have h := An c3 h
   refine AW ?_
   exact Aw _ h (sm [] _ _ rfl rfl)
 ·obtain rfl := sj h
  refine ⟨_, hs.trans (sm [] [] [(90000, .vec 3 (v2.map Af))] rfl rfl), ?_⟩
  exact ⟨⟨[], tv, rfl⟩, ⟨rfl, tv⟩, tv⟩
theorem E5 (N : Nat) (p0 : List Ae) (p1 : Int) (p2 : Int) (p3 : Int) (p4 : (Ae × Ae) → Option Int) (r : (List Ae)) (h : Gs.siftDown N p0 p1 p2 p3 p4 = some r) : BK Tryz.prog 105 [oD (.own 90000), iD p1, iD p2, iD p3, oD (.clo (B0 (EA true Af true Af) CN p4))] [(.vec 3 (p0.map Af), .vec 3 (r.map Af))] [] (.tup []) := by
 unfold Gs.siftDown at h
 refine BC (n := 82) (rs := []) Tryz.func105 rfl rfl rfl (A7 rfl) (A7 rfl) rfl rfl (A7 rfl) rfl (A7 rfl) fun w0 S0 GL => Nh ?_
 refine Al (sm [] [(0, oD (.own 90000)), (1, iD p1), (2, iD p2), (3, iD p3), (4, oD (.clo (B0 (EA true Af true Af) CN p4)))] [(90000, .vec 3 (p0.map Af))] rfl rfl) (Ab (Aa Ac rfl (qm rfl (qa rfl (Ad ?_)))))
 refine AK (L := Gs.siftDown_L1 N p2 p3 p4) h (fun v1 => mk [(0, oD (.own 90000)), (2, iD p2), (3, iD p3), (4, oD (.clo (B0 (EA true Af true Af) CN p4))), (10, iD v1.2)] [(90000, .vec 3 (v1.1.map Af))]) (fun v2 => mk [] [(90000, .vec 3 (v2.map Af))]) (fun _ _ => rfl) (sm [] _ _ rfl rfl) (fun j1 n1 v1 h => ?_) (fun v2 s h hs => ?_)
 ·unfold Gs.siftDown_L1 at h
  refine AR (Ab (Aa Ac rfl (qm rfl (Iz rfl (AY rfl (qa rfl (Ad (Ab (Ab (Aa Ac rfl (qm rfl (qm rfl (Dz rfl (Ad ?_))))))))))))))
  refine Ap rfl (fun c3 => ?_) (fun c3 => ?_)
  ·have h := Am c3 h
   refine AW ?_
   exact Aw _ h (sm [] _ _ rfl rfl)
  ·have h := An c3 h
   refine Aq ?_
   refine AU h (fun v4 => mk [(0, oD (.own 90000)), (2, iD p2), (3, iD p3), (4, oD (.clo (B0 (EA true Af true Af) CN p4))), (10, iD v1.2), (11, iD v4)] [(90000, .vec 3 (v1.1.map Af))]) (fun j4 h => ?_) (fun v4 h => ?_)
   ·refine AU h (fun v5 => mk [(0, oD (.own 90000)), (2, iD p2), (3, iD p3), (4, oD (.clo (B0 (EA true Af true Af) CN p4))), (10, iD v1.2), (11, iD ((wI .i64 ((wI .i64 (2 * v1.2)) + 1)))), (40, bD v5)] [(90000, .vec 3 (v1.1.map Af))]) (fun j5 h => ?_) (fun v5 h => ?_)
    ·refine Aa Ac rfl (qm rfl (AY rfl (qm rfl (A1 rfl (qm rfl ?_)))))
     refine AG (t := 23) rfl (fun c6 => ?_) (fun c6 => ?_)
     ·have h := Am c6 h
      refine qm rfl (qm rfl (qm rfl (qm rfl (AY rfl ?_))))
      obtain ⟨v7, a7, b7, h⟩ := Aj h
      refine qI AM Ay a7 (Ah b7) rfl (qJ A0 Ay (Ah b7) rfl (qm rfl (qm rfl (qm rfl (AY rfl (AY rfl ?_))))))
      obtain ⟨v8, a8, b8, h⟩ := Aj h
      refine qI AM Ay a8 (Ah b8) rfl (qJ A0 Ay (Ah b8) rfl ?_)
      obtain ⟨v9, a9, h⟩ := bind_some h
      refine EF (ds0 := [_, _]) (ar := (EA true Af true Af) ((v7, v8))) (.g rfl rfl) rfl rfl ⟨rfl, rfl, tv⟩ rfl rfl rfl (EE (Fj _ _ _ _ Bz Bz) a9) ?_
      refine A1 rfl (qp rfl (AQ (by kernel_rfl) ?_))
      exact Aw _ h (sm [] _ _ rfl rfl)
     ·have h := An c6 h
      refine qn rfl (qn rfl (qn rfl (qn rfl (qn rfl (qn rfl (qn rfl (qn rfl (qn rfl (qn rfl (qn rfl (qn rfl (qn rfl (qn rfl (qn rfl (qn rfl (qp rfl (AQ (by kernel_rfl) ?_)))))))))))))))))
      exact Aw _ h (sm [] _ _ rfl rfl)
    ·refine Ap rfl (fun c10 => ?_) (fun c10 => ?_)
     ·have h := Am c10 h
      refine Aa Ac rfl (qm rfl (AY rfl (qa rfl (Ad ?_))))
      exact Aw _ h (sm [] _ _ rfl rfl)
     ·have h := An c10 h
      refine Aq ?_
      exact Aw _ h (sm [] _ _ rfl rfl)
   ·refine Ab (Ab (Aa Ac rfl (qm rfl (qm rfl (qm rfl (qm rfl (AY rfl ?_)))))))
    obtain ⟨v11, a11, b11, h⟩ := Aj h
    refine qI AM Ay a11 (Ah b11) rfl (qJ A0 Ay (Ah b11) rfl (qm rfl (qm rfl (qm rfl (AY rfl ?_)))))
    obtain ⟨v12, a12, b12, h⟩ := Aj h
    refine qI AM Ay a12 (Ah b12) rfl (qJ A0 Ay (Ah b12) rfl ?_)
    obtain ⟨v13, a13, h⟩ := bind_some h
    refine EF (ds0 := [_, _]) (ar := (EA true Af true Af) ((v11, v12))) (.p rfl) rfl rfl ⟨rfl, rfl, tv⟩ rfl rfl rfl (EE (Fj _ _ _ _ Bz Bz) a13) ?_
    refine A1 rfl (B7 rfl (AQ (by kernel_rfl) ?_))
    refine Ap rfl (fun c14 => ?_) (fun c14 => ?_)
    ·have h := Am c14 h
     obtain rfl := sj h
     refine Az ⟨_, (sm [] [] [(90000, .vec 3 (v1.1.map Af))] rfl rfl), ?_⟩
     exact ⟨⟨[], tv, rfl⟩, ⟨rfl, tv⟩, tv⟩
    ·have h := An c14 h
     refine Aq (Ab (Aa Ac rfl (qm rfl (qm rfl (qm rfl (AY rfl (qm rfl (qm rfl (qm rfl (AY rfl (qm rfl (qm rfl (qm rfl (AY rfl ?_))))))))))))))
     obtain ⟨v15, a15, b15, h⟩ := Aj h
     refine qI AM Ay a15 (Ah b15) rfl (qJ A0 Ay (Ah b15) rfl (qm rfl (qm rfl (qm rfl (AY rfl ?_)))))
     obtain ⟨v16, a16, b16, h⟩ := Aj h
     refine qI AM Ay a16 (Ah b16) rfl (qJ A0 Ay (Ah b16) rfl ?_)
     obtain ⟨v17, a17, b17, h⟩ := Aj h
     refine qI AM Ay a17 (Ah b17) rfl ?_
     refine Bd rfl rfl rfl rfl (Ah b17) rfl Ay rfl (A7 rfl) (Bc Af v1.1 _ v15) ?_
     obtain ⟨v18, a18, b18, h⟩ := Aj h
     refine qI AM Ay a18 (Ah b18) rfl ?_
     refine Bd rfl rfl rfl rfl (Ah b18) rfl Ay rfl (A7 rfl) (Bc Af (v1.1.set (((wI .i64 (p3 + v1.2))).toNat) v15) _ v16) ?_
     refine AQ (by kernel_rfl) (Aa Ac rfl (qm rfl (qa rfl (Ad ?_))))
     exact Aw _ h (sm [] _ _ rfl rfl)
 ·obtain rfl := sj h
  refine ⟨_, hs.trans (sm [] [] [(90000, .vec 3 (v2.map Af))] rfl rfl), ?_⟩
  exact ⟨⟨[], tv, rfl⟩, ⟨rfl, tv⟩, tv⟩
theorem Ha (N : Nat) (p0 : List Ae) (p1 : Int) (p2 : Int) (p3 : (Ae × Ae) → Option Int) (r : (List Ae)) (h : Gs.heapSort N p0 p1 p2 p3 = some r) : BK Tryz.prog 82 [oD (.own 90000), iD p1, iD p2, oD (.clo (B0 (EA true Af true Af) CN p3))] [(.vec 3 (p0.map Af), .vec 3 (r.map Af))] [] (.tup []) := by
 unfold Gs.heapSort at h
 refine BC (n := 60) (rs := []) Tryz.func82 rfl rfl rfl (A7 rfl) (A7 rfl) rfl rfl (A7 rfl) rfl (A7 rfl) fun w0 S0 GL => Nh ?_
 refine Al (sm [] [(0, oD (.own 90000)), (1, iD p1), (2, iD p2), (3, oD (.clo (B0 (EA true Af true Af) CN p3)))] [(90000, .vec 3 (p0.map Af))] rfl rfl) (Ab (Aa Ac rfl (qm rfl (qa rfl (Ad (Ab (Aa Ac rfl (qa rfl (Ad (Ab (Aa Ac rfl (qm rfl (qm rfl (CM rfl (qa rfl (Ad (Ab (Ab (Aa Ac rfl (qm rfl (CM rfl (NH rfl (by decide) (qa rfl (Ad ?_))))))))))))))))))))))))
 refine AK (L := Gs.heapSort_L1 N p1 p2 p3) h (fun v1 => mk [(0, oD (.own 90000)), (3, oD (.clo (B0 (EA true Af true Af) CN p3))), (8, iD p1), (9, iD 0), (10, iD ((wI .i64 (p2 - p1)))), (11, iD v1.2)] [(90000, .vec 3 (v1.1.map Af))]) (fun v2 => mk [(0, oD (.own 90000)), (3, oD (.clo (B0 (EA true Af true Af) CN p3))), (8, iD p1), (9, iD 0), (10, iD ((wI .i64 (p2 - p1))))] [(90000, .vec 3 (v2.map Af))]) (fun _ _ => rfl) (sm [] _ _ rfl rfl) (fun j1 n1 v1 h => ?_) (fun v2 s h hs => ?_)
 ·unfold Gs.heapSort_L1 at h
  refine Ab (Ab (Aa Ac rfl (qm rfl (Dz rfl (Ad ?_)))))
  refine Ap rfl (fun c3 => ?_) (fun c3 => ?_)
  ·have h := Am c3 h
   refine Aq (Ab (AR (Aa Ac rfl (qm rfl (qm rfl (qm rfl (qm rfl (qm rfl ?_))))))))
   obtain ⟨v4, a4, h⟩ := bind_some h
   refine Dc (ds0 := [_, _, _, _, _]) [90000] [] [true] (E5 N v1.1 v1.2 ((wI .i64 (p2 - p1))) p1 p3 v4 a4) (.p rfl) V8 rfl ⟨rfl, rfl, rfl, rfl, rfl, tv⟩ rfl rfl (by decide) ⟨rfl, tv⟩ rfl (Bo rfl) tv ⟨(fun h => by cases h), tv⟩ rfl rfl rfl ?_
   refine Ad (Aa Ac rfl (qm rfl (CM rfl (qa rfl (Ad ?_)))))
   exact Aw _ h (sm [] _ _ rfl rfl)
  ·have h := An c3 h
   refine AW ?_
   exact Aw _ h (sm [] _ _ rfl rfl)
 ·refine Al hs (Ab (Aa Ac rfl (qm rfl (CM rfl (qa rfl (Ad ?_))))))
  refine AK (L := Gs.heapSort_L5 N p1 p3) h (fun v5 => mk [(0, oD (.own 90000)), (3, oD (.clo (B0 (EA true Af true Af) CN p3))), (8, iD p1), (9, iD 0), (12, iD v5.2)] [(90000, .vec 3 (v5.1.map Af))]) (fun v6 => mk [] [(90000, .vec 3 (v6.map Af))]) (fun _ _ => rfl) (sm [] _ _ rfl rfl) (fun j5 n5 v5 h => ?_) (fun v6 s h hs => ?_)
  ·unfold Gs.heapSort_L5 at h
   refine Ab (Ab (Aa Ac rfl (qm rfl (Dz rfl (Ad ?_)))))
   refine Ap rfl (fun c7 => ?_) (fun c7 => ?_)
   ·have h := Am c7 h
    refine Aq (Ab (AR (Ab (Aa Ac rfl (qm rfl (qm rfl (qm rfl (qm rfl (qm rfl (AY rfl (qm rfl (qm rfl (qm rfl (AY rfl ?_))))))))))))))
    obtain ⟨v8, a8, b8, h⟩ := Aj h
    refine qI AM Ay a8 (Ah b8) rfl (qJ A0 Ay (Ah b8) rfl (qm rfl (qm rfl ?_)))
    obtain ⟨v9, a9, b9, h⟩ := Aj h
    refine qI AM Ay a9 (Ah b9) rfl (qJ A0 Ay (Ah b9) rfl ?_)
    obtain ⟨v10, a10, b10, h⟩ := Aj h
    refine qI AM Ay a10 (Ah b10) rfl ?_
    refine Bd rfl rfl rfl rfl (Ah b10) rfl Ay rfl (A7 rfl) (Bc Af v5.1 _ v8) ?_
    obtain ⟨v11, a11, b11, h⟩ := Aj h
    refine qI AM Ay a11 (Ah b11) rfl ?_
    refine Bd rfl rfl rfl rfl (Ah b11) rfl Ay rfl (A7 rfl) (Bc Af (v5.1.set ((p1).toNat) v8) _ v9) ?_
    refine AQ (by kernel_rfl) (Aa Ac rfl (qm rfl (qm rfl (qm rfl (qm rfl (qm rfl ?_))))))
    obtain ⟨v12, a12, h⟩ := bind_some h
    refine Dc (ds0 := [_, _, _, _, _]) [90000] [] [true] (E5 N ((v5.1.set ((p1).toNat) v8).set (((wI .i64 (p1 + v5.2))).toNat) v9) 0 v5.2 p1 p3 v12 a12) (.p rfl) V8 rfl ⟨rfl, rfl, rfl, rfl, rfl, tv⟩ rfl rfl (by decide) ⟨rfl, tv⟩ rfl (Bo rfl) tv ⟨(fun h => by cases h), tv⟩ rfl rfl rfl ?_
    refine Ad (Aa Ac rfl (qm rfl (CM rfl (qa rfl (Ad ?_)))))
    exact Aw _ h (sm [] _ _ rfl rfl)
   ·have h := An c7 h
    refine AW ?_
    exact Aw _ h (sm [] _ _ rfl rfl)
  ·obtain rfl := sj h
   refine ⟨_, hs.trans (sm [] [] [(90000, .vec 3 (v6.map Af))] rfl rfl), ?_⟩
   exact ⟨⟨[], tv, rfl⟩, ⟨rfl, tv⟩, tv⟩
theorem I5 (N : Nat) (p0 : Int) (r : Int) (h : Dw N p0 = some r) : AE Tryz.prog 106 [iD p0] [] (pD (.val (.int .u64 r))) := by
 unfold Dw at h
 refine Ar (n := 7) (rs := [.tmp 2]) Tryz.func106 rfl rfl rfl (A7 rfl) (A7 rfl) rfl fun w0 S0 => ?_
 refine Ab (Aa Ac rfl (qa rfl (Ad (Ab (Aa Ac rfl (qm rfl (G5 W0 OO rfl ?_)))))))
 obtain ⟨v1, a1, h⟩ := bind_some h
 refine AH [] (Jx N ((wI .u64 p0)) v1 a1) Xn rfl ?_
 obtain ⟨c2, h⟩ := AN h
 refine HA rfl c2 (qa rfl (Ad ?_))
 obtain rfl := sj h
 refine Al (sm [] [(2, pD (.val (.int .u64 ((Co .u64 1 v1)))))] [] rfl rfl) (Az ?_)
 exact ⟨⟨[_], ⟨.tmp _ _ rfl, tv⟩, rfl⟩, tv⟩
theorem Ju (N : Nat) (p0 : Int) (r : Int × Int) (h : DC N p0 = some r) : BK Tryz.prog 107 [oD (.ptr 90000 0)] [(.box [.pure (.val (.int .u64 p0))], .box [.pure (.val (.int .u64 r.2))])] [] (pD (.val (.int .u64 r.1))) := by
 unfold DC at h
 refine BC (n := 33) (rs := [.tmp 2]) Tryz.func107 rfl rfl rfl (A7 rfl) (A7 rfl) rfl rfl (A7 rfl) rfl (A7 rfl) fun w0 S0 GL => ?_
 refine Al (sm [] [(0, oD (.ptr 90000 0))] [(90000, .box [.pure (.val (.int .u64 p0))])] rfl rfl) (Ab (Aa Ac rfl (qa rfl (Ad (Ab (Aa Ac rfl (qm rfl (Ou rfl (ql Nm rfl (qm rfl (Ou rfl (ql Nm rfl (HA rfl (by decide) (S6 rfl (Ou rfl (qs RX rfl (AQ (by kernel_rfl) (Ab (Aa Ac rfl (qm rfl (Ou rfl (ql Nm rfl (qm rfl (Ou rfl (ql Nm rfl (Hi rfl (by decide) (S6 rfl (Ou rfl (qs RX rfl (AQ (by kernel_rfl) (Ab (Aa Ac rfl (qm rfl (Ou rfl (ql Nm rfl (qm rfl (Ou rfl (ql Nm rfl (HA rfl (by decide) ?_)))))))))))))))))))))))))))))))))))))))
 refine S6 rfl (Ou rfl (qs RX rfl (AQ (by kernel_rfl) (Ab (Aa Ac rfl (qm rfl (Ou rfl (ql Nm rfl (qa rfl (Ad ?_))))))))))
 obtain rfl := sj h
 refine Al (sm [] [(2, pD (.val (.int .u64 ((Gu .u64 ((Gu .u64 ((Gu .u64 p0 ((Co .u64 p0 13)))) ((Ei .u64 ((Gu .u64 p0 ((Co .u64 p0 13)))) 7)))) ((Co .u64 ((Gu .u64 ((Gu .u64 p0 ((Co .u64 p0 13)))) ((Ei .u64 ((Gu .u64 p0 ((Co .u64 p0 13)))) 7)))) 17)))))))] [(90000, .box [.pure (.val (.int .u64 ((Gu .u64 ((Gu .u64 ((Gu .u64 p0 ((Co .u64 p0 13)))) ((Ei .u64 ((Gu .u64 p0 ((Co .u64 p0 13)))) 7)))) ((Co .u64 ((Gu .u64 ((Gu .u64 p0 ((Co .u64 p0 13)))) ((Ei .u64 ((Gu .u64 p0 ((Co .u64 p0 13)))) 7)))) 17))))))])] rfl rfl) (Az ?_)
 exact ⟨⟨[_], ⟨.tmp _ _ rfl, tv⟩, rfl⟩, ⟨rfl, tv⟩, tv⟩
theorem Gd (N : Nat) (p0 : List Ae) (p1 : Int) (p2 : Int) (p3 : (Ae × Ae) → Option Int) (r : (List Ae)) (h : Gs.breakPatterns N p0 p1 p2 p3 = some r) : BK Tryz.prog 83 [oD (.own 90000), iD p1, iD p2, oD (.clo (B0 (EA true Af true Af) CN p3))] [(.vec 3 (p0.map Af), .vec 3 (r.map Af))] [] (.tup []) := by
 unfold Gs.breakPatterns at h
 refine BC (n := 67) (rs := []) Tryz.func83 rfl rfl rfl (A7 rfl) (A7 rfl) rfl rfl (A7 rfl) rfl (A7 rfl) fun w0 S0 GL => Nh ?_
 refine Al (sm [] [(0, oD (.own 90000)), (1, iD p1), (2, iD p2), (3, oD (.clo (B0 (EA true Af true Af) CN p3)))] [(90000, .vec 3 (p0.map Af))] rfl rfl) (Ab (Aa Ac rfl (qm rfl (qm rfl (CM rfl (qa rfl (Ad (Ab (Aa Ac rfl (qm rfl (Dz rfl (Ad ?_))))))))))))
 refine Ap rfl (fun c1 => ?_) (fun c1 => ?_)
 ·have h := Am c1 h
  refine Ab (Aa Ac rfl (qm rfl (G5 W0 XC rfl (qz Yh rfl (qs RX rfl (Ad (Ab (Aa Ac rfl (qm rfl ?_)))))))))
  obtain ⟨v2, a2, h⟩ := bind_some h
  refine AH [] (I5 N ((wI .i64 (p2 - p1))) v2 a2) Xp rfl (qa rfl (Ad (Ab (Aa Ac rfl (qm rfl (qm rfl (NH rfl (by decide) (Iz rfl (AY rfl (CM rfl (qa rfl (Ad ?_))))))))))))
  refine AK (L := Gs.breakPatterns_L3 N p1 p2 v2) h (fun v3 => mk [(0, oD (.own 90000)), (1, iD p1), (8, iD ((wI .i64 (p2 - p1)))), (9, oD (.ptr 9 0)), (10, pD (.val (.int .u64 v2))), (11, iD v3.2.2)] [(9, .box [.pure (.val (.int .u64 v3.2.1))]), (90000, .vec 3 (v3.1.map Af))]) (fun v4 => mk [] [(90000, .vec 3 (v4.map Af))]) (fun _ _ => rfl) (sm [] _ _ rfl rfl) (fun j3 n3 v3 h => ?_) (fun v4 s h hs => ?_)
  ·unfold Gs.breakPatterns_L3 at h
   refine Ab (Ab (Aa Ac rfl (qm rfl (qm rfl (qm rfl (NH rfl (by decide) (Iz rfl (AY rfl (AY rfl (KB rfl (Ad ?_)))))))))))
   refine Ap rfl (fun c5 => ?_) (fun c5 => ?_)
   ·have h := Am c5 h
    refine Aq (Ab (AR (Ab (Aa Ac rfl ?_))))
    obtain ⟨v6, a6, h⟩ := bind_some h
    refine Dc (ds0 := [_]) [9] [] [true] (Ju N v3.2.1 v6 a6) (.p rfl) Yu rfl ⟨rfl, tv⟩ rfl rfl (by decide) ⟨rfl, tv⟩ rfl (Bo rfl) tv ⟨(fun h => by cases h), tv⟩ rfl rfl rfl ?_
    refine qm rfl (CM rfl (Lh rfl (G5 QO S5 rfl (qa rfl (Ad ?_)))))
    refine AU h (fun v7 => mk [(0, oD (.own 90000)), (1, iD p1), (8, iD ((wI .i64 (p2 - p1)))), (9, oD (.ptr 9 0)), (10, pD (.val (.int .u64 v2))), (11, iD v3.2.2), (12, iD v7)] [(9, .box [.pure (.val (.int .u64 v6.2))]), (90000, .vec 3 (v3.1.map Af))]) (fun j7 h => ?_) (fun v7 h => ?_)
    ·refine Ab (Aa Ac rfl (qm rfl (qm rfl (Dz rfl (Ad ?_)))))
     refine Ap rfl (fun c8 => ?_) (fun c8 => ?_)
     ·have h := Am c8 h
      refine Aa Ac rfl (qm rfl (qm rfl (CM rfl (qa rfl (Ad ?_)))))
      exact Aw _ h (sm [] _ _ rfl rfl)
     ·have h := An c8 h
      refine Aq ?_
      exact Aw _ h (sm [] _ _ rfl rfl)
    ·refine Aa Ac rfl (qm rfl (qm rfl (qm rfl (qm rfl (qm rfl (AY rfl (qm rfl (qm rfl (qm rfl (AY rfl ?_))))))))))
     obtain ⟨v9, a9, b9, h⟩ := Aj h
     refine qI AM Ay a9 (Ah b9) rfl (qJ A0 Ay (Ah b9) rfl (qm rfl (qm rfl ?_)))
     obtain ⟨v10, a10, b10, h⟩ := Aj h
     refine qI AM Ay a10 (Ah b10) rfl (qJ A0 Ay (Ah b10) rfl ?_)
     obtain ⟨v11, a11, b11, h⟩ := Aj h
     refine qI AM Ay a11 (Ah b11) rfl ?_
     refine Bd rfl rfl rfl rfl (Ah b11) rfl Ay rfl (A7 rfl) (Bc Af v3.1 _ v9) ?_
     obtain ⟨v12, a12, b12, h⟩ := Aj h
     refine qI AM Ay a12 (Ah b12) rfl ?_
     refine Bd rfl rfl rfl rfl (Ah b12) rfl Ay rfl (A7 rfl) (Bc Af (v3.1.set ((v3.2.2).toNat) v9) _ v10) ?_
     refine AQ (by kernel_rfl) (Aa Ac rfl (qm rfl (AY rfl (qa rfl (Ad ?_)))))
     exact Aw _ h (sm [] _ _ rfl rfl)
   ·have h := An c5 h
    refine AW ?_
    exact Aw _ h (sm [] _ _ rfl rfl)
  ·obtain rfl := sj h
   refine ⟨_, hs.trans (sm [] [] [(90000, .vec 3 (v4.map Af))] rfl rfl), ?_⟩
   exact ⟨⟨[], tv, rfl⟩, ⟨rfl, tv⟩, tv⟩
 ·have h := An c1 h
  refine Aq ?_
  obtain rfl := sj h
  refine ⟨_, (sm [] [] [(90000, .vec 3 (p0.map Af))] rfl rfl), ?_⟩
  exact ⟨⟨[], tv, rfl⟩, ⟨rfl, tv⟩, tv⟩
theorem Eg (N : Nat) (p0 : List Ae) (p1 : Int) (p2 : Int) (p3 : Int) (p4 : (Ae × Ae) → Option Int) (r : Int × Int × Int) (h : Gs.order2 N p0 p1 p2 p3 p4 = some r) : BK Tryz.prog 119 [pD (.sl (p0.map Af)), iD p1, iD p2, oD (.ptr 90000 0), oD (.clo (B0 (EA true Af true Af) CN p4))] [(.box [iC p3], .box [iC r.2.2])] [] (.tup [.one (iC r.1), .one (iC r.2.1)]) := by
 unfold Gs.order2 at h
 refine BC (n := 32) (rs := [.tmp 10, .tmp 11]) Tryz.func119 rfl rfl rfl (A7 rfl) (A7 rfl) rfl rfl (A7 rfl) rfl (A7 rfl) fun w0 S0 GL => ?_
 refine Al (sm [] [(0, pD (.sl (p0.map Af))), (1, iD p1), (2, iD p2), (3, oD (.ptr 90000 0)), (4, oD (.clo (B0 (EA true Af true Af) CN p4)))] [(90000, .box [iC p3])] rfl rfl) (Ab (Aa Ac rfl (qa rfl (qa rfl (Ad (Ab (Ab (Aa Ac rfl (qm rfl (qm rfl (qm rfl ?_)))))))))))
 obtain ⟨v1, a1, b1, h⟩ := Aj h
 refine qi AM Ay a1 (Ah b1) rfl (qK A0 Ay rfl (qm rfl (qm rfl ?_)))
 obtain ⟨v2, a2, b2, h⟩ := Aj h
 refine qi AM Ay a2 (Ah b2) rfl (qK A0 Ay rfl ?_)
 obtain ⟨v3, a3, h⟩ := bind_some h
 refine EF (ds0 := [_, _]) (ar := (EA true Af true Af) ((v1, v2))) (.p rfl) rfl rfl ⟨rfl, rfl, tv⟩ rfl rfl rfl (EE (Fj _ _ _ _ Bz Bz) a3) ?_
 refine A1 rfl (AQ (by kernel_rfl) ?_)
 refine Ap rfl (fun c4 => ?_) (fun c4 => ?_)
 ·have h := Am c4 h
  refine Ab (Aa Ac rfl (qm rfl (Ou rfl (ql Cs rfl (AY rfl (Ou rfl (qs DA rfl (Ad (Ab (Aa Ac rfl (qm rfl (qm rfl (qa rfl (qa rfl (Ad ?_)))))))))))))))
  obtain rfl := sj h
  refine Al (sm [] [(10, iD p2), (11, iD p1)] [(90000, .box [iC ((wI .i64 (p3 + 1)))])] rfl rfl) (Az ?_)
  exact ⟨⟨[_, _], ⟨.tmp _ _ rfl, ⟨.tmp _ _ rfl, tv⟩⟩, rfl⟩, ⟨rfl, tv⟩, tv⟩
 ·have h := An c4 h
  refine Aq (Ab (Aa Ac rfl (qm rfl (qm rfl (qa rfl (qa rfl (Ad ?_)))))))
  obtain rfl := sj h
  refine Al (sm [] [(10, iD p1), (11, iD p2)] [(90000, .box [iC p3])] rfl rfl) (Az ?_)
  exact ⟨⟨[_, _], ⟨.tmp _ _ rfl, ⟨.tmp _ _ rfl, tv⟩⟩, rfl⟩, ⟨rfl, tv⟩, tv⟩
theorem Fn (N : Nat) (p0 : List Ae) (p1 : Int) (p2 : Int) (p3 : Int) (p4 : Int) (p5 : (Ae × Ae) → Option Int) (r : Int × Int) (h : Gs.median N p0 p1 p2 p3 p4 p5 = some r) : BK Tryz.prog 109 [pD (.sl (p0.map Af)), iD p1, iD p2, iD p3, oD (.ptr 90000 0), oD (.clo (B0 (EA true Af true Af) CN p5))] [(.box [iC p4], .box [iC r.2])] [] (iD r.1) := by
 unfold Gs.median at h
 refine BC (n := 41) (rs := [.tmp 12]) Tryz.func109 rfl rfl rfl (A7 rfl) (A7 rfl) rfl rfl (A7 rfl) rfl (A7 rfl) fun w0 S0 GL => ?_
 refine Al (sm [] [(0, pD (.sl (p0.map Af))), (1, iD p1), (2, iD p2), (3, iD p3), (4, oD (.ptr 90000 0)), (5, oD (.clo (B0 (EA true Af true Af) CN p5)))] [(90000, .box [iC p4])] rfl rfl) (Ab (Aa Ac rfl (qa rfl (Ad (Ab (Aa Ac rfl (qm rfl (qm rfl (qm rfl (qm rfl (qm rfl ?_)))))))))))
 obtain ⟨v1, a1, h⟩ := bind_some h
 refine Dc (ds0 := [_, _, _, _, _]) [90000] [] [true] (Eg N p0 p1 p2 p4 p5 v1 a1) (.p rfl) Uw rfl ⟨rfl, rfl, rfl, rfl, rfl, tv⟩ rfl rfl (by decide) ⟨rfl, tv⟩ rfl (Bo rfl) tv ⟨(fun h => by cases h), tv⟩ rfl rfl rfl ?_
 refine qm rfl (qx rfl (qx rfl (qa rfl (qa rfl (Ad (Ab (Aa Ac rfl (qm rfl (qm rfl (qm rfl (qm rfl (qm rfl ?_))))))))))))
 obtain ⟨v2, a2, h⟩ := bind_some h
 refine Dc (ds0 := [_, _, _, _, _]) [90000] [] [true] (Eg N p0 v1.2.1 p3 v1.2.2 p5 v2 a2) (.p rfl) Uw rfl ⟨rfl, rfl, rfl, rfl, rfl, tv⟩ rfl rfl (by decide) ⟨rfl, tv⟩ rfl (Bo rfl) tv ⟨(fun h => by cases h), tv⟩ rfl rfl rfl ?_
 refine qm rfl (qx rfl (qx rfl (qa rfl (qa rfl (Ad (Ab (Aa Ac rfl (qm rfl (qm rfl (qm rfl (qm rfl (qm rfl ?_))))))))))))
 obtain ⟨v3, a3, h⟩ := bind_some h
 refine Dc (ds0 := [_, _, _, _, _]) [90000] [] [true] (Eg N p0 v1.1 v2.1 v2.2.2 p5 v3 a3) (.p rfl) Uw rfl ⟨rfl, rfl, rfl, rfl, rfl, tv⟩ rfl rfl (by decide) ⟨rfl, tv⟩ rfl (Bo rfl) tv ⟨(fun h => by cases h), tv⟩ rfl rfl rfl ?_
 refine qm rfl (qx rfl (qx rfl (qa rfl (qa rfl (Ad (Ab (Aa Ac rfl (qm rfl (qa rfl (Ad ?_))))))))))
 obtain rfl := sj h
 refine Al (sm [] [(12, iD v3.2.1)] [(90000, .box [iC v3.2.2])] rfl rfl) (Az ?_)
 exact ⟨⟨[_], ⟨.tmp _ _ rfl, tv⟩, rfl⟩, ⟨rfl, tv⟩, tv⟩
theorem CY (N : Nat) (p0 : List Ae) (p1 : Int) (p2 : Int) (p3 : (Ae × Ae) → Option Int) (r : Int × Int) (h : Gs.medianAdjacent N p0 p1 p2 p3 = some r) : BK Tryz.prog 108 [pD (.sl (p0.map Af)), iD p1, oD (.ptr 90000 0), oD (.clo (B0 (EA true Af true Af) CN p3))] [(.box [iC p2], .box [iC r.2])] [] (iD r.1) := by
 unfold Gs.medianAdjacent at h
 refine BC (n := 18) (rs := [.tmp 8]) Tryz.func108 rfl rfl rfl (A7 rfl) (A7 rfl) rfl rfl (A7 rfl) rfl (A7 rfl) fun w0 S0 GL => ?_
 refine Al (sm [] [(0, pD (.sl (p0.map Af))), (1, iD p1), (2, oD (.ptr 90000 0)), (3, oD (.clo (B0 (EA true Af true Af) CN p3)))] [(90000, .box [iC p2])] rfl rfl) (Ab (Aa Ac rfl (qa rfl (Ad (Ab (Aa Ac rfl (qm rfl (qm rfl (CM rfl (qm rfl (qm rfl (AY rfl (qm rfl (qm rfl ?_))))))))))))))
 obtain ⟨v1, a1, h⟩ := bind_some h
 refine Dc (ds0 := [_, _, _, _, _, _]) [90000] [] [true] (Fn N p0 ((wI .i64 (p1 - 1))) p1 ((wI .i64 (p1 + 1))) p2 p3 v1 a1) (.p rfl) Wj rfl ⟨rfl, rfl, rfl, rfl, rfl, rfl, tv⟩ rfl rfl (by decide) ⟨rfl, tv⟩ rfl (Bo rfl) tv ⟨(fun h => by cases h), tv⟩ rfl rfl rfl ?_
 refine qa rfl (Ad ?_)
 obtain rfl := sj h
 refine Al (sm [] [(8, iD v1.1)] [(90000, .box [iC v1.2])] rfl rfl) (Az ?_)
 exact ⟨⟨[_], ⟨.tmp _ _ rfl, tv⟩, rfl⟩, ⟨rfl, tv⟩, tv⟩
theorem Gx (N : Nat) (p0 : List Ae) (p1 : Int) (p2 : Int) (p3 : (Ae × Ae) → Option Int) (r : Int × Int) (h : Gs.choosePivot N p0 p1 p2 p3 = some r) : AE Tryz.prog 84 [pD (.sl (p0.map Af)), iD p1, iD p2, oD (.clo (B0 (EA true Af true Af) CN p3))] [] (.tup [.one (iC r.1), .one (iC r.2)]) := by
 unfold Gs.choosePivot at h
 refine Ar (n := 63) (rs := [.tmp 8, .tmp 9]) Tryz.func84 rfl rfl rfl (A7 rfl) (A7 rfl) rfl fun w0 S0 => ?_
 refine Ab (Aa Ac rfl (qa rfl (qa rfl (Ad (Ab (Aa Ac rfl (qm rfl (qm rfl (CM rfl (qa rfl (Ad (Ab (Aa Ac rfl (qz KE rfl (Ad (Ab (Aa Ac rfl (qm rfl (qm rfl (NH rfl (by decide) (Iz rfl (AY rfl (qa rfl (Ad (Ab (Aa Ac rfl (qm rfl (qm rfl (NH rfl (by decide) (Iz rfl (AY rfl (qa rfl (Ad (Ab (Aa Ac rfl (qm rfl (qm rfl (NH rfl (by decide) (Iz rfl ?_)))))))))))))))))))))))))))))))))))))))
 refine AY rfl (qa rfl (Ad ?_))
 refine AU h (fun v1 => mk [(11, oD (.ptr 11 0)), (13, iD v1.2)] [(11, .box [iC v1.1])]) (fun j1 h => ?_) (fun v1 h => ?_)
 ·refine Ab (Aa Ac rfl (qm rfl (Dz rfl (Ad ?_))))
  refine Ap rfl (fun c2 => ?_) (fun c2 => ?_)
  ·have h := Am c2 h
   refine AU h (fun v3 => mk [(0, pD (.sl (p0.map Af))), (3, oD (.clo (B0 (EA true Af true Af) CN p3))), (11, oD (.ptr 11 0)), (12, iD v3.2.1), (13, iD v3.2.2.1), (14, iD v3.2.2.2)] [(11, .box [iC v3.1])]) (fun j3 h => ?_) (fun v3 h => ?_)
   ·refine Ab (Aa Ac rfl (qm rfl (Dz rfl (Ad ?_))))
    refine Ap rfl (fun c4 => ?_) (fun c4 => ?_)
    ·have h := Am c4 h
     refine Ab (Aa Ac rfl (qm rfl (qm rfl (qm rfl ?_))))
     obtain ⟨v5, a5, h⟩ := bind_some h
     refine Dc (ds0 := [_, _, _, _]) [11] [] [true] (CY N p0 ((wI .i64 (p1 + (wI .i64 ((wI .i64 (Int.tdiv ((wI .i64 (p2 - p1))) 4)) * 1))))) 0 p3 v5 a5) (.p rfl) Uu rfl ⟨rfl, rfl, rfl, rfl, tv⟩ rfl rfl (by decide) ⟨rfl, tv⟩ rfl (Bo rfl) tv ⟨(fun h => by cases h), tv⟩ rfl rfl rfl ?_
     refine qa rfl (Ad (Ab (Aa Ac rfl (qm rfl (qm rfl (qm rfl ?_))))))
     obtain ⟨v6, a6, h⟩ := bind_some h
     refine Dc (ds0 := [_, _, _, _]) [11] [] [true] (CY N p0 ((wI .i64 (p1 + (wI .i64 ((wI .i64 (Int.tdiv ((wI .i64 (p2 - p1))) 4)) * 2))))) v5.2 p3 v6 a6) (.p rfl) Uu rfl ⟨rfl, rfl, rfl, rfl, tv⟩ rfl rfl (by decide) ⟨rfl, tv⟩ rfl (Bo rfl) tv ⟨(fun h => by cases h), tv⟩ rfl rfl rfl ?_
     refine qa rfl (Ad (Aa Ac rfl (qm rfl (qm rfl (qm rfl ?_)))))
     obtain ⟨v7, a7, h⟩ := bind_some h
     refine Dc (ds0 := [_, _, _, _]) [11] [] [true] (CY N p0 ((wI .i64 (p1 + (wI .i64 ((wI .i64 (Int.tdiv ((wI .i64 (p2 - p1))) 4)) * 3))))) v6.2 p3 v7 a7) (.p rfl) Uu rfl ⟨rfl, rfl, rfl, rfl, tv⟩ rfl rfl (by decide) ⟨rfl, tv⟩ rfl (Bo rfl) tv ⟨(fun h => by cases h), tv⟩ rfl rfl rfl ?_
     refine qa rfl (Ad ?_)
     exact Aw _ h (sm [] _ _ rfl rfl)
    ·have h := An c4 h
     refine Aq ?_
     exact Aw _ h (sm [] _ _ rfl rfl)
   ·refine Aa Ac rfl (qm rfl (qm rfl (qm rfl (qm rfl (qm rfl ?_)))))
    obtain ⟨v8, a8, h⟩ := bind_some h
    refine Dc (ds0 := [_, _, _, _, _, _]) [11] [] [true] (Fn N p0 v3.2.1 v3.2.2.1 v3.2.2.2 v3.1 p3 v8 a8) (.p rfl) Wj rfl ⟨rfl, rfl, rfl, rfl, rfl, rfl, tv⟩ rfl rfl (by decide) ⟨rfl, tv⟩ rfl (Bo rfl) tv ⟨(fun h => by cases h), tv⟩ rfl rfl rfl ?_
    refine qa rfl (Ad ?_)
    exact Aw _ h (sm [] _ _ rfl rfl)
  ·have h := An c2 h
   refine Aq ?_
   exact Aw _ h (sm [] _ _ rfl rfl)
 ·refine Ab (Aa Ac rfl (ql Cs rfl (Ad (AR (Ab (Aa Ac rfl (BM rfl (qa rfl (Ad ?_)))))))))
  refine Ap rfl (fun c9 => ?_) (fun c9 => ?_)
  ·have h := Am c9 h
   refine Ab (Aa Ac rfl (qm rfl (qa rfl (qa rfl (Ad ?_)))))
   obtain rfl := sj h
   refine Al (sm [] [(8, iD v1.2), (9, iD 1)] [] rfl rfl) (Az ?_)
   exact ⟨⟨[_, _], ⟨.tmp _ _ rfl, ⟨.tmp _ _ rfl, tv⟩⟩, rfl⟩, tv⟩
  ·have h := An c9 h
   refine Ab (Aa Ac rfl (BM rfl (qa rfl (Ad ?_))))
   refine Ap rfl (fun c10 => ?_) (fun c10 => ?_)
   ·have h := Am c10 h
    refine Ab (Aa Ac rfl (qm rfl (qa rfl (qa rfl (Ad ?_)))))
    obtain rfl := sj h
    refine Al (sm [] [(8, iD v1.2), (9, iD 2)] [] rfl rfl) (Az ?_)
    exact ⟨⟨[_, _], ⟨.tmp _ _ rfl, ⟨.tmp _ _ rfl, tv⟩⟩, rfl⟩, tv⟩
   ·have h := An c10 h
    refine Ab (Aa Ac rfl (qm rfl (qa rfl (qa rfl (Ad ?_)))))
    obtain rfl := sj h
    refine Al (sm [] [(8, iD v1.2), (9, iD 0)] [] rfl rfl) (Az ?_)
    exact ⟨⟨[_, _], ⟨.tmp _ _ rfl, ⟨.tmp _ _ rfl, tv⟩⟩, rfl⟩, tv⟩
theorem Gi (N : Nat) (p0 : List Ae) (p1 : Int) (p2 : Int) (p3 : (Ae × Ae) → Option Int) (r : (List Ae)) (h : Gs.reverseRange N p0 p1 p2 p3 = some r) : BK Tryz.prog 85 [oD (.own 90000), iD p1, iD p2, oD (.clo (B0 (EA true Af true Af) CN p3))] [(.vec 3 (p0.map Af), .vec 3 (r.map Af))] [] (.tup []) := by
 unfold Gs.reverseRange at h
 refine BC (n := 34) (rs := []) Tryz.func85 rfl rfl rfl (A7 rfl) (A7 rfl) rfl rfl (A7 rfl) rfl (A7 rfl) fun w0 S0 GL => Nh ?_
 refine Al (sm [] [(0, oD (.own 90000)), (1, iD p1), (2, iD p2), (3, oD (.clo (B0 (EA true Af true Af) CN p3)))] [(90000, .vec 3 (p0.map Af))] rfl rfl) (Ab (Aa Ac rfl (qm rfl (qa rfl (Ad (Ab (Aa Ac rfl (qm rfl (CM rfl (qa rfl (Ad ?_)))))))))))
 refine AK (L := Gs.reverseRange_L1 N) h (fun v1 => mk [(0, oD (.own 90000)), (8, iD v1.2.1), (9, iD v1.2.2)] [(90000, .vec 3 (v1.1.map Af))]) (fun v2 => mk [] [(90000, .vec 3 (v2.map Af))]) (fun _ _ => rfl) (sm [] _ _ rfl rfl) (fun j1 n1 v1 h => ?_) (fun v2 s h hs => ?_)
 ·unfold Gs.reverseRange_L1 at h
  refine Ab (Ab (Aa Ac rfl (qm rfl (qm rfl (A1 rfl (Ad ?_))))))
  refine Ap rfl (fun c3 => ?_) (fun c3 => ?_)
  ·have h := Am c3 h
   refine Aq (AR (Ab (Aa Ac rfl (qm rfl (qm rfl (qm rfl (qm rfl (qm rfl (qm rfl ?_)))))))))
   obtain ⟨v4, a4, b4, h⟩ := Aj h
   refine qI AM Ay a4 (Ah b4) rfl (qJ A0 Ay (Ah b4) rfl (qm rfl (qm rfl ?_)))
   obtain ⟨v5, a5, b5, h⟩ := Aj h
   refine qI AM Ay a5 (Ah b5) rfl (qJ A0 Ay (Ah b5) rfl ?_)
   obtain ⟨v6, a6, b6, h⟩ := Aj h
   refine qI AM Ay a6 (Ah b6) rfl ?_
   refine Bd rfl rfl rfl rfl (Ah b6) rfl Ay rfl (A7 rfl) (Bc Af v1.1 _ v4) ?_
   obtain ⟨v7, a7, b7, h⟩ := Aj h
   refine qI AM Ay a7 (Ah b7) rfl ?_
   refine Bd rfl rfl rfl rfl (Ah b7) rfl Ay rfl (A7 rfl) (Bc Af (v1.1.set ((v1.2.1).toNat) v4) _ v5) ?_
   refine AQ (by kernel_rfl) (Ab (Aa Ac rfl (qm rfl (AY rfl (qa rfl (Ad (Aa Ac rfl (qm rfl (CM rfl (qa rfl (Ad ?_)))))))))))
   exact Aw _ h (sm [] _ _ rfl rfl)
  ·have h := An c3 h
   refine AW ?_
   exact Aw _ h (sm [] _ _ rfl rfl)
 ·obtain rfl := sj h
  refine ⟨_, hs.trans (sm [] [] [(90000, .vec 3 (v2.map Af))] rfl rfl), ?_⟩
  exact ⟨⟨[], tv, rfl⟩, ⟨rfl, tv⟩, tv⟩
theorem Fq (N : Nat) (p0 : List Ae) (p1 : Int) (p2 : Int) (p3 : (Ae × Ae) → Option Int) (r : Bool × (List Ae)) (h : Gs.partialInsertionSort N p0 p1 p2 p3 = some r) : BK Tryz.prog 86 [oD (.own 90000), iD p1, iD p2, oD (.clo (B0 (EA true Af true Af) CN p3))] [(.vec 3 (p0.map Af), .vec 3 (r.2.map Af))] [] (bD r.1) := by
 unfold Gs.partialInsertionSort at h
 refine BC (n := 141) (rs := [.tmp 8]) Tryz.func86 rfl rfl rfl (A7 rfl) (A7 rfl) rfl rfl (A7 rfl) rfl (A7 rfl) fun w0 S0 GL => ?_
 refine Al (sm [] [(0, oD (.own 90000)), (1, iD p1), (2, iD p2), (3, oD (.clo (B0 (EA true Af true Af) CN p3)))] [(90000, .vec 3 (p0.map Af))] rfl rfl) (Ab (Aa Ac rfl (qa rfl (Ad (Ab (Aa Ac rfl (qm rfl (AY rfl (qa rfl (Ad (Ab (Ab (Aa Ac rfl (qa rfl (Ad ?_)))))))))))))))
 refine AK (L := Gs.partialInsertionSort_L1 N p1 p2 p3) h (fun v1 => mk [(0, oD (.own 90000)), (1, iD p1), (2, iD p2), (3, oD (.clo (B0 (EA true Af true Af) CN p3))), (9, iD v1.2.1), (10, iD v1.2.2)] [(90000, .vec 3 (v1.1.map Af))]) (fun v2 => mk [] [(90000, .vec 3 (v2.map Af))]) (fun _ _ => rfl) (sm [] _ _ rfl rfl) (fun j1 n1 v1 h => ?_) (fun v2 s h hs => ?_)
 ·unfold Gs.partialInsertionSort_L1 at h
  refine Ab (Ab (Aa Ac rfl (qm rfl (A1 rfl (Ad ?_)))))
  refine Ap rfl (fun c3 => ?_) (fun c3 => ?_)
  ·have h := Am c3 h
   refine Aq ?_
   refine AU h (fun v4 => mk [(0, oD (.own 90000)), (1, iD p1), (2, iD p2), (3, oD (.clo (B0 (EA true Af true Af) CN p3))), (9, iD v4.2), (10, iD v1.2.2)] [(90000, .vec 3 (v4.1.map Af))]) (fun j4 h => ?_) (fun v4 h => ?_)
   ·refine AR (Ab ?_)
    refine AK (L := Gs.partialInsertionSort_L5 N p2 p3 v1) h (fun v5 => mk [(0, oD (.own 90000)), (1, iD p1), (2, iD p2), (3, oD (.clo (B0 (EA true Af true Af) CN p3))), (9, iD v5), (10, iD v1.2.2)] [(90000, .vec 3 (v1.1.map Af))]) (fun v6 => mk [(0, oD (.own 90000)), (1, iD p1), (2, iD p2), (3, oD (.clo (B0 (EA true Af true Af) CN p3))), (9, iD v6), (10, iD v1.2.2)] [(90000, .vec 3 (v1.1.map Af))]) (fun _ _ => rfl) (sm [] _ _ rfl rfl) (fun j5 n5 v5 h => ?_) (fun v6 s h hs => ?_)
    ·unfold Gs.partialInsertionSort_L5 at h
     refine Ab ?_
     refine AU h (fun v7 => mk [(0, oD (.own 90000)), (1, iD p1), (2, iD p2), (3, oD (.clo (B0 (EA true Af true Af) CN p3))), (9, iD v5), (10, iD v1.2.2), (36, bD v7)] [(90000, .vec 3 (v1.1.map Af))]) (fun j7 h => ?_) (fun v7 h => ?_)
     ·refine Aa Ac rfl (qm rfl (qm rfl (A1 rfl (qm rfl ?_))))
      refine AG (t := 22) rfl (fun c8 => ?_) (fun c8 => ?_)
      ·have h := Am c8 h
       refine qm rfl (qm rfl (qm rfl ?_))
       obtain ⟨v9, a9, b9, h⟩ := Aj h
       refine qI AM Ay a9 (Ah b9) rfl (qJ A0 Ay (Ah b9) rfl (qm rfl (qm rfl (CM rfl ?_))))
       obtain ⟨v10, a10, b10, h⟩ := Aj h
       refine qI AM Ay a10 (Ah b10) rfl (qJ A0 Ay (Ah b10) rfl ?_)
       obtain ⟨v11, a11, h⟩ := bind_some h
       refine EF (ds0 := [_, _]) (ar := (EA true Af true Af) ((v9, v10))) (.g rfl rfl) rfl rfl ⟨rfl, rfl, tv⟩ rfl rfl rfl (EE (Fj _ _ _ _ Bz Bz) a11) ?_
       refine A1 rfl (B7 rfl (qp rfl (AQ (by kernel_rfl) ?_)))
       exact Aw _ h (sm [] _ _ rfl rfl)
      ·have h := An c8 h
       refine qn rfl (qn rfl (qn rfl (qn rfl (qn rfl (qn rfl (qn rfl (qn rfl (qn rfl (qn rfl (qn rfl (qn rfl (qn rfl (qp rfl (AQ (by kernel_rfl) ?_))))))))))))))
       exact Aw _ h (sm [] _ _ rfl rfl)
     ·refine Ap rfl (fun c12 => ?_) (fun c12 => ?_)
      ·have h := Am c12 h
       refine Aq (AR (Aa Ac rfl (qm rfl (AY rfl (qa rfl (Ad ?_))))))
       exact Aw _ h (sm [] _ _ rfl rfl)
      ·have h := An c12 h
       refine AW ?_
       exact Aw _ h (sm [] _ _ rfl rfl)
    ·refine Al hs (Ab (Ab (Aa Ac rfl (qm rfl (qm rfl (BM rfl (Ad ?_)))))))
     refine Ap rfl (fun c13 => ?_) (fun c13 => ?_)
     ·have h := Am c13 h
      refine Ab (Aa Ac rfl (qa rfl (Ad ?_)))
      obtain rfl := sj h
      refine Al (sm [] [(8, bD true)] [(90000, .vec 3 (v1.1.map Af))] rfl rfl) (Az ?_)
      exact ⟨⟨[_], ⟨.tmp _ _ rfl, tv⟩, rfl⟩, ⟨rfl, tv⟩, tv⟩
     ·have h := An c13 h
      refine Aq (Ab (Ab (Aa Ac rfl (qm rfl (qm rfl (CM rfl (A1 rfl (Ad ?_))))))))
      refine Ap rfl (fun c14 => ?_) (fun c14 => ?_)
      ·have h := Am c14 h
       refine Ab (Aa Ac rfl (qa rfl (Ad ?_)))
       obtain rfl := sj h
       refine Al (sm [] [(8, bD false)] [(90000, .vec 3 (v1.1.map Af))] rfl rfl) (Az ?_)
       exact ⟨⟨[_], ⟨.tmp _ _ rfl, tv⟩, rfl⟩, ⟨rfl, tv⟩, tv⟩
      ·have h := An c14 h
       refine Aq (Ab (Aa Ac rfl (qm rfl (qm rfl (qm rfl (qm rfl (CM rfl (qm rfl (qm rfl (CM rfl ?_))))))))))
       obtain ⟨v15, a15, b15, h⟩ := Aj h
       refine qI AM Ay a15 (Ah b15) rfl (qJ A0 Ay (Ah b15) rfl (qm rfl (qm rfl ?_)))
       obtain ⟨v16, a16, b16, h⟩ := Aj h
       refine qI AM Ay a16 (Ah b16) rfl (qJ A0 Ay (Ah b16) rfl ?_)
       obtain ⟨v17, a17, b17, h⟩ := Aj h
       refine qI AM Ay a17 (Ah b17) rfl ?_
       refine Bd rfl rfl rfl rfl (Ah b17) rfl Ay rfl (A7 rfl) (Bc Af v1.1 _ v15) ?_
       obtain ⟨v18, a18, b18, h⟩ := Aj h
       refine qI AM Ay a18 (Ah b18) rfl ?_
       refine Bd rfl rfl rfl rfl (Ah b18) rfl Ay rfl (A7 rfl) (Bc Af (v1.1.set ((v6).toNat) v15) _ v16) ?_
       refine AQ (by kernel_rfl) ?_
       refine AU h (fun v19 => mk [(0, oD (.own 90000)), (1, iD p1), (2, iD p2), (3, oD (.clo (B0 (EA true Af true Af) CN p3))), (9, iD v6), (10, iD v1.2.2)] [(90000, .vec 3 (v19.map Af))]) (fun j19 h => ?_) (fun v19 h => ?_)
       ·refine Ab (Aa Ac rfl (qm rfl (qm rfl (CM rfl (Dz rfl (Ad ?_))))))
        refine Ap rfl (fun c20 => ?_) (fun c20 => ?_)
        ·have h := Am c20 h
         refine Ab (Aa Ac rfl (qm rfl (CM rfl (qa rfl (Ad ?_)))))
         refine AK (L := Gs.partialInsertionSort_L21 N p3) h (fun v21 => mk [(0, oD (.own 90000)), (1, iD p1), (2, iD p2), (3, oD (.clo (B0 (EA true Af true Af) CN p3))), (9, iD v6), (10, iD v1.2.2), (11, iD v21.2)] [(90000, .vec 3 (v21.1.map Af))]) (fun v22 => mk [(0, oD (.own 90000)), (1, iD p1), (2, iD p2), (3, oD (.clo (B0 (EA true Af true Af) CN p3))), (9, iD v6), (10, iD v1.2.2)] [(90000, .vec 3 (v22.map Af))]) (fun _ _ => rfl) (sm [] _ _ rfl rfl) (fun j21 n21 v21 h => ?_) (fun v22 s h hs => ?_)
         ·unfold Gs.partialInsertionSort_L21 at h
          refine Ab (Ab (Aa Ac rfl (qm rfl (Dz rfl (Ad ?_)))))
          refine Ap rfl (fun c23 => ?_) (fun c23 => ?_)
          ·have h := Am c23 h
           refine Aq (Ab (AR (Ab (Ab (Aa Ac rfl (qm rfl (qm rfl (qm rfl ?_))))))))
           obtain ⟨v24, a24, b24, h⟩ := Aj h
           refine qI AM Ay a24 (Ah b24) rfl (qJ A0 Ay (Ah b24) rfl (qm rfl (qm rfl (CM rfl ?_))))
           obtain ⟨v25, a25, b25, h⟩ := Aj h
           refine qI AM Ay a25 (Ah b25) rfl (qJ A0 Ay (Ah b25) rfl ?_)
           obtain ⟨v26, a26, h⟩ := bind_some h
           refine EF (ds0 := [_, _]) (ar := (EA true Af true Af) ((v24, v25))) (.p rfl) rfl rfl ⟨rfl, rfl, tv⟩ rfl rfl rfl (EE (Fj _ _ _ _ Bz Bz) a26) ?_
           refine A1 rfl (B7 rfl (AQ (by kernel_rfl) ?_))
           refine Ap rfl (fun c27 => ?_) (fun c27 => ?_)
           ·have h := Am c27 h
            refine AW ?_
            exact Aw _ h (sm [] _ _ rfl rfl)
           ·have h := An c27 h
            refine Aq (Aa Ac rfl (qm rfl (qm rfl (qm rfl (qm rfl (CM rfl (qm rfl (qm rfl (CM rfl ?_)))))))))
            obtain ⟨v28, a28, b28, h⟩ := Aj h
            refine qI AM Ay a28 (Ah b28) rfl (qJ A0 Ay (Ah b28) rfl (qm rfl (qm rfl ?_)))
            obtain ⟨v29, a29, b29, h⟩ := Aj h
            refine qI AM Ay a29 (Ah b29) rfl (qJ A0 Ay (Ah b29) rfl ?_)
            obtain ⟨v30, a30, b30, h⟩ := Aj h
            refine qI AM Ay a30 (Ah b30) rfl ?_
            refine Bd rfl rfl rfl rfl (Ah b30) rfl Ay rfl (A7 rfl) (Bc Af v21.1 _ v28) ?_
            obtain ⟨v31, a31, b31, h⟩ := Aj h
            refine qI AM Ay a31 (Ah b31) rfl ?_
            refine Bd rfl rfl rfl rfl (Ah b31) rfl Ay rfl (A7 rfl) (Bc Af (v21.1.set ((v21.2).toNat) v28) _ v29) ?_
            refine AQ (by kernel_rfl) (Aa Ac rfl (qm rfl (CM rfl (qa rfl (Ad ?_)))))
            exact Aw _ h (sm [] _ _ rfl rfl)
          ·have h := An c23 h
           refine AW ?_
           exact Aw _ h (sm [] _ _ rfl rfl)
         ·exact Aw _ h (hs.trans (sm [] _ _ rfl rfl))
        ·have h := An c20 h
         refine Aq ?_
         exact Aw _ h (sm [] _ _ rfl rfl)
       ·refine Ab (Aa Ac rfl (qm rfl (qm rfl (CM rfl (Dz rfl (Ad ?_))))))
        refine Ap rfl (fun c32 => ?_) (fun c32 => ?_)
        ·have h := Am c32 h
         refine Ab (Aa Ac rfl (qm rfl (AY rfl (qa rfl (Ad ?_)))))
         refine AK (L := Gs.partialInsertionSort_L33 N p2 p3) h (fun v33 => mk [(0, oD (.own 90000)), (1, iD p1), (2, iD p2), (3, oD (.clo (B0 (EA true Af true Af) CN p3))), (9, iD v6), (10, iD v1.2.2), (12, iD v33.2)] [(90000, .vec 3 (v33.1.map Af))]) (fun v34 => mk [(0, oD (.own 90000)), (1, iD p1), (2, iD p2), (3, oD (.clo (B0 (EA true Af true Af) CN p3))), (9, iD v6), (10, iD v1.2.2)] [(90000, .vec 3 (v34.map Af))]) (fun _ _ => rfl) (sm [] _ _ rfl rfl) (fun j33 n33 v33 h => ?_) (fun v34 s h hs => ?_)
         ·unfold Gs.partialInsertionSort_L33 at h
          refine Ab (Ab (Aa Ac rfl (qm rfl (qm rfl (A1 rfl (Ad ?_))))))
          refine Ap rfl (fun c35 => ?_) (fun c35 => ?_)
          ·have h := Am c35 h
           refine Aq (Ab (AR (Ab (Ab (Aa Ac rfl (qm rfl (qm rfl (qm rfl ?_))))))))
           obtain ⟨v36, a36, b36, h⟩ := Aj h
           refine qI AM Ay a36 (Ah b36) rfl (qJ A0 Ay (Ah b36) rfl (qm rfl (qm rfl (CM rfl ?_))))
           obtain ⟨v37, a37, b37, h⟩ := Aj h
           refine qI AM Ay a37 (Ah b37) rfl (qJ A0 Ay (Ah b37) rfl ?_)
           obtain ⟨v38, a38, h⟩ := bind_some h
           refine EF (ds0 := [_, _]) (ar := (EA true Af true Af) ((v36, v37))) (.p rfl) rfl rfl ⟨rfl, rfl, tv⟩ rfl rfl rfl (EE (Fj _ _ _ _ Bz Bz) a38) ?_
           refine A1 rfl (B7 rfl (AQ (by kernel_rfl) ?_))
           refine Ap rfl (fun c39 => ?_) (fun c39 => ?_)
           ·have h := Am c39 h
            refine AW ?_
            exact Aw _ h (sm [] _ _ rfl rfl)
           ·have h := An c39 h
            refine Aq (Aa Ac rfl (qm rfl (qm rfl (qm rfl (qm rfl (CM rfl (qm rfl (qm rfl (CM rfl ?_)))))))))
            obtain ⟨v40, a40, b40, h⟩ := Aj h
            refine qI AM Ay a40 (Ah b40) rfl (qJ A0 Ay (Ah b40) rfl (qm rfl (qm rfl ?_)))
            obtain ⟨v41, a41, b41, h⟩ := Aj h
            refine qI AM Ay a41 (Ah b41) rfl (qJ A0 Ay (Ah b41) rfl ?_)
            obtain ⟨v42, a42, b42, h⟩ := Aj h
            refine qI AM Ay a42 (Ah b42) rfl ?_
            refine Bd rfl rfl rfl rfl (Ah b42) rfl Ay rfl (A7 rfl) (Bc Af v33.1 _ v40) ?_
            obtain ⟨v43, a43, b43, h⟩ := Aj h
            refine qI AM Ay a43 (Ah b43) rfl ?_
            refine Bd rfl rfl rfl rfl (Ah b43) rfl Ay rfl (A7 rfl) (Bc Af (v33.1.set ((v33.2).toNat) v40) _ v41) ?_
            refine AQ (by kernel_rfl) (Aa Ac rfl (qm rfl (AY rfl (qa rfl (Ad ?_)))))
            exact Aw _ h (sm [] _ _ rfl rfl)
          ·have h := An c35 h
           refine AW ?_
           exact Aw _ h (sm [] _ _ rfl rfl)
         ·exact Aw _ h (hs.trans (sm [] _ _ rfl rfl))
        ·have h := An c32 h
         refine Aq ?_
         exact Aw _ h (sm [] _ _ rfl rfl)
   ·refine Aa Ac rfl (qm rfl (AY rfl (qa rfl (Ad ?_))))
    exact Aw _ h (sm [] _ _ rfl rfl)
  ·have h := An c3 h
   refine AW ?_
   exact Aw _ h (sm [] _ _ rfl rfl)
 ·refine Al hs (Ab (Aa Ac rfl (qa rfl (Ad ?_))))
  obtain rfl := sj h
  refine Al (sm [] [(8, bD false)] [(90000, .vec 3 (v2.map Af))] rfl rfl) (Az ?_)
  exact ⟨⟨[_], ⟨.tmp _ _ rfl, tv⟩, rfl⟩, ⟨rfl, tv⟩, tv⟩
theorem F4 (N : Nat) (p0 : List Ae) (p1 : Int) (p2 : Int) (p3 : Int) (p4 : (Ae × Ae) → Option Int) (r : Int × (List Ae)) (h : Gs.partitionEqual N p0 p1 p2 p3 p4 = some r) : BK Tryz.prog 87 [oD (.own 90000), iD p1, iD p2, iD p3, oD (.clo (B0 (EA true Af true Af) CN p4))] [(.vec 3 (p0.map Af), .vec 3 (r.2.map Af))] [] (iD r.1) := by
 unfold Gs.partitionEqual at h
 refine BC (n := 90) (rs := [.tmp 10]) Tryz.func87 rfl rfl rfl (A7 rfl) (A7 rfl) rfl rfl (A7 rfl) rfl (A7 rfl) fun w0 S0 GL => ?_
 refine Al (sm [] [(0, oD (.own 90000)), (1, iD p1), (2, iD p2), (3, iD p3), (4, oD (.clo (B0 (EA true Af true Af) CN p4)))] [(90000, .vec 3 (p0.map Af))] rfl rfl) (Ab (Aa Ac rfl (qa rfl (Ad (Ab (Aa Ac rfl (qm rfl (qm rfl (qm rfl (qm rfl (qm rfl (qm rfl ?_))))))))))))
 obtain ⟨v1, a1, b1, h⟩ := Aj h
 refine qI AM Ay a1 (Ah b1) rfl (qJ A0 Ay (Ah b1) rfl (qm rfl (qm rfl ?_)))
 obtain ⟨v2, a2, b2, h⟩ := Aj h
 refine qI AM Ay a2 (Ah b2) rfl (qJ A0 Ay (Ah b2) rfl ?_)
 obtain ⟨v3, a3, b3, h⟩ := Aj h
 refine qI AM Ay a3 (Ah b3) rfl ?_
 refine Bd rfl rfl rfl rfl (Ah b3) rfl Ay rfl (A7 rfl) (Bc Af p0 _ v1) ?_
 obtain ⟨v4, a4, b4, h⟩ := Aj h
 refine qI AM Ay a4 (Ah b4) rfl ?_
 refine Bd rfl rfl rfl rfl (Ah b4) rfl Ay rfl (A7 rfl) (Bc Af (p0.set ((p1).toNat) v1) _ v2) ?_
 refine AQ (by kernel_rfl) (Ab (Aa Ac rfl (qm rfl (AY rfl (qm rfl (CM rfl (qa rfl (qa rfl (Ad (Ab ?_))))))))))
 refine AK (L := Gs.partitionEqual_L5 N p1 p4) h (fun v5 => mk [(0, oD (.own 90000)), (1, iD p1), (4, oD (.clo (B0 (EA true Af true Af) CN p4))), (11, iD v5.2.1), (12, iD v5.2.2)] [(90000, .vec 3 (v5.1.map Af))]) (fun v6 => mk [(11, iD v6.2)] [(90000, .vec 3 (v6.1.map Af))]) (fun _ _ => rfl) (sm [] _ _ rfl rfl) (fun j5 n5 v5 h => ?_) (fun v6 s h hs => ?_)
 ·unfold Gs.partitionEqual_L5 at h
  refine AR (Ab ?_)
  refine AK (L := Gs.partitionEqual_L7 N p1 p4 v5) h (fun v7 => mk [(0, oD (.own 90000)), (1, iD p1), (4, oD (.clo (B0 (EA true Af true Af) CN p4))), (11, iD v7), (12, iD v5.2.2)] [(90000, .vec 3 (v5.1.map Af))]) (fun v8 => mk [(0, oD (.own 90000)), (1, iD p1), (4, oD (.clo (B0 (EA true Af true Af) CN p4))), (11, iD v8), (12, iD v5.2.2)] [(90000, .vec 3 (v5.1.map Af))]) (fun _ _ => rfl) (sm [] _ _ rfl rfl) (fun j7 n7 v7 h => ?_) (fun v8 s h hs => ?_)
  ·unfold Gs.partitionEqual_L7 at h
   refine Ab ?_
   refine AU h (fun v9 => mk [(0, oD (.own 90000)), (1, iD p1), (4, oD (.clo (B0 (EA true Af true Af) CN p4))), (11, iD v7), (12, iD v5.2.2), (47, bD v9)] [(90000, .vec 3 (v5.1.map Af))]) (fun j9 h => ?_) (fun v9 h => ?_)
   ·refine Aa Ac rfl (qm rfl (qm rfl (KB rfl (qm rfl ?_))))
    refine AG (t := 34) rfl (fun c10 => ?_) (fun c10 => ?_)
    ·have h := Am c10 h
     refine qm rfl (qm rfl (qm rfl ?_))
     obtain ⟨v11, a11, b11, h⟩ := Aj h
     refine qI AM Ay a11 (Ah b11) rfl (qJ A0 Ay (Ah b11) rfl (qm rfl (qm rfl ?_)))
     obtain ⟨v12, a12, b12, h⟩ := Aj h
     refine qI AM Ay a12 (Ah b12) rfl (qJ A0 Ay (Ah b12) rfl ?_)
     obtain ⟨v13, a13, h⟩ := bind_some h
     refine EF (ds0 := [_, _]) (ar := (EA true Af true Af) ((v11, v12))) (.g rfl rfl) rfl rfl ⟨rfl, rfl, tv⟩ rfl rfl rfl (EE (Fj _ _ _ _ Bz Bz) a13) ?_
     refine A1 rfl (B7 rfl (qp rfl (AQ (by kernel_rfl) ?_)))
     exact Aw _ h (sm [] _ _ rfl rfl)
    ·have h := An c10 h
     refine qn rfl (qn rfl (qn rfl (qn rfl (qn rfl (qn rfl (qn rfl (qn rfl (qn rfl (qn rfl (qn rfl (qn rfl (qp rfl (AQ (by kernel_rfl) ?_)))))))))))))
     exact Aw _ h (sm [] _ _ rfl rfl)
   ·refine Ap rfl (fun c14 => ?_) (fun c14 => ?_)
    ·have h := Am c14 h
     refine Aq (AR (Aa Ac rfl (qm rfl (AY rfl (qa rfl (Ad ?_))))))
     exact Aw _ h (sm [] _ _ rfl rfl)
    ·have h := An c14 h
     refine AW ?_
     exact Aw _ h (sm [] _ _ rfl rfl)
  ·refine Al hs (Ab ?_)
   refine AK (L := Gs.partitionEqual_L15 N p1 p4 v5 v8) h (fun v15 => mk [(0, oD (.own 90000)), (1, iD p1), (4, oD (.clo (B0 (EA true Af true Af) CN p4))), (11, iD v8), (12, iD v15)] [(90000, .vec 3 (v5.1.map Af))]) (fun v16 => mk [(0, oD (.own 90000)), (1, iD p1), (4, oD (.clo (B0 (EA true Af true Af) CN p4))), (11, iD v8), (12, iD v16)] [(90000, .vec 3 (v5.1.map Af))]) (fun _ _ => rfl) (sm [] _ _ rfl rfl) (fun j15 n15 v15 h => ?_) (fun v16 s h hs => ?_)
   ·unfold Gs.partitionEqual_L15 at h
    refine Ab ?_
    refine AU h (fun v17 => mk [(0, oD (.own 90000)), (1, iD p1), (4, oD (.clo (B0 (EA true Af true Af) CN p4))), (11, iD v8), (12, iD v15), (65, bD v17)] [(90000, .vec 3 (v5.1.map Af))]) (fun j17 h => ?_) (fun v17 h => ?_)
    ·refine Aa Ac rfl (qm rfl (qm rfl (KB rfl (qm rfl ?_))))
     refine AG (t := 53) rfl (fun c18 => ?_) (fun c18 => ?_)
     ·have h := Am c18 h
      refine qm rfl (qm rfl (qm rfl ?_))
      obtain ⟨v19, a19, b19, h⟩ := Aj h
      refine qI AM Ay a19 (Ah b19) rfl (qJ A0 Ay (Ah b19) rfl (qm rfl (qm rfl ?_)))
      obtain ⟨v20, a20, b20, h⟩ := Aj h
      refine qI AM Ay a20 (Ah b20) rfl (qJ A0 Ay (Ah b20) rfl ?_)
      obtain ⟨v21, a21, h⟩ := bind_some h
      refine EF (ds0 := [_, _]) (ar := (EA true Af true Af) ((v19, v20))) (.g rfl rfl) rfl rfl ⟨rfl, rfl, tv⟩ rfl rfl rfl (EE (Fj _ _ _ _ Bz Bz) a21) ?_
      refine A1 rfl (qp rfl (AQ (by kernel_rfl) ?_))
      exact Aw _ h (sm [] _ _ rfl rfl)
     ·have h := An c18 h
      refine qn rfl (qn rfl (qn rfl (qn rfl (qn rfl (qn rfl (qn rfl (qn rfl (qn rfl (qn rfl (qn rfl (qp rfl (AQ (by kernel_rfl) ?_))))))))))))
      exact Aw _ h (sm [] _ _ rfl rfl)
    ·refine Ap rfl (fun c22 => ?_) (fun c22 => ?_)
     ·have h := Am c22 h
      refine Aq (AR (Aa Ac rfl (qm rfl (CM rfl (qa rfl (Ad ?_))))))
      exact Aw _ h (sm [] _ _ rfl rfl)
     ·have h := An c22 h
      refine AW ?_
      exact Aw _ h (sm [] _ _ rfl rfl)
   ·refine Al hs (Ab (Ab (Aa Ac rfl (qm rfl (qm rfl (Fh rfl (Ad ?_)))))))
    refine Ap rfl (fun c23 => ?_) (fun c23 => ?_)
    ·have h := Am c23 h
     refine AW ?_
     exact Aw _ h (sm [] _ _ rfl rfl)
    ·have h := An c23 h
     refine Aq (Ab (Aa Ac rfl (qm rfl (qm rfl (qm rfl (qm rfl (qm rfl (qm rfl ?_))))))))
     obtain ⟨v24, a24, b24, h⟩ := Aj h
     refine qI AM Ay a24 (Ah b24) rfl (qJ A0 Ay (Ah b24) rfl (qm rfl (qm rfl ?_)))
     obtain ⟨v25, a25, b25, h⟩ := Aj h
     refine qI AM Ay a25 (Ah b25) rfl (qJ A0 Ay (Ah b25) rfl ?_)
     obtain ⟨v26, a26, b26, h⟩ := Aj h
     refine qI AM Ay a26 (Ah b26) rfl ?_
     refine Bd rfl rfl rfl rfl (Ah b26) rfl Ay rfl (A7 rfl) (Bc Af v5.1 _ v24) ?_
     obtain ⟨v27, a27, b27, h⟩ := Aj h
     refine qI AM Ay a27 (Ah b27) rfl ?_
     refine Bd rfl rfl rfl rfl (Ah b27) rfl Ay rfl (A7 rfl) (Bc Af (v5.1.set ((v8).toNat) v24) _ v25) ?_
     refine AQ (by kernel_rfl) (Ab (Aa Ac rfl (qm rfl (AY rfl (qa rfl (Ad (Aa Ac rfl (qm rfl (CM rfl (qa rfl (Ad ?_)))))))))))
     exact Aw _ h (sm [] _ _ rfl rfl)
 ·refine Al hs (Ab (Aa Ac rfl (qm rfl (qa rfl (Ad ?_)))))
  obtain rfl := sj h
  refine Al (sm [] [(10, iD v6.2)] [(90000, .vec 3 (v6.1.map Af))] rfl rfl) (Az ?_)
  exact ⟨⟨[_], ⟨.tmp _ _ rfl, tv⟩, rfl⟩, ⟨rfl, tv⟩, tv⟩
theorem G1 (N : Nat) (p0 : List Ae) (p1 : Int) (p2 : Int) (p3 : Int) (p4 : (Ae × Ae) → Option Int) (r : Int × Bool × (List Ae)) (h : Gs.partition N p0 p1 p2 p3 p4 = some r) : BK Tryz.prog 88 [oD (.own 90000), iD p1, iD p2, iD p3, oD (.clo (B0 (EA true Af true Af) CN p4))] [(.vec 3 (p0.map Af), .vec 3 (r.2.2.map Af))] [] (.tup [.one (iC r.1), .one (.pure (.val (.bool r.2.1)))]) := by
 unfold Gs.partition at h
 refine BC (n := 178) (rs := [.tmp 10, .tmp 11]) Tryz.func88 rfl rfl rfl (A7 rfl) (A7 rfl) rfl rfl (A7 rfl) rfl (A7 rfl) fun w0 S0 GL => ?_
 refine Al (sm [] [(0, oD (.own 90000)), (1, iD p1), (2, iD p2), (3, iD p3), (4, oD (.clo (B0 (EA true Af true Af) CN p4)))] [(90000, .vec 3 (p0.map Af))] rfl rfl) (Ab (Aa Ac rfl (qa rfl (qa rfl (Ad (Ab (Aa Ac rfl (qm rfl (qm rfl (qm rfl (qm rfl (qm rfl (qm rfl ?_)))))))))))))
 obtain ⟨v1, a1, b1, h⟩ := Aj h
 refine qI AM Ay a1 (Ah b1) rfl (qJ A0 Ay (Ah b1) rfl (qm rfl (qm rfl ?_)))
 obtain ⟨v2, a2, b2, h⟩ := Aj h
 refine qI AM Ay a2 (Ah b2) rfl (qJ A0 Ay (Ah b2) rfl ?_)
 obtain ⟨v3, a3, b3, h⟩ := Aj h
 refine qI AM Ay a3 (Ah b3) rfl ?_
 refine Bd rfl rfl rfl rfl (Ah b3) rfl Ay rfl (A7 rfl) (Bc Af p0 _ v1) ?_
 obtain ⟨v4, a4, b4, h⟩ := Aj h
 refine qI AM Ay a4 (Ah b4) rfl ?_
 refine Bd rfl rfl rfl rfl (Ah b4) rfl Ay rfl (A7 rfl) (Bc Af (p0.set ((p1).toNat) v1) _ v2) ?_
 refine AQ (by kernel_rfl) (Ab (Aa Ac rfl (qm rfl (AY rfl (qm rfl (CM rfl (qa rfl (qa rfl (Ad (Ab ?_))))))))))
 refine AK (L := Gs.partition_L5 N p0 p1 p2 p3 p4 v1 v2) h (fun v5 => mk [(0, oD (.own 90000)), (1, iD p1), (4, oD (.clo (B0 (EA true Af true Af) CN p4))), (12, iD v5), (13, iD ((wI .i64 (p2 - 1))))] [(90000, .vec 3 (((p0.set ((p1).toNat) v1).set ((p3).toNat) v2).map Af))]) (fun v6 => mk [(0, oD (.own 90000)), (1, iD p1), (4, oD (.clo (B0 (EA true Af true Af) CN p4))), (12, iD v6), (13, iD ((wI .i64 (p2 - 1))))] [(90000, .vec 3 (((p0.set ((p1).toNat) v1).set ((p3).toNat) v2).map Af))]) (fun _ _ => rfl) (sm [] _ _ rfl rfl) (fun j5 n5 v5 h => ?_) (fun v6 s h hs => ?_)
 ·unfold Gs.partition_L5 at h
  refine Ab ?_
  refine AU h (fun v7 => mk [(0, oD (.own 90000)), (1, iD p1), (4, oD (.clo (B0 (EA true Af true Af) CN p4))), (12, iD v5), (13, iD ((wI .i64 (p2 - 1)))), (47, bD v7)] [(90000, .vec 3 (((p0.set ((p1).toNat) v1).set ((p3).toNat) v2).map Af))]) (fun j7 h => ?_) (fun v7 h => ?_)
  ·refine Aa Ac rfl (qm rfl (qm rfl (KB rfl (qm rfl ?_))))
   refine AG (t := 35) rfl (fun c8 => ?_) (fun c8 => ?_)
   ·have h := Am c8 h
    refine qm rfl (qm rfl (qm rfl ?_))
    obtain ⟨v9, a9, b9, h⟩ := Aj h
    refine qI AM Ay a9 (Ah b9) rfl (qJ A0 Ay (Ah b9) rfl (qm rfl (qm rfl ?_)))
    obtain ⟨v10, a10, b10, h⟩ := Aj h
    refine qI AM Ay a10 (Ah b10) rfl (qJ A0 Ay (Ah b10) rfl ?_)
    obtain ⟨v11, a11, h⟩ := bind_some h
    refine EF (ds0 := [_, _]) (ar := (EA true Af true Af) ((v9, v10))) (.g rfl rfl) rfl rfl ⟨rfl, rfl, tv⟩ rfl rfl rfl (EE (Fj _ _ _ _ Bz Bz) a11) ?_
    refine A1 rfl (qp rfl (AQ (by kernel_rfl) ?_))
    exact Aw _ h (sm [] _ _ rfl rfl)
   ·have h := An c8 h
    refine qn rfl (qn rfl (qn rfl (qn rfl (qn rfl (qn rfl (qn rfl (qn rfl (qn rfl (qn rfl (qn rfl (qp rfl (AQ (by kernel_rfl) ?_))))))))))))
    exact Aw _ h (sm [] _ _ rfl rfl)
  ·refine Ap rfl (fun c12 => ?_) (fun c12 => ?_)
   ·have h := Am c12 h
    refine Aq (AR (Aa Ac rfl (qm rfl (AY rfl (qa rfl (Ad ?_))))))
    exact Aw _ h (sm [] _ _ rfl rfl)
   ·have h := An c12 h
    refine AW ?_
    exact Aw _ h (sm [] _ _ rfl rfl)
 ·refine Al hs (Ab ?_)
  refine AK (L := Gs.partition_L13 N p0 p1 p3 p4 v1 v2 v6) h (fun v13 => mk [(0, oD (.own 90000)), (1, iD p1), (4, oD (.clo (B0 (EA true Af true Af) CN p4))), (12, iD v6), (13, iD v13)] [(90000, .vec 3 (((p0.set ((p1).toNat) v1).set ((p3).toNat) v2).map Af))]) (fun v14 => mk [(0, oD (.own 90000)), (1, iD p1), (4, oD (.clo (B0 (EA true Af true Af) CN p4))), (12, iD v6), (13, iD v14)] [(90000, .vec 3 (((p0.set ((p1).toNat) v1).set ((p3).toNat) v2).map Af))]) (fun _ _ => rfl) (sm [] _ _ rfl rfl) (fun j13 n13 v13 h => ?_) (fun v14 s h hs => ?_)
  ·unfold Gs.partition_L13 at h
   refine Ab ?_
   refine AU h (fun v15 => mk [(0, oD (.own 90000)), (1, iD p1), (4, oD (.clo (B0 (EA true Af true Af) CN p4))), (12, iD v6), (13, iD v13), (66, bD v15)] [(90000, .vec 3 (((p0.set ((p1).toNat) v1).set ((p3).toNat) v2).map Af))]) (fun j15 h => ?_) (fun v15 h => ?_)
   ·refine Aa Ac rfl (qm rfl (qm rfl (KB rfl (qm rfl ?_))))
    refine AG (t := 53) rfl (fun c16 => ?_) (fun c16 => ?_)
    ·have h := Am c16 h
     refine qm rfl (qm rfl (qm rfl ?_))
     obtain ⟨v17, a17, b17, h⟩ := Aj h
     refine qI AM Ay a17 (Ah b17) rfl (qJ A0 Ay (Ah b17) rfl (qm rfl (qm rfl ?_)))
     obtain ⟨v18, a18, b18, h⟩ := Aj h
     refine qI AM Ay a18 (Ah b18) rfl (qJ A0 Ay (Ah b18) rfl ?_)
     obtain ⟨v19, a19, h⟩ := bind_some h
     refine EF (ds0 := [_, _]) (ar := (EA true Af true Af) ((v17, v18))) (.g rfl rfl) rfl rfl ⟨rfl, rfl, tv⟩ rfl rfl rfl (EE (Fj _ _ _ _ Bz Bz) a19) ?_
     refine A1 rfl (B7 rfl (qp rfl (AQ (by kernel_rfl) ?_)))
     exact Aw _ h (sm [] _ _ rfl rfl)
    ·have h := An c16 h
     refine qn rfl (qn rfl (qn rfl (qn rfl (qn rfl (qn rfl (qn rfl (qn rfl (qn rfl (qn rfl (qn rfl (qn rfl (qp rfl (AQ (by kernel_rfl) ?_)))))))))))))
     exact Aw _ h (sm [] _ _ rfl rfl)
   ·refine Ap rfl (fun c20 => ?_) (fun c20 => ?_)
    ·have h := Am c20 h
     refine Aq (AR (Aa Ac rfl (qm rfl (CM rfl (qa rfl (Ad ?_))))))
     exact Aw _ h (sm [] _ _ rfl rfl)
    ·have h := An c20 h
     refine AW ?_
     exact Aw _ h (sm [] _ _ rfl rfl)
  ·refine Al hs (Ab (Ab (Aa Ac rfl (qm rfl (qm rfl (Fh rfl (Ad ?_)))))))
   refine Ap rfl (fun c21 => ?_) (fun c21 => ?_)
   ·have h := Am c21 h
    refine Ab (Aa Ac rfl (qm rfl (qm rfl (qm rfl (qm rfl (qm rfl (qm rfl ?_)))))))
    obtain ⟨v22, a22, b22, h⟩ := Aj h
    refine qI AM Ay a22 (Ah b22) rfl (qJ A0 Ay (Ah b22) rfl (qm rfl (qm rfl ?_)))
    obtain ⟨v23, a23, b23, h⟩ := Aj h
    refine qI AM Ay a23 (Ah b23) rfl (qJ A0 Ay (Ah b23) rfl ?_)
    obtain ⟨v24, a24, b24, h⟩ := Aj h
    refine qI AM Ay a24 (Ah b24) rfl ?_
    refine Bd rfl rfl rfl rfl (Ah b24) rfl Ay rfl (A7 rfl) (Bc Af ((p0.set ((p1).toNat) v1).set ((p3).toNat) v2) _ v22) ?_
    obtain ⟨v25, a25, b25, h⟩ := Aj h
    refine qI AM Ay a25 (Ah b25) rfl ?_
    refine Bd rfl rfl rfl rfl (Ah b25) rfl Ay rfl (A7 rfl) (Bc Af (((p0.set ((p1).toNat) v1).set ((p3).toNat) v2).set ((v14).toNat) v22) _ v23) ?_
    refine AQ (by kernel_rfl) (Ab (Aa Ac rfl (qm rfl (qa rfl (qa rfl (Ad ?_))))))
    obtain rfl := sj h
    refine Al (sm [] [(10, iD v14), (11, bD true)] [(90000, .vec 3 (((((p0.set ((p1).toNat) v1).set ((p3).toNat) v2).set ((v14).toNat) v22).set ((p1).toNat) v23).map Af))] rfl rfl) (Az ?_)
    exact ⟨⟨[_, _], ⟨.tmp _ _ rfl, ⟨.tmp _ _ rfl, tv⟩⟩, rfl⟩, ⟨rfl, tv⟩, tv⟩
   ·have h := An c21 h
    refine Aq (Ab (Aa Ac rfl (qm rfl (qm rfl (qm rfl (qm rfl (qm rfl (qm rfl ?_))))))))
    obtain ⟨v26, a26, b26, h⟩ := Aj h
    refine qI AM Ay a26 (Ah b26) rfl (qJ A0 Ay (Ah b26) rfl (qm rfl (qm rfl ?_)))
    obtain ⟨v27, a27, b27, h⟩ := Aj h
    refine qI AM Ay a27 (Ah b27) rfl (qJ A0 Ay (Ah b27) rfl ?_)
    obtain ⟨v28, a28, b28, h⟩ := Aj h
    refine qI AM Ay a28 (Ah b28) rfl ?_
    refine Bd rfl rfl rfl rfl (Ah b28) rfl Ay rfl (A7 rfl) (Bc Af ((p0.set ((p1).toNat) v1).set ((p3).toNat) v2) _ v26) ?_
    obtain ⟨v29, a29, b29, h⟩ := Aj h
    refine qI AM Ay a29 (Ah b29) rfl ?_
    refine Bd rfl rfl rfl rfl (Ah b29) rfl Ay rfl (A7 rfl) (Bc Af (((p0.set ((p1).toNat) v1).set ((p3).toNat) v2).set ((v6).toNat) v26) _ v27) ?_
    refine AQ (by kernel_rfl) (Ab (Aa Ac rfl (qm rfl (AY rfl (qa rfl (Ad (Ab (Aa Ac rfl (qm rfl (CM rfl (qa rfl (Ad (Ab ?_)))))))))))))
    refine AK (L := Gs.partition_L30 N p1 p4) h (fun v30 => mk [(0, oD (.own 90000)), (1, iD p1), (4, oD (.clo (B0 (EA true Af true Af) CN p4))), (12, iD v30.2.1), (13, iD v30.2.2)] [(90000, .vec 3 (v30.1.map Af))]) (fun v31 => mk [(0, oD (.own 90000)), (1, iD p1), (13, iD v31.2)] [(90000, .vec 3 (v31.1.map Af))]) (fun _ _ => rfl) (sm [] _ _ rfl rfl) (fun j30 n30 v30 h => ?_) (fun v31 s h hs => ?_)
    ·unfold Gs.partition_L30 at h
     refine AR (Ab ?_)
     refine AK (L := Gs.partition_L32 N p1 p4 v30) h (fun v32 => mk [(0, oD (.own 90000)), (1, iD p1), (4, oD (.clo (B0 (EA true Af true Af) CN p4))), (12, iD v32), (13, iD v30.2.2)] [(90000, .vec 3 (v30.1.map Af))]) (fun v33 => mk [(0, oD (.own 90000)), (1, iD p1), (4, oD (.clo (B0 (EA true Af true Af) CN p4))), (12, iD v33), (13, iD v30.2.2)] [(90000, .vec 3 (v30.1.map Af))]) (fun _ _ => rfl) (sm [] _ _ rfl rfl) (fun j32 n32 v32 h => ?_) (fun v33 s h hs => ?_)
     ·unfold Gs.partition_L32 at h
      refine Ab ?_
      refine AU h (fun v34 => mk [(0, oD (.own 90000)), (1, iD p1), (4, oD (.clo (B0 (EA true Af true Af) CN p4))), (12, iD v32), (13, iD v30.2.2), (120, bD v34)] [(90000, .vec 3 (v30.1.map Af))]) (fun j34 h => ?_) (fun v34 h => ?_)
      ·refine Aa Ac rfl (qm rfl (qm rfl (KB rfl (qm rfl ?_))))
       refine AG (t := 108) rfl (fun c35 => ?_) (fun c35 => ?_)
       ·have h := Am c35 h
        refine qm rfl (qm rfl (qm rfl ?_))
        obtain ⟨v36, a36, b36, h⟩ := Aj h
        refine qI AM Ay a36 (Ah b36) rfl (qJ A0 Ay (Ah b36) rfl (qm rfl (qm rfl ?_)))
        obtain ⟨v37, a37, b37, h⟩ := Aj h
        refine qI AM Ay a37 (Ah b37) rfl (qJ A0 Ay (Ah b37) rfl ?_)
        obtain ⟨v38, a38, h⟩ := bind_some h
        refine EF (ds0 := [_, _]) (ar := (EA true Af true Af) ((v36, v37))) (.g rfl rfl) rfl rfl ⟨rfl, rfl, tv⟩ rfl rfl rfl (EE (Fj _ _ _ _ Bz Bz) a38) ?_
        refine A1 rfl (qp rfl (AQ (by kernel_rfl) ?_))
        exact Aw _ h (sm [] _ _ rfl rfl)
       ·have h := An c35 h
        refine qn rfl (qn rfl (qn rfl (qn rfl (qn rfl (qn rfl (qn rfl (qn rfl (qn rfl (qn rfl (qn rfl (qp rfl (AQ (by kernel_rfl) ?_))))))))))))
        exact Aw _ h (sm [] _ _ rfl rfl)
      ·refine Ap rfl (fun c39 => ?_) (fun c39 => ?_)
       ·have h := Am c39 h
        refine Aq (AR (Aa Ac rfl (qm rfl (AY rfl (qa rfl (Ad ?_))))))
        exact Aw _ h (sm [] _ _ rfl rfl)
       ·have h := An c39 h
        refine AW ?_
        exact Aw _ h (sm [] _ _ rfl rfl)
     ·refine Al hs (Ab ?_)
      refine AK (L := Gs.partition_L40 N p1 p4 v30 v33) h (fun v40 => mk [(0, oD (.own 90000)), (1, iD p1), (4, oD (.clo (B0 (EA true Af true Af) CN p4))), (12, iD v33), (13, iD v40)] [(90000, .vec 3 (v30.1.map Af))]) (fun v41 => mk [(0, oD (.own 90000)), (1, iD p1), (4, oD (.clo (B0 (EA true Af true Af) CN p4))), (12, iD v33), (13, iD v41)] [(90000, .vec 3 (v30.1.map Af))]) (fun _ _ => rfl) (sm [] _ _ rfl rfl) (fun j40 n40 v40 h => ?_) (fun v41 s h hs => ?_)
      ·unfold Gs.partition_L40 at h
       refine Ab ?_
       refine AU h (fun v42 => mk [(0, oD (.own 90000)), (1, iD p1), (4, oD (.clo (B0 (EA true Af true Af) CN p4))), (12, iD v33), (13, iD v40), (139, bD v42)] [(90000, .vec 3 (v30.1.map Af))]) (fun j42 h => ?_) (fun v42 h => ?_)
       ·refine Aa Ac rfl (qm rfl (qm rfl (KB rfl (qm rfl ?_))))
        refine AG (t := 126) rfl (fun c43 => ?_) (fun c43 => ?_)
        ·have h := Am c43 h
         refine qm rfl (qm rfl (qm rfl ?_))
         obtain ⟨v44, a44, b44, h⟩ := Aj h
         refine qI AM Ay a44 (Ah b44) rfl (qJ A0 Ay (Ah b44) rfl (qm rfl (qm rfl ?_)))
         obtain ⟨v45, a45, b45, h⟩ := Aj h
         refine qI AM Ay a45 (Ah b45) rfl (qJ A0 Ay (Ah b45) rfl ?_)
         obtain ⟨v46, a46, h⟩ := bind_some h
         refine EF (ds0 := [_, _]) (ar := (EA true Af true Af) ((v44, v45))) (.g rfl rfl) rfl rfl ⟨rfl, rfl, tv⟩ rfl rfl rfl (EE (Fj _ _ _ _ Bz Bz) a46) ?_
         refine A1 rfl (B7 rfl (qp rfl (AQ (by kernel_rfl) ?_)))
         exact Aw _ h (sm [] _ _ rfl rfl)
        ·have h := An c43 h
         refine qn rfl (qn rfl (qn rfl (qn rfl (qn rfl (qn rfl (qn rfl (qn rfl (qn rfl (qn rfl (qn rfl (qn rfl (qp rfl (AQ (by kernel_rfl) ?_)))))))))))))
         exact Aw _ h (sm [] _ _ rfl rfl)
       ·refine Ap rfl (fun c47 => ?_) (fun c47 => ?_)
        ·have h := Am c47 h
         refine Aq (AR (Aa Ac rfl (qm rfl (CM rfl (qa rfl (Ad ?_))))))
         exact Aw _ h (sm [] _ _ rfl rfl)
        ·have h := An c47 h
         refine AW ?_
         exact Aw _ h (sm [] _ _ rfl rfl)
      ·refine Al hs (Ab (Ab (Aa Ac rfl (qm rfl (qm rfl (Fh rfl (Ad ?_)))))))
       refine Ap rfl (fun c48 => ?_) (fun c48 => ?_)
       ·have h := Am c48 h
        refine AW ?_
        exact Aw _ h (sm [] _ _ rfl rfl)
       ·have h := An c48 h
        refine Aq (Ab (Aa Ac rfl (qm rfl (qm rfl (qm rfl (qm rfl (qm rfl (qm rfl ?_))))))))
        obtain ⟨v49, a49, b49, h⟩ := Aj h
        refine qI AM Ay a49 (Ah b49) rfl (qJ A0 Ay (Ah b49) rfl (qm rfl (qm rfl ?_)))
        obtain ⟨v50, a50, b50, h⟩ := Aj h
        refine qI AM Ay a50 (Ah b50) rfl (qJ A0 Ay (Ah b50) rfl ?_)
        obtain ⟨v51, a51, b51, h⟩ := Aj h
        refine qI AM Ay a51 (Ah b51) rfl ?_
        refine Bd rfl rfl rfl rfl (Ah b51) rfl Ay rfl (A7 rfl) (Bc Af v30.1 _ v49) ?_
        obtain ⟨v52, a52, b52, h⟩ := Aj h
        refine qI AM Ay a52 (Ah b52) rfl ?_
        refine Bd rfl rfl rfl rfl (Ah b52) rfl Ay rfl (A7 rfl) (Bc Af (v30.1.set ((v33).toNat) v49) _ v50) ?_
        refine AQ (by kernel_rfl) (Ab (Aa Ac rfl (qm rfl (AY rfl (qa rfl (Ad (Aa Ac rfl (qm rfl (CM rfl (qa rfl (Ad ?_)))))))))))
        exact Aw _ h (sm [] _ _ rfl rfl)
    ·refine Al hs (Ab (Aa Ac rfl (qm rfl (qm rfl (qm rfl (qm rfl (qm rfl (qm rfl ?_))))))))
     obtain ⟨v53, a53, b53, h⟩ := Aj h
     refine qI AM Ay a53 (Ah b53) rfl (qJ A0 Ay (Ah b53) rfl (qm rfl (qm rfl ?_)))
     obtain ⟨v54, a54, b54, h⟩ := Aj h
     refine qI AM Ay a54 (Ah b54) rfl (qJ A0 Ay (Ah b54) rfl ?_)
     obtain ⟨v55, a55, b55, h⟩ := Aj h
     refine qI AM Ay a55 (Ah b55) rfl ?_
     refine Bd rfl rfl rfl rfl (Ah b55) rfl Ay rfl (A7 rfl) (Bc Af v31.1 _ v53) ?_
     obtain ⟨v56, a56, b56, h⟩ := Aj h
     refine qI AM Ay a56 (Ah b56) rfl ?_
     refine Bd rfl rfl rfl rfl (Ah b56) rfl Ay rfl (A7 rfl) (Bc Af (v31.1.set ((v31.2).toNat) v53) _ v54) ?_
     refine AQ (by kernel_rfl) (Ab (Aa Ac rfl (qm rfl (qa rfl (qa rfl (Ad ?_))))))
     obtain rfl := sj h
     refine Al (sm [] [(10, iD v31.2), (11, bD false)] [(90000, .vec 3 (((v31.1.set ((v31.2).toNat) v53).set ((p1).toNat) v54).map Af))] rfl rfl) (Az ?_)
     exact ⟨⟨[_, _], ⟨.tmp _ _ rfl, ⟨.tmp _ _ rfl, tv⟩⟩, rfl⟩, ⟨rfl, tv⟩, tv⟩
theorem G4 (N : Nat) (rc : (List Ae) → Int → Int → Int → ((Ae × Ae) → Option Int) → Option ((List Ae))) (hrc : ∀ (p0 : List Ae) (p1 : Int) (p2 : Int) (p3 : Int) (p4 : (Ae × Ae) → Option Int) (r : (List Ae)), rc p0 p1 p2 p3 p4 = some r → BK Tryz.prog 60 [oD (.own 90000), iD p1, iD p2, iD p3, oD (.clo (B0 (EA true Af true Af) CN p4))] [(.vec 3 (p0.map Af), .vec 3 (r.map Af))] [] (.tup [])) (p0 : List Ae) (p1 : Int) (p2 : Int) (p3 : Int) (p4 : (Ae × Ae) → Option Int) (r : (List Ae)) (h : Gs.pdqsort_B N rc p0 p1 p2 p3 p4 = some r) : BK Tryz.prog 60 [oD (.own 90000), iD p1, iD p2, iD p3, oD (.clo (B0 (EA true Af true Af) CN p4))] [(.vec 3 (p0.map Af), .vec 3 (r.map Af))] [] (.tup []) := by
 unfold Gs.pdqsort_B at h
 refine BC (n := 148) (rs := []) Tryz.func60 rfl rfl rfl (A7 rfl) (A7 rfl) rfl rfl (A7 rfl) rfl (A7 rfl) fun w0 S0 GL => Nh ?_
 refine Al (sm [] [(0, oD (.own 90000)), (1, iD p1), (2, iD p2), (3, iD p3), (4, oD (.clo (B0 (EA true Af true Af) CN p4)))] [(90000, .vec 3 (p0.map Af))] rfl rfl) (Ab (Aa Ac rfl (qa rfl (Ad (Ab (Aa Ac rfl (qa rfl (Ad ?_))))))))
 refine AK (L := Gs.pdqsort_L1 N p4 rc) h (fun v1 => mk [(0, oD (.own 90000)), (1, iD v1.2.1), (2, iD v1.2.2.1), (3, iD v1.2.2.2.1), (4, oD (.clo (B0 (EA true Af true Af) CN p4))), (10, bD v1.2.2.2.2.1), (11, bD v1.2.2.2.2.2)] [(90000, .vec 3 (v1.1.map Af))]) (fun v2 => mk [] []) (fun _ _ => rfl) (sm [] _ _ rfl rfl) (fun j1 n1 v1 h => ?_) (fun v2 s h hs => ?_)
 ·unfold Gs.pdqsort_L1 at h
  refine AR (Ab (Aa Ac rfl (qm rfl (qm rfl (CM rfl (qa rfl (Ad (Ab (Ab (Aa Ac rfl (qm rfl (KB rfl (Ad ?_)))))))))))))
  refine Ap rfl (fun c3 => ?_) (fun c3 => ?_)
  ·have h := Am c3 h
   refine Ab (Aa Ac rfl (qm rfl (qm rfl (qm rfl (qm rfl ?_)))))
   obtain ⟨v4, a4, h⟩ := bind_some h
   refine Dc (ds0 := [_, _, _, _]) [90000] [] [true] (F8 N v1.1 v1.2.1 v1.2.2.1 p4 v4 a4) (.p rfl) Zo rfl ⟨rfl, rfl, rfl, rfl, tv⟩ rfl rfl (by decide) ⟨rfl, tv⟩ rfl (Bo rfl) tv ⟨(fun h => by cases h), tv⟩ rfl rfl rfl ?_
   refine Ad ?_
   obtain rfl := sj h
   refine Az ⟨_, (sm [] [] [(90000, .vec 3 (v4.map Af))] rfl rfl), ?_⟩
   exact ⟨⟨[], tv, rfl⟩, ⟨rfl, tv⟩, tv⟩
  ·have h := An c3 h
   refine Aq (Ab (Ab (Aa Ac rfl (qm rfl (BM rfl (Ad ?_))))))
   refine Ap rfl (fun c5 => ?_) (fun c5 => ?_)
   ·have h := Am c5 h
    refine Ab (Aa Ac rfl (qm rfl (qm rfl (qm rfl (qm rfl ?_)))))
    obtain ⟨v6, a6, h⟩ := bind_some h
    refine Dc (ds0 := [_, _, _, _]) [90000] [] [true] (Ha N v1.1 v1.2.1 v1.2.2.1 p4 v6 a6) (.p rfl) Zq rfl ⟨rfl, rfl, rfl, rfl, tv⟩ rfl rfl (by decide) ⟨rfl, tv⟩ rfl (Bo rfl) tv ⟨(fun h => by cases h), tv⟩ rfl rfl rfl ?_
    refine Ad ?_
    obtain rfl := sj h
    refine Az ⟨_, (sm [] [] [(90000, .vec 3 (v6.map Af))] rfl rfl), ?_⟩
    exact ⟨⟨[], tv, rfl⟩, ⟨rfl, tv⟩, tv⟩
   ·have h := An c5 h
    refine Aq ?_
    refine AU h (fun v7 => mk [(0, oD (.own 90000)), (1, iD v1.2.1), (2, iD v1.2.2.1), (3, iD v7.2), (4, oD (.clo (B0 (EA true Af true Af) CN p4))), (10, bD v1.2.2.2.2.1), (11, bD v1.2.2.2.2.2), (12, iD ((wI .i64 (v1.2.2.1 - v1.2.1))))] [(90000, .vec 3 (v7.1.map Af))]) (fun j7 h => ?_) (fun v7 h => ?_)
    ·refine Ab (Aa Ac rfl (qm rfl (B7 rfl (Ad ?_))))
     refine Ap rfl (fun c8 => ?_) (fun c8 => ?_)
     ·have h := Am c8 h
      refine Ab (Aa Ac rfl (qm rfl (qm rfl (qm rfl (qm rfl ?_)))))
      obtain ⟨v9, a9, h⟩ := bind_some h
      refine Dc (ds0 := [_, _, _, _]) [90000] [] [true] (Gd N v1.1 v1.2.1 v1.2.2.1 p4 v9 a9) (.p rfl) Zn rfl ⟨rfl, rfl, rfl, rfl, tv⟩ rfl rfl (by decide) ⟨rfl, tv⟩ rfl (Bo rfl) tv ⟨(fun h => by cases h), tv⟩ rfl rfl rfl ?_
      refine Ad (Aa Ac rfl (qm rfl (CM rfl (qa rfl (Ad ?_)))))
      exact Aw _ h (sm [] _ _ rfl rfl)
     ·have h := An c8 h
      refine Aq ?_
      exact Aw _ h (sm [] _ _ rfl rfl)
    ·refine Ab (Aa Ac rfl (qm rfl (qm rfl (qm rfl (qm rfl ?_)))))
     obtain ⟨v10, a10, h⟩ := bind_some h
     refine FT [] [90000] (Gx N v7.1 v1.2.1 v1.2.2.1 p4 v10 a10) YY Ex rfl (qm rfl (qx rfl (qx rfl (qa rfl (qa rfl (Ad ?_))))))
     refine AU h (fun v11 => mk [(0, oD (.own 90000)), (1, iD v1.2.1), (2, iD v1.2.2.1), (3, iD v7.2), (4, oD (.clo (B0 (EA true Af true Af) CN p4))), (10, bD v1.2.2.2.2.1), (11, bD v1.2.2.2.2.2), (12, iD ((wI .i64 (v1.2.2.1 - v1.2.1)))), (13, iD v11.2.1), (14, iD v11.2.2)] [(90000, .vec 3 (v11.1.map Af))]) (fun j11 h => ?_) (fun v11 h => ?_)
     ·refine Ab (Aa Ac rfl (qm rfl (BM rfl (Ad ?_))))
      refine Ap rfl (fun c12 => ?_) (fun c12 => ?_)
      ·have h := Am c12 h
       refine Ab (Aa Ac rfl (qm rfl (qm rfl (qm rfl (qm rfl ?_)))))
       obtain ⟨v13, a13, h⟩ := bind_some h
       refine Dc (ds0 := [_, _, _, _]) [90000] [] [true] (Gi N v7.1 v1.2.1 v1.2.2.1 p4 v13 a13) (.p rfl) YR rfl ⟨rfl, rfl, rfl, rfl, tv⟩ rfl rfl (by decide) ⟨rfl, tv⟩ rfl (Bo rfl) tv ⟨(fun h => by cases h), tv⟩ rfl rfl rfl ?_
       refine Ad (Ab (Aa Ac rfl (qm rfl (CM rfl (qm rfl (qm rfl (CM rfl (CM rfl (qa rfl (Ad (Aa Ac rfl (qa rfl (Ad ?_)))))))))))))
       exact Aw _ h (sm [] _ _ rfl rfl)
      ·have h := An c12 h
       refine Aq ?_
       exact Aw _ h (sm [] _ _ rfl rfl)
     ·refine AU h (fun v14 => mk [(0, oD (.own 90000)), (1, iD v1.2.1), (2, iD v1.2.2.1), (3, iD v7.2), (4, oD (.clo (B0 (EA true Af true Af) CN p4))), (10, bD v1.2.2.2.2.1), (11, bD v1.2.2.2.2.2), (12, iD ((wI .i64 (v1.2.2.1 - v1.2.1)))), (13, iD v11.2.1)] [(90000, .vec 3 (v14.map Af))]) (fun j14 h => ?_) (fun v14 h => ?_)
      ·refine AU h (fun v15 => mk [(0, oD (.own 90000)), (1, iD v1.2.1), (2, iD v1.2.2.1), (3, iD v7.2), (4, oD (.clo (B0 (EA true Af true Af) CN p4))), (10, bD v1.2.2.2.2.1), (11, bD v1.2.2.2.2.2), (12, iD ((wI .i64 (v1.2.2.1 - v1.2.1)))), (13, iD v11.2.1), (75, bD v15)] [(90000, .vec 3 (v11.1.map Af))]) (fun j15 h => ?_) (fun v15 h => ?_)
       ·refine Aa Ac rfl (qm rfl (qm rfl ?_))
        refine AG (t := 69) rfl (fun c16 => ?_) (fun c16 => ?_)
        ·have h := Am c16 h
         refine qm rfl (qp rfl (qm rfl ?_))
         refine AG (t := 72) rfl (fun c17 => ?_) (fun c17 => ?_)
         ·have h := Am c17 h
          refine qm rfl (BM rfl (qp rfl (Ad ?_)))
          exact Aw _ h (sm [] _ _ rfl rfl)
         ·have h := An c17 h
          refine qn rfl (qn rfl (qp rfl (Ad ?_)))
          exact Aw _ h (sm [] _ _ rfl rfl)
        ·have h := An c16 h
         refine qn rfl (qp rfl (qm rfl (qn rfl (qn rfl (qp rfl (Ad ?_))))))
         exact Aw _ h (sm [] _ _ rfl rfl)
       ·refine Ap rfl (fun c18 => ?_) (fun c18 => ?_)
        ·have h := Am c18 h
         refine Ab (Aa Ac rfl (qm rfl (qm rfl (qm rfl (qm rfl ?_)))))
         obtain ⟨v19, a19, h⟩ := bind_some h
         refine Dc (ds0 := [_, _, _, _]) [90000] [] [true] (Fq N v11.1 v1.2.1 v1.2.2.1 p4 v19 a19) (.p rfl) Zd rfl ⟨rfl, rfl, rfl, rfl, tv⟩ rfl rfl (by decide) ⟨rfl, tv⟩ rfl (Bo rfl) tv ⟨(fun h => by cases h), tv⟩ rfl rfl rfl ?_
         refine Ad ?_
         refine Ap rfl (fun c20 => ?_) (fun c20 => ?_)
         ·have h := Am c20 h
          obtain rfl := sj h
          refine Az ⟨_, (sm [] [] [(90000, .vec 3 (v19.2.map Af))] rfl rfl), ?_⟩
          exact ⟨⟨[], tv, rfl⟩, ⟨rfl, tv⟩, tv⟩
         ·have h := An c20 h
          refine Aq ?_
          exact Aw _ h (sm [] _ _ rfl rfl)
        ·have h := An c18 h
         refine Aq ?_
         exact Aw _ h (sm [] _ _ rfl rfl)
      ·refine Ab ?_
       refine AU h (fun v21 => mk [(0, oD (.own 90000)), (1, iD v1.2.1), (2, iD v1.2.2.1), (3, iD v7.2), (4, oD (.clo (B0 (EA true Af true Af) CN p4))), (10, bD v1.2.2.2.2.1), (11, bD v1.2.2.2.2.2), (12, iD ((wI .i64 (v1.2.2.1 - v1.2.1)))), (13, iD v11.2.1), (97, bD v21)] [(90000, .vec 3 (v14.map Af))]) (fun j21 h => ?_) (fun v21 h => ?_)
       ·refine Aa Ac rfl (qm rfl (Fh rfl (qm rfl ?_)))
        refine AG (t := 83) rfl (fun c22 => ?_) (fun c22 => ?_)
        ·have h := Am c22 h
         refine qm rfl (qm rfl (qm rfl (CM rfl ?_)))
         obtain ⟨v23, a23, b23, h⟩ := Aj h
         refine qI AM Ay a23 (Ah b23) rfl (qJ A0 Ay (Ah b23) rfl (qm rfl (qm rfl ?_)))
         obtain ⟨v24, a24, b24, h⟩ := Aj h
         refine qI AM Ay a24 (Ah b24) rfl (qJ A0 Ay (Ah b24) rfl ?_)
         obtain ⟨v25, a25, h⟩ := bind_some h
         refine EF (ds0 := [_, _]) (ar := (EA true Af true Af) ((v23, v24))) (.g rfl rfl) rfl rfl ⟨rfl, rfl, tv⟩ rfl rfl rfl (EE (Fj _ _ _ _ Bz Bz) a25) ?_
         refine A1 rfl (B7 rfl (qp rfl (AQ (by kernel_rfl) ?_)))
         exact Aw _ h (sm [] _ _ rfl rfl)
        ·have h := An c22 h
         refine qn rfl (qn rfl (qn rfl (qn rfl (qn rfl (qn rfl (qn rfl (qn rfl (qn rfl (qn rfl (qn rfl (qn rfl (qn rfl (qp rfl (AQ (by kernel_rfl) ?_))))))))))))))
         exact Aw _ h (sm [] _ _ rfl rfl)
       ·refine Ap rfl (fun c26 => ?_) (fun c26 => ?_)
        ·have h := Am c26 h
         refine Ab (Aa Ac rfl (qm rfl (qm rfl (qm rfl (qm rfl (qm rfl ?_))))))
         obtain ⟨v27, a27, h⟩ := bind_some h
         refine Dc (ds0 := [_, _, _, _, _]) [90000] [] [true] (F4 N v14 v1.2.1 v1.2.2.1 v11.2.1 p4 v27 a27) (.p rfl) Zt rfl ⟨rfl, rfl, rfl, rfl, rfl, tv⟩ rfl rfl (by decide) ⟨rfl, tv⟩ rfl (Bo rfl) tv ⟨(fun h => by cases h), tv⟩ rfl rfl rfl ?_
         refine qa rfl (Ad (Ab (Aa Ac rfl (qm rfl (qa rfl (Ad (AW ?_)))))))
         exact Aw _ h (sm [] _ _ rfl rfl)
        ·have h := An c26 h
         refine Aq (Ab (Aa Ac rfl (qm rfl (qm rfl (qm rfl (qm rfl (qm rfl ?_)))))))
         obtain ⟨v28, a28, h⟩ := bind_some h
         refine Dc (ds0 := [_, _, _, _, _]) [90000] [] [true] (G1 N v14 v1.2.1 v1.2.2.1 v11.2.1 p4 v28 a28) (.p rfl) YS rfl ⟨rfl, rfl, rfl, rfl, rfl, tv⟩ rfl rfl (by decide) ⟨rfl, tv⟩ rfl (Bo rfl) tv ⟨(fun h => by cases h), tv⟩ rfl rfl rfl ?_
         refine qm rfl (qx rfl (qx rfl (qa rfl (qa rfl (Ad (Ab (Aa Ac rfl (qm rfl (qa rfl (Ad (Ab (Aa Ac rfl (qm rfl (qm rfl (CM rfl (qm rfl (qm rfl (CM rfl (qa rfl (qa rfl (Ad (Ab (Aa Ac rfl (qm rfl (NH rfl (by decide) (qa rfl (Ad (Ab (Aa Ac rfl (qm rfl (qm rfl (A1 rfl (Ad ?_)))))))))))))))))))))))))))))))))
         refine Ap rfl (fun c29 => ?_) (fun c29 => ?_)
         ·have h := Am c29 h
          refine Ab (Aa Ac rfl (qm rfl (qm rfl (Dz rfl (qa rfl (Ad (Ab (Aa Ac rfl (qm rfl (qm rfl (qm rfl (qm rfl (qm rfl ?_)))))))))))))
          obtain ⟨v30, a30, h⟩ := bind_some h
          refine Dc (ds0 := [_, _, _, _, _]) [90000] [] [true] (hrc v28.2.2 v1.2.1 v28.1 v7.2 p4 v30 a30) (.p rfl) W6 rfl ⟨rfl, rfl, rfl, rfl, rfl, tv⟩ rfl rfl (by decide) ⟨rfl, tv⟩ rfl (Bo rfl) tv ⟨(fun h => by cases h), tv⟩ rfl rfl rfl ?_
          refine Ad (Aa Ac rfl (qm rfl (AY rfl (qa rfl (Ad ?_)))))
          exact Aw _ h (sm [] _ _ rfl rfl)
         ·have h := An c29 h
          refine Ab (Aa Ac rfl (qm rfl (qm rfl (Dz rfl (qa rfl (Ad (Ab (Aa Ac rfl (qm rfl (qm rfl (AY rfl (qm rfl (qm rfl (qm rfl ?_))))))))))))))
          obtain ⟨v31, a31, h⟩ := bind_some h
          refine Dc (ds0 := [_, _, _, _, _]) [90000] [] [true] (hrc v28.2.2 ((wI .i64 (v28.1 + 1))) v1.2.2.1 v7.2 p4 v31 a31) (.p rfl) W6 rfl ⟨rfl, rfl, rfl, rfl, rfl, tv⟩ rfl rfl (by decide) ⟨rfl, tv⟩ rfl (Bo rfl) tv ⟨(fun h => by cases h), tv⟩ rfl rfl rfl ?_
          refine Ad (Aa Ac rfl (qm rfl (qa rfl (Ad ?_))))
          exact Aw _ h (sm [] _ _ rfl rfl)
 ·cases h
theorem EW (N : Nat) : ∀ (k : Nat) (p0 : List Ae) (p1 : Int) (p2 : Int) (p3 : Int) (p4 : (Ae × Ae) → Option Int) (r : (List Ae)), Gs.pdqsort_R N k p0 p1 p2 p3 p4 = some r → BK Tryz.prog 60 [oD (.own 90000), iD p1, iD p2, iD p3, oD (.clo (B0 (EA true Af true Af) CN p4))] [(.vec 3 (p0.map Af), .vec 3 (r.map Af))] [] (.tup [])
 | 0, _, _, _, _, _, _, h => by cases h
 | k + 1, p0, p1, p2, p3, p4, r, h => G4 N (Gs.pdqsort_R N k) (EW N k) p0 p1 p2 p3 p4 r h
theorem Hm (N : Nat) (p0 : List Ae) (p1 : Int) (p2 : Int) (p3 : Int) (p4 : (Ae × Ae) → Option Int) (r : (List Ae)) (h : Gs.pdqsort N p0 p1 p2 p3 p4 = some r) : BK Tryz.prog 60 [oD (.own 90000), iD p1, iD p2, iD p3, oD (.clo (B0 (EA true Af true Af) CN p4))] [(.vec 3 (p0.map Af), .vec 3 (r.map Af))] [] (.tup []) := EW N N p0 p1 p2 p3 p4 r h
theorem EV (N : Nat) (p0 : List Ae) (p1 : (Ae × Ae) → Option Int) (r : (List Ae)) (h : Bm N p0 p1 = some r) : BK Tryz.prog 38 [oD (.own 90000), oD (.clo (B0 (EA true Af true Af) CN p1))] [(.vec 3 (p0.map Af), .vec 3 (r.map Af))] [] (.tup []) := by
 unfold Bm at h
 refine BC (n := 14) (rs := []) Tryz.func38 rfl rfl rfl (A7 rfl) (A7 rfl) rfl rfl (A7 rfl) rfl (A7 rfl) fun w0 S0 GL => Nh ?_
 refine Al (sm [] [(0, oD (.own 90000)), (1, oD (.clo (B0 (EA true Af true Af) CN p1)))] [(90000, .vec 3 (p0.map Af))] rfl rfl) (Ab (Aa Ac rfl (qm rfl (Dh AM rfl (qa rfl (Ad (Aa Ac rfl (qm rfl (qm rfl (qm rfl (G5 W0 OO rfl ?_)))))))))))
 obtain ⟨v1, a1, h⟩ := bind_some h
 refine AH [] (Jx N ((wI .u64 ((p0.length : Int)))) v1 a1) Xn rfl (qm rfl ?_)
 obtain ⟨v2, a2, h⟩ := bind_some h
 refine Dc (ds0 := [_, _, _, _, _]) [90000] [] [true] (Hm N p0 0 ((p0.length : Int)) v1 p1 v2 a2) (.p rfl) W6 rfl ⟨rfl, rfl, rfl, rfl, rfl, tv⟩ rfl rfl (by decide) ⟨rfl, tv⟩ rfl (Bo rfl) tv ⟨(fun h => by cases h), tv⟩ rfl rfl rfl ?_
 refine Ad ?_
 obtain rfl := sj h
 refine ⟨_, (sm [] [] [(90000, .vec 3 (v2.map Af))] rfl rfl), ?_⟩
 exact ⟨⟨[], tv, rfl⟩, ⟨rfl, tv⟩, tv⟩
theorem Jy (N : Nat) (p0 : Int) (r : Bool) (h : Fl N p0 = some r) : AE Tryz.prog 110 [iD p0] [] (bD r) := by
 unfold Fl at h
 refine Ar (n := 6) (rs := [.tmp 2]) Tryz.func110 rfl rfl rfl (A7 rfl) (A7 rfl) rfl fun w0 S0 => ?_
 refine Ab (Aa Ac rfl (qa rfl (Ad (Ab (Aa Ac rfl (qm rfl (qm rfl (Cw rfl (qa rfl (Ad ?_))))))))))
 obtain rfl := sj h
 refine Al (sm [] [(2, bD ((p0 != p0)))] [] rfl rfl) (Az ?_)
 exact ⟨⟨[_], ⟨.tmp _ _ rfl, tv⟩, rfl⟩, tv⟩
theorem Ly (N : Nat) (p0 : Int) (p1 : Int) (r : Int) (h : ES N p0 p1 = some r) : AE Tryz.prog 91 [iD p0, iD p1] [] (iD r) := by
 unfold ES at h
 refine Ar (n := 20) (rs := [.tmp 4]) Tryz.func91 rfl rfl rfl (A7 rfl) (A7 rfl) rfl fun w0 S0 => ?_
 refine Ab (Aa Ac rfl (qa rfl (Ad (Ab (Aa Ac rfl (qm rfl ?_))))))
 obtain ⟨v1, a1, h⟩ := bind_some h
 refine AH [] (Jy N p0 v1 a1) We rfl (qa rfl (Ad (Ab (Aa Ac rfl (qm rfl ?_)))))
 obtain ⟨v2, a2, h⟩ := bind_some h
 refine AH [] (Jy N p1 v2 a2) We rfl (qa rfl (Ad (Ab (Ab (Aa Ac rfl (qm rfl (Ad ?_)))))))
 refine Ap rfl (fun c3 => ?_) (fun c3 => ?_)
 ·have h := Am c3 h
  refine Ab (Ab (Aa Ac rfl (qm rfl (Ad ?_))))
  refine Ap rfl (fun c4 => ?_) (fun c4 => ?_)
  ·have h := Am c4 h
   refine Ab (Aa Ac rfl (qa rfl (Ad ?_)))
   obtain rfl := sj h
   refine Al (sm [] [(4, iD 0)] [] rfl rfl) (Az ?_)
   exact ⟨⟨[_], ⟨.tmp _ _ rfl, tv⟩, rfl⟩, tv⟩
  ·have h := An c4 h
   refine Aq (Ab (Aa Ac rfl (qa rfl (Ad ?_))))
   obtain rfl := sj h
   refine Al (sm [] [(4, iD ((-1)))] [] rfl rfl) (Az ?_)
   exact ⟨⟨[_], ⟨.tmp _ _ rfl, tv⟩, rfl⟩, tv⟩
 ·have h := An c3 h
  refine Aq (Ab (Ab (Aa Ac rfl (qm rfl (Ad ?_)))))
  refine Ap rfl (fun c5 => ?_) (fun c5 => ?_)
  ·have h := Am c5 h
   refine Ab (Aa Ac rfl (qa rfl (Ad ?_)))
   obtain rfl := sj h
   refine Al (sm [] [(4, iD 1)] [] rfl rfl) (Az ?_)
   exact ⟨⟨[_], ⟨.tmp _ _ rfl, tv⟩, rfl⟩, tv⟩
  ·have h := An c5 h
   refine Aq (Ab (Ab (Aa Ac rfl (qm rfl (qm rfl (A1 rfl (Ad ?_)))))))
   refine Ap rfl (fun c6 => ?_) (fun c6 => ?_)
   ·have h := Am c6 h
    refine Ab (Aa Ac rfl (qa rfl (Ad ?_)))
    obtain rfl := sj h
    refine Al (sm [] [(4, iD ((-1)))] [] rfl rfl) (Az ?_)
    exact ⟨⟨[_], ⟨.tmp _ _ rfl, tv⟩, rfl⟩, tv⟩
   ·have h := An c6 h
    refine Aq (Ab (Ab (Aa Ac rfl (qm rfl (qm rfl (Fh rfl (Ad ?_)))))))
    refine Ap rfl (fun c7 => ?_) (fun c7 => ?_)
    ·have h := Am c7 h
     refine Ab (Aa Ac rfl (qa rfl (Ad ?_)))
     obtain rfl := sj h
     refine Al (sm [] [(4, iD 1)] [] rfl rfl) (Az ?_)
     exact ⟨⟨[_], ⟨.tmp _ _ rfl, tv⟩, rfl⟩, tv⟩
    ·have h := An c7 h
     refine Aq (Ab (Aa Ac rfl (qa rfl (Ad ?_))))
     obtain rfl := sj h
     refine Al (sm [] [(4, iD 0)] [] rfl rfl) (Az ?_)
     exact ⟨⟨[_], ⟨.tmp _ _ rfl, tv⟩, rfl⟩, tv⟩
theorem Gr (N : Nat) (p0 : List Int) (p1 : List Int) (r : Int) (h : CF N p0 p1 = some r) : AE Tryz.prog 63 [pD (.sl (p0.map Ai)), pD (.sl (p1.map Ai))] [] (iD r) := by
 unfold CF at h
 refine Ar (n := 36) (rs := [.tmp 4]) Tryz.func63 rfl rfl rfl (A7 rfl) (A7 rfl) rfl fun w0 S0 => ?_
 refine Ab (Aa Ac rfl (qa rfl (Ad (Ab (Ab (Aa Ac rfl (qm rfl (AZ AJ rfl (qm rfl (Ad ?_))))))))))
 refine AK (L := Ch N p0 p1) h (fun v1 => mk [(0, pD (.sl (p0.map Ai))), (1, pD (.sl (p1.map Ai))), (9, pD (.sl (p0.map Ai))), (10, iD ((p0.length : Int))), (11, iD v1)] []) (fun v2 => mk [(0, pD (.sl (p0.map Ai))), (1, pD (.sl (p1.map Ai)))] []) (fun _ _ => rfl) (sm [] _ _ rfl rfl) (fun j1 n1 v1 h => ?_) (fun v2 s h hs => ?_)
 ·unfold Ch at h
  refine Ab (Aa Ac rfl (A1 rfl (Ad (Ab ?_))))
  refine Ap rfl (fun c3 => ?_) (fun c3 => ?_)
  ·have h := Am c3 h
   refine Aq (Ab (AR (Ab (Aa Ac rfl (qm rfl ?_)))))
   obtain ⟨v4, a4, b4, h⟩ := Aj h
   refine qi AJ DA a4 (Ah b4) rfl (qk Cs rfl (qa rfl (qa rfl (Ad (Ab (Ab (Aa Ac rfl (qm rfl (qm rfl (AZ AJ rfl (Dz rfl (Ad ?_))))))))))))
   refine Ap rfl (fun c5 => ?_) (fun c5 => ?_)
   ·have h := Am c5 h
    refine Ab (Aa Ac rfl (qa rfl (Ad ?_)))
    obtain rfl := sj h
    refine Al (sm [] [(4, iD 1)] [] rfl rfl) (Az ?_)
    exact ⟨⟨[_], ⟨.tmp _ _ rfl, tv⟩, rfl⟩, tv⟩
   ·have h := An c5 h
    refine Aq (Ab (Aa Ac rfl (qm rfl (qm rfl ?_))))
    obtain ⟨v6, a6, b6, h⟩ := Aj h
    refine qi AJ DA a6 (Ah b6) rfl (qk Cs rfl (qa rfl (Ad (Ab (Aa Ac rfl (qm rfl (qm rfl ?_)))))))
    obtain ⟨v7, a7, h⟩ := bind_some h
    refine AH [] (Ly N v4 v6 v7 a7) Y9 rfl (qa rfl (Ad (Ab (Aa Ac rfl (qm rfl (Cw rfl (Ad ?_)))))))
    refine Ap rfl (fun c8 => ?_) (fun c8 => ?_)
    ·have h := Am c8 h
     refine Ab (Aa Ac rfl (qm rfl (qa rfl (Ad ?_))))
     obtain rfl := sj h
     refine Al (sm [] [(4, iD v7)] [] rfl rfl) (Az ?_)
     exact ⟨⟨[_], ⟨.tmp _ _ rfl, tv⟩, rfl⟩, tv⟩
    ·have h := An c8 h
     refine Aq (Aa Ac rfl (AY rfl (qm rfl (Ad ?_))))
     exact Aw _ h (sm [] _ _ rfl rfl)
  ·have h := An c3 h
   refine AW ?_
   exact Aw _ h (sm [] _ _ rfl rfl)
 ·refine Al hs (Ab (Ab (Aa Ac rfl (qm rfl (AZ AJ rfl (qm rfl (AZ AJ rfl (A1 rfl (Ad ?_)))))))))
  refine Ap rfl (fun c9 => ?_) (fun c9 => ?_)
  ·have h := Am c9 h
   refine Ab (Aa Ac rfl (qa rfl (Ad ?_)))
   obtain rfl := sj h
   refine Al (sm [] [(4, iD ((-1)))] [] rfl rfl) (Az ?_)
   exact ⟨⟨[_], ⟨.tmp _ _ rfl, tv⟩, rfl⟩, tv⟩
  ·have h := An c9 h
   refine Aq (Ab (Aa Ac rfl (qa rfl (Ad ?_))))
   obtain rfl := sj h
   refine Al (sm [] [(4, iD 0)] [] rfl rfl) (Az ?_)
   exact ⟨⟨[_], ⟨.tmp _ _ rfl, tv⟩, rfl⟩, tv⟩
theorem HS (N : Nat) (p0 : Int) (r : Bool) (h : Eo N p0 = some r) : AE Tryz.prog 111 [pD (.val (.int .u8 p0))] [] (bD r) := by
 unfold Eo at h
 refine Ar (n := 6) (rs := [.tmp 2]) Tryz.func111 rfl rfl rfl (A7 rfl) (A7 rfl) rfl fun w0 S0 => ?_
 refine Ab (Aa Ac rfl (qa rfl (Ad (Ab (Aa Ac rfl (qm rfl (qm rfl (Cw rfl (qa rfl (Ad ?_))))))))))
 obtain rfl := sj h
 refine Al (sm [] [(2, bD ((p0 != p0)))] [] rfl rfl) (Az ?_)
 exact ⟨⟨[_], ⟨.tmp _ _ rfl, tv⟩, rfl⟩, tv⟩
theorem JC (N : Nat) (p0 : Int) (p1 : Int) (r : Int) (h : DN N p0 p1 = some r) : AE Tryz.prog 92 [pD (.val (.int .u8 p0)), pD (.val (.int .u8 p1))] [] (iD r) := by
 unfold DN at h
 refine Ar (n := 20) (rs := [.tmp 4]) Tryz.func92 rfl rfl rfl (A7 rfl) (A7 rfl) rfl fun w0 S0 => ?_
 refine Ab (Aa Ac rfl (qa rfl (Ad (Ab (Aa Ac rfl (qm rfl ?_))))))
 obtain ⟨v1, a1, h⟩ := bind_some h
 refine AH [] (HS N p0 v1 a1) V3 rfl (qa rfl (Ad (Ab (Aa Ac rfl (qm rfl ?_)))))
 obtain ⟨v2, a2, h⟩ := bind_some h
 refine AH [] (HS N p1 v2 a2) V3 rfl (qa rfl (Ad (Ab (Ab (Aa Ac rfl (qm rfl (Ad ?_)))))))
 refine Ap rfl (fun c3 => ?_) (fun c3 => ?_)
 ·have h := Am c3 h
  refine Ab (Ab (Aa Ac rfl (qm rfl (Ad ?_))))
  refine Ap rfl (fun c4 => ?_) (fun c4 => ?_)
  ·have h := Am c4 h
   refine Ab (Aa Ac rfl (qa rfl (Ad ?_)))
   obtain rfl := sj h
   refine Al (sm [] [(4, iD 0)] [] rfl rfl) (Az ?_)
   exact ⟨⟨[_], ⟨.tmp _ _ rfl, tv⟩, rfl⟩, tv⟩
  ·have h := An c4 h
   refine Aq (Ab (Aa Ac rfl (qa rfl (Ad ?_))))
   obtain rfl := sj h
   refine Al (sm [] [(4, iD ((-1)))] [] rfl rfl) (Az ?_)
   exact ⟨⟨[_], ⟨.tmp _ _ rfl, tv⟩, rfl⟩, tv⟩
 ·have h := An c3 h
  refine Aq (Ab (Ab (Aa Ac rfl (qm rfl (Ad ?_)))))
  refine Ap rfl (fun c5 => ?_) (fun c5 => ?_)
  ·have h := Am c5 h
   refine Ab (Aa Ac rfl (qa rfl (Ad ?_)))
   obtain rfl := sj h
   refine Al (sm [] [(4, iD 1)] [] rfl rfl) (Az ?_)
   exact ⟨⟨[_], ⟨.tmp _ _ rfl, tv⟩, rfl⟩, tv⟩
  ·have h := An c5 h
   refine Aq (Ab (Ab (Aa Ac rfl (qm rfl (qm rfl (A1 rfl (Ad ?_)))))))
   refine Ap rfl (fun c6 => ?_) (fun c6 => ?_)
   ·have h := Am c6 h
    refine Ab (Aa Ac rfl (qa rfl (Ad ?_)))
    obtain rfl := sj h
    refine Al (sm [] [(4, iD ((-1)))] [] rfl rfl) (Az ?_)
    exact ⟨⟨[_], ⟨.tmp _ _ rfl, tv⟩, rfl⟩, tv⟩
   ·have h := An c6 h
    refine Aq (Ab (Ab (Aa Ac rfl (qm rfl (qm rfl (Fh rfl (Ad ?_)))))))
    refine Ap rfl (fun c7 => ?_) (fun c7 => ?_)
    ·have h := Am c7 h
     refine Ab (Aa Ac rfl (qa rfl (Ad ?_)))
     obtain rfl := sj h
     refine Al (sm [] [(4, iD 1)] [] rfl rfl) (Az ?_)
     exact ⟨⟨[_], ⟨.tmp _ _ rfl, tv⟩, rfl⟩, tv⟩
    ·have h := An c7 h
     refine Aq (Ab (Aa Ac rfl (qa rfl (Ad ?_))))
     obtain rfl := sj h
     refine Al (sm [] [(4, iD 0)] [] rfl rfl) (Az ?_)
     exact ⟨⟨[_], ⟨.tmp _ _ rfl, tv⟩, rfl⟩, tv⟩
theorem G6 (N : Nat) (p0 : List Int) (p1 : List Int) (r : Int) (h : Cc N p0 p1 = some r) : AE Tryz.prog 64 [pD (.sl (p0.map Bg)), pD (.sl (p1.map Bg))] [] (iD r) := by
 unfold Cc at h
 refine Ar (n := 36) (rs := [.tmp 4]) Tryz.func64 rfl rfl rfl (A7 rfl) (A7 rfl) rfl fun w0 S0 => ?_
 refine Ab (Aa Ac rfl (qa rfl (Ad (Ab (Ab (Aa Ac rfl (qm rfl (AZ C4 rfl (qm rfl (Ad ?_))))))))))
 refine AK (L := Bu N p0 p1) h (fun v1 => mk [(0, pD (.sl (p0.map Bg))), (1, pD (.sl (p1.map Bg))), (9, pD (.sl (p0.map Bg))), (10, iD ((p0.length : Int))), (11, iD v1)] []) (fun v2 => mk [(0, pD (.sl (p0.map Bg))), (1, pD (.sl (p1.map Bg)))] []) (fun _ _ => rfl) (sm [] _ _ rfl rfl) (fun j1 n1 v1 h => ?_) (fun v2 s h hs => ?_)
 ·unfold Bu at h
  refine Ab (Aa Ac rfl (A1 rfl (Ad (Ab ?_))))
  refine Ap rfl (fun c3 => ?_) (fun c3 => ?_)
  ·have h := Am c3 h
   refine Aq (Ab (AR (Ab (Aa Ac rfl (qm rfl ?_)))))
   obtain ⟨v4, a4, b4, h⟩ := Aj h
   refine qi C4 FE a4 (Ah b4) rfl (qk Jl rfl (qa rfl (qa rfl (Ad (Ab (Ab (Aa Ac rfl (qm rfl (qm rfl (AZ C4 rfl (Dz rfl (Ad ?_))))))))))))
   refine Ap rfl (fun c5 => ?_) (fun c5 => ?_)
   ·have h := Am c5 h
    refine Ab (Aa Ac rfl (qa rfl (Ad ?_)))
    obtain rfl := sj h
    refine Al (sm [] [(4, iD 1)] [] rfl rfl) (Az ?_)
    exact ⟨⟨[_], ⟨.tmp _ _ rfl, tv⟩, rfl⟩, tv⟩
   ·have h := An c5 h
    refine Aq (Ab (Aa Ac rfl (qm rfl (qm rfl ?_))))
    obtain ⟨v6, a6, b6, h⟩ := Aj h
    refine qi C4 FE a6 (Ah b6) rfl (qk Jl rfl (qa rfl (Ad (Ab (Aa Ac rfl (qm rfl (qm rfl ?_)))))))
    obtain ⟨v7, a7, h⟩ := bind_some h
    refine AH [] (JC N v4 v6 v7 a7) ZA rfl (qa rfl (Ad (Ab (Aa Ac rfl (qm rfl (Cw rfl (Ad ?_)))))))
    refine Ap rfl (fun c8 => ?_) (fun c8 => ?_)
    ·have h := Am c8 h
     refine Ab (Aa Ac rfl (qm rfl (qa rfl (Ad ?_))))
     obtain rfl := sj h
     refine Al (sm [] [(4, iD v7)] [] rfl rfl) (Az ?_)
     exact ⟨⟨[_], ⟨.tmp _ _ rfl, tv⟩, rfl⟩, tv⟩
    ·have h := An c8 h
     refine Aq (Aa Ac rfl (AY rfl (qm rfl (Ad ?_))))
     exact Aw _ h (sm [] _ _ rfl rfl)
  ·have h := An c3 h
   refine AW ?_
   exact Aw _ h (sm [] _ _ rfl rfl)
 ·refine Al hs (Ab (Ab (Aa Ac rfl (qm rfl (AZ C4 rfl (qm rfl (AZ C4 rfl (A1 rfl (Ad ?_)))))))))
  refine Ap rfl (fun c9 => ?_) (fun c9 => ?_)
  ·have h := Am c9 h
   refine Ab (Aa Ac rfl (qa rfl (Ad ?_)))
   obtain rfl := sj h
   refine Al (sm [] [(4, iD ((-1)))] [] rfl rfl) (Az ?_)
   exact ⟨⟨[_], ⟨.tmp _ _ rfl, tv⟩, rfl⟩, tv⟩
  ·have h := An c9 h
   refine Aq (Ab (Aa Ac rfl (qa rfl (Ad ?_))))
   obtain rfl := sj h
   refine Al (sm [] [(4, iD 0)] [] rfl rfl) (Az ?_)
   exact ⟨⟨[_], ⟨.tmp _ _ rfl, tv⟩, rfl⟩, tv⟩
theorem PX (N : Nat) (p0 : List Int) (r : Int) (h : GA N p0 = some r) : AE Tryz.prog 62 [pD (.sl (p0.map Ai))] [] (iD r) := by
 unfold GA at h
 refine Ar (n := 18) (rs := [.tmp 2]) Tryz.func62 rfl rfl rfl (A7 rfl) (A7 rfl) rfl fun w0 S0 => ?_
 refine Ab (Aa Ac rfl (qa rfl (Ad (Ab (Aa Ac rfl (qa rfl (Ad (Ab (Ab (Aa Ac rfl (qm rfl (AZ AJ rfl (qm rfl (Ad ?_))))))))))))))
 refine AK (L := EI N p0) h (fun v1 => mk [(3, iD 0), (6, pD (.sl (p0.map Ai))), (7, iD ((p0.length : Int))), (8, iD v1)] []) (fun v2 => mk [(3, iD 0)] []) (fun _ _ => rfl) (sm [] _ _ rfl rfl) (fun j1 n1 v1 h => ?_) (fun v2 s h hs => ?_)
 ·unfold EI at h
  refine Ab (Aa Ac rfl (A1 rfl (Ad (Ab ?_))))
  refine Ap rfl (fun c3 => ?_) (fun c3 => ?_)
  ·have h := Am c3 h
   refine Aq (Ab (AR (Ab (Aa Ac rfl ?_))))
   obtain ⟨v4, a4, b4, h⟩ := Aj h
   refine qi AJ DA a4 (Ah b4) rfl (qk Cs rfl (qa rfl (Ad (Ab (Aa Ac rfl (qm rfl (qm rfl (Cw rfl (Ad ?_)))))))))
   refine Ap rfl (fun c5 => ?_) (fun c5 => ?_)
   ·have h := Am c5 h
    refine Ab (Aa Ac rfl (qm rfl (qa rfl (Ad ?_))))
    obtain rfl := sj h
    refine Al (sm [] [(2, iD v4)] [] rfl rfl) (Az ?_)
    exact ⟨⟨[_], ⟨.tmp _ _ rfl, tv⟩, rfl⟩, tv⟩
   ·have h := An c5 h
    refine Aq (Aa Ac rfl (AY rfl (qm rfl (Ad ?_))))
    exact Aw _ h (sm [] _ _ rfl rfl)
  ·have h := An c3 h
   refine AW ?_
   exact Aw _ h (sm [] _ _ rfl rfl)
 ·refine Al hs (Ab (Aa Ac rfl (qm rfl (qa rfl (Ad ?_)))))
  obtain rfl := sj h
  refine Al (sm [] [(2, iD 0)] [] rfl rfl) (Az ?_)
  exact ⟨⟨[_], ⟨.tmp _ _ rfl, tv⟩, rfl⟩, tv⟩
theorem IN (N : Nat) (p0 : Ae) (p1 : Ae) (r : Int) (h : CA N p0 p1 = some r) : AE Tryz.prog 39 [.e (.agg [sC (p0.fBase.map Ai), sC (p0.fNext.map Ai), sC (p0.fHeld.map Bg)]), .e (.agg [sC (p1.fBase.map Ai), sC (p1.fNext.map Ai), sC (p1.fHeld.map Bg)])] [] (iD r) := by
 unfold CA at h
 refine Ar (n := 22) (rs := [.tmp 4]) Tryz.func39 rfl rfl rfl (A7 rfl) (A7 rfl) rfl fun w0 S0 => ?_
 refine Ab (Aa Ac rfl (qb rfl (qb rfl (qa rfl (Ad (Ab (Aa Ac rfl (qf CS rfl (ql Bh rfl (qf CS rfl (ql Bh rfl ?_)))))))))))
 obtain ⟨v1, a1, h⟩ := bind_some h
 refine AH [] (Gr N p0.fBase p1.fBase v1 a1) Yb rfl (qf BH rfl (ql Bh rfl (qf BH rfl (ql Bh rfl ?_))))
 obtain ⟨v2, a2, h⟩ := bind_some h
 refine AH [] (Gr N p0.fNext p1.fNext v2 a2) Yb rfl (qf CC rfl (ql GN rfl (qf CC rfl (ql GN rfl ?_))))
 obtain ⟨v3, a3, h⟩ := bind_some h
 refine AH [] (G6 N p0.fHeld p1.fHeld v3 a3) YI rfl (D6 AJ DA KE rfl ?_)
 obtain ⟨v4, a4, h⟩ := bind_some h
 refine FT [] [20] (PX N (([v1, v2, v3] : List Int)) v4 a4) YT Ex rfl (qa rfl (AQ (by kernel_rfl) ?_))
 obtain rfl := sj h
 refine Al (sm [] [(4, iD v4)] [] rfl rfl) (Az ?_)
 exact ⟨⟨[_], ⟨.tmp _ _ rfl, tv⟩, rfl⟩, tv⟩
theorem Io (N : Nat) (p0 : Ag) (r : (List Ae) × Int) (h : D1 N p0 = some r) : AE Tryz.prog 18 [.e (.agg [sC (p0.fVersions.map Ai), sC (p0.fNow.map Ai), sC (p0.fTarget.map Ai), sC (p0.fTables.map Ao)])] [(3, r.1.map Af)] (.tup [.one (.own 0), .one (iC r.2)]) := by
 unfold D1 at h
 refine Ar (n := 73) (rs := [.tmp 2, .tmp 3]) Tryz.func18 rfl rfl rfl (A7 rfl) (A7 rfl) rfl fun w0 S0 => ?_
 refine Ab (Aa Ac rfl (qb rfl (qa rfl (qa rfl (Ad (Ab (Aa Ac rfl (qL Ee DQ rfl ?_))))))))
 obtain ⟨v1, a1, h⟩ := bind_some h
 refine AH [2001, 2002, 2003] (Kt N p0 v1 a1) Xw rfl (qm rfl (qx rfl (qx rfl (qx rfl (qz Cu rfl (qs Ay rfl (qa rfl (qa rfl (Ad (Ab ?_))))))))))
 refine AU h (fun v2 => mk [(1, oD (.ptr 1 0)), (4, oD (.ptr 4 0)), (6, iD v1.2.2), (25, bD v2)] [(1, .box [sC (p0.fVersions.map Ai), sC (p0.fNow.map Ai), sC (p0.fTarget.map Ai), sC (p0.fTables.map Ao)]), (4, .box [.own 2004, .own 2005, .own 2006]), (2004, .vec 1 (v1.1.fBase.map Ai)), (2005, .vec 1 (v1.1.fNext.map Ai)), (2006, .vec 1 (v1.1.fHeld.map Bg))]) (fun j2 h => ?_) (fun v2 h => ?_)
 ·refine Aa Ac rfl (qm rfl (Cw rfl (qm rfl ?_)))
  refine AG (t := 22) rfl (fun c3 => ?_) (fun c3 => ?_)
  ·have h := Am c3 h
   refine qn rfl (qn rfl (qp rfl (Ad ?_)))
   exact Aw _ h (sm [(2004, 2001), (2005, 2002), (2006, 2003)] _ _ rfl rfl)
  ·have h := An c3 h
   refine qm rfl (B7 rfl (qp rfl (Ad ?_)))
   exact Aw _ h (sm [(2004, 2001), (2005, 2002), (2006, 2003)] _ _ rfl rfl)
 ·refine Ap rfl (fun c4 => ?_) (fun c4 => ?_)
  ·have h := Am c4 h
   refine Ab (Aa Ac rfl (qm rfl (qa rfl (qa rfl (Ad ?_)))))
   obtain rfl := sj h
   refine Al ((Bn 2 2007 3 rfl rfl rfl).trans (sm [(1000, 2007)] [(2, oD (.own 1000)), (3, iD v1.2.2)] [(1000, .vec 3 ((([] : List Ae)).map Af))] rfl rfl)) (Az ?_)
   exact ⟨⟨[_, _], ⟨.tmp _ _ rfl, ⟨.tmp _ _ rfl, tv⟩⟩, rfl⟩, ⟨rfl, tv⟩⟩
  ·have h := An c4 h
   refine Aq (Ab (Aa Ac rfl (qL A0 Ay rfl (CL (A4 2004 _ _ rfl rfl) (CL (A4 2005 _ _ rfl rfl) (CL (A4 2006 _ _ rfl rfl) (D6 AM Ay Cu rfl (qa rfl (Ad (Ab (Aa Ac rfl ?_)))))))))))
   refine SO (.p rfl) rfl ?_
   refine qL A0 Ay rfl ?_
   obtain ⟨v5, a5, h⟩ := bind_some h
   refine AH [] (JW N v1.1 v5 a5) WW rfl ?_
   refine Qb (kv := Value.string) (vt := tB) (m := ([] : List (ByteArray × Bool))) (k := v5) (v := true) rfl (.inr rfl) rfl rfl rfl rfl (L3 RW Wx) rfl ?_
   refine qm rfl (qa rfl (Ad (Ab (Ab (Aa Ac rfl (qa rfl (Ad ?_)))))))
   refine AK (L := DB N p0) h (fun v6 => mk [(1, oD (.ptr 1 0)), (7, oD (.own 2008)), (8, oD (.mref 2009)), (9, iD v6.2.2)] [(1, .box [sC (p0.fVersions.map Ai), sC (p0.fNow.map Ai), sC (p0.fTarget.map Ai), sC (p0.fTables.map Ao)]), (2008, .vec 3 (v6.1.map Af)), (2009, .mp (IX Value.string tB v6.2.1))]) (fun v7 => mk [(7, oD (.own 2010))] [(2010, .vec 3 (v7.map Af))]) (fun _ _ => rfl) (sm [(2008, 28), (2009, 29)] _ _ rfl rfl) (fun j6 n6 v6 h => ?_) (fun v7 s h hs => ?_)
   ·unfold DB at h
    refine Ab (Ab (Aa Ac rfl (qm rfl (qm rfl (Dh AM rfl (A1 rfl (Ad ?_)))))))
    refine Ap rfl (fun c8 => ?_) (fun c8 => ?_)
    ·have h := Am c8 h
     refine Aq (Ab (AR (Ab (Aa Ac rfl (qL Ee DQ rfl (qm rfl (qm rfl ?_)))))))
     obtain ⟨v9, a9, b9, h⟩ := Aj h
     refine qI AM Ay a9 (Ah b9) rfl (qJ A0 Ay (Ah b9) rfl ?_)
     obtain ⟨v10, a10, h⟩ := bind_some h
     refine AH [2011, 2012] (LB N p0 v9 v10 a10) Yi rfl (qm rfl (qx rfl (qx rfl (qa rfl (qa rfl (AQ (by kernel_rfl) (Ab (Ab (Aa Ac rfl (qm rfl (Dh AM rfl (qm rfl (Ad ?_)))))))))))))
     refine AK (L := DV N v10) h (fun v11 => mk [(1, oD (.ptr 1 0)), (7, oD (.own 2013)), (8, oD (.mref 2014)), (9, iD v6.2.2), (48, oD (.own 2015)), (49, iD ((v10.2.length : Int))), (50, iD v11.2.2)] [(1, .box [sC (p0.fVersions.map Ai), sC (p0.fNow.map Ai), sC (p0.fTarget.map Ai), sC (p0.fTables.map Ao)]), (2013, .vec 3 (v11.1.map Af)), (2014, .mp (IX Value.string tB v11.2.1)), (2015, .vec 3 (v10.2.map Af))]) (fun v12 => mk [(1, oD (.ptr 1 0)), (7, oD (.own 2016)), (8, oD (.mref 2017)), (9, iD v6.2.2)] [(1, .box [sC (p0.fVersions.map Ai), sC (p0.fNow.map Ai), sC (p0.fTarget.map Ai), sC (p0.fTables.map Ao)]), (2016, .vec 3 (v12.1.map Af)), (2017, .mp (IX Value.string tB v12.2))]) (fun _ _ => rfl) (sm [(2013, 2008), (2014, 2009), (2015, 2012)] _ _ rfl rfl) (fun j11 n11 v11 h => ?_) (fun v12 s h hs => ?_)
     ·unfold DV at h
      refine Ab (Aa Ac rfl (A1 rfl (Ad (Ab ?_))))
      refine Ap rfl (fun c13 => ?_) (fun c13 => ?_)
      ·have h := Am c13 h
       refine Aq ?_
       refine AU h (fun v14 => mk [(1, oD (.ptr 1 0)), (7, oD (.own 2018)), (8, oD (.mref 2019)), (9, iD v6.2.2), (48, oD (.own 2020)), (49, iD ((v10.2.length : Int))), (50, iD v11.2.2)] [(1, .box [sC (p0.fVersions.map Ai), sC (p0.fNow.map Ai), sC (p0.fTarget.map Ai), sC (p0.fTables.map Ao)]), (2018, .vec 3 (v14.1.map Af)), (2019, .mp (IX Value.string tB v14.2)), (2020, .vec 3 (v10.2.map Af))]) (fun j14 h => ?_) (fun v14 h => ?_)
       ·refine AR (Ab (Aa Ac rfl ?_))
        obtain ⟨v15, a15, b15, h⟩ := Aj h
        refine qI AM Ay a15 (Ah b15) rfl (qJ A0 Ay (Ah b15) rfl (qz Cu rfl (qs Ay rfl (Ad (Ab (Aa Ac rfl (qm rfl (qL A0 Ay rfl ?_))))))))
        obtain ⟨v16, a16, h⟩ := bind_some h
        refine AH [] (JW N v15 v16 a16) WW rfl ?_
        refine TQ (kv := Value.string) (vt := tB) (m := v11.2.1) (dv := false) (.p rfl) rfl rfl rfl (L3 RW Wx) (by rw [RW]; rfl) VP rfl rfl rfl ?_
        refine B7 rfl (Ad ?_)
        refine Ap rfl (fun c17 => ?_) (fun c17 => ?_)
        ·have h := Am c17 h
         refine Ab (Aa Ac rfl (qm rfl (qL A0 Ay rfl ?_)))
         obtain ⟨v18, a18, h⟩ := bind_some h
         refine AH [] (JW N v15 v18 a18) WW rfl ?_
         refine Qb (kv := Value.string) (vt := tB) (m := v11.2.1) (k := v18) (v := true) rfl (.inl rfl) rfl rfl rfl rfl (L3 RW Wx) rfl ?_
         refine Ad (Aa Ac rfl (qm rfl (qL A0 Ay rfl (D6 AM Ay Cu rfl ?_))))
         obtain ⟨c19, h⟩ := AN h
         refine Da (f := Af) AM AM Ay JN Cu c19 rfl (qa rfl (Ad ?_))
         exact Aw _ h (sm [(2018, 65), (2019, 2014), (2020, 2015)] _ _ rfl rfl)
        ·have h := An c17 h
         refine Aq ?_
         exact Aw _ h (sm [(2018, 2013), (2019, 2014), (2020, 2015)] _ _ rfl rfl)
       ·refine Aa Ac rfl (AY rfl (qm rfl (Ad ?_)))
        exact Aw _ h (sm [(2013, 2018), (2014, 2019), (2015, 2020)] _ _ rfl rfl)
      ·have h := An c13 h
       refine AW ?_
       exact Aw _ h (sm [(2016, 2013), (2017, 2014)] _ _ rfl rfl)
     ·refine Al hs (Ab (Aa Ac rfl (qm rfl (Dh AM rfl (Fh rfl (Ad ?_))))))
      refine Ap rfl (fun c20 => ?_) (fun c20 => ?_)
      ·have h := Am c20 h
       refine Ab (Aa Ac rfl (qa rfl (qa rfl (Ad ?_))))
       obtain rfl := sj h
       refine Al ((Bn 2 2021 3 rfl rfl rfl).trans (sm [(1000, 2021)] [(2, oD (.own 1000)), (3, iD 3)] [(1000, .vec 3 ((([] : List Ae)).map Af))] rfl rfl)) (Az ?_)
       exact ⟨⟨[_, _], ⟨.tmp _ _ rfl, ⟨.tmp _ _ rfl, tv⟩⟩, rfl⟩, ⟨rfl, tv⟩⟩
      ·have h := An c20 h
       refine Aq (Aa Ac rfl (qm rfl (AY rfl (qa rfl (Ad ?_)))))
       exact Aw _ h (sm [(2008, 2016), (2009, 2017)] _ _ rfl rfl)
    ·have h := An c8 h
     refine AW ?_
     exact Aw _ h (sm [(2010, 2008)] _ _ rfl rfl)
   ·refine Al hs (Ab (Aa Ac rfl (qm rfl ?_)))
    obtain ⟨v21, a21, h⟩ := bind_some h
    refine Dc (ds0 := [_, _]) [2010] [] [true] (BK.weak (ds' := [_, oD (.fnc 39)]) (EV N v7 ((fun (x : Ae × Ae) => CA N x.1 x.2)) v21 a21) ⟨(fun _ _ _ hh => hh), (fun _ _ _ hh => MT WQ (fun ar t ht => by obtain ⟨x, r, rfl, hq, rfl⟩ := IU ht; exact IN N x.1 x.2 r hq) hh), tv⟩) (.p rfl) XL rfl ⟨rfl, rfl, tv⟩ rfl rfl (by decide) ⟨rfl, tv⟩ rfl (Bo rfl) tv ⟨(fun h => by cases h), tv⟩ rfl rfl rfl ?_
    refine Ad (Ab (Aa Ac rfl (qm rfl (qa rfl (qa rfl (Ad ?_))))))
    obtain rfl := sj h
    refine Al (sm [(1000, 2010)] [(2, oD (.own 1000)), (3, iD 0)] [(1000, .vec 3 (v21.map Af))] rfl rfl) (Az ?_)
    exact ⟨⟨[_, _], ⟨.tmp _ _ rfl, ⟨.tmp _ _ rfl, tv⟩⟩, rfl⟩, ⟨rfl, tv⟩⟩
theorem Pi (N : Nat) (p0 : Ag) (p1 : List Int) (r : (List Ak) × Int) (h : IK N p0 p1 = some r) : AE Tryz.prog 20 [.e (.agg [sC (p0.fVersions.map Ai), sC (p0.fNow.map Ai), sC (p0.fTarget.map Ai), sC (p0.fTables.map Ao)]), pD (.sl (p1.map Bg))] [(3, r.1.map AL)] (.tup [.one (.own 0), .one (iC r.2)]) := by
 unfold IK at h
 refine Ar (n := 61) (rs := [.tmp 4, .tmp 5]) Tryz.func20 rfl rfl rfl (A7 rfl) (A7 rfl) rfl fun w0 S0 => ?_
 refine Ab (Aa Ac rfl (qb rfl (qa rfl (qa rfl (Ad (Ab (Aa Ac rfl (qL Ee DQ rfl ?_))))))))
 obtain ⟨v1, a1, h⟩ := bind_some h
 refine AH [2001, 2002, 2003] (Kt N p0 v1 a1) Xw rfl (qm rfl (qx rfl (qx rfl (qx rfl (qz Cu rfl (qs Ay rfl (qa rfl (qa rfl (Ad (Ab ?_))))))))))
 refine AU h (fun v2 => mk [(1, pD (.sl (p1.map Bg))), (2, oD (.ptr 2 0)), (6, oD (.ptr 6 0)), (8, iD v1.2.2), (26, bD v2)] [(2, .box [sC (p0.fVersions.map Ai), sC (p0.fNow.map Ai), sC (p0.fTarget.map Ai), sC (p0.fTables.map Ao)]), (6, .box [.own 2004, .own 2005, .own 2006]), (2004, .vec 1 (v1.1.fBase.map Ai)), (2005, .vec 1 (v1.1.fNext.map Ai)), (2006, .vec 1 (v1.1.fHeld.map Bg))]) (fun j2 h => ?_) (fun v2 h => ?_)
 ·refine Aa Ac rfl (qm rfl (Cw rfl (qm rfl ?_)))
  refine AG (t := 23) rfl (fun c3 => ?_) (fun c3 => ?_)
  ·have h := Am c3 h
   refine qn rfl (qn rfl (qp rfl (Ad ?_)))
   exact Aw _ h (sm [(2004, 2001), (2005, 2002), (2006, 2003)] _ _ rfl rfl)
  ·have h := An c3 h
   refine qm rfl (B7 rfl (qp rfl (Ad ?_)))
   exact Aw _ h (sm [(2004, 2001), (2005, 2002), (2006, 2003)] _ _ rfl rfl)
 ·refine Ap rfl (fun c4 => ?_) (fun c4 => ?_)
  ·have h := Am c4 h
   refine Ab (Aa Ac rfl (qm rfl (qa rfl (qa rfl (Ad ?_)))))
   obtain rfl := sj h
   refine Al ((Bn 4 2007 3 rfl rfl rfl).trans (sm [(1000, 2007)] [(4, oD (.own 1000)), (5, iD v1.2.2)] [(1000, .vec 3 ((([] : List Ak)).map AL))] rfl rfl)) (Az ?_)
   exact ⟨⟨[_, _], ⟨.tmp _ _ rfl, ⟨.tmp _ _ rfl, tv⟩⟩, rfl⟩, ⟨rfl, tv⟩⟩
  ·have h := An c4 h
   refine Aq (Ab (Aa Ac rfl (qa rfl (Ad (Ab (Ab (Aa Ac rfl (qm rfl (AZ IA rfl (qm rfl (Ad ?_)))))))))))
   refine AK (L := Gb N p0 p1) h (fun v5 => mk [(2, oD (.ptr 2 0)), (6, oD (.ptr 6 0)), (9, oD (.own 2008)), (28, pD (.sl (p1.map Bg))), (29, iD ((p1.length : Int))), (30, iD v5.2.2.2.2)] [(2, .box [sC (p0.fVersions.map Ai), sC (p0.fNow.map Ai), sC (p0.fTarget.map Ai), sC (p0.fTables.map Ao)]), (6, .box [sC (v5.1.map Ai), sC (v5.2.1.map Ai), sC (v5.2.2.1.map Bg)]), (2008, .vec 3 (v5.2.2.2.1.map AL))]) (fun v6 => mk [(9, oD (.own 2009))] [(2009, .vec 3 (v6.map AL))]) (fun _ _ => rfl) ((Bn 9 2012 3 rfl rfl rfl).trans ((A4 2004 _ _ rfl rfl).trans ((A4 2005 _ _ rfl rfl).trans ((A4 2006 _ _ rfl rfl).trans (sm [(2008, 2012)] _ _ rfl rfl))))) (fun j5 n5 v5 h => ?_) (fun v6 s h hs => ?_)
   ·unfold Gb at h
    refine Ab (Aa Ac rfl (A1 rfl (Ad (Ab ?_))))
    refine Ap rfl (fun c7 => ?_) (fun c7 => ?_)
    ·have h := Am c7 h
     refine Aq (Ab (AR (Ab (Aa Ac rfl ?_))))
     obtain ⟨v8, a8, b8, h⟩ := Aj h
     refine qi IA V1 a8 (Ah b8) rfl (qk Xk rfl (qa rfl (Ad (Ab (Aa Ac rfl (qL Ee DQ rfl (qL A0 Ay rfl ?_)))))))
     obtain ⟨v9, a9, h⟩ := bind_some h
     refine AH [2010, 2011] (LB N p0 ((Ae.mk v5.1 v5.2.1 v5.2.2.1)) v9 a9) Yi rfl (qm rfl (qx rfl (qx rfl (qa rfl (qa rfl (Ad (Ab (Ab (Aa Ac rfl (qm rfl (Dh Do rfl (BM rfl (Ad ?_)))))))))))))
     refine Ap rfl (fun c10 => ?_) (fun c10 => ?_)
     ·have h := Am c10 h
      refine AW ?_
      exact Aw _ h (sm [(2009, 2008)] _ _ rfl rfl)
     ·have h := An c10 h
      refine Aq (Ab (Aa Ac rfl (qm rfl (G5 Vg S5 rfl (qm rfl (Dh Do rfl ?_))))))
      obtain ⟨c11, h⟩ := AN h
      refine Ky rfl c11 (qa rfl (Ad (Aa Ac rfl (qm rfl (qm rfl (qm rfl ?_))))))
      obtain ⟨v12, a12, b12, h⟩ := Aj h
      refine qI Do Ej a12 (Ah b12) rfl (qJ Im Ej (Ah b12) rfl (D6 Do Ej HO rfl ?_))
      obtain ⟨c13, h⟩ := AN h
      refine Da (f := AL) Do Do Ej MW HO c13 rfl (qm rfl (qm rfl ?_))
      obtain ⟨v14, a14, b14, h⟩ := Aj h
      refine qI AM Ay a14 (Ah b14) rfl (qJ A0 Ay (Ah b14) rfl (qa rfl (qs Ay rfl (AQ (by kernel_rfl) (Aa Ac rfl (AY rfl (qm rfl (Ad ?_))))))))
      exact Aw _ h (sm [(2008, 54)] _ _ rfl rfl)
    ·have h := An c7 h
     refine AW ?_
     exact Aw _ h (sm [(2009, 2008)] _ _ rfl rfl)
   ·refine Al hs (Ab (Aa Ac rfl (qm rfl (qa rfl (qa rfl (Ad ?_))))))
    obtain rfl := sj h
    refine Al (sm [(1000, 2009)] [(4, oD (.own 1000)), (5, iD 0)] [(1000, .vec 3 (v6.map AL))] rfl rfl) (Az ?_)
    exact ⟨⟨[_, _], ⟨.tmp _ _ rfl, ⟨.tmp _ _ rfl, tv⟩⟩, rfl⟩, ⟨rfl, tv⟩⟩
theorem Rj (N : Nat) (p0 : Ag) (p1 : Ae) (p2 : List Ak) (r : (List Ae) × Int × Int) (h : J1 N p0 p1 p2 = some r) : AE Tryz.prog 56 [.e (.agg [sC (p0.fVersions.map Ai), sC (p0.fNow.map Ai), sC (p0.fTarget.map Ai), sC (p0.fTables.map Ao)]), .e (.agg [sC (p1.fBase.map Ai), sC (p1.fNext.map Ai), sC (p1.fHeld.map Bg)]), pD (.sl (p2.map AL))] [(3, r.1.map Af)] (.tup [.one (.own 0), .one (iC r.2.1), .one (iC r.2.2)]) := by
 unfold J1 at h
 refine Ar (n := 53) (rs := [.tmp 6, .tmp 7, .tmp 8]) Tryz.func56 rfl rfl rfl (A7 rfl) (A7 rfl) rfl fun w0 S0 => ?_
 refine Ab (Aa Ac rfl (qb rfl (qb rfl (qa rfl (qa rfl (qa rfl (Ad (Ab (Ab (Aa Ac rfl (qL Ee DQ rfl (qL A0 Ay rfl ?_))))))))))))
 obtain ⟨v1, a1, h⟩ := bind_some h
 refine AH [] (Iv N p0 p1 v1 a1) Vq rfl (qa rfl (Ad (Ab (Aa Ac rfl (qm rfl (Cw rfl (Ad ?_)))))))
 refine Ap rfl (fun c2 => ?_) (fun c2 => ?_)
 ·have h := Am c2 h
  refine Ab (Aa Ac rfl (qm rfl (qa rfl (qa rfl (qa rfl (Ad ?_))))))
  obtain rfl := sj h
  refine Al ((Bn 6 2001 3 rfl rfl rfl).trans (sm [(1000, 2001)] [(6, oD (.own 1000)), (7, iD 0), (8, iD v1)] [(1000, .vec 3 ((([] : List Ae)).map Af))] rfl rfl)) (Az ?_)
  exact ⟨⟨[_, _, _], ⟨.tmp _ _ rfl, ⟨.tmp _ _ rfl, ⟨.tmp _ _ rfl, tv⟩⟩⟩, rfl⟩, ⟨rfl, tv⟩⟩
 ·have h := An c2 h
  refine Aq (Ab (Aa Ac rfl (qL A0 Ay rfl ?_)))
  obtain ⟨v3, a3, h⟩ := bind_some h
  refine AH [2002, 2003, 2004] (Kv N p1 v3 a3) Yg rfl (CL (A4 2002 _ _ rfl rfl) (CL (A4 2003 _ _ rfl rfl) (CL (A4 2004 _ _ rfl rfl) (D6 AM Ay Cu rfl (qa rfl (Ad (Ab (Ab (Aa Ac rfl (qm rfl (AZ Do rfl (qm rfl (Ad ?_)))))))))))))
  refine AK (L := Hc N p0 p2) h (fun v4 => mk [(2, pD (.sl (p2.map AL))), (3, oD (.ptr 3 0)), (10, oD (.own 2005)), (24, pD (.sl (p2.map AL))), (25, iD ((p2.length : Int))), (26, iD v4.2)] [(3, .box [sC (p0.fVersions.map Ai), sC (p0.fNow.map Ai), sC (p0.fTarget.map Ai), sC (p0.fTables.map Ao)]), (2005, .vec 3 (v4.1.map Af))]) (fun v5 => mk [(2, pD (.sl (p2.map AL))), (10, oD (.own 2006))] [(2006, .vec 3 (v5.map Af))]) (fun _ _ => rfl) (sm [(2005, 23)] _ _ rfl rfl) (fun j4 n4 v4 h => ?_) (fun v5 s h hs => ?_)
  ·unfold Hc at h
   refine Ab (Aa Ac rfl (A1 rfl (Ad (Ab ?_))))
   refine Ap rfl (fun c6 => ?_) (fun c6 => ?_)
   ·have h := Am c6 h
    refine Aq (Ab (AR (Ab (Aa Ac rfl (qm rfl ?_)))))
    obtain ⟨v7, a7, b7, h⟩ := Aj h
    refine qi Do Ej a7 (Ah b7) rfl (qK Im Ej rfl (qz HO rfl (qa rfl (qs Ej rfl (Ad (Ab (Aa Ac rfl (qL Ee DQ rfl (qm rfl (qm rfl ?_))))))))))
    obtain ⟨v8, a8, b8, h⟩ := Aj h
    refine qI AM Ay a8 (Ah b8) rfl (qJ A0 Ay (Ah b8) rfl (qL Im Ej rfl ?_))
    obtain ⟨v9, a9, h⟩ := bind_some h
    refine AH [2007, 2008, 2009] (Lt N p0 v8 v7 v9 a9) Yj rfl (qm rfl (qx rfl (qx rfl (qz Cu rfl (qs Ay rfl (qa rfl (AQ (by kernel_rfl) (Ab (Ab (Aa Ac rfl (qm rfl (Cw rfl (Ad ?_)))))))))))))
    refine Ap rfl (fun c10 => ?_) (fun c10 => ?_)
    ·have h := Am c10 h
     refine Ab (Aa Ac rfl (qm rfl (qm rfl (qa rfl (qa rfl (qa rfl (Ad ?_)))))))
     obtain rfl := sj h
     refine Al ((Bn 6 2010 3 rfl rfl rfl).trans (sm [(1000, 2010)] [(6, oD (.own 1000)), (7, iD v4.2), (8, iD v9.2)] [(1000, .vec 3 ((([] : List Ae)).map Af))] rfl rfl)) (Az ?_)
     exact ⟨⟨[_, _, _], ⟨.tmp _ _ rfl, ⟨.tmp _ _ rfl, ⟨.tmp _ _ rfl, tv⟩⟩⟩, rfl⟩, ⟨rfl, tv⟩⟩
    ·have h := An c10 h
     refine Aq (Aa Ac rfl (qm rfl (qL A0 Ay rfl (CL (A4 2007 _ _ rfl rfl) (CL (A4 2008 _ _ rfl rfl) (CL (A4 2009 _ _ rfl rfl) (D6 AM Ay Cu rfl ?_)))))))
     obtain ⟨c11, h⟩ := AN h
     refine Da (f := Af) AM AM Ay JN Cu c11 rfl (qa rfl (Ad (Aa Ac rfl (AY rfl (qm rfl (Ad ?_))))))
     exact Aw _ h (sm [(2005, 48)] _ _ rfl rfl)
   ·have h := An c6 h
    refine AW ?_
    exact Aw _ h (sm [(2006, 2005)] _ _ rfl rfl)
  ·refine Al hs (Ab (Aa Ac rfl (qm rfl (qm rfl (AZ Do rfl (qa rfl (qa rfl (qa rfl (Ad ?_)))))))))
   obtain rfl := sj h
   refine Al (sm [(1000, 2006)] [(6, oD (.own 1000)), (7, iD ((p2.length : Int))), (8, iD 0)] [(1000, .vec 3 (v5.map Af))] rfl rfl) (Az ?_)
   exact ⟨⟨[_, _, _], ⟨.tmp _ _ rfl, ⟨.tmp _ _ rfl, ⟨.tmp _ _ rfl, tv⟩⟩⟩, rfl⟩, ⟨rfl, tv⟩⟩
theorem Mh (N : Nat) (p0 : Ag) (p1 : List Ak) (r : (List Ae) × Int × Int) (h : HY N p0 p1 = some r) : AE Tryz.prog 36 [.e (.agg [sC (p0.fVersions.map Ai), sC (p0.fNow.map Ai), sC (p0.fTarget.map Ai), sC (p0.fTables.map Ao)]), pD (.sl (p1.map AL))] [(3, r.1.map Af)] (.tup [.one (.own 0), .one (iC r.2.1), .one (iC r.2.2)]) := by
 unfold HY at h
 refine Ar (n := 24) (rs := [.tmp 4, .tmp 5, .tmp 6]) Tryz.func36 rfl rfl rfl (A7 rfl) (A7 rfl) rfl fun w0 S0 => ?_
 refine Ab (Aa Ac rfl (qb rfl (qa rfl (qa rfl (qa rfl (Ad (Ab (Aa Ac rfl (qL Ee DQ rfl ?_)))))))))
 obtain ⟨v1, a1, h⟩ := bind_some h
 refine AH [2001, 2002, 2003] (Me N p0 v1 a1) Xy rfl (qm rfl (qx rfl (qx rfl (qz Cu rfl (qs Ay rfl (qa rfl (Ad (Ab (Ab (Aa Ac rfl (qm rfl (Cw rfl (Ad ?_)))))))))))))
 refine Ap rfl (fun c2 => ?_) (fun c2 => ?_)
 ·have h := Am c2 h
  refine Ab (Aa Ac rfl (qm rfl (qa rfl (qa rfl (qa rfl (Ad ?_))))))
  obtain rfl := sj h
  refine Al ((Bn 4 2004 3 rfl rfl rfl).trans (sm [(1000, 2004)] [(4, oD (.own 1000)), (5, iD 0), (6, iD v1.2)] [(1000, .vec 3 ((([] : List Ae)).map Af))] rfl rfl)) (Az ?_)
  exact ⟨⟨[_, _, _], ⟨.tmp _ _ rfl, ⟨.tmp _ _ rfl, ⟨.tmp _ _ rfl, tv⟩⟩⟩, rfl⟩, ⟨rfl, tv⟩⟩
 ·have h := An c2 h
  refine Aq (Ab (Aa Ac rfl (qL Ee DQ rfl (qL A0 Ay rfl (qm rfl (CL (A4 2001 _ _ rfl rfl) (CL (A4 2002 _ _ rfl rfl) (CL (A4 2003 _ _ rfl rfl) ?_))))))))
  obtain ⟨v3, a3, h⟩ := bind_some h
  refine AH [2005] (Rj N p0 v1.1 p1 v3 a3) Zu rfl (qx rfl (qx rfl (qx rfl (qa rfl (qa rfl (qa rfl (Ad ?_)))))))
  obtain rfl := sj h
  refine Al (sm [(1000, 2005)] [(4, oD (.own 1000)), (5, iD v3.2.1), (6, iD v3.2.2)] [(1000, .vec 3 (v3.1.map Af))] rfl rfl) (Az ?_)
  exact ⟨⟨[_, _, _], ⟨.tmp _ _ rfl, ⟨.tmp _ _ rfl, ⟨.tmp _ _ rfl, tv⟩⟩⟩, rfl⟩, ⟨rfl, tv⟩⟩
theorem Gk (N : Nat) (p0 : List Ae) (p1 : (Ae × Ae) → Option Bool) (r : Nat × (List Ae)) (h : C6 N p0 p1 = some r) : BK Tryz.prog 40 [oD (.own 90000), oD (.clo (B0 (EA true Af true Af) tB p1))] [(.vec 3 (p0.map Af), .vec 3 (r.2.map Af))] [] (oD (.view 90000 3 0 r.1)) := by
 unfold C6 at h
 refine BC (n := 66) (rs := [.tmp 4]) Tryz.func40 rfl rfl rfl (A7 rfl) (A7 rfl) rfl rfl (A7 rfl) rfl (A7 rfl) fun w0 S0 GL => ?_
 refine Al (sm [] [(0, oD (.own 90000)), (1, oD (.clo (B0 (EA true Af true Af) tB p1)))] [(90000, .vec 3 (p0.map Af))] rfl rfl) (Ab (Aa Ac rfl (qa rfl (Ad (Ab (Ab (Aa Ac rfl (qm rfl (Dh AM rfl (A1 rfl (Ad ?_)))))))))))
 refine Ap rfl (fun c1 => ?_) (fun c1 => ?_)
 ·have h := Am c1 h
  refine Ab (Aa Ac rfl (qm rfl (qa rfl (Ad ?_))))
  obtain rfl := sj h
  refine Al ((Pq Af p0 4 90000 3 rfl rfl).trans (sm [] [(4, oD (.view 90000 3 0 p0.length))] [(90000, .vec 3 (p0.map Af))] rfl rfl)) (Az ?_)
  exact ⟨⟨[_], ⟨.tmp _ _ rfl, tv⟩, rfl⟩, ⟨rfl, tv⟩, tv⟩
 ·have h := An c1 h
  refine Aq (Ab (Ab (Aa Ac rfl (qa rfl (Ad ?_)))))
  refine AK (L := B5 N p0 p1) h (fun v2 => mk [(0, oD (.own 90000)), (1, oD (.clo (B0 (EA true Af true Af) tB p1))), (5, iD v2)] [(90000, .vec 3 (p0.map Af))]) (fun v3 => mk [(0, oD (.own 90000))] [(90000, .vec 3 (p0.map Af))]) (fun _ _ => rfl) (sm [] _ _ rfl rfl) (fun j2 n2 v2 h => ?_) (fun v3 s h hs => ?_)
  ·unfold B5 at h
   refine Ab (Ab (Aa Ac rfl (qm rfl (qm rfl (Dh AM rfl (A1 rfl (Ad ?_)))))))
   refine Ap rfl (fun c4 => ?_) (fun c4 => ?_)
   ·have h := Am c4 h
    refine Aq (Ab (AR (Ab (Aa Ac rfl (qm rfl (qm rfl (qm rfl ?_)))))))
    obtain ⟨v5, a5, b5, h⟩ := Aj h
    refine qI AM Ay a5 (Ah b5) rfl (qJ A0 Ay (Ah b5) rfl (qm rfl (qm rfl (CM rfl ?_))))
    obtain ⟨v6, a6, b6, h⟩ := Aj h
    refine qI AM Ay a6 (Ah b6) rfl (qJ A0 Ay (Ah b6) rfl ?_)
    obtain ⟨v7, a7, h⟩ := bind_some h
    refine EF (ds0 := [_, _]) (ar := (EA true Af true Af) ((v5, v6))) (.p rfl) rfl rfl ⟨rfl, rfl, tv⟩ rfl rfl rfl (EE (Fj _ _ _ _ Bz Bz) a7) ?_
    refine AQ (by kernel_rfl) ?_
    refine Ap rfl (fun c8 => ?_) (fun c8 => ?_)
    ·have h := Am c8 h
     refine Ab (Aa Ac rfl (qm rfl (qm rfl ?_)))
     obtain ⟨c9, h⟩ := AN h
     have w10 : ((v2).toNat) + ((p0.length - (v2).toNat)) ≤ p0.length := by have := c9.2.1; have := c9.2.2; omega
     refine Hh Af p0 (.p rfl) rfl (Gt Af _ _ p0) rfl AM Ay (.some _ _ _ _ c9.1) (.none _) ⟨rfl, tv⟩ tv c9.2.1 (by rw [Nat.zero_add]; exact c9.2.2) (Nat.zero_add _) rfl ?_
     refine qa rfl (Ad (Ab (Ab (Aa Ac rfl (qa rfl (Ad ?_))))))
     refine AK (L := B1 N p0 p1 v2) h (fun v11 => mk [(0, oD (.own 90000)), (1, oD (.clo (B0 (EA true Af true Af) tB p1))), (5, iD v11.2.1), (6, oD (.view 90000 3 ((v2).toNat) ((p0.length - (v2).toNat)))), (7, iD v11.2.2)] [(90000, .vec 3 (v11.1.map Af))]) (fun v12 => mk [(0, oD (.own 90000)), (5, iD v12.2)] [(90000, .vec 3 (v12.1.map Af))]) (fun _ _ => rfl) (sm [] _ _ rfl rfl) (fun j11 n11 v11 h => ?_) (fun v12 s h hs => ?_)
     ·unfold B1 at h
      refine Ab (Ab (Aa Ac rfl (qm rfl (qm rfl ?_))))
      refine Vt (.p rfl) rfl AM ?_
      refine A1 rfl (Ad ?_)
      refine Ap rfl (fun c13 => ?_) (fun c13 => ?_)
      ·have h := Am c13 h
       refine Aq ?_
       refine AU h (fun v14 => mk [(0, oD (.own 90000)), (1, oD (.clo (B0 (EA true Af true Af) tB p1))), (5, iD v14.2), (6, oD (.view 90000 3 ((v2).toNat) ((p0.length - (v2).toNat)))), (7, iD v11.2.2)] [(90000, .vec 3 (v14.1.map Af))]) (fun j14 h => ?_) (fun v14 h => ?_)
       ·refine AR (Ab (Aa Ac rfl (qm rfl (qm rfl (qm rfl ?_)))))
        obtain ⟨c16, h⟩ := AN h
        obtain ⟨v15, a15, b15, h⟩ := Aj h
        refine LZ Af v11.1 (.p rfl) rfl c16 rfl rfl AM Ay a15 (IV b15).1 rfl ?_
        refine K3 (.p rfl) rfl A0 Ay rfl (Ah (IV b15).2) ?_
        refine qm rfl (qm rfl (CM rfl ?_))
        obtain ⟨v17, a17, b17, h⟩ := Aj h
        refine LZ Af v11.1 (.p rfl) rfl c16 rfl rfl AM Ay a17 (IV b17).1 rfl ?_
        refine K3 (.p rfl) rfl A0 Ay rfl (Ah (IV b17).2) ?_
        obtain ⟨v18, a18, h⟩ := bind_some h
        refine EF (ds0 := [_, _]) (ar := (EA true Af true Af) ((v15, v17))) (.p rfl) rfl rfl ⟨rfl, rfl, tv⟩ rfl rfl rfl (EE (Fj _ _ _ _ Bz Bz) a18) ?_
        refine B7 rfl (AQ (by kernel_rfl) ?_)
        refine Ap rfl (fun c19 => ?_) (fun c19 => ?_)
        ·have h := Am c19 h
         refine Ab (Aa Ac rfl (qm rfl (qm rfl (qm rfl (qm rfl ?_)))))
         obtain ⟨v20, a20, b20, h⟩ := Aj h
         refine LZ Af v11.1 (.p rfl) rfl c16 rfl rfl AM Ay a20 (IV b20).1 rfl ?_
         refine K3 (.p rfl) rfl A0 Ay rfl (Ah (IV b20).2) ?_
         obtain ⟨v21, a21, b21, h⟩ := Aj h
         refine qI AM Ay a21 (Ah b21) rfl ?_
         refine Bd rfl rfl rfl rfl (Ah b21) rfl Ay rfl (A7 rfl) (Bc Af v11.1 _ v20) ?_
         refine Ad (Aa Ac rfl (qm rfl (AY rfl (qa rfl (Ad ?_)))))
         exact Aw _ h (sm [] _ _ rfl rfl)
        ·have h := An c19 h
         refine Aq ?_
         exact Aw _ h (sm [] _ _ rfl rfl)
       ·refine Aa Ac rfl (qm rfl (AY rfl (qa rfl (Ad ?_))))
        exact Aw _ h (sm [] _ _ rfl rfl)
      ·have h := An c13 h
       refine AW ?_
       exact Aw _ h (sm [] _ _ rfl rfl)
     ·refine Al hs (Ab (Aa Ac rfl (qm rfl (qm rfl ?_))))
      obtain ⟨c22, h⟩ := AN h
      have w23 : ((v12.2).toNat) + ((v12.1.length - (v12.2).toNat)) ≤ v12.1.length := by have := c22.2.1; have := c22.2.2; omega
      refine Hh Af v12.1 (.p rfl) rfl (Gt Af _ _ v12.1) rfl AM Ay (.some _ _ _ _ c22.1) (.none _) ⟨rfl, tv⟩ tv c22.2.1 (by rw [Nat.zero_add]; exact c22.2.2) (Nat.zero_add _) rfl ?_
      have w24 : (H4 v12.1 ((v12.2).toNat) (List.replicate ((v12.1.length - (v12.2).toNat)) ((Ae.mk (([] : List Int)) (([] : List Int)) (([] : List Int)))))).length = v12.1.length := Ia (by rw [List.length_replicate]; exact w23)
      refine P9 Af v12.1 ((Ae.mk (([] : List Int)) (([] : List Int)) (([] : List Int)))) rfl rfl (L4 Af _ _ ((v12.2).toNat) ((v12.1.length - (v12.2).toNat)) v12.1 w23) rfl AM Cu rfl rfl rfl rfl ?_
      refine Ad (Ab (Aa Ac rfl (qm rfl (qm rfl ?_))))
      obtain ⟨c25, h⟩ := AN h
      have w26 : 0 + ((v12.2).toNat) ≤ (H4 v12.1 ((v12.2).toNat) (List.replicate ((v12.1.length - (v12.2).toNat)) ((Ae.mk (([] : List Int)) (([] : List Int)) (([] : List Int)))))).length := by have := c25.2.1; have := c25.2.2; omega
      refine Hh Af (H4 v12.1 ((v12.2).toNat) (List.replicate ((v12.1.length - (v12.2).toNat)) ((Ae.mk (([] : List Int)) (([] : List Int)) (([] : List Int)))))) (.p rfl) rfl (Gt Af _ _ (H4 v12.1 ((v12.2).toNat) (List.replicate ((v12.1.length - (v12.2).toNat)) ((Ae.mk (([] : List Int)) (([] : List Int)) (([] : List Int))))))) rfl AM Ay (.none _) (.some _ _ _ _ c25.1) tv ⟨rfl, tv⟩ c25.2.1 (by rw [Nat.zero_add]; exact c25.2.2) (Nat.zero_add _) rfl ?_
      refine qa rfl (Ad ?_)
      obtain rfl := sj h
      refine Al (sm [] [(4, oD (.view 90000 3 0 ((v12.2).toNat)))] [(90000, .vec 3 ((H4 v12.1 ((v12.2).toNat) (List.replicate ((v12.1.length - (v12.2).toNat)) ((Ae.mk (([] : List Int)) (([] : List Int)) (([] : List Int)))))).map Af))] rfl rfl) (Az ?_)
      exact ⟨⟨[_], ⟨.tmp _ _ rfl, tv⟩, rfl⟩, ⟨rfl, tv⟩, tv⟩
    ·have h := An c8 h
     refine Aq (Aa Ac rfl (qm rfl (AY rfl (qa rfl (Ad ?_)))))
     exact Aw _ h (sm [] _ _ rfl rfl)
   ·have h := An c4 h
    refine AW ?_
    exact Aw _ h (sm [] _ _ rfl rfl)
  ·refine Al hs (Ab (Aa Ac rfl (qm rfl (qa rfl (Ad ?_)))))
   obtain rfl := sj h
   refine Al ((Pq Af p0 4 90000 3 rfl rfl).trans (sm [] [(4, oD (.view 90000 3 0 p0.length))] [(90000, .vec 3 (p0.map Af))] rfl rfl)) (Az ?_)
   exact ⟨⟨[_], ⟨.tmp _ _ rfl, tv⟩, rfl⟩, ⟨rfl, tv⟩, tv⟩
theorem MH (N : Nat) (p0 : Ae) (p1 : Ae) (r : Bool) (h : F9 N p0 p1 = some r) : AE Tryz.prog 41 [.e (.agg [sC (p0.fBase.map Ai), sC (p0.fNext.map Ai), sC (p0.fHeld.map Bg)]), .e (.agg [sC (p1.fBase.map Ai), sC (p1.fNext.map Ai), sC (p1.fHeld.map Bg)])] [] (bD r) := by
 unfold F9 at h
 refine Ar (n := 9) (rs := [.tmp 4]) Tryz.func41 rfl rfl rfl (A7 rfl) (A7 rfl) rfl fun w0 S0 => ?_
 refine Ab (Aa Ac rfl (qb rfl (qb rfl (qa rfl (Ad (Ab (Aa Ac rfl (qL A0 Ay rfl (qL A0 Ay rfl ?_)))))))))
 obtain ⟨v1, a1, h⟩ := bind_some h
 refine AH [] (IN N p0 p1 v1 a1) WQ rfl (BM rfl (qa rfl (Ad ?_)))
 obtain rfl := sj h
 refine Al (sm [] [(4, bD ((v1 == 0)))] [] rfl rfl) (Az ?_)
 exact ⟨⟨[_], ⟨.tmp _ _ rfl, tv⟩, rfl⟩, tv⟩
theorem Og (N : Nat) (p0 : Ag) (p1 : List Ak) (r : (List Ae) × Int) (h : Id N p0 p1 = some r) : AE Tryz.prog 11 [.e (.agg [sC (p0.fVersions.map Ai), sC (p0.fNow.map Ai), sC (p0.fTarget.map Ai), sC (p0.fTables.map Ao)]), pD (.sl (p1.map AL))] [(3, r.1.map Af)] (.tup [.one (.own 0), .one (iC r.2)]) := by
 unfold Id at h
 refine Ar (n := 47) (rs := [.tmp 4, .tmp 5]) Tryz.func11 rfl rfl rfl (A7 rfl) (A7 rfl) rfl fun w0 S0 => ?_
 refine Ab (Aa Ac rfl (qb rfl (qa rfl (qa rfl (Ad (Ab (Aa Ac rfl (qL Ee DQ rfl (qm rfl ?_)))))))))
 obtain ⟨v1, a1, h⟩ := bind_some h
 refine AH [2001] (Mh N p0 p1 v1 a1) Yn rfl (qm rfl (qx rfl (qx rfl (qx rfl (qa rfl (qa rfl (qa rfl (Ad (Ab (Ab (Aa Ac rfl (qm rfl (Cw rfl (Ad ?_))))))))))))))
 refine Ap rfl (fun c2 => ?_) (fun c2 => ?_)
 ·have h := Am c2 h
  refine Ab (Aa Ac rfl (qm rfl (qa rfl (qa rfl (Ad ?_)))))
  obtain rfl := sj h
  refine Al ((Bn 4 2002 3 rfl rfl rfl).trans (sm [(1000, 2002)] [(4, oD (.own 1000)), (5, iD v1.2.2)] [(1000, .vec 3 ((([] : List Ae)).map Af))] rfl rfl)) (Az ?_)
  exact ⟨⟨[_, _], ⟨.tmp _ _ rfl, ⟨.tmp _ _ rfl, tv⟩⟩, rfl⟩, ⟨rfl, tv⟩⟩
 ·have h := An c2 h
  refine Aq (Ab (Aa Ac rfl (qa rfl (Ad (Ab (Ab (Aa Ac rfl (qm rfl (Dh AM rfl (qm rfl (Ad ?_)))))))))))
  refine AK (L := FU N p0 v1) h (fun v3 => mk [(2, oD (.ptr 2 0)), (9, oD (.own 2003)), (24, oD (.own 2004)), (25, iD ((v1.1.length : Int))), (26, iD v3.2)] [(2, .box [sC (p0.fVersions.map Ai), sC (p0.fNow.map Ai), sC (p0.fTarget.map Ai), sC (p0.fTables.map Ao)]), (2003, .vec 3 (v3.1.map Af)), (2004, .vec 3 (v1.1.map Af))]) (fun v4 => mk [(9, oD (.own 2005))] [(2005, .vec 3 (v4.map Af))]) (fun _ _ => rfl) ((Bn 9 2008 3 rfl rfl rfl).trans (sm [(2003, 2008), (2004, 2001)] _ _ rfl rfl)) (fun j3 n3 v3 h => ?_) (fun v4 s h hs => ?_)
  ·unfold FU at h
   refine Ab (Aa Ac rfl (A1 rfl (Ad (Ab ?_))))
   refine Ap rfl (fun c5 => ?_) (fun c5 => ?_)
   ·have h := Am c5 h
    refine Aq (Ab (AR (Ab (Aa Ac rfl ?_))))
    obtain ⟨v6, a6, b6, h⟩ := Aj h
    refine qI AM Ay a6 (Ah b6) rfl (qJ A0 Ay (Ah b6) rfl (qz Cu rfl (qs Ay rfl (Ad (Ab (Aa Ac rfl (qL Ee DQ rfl (qL A0 Ay rfl ?_))))))))
    obtain ⟨v7, a7, h⟩ := bind_some h
    refine AH [2006] (K1 N p0 v6 v7 a7) X9 rfl (qm rfl (qx rfl (qx rfl (qa rfl (qa rfl (Ad (Ab (Ab (Aa Ac rfl (qm rfl (Cw rfl (Ad ?_))))))))))))
    refine Ap rfl (fun c8 => ?_) (fun c8 => ?_)
    ·have h := Am c8 h
     refine Ab (Aa Ac rfl (qm rfl (qa rfl (qa rfl (Ad ?_)))))
     obtain rfl := sj h
     refine Al ((Bn 4 2007 3 rfl rfl rfl).trans (sm [(1000, 2007)] [(4, oD (.own 1000)), (5, iD v7.2)] [(1000, .vec 3 ((([] : List Ae)).map Af))] rfl rfl)) (Az ?_)
     exact ⟨⟨[_, _], ⟨.tmp _ _ rfl, ⟨.tmp _ _ rfl, tv⟩⟩, rfl⟩, ⟨rfl, tv⟩⟩
    ·have h := An c8 h
     refine Aq (Aa Ac rfl (qm rfl (qm rfl ?_)))
     obtain ⟨c9, h⟩ := AN h
     refine Da (f := Af) AM AM Ay JN Cu c9 rfl (qa rfl (Ad (Aa Ac rfl (AY rfl (qm rfl (Ad ?_))))))
     exact Aw _ h (sm [(2003, 41)] _ _ rfl rfl)
   ·have h := An c5 h
    refine AW ?_
    exact Aw _ h (sm [(2005, 2003)] _ _ rfl rfl)
  ·refine Al hs (Ab (Aa Ac rfl (qm rfl ?_)))
   obtain ⟨v10, a10, h⟩ := bind_some h
   refine Dc (ds0 := [_, _]) [2005] [] [true] (BK.weak (ds' := [_, oD (.fnc 39)]) (EV N v4 ((fun (x : Ae × Ae) => CA N x.1 x.2)) v10 a10) ⟨(fun _ _ _ hh => hh), (fun _ _ _ hh => MT WQ (fun ar t ht => by obtain ⟨x, r, rfl, hq, rfl⟩ := IU ht; exact IN N x.1 x.2 r hq) hh), tv⟩) (.p rfl) XL rfl ⟨rfl, rfl, tv⟩ rfl rfl (by decide) ⟨rfl, tv⟩ rfl (Bo rfl) tv ⟨(fun h => by cases h), tv⟩ rfl rfl rfl ?_
   refine Ad (Ab (Aa Ac rfl (qm rfl ?_)))
   obtain ⟨v11, a11, h⟩ := bind_some h
   obtain ⟨c12, h⟩ := AN h
   have w13 : 0 + v11.1 ≤ v11.2.length := by rw [Nat.zero_add]; exact c12
   refine Dc (ds0 := [_, _]) [2005] [] [true] (BK.weak (ds' := [_, oD (.fnc 41)]) (Gk N v10 ((fun (x : Ae × Ae) => F9 N x.1 x.2)) v11 a11) ⟨(fun _ _ _ hh => hh), (fun _ _ _ hh => MT Zz (fun ar t ht => by obtain ⟨x, r, rfl, hq, rfl⟩ := IU ht; exact MH N x.1 x.2 r hq) hh), tv⟩) (.p rfl) YM rfl ⟨rfl, rfl, tv⟩ rfl rfl (by decide) ⟨rfl, tv⟩ rfl (Bo rfl) tv ⟨(fun h => by cases h), tv⟩ rfl rfl rfl ?_
   refine CL (Tb Af v11.2 46 2005 2009 3 v11.1 rfl rfl rfl rfl rfl c12) (qa rfl (qa rfl (Ad ?_)))
   obtain rfl := sj h
   refine Al (sm [(1000, 2009)] [(4, oD (.own 1000)), (5, iD 0)] [(1000, .vec 3 ((v11.2.take v11.1).map Af))] rfl rfl) (Az ?_)
   exact ⟨⟨[_, _], ⟨.tmp _ _ rfl, ⟨.tmp _ _ rfl, tv⟩⟩, rfl⟩, ⟨rfl, tv⟩⟩
theorem PH (N : Nat) (p0 : Ag) (p1 : List Ak) (r : Bool × Int) (h : IT N p0 p1 = some r) : AE Tryz.prog 14 [.e (.agg [sC (p0.fVersions.map Ai), sC (p0.fNow.map Ai), sC (p0.fTarget.map Ai), sC (p0.fTables.map Ao)]), pD (.sl (p1.map AL))] [] (.tup [.one (.pure (.val (.bool r.1))), .one (iC r.2)]) := by
 unfold IT at h
 refine Ar (n := 43) (rs := [.tmp 4, .tmp 5]) Tryz.func14 rfl rfl rfl (A7 rfl) (A7 rfl) rfl fun w0 S0 => ?_
 refine Ab (Aa Ac rfl (qb rfl (qa rfl (qa rfl (Ad (Ab (Aa Ac rfl (qL Ee DQ rfl (qm rfl ?_)))))))))
 obtain ⟨v1, a1, h⟩ := bind_some h
 refine AH [2001] (Mh N p0 p1 v1 a1) Yn rfl (qm rfl (qx rfl (qx rfl (qx rfl (qa rfl (qa rfl (qa rfl (Ad (Ab (Ab (Aa Ac rfl (qm rfl (Cw rfl (Ad ?_))))))))))))))
 refine Ap rfl (fun c2 => ?_) (fun c2 => ?_)
 ·have h := Am c2 h
  refine Ab (Aa Ac rfl (qm rfl (qa rfl (qa rfl (Ad ?_)))))
  obtain rfl := sj h
  refine Al (sm [] [(4, bD false), (5, iD v1.2.2)] [] rfl rfl) (Az ?_)
  exact ⟨⟨[_, _], ⟨.tmp _ _ rfl, ⟨.tmp _ _ rfl, tv⟩⟩, rfl⟩, tv⟩
 ·have h := An c2 h
  refine Aq (Ab (Ab (Aa Ac rfl (qm rfl (Dh AM rfl (qm rfl (Ad ?_)))))))
  refine AK (L := Gf N p0 v1) h (fun v3 => mk [(2, oD (.ptr 2 0)), (23, oD (.own 2002)), (24, iD ((v1.1.length : Int))), (25, iD v3)] [(2, .box [sC (p0.fVersions.map Ai), sC (p0.fNow.map Ai), sC (p0.fTarget.map Ai), sC (p0.fTables.map Ao)]), (2002, .vec 3 (v1.1.map Af))]) (fun v4 => mk [] []) (fun _ _ => rfl) (sm [(2002, 2001)] _ _ rfl rfl) (fun j3 n3 v3 h => ?_) (fun v4 s h hs => ?_)
  ·unfold Gf at h
   refine Ab (Aa Ac rfl (A1 rfl (Ad (Ab ?_))))
   refine Ap rfl (fun c5 => ?_) (fun c5 => ?_)
   ·have h := Am c5 h
    refine Aq (Ab (AR (Ab (Aa Ac rfl ?_))))
    obtain ⟨v6, a6, b6, h⟩ := Aj h
    refine qI AM Ay a6 (Ah b6) rfl (qJ A0 Ay (Ah b6) rfl (qz Cu rfl (qs Ay rfl (Ad (Ab (Aa Ac rfl (qL Ee DQ rfl (qL A0 Ay rfl ?_))))))))
    obtain ⟨v7, a7, h⟩ := bind_some h
    refine AH [] (Jn N p0 v6 v7 a7) WK rfl (qm rfl (qx rfl (qx rfl (qa rfl (qa rfl (Ad ?_))))))
    refine AU h (fun v8 => mk [(2, oD (.ptr 2 0)), (12, iD v7.2), (23, oD (.own 2003)), (24, iD ((v1.1.length : Int))), (25, iD v3), (40, bD v8)] [(2, .box [sC (p0.fVersions.map Ai), sC (p0.fNow.map Ai), sC (p0.fTarget.map Ai), sC (p0.fTables.map Ao)]), (2003, .vec 3 (v1.1.map Af))]) (fun j8 h => ?_) (fun v8 h => ?_)
    ·refine Aa Ac rfl (qm rfl (Cw rfl (qm rfl ?_)))
     refine AG (t := 37) rfl (fun c9 => ?_) (fun c9 => ?_)
     ·have h := Am c9 h
      refine qn rfl (qn rfl (qp rfl (Ad ?_)))
      exact Aw _ h (sm [(2003, 2002)] _ _ rfl rfl)
     ·have h := An c9 h
      refine qm rfl (B7 rfl (qp rfl (Ad ?_)))
      exact Aw _ h (sm [(2003, 2002)] _ _ rfl rfl)
    ·refine Ap rfl (fun c10 => ?_) (fun c10 => ?_)
     ·have h := Am c10 h
      refine Ab (Aa Ac rfl (qm rfl (qa rfl (qa rfl (Ad ?_)))))
      obtain rfl := sj h
      refine Al (sm [] [(4, bD false), (5, iD v7.2)] [] rfl rfl) (Az ?_)
      exact ⟨⟨[_, _], ⟨.tmp _ _ rfl, ⟨.tmp _ _ rfl, tv⟩⟩, rfl⟩, tv⟩
     ·have h := An c10 h
      refine Aq (Aa Ac rfl (AY rfl (qm rfl (Ad ?_))))
      exact Aw _ h (sm [(2002, 2003)] _ _ rfl rfl)
   ·have h := An c5 h
    refine AW ?_
    exact Aw _ h (sm [] _ _ rfl rfl)
  ·refine Al hs (Ab (Aa Ac rfl (qa rfl (qa rfl (Ad ?_)))))
   obtain rfl := sj h
   refine Al (sm [] [(4, bD true), (5, iD 0)] [] rfl rfl) (Az ?_)
   exact ⟨⟨[_, _], ⟨.tmp _ _ rfl, ⟨.tmp _ _ rfl, tv⟩⟩, rfl⟩, tv⟩
theorem HU (N : Nat) (r : Bool) (h : DE N = some r) : AE Tryz.prog 10 [] [] (bD r) := by
 unfold DE at h
 refine Ar (n := 84) (rs := [.tmp 0]) Tryz.func10 rfl rfl rfl (A7 rfl) (A7 rfl) rfl fun w0 S0 => ?_
 refine Ab (Aa Ac rfl (qa rfl (Ad (Ab (Aa Ac rfl ?_)))))
 obtain ⟨v1, a1, h⟩ := bind_some h
 refine AH [2001, 2002, 2003, 2004] (D9 N false v1 a1) Tj rfl (CL (A4 2001 _ _ rfl rfl) (CL (A4 2002 _ _ rfl rfl) (CL (A4 2003 _ _ rfl rfl) (CL (A4 2004 _ _ rfl rfl) ?_))))
 obtain ⟨v2, a2, h⟩ := bind_some h
 refine AH [2005] (Io N v1 v2 a2) WJ rfl (qm rfl (qx rfl (qx rfl (qa rfl (qa rfl (Ad (Ab (Aa Ac rfl ?_))))))))
 obtain ⟨v3, a3, h⟩ := bind_some h
 refine AH [2006, 2007, 2008, 2009] (D9 N true v3 a3) Tj rfl (CL (A4 2006 _ _ rfl rfl) (CL (A4 2007 _ _ rfl rfl) (CL (A4 2008 _ _ rfl rfl) (CL (A4 2009 _ _ rfl rfl) ?_))))
 obtain ⟨v4, a4, h⟩ := bind_some h
 refine AH [2010] (Io N v3 v4 a4) WJ rfl (qm rfl (qx rfl (qx rfl (qa rfl (qa rfl (Ad (Ab (Aa Ac rfl ?_))))))))
 obtain ⟨v5, a5, h⟩ := bind_some h
 refine AH [2011, 2012, 2013, 2014] (D9 N false v5 a5) Tj rfl (D6 IA V1 Yx rfl ?_)
 obtain ⟨v6, a6, h⟩ := bind_some h
 refine FT [2015] [2011, 2012, 2013, 2014, 24] (Pi N v5 (([1, 2, 3] : List Int)) v6 a6) Y0 (Nq (fun _ => rfl) Ex) rfl (qm rfl (qx rfl (qx rfl (qa rfl (qa rfl (Ad (Ab (Aa Ac rfl (BO HO Tk rfl (D6 Do Ej HO rfl (qa rfl (Ad (Ab (Aa Ac rfl ?_))))))))))))))
 obtain ⟨v7, a7, h⟩ := bind_some h
 refine AH [2016, 2017, 2018, 2019] (D9 N false v7 a7) Tj rfl (qm rfl (CL (A4 2016 _ _ rfl rfl) (CL (A4 2017 _ _ rfl rfl) (CL (A4 2018 _ _ rfl rfl) (CL (A4 2019 _ _ rfl rfl) (CL (A4 29 _ _ rfl rfl) ?_))))))
 obtain ⟨v8, a8, h⟩ := bind_some h
 refine AH [2020] (Og N v7 (([(Ak.mk 1 0 1)] : List Ak)) v8 a8) YX rfl (qm rfl (qx rfl (qx rfl (qa rfl (qa rfl (Ad (Ab (Aa Ac rfl ?_))))))))
 obtain ⟨v9, a9, h⟩ := bind_some h
 refine AH [2021, 2022, 2023, 2024] (D9 N false v9 a9) Tj rfl (qm rfl ?_)
 obtain ⟨v10, a10, h⟩ := bind_some h
 refine FT [] [2021, 2022, 2023, 2024] (PH N v9 (([(Ak.mk 1 0 1)] : List Ak)) v10 a10) YW Ex rfl (qm rfl (qx rfl (qx rfl (qa rfl (qa rfl (Ad ?_))))))
 refine AU h (fun v11 => mk [(0, bD v11)] []) (fun j11 h => ?_) (fun v11 h => ?_)
 ·refine Aa Ac rfl (qm rfl (BM rfl (qm rfl ?_)))
  refine AG (t := 44) rfl (fun c12 => ?_) (fun c12 => ?_)
  ·have h := Am c12 h
   refine qm rfl (BM rfl (qp rfl (qm rfl ?_)))
   refine AG (t := 48) rfl (fun c13 => ?_) (fun c13 => ?_)
   ·have h := Am c13 h
    refine qm rfl (BM rfl (qp rfl (qm rfl ?_)))
    refine AG (t := 52) rfl (fun c14 => ?_) (fun c14 => ?_)
    ·have h := Am c14 h
     refine qm rfl (BM rfl (qp rfl (qm rfl ?_)))
     refine AG (t := 56) rfl (fun c15 => ?_) (fun c15 => ?_)
     ·have h := Am c15 h
      refine qm rfl (BM rfl (qp rfl (qm rfl ?_)))
      refine AG (t := 60) rfl (fun c16 => ?_) (fun c16 => ?_)
      ·have h := Am c16 h
       refine qm rfl (Dh AM rfl (BM rfl (qp rfl (qm rfl ?_))))
       refine AG (t := 65) rfl (fun c17 => ?_) (fun c17 => ?_)
       ·have h := Am c17 h
        refine qm rfl (Dh AM rfl (BM rfl (qp rfl (qm rfl ?_))))
        refine AG (t := 70) rfl (fun c18 => ?_) (fun c18 => ?_)
        ·have h := Am c18 h
         refine qm rfl (Dh Do rfl (BM rfl (qp rfl (qm rfl ?_))))
         refine AG (t := 75) rfl (fun c19 => ?_) (fun c19 => ?_)
         ·have h := Am c19 h
          refine qm rfl (Dh AM rfl (BM rfl (qp rfl (qm rfl ?_))))
          refine AG (t := 80) rfl (fun c20 => ?_) (fun c20 => ?_)
          ·have h := Am c20 h
           refine qm rfl (B7 rfl (qp rfl (qa rfl (Ad ?_))))
           exact Aw _ h (sm [] _ _ rfl rfl)
          ·have h := An c20 h
           refine qn rfl (qn rfl (qp rfl (qa rfl (Ad ?_))))
           exact Aw _ h (sm [] _ _ rfl rfl)
         ·have h := An c19 h
          refine qn rfl (qn rfl (qn rfl (qp rfl (qm rfl (qn rfl (qn rfl (qp rfl (qa rfl (Ad ?_)))))))))
          exact Aw _ h (sm [] _ _ rfl rfl)
        ·have h := An c18 h
         refine qn rfl (qn rfl (qn rfl (qp rfl (qm rfl (qn rfl (qn rfl (qn rfl (qp rfl (qm rfl (qn rfl (qn rfl (qp rfl (qa rfl (Ad ?_))))))))))))))
         exact Aw _ h (sm [] _ _ rfl rfl)
       ·have h := An c17 h
        refine qn rfl (qn rfl (qn rfl (qp rfl (qm rfl (qn rfl (qn rfl (qn rfl (qp rfl (qm rfl (qn rfl (qn rfl (qn rfl (qp rfl (qm rfl (qn rfl (qn rfl (qp rfl (qa rfl (Ad ?_)))))))))))))))))))
        exact Aw _ h (sm [] _ _ rfl rfl)
      ·have h := An c16 h
       refine qn rfl (qn rfl (qn rfl (qp rfl (qm rfl (qn rfl (qn rfl (qn rfl (qp rfl (qm rfl (qn rfl (qn rfl (qn rfl (qp rfl (qm rfl (qn rfl (qn rfl (qn rfl (qp rfl (qm rfl (qn rfl (qn rfl (qp rfl (qa rfl (Ad ?_))))))))))))))))))))))))
       exact Aw _ h (sm [] _ _ rfl rfl)
     ·have h := An c15 h
      refine qn rfl (qn rfl (qp rfl (qm rfl (qn rfl (qn rfl (qn rfl (qp rfl (qm rfl (qn rfl (qn rfl (qn rfl (qp rfl (qm rfl (qn rfl (qn rfl (qn rfl (qp rfl (qm rfl (qn rfl (qn rfl (qn rfl (qp rfl (qm rfl (qn rfl (qn rfl (qp rfl (qa rfl (Ad ?_))))))))))))))))))))))))))))
      exact Aw _ h (sm [] _ _ rfl rfl)
    ·have h := An c14 h
     refine qn rfl (qn rfl (qp rfl (qm rfl (qn rfl (qn rfl (qp rfl (qm rfl (qn rfl (qn rfl (qn rfl (qp rfl (qm rfl (qn rfl (qn rfl (qn rfl (qp rfl (qm rfl (qn rfl (qn rfl (qn rfl (qp rfl (qm rfl (qn rfl (qn rfl (qn rfl (qp rfl (qm rfl (qn rfl (qn rfl (qp rfl (qa rfl (Ad ?_))))))))))))))))))))))))))))))))
     exact Aw _ h (sm [] _ _ rfl rfl)
   ·have h := An c13 h
    refine qn rfl (qn rfl (qp rfl (qm rfl (qn rfl (qn rfl (qp rfl (qm rfl (qn rfl (qn rfl (qp rfl (qm rfl (qn rfl (qn rfl (qn rfl (qp rfl (qm rfl (qn rfl (qn rfl (qn rfl (qp rfl (qm rfl (qn rfl (qn rfl (qn rfl (qp rfl (qm rfl (qn rfl (qn rfl (qn rfl (qp rfl (qm rfl (qn rfl (qn rfl (qp rfl (qa rfl (Ad ?_))))))))))))))))))))))))))))))))))))
    exact Aw _ h (sm [] _ _ rfl rfl)
  ·have h := An c12 h
   refine qn rfl (qn rfl (qp rfl (qm rfl (qn rfl (qn rfl (qp rfl (qm rfl (qn rfl (qn rfl (qp rfl (qm rfl (qn rfl (qn rfl (qp rfl (qm rfl (qn rfl (qn rfl (qn rfl (qp rfl (qm rfl (qn rfl (qn rfl (qn rfl (qp rfl (qm rfl (qn rfl (qn rfl (qn rfl (qp rfl (qm rfl (qn rfl (qn rfl (qn rfl (qp rfl (qm rfl (qn rfl (qn rfl (qp rfl (qa rfl ?_)))))))))))))))))))))))))))))))))))))))
   refine Ad ?_
   exact Aw _ h (sm [] _ _ rfl rfl)
 ·obtain rfl := sj h
  refine Al (sm [] [(0, bD v11)] [] rfl rfl) (Az ?_)
  exact ⟨⟨[_], ⟨.tmp _ _ rfl, tv⟩, rfl⟩, tv⟩
theorem HF (N : Nat) (p0 : List (List Bool)) (p1 : Int) (p2 : Int) (r : Bool) (h : Dt N p0 p1 p2 = some r) : AE Tryz.prog 99 [pD (.sl (p0.map (EN eB))), iD p1, iD p2] [] (bD r) := by
 unfold Dt at h
 refine Ar (n := 24) (rs := [.tmp 6]) Tryz.func99 rfl rfl rfl (A7 rfl) (A7 rfl) rfl fun w0 S0 => ?_
 refine Ab (Aa Ac rfl (qa rfl (Ad (Ab (Ab (Aa Ac rfl (qm rfl (AZ Gg rfl (qm rfl (Cw rfl (Ad ?_)))))))))))
 refine Ap rfl (fun c1 => ?_) (fun c1 => ?_)
 ·have h := Am c1 h
  refine Ab (Aa Ac rfl (qa rfl (Ad ?_)))
  obtain rfl := sj h
  refine Al (sm [] [(6, bD false)] [] rfl rfl) (Az ?_)
  exact ⟨⟨[_], ⟨.tmp _ _ rfl, tv⟩, rfl⟩, tv⟩
 ·have h := An c1 h
  refine Aq (Ab (Ab (Aa Ac rfl (qa rfl (Ad ?_)))))
  refine AK (L := Cp N p0 p1 p2) h (fun v2 => mk [(0, pD (.sl (p0.map (EN eB)))), (1, iD p1), (2, iD p2), (7, iD v2)] []) (fun v3 => mk [] []) (fun _ _ => rfl) (sm [] _ _ rfl rfl) (fun j2 n2 v2 h => ?_) (fun v3 s h hs => ?_)
  ·unfold Cp at h
   refine Ab (Ab (Aa Ac rfl (qm rfl (qm rfl (A1 rfl (Ad ?_))))))
   refine Ap rfl (fun c4 => ?_) (fun c4 => ?_)
   ·have h := Am c4 h
    refine Aq (Ab (AR (Ab (Aa Ac rfl (qm rfl (qm rfl ?_))))))
    obtain ⟨v5, a5, b5, h⟩ := Aj h
    refine qi Gg Jz a5 (Ah b5) rfl (qk K0 rfl (AZ Fe rfl (qm rfl (Cw rfl (Ad ?_)))))
    refine Ap rfl (fun c6 => ?_) (fun c6 => ?_)
    ·have h := Am c6 h
     refine Ab (Aa Ac rfl (qa rfl (Ad ?_)))
     obtain rfl := sj h
     refine Al (sm [] [(6, bD false)] [] rfl rfl) (Az ?_)
     exact ⟨⟨[_], ⟨.tmp _ _ rfl, tv⟩, rfl⟩, tv⟩
    ·have h := An c6 h
     refine Aq (Aa Ac rfl (qm rfl (AY rfl (qa rfl (Ad ?_)))))
     exact Aw _ h (sm [] _ _ rfl rfl)
   ·have h := An c4 h
    refine AW ?_
    exact Aw _ h (sm [] _ _ rfl rfl)
  ·refine Al hs (Ab (Aa Ac rfl (qa rfl (Ad ?_))))
   obtain rfl := sj h
   refine Al (sm [] [(6, bD true)] [] rfl rfl) (Az ?_)
   exact ⟨⟨[_], ⟨.tmp _ _ rfl, tv⟩, rfl⟩, tv⟩
theorem Ki (N : Nat) (p0 : Ag) (p1 : AI) (r : Int) (h : El N p0 p1 = some r) : AE Tryz.prog 72 [.e (.agg [sC (p0.fVersions.map Ai), sC (p0.fNow.map Ai), sC (p0.fTarget.map Ai), sC (p0.fTables.map Ao)]), .e (.agg [iC p1.fKind, iC p1.fFrom, iC p1.fTo, .pure (.val (.bool p1.fAware)), sC (p1.fOK.map (EN eB)), sC (p1.fRewrite.map (EN eB))])] [] (iD r) := by
 unfold El at h
 refine Ar (n := 101) (rs := [.tmp 4]) Tryz.func72 rfl rfl rfl (A7 rfl) (A7 rfl) rfl fun w0 S0 => ?_
 refine Ab (Aa Ac rfl (qb rfl (qb rfl (qa rfl (Ad (Ab ?_))))))
 refine AU h (fun v1 => mk [(2, oD (.ptr 2 0)), (3, oD (.ptr 3 0)), (22, bD v1)] [(2, .box [sC (p0.fVersions.map Ai), sC (p0.fNow.map Ai), sC (p0.fTarget.map Ai), sC (p0.fTables.map Ao)]), (3, .box [iC p1.fKind, iC p1.fFrom, iC p1.fTo, .pure (.val (.bool p1.fAware)), sC (p1.fOK.map (EN eB)), sC (p1.fRewrite.map (EN eB))])]) (fun j1 h => ?_) (fun v1 h => ?_)
 ·refine Aa Ac rfl (qf FV rfl (ql Cs rfl (A1 rfl (qm rfl ?_))))
  refine AG (t := 10) rfl (fun c2 => ?_) (fun c2 => ?_)
  ·have h := Am c2 h
   refine qn rfl (qn rfl (qn rfl (qp rfl (qm rfl (qn rfl (qn rfl (qn rfl (qu rfl (qu rfl (qn rfl (qp rfl (Ad ?_))))))))))))
   exact Aw _ h (sm [] _ _ rfl rfl)
  ·have h := An c2 h
   refine qf FV rfl (ql Cs rfl (Fh rfl (qp rfl (qm rfl ?_))))
   refine AG (t := 15) rfl (fun c3 => ?_) (fun c3 => ?_)
   ·have h := Am c3 h
    refine qn rfl (qn rfl (qn rfl (qu rfl (qu rfl (qn rfl (qp rfl (Ad ?_)))))))
    exact Aw _ h (sm [] _ _ rfl rfl)
   ·have h := An c3 h
    refine qf IF rfl (ql Sx rfl (qm rfl ?_))
    refine AG (t := 18) rfl (fun c4 => ?_) (fun c4 => ?_)
    ·have h := Am c4 h
     refine qL Hn Eb rfl ?_
     obtain ⟨v5, a5, h⟩ := bind_some h
     refine AH [] (Cm N p1 v5 a5) P5 rfl (qp rfl (qp rfl (Ad ?_)))
     exact Aw _ h (sm [] _ _ rfl rfl)
    ·have h := An c4 h
     refine qn rfl (qn rfl (qp rfl (qp rfl (Ad ?_))))
     exact Aw _ h (sm [] _ _ rfl rfl)
 ·refine Ap rfl (fun c6 => ?_) (fun c6 => ?_)
  ·have h := Am c6 h
   refine Ab (Aa Ac rfl (qa rfl (Ad ?_)))
   obtain rfl := sj h
   refine Al (sm [] [(4, iD 1)] [] rfl rfl) (Az ?_)
   exact ⟨⟨[_], ⟨.tmp _ _ rfl, tv⟩, rfl⟩, tv⟩
  ·have h := An c6 h
   refine Aq (Ab (Aa Ac rfl (qf BB rfl (ql Bh rfl (AZ AJ rfl (qa rfl (Ad (Ab ?_))))))))
   refine AU h (fun v7 => mk [(2, oD (.ptr 2 0)), (3, oD (.ptr 3 0)), (45, bD v7)] [(2, .box [sC (p0.fVersions.map Ai), sC (p0.fNow.map Ai), sC (p0.fTarget.map Ai), sC (p0.fTables.map Ao)]), (3, .box [iC p1.fKind, iC p1.fFrom, iC p1.fTo, .pure (.val (.bool p1.fAware)), sC (p1.fOK.map (EN eB)), sC (p1.fRewrite.map (EN eB))])]) (fun j7 h => ?_) (fun v7 h => ?_)
   ·refine Aa Ac rfl (qf Db rfl (ql Cs rfl (A1 rfl (qm rfl ?_))))
    refine AG (t := 29) rfl (fun c8 => ?_) (fun c8 => ?_)
    ·have h := Am c8 h
     refine qn rfl (qn rfl (qn rfl (qn rfl (qp rfl (qm rfl (qn rfl (qn rfl (qn rfl (qp rfl (qm rfl (qn rfl (qn rfl (qn rfl (qn rfl (qp rfl (Ad ?_))))))))))))))))
     exact Aw _ h (sm [] _ _ rfl rfl)
    ·have h := An c8 h
     refine qf Db rfl (ql Cs rfl (qm rfl (Dz rfl (qp rfl (qm rfl ?_)))))
     refine AG (t := 35) rfl (fun c9 => ?_) (fun c9 => ?_)
     ·have h := Am c9 h
      refine qn rfl (qn rfl (qn rfl (qp rfl (qm rfl (qn rfl (qn rfl (qn rfl (qn rfl (qp rfl (Ad ?_))))))))))
      exact Aw _ h (sm [] _ _ rfl rfl)
     ·have h := An c9 h
      refine qf H2 rfl (ql Cs rfl (A1 rfl (qp rfl (qm rfl ?_))))
      refine AG (t := 40) rfl (fun c10 => ?_) (fun c10 => ?_)
      ·have h := Am c10 h
       refine qn rfl (qn rfl (qn rfl (qn rfl (qp rfl (Ad ?_)))))
       exact Aw _ h (sm [] _ _ rfl rfl)
      ·have h := An c10 h
       refine qf H2 rfl (ql Cs rfl (qm rfl (Dz rfl (qp rfl (Ad ?_)))))
       exact Aw _ h (sm [] _ _ rfl rfl)
   ·refine Ap rfl (fun c11 => ?_) (fun c11 => ?_)
    ·have h := Am c11 h
     refine Ab (Aa Ac rfl (qa rfl (Ad ?_)))
     obtain rfl := sj h
     refine Al (sm [] [(4, iD 4)] [] rfl rfl) (Az ?_)
     exact ⟨⟨[_], ⟨.tmp _ _ rfl, tv⟩, rfl⟩, tv⟩
    ·have h := An c11 h
     refine Aq (Ab (Ab (Aa Ac rfl (qf Jv rfl (ql JL rfl (qf BB rfl (ql Bh rfl (qf Db rfl (ql Cs rfl ?_)))))))))
     obtain ⟨v12, a12, b12, h⟩ := Aj h
     refine qi AJ DA a12 (Ah b12) rfl (qk Cs rfl (qf BB rfl (ql Bh rfl (qf H2 rfl (ql Cs rfl ?_)))))
     obtain ⟨v13, a13, b13, h⟩ := Aj h
     refine qi AJ DA a13 (Ah b13) rfl (qk Cs rfl ?_)
     obtain ⟨v14, a14, h⟩ := bind_some h
     refine AH [] (HF N p1.fOK v12 v13 v14 a14) XD rfl (B7 rfl (AQ (by kernel_rfl) ?_))
     refine Ap rfl (fun c15 => ?_) (fun c15 => ?_)
     ·have h := Am c15 h
      refine Ab (Aa Ac rfl (qa rfl (Ad ?_)))
      obtain rfl := sj h
      refine Al (sm [] [(4, iD 6)] [] rfl rfl) (Az ?_)
      exact ⟨⟨[_], ⟨.tmp _ _ rfl, tv⟩, rfl⟩, tv⟩
     ·have h := An c15 h
      refine Aq (Ab (Ab (Aa Ac rfl (qf FV rfl (ql Cs rfl (Cw rfl (Ad ?_)))))))
      refine Ap rfl (fun c16 => ?_) (fun c16 => ?_)
      ·have h := Am c16 h
       refine Ab (Ab (Aa Ac rfl (qf GC rfl (ql JL rfl (AZ Gg rfl (Cw rfl (Ad ?_)))))))
       refine Ap rfl (fun c17 => ?_) (fun c17 => ?_)
       ·have h := Am c17 h
        refine Ab (Aa Ac rfl (qa rfl (Ad ?_)))
        obtain rfl := sj h
        refine Al (sm [] [(4, iD 6)] [] rfl rfl) (Az ?_)
        exact ⟨⟨[_], ⟨.tmp _ _ rfl, tv⟩, rfl⟩, tv⟩
       ·have h := An c17 h
        refine Aq (Ab (Aa Ac rfl (qa rfl (Ad ?_))))
        obtain rfl := sj h
        refine Al (sm [] [(4, iD 0)] [] rfl rfl) (Az ?_)
        exact ⟨⟨[_], ⟨.tmp _ _ rfl, tv⟩, rfl⟩, tv⟩
      ·have h := An c16 h
       refine Aq (Ab (Ab (Aa Ac rfl (qf GC rfl (ql JL rfl (qf BB rfl (ql Bh rfl (qf Db rfl (ql Cs rfl ?_)))))))))
       obtain ⟨v18, a18, b18, h⟩ := Aj h
       refine qi AJ DA a18 (Ah b18) rfl (qk Cs rfl (qf BB rfl (ql Bh rfl (qf Db rfl (ql Cs rfl ?_)))))
       obtain ⟨v19, a19, b19, h⟩ := Aj h
       refine qi AJ DA a19 (Ah b19) rfl (qk Cs rfl ?_)
       obtain ⟨v20, a20, h⟩ := bind_some h
       refine AH [] (HF N p1.fRewrite v18 v19 v20 a20) XD rfl (B7 rfl (AQ (by kernel_rfl) ?_))
       refine Ap rfl (fun c21 => ?_) (fun c21 => ?_)
       ·have h := Am c21 h
        refine Ab (Aa Ac rfl (qa rfl (Ad ?_)))
        obtain rfl := sj h
        refine Al (sm [] [(4, iD 6)] [] rfl rfl) (Az ?_)
        exact ⟨⟨[_], ⟨.tmp _ _ rfl, tv⟩, rfl⟩, tv⟩
       ·have h := An c21 h
        refine Aq (Ab (Ab (Aa Ac rfl (qa rfl (Ad ?_)))))
        refine AK (L := BY N p1) h (fun v22 => mk [(3, oD (.ptr 3 0)), (6, iD v22)] [(3, .box [iC p1.fKind, iC p1.fFrom, iC p1.fTo, .pure (.val (.bool p1.fAware)), sC (p1.fOK.map (EN eB)), sC (p1.fRewrite.map (EN eB))])]) (fun v23 => mk [] []) (fun _ _ => rfl) (sm [] _ _ rfl rfl) (fun j22 n22 v22 h => ?_) (fun v23 s h hs => ?_)
        ·unfold BY at h
         refine Ab (Ab (Aa Ac rfl (qm rfl (qf GC rfl (ql JL rfl (AZ Gg rfl (A1 rfl (Ad ?_))))))))
         refine Ap rfl (fun c24 => ?_) (fun c24 => ?_)
         ·have h := Am c24 h
          refine Aq (Ab (AR (Ab (Aa Ac rfl (qf GC rfl (ql JL rfl (qm rfl ?_)))))))
          obtain ⟨v25, a25, b25, h⟩ := Aj h
          refine qi Gg Jz a25 (Ah b25) rfl (qk K0 rfl (qm rfl ?_))
          obtain ⟨v26, a26, b26, h⟩ := Aj h
          refine qi Fe QC a26 (Ah b26) rfl (qk Sx rfl (B7 rfl (Ad ?_)))
          refine Ap rfl (fun c27 => ?_) (fun c27 => ?_)
          ·have h := Am c27 h
           refine Ab (Aa Ac rfl (qa rfl (Ad ?_)))
           obtain rfl := sj h
           refine Al (sm [] [(4, iD 1)] [] rfl rfl) (Az ?_)
           exact ⟨⟨[_], ⟨.tmp _ _ rfl, tv⟩, rfl⟩, tv⟩
          ·have h := An c27 h
           refine Aq (Aa Ac rfl (qm rfl (AY rfl (qa rfl (Ad ?_)))))
           exact Aw _ h (sm [] _ _ rfl rfl)
         ·have h := An c24 h
          refine AW ?_
          exact Aw _ h (sm [] _ _ rfl rfl)
        ·refine Al hs (Ab (Aa Ac rfl (qa rfl (Ad ?_))))
         obtain rfl := sj h
         refine Al (sm [] [(4, iD 0)] [] rfl rfl) (Az ?_)
         exact ⟨⟨[_], ⟨.tmp _ _ rfl, tv⟩, rfl⟩, tv⟩
theorem F0 (N : Nat) (p0 : Ag) (r : Int) (h : Ct N p0 = some r) : AE Tryz.prog 50 [.e (.agg [sC (p0.fVersions.map Ai), sC (p0.fNow.map Ai), sC (p0.fTarget.map Ai), sC (p0.fTables.map Ao)])] [] (iD r) := by
 unfold Ct at h
 refine Ar (n := 102) (rs := [.tmp 2]) Tryz.func50 rfl rfl rfl (A7 rfl) (A7 rfl) rfl fun w0 S0 => ?_
 refine Ab (Aa Ac rfl (qb rfl (qa rfl (Ad (Ab ?_)))))
 refine AU h (fun v1 => mk [(1, oD (.ptr 1 0)), (16, bD v1)] [(1, .box [sC (p0.fVersions.map Ai), sC (p0.fNow.map Ai), sC (p0.fTarget.map Ai), sC (p0.fTables.map Ao)])]) (fun j1 h => ?_) (fun v1 h => ?_)
 ·refine Aa Ac rfl (qf BB rfl (ql Bh rfl (AZ AJ rfl (Fh rfl (qm rfl ?_)))))
  refine AG (t := 11) rfl (fun c2 => ?_) (fun c2 => ?_)
  ·have h := Am c2 h
   refine qn rfl (qn rfl (qn rfl (qn rfl (qp rfl (Ad ?_)))))
   exact Aw _ h (sm [] _ _ rfl rfl)
  ·have h := An c2 h
   refine qf CO rfl (ql He rfl (AZ Ed rfl (Fh rfl (qp rfl (Ad ?_)))))
   exact Aw _ h (sm [] _ _ rfl rfl)
 ·refine Ap rfl (fun c3 => ?_) (fun c3 => ?_)
  ·have h := Am c3 h
   refine Ab (Aa Ac rfl (qa rfl (Ad ?_)))
   obtain rfl := sj h
   refine Al (sm [] [(2, iD 3)] [] rfl rfl) (Az ?_)
   exact ⟨⟨[_], ⟨.tmp _ _ rfl, tv⟩, rfl⟩, tv⟩
  ·have h := An c3 h
   refine Aq (Ab ?_)
   refine AU h (fun v4 => mk [(1, oD (.ptr 1 0)), (32, bD v4)] [(1, .box [sC (p0.fVersions.map Ai), sC (p0.fNow.map Ai), sC (p0.fTarget.map Ai), sC (p0.fTables.map Ao)])]) (fun j4 h => ?_) (fun v4 h => ?_)
   ·refine Aa Ac rfl (qf GE rfl (ql Bh rfl (AZ AJ rfl (qf BB rfl (ql Bh rfl (AZ AJ rfl (Cw rfl (qm rfl ?_))))))))
    refine AG (t := 24) rfl (fun c5 => ?_) (fun c5 => ?_)
    ·have h := Am c5 h
     refine qn rfl (qn rfl (qn rfl (qn rfl (qn rfl (qn rfl (qn rfl (qp rfl (Ad ?_))))))))
     exact Aw _ h (sm [] _ _ rfl rfl)
    ·have h := An c5 h
     refine qf Je rfl (ql Bh rfl (AZ AJ rfl (qf BB rfl (ql Bh rfl (AZ AJ rfl (Cw rfl (qp rfl (Ad ?_))))))))
     exact Aw _ h (sm [] _ _ rfl rfl)
   ·refine Ap rfl (fun c6 => ?_) (fun c6 => ?_)
    ·have h := Am c6 h
     refine Ab (Aa Ac rfl (qa rfl (Ad ?_)))
     obtain rfl := sj h
     refine Al (sm [] [(2, iD 6)] [] rfl rfl) (Az ?_)
     exact ⟨⟨[_], ⟨.tmp _ _ rfl, tv⟩, rfl⟩, tv⟩
    ·have h := An c6 h
     refine Aq (Ab (Ab (Aa Ac rfl (qa rfl (Ad ?_)))))
     refine AK (L := Bq N p0) h (fun v7 => mk [(1, oD (.ptr 1 0)), (3, iD v7)] [(1, .box [sC (p0.fVersions.map Ai), sC (p0.fNow.map Ai), sC (p0.fTarget.map Ai), sC (p0.fTables.map Ao)])]) (fun v8 => mk [(1, oD (.ptr 1 0))] [(1, .box [sC (p0.fVersions.map Ai), sC (p0.fNow.map Ai), sC (p0.fTarget.map Ai), sC (p0.fTables.map Ao)])]) (fun _ _ => rfl) (sm [] _ _ rfl rfl) (fun j7 n7 v7 h => ?_) (fun v8 s h hs => ?_)
     ·unfold Bq at h
      refine Ab (Ab (Aa Ac rfl (qm rfl (qf BB rfl (ql Bh rfl (AZ AJ rfl (A1 rfl (Ad ?_))))))))
      refine Ap rfl (fun c9 => ?_) (fun c9 => ?_)
      ·have h := Am c9 h
       refine Aq (Ab (AR (Ab (Aa Ac rfl (qf BB rfl (ql Bh rfl (qm rfl ?_)))))))
       obtain ⟨v10, a10, b10, h⟩ := Aj h
       refine qi AJ DA a10 (Ah b10) rfl (qk Cs rfl (qa rfl (Ad ?_)))
       refine AU h (fun v11 => mk [(1, oD (.ptr 1 0)), (3, iD v7), (84, bD v11)] [(1, .box [sC (p0.fVersions.map Ai), sC (p0.fNow.map Ai), sC (p0.fTarget.map Ai), sC (p0.fTables.map Ao)])]) (fun j11 h => ?_) (fun v11 h => ?_)
       ·refine Aa Ac rfl (qm rfl (A1 rfl (qm rfl ?_)))
        refine AG (t := 47) rfl (fun c12 => ?_) (fun c12 => ?_)
        ·have h := Am c12 h
         refine qn rfl (qn rfl (qp rfl (qm rfl (qn rfl (qn rfl (qn rfl (qn rfl (qn rfl (qn rfl (qp rfl (qm rfl (qn rfl (qn rfl (qn rfl (qn rfl (qn rfl (qn rfl (qn rfl (qp rfl (qm rfl (qn rfl (qn rfl (qn rfl (qn rfl (qn rfl (qn rfl (qp rfl (qm rfl (qn rfl (qn rfl (qn rfl (qn rfl (qn rfl (qn rfl (qn rfl (qp rfl (Ad ?_)))))))))))))))))))))))))))))))))))))
         exact Aw _ h (sm [] _ _ rfl rfl)
        ·have h := An c12 h
         refine qm rfl (Fh rfl (qp rfl (qm rfl ?_)))
         refine AG (t := 51) rfl (fun c13 => ?_) (fun c13 => ?_)
         ·have h := Am c13 h
          refine qn rfl (qn rfl (qn rfl (qn rfl (qn rfl (qn rfl (qp rfl (qm rfl (qn rfl (qn rfl (qn rfl (qn rfl (qn rfl (qn rfl (qn rfl (qp rfl (qm rfl (qn rfl (qn rfl (qn rfl (qn rfl (qn rfl (qn rfl (qp rfl (qm rfl (qn rfl (qn rfl (qn rfl (qn rfl (qn rfl (qn rfl (qn rfl (qp rfl (Ad ?_)))))))))))))))))))))))))))))))))
          exact Aw _ h (sm [] _ _ rfl rfl)
         ·have h := An c13 h
          refine qf GE rfl (ql Bh rfl (qm rfl ?_))
          obtain ⟨v14, a14, b14, h⟩ := Aj h
          refine qi AJ DA a14 (Ah b14) rfl (qk Cs rfl (A1 rfl (qp rfl (qm rfl ?_))))
          refine AG (t := 59) rfl (fun c15 => ?_) (fun c15 => ?_)
          ·have h := Am c15 h
           refine qn rfl (qn rfl (qn rfl (qn rfl (qn rfl (qn rfl (qn rfl (qp rfl (qm rfl (qn rfl (qn rfl (qn rfl (qn rfl (qn rfl (qn rfl (qp rfl (qm rfl (qn rfl (qn rfl (qn rfl (qn rfl (qn rfl (qn rfl (qn rfl (qp rfl (Ad ?_)))))))))))))))))))))))))
           exact Aw _ h (sm [] _ _ rfl rfl)
          ·have h := An c15 h
           refine qf GE rfl (ql Bh rfl (qm rfl ?_))
           obtain ⟨v16, a16, b16, h⟩ := Aj h
           refine qi AJ DA a16 (Ah b16) rfl (qk Cs rfl (qm rfl (Dz rfl (qp rfl (qm rfl ?_)))))
           refine AG (t := 68) rfl (fun c17 => ?_) (fun c17 => ?_)
           ·have h := Am c17 h
            refine qn rfl (qn rfl (qn rfl (qn rfl (qn rfl (qn rfl (qp rfl (qm rfl (qn rfl (qn rfl (qn rfl (qn rfl (qn rfl (qn rfl (qn rfl (qp rfl (Ad ?_))))))))))))))))
            exact Aw _ h (sm [] _ _ rfl rfl)
           ·have h := An c17 h
            refine qf Je rfl (ql Bh rfl (qm rfl ?_))
            obtain ⟨v18, a18, b18, h⟩ := Aj h
            refine qi AJ DA a18 (Ah b18) rfl (qk Cs rfl (A1 rfl (qp rfl (qm rfl ?_))))
            refine AG (t := 76) rfl (fun c19 => ?_) (fun c19 => ?_)
            ·have h := Am c19 h
             refine qn rfl (qn rfl (qn rfl (qn rfl (qn rfl (qn rfl (qn rfl (qp rfl (Ad ?_))))))))
             exact Aw _ h (sm [] _ _ rfl rfl)
            ·have h := An c19 h
             refine qf Je rfl (ql Bh rfl (qm rfl ?_))
             obtain ⟨v20, a20, b20, h⟩ := Aj h
             refine qi AJ DA a20 (Ah b20) rfl (qk Cs rfl (qm rfl (Dz rfl (qp rfl (Ad ?_)))))
             exact Aw _ h (sm [] _ _ rfl rfl)
       ·refine Ap rfl (fun c21 => ?_) (fun c21 => ?_)
        ·have h := Am c21 h
         refine Ab (Aa Ac rfl (qa rfl (Ad ?_)))
         obtain rfl := sj h
         refine Al (sm [] [(2, iD 7)] [] rfl rfl) (Az ?_)
         exact ⟨⟨[_], ⟨.tmp _ _ rfl, tv⟩, rfl⟩, tv⟩
        ·have h := An c21 h
         refine Aq (Aa Ac rfl (qm rfl (AY rfl (qa rfl (Ad ?_)))))
         exact Aw _ h (sm [] _ _ rfl rfl)
      ·have h := An c9 h
       refine AW ?_
       exact Aw _ h (sm [] _ _ rfl rfl)
     ·refine Al hs (Ab (Ab (Aa Ac rfl (qa rfl (Ad ?_)))))
      refine AK (L := Bk N p0) h (fun v22 => mk [(1, oD (.ptr 1 0)), (5, iD v22)] [(1, .box [sC (p0.fVersions.map Ai), sC (p0.fNow.map Ai), sC (p0.fTarget.map Ai), sC (p0.fTables.map Ao)])]) (fun v23 => mk [] []) (fun _ _ => rfl) (sm [] _ _ rfl rfl) (fun j22 n22 v22 h => ?_) (fun v23 s h hs => ?_)
      ·unfold Bk at h
       refine Ab (Ab (Aa Ac rfl (qm rfl (qf CO rfl (ql He rfl (AZ Ed rfl (A1 rfl (Ad ?_))))))))
       refine Ap rfl (fun c24 => ?_) (fun c24 => ?_)
       ·have h := Am c24 h
        refine Aq (Ab (AR (Ab (Aa Ac rfl (qL Ee DQ rfl (qf CO rfl (ql He rfl (qm rfl ?_))))))))
        obtain ⟨v25, a25, b25, h⟩ := Aj h
        refine qi Ed Eb a25 (Ah b25) rfl (qK Hn Eb rfl ?_)
        obtain ⟨v26, a26, h⟩ := bind_some h
        refine AH [] (Ki N p0 v25 v26 a26) Y2 rfl (qa rfl (AQ (by kernel_rfl) (Ab (Aa Ac rfl (qm rfl (Cw rfl (Ad ?_)))))))
        refine Ap rfl (fun c27 => ?_) (fun c27 => ?_)
        ·have h := Am c27 h
         refine Ab (Aa Ac rfl (qm rfl (qa rfl (Ad ?_))))
         obtain rfl := sj h
         refine Al (sm [] [(2, iD v26)] [] rfl rfl) (Az ?_)
         exact ⟨⟨[_], ⟨.tmp _ _ rfl, tv⟩, rfl⟩, tv⟩
        ·have h := An c27 h
         refine Aq (Aa Ac rfl (qm rfl (AY rfl (qa rfl (Ad ?_)))))
         exact Aw _ h (sm [] _ _ rfl rfl)
       ·have h := An c24 h
        refine AW ?_
        exact Aw _ h (sm [] _ _ rfl rfl)
      ·refine Al hs (Ab (Aa Ac rfl (qa rfl (Ad ?_))))
       obtain rfl := sj h
       refine Al (sm [] [(2, iD 0)] [] rfl rfl) (Az ?_)
       exact ⟨⟨[_], ⟨.tmp _ _ rfl, tv⟩, rfl⟩, tv⟩
end Go.Lift
