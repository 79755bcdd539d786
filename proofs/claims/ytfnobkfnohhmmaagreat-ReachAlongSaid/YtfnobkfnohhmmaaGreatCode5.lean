/- Lemmas for ReachAlongSaid, which YtfnobkfnohhmmaaGreatFinZ3 proves. -/
import Derived.Test.YtfnobkfnohhmmaaGreatCode3
namespace Go.Lift
set_option maxRecDepth 10000
open Go.RowKit
open Go.Proofs
theorem JQ (N : Nat) (p0 : Ah) (r : Ae × Int) (h : D7 N p0 = some r) : AB Tryz.prog 24 [.e (.agg [sC (p0.fVersions.map Ai), sC (p0.fNow.map Ai), sC (p0.fTarget.map Ai), sC (p0.fTables.map Ao)])] [(1, r.1.fBase.map Ai), (1, r.1.fNext.map Ai), (1, r.1.fHeld.map Bj)] (.tup [.agg [.own 0, .own 1, .own 2], .one (iC r.2)]) := by
 unfold D7 at h
 refine Ar (n := 68) (rs := [.cell 2 50, .tmp 3]) Tryz.func24 rfl rfl rfl (A4 rfl) (A4 rfl) rfl fun w0 S0 => ?_
 refine Ab (Aa Ac rfl (qb rfl (qz Cm rfl (qa rfl (Ad (Ab (Ab (Aa Ac rfl (qL Ec DQ rfl ?_)))))))))
 obtain ⟨v1, a1, h⟩ := bind_some h
 refine AH [] (FB N p0 v1 a1) WD rfl (qa rfl (Ad (Ab (Aa Ac rfl (qm rfl (B2 rfl (Ad ?_)))))))
 refine An rfl (fun c2 => ?_) (fun c2 => ?_)
 ·have h := Am c2 h
  refine Ab (Aa Ac rfl (BK Cm Hu rfl (qm rfl (qs Ay rfl (qa rfl (Ad ?_))))))
  obtain rfl := sj h
  refine Ak ((AE 2 0 2001 1 _ rfl rfl rfl rfl).trans ((AE 2 1 2002 1 _ rfl rfl rfl rfl).trans ((AE 2 2 2003 1 _ rfl rfl rfl rfl).trans (sm [(1000, 2001), (1001, 2002), (1002, 2003)] [(2, oD (.ptr 2 0)), (3, iD v1)] [(2, .box [.own 1000, .own 1001, .own 1002]), (1000, .vec 1 ((([] : List Int)).map Ai)), (1001, .vec 1 ((([] : List Int)).map Ai)), (1002, .vec 1 ((([] : List Int)).map Bj))] rfl rfl)))) (Az ?_)
  exact ⟨⟨[_, _], ⟨.cellN _ _ _ _ _ _ _ rfl rfl A1 Ay rfl rfl (IQ rfl), ⟨.tmp _ _ rfl, tv⟩⟩, rfl⟩, ⟨rfl, rfl, rfl, tv⟩⟩
 ·have h := Al c2 h
  refine Ap (Ab (Aa Ac rfl (qz Cm rfl (Ad (Ab (Ab (Aa Ac rfl (qa rfl (Ad ?_)))))))))
  refine AM (L := BZ N p0) h (fun v3 => mk [(1, oD (.ptr 1 0)), (2, oD (.ptr 2 0)), (5, oD (.ptr 5 0)), (6, iD v3.2.2)] [(1, .box [sC (p0.fVersions.map Ai), sC (p0.fNow.map Ai), sC (p0.fTarget.map Ai), sC (p0.fTables.map Ao)]), (2, .box [.pure (.nil0), .pure (.nil0), .pure (.nil0)]), (5, .box [.own 2004, .own 2005, .pure (.nil0)]), (2004, .vec 1 (v3.1.map Ai)), (2005, .vec 1 (v3.2.1.map Ai))]) (fun v4 => mk [(1, oD (.ptr 1 0)), (2, oD (.ptr 2 0)), (5, oD (.ptr 5 0))] [(1, .box [sC (p0.fVersions.map Ai), sC (p0.fNow.map Ai), sC (p0.fTarget.map Ai), sC (p0.fTables.map Ao)]), (2, .box [.pure (.nil0), .pure (.nil0), .pure (.nil0)]), (5, .box [.own 2006, .own 2007, .pure (.nil0)]), (2006, .vec 1 (v4.1.map Ai)), (2007, .vec 1 (v4.2.map Ai))]) (fun _ _ => rfl) ((AE 5 0 2008 1 _ rfl rfl rfl rfl).trans ((AE 5 1 2009 1 _ rfl rfl rfl rfl).trans (sm [(2004, 2008), (2005, 2009)] _ _ rfl rfl))) (fun j3 n3 v3 h => ?_) (fun v4 s h hs => ?_)
  ·unfold BZ at h
   refine Ab (Ab (Aa Ac rfl (qm rfl (qf By rfl (ql Bh rfl (AW AJ rfl (A0 rfl (Ad ?_))))))))
   refine An rfl (fun c5 => ?_) (fun c5 => ?_)
   ·have h := Am c5 h
    refine Ap (Ab (AR (Ab (Aa Ac rfl (qf CE rfl (ql Bh rfl (qf Ge rfl (ql Bh rfl (qm rfl ?_)))))))))
    obtain ⟨v6, a6, b6, h⟩ := Aj h
    refine qi AJ Dh a6 (Ag b6) rfl (qk Cg rfl (DX AJ Dh Km rfl ?_))
    obtain ⟨c7, h⟩ := AL h
    refine De (f := Ai) AJ AJ Dh Lh Km c7 rfl (qf CE rfl (qs SR rfl (AQ (by kernel_rfl) (Aa Ac rfl (qf BB rfl (ql Bh rfl (DX AJ Dh Km rfl ?_)))))))
    obtain ⟨c8, h⟩ := AL h
    refine De (f := Ai) AJ AJ Dh Lh Km c8 rfl (qf BB rfl (qs SR rfl (Ad (Aa Ac rfl (qm rfl (AX rfl (qa rfl (Ad ?_))))))))
    exact Aw _ h (sm [(2004, 30), (2005, 35)] _ _ rfl rfl)
   ·have h := Al c5 h
    refine AY ?_
    exact Aw _ h (sm [(2006, 2004), (2007, 2005)] _ _ rfl rfl)
  ·refine Ak hs (Ab (Ab (Aa Ac rfl (qa rfl (Ad ?_)))))
   refine AM (L := Bn N p0) h (fun v9 => mk [(1, oD (.ptr 1 0)), (2, oD (.ptr 2 0)), (5, oD (.ptr 5 0)), (7, iD v9.2)] [(1, .box [sC (p0.fVersions.map Ai), sC (p0.fNow.map Ai), sC (p0.fTarget.map Ai), sC (p0.fTables.map Ao)]), (2, .box [.pure (.nil0), .pure (.nil0), .pure (.nil0)]), (5, .box [.own 2010, .own 2011, .own 2012]), (2010, .vec 1 (v4.1.map Ai)), (2011, .vec 1 (v4.2.map Ai)), (2012, .vec 1 (v9.1.map Bj))]) (fun v10 => mk [(2, oD (.ptr 2 0)), (5, oD (.ptr 5 0))] [(2, .box [.pure (.nil0), .pure (.nil0), .pure (.nil0)]), (5, .box [.own 2013, .own 2014, .own 2015]), (2013, .vec 1 (v4.1.map Ai)), (2014, .vec 1 (v4.2.map Ai)), (2015, .vec 1 (v10.map Bj))]) (fun _ _ => rfl) ((AE 5 2 2019 1 _ rfl rfl rfl rfl).trans (sm [(2010, 2006), (2011, 2007), (2012, 2019)] _ _ rfl rfl)) (fun j9 n9 v9 h => ?_) (fun v10 s h hs => ?_)
   ·unfold Bn at h
    refine Ab (Ab (Aa Ac rfl (qm rfl (qf CH rfl (ql G5 rfl (AW D2 rfl (A0 rfl (Ad ?_))))))))
    refine An rfl (fun c11 => ?_) (fun c11 => ?_)
    ·have h := Am c11 h
     refine Ap (Ab (AR (Ab (Aa Ac rfl (qa rfl (Ad ?_))))))
     refine AT h (fun v12 => mk [(1, oD (.ptr 1 0)), (2, oD (.ptr 2 0)), (5, oD (.ptr 5 0)), (7, iD v9.2), (8, pD (.val (.int .u8 v12)))] [(1, .box [sC (p0.fVersions.map Ai), sC (p0.fNow.map Ai), sC (p0.fTarget.map Ai), sC (p0.fTables.map Ao)]), (2, .box [.pure (.nil0), .pure (.nil0), .pure (.nil0)]), (5, .box [.own 2016, .own 2017, .own 2018]), (2016, .vec 1 (v4.1.map Ai)), (2017, .vec 1 (v4.2.map Ai)), (2018, .vec 1 (v9.1.map Bj))]) (fun j12 h => ?_) (fun v12 h => ?_)
     ·refine Ab (Aa Ac rfl (qf CH rfl (ql G5 rfl (qm rfl ?_))))
      obtain ⟨v13, a13, b13, h⟩ := Aj h
      refine qi D2 DT a13 (Ag b13) rfl (qK G1 DT rfl ?_)
      obtain ⟨v14, a14, h⟩ := bind_some h
      refine AH [] (B9 N v13 v14 a14) O4 rfl (Ad ?_)
      refine An rfl (fun c15 => ?_) (fun c15 => ?_)
      ·have h := Am c15 h
       refine Aa Ac rfl (qf Ge rfl (ql Bh rfl (qf CH rfl (ql G5 rfl (qm rfl ?_)))))
       obtain ⟨v16, a16, b16, h⟩ := Aj h
       refine qi D2 DT a16 (Ag b16) rfl (qg C0 rfl (qk Cg rfl ?_))
       obtain ⟨v17, a17, b17, h⟩ := Aj h
       refine qi AJ Dh a17 (Ag b17) rfl (qk Cg rfl ?_)
       obtain ⟨c18, h⟩ := AL h
       refine Hs rfl c18 (qa rfl (AQ (by kernel_rfl) ?_))
       exact Aw _ h (sm [(2016, 2010), (2017, 2011), (2018, 2012)] _ _ rfl rfl)
      ·have h := Al c15 h
       refine Ap ?_
       exact Aw _ h (sm [(2016, 2010), (2017, 2011), (2018, 2012)] _ _ rfl rfl)
     ·refine Aa Ac rfl (qf Cn rfl (ql Gr rfl (qm rfl (DX CQ Fo Pi rfl ?_))))
      obtain ⟨c19, h⟩ := AL h
      refine De (f := Bj) CQ CQ Fo Pt Pi c19 rfl (qf Cn rfl (qs XC rfl (Ad (Aa Ac rfl (qm rfl (AX rfl (qa rfl (Ad ?_))))))))
      exact Aw _ h (sm [(2010, 2016), (2011, 2017), (2012, 65)] _ _ rfl rfl)
    ·have h := Al c11 h
     refine AY ?_
     exact Aw _ h (sm [(2013, 2010), (2014, 2011), (2015, 2012)] _ _ rfl rfl)
   ·refine Ak hs (Ab (Aa Ac rfl (qL A1 Ay rfl (qs Ay rfl (qa rfl (Ad ?_))))))
    obtain rfl := sj h
    refine Ak (sm [(1000, 2013), (1001, 2014), (1002, 2015)] [(2, oD (.ptr 2 0)), (3, iD 0)] [(2, .box [.own 1000, .own 1001, .own 1002]), (1000, .vec 1 (v4.1.map Ai)), (1001, .vec 1 (v4.2.map Ai)), (1002, .vec 1 (v10.map Bj))] rfl rfl) (Az ?_)
    exact ⟨⟨[_, _], ⟨.cellN _ _ _ _ _ _ _ rfl rfl A1 Ay rfl rfl (IQ rfl), ⟨.tmp _ _ rfl, tv⟩⟩, rfl⟩, ⟨rfl, rfl, rfl, tv⟩⟩
theorem DS (N : Nat) (p0 : Ae) (p1 : Int) (r : Int) (h : BM N p0 p1 = some r) : AB Tryz.prog 52 [.e (.agg [sC (p0.fBase.map Ai), sC (p0.fNext.map Ai), sC (p0.fHeld.map Bj)]), iD p1] [] (pD (.val (.int .u8 r))) := by
 unfold BM at h
 refine Ar (n := 27) (rs := [.tmp 4]) Tryz.func52 rfl rfl rfl (A4 rfl) (A4 rfl) rfl fun w0 S0 => ?_
 refine Ab (Aa Ac rfl (qb rfl (qa rfl (Ad (Ab (Aa Ac rfl (qf CE rfl (ql Bh rfl (qm rfl ?_)))))))))
 obtain ⟨v1, a1, b1, h⟩ := Aj h
 refine qi AJ Dh a1 (Ag b1) rfl (qk Cg rfl ?_)
 obtain ⟨c2, h⟩ := AL h
 refine Hs rfl c2 (qa rfl (Ad ?_))
 refine AT h (fun v3 => mk [(5, pD (.val (.int .u8 v3)))] []) (fun j3 h => ?_) (fun v3 h => ?_)
 ·refine Ab (Aa Ac rfl (qf BB rfl (ql Bh rfl (qm rfl ?_))))
  obtain ⟨v4, a4, b4, h⟩ := Aj h
  refine qi AJ Dh a4 (Ag b4) rfl (qk Cg rfl (Df rfl (Ad ?_)))
  refine An rfl (fun c5 => ?_) (fun c5 => ?_)
  ·have h := Am c5 h
   refine Aa Ac rfl (qm rfl (qf BB rfl (ql Bh rfl (qm rfl ?_))))
   obtain ⟨v6, a6, b6, h⟩ := Aj h
   refine qi AJ Dh a6 (Ag b6) rfl (qk Cg rfl ?_)
   obtain ⟨c7, h⟩ := AL h
   refine Hs rfl c7 (SZ rfl (qa rfl (Ad ?_)))
   exact Aw _ h (sm [] _ _ rfl rfl)
  ·have h := Al c5 h
   refine Ap ?_
   exact Aw _ h (sm [] _ _ rfl rfl)
 ·refine Ab (Aa Ac rfl (qm rfl (qa rfl (Ad ?_))))
  obtain rfl := sj h
  refine Ak (sm [] [(4, pD (.val (.int .u8 v3)))] [] rfl rfl) (Az ?_)
  exact ⟨⟨[_], ⟨.tmp _ _ rfl, tv⟩, rfl⟩, tv⟩
theorem HE (N : Nat) (p0 : Ah) (p1 : Ae) (r : Int) (h : Dq N p0 p1 = some r) : AB Tryz.prog 65 [.e (.agg [sC (p0.fVersions.map Ai), sC (p0.fNow.map Ai), sC (p0.fTarget.map Ai), sC (p0.fTables.map Ao)]), .e (.agg [sC (p1.fBase.map Ai), sC (p1.fNext.map Ai), sC (p1.fHeld.map Bj)])] [] (iD r) := by
 unfold Dq at h
 refine Ar (n := 154) (rs := [.tmp 4]) Tryz.func65 rfl rfl rfl (A4 rfl) (A4 rfl) rfl fun w0 S0 => ?_
 refine Ab (Aa Ac rfl (qb rfl (qb rfl (qa rfl (Ad (Ab (Ab (Aa Ac rfl (qL Ec DQ rfl ?_)))))))))
 obtain ⟨v1, a1, h⟩ := bind_some h
 refine AH [] (FB N p0 v1 a1) WD rfl (qa rfl (Ad (Ab (Aa Ac rfl (qm rfl (B2 rfl (Ad ?_)))))))
 refine An rfl (fun c2 => ?_) (fun c2 => ?_)
 ·have h := Am c2 h
  refine Ab (Aa Ac rfl (qm rfl (qa rfl (Ad ?_))))
  obtain rfl := sj h
  refine Ak (sm [] [(4, iD v1)] [] rfl rfl) (Az ?_)
  exact ⟨⟨[_], ⟨.tmp _ _ rfl, tv⟩, rfl⟩, tv⟩
 ·have h := Al c2 h
  refine Ap (Ab (Aa Ac rfl (qf By rfl (ql Bh rfl (AW AJ rfl (qa rfl (Ad (Ab ?_))))))))
  refine AT h (fun v3 => mk [(2, oD (.ptr 2 0)), (3, oD (.ptr 3 0)), (6, iD ((p0.fVersions.length : Int))), (39, bD v3)] [(2, .box [sC (p0.fVersions.map Ai), sC (p0.fNow.map Ai), sC (p0.fTarget.map Ai), sC (p0.fTables.map Ao)]), (3, .box [sC (p1.fBase.map Ai), sC (p1.fNext.map Ai), sC (p1.fHeld.map Bj)])]) (fun j3 h => ?_) (fun v3 h => ?_)
  ·refine Aa Ac rfl (qf CE rfl (ql Bh rfl (AW AJ rfl (qm rfl (B2 rfl (qm rfl ?_))))))
   refine AF (t := 24) rfl (fun c4 => ?_) (fun c4 => ?_)
   ·have h := Am c4 h
    refine qn rfl (qn rfl (qn rfl (qn rfl (qn rfl (qp rfl (qm rfl (qn rfl (qn rfl (qn rfl (qn rfl (qn rfl (qn rfl (qn rfl (qp rfl (Ad ?_)))))))))))))))
    exact Aw _ h (sm [] _ _ rfl rfl)
   ·have h := Al c4 h
    refine qf BB rfl (ql Bh rfl (AW AJ rfl (qm rfl (B2 rfl (qp rfl (qm rfl ?_))))))
    refine AF (t := 31) rfl (fun c5 => ?_) (fun c5 => ?_)
    ·have h := Am c5 h
     refine qn rfl (qn rfl (qn rfl (qn rfl (qn rfl (qn rfl (qn rfl (qp rfl (Ad ?_))))))))
     exact Aw _ h (sm [] _ _ rfl rfl)
    ·have h := Al c5 h
     refine qf Cn rfl (ql Gr rfl (AW CQ rfl (qf CH rfl (ql G5 rfl (AW D2 rfl (B2 rfl (qp rfl (Ad ?_))))))))
     exact Aw _ h (sm [] _ _ rfl rfl)
  ·refine An rfl (fun c6 => ?_) (fun c6 => ?_)
   ·have h := Am c6 h
    refine Ab (Aa Ac rfl (qa rfl (Ad ?_)))
    obtain rfl := sj h
    refine Ak (sm [] [(4, iD 6)] [] rfl rfl) (Az ?_)
    exact ⟨⟨[_], ⟨.tmp _ _ rfl, tv⟩, rfl⟩, tv⟩
   ·have h := Al c6 h
    refine Ap (Ab (Ab (Aa Ac rfl (qa rfl (Ad ?_)))))
    refine AM (L := BY N p0 p1) h (fun v7 => mk [(2, oD (.ptr 2 0)), (3, oD (.ptr 3 0)), (6, iD ((p0.fVersions.length : Int))), (7, iD v7)] [(2, .box [sC (p0.fVersions.map Ai), sC (p0.fNow.map Ai), sC (p0.fTarget.map Ai), sC (p0.fTables.map Ao)]), (3, .box [sC (p1.fBase.map Ai), sC (p1.fNext.map Ai), sC (p1.fHeld.map Bj)])]) (fun v8 => mk [(2, oD (.ptr 2 0)), (3, oD (.ptr 3 0))] [(2, .box [sC (p0.fVersions.map Ai), sC (p0.fNow.map Ai), sC (p0.fTarget.map Ai), sC (p0.fTables.map Ao)]), (3, .box [sC (p1.fBase.map Ai), sC (p1.fNext.map Ai), sC (p1.fHeld.map Bj)])]) (fun _ _ => rfl) (sm [] _ _ rfl rfl) (fun j7 n7 v7 h => ?_) (fun v8 s h hs => ?_)
    ·unfold BY at h
     refine Ab (Ab (Aa Ac rfl (qm rfl (qm rfl (A0 rfl (Ad ?_))))))
     refine An rfl (fun c9 => ?_) (fun c9 => ?_)
     ·have h := Am c9 h
      refine Ap (Ab (AR (Ab ?_)))
      refine AT h (fun v10 => mk [(2, oD (.ptr 2 0)), (3, oD (.ptr 3 0)), (6, iD ((p0.fVersions.length : Int))), (7, iD v7), (84, bD v10)] [(2, .box [sC (p0.fVersions.map Ai), sC (p0.fNow.map Ai), sC (p0.fTarget.map Ai), sC (p0.fTables.map Ao)]), (3, .box [sC (p1.fBase.map Ai), sC (p1.fNext.map Ai), sC (p1.fHeld.map Bj)])]) (fun j10 h => ?_) (fun v10 h => ?_)
      ·refine Aa Ac rfl (qf CE rfl (ql Bh rfl (qm rfl ?_)))
       obtain ⟨v11, a11, b11, h⟩ := Aj h
       refine qi AJ Dh a11 (Ag b11) rfl (qk Cg rfl (A0 rfl (qm rfl ?_)))
       refine AF (t := 51) rfl (fun c12 => ?_) (fun c12 => ?_)
       ·have h := Am c12 h
        refine qn rfl (qn rfl (qn rfl (qn rfl (qn rfl (qn rfl (qn rfl (qn rfl (qn rfl (qn rfl (qn rfl (qp rfl (qm rfl (qn rfl (qn rfl (qn rfl (qn rfl (qn rfl (qn rfl (qp rfl (qm rfl (qn rfl (qn rfl (qn rfl (qn rfl (qn rfl (qn rfl (qn rfl (qn rfl (qn rfl (qn rfl (qn rfl (qp rfl (AQ (by kernel_rfl) ?_)))))))))))))))))))))))))))))))))
        exact Aw _ h (sm [] _ _ rfl rfl)
       ·have h := Al c12 h
        refine qf CE rfl (ql Bh rfl (qm rfl ?_))
        obtain ⟨v13, a13, b13, h⟩ := Aj h
        refine qi AJ Dh a13 (Ag b13) rfl (qk Cg rfl (qf By rfl (ql Bh rfl (qm rfl ?_))))
        obtain ⟨v14, a14, b14, h⟩ := Aj h
        refine qi AJ Dh a14 (Ag b14) rfl (qk Cg rfl (Df rfl (qp rfl (qm rfl ?_))))
        refine AF (t := 64) rfl (fun c15 => ?_) (fun c15 => ?_)
        ·have h := Am c15 h
         refine qn rfl (qn rfl (qn rfl (qn rfl (qn rfl (qn rfl (qp rfl (qm rfl (qn rfl (qn rfl (qn rfl (qn rfl (qn rfl (qn rfl (qn rfl (qn rfl (qn rfl (qn rfl (qn rfl (qp rfl (AQ (by kernel_rfl) ?_))))))))))))))))))))
         exact Aw _ h (sm [] _ _ rfl rfl)
        ·have h := Al c15 h
         refine qf BB rfl (ql Bh rfl (qm rfl ?_))
         obtain ⟨v16, a16, b16, h⟩ := Aj h
         refine qi AJ Dh a16 (Ag b16) rfl (qk Cg rfl (A0 rfl (qp rfl (qm rfl ?_))))
         refine AF (t := 72) rfl (fun c17 => ?_) (fun c17 => ?_)
         ·have h := Am c17 h
          refine qn rfl (qn rfl (qn rfl (qn rfl (qn rfl (qn rfl (qn rfl (qn rfl (qn rfl (qn rfl (qn rfl (qp rfl (AQ (by kernel_rfl) ?_))))))))))))
          exact Aw _ h (sm [] _ _ rfl rfl)
         ·have h := Al c17 h
          refine qf BB rfl (ql Bh rfl (qm rfl ?_))
          obtain ⟨v18, a18, b18, h⟩ := Aj h
          refine qi AJ Dh a18 (Ag b18) rfl (qk Cg rfl (qf By rfl (ql Bh rfl (qm rfl ?_))))
          obtain ⟨v19, a19, b19, h⟩ := Aj h
          refine qi AJ Dh a19 (Ag b19) rfl (qk Cg rfl (Df rfl (qp rfl (AQ (by kernel_rfl) ?_))))
          exact Aw _ h (sm [] _ _ rfl rfl)
      ·refine An rfl (fun c20 => ?_) (fun c20 => ?_)
       ·have h := Am c20 h
        refine Ab (Aa Ac rfl (qa rfl (Ad ?_)))
        obtain rfl := sj h
        refine Ak (sm [] [(4, iD 7)] [] rfl rfl) (Az ?_)
        exact ⟨⟨[_], ⟨.tmp _ _ rfl, tv⟩, rfl⟩, tv⟩
       ·have h := Al c20 h
        refine Ap (Ab (Aa Ac rfl (qf CE rfl (ql Bh rfl (qm rfl ?_)))))
        obtain ⟨v21, a21, b21, h⟩ := Aj h
        refine qi AJ Dh a21 (Ag b21) rfl (qk Cg rfl (qf BB rfl (ql Bh rfl (qm rfl ?_))))
        obtain ⟨v22, a22, b22, h⟩ := Aj h
        refine qi AJ Dh a22 (Ag b22) rfl (qk Cg rfl (BE rfl (AQ (by kernel_rfl) ?_)))
        refine An rfl (fun c23 => ?_) (fun c23 => ?_)
        ·have h := Am c23 h
         refine Ab (Aa Ac rfl (qa rfl (Ad ?_)))
         obtain rfl := sj h
         refine Ak (sm [] [(4, iD 1)] [] rfl rfl) (Az ?_)
         exact ⟨⟨[_], ⟨.tmp _ _ rfl, tv⟩, rfl⟩, tv⟩
        ·have h := Al c23 h
         refine Ap (Aa Ac rfl (qm rfl (AX rfl (qa rfl (Ad ?_)))))
         exact Aw _ h (sm [] _ _ rfl rfl)
     ·have h := Al c9 h
      refine AY ?_
      exact Aw _ h (sm [] _ _ rfl rfl)
    ·refine Ak hs (Ab (Ab (Aa Ac rfl (qa rfl (Ad ?_)))))
     refine AM (L := BQ N p0 p1) h (fun v24 => mk [(2, oD (.ptr 2 0)), (3, oD (.ptr 3 0)), (8, iD v24)] [(2, .box [sC (p0.fVersions.map Ai), sC (p0.fNow.map Ai), sC (p0.fTarget.map Ai), sC (p0.fTables.map Ao)]), (3, .box [sC (p1.fBase.map Ai), sC (p1.fNext.map Ai), sC (p1.fHeld.map Bj)])]) (fun v25 => mk [] []) (fun _ _ => rfl) (sm [] _ _ rfl rfl) (fun j24 n24 v24 h => ?_) (fun v25 s h hs => ?_)
     ·unfold BQ at h
      refine Ab (Ab (Aa Ac rfl (qm rfl (qf CH rfl (ql G5 rfl (AW D2 rfl (A0 rfl (Ad ?_))))))))
      refine An rfl (fun c26 => ?_) (fun c26 => ?_)
      ·have h := Am c26 h
       refine Ap (Ab (AR (Ab (Aa Ac rfl (qf CH rfl (ql G5 rfl (qm rfl ?_)))))))
       obtain ⟨v27, a27, b27, h⟩ := Aj h
       refine qi D2 DT a27 (Ag b27) rfl (qK G1 DT rfl (qz JV rfl (qs DT rfl (Ad (Ab (Aa Ac rfl (qf By rfl (ql Bh rfl (qf C0 rfl (ql Cg rfl ?_))))))))))
       obtain ⟨v28, a28, b28, h⟩ := Aj h
       refine qi AJ Dh a28 (Ag b28) rfl (qk Cg rfl ?_)
       obtain ⟨c29, h⟩ := AL h
       refine Hs rfl c29 (Cz rfl (qa rfl (Ad ?_)))
       refine AT h (fun v30 => mk [(2, oD (.ptr 2 0)), (3, oD (.ptr 3 0)), (8, iD v24), (153, bD v30)] [(2, .box [sC (p0.fVersions.map Ai), sC (p0.fNow.map Ai), sC (p0.fTarget.map Ai), sC (p0.fTables.map Ao)]), (3, .box [sC (p1.fBase.map Ai), sC (p1.fNext.map Ai), sC (p1.fHeld.map Bj)])]) (fun j30 h => ?_) (fun v30 h => ?_)
       ·refine Aa Ac rfl (qL G1 DT rfl ?_)
        obtain ⟨v31, a31, h⟩ := bind_some h
        refine AH [] (B9 N v27 v31 a31) O4 rfl (Cd rfl (qm rfl ?_))
        refine AF (t := 119) rfl (fun c32 => ?_) (fun c32 => ?_)
        ·have h := Am c32 h
         refine qf Cn rfl (ql Gr rfl (qm rfl ?_))
         obtain ⟨v33, a33, b33, h⟩ := Aj h
         refine qi CQ Fo a33 (Ag b33) rfl (qk IY rfl (B2 rfl (qp rfl (qm rfl ?_))))
         refine AF (t := 127) rfl (fun c34 => ?_) (fun c34 => ?_)
         ·have h := Am c34 h
          refine qn rfl (qn rfl (qn rfl (qu rfl (qu rfl (qu rfl (qu rfl (qu rfl (qu rfl (qu rfl (qu rfl (qu rfl (qu rfl (qu rfl (qu rfl (qu rfl (qu rfl (qu rfl (qu rfl (qu rfl (qu rfl (qu rfl (qu rfl (qu rfl (qn rfl (qp rfl (AQ (by kernel_rfl) ?_))))))))))))))))))))))))))
          exact Aw _ h (sm [] _ _ rfl rfl)
         ·have h := Al c34 h
          refine qL G1 DT rfl ?_
          obtain ⟨v35, a35, h⟩ := bind_some h
          refine AH [] (B9 N v27 v35 a35) O4 rfl (qm rfl ?_)
          refine AF (t := 130) rfl (fun c36 => ?_) (fun c36 => ?_)
          ·have h := Am c36 h
           refine qf Cn rfl (ql Gr rfl (qm rfl ?_))
           obtain ⟨v37, a37, b37, h⟩ := Aj h
           refine qi CQ Fo a37 (Ag b37) rfl (qk IY rfl (qm rfl (H5 rfl (B2 rfl (qm rfl ?_)))))
           refine AF (t := 139) rfl (fun c38 => ?_) (fun c38 => ?_)
           ·have h := Am c38 h
            refine qn rfl (qn rfl (qn rfl (qn rfl (qn rfl (qn rfl (qn rfl (qn rfl (qn rfl (qn rfl (qn rfl (qp rfl (qp rfl (qp rfl (AQ (by kernel_rfl) ?_))))))))))))))
            exact Aw _ h (sm [] _ _ rfl rfl)
           ·have h := Al c38 h
            refine qL A1 Ay rfl (qf C0 rfl (ql Cg rfl ?_))
            obtain ⟨v39, a39, h⟩ := bind_some h
            refine AH [] (DS N p1 v27.fFrom v39 a39) Sg rfl (qf Cn rfl (ql Gr rfl (qm rfl ?_)))
            obtain ⟨v40, a40, b40, h⟩ := Aj h
            refine qi CQ Fo a40 (Ag b40) rfl (qk IY rfl (H5 rfl (B2 rfl (qp rfl (qp rfl (qp rfl (AQ (by kernel_rfl) ?_)))))))
            exact Aw _ h (sm [] _ _ rfl rfl)
          ·have h := Al c36 h
           refine qn rfl (qn rfl (qn rfl (qn rfl (qn rfl (qn rfl (qn rfl (qn rfl (qn rfl (qu rfl (qu rfl (qu rfl (qu rfl (qu rfl (qu rfl (qu rfl (qu rfl (qu rfl (qu rfl (qu rfl (qn rfl (qp rfl (qp rfl (AQ (by kernel_rfl) ?_)))))))))))))))))))))))
           exact Aw _ h (sm [] _ _ rfl rfl)
        ·have h := Al c32 h
         refine qn rfl (qn rfl (qn rfl (qn rfl (qn rfl (qn rfl (qp rfl (qm rfl (qL G1 DT rfl ?_))))))))
         obtain ⟨v41, a41, h⟩ := bind_some h
         refine AH [] (B9 N v27 v41 a41) O4 rfl (qm rfl ?_)
         refine AF (t := 130) rfl (fun c42 => ?_) (fun c42 => ?_)
         ·have h := Am c42 h
          refine qf Cn rfl (ql Gr rfl (qm rfl ?_))
          obtain ⟨v43, a43, b43, h⟩ := Aj h
          refine qi CQ Fo a43 (Ag b43) rfl (qk IY rfl (qm rfl (H5 rfl (B2 rfl (qm rfl ?_)))))
          refine AF (t := 139) rfl (fun c44 => ?_) (fun c44 => ?_)
          ·have h := Am c44 h
           refine qn rfl (qn rfl (qn rfl (qn rfl (qn rfl (qn rfl (qn rfl (qn rfl (qn rfl (qn rfl (qn rfl (qp rfl (qp rfl (qp rfl (AQ (by kernel_rfl) ?_))))))))))))))
           exact Aw _ h (sm [] _ _ rfl rfl)
          ·have h := Al c44 h
           refine qL A1 Ay rfl (qf C0 rfl (ql Cg rfl ?_))
           obtain ⟨v45, a45, h⟩ := bind_some h
           refine AH [] (DS N p1 v27.fFrom v45 a45) Sg rfl (qf Cn rfl (ql Gr rfl (qm rfl ?_)))
           obtain ⟨v46, a46, b46, h⟩ := Aj h
           refine qi CQ Fo a46 (Ag b46) rfl (qk IY rfl (H5 rfl (B2 rfl (qp rfl (qp rfl (qp rfl (AQ (by kernel_rfl) ?_)))))))
           exact Aw _ h (sm [] _ _ rfl rfl)
         ·have h := Al c42 h
          refine qn rfl (qn rfl (qn rfl (qn rfl (qn rfl (qn rfl (qn rfl (qn rfl (qn rfl (qu rfl (qu rfl (qu rfl (qu rfl (qu rfl (qu rfl (qu rfl (qu rfl (qu rfl (qu rfl (qu rfl (qn rfl (qp rfl (qp rfl (AQ (by kernel_rfl) ?_)))))))))))))))))))))))
          exact Aw _ h (sm [] _ _ rfl rfl)
       ·refine An rfl (fun c47 => ?_) (fun c47 => ?_)
        ·have h := Am c47 h
         refine Ab (Aa Ac rfl (qa rfl (Ad ?_)))
         obtain rfl := sj h
         refine Ak (sm [] [(4, iD 1)] [] rfl rfl) (Az ?_)
         exact ⟨⟨[_], ⟨.tmp _ _ rfl, tv⟩, rfl⟩, tv⟩
        ·have h := Al c47 h
         refine Ap (Aa Ac rfl (qm rfl (AX rfl (qa rfl (Ad ?_)))))
         exact Aw _ h (sm [] _ _ rfl rfl)
      ·have h := Al c26 h
       refine AY ?_
       exact Aw _ h (sm [] _ _ rfl rfl)
     ·refine Ak hs (Ab (Aa Ac rfl (qa rfl (Ad ?_))))
      obtain rfl := sj h
      refine Ak (sm [] [(4, iD 0)] [] rfl rfl) (Az ?_)
      exact ⟨⟨[_], ⟨.tmp _ _ rfl, tv⟩, rfl⟩, tv⟩
theorem JU (N : Nat) (p0 : Au) (r : Bool) (h : D8 N p0 = some r) : AB Tryz.prog 93 [.e (.agg [iC p0.fKind, iC p0.fIndex, iC p0.fVersion])] [] (bD r) := by
 unfold D8 at h
 refine Ar (n := 31) (rs := [.tmp 2]) Tryz.func93 rfl rfl rfl (A4 rfl) (A4 rfl) rfl fun w0 S0 => ?_
 refine Ab (Aa Ac rfl (qb rfl (qa rfl (Ad ?_))))
 refine AT h (fun v1 => mk [(2, bD v1)] []) (fun j1 h => ?_) (fun v1 h => ?_)
 ·refine Aa Ac rfl (qf Fj rfl (ql Cg rfl (Df rfl (qm rfl ?_))))
  refine AF (t := 6) rfl (fun c2 => ?_) (fun c2 => ?_)
  ·have h := Am c2 h
   refine qf Fj rfl (ql Cg rfl (KH rfl (qp rfl (qm rfl ?_))))
   refine AF (t := 11) rfl (fun c3 => ?_) (fun c3 => ?_)
   ·have h := Am c3 h
    refine qf ED rfl (ql Cg rfl (Df rfl (qp rfl (qm rfl ?_))))
    refine AF (t := 16) rfl (fun c4 => ?_) (fun c4 => ?_)
    ·have h := Am c4 h
     refine qf Gb rfl (ql Cg rfl (Df rfl (qp rfl (qm rfl ?_))))
     refine AF (t := 21) rfl (fun c5 => ?_) (fun c5 => ?_)
     ·have h := Am c5 h
      refine qf Fj rfl (ql Cg rfl (BE rfl (qm rfl ?_)))
      refine AF (t := 25) rfl (fun c6 => ?_) (fun c6 => ?_)
      ·have h := Am c6 h
       refine qn rfl (qn rfl (qn rfl (qp rfl (qp rfl (qa rfl (Ad ?_))))))
       exact Aw _ h (sm [] _ _ rfl rfl)
      ·have h := Al c6 h
       refine qf Gb rfl (ql Cg rfl (BE rfl (qp rfl (qp rfl (qa rfl (Ad ?_))))))
       exact Aw _ h (sm [] _ _ rfl rfl)
     ·have h := Al c5 h
      refine qn rfl (qn rfl (qn rfl (qn rfl (qu rfl (qu rfl (qu rfl (qn rfl (qp rfl (qa rfl (Ad ?_))))))))))
      exact Aw _ h (sm [] _ _ rfl rfl)
    ·have h := Al c4 h
     refine qn rfl (qn rfl (qn rfl (qp rfl (qm rfl (qn rfl (qn rfl (qn rfl (qn rfl (qu rfl (qu rfl (qu rfl (qn rfl (qp rfl (qa rfl (Ad ?_)))))))))))))))
     exact Aw _ h (sm [] _ _ rfl rfl)
   ·have h := Al c3 h
    refine qn rfl (qn rfl (qn rfl (qp rfl (qm rfl (qn rfl (qn rfl (qn rfl (qp rfl (qm rfl (qn rfl (qn rfl (qn rfl (qn rfl (qu rfl (qu rfl (qu rfl (qn rfl (qp rfl (qa rfl (Ad ?_))))))))))))))))))))
    exact Aw _ h (sm [] _ _ rfl rfl)
  ·have h := Al c2 h
   refine qn rfl (qn rfl (qn rfl (qp rfl (qm rfl (qn rfl (qn rfl (qn rfl (qp rfl (qm rfl (qn rfl (qn rfl (qn rfl (qp rfl (qm rfl (qn rfl (qn rfl (qn rfl (qn rfl (qu rfl (qu rfl (qu rfl (qn rfl (qp rfl (qa rfl (Ad ?_)))))))))))))))))))))))))
   exact Aw _ h (sm [] _ _ rfl rfl)
 ·obtain rfl := sj h
  refine Ak (sm [] [(2, bD v1)] [] rfl rfl) (Az ?_)
  exact ⟨⟨[_], ⟨.tmp _ _ rfl, tv⟩, rfl⟩, tv⟩
theorem Fy (N : Nat) (p0 : Int) (p1 : Int) (r : Bool) (h : Cf N p0 p1 = some r) : AB Tryz.prog 53 [pD (.val (.int .u8 p0)), iD p1] [] (bD r) := by
 unfold Cf at h
 refine Ar (n := 10) (rs := [.tmp 4]) Tryz.func53 rfl rfl rfl (A4 rfl) (A4 rfl) rfl fun w0 S0 => ?_
 refine Ab (Aa Ac rfl (qa rfl (Ad (Ab (Aa Ac rfl (qm rfl (qm rfl ?_)))))))
 obtain ⟨c1, h⟩ := AL h
 refine GC rfl c1 (Ky rfl (BE rfl (qa rfl (Ad ?_))))
 obtain rfl := sj h
 refine Ak (sm [] [(4, bD (((Fp .u8 ((D3 .u8 p0 p1)) 1) == 1)))] [] rfl rfl) (Az ?_)
 exact ⟨⟨[_], ⟨.tmp _ _ rfl, tv⟩, rfl⟩, tv⟩
theorem JP (N : Nat) (p0 : Ah) (p1 : Ae) (p2 : Au) (r : Ae × Bool) (h : Dm N p0 p1 p2 = some r) : AB Tryz.prog 27 [.e (.agg [sC (p0.fVersions.map Ai), sC (p0.fNow.map Ai), sC (p0.fTarget.map Ai), sC (p0.fTables.map Ao)]), .e (.agg [sC (p1.fBase.map Ai), sC (p1.fNext.map Ai), sC (p1.fHeld.map Bj)]), .e (.agg [iC p2.fKind, iC p2.fIndex, iC p2.fVersion])] [(1, r.1.fBase.map Ai), (1, r.1.fNext.map Ai), (1, r.1.fHeld.map Bj)] (.tup [.agg [.own 0, .own 1, .own 2], .one (.pure (.val (.bool r.2)))]) := by
 unfold Dm at h
 refine Ar (n := 201) (rs := [.cell 6 50, .tmp 7]) Tryz.func27 rfl rfl rfl (A4 rfl) (A4 rfl) rfl fun w0 S0 => ?_
 refine Ab (Aa Ac rfl (qb rfl (qb rfl (qb rfl (qz Cm rfl (qa rfl (Ad (Ab (Aa Ac rfl (DX AJ Dh Km rfl (qf CE rfl (ql Bh rfl ?_))))))))))))
 obtain ⟨c1, h⟩ := AL h
 refine I1 (f := Ai) AJ AJ Dh Lh Km (fun _ => rfl) c1 rfl (DX AJ Dh Km rfl (qf BB rfl (ql Bh rfl ?_)))
 obtain ⟨c2, h⟩ := AL h
 refine I1 (f := Ai) AJ AJ Dh Lh Km (fun _ => rfl) c2 rfl (DX CQ Fo Pi rfl (qf Cn rfl (ql Gr rfl ?_)))
 obtain ⟨c3, h⟩ := AL h
 refine I1 (f := Bj) CQ CQ Fo Pt Pi (fun _ => rfl) c3 rfl (BK Cm Hu rfl (qz Cm rfl (qs Ay rfl (AQ (by kernel_rfl) (Ab (Aa Ac rfl (qf ED rfl (ql Cg rfl (qa rfl (Ad ?_))))))))))
 refine AT h (fun v4 => mk [(6, oD (.ptr 6 0)), (8, oD (.ptr 8 0))] [(6, .box [.pure (.nil0), .pure (.nil0), .pure (.nil0)]), (8, .box [.own 2001, .own 2002, .own 2003]), (2001, .vec 1 (v4.1.map Ai)), (2002, .vec 1 (v4.2.1.map Ai)), (2003, .vec 1 (v4.2.2.map Bj))]) (fun j4 h => ?_) (fun v4 h => ?_)
 ·refine Ab (Aa Ac rfl (qf Fj rfl (ql Cg rfl (Ad (AR (Ab (Aa Ac rfl (BE rfl (qa rfl (Ad ?_))))))))))
  refine An rfl (fun c5 => ?_) (fun c5 => ?_)
  ·have h := Am c5 h
   refine Ab ?_
   refine AT h (fun v6 => mk [(3, oD (.ptr 3 0)), (5, oD (.ptr 5 0)), (6, oD (.ptr 6 0)), (8, oD (.ptr 8 0)), (9, iD p2.fIndex), (60, bD v6)] [(3, .box [sC (p0.fVersions.map Ai), sC (p0.fNow.map Ai), sC (p0.fTarget.map Ai), sC (p0.fTables.map Ao)]), (5, .box [iC p2.fKind, iC p2.fIndex, iC p2.fVersion]), (6, .box [.pure (.nil0), .pure (.nil0), .pure (.nil0)]), (8, .box [.own 2004, .own 2005, .own 2006]), (2004, .vec 1 (((([] : List Int)) ++ p1.fBase).map Ai)), (2005, .vec 1 (((([] : List Int)) ++ p1.fNext).map Ai)), (2006, .vec 1 (((([] : List Int)) ++ p1.fHeld).map Bj))]) (fun j6 h => ?_) (fun v6 h => ?_)
   ·refine Aa Ac rfl (qf BB rfl (ql Bh rfl (qm rfl ?_)))
    obtain ⟨v7, a7, b7, h⟩ := Aj h
    refine qi AJ Dh a7 (Ag b7) rfl (qk Cg rfl (Df rfl (qm rfl ?_)))
    refine AF (t := 51) rfl (fun c8 => ?_) (fun c8 => ?_)
    ·have h := Am c8 h
     refine qn rfl (qn rfl (qn rfl (qn rfl (qn rfl (qn rfl (qn rfl (qn rfl (qp rfl (AQ (by kernel_rfl) ?_)))))))))
     exact Aw _ h (sm [(2004, 18), (2005, 22), (2006, 26)] _ _ rfl rfl)
    ·have h := Al c8 h
     refine qf Gb rfl (ql Cg rfl (qf CE rfl (ql Bh rfl (qm rfl ?_))))
     obtain ⟨v9, a9, b9, h⟩ := Aj h
     refine qi AJ Dh a9 (Ag b9) rfl (qk Cg rfl (BE rfl (qp rfl (AQ (by kernel_rfl) ?_))))
     exact Aw _ h (sm [(2004, 18), (2005, 22), (2006, 26)] _ _ rfl rfl)
   ·refine An rfl (fun c10 => ?_) (fun c10 => ?_)
    ·have h := Am c10 h
     refine Ab (Aa Ac rfl (BK Cm Hu rfl (qs Ay rfl (qa rfl (Ad ?_)))))
     obtain rfl := sj h
     refine Ak ((AE 6 0 2007 1 _ rfl rfl rfl rfl).trans ((AE 6 1 2008 1 _ rfl rfl rfl rfl).trans ((AE 6 2 2009 1 _ rfl rfl rfl rfl).trans (sm [(1000, 2007), (1001, 2008), (1002, 2009)] [(6, oD (.ptr 6 0)), (7, bD false)] [(6, .box [.own 1000, .own 1001, .own 1002]), (1000, .vec 1 ((([] : List Int)).map Ai)), (1001, .vec 1 ((([] : List Int)).map Ai)), (1002, .vec 1 ((([] : List Int)).map Bj))] rfl rfl)))) (Az ?_)
     exact ⟨⟨[_, _], ⟨.cellN _ _ _ _ _ _ _ rfl rfl A1 Ay rfl rfl (IQ rfl), ⟨.tmp _ _ rfl, tv⟩⟩, rfl⟩, ⟨rfl, rfl, rfl, tv⟩⟩
    ·have h := Al c10 h
     refine Ap (Ab (Aa Ac rfl (qf BB rfl (ql Bh rfl (qm rfl (qf Gb rfl (ql Cg rfl ?_)))))))
     obtain ⟨v11, a11, b11, h⟩ := Aj h
     refine qI AJ Dh a11 (Ag b11) rfl ?_
     refine Ba rfl rfl rfl rfl (Ag b11) rfl Dh rfl (A4 rfl) (A9 Ai ((([] : List Int)) ++ p1.fNext) _ p2.fVersion) ?_
     refine Ad (Ab (Aa Ac rfl (qa rfl (Ad ?_))))
     refine AM (L := BR N p0 p2) h (fun v12 => mk [(3, oD (.ptr 3 0)), (5, oD (.ptr 5 0)), (6, oD (.ptr 6 0)), (8, oD (.ptr 8 0)), (9, iD p2.fIndex), (10, iD v12.2)] [(3, .box [sC (p0.fVersions.map Ai), sC (p0.fNow.map Ai), sC (p0.fTarget.map Ai), sC (p0.fTables.map Ao)]), (5, .box [iC p2.fKind, iC p2.fIndex, iC p2.fVersion]), (6, .box [.pure (.nil0), .pure (.nil0), .pure (.nil0)]), (8, .box [.own 2010, .own 2011, .own 2012]), (2010, .vec 1 (((([] : List Int)) ++ p1.fBase).map Ai)), (2011, .vec 1 ((((([] : List Int)) ++ p1.fNext).set ((p2.fIndex).toNat) p2.fVersion).map Ai)), (2012, .vec 1 (v12.1.map Bj))]) (fun v13 => mk [(6, oD (.ptr 6 0)), (8, oD (.ptr 8 0))] [(6, .box [.pure (.nil0), .pure (.nil0), .pure (.nil0)]), (8, .box [.own 2013, .own 2014, .own 2015]), (2013, .vec 1 (((([] : List Int)) ++ p1.fBase).map Ai)), (2014, .vec 1 ((((([] : List Int)) ++ p1.fNext).set ((p2.fIndex).toNat) p2.fVersion).map Ai)), (2015, .vec 1 (v13.map Bj))]) (fun _ _ => rfl) (sm [(2010, 2004), (2011, 2005), (2012, 2006)] _ _ rfl rfl) (fun j12 n12 v12 h => ?_) (fun v13 s h hs => ?_)
     ·unfold BR at h
      refine Ab (Ab (Aa Ac rfl (qm rfl (qf CH rfl (ql G5 rfl (AW D2 rfl (A0 rfl (Ad ?_))))))))
      refine An rfl (fun c14 => ?_) (fun c14 => ?_)
      ·have h := Am c14 h
       refine Ap ?_
       refine AT h (fun v15 => mk [(3, oD (.ptr 3 0)), (5, oD (.ptr 5 0)), (6, oD (.ptr 6 0)), (8, oD (.ptr 8 0)), (9, iD p2.fIndex), (10, iD v12.2)] [(3, .box [sC (p0.fVersions.map Ai), sC (p0.fNow.map Ai), sC (p0.fTarget.map Ai), sC (p0.fTables.map Ao)]), (5, .box [iC p2.fKind, iC p2.fIndex, iC p2.fVersion]), (6, .box [.pure (.nil0), .pure (.nil0), .pure (.nil0)]), (8, .box [.own 2016, .own 2017, .own 2018]), (2016, .vec 1 (((([] : List Int)) ++ p1.fBase).map Ai)), (2017, .vec 1 ((((([] : List Int)) ++ p1.fNext).set ((p2.fIndex).toNat) p2.fVersion).map Ai)), (2018, .vec 1 (v15.map Bj))]) (fun j15 h => ?_) (fun v15 h => ?_)
       ·refine AR ?_
        refine AT h (fun v16 => mk [(3, oD (.ptr 3 0)), (5, oD (.ptr 5 0)), (6, oD (.ptr 6 0)), (8, oD (.ptr 8 0)), (9, iD p2.fIndex), (10, iD v12.2), (90, bD v16)] [(3, .box [sC (p0.fVersions.map Ai), sC (p0.fNow.map Ai), sC (p0.fTarget.map Ai), sC (p0.fTables.map Ao)]), (5, .box [iC p2.fKind, iC p2.fIndex, iC p2.fVersion]), (6, .box [.pure (.nil0), .pure (.nil0), .pure (.nil0)]), (8, .box [.own 2019, .own 2020, .own 2021]), (2019, .vec 1 (((([] : List Int)) ++ p1.fBase).map Ai)), (2020, .vec 1 ((((([] : List Int)) ++ p1.fNext).set ((p2.fIndex).toNat) p2.fVersion).map Ai)), (2021, .vec 1 (v12.1.map Bj))]) (fun j16 h => ?_) (fun v16 h => ?_)
        ·refine Aa Ac rfl (qf CH rfl (ql G5 rfl (qm rfl ?_)))
         obtain ⟨v17, a17, b17, h⟩ := Aj h
         refine qi D2 DT a17 (Ag b17) rfl (qg C0 rfl (qk Cg rfl (qm rfl (BE rfl (qm rfl ?_)))))
         refine AF (t := 83) rfl (fun c18 => ?_) (fun c18 => ?_)
         ·have h := Am c18 h
          refine qf CH rfl (ql G5 rfl (qm rfl ?_))
          obtain ⟨v19, a19, b19, h⟩ := Aj h
          refine qi D2 DT a19 (Ag b19) rfl (qK G1 DT rfl ?_)
          obtain ⟨v20, a20, h⟩ := bind_some h
          refine AH [] (B9 N v19 v20 a20) O4 rfl (qp rfl (Ad ?_))
          exact Aw _ h (sm [(2019, 2010), (2020, 2011), (2021, 2012)] _ _ rfl rfl)
         ·have h := Al c18 h
          refine qn rfl (qn rfl (qn rfl (qn rfl (qn rfl (qn rfl (qp rfl (Ad ?_)))))))
          exact Aw _ h (sm [(2019, 2010), (2020, 2011), (2021, 2012)] _ _ rfl rfl)
        ·refine An rfl (fun c21 => ?_) (fun c21 => ?_)
         ·have h := Am c21 h
          refine Aa Ac rfl (qf Cn rfl (ql Gr rfl (qm rfl (qf Cn rfl (ql Gr rfl (qm rfl ?_))))))
          obtain ⟨v22, a22, b22, h⟩ := Aj h
          refine qI CQ Fo a22 (Ag b22) rfl (qj IY (Ag b22) rfl (qf Gb rfl (ql Cg rfl ?_)))
          obtain ⟨c23, h⟩ := AL h
          refine Hs rfl c23 (SZ rfl ?_)
          obtain ⟨v24, a24, b24, h⟩ := Aj h
          refine qI CQ Fo a24 (Ag b24) rfl ?_
          refine Ba rfl rfl rfl rfl (Ag b24) rfl Fo rfl (A4 rfl) (A9 Bj v12.1 _ ((NC .u8 v22 ((Cc .u8 1 p2.fVersion))))) ?_
          refine AQ (by kernel_rfl) ?_
          exact Aw _ h (sm [(2016, 2019), (2017, 2020), (2018, 2021)] _ _ rfl rfl)
         ·have h := Al c21 h
          refine Ap ?_
          exact Aw _ h (sm [(2016, 2019), (2017, 2020), (2018, 2021)] _ _ rfl rfl)
       ·refine Aa Ac rfl (qm rfl (AX rfl (qa rfl (Ad ?_))))
        exact Aw _ h (sm [(2010, 2016), (2011, 2017), (2012, 2018)] _ _ rfl rfl)
      ·have h := Al c14 h
       refine AY ?_
       exact Aw _ h (sm [(2013, 2010), (2014, 2011), (2015, 2012)] _ _ rfl rfl)
     ·exact Aw _ h (hs.trans (sm [(2001, 2013), (2002, 2014), (2003, 2015)] _ _ rfl rfl))
  ·have h := Al c5 h
   refine Ab (Aa Ac rfl (BE rfl (qa rfl (Ad ?_))))
   refine An rfl (fun c25 => ?_) (fun c25 => ?_)
   ·have h := Am c25 h
    refine Ab (Ab (Aa Ac rfl (qf BB rfl (ql Bh rfl (qm rfl ?_)))))
    obtain ⟨v26, a26, b26, h⟩ := Aj h
    refine qi AJ Dh a26 (Ag b26) rfl (qk Cg rfl (A0 rfl (Ad ?_)))
    refine An rfl (fun c27 => ?_) (fun c27 => ?_)
    ·have h := Am c27 h
     refine Ab (Aa Ac rfl (BK Cm Hu rfl (qs Ay rfl (qa rfl (Ad ?_)))))
     obtain rfl := sj h
     refine Ak ((AE 6 0 2022 1 _ rfl rfl rfl rfl).trans ((AE 6 1 2023 1 _ rfl rfl rfl rfl).trans ((AE 6 2 2024 1 _ rfl rfl rfl rfl).trans (sm [(1000, 2022), (1001, 2023), (1002, 2024)] [(6, oD (.ptr 6 0)), (7, bD false)] [(6, .box [.own 1000, .own 1001, .own 1002]), (1000, .vec 1 ((([] : List Int)).map Ai)), (1001, .vec 1 ((([] : List Int)).map Ai)), (1002, .vec 1 ((([] : List Int)).map Bj))] rfl rfl)))) (Az ?_)
     exact ⟨⟨[_, _], ⟨.cellN _ _ _ _ _ _ _ rfl rfl A1 Ay rfl rfl (IQ rfl), ⟨.tmp _ _ rfl, tv⟩⟩, rfl⟩, ⟨rfl, rfl, rfl, tv⟩⟩
    ·have h := Al c27 h
     refine Ap (Aa Ac rfl (qf CE rfl (ql Bh rfl (qm rfl (qf BB rfl (ql Bh rfl (qm rfl (qf BB rfl (ql Bh rfl (qm rfl ?_))))))))))
     obtain ⟨v28, a28, b28, h⟩ := Aj h
     refine qi AJ Dh a28 (Ag b28) rfl (qk Cg rfl ?_)
     obtain ⟨v29, a29, b29, h⟩ := Aj h
     refine qI AJ Dh a29 (Ag b29) rfl ?_
     refine Ba rfl rfl rfl rfl (Ag b29) rfl Dh rfl (A4 rfl) (A9 Ai ((([] : List Int)) ++ p1.fBase) _ v28) ?_
     obtain ⟨v30, a30, b30, h⟩ := Aj h
     refine qI AJ Dh a30 (Ag b30) rfl ?_
     refine Ba rfl rfl rfl rfl (Ag b30) rfl Dh rfl (A4 rfl) (A9 Ai ((([] : List Int)) ++ p1.fNext) _ ((-1))) ?_
     refine AQ (by kernel_rfl) ?_
     exact Aw _ h (sm [(2001, 18), (2002, 22), (2003, 26)] _ _ rfl rfl)
   ·have h := Al c25 h
    refine Ab (Aa Ac rfl (BE rfl (qa rfl (Ad ?_))))
    refine An rfl (fun c31 => ?_) (fun c31 => ?_)
    ·have h := Am c31 h
     refine Ab (Aa Ac rfl (qf CH rfl (ql G5 rfl (qm rfl ?_))))
     obtain ⟨v32, a32, b32, h⟩ := Aj h
     refine qi D2 DT a32 (Ag b32) rfl (qK G1 DT rfl (qz JV rfl (qs DT rfl (Ad (Ab (Ab (Aa Ac rfl (qL G1 DT rfl ?_))))))))
     obtain ⟨v33, a33, h⟩ := bind_some h
     refine AH [] (B9 N v32 v33 a33) O4 rfl (Cd rfl (Ad ?_))
     refine An rfl (fun c34 => ?_) (fun c34 => ?_)
     ·have h := Am c34 h
      refine Ab (Aa Ac rfl (BK Cm Hu rfl (qs Ay rfl (qa rfl (Ad ?_)))))
      obtain rfl := sj h
      refine Ak ((AE 6 0 2025 1 _ rfl rfl rfl rfl).trans ((AE 6 1 2026 1 _ rfl rfl rfl rfl).trans ((AE 6 2 2027 1 _ rfl rfl rfl rfl).trans (sm [(1000, 2025), (1001, 2026), (1002, 2027)] [(6, oD (.ptr 6 0)), (7, bD false)] [(6, .box [.own 1000, .own 1001, .own 1002]), (1000, .vec 1 ((([] : List Int)).map Ai)), (1001, .vec 1 ((([] : List Int)).map Ai)), (1002, .vec 1 ((([] : List Int)).map Bj))] rfl rfl)))) (Az ?_)
      exact ⟨⟨[_, _], ⟨.cellN _ _ _ _ _ _ _ rfl rfl A1 Ay rfl rfl (IQ rfl), ⟨.tmp _ _ rfl, tv⟩⟩, rfl⟩, ⟨rfl, rfl, rfl, tv⟩⟩
     ·have h := Al c34 h
      refine Ap (Ab (Aa Ac rfl (qL A1 Ay rfl (qf C0 rfl (ql Cg rfl ?_)))))
      obtain ⟨v35, a35, h⟩ := bind_some h
      refine AH [] (DS N p1 v32.fFrom v35 a35) Sg rfl (qa rfl (Ad (Ab (Ab (Aa Ac rfl (qf Cn rfl (ql Gr rfl (qm rfl ?_))))))))
      obtain ⟨v36, a36, b36, h⟩ := Aj h
      refine qi CQ Fo a36 (Ag b36) rfl (qk IY rfl (qm rfl (BE rfl (Ad ?_))))
      refine An rfl (fun c37 => ?_) (fun c37 => ?_)
      ·have h := Am c37 h
       refine Ab (Aa Ac rfl (BK Cm Hu rfl (qs Ay rfl (qa rfl (Ad ?_)))))
       obtain rfl := sj h
       refine Ak ((AE 6 0 2028 1 _ rfl rfl rfl rfl).trans ((AE 6 1 2029 1 _ rfl rfl rfl rfl).trans ((AE 6 2 2030 1 _ rfl rfl rfl rfl).trans (sm [(1000, 2028), (1001, 2029), (1002, 2030)] [(6, oD (.ptr 6 0)), (7, bD false)] [(6, .box [.own 1000, .own 1001, .own 1002]), (1000, .vec 1 ((([] : List Int)).map Ai)), (1001, .vec 1 ((([] : List Int)).map Ai)), (1002, .vec 1 ((([] : List Int)).map Bj))] rfl rfl)))) (Az ?_)
       exact ⟨⟨[_, _], ⟨.cellN _ _ _ _ _ _ _ rfl rfl A1 Ay rfl rfl (IQ rfl), ⟨.tmp _ _ rfl, tv⟩⟩, rfl⟩, ⟨rfl, rfl, rfl, tv⟩⟩
      ·have h := Al c37 h
       refine Ap (Ab (Ab (Aa Ac rfl (qa rfl (Ad ?_)))))
       refine AM (L := BA N p0 p1 p2 v32 v35) h (fun v38 => mk [(3, oD (.ptr 3 0)), (4, oD (.ptr 4 0)), (6, oD (.ptr 6 0)), (8, oD (.ptr 8 0)), (9, iD p2.fIndex), (11, oD (.ptr 11 0)), (12, pD (.val (.int .u8 v35))), (13, iD v38)] [(3, .box [sC (p0.fVersions.map Ai), sC (p0.fNow.map Ai), sC (p0.fTarget.map Ai), sC (p0.fTables.map Ao)]), (4, .box [sC (p1.fBase.map Ai), sC (p1.fNext.map Ai), sC (p1.fHeld.map Bj)]), (6, .box [.pure (.nil0), .pure (.nil0), .pure (.nil0)]), (8, .box [.own 2031, .own 2032, .own 2033]), (11, .box [iC v32.fKind, iC v32.fFrom, iC v32.fTo, .pure (.val (.bool v32.fAware)), sC (v32.fOK.map (Eu eB)), sC (v32.fRewrite.map (Eu eB))]), (2031, .vec 1 (((([] : List Int)) ++ p1.fBase).map Ai)), (2032, .vec 1 (((([] : List Int)) ++ p1.fNext).map Ai)), (2033, .vec 1 (((([] : List Int)) ++ p1.fHeld).map Bj))]) (fun v39 => mk [(6, oD (.ptr 6 0)), (8, oD (.ptr 8 0)), (9, iD p2.fIndex), (12, pD (.val (.int .u8 v35)))] [(6, .box [.pure (.nil0), .pure (.nil0), .pure (.nil0)]), (8, .box [.own 2034, .own 2035, .own 2036]), (2034, .vec 1 (((([] : List Int)) ++ p1.fBase).map Ai)), (2035, .vec 1 (((([] : List Int)) ++ p1.fNext).map Ai)), (2036, .vec 1 (((([] : List Int)) ++ p1.fHeld).map Bj))]) (fun _ _ => rfl) (sm [(2031, 18), (2032, 22), (2033, 26)] _ _ rfl rfl) (fun j38 n38 v38 h => ?_) (fun v39 s h hs => ?_)
       ·unfold BA at h
        refine Ab (Ab (Aa Ac rfl (qm rfl (qf By rfl (ql Bh rfl (qf C0 rfl (ql Cg rfl ?_)))))))
        obtain ⟨v40, a40, b40, h⟩ := Aj h
        refine qi AJ Dh a40 (Ag b40) rfl (qk Cg rfl (A0 rfl (Ad ?_)))
        refine An rfl (fun c41 => ?_) (fun c41 => ?_)
        ·have h := Am c41 h
         refine Ap (Ab (AR ?_))
         refine AT h (fun v42 => mk [(3, oD (.ptr 3 0)), (4, oD (.ptr 4 0)), (6, oD (.ptr 6 0)), (8, oD (.ptr 8 0)), (9, iD p2.fIndex), (11, oD (.ptr 11 0)), (12, pD (.val (.int .u8 v35))), (13, iD v38), (14, bD v42)] [(3, .box [sC (p0.fVersions.map Ai), sC (p0.fNow.map Ai), sC (p0.fTarget.map Ai), sC (p0.fTables.map Ao)]), (4, .box [sC (p1.fBase.map Ai), sC (p1.fNext.map Ai), sC (p1.fHeld.map Bj)]), (6, .box [.pure (.nil0), .pure (.nil0), .pure (.nil0)]), (8, .box [.own 2037, .own 2038, .own 2039]), (11, .box [iC v32.fKind, iC v32.fFrom, iC v32.fTo, .pure (.val (.bool v32.fAware)), sC (v32.fOK.map (Eu eB)), sC (v32.fRewrite.map (Eu eB))]), (2037, .vec 1 (((([] : List Int)) ++ p1.fBase).map Ai)), (2038, .vec 1 (((([] : List Int)) ++ p1.fNext).map Ai)), (2039, .vec 1 (((([] : List Int)) ++ p1.fHeld).map Bj))]) (fun j42 h => ?_) (fun v42 h => ?_)
         ·refine Aa Ac rfl (qf Cn rfl (ql Gr rfl (qm rfl ?_)))
          obtain ⟨v43, a43, b43, h⟩ := Aj h
          refine qi CQ Fo a43 (Ag b43) rfl (qk IY rfl (qm rfl ?_))
          obtain ⟨v44, a44, h⟩ := bind_some h
          refine AH [] (Fy N v43 v38 v44 a44) Un rfl (qm rfl ?_)
          refine AF (t := 166) rfl (fun c45 => ?_) (fun c45 => ?_)
          ·have h := Am c45 h
           refine qm rfl (qm rfl ?_)
           obtain ⟨v46, a46, h⟩ := bind_some h
           refine AH [] (Fy N v35 v38 v46 a46) Un rfl (Cd rfl (qp rfl (qa rfl (Ad ?_))))
           exact Aw _ h (sm [(2037, 2031), (2038, 2032), (2039, 2033)] _ _ rfl rfl)
          ·have h := Al c45 h
           refine qn rfl (qn rfl (qn rfl (qn rfl (qp rfl (qa rfl (Ad ?_))))))
           exact Aw _ h (sm [(2037, 2031), (2038, 2032), (2039, 2033)] _ _ rfl rfl)
         ·refine AT h (fun v47 => mk [(3, oD (.ptr 3 0)), (4, oD (.ptr 4 0)), (6, oD (.ptr 6 0)), (8, oD (.ptr 8 0)), (9, iD p2.fIndex), (11, oD (.ptr 11 0)), (12, pD (.val (.int .u8 v35))), (13, iD v38), (193, bD v47)] [(3, .box [sC (p0.fVersions.map Ai), sC (p0.fNow.map Ai), sC (p0.fTarget.map Ai), sC (p0.fTables.map Ao)]), (4, .box [sC (p1.fBase.map Ai), sC (p1.fNext.map Ai), sC (p1.fHeld.map Bj)]), (6, .box [.pure (.nil0), .pure (.nil0), .pure (.nil0)]), (8, .box [.own 2040, .own 2041, .own 2042]), (11, .box [iC v32.fKind, iC v32.fFrom, iC v32.fTo, .pure (.val (.bool v32.fAware)), sC (v32.fOK.map (Eu eB)), sC (v32.fRewrite.map (Eu eB))]), (2040, .vec 1 (((([] : List Int)) ++ p1.fBase).map Ai)), (2041, .vec 1 (((([] : List Int)) ++ p1.fNext).map Ai)), (2042, .vec 1 (((([] : List Int)) ++ p1.fHeld).map Bj))]) (fun j47 h => ?_) (fun v47 h => ?_)
          ·refine Aa Ac rfl (qm rfl (qm rfl ?_))
           refine AF (t := 173) rfl (fun c48 => ?_) (fun c48 => ?_)
           ·have h := Am c48 h
            refine qf Fx rfl (ql Cg rfl (BE rfl (qp rfl (qm rfl ?_))))
            refine AF (t := 178) rfl (fun c49 => ?_) (fun c49 => ?_)
            ·have h := Am c49 h
             refine qf F7 rfl (ql Js rfl (qm rfl ?_))
             obtain ⟨v50, a50, b50, h⟩ := Aj h
             refine qi FP Jg a50 (Ag b50) rfl (qk KK rfl (qf CE rfl (ql Bh rfl (qf C0 rfl (ql Cg rfl ?_)))))
             obtain ⟨v51, a51, b51, h⟩ := Aj h
             refine qi AJ Dh a51 (Ag b51) rfl (qk Cg rfl ?_)
             obtain ⟨v52, a52, b52, h⟩ := Aj h
             refine qi EU Qi a52 (Ag b52) rfl (qk Rr rfl (Cd rfl (qp rfl (AQ (by kernel_rfl) ?_))))
             exact Aw _ h (sm [(2040, 2037), (2041, 2038), (2042, 2039)] _ _ rfl rfl)
            ·have h := Al c49 h
             refine qn rfl (qn rfl (qn rfl (qn rfl (qn rfl (qn rfl (qn rfl (qn rfl (qn rfl (qn rfl (qn rfl (qn rfl (qn rfl (qn rfl (qp rfl (AQ (by kernel_rfl) ?_)))))))))))))))
             exact Aw _ h (sm [(2040, 2037), (2041, 2038), (2042, 2039)] _ _ rfl rfl)
           ·have h := Al c48 h
            refine qn rfl (qn rfl (qn rfl (qp rfl (qm rfl (qn rfl (qn rfl (qn rfl (qn rfl (qn rfl (qn rfl (qn rfl (qn rfl (qn rfl (qn rfl (qn rfl (qn rfl (qn rfl (qn rfl (qp rfl (AQ (by kernel_rfl) ?_))))))))))))))))))))
            exact Aw _ h (sm [(2040, 2037), (2041, 2038), (2042, 2039)] _ _ rfl rfl)
          ·refine An rfl (fun c53 => ?_) (fun c53 => ?_)
           ·have h := Am c53 h
            refine Ab (Aa Ac rfl (BK Cm Hu rfl (qs Ay rfl (qa rfl (Ad ?_)))))
            obtain rfl := sj h
            refine Ak ((AE 6 0 2043 1 _ rfl rfl rfl rfl).trans ((AE 6 1 2044 1 _ rfl rfl rfl rfl).trans ((AE 6 2 2045 1 _ rfl rfl rfl rfl).trans (sm [(1000, 2043), (1001, 2044), (1002, 2045)] [(6, oD (.ptr 6 0)), (7, bD false)] [(6, .box [.own 1000, .own 1001, .own 1002]), (1000, .vec 1 ((([] : List Int)).map Ai)), (1001, .vec 1 ((([] : List Int)).map Ai)), (1002, .vec 1 ((([] : List Int)).map Bj))] rfl rfl)))) (Az ?_)
            exact ⟨⟨[_, _], ⟨.cellN _ _ _ _ _ _ _ rfl rfl A1 Ay rfl rfl (IQ rfl), ⟨.tmp _ _ rfl, tv⟩⟩, rfl⟩, ⟨rfl, rfl, rfl, tv⟩⟩
           ·have h := Al c53 h
            refine Ap (Aa Ac rfl (qm rfl (AX rfl (qa rfl (Ad ?_)))))
            exact Aw _ h (sm [(2031, 2040), (2032, 2041), (2033, 2042)] _ _ rfl rfl)
        ·have h := Al c41 h
         refine AY ?_
         exact Aw _ h (sm [(2034, 2031), (2035, 2032), (2036, 2033)] _ _ rfl rfl)
       ·refine Ak hs (Aa Ac rfl (qf Cn rfl (ql Gr rfl (qm rfl (qm rfl ?_)))))
        obtain ⟨v54, a54, b54, h⟩ := Aj h
        refine qI CQ Fo a54 (Ag b54) rfl ?_
        refine Ba rfl rfl rfl rfl (Ag b54) rfl Fo rfl (A4 rfl) (A9 Bj ((([] : List Int)) ++ p1.fHeld) _ v35) ?_
        refine Ad ?_
        exact Aw _ h (sm [(2001, 2034), (2002, 2035), (2003, 2036)] _ _ rfl rfl)
    ·have h := Al c31 h
     refine Ab (Ab (Aa Ac rfl (qf BB rfl (ql Bh rfl (qm rfl ?_)))))
     obtain ⟨v55, a55, b55, h⟩ := Aj h
     refine qi AJ Dh a55 (Ag b55) rfl (qk Cg rfl (A0 rfl (Ad ?_)))
     refine An rfl (fun c56 => ?_) (fun c56 => ?_)
     ·have h := Am c56 h
      refine Ab (Aa Ac rfl (BK Cm Hu rfl (qs Ay rfl (qa rfl (Ad ?_)))))
      obtain rfl := sj h
      refine Ak ((AE 6 0 2046 1 _ rfl rfl rfl rfl).trans ((AE 6 1 2047 1 _ rfl rfl rfl rfl).trans ((AE 6 2 2048 1 _ rfl rfl rfl rfl).trans (sm [(1000, 2046), (1001, 2047), (1002, 2048)] [(6, oD (.ptr 6 0)), (7, bD false)] [(6, .box [.own 1000, .own 1001, .own 1002]), (1000, .vec 1 ((([] : List Int)).map Ai)), (1001, .vec 1 ((([] : List Int)).map Ai)), (1002, .vec 1 ((([] : List Int)).map Bj))] rfl rfl)))) (Az ?_)
      exact ⟨⟨[_, _], ⟨.cellN _ _ _ _ _ _ _ rfl rfl A1 Ay rfl rfl (IQ rfl), ⟨.tmp _ _ rfl, tv⟩⟩, rfl⟩, ⟨rfl, rfl, rfl, tv⟩⟩
     ·have h := Al c56 h
      refine Ap (Aa Ac rfl (qf BB rfl (ql Bh rfl (qm rfl ?_))))
      obtain ⟨v57, a57, b57, h⟩ := Aj h
      refine qI AJ Dh a57 (Ag b57) rfl ?_
      refine Ba rfl rfl rfl rfl (Ag b57) rfl Dh rfl (A4 rfl) (A9 Ai ((([] : List Int)) ++ p1.fNext) _ ((-1))) ?_
      refine Ad ?_
      exact Aw _ h (sm [(2001, 18), (2002, 22), (2003, 26)] _ _ rfl rfl)
 ·refine Ab (Aa Ac rfl (qL A1 Ay rfl (qs Ay rfl (qa rfl (Ad ?_)))))
  obtain rfl := sj h
  refine Ak (sm [(1000, 2001), (1001, 2002), (1002, 2003)] [(6, oD (.ptr 6 0)), (7, bD true)] [(6, .box [.own 1000, .own 1001, .own 1002]), (1000, .vec 1 (v4.1.map Ai)), (1001, .vec 1 (v4.2.1.map Ai)), (1002, .vec 1 (v4.2.2.map Bj))] rfl rfl) (Az ?_)
  exact ⟨⟨[_, _], ⟨.cellN _ _ _ _ _ _ _ rfl rfl A1 Ay rfl rfl (IQ rfl), ⟨.tmp _ _ rfl, tv⟩⟩, rfl⟩, ⟨rfl, rfl, rfl, tv⟩⟩
theorem JS (N : Nat) (p0 : Ah) (p1 : Ae) (p2 : Au) (r : Ae × Int) (h : D9 N p0 p1 p2 = some r) : AB Tryz.prog 66 [.e (.agg [sC (p0.fVersions.map Ai), sC (p0.fNow.map Ai), sC (p0.fTarget.map Ai), sC (p0.fTables.map Ao)]), .e (.agg [sC (p1.fBase.map Ai), sC (p1.fNext.map Ai), sC (p1.fHeld.map Bj)]), .e (.agg [iC p2.fKind, iC p2.fIndex, iC p2.fVersion])] [(1, r.1.fBase.map Ai), (1, r.1.fNext.map Ai), (1, r.1.fHeld.map Bj)] (.tup [.agg [.own 0, .own 1, .own 2], .one (iC r.2)]) := by
 unfold D9 at h
 refine Ar (n := 73) (rs := [.cell 6 50, .tmp 7]) Tryz.func66 rfl rfl rfl (A4 rfl) (A4 rfl) rfl fun w0 S0 => ?_
 refine Ab (Aa Ac rfl (qb rfl (qb rfl (qb rfl (qz Cm rfl (qa rfl (Ad (Ab (Ab (Aa Ac rfl (qL Ec DQ rfl (qL A1 Ay rfl ?_))))))))))))
 obtain ⟨v1, a1, h⟩ := bind_some h
 refine AH [] (HE N p0 p1 v1 a1) W0 rfl (qa rfl (Ad (Ab (Aa Ac rfl (qm rfl (B2 rfl (Ad ?_)))))))
 refine An rfl (fun c2 => ?_) (fun c2 => ?_)
 ·have h := Am c2 h
  refine Ab (Aa Ac rfl (BK Cm Hu rfl (qm rfl (qs Ay rfl (qa rfl (Ad ?_))))))
  obtain rfl := sj h
  refine Ak ((AE 6 0 2001 1 _ rfl rfl rfl rfl).trans ((AE 6 1 2002 1 _ rfl rfl rfl rfl).trans ((AE 6 2 2003 1 _ rfl rfl rfl rfl).trans (sm [(1000, 2001), (1001, 2002), (1002, 2003)] [(6, oD (.ptr 6 0)), (7, iD v1)] [(6, .box [.own 1000, .own 1001, .own 1002]), (1000, .vec 1 ((([] : List Int)).map Ai)), (1001, .vec 1 ((([] : List Int)).map Ai)), (1002, .vec 1 ((([] : List Int)).map Bj))] rfl rfl)))) (Az ?_)
  exact ⟨⟨[_, _], ⟨.cellN _ _ _ _ _ _ _ rfl rfl A1 Ay rfl rfl (IQ rfl), ⟨.tmp _ _ rfl, tv⟩⟩, rfl⟩, ⟨rfl, rfl, rfl, tv⟩⟩
 ·have h := Al c2 h
  refine Ap (Ab (Ab (Aa Ac rfl (qL IV EH rfl ?_))))
  obtain ⟨v3, a3, h⟩ := bind_some h
  refine AH [] (JU N p2 v3 a3) Yn rfl (Cd rfl (Ad ?_))
  refine An rfl (fun c4 => ?_) (fun c4 => ?_)
  ·have h := Am c4 h
   refine Ab (Aa Ac rfl (BK Cm Hu rfl (qs Ay rfl (qa rfl (Ad ?_)))))
   obtain rfl := sj h
   refine Ak ((AE 6 0 2004 1 _ rfl rfl rfl rfl).trans ((AE 6 1 2005 1 _ rfl rfl rfl rfl).trans ((AE 6 2 2006 1 _ rfl rfl rfl rfl).trans (sm [(1000, 2004), (1001, 2005), (1002, 2006)] [(6, oD (.ptr 6 0)), (7, iD 1)] [(6, .box [.own 1000, .own 1001, .own 1002]), (1000, .vec 1 ((([] : List Int)).map Ai)), (1001, .vec 1 ((([] : List Int)).map Ai)), (1002, .vec 1 ((([] : List Int)).map Bj))] rfl rfl)))) (Az ?_)
   exact ⟨⟨[_, _], ⟨.cellN _ _ _ _ _ _ _ rfl rfl A1 Ay rfl rfl (IQ rfl), ⟨.tmp _ _ rfl, tv⟩⟩, rfl⟩, ⟨rfl, rfl, rfl, tv⟩⟩
  ·have h := Al c4 h
   refine Ap (Ab ?_)
   refine AT h (fun v5 => mk [(3, oD (.ptr 3 0)), (4, oD (.ptr 4 0)), (5, oD (.ptr 5 0)), (6, oD (.ptr 6 0)), (45, bD v5)] [(3, .box [sC (p0.fVersions.map Ai), sC (p0.fNow.map Ai), sC (p0.fTarget.map Ai), sC (p0.fTables.map Ao)]), (4, .box [sC (p1.fBase.map Ai), sC (p1.fNext.map Ai), sC (p1.fHeld.map Bj)]), (5, .box [iC p2.fKind, iC p2.fIndex, iC p2.fVersion]), (6, .box [.pure (.nil0), .pure (.nil0), .pure (.nil0)])]) (fun j5 h => ?_) (fun v5 h => ?_)
   ·refine Aa Ac rfl (qf Fj rfl (ql Cg rfl (BE rfl (qm rfl ?_))))
    refine AF (t := 25) rfl (fun c6 => ?_) (fun c6 => ?_)
    ·have h := Am c6 h
     refine qf ED rfl (ql Cg rfl (qf CH rfl (ql G5 rfl (AW D2 rfl (Df rfl (qp rfl (qm rfl ?_)))))))
     refine AF (t := 33) rfl (fun c7 => ?_) (fun c7 => ?_)
     ·have h := Am c7 h
      refine qn rfl (qn rfl (qn rfl (qn rfl (qu rfl (qu rfl (qu rfl (qu rfl (qu rfl (qu rfl (qn rfl (qp rfl (Ad ?_))))))))))))
      exact Aw _ h (sm [] _ _ rfl rfl)
     ·have h := Al c7 h
      refine qf Fj rfl (ql Cg rfl (B2 rfl (qm rfl ?_)))
      refine AF (t := 37) rfl (fun c8 => ?_) (fun c8 => ?_)
      ·have h := Am c8 h
       refine qf ED rfl (ql Cg rfl (qf By rfl (ql Bh rfl (AW AJ rfl (Df rfl (qp rfl (qp rfl (Ad ?_))))))))
       exact Aw _ h (sm [] _ _ rfl rfl)
      ·have h := Al c8 h
       refine qn rfl (qn rfl (qn rfl (qn rfl (qn rfl (qn rfl (qp rfl (qp rfl (Ad ?_))))))))
       exact Aw _ h (sm [] _ _ rfl rfl)
    ·have h := Al c6 h
     refine qn rfl (qn rfl (qn rfl (qn rfl (qn rfl (qn rfl (qp rfl (qm rfl (qf Fj rfl (ql Cg rfl (B2 rfl (qm rfl ?_)))))))))))
     refine AF (t := 37) rfl (fun c9 => ?_) (fun c9 => ?_)
     ·have h := Am c9 h
      refine qf ED rfl (ql Cg rfl (qf By rfl (ql Bh rfl (AW AJ rfl (Df rfl (qp rfl (qp rfl (Ad ?_))))))))
      exact Aw _ h (sm [] _ _ rfl rfl)
     ·have h := Al c9 h
      refine qn rfl (qn rfl (qn rfl (qn rfl (qn rfl (qn rfl (qp rfl (qp rfl (Ad ?_))))))))
      exact Aw _ h (sm [] _ _ rfl rfl)
   ·refine An rfl (fun c10 => ?_) (fun c10 => ?_)
    ·have h := Am c10 h
     refine Ab (Aa Ac rfl (BK Cm Hu rfl (qs Ay rfl (qa rfl (Ad ?_)))))
     obtain rfl := sj h
     refine Ak ((AE 6 0 2007 1 _ rfl rfl rfl rfl).trans ((AE 6 1 2008 1 _ rfl rfl rfl rfl).trans ((AE 6 2 2009 1 _ rfl rfl rfl rfl).trans (sm [(1000, 2007), (1001, 2008), (1002, 2009)] [(6, oD (.ptr 6 0)), (7, iD 4)] [(6, .box [.own 1000, .own 1001, .own 1002]), (1000, .vec 1 ((([] : List Int)).map Ai)), (1001, .vec 1 ((([] : List Int)).map Ai)), (1002, .vec 1 ((([] : List Int)).map Bj))] rfl rfl)))) (Az ?_)
     exact ⟨⟨[_, _], ⟨.cellN _ _ _ _ _ _ _ rfl rfl A1 Ay rfl rfl (IQ rfl), ⟨.tmp _ _ rfl, tv⟩⟩, rfl⟩, ⟨rfl, rfl, rfl, tv⟩⟩
    ·have h := Al c10 h
     refine Ap (Ab ?_)
     refine AT h (fun v11 => mk [(3, oD (.ptr 3 0)), (4, oD (.ptr 4 0)), (5, oD (.ptr 5 0)), (6, oD (.ptr 6 0)), (60, bD v11)] [(3, .box [sC (p0.fVersions.map Ai), sC (p0.fNow.map Ai), sC (p0.fTarget.map Ai), sC (p0.fTables.map Ao)]), (4, .box [sC (p1.fBase.map Ai), sC (p1.fNext.map Ai), sC (p1.fHeld.map Bj)]), (5, .box [iC p2.fKind, iC p2.fIndex, iC p2.fVersion]), (6, .box [.pure (.nil0), .pure (.nil0), .pure (.nil0)])]) (fun j11 h => ?_) (fun v11 h => ?_)
     ·refine Aa Ac rfl (qf Fj rfl (ql Cg rfl (BE rfl (qm rfl ?_))))
      refine AF (t := 50) rfl (fun c12 => ?_) (fun c12 => ?_)
      ·have h := Am c12 h
       refine qf Gb rfl (ql Cg rfl (qf By rfl (ql Bh rfl (qf ED rfl (ql Cg rfl ?_)))))
       obtain ⟨v13, a13, b13, h⟩ := Aj h
       refine qi AJ Dh a13 (Ag b13) rfl (qk Cg rfl (Df rfl (qp rfl (AQ (by kernel_rfl) ?_))))
       exact Aw _ h (sm [] _ _ rfl rfl)
      ·have h := Al c12 h
       refine qn rfl (qn rfl (qn rfl (qn rfl (qn rfl (qn rfl (qn rfl (qn rfl (qn rfl (qp rfl (AQ (by kernel_rfl) ?_))))))))))
       exact Aw _ h (sm [] _ _ rfl rfl)
     ·refine An rfl (fun c14 => ?_) (fun c14 => ?_)
      ·have h := Am c14 h
       refine Ab (Aa Ac rfl (BK Cm Hu rfl (qs Ay rfl (qa rfl (Ad ?_)))))
       obtain rfl := sj h
       refine Ak ((AE 6 0 2010 1 _ rfl rfl rfl rfl).trans ((AE 6 1 2011 1 _ rfl rfl rfl rfl).trans ((AE 6 2 2012 1 _ rfl rfl rfl rfl).trans (sm [(1000, 2010), (1001, 2011), (1002, 2012)] [(6, oD (.ptr 6 0)), (7, iD 4)] [(6, .box [.own 1000, .own 1001, .own 1002]), (1000, .vec 1 ((([] : List Int)).map Ai)), (1001, .vec 1 ((([] : List Int)).map Ai)), (1002, .vec 1 ((([] : List Int)).map Bj))] rfl rfl)))) (Az ?_)
       exact ⟨⟨[_, _], ⟨.cellN _ _ _ _ _ _ _ rfl rfl A1 Ay rfl rfl (IQ rfl), ⟨.tmp _ _ rfl, tv⟩⟩, rfl⟩, ⟨rfl, rfl, rfl, tv⟩⟩
      ·have h := Al c14 h
       refine Ap (Ab (Aa Ac rfl (qL Ec DQ rfl (qL A1 Ay rfl (qL IV EH rfl ?_)))))
       obtain ⟨v15, a15, h⟩ := bind_some h
       refine AH [2013, 2014, 2015] (JP N p0 p1 p2 v15 a15) X0 rfl (qm rfl (qx rfl (qx rfl (qz Cm rfl (qs Ay rfl (qa rfl (Ad (Ab (Ab (Aa Ac rfl (qm rfl (Cd rfl (Ad ?_)))))))))))))
       refine An rfl (fun c16 => ?_) (fun c16 => ?_)
       ·have h := Am c16 h
        refine Ab (Aa Ac rfl (BK Cm Hu rfl (qs Ay rfl (qa rfl (Ad ?_)))))
        obtain rfl := sj h
        refine Ak ((AE 6 0 2016 1 _ rfl rfl rfl rfl).trans ((AE 6 1 2017 1 _ rfl rfl rfl rfl).trans ((AE 6 2 2018 1 _ rfl rfl rfl rfl).trans (sm [(1000, 2016), (1001, 2017), (1002, 2018)] [(6, oD (.ptr 6 0)), (7, iD 11)] [(6, .box [.own 1000, .own 1001, .own 1002]), (1000, .vec 1 ((([] : List Int)).map Ai)), (1001, .vec 1 ((([] : List Int)).map Ai)), (1002, .vec 1 ((([] : List Int)).map Bj))] rfl rfl)))) (Az ?_)
        exact ⟨⟨[_, _], ⟨.cellN _ _ _ _ _ _ _ rfl rfl A1 Ay rfl rfl (IQ rfl), ⟨.tmp _ _ rfl, tv⟩⟩, rfl⟩, ⟨rfl, rfl, rfl, tv⟩⟩
       ·have h := Al c16 h
        refine Ap (Ab (Aa Ac rfl (qL A1 Ay rfl (qs Ay rfl (qa rfl (Ad ?_))))))
        obtain rfl := sj h
        refine Ak (sm [(1000, 2013), (1001, 2014), (1002, 2015)] [(6, oD (.ptr 6 0)), (7, iD 0)] [(6, .box [.own 1000, .own 1001, .own 1002]), (1000, .vec 1 (v15.1.fBase.map Ai)), (1001, .vec 1 (v15.1.fNext.map Ai)), (1002, .vec 1 (v15.1.fHeld.map Bj))] rfl rfl) (Az ?_)
        exact ⟨⟨[_, _], ⟨.cellN _ _ _ _ _ _ _ rfl rfl A1 Ay rfl rfl (IQ rfl), ⟨.tmp _ _ rfl, tv⟩⟩, rfl⟩, ⟨rfl, rfl, rfl, tv⟩⟩
theorem KY (N : Nat) (p0 : Ah) (p1 : Ae) (p2 : List Au) (r : (List Ae) × Int × Int) (h : EC N p0 p1 p2 = some r) : AB Tryz.prog 42 [.e (.agg [sC (p0.fVersions.map Ai), sC (p0.fNow.map Ai), sC (p0.fTarget.map Ai), sC (p0.fTables.map Ao)]), .e (.agg [sC (p1.fBase.map Ai), sC (p1.fNext.map Ai), sC (p1.fHeld.map Bj)]), pD (.sl (p2.map AP))] [(3, r.1.map Af)] (.tup [.one (.own 0), .one (iC r.2.1), .one (iC r.2.2)]) := by
 unfold EC at h
 refine Ar (n := 52) (rs := [.tmp 6, .tmp 7, .tmp 8]) Tryz.func42 rfl rfl rfl (A4 rfl) (A4 rfl) rfl fun w0 S0 => ?_
 refine Ab (Aa Ac rfl (qb rfl (qb rfl (qa rfl (qa rfl (qa rfl (Ad (Ab (Ab (Aa Ac rfl (qL Ec DQ rfl (qL A1 Ay rfl ?_))))))))))))
 obtain ⟨v1, a1, h⟩ := bind_some h
 refine AH [] (HE N p0 p1 v1 a1) W0 rfl (qa rfl (Ad (Ab (Aa Ac rfl (qm rfl (B2 rfl (Ad ?_)))))))
 refine An rfl (fun c2 => ?_) (fun c2 => ?_)
 ·have h := Am c2 h
  refine Ab (Aa Ac rfl (qm rfl (qa rfl (qa rfl (qa rfl (Ad ?_))))))
  obtain rfl := sj h
  refine Ak ((Bg 6 2001 3 rfl rfl rfl).trans (sm [(1000, 2001)] [(6, oD (.own 1000)), (7, iD 0), (8, iD v1)] [(1000, .vec 3 ((([] : List Ae)).map Af))] rfl rfl)) (Az ?_)
  exact ⟨⟨[_, _, _], ⟨.tmp _ _ rfl, ⟨.tmp _ _ rfl, ⟨.tmp _ _ rfl, tv⟩⟩⟩, rfl⟩, ⟨rfl, tv⟩⟩
 ·have h := Al c2 h
  refine Ap (Ab (Aa Ac rfl (qL A1 Ay rfl (DX AN Ay Cm rfl (qa rfl (Ad (Ab (Ab (Aa Ac rfl (qa rfl (Ad ?_)))))))))))
  refine AM (L := Da N p0 p2) h (fun v3 => mk [(2, pD (.sl (p2.map AP))), (3, oD (.ptr 3 0)), (10, oD (.own 2002)), (11, iD v3.2)] [(3, .box [sC (p0.fVersions.map Ai), sC (p0.fNow.map Ai), sC (p0.fTarget.map Ai), sC (p0.fTables.map Ao)]), (2002, .vec 3 (v3.1.map Af))]) (fun v4 => mk [(2, pD (.sl (p2.map AP))), (10, oD (.own 2003))] [(2003, .vec 3 (v4.map Af))]) (fun _ _ => rfl) (sm [(2002, 21)] _ _ rfl rfl) (fun j3 n3 v3 h => ?_) (fun v4 s h hs => ?_)
  ·unfold Da at h
   refine Ab (Ab (Aa Ac rfl (qm rfl (qm rfl (AW Dp rfl (A0 rfl (Ad ?_)))))))
   refine An rfl (fun c5 => ?_) (fun c5 => ?_)
   ·have h := Am c5 h
    refine Ap (Ab (AR (Ab (Aa Ac rfl (qL Ec DQ rfl (qm rfl (qm rfl ?_)))))))
    obtain ⟨v6, a6, b6, h⟩ := Aj h
    refine qI AN Ay a6 (Ag b6) rfl (qJ A1 Ay (Ag b6) rfl (qm rfl (qm rfl ?_)))
    obtain ⟨v7, a7, b7, h⟩ := Aj h
    refine qi Dp EH a7 (Ag b7) rfl (qK IV EH rfl ?_)
    obtain ⟨v8, a8, h⟩ := bind_some h
    refine AH [2004, 2005, 2006] (JS N p0 v6 v7 v8 a8) XR rfl (qm rfl (qx rfl (qx rfl (qz Cm rfl (qs Ay rfl (qa rfl (AQ (by kernel_rfl) (Ab (Ab (Aa Ac rfl (qm rfl (B2 rfl (Ad ?_)))))))))))))
    refine An rfl (fun c9 => ?_) (fun c9 => ?_)
    ·have h := Am c9 h
     refine Ab (Aa Ac rfl (qm rfl (qm rfl (qa rfl (qa rfl (qa rfl (Ad ?_)))))))
     obtain rfl := sj h
     refine Ak ((Bg 6 2007 3 rfl rfl rfl).trans (sm [(1000, 2007)] [(6, oD (.own 1000)), (7, iD v3.2), (8, iD v8.2)] [(1000, .vec 3 ((([] : List Ae)).map Af))] rfl rfl)) (Az ?_)
     exact ⟨⟨[_, _, _], ⟨.tmp _ _ rfl, ⟨.tmp _ _ rfl, ⟨.tmp _ _ rfl, tv⟩⟩⟩, rfl⟩, ⟨rfl, tv⟩⟩
    ·have h := Al c9 h
     refine Ap (Aa Ac rfl (qm rfl (qL A1 Ay rfl (CJ (A3 2004 _ _ rfl rfl) (CJ (A3 2005 _ _ rfl rfl) (CJ (A3 2006 _ _ rfl rfl) (DX AN Ay Cm rfl ?_)))))))
     obtain ⟨c10, h⟩ := AL h
     refine De (f := Af) AN AN Ay Jl Cm c10 rfl (qa rfl (Ad (Aa Ac rfl (qm rfl (AX rfl (qa rfl (Ad ?_)))))))
     exact Aw _ h (sm [(2002, 48)] _ _ rfl rfl)
   ·have h := Al c5 h
    refine AY ?_
    exact Aw _ h (sm [(2003, 2002)] _ _ rfl rfl)
  ·refine Ak hs (Ab (Aa Ac rfl (qm rfl (qm rfl (AW Dp rfl (qa rfl (qa rfl (qa rfl (Ad ?_)))))))))
   obtain rfl := sj h
   refine Ak (sm [(1000, 2003)] [(6, oD (.own 1000)), (7, iD ((p2.length : Int))), (8, iD 0)] [(1000, .vec 3 (v4.map Af))] rfl rfl) (Az ?_)
   exact ⟨⟨[_, _, _], ⟨.tmp _ _ rfl, ⟨.tmp _ _ rfl, ⟨.tmp _ _ rfl, tv⟩⟩⟩, rfl⟩, ⟨rfl, tv⟩⟩
theorem Jv (N : Nat) (p0 : Ae) (r : Ae) (h : DV N p0 = some r) : AB Tryz.prog 67 [.e (.agg [sC (p0.fBase.map Ai), sC (p0.fNext.map Ai), sC (p0.fHeld.map Bj)])] [(1, r.fBase.map Ai), (1, r.fNext.map Ai), (1, r.fHeld.map Bj)] (.e (.agg [.own 0, .own 1, .own 2])) := by
 unfold DV at h
 refine Ar (n := 16) (rs := [.cell 2 50]) Tryz.func67 rfl rfl rfl (A4 rfl) (A4 rfl) rfl fun w0 S0 => ?_
 refine Ab (Aa Ac rfl (qb rfl (qz Cm rfl (Ad (Ab (Aa Ac rfl (DX AJ Dh Km rfl (qf CE rfl (ql Bh rfl ?_)))))))))
 obtain ⟨c1, h⟩ := AL h
 refine I1 (f := Ai) AJ AJ Dh Lh Km (fun _ => rfl) c1 rfl (DX AJ Dh Km rfl (qf BB rfl (ql Bh rfl ?_)))
 obtain ⟨c2, h⟩ := AL h
 refine I1 (f := Ai) AJ AJ Dh Lh Km (fun _ => rfl) c2 rfl (DX CQ Fo Pi rfl (qf Cn rfl (ql Gr rfl ?_)))
 obtain ⟨c3, h⟩ := AL h
 refine I1 (f := Bj) CQ CQ Fo Pt Pi (fun _ => rfl) c3 rfl (BK Cm Hu rfl (qs Ay rfl (AQ (by kernel_rfl) ?_)))
 obtain rfl := sj h
 refine Ak (sm [(1000, 6), (1001, 10), (1002, 14)] [(2, oD (.ptr 2 0))] [(2, .box [.own 1000, .own 1001, .own 1002]), (1000, .vec 1 (((([] : List Int)) ++ p0.fBase).map Ai)), (1001, .vec 1 (((([] : List Int)) ++ p0.fNext).map Ai)), (1002, .vec 1 (((([] : List Int)) ++ p0.fHeld).map Bj))] rfl rfl) (Az ?_)
 exact ⟨⟨[_], ⟨.cellN _ _ _ _ _ _ _ rfl rfl A1 Ay rfl rfl (IQ rfl), tv⟩, rfl⟩, ⟨rfl, rfl, rfl, tv⟩⟩
theorem KI (N : Nat) (p0 : Ae) (r : (List Ae)) (h : DZ N p0 = some r) : AB Tryz.prog 43 [.e (.agg [sC (p0.fBase.map Ai), sC (p0.fNext.map Ai), sC (p0.fHeld.map Bj)])] [(3, r.map Af)] (oD (.own 0)) := by
 unfold DZ at h
 refine Ar (n := 62) (rs := [.tmp 2]) Tryz.func43 rfl rfl rfl (A4 rfl) (A4 rfl) rfl fun w0 S0 => ?_
 refine Ab (Aa Ac rfl (qb rfl (qa rfl (Ad (Ab (Aa Ac rfl (qa rfl (Ad (Ab (Ab (Aa Ac rfl (qa rfl (Ad ?_)))))))))))))
 refine AM (L := Ci N p0) h (fun v1 => mk [(1, oD (.ptr 1 0)), (3, iD v1.1), (4, iD v1.2)] [(1, .box [sC (p0.fBase.map Ai), sC (p0.fNext.map Ai), sC (p0.fHeld.map Bj)])]) (fun v2 => mk [(1, oD (.ptr 1 0)), (3, iD v2)] [(1, .box [sC (p0.fBase.map Ai), sC (p0.fNext.map Ai), sC (p0.fHeld.map Bj)])]) (fun _ _ => rfl) (sm [] _ _ rfl rfl) (fun j1 n1 v1 h => ?_) (fun v2 s h hs => ?_)
 ·unfold Ci at h
  refine Ab (Ab (Aa Ac rfl (qm rfl (qf BB rfl (ql Bh rfl (AW AJ rfl (A0 rfl (Ad ?_))))))))
  refine An rfl (fun c3 => ?_) (fun c3 => ?_)
  ·have h := Am c3 h
   refine Ap ?_
   refine AT h (fun v4 => mk [(1, oD (.ptr 1 0)), (3, iD v4), (4, iD v1.2)] [(1, .box [sC (p0.fBase.map Ai), sC (p0.fNext.map Ai), sC (p0.fHeld.map Bj)])]) (fun j4 h => ?_) (fun v4 h => ?_)
   ·refine AR (Ab (Aa Ac rfl (qf BB rfl (ql Bh rfl (qm rfl ?_)))))
    obtain ⟨v5, a5, b5, h⟩ := Aj h
    refine qi AJ Dh a5 (Ag b5) rfl (qk Cg rfl (Df rfl (Ad ?_)))
    refine An rfl (fun c6 => ?_) (fun c6 => ?_)
    ·have h := Am c6 h
     refine Aa Ac rfl (qm rfl (AX rfl (qa rfl (Ad ?_))))
     exact Aw _ h (sm [] _ _ rfl rfl)
    ·have h := Al c6 h
     refine Ap ?_
     exact Aw _ h (sm [] _ _ rfl rfl)
   ·refine Aa Ac rfl (qm rfl (AX rfl (qa rfl (Ad ?_))))
    exact Aw _ h (sm [] _ _ rfl rfl)
  ·have h := Al c3 h
   refine AY ?_
   exact Aw _ h (sm [] _ _ rfl rfl)
 ·refine Ak hs (Ab (Aa Ac rfl (qa rfl (Ad (Ab (Ab (Aa Ac rfl (qa rfl (Ad ?_)))))))))
  refine AM (L := Bv N p0 v2) h (fun v7 => mk [(1, oD (.ptr 1 0)), (3, iD v2), (5, oD (.own 2001)), (6, iD v7.2)] [(1, .box [sC (p0.fBase.map Ai), sC (p0.fNext.map Ai), sC (p0.fHeld.map Bj)]), (2001, .vec 3 (v7.1.map Af))]) (fun v8 => mk [(5, oD (.own 2002))] [(2002, .vec 3 (v8.map Af))]) (fun _ _ => rfl) ((Bg 5 2022 3 rfl rfl rfl).trans (sm [(2001, 2022)] _ _ rfl rfl)) (fun j7 n7 v7 h => ?_) (fun v8 s h hs => ?_)
  ·unfold Bv at h
   refine Ab (Ab (Aa Ac rfl (qm rfl (qm rfl ?_))))
   obtain ⟨c9, h⟩ := AL h
   refine Hs rfl c9 (A0 rfl (Ad ?_))
   refine An rfl (fun c10 => ?_) (fun c10 => ?_)
   ·have h := Am c10 h
    refine Ap (Ab (AR (Ab (Aa Ac rfl (qL A1 Ay rfl ?_)))))
    obtain ⟨v11, a11, h⟩ := bind_some h
    refine AH [2003, 2004, 2005] (Jv N p0 v11 a11) Yr rfl (qz Cm rfl (qs Ay rfl (Ad (Ab (Aa Ac rfl (qa rfl (Ad (Ab (Ab (Aa Ac rfl (qa rfl (Ad ?_))))))))))))
    refine AM (L := BL N p0 v7) h (fun v12 => mk [(1, oD (.ptr 1 0)), (3, iD v2), (5, oD (.own 2009)), (6, iD v7.2), (7, oD (.ptr 7 0)), (8, iD v12.2.1), (9, iD v12.2.2)] [(1, .box [sC (p0.fBase.map Ai), sC (p0.fNext.map Ai), sC (p0.fHeld.map Bj)]), (7, .box [.own 2006, .own 2007, .own 2008]), (2006, .vec 1 (v11.fBase.map Ai)), (2007, .vec 1 (v12.1.map Ai)), (2008, .vec 1 (v11.fHeld.map Bj)), (2009, .vec 3 (v7.1.map Af))]) (fun v13 => mk [(1, oD (.ptr 1 0)), (3, iD v2), (5, oD (.own 2013)), (6, iD v7.2), (7, oD (.ptr 7 0))] [(1, .box [sC (p0.fBase.map Ai), sC (p0.fNext.map Ai), sC (p0.fHeld.map Bj)]), (7, .box [.own 2010, .own 2011, .own 2012]), (2010, .vec 1 (v11.fBase.map Ai)), (2011, .vec 1 (v13.map Ai)), (2012, .vec 1 (v11.fHeld.map Bj)), (2013, .vec 3 (v7.1.map Af))]) (fun _ _ => rfl) (sm [(2006, 2003), (2007, 2004), (2008, 2005), (2009, 2001)] _ _ rfl rfl) (fun j12 n12 v12 h => ?_) (fun v13 s h hs => ?_)
    ·unfold BL at h
     refine Ab (Ab (Aa Ac rfl (qm rfl (qf BB rfl (ql Bh rfl (AW AJ rfl (A0 rfl (Ad ?_))))))))
     refine An rfl (fun c14 => ?_) (fun c14 => ?_)
     ·have h := Am c14 h
      refine Ap ?_
      refine AT h (fun v15 => mk [(1, oD (.ptr 1 0)), (3, iD v2), (5, oD (.own 2017)), (6, iD v7.2), (7, oD (.ptr 7 0)), (8, iD v15.2), (9, iD v12.2.2)] [(1, .box [sC (p0.fBase.map Ai), sC (p0.fNext.map Ai), sC (p0.fHeld.map Bj)]), (7, .box [.own 2014, .own 2015, .own 2016]), (2014, .vec 1 (v11.fBase.map Ai)), (2015, .vec 1 (v15.1.map Ai)), (2016, .vec 1 (v11.fHeld.map Bj)), (2017, .vec 3 (v7.1.map Af))]) (fun j15 h => ?_) (fun v15 h => ?_)
      ·refine AR (Ab (Ab (Aa Ac rfl (qf BB rfl (ql Bh rfl (qm rfl ?_))))))
       obtain ⟨v16, a16, b16, h⟩ := Aj h
       refine qi AJ Dh a16 (Ag b16) rfl (qk Cg rfl (A0 rfl (Ad ?_)))
       refine An rfl (fun c17 => ?_) (fun c17 => ?_)
       ·have h := Am c17 h
        refine AY ?_
        exact Aw _ h (sm [(2014, 2006), (2015, 2007), (2016, 2008), (2017, 2009)] _ _ rfl rfl)
       ·have h := Al c17 h
        refine Ap ?_
        refine AT h (fun v18 => mk [(1, oD (.ptr 1 0)), (3, iD v2), (5, oD (.own 2021)), (6, iD v7.2), (7, oD (.ptr 7 0)), (8, iD v12.2.1), (9, iD v12.2.2)] [(1, .box [sC (p0.fBase.map Ai), sC (p0.fNext.map Ai), sC (p0.fHeld.map Bj)]), (7, .box [.own 2018, .own 2019, .own 2020]), (2018, .vec 1 (v11.fBase.map Ai)), (2019, .vec 1 (v18.map Ai)), (2020, .vec 1 (v11.fHeld.map Bj)), (2021, .vec 3 (v7.1.map Af))]) (fun j18 h => ?_) (fun v18 h => ?_)
        ·refine Ab (Aa Ac rfl (qm rfl (qm rfl ?_)))
         obtain ⟨c19, h⟩ := AL h
         refine GC rfl c19 (J2 rfl (by decide) (BE rfl (Ad ?_)))
         refine An rfl (fun c20 => ?_) (fun c20 => ?_)
         ·have h := Am c20 h
          refine Aa Ac rfl (qf BB rfl (ql Bh rfl (qm rfl ?_)))
          obtain ⟨v21, a21, b21, h⟩ := Aj h
          refine qI AJ Dh a21 (Ag b21) rfl ?_
          refine Ba rfl rfl rfl rfl (Ag b21) rfl Dh rfl (A4 rfl) (A9 Ai v12.1 _ ((-1))) ?_
          refine Ad ?_
          exact Aw _ h (sm [(2018, 2006), (2019, 2007), (2020, 2008), (2021, 2009)] _ _ rfl rfl)
         ·have h := Al c20 h
          refine Ap ?_
          exact Aw _ h (sm [(2018, 2006), (2019, 2007), (2020, 2008), (2021, 2009)] _ _ rfl rfl)
        ·refine Aa Ac rfl (qm rfl (AX rfl (qa rfl (Ad ?_))))
         exact Aw _ h (sm [(2014, 2018), (2015, 2019), (2016, 2020), (2017, 2021)] _ _ rfl rfl)
      ·refine Aa Ac rfl (qm rfl (AX rfl (qa rfl (Ad ?_))))
       exact Aw _ h (sm [(2006, 2014), (2007, 2015), (2008, 2016), (2009, 2017)] _ _ rfl rfl)
     ·have h := Al c14 h
      refine AY ?_
      exact Aw _ h (sm [(2010, 2006), (2011, 2007), (2012, 2008), (2013, 2009)] _ _ rfl rfl)
    ·refine Ak hs (Aa Ac rfl (qm rfl (qL A1 Ay rfl (CJ (A3 2010 _ _ rfl rfl) (CJ (A3 2011 _ _ rfl rfl) (CJ (A3 2012 _ _ rfl rfl) (DX AN Ay Cm rfl ?_)))))))
     obtain ⟨c22, h⟩ := AL h
     refine De (f := Af) AN AN Ay Jl Cm c22 rfl (qa rfl (Ad (Aa Ac rfl (qm rfl (AX rfl (qa rfl (Ad ?_)))))))
     exact Aw _ h (sm [(2001, 60)] _ _ rfl rfl)
   ·have h := Al c10 h
    refine AY ?_
    exact Aw _ h (sm [(2002, 2001)] _ _ rfl rfl)
  ·refine Ak hs (Ab (Aa Ac rfl (qm rfl (qa rfl (Ad ?_)))))
   obtain rfl := sj h
   refine Ak (sm [(1000, 2002)] [(2, oD (.own 1000))] [(1000, .vec 3 (v8.map Af))] rfl rfl) (Az ?_)
   exact ⟨⟨[_], ⟨.tmp _ _ rfl, tv⟩, rfl⟩, ⟨rfl, tv⟩⟩
theorem Gp (N : Nat) (p0 : List Int) (p1 : List Int) (r : Int) (h : C4 N p0 p1 = some r) : AB Tryz.prog 73 [pD (.sl (p0.map Ai)), pD (.sl (p1.map Ai))] [] (iD r) := by
 unfold C4 at h
 refine Ar (n := 46) (rs := [.tmp 4]) Tryz.func73 rfl rfl rfl (A4 rfl) (A4 rfl) rfl fun w0 S0 => ?_
 refine Ab (Aa Ac rfl (qa rfl (Ad (Ab (Ab (Aa Ac rfl (qa rfl (Ad ?_))))))))
 refine AM (L := CV N p0 p1) h (fun v1 => mk [(0, pD (.sl (p0.map Ai))), (1, pD (.sl (p1.map Ai))), (5, iD v1)] []) (fun v2 => mk [(0, pD (.sl (p0.map Ai))), (1, pD (.sl (p1.map Ai)))] []) (fun _ _ => rfl) (sm [] _ _ rfl rfl) (fun j1 n1 v1 h => ?_) (fun v2 s h hs => ?_)
 ·unfold CV at h
  refine Ab ?_
  refine AT h (fun v3 => mk [(0, pD (.sl (p0.map Ai))), (1, pD (.sl (p1.map Ai))), (5, iD v1), (15, bD v3)] []) (fun j3 h => ?_) (fun v3 h => ?_)
  ·refine Aa Ac rfl (qm rfl (qm rfl (AW AJ rfl (A0 rfl (qm rfl ?_)))))
   refine AF (t := 10) rfl (fun c4 => ?_) (fun c4 => ?_)
   ·have h := Am c4 h
    refine qm rfl (qm rfl (AW AJ rfl (A0 rfl (qp rfl (Ad ?_)))))
    exact Aw _ h (sm [] _ _ rfl rfl)
   ·have h := Al c4 h
    refine qn rfl (qn rfl (qn rfl (qn rfl (qp rfl (Ad ?_)))))
    exact Aw _ h (sm [] _ _ rfl rfl)
  ·refine An rfl (fun c5 => ?_) (fun c5 => ?_)
   ·have h := Am c5 h
    refine Ap (Ab (AR (Ab (Ab (Aa Ac rfl (qm rfl (qm rfl ?_)))))))
    obtain ⟨v6, a6, b6, h⟩ := Aj h
    refine qi AJ Dh a6 (Ag b6) rfl (qk Cg rfl (qm rfl (qm rfl ?_)))
    obtain ⟨v7, a7, b7, h⟩ := Aj h
    refine qi AJ Dh a7 (Ag b7) rfl (qk Cg rfl (A0 rfl (AQ (by kernel_rfl) ?_)))
    refine An rfl (fun c8 => ?_) (fun c8 => ?_)
    ·have h := Am c8 h
     refine Ab (Aa Ac rfl (qa rfl (Ad ?_)))
     obtain rfl := sj h
     refine Ak (sm [] [(4, iD ((-1)))] [] rfl rfl) (Az ?_)
     exact ⟨⟨[_], ⟨.tmp _ _ rfl, tv⟩, rfl⟩, tv⟩
    ·have h := Al c8 h
     refine Ap (Ab (Aa Ac rfl (qm rfl (qm rfl ?_))))
     obtain ⟨v9, a9, b9, h⟩ := Aj h
     refine qi AJ Dh a9 (Ag b9) rfl (qk Cg rfl (qm rfl (qm rfl ?_)))
     obtain ⟨v10, a10, b10, h⟩ := Aj h
     refine qi AJ Dh a10 (Ag b10) rfl (qk Cg rfl (E0 rfl (AQ (by kernel_rfl) ?_)))
     refine An rfl (fun c11 => ?_) (fun c11 => ?_)
     ·have h := Am c11 h
      refine Ab (Aa Ac rfl (qa rfl (Ad ?_)))
      obtain rfl := sj h
      refine Ak (sm [] [(4, iD 1)] [] rfl rfl) (Az ?_)
      exact ⟨⟨[_], ⟨.tmp _ _ rfl, tv⟩, rfl⟩, tv⟩
     ·have h := Al c11 h
      refine Ap (Aa Ac rfl (qm rfl (AX rfl (qa rfl (Ad ?_)))))
      exact Aw _ h (sm [] _ _ rfl rfl)
   ·have h := Al c5 h
    refine AY ?_
    exact Aw _ h (sm [] _ _ rfl rfl)
 ·refine Ak hs (Ab (Ab (Aa Ac rfl (qm rfl (AW AJ rfl (qm rfl (AW AJ rfl (A0 rfl (Ad ?_)))))))))
  refine An rfl (fun c12 => ?_) (fun c12 => ?_)
  ·have h := Am c12 h
   refine Ab (Aa Ac rfl (qa rfl (Ad ?_)))
   obtain rfl := sj h
   refine Ak (sm [] [(4, iD ((-1)))] [] rfl rfl) (Az ?_)
   exact ⟨⟨[_], ⟨.tmp _ _ rfl, tv⟩, rfl⟩, tv⟩
  ·have h := Al c12 h
   refine Ap (Ab (Ab (Aa Ac rfl (qm rfl (AW AJ rfl (qm rfl (AW AJ rfl (E0 rfl (Ad ?_)))))))))
   refine An rfl (fun c13 => ?_) (fun c13 => ?_)
   ·have h := Am c13 h
    refine Ab (Aa Ac rfl (qa rfl (Ad ?_)))
    obtain rfl := sj h
    refine Ak (sm [] [(4, iD 1)] [] rfl rfl) (Az ?_)
    exact ⟨⟨[_], ⟨.tmp _ _ rfl, tv⟩, rfl⟩, tv⟩
   ·have h := Al c13 h
    refine Ap (Ab (Aa Ac rfl (qa rfl (Ad ?_))))
    obtain rfl := sj h
    refine Ak (sm [] [(4, iD 0)] [] rfl rfl) (Az ?_)
    exact ⟨⟨[_], ⟨.tmp _ _ rfl, tv⟩, rfl⟩, tv⟩
theorem Ha (N : Nat) (p0 : List Int) (r : (List Int)) (h : CT N p0 = some r) : AB Tryz.prog 74 [pD (.sl (p0.map Bj))] [(1, r.map Ai)] (oD (.own 0)) := by
 unfold CT at h
 refine Ar (n := 20) (rs := [.tmp 2]) Tryz.func74 rfl rfl rfl (A4 rfl) (A4 rfl) rfl fun w0 S0 => ?_
 refine Ab (Aa Ac rfl (qa rfl (Ad (Ab (Aa Ac rfl (qa rfl (Ad (Ab (Ab (Aa Ac rfl (qa rfl (Ad ?_))))))))))))
 refine AM (L := Cs N p0) h (fun v1 => mk [(0, pD (.sl (p0.map Bj))), (3, oD (.own 2001)), (4, iD v1.2)] [(2001, .vec 1 (v1.1.map Ai))]) (fun v2 => mk [(3, oD (.own 2002))] [(2002, .vec 1 (v2.map Ai))]) (fun _ _ => rfl) ((Bg 3 2003 1 rfl rfl rfl).trans (sm [(2001, 2003)] _ _ rfl rfl)) (fun j1 n1 v1 h => ?_) (fun v2 s h hs => ?_)
 ·unfold Cs at h
  refine Ab (Ab (Aa Ac rfl (qm rfl (qm rfl (AW CQ rfl (A0 rfl (Ad ?_)))))))
  refine An rfl (fun c3 => ?_) (fun c3 => ?_)
  ·have h := Am c3 h
   refine Ap (Ab (AR (Aa Ac rfl (qm rfl (qm rfl (qm rfl ?_))))))
   obtain ⟨v4, a4, b4, h⟩ := Aj h
   refine qi CQ Fo a4 (Ag b4) rfl (qk IY rfl (Gz Ye R7 rfl (DX AJ Dh Km rfl ?_)))
   obtain ⟨c5, h⟩ := AL h
   refine De (f := Ai) AJ AJ Dh Lh Km c5 rfl (qa rfl (Ad (Aa Ac rfl (qm rfl (AX rfl (qa rfl (Ad ?_)))))))
   exact Aw _ h (sm [(2001, 18)] _ _ rfl rfl)
  ·have h := Al c3 h
   refine AY ?_
   exact Aw _ h (sm [(2002, 2001)] _ _ rfl rfl)
 ·refine Ak hs (Ab (Aa Ac rfl (qm rfl (qa rfl (Ad ?_)))))
  obtain rfl := sj h
  refine Ak (sm [(1000, 2002)] [(2, oD (.own 1000))] [(1000, .vec 1 (v2.map Ai))] rfl rfl) (Az ?_)
  exact ⟨⟨[_], ⟨.tmp _ _ rfl, tv⟩, rfl⟩, ⟨rfl, tv⟩⟩
theorem G7 (N : Nat) (p0 : Ae) (p1 : Ae) (r : Int) (h : Cw N p0 p1 = some r) : AB Tryz.prog 54 [.e (.agg [sC (p0.fBase.map Ai), sC (p0.fNext.map Ai), sC (p0.fHeld.map Bj)]), .e (.agg [sC (p1.fBase.map Ai), sC (p1.fNext.map Ai), sC (p1.fHeld.map Bj)])] [] (iD r) := by
 unfold Cw at h
 refine Ar (n := 30) (rs := [.tmp 4]) Tryz.func54 rfl rfl rfl (A4 rfl) (A4 rfl) rfl fun w0 S0 => ?_
 refine Ab (Aa Ac rfl (qb rfl (qb rfl (qa rfl (Ad (Ab (Ab (Aa Ac rfl (qf CE rfl (ql Bh rfl (qf CE rfl (ql Bh rfl ?_))))))))))))
 obtain ⟨v1, a1, h⟩ := bind_some h
 refine AH [] (Gp N p0.fBase p1.fBase v1 a1) VW rfl (qa rfl (Ad (Ab (Aa Ac rfl (qm rfl (B2 rfl (Ad ?_)))))))
 refine An rfl (fun c2 => ?_) (fun c2 => ?_)
 ·have h := Am c2 h
  refine Ab (Aa Ac rfl (qm rfl (qa rfl (Ad ?_))))
  obtain rfl := sj h
  refine Ak (sm [] [(4, iD v1)] [] rfl rfl) (Az ?_)
  exact ⟨⟨[_], ⟨.tmp _ _ rfl, tv⟩, rfl⟩, tv⟩
 ·have h := Al c2 h
  refine Ap (Ab (Ab (Aa Ac rfl (qf BB rfl (ql Bh rfl (qf BB rfl (ql Bh rfl ?_)))))))
  obtain ⟨v3, a3, h⟩ := bind_some h
  refine AH [] (Gp N p0.fNext p1.fNext v3 a3) VW rfl (qa rfl (Ad (Ab (Aa Ac rfl (qm rfl (B2 rfl (Ad ?_)))))))
  refine An rfl (fun c4 => ?_) (fun c4 => ?_)
  ·have h := Am c4 h
   refine Ab (Aa Ac rfl (qm rfl (qa rfl (Ad ?_))))
   obtain rfl := sj h
   refine Ak (sm [] [(4, iD v3)] [] rfl rfl) (Az ?_)
   exact ⟨⟨[_], ⟨.tmp _ _ rfl, tv⟩, rfl⟩, tv⟩
  ·have h := Al c4 h
   refine Ap (Ab (Aa Ac rfl (qf Cn rfl (ql Gr rfl ?_))))
   obtain ⟨v5, a5, h⟩ := bind_some h
   refine AH [2001] (Ha N p0.fHeld v5 a5) WL rfl (qf Cn rfl (ql Gr rfl ?_))
   obtain ⟨v6, a6, h⟩ := bind_some h
   refine AH [2002] (Ha N p1.fHeld v6 a6) WL rfl ?_
   obtain ⟨v7, a7, h⟩ := bind_some h
   refine F9 [] [2001, 2002] (Gp N v5 v6 v7 a7) VW EJ rfl (qa rfl (AQ (by kernel_rfl) ?_))
   obtain rfl := sj h
   refine Ak (sm [] [(4, iD v7)] [] rfl rfl) (Az ?_)
   exact ⟨⟨[_], ⟨.tmp _ _ rfl, tv⟩, rfl⟩, tv⟩
theorem K7 (N : Nat) (p0 : List Ae) (p1 : Ae) (r : (List Ae)) (h : EA N p0 p1 = some r) : Lj Tryz.prog 44 [oD (.own 90900), .e (.agg [sC (p1.fBase.map Ai), sC (p1.fNext.map Ai), sC (p1.fHeld.map Bj)])] (.vec 3 (p0.map Af)) [.vec 3 (r.map Af)] (oD (.own 0)) := by
 unfold EA at h
 refine M6 (n := 43) (rs := [.tmp 4]) Tryz.func44 rfl rfl rfl (A4 rfl) (A4 rfl) rfl rfl rfl (A4 rfl) fun w0 S0 GL => ?_
 refine Ak (sm [] [(0, oD (.own 90900)), (1, .e (.agg [sC (p1.fBase.map Ai), sC (p1.fNext.map Ai), sC (p1.fHeld.map Bj)]))] [(90900, .vec 3 (p0.map Af))] rfl rfl) (Ab (Aa Ac rfl (qb rfl (qa rfl (Ad (Ab (Ab (Aa Ac rfl (qa rfl (Ad ?_))))))))))
 refine AM (L := C7 N p0 p1) h (fun v1 => mk [(0, oD (.own 90900)), (3, oD (.ptr 3 0)), (5, iD v1)] [(3, .box [sC (p1.fBase.map Ai), sC (p1.fNext.map Ai), sC (p1.fHeld.map Bj)]), (90900, .vec 3 (p0.map Af))]) (fun v2 => mk [(0, oD (.own 90900)), (3, oD (.ptr 3 0))] [(3, .box [sC (p1.fBase.map Ai), sC (p1.fNext.map Ai), sC (p1.fHeld.map Bj)]), (90900, .vec 3 (p0.map Af))]) (fun _ _ => rfl) (sm [] _ _ rfl rfl) (fun j1 n1 v1 h => ?_) (fun v2 s h hs => ?_)
 ·unfold C7 at h
  refine Ab (Ab (Aa Ac rfl (qm rfl (qm rfl (DD AN rfl (A0 rfl (Ad ?_)))))))
  refine An rfl (fun c3 => ?_) (fun c3 => ?_)
  ·have h := Am c3 h
   refine Ap (Ab (AR (Ab (Aa Ac rfl (qm rfl (qm rfl ?_))))))
   obtain ⟨v4, a4, b4, h⟩ := Aj h
   refine qI AN Ay a4 (Ag b4) rfl (qJ A1 Ay (Ag b4) rfl (qL A1 Ay rfl ?_))
   obtain ⟨v5, a5, h⟩ := bind_some h
   refine AH [] (G7 N v4 p1 v5 a5) Wm rfl (qa rfl (AQ (by kernel_rfl) (Ab (Ab (Aa Ac rfl (qm rfl (BE rfl (Ad ?_))))))))
   refine An rfl (fun c6 => ?_) (fun c6 => ?_)
   ·have h := Am c6 h
    refine Ab (Aa Ac rfl (qm rfl (qa rfl (Ad ?_))))
    obtain rfl := sj h
    refine Ak (Mt (rn [(90950, 90900)]) [(4, oD (.own 90950))] [(90950, .vec 3 (p0.map Af))] ⟨rfl, tv⟩ ⟨rfl, tv⟩ rfl rfl) (Az ?_)
    exact ⟨⟨[_], ⟨.tmp _ _ rfl, tv⟩, rfl⟩, ⟨rfl, tv⟩⟩
   ·have h := Al c6 h
    refine Ap (Ab (Aa Ac rfl (qm rfl (E0 rfl (Ad ?_)))))
    refine An rfl (fun c7 => ?_) (fun c7 => ?_)
    ·have h := Am c7 h
     refine Ab (Aa Ac rfl (DX AN Ay Cm rfl (qm rfl (qm rfl ?_))))
     obtain ⟨c8, h⟩ := AL h
     have w9 : 0 + ((v1).toNat) ≤ p0.length := by have := c8.2.1; have := c8.2.2; omega
     refine GG Af p0 (.p rfl) rfl (F4 Af _ _ p0) rfl AN Ay (.none _) (.some _ _ _ _ c8.1) tv ⟨rfl, tv⟩ c8.2.1 (by rw [Nat.zero_add]; exact c8.2.2) (Nat.zero_add _) rfl ?_
     obtain ⟨c10, h⟩ := AL h
     refine Ox (.p rfl) rfl (.own _ _ _) ⟨rfl, tv⟩ rfl (LB Af _ _ 0 ((v1).toNat) p0 w9) ⟨rfl, tv⟩ rfl AN AN Ay Jl (A4 rfl) Cm rfl (OP (f := Af) (g := Af) (xs := (([] : List Ae))) (ys := (((p0.drop 0).take ((v1).toNat)))) c10) (OE Af (([] : List Ae)) (((p0.drop 0).take ((v1).toNat)))) rfl ?_
     refine qa rfl (Ad (Ab (Aa Ac rfl (qm rfl (qL A1 Ay rfl (DX AN Ay Cm rfl ?_))))))
     obtain ⟨c11, h⟩ := AL h
     refine De (f := Af) AN AN Ay Jl Cm c11 rfl (qa rfl (Ad (Ab (Aa Ac rfl (qm rfl (qm rfl (qm rfl ?_)))))))
     obtain ⟨c12, h⟩ := AL h
     have w13 : ((v1).toNat) + ((p0.length - (v1).toNat)) ≤ p0.length := by have := c12.2.1; have := c12.2.2; omega
     refine GG Af p0 (.p rfl) rfl (F4 Af _ _ p0) rfl AN Ay (.some _ _ _ _ c12.1) (.none _) ⟨rfl, tv⟩ tv c12.2.1 (by rw [Nat.zero_add]; exact c12.2.2) (Nat.zero_add _) rfl ?_
     obtain ⟨c14, h⟩ := AL h
     refine Ox (.p rfl) rfl (.own _ _ _) ⟨rfl, tv⟩ rfl (LB Af _ _ ((v1).toNat) ((p0.length - (v1).toNat)) p0 w13) ⟨rfl, tv⟩ rfl AN AN Ay Jl (A4 rfl) Cm rfl (OP (f := Af) (g := Af) (xs := (((([] : List Ae)) ++ (((p0.drop 0).take ((v1).toNat)))) ++ (([p1] : List Ae)))) (ys := (((p0.drop ((v1).toNat)).take ((p0.length - (v1).toNat))))) c14) (OE Af (((([] : List Ae)) ++ (((p0.drop 0).take ((v1).toNat)))) ++ (([p1] : List Ae))) (((p0.drop ((v1).toNat)).take ((p0.length - (v1).toNat))))) rfl ?_
     refine qa rfl (Ad ?_)
     obtain rfl := sj h
     refine Ak (Mt (rn [(90950, 38)]) [(4, oD (.own 90950))] [(90950, .vec 3 (((((([] : List Ae)) ++ (((p0.drop 0).take ((v1).toNat)))) ++ (([p1] : List Ae))) ++ (((p0.drop ((v1).toNat)).take ((p0.length - (v1).toNat))))).map Af))] ⟨rfl, tv⟩ ⟨rfl, tv⟩ rfl rfl) (Az ?_)
     exact ⟨⟨[_], ⟨.tmp _ _ rfl, tv⟩, rfl⟩, ⟨rfl, tv⟩⟩
    ·have h := Al c7 h
     refine Ap (Aa Ac rfl (qm rfl (AX rfl (qa rfl (Ad ?_)))))
     exact Aw _ h (sm [] _ _ rfl rfl)
  ·have h := Al c3 h
   refine AY ?_
   exact Aw _ h (sm [] _ _ rfl rfl)
 ·refine Ak hs (Ab (Aa Ac rfl (qm rfl (qL A1 Ay rfl (DX AN Ay Cm rfl ?_)))))
  obtain ⟨c15, h⟩ := AL h
  refine R6 (nn := 90902) (.p rfl) rfl rfl rfl (Qn Af _ _ _) ⟨rfl, tv⟩ rfl rfl AN AN Ay Jl (A4 rfl) Cm rfl (OP (f := Af) (g := Af) (xs := p0) (ys := (([p1] : List Ae))) c15) (OE Af p0 (([p1] : List Ae))) ?_
  refine qa rfl (Ad ?_)
  obtain rfl := sj h
  refine Ak (Mt (rn [(90950, 90902)]) [(4, oD (.own 90950))] [(90950, .vec 3 ((p0 ++ (([p1] : List Ae))).map Af))] ⟨rfl, tv⟩ ⟨rfl, tv⟩ rfl rfl) (Az ?_)
  exact ⟨⟨[_], ⟨.tmp _ _ rfl, tv⟩, rfl⟩, ⟨rfl, tv⟩⟩
theorem HA (N : Nat) (p0 : Ah) (p1 : List Au) (r : (List Ae) × Int) (h : Co N p0 p1 = some r) : AB Tryz.prog 13 [.e (.agg [sC (p0.fVersions.map Ai), sC (p0.fNow.map Ai), sC (p0.fTarget.map Ai), sC (p0.fTables.map Ao)]), pD (.sl (p1.map AP))] [(3, r.1.map Af)] (.tup [.one (.own 0), .one (iC r.2)]) := by
 unfold Co at h
 refine Ar (n := 57) (rs := [.tmp 4, .tmp 5]) Tryz.func13 rfl rfl rfl (A4 rfl) (A4 rfl) rfl fun w0 S0 => ?_
 refine Ab (Aa Ac rfl (qb rfl (qa rfl (qa rfl (Ad (Ab (Aa Ac rfl (qL Ec DQ rfl ?_))))))))
 obtain ⟨v1, a1, h⟩ := bind_some h
 refine AH [2001, 2002, 2003] (JQ N p0 v1 a1) Yc rfl (qm rfl (qx rfl (qx rfl (qz Cm rfl (qs Ay rfl (qa rfl (Ad (Ab (Ab (Aa Ac rfl (qm rfl (B2 rfl (Ad ?_)))))))))))))
 refine An rfl (fun c2 => ?_) (fun c2 => ?_)
 ·have h := Am c2 h
  refine Ab (Aa Ac rfl (qm rfl (qa rfl (qa rfl (Ad ?_)))))
  obtain rfl := sj h
  refine Ak ((Bg 4 2004 3 rfl rfl rfl).trans (sm [(1000, 2004)] [(4, oD (.own 1000)), (5, iD v1.2)] [(1000, .vec 3 ((([] : List Ae)).map Af))] rfl rfl)) (Az ?_)
  exact ⟨⟨[_, _], ⟨.tmp _ _ rfl, ⟨.tmp _ _ rfl, tv⟩⟩, rfl⟩, ⟨rfl, tv⟩⟩
 ·have h := Al c2 h
  refine Ap (Ab (Aa Ac rfl (qL Ec DQ rfl (qL A1 Ay rfl (qm rfl (CJ (A3 2001 _ _ rfl rfl) (CJ (A3 2002 _ _ rfl rfl) (CJ (A3 2003 _ _ rfl rfl) ?_))))))))
  obtain ⟨v3, a3, h⟩ := bind_some h
  refine AH [2005] (KY N p0 v1.1 p1 v3 a3) XL rfl (qm rfl (qx rfl (qx rfl (qx rfl (qa rfl (qa rfl (qa rfl (Ad (Ab (Ab (Aa Ac rfl (qm rfl (B2 rfl (Ad ?_))))))))))))))
  refine An rfl (fun c4 => ?_) (fun c4 => ?_)
  ·have h := Am c4 h
   refine Ab (Aa Ac rfl (qm rfl (qa rfl (qa rfl (Ad ?_)))))
   obtain rfl := sj h
   refine Ak ((Bg 4 2006 3 rfl rfl rfl).trans (sm [(1000, 2006)] [(4, oD (.own 1000)), (5, iD v3.2.2)] [(1000, .vec 3 ((([] : List Ae)).map Af))] rfl rfl)) (Az ?_)
   exact ⟨⟨[_, _], ⟨.tmp _ _ rfl, ⟨.tmp _ _ rfl, tv⟩⟩, rfl⟩, ⟨rfl, tv⟩⟩
  ·have h := Al c4 h
   refine Ap (Ab (Aa Ac rfl (qa rfl (Ad (Ab (Ab (Aa Ac rfl (qa rfl (Ad ?_)))))))))
   refine AM (L := CK N v3) h (fun v5 => mk [(8, oD (.own 2007)), (10, oD (.own 2008)), (11, iD v5.2)] [(2007, .vec 3 (v3.1.map Af)), (2008, .vec 3 (v5.1.map Af))]) (fun v6 => mk [(10, oD (.own 2009))] [(2009, .vec 3 (v6.map Af))]) (fun _ _ => rfl) ((Bg 10 2017 3 rfl rfl rfl).trans (sm [(2007, 2005), (2008, 2017)] _ _ rfl rfl)) (fun j5 n5 v5 h => ?_) (fun v6 s h hs => ?_)
   ·unfold CK at h
    refine Ab (Ab (Aa Ac rfl (qm rfl (qm rfl (DD AN rfl (A0 rfl (Ad ?_)))))))
    refine An rfl (fun c7 => ?_) (fun c7 => ?_)
    ·have h := Am c7 h
     refine Ap (Ab (AR (Ab (Aa Ac rfl (qm rfl (qm rfl ?_))))))
     obtain ⟨v8, a8, b8, h⟩ := Aj h
     refine qI AN Ay a8 (Ag b8) rfl (qJ A1 Ay (Ag b8) rfl ?_)
     obtain ⟨v9, a9, h⟩ := bind_some h
     refine AH [2010] (KI N v8 v9 a9) XU rfl (qa rfl (Ad (Ab (Aa Ac rfl (qa rfl (Ad ?_))))))
     refine AM (L := CB N v9) h (fun v10 => mk [(8, oD (.own 2011)), (10, oD (.own 2012)), (11, iD v5.2), (12, oD (.own 2013)), (13, iD v10.2)] [(2011, .vec 3 (v3.1.map Af)), (2012, .vec 3 (v10.1.map Af)), (2013, .vec 3 (v9.map Af))]) (fun v11 => mk [(8, oD (.own 2014)), (10, oD (.own 2015)), (11, iD v5.2)] [(2014, .vec 3 (v3.1.map Af)), (2015, .vec 3 (v11.map Af))]) (fun _ _ => rfl) (sm [(2011, 2007), (2012, 2008), (2013, 2010)] _ _ rfl rfl) (fun j10 n10 v10 h => ?_) (fun v11 s h hs => ?_)
     ·unfold CB at h
      refine Ab (Ab (Aa Ac rfl (qm rfl (qm rfl (DD AN rfl (A0 rfl (Ad ?_)))))))
      refine An rfl (fun c12 => ?_) (fun c12 => ?_)
      ·have h := Am c12 h
       refine Ap (Ab (AR (Aa Ac rfl (qm rfl (qm rfl (qm rfl ?_))))))
       obtain ⟨v13, a13, b13, h⟩ := Aj h
       refine qI AN Ay a13 (Ag b13) rfl (qJ A1 Ay (Ag b13) rfl ?_)
       obtain ⟨v14, a14, h⟩ := bind_some h
       refine Ue (ds0 := [_, _]) 2012 [2016] (K7 N v10.1 v13 v14 a14) (.p rfl) Yq rfl ⟨rfl, rfl, tv⟩ rfl rfl rfl rfl rfl rfl ⟨rfl, tv⟩ rfl rfl rfl ?_
       refine qa rfl (Ad (Aa Ac rfl (qm rfl (AX rfl (qa rfl (Ad ?_))))))
       exact Aw _ h (sm [(2012, 2016)] _ _ rfl rfl)
      ·have h := Al c12 h
       refine AY ?_
       exact Aw _ h (sm [(2014, 2011), (2015, 2012)] _ _ rfl rfl)
     ·refine Ak hs (Aa Ac rfl (qm rfl (AX rfl (qa rfl (Ad ?_)))))
      exact Aw _ h (sm [(2007, 2014), (2008, 2015)] _ _ rfl rfl)
    ·have h := Al c7 h
     refine AY ?_
     exact Aw _ h (sm [(2009, 2008)] _ _ rfl rfl)
   ·refine Ak hs (Ab (Aa Ac rfl (qm rfl (qa rfl (qa rfl (Ad ?_))))))
    obtain rfl := sj h
    refine Ak (sm [(1000, 2009)] [(4, oD (.own 1000)), (5, iD 0)] [(1000, .vec 3 (v6.map Af))] rfl rfl) (Az ?_)
    exact ⟨⟨[_, _], ⟨.tmp _ _ rfl, ⟨.tmp _ _ rfl, tv⟩⟩, rfl⟩, ⟨rfl, tv⟩⟩
theorem JT (N : Nat) (p0 : Ah) (p1 : Ae) (r : (List Av)) (h : Ea N p0 p1 = some r) : AB Tryz.prog 69 [.e (.agg [sC (p0.fVersions.map Ai), sC (p0.fNow.map Ai), sC (p0.fTarget.map Ai), sC (p0.fTables.map Ao)]), .e (.agg [sC (p1.fBase.map Ai), sC (p1.fNext.map Ai), sC (p1.fHeld.map Bj)])] [(3, r.map A2)] (oD (.own 0)) := by
 unfold Ea at h
 refine Ar (n := 111) (rs := [.tmp 4]) Tryz.func69 rfl rfl rfl (A4 rfl) (A4 rfl) rfl fun w0 S0 => ?_
 refine Ab (Aa Ac rfl (qb rfl (qb rfl (qa rfl (Ad (Ab (Aa Ac rfl (qa rfl (Ad (Ab (Ab (Aa Ac rfl (qa rfl (Ad ?_))))))))))))))
 refine AM (L := Cj N p0 p1) h (fun v1 => mk [(2, oD (.ptr 2 0)), (3, oD (.ptr 3 0)), (5, oD (.own 2001)), (6, iD v1.2)] [(2, .box [sC (p0.fVersions.map Ai), sC (p0.fNow.map Ai), sC (p0.fTarget.map Ai), sC (p0.fTables.map Ao)]), (3, .box [sC (p1.fBase.map Ai), sC (p1.fNext.map Ai), sC (p1.fHeld.map Bj)]), (2001, .vec 3 (v1.1.map A2))]) (fun v2 => mk [(5, oD (.own 2002))] [(2002, .vec 3 (v2.map A2))]) (fun _ _ => rfl) ((Bg 5 2013 3 rfl rfl rfl).trans (sm [(2001, 2013)] _ _ rfl rfl)) (fun j1 n1 v1 h => ?_) (fun v2 s h hs => ?_)
 ·unfold Cj at h
  refine Ab (Ab (Aa Ac rfl (qm rfl (qf CH rfl (ql G5 rfl (AW D2 rfl (A0 rfl (Ad ?_))))))))
  refine An rfl (fun c3 => ?_) (fun c3 => ?_)
  ·have h := Am c3 h
   refine Ap (Ab (AR (Ab (Aa Ac rfl (qf CH rfl (ql G5 rfl (qm rfl ?_)))))))
   obtain ⟨v4, a4, b4, h⟩ := Aj h
   refine qi D2 DT a4 (Ag b4) rfl (qK G1 DT rfl (qz JV rfl (qs DT rfl (Ad (Ab (Aa Ac rfl (qL A1 Ay rfl (qf C0 rfl (ql Cg rfl ?_)))))))))
   obtain ⟨v5, a5, h⟩ := bind_some h
   refine AH [] (DS N p1 v4.fFrom v5 a5) Sg rfl (qa rfl (Ad ?_))
   refine AT h (fun v6 => mk [(2, oD (.ptr 2 0)), (3, oD (.ptr 3 0)), (5, oD (.own 2003)), (6, iD v1.2), (7, oD (.ptr 7 0)), (8, pD (.val (.int .u8 v6)))] [(2, .box [sC (p0.fVersions.map Ai), sC (p0.fNow.map Ai), sC (p0.fTarget.map Ai), sC (p0.fTables.map Ao)]), (3, .box [sC (p1.fBase.map Ai), sC (p1.fNext.map Ai), sC (p1.fHeld.map Bj)]), (7, .box [iC v4.fKind, iC v4.fFrom, iC v4.fTo, .pure (.val (.bool v4.fAware)), sC (v4.fOK.map (Eu eB)), sC (v4.fRewrite.map (Eu eB))]), (2003, .vec 3 (v1.1.map A2))]) (fun j6 h => ?_) (fun v6 h => ?_)
   ·refine Ab (Aa Ac rfl (qL G1 DT rfl ?_))
    obtain ⟨v7, a7, h⟩ := bind_some h
    refine AH [] (B9 N v4 v7 a7) O4 rfl (Ad ?_)
    refine An rfl (fun c8 => ?_) (fun c8 => ?_)
    ·have h := Am c8 h
     refine Aa Ac rfl (qf Cn rfl (ql Gr rfl (qm rfl ?_)))
     obtain ⟨v9, a9, b9, h⟩ := Aj h
     refine qi CQ Fo a9 (Ag b9) rfl (qk IY rfl (qa rfl (Ad ?_)))
     exact Aw _ h (sm [(2003, 2001)] _ _ rfl rfl)
    ·have h := Al c8 h
     refine Ap ?_
     exact Aw _ h (sm [(2003, 2001)] _ _ rfl rfl)
   ·refine Ab (Aa Ac rfl (qa rfl (Ad ?_)))
    refine AM (L := BC N p0 p1 v1 v4 v6) h (fun v10 => mk [(2, oD (.ptr 2 0)), (3, oD (.ptr 3 0)), (5, oD (.own 2004)), (6, iD v1.2), (7, oD (.ptr 7 0)), (8, pD (.val (.int .u8 v6))), (9, iD v10.2)] [(2, .box [sC (p0.fVersions.map Ai), sC (p0.fNow.map Ai), sC (p0.fTarget.map Ai), sC (p0.fTables.map Ao)]), (3, .box [sC (p1.fBase.map Ai), sC (p1.fNext.map Ai), sC (p1.fHeld.map Bj)]), (7, .box [iC v4.fKind, iC v4.fFrom, iC v4.fTo, .pure (.val (.bool v4.fAware)), sC (v4.fOK.map (Eu eB)), sC (v4.fRewrite.map (Eu eB))]), (2004, .vec 3 (v10.1.map A2))]) (fun v11 => mk [(2, oD (.ptr 2 0)), (3, oD (.ptr 3 0)), (5, oD (.own 2005)), (6, iD v1.2)] [(2, .box [sC (p0.fVersions.map Ai), sC (p0.fNow.map Ai), sC (p0.fTarget.map Ai), sC (p0.fTables.map Ao)]), (3, .box [sC (p1.fBase.map Ai), sC (p1.fNext.map Ai), sC (p1.fHeld.map Bj)]), (2005, .vec 3 (v11.map A2))]) (fun _ _ => rfl) (sm [(2004, 2003)] _ _ rfl rfl) (fun j10 n10 v10 h => ?_) (fun v11 s h hs => ?_)
    ·unfold BC at h
     refine Ab (Ab (Aa Ac rfl (qm rfl (qf By rfl (ql Bh rfl (qf C0 rfl (ql Cg rfl ?_)))))))
     obtain ⟨v12, a12, b12, h⟩ := Aj h
     refine qi AJ Dh a12 (Ag b12) rfl (qk Cg rfl (A0 rfl (Ad ?_)))
     refine An rfl (fun c13 => ?_) (fun c13 => ?_)
     ·have h := Am c13 h
      refine Ap ?_
      refine AT h (fun v14 => mk [(2, oD (.ptr 2 0)), (3, oD (.ptr 3 0)), (5, oD (.own 2006)), (6, iD v1.2), (7, oD (.ptr 7 0)), (8, pD (.val (.int .u8 v6))), (9, iD v10.2)] [(2, .box [sC (p0.fVersions.map Ai), sC (p0.fNow.map Ai), sC (p0.fTarget.map Ai), sC (p0.fTables.map Ao)]), (3, .box [sC (p1.fBase.map Ai), sC (p1.fNext.map Ai), sC (p1.fHeld.map Bj)]), (7, .box [iC v4.fKind, iC v4.fFrom, iC v4.fTo, .pure (.val (.bool v4.fAware)), sC (v4.fOK.map (Eu eB)), sC (v4.fRewrite.map (Eu eB))]), (2006, .vec 3 (v14.map A2))]) (fun j14 h => ?_) (fun v14 h => ?_)
      ·refine AR (Ab (Ab (Aa Ac rfl (qm rfl (qm rfl ?_)))))
       obtain ⟨v15, a15, h⟩ := bind_some h
       refine AH [] (Fy N v6 v10.2 v15 a15) Un rfl (Cd rfl (Ad ?_))
       refine An rfl (fun c16 => ?_) (fun c16 => ?_)
       ·have h := Am c16 h
        refine AY ?_
        exact Aw _ h (sm [(2006, 2004)] _ _ rfl rfl)
       ·have h := Al c16 h
        refine Ap (Ab (Aa Ac rfl (qa rfl (Ad (Ab (Ab (Aa Ac rfl (qa rfl (Ad ?_)))))))))
        refine AM (L := Bo N p0 p1 v1 v4 v10) h (fun v17 => mk [(2, oD (.ptr 2 0)), (3, oD (.ptr 3 0)), (5, oD (.own 2007)), (6, iD v1.2), (7, oD (.ptr 7 0)), (8, pD (.val (.int .u8 v6))), (9, iD v10.2), (10, bD v17.2.1), (11, iD v17.2.2)] [(2, .box [sC (p0.fVersions.map Ai), sC (p0.fNow.map Ai), sC (p0.fTarget.map Ai), sC (p0.fTables.map Ao)]), (3, .box [sC (p1.fBase.map Ai), sC (p1.fNext.map Ai), sC (p1.fHeld.map Bj)]), (7, .box [iC v4.fKind, iC v4.fFrom, iC v4.fTo, .pure (.val (.bool v4.fAware)), sC (v4.fOK.map (Eu eB)), sC (v4.fRewrite.map (Eu eB))]), (2007, .vec 3 (v17.1.map A2))]) (fun v18 => mk [(2, oD (.ptr 2 0)), (3, oD (.ptr 3 0)), (5, oD (.own 2008)), (6, iD v1.2), (7, oD (.ptr 7 0)), (8, pD (.val (.int .u8 v6))), (9, iD v10.2), (10, bD v18.2)] [(2, .box [sC (p0.fVersions.map Ai), sC (p0.fNow.map Ai), sC (p0.fTarget.map Ai), sC (p0.fTables.map Ao)]), (3, .box [sC (p1.fBase.map Ai), sC (p1.fNext.map Ai), sC (p1.fHeld.map Bj)]), (7, .box [iC v4.fKind, iC v4.fFrom, iC v4.fTo, .pure (.val (.bool v4.fAware)), sC (v4.fOK.map (Eu eB)), sC (v4.fRewrite.map (Eu eB))]), (2008, .vec 3 (v18.1.map A2))]) (fun _ _ => rfl) (sm [(2007, 2004)] _ _ rfl rfl) (fun j17 n17 v17 h => ?_) (fun v18 s h hs => ?_)
        ·unfold Bo at h
         refine Ab (Ab (Aa Ac rfl (qm rfl (qf By rfl (ql Bh rfl (qf HN rfl (ql Cg rfl ?_)))))))
         obtain ⟨v19, a19, b19, h⟩ := Aj h
         refine qi AJ Dh a19 (Ag b19) rfl (qk Cg rfl (A0 rfl (Ad ?_)))
         refine An rfl (fun c20 => ?_) (fun c20 => ?_)
         ·have h := Am c20 h
          refine Ap ?_
          refine AT h (fun v21 => mk [(2, oD (.ptr 2 0)), (3, oD (.ptr 3 0)), (5, oD (.own 2009)), (6, iD v1.2), (7, oD (.ptr 7 0)), (8, pD (.val (.int .u8 v6))), (9, iD v10.2), (10, bD v21.2), (11, iD v17.2.2)] [(2, .box [sC (p0.fVersions.map Ai), sC (p0.fNow.map Ai), sC (p0.fTarget.map Ai), sC (p0.fTables.map Ao)]), (3, .box [sC (p1.fBase.map Ai), sC (p1.fNext.map Ai), sC (p1.fHeld.map Bj)]), (7, .box [iC v4.fKind, iC v4.fFrom, iC v4.fTo, .pure (.val (.bool v4.fAware)), sC (v4.fOK.map (Eu eB)), sC (v4.fRewrite.map (Eu eB))]), (2009, .vec 3 (v21.1.map A2))]) (fun j21 h => ?_) (fun v21 h => ?_)
          ·refine AR (Ab (Ab (Aa Ac rfl (qL A1 Ay rfl (qf HN rfl (ql Cg rfl ?_))))))
           obtain ⟨v22, a22, h⟩ := bind_some h
           refine AH [] (DS N p1 v4.fTo v22 a22) Sg rfl (qm rfl ?_)
           obtain ⟨v23, a23, h⟩ := bind_some h
           refine AH [] (Fy N v22 v17.2.2 v23 a23) Un rfl (Cd rfl (Ad ?_))
           refine An rfl (fun c24 => ?_) (fun c24 => ?_)
           ·have h := Am c24 h
            refine AY ?_
            exact Aw _ h (sm [(2009, 2007)] _ _ rfl rfl)
           ·have h := Al c24 h
            refine Ap ?_
            refine AT h (fun v25 => mk [(2, oD (.ptr 2 0)), (3, oD (.ptr 3 0)), (5, oD (.own 2010)), (6, iD v1.2), (7, oD (.ptr 7 0)), (8, pD (.val (.int .u8 v6))), (9, iD v10.2), (10, bD v25), (11, iD v17.2.2)] [(2, .box [sC (p0.fVersions.map Ai), sC (p0.fNow.map Ai), sC (p0.fTarget.map Ai), sC (p0.fTables.map Ao)]), (3, .box [sC (p1.fBase.map Ai), sC (p1.fNext.map Ai), sC (p1.fHeld.map Bj)]), (7, .box [iC v4.fKind, iC v4.fFrom, iC v4.fTo, .pure (.val (.bool v4.fAware)), sC (v4.fOK.map (Eu eB)), sC (v4.fRewrite.map (Eu eB))]), (2010, .vec 3 (v17.1.map A2))]) (fun j25 h => ?_) (fun v25 h => ?_)
            ·refine Aa Ac rfl (qm rfl (qm rfl ?_))
             refine AF (t := 67) rfl (fun c26 => ?_) (fun c26 => ?_)
             ·have h := Am c26 h
              refine qn rfl (qn rfl (qn rfl (qn rfl (qn rfl (qn rfl (qn rfl (qn rfl (qp rfl (qa rfl (Ad ?_))))))))))
              exact Aw _ h (sm [(2010, 2007)] _ _ rfl rfl)
             ·have h := Al c26 h
              refine qf I8 rfl (ql Js rfl (qm rfl ?_))
              obtain ⟨v27, a27, b27, h⟩ := Aj h
              refine qi FP Jg a27 (Ag b27) rfl (qk KK rfl (qm rfl ?_))
              obtain ⟨v28, a28, b28, h⟩ := Aj h
              refine qi EU Qi a28 (Ag b28) rfl (qk Rr rfl (qp rfl (qa rfl (Ad ?_))))
              exact Aw _ h (sm [(2010, 2007)] _ _ rfl rfl)
            ·refine AT h (fun v29 => mk [(2, oD (.ptr 2 0)), (3, oD (.ptr 3 0)), (5, oD (.own 2011)), (6, iD v1.2), (7, oD (.ptr 7 0)), (8, pD (.val (.int .u8 v6))), (9, iD v10.2), (10, bD v25), (11, iD v17.2.2), (90, bD v29)] [(2, .box [sC (p0.fVersions.map Ai), sC (p0.fNow.map Ai), sC (p0.fTarget.map Ai), sC (p0.fTables.map Ao)]), (3, .box [sC (p1.fBase.map Ai), sC (p1.fNext.map Ai), sC (p1.fHeld.map Bj)]), (7, .box [iC v4.fKind, iC v4.fFrom, iC v4.fTo, .pure (.val (.bool v4.fAware)), sC (v4.fOK.map (Eu eB)), sC (v4.fRewrite.map (Eu eB))]), (2011, .vec 3 (v17.1.map A2))]) (fun j29 h => ?_) (fun v29 h => ?_)
             ·refine Aa Ac rfl (qf Im rfl (ql Rr rfl (Cd rfl (qm rfl ?_))))
              refine AF (t := 80) rfl (fun c30 => ?_) (fun c30 => ?_)
              ·have h := Am c30 h
               refine qf I8 rfl (ql Js rfl (qm rfl ?_))
               obtain ⟨v31, a31, b31, h⟩ := Aj h
               refine qi FP Jg a31 (Ag b31) rfl (qk KK rfl (qm rfl ?_))
               obtain ⟨v32, a32, b32, h⟩ := Aj h
               refine qi EU Qi a32 (Ag b32) rfl (qk Rr rfl (Cd rfl (qp rfl (Ad ?_))))
               exact Aw _ h (sm [(2011, 2010)] _ _ rfl rfl)
              ·have h := Al c30 h
               refine qn rfl (qn rfl (qn rfl (qn rfl (qn rfl (qn rfl (qn rfl (qn rfl (qn rfl (qp rfl (Ad ?_))))))))))
               exact Aw _ h (sm [(2011, 2010)] _ _ rfl rfl)
             ·refine An rfl (fun c33 => ?_) (fun c33 => ?_)
              ·have h := Am c33 h
               refine Aa Ac rfl (qm rfl (qm rfl (qm rfl (qm rfl (BK Hz Oc rfl (DX Gi Hn Hz rfl ?_))))))
               obtain ⟨c34, h⟩ := AL h
               refine De (f := A2) Gi Gi Hn O9 Hz c34 rfl (qa rfl (Ad ?_))
               exact Aw _ h (sm [(2009, 97)] _ _ rfl rfl)
              ·have h := Al c33 h
               refine Ap ?_
               exact Aw _ h (sm [(2009, 2011)] _ _ rfl rfl)
          ·refine Aa Ac rfl (qm rfl (AX rfl (qa rfl (Ad ?_))))
           exact Aw _ h (sm [(2007, 2009)] _ _ rfl rfl)
         ·have h := Al c20 h
          refine AY ?_
          exact Aw _ h (sm [(2008, 2007)] _ _ rfl rfl)
        ·refine Ak hs ?_
         refine AT h (fun v35 => mk [(2, oD (.ptr 2 0)), (3, oD (.ptr 3 0)), (5, oD (.own 2012)), (6, iD v1.2), (7, oD (.ptr 7 0)), (8, pD (.val (.int .u8 v6))), (9, iD v10.2), (103, bD v35)] [(2, .box [sC (p0.fVersions.map Ai), sC (p0.fNow.map Ai), sC (p0.fTarget.map Ai), sC (p0.fTables.map Ao)]), (3, .box [sC (p1.fBase.map Ai), sC (p1.fNext.map Ai), sC (p1.fHeld.map Bj)]), (7, .box [iC v4.fKind, iC v4.fFrom, iC v4.fTo, .pure (.val (.bool v4.fAware)), sC (v4.fOK.map (Eu eB)), sC (v4.fRewrite.map (Eu eB))]), (2012, .vec 3 (v18.1.map A2))]) (fun j35 h => ?_) (fun v35 h => ?_)
         ·refine Aa Ac rfl (qf Im rfl (ql Rr rfl (qm rfl ?_)))
          refine AF (t := 100) rfl (fun c36 => ?_) (fun c36 => ?_)
          ·have h := Am c36 h
           refine qm rfl (Cd rfl (qp rfl (Ad ?_)))
           exact Aw _ h (sm [(2012, 2008)] _ _ rfl rfl)
          ·have h := Al c36 h
           refine qn rfl (qn rfl (qp rfl (Ad ?_)))
           exact Aw _ h (sm [(2012, 2008)] _ _ rfl rfl)
         ·refine An rfl (fun c37 => ?_) (fun c37 => ?_)
          ·have h := Am c37 h
           refine Aa Ac rfl (qm rfl (qm rfl (qm rfl (BK Hz Oc rfl (DX Gi Hn Hz rfl ?_)))))
           obtain ⟨c38, h⟩ := AL h
           refine De (f := A2) Gi Gi Hn O9 Hz c38 rfl (qa rfl (Ad ?_))
           exact Aw _ h (sm [(2006, 109)] _ _ rfl rfl)
          ·have h := Al c37 h
           refine Ap ?_
           exact Aw _ h (sm [(2006, 2012)] _ _ rfl rfl)
      ·refine Aa Ac rfl (qm rfl (AX rfl (qa rfl (Ad ?_))))
       exact Aw _ h (sm [(2004, 2006)] _ _ rfl rfl)
     ·have h := Al c13 h
      refine AY ?_
      exact Aw _ h (sm [(2005, 2004)] _ _ rfl rfl)
    ·refine Ak hs (Aa Ac rfl (qm rfl (AX rfl (qa rfl (Ad ?_)))))
     exact Aw _ h (sm [(2001, 2005)] _ _ rfl rfl)
  ·have h := Al c3 h
   refine AY ?_
   exact Aw _ h (sm [(2002, 2001)] _ _ rfl rfl)
 ·refine Ak hs (Ab (Aa Ac rfl (qm rfl (qa rfl (Ad ?_)))))
  obtain rfl := sj h
  refine Ak (sm [(1000, 2002)] [(4, oD (.own 1000))] [(1000, .vec 3 (v2.map A2))] rfl rfl) (Az ?_)
  exact ⟨⟨[_], ⟨.tmp _ _ rfl, tv⟩, rfl⟩, ⟨rfl, tv⟩⟩
theorem JD (N : Nat) (p0 : Ah) (p1 : Ae) (r : Bool) (h : DW N p0 p1 = some r) : AB Tryz.prog 46 [.e (.agg [sC (p0.fVersions.map Ai), sC (p0.fNow.map Ai), sC (p0.fTarget.map Ai), sC (p0.fTables.map Ao)]), .e (.agg [sC (p1.fBase.map Ai), sC (p1.fNext.map Ai), sC (p1.fHeld.map Bj)])] [] (bD r) := by
 unfold DW at h
 refine Ar (n := 10) (rs := [.tmp 4]) Tryz.func46 rfl rfl rfl (A4 rfl) (A4 rfl) rfl fun w0 S0 => ?_
 refine Ab (Aa Ac rfl (qb rfl (qb rfl (qa rfl (Ad (Ab (Aa Ac rfl (qL Ec DQ rfl (qL A1 Ay rfl ?_)))))))))
 obtain ⟨v1, a1, h⟩ := bind_some h
 refine AH [2001] (JT N p0 p1 v1 a1) X5 rfl (DD Gi rfl (BE rfl (qa rfl (Ad ?_))))
 obtain rfl := sj h
 refine Ak (sm [] [(4, bD (((v1.length : Int) == 0)))] [] rfl rfl) (Az ?_)
 exact ⟨⟨[_], ⟨.tmp _ _ rfl, tv⟩, rfl⟩, tv⟩
theorem J9 (N : Nat) (p0 : Ah) (p1 : List Au) (r : Bool × Int) (h : C1 N p0 p1 = some r) : AB Tryz.prog 15 [.e (.agg [sC (p0.fVersions.map Ai), sC (p0.fNow.map Ai), sC (p0.fTarget.map Ai), sC (p0.fTables.map Ao)]), pD (.sl (p1.map AP))] [] (.tup [.one (.pure (.val (.bool r.1))), .one (iC r.2)]) := by
 unfold C1 at h
 refine Ar (n := 31) (rs := [.tmp 4, .tmp 5]) Tryz.func15 rfl rfl rfl (A4 rfl) (A4 rfl) rfl fun w0 S0 => ?_
 refine Ab (Aa Ac rfl (qb rfl (qa rfl (qa rfl (Ad (Ab (Aa Ac rfl (qL Ec DQ rfl (qm rfl ?_)))))))))
 obtain ⟨v1, a1, h⟩ := bind_some h
 refine AH [2001] (HA N p0 p1 v1 a1) We rfl (qm rfl (qx rfl (qx rfl (qa rfl (qa rfl (Ad (Ab (Ab (Aa Ac rfl (qm rfl (B2 rfl (Ad ?_))))))))))))
 refine An rfl (fun c2 => ?_) (fun c2 => ?_)
 ·have h := Am c2 h
  refine Ab (Aa Ac rfl (qm rfl (qa rfl (qa rfl (Ad ?_)))))
  obtain rfl := sj h
  refine Ak (sm [] [(4, bD false), (5, iD v1.2)] [] rfl rfl) (Az ?_)
  exact ⟨⟨[_, _], ⟨.tmp _ _ rfl, ⟨.tmp _ _ rfl, tv⟩⟩, rfl⟩, tv⟩
 ·have h := Al c2 h
  refine Ap (Ab (Ab (Aa Ac rfl (qa rfl (Ad ?_)))))
  refine AM (L := CW N p0 v1) h (fun v3 => mk [(2, oD (.ptr 2 0)), (6, oD (.own 2002)), (8, iD v3)] [(2, .box [sC (p0.fVersions.map Ai), sC (p0.fNow.map Ai), sC (p0.fTarget.map Ai), sC (p0.fTables.map Ao)]), (2002, .vec 3 (v1.1.map Af))]) (fun v4 => mk [] []) (fun _ _ => rfl) (sm [(2002, 2001)] _ _ rfl rfl) (fun j3 n3 v3 h => ?_) (fun v4 s h hs => ?_)
  ·unfold CW at h
   refine Ab (Ab (Aa Ac rfl (qm rfl (qm rfl (DD AN rfl (A0 rfl (Ad ?_)))))))
   refine An rfl (fun c5 => ?_) (fun c5 => ?_)
   ·have h := Am c5 h
    refine Ap (Ab (AR (Ab (Aa Ac rfl (qL Ec DQ rfl (qm rfl (qm rfl ?_)))))))
    obtain ⟨v6, a6, b6, h⟩ := Aj h
    refine qI AN Ay a6 (Ag b6) rfl (qJ A1 Ay (Ag b6) rfl ?_)
    obtain ⟨v7, a7, h⟩ := bind_some h
    refine AH [] (JD N p0 v6 v7 a7) Yu rfl (Cd rfl (AQ (by kernel_rfl) ?_))
    refine An rfl (fun c8 => ?_) (fun c8 => ?_)
    ·have h := Am c8 h
     refine Ab (Aa Ac rfl (qa rfl (qa rfl (Ad ?_))))
     obtain rfl := sj h
     refine Ak (sm [] [(4, bD false), (5, iD 0)] [] rfl rfl) (Az ?_)
     exact ⟨⟨[_, _], ⟨.tmp _ _ rfl, ⟨.tmp _ _ rfl, tv⟩⟩, rfl⟩, tv⟩
    ·have h := Al c8 h
     refine Ap (Aa Ac rfl (qm rfl (AX rfl (qa rfl (Ad ?_)))))
     exact Aw _ h (sm [] _ _ rfl rfl)
   ·have h := Al c5 h
    refine AY ?_
    exact Aw _ h (sm [] _ _ rfl rfl)
  ·refine Ak hs (Ab (Aa Ac rfl (qa rfl (qa rfl (Ad ?_)))))
   obtain rfl := sj h
   refine Ak (sm [] [(4, bD true), (5, iD 0)] [] rfl rfl) (Az ?_)
   exact ⟨⟨[_, _], ⟨.tmp _ _ rfl, ⟨.tmp _ _ rfl, tv⟩⟩, rfl⟩, tv⟩
theorem JR (N : Nat) (p0 : Ae) (p1 : Ae) (r : Bool) (h : Dt N p0 p1 = some r) : AB Tryz.prog 30 [.e (.agg [sC (p0.fBase.map Ai), sC (p0.fNext.map Ai), sC (p0.fHeld.map Bj)]), .e (.agg [sC (p1.fBase.map Ai), sC (p1.fNext.map Ai), sC (p1.fHeld.map Bj)])] [] (bD r) := by
 unfold Dt at h
 refine Ar (n := 9) (rs := [.tmp 4]) Tryz.func30 rfl rfl rfl (A4 rfl) (A4 rfl) rfl fun w0 S0 => ?_
 refine Ab (Aa Ac rfl (qb rfl (qb rfl (qa rfl (Ad (Ab (Aa Ac rfl (qL A1 Ay rfl (qL A1 Ay rfl ?_)))))))))
 obtain ⟨v1, a1, h⟩ := bind_some h
 refine AH [] (G7 N p0 p1 v1 a1) Wm rfl (BE rfl (qa rfl (Ad ?_)))
 obtain rfl := sj h
 refine Ak (sm [] [(4, bD ((v1 == 0)))] [] rfl rfl) (Az ?_)
 exact ⟨⟨[_], ⟨.tmp _ _ rfl, tv⟩, rfl⟩, tv⟩
theorem Kc (N : Nat) (p0 : List Ae) (p1 : List Ae) (r : Bool) (h : El N p0 p1 = some r) : AB Tryz.prog 16 [pD (.sl (p0.map Af)), pD (.sl (p1.map Af))] [] (bD r) := by
 unfold El at h
 refine Ar (n := 27) (rs := [.tmp 4]) Tryz.func16 rfl rfl rfl (A4 rfl) (A4 rfl) rfl fun w0 S0 => ?_
 refine Ab (Aa Ac rfl (qa rfl (Ad (Ab (Ab (Aa Ac rfl (qm rfl (AW AN rfl (qm rfl (AW AN rfl (B2 rfl (Ad ?_))))))))))))
 refine An rfl (fun c1 => ?_) (fun c1 => ?_)
 ·have h := Am c1 h
  refine Ab (Aa Ac rfl (qa rfl (Ad ?_)))
  obtain rfl := sj h
  refine Ak (sm [] [(4, bD false)] [] rfl rfl) (Az ?_)
  exact ⟨⟨[_], ⟨.tmp _ _ rfl, tv⟩, rfl⟩, tv⟩
 ·have h := Al c1 h
  refine Ap (Ab (Ab (Aa Ac rfl (qa rfl (Ad ?_)))))
  refine AM (L := Cy N p0 p1) h (fun v2 => mk [(0, pD (.sl (p0.map Af))), (1, pD (.sl (p1.map Af))), (5, iD v2)] []) (fun v3 => mk [] []) (fun _ _ => rfl) (sm [] _ _ rfl rfl) (fun j2 n2 v2 h => ?_) (fun v3 s h hs => ?_)
  ·unfold Cy at h
   refine Ab (Ab (Aa Ac rfl (qm rfl (qm rfl (AW AN rfl (A0 rfl (Ad ?_)))))))
   refine An rfl (fun c4 => ?_) (fun c4 => ?_)
   ·have h := Am c4 h
    refine Ap (Ab (AR (Ab (Aa Ac rfl (qm rfl (qm rfl ?_))))))
    obtain ⟨v5, a5, b5, h⟩ := Aj h
    refine qi AN Ay a5 (Ag b5) rfl (qK A1 Ay rfl (qm rfl (qm rfl ?_)))
    obtain ⟨v6, a6, b6, h⟩ := Aj h
    refine qi AN Ay a6 (Ag b6) rfl (qK A1 Ay rfl ?_)
    obtain ⟨v7, a7, h⟩ := bind_some h
    refine AH [] (JR N v5 v6 v7 a7) Yb rfl (Cd rfl (AQ (by kernel_rfl) ?_))
    refine An rfl (fun c8 => ?_) (fun c8 => ?_)
    ·have h := Am c8 h
     refine Ab (Aa Ac rfl (qa rfl (Ad ?_)))
     obtain rfl := sj h
     refine Ak (sm [] [(4, bD false)] [] rfl rfl) (Az ?_)
     exact ⟨⟨[_], ⟨.tmp _ _ rfl, tv⟩, rfl⟩, tv⟩
    ·have h := Al c8 h
     refine Ap (Aa Ac rfl (qm rfl (AX rfl (qa rfl (Ad ?_)))))
     exact Aw _ h (sm [] _ _ rfl rfl)
   ·have h := Al c4 h
    refine AY ?_
    exact Aw _ h (sm [] _ _ rfl rfl)
  ·refine Ak hs (Ab (Aa Ac rfl (qa rfl (Ad ?_))))
   obtain rfl := sj h
   refine Ak (sm [] [(4, bD true)] [] rfl rfl) (Az ?_)
   exact ⟨⟨[_], ⟨.tmp _ _ rfl, tv⟩, rfl⟩, tv⟩
set_option maxRecDepth 10000 in
theorem Is (N : Nat) (p0 : B5) (p1 : List Au) (r : Bool) (h : Cr N p0 p1 = some r) : AB Tryz.prog 3 [.e (.agg [sC (p0.fVersions.map Bj), sC (p0.fNow.map Bj), sC (p0.fTarget.map Bj), sC (p0.fLinks.map B6)]), pD (.sl (p1.map AP))] [] (bD r) := by
 unfold Cr at h
 refine Ar (n := 76) (rs := [.tmp 4]) Tryz.func3 rfl rfl rfl (A4 rfl) (A4 rfl) rfl fun w0 S0 => ?_
 refine Ab (Aa Ac rfl (qb rfl (qa rfl (Ad (Ab (Aa Ac rfl (qL XH Yd rfl ?_)))))))
 obtain ⟨v1, a1, h⟩ := bind_some h
 refine AH [2001, 2002, 2003, 2004] (Le N p0 v1 a1) YB rfl (qm rfl (qx rfl (qx rfl (qz RK rfl (qs DQ rfl (qa rfl (Ad (Ab ?_))))))))
 refine AT h (fun v2 => mk [(1, pD (.sl (p1.map AP))), (5, oD (.ptr 5 0)), (30, bD v2)] [(5, .box [.own 2005, .own 2006, .own 2007, .own 2008]), (2005, .vec 1 (v1.1.fVersions.map Ai)), (2006, .vec 1 (v1.1.fNow.map Ai)), (2007, .vec 1 (v1.1.fTarget.map Ai)), (2008, .vec 6 (v1.1.fTables.map Ao))]) (fun j2 h => ?_) (fun v2 h => ?_)
 ·refine Aa Ac rfl ?_
  obtain ⟨v3, a3, h⟩ := bind_some h
  refine AH [] (HF N v3 a3) Wx rfl (Cd rfl (qm rfl ?_))
  refine AF (t := 22) rfl (fun c4 => ?_) (fun c4 => ?_)
  ·have h := Am c4 h
   refine qn rfl (qn rfl (qp rfl (qm rfl (qn rfl (qn rfl (qn rfl (qp rfl (Ad ?_))))))))
   exact Aw _ h (sm [(2005, 2001), (2006, 2002), (2007, 2003), (2008, 2004)] _ _ rfl rfl)
  ·have h := Al c4 h
   refine qm rfl (Cd rfl (qp rfl (qm rfl ?_)))
   refine AF (t := 26) rfl (fun c5 => ?_) (fun c5 => ?_)
   ·have h := Am c5 h
    refine qn rfl (qn rfl (qn rfl (qp rfl (Ad ?_))))
    exact Aw _ h (sm [(2005, 2001), (2006, 2002), (2007, 2003), (2008, 2004)] _ _ rfl rfl)
   ·have h := Al c5 h
    refine qm rfl (AW Dp rfl (E0 rfl (qp rfl (Ad ?_))))
    exact Aw _ h (sm [(2005, 2001), (2006, 2002), (2007, 2003), (2008, 2004)] _ _ rfl rfl)
 ·refine An rfl (fun c6 => ?_) (fun c6 => ?_)
  ·have h := Am c6 h
   refine Ab (Aa Ac rfl ?_)
   obtain ⟨v7, a7, h⟩ := bind_some h
   refine AH [] (HF N v7 a7) Wx rfl (qa rfl (Ad ?_))
   obtain rfl := sj h
   refine Ak (sm [] [(4, bD v7)] [] rfl rfl) (Az ?_)
   exact ⟨⟨[_], ⟨.tmp _ _ rfl, tv⟩, rfl⟩, tv⟩
  ·have h := Al c6 h
   refine Ap (Ab (Ak (A3 2005 _ _ rfl rfl) (Ak (A3 2006 _ _ rfl rfl) (Ak (A3 2007 _ _ rfl rfl) (Ak (A3 2008 _ _ rfl rfl) (Aa Ac rfl (qL Ec DQ rfl (qm rfl ?_))))))))
   obtain ⟨v8, a8, h⟩ := bind_some h
   refine AH [] ((EO N p1 v8 a8).share rfl) WV rfl ?_
   obtain ⟨v9, a9, h⟩ := bind_some h
   refine AH [] ((J0 N v1.1 v8 v9 a9).share rfl) WW rfl (qm rfl (qx rfl (qx rfl (qa rfl (qa rfl (AQ (by kernel_rfl) (Ab (Aa Ac rfl (qL Ec DQ rfl (qm rfl ?_))))))))))
   obtain ⟨v10, a10, h⟩ := bind_some h
   refine AH [2009] (HA N v1.1 p1 v10 a10) We rfl (qm rfl (qx rfl (qx rfl (qa rfl (qa rfl (Ad (Ab (Aa Ac rfl (qL Ec DQ rfl (qm rfl ?_))))))))))
   obtain ⟨v11, a11, h⟩ := bind_some h
   refine AH [2010] (EO N p1 v11 a11) WV rfl ?_
   obtain ⟨v12, a12, h⟩ := bind_some h
   refine F9 [] [2010] (KM N v1.1 v11 v12 a12) Xb EJ rfl (qm rfl (qx rfl (qx rfl (qa rfl (qa rfl (AQ (by kernel_rfl) (Ab (Aa Ac rfl (qL Ec DQ rfl (qm rfl ?_))))))))))
   obtain ⟨v13, a13, h⟩ := bind_some h
   refine AH [] (J9 N v1.1 p1 v13 a13) Ym rfl (qm rfl (qx rfl (qx rfl (qa rfl (qa rfl (Ad ?_))))))
   refine AT h (fun v14 => mk [(4, bD v14)] []) (fun j14 h => ?_) (fun v14 h => ?_)
   ·refine Aa Ac rfl (qm rfl (qm rfl (BE rfl (qm rfl ?_))))
    refine AF (t := 61) rfl (fun c15 => ?_) (fun c15 => ?_)
    ·have h := Am c15 h
     refine qm rfl (qm rfl (BE rfl (qp rfl (qm rfl ?_))))
     refine AF (t := 66) rfl (fun c16 => ?_) (fun c16 => ?_)
     ·have h := Am c16 h
      refine qm rfl (qm rfl ?_)
      obtain ⟨v17, a17, h⟩ := bind_some h
      refine F9 [] [2009] (Kc N v9.1 v10.1 v17 a17) XV EJ rfl (qp rfl (qm rfl ?_))
      refine AF (t := 71) rfl (fun c18 => ?_) (fun c18 => ?_)
      ·have h := Am c18 h
       refine qm rfl (qm rfl ?_)
       refine G8 (.g rfl rfl) rfl rfl (Tr _ _ _ _ YA) rfl ?_
       refine qp rfl (qa rfl (Ad ?_))
       exact Aw _ h (sm [] _ _ rfl rfl)
      ·have h := Al c18 h
       refine qn rfl (qn rfl (qn rfl (qp rfl (qa rfl (Ad ?_)))))
       exact Aw _ h (sm [] _ _ rfl rfl)
     ·have h := Al c16 h
      refine qn rfl (qn rfl (qn rfl (qp rfl (qm rfl (qn rfl (qn rfl (qn rfl (qp rfl (qa rfl (Ad ?_))))))))))
      exact Aw _ h (sm [] _ _ rfl rfl)
    ·have h := Al c15 h
     refine qn rfl (qn rfl (qn rfl (qp rfl (qm rfl (qn rfl (qn rfl (qn rfl (qp rfl (qm rfl (qn rfl (qn rfl (qn rfl (qp rfl (qa rfl (Ad ?_)))))))))))))))
     exact Aw _ h (sm [] _ _ rfl rfl)
   ·obtain rfl := sj h
    refine Ak (sm [] [(4, bD v14)] [] rfl rfl) (Az ?_)
    exact ⟨⟨[_], ⟨.tmp _ _ rfl, tv⟩, rfl⟩, tv⟩
end Go.Lift
