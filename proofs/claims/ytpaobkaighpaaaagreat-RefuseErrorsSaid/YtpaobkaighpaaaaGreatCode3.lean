/- Lemmas for RefuseErrorsSaid, which YtpaobkaighpaaaaGreatFinR8 proves. -/
import Derived.Test.YtpaobkaighpaaaaGreatCode1
namespace Go.Lift
open IntKind renaming wrap → wI
set_option maxRecDepth 10000
open Go.RowKit
open Go.Proofs
theorem PV (N : Nat) (p0 : Aj) (p1 : Ag) (p2 : Int) (r : Bool × (List Int)) (h : GZ N p0 p1 p2 = some r) : Bh Tryz.prog 125 [.e (.agg [sC (p0.fVersions.map Al), sC (p0.fNow.map Al), sC (p0.fTarget.map Al), sC (p0.fTables.map Ar)]), oD (.ptr 90000 0), iD p2] [(.box [.own 90001, .own 90002, .own 90003], .box [.own 90001, .own 90002, .own 90003]), (.vec 1 (p1.fBase.map Al), .vec 1 (p1.fBase.map Al)), (.vec 1 (p1.fNext.map Al), .vec 1 (p1.fNext.map Al)), (.vec 1 (p1.fHeld.map Bw), .vec 1 (r.2.map Bw))] [] (bD r.1) := by
 unfold GZ at h
 refine A9 (n := 68) (rs := [.tmp 6]) Tryz.func125 rfl rfl rfl (A5 rfl) (A5 rfl) rfl rfl (A5 rfl) rfl (A5 rfl) fun w0 S0 GL => ?_
 refine Am (sm [] [(0, .e (.agg [sC (p0.fVersions.map Al), sC (p0.fNow.map Al), sC (p0.fTarget.map Al), sC (p0.fTables.map Ar)])), (1, oD (.ptr 90000 0)), (2, iD p2)] [(90000, .box [.own 90001, .own 90002, .own 90003]), (90001, .vec 1 (p1.fBase.map Al)), (90002, .vec 1 (p1.fNext.map Al)), (90003, .vec 1 (p1.fHeld.map Bw))] rfl rfl) (Ab (Aa Ac rfl (qb rfl (qa rfl (Ae (Ab (Aa Ac rfl (qf CI rfl (ql GQ rfl (qm rfl ?_))))))))))
 obtain ⟨v1, a1, b1, h⟩ := Ak h
 refine qi D6 EB a1 (Af b1) rfl (qK Iy EB rfl (qz NA rfl (qs EB rfl (Ae (Ab (Ab (Aa Ac rfl (qL Iy EB rfl ?_))))))))
 obtain ⟨v2, a2, h⟩ := bind_some h
 refine AG [] (K6 N v1 v2 a2) V6 rfl (BS rfl (Ae ?_))
 refine Ap rfl (fun c3 => ?_) (fun c3 => ?_)
 ·have h := An c3 h
  refine Ab (Aa Ac rfl (qa rfl (Ae ?_)))
  obtain rfl := sj h
  refine Am (sm [] [(6, bD false)] [(90000, .box [.own 90001, .own 90002, .own 90003]), (90001, .vec 1 (p1.fBase.map Al)), (90002, .vec 1 (p1.fNext.map Al)), (90003, .vec 1 (p1.fHeld.map Bw))] rfl rfl) (AA ?_)
  exact ⟨⟨[_], ⟨.tmp _ _ rfl, tv⟩, rfl⟩, ⟨rfl, rfl, rfl, rfl, tv⟩, tv⟩
 ·have h := Ao c3 h
  refine Aq (Ab (Aa Ac rfl (qm rfl (Nv rfl (qL A4 Az rfl (qf DZ rfl (ql Cz rfl ?_)))))))
  obtain ⟨v4, a4, h⟩ := bind_some h
  refine DI [] [90001, 90002, 90003] (Ny N p1 v1.fFrom v4 a4) XL Cr rfl (qa rfl (AC (by kernel_rfl) (Ab (Aa Ac rfl (qm rfl (Nv rfl (qf CM rfl (ql G5 rfl (qm rfl ?_)))))))))
  obtain ⟨v5, a5, b5, h⟩ := Ak h
  refine qI Dj FW a5 (Af b5) rfl (qj JZ (Af b5) rfl (qm rfl (IN rfl (qa rfl (Ae (Ab ?_))))))
  refine AL h (fun v6 => mk [(1, oD (.ptr 90000 0)), (2, iD p2), (8, pD (.val (.int .u8 v4))), (60, bD v6)] [(90000, .box [.own 90001, .own 90002, .own 90003]), (90001, .vec 1 (p1.fBase.map Al)), (90002, .vec 1 (p1.fNext.map Al)), (90003, .vec 1 (p1.fHeld.map Bw))]) (fun j6 h => ?_) (fun v6 h => ?_)
  ·refine Aa Ac rfl (qm rfl (Nv rfl (qf CM rfl (ql G5 rfl (qm rfl ?_)))))
   obtain ⟨v7, a7, b7, h⟩ := Ak h
   refine qI Dj FW a7 (Af b7) rfl (qj JZ (Af b7) rfl (qm rfl (BQ rfl (qm rfl ?_))))
   refine AB (t := 42) rfl (fun c8 => ?_) (fun c8 => ?_)
   ·have h := An c8 h
    refine qn rfl (qn rfl (qn rfl (qn rfl (qu rfl (qu rfl (qu rfl (qu rfl (qu rfl (qu rfl (qu rfl (qu rfl (qu rfl (qu rfl (qu rfl (qu rfl (qn rfl (qp rfl (AC (by kernel_rfl) ?_))))))))))))))))))
    exact As _ h (sm [] _ _ rfl rfl)
   ·have h := Ao c8 h
    refine qf GG rfl (ql Cz rfl (BQ rfl (qm rfl ?_)))
    refine AB (t := 46) rfl (fun c9 => ?_) (fun c9 => ?_)
    ·have h := An c9 h
     refine qL Iy EB rfl (qm rfl (qm rfl (Nv rfl (qf CO rfl (ql Bs rfl (qf DZ rfl (ql Cz rfl ?_)))))))
     obtain ⟨v10, a10, b10, h⟩ := Ak h
     refine qI AN DJ a10 (Af b10) rfl (qj Cz (Af b10) rfl ?_)
     obtain ⟨v11, a11, h⟩ := bind_some h
     refine AG [] (L4 N v1 ((Do .u8 v5 v4)) v10 v11 a11) YN rfl (BS rfl (qp rfl (qp rfl (AC (by kernel_rfl) ?_))))
     exact As _ h (sm [] _ _ rfl rfl)
    ·have h := Ao c9 h
     refine qn rfl (qn rfl (qn rfl (qn rfl (qn rfl (qn rfl (qn rfl (qn rfl (qn rfl (qn rfl (qn rfl (qn rfl (qp rfl (qp rfl (AC (by kernel_rfl) ?_))))))))))))))
     exact As _ h (sm [] _ _ rfl rfl)
  ·refine Ap rfl (fun c12 => ?_) (fun c12 => ?_)
   ·have h := An c12 h
    refine Ab (Aa Ac rfl (qa rfl (Ae ?_)))
    obtain rfl := sj h
    refine Am (sm [] [(6, bD false)] [(90000, .box [.own 90001, .own 90002, .own 90003]), (90001, .vec 1 (p1.fBase.map Al)), (90002, .vec 1 (p1.fNext.map Al)), (90003, .vec 1 (p1.fHeld.map Bw))] rfl rfl) (AA ?_)
    exact ⟨⟨[_], ⟨.tmp _ _ rfl, tv⟩, rfl⟩, ⟨rfl, rfl, rfl, rfl, tv⟩, tv⟩
   ·have h := Ao c12 h
    refine Aq (Ab (Aa Ac rfl (qm rfl (Nv rfl (qf CM rfl (ql G5 rfl (qm rfl (qm rfl ?_))))))))
    obtain ⟨v13, a13, b13, h⟩ := Ak h
    refine qI Dj FW a13 (Af b13) rfl ?_
    refine AX rfl rfl rfl rfl (Af b13) rfl FW rfl (A5 rfl) (AW Bw p1.fHeld _ v4) ?_
    refine Ae (Ab (Aa Ac rfl (qa rfl (Ae ?_))))
    obtain rfl := sj h
    refine Am (sm [] [(6, bD true)] [(90000, .box [.own 90001, .own 90002, .own 90003]), (90001, .vec 1 (p1.fBase.map Al)), (90002, .vec 1 (p1.fNext.map Al)), (90003, .vec 1 ((p1.fHeld.set ((p2).toNat) v4).map Bw))] rfl rfl) (AA ?_)
    exact ⟨⟨[_], ⟨.tmp _ _ rfl, tv⟩, rfl⟩, ⟨rfl, rfl, rfl, rfl, tv⟩, tv⟩
theorem Ly (N : Nat) (p0 : Aj) (p1 : Ag) (p2 : Aw) (r : Ag × Bool) (h : Fp N p0 p1 p2 = some r) : AD Tryz.prog 97 [.e (.agg [sC (p0.fVersions.map Al), sC (p0.fNow.map Al), sC (p0.fTarget.map Al), sC (p0.fTables.map Ar)]), .e (.agg [sC (p1.fBase.map Al), sC (p1.fNext.map Al), sC (p1.fHeld.map Bw)]), .e (.agg [iC p2.fKind, iC p2.fIndex, iC p2.fVersion])] [(1, r.1.fBase.map Al), (1, r.1.fNext.map Al), (1, r.1.fHeld.map Bw)] (.tup [.agg [.own 0, .own 1, .own 2], .one (.pure (.val (.bool r.2)))]) := by
 unfold Fp at h
 refine Au (n := 51) (rs := [.cell 6 46, .tmp 7]) Tryz.func97 rfl rfl rfl (A5 rfl) (A5 rfl) rfl fun w0 S0 => ?_
 refine Ab (Aa Ac rfl (qb rfl (qb rfl (qb rfl (qz Cs rfl (qa rfl (Ae (Ab (Aa Ac rfl (qL A4 Az rfl ?_))))))))))
 obtain ⟨v1, a1, h⟩ := bind_some h
 refine AG [2001, 2002, 2003] (OD N p1 v1 a1) Ys rfl (qz Cs rfl (qs Az rfl (Ae (Ab (Ab (Aa Ac rfl (qf FO rfl (ql Cz rfl (Ae (AJ (Ab (Aa Ac rfl (BQ rfl (qa rfl (Ae ?_)))))))))))))))
 refine Ap rfl (fun c2 => ?_) (fun c2 => ?_)
 ·have h := An c2 h
  refine Ab (Aa Ac rfl (qL A4 Az rfl (qL Di Da rfl (qL HR Es rfl ?_))))
  obtain ⟨v3, a3, h⟩ := bind_some h
  refine BD (ds0 := [_, _, _]) [8, 2001, 2002, 2003] [] [false, false, true, true] (Pr N p0 v1 p2 v3 a3) (.p rfl) XN rfl ⟨rfl, rfl, rfl, tv⟩ rfl rfl (by decide) ⟨rfl, rfl, rfl, rfl, tv⟩ rfl (A1 rfl) tv ⟨(fun _ => rfl), (fun _ => rfl), (fun h => by cases h), (fun h => by cases h), tv⟩ rfl rfl rfl ?_
  refine qs Az rfl (qa rfl (AC (by kernel_rfl) ?_))
  obtain rfl := sj h
  refine Am (sm [(1000, 2001), (1001, 2002), (1002, 2003)] [(6, oD (.ptr 6 0)), (7, bD v3.1)] [(6, .box [.own 1000, .own 1001, .own 1002]), (1000, .vec 1 (v1.fBase.map Al)), (1001, .vec 1 (v3.2.1.map Al)), (1002, .vec 1 (v3.2.2.map Bw))] rfl rfl) (AA ?_)
  exact ⟨⟨[_, _], ⟨.cellN _ _ _ _ _ _ _ rfl rfl A4 Az rfl rfl (Iq rfl), ⟨.tmp _ _ rfl, tv⟩⟩, rfl⟩, ⟨rfl, rfl, rfl, tv⟩⟩
 ·have h := Ao c2 h
  refine Ab (Aa Ac rfl (BQ rfl (qa rfl (Ae ?_))))
  refine Ap rfl (fun c4 => ?_) (fun c4 => ?_)
  ·have h := An c4 h
   refine Ab (Aa Ac rfl (qL A4 Az rfl (qL Di Da rfl (qf E6 rfl (ql Cz rfl ?_)))))
   obtain ⟨v5, a5, h⟩ := bind_some h
   refine BD (ds0 := [_, _, _]) [8, 2001, 2002, 2003] [] [false, false, false, true] (PV N p0 v1 p2.fIndex v5 a5) (.p rfl) YK rfl ⟨rfl, rfl, rfl, tv⟩ rfl rfl (by decide) ⟨rfl, rfl, rfl, rfl, tv⟩ rfl (A1 rfl) tv ⟨(fun _ => rfl), (fun _ => rfl), (fun _ => rfl), (fun h => by cases h), tv⟩ rfl rfl rfl ?_
   refine qs Az rfl (qa rfl (AC (by kernel_rfl) ?_))
   obtain rfl := sj h
   refine Am (sm [(1000, 2001), (1001, 2002), (1002, 2003)] [(6, oD (.ptr 6 0)), (7, bD v5.1)] [(6, .box [.own 1000, .own 1001, .own 1002]), (1000, .vec 1 (v1.fBase.map Al)), (1001, .vec 1 (v1.fNext.map Al)), (1002, .vec 1 (v5.2.map Bw))] rfl rfl) (AA ?_)
   exact ⟨⟨[_, _], ⟨.cellN _ _ _ _ _ _ _ rfl rfl A4 Az rfl rfl (Iq rfl), ⟨.tmp _ _ rfl, tv⟩⟩, rfl⟩, ⟨rfl, rfl, rfl, tv⟩⟩
  ·have h := Ao c4 h
   refine Aq (Ab (Aa Ac rfl (qf BK rfl (ql Bs rfl (qf E6 rfl (ql Cz rfl ?_))))))
   obtain ⟨v6, a6, b6, h⟩ := Ak h
   refine qI AN DJ a6 (Af b6) rfl (qj Cz (Af b6) rfl (qa rfl (Ae (Ab (Ab (Aa Ac rfl (qm rfl (AY rfl (Ae ?_)))))))))
   refine Ap rfl (fun c7 => ?_) (fun c7 => ?_)
   ·have h := An c7 h
    refine Ab (Aa Ac rfl (qL A4 Az rfl (qs Az rfl (qa rfl (Ae ?_)))))
    obtain rfl := sj h
    refine Am (sm [(1000, 2001), (1001, 2002), (1002, 2003)] [(6, oD (.ptr 6 0)), (7, bD false)] [(6, .box [.own 1000, .own 1001, .own 1002]), (1000, .vec 1 (v1.fBase.map Al)), (1001, .vec 1 (v1.fNext.map Al)), (1002, .vec 1 (v1.fHeld.map Bw))] rfl rfl) (AA ?_)
    exact ⟨⟨[_, _], ⟨.cellN _ _ _ _ _ _ _ rfl rfl A4 Az rfl rfl (Iq rfl), ⟨.tmp _ _ rfl, tv⟩⟩, rfl⟩, ⟨rfl, rfl, rfl, tv⟩⟩
   ·have h := Ao c7 h
    refine Aq (Ab (Aa Ac rfl (qf BK rfl (ql Bs rfl (qf E6 rfl (ql Cz rfl ?_))))))
    obtain ⟨v8, a8, b8, h⟩ := Ak h
    refine qI AN DJ a8 (Af b8) rfl ?_
    refine AX rfl rfl rfl rfl (Af b8) rfl DJ rfl (A5 rfl) (AW Al v1.fNext _ ((-1))) ?_
    refine Ae ?_
    refine AL h (fun v9 => mk [(6, oD (.ptr 6 0)), (8, oD (.ptr 8 0))] [(6, .box [.pure (.nil0), .pure (.nil0), .pure (.nil0)]), (8, .box [.own 2004, .own 2005, .own 2006]), (2004, .vec 1 (v9.map Al)), (2005, .vec 1 ((v1.fNext.set ((p2.fIndex).toNat) ((-1))).map Al)), (2006, .vec 1 (v1.fHeld.map Bw))]) (fun j9 h => ?_) (fun v9 h => ?_)
    ·refine Ab (Aa Ac rfl (qf FO rfl (ql Cz rfl (BQ rfl (Ae ?_)))))
     refine Ap rfl (fun c10 => ?_) (fun c10 => ?_)
     ·have h := An c10 h
      refine Aa Ac rfl (qf CO rfl (ql Bs rfl (qf E6 rfl (ql Cz rfl (qm rfl ?_)))))
      obtain ⟨v11, a11, b11, h⟩ := Ak h
      refine qI AN DJ a11 (Af b11) rfl ?_
      refine AX rfl rfl rfl rfl (Af b11) rfl DJ rfl (A5 rfl) (AW Al v1.fBase _ v6) ?_
      refine Ae ?_
      exact As _ h (sm [(2004, 2001), (2005, 2002), (2006, 2003)] _ _ rfl rfl)
     ·have h := Ao c10 h
      refine Aq ?_
      exact As _ h (sm [(2004, 2001), (2005, 2002), (2006, 2003)] _ _ rfl rfl)
    ·refine Ab (Aa Ac rfl (qL A4 Az rfl (qs Az rfl (qa rfl (Ae ?_)))))
     obtain rfl := sj h
     refine Am (sm [(1000, 2004), (1001, 2005), (1002, 2006)] [(6, oD (.ptr 6 0)), (7, bD true)] [(6, .box [.own 1000, .own 1001, .own 1002]), (1000, .vec 1 (v9.map Al)), (1001, .vec 1 ((v1.fNext.set ((p2.fIndex).toNat) ((-1))).map Al)), (1002, .vec 1 (v1.fHeld.map Bw))] rfl rfl) (AA ?_)
     exact ⟨⟨[_, _], ⟨.cellN _ _ _ _ _ _ _ rfl rfl A4 Az rfl rfl (Iq rfl), ⟨.tmp _ _ rfl, tv⟩⟩, rfl⟩, ⟨rfl, rfl, rfl, tv⟩⟩
theorem Mf (N : Nat) (p0 : Aw) (p1 : List Int) (p2 : List Int) (p3 : List Int) (p4 : List AV) (p5 : List Int) (p6 : List Int) (p7 : List Int) (r : Bool) (h : Dw N p0 p1 p2 p3 p4 p5 p6 p7 = some r) : AD Tryz.prog 96 [.e (.agg [iC p0.fKind, iC p0.fIndex, iC p0.fVersion]), oD (.rop [.sl (p1.map Al), .sl (p2.map Al), .sl (p3.map Al), .sl (p4.map Ar)]), oD (.rop [.sl (p5.map Al), .sl (p6.map Al), .sl (p7.map Bw)])] [] (bD r) := by
 unfold Dw at h
 refine Au (n := 16) (rs := [.tmp 4]) Tryz.func96 rfl rfl rfl (A5 rfl) (A5 rfl) rfl fun w0 S0 => ?_
 refine Ab (Aa Ac rfl (qb rfl (qa rfl (Ae (Ab (Aa Ac rfl (qK Di Da rfl (qK A4 Az rfl (qL HR Es rfl ?_)))))))))
 obtain ⟨v1, a1, h⟩ := bind_some h
 refine AG [2001, 2002, 2003] (Ly N ((Aj.mk p1 p2 p3 p4)) ((Ag.mk p5 p6 p7)) p0 v1 a1) XY rfl (qm rfl (qx rfl (qx rfl (qz Cs rfl (qs Az rfl (qa rfl (Ae (Ab (Aa Ac rfl (qm rfl (BS rfl (qa rfl (Ae ?_)))))))))))))
 obtain rfl := sj h
 refine Am (sm [] [(4, bD ((!v1.2)))] [] rfl rfl) (AA ?_)
 exact ⟨⟨[_], ⟨.tmp _ _ rfl, tv⟩, rfl⟩, tv⟩
theorem GN (N : Nat) (p0 : List Aw) (p1 : Aw → Option Bool) (r : Int) (h : B0 N p0 p1 = some r) : AD Tryz.prog 122 [pD (.sl (p0.map A2)), oD (.clo (Bb (MQ true A2) tB p1))] [] (iD r) := by
 unfold B0 at h
 refine Au (n := 19) (rs := [.tmp 4]) Tryz.func122 rfl rfl rfl (A5 rfl) (A5 rfl) rfl fun w0 S0 => ?_
 refine Ab (Aa Ac rfl (qa rfl (Ae (Ab (Ab (Aa Ac rfl (qm rfl (AR EU rfl (qm rfl (Ae ?_))))))))))
 refine AE (L := Bl N p0 p1) h (fun v1 => mk [(0, pD (.sl (p0.map A2))), (1, oD (.clo (Bb (MQ true A2) tB p1))), (7, iD ((p0.length : Int))), (8, iD v1)] []) (fun v2 => mk [] []) (fun _ _ => rfl) (sm [] _ _ rfl rfl) (fun j1 n1 v1 h => ?_) (fun v2 s h hs => ?_)
 ·unfold Bl at h
  refine Ab (Aa Ac rfl (AY rfl (Ae (Ab ?_))))
  refine Ap rfl (fun c3 => ?_) (fun c3 => ?_)
  ·have h := An c3 h
   refine Aq (Ab (AJ (Ab (Aa Ac rfl (qm rfl (qa rfl (Ae (Ab (Aa Ac rfl (qm rfl (qm rfl (qm rfl ?_))))))))))))
   obtain ⟨v4, a4, b4, h⟩ := Ak h
   refine qi EU Es a4 (Af b4) rfl (qK HR Es rfl ?_)
   obtain ⟨v5, a5, h⟩ := bind_some h
   refine Cx (ds0 := [_]) (ar := (MQ true A2) v4) (.p rfl) rfl rfl ⟨rfl, tv⟩ rfl rfl rfl (Cw (LE _ _ Nt) a5) ?_
   refine Ae ?_
   refine Ap rfl (fun c6 => ?_) (fun c6 => ?_)
   ·have h := An c6 h
    refine Ab (Aa Ac rfl (qm rfl (qa rfl (Ae ?_))))
    obtain rfl := sj h
    refine Am (sm [] [(4, iD v1)] [] rfl rfl) (AA ?_)
    exact ⟨⟨[_], ⟨.tmp _ _ rfl, tv⟩, rfl⟩, tv⟩
   ·have h := Ao c6 h
    refine Aq (Aa Ac rfl (AP rfl (qm rfl (Ae ?_))))
    exact As _ h (sm [] _ _ rfl rfl)
  ·have h := Ao c3 h
   refine AQ ?_
   exact As _ h (sm [] _ _ rfl rfl)
 ·refine Am hs (Ab (Aa Ac rfl (qa rfl (Ae ?_))))
  obtain rfl := sj h
  refine Am (sm [] [(4, iD ((-1)))] [] rfl rfl) (AA ?_)
  exact ⟨⟨[_], ⟨.tmp _ _ rfl, tv⟩, rfl⟩, tv⟩
theorem GA (N : Nat) (p0 : List Aw) (p1 : Aw → Option Bool) (r : Nat × (List Aw)) (h : BX N p0 p1 = some r) : Bh Tryz.prog 94 [oD (.own 90000), oD (.clo (Bb (MQ true A2) tB p1))] [(.vec 3 (p0.map A2), .vec 3 (r.2.map A2))] [] (oD (.view 90000 3 0 r.1)) := by
 unfold BX at h
 refine A9 (n := 42) (rs := [.tmp 4]) Tryz.func94 rfl rfl rfl (A5 rfl) (A5 rfl) rfl rfl (A5 rfl) rfl (A5 rfl) fun w0 S0 GL => ?_
 refine Am (sm [] [(0, oD (.own 90000)), (1, oD (.clo (Bb (MQ true A2) tB p1)))] [(90000, .vec 3 (p0.map A2))] rfl rfl) (Ab (Aa Ac rfl (qa rfl (Ae (Ab (Aa Ac rfl (qm rfl (qm rfl ?_))))))))
 obtain ⟨v1, a1, h⟩ := bind_some h
 refine DI [] [90000] (GN N p0 p1 v1 a1) Xm Cr rfl (qa rfl (Ae (Ab (Ab (Aa Ac rfl (qm rfl (BQ rfl (Ae ?_))))))))
 refine Ap rfl (fun c2 => ?_) (fun c2 => ?_)
 ·have h := An c2 h
  refine Ab (Aa Ac rfl (qm rfl (qa rfl (Ae ?_))))
  obtain rfl := sj h
  refine Am ((PL A2 p0 4 90000 3 rfl rfl).trans (sm [] [(4, oD (.view 90000 3 0 p0.length))] [(90000, .vec 3 (p0.map A2))] rfl rfl)) (AA ?_)
  exact ⟨⟨[_], ⟨.tmp _ _ rfl, tv⟩, rfl⟩, ⟨rfl, tv⟩, tv⟩
 ·have h := Ao c2 h
  refine Aq (Ab (Ab (Aa Ac rfl (qm rfl (AP rfl (qa rfl (Ae ?_)))))))
  refine AE (L := Bc N p1) h (fun v3 => mk [(0, oD (.own 90000)), (1, oD (.clo (Bb (MQ true A2) tB p1))), (5, iD v3.2.1), (6, iD v3.2.2)] [(90000, .vec 3 (v3.1.map A2))]) (fun v4 => mk [(0, oD (.own 90000)), (5, iD v4.2)] [(90000, .vec 3 (v4.1.map A2))]) (fun _ _ => rfl) (sm [] _ _ rfl rfl) (fun j3 n3 v3 h => ?_) (fun v4 s h hs => ?_)
  ·unfold Bc at h
   refine Ab (Ab (Aa Ac rfl (qm rfl (qm rfl (EP EU rfl (AY rfl (Ae ?_)))))))
   refine Ap rfl (fun c5 => ?_) (fun c5 => ?_)
   ·have h := An c5 h
    refine Aq ?_
    refine AL h (fun v6 => mk [(0, oD (.own 90000)), (1, oD (.clo (Bb (MQ true A2) tB p1))), (5, iD v6.2), (6, iD v3.2.2)] [(90000, .vec 3 (v6.1.map A2))]) (fun j6 h => ?_) (fun v6 h => ?_)
    ·refine AJ (Ab (Aa Ac rfl (qm rfl (qm rfl ?_))))
     obtain ⟨v7, a7, b7, h⟩ := Ak h
     refine qI EU Es a7 (Af b7) rfl (qJ HR Es (Af b7) rfl (qz Jq rfl (qs Es rfl (Ae (Ab (Aa Ac rfl (qm rfl (qL HR Es rfl ?_))))))))
     obtain ⟨v8, a8, h⟩ := bind_some h
     refine Cx (ds0 := [_]) (ar := (MQ true A2) v7) (.p rfl) rfl rfl ⟨rfl, tv⟩ rfl rfl rfl (Cw (LE _ _ Nt) a8) ?_
     refine BS rfl (Ae ?_)
     refine Ap rfl (fun c9 => ?_) (fun c9 => ?_)
     ·have h := An c9 h
      refine Ab (Aa Ac rfl (qm rfl (qm rfl (qL HR Es rfl ?_))))
      obtain ⟨v10, a10, b10, h⟩ := Ak h
      refine qI EU Es a10 (Af b10) rfl ?_
      refine AX rfl rfl rfl rfl (Af b10) rfl Es rfl (A5 rfl) (AW A2 v3.1 _ v7) ?_
      refine Ae (Aa Ac rfl (qm rfl (AP rfl (qa rfl (Ae ?_)))))
      exact As _ h (sm [] _ _ rfl rfl)
     ·have h := Ao c9 h
      refine Aq ?_
      exact As _ h (sm [] _ _ rfl rfl)
    ·refine Aa Ac rfl (qm rfl (AP rfl (qa rfl (Ae ?_))))
     exact As _ h (sm [] _ _ rfl rfl)
   ·have h := Ao c5 h
    refine AQ ?_
    exact As _ h (sm [] _ _ rfl rfl)
  ·refine Am hs (Ab (Aa Ac rfl (qm rfl (qm rfl ?_))))
   obtain ⟨c11, h⟩ := Ba h
   have w12 : ((v4.2).toNat) + ((v4.1.length - (v4.2).toNat)) ≤ v4.1.length := by have := c11.2.1; have := c11.2.2; omega
   refine IS A2 v4.1 (.p rfl) rfl (H7 A2 _ _ v4.1) rfl EU Es (.some _ _ _ _ c11.1) (.none _) ⟨rfl, tv⟩ tv c11.2.1 (by rw [Nat.zero_add]; exact c11.2.2) (Nat.zero_add _) rfl ?_
   have w13 : (HQ v4.1 ((v4.2).toNat) (List.replicate ((v4.1.length - (v4.2).toNat)) ((Aw.mk 0 0 0)))).length = v4.1.length := IR (by rw [List.length_replicate]; exact w12)
   refine P3 A2 v4.1 ((Aw.mk 0 0 0)) rfl rfl (Ma A2 _ _ ((v4.2).toNat) ((v4.1.length - (v4.2).toNat)) v4.1 w12) rfl EU Jq rfl rfl rfl rfl ?_
   refine Ae (Ab (Aa Ac rfl (qm rfl (qm rfl ?_))))
   obtain ⟨c14, h⟩ := Ba h
   have w15 : 0 + ((v4.2).toNat) ≤ (HQ v4.1 ((v4.2).toNat) (List.replicate ((v4.1.length - (v4.2).toNat)) ((Aw.mk 0 0 0)))).length := by have := c14.2.1; have := c14.2.2; omega
   refine IS A2 (HQ v4.1 ((v4.2).toNat) (List.replicate ((v4.1.length - (v4.2).toNat)) ((Aw.mk 0 0 0)))) (.p rfl) rfl (H7 A2 _ _ (HQ v4.1 ((v4.2).toNat) (List.replicate ((v4.1.length - (v4.2).toNat)) ((Aw.mk 0 0 0))))) rfl EU Es (.none _) (.some _ _ _ _ c14.1) tv ⟨rfl, tv⟩ c14.2.1 (by rw [Nat.zero_add]; exact c14.2.2) (Nat.zero_add _) rfl ?_
   refine qa rfl (Ae ?_)
   obtain rfl := sj h
   refine Am (sm [] [(4, oD (.view 90000 3 0 ((v4.2).toNat)))] [(90000, .vec 3 ((HQ v4.1 ((v4.2).toNat) (List.replicate ((v4.1.length - (v4.2).toNat)) ((Aw.mk 0 0 0)))).map A2))] rfl rfl) (AA ?_)
   exact ⟨⟨[_], ⟨.tmp _ _ rfl, tv⟩, rfl⟩, ⟨rfl, tv⟩, tv⟩
theorem IY (N : Nat) (p0 : Aj) (p1 : Ag) (r : (List Aw) × Int) (h : DE N p0 p1 = some r) : AD Tryz.prog 48 [.e (.agg [sC (p0.fVersions.map Al), sC (p0.fNow.map Al), sC (p0.fTarget.map Al), sC (p0.fTables.map Ar)]), .e (.agg [sC (p1.fBase.map Al), sC (p1.fNext.map Al), sC (p1.fHeld.map Bw)])] [(3, r.1.map A2)] (.tup [.one (.own 0), .one (iC r.2)]) := by
 unfold DE at h
 refine Au (n := 17) (rs := [.tmp 4, .tmp 5]) Tryz.func48 rfl rfl rfl (A5 rfl) (A5 rfl) rfl fun w0 S0 => ?_
 refine Ab (Aa Ac rfl (qb rfl (qb rfl (qa rfl (qa rfl (Ae (Ab (Ab (Aa Ac rfl (qL Di Da rfl (qL A4 Az rfl ?_)))))))))))
 obtain ⟨v1, a1, h⟩ := bind_some h
 refine AG [] (H8 N p0 p1 v1 a1) Ub rfl (qa rfl (Ae (Ab (Aa Ac rfl (qm rfl (BP rfl (Ae ?_)))))))
 refine Ap rfl (fun c2 => ?_) (fun c2 => ?_)
 ·have h := An c2 h
  refine Ab (Aa Ac rfl (qm rfl (qa rfl (qa rfl (Ae ?_)))))
  obtain rfl := sj h
  refine Am ((BB 4 2001 3 rfl rfl rfl).trans (sm [(1000, 2001)] [(4, oD (.own 1000)), (5, iD v1)] [(1000, .vec 3 ((([] : List Aw)).map A2))] rfl rfl)) (AA ?_)
  exact ⟨⟨[_, _], ⟨.tmp _ _ rfl, ⟨.tmp _ _ rfl, tv⟩⟩, rfl⟩, ⟨rfl, tv⟩⟩
 ·have h := Ao c2 h
  refine Aq (Ab (Aa Ac rfl (qL Di Da rfl ?_)))
  obtain ⟨v3, a3, h⟩ := bind_some h
  refine AG [2002] (RH N p0 v3 a3) Zt rfl (EM (LC 2 [.sl (p0.fVersions.map Al), .sl (p0.fNow.map Al), .sl (p0.fTarget.map Al), .sl (p0.fTables.map Ar)] rfl rfl) (EM (LC 3 [.sl (p1.fBase.map Al), .sl (p1.fNext.map Al), .sl (p1.fHeld.map Bw)] rfl rfl) ?_))
  refine Lf (capD := [_, _]) (Bb (MQ true A2) tB ((fun (x : Aw) => Dw N x p0.fVersions p0.fNow p0.fTarget p0.fTables p1.fBase p1.fNext p1.fHeld))) (.p rfl) Zm rfl ⟨rfl, rfl, tv⟩ rfl (fun ar t ht => by obtain ⟨x, r, rfl, hq, rfl⟩ := Hl ht; exact Mf N x p0.fVersions p0.fNow p0.fTarget p0.fTables p1.fBase p1.fNext p1.fHeld r hq) ?_
  obtain ⟨v4, a4, h⟩ := bind_some h
  obtain ⟨c5, h⟩ := Ba h
  have w6 : 0 + v4.1 ≤ v4.2.length := by rw [Nat.zero_add]; exact c5
  refine BD (ds0 := [_, _]) [2002] [] [true] (GA N v3 ((fun (x : Aw) => Dw N x p0.fVersions p0.fNow p0.fTarget p0.fTables p1.fBase p1.fNext p1.fHeld)) v4 a4) (.p rfl) Y7 rfl ⟨rfl, rfl, tv⟩ rfl rfl (by decide) ⟨rfl, tv⟩ rfl (A1 rfl) tv ⟨(fun h => by cases h), tv⟩ rfl rfl rfl ?_
  refine EM (UQ A2 v4.2 16 2002 2003 3 v4.1 rfl rfl rfl rfl rfl c5) (qa rfl (qa rfl (Ae ?_)))
  obtain rfl := sj h
  refine Am (sm [(1000, 2003)] [(4, oD (.own 1000)), (5, iD 0)] [(1000, .vec 3 ((v4.2.take v4.1).map A2))] rfl rfl) (AA ?_)
  exact ⟨⟨[_, _], ⟨.tmp _ _ rfl, ⟨.tmp _ _ rfl, tv⟩⟩, rfl⟩, ⟨rfl, tv⟩⟩
theorem Pk (N : Nat) (p0 : Aw) (r : Bool) (h : GV N p0 = some r) : AD Tryz.prog 126 [.e (.agg [iC p0.fKind, iC p0.fIndex, iC p0.fVersion])] [] (bD r) := by
 unfold GV at h
 refine Au (n := 27) (rs := [.tmp 2]) Tryz.func126 rfl rfl rfl (A5 rfl) (A5 rfl) rfl fun w0 S0 => ?_
 refine Ab (Aa Ac rfl (qb rfl (qa rfl (Ae (Ab ?_)))))
 refine AL h (fun v1 => mk [(1, oD (.ptr 1 0)), (18, bD v1)] [(1, .box [iC p0.fKind, iC p0.fIndex, iC p0.fVersion])]) (fun j1 h => ?_) (fun v1 h => ?_)
 ·refine Aa Ac rfl (qf E6 rfl (ql Cz rfl (qf Ha rfl (ql Cz rfl ?_))))
  refine Yn (.p rfl) rfl rfl ?_
  refine AY rfl (qm rfl ?_)
  refine AB (t := 9) rfl (fun c2 => ?_) (fun c2 => ?_)
  ·have h := An c2 h
   refine qn rfl (qn rfl (qn rfl (qp rfl (qm rfl (qn rfl (qn rfl (qn rfl (qp rfl (Ae ?_)))))))))
   exact As _ h (sm [] _ _ rfl rfl)
  ·have h := Ao c2 h
   refine qf FO rfl (ql Cz rfl (AY rfl (qp rfl (qm rfl ?_))))
   refine AB (t := 14) rfl (fun c3 => ?_) (fun c3 => ?_)
   ·have h := An c3 h
    refine qn rfl (qn rfl (qn rfl (qp rfl (Ae ?_))))
    exact As _ h (sm [] _ _ rfl rfl)
   ·have h := Ao c3 h
    refine qf FO rfl (ql Cz rfl (DC rfl (qp rfl (Ae ?_))))
    exact As _ h (sm [] _ _ rfl rfl)
 ·refine Ap rfl (fun c4 => ?_) (fun c4 => ?_)
  ·have h := An c4 h
   refine Ab (Aa Ac rfl (qa rfl (Ae ?_)))
   obtain rfl := sj h
   refine Am (sm [] [(2, bD false)] [] rfl rfl) (AA ?_)
   exact ⟨⟨[_], ⟨.tmp _ _ rfl, tv⟩, rfl⟩, tv⟩
  ·have h := Ao c4 h
   refine Aq ?_
   refine AL h (fun v5 => mk [(2, bD v5)] []) (fun j5 h => ?_) (fun v5 h => ?_)
   ·refine Aa Ac rfl (qf FO rfl (ql Cz rfl (BQ rfl (qm rfl ?_))))
    refine AB (t := 22) rfl (fun c6 => ?_) (fun c6 => ?_)
    ·have h := An c6 h
     refine qn rfl (qn rfl (qn rfl (qp rfl (qa rfl (Ae ?_)))))
     exact As _ h (sm [] _ _ rfl rfl)
    ·have h := Ao c6 h
     refine qf Ha rfl (ql Cz rfl (BQ rfl (qp rfl (qa rfl (Ae ?_)))))
     exact As _ h (sm [] _ _ rfl rfl)
   ·obtain rfl := sj h
    refine Am (sm [] [(2, bD v5)] [] rfl rfl) (AA ?_)
    exact ⟨⟨[_], ⟨.tmp _ _ rfl, tv⟩, rfl⟩, tv⟩
theorem OB (N : Nat) (p0 : Aj) (p1 : Aw) (r : Bool) (h : Gq N p0 p1 = some r) : AD Tryz.prog 127 [.e (.agg [sC (p0.fVersions.map Al), sC (p0.fNow.map Al), sC (p0.fTarget.map Al), sC (p0.fTables.map Ar)]), .e (.agg [iC p1.fKind, iC p1.fIndex, iC p1.fVersion])] [] (bD r) := by
 unfold Gq at h
 refine Au (n := 36) (rs := [.tmp 4]) Tryz.func127 rfl rfl rfl (A5 rfl) (A5 rfl) rfl fun w0 S0 => ?_
 refine Ab (Aa Ac rfl (qb rfl (qb rfl (qa rfl (Ae (Ab (Ab (Aa Ac rfl (qf FO rfl (ql Cz rfl (BQ rfl (Ae ?_))))))))))))
 refine Ap rfl (fun c1 => ?_) (fun c1 => ?_)
 ·have h := An c1 h
  refine Ab (Aa Ac rfl (qf E6 rfl (ql Cz rfl (qf CI rfl (ql GQ rfl (AR D6 rfl (AY rfl (qa rfl (Ae ?_)))))))))
  obtain rfl := sj h
  refine Am (sm [] [(4, bD ((decide (p1.fIndex < (p0.fTables.length : Int)))))] [] rfl rfl) (AA ?_)
  exact ⟨⟨[_], ⟨.tmp _ _ rfl, tv⟩, rfl⟩, tv⟩
 ·have h := Ao c1 h
  refine Aq ?_
  refine AL h (fun v2 => mk [(4, bD v2)] []) (fun j2 h => ?_) (fun v2 h => ?_)
  ·refine Aa Ac rfl (qf E6 rfl (ql Cz rfl (qf Cq rfl (ql Bs rfl (AR AN rfl (AY rfl (qm rfl ?_)))))))
   refine AB (t := 20) rfl (fun c3 => ?_) (fun c3 => ?_)
   ·have h := An c3 h
    refine qf FO rfl (ql Cz rfl (BP rfl (qm rfl ?_)))
    refine AB (t := 24) rfl (fun c4 => ?_) (fun c4 => ?_)
    ·have h := An c4 h
     refine qn rfl (qn rfl (qn rfl (qn rfl (qn rfl (qn rfl (qn rfl (qn rfl (qn rfl (qp rfl (qp rfl (qa rfl (AC (by kernel_rfl) ?_))))))))))))
     exact As _ h (sm [] _ _ rfl rfl)
    ·have h := Ao c4 h
     refine qf Ha rfl (ql Cz rfl (qf Cq rfl (ql Bs rfl (qf E6 rfl (ql Cz rfl ?_)))))
     obtain ⟨v5, a5, b5, h⟩ := Ak h
     refine qi AN DJ a5 (Af b5) rfl (qk Cz rfl (AY rfl (qp rfl (qp rfl (qa rfl (AC (by kernel_rfl) ?_))))))
     exact As _ h (sm [] _ _ rfl rfl)
   ·have h := Ao c3 h
    refine qn rfl (qn rfl (qn rfl (qn rfl (qu rfl (qu rfl (qu rfl (qu rfl (qu rfl (qu rfl (qu rfl (qu rfl (qu rfl (qn rfl (qp rfl (qa rfl (AC (by kernel_rfl) ?_))))))))))))))))
    exact As _ h (sm [] _ _ rfl rfl)
  ·obtain rfl := sj h
   refine Am (sm [] [(4, bD v2)] [] rfl rfl) (AA ?_)
   exact ⟨⟨[_], ⟨.tmp _ _ rfl, tv⟩, rfl⟩, tv⟩
theorem PC (N : Nat) (p0 : Aj) (p1 : Ag) (p2 : Aw) (r : Ag × Int) (h : G1 N p0 p1 p2 = some r) : AD Tryz.prog 98 [.e (.agg [sC (p0.fVersions.map Al), sC (p0.fNow.map Al), sC (p0.fTarget.map Al), sC (p0.fTables.map Ar)]), .e (.agg [sC (p1.fBase.map Al), sC (p1.fNext.map Al), sC (p1.fHeld.map Bw)]), .e (.agg [iC p2.fKind, iC p2.fIndex, iC p2.fVersion])] [(1, r.1.fBase.map Al), (1, r.1.fNext.map Al), (1, r.1.fHeld.map Bw)] (.tup [.agg [.own 0, .own 1, .own 2], .one (iC r.2)]) := by
 unfold G1 at h
 refine Au (n := 32) (rs := [.cell 6 46, .tmp 7]) Tryz.func98 rfl rfl rfl (A5 rfl) (A5 rfl) rfl fun w0 S0 => ?_
 refine Ab (Aa Ac rfl (qb rfl (qb rfl (qb rfl (qz Cs rfl (qa rfl (Ae (Ab (AJ (Ab (Aa Ac rfl (qL HR Es rfl ?_))))))))))))
 obtain ⟨v1, a1, h⟩ := bind_some h
 refine AG [] (Pk N p2 v1 a1) Yb rfl (BS rfl (qa rfl (Ae ?_)))
 refine Ap rfl (fun c2 => ?_) (fun c2 => ?_)
 ·have h := An c2 h
  refine Ab (Aa Ac rfl (Br Cs Gt rfl (qs Az rfl (qa rfl (Ae ?_)))))
  obtain rfl := sj h
  refine Am ((AO 6 0 2001 1 _ rfl rfl rfl rfl).trans ((AO 6 1 2002 1 _ rfl rfl rfl rfl).trans ((AO 6 2 2003 1 _ rfl rfl rfl rfl).trans (sm [(1000, 2001), (1001, 2002), (1002, 2003)] [(6, oD (.ptr 6 0)), (7, iD 1)] [(6, .box [.own 1000, .own 1001, .own 1002]), (1000, .vec 1 ((([] : List Int)).map Al)), (1001, .vec 1 ((([] : List Int)).map Al)), (1002, .vec 1 ((([] : List Int)).map Bw))] rfl rfl)))) (AA ?_)
  exact ⟨⟨[_, _], ⟨.cellN _ _ _ _ _ _ _ rfl rfl A4 Az rfl rfl (Iq rfl), ⟨.tmp _ _ rfl, tv⟩⟩, rfl⟩, ⟨rfl, rfl, rfl, tv⟩⟩
 ·have h := Ao c2 h
  refine Ab (Aa Ac rfl (qL Di Da rfl (qL HR Es rfl ?_)))
  obtain ⟨v3, a3, h⟩ := bind_some h
  refine AG [] (OB N p0 p2 v3 a3) X2 rfl (BS rfl (qa rfl (Ae ?_)))
  refine Ap rfl (fun c4 => ?_) (fun c4 => ?_)
  ·have h := An c4 h
   refine Ab (Aa Ac rfl (Br Cs Gt rfl (qs Az rfl (qa rfl (Ae ?_)))))
   obtain rfl := sj h
   refine Am ((AO 6 0 2004 1 _ rfl rfl rfl rfl).trans ((AO 6 1 2005 1 _ rfl rfl rfl rfl).trans ((AO 6 2 2006 1 _ rfl rfl rfl rfl).trans (sm [(1000, 2004), (1001, 2005), (1002, 2006)] [(6, oD (.ptr 6 0)), (7, iD 4)] [(6, .box [.own 1000, .own 1001, .own 1002]), (1000, .vec 1 ((([] : List Int)).map Al)), (1001, .vec 1 ((([] : List Int)).map Al)), (1002, .vec 1 ((([] : List Int)).map Bw))] rfl rfl)))) (AA ?_)
   exact ⟨⟨[_, _], ⟨.cellN _ _ _ _ _ _ _ rfl rfl A4 Az rfl rfl (Iq rfl), ⟨.tmp _ _ rfl, tv⟩⟩, rfl⟩, ⟨rfl, rfl, rfl, tv⟩⟩
  ·have h := Ao c4 h
   refine Aq (Ab (Aa Ac rfl (qL Di Da rfl (qL A4 Az rfl (qL HR Es rfl ?_)))))
   obtain ⟨v5, a5, h⟩ := bind_some h
   refine AG [2007, 2008, 2009] (Ly N p0 p1 p2 v5 a5) XY rfl (qm rfl (qx rfl (qx rfl (qz Cs rfl (qs Az rfl (qa rfl (Ae (Ab (Ab (Aa Ac rfl (qm rfl (BS rfl (Ae ?_)))))))))))))
   refine Ap rfl (fun c6 => ?_) (fun c6 => ?_)
   ·have h := An c6 h
    refine Ab (Aa Ac rfl (Br Cs Gt rfl (qs Az rfl (qa rfl (Ae ?_)))))
    obtain rfl := sj h
    refine Am ((AO 6 0 2010 1 _ rfl rfl rfl rfl).trans ((AO 6 1 2011 1 _ rfl rfl rfl rfl).trans ((AO 6 2 2012 1 _ rfl rfl rfl rfl).trans (sm [(1000, 2010), (1001, 2011), (1002, 2012)] [(6, oD (.ptr 6 0)), (7, iD 11)] [(6, .box [.own 1000, .own 1001, .own 1002]), (1000, .vec 1 ((([] : List Int)).map Al)), (1001, .vec 1 ((([] : List Int)).map Al)), (1002, .vec 1 ((([] : List Int)).map Bw))] rfl rfl)))) (AA ?_)
    exact ⟨⟨[_, _], ⟨.cellN _ _ _ _ _ _ _ rfl rfl A4 Az rfl rfl (Iq rfl), ⟨.tmp _ _ rfl, tv⟩⟩, rfl⟩, ⟨rfl, rfl, rfl, tv⟩⟩
   ·have h := Ao c6 h
    refine Aq (Ab (Aa Ac rfl (qL A4 Az rfl (qs Az rfl (qa rfl (Ae ?_))))))
    obtain rfl := sj h
    refine Am (sm [(1000, 2007), (1001, 2008), (1002, 2009)] [(6, oD (.ptr 6 0)), (7, iD 0)] [(6, .box [.own 1000, .own 1001, .own 1002]), (1000, .vec 1 (v5.1.fBase.map Al)), (1001, .vec 1 (v5.1.fNext.map Al)), (1002, .vec 1 (v5.1.fHeld.map Bw))] rfl rfl) (AA ?_)
    exact ⟨⟨[_, _], ⟨.cellN _ _ _ _ _ _ _ rfl rfl A4 Az rfl rfl (Iq rfl), ⟨.tmp _ _ rfl, tv⟩⟩, rfl⟩, ⟨rfl, rfl, rfl, tv⟩⟩
theorem J4 (N : Nat) (p0 : Aj) (p1 : Ag) (p2 : Aw) (r : Ag × Int) (h : Fk N p0 p1 p2 = some r) : AD Tryz.prog 49 [.e (.agg [sC (p0.fVersions.map Al), sC (p0.fNow.map Al), sC (p0.fTarget.map Al), sC (p0.fTables.map Ar)]), .e (.agg [sC (p1.fBase.map Al), sC (p1.fNext.map Al), sC (p1.fHeld.map Bw)]), .e (.agg [iC p2.fKind, iC p2.fIndex, iC p2.fVersion])] [(1, r.1.fBase.map Al), (1, r.1.fNext.map Al), (1, r.1.fHeld.map Bw)] (.tup [.agg [.own 0, .own 1, .own 2], .one (iC r.2)]) := by
 unfold Fk at h
 refine Au (n := 22) (rs := [.cell 6 46, .tmp 7]) Tryz.func49 rfl rfl rfl (A5 rfl) (A5 rfl) rfl fun w0 S0 => ?_
 refine Ab (Aa Ac rfl (qb rfl (qb rfl (qb rfl (qz Cs rfl (qa rfl (Ae (Ab (Ab (Aa Ac rfl (qL Di Da rfl (qL A4 Az rfl ?_))))))))))))
 obtain ⟨v1, a1, h⟩ := bind_some h
 refine AG [] (H8 N p0 p1 v1 a1) Ub rfl (qa rfl (Ae (Ab (Aa Ac rfl (qm rfl (BP rfl (Ae ?_)))))))
 refine Ap rfl (fun c2 => ?_) (fun c2 => ?_)
 ·have h := An c2 h
  refine Ab (Aa Ac rfl (Br Cs Gt rfl (qm rfl (qs Az rfl (qa rfl (Ae ?_))))))
  obtain rfl := sj h
  refine Am ((AO 6 0 2001 1 _ rfl rfl rfl rfl).trans ((AO 6 1 2002 1 _ rfl rfl rfl rfl).trans ((AO 6 2 2003 1 _ rfl rfl rfl rfl).trans (sm [(1000, 2001), (1001, 2002), (1002, 2003)] [(6, oD (.ptr 6 0)), (7, iD v1)] [(6, .box [.own 1000, .own 1001, .own 1002]), (1000, .vec 1 ((([] : List Int)).map Al)), (1001, .vec 1 ((([] : List Int)).map Al)), (1002, .vec 1 ((([] : List Int)).map Bw))] rfl rfl)))) (AA ?_)
  exact ⟨⟨[_, _], ⟨.cellN _ _ _ _ _ _ _ rfl rfl A4 Az rfl rfl (Iq rfl), ⟨.tmp _ _ rfl, tv⟩⟩, rfl⟩, ⟨rfl, rfl, rfl, tv⟩⟩
 ·have h := Ao c2 h
  refine Aq (Ab (Aa Ac rfl (qL Di Da rfl (qL A4 Az rfl (qL HR Es rfl ?_)))))
  obtain ⟨v3, a3, h⟩ := bind_some h
  refine AG [2004, 2005, 2006] (PC N p0 p1 p2 v3 a3) Y2 rfl (qx rfl (qx rfl (qs Az rfl (qa rfl (Ae ?_)))))
  obtain rfl := sj h
  refine Am (sm [(1000, 2004), (1001, 2005), (1002, 2006)] [(6, oD (.ptr 6 0)), (7, iD v3.2)] [(6, .box [.own 1000, .own 1001, .own 1002]), (1000, .vec 1 (v3.1.fBase.map Al)), (1001, .vec 1 (v3.1.fNext.map Al)), (1002, .vec 1 (v3.1.fHeld.map Bw))] rfl rfl) (AA ?_)
  exact ⟨⟨[_, _], ⟨.cellN _ _ _ _ _ _ _ rfl rfl A4 Az rfl rfl (Iq rfl), ⟨.tmp _ _ rfl, tv⟩⟩, rfl⟩, ⟨rfl, rfl, rfl, tv⟩⟩
theorem PR (N : Nat) (p0 : Aj) (p1 : Ag) (r : (List Aw) × (List Ag)) (h : Jk N p0 p1 = some r) : AD Tryz.prog 85 [.e (.agg [sC (p0.fVersions.map Al), sC (p0.fNow.map Al), sC (p0.fTarget.map Al), sC (p0.fTables.map Ar)]), .e (.agg [sC (p1.fBase.map Al), sC (p1.fNext.map Al), sC (p1.fHeld.map Bw)])] [(3, r.1.map A2), (3, r.2.map Ai)] (.tup [.one (.own 0), .one (.own 1)]) := by
 unfold Jk at h
 refine Au (n := 55) (rs := [.tmp 4, .tmp 5]) Tryz.func85 rfl rfl rfl (A5 rfl) (A5 rfl) rfl fun w0 S0 => ?_
 refine Ab (Aa Ac rfl (qb rfl (qb rfl (qa rfl (qa rfl (Ae (Ab (Aa Ac rfl (qa rfl (Ae (Ab (Aa Ac rfl (qa rfl (Ae (Ab (Aa Ac rfl (qL Di Da rfl (qL A4 Az rfl ?_))))))))))))))))))
 obtain ⟨v1, a1, h⟩ := bind_some h
 refine AG [2001] (IY N p0 p1 v1 a1) W8 rfl (qm rfl (qx rfl (qx rfl (qa rfl (qa rfl (Ae (Ab (Ab (Aa Ac rfl (qm rfl (EP EU rfl (qm rfl (Ae ?_)))))))))))))
 refine AE (L := GC N p0 p1 v1) h (fun v2 => mk [(2, oD (.ptr 2 0)), (3, oD (.ptr 3 0)), (6, oD (.own 2002)), (7, oD (.own 2003)), (22, oD (.own 2004)), (23, iD ((v1.1.length : Int))), (24, iD v2.2.2)] [(2, .box [sC (p0.fVersions.map Al), sC (p0.fNow.map Al), sC (p0.fTarget.map Al), sC (p0.fTables.map Ar)]), (3, .box [sC (p1.fBase.map Al), sC (p1.fNext.map Al), sC (p1.fHeld.map Bw)]), (2002, .vec 3 (v2.1.map A2)), (2003, .vec 3 (v2.2.1.map Ai)), (2004, .vec 3 (v1.1.map A2))]) (fun v3 => mk [(6, oD (.own 2005)), (7, oD (.own 2006))] [(2005, .vec 3 (v3.1.map A2)), (2006, .vec 3 (v3.2.map Ai))]) (fun _ _ => rfl) ((BB 6 2013 3 rfl rfl rfl).trans ((BB 7 2014 3 rfl rfl rfl).trans (sm [(2002, 2013), (2003, 2014), (2004, 2001)] _ _ rfl rfl))) (fun j2 n2 v2 h => ?_) (fun v3 s h hs => ?_)
 ·unfold GC at h
  refine Ab (Aa Ac rfl (AY rfl (Ae (Ab ?_))))
  refine Ap rfl (fun c4 => ?_) (fun c4 => ?_)
  ·have h := An c4 h
   refine Aq ?_
   refine AL h (fun v5 => mk [(2, oD (.ptr 2 0)), (3, oD (.ptr 3 0)), (6, oD (.own 2007)), (7, oD (.own 2008)), (22, oD (.own 2009)), (23, iD ((v1.1.length : Int))), (24, iD v2.2.2)] [(2, .box [sC (p0.fVersions.map Al), sC (p0.fNow.map Al), sC (p0.fTarget.map Al), sC (p0.fTables.map Ar)]), (3, .box [sC (p1.fBase.map Al), sC (p1.fNext.map Al), sC (p1.fHeld.map Bw)]), (2007, .vec 3 (v5.1.map A2)), (2008, .vec 3 (v5.2.map Ai)), (2009, .vec 3 (v1.1.map A2))]) (fun j5 h => ?_) (fun v5 h => ?_)
   ·refine AJ (Ab (Aa Ac rfl ?_))
    obtain ⟨v6, a6, b6, h⟩ := Ak h
    refine qI EU Es a6 (Af b6) rfl (qJ HR Es (Af b6) rfl (qz Jq rfl (qs Es rfl (Ae (Ab (Aa Ac rfl (qL Di Da rfl (qL A4 Az rfl (qL HR Es rfl ?_)))))))))
    obtain ⟨v7, a7, h⟩ := bind_some h
    refine AG [2010, 2011, 2012] (J4 N p0 p1 v6 v7 a7) WJ rfl (qm rfl (qx rfl (qx rfl (qz Cs rfl (qs Az rfl (qa rfl (Ae (Ab (Ab (Aa Ac rfl (qm rfl (BP rfl (Ae ?_)))))))))))))
    refine Ap rfl (fun c8 => ?_) (fun c8 => ?_)
    ·have h := An c8 h
     refine AQ ?_
     exact As _ h (sm [(2007, 2002), (2008, 2003), (2009, 2004)] _ _ rfl rfl)
    ·have h := Ao c8 h
     refine Aq (Ab (Aa Ac rfl (qL Di Da rfl (qL A4 Az rfl ?_))))
     obtain ⟨v9, a9, h⟩ := bind_some h
     refine DI [] [2010, 2011, 2012] (HD N p0 v7.1 v9 a9) TN Cr rfl (qm rfl (qx rfl (qx rfl (qa rfl (qa rfl (Ae (Ab (Aa Ac rfl (qm rfl (Ae ?_))))))))))
     refine Ap rfl (fun c10 => ?_) (fun c10 => ?_)
     ·have h := An c10 h
      refine Am (BR 2010 _ _ rfl rfl) (Am (BR 2011 _ _ rfl rfl) (Am (BR 2012 _ _ rfl rfl) (Aa Ac rfl (qm rfl (qL HR Es rfl (EX EU Es Jq rfl ?_))))))
      obtain ⟨c11, h⟩ := Ba h
      refine Fb (f := A2) EU EU Es Qb Jq c11 rfl (qm rfl (qL A4 Az rfl (EX A0 Az Cs rfl ?_)))
      obtain ⟨c12, h⟩ := Ba h
      refine Fb (f := Ai) A0 A0 Az SD Cs c12 rfl (qa rfl (qa rfl (AC (by kernel_rfl) ?_)))
      exact As _ h (sm [(2007, 47), (2008, 51), (2009, 2004)] _ _ rfl rfl)
     ·have h := Ao c10 h
      refine Aq ?_
      exact As _ h (sm [(2007, 2002), (2008, 2003), (2009, 2004)] _ _ rfl rfl)
   ·refine Aa Ac rfl (AP rfl (qm rfl (Ae ?_)))
    exact As _ h (sm [(2002, 2007), (2003, 2008), (2004, 2009)] _ _ rfl rfl)
  ·have h := Ao c4 h
   refine AQ ?_
   exact As _ h (sm [(2005, 2002), (2006, 2003)] _ _ rfl rfl)
 ·refine Am hs (Ab (Aa Ac rfl (qm rfl (qm rfl (qa rfl (qa rfl (Ae ?_)))))))
  obtain rfl := sj h
  refine Am (sm [(1000, 2005), (1001, 2006)] [(4, oD (.own 1000)), (5, oD (.own 1001))] [(1000, .vec 3 (v3.1.map A2)), (1001, .vec 3 (v3.2.map Ai))] rfl rfl) (AA ?_)
  exact ⟨⟨[_, _], ⟨.tmp _ _ rfl, ⟨.tmp _ _ rfl, tv⟩⟩, rfl⟩, ⟨rfl, rfl, tv⟩⟩
theorem L0 (N : Nat) (p0 : Int) (r : Int) (h : He N p0 = some r) : AD Tryz.prog 140 [pD (.val (.int .u32 p0))] [] (iD r) := by
 unfold He at h
 refine Au (n := 19) (rs := [.tmp 2]) Tryz.func140 rfl rfl rfl (A5 rfl) (A5 rfl) rfl fun w0 S0 => ?_
 refine Ab (Aa Ac rfl (qa rfl (Ae ?_)))
 refine AL h (fun v1 => mk [(0, pD (.val (.int .u32 v1.1))), (2, iD v1.2)] []) (fun j1 h => ?_) (fun v1 h => ?_)
 ·refine Ab (Aa Ac rfl (qm rfl (Cv rfl (Ae ?_))))
  refine Ap rfl (fun c2 => ?_) (fun c2 => ?_)
  ·have h := An c2 h
   refine Ab (Aa Ac rfl (qm rfl (HN rfl (by decide) (qa rfl (Ae (Aa Ac rfl (qa rfl (Ae ?_))))))))
   exact As _ h (sm [] _ _ rfl rfl)
  ·have h := Ao c2 h
   refine Aq ?_
   exact As _ h (sm [] _ _ rfl rfl)
 ·refine AL h (fun v3 => mk [(0, pD (.val (.int .u32 v3.1))), (2, iD v3.2)] []) (fun j3 h => ?_) (fun v3 h => ?_)
  ·refine Ab (Aa Ac rfl (qm rfl (Cv rfl (Ae ?_))))
   refine Ap rfl (fun c4 => ?_) (fun c4 => ?_)
   ·have h := An c4 h
    refine Ab (Aa Ac rfl (qm rfl (HN rfl (by decide) (qa rfl (Ae (Aa Ac rfl (qm rfl (AP rfl (qa rfl (Ae ?_))))))))))
    exact As _ h (sm [] _ _ rfl rfl)
   ·have h := Ao c4 h
    refine Aq ?_
    exact As _ h (sm [] _ _ rfl rfl)
  ·refine Ab (Aa Ac rfl (qm rfl (qm rfl (HI P2 YW rfl ?_))))
   obtain ⟨v5, a5, h⟩ := bind_some h
   refine Mp (.p rfl) rfl rfl Vw a5 ?_
   refine HI ZI Wp rfl (AP rfl (qa rfl (Ae ?_)))
   obtain rfl := sj h
   refine Am (sm [] [(2, iD ((wI .i64 (v3.2 + (wI .i64 v5)))))] [] rfl rfl) (AA ?_)
   exact ⟨⟨[_], ⟨.tmp _ _ rfl, tv⟩, rfl⟩, tv⟩
theorem LN (N : Nat) (p0 : Int) (r : Int) (h : Hj N p0 = some r) : AD Tryz.prog 141 [pD (.val (.int .u64 p0))] [] (iD r) := by
 unfold Hj at h
 refine Au (n := 25) (rs := [.tmp 2]) Tryz.func141 rfl rfl rfl (A5 rfl) (A5 rfl) rfl fun w0 S0 => ?_
 refine Ab (Aa Ac rfl (qa rfl (Ae ?_)))
 refine AL h (fun v1 => mk [(0, pD (.val (.int .u64 v1.1))), (2, iD v1.2)] []) (fun j1 h => ?_) (fun v1 h => ?_)
 ·refine Ab (Aa Ac rfl (qm rfl (Cv rfl (Ae ?_))))
  refine Ap rfl (fun c2 => ?_) (fun c2 => ?_)
  ·have h := An c2 h
   refine Ab (Aa Ac rfl (qm rfl (HN rfl (by decide) (qa rfl (Ae (Aa Ac rfl (qa rfl (Ae ?_))))))))
   exact As _ h (sm [] _ _ rfl rfl)
  ·have h := Ao c2 h
   refine Aq ?_
   exact As _ h (sm [] _ _ rfl rfl)
 ·refine AL h (fun v3 => mk [(0, pD (.val (.int .u64 v3.1))), (2, iD v3.2)] []) (fun j3 h => ?_) (fun v3 h => ?_)
  ·refine Ab (Aa Ac rfl (qm rfl (Cv rfl (Ae ?_))))
   refine Ap rfl (fun c4 => ?_) (fun c4 => ?_)
   ·have h := An c4 h
    refine Ab (Aa Ac rfl (qm rfl (HN rfl (by decide) (qa rfl (Ae (Aa Ac rfl (qm rfl (AP rfl (qa rfl (Ae ?_))))))))))
    exact As _ h (sm [] _ _ rfl rfl)
   ·have h := Ao c4 h
    refine Aq ?_
    exact As _ h (sm [] _ _ rfl rfl)
  ·refine AL h (fun v5 => mk [(0, pD (.val (.int .u64 v5.1))), (2, iD v5.2)] []) (fun j5 h => ?_) (fun v5 h => ?_)
   ·refine Ab (Aa Ac rfl (qm rfl (Cv rfl (Ae ?_))))
    refine Ap rfl (fun c6 => ?_) (fun c6 => ?_)
    ·have h := An c6 h
     refine Ab (Aa Ac rfl (qm rfl (HN rfl (by decide) (qa rfl (Ae (Aa Ac rfl (qm rfl (AP rfl (qa rfl (Ae ?_))))))))))
     exact As _ h (sm [] _ _ rfl rfl)
    ·have h := Ao c6 h
     refine Aq ?_
     exact As _ h (sm [] _ _ rfl rfl)
   ·refine Ab (Aa Ac rfl (qm rfl (qm rfl (HI UH YW rfl ?_))))
    obtain ⟨v7, a7, h⟩ := bind_some h
    refine Mp (.p rfl) rfl rfl Vw a7 ?_
    refine HI ZI Wp rfl (AP rfl (qa rfl (Ae ?_)))
    obtain rfl := sj h
    refine Am (sm [] [(2, iD ((wI .i64 (v5.2 + (wI .i64 v7)))))] [] rfl rfl) (AA ?_)
    exact ⟨⟨[_], ⟨.tmp _ _ rfl, tv⟩, rfl⟩, tv⟩
theorem Ig (N : Nat) (p0 : Int) (r : Int) (h : Dm N p0 = some r) : AD Tryz.prog 105 [pD (.val (.int .u64 p0))] [] (iD r) := by
 unfold Dm at h
 refine Au (n := 8) (rs := [.tmp 2]) Tryz.func105 rfl rfl rfl (A5 rfl) (A5 rfl) rfl fun w0 S0 => ?_
 refine Ab (Aa Ac rfl (qa rfl (Ae (Ab ?_))))
 refine Ap rfl (fun c1 => ?_) (fun c1 => ?_)
 ·have h := An c1 h
  refine Ab (Aa Ac rfl (qm rfl (HI N9 QH rfl ?_)))
  obtain ⟨v2, a2, h⟩ := bind_some h
  refine AG [] (L0 N ((wI .u32 p0)) v2 a2) Xo rfl (qa rfl (Ae ?_))
  obtain rfl := sj h
  refine Am (sm [] [(2, iD v2)] [] rfl rfl) (AA ?_)
  exact ⟨⟨[_], ⟨.tmp _ _ rfl, tv⟩, rfl⟩, tv⟩
 ·have h := Ao c1 h
  refine Aq (Ab (Aa Ac rfl (qm rfl ?_)))
  obtain ⟨v3, a3, h⟩ := bind_some h
  refine AG [] (LN N p0 v3 a3) Yu rfl (qa rfl (Ae ?_))
  obtain rfl := sj h
  refine Am (sm [] [(2, iD v3)] [] rfl rfl) (AA ?_)
  exact ⟨⟨[_], ⟨.tmp _ _ rfl, tv⟩, rfl⟩, tv⟩
theorem GB (N : Nat) (p0 : List Ag) (p1 : Int) (p2 : Int) (p3 : (Ag × Ag) → Option Int) (r : (List Ag)) (h : Gs.insertionSort N p0 p1 p2 p3 = some r) : Bh Tryz.prog 145 [oD (.own 90000), iD p1, iD p2, oD (.clo (Bb (Cg true Ai true Ai) Bg p3))] [(.vec 3 (p0.map Ai), .vec 3 (r.map Ai))] [] (.tup []) := by
 unfold Gs.insertionSort at h
 refine A9 (n := 53) (rs := []) Tryz.func145 rfl rfl rfl (A5 rfl) (A5 rfl) rfl rfl (A5 rfl) rfl (A5 rfl) fun w0 S0 GL => Jh ?_
 refine Am (sm [] [(0, oD (.own 90000)), (1, iD p1), (2, iD p2), (3, oD (.clo (Bb (Cg true Ai true Ai) Bg p3)))] [(90000, .vec 3 (p0.map Ai))] rfl rfl) (Ab (Aa Ac rfl (qm rfl (AP rfl (qa rfl (Ae ?_))))))
 refine AE (L := Gs.insertionSort_L1 N p1 p2 p3) h (fun v1 => mk [(0, oD (.own 90000)), (1, iD p1), (2, iD p2), (3, oD (.clo (Bb (Cg true Ai true Ai) Bg p3))), (8, iD v1.2)] [(90000, .vec 3 (v1.1.map Ai))]) (fun v2 => mk [] [(90000, .vec 3 (v2.map Ai))]) (fun _ _ => rfl) (sm [] _ _ rfl rfl) (fun j1 n1 v1 h => ?_) (fun v2 s h hs => ?_)
 ·unfold Gs.insertionSort_L1 at h
  refine Ab (Ab (Aa Ac rfl (qm rfl (qm rfl (AY rfl (Ae ?_))))))
  refine Ap rfl (fun c3 => ?_) (fun c3 => ?_)
  ·have h := An c3 h
   refine Aq (Ab (AJ (Ab (Aa Ac rfl (qm rfl (qa rfl (Ae ?_)))))))
   refine AE (L := Gs.insertionSort_L4 N p1 p3) h (fun v4 => mk [(0, oD (.own 90000)), (1, iD p1), (2, iD p2), (3, oD (.clo (Bb (Cg true Ai true Ai) Bg p3))), (8, iD v1.2), (9, iD v4.2)] [(90000, .vec 3 (v4.1.map Ai))]) (fun v5 => mk [(0, oD (.own 90000)), (1, iD p1), (2, iD p2), (3, oD (.clo (Bb (Cg true Ai true Ai) Bg p3))), (8, iD v1.2)] [(90000, .vec 3 (v5.map Ai))]) (fun _ _ => rfl) (sm [] _ _ rfl rfl) (fun j4 n4 v4 h => ?_) (fun v5 s h hs => ?_)
   ·unfold Gs.insertionSort_L4 at h
    refine Ab ?_
    refine AL h (fun v6 => mk [(0, oD (.own 90000)), (1, iD p1), (2, iD p2), (3, oD (.clo (Bb (Cg true Ai true Ai) Bg p3))), (8, iD v1.2), (9, iD v4.2), (34, bD v6)] [(90000, .vec 3 (v4.1.map Ai))]) (fun j6 h => ?_) (fun v6 h => ?_)
    ·refine Aa Ac rfl (qm rfl (qm rfl (DC rfl (qm rfl ?_))))
     refine AB (t := 21) rfl (fun c7 => ?_) (fun c7 => ?_)
     ·have h := An c7 h
      refine qm rfl (qm rfl (qm rfl ?_))
      obtain ⟨v8, a8, b8, h⟩ := Ak h
      refine qI A0 Az a8 (Af b8) rfl (qJ A4 Az (Af b8) rfl (qm rfl (qm rfl (Bm rfl ?_))))
      obtain ⟨v9, a9, b9, h⟩ := Ak h
      refine qI A0 Az a9 (Af b9) rfl (qJ A4 Az (Af b9) rfl ?_)
      obtain ⟨v10, a10, h⟩ := bind_some h
      refine Cx (ds0 := [_, _]) (ar := (Cg true Ai true Ai) ((v8, v9))) (.g rfl rfl) rfl rfl ⟨rfl, rfl, tv⟩ rfl rfl rfl (Cw (CX _ _ _ _ BJ BJ) a10) ?_
      refine AY rfl (qp rfl (AC (by kernel_rfl) ?_))
      exact As _ h (sm [] _ _ rfl rfl)
     ·have h := Ao c7 h
      refine qn rfl (qn rfl (qn rfl (qn rfl (qn rfl (qn rfl (qn rfl (qn rfl (qn rfl (qn rfl (qn rfl (qn rfl (qp rfl (AC (by kernel_rfl) ?_)))))))))))))
      exact As _ h (sm [] _ _ rfl rfl)
    ·refine Ap rfl (fun c11 => ?_) (fun c11 => ?_)
     ·have h := An c11 h
      refine Aq (Ab (AJ (Aa Ac rfl (qm rfl (qm rfl (qm rfl (qm rfl (Bm rfl (qm rfl (qm rfl (Bm rfl ?_)))))))))))
      obtain ⟨v12, a12, b12, h⟩ := Ak h
      refine qI A0 Az a12 (Af b12) rfl (qJ A4 Az (Af b12) rfl (qm rfl (qm rfl ?_)))
      obtain ⟨v13, a13, b13, h⟩ := Ak h
      refine qI A0 Az a13 (Af b13) rfl (qJ A4 Az (Af b13) rfl ?_)
      obtain ⟨v14, a14, b14, h⟩ := Ak h
      refine qI A0 Az a14 (Af b14) rfl ?_
      refine AX rfl rfl rfl rfl (Af b14) rfl Az rfl (A5 rfl) (AW Ai v4.1 _ v12) ?_
      obtain ⟨v15, a15, b15, h⟩ := Ak h
      refine qI A0 Az a15 (Af b15) rfl ?_
      refine AX rfl rfl rfl rfl (Af b15) rfl Az rfl (A5 rfl) (AW Ai (v4.1.set ((v4.2).toNat) v12) _ v13) ?_
      refine AC (by kernel_rfl) (Aa Ac rfl (qm rfl (Bm rfl (qa rfl (Ae ?_)))))
      exact As _ h (sm [] _ _ rfl rfl)
     ·have h := Ao c11 h
      refine AQ ?_
      exact As _ h (sm [] _ _ rfl rfl)
   ·refine Am hs (Aa Ac rfl (qm rfl (AP rfl (qa rfl (Ae ?_)))))
    exact As _ h (sm [] _ _ rfl rfl)
  ·have h := Ao c3 h
   refine AQ ?_
   exact As _ h (sm [] _ _ rfl rfl)
 ·obtain rfl := sj h
  refine ⟨_, hs.trans (sm [] [] [(90000, .vec 3 (v2.map Ai))] rfl rfl), ?_⟩
  exact ⟨⟨[], tv, rfl⟩, ⟨rfl, tv⟩, tv⟩
theorem Fh (N : Nat) (p0 : List Ag) (p1 : Int) (p2 : Int) (p3 : Int) (p4 : (Ag × Ag) → Option Int) (r : (List Ag)) (h : Gs.siftDown N p0 p1 p2 p3 p4 = some r) : Bh Tryz.prog 166 [oD (.own 90000), iD p1, iD p2, iD p3, oD (.clo (Bb (Cg true Ai true Ai) Bg p4))] [(.vec 3 (p0.map Ai), .vec 3 (r.map Ai))] [] (.tup []) := by
 unfold Gs.siftDown at h
 refine A9 (n := 82) (rs := []) Tryz.func166 rfl rfl rfl (A5 rfl) (A5 rfl) rfl rfl (A5 rfl) rfl (A5 rfl) fun w0 S0 GL => Jh ?_
 refine Am (sm [] [(0, oD (.own 90000)), (1, iD p1), (2, iD p2), (3, iD p3), (4, oD (.clo (Bb (Cg true Ai true Ai) Bg p4)))] [(90000, .vec 3 (p0.map Ai))] rfl rfl) (Ab (Aa Ac rfl (qm rfl (qa rfl (Ae ?_)))))
 refine AE (L := Gs.siftDown_L1 N p2 p3 p4) h (fun v1 => mk [(0, oD (.own 90000)), (2, iD p2), (3, iD p3), (4, oD (.clo (Bb (Cg true Ai true Ai) Bg p4))), (10, iD v1.2)] [(90000, .vec 3 (v1.1.map Ai))]) (fun v2 => mk [] [(90000, .vec 3 (v2.map Ai))]) (fun _ _ => rfl) (sm [] _ _ rfl rfl) (fun j1 n1 v1 h => ?_) (fun v2 s h hs => ?_)
 ·unfold Gs.siftDown_L1 at h
  refine AJ (Ab (Aa Ac rfl (qm rfl (HO rfl (AP rfl (qa rfl (Ae (Ab (Ab (Aa Ac rfl (qm rfl (qm rfl (Cv rfl (Ae ?_))))))))))))))
  refine Ap rfl (fun c3 => ?_) (fun c3 => ?_)
  ·have h := An c3 h
   refine AQ ?_
   exact As _ h (sm [] _ _ rfl rfl)
  ·have h := Ao c3 h
   refine Aq ?_
   refine AL h (fun v4 => mk [(0, oD (.own 90000)), (2, iD p2), (3, iD p3), (4, oD (.clo (Bb (Cg true Ai true Ai) Bg p4))), (10, iD v1.2), (11, iD v4)] [(90000, .vec 3 (v1.1.map Ai))]) (fun j4 h => ?_) (fun v4 h => ?_)
   ·refine AL h (fun v5 => mk [(0, oD (.own 90000)), (2, iD p2), (3, iD p3), (4, oD (.clo (Bb (Cg true Ai true Ai) Bg p4))), (10, iD v1.2), (11, iD ((wI .i64 ((wI .i64 (2 * v1.2)) + 1)))), (40, bD v5)] [(90000, .vec 3 (v1.1.map Ai))]) (fun j5 h => ?_) (fun v5 h => ?_)
    ·refine Aa Ac rfl (qm rfl (AP rfl (qm rfl (AY rfl (qm rfl ?_)))))
     refine AB (t := 23) rfl (fun c6 => ?_) (fun c6 => ?_)
     ·have h := An c6 h
      refine qm rfl (qm rfl (qm rfl (qm rfl (AP rfl ?_))))
      obtain ⟨v7, a7, b7, h⟩ := Ak h
      refine qI A0 Az a7 (Af b7) rfl (qJ A4 Az (Af b7) rfl (qm rfl (qm rfl (qm rfl (AP rfl (AP rfl ?_))))))
      obtain ⟨v8, a8, b8, h⟩ := Ak h
      refine qI A0 Az a8 (Af b8) rfl (qJ A4 Az (Af b8) rfl ?_)
      obtain ⟨v9, a9, h⟩ := bind_some h
      refine Cx (ds0 := [_, _]) (ar := (Cg true Ai true Ai) ((v7, v8))) (.g rfl rfl) rfl rfl ⟨rfl, rfl, tv⟩ rfl rfl rfl (Cw (CX _ _ _ _ BJ BJ) a9) ?_
      refine AY rfl (qp rfl (AC (by kernel_rfl) ?_))
      exact As _ h (sm [] _ _ rfl rfl)
     ·have h := Ao c6 h
      refine qn rfl (qn rfl (qn rfl (qn rfl (qn rfl (qn rfl (qn rfl (qn rfl (qn rfl (qn rfl (qn rfl (qn rfl (qn rfl (qn rfl (qn rfl (qn rfl (qp rfl (AC (by kernel_rfl) ?_)))))))))))))))))
      exact As _ h (sm [] _ _ rfl rfl)
    ·refine Ap rfl (fun c10 => ?_) (fun c10 => ?_)
     ·have h := An c10 h
      refine Aa Ac rfl (qm rfl (AP rfl (qa rfl (Ae ?_))))
      exact As _ h (sm [] _ _ rfl rfl)
     ·have h := Ao c10 h
      refine Aq ?_
      exact As _ h (sm [] _ _ rfl rfl)
   ·refine Ab (Ab (Aa Ac rfl (qm rfl (qm rfl (qm rfl (qm rfl (AP rfl ?_)))))))
    obtain ⟨v11, a11, b11, h⟩ := Ak h
    refine qI A0 Az a11 (Af b11) rfl (qJ A4 Az (Af b11) rfl (qm rfl (qm rfl (qm rfl (AP rfl ?_)))))
    obtain ⟨v12, a12, b12, h⟩ := Ak h
    refine qI A0 Az a12 (Af b12) rfl (qJ A4 Az (Af b12) rfl ?_)
    obtain ⟨v13, a13, h⟩ := bind_some h
    refine Cx (ds0 := [_, _]) (ar := (Cg true Ai true Ai) ((v11, v12))) (.p rfl) rfl rfl ⟨rfl, rfl, tv⟩ rfl rfl rfl (Cw (CX _ _ _ _ BJ BJ) a13) ?_
    refine AY rfl (BS rfl (AC (by kernel_rfl) ?_))
    refine Ap rfl (fun c14 => ?_) (fun c14 => ?_)
    ·have h := An c14 h
     obtain rfl := sj h
     refine AA ⟨_, (sm [] [] [(90000, .vec 3 (v1.1.map Ai))] rfl rfl), ?_⟩
     exact ⟨⟨[], tv, rfl⟩, ⟨rfl, tv⟩, tv⟩
    ·have h := Ao c14 h
     refine Aq (Ab (Aa Ac rfl (qm rfl (qm rfl (qm rfl (AP rfl (qm rfl (qm rfl (qm rfl (AP rfl (qm rfl (qm rfl (qm rfl (AP rfl ?_))))))))))))))
     obtain ⟨v15, a15, b15, h⟩ := Ak h
     refine qI A0 Az a15 (Af b15) rfl (qJ A4 Az (Af b15) rfl (qm rfl (qm rfl (qm rfl (AP rfl ?_)))))
     obtain ⟨v16, a16, b16, h⟩ := Ak h
     refine qI A0 Az a16 (Af b16) rfl (qJ A4 Az (Af b16) rfl ?_)
     obtain ⟨v17, a17, b17, h⟩ := Ak h
     refine qI A0 Az a17 (Af b17) rfl ?_
     refine AX rfl rfl rfl rfl (Af b17) rfl Az rfl (A5 rfl) (AW Ai v1.1 _ v15) ?_
     obtain ⟨v18, a18, b18, h⟩ := Ak h
     refine qI A0 Az a18 (Af b18) rfl ?_
     refine AX rfl rfl rfl rfl (Af b18) rfl Az rfl (A5 rfl) (AW Ai (v1.1.set (((wI .i64 (p3 + v1.2))).toNat) v15) _ v16) ?_
     refine AC (by kernel_rfl) (Aa Ac rfl (qm rfl (qa rfl (Ae ?_))))
     exact As _ h (sm [] _ _ rfl rfl)
 ·obtain rfl := sj h
  refine ⟨_, hs.trans (sm [] [] [(90000, .vec 3 (v2.map Ai))] rfl rfl), ?_⟩
  exact ⟨⟨[], tv, rfl⟩, ⟨rfl, tv⟩, tv⟩
theorem HH (N : Nat) (p0 : List Ag) (p1 : Int) (p2 : Int) (p3 : (Ag × Ag) → Option Int) (r : (List Ag)) (h : Gs.heapSort N p0 p1 p2 p3 = some r) : Bh Tryz.prog 146 [oD (.own 90000), iD p1, iD p2, oD (.clo (Bb (Cg true Ai true Ai) Bg p3))] [(.vec 3 (p0.map Ai), .vec 3 (r.map Ai))] [] (.tup []) := by
 unfold Gs.heapSort at h
 refine A9 (n := 60) (rs := []) Tryz.func146 rfl rfl rfl (A5 rfl) (A5 rfl) rfl rfl (A5 rfl) rfl (A5 rfl) fun w0 S0 GL => Jh ?_
 refine Am (sm [] [(0, oD (.own 90000)), (1, iD p1), (2, iD p2), (3, oD (.clo (Bb (Cg true Ai true Ai) Bg p3)))] [(90000, .vec 3 (p0.map Ai))] rfl rfl) (Ab (Aa Ac rfl (qm rfl (qa rfl (Ae (Ab (Aa Ac rfl (qa rfl (Ae (Ab (Aa Ac rfl (qm rfl (qm rfl (Bm rfl (qa rfl (Ae (Ab (Ab (Aa Ac rfl (qm rfl (Bm rfl (Jc rfl (by decide) (qa rfl (Ae ?_))))))))))))))))))))))))
 refine AE (L := Gs.heapSort_L1 N p1 p2 p3) h (fun v1 => mk [(0, oD (.own 90000)), (3, oD (.clo (Bb (Cg true Ai true Ai) Bg p3))), (8, iD p1), (9, iD 0), (10, iD ((wI .i64 (p2 - p1)))), (11, iD v1.2)] [(90000, .vec 3 (v1.1.map Ai))]) (fun v2 => mk [(0, oD (.own 90000)), (3, oD (.clo (Bb (Cg true Ai true Ai) Bg p3))), (8, iD p1), (9, iD 0), (10, iD ((wI .i64 (p2 - p1))))] [(90000, .vec 3 (v2.map Ai))]) (fun _ _ => rfl) (sm [] _ _ rfl rfl) (fun j1 n1 v1 h => ?_) (fun v2 s h hs => ?_)
 ·unfold Gs.heapSort_L1 at h
  refine Ab (Ab (Aa Ac rfl (qm rfl (Cv rfl (Ae ?_)))))
  refine Ap rfl (fun c3 => ?_) (fun c3 => ?_)
  ·have h := An c3 h
   refine Aq (Ab (AJ (Aa Ac rfl (qm rfl (qm rfl (qm rfl (qm rfl (qm rfl ?_))))))))
   obtain ⟨v4, a4, h⟩ := bind_some h
   refine BD (ds0 := [_, _, _, _, _]) [90000] [] [true] (Fh N v1.1 v1.2 ((wI .i64 (p2 - p1))) p1 p3 v4 a4) (.p rfl) Wa rfl ⟨rfl, rfl, rfl, rfl, rfl, tv⟩ rfl rfl (by decide) ⟨rfl, tv⟩ rfl (A1 rfl) tv ⟨(fun h => by cases h), tv⟩ rfl rfl rfl ?_
   refine Ae (Aa Ac rfl (qm rfl (Bm rfl (qa rfl (Ae ?_)))))
   exact As _ h (sm [] _ _ rfl rfl)
  ·have h := Ao c3 h
   refine AQ ?_
   exact As _ h (sm [] _ _ rfl rfl)
 ·refine Am hs (Ab (Aa Ac rfl (qm rfl (Bm rfl (qa rfl (Ae ?_))))))
  refine AE (L := Gs.heapSort_L5 N p1 p3) h (fun v5 => mk [(0, oD (.own 90000)), (3, oD (.clo (Bb (Cg true Ai true Ai) Bg p3))), (8, iD p1), (9, iD 0), (12, iD v5.2)] [(90000, .vec 3 (v5.1.map Ai))]) (fun v6 => mk [] [(90000, .vec 3 (v6.map Ai))]) (fun _ _ => rfl) (sm [] _ _ rfl rfl) (fun j5 n5 v5 h => ?_) (fun v6 s h hs => ?_)
  ·unfold Gs.heapSort_L5 at h
   refine Ab (Ab (Aa Ac rfl (qm rfl (Cv rfl (Ae ?_)))))
   refine Ap rfl (fun c7 => ?_) (fun c7 => ?_)
   ·have h := An c7 h
    refine Aq (Ab (AJ (Ab (Aa Ac rfl (qm rfl (qm rfl (qm rfl (qm rfl (qm rfl (AP rfl (qm rfl (qm rfl (qm rfl (AP rfl ?_))))))))))))))
    obtain ⟨v8, a8, b8, h⟩ := Ak h
    refine qI A0 Az a8 (Af b8) rfl (qJ A4 Az (Af b8) rfl (qm rfl (qm rfl ?_)))
    obtain ⟨v9, a9, b9, h⟩ := Ak h
    refine qI A0 Az a9 (Af b9) rfl (qJ A4 Az (Af b9) rfl ?_)
    obtain ⟨v10, a10, b10, h⟩ := Ak h
    refine qI A0 Az a10 (Af b10) rfl ?_
    refine AX rfl rfl rfl rfl (Af b10) rfl Az rfl (A5 rfl) (AW Ai v5.1 _ v8) ?_
    obtain ⟨v11, a11, b11, h⟩ := Ak h
    refine qI A0 Az a11 (Af b11) rfl ?_
    refine AX rfl rfl rfl rfl (Af b11) rfl Az rfl (A5 rfl) (AW Ai (v5.1.set ((p1).toNat) v8) _ v9) ?_
    refine AC (by kernel_rfl) (Aa Ac rfl (qm rfl (qm rfl (qm rfl (qm rfl (qm rfl ?_))))))
    obtain ⟨v12, a12, h⟩ := bind_some h
    refine BD (ds0 := [_, _, _, _, _]) [90000] [] [true] (Fh N ((v5.1.set ((p1).toNat) v8).set (((wI .i64 (p1 + v5.2))).toNat) v9) 0 v5.2 p1 p3 v12 a12) (.p rfl) Wa rfl ⟨rfl, rfl, rfl, rfl, rfl, tv⟩ rfl rfl (by decide) ⟨rfl, tv⟩ rfl (A1 rfl) tv ⟨(fun h => by cases h), tv⟩ rfl rfl rfl ?_
    refine Ae (Aa Ac rfl (qm rfl (Bm rfl (qa rfl (Ae ?_)))))
    exact As _ h (sm [] _ _ rfl rfl)
   ·have h := Ao c7 h
    refine AQ ?_
    exact As _ h (sm [] _ _ rfl rfl)
  ·obtain rfl := sj h
   refine ⟨_, hs.trans (sm [] [] [(90000, .vec 3 (v6.map Ai))] rfl rfl), ?_⟩
   exact ⟨⟨[], tv, rfl⟩, ⟨rfl, tv⟩, tv⟩
theorem Hn (N : Nat) (p0 : Int) (r : Int) (h : DD N p0 = some r) : AD Tryz.prog 162 [iD p0] [] (pD (.val (.int .u64 r))) := by
 unfold DD at h
 refine Au (n := 7) (rs := [.tmp 2]) Tryz.func162 rfl rfl rfl (A5 rfl) (A5 rfl) rfl fun w0 S0 => ?_
 refine Ab (Aa Ac rfl (qa rfl (Ae (Ab (Aa Ac rfl (qm rfl (HI UW MH rfl ?_)))))))
 obtain ⟨v1, a1, h⟩ := bind_some h
 refine AG [] (Ig N ((wI .u64 p0)) v1 a1) UF rfl ?_
 obtain ⟨c2, h⟩ := Ba h
 refine Ir rfl c2 (qa rfl (Ae ?_))
 obtain rfl := sj h
 refine Am (sm [] [(2, pD (.val (.int .u64 ((CF .u64 1 v1)))))] [] rfl rfl) (AA ?_)
 exact ⟨⟨[_], ⟨.tmp _ _ rfl, tv⟩, rfl⟩, tv⟩
theorem Hu (N : Nat) (p0 : Int) (r : Int × Int) (h : DQ N p0 = some r) : Bh Tryz.prog 163 [oD (.ptr 90000 0)] [(.box [.pure (.val (.int .u64 p0))], .box [.pure (.val (.int .u64 r.2))])] [] (pD (.val (.int .u64 r.1))) := by
 unfold DQ at h
 refine A9 (n := 33) (rs := [.tmp 2]) Tryz.func163 rfl rfl rfl (A5 rfl) (A5 rfl) rfl rfl (A5 rfl) rfl (A5 rfl) fun w0 S0 GL => ?_
 refine Am (sm [] [(0, oD (.ptr 90000 0))] [(90000, .box [.pure (.val (.int .u64 p0))])] rfl rfl) (Ab (Aa Ac rfl (qa rfl (Ae (Ab (Aa Ac rfl (qm rfl (Nv rfl (ql NB rfl (qm rfl (Nv rfl (ql NB rfl (Ir rfl (by decide) (Tn rfl (Nv rfl (qs QX rfl (AC (by kernel_rfl) (Ab (Aa Ac rfl (qm rfl (Nv rfl (ql NB rfl (qm rfl (Nv rfl (ql NB rfl (HN rfl (by decide) (Tn rfl (Nv rfl (qs QX rfl (AC (by kernel_rfl) (Ab (Aa Ac rfl (qm rfl (Nv rfl (ql NB rfl (qm rfl (Nv rfl (ql NB rfl (Ir rfl (by decide) ?_)))))))))))))))))))))))))))))))))))))))
 refine Tn rfl (Nv rfl (qs QX rfl (AC (by kernel_rfl) (Ab (Aa Ac rfl (qm rfl (Nv rfl (ql NB rfl (qa rfl (Ae ?_))))))))))
 obtain rfl := sj h
 refine Am (sm [] [(2, pD (.val (.int .u64 ((G4 .u64 ((G4 .u64 ((G4 .u64 p0 ((CF .u64 p0 13)))) ((EA .u64 ((G4 .u64 p0 ((CF .u64 p0 13)))) 7)))) ((CF .u64 ((G4 .u64 ((G4 .u64 p0 ((CF .u64 p0 13)))) ((EA .u64 ((G4 .u64 p0 ((CF .u64 p0 13)))) 7)))) 17)))))))] [(90000, .box [.pure (.val (.int .u64 ((G4 .u64 ((G4 .u64 ((G4 .u64 p0 ((CF .u64 p0 13)))) ((EA .u64 ((G4 .u64 p0 ((CF .u64 p0 13)))) 7)))) ((CF .u64 ((G4 .u64 ((G4 .u64 p0 ((CF .u64 p0 13)))) ((EA .u64 ((G4 .u64 p0 ((CF .u64 p0 13)))) 7)))) 17))))))])] rfl rfl) (AA ?_)
 exact ⟨⟨[_], ⟨.tmp _ _ rfl, tv⟩, rfl⟩, ⟨rfl, tv⟩, tv⟩
theorem GD (N : Nat) (p0 : List Ag) (p1 : Int) (p2 : Int) (p3 : (Ag × Ag) → Option Int) (r : (List Ag)) (h : Gs.breakPatterns N p0 p1 p2 p3 = some r) : Bh Tryz.prog 147 [oD (.own 90000), iD p1, iD p2, oD (.clo (Bb (Cg true Ai true Ai) Bg p3))] [(.vec 3 (p0.map Ai), .vec 3 (r.map Ai))] [] (.tup []) := by
 unfold Gs.breakPatterns at h
 refine A9 (n := 67) (rs := []) Tryz.func147 rfl rfl rfl (A5 rfl) (A5 rfl) rfl rfl (A5 rfl) rfl (A5 rfl) fun w0 S0 GL => Jh ?_
 refine Am (sm [] [(0, oD (.own 90000)), (1, iD p1), (2, iD p2), (3, oD (.clo (Bb (Cg true Ai true Ai) Bg p3)))] [(90000, .vec 3 (p0.map Ai))] rfl rfl) (Ab (Aa Ac rfl (qm rfl (qm rfl (Bm rfl (qa rfl (Ae (Ab (Aa Ac rfl (qm rfl (Cv rfl (Ae ?_))))))))))))
 refine Ap rfl (fun c1 => ?_) (fun c1 => ?_)
 ·have h := An c1 h
  refine Ab (Aa Ac rfl (qm rfl (HI UW Wd rfl (qz V9 rfl (qs QX rfl (Ae (Ab (Aa Ac rfl (qm rfl ?_)))))))))
  obtain ⟨v2, a2, h⟩ := bind_some h
  refine AG [] (Hn N ((wI .i64 (p2 - p1))) v2 a2) Wm rfl (qa rfl (Ae (Ab (Aa Ac rfl (qm rfl (qm rfl (Jc rfl (by decide) (HO rfl (AP rfl (Bm rfl (qa rfl (Ae ?_))))))))))))
  refine AE (L := Gs.breakPatterns_L3 N p1 p2 v2) h (fun v3 => mk [(0, oD (.own 90000)), (1, iD p1), (8, iD ((wI .i64 (p2 - p1)))), (9, oD (.ptr 9 0)), (10, pD (.val (.int .u64 v2))), (11, iD v3.2.2)] [(9, .box [.pure (.val (.int .u64 v3.2.1))]), (90000, .vec 3 (v3.1.map Ai))]) (fun v4 => mk [] [(90000, .vec 3 (v4.map Ai))]) (fun _ _ => rfl) (sm [] _ _ rfl rfl) (fun j3 n3 v3 h => ?_) (fun v4 s h hs => ?_)
  ·unfold Gs.breakPatterns_L3 at h
   refine Ab (Ab (Aa Ac rfl (qm rfl (qm rfl (qm rfl (Jc rfl (by decide) (HO rfl (AP rfl (AP rfl (GU rfl (Ae ?_)))))))))))
   refine Ap rfl (fun c5 => ?_) (fun c5 => ?_)
   ·have h := An c5 h
    refine Aq (Ab (AJ (Ab (Aa Ac rfl ?_))))
    obtain ⟨v6, a6, h⟩ := bind_some h
    refine BD (ds0 := [_]) [9] [] [true] (Hu N v3.2.1 v6 a6) (.p rfl) Wu rfl ⟨rfl, tv⟩ rfl rfl (by decide) ⟨rfl, tv⟩ rfl (A1 rfl) tv ⟨(fun h => by cases h), tv⟩ rfl rfl rfl ?_
    refine qm rfl (Bm rfl (K8 rfl (HI N9 Wp rfl (qa rfl (Ae ?_)))))
    refine AL h (fun v7 => mk [(0, oD (.own 90000)), (1, iD p1), (8, iD ((wI .i64 (p2 - p1)))), (9, oD (.ptr 9 0)), (10, pD (.val (.int .u64 v2))), (11, iD v3.2.2), (12, iD v7)] [(9, .box [.pure (.val (.int .u64 v6.2))]), (90000, .vec 3 (v3.1.map Ai))]) (fun j7 h => ?_) (fun v7 h => ?_)
    ·refine Ab (Aa Ac rfl (qm rfl (qm rfl (Cv rfl (Ae ?_)))))
     refine Ap rfl (fun c8 => ?_) (fun c8 => ?_)
     ·have h := An c8 h
      refine Aa Ac rfl (qm rfl (qm rfl (Bm rfl (qa rfl (Ae ?_)))))
      exact As _ h (sm [] _ _ rfl rfl)
     ·have h := Ao c8 h
      refine Aq ?_
      exact As _ h (sm [] _ _ rfl rfl)
    ·refine Aa Ac rfl (qm rfl (qm rfl (qm rfl (qm rfl (qm rfl (AP rfl (qm rfl (qm rfl (qm rfl (AP rfl ?_))))))))))
     obtain ⟨v9, a9, b9, h⟩ := Ak h
     refine qI A0 Az a9 (Af b9) rfl (qJ A4 Az (Af b9) rfl (qm rfl (qm rfl ?_)))
     obtain ⟨v10, a10, b10, h⟩ := Ak h
     refine qI A0 Az a10 (Af b10) rfl (qJ A4 Az (Af b10) rfl ?_)
     obtain ⟨v11, a11, b11, h⟩ := Ak h
     refine qI A0 Az a11 (Af b11) rfl ?_
     refine AX rfl rfl rfl rfl (Af b11) rfl Az rfl (A5 rfl) (AW Ai v3.1 _ v9) ?_
     obtain ⟨v12, a12, b12, h⟩ := Ak h
     refine qI A0 Az a12 (Af b12) rfl ?_
     refine AX rfl rfl rfl rfl (Af b12) rfl Az rfl (A5 rfl) (AW Ai (v3.1.set ((v3.2.2).toNat) v9) _ v10) ?_
     refine AC (by kernel_rfl) (Aa Ac rfl (qm rfl (AP rfl (qa rfl (Ae ?_)))))
     exact As _ h (sm [] _ _ rfl rfl)
   ·have h := Ao c5 h
    refine AQ ?_
    exact As _ h (sm [] _ _ rfl rfl)
  ·obtain rfl := sj h
   refine ⟨_, hs.trans (sm [] [] [(90000, .vec 3 (v4.map Ai))] rfl rfl), ?_⟩
   exact ⟨⟨[], tv, rfl⟩, ⟨rfl, tv⟩, tv⟩
 ·have h := Ao c1 h
  refine Aq ?_
  obtain rfl := sj h
  refine ⟨_, (sm [] [] [(90000, .vec 3 (p0.map Ai))] rfl rfl), ?_⟩
  exact ⟨⟨[], tv, rfl⟩, ⟨rfl, tv⟩, tv⟩
theorem Eh (N : Nat) (p0 : List Ag) (p1 : Int) (p2 : Int) (p3 : Int) (p4 : (Ag × Ag) → Option Int) (r : Int × Int × Int) (h : Gs.order2 N p0 p1 p2 p3 p4 = some r) : Bh Tryz.prog 172 [pD (.sl (p0.map Ai)), iD p1, iD p2, oD (.ptr 90000 0), oD (.clo (Bb (Cg true Ai true Ai) Bg p4))] [(.box [iC p3], .box [iC r.2.2])] [] (.tup [.one (iC r.1), .one (iC r.2.1)]) := by
 unfold Gs.order2 at h
 refine A9 (n := 32) (rs := [.tmp 10, .tmp 11]) Tryz.func172 rfl rfl rfl (A5 rfl) (A5 rfl) rfl rfl (A5 rfl) rfl (A5 rfl) fun w0 S0 GL => ?_
 refine Am (sm [] [(0, pD (.sl (p0.map Ai))), (1, iD p1), (2, iD p2), (3, oD (.ptr 90000 0)), (4, oD (.clo (Bb (Cg true Ai true Ai) Bg p4)))] [(90000, .box [iC p3])] rfl rfl) (Ab (Aa Ac rfl (qa rfl (qa rfl (Ae (Ab (Ab (Aa Ac rfl (qm rfl (qm rfl (qm rfl ?_)))))))))))
 obtain ⟨v1, a1, b1, h⟩ := Ak h
 refine qi A0 Az a1 (Af b1) rfl (qK A4 Az rfl (qm rfl (qm rfl ?_)))
 obtain ⟨v2, a2, b2, h⟩ := Ak h
 refine qi A0 Az a2 (Af b2) rfl (qK A4 Az rfl ?_)
 obtain ⟨v3, a3, h⟩ := bind_some h
 refine Cx (ds0 := [_, _]) (ar := (Cg true Ai true Ai) ((v1, v2))) (.p rfl) rfl rfl ⟨rfl, rfl, tv⟩ rfl rfl rfl (Cw (CX _ _ _ _ BJ BJ) a3) ?_
 refine AY rfl (AC (by kernel_rfl) ?_)
 refine Ap rfl (fun c4 => ?_) (fun c4 => ?_)
 ·have h := An c4 h
  refine Ab (Aa Ac rfl (qm rfl (Nv rfl (ql Cz rfl (AP rfl (Nv rfl (qs DJ rfl (Ae (Ab (Aa Ac rfl (qm rfl (qm rfl (qa rfl (qa rfl (Ae ?_)))))))))))))))
  obtain rfl := sj h
  refine Am (sm [] [(10, iD p2), (11, iD p1)] [(90000, .box [iC ((wI .i64 (p3 + 1)))])] rfl rfl) (AA ?_)
  exact ⟨⟨[_, _], ⟨.tmp _ _ rfl, ⟨.tmp _ _ rfl, tv⟩⟩, rfl⟩, ⟨rfl, tv⟩, tv⟩
 ·have h := Ao c4 h
  refine Aq (Ab (Aa Ac rfl (qm rfl (qm rfl (qa rfl (qa rfl (Ae ?_)))))))
  obtain rfl := sj h
  refine Am (sm [] [(10, iD p1), (11, iD p2)] [(90000, .box [iC p3])] rfl rfl) (AA ?_)
  exact ⟨⟨[_, _], ⟨.tmp _ _ rfl, ⟨.tmp _ _ rfl, tv⟩⟩, rfl⟩, ⟨rfl, tv⟩, tv⟩
theorem FB (N : Nat) (p0 : List Ag) (p1 : Int) (p2 : Int) (p3 : Int) (p4 : Int) (p5 : (Ag × Ag) → Option Int) (r : Int × Int) (h : Gs.median N p0 p1 p2 p3 p4 p5 = some r) : Bh Tryz.prog 168 [pD (.sl (p0.map Ai)), iD p1, iD p2, iD p3, oD (.ptr 90000 0), oD (.clo (Bb (Cg true Ai true Ai) Bg p5))] [(.box [iC p4], .box [iC r.2])] [] (iD r.1) := by
 unfold Gs.median at h
 refine A9 (n := 41) (rs := [.tmp 12]) Tryz.func168 rfl rfl rfl (A5 rfl) (A5 rfl) rfl rfl (A5 rfl) rfl (A5 rfl) fun w0 S0 GL => ?_
 refine Am (sm [] [(0, pD (.sl (p0.map Ai))), (1, iD p1), (2, iD p2), (3, iD p3), (4, oD (.ptr 90000 0)), (5, oD (.clo (Bb (Cg true Ai true Ai) Bg p5)))] [(90000, .box [iC p4])] rfl rfl) (Ab (Aa Ac rfl (qa rfl (Ae (Ab (Aa Ac rfl (qm rfl (qm rfl (qm rfl (qm rfl (qm rfl ?_)))))))))))
 obtain ⟨v1, a1, h⟩ := bind_some h
 refine BD (ds0 := [_, _, _, _, _]) [90000] [] [true] (Eh N p0 p1 p2 p4 p5 v1 a1) (.p rfl) Ua rfl ⟨rfl, rfl, rfl, rfl, rfl, tv⟩ rfl rfl (by decide) ⟨rfl, tv⟩ rfl (A1 rfl) tv ⟨(fun h => by cases h), tv⟩ rfl rfl rfl ?_
 refine qm rfl (qx rfl (qx rfl (qa rfl (qa rfl (Ae (Ab (Aa Ac rfl (qm rfl (qm rfl (qm rfl (qm rfl (qm rfl ?_))))))))))))
 obtain ⟨v2, a2, h⟩ := bind_some h
 refine BD (ds0 := [_, _, _, _, _]) [90000] [] [true] (Eh N p0 v1.2.1 p3 v1.2.2 p5 v2 a2) (.p rfl) Ua rfl ⟨rfl, rfl, rfl, rfl, rfl, tv⟩ rfl rfl (by decide) ⟨rfl, tv⟩ rfl (A1 rfl) tv ⟨(fun h => by cases h), tv⟩ rfl rfl rfl ?_
 refine qm rfl (qx rfl (qx rfl (qa rfl (qa rfl (Ae (Ab (Aa Ac rfl (qm rfl (qm rfl (qm rfl (qm rfl (qm rfl ?_))))))))))))
 obtain ⟨v3, a3, h⟩ := bind_some h
 refine BD (ds0 := [_, _, _, _, _]) [90000] [] [true] (Eh N p0 v1.1 v2.1 v2.2.2 p5 v3 a3) (.p rfl) Ua rfl ⟨rfl, rfl, rfl, rfl, rfl, tv⟩ rfl rfl (by decide) ⟨rfl, tv⟩ rfl (A1 rfl) tv ⟨(fun h => by cases h), tv⟩ rfl rfl rfl ?_
 refine qm rfl (qx rfl (qx rfl (qa rfl (qa rfl (Ae (Ab (Aa Ac rfl (qm rfl (qa rfl (Ae ?_))))))))))
 obtain rfl := sj h
 refine Am (sm [] [(12, iD v3.2.1)] [(90000, .box [iC v3.2.2])] rfl rfl) (AA ?_)
 exact ⟨⟨[_], ⟨.tmp _ _ rfl, tv⟩, rfl⟩, ⟨rfl, tv⟩, tv⟩
theorem Dd (N : Nat) (p0 : List Ag) (p1 : Int) (p2 : Int) (p3 : (Ag × Ag) → Option Int) (r : Int × Int) (h : Gs.medianAdjacent N p0 p1 p2 p3 = some r) : Bh Tryz.prog 167 [pD (.sl (p0.map Ai)), iD p1, oD (.ptr 90000 0), oD (.clo (Bb (Cg true Ai true Ai) Bg p3))] [(.box [iC p2], .box [iC r.2])] [] (iD r.1) := by
 unfold Gs.medianAdjacent at h
 refine A9 (n := 18) (rs := [.tmp 8]) Tryz.func167 rfl rfl rfl (A5 rfl) (A5 rfl) rfl rfl (A5 rfl) rfl (A5 rfl) fun w0 S0 GL => ?_
 refine Am (sm [] [(0, pD (.sl (p0.map Ai))), (1, iD p1), (2, oD (.ptr 90000 0)), (3, oD (.clo (Bb (Cg true Ai true Ai) Bg p3)))] [(90000, .box [iC p2])] rfl rfl) (Ab (Aa Ac rfl (qa rfl (Ae (Ab (Aa Ac rfl (qm rfl (qm rfl (Bm rfl (qm rfl (qm rfl (AP rfl (qm rfl (qm rfl ?_))))))))))))))
 obtain ⟨v1, a1, h⟩ := bind_some h
 refine BD (ds0 := [_, _, _, _, _, _]) [90000] [] [true] (FB N p0 ((wI .i64 (p1 - 1))) p1 ((wI .i64 (p1 + 1))) p2 p3 v1 a1) (.p rfl) Wb rfl ⟨rfl, rfl, rfl, rfl, rfl, rfl, tv⟩ rfl rfl (by decide) ⟨rfl, tv⟩ rfl (A1 rfl) tv ⟨(fun h => by cases h), tv⟩ rfl rfl rfl ?_
 refine qa rfl (Ae ?_)
 obtain rfl := sj h
 refine Am (sm [] [(8, iD v1.1)] [(90000, .box [iC v1.2])] rfl rfl) (AA ?_)
 exact ⟨⟨[_], ⟨.tmp _ _ rfl, tv⟩, rfl⟩, ⟨rfl, tv⟩, tv⟩
theorem G6 (N : Nat) (p0 : List Ag) (p1 : Int) (p2 : Int) (p3 : (Ag × Ag) → Option Int) (r : Int × Int) (h : Gs.choosePivot N p0 p1 p2 p3 = some r) : AD Tryz.prog 148 [pD (.sl (p0.map Ai)), iD p1, iD p2, oD (.clo (Bb (Cg true Ai true Ai) Bg p3))] [] (.tup [.one (iC r.1), .one (iC r.2)]) := by
 unfold Gs.choosePivot at h
 refine Au (n := 63) (rs := [.tmp 8, .tmp 9]) Tryz.func148 rfl rfl rfl (A5 rfl) (A5 rfl) rfl fun w0 S0 => ?_
 refine Ab (Aa Ac rfl (qa rfl (qa rfl (Ae (Ab (Aa Ac rfl (qm rfl (qm rfl (Bm rfl (qa rfl (Ae (Ab (Aa Ac rfl (qz Mt rfl (Ae (Ab (Aa Ac rfl (qm rfl (qm rfl (Jc rfl (by decide) (HO rfl (AP rfl (qa rfl (Ae (Ab (Aa Ac rfl (qm rfl (qm rfl (Jc rfl (by decide) (HO rfl (AP rfl (qa rfl (Ae (Ab (Aa Ac rfl (qm rfl (qm rfl (Jc rfl (by decide) (HO rfl ?_)))))))))))))))))))))))))))))))))))))))
 refine AP rfl (qa rfl (Ae ?_))
 refine AL h (fun v1 => mk [(11, oD (.ptr 11 0)), (13, iD v1.2)] [(11, .box [iC v1.1])]) (fun j1 h => ?_) (fun v1 h => ?_)
 ·refine Ab (Aa Ac rfl (qm rfl (Cv rfl (Ae ?_))))
  refine Ap rfl (fun c2 => ?_) (fun c2 => ?_)
  ·have h := An c2 h
   refine AL h (fun v3 => mk [(0, pD (.sl (p0.map Ai))), (3, oD (.clo (Bb (Cg true Ai true Ai) Bg p3))), (11, oD (.ptr 11 0)), (12, iD v3.2.1), (13, iD v3.2.2.1), (14, iD v3.2.2.2)] [(11, .box [iC v3.1])]) (fun j3 h => ?_) (fun v3 h => ?_)
   ·refine Ab (Aa Ac rfl (qm rfl (Cv rfl (Ae ?_))))
    refine Ap rfl (fun c4 => ?_) (fun c4 => ?_)
    ·have h := An c4 h
     refine Ab (Aa Ac rfl (qm rfl (qm rfl (qm rfl ?_))))
     obtain ⟨v5, a5, h⟩ := bind_some h
     refine BD (ds0 := [_, _, _, _]) [11] [] [true] (Dd N p0 ((wI .i64 (p1 + (wI .i64 ((wI .i64 (Int.tdiv ((wI .i64 (p2 - p1))) 4)) * 1))))) 0 p3 v5 a5) (.p rfl) Tt rfl ⟨rfl, rfl, rfl, rfl, tv⟩ rfl rfl (by decide) ⟨rfl, tv⟩ rfl (A1 rfl) tv ⟨(fun h => by cases h), tv⟩ rfl rfl rfl ?_
     refine qa rfl (Ae (Ab (Aa Ac rfl (qm rfl (qm rfl (qm rfl ?_))))))
     obtain ⟨v6, a6, h⟩ := bind_some h
     refine BD (ds0 := [_, _, _, _]) [11] [] [true] (Dd N p0 ((wI .i64 (p1 + (wI .i64 ((wI .i64 (Int.tdiv ((wI .i64 (p2 - p1))) 4)) * 2))))) v5.2 p3 v6 a6) (.p rfl) Tt rfl ⟨rfl, rfl, rfl, rfl, tv⟩ rfl rfl (by decide) ⟨rfl, tv⟩ rfl (A1 rfl) tv ⟨(fun h => by cases h), tv⟩ rfl rfl rfl ?_
     refine qa rfl (Ae (Aa Ac rfl (qm rfl (qm rfl (qm rfl ?_)))))
     obtain ⟨v7, a7, h⟩ := bind_some h
     refine BD (ds0 := [_, _, _, _]) [11] [] [true] (Dd N p0 ((wI .i64 (p1 + (wI .i64 ((wI .i64 (Int.tdiv ((wI .i64 (p2 - p1))) 4)) * 3))))) v6.2 p3 v7 a7) (.p rfl) Tt rfl ⟨rfl, rfl, rfl, rfl, tv⟩ rfl rfl (by decide) ⟨rfl, tv⟩ rfl (A1 rfl) tv ⟨(fun h => by cases h), tv⟩ rfl rfl rfl ?_
     refine qa rfl (Ae ?_)
     exact As _ h (sm [] _ _ rfl rfl)
    ·have h := Ao c4 h
     refine Aq ?_
     exact As _ h (sm [] _ _ rfl rfl)
   ·refine Aa Ac rfl (qm rfl (qm rfl (qm rfl (qm rfl (qm rfl ?_)))))
    obtain ⟨v8, a8, h⟩ := bind_some h
    refine BD (ds0 := [_, _, _, _, _, _]) [11] [] [true] (FB N p0 v3.2.1 v3.2.2.1 v3.2.2.2 v3.1 p3 v8 a8) (.p rfl) Wb rfl ⟨rfl, rfl, rfl, rfl, rfl, rfl, tv⟩ rfl rfl (by decide) ⟨rfl, tv⟩ rfl (A1 rfl) tv ⟨(fun h => by cases h), tv⟩ rfl rfl rfl ?_
    refine qa rfl (Ae ?_)
    exact As _ h (sm [] _ _ rfl rfl)
  ·have h := Ao c2 h
   refine Aq ?_
   exact As _ h (sm [] _ _ rfl rfl)
 ·refine Ab (Aa Ac rfl (ql Cz rfl (Ae (AJ (Ab (Aa Ac rfl (BQ rfl (qa rfl (Ae ?_)))))))))
  refine Ap rfl (fun c9 => ?_) (fun c9 => ?_)
  ·have h := An c9 h
   refine Ab (Aa Ac rfl (qm rfl (qa rfl (qa rfl (Ae ?_)))))
   obtain rfl := sj h
   refine Am (sm [] [(8, iD v1.2), (9, iD 1)] [] rfl rfl) (AA ?_)
   exact ⟨⟨[_, _], ⟨.tmp _ _ rfl, ⟨.tmp _ _ rfl, tv⟩⟩, rfl⟩, tv⟩
  ·have h := Ao c9 h
   refine Ab (Aa Ac rfl (BQ rfl (qa rfl (Ae ?_))))
   refine Ap rfl (fun c10 => ?_) (fun c10 => ?_)
   ·have h := An c10 h
    refine Ab (Aa Ac rfl (qm rfl (qa rfl (qa rfl (Ae ?_)))))
    obtain rfl := sj h
    refine Am (sm [] [(8, iD v1.2), (9, iD 2)] [] rfl rfl) (AA ?_)
    exact ⟨⟨[_, _], ⟨.tmp _ _ rfl, ⟨.tmp _ _ rfl, tv⟩⟩, rfl⟩, tv⟩
   ·have h := Ao c10 h
    refine Ab (Aa Ac rfl (qm rfl (qa rfl (qa rfl (Ae ?_)))))
    obtain rfl := sj h
    refine Am (sm [] [(8, iD v1.2), (9, iD 0)] [] rfl rfl) (AA ?_)
    exact ⟨⟨[_, _], ⟨.tmp _ _ rfl, ⟨.tmp _ _ rfl, tv⟩⟩, rfl⟩, tv⟩
theorem GR (N : Nat) (p0 : List Ag) (p1 : Int) (p2 : Int) (p3 : (Ag × Ag) → Option Int) (r : (List Ag)) (h : Gs.reverseRange N p0 p1 p2 p3 = some r) : Bh Tryz.prog 149 [oD (.own 90000), iD p1, iD p2, oD (.clo (Bb (Cg true Ai true Ai) Bg p3))] [(.vec 3 (p0.map Ai), .vec 3 (r.map Ai))] [] (.tup []) := by
 unfold Gs.reverseRange at h
 refine A9 (n := 34) (rs := []) Tryz.func149 rfl rfl rfl (A5 rfl) (A5 rfl) rfl rfl (A5 rfl) rfl (A5 rfl) fun w0 S0 GL => Jh ?_
 refine Am (sm [] [(0, oD (.own 90000)), (1, iD p1), (2, iD p2), (3, oD (.clo (Bb (Cg true Ai true Ai) Bg p3)))] [(90000, .vec 3 (p0.map Ai))] rfl rfl) (Ab (Aa Ac rfl (qm rfl (qa rfl (Ae (Ab (Aa Ac rfl (qm rfl (Bm rfl (qa rfl (Ae ?_)))))))))))
 refine AE (L := Gs.reverseRange_L1 N) h (fun v1 => mk [(0, oD (.own 90000)), (8, iD v1.2.1), (9, iD v1.2.2)] [(90000, .vec 3 (v1.1.map Ai))]) (fun v2 => mk [] [(90000, .vec 3 (v2.map Ai))]) (fun _ _ => rfl) (sm [] _ _ rfl rfl) (fun j1 n1 v1 h => ?_) (fun v2 s h hs => ?_)
 ·unfold Gs.reverseRange_L1 at h
  refine Ab (Ab (Aa Ac rfl (qm rfl (qm rfl (AY rfl (Ae ?_))))))
  refine Ap rfl (fun c3 => ?_) (fun c3 => ?_)
  ·have h := An c3 h
   refine Aq (AJ (Ab (Aa Ac rfl (qm rfl (qm rfl (qm rfl (qm rfl (qm rfl (qm rfl ?_)))))))))
   obtain ⟨v4, a4, b4, h⟩ := Ak h
   refine qI A0 Az a4 (Af b4) rfl (qJ A4 Az (Af b4) rfl (qm rfl (qm rfl ?_)))
   obtain ⟨v5, a5, b5, h⟩ := Ak h
   refine qI A0 Az a5 (Af b5) rfl (qJ A4 Az (Af b5) rfl ?_)
   obtain ⟨v6, a6, b6, h⟩ := Ak h
   refine qI A0 Az a6 (Af b6) rfl ?_
   refine AX rfl rfl rfl rfl (Af b6) rfl Az rfl (A5 rfl) (AW Ai v1.1 _ v4) ?_
   obtain ⟨v7, a7, b7, h⟩ := Ak h
   refine qI A0 Az a7 (Af b7) rfl ?_
   refine AX rfl rfl rfl rfl (Af b7) rfl Az rfl (A5 rfl) (AW Ai (v1.1.set ((v1.2.1).toNat) v4) _ v5) ?_
   refine AC (by kernel_rfl) (Ab (Aa Ac rfl (qm rfl (AP rfl (qa rfl (Ae (Aa Ac rfl (qm rfl (Bm rfl (qa rfl (Ae ?_)))))))))))
   exact As _ h (sm [] _ _ rfl rfl)
  ·have h := Ao c3 h
   refine AQ ?_
   exact As _ h (sm [] _ _ rfl rfl)
 ·obtain rfl := sj h
  refine ⟨_, hs.trans (sm [] [] [(90000, .vec 3 (v2.map Ai))] rfl rfl), ?_⟩
  exact ⟨⟨[], tv, rfl⟩, ⟨rfl, tv⟩, tv⟩
theorem Fx (N : Nat) (p0 : List Ag) (p1 : Int) (p2 : Int) (p3 : (Ag × Ag) → Option Int) (r : Bool × (List Ag)) (h : Gs.partialInsertionSort N p0 p1 p2 p3 = some r) : Bh Tryz.prog 150 [oD (.own 90000), iD p1, iD p2, oD (.clo (Bb (Cg true Ai true Ai) Bg p3))] [(.vec 3 (p0.map Ai), .vec 3 (r.2.map Ai))] [] (bD r.1) := by
 unfold Gs.partialInsertionSort at h
 refine A9 (n := 141) (rs := [.tmp 8]) Tryz.func150 rfl rfl rfl (A5 rfl) (A5 rfl) rfl rfl (A5 rfl) rfl (A5 rfl) fun w0 S0 GL => ?_
 refine Am (sm [] [(0, oD (.own 90000)), (1, iD p1), (2, iD p2), (3, oD (.clo (Bb (Cg true Ai true Ai) Bg p3)))] [(90000, .vec 3 (p0.map Ai))] rfl rfl) (Ab (Aa Ac rfl (qa rfl (Ae (Ab (Aa Ac rfl (qm rfl (AP rfl (qa rfl (Ae (Ab (Ab (Aa Ac rfl (qa rfl (Ae ?_)))))))))))))))
 refine AE (L := Gs.partialInsertionSort_L1 N p1 p2 p3) h (fun v1 => mk [(0, oD (.own 90000)), (1, iD p1), (2, iD p2), (3, oD (.clo (Bb (Cg true Ai true Ai) Bg p3))), (9, iD v1.2.1), (10, iD v1.2.2)] [(90000, .vec 3 (v1.1.map Ai))]) (fun v2 => mk [] [(90000, .vec 3 (v2.map Ai))]) (fun _ _ => rfl) (sm [] _ _ rfl rfl) (fun j1 n1 v1 h => ?_) (fun v2 s h hs => ?_)
 ·unfold Gs.partialInsertionSort_L1 at h
  refine Ab (Ab (Aa Ac rfl (qm rfl (AY rfl (Ae ?_)))))
  refine Ap rfl (fun c3 => ?_) (fun c3 => ?_)
  ·have h := An c3 h
   refine Aq ?_
   refine AL h (fun v4 => mk [(0, oD (.own 90000)), (1, iD p1), (2, iD p2), (3, oD (.clo (Bb (Cg true Ai true Ai) Bg p3))), (9, iD v4.2), (10, iD v1.2.2)] [(90000, .vec 3 (v4.1.map Ai))]) (fun j4 h => ?_) (fun v4 h => ?_)
   ·refine AJ (Ab ?_)
    refine AE (L := Gs.partialInsertionSort_L5 N p2 p3 v1) h (fun v5 => mk [(0, oD (.own 90000)), (1, iD p1), (2, iD p2), (3, oD (.clo (Bb (Cg true Ai true Ai) Bg p3))), (9, iD v5), (10, iD v1.2.2)] [(90000, .vec 3 (v1.1.map Ai))]) (fun v6 => mk [(0, oD (.own 90000)), (1, iD p1), (2, iD p2), (3, oD (.clo (Bb (Cg true Ai true Ai) Bg p3))), (9, iD v6), (10, iD v1.2.2)] [(90000, .vec 3 (v1.1.map Ai))]) (fun _ _ => rfl) (sm [] _ _ rfl rfl) (fun j5 n5 v5 h => ?_) (fun v6 s h hs => ?_)
    ·unfold Gs.partialInsertionSort_L5 at h
     refine Ab ?_
     refine AL h (fun v7 => mk [(0, oD (.own 90000)), (1, iD p1), (2, iD p2), (3, oD (.clo (Bb (Cg true Ai true Ai) Bg p3))), (9, iD v5), (10, iD v1.2.2), (36, bD v7)] [(90000, .vec 3 (v1.1.map Ai))]) (fun j7 h => ?_) (fun v7 h => ?_)
     ·refine Aa Ac rfl (qm rfl (qm rfl (AY rfl (qm rfl ?_))))
      refine AB (t := 22) rfl (fun c8 => ?_) (fun c8 => ?_)
      ·have h := An c8 h
       refine qm rfl (qm rfl (qm rfl ?_))
       obtain ⟨v9, a9, b9, h⟩ := Ak h
       refine qI A0 Az a9 (Af b9) rfl (qJ A4 Az (Af b9) rfl (qm rfl (qm rfl (Bm rfl ?_))))
       obtain ⟨v10, a10, b10, h⟩ := Ak h
       refine qI A0 Az a10 (Af b10) rfl (qJ A4 Az (Af b10) rfl ?_)
       obtain ⟨v11, a11, h⟩ := bind_some h
       refine Cx (ds0 := [_, _]) (ar := (Cg true Ai true Ai) ((v9, v10))) (.g rfl rfl) rfl rfl ⟨rfl, rfl, tv⟩ rfl rfl rfl (Cw (CX _ _ _ _ BJ BJ) a11) ?_
       refine AY rfl (BS rfl (qp rfl (AC (by kernel_rfl) ?_)))
       exact As _ h (sm [] _ _ rfl rfl)
      ·have h := Ao c8 h
       refine qn rfl (qn rfl (qn rfl (qn rfl (qn rfl (qn rfl (qn rfl (qn rfl (qn rfl (qn rfl (qn rfl (qn rfl (qn rfl (qp rfl (AC (by kernel_rfl) ?_))))))))))))))
       exact As _ h (sm [] _ _ rfl rfl)
     ·refine Ap rfl (fun c12 => ?_) (fun c12 => ?_)
      ·have h := An c12 h
       refine Aq (AJ (Aa Ac rfl (qm rfl (AP rfl (qa rfl (Ae ?_))))))
       exact As _ h (sm [] _ _ rfl rfl)
      ·have h := Ao c12 h
       refine AQ ?_
       exact As _ h (sm [] _ _ rfl rfl)
    ·refine Am hs (Ab (Ab (Aa Ac rfl (qm rfl (qm rfl (BQ rfl (Ae ?_)))))))
     refine Ap rfl (fun c13 => ?_) (fun c13 => ?_)
     ·have h := An c13 h
      refine Ab (Aa Ac rfl (qa rfl (Ae ?_)))
      obtain rfl := sj h
      refine Am (sm [] [(8, bD true)] [(90000, .vec 3 (v1.1.map Ai))] rfl rfl) (AA ?_)
      exact ⟨⟨[_], ⟨.tmp _ _ rfl, tv⟩, rfl⟩, ⟨rfl, tv⟩, tv⟩
     ·have h := Ao c13 h
      refine Aq (Ab (Ab (Aa Ac rfl (qm rfl (qm rfl (Bm rfl (AY rfl (Ae ?_))))))))
      refine Ap rfl (fun c14 => ?_) (fun c14 => ?_)
      ·have h := An c14 h
       refine Ab (Aa Ac rfl (qa rfl (Ae ?_)))
       obtain rfl := sj h
       refine Am (sm [] [(8, bD false)] [(90000, .vec 3 (v1.1.map Ai))] rfl rfl) (AA ?_)
       exact ⟨⟨[_], ⟨.tmp _ _ rfl, tv⟩, rfl⟩, ⟨rfl, tv⟩, tv⟩
      ·have h := Ao c14 h
       refine Aq (Ab (Aa Ac rfl (qm rfl (qm rfl (qm rfl (qm rfl (Bm rfl (qm rfl (qm rfl (Bm rfl ?_))))))))))
       obtain ⟨v15, a15, b15, h⟩ := Ak h
       refine qI A0 Az a15 (Af b15) rfl (qJ A4 Az (Af b15) rfl (qm rfl (qm rfl ?_)))
       obtain ⟨v16, a16, b16, h⟩ := Ak h
       refine qI A0 Az a16 (Af b16) rfl (qJ A4 Az (Af b16) rfl ?_)
       obtain ⟨v17, a17, b17, h⟩ := Ak h
       refine qI A0 Az a17 (Af b17) rfl ?_
       refine AX rfl rfl rfl rfl (Af b17) rfl Az rfl (A5 rfl) (AW Ai v1.1 _ v15) ?_
       obtain ⟨v18, a18, b18, h⟩ := Ak h
       refine qI A0 Az a18 (Af b18) rfl ?_
       refine AX rfl rfl rfl rfl (Af b18) rfl Az rfl (A5 rfl) (AW Ai (v1.1.set ((v6).toNat) v15) _ v16) ?_
       refine AC (by kernel_rfl) ?_
       refine AL h (fun v19 => mk [(0, oD (.own 90000)), (1, iD p1), (2, iD p2), (3, oD (.clo (Bb (Cg true Ai true Ai) Bg p3))), (9, iD v6), (10, iD v1.2.2)] [(90000, .vec 3 (v19.map Ai))]) (fun j19 h => ?_) (fun v19 h => ?_)
       ·refine Ab (Aa Ac rfl (qm rfl (qm rfl (Bm rfl (Cv rfl (Ae ?_))))))
        refine Ap rfl (fun c20 => ?_) (fun c20 => ?_)
        ·have h := An c20 h
         refine Ab (Aa Ac rfl (qm rfl (Bm rfl (qa rfl (Ae ?_)))))
         refine AE (L := Gs.partialInsertionSort_L21 N p3) h (fun v21 => mk [(0, oD (.own 90000)), (1, iD p1), (2, iD p2), (3, oD (.clo (Bb (Cg true Ai true Ai) Bg p3))), (9, iD v6), (10, iD v1.2.2), (11, iD v21.2)] [(90000, .vec 3 (v21.1.map Ai))]) (fun v22 => mk [(0, oD (.own 90000)), (1, iD p1), (2, iD p2), (3, oD (.clo (Bb (Cg true Ai true Ai) Bg p3))), (9, iD v6), (10, iD v1.2.2)] [(90000, .vec 3 (v22.map Ai))]) (fun _ _ => rfl) (sm [] _ _ rfl rfl) (fun j21 n21 v21 h => ?_) (fun v22 s h hs => ?_)
         ·unfold Gs.partialInsertionSort_L21 at h
          refine Ab (Ab (Aa Ac rfl (qm rfl (Cv rfl (Ae ?_)))))
          refine Ap rfl (fun c23 => ?_) (fun c23 => ?_)
          ·have h := An c23 h
           refine Aq (Ab (AJ (Ab (Ab (Aa Ac rfl (qm rfl (qm rfl (qm rfl ?_))))))))
           obtain ⟨v24, a24, b24, h⟩ := Ak h
           refine qI A0 Az a24 (Af b24) rfl (qJ A4 Az (Af b24) rfl (qm rfl (qm rfl (Bm rfl ?_))))
           obtain ⟨v25, a25, b25, h⟩ := Ak h
           refine qI A0 Az a25 (Af b25) rfl (qJ A4 Az (Af b25) rfl ?_)
           obtain ⟨v26, a26, h⟩ := bind_some h
           refine Cx (ds0 := [_, _]) (ar := (Cg true Ai true Ai) ((v24, v25))) (.p rfl) rfl rfl ⟨rfl, rfl, tv⟩ rfl rfl rfl (Cw (CX _ _ _ _ BJ BJ) a26) ?_
           refine AY rfl (BS rfl (AC (by kernel_rfl) ?_))
           refine Ap rfl (fun c27 => ?_) (fun c27 => ?_)
           ·have h := An c27 h
            refine AQ ?_
            exact As _ h (sm [] _ _ rfl rfl)
           ·have h := Ao c27 h
            refine Aq (Aa Ac rfl (qm rfl (qm rfl (qm rfl (qm rfl (Bm rfl (qm rfl (qm rfl (Bm rfl ?_)))))))))
            obtain ⟨v28, a28, b28, h⟩ := Ak h
            refine qI A0 Az a28 (Af b28) rfl (qJ A4 Az (Af b28) rfl (qm rfl (qm rfl ?_)))
            obtain ⟨v29, a29, b29, h⟩ := Ak h
            refine qI A0 Az a29 (Af b29) rfl (qJ A4 Az (Af b29) rfl ?_)
            obtain ⟨v30, a30, b30, h⟩ := Ak h
            refine qI A0 Az a30 (Af b30) rfl ?_
            refine AX rfl rfl rfl rfl (Af b30) rfl Az rfl (A5 rfl) (AW Ai v21.1 _ v28) ?_
            obtain ⟨v31, a31, b31, h⟩ := Ak h
            refine qI A0 Az a31 (Af b31) rfl ?_
            refine AX rfl rfl rfl rfl (Af b31) rfl Az rfl (A5 rfl) (AW Ai (v21.1.set ((v21.2).toNat) v28) _ v29) ?_
            refine AC (by kernel_rfl) (Aa Ac rfl (qm rfl (Bm rfl (qa rfl (Ae ?_)))))
            exact As _ h (sm [] _ _ rfl rfl)
          ·have h := Ao c23 h
           refine AQ ?_
           exact As _ h (sm [] _ _ rfl rfl)
         ·exact As _ h (hs.trans (sm [] _ _ rfl rfl))
        ·have h := Ao c20 h
         refine Aq ?_
         exact As _ h (sm [] _ _ rfl rfl)
       ·refine Ab (Aa Ac rfl (qm rfl (qm rfl (Bm rfl (Cv rfl (Ae ?_))))))
        refine Ap rfl (fun c32 => ?_) (fun c32 => ?_)
        ·have h := An c32 h
         refine Ab (Aa Ac rfl (qm rfl (AP rfl (qa rfl (Ae ?_)))))
         refine AE (L := Gs.partialInsertionSort_L33 N p2 p3) h (fun v33 => mk [(0, oD (.own 90000)), (1, iD p1), (2, iD p2), (3, oD (.clo (Bb (Cg true Ai true Ai) Bg p3))), (9, iD v6), (10, iD v1.2.2), (12, iD v33.2)] [(90000, .vec 3 (v33.1.map Ai))]) (fun v34 => mk [(0, oD (.own 90000)), (1, iD p1), (2, iD p2), (3, oD (.clo (Bb (Cg true Ai true Ai) Bg p3))), (9, iD v6), (10, iD v1.2.2)] [(90000, .vec 3 (v34.map Ai))]) (fun _ _ => rfl) (sm [] _ _ rfl rfl) (fun j33 n33 v33 h => ?_) (fun v34 s h hs => ?_)
         ·unfold Gs.partialInsertionSort_L33 at h
          refine Ab (Ab (Aa Ac rfl (qm rfl (qm rfl (AY rfl (Ae ?_))))))
          refine Ap rfl (fun c35 => ?_) (fun c35 => ?_)
          ·have h := An c35 h
           refine Aq (Ab (AJ (Ab (Ab (Aa Ac rfl (qm rfl (qm rfl (qm rfl ?_))))))))
           obtain ⟨v36, a36, b36, h⟩ := Ak h
           refine qI A0 Az a36 (Af b36) rfl (qJ A4 Az (Af b36) rfl (qm rfl (qm rfl (Bm rfl ?_))))
           obtain ⟨v37, a37, b37, h⟩ := Ak h
           refine qI A0 Az a37 (Af b37) rfl (qJ A4 Az (Af b37) rfl ?_)
           obtain ⟨v38, a38, h⟩ := bind_some h
           refine Cx (ds0 := [_, _]) (ar := (Cg true Ai true Ai) ((v36, v37))) (.p rfl) rfl rfl ⟨rfl, rfl, tv⟩ rfl rfl rfl (Cw (CX _ _ _ _ BJ BJ) a38) ?_
           refine AY rfl (BS rfl (AC (by kernel_rfl) ?_))
           refine Ap rfl (fun c39 => ?_) (fun c39 => ?_)
           ·have h := An c39 h
            refine AQ ?_
            exact As _ h (sm [] _ _ rfl rfl)
           ·have h := Ao c39 h
            refine Aq (Aa Ac rfl (qm rfl (qm rfl (qm rfl (qm rfl (Bm rfl (qm rfl (qm rfl (Bm rfl ?_)))))))))
            obtain ⟨v40, a40, b40, h⟩ := Ak h
            refine qI A0 Az a40 (Af b40) rfl (qJ A4 Az (Af b40) rfl (qm rfl (qm rfl ?_)))
            obtain ⟨v41, a41, b41, h⟩ := Ak h
            refine qI A0 Az a41 (Af b41) rfl (qJ A4 Az (Af b41) rfl ?_)
            obtain ⟨v42, a42, b42, h⟩ := Ak h
            refine qI A0 Az a42 (Af b42) rfl ?_
            refine AX rfl rfl rfl rfl (Af b42) rfl Az rfl (A5 rfl) (AW Ai v33.1 _ v40) ?_
            obtain ⟨v43, a43, b43, h⟩ := Ak h
            refine qI A0 Az a43 (Af b43) rfl ?_
            refine AX rfl rfl rfl rfl (Af b43) rfl Az rfl (A5 rfl) (AW Ai (v33.1.set ((v33.2).toNat) v40) _ v41) ?_
            refine AC (by kernel_rfl) (Aa Ac rfl (qm rfl (AP rfl (qa rfl (Ae ?_)))))
            exact As _ h (sm [] _ _ rfl rfl)
          ·have h := Ao c35 h
           refine AQ ?_
           exact As _ h (sm [] _ _ rfl rfl)
         ·exact As _ h (hs.trans (sm [] _ _ rfl rfl))
        ·have h := Ao c32 h
         refine Aq ?_
         exact As _ h (sm [] _ _ rfl rfl)
   ·refine Aa Ac rfl (qm rfl (AP rfl (qa rfl (Ae ?_))))
    exact As _ h (sm [] _ _ rfl rfl)
  ·have h := Ao c3 h
   refine AQ ?_
   exact As _ h (sm [] _ _ rfl rfl)
 ·refine Am hs (Ab (Aa Ac rfl (qa rfl (Ae ?_))))
  obtain rfl := sj h
  refine Am (sm [] [(8, bD false)] [(90000, .vec 3 (v2.map Ai))] rfl rfl) (AA ?_)
  exact ⟨⟨[_], ⟨.tmp _ _ rfl, tv⟩, rfl⟩, ⟨rfl, tv⟩, tv⟩
theorem Gm (N : Nat) (p0 : List Ag) (p1 : Int) (p2 : Int) (p3 : Int) (p4 : (Ag × Ag) → Option Int) (r : Int × (List Ag)) (h : Gs.partitionEqual N p0 p1 p2 p3 p4 = some r) : Bh Tryz.prog 151 [oD (.own 90000), iD p1, iD p2, iD p3, oD (.clo (Bb (Cg true Ai true Ai) Bg p4))] [(.vec 3 (p0.map Ai), .vec 3 (r.2.map Ai))] [] (iD r.1) := by
 unfold Gs.partitionEqual at h
 refine A9 (n := 90) (rs := [.tmp 10]) Tryz.func151 rfl rfl rfl (A5 rfl) (A5 rfl) rfl rfl (A5 rfl) rfl (A5 rfl) fun w0 S0 GL => ?_
 refine Am (sm [] [(0, oD (.own 90000)), (1, iD p1), (2, iD p2), (3, iD p3), (4, oD (.clo (Bb (Cg true Ai true Ai) Bg p4)))] [(90000, .vec 3 (p0.map Ai))] rfl rfl) (Ab (Aa Ac rfl (qa rfl (Ae (Ab (Aa Ac rfl (qm rfl (qm rfl (qm rfl (qm rfl (qm rfl (qm rfl ?_))))))))))))
 obtain ⟨v1, a1, b1, h⟩ := Ak h
 refine qI A0 Az a1 (Af b1) rfl (qJ A4 Az (Af b1) rfl (qm rfl (qm rfl ?_)))
 obtain ⟨v2, a2, b2, h⟩ := Ak h
 refine qI A0 Az a2 (Af b2) rfl (qJ A4 Az (Af b2) rfl ?_)
 obtain ⟨v3, a3, b3, h⟩ := Ak h
 refine qI A0 Az a3 (Af b3) rfl ?_
 refine AX rfl rfl rfl rfl (Af b3) rfl Az rfl (A5 rfl) (AW Ai p0 _ v1) ?_
 obtain ⟨v4, a4, b4, h⟩ := Ak h
 refine qI A0 Az a4 (Af b4) rfl ?_
 refine AX rfl rfl rfl rfl (Af b4) rfl Az rfl (A5 rfl) (AW Ai (p0.set ((p1).toNat) v1) _ v2) ?_
 refine AC (by kernel_rfl) (Ab (Aa Ac rfl (qm rfl (AP rfl (qm rfl (Bm rfl (qa rfl (qa rfl (Ae (Ab ?_))))))))))
 refine AE (L := Gs.partitionEqual_L5 N p1 p4) h (fun v5 => mk [(0, oD (.own 90000)), (1, iD p1), (4, oD (.clo (Bb (Cg true Ai true Ai) Bg p4))), (11, iD v5.2.1), (12, iD v5.2.2)] [(90000, .vec 3 (v5.1.map Ai))]) (fun v6 => mk [(11, iD v6.2)] [(90000, .vec 3 (v6.1.map Ai))]) (fun _ _ => rfl) (sm [] _ _ rfl rfl) (fun j5 n5 v5 h => ?_) (fun v6 s h hs => ?_)
 ·unfold Gs.partitionEqual_L5 at h
  refine AJ (Ab ?_)
  refine AE (L := Gs.partitionEqual_L7 N p1 p4 v5) h (fun v7 => mk [(0, oD (.own 90000)), (1, iD p1), (4, oD (.clo (Bb (Cg true Ai true Ai) Bg p4))), (11, iD v7), (12, iD v5.2.2)] [(90000, .vec 3 (v5.1.map Ai))]) (fun v8 => mk [(0, oD (.own 90000)), (1, iD p1), (4, oD (.clo (Bb (Cg true Ai true Ai) Bg p4))), (11, iD v8), (12, iD v5.2.2)] [(90000, .vec 3 (v5.1.map Ai))]) (fun _ _ => rfl) (sm [] _ _ rfl rfl) (fun j7 n7 v7 h => ?_) (fun v8 s h hs => ?_)
  ·unfold Gs.partitionEqual_L7 at h
   refine Ab ?_
   refine AL h (fun v9 => mk [(0, oD (.own 90000)), (1, iD p1), (4, oD (.clo (Bb (Cg true Ai true Ai) Bg p4))), (11, iD v7), (12, iD v5.2.2), (47, bD v9)] [(90000, .vec 3 (v5.1.map Ai))]) (fun j9 h => ?_) (fun v9 h => ?_)
   ·refine Aa Ac rfl (qm rfl (qm rfl (GU rfl (qm rfl ?_))))
    refine AB (t := 34) rfl (fun c10 => ?_) (fun c10 => ?_)
    ·have h := An c10 h
     refine qm rfl (qm rfl (qm rfl ?_))
     obtain ⟨v11, a11, b11, h⟩ := Ak h
     refine qI A0 Az a11 (Af b11) rfl (qJ A4 Az (Af b11) rfl (qm rfl (qm rfl ?_)))
     obtain ⟨v12, a12, b12, h⟩ := Ak h
     refine qI A0 Az a12 (Af b12) rfl (qJ A4 Az (Af b12) rfl ?_)
     obtain ⟨v13, a13, h⟩ := bind_some h
     refine Cx (ds0 := [_, _]) (ar := (Cg true Ai true Ai) ((v11, v12))) (.g rfl rfl) rfl rfl ⟨rfl, rfl, tv⟩ rfl rfl rfl (Cw (CX _ _ _ _ BJ BJ) a13) ?_
     refine AY rfl (BS rfl (qp rfl (AC (by kernel_rfl) ?_)))
     exact As _ h (sm [] _ _ rfl rfl)
    ·have h := Ao c10 h
     refine qn rfl (qn rfl (qn rfl (qn rfl (qn rfl (qn rfl (qn rfl (qn rfl (qn rfl (qn rfl (qn rfl (qn rfl (qp rfl (AC (by kernel_rfl) ?_)))))))))))))
     exact As _ h (sm [] _ _ rfl rfl)
   ·refine Ap rfl (fun c14 => ?_) (fun c14 => ?_)
    ·have h := An c14 h
     refine Aq (AJ (Aa Ac rfl (qm rfl (AP rfl (qa rfl (Ae ?_))))))
     exact As _ h (sm [] _ _ rfl rfl)
    ·have h := Ao c14 h
     refine AQ ?_
     exact As _ h (sm [] _ _ rfl rfl)
  ·refine Am hs (Ab ?_)
   refine AE (L := Gs.partitionEqual_L15 N p1 p4 v5 v8) h (fun v15 => mk [(0, oD (.own 90000)), (1, iD p1), (4, oD (.clo (Bb (Cg true Ai true Ai) Bg p4))), (11, iD v8), (12, iD v15)] [(90000, .vec 3 (v5.1.map Ai))]) (fun v16 => mk [(0, oD (.own 90000)), (1, iD p1), (4, oD (.clo (Bb (Cg true Ai true Ai) Bg p4))), (11, iD v8), (12, iD v16)] [(90000, .vec 3 (v5.1.map Ai))]) (fun _ _ => rfl) (sm [] _ _ rfl rfl) (fun j15 n15 v15 h => ?_) (fun v16 s h hs => ?_)
   ·unfold Gs.partitionEqual_L15 at h
    refine Ab ?_
    refine AL h (fun v17 => mk [(0, oD (.own 90000)), (1, iD p1), (4, oD (.clo (Bb (Cg true Ai true Ai) Bg p4))), (11, iD v8), (12, iD v15), (65, bD v17)] [(90000, .vec 3 (v5.1.map Ai))]) (fun j17 h => ?_) (fun v17 h => ?_)
    ·refine Aa Ac rfl (qm rfl (qm rfl (GU rfl (qm rfl ?_))))
     refine AB (t := 53) rfl (fun c18 => ?_) (fun c18 => ?_)
     ·have h := An c18 h
      refine qm rfl (qm rfl (qm rfl ?_))
      obtain ⟨v19, a19, b19, h⟩ := Ak h
      refine qI A0 Az a19 (Af b19) rfl (qJ A4 Az (Af b19) rfl (qm rfl (qm rfl ?_)))
      obtain ⟨v20, a20, b20, h⟩ := Ak h
      refine qI A0 Az a20 (Af b20) rfl (qJ A4 Az (Af b20) rfl ?_)
      obtain ⟨v21, a21, h⟩ := bind_some h
      refine Cx (ds0 := [_, _]) (ar := (Cg true Ai true Ai) ((v19, v20))) (.g rfl rfl) rfl rfl ⟨rfl, rfl, tv⟩ rfl rfl rfl (Cw (CX _ _ _ _ BJ BJ) a21) ?_
      refine AY rfl (qp rfl (AC (by kernel_rfl) ?_))
      exact As _ h (sm [] _ _ rfl rfl)
     ·have h := Ao c18 h
      refine qn rfl (qn rfl (qn rfl (qn rfl (qn rfl (qn rfl (qn rfl (qn rfl (qn rfl (qn rfl (qn rfl (qp rfl (AC (by kernel_rfl) ?_))))))))))))
      exact As _ h (sm [] _ _ rfl rfl)
    ·refine Ap rfl (fun c22 => ?_) (fun c22 => ?_)
     ·have h := An c22 h
      refine Aq (AJ (Aa Ac rfl (qm rfl (Bm rfl (qa rfl (Ae ?_))))))
      exact As _ h (sm [] _ _ rfl rfl)
     ·have h := Ao c22 h
      refine AQ ?_
      exact As _ h (sm [] _ _ rfl rfl)
   ·refine Am hs (Ab (Ab (Aa Ac rfl (qm rfl (qm rfl (DC rfl (Ae ?_)))))))
    refine Ap rfl (fun c23 => ?_) (fun c23 => ?_)
    ·have h := An c23 h
     refine AQ ?_
     exact As _ h (sm [] _ _ rfl rfl)
    ·have h := Ao c23 h
     refine Aq (Ab (Aa Ac rfl (qm rfl (qm rfl (qm rfl (qm rfl (qm rfl (qm rfl ?_))))))))
     obtain ⟨v24, a24, b24, h⟩ := Ak h
     refine qI A0 Az a24 (Af b24) rfl (qJ A4 Az (Af b24) rfl (qm rfl (qm rfl ?_)))
     obtain ⟨v25, a25, b25, h⟩ := Ak h
     refine qI A0 Az a25 (Af b25) rfl (qJ A4 Az (Af b25) rfl ?_)
     obtain ⟨v26, a26, b26, h⟩ := Ak h
     refine qI A0 Az a26 (Af b26) rfl ?_
     refine AX rfl rfl rfl rfl (Af b26) rfl Az rfl (A5 rfl) (AW Ai v5.1 _ v24) ?_
     obtain ⟨v27, a27, b27, h⟩ := Ak h
     refine qI A0 Az a27 (Af b27) rfl ?_
     refine AX rfl rfl rfl rfl (Af b27) rfl Az rfl (A5 rfl) (AW Ai (v5.1.set ((v8).toNat) v24) _ v25) ?_
     refine AC (by kernel_rfl) (Ab (Aa Ac rfl (qm rfl (AP rfl (qa rfl (Ae (Aa Ac rfl (qm rfl (Bm rfl (qa rfl (Ae ?_)))))))))))
     exact As _ h (sm [] _ _ rfl rfl)
 ·refine Am hs (Ab (Aa Ac rfl (qm rfl (qa rfl (Ae ?_)))))
  obtain rfl := sj h
  refine Am (sm [] [(10, iD v6.2)] [(90000, .vec 3 (v6.1.map Ai))] rfl rfl) (AA ?_)
  exact ⟨⟨[_], ⟨.tmp _ _ rfl, tv⟩, rfl⟩, ⟨rfl, tv⟩, tv⟩
theorem Hp (N : Nat) (p0 : List Ag) (p1 : Int) (p2 : Int) (p3 : Int) (p4 : (Ag × Ag) → Option Int) (r : Int × Bool × (List Ag)) (h : Gs.partition N p0 p1 p2 p3 p4 = some r) : Bh Tryz.prog 152 [oD (.own 90000), iD p1, iD p2, iD p3, oD (.clo (Bb (Cg true Ai true Ai) Bg p4))] [(.vec 3 (p0.map Ai), .vec 3 (r.2.2.map Ai))] [] (.tup [.one (iC r.1), .one (.pure (.val (.bool r.2.1)))]) := by
 unfold Gs.partition at h
 refine A9 (n := 178) (rs := [.tmp 10, .tmp 11]) Tryz.func152 rfl rfl rfl (A5 rfl) (A5 rfl) rfl rfl (A5 rfl) rfl (A5 rfl) fun w0 S0 GL => ?_
 refine Am (sm [] [(0, oD (.own 90000)), (1, iD p1), (2, iD p2), (3, iD p3), (4, oD (.clo (Bb (Cg true Ai true Ai) Bg p4)))] [(90000, .vec 3 (p0.map Ai))] rfl rfl) (Ab (Aa Ac rfl (qa rfl (qa rfl (Ae (Ab (Aa Ac rfl (qm rfl (qm rfl (qm rfl (qm rfl (qm rfl (qm rfl ?_)))))))))))))
 obtain ⟨v1, a1, b1, h⟩ := Ak h
 refine qI A0 Az a1 (Af b1) rfl (qJ A4 Az (Af b1) rfl (qm rfl (qm rfl ?_)))
 obtain ⟨v2, a2, b2, h⟩ := Ak h
 refine qI A0 Az a2 (Af b2) rfl (qJ A4 Az (Af b2) rfl ?_)
 obtain ⟨v3, a3, b3, h⟩ := Ak h
 refine qI A0 Az a3 (Af b3) rfl ?_
 refine AX rfl rfl rfl rfl (Af b3) rfl Az rfl (A5 rfl) (AW Ai p0 _ v1) ?_
 obtain ⟨v4, a4, b4, h⟩ := Ak h
 refine qI A0 Az a4 (Af b4) rfl ?_
 refine AX rfl rfl rfl rfl (Af b4) rfl Az rfl (A5 rfl) (AW Ai (p0.set ((p1).toNat) v1) _ v2) ?_
 refine AC (by kernel_rfl) (Ab (Aa Ac rfl (qm rfl (AP rfl (qm rfl (Bm rfl (qa rfl (qa rfl (Ae (Ab ?_))))))))))
 refine AE (L := Gs.partition_L5 N p0 p1 p2 p3 p4 v1 v2) h (fun v5 => mk [(0, oD (.own 90000)), (1, iD p1), (4, oD (.clo (Bb (Cg true Ai true Ai) Bg p4))), (12, iD v5), (13, iD ((wI .i64 (p2 - 1))))] [(90000, .vec 3 (((p0.set ((p1).toNat) v1).set ((p3).toNat) v2).map Ai))]) (fun v6 => mk [(0, oD (.own 90000)), (1, iD p1), (4, oD (.clo (Bb (Cg true Ai true Ai) Bg p4))), (12, iD v6), (13, iD ((wI .i64 (p2 - 1))))] [(90000, .vec 3 (((p0.set ((p1).toNat) v1).set ((p3).toNat) v2).map Ai))]) (fun _ _ => rfl) (sm [] _ _ rfl rfl) (fun j5 n5 v5 h => ?_) (fun v6 s h hs => ?_)
 ·unfold Gs.partition_L5 at h
  refine Ab ?_
  refine AL h (fun v7 => mk [(0, oD (.own 90000)), (1, iD p1), (4, oD (.clo (Bb (Cg true Ai true Ai) Bg p4))), (12, iD v5), (13, iD ((wI .i64 (p2 - 1)))), (47, bD v7)] [(90000, .vec 3 (((p0.set ((p1).toNat) v1).set ((p3).toNat) v2).map Ai))]) (fun j7 h => ?_) (fun v7 h => ?_)
  ·refine Aa Ac rfl (qm rfl (qm rfl (GU rfl (qm rfl ?_))))
   refine AB (t := 35) rfl (fun c8 => ?_) (fun c8 => ?_)
   ·have h := An c8 h
    refine qm rfl (qm rfl (qm rfl ?_))
    obtain ⟨v9, a9, b9, h⟩ := Ak h
    refine qI A0 Az a9 (Af b9) rfl (qJ A4 Az (Af b9) rfl (qm rfl (qm rfl ?_)))
    obtain ⟨v10, a10, b10, h⟩ := Ak h
    refine qI A0 Az a10 (Af b10) rfl (qJ A4 Az (Af b10) rfl ?_)
    obtain ⟨v11, a11, h⟩ := bind_some h
    refine Cx (ds0 := [_, _]) (ar := (Cg true Ai true Ai) ((v9, v10))) (.g rfl rfl) rfl rfl ⟨rfl, rfl, tv⟩ rfl rfl rfl (Cw (CX _ _ _ _ BJ BJ) a11) ?_
    refine AY rfl (qp rfl (AC (by kernel_rfl) ?_))
    exact As _ h (sm [] _ _ rfl rfl)
   ·have h := Ao c8 h
    refine qn rfl (qn rfl (qn rfl (qn rfl (qn rfl (qn rfl (qn rfl (qn rfl (qn rfl (qn rfl (qn rfl (qp rfl (AC (by kernel_rfl) ?_))))))))))))
    exact As _ h (sm [] _ _ rfl rfl)
  ·refine Ap rfl (fun c12 => ?_) (fun c12 => ?_)
   ·have h := An c12 h
    refine Aq (AJ (Aa Ac rfl (qm rfl (AP rfl (qa rfl (Ae ?_))))))
    exact As _ h (sm [] _ _ rfl rfl)
   ·have h := Ao c12 h
    refine AQ ?_
    exact As _ h (sm [] _ _ rfl rfl)
 ·refine Am hs (Ab ?_)
  refine AE (L := Gs.partition_L13 N p0 p1 p3 p4 v1 v2 v6) h (fun v13 => mk [(0, oD (.own 90000)), (1, iD p1), (4, oD (.clo (Bb (Cg true Ai true Ai) Bg p4))), (12, iD v6), (13, iD v13)] [(90000, .vec 3 (((p0.set ((p1).toNat) v1).set ((p3).toNat) v2).map Ai))]) (fun v14 => mk [(0, oD (.own 90000)), (1, iD p1), (4, oD (.clo (Bb (Cg true Ai true Ai) Bg p4))), (12, iD v6), (13, iD v14)] [(90000, .vec 3 (((p0.set ((p1).toNat) v1).set ((p3).toNat) v2).map Ai))]) (fun _ _ => rfl) (sm [] _ _ rfl rfl) (fun j13 n13 v13 h => ?_) (fun v14 s h hs => ?_)
  ·unfold Gs.partition_L13 at h
   refine Ab ?_
   refine AL h (fun v15 => mk [(0, oD (.own 90000)), (1, iD p1), (4, oD (.clo (Bb (Cg true Ai true Ai) Bg p4))), (12, iD v6), (13, iD v13), (66, bD v15)] [(90000, .vec 3 (((p0.set ((p1).toNat) v1).set ((p3).toNat) v2).map Ai))]) (fun j15 h => ?_) (fun v15 h => ?_)
   ·refine Aa Ac rfl (qm rfl (qm rfl (GU rfl (qm rfl ?_))))
    refine AB (t := 53) rfl (fun c16 => ?_) (fun c16 => ?_)
    ·have h := An c16 h
     refine qm rfl (qm rfl (qm rfl ?_))
     obtain ⟨v17, a17, b17, h⟩ := Ak h
     refine qI A0 Az a17 (Af b17) rfl (qJ A4 Az (Af b17) rfl (qm rfl (qm rfl ?_)))
     obtain ⟨v18, a18, b18, h⟩ := Ak h
     refine qI A0 Az a18 (Af b18) rfl (qJ A4 Az (Af b18) rfl ?_)
     obtain ⟨v19, a19, h⟩ := bind_some h
     refine Cx (ds0 := [_, _]) (ar := (Cg true Ai true Ai) ((v17, v18))) (.g rfl rfl) rfl rfl ⟨rfl, rfl, tv⟩ rfl rfl rfl (Cw (CX _ _ _ _ BJ BJ) a19) ?_
     refine AY rfl (BS rfl (qp rfl (AC (by kernel_rfl) ?_)))
     exact As _ h (sm [] _ _ rfl rfl)
    ·have h := Ao c16 h
     refine qn rfl (qn rfl (qn rfl (qn rfl (qn rfl (qn rfl (qn rfl (qn rfl (qn rfl (qn rfl (qn rfl (qn rfl (qp rfl (AC (by kernel_rfl) ?_)))))))))))))
     exact As _ h (sm [] _ _ rfl rfl)
   ·refine Ap rfl (fun c20 => ?_) (fun c20 => ?_)
    ·have h := An c20 h
     refine Aq (AJ (Aa Ac rfl (qm rfl (Bm rfl (qa rfl (Ae ?_))))))
     exact As _ h (sm [] _ _ rfl rfl)
    ·have h := Ao c20 h
     refine AQ ?_
     exact As _ h (sm [] _ _ rfl rfl)
  ·refine Am hs (Ab (Ab (Aa Ac rfl (qm rfl (qm rfl (DC rfl (Ae ?_)))))))
   refine Ap rfl (fun c21 => ?_) (fun c21 => ?_)
   ·have h := An c21 h
    refine Ab (Aa Ac rfl (qm rfl (qm rfl (qm rfl (qm rfl (qm rfl (qm rfl ?_)))))))
    obtain ⟨v22, a22, b22, h⟩ := Ak h
    refine qI A0 Az a22 (Af b22) rfl (qJ A4 Az (Af b22) rfl (qm rfl (qm rfl ?_)))
    obtain ⟨v23, a23, b23, h⟩ := Ak h
    refine qI A0 Az a23 (Af b23) rfl (qJ A4 Az (Af b23) rfl ?_)
    obtain ⟨v24, a24, b24, h⟩ := Ak h
    refine qI A0 Az a24 (Af b24) rfl ?_
    refine AX rfl rfl rfl rfl (Af b24) rfl Az rfl (A5 rfl) (AW Ai ((p0.set ((p1).toNat) v1).set ((p3).toNat) v2) _ v22) ?_
    obtain ⟨v25, a25, b25, h⟩ := Ak h
    refine qI A0 Az a25 (Af b25) rfl ?_
    refine AX rfl rfl rfl rfl (Af b25) rfl Az rfl (A5 rfl) (AW Ai (((p0.set ((p1).toNat) v1).set ((p3).toNat) v2).set ((v14).toNat) v22) _ v23) ?_
    refine AC (by kernel_rfl) (Ab (Aa Ac rfl (qm rfl (qa rfl (qa rfl (Ae ?_))))))
    obtain rfl := sj h
    refine Am (sm [] [(10, iD v14), (11, bD true)] [(90000, .vec 3 (((((p0.set ((p1).toNat) v1).set ((p3).toNat) v2).set ((v14).toNat) v22).set ((p1).toNat) v23).map Ai))] rfl rfl) (AA ?_)
    exact ⟨⟨[_, _], ⟨.tmp _ _ rfl, ⟨.tmp _ _ rfl, tv⟩⟩, rfl⟩, ⟨rfl, tv⟩, tv⟩
   ·have h := Ao c21 h
    refine Aq (Ab (Aa Ac rfl (qm rfl (qm rfl (qm rfl (qm rfl (qm rfl (qm rfl ?_))))))))
    obtain ⟨v26, a26, b26, h⟩ := Ak h
    refine qI A0 Az a26 (Af b26) rfl (qJ A4 Az (Af b26) rfl (qm rfl (qm rfl ?_)))
    obtain ⟨v27, a27, b27, h⟩ := Ak h
    refine qI A0 Az a27 (Af b27) rfl (qJ A4 Az (Af b27) rfl ?_)
    obtain ⟨v28, a28, b28, h⟩ := Ak h
    refine qI A0 Az a28 (Af b28) rfl ?_
    refine AX rfl rfl rfl rfl (Af b28) rfl Az rfl (A5 rfl) (AW Ai ((p0.set ((p1).toNat) v1).set ((p3).toNat) v2) _ v26) ?_
    obtain ⟨v29, a29, b29, h⟩ := Ak h
    refine qI A0 Az a29 (Af b29) rfl ?_
    refine AX rfl rfl rfl rfl (Af b29) rfl Az rfl (A5 rfl) (AW Ai (((p0.set ((p1).toNat) v1).set ((p3).toNat) v2).set ((v6).toNat) v26) _ v27) ?_
    refine AC (by kernel_rfl) (Ab (Aa Ac rfl (qm rfl (AP rfl (qa rfl (Ae (Ab (Aa Ac rfl (qm rfl (Bm rfl (qa rfl (Ae (Ab ?_)))))))))))))
    refine AE (L := Gs.partition_L30 N p1 p4) h (fun v30 => mk [(0, oD (.own 90000)), (1, iD p1), (4, oD (.clo (Bb (Cg true Ai true Ai) Bg p4))), (12, iD v30.2.1), (13, iD v30.2.2)] [(90000, .vec 3 (v30.1.map Ai))]) (fun v31 => mk [(0, oD (.own 90000)), (1, iD p1), (13, iD v31.2)] [(90000, .vec 3 (v31.1.map Ai))]) (fun _ _ => rfl) (sm [] _ _ rfl rfl) (fun j30 n30 v30 h => ?_) (fun v31 s h hs => ?_)
    ·unfold Gs.partition_L30 at h
     refine AJ (Ab ?_)
     refine AE (L := Gs.partition_L32 N p1 p4 v30) h (fun v32 => mk [(0, oD (.own 90000)), (1, iD p1), (4, oD (.clo (Bb (Cg true Ai true Ai) Bg p4))), (12, iD v32), (13, iD v30.2.2)] [(90000, .vec 3 (v30.1.map Ai))]) (fun v33 => mk [(0, oD (.own 90000)), (1, iD p1), (4, oD (.clo (Bb (Cg true Ai true Ai) Bg p4))), (12, iD v33), (13, iD v30.2.2)] [(90000, .vec 3 (v30.1.map Ai))]) (fun _ _ => rfl) (sm [] _ _ rfl rfl) (fun j32 n32 v32 h => ?_) (fun v33 s h hs => ?_)
     ·unfold Gs.partition_L32 at h
      refine Ab ?_
      refine AL h (fun v34 => mk [(0, oD (.own 90000)), (1, iD p1), (4, oD (.clo (Bb (Cg true Ai true Ai) Bg p4))), (12, iD v32), (13, iD v30.2.2), (120, bD v34)] [(90000, .vec 3 (v30.1.map Ai))]) (fun j34 h => ?_) (fun v34 h => ?_)
      ·refine Aa Ac rfl (qm rfl (qm rfl (GU rfl (qm rfl ?_))))
       refine AB (t := 108) rfl (fun c35 => ?_) (fun c35 => ?_)
       ·have h := An c35 h
        refine qm rfl (qm rfl (qm rfl ?_))
        obtain ⟨v36, a36, b36, h⟩ := Ak h
        refine qI A0 Az a36 (Af b36) rfl (qJ A4 Az (Af b36) rfl (qm rfl (qm rfl ?_)))
        obtain ⟨v37, a37, b37, h⟩ := Ak h
        refine qI A0 Az a37 (Af b37) rfl (qJ A4 Az (Af b37) rfl ?_)
        obtain ⟨v38, a38, h⟩ := bind_some h
        refine Cx (ds0 := [_, _]) (ar := (Cg true Ai true Ai) ((v36, v37))) (.g rfl rfl) rfl rfl ⟨rfl, rfl, tv⟩ rfl rfl rfl (Cw (CX _ _ _ _ BJ BJ) a38) ?_
        refine AY rfl (qp rfl (AC (by kernel_rfl) ?_))
        exact As _ h (sm [] _ _ rfl rfl)
       ·have h := Ao c35 h
        refine qn rfl (qn rfl (qn rfl (qn rfl (qn rfl (qn rfl (qn rfl (qn rfl (qn rfl (qn rfl (qn rfl (qp rfl (AC (by kernel_rfl) ?_))))))))))))
        exact As _ h (sm [] _ _ rfl rfl)
      ·refine Ap rfl (fun c39 => ?_) (fun c39 => ?_)
       ·have h := An c39 h
        refine Aq (AJ (Aa Ac rfl (qm rfl (AP rfl (qa rfl (Ae ?_))))))
        exact As _ h (sm [] _ _ rfl rfl)
       ·have h := Ao c39 h
        refine AQ ?_
        exact As _ h (sm [] _ _ rfl rfl)
     ·refine Am hs (Ab ?_)
      refine AE (L := Gs.partition_L40 N p1 p4 v30 v33) h (fun v40 => mk [(0, oD (.own 90000)), (1, iD p1), (4, oD (.clo (Bb (Cg true Ai true Ai) Bg p4))), (12, iD v33), (13, iD v40)] [(90000, .vec 3 (v30.1.map Ai))]) (fun v41 => mk [(0, oD (.own 90000)), (1, iD p1), (4, oD (.clo (Bb (Cg true Ai true Ai) Bg p4))), (12, iD v33), (13, iD v41)] [(90000, .vec 3 (v30.1.map Ai))]) (fun _ _ => rfl) (sm [] _ _ rfl rfl) (fun j40 n40 v40 h => ?_) (fun v41 s h hs => ?_)
      ·unfold Gs.partition_L40 at h
       refine Ab ?_
       refine AL h (fun v42 => mk [(0, oD (.own 90000)), (1, iD p1), (4, oD (.clo (Bb (Cg true Ai true Ai) Bg p4))), (12, iD v33), (13, iD v40), (139, bD v42)] [(90000, .vec 3 (v30.1.map Ai))]) (fun j42 h => ?_) (fun v42 h => ?_)
       ·refine Aa Ac rfl (qm rfl (qm rfl (GU rfl (qm rfl ?_))))
        refine AB (t := 126) rfl (fun c43 => ?_) (fun c43 => ?_)
        ·have h := An c43 h
         refine qm rfl (qm rfl (qm rfl ?_))
         obtain ⟨v44, a44, b44, h⟩ := Ak h
         refine qI A0 Az a44 (Af b44) rfl (qJ A4 Az (Af b44) rfl (qm rfl (qm rfl ?_)))
         obtain ⟨v45, a45, b45, h⟩ := Ak h
         refine qI A0 Az a45 (Af b45) rfl (qJ A4 Az (Af b45) rfl ?_)
         obtain ⟨v46, a46, h⟩ := bind_some h
         refine Cx (ds0 := [_, _]) (ar := (Cg true Ai true Ai) ((v44, v45))) (.g rfl rfl) rfl rfl ⟨rfl, rfl, tv⟩ rfl rfl rfl (Cw (CX _ _ _ _ BJ BJ) a46) ?_
         refine AY rfl (BS rfl (qp rfl (AC (by kernel_rfl) ?_)))
         exact As _ h (sm [] _ _ rfl rfl)
        ·have h := Ao c43 h
         refine qn rfl (qn rfl (qn rfl (qn rfl (qn rfl (qn rfl (qn rfl (qn rfl (qn rfl (qn rfl (qn rfl (qn rfl (qp rfl (AC (by kernel_rfl) ?_)))))))))))))
         exact As _ h (sm [] _ _ rfl rfl)
       ·refine Ap rfl (fun c47 => ?_) (fun c47 => ?_)
        ·have h := An c47 h
         refine Aq (AJ (Aa Ac rfl (qm rfl (Bm rfl (qa rfl (Ae ?_))))))
         exact As _ h (sm [] _ _ rfl rfl)
        ·have h := Ao c47 h
         refine AQ ?_
         exact As _ h (sm [] _ _ rfl rfl)
      ·refine Am hs (Ab (Ab (Aa Ac rfl (qm rfl (qm rfl (DC rfl (Ae ?_)))))))
       refine Ap rfl (fun c48 => ?_) (fun c48 => ?_)
       ·have h := An c48 h
        refine AQ ?_
        exact As _ h (sm [] _ _ rfl rfl)
       ·have h := Ao c48 h
        refine Aq (Ab (Aa Ac rfl (qm rfl (qm rfl (qm rfl (qm rfl (qm rfl (qm rfl ?_))))))))
        obtain ⟨v49, a49, b49, h⟩ := Ak h
        refine qI A0 Az a49 (Af b49) rfl (qJ A4 Az (Af b49) rfl (qm rfl (qm rfl ?_)))
        obtain ⟨v50, a50, b50, h⟩ := Ak h
        refine qI A0 Az a50 (Af b50) rfl (qJ A4 Az (Af b50) rfl ?_)
        obtain ⟨v51, a51, b51, h⟩ := Ak h
        refine qI A0 Az a51 (Af b51) rfl ?_
        refine AX rfl rfl rfl rfl (Af b51) rfl Az rfl (A5 rfl) (AW Ai v30.1 _ v49) ?_
        obtain ⟨v52, a52, b52, h⟩ := Ak h
        refine qI A0 Az a52 (Af b52) rfl ?_
        refine AX rfl rfl rfl rfl (Af b52) rfl Az rfl (A5 rfl) (AW Ai (v30.1.set ((v33).toNat) v49) _ v50) ?_
        refine AC (by kernel_rfl) (Ab (Aa Ac rfl (qm rfl (AP rfl (qa rfl (Ae (Aa Ac rfl (qm rfl (Bm rfl (qa rfl (Ae ?_)))))))))))
        exact As _ h (sm [] _ _ rfl rfl)
    ·refine Am hs (Ab (Aa Ac rfl (qm rfl (qm rfl (qm rfl (qm rfl (qm rfl (qm rfl ?_))))))))
     obtain ⟨v53, a53, b53, h⟩ := Ak h
     refine qI A0 Az a53 (Af b53) rfl (qJ A4 Az (Af b53) rfl (qm rfl (qm rfl ?_)))
     obtain ⟨v54, a54, b54, h⟩ := Ak h
     refine qI A0 Az a54 (Af b54) rfl (qJ A4 Az (Af b54) rfl ?_)
     obtain ⟨v55, a55, b55, h⟩ := Ak h
     refine qI A0 Az a55 (Af b55) rfl ?_
     refine AX rfl rfl rfl rfl (Af b55) rfl Az rfl (A5 rfl) (AW Ai v31.1 _ v53) ?_
     obtain ⟨v56, a56, b56, h⟩ := Ak h
     refine qI A0 Az a56 (Af b56) rfl ?_
     refine AX rfl rfl rfl rfl (Af b56) rfl Az rfl (A5 rfl) (AW Ai (v31.1.set ((v31.2).toNat) v53) _ v54) ?_
     refine AC (by kernel_rfl) (Ab (Aa Ac rfl (qm rfl (qa rfl (qa rfl (Ae ?_))))))
     obtain rfl := sj h
     refine Am (sm [] [(10, iD v31.2), (11, bD false)] [(90000, .vec 3 (((v31.1.set ((v31.2).toNat) v53).set ((p1).toNat) v54).map Ai))] rfl rfl) (AA ?_)
     exact ⟨⟨[_, _], ⟨.tmp _ _ rfl, ⟨.tmp _ _ rfl, tv⟩⟩, rfl⟩, ⟨rfl, tv⟩, tv⟩
theorem Hr (N : Nat) (rc : (List Ag) → Int → Int → Int → ((Ag × Ag) → Option Int) → Option ((List Ag))) (hrc : ∀ (p0 : List Ag) (p1 : Int) (p2 : Int) (p3 : Int) (p4 : (Ag × Ag) → Option Int) (r : (List Ag)), rc p0 p1 p2 p3 p4 = some r → Bh Tryz.prog 118 [oD (.own 90000), iD p1, iD p2, iD p3, oD (.clo (Bb (Cg true Ai true Ai) Bg p4))] [(.vec 3 (p0.map Ai), .vec 3 (r.map Ai))] [] (.tup [])) (p0 : List Ag) (p1 : Int) (p2 : Int) (p3 : Int) (p4 : (Ag × Ag) → Option Int) (r : (List Ag)) (h : Gs.pdqsort_B N rc p0 p1 p2 p3 p4 = some r) : Bh Tryz.prog 118 [oD (.own 90000), iD p1, iD p2, iD p3, oD (.clo (Bb (Cg true Ai true Ai) Bg p4))] [(.vec 3 (p0.map Ai), .vec 3 (r.map Ai))] [] (.tup []) := by
 unfold Gs.pdqsort_B at h
 refine A9 (n := 148) (rs := []) Tryz.func118 rfl rfl rfl (A5 rfl) (A5 rfl) rfl rfl (A5 rfl) rfl (A5 rfl) fun w0 S0 GL => Jh ?_
 refine Am (sm [] [(0, oD (.own 90000)), (1, iD p1), (2, iD p2), (3, iD p3), (4, oD (.clo (Bb (Cg true Ai true Ai) Bg p4)))] [(90000, .vec 3 (p0.map Ai))] rfl rfl) (Ab (Aa Ac rfl (qa rfl (Ae (Ab (Aa Ac rfl (qa rfl (Ae ?_))))))))
 refine AE (L := Gs.pdqsort_L1 N p4 rc) h (fun v1 => mk [(0, oD (.own 90000)), (1, iD v1.2.1), (2, iD v1.2.2.1), (3, iD v1.2.2.2.1), (4, oD (.clo (Bb (Cg true Ai true Ai) Bg p4))), (10, bD v1.2.2.2.2.1), (11, bD v1.2.2.2.2.2)] [(90000, .vec 3 (v1.1.map Ai))]) (fun v2 => mk [] []) (fun _ _ => rfl) (sm [] _ _ rfl rfl) (fun j1 n1 v1 h => ?_) (fun v2 s h hs => ?_)
 ·unfold Gs.pdqsort_L1 at h
  refine AJ (Ab (Aa Ac rfl (qm rfl (qm rfl (Bm rfl (qa rfl (Ae (Ab (Ab (Aa Ac rfl (qm rfl (GU rfl (Ae ?_)))))))))))))
  refine Ap rfl (fun c3 => ?_) (fun c3 => ?_)
  ·have h := An c3 h
   refine Ab (Aa Ac rfl (qm rfl (qm rfl (qm rfl (qm rfl ?_)))))
   obtain ⟨v4, a4, h⟩ := bind_some h
   refine BD (ds0 := [_, _, _, _]) [90000] [] [true] (GB N v1.1 v1.2.1 v1.2.2.1 p4 v4 a4) (.p rfl) X4 rfl ⟨rfl, rfl, rfl, rfl, tv⟩ rfl rfl (by decide) ⟨rfl, tv⟩ rfl (A1 rfl) tv ⟨(fun h => by cases h), tv⟩ rfl rfl rfl ?_
   refine Ae ?_
   obtain rfl := sj h
   refine AA ⟨_, (sm [] [] [(90000, .vec 3 (v4.map Ai))] rfl rfl), ?_⟩
   exact ⟨⟨[], tv, rfl⟩, ⟨rfl, tv⟩, tv⟩
  ·have h := Ao c3 h
   refine Aq (Ab (Ab (Aa Ac rfl (qm rfl (BQ rfl (Ae ?_))))))
   refine Ap rfl (fun c5 => ?_) (fun c5 => ?_)
   ·have h := An c5 h
    refine Ab (Aa Ac rfl (qm rfl (qm rfl (qm rfl (qm rfl ?_)))))
    obtain ⟨v6, a6, h⟩ := bind_some h
    refine BD (ds0 := [_, _, _, _]) [90000] [] [true] (HH N v1.1 v1.2.1 v1.2.2.1 p4 v6 a6) (.p rfl) Yz rfl ⟨rfl, rfl, rfl, rfl, tv⟩ rfl rfl (by decide) ⟨rfl, tv⟩ rfl (A1 rfl) tv ⟨(fun h => by cases h), tv⟩ rfl rfl rfl ?_
    refine Ae ?_
    obtain rfl := sj h
    refine AA ⟨_, (sm [] [] [(90000, .vec 3 (v6.map Ai))] rfl rfl), ?_⟩
    exact ⟨⟨[], tv, rfl⟩, ⟨rfl, tv⟩, tv⟩
   ·have h := Ao c5 h
    refine Aq ?_
    refine AL h (fun v7 => mk [(0, oD (.own 90000)), (1, iD v1.2.1), (2, iD v1.2.2.1), (3, iD v7.2), (4, oD (.clo (Bb (Cg true Ai true Ai) Bg p4))), (10, bD v1.2.2.2.2.1), (11, bD v1.2.2.2.2.2), (12, iD ((wI .i64 (v1.2.2.1 - v1.2.1))))] [(90000, .vec 3 (v7.1.map Ai))]) (fun j7 h => ?_) (fun v7 h => ?_)
    ·refine Ab (Aa Ac rfl (qm rfl (BS rfl (Ae ?_))))
     refine Ap rfl (fun c8 => ?_) (fun c8 => ?_)
     ·have h := An c8 h
      refine Ab (Aa Ac rfl (qm rfl (qm rfl (qm rfl (qm rfl ?_)))))
      obtain ⟨v9, a9, h⟩ := bind_some h
      refine BD (ds0 := [_, _, _, _]) [90000] [] [true] (GD N v1.1 v1.2.1 v1.2.2.1 p4 v9 a9) (.p rfl) XZ rfl ⟨rfl, rfl, rfl, rfl, tv⟩ rfl rfl (by decide) ⟨rfl, tv⟩ rfl (A1 rfl) tv ⟨(fun h => by cases h), tv⟩ rfl rfl rfl ?_
      refine Ae (Aa Ac rfl (qm rfl (Bm rfl (qa rfl (Ae ?_)))))
      exact As _ h (sm [] _ _ rfl rfl)
     ·have h := Ao c8 h
      refine Aq ?_
      exact As _ h (sm [] _ _ rfl rfl)
    ·refine Ab (Aa Ac rfl (qm rfl (qm rfl (qm rfl (qm rfl ?_)))))
     obtain ⟨v10, a10, h⟩ := bind_some h
     refine DI [] [90000] (G6 N v7.1 v1.2.1 v1.2.2.1 p4 v10 a10) YE Cr rfl (qm rfl (qx rfl (qx rfl (qa rfl (qa rfl (Ae ?_))))))
     refine AL h (fun v11 => mk [(0, oD (.own 90000)), (1, iD v1.2.1), (2, iD v1.2.2.1), (3, iD v7.2), (4, oD (.clo (Bb (Cg true Ai true Ai) Bg p4))), (10, bD v1.2.2.2.2.1), (11, bD v1.2.2.2.2.2), (12, iD ((wI .i64 (v1.2.2.1 - v1.2.1)))), (13, iD v11.2.1), (14, iD v11.2.2)] [(90000, .vec 3 (v11.1.map Ai))]) (fun j11 h => ?_) (fun v11 h => ?_)
     ·refine Ab (Aa Ac rfl (qm rfl (BQ rfl (Ae ?_))))
      refine Ap rfl (fun c12 => ?_) (fun c12 => ?_)
      ·have h := An c12 h
       refine Ab (Aa Ac rfl (qm rfl (qm rfl (qm rfl (qm rfl ?_)))))
       obtain ⟨v13, a13, h⟩ := bind_some h
       refine BD (ds0 := [_, _, _, _]) [90000] [] [true] (GR N v7.1 v1.2.1 v1.2.2.1 p4 v13 a13) (.p rfl) XQ rfl ⟨rfl, rfl, rfl, rfl, tv⟩ rfl rfl (by decide) ⟨rfl, tv⟩ rfl (A1 rfl) tv ⟨(fun h => by cases h), tv⟩ rfl rfl rfl ?_
       refine Ae (Ab (Aa Ac rfl (qm rfl (Bm rfl (qm rfl (qm rfl (Bm rfl (Bm rfl (qa rfl (Ae (Aa Ac rfl (qa rfl (Ae ?_)))))))))))))
       exact As _ h (sm [] _ _ rfl rfl)
      ·have h := Ao c12 h
       refine Aq ?_
       exact As _ h (sm [] _ _ rfl rfl)
     ·refine AL h (fun v14 => mk [(0, oD (.own 90000)), (1, iD v1.2.1), (2, iD v1.2.2.1), (3, iD v7.2), (4, oD (.clo (Bb (Cg true Ai true Ai) Bg p4))), (10, bD v1.2.2.2.2.1), (11, bD v1.2.2.2.2.2), (12, iD ((wI .i64 (v1.2.2.1 - v1.2.1)))), (13, iD v11.2.1)] [(90000, .vec 3 (v14.map Ai))]) (fun j14 h => ?_) (fun v14 h => ?_)
      ·refine AL h (fun v15 => mk [(0, oD (.own 90000)), (1, iD v1.2.1), (2, iD v1.2.2.1), (3, iD v7.2), (4, oD (.clo (Bb (Cg true Ai true Ai) Bg p4))), (10, bD v1.2.2.2.2.1), (11, bD v1.2.2.2.2.2), (12, iD ((wI .i64 (v1.2.2.1 - v1.2.1)))), (13, iD v11.2.1), (75, bD v15)] [(90000, .vec 3 (v11.1.map Ai))]) (fun j15 h => ?_) (fun v15 h => ?_)
       ·refine Aa Ac rfl (qm rfl (qm rfl ?_))
        refine AB (t := 69) rfl (fun c16 => ?_) (fun c16 => ?_)
        ·have h := An c16 h
         refine qm rfl (qp rfl (qm rfl ?_))
         refine AB (t := 72) rfl (fun c17 => ?_) (fun c17 => ?_)
         ·have h := An c17 h
          refine qm rfl (BQ rfl (qp rfl (Ae ?_)))
          exact As _ h (sm [] _ _ rfl rfl)
         ·have h := Ao c17 h
          refine qn rfl (qn rfl (qp rfl (Ae ?_)))
          exact As _ h (sm [] _ _ rfl rfl)
        ·have h := Ao c16 h
         refine qn rfl (qp rfl (qm rfl (qn rfl (qn rfl (qp rfl (Ae ?_))))))
         exact As _ h (sm [] _ _ rfl rfl)
       ·refine Ap rfl (fun c18 => ?_) (fun c18 => ?_)
        ·have h := An c18 h
         refine Ab (Aa Ac rfl (qm rfl (qm rfl (qm rfl (qm rfl ?_)))))
         obtain ⟨v19, a19, h⟩ := bind_some h
         refine BD (ds0 := [_, _, _, _]) [90000] [] [true] (Fx N v11.1 v1.2.1 v1.2.2.1 p4 v19 a19) (.p rfl) Xz rfl ⟨rfl, rfl, rfl, rfl, tv⟩ rfl rfl (by decide) ⟨rfl, tv⟩ rfl (A1 rfl) tv ⟨(fun h => by cases h), tv⟩ rfl rfl rfl ?_
         refine Ae ?_
         refine Ap rfl (fun c20 => ?_) (fun c20 => ?_)
         ·have h := An c20 h
          obtain rfl := sj h
          refine AA ⟨_, (sm [] [] [(90000, .vec 3 (v19.2.map Ai))] rfl rfl), ?_⟩
          exact ⟨⟨[], tv, rfl⟩, ⟨rfl, tv⟩, tv⟩
         ·have h := Ao c20 h
          refine Aq ?_
          exact As _ h (sm [] _ _ rfl rfl)
        ·have h := Ao c18 h
         refine Aq ?_
         exact As _ h (sm [] _ _ rfl rfl)
      ·refine Ab ?_
       refine AL h (fun v21 => mk [(0, oD (.own 90000)), (1, iD v1.2.1), (2, iD v1.2.2.1), (3, iD v7.2), (4, oD (.clo (Bb (Cg true Ai true Ai) Bg p4))), (10, bD v1.2.2.2.2.1), (11, bD v1.2.2.2.2.2), (12, iD ((wI .i64 (v1.2.2.1 - v1.2.1)))), (13, iD v11.2.1), (97, bD v21)] [(90000, .vec 3 (v14.map Ai))]) (fun j21 h => ?_) (fun v21 h => ?_)
       ·refine Aa Ac rfl (qm rfl (DC rfl (qm rfl ?_)))
        refine AB (t := 83) rfl (fun c22 => ?_) (fun c22 => ?_)
        ·have h := An c22 h
         refine qm rfl (qm rfl (qm rfl (Bm rfl ?_)))
         obtain ⟨v23, a23, b23, h⟩ := Ak h
         refine qI A0 Az a23 (Af b23) rfl (qJ A4 Az (Af b23) rfl (qm rfl (qm rfl ?_)))
         obtain ⟨v24, a24, b24, h⟩ := Ak h
         refine qI A0 Az a24 (Af b24) rfl (qJ A4 Az (Af b24) rfl ?_)
         obtain ⟨v25, a25, h⟩ := bind_some h
         refine Cx (ds0 := [_, _]) (ar := (Cg true Ai true Ai) ((v23, v24))) (.g rfl rfl) rfl rfl ⟨rfl, rfl, tv⟩ rfl rfl rfl (Cw (CX _ _ _ _ BJ BJ) a25) ?_
         refine AY rfl (BS rfl (qp rfl (AC (by kernel_rfl) ?_)))
         exact As _ h (sm [] _ _ rfl rfl)
        ·have h := Ao c22 h
         refine qn rfl (qn rfl (qn rfl (qn rfl (qn rfl (qn rfl (qn rfl (qn rfl (qn rfl (qn rfl (qn rfl (qn rfl (qn rfl (qp rfl (AC (by kernel_rfl) ?_))))))))))))))
         exact As _ h (sm [] _ _ rfl rfl)
       ·refine Ap rfl (fun c26 => ?_) (fun c26 => ?_)
        ·have h := An c26 h
         refine Ab (Aa Ac rfl (qm rfl (qm rfl (qm rfl (qm rfl (qm rfl ?_))))))
         obtain ⟨v27, a27, h⟩ := bind_some h
         refine BD (ds0 := [_, _, _, _, _]) [90000] [] [true] (Gm N v14 v1.2.1 v1.2.2.1 v11.2.1 p4 v27 a27) (.p rfl) XF rfl ⟨rfl, rfl, rfl, rfl, rfl, tv⟩ rfl rfl (by decide) ⟨rfl, tv⟩ rfl (A1 rfl) tv ⟨(fun h => by cases h), tv⟩ rfl rfl rfl ?_
         refine qa rfl (Ae (Ab (Aa Ac rfl (qm rfl (qa rfl (Ae (AQ ?_)))))))
         exact As _ h (sm [] _ _ rfl rfl)
        ·have h := Ao c26 h
         refine Aq (Ab (Aa Ac rfl (qm rfl (qm rfl (qm rfl (qm rfl (qm rfl ?_)))))))
         obtain ⟨v28, a28, h⟩ := bind_some h
         refine BD (ds0 := [_, _, _, _, _]) [90000] [] [true] (Hp N v14 v1.2.1 v1.2.2.1 v11.2.1 p4 v28 a28) (.p rfl) Yp rfl ⟨rfl, rfl, rfl, rfl, rfl, tv⟩ rfl rfl (by decide) ⟨rfl, tv⟩ rfl (A1 rfl) tv ⟨(fun h => by cases h), tv⟩ rfl rfl rfl ?_
         refine qm rfl (qx rfl (qx rfl (qa rfl (qa rfl (Ae (Ab (Aa Ac rfl (qm rfl (qa rfl (Ae (Ab (Aa Ac rfl (qm rfl (qm rfl (Bm rfl (qm rfl (qm rfl (Bm rfl (qa rfl (qa rfl (Ae (Ab (Aa Ac rfl (qm rfl (Jc rfl (by decide) (qa rfl (Ae (Ab (Aa Ac rfl (qm rfl (qm rfl (AY rfl (Ae ?_)))))))))))))))))))))))))))))))))
         refine Ap rfl (fun c29 => ?_) (fun c29 => ?_)
         ·have h := An c29 h
          refine Ab (Aa Ac rfl (qm rfl (qm rfl (Cv rfl (qa rfl (Ae (Ab (Aa Ac rfl (qm rfl (qm rfl (qm rfl (qm rfl (qm rfl ?_)))))))))))))
          obtain ⟨v30, a30, h⟩ := bind_some h
          refine BD (ds0 := [_, _, _, _, _]) [90000] [] [true] (hrc v28.2.2 v1.2.1 v28.1 v7.2 p4 v30 a30) (.p rfl) Uu rfl ⟨rfl, rfl, rfl, rfl, rfl, tv⟩ rfl rfl (by decide) ⟨rfl, tv⟩ rfl (A1 rfl) tv ⟨(fun h => by cases h), tv⟩ rfl rfl rfl ?_
          refine Ae (Aa Ac rfl (qm rfl (AP rfl (qa rfl (Ae ?_)))))
          exact As _ h (sm [] _ _ rfl rfl)
         ·have h := Ao c29 h
          refine Ab (Aa Ac rfl (qm rfl (qm rfl (Cv rfl (qa rfl (Ae (Ab (Aa Ac rfl (qm rfl (qm rfl (AP rfl (qm rfl (qm rfl (qm rfl ?_))))))))))))))
          obtain ⟨v31, a31, h⟩ := bind_some h
          refine BD (ds0 := [_, _, _, _, _]) [90000] [] [true] (hrc v28.2.2 ((wI .i64 (v28.1 + 1))) v1.2.2.1 v7.2 p4 v31 a31) (.p rfl) Uu rfl ⟨rfl, rfl, rfl, rfl, rfl, tv⟩ rfl rfl (by decide) ⟨rfl, tv⟩ rfl (A1 rfl) tv ⟨(fun h => by cases h), tv⟩ rfl rfl rfl ?_
          refine Ae (Aa Ac rfl (qm rfl (qa rfl (Ae ?_))))
          exact As _ h (sm [] _ _ rfl rfl)
 ·cases h
theorem E9 (N : Nat) : ∀ (k : Nat) (p0 : List Ag) (p1 : Int) (p2 : Int) (p3 : Int) (p4 : (Ag × Ag) → Option Int) (r : (List Ag)), Gs.pdqsort_R N k p0 p1 p2 p3 p4 = some r → Bh Tryz.prog 118 [oD (.own 90000), iD p1, iD p2, iD p3, oD (.clo (Bb (Cg true Ai true Ai) Bg p4))] [(.vec 3 (p0.map Ai), .vec 3 (r.map Ai))] [] (.tup [])
 | 0, _, _, _, _, _, _, h => by cases h
 | k + 1, p0, p1, p2, p3, p4, r, h => Hr N (Gs.pdqsort_R N k) (E9 N k) p0 p1 p2 p3 p4 r h
theorem HM (N : Nat) (p0 : List Ag) (p1 : Int) (p2 : Int) (p3 : Int) (p4 : (Ag × Ag) → Option Int) (r : (List Ag)) (h : Gs.pdqsort N p0 p1 p2 p3 p4 = some r) : Bh Tryz.prog 118 [oD (.own 90000), iD p1, iD p2, iD p3, oD (.clo (Bb (Cg true Ai true Ai) Bg p4))] [(.vec 3 (p0.map Ai), .vec 3 (r.map Ai))] [] (.tup []) := E9 N N p0 p1 p2 p3 p4 r h
theorem Hq (N : Nat) (p0 : List Ag) (p1 : (Ag × Ag) → Option Int) (r : (List Ag)) (h : DN N p0 p1 = some r) : Bh Tryz.prog 86 [oD (.own 90000), oD (.clo (Bb (Cg true Ai true Ai) Bg p1))] [(.vec 3 (p0.map Ai), .vec 3 (r.map Ai))] [] (.tup []) := by
 unfold DN at h
 refine A9 (n := 14) (rs := []) Tryz.func86 rfl rfl rfl (A5 rfl) (A5 rfl) rfl rfl (A5 rfl) rfl (A5 rfl) fun w0 S0 GL => Jh ?_
 refine Am (sm [] [(0, oD (.own 90000)), (1, oD (.clo (Bb (Cg true Ai true Ai) Bg p1)))] [(90000, .vec 3 (p0.map Ai))] rfl rfl) (Ab (Aa Ac rfl (qm rfl (EP A0 rfl (qa rfl (Ae (Aa Ac rfl (qm rfl (qm rfl (qm rfl (HI UW MH rfl ?_)))))))))))
 obtain ⟨v1, a1, h⟩ := bind_some h
 refine AG [] (Ig N ((wI .u64 ((p0.length : Int)))) v1 a1) UF rfl (qm rfl ?_)
 obtain ⟨v2, a2, h⟩ := bind_some h
 refine BD (ds0 := [_, _, _, _, _]) [90000] [] [true] (HM N p0 0 ((p0.length : Int)) v1 p1 v2 a2) (.p rfl) Uu rfl ⟨rfl, rfl, rfl, rfl, rfl, tv⟩ rfl rfl (by decide) ⟨rfl, tv⟩ rfl (A1 rfl) tv ⟨(fun h => by cases h), tv⟩ rfl rfl rfl ?_
 refine Ae ?_
 obtain rfl := sj h
 refine ⟨_, (sm [] [] [(90000, .vec 3 (v2.map Ai))] rfl rfl), ?_⟩
 exact ⟨⟨[], tv, rfl⟩, ⟨rfl, tv⟩, tv⟩
theorem J7 (N : Nat) (p0 : Int) (r : Bool) (h : FC N p0 = some r) : AD Tryz.prog 106 [iD p0] [] (bD r) := by
 unfold FC at h
 refine Au (n := 6) (rs := [.tmp 2]) Tryz.func106 rfl rfl rfl (A5 rfl) (A5 rfl) rfl fun w0 S0 => ?_
 refine Ab (Aa Ac rfl (qa rfl (Ae (Ab (Aa Ac rfl (qm rfl (qm rfl (BP rfl (qa rfl (Ae ?_))))))))))
 obtain rfl := sj h
 refine Am (sm [] [(2, bD ((p0 != p0)))] [] rfl rfl) (AA ?_)
 exact ⟨⟨[_], ⟨.tmp _ _ rfl, tv⟩, rfl⟩, tv⟩
theorem Gi (N : Nat) (p0 : Int) (p1 : Int) (r : Int) (h : C8 N p0 p1 = some r) : AD Tryz.prog 62 [iD p0, iD p1] [] (iD r) := by
 unfold C8 at h
 refine Au (n := 20) (rs := [.tmp 4]) Tryz.func62 rfl rfl rfl (A5 rfl) (A5 rfl) rfl fun w0 S0 => ?_
 refine Ab (Aa Ac rfl (qa rfl (Ae (Ab (Aa Ac rfl (qm rfl ?_))))))
 obtain ⟨v1, a1, h⟩ := bind_some h
 refine AG [] (J7 N p0 v1 a1) Wq rfl (qa rfl (Ae (Ab (Aa Ac rfl (qm rfl ?_)))))
 obtain ⟨v2, a2, h⟩ := bind_some h
 refine AG [] (J7 N p1 v2 a2) Wq rfl (qa rfl (Ae (Ab (Ab (Aa Ac rfl (qm rfl (Ae ?_)))))))
 refine Ap rfl (fun c3 => ?_) (fun c3 => ?_)
 ·have h := An c3 h
  refine Ab (Ab (Aa Ac rfl (qm rfl (Ae ?_))))
  refine Ap rfl (fun c4 => ?_) (fun c4 => ?_)
  ·have h := An c4 h
   refine Ab (Aa Ac rfl (qa rfl (Ae ?_)))
   obtain rfl := sj h
   refine Am (sm [] [(4, iD 0)] [] rfl rfl) (AA ?_)
   exact ⟨⟨[_], ⟨.tmp _ _ rfl, tv⟩, rfl⟩, tv⟩
  ·have h := Ao c4 h
   refine Aq (Ab (Aa Ac rfl (qa rfl (Ae ?_))))
   obtain rfl := sj h
   refine Am (sm [] [(4, iD ((-1)))] [] rfl rfl) (AA ?_)
   exact ⟨⟨[_], ⟨.tmp _ _ rfl, tv⟩, rfl⟩, tv⟩
 ·have h := Ao c3 h
  refine Aq (Ab (Ab (Aa Ac rfl (qm rfl (Ae ?_)))))
  refine Ap rfl (fun c5 => ?_) (fun c5 => ?_)
  ·have h := An c5 h
   refine Ab (Aa Ac rfl (qa rfl (Ae ?_)))
   obtain rfl := sj h
   refine Am (sm [] [(4, iD 1)] [] rfl rfl) (AA ?_)
   exact ⟨⟨[_], ⟨.tmp _ _ rfl, tv⟩, rfl⟩, tv⟩
  ·have h := Ao c5 h
   refine Aq (Ab (Ab (Aa Ac rfl (qm rfl (qm rfl (AY rfl (Ae ?_)))))))
   refine Ap rfl (fun c6 => ?_) (fun c6 => ?_)
   ·have h := An c6 h
    refine Ab (Aa Ac rfl (qa rfl (Ae ?_)))
    obtain rfl := sj h
    refine Am (sm [] [(4, iD ((-1)))] [] rfl rfl) (AA ?_)
    exact ⟨⟨[_], ⟨.tmp _ _ rfl, tv⟩, rfl⟩, tv⟩
   ·have h := Ao c6 h
    refine Aq (Ab (Ab (Aa Ac rfl (qm rfl (qm rfl (DC rfl (Ae ?_)))))))
    refine Ap rfl (fun c7 => ?_) (fun c7 => ?_)
    ·have h := An c7 h
     refine Ab (Aa Ac rfl (qa rfl (Ae ?_)))
     obtain rfl := sj h
     refine Am (sm [] [(4, iD 1)] [] rfl rfl) (AA ?_)
     exact ⟨⟨[_], ⟨.tmp _ _ rfl, tv⟩, rfl⟩, tv⟩
    ·have h := Ao c7 h
     refine Aq (Ab (Aa Ac rfl (qa rfl (Ae ?_))))
     obtain rfl := sj h
     refine Am (sm [] [(4, iD 0)] [] rfl rfl) (AA ?_)
     exact ⟨⟨[_], ⟨.tmp _ _ rfl, tv⟩, rfl⟩, tv⟩
theorem GW (N : Nat) (p0 : List Int) (p1 : List Int) (r : Int) (h : Eb N p0 p1 = some r) : AD Tryz.prog 92 [pD (.sl (p0.map Al)), pD (.sl (p1.map Al))] [] (iD r) := by
 unfold Eb at h
 refine Au (n := 36) (rs := [.tmp 4]) Tryz.func92 rfl rfl rfl (A5 rfl) (A5 rfl) rfl fun w0 S0 => ?_
 refine Ab (Aa Ac rfl (qa rfl (Ae (Ab (Ab (Aa Ac rfl (qm rfl (AR AN rfl (qm rfl (Ae ?_))))))))))
 refine AE (L := DH N p0 p1) h (fun v1 => mk [(0, pD (.sl (p0.map Al))), (1, pD (.sl (p1.map Al))), (9, pD (.sl (p0.map Al))), (10, iD ((p0.length : Int))), (11, iD v1)] []) (fun v2 => mk [(0, pD (.sl (p0.map Al))), (1, pD (.sl (p1.map Al)))] []) (fun _ _ => rfl) (sm [] _ _ rfl rfl) (fun j1 n1 v1 h => ?_) (fun v2 s h hs => ?_)
 ·unfold DH at h
  refine Ab (Aa Ac rfl (AY rfl (Ae (Ab ?_))))
  refine Ap rfl (fun c3 => ?_) (fun c3 => ?_)
  ·have h := An c3 h
   refine Aq (Ab (AJ (Ab (Aa Ac rfl (qm rfl ?_)))))
   obtain ⟨v4, a4, b4, h⟩ := Ak h
   refine qi AN DJ a4 (Af b4) rfl (qk Cz rfl (qa rfl (qa rfl (Ae (Ab (Ab (Aa Ac rfl (qm rfl (qm rfl (AR AN rfl (Cv rfl (Ae ?_))))))))))))
   refine Ap rfl (fun c5 => ?_) (fun c5 => ?_)
   ·have h := An c5 h
    refine Ab (Aa Ac rfl (qa rfl (Ae ?_)))
    obtain rfl := sj h
    refine Am (sm [] [(4, iD 1)] [] rfl rfl) (AA ?_)
    exact ⟨⟨[_], ⟨.tmp _ _ rfl, tv⟩, rfl⟩, tv⟩
   ·have h := Ao c5 h
    refine Aq (Ab (Aa Ac rfl (qm rfl (qm rfl ?_))))
    obtain ⟨v6, a6, b6, h⟩ := Ak h
    refine qi AN DJ a6 (Af b6) rfl (qk Cz rfl (qa rfl (Ae (Ab (Aa Ac rfl (qm rfl (qm rfl ?_)))))))
    obtain ⟨v7, a7, h⟩ := bind_some h
    refine AG [] (Gi N v4 v6 v7 a7) Vf rfl (qa rfl (Ae (Ab (Aa Ac rfl (qm rfl (BP rfl (Ae ?_)))))))
    refine Ap rfl (fun c8 => ?_) (fun c8 => ?_)
    ·have h := An c8 h
     refine Ab (Aa Ac rfl (qm rfl (qa rfl (Ae ?_))))
     obtain rfl := sj h
     refine Am (sm [] [(4, iD v7)] [] rfl rfl) (AA ?_)
     exact ⟨⟨[_], ⟨.tmp _ _ rfl, tv⟩, rfl⟩, tv⟩
    ·have h := Ao c8 h
     refine Aq (Aa Ac rfl (AP rfl (qm rfl (Ae ?_))))
     exact As _ h (sm [] _ _ rfl rfl)
  ·have h := Ao c3 h
   refine AQ ?_
   exact As _ h (sm [] _ _ rfl rfl)
 ·refine Am hs (Ab (Ab (Aa Ac rfl (qm rfl (AR AN rfl (qm rfl (AR AN rfl (AY rfl (Ae ?_)))))))))
  refine Ap rfl (fun c9 => ?_) (fun c9 => ?_)
  ·have h := An c9 h
   refine Ab (Aa Ac rfl (qa rfl (Ae ?_)))
   obtain rfl := sj h
   refine Am (sm [] [(4, iD ((-1)))] [] rfl rfl) (AA ?_)
   exact ⟨⟨[_], ⟨.tmp _ _ rfl, tv⟩, rfl⟩, tv⟩
  ·have h := Ao c9 h
   refine Aq (Ab (Aa Ac rfl (qa rfl (Ae ?_))))
   obtain rfl := sj h
   refine Am (sm [] [(4, iD 0)] [] rfl rfl) (AA ?_)
   exact ⟨⟨[_], ⟨.tmp _ _ rfl, tv⟩, rfl⟩, tv⟩
theorem In (N : Nat) (p0 : Int) (r : Bool) (h : Fg N p0 = some r) : AD Tryz.prog 155 [pD (.val (.int .u8 p0))] [] (bD r) := by
 unfold Fg at h
 refine Au (n := 6) (rs := [.tmp 2]) Tryz.func155 rfl rfl rfl (A5 rfl) (A5 rfl) rfl fun w0 S0 => ?_
 refine Ab (Aa Ac rfl (qa rfl (Ae (Ab (Aa Ac rfl (qm rfl (qm rfl (BP rfl (qa rfl (Ae ?_))))))))))
 obtain rfl := sj h
 refine Am (sm [] [(2, bD ((p0 != p0)))] [] rfl rfl) (AA ?_)
 exact ⟨⟨[_], ⟨.tmp _ _ rfl, tv⟩, rfl⟩, tv⟩
theorem Ka (N : Nat) (p0 : Int) (p1 : Int) (r : Int) (h : FM N p0 p1 = some r) : AD Tryz.prog 121 [pD (.val (.int .u8 p0)), pD (.val (.int .u8 p1))] [] (iD r) := by
 unfold FM at h
 refine Au (n := 20) (rs := [.tmp 4]) Tryz.func121 rfl rfl rfl (A5 rfl) (A5 rfl) rfl fun w0 S0 => ?_
 refine Ab (Aa Ac rfl (qa rfl (Ae (Ab (Aa Ac rfl (qm rfl ?_))))))
 obtain ⟨v1, a1, h⟩ := bind_some h
 refine AG [] (In N p0 v1 a1) Wv rfl (qa rfl (Ae (Ab (Aa Ac rfl (qm rfl ?_)))))
 obtain ⟨v2, a2, h⟩ := bind_some h
 refine AG [] (In N p1 v2 a2) Wv rfl (qa rfl (Ae (Ab (Ab (Aa Ac rfl (qm rfl (Ae ?_)))))))
 refine Ap rfl (fun c3 => ?_) (fun c3 => ?_)
 ·have h := An c3 h
  refine Ab (Ab (Aa Ac rfl (qm rfl (Ae ?_))))
  refine Ap rfl (fun c4 => ?_) (fun c4 => ?_)
  ·have h := An c4 h
   refine Ab (Aa Ac rfl (qa rfl (Ae ?_)))
   obtain rfl := sj h
   refine Am (sm [] [(4, iD 0)] [] rfl rfl) (AA ?_)
   exact ⟨⟨[_], ⟨.tmp _ _ rfl, tv⟩, rfl⟩, tv⟩
  ·have h := Ao c4 h
   refine Aq (Ab (Aa Ac rfl (qa rfl (Ae ?_))))
   obtain rfl := sj h
   refine Am (sm [] [(4, iD ((-1)))] [] rfl rfl) (AA ?_)
   exact ⟨⟨[_], ⟨.tmp _ _ rfl, tv⟩, rfl⟩, tv⟩
 ·have h := Ao c3 h
  refine Aq (Ab (Ab (Aa Ac rfl (qm rfl (Ae ?_)))))
  refine Ap rfl (fun c5 => ?_) (fun c5 => ?_)
  ·have h := An c5 h
   refine Ab (Aa Ac rfl (qa rfl (Ae ?_)))
   obtain rfl := sj h
   refine Am (sm [] [(4, iD 1)] [] rfl rfl) (AA ?_)
   exact ⟨⟨[_], ⟨.tmp _ _ rfl, tv⟩, rfl⟩, tv⟩
  ·have h := Ao c5 h
   refine Aq (Ab (Ab (Aa Ac rfl (qm rfl (qm rfl (AY rfl (Ae ?_)))))))
   refine Ap rfl (fun c6 => ?_) (fun c6 => ?_)
   ·have h := An c6 h
    refine Ab (Aa Ac rfl (qa rfl (Ae ?_)))
    obtain rfl := sj h
    refine Am (sm [] [(4, iD ((-1)))] [] rfl rfl) (AA ?_)
    exact ⟨⟨[_], ⟨.tmp _ _ rfl, tv⟩, rfl⟩, tv⟩
   ·have h := Ao c6 h
    refine Aq (Ab (Ab (Aa Ac rfl (qm rfl (qm rfl (DC rfl (Ae ?_)))))))
    refine Ap rfl (fun c7 => ?_) (fun c7 => ?_)
    ·have h := An c7 h
     refine Ab (Aa Ac rfl (qa rfl (Ae ?_)))
     obtain rfl := sj h
     refine Am (sm [] [(4, iD 1)] [] rfl rfl) (AA ?_)
     exact ⟨⟨[_], ⟨.tmp _ _ rfl, tv⟩, rfl⟩, tv⟩
    ·have h := Ao c7 h
     refine Aq (Ab (Aa Ac rfl (qa rfl (Ae ?_))))
     obtain rfl := sj h
     refine Am (sm [] [(4, iD 0)] [] rfl rfl) (AA ?_)
     exact ⟨⟨[_], ⟨.tmp _ _ rfl, tv⟩, rfl⟩, tv⟩
theorem HJ (N : Nat) (p0 : List Int) (p1 : List Int) (r : Int) (h : DX N p0 p1 = some r) : AD Tryz.prog 93 [pD (.sl (p0.map Bw)), pD (.sl (p1.map Bw))] [] (iD r) := by
 unfold DX at h
 refine Au (n := 36) (rs := [.tmp 4]) Tryz.func93 rfl rfl rfl (A5 rfl) (A5 rfl) rfl fun w0 S0 => ?_
 refine Ab (Aa Ac rfl (qa rfl (Ae (Ab (Ab (Aa Ac rfl (qm rfl (AR Dj rfl (qm rfl (Ae ?_))))))))))
 refine AE (L := CJ N p0 p1) h (fun v1 => mk [(0, pD (.sl (p0.map Bw))), (1, pD (.sl (p1.map Bw))), (9, pD (.sl (p0.map Bw))), (10, iD ((p0.length : Int))), (11, iD v1)] []) (fun v2 => mk [(0, pD (.sl (p0.map Bw))), (1, pD (.sl (p1.map Bw)))] []) (fun _ _ => rfl) (sm [] _ _ rfl rfl) (fun j1 n1 v1 h => ?_) (fun v2 s h hs => ?_)
 ·unfold CJ at h
  refine Ab (Aa Ac rfl (AY rfl (Ae (Ab ?_))))
  refine Ap rfl (fun c3 => ?_) (fun c3 => ?_)
  ·have h := An c3 h
   refine Aq (Ab (AJ (Ab (Aa Ac rfl (qm rfl ?_)))))
   obtain ⟨v4, a4, b4, h⟩ := Ak h
   refine qi Dj FW a4 (Af b4) rfl (qk JZ rfl (qa rfl (qa rfl (Ae (Ab (Ab (Aa Ac rfl (qm rfl (qm rfl (AR Dj rfl (Cv rfl (Ae ?_))))))))))))
   refine Ap rfl (fun c5 => ?_) (fun c5 => ?_)
   ·have h := An c5 h
    refine Ab (Aa Ac rfl (qa rfl (Ae ?_)))
    obtain rfl := sj h
    refine Am (sm [] [(4, iD 1)] [] rfl rfl) (AA ?_)
    exact ⟨⟨[_], ⟨.tmp _ _ rfl, tv⟩, rfl⟩, tv⟩
   ·have h := Ao c5 h
    refine Aq (Ab (Aa Ac rfl (qm rfl (qm rfl ?_))))
    obtain ⟨v6, a6, b6, h⟩ := Ak h
    refine qi Dj FW a6 (Af b6) rfl (qk JZ rfl (qa rfl (Ae (Ab (Aa Ac rfl (qm rfl (qm rfl ?_)))))))
    obtain ⟨v7, a7, h⟩ := bind_some h
    refine AG [] (Ka N v4 v6 v7 a7) X6 rfl (qa rfl (Ae (Ab (Aa Ac rfl (qm rfl (BP rfl (Ae ?_)))))))
    refine Ap rfl (fun c8 => ?_) (fun c8 => ?_)
    ·have h := An c8 h
     refine Ab (Aa Ac rfl (qm rfl (qa rfl (Ae ?_))))
     obtain rfl := sj h
     refine Am (sm [] [(4, iD v7)] [] rfl rfl) (AA ?_)
     exact ⟨⟨[_], ⟨.tmp _ _ rfl, tv⟩, rfl⟩, tv⟩
    ·have h := Ao c8 h
     refine Aq (Aa Ac rfl (AP rfl (qm rfl (Ae ?_))))
     exact As _ h (sm [] _ _ rfl rfl)
  ·have h := Ao c3 h
   refine AQ ?_
   exact As _ h (sm [] _ _ rfl rfl)
 ·refine Am hs (Ab (Ab (Aa Ac rfl (qm rfl (AR Dj rfl (qm rfl (AR Dj rfl (AY rfl (Ae ?_)))))))))
  refine Ap rfl (fun c9 => ?_) (fun c9 => ?_)
  ·have h := An c9 h
   refine Ab (Aa Ac rfl (qa rfl (Ae ?_)))
   obtain rfl := sj h
   refine Am (sm [] [(4, iD ((-1)))] [] rfl rfl) (AA ?_)
   exact ⟨⟨[_], ⟨.tmp _ _ rfl, tv⟩, rfl⟩, tv⟩
  ·have h := Ao c9 h
   refine Aq (Ab (Aa Ac rfl (qa rfl (Ae ?_))))
   obtain rfl := sj h
   refine Am (sm [] [(4, iD 0)] [] rfl rfl) (AA ?_)
   exact ⟨⟨[_], ⟨.tmp _ _ rfl, tv⟩, rfl⟩, tv⟩
theorem Lz (N : Nat) (p0 : List Int) (r : Int) (h : F2 N p0 = some r) : AD Tryz.prog 61 [pD (.sl (p0.map Al))] [] (iD r) := by
 unfold F2 at h
 refine Au (n := 18) (rs := [.tmp 2]) Tryz.func61 rfl rfl rfl (A5 rfl) (A5 rfl) rfl fun w0 S0 => ?_
 refine Ab (Aa Ac rfl (qa rfl (Ae (Ab (Aa Ac rfl (qa rfl (Ae (Ab (Ab (Aa Ac rfl (qm rfl (AR AN rfl (qm rfl (Ae ?_))))))))))))))
 refine AE (L := EV N p0) h (fun v1 => mk [(3, iD 0), (6, pD (.sl (p0.map Al))), (7, iD ((p0.length : Int))), (8, iD v1)] []) (fun v2 => mk [(3, iD 0)] []) (fun _ _ => rfl) (sm [] _ _ rfl rfl) (fun j1 n1 v1 h => ?_) (fun v2 s h hs => ?_)
 ·unfold EV at h
  refine Ab (Aa Ac rfl (AY rfl (Ae (Ab ?_))))
  refine Ap rfl (fun c3 => ?_) (fun c3 => ?_)
  ·have h := An c3 h
   refine Aq (Ab (AJ (Ab (Aa Ac rfl ?_))))
   obtain ⟨v4, a4, b4, h⟩ := Ak h
   refine qi AN DJ a4 (Af b4) rfl (qk Cz rfl (qa rfl (Ae (Ab (Aa Ac rfl (qm rfl (qm rfl (BP rfl (Ae ?_)))))))))
   refine Ap rfl (fun c5 => ?_) (fun c5 => ?_)
   ·have h := An c5 h
    refine Ab (Aa Ac rfl (qm rfl (qa rfl (Ae ?_))))
    obtain rfl := sj h
    refine Am (sm [] [(2, iD v4)] [] rfl rfl) (AA ?_)
    exact ⟨⟨[_], ⟨.tmp _ _ rfl, tv⟩, rfl⟩, tv⟩
   ·have h := Ao c5 h
    refine Aq (Aa Ac rfl (AP rfl (qm rfl (Ae ?_))))
    exact As _ h (sm [] _ _ rfl rfl)
  ·have h := Ao c3 h
   refine AQ ?_
   exact As _ h (sm [] _ _ rfl rfl)
 ·refine Am hs (Ab (Aa Ac rfl (qm rfl (qa rfl (Ae ?_)))))
  obtain rfl := sj h
  refine Am (sm [] [(2, iD 0)] [] rfl rfl) (AA ?_)
  exact ⟨⟨[_], ⟨.tmp _ _ rfl, tv⟩, rfl⟩, tv⟩
theorem Jp (N : Nat) (p0 : Ag) (p1 : Ag) (r : Int) (h : E0 N p0 p1 = some r) : AD Tryz.prog 46 [.e (.agg [sC (p0.fBase.map Al), sC (p0.fNext.map Al), sC (p0.fHeld.map Bw)]), .e (.agg [sC (p1.fBase.map Al), sC (p1.fNext.map Al), sC (p1.fHeld.map Bw)])] [] (iD r) := by
 unfold E0 at h
 refine Au (n := 22) (rs := [.tmp 4]) Tryz.func46 rfl rfl rfl (A5 rfl) (A5 rfl) rfl fun w0 S0 => ?_
 refine Ab (Aa Ac rfl (qb rfl (qb rfl (qa rfl (Ae (Ab (Aa Ac rfl (qf CO rfl (ql Bs rfl (qf CO rfl (ql Bs rfl ?_)))))))))))
 obtain ⟨v1, a1, h⟩ := bind_some h
 refine AG [] (GW N p0.fBase p1.fBase v1 a1) YA rfl (qf BK rfl (ql Bs rfl (qf BK rfl (ql Bs rfl ?_))))
 obtain ⟨v2, a2, h⟩ := bind_some h
 refine AG [] (GW N p0.fNext p1.fNext v2 a2) YA rfl (qf CM rfl (ql G5 rfl (qf CM rfl (ql G5 rfl ?_))))
 obtain ⟨v3, a3, h⟩ := bind_some h
 refine AG [] (HJ N p0.fHeld p1.fHeld v3 a3) Zv rfl (EX AN DJ Mt rfl ?_)
 obtain ⟨v4, a4, h⟩ := bind_some h
 refine DI [] [20] (Lz N (([v1, v2, v3] : List Int)) v4 a4) YP Cr rfl (qa rfl (AC (by kernel_rfl) ?_))
 obtain rfl := sj h
 refine Am (sm [] [(4, iD v4)] [] rfl rfl) (AA ?_)
 exact ⟨⟨[_], ⟨.tmp _ _ rfl, tv⟩, rfl⟩, tv⟩
theorem NO (N : Nat) (p0 : Aj) (r : (List Ag) × Int) (h : FX N p0 = some r) : AD Tryz.prog 40 [.e (.agg [sC (p0.fVersions.map Al), sC (p0.fNow.map Al), sC (p0.fTarget.map Al), sC (p0.fTables.map Ar)])] [(3, r.1.map Ai)] (.tup [.one (.own 0), .one (iC r.2)]) := by
 unfold FX at h
 refine Au (n := 73) (rs := [.tmp 2, .tmp 3]) Tryz.func40 rfl rfl rfl (A5 rfl) (A5 rfl) rfl fun w0 S0 => ?_
 refine Ab (Aa Ac rfl (qb rfl (qa rfl (qa rfl (Ae (Ab (Aa Ac rfl (qL Di Da rfl ?_))))))))
 obtain ⟨v1, a1, h⟩ := bind_some h
 refine AG [2001, 2002, 2003] (Ov N p0 v1 a1) Zo rfl (qm rfl (qx rfl (qx rfl (qx rfl (qz Cs rfl (qs Az rfl (qa rfl (qa rfl (Ae (Ab ?_))))))))))
 refine AL h (fun v2 => mk [(1, oD (.ptr 1 0)), (4, oD (.ptr 4 0)), (6, iD v1.2.2), (25, bD v2)] [(1, .box [sC (p0.fVersions.map Al), sC (p0.fNow.map Al), sC (p0.fTarget.map Al), sC (p0.fTables.map Ar)]), (4, .box [.own 2004, .own 2005, .own 2006]), (2004, .vec 1 (v1.1.fBase.map Al)), (2005, .vec 1 (v1.1.fNext.map Al)), (2006, .vec 1 (v1.1.fHeld.map Bw))]) (fun j2 h => ?_) (fun v2 h => ?_)
 ·refine Aa Ac rfl (qm rfl (BP rfl (qm rfl ?_)))
  refine AB (t := 22) rfl (fun c3 => ?_) (fun c3 => ?_)
  ·have h := An c3 h
   refine qn rfl (qn rfl (qp rfl (Ae ?_)))
   exact As _ h (sm [(2004, 2001), (2005, 2002), (2006, 2003)] _ _ rfl rfl)
  ·have h := Ao c3 h
   refine qm rfl (BS rfl (qp rfl (Ae ?_)))
   exact As _ h (sm [(2004, 2001), (2005, 2002), (2006, 2003)] _ _ rfl rfl)
 ·refine Ap rfl (fun c4 => ?_) (fun c4 => ?_)
  ·have h := An c4 h
   refine Ab (Aa Ac rfl (qm rfl (qa rfl (qa rfl (Ae ?_)))))
   obtain rfl := sj h
   refine Am ((BB 2 2007 3 rfl rfl rfl).trans (sm [(1000, 2007)] [(2, oD (.own 1000)), (3, iD v1.2.2)] [(1000, .vec 3 ((([] : List Ag)).map Ai))] rfl rfl)) (AA ?_)
   exact ⟨⟨[_, _], ⟨.tmp _ _ rfl, ⟨.tmp _ _ rfl, tv⟩⟩, rfl⟩, ⟨rfl, tv⟩⟩
  ·have h := Ao c4 h
   refine Aq (Ab (Aa Ac rfl (qL A4 Az rfl (EM (BR 2004 _ _ rfl rfl) (EM (BR 2005 _ _ rfl rfl) (EM (BR 2006 _ _ rfl rfl) (EX A0 Az Cs rfl (qa rfl (Ae (Ab (Aa Ac rfl ?_)))))))))))
   refine SK (.p rfl) rfl ?_
   refine qL A4 Az rfl ?_
   obtain ⟨v5, a5, h⟩ := bind_some h
   refine AG [] (Ku N v1.1 v5 a5) W6 rfl ?_
   refine QZ (kv := Value.string) (vt := tB) (m := ([] : List (ByteArray × Bool))) (k := v5) (v := true) rfl (.inr rfl) rfl rfl rfl rfl (Mi PH WN) rfl ?_
   refine qm rfl (qa rfl (Ae (Ab (Ab (Aa Ac rfl (qa rfl (Ae ?_)))))))
   refine AE (L := FH N p0) h (fun v6 => mk [(1, oD (.ptr 1 0)), (7, oD (.own 2008)), (8, oD (.mref 2009)), (9, iD v6.2.2)] [(1, .box [sC (p0.fVersions.map Al), sC (p0.fNow.map Al), sC (p0.fTarget.map Al), sC (p0.fTables.map Ar)]), (2008, .vec 3 (v6.1.map Ai)), (2009, .mp (Jx Value.string tB v6.2.1))]) (fun v7 => mk [(7, oD (.own 2010))] [(2010, .vec 3 (v7.map Ai))]) (fun _ _ => rfl) (sm [(2008, 28), (2009, 29)] _ _ rfl rfl) (fun j6 n6 v6 h => ?_) (fun v7 s h hs => ?_)
   ·unfold FH at h
    refine Ab (Ab (Aa Ac rfl (qm rfl (qm rfl (EP A0 rfl (AY rfl (Ae ?_)))))))
    refine Ap rfl (fun c8 => ?_) (fun c8 => ?_)
    ·have h := An c8 h
     refine Aq (Ab (AJ (Ab (Aa Ac rfl (qL Di Da rfl (qm rfl (qm rfl ?_)))))))
     obtain ⟨v9, a9, b9, h⟩ := Ak h
     refine qI A0 Az a9 (Af b9) rfl (qJ A4 Az (Af b9) rfl ?_)
     obtain ⟨v10, a10, h⟩ := bind_some h
     refine AG [2011, 2012] (PR N p0 v9 v10 a10) Y4 rfl (qm rfl (qx rfl (qx rfl (qa rfl (qa rfl (AC (by kernel_rfl) (Ab (Ab (Aa Ac rfl (qm rfl (EP A0 rfl (qm rfl (Ae ?_)))))))))))))
     refine AE (L := Fs N v10) h (fun v11 => mk [(1, oD (.ptr 1 0)), (7, oD (.own 2013)), (8, oD (.mref 2014)), (9, iD v6.2.2), (48, oD (.own 2015)), (49, iD ((v10.2.length : Int))), (50, iD v11.2.2)] [(1, .box [sC (p0.fVersions.map Al), sC (p0.fNow.map Al), sC (p0.fTarget.map Al), sC (p0.fTables.map Ar)]), (2013, .vec 3 (v11.1.map Ai)), (2014, .mp (Jx Value.string tB v11.2.1)), (2015, .vec 3 (v10.2.map Ai))]) (fun v12 => mk [(1, oD (.ptr 1 0)), (7, oD (.own 2016)), (8, oD (.mref 2017)), (9, iD v6.2.2)] [(1, .box [sC (p0.fVersions.map Al), sC (p0.fNow.map Al), sC (p0.fTarget.map Al), sC (p0.fTables.map Ar)]), (2016, .vec 3 (v12.1.map Ai)), (2017, .mp (Jx Value.string tB v12.2))]) (fun _ _ => rfl) (sm [(2013, 2008), (2014, 2009), (2015, 2012)] _ _ rfl rfl) (fun j11 n11 v11 h => ?_) (fun v12 s h hs => ?_)
     ·unfold Fs at h
      refine Ab (Aa Ac rfl (AY rfl (Ae (Ab ?_))))
      refine Ap rfl (fun c13 => ?_) (fun c13 => ?_)
      ·have h := An c13 h
       refine Aq ?_
       refine AL h (fun v14 => mk [(1, oD (.ptr 1 0)), (7, oD (.own 2018)), (8, oD (.mref 2019)), (9, iD v6.2.2), (48, oD (.own 2020)), (49, iD ((v10.2.length : Int))), (50, iD v11.2.2)] [(1, .box [sC (p0.fVersions.map Al), sC (p0.fNow.map Al), sC (p0.fTarget.map Al), sC (p0.fTables.map Ar)]), (2018, .vec 3 (v14.1.map Ai)), (2019, .mp (Jx Value.string tB v14.2)), (2020, .vec 3 (v10.2.map Ai))]) (fun j14 h => ?_) (fun v14 h => ?_)
       ·refine AJ (Ab (Aa Ac rfl ?_))
        obtain ⟨v15, a15, b15, h⟩ := Ak h
        refine qI A0 Az a15 (Af b15) rfl (qJ A4 Az (Af b15) rfl (qz Cs rfl (qs Az rfl (Ae (Ab (Aa Ac rfl (qm rfl (qL A4 Az rfl ?_))))))))
        obtain ⟨v16, a16, h⟩ := bind_some h
        refine AG [] (Ku N v15 v16 a16) W6 rfl ?_
        refine Ux (kv := Value.string) (vt := tB) (m := v11.2.1) (dv := false) (.p rfl) rfl rfl rfl (Mi PH WN) (by rw [PH]; rfl) Za rfl rfl rfl ?_
        refine BS rfl (Ae ?_)
        refine Ap rfl (fun c17 => ?_) (fun c17 => ?_)
        ·have h := An c17 h
         refine Ab (Aa Ac rfl (qm rfl (qL A4 Az rfl ?_)))
         obtain ⟨v18, a18, h⟩ := bind_some h
         refine AG [] (Ku N v15 v18 a18) W6 rfl ?_
         refine QZ (kv := Value.string) (vt := tB) (m := v11.2.1) (k := v18) (v := true) rfl (.inl rfl) rfl rfl rfl rfl (Mi PH WN) rfl ?_
         refine Ae (Aa Ac rfl (qm rfl (qL A4 Az rfl (EX A0 Az Cs rfl ?_))))
         obtain ⟨c19, h⟩ := Ba h
         refine Fb (f := Ai) A0 A0 Az SD Cs c19 rfl (qa rfl (Ae ?_))
         exact As _ h (sm [(2018, 65), (2019, 2014), (2020, 2015)] _ _ rfl rfl)
        ·have h := Ao c17 h
         refine Aq ?_
         exact As _ h (sm [(2018, 2013), (2019, 2014), (2020, 2015)] _ _ rfl rfl)
       ·refine Aa Ac rfl (AP rfl (qm rfl (Ae ?_)))
        exact As _ h (sm [(2013, 2018), (2014, 2019), (2015, 2020)] _ _ rfl rfl)
      ·have h := Ao c13 h
       refine AQ ?_
       exact As _ h (sm [(2016, 2013), (2017, 2014)] _ _ rfl rfl)
     ·refine Am hs (Ab (Aa Ac rfl (qm rfl (EP A0 rfl (DC rfl (Ae ?_))))))
      refine Ap rfl (fun c20 => ?_) (fun c20 => ?_)
      ·have h := An c20 h
       refine Ab (Aa Ac rfl (qa rfl (qa rfl (Ae ?_))))
       obtain rfl := sj h
       refine Am ((BB 2 2021 3 rfl rfl rfl).trans (sm [(1000, 2021)] [(2, oD (.own 1000)), (3, iD 3)] [(1000, .vec 3 ((([] : List Ag)).map Ai))] rfl rfl)) (AA ?_)
       exact ⟨⟨[_, _], ⟨.tmp _ _ rfl, ⟨.tmp _ _ rfl, tv⟩⟩, rfl⟩, ⟨rfl, tv⟩⟩
      ·have h := Ao c20 h
       refine Aq (Aa Ac rfl (qm rfl (AP rfl (qa rfl (Ae ?_)))))
       exact As _ h (sm [(2008, 2016), (2009, 2017)] _ _ rfl rfl)
    ·have h := Ao c8 h
     refine AQ ?_
     exact As _ h (sm [(2010, 2008)] _ _ rfl rfl)
   ·refine Am hs (Ab (Aa Ac rfl (qm rfl ?_)))
    obtain ⟨v21, a21, h⟩ := bind_some h
    refine BD (ds0 := [_, _]) [2010] [] [true] (Bh.weak (ds' := [_, oD (.fnc 46)]) (Hq N v7 ((fun (x : Ag × Ag) => E0 N x.1 x.2)) v21 a21) ⟨(fun _ _ _ hh => hh), (fun _ _ _ hh => Rc WT (fun ar t ht => by obtain ⟨x, r, rfl, hq, rfl⟩ := Hl ht; exact Jp N x.1 x.2 r hq) hh), tv⟩) (.p rfl) Zf rfl ⟨rfl, rfl, tv⟩ rfl rfl (by decide) ⟨rfl, tv⟩ rfl (A1 rfl) tv ⟨(fun h => by cases h), tv⟩ rfl rfl rfl ?_
    refine Ae (Ab (Aa Ac rfl (qm rfl (qa rfl (qa rfl (Ae ?_))))))
    obtain rfl := sj h
    refine Am (sm [(1000, 2010)] [(2, oD (.own 1000)), (3, iD 0)] [(1000, .vec 3 (v21.map Ai))] rfl rfl) (AA ?_)
    exact ⟨⟨[_, _], ⟨.tmp _ _ rfl, ⟨.tmp _ _ rfl, tv⟩⟩, rfl⟩, ⟨rfl, tv⟩⟩
theorem JV (N : Nat) (p0 : List Int) (p1 : List Int) (r : Bool) (h : Fv N p0 p1 = some r) : AD Tryz.prog 87 [pD (.sl (p0.map Al)), pD (.sl (p1.map Al))] [] (bD r) := by
 unfold Fv at h
 refine Au (n := 26) (rs := [.tmp 4]) Tryz.func87 rfl rfl rfl (A5 rfl) (A5 rfl) rfl fun w0 S0 => ?_
 refine Ab (Aa Ac rfl (qa rfl (Ae (Ab (Ab (Aa Ac rfl (qm rfl (AR AN rfl (qm rfl (AR AN rfl (BP rfl (Ae ?_))))))))))))
 refine Ap rfl (fun c1 => ?_) (fun c1 => ?_)
 ·have h := An c1 h
  refine Ab (Aa Ac rfl (qa rfl (Ae ?_)))
  obtain rfl := sj h
  refine Am (sm [] [(4, bD false)] [] rfl rfl) (AA ?_)
  exact ⟨⟨[_], ⟨.tmp _ _ rfl, tv⟩, rfl⟩, tv⟩
 ·have h := Ao c1 h
  refine Aq (Ab (Ab (Aa Ac rfl (qm rfl (AR AN rfl (qm rfl (Ae ?_)))))))
  refine AE (L := D5 N p0 p1) h (fun v2 => mk [(0, pD (.sl (p0.map Al))), (1, pD (.sl (p1.map Al))), (12, iD ((p0.length : Int))), (13, iD v2)] []) (fun v3 => mk [] []) (fun _ _ => rfl) (sm [] _ _ rfl rfl) (fun j2 n2 v2 h => ?_) (fun v3 s h hs => ?_)
  ·unfold D5 at h
   refine Ab (Aa Ac rfl (AY rfl (Ae (Ab ?_))))
   refine Ap rfl (fun c4 => ?_) (fun c4 => ?_)
   ·have h := An c4 h
    refine Aq (Ab (AJ (Ab (Aa Ac rfl (qm rfl (qa rfl (Ae (Ab (Aa Ac rfl (qm rfl (qm rfl ?_)))))))))))
    obtain ⟨v5, a5, b5, h⟩ := Ak h
    refine qi AN DJ a5 (Af b5) rfl (qk Cz rfl (qm rfl (qm rfl ?_)))
    obtain ⟨v6, a6, b6, h⟩ := Ak h
    refine qi AN DJ a6 (Af b6) rfl (qk Cz rfl (BP rfl (AC (by kernel_rfl) ?_)))
    refine Ap rfl (fun c7 => ?_) (fun c7 => ?_)
    ·have h := An c7 h
     refine Ab (Aa Ac rfl (qa rfl (Ae ?_)))
     obtain rfl := sj h
     refine Am (sm [] [(4, bD false)] [] rfl rfl) (AA ?_)
     exact ⟨⟨[_], ⟨.tmp _ _ rfl, tv⟩, rfl⟩, tv⟩
    ·have h := Ao c7 h
     refine Aq (Aa Ac rfl (AP rfl (qm rfl (Ae ?_))))
     exact As _ h (sm [] _ _ rfl rfl)
   ·have h := Ao c4 h
    refine AQ ?_
    exact As _ h (sm [] _ _ rfl rfl)
  ·refine Am hs (Ab (Aa Ac rfl (qa rfl (Ae ?_))))
   obtain rfl := sj h
   refine Am (sm [] [(4, bD true)] [] rfl rfl) (AA ?_)
   exact ⟨⟨[_], ⟨.tmp _ _ rfl, tv⟩, rfl⟩, tv⟩
theorem I0 (N : Nat) (p0 : List Int) (p1 : Int → Option Bool) (r : Int) (h : ER N p0 p1 = some r) : AD Tryz.prog 119 [pD (.sl (p0.map Al)), oD (.clo (Bb (MQ false Al) tB p1))] [] (iD r) := by
 unfold ER at h
 refine Au (n := 19) (rs := [.tmp 4]) Tryz.func119 rfl rfl rfl (A5 rfl) (A5 rfl) rfl fun w0 S0 => ?_
 refine Ab (Aa Ac rfl (qa rfl (Ae (Ab (Ab (Aa Ac rfl (qm rfl (AR AN rfl (qm rfl (Ae ?_))))))))))
 refine AE (L := Dp N p0 p1) h (fun v1 => mk [(0, pD (.sl (p0.map Al))), (1, oD (.clo (Bb (MQ false Al) tB p1))), (7, iD ((p0.length : Int))), (8, iD v1)] []) (fun v2 => mk [] []) (fun _ _ => rfl) (sm [] _ _ rfl rfl) (fun j1 n1 v1 h => ?_) (fun v2 s h hs => ?_)
 ·unfold Dp at h
  refine Ab (Aa Ac rfl (AY rfl (Ae (Ab ?_))))
  refine Ap rfl (fun c3 => ?_) (fun c3 => ?_)
  ·have h := An c3 h
   refine Aq (Ab (AJ (Ab (Aa Ac rfl (qm rfl (qa rfl (Ae (Ab (Aa Ac rfl (qm rfl (qm rfl (qm rfl ?_))))))))))))
   obtain ⟨v4, a4, b4, h⟩ := Ak h
   refine qi AN DJ a4 (Af b4) rfl (qk Cz rfl ?_)
   obtain ⟨v5, a5, h⟩ := bind_some h
   refine Cx (ds0 := [_]) (ar := (MQ false Al) v4) (.p rfl) rfl rfl ⟨rfl, tv⟩ rfl rfl rfl (Cw (LE _ _ Rl) a5) ?_
   refine Ae ?_
   refine Ap rfl (fun c6 => ?_) (fun c6 => ?_)
   ·have h := An c6 h
    refine Ab (Aa Ac rfl (qm rfl (qa rfl (Ae ?_))))
    obtain rfl := sj h
    refine Am (sm [] [(4, iD v1)] [] rfl rfl) (AA ?_)
    exact ⟨⟨[_], ⟨.tmp _ _ rfl, tv⟩, rfl⟩, tv⟩
   ·have h := Ao c6 h
    refine Aq (Aa Ac rfl (AP rfl (qm rfl (Ae ?_))))
    exact As _ h (sm [] _ _ rfl rfl)
  ·have h := Ao c3 h
   refine AQ ?_
   exact As _ h (sm [] _ _ rfl rfl)
 ·refine Am hs (Ab (Aa Ac rfl (qa rfl (Ae ?_))))
  obtain rfl := sj h
  refine Am (sm [] [(4, iD ((-1)))] [] rfl rfl) (AA ?_)
  exact ⟨⟨[_], ⟨.tmp _ _ rfl, tv⟩, rfl⟩, tv⟩
theorem Ia (N : Nat) (p0 : List Int) (p1 : Int → Option Bool) (r : Bool) (h : Eg N p0 p1 = some r) : AD Tryz.prog 88 [pD (.sl (p0.map Al)), oD (.clo (Bb (MQ false Al) tB p1))] [] (bD r) := by
 unfold Eg at h
 refine Au (n := 9) (rs := [.tmp 4]) Tryz.func88 rfl rfl rfl (A5 rfl) (A5 rfl) rfl fun w0 S0 => ?_
 refine Ab (Aa Ac rfl (qa rfl (Ae (Ab (Aa Ac rfl (qm rfl (qm rfl ?_)))))))
 obtain ⟨v1, a1, h⟩ := bind_some h
 refine AG [] (I0 N p0 p1 v1 a1) Ye rfl (Cv rfl (qa rfl (Ae ?_)))
 obtain rfl := sj h
 refine Am (sm [] [(4, bD ((decide (0 ≤ v1))))] [] rfl rfl) (AA ?_)
 exact ⟨⟨[_], ⟨.tmp _ _ rfl, tv⟩, rfl⟩, tv⟩
theorem PN (N : Nat) (p0 : Int) (r : Bool) (h : H1 N p0 = some r) : AD Tryz.prog 89 [iD p0] [] (bD r) := by
 unfold H1 at h
 refine Au (n := 5) (rs := [.tmp 2]) Tryz.func89 rfl rfl rfl (A5 rfl) (A5 rfl) rfl fun w0 S0 => ?_
 refine Ab (Aa Ac rfl (qa rfl (Ae (Ab (Aa Ac rfl (qm rfl (Cv rfl (qa rfl (Ae ?_)))))))))
 obtain rfl := sj h
 refine Am (sm [] [(2, bD ((decide (0 ≤ p0))))] [] rfl rfl) (AA ?_)
 exact ⟨⟨[_], ⟨.tmp _ _ rfl, tv⟩, rfl⟩, tv⟩
theorem NN (N : Nat) (p0 : Aj) (p1 : Ag) (r : Bool) (h : Jb N p0 p1 = some r) : AD Tryz.prog 42 [.e (.agg [sC (p0.fVersions.map Al), sC (p0.fNow.map Al), sC (p0.fTarget.map Al), sC (p0.fTables.map Ar)]), .e (.agg [sC (p1.fBase.map Al), sC (p1.fNext.map Al), sC (p1.fHeld.map Bw)])] [] (bD r) := by
 unfold Jb at h
 refine Au (n := 22) (rs := [.tmp 4]) Tryz.func42 rfl rfl rfl (A5 rfl) (A5 rfl) rfl fun w0 S0 => ?_
 refine Ab (Aa Ac rfl (qb rfl (qb rfl (qa rfl (Ae ?_)))))
 refine AL h (fun v1 => mk [(4, bD v1)] []) (fun j1 h => ?_) (fun v1 h => ?_)
 ·refine Aa Ac rfl (qL Di Da rfl (qL A4 Az rfl ?_))
  obtain ⟨v2, a2, h⟩ := bind_some h
  refine AG [] (H8 N p0 p1 v2 a2) Ub rfl (BQ rfl (qm rfl ?_))
  refine AB (t := 9) rfl (fun c3 => ?_) (fun c3 => ?_)
  ·have h := An c3 h
   refine qf CO rfl (ql Bs rfl (qf H3 rfl (ql Bs rfl ?_)))
   obtain ⟨v4, a4, h⟩ := bind_some h
   refine AG [] (JV N p1.fBase p0.fTarget v4 a4) Y3 rfl (qp rfl (qm rfl ?_))
   refine AB (t := 16) rfl (fun c5 => ?_) (fun c5 => ?_)
   ·have h := An c5 h
    refine qf BK rfl (ql Bs rfl ?_)
    obtain ⟨v6, a6, h⟩ := bind_some h
    refine AG [] (AD.weak (ds' := [pD (.sl (p1.fNext.map Al)), oD (.fnc 89)]) (Ia N p1.fNext ((fun (x : Int) => H1 N x)) v6 a6) ⟨(fun _ _ _ hh => hh), (fun _ _ _ hh => M3 Zy (fun ar t ht => by obtain ⟨x, r, rfl, hq, rfl⟩ := Hl ht; exact PN N x r hq) hh), tv⟩) ZH rfl ?_
    refine BS rfl (qp rfl (qa rfl (Ae ?_)))
    exact As _ h (sm [] _ _ rfl rfl)
   ·have h := Ao c5 h
    refine qn rfl (qn rfl (qn rfl (qn rfl (qp rfl (qa rfl (Ae ?_))))))
    exact As _ h (sm [] _ _ rfl rfl)
  ·have h := Ao c3 h
   refine qn rfl (qn rfl (qn rfl (qn rfl (qn rfl (qp rfl (qm rfl (qn rfl (qn rfl (qn rfl (qn rfl (qp rfl (qa rfl (Ae ?_)))))))))))))
   exact As _ h (sm [] _ _ rfl rfl)
 ·obtain rfl := sj h
  refine Am (sm [] [(4, bD v1)] [] rfl rfl) (AA ?_)
  exact ⟨⟨[_], ⟨.tmp _ _ rfl, tv⟩, rfl⟩, tv⟩
theorem Mj (N : Nat) (p0 : Ag) (p1 : List Int) (p2 : List Int) (p3 : List Int) (p4 : List AV) (r : Bool) (h : Fi N p0 p1 p2 p3 p4 = some r) : AD Tryz.prog 41 [.e (.agg [sC (p0.fBase.map Al), sC (p0.fNext.map Al), sC (p0.fHeld.map Bw)]), oD (.rop [.sl (p1.map Al), .sl (p2.map Al), .sl (p3.map Al), .sl (p4.map Ar)])] [] (bD r) := by
 unfold Fi at h
 refine Au (n := 7) (rs := [.tmp 3]) Tryz.func41 rfl rfl rfl (A5 rfl) (A5 rfl) rfl fun w0 S0 => ?_
 refine Ab (Aa Ac rfl (qb rfl (qa rfl (Ae (Ab (Aa Ac rfl (qK Di Da rfl (qL A4 Az rfl ?_))))))))
 obtain ⟨v1, a1, h⟩ := bind_some h
 refine AG [] (NN N ((Aj.mk p1 p2 p3 p4)) p0 v1 a1) X1 rfl (qa rfl (Ae ?_))
 obtain rfl := sj h
 refine Am (sm [] [(3, bD v1)] [] rfl rfl) (AA ?_)
 exact ⟨⟨[_], ⟨.tmp _ _ rfl, tv⟩, rfl⟩, tv⟩
theorem Hi (N : Nat) (p0 : List Ag) (p1 : Ag → Option Bool) (r : Int) (h : CN N p0 p1 = some r) : AD Tryz.prog 75 [pD (.sl (p0.map Ai)), oD (.clo (Bb (MQ true Ai) tB p1))] [] (iD r) := by
 unfold CN at h
 refine Au (n := 19) (rs := [.tmp 4]) Tryz.func75 rfl rfl rfl (A5 rfl) (A5 rfl) rfl fun w0 S0 => ?_
 refine Ab (Aa Ac rfl (qa rfl (Ae (Ab (Ab (Aa Ac rfl (qm rfl (AR A0 rfl (qm rfl (Ae ?_))))))))))
 refine AE (L := Bp N p0 p1) h (fun v1 => mk [(0, pD (.sl (p0.map Ai))), (1, oD (.clo (Bb (MQ true Ai) tB p1))), (7, iD ((p0.length : Int))), (8, iD v1)] []) (fun v2 => mk [] []) (fun _ _ => rfl) (sm [] _ _ rfl rfl) (fun j1 n1 v1 h => ?_) (fun v2 s h hs => ?_)
 ·unfold Bp at h
  refine Ab (Aa Ac rfl (AY rfl (Ae (Ab ?_))))
  refine Ap rfl (fun c3 => ?_) (fun c3 => ?_)
  ·have h := An c3 h
   refine Aq (Ab (AJ (Ab (Aa Ac rfl (qm rfl (qa rfl (Ae (Ab (Aa Ac rfl (qm rfl (qm rfl (qm rfl ?_))))))))))))
   obtain ⟨v4, a4, b4, h⟩ := Ak h
   refine qi A0 Az a4 (Af b4) rfl (qK A4 Az rfl ?_)
   obtain ⟨v5, a5, h⟩ := bind_some h
   refine Cx (ds0 := [_]) (ar := (MQ true Ai) v4) (.p rfl) rfl rfl ⟨rfl, tv⟩ rfl rfl rfl (Cw (LE _ _ BJ) a5) ?_
   refine Ae ?_
   refine Ap rfl (fun c6 => ?_) (fun c6 => ?_)
   ·have h := An c6 h
    refine Ab (Aa Ac rfl (qm rfl (qa rfl (Ae ?_))))
    obtain rfl := sj h
    refine Am (sm [] [(4, iD v1)] [] rfl rfl) (AA ?_)
    exact ⟨⟨[_], ⟨.tmp _ _ rfl, tv⟩, rfl⟩, tv⟩
   ·have h := Ao c6 h
    refine Aq (Aa Ac rfl (AP rfl (qm rfl (Ae ?_))))
    exact As _ h (sm [] _ _ rfl rfl)
  ·have h := Ao c3 h
   refine AQ ?_
   exact As _ h (sm [] _ _ rfl rfl)
 ·refine Am hs (Ab (Aa Ac rfl (qa rfl (Ae ?_))))
  obtain rfl := sj h
  refine Am (sm [] [(4, iD ((-1)))] [] rfl rfl) (AA ?_)
  exact ⟨⟨[_], ⟨.tmp _ _ rfl, tv⟩, rfl⟩, tv⟩
theorem EC (N : Nat) (p0 : List Ag) (p1 : Ag → Option Bool) (r : Bool) (h : Bz N p0 p1 = some r) : AD Tryz.prog 30 [pD (.sl (p0.map Ai)), oD (.clo (Bb (MQ true Ai) tB p1))] [] (bD r) := by
 unfold Bz at h
 refine Au (n := 9) (rs := [.tmp 4]) Tryz.func30 rfl rfl rfl (A5 rfl) (A5 rfl) rfl fun w0 S0 => ?_
 refine Ab (Aa Ac rfl (qa rfl (Ae (Ab (Aa Ac rfl (qm rfl (qm rfl ?_)))))))
 obtain ⟨v1, a1, h⟩ := bind_some h
 refine AG [] (Hi N p0 p1 v1 a1) Y6 rfl (Cv rfl (qa rfl (Ae ?_)))
 obtain rfl := sj h
 refine Am (sm [] [(4, bD ((decide (0 ≤ v1))))] [] rfl rfl) (AA ?_)
 exact ⟨⟨[_], ⟨.tmp _ _ rfl, tv⟩, rfl⟩, tv⟩
theorem Ks (N : Nat) (p0 : Aj) (r : (List Ag) × Int) (h : EI N p0 = some r) : AD Tryz.prog 12 [.e (.agg [sC (p0.fVersions.map Al), sC (p0.fNow.map Al), sC (p0.fTarget.map Al), sC (p0.fTables.map Ar)])] [(3, r.1.map Ai)] (.tup [.one (.own 0), .one (iC r.2)]) := by
 unfold EI at h
 refine Au (n := 18) (rs := [.tmp 2, .tmp 3]) Tryz.func12 rfl rfl rfl (A5 rfl) (A5 rfl) rfl fun w0 S0 => ?_
 refine Ab (Aa Ac rfl (qb rfl (qa rfl (qa rfl (Ae (Ab (Aa Ac rfl (qL Di Da rfl ?_))))))))
 obtain ⟨v1, a1, h⟩ := bind_some h
 refine AG [2001] (NO N p0 v1 a1) Y9 rfl (qm rfl (qx rfl (qx rfl (qa rfl (qa rfl (Ae (Ab (Ab (Aa Ac rfl (qm rfl (BP rfl (Ae ?_))))))))))))
 refine Ap rfl (fun c2 => ?_) (fun c2 => ?_)
 ·have h := An c2 h
  refine Ab (Aa Ac rfl (qm rfl (qa rfl (qa rfl (Ae ?_)))))
  obtain rfl := sj h
  refine Am ((BB 2 2002 3 rfl rfl rfl).trans (sm [(1000, 2002)] [(2, oD (.own 1000)), (3, iD v1.2)] [(1000, .vec 3 ((([] : List Ag)).map Ai))] rfl rfl)) (AA ?_)
  exact ⟨⟨[_, _], ⟨.tmp _ _ rfl, ⟨.tmp _ _ rfl, tv⟩⟩, rfl⟩, ⟨rfl, tv⟩⟩
 ·have h := Ao c2 h
  refine Aq (Ab (Ab (Aa Ac rfl (qm rfl (EM (LC 1 [.sl (p0.fVersions.map Al), .sl (p0.fNow.map Al), .sl (p0.fTarget.map Al), .sl (p0.fTables.map Ar)] rfl rfl) ?_)))))
  refine Lf (capD := [_]) (Bb (MQ true Ai) tB ((fun (x : Ag) => Fi N x p0.fVersions p0.fNow p0.fTarget p0.fTables))) (.p rfl) Zu rfl ⟨rfl, tv⟩ rfl (fun ar t ht => by obtain ⟨x, r, rfl, hq, rfl⟩ := Hl ht; exact Mj N x p0.fVersions p0.fNow p0.fTarget p0.fTables r hq) ?_
  obtain ⟨v3, a3, h⟩ := bind_some h
  refine DI [] [2001] (EC N v1.1 ((fun (x : Ag) => Fi N x p0.fVersions p0.fNow p0.fTarget p0.fTables)) v3 a3) YB Cr rfl (Ae ?_)
  refine Ap rfl (fun c4 => ?_) (fun c4 => ?_)
  ·have h := An c4 h
   refine Ab (Aa Ac rfl (qa rfl (qa rfl (Ae ?_))))
   obtain rfl := sj h
   refine Am ((BB 2 2003 3 rfl rfl rfl).trans (sm [(1000, 2003)] [(2, oD (.own 1000)), (3, iD 15)] [(1000, .vec 3 ((([] : List Ag)).map Ai))] rfl rfl)) (AA ?_)
   exact ⟨⟨[_, _], ⟨.tmp _ _ rfl, ⟨.tmp _ _ rfl, tv⟩⟩, rfl⟩, ⟨rfl, tv⟩⟩
  ·have h := Ao c4 h
   refine Aq (Ab (Aa Ac rfl (qm rfl (qa rfl (qa rfl (Ae ?_))))))
   obtain rfl := sj h
   refine Am (sm [(1000, 2001)] [(2, oD (.own 1000)), (3, iD 0)] [(1000, .vec 3 (v1.1.map Ai))] rfl rfl) (AA ?_)
   exact ⟨⟨[_, _], ⟨.tmp _ _ rfl, ⟨.tmp _ _ rfl, tv⟩⟩, rfl⟩, ⟨rfl, tv⟩⟩
theorem Jy (N : Nat) (p0 : Aj) (p1 : Ag) (r : (List A3) × Int) (h : D0 N p0 p1 = some r) : AD Tryz.prog 18 [.e (.agg [sC (p0.fVersions.map Al), sC (p0.fNow.map Al), sC (p0.fTarget.map Al), sC (p0.fTables.map Ar)]), .e (.agg [sC (p1.fBase.map Al), sC (p1.fNext.map Al), sC (p1.fHeld.map Bw)])] [(9, r.1.map Bx)] (.tup [.one (.own 0), .one (iC r.2)]) := by
 unfold D0 at h
 refine Au (n := 56) (rs := [.tmp 4, .tmp 5]) Tryz.func18 rfl rfl rfl (A5 rfl) (A5 rfl) rfl fun w0 S0 => ?_
 refine Ab (Aa Ac rfl (qb rfl (qb rfl (qa rfl (qa rfl (Ae (Ab (Aa Ac rfl (qL Di Da rfl (qL A4 Az rfl ?_))))))))))
 obtain ⟨v1, a1, h⟩ := bind_some h
 refine AG [2001] (IY N p0 p1 v1 a1) W8 rfl (qm rfl (qx rfl (qx rfl (qa rfl (qa rfl (Ae (Ab (Ab (Aa Ac rfl (qm rfl (BP rfl (Ae ?_))))))))))))
 refine Ap rfl (fun c2 => ?_) (fun c2 => ?_)
 ·have h := An c2 h
  refine Ab (Aa Ac rfl (qm rfl (qa rfl (qa rfl (Ae ?_)))))
  obtain rfl := sj h
  refine Am ((BB 4 2002 9 rfl rfl rfl).trans (sm [(1000, 2002)] [(4, oD (.own 1000)), (5, iD v1.2)] [(1000, .vec 9 ((([] : List A3)).map Bx))] rfl rfl)) (AA ?_)
  exact ⟨⟨[_, _], ⟨.tmp _ _ rfl, ⟨.tmp _ _ rfl, tv⟩⟩, rfl⟩, ⟨rfl, tv⟩⟩
 ·have h := Ao c2 h
  refine Aq (Ab (Aa Ac rfl (qa rfl (Ae (Ab (Ab (Aa Ac rfl (qm rfl (EP EU rfl (qm rfl (Ae ?_)))))))))))
  refine AE (L := CR N p0 p1 v1) h (fun v3 => mk [(2, oD (.ptr 2 0)), (3, oD (.ptr 3 0)), (8, oD (.own 2003)), (25, oD (.own 2004)), (26, iD ((v1.1.length : Int))), (27, iD v3.2)] [(2, .box [sC (p0.fVersions.map Al), sC (p0.fNow.map Al), sC (p0.fTarget.map Al), sC (p0.fTables.map Ar)]), (3, .box [sC (p1.fBase.map Al), sC (p1.fNext.map Al), sC (p1.fHeld.map Bw)]), (2003, .vec 9 (v3.1.map Bx)), (2004, .vec 3 (v1.1.map A2))]) (fun v4 => mk [(8, oD (.own 2005))] [(2005, .vec 9 (v4.map Bx))]) (fun _ _ => rfl) ((BB 8 2011 9 rfl rfl rfl).trans (sm [(2003, 2011), (2004, 2001)] _ _ rfl rfl)) (fun j3 n3 v3 h => ?_) (fun v4 s h hs => ?_)
  ·unfold CR at h
   refine Ab (Aa Ac rfl (AY rfl (Ae (Ab ?_))))
   refine Ap rfl (fun c5 => ?_) (fun c5 => ?_)
   ·have h := An c5 h
    refine Aq ?_
    refine AL h (fun v6 => mk [(2, oD (.ptr 2 0)), (3, oD (.ptr 3 0)), (8, oD (.own 2006)), (25, oD (.own 2007)), (26, iD ((v1.1.length : Int))), (27, iD v3.2)] [(2, .box [sC (p0.fVersions.map Al), sC (p0.fNow.map Al), sC (p0.fTarget.map Al), sC (p0.fTables.map Ar)]), (3, .box [sC (p1.fBase.map Al), sC (p1.fNext.map Al), sC (p1.fHeld.map Bw)]), (2006, .vec 9 (v6.map Bx)), (2007, .vec 3 (v1.1.map A2))]) (fun j6 h => ?_) (fun v6 h => ?_)
    ·refine AJ (Ab (Aa Ac rfl ?_))
     obtain ⟨v7, a7, b7, h⟩ := Ak h
     refine qI EU Es a7 (Af b7) rfl (qJ HR Es (Af b7) rfl (qz Jq rfl (qs Es rfl (Ae (Ab (Aa Ac rfl (qL Di Da rfl (qL A4 Az rfl (qL HR Es rfl ?_)))))))))
     obtain ⟨v8, a8, h⟩ := bind_some h
     refine AG [2008, 2009, 2010] (J4 N p0 p1 v7 v8 a8) WJ rfl (qm rfl (qx rfl (qx rfl (qz Cs rfl (qs Az rfl (qa rfl (Ae (Ab (Aa Ac rfl (qL Di Da rfl (qL A4 Az rfl (EM (BR 2008 _ _ rfl rfl) (EM (BR 2009 _ _ rfl rfl) (EM (BR 2010 _ _ rfl rfl) ?_))))))))))))))
     obtain ⟨v9, a9, h⟩ := bind_some h
     refine AG [] (MR N p0 v8.1 v9 a9) XX rfl (qm rfl (qx rfl (qx rfl (qx rfl (qz Cs rfl (qz HW rfl (qs Az rfl (qs AU rfl (qa rfl (Ae (Ab (Aa Ac rfl (qm rfl (BQ rfl (Ae ?_)))))))))))))))
     refine Ap rfl (fun c10 => ?_) (fun c10 => ?_)
     ·have h := An c10 h
      refine Aa Ac rfl (qm rfl (qL HR Es rfl (qL A4 Az rfl (qL CP AU rfl (Br Pw Ya rfl (EX zFS Kg Pw rfl ?_))))))
      obtain ⟨c11, h⟩ := Ba h
      refine Fb (f := Bx) zFS zFS Kg RY Pw c11 rfl (qa rfl (Ae ?_))
      exact As _ h (sm [(2006, 53), (2007, 2004)] _ _ rfl rfl)
     ·have h := Ao c10 h
      refine Aq ?_
      exact As _ h (sm [(2006, 2003), (2007, 2004)] _ _ rfl rfl)
    ·refine Aa Ac rfl (AP rfl (qm rfl (Ae ?_)))
     exact As _ h (sm [(2003, 2006), (2004, 2007)] _ _ rfl rfl)
   ·have h := Ao c5 h
    refine AQ ?_
    exact As _ h (sm [(2005, 2003)] _ _ rfl rfl)
  ·refine Am hs (Ab (Aa Ac rfl (qm rfl (qa rfl (qa rfl (Ae ?_))))))
   obtain rfl := sj h
   refine Am (sm [(1000, 2005)] [(4, oD (.own 1000)), (5, iD 0)] [(1000, .vec 9 (v4.map Bx))] rfl rfl) (AA ?_)
   exact ⟨⟨[_, _], ⟨.tmp _ _ rfl, ⟨.tmp _ _ rfl, tv⟩⟩, rfl⟩, ⟨rfl, tv⟩⟩
theorem Ii (N : Nat) (p0 : Aj) (p1 : List Ag) (r : (List A3) × Int) (h : Ej N p0 p1 = some r) : AD Tryz.prog 21 [.e (.agg [sC (p0.fVersions.map Al), sC (p0.fNow.map Al), sC (p0.fTarget.map Al), sC (p0.fTables.map Ar)]), pD (.sl (p1.map Ai))] [(9, r.1.map Bx)] (.tup [.one (.own 0), .one (iC r.2)]) := by
 unfold Ej at h
 refine Au (n := 37) (rs := [.tmp 4, .tmp 5]) Tryz.func21 rfl rfl rfl (A5 rfl) (A5 rfl) rfl fun w0 S0 => ?_
 refine Ab (Aa Ac rfl (qb rfl (qa rfl (qa rfl (Ae (Ab (Ab (Aa Ac rfl (qL Di Da rfl ?_)))))))))
 obtain ⟨v1, a1, h⟩ := bind_some h
 refine AG [] (Fj N p0 v1 a1) U8 rfl (qa rfl (Ae (Ab (Aa Ac rfl (qm rfl (BP rfl (Ae ?_)))))))
 refine Ap rfl (fun c2 => ?_) (fun c2 => ?_)
 ·have h := An c2 h
  refine Ab (Aa Ac rfl (qm rfl (qa rfl (qa rfl (Ae ?_)))))
  obtain rfl := sj h
  refine Am ((BB 4 2001 9 rfl rfl rfl).trans (sm [(1000, 2001)] [(4, oD (.own 1000)), (5, iD v1)] [(1000, .vec 9 ((([] : List A3)).map Bx))] rfl rfl)) (AA ?_)
  exact ⟨⟨[_, _], ⟨.tmp _ _ rfl, ⟨.tmp _ _ rfl, tv⟩⟩, rfl⟩, ⟨rfl, tv⟩⟩
 ·have h := Ao c2 h
  refine Aq (Ab (Aa Ac rfl (qa rfl (Ae (Ab (Ab (Aa Ac rfl (qm rfl (AR A0 rfl (qm rfl (Ae ?_)))))))))))
  refine AE (L := Dr N p0 p1) h (fun v3 => mk [(2, oD (.ptr 2 0)), (7, oD (.own 2002)), (17, pD (.sl (p1.map Ai))), (18, iD ((p1.length : Int))), (19, iD v3.2)] [(2, .box [sC (p0.fVersions.map Al), sC (p0.fNow.map Al), sC (p0.fTarget.map Al), sC (p0.fTables.map Ar)]), (2002, .vec 9 (v3.1.map Bx))]) (fun v4 => mk [(7, oD (.own 2003))] [(2003, .vec 9 (v4.map Bx))]) (fun _ _ => rfl) ((BB 7 2006 9 rfl rfl rfl).trans (sm [(2002, 2006)] _ _ rfl rfl)) (fun j3 n3 v3 h => ?_) (fun v4 s h hs => ?_)
  ·unfold Dr at h
   refine Ab (Aa Ac rfl (AY rfl (Ae (Ab ?_))))
   refine Ap rfl (fun c5 => ?_) (fun c5 => ?_)
   ·have h := An c5 h
    refine Aq (Ab (AJ (Ab (Aa Ac rfl ?_))))
    obtain ⟨v6, a6, b6, h⟩ := Ak h
    refine qi A0 Az a6 (Af b6) rfl (qK A4 Az rfl (qz Cs rfl (qs Az rfl (Ae (Ab (Aa Ac rfl (qL Di Da rfl (qL A4 Az rfl ?_))))))))
    obtain ⟨v7, a7, h⟩ := bind_some h
    refine AG [2004] (Jy N p0 v6 v7 a7) XC rfl (qm rfl (qx rfl (qx rfl (qa rfl (qa rfl (Ae (Ab (Ab (Aa Ac rfl (qm rfl (BP rfl (Ae ?_))))))))))))
    refine Ap rfl (fun c8 => ?_) (fun c8 => ?_)
    ·have h := An c8 h
     refine Ab (Aa Ac rfl (qm rfl (qa rfl (qa rfl (Ae ?_)))))
     obtain rfl := sj h
     refine Am ((BB 4 2005 9 rfl rfl rfl).trans (sm [(1000, 2005)] [(4, oD (.own 1000)), (5, iD v7.2)] [(1000, .vec 9 ((([] : List A3)).map Bx))] rfl rfl)) (AA ?_)
     exact ⟨⟨[_, _], ⟨.tmp _ _ rfl, ⟨.tmp _ _ rfl, tv⟩⟩, rfl⟩, ⟨rfl, tv⟩⟩
    ·have h := Ao c8 h
     refine Aq (Aa Ac rfl (qm rfl (qm rfl ?_)))
     obtain ⟨c9, h⟩ := Ba h
     refine Fb (f := Bx) zFS zFS Kg RY Pw c9 rfl (qa rfl (Ae (Aa Ac rfl (AP rfl (qm rfl (Ae ?_))))))
     exact As _ h (sm [(2002, 34)] _ _ rfl rfl)
   ·have h := Ao c5 h
    refine AQ ?_
    exact As _ h (sm [(2003, 2002)] _ _ rfl rfl)
  ·refine Am hs (Ab (Aa Ac rfl (qm rfl (qa rfl (qa rfl (Ae ?_))))))
   obtain rfl := sj h
   refine Am (sm [(1000, 2003)] [(4, oD (.own 1000)), (5, iD 0)] [(1000, .vec 9 (v4.map Bx))] rfl rfl) (AA ?_)
   exact ⟨⟨[_, _], ⟨.tmp _ _ rfl, ⟨.tmp _ _ rfl, tv⟩⟩, rfl⟩, ⟨rfl, tv⟩⟩
theorem FK (N : Nat) (p0 : List Ah) (p1 : Int) (p2 : Int) (p3 : (Ah × Ah) → Option Int) (r : (List Ah)) (h : Gs.insertionSort N p0 p1 p2 p3 = some r) : Bh Tryz.prog 132 [oD (.own 90000), iD p1, iD p2, oD (.clo (Bb (Cg true Ad true Ad) Bg p3))] [(.vec 3 (p0.map Ad), .vec 3 (r.map Ad))] [] (.tup []) := by
 unfold Gs.insertionSort at h
 refine A9 (n := 53) (rs := []) Tryz.func132 rfl rfl rfl (A5 rfl) (A5 rfl) rfl rfl (A5 rfl) rfl (A5 rfl) fun w0 S0 GL => Jh ?_
 refine Am (sm [] [(0, oD (.own 90000)), (1, iD p1), (2, iD p2), (3, oD (.clo (Bb (Cg true Ad true Ad) Bg p3)))] [(90000, .vec 3 (p0.map Ad))] rfl rfl) (Ab (Aa Ac rfl (qm rfl (AP rfl (qa rfl (Ae ?_))))))
 refine AE (L := Gs.insertionSort_L1 N p1 p2 p3) h (fun v1 => mk [(0, oD (.own 90000)), (1, iD p1), (2, iD p2), (3, oD (.clo (Bb (Cg true Ad true Ad) Bg p3))), (8, iD v1.2)] [(90000, .vec 3 (v1.1.map Ad))]) (fun v2 => mk [] [(90000, .vec 3 (v2.map Ad))]) (fun _ _ => rfl) (sm [] _ _ rfl rfl) (fun j1 n1 v1 h => ?_) (fun v2 s h hs => ?_)
 ·unfold Gs.insertionSort_L1 at h
  refine Ab (Ab (Aa Ac rfl (qm rfl (qm rfl (AY rfl (Ae ?_))))))
  refine Ap rfl (fun c3 => ?_) (fun c3 => ?_)
  ·have h := An c3 h
   refine Aq (Ab (AJ (Ab (Aa Ac rfl (qm rfl (qa rfl (Ae ?_)))))))
   refine AE (L := Gs.insertionSort_L4 N p1 p3) h (fun v4 => mk [(0, oD (.own 90000)), (1, iD p1), (2, iD p2), (3, oD (.clo (Bb (Cg true Ad true Ad) Bg p3))), (8, iD v1.2), (9, iD v4.2)] [(90000, .vec 3 (v4.1.map Ad))]) (fun v5 => mk [(0, oD (.own 90000)), (1, iD p1), (2, iD p2), (3, oD (.clo (Bb (Cg true Ad true Ad) Bg p3))), (8, iD v1.2)] [(90000, .vec 3 (v5.map Ad))]) (fun _ _ => rfl) (sm [] _ _ rfl rfl) (fun j4 n4 v4 h => ?_) (fun v5 s h hs => ?_)
   ·unfold Gs.insertionSort_L4 at h
    refine Ab ?_
    refine AL h (fun v6 => mk [(0, oD (.own 90000)), (1, iD p1), (2, iD p2), (3, oD (.clo (Bb (Cg true Ad true Ad) Bg p3))), (8, iD v1.2), (9, iD v4.2), (34, bD v6)] [(90000, .vec 3 (v4.1.map Ad))]) (fun j6 h => ?_) (fun v6 h => ?_)
    ·refine Aa Ac rfl (qm rfl (qm rfl (DC rfl (qm rfl ?_))))
     refine AB (t := 21) rfl (fun c7 => ?_) (fun c7 => ?_)
     ·have h := An c7 h
      refine qm rfl (qm rfl (qm rfl ?_))
      obtain ⟨v8, a8, b8, h⟩ := Ak h
      refine qI A8 AU a8 (Af b8) rfl (qJ CP AU (Af b8) rfl (qm rfl (qm rfl (Bm rfl ?_))))
      obtain ⟨v9, a9, b9, h⟩ := Ak h
      refine qI A8 AU a9 (Af b9) rfl (qJ CP AU (Af b9) rfl ?_)
      obtain ⟨v10, a10, h⟩ := bind_some h
      refine Cx (ds0 := [_, _]) (ar := (Cg true Ad true Ad) ((v8, v9))) (.g rfl rfl) rfl rfl ⟨rfl, rfl, tv⟩ rfl rfl rfl (Cw (CX _ _ _ _ Bd Bd) a10) ?_
      refine AY rfl (qp rfl (AC (by kernel_rfl) ?_))
      exact As _ h (sm [] _ _ rfl rfl)
     ·have h := Ao c7 h
      refine qn rfl (qn rfl (qn rfl (qn rfl (qn rfl (qn rfl (qn rfl (qn rfl (qn rfl (qn rfl (qn rfl (qn rfl (qp rfl (AC (by kernel_rfl) ?_)))))))))))))
      exact As _ h (sm [] _ _ rfl rfl)
    ·refine Ap rfl (fun c11 => ?_) (fun c11 => ?_)
     ·have h := An c11 h
      refine Aq (Ab (AJ (Aa Ac rfl (qm rfl (qm rfl (qm rfl (qm rfl (Bm rfl (qm rfl (qm rfl (Bm rfl ?_)))))))))))
      obtain ⟨v12, a12, b12, h⟩ := Ak h
      refine qI A8 AU a12 (Af b12) rfl (qJ CP AU (Af b12) rfl (qm rfl (qm rfl ?_)))
      obtain ⟨v13, a13, b13, h⟩ := Ak h
      refine qI A8 AU a13 (Af b13) rfl (qJ CP AU (Af b13) rfl ?_)
      obtain ⟨v14, a14, b14, h⟩ := Ak h
      refine qI A8 AU a14 (Af b14) rfl ?_
      refine AX rfl rfl rfl rfl (Af b14) rfl AU rfl (A5 rfl) (AW Ad v4.1 _ v12) ?_
      obtain ⟨v15, a15, b15, h⟩ := Ak h
      refine qI A8 AU a15 (Af b15) rfl ?_
      refine AX rfl rfl rfl rfl (Af b15) rfl AU rfl (A5 rfl) (AW Ad (v4.1.set ((v4.2).toNat) v12) _ v13) ?_
      refine AC (by kernel_rfl) (Aa Ac rfl (qm rfl (Bm rfl (qa rfl (Ae ?_)))))
      exact As _ h (sm [] _ _ rfl rfl)
     ·have h := Ao c11 h
      refine AQ ?_
      exact As _ h (sm [] _ _ rfl rfl)
   ·refine Am hs (Aa Ac rfl (qm rfl (AP rfl (qa rfl (Ae ?_)))))
    exact As _ h (sm [] _ _ rfl rfl)
  ·have h := Ao c3 h
   refine AQ ?_
   exact As _ h (sm [] _ _ rfl rfl)
 ·obtain rfl := sj h
  refine ⟨_, hs.trans (sm [] [] [(90000, .vec 3 (v2.map Ad))] rfl rfl), ?_⟩
  exact ⟨⟨[], tv, rfl⟩, ⟨rfl, tv⟩, tv⟩
theorem EG (N : Nat) (p0 : List Ah) (p1 : Int) (p2 : Int) (p3 : Int) (p4 : (Ah × Ah) → Option Int) (r : (List Ah)) (h : Gs.siftDown N p0 p1 p2 p3 p4 = some r) : Bh Tryz.prog 161 [oD (.own 90000), iD p1, iD p2, iD p3, oD (.clo (Bb (Cg true Ad true Ad) Bg p4))] [(.vec 3 (p0.map Ad), .vec 3 (r.map Ad))] [] (.tup []) := by
 unfold Gs.siftDown at h
 refine A9 (n := 82) (rs := []) Tryz.func161 rfl rfl rfl (A5 rfl) (A5 rfl) rfl rfl (A5 rfl) rfl (A5 rfl) fun w0 S0 GL => Jh ?_
 refine Am (sm [] [(0, oD (.own 90000)), (1, iD p1), (2, iD p2), (3, iD p3), (4, oD (.clo (Bb (Cg true Ad true Ad) Bg p4)))] [(90000, .vec 3 (p0.map Ad))] rfl rfl) (Ab (Aa Ac rfl (qm rfl (qa rfl (Ae ?_)))))
 refine AE (L := Gs.siftDown_L1 N p2 p3 p4) h (fun v1 => mk [(0, oD (.own 90000)), (2, iD p2), (3, iD p3), (4, oD (.clo (Bb (Cg true Ad true Ad) Bg p4))), (10, iD v1.2)] [(90000, .vec 3 (v1.1.map Ad))]) (fun v2 => mk [] [(90000, .vec 3 (v2.map Ad))]) (fun _ _ => rfl) (sm [] _ _ rfl rfl) (fun j1 n1 v1 h => ?_) (fun v2 s h hs => ?_)
 ·unfold Gs.siftDown_L1 at h
  refine AJ (Ab (Aa Ac rfl (qm rfl (HO rfl (AP rfl (qa rfl (Ae (Ab (Ab (Aa Ac rfl (qm rfl (qm rfl (Cv rfl (Ae ?_))))))))))))))
  refine Ap rfl (fun c3 => ?_) (fun c3 => ?_)
  ·have h := An c3 h
   refine AQ ?_
   exact As _ h (sm [] _ _ rfl rfl)
  ·have h := Ao c3 h
   refine Aq ?_
   refine AL h (fun v4 => mk [(0, oD (.own 90000)), (2, iD p2), (3, iD p3), (4, oD (.clo (Bb (Cg true Ad true Ad) Bg p4))), (10, iD v1.2), (11, iD v4)] [(90000, .vec 3 (v1.1.map Ad))]) (fun j4 h => ?_) (fun v4 h => ?_)
   ·refine AL h (fun v5 => mk [(0, oD (.own 90000)), (2, iD p2), (3, iD p3), (4, oD (.clo (Bb (Cg true Ad true Ad) Bg p4))), (10, iD v1.2), (11, iD ((wI .i64 ((wI .i64 (2 * v1.2)) + 1)))), (40, bD v5)] [(90000, .vec 3 (v1.1.map Ad))]) (fun j5 h => ?_) (fun v5 h => ?_)
    ·refine Aa Ac rfl (qm rfl (AP rfl (qm rfl (AY rfl (qm rfl ?_)))))
     refine AB (t := 23) rfl (fun c6 => ?_) (fun c6 => ?_)
     ·have h := An c6 h
      refine qm rfl (qm rfl (qm rfl (qm rfl (AP rfl ?_))))
      obtain ⟨v7, a7, b7, h⟩ := Ak h
      refine qI A8 AU a7 (Af b7) rfl (qJ CP AU (Af b7) rfl (qm rfl (qm rfl (qm rfl (AP rfl (AP rfl ?_))))))
      obtain ⟨v8, a8, b8, h⟩ := Ak h
      refine qI A8 AU a8 (Af b8) rfl (qJ CP AU (Af b8) rfl ?_)
      obtain ⟨v9, a9, h⟩ := bind_some h
      refine Cx (ds0 := [_, _]) (ar := (Cg true Ad true Ad) ((v7, v8))) (.g rfl rfl) rfl rfl ⟨rfl, rfl, tv⟩ rfl rfl rfl (Cw (CX _ _ _ _ Bd Bd) a9) ?_
      refine AY rfl (qp rfl (AC (by kernel_rfl) ?_))
      exact As _ h (sm [] _ _ rfl rfl)
     ·have h := Ao c6 h
      refine qn rfl (qn rfl (qn rfl (qn rfl (qn rfl (qn rfl (qn rfl (qn rfl (qn rfl (qn rfl (qn rfl (qn rfl (qn rfl (qn rfl (qn rfl (qn rfl (qp rfl (AC (by kernel_rfl) ?_)))))))))))))))))
      exact As _ h (sm [] _ _ rfl rfl)
    ·refine Ap rfl (fun c10 => ?_) (fun c10 => ?_)
     ·have h := An c10 h
      refine Aa Ac rfl (qm rfl (AP rfl (qa rfl (Ae ?_))))
      exact As _ h (sm [] _ _ rfl rfl)
     ·have h := Ao c10 h
      refine Aq ?_
      exact As _ h (sm [] _ _ rfl rfl)
   ·refine Ab (Ab (Aa Ac rfl (qm rfl (qm rfl (qm rfl (qm rfl (AP rfl ?_)))))))
    obtain ⟨v11, a11, b11, h⟩ := Ak h
    refine qI A8 AU a11 (Af b11) rfl (qJ CP AU (Af b11) rfl (qm rfl (qm rfl (qm rfl (AP rfl ?_)))))
    obtain ⟨v12, a12, b12, h⟩ := Ak h
    refine qI A8 AU a12 (Af b12) rfl (qJ CP AU (Af b12) rfl ?_)
    obtain ⟨v13, a13, h⟩ := bind_some h
    refine Cx (ds0 := [_, _]) (ar := (Cg true Ad true Ad) ((v11, v12))) (.p rfl) rfl rfl ⟨rfl, rfl, tv⟩ rfl rfl rfl (Cw (CX _ _ _ _ Bd Bd) a13) ?_
    refine AY rfl (BS rfl (AC (by kernel_rfl) ?_))
    refine Ap rfl (fun c14 => ?_) (fun c14 => ?_)
    ·have h := An c14 h
     obtain rfl := sj h
     refine AA ⟨_, (sm [] [] [(90000, .vec 3 (v1.1.map Ad))] rfl rfl), ?_⟩
     exact ⟨⟨[], tv, rfl⟩, ⟨rfl, tv⟩, tv⟩
    ·have h := Ao c14 h
     refine Aq (Ab (Aa Ac rfl (qm rfl (qm rfl (qm rfl (AP rfl (qm rfl (qm rfl (qm rfl (AP rfl (qm rfl (qm rfl (qm rfl (AP rfl ?_))))))))))))))
     obtain ⟨v15, a15, b15, h⟩ := Ak h
     refine qI A8 AU a15 (Af b15) rfl (qJ CP AU (Af b15) rfl (qm rfl (qm rfl (qm rfl (AP rfl ?_)))))
     obtain ⟨v16, a16, b16, h⟩ := Ak h
     refine qI A8 AU a16 (Af b16) rfl (qJ CP AU (Af b16) rfl ?_)
     obtain ⟨v17, a17, b17, h⟩ := Ak h
     refine qI A8 AU a17 (Af b17) rfl ?_
     refine AX rfl rfl rfl rfl (Af b17) rfl AU rfl (A5 rfl) (AW Ad v1.1 _ v15) ?_
     obtain ⟨v18, a18, b18, h⟩ := Ak h
     refine qI A8 AU a18 (Af b18) rfl ?_
     refine AX rfl rfl rfl rfl (Af b18) rfl AU rfl (A5 rfl) (AW Ad (v1.1.set (((wI .i64 (p3 + v1.2))).toNat) v15) _ v16) ?_
     refine AC (by kernel_rfl) (Aa Ac rfl (qm rfl (qa rfl (Ae ?_))))
     exact As _ h (sm [] _ _ rfl rfl)
 ·obtain rfl := sj h
  refine ⟨_, hs.trans (sm [] [] [(90000, .vec 3 (v2.map Ad))] rfl rfl), ?_⟩
  exact ⟨⟨[], tv, rfl⟩, ⟨rfl, tv⟩, tv⟩
theorem GJ (N : Nat) (p0 : List Ah) (p1 : Int) (p2 : Int) (p3 : (Ah × Ah) → Option Int) (r : (List Ah)) (h : Gs.heapSort N p0 p1 p2 p3 = some r) : Bh Tryz.prog 133 [oD (.own 90000), iD p1, iD p2, oD (.clo (Bb (Cg true Ad true Ad) Bg p3))] [(.vec 3 (p0.map Ad), .vec 3 (r.map Ad))] [] (.tup []) := by
 unfold Gs.heapSort at h
 refine A9 (n := 60) (rs := []) Tryz.func133 rfl rfl rfl (A5 rfl) (A5 rfl) rfl rfl (A5 rfl) rfl (A5 rfl) fun w0 S0 GL => Jh ?_
 refine Am (sm [] [(0, oD (.own 90000)), (1, iD p1), (2, iD p2), (3, oD (.clo (Bb (Cg true Ad true Ad) Bg p3)))] [(90000, .vec 3 (p0.map Ad))] rfl rfl) (Ab (Aa Ac rfl (qm rfl (qa rfl (Ae (Ab (Aa Ac rfl (qa rfl (Ae (Ab (Aa Ac rfl (qm rfl (qm rfl (Bm rfl (qa rfl (Ae (Ab (Ab (Aa Ac rfl (qm rfl (Bm rfl (Jc rfl (by decide) (qa rfl (Ae ?_))))))))))))))))))))))))
 refine AE (L := Gs.heapSort_L1 N p1 p2 p3) h (fun v1 => mk [(0, oD (.own 90000)), (3, oD (.clo (Bb (Cg true Ad true Ad) Bg p3))), (8, iD p1), (9, iD 0), (10, iD ((wI .i64 (p2 - p1)))), (11, iD v1.2)] [(90000, .vec 3 (v1.1.map Ad))]) (fun v2 => mk [(0, oD (.own 90000)), (3, oD (.clo (Bb (Cg true Ad true Ad) Bg p3))), (8, iD p1), (9, iD 0), (10, iD ((wI .i64 (p2 - p1))))] [(90000, .vec 3 (v2.map Ad))]) (fun _ _ => rfl) (sm [] _ _ rfl rfl) (fun j1 n1 v1 h => ?_) (fun v2 s h hs => ?_)
 ·unfold Gs.heapSort_L1 at h
  refine Ab (Ab (Aa Ac rfl (qm rfl (Cv rfl (Ae ?_)))))
  refine Ap rfl (fun c3 => ?_) (fun c3 => ?_)
  ·have h := An c3 h
   refine Aq (Ab (AJ (Aa Ac rfl (qm rfl (qm rfl (qm rfl (qm rfl (qm rfl ?_))))))))
   obtain ⟨v4, a4, h⟩ := bind_some h
   refine BD (ds0 := [_, _, _, _, _]) [90000] [] [true] (EG N v1.1 v1.2 ((wI .i64 (p2 - p1))) p1 p3 v4 a4) (.p rfl) V3 rfl ⟨rfl, rfl, rfl, rfl, rfl, tv⟩ rfl rfl (by decide) ⟨rfl, tv⟩ rfl (A1 rfl) tv ⟨(fun h => by cases h), tv⟩ rfl rfl rfl ?_
   refine Ae (Aa Ac rfl (qm rfl (Bm rfl (qa rfl (Ae ?_)))))
   exact As _ h (sm [] _ _ rfl rfl)
  ·have h := Ao c3 h
   refine AQ ?_
   exact As _ h (sm [] _ _ rfl rfl)
 ·refine Am hs (Ab (Aa Ac rfl (qm rfl (Bm rfl (qa rfl (Ae ?_))))))
  refine AE (L := Gs.heapSort_L5 N p1 p3) h (fun v5 => mk [(0, oD (.own 90000)), (3, oD (.clo (Bb (Cg true Ad true Ad) Bg p3))), (8, iD p1), (9, iD 0), (12, iD v5.2)] [(90000, .vec 3 (v5.1.map Ad))]) (fun v6 => mk [] [(90000, .vec 3 (v6.map Ad))]) (fun _ _ => rfl) (sm [] _ _ rfl rfl) (fun j5 n5 v5 h => ?_) (fun v6 s h hs => ?_)
  ·unfold Gs.heapSort_L5 at h
   refine Ab (Ab (Aa Ac rfl (qm rfl (Cv rfl (Ae ?_)))))
   refine Ap rfl (fun c7 => ?_) (fun c7 => ?_)
   ·have h := An c7 h
    refine Aq (Ab (AJ (Ab (Aa Ac rfl (qm rfl (qm rfl (qm rfl (qm rfl (qm rfl (AP rfl (qm rfl (qm rfl (qm rfl (AP rfl ?_))))))))))))))
    obtain ⟨v8, a8, b8, h⟩ := Ak h
    refine qI A8 AU a8 (Af b8) rfl (qJ CP AU (Af b8) rfl (qm rfl (qm rfl ?_)))
    obtain ⟨v9, a9, b9, h⟩ := Ak h
    refine qI A8 AU a9 (Af b9) rfl (qJ CP AU (Af b9) rfl ?_)
    obtain ⟨v10, a10, b10, h⟩ := Ak h
    refine qI A8 AU a10 (Af b10) rfl ?_
    refine AX rfl rfl rfl rfl (Af b10) rfl AU rfl (A5 rfl) (AW Ad v5.1 _ v8) ?_
    obtain ⟨v11, a11, b11, h⟩ := Ak h
    refine qI A8 AU a11 (Af b11) rfl ?_
    refine AX rfl rfl rfl rfl (Af b11) rfl AU rfl (A5 rfl) (AW Ad (v5.1.set ((p1).toNat) v8) _ v9) ?_
    refine AC (by kernel_rfl) (Aa Ac rfl (qm rfl (qm rfl (qm rfl (qm rfl (qm rfl ?_))))))
    obtain ⟨v12, a12, h⟩ := bind_some h
    refine BD (ds0 := [_, _, _, _, _]) [90000] [] [true] (EG N ((v5.1.set ((p1).toNat) v8).set (((wI .i64 (p1 + v5.2))).toNat) v9) 0 v5.2 p1 p3 v12 a12) (.p rfl) V3 rfl ⟨rfl, rfl, rfl, rfl, rfl, tv⟩ rfl rfl (by decide) ⟨rfl, tv⟩ rfl (A1 rfl) tv ⟨(fun h => by cases h), tv⟩ rfl rfl rfl ?_
    refine Ae (Aa Ac rfl (qm rfl (Bm rfl (qa rfl (Ae ?_)))))
    exact As _ h (sm [] _ _ rfl rfl)
   ·have h := Ao c7 h
    refine AQ ?_
    exact As _ h (sm [] _ _ rfl rfl)
  ·obtain rfl := sj h
   refine ⟨_, hs.trans (sm [] [] [(90000, .vec 3 (v6.map Ad))] rfl rfl), ?_⟩
   exact ⟨⟨[], tv, rfl⟩, ⟨rfl, tv⟩, tv⟩
theorem FQ (N : Nat) (p0 : List Ah) (p1 : Int) (p2 : Int) (p3 : (Ah × Ah) → Option Int) (r : (List Ah)) (h : Gs.breakPatterns N p0 p1 p2 p3 = some r) : Bh Tryz.prog 134 [oD (.own 90000), iD p1, iD p2, oD (.clo (Bb (Cg true Ad true Ad) Bg p3))] [(.vec 3 (p0.map Ad), .vec 3 (r.map Ad))] [] (.tup []) := by
 unfold Gs.breakPatterns at h
 refine A9 (n := 67) (rs := []) Tryz.func134 rfl rfl rfl (A5 rfl) (A5 rfl) rfl rfl (A5 rfl) rfl (A5 rfl) fun w0 S0 GL => Jh ?_
 refine Am (sm [] [(0, oD (.own 90000)), (1, iD p1), (2, iD p2), (3, oD (.clo (Bb (Cg true Ad true Ad) Bg p3)))] [(90000, .vec 3 (p0.map Ad))] rfl rfl) (Ab (Aa Ac rfl (qm rfl (qm rfl (Bm rfl (qa rfl (Ae (Ab (Aa Ac rfl (qm rfl (Cv rfl (Ae ?_))))))))))))
 refine Ap rfl (fun c1 => ?_) (fun c1 => ?_)
 ·have h := An c1 h
  refine Ab (Aa Ac rfl (qm rfl (HI UW Wd rfl (qz V9 rfl (qs QX rfl (Ae (Ab (Aa Ac rfl (qm rfl ?_)))))))))
  obtain ⟨v2, a2, h⟩ := bind_some h
  refine AG [] (Hn N ((wI .i64 (p2 - p1))) v2 a2) Wm rfl (qa rfl (Ae (Ab (Aa Ac rfl (qm rfl (qm rfl (Jc rfl (by decide) (HO rfl (AP rfl (Bm rfl (qa rfl (Ae ?_))))))))))))
  refine AE (L := Gs.breakPatterns_L3 N p1 p2 v2) h (fun v3 => mk [(0, oD (.own 90000)), (1, iD p1), (8, iD ((wI .i64 (p2 - p1)))), (9, oD (.ptr 9 0)), (10, pD (.val (.int .u64 v2))), (11, iD v3.2.2)] [(9, .box [.pure (.val (.int .u64 v3.2.1))]), (90000, .vec 3 (v3.1.map Ad))]) (fun v4 => mk [] [(90000, .vec 3 (v4.map Ad))]) (fun _ _ => rfl) (sm [] _ _ rfl rfl) (fun j3 n3 v3 h => ?_) (fun v4 s h hs => ?_)
  ·unfold Gs.breakPatterns_L3 at h
   refine Ab (Ab (Aa Ac rfl (qm rfl (qm rfl (qm rfl (Jc rfl (by decide) (HO rfl (AP rfl (AP rfl (GU rfl (Ae ?_)))))))))))
   refine Ap rfl (fun c5 => ?_) (fun c5 => ?_)
   ·have h := An c5 h
    refine Aq (Ab (AJ (Ab (Aa Ac rfl ?_))))
    obtain ⟨v6, a6, h⟩ := bind_some h
    refine BD (ds0 := [_]) [9] [] [true] (Hu N v3.2.1 v6 a6) (.p rfl) Wu rfl ⟨rfl, tv⟩ rfl rfl (by decide) ⟨rfl, tv⟩ rfl (A1 rfl) tv ⟨(fun h => by cases h), tv⟩ rfl rfl rfl ?_
    refine qm rfl (Bm rfl (K8 rfl (HI N9 Wp rfl (qa rfl (Ae ?_)))))
    refine AL h (fun v7 => mk [(0, oD (.own 90000)), (1, iD p1), (8, iD ((wI .i64 (p2 - p1)))), (9, oD (.ptr 9 0)), (10, pD (.val (.int .u64 v2))), (11, iD v3.2.2), (12, iD v7)] [(9, .box [.pure (.val (.int .u64 v6.2))]), (90000, .vec 3 (v3.1.map Ad))]) (fun j7 h => ?_) (fun v7 h => ?_)
    ·refine Ab (Aa Ac rfl (qm rfl (qm rfl (Cv rfl (Ae ?_)))))
     refine Ap rfl (fun c8 => ?_) (fun c8 => ?_)
     ·have h := An c8 h
      refine Aa Ac rfl (qm rfl (qm rfl (Bm rfl (qa rfl (Ae ?_)))))
      exact As _ h (sm [] _ _ rfl rfl)
     ·have h := Ao c8 h
      refine Aq ?_
      exact As _ h (sm [] _ _ rfl rfl)
    ·refine Aa Ac rfl (qm rfl (qm rfl (qm rfl (qm rfl (qm rfl (AP rfl (qm rfl (qm rfl (qm rfl (AP rfl ?_))))))))))
     obtain ⟨v9, a9, b9, h⟩ := Ak h
     refine qI A8 AU a9 (Af b9) rfl (qJ CP AU (Af b9) rfl (qm rfl (qm rfl ?_)))
     obtain ⟨v10, a10, b10, h⟩ := Ak h
     refine qI A8 AU a10 (Af b10) rfl (qJ CP AU (Af b10) rfl ?_)
     obtain ⟨v11, a11, b11, h⟩ := Ak h
     refine qI A8 AU a11 (Af b11) rfl ?_
     refine AX rfl rfl rfl rfl (Af b11) rfl AU rfl (A5 rfl) (AW Ad v3.1 _ v9) ?_
     obtain ⟨v12, a12, b12, h⟩ := Ak h
     refine qI A8 AU a12 (Af b12) rfl ?_
     refine AX rfl rfl rfl rfl (Af b12) rfl AU rfl (A5 rfl) (AW Ad (v3.1.set ((v3.2.2).toNat) v9) _ v10) ?_
     refine AC (by kernel_rfl) (Aa Ac rfl (qm rfl (AP rfl (qa rfl (Ae ?_)))))
     exact As _ h (sm [] _ _ rfl rfl)
   ·have h := Ao c5 h
    refine AQ ?_
    exact As _ h (sm [] _ _ rfl rfl)
  ·obtain rfl := sj h
   refine ⟨_, hs.trans (sm [] [] [(90000, .vec 3 (v4.map Ad))] rfl rfl), ?_⟩
   exact ⟨⟨[], tv, rfl⟩, ⟨rfl, tv⟩, tv⟩
 ·have h := Ao c1 h
  refine Aq ?_
  obtain rfl := sj h
  refine ⟨_, (sm [] [] [(90000, .vec 3 (p0.map Ad))] rfl rfl), ?_⟩
  exact ⟨⟨[], tv, rfl⟩, ⟨rfl, tv⟩, tv⟩
theorem DB (N : Nat) (p0 : List Ah) (p1 : Int) (p2 : Int) (p3 : Int) (p4 : (Ah × Ah) → Option Int) (r : Int × Int × Int) (h : Gs.order2 N p0 p1 p2 p3 p4 = some r) : Bh Tryz.prog 171 [pD (.sl (p0.map Ad)), iD p1, iD p2, oD (.ptr 90000 0), oD (.clo (Bb (Cg true Ad true Ad) Bg p4))] [(.box [iC p3], .box [iC r.2.2])] [] (.tup [.one (iC r.1), .one (iC r.2.1)]) := by
 unfold Gs.order2 at h
 refine A9 (n := 32) (rs := [.tmp 10, .tmp 11]) Tryz.func171 rfl rfl rfl (A5 rfl) (A5 rfl) rfl rfl (A5 rfl) rfl (A5 rfl) fun w0 S0 GL => ?_
 refine Am (sm [] [(0, pD (.sl (p0.map Ad))), (1, iD p1), (2, iD p2), (3, oD (.ptr 90000 0)), (4, oD (.clo (Bb (Cg true Ad true Ad) Bg p4)))] [(90000, .box [iC p3])] rfl rfl) (Ab (Aa Ac rfl (qa rfl (qa rfl (Ae (Ab (Ab (Aa Ac rfl (qm rfl (qm rfl (qm rfl ?_)))))))))))
 obtain ⟨v1, a1, b1, h⟩ := Ak h
 refine qi A8 AU a1 (Af b1) rfl (qK CP AU rfl (qm rfl (qm rfl ?_)))
 obtain ⟨v2, a2, b2, h⟩ := Ak h
 refine qi A8 AU a2 (Af b2) rfl (qK CP AU rfl ?_)
 obtain ⟨v3, a3, h⟩ := bind_some h
 refine Cx (ds0 := [_, _]) (ar := (Cg true Ad true Ad) ((v1, v2))) (.p rfl) rfl rfl ⟨rfl, rfl, tv⟩ rfl rfl rfl (Cw (CX _ _ _ _ Bd Bd) a3) ?_
 refine AY rfl (AC (by kernel_rfl) ?_)
 refine Ap rfl (fun c4 => ?_) (fun c4 => ?_)
 ·have h := An c4 h
  refine Ab (Aa Ac rfl (qm rfl (Nv rfl (ql Cz rfl (AP rfl (Nv rfl (qs DJ rfl (Ae (Ab (Aa Ac rfl (qm rfl (qm rfl (qa rfl (qa rfl (Ae ?_)))))))))))))))
  obtain rfl := sj h
  refine Am (sm [] [(10, iD p2), (11, iD p1)] [(90000, .box [iC ((wI .i64 (p3 + 1)))])] rfl rfl) (AA ?_)
  exact ⟨⟨[_, _], ⟨.tmp _ _ rfl, ⟨.tmp _ _ rfl, tv⟩⟩, rfl⟩, ⟨rfl, tv⟩, tv⟩
 ·have h := Ao c4 h
  refine Aq (Ab (Aa Ac rfl (qm rfl (qm rfl (qa rfl (qa rfl (Ae ?_)))))))
  obtain rfl := sj h
  refine Am (sm [] [(10, iD p1), (11, iD p2)] [(90000, .box [iC p3])] rfl rfl) (AA ?_)
  exact ⟨⟨[_, _], ⟨.tmp _ _ rfl, ⟨.tmp _ _ rfl, tv⟩⟩, rfl⟩, ⟨rfl, tv⟩, tv⟩
theorem ET (N : Nat) (p0 : List Ah) (p1 : Int) (p2 : Int) (p3 : Int) (p4 : Int) (p5 : (Ah × Ah) → Option Int) (r : Int × Int) (h : Gs.median N p0 p1 p2 p3 p4 p5 = some r) : Bh Tryz.prog 165 [pD (.sl (p0.map Ad)), iD p1, iD p2, iD p3, oD (.ptr 90000 0), oD (.clo (Bb (Cg true Ad true Ad) Bg p5))] [(.box [iC p4], .box [iC r.2])] [] (iD r.1) := by
 unfold Gs.median at h
 refine A9 (n := 41) (rs := [.tmp 12]) Tryz.func165 rfl rfl rfl (A5 rfl) (A5 rfl) rfl rfl (A5 rfl) rfl (A5 rfl) fun w0 S0 GL => ?_
 refine Am (sm [] [(0, pD (.sl (p0.map Ad))), (1, iD p1), (2, iD p2), (3, iD p3), (4, oD (.ptr 90000 0)), (5, oD (.clo (Bb (Cg true Ad true Ad) Bg p5)))] [(90000, .box [iC p4])] rfl rfl) (Ab (Aa Ac rfl (qa rfl (Ae (Ab (Aa Ac rfl (qm rfl (qm rfl (qm rfl (qm rfl (qm rfl ?_)))))))))))
 obtain ⟨v1, a1, h⟩ := bind_some h
 refine BD (ds0 := [_, _, _, _, _]) [90000] [] [true] (DB N p0 p1 p2 p4 p5 v1 a1) (.p rfl) T2 rfl ⟨rfl, rfl, rfl, rfl, rfl, tv⟩ rfl rfl (by decide) ⟨rfl, tv⟩ rfl (A1 rfl) tv ⟨(fun h => by cases h), tv⟩ rfl rfl rfl ?_
 refine qm rfl (qx rfl (qx rfl (qa rfl (qa rfl (Ae (Ab (Aa Ac rfl (qm rfl (qm rfl (qm rfl (qm rfl (qm rfl ?_))))))))))))
 obtain ⟨v2, a2, h⟩ := bind_some h
 refine BD (ds0 := [_, _, _, _, _]) [90000] [] [true] (DB N p0 v1.2.1 p3 v1.2.2 p5 v2 a2) (.p rfl) T2 rfl ⟨rfl, rfl, rfl, rfl, rfl, tv⟩ rfl rfl (by decide) ⟨rfl, tv⟩ rfl (A1 rfl) tv ⟨(fun h => by cases h), tv⟩ rfl rfl rfl ?_
 refine qm rfl (qx rfl (qx rfl (qa rfl (qa rfl (Ae (Ab (Aa Ac rfl (qm rfl (qm rfl (qm rfl (qm rfl (qm rfl ?_))))))))))))
 obtain ⟨v3, a3, h⟩ := bind_some h
 refine BD (ds0 := [_, _, _, _, _]) [90000] [] [true] (DB N p0 v1.1 v2.1 v2.2.2 p5 v3 a3) (.p rfl) T2 rfl ⟨rfl, rfl, rfl, rfl, rfl, tv⟩ rfl rfl (by decide) ⟨rfl, tv⟩ rfl (A1 rfl) tv ⟨(fun h => by cases h), tv⟩ rfl rfl rfl ?_
 refine qm rfl (qx rfl (qx rfl (qa rfl (qa rfl (Ae (Ab (Aa Ac rfl (qm rfl (qa rfl (Ae ?_))))))))))
 obtain rfl := sj h
 refine Am (sm [] [(12, iD v3.2.1)] [(90000, .box [iC v3.2.2])] rfl rfl) (AA ?_)
 exact ⟨⟨[_], ⟨.tmp _ _ rfl, tv⟩, rfl⟩, ⟨rfl, tv⟩, tv⟩
theorem CQ (N : Nat) (p0 : List Ah) (p1 : Int) (p2 : Int) (p3 : (Ah × Ah) → Option Int) (r : Int × Int) (h : Gs.medianAdjacent N p0 p1 p2 p3 = some r) : Bh Tryz.prog 164 [pD (.sl (p0.map Ad)), iD p1, oD (.ptr 90000 0), oD (.clo (Bb (Cg true Ad true Ad) Bg p3))] [(.box [iC p2], .box [iC r.2])] [] (iD r.1) := by
 unfold Gs.medianAdjacent at h
 refine A9 (n := 18) (rs := [.tmp 8]) Tryz.func164 rfl rfl rfl (A5 rfl) (A5 rfl) rfl rfl (A5 rfl) rfl (A5 rfl) fun w0 S0 GL => ?_
 refine Am (sm [] [(0, pD (.sl (p0.map Ad))), (1, iD p1), (2, oD (.ptr 90000 0)), (3, oD (.clo (Bb (Cg true Ad true Ad) Bg p3)))] [(90000, .box [iC p2])] rfl rfl) (Ab (Aa Ac rfl (qa rfl (Ae (Ab (Aa Ac rfl (qm rfl (qm rfl (Bm rfl (qm rfl (qm rfl (AP rfl (qm rfl (qm rfl ?_))))))))))))))
 obtain ⟨v1, a1, h⟩ := bind_some h
 refine BD (ds0 := [_, _, _, _, _, _]) [90000] [] [true] (ET N p0 ((wI .i64 (p1 - 1))) p1 ((wI .i64 (p1 + 1))) p2 p3 v1 a1) (.p rfl) Ww rfl ⟨rfl, rfl, rfl, rfl, rfl, rfl, tv⟩ rfl rfl (by decide) ⟨rfl, tv⟩ rfl (A1 rfl) tv ⟨(fun h => by cases h), tv⟩ rfl rfl rfl ?_
 refine qa rfl (Ae ?_)
 obtain rfl := sj h
 refine Am (sm [] [(8, iD v1.1)] [(90000, .box [iC v1.2])] rfl rfl) (AA ?_)
 exact ⟨⟨[_], ⟨.tmp _ _ rfl, tv⟩, rfl⟩, ⟨rfl, tv⟩, tv⟩
theorem F7 (N : Nat) (p0 : List Ah) (p1 : Int) (p2 : Int) (p3 : (Ah × Ah) → Option Int) (r : Int × Int) (h : Gs.choosePivot N p0 p1 p2 p3 = some r) : AD Tryz.prog 135 [pD (.sl (p0.map Ad)), iD p1, iD p2, oD (.clo (Bb (Cg true Ad true Ad) Bg p3))] [] (.tup [.one (iC r.1), .one (iC r.2)]) := by
 unfold Gs.choosePivot at h
 refine Au (n := 63) (rs := [.tmp 8, .tmp 9]) Tryz.func135 rfl rfl rfl (A5 rfl) (A5 rfl) rfl fun w0 S0 => ?_
 refine Ab (Aa Ac rfl (qa rfl (qa rfl (Ae (Ab (Aa Ac rfl (qm rfl (qm rfl (Bm rfl (qa rfl (Ae (Ab (Aa Ac rfl (qz Mt rfl (Ae (Ab (Aa Ac rfl (qm rfl (qm rfl (Jc rfl (by decide) (HO rfl (AP rfl (qa rfl (Ae (Ab (Aa Ac rfl (qm rfl (qm rfl (Jc rfl (by decide) (HO rfl (AP rfl (qa rfl (Ae (Ab (Aa Ac rfl (qm rfl (qm rfl (Jc rfl (by decide) (HO rfl ?_)))))))))))))))))))))))))))))))))))))))
 refine AP rfl (qa rfl (Ae ?_))
 refine AL h (fun v1 => mk [(11, oD (.ptr 11 0)), (13, iD v1.2)] [(11, .box [iC v1.1])]) (fun j1 h => ?_) (fun v1 h => ?_)
 ·refine Ab (Aa Ac rfl (qm rfl (Cv rfl (Ae ?_))))
  refine Ap rfl (fun c2 => ?_) (fun c2 => ?_)
  ·have h := An c2 h
   refine AL h (fun v3 => mk [(0, pD (.sl (p0.map Ad))), (3, oD (.clo (Bb (Cg true Ad true Ad) Bg p3))), (11, oD (.ptr 11 0)), (12, iD v3.2.1), (13, iD v3.2.2.1), (14, iD v3.2.2.2)] [(11, .box [iC v3.1])]) (fun j3 h => ?_) (fun v3 h => ?_)
   ·refine Ab (Aa Ac rfl (qm rfl (Cv rfl (Ae ?_))))
    refine Ap rfl (fun c4 => ?_) (fun c4 => ?_)
    ·have h := An c4 h
     refine Ab (Aa Ac rfl (qm rfl (qm rfl (qm rfl ?_))))
     obtain ⟨v5, a5, h⟩ := bind_some h
     refine BD (ds0 := [_, _, _, _]) [11] [] [true] (CQ N p0 ((wI .i64 (p1 + (wI .i64 ((wI .i64 (Int.tdiv ((wI .i64 (p2 - p1))) 4)) * 1))))) 0 p3 v5 a5) (.p rfl) Uo rfl ⟨rfl, rfl, rfl, rfl, tv⟩ rfl rfl (by decide) ⟨rfl, tv⟩ rfl (A1 rfl) tv ⟨(fun h => by cases h), tv⟩ rfl rfl rfl ?_
     refine qa rfl (Ae (Ab (Aa Ac rfl (qm rfl (qm rfl (qm rfl ?_))))))
     obtain ⟨v6, a6, h⟩ := bind_some h
     refine BD (ds0 := [_, _, _, _]) [11] [] [true] (CQ N p0 ((wI .i64 (p1 + (wI .i64 ((wI .i64 (Int.tdiv ((wI .i64 (p2 - p1))) 4)) * 2))))) v5.2 p3 v6 a6) (.p rfl) Uo rfl ⟨rfl, rfl, rfl, rfl, tv⟩ rfl rfl (by decide) ⟨rfl, tv⟩ rfl (A1 rfl) tv ⟨(fun h => by cases h), tv⟩ rfl rfl rfl ?_
     refine qa rfl (Ae (Aa Ac rfl (qm rfl (qm rfl (qm rfl ?_)))))
     obtain ⟨v7, a7, h⟩ := bind_some h
     refine BD (ds0 := [_, _, _, _]) [11] [] [true] (CQ N p0 ((wI .i64 (p1 + (wI .i64 ((wI .i64 (Int.tdiv ((wI .i64 (p2 - p1))) 4)) * 3))))) v6.2 p3 v7 a7) (.p rfl) Uo rfl ⟨rfl, rfl, rfl, rfl, tv⟩ rfl rfl (by decide) ⟨rfl, tv⟩ rfl (A1 rfl) tv ⟨(fun h => by cases h), tv⟩ rfl rfl rfl ?_
     refine qa rfl (Ae ?_)
     exact As _ h (sm [] _ _ rfl rfl)
    ·have h := Ao c4 h
     refine Aq ?_
     exact As _ h (sm [] _ _ rfl rfl)
   ·refine Aa Ac rfl (qm rfl (qm rfl (qm rfl (qm rfl (qm rfl ?_)))))
    obtain ⟨v8, a8, h⟩ := bind_some h
    refine BD (ds0 := [_, _, _, _, _, _]) [11] [] [true] (ET N p0 v3.2.1 v3.2.2.1 v3.2.2.2 v3.1 p3 v8 a8) (.p rfl) Ww rfl ⟨rfl, rfl, rfl, rfl, rfl, rfl, tv⟩ rfl rfl (by decide) ⟨rfl, tv⟩ rfl (A1 rfl) tv ⟨(fun h => by cases h), tv⟩ rfl rfl rfl ?_
    refine qa rfl (Ae ?_)
    exact As _ h (sm [] _ _ rfl rfl)
  ·have h := Ao c2 h
   refine Aq ?_
   exact As _ h (sm [] _ _ rfl rfl)
 ·refine Ab (Aa Ac rfl (ql Cz rfl (Ae (AJ (Ab (Aa Ac rfl (BQ rfl (qa rfl (Ae ?_)))))))))
  refine Ap rfl (fun c9 => ?_) (fun c9 => ?_)
  ·have h := An c9 h
   refine Ab (Aa Ac rfl (qm rfl (qa rfl (qa rfl (Ae ?_)))))
   obtain rfl := sj h
   refine Am (sm [] [(8, iD v1.2), (9, iD 1)] [] rfl rfl) (AA ?_)
   exact ⟨⟨[_, _], ⟨.tmp _ _ rfl, ⟨.tmp _ _ rfl, tv⟩⟩, rfl⟩, tv⟩
  ·have h := Ao c9 h
   refine Ab (Aa Ac rfl (BQ rfl (qa rfl (Ae ?_))))
   refine Ap rfl (fun c10 => ?_) (fun c10 => ?_)
   ·have h := An c10 h
    refine Ab (Aa Ac rfl (qm rfl (qa rfl (qa rfl (Ae ?_)))))
    obtain rfl := sj h
    refine Am (sm [] [(8, iD v1.2), (9, iD 2)] [] rfl rfl) (AA ?_)
    exact ⟨⟨[_, _], ⟨.tmp _ _ rfl, ⟨.tmp _ _ rfl, tv⟩⟩, rfl⟩, tv⟩
   ·have h := Ao c10 h
    refine Ab (Aa Ac rfl (qm rfl (qa rfl (qa rfl (Ae ?_)))))
    obtain rfl := sj h
    refine Am (sm [] [(8, iD v1.2), (9, iD 0)] [] rfl rfl) (AA ?_)
    exact ⟨⟨[_, _], ⟨.tmp _ _ rfl, ⟨.tmp _ _ rfl, tv⟩⟩, rfl⟩, tv⟩
theorem FZ (N : Nat) (p0 : List Ah) (p1 : Int) (p2 : Int) (p3 : (Ah × Ah) → Option Int) (r : (List Ah)) (h : Gs.reverseRange N p0 p1 p2 p3 = some r) : Bh Tryz.prog 136 [oD (.own 90000), iD p1, iD p2, oD (.clo (Bb (Cg true Ad true Ad) Bg p3))] [(.vec 3 (p0.map Ad), .vec 3 (r.map Ad))] [] (.tup []) := by
 unfold Gs.reverseRange at h
 refine A9 (n := 34) (rs := []) Tryz.func136 rfl rfl rfl (A5 rfl) (A5 rfl) rfl rfl (A5 rfl) rfl (A5 rfl) fun w0 S0 GL => Jh ?_
 refine Am (sm [] [(0, oD (.own 90000)), (1, iD p1), (2, iD p2), (3, oD (.clo (Bb (Cg true Ad true Ad) Bg p3)))] [(90000, .vec 3 (p0.map Ad))] rfl rfl) (Ab (Aa Ac rfl (qm rfl (qa rfl (Ae (Ab (Aa Ac rfl (qm rfl (Bm rfl (qa rfl (Ae ?_)))))))))))
 refine AE (L := Gs.reverseRange_L1 N) h (fun v1 => mk [(0, oD (.own 90000)), (8, iD v1.2.1), (9, iD v1.2.2)] [(90000, .vec 3 (v1.1.map Ad))]) (fun v2 => mk [] [(90000, .vec 3 (v2.map Ad))]) (fun _ _ => rfl) (sm [] _ _ rfl rfl) (fun j1 n1 v1 h => ?_) (fun v2 s h hs => ?_)
 ·unfold Gs.reverseRange_L1 at h
  refine Ab (Ab (Aa Ac rfl (qm rfl (qm rfl (AY rfl (Ae ?_))))))
  refine Ap rfl (fun c3 => ?_) (fun c3 => ?_)
  ·have h := An c3 h
   refine Aq (AJ (Ab (Aa Ac rfl (qm rfl (qm rfl (qm rfl (qm rfl (qm rfl (qm rfl ?_)))))))))
   obtain ⟨v4, a4, b4, h⟩ := Ak h
   refine qI A8 AU a4 (Af b4) rfl (qJ CP AU (Af b4) rfl (qm rfl (qm rfl ?_)))
   obtain ⟨v5, a5, b5, h⟩ := Ak h
   refine qI A8 AU a5 (Af b5) rfl (qJ CP AU (Af b5) rfl ?_)
   obtain ⟨v6, a6, b6, h⟩ := Ak h
   refine qI A8 AU a6 (Af b6) rfl ?_
   refine AX rfl rfl rfl rfl (Af b6) rfl AU rfl (A5 rfl) (AW Ad v1.1 _ v4) ?_
   obtain ⟨v7, a7, b7, h⟩ := Ak h
   refine qI A8 AU a7 (Af b7) rfl ?_
   refine AX rfl rfl rfl rfl (Af b7) rfl AU rfl (A5 rfl) (AW Ad (v1.1.set ((v1.2.1).toNat) v4) _ v5) ?_
   refine AC (by kernel_rfl) (Ab (Aa Ac rfl (qm rfl (AP rfl (qa rfl (Ae (Aa Ac rfl (qm rfl (Bm rfl (qa rfl (Ae ?_)))))))))))
   exact As _ h (sm [] _ _ rfl rfl)
  ·have h := Ao c3 h
   refine AQ ?_
   exact As _ h (sm [] _ _ rfl rfl)
 ·obtain rfl := sj h
  refine ⟨_, hs.trans (sm [] [] [(90000, .vec 3 (v2.map Ad))] rfl rfl), ?_⟩
  exact ⟨⟨[], tv, rfl⟩, ⟨rfl, tv⟩, tv⟩
theorem E8 (N : Nat) (p0 : List Ah) (p1 : Int) (p2 : Int) (p3 : (Ah × Ah) → Option Int) (r : Bool × (List Ah)) (h : Gs.partialInsertionSort N p0 p1 p2 p3 = some r) : Bh Tryz.prog 137 [oD (.own 90000), iD p1, iD p2, oD (.clo (Bb (Cg true Ad true Ad) Bg p3))] [(.vec 3 (p0.map Ad), .vec 3 (r.2.map Ad))] [] (bD r.1) := by
 unfold Gs.partialInsertionSort at h
 refine A9 (n := 141) (rs := [.tmp 8]) Tryz.func137 rfl rfl rfl (A5 rfl) (A5 rfl) rfl rfl (A5 rfl) rfl (A5 rfl) fun w0 S0 GL => ?_
 refine Am (sm [] [(0, oD (.own 90000)), (1, iD p1), (2, iD p2), (3, oD (.clo (Bb (Cg true Ad true Ad) Bg p3)))] [(90000, .vec 3 (p0.map Ad))] rfl rfl) (Ab (Aa Ac rfl (qa rfl (Ae (Ab (Aa Ac rfl (qm rfl (AP rfl (qa rfl (Ae (Ab (Ab (Aa Ac rfl (qa rfl (Ae ?_)))))))))))))))
 refine AE (L := Gs.partialInsertionSort_L1 N p1 p2 p3) h (fun v1 => mk [(0, oD (.own 90000)), (1, iD p1), (2, iD p2), (3, oD (.clo (Bb (Cg true Ad true Ad) Bg p3))), (9, iD v1.2.1), (10, iD v1.2.2)] [(90000, .vec 3 (v1.1.map Ad))]) (fun v2 => mk [] [(90000, .vec 3 (v2.map Ad))]) (fun _ _ => rfl) (sm [] _ _ rfl rfl) (fun j1 n1 v1 h => ?_) (fun v2 s h hs => ?_)
 ·unfold Gs.partialInsertionSort_L1 at h
  refine Ab (Ab (Aa Ac rfl (qm rfl (AY rfl (Ae ?_)))))
  refine Ap rfl (fun c3 => ?_) (fun c3 => ?_)
  ·have h := An c3 h
   refine Aq ?_
   refine AL h (fun v4 => mk [(0, oD (.own 90000)), (1, iD p1), (2, iD p2), (3, oD (.clo (Bb (Cg true Ad true Ad) Bg p3))), (9, iD v4.2), (10, iD v1.2.2)] [(90000, .vec 3 (v4.1.map Ad))]) (fun j4 h => ?_) (fun v4 h => ?_)
   ·refine AJ (Ab ?_)
    refine AE (L := Gs.partialInsertionSort_L5 N p2 p3 v1) h (fun v5 => mk [(0, oD (.own 90000)), (1, iD p1), (2, iD p2), (3, oD (.clo (Bb (Cg true Ad true Ad) Bg p3))), (9, iD v5), (10, iD v1.2.2)] [(90000, .vec 3 (v1.1.map Ad))]) (fun v6 => mk [(0, oD (.own 90000)), (1, iD p1), (2, iD p2), (3, oD (.clo (Bb (Cg true Ad true Ad) Bg p3))), (9, iD v6), (10, iD v1.2.2)] [(90000, .vec 3 (v1.1.map Ad))]) (fun _ _ => rfl) (sm [] _ _ rfl rfl) (fun j5 n5 v5 h => ?_) (fun v6 s h hs => ?_)
    ·unfold Gs.partialInsertionSort_L5 at h
     refine Ab ?_
     refine AL h (fun v7 => mk [(0, oD (.own 90000)), (1, iD p1), (2, iD p2), (3, oD (.clo (Bb (Cg true Ad true Ad) Bg p3))), (9, iD v5), (10, iD v1.2.2), (36, bD v7)] [(90000, .vec 3 (v1.1.map Ad))]) (fun j7 h => ?_) (fun v7 h => ?_)
     ·refine Aa Ac rfl (qm rfl (qm rfl (AY rfl (qm rfl ?_))))
      refine AB (t := 22) rfl (fun c8 => ?_) (fun c8 => ?_)
      ·have h := An c8 h
       refine qm rfl (qm rfl (qm rfl ?_))
       obtain ⟨v9, a9, b9, h⟩ := Ak h
       refine qI A8 AU a9 (Af b9) rfl (qJ CP AU (Af b9) rfl (qm rfl (qm rfl (Bm rfl ?_))))
       obtain ⟨v10, a10, b10, h⟩ := Ak h
       refine qI A8 AU a10 (Af b10) rfl (qJ CP AU (Af b10) rfl ?_)
       obtain ⟨v11, a11, h⟩ := bind_some h
       refine Cx (ds0 := [_, _]) (ar := (Cg true Ad true Ad) ((v9, v10))) (.g rfl rfl) rfl rfl ⟨rfl, rfl, tv⟩ rfl rfl rfl (Cw (CX _ _ _ _ Bd Bd) a11) ?_
       refine AY rfl (BS rfl (qp rfl (AC (by kernel_rfl) ?_)))
       exact As _ h (sm [] _ _ rfl rfl)
      ·have h := Ao c8 h
       refine qn rfl (qn rfl (qn rfl (qn rfl (qn rfl (qn rfl (qn rfl (qn rfl (qn rfl (qn rfl (qn rfl (qn rfl (qn rfl (qp rfl (AC (by kernel_rfl) ?_))))))))))))))
       exact As _ h (sm [] _ _ rfl rfl)
     ·refine Ap rfl (fun c12 => ?_) (fun c12 => ?_)
      ·have h := An c12 h
       refine Aq (AJ (Aa Ac rfl (qm rfl (AP rfl (qa rfl (Ae ?_))))))
       exact As _ h (sm [] _ _ rfl rfl)
      ·have h := Ao c12 h
       refine AQ ?_
       exact As _ h (sm [] _ _ rfl rfl)
    ·refine Am hs (Ab (Ab (Aa Ac rfl (qm rfl (qm rfl (BQ rfl (Ae ?_)))))))
     refine Ap rfl (fun c13 => ?_) (fun c13 => ?_)
     ·have h := An c13 h
      refine Ab (Aa Ac rfl (qa rfl (Ae ?_)))
      obtain rfl := sj h
      refine Am (sm [] [(8, bD true)] [(90000, .vec 3 (v1.1.map Ad))] rfl rfl) (AA ?_)
      exact ⟨⟨[_], ⟨.tmp _ _ rfl, tv⟩, rfl⟩, ⟨rfl, tv⟩, tv⟩
     ·have h := Ao c13 h
      refine Aq (Ab (Ab (Aa Ac rfl (qm rfl (qm rfl (Bm rfl (AY rfl (Ae ?_))))))))
      refine Ap rfl (fun c14 => ?_) (fun c14 => ?_)
      ·have h := An c14 h
       refine Ab (Aa Ac rfl (qa rfl (Ae ?_)))
       obtain rfl := sj h
       refine Am (sm [] [(8, bD false)] [(90000, .vec 3 (v1.1.map Ad))] rfl rfl) (AA ?_)
       exact ⟨⟨[_], ⟨.tmp _ _ rfl, tv⟩, rfl⟩, ⟨rfl, tv⟩, tv⟩
      ·have h := Ao c14 h
       refine Aq (Ab (Aa Ac rfl (qm rfl (qm rfl (qm rfl (qm rfl (Bm rfl (qm rfl (qm rfl (Bm rfl ?_))))))))))
       obtain ⟨v15, a15, b15, h⟩ := Ak h
       refine qI A8 AU a15 (Af b15) rfl (qJ CP AU (Af b15) rfl (qm rfl (qm rfl ?_)))
       obtain ⟨v16, a16, b16, h⟩ := Ak h
       refine qI A8 AU a16 (Af b16) rfl (qJ CP AU (Af b16) rfl ?_)
       obtain ⟨v17, a17, b17, h⟩ := Ak h
       refine qI A8 AU a17 (Af b17) rfl ?_
       refine AX rfl rfl rfl rfl (Af b17) rfl AU rfl (A5 rfl) (AW Ad v1.1 _ v15) ?_
       obtain ⟨v18, a18, b18, h⟩ := Ak h
       refine qI A8 AU a18 (Af b18) rfl ?_
       refine AX rfl rfl rfl rfl (Af b18) rfl AU rfl (A5 rfl) (AW Ad (v1.1.set ((v6).toNat) v15) _ v16) ?_
       refine AC (by kernel_rfl) ?_
       refine AL h (fun v19 => mk [(0, oD (.own 90000)), (1, iD p1), (2, iD p2), (3, oD (.clo (Bb (Cg true Ad true Ad) Bg p3))), (9, iD v6), (10, iD v1.2.2)] [(90000, .vec 3 (v19.map Ad))]) (fun j19 h => ?_) (fun v19 h => ?_)
       ·refine Ab (Aa Ac rfl (qm rfl (qm rfl (Bm rfl (Cv rfl (Ae ?_))))))
        refine Ap rfl (fun c20 => ?_) (fun c20 => ?_)
        ·have h := An c20 h
         refine Ab (Aa Ac rfl (qm rfl (Bm rfl (qa rfl (Ae ?_)))))
         refine AE (L := Gs.partialInsertionSort_L21 N p3) h (fun v21 => mk [(0, oD (.own 90000)), (1, iD p1), (2, iD p2), (3, oD (.clo (Bb (Cg true Ad true Ad) Bg p3))), (9, iD v6), (10, iD v1.2.2), (11, iD v21.2)] [(90000, .vec 3 (v21.1.map Ad))]) (fun v22 => mk [(0, oD (.own 90000)), (1, iD p1), (2, iD p2), (3, oD (.clo (Bb (Cg true Ad true Ad) Bg p3))), (9, iD v6), (10, iD v1.2.2)] [(90000, .vec 3 (v22.map Ad))]) (fun _ _ => rfl) (sm [] _ _ rfl rfl) (fun j21 n21 v21 h => ?_) (fun v22 s h hs => ?_)
         ·unfold Gs.partialInsertionSort_L21 at h
          refine Ab (Ab (Aa Ac rfl (qm rfl (Cv rfl (Ae ?_)))))
          refine Ap rfl (fun c23 => ?_) (fun c23 => ?_)
          ·have h := An c23 h
           refine Aq (Ab (AJ (Ab (Ab (Aa Ac rfl (qm rfl (qm rfl (qm rfl ?_))))))))
           obtain ⟨v24, a24, b24, h⟩ := Ak h
           refine qI A8 AU a24 (Af b24) rfl (qJ CP AU (Af b24) rfl (qm rfl (qm rfl (Bm rfl ?_))))
           obtain ⟨v25, a25, b25, h⟩ := Ak h
           refine qI A8 AU a25 (Af b25) rfl (qJ CP AU (Af b25) rfl ?_)
           obtain ⟨v26, a26, h⟩ := bind_some h
           refine Cx (ds0 := [_, _]) (ar := (Cg true Ad true Ad) ((v24, v25))) (.p rfl) rfl rfl ⟨rfl, rfl, tv⟩ rfl rfl rfl (Cw (CX _ _ _ _ Bd Bd) a26) ?_
           refine AY rfl (BS rfl (AC (by kernel_rfl) ?_))
           refine Ap rfl (fun c27 => ?_) (fun c27 => ?_)
           ·have h := An c27 h
            refine AQ ?_
            exact As _ h (sm [] _ _ rfl rfl)
           ·have h := Ao c27 h
            refine Aq (Aa Ac rfl (qm rfl (qm rfl (qm rfl (qm rfl (Bm rfl (qm rfl (qm rfl (Bm rfl ?_)))))))))
            obtain ⟨v28, a28, b28, h⟩ := Ak h
            refine qI A8 AU a28 (Af b28) rfl (qJ CP AU (Af b28) rfl (qm rfl (qm rfl ?_)))
            obtain ⟨v29, a29, b29, h⟩ := Ak h
            refine qI A8 AU a29 (Af b29) rfl (qJ CP AU (Af b29) rfl ?_)
            obtain ⟨v30, a30, b30, h⟩ := Ak h
            refine qI A8 AU a30 (Af b30) rfl ?_
            refine AX rfl rfl rfl rfl (Af b30) rfl AU rfl (A5 rfl) (AW Ad v21.1 _ v28) ?_
            obtain ⟨v31, a31, b31, h⟩ := Ak h
            refine qI A8 AU a31 (Af b31) rfl ?_
            refine AX rfl rfl rfl rfl (Af b31) rfl AU rfl (A5 rfl) (AW Ad (v21.1.set ((v21.2).toNat) v28) _ v29) ?_
            refine AC (by kernel_rfl) (Aa Ac rfl (qm rfl (Bm rfl (qa rfl (Ae ?_)))))
            exact As _ h (sm [] _ _ rfl rfl)
          ·have h := Ao c23 h
           refine AQ ?_
           exact As _ h (sm [] _ _ rfl rfl)
         ·exact As _ h (hs.trans (sm [] _ _ rfl rfl))
        ·have h := Ao c20 h
         refine Aq ?_
         exact As _ h (sm [] _ _ rfl rfl)
       ·refine Ab (Aa Ac rfl (qm rfl (qm rfl (Bm rfl (Cv rfl (Ae ?_))))))
        refine Ap rfl (fun c32 => ?_) (fun c32 => ?_)
        ·have h := An c32 h
         refine Ab (Aa Ac rfl (qm rfl (AP rfl (qa rfl (Ae ?_)))))
         refine AE (L := Gs.partialInsertionSort_L33 N p2 p3) h (fun v33 => mk [(0, oD (.own 90000)), (1, iD p1), (2, iD p2), (3, oD (.clo (Bb (Cg true Ad true Ad) Bg p3))), (9, iD v6), (10, iD v1.2.2), (12, iD v33.2)] [(90000, .vec 3 (v33.1.map Ad))]) (fun v34 => mk [(0, oD (.own 90000)), (1, iD p1), (2, iD p2), (3, oD (.clo (Bb (Cg true Ad true Ad) Bg p3))), (9, iD v6), (10, iD v1.2.2)] [(90000, .vec 3 (v34.map Ad))]) (fun _ _ => rfl) (sm [] _ _ rfl rfl) (fun j33 n33 v33 h => ?_) (fun v34 s h hs => ?_)
         ·unfold Gs.partialInsertionSort_L33 at h
          refine Ab (Ab (Aa Ac rfl (qm rfl (qm rfl (AY rfl (Ae ?_))))))
          refine Ap rfl (fun c35 => ?_) (fun c35 => ?_)
          ·have h := An c35 h
           refine Aq (Ab (AJ (Ab (Ab (Aa Ac rfl (qm rfl (qm rfl (qm rfl ?_))))))))
           obtain ⟨v36, a36, b36, h⟩ := Ak h
           refine qI A8 AU a36 (Af b36) rfl (qJ CP AU (Af b36) rfl (qm rfl (qm rfl (Bm rfl ?_))))
           obtain ⟨v37, a37, b37, h⟩ := Ak h
           refine qI A8 AU a37 (Af b37) rfl (qJ CP AU (Af b37) rfl ?_)
           obtain ⟨v38, a38, h⟩ := bind_some h
           refine Cx (ds0 := [_, _]) (ar := (Cg true Ad true Ad) ((v36, v37))) (.p rfl) rfl rfl ⟨rfl, rfl, tv⟩ rfl rfl rfl (Cw (CX _ _ _ _ Bd Bd) a38) ?_
           refine AY rfl (BS rfl (AC (by kernel_rfl) ?_))
           refine Ap rfl (fun c39 => ?_) (fun c39 => ?_)
           ·have h := An c39 h
            refine AQ ?_
            exact As _ h (sm [] _ _ rfl rfl)
           ·have h := Ao c39 h
            refine Aq (Aa Ac rfl (qm rfl (qm rfl (qm rfl (qm rfl (Bm rfl (qm rfl (qm rfl (Bm rfl ?_)))))))))
            obtain ⟨v40, a40, b40, h⟩ := Ak h
            refine qI A8 AU a40 (Af b40) rfl (qJ CP AU (Af b40) rfl (qm rfl (qm rfl ?_)))
            obtain ⟨v41, a41, b41, h⟩ := Ak h
            refine qI A8 AU a41 (Af b41) rfl (qJ CP AU (Af b41) rfl ?_)
            obtain ⟨v42, a42, b42, h⟩ := Ak h
            refine qI A8 AU a42 (Af b42) rfl ?_
            refine AX rfl rfl rfl rfl (Af b42) rfl AU rfl (A5 rfl) (AW Ad v33.1 _ v40) ?_
            obtain ⟨v43, a43, b43, h⟩ := Ak h
            refine qI A8 AU a43 (Af b43) rfl ?_
            refine AX rfl rfl rfl rfl (Af b43) rfl AU rfl (A5 rfl) (AW Ad (v33.1.set ((v33.2).toNat) v40) _ v41) ?_
            refine AC (by kernel_rfl) (Aa Ac rfl (qm rfl (AP rfl (qa rfl (Ae ?_)))))
            exact As _ h (sm [] _ _ rfl rfl)
          ·have h := Ao c35 h
           refine AQ ?_
           exact As _ h (sm [] _ _ rfl rfl)
         ·exact As _ h (hs.trans (sm [] _ _ rfl rfl))
        ·have h := Ao c32 h
         refine Aq ?_
         exact As _ h (sm [] _ _ rfl rfl)
   ·refine Aa Ac rfl (qm rfl (AP rfl (qa rfl (Ae ?_))))
    exact As _ h (sm [] _ _ rfl rfl)
  ·have h := Ao c3 h
   refine AQ ?_
   exact As _ h (sm [] _ _ rfl rfl)
 ·refine Am hs (Ab (Aa Ac rfl (qa rfl (Ae ?_))))
  obtain rfl := sj h
  refine Am (sm [] [(8, bD false)] [(90000, .vec 3 (v2.map Ad))] rfl rfl) (AA ?_)
  exact ⟨⟨[_], ⟨.tmp _ _ rfl, tv⟩, rfl⟩, ⟨rfl, tv⟩, tv⟩
theorem FE (N : Nat) (p0 : List Ah) (p1 : Int) (p2 : Int) (p3 : Int) (p4 : (Ah × Ah) → Option Int) (r : Int × (List Ah)) (h : Gs.partitionEqual N p0 p1 p2 p3 p4 = some r) : Bh Tryz.prog 138 [oD (.own 90000), iD p1, iD p2, iD p3, oD (.clo (Bb (Cg true Ad true Ad) Bg p4))] [(.vec 3 (p0.map Ad), .vec 3 (r.2.map Ad))] [] (iD r.1) := by
 unfold Gs.partitionEqual at h
 refine A9 (n := 90) (rs := [.tmp 10]) Tryz.func138 rfl rfl rfl (A5 rfl) (A5 rfl) rfl rfl (A5 rfl) rfl (A5 rfl) fun w0 S0 GL => ?_
 refine Am (sm [] [(0, oD (.own 90000)), (1, iD p1), (2, iD p2), (3, iD p3), (4, oD (.clo (Bb (Cg true Ad true Ad) Bg p4)))] [(90000, .vec 3 (p0.map Ad))] rfl rfl) (Ab (Aa Ac rfl (qa rfl (Ae (Ab (Aa Ac rfl (qm rfl (qm rfl (qm rfl (qm rfl (qm rfl (qm rfl ?_))))))))))))
 obtain ⟨v1, a1, b1, h⟩ := Ak h
 refine qI A8 AU a1 (Af b1) rfl (qJ CP AU (Af b1) rfl (qm rfl (qm rfl ?_)))
 obtain ⟨v2, a2, b2, h⟩ := Ak h
 refine qI A8 AU a2 (Af b2) rfl (qJ CP AU (Af b2) rfl ?_)
 obtain ⟨v3, a3, b3, h⟩ := Ak h
 refine qI A8 AU a3 (Af b3) rfl ?_
 refine AX rfl rfl rfl rfl (Af b3) rfl AU rfl (A5 rfl) (AW Ad p0 _ v1) ?_
 obtain ⟨v4, a4, b4, h⟩ := Ak h
 refine qI A8 AU a4 (Af b4) rfl ?_
 refine AX rfl rfl rfl rfl (Af b4) rfl AU rfl (A5 rfl) (AW Ad (p0.set ((p1).toNat) v1) _ v2) ?_
 refine AC (by kernel_rfl) (Ab (Aa Ac rfl (qm rfl (AP rfl (qm rfl (Bm rfl (qa rfl (qa rfl (Ae (Ab ?_))))))))))
 refine AE (L := Gs.partitionEqual_L5 N p1 p4) h (fun v5 => mk [(0, oD (.own 90000)), (1, iD p1), (4, oD (.clo (Bb (Cg true Ad true Ad) Bg p4))), (11, iD v5.2.1), (12, iD v5.2.2)] [(90000, .vec 3 (v5.1.map Ad))]) (fun v6 => mk [(11, iD v6.2)] [(90000, .vec 3 (v6.1.map Ad))]) (fun _ _ => rfl) (sm [] _ _ rfl rfl) (fun j5 n5 v5 h => ?_) (fun v6 s h hs => ?_)
 ·unfold Gs.partitionEqual_L5 at h
  refine AJ (Ab ?_)
  refine AE (L := Gs.partitionEqual_L7 N p1 p4 v5) h (fun v7 => mk [(0, oD (.own 90000)), (1, iD p1), (4, oD (.clo (Bb (Cg true Ad true Ad) Bg p4))), (11, iD v7), (12, iD v5.2.2)] [(90000, .vec 3 (v5.1.map Ad))]) (fun v8 => mk [(0, oD (.own 90000)), (1, iD p1), (4, oD (.clo (Bb (Cg true Ad true Ad) Bg p4))), (11, iD v8), (12, iD v5.2.2)] [(90000, .vec 3 (v5.1.map Ad))]) (fun _ _ => rfl) (sm [] _ _ rfl rfl) (fun j7 n7 v7 h => ?_) (fun v8 s h hs => ?_)
  ·unfold Gs.partitionEqual_L7 at h
   refine Ab ?_
   refine AL h (fun v9 => mk [(0, oD (.own 90000)), (1, iD p1), (4, oD (.clo (Bb (Cg true Ad true Ad) Bg p4))), (11, iD v7), (12, iD v5.2.2), (47, bD v9)] [(90000, .vec 3 (v5.1.map Ad))]) (fun j9 h => ?_) (fun v9 h => ?_)
   ·refine Aa Ac rfl (qm rfl (qm rfl (GU rfl (qm rfl ?_))))
    refine AB (t := 34) rfl (fun c10 => ?_) (fun c10 => ?_)
    ·have h := An c10 h
     refine qm rfl (qm rfl (qm rfl ?_))
     obtain ⟨v11, a11, b11, h⟩ := Ak h
     refine qI A8 AU a11 (Af b11) rfl (qJ CP AU (Af b11) rfl (qm rfl (qm rfl ?_)))
     obtain ⟨v12, a12, b12, h⟩ := Ak h
     refine qI A8 AU a12 (Af b12) rfl (qJ CP AU (Af b12) rfl ?_)
     obtain ⟨v13, a13, h⟩ := bind_some h
     refine Cx (ds0 := [_, _]) (ar := (Cg true Ad true Ad) ((v11, v12))) (.g rfl rfl) rfl rfl ⟨rfl, rfl, tv⟩ rfl rfl rfl (Cw (CX _ _ _ _ Bd Bd) a13) ?_
     refine AY rfl (BS rfl (qp rfl (AC (by kernel_rfl) ?_)))
     exact As _ h (sm [] _ _ rfl rfl)
    ·have h := Ao c10 h
     refine qn rfl (qn rfl (qn rfl (qn rfl (qn rfl (qn rfl (qn rfl (qn rfl (qn rfl (qn rfl (qn rfl (qn rfl (qp rfl (AC (by kernel_rfl) ?_)))))))))))))
     exact As _ h (sm [] _ _ rfl rfl)
   ·refine Ap rfl (fun c14 => ?_) (fun c14 => ?_)
    ·have h := An c14 h
     refine Aq (AJ (Aa Ac rfl (qm rfl (AP rfl (qa rfl (Ae ?_))))))
     exact As _ h (sm [] _ _ rfl rfl)
    ·have h := Ao c14 h
     refine AQ ?_
     exact As _ h (sm [] _ _ rfl rfl)
  ·refine Am hs (Ab ?_)
   refine AE (L := Gs.partitionEqual_L15 N p1 p4 v5 v8) h (fun v15 => mk [(0, oD (.own 90000)), (1, iD p1), (4, oD (.clo (Bb (Cg true Ad true Ad) Bg p4))), (11, iD v8), (12, iD v15)] [(90000, .vec 3 (v5.1.map Ad))]) (fun v16 => mk [(0, oD (.own 90000)), (1, iD p1), (4, oD (.clo (Bb (Cg true Ad true Ad) Bg p4))), (11, iD v8), (12, iD v16)] [(90000, .vec 3 (v5.1.map Ad))]) (fun _ _ => rfl) (sm [] _ _ rfl rfl) (fun j15 n15 v15 h => ?_) (fun v16 s h hs => ?_)
   ·unfold Gs.partitionEqual_L15 at h
    refine Ab ?_
    refine AL h (fun v17 => mk [(0, oD (.own 90000)), (1, iD p1), (4, oD (.clo (Bb (Cg true Ad true Ad) Bg p4))), (11, iD v8), (12, iD v15), (65, bD v17)] [(90000, .vec 3 (v5.1.map Ad))]) (fun j17 h => ?_) (fun v17 h => ?_)
    ·refine Aa Ac rfl (qm rfl (qm rfl (GU rfl (qm rfl ?_))))
     refine AB (t := 53) rfl (fun c18 => ?_) (fun c18 => ?_)
     ·have h := An c18 h
      refine qm rfl (qm rfl (qm rfl ?_))
      obtain ⟨v19, a19, b19, h⟩ := Ak h
      refine qI A8 AU a19 (Af b19) rfl (qJ CP AU (Af b19) rfl (qm rfl (qm rfl ?_)))
      obtain ⟨v20, a20, b20, h⟩ := Ak h
      refine qI A8 AU a20 (Af b20) rfl (qJ CP AU (Af b20) rfl ?_)
      obtain ⟨v21, a21, h⟩ := bind_some h
      refine Cx (ds0 := [_, _]) (ar := (Cg true Ad true Ad) ((v19, v20))) (.g rfl rfl) rfl rfl ⟨rfl, rfl, tv⟩ rfl rfl rfl (Cw (CX _ _ _ _ Bd Bd) a21) ?_
      refine AY rfl (qp rfl (AC (by kernel_rfl) ?_))
      exact As _ h (sm [] _ _ rfl rfl)
     ·have h := Ao c18 h
      refine qn rfl (qn rfl (qn rfl (qn rfl (qn rfl (qn rfl (qn rfl (qn rfl (qn rfl (qn rfl (qn rfl (qp rfl (AC (by kernel_rfl) ?_))))))))))))
      exact As _ h (sm [] _ _ rfl rfl)
    ·refine Ap rfl (fun c22 => ?_) (fun c22 => ?_)
     ·have h := An c22 h
      refine Aq (AJ (Aa Ac rfl (qm rfl (Bm rfl (qa rfl (Ae ?_))))))
      exact As _ h (sm [] _ _ rfl rfl)
     ·have h := Ao c22 h
      refine AQ ?_
      exact As _ h (sm [] _ _ rfl rfl)
   ·refine Am hs (Ab (Ab (Aa Ac rfl (qm rfl (qm rfl (DC rfl (Ae ?_)))))))
    refine Ap rfl (fun c23 => ?_) (fun c23 => ?_)
    ·have h := An c23 h
     refine AQ ?_
     exact As _ h (sm [] _ _ rfl rfl)
    ·have h := Ao c23 h
     refine Aq (Ab (Aa Ac rfl (qm rfl (qm rfl (qm rfl (qm rfl (qm rfl (qm rfl ?_))))))))
     obtain ⟨v24, a24, b24, h⟩ := Ak h
     refine qI A8 AU a24 (Af b24) rfl (qJ CP AU (Af b24) rfl (qm rfl (qm rfl ?_)))
     obtain ⟨v25, a25, b25, h⟩ := Ak h
     refine qI A8 AU a25 (Af b25) rfl (qJ CP AU (Af b25) rfl ?_)
     obtain ⟨v26, a26, b26, h⟩ := Ak h
     refine qI A8 AU a26 (Af b26) rfl ?_
     refine AX rfl rfl rfl rfl (Af b26) rfl AU rfl (A5 rfl) (AW Ad v5.1 _ v24) ?_
     obtain ⟨v27, a27, b27, h⟩ := Ak h
     refine qI A8 AU a27 (Af b27) rfl ?_
     refine AX rfl rfl rfl rfl (Af b27) rfl AU rfl (A5 rfl) (AW Ad (v5.1.set ((v8).toNat) v24) _ v25) ?_
     refine AC (by kernel_rfl) (Ab (Aa Ac rfl (qm rfl (AP rfl (qa rfl (Ae (Aa Ac rfl (qm rfl (Bm rfl (qa rfl (Ae ?_)))))))))))
     exact As _ h (sm [] _ _ rfl rfl)
 ·refine Am hs (Ab (Aa Ac rfl (qm rfl (qa rfl (Ae ?_)))))
  obtain rfl := sj h
  refine Am (sm [] [(10, iD v6.2)] [(90000, .vec 3 (v6.1.map Ad))] rfl rfl) (AA ?_)
  exact ⟨⟨[_], ⟨.tmp _ _ rfl, tv⟩, rfl⟩, ⟨rfl, tv⟩, tv⟩
end Go.Lift
