/- Lemmas for ReachVersionsSaid, which YtfnobkfnohhmmaaFinW4 proves. -/
import Derived.Test.YtfnobkfnohhmmaaCode
/- That the code does what the shallow programs do, function by function. Written by a program (gen.py). -/
namespace Go.Lift
open Go.RowKit
open Go.Proofs
set_option maxRecDepth 10000 in
theorem GO (N : Nat) (p0 : List Int) (p1 : Int) (r : Int) (h : C6 N p0 p1 = some r) : Az Try.prog 35 [.e (.one (.pure (.sl (p0.map Bs)))), .e (.one (.pure (.val (.int .i64 p1))))] [] (.e (.one (.pure (.val (.int .i64 r))))) := by
 unfold C6 at h
 refine Ar (n := 14) (rs := [.tmp 4]) Try.func35 rfl rfl rfl (AV rfl) (AV rfl) rfl fun w0 S0 => ?_
 refine Ab (Aa Ac rfl (qa rfl (Ad (Ab (Ab (Aa Ac rfl (qm rfl (qm rfl (AN Hc rfl (AT rfl (Ad ?_)))))))))))
 refine Ao rfl (fun c1 => ?_) (fun c1 => ?_)
 ·have h := Am c1 h
  refine Ab (Aa Ac rfl (qm rfl (qm rfl ?_)))
  obtain ⟨v2, a2, b2, h⟩ := Ah h
  refine qi Hc Qm a2 (Ag b2) rfl (qk Ro rfl (FH PT O1 rfl (qa rfl (Ad ?_))))
  obtain rfl := sj h
  refine Ak (sm [] [(4, .e (.one (.pure (.val (.int .i64 ((IntKind.wrap .i64 v2)))))))] [] rfl rfl) (Ax ?_)
  exact ⟨⟨[_], ⟨.tmp _ _ rfl, trivial⟩, rfl⟩, trivial⟩
 ·have h := An c1 h
  refine Ap (Ab (Aa Ac rfl (qa rfl (Ad ?_))))
  obtain rfl := sj h
  refine Ak (sm [] [(4, .e (.one (.pure (.val (.int .i64 0)))))] [] rfl rfl) (Ax ?_)
  exact ⟨⟨[_], ⟨.tmp _ _ rfl, trivial⟩, rfl⟩, trivial⟩
set_option maxRecDepth 10000 in
theorem Dm (N : Nat) (p0 : AG) (r : Bool) (h : Bo N p0 = some r) : Az Try.prog 36 [.e (.agg [.pure (.val (.int .i64 p0.fKind)), .pure (.val (.int .i64 p0.fFrom)), .pure (.val (.int .i64 p0.fTo)), .pure (.val (.bool p0.fAware)), .pure (.sl (p0.fOK.map (EB eB))), .pure (.sl (p0.fRewrite.map (EB eB)))])] [] (.e (.one (.pure (.val (.bool r))))) := by
 unfold Bo at h
 refine Ar (n := 11) (rs := [.tmp 2]) Try.func36 rfl rfl rfl (AV rfl) (AV rfl) rfl fun w0 S0 => ?_
 refine Ab (Aa Ac rfl (qb rfl (qa rfl (Ad ?_))))
 refine AO h (fun v1 => mk [(2, .e (.one (.pure (.val (.bool v1)))))] []) (fun j1 h => ?_) (fun v1 h => ?_)
 ·refine Aa Ac rfl (qf ES rfl (ql CO rfl (Cm rfl (qm rfl ?_))))
  refine AA (t := 6) rfl (fun c2 => ?_) (fun c2 => ?_)
  ·have h := Am c2 h
   refine qn rfl (qn rfl (qn rfl (qp rfl (qa rfl (Ad ?_)))))
   exact As _ h (sm [] _ _ rfl rfl)
  ·have h := An c2 h
   refine qf ES rfl (ql CO rfl (Cm rfl (qp rfl (qa rfl (Ad ?_)))))
   exact As _ h (sm [] _ _ rfl rfl)
 ·obtain rfl := sj h
  refine Ak (sm [] [(2, .e (.one (.pure (.val (.bool v1)))))] [] rfl rfl) (Ax ?_)
  exact ⟨⟨[_], ⟨.tmp _ _ rfl, trivial⟩, rfl⟩, trivial⟩
set_option maxRecDepth 10000 in
theorem GP (N : Nat) (p0 : Int) (p1 : Int) (p2 : Int) (p3 : Bool) (r : (List (List Bool))) (h : C7 N p0 p1 p2 p3 = some r) : Az Try.prog 37 [.e (.one (.pure (.val (.int .i64 p0)))), .e (.one (.pure (.val (.int .i64 p1)))), .e (.one (.pure (.val (.int .u16 p2)))), .e (.one (.pure (.val (.bool p3))))] [(1, r.map (EB eB))] (.e (.one (.own 0))) := by
 unfold C7 at h
 refine Ar (n := 47) (rs := [.tmp 8]) Try.func37 rfl rfl rfl (AV rfl) (AV rfl) rfl fun w0 S0 => ?_
 refine Ab (Aa Ac rfl (qa rfl (Ad (Ab (Aa Ac rfl (qa rfl (Ad (Ab (Ab (Aa Ac rfl (qa rfl (Ad ?_))))))))))))
 refine AB (L := BT N p0 p1 p2 p3) h (fun v1 => mk [(0, .e (.one (.pure (.val (.int .i64 p0))))), (1, .e (.one (.pure (.val (.int .i64 p1))))), (2, .e (.one (.pure (.val (.int .u16 p2))))), (3, .e (.one (.pure (.val (.bool p3))))), (9, .e (.one (.own 2001))), (10, .e (.one (.pure (.val (.int .i64 v1.2)))))] [(2001, .vec 1 (v1.1.map (EB eB)))]) (fun v2 => mk [(9, .e (.one (.own 2002)))] [(2002, .vec 1 (v2.map (EB eB)))]) (fun _ _ => rfl) ((Ba 9 2010 1 rfl rfl rfl).trans (sm [(2001, 2010)] _ _ rfl rfl)) (fun j1 n1 v1 h => ?_) (fun v2 s h hs => ?_)
 ·unfold BT at h
  refine Ab (Ab (Aa Ac rfl (qm rfl (qm rfl (AT rfl (Ad ?_))))))
  refine Ao rfl (fun c3 => ?_) (fun c3 => ?_)
  ·have h := Am c3 h
   refine Ap (Ab (AI (Ab (Aa Ac rfl (qa rfl (Ad (Ab (Ab (Aa Ac rfl (qa rfl (Ad ?_)))))))))))
   refine AB (L := BW N p1 p2 p3 v1) h (fun v4 => mk [(0, .e (.one (.pure (.val (.int .i64 p0))))), (1, .e (.one (.pure (.val (.int .i64 p1))))), (2, .e (.one (.pure (.val (.int .u16 p2))))), (3, .e (.one (.pure (.val (.bool p3))))), (9, .e (.one (.own 2003))), (10, .e (.one (.pure (.val (.int .i64 v1.2))))), (11, .e (.one (.own 2004))), (12, .e (.one (.pure (.val (.int .i64 v4.2)))))] [(2003, .vec 1 (v1.1.map (EB eB))), (2004, .vec 1 (v4.1.map eB))]) (fun v5 => mk [(0, .e (.one (.pure (.val (.int .i64 p0))))), (1, .e (.one (.pure (.val (.int .i64 p1))))), (2, .e (.one (.pure (.val (.int .u16 p2))))), (3, .e (.one (.pure (.val (.bool p3))))), (9, .e (.one (.own 2005))), (10, .e (.one (.pure (.val (.int .i64 v1.2))))), (11, .e (.one (.own 2006)))] [(2005, .vec 1 (v1.1.map (EB eB))), (2006, .vec 1 (v5.map eB))]) (fun _ _ => rfl) ((Ba 11 2009 1 rfl rfl rfl).trans (sm [(2003, 2001), (2004, 2009)] _ _ rfl rfl)) (fun j4 n4 v4 h => ?_) (fun v5 s h hs => ?_)
   ·unfold BW at h
    refine Ab (Ab (Aa Ac rfl (qm rfl (qm rfl (AT rfl (Ad ?_))))))
    refine Ao rfl (fun c6 => ?_) (fun c6 => ?_)
    ·have h := Am c6 h
     refine Ap ?_
     refine AO h (fun v7 => mk [(0, .e (.one (.pure (.val (.int .i64 p0))))), (1, .e (.one (.pure (.val (.int .i64 p1))))), (2, .e (.one (.pure (.val (.int .u16 p2))))), (3, .e (.one (.pure (.val (.bool p3))))), (9, .e (.one (.own 2007))), (10, .e (.one (.pure (.val (.int .i64 v1.2))))), (11, .e (.one (.own 2008))), (12, .e (.one (.pure (.val (.int .i64 v4.2)))))] [(2007, .vec 1 (v1.1.map (EB eB))), (2008, .vec 1 (v7.map eB))]) (fun j7 h => ?_) (fun v7 h => ?_)
     ·refine AI (Aa Ac rfl (qm rfl (qm rfl (qm rfl ?_))))
      refine AA (t := 25) rfl (fun c8 => ?_) (fun c8 => ?_)
      ·have h := Am c8 h
       refine qm rfl (qm rfl (Cm rfl (qp rfl (qm rfl ?_))))
       refine AA (t := 30) rfl (fun c9 => ?_) (fun c9 => ?_)
       ·have h := Am c9 h
        refine qn rfl (qn rfl (qn rfl (qn rfl (qn rfl (qn rfl (qn rfl (qn rfl (qp rfl (Er FY Ny PF rfl ?_)))))))))
        obtain ⟨c10, h⟩ := AM h
        refine DE (f := eB) FY FY Ny QU PF c10 rfl (qa rfl (Ad ?_))
        exact As _ h (sm [(2007, 2003), (2008, 41)] _ _ rfl rfl)
       ·have h := An c9 h
        refine qm rfl (qm rfl (G6 rfl (qm rfl (AQ rfl ?_))))
        obtain ⟨c11, h⟩ := AM h
        refine Gj rfl c11 (Jd rfl (by decide) (Cm rfl (qp rfl (Er FY Ny PF rfl ?_))))
        obtain ⟨c12, h⟩ := AM h
        refine DE (f := eB) FY FY Ny QU PF c12 rfl (qa rfl (Ad ?_))
        exact As _ h (sm [(2007, 2003), (2008, 41)] _ _ rfl rfl)
      ·have h := An c8 h
       refine qn rfl (qn rfl (qn rfl (qp rfl (qm rfl (qm rfl (qm rfl (G6 rfl (qm rfl (AQ rfl ?_)))))))))
       obtain ⟨c13, h⟩ := AM h
       refine Gj rfl c13 (Jd rfl (by decide) (Cm rfl (qp rfl (Er FY Ny PF rfl ?_))))
       obtain ⟨c14, h⟩ := AM h
       refine DE (f := eB) FY FY Ny QU PF c14 rfl (qa rfl (Ad ?_))
       exact As _ h (sm [(2007, 2003), (2008, 41)] _ _ rfl rfl)
     ·refine Aa Ac rfl (qm rfl (AQ rfl (qa rfl (Ad ?_))))
      exact As _ h (sm [(2003, 2007), (2004, 2008)] _ _ rfl rfl)
    ·have h := An c6 h
     refine AS ?_
     exact As _ h (sm [(2005, 2003), (2006, 2004)] _ _ rfl rfl)
   ·refine Ak hs (Aa Ac rfl (qm rfl (qm rfl (C2 (A3 2006 _ _ rfl rfl) (Er FF LN QY rfl ?_)))))
    obtain ⟨c15, h⟩ := AM h
    refine DE (f := (EB eB)) FF FF LN RK QY c15 rfl (qa rfl (Ad (Aa Ac rfl (qm rfl (AQ rfl (qa rfl (Ad ?_)))))))
    exact As _ h (sm [(2001, 45)] _ _ rfl rfl)
  ·have h := An c3 h
   refine AS ?_
   exact As _ h (sm [(2002, 2001)] _ _ rfl rfl)
 ·refine Ak hs (Ab (Aa Ac rfl (qm rfl (qa rfl (Ad ?_)))))
  obtain rfl := sj h
  refine Ak (sm [(1000, 2002)] [(8, .e (.one (.own 1000)))] [(1000, .vec 1 (v2.map (EB eB)))] rfl rfl) (Ax ?_)
  exact ⟨⟨[_], ⟨.tmp _ _ rfl, trivial⟩, rfl⟩, ⟨rfl, trivial⟩⟩
set_option maxRecDepth 10000 in
theorem Jt (N : Nat) (p0 : Ce) (r : Ai × Bool) (h : DT N p0 = some r) : Az Try.prog 15 [.e (.agg [.pure (.sl (p0.fVersions.map Bs)), .pure (.sl (p0.fNow.map Bs)), .pure (.sl (p0.fTarget.map Bs)), .pure (.sl (p0.fLinks.map BQ))])] [(1, r.1.fVersions.map Aj), (1, r.1.fNow.map Aj), (1, r.1.fTarget.map Aj), (6, r.1.fTables.map Aq)] (.tup [.agg [.own 0, .own 1, .own 2, .own 3], .one (.pure (.val (.bool r.2)))]) := by
 unfold DT at h
 refine Ar (n := 152) (rs := [.cell 2 25, .tmp 3]) Try.func15 rfl rfl rfl (AV rfl) (AV rfl) rfl fun w0 S0 => ?_
 refine Ab (Aa Ac rfl (qb rfl (qz NR rfl (qa rfl (Ad (Ab ?_))))))
 refine AO h (fun v1 => mk [(1, .e (.one (.ptr 1 0))), (2, .e (.one (.ptr 2 0))), (19, .e (.one (.pure (.val (.bool v1)))))] [(1, .box [.pure (.sl (p0.fVersions.map Bs)), .pure (.sl (p0.fNow.map Bs)), .pure (.sl (p0.fTarget.map Bs)), .pure (.sl (p0.fLinks.map BQ))]), (2, .box [.pure (.nil0), .pure (.nil0), .pure (.nil0), .pure (.nil0)])]) (fun j1 h => ?_) (fun v1 h => ?_)
 ·refine Aa Ac rfl (qf L1 rfl (ql Pg rfl (AN Hc rfl (Es rfl (qm rfl ?_)))))
  refine AA (t := 14) rfl (fun c2 => ?_) (fun c2 => ?_)
  ·have h := Am c2 h
   refine qn rfl (qn rfl (qn rfl (qn rfl (qp rfl (Ad ?_)))))
   exact As _ h (sm [] _ _ rfl rfl)
  ·have h := An c2 h
   refine qf L3 rfl (ql QZ rfl (AN OB rfl (Es rfl (qp rfl (Ad ?_)))))
   exact As _ h (sm [] _ _ rfl rfl)
 ·refine Ao rfl (fun c3 => ?_) (fun c3 => ?_)
  ·have h := Am c3 h
   refine Ab (Aa Ac rfl (C4 NR Sa rfl (qs Dz rfl (qa rfl (Ad ?_)))))
   obtain rfl := sj h
   refine Ak ((A1 2 0 2001 1 _ rfl rfl rfl rfl).trans ((A1 2 1 2002 1 _ rfl rfl rfl rfl).trans ((A1 2 2 2003 1 _ rfl rfl rfl rfl).trans ((A1 2 3 2004 6 _ rfl rfl rfl rfl).trans (sm [(1000, 2001), (1001, 2002), (1002, 2003), (1003, 2004)] [(2, .e (.one (.ptr 2 0))), (3, .e (.one (.pure (.val (.bool false)))))] [(2, .box [.own 1000, .own 1001, .own 1002, .own 1003]), (1000, .vec 1 ((([] : List Int)).map Aj)), (1001, .vec 1 ((([] : List Int)).map Aj)), (1002, .vec 1 ((([] : List Int)).map Aj)), (1003, .vec 6 ((([] : List AG)).map Aq))] rfl rfl))))) (Ax ?_)
   exact ⟨⟨[_, _], ⟨.cellN _ _ _ _ _ _ _ rfl rfl DO Dz rfl rfl (Ka rfl), ⟨.tmp _ _ rfl, trivial⟩⟩, rfl⟩, ⟨rfl, rfl, rfl, rfl, trivial⟩⟩
  ·have h := An c3 h
   refine Ap (Ab (Aa Ac rfl (qz NR rfl (Ad (Ab (Ab (Aa Ac rfl (qa rfl (Ad ?_)))))))))
   refine AB (L := Cf N p0) h (fun v4 => mk [(1, .e (.one (.ptr 1 0))), (2, .e (.one (.ptr 2 0))), (4, .e (.one (.ptr 4 0))), (5, .e (.one (.pure (.val (.int .i64 v4.2.2.2)))))] [(1, .box [.pure (.sl (p0.fVersions.map Bs)), .pure (.sl (p0.fNow.map Bs)), .pure (.sl (p0.fTarget.map Bs)), .pure (.sl (p0.fLinks.map BQ))]), (2, .box [.pure (.nil0), .pure (.nil0), .pure (.nil0), .pure (.nil0)]), (4, .box [.own 2005, .own 2006, .own 2007, .pure (.nil0)]), (2005, .vec 1 (v4.1.map Aj)), (2006, .vec 1 (v4.2.1.map Aj)), (2007, .vec 1 (v4.2.2.1.map Aj))]) (fun v5 => mk [(1, .e (.one (.ptr 1 0))), (2, .e (.one (.ptr 2 0))), (4, .e (.one (.ptr 4 0)))] [(1, .box [.pure (.sl (p0.fVersions.map Bs)), .pure (.sl (p0.fNow.map Bs)), .pure (.sl (p0.fTarget.map Bs)), .pure (.sl (p0.fLinks.map BQ))]), (2, .box [.pure (.nil0), .pure (.nil0), .pure (.nil0), .pure (.nil0)]), (4, .box [.own 2008, .own 2009, .own 2010, .pure (.nil0)]), (2008, .vec 1 (v5.1.map Aj)), (2009, .vec 1 (v5.2.1.map Aj)), (2010, .vec 1 (v5.2.2.map Aj))]) (fun _ _ => rfl) ((A1 4 0 2011 1 _ rfl rfl rfl rfl).trans ((A1 4 1 2012 1 _ rfl rfl rfl rfl).trans ((A1 4 2 2013 1 _ rfl rfl rfl rfl).trans (sm [(2005, 2011), (2006, 2012), (2007, 2013)] _ _ rfl rfl)))) (fun j4 n4 v4 h => ?_) (fun v5 s h hs => ?_)
   ·unfold Cf at h
    refine Ab (Ab (Aa Ac rfl (qm rfl (qf L1 rfl (ql Pg rfl (AN Hc rfl (AT rfl (Ad ?_))))))))
    refine Ao rfl (fun c6 => ?_) (fun c6 => ?_)
    ·have h := Am c6 h
     refine Ap (Ab (AI (Ab (Aa Ac rfl (qf L1 rfl (ql Pg rfl (qm rfl ?_)))))))
     obtain ⟨v7, a7, b7, h⟩ := Ah h
     refine qi Hc Qm a7 (Ag b7) rfl (qk Ro rfl (Jd rfl (by decide) (FH PT O1 rfl (AQ rfl (qa rfl (Ad (Ab (Aa Ac rfl (qf Bv rfl (ql Bp rfl (qm rfl (Er AJ DS Mm rfl ?_))))))))))))
     obtain ⟨c8, h⟩ := AM h
     refine DE (f := Aj) AJ AJ DS NW Mm c8 rfl (qf Bv rfl (qs Q7 rfl (Ad (Ab (Aa Ac rfl (qf Gg rfl (ql Bp rfl (qf PN rfl (ql Pg rfl (qm rfl ?_))))))))))
     obtain ⟨v9, a9, h⟩ := bind_some h
     refine AC [] (GO N p0.fNow v4.2.2.2 v9 a9) RO rfl (qm rfl ?_)
     obtain ⟨c10, h⟩ := AM h
     refine Jd rfl c10 (Er AJ DS Mm rfl ?_)
     obtain ⟨c11, h⟩ := AM h
     refine DE (f := Aj) AJ AJ DS NW Mm c11 rfl (qf Gg rfl (qs Q7 rfl (AF (by kernel_rfl) (Aa Ac rfl (qf HJ rfl (ql Bp rfl (qf P2 rfl (ql Pg rfl (qm rfl ?_)))))))))
     obtain ⟨v12, a12, h⟩ := bind_some h
     refine AC [] (GO N p0.fTarget v4.2.2.2 v12 a12) RO rfl (qm rfl ?_)
     obtain ⟨c13, h⟩ := AM h
     refine Jd rfl c13 (Er AJ DS Mm rfl ?_)
     obtain ⟨c14, h⟩ := AM h
     refine DE (f := Aj) AJ AJ DS NW Mm c14 rfl (qf HJ rfl (qs Q7 rfl (AF (by kernel_rfl) (Aa Ac rfl (qm rfl (AQ rfl (qa rfl (Ad ?_))))))))
     exact As _ h (sm [(2005, 40), (2006, 51), (2007, 62)] _ _ rfl rfl)
    ·have h := An c6 h
     refine AS ?_
     exact As _ h (sm [(2008, 2005), (2009, 2006), (2010, 2007)] _ _ rfl rfl)
   ·refine Ak hs (Ab (Ab (Aa Ac rfl (qa rfl (Ad ?_)))))
    refine AB (L := Bg N p0 v5) h (fun v15 => mk [(1, .e (.one (.ptr 1 0))), (2, .e (.one (.ptr 2 0))), (4, .e (.one (.ptr 4 0))), (7, .e (.one (.pure (.val (.int .i64 v15.2)))))] [(1, .box [.pure (.sl (p0.fVersions.map Bs)), .pure (.sl (p0.fNow.map Bs)), .pure (.sl (p0.fTarget.map Bs)), .pure (.sl (p0.fLinks.map BQ))]), (2, .box [.pure (.nil0), .pure (.nil0), .pure (.nil0), .pure (.nil0)]), (4, .box [.own 2014, .own 2015, .own 2016, .own 2017]), (2014, .vec 1 (v5.1.map Aj)), (2015, .vec 1 (v5.2.1.map Aj)), (2016, .vec 1 (v5.2.2.map Aj)), (2017, .vec 6 (v15.1.map Aq))]) (fun v16 => mk [(2, .e (.one (.ptr 2 0))), (4, .e (.one (.ptr 4 0)))] [(2, .box [.pure (.nil0), .pure (.nil0), .pure (.nil0), .pure (.nil0)]), (4, .box [.own 2018, .own 2019, .own 2020, .own 2021]), (2018, .vec 1 (v5.1.map Aj)), (2019, .vec 1 (v5.2.1.map Aj)), (2020, .vec 1 (v5.2.2.map Aj)), (2021, .vec 6 (v16.map Aq))]) (fun _ _ => rfl) ((A1 4 3 2039 6 _ rfl rfl rfl rfl).trans (sm [(2014, 2008), (2015, 2009), (2016, 2010), (2017, 2039)] _ _ rfl rfl)) (fun j15 n15 v15 h => ?_) (fun v16 s h hs => ?_)
    ·unfold Bg at h
     refine Ab ?_
     refine AO h (fun v17 => mk [(1, .e (.one (.ptr 1 0))), (2, .e (.one (.ptr 2 0))), (4, .e (.one (.ptr 4 0))), (7, .e (.one (.pure (.val (.int .i64 v15.2))))), (74, .e (.one (.pure (.val (.bool v17)))))] [(1, .box [.pure (.sl (p0.fVersions.map Bs)), .pure (.sl (p0.fNow.map Bs)), .pure (.sl (p0.fTarget.map Bs)), .pure (.sl (p0.fLinks.map BQ))]), (2, .box [.pure (.nil0), .pure (.nil0), .pure (.nil0), .pure (.nil0)]), (4, .box [.own 2022, .own 2023, .own 2024, .own 2025]), (2022, .vec 1 (v5.1.map Aj)), (2023, .vec 1 (v5.2.1.map Aj)), (2024, .vec 1 (v5.2.2.map Aj)), (2025, .vec 6 (v15.1.map Aq))]) (fun j17 h => ?_) (fun v17 h => ?_)
     ·refine Aa Ac rfl (qm rfl (qf L3 rfl (ql QZ rfl (AN OB rfl (AT rfl (qm rfl ?_))))))
      refine AA (t := 69) rfl (fun c18 => ?_) (fun c18 => ?_)
      ·have h := Am c18 h
       refine qf Bv rfl (ql Bp rfl (Dj AJ rfl (Es rfl (qp rfl (Ad ?_)))))
       exact As _ h (sm [(2022, 2014), (2023, 2015), (2024, 2016), (2025, 2017)] _ _ rfl rfl)
      ·have h := An c18 h
       refine qn rfl (qn rfl (qn rfl (qn rfl (qp rfl (Ad ?_)))))
       exact As _ h (sm [(2022, 2014), (2023, 2015), (2024, 2016), (2025, 2017)] _ _ rfl rfl)
     ·refine Ao rfl (fun c19 => ?_) (fun c19 => ?_)
      ·have h := Am c19 h
       refine Ap (Ab (AI (Ab (Aa Ac rfl (qf L3 rfl (ql QZ rfl (qm rfl ?_)))))))
       obtain ⟨v20, a20, b20, h⟩ := Ah h
       refine qi OB QK a20 (Ag b20) rfl (qK SH QK rfl (qz SN rfl (qs QK rfl (Ad (Ab (Aa Ac rfl (qf Pr rfl (ql Ro rfl (Jd rfl (by decide) (FH PT O1 rfl (AQ rfl (qf PD rfl (ql Ro rfl (FH PT O1 rfl (qf Bv rfl (ql Bp rfl (Dj AJ rfl ?_)))))))))))))))))
       obtain ⟨c21, h⟩ := AM h
       refine Jd rfl c21 (qf P3 rfl (ql Ro rfl (FH PT O1 rfl (qf Bv rfl (ql Bp rfl (Dj AJ rfl ?_))))))
       obtain ⟨c22, h⟩ := AM h
       refine Jd rfl c22 (C4 Jq RX rfl (qz Jq rfl (qs D8 rfl (AF (by kernel_rfl) ?_))))
       refine AO h (fun v23 => mk [(1, .e (.one (.ptr 1 0))), (2, .e (.one (.ptr 2 0))), (4, .e (.one (.ptr 4 0))), (7, .e (.one (.pure (.val (.int .i64 v15.2))))), (8, .e (.one (.ptr 8 0))), (9, .e (.one (.ptr 9 0)))] [(1, .box [.pure (.sl (p0.fVersions.map Bs)), .pure (.sl (p0.fNow.map Bs)), .pure (.sl (p0.fTarget.map Bs)), .pure (.sl (p0.fLinks.map BQ))]), (2, .box [.pure (.nil0), .pure (.nil0), .pure (.nil0), .pure (.nil0)]), (4, .box [.own 2026, .own 2027, .own 2028, .own 2029]), (8, .box [.pure (.val (.int .u8 v20.fKind)), .pure (.val (.int .u8 v20.fFrom)), .pure (.val (.int .u8 v20.fTo)), .pure (.val (.bool v20.fAware)), .pure (.val (.int .u16 v20.fBad)), .pure (.val (.int .u16 v20.fLost))]), (9, .box [.pure (.val (.int .i64 ((IntKind.wrap .i64 (1 + (IntKind.wrap .i64 ((Int.tmod v20.fKind 4)))))))), .pure (.val (.int .i64 ((Int.tmod ((IntKind.wrap .i64 v20.fFrom)) ((v5.1.length : Int)))))), .pure (.val (.int .i64 ((Int.tmod ((IntKind.wrap .i64 v20.fTo)) ((v5.1.length : Int)))))), .pure (.val (.bool v23)), .pure (.nil0), .pure (.nil0)]), (2026, .vec 1 (v5.1.map Aj)), (2027, .vec 1 (v5.2.1.map Aj)), (2028, .vec 1 (v5.2.2.map Aj)), (2029, .vec 6 (v15.1.map Aq))]) (fun j23 h => ?_) (fun v23 h => ?_)
       ·refine Aa Ac rfl (qf PH rfl (ql P7 rfl (qm rfl ?_)))
        refine AA (t := 104) rfl (fun c24 => ?_) (fun c24 => ?_)
        ·have h := Am c24 h
         refine qL GY D8 rfl ?_
         obtain ⟨v25, a25, h⟩ := bind_some h
         refine AC [] (Dm N ((AG.mk ((IntKind.wrap .i64 (1 + (IntKind.wrap .i64 ((Int.tmod v20.fKind 4)))))) ((Int.tmod ((IntKind.wrap .i64 v20.fFrom)) ((v5.1.length : Int)))) ((Int.tmod ((IntKind.wrap .i64 v20.fTo)) ((v5.1.length : Int)))) false (([] : List (List Bool))) (([] : List (List Bool))))) v25 a25) OR rfl (Cy rfl (qp rfl (qf Iw rfl (qs Ny rfl (Ad ?_)))))
         exact As _ h (sm [(2026, 2022), (2027, 2023), (2028, 2024), (2029, 2025)] _ _ rfl rfl)
        ·have h := An c24 h
         refine qn rfl (qn rfl (qn rfl (qp rfl (qf Iw rfl (qs Ny rfl (Ad ?_))))))
         exact As _ h (sm [(2026, 2022), (2027, 2023), (2028, 2024), (2029, 2025)] _ _ rfl rfl)
       ·refine Ab (Aa Ac rfl (qf Bv rfl (ql Bp rfl (qf Dq rfl (ql CO rfl ?_)))))
        obtain ⟨v26, a26, b26, h⟩ := Ah h
        refine qI AJ DS a26 (Ag b26) rfl (qj CO (Ag b26) rfl (qf Bv rfl (ql Bp rfl (qf H2 rfl (ql CO rfl ?_)))))
        obtain ⟨v27, a27, b27, h⟩ := Ah h
        refine qI AJ DS a27 (Ag b27) rfl (qj CO (Ag b27) rfl (qf Po rfl (ql Sj rfl ?_)))
        obtain ⟨v28, a28, h⟩ := bind_some h
        refine AC [2030] (GP N v26 v27 v20.fBad false v28 a28) RN rfl (qf I6 rfl (qs Rr rfl (AF (by kernel_rfl) ?_)))
        refine AO h (fun v29 => mk [(1, .e (.one (.ptr 1 0))), (2, .e (.one (.ptr 2 0))), (4, .e (.one (.ptr 4 0))), (7, .e (.one (.pure (.val (.int .i64 v15.2))))), (9, .e (.one (.ptr 9 0)))] [(1, .box [.pure (.sl (p0.fVersions.map Bs)), .pure (.sl (p0.fNow.map Bs)), .pure (.sl (p0.fTarget.map Bs)), .pure (.sl (p0.fLinks.map BQ))]), (2, .box [.pure (.nil0), .pure (.nil0), .pure (.nil0), .pure (.nil0)]), (4, .box [.own 2031, .own 2032, .own 2033, .own 2034]), (9, .box [.pure (.val (.int .i64 ((IntKind.wrap .i64 (1 + (IntKind.wrap .i64 ((Int.tmod v20.fKind 4)))))))), .pure (.val (.int .i64 ((Int.tmod ((IntKind.wrap .i64 v20.fFrom)) ((v5.1.length : Int)))))), .pure (.val (.int .i64 ((Int.tmod ((IntKind.wrap .i64 v20.fTo)) ((v5.1.length : Int)))))), .pure (.val (.bool v23)), .own 2035, .own 2036]), (2031, .vec 1 (v5.1.map Aj)), (2032, .vec 1 (v5.2.1.map Aj)), (2033, .vec 1 (v5.2.2.map Aj)), (2034, .vec 6 (v15.1.map Aq)), (2035, .vec 1 (v28.map (EB eB))), (2036, .vec 1 (v29.map (EB eB)))]) (fun j29 h => ?_) (fun v29 h => ?_)
        ·refine Ab (Aa Ac rfl (qf ES rfl (ql CO rfl (Cm rfl (Ad ?_)))))
         refine Ao rfl (fun c30 => ?_) (fun c30 => ?_)
         ·have h := Am c30 h
          refine Aa Ac rfl (qf Bv rfl (ql Bp rfl (qf Dq rfl (ql CO rfl ?_))))
          obtain ⟨v31, a31, b31, h⟩ := Ah h
          refine qI AJ DS a31 (Ag b31) rfl (qj CO (Ag b31) rfl (qf Bv rfl (ql Bp rfl (qf Dq rfl (ql CO rfl ?_)))))
          obtain ⟨v32, a32, b32, h⟩ := Ah h
          refine qI AJ DS a32 (Ag b32) rfl (qj CO (Ag b32) rfl (qf Qg rfl (ql Sj rfl ?_)))
          obtain ⟨v33, a33, h⟩ := bind_some h
          refine AC [2037] (GP N v31 v32 v20.fLost true v33 a33) RN rfl (qf FD rfl (qs Rr rfl (AF (by kernel_rfl) ?_)))
          exact As _ h (sm [(2031, 2026), (2032, 2027), (2033, 2028), (2034, 2029), (2035, 2030), (2036, 2037)] _ _ rfl rfl)
         ·have h := An c30 h
          refine Ap ?_
          exact As _ h ((A1 9 5 2038 1 _ rfl rfl rfl rfl).trans (sm [(2031, 2026), (2032, 2027), (2033, 2028), (2034, 2029), (2035, 2030), (2036, 2038)] _ _ rfl rfl))
        ·refine Aa Ac rfl (qf Dx rfl (ql H9 rfl (qL GY D8 rfl (C2 (A3 2035 _ _ rfl rfl) (C2 (A3 2036 _ _ rfl rfl) (Er Ek D8 Jq rfl ?_))))))
         obtain ⟨c34, h⟩ := AM h
         refine DE (f := Aq) Ek Ek D8 RF Jq c34 rfl (qf Dx rfl (qs SY rfl (Ad (Aa Ac rfl (qm rfl (AQ rfl (qa rfl (Ad ?_))))))))
         exact As _ h (sm [(2014, 2031), (2015, 2032), (2016, 2033), (2017, 149)] _ _ rfl rfl)
      ·have h := An c19 h
       refine AS ?_
       exact As _ h (sm [(2018, 2022), (2019, 2023), (2020, 2024), (2021, 2025)] _ _ rfl rfl)
    ·refine Ak hs (Ab (Aa Ac rfl (qL DO Dz rfl (qs Dz rfl (qa rfl (Ad ?_))))))
     obtain rfl := sj h
     refine Ak (sm [(1000, 2018), (1001, 2019), (1002, 2020), (1003, 2021)] [(2, .e (.one (.ptr 2 0))), (3, .e (.one (.pure (.val (.bool true)))))] [(2, .box [.own 1000, .own 1001, .own 1002, .own 1003]), (1000, .vec 1 (v5.1.map Aj)), (1001, .vec 1 (v5.2.1.map Aj)), (1002, .vec 1 (v5.2.2.map Aj)), (1003, .vec 6 (v16.map Aq))] rfl rfl) (Ax ?_)
     exact ⟨⟨[_, _], ⟨.cellN _ _ _ _ _ _ _ rfl rfl DO Dz rfl rfl (Ka rfl), ⟨.tmp _ _ rfl, trivial⟩⟩, rfl⟩, ⟨rfl, rfl, rfl, rfl, trivial⟩⟩
set_option maxRecDepth 10000 in
theorem Dc (N : Nat) (p0 : Bool) (r : Ai) (h : Ch N p0 = some r) : Az Try.prog 21 [.e (.one (.pure (.val (.bool p0))))] [(1, r.fVersions.map Aj), (1, r.fNow.map Aj), (1, r.fTarget.map Aj), (6, r.fTables.map Aq)] (.e (.agg [.own 0, .own 1, .own 2, .own 3])) := by
 unfold Ch at h
 refine Ar (n := 15) (rs := [.cell 2 25]) Try.func21 rfl rfl rfl (AV rfl) (AV rfl) rfl fun w0 S0 => ?_
 refine Ab (Aa Ac rfl (qz NR rfl (Ad (Ab (Aa Ac rfl (Er FY Ny PF rfl (qm rfl (Er FY Ny PF rfl (C2 (A3 4 _ _ rfl rfl) (C2 (A3 6 _ _ rfl rfl) (Er FF LN QY rfl (C4 Jq RX rfl (qz Jq rfl (qs D8 rfl (Ad (Ab (Aa Ac rfl (Er AJ DS Mm rfl (Er AJ DS Mm rfl (Er AJ DS Mm rfl (qL GY D8 rfl (C2 (A3 7 _ _ rfl rfl) (Er Ek D8 Jq rfl (C4 NR Sa rfl (qs Dz rfl (Ad ?_))))))))))))))))))))))))))
 obtain rfl := sj h
 refine Ak (sm [(1000, 9), (1001, 10), (1002, 11), (1003, 13)] [(2, .e (.one (.ptr 2 0)))] [(2, .box [.own 1000, .own 1001, .own 1002, .own 1003]), (1000, .vec 1 ((([2] : List Int)).map Aj)), (1001, .vec 1 ((([0] : List Int)).map Aj)), (1002, .vec 1 ((([1] : List Int)).map Aj)), (1003, .vec 6 ((([(AG.mk 1 0 0 false (([([true, true] : List Bool), ([p0, true] : List Bool)] : List (List Bool))) (([] : List (List Bool))))] : List AG)).map Aq))] rfl rfl) (Ax ?_)
 exact ⟨⟨[_], ⟨.cellN _ _ _ _ _ _ _ rfl rfl DO Dz rfl rfl (Ka rfl), trivial⟩, rfl⟩, ⟨rfl, rfl, rfl, rfl, trivial⟩⟩
set_option maxRecDepth 10000 in
theorem FR (N : Nat) (p0 : Int) (p1 : Int) (r : Bool) (h : C8 N p0 p1 = some r) : Az Try.prog 53 [.e (.one (.pure (.val (.int .i64 p0)))), .e (.one (.pure (.val (.int .i64 p1))))] [] (.e (.one (.pure (.val (.bool r))))) := by
 unfold C8 at h
 refine Ar (n := 12) (rs := [.tmp 4]) Try.func53 rfl rfl rfl (AV rfl) (AV rfl) rfl fun w0 S0 => ?_
 refine Ab (Aa Ac rfl (qa rfl (Ad ?_)))
 refine AO h (fun v1 => mk [(4, .e (.one (.pure (.val (.bool v1)))))] []) (fun j1 h => ?_) (fun v1 h => ?_)
 ·refine Aa Ac rfl (qm rfl (Dl rfl (qm rfl ?_)))
  refine AA (t := 7) rfl (fun c2 => ?_) (fun c2 => ?_)
  ·have h := Am c2 h
   refine qm rfl (qm rfl (AT rfl (qp rfl (qa rfl (Ad ?_)))))
   exact As _ h (sm [] _ _ rfl rfl)
  ·have h := An c2 h
   refine qn rfl (qn rfl (qn rfl (qp rfl (qa rfl (Ad ?_)))))
   exact As _ h (sm [] _ _ rfl rfl)
 ·obtain rfl := sj h
  refine Ak (sm [] [(4, .e (.one (.pure (.val (.bool v1)))))] [] rfl rfl) (Ax ?_)
  exact ⟨⟨[_], ⟨.tmp _ _ rfl, trivial⟩, rfl⟩, trivial⟩
set_option maxRecDepth 10000 in
theorem LQ (N : Nat) (p0 : Int) (p1 : Bool) (r : Bool) (h : E8 N p0 p1 = some r) : Az Try.prog 79 [.e (.one (.pure (.val (.int .i64 p0)))), .e (.one (.pure (.val (.bool p1))))] [] (.e (.one (.pure (.val (.bool r))))) := by
 unfold E8 at h
 refine Ar (n := 23) (rs := [.tmp 4]) Try.func79 rfl rfl rfl (AV rfl) (AV rfl) rfl fun w0 S0 => ?_
 refine Ab (Aa Ac rfl (qa rfl (Ad ?_)))
 refine AO h (fun v1 => mk [(4, .e (.one (.pure (.val (.bool v1)))))] []) (fun j1 h => ?_) (fun v1 h => ?_)
 ·refine Aa Ac rfl (qm rfl (Cm rfl (qm rfl ?_)))
  refine AA (t := 7) rfl (fun c2 => ?_) (fun c2 => ?_)
  ·have h := Am c2 h
   refine qn rfl (qn rfl (qp rfl (qm rfl (qn rfl (qn rfl (qn rfl (qu rfl (qu rfl (qn rfl (qn rfl (qu rfl (qu rfl (qn rfl (qp rfl (qa rfl (Ad ?_))))))))))))))))
   exact As _ h (sm [] _ _ rfl rfl)
  ·have h := An c2 h
   refine qm rfl (Cm rfl (qp rfl (qm rfl ?_)))
   refine AA (t := 11) rfl (fun c3 => ?_) (fun c3 => ?_)
   ·have h := Am c3 h
    refine qn rfl (qn rfl (qn rfl (qu rfl (qu rfl (qn rfl (qn rfl (qu rfl (qu rfl (qn rfl (qp rfl (qa rfl (Ad ?_))))))))))))
    exact As _ h (sm [] _ _ rfl rfl)
   ·have h := An c3 h
    refine qm rfl (Cm rfl (qm rfl ?_))
    refine AA (t := 14) rfl (fun c4 => ?_) (fun c4 => ?_)
    ·have h := Am c4 h
     refine qn rfl (qn rfl (qp rfl (qm rfl (qm rfl (Cy rfl (qp rfl (qp rfl (qa rfl (Ad ?_)))))))))
     exact As _ h (sm [] _ _ rfl rfl)
    ·have h := An c4 h
     refine qm rfl (Cm rfl (qp rfl (qm rfl ?_)))
     refine AA (t := 18) rfl (fun c5 => ?_) (fun c5 => ?_)
     ·have h := Am c5 h
      refine qm rfl (Cy rfl (qp rfl (qp rfl (qa rfl (Ad ?_)))))
      exact As _ h (sm [] _ _ rfl rfl)
     ·have h := An c5 h
      refine qn rfl (qn rfl (qp rfl (qp rfl (qa rfl (Ad ?_)))))
      exact As _ h (sm [] _ _ rfl rfl)
 ·obtain rfl := sj h
  refine Ak (sm [] [(4, .e (.one (.pure (.val (.bool v1)))))] [] rfl rfl) (Ax ?_)
  exact ⟨⟨[_], ⟨.tmp _ _ rfl, trivial⟩, rfl⟩, trivial⟩
set_option maxRecDepth 10000 in
theorem Jw (N : Nat) (p0 : List Bool) (p1 : Int) (r : Bool) (h : C1 N p0 p1 = some r) : Az Try.prog 95 [.e (.one (.pure (.sl (p0.map eB)))), .e (.one (.rop [.val (.int .i64 p1)]))] [] (.e (.one (.pure (.val (.bool r))))) := by
 unfold C1 at h
 refine Ar (n := 8) (rs := [.tmp 3]) Try.func95 rfl rfl rfl (AV rfl) (AV rfl) rfl fun w0 S0 => ?_
 refine Ab (Aa Ac rfl (qa rfl (Ad (Ab (Aa Ac rfl (qm rfl (AN FY rfl (qk CO rfl (Cd rfl (qa rfl (Ad ?_)))))))))))
 obtain rfl := sj h
 refine Ak (sm [] [(3, .e (.one (.pure (.val (.bool (((p0.length : Int) != p1)))))))] [] rfl rfl) (Ax ?_)
 exact ⟨⟨[_], ⟨.tmp _ _ rfl, trivial⟩, rfl⟩, trivial⟩
set_option maxRecDepth 10000 in
theorem Gv (N : Nat) (p0 : List (List Bool)) (p1 : (List Bool) → Option Bool) (r : Int) (h : CK N p0 p1 = some r) : Az Try.prog 102 [.e (.one (.pure (.sl (p0.map (EB eB))))), .e (.one (.clo (BD (Mf false (EB eB)) tB p1)))] [] (.e (.one (.pure (.val (.int .i64 r))))) := by
 unfold CK at h
 refine Ar (n := 19) (rs := [.tmp 4]) Try.func102 rfl rfl rfl (AV rfl) (AV rfl) rfl fun w0 S0 => ?_
 refine Ab (Aa Ac rfl (qa rfl (Ad (Ab (Ab (Aa Ac rfl (qm rfl (AN FF rfl (qm rfl (Ad ?_))))))))))
 refine AB (L := A5 N p0 p1) h (fun v1 => mk [(0, .e (.one (.pure (.sl (p0.map (EB eB)))))), (1, .e (.one (.clo (BD (Mf false (EB eB)) tB p1)))), (7, .e (.one (.pure (.val (.int .i64 ((p0.length : Int))))))), (8, .e (.one (.pure (.val (.int .i64 v1)))))] []) (fun v2 => mk [] []) (fun _ _ => rfl) (sm [] _ _ rfl rfl) (fun j1 n1 v1 h => ?_) (fun v2 s h hs => ?_)
 ·unfold A5 at h
  refine Ab (Aa Ac rfl (AT rfl (Ad (Ab ?_))))
  refine Ao rfl (fun c3 => ?_) (fun c3 => ?_)
  ·have h := Am c3 h
   refine Ap (Ab (AI (Ab (Aa Ac rfl (qm rfl (qa rfl (Ad (Ab (Aa Ac rfl (qm rfl (qm rfl (qm rfl ?_))))))))))))
   obtain ⟨v4, a4, b4, h⟩ := Ah h
   refine qi FF LN a4 (Ag b4) rfl (qk N6 rfl ?_)
   obtain ⟨v5, a5, h⟩ := bind_some h
   refine Dy (ds0 := [_]) (ar := (Mf false (EB eB)) v4) (.p rfl) rfl rfl ⟨rfl, trivial⟩ rfl rfl rfl (DA (LF _ _ (RG SU)) a5) ?_
   refine Ad ?_
   refine Ao rfl (fun c6 => ?_) (fun c6 => ?_)
   ·have h := Am c6 h
    refine Ab (Aa Ac rfl (qm rfl (qa rfl (Ad ?_))))
    obtain rfl := sj h
    refine Ak (sm [] [(4, .e (.one (.pure (.val (.int .i64 v1)))))] [] rfl rfl) (Ax ?_)
    exact ⟨⟨[_], ⟨.tmp _ _ rfl, trivial⟩, rfl⟩, trivial⟩
   ·have h := An c6 h
    refine Ap (Aa Ac rfl (AQ rfl (qm rfl (Ad ?_))))
    exact As _ h (sm [] _ _ rfl rfl)
  ·have h := An c3 h
   refine AS ?_
   exact As _ h (sm [] _ _ rfl rfl)
 ·refine Ak hs (Ab (Aa Ac rfl (qa rfl (Ad ?_))))
  obtain rfl := sj h
  refine Ak (sm [] [(4, .e (.one (.pure (.val (.int .i64 ((-1)))))))] [] rfl rfl) (Ax ?_)
  exact ⟨⟨[_], ⟨.tmp _ _ rfl, trivial⟩, rfl⟩, trivial⟩
set_option maxRecDepth 10000 in
theorem FX (N : Nat) (p0 : List (List Bool)) (p1 : (List Bool) → Option Bool) (r : Bool) (h : Cs N p0 p1 = some r) : Az Try.prog 94 [.e (.one (.pure (.sl (p0.map (EB eB))))), .e (.one (.clo (BD (Mf false (EB eB)) tB p1)))] [] (.e (.one (.pure (.val (.bool r))))) := by
 unfold Cs at h
 refine Ar (n := 9) (rs := [.tmp 4]) Try.func94 rfl rfl rfl (AV rfl) (AV rfl) rfl fun w0 S0 => ?_
 refine Ab (Aa Ac rfl (qa rfl (Ad (Ab (Aa Ac rfl (qm rfl (qm rfl ?_)))))))
 obtain ⟨v1, a1, h⟩ := bind_some h
 refine AC [] (Gv N p0 p1 v1 a1) Sc rfl (Dl rfl (qa rfl (Ad ?_)))
 obtain rfl := sj h
 refine Ak (sm [] [(4, .e (.one (.pure (.val (.bool ((decide (0 ≤ v1))))))))] [] rfl rfl) (Ax ?_)
 exact ⟨⟨[_], ⟨.tmp _ _ rfl, trivial⟩, rfl⟩, trivial⟩
set_option maxRecDepth 10000 in
theorem Iu (N : Nat) (p0 : List (List Bool)) (p1 : Int) (p2 : Int) (r : Bool) (h : DQ N p0 p1 p2 = some r) : Az Try.prog 80 [.e (.one (.pure (.sl (p0.map (EB eB))))), .e (.one (.pure (.val (.int .i64 p1)))), .e (.one (.pure (.val (.int .i64 p2))))] [] (.e (.one (.pure (.val (.bool r))))) := by
 unfold DQ at h
 refine Ar (n := 17) (rs := [.tmp 6]) Try.func80 rfl rfl rfl (AV rfl) (AV rfl) rfl fun w0 S0 => ?_
 refine Ab (Aa Ac rfl (qb rfl (qa rfl (Ad ?_))))
 refine AO h (fun v1 => mk [(6, .e (.one (.pure (.val (.bool v1)))))] []) (fun j1 h => ?_) (fun v1 h => ?_)
 ·refine Aa Ac rfl (qm rfl (AN FF rfl (qm rfl (Cm rfl (qm rfl ?_)))))
  refine AA (t := 11) rfl (fun c2 => ?_) (fun c2 => ?_)
  ·have h := Am c2 h
   refine qm rfl (C2 (KN 5 [.val (.int .i64 p2)] rfl rfl) ?_)
   refine Ko (capD := [_]) (BD (Mf false (EB eB)) tB ((fun (x : List Bool) => C1 N x p2))) (.g rfl rfl) Tf rfl ⟨rfl, trivial⟩ rfl (fun ar t ht => by obtain ⟨x, r, rfl, hq, rfl⟩ := HG ht; exact Jw N x p2 r hq) ?_
   obtain ⟨v3, a3, h⟩ := bind_some h
   refine AC [] (FX N p0 ((fun (x : List Bool) => C1 N x p2)) v3 a3) SQ rfl (Cy rfl (qp rfl (qa rfl (Ad ?_))))
   exact As _ h (sm [] _ _ rfl rfl)
  ·have h := An c2 h
   refine qn rfl (qn rfl (qn rfl (qn rfl (qp rfl (qa rfl (Ad ?_))))))
   exact As _ h (sm [] _ _ rfl rfl)
 ·obtain rfl := sj h
  refine Ak (sm [] [(6, .e (.one (.pure (.val (.bool v1)))))] [] rfl rfl) (Ax ?_)
  exact ⟨⟨[_], ⟨.tmp _ _ rfl, trivial⟩, rfl⟩, trivial⟩
set_option maxRecDepth 10000 in
theorem K0 (N : Nat) (p0 : Ai) (p1 : AG) (r : Int) (h : EI N p0 p1 = some r) : Az Try.prog 54 [.e (.agg [.pure (.sl (p0.fVersions.map Aj)), .pure (.sl (p0.fNow.map Aj)), .pure (.sl (p0.fTarget.map Aj)), .pure (.sl (p0.fTables.map Aq))]), .e (.agg [.pure (.val (.int .i64 p1.fKind)), .pure (.val (.int .i64 p1.fFrom)), .pure (.val (.int .i64 p1.fTo)), .pure (.val (.bool p1.fAware)), .pure (.sl (p1.fOK.map (EB eB))), .pure (.sl (p1.fRewrite.map (EB eB)))])] [] (.e (.one (.pure (.val (.int .i64 r))))) := by
 unfold EI at h
 refine Ar (n := 87) (rs := [.tmp 4]) Try.func54 rfl rfl rfl (AV rfl) (AV rfl) rfl fun w0 S0 => ?_
 refine Ab (Aa Ac rfl (qb rfl (qb rfl (qa rfl (Ad (Ab (Ab (Aa Ac rfl (qf ES rfl (ql CO rfl (qf Iw rfl (ql P7 rfl ?_))))))))))))
 obtain ⟨v1, a1, h⟩ := bind_some h
 refine AC [] (LQ N p1.fKind p1.fAware v1 a1) S9 rfl (Cy rfl (Ad ?_))
 refine Ao rfl (fun c2 => ?_) (fun c2 => ?_)
 ·have h := Am c2 h
  refine Ab (Aa Ac rfl (qa rfl (Ad ?_)))
  obtain rfl := sj h
  refine Ak (sm [] [(4, .e (.one (.pure (.val (.int .i64 1)))))] [] rfl rfl) (Ax ?_)
  exact ⟨⟨[_], ⟨.tmp _ _ rfl, trivial⟩, rfl⟩, trivial⟩
 ·have h := An c2 h
  refine Ap (Ab ?_)
  refine AO h (fun v3 => mk [(2, .e (.one (.ptr 2 0))), (3, .e (.one (.ptr 3 0))), (29, .e (.one (.pure (.val (.bool v3)))))] [(2, .box [.pure (.sl (p0.fVersions.map Aj)), .pure (.sl (p0.fNow.map Aj)), .pure (.sl (p0.fTarget.map Aj)), .pure (.sl (p0.fTables.map Aq))]), (3, .box [.pure (.val (.int .i64 p1.fKind)), .pure (.val (.int .i64 p1.fFrom)), .pure (.val (.int .i64 p1.fTo)), .pure (.val (.bool p1.fAware)), .pure (.sl (p1.fOK.map (EB eB))), .pure (.sl (p1.fRewrite.map (EB eB)))])]) (fun j3 h => ?_) (fun v3 h => ?_)
  ·refine Aa Ac rfl (qf Dq rfl (ql CO rfl (qf Bv rfl (ql Bp rfl (AN AJ rfl ?_)))))
   obtain ⟨v4, a4, h⟩ := bind_some h
   refine AC [] (FR N p1.fFrom ((p0.fVersions.length : Int)) v4 a4) P5 rfl (Cy rfl (qm rfl ?_))
   refine AA (t := 21) rfl (fun c5 => ?_) (fun c5 => ?_)
   ·have h := Am c5 h
    refine qn rfl (qn rfl (qn rfl (qn rfl (qn rfl (qn rfl (qn rfl (qp rfl (Ad ?_))))))))
    exact As _ h (sm [] _ _ rfl rfl)
   ·have h := An c5 h
    refine qf H2 rfl (ql CO rfl (qf Bv rfl (ql Bp rfl (AN AJ rfl ?_))))
    obtain ⟨v6, a6, h⟩ := bind_some h
    refine AC [] (FR N p1.fTo ((p0.fVersions.length : Int)) v6 a6) P5 rfl (Cy rfl (qp rfl (Ad ?_)))
    exact As _ h (sm [] _ _ rfl rfl)
  ·refine Ao rfl (fun c7 => ?_) (fun c7 => ?_)
   ·have h := Am c7 h
    refine Ab (Aa Ac rfl (qa rfl (Ad ?_)))
    obtain rfl := sj h
    refine Ak (sm [] [(4, .e (.one (.pure (.val (.int .i64 4)))))] [] rfl rfl) (Ax ?_)
    exact ⟨⟨[_], ⟨.tmp _ _ rfl, trivial⟩, rfl⟩, trivial⟩
   ·have h := An c7 h
    refine Ap (Ab (Aa Ac rfl (qf Bv rfl (ql Bp rfl (qf Dq rfl (ql CO rfl ?_))))))
    obtain ⟨v8, a8, b8, h⟩ := Ah h
    refine qi AJ DS a8 (Ag b8) rfl (qk CO rfl (qa rfl (Ad (Ab (Aa Ac rfl (qf ES rfl (ql CO rfl (Cm rfl (qa rfl (Ad (Ab ?_)))))))))))
    refine AO h (fun v9 => mk [(3, .e (.one (.ptr 3 0))), (70, .e (.one (.pure (.val (.bool v9)))))] [(3, .box [.pure (.val (.int .i64 p1.fKind)), .pure (.val (.int .i64 p1.fFrom)), .pure (.val (.int .i64 p1.fTo)), .pure (.val (.bool p1.fAware)), .pure (.sl (p1.fOK.map (EB eB))), .pure (.sl (p1.fRewrite.map (EB eB)))])]) (fun j9 h => ?_) (fun v9 h => ?_)
    ·refine Aa Ac rfl (qf I6 rfl (ql Jg rfl (qm rfl (qf Bv rfl (ql Bp rfl (qf H2 rfl (ql CO rfl ?_)))))))
     obtain ⟨v10, a10, b10, h⟩ := Ah h
     refine qi AJ DS a10 (Ag b10) rfl (qk CO rfl ?_)
     obtain ⟨v11, a11, h⟩ := bind_some h
     refine AC [] (Iu N p1.fOK v8 v10 v11 a11) RE rfl (Cy rfl (qm rfl ?_))
     refine AA (t := 50) rfl (fun c12 => ?_) (fun c12 => ?_)
     ·have h := Am c12 h
      refine qn rfl (qn rfl (qu rfl (qu rfl (qu rfl (qu rfl (qu rfl (qu rfl (qn rfl (qp rfl (qm rfl (qn rfl (qn rfl (qn rfl (qu rfl (qu rfl (qu rfl (qu rfl (qn rfl (qp rfl (AF (by kernel_rfl) ?_))))))))))))))))))))
      exact As _ h (sm [] _ _ rfl rfl)
     ·have h := An c12 h
      refine qm rfl (qm rfl ?_)
      refine AA (t := 52) rfl (fun c13 => ?_) (fun c13 => ?_)
      ·have h := Am c13 h
       refine qf FD rfl (ql Jg rfl (qm rfl (qm rfl ?_)))
       obtain ⟨v14, a14, h⟩ := bind_some h
       refine AC [] (Iu N p1.fRewrite v8 v8 v14 a14) RE rfl (Cy rfl (qp rfl (qp rfl (qm rfl ?_))))
       refine AA (t := 61) rfl (fun c15 => ?_) (fun c15 => ?_)
       ·have h := Am c15 h
        refine qn rfl (qn rfl (qn rfl (qu rfl (qu rfl (qu rfl (qu rfl (qn rfl (qp rfl (AF (by kernel_rfl) ?_)))))))))
        exact As _ h (sm [] _ _ rfl rfl)
       ·have h := An c15 h
        refine qm rfl (Cy rfl (qm rfl ?_))
        refine AA (t := 64) rfl (fun c16 => ?_) (fun c16 => ?_)
        ·have h := Am c16 h
         refine qf FD rfl (ql Jg rfl (AN FF rfl (Es rfl (qp rfl (qp rfl (AF (by kernel_rfl) ?_))))))
         exact As _ h (sm [] _ _ rfl rfl)
        ·have h := An c16 h
         refine qn rfl (qn rfl (qn rfl (qn rfl (qp rfl (qp rfl (AF (by kernel_rfl) ?_))))))
         exact As _ h (sm [] _ _ rfl rfl)
      ·have h := An c13 h
       refine qn rfl (qn rfl (qn rfl (qn rfl (qn rfl (qn rfl (qp rfl (qp rfl (qm rfl (qm rfl (Cy rfl (qm rfl ?_)))))))))))
       refine AA (t := 64) rfl (fun c17 => ?_) (fun c17 => ?_)
       ·have h := Am c17 h
        refine qf FD rfl (ql Jg rfl (AN FF rfl (Es rfl (qp rfl (qp rfl (AF (by kernel_rfl) ?_))))))
        exact As _ h (sm [] _ _ rfl rfl)
       ·have h := An c17 h
        refine qn rfl (qn rfl (qn rfl (qn rfl (qp rfl (qp rfl (AF (by kernel_rfl) ?_))))))
        exact As _ h (sm [] _ _ rfl rfl)
    ·refine Ao rfl (fun c18 => ?_) (fun c18 => ?_)
     ·have h := Am c18 h
      refine Ab (Aa Ac rfl (qa rfl (Ad ?_)))
      obtain rfl := sj h
      refine Ak (sm [] [(4, .e (.one (.pure (.val (.int .i64 6)))))] [] rfl rfl) (Ax ?_)
      exact ⟨⟨[_], ⟨.tmp _ _ rfl, trivial⟩, rfl⟩, trivial⟩
     ·have h := An c18 h
      refine Ap (Ab (Ab (Aa Ac rfl (qf FD rfl (ql Jg rfl (AN FF rfl (qm rfl (Ad ?_))))))))
      refine AB (L := Cx N p1) h (fun v19 => mk [(3, .e (.one (.ptr 3 0))), (73, .e (.one (.pure (.val (.int .i64 ((p1.fRewrite.length : Int))))))), (74, .e (.one (.pure (.val (.int .i64 v19)))))] [(3, .box [.pure (.val (.int .i64 p1.fKind)), .pure (.val (.int .i64 p1.fFrom)), .pure (.val (.int .i64 p1.fTo)), .pure (.val (.bool p1.fAware)), .pure (.sl (p1.fOK.map (EB eB))), .pure (.sl (p1.fRewrite.map (EB eB)))])]) (fun v20 => mk [] []) (fun _ _ => rfl) (sm [] _ _ rfl rfl) (fun j19 n19 v19 h => ?_) (fun v20 s h hs => ?_)
      ·unfold Cx at h
       refine Ab (Aa Ac rfl (AT rfl (Ad (Ab ?_))))
       refine Ao rfl (fun c21 => ?_) (fun c21 => ?_)
       ·have h := Am c21 h
        refine Ap (Ab (AI (Ab (Aa Ac rfl (qm rfl (qa rfl (Ad (Ab (Aa Ac rfl (qf FD rfl (ql Jg rfl (qm rfl ?_))))))))))))
        obtain ⟨v22, a22, b22, h⟩ := Ah h
        refine qi FF LN a22 (Ag b22) rfl (qk N6 rfl (qm rfl ?_))
        obtain ⟨v23, a23, b23, h⟩ := Ah h
        refine qi FY Ny a23 (Ag b23) rfl (qk P7 rfl (Cy rfl (Ad ?_)))
        refine Ao rfl (fun c24 => ?_) (fun c24 => ?_)
        ·have h := Am c24 h
         refine Ab (Aa Ac rfl (qa rfl (Ad ?_)))
         obtain rfl := sj h
         refine Ak (sm [] [(4, .e (.one (.pure (.val (.int .i64 1)))))] [] rfl rfl) (Ax ?_)
         exact ⟨⟨[_], ⟨.tmp _ _ rfl, trivial⟩, rfl⟩, trivial⟩
        ·have h := An c24 h
         refine Ap (Aa Ac rfl (AQ rfl (qm rfl (Ad ?_))))
         exact As _ h (sm [] _ _ rfl rfl)
       ·have h := An c21 h
        refine AS ?_
        exact As _ h (sm [] _ _ rfl rfl)
      ·refine Ak hs (Ab (Aa Ac rfl (qa rfl (Ad ?_))))
       obtain rfl := sj h
       refine Ak (sm [] [(4, .e (.one (.pure (.val (.int .i64 0)))))] [] rfl rfl) (Ax ?_)
       exact ⟨⟨[_], ⟨.tmp _ _ rfl, trivial⟩, rfl⟩, trivial⟩
set_option maxRecDepth 10000 in
theorem EH (N : Nat) (p0 : Ai) (r : Int) (h : Cr N p0 = some r) : Az Try.prog 32 [.e (.agg [.pure (.sl (p0.fVersions.map Aj)), .pure (.sl (p0.fNow.map Aj)), .pure (.sl (p0.fTarget.map Aj)), .pure (.sl (p0.fTables.map Aq))])] [] (.e (.one (.pure (.val (.int .i64 r))))) := by
 unfold Cr at h
 refine Ar (n := 81) (rs := [.tmp 2]) Try.func32 rfl rfl rfl (AV rfl) (AV rfl) rfl fun w0 S0 => ?_
 refine Ab (Aa Ac rfl (qb rfl (qa rfl (Ad (Ab (Aa Ac rfl (qf Bv rfl (ql Bp rfl (AN AJ rfl (qa rfl (Ad (Ab ?_))))))))))))
 refine AO h (fun v1 => mk [(1, .e (.one (.ptr 1 0))), (3, .e (.one (.pure (.val (.int .i64 ((p0.fVersions.length : Int))))))), (19, .e (.one (.pure (.val (.bool v1)))))] [(1, .box [.pure (.sl (p0.fVersions.map Aj)), .pure (.sl (p0.fNow.map Aj)), .pure (.sl (p0.fTarget.map Aj)), .pure (.sl (p0.fTables.map Aq))])]) (fun j1 h => ?_) (fun v1 h => ?_)
 ·refine Aa Ac rfl (qm rfl (Es rfl (qm rfl ?_)))
  refine AA (t := 14) rfl (fun c2 => ?_) (fun c2 => ?_)
  ·have h := Am c2 h
   refine qn rfl (qn rfl (qn rfl (qn rfl (qp rfl (Ad ?_)))))
   exact As _ h (sm [] _ _ rfl rfl)
  ·have h := An c2 h
   refine qf Dx rfl (ql H9 rfl (AN Ek rfl (Es rfl (qp rfl (Ad ?_)))))
   exact As _ h (sm [] _ _ rfl rfl)
 ·refine Ao rfl (fun c3 => ?_) (fun c3 => ?_)
  ·have h := Am c3 h
   refine Ab (Aa Ac rfl (qa rfl (Ad ?_)))
   obtain rfl := sj h
   refine Ak (sm [] [(2, .e (.one (.pure (.val (.int .i64 3)))))] [] rfl rfl) (Ax ?_)
   exact ⟨⟨[_], ⟨.tmp _ _ rfl, trivial⟩, rfl⟩, trivial⟩
  ·have h := An c3 h
   refine Ap (Ab ?_)
   refine AO h (fun v4 => mk [(1, .e (.one (.ptr 1 0))), (31, .e (.one (.pure (.val (.bool v4)))))] [(1, .box [.pure (.sl (p0.fVersions.map Aj)), .pure (.sl (p0.fNow.map Aj)), .pure (.sl (p0.fTarget.map Aj)), .pure (.sl (p0.fTables.map Aq))])]) (fun j4 h => ?_) (fun v4 h => ?_)
   ·refine Aa Ac rfl (qf Gg rfl (ql Bp rfl (AN AJ rfl (qm rfl (Cd rfl (qm rfl ?_))))))
    refine AA (t := 25) rfl (fun c5 => ?_) (fun c5 => ?_)
    ·have h := Am c5 h
     refine qn rfl (qn rfl (qn rfl (qn rfl (qn rfl (qp rfl (Ad ?_))))))
     exact As _ h (sm [] _ _ rfl rfl)
    ·have h := An c5 h
     refine qf HJ rfl (ql Bp rfl (AN AJ rfl (qm rfl (Cd rfl (qp rfl (Ad ?_))))))
     exact As _ h (sm [] _ _ rfl rfl)
   ·refine Ao rfl (fun c6 => ?_) (fun c6 => ?_)
    ·have h := Am c6 h
     refine Ab (Aa Ac rfl (qa rfl (Ad ?_)))
     obtain rfl := sj h
     refine Ak (sm [] [(2, .e (.one (.pure (.val (.int .i64 6)))))] [] rfl rfl) (Ax ?_)
     exact ⟨⟨[_], ⟨.tmp _ _ rfl, trivial⟩, rfl⟩, trivial⟩
    ·have h := An c6 h
     refine Ap (Ab (Ab (Aa Ac rfl (qf Bv rfl (ql Bp rfl (AN AJ rfl (qm rfl (Ad ?_))))))))
     refine AB (L := BA N p0) h (fun v7 => mk [(1, .e (.one (.ptr 1 0))), (33, .e (.one (.pure (.sl (p0.fVersions.map Aj))))), (34, .e (.one (.pure (.val (.int .i64 ((p0.fVersions.length : Int))))))), (35, .e (.one (.pure (.val (.int .i64 v7)))))] [(1, .box [.pure (.sl (p0.fVersions.map Aj)), .pure (.sl (p0.fNow.map Aj)), .pure (.sl (p0.fTarget.map Aj)), .pure (.sl (p0.fTables.map Aq))])]) (fun v8 => mk [(1, .e (.one (.ptr 1 0)))] [(1, .box [.pure (.sl (p0.fVersions.map Aj)), .pure (.sl (p0.fNow.map Aj)), .pure (.sl (p0.fTarget.map Aj)), .pure (.sl (p0.fTables.map Aq))])]) (fun _ _ => rfl) (sm [] _ _ rfl rfl) (fun j7 n7 v7 h => ?_) (fun v8 s h hs => ?_)
     ·unfold BA at h
      refine Ab (Aa Ac rfl (AT rfl (Ad (Ab ?_))))
      refine Ao rfl (fun c9 => ?_) (fun c9 => ?_)
      ·have h := Am c9 h
       refine Ap (Ab (AI (Ab (Aa Ac rfl (qm rfl ?_)))))
       obtain ⟨v10, a10, b10, h⟩ := Ah h
       refine qi AJ DS a10 (Ag b10) rfl (qk CO rfl (qa rfl (qa rfl (Ad ?_))))
       refine AO h (fun v11 => mk [(1, .e (.one (.ptr 1 0))), (33, .e (.one (.pure (.sl (p0.fVersions.map Aj))))), (34, .e (.one (.pure (.val (.int .i64 ((p0.fVersions.length : Int))))))), (35, .e (.one (.pure (.val (.int .i64 v7))))), (65, .e (.one (.pure (.val (.bool v11)))))] [(1, .box [.pure (.sl (p0.fVersions.map Aj)), .pure (.sl (p0.fNow.map Aj)), .pure (.sl (p0.fTarget.map Aj)), .pure (.sl (p0.fTables.map Aq))])]) (fun j11 h => ?_) (fun v11 h => ?_)
       ·refine Aa Ac rfl (qm rfl (AT rfl (qm rfl ?_)))
        refine AA (t := 42) rfl (fun c12 => ?_) (fun c12 => ?_)
        ·have h := Am c12 h
         refine qn rfl (qn rfl (qp rfl (qm rfl (qn rfl (qn rfl (qn rfl (qn rfl (qn rfl (qn rfl (qn rfl (qn rfl (qp rfl (qm rfl (qn rfl (qn rfl (qn rfl (qn rfl (qn rfl (qn rfl (qn rfl (qn rfl (qp rfl (Ad ?_)))))))))))))))))))))))
         exact As _ h (sm [] _ _ rfl rfl)
        ·have h := An c12 h
         refine qm rfl (Es rfl (qp rfl (qm rfl ?_)))
         refine AA (t := 46) rfl (fun c13 => ?_) (fun c13 => ?_)
         ·have h := Am c13 h
          refine qn rfl (qn rfl (qn rfl (qn rfl (qn rfl (qn rfl (qn rfl (qn rfl (qp rfl (qm rfl (qn rfl (qn rfl (qn rfl (qn rfl (qn rfl (qn rfl (qn rfl (qn rfl (qp rfl (Ad ?_)))))))))))))))))))
          exact As _ h (sm [] _ _ rfl rfl)
         ·have h := An c13 h
          refine qf Gg rfl (ql Bp rfl (qm rfl ?_))
          obtain ⟨v14, a14, b14, h⟩ := Ah h
          refine qi AJ DS a14 (Ag b14) rfl (qk CO rfl (qm rfl ?_))
          obtain ⟨v15, a15, h⟩ := bind_some h
          refine AC [] (FR N v14 v10 v15 a15) P5 rfl (Cy rfl (qp rfl (qm rfl ?_)))
          refine AA (t := 56) rfl (fun c16 => ?_) (fun c16 => ?_)
          ·have h := Am c16 h
           refine qn rfl (qn rfl (qn rfl (qn rfl (qn rfl (qn rfl (qn rfl (qn rfl (qp rfl (Ad ?_)))))))))
           exact As _ h (sm [] _ _ rfl rfl)
          ·have h := An c16 h
           refine qf HJ rfl (ql Bp rfl (qm rfl ?_))
           obtain ⟨v17, a17, b17, h⟩ := Ah h
           refine qi AJ DS a17 (Ag b17) rfl (qk CO rfl (qm rfl ?_))
           obtain ⟨v18, a18, h⟩ := bind_some h
           refine AC [] (FR N v17 v10 v18 a18) P5 rfl (Cy rfl (qp rfl (Ad ?_)))
           exact As _ h (sm [] _ _ rfl rfl)
       ·refine Ao rfl (fun c19 => ?_) (fun c19 => ?_)
        ·have h := Am c19 h
         refine Ab (Aa Ac rfl (qa rfl (Ad ?_)))
         obtain rfl := sj h
         refine Ak (sm [] [(2, .e (.one (.pure (.val (.int .i64 7)))))] [] rfl rfl) (Ax ?_)
         exact ⟨⟨[_], ⟨.tmp _ _ rfl, trivial⟩, rfl⟩, trivial⟩
        ·have h := An c19 h
         refine Ap (Aa Ac rfl (AQ rfl (qm rfl (Ad ?_))))
         exact As _ h (sm [] _ _ rfl rfl)
      ·have h := An c9 h
       refine AS ?_
       exact As _ h (sm [] _ _ rfl rfl)
     ·refine Ak hs (Ab (Ab (Aa Ac rfl (qf Dx rfl (ql H9 rfl (AN Ek rfl (qm rfl (Ad ?_))))))))
      refine AB (L := Bq N p0) h (fun v20 => mk [(1, .e (.one (.ptr 1 0))), (68, .e (.one (.pure (.sl (p0.fTables.map Aq))))), (69, .e (.one (.pure (.val (.int .i64 ((p0.fTables.length : Int))))))), (70, .e (.one (.pure (.val (.int .i64 v20)))))] [(1, .box [.pure (.sl (p0.fVersions.map Aj)), .pure (.sl (p0.fNow.map Aj)), .pure (.sl (p0.fTarget.map Aj)), .pure (.sl (p0.fTables.map Aq))])]) (fun v21 => mk [] []) (fun _ _ => rfl) (sm [] _ _ rfl rfl) (fun j20 n20 v20 h => ?_) (fun v21 s h hs => ?_)
      ·unfold Bq at h
       refine Ab (Aa Ac rfl (AT rfl (Ad (Ab ?_))))
       refine Ao rfl (fun c22 => ?_) (fun c22 => ?_)
       ·have h := Am c22 h
        refine Ap (Ab (AI (Ab (Aa Ac rfl ?_))))
        obtain ⟨v23, a23, b23, h⟩ := Ah h
        refine qi Ek D8 a23 (Ag b23) rfl (qK GY D8 rfl (qz Jq rfl (qs D8 rfl (Ad (Ab (Aa Ac rfl (qL DO Dz rfl (qL GY D8 rfl ?_))))))))
        obtain ⟨v24, a24, h⟩ := bind_some h
        refine AC [] (K0 N p0 v23 v24 a24) Te rfl (qa rfl (Ad (Ab (Aa Ac rfl (qm rfl (Cd rfl (Ad ?_)))))))
        refine Ao rfl (fun c25 => ?_) (fun c25 => ?_)
        ·have h := Am c25 h
         refine Ab (Aa Ac rfl (qm rfl (qa rfl (Ad ?_))))
         obtain rfl := sj h
         refine Ak (sm [] [(2, .e (.one (.pure (.val (.int .i64 v24)))))] [] rfl rfl) (Ax ?_)
         exact ⟨⟨[_], ⟨.tmp _ _ rfl, trivial⟩, rfl⟩, trivial⟩
        ·have h := An c25 h
         refine Ap (Aa Ac rfl (AQ rfl (qm rfl (Ad ?_))))
         exact As _ h (sm [] _ _ rfl rfl)
       ·have h := An c22 h
        refine AS ?_
        exact As _ h (sm [] _ _ rfl rfl)
      ·refine Ak hs (Ab (Aa Ac rfl (qa rfl (Ad ?_))))
       obtain rfl := sj h
       refine Ak (sm [] [(2, .e (.one (.pure (.val (.int .i64 0)))))] [] rfl rfl) (Ax ?_)
       exact ⟨⟨[_], ⟨.tmp _ _ rfl, trivial⟩, rfl⟩, trivial⟩
set_option maxRecDepth 10000 in
theorem C0 (N : Nat) (p0 : List Int) (r : (List Int)) (h : Cc N p0 = some r) : Az Try.prog 43 [.e (.one (.pure (.sl (p0.map Aj))))] [(1, r.map Aj)] (.e (.one (.own 0))) := by
 unfold Cc at h
 refine Ar (n := 8) (rs := [.tmp 2]) Try.func43 rfl rfl rfl (AV rfl) (AV rfl) rfl fun w0 S0 => ?_
 refine Ab (Aa Ac rfl (qa rfl (Ad (Ab (Ab (Aa Ac rfl (qm rfl ?_)))))))
 refine LT (.p rfl) rfl AJ ?_
 refine Ad ?_
 refine LG rfl (fun c2 => ?_) ?_
 ·have c2 := List.map_eq_nil_iff.1 c2
  rw [c2] at h
  have h : (some (([] : List Int))) = some r := h
  refine Ab (Aa Ac rfl (qa rfl (Ad ?_)))
  obtain rfl := sj h
  refine Ak ((Ba 2 2001 1 rfl rfl rfl).trans (sm [(1000, 2001)] [(2, .e (.one (.own 1000)))] [(1000, .vec 1 ((([] : List Int)).map Aj))] rfl rfl)) (Ax ?_)
  exact ⟨⟨[_], ⟨.tmp _ _ rfl, trivial⟩, rfl⟩, ⟨rfl, trivial⟩⟩
 ·refine Ap (Ab (Aa Ac rfl (Er AJ DS Mm rfl (qm rfl ?_))))
  obtain ⟨c1, h⟩ := AM h
  refine MZ (f := Aj) AJ AJ DS NW Mm (fun _ => rfl) c1 rfl (qa rfl (Ad ?_))
  obtain rfl := sj h
  refine Ak (sm [(1000, 7)] [(2, .e (.one (.own 1000)))] [(1000, .vec 1 (((([] : List Int)) ++ p0).map Aj))] rfl rfl) (Ax ?_)
  exact ⟨⟨[_], ⟨.tmp _ _ rfl, trivial⟩, rfl⟩, ⟨rfl, trivial⟩⟩
set_option maxRecDepth 10000 in
theorem IX (N : Nat) (p0 : Int) (p1 : Int) (r : Int × Int) (h : Fr N p0 p1 = some r) : Az Try.prog 96 [.e (.one (.pure (.val (.int .u32 p0)))), .e (.one (.pure (.val (.int .u32 p1))))] [] (.tup [.one (.pure (.val (.int .u32 r.1))), .one (.pure (.val (.int .u32 r.2)))]) := by
 unfold Fr at h
 refine Ar (n := 17) (rs := [.tmp 4, .tmp 5]) Try.func96 rfl rfl rfl (AV rfl) (AV rfl) rfl fun w0 S0 => ?_
 refine Ab (Aa Ac rfl (qa rfl (qa rfl (Ad (Ab (Aa Ac rfl (qm rfl (FH MF Qj rfl (qm rfl (FH MF Qj rfl (G6 rfl (qa rfl (Ad (Ab (Aa Ac rfl (qm rfl (Gj rfl (by decide) (FH OH ME rfl (qm rfl (FH OH ME rfl (qa rfl (qa rfl (Ad ?_)))))))))))))))))))))))
 obtain rfl := sj h
 refine Ak (sm [] [(4, .e (.one (.pure (.val (.int .u32 ((IntKind.wrap .u32 ((DZ .u64 ((IntKind.wrap .u64 ((IntKind.wrap .u64 p0) * (IntKind.wrap .u64 p1)))) 32))))))))), (5, .e (.one (.pure (.val (.int .u32 ((IntKind.wrap .u32 ((IntKind.wrap .u64 ((IntKind.wrap .u64 p0) * (IntKind.wrap .u64 p1)))))))))))] [] rfl rfl) (Ax ?_)
 exact ⟨⟨[_, _], ⟨.tmp _ _ rfl, ⟨.tmp _ _ rfl, trivial⟩⟩, rfl⟩, trivial⟩
set_option maxRecDepth 10000 in
theorem Jh (N : Nat) (p0 : Int) (p1 : Int) (r : Int × Int) (h : Fq N p0 p1 = some r) : Az Try.prog 97 [.e (.one (.pure (.val (.int .u64 p0)))), .e (.one (.pure (.val (.int .u64 p1))))] [] (.tup [.one (.pure (.val (.int .u64 r.1))), .one (.pure (.val (.int .u64 r.2)))]) := by
 unfold Fq at h
 refine Ar (n := 51) (rs := [.tmp 4, .tmp 5]) Try.func97 rfl rfl rfl (AV rfl) (AV rfl) rfl fun w0 S0 => ?_
 refine Ab (Aa Ac rfl (qa rfl (qa rfl (Ad (Ab (Aa Ac rfl (qm rfl (J2 rfl (qa rfl (Ad (Ab (Aa Ac rfl (qm rfl (Gj rfl (by decide) (qa rfl (Ad (Ab (Aa Ac rfl (qm rfl (J2 rfl (qa rfl (Ad (Ab (Aa Ac rfl (qm rfl (Gj rfl (by decide) (qa rfl (Ad (Ab (Aa Ac rfl (qm rfl (qm rfl (G6 rfl (qa rfl (Ad (Ab (Aa Ac rfl (qm rfl (qm rfl ?_)))))))))))))))))))))))))))))))))))))))
 refine G6 rfl (qm rfl (Gj rfl (by decide) (AQ rfl (qa rfl (Ad (Ab (Aa Ac rfl (qm rfl (J2 rfl (qa rfl (Ad (Ab (Aa Ac rfl (qm rfl (Gj rfl (by decide) (qa rfl (Ad (Ab (Aa Ac rfl (qm rfl (qm rfl (qm rfl (G6 rfl (AQ rfl (qa rfl (Ad (Ab (Aa Ac rfl (qm rfl (qm rfl (G6 rfl (qm rfl (AQ rfl (qm rfl (Gj rfl (by decide) (AQ rfl (qa rfl (Ad (Ab ?_)))))))))))))))))))))))))))))))))))))))
 refine Aa Ac rfl (qm rfl (qm rfl (G6 rfl (qa rfl (Ad ?_)))))
 obtain rfl := sj h
 refine Ak (sm [] [(4, .e (.one (.pure (.val (.int .u64 ((IntKind.wrap .u64 ((IntKind.wrap .u64 ((IntKind.wrap .u64 ((DZ .u64 p0 32) * (DZ .u64 p1 32))) + (DZ .u64 ((IntKind.wrap .u64 ((IntKind.wrap .u64 ((DZ .u64 p0 32) * (Gi .u64 p1 4294967295))) + (DZ .u64 ((IntKind.wrap .u64 ((Gi .u64 p0 4294967295) * (Gi .u64 p1 4294967295)))) 32)))) 32))) + (DZ .u64 ((IntKind.wrap .u64 ((Gi .u64 ((IntKind.wrap .u64 ((IntKind.wrap .u64 ((DZ .u64 p0 32) * (Gi .u64 p1 4294967295))) + (DZ .u64 ((IntKind.wrap .u64 ((Gi .u64 p0 4294967295) * (Gi .u64 p1 4294967295)))) 32)))) 4294967295) + (IntKind.wrap .u64 ((Gi .u64 p0 4294967295) * (DZ .u64 p1 32)))))) 32))))))))), (5, .e (.one (.pure (.val (.int .u64 ((IntKind.wrap .u64 (p0 * p1))))))))] [] rfl rfl) (Ax ?_)
 exact ⟨⟨[_, _], ⟨.tmp _ _ rfl, ⟨.tmp _ _ rfl, trivial⟩⟩, rfl⟩, trivial⟩
set_option maxRecDepth 10000 in
theorem J6 (N : Nat) (p0 : Int) (p1 : Int) (r : Int × Int) (h : F3 N p0 p1 = some r) : Az Try.prog 81 [.e (.one (.pure (.val (.int .u64 p0)))), .e (.one (.pure (.val (.int .u64 p1))))] [] (.tup [.one (.pure (.val (.int .u64 r.1))), .one (.pure (.val (.int .u64 r.2)))]) := by
 unfold F3 at h
 refine Ar (n := 30) (rs := [.tmp 4, .tmp 5]) Try.func81 rfl rfl rfl (AV rfl) (AV rfl) rfl fun w0 S0 => ?_
 refine Ab (Aa Ac rfl (qa rfl (qa rfl (Ad (Ab ?_)))))
 refine Ao rfl (fun c1 => ?_) (fun c1 => ?_)
 ·have h := Am c1 h
  refine Ab (Aa Ac rfl (qm rfl (FH Ox ME rfl (qm rfl (FH Ox ME rfl ?_)))))
  obtain ⟨v2, a2, h⟩ := bind_some h
  refine AC [] (IX N ((IntKind.wrap .u32 p0)) ((IntKind.wrap .u32 p1)) v2 a2) Tb rfl (qm rfl (qx rfl (qx rfl (qa rfl (qa rfl (Ad (Ab (Aa Ac rfl (qm rfl (FH MF NT rfl (qm rfl (FH MF NT rfl (qa rfl (qa rfl (Ad ?_)))))))))))))))
  obtain rfl := sj h
  refine Ak (sm [] [(4, .e (.one (.pure (.val (.int .u64 ((IntKind.wrap .u64 v2.1))))))), (5, .e (.one (.pure (.val (.int .u64 ((IntKind.wrap .u64 v2.2)))))))] [] rfl rfl) (Ax ?_)
  exact ⟨⟨[_, _], ⟨.tmp _ _ rfl, ⟨.tmp _ _ rfl, trivial⟩⟩, rfl⟩, trivial⟩
 ·have h := An c1 h
  refine Ap (Ab (Aa Ac rfl (qm rfl (qm rfl ?_))))
  obtain ⟨v3, a3, h⟩ := bind_some h
  refine AC [] (Jh N p0 p1 v3 a3) SE rfl (qm rfl (qx rfl (qx rfl (qa rfl (qa rfl (Ad (Ab (Aa Ac rfl (qm rfl (qm rfl (qa rfl (qa rfl (Ad ?_)))))))))))))
  obtain rfl := sj h
  refine Ak (sm [] [(4, .e (.one (.pure (.val (.int .u64 v3.1))))), (5, .e (.one (.pure (.val (.int .u64 v3.2)))))] [] rfl rfl) (Ax ?_)
  exact ⟨⟨[_, _], ⟨.tmp _ _ rfl, ⟨.tmp _ _ rfl, trivial⟩⟩, rfl⟩, trivial⟩
set_option maxRecDepth 10000 in
theorem Ht (N : Nat) (p0 : List Int) (p1 : Int) (r : (List Int)) (h : D4 N p0 p1 = some r) : Az Try.prog 59 [.e (.one (.pure (.sl (p0.map Aj)))), .e (.one (.pure (.val (.int .i64 p1))))] [(1, r.map Aj)] (.e (.one (.own 0))) := by
 unfold D4 at h
 refine Ar (n := 48) (rs := [.tmp 4]) Try.func59 rfl rfl rfl (AV rfl) (AV rfl) rfl fun w0 S0 => ?_
 refine Ab (Aa Ac rfl (qa rfl (Ad ?_)))
 refine AO h (fun v1 => mk [(0, .e (.one (.pure (.sl (p0.map Aj))))), (1, .e (.one (.pure (.val (.int .i64 p1)))))] []) (fun j1 h => ?_) (fun v1 h => ?_)
 ·refine Ab (Aa Ac rfl (qm rfl (AT rfl (Ad ?_))))
  refine Ao rfl (fun c2 => ?_) (fun c2 => ?_)
  ·have h := Am c2 h
   refine Aa Ac rfl ?_
   cases h
  ·have h := An c2 h
   refine Ap ?_
   exact As _ h (sm [] _ _ rfl rfl)
 ·refine Ab (Aa Ac rfl (qm rfl (AN AJ rfl (FH Q6 NT rfl (qm rfl (FH Q6 NT rfl ?_))))))
  obtain ⟨v3, a3, h⟩ := bind_some h
  refine AC [] (J6 N ((IntKind.wrap .u64 ((p0.length : Int)))) ((IntKind.wrap .u64 p1)) v3 a3) SC rfl (qm rfl (qx rfl (qx rfl (qa rfl (qa rfl (Ad ?_))))))
  refine AO h (fun v4 => mk [(0, .e (.one (.pure (.sl (p0.map Aj))))), (6, .e (.one (.pure (.val (.int .u64 v3.2)))))] []) (fun j4 h => ?_) (fun v4 h => ?_)
  ·refine AO h (fun v5 => mk [(0, .e (.one (.pure (.sl (p0.map Aj))))), (6, .e (.one (.pure (.val (.int .u64 v3.2))))), (26, .e (.one (.pure (.val (.bool v5)))))] []) (fun j5 h => ?_) (fun v5 h => ?_)
   ·refine Aa Ac rfl (qm rfl (Es rfl (qm rfl ?_)))
    refine AA (t := 23) rfl (fun c6 => ?_) (fun c6 => ?_)
    ·have h := Am c6 h
     refine qn rfl (qn rfl (qp rfl (Ad ?_)))
     exact As _ h (sm [] _ _ rfl rfl)
    ·have h := An c6 h
     refine qm rfl (Es rfl (qp rfl (Ad ?_)))
     exact As _ h (sm [] _ _ rfl rfl)
   ·refine Ao rfl (fun c7 => ?_) (fun c7 => ?_)
    ·have h := Am c7 h
     refine Aa Ac rfl ?_
     cases h
    ·have h := An c7 h
     refine Ap ?_
     exact As _ h (sm [] _ _ rfl rfl)
  ·refine Ab (Aa Ac rfl (qm rfl (FH Ox O1 rfl ?_)))
   obtain ⟨c8, h⟩ := AM h
   refine G8 (.p rfl) rfl rfl rfl AJ DS NW (AV rfl) Mm rfl rfl rfl c8.1 c8.2.1 c8.2.2 (Kg Aj _ ((0 : Int))) ?_
   refine qa rfl (Ad (Ab (Aa Ac rfl (qm rfl (qm rfl ?_)))))
   refine Nv Aj (List.replicate ((IntKind.wrap .i64 v3.2)).toNat ((0 : Int))) p0 (.p rfl) rfl (Gp Aj _ _ (List.replicate ((IntKind.wrap .i64 v3.2)).toNat ((0 : Int)))) rfl rfl (Pt Aj _ _ (fun _ => rfl)) trivial AJ DS ?_
   refine qa rfl (Ad (Ab ?_))
   refine AB (L := CV N) h (fun v9 => mk [(7, .e (.one (.own 2001))), (8, .e (.one (.pure (.val (.int .i64 v9.2)))))] [(2001, .vec 1 (v9.1.map Aj))]) (fun v10 => mk [(7, .e (.one (.own 2002)))] [(2002, .vec 1 (v10.map Aj))]) (fun _ _ => rfl) (sm [(2001, 30)] _ _ rfl rfl) (fun j9 n9 v9 h => ?_) (fun v10 s h hs => ?_)
   ·unfold CV at h
    refine Ab (Ab (Aa Ac rfl (qm rfl (qm rfl (Dj AJ rfl (AT rfl (Ad ?_)))))))
    refine Ao rfl (fun c11 => ?_) (fun c11 => ?_)
    ·have h := Am c11 h
     refine Ap (AI (Aa Ac rfl (qm rfl (qm rfl (qm rfl ?_)))))
     obtain ⟨c12, h⟩ := AM h
     have w13 : ((v9.2).toNat) + ((v9.1.length - (v9.2).toNat)) ≤ v9.1.length := by have := c12.2.1; have := c12.2.2; omega
     refine GV Aj v9.1 (.p rfl) rfl (Gp Aj _ _ v9.1) rfl AJ DS (.some _ _ _ _ c12.1) (.none _) ⟨rfl, trivial⟩ trivial c12.2.1 (by rw [Nat.zero_add]; exact c12.2.2) (Nat.zero_add _) rfl ?_
     refine qm rfl (qm rfl ?_)
     obtain ⟨c14, h⟩ := AM h
     have w15 : 0 + ((v9.2).toNat) ≤ v9.1.length := by have := c14.2.1; have := c14.2.2; omega
     refine GV Aj v9.1 (.p rfl) rfl (Gp Aj _ _ v9.1) rfl AJ DS (.none _) (.some _ _ _ _ c14.1) trivial ⟨rfl, trivial⟩ c14.2.1 (by rw [Nat.zero_add]; exact c14.2.2) (Nat.zero_add _) rfl ?_
     refine Nv Aj v9.1 (((v9.1.drop 0).take ((v9.2).toNat))) (.p rfl) rfl (JC Aj _ _ ((v9.2).toNat) ((v9.1.length - (v9.2).toNat)) v9.1 w13) rfl rfl (N2 Aj _ _ 0 ((v9.2).toNat) v9.1 w15) ⟨rfl, trivial⟩ AJ DS ?_
     refine AQ rfl (qa rfl (AF (by kernel_rfl) ?_))
     exact As _ h (sm [] _ _ rfl rfl)
    ·have h := An c11 h
     refine AS ?_
     exact As _ h (sm [(2002, 2001)] _ _ rfl rfl)
   ·refine Ak hs (Ab (Aa Ac rfl (qm rfl (qa rfl (Ad ?_)))))
    obtain rfl := sj h
    refine Ak (sm [(1000, 2002)] [(4, .e (.one (.own 1000)))] [(1000, .vec 1 (v10.map Aj))] rfl rfl) (Ax ?_)
    exact ⟨⟨[_], ⟨.tmp _ _ rfl, trivial⟩, rfl⟩, ⟨rfl, trivial⟩⟩
set_option maxRecDepth 10000 in
theorem HW (N : Nat) (p0 : AG) (r : Bool) (h : D5 N p0 = some r) : Az Try.prog 55 [.e (.agg [.pure (.val (.int .i64 p0.fKind)), .pure (.val (.int .i64 p0.fFrom)), .pure (.val (.int .i64 p0.fTo)), .pure (.val (.bool p0.fAware)), .pure (.sl (p0.fOK.map (EB eB))), .pure (.sl (p0.fRewrite.map (EB eB)))])] [] (.e (.one (.pure (.val (.bool r))))) := by
 unfold D5 at h
 refine Ar (n := 11) (rs := [.tmp 2]) Try.func55 rfl rfl rfl (AV rfl) (AV rfl) rfl fun w0 S0 => ?_
 refine Ab (Aa Ac rfl (qb rfl (qa rfl (Ad ?_))))
 refine AO h (fun v1 => mk [(2, .e (.one (.pure (.val (.bool v1)))))] []) (fun j1 h => ?_) (fun v1 h => ?_)
 ·refine Aa Ac rfl (qf ES rfl (ql CO rfl (Cm rfl (qm rfl ?_))))
  refine AA (t := 6) rfl (fun c2 => ?_) (fun c2 => ?_)
  ·have h := Am c2 h
   refine qn rfl (qn rfl (qn rfl (qp rfl (qa rfl (Ad ?_)))))
   exact As _ h (sm [] _ _ rfl rfl)
  ·have h := An c2 h
   refine qf ES rfl (ql CO rfl (Cm rfl (qp rfl (qa rfl (Ad ?_)))))
   exact As _ h (sm [] _ _ rfl rfl)
 ·obtain rfl := sj h
  refine Ak (sm [] [(2, .e (.one (.pure (.val (.bool v1)))))] [] rfl rfl) (Ax ?_)
  exact ⟨⟨[_], ⟨.tmp _ _ rfl, trivial⟩, rfl⟩, trivial⟩
set_option maxRecDepth 10000 in
theorem J0 (N : Nat) (p0 : Ai) (r : Ae × Int) (h : GF N p0 = some r) : Az Try.prog 41 [.e (.agg [.pure (.sl (p0.fVersions.map Aj)), .pure (.sl (p0.fNow.map Aj)), .pure (.sl (p0.fTarget.map Aj)), .pure (.sl (p0.fTables.map Aq))])] [(1, r.1.fBase.map Aj), (1, r.1.fNext.map Aj), (1, r.1.fHeld.map Bs)] (.tup [.agg [.own 0, .own 1, .own 2], .one (.pure (.val (.int .i64 r.2)))]) := by
 unfold GF at h
 refine Ar (n := 50) (rs := [.cell 2 42, .tmp 3]) Try.func41 rfl rfl rfl (AV rfl) (AV rfl) rfl fun w0 S0 => ?_
 refine Ab (Aa Ac rfl (qb rfl (qz Du rfl (qa rfl (Ad (Ab (Ab (Aa Ac rfl (qL DO Dz rfl ?_)))))))))
 obtain ⟨v1, a1, h⟩ := bind_some h
 refine AC [] (EH N p0 v1 a1) QQ rfl (qa rfl (Ad (Ab (Aa Ac rfl (qm rfl (Cd rfl (Ad ?_)))))))
 refine Ao rfl (fun c2 => ?_) (fun c2 => ?_)
 ·have h := Am c2 h
  refine Ab (Aa Ac rfl (C4 Du KX rfl (qm rfl (qs Aw rfl (qa rfl (Ad ?_))))))
  obtain rfl := sj h
  refine Ak ((A1 2 0 2001 1 _ rfl rfl rfl rfl).trans ((A1 2 1 2002 1 _ rfl rfl rfl rfl).trans ((A1 2 2 2003 1 _ rfl rfl rfl rfl).trans (sm [(1000, 2001), (1001, 2002), (1002, 2003)] [(2, .e (.one (.ptr 2 0))), (3, .e (.one (.pure (.val (.int .i64 v1)))))] [(2, .box [.own 1000, .own 1001, .own 1002]), (1000, .vec 1 ((([] : List Int)).map Aj)), (1001, .vec 1 ((([] : List Int)).map Aj)), (1002, .vec 1 ((([] : List Int)).map Bs))] rfl rfl)))) (Ax ?_)
  exact ⟨⟨[_, _], ⟨.cellN _ _ _ _ _ _ _ rfl rfl AU Aw rfl rfl (Ka rfl), ⟨.tmp _ _ rfl, trivial⟩⟩, rfl⟩, ⟨rfl, rfl, rfl, trivial⟩⟩
 ·have h := An c2 h
  refine Ap (Ab (Aa Ac rfl (qf Gg rfl (ql Bp rfl ?_))))
  obtain ⟨v3, a3, h⟩ := bind_some h
  refine AC [2004] (C0 N p0.fNow v3 a3) O7 rfl (Er AJ DS Mm rfl (qf Gg rfl (ql Bp rfl (AN AJ rfl ?_))))
  obtain ⟨v4, a4, h⟩ := bind_some h
  refine Fb [2005] [17] (Ht N (([(-1)] : List Int)) ((p0.fNow.length : Int)) v4 a4) SF (HV (fun _ => rfl) DR) rfl (qf Dx rfl (ql H9 rfl (AN Ek rfl ?_)))
  obtain ⟨c5, h⟩ := AM h
  refine G8 (.p rfl) rfl rfl rfl CI EE NC (AV rfl) Om rfl rfl rfl c5.1 c5.2.1 c5.2.2 (Kg Bs _ ((0 : Int))) ?_
  refine C4 Du KX rfl (qz Du rfl (qs Aw rfl (AF (by kernel_rfl) (Ab (Ab (Aa Ac rfl (qf Dx rfl (ql H9 rfl (AN Ek rfl (qm rfl (Ad ?_)))))))))))
  refine AB (L := Fc N p0) h (fun v6 => mk [(1, .e (.one (.ptr 1 0))), (2, .e (.one (.ptr 2 0))), (5, .e (.one (.ptr 5 0))), (28, .e (.one (.pure (.sl (p0.fTables.map Aq))))), (29, .e (.one (.pure (.val (.int .i64 ((p0.fTables.length : Int))))))), (30, .e (.one (.pure (.val (.int .i64 v6.2)))))] [(1, .box [.pure (.sl (p0.fVersions.map Aj)), .pure (.sl (p0.fNow.map Aj)), .pure (.sl (p0.fTarget.map Aj)), .pure (.sl (p0.fTables.map Aq))]), (2, .box [.pure (.nil0), .pure (.nil0), .pure (.nil0)]), (5, .box [.own 2006, .own 2007, .own 2008]), (2006, .vec 1 (v3.map Aj)), (2007, .vec 1 (v4.map Aj)), (2008, .vec 1 (v6.1.map Bs))]) (fun v7 => mk [(2, .e (.one (.ptr 2 0))), (5, .e (.one (.ptr 5 0)))] [(2, .box [.pure (.nil0), .pure (.nil0), .pure (.nil0)]), (5, .box [.own 2009, .own 2010, .own 2011]), (2009, .vec 1 (v3.map Aj)), (2010, .vec 1 (v4.map Aj)), (2011, .vec 1 (v7.map Bs))]) (fun _ _ => rfl) (sm [(2006, 2004), (2007, 2005), (2008, 25)] _ _ rfl rfl) (fun j6 n6 v6 h => ?_) (fun v7 s h hs => ?_)
  ·unfold Fc at h
   refine Ab (Aa Ac rfl (AT rfl (Ad (Ab ?_))))
   refine Ao rfl (fun c8 => ?_) (fun c8 => ?_)
   ·have h := Am c8 h
    refine Ap ?_
    refine AO h (fun v9 => mk [(1, .e (.one (.ptr 1 0))), (2, .e (.one (.ptr 2 0))), (5, .e (.one (.ptr 5 0))), (28, .e (.one (.pure (.sl (p0.fTables.map Aq))))), (29, .e (.one (.pure (.val (.int .i64 ((p0.fTables.length : Int))))))), (30, .e (.one (.pure (.val (.int .i64 v6.2)))))] [(1, .box [.pure (.sl (p0.fVersions.map Aj)), .pure (.sl (p0.fNow.map Aj)), .pure (.sl (p0.fTarget.map Aj)), .pure (.sl (p0.fTables.map Aq))]), (2, .box [.pure (.nil0), .pure (.nil0), .pure (.nil0)]), (5, .box [.own 2012, .own 2013, .own 2014]), (2012, .vec 1 (v3.map Aj)), (2013, .vec 1 (v4.map Aj)), (2014, .vec 1 (v9.map Bs))]) (fun j9 h => ?_) (fun v9 h => ?_)
    ·refine AI (Ab (Aa Ac rfl (qm rfl ?_)))
     obtain ⟨v10, a10, b10, h⟩ := Ah h
     refine qi Ek D8 a10 (Ag b10) rfl (qK GY D8 rfl (qz Jq rfl (qa rfl (qs D8 rfl (Ad (Ab (Aa Ac rfl (qL GY D8 rfl ?_))))))))
     obtain ⟨v11, a11, h⟩ := bind_some h
     refine AC [] (HW N v10 v11 a11) QG rfl (Ad ?_)
     refine Ao rfl (fun c12 => ?_) (fun c12 => ?_)
     ·have h := Am c12 h
      refine Aa Ac rfl (qf Df rfl (ql Hk rfl (qm rfl (qf Gg rfl (ql Bp rfl (qf Dq rfl (ql CO rfl ?_)))))))
      obtain ⟨v13, a13, b13, h⟩ := Ah h
      refine qi AJ DS a13 (Ag b13) rfl (qk CO rfl ?_)
      obtain ⟨c14, h⟩ := AM h
      refine Gz rfl c14 ?_
      obtain ⟨v15, a15, b15, h⟩ := Ah h
      refine qI CI EE a15 (Ag b15) rfl ?_
      refine AX rfl rfl rfl rfl (Ag b15) rfl EE rfl (AV rfl) (AY Bs v6.1 _ ((Cn .u8 1 v13))) ?_
      refine AF (by kernel_rfl) ?_
      exact As _ h (sm [(2012, 2006), (2013, 2007), (2014, 2008)] _ _ rfl rfl)
     ·have h := An c12 h
      refine Ap ?_
      exact As _ h (sm [(2012, 2006), (2013, 2007), (2014, 2008)] _ _ rfl rfl)
    ·refine Aa Ac rfl (AQ rfl (qm rfl (Ad ?_)))
     exact As _ h (sm [(2006, 2012), (2007, 2013), (2008, 2014)] _ _ rfl rfl)
   ·have h := An c8 h
    refine AS ?_
    exact As _ h (sm [(2009, 2006), (2010, 2007), (2011, 2008)] _ _ rfl rfl)
  ·refine Ak hs (Ab (Aa Ac rfl (qL AU Aw rfl (qs Aw rfl (qa rfl (Ad ?_))))))
   obtain rfl := sj h
   refine Ak (sm [(1000, 2009), (1001, 2010), (1002, 2011)] [(2, .e (.one (.ptr 2 0))), (3, .e (.one (.pure (.val (.int .i64 0)))))] [(2, .box [.own 1000, .own 1001, .own 1002]), (1000, .vec 1 (v3.map Aj)), (1001, .vec 1 (v4.map Aj)), (1002, .vec 1 (v7.map Bs))] rfl rfl) (Ax ?_)
   exact ⟨⟨[_, _], ⟨.cellN _ _ _ _ _ _ _ rfl rfl AU Aw rfl rfl (Ka rfl), ⟨.tmp _ _ rfl, trivial⟩⟩, rfl⟩, ⟨rfl, rfl, rfl, trivial⟩⟩
set_option maxRecDepth 10000 in
theorem Hj (N : Nat) (p0 : Ae) (p1 : Int) (r : Int) (h : DK N p0 p1 = some r) : Az Try.prog 56 [.e (.agg [.pure (.sl (p0.fBase.map Aj)), .pure (.sl (p0.fNext.map Aj)), .pure (.sl (p0.fHeld.map Bs))]), .e (.one (.pure (.val (.int .i64 p1))))] [] (.e (.one (.pure (.val (.int .u8 r))))) := by
 unfold DK at h
 refine Ar (n := 27) (rs := [.tmp 4]) Try.func56 rfl rfl rfl (AV rfl) (AV rfl) rfl fun w0 S0 => ?_
 refine Ab (Aa Ac rfl (qb rfl (qa rfl (Ad (Ab (Aa Ac rfl (qf Da rfl (ql Bp rfl (qm rfl ?_)))))))))
 obtain ⟨v1, a1, b1, h⟩ := Ah h
 refine qi AJ DS a1 (Ag b1) rfl (qk CO rfl ?_)
 obtain ⟨c2, h⟩ := AM h
 refine Gz rfl c2 (qa rfl (Ad ?_))
 refine AO h (fun v3 => mk [(5, .e (.one (.pure (.val (.int .u8 v3)))))] []) (fun j3 h => ?_) (fun v3 h => ?_)
 ·refine Ab (Aa Ac rfl (qf Cu rfl (ql Bp rfl (qm rfl ?_))))
  obtain ⟨v4, a4, b4, h⟩ := Ah h
  refine qi AJ DS a4 (Ag b4) rfl (qk CO rfl (Dl rfl (Ad ?_)))
  refine Ao rfl (fun c5 => ?_) (fun c5 => ?_)
  ·have h := Am c5 h
   refine Aa Ac rfl (qm rfl (qf Cu rfl (ql Bp rfl (qm rfl ?_))))
   obtain ⟨v6, a6, b6, h⟩ := Ah h
   refine qi AJ DS a6 (Ag b6) rfl (qk CO rfl ?_)
   obtain ⟨c7, h⟩ := AM h
   refine Gz rfl c7 (Nk rfl (qa rfl (Ad ?_)))
   exact As _ h (sm [] _ _ rfl rfl)
  ·have h := An c5 h
   refine Ap ?_
   exact As _ h (sm [] _ _ rfl rfl)
 ·refine Ab (Aa Ac rfl (qm rfl (qa rfl (Ad ?_))))
  obtain rfl := sj h
  refine Ak (sm [] [(4, .e (.one (.pure (.val (.int .u8 v3)))))] [] rfl rfl) (Ax ?_)
  exact ⟨⟨[_], ⟨.tmp _ _ rfl, trivial⟩, rfl⟩, trivial⟩
set_option maxRecDepth 10000 in
theorem Gn (N : Nat) (p0 : Ai) (p1 : Ae) (r : Int) (h : DC N p0 p1 = some r) : Az Try.prog 33 [.e (.agg [.pure (.sl (p0.fVersions.map Aj)), .pure (.sl (p0.fNow.map Aj)), .pure (.sl (p0.fTarget.map Aj)), .pure (.sl (p0.fTables.map Aq))]), .e (.agg [.pure (.sl (p1.fBase.map Aj)), .pure (.sl (p1.fNext.map Aj)), .pure (.sl (p1.fHeld.map Bs))])] [] (.e (.one (.pure (.val (.int .i64 r))))) := by
 unfold DC at h
 refine Ar (n := 135) (rs := [.tmp 4]) Try.func33 rfl rfl rfl (AV rfl) (AV rfl) rfl fun w0 S0 => ?_
 refine Ab (Aa Ac rfl (qb rfl (qb rfl (qa rfl (Ad (Ab (Ab (Aa Ac rfl (qL DO Dz rfl ?_)))))))))
 obtain ⟨v1, a1, h⟩ := bind_some h
 refine AC [] (EH N p0 v1 a1) QQ rfl (qa rfl (Ad (Ab (Aa Ac rfl (qm rfl (Cd rfl (Ad ?_)))))))
 refine Ao rfl (fun c2 => ?_) (fun c2 => ?_)
 ·have h := Am c2 h
  refine Ab (Aa Ac rfl (qm rfl (qa rfl (Ad ?_))))
  obtain rfl := sj h
  refine Ak (sm [] [(4, .e (.one (.pure (.val (.int .i64 v1)))))] [] rfl rfl) (Ax ?_)
  exact ⟨⟨[_], ⟨.tmp _ _ rfl, trivial⟩, rfl⟩, trivial⟩
 ·have h := An c2 h
  refine Ap (Ab ?_)
  refine AO h (fun v3 => mk [(2, .e (.one (.ptr 2 0))), (3, .e (.one (.ptr 3 0))), (41, .e (.one (.pure (.val (.bool v3)))))] [(2, .box [.pure (.sl (p0.fVersions.map Aj)), .pure (.sl (p0.fNow.map Aj)), .pure (.sl (p0.fTarget.map Aj)), .pure (.sl (p0.fTables.map Aq))]), (3, .box [.pure (.sl (p1.fBase.map Aj)), .pure (.sl (p1.fNext.map Aj)), .pure (.sl (p1.fHeld.map Bs))])]) (fun j3 h => ?_) (fun v3 h => ?_)
  ·refine Aa Ac rfl (qf Da rfl (ql Bp rfl (AN AJ rfl (qf Bv rfl (ql Bp rfl (AN AJ rfl (Cd rfl (qm rfl ?_))))))))
   refine AA (t := 24) rfl (fun c4 => ?_) (fun c4 => ?_)
   ·have h := Am c4 h
    refine qn rfl (qn rfl (qn rfl (qn rfl (qn rfl (qn rfl (qn rfl (qp rfl (qm rfl (qn rfl (qn rfl (qn rfl (qn rfl (qn rfl (qn rfl (qn rfl (qp rfl (Ad ?_)))))))))))))))))
    exact As _ h (sm [] _ _ rfl rfl)
   ·have h := An c4 h
    refine qf Cu rfl (ql Bp rfl (AN AJ rfl (qf Bv rfl (ql Bp rfl (AN AJ rfl (Cd rfl (qp rfl (qm rfl ?_))))))))
    refine AA (t := 33) rfl (fun c5 => ?_) (fun c5 => ?_)
    ·have h := Am c5 h
     refine qn rfl (qn rfl (qn rfl (qn rfl (qn rfl (qn rfl (qn rfl (qp rfl (Ad ?_))))))))
     exact As _ h (sm [] _ _ rfl rfl)
    ·have h := An c5 h
     refine qf Df rfl (ql Hk rfl (AN CI rfl (qf Dx rfl (ql H9 rfl (AN Ek rfl (Cd rfl (qp rfl (Ad ?_))))))))
     exact As _ h (sm [] _ _ rfl rfl)
  ·refine Ao rfl (fun c6 => ?_) (fun c6 => ?_)
   ·have h := Am c6 h
    refine Ab (Aa Ac rfl (qa rfl (Ad ?_)))
    obtain rfl := sj h
    refine Ak (sm [] [(4, .e (.one (.pure (.val (.int .i64 6)))))] [] rfl rfl) (Ax ?_)
    exact ⟨⟨[_], ⟨.tmp _ _ rfl, trivial⟩, rfl⟩, trivial⟩
   ·have h := An c6 h
    refine Ap (Ab (Ab (Aa Ac rfl (qf Bv rfl (ql Bp rfl (AN AJ rfl (qm rfl (Ad ?_))))))))
    refine AB (L := C9 N p0 p1) h (fun v7 => mk [(2, .e (.one (.ptr 2 0))), (3, .e (.one (.ptr 3 0))), (43, .e (.one (.pure (.sl (p0.fVersions.map Aj))))), (44, .e (.one (.pure (.val (.int .i64 ((p0.fVersions.length : Int))))))), (45, .e (.one (.pure (.val (.int .i64 v7)))))] [(2, .box [.pure (.sl (p0.fVersions.map Aj)), .pure (.sl (p0.fNow.map Aj)), .pure (.sl (p0.fTarget.map Aj)), .pure (.sl (p0.fTables.map Aq))]), (3, .box [.pure (.sl (p1.fBase.map Aj)), .pure (.sl (p1.fNext.map Aj)), .pure (.sl (p1.fHeld.map Bs))])]) (fun v8 => mk [(2, .e (.one (.ptr 2 0))), (3, .e (.one (.ptr 3 0)))] [(2, .box [.pure (.sl (p0.fVersions.map Aj)), .pure (.sl (p0.fNow.map Aj)), .pure (.sl (p0.fTarget.map Aj)), .pure (.sl (p0.fTables.map Aq))]), (3, .box [.pure (.sl (p1.fBase.map Aj)), .pure (.sl (p1.fNext.map Aj)), .pure (.sl (p1.fHeld.map Bs))])]) (fun _ _ => rfl) (sm [] _ _ rfl rfl) (fun j7 n7 v7 h => ?_) (fun v8 s h hs => ?_)
    ·unfold C9 at h
     refine Ab (Aa Ac rfl (AT rfl (Ad (Ab ?_))))
     refine Ao rfl (fun c9 => ?_) (fun c9 => ?_)
     ·have h := Am c9 h
      refine Ap (Ab (AI (Ab (Aa Ac rfl (qm rfl ?_)))))
      obtain ⟨v10, a10, b10, h⟩ := Ah h
      refine qi AJ DS a10 (Ag b10) rfl (qk CO rfl (qa rfl (qa rfl (Ad (Ab ?_)))))
      refine AO h (fun v11 => mk [(2, .e (.one (.ptr 2 0))), (3, .e (.one (.ptr 3 0))), (6, .e (.one (.pure (.val (.int .i64 v7))))), (43, .e (.one (.pure (.sl (p0.fVersions.map Aj))))), (44, .e (.one (.pure (.val (.int .i64 ((p0.fVersions.length : Int))))))), (45, .e (.one (.pure (.val (.int .i64 v7))))), (81, .e (.one (.pure (.val (.bool v11)))))] [(2, .box [.pure (.sl (p0.fVersions.map Aj)), .pure (.sl (p0.fNow.map Aj)), .pure (.sl (p0.fTarget.map Aj)), .pure (.sl (p0.fTables.map Aq))]), (3, .box [.pure (.sl (p1.fBase.map Aj)), .pure (.sl (p1.fNext.map Aj)), .pure (.sl (p1.fHeld.map Bs))])]) (fun j11 h => ?_) (fun v11 h => ?_)
      ·refine Aa Ac rfl (qf Da rfl (ql Bp rfl (qm rfl ?_)))
       obtain ⟨v12, a12, b12, h⟩ := Ah h
       refine qi AJ DS a12 (Ag b12) rfl (qk CO rfl (AT rfl (qm rfl ?_)))
       refine AA (t := 56) rfl (fun c13 => ?_) (fun c13 => ?_)
       ·have h := Am c13 h
        refine qn rfl (qn rfl (qn rfl (qn rfl (qn rfl (qn rfl (qn rfl (qp rfl (qm rfl (qn rfl (qn rfl (qn rfl (qn rfl (qn rfl (qn rfl (qp rfl (qm rfl (qn rfl (qn rfl (qn rfl (qn rfl (qn rfl (qn rfl (qn rfl (qp rfl (Ad ?_)))))))))))))))))))))))))
        exact As _ h (sm [] _ _ rfl rfl)
       ·have h := An c13 h
        refine qf Da rfl (ql Bp rfl (qm rfl ?_))
        obtain ⟨v14, a14, b14, h⟩ := Ah h
        refine qi AJ DS a14 (Ag b14) rfl (qk CO rfl (qm rfl (Dl rfl (qp rfl (qm rfl ?_)))))
        refine AA (t := 65) rfl (fun c15 => ?_) (fun c15 => ?_)
        ·have h := Am c15 h
         refine qn rfl (qn rfl (qn rfl (qn rfl (qn rfl (qn rfl (qp rfl (qm rfl (qn rfl (qn rfl (qn rfl (qn rfl (qn rfl (qn rfl (qn rfl (qp rfl (Ad ?_))))))))))))))))
         exact As _ h (sm [] _ _ rfl rfl)
        ·have h := An c15 h
         refine qf Cu rfl (ql Bp rfl (qm rfl ?_))
         obtain ⟨v16, a16, b16, h⟩ := Ah h
         refine qi AJ DS a16 (Ag b16) rfl (qk CO rfl (AT rfl (qp rfl (qm rfl ?_))))
         refine AA (t := 73) rfl (fun c17 => ?_) (fun c17 => ?_)
         ·have h := Am c17 h
          refine qn rfl (qn rfl (qn rfl (qn rfl (qn rfl (qn rfl (qn rfl (qp rfl (Ad ?_))))))))
          exact As _ h (sm [] _ _ rfl rfl)
         ·have h := An c17 h
          refine qf Cu rfl (ql Bp rfl (qm rfl ?_))
          obtain ⟨v18, a18, b18, h⟩ := Ah h
          refine qi AJ DS a18 (Ag b18) rfl (qk CO rfl (qm rfl (Dl rfl (qp rfl (Ad ?_)))))
          exact As _ h (sm [] _ _ rfl rfl)
      ·refine Ao rfl (fun c19 => ?_) (fun c19 => ?_)
       ·have h := Am c19 h
        refine Ab (Aa Ac rfl (qa rfl (Ad ?_)))
        obtain rfl := sj h
        refine Ak (sm [] [(4, .e (.one (.pure (.val (.int .i64 7)))))] [] rfl rfl) (Ax ?_)
        exact ⟨⟨[_], ⟨.tmp _ _ rfl, trivial⟩, rfl⟩, trivial⟩
       ·have h := An c19 h
        refine Ap (Ab (Aa Ac rfl (qf Da rfl (ql Bp rfl (qm rfl ?_)))))
        obtain ⟨v20, a20, b20, h⟩ := Ah h
        refine qi AJ DS a20 (Ag b20) rfl (qk CO rfl (qf Cu rfl (ql Bp rfl (qm rfl ?_))))
        obtain ⟨v21, a21, b21, h⟩ := Ah h
        refine qi AJ DS a21 (Ag b21) rfl (qk CO rfl (Cm rfl (AF (by kernel_rfl) ?_)))
        refine Ao rfl (fun c22 => ?_) (fun c22 => ?_)
        ·have h := Am c22 h
         refine Ab (Aa Ac rfl (qa rfl (Ad ?_)))
         obtain rfl := sj h
         refine Ak (sm [] [(4, .e (.one (.pure (.val (.int .i64 1)))))] [] rfl rfl) (Ax ?_)
         exact ⟨⟨[_], ⟨.tmp _ _ rfl, trivial⟩, rfl⟩, trivial⟩
        ·have h := An c22 h
         refine Ap (Aa Ac rfl (AQ rfl (qm rfl (Ad ?_))))
         exact As _ h (sm [] _ _ rfl rfl)
     ·have h := An c9 h
      refine AS ?_
      exact As _ h (sm [] _ _ rfl rfl)
    ·refine Ak hs (Ab (Ab (Aa Ac rfl (qf Dx rfl (ql H9 rfl (AN Ek rfl (qm rfl (Ad ?_))))))))
     refine AB (L := CT N p0 p1) h (fun v23 => mk [(2, .e (.one (.ptr 2 0))), (3, .e (.one (.ptr 3 0))), (95, .e (.one (.pure (.sl (p0.fTables.map Aq))))), (96, .e (.one (.pure (.val (.int .i64 ((p0.fTables.length : Int))))))), (97, .e (.one (.pure (.val (.int .i64 v23)))))] [(2, .box [.pure (.sl (p0.fVersions.map Aj)), .pure (.sl (p0.fNow.map Aj)), .pure (.sl (p0.fTarget.map Aj)), .pure (.sl (p0.fTables.map Aq))]), (3, .box [.pure (.sl (p1.fBase.map Aj)), .pure (.sl (p1.fNext.map Aj)), .pure (.sl (p1.fHeld.map Bs))])]) (fun v24 => mk [] []) (fun _ _ => rfl) (sm [] _ _ rfl rfl) (fun j23 n23 v23 h => ?_) (fun v24 s h hs => ?_)
     ·unfold CT at h
      refine Ab (Aa Ac rfl (AT rfl (Ad (Ab ?_))))
      refine Ao rfl (fun c25 => ?_) (fun c25 => ?_)
      ·have h := Am c25 h
       refine Ap (Ab (AI (Ab (Aa Ac rfl (qm rfl ?_)))))
       obtain ⟨v26, a26, b26, h⟩ := Ah h
       refine qi Ek D8 a26 (Ag b26) rfl (qK GY D8 rfl (qz Jq rfl (qa rfl (qs D8 rfl (Ad (Ab (Aa Ac rfl (qa rfl (qa rfl (Ad ?_))))))))))
       refine AO h (fun v27 => mk [(2, .e (.one (.ptr 2 0))), (3, .e (.one (.ptr 3 0))), (8, .e (.one (.pure (.val (.int .i64 v23))))), (10, .e (.one (.pure (.val (.int .u8 v27.1))))), (11, .e (.one (.pure (.val (.int .u8 v27.2))))), (95, .e (.one (.pure (.sl (p0.fTables.map Aq))))), (96, .e (.one (.pure (.val (.int .i64 ((p0.fTables.length : Int))))))), (97, .e (.one (.pure (.val (.int .i64 v23)))))] [(2, .box [.pure (.sl (p0.fVersions.map Aj)), .pure (.sl (p0.fNow.map Aj)), .pure (.sl (p0.fTarget.map Aj)), .pure (.sl (p0.fTables.map Aq))]), (3, .box [.pure (.sl (p1.fBase.map Aj)), .pure (.sl (p1.fNext.map Aj)), .pure (.sl (p1.fHeld.map Bs))])]) (fun j27 h => ?_) (fun v27 h => ?_)
       ·refine Ab (Aa Ac rfl (qL GY D8 rfl ?_))
        obtain ⟨v28, a28, h⟩ := bind_some h
        refine AC [] (HW N v26 v28 a28) QG rfl (Ad ?_)
        refine Ao rfl (fun c29 => ?_) (fun c29 => ?_)
        ·have h := Am c29 h
         refine Aa Ac rfl (qL AU Aw rfl (qf Dq rfl (ql CO rfl ?_)))
         obtain ⟨v30, a30, h⟩ := bind_some h
         refine AC [] (Hj N p1 v26.fFrom v30 a30) QS rfl (qf Bv rfl (ql Bp rfl (qf Dq rfl (ql CO rfl ?_))))
         obtain ⟨v31, a31, b31, h⟩ := Ah h
         refine qi AJ DS a31 (Ag b31) rfl (qk CO rfl ?_)
         obtain ⟨c32, h⟩ := AM h
         refine Gz rfl c32 (Cl rfl (qa rfl (qa rfl (AF (by kernel_rfl) ?_))))
         exact As _ h (sm [] _ _ rfl rfl)
        ·have h := An c29 h
         refine Ap ?_
         exact As _ h (sm [] _ _ rfl rfl)
       ·refine AO h (fun v33 => mk [(2, .e (.one (.ptr 2 0))), (3, .e (.one (.ptr 3 0))), (95, .e (.one (.pure (.sl (p0.fTables.map Aq))))), (96, .e (.one (.pure (.val (.int .i64 ((p0.fTables.length : Int))))))), (97, .e (.one (.pure (.val (.int .i64 v23))))), (133, .e (.one (.pure (.val (.bool v33)))))] [(2, .box [.pure (.sl (p0.fVersions.map Aj)), .pure (.sl (p0.fNow.map Aj)), .pure (.sl (p0.fTarget.map Aj)), .pure (.sl (p0.fTables.map Aq))]), (3, .box [.pure (.sl (p1.fBase.map Aj)), .pure (.sl (p1.fNext.map Aj)), .pure (.sl (p1.fHeld.map Bs))])]) (fun j33 h => ?_) (fun v33 h => ?_)
        ·refine Aa Ac rfl (qm rfl (qf Df rfl (ql Hk rfl (qm rfl ?_))))
         obtain ⟨v34, a34, b34, h⟩ := Ah h
         refine qi CI EE a34 (Ag b34) rfl (qk HM rfl (GJ rfl (Cd rfl (qm rfl ?_))))
         refine AA (t := 124) rfl (fun c35 => ?_) (fun c35 => ?_)
         ·have h := Am c35 h
          refine qn rfl (qn rfl (qn rfl (qn rfl (qn rfl (qn rfl (qn rfl (qn rfl (qp rfl (Ad ?_)))))))))
          exact As _ h (sm [] _ _ rfl rfl)
         ·have h := An c35 h
          refine qf Df rfl (ql Hk rfl (qm rfl ?_))
          obtain ⟨v36, a36, b36, h⟩ := Ah h
          refine qi CI EE a36 (Ag b36) rfl (qk HM rfl (qm rfl (GJ rfl (Cd rfl (qp rfl (Ad ?_))))))
          exact As _ h (sm [] _ _ rfl rfl)
        ·refine Ao rfl (fun c37 => ?_) (fun c37 => ?_)
         ·have h := Am c37 h
          refine Ab (Aa Ac rfl (qa rfl (Ad ?_)))
          obtain rfl := sj h
          refine Ak (sm [] [(4, .e (.one (.pure (.val (.int .i64 1)))))] [] rfl rfl) (Ax ?_)
          exact ⟨⟨[_], ⟨.tmp _ _ rfl, trivial⟩, rfl⟩, trivial⟩
         ·have h := An c37 h
          refine Ap (Aa Ac rfl (AQ rfl (qm rfl (Ad ?_))))
          exact As _ h (sm [] _ _ rfl rfl)
      ·have h := An c25 h
       refine AS ?_
       exact As _ h (sm [] _ _ rfl rfl)
     ·refine Ak hs (Ab (Aa Ac rfl (qa rfl (Ad ?_))))
      obtain rfl := sj h
      refine Ak (sm [] [(4, .e (.one (.pure (.val (.int .i64 0)))))] [] rfl rfl) (Ax ?_)
      exact ⟨⟨[_], ⟨.tmp _ _ rfl, trivial⟩, rfl⟩, trivial⟩
set_option maxRecDepth 10000 in
theorem Eh (N : Nat) (p0 : List Int) (r : (List Int)) (h : Cw N p0 = some r) : Az Try.prog 44 [.e (.one (.pure (.sl (p0.map Bs))))] [(1, r.map Bs)] (.e (.one (.own 0))) := by
 unfold Cw at h
 refine Ar (n := 8) (rs := [.tmp 2]) Try.func44 rfl rfl rfl (AV rfl) (AV rfl) rfl fun w0 S0 => ?_
 refine Ab (Aa Ac rfl (qa rfl (Ad (Ab (Ab (Aa Ac rfl (qm rfl ?_)))))))
 refine LT (.p rfl) rfl CI ?_
 refine Ad ?_
 refine LG rfl (fun c2 => ?_) ?_
 ·have c2 := List.map_eq_nil_iff.1 c2
  rw [c2] at h
  have h : (some (([] : List Int))) = some r := h
  refine Ab (Aa Ac rfl (qa rfl (Ad ?_)))
  obtain rfl := sj h
  refine Ak ((Ba 2 2001 1 rfl rfl rfl).trans (sm [(1000, 2001)] [(2, .e (.one (.own 1000)))] [(1000, .vec 1 ((([] : List Int)).map Bs))] rfl rfl)) (Ax ?_)
  exact ⟨⟨[_], ⟨.tmp _ _ rfl, trivial⟩, rfl⟩, ⟨rfl, trivial⟩⟩
 ·refine Ap (Ab (Aa Ac rfl (Er CI EE Om rfl (qm rfl ?_))))
  obtain ⟨c1, h⟩ := AM h
  refine MZ (f := Bs) CI CI EE NC Om (fun _ => rfl) c1 rfl (qa rfl (Ad ?_))
  obtain rfl := sj h
  refine Ak (sm [(1000, 7)] [(2, .e (.one (.own 1000)))] [(1000, .vec 1 (((([] : List Int)) ++ p0).map Bs))] rfl rfl) (Ax ?_)
  exact ⟨⟨[_], ⟨.tmp _ _ rfl, trivial⟩, rfl⟩, ⟨rfl, trivial⟩⟩
set_option maxRecDepth 10000 in
theorem I3 (N : Nat) (p0 : Ai) (p1 : Ae) (r : (List Ae) × Int) (h : Ge N p0 p1 = some r) : Az Try.prog 23 [.e (.agg [.pure (.sl (p0.fVersions.map Aj)), .pure (.sl (p0.fNow.map Aj)), .pure (.sl (p0.fTarget.map Aj)), .pure (.sl (p0.fTables.map Aq))]), .e (.agg [.pure (.sl (p1.fBase.map Aj)), .pure (.sl (p1.fNext.map Aj)), .pure (.sl (p1.fHeld.map Bs))])] [(3, r.1.map Af)] (.tup [.one (.own 0), .one (.pure (.val (.int .i64 r.2)))]) := by
 unfold Ge at h
 refine Ar (n := 75) (rs := [.tmp 4, .tmp 5]) Try.func23 rfl rfl rfl (AV rfl) (AV rfl) rfl fun w0 S0 => ?_
 refine Ab (Aa Ac rfl (qb rfl (qb rfl (qa rfl (qa rfl (Ad (Ab (Ab (Aa Ac rfl (qL DO Dz rfl (qL AU Aw rfl ?_)))))))))))
 obtain ⟨v1, a1, h⟩ := bind_some h
 refine AC [] (Gn N p0 p1 v1 a1) OV rfl (qa rfl (Ad (Ab (Aa Ac rfl (qm rfl (Cd rfl (Ad ?_)))))))
 refine Ao rfl (fun c2 => ?_) (fun c2 => ?_)
 ·have h := Am c2 h
  refine Ab (Aa Ac rfl (qm rfl (qa rfl (qa rfl (Ad ?_)))))
  obtain rfl := sj h
  refine Ak ((Ba 4 2001 3 rfl rfl rfl).trans (sm [(1000, 2001)] [(4, .e (.one (.own 1000))), (5, .e (.one (.pure (.val (.int .i64 v1)))))] [(1000, .vec 3 ((([] : List Ae)).map Af))] rfl rfl)) (Ax ?_)
  exact ⟨⟨[_, _], ⟨.tmp _ _ rfl, ⟨.tmp _ _ rfl, trivial⟩⟩, rfl⟩, ⟨rfl, trivial⟩⟩
 ·have h := An c2 h
  refine Ap (Ab (Aa Ac rfl (qa rfl (Ad (Ab (Ab (Aa Ac rfl (qf Cu rfl (ql Bp rfl (AN AJ rfl (qm rfl (Ad ?_))))))))))))
  refine AB (L := EY N p1) h (fun v3 => mk [(3, .e (.one (.ptr 3 0))), (7, .e (.one (.own 2002))), (22, .e (.one (.pure (.sl (p1.fNext.map Aj))))), (23, .e (.one (.pure (.val (.int .i64 ((p1.fNext.length : Int))))))), (24, .e (.one (.pure (.val (.int .i64 v3.2)))))] [(3, .box [.pure (.sl (p1.fBase.map Aj)), .pure (.sl (p1.fNext.map Aj)), .pure (.sl (p1.fHeld.map Bs))]), (2002, .vec 1 (v3.1.map Aj))]) (fun v4 => mk [(3, .e (.one (.ptr 3 0))), (7, .e (.one (.own 2003)))] [(3, .box [.pure (.sl (p1.fBase.map Aj)), .pure (.sl (p1.fNext.map Aj)), .pure (.sl (p1.fHeld.map Bs))]), (2003, .vec 1 (v4.map Aj))]) (fun _ _ => rfl) ((Ba 7 2005 1 rfl rfl rfl).trans (sm [(2002, 2005)] _ _ rfl rfl)) (fun j3 n3 v3 h => ?_) (fun v4 s h hs => ?_)
  ·unfold EY at h
   refine Ab (Aa Ac rfl (AT rfl (Ad (Ab ?_))))
   refine Ao rfl (fun c5 => ?_) (fun c5 => ?_)
   ·have h := Am c5 h
    refine Ap ?_
    refine AO h (fun v6 => mk [(3, .e (.one (.ptr 3 0))), (7, .e (.one (.own 2004))), (22, .e (.one (.pure (.sl (p1.fNext.map Aj))))), (23, .e (.one (.pure (.val (.int .i64 ((p1.fNext.length : Int))))))), (24, .e (.one (.pure (.val (.int .i64 v3.2)))))] [(3, .box [.pure (.sl (p1.fBase.map Aj)), .pure (.sl (p1.fNext.map Aj)), .pure (.sl (p1.fHeld.map Bs))]), (2004, .vec 1 (v6.map Aj))]) (fun j6 h => ?_) (fun v6 h => ?_)
    ·refine AI (Ab (Aa Ac rfl (qm rfl ?_)))
     obtain ⟨v7, a7, b7, h⟩ := Ah h
     refine qi AJ DS a7 (Ag b7) rfl (qk CO rfl (qa rfl (qa rfl (Ad (Ab (Aa Ac rfl (qm rfl (Dl rfl (Ad ?_)))))))))
     refine Ao rfl (fun c8 => ?_) (fun c8 => ?_)
     ·have h := Am c8 h
      refine Aa Ac rfl (qm rfl (qm rfl (Er AJ DS Mm rfl ?_)))
      obtain ⟨c9, h⟩ := AM h
      refine DE (f := Aj) AJ AJ DS NW Mm c9 rfl (qa rfl (Ad ?_))
      exact As _ h (sm [(2004, 34)] _ _ rfl rfl)
     ·have h := An c8 h
      refine Ap ?_
      exact As _ h (sm [(2004, 2002)] _ _ rfl rfl)
    ·refine Aa Ac rfl (AQ rfl (qm rfl (Ad ?_)))
     exact As _ h (sm [(2002, 2004)] _ _ rfl rfl)
   ·have h := An c5 h
    refine AS ?_
    exact As _ h (sm [(2003, 2002)] _ _ rfl rfl)
  ·refine Ak hs (Ab (Aa Ac rfl (qa rfl (Ad (Ab (Ab (Aa Ac rfl (qm rfl (Dj AJ rfl ?_)))))))))
   obtain ⟨c10, h⟩ := AM h
   refine Gz rfl c10 (qm rfl (Ad ?_))
   refine AB (L := Ez N p1 v4) h (fun v11 => mk [(3, .e (.one (.ptr 3 0))), (7, .e (.one (.own 2006))), (10, .e (.one (.own 2007))), (38, .e (.one (.pure (.val (.int .i64 ((Cn .i64 1 ((v4.length : Int))))))))), (39, .e (.one (.pure (.val (.int .i64 v11.2)))))] [(3, .box [.pure (.sl (p1.fBase.map Aj)), .pure (.sl (p1.fNext.map Aj)), .pure (.sl (p1.fHeld.map Bs))]), (2006, .vec 1 (v4.map Aj)), (2007, .vec 3 (v11.1.map Af))]) (fun v12 => mk [(10, .e (.one (.own 2008)))] [(2008, .vec 3 (v12.map Af))]) (fun _ _ => rfl) ((Ba 10 2027 3 rfl rfl rfl).trans (sm [(2006, 2003), (2007, 2027)] _ _ rfl rfl)) (fun j11 n11 v11 h => ?_) (fun v12 s h hs => ?_)
   ·unfold Ez at h
    refine Ab (Aa Ac rfl (AT rfl (Ad (Ab ?_))))
    refine Ao rfl (fun c13 => ?_) (fun c13 => ?_)
    ·have h := Am c13 h
     refine Ap (Ab (AI (Ab (Aa Ac rfl (qm rfl (qa rfl (Ad (Ab (Aa Ac rfl (qf Da rfl (ql Bp rfl ?_)))))))))))
     obtain ⟨v14, a14, h⟩ := bind_some h
     refine AC [2009] (C0 N p1.fBase v14 a14) O7 rfl (qf Cu rfl (ql Bp rfl ?_))
     obtain ⟨v15, a15, h⟩ := bind_some h
     refine AC [2010] (C0 N p1.fNext v15 a15) O7 rfl (qf Df rfl (ql Hk rfl ?_))
     obtain ⟨v16, a16, h⟩ := bind_some h
     refine AC [2011] (Eh N p1.fHeld v16 a16) R2 rfl (C4 Du KX rfl (qz Du rfl (qs Aw rfl (AF (by kernel_rfl) (Ab (Ab (Aa Ac rfl (qm rfl (Dj AJ rfl (qm rfl (Ad ?_)))))))))))
     refine AB (L := EC N v4 v11) h (fun v17 => mk [(3, .e (.one (.ptr 3 0))), (7, .e (.one (.own 2015))), (10, .e (.one (.own 2016))), (11, .e (.one (.pure (.val (.int .i64 v11.2))))), (12, .e (.one (.ptr 12 0))), (38, .e (.one (.pure (.val (.int .i64 ((Cn .i64 1 ((v4.length : Int))))))))), (39, .e (.one (.pure (.val (.int .i64 v11.2))))), (52, .e (.one (.own 2015))), (53, .e (.one (.pure (.val (.int .i64 ((v4.length : Int))))))), (54, .e (.one (.pure (.val (.int .i64 v17.2)))))] [(3, .box [.pure (.sl (p1.fBase.map Aj)), .pure (.sl (p1.fNext.map Aj)), .pure (.sl (p1.fHeld.map Bs))]), (12, .box [.own 2012, .own 2013, .own 2014]), (2012, .vec 1 (v14.map Aj)), (2013, .vec 1 (v17.1.map Aj)), (2014, .vec 1 (v16.map Bs)), (2015, .vec 1 (v4.map Aj)), (2016, .vec 3 (v11.1.map Af))]) (fun v18 => mk [(3, .e (.one (.ptr 3 0))), (7, .e (.one (.own 2020))), (10, .e (.one (.own 2021))), (12, .e (.one (.ptr 12 0))), (38, .e (.one (.pure (.val (.int .i64 ((Cn .i64 1 ((v4.length : Int))))))))), (39, .e (.one (.pure (.val (.int .i64 v11.2)))))] [(3, .box [.pure (.sl (p1.fBase.map Aj)), .pure (.sl (p1.fNext.map Aj)), .pure (.sl (p1.fHeld.map Bs))]), (12, .box [.own 2017, .own 2018, .own 2019]), (2017, .vec 1 (v14.map Aj)), (2018, .vec 1 (v18.map Aj)), (2019, .vec 1 (v16.map Bs)), (2020, .vec 1 (v4.map Aj)), (2021, .vec 3 (v11.1.map Af))]) (fun _ _ => rfl) (sm [(2012, 2009), (2013, 2010), (2014, 2011), (2015, 2006), (2016, 2007)] _ _ rfl rfl) (fun j17 n17 v17 h => ?_) (fun v18 s h hs => ?_)
     ·unfold EC at h
      refine Ab (Aa Ac rfl (AT rfl (Ad (Ab ?_))))
      refine Ao rfl (fun c19 => ?_) (fun c19 => ?_)
      ·have h := Am c19 h
       refine Ap ?_
       refine AO h (fun v20 => mk [(3, .e (.one (.ptr 3 0))), (7, .e (.one (.own 2025))), (10, .e (.one (.own 2026))), (11, .e (.one (.pure (.val (.int .i64 v11.2))))), (12, .e (.one (.ptr 12 0))), (38, .e (.one (.pure (.val (.int .i64 ((Cn .i64 1 ((v4.length : Int))))))))), (39, .e (.one (.pure (.val (.int .i64 v11.2))))), (52, .e (.one (.own 2025))), (53, .e (.one (.pure (.val (.int .i64 ((v4.length : Int))))))), (54, .e (.one (.pure (.val (.int .i64 v17.2)))))] [(3, .box [.pure (.sl (p1.fBase.map Aj)), .pure (.sl (p1.fNext.map Aj)), .pure (.sl (p1.fHeld.map Bs))]), (12, .box [.own 2022, .own 2023, .own 2024]), (2022, .vec 1 (v14.map Aj)), (2023, .vec 1 (v20.map Aj)), (2024, .vec 1 (v16.map Bs)), (2025, .vec 1 (v4.map Aj)), (2026, .vec 3 (v11.1.map Af))]) (fun j20 h => ?_) (fun v20 h => ?_)
       ·refine AI (Ab (Aa Ac rfl (qm rfl ?_)))
        obtain ⟨v21, a21, b21, h⟩ := Ah h
        refine qI AJ DS a21 (Ag b21) rfl (qj CO (Ag b21) rfl (qa rfl (qa rfl (Ad (Ab (Aa Ac rfl (qm rfl (qm rfl ?_))))))))
        obtain ⟨c22, h⟩ := AM h
        refine Gj rfl c22 (J2 rfl (Cm rfl (Ad ?_)))
        refine Ao rfl (fun c23 => ?_) (fun c23 => ?_)
        ·have h := Am c23 h
         refine Aa Ac rfl (qf Cu rfl (ql Bp rfl (qm rfl ?_)))
         obtain ⟨v24, a24, b24, h⟩ := Ah h
         refine qI AJ DS a24 (Ag b24) rfl ?_
         refine AX rfl rfl rfl rfl (Ag b24) rfl DS rfl (AV rfl) (AY Aj v17.1 _ ((-1))) ?_
         refine Ad ?_
         exact As _ h (sm [(2022, 2012), (2023, 2013), (2024, 2014), (2025, 2015), (2026, 2016)] _ _ rfl rfl)
        ·have h := An c23 h
         refine Ap ?_
         exact As _ h (sm [(2022, 2012), (2023, 2013), (2024, 2014), (2025, 2015), (2026, 2016)] _ _ rfl rfl)
       ·refine Aa Ac rfl (AQ rfl (qm rfl (Ad ?_)))
        exact As _ h (sm [(2012, 2022), (2013, 2023), (2014, 2024), (2015, 2025), (2016, 2026)] _ _ rfl rfl)
      ·have h := An c19 h
       refine AS ?_
       exact As _ h (sm [(2017, 2012), (2018, 2013), (2019, 2014), (2020, 2015), (2021, 2016)] _ _ rfl rfl)
     ·refine Ak hs (Aa Ac rfl (qm rfl (qL AU Aw rfl (C2 (A3 2017 _ _ rfl rfl) (C2 (A3 2018 _ _ rfl rfl) (C2 (A3 2019 _ _ rfl rfl) (Er AD Aw Du rfl ?_)))))))
      obtain ⟨c25, h⟩ := AM h
      refine DE (f := Af) AD AD Aw Lc Du c25 rfl (qa rfl (Ad (Aa Ac rfl (AQ rfl (qm rfl (Ad ?_))))))
      exact As _ h (sm [(2006, 2020), (2007, 72)] _ _ rfl rfl)
    ·have h := An c13 h
     refine AS ?_
     exact As _ h (sm [(2008, 2007)] _ _ rfl rfl)
   ·refine Ak hs (Ab (Aa Ac rfl (qm rfl (qa rfl (qa rfl (Ad ?_))))))
    obtain rfl := sj h
    refine Ak (sm [(1000, 2008)] [(4, .e (.one (.own 1000))), (5, .e (.one (.pure (.val (.int .i64 0)))))] [(1000, .vec 3 (v12.map Af))] rfl rfl) (Ax ?_)
    exact ⟨⟨[_, _], ⟨.tmp _ _ rfl, ⟨.tmp _ _ rfl, trivial⟩⟩, rfl⟩, ⟨rfl, trivial⟩⟩
set_option maxRecDepth 10000 in
theorem J4 (N : Nat) (p0 : Ai) (p1 : Ae) (r : (List AP)) (h : F4 N p0 p1 = some r) : Az Try.prog 74 [.e (.agg [.pure (.sl (p0.fVersions.map Aj)), .pure (.sl (p0.fNow.map Aj)), .pure (.sl (p0.fTarget.map Aj)), .pure (.sl (p0.fTables.map Aq))]), .e (.agg [.pure (.sl (p1.fBase.map Aj)), .pure (.sl (p1.fNext.map Aj)), .pure (.sl (p1.fHeld.map Bs))])] [(3, r.map B8)] (.e (.one (.own 0))) := by
 unfold F4 at h
 refine Ar (n := 98) (rs := [.tmp 4]) Try.func74 rfl rfl rfl (AV rfl) (AV rfl) rfl fun w0 S0 => ?_
 refine Ab (Aa Ac rfl (qb rfl (qb rfl (qa rfl (Ad (Ab (Aa Ac rfl (qa rfl (Ad (Ab (Ab (Aa Ac rfl (qf Dx rfl (ql H9 rfl (AN Ek rfl (qm rfl (Ad ?_)))))))))))))))))
 refine AB (L := Ec N p0 p1) h (fun v1 => mk [(3, .e (.one (.ptr 3 0))), (5, .e (.one (.own 2001))), (15, .e (.one (.pure (.sl (p0.fTables.map Aq))))), (16, .e (.one (.pure (.val (.int .i64 ((p0.fTables.length : Int))))))), (17, .e (.one (.pure (.val (.int .i64 v1.2)))))] [(3, .box [.pure (.sl (p1.fBase.map Aj)), .pure (.sl (p1.fNext.map Aj)), .pure (.sl (p1.fHeld.map Bs))]), (2001, .vec 3 (v1.1.map B8))]) (fun v2 => mk [(5, .e (.one (.own 2002)))] [(2002, .vec 3 (v2.map B8))]) (fun _ _ => rfl) ((Ba 5 2013 3 rfl rfl rfl).trans (sm [(2001, 2013)] _ _ rfl rfl)) (fun j1 n1 v1 h => ?_) (fun v2 s h hs => ?_)
 ·unfold Ec at h
  refine Ab (Aa Ac rfl (AT rfl (Ad (Ab ?_))))
  refine Ao rfl (fun c3 => ?_) (fun c3 => ?_)
  ·have h := Am c3 h
   refine Ap (Ab (AI (Ab (Aa Ac rfl (qm rfl ?_)))))
   obtain ⟨v4, a4, b4, h⟩ := Ah h
   refine qi Ek D8 a4 (Ag b4) rfl (qK GY D8 rfl (qz Jq rfl (qa rfl (qs D8 rfl (Ad (Ab (Aa Ac rfl (qL AU Aw rfl (qf Dq rfl (ql CO rfl ?_))))))))))
   obtain ⟨v5, a5, h⟩ := bind_some h
   refine AC [] (Hj N p1 v4.fFrom v5 a5) QS rfl (qL AU Aw rfl (qf H2 rfl (ql CO rfl ?_)))
   obtain ⟨v6, a6, h⟩ := bind_some h
   refine AC [] (Hj N p1 v4.fTo v6 a6) QS rfl (qa rfl (qa rfl (AF (by kernel_rfl) ?_)))
   refine AO h (fun v7 => mk [(3, .e (.one (.ptr 3 0))), (5, .e (.one (.own 2003))), (6, .e (.one (.pure (.val (.int .i64 v1.2))))), (7, .e (.one (.ptr 7 0))), (8, .e (.one (.pure (.val (.int .u8 v7))))), (9, .e (.one (.pure (.val (.int .u8 v6))))), (15, .e (.one (.pure (.sl (p0.fTables.map Aq))))), (16, .e (.one (.pure (.val (.int .i64 ((p0.fTables.length : Int))))))), (17, .e (.one (.pure (.val (.int .i64 v1.2)))))] [(3, .box [.pure (.sl (p1.fBase.map Aj)), .pure (.sl (p1.fNext.map Aj)), .pure (.sl (p1.fHeld.map Bs))]), (7, .box [.pure (.val (.int .i64 v4.fKind)), .pure (.val (.int .i64 v4.fFrom)), .pure (.val (.int .i64 v4.fTo)), .pure (.val (.bool v4.fAware)), .pure (.sl (v4.fOK.map (EB eB))), .pure (.sl (v4.fRewrite.map (EB eB)))]), (2003, .vec 3 (v1.1.map B8))]) (fun j7 h => ?_) (fun v7 h => ?_)
   ·refine Ab (Aa Ac rfl (qL GY D8 rfl ?_))
    obtain ⟨v8, a8, h⟩ := bind_some h
    refine AC [] (HW N v4 v8 a8) QG rfl (Ad ?_)
    refine Ao rfl (fun c9 => ?_) (fun c9 => ?_)
    ·have h := Am c9 h
     refine Aa Ac rfl (qf Df rfl (ql Hk rfl (qm rfl ?_)))
     obtain ⟨v10, a10, b10, h⟩ := Ah h
     refine qi CI EE a10 (Ag b10) rfl (qk HM rfl (qa rfl (Ad ?_)))
     exact As _ h (sm [(2003, 2001)] _ _ rfl rfl)
    ·have h := An c9 h
     refine Ap ?_
     exact As _ h (sm [(2003, 2001)] _ _ rfl rfl)
   ·refine Ab (Aa Ac rfl (qf I6 rfl (ql Jg rfl (AN FF rfl (qm rfl (Ad ?_))))))
    refine AB (L := DV N v1 v4 v6 v7) h (fun v11 => mk [(3, .e (.one (.ptr 3 0))), (5, .e (.one (.own 2004))), (6, .e (.one (.pure (.val (.int .i64 v1.2))))), (7, .e (.one (.ptr 7 0))), (8, .e (.one (.pure (.val (.int .u8 v7))))), (9, .e (.one (.pure (.val (.int .u8 v6))))), (15, .e (.one (.pure (.sl (p0.fTables.map Aq))))), (16, .e (.one (.pure (.val (.int .i64 ((p0.fTables.length : Int))))))), (17, .e (.one (.pure (.val (.int .i64 v1.2))))), (39, .e (.one (.pure (.val (.int .i64 ((v4.fOK.length : Int))))))), (40, .e (.one (.pure (.val (.int .i64 v11.2)))))] [(3, .box [.pure (.sl (p1.fBase.map Aj)), .pure (.sl (p1.fNext.map Aj)), .pure (.sl (p1.fHeld.map Bs))]), (7, .box [.pure (.val (.int .i64 v4.fKind)), .pure (.val (.int .i64 v4.fFrom)), .pure (.val (.int .i64 v4.fTo)), .pure (.val (.bool v4.fAware)), .pure (.sl (v4.fOK.map (EB eB))), .pure (.sl (v4.fRewrite.map (EB eB)))]), (2004, .vec 3 (v11.1.map B8))]) (fun v12 => mk [(3, .e (.one (.ptr 3 0))), (5, .e (.one (.own 2005))), (15, .e (.one (.pure (.sl (p0.fTables.map Aq))))), (16, .e (.one (.pure (.val (.int .i64 ((p0.fTables.length : Int))))))), (17, .e (.one (.pure (.val (.int .i64 v1.2)))))] [(3, .box [.pure (.sl (p1.fBase.map Aj)), .pure (.sl (p1.fNext.map Aj)), .pure (.sl (p1.fHeld.map Bs))]), (2005, .vec 3 (v12.map B8))]) (fun _ _ => rfl) (sm [(2004, 2003)] _ _ rfl rfl) (fun j11 n11 v11 h => ?_) (fun v12 s h hs => ?_)
    ·unfold DV at h
     refine Ab (Aa Ac rfl (AT rfl (Ad (Ab ?_))))
     refine Ao rfl (fun c13 => ?_) (fun c13 => ?_)
     ·have h := Am c13 h
      refine Ap ?_
      refine AO h (fun v14 => mk [(3, .e (.one (.ptr 3 0))), (5, .e (.one (.own 2006))), (6, .e (.one (.pure (.val (.int .i64 v1.2))))), (7, .e (.one (.ptr 7 0))), (8, .e (.one (.pure (.val (.int .u8 v7))))), (9, .e (.one (.pure (.val (.int .u8 v6))))), (15, .e (.one (.pure (.sl (p0.fTables.map Aq))))), (16, .e (.one (.pure (.val (.int .i64 ((p0.fTables.length : Int))))))), (17, .e (.one (.pure (.val (.int .i64 v1.2))))), (39, .e (.one (.pure (.val (.int .i64 ((v4.fOK.length : Int))))))), (40, .e (.one (.pure (.val (.int .i64 v11.2)))))] [(3, .box [.pure (.sl (p1.fBase.map Aj)), .pure (.sl (p1.fNext.map Aj)), .pure (.sl (p1.fHeld.map Bs))]), (7, .box [.pure (.val (.int .i64 v4.fKind)), .pure (.val (.int .i64 v4.fFrom)), .pure (.val (.int .i64 v4.fTo)), .pure (.val (.bool v4.fAware)), .pure (.sl (v4.fOK.map (EB eB))), .pure (.sl (v4.fRewrite.map (EB eB)))]), (2006, .vec 3 (v14.map B8))]) (fun j14 h => ?_) (fun v14 h => ?_)
      ·refine AI (Ab (Aa Ac rfl (qm rfl (qa rfl (Ad (Ab (Ab (Aa Ac rfl (qm rfl (qm rfl ?_))))))))))
       obtain ⟨c15, h⟩ := AM h
       refine Gj rfl c15 (J2 rfl (Cm rfl (Ad ?_)))
       refine Ao rfl (fun c16 => ?_) (fun c16 => ?_)
       ·have h := Am c16 h
        refine AS ?_
        exact As _ h (sm [(2006, 2004)] _ _ rfl rfl)
       ·have h := An c16 h
        refine Ap (Ab (Aa Ac rfl (qa rfl (Ad (Ab (Ab (Aa Ac rfl (qf I6 rfl (ql Jg rfl (qm rfl ?_))))))))))
        obtain ⟨v17, a17, b17, h⟩ := Ah h
        refine qi FF LN a17 (Ag b17) rfl (qk N6 rfl (AN FY rfl (qm rfl (Ad ?_))))
        refine AB (L := DU N v1 v4 v6 v11 v17) h (fun v18 => mk [(3, .e (.one (.ptr 3 0))), (5, .e (.one (.own 2007))), (6, .e (.one (.pure (.val (.int .i64 v1.2))))), (7, .e (.one (.ptr 7 0))), (8, .e (.one (.pure (.val (.int .u8 v7))))), (9, .e (.one (.pure (.val (.int .u8 v6))))), (10, .e (.one (.pure (.val (.int .i64 v11.2))))), (11, .e (.one (.pure (.val (.bool v18.2.1))))), (15, .e (.one (.pure (.sl (p0.fTables.map Aq))))), (16, .e (.one (.pure (.val (.int .i64 ((p0.fTables.length : Int))))))), (17, .e (.one (.pure (.val (.int .i64 v1.2))))), (39, .e (.one (.pure (.val (.int .i64 ((v4.fOK.length : Int))))))), (40, .e (.one (.pure (.val (.int .i64 v11.2))))), (52, .e (.one (.pure (.sl (v17.map eB))))), (53, .e (.one (.pure (.val (.int .i64 ((v17.length : Int))))))), (54, .e (.one (.pure (.val (.int .i64 v18.2.2)))))] [(3, .box [.pure (.sl (p1.fBase.map Aj)), .pure (.sl (p1.fNext.map Aj)), .pure (.sl (p1.fHeld.map Bs))]), (7, .box [.pure (.val (.int .i64 v4.fKind)), .pure (.val (.int .i64 v4.fFrom)), .pure (.val (.int .i64 v4.fTo)), .pure (.val (.bool v4.fAware)), .pure (.sl (v4.fOK.map (EB eB))), .pure (.sl (v4.fRewrite.map (EB eB)))]), (2007, .vec 3 (v18.1.map B8))]) (fun v19 => mk [(3, .e (.one (.ptr 3 0))), (5, .e (.one (.own 2008))), (6, .e (.one (.pure (.val (.int .i64 v1.2))))), (7, .e (.one (.ptr 7 0))), (8, .e (.one (.pure (.val (.int .u8 v7))))), (9, .e (.one (.pure (.val (.int .u8 v6))))), (10, .e (.one (.pure (.val (.int .i64 v11.2))))), (11, .e (.one (.pure (.val (.bool v19.2))))), (15, .e (.one (.pure (.sl (p0.fTables.map Aq))))), (16, .e (.one (.pure (.val (.int .i64 ((p0.fTables.length : Int))))))), (17, .e (.one (.pure (.val (.int .i64 v1.2))))), (39, .e (.one (.pure (.val (.int .i64 ((v4.fOK.length : Int))))))), (40, .e (.one (.pure (.val (.int .i64 v11.2)))))] [(3, .box [.pure (.sl (p1.fBase.map Aj)), .pure (.sl (p1.fNext.map Aj)), .pure (.sl (p1.fHeld.map Bs))]), (7, .box [.pure (.val (.int .i64 v4.fKind)), .pure (.val (.int .i64 v4.fFrom)), .pure (.val (.int .i64 v4.fTo)), .pure (.val (.bool v4.fAware)), .pure (.sl (v4.fOK.map (EB eB))), .pure (.sl (v4.fRewrite.map (EB eB)))]), (2008, .vec 3 (v19.1.map B8))]) (fun _ _ => rfl) (sm [(2007, 2004)] _ _ rfl rfl) (fun j18 n18 v18 h => ?_) (fun v19 s h hs => ?_)
        ·unfold DU at h
         refine Ab (Aa Ac rfl (AT rfl (Ad (Ab ?_))))
         refine Ao rfl (fun c20 => ?_) (fun c20 => ?_)
         ·have h := Am c20 h
          refine Ap ?_
          refine AO h (fun v21 => mk [(3, .e (.one (.ptr 3 0))), (5, .e (.one (.own 2009))), (6, .e (.one (.pure (.val (.int .i64 v1.2))))), (7, .e (.one (.ptr 7 0))), (8, .e (.one (.pure (.val (.int .u8 v7))))), (9, .e (.one (.pure (.val (.int .u8 v6))))), (10, .e (.one (.pure (.val (.int .i64 v11.2))))), (11, .e (.one (.pure (.val (.bool v21.2))))), (15, .e (.one (.pure (.sl (p0.fTables.map Aq))))), (16, .e (.one (.pure (.val (.int .i64 ((p0.fTables.length : Int))))))), (17, .e (.one (.pure (.val (.int .i64 v1.2))))), (39, .e (.one (.pure (.val (.int .i64 ((v4.fOK.length : Int))))))), (40, .e (.one (.pure (.val (.int .i64 v11.2))))), (52, .e (.one (.pure (.sl (v17.map eB))))), (53, .e (.one (.pure (.val (.int .i64 ((v17.length : Int))))))), (54, .e (.one (.pure (.val (.int .i64 v18.2.2)))))] [(3, .box [.pure (.sl (p1.fBase.map Aj)), .pure (.sl (p1.fNext.map Aj)), .pure (.sl (p1.fHeld.map Bs))]), (7, .box [.pure (.val (.int .i64 v4.fKind)), .pure (.val (.int .i64 v4.fFrom)), .pure (.val (.int .i64 v4.fTo)), .pure (.val (.bool v4.fAware)), .pure (.sl (v4.fOK.map (EB eB))), .pure (.sl (v4.fRewrite.map (EB eB)))]), (2009, .vec 3 (v21.1.map B8))]) (fun j21 h => ?_) (fun v21 h => ?_)
          ·refine AI (Ab (Aa Ac rfl (qm rfl ?_)))
           obtain ⟨v22, a22, b22, h⟩ := Ah h
           refine qi FY Ny a22 (Ag b22) rfl (qk P7 rfl (qa rfl (qa rfl (Ad (Ab (Ab (Aa Ac rfl (qm rfl (qm rfl ?_)))))))))
           obtain ⟨c23, h⟩ := AM h
           refine Gj rfl c23 (J2 rfl (Cm rfl (Ad ?_)))
           refine Ao rfl (fun c24 => ?_) (fun c24 => ?_)
           ·have h := Am c24 h
            refine AS ?_
            exact As _ h (sm [(2009, 2007)] _ _ rfl rfl)
           ·have h := An c24 h
            refine Ap ?_
            refine AO h (fun v25 => mk [(3, .e (.one (.ptr 3 0))), (5, .e (.one (.own 2010))), (6, .e (.one (.pure (.val (.int .i64 v1.2))))), (7, .e (.one (.ptr 7 0))), (8, .e (.one (.pure (.val (.int .u8 v7))))), (9, .e (.one (.pure (.val (.int .u8 v6))))), (10, .e (.one (.pure (.val (.int .i64 v11.2))))), (11, .e (.one (.pure (.val (.bool v25))))), (12, .e (.one (.pure (.val (.int .i64 v18.2.2))))), (13, .e (.one (.pure (.val (.bool v22))))), (15, .e (.one (.pure (.sl (p0.fTables.map Aq))))), (16, .e (.one (.pure (.val (.int .i64 ((p0.fTables.length : Int))))))), (17, .e (.one (.pure (.val (.int .i64 v1.2))))), (39, .e (.one (.pure (.val (.int .i64 ((v4.fOK.length : Int))))))), (40, .e (.one (.pure (.val (.int .i64 v11.2))))), (52, .e (.one (.pure (.sl (v17.map eB))))), (53, .e (.one (.pure (.val (.int .i64 ((v17.length : Int))))))), (54, .e (.one (.pure (.val (.int .i64 v18.2.2)))))] [(3, .box [.pure (.sl (p1.fBase.map Aj)), .pure (.sl (p1.fNext.map Aj)), .pure (.sl (p1.fHeld.map Bs))]), (7, .box [.pure (.val (.int .i64 v4.fKind)), .pure (.val (.int .i64 v4.fFrom)), .pure (.val (.int .i64 v4.fTo)), .pure (.val (.bool v4.fAware)), .pure (.sl (v4.fOK.map (EB eB))), .pure (.sl (v4.fRewrite.map (EB eB)))]), (2010, .vec 3 (v18.1.map B8))]) (fun j25 h => ?_) (fun v25 h => ?_)
            ·refine Aa Ac rfl (qm rfl (qm rfl ?_))
             refine AA (t := 65) rfl (fun c26 => ?_) (fun c26 => ?_)
             ·have h := Am c26 h
              refine qn rfl (qp rfl (qa rfl (Ad ?_)))
              exact As _ h (sm [(2010, 2007)] _ _ rfl rfl)
             ·have h := An c26 h
              refine qm rfl (qp rfl (qa rfl (Ad ?_)))
              exact As _ h (sm [(2010, 2007)] _ _ rfl rfl)
            ·refine AO h (fun v27 => mk [(3, .e (.one (.ptr 3 0))), (5, .e (.one (.own 2011))), (6, .e (.one (.pure (.val (.int .i64 v1.2))))), (7, .e (.one (.ptr 7 0))), (8, .e (.one (.pure (.val (.int .u8 v7))))), (9, .e (.one (.pure (.val (.int .u8 v6))))), (10, .e (.one (.pure (.val (.int .i64 v11.2))))), (11, .e (.one (.pure (.val (.bool v25))))), (12, .e (.one (.pure (.val (.int .i64 v18.2.2))))), (15, .e (.one (.pure (.sl (p0.fTables.map Aq))))), (16, .e (.one (.pure (.val (.int .i64 ((p0.fTables.length : Int))))))), (17, .e (.one (.pure (.val (.int .i64 v1.2))))), (39, .e (.one (.pure (.val (.int .i64 ((v4.fOK.length : Int))))))), (40, .e (.one (.pure (.val (.int .i64 v11.2))))), (52, .e (.one (.pure (.sl (v17.map eB))))), (53, .e (.one (.pure (.val (.int .i64 ((v17.length : Int))))))), (54, .e (.one (.pure (.val (.int .i64 v18.2.2))))), (74, .e (.one (.pure (.val (.bool v27)))))] [(3, .box [.pure (.sl (p1.fBase.map Aj)), .pure (.sl (p1.fNext.map Aj)), .pure (.sl (p1.fHeld.map Bs))]), (7, .box [.pure (.val (.int .i64 v4.fKind)), .pure (.val (.int .i64 v4.fFrom)), .pure (.val (.int .i64 v4.fTo)), .pure (.val (.bool v4.fAware)), .pure (.sl (v4.fOK.map (EB eB))), .pure (.sl (v4.fRewrite.map (EB eB)))]), (2011, .vec 3 (v18.1.map B8))]) (fun j27 h => ?_) (fun v27 h => ?_)
             ·refine Aa Ac rfl (qm rfl (Cy rfl (qm rfl ?_)))
              refine AA (t := 70) rfl (fun c28 => ?_) (fun c28 => ?_)
              ·have h := Am c28 h
               refine qf Iw rfl (ql P7 rfl (Cy rfl (qp rfl (Ad ?_))))
               exact As _ h (sm [(2011, 2010)] _ _ rfl rfl)
              ·have h := An c28 h
               refine qn rfl (qn rfl (qn rfl (qp rfl (Ad ?_))))
               exact As _ h (sm [(2011, 2010)] _ _ rfl rfl)
             ·refine Ao rfl (fun c29 => ?_) (fun c29 => ?_)
              ·have h := Am c29 h
               refine Aa Ac rfl (qm rfl (qm rfl (qm rfl (qm rfl (C4 IJ Nt rfl (Er Ii HE IJ rfl ?_))))))
               obtain ⟨c30, h⟩ := AM h
               refine DE (f := B8) Ii Ii HE OM IJ c30 rfl (qa rfl (Ad ?_))
               exact As _ h (sm [(2009, 81)] _ _ rfl rfl)
              ·have h := An c29 h
               refine Ap ?_
               exact As _ h (sm [(2009, 2011)] _ _ rfl rfl)
          ·refine Aa Ac rfl (AQ rfl (qm rfl (Ad ?_)))
           exact As _ h (sm [(2007, 2009)] _ _ rfl rfl)
         ·have h := An c20 h
          refine AS ?_
          exact As _ h (sm [(2008, 2007)] _ _ rfl rfl)
        ·refine Ak hs ?_
         refine AO h (fun v31 => mk [(3, .e (.one (.ptr 3 0))), (5, .e (.one (.own 2012))), (6, .e (.one (.pure (.val (.int .i64 v1.2))))), (7, .e (.one (.ptr 7 0))), (8, .e (.one (.pure (.val (.int .u8 v7))))), (9, .e (.one (.pure (.val (.int .u8 v6))))), (10, .e (.one (.pure (.val (.int .i64 v11.2))))), (15, .e (.one (.pure (.sl (p0.fTables.map Aq))))), (16, .e (.one (.pure (.val (.int .i64 ((p0.fTables.length : Int))))))), (17, .e (.one (.pure (.val (.int .i64 v1.2))))), (39, .e (.one (.pure (.val (.int .i64 ((v4.fOK.length : Int))))))), (40, .e (.one (.pure (.val (.int .i64 v11.2))))), (88, .e (.one (.pure (.val (.bool v31)))))] [(3, .box [.pure (.sl (p1.fBase.map Aj)), .pure (.sl (p1.fNext.map Aj)), .pure (.sl (p1.fHeld.map Bs))]), (7, .box [.pure (.val (.int .i64 v4.fKind)), .pure (.val (.int .i64 v4.fFrom)), .pure (.val (.int .i64 v4.fTo)), .pure (.val (.bool v4.fAware)), .pure (.sl (v4.fOK.map (EB eB))), .pure (.sl (v4.fRewrite.map (EB eB)))]), (2012, .vec 3 (v19.1.map B8))]) (fun j31 h => ?_) (fun v31 h => ?_)
         ·refine Aa Ac rfl (qf Iw rfl (ql P7 rfl (qm rfl ?_)))
          refine AA (t := 85) rfl (fun c32 => ?_) (fun c32 => ?_)
          ·have h := Am c32 h
           refine qm rfl (Cy rfl (qp rfl (Ad ?_)))
           exact As _ h (sm [(2012, 2008)] _ _ rfl rfl)
          ·have h := An c32 h
           refine qn rfl (qn rfl (qp rfl (Ad ?_)))
           exact As _ h (sm [(2012, 2008)] _ _ rfl rfl)
         ·refine Ao rfl (fun c33 => ?_) (fun c33 => ?_)
          ·have h := Am c33 h
           refine Aa Ac rfl (qm rfl (qm rfl (qm rfl (C4 IJ Nt rfl (Er Ii HE IJ rfl ?_)))))
           obtain ⟨c34, h⟩ := AM h
           refine DE (f := B8) Ii Ii HE OM IJ c34 rfl (qa rfl (Ad ?_))
           exact As _ h (sm [(2006, 94)] _ _ rfl rfl)
          ·have h := An c33 h
           refine Ap ?_
           exact As _ h (sm [(2006, 2012)] _ _ rfl rfl)
      ·refine Aa Ac rfl (AQ rfl (qm rfl (Ad ?_)))
       exact As _ h (sm [(2004, 2006)] _ _ rfl rfl)
     ·have h := An c13 h
      refine AS ?_
      exact As _ h (sm [(2005, 2004)] _ _ rfl rfl)
    ·refine Ak hs (Aa Ac rfl (AQ rfl (qm rfl (Ad ?_))))
     exact As _ h (sm [(2001, 2005)] _ _ rfl rfl)
  ·have h := An c3 h
   refine AS ?_
   exact As _ h (sm [(2002, 2001)] _ _ rfl rfl)
 ·refine Ak hs (Ab (Aa Ac rfl (qm rfl (qa rfl (Ad ?_)))))
  obtain rfl := sj h
  refine Ak (sm [(1000, 2002)] [(4, .e (.one (.own 1000)))] [(1000, .vec 3 (v2.map B8))] rfl rfl) (Ax ?_)
  exact ⟨⟨[_], ⟨.tmp _ _ rfl, trivial⟩, rfl⟩, ⟨rfl, trivial⟩⟩
set_option maxRecDepth 10000 in
theorem Mx (N : Nat) (p0 : Ai) (p1 : Ae) (r : Ae × AP × Int) (h : HZ N p0 p1 = some r) : Az Try.prog 50 [.e (.agg [.pure (.sl (p0.fVersions.map Aj)), .pure (.sl (p0.fNow.map Aj)), .pure (.sl (p0.fTarget.map Aj)), .pure (.sl (p0.fTables.map Aq))]), .e (.agg [.pure (.sl (p1.fBase.map Aj)), .pure (.sl (p1.fNext.map Aj)), .pure (.sl (p1.fHeld.map Bs))])] [] (.tup [.agg [.pure (.sl (r.1.fBase.map Aj)), .pure (.sl (r.1.fNext.map Aj)), .pure (.sl (r.1.fHeld.map Bs))], .agg [.pure (.val (.int .i64 r.2.1.fTable)), .pure (.val (.int .i64 r.2.1.fWriter)), .pure (.val (.int .i64 r.2.1.fReader))], .one (.pure (.val (.int .i64 r.2.2)))]) := by
 unfold HZ at h
 refine Ar (n := 42) (rs := [.cell 4 42, .cell 5 101, .tmp 6]) Try.func50 rfl rfl rfl (AV rfl) (AV rfl) rfl fun w0 S0 => ?_
 refine Ab (Aa Ac rfl (qb rfl (qb rfl (qz Du rfl (qz IJ rfl (qa rfl (Ad (Ab (Aa Ac rfl (qL DO Dz rfl (qL AU Aw rfl ?_)))))))))))
 obtain ⟨v1, a1, h⟩ := bind_some h
 refine AC [2001] (I3 N p0 p1 v1 a1) Rv rfl (qm rfl (qx rfl (qx rfl (qa rfl (qa rfl (Ad (Ab (Ab (Aa Ac rfl (qm rfl (Cd rfl (Ad ?_))))))))))))
 refine Ao rfl (fun c2 => ?_) (fun c2 => ?_)
 ·have h := Am c2 h
  refine Ab (Aa Ac rfl (C4 Du KX rfl (C4 IJ Nt rfl (qm rfl (qs Aw rfl (qs HE rfl (qa rfl (Ad ?_))))))))
  obtain rfl := sj h
  refine Ak ((Lu 4 _ rfl).trans (sm [] [(4, .e (.one (.ptr 4 0))), (5, .e (.one (.ptr 5 0))), (6, .e (.one (.pure (.val (.int .i64 v1.2)))))] [(4, .box [.pure (.sl ((([] : List Int)).map Aj)), .pure (.sl ((([] : List Int)).map Aj)), .pure (.sl ((([] : List Int)).map Bs))]), (5, .box [.pure (.val (.int .i64 0)), .pure (.val (.int .i64 0)), .pure (.val (.int .i64 0))])] rfl rfl)) (Ax ?_)
  exact ⟨⟨[_, _, _], ⟨.cellN _ _ _ _ _ _ _ rfl rfl AU Aw rfl rfl (Ka rfl), ⟨.cellN _ _ _ _ _ _ _ rfl rfl NO HE rfl rfl (Ka rfl), ⟨.tmp _ _ rfl, trivial⟩⟩⟩, rfl⟩, trivial⟩
 ·have h := An c2 h
  refine Ap (Ab (Ab (Aa Ac rfl (qm rfl (Dj AD rfl (qm rfl (Ad ?_)))))))
  refine AB (L := Fd N p0 v1) h (fun v3 => mk [(2, .e (.one (.ptr 2 0))), (4, .e (.one (.ptr 4 0))), (5, .e (.one (.ptr 5 0))), (23, .e (.one (.own 2002))), (24, .e (.one (.pure (.val (.int .i64 ((v1.1.length : Int))))))), (25, .e (.one (.pure (.val (.int .i64 v3)))))] [(2, .box [.pure (.sl (p0.fVersions.map Aj)), .pure (.sl (p0.fNow.map Aj)), .pure (.sl (p0.fTarget.map Aj)), .pure (.sl (p0.fTables.map Aq))]), (4, .box [.pure (.nil0), .pure (.nil0), .pure (.nil0)]), (5, .box [.pure (.val (.int .i64 0)), .pure (.val (.int .i64 0)), .pure (.val (.int .i64 0))]), (2002, .vec 3 (v1.1.map Af))]) (fun v4 => mk [(4, .e (.one (.ptr 4 0))), (5, .e (.one (.ptr 5 0)))] [(4, .box [.pure (.nil0), .pure (.nil0), .pure (.nil0)]), (5, .box [.pure (.val (.int .i64 0)), .pure (.val (.int .i64 0)), .pure (.val (.int .i64 0))])]) (fun _ _ => rfl) (sm [(2002, 2001)] _ _ rfl rfl) (fun j3 n3 v3 h => ?_) (fun v4 s h hs => ?_)
  ·unfold Fd at h
   refine Ab (Aa Ac rfl (AT rfl (Ad (Ab ?_))))
   refine Ao rfl (fun c5 => ?_) (fun c5 => ?_)
   ·have h := Am c5 h
    refine Ap (Ab (AI (Ab (Aa Ac rfl ?_))))
    obtain ⟨v6, a6, b6, h⟩ := Ah h
    refine qI AD Aw a6 (Ag b6) rfl (qJ AU Aw (Ag b6) rfl (qz Du rfl (qs Aw rfl (Ad (Ab (Aa Ac rfl (qL DO Dz rfl (qL AU Aw rfl ?_))))))))
    obtain ⟨v7, a7, h⟩ := bind_some h
    refine AC [2003] (J4 N p0 v6 v7 a7) SI rfl (qa rfl (Ad (Ab (Aa Ac rfl (qm rfl (Dj Ii rfl (Es rfl (Ad ?_))))))))
    refine Ao rfl (fun c8 => ?_) (fun c8 => ?_)
    ·have h := Am c8 h
     refine Ab (Aa Ac rfl (qL AU Aw rfl (qm rfl ?_)))
     obtain ⟨v9, a9, b9, h⟩ := Ah h
     refine qI Ii HE a9 (Ag b9) rfl (qJ NO HE (Ag b9) rfl (qs Aw rfl (qs HE rfl (qa rfl (AF (by kernel_rfl) ?_)))))
     obtain rfl := sj h
     refine Ak (sm [] [(4, .e (.one (.ptr 4 0))), (5, .e (.one (.ptr 5 0))), (6, .e (.one (.pure (.val (.int .i64 0)))))] [(4, .box [.pure (.sl (v6.fBase.map Aj)), .pure (.sl (v6.fNext.map Aj)), .pure (.sl (v6.fHeld.map Bs))]), (5, .box [.pure (.val (.int .i64 v9.fTable)), .pure (.val (.int .i64 v9.fWriter)), .pure (.val (.int .i64 v9.fReader))])] rfl rfl) (Ax ?_)
     exact ⟨⟨[_, _, _], ⟨.cellN _ _ _ _ _ _ _ rfl rfl AU Aw rfl rfl (Ka rfl), ⟨.cellN _ _ _ _ _ _ _ rfl rfl NO HE rfl rfl (Ka rfl), ⟨.tmp _ _ rfl, trivial⟩⟩⟩, rfl⟩, trivial⟩
    ·have h := An c8 h
     refine Ap (Aa Ac rfl (AQ rfl (qm rfl (Ad ?_))))
     exact As _ h (sm [] _ _ rfl rfl)
   ·have h := An c5 h
    refine AS ?_
    exact As _ h (sm [] _ _ rfl rfl)
  ·refine Ak hs (Ab (Aa Ac rfl (C4 Du KX rfl (C4 IJ Nt rfl (qs Aw rfl (qs HE rfl (qa rfl (Ad ?_))))))))
   obtain rfl := sj h
   refine Ak ((Lu 4 _ rfl).trans (sm [] [(4, .e (.one (.ptr 4 0))), (5, .e (.one (.ptr 5 0))), (6, .e (.one (.pure (.val (.int .i64 15)))))] [(4, .box [.pure (.sl ((([] : List Int)).map Aj)), .pure (.sl ((([] : List Int)).map Aj)), .pure (.sl ((([] : List Int)).map Bs))]), (5, .box [.pure (.val (.int .i64 0)), .pure (.val (.int .i64 0)), .pure (.val (.int .i64 0))])] rfl rfl)) (Ax ?_)
   exact ⟨⟨[_, _, _], ⟨.cellN _ _ _ _ _ _ _ rfl rfl AU Aw rfl rfl (Ka rfl), ⟨.cellN _ _ _ _ _ _ _ rfl rfl NO HE rfl rfl (Ka rfl), ⟨.tmp _ _ rfl, trivial⟩⟩⟩, rfl⟩, trivial⟩
set_option maxRecDepth 10000 in
theorem HT (N : Nat) (p0 : Ai) (p1 : Ae) (r : Bool × Int) (h : E6 N p0 p1 = some r) : Az Try.prog 28 [.e (.agg [.pure (.sl (p0.fVersions.map Aj)), .pure (.sl (p0.fNow.map Aj)), .pure (.sl (p0.fTarget.map Aj)), .pure (.sl (p0.fTables.map Aq))]), .e (.agg [.pure (.sl (p1.fBase.map Aj)), .pure (.sl (p1.fNext.map Aj)), .pure (.sl (p1.fHeld.map Bs))])] [] (.tup [.one (.pure (.val (.bool r.1))), .one (.pure (.val (.int .i64 r.2)))]) := by
 unfold E6 at h
 refine Ar (n := 22) (rs := [.tmp 4, .tmp 5]) Try.func28 rfl rfl rfl (AV rfl) (AV rfl) rfl fun w0 S0 => ?_
 refine Ab (Aa Ac rfl (qb rfl (qb rfl (qa rfl (qa rfl (Ad (Ab (Aa Ac rfl (qL DO Dz rfl (qL AU Aw rfl ?_))))))))))
 obtain ⟨v1, a1, h⟩ := bind_some h
 refine AC [] (Mx N p0 p1 v1 a1) Tp rfl (qm rfl (qx rfl (qx rfl (qx rfl (qz Du rfl (qz IJ rfl (qs Aw rfl (qs HE rfl (qa rfl (Ad (Ab (Aa Ac rfl (qm rfl (Ad (AI (Ab (Aa Ac rfl (Cm rfl (qa rfl (Ad ?_))))))))))))))))))))
 refine Ao rfl (fun c2 => ?_) (fun c2 => ?_)
 ·have h := Am c2 h
  refine Ab (Aa Ac rfl (qa rfl (qa rfl (Ad ?_))))
  obtain rfl := sj h
  refine Ak (sm [] [(4, .e (.one (.pure (.val (.bool false))))), (5, .e (.one (.pure (.val (.int .i64 0)))))] [] rfl rfl) (Ax ?_)
  exact ⟨⟨[_, _], ⟨.tmp _ _ rfl, ⟨.tmp _ _ rfl, trivial⟩⟩, rfl⟩, trivial⟩
 ·have h := An c2 h
  refine Ab (Aa Ac rfl (Cm rfl (qa rfl (Ad ?_))))
  refine Ao rfl (fun c3 => ?_) (fun c3 => ?_)
  ·have h := Am c3 h
   refine Ab (Aa Ac rfl (qa rfl (qa rfl (Ad ?_))))
   obtain rfl := sj h
   refine Ak (sm [] [(4, .e (.one (.pure (.val (.bool true))))), (5, .e (.one (.pure (.val (.int .i64 0)))))] [] rfl rfl) (Ax ?_)
   exact ⟨⟨[_, _], ⟨.tmp _ _ rfl, ⟨.tmp _ _ rfl, trivial⟩⟩, rfl⟩, trivial⟩
  ·have h := An c3 h
   refine Ab (Aa Ac rfl (qm rfl (qa rfl (qa rfl (Ad ?_)))))
   obtain rfl := sj h
   refine Ak (sm [] [(4, .e (.one (.pure (.val (.bool false))))), (5, .e (.one (.pure (.val (.int .i64 v1.2.2)))))] [] rfl rfl) (Ax ?_)
   exact ⟨⟨[_, _], ⟨.tmp _ _ rfl, ⟨.tmp _ _ rfl, trivial⟩⟩, rfl⟩, trivial⟩
set_option maxRecDepth 10000 in
theorem IG (N : Nat) (p0 : Ai) (r : Ae × Bool × Int) (h : FK N p0 = some r) : Az Try.prog 29 [.e (.agg [.pure (.sl (p0.fVersions.map Aj)), .pure (.sl (p0.fNow.map Aj)), .pure (.sl (p0.fTarget.map Aj)), .pure (.sl (p0.fTables.map Aq))])] [(1, r.1.fBase.map Aj), (1, r.1.fNext.map Aj), (1, r.1.fHeld.map Bs)] (.tup [.agg [.own 0, .own 1, .own 2], .one (.pure (.val (.bool r.2.1))), .one (.pure (.val (.int .i64 r.2.2)))]) := by
 unfold FK at h
 refine Ar (n := 26) (rs := [.cell 2 42, .tmp 3, .tmp 4]) Try.func29 rfl rfl rfl (AV rfl) (AV rfl) rfl fun w0 S0 => ?_
 refine Ab (Aa Ac rfl (qb rfl (qz Du rfl (qa rfl (qa rfl (Ad (Ab (Aa Ac rfl (qL DO Dz rfl ?_)))))))))
 obtain ⟨v1, a1, h⟩ := bind_some h
 refine AC [2001, 2002, 2003] (J0 N p0 v1 a1) RI rfl (qm rfl (qx rfl (qx rfl (qz Du rfl (qs Aw rfl (qa rfl (Ad (Ab (Ab (Aa Ac rfl (qm rfl (Cd rfl (Ad ?_)))))))))))))
 refine Ao rfl (fun c2 => ?_) (fun c2 => ?_)
 ·have h := Am c2 h
  refine Ab (Aa Ac rfl (C4 Du KX rfl (qm rfl (qs Aw rfl (qa rfl (qa rfl (Ad ?_)))))))
  obtain rfl := sj h
  refine Ak ((A1 2 0 2004 1 _ rfl rfl rfl rfl).trans ((A1 2 1 2005 1 _ rfl rfl rfl rfl).trans ((A1 2 2 2006 1 _ rfl rfl rfl rfl).trans (sm [(1000, 2004), (1001, 2005), (1002, 2006)] [(2, .e (.one (.ptr 2 0))), (3, .e (.one (.pure (.val (.bool false))))), (4, .e (.one (.pure (.val (.int .i64 v1.2)))))] [(2, .box [.own 1000, .own 1001, .own 1002]), (1000, .vec 1 ((([] : List Int)).map Aj)), (1001, .vec 1 ((([] : List Int)).map Aj)), (1002, .vec 1 ((([] : List Int)).map Bs))] rfl rfl)))) (Ax ?_)
  exact ⟨⟨[_, _, _], ⟨.cellN _ _ _ _ _ _ _ rfl rfl AU Aw rfl rfl (Ka rfl), ⟨.tmp _ _ rfl, ⟨.tmp _ _ rfl, trivial⟩⟩⟩, rfl⟩, ⟨rfl, rfl, rfl, trivial⟩⟩
 ·have h := An c2 h
  refine Ap (Ab (Aa Ac rfl (qL DO Dz rfl (qL AU Aw rfl ?_))))
  obtain ⟨v3, a3, h⟩ := bind_some h
  refine Fb [] [2001, 2002, 2003] (HT N p0 v1.1 v3 a3) QB DR rfl (qm rfl (qx rfl (qx rfl (qa rfl (qa rfl (Ad (Ab (Aa Ac rfl (qL AU Aw rfl (qm rfl (qm rfl (qs Aw rfl (qa rfl (qa rfl (Ad ?_)))))))))))))))
  obtain rfl := sj h
  refine Ak (sm [(1000, 2001), (1001, 2002), (1002, 2003)] [(2, .e (.one (.ptr 2 0))), (3, .e (.one (.pure (.val (.bool v3.1))))), (4, .e (.one (.pure (.val (.int .i64 v3.2)))))] [(2, .box [.own 1000, .own 1001, .own 1002]), (1000, .vec 1 (v1.1.fBase.map Aj)), (1001, .vec 1 (v1.1.fNext.map Aj)), (1002, .vec 1 (v1.1.fHeld.map Bs))] rfl rfl) (Ax ?_)
  exact ⟨⟨[_, _, _], ⟨.cellN _ _ _ _ _ _ _ rfl rfl AU Aw rfl rfl (Ka rfl), ⟨.tmp _ _ rfl, ⟨.tmp _ _ rfl, trivial⟩⟩⟩, rfl⟩, ⟨rfl, rfl, rfl, trivial⟩⟩
set_option maxRecDepth 10000 in
theorem Ih (N : Nat) (p0 : Ae) (r : ByteArray) (h : FC N p0 = some r) : Az Try.prog 30 [.e (.agg [.pure (.sl (p0.fBase.map Aj)), .pure (.sl (p0.fNext.map Aj)), .pure (.sl (p0.fHeld.map Bs))])] [] (.e (.one (.pure (.val (.string r))))) := by
 unfold FC at h
 refine Ar (n := 44) (rs := [.tmp 2]) Try.func30 rfl rfl rfl (AV rfl) (AV rfl) rfl fun w0 S0 => ?_
 refine Ab (Aa Ac rfl (qb rfl (qa rfl (Ad (Ab (Aa Ac rfl (qa rfl (Ad (Ab (Ab (Aa Ac rfl (qf Da rfl (ql Bp rfl (AN AJ rfl (qm rfl (Ad ?_))))))))))))))))
 refine AB (L := Fg N p0) h (fun v1 => mk [(1, .e (.one (.ptr 1 0))), (3, .e (.one (.own 2001))), (9, .e (.one (.pure (.val (.int .i64 ((p0.fBase.length : Int))))))), (10, .e (.one (.pure (.val (.int .i64 v1.2)))))] [(1, .box [.pure (.sl (p0.fBase.map Aj)), .pure (.sl (p0.fNext.map Aj)), .pure (.sl (p0.fHeld.map Bs))]), (2001, .vec 1 (v1.1.map Bs))]) (fun v2 => mk [(1, .e (.one (.ptr 1 0))), (3, .e (.one (.own 2002)))] [(1, .box [.pure (.sl (p0.fBase.map Aj)), .pure (.sl (p0.fNext.map Aj)), .pure (.sl (p0.fHeld.map Bs))]), (2002, .vec 1 (v2.map Bs))]) (fun _ _ => rfl) ((Ba 3 2003 1 rfl rfl rfl).trans (sm [(2001, 2003)] _ _ rfl rfl)) (fun j1 n1 v1 h => ?_) (fun v2 s h hs => ?_)
 ·unfold Fg at h
  refine Ab (Aa Ac rfl (AT rfl (Ad (Ab ?_))))
  refine Ao rfl (fun c3 => ?_) (fun c3 => ?_)
  ·have h := Am c3 h
   refine Ap (Ab (AI (Ab (Aa Ac rfl (qm rfl (qa rfl (Ad (Aa Ac rfl (qm rfl (qf Da rfl (ql Bp rfl (qm rfl ?_))))))))))))
   obtain ⟨v4, a4, b4, h⟩ := Ah h
   refine qi AJ DS a4 (Ag b4) rfl (qk CO rfl (FH Q6 Sq rfl (qf Cu rfl (ql Bp rfl (qm rfl ?_)))))
   obtain ⟨v5, a5, b5, h⟩ := Ah h
   refine qi AJ DS a5 (Ag b5) rfl (qk CO rfl (AQ rfl (FH Q6 Sq rfl (Er Hc Qm Sk rfl ?_))))
   obtain ⟨c6, h⟩ := AM h
   refine DE (f := Bs) Hc Hc Qm RC Sk c6 rfl (qa rfl (AF (by kernel_rfl) (Aa Ac rfl (AQ rfl (qm rfl (Ad ?_))))))
   exact As _ h (sm [(2001, 28)] _ _ rfl rfl)
  ·have h := An c3 h
   refine AS ?_
   exact As _ h (sm [(2002, 2001)] _ _ rfl rfl)
 ·refine Ak hs (Ab (Ab (Aa Ac rfl (qf Df rfl (ql Hk rfl (AN CI rfl (qm rfl (Ad ?_))))))))
  refine AB (L := Fi N p0) h (fun v7 => mk [(3, .e (.one (.own 2004))), (31, .e (.one (.pure (.sl (p0.fHeld.map Bs))))), (32, .e (.one (.pure (.val (.int .i64 ((p0.fHeld.length : Int))))))), (33, .e (.one (.pure (.val (.int .i64 v7.2)))))] [(2004, .vec 1 (v7.1.map Bs))]) (fun v8 => mk [(3, .e (.one (.own 2005)))] [(2005, .vec 1 (v8.map Bs))]) (fun _ _ => rfl) (sm [(2004, 2002)] _ _ rfl rfl) (fun j7 n7 v7 h => ?_) (fun v8 s h hs => ?_)
  ·unfold Fi at h
   refine Ab (Aa Ac rfl (AT rfl (Ad (Ab ?_))))
   refine Ao rfl (fun c9 => ?_) (fun c9 => ?_)
   ·have h := Am c9 h
    refine Ap (Ab (AI (Ab (Aa Ac rfl ?_))))
    obtain ⟨v10, a10, b10, h⟩ := Ah h
    refine qi CI EE a10 (Ag b10) rfl (qk HM rfl (qa rfl (Ad (Aa Ac rfl (qm rfl (qm rfl (Er Hc Qm Sk rfl ?_)))))))
    obtain ⟨c11, h⟩ := AM h
    refine DE (f := Bs) Hc Hc Qm RC Sk c11 rfl (qa rfl (Ad (Aa Ac rfl (AQ rfl (qm rfl (Ad ?_))))))
    exact As _ h (sm [(2004, 40)] _ _ rfl rfl)
   ·have h := An c9 h
    refine AS ?_
    exact As _ h (sm [(2005, 2004)] _ _ rfl rfl)
  ·refine Ak hs (Ab (Aa Ac rfl (qm rfl ?_)))
   refine Oz v8 (.p rfl) rfl (O2 Bs _ _ _) ⟨rfl, trivial⟩ rfl RB Pz ?_
   refine qa rfl (Ad ?_)
   obtain rfl := sj h
   refine Ak (sm [] [(2, .e (.one (.pure (.val (.string ((GZ v8)))))))] [] rfl rfl) (Ax ?_)
   exact ⟨⟨[_], ⟨.tmp _ _ rfl, trivial⟩, rfl⟩, trivial⟩
end Go.Lift

/- That the code does what the shallow programs do, function by function. Written by a program (gen.py). -/
namespace Go.Lift
open Go.RowKit
open Go.Proofs
set_option maxRecDepth 10000 in
theorem Ng (N : Nat) (p0 : Ai) (r : (List Av)) (h : Ij N p0 = some r) : Az Try.prog 76 [.e (.agg [.pure (.sl (p0.fVersions.map Aj)), .pure (.sl (p0.fNow.map Aj)), .pure (.sl (p0.fTarget.map Aj)), .pure (.sl (p0.fTables.map Aq))])] [(3, r.map AH)] (.e (.one (.own 0))) := by
 unfold Ij at h
 refine Ar (n := 54) (rs := [.tmp 2]) Try.func76 rfl rfl rfl (AV rfl) (AV rfl) rfl fun w0 S0 => ?_
 refine Ab (Aa Ac rfl (qb rfl (qa rfl (Ad (Ab (Aa Ac rfl (qa rfl (Ad (Ab (Ab (Aa Ac rfl (qf Bv rfl (ql Bp rfl (AN AJ rfl (qm rfl (Ad ?_))))))))))))))))
 refine AB (L := FU N p0) h (fun v1 => mk [(1, .e (.one (.ptr 1 0))), (3, .e (.one (.own 2001))), (10, .e (.one (.pure (.sl (p0.fVersions.map Aj))))), (11, .e (.one (.pure (.val (.int .i64 ((p0.fVersions.length : Int))))))), (12, .e (.one (.pure (.val (.int .i64 v1.2)))))] [(1, .box [.pure (.sl (p0.fVersions.map Aj)), .pure (.sl (p0.fNow.map Aj)), .pure (.sl (p0.fTarget.map Aj)), .pure (.sl (p0.fTables.map Aq))]), (2001, .vec 3 (v1.1.map AH))]) (fun v2 => mk [(1, .e (.one (.ptr 1 0))), (3, .e (.one (.own 2002)))] [(1, .box [.pure (.sl (p0.fVersions.map Aj)), .pure (.sl (p0.fNow.map Aj)), .pure (.sl (p0.fTarget.map Aj)), .pure (.sl (p0.fTables.map Aq))]), (2002, .vec 3 (v2.map AH))]) (fun _ _ => rfl) ((Ba 3 2005 3 rfl rfl rfl).trans (sm [(2001, 2005)] _ _ rfl rfl)) (fun j1 n1 v1 h => ?_) (fun v2 s h hs => ?_)
 ·unfold FU at h
  refine Ab (Aa Ac rfl (AT rfl (Ad (Ab ?_))))
  refine Ao rfl (fun c3 => ?_) (fun c3 => ?_)
  ·have h := Am c3 h
   refine Ap (Ab (AI (Ab (Aa Ac rfl (qm rfl ?_)))))
   obtain ⟨v4, a4, b4, h⟩ := Ah h
   refine qi AJ DS a4 (Ag b4) rfl (qk CO rfl (qa rfl (qa rfl (Ad (Ab (Aa Ac rfl (qm rfl (qm rfl (Ad ?_)))))))))
   refine AB (L := FN N v1 v4) h (fun v5 => mk [(1, .e (.one (.ptr 1 0))), (3, .e (.one (.own 2003))), (4, .e (.one (.pure (.val (.int .i64 v1.2))))), (10, .e (.one (.pure (.sl (p0.fVersions.map Aj))))), (11, .e (.one (.pure (.val (.int .i64 ((p0.fVersions.length : Int))))))), (12, .e (.one (.pure (.val (.int .i64 v1.2))))), (17, .e (.one (.pure (.val (.int .i64 v4))))), (18, .e (.one (.pure (.val (.int .i64 v5.2)))))] [(1, .box [.pure (.sl (p0.fVersions.map Aj)), .pure (.sl (p0.fNow.map Aj)), .pure (.sl (p0.fTarget.map Aj)), .pure (.sl (p0.fTables.map Aq))]), (2003, .vec 3 (v5.1.map AH))]) (fun v6 => mk [(1, .e (.one (.ptr 1 0))), (3, .e (.one (.own 2004))), (10, .e (.one (.pure (.sl (p0.fVersions.map Aj))))), (11, .e (.one (.pure (.val (.int .i64 ((p0.fVersions.length : Int))))))), (12, .e (.one (.pure (.val (.int .i64 v1.2)))))] [(1, .box [.pure (.sl (p0.fVersions.map Aj)), .pure (.sl (p0.fNow.map Aj)), .pure (.sl (p0.fTarget.map Aj)), .pure (.sl (p0.fTables.map Aq))]), (2004, .vec 3 (v6.map AH))]) (fun _ _ => rfl) (sm [(2003, 2001)] _ _ rfl rfl) (fun j5 n5 v5 h => ?_) (fun v6 s h hs => ?_)
   ·unfold FN at h
    refine Ab (Aa Ac rfl (AT rfl (Ad (Ab ?_))))
    refine Ao rfl (fun c7 => ?_) (fun c7 => ?_)
    ·have h := Am c7 h
     refine Ap (Ab (AI (Ab (Aa Ac rfl (qm rfl (qa rfl (Ad (Aa Ac rfl (qm rfl (qm rfl (qm rfl (C4 HK Qf rfl (Er Dw Em HK rfl ?_)))))))))))))
     obtain ⟨c8, h⟩ := AM h
     refine DE (f := AH) Dw Dw Em Mj HK c8 rfl (qa rfl (Ad (Aa Ac rfl (AQ rfl (qm rfl (Ad ?_))))))
     exact As _ h (sm [(2003, 26)] _ _ rfl rfl)
    ·have h := An c7 h
     refine AS ?_
     exact As _ h (sm [(2004, 2003)] _ _ rfl rfl)
   ·refine Ak hs (Aa Ac rfl (AQ rfl (qm rfl (Ad ?_))))
    exact As _ h (sm [(2001, 2004)] _ _ rfl rfl)
  ·have h := An c3 h
   refine AS ?_
   exact As _ h (sm [(2002, 2001)] _ _ rfl rfl)
 ·refine Ak hs (Ab (Ab (Aa Ac rfl (qf Bv rfl (ql Bp rfl (AN AJ rfl (qm rfl (Ad ?_))))))))
  refine AB (L := FA N p0) h (fun v9 => mk [(1, .e (.one (.ptr 1 0))), (3, .e (.one (.own 2006))), (31, .e (.one (.pure (.val (.int .i64 ((p0.fVersions.length : Int))))))), (32, .e (.one (.pure (.val (.int .i64 v9.2)))))] [(1, .box [.pure (.sl (p0.fVersions.map Aj)), .pure (.sl (p0.fNow.map Aj)), .pure (.sl (p0.fTarget.map Aj)), .pure (.sl (p0.fTables.map Aq))]), (2006, .vec 3 (v9.1.map AH))]) (fun v10 => mk [(1, .e (.one (.ptr 1 0))), (3, .e (.one (.own 2007)))] [(1, .box [.pure (.sl (p0.fVersions.map Aj)), .pure (.sl (p0.fNow.map Aj)), .pure (.sl (p0.fTarget.map Aj)), .pure (.sl (p0.fTables.map Aq))]), (2007, .vec 3 (v10.map AH))]) (fun _ _ => rfl) (sm [(2006, 2002)] _ _ rfl rfl) (fun j9 n9 v9 h => ?_) (fun v10 s h hs => ?_)
  ·unfold FA at h
   refine Ab (Aa Ac rfl (AT rfl (Ad (Ab ?_))))
   refine Ao rfl (fun c11 => ?_) (fun c11 => ?_)
   ·have h := Am c11 h
    refine Ap (Ab (AI (Ab (Aa Ac rfl (qm rfl (qa rfl (Ad (Aa Ac rfl (qm rfl (qm rfl (C4 HK Qf rfl (Er Dw Em HK rfl ?_))))))))))))
    obtain ⟨c12, h⟩ := AM h
    refine DE (f := AH) Dw Dw Em Mj HK c12 rfl (qa rfl (Ad (Aa Ac rfl (AQ rfl (qm rfl (Ad ?_))))))
    exact As _ h (sm [(2006, 39)] _ _ rfl rfl)
   ·have h := An c11 h
    refine AS ?_
    exact As _ h (sm [(2007, 2006)] _ _ rfl rfl)
  ·refine Ak hs (Ab (Ab (Aa Ac rfl (qf Dx rfl (ql H9 rfl (AN Ek rfl (qm rfl (Ad ?_))))))))
   refine AB (L := Fe N p0) h (fun v13 => mk [(3, .e (.one (.own 2008))), (43, .e (.one (.pure (.val (.int .i64 ((p0.fTables.length : Int))))))), (44, .e (.one (.pure (.val (.int .i64 v13.2)))))] [(2008, .vec 3 (v13.1.map AH))]) (fun v14 => mk [(3, .e (.one (.own 2009)))] [(2009, .vec 3 (v14.map AH))]) (fun _ _ => rfl) (sm [(2008, 2007)] _ _ rfl rfl) (fun j13 n13 v13 h => ?_) (fun v14 s h hs => ?_)
   ·unfold Fe at h
    refine Ab (Aa Ac rfl (AT rfl (Ad (Ab ?_))))
    refine Ao rfl (fun c15 => ?_) (fun c15 => ?_)
    ·have h := Am c15 h
     refine Ap (Ab (AI (Ab (Aa Ac rfl (qm rfl (qa rfl (Ad (Aa Ac rfl (qm rfl (qm rfl (C4 HK Qf rfl (Er Dw Em HK rfl ?_))))))))))))
     obtain ⟨c16, h⟩ := AM h
     refine DE (f := AH) Dw Dw Em Mj HK c16 rfl (qa rfl (Ad (Aa Ac rfl (AQ rfl (qm rfl (Ad ?_))))))
     exact As _ h (sm [(2008, 51)] _ _ rfl rfl)
    ·have h := An c15 h
     refine AS ?_
     exact As _ h (sm [(2009, 2008)] _ _ rfl rfl)
   ·refine Ak hs (Ab (Aa Ac rfl (qm rfl (qa rfl (Ad ?_)))))
    obtain rfl := sj h
    refine Ak (sm [(1000, 2009)] [(2, .e (.one (.own 1000)))] [(1000, .vec 3 (v14.map AH))] rfl rfl) (Ax ?_)
    exact ⟨⟨[_], ⟨.tmp _ _ rfl, trivial⟩, rfl⟩, ⟨rfl, trivial⟩⟩
set_option maxRecDepth 10000 in
theorem IF (N : Nat) (p0 : Ae) (r : Ae) (h : FE N p0 = some r) : Az Try.prog 60 [.e (.agg [.pure (.sl (p0.fBase.map Aj)), .pure (.sl (p0.fNext.map Aj)), .pure (.sl (p0.fHeld.map Bs))])] [(1, r.fBase.map Aj), (1, r.fNext.map Aj), (1, r.fHeld.map Bs)] (.e (.agg [.own 0, .own 1, .own 2])) := by
 unfold FE at h
 refine Ar (n := 13) (rs := [.cell 2 42]) Try.func60 rfl rfl rfl (AV rfl) (AV rfl) rfl fun w0 S0 => ?_
 refine Ab (Aa Ac rfl (qb rfl (qz Du rfl (Ad (Ab (Aa Ac rfl (qf Da rfl (ql Bp rfl ?_))))))))
 obtain ⟨v1, a1, h⟩ := bind_some h
 refine AC [2001] (C0 N p0.fBase v1 a1) O7 rfl (qf Cu rfl (ql Bp rfl ?_))
 obtain ⟨v2, a2, h⟩ := bind_some h
 refine AC [2002] (C0 N p0.fNext v2 a2) O7 rfl (qf Df rfl (ql Hk rfl ?_))
 obtain ⟨v3, a3, h⟩ := bind_some h
 refine AC [2003] (Eh N p0.fHeld v3 a3) R2 rfl (C4 Du KX rfl (qs Aw rfl (AF (by kernel_rfl) ?_)))
 obtain rfl := sj h
 refine Ak (sm [(1000, 2001), (1001, 2002), (1002, 2003)] [(2, .e (.one (.ptr 2 0)))] [(2, .box [.own 1000, .own 1001, .own 1002]), (1000, .vec 1 (v1.map Aj)), (1001, .vec 1 (v2.map Aj)), (1002, .vec 1 (v3.map Bs))] rfl rfl) (Ax ?_)
 exact ⟨⟨[_], ⟨.cellN _ _ _ _ _ _ _ rfl rfl AU Aw rfl rfl (Ka rfl), trivial⟩, rfl⟩, ⟨rfl, rfl, rfl, trivial⟩⟩
set_option maxRecDepth 10000 in
theorem IE (N : Nat) (p0 : AG) (r : Bool) (h : FI N p0 = some r) : Az Try.prog 99 [.e (.agg [.pure (.val (.int .i64 p0.fKind)), .pure (.val (.int .i64 p0.fFrom)), .pure (.val (.int .i64 p0.fTo)), .pure (.val (.bool p0.fAware)), .pure (.sl (p0.fOK.map (EB eB))), .pure (.sl (p0.fRewrite.map (EB eB)))])] [] (.e (.one (.pure (.val (.bool r))))) := by
 unfold FI at h
 refine Ar (n := 11) (rs := [.tmp 2]) Try.func99 rfl rfl rfl (AV rfl) (AV rfl) rfl fun w0 S0 => ?_
 refine Ab (Aa Ac rfl (qb rfl (qa rfl (Ad ?_))))
 refine AO h (fun v1 => mk [(2, .e (.one (.pure (.val (.bool v1)))))] []) (fun j1 h => ?_) (fun v1 h => ?_)
 ·refine Aa Ac rfl (qf ES rfl (ql CO rfl (Cm rfl (qm rfl ?_))))
  refine AA (t := 6) rfl (fun c2 => ?_) (fun c2 => ?_)
  ·have h := Am c2 h
   refine qn rfl (qn rfl (qn rfl (qp rfl (qa rfl (Ad ?_)))))
   exact As _ h (sm [] _ _ rfl rfl)
  ·have h := An c2 h
   refine qf ES rfl (ql CO rfl (Cm rfl (qp rfl (qa rfl (Ad ?_)))))
   exact As _ h (sm [] _ _ rfl rfl)
 ·obtain rfl := sj h
  refine Ak (sm [] [(2, .e (.one (.pure (.val (.bool v1)))))] [] rfl rfl) (Ax ?_)
  exact ⟨⟨[_], ⟨.tmp _ _ rfl, trivial⟩, rfl⟩, trivial⟩
set_option maxRecDepth 10000 in
theorem LP (N : Nat) (p0 : Ai) (p1 : Ae) (p2 : Av) (r : Bool × (List Int) × (List Int)) (h : Hm N p0 p1 p2 = some r) : Bn Try.prog 92 [.e (.agg [.pure (.sl (p0.fVersions.map Aj)), .pure (.sl (p0.fNow.map Aj)), .pure (.sl (p0.fTarget.map Aj)), .pure (.sl (p0.fTables.map Aq))]), .e (.one (.ptr 90000 0)), .e (.agg [.pure (.val (.int .i64 p2.fKind)), .pure (.val (.int .i64 p2.fIndex)), .pure (.val (.int .i64 p2.fVersion))])] [(.box [.own 90001, .own 90002, .own 90003], .box [.own 90001, .own 90002, .own 90003]), (.vec 1 (p1.fBase.map Aj), .vec 1 (p1.fBase.map Aj)), (.vec 1 (p1.fNext.map Aj), .vec 1 (r.2.1.map Aj)), (.vec 1 (p1.fHeld.map Bs), .vec 1 (r.2.2.map Bs))] [] (.e (.one (.pure (.val (.bool r.1))))) := by
 unfold Hm at h
 refine Bf (n := 70) (rs := [.tmp 6]) Try.func92 rfl rfl rfl (AV rfl) (AV rfl) rfl rfl (AV rfl) rfl (AV rfl) fun w0 S0 GL => ?_
 refine Ak (sm [] [(0, .e (.agg [.pure (.sl (p0.fVersions.map Aj)), .pure (.sl (p0.fNow.map Aj)), .pure (.sl (p0.fTarget.map Aj)), .pure (.sl (p0.fTables.map Aq))])), (1, .e (.one (.ptr 90000 0))), (2, .e (.agg [.pure (.val (.int .i64 p2.fKind)), .pure (.val (.int .i64 p2.fIndex)), .pure (.val (.int .i64 p2.fVersion))]))] [(90000, .box [.own 90001, .own 90002, .own 90003]), (90001, .vec 1 (p1.fBase.map Aj)), (90002, .vec 1 (p1.fNext.map Aj)), (90003, .vec 1 (p1.fHeld.map Bs))] rfl rfl) (Ab (Aa Ac rfl (qb rfl (qb rfl (qa rfl (Ad (Ab ?_)))))))
 refine AO h (fun v1 => mk [(1, .e (.one (.ptr 90000 0))), (3, .e (.one (.ptr 3 0))), (5, .e (.one (.ptr 5 0))), (30, .e (.one (.pure (.val (.bool v1)))))] [(3, .box [.pure (.sl (p0.fVersions.map Aj)), .pure (.sl (p0.fNow.map Aj)), .pure (.sl (p0.fTarget.map Aj)), .pure (.sl (p0.fTables.map Aq))]), (5, .box [.pure (.val (.int .i64 p2.fKind)), .pure (.val (.int .i64 p2.fIndex)), .pure (.val (.int .i64 p2.fVersion))]), (90000, .box [.own 90001, .own 90002, .own 90003]), (90001, .vec 1 (p1.fBase.map Aj)), (90002, .vec 1 (p1.fNext.map Aj)), (90003, .vec 1 (p1.fHeld.map Bs))]) (fun j1 h => ?_) (fun v1 h => ?_)
 ·refine Aa Ac rfl (qm rfl (K8 rfl (qf Cu rfl (ql Bp rfl (qf Ff rfl (ql CO rfl ?_))))))
  obtain ⟨v2, a2, b2, h⟩ := Ah h
  refine qI AJ DS a2 (Ag b2) rfl (qj CO (Ag b2) rfl (Dl rfl (qm rfl ?_)))
  refine AA (t := 18) rfl (fun c3 => ?_) (fun c3 => ?_)
  ·have h := Am c3 h
   refine qn rfl (qn rfl (qn rfl (qn rfl (qn rfl (qn rfl (qn rfl (qn rfl (qn rfl (qn rfl (qn rfl (qp rfl (AF (by kernel_rfl) ?_))))))))))))
   exact As _ h (sm [] _ _ rfl rfl)
  ·have h := An c3 h
   refine qm rfl (K8 rfl (qf Da rfl (ql Bp rfl (qf Ff rfl (ql CO rfl ?_)))))
   obtain ⟨v4, a4, b4, h⟩ := Ah h
   refine qI AJ DS a4 (Ag b4) rfl (qj CO (Ag b4) rfl (qf Iv rfl (ql CO rfl (Cm rfl (qp rfl (AF (by kernel_rfl) ?_))))))
   exact As _ h (sm [] _ _ rfl rfl)
 ·refine Ao rfl (fun c5 => ?_) (fun c5 => ?_)
  ·have h := Am c5 h
   refine Ab (Aa Ac rfl (qa rfl (Ad ?_)))
   obtain rfl := sj h
   refine Ak (sm [] [(6, .e (.one (.pure (.val (.bool false)))))] [(90000, .box [.own 90001, .own 90002, .own 90003]), (90001, .vec 1 (p1.fBase.map Aj)), (90002, .vec 1 (p1.fNext.map Aj)), (90003, .vec 1 (p1.fHeld.map Bs))] rfl rfl) (Ax ?_)
   exact ⟨⟨[_], ⟨.tmp _ _ rfl, trivial⟩, rfl⟩, ⟨rfl, rfl, rfl, rfl, trivial⟩, trivial⟩
  ·have h := An c5 h
   refine Ap (Ab (Aa Ac rfl (qm rfl (K8 rfl (qf Cu rfl (ql Bp rfl (qf Ff rfl (ql CO rfl (qf Iv rfl (ql CO rfl ?_))))))))))
   obtain ⟨v6, a6, b6, h⟩ := Ah h
   refine qI AJ DS a6 (Ag b6) rfl ?_
   refine AX rfl rfl rfl rfl (Ag b6) rfl DS rfl (AV rfl) (AY Aj p1.fNext _ p2.fVersion) ?_
   refine AF (by kernel_rfl) (Ab (Ab (Aa Ac rfl (qf Dx rfl (ql H9 rfl (AN Ek rfl (qm rfl (Ad ?_))))))))
   refine AB (L := EP N p0 p2) h (fun v7 => mk [(1, .e (.one (.ptr 90000 0))), (5, .e (.one (.ptr 5 0))), (41, .e (.one (.pure (.sl (p0.fTables.map Aq))))), (42, .e (.one (.pure (.val (.int .i64 ((p0.fTables.length : Int))))))), (43, .e (.one (.pure (.val (.int .i64 v7.2)))))] [(5, .box [.pure (.val (.int .i64 p2.fKind)), .pure (.val (.int .i64 p2.fIndex)), .pure (.val (.int .i64 p2.fVersion))]), (90000, .box [.own 90001, .own 90002, .own 90003]), (90001, .vec 1 (p1.fBase.map Aj)), (90002, .vec 1 ((p1.fNext.set ((p2.fIndex).toNat) p2.fVersion).map Aj)), (90003, .vec 1 (v7.1.map Bs))]) (fun v8 => mk [] [(90000, .box [.own 90001, .own 90002, .own 90003]), (90001, .vec 1 (p1.fBase.map Aj)), (90002, .vec 1 ((p1.fNext.set ((p2.fIndex).toNat) p2.fVersion).map Aj)), (90003, .vec 1 (v8.map Bs))]) (fun _ _ => rfl) (sm [] _ _ rfl rfl) (fun j7 n7 v7 h => ?_) (fun v8 s h hs => ?_)
   ·unfold EP at h
    refine Ab (Aa Ac rfl (AT rfl (Ad (Ab ?_))))
    refine Ao rfl (fun c9 => ?_) (fun c9 => ?_)
    ·have h := Am c9 h
     refine Ap ?_
     refine AO h (fun v10 => mk [(1, .e (.one (.ptr 90000 0))), (5, .e (.one (.ptr 5 0))), (41, .e (.one (.pure (.sl (p0.fTables.map Aq))))), (42, .e (.one (.pure (.val (.int .i64 ((p0.fTables.length : Int))))))), (43, .e (.one (.pure (.val (.int .i64 v7.2)))))] [(5, .box [.pure (.val (.int .i64 p2.fKind)), .pure (.val (.int .i64 p2.fIndex)), .pure (.val (.int .i64 p2.fVersion))]), (90000, .box [.own 90001, .own 90002, .own 90003]), (90001, .vec 1 (p1.fBase.map Aj)), (90002, .vec 1 ((p1.fNext.set ((p2.fIndex).toNat) p2.fVersion).map Aj)), (90003, .vec 1 (v10.map Bs))]) (fun j10 h => ?_) (fun v10 h => ?_)
     ·refine AI (Ab (Aa Ac rfl (qm rfl ?_)))
      obtain ⟨v11, a11, b11, h⟩ := Ah h
      refine qi Ek D8 a11 (Ag b11) rfl (qK GY D8 rfl (qz Jq rfl (qa rfl (qs D8 rfl (Ad ?_)))))
      refine AO h (fun v12 => mk [(1, .e (.one (.ptr 90000 0))), (5, .e (.one (.ptr 5 0))), (7, .e (.one (.pure (.val (.int .i64 v7.2))))), (41, .e (.one (.pure (.sl (p0.fTables.map Aq))))), (42, .e (.one (.pure (.val (.int .i64 ((p0.fTables.length : Int))))))), (43, .e (.one (.pure (.val (.int .i64 v7.2))))), (56, .e (.one (.pure (.val (.bool v12)))))] [(5, .box [.pure (.val (.int .i64 p2.fKind)), .pure (.val (.int .i64 p2.fIndex)), .pure (.val (.int .i64 p2.fVersion))]), (90000, .box [.own 90001, .own 90002, .own 90003]), (90001, .vec 1 (p1.fBase.map Aj)), (90002, .vec 1 ((p1.fNext.set ((p2.fIndex).toNat) p2.fVersion).map Aj)), (90003, .vec 1 (v7.1.map Bs))]) (fun j12 h => ?_) (fun v12 h => ?_)
      ·refine Aa Ac rfl (qf Dq rfl (ql CO rfl (qf Ff rfl (ql CO rfl (Cm rfl (qm rfl ?_))))))
       refine AA (t := 53) rfl (fun c13 => ?_) (fun c13 => ?_)
       ·have h := Am c13 h
        refine qL GY D8 rfl ?_
        obtain ⟨v14, a14, h⟩ := bind_some h
        refine AC [] (IE N v11 v14 a14) Si rfl (qp rfl (Ad ?_))
        exact As _ h (sm [] _ _ rfl rfl)
       ·have h := An c13 h
        refine qn rfl (qn rfl (qp rfl (Ad ?_)))
        exact As _ h (sm [] _ _ rfl rfl)
      ·refine Ao rfl (fun c15 => ?_) (fun c15 => ?_)
       ·have h := Am c15 h
        refine Aa Ac rfl (qm rfl (K8 rfl (qf Df rfl (ql Hk rfl (qm rfl ?_)))))
        obtain ⟨v16, a16, b16, h⟩ := Ah h
        refine qI CI EE a16 (Ag b16) rfl (qj HM (Ag b16) rfl (qf Iv rfl (ql CO rfl ?_)))
        obtain ⟨c17, h⟩ := AM h
        refine Gz rfl c17 (Nk rfl ?_)
        obtain ⟨v18, a18, b18, h⟩ := Ah h
        refine qI CI EE a18 (Ag b18) rfl ?_
        refine AX rfl rfl rfl rfl (Ag b18) rfl EE rfl (AV rfl) (AY Bs v7.1 _ ((IT .u8 v16 ((Cn .u8 1 p2.fVersion))))) ?_
        refine AF (by kernel_rfl) ?_
        exact As _ h (sm [] _ _ rfl rfl)
       ·have h := An c15 h
        refine Ap ?_
        exact As _ h (sm [] _ _ rfl rfl)
     ·refine Aa Ac rfl (AQ rfl (qm rfl (Ad ?_)))
      exact As _ h (sm [] _ _ rfl rfl)
    ·have h := An c9 h
     refine AS ?_
     exact As _ h (sm [] _ _ rfl rfl)
   ·refine Ak hs (Ab (Aa Ac rfl (qa rfl (Ad ?_))))
    obtain rfl := sj h
    refine Ak (sm [] [(6, .e (.one (.pure (.val (.bool true)))))] [(90000, .box [.own 90001, .own 90002, .own 90003]), (90001, .vec 1 (p1.fBase.map Aj)), (90002, .vec 1 ((p1.fNext.set ((p2.fIndex).toNat) p2.fVersion).map Aj)), (90003, .vec 1 (v8.map Bs))] rfl rfl) (Ax ?_)
    exact ⟨⟨[_], ⟨.tmp _ _ rfl, trivial⟩, rfl⟩, ⟨rfl, rfl, rfl, rfl, trivial⟩, trivial⟩
set_option maxRecDepth 10000 in
theorem KW (N : Nat) (p0 : Ae) (p1 : Int) (r : Int) (h : Gu N p0 p1 = some r) : Az Try.prog 100 [.e (.agg [.pure (.sl (p0.fBase.map Aj)), .pure (.sl (p0.fNext.map Aj)), .pure (.sl (p0.fHeld.map Bs))]), .e (.one (.pure (.val (.int .i64 p1))))] [] (.e (.one (.pure (.val (.int .u8 r))))) := by
 unfold Gu at h
 refine Ar (n := 27) (rs := [.tmp 4]) Try.func100 rfl rfl rfl (AV rfl) (AV rfl) rfl fun w0 S0 => ?_
 refine Ab (Aa Ac rfl (qb rfl (qa rfl (Ad (Ab (Aa Ac rfl (qf Da rfl (ql Bp rfl (qm rfl ?_)))))))))
 obtain ⟨v1, a1, b1, h⟩ := Ah h
 refine qi AJ DS a1 (Ag b1) rfl (qk CO rfl ?_)
 obtain ⟨c2, h⟩ := AM h
 refine Gz rfl c2 (qa rfl (Ad ?_))
 refine AO h (fun v3 => mk [(5, .e (.one (.pure (.val (.int .u8 v3)))))] []) (fun j3 h => ?_) (fun v3 h => ?_)
 ·refine Ab (Aa Ac rfl (qf Cu rfl (ql Bp rfl (qm rfl ?_))))
  obtain ⟨v4, a4, b4, h⟩ := Ah h
  refine qi AJ DS a4 (Ag b4) rfl (qk CO rfl (Dl rfl (Ad ?_)))
  refine Ao rfl (fun c5 => ?_) (fun c5 => ?_)
  ·have h := Am c5 h
   refine Aa Ac rfl (qm rfl (qf Cu rfl (ql Bp rfl (qm rfl ?_))))
   obtain ⟨v6, a6, b6, h⟩ := Ah h
   refine qi AJ DS a6 (Ag b6) rfl (qk CO rfl ?_)
   obtain ⟨c7, h⟩ := AM h
   refine Gz rfl c7 (Nk rfl (qa rfl (Ad ?_)))
   exact As _ h (sm [] _ _ rfl rfl)
  ·have h := An c5 h
   refine Ap ?_
   exact As _ h (sm [] _ _ rfl rfl)
 ·refine Ab (Aa Ac rfl (qm rfl (qa rfl (Ad ?_))))
  obtain rfl := sj h
  refine Ak (sm [] [(4, .e (.one (.pure (.val (.int .u8 v3)))))] [] rfl rfl) (Ax ?_)
  exact ⟨⟨[_], ⟨.tmp _ _ rfl, trivial⟩, rfl⟩, trivial⟩
set_option maxRecDepth 10000 in
theorem GR (N : Nat) (p0 : Int) (r : Int) (h : DB N p0 = some r) : Az Try.prog 103 [.e (.one (.pure (.val (.int .u8 p0))))] [] (.e (.one (.pure (.val (.int .i64 r))))) := by
 unfold DB at h
 refine Ar (n := 6) (rs := [.tmp 2]) Try.func103 rfl rfl rfl (AV rfl) (AV rfl) rfl fun w0 S0 => ?_
 refine Ab (Aa Ac rfl (qa rfl (Ad (Ab (Aa Ac rfl (qm rfl ?_))))))
 obtain ⟨v1, a1, h⟩ := bind_some h
 refine JH (.p rfl) rfl rfl Pz a1 ?_
 refine FH PT O1 rfl (qa rfl (Ad ?_))
 obtain rfl := sj h
 refine Ak (sm [] [(2, .e (.one (.pure (.val (.int .i64 ((IntKind.wrap .i64 v1)))))))] [] rfl rfl) (Ax ?_)
 exact ⟨⟨[_], ⟨.tmp _ _ rfl, trivial⟩, rfl⟩, trivial⟩
set_option maxRecDepth 10000 in
theorem Jk (N : Nat) (p0 : AG) (p1 : Int) (p2 : Int) (r : Bool) (h : Fk N p0 p1 p2 = some r) : Az Try.prog 101 [.e (.agg [.pure (.val (.int .i64 p0.fKind)), .pure (.val (.int .i64 p0.fFrom)), .pure (.val (.int .i64 p0.fTo)), .pure (.val (.bool p0.fAware)), .pure (.sl (p0.fOK.map (EB eB))), .pure (.sl (p0.fRewrite.map (EB eB)))]), .e (.one (.pure (.val (.int .u8 p1)))), .e (.one (.pure (.val (.int .i64 p2))))] [] (.e (.one (.pure (.val (.bool r))))) := by
 unfold Fk at h
 refine Ar (n := 25) (rs := [.tmp 6]) Try.func101 rfl rfl rfl (AV rfl) (AV rfl) rfl fun w0 S0 => ?_
 refine Ab (Aa Ac rfl (qb rfl (qa rfl (Ad (Ab (Ab (Aa Ac rfl (qm rfl (qa rfl (Ad ?_))))))))))
 refine AB (L := DL N p0 p2) h (fun v1 => mk [(2, .e (.one (.pure (.val (.int .i64 p2))))), (3, .e (.one (.ptr 3 0))), (7, .e (.one (.pure (.val (.int .u8 v1)))))] [(3, .box [.pure (.val (.int .i64 p0.fKind)), .pure (.val (.int .i64 p0.fFrom)), .pure (.val (.int .i64 p0.fTo)), .pure (.val (.bool p0.fAware)), .pure (.sl (p0.fOK.map (EB eB))), .pure (.sl (p0.fRewrite.map (EB eB)))])]) (fun v2 => mk [] []) (fun _ _ => rfl) (sm [] _ _ rfl rfl) (fun j1 n1 v1 h => ?_) (fun v2 s h hs => ?_)
 ·unfold DL at h
  refine Ab (Ab (Aa Ac rfl (qm rfl (Cd rfl (Ad ?_)))))
  refine Ao rfl (fun c3 => ?_) (fun c3 => ?_)
  ·have h := Am c3 h
   refine Ap (Ab (AI (Ab (Aa Ac rfl (qf FD rfl (ql Jg rfl (qm rfl ?_)))))))
   obtain ⟨v4, a4, h⟩ := bind_some h
   refine AC [] (GR N v1 v4 a4) RU rfl ?_
   obtain ⟨v5, a5, b5, h⟩ := Ah h
   refine qi FF LN a5 (Ag b5) rfl (qk N6 rfl (qm rfl ?_))
   obtain ⟨v6, a6, b6, h⟩ := Ah h
   refine qi FY Ny a6 (Ag b6) rfl (qk P7 rfl (Cy rfl (AF (by kernel_rfl) ?_)))
   refine Ao rfl (fun c7 => ?_) (fun c7 => ?_)
   ·have h := Am c7 h
    refine Ab (Aa Ac rfl (qa rfl (Ad ?_)))
    obtain rfl := sj h
    refine Ak (sm [] [(6, .e (.one (.pure (.val (.bool false)))))] [] rfl rfl) (Ax ?_)
    exact ⟨⟨[_], ⟨.tmp _ _ rfl, trivial⟩, rfl⟩, trivial⟩
   ·have h := An c7 h
    refine Ap (Aa Ac rfl (qm rfl (qm rfl (Cl rfl (J2 rfl (qa rfl (Ad ?_)))))))
    exact As _ h (sm [] _ _ rfl rfl)
  ·have h := An c3 h
   refine AS ?_
   exact As _ h (sm [] _ _ rfl rfl)
 ·refine Ak hs (Ab (Aa Ac rfl (qa rfl (Ad ?_))))
  obtain rfl := sj h
  refine Ak (sm [] [(6, .e (.one (.pure (.val (.bool true)))))] [] rfl rfl) (Ax ?_)
  exact ⟨⟨[_], ⟨.tmp _ _ rfl, trivial⟩, rfl⟩, trivial⟩
set_option maxRecDepth 10000 in
theorem LV (N : Nat) (p0 : Ai) (p1 : Ae) (p2 : Int) (r : Bool × (List Int)) (h : Hg N p0 p1 p2 = some r) : Bn Try.prog 93 [.e (.agg [.pure (.sl (p0.fVersions.map Aj)), .pure (.sl (p0.fNow.map Aj)), .pure (.sl (p0.fTarget.map Aj)), .pure (.sl (p0.fTables.map Aq))]), .e (.one (.ptr 90000 0)), .e (.one (.pure (.val (.int .i64 p2))))] [(.box [.own 90001, .own 90002, .own 90003], .box [.own 90001, .own 90002, .own 90003]), (.vec 1 (p1.fBase.map Aj), .vec 1 (p1.fBase.map Aj)), (.vec 1 (p1.fNext.map Aj), .vec 1 (p1.fNext.map Aj)), (.vec 1 (p1.fHeld.map Bs), .vec 1 (r.2.map Bs))] [] (.e (.one (.pure (.val (.bool r.1))))) := by
 unfold Hg at h
 refine Bf (n := 68) (rs := [.tmp 6]) Try.func93 rfl rfl rfl (AV rfl) (AV rfl) rfl rfl (AV rfl) rfl (AV rfl) fun w0 S0 GL => ?_
 refine Ak (sm [] [(0, .e (.agg [.pure (.sl (p0.fVersions.map Aj)), .pure (.sl (p0.fNow.map Aj)), .pure (.sl (p0.fTarget.map Aj)), .pure (.sl (p0.fTables.map Aq))])), (1, .e (.one (.ptr 90000 0))), (2, .e (.one (.pure (.val (.int .i64 p2)))))] [(90000, .box [.own 90001, .own 90002, .own 90003]), (90001, .vec 1 (p1.fBase.map Aj)), (90002, .vec 1 (p1.fNext.map Aj)), (90003, .vec 1 (p1.fHeld.map Bs))] rfl rfl) (Ab (Aa Ac rfl (qb rfl (qa rfl (Ad (Ab (Aa Ac rfl (qf Dx rfl (ql H9 rfl (qm rfl ?_))))))))))
 obtain ⟨v1, a1, b1, h⟩ := Ah h
 refine qi Ek D8 a1 (Ag b1) rfl (qK GY D8 rfl (qz Jq rfl (qs D8 rfl (Ad (Ab (Ab (Aa Ac rfl (qL GY D8 rfl ?_))))))))
 obtain ⟨v2, a2, h⟩ := bind_some h
 refine AC [] (IE N v1 v2 a2) Si rfl (Cy rfl (Ad ?_))
 refine Ao rfl (fun c3 => ?_) (fun c3 => ?_)
 ·have h := Am c3 h
  refine Ab (Aa Ac rfl (qa rfl (Ad ?_)))
  obtain rfl := sj h
  refine Ak (sm [] [(6, .e (.one (.pure (.val (.bool false)))))] [(90000, .box [.own 90001, .own 90002, .own 90003]), (90001, .vec 1 (p1.fBase.map Aj)), (90002, .vec 1 (p1.fNext.map Aj)), (90003, .vec 1 (p1.fHeld.map Bs))] rfl rfl) (Ax ?_)
  exact ⟨⟨[_], ⟨.tmp _ _ rfl, trivial⟩, rfl⟩, ⟨rfl, rfl, rfl, rfl, trivial⟩, trivial⟩
 ·have h := An c3 h
  refine Ap (Ab (Aa Ac rfl (qm rfl (K8 rfl (qL AU Aw rfl (qf Dq rfl (ql CO rfl ?_)))))))
  obtain ⟨v4, a4, h⟩ := bind_some h
  refine Fb [] [90001, 90002, 90003] (KW N p1 v1.fFrom v4 a4) RZ DR rfl (qa rfl (AF (by kernel_rfl) (Ab (Aa Ac rfl (qm rfl (K8 rfl (qf Df rfl (ql Hk rfl (qm rfl ?_)))))))))
  obtain ⟨v5, a5, b5, h⟩ := Ah h
  refine qI CI EE a5 (Ag b5) rfl (qj HM (Ag b5) rfl (qm rfl (GJ rfl (qa rfl (Ad (Ab ?_))))))
  refine AO h (fun v6 => mk [(1, .e (.one (.ptr 90000 0))), (2, .e (.one (.pure (.val (.int .i64 p2))))), (8, .e (.one (.pure (.val (.int .u8 v4))))), (60, .e (.one (.pure (.val (.bool v6)))))] [(90000, .box [.own 90001, .own 90002, .own 90003]), (90001, .vec 1 (p1.fBase.map Aj)), (90002, .vec 1 (p1.fNext.map Aj)), (90003, .vec 1 (p1.fHeld.map Bs))]) (fun j6 h => ?_) (fun v6 h => ?_)
  ·refine Aa Ac rfl (qm rfl (K8 rfl (qf Df rfl (ql Hk rfl (qm rfl ?_)))))
   obtain ⟨v7, a7, b7, h⟩ := Ah h
   refine qI CI EE a7 (Ag b7) rfl (qj HM (Ag b7) rfl (qm rfl (Cm rfl (qm rfl ?_))))
   refine AA (t := 42) rfl (fun c8 => ?_) (fun c8 => ?_)
   ·have h := Am c8 h
    refine qn rfl (qn rfl (qn rfl (qn rfl (qu rfl (qu rfl (qu rfl (qu rfl (qu rfl (qu rfl (qu rfl (qu rfl (qu rfl (qu rfl (qu rfl (qu rfl (qn rfl (qp rfl (AF (by kernel_rfl) ?_))))))))))))))))))
    exact As _ h (sm [] _ _ rfl rfl)
   ·have h := An c8 h
    refine qf ES rfl (ql CO rfl (Cm rfl (qm rfl ?_)))
    refine AA (t := 46) rfl (fun c9 => ?_) (fun c9 => ?_)
    ·have h := Am c9 h
     refine qL GY D8 rfl (qm rfl (qm rfl (K8 rfl (qf Da rfl (ql Bp rfl (qf Dq rfl (ql CO rfl ?_)))))))
     obtain ⟨v10, a10, b10, h⟩ := Ah h
     refine qI AJ DS a10 (Ag b10) rfl (qj CO (Ag b10) rfl ?_)
     obtain ⟨v11, a11, h⟩ := bind_some h
     refine AC [] (Jk N v1 ((C3 .u8 v5 v4)) v10 v11 a11) RW rfl (Cy rfl (qp rfl (qp rfl (AF (by kernel_rfl) ?_))))
     exact As _ h (sm [] _ _ rfl rfl)
    ·have h := An c9 h
     refine qn rfl (qn rfl (qn rfl (qn rfl (qn rfl (qn rfl (qn rfl (qn rfl (qn rfl (qn rfl (qn rfl (qn rfl (qp rfl (qp rfl (AF (by kernel_rfl) ?_))))))))))))))
     exact As _ h (sm [] _ _ rfl rfl)
  ·refine Ao rfl (fun c12 => ?_) (fun c12 => ?_)
   ·have h := Am c12 h
    refine Ab (Aa Ac rfl (qa rfl (Ad ?_)))
    obtain rfl := sj h
    refine Ak (sm [] [(6, .e (.one (.pure (.val (.bool false)))))] [(90000, .box [.own 90001, .own 90002, .own 90003]), (90001, .vec 1 (p1.fBase.map Aj)), (90002, .vec 1 (p1.fNext.map Aj)), (90003, .vec 1 (p1.fHeld.map Bs))] rfl rfl) (Ax ?_)
    exact ⟨⟨[_], ⟨.tmp _ _ rfl, trivial⟩, rfl⟩, ⟨rfl, rfl, rfl, rfl, trivial⟩, trivial⟩
   ·have h := An c12 h
    refine Ap (Ab (Aa Ac rfl (qm rfl (K8 rfl (qf Df rfl (ql Hk rfl (qm rfl (qm rfl ?_))))))))
    obtain ⟨v13, a13, b13, h⟩ := Ah h
    refine qI CI EE a13 (Ag b13) rfl ?_
    refine AX rfl rfl rfl rfl (Ag b13) rfl EE rfl (AV rfl) (AY Bs p1.fHeld _ v4) ?_
    refine Ad (Ab (Aa Ac rfl (qa rfl (Ad ?_))))
    obtain rfl := sj h
    refine Ak (sm [] [(6, .e (.one (.pure (.val (.bool true)))))] [(90000, .box [.own 90001, .own 90002, .own 90003]), (90001, .vec 1 (p1.fBase.map Aj)), (90002, .vec 1 (p1.fNext.map Aj)), (90003, .vec 1 ((p1.fHeld.set ((p2).toNat) v4).map Bs))] rfl rfl) (Ax ?_)
    exact ⟨⟨[_], ⟨.tmp _ _ rfl, trivial⟩, rfl⟩, ⟨rfl, rfl, rfl, rfl, trivial⟩, trivial⟩
set_option maxRecDepth 10000 in
theorem Jo (N : Nat) (p0 : Ai) (p1 : Ae) (p2 : Av) (r : Ae × Bool) (h : Gd N p0 p1 p2 = some r) : Az Try.prog 78 [.e (.agg [.pure (.sl (p0.fVersions.map Aj)), .pure (.sl (p0.fNow.map Aj)), .pure (.sl (p0.fTarget.map Aj)), .pure (.sl (p0.fTables.map Aq))]), .e (.agg [.pure (.sl (p1.fBase.map Aj)), .pure (.sl (p1.fNext.map Aj)), .pure (.sl (p1.fHeld.map Bs))]), .e (.agg [.pure (.val (.int .i64 p2.fKind)), .pure (.val (.int .i64 p2.fIndex)), .pure (.val (.int .i64 p2.fVersion))])] [(1, r.1.fBase.map Aj), (1, r.1.fNext.map Aj), (1, r.1.fHeld.map Bs)] (.tup [.agg [.own 0, .own 1, .own 2], .one (.pure (.val (.bool r.2)))]) := by
 unfold Gd at h
 refine Ar (n := 51) (rs := [.cell 6 42, .tmp 7]) Try.func78 rfl rfl rfl (AV rfl) (AV rfl) rfl fun w0 S0 => ?_
 refine Ab (Aa Ac rfl (qb rfl (qb rfl (qb rfl (qz Du rfl (qa rfl (Ad (Ab (Aa Ac rfl (qL AU Aw rfl ?_))))))))))
 obtain ⟨v1, a1, h⟩ := bind_some h
 refine AC [2001, 2002, 2003] (IF N p1 v1 a1) Rw rfl (qz Du rfl (qs Aw rfl (Ad (Ab (Ab (Aa Ac rfl (qf HN rfl (ql CO rfl (Ad (AI (Ab (Aa Ac rfl (Cm rfl (qa rfl (Ad ?_)))))))))))))))
 refine Ao rfl (fun c2 => ?_) (fun c2 => ?_)
 ·have h := Am c2 h
  refine Ab (Aa Ac rfl (qL AU Aw rfl (qL DO Dz rfl (qL IA Em rfl ?_))))
  obtain ⟨v3, a3, h⟩ := bind_some h
  refine CH (ds0 := [_, _, _]) [8, 2001, 2002, 2003] [] [false, false, true, true] (LP N p0 v1 p2 v3 a3) (.p rfl) SV rfl ⟨rfl, rfl, rfl, trivial⟩ rfl rfl (by decide) ⟨rfl, rfl, rfl, rfl, trivial⟩ rfl (A2 rfl) trivial ⟨(fun _ => rfl), (fun _ => rfl), (fun h => by cases h), (fun h => by cases h), trivial⟩ rfl rfl rfl ?_
  refine qs Aw rfl (qa rfl (AF (by kernel_rfl) ?_))
  obtain rfl := sj h
  refine Ak (sm [(1000, 2001), (1001, 2002), (1002, 2003)] [(6, .e (.one (.ptr 6 0))), (7, .e (.one (.pure (.val (.bool v3.1)))))] [(6, .box [.own 1000, .own 1001, .own 1002]), (1000, .vec 1 (v1.fBase.map Aj)), (1001, .vec 1 (v3.2.1.map Aj)), (1002, .vec 1 (v3.2.2.map Bs))] rfl rfl) (Ax ?_)
  exact ⟨⟨[_, _], ⟨.cellN _ _ _ _ _ _ _ rfl rfl AU Aw rfl rfl (Ka rfl), ⟨.tmp _ _ rfl, trivial⟩⟩, rfl⟩, ⟨rfl, rfl, rfl, trivial⟩⟩
 ·have h := An c2 h
  refine Ab (Aa Ac rfl (Cm rfl (qa rfl (Ad ?_))))
  refine Ao rfl (fun c4 => ?_) (fun c4 => ?_)
  ·have h := Am c4 h
   refine Ab (Aa Ac rfl (qL AU Aw rfl (qL DO Dz rfl (qf Ff rfl (ql CO rfl ?_)))))
   obtain ⟨v5, a5, h⟩ := bind_some h
   refine CH (ds0 := [_, _, _]) [8, 2001, 2002, 2003] [] [false, false, false, true] (LV N p0 v1 p2.fIndex v5 a5) (.p rfl) Tc rfl ⟨rfl, rfl, rfl, trivial⟩ rfl rfl (by decide) ⟨rfl, rfl, rfl, rfl, trivial⟩ rfl (A2 rfl) trivial ⟨(fun _ => rfl), (fun _ => rfl), (fun _ => rfl), (fun h => by cases h), trivial⟩ rfl rfl rfl ?_
   refine qs Aw rfl (qa rfl (AF (by kernel_rfl) ?_))
   obtain rfl := sj h
   refine Ak (sm [(1000, 2001), (1001, 2002), (1002, 2003)] [(6, .e (.one (.ptr 6 0))), (7, .e (.one (.pure (.val (.bool v5.1)))))] [(6, .box [.own 1000, .own 1001, .own 1002]), (1000, .vec 1 (v1.fBase.map Aj)), (1001, .vec 1 (v1.fNext.map Aj)), (1002, .vec 1 (v5.2.map Bs))] rfl rfl) (Ax ?_)
   exact ⟨⟨[_, _], ⟨.cellN _ _ _ _ _ _ _ rfl rfl AU Aw rfl rfl (Ka rfl), ⟨.tmp _ _ rfl, trivial⟩⟩, rfl⟩, ⟨rfl, rfl, rfl, trivial⟩⟩
  ·have h := An c4 h
   refine Ap (Ab (Aa Ac rfl (qf Cu rfl (ql Bp rfl (qf Ff rfl (ql CO rfl ?_))))))
   obtain ⟨v6, a6, b6, h⟩ := Ah h
   refine qI AJ DS a6 (Ag b6) rfl (qj CO (Ag b6) rfl (qa rfl (Ad (Ab (Ab (Aa Ac rfl (qm rfl (AT rfl (Ad ?_)))))))))
   refine Ao rfl (fun c7 => ?_) (fun c7 => ?_)
   ·have h := Am c7 h
    refine Ab (Aa Ac rfl (qL AU Aw rfl (qs Aw rfl (qa rfl (Ad ?_)))))
    obtain rfl := sj h
    refine Ak (sm [(1000, 2001), (1001, 2002), (1002, 2003)] [(6, .e (.one (.ptr 6 0))), (7, .e (.one (.pure (.val (.bool false)))))] [(6, .box [.own 1000, .own 1001, .own 1002]), (1000, .vec 1 (v1.fBase.map Aj)), (1001, .vec 1 (v1.fNext.map Aj)), (1002, .vec 1 (v1.fHeld.map Bs))] rfl rfl) (Ax ?_)
    exact ⟨⟨[_, _], ⟨.cellN _ _ _ _ _ _ _ rfl rfl AU Aw rfl rfl (Ka rfl), ⟨.tmp _ _ rfl, trivial⟩⟩, rfl⟩, ⟨rfl, rfl, rfl, trivial⟩⟩
   ·have h := An c7 h
    refine Ap (Ab (Aa Ac rfl (qf Cu rfl (ql Bp rfl (qf Ff rfl (ql CO rfl ?_))))))
    obtain ⟨v8, a8, b8, h⟩ := Ah h
    refine qI AJ DS a8 (Ag b8) rfl ?_
    refine AX rfl rfl rfl rfl (Ag b8) rfl DS rfl (AV rfl) (AY Aj v1.fNext _ ((-1))) ?_
    refine Ad ?_
    refine AO h (fun v9 => mk [(6, .e (.one (.ptr 6 0))), (8, .e (.one (.ptr 8 0)))] [(6, .box [.pure (.nil0), .pure (.nil0), .pure (.nil0)]), (8, .box [.own 2004, .own 2005, .own 2006]), (2004, .vec 1 (v9.map Aj)), (2005, .vec 1 ((v1.fNext.set ((p2.fIndex).toNat) ((-1))).map Aj)), (2006, .vec 1 (v1.fHeld.map Bs))]) (fun j9 h => ?_) (fun v9 h => ?_)
    ·refine Ab (Aa Ac rfl (qf HN rfl (ql CO rfl (Cm rfl (Ad ?_)))))
     refine Ao rfl (fun c10 => ?_) (fun c10 => ?_)
     ·have h := Am c10 h
      refine Aa Ac rfl (qf Da rfl (ql Bp rfl (qf Ff rfl (ql CO rfl (qm rfl ?_)))))
      obtain ⟨v11, a11, b11, h⟩ := Ah h
      refine qI AJ DS a11 (Ag b11) rfl ?_
      refine AX rfl rfl rfl rfl (Ag b11) rfl DS rfl (AV rfl) (AY Aj v1.fBase _ v6) ?_
      refine Ad ?_
      exact As _ h (sm [(2004, 2001), (2005, 2002), (2006, 2003)] _ _ rfl rfl)
     ·have h := An c10 h
      refine Ap ?_
      exact As _ h (sm [(2004, 2001), (2005, 2002), (2006, 2003)] _ _ rfl rfl)
    ·refine Ab (Aa Ac rfl (qL AU Aw rfl (qs Aw rfl (qa rfl (Ad ?_)))))
     obtain rfl := sj h
     refine Ak (sm [(1000, 2004), (1001, 2005), (1002, 2006)] [(6, .e (.one (.ptr 6 0))), (7, .e (.one (.pure (.val (.bool true)))))] [(6, .box [.own 1000, .own 1001, .own 1002]), (1000, .vec 1 (v9.map Aj)), (1001, .vec 1 ((v1.fNext.set ((p2.fIndex).toNat) ((-1))).map Aj)), (1002, .vec 1 (v1.fHeld.map Bs))] rfl rfl) (Ax ?_)
     exact ⟨⟨[_, _], ⟨.cellN _ _ _ _ _ _ _ rfl rfl AU Aw rfl rfl (Ka rfl), ⟨.tmp _ _ rfl, trivial⟩⟩, rfl⟩, ⟨rfl, rfl, rfl, trivial⟩⟩
set_option maxRecDepth 10000 in
theorem JA (N : Nat) (p0 : Av) (p1 : List Int) (p2 : List Int) (p3 : List Int) (p4 : List AG) (p5 : List Int) (p6 : List Int) (p7 : List Int) (r : Bool) (h : DY N p0 p1 p2 p3 p4 p5 p6 p7 = some r) : Az Try.prog 77 [.e (.agg [.pure (.val (.int .i64 p0.fKind)), .pure (.val (.int .i64 p0.fIndex)), .pure (.val (.int .i64 p0.fVersion))]), .e (.one (.rop [.sl (p1.map Aj), .sl (p2.map Aj), .sl (p3.map Aj), .sl (p4.map Aq)])), .e (.one (.rop [.sl (p5.map Aj), .sl (p6.map Aj), .sl (p7.map Bs)]))] [] (.e (.one (.pure (.val (.bool r))))) := by
 unfold DY at h
 refine Ar (n := 16) (rs := [.tmp 4]) Try.func77 rfl rfl rfl (AV rfl) (AV rfl) rfl fun w0 S0 => ?_
 refine Ab (Aa Ac rfl (qb rfl (qa rfl (Ad (Ab (Aa Ac rfl (qK DO Dz rfl (qK AU Aw rfl (qL IA Em rfl ?_)))))))))
 obtain ⟨v1, a1, h⟩ := bind_some h
 refine AC [2001, 2002, 2003] (Jo N ((Ai.mk p1 p2 p3 p4)) ((Ae.mk p5 p6 p7)) p0 v1 a1) RJ rfl (qm rfl (qx rfl (qx rfl (qz Du rfl (qs Aw rfl (qa rfl (Ad (Ab (Aa Ac rfl (qm rfl (Cy rfl (qa rfl (Ad ?_)))))))))))))
 obtain rfl := sj h
 refine Ak (sm [] [(4, .e (.one (.pure (.val (.bool ((!v1.2)))))))] [] rfl rfl) (Ax ?_)
 exact ⟨⟨[_], ⟨.tmp _ _ rfl, trivial⟩, rfl⟩, trivial⟩
set_option maxRecDepth 10000 in
theorem E4 (N : Nat) (p0 : List Av) (p1 : Av → Option Bool) (r : Int) (h : CE N p0 p1 = some r) : Az Try.prog 91 [.e (.one (.pure (.sl (p0.map AH)))), .e (.one (.clo (BD (Mf true AH) tB p1)))] [] (.e (.one (.pure (.val (.int .i64 r))))) := by
 unfold CE at h
 refine Ar (n := 19) (rs := [.tmp 4]) Try.func91 rfl rfl rfl (AV rfl) (AV rfl) rfl fun w0 S0 => ?_
 refine Ab (Aa Ac rfl (qa rfl (Ad (Ab (Ab (Aa Ac rfl (qm rfl (AN Dw rfl (qm rfl (Ad ?_))))))))))
 refine AB (L := BL N p0 p1) h (fun v1 => mk [(0, .e (.one (.pure (.sl (p0.map AH))))), (1, .e (.one (.clo (BD (Mf true AH) tB p1)))), (7, .e (.one (.pure (.val (.int .i64 ((p0.length : Int))))))), (8, .e (.one (.pure (.val (.int .i64 v1)))))] []) (fun v2 => mk [] []) (fun _ _ => rfl) (sm [] _ _ rfl rfl) (fun j1 n1 v1 h => ?_) (fun v2 s h hs => ?_)
 ·unfold BL at h
  refine Ab (Aa Ac rfl (AT rfl (Ad (Ab ?_))))
  refine Ao rfl (fun c3 => ?_) (fun c3 => ?_)
  ·have h := Am c3 h
   refine Ap (Ab (AI (Ab (Aa Ac rfl (qm rfl (qa rfl (Ad (Ab (Aa Ac rfl (qm rfl (qm rfl (qm rfl ?_))))))))))))
   obtain ⟨v4, a4, b4, h⟩ := Ah h
   refine qi Dw Em a4 (Ag b4) rfl (qK IA Em rfl ?_)
   obtain ⟨v5, a5, h⟩ := bind_some h
   refine Dy (ds0 := [_]) (ar := (Mf true AH) v4) (.p rfl) rfl rfl ⟨rfl, trivial⟩ rfl rfl rfl (DA (LF _ _ KP) a5) ?_
   refine Ad ?_
   refine Ao rfl (fun c6 => ?_) (fun c6 => ?_)
   ·have h := Am c6 h
    refine Ab (Aa Ac rfl (qm rfl (qa rfl (Ad ?_))))
    obtain rfl := sj h
    refine Ak (sm [] [(4, .e (.one (.pure (.val (.int .i64 v1)))))] [] rfl rfl) (Ax ?_)
    exact ⟨⟨[_], ⟨.tmp _ _ rfl, trivial⟩, rfl⟩, trivial⟩
   ·have h := An c6 h
    refine Ap (Aa Ac rfl (AQ rfl (qm rfl (Ad ?_))))
    exact As _ h (sm [] _ _ rfl rfl)
  ·have h := An c3 h
   refine AS ?_
   exact As _ h (sm [] _ _ rfl rfl)
 ·refine Ak hs (Ab (Aa Ac rfl (qa rfl (Ad ?_))))
  obtain rfl := sj h
  refine Ak (sm [] [(4, .e (.one (.pure (.val (.int .i64 ((-1)))))))] [] rfl rfl) (Ax ?_)
  exact ⟨⟨[_], ⟨.tmp _ _ rfl, trivial⟩, rfl⟩, trivial⟩
set_option maxRecDepth 10000 in
theorem ER (N : Nat) (p0 : List Av) (p1 : Av → Option Bool) (r : Nat × (List Av)) (h : CD N p0 p1 = some r) : Bn Try.prog 75 [.e (.one (.own 90000)), .e (.one (.clo (BD (Mf true AH) tB p1)))] [(.vec 3 (p0.map AH), .vec 3 (r.2.map AH))] [] (.e (.one (.view 90000 3 0 r.1))) := by
 unfold CD at h
 refine Bf (n := 42) (rs := [.tmp 4]) Try.func75 rfl rfl rfl (AV rfl) (AV rfl) rfl rfl (AV rfl) rfl (AV rfl) fun w0 S0 GL => ?_
 refine Ak (sm [] [(0, .e (.one (.own 90000))), (1, .e (.one (.clo (BD (Mf true AH) tB p1))))] [(90000, .vec 3 (p0.map AH))] rfl rfl) (Ab (Aa Ac rfl (qa rfl (Ad (Ab (Aa Ac rfl (qm rfl (qm rfl ?_))))))))
 obtain ⟨v1, a1, h⟩ := bind_some h
 refine Fb [] [90000] (E4 N p0 p1 v1 a1) Tn DR rfl (qa rfl (Ad (Ab (Ab (Aa Ac rfl (qm rfl (Cm rfl (Ad ?_))))))))
 refine Ao rfl (fun c2 => ?_) (fun c2 => ?_)
 ·have h := Am c2 h
  refine Ab (Aa Ac rfl (qm rfl (qa rfl (Ad ?_))))
  obtain rfl := sj h
  refine Ak ((L0 AH p0 4 90000 3 rfl rfl).trans (sm [] [(4, .e (.one (.view 90000 3 0 p0.length)))] [(90000, .vec 3 (p0.map AH))] rfl rfl)) (Ax ?_)
  exact ⟨⟨[_], ⟨.tmp _ _ rfl, trivial⟩, rfl⟩, ⟨rfl, trivial⟩, trivial⟩
 ·have h := An c2 h
  refine Ap (Ab (Ab (Aa Ac rfl (qm rfl (AQ rfl (qa rfl (Ad ?_)))))))
  refine AB (L := BI N p1) h (fun v3 => mk [(0, .e (.one (.own 90000))), (1, .e (.one (.clo (BD (Mf true AH) tB p1)))), (5, .e (.one (.pure (.val (.int .i64 v3.2.1))))), (6, .e (.one (.pure (.val (.int .i64 v3.2.2)))))] [(90000, .vec 3 (v3.1.map AH))]) (fun v4 => mk [(0, .e (.one (.own 90000))), (5, .e (.one (.pure (.val (.int .i64 v4.2)))))] [(90000, .vec 3 (v4.1.map AH))]) (fun _ _ => rfl) (sm [] _ _ rfl rfl) (fun j3 n3 v3 h => ?_) (fun v4 s h hs => ?_)
  ·unfold BI at h
   refine Ab (Ab (Aa Ac rfl (qm rfl (qm rfl (Dj Dw rfl (AT rfl (Ad ?_)))))))
   refine Ao rfl (fun c5 => ?_) (fun c5 => ?_)
   ·have h := Am c5 h
    refine Ap ?_
    refine AO h (fun v6 => mk [(0, .e (.one (.own 90000))), (1, .e (.one (.clo (BD (Mf true AH) tB p1)))), (5, .e (.one (.pure (.val (.int .i64 v6.2))))), (6, .e (.one (.pure (.val (.int .i64 v3.2.2)))))] [(90000, .vec 3 (v6.1.map AH))]) (fun j6 h => ?_) (fun v6 h => ?_)
    ·refine AI (Ab (Aa Ac rfl (qm rfl (qm rfl ?_))))
     obtain ⟨v7, a7, b7, h⟩ := Ah h
     refine qI Dw Em a7 (Ag b7) rfl (qJ IA Em (Ag b7) rfl (qz HK rfl (qs Em rfl (Ad (Ab (Aa Ac rfl (qm rfl (qL IA Em rfl ?_))))))))
     obtain ⟨v8, a8, h⟩ := bind_some h
     refine Dy (ds0 := [_]) (ar := (Mf true AH) v7) (.p rfl) rfl rfl ⟨rfl, trivial⟩ rfl rfl rfl (DA (LF _ _ KP) a8) ?_
     refine Cy rfl (Ad ?_)
     refine Ao rfl (fun c9 => ?_) (fun c9 => ?_)
     ·have h := Am c9 h
      refine Ab (Aa Ac rfl (qm rfl (qm rfl (qL IA Em rfl ?_))))
      obtain ⟨v10, a10, b10, h⟩ := Ah h
      refine qI Dw Em a10 (Ag b10) rfl ?_
      refine AX rfl rfl rfl rfl (Ag b10) rfl Em rfl (AV rfl) (AY AH v3.1 _ v7) ?_
      refine Ad (Aa Ac rfl (qm rfl (AQ rfl (qa rfl (Ad ?_)))))
      exact As _ h (sm [] _ _ rfl rfl)
     ·have h := An c9 h
      refine Ap ?_
      exact As _ h (sm [] _ _ rfl rfl)
    ·refine Aa Ac rfl (qm rfl (AQ rfl (qa rfl (Ad ?_))))
     exact As _ h (sm [] _ _ rfl rfl)
   ·have h := An c5 h
    refine AS ?_
    exact As _ h (sm [] _ _ rfl rfl)
  ·refine Ak hs (Ab (Aa Ac rfl (qm rfl (qm rfl ?_))))
   obtain ⟨c11, h⟩ := AM h
   have w12 : ((v4.2).toNat) + ((v4.1.length - (v4.2).toNat)) ≤ v4.1.length := by have := c11.2.1; have := c11.2.2; omega
   refine GV AH v4.1 (.p rfl) rfl (Gp AH _ _ v4.1) rfl Dw Em (.some _ _ _ _ c11.1) (.none _) ⟨rfl, trivial⟩ trivial c11.2.1 (by rw [Nat.zero_add]; exact c11.2.2) (Nat.zero_add _) rfl ?_
   have w13 : (Hz v4.1 ((v4.2).toNat) (List.replicate ((v4.1.length - (v4.2).toNat)) ((Av.mk 0 0 0)))).length = v4.1.length := HS (by rw [List.length_replicate]; exact w12)
   refine MS AH v4.1 ((Av.mk 0 0 0)) rfl rfl (JC AH _ _ ((v4.2).toNat) ((v4.1.length - (v4.2).toNat)) v4.1 w12) rfl Dw HK rfl rfl rfl rfl ?_
   refine Ad (Ab (Aa Ac rfl (qm rfl (qm rfl ?_))))
   obtain ⟨c14, h⟩ := AM h
   have w15 : 0 + ((v4.2).toNat) ≤ (Hz v4.1 ((v4.2).toNat) (List.replicate ((v4.1.length - (v4.2).toNat)) ((Av.mk 0 0 0)))).length := by have := c14.2.1; have := c14.2.2; omega
   refine GV AH (Hz v4.1 ((v4.2).toNat) (List.replicate ((v4.1.length - (v4.2).toNat)) ((Av.mk 0 0 0)))) (.p rfl) rfl (Gp AH _ _ (Hz v4.1 ((v4.2).toNat) (List.replicate ((v4.1.length - (v4.2).toNat)) ((Av.mk 0 0 0))))) rfl Dw Em (.none _) (.some _ _ _ _ c14.1) trivial ⟨rfl, trivial⟩ c14.2.1 (by rw [Nat.zero_add]; exact c14.2.2) (Nat.zero_add _) rfl ?_
   refine qa rfl (Ad ?_)
   obtain rfl := sj h
   refine Ak (sm [] [(4, .e (.one (.view 90000 3 0 ((v4.2).toNat))))] [(90000, .vec 3 ((Hz v4.1 ((v4.2).toNat) (List.replicate ((v4.1.length - (v4.2).toNat)) ((Av.mk 0 0 0)))).map AH))] rfl rfl) (Ax ?_)
   exact ⟨⟨[_], ⟨.tmp _ _ rfl, trivial⟩, rfl⟩, ⟨rfl, trivial⟩, trivial⟩
set_option maxRecDepth 10000 in
theorem KH (N : Nat) (p0 : Ai) (p1 : Ae) (r : (List Av) × Int) (h : Gs N p0 p1 = some r) : Az Try.prog 51 [.e (.agg [.pure (.sl (p0.fVersions.map Aj)), .pure (.sl (p0.fNow.map Aj)), .pure (.sl (p0.fTarget.map Aj)), .pure (.sl (p0.fTables.map Aq))]), .e (.agg [.pure (.sl (p1.fBase.map Aj)), .pure (.sl (p1.fNext.map Aj)), .pure (.sl (p1.fHeld.map Bs))])] [(3, r.1.map AH)] (.tup [.one (.own 0), .one (.pure (.val (.int .i64 r.2)))]) := by
 unfold Gs at h
 refine Ar (n := 17) (rs := [.tmp 4, .tmp 5]) Try.func51 rfl rfl rfl (AV rfl) (AV rfl) rfl fun w0 S0 => ?_
 refine Ab (Aa Ac rfl (qb rfl (qb rfl (qa rfl (qa rfl (Ad (Ab (Ab (Aa Ac rfl (qL DO Dz rfl (qL AU Aw rfl ?_)))))))))))
 obtain ⟨v1, a1, h⟩ := bind_some h
 refine AC [] (Gn N p0 p1 v1 a1) OV rfl (qa rfl (Ad (Ab (Aa Ac rfl (qm rfl (Cd rfl (Ad ?_)))))))
 refine Ao rfl (fun c2 => ?_) (fun c2 => ?_)
 ·have h := Am c2 h
  refine Ab (Aa Ac rfl (qm rfl (qa rfl (qa rfl (Ad ?_)))))
  obtain rfl := sj h
  refine Ak ((Ba 4 2001 3 rfl rfl rfl).trans (sm [(1000, 2001)] [(4, .e (.one (.own 1000))), (5, .e (.one (.pure (.val (.int .i64 v1)))))] [(1000, .vec 3 ((([] : List Av)).map AH))] rfl rfl)) (Ax ?_)
  exact ⟨⟨[_, _], ⟨.tmp _ _ rfl, ⟨.tmp _ _ rfl, trivial⟩⟩, rfl⟩, ⟨rfl, trivial⟩⟩
 ·have h := An c2 h
  refine Ap (Ab (Aa Ac rfl (qL DO Dz rfl ?_)))
  obtain ⟨v3, a3, h⟩ := bind_some h
  refine AC [2002] (Ng N p0 v3 a3) SX rfl (C2 (KN 2 [.sl (p0.fVersions.map Aj), .sl (p0.fNow.map Aj), .sl (p0.fTarget.map Aj), .sl (p0.fTables.map Aq)] rfl rfl) (C2 (KN 3 [.sl (p1.fBase.map Aj), .sl (p1.fNext.map Aj), .sl (p1.fHeld.map Bs)] rfl rfl) ?_))
  refine Ko (capD := [_, _]) (BD (Mf true AH) tB ((fun (x : Av) => DY N x p0.fVersions p0.fNow p0.fTarget p0.fTables p1.fBase p1.fNext p1.fHeld))) (.p rfl) Tg rfl ⟨rfl, rfl, trivial⟩ rfl (fun ar t ht => by obtain ⟨x, r, rfl, hq, rfl⟩ := HG ht; exact JA N x p0.fVersions p0.fNow p0.fTarget p0.fTables p1.fBase p1.fNext p1.fHeld r hq) ?_
  obtain ⟨v4, a4, h⟩ := bind_some h
  obtain ⟨c5, h⟩ := AM h
  have w6 : 0 + v4.1 ≤ v4.2.length := by rw [Nat.zero_add]; exact c5
  refine CH (ds0 := [_, _]) [2002] [] [true] (ER N v3 ((fun (x : Av) => DY N x p0.fVersions p0.fNow p0.fTarget p0.fTables p1.fBase p1.fNext p1.fHeld)) v4 a4) (.p rfl) Th rfl ⟨rfl, rfl, trivial⟩ rfl rfl (by decide) ⟨rfl, trivial⟩ rfl (A2 rfl) trivial ⟨(fun h => by cases h), trivial⟩ rfl rfl rfl ?_
  refine C2 (O0 AH v4.2 16 2002 2003 3 v4.1 rfl rfl rfl rfl rfl c5) (qa rfl (qa rfl (Ad ?_)))
  obtain rfl := sj h
  refine Ak (sm [(1000, 2003)] [(4, .e (.one (.own 1000))), (5, .e (.one (.pure (.val (.int .i64 0)))))] [(1000, .vec 3 ((v4.2.take v4.1).map AH))] rfl rfl) (Ax ?_)
  exact ⟨⟨[_, _], ⟨.tmp _ _ rfl, ⟨.tmp _ _ rfl, trivial⟩⟩, rfl⟩, ⟨rfl, trivial⟩⟩
set_option maxRecDepth 10000 in
theorem L9 (N : Nat) (p0 : Av) (r : Bool) (h : Hi N p0 = some r) : Az Try.prog 82 [.e (.agg [.pure (.val (.int .i64 p0.fKind)), .pure (.val (.int .i64 p0.fIndex)), .pure (.val (.int .i64 p0.fVersion))])] [] (.e (.one (.pure (.val (.bool r))))) := by
 unfold Hi at h
 refine Ar (n := 27) (rs := [.tmp 2]) Try.func82 rfl rfl rfl (AV rfl) (AV rfl) rfl fun w0 S0 => ?_
 refine Ab (Aa Ac rfl (qb rfl (qa rfl (Ad (Ab ?_)))))
 refine AO h (fun v1 => mk [(1, .e (.one (.ptr 1 0))), (18, .e (.one (.pure (.val (.bool v1)))))] [(1, .box [.pure (.val (.int .i64 p0.fKind)), .pure (.val (.int .i64 p0.fIndex)), .pure (.val (.int .i64 p0.fVersion))])]) (fun j1 h => ?_) (fun v1 h => ?_)
 ·refine Aa Ac rfl (qf Ff rfl (ql CO rfl (qf Iv rfl (ql CO rfl ?_))))
  refine Rs (.p rfl) rfl rfl ?_
  refine AT rfl (qm rfl ?_)
  refine AA (t := 9) rfl (fun c2 => ?_) (fun c2 => ?_)
  ·have h := Am c2 h
   refine qn rfl (qn rfl (qn rfl (qp rfl (qm rfl (qn rfl (qn rfl (qn rfl (qp rfl (Ad ?_)))))))))
   exact As _ h (sm [] _ _ rfl rfl)
  ·have h := An c2 h
   refine qf HN rfl (ql CO rfl (AT rfl (qp rfl (qm rfl ?_))))
   refine AA (t := 14) rfl (fun c3 => ?_) (fun c3 => ?_)
   ·have h := Am c3 h
    refine qn rfl (qn rfl (qn rfl (qp rfl (Ad ?_))))
    exact As _ h (sm [] _ _ rfl rfl)
   ·have h := An c3 h
    refine qf HN rfl (ql CO rfl (Es rfl (qp rfl (Ad ?_))))
    exact As _ h (sm [] _ _ rfl rfl)
 ·refine Ao rfl (fun c4 => ?_) (fun c4 => ?_)
  ·have h := Am c4 h
   refine Ab (Aa Ac rfl (qa rfl (Ad ?_)))
   obtain rfl := sj h
   refine Ak (sm [] [(2, .e (.one (.pure (.val (.bool false)))))] [] rfl rfl) (Ax ?_)
   exact ⟨⟨[_], ⟨.tmp _ _ rfl, trivial⟩, rfl⟩, trivial⟩
  ·have h := An c4 h
   refine Ap ?_
   refine AO h (fun v5 => mk [(2, .e (.one (.pure (.val (.bool v5)))))] []) (fun j5 h => ?_) (fun v5 h => ?_)
   ·refine Aa Ac rfl (qf HN rfl (ql CO rfl (Cm rfl (qm rfl ?_))))
    refine AA (t := 22) rfl (fun c6 => ?_) (fun c6 => ?_)
    ·have h := Am c6 h
     refine qn rfl (qn rfl (qn rfl (qp rfl (qa rfl (Ad ?_)))))
     exact As _ h (sm [] _ _ rfl rfl)
    ·have h := An c6 h
     refine qf Iv rfl (ql CO rfl (Cm rfl (qp rfl (qa rfl (Ad ?_)))))
     exact As _ h (sm [] _ _ rfl rfl)
   ·obtain rfl := sj h
    refine Ak (sm [] [(2, .e (.one (.pure (.val (.bool v5)))))] [] rfl rfl) (Ax ?_)
    exact ⟨⟨[_], ⟨.tmp _ _ rfl, trivial⟩, rfl⟩, trivial⟩
set_option maxRecDepth 10000 in
theorem K3 (N : Nat) (p0 : Ai) (p1 : Av) (r : Bool) (h : GT N p0 p1 = some r) : Az Try.prog 83 [.e (.agg [.pure (.sl (p0.fVersions.map Aj)), .pure (.sl (p0.fNow.map Aj)), .pure (.sl (p0.fTarget.map Aj)), .pure (.sl (p0.fTables.map Aq))]), .e (.agg [.pure (.val (.int .i64 p1.fKind)), .pure (.val (.int .i64 p1.fIndex)), .pure (.val (.int .i64 p1.fVersion))])] [] (.e (.one (.pure (.val (.bool r))))) := by
 unfold GT at h
 refine Ar (n := 36) (rs := [.tmp 4]) Try.func83 rfl rfl rfl (AV rfl) (AV rfl) rfl fun w0 S0 => ?_
 refine Ab (Aa Ac rfl (qb rfl (qb rfl (qa rfl (Ad (Ab (Ab (Aa Ac rfl (qf HN rfl (ql CO rfl (Cm rfl (Ad ?_))))))))))))
 refine Ao rfl (fun c1 => ?_) (fun c1 => ?_)
 ·have h := Am c1 h
  refine Ab (Aa Ac rfl (qf Ff rfl (ql CO rfl (qf Dx rfl (ql H9 rfl (AN Ek rfl (AT rfl (qa rfl (Ad ?_)))))))))
  obtain rfl := sj h
  refine Ak (sm [] [(4, .e (.one (.pure (.val (.bool ((decide (p1.fIndex < (p0.fTables.length : Int)))))))))] [] rfl rfl) (Ax ?_)
  exact ⟨⟨[_], ⟨.tmp _ _ rfl, trivial⟩, rfl⟩, trivial⟩
 ·have h := An c1 h
  refine Ap ?_
  refine AO h (fun v2 => mk [(4, .e (.one (.pure (.val (.bool v2)))))] []) (fun j2 h => ?_) (fun v2 h => ?_)
  ·refine Aa Ac rfl (qf Ff rfl (ql CO rfl (qf Bv rfl (ql Bp rfl (AN AJ rfl (AT rfl (qm rfl ?_)))))))
   refine AA (t := 20) rfl (fun c3 => ?_) (fun c3 => ?_)
   ·have h := Am c3 h
    refine qf HN rfl (ql CO rfl (Cd rfl (qm rfl ?_)))
    refine AA (t := 24) rfl (fun c4 => ?_) (fun c4 => ?_)
    ·have h := Am c4 h
     refine qn rfl (qn rfl (qn rfl (qn rfl (qn rfl (qn rfl (qn rfl (qn rfl (qn rfl (qp rfl (qp rfl (qa rfl (AF (by kernel_rfl) ?_))))))))))))
     exact As _ h (sm [] _ _ rfl rfl)
    ·have h := An c4 h
     refine qf Iv rfl (ql CO rfl (qf Bv rfl (ql Bp rfl (qf Ff rfl (ql CO rfl ?_)))))
     obtain ⟨v5, a5, b5, h⟩ := Ah h
     refine qi AJ DS a5 (Ag b5) rfl (qk CO rfl (AT rfl (qp rfl (qp rfl (qa rfl (AF (by kernel_rfl) ?_))))))
     exact As _ h (sm [] _ _ rfl rfl)
   ·have h := An c3 h
    refine qn rfl (qn rfl (qn rfl (qn rfl (qu rfl (qu rfl (qu rfl (qu rfl (qu rfl (qu rfl (qu rfl (qu rfl (qu rfl (qn rfl (qp rfl (qa rfl (AF (by kernel_rfl) ?_))))))))))))))))
    exact As _ h (sm [] _ _ rfl rfl)
  ·obtain rfl := sj h
   refine Ak (sm [] [(4, .e (.one (.pure (.val (.bool v2)))))] [] rfl rfl) (Ax ?_)
   exact ⟨⟨[_], ⟨.tmp _ _ rfl, trivial⟩, rfl⟩, trivial⟩
set_option maxRecDepth 10000 in
theorem I4 (N : Nat) (p0 : Ai) (p1 : Ae) (p2 : Av) (r : Ae × Int) (h : Gf N p0 p1 p2 = some r) : Az Try.prog 61 [.e (.agg [.pure (.sl (p0.fVersions.map Aj)), .pure (.sl (p0.fNow.map Aj)), .pure (.sl (p0.fTarget.map Aj)), .pure (.sl (p0.fTables.map Aq))]), .e (.agg [.pure (.sl (p1.fBase.map Aj)), .pure (.sl (p1.fNext.map Aj)), .pure (.sl (p1.fHeld.map Bs))]), .e (.agg [.pure (.val (.int .i64 p2.fKind)), .pure (.val (.int .i64 p2.fIndex)), .pure (.val (.int .i64 p2.fVersion))])] [(1, r.1.fBase.map Aj), (1, r.1.fNext.map Aj), (1, r.1.fHeld.map Bs)] (.tup [.agg [.own 0, .own 1, .own 2], .one (.pure (.val (.int .i64 r.2)))]) := by
 unfold Gf at h
 refine Ar (n := 32) (rs := [.cell 6 42, .tmp 7]) Try.func61 rfl rfl rfl (AV rfl) (AV rfl) rfl fun w0 S0 => ?_
 refine Ab (Aa Ac rfl (qb rfl (qb rfl (qb rfl (qz Du rfl (qa rfl (Ad (Ab (AI (Ab (Aa Ac rfl (qL IA Em rfl ?_))))))))))))
 obtain ⟨v1, a1, h⟩ := bind_some h
 refine AC [] (L9 N p2 v1 a1) Tv rfl (Cy rfl (qa rfl (Ad ?_)))
 refine Ao rfl (fun c2 => ?_) (fun c2 => ?_)
 ·have h := Am c2 h
  refine Ab (Aa Ac rfl (C4 Du KX rfl (qs Aw rfl (qa rfl (Ad ?_)))))
  obtain rfl := sj h
  refine Ak ((A1 6 0 2001 1 _ rfl rfl rfl rfl).trans ((A1 6 1 2002 1 _ rfl rfl rfl rfl).trans ((A1 6 2 2003 1 _ rfl rfl rfl rfl).trans (sm [(1000, 2001), (1001, 2002), (1002, 2003)] [(6, .e (.one (.ptr 6 0))), (7, .e (.one (.pure (.val (.int .i64 1)))))] [(6, .box [.own 1000, .own 1001, .own 1002]), (1000, .vec 1 ((([] : List Int)).map Aj)), (1001, .vec 1 ((([] : List Int)).map Aj)), (1002, .vec 1 ((([] : List Int)).map Bs))] rfl rfl)))) (Ax ?_)
  exact ⟨⟨[_, _], ⟨.cellN _ _ _ _ _ _ _ rfl rfl AU Aw rfl rfl (Ka rfl), ⟨.tmp _ _ rfl, trivial⟩⟩, rfl⟩, ⟨rfl, rfl, rfl, trivial⟩⟩
 ·have h := An c2 h
  refine Ab (Aa Ac rfl (qL DO Dz rfl (qL IA Em rfl ?_)))
  obtain ⟨v3, a3, h⟩ := bind_some h
  refine AC [] (K3 N p0 p2 v3 a3) SZ rfl (Cy rfl (qa rfl (Ad ?_)))
  refine Ao rfl (fun c4 => ?_) (fun c4 => ?_)
  ·have h := Am c4 h
   refine Ab (Aa Ac rfl (C4 Du KX rfl (qs Aw rfl (qa rfl (Ad ?_)))))
   obtain rfl := sj h
   refine Ak ((A1 6 0 2004 1 _ rfl rfl rfl rfl).trans ((A1 6 1 2005 1 _ rfl rfl rfl rfl).trans ((A1 6 2 2006 1 _ rfl rfl rfl rfl).trans (sm [(1000, 2004), (1001, 2005), (1002, 2006)] [(6, .e (.one (.ptr 6 0))), (7, .e (.one (.pure (.val (.int .i64 4)))))] [(6, .box [.own 1000, .own 1001, .own 1002]), (1000, .vec 1 ((([] : List Int)).map Aj)), (1001, .vec 1 ((([] : List Int)).map Aj)), (1002, .vec 1 ((([] : List Int)).map Bs))] rfl rfl)))) (Ax ?_)
   exact ⟨⟨[_, _], ⟨.cellN _ _ _ _ _ _ _ rfl rfl AU Aw rfl rfl (Ka rfl), ⟨.tmp _ _ rfl, trivial⟩⟩, rfl⟩, ⟨rfl, rfl, rfl, trivial⟩⟩
  ·have h := An c4 h
   refine Ap (Ab (Aa Ac rfl (qL DO Dz rfl (qL AU Aw rfl (qL IA Em rfl ?_)))))
   obtain ⟨v5, a5, h⟩ := bind_some h
   refine AC [2007, 2008, 2009] (Jo N p0 p1 p2 v5 a5) RJ rfl (qm rfl (qx rfl (qx rfl (qz Du rfl (qs Aw rfl (qa rfl (Ad (Ab (Ab (Aa Ac rfl (qm rfl (Cy rfl (Ad ?_)))))))))))))
   refine Ao rfl (fun c6 => ?_) (fun c6 => ?_)
   ·have h := Am c6 h
    refine Ab (Aa Ac rfl (C4 Du KX rfl (qs Aw rfl (qa rfl (Ad ?_)))))
    obtain rfl := sj h
    refine Ak ((A1 6 0 2010 1 _ rfl rfl rfl rfl).trans ((A1 6 1 2011 1 _ rfl rfl rfl rfl).trans ((A1 6 2 2012 1 _ rfl rfl rfl rfl).trans (sm [(1000, 2010), (1001, 2011), (1002, 2012)] [(6, .e (.one (.ptr 6 0))), (7, .e (.one (.pure (.val (.int .i64 11)))))] [(6, .box [.own 1000, .own 1001, .own 1002]), (1000, .vec 1 ((([] : List Int)).map Aj)), (1001, .vec 1 ((([] : List Int)).map Aj)), (1002, .vec 1 ((([] : List Int)).map Bs))] rfl rfl)))) (Ax ?_)
    exact ⟨⟨[_, _], ⟨.cellN _ _ _ _ _ _ _ rfl rfl AU Aw rfl rfl (Ka rfl), ⟨.tmp _ _ rfl, trivial⟩⟩, rfl⟩, ⟨rfl, rfl, rfl, trivial⟩⟩
   ·have h := An c6 h
    refine Ap (Ab (Aa Ac rfl (qL AU Aw rfl (qs Aw rfl (qa rfl (Ad ?_))))))
    obtain rfl := sj h
    refine Ak (sm [(1000, 2007), (1001, 2008), (1002, 2009)] [(6, .e (.one (.ptr 6 0))), (7, .e (.one (.pure (.val (.int .i64 0)))))] [(6, .box [.own 1000, .own 1001, .own 1002]), (1000, .vec 1 (v5.1.fBase.map Aj)), (1001, .vec 1 (v5.1.fNext.map Aj)), (1002, .vec 1 (v5.1.fHeld.map Bs))] rfl rfl) (Ax ?_)
    exact ⟨⟨[_, _], ⟨.cellN _ _ _ _ _ _ _ rfl rfl AU Aw rfl rfl (Ka rfl), ⟨.tmp _ _ rfl, trivial⟩⟩, rfl⟩, ⟨rfl, rfl, rfl, trivial⟩⟩
set_option maxRecDepth 10000 in
theorem Ma (N : Nat) (p0 : Ai) (p1 : Ae) (p2 : Av) (r : Ae × Int) (h : Hl N p0 p1 p2 = some r) : Az Try.prog 52 [.e (.agg [.pure (.sl (p0.fVersions.map Aj)), .pure (.sl (p0.fNow.map Aj)), .pure (.sl (p0.fTarget.map Aj)), .pure (.sl (p0.fTables.map Aq))]), .e (.agg [.pure (.sl (p1.fBase.map Aj)), .pure (.sl (p1.fNext.map Aj)), .pure (.sl (p1.fHeld.map Bs))]), .e (.agg [.pure (.val (.int .i64 p2.fKind)), .pure (.val (.int .i64 p2.fIndex)), .pure (.val (.int .i64 p2.fVersion))])] [(1, r.1.fBase.map Aj), (1, r.1.fNext.map Aj), (1, r.1.fHeld.map Bs)] (.tup [.agg [.own 0, .own 1, .own 2], .one (.pure (.val (.int .i64 r.2)))]) := by
 unfold Hl at h
 refine Ar (n := 22) (rs := [.cell 6 42, .tmp 7]) Try.func52 rfl rfl rfl (AV rfl) (AV rfl) rfl fun w0 S0 => ?_
 refine Ab (Aa Ac rfl (qb rfl (qb rfl (qb rfl (qz Du rfl (qa rfl (Ad (Ab (Ab (Aa Ac rfl (qL DO Dz rfl (qL AU Aw rfl ?_))))))))))))
 obtain ⟨v1, a1, h⟩ := bind_some h
 refine AC [] (Gn N p0 p1 v1 a1) OV rfl (qa rfl (Ad (Ab (Aa Ac rfl (qm rfl (Cd rfl (Ad ?_)))))))
 refine Ao rfl (fun c2 => ?_) (fun c2 => ?_)
 ·have h := Am c2 h
  refine Ab (Aa Ac rfl (C4 Du KX rfl (qm rfl (qs Aw rfl (qa rfl (Ad ?_))))))
  obtain rfl := sj h
  refine Ak ((A1 6 0 2001 1 _ rfl rfl rfl rfl).trans ((A1 6 1 2002 1 _ rfl rfl rfl rfl).trans ((A1 6 2 2003 1 _ rfl rfl rfl rfl).trans (sm [(1000, 2001), (1001, 2002), (1002, 2003)] [(6, .e (.one (.ptr 6 0))), (7, .e (.one (.pure (.val (.int .i64 v1)))))] [(6, .box [.own 1000, .own 1001, .own 1002]), (1000, .vec 1 ((([] : List Int)).map Aj)), (1001, .vec 1 ((([] : List Int)).map Aj)), (1002, .vec 1 ((([] : List Int)).map Bs))] rfl rfl)))) (Ax ?_)
  exact ⟨⟨[_, _], ⟨.cellN _ _ _ _ _ _ _ rfl rfl AU Aw rfl rfl (Ka rfl), ⟨.tmp _ _ rfl, trivial⟩⟩, rfl⟩, ⟨rfl, rfl, rfl, trivial⟩⟩
 ·have h := An c2 h
  refine Ap (Ab (Aa Ac rfl (qL DO Dz rfl (qL AU Aw rfl (qL IA Em rfl ?_)))))
  obtain ⟨v3, a3, h⟩ := bind_some h
  refine AC [2004, 2005, 2006] (I4 N p0 p1 p2 v3 a3) RQ rfl (qx rfl (qx rfl (qs Aw rfl (qa rfl (Ad ?_)))))
  obtain rfl := sj h
  refine Ak (sm [(1000, 2004), (1001, 2005), (1002, 2006)] [(6, .e (.one (.ptr 6 0))), (7, .e (.one (.pure (.val (.int .i64 v3.2)))))] [(6, .box [.own 1000, .own 1001, .own 1002]), (1000, .vec 1 (v3.1.fBase.map Aj)), (1001, .vec 1 (v3.1.fNext.map Aj)), (1002, .vec 1 (v3.1.fHeld.map Bs))] rfl rfl) (Ax ?_)
  exact ⟨⟨[_, _], ⟨.cellN _ _ _ _ _ _ _ rfl rfl AU Aw rfl rfl (Ka rfl), ⟨.tmp _ _ rfl, trivial⟩⟩, rfl⟩, ⟨rfl, rfl, rfl, trivial⟩⟩
set_option maxRecDepth 10000 in
theorem IU (N : Nat) (p0 : Ai) (p1 : Ae) (r : (List Av) × (List Ae)) (h : Gb N p0 p1 = some r) : Az Try.prog 31 [.e (.agg [.pure (.sl (p0.fVersions.map Aj)), .pure (.sl (p0.fNow.map Aj)), .pure (.sl (p0.fTarget.map Aj)), .pure (.sl (p0.fTables.map Aq))]), .e (.agg [.pure (.sl (p1.fBase.map Aj)), .pure (.sl (p1.fNext.map Aj)), .pure (.sl (p1.fHeld.map Bs))])] [(3, r.1.map AH), (3, r.2.map Af)] (.tup [.one (.own 0), .one (.own 1)]) := by
 unfold Gb at h
 refine Ar (n := 55) (rs := [.tmp 4, .tmp 5]) Try.func31 rfl rfl rfl (AV rfl) (AV rfl) rfl fun w0 S0 => ?_
 refine Ab (Aa Ac rfl (qb rfl (qb rfl (qa rfl (qa rfl (Ad (Ab (Aa Ac rfl (qa rfl (Ad (Ab (Aa Ac rfl (qa rfl (Ad (Ab (Aa Ac rfl (qL DO Dz rfl (qL AU Aw rfl ?_))))))))))))))))))
 obtain ⟨v1, a1, h⟩ := bind_some h
 refine AC [2001] (KH N p0 p1 v1 a1) To rfl (qm rfl (qx rfl (qx rfl (qa rfl (qa rfl (Ad (Ab (Ab (Aa Ac rfl (qm rfl (Dj Dw rfl (qm rfl (Ad ?_)))))))))))))
 refine AB (L := EQ N p0 p1 v1) h (fun v2 => mk [(2, .e (.one (.ptr 2 0))), (3, .e (.one (.ptr 3 0))), (6, .e (.one (.own 2002))), (7, .e (.one (.own 2003))), (22, .e (.one (.own 2004))), (23, .e (.one (.pure (.val (.int .i64 ((v1.1.length : Int))))))), (24, .e (.one (.pure (.val (.int .i64 v2.2.2)))))] [(2, .box [.pure (.sl (p0.fVersions.map Aj)), .pure (.sl (p0.fNow.map Aj)), .pure (.sl (p0.fTarget.map Aj)), .pure (.sl (p0.fTables.map Aq))]), (3, .box [.pure (.sl (p1.fBase.map Aj)), .pure (.sl (p1.fNext.map Aj)), .pure (.sl (p1.fHeld.map Bs))]), (2002, .vec 3 (v2.1.map AH)), (2003, .vec 3 (v2.2.1.map Af)), (2004, .vec 3 (v1.1.map AH))]) (fun v3 => mk [(6, .e (.one (.own 2005))), (7, .e (.one (.own 2006)))] [(2005, .vec 3 (v3.1.map AH)), (2006, .vec 3 (v3.2.map Af))]) (fun _ _ => rfl) ((Ba 6 2013 3 rfl rfl rfl).trans ((Ba 7 2014 3 rfl rfl rfl).trans (sm [(2002, 2013), (2003, 2014), (2004, 2001)] _ _ rfl rfl))) (fun j2 n2 v2 h => ?_) (fun v3 s h hs => ?_)
 ·unfold EQ at h
  refine Ab (Aa Ac rfl (AT rfl (Ad (Ab ?_))))
  refine Ao rfl (fun c4 => ?_) (fun c4 => ?_)
  ·have h := Am c4 h
   refine Ap ?_
   refine AO h (fun v5 => mk [(2, .e (.one (.ptr 2 0))), (3, .e (.one (.ptr 3 0))), (6, .e (.one (.own 2007))), (7, .e (.one (.own 2008))), (22, .e (.one (.own 2009))), (23, .e (.one (.pure (.val (.int .i64 ((v1.1.length : Int))))))), (24, .e (.one (.pure (.val (.int .i64 v2.2.2)))))] [(2, .box [.pure (.sl (p0.fVersions.map Aj)), .pure (.sl (p0.fNow.map Aj)), .pure (.sl (p0.fTarget.map Aj)), .pure (.sl (p0.fTables.map Aq))]), (3, .box [.pure (.sl (p1.fBase.map Aj)), .pure (.sl (p1.fNext.map Aj)), .pure (.sl (p1.fHeld.map Bs))]), (2007, .vec 3 (v5.1.map AH)), (2008, .vec 3 (v5.2.map Af)), (2009, .vec 3 (v1.1.map AH))]) (fun j5 h => ?_) (fun v5 h => ?_)
   ·refine AI (Ab (Aa Ac rfl ?_))
    obtain ⟨v6, a6, b6, h⟩ := Ah h
    refine qI Dw Em a6 (Ag b6) rfl (qJ IA Em (Ag b6) rfl (qz HK rfl (qs Em rfl (Ad (Ab (Aa Ac rfl (qL DO Dz rfl (qL AU Aw rfl (qL IA Em rfl ?_)))))))))
    obtain ⟨v7, a7, h⟩ := bind_some h
    refine AC [2010, 2011, 2012] (Ma N p0 p1 v6 v7 a7) Tk rfl (qm rfl (qx rfl (qx rfl (qz Du rfl (qs Aw rfl (qa rfl (Ad (Ab (Ab (Aa Ac rfl (qm rfl (Cd rfl (Ad ?_)))))))))))))
    refine Ao rfl (fun c8 => ?_) (fun c8 => ?_)
    ·have h := Am c8 h
     refine AS ?_
     exact As _ h (sm [(2007, 2002), (2008, 2003), (2009, 2004)] _ _ rfl rfl)
    ·have h := An c8 h
     refine Ap (Ab (Aa Ac rfl (qL DO Dz rfl (qL AU Aw rfl ?_))))
     obtain ⟨v9, a9, h⟩ := bind_some h
     refine Fb [] [2010, 2011, 2012] (HT N p0 v7.1 v9 a9) QB DR rfl (qm rfl (qx rfl (qx rfl (qa rfl (qa rfl (Ad (Ab (Aa Ac rfl (qm rfl (Ad ?_))))))))))
     refine Ao rfl (fun c10 => ?_) (fun c10 => ?_)
     ·have h := Am c10 h
      refine Ak (A3 2010 _ _ rfl rfl) (Ak (A3 2011 _ _ rfl rfl) (Ak (A3 2012 _ _ rfl rfl) (Aa Ac rfl (qm rfl (qL IA Em rfl (Er Dw Em HK rfl ?_))))))
      obtain ⟨c11, h⟩ := AM h
      refine DE (f := AH) Dw Dw Em Mj HK c11 rfl (qm rfl (qL AU Aw rfl (Er AD Aw Du rfl ?_)))
      obtain ⟨c12, h⟩ := AM h
      refine DE (f := Af) AD AD Aw Lc Du c12 rfl (qa rfl (qa rfl (AF (by kernel_rfl) ?_)))
      exact As _ h (sm [(2007, 47), (2008, 51), (2009, 2004)] _ _ rfl rfl)
     ·have h := An c10 h
      refine Ap ?_
      exact As _ h (sm [(2007, 2002), (2008, 2003), (2009, 2004)] _ _ rfl rfl)
   ·refine Aa Ac rfl (AQ rfl (qm rfl (Ad ?_)))
    exact As _ h (sm [(2002, 2007), (2003, 2008), (2004, 2009)] _ _ rfl rfl)
  ·have h := An c4 h
   refine AS ?_
   exact As _ h (sm [(2005, 2002), (2006, 2003)] _ _ rfl rfl)
 ·refine Ak hs (Ab (Aa Ac rfl (qm rfl (qm rfl (qa rfl (qa rfl (Ad ?_)))))))
  obtain rfl := sj h
  refine Ak (sm [(1000, 2005), (1001, 2006)] [(4, .e (.one (.own 1000))), (5, .e (.one (.own 1001)))] [(1000, .vec 3 (v3.1.map AH)), (1001, .vec 3 (v3.2.map Af))] rfl rfl) (Ax ?_)
  exact ⟨⟨[_, _], ⟨.tmp _ _ rfl, ⟨.tmp _ _ rfl, trivial⟩⟩, rfl⟩, ⟨rfl, rfl, trivial⟩⟩
set_option maxRecDepth 10000 in
theorem Jf (N : Nat) (p0 : Int) (r : Int) (h : Fl N p0 = some r) : Az Try.prog 70 [.e (.one (.pure (.val (.int .u32 p0))))] [] (.e (.one (.pure (.val (.int .i64 r))))) := by
 unfold Fl at h
 refine Ar (n := 19) (rs := [.tmp 2]) Try.func70 rfl rfl rfl (AV rfl) (AV rfl) rfl fun w0 S0 => ?_
 refine Ab (Aa Ac rfl (qa rfl (Ad ?_)))
 refine AO h (fun v1 => mk [(0, .e (.one (.pure (.val (.int .u32 v1.1))))), (2, .e (.one (.pure (.val (.int .i64 v1.2)))))] []) (fun j1 h => ?_) (fun v1 h => ?_)
 ·refine Ab (Aa Ac rfl (qm rfl (Dl rfl (Ad ?_))))
  refine Ao rfl (fun c2 => ?_) (fun c2 => ?_)
  ·have h := Am c2 h
   refine Ab (Aa Ac rfl (qm rfl (Gj rfl (by decide) (qa rfl (Ad (Aa Ac rfl (qa rfl (Ad ?_))))))))
   exact As _ h (sm [] _ _ rfl rfl)
  ·have h := An c2 h
   refine Ap ?_
   exact As _ h (sm [] _ _ rfl rfl)
 ·refine AO h (fun v3 => mk [(0, .e (.one (.pure (.val (.int .u32 v3.1))))), (2, .e (.one (.pure (.val (.int .i64 v3.2)))))] []) (fun j3 h => ?_) (fun v3 h => ?_)
  ·refine Ab (Aa Ac rfl (qm rfl (Dl rfl (Ad ?_))))
   refine Ao rfl (fun c4 => ?_) (fun c4 => ?_)
   ·have h := Am c4 h
    refine Ab (Aa Ac rfl (qm rfl (Gj rfl (by decide) (qa rfl (Ad (Aa Ac rfl (qm rfl (AQ rfl (qa rfl (Ad ?_))))))))))
    exact As _ h (sm [] _ _ rfl rfl)
   ·have h := An c4 h
    refine Ap ?_
    exact As _ h (sm [] _ _ rfl rfl)
  ·refine Ab (Aa Ac rfl (qm rfl (qm rfl (FH MF Sq rfl ?_))))
   obtain ⟨v5, a5, h⟩ := bind_some h
   refine JH (.p rfl) rfl rfl Pz a5 ?_
   refine FH PT O1 rfl (AQ rfl (qa rfl (Ad ?_)))
   obtain rfl := sj h
   refine Ak (sm [] [(2, .e (.one (.pure (.val (.int .i64 ((IntKind.wrap .i64 (v3.2 + (IntKind.wrap .i64 v5)))))))))] [] rfl rfl) (Ax ?_)
   exact ⟨⟨[_], ⟨.tmp _ _ rfl, trivial⟩, rfl⟩, trivial⟩
set_option maxRecDepth 10000 in
theorem I8 (N : Nat) (p0 : Int) (r : Int) (h : Fp N p0 = some r) : Az Try.prog 71 [.e (.one (.pure (.val (.int .u64 p0))))] [] (.e (.one (.pure (.val (.int .i64 r))))) := by
 unfold Fp at h
 refine Ar (n := 25) (rs := [.tmp 2]) Try.func71 rfl rfl rfl (AV rfl) (AV rfl) rfl fun w0 S0 => ?_
 refine Ab (Aa Ac rfl (qa rfl (Ad ?_)))
 refine AO h (fun v1 => mk [(0, .e (.one (.pure (.val (.int .u64 v1.1))))), (2, .e (.one (.pure (.val (.int .i64 v1.2)))))] []) (fun j1 h => ?_) (fun v1 h => ?_)
 ·refine Ab (Aa Ac rfl (qm rfl (Dl rfl (Ad ?_))))
  refine Ao rfl (fun c2 => ?_) (fun c2 => ?_)
  ·have h := Am c2 h
   refine Ab (Aa Ac rfl (qm rfl (Gj rfl (by decide) (qa rfl (Ad (Aa Ac rfl (qa rfl (Ad ?_))))))))
   exact As _ h (sm [] _ _ rfl rfl)
  ·have h := An c2 h
   refine Ap ?_
   exact As _ h (sm [] _ _ rfl rfl)
 ·refine AO h (fun v3 => mk [(0, .e (.one (.pure (.val (.int .u64 v3.1))))), (2, .e (.one (.pure (.val (.int .i64 v3.2)))))] []) (fun j3 h => ?_) (fun v3 h => ?_)
  ·refine Ab (Aa Ac rfl (qm rfl (Dl rfl (Ad ?_))))
   refine Ao rfl (fun c4 => ?_) (fun c4 => ?_)
   ·have h := Am c4 h
    refine Ab (Aa Ac rfl (qm rfl (Gj rfl (by decide) (qa rfl (Ad (Aa Ac rfl (qm rfl (AQ rfl (qa rfl (Ad ?_))))))))))
    exact As _ h (sm [] _ _ rfl rfl)
   ·have h := An c4 h
    refine Ap ?_
    exact As _ h (sm [] _ _ rfl rfl)
  ·refine AO h (fun v5 => mk [(0, .e (.one (.pure (.val (.int .u64 v5.1))))), (2, .e (.one (.pure (.val (.int .i64 v5.2)))))] []) (fun j5 h => ?_) (fun v5 h => ?_)
   ·refine Ab (Aa Ac rfl (qm rfl (Dl rfl (Ad ?_))))
    refine Ao rfl (fun c6 => ?_) (fun c6 => ?_)
    ·have h := Am c6 h
     refine Ab (Aa Ac rfl (qm rfl (Gj rfl (by decide) (qa rfl (Ad (Aa Ac rfl (qm rfl (AQ rfl (qa rfl (Ad ?_))))))))))
     exact As _ h (sm [] _ _ rfl rfl)
    ·have h := An c6 h
     refine Ap ?_
     exact As _ h (sm [] _ _ rfl rfl)
   ·refine Ab (Aa Ac rfl (qm rfl (qm rfl (FH OH Sq rfl ?_))))
    obtain ⟨v7, a7, h⟩ := bind_some h
    refine JH (.p rfl) rfl rfl Pz a7 ?_
    refine FH PT O1 rfl (AQ rfl (qa rfl (Ad ?_)))
    obtain rfl := sj h
    refine Ak (sm [] [(2, .e (.one (.pure (.val (.int .i64 ((IntKind.wrap .i64 (v5.2 + (IntKind.wrap .i64 v7)))))))))] [] rfl rfl) (Ax ?_)
    exact ⟨⟨[_], ⟨.tmp _ _ rfl, trivial⟩, rfl⟩, trivial⟩
set_option maxRecDepth 10000 in
theorem H4 (N : Nat) (p0 : Int) (r : Int) (h : EV N p0 = some r) : Az Try.prog 46 [.e (.one (.pure (.val (.int .u64 p0))))] [] (.e (.one (.pure (.val (.int .i64 r))))) := by
 unfold EV at h
 refine Ar (n := 8) (rs := [.tmp 2]) Try.func46 rfl rfl rfl (AV rfl) (AV rfl) rfl fun w0 S0 => ?_
 refine Ab (Aa Ac rfl (qa rfl (Ad (Ab ?_))))
 refine Ao rfl (fun c1 => ?_) (fun c1 => ?_)
 ·have h := Am c1 h
  refine Ab (Aa Ac rfl (qm rfl (FH Ox ME rfl ?_)))
  obtain ⟨v2, a2, h⟩ := bind_some h
  refine AC [] (Jf N ((IntKind.wrap .u32 p0)) v2 a2) SO rfl (qa rfl (Ad ?_))
  obtain rfl := sj h
  refine Ak (sm [] [(2, .e (.one (.pure (.val (.int .i64 v2)))))] [] rfl rfl) (Ax ?_)
  exact ⟨⟨[_], ⟨.tmp _ _ rfl, trivial⟩, rfl⟩, trivial⟩
 ·have h := An c1 h
  refine Ap (Ab (Aa Ac rfl (qm rfl ?_)))
  obtain ⟨v3, a3, h⟩ := bind_some h
  refine AC [] (I8 N p0 v3 a3) S1 rfl (qa rfl (Ad ?_))
  obtain rfl := sj h
  refine Ak (sm [] [(2, .e (.one (.pure (.val (.int .i64 v3)))))] [] rfl rfl) (Ax ?_)
  exact ⟨⟨[_], ⟨.tmp _ _ rfl, trivial⟩, rfl⟩, trivial⟩
set_option maxRecDepth 10000 in
theorem EW (N : Nat) (p0 : List Ae) (p1 : Int) (p2 : Int) (p3 : (Ae × Ae) → Option Int) (r : (List Ae)) (h : Cz N p0 p1 p2 p3 = some r) : Bn Try.prog 62 [.e (.one (.own 90000)), .e (.one (.pure (.val (.int .i64 p1)))), .e (.one (.pure (.val (.int .i64 p2)))), .e (.one (.clo (BD (Dv true Af true Af) Co p3)))] [(.vec 3 (p0.map Af), .vec 3 (r.map Af))] [] (.tup []) := by
 unfold Cz at h
 refine Bf (n := 53) (rs := []) Try.func62 rfl rfl rfl (AV rfl) (AV rfl) rfl rfl (AV rfl) rfl (AV rfl) fun w0 S0 GL => KV ?_
 refine Ak (sm [] [(0, .e (.one (.own 90000))), (1, .e (.one (.pure (.val (.int .i64 p1))))), (2, .e (.one (.pure (.val (.int .i64 p2))))), (3, .e (.one (.clo (BD (Dv true Af true Af) Co p3))))] [(90000, .vec 3 (p0.map Af))] rfl rfl) (Ab (Aa Ac rfl (qm rfl (AQ rfl (qa rfl (Ad ?_))))))
 refine AB (L := BE N p1 p2 p3) h (fun v1 => mk [(0, .e (.one (.own 90000))), (1, .e (.one (.pure (.val (.int .i64 p1))))), (2, .e (.one (.pure (.val (.int .i64 p2))))), (3, .e (.one (.clo (BD (Dv true Af true Af) Co p3)))), (8, .e (.one (.pure (.val (.int .i64 v1.2)))))] [(90000, .vec 3 (v1.1.map Af))]) (fun v2 => mk [] [(90000, .vec 3 (v2.map Af))]) (fun _ _ => rfl) (sm [] _ _ rfl rfl) (fun j1 n1 v1 h => ?_) (fun v2 s h hs => ?_)
 ·unfold BE at h
  refine Ab (Ab (Aa Ac rfl (qm rfl (qm rfl (AT rfl (Ad ?_))))))
  refine Ao rfl (fun c3 => ?_) (fun c3 => ?_)
  ·have h := Am c3 h
   refine Ap (Ab (AI (Ab (Aa Ac rfl (qm rfl (qa rfl (Ad ?_)))))))
   refine AB (L := BG N p1 p3) h (fun v4 => mk [(0, .e (.one (.own 90000))), (1, .e (.one (.pure (.val (.int .i64 p1))))), (2, .e (.one (.pure (.val (.int .i64 p2))))), (3, .e (.one (.clo (BD (Dv true Af true Af) Co p3)))), (8, .e (.one (.pure (.val (.int .i64 v1.2))))), (9, .e (.one (.pure (.val (.int .i64 v4.2)))))] [(90000, .vec 3 (v4.1.map Af))]) (fun v5 => mk [(0, .e (.one (.own 90000))), (1, .e (.one (.pure (.val (.int .i64 p1))))), (2, .e (.one (.pure (.val (.int .i64 p2))))), (3, .e (.one (.clo (BD (Dv true Af true Af) Co p3)))), (8, .e (.one (.pure (.val (.int .i64 v1.2)))))] [(90000, .vec 3 (v5.map Af))]) (fun _ _ => rfl) (sm [] _ _ rfl rfl) (fun j4 n4 v4 h => ?_) (fun v5 s h hs => ?_)
   ·unfold BG at h
    refine Ab ?_
    refine AO h (fun v6 => mk [(0, .e (.one (.own 90000))), (1, .e (.one (.pure (.val (.int .i64 p1))))), (2, .e (.one (.pure (.val (.int .i64 p2))))), (3, .e (.one (.clo (BD (Dv true Af true Af) Co p3)))), (8, .e (.one (.pure (.val (.int .i64 v1.2))))), (9, .e (.one (.pure (.val (.int .i64 v4.2))))), (34, .e (.one (.pure (.val (.bool v6)))))] [(90000, .vec 3 (v4.1.map Af))]) (fun j6 h => ?_) (fun v6 h => ?_)
    ·refine Aa Ac rfl (qm rfl (qm rfl (Es rfl (qm rfl ?_))))
     refine AA (t := 21) rfl (fun c7 => ?_) (fun c7 => ?_)
     ·have h := Am c7 h
      refine qm rfl (qm rfl (qm rfl ?_))
      obtain ⟨v8, a8, b8, h⟩ := Ah h
      refine qI AD Aw a8 (Ag b8) rfl (qJ AU Aw (Ag b8) rfl (qm rfl (qm rfl (Cl rfl ?_))))
      obtain ⟨v9, a9, b9, h⟩ := Ah h
      refine qI AD Aw a9 (Ag b9) rfl (qJ AU Aw (Ag b9) rfl ?_)
      obtain ⟨v10, a10, h⟩ := bind_some h
      refine Dy (ds0 := [_, _]) (ar := (Dv true Af true Af) ((v8, v9))) (.g rfl rfl) rfl rfl ⟨rfl, rfl, trivial⟩ rfl rfl rfl (DA (Eb _ _ _ _ Bc Bc) a10) ?_
      refine AT rfl (qp rfl (AF (by kernel_rfl) ?_))
      exact As _ h (sm [] _ _ rfl rfl)
     ·have h := An c7 h
      refine qn rfl (qn rfl (qn rfl (qn rfl (qn rfl (qn rfl (qn rfl (qn rfl (qn rfl (qn rfl (qn rfl (qn rfl (qp rfl (AF (by kernel_rfl) ?_)))))))))))))
      exact As _ h (sm [] _ _ rfl rfl)
    ·refine Ao rfl (fun c11 => ?_) (fun c11 => ?_)
     ·have h := Am c11 h
      refine Ap (Ab (AI (Aa Ac rfl (qm rfl (qm rfl (qm rfl (qm rfl (Cl rfl (qm rfl (qm rfl (Cl rfl ?_)))))))))))
      obtain ⟨v12, a12, b12, h⟩ := Ah h
      refine qI AD Aw a12 (Ag b12) rfl (qJ AU Aw (Ag b12) rfl (qm rfl (qm rfl ?_)))
      obtain ⟨v13, a13, b13, h⟩ := Ah h
      refine qI AD Aw a13 (Ag b13) rfl (qJ AU Aw (Ag b13) rfl ?_)
      obtain ⟨v14, a14, b14, h⟩ := Ah h
      refine qI AD Aw a14 (Ag b14) rfl ?_
      refine AX rfl rfl rfl rfl (Ag b14) rfl Aw rfl (AV rfl) (AY Af v4.1 _ v12) ?_
      obtain ⟨v15, a15, b15, h⟩ := Ah h
      refine qI AD Aw a15 (Ag b15) rfl ?_
      refine AX rfl rfl rfl rfl (Ag b15) rfl Aw rfl (AV rfl) (AY Af (v4.1.set ((v4.2).toNat) v12) _ v13) ?_
      refine AF (by kernel_rfl) (Aa Ac rfl (qm rfl (Cl rfl (qa rfl (Ad ?_)))))
      exact As _ h (sm [] _ _ rfl rfl)
     ·have h := An c11 h
      refine AS ?_
      exact As _ h (sm [] _ _ rfl rfl)
   ·refine Ak hs (Aa Ac rfl (qm rfl (AQ rfl (qa rfl (Ad ?_)))))
    exact As _ h (sm [] _ _ rfl rfl)
  ·have h := An c3 h
   refine AS ?_
   exact As _ h (sm [] _ _ rfl rfl)
 ·obtain rfl := sj h
  refine ⟨_, hs.trans (sm [] [] [(90000, .vec 3 (v2.map Af))] rfl rfl), ?_⟩
  exact ⟨⟨[], trivial, rfl⟩, ⟨rfl, trivial⟩, trivial⟩
set_option maxRecDepth 10000 in
theorem DX (N : Nat) (p0 : List Ae) (p1 : Int) (p2 : Int) (p3 : Int) (p4 : (Ae × Ae) → Option Int) (r : (List Ae)) (h : Cq N p0 p1 p2 p3 p4 = some r) : Bn Try.prog 84 [.e (.one (.own 90000)), .e (.one (.pure (.val (.int .i64 p1)))), .e (.one (.pure (.val (.int .i64 p2)))), .e (.one (.pure (.val (.int .i64 p3)))), .e (.one (.clo (BD (Dv true Af true Af) Co p4)))] [(.vec 3 (p0.map Af), .vec 3 (r.map Af))] [] (.tup []) := by
 unfold Cq at h
 refine Bf (n := 82) (rs := []) Try.func84 rfl rfl rfl (AV rfl) (AV rfl) rfl rfl (AV rfl) rfl (AV rfl) fun w0 S0 GL => KV ?_
 refine Ak (sm [] [(0, .e (.one (.own 90000))), (1, .e (.one (.pure (.val (.int .i64 p1))))), (2, .e (.one (.pure (.val (.int .i64 p2))))), (3, .e (.one (.pure (.val (.int .i64 p3))))), (4, .e (.one (.clo (BD (Dv true Af true Af) Co p4))))] [(90000, .vec 3 (p0.map Af))] rfl rfl) (Ab (Aa Ac rfl (qm rfl (qa rfl (Ad ?_)))))
 refine AB (L := Ca N p2 p3 p4) h (fun v1 => mk [(0, .e (.one (.own 90000))), (2, .e (.one (.pure (.val (.int .i64 p2))))), (3, .e (.one (.pure (.val (.int .i64 p3))))), (4, .e (.one (.clo (BD (Dv true Af true Af) Co p4)))), (10, .e (.one (.pure (.val (.int .i64 v1.2)))))] [(90000, .vec 3 (v1.1.map Af))]) (fun v2 => mk [] [(90000, .vec 3 (v2.map Af))]) (fun _ _ => rfl) (sm [] _ _ rfl rfl) (fun j1 n1 v1 h => ?_) (fun v2 s h hs => ?_)
 ·unfold Ca at h
  refine AI (Ab (Aa Ac rfl (qm rfl (G6 rfl (AQ rfl (qa rfl (Ad (Ab (Ab (Aa Ac rfl (qm rfl (qm rfl (Dl rfl (Ad ?_))))))))))))))
  refine Ao rfl (fun c3 => ?_) (fun c3 => ?_)
  ·have h := Am c3 h
   refine AS ?_
   exact As _ h (sm [] _ _ rfl rfl)
  ·have h := An c3 h
   refine Ap ?_
   refine AO h (fun v4 => mk [(0, .e (.one (.own 90000))), (2, .e (.one (.pure (.val (.int .i64 p2))))), (3, .e (.one (.pure (.val (.int .i64 p3))))), (4, .e (.one (.clo (BD (Dv true Af true Af) Co p4)))), (10, .e (.one (.pure (.val (.int .i64 v1.2))))), (11, .e (.one (.pure (.val (.int .i64 v4)))))] [(90000, .vec 3 (v1.1.map Af))]) (fun j4 h => ?_) (fun v4 h => ?_)
   ·refine AO h (fun v5 => mk [(0, .e (.one (.own 90000))), (2, .e (.one (.pure (.val (.int .i64 p2))))), (3, .e (.one (.pure (.val (.int .i64 p3))))), (4, .e (.one (.clo (BD (Dv true Af true Af) Co p4)))), (10, .e (.one (.pure (.val (.int .i64 v1.2))))), (11, .e (.one (.pure (.val (.int .i64 ((IntKind.wrap .i64 ((IntKind.wrap .i64 (2 * v1.2)) + 1)))))))), (40, .e (.one (.pure (.val (.bool v5)))))] [(90000, .vec 3 (v1.1.map Af))]) (fun j5 h => ?_) (fun v5 h => ?_)
    ·refine Aa Ac rfl (qm rfl (AQ rfl (qm rfl (AT rfl (qm rfl ?_)))))
     refine AA (t := 23) rfl (fun c6 => ?_) (fun c6 => ?_)
     ·have h := Am c6 h
      refine qm rfl (qm rfl (qm rfl (qm rfl (AQ rfl ?_))))
      obtain ⟨v7, a7, b7, h⟩ := Ah h
      refine qI AD Aw a7 (Ag b7) rfl (qJ AU Aw (Ag b7) rfl (qm rfl (qm rfl (qm rfl (AQ rfl (AQ rfl ?_))))))
      obtain ⟨v8, a8, b8, h⟩ := Ah h
      refine qI AD Aw a8 (Ag b8) rfl (qJ AU Aw (Ag b8) rfl ?_)
      obtain ⟨v9, a9, h⟩ := bind_some h
      refine Dy (ds0 := [_, _]) (ar := (Dv true Af true Af) ((v7, v8))) (.g rfl rfl) rfl rfl ⟨rfl, rfl, trivial⟩ rfl rfl rfl (DA (Eb _ _ _ _ Bc Bc) a9) ?_
      refine AT rfl (qp rfl (AF (by kernel_rfl) ?_))
      exact As _ h (sm [] _ _ rfl rfl)
     ·have h := An c6 h
      refine qn rfl (qn rfl (qn rfl (qn rfl (qn rfl (qn rfl (qn rfl (qn rfl (qn rfl (qn rfl (qn rfl (qn rfl (qn rfl (qn rfl (qn rfl (qn rfl (qp rfl (AF (by kernel_rfl) ?_)))))))))))))))))
      exact As _ h (sm [] _ _ rfl rfl)
    ·refine Ao rfl (fun c10 => ?_) (fun c10 => ?_)
     ·have h := Am c10 h
      refine Aa Ac rfl (qm rfl (AQ rfl (qa rfl (Ad ?_))))
      exact As _ h (sm [] _ _ rfl rfl)
     ·have h := An c10 h
      refine Ap ?_
      exact As _ h (sm [] _ _ rfl rfl)
   ·refine Ab (Ab (Aa Ac rfl (qm rfl (qm rfl (qm rfl (qm rfl (AQ rfl ?_)))))))
    obtain ⟨v11, a11, b11, h⟩ := Ah h
    refine qI AD Aw a11 (Ag b11) rfl (qJ AU Aw (Ag b11) rfl (qm rfl (qm rfl (qm rfl (AQ rfl ?_)))))
    obtain ⟨v12, a12, b12, h⟩ := Ah h
    refine qI AD Aw a12 (Ag b12) rfl (qJ AU Aw (Ag b12) rfl ?_)
    obtain ⟨v13, a13, h⟩ := bind_some h
    refine Dy (ds0 := [_, _]) (ar := (Dv true Af true Af) ((v11, v12))) (.p rfl) rfl rfl ⟨rfl, rfl, trivial⟩ rfl rfl rfl (DA (Eb _ _ _ _ Bc Bc) a13) ?_
    refine AT rfl (Cy rfl (AF (by kernel_rfl) ?_))
    refine Ao rfl (fun c14 => ?_) (fun c14 => ?_)
    ·have h := Am c14 h
     obtain rfl := sj h
     refine Ax ⟨_, (sm [] [] [(90000, .vec 3 (v1.1.map Af))] rfl rfl), ?_⟩
     exact ⟨⟨[], trivial, rfl⟩, ⟨rfl, trivial⟩, trivial⟩
    ·have h := An c14 h
     refine Ap (Ab (Aa Ac rfl (qm rfl (qm rfl (qm rfl (AQ rfl (qm rfl (qm rfl (qm rfl (AQ rfl (qm rfl (qm rfl (qm rfl (AQ rfl ?_))))))))))))))
     obtain ⟨v15, a15, b15, h⟩ := Ah h
     refine qI AD Aw a15 (Ag b15) rfl (qJ AU Aw (Ag b15) rfl (qm rfl (qm rfl (qm rfl (AQ rfl ?_)))))
     obtain ⟨v16, a16, b16, h⟩ := Ah h
     refine qI AD Aw a16 (Ag b16) rfl (qJ AU Aw (Ag b16) rfl ?_)
     obtain ⟨v17, a17, b17, h⟩ := Ah h
     refine qI AD Aw a17 (Ag b17) rfl ?_
     refine AX rfl rfl rfl rfl (Ag b17) rfl Aw rfl (AV rfl) (AY Af v1.1 _ v15) ?_
     obtain ⟨v18, a18, b18, h⟩ := Ah h
     refine qI AD Aw a18 (Ag b18) rfl ?_
     refine AX rfl rfl rfl rfl (Ag b18) rfl Aw rfl (AV rfl) (AY Af (v1.1.set (((IntKind.wrap .i64 (p3 + v1.2))).toNat) v15) _ v16) ?_
     refine AF (by kernel_rfl) (Aa Ac rfl (qm rfl (qa rfl (Ad ?_))))
     exact As _ h (sm [] _ _ rfl rfl)
 ·obtain rfl := sj h
  refine ⟨_, hs.trans (sm [] [] [(90000, .vec 3 (v2.map Af))] rfl rfl), ?_⟩
  exact ⟨⟨[], trivial, rfl⟩, ⟨rfl, trivial⟩, trivial⟩
set_option maxRecDepth 10000 in
theorem FP (N : Nat) (p0 : List Ae) (p1 : Int) (p2 : Int) (p3 : (Ae × Ae) → Option Int) (r : (List Ae)) (h : CX N p0 p1 p2 p3 = some r) : Bn Try.prog 63 [.e (.one (.own 90000)), .e (.one (.pure (.val (.int .i64 p1)))), .e (.one (.pure (.val (.int .i64 p2)))), .e (.one (.clo (BD (Dv true Af true Af) Co p3)))] [(.vec 3 (p0.map Af), .vec 3 (r.map Af))] [] (.tup []) := by
 unfold CX at h
 refine Bf (n := 60) (rs := []) Try.func63 rfl rfl rfl (AV rfl) (AV rfl) rfl rfl (AV rfl) rfl (AV rfl) fun w0 S0 GL => KV ?_
 refine Ak (sm [] [(0, .e (.one (.own 90000))), (1, .e (.one (.pure (.val (.int .i64 p1))))), (2, .e (.one (.pure (.val (.int .i64 p2))))), (3, .e (.one (.clo (BD (Dv true Af true Af) Co p3))))] [(90000, .vec 3 (p0.map Af))] rfl rfl) (Ab (Aa Ac rfl (qm rfl (qa rfl (Ad (Ab (Aa Ac rfl (qa rfl (Ad (Ab (Aa Ac rfl (qm rfl (qm rfl (Cl rfl (qa rfl (Ad (Ab (Ab (Aa Ac rfl (qm rfl (Cl rfl (KU rfl (by decide) (qa rfl (Ad ?_))))))))))))))))))))))))
 refine AB (L := Cb N p1 p2 p3) h (fun v1 => mk [(0, .e (.one (.own 90000))), (3, .e (.one (.clo (BD (Dv true Af true Af) Co p3)))), (8, .e (.one (.pure (.val (.int .i64 p1))))), (9, .e (.one (.pure (.val (.int .i64 0))))), (10, .e (.one (.pure (.val (.int .i64 ((IntKind.wrap .i64 (p2 - p1)))))))), (11, .e (.one (.pure (.val (.int .i64 v1.2)))))] [(90000, .vec 3 (v1.1.map Af))]) (fun v2 => mk [(0, .e (.one (.own 90000))), (3, .e (.one (.clo (BD (Dv true Af true Af) Co p3)))), (8, .e (.one (.pure (.val (.int .i64 p1))))), (9, .e (.one (.pure (.val (.int .i64 0))))), (10, .e (.one (.pure (.val (.int .i64 ((IntKind.wrap .i64 (p2 - p1))))))))] [(90000, .vec 3 (v2.map Af))]) (fun _ _ => rfl) (sm [] _ _ rfl rfl) (fun j1 n1 v1 h => ?_) (fun v2 s h hs => ?_)
 ·unfold Cb at h
  refine Ab (Ab (Aa Ac rfl (qm rfl (Dl rfl (Ad ?_)))))
  refine Ao rfl (fun c3 => ?_) (fun c3 => ?_)
  ·have h := Am c3 h
   refine Ap (Ab (AI (Aa Ac rfl (qm rfl (qm rfl (qm rfl (qm rfl (qm rfl ?_))))))))
   obtain ⟨v4, a4, h⟩ := bind_some h
   refine CH (ds0 := [_, _, _, _, _]) [90000] [] [true] (DX N v1.1 v1.2 ((IntKind.wrap .i64 (p2 - p1))) p1 p3 v4 a4) (.p rfl) Ry rfl ⟨rfl, rfl, rfl, rfl, rfl, trivial⟩ rfl rfl (by decide) ⟨rfl, trivial⟩ rfl (A2 rfl) trivial ⟨(fun h => by cases h), trivial⟩ rfl rfl rfl ?_
   refine Ad (Aa Ac rfl (qm rfl (Cl rfl (qa rfl (Ad ?_)))))
   exact As _ h (sm [] _ _ rfl rfl)
  ·have h := An c3 h
   refine AS ?_
   exact As _ h (sm [] _ _ rfl rfl)
 ·refine Ak hs (Ab (Aa Ac rfl (qm rfl (Cl rfl (qa rfl (Ad ?_))))))
  refine AB (L := B7 N p1 p3) h (fun v5 => mk [(0, .e (.one (.own 90000))), (3, .e (.one (.clo (BD (Dv true Af true Af) Co p3)))), (8, .e (.one (.pure (.val (.int .i64 p1))))), (9, .e (.one (.pure (.val (.int .i64 0))))), (12, .e (.one (.pure (.val (.int .i64 v5.2)))))] [(90000, .vec 3 (v5.1.map Af))]) (fun v6 => mk [] [(90000, .vec 3 (v6.map Af))]) (fun _ _ => rfl) (sm [] _ _ rfl rfl) (fun j5 n5 v5 h => ?_) (fun v6 s h hs => ?_)
  ·unfold B7 at h
   refine Ab (Ab (Aa Ac rfl (qm rfl (Dl rfl (Ad ?_)))))
   refine Ao rfl (fun c7 => ?_) (fun c7 => ?_)
   ·have h := Am c7 h
    refine Ap (Ab (AI (Ab (Aa Ac rfl (qm rfl (qm rfl (qm rfl (qm rfl (qm rfl (AQ rfl (qm rfl (qm rfl (qm rfl (AQ rfl ?_))))))))))))))
    obtain ⟨v8, a8, b8, h⟩ := Ah h
    refine qI AD Aw a8 (Ag b8) rfl (qJ AU Aw (Ag b8) rfl (qm rfl (qm rfl ?_)))
    obtain ⟨v9, a9, b9, h⟩ := Ah h
    refine qI AD Aw a9 (Ag b9) rfl (qJ AU Aw (Ag b9) rfl ?_)
    obtain ⟨v10, a10, b10, h⟩ := Ah h
    refine qI AD Aw a10 (Ag b10) rfl ?_
    refine AX rfl rfl rfl rfl (Ag b10) rfl Aw rfl (AV rfl) (AY Af v5.1 _ v8) ?_
    obtain ⟨v11, a11, b11, h⟩ := Ah h
    refine qI AD Aw a11 (Ag b11) rfl ?_
    refine AX rfl rfl rfl rfl (Ag b11) rfl Aw rfl (AV rfl) (AY Af (v5.1.set ((p1).toNat) v8) _ v9) ?_
    refine AF (by kernel_rfl) (Aa Ac rfl (qm rfl (qm rfl (qm rfl (qm rfl (qm rfl ?_))))))
    obtain ⟨v12, a12, h⟩ := bind_some h
    refine CH (ds0 := [_, _, _, _, _]) [90000] [] [true] (DX N ((v5.1.set ((p1).toNat) v8).set (((IntKind.wrap .i64 (p1 + v5.2))).toNat) v9) 0 v5.2 p1 p3 v12 a12) (.p rfl) Ry rfl ⟨rfl, rfl, rfl, rfl, rfl, trivial⟩ rfl rfl (by decide) ⟨rfl, trivial⟩ rfl (A2 rfl) trivial ⟨(fun h => by cases h), trivial⟩ rfl rfl rfl ?_
    refine Ad (Aa Ac rfl (qm rfl (Cl rfl (qa rfl (Ad ?_)))))
    exact As _ h (sm [] _ _ rfl rfl)
   ·have h := An c7 h
    refine AS ?_
    exact As _ h (sm [] _ _ rfl rfl)
  ·obtain rfl := sj h
   refine ⟨_, hs.trans (sm [] [] [(90000, .vec 3 (v6.map Af))] rfl rfl), ?_⟩
   exact ⟨⟨[], trivial, rfl⟩, ⟨rfl, trivial⟩, trivial⟩
set_option maxRecDepth 10000 in
theorem HD (N : Nat) (p0 : Int) (r : Int) (h : D6 N p0 = some r) : Az Try.prog 85 [.e (.one (.pure (.val (.int .i64 p0))))] [] (.e (.one (.pure (.val (.int .u64 r))))) := by
 unfold D6 at h
 refine Ar (n := 7) (rs := [.tmp 2]) Try.func85 rfl rfl rfl (AV rfl) (AV rfl) rfl fun w0 S0 => ?_
 refine Ab (Aa Ac rfl (qa rfl (Ad (Ab (Aa Ac rfl (qm rfl (FH Q6 NT rfl ?_)))))))
 obtain ⟨v1, a1, h⟩ := bind_some h
 refine AC [] (H4 N ((IntKind.wrap .u64 p0)) v1 a1) So rfl ?_
 obtain ⟨c2, h⟩ := AM h
 refine Gz rfl c2 (qa rfl (Ad ?_))
 obtain rfl := sj h
 refine Ak (sm [] [(2, .e (.one (.pure (.val (.int .u64 ((Cn .u64 1 v1)))))))] [] rfl rfl) (Ax ?_)
 exact ⟨⟨[_], ⟨.tmp _ _ rfl, trivial⟩, rfl⟩, trivial⟩
set_option maxRecDepth 10000 in
theorem HX (N : Nat) (p0 : Int) (r : Int × Int) (h : Ef N p0 = some r) : Bn Try.prog 86 [.e (.one (.ptr 90000 0))] [(.box [.pure (.val (.int .u64 p0))], .box [.pure (.val (.int .u64 r.2))])] [] (.e (.one (.pure (.val (.int .u64 r.1))))) := by
 unfold Ef at h
 refine Bf (n := 33) (rs := [.tmp 2]) Try.func86 rfl rfl rfl (AV rfl) (AV rfl) rfl rfl (AV rfl) rfl (AV rfl) fun w0 S0 GL => ?_
 refine Ak (sm [] [(0, .e (.one (.ptr 90000 0)))] [(90000, .box [.pure (.val (.int .u64 p0))])] rfl rfl) (Ab (Aa Ac rfl (qa rfl (Ad (Ab (Aa Ac rfl (qm rfl (K8 rfl (ql KJ rfl (qm rfl (K8 rfl (ql KJ rfl (Gz rfl (by decide) (Oq rfl (K8 rfl (qs NI rfl (AF (by kernel_rfl) (Ab (Aa Ac rfl (qm rfl (K8 rfl (ql KJ rfl (qm rfl (K8 rfl (ql KJ rfl (Gj rfl (by decide) (Oq rfl (K8 rfl (qs NI rfl (AF (by kernel_rfl) (Ab (Aa Ac rfl (qm rfl (K8 rfl (ql KJ rfl (qm rfl (K8 rfl (ql KJ rfl (Gz rfl (by decide) ?_)))))))))))))))))))))))))))))))))))))))
 refine Oq rfl (K8 rfl (qs NI rfl (AF (by kernel_rfl) (Ab (Aa Ac rfl (qm rfl (K8 rfl (ql KJ rfl (qa rfl (Ad ?_))))))))))
 obtain rfl := sj h
 refine Ak (sm [] [(2, .e (.one (.pure (.val (.int .u64 ((Fo .u64 ((Fo .u64 ((Fo .u64 p0 ((Cn .u64 p0 13)))) ((DZ .u64 ((Fo .u64 p0 ((Cn .u64 p0 13)))) 7)))) ((Cn .u64 ((Fo .u64 ((Fo .u64 p0 ((Cn .u64 p0 13)))) ((DZ .u64 ((Fo .u64 p0 ((Cn .u64 p0 13)))) 7)))) 17)))))))))] [(90000, .box [.pure (.val (.int .u64 ((Fo .u64 ((Fo .u64 ((Fo .u64 p0 ((Cn .u64 p0 13)))) ((DZ .u64 ((Fo .u64 p0 ((Cn .u64 p0 13)))) 7)))) ((Cn .u64 ((Fo .u64 ((Fo .u64 p0 ((Cn .u64 p0 13)))) ((DZ .u64 ((Fo .u64 p0 ((Cn .u64 p0 13)))) 7)))) 17))))))])] rfl rfl) (Ax ?_)
 exact ⟨⟨[_], ⟨.tmp _ _ rfl, trivial⟩, rfl⟩, ⟨rfl, trivial⟩, trivial⟩
set_option maxRecDepth 10000 in
theorem E1 (N : Nat) (p0 : List Ae) (p1 : Int) (p2 : Int) (p3 : (Ae × Ae) → Option Int) (r : (List Ae)) (h : CC N p0 p1 p2 p3 = some r) : Bn Try.prog 64 [.e (.one (.own 90000)), .e (.one (.pure (.val (.int .i64 p1)))), .e (.one (.pure (.val (.int .i64 p2)))), .e (.one (.clo (BD (Dv true Af true Af) Co p3)))] [(.vec 3 (p0.map Af), .vec 3 (r.map Af))] [] (.tup []) := by
 unfold CC at h
 refine Bf (n := 67) (rs := []) Try.func64 rfl rfl rfl (AV rfl) (AV rfl) rfl rfl (AV rfl) rfl (AV rfl) fun w0 S0 GL => KV ?_
 refine Ak (sm [] [(0, .e (.one (.own 90000))), (1, .e (.one (.pure (.val (.int .i64 p1))))), (2, .e (.one (.pure (.val (.int .i64 p2))))), (3, .e (.one (.clo (BD (Dv true Af true Af) Co p3))))] [(90000, .vec 3 (p0.map Af))] rfl rfl) (Ab (Aa Ac rfl (qm rfl (qm rfl (Cl rfl (qa rfl (Ad (Ab (Aa Ac rfl (qm rfl (Dl rfl (Ad ?_))))))))))))
 refine Ao rfl (fun c1 => ?_) (fun c1 => ?_)
 ·have h := Am c1 h
  refine Ab (Aa Ac rfl (qm rfl (FH Q6 Rq rfl (qz R1 rfl (qs NI rfl (Ad (Ab (Aa Ac rfl (qm rfl ?_)))))))))
  obtain ⟨v2, a2, h⟩ := bind_some h
  refine AC [] (HD N ((IntKind.wrap .i64 (p2 - p1))) v2 a2) SA rfl (qa rfl (Ad (Ab (Aa Ac rfl (qm rfl (qm rfl (KU rfl (by decide) (G6 rfl (AQ rfl (Cl rfl (qa rfl (Ad ?_))))))))))))
  refine AB (L := BH N p1 p2 v2) h (fun v3 => mk [(0, .e (.one (.own 90000))), (1, .e (.one (.pure (.val (.int .i64 p1))))), (8, .e (.one (.pure (.val (.int .i64 ((IntKind.wrap .i64 (p2 - p1)))))))), (9, .e (.one (.ptr 9 0))), (10, .e (.one (.pure (.val (.int .u64 v2))))), (11, .e (.one (.pure (.val (.int .i64 v3.2.2)))))] [(9, .box [.pure (.val (.int .u64 v3.2.1))]), (90000, .vec 3 (v3.1.map Af))]) (fun v4 => mk [] [(90000, .vec 3 (v4.map Af))]) (fun _ _ => rfl) (sm [] _ _ rfl rfl) (fun j3 n3 v3 h => ?_) (fun v4 s h hs => ?_)
  ·unfold BH at h
   refine Ab (Ab (Aa Ac rfl (qm rfl (qm rfl (qm rfl (KU rfl (by decide) (G6 rfl (AQ rfl (AQ rfl (Id rfl (Ad ?_)))))))))))
   refine Ao rfl (fun c5 => ?_) (fun c5 => ?_)
   ·have h := Am c5 h
    refine Ap (Ab (AI (Ab (Aa Ac rfl ?_))))
    obtain ⟨v6, a6, h⟩ := bind_some h
    refine CH (ds0 := [_]) [9] [] [true] (HX N v3.2.1 v6 a6) (.p rfl) Tm rfl ⟨rfl, trivial⟩ rfl rfl (by decide) ⟨rfl, trivial⟩ rfl (A2 rfl) trivial ⟨(fun h => by cases h), trivial⟩ rfl rfl rfl ?_
    refine qm rfl (Cl rfl (J2 rfl (FH Ox O1 rfl (qa rfl (Ad ?_)))))
    refine AO h (fun v7 => mk [(0, .e (.one (.own 90000))), (1, .e (.one (.pure (.val (.int .i64 p1))))), (8, .e (.one (.pure (.val (.int .i64 ((IntKind.wrap .i64 (p2 - p1)))))))), (9, .e (.one (.ptr 9 0))), (10, .e (.one (.pure (.val (.int .u64 v2))))), (11, .e (.one (.pure (.val (.int .i64 v3.2.2))))), (12, .e (.one (.pure (.val (.int .i64 v7)))))] [(9, .box [.pure (.val (.int .u64 v6.2))]), (90000, .vec 3 (v3.1.map Af))]) (fun j7 h => ?_) (fun v7 h => ?_)
    ·refine Ab (Aa Ac rfl (qm rfl (qm rfl (Dl rfl (Ad ?_)))))
     refine Ao rfl (fun c8 => ?_) (fun c8 => ?_)
     ·have h := Am c8 h
      refine Aa Ac rfl (qm rfl (qm rfl (Cl rfl (qa rfl (Ad ?_)))))
      exact As _ h (sm [] _ _ rfl rfl)
     ·have h := An c8 h
      refine Ap ?_
      exact As _ h (sm [] _ _ rfl rfl)
    ·refine Aa Ac rfl (qm rfl (qm rfl (qm rfl (qm rfl (qm rfl (AQ rfl (qm rfl (qm rfl (qm rfl (AQ rfl ?_))))))))))
     obtain ⟨v9, a9, b9, h⟩ := Ah h
     refine qI AD Aw a9 (Ag b9) rfl (qJ AU Aw (Ag b9) rfl (qm rfl (qm rfl ?_)))
     obtain ⟨v10, a10, b10, h⟩ := Ah h
     refine qI AD Aw a10 (Ag b10) rfl (qJ AU Aw (Ag b10) rfl ?_)
     obtain ⟨v11, a11, b11, h⟩ := Ah h
     refine qI AD Aw a11 (Ag b11) rfl ?_
     refine AX rfl rfl rfl rfl (Ag b11) rfl Aw rfl (AV rfl) (AY Af v3.1 _ v9) ?_
     obtain ⟨v12, a12, b12, h⟩ := Ah h
     refine qI AD Aw a12 (Ag b12) rfl ?_
     refine AX rfl rfl rfl rfl (Ag b12) rfl Aw rfl (AV rfl) (AY Af (v3.1.set ((v3.2.2).toNat) v9) _ v10) ?_
     refine AF (by kernel_rfl) (Aa Ac rfl (qm rfl (AQ rfl (qa rfl (Ad ?_)))))
     exact As _ h (sm [] _ _ rfl rfl)
   ·have h := An c5 h
    refine AS ?_
    exact As _ h (sm [] _ _ rfl rfl)
  ·obtain rfl := sj h
   refine ⟨_, hs.trans (sm [] [] [(90000, .vec 3 (v4.map Af))] rfl rfl), ?_⟩
   exact ⟨⟨[], trivial, rfl⟩, ⟨rfl, trivial⟩, trivial⟩
 ·have h := An c1 h
  refine Ap ?_
  obtain rfl := sj h
  refine ⟨_, (sm [] [] [(90000, .vec 3 (p0.map Af))] rfl rfl), ?_⟩
  exact ⟨⟨[], trivial, rfl⟩, ⟨rfl, trivial⟩, trivial⟩
set_option maxRecDepth 10000 in
theorem Dd (N : Nat) (p0 : List Ae) (p1 : Int) (p2 : Int) (p3 : Int) (p4 : (Ae × Ae) → Option Int) (r : Int × Int × Int) (h : B3 N p0 p1 p2 p3 p4 = some r) : Bn Try.prog 98 [.e (.one (.pure (.sl (p0.map Af)))), .e (.one (.pure (.val (.int .i64 p1)))), .e (.one (.pure (.val (.int .i64 p2)))), .e (.one (.ptr 90000 0)), .e (.one (.clo (BD (Dv true Af true Af) Co p4)))] [(.box [.pure (.val (.int .i64 p3))], .box [.pure (.val (.int .i64 r.2.2))])] [] (.tup [.one (.pure (.val (.int .i64 r.1))), .one (.pure (.val (.int .i64 r.2.1)))]) := by
 unfold B3 at h
 refine Bf (n := 32) (rs := [.tmp 10, .tmp 11]) Try.func98 rfl rfl rfl (AV rfl) (AV rfl) rfl rfl (AV rfl) rfl (AV rfl) fun w0 S0 GL => ?_
 refine Ak (sm [] [(0, .e (.one (.pure (.sl (p0.map Af))))), (1, .e (.one (.pure (.val (.int .i64 p1))))), (2, .e (.one (.pure (.val (.int .i64 p2))))), (3, .e (.one (.ptr 90000 0))), (4, .e (.one (.clo (BD (Dv true Af true Af) Co p4))))] [(90000, .box [.pure (.val (.int .i64 p3))])] rfl rfl) (Ab (Aa Ac rfl (qa rfl (qa rfl (Ad (Ab (Ab (Aa Ac rfl (qm rfl (qm rfl (qm rfl ?_)))))))))))
 obtain ⟨v1, a1, b1, h⟩ := Ah h
 refine qi AD Aw a1 (Ag b1) rfl (qK AU Aw rfl (qm rfl (qm rfl ?_)))
 obtain ⟨v2, a2, b2, h⟩ := Ah h
 refine qi AD Aw a2 (Ag b2) rfl (qK AU Aw rfl ?_)
 obtain ⟨v3, a3, h⟩ := bind_some h
 refine Dy (ds0 := [_, _]) (ar := (Dv true Af true Af) ((v1, v2))) (.p rfl) rfl rfl ⟨rfl, rfl, trivial⟩ rfl rfl rfl (DA (Eb _ _ _ _ Bc Bc) a3) ?_
 refine AT rfl (AF (by kernel_rfl) ?_)
 refine Ao rfl (fun c4 => ?_) (fun c4 => ?_)
 ·have h := Am c4 h
  refine Ab (Aa Ac rfl (qm rfl (K8 rfl (ql CO rfl (AQ rfl (K8 rfl (qs DS rfl (Ad (Ab (Aa Ac rfl (qm rfl (qm rfl (qa rfl (qa rfl (Ad ?_)))))))))))))))
  obtain rfl := sj h
  refine Ak (sm [] [(10, .e (.one (.pure (.val (.int .i64 p2))))), (11, .e (.one (.pure (.val (.int .i64 p1)))))] [(90000, .box [.pure (.val (.int .i64 ((IntKind.wrap .i64 (p3 + 1)))))])] rfl rfl) (Ax ?_)
  exact ⟨⟨[_, _], ⟨.tmp _ _ rfl, ⟨.tmp _ _ rfl, trivial⟩⟩, rfl⟩, ⟨rfl, trivial⟩, trivial⟩
 ·have h := An c4 h
  refine Ap (Ab (Aa Ac rfl (qm rfl (qm rfl (qa rfl (qa rfl (Ad ?_)))))))
  obtain rfl := sj h
  refine Ak (sm [] [(10, .e (.one (.pure (.val (.int .i64 p1))))), (11, .e (.one (.pure (.val (.int .i64 p2)))))] [(90000, .box [.pure (.val (.int .i64 p3))])] rfl rfl) (Ax ?_)
  exact ⟨⟨[_, _], ⟨.tmp _ _ rfl, ⟨.tmp _ _ rfl, trivial⟩⟩, rfl⟩, ⟨rfl, trivial⟩, trivial⟩
set_option maxRecDepth 10000 in
theorem Ed (N : Nat) (p0 : List Ae) (p1 : Int) (p2 : Int) (p3 : Int) (p4 : Int) (p5 : (Ae × Ae) → Option Int) (r : Int × Int) (h : Cv N p0 p1 p2 p3 p4 p5 = some r) : Bn Try.prog 88 [.e (.one (.pure (.sl (p0.map Af)))), .e (.one (.pure (.val (.int .i64 p1)))), .e (.one (.pure (.val (.int .i64 p2)))), .e (.one (.pure (.val (.int .i64 p3)))), .e (.one (.ptr 90000 0)), .e (.one (.clo (BD (Dv true Af true Af) Co p5)))] [(.box [.pure (.val (.int .i64 p4))], .box [.pure (.val (.int .i64 r.2))])] [] (.e (.one (.pure (.val (.int .i64 r.1))))) := by
 unfold Cv at h
 refine Bf (n := 41) (rs := [.tmp 12]) Try.func88 rfl rfl rfl (AV rfl) (AV rfl) rfl rfl (AV rfl) rfl (AV rfl) fun w0 S0 GL => ?_
 refine Ak (sm [] [(0, .e (.one (.pure (.sl (p0.map Af))))), (1, .e (.one (.pure (.val (.int .i64 p1))))), (2, .e (.one (.pure (.val (.int .i64 p2))))), (3, .e (.one (.pure (.val (.int .i64 p3))))), (4, .e (.one (.ptr 90000 0))), (5, .e (.one (.clo (BD (Dv true Af true Af) Co p5))))] [(90000, .box [.pure (.val (.int .i64 p4))])] rfl rfl) (Ab (Aa Ac rfl (qa rfl (Ad (Ab (Aa Ac rfl (qm rfl (qm rfl (qm rfl (qm rfl (qm rfl ?_)))))))))))
 obtain ⟨v1, a1, h⟩ := bind_some h
 refine CH (ds0 := [_, _, _, _, _]) [90000] [] [true] (Dd N p0 p1 p2 p4 p5 v1 a1) (.p rfl) Q4 rfl ⟨rfl, rfl, rfl, rfl, rfl, trivial⟩ rfl rfl (by decide) ⟨rfl, trivial⟩ rfl (A2 rfl) trivial ⟨(fun h => by cases h), trivial⟩ rfl rfl rfl ?_
 refine qm rfl (qx rfl (qx rfl (qa rfl (qa rfl (Ad (Ab (Aa Ac rfl (qm rfl (qm rfl (qm rfl (qm rfl (qm rfl ?_))))))))))))
 obtain ⟨v2, a2, h⟩ := bind_some h
 refine CH (ds0 := [_, _, _, _, _]) [90000] [] [true] (Dd N p0 v1.2.1 p3 v1.2.2 p5 v2 a2) (.p rfl) Q4 rfl ⟨rfl, rfl, rfl, rfl, rfl, trivial⟩ rfl rfl (by decide) ⟨rfl, trivial⟩ rfl (A2 rfl) trivial ⟨(fun h => by cases h), trivial⟩ rfl rfl rfl ?_
 refine qm rfl (qx rfl (qx rfl (qa rfl (qa rfl (Ad (Ab (Aa Ac rfl (qm rfl (qm rfl (qm rfl (qm rfl (qm rfl ?_))))))))))))
 obtain ⟨v3, a3, h⟩ := bind_some h
 refine CH (ds0 := [_, _, _, _, _]) [90000] [] [true] (Dd N p0 v1.1 v2.1 v2.2.2 p5 v3 a3) (.p rfl) Q4 rfl ⟨rfl, rfl, rfl, rfl, rfl, trivial⟩ rfl rfl (by decide) ⟨rfl, trivial⟩ rfl (A2 rfl) trivial ⟨(fun h => by cases h), trivial⟩ rfl rfl rfl ?_
 refine qm rfl (qx rfl (qx rfl (qa rfl (qa rfl (Ad (Ab (Aa Ac rfl (qm rfl (qa rfl (Ad ?_))))))))))
 obtain rfl := sj h
 refine Ak (sm [] [(12, .e (.one (.pure (.val (.int .i64 v3.2.1)))))] [(90000, .box [.pure (.val (.int .i64 v3.2.2))])] rfl rfl) (Ax ?_)
 exact ⟨⟨[_], ⟨.tmp _ _ rfl, trivial⟩, rfl⟩, ⟨rfl, trivial⟩, trivial⟩
set_option maxRecDepth 10000 in
theorem CA (N : Nat) (p0 : List Ae) (p1 : Int) (p2 : Int) (p3 : (Ae × Ae) → Option Int) (r : Int × Int) (h : Bj N p0 p1 p2 p3 = some r) : Bn Try.prog 87 [.e (.one (.pure (.sl (p0.map Af)))), .e (.one (.pure (.val (.int .i64 p1)))), .e (.one (.ptr 90000 0)), .e (.one (.clo (BD (Dv true Af true Af) Co p3)))] [(.box [.pure (.val (.int .i64 p2))], .box [.pure (.val (.int .i64 r.2))])] [] (.e (.one (.pure (.val (.int .i64 r.1))))) := by
 unfold Bj at h
 refine Bf (n := 18) (rs := [.tmp 8]) Try.func87 rfl rfl rfl (AV rfl) (AV rfl) rfl rfl (AV rfl) rfl (AV rfl) fun w0 S0 GL => ?_
 refine Ak (sm [] [(0, .e (.one (.pure (.sl (p0.map Af))))), (1, .e (.one (.pure (.val (.int .i64 p1))))), (2, .e (.one (.ptr 90000 0))), (3, .e (.one (.clo (BD (Dv true Af true Af) Co p3))))] [(90000, .box [.pure (.val (.int .i64 p2))])] rfl rfl) (Ab (Aa Ac rfl (qa rfl (Ad (Ab (Aa Ac rfl (qm rfl (qm rfl (Cl rfl (qm rfl (qm rfl (AQ rfl (qm rfl (qm rfl ?_))))))))))))))
 obtain ⟨v1, a1, h⟩ := bind_some h
 refine CH (ds0 := [_, _, _, _, _, _]) [90000] [] [true] (Ed N p0 ((IntKind.wrap .i64 (p1 - 1))) p1 ((IntKind.wrap .i64 (p1 + 1))) p2 p3 v1 a1) (.p rfl) Rt rfl ⟨rfl, rfl, rfl, rfl, rfl, rfl, trivial⟩ rfl rfl (by decide) ⟨rfl, trivial⟩ rfl (A2 rfl) trivial ⟨(fun h => by cases h), trivial⟩ rfl rfl rfl ?_
 refine qa rfl (Ad ?_)
 obtain rfl := sj h
 refine Ak (sm [] [(8, .e (.one (.pure (.val (.int .i64 v1.1)))))] [(90000, .box [.pure (.val (.int .i64 v1.2))])] rfl rfl) (Ax ?_)
 exact ⟨⟨[_], ⟨.tmp _ _ rfl, trivial⟩, rfl⟩, ⟨rfl, trivial⟩, trivial⟩
set_option maxRecDepth 10000 in
theorem E9 (N : Nat) (p0 : List Ae) (p1 : Int) (p2 : Int) (p3 : (Ae × Ae) → Option Int) (r : Int × Int) (h : CJ N p0 p1 p2 p3 = some r) : Az Try.prog 65 [.e (.one (.pure (.sl (p0.map Af)))), .e (.one (.pure (.val (.int .i64 p1)))), .e (.one (.pure (.val (.int .i64 p2)))), .e (.one (.clo (BD (Dv true Af true Af) Co p3)))] [] (.tup [.one (.pure (.val (.int .i64 r.1))), .one (.pure (.val (.int .i64 r.2)))]) := by
 unfold CJ at h
 refine Ar (n := 63) (rs := [.tmp 8, .tmp 9]) Try.func65 rfl rfl rfl (AV rfl) (AV rfl) rfl fun w0 S0 => ?_
 refine Ab (Aa Ac rfl (qa rfl (qa rfl (Ad (Ab (Aa Ac rfl (qm rfl (qm rfl (Cl rfl (qa rfl (Ad (Ab (Aa Ac rfl (qz Mm rfl (Ad (Ab (Aa Ac rfl (qm rfl (qm rfl (KU rfl (by decide) (G6 rfl (AQ rfl (qa rfl (Ad (Ab (Aa Ac rfl (qm rfl (qm rfl (KU rfl (by decide) (G6 rfl (AQ rfl (qa rfl (Ad (Ab (Aa Ac rfl (qm rfl (qm rfl (KU rfl (by decide) (G6 rfl ?_)))))))))))))))))))))))))))))))))))))))
 refine AQ rfl (qa rfl (Ad ?_))
 refine AO h (fun v1 => mk [(11, .e (.one (.ptr 11 0))), (13, .e (.one (.pure (.val (.int .i64 v1.2)))))] [(11, .box [.pure (.val (.int .i64 v1.1))])]) (fun j1 h => ?_) (fun v1 h => ?_)
 ·refine Ab (Aa Ac rfl (qm rfl (Dl rfl (Ad ?_))))
  refine Ao rfl (fun c2 => ?_) (fun c2 => ?_)
  ·have h := Am c2 h
   refine AO h (fun v3 => mk [(0, .e (.one (.pure (.sl (p0.map Af))))), (3, .e (.one (.clo (BD (Dv true Af true Af) Co p3)))), (11, .e (.one (.ptr 11 0))), (12, .e (.one (.pure (.val (.int .i64 v3.2.1))))), (13, .e (.one (.pure (.val (.int .i64 v3.2.2.1))))), (14, .e (.one (.pure (.val (.int .i64 v3.2.2.2)))))] [(11, .box [.pure (.val (.int .i64 v3.1))])]) (fun j3 h => ?_) (fun v3 h => ?_)
   ·refine Ab (Aa Ac rfl (qm rfl (Dl rfl (Ad ?_))))
    refine Ao rfl (fun c4 => ?_) (fun c4 => ?_)
    ·have h := Am c4 h
     refine Ab (Aa Ac rfl (qm rfl (qm rfl (qm rfl ?_))))
     obtain ⟨v5, a5, h⟩ := bind_some h
     refine CH (ds0 := [_, _, _, _]) [11] [] [true] (CA N p0 ((IntKind.wrap .i64 (p1 + (IntKind.wrap .i64 ((IntKind.wrap .i64 (Int.tdiv ((IntKind.wrap .i64 (p2 - p1))) 4)) * 1))))) 0 p3 v5 a5) (.p rfl) Q9 rfl ⟨rfl, rfl, rfl, rfl, trivial⟩ rfl rfl (by decide) ⟨rfl, trivial⟩ rfl (A2 rfl) trivial ⟨(fun h => by cases h), trivial⟩ rfl rfl rfl ?_
     refine qa rfl (Ad (Ab (Aa Ac rfl (qm rfl (qm rfl (qm rfl ?_))))))
     obtain ⟨v6, a6, h⟩ := bind_some h
     refine CH (ds0 := [_, _, _, _]) [11] [] [true] (CA N p0 ((IntKind.wrap .i64 (p1 + (IntKind.wrap .i64 ((IntKind.wrap .i64 (Int.tdiv ((IntKind.wrap .i64 (p2 - p1))) 4)) * 2))))) v5.2 p3 v6 a6) (.p rfl) Q9 rfl ⟨rfl, rfl, rfl, rfl, trivial⟩ rfl rfl (by decide) ⟨rfl, trivial⟩ rfl (A2 rfl) trivial ⟨(fun h => by cases h), trivial⟩ rfl rfl rfl ?_
     refine qa rfl (Ad (Aa Ac rfl (qm rfl (qm rfl (qm rfl ?_)))))
     obtain ⟨v7, a7, h⟩ := bind_some h
     refine CH (ds0 := [_, _, _, _]) [11] [] [true] (CA N p0 ((IntKind.wrap .i64 (p1 + (IntKind.wrap .i64 ((IntKind.wrap .i64 (Int.tdiv ((IntKind.wrap .i64 (p2 - p1))) 4)) * 3))))) v6.2 p3 v7 a7) (.p rfl) Q9 rfl ⟨rfl, rfl, rfl, rfl, trivial⟩ rfl rfl (by decide) ⟨rfl, trivial⟩ rfl (A2 rfl) trivial ⟨(fun h => by cases h), trivial⟩ rfl rfl rfl ?_
     refine qa rfl (Ad ?_)
     exact As _ h (sm [] _ _ rfl rfl)
    ·have h := An c4 h
     refine Ap ?_
     exact As _ h (sm [] _ _ rfl rfl)
   ·refine Aa Ac rfl (qm rfl (qm rfl (qm rfl (qm rfl (qm rfl ?_)))))
    obtain ⟨v8, a8, h⟩ := bind_some h
    refine CH (ds0 := [_, _, _, _, _, _]) [11] [] [true] (Ed N p0 v3.2.1 v3.2.2.1 v3.2.2.2 v3.1 p3 v8 a8) (.p rfl) Rt rfl ⟨rfl, rfl, rfl, rfl, rfl, rfl, trivial⟩ rfl rfl (by decide) ⟨rfl, trivial⟩ rfl (A2 rfl) trivial ⟨(fun h => by cases h), trivial⟩ rfl rfl rfl ?_
    refine qa rfl (Ad ?_)
    exact As _ h (sm [] _ _ rfl rfl)
  ·have h := An c2 h
   refine Ap ?_
   exact As _ h (sm [] _ _ rfl rfl)
 ·refine Ab (Aa Ac rfl (ql CO rfl (Ad (AI (Ab (Aa Ac rfl (Cm rfl (qa rfl (Ad ?_)))))))))
  refine Ao rfl (fun c9 => ?_) (fun c9 => ?_)
  ·have h := Am c9 h
   refine Ab (Aa Ac rfl (qm rfl (qa rfl (qa rfl (Ad ?_)))))
   obtain rfl := sj h
   refine Ak (sm [] [(8, .e (.one (.pure (.val (.int .i64 v1.2))))), (9, .e (.one (.pure (.val (.int .i64 1)))))] [] rfl rfl) (Ax ?_)
   exact ⟨⟨[_, _], ⟨.tmp _ _ rfl, ⟨.tmp _ _ rfl, trivial⟩⟩, rfl⟩, trivial⟩
  ·have h := An c9 h
   refine Ab (Aa Ac rfl (Cm rfl (qa rfl (Ad ?_))))
   refine Ao rfl (fun c10 => ?_) (fun c10 => ?_)
   ·have h := Am c10 h
    refine Ab (Aa Ac rfl (qm rfl (qa rfl (qa rfl (Ad ?_)))))
    obtain rfl := sj h
    refine Ak (sm [] [(8, .e (.one (.pure (.val (.int .i64 v1.2))))), (9, .e (.one (.pure (.val (.int .i64 2)))))] [] rfl rfl) (Ax ?_)
    exact ⟨⟨[_, _], ⟨.tmp _ _ rfl, ⟨.tmp _ _ rfl, trivial⟩⟩, rfl⟩, trivial⟩
   ·have h := An c10 h
    refine Ab (Aa Ac rfl (qm rfl (qa rfl (qa rfl (Ad ?_)))))
    obtain rfl := sj h
    refine Ak (sm [] [(8, .e (.one (.pure (.val (.int .i64 v1.2))))), (9, .e (.one (.pure (.val (.int .i64 0)))))] [] rfl rfl) (Ax ?_)
    exact ⟨⟨[_, _], ⟨.tmp _ _ rfl, ⟨.tmp _ _ rfl, trivial⟩⟩, rfl⟩, trivial⟩
set_option maxRecDepth 10000 in
theorem E3 (N : Nat) (p0 : List Ae) (p1 : Int) (p2 : Int) (p3 : (Ae × Ae) → Option Int) (r : (List Ae)) (h : CF N p0 p1 p2 p3 = some r) : Bn Try.prog 66 [.e (.one (.own 90000)), .e (.one (.pure (.val (.int .i64 p1)))), .e (.one (.pure (.val (.int .i64 p2)))), .e (.one (.clo (BD (Dv true Af true Af) Co p3)))] [(.vec 3 (p0.map Af), .vec 3 (r.map Af))] [] (.tup []) := by
 unfold CF at h
 refine Bf (n := 34) (rs := []) Try.func66 rfl rfl rfl (AV rfl) (AV rfl) rfl rfl (AV rfl) rfl (AV rfl) fun w0 S0 GL => KV ?_
 refine Ak (sm [] [(0, .e (.one (.own 90000))), (1, .e (.one (.pure (.val (.int .i64 p1))))), (2, .e (.one (.pure (.val (.int .i64 p2))))), (3, .e (.one (.clo (BD (Dv true Af true Af) Co p3))))] [(90000, .vec 3 (p0.map Af))] rfl rfl) (Ab (Aa Ac rfl (qm rfl (qa rfl (Ad (Ab (Aa Ac rfl (qm rfl (Cl rfl (qa rfl (Ad ?_)))))))))))
 refine AB (L := BM N) h (fun v1 => mk [(0, .e (.one (.own 90000))), (8, .e (.one (.pure (.val (.int .i64 v1.2.1))))), (9, .e (.one (.pure (.val (.int .i64 v1.2.2)))))] [(90000, .vec 3 (v1.1.map Af))]) (fun v2 => mk [] [(90000, .vec 3 (v2.map Af))]) (fun _ _ => rfl) (sm [] _ _ rfl rfl) (fun j1 n1 v1 h => ?_) (fun v2 s h hs => ?_)
 ·unfold BM at h
  refine Ab (Ab (Aa Ac rfl (qm rfl (qm rfl (AT rfl (Ad ?_))))))
  refine Ao rfl (fun c3 => ?_) (fun c3 => ?_)
  ·have h := Am c3 h
   refine Ap (AI (Ab (Aa Ac rfl (qm rfl (qm rfl (qm rfl (qm rfl (qm rfl (qm rfl ?_)))))))))
   obtain ⟨v4, a4, b4, h⟩ := Ah h
   refine qI AD Aw a4 (Ag b4) rfl (qJ AU Aw (Ag b4) rfl (qm rfl (qm rfl ?_)))
   obtain ⟨v5, a5, b5, h⟩ := Ah h
   refine qI AD Aw a5 (Ag b5) rfl (qJ AU Aw (Ag b5) rfl ?_)
   obtain ⟨v6, a6, b6, h⟩ := Ah h
   refine qI AD Aw a6 (Ag b6) rfl ?_
   refine AX rfl rfl rfl rfl (Ag b6) rfl Aw rfl (AV rfl) (AY Af v1.1 _ v4) ?_
   obtain ⟨v7, a7, b7, h⟩ := Ah h
   refine qI AD Aw a7 (Ag b7) rfl ?_
   refine AX rfl rfl rfl rfl (Ag b7) rfl Aw rfl (AV rfl) (AY Af (v1.1.set ((v1.2.1).toNat) v4) _ v5) ?_
   refine AF (by kernel_rfl) (Ab (Aa Ac rfl (qm rfl (AQ rfl (qa rfl (Ad (Aa Ac rfl (qm rfl (Cl rfl (qa rfl (Ad ?_)))))))))))
   exact As _ h (sm [] _ _ rfl rfl)
  ·have h := An c3 h
   refine AS ?_
   exact As _ h (sm [] _ _ rfl rfl)
 ·obtain rfl := sj h
  refine ⟨_, hs.trans (sm [] [] [(90000, .vec 3 (v2.map Af))] rfl rfl), ?_⟩
  exact ⟨⟨[], trivial, rfl⟩, ⟨rfl, trivial⟩, trivial⟩
set_option maxRecDepth 10000 in
theorem Ee (N : Nat) (p0 : List Ae) (p1 : Int) (p2 : Int) (p3 : (Ae × Ae) → Option Int) (r : Bool × (List Ae)) (h : B4 N p0 p1 p2 p3 = some r) : Bn Try.prog 67 [.e (.one (.own 90000)), .e (.one (.pure (.val (.int .i64 p1)))), .e (.one (.pure (.val (.int .i64 p2)))), .e (.one (.clo (BD (Dv true Af true Af) Co p3)))] [(.vec 3 (p0.map Af), .vec 3 (r.2.map Af))] [] (.e (.one (.pure (.val (.bool r.1))))) := by
 unfold B4 at h
 refine Bf (n := 141) (rs := [.tmp 8]) Try.func67 rfl rfl rfl (AV rfl) (AV rfl) rfl rfl (AV rfl) rfl (AV rfl) fun w0 S0 GL => ?_
 refine Ak (sm [] [(0, .e (.one (.own 90000))), (1, .e (.one (.pure (.val (.int .i64 p1))))), (2, .e (.one (.pure (.val (.int .i64 p2))))), (3, .e (.one (.clo (BD (Dv true Af true Af) Co p3))))] [(90000, .vec 3 (p0.map Af))] rfl rfl) (Ab (Aa Ac rfl (qa rfl (Ad (Ab (Aa Ac rfl (qm rfl (AQ rfl (qa rfl (Ad (Ab (Ab (Aa Ac rfl (qa rfl (Ad ?_)))))))))))))))
 refine AB (L := Bd N p1 p2 p3) h (fun v1 => mk [(0, .e (.one (.own 90000))), (1, .e (.one (.pure (.val (.int .i64 p1))))), (2, .e (.one (.pure (.val (.int .i64 p2))))), (3, .e (.one (.clo (BD (Dv true Af true Af) Co p3)))), (9, .e (.one (.pure (.val (.int .i64 v1.2.1))))), (10, .e (.one (.pure (.val (.int .i64 v1.2.2)))))] [(90000, .vec 3 (v1.1.map Af))]) (fun v2 => mk [] [(90000, .vec 3 (v2.map Af))]) (fun _ _ => rfl) (sm [] _ _ rfl rfl) (fun j1 n1 v1 h => ?_) (fun v2 s h hs => ?_)
 ·unfold Bd at h
  refine Ab (Ab (Aa Ac rfl (qm rfl (AT rfl (Ad ?_)))))
  refine Ao rfl (fun c3 => ?_) (fun c3 => ?_)
  ·have h := Am c3 h
   refine Ap ?_
   refine AO h (fun v4 => mk [(0, .e (.one (.own 90000))), (1, .e (.one (.pure (.val (.int .i64 p1))))), (2, .e (.one (.pure (.val (.int .i64 p2))))), (3, .e (.one (.clo (BD (Dv true Af true Af) Co p3)))), (9, .e (.one (.pure (.val (.int .i64 v4.2))))), (10, .e (.one (.pure (.val (.int .i64 v1.2.2)))))] [(90000, .vec 3 (v4.1.map Af))]) (fun j4 h => ?_) (fun v4 h => ?_)
   ·refine AI (Ab ?_)
    refine AB (L := Be N p2 p3 v1) h (fun v5 => mk [(0, .e (.one (.own 90000))), (1, .e (.one (.pure (.val (.int .i64 p1))))), (2, .e (.one (.pure (.val (.int .i64 p2))))), (3, .e (.one (.clo (BD (Dv true Af true Af) Co p3)))), (9, .e (.one (.pure (.val (.int .i64 v5))))), (10, .e (.one (.pure (.val (.int .i64 v1.2.2)))))] [(90000, .vec 3 (v1.1.map Af))]) (fun v6 => mk [(0, .e (.one (.own 90000))), (1, .e (.one (.pure (.val (.int .i64 p1))))), (2, .e (.one (.pure (.val (.int .i64 p2))))), (3, .e (.one (.clo (BD (Dv true Af true Af) Co p3)))), (9, .e (.one (.pure (.val (.int .i64 v6))))), (10, .e (.one (.pure (.val (.int .i64 v1.2.2)))))] [(90000, .vec 3 (v1.1.map Af))]) (fun _ _ => rfl) (sm [] _ _ rfl rfl) (fun j5 n5 v5 h => ?_) (fun v6 s h hs => ?_)
    ·unfold Be at h
     refine Ab ?_
     refine AO h (fun v7 => mk [(0, .e (.one (.own 90000))), (1, .e (.one (.pure (.val (.int .i64 p1))))), (2, .e (.one (.pure (.val (.int .i64 p2))))), (3, .e (.one (.clo (BD (Dv true Af true Af) Co p3)))), (9, .e (.one (.pure (.val (.int .i64 v5))))), (10, .e (.one (.pure (.val (.int .i64 v1.2.2))))), (36, .e (.one (.pure (.val (.bool v7)))))] [(90000, .vec 3 (v1.1.map Af))]) (fun j7 h => ?_) (fun v7 h => ?_)
     ·refine Aa Ac rfl (qm rfl (qm rfl (AT rfl (qm rfl ?_))))
      refine AA (t := 22) rfl (fun c8 => ?_) (fun c8 => ?_)
      ·have h := Am c8 h
       refine qm rfl (qm rfl (qm rfl ?_))
       obtain ⟨v9, a9, b9, h⟩ := Ah h
       refine qI AD Aw a9 (Ag b9) rfl (qJ AU Aw (Ag b9) rfl (qm rfl (qm rfl (Cl rfl ?_))))
       obtain ⟨v10, a10, b10, h⟩ := Ah h
       refine qI AD Aw a10 (Ag b10) rfl (qJ AU Aw (Ag b10) rfl ?_)
       obtain ⟨v11, a11, h⟩ := bind_some h
       refine Dy (ds0 := [_, _]) (ar := (Dv true Af true Af) ((v9, v10))) (.g rfl rfl) rfl rfl ⟨rfl, rfl, trivial⟩ rfl rfl rfl (DA (Eb _ _ _ _ Bc Bc) a11) ?_
       refine AT rfl (Cy rfl (qp rfl (AF (by kernel_rfl) ?_)))
       exact As _ h (sm [] _ _ rfl rfl)
      ·have h := An c8 h
       refine qn rfl (qn rfl (qn rfl (qn rfl (qn rfl (qn rfl (qn rfl (qn rfl (qn rfl (qn rfl (qn rfl (qn rfl (qn rfl (qp rfl (AF (by kernel_rfl) ?_))))))))))))))
       exact As _ h (sm [] _ _ rfl rfl)
     ·refine Ao rfl (fun c12 => ?_) (fun c12 => ?_)
      ·have h := Am c12 h
       refine Ap (AI (Aa Ac rfl (qm rfl (AQ rfl (qa rfl (Ad ?_))))))
       exact As _ h (sm [] _ _ rfl rfl)
      ·have h := An c12 h
       refine AS ?_
       exact As _ h (sm [] _ _ rfl rfl)
    ·refine Ak hs (Ab (Ab (Aa Ac rfl (qm rfl (qm rfl (Cm rfl (Ad ?_)))))))
     refine Ao rfl (fun c13 => ?_) (fun c13 => ?_)
     ·have h := Am c13 h
      refine Ab (Aa Ac rfl (qa rfl (Ad ?_)))
      obtain rfl := sj h
      refine Ak (sm [] [(8, .e (.one (.pure (.val (.bool true)))))] [(90000, .vec 3 (v1.1.map Af))] rfl rfl) (Ax ?_)
      exact ⟨⟨[_], ⟨.tmp _ _ rfl, trivial⟩, rfl⟩, ⟨rfl, trivial⟩, trivial⟩
     ·have h := An c13 h
      refine Ap (Ab (Ab (Aa Ac rfl (qm rfl (qm rfl (Cl rfl (AT rfl (Ad ?_))))))))
      refine Ao rfl (fun c14 => ?_) (fun c14 => ?_)
      ·have h := Am c14 h
       refine Ab (Aa Ac rfl (qa rfl (Ad ?_)))
       obtain rfl := sj h
       refine Ak (sm [] [(8, .e (.one (.pure (.val (.bool false)))))] [(90000, .vec 3 (v1.1.map Af))] rfl rfl) (Ax ?_)
       exact ⟨⟨[_], ⟨.tmp _ _ rfl, trivial⟩, rfl⟩, ⟨rfl, trivial⟩, trivial⟩
      ·have h := An c14 h
       refine Ap (Ab (Aa Ac rfl (qm rfl (qm rfl (qm rfl (qm rfl (Cl rfl (qm rfl (qm rfl (Cl rfl ?_))))))))))
       obtain ⟨v15, a15, b15, h⟩ := Ah h
       refine qI AD Aw a15 (Ag b15) rfl (qJ AU Aw (Ag b15) rfl (qm rfl (qm rfl ?_)))
       obtain ⟨v16, a16, b16, h⟩ := Ah h
       refine qI AD Aw a16 (Ag b16) rfl (qJ AU Aw (Ag b16) rfl ?_)
       obtain ⟨v17, a17, b17, h⟩ := Ah h
       refine qI AD Aw a17 (Ag b17) rfl ?_
       refine AX rfl rfl rfl rfl (Ag b17) rfl Aw rfl (AV rfl) (AY Af v1.1 _ v15) ?_
       obtain ⟨v18, a18, b18, h⟩ := Ah h
       refine qI AD Aw a18 (Ag b18) rfl ?_
       refine AX rfl rfl rfl rfl (Ag b18) rfl Aw rfl (AV rfl) (AY Af (v1.1.set ((v6).toNat) v15) _ v16) ?_
       refine AF (by kernel_rfl) ?_
       refine AO h (fun v19 => mk [(0, .e (.one (.own 90000))), (1, .e (.one (.pure (.val (.int .i64 p1))))), (2, .e (.one (.pure (.val (.int .i64 p2))))), (3, .e (.one (.clo (BD (Dv true Af true Af) Co p3)))), (9, .e (.one (.pure (.val (.int .i64 v6))))), (10, .e (.one (.pure (.val (.int .i64 v1.2.2)))))] [(90000, .vec 3 (v19.map Af))]) (fun j19 h => ?_) (fun v19 h => ?_)
       ·refine Ab (Aa Ac rfl (qm rfl (qm rfl (Cl rfl (Dl rfl (Ad ?_))))))
        refine Ao rfl (fun c20 => ?_) (fun c20 => ?_)
        ·have h := Am c20 h
         refine Ab (Aa Ac rfl (qm rfl (Cl rfl (qa rfl (Ad ?_)))))
         refine AB (L := A9 N p3) h (fun v21 => mk [(0, .e (.one (.own 90000))), (1, .e (.one (.pure (.val (.int .i64 p1))))), (2, .e (.one (.pure (.val (.int .i64 p2))))), (3, .e (.one (.clo (BD (Dv true Af true Af) Co p3)))), (9, .e (.one (.pure (.val (.int .i64 v6))))), (10, .e (.one (.pure (.val (.int .i64 v1.2.2))))), (11, .e (.one (.pure (.val (.int .i64 v21.2)))))] [(90000, .vec 3 (v21.1.map Af))]) (fun v22 => mk [(0, .e (.one (.own 90000))), (1, .e (.one (.pure (.val (.int .i64 p1))))), (2, .e (.one (.pure (.val (.int .i64 p2))))), (3, .e (.one (.clo (BD (Dv true Af true Af) Co p3)))), (9, .e (.one (.pure (.val (.int .i64 v6))))), (10, .e (.one (.pure (.val (.int .i64 v1.2.2)))))] [(90000, .vec 3 (v22.map Af))]) (fun _ _ => rfl) (sm [] _ _ rfl rfl) (fun j21 n21 v21 h => ?_) (fun v22 s h hs => ?_)
         ·unfold A9 at h
          refine Ab (Ab (Aa Ac rfl (qm rfl (Dl rfl (Ad ?_)))))
          refine Ao rfl (fun c23 => ?_) (fun c23 => ?_)
          ·have h := Am c23 h
           refine Ap (Ab (AI (Ab (Ab (Aa Ac rfl (qm rfl (qm rfl (qm rfl ?_))))))))
           obtain ⟨v24, a24, b24, h⟩ := Ah h
           refine qI AD Aw a24 (Ag b24) rfl (qJ AU Aw (Ag b24) rfl (qm rfl (qm rfl (Cl rfl ?_))))
           obtain ⟨v25, a25, b25, h⟩ := Ah h
           refine qI AD Aw a25 (Ag b25) rfl (qJ AU Aw (Ag b25) rfl ?_)
           obtain ⟨v26, a26, h⟩ := bind_some h
           refine Dy (ds0 := [_, _]) (ar := (Dv true Af true Af) ((v24, v25))) (.p rfl) rfl rfl ⟨rfl, rfl, trivial⟩ rfl rfl rfl (DA (Eb _ _ _ _ Bc Bc) a26) ?_
           refine AT rfl (Cy rfl (AF (by kernel_rfl) ?_))
           refine Ao rfl (fun c27 => ?_) (fun c27 => ?_)
           ·have h := Am c27 h
            refine AS ?_
            exact As _ h (sm [] _ _ rfl rfl)
           ·have h := An c27 h
            refine Ap (Aa Ac rfl (qm rfl (qm rfl (qm rfl (qm rfl (Cl rfl (qm rfl (qm rfl (Cl rfl ?_)))))))))
            obtain ⟨v28, a28, b28, h⟩ := Ah h
            refine qI AD Aw a28 (Ag b28) rfl (qJ AU Aw (Ag b28) rfl (qm rfl (qm rfl ?_)))
            obtain ⟨v29, a29, b29, h⟩ := Ah h
            refine qI AD Aw a29 (Ag b29) rfl (qJ AU Aw (Ag b29) rfl ?_)
            obtain ⟨v30, a30, b30, h⟩ := Ah h
            refine qI AD Aw a30 (Ag b30) rfl ?_
            refine AX rfl rfl rfl rfl (Ag b30) rfl Aw rfl (AV rfl) (AY Af v21.1 _ v28) ?_
            obtain ⟨v31, a31, b31, h⟩ := Ah h
            refine qI AD Aw a31 (Ag b31) rfl ?_
            refine AX rfl rfl rfl rfl (Ag b31) rfl Aw rfl (AV rfl) (AY Af (v21.1.set ((v21.2).toNat) v28) _ v29) ?_
            refine AF (by kernel_rfl) (Aa Ac rfl (qm rfl (Cl rfl (qa rfl (Ad ?_)))))
            exact As _ h (sm [] _ _ rfl rfl)
          ·have h := An c23 h
           refine AS ?_
           exact As _ h (sm [] _ _ rfl rfl)
         ·exact As _ h (hs.trans (sm [] _ _ rfl rfl))
        ·have h := An c20 h
         refine Ap ?_
         exact As _ h (sm [] _ _ rfl rfl)
       ·refine Ab (Aa Ac rfl (qm rfl (qm rfl (Cl rfl (Dl rfl (Ad ?_))))))
        refine Ao rfl (fun c32 => ?_) (fun c32 => ?_)
        ·have h := Am c32 h
         refine Ab (Aa Ac rfl (qm rfl (AQ rfl (qa rfl (Ad ?_)))))
         refine AB (L := A8 N p2 p3) h (fun v33 => mk [(0, .e (.one (.own 90000))), (1, .e (.one (.pure (.val (.int .i64 p1))))), (2, .e (.one (.pure (.val (.int .i64 p2))))), (3, .e (.one (.clo (BD (Dv true Af true Af) Co p3)))), (9, .e (.one (.pure (.val (.int .i64 v6))))), (10, .e (.one (.pure (.val (.int .i64 v1.2.2))))), (12, .e (.one (.pure (.val (.int .i64 v33.2)))))] [(90000, .vec 3 (v33.1.map Af))]) (fun v34 => mk [(0, .e (.one (.own 90000))), (1, .e (.one (.pure (.val (.int .i64 p1))))), (2, .e (.one (.pure (.val (.int .i64 p2))))), (3, .e (.one (.clo (BD (Dv true Af true Af) Co p3)))), (9, .e (.one (.pure (.val (.int .i64 v6))))), (10, .e (.one (.pure (.val (.int .i64 v1.2.2)))))] [(90000, .vec 3 (v34.map Af))]) (fun _ _ => rfl) (sm [] _ _ rfl rfl) (fun j33 n33 v33 h => ?_) (fun v34 s h hs => ?_)
         ·unfold A8 at h
          refine Ab (Ab (Aa Ac rfl (qm rfl (qm rfl (AT rfl (Ad ?_))))))
          refine Ao rfl (fun c35 => ?_) (fun c35 => ?_)
          ·have h := Am c35 h
           refine Ap (Ab (AI (Ab (Ab (Aa Ac rfl (qm rfl (qm rfl (qm rfl ?_))))))))
           obtain ⟨v36, a36, b36, h⟩ := Ah h
           refine qI AD Aw a36 (Ag b36) rfl (qJ AU Aw (Ag b36) rfl (qm rfl (qm rfl (Cl rfl ?_))))
           obtain ⟨v37, a37, b37, h⟩ := Ah h
           refine qI AD Aw a37 (Ag b37) rfl (qJ AU Aw (Ag b37) rfl ?_)
           obtain ⟨v38, a38, h⟩ := bind_some h
           refine Dy (ds0 := [_, _]) (ar := (Dv true Af true Af) ((v36, v37))) (.p rfl) rfl rfl ⟨rfl, rfl, trivial⟩ rfl rfl rfl (DA (Eb _ _ _ _ Bc Bc) a38) ?_
           refine AT rfl (Cy rfl (AF (by kernel_rfl) ?_))
           refine Ao rfl (fun c39 => ?_) (fun c39 => ?_)
           ·have h := Am c39 h
            refine AS ?_
            exact As _ h (sm [] _ _ rfl rfl)
           ·have h := An c39 h
            refine Ap (Aa Ac rfl (qm rfl (qm rfl (qm rfl (qm rfl (Cl rfl (qm rfl (qm rfl (Cl rfl ?_)))))))))
            obtain ⟨v40, a40, b40, h⟩ := Ah h
            refine qI AD Aw a40 (Ag b40) rfl (qJ AU Aw (Ag b40) rfl (qm rfl (qm rfl ?_)))
            obtain ⟨v41, a41, b41, h⟩ := Ah h
            refine qI AD Aw a41 (Ag b41) rfl (qJ AU Aw (Ag b41) rfl ?_)
            obtain ⟨v42, a42, b42, h⟩ := Ah h
            refine qI AD Aw a42 (Ag b42) rfl ?_
            refine AX rfl rfl rfl rfl (Ag b42) rfl Aw rfl (AV rfl) (AY Af v33.1 _ v40) ?_
            obtain ⟨v43, a43, b43, h⟩ := Ah h
            refine qI AD Aw a43 (Ag b43) rfl ?_
            refine AX rfl rfl rfl rfl (Ag b43) rfl Aw rfl (AV rfl) (AY Af (v33.1.set ((v33.2).toNat) v40) _ v41) ?_
            refine AF (by kernel_rfl) (Aa Ac rfl (qm rfl (AQ rfl (qa rfl (Ad ?_)))))
            exact As _ h (sm [] _ _ rfl rfl)
          ·have h := An c35 h
           refine AS ?_
           exact As _ h (sm [] _ _ rfl rfl)
         ·exact As _ h (hs.trans (sm [] _ _ rfl rfl))
        ·have h := An c32 h
         refine Ap ?_
         exact As _ h (sm [] _ _ rfl rfl)
   ·refine Aa Ac rfl (qm rfl (AQ rfl (qa rfl (Ad ?_))))
    exact As _ h (sm [] _ _ rfl rfl)
  ·have h := An c3 h
   refine AS ?_
   exact As _ h (sm [] _ _ rfl rfl)
 ·refine Ak hs (Ab (Aa Ac rfl (qa rfl (Ad ?_))))
  obtain rfl := sj h
  refine Ak (sm [] [(8, .e (.one (.pure (.val (.bool false)))))] [(90000, .vec 3 (v2.map Af))] rfl rfl) (Ax ?_)
  exact ⟨⟨[_], ⟨.tmp _ _ rfl, trivial⟩, rfl⟩, ⟨rfl, trivial⟩, trivial⟩
set_option maxRecDepth 10000 in
theorem EO (N : Nat) (p0 : List Ae) (p1 : Int) (p2 : Int) (p3 : Int) (p4 : (Ae × Ae) → Option Int) (r : Int × (List Ae)) (h : Ct N p0 p1 p2 p3 p4 = some r) : Bn Try.prog 68 [.e (.one (.own 90000)), .e (.one (.pure (.val (.int .i64 p1)))), .e (.one (.pure (.val (.int .i64 p2)))), .e (.one (.pure (.val (.int .i64 p3)))), .e (.one (.clo (BD (Dv true Af true Af) Co p4)))] [(.vec 3 (p0.map Af), .vec 3 (r.2.map Af))] [] (.e (.one (.pure (.val (.int .i64 r.1))))) := by
 unfold Ct at h
 refine Bf (n := 90) (rs := [.tmp 10]) Try.func68 rfl rfl rfl (AV rfl) (AV rfl) rfl rfl (AV rfl) rfl (AV rfl) fun w0 S0 GL => ?_
 refine Ak (sm [] [(0, .e (.one (.own 90000))), (1, .e (.one (.pure (.val (.int .i64 p1))))), (2, .e (.one (.pure (.val (.int .i64 p2))))), (3, .e (.one (.pure (.val (.int .i64 p3))))), (4, .e (.one (.clo (BD (Dv true Af true Af) Co p4))))] [(90000, .vec 3 (p0.map Af))] rfl rfl) (Ab (Aa Ac rfl (qa rfl (Ad (Ab (Aa Ac rfl (qm rfl (qm rfl (qm rfl (qm rfl (qm rfl (qm rfl ?_))))))))))))
 obtain ⟨v1, a1, b1, h⟩ := Ah h
 refine qI AD Aw a1 (Ag b1) rfl (qJ AU Aw (Ag b1) rfl (qm rfl (qm rfl ?_)))
 obtain ⟨v2, a2, b2, h⟩ := Ah h
 refine qI AD Aw a2 (Ag b2) rfl (qJ AU Aw (Ag b2) rfl ?_)
 obtain ⟨v3, a3, b3, h⟩ := Ah h
 refine qI AD Aw a3 (Ag b3) rfl ?_
 refine AX rfl rfl rfl rfl (Ag b3) rfl Aw rfl (AV rfl) (AY Af p0 _ v1) ?_
 obtain ⟨v4, a4, b4, h⟩ := Ah h
 refine qI AD Aw a4 (Ag b4) rfl ?_
 refine AX rfl rfl rfl rfl (Ag b4) rfl Aw rfl (AV rfl) (AY Af (p0.set ((p1).toNat) v1) _ v2) ?_
 refine AF (by kernel_rfl) (Ab (Aa Ac rfl (qm rfl (AQ rfl (qm rfl (Cl rfl (qa rfl (qa rfl (Ad (Ab ?_))))))))))
 refine AB (L := Bw N p1 p4) h (fun v5 => mk [(0, .e (.one (.own 90000))), (1, .e (.one (.pure (.val (.int .i64 p1))))), (4, .e (.one (.clo (BD (Dv true Af true Af) Co p4)))), (11, .e (.one (.pure (.val (.int .i64 v5.2.1))))), (12, .e (.one (.pure (.val (.int .i64 v5.2.2)))))] [(90000, .vec 3 (v5.1.map Af))]) (fun v6 => mk [(11, .e (.one (.pure (.val (.int .i64 v6.2)))))] [(90000, .vec 3 (v6.1.map Af))]) (fun _ _ => rfl) (sm [] _ _ rfl rfl) (fun j5 n5 v5 h => ?_) (fun v6 s h hs => ?_)
 ·unfold Bw at h
  refine AI (Ab ?_)
  refine AB (L := Bz N p1 p4 v5) h (fun v7 => mk [(0, .e (.one (.own 90000))), (1, .e (.one (.pure (.val (.int .i64 p1))))), (4, .e (.one (.clo (BD (Dv true Af true Af) Co p4)))), (11, .e (.one (.pure (.val (.int .i64 v7))))), (12, .e (.one (.pure (.val (.int .i64 v5.2.2)))))] [(90000, .vec 3 (v5.1.map Af))]) (fun v8 => mk [(0, .e (.one (.own 90000))), (1, .e (.one (.pure (.val (.int .i64 p1))))), (4, .e (.one (.clo (BD (Dv true Af true Af) Co p4)))), (11, .e (.one (.pure (.val (.int .i64 v8))))), (12, .e (.one (.pure (.val (.int .i64 v5.2.2)))))] [(90000, .vec 3 (v5.1.map Af))]) (fun _ _ => rfl) (sm [] _ _ rfl rfl) (fun j7 n7 v7 h => ?_) (fun v8 s h hs => ?_)
  ·unfold Bz at h
   refine Ab ?_
   refine AO h (fun v9 => mk [(0, .e (.one (.own 90000))), (1, .e (.one (.pure (.val (.int .i64 p1))))), (4, .e (.one (.clo (BD (Dv true Af true Af) Co p4)))), (11, .e (.one (.pure (.val (.int .i64 v7))))), (12, .e (.one (.pure (.val (.int .i64 v5.2.2))))), (47, .e (.one (.pure (.val (.bool v9)))))] [(90000, .vec 3 (v5.1.map Af))]) (fun j9 h => ?_) (fun v9 h => ?_)
   ·refine Aa Ac rfl (qm rfl (qm rfl (Id rfl (qm rfl ?_))))
    refine AA (t := 34) rfl (fun c10 => ?_) (fun c10 => ?_)
    ·have h := Am c10 h
     refine qm rfl (qm rfl (qm rfl ?_))
     obtain ⟨v11, a11, b11, h⟩ := Ah h
     refine qI AD Aw a11 (Ag b11) rfl (qJ AU Aw (Ag b11) rfl (qm rfl (qm rfl ?_)))
     obtain ⟨v12, a12, b12, h⟩ := Ah h
     refine qI AD Aw a12 (Ag b12) rfl (qJ AU Aw (Ag b12) rfl ?_)
     obtain ⟨v13, a13, h⟩ := bind_some h
     refine Dy (ds0 := [_, _]) (ar := (Dv true Af true Af) ((v11, v12))) (.g rfl rfl) rfl rfl ⟨rfl, rfl, trivial⟩ rfl rfl rfl (DA (Eb _ _ _ _ Bc Bc) a13) ?_
     refine AT rfl (Cy rfl (qp rfl (AF (by kernel_rfl) ?_)))
     exact As _ h (sm [] _ _ rfl rfl)
    ·have h := An c10 h
     refine qn rfl (qn rfl (qn rfl (qn rfl (qn rfl (qn rfl (qn rfl (qn rfl (qn rfl (qn rfl (qn rfl (qn rfl (qp rfl (AF (by kernel_rfl) ?_)))))))))))))
     exact As _ h (sm [] _ _ rfl rfl)
   ·refine Ao rfl (fun c14 => ?_) (fun c14 => ?_)
    ·have h := Am c14 h
     refine Ap (AI (Aa Ac rfl (qm rfl (AQ rfl (qa rfl (Ad ?_))))))
     exact As _ h (sm [] _ _ rfl rfl)
    ·have h := An c14 h
     refine AS ?_
     exact As _ h (sm [] _ _ rfl rfl)
  ·refine Ak hs (Ab ?_)
   refine AB (L := Br N p1 p4 v5 v8) h (fun v15 => mk [(0, .e (.one (.own 90000))), (1, .e (.one (.pure (.val (.int .i64 p1))))), (4, .e (.one (.clo (BD (Dv true Af true Af) Co p4)))), (11, .e (.one (.pure (.val (.int .i64 v8))))), (12, .e (.one (.pure (.val (.int .i64 v15)))))] [(90000, .vec 3 (v5.1.map Af))]) (fun v16 => mk [(0, .e (.one (.own 90000))), (1, .e (.one (.pure (.val (.int .i64 p1))))), (4, .e (.one (.clo (BD (Dv true Af true Af) Co p4)))), (11, .e (.one (.pure (.val (.int .i64 v8))))), (12, .e (.one (.pure (.val (.int .i64 v16)))))] [(90000, .vec 3 (v5.1.map Af))]) (fun _ _ => rfl) (sm [] _ _ rfl rfl) (fun j15 n15 v15 h => ?_) (fun v16 s h hs => ?_)
   ·unfold Br at h
    refine Ab ?_
    refine AO h (fun v17 => mk [(0, .e (.one (.own 90000))), (1, .e (.one (.pure (.val (.int .i64 p1))))), (4, .e (.one (.clo (BD (Dv true Af true Af) Co p4)))), (11, .e (.one (.pure (.val (.int .i64 v8))))), (12, .e (.one (.pure (.val (.int .i64 v15))))), (65, .e (.one (.pure (.val (.bool v17)))))] [(90000, .vec 3 (v5.1.map Af))]) (fun j17 h => ?_) (fun v17 h => ?_)
    ·refine Aa Ac rfl (qm rfl (qm rfl (Id rfl (qm rfl ?_))))
     refine AA (t := 53) rfl (fun c18 => ?_) (fun c18 => ?_)
     ·have h := Am c18 h
      refine qm rfl (qm rfl (qm rfl ?_))
      obtain ⟨v19, a19, b19, h⟩ := Ah h
      refine qI AD Aw a19 (Ag b19) rfl (qJ AU Aw (Ag b19) rfl (qm rfl (qm rfl ?_)))
      obtain ⟨v20, a20, b20, h⟩ := Ah h
      refine qI AD Aw a20 (Ag b20) rfl (qJ AU Aw (Ag b20) rfl ?_)
      obtain ⟨v21, a21, h⟩ := bind_some h
      refine Dy (ds0 := [_, _]) (ar := (Dv true Af true Af) ((v19, v20))) (.g rfl rfl) rfl rfl ⟨rfl, rfl, trivial⟩ rfl rfl rfl (DA (Eb _ _ _ _ Bc Bc) a21) ?_
      refine AT rfl (qp rfl (AF (by kernel_rfl) ?_))
      exact As _ h (sm [] _ _ rfl rfl)
     ·have h := An c18 h
      refine qn rfl (qn rfl (qn rfl (qn rfl (qn rfl (qn rfl (qn rfl (qn rfl (qn rfl (qn rfl (qn rfl (qp rfl (AF (by kernel_rfl) ?_))))))))))))
      exact As _ h (sm [] _ _ rfl rfl)
    ·refine Ao rfl (fun c22 => ?_) (fun c22 => ?_)
     ·have h := Am c22 h
      refine Ap (AI (Aa Ac rfl (qm rfl (Cl rfl (qa rfl (Ad ?_))))))
      exact As _ h (sm [] _ _ rfl rfl)
     ·have h := An c22 h
      refine AS ?_
      exact As _ h (sm [] _ _ rfl rfl)
   ·refine Ak hs (Ab (Ab (Aa Ac rfl (qm rfl (qm rfl (Es rfl (Ad ?_)))))))
    refine Ao rfl (fun c23 => ?_) (fun c23 => ?_)
    ·have h := Am c23 h
     refine AS ?_
     exact As _ h (sm [] _ _ rfl rfl)
    ·have h := An c23 h
     refine Ap (Ab (Aa Ac rfl (qm rfl (qm rfl (qm rfl (qm rfl (qm rfl (qm rfl ?_))))))))
     obtain ⟨v24, a24, b24, h⟩ := Ah h
     refine qI AD Aw a24 (Ag b24) rfl (qJ AU Aw (Ag b24) rfl (qm rfl (qm rfl ?_)))
     obtain ⟨v25, a25, b25, h⟩ := Ah h
     refine qI AD Aw a25 (Ag b25) rfl (qJ AU Aw (Ag b25) rfl ?_)
     obtain ⟨v26, a26, b26, h⟩ := Ah h
     refine qI AD Aw a26 (Ag b26) rfl ?_
     refine AX rfl rfl rfl rfl (Ag b26) rfl Aw rfl (AV rfl) (AY Af v5.1 _ v24) ?_
     obtain ⟨v27, a27, b27, h⟩ := Ah h
     refine qI AD Aw a27 (Ag b27) rfl ?_
     refine AX rfl rfl rfl rfl (Ag b27) rfl Aw rfl (AV rfl) (AY Af (v5.1.set ((v8).toNat) v24) _ v25) ?_
     refine AF (by kernel_rfl) (Ab (Aa Ac rfl (qm rfl (AQ rfl (qa rfl (Ad (Aa Ac rfl (qm rfl (Cl rfl (qa rfl (Ad ?_)))))))))))
     exact As _ h (sm [] _ _ rfl rfl)
 ·refine Ak hs (Ab (Aa Ac rfl (qm rfl (qa rfl (Ad ?_)))))
  obtain rfl := sj h
  refine Ak (sm [] [(10, .e (.one (.pure (.val (.int .i64 v6.2)))))] [(90000, .vec 3 (v6.1.map Af))] rfl rfl) (Ax ?_)
  exact ⟨⟨[_], ⟨.tmp _ _ rfl, trivial⟩, rfl⟩, ⟨rfl, trivial⟩, trivial⟩
end Go.Lift

