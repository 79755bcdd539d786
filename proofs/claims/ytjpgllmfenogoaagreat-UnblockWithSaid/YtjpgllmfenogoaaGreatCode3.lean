/- Lemmas for UnblockWithSaid, which YtjpgllmfenogoaaGreatFinU6 proves. -/
import Derived.Test.YtjpgllmfenogoaaGreatCode1
namespace Go.Lift
open IntKind renaming wrap → wI
set_option maxRecDepth 10000
open Go.RowKit
open Go.Proofs
theorem K3 (N : Nat) (p0 : Ah) (p1 : AC) (r : Bool × Int) (h : Hj N p0 p1 = some r) : Az Tryz.prog 63 [.e (.agg [sC (p0.fb.map Aj), sC (p0.fc.map Aj), sC (p0.fd.map Aj), sC (p0.fa.map Ak)]), .e (.agg [sC (p1.fg.map Aj), sC (p1.ff.map Aj), sC (p1.fi.map DO)])] [] (.tup [.one (.pure (.val (.bool r.1))), .one (iC r.2)]) := by
 unfold Hj at h
 refine Ar (n := 22) (rs := [.tmp 4, .tmp 5]) Tryz.func63 rfl rfl rfl (AY rfl) (AY rfl) rfl fun w0 S0 => ?_
 refine Ad (Aa Ae rfl (qb rfl (qb rfl (qa rfl (qa rfl (Af (Ad (Aa Ae rfl (qL C9 Ck rfl (qL D6 CF rfl ?_))))))))))
 obtain ⟨v1, a1, h⟩ := bind_some h
 refine AG [] (OC N p0 p1 v1 a1) V4 rfl (qm rfl (qx rfl (qx rfl (qx rfl (qz Hd rfl (qz G8 rfl (qs CF rfl (qs AE rfl (qa rfl (Af (Ad (Aa Ae rfl (qm rfl (Af (AJ (Ad (Aa Ae rfl (CR rfl (qa rfl (Af ?_))))))))))))))))))))
 refine Aq rfl (fun c2 => ?_) (fun c2 => ?_)
 ·have h := Ao c2 h
  refine Ad (Aa Ae rfl (qa rfl (qa rfl (Af ?_))))
  obtain rfl := sj h
  refine Al (sm [] [(4, bD false), (5, iD 0)] [] rfl rfl) (Ay ?_)
  exact ⟨⟨[_, _], ⟨.tmp _ _ rfl, ⟨.tmp _ _ rfl, tv⟩⟩, rfl⟩, tv⟩
 ·have h := An c2 h
  refine Ad (Aa Ae rfl (CR rfl (qa rfl (Af ?_))))
  refine Aq rfl (fun c3 => ?_) (fun c3 => ?_)
  ·have h := Ao c3 h
   refine Ad (Aa Ae rfl (qa rfl (qa rfl (Af ?_))))
   obtain rfl := sj h
   refine Al (sm [] [(4, bD true), (5, iD 0)] [] rfl rfl) (Ay ?_)
   exact ⟨⟨[_, _], ⟨.tmp _ _ rfl, ⟨.tmp _ _ rfl, tv⟩⟩, rfl⟩, tv⟩
  ·have h := An c3 h
   refine Ad (Aa Ae rfl (qm rfl (qa rfl (qa rfl (Af ?_)))))
   obtain rfl := sj h
   refine Al (sm [] [(4, bD false), (5, iD v1.2.2)] [] rfl rfl) (Ay ?_)
   exact ⟨⟨[_, _], ⟨.tmp _ _ rfl, ⟨.tmp _ _ rfl, tv⟩⟩, rfl⟩, tv⟩
theorem MO (N : Nat) (p0 : AC) (r : ByteArray) (h : Ih N p0 = some r) : Az Tryz.prog 88 [.e (.agg [sC (p0.fg.map Aj), sC (p0.ff.map Aj), sC (p0.fi.map DO)])] [] (pD (.val (.string r))) := by
 unfold Ih at h
 refine Ar (n := 53) (rs := [.tmp 2]) Tryz.func88 rfl rfl rfl (AY rfl) (AY rfl) rfl fun w0 S0 => ?_
 refine Ad (Aa Ae rfl (qb rfl (qa rfl (Af (Ad (Aa Ae rfl (qf E3 rfl (ql Ch rfl (AM AQ rfl (IB rfl (qf FR rfl (ql Ln rfl (AM G9 rfl (AO rfl ?_))))))))))))))
 obtain ⟨c1, h⟩ := AN h
 refine JD (.p rfl) rfl rfl rfl MA UV Ti (AY rfl) U6 rfl rfl rfl c1.1 c1.2.1 c1.2.2 (NZ DO _ ((0 : Int))) ?_
 refine qa rfl (Af (Ad (Ad (Aa Ae rfl (qf E3 rfl (ql Ch rfl (AM AQ rfl (qm rfl (Af ?_)))))))))
 refine AB (L := GS N p0) h (fun v2 => mk [(1, oD (.ptr 1 0)), (3, oD (.own 2001)), (18, iD ((p0.fg.length : Int))), (19, iD v2.2)] [(1, .box [sC (p0.fg.map Aj), sC (p0.ff.map Aj), sC (p0.fi.map DO)]), (2001, .vec 1 (v2.1.map DO))]) (fun v3 => mk [(1, oD (.ptr 1 0)), (3, oD (.own 2002))] [(1, .box [sC (p0.fg.map Aj), sC (p0.ff.map Aj), sC (p0.fi.map DO)]), (2002, .vec 1 (v3.map DO))]) (fun _ _ => rfl) (sm [(2001, 15)] _ _ rfl rfl) (fun j2 n2 v2 h => ?_) (fun v3 s h hs => ?_)
 ·unfold GS at h
  refine Ad (Aa Ae rfl (AX rfl (Af (Ad ?_))))
  refine Aq rfl (fun c4 => ?_) (fun c4 => ?_)
  ·have h := Ao c4 h
   refine As (Ad (AJ (Ad (Aa Ae rfl (qm rfl (qa rfl (Af (Aa Ae rfl (qm rfl (qf E3 rfl (ql Ch rfl (qm rfl ?_))))))))))))
   obtain ⟨v5, a5, b5, h⟩ := Ai h
   refine qi AQ Fh a5 (Ag b5) rfl (qk DA rfl (H2 Tz Vj rfl (qf Ex rfl (ql Ch rfl (qm rfl ?_)))))
   obtain ⟨v6, a6, b6, h⟩ := Ai h
   refine qi AQ Fh a6 (Ag b6) rfl (qk DA rfl (AO rfl (H2 Tz Vj rfl (Fx MA UV U6 rfl ?_))))
   obtain ⟨c7, h⟩ := AN h
   refine Gr (f := DO) MA MA UV Ti U6 c7 rfl (qa rfl (AL (by kernel_rfl) (Aa Ae rfl (AO rfl (qm rfl (Af ?_))))))
   exact Au _ h (sm [(2001, 37)] _ _ rfl rfl)
  ·have h := An c4 h
   refine AP ?_
   exact Au _ h (sm [(2002, 2001)] _ _ rfl rfl)
 ·refine Al hs (Ad (Ad (Aa Ae rfl (qf FR rfl (ql Ln rfl (AM G9 rfl (qm rfl (Af ?_))))))))
  refine AB (L := GU N p0) h (fun v8 => mk [(3, oD (.own 2003)), (40, pD (.sl (p0.fi.map DO))), (41, iD ((p0.fi.length : Int))), (42, iD v8.2)] [(2003, .vec 1 (v8.1.map DO))]) (fun v9 => mk [(3, oD (.own 2004))] [(2004, .vec 1 (v9.map DO))]) (fun _ _ => rfl) (sm [(2003, 2002)] _ _ rfl rfl) (fun j8 n8 v8 h => ?_) (fun v9 s h hs => ?_)
  ·unfold GU at h
   refine Ad (Aa Ae rfl (AX rfl (Af (Ad ?_))))
   refine Aq rfl (fun c10 => ?_) (fun c10 => ?_)
   ·have h := Ao c10 h
    refine As (Ad (AJ (Ad (Aa Ae rfl ?_))))
    obtain ⟨v11, a11, b11, h⟩ := Ai h
    refine qi G9 J0 a11 (Ag b11) rfl (qk Pu rfl (qa rfl (Af (Aa Ae rfl (qm rfl (qm rfl (Fx MA UV U6 rfl ?_)))))))
    obtain ⟨c12, h⟩ := AN h
    refine Gr (f := DO) MA MA UV Ti U6 c12 rfl (qa rfl (Af (Aa Ae rfl (AO rfl (qm rfl (Af ?_))))))
    exact Au _ h (sm [(2003, 49)] _ _ rfl rfl)
   ·have h := An c10 h
    refine AP ?_
    exact Au _ h (sm [(2004, 2003)] _ _ rfl rfl)
  ·refine Al hs (Ad (Aa Ae rfl (qm rfl ?_)))
   refine Rx v9 (.p rfl) rfl (RO DO _ _ _) ⟨rfl, tv⟩ rfl Ub R1 ?_
   refine qa rfl (Af ?_)
   obtain rfl := sj h
   refine Al (sm [] [(2, pD (.val (.string ((H5 v9)))))] [] rfl rfl) (Ay ?_)
   exact ⟨⟨[_], ⟨.tmp _ _ rfl, tv⟩, rfl⟩, tv⟩
theorem PW (N : Nat) (p0 : Ah) (r : (List Ax)) (h : Js N p0 = some r) : Az Tryz.prog 126 [.e (.agg [sC (p0.fb.map Aj), sC (p0.fc.map Aj), sC (p0.fd.map Aj), sC (p0.fa.map Ak)])] [(3, r.map AK)] (oD (.own 0)) := by
 unfold Js at h
 refine Ar (n := 54) (rs := [.tmp 2]) Tryz.func126 rfl rfl rfl (AY rfl) (AY rfl) rfl fun w0 S0 => ?_
 refine Ad (Aa Ae rfl (qb rfl (qa rfl (Af (Ad (Aa Ae rfl (qa rfl (Af (Ad (Ad (Aa Ae rfl (qf CT rfl (ql Ch rfl (AM AQ rfl (qm rfl (Af ?_))))))))))))))))
 refine AB (L := GI N p0) h (fun v1 => mk [(1, oD (.ptr 1 0)), (3, oD (.own 2001)), (10, pD (.sl (p0.fb.map Aj))), (11, iD ((p0.fb.length : Int))), (12, iD v1.2)] [(1, .box [sC (p0.fb.map Aj), sC (p0.fc.map Aj), sC (p0.fd.map Aj), sC (p0.fa.map Ak)]), (2001, .vec 3 (v1.1.map AK))]) (fun v2 => mk [(1, oD (.ptr 1 0)), (3, oD (.own 2002))] [(1, .box [sC (p0.fb.map Aj), sC (p0.fc.map Aj), sC (p0.fd.map Aj), sC (p0.fa.map Ak)]), (2002, .vec 3 (v2.map AK))]) (fun _ _ => rfl) ((Bx 3 2005 3 rfl rfl rfl).trans (sm [(2001, 2005)] _ _ rfl rfl)) (fun j1 n1 v1 h => ?_) (fun v2 s h hs => ?_)
 ·unfold GI at h
  refine Ad (Aa Ae rfl (AX rfl (Af (Ad ?_))))
  refine Aq rfl (fun c3 => ?_) (fun c3 => ?_)
  ·have h := Ao c3 h
   refine As (Ad (AJ (Ad (Aa Ae rfl (qm rfl ?_)))))
   obtain ⟨v4, a4, b4, h⟩ := Ai h
   refine qi AQ Fh a4 (Ag b4) rfl (qk DA rfl (qa rfl (qa rfl (Af (Ad (Aa Ae rfl (qm rfl (qm rfl (Af ?_)))))))))
   refine AB (L := GQ N v1 v4) h (fun v5 => mk [(1, oD (.ptr 1 0)), (3, oD (.own 2003)), (4, iD v1.2), (10, pD (.sl (p0.fb.map Aj))), (11, iD ((p0.fb.length : Int))), (12, iD v1.2), (17, iD v4), (18, iD v5.2)] [(1, .box [sC (p0.fb.map Aj), sC (p0.fc.map Aj), sC (p0.fd.map Aj), sC (p0.fa.map Ak)]), (2003, .vec 3 (v5.1.map AK))]) (fun v6 => mk [(1, oD (.ptr 1 0)), (3, oD (.own 2004)), (10, pD (.sl (p0.fb.map Aj))), (11, iD ((p0.fb.length : Int))), (12, iD v1.2)] [(1, .box [sC (p0.fb.map Aj), sC (p0.fc.map Aj), sC (p0.fd.map Aj), sC (p0.fa.map Ak)]), (2004, .vec 3 (v6.map AK))]) (fun _ _ => rfl) (sm [(2003, 2001)] _ _ rfl rfl) (fun j5 n5 v5 h => ?_) (fun v6 s h hs => ?_)
   ·unfold GQ at h
    refine Ad (Aa Ae rfl (AX rfl (Af (Ad ?_))))
    refine Aq rfl (fun c7 => ?_) (fun c7 => ?_)
    ·have h := Ao c7 h
     refine As (Ad (AJ (Ad (Aa Ae rfl (qm rfl (qa rfl (Af (Aa Ae rfl (qm rfl (qm rfl (qm rfl (Cu Ie RD rfl (Fx EW DD Ie rfl ?_)))))))))))))
     obtain ⟨c8, h⟩ := AN h
     refine Gr (f := AK) EW EW DD N8 Ie c8 rfl (qa rfl (Af (Aa Ae rfl (AO rfl (qm rfl (Af ?_))))))
     exact Au _ h (sm [(2003, 26)] _ _ rfl rfl)
    ·have h := An c7 h
     refine AP ?_
     exact Au _ h (sm [(2004, 2003)] _ _ rfl rfl)
   ·refine Al hs (Aa Ae rfl (AO rfl (qm rfl (Af ?_))))
    exact Au _ h (sm [(2001, 2004)] _ _ rfl rfl)
  ·have h := An c3 h
   refine AP ?_
   exact Au _ h (sm [(2002, 2001)] _ _ rfl rfl)
 ·refine Al hs (Ad (Ad (Aa Ae rfl (qf CT rfl (ql Ch rfl (AM AQ rfl (qm rfl (Af ?_))))))))
  refine AB (L := GW N p0) h (fun v9 => mk [(1, oD (.ptr 1 0)), (3, oD (.own 2006)), (31, iD ((p0.fb.length : Int))), (32, iD v9.2)] [(1, .box [sC (p0.fb.map Aj), sC (p0.fc.map Aj), sC (p0.fd.map Aj), sC (p0.fa.map Ak)]), (2006, .vec 3 (v9.1.map AK))]) (fun v10 => mk [(1, oD (.ptr 1 0)), (3, oD (.own 2007))] [(1, .box [sC (p0.fb.map Aj), sC (p0.fc.map Aj), sC (p0.fd.map Aj), sC (p0.fa.map Ak)]), (2007, .vec 3 (v10.map AK))]) (fun _ _ => rfl) (sm [(2006, 2002)] _ _ rfl rfl) (fun j9 n9 v9 h => ?_) (fun v10 s h hs => ?_)
  ·unfold GW at h
   refine Ad (Aa Ae rfl (AX rfl (Af (Ad ?_))))
   refine Aq rfl (fun c11 => ?_) (fun c11 => ?_)
   ·have h := Ao c11 h
    refine As (Ad (AJ (Ad (Aa Ae rfl (qm rfl (qa rfl (Af (Aa Ae rfl (qm rfl (qm rfl (Cu Ie RD rfl (Fx EW DD Ie rfl ?_))))))))))))
    obtain ⟨c12, h⟩ := AN h
    refine Gr (f := AK) EW EW DD N8 Ie c12 rfl (qa rfl (Af (Aa Ae rfl (AO rfl (qm rfl (Af ?_))))))
    exact Au _ h (sm [(2006, 39)] _ _ rfl rfl)
   ·have h := An c11 h
    refine AP ?_
    exact Au _ h (sm [(2007, 2006)] _ _ rfl rfl)
  ·refine Al hs (Ad (Ad (Aa Ae rfl (qf Bt rfl (ql EP rfl (AM Cw rfl (qm rfl (Af ?_))))))))
   refine AB (L := Gg N p0) h (fun v13 => mk [(3, oD (.own 2008)), (43, iD ((p0.fa.length : Int))), (44, iD v13.2)] [(2008, .vec 3 (v13.1.map AK))]) (fun v14 => mk [(3, oD (.own 2009))] [(2009, .vec 3 (v14.map AK))]) (fun _ _ => rfl) (sm [(2008, 2007)] _ _ rfl rfl) (fun j13 n13 v13 h => ?_) (fun v14 s h hs => ?_)
   ·unfold Gg at h
    refine Ad (Aa Ae rfl (AX rfl (Af (Ad ?_))))
    refine Aq rfl (fun c15 => ?_) (fun c15 => ?_)
    ·have h := Ao c15 h
     refine As (Ad (AJ (Ad (Aa Ae rfl (qm rfl (qa rfl (Af (Aa Ae rfl (qm rfl (qm rfl (Cu Ie RD rfl (Fx EW DD Ie rfl ?_))))))))))))
     obtain ⟨c16, h⟩ := AN h
     refine Gr (f := AK) EW EW DD N8 Ie c16 rfl (qa rfl (Af (Aa Ae rfl (AO rfl (qm rfl (Af ?_))))))
     exact Au _ h (sm [(2008, 51)] _ _ rfl rfl)
    ·have h := An c15 h
     refine AP ?_
     exact Au _ h (sm [(2009, 2008)] _ _ rfl rfl)
   ·refine Al hs (Ad (Aa Ae rfl (qm rfl (qa rfl (Af ?_)))))
    obtain rfl := sj h
    refine Al (sm [(1000, 2009)] [(2, oD (.own 1000))] [(1000, .vec 3 (v14.map AK))] rfl rfl) (Ay ?_)
    exact ⟨⟨[_], ⟨.tmp _ _ rfl, tv⟩, rfl⟩, ⟨rfl, tv⟩⟩
theorem MS (N : Nat) (p0 : AC) (r : AC) (h : HL N p0 = some r) : Az Tryz.prog 148 [.e (.agg [sC (p0.fg.map Aj), sC (p0.ff.map Aj), sC (p0.fi.map DO)])] [(1, r.fg.map Aj), (1, r.ff.map Aj), (1, r.fi.map DO)] (.e (.agg [.own 0, .own 1, .own 2])) := by
 unfold HL at h
 refine Ar (n := 13) (rs := [.cell 2 64]) Tryz.func148 rfl rfl rfl (AY rfl) (AY rfl) rfl fun w0 S0 => ?_
 refine Ad (Aa Ae rfl (qb rfl (qz Hd rfl (Af (Ad (Aa Ae rfl (qf E3 rfl (ql Ch rfl ?_))))))))
 obtain ⟨v1, a1, h⟩ := bind_some h
 refine AG [2001] (Ca N p0.fg v1 a1) Pg rfl (qf Ex rfl (ql Ch rfl ?_))
 obtain ⟨v2, a2, h⟩ := bind_some h
 refine AG [2002] (Ca N p0.ff v2 a2) Pg rfl (qf FR rfl (ql Ln rfl ?_))
 obtain ⟨v3, a3, h⟩ := bind_some h
 refine AG [2003] (EV N p0.fi v3 a3) ST rfl (Cu Hd MZ rfl (qs CF rfl (AL (by kernel_rfl) ?_)))
 obtain rfl := sj h
 refine Al (sm [(1000, 2001), (1001, 2002), (1002, 2003)] [(2, oD (.ptr 2 0))] [(2, .box [.own 1000, .own 1001, .own 1002]), (1000, .vec 1 (v1.map Aj)), (1001, .vec 1 (v2.map Aj)), (1002, .vec 1 (v3.map DO))] rfl rfl) (Ay ?_)
 exact ⟨⟨[_], ⟨.cellN _ _ _ _ _ _ _ rfl rfl D6 CF rfl rfl (Kt rfl), tv⟩, rfl⟩, ⟨rfl, rfl, rfl, tv⟩⟩
theorem Kc (N : Nat) (p0 : Av) (r : Bool) (h : GZ N p0 = some r) : Az Tryz.prog 156 [.e (.agg [iC p0.fe, iC p0.fh, iC p0.fm, .pure (.val (.bool p0.fo)), sC (p0.fj.map (CL eB)), sC (p0.fk.map (CL eB))])] [] (bD r) := by
 unfold GZ at h
 refine Ar (n := 11) (rs := [.tmp 2]) Tryz.func156 rfl rfl rfl (AY rfl) (AY rfl) rfl fun w0 S0 => ?_
 refine Ad (Aa Ae rfl (qb rfl (qa rfl (Af ?_))))
 refine AS h (fun v1 => mk [(2, bD v1)] []) (fun j1 h => ?_) (fun v1 h => ?_)
 ·refine Aa Ae rfl (qf Fr rfl (ql DA rfl (CR rfl (qm rfl ?_))))
  refine AH (t := 6) rfl (fun c2 => ?_) (fun c2 => ?_)
  ·have h := Ao c2 h
   refine qn rfl (qn rfl (qn rfl (qp rfl (qa rfl (Af ?_)))))
   exact Au _ h (sm [] _ _ rfl rfl)
  ·have h := An c2 h
   refine qf Fr rfl (ql DA rfl (CR rfl (qp rfl (qa rfl (Af ?_)))))
   exact Au _ h (sm [] _ _ rfl rfl)
 ·obtain rfl := sj h
  refine Al (sm [] [(2, bD v1)] [] rfl rfl) (Ay ?_)
  exact ⟨⟨[_], ⟨.tmp _ _ rfl, tv⟩, rfl⟩, tv⟩
theorem NK (N : Nat) (p0 : Ah) (p1 : AC) (p2 : Ax) (r : Bool × (List Int) × (List Int)) (h : Ip N p0 p1 p2 = some r) : By Tryz.prog 149 [.e (.agg [sC (p0.fb.map Aj), sC (p0.fc.map Aj), sC (p0.fd.map Aj), sC (p0.fa.map Ak)]), oD (.ptr 90000 0), .e (.agg [iC p2.fe, iC p2.fp, iC p2.fu])] [(.box [.own 90001, .own 90002, .own 90003], .box [.own 90001, .own 90002, .own 90003]), (.vec 1 (p1.fg.map Aj), .vec 1 (p1.fg.map Aj)), (.vec 1 (p1.ff.map Aj), .vec 1 (r.2.1.map Aj)), (.vec 1 (p1.fi.map DO), .vec 1 (r.2.2.map DO))] [] (bD r.1) := by
 unfold Ip at h
 refine A3 (n := 70) (rs := [.tmp 6]) Tryz.func149 rfl rfl rfl (AY rfl) (AY rfl) rfl rfl (AY rfl) rfl (AY rfl) fun w0 S0 GL => ?_
 refine Al (sm [] [(0, .e (.agg [sC (p0.fb.map Aj), sC (p0.fc.map Aj), sC (p0.fd.map Aj), sC (p0.fa.map Ak)])), (1, oD (.ptr 90000 0)), (2, .e (.agg [iC p2.fe, iC p2.fp, iC p2.fu]))] [(90000, .box [.own 90001, .own 90002, .own 90003]), (90001, .vec 1 (p1.fg.map Aj)), (90002, .vec 1 (p1.ff.map Aj)), (90003, .vec 1 (p1.fi.map DO))] rfl rfl) (Ad (Aa Ae rfl (qb rfl (qb rfl (qa rfl (Af (Ad ?_)))))))
 refine AS h (fun v1 => mk [(1, oD (.ptr 90000 0)), (3, oD (.ptr 3 0)), (5, oD (.ptr 5 0)), (30, bD v1)] [(3, .box [sC (p0.fb.map Aj), sC (p0.fc.map Aj), sC (p0.fd.map Aj), sC (p0.fa.map Ak)]), (5, .box [iC p2.fe, iC p2.fp, iC p2.fu]), (90000, .box [.own 90001, .own 90002, .own 90003]), (90001, .vec 1 (p1.fg.map Aj)), (90002, .vec 1 (p1.ff.map Aj)), (90003, .vec 1 (p1.fi.map DO))]) (fun j1 h => ?_) (fun v1 h => ?_)
 ·refine Aa Ae rfl (qm rfl (MY rfl (qf Ex rfl (ql Ch rfl (qf Fe rfl (ql DA rfl ?_))))))
  obtain ⟨v2, a2, b2, h⟩ := Ai h
  refine qI AQ Fh a2 (Ag b2) rfl (qj DA (Ag b2) rfl (D4 rfl (qm rfl ?_)))
  refine AH (t := 18) rfl (fun c3 => ?_) (fun c3 => ?_)
  ·have h := Ao c3 h
   refine qn rfl (qn rfl (qn rfl (qn rfl (qn rfl (qn rfl (qn rfl (qn rfl (qn rfl (qn rfl (qn rfl (qp rfl (AL (by kernel_rfl) ?_))))))))))))
   exact Au _ h (sm [] _ _ rfl rfl)
  ·have h := An c3 h
   refine qm rfl (MY rfl (qf E3 rfl (ql Ch rfl (qf Fe rfl (ql DA rfl ?_)))))
   obtain ⟨v4, a4, b4, h⟩ := Ai h
   refine qI AQ Fh a4 (Ag b4) rfl (qj DA (Ag b4) rfl (qf IC rfl (ql DA rfl (CR rfl (qp rfl (AL (by kernel_rfl) ?_))))))
   exact Au _ h (sm [] _ _ rfl rfl)
 ·refine Aq rfl (fun c5 => ?_) (fun c5 => ?_)
  ·have h := Ao c5 h
   refine Ad (Aa Ae rfl (qa rfl (Af ?_)))
   obtain rfl := sj h
   refine Al (sm [] [(6, bD false)] [(90000, .box [.own 90001, .own 90002, .own 90003]), (90001, .vec 1 (p1.fg.map Aj)), (90002, .vec 1 (p1.ff.map Aj)), (90003, .vec 1 (p1.fi.map DO))] rfl rfl) (Ay ?_)
   exact ⟨⟨[_], ⟨.tmp _ _ rfl, tv⟩, rfl⟩, ⟨rfl, rfl, rfl, rfl, tv⟩, tv⟩
  ·have h := An c5 h
   refine As (Ad (Aa Ae rfl (qm rfl (MY rfl (qf Ex rfl (ql Ch rfl (qf Fe rfl (ql DA rfl (qf IC rfl (ql DA rfl ?_))))))))))
   obtain ⟨v6, a6, b6, h⟩ := Ai h
   refine qI AQ Fh a6 (Ag b6) rfl ?_
   refine A7 rfl rfl rfl rfl (Ag b6) rfl Fh rfl (AY rfl) (A0 Aj p1.ff _ p2.fu) ?_
   refine AL (by kernel_rfl) (Ad (Ad (Aa Ae rfl (qf Bt rfl (ql EP rfl (AM Cw rfl (qm rfl (Af ?_))))))))
   refine AB (L := FN N p0 p2) h (fun v7 => mk [(1, oD (.ptr 90000 0)), (5, oD (.ptr 5 0)), (41, pD (.sl (p0.fa.map Ak))), (42, iD ((p0.fa.length : Int))), (43, iD v7.2)] [(5, .box [iC p2.fe, iC p2.fp, iC p2.fu]), (90000, .box [.own 90001, .own 90002, .own 90003]), (90001, .vec 1 (p1.fg.map Aj)), (90002, .vec 1 ((p1.ff.set ((p2.fp).toNat) p2.fu).map Aj)), (90003, .vec 1 (v7.1.map DO))]) (fun v8 => mk [] [(90000, .box [.own 90001, .own 90002, .own 90003]), (90001, .vec 1 (p1.fg.map Aj)), (90002, .vec 1 ((p1.ff.set ((p2.fp).toNat) p2.fu).map Aj)), (90003, .vec 1 (v8.map DO))]) (fun _ _ => rfl) (sm [] _ _ rfl rfl) (fun j7 n7 v7 h => ?_) (fun v8 s h hs => ?_)
   ·unfold FN at h
    refine Ad (Aa Ae rfl (AX rfl (Af (Ad ?_))))
    refine Aq rfl (fun c9 => ?_) (fun c9 => ?_)
    ·have h := Ao c9 h
     refine As ?_
     refine AS h (fun v10 => mk [(1, oD (.ptr 90000 0)), (5, oD (.ptr 5 0)), (41, pD (.sl (p0.fa.map Ak))), (42, iD ((p0.fa.length : Int))), (43, iD v7.2)] [(5, .box [iC p2.fe, iC p2.fp, iC p2.fu]), (90000, .box [.own 90001, .own 90002, .own 90003]), (90001, .vec 1 (p1.fg.map Aj)), (90002, .vec 1 ((p1.ff.set ((p2.fp).toNat) p2.fu).map Aj)), (90003, .vec 1 (v10.map DO))]) (fun j10 h => ?_) (fun v10 h => ?_)
     ·refine AJ (Ad (Aa Ae rfl (qm rfl ?_)))
      obtain ⟨v11, a11, b11, h⟩ := Ai h
      refine qi Cw Dc a11 (Ag b11) rfl (qK Hw Dc rfl (qz IS rfl (qa rfl (qs Dc rfl (Af ?_)))))
      refine AS h (fun v12 => mk [(1, oD (.ptr 90000 0)), (5, oD (.ptr 5 0)), (7, iD v7.2), (41, pD (.sl (p0.fa.map Ak))), (42, iD ((p0.fa.length : Int))), (43, iD v7.2), (56, bD v12)] [(5, .box [iC p2.fe, iC p2.fp, iC p2.fu]), (90000, .box [.own 90001, .own 90002, .own 90003]), (90001, .vec 1 (p1.fg.map Aj)), (90002, .vec 1 ((p1.ff.set ((p2.fp).toNat) p2.fu).map Aj)), (90003, .vec 1 (v7.1.map DO))]) (fun j12 h => ?_) (fun v12 h => ?_)
      ·refine Aa Ae rfl (qf ES rfl (ql DA rfl (qf Fe rfl (ql DA rfl (CR rfl (qm rfl ?_))))))
       refine AH (t := 53) rfl (fun c13 => ?_) (fun c13 => ?_)
       ·have h := Ao c13 h
        refine qL Hw Dc rfl ?_
        obtain ⟨v14, a14, h⟩ := bind_some h
        refine AG [] (Kc N v11 v14 a14) SU rfl (qp rfl (Af ?_))
        exact Au _ h (sm [] _ _ rfl rfl)
       ·have h := An c13 h
        refine qn rfl (qn rfl (qp rfl (Af ?_)))
        exact Au _ h (sm [] _ _ rfl rfl)
      ·refine Aq rfl (fun c15 => ?_) (fun c15 => ?_)
       ·have h := Ao c15 h
        refine Aa Ae rfl (qm rfl (MY rfl (qf FR rfl (ql Ln rfl (qm rfl ?_)))))
        obtain ⟨v16, a16, b16, h⟩ := Ai h
        refine qI G9 J0 a16 (Ag b16) rfl (qj Pu (Ag b16) rfl (qf IC rfl (ql DA rfl ?_)))
        obtain ⟨c17, h⟩ := AN h
        refine JN rfl c17 (TF rfl ?_)
        obtain ⟨v18, a18, b18, h⟩ := Ai h
        refine qI G9 J0 a18 (Ag b18) rfl ?_
        refine A7 rfl rfl rfl rfl (Ag b18) rfl J0 rfl (AY rfl) (A0 DO v7.1 _ ((Su .u8 v16 ((EA .u8 1 p2.fu))))) ?_
        refine AL (by kernel_rfl) ?_
        exact Au _ h (sm [] _ _ rfl rfl)
       ·have h := An c15 h
        refine As ?_
        exact Au _ h (sm [] _ _ rfl rfl)
     ·refine Aa Ae rfl (AO rfl (qm rfl (Af ?_)))
      exact Au _ h (sm [] _ _ rfl rfl)
    ·have h := An c9 h
     refine AP ?_
     exact Au _ h (sm [] _ _ rfl rfl)
   ·refine Al hs (Ad (Aa Ae rfl (qa rfl (Af ?_))))
    obtain rfl := sj h
    refine Al (sm [] [(6, bD true)] [(90000, .box [.own 90001, .own 90002, .own 90003]), (90001, .vec 1 (p1.fg.map Aj)), (90002, .vec 1 ((p1.ff.set ((p2.fp).toNat) p2.fu).map Aj)), (90003, .vec 1 (v8.map DO))] rfl rfl) (Ay ?_)
    exact ⟨⟨[_], ⟨.tmp _ _ rfl, tv⟩, rfl⟩, ⟨rfl, rfl, rfl, rfl, tv⟩, tv⟩
theorem Md (N : Nat) (p0 : AC) (p1 : Int) (r : Int) (h : Hx N p0 p1 = some r) : Az Tryz.prog 157 [.e (.agg [sC (p0.fg.map Aj), sC (p0.ff.map Aj), sC (p0.fi.map DO)]), iD p1] [] (pD (.val (.int .u8 r))) := by
 unfold Hx at h
 refine Ar (n := 27) (rs := [.tmp 4]) Tryz.func157 rfl rfl rfl (AY rfl) (AY rfl) rfl fun w0 S0 => ?_
 refine Ad (Aa Ae rfl (qb rfl (qa rfl (Af (Ad (Aa Ae rfl (qf E3 rfl (ql Ch rfl (qm rfl ?_)))))))))
 obtain ⟨v1, a1, b1, h⟩ := Ai h
 refine qi AQ Fh a1 (Ag b1) rfl (qk DA rfl ?_)
 obtain ⟨c2, h⟩ := AN h
 refine JN rfl c2 (qa rfl (Af ?_))
 refine AS h (fun v3 => mk [(5, pD (.val (.int .u8 v3)))] []) (fun j3 h => ?_) (fun v3 h => ?_)
 ·refine Ad (Aa Ae rfl (qf Ex rfl (ql Ch rfl (qm rfl ?_))))
  obtain ⟨v4, a4, b4, h⟩ := Ai h
  refine qi AQ Fh a4 (Ag b4) rfl (qk DA rfl (D4 rfl (Af ?_)))
  refine Aq rfl (fun c5 => ?_) (fun c5 => ?_)
  ·have h := Ao c5 h
   refine Aa Ae rfl (qm rfl (qf Ex rfl (ql Ch rfl (qm rfl ?_))))
   obtain ⟨v6, a6, b6, h⟩ := Ai h
   refine qi AQ Fh a6 (Ag b6) rfl (qk DA rfl ?_)
   obtain ⟨c7, h⟩ := AN h
   refine JN rfl c7 (TF rfl (qa rfl (Af ?_)))
   exact Au _ h (sm [] _ _ rfl rfl)
  ·have h := An c5 h
   refine As ?_
   exact Au _ h (sm [] _ _ rfl rfl)
 ·refine Ad (Aa Ae rfl (qm rfl (qa rfl (Af ?_))))
  obtain rfl := sj h
  refine Al (sm [] [(4, pD (.val (.int .u8 v3)))] [] rfl rfl) (Ay ?_)
  exact ⟨⟨[_], ⟨.tmp _ _ rfl, tv⟩, rfl⟩, tv⟩
theorem H0 (N : Nat) (p0 : Int) (r : Int) (h : Eh N p0 = some r) : Az Tryz.prog 161 [pD (.val (.int .u8 p0))] [] (iD r) := by
 unfold Eh at h
 refine Ar (n := 6) (rs := [.tmp 2]) Tryz.func161 rfl rfl rfl (AY rfl) (AY rfl) rfl fun w0 S0 => ?_
 refine Ad (Aa Ae rfl (qa rfl (Af (Ad (Aa Ae rfl (qm rfl ?_))))))
 obtain ⟨v1, a1, h⟩ := bind_some h
 refine Li (.p rfl) rfl rfl R1 a1 ?_
 refine H2 V7 US rfl (qa rfl (Af ?_))
 obtain rfl := sj h
 refine Al (sm [] [(2, iD ((wI .i64 v1)))] [] rfl rfl) (Ay ?_)
 exact ⟨⟨[_], ⟨.tmp _ _ rfl, tv⟩, rfl⟩, tv⟩
theorem KU (N : Nat) (p0 : Av) (p1 : Int) (p2 : Int) (r : Bool) (h : Gn N p0 p1 p2 = some r) : Az Tryz.prog 158 [.e (.agg [iC p0.fe, iC p0.fh, iC p0.fm, .pure (.val (.bool p0.fo)), sC (p0.fj.map (CL eB)), sC (p0.fk.map (CL eB))]), pD (.val (.int .u8 p1)), iD p2] [] (bD r) := by
 unfold Gn at h
 refine Ar (n := 25) (rs := [.tmp 6]) Tryz.func158 rfl rfl rfl (AY rfl) (AY rfl) rfl fun w0 S0 => ?_
 refine Ad (Aa Ae rfl (qb rfl (qa rfl (Af (Ad (Ad (Aa Ae rfl (qm rfl (qa rfl (Af ?_))))))))))
 refine AB (L := Ey N p0 p2) h (fun v1 => mk [(2, iD p2), (3, oD (.ptr 3 0)), (7, pD (.val (.int .u8 v1)))] [(3, .box [iC p0.fe, iC p0.fh, iC p0.fm, .pure (.val (.bool p0.fo)), sC (p0.fj.map (CL eB)), sC (p0.fk.map (CL eB))])]) (fun v2 => mk [] []) (fun _ _ => rfl) (sm [] _ _ rfl rfl) (fun j1 n1 v1 h => ?_) (fun v2 s h hs => ?_)
 ·unfold Ey at h
  refine Ad (Ad (Aa Ae rfl (qm rfl (Cl rfl (Af ?_)))))
  refine Aq rfl (fun c3 => ?_) (fun c3 => ?_)
  ·have h := Ao c3 h
   refine As (Ad (AJ (Ad (Aa Ae rfl (qf Dp rfl (ql EO rfl (qm rfl ?_)))))))
   obtain ⟨v4, a4, h⟩ := bind_some h
   refine AG [] (H0 N v1 v4 a4) Un rfl ?_
   obtain ⟨v5, a5, b5, h⟩ := Ai h
   refine qi Cn F7 a5 (Ag b5) rfl (qk Il rfl (qm rfl ?_))
   obtain ⟨v6, a6, b6, h⟩ := Ai h
   refine qi DV L1 a6 (Ag b6) rfl (qk Pv rfl (CB rfl (AL (by kernel_rfl) ?_)))
   refine Aq rfl (fun c7 => ?_) (fun c7 => ?_)
   ·have h := Ao c7 h
    refine Ad (Aa Ae rfl (qa rfl (Af ?_)))
    obtain rfl := sj h
    refine Al (sm [] [(6, bD false)] [] rfl rfl) (Ay ?_)
    exact ⟨⟨[_], ⟨.tmp _ _ rfl, tv⟩, rfl⟩, tv⟩
   ·have h := An c7 h
    refine As (Aa Ae rfl (qm rfl (qm rfl (Cv rfl (Lu rfl (qa rfl (Af ?_)))))))
    exact Au _ h (sm [] _ _ rfl rfl)
  ·have h := An c3 h
   refine AP ?_
   exact Au _ h (sm [] _ _ rfl rfl)
 ·refine Al hs (Ad (Aa Ae rfl (qa rfl (Af ?_))))
  obtain rfl := sj h
  refine Al (sm [] [(6, bD true)] [] rfl rfl) (Ay ?_)
  exact ⟨⟨[_], ⟨.tmp _ _ rfl, tv⟩, rfl⟩, tv⟩
theorem NP (N : Nat) (p0 : Ah) (p1 : AC) (p2 : Int) (r : Bool × (List Int)) (h : Iq N p0 p1 p2 = some r) : By Tryz.prog 150 [.e (.agg [sC (p0.fb.map Aj), sC (p0.fc.map Aj), sC (p0.fd.map Aj), sC (p0.fa.map Ak)]), oD (.ptr 90000 0), iD p2] [(.box [.own 90001, .own 90002, .own 90003], .box [.own 90001, .own 90002, .own 90003]), (.vec 1 (p1.fg.map Aj), .vec 1 (p1.fg.map Aj)), (.vec 1 (p1.ff.map Aj), .vec 1 (p1.ff.map Aj)), (.vec 1 (p1.fi.map DO), .vec 1 (r.2.map DO))] [] (bD r.1) := by
 unfold Iq at h
 refine A3 (n := 68) (rs := [.tmp 6]) Tryz.func150 rfl rfl rfl (AY rfl) (AY rfl) rfl rfl (AY rfl) rfl (AY rfl) fun w0 S0 GL => ?_
 refine Al (sm [] [(0, .e (.agg [sC (p0.fb.map Aj), sC (p0.fc.map Aj), sC (p0.fd.map Aj), sC (p0.fa.map Ak)])), (1, oD (.ptr 90000 0)), (2, iD p2)] [(90000, .box [.own 90001, .own 90002, .own 90003]), (90001, .vec 1 (p1.fg.map Aj)), (90002, .vec 1 (p1.ff.map Aj)), (90003, .vec 1 (p1.fi.map DO))] rfl rfl) (Ad (Aa Ae rfl (qb rfl (qa rfl (Af (Ad (Aa Ae rfl (qf Bt rfl (ql EP rfl (qm rfl ?_))))))))))
 obtain ⟨v1, a1, b1, h⟩ := Ai h
 refine qi Cw Dc a1 (Ag b1) rfl (qK Hw Dc rfl (qz IS rfl (qs Dc rfl (Af (Ad (Ad (Aa Ae rfl (qL Hw Dc rfl ?_))))))))
 obtain ⟨v2, a2, h⟩ := bind_some h
 refine AG [] (Kc N v1 v2 a2) SU rfl (CB rfl (Af ?_))
 refine Aq rfl (fun c3 => ?_) (fun c3 => ?_)
 ·have h := Ao c3 h
  refine Ad (Aa Ae rfl (qa rfl (Af ?_)))
  obtain rfl := sj h
  refine Al (sm [] [(6, bD false)] [(90000, .box [.own 90001, .own 90002, .own 90003]), (90001, .vec 1 (p1.fg.map Aj)), (90002, .vec 1 (p1.ff.map Aj)), (90003, .vec 1 (p1.fi.map DO))] rfl rfl) (Ay ?_)
  exact ⟨⟨[_], ⟨.tmp _ _ rfl, tv⟩, rfl⟩, ⟨rfl, rfl, rfl, rfl, tv⟩, tv⟩
 ·have h := An c3 h
  refine As (Ad (Aa Ae rfl (qm rfl (MY rfl (qL D6 CF rfl (qf ES rfl (ql DA rfl ?_)))))))
  obtain ⟨v4, a4, h⟩ := bind_some h
  refine Ew [] [90001, 90002, 90003] (Md N p1 v1.fh v4 a4) U3 De rfl (qa rfl (AL (by kernel_rfl) (Ad (Aa Ae rfl (qm rfl (MY rfl (qf FR rfl (ql Ln rfl (qm rfl ?_)))))))))
  obtain ⟨v5, a5, b5, h⟩ := Ai h
  refine qI G9 J0 a5 (Ag b5) rfl (qj Pu (Ag b5) rfl (qm rfl (Mv rfl (qa rfl (Af (Ad ?_))))))
  refine AS h (fun v6 => mk [(1, oD (.ptr 90000 0)), (2, iD p2), (8, pD (.val (.int .u8 v4))), (60, bD v6)] [(90000, .box [.own 90001, .own 90002, .own 90003]), (90001, .vec 1 (p1.fg.map Aj)), (90002, .vec 1 (p1.ff.map Aj)), (90003, .vec 1 (p1.fi.map DO))]) (fun j6 h => ?_) (fun v6 h => ?_)
  ·refine Aa Ae rfl (qm rfl (MY rfl (qf FR rfl (ql Ln rfl (qm rfl ?_)))))
   obtain ⟨v7, a7, b7, h⟩ := Ai h
   refine qI G9 J0 a7 (Ag b7) rfl (qj Pu (Ag b7) rfl (qm rfl (CR rfl (qm rfl ?_))))
   refine AH (t := 42) rfl (fun c8 => ?_) (fun c8 => ?_)
   ·have h := Ao c8 h
    refine qn rfl (qn rfl (qn rfl (qn rfl (qu rfl (qu rfl (qu rfl (qu rfl (qu rfl (qu rfl (qu rfl (qu rfl (qu rfl (qu rfl (qu rfl (qu rfl (qn rfl (qp rfl (AL (by kernel_rfl) ?_))))))))))))))))))
    exact Au _ h (sm [] _ _ rfl rfl)
   ·have h := An c8 h
    refine qf Fr rfl (ql DA rfl (CR rfl (qm rfl ?_)))
    refine AH (t := 46) rfl (fun c9 => ?_) (fun c9 => ?_)
    ·have h := Ao c9 h
     refine qL Hw Dc rfl (qm rfl (qm rfl (MY rfl (qf E3 rfl (ql Ch rfl (qf ES rfl (ql DA rfl ?_)))))))
     obtain ⟨v10, a10, b10, h⟩ := Ai h
     refine qI AQ Fh a10 (Ag b10) rfl (qj DA (Ag b10) rfl ?_)
     obtain ⟨v11, a11, h⟩ := bind_some h
     refine AG [] (KU N v1 ((I1 .u8 v5 v4)) v10 v11 a11) Uf rfl (CB rfl (qp rfl (qp rfl (AL (by kernel_rfl) ?_))))
     exact Au _ h (sm [] _ _ rfl rfl)
    ·have h := An c9 h
     refine qn rfl (qn rfl (qn rfl (qn rfl (qn rfl (qn rfl (qn rfl (qn rfl (qn rfl (qn rfl (qn rfl (qn rfl (qp rfl (qp rfl (AL (by kernel_rfl) ?_))))))))))))))
     exact Au _ h (sm [] _ _ rfl rfl)
  ·refine Aq rfl (fun c12 => ?_) (fun c12 => ?_)
   ·have h := Ao c12 h
    refine Ad (Aa Ae rfl (qa rfl (Af ?_)))
    obtain rfl := sj h
    refine Al (sm [] [(6, bD false)] [(90000, .box [.own 90001, .own 90002, .own 90003]), (90001, .vec 1 (p1.fg.map Aj)), (90002, .vec 1 (p1.ff.map Aj)), (90003, .vec 1 (p1.fi.map DO))] rfl rfl) (Ay ?_)
    exact ⟨⟨[_], ⟨.tmp _ _ rfl, tv⟩, rfl⟩, ⟨rfl, rfl, rfl, rfl, tv⟩, tv⟩
   ·have h := An c12 h
    refine As (Ad (Aa Ae rfl (qm rfl (MY rfl (qf FR rfl (ql Ln rfl (qm rfl (qm rfl ?_))))))))
    obtain ⟨v13, a13, b13, h⟩ := Ai h
    refine qI G9 J0 a13 (Ag b13) rfl ?_
    refine A7 rfl rfl rfl rfl (Ag b13) rfl J0 rfl (AY rfl) (A0 DO p1.fi _ v4) ?_
    refine Af (Ad (Aa Ae rfl (qa rfl (Af ?_))))
    obtain rfl := sj h
    refine Al (sm [] [(6, bD true)] [(90000, .box [.own 90001, .own 90002, .own 90003]), (90001, .vec 1 (p1.fg.map Aj)), (90002, .vec 1 (p1.ff.map Aj)), (90003, .vec 1 ((p1.fi.set ((p2).toNat) v4).map DO))] rfl rfl) (Ay ?_)
    exact ⟨⟨[_], ⟨.tmp _ _ rfl, tv⟩, rfl⟩, ⟨rfl, rfl, rfl, rfl, tv⟩, tv⟩
theorem KR (N : Nat) (p0 : Ah) (p1 : AC) (p2 : Ax) (r : AC × Bool) (h : Hk N p0 p1 p2 = some r) : Az Tryz.prog 128 [.e (.agg [sC (p0.fb.map Aj), sC (p0.fc.map Aj), sC (p0.fd.map Aj), sC (p0.fa.map Ak)]), .e (.agg [sC (p1.fg.map Aj), sC (p1.ff.map Aj), sC (p1.fi.map DO)]), .e (.agg [iC p2.fe, iC p2.fp, iC p2.fu])] [(1, r.1.fg.map Aj), (1, r.1.ff.map Aj), (1, r.1.fi.map DO)] (.tup [.agg [.own 0, .own 1, .own 2], .one (.pure (.val (.bool r.2)))]) := by
 unfold Hk at h
 refine Ar (n := 51) (rs := [.cell 6 64, .tmp 7]) Tryz.func128 rfl rfl rfl (AY rfl) (AY rfl) rfl fun w0 S0 => ?_
 refine Ad (Aa Ae rfl (qb rfl (qb rfl (qb rfl (qz Hd rfl (qa rfl (Af (Ad (Aa Ae rfl (qL D6 CF rfl ?_))))))))))
 obtain ⟨v1, a1, h⟩ := bind_some h
 refine AG [2001, 2002, 2003] (MS N p1 v1 a1) Ue rfl (qz Hd rfl (qs CF rfl (Af (Ad (Ad (Aa Ae rfl (qf HR rfl (ql DA rfl (Af (AJ (Ad (Aa Ae rfl (CR rfl (qa rfl (Af ?_)))))))))))))))
 refine Aq rfl (fun c2 => ?_) (fun c2 => ?_)
 ·have h := Ao c2 h
  refine Ad (Aa Ae rfl (qL D6 CF rfl (qL C9 Ck rfl (qL HB DD rfl ?_))))
  obtain ⟨v3, a3, h⟩ := bind_some h
  refine CK (ds0 := [_, _, _]) [8, 2001, 2002, 2003] [] [false, false, true, true] (NK N p0 v1 p2 v3 a3) (.p rfl) UY rfl ⟨rfl, rfl, rfl, tv⟩ rfl rfl (by decide) ⟨rfl, rfl, rfl, rfl, tv⟩ rfl (A2 rfl) tv ⟨(fun _ => rfl), (fun _ => rfl), (fun h => by cases h), (fun h => by cases h), tv⟩ rfl rfl rfl ?_
  refine qs CF rfl (qa rfl (AL (by kernel_rfl) ?_))
  obtain rfl := sj h
  refine Al (sm [(1000, 2001), (1001, 2002), (1002, 2003)] [(6, oD (.ptr 6 0)), (7, bD v3.1)] [(6, .box [.own 1000, .own 1001, .own 1002]), (1000, .vec 1 (v1.fg.map Aj)), (1001, .vec 1 (v3.2.1.map Aj)), (1002, .vec 1 (v3.2.2.map DO))] rfl rfl) (Ay ?_)
  exact ⟨⟨[_, _], ⟨.cellN _ _ _ _ _ _ _ rfl rfl D6 CF rfl rfl (Kt rfl), ⟨.tmp _ _ rfl, tv⟩⟩, rfl⟩, ⟨rfl, rfl, rfl, tv⟩⟩
 ·have h := An c2 h
  refine Ad (Aa Ae rfl (CR rfl (qa rfl (Af ?_))))
  refine Aq rfl (fun c4 => ?_) (fun c4 => ?_)
  ·have h := Ao c4 h
   refine Ad (Aa Ae rfl (qL D6 CF rfl (qL C9 Ck rfl (qf Fe rfl (ql DA rfl ?_)))))
   obtain ⟨v5, a5, h⟩ := bind_some h
   refine CK (ds0 := [_, _, _]) [8, 2001, 2002, 2003] [] [false, false, false, true] (NP N p0 v1 p2.fp v5 a5) (.p rfl) UF rfl ⟨rfl, rfl, rfl, tv⟩ rfl rfl (by decide) ⟨rfl, rfl, rfl, rfl, tv⟩ rfl (A2 rfl) tv ⟨(fun _ => rfl), (fun _ => rfl), (fun _ => rfl), (fun h => by cases h), tv⟩ rfl rfl rfl ?_
   refine qs CF rfl (qa rfl (AL (by kernel_rfl) ?_))
   obtain rfl := sj h
   refine Al (sm [(1000, 2001), (1001, 2002), (1002, 2003)] [(6, oD (.ptr 6 0)), (7, bD v5.1)] [(6, .box [.own 1000, .own 1001, .own 1002]), (1000, .vec 1 (v1.fg.map Aj)), (1001, .vec 1 (v1.ff.map Aj)), (1002, .vec 1 (v5.2.map DO))] rfl rfl) (Ay ?_)
   exact ⟨⟨[_, _], ⟨.cellN _ _ _ _ _ _ _ rfl rfl D6 CF rfl rfl (Kt rfl), ⟨.tmp _ _ rfl, tv⟩⟩, rfl⟩, ⟨rfl, rfl, rfl, tv⟩⟩
  ·have h := An c4 h
   refine As (Ad (Aa Ae rfl (qf Ex rfl (ql Ch rfl (qf Fe rfl (ql DA rfl ?_))))))
   obtain ⟨v6, a6, b6, h⟩ := Ai h
   refine qI AQ Fh a6 (Ag b6) rfl (qj DA (Ag b6) rfl (qa rfl (Af (Ad (Ad (Aa Ae rfl (qm rfl (AX rfl (Af ?_)))))))))
   refine Aq rfl (fun c7 => ?_) (fun c7 => ?_)
   ·have h := Ao c7 h
    refine Ad (Aa Ae rfl (qL D6 CF rfl (qs CF rfl (qa rfl (Af ?_)))))
    obtain rfl := sj h
    refine Al (sm [(1000, 2001), (1001, 2002), (1002, 2003)] [(6, oD (.ptr 6 0)), (7, bD false)] [(6, .box [.own 1000, .own 1001, .own 1002]), (1000, .vec 1 (v1.fg.map Aj)), (1001, .vec 1 (v1.ff.map Aj)), (1002, .vec 1 (v1.fi.map DO))] rfl rfl) (Ay ?_)
    exact ⟨⟨[_, _], ⟨.cellN _ _ _ _ _ _ _ rfl rfl D6 CF rfl rfl (Kt rfl), ⟨.tmp _ _ rfl, tv⟩⟩, rfl⟩, ⟨rfl, rfl, rfl, tv⟩⟩
   ·have h := An c7 h
    refine As (Ad (Aa Ae rfl (qf Ex rfl (ql Ch rfl (qf Fe rfl (ql DA rfl ?_))))))
    obtain ⟨v8, a8, b8, h⟩ := Ai h
    refine qI AQ Fh a8 (Ag b8) rfl ?_
    refine A7 rfl rfl rfl rfl (Ag b8) rfl Fh rfl (AY rfl) (A0 Aj v1.ff _ ((-1))) ?_
    refine Af ?_
    refine AS h (fun v9 => mk [(6, oD (.ptr 6 0)), (8, oD (.ptr 8 0))] [(6, .box [.pure (.nil0), .pure (.nil0), .pure (.nil0)]), (8, .box [.own 2004, .own 2005, .own 2006]), (2004, .vec 1 (v9.map Aj)), (2005, .vec 1 ((v1.ff.set ((p2.fp).toNat) ((-1))).map Aj)), (2006, .vec 1 (v1.fi.map DO))]) (fun j9 h => ?_) (fun v9 h => ?_)
    ·refine Ad (Aa Ae rfl (qf HR rfl (ql DA rfl (CR rfl (Af ?_)))))
     refine Aq rfl (fun c10 => ?_) (fun c10 => ?_)
     ·have h := Ao c10 h
      refine Aa Ae rfl (qf E3 rfl (ql Ch rfl (qf Fe rfl (ql DA rfl (qm rfl ?_)))))
      obtain ⟨v11, a11, b11, h⟩ := Ai h
      refine qI AQ Fh a11 (Ag b11) rfl ?_
      refine A7 rfl rfl rfl rfl (Ag b11) rfl Fh rfl (AY rfl) (A0 Aj v1.fg _ v6) ?_
      refine Af ?_
      exact Au _ h (sm [(2004, 2001), (2005, 2002), (2006, 2003)] _ _ rfl rfl)
     ·have h := An c10 h
      refine As ?_
      exact Au _ h (sm [(2004, 2001), (2005, 2002), (2006, 2003)] _ _ rfl rfl)
    ·refine Ad (Aa Ae rfl (qL D6 CF rfl (qs CF rfl (qa rfl (Af ?_)))))
     obtain rfl := sj h
     refine Al (sm [(1000, 2004), (1001, 2005), (1002, 2006)] [(6, oD (.ptr 6 0)), (7, bD true)] [(6, .box [.own 1000, .own 1001, .own 1002]), (1000, .vec 1 (v9.map Aj)), (1001, .vec 1 ((v1.ff.set ((p2.fp).toNat) ((-1))).map Aj)), (1002, .vec 1 (v1.fi.map DO))] rfl rfl) (Ay ?_)
     exact ⟨⟨[_, _], ⟨.cellN _ _ _ _ _ _ _ rfl rfl D6 CF rfl rfl (Kt rfl), ⟨.tmp _ _ rfl, tv⟩⟩, rfl⟩, ⟨rfl, rfl, rfl, tv⟩⟩
theorem Lo (N : Nat) (p0 : Ax) (p1 : List Int) (p2 : List Int) (p3 : List Int) (p4 : List Av) (p5 : List Int) (p6 : List Int) (p7 : List Int) (r : Bool) (h : EH N p0 p1 p2 p3 p4 p5 p6 p7 = some r) : Az Tryz.prog 127 [.e (.agg [iC p0.fe, iC p0.fp, iC p0.fu]), oD (.rop [.sl (p1.map Aj), .sl (p2.map Aj), .sl (p3.map Aj), .sl (p4.map Ak)]), oD (.rop [.sl (p5.map Aj), .sl (p6.map Aj), .sl (p7.map DO)])] [] (bD r) := by
 unfold EH at h
 refine Ar (n := 16) (rs := [.tmp 4]) Tryz.func127 rfl rfl rfl (AY rfl) (AY rfl) rfl fun w0 S0 => ?_
 refine Ad (Aa Ae rfl (qb rfl (qa rfl (Af (Ad (Aa Ae rfl (qK C9 Ck rfl (qK D6 CF rfl (qL HB DD rfl ?_)))))))))
 obtain ⟨v1, a1, h⟩ := bind_some h
 refine AG [2001, 2002, 2003] (KR N ((Ah.mk p1 p2 p3 p4)) ((AC.mk p5 p6 p7)) p0 v1 a1) SX rfl (qm rfl (qx rfl (qx rfl (qz Hd rfl (qs CF rfl (qa rfl (Af (Ad (Aa Ae rfl (qm rfl (CB rfl (qa rfl (Af ?_)))))))))))))
 obtain rfl := sj h
 refine Al (sm [] [(4, bD ((!v1.2)))] [] rfl rfl) (Ay ?_)
 exact ⟨⟨[_], ⟨.tmp _ _ rfl, tv⟩, rfl⟩, tv⟩
theorem F1 (N : Nat) (p0 : List Ax) (p1 : Ax → Option Bool) (r : Int) (h : Dd N p0 p1 = some r) : Az Tryz.prog 147 [pD (.sl (p0.map AK)), oD (.clo (BT (LO true AK) tB p1))] [] (iD r) := by
 unfold Dd at h
 refine Ar (n := 19) (rs := [.tmp 4]) Tryz.func147 rfl rfl rfl (AY rfl) (AY rfl) rfl fun w0 S0 => ?_
 refine Ad (Aa Ae rfl (qa rfl (Af (Ad (Ad (Aa Ae rfl (qm rfl (AM EW rfl (qm rfl (Af ?_))))))))))
 refine AB (L := B2 N p0 p1) h (fun v1 => mk [(0, pD (.sl (p0.map AK))), (1, oD (.clo (BT (LO true AK) tB p1))), (7, iD ((p0.length : Int))), (8, iD v1)] []) (fun v2 => mk [] []) (fun _ _ => rfl) (sm [] _ _ rfl rfl) (fun j1 n1 v1 h => ?_) (fun v2 s h hs => ?_)
 ·unfold B2 at h
  refine Ad (Aa Ae rfl (AX rfl (Af (Ad ?_))))
  refine Aq rfl (fun c3 => ?_) (fun c3 => ?_)
  ·have h := Ao c3 h
   refine As (Ad (AJ (Ad (Aa Ae rfl (qm rfl (qa rfl (Af (Ad (Aa Ae rfl (qm rfl (qm rfl (qm rfl ?_))))))))))))
   obtain ⟨v4, a4, b4, h⟩ := Ai h
   refine qi EW DD a4 (Ag b4) rfl (qK HB DD rfl ?_)
   obtain ⟨v5, a5, h⟩ := bind_some h
   refine Ei (ds0 := [_]) (ar := (LO true AK) v4) (.p rfl) rfl rfl ⟨rfl, tv⟩ rfl rfl rfl (Eg (K2 _ _ Ms) a5) ?_
   refine Af ?_
   refine Aq rfl (fun c6 => ?_) (fun c6 => ?_)
   ·have h := Ao c6 h
    refine Ad (Aa Ae rfl (qm rfl (qa rfl (Af ?_))))
    obtain rfl := sj h
    refine Al (sm [] [(4, iD v1)] [] rfl rfl) (Ay ?_)
    exact ⟨⟨[_], ⟨.tmp _ _ rfl, tv⟩, rfl⟩, tv⟩
   ·have h := An c6 h
    refine As (Aa Ae rfl (AO rfl (qm rfl (Af ?_))))
    exact Au _ h (sm [] _ _ rfl rfl)
  ·have h := An c3 h
   refine AP ?_
   exact Au _ h (sm [] _ _ rfl rfl)
 ·refine Al hs (Ad (Aa Ae rfl (qa rfl (Af ?_))))
  obtain rfl := sj h
  refine Al (sm [] [(4, iD ((-1)))] [] rfl rfl) (Ay ?_)
  exact ⟨⟨[_], ⟨.tmp _ _ rfl, tv⟩, rfl⟩, tv⟩
theorem FP (N : Nat) (p0 : List Ax) (p1 : Ax → Option Bool) (r : Nat × (List Ax)) (h : C3 N p0 p1 = some r) : By Tryz.prog 125 [oD (.own 90000), oD (.clo (BT (LO true AK) tB p1))] [(.vec 3 (p0.map AK), .vec 3 (r.2.map AK))] [] (oD (.view 90000 3 0 r.1)) := by
 unfold C3 at h
 refine A3 (n := 42) (rs := [.tmp 4]) Tryz.func125 rfl rfl rfl (AY rfl) (AY rfl) rfl rfl (AY rfl) rfl (AY rfl) fun w0 S0 GL => ?_
 refine Al (sm [] [(0, oD (.own 90000)), (1, oD (.clo (BT (LO true AK) tB p1)))] [(90000, .vec 3 (p0.map AK))] rfl rfl) (Ad (Aa Ae rfl (qa rfl (Af (Ad (Aa Ae rfl (qm rfl (qm rfl ?_))))))))
 obtain ⟨v1, a1, h⟩ := bind_some h
 refine Ew [] [90000] (F1 N p0 p1 v1 a1) UG De rfl (qa rfl (Af (Ad (Ad (Aa Ae rfl (qm rfl (CR rfl (Af ?_))))))))
 refine Aq rfl (fun c2 => ?_) (fun c2 => ?_)
 ·have h := Ao c2 h
  refine Ad (Aa Ae rfl (qm rfl (qa rfl (Af ?_))))
  obtain rfl := sj h
  refine Al ((LQ AK p0 4 90000 3 rfl rfl).trans (sm [] [(4, oD (.view 90000 3 0 p0.length))] [(90000, .vec 3 (p0.map AK))] rfl rfl)) (Ay ?_)
  exact ⟨⟨[_], ⟨.tmp _ _ rfl, tv⟩, rfl⟩, ⟨rfl, tv⟩, tv⟩
 ·have h := An c2 h
  refine As (Ad (Ad (Aa Ae rfl (qm rfl (AO rfl (qa rfl (Af ?_)))))))
  refine AB (L := BV N p1) h (fun v3 => mk [(0, oD (.own 90000)), (1, oD (.clo (BT (LO true AK) tB p1))), (5, iD v3.2.1), (6, iD v3.2.2)] [(90000, .vec 3 (v3.1.map AK))]) (fun v4 => mk [(0, oD (.own 90000)), (5, iD v4.2)] [(90000, .vec 3 (v4.1.map AK))]) (fun _ _ => rfl) (sm [] _ _ rfl rfl) (fun j3 n3 v3 h => ?_) (fun v4 s h hs => ?_)
  ·unfold BV at h
   refine Ad (Ad (Aa Ae rfl (qm rfl (qm rfl (D8 EW rfl (AX rfl (Af ?_)))))))
   refine Aq rfl (fun c5 => ?_) (fun c5 => ?_)
   ·have h := Ao c5 h
    refine As ?_
    refine AS h (fun v6 => mk [(0, oD (.own 90000)), (1, oD (.clo (BT (LO true AK) tB p1))), (5, iD v6.2), (6, iD v3.2.2)] [(90000, .vec 3 (v6.1.map AK))]) (fun j6 h => ?_) (fun v6 h => ?_)
    ·refine AJ (Ad (Aa Ae rfl (qm rfl (qm rfl ?_))))
     obtain ⟨v7, a7, b7, h⟩ := Ai h
     refine qI EW DD a7 (Ag b7) rfl (qJ HB DD (Ag b7) rfl (qz Ie rfl (qs DD rfl (Af (Ad (Aa Ae rfl (qm rfl (qL HB DD rfl ?_))))))))
     obtain ⟨v8, a8, h⟩ := bind_some h
     refine Ei (ds0 := [_]) (ar := (LO true AK) v7) (.p rfl) rfl rfl ⟨rfl, tv⟩ rfl rfl rfl (Eg (K2 _ _ Ms) a8) ?_
     refine CB rfl (Af ?_)
     refine Aq rfl (fun c9 => ?_) (fun c9 => ?_)
     ·have h := Ao c9 h
      refine Ad (Aa Ae rfl (qm rfl (qm rfl (qL HB DD rfl ?_))))
      obtain ⟨v10, a10, b10, h⟩ := Ai h
      refine qI EW DD a10 (Ag b10) rfl ?_
      refine A7 rfl rfl rfl rfl (Ag b10) rfl DD rfl (AY rfl) (A0 AK v3.1 _ v7) ?_
      refine Af (Aa Ae rfl (qm rfl (AO rfl (qa rfl (Af ?_)))))
      exact Au _ h (sm [] _ _ rfl rfl)
     ·have h := An c9 h
      refine As ?_
      exact Au _ h (sm [] _ _ rfl rfl)
    ·refine Aa Ae rfl (qm rfl (AO rfl (qa rfl (Af ?_))))
     exact Au _ h (sm [] _ _ rfl rfl)
   ·have h := An c5 h
    refine AP ?_
    exact Au _ h (sm [] _ _ rfl rfl)
  ·refine Al hs (Ad (Aa Ae rfl (qm rfl (qm rfl ?_))))
   obtain ⟨c11, h⟩ := AN h
   have w12 : ((v4.2).toNat) + ((v4.1.length - (v4.2).toNat)) ≤ v4.1.length := by have := c11.2.1; have := c11.2.2; omega
   refine F9 AK v4.1 (.p rfl) rfl (Gb AK _ _ v4.1) rfl EW DD (.some _ _ _ _ c11.1) (.none _) ⟨rfl, tv⟩ tv c11.2.1 (by rw [Nat.zero_add]; exact c11.2.2) (Nat.zero_add _) rfl ?_
   have w13 : (Gf v4.1 ((v4.2).toNat) (List.replicate ((v4.1.length - (v4.2).toNat)) ((Ax.mk 0 0 0)))).length = v4.1.length := Hh (by rw [List.length_replicate]; exact w12)
   refine Me AK v4.1 ((Ax.mk 0 0 0)) rfl rfl (HI AK _ _ ((v4.2).toNat) ((v4.1.length - (v4.2).toNat)) v4.1 w12) rfl EW Ie rfl rfl rfl rfl ?_
   refine Af (Ad (Aa Ae rfl (qm rfl (qm rfl ?_))))
   obtain ⟨c14, h⟩ := AN h
   have w15 : 0 + ((v4.2).toNat) ≤ (Gf v4.1 ((v4.2).toNat) (List.replicate ((v4.1.length - (v4.2).toNat)) ((Ax.mk 0 0 0)))).length := by have := c14.2.1; have := c14.2.2; omega
   refine F9 AK (Gf v4.1 ((v4.2).toNat) (List.replicate ((v4.1.length - (v4.2).toNat)) ((Ax.mk 0 0 0)))) (.p rfl) rfl (Gb AK _ _ (Gf v4.1 ((v4.2).toNat) (List.replicate ((v4.1.length - (v4.2).toNat)) ((Ax.mk 0 0 0))))) rfl EW DD (.none _) (.some _ _ _ _ c14.1) tv ⟨rfl, tv⟩ c14.2.1 (by rw [Nat.zero_add]; exact c14.2.2) (Nat.zero_add _) rfl ?_
   refine qa rfl (Af ?_)
   obtain rfl := sj h
   refine Al (sm [] [(4, oD (.view 90000 3 0 ((v4.2).toNat)))] [(90000, .vec 3 ((Gf v4.1 ((v4.2).toNat) (List.replicate ((v4.1.length - (v4.2).toNat)) ((Ax.mk 0 0 0)))).map AK))] rfl rfl) (Ay ?_)
   exact ⟨⟨[_], ⟨.tmp _ _ rfl, tv⟩, rfl⟩, ⟨rfl, tv⟩, tv⟩
theorem MB (N : Nat) (p0 : Ah) (p1 : AC) (r : (List Ax) × Int) (h : Ht N p0 p1 = some r) : Az Tryz.prog 89 [.e (.agg [sC (p0.fb.map Aj), sC (p0.fc.map Aj), sC (p0.fd.map Aj), sC (p0.fa.map Ak)]), .e (.agg [sC (p1.fg.map Aj), sC (p1.ff.map Aj), sC (p1.fi.map DO)])] [(3, r.1.map AK)] (.tup [.one (.own 0), .one (iC r.2)]) := by
 unfold Ht at h
 refine Ar (n := 17) (rs := [.tmp 4, .tmp 5]) Tryz.func89 rfl rfl rfl (AY rfl) (AY rfl) rfl fun w0 S0 => ?_
 refine Ad (Aa Ae rfl (qb rfl (qb rfl (qa rfl (qa rfl (Af (Ad (Ad (Aa Ae rfl (qL C9 Ck rfl (qL D6 CF rfl ?_)))))))))))
 obtain ⟨v1, a1, h⟩ := bind_some h
 refine AG [] (Ic N p0 p1 v1 a1) Sf rfl (qa rfl (Af (Ad (Aa Ae rfl (qm rfl (Cl rfl (Af ?_)))))))
 refine Aq rfl (fun c2 => ?_) (fun c2 => ?_)
 ·have h := Ao c2 h
  refine Ad (Aa Ae rfl (qm rfl (qa rfl (qa rfl (Af ?_)))))
  obtain rfl := sj h
  refine Al ((Bx 4 2001 3 rfl rfl rfl).trans (sm [(1000, 2001)] [(4, oD (.own 1000)), (5, iD v1)] [(1000, .vec 3 ((([] : List Ax)).map AK))] rfl rfl)) (Ay ?_)
  exact ⟨⟨[_, _], ⟨.tmp _ _ rfl, ⟨.tmp _ _ rfl, tv⟩⟩, rfl⟩, ⟨rfl, tv⟩⟩
 ·have h := An c2 h
  refine As (Ad (Aa Ae rfl (qL C9 Ck rfl ?_)))
  obtain ⟨v3, a3, h⟩ := bind_some h
  refine AG [2002] (PW N p0 v3 a3) Ug rfl (E2 (KL 2 [.sl (p0.fb.map Aj), .sl (p0.fc.map Aj), .sl (p0.fd.map Aj), .sl (p0.fa.map Ak)] rfl rfl) (E2 (KL 3 [.sl (p1.fg.map Aj), .sl (p1.ff.map Aj), .sl (p1.fi.map DO)] rfl rfl) ?_))
  refine Kl (capD := [_, _]) (BT (LO true AK) tB ((fun (x : Ax) => EH N x p0.fb p0.fc p0.fd p0.fa p1.fg p1.ff p1.fi))) (.p rfl) Uz rfl ⟨rfl, rfl, tv⟩ rfl (fun ar t ht => by obtain ⟨x, r, rfl, hq, rfl⟩ := IE ht; exact Lo N x p0.fb p0.fc p0.fd p0.fa p1.fg p1.ff p1.fi r hq) ?_
  obtain ⟨v4, a4, h⟩ := bind_some h
  obtain ⟨c5, h⟩ := AN h
  have w6 : 0 + v4.1 ≤ v4.2.length := by rw [Nat.zero_add]; exact c5
  refine CK (ds0 := [_, _]) [2002] [] [true] (FP N v3 ((fun (x : Ax) => EH N x p0.fb p0.fc p0.fd p0.fa p1.fg p1.ff p1.fi)) v4 a4) (.p rfl) Ux rfl ⟨rfl, rfl, tv⟩ rfl rfl (by decide) ⟨rfl, tv⟩ rfl (A2 rfl) tv ⟨(fun h => by cases h), tv⟩ rfl rfl rfl ?_
  refine E2 (QR AK v4.2 16 2002 2003 3 v4.1 rfl rfl rfl rfl rfl c5) (qa rfl (qa rfl (Af ?_)))
  obtain rfl := sj h
  refine Al (sm [(1000, 2003)] [(4, oD (.own 1000)), (5, iD 0)] [(1000, .vec 3 ((v4.2.take v4.1).map AK))] rfl rfl) (Ay ?_)
  exact ⟨⟨[_, _], ⟨.tmp _ _ rfl, ⟨.tmp _ _ rfl, tv⟩⟩, rfl⟩, ⟨rfl, tv⟩⟩
theorem Oj (N : Nat) (p0 : Ax) (r : Bool) (h : Ij N p0 = some r) : Az Tryz.prog 151 [.e (.agg [iC p0.fe, iC p0.fp, iC p0.fu])] [] (bD r) := by
 unfold Ij at h
 refine Ar (n := 27) (rs := [.tmp 2]) Tryz.func151 rfl rfl rfl (AY rfl) (AY rfl) rfl fun w0 S0 => ?_
 refine Ad (Aa Ae rfl (qb rfl (qa rfl (Af (Ad ?_)))))
 refine AS h (fun v1 => mk [(1, oD (.ptr 1 0)), (18, bD v1)] [(1, .box [iC p0.fe, iC p0.fp, iC p0.fu])]) (fun j1 h => ?_) (fun v1 h => ?_)
 ·refine Aa Ae rfl (qf Fe rfl (ql DA rfl (qf IC rfl (ql DA rfl ?_))))
  refine T7 (.p rfl) rfl rfl ?_
  refine AX rfl (qm rfl ?_)
  refine AH (t := 9) rfl (fun c2 => ?_) (fun c2 => ?_)
  ·have h := Ao c2 h
   refine qn rfl (qn rfl (qn rfl (qp rfl (qm rfl (qn rfl (qn rfl (qn rfl (qp rfl (Af ?_)))))))))
   exact Au _ h (sm [] _ _ rfl rfl)
  ·have h := An c2 h
   refine qf HR rfl (ql DA rfl (AX rfl (qp rfl (qm rfl ?_))))
   refine AH (t := 14) rfl (fun c3 => ?_) (fun c3 => ?_)
   ·have h := Ao c3 h
    refine qn rfl (qn rfl (qn rfl (qp rfl (Af ?_))))
    exact Au _ h (sm [] _ _ rfl rfl)
   ·have h := An c3 h
    refine qf HR rfl (ql DA rfl (Ea rfl (qp rfl (Af ?_))))
    exact Au _ h (sm [] _ _ rfl rfl)
 ·refine Aq rfl (fun c4 => ?_) (fun c4 => ?_)
  ·have h := Ao c4 h
   refine Ad (Aa Ae rfl (qa rfl (Af ?_)))
   obtain rfl := sj h
   refine Al (sm [] [(2, bD false)] [] rfl rfl) (Ay ?_)
   exact ⟨⟨[_], ⟨.tmp _ _ rfl, tv⟩, rfl⟩, tv⟩
  ·have h := An c4 h
   refine As ?_
   refine AS h (fun v5 => mk [(2, bD v5)] []) (fun j5 h => ?_) (fun v5 h => ?_)
   ·refine Aa Ae rfl (qf HR rfl (ql DA rfl (CR rfl (qm rfl ?_))))
    refine AH (t := 22) rfl (fun c6 => ?_) (fun c6 => ?_)
    ·have h := Ao c6 h
     refine qn rfl (qn rfl (qn rfl (qp rfl (qa rfl (Af ?_)))))
     exact Au _ h (sm [] _ _ rfl rfl)
    ·have h := An c6 h
     refine qf IC rfl (ql DA rfl (CR rfl (qp rfl (qa rfl (Af ?_)))))
     exact Au _ h (sm [] _ _ rfl rfl)
   ·obtain rfl := sj h
    refine Al (sm [] [(2, bD v5)] [] rfl rfl) (Ay ?_)
    exact ⟨⟨[_], ⟨.tmp _ _ rfl, tv⟩, rfl⟩, tv⟩
theorem MW (N : Nat) (p0 : Ah) (p1 : Ax) (r : Bool) (h : HK N p0 p1 = some r) : Az Tryz.prog 152 [.e (.agg [sC (p0.fb.map Aj), sC (p0.fc.map Aj), sC (p0.fd.map Aj), sC (p0.fa.map Ak)]), .e (.agg [iC p1.fe, iC p1.fp, iC p1.fu])] [] (bD r) := by
 unfold HK at h
 refine Ar (n := 36) (rs := [.tmp 4]) Tryz.func152 rfl rfl rfl (AY rfl) (AY rfl) rfl fun w0 S0 => ?_
 refine Ad (Aa Ae rfl (qb rfl (qb rfl (qa rfl (Af (Ad (Ad (Aa Ae rfl (qf HR rfl (ql DA rfl (CR rfl (Af ?_))))))))))))
 refine Aq rfl (fun c1 => ?_) (fun c1 => ?_)
 ·have h := Ao c1 h
  refine Ad (Aa Ae rfl (qf Fe rfl (ql DA rfl (qf Bt rfl (ql EP rfl (AM Cw rfl (AX rfl (qa rfl (Af ?_)))))))))
  obtain rfl := sj h
  refine Al (sm [] [(4, bD ((decide (p1.fp < (p0.fa.length : Int)))))] [] rfl rfl) (Ay ?_)
  exact ⟨⟨[_], ⟨.tmp _ _ rfl, tv⟩, rfl⟩, tv⟩
 ·have h := An c1 h
  refine As ?_
  refine AS h (fun v2 => mk [(4, bD v2)] []) (fun j2 h => ?_) (fun v2 h => ?_)
  ·refine Aa Ae rfl (qf Fe rfl (ql DA rfl (qf CT rfl (ql Ch rfl (AM AQ rfl (AX rfl (qm rfl ?_)))))))
   refine AH (t := 20) rfl (fun c3 => ?_) (fun c3 => ?_)
   ·have h := Ao c3 h
    refine qf HR rfl (ql DA rfl (Cl rfl (qm rfl ?_)))
    refine AH (t := 24) rfl (fun c4 => ?_) (fun c4 => ?_)
    ·have h := Ao c4 h
     refine qn rfl (qn rfl (qn rfl (qn rfl (qn rfl (qn rfl (qn rfl (qn rfl (qn rfl (qp rfl (qp rfl (qa rfl (AL (by kernel_rfl) ?_))))))))))))
     exact Au _ h (sm [] _ _ rfl rfl)
    ·have h := An c4 h
     refine qf IC rfl (ql DA rfl (qf CT rfl (ql Ch rfl (qf Fe rfl (ql DA rfl ?_)))))
     obtain ⟨v5, a5, b5, h⟩ := Ai h
     refine qi AQ Fh a5 (Ag b5) rfl (qk DA rfl (AX rfl (qp rfl (qp rfl (qa rfl (AL (by kernel_rfl) ?_))))))
     exact Au _ h (sm [] _ _ rfl rfl)
   ·have h := An c3 h
    refine qn rfl (qn rfl (qn rfl (qn rfl (qu rfl (qu rfl (qu rfl (qu rfl (qu rfl (qu rfl (qu rfl (qu rfl (qu rfl (qn rfl (qp rfl (qa rfl (AL (by kernel_rfl) ?_))))))))))))))))
    exact Au _ h (sm [] _ _ rfl rfl)
  ·obtain rfl := sj h
   refine Al (sm [] [(4, bD v2)] [] rfl rfl) (Ay ?_)
   exact ⟨⟨[_], ⟨.tmp _ _ rfl, tv⟩, rfl⟩, tv⟩
theorem Oc (N : Nat) (p0 : Ah) (p1 : AC) (p2 : Ax) (r : AC × Int) (h : In N p0 p1 p2 = some r) : Az Tryz.prog 129 [.e (.agg [sC (p0.fb.map Aj), sC (p0.fc.map Aj), sC (p0.fd.map Aj), sC (p0.fa.map Ak)]), .e (.agg [sC (p1.fg.map Aj), sC (p1.ff.map Aj), sC (p1.fi.map DO)]), .e (.agg [iC p2.fe, iC p2.fp, iC p2.fu])] [(1, r.1.fg.map Aj), (1, r.1.ff.map Aj), (1, r.1.fi.map DO)] (.tup [.agg [.own 0, .own 1, .own 2], .one (iC r.2)]) := by
 unfold In at h
 refine Ar (n := 32) (rs := [.cell 6 64, .tmp 7]) Tryz.func129 rfl rfl rfl (AY rfl) (AY rfl) rfl fun w0 S0 => ?_
 refine Ad (Aa Ae rfl (qb rfl (qb rfl (qb rfl (qz Hd rfl (qa rfl (Af (Ad (AJ (Ad (Aa Ae rfl (qL HB DD rfl ?_))))))))))))
 obtain ⟨v1, a1, h⟩ := bind_some h
 refine AG [] (Oj N p2 v1 a1) U5 rfl (CB rfl (qa rfl (Af ?_)))
 refine Aq rfl (fun c2 => ?_) (fun c2 => ?_)
 ·have h := Ao c2 h
  refine Ad (Aa Ae rfl (Cu Hd MZ rfl (qs CF rfl (qa rfl (Af ?_)))))
  obtain rfl := sj h
  refine Al ((AW 6 0 2001 1 _ rfl rfl rfl rfl).trans ((AW 6 1 2002 1 _ rfl rfl rfl rfl).trans ((AW 6 2 2003 1 _ rfl rfl rfl rfl).trans (sm [(1000, 2001), (1001, 2002), (1002, 2003)] [(6, oD (.ptr 6 0)), (7, iD 1)] [(6, .box [.own 1000, .own 1001, .own 1002]), (1000, .vec 1 ((([] : List Int)).map Aj)), (1001, .vec 1 ((([] : List Int)).map Aj)), (1002, .vec 1 ((([] : List Int)).map DO))] rfl rfl)))) (Ay ?_)
  exact ⟨⟨[_, _], ⟨.cellN _ _ _ _ _ _ _ rfl rfl D6 CF rfl rfl (Kt rfl), ⟨.tmp _ _ rfl, tv⟩⟩, rfl⟩, ⟨rfl, rfl, rfl, tv⟩⟩
 ·have h := An c2 h
  refine Ad (Aa Ae rfl (qL C9 Ck rfl (qL HB DD rfl ?_)))
  obtain ⟨v3, a3, h⟩ := bind_some h
  refine AG [] (MW N p0 p2 v3 a3) U0 rfl (CB rfl (qa rfl (Af ?_)))
  refine Aq rfl (fun c4 => ?_) (fun c4 => ?_)
  ·have h := Ao c4 h
   refine Ad (Aa Ae rfl (Cu Hd MZ rfl (qs CF rfl (qa rfl (Af ?_)))))
   obtain rfl := sj h
   refine Al ((AW 6 0 2004 1 _ rfl rfl rfl rfl).trans ((AW 6 1 2005 1 _ rfl rfl rfl rfl).trans ((AW 6 2 2006 1 _ rfl rfl rfl rfl).trans (sm [(1000, 2004), (1001, 2005), (1002, 2006)] [(6, oD (.ptr 6 0)), (7, iD 4)] [(6, .box [.own 1000, .own 1001, .own 1002]), (1000, .vec 1 ((([] : List Int)).map Aj)), (1001, .vec 1 ((([] : List Int)).map Aj)), (1002, .vec 1 ((([] : List Int)).map DO))] rfl rfl)))) (Ay ?_)
   exact ⟨⟨[_, _], ⟨.cellN _ _ _ _ _ _ _ rfl rfl D6 CF rfl rfl (Kt rfl), ⟨.tmp _ _ rfl, tv⟩⟩, rfl⟩, ⟨rfl, rfl, rfl, tv⟩⟩
  ·have h := An c4 h
   refine As (Ad (Aa Ae rfl (qL C9 Ck rfl (qL D6 CF rfl (qL HB DD rfl ?_)))))
   obtain ⟨v5, a5, h⟩ := bind_some h
   refine AG [2007, 2008, 2009] (KR N p0 p1 p2 v5 a5) SX rfl (qm rfl (qx rfl (qx rfl (qz Hd rfl (qs CF rfl (qa rfl (Af (Ad (Ad (Aa Ae rfl (qm rfl (CB rfl (Af ?_)))))))))))))
   refine Aq rfl (fun c6 => ?_) (fun c6 => ?_)
   ·have h := Ao c6 h
    refine Ad (Aa Ae rfl (Cu Hd MZ rfl (qs CF rfl (qa rfl (Af ?_)))))
    obtain rfl := sj h
    refine Al ((AW 6 0 2010 1 _ rfl rfl rfl rfl).trans ((AW 6 1 2011 1 _ rfl rfl rfl rfl).trans ((AW 6 2 2012 1 _ rfl rfl rfl rfl).trans (sm [(1000, 2010), (1001, 2011), (1002, 2012)] [(6, oD (.ptr 6 0)), (7, iD 11)] [(6, .box [.own 1000, .own 1001, .own 1002]), (1000, .vec 1 ((([] : List Int)).map Aj)), (1001, .vec 1 ((([] : List Int)).map Aj)), (1002, .vec 1 ((([] : List Int)).map DO))] rfl rfl)))) (Ay ?_)
    exact ⟨⟨[_, _], ⟨.cellN _ _ _ _ _ _ _ rfl rfl D6 CF rfl rfl (Kt rfl), ⟨.tmp _ _ rfl, tv⟩⟩, rfl⟩, ⟨rfl, rfl, rfl, tv⟩⟩
   ·have h := An c6 h
    refine As (Ad (Aa Ae rfl (qL D6 CF rfl (qs CF rfl (qa rfl (Af ?_))))))
    obtain rfl := sj h
    refine Al (sm [(1000, 2007), (1001, 2008), (1002, 2009)] [(6, oD (.ptr 6 0)), (7, iD 0)] [(6, .box [.own 1000, .own 1001, .own 1002]), (1000, .vec 1 (v5.1.fg.map Aj)), (1001, .vec 1 (v5.1.ff.map Aj)), (1002, .vec 1 (v5.1.fi.map DO))] rfl rfl) (Ay ?_)
    exact ⟨⟨[_, _], ⟨.cellN _ _ _ _ _ _ _ rfl rfl D6 CF rfl rfl (Kt rfl), ⟨.tmp _ _ rfl, tv⟩⟩, rfl⟩, ⟨rfl, rfl, rfl, tv⟩⟩
theorem NO (N : Nat) (p0 : Ah) (p1 : AC) (p2 : Ax) (r : AC × Int) (h : Ik N p0 p1 p2 = some r) : Az Tryz.prog 90 [.e (.agg [sC (p0.fb.map Aj), sC (p0.fc.map Aj), sC (p0.fd.map Aj), sC (p0.fa.map Ak)]), .e (.agg [sC (p1.fg.map Aj), sC (p1.ff.map Aj), sC (p1.fi.map DO)]), .e (.agg [iC p2.fe, iC p2.fp, iC p2.fu])] [(1, r.1.fg.map Aj), (1, r.1.ff.map Aj), (1, r.1.fi.map DO)] (.tup [.agg [.own 0, .own 1, .own 2], .one (iC r.2)]) := by
 unfold Ik at h
 refine Ar (n := 22) (rs := [.cell 6 64, .tmp 7]) Tryz.func90 rfl rfl rfl (AY rfl) (AY rfl) rfl fun w0 S0 => ?_
 refine Ad (Aa Ae rfl (qb rfl (qb rfl (qb rfl (qz Hd rfl (qa rfl (Af (Ad (Ad (Aa Ae rfl (qL C9 Ck rfl (qL D6 CF rfl ?_))))))))))))
 obtain ⟨v1, a1, h⟩ := bind_some h
 refine AG [] (Ic N p0 p1 v1 a1) Sf rfl (qa rfl (Af (Ad (Aa Ae rfl (qm rfl (Cl rfl (Af ?_)))))))
 refine Aq rfl (fun c2 => ?_) (fun c2 => ?_)
 ·have h := Ao c2 h
  refine Ad (Aa Ae rfl (Cu Hd MZ rfl (qm rfl (qs CF rfl (qa rfl (Af ?_))))))
  obtain rfl := sj h
  refine Al ((AW 6 0 2001 1 _ rfl rfl rfl rfl).trans ((AW 6 1 2002 1 _ rfl rfl rfl rfl).trans ((AW 6 2 2003 1 _ rfl rfl rfl rfl).trans (sm [(1000, 2001), (1001, 2002), (1002, 2003)] [(6, oD (.ptr 6 0)), (7, iD v1)] [(6, .box [.own 1000, .own 1001, .own 1002]), (1000, .vec 1 ((([] : List Int)).map Aj)), (1001, .vec 1 ((([] : List Int)).map Aj)), (1002, .vec 1 ((([] : List Int)).map DO))] rfl rfl)))) (Ay ?_)
  exact ⟨⟨[_, _], ⟨.cellN _ _ _ _ _ _ _ rfl rfl D6 CF rfl rfl (Kt rfl), ⟨.tmp _ _ rfl, tv⟩⟩, rfl⟩, ⟨rfl, rfl, rfl, tv⟩⟩
 ·have h := An c2 h
  refine As (Ad (Aa Ae rfl (qL C9 Ck rfl (qL D6 CF rfl (qL HB DD rfl ?_)))))
  obtain ⟨v3, a3, h⟩ := bind_some h
  refine AG [2004, 2005, 2006] (Oc N p0 p1 p2 v3 a3) U8 rfl (qx rfl (qx rfl (qs CF rfl (qa rfl (Af ?_)))))
  obtain rfl := sj h
  refine Al (sm [(1000, 2004), (1001, 2005), (1002, 2006)] [(6, oD (.ptr 6 0)), (7, iD v3.2)] [(6, .box [.own 1000, .own 1001, .own 1002]), (1000, .vec 1 (v3.1.fg.map Aj)), (1001, .vec 1 (v3.1.ff.map Aj)), (1002, .vec 1 (v3.1.fi.map DO))] rfl rfl) (Ay ?_)
  exact ⟨⟨[_, _], ⟨.cellN _ _ _ _ _ _ _ rfl rfl D6 CF rfl rfl (Kt rfl), ⟨.tmp _ _ rfl, tv⟩⟩, rfl⟩, ⟨rfl, rfl, rfl, tv⟩⟩
theorem MX (N : Nat) (p0 : Ah) (p1 : AC) (r : (List AV) × Int) (h : HP N p0 p1 = some r) : Az Tryz.prog 64 [.e (.agg [sC (p0.fb.map Aj), sC (p0.fc.map Aj), sC (p0.fd.map Aj), sC (p0.fa.map Ak)]), .e (.agg [sC (p1.fg.map Aj), sC (p1.ff.map Aj), sC (p1.fi.map DO)])] [] (.tup [.one (sC (r.1.map Bc)), .one (iC r.2)]) := by
 unfold HP at h
 refine Ar (n := 119) (rs := [.tmp 4, .tmp 5]) Tryz.func64 rfl rfl rfl (AY rfl) (AY rfl) rfl fun w0 S0 => ?_
 refine Ad (Aa Ae rfl (qb rfl (qb rfl (qa rfl (qa rfl (Af (Ad (Aa Ae rfl (qL D6 CF rfl (Cu Oy SP rfl ?_))))))))))
 refine J6 [(0, .tmp 21, _)] (.p rfl) rfl ⟨rfl, tv⟩ rfl Hz Je Oy rfl rfl (AY rfl) rfl rfl ?_
 refine E2 (GC 22 8 [.s, .s, .s, .s, .s, .s, .s, .x 1 []] _ ((([(AV.mk p1 ((-1)) ((Ax.mk 0 0 0)) (([] : List Int)))] : List AV)).map Bc) rfl rfl) (qa rfl (Af (Ad (Aa Ae rfl ?_))))
 refine QH (.p rfl) rfl ?_
 refine qL D6 CF rfl ?_
 obtain ⟨v1, a1, h⟩ := bind_some h
 refine AG [] (MO N p1 v1 a1) T8 rfl ?_
 refine OV (kv := Value.string) (vt := Ce) (m := ([] : List (ByteArray × Int))) (k := v1) (v := 0) rfl (.inr rfl) rfl rfl rfl rfl (Lq NV TC) rfl ?_
 refine qm rfl (qa rfl (Af (Ad (Ad (Aa Ae rfl (qa rfl (Af ?_)))))))
 refine AB (L := Fo N p0) h (fun v2 => mk [(2, oD (.ptr 2 0)), (6, oD (.own 2001)), (7, oD (.mref 2002)), (8, iD v2.2.2)] [(2, .box [sC (p0.fb.map Aj), sC (p0.fc.map Aj), sC (p0.fd.map Aj), sC (p0.fa.map Ak)]), (2001, .dvec 8 [.s, .s, .s, .s, .s, .s, .s, .x 1 []] (v2.1.map Bc)), (2002, .mp (HM Value.string Ce v2.2.1))]) (fun v3 => mk [(6, oD (.own 2003))] [(2003, .dvec 8 [.s, .s, .s, .s, .s, .s, .s, .x 1 []] (v3.map Bc))]) (fun _ _ => rfl) (sm [(2001, 22), (2002, 23)] _ _ rfl rfl) (fun j2 n2 v2 h => ?_) (fun v3 s h hs => ?_)
 ·unfold Fo at h
  refine Ad (Ad (Aa Ae rfl (qm rfl (qm rfl ?_))))
  refine PN (.p rfl) rfl rfl (H7 Bc v2.1 _ _) Hz ?_
  refine AX rfl (Af ?_)
  refine Aq rfl (fun c4 => ?_) (fun c4 => ?_)
  ·have h := Ao c4 h
   refine As (Ad (AJ (Ad (Aa Ae rfl (qL C9 Ck rfl (qm rfl (qm rfl ?_)))))))
   obtain ⟨v5, a5, b5, h⟩ := Ai h
   refine Ga (.p rfl) rfl rfl rfl (H7 Bc v2.1 _ _) Hz Je a5 (AA b5) ?_
   refine qh LY rfl ?_
   refine O3 (.p rfl) rfl D6 CF rfl (Ag b5) rfl rfl (by decide) rfl ?_
   obtain ⟨v6, a6, h⟩ := bind_some h
   refine AG [2004] (MB N p0 ((AC.mk v5.fv.fg v5.fv.ff v5.fv.fi)) v6 a6) Vw rfl (qm rfl (qx rfl (qx rfl (qa rfl (qa rfl (AL (by kernel_rfl) (Ad (Ad (Aa Ae rfl (qm rfl (Cl rfl (Af ?_))))))))))))
   refine Aq rfl (fun c7 => ?_) (fun c7 => ?_)
   ·have h := Ao c7 h
    refine Ad (Aa Ae rfl (qm rfl (qa rfl (qa rfl (Af ?_)))))
    obtain rfl := sj h
    refine Al ((KV 4 _ rfl).trans (sm [] [(4, pD (.sl ((([] : List AV)).map Bc))), (5, iD v6.2)] [] rfl rfl)) (Ay ?_)
    exact ⟨⟨[_, _], ⟨.tmp _ _ rfl, ⟨.tmp _ _ rfl, tv⟩⟩, rfl⟩, tv⟩
   ·have h := An c7 h
    refine As (Ad (Aa Ae rfl (qm rfl (D8 EW rfl (qm rfl (Af ?_))))))
    refine AB (L := Fu N p0 v2 v6) h (fun v8 => mk [(2, oD (.ptr 2 0)), (6, oD (.own 2005)), (7, oD (.mref 2006)), (8, iD v2.2.2), (46, oD (.own 2007)), (47, iD ((v6.1.length : Int))), (48, iD v8.2.2)] [(2, .box [sC (p0.fb.map Aj), sC (p0.fc.map Aj), sC (p0.fd.map Aj), sC (p0.fa.map Ak)]), (2005, .dvec 8 [.s, .s, .s, .s, .s, .s, .s, .x 1 []] (v8.1.map Bc)), (2006, .mp (HM Value.string Ce v8.2.1)), (2007, .vec 3 (v6.1.map AK))]) (fun v9 => mk [(2, oD (.ptr 2 0)), (6, oD (.own 2008)), (7, oD (.mref 2009)), (8, iD v2.2.2)] [(2, .box [sC (p0.fb.map Aj), sC (p0.fc.map Aj), sC (p0.fd.map Aj), sC (p0.fa.map Ak)]), (2008, .dvec 8 [.s, .s, .s, .s, .s, .s, .s, .x 1 []] (v9.1.map Bc)), (2009, .mp (HM Value.string Ce v9.2))]) (fun _ _ => rfl) (sm [(2005, 2001), (2006, 2002), (2007, 2004)] _ _ rfl rfl) (fun j8 n8 v8 h => ?_) (fun v9 s h hs => ?_)
    ·unfold Fu at h
     refine Ad (Aa Ae rfl (AX rfl (Af (Ad ?_))))
     refine Aq rfl (fun c10 => ?_) (fun c10 => ?_)
     ·have h := Ao c10 h
      refine As (Ad (AJ (Ad (Aa Ae rfl ?_))))
      obtain ⟨v11, a11, b11, h⟩ := Ai h
      refine qI EW DD a11 (Ag b11) rfl (qJ HB DD (Ag b11) rfl (qz Ie rfl (qs DD rfl (Af (Ad (Aa Ae rfl (qL C9 Ck rfl (qm rfl (qm rfl ?_)))))))))
      obtain ⟨v12, a12, b12, h⟩ := Ai h
      refine Ga (.p rfl) rfl rfl rfl (H7 Bc v8.1 _ _) Hz Je a12 (AA b12) ?_
      refine qh LY rfl ?_
      refine O3 (.p rfl) rfl D6 CF rfl (Ag b12) rfl rfl (by decide) rfl ?_
      refine qL HB DD rfl ?_
      obtain ⟨v13, a13, h⟩ := bind_some h
      refine AG [2010, 2011, 2012] (NO N p0 ((AC.mk v12.fv.fg v12.fv.ff v12.fv.fi)) v11 v13 a13) VF rfl (qm rfl (qx rfl (qx rfl (qz Hd rfl (qs CF rfl (qa rfl (AL (by kernel_rfl) (Ad (Ad (Aa Ae rfl (qm rfl (Cl rfl (Af ?_)))))))))))))
      refine Aq rfl (fun c14 => ?_) (fun c14 => ?_)
      ·have h := Ao c14 h
       refine Ad (Aa Ae rfl (qm rfl (qa rfl (qa rfl (Af ?_)))))
       obtain rfl := sj h
       refine Al ((KV 4 _ rfl).trans (sm [] [(4, pD (.sl ((([] : List AV)).map Bc))), (5, iD v13.2)] [] rfl rfl)) (Ay ?_)
       exact ⟨⟨[_, _], ⟨.tmp _ _ rfl, ⟨.tmp _ _ rfl, tv⟩⟩, rfl⟩, tv⟩
      ·have h := An c14 h
       refine As (Ad (Aa Ae rfl (qL D6 CF rfl ?_)))
       obtain ⟨v15, a15, h⟩ := bind_some h
       refine Ew [] [2010, 2011, 2012] (MO N v13.1 v15 a15) T8 De rfl (qa rfl (Af (Ad (Aa Ae rfl (qm rfl (qm rfl ?_))))))
       refine RT (kv := Value.string) (vt := Ce) (m := v8.2.1) (dv := 0) (.p rfl) rfl rfl rfl (Lq NV TC) (by rw [NV]; rfl) Np rfl rfl rfl ?_
       refine qm rfl (qx rfl (qx rfl (qa rfl (qa rfl (Af ?_)))))
       refine AS h (fun v16 => mk [(2, oD (.ptr 2 0)), (6, oD (.own 2013)), (7, oD (.mref 2014)), (8, iD v2.2.2), (16, iD v16.2.2), (46, oD (.own 2015)), (47, iD ((v6.1.length : Int))), (48, iD v8.2.2)] [(2, .box [sC (p0.fb.map Aj), sC (p0.fc.map Aj), sC (p0.fd.map Aj), sC (p0.fa.map Ak)]), (2013, .dvec 8 [.s, .s, .s, .s, .s, .s, .s, .x 1 []] (v16.1.map Bc)), (2014, .mp (HM Value.string Ce v16.2.1)), (2015, .vec 3 (v6.1.map AK))]) (fun j16 h => ?_) (fun v16 h => ?_)
       ·refine Ad (Aa Ae rfl (qm rfl (CB rfl (Af ?_))))
        refine Aq rfl (fun c17 => ?_) (fun c17 => ?_)
        ·have h := Ao c17 h
         refine AS h (fun v18 => mk [(2, oD (.ptr 2 0)), (6, oD (.own 2016)), (7, oD (.mref 2017)), (8, iD v2.2.2), (15, pD (.val (.string v15))), (16, iD v18.2), (46, oD (.own 2018)), (47, iD ((v6.1.length : Int))), (48, iD v8.2.2)] [(2, .box [sC (p0.fb.map Aj), sC (p0.fc.map Aj), sC (p0.fd.map Aj), sC (p0.fa.map Ak)]), (2016, .dvec 8 [.s, .s, .s, .s, .s, .s, .s, .x 1 []] (v18.1.map Bc)), (2017, .mp (HM Value.string Ce v8.2.1)), (2018, .vec 3 (v6.1.map AK))]) (fun j18 h => ?_) (fun v18 h => ?_)
         ·refine Ad (Aa Ae rfl (qL C9 Ck rfl (qL D6 CF rfl ?_)))
          obtain ⟨v19, a19, h⟩ := bind_some h
          refine Ew [] [2010, 2011, 2012] (K3 N p0 v13.1 v19 a19) Uv De rfl (qm rfl (qx rfl (qx rfl (qa rfl (qa rfl (Af ?_))))))
          refine AS h (fun v20 => mk [(2, oD (.ptr 2 0)), (6, oD (.own 2022)), (7, oD (.mref 2023)), (8, iD v2.2.2), (12, oD (.ptr 12 0)), (13, oD (.ptr 13 0)), (15, pD (.val (.string v15))), (46, oD (.own 2024)), (47, iD ((v6.1.length : Int))), (48, iD v8.2.2), (87, bD v20)] [(2, .box [sC (p0.fb.map Aj), sC (p0.fc.map Aj), sC (p0.fd.map Aj), sC (p0.fa.map Ak)]), (12, .box [iC v11.fe, iC v11.fp, iC v11.fu]), (13, .box [.own 2019, .own 2020, .own 2021]), (2019, .vec 1 (v13.1.fg.map Aj)), (2020, .vec 1 (v13.1.ff.map Aj)), (2021, .vec 1 (v13.1.fi.map DO)), (2022, .dvec 8 [.s, .s, .s, .s, .s, .s, .s, .x 1 []] (v8.1.map Bc)), (2023, .mp (HM Value.string Ce v8.2.1)), (2024, .vec 3 (v6.1.map AK))]) (fun j20 h => ?_) (fun v20 h => ?_)
          ·refine Aa Ae rfl (qm rfl (Cl rfl (qm rfl ?_)))
           refine AH (t := 84) rfl (fun c21 => ?_) (fun c21 => ?_)
           ·have h := Ao c21 h
            refine qn rfl (qn rfl (qp rfl (Af ?_)))
            exact Au _ h (sm [(2019, 2010), (2020, 2011), (2021, 2012), (2022, 2005), (2023, 2006), (2024, 2007)] _ _ rfl rfl)
           ·have h := An c21 h
            refine qm rfl (CB rfl (qp rfl (Af ?_)))
            exact Au _ h (sm [(2019, 2010), (2020, 2011), (2021, 2012), (2022, 2005), (2023, 2006), (2024, 2007)] _ _ rfl rfl)
          ·refine Aq rfl (fun c22 => ?_) (fun c22 => ?_)
           ·have h := Ao c22 h
            refine Aa Ae rfl (qa rfl (Af ?_))
            exact Au _ h (sm [(2016, 2022), (2017, 2023), (2018, 2024)] _ _ rfl rfl)
           ·have h := An c22 h
            refine Ad (Aa Ae rfl (qm rfl ?_))
            refine PN (.p rfl) rfl rfl (H7 Bc v8.1 _ _) Hz ?_
            refine qa rfl (Af (Aa Ae rfl (qm rfl (qL D6 CF rfl (qm rfl (qL HB DD rfl (Cu Oy SP rfl (E2 (DC 2019 _ _ rfl rfl) (E2 (DC 2020 _ _ rfl rfl) (E2 (DC 2021 _ _ rfl rfl) ?_))))))))))
            refine J6 [(0, .tmp 94, _)] (.p rfl) rfl ⟨rfl, tv⟩ rfl Hz Je Oy rfl rfl (AY rfl) rfl rfl ?_
            refine E2 (GC 95 8 [.s, .s, .s, .s, .s, .s, .s, .x 1 []] _ ((([(AV.mk v13.1 v2.2.2 v11 (([] : List Int)))] : List AV)).map Bc) rfl rfl) ?_
            obtain ⟨c23, h⟩ := AN h
            refine IG (.p rfl) rfl rfl rfl rfl rfl (by decide) Hz Hz Je Tk (AY rfl) Oy rfl (KW (f := Bc) (g := Bc) (xs := v8.1) (ys := (([(AV.mk v13.1 v2.2.2 v11 (([] : List Int)))] : List AV))) c23) (KJ Bc v8.1 (([(AV.mk v13.1 v2.2.2 v11 (([] : List Int)))] : List AV))) rfl rfl ?_
            refine qa rfl (Af ?_)
            exact Au _ h (sm [(2016, 96), (2017, 2023), (2018, 2024)] _ _ rfl rfl)
         ·refine Aa Ae rfl (qm rfl (qm rfl (qm rfl ?_)))
          refine OV (kv := Value.string) (vt := Ce) (m := v8.2.1) (k := v15) (v := v18.2) rfl (.inl rfl) rfl rfl rfl rfl (Lq NV TC) rfl ?_
          refine Af ?_
          exact Au _ h (sm [(2013, 2016), (2014, 2017), (2015, 2018)] _ _ rfl rfl)
        ·have h := An c17 h
         refine As ?_
         exact Au _ h (sm [(2013, 2005), (2014, 2006), (2015, 2007)] _ _ rfl rfl)
       ·refine AS h (fun v24 => mk [(2, oD (.ptr 2 0)), (6, oD (.own 2025)), (7, oD (.mref 2026)), (8, iD v2.2.2), (46, oD (.own 2027)), (47, iD ((v6.1.length : Int))), (48, iD v8.2.2)] [(2, .box [sC (p0.fb.map Aj), sC (p0.fc.map Aj), sC (p0.fd.map Aj), sC (p0.fa.map Ak)]), (2025, .dvec 8 [.s, .s, .s, .s, .s, .s, .s, .x 1 []] (v24.map Bc)), (2026, .mp (HM Value.string Ce v16.2.1)), (2027, .vec 3 (v6.1.map AK))]) (fun j24 h => ?_) (fun v24 h => ?_)
        ·refine Ad (Aa Ae rfl (qm rfl (D4 rfl (Af ?_))))
         refine Aq rfl (fun c25 => ?_) (fun c25 => ?_)
         ·have h := Ao c25 h
          refine Aa Ae rfl (qm rfl (qm rfl (qm rfl (qm rfl ?_))))
          obtain ⟨v26, a26, b26, h⟩ := Ai h
          refine Ga (.p rfl) rfl rfl rfl (H7 Bc v16.1 _ _) Hz Je a26 (AA b26) ?_
          refine qh OJ rfl ?_
          refine Ps (.p rfl) rfl Ch rfl (Ag b26) rfl rfl rfl rfl ?_
          refine qm rfl (Fx AQ Fh Np rfl ?_)
          obtain ⟨c27, h⟩ := AN h
          refine Gr (f := Aj) AQ AQ Fh PC Np c27 rfl ?_
          obtain ⟨v28, a28, b28, h⟩ := Ai h
          refine Ga (.p rfl) rfl rfl rfl (Tx Bc v16.1 _ _ _ _ _) Hz Je a28 (AA b28) ?_
          refine qh OJ rfl ?_
          refine QZ rfl rfl rfl rfl (rows2 := (v26.ff ++ (([v16.2.2] : List Int))).map Aj) (cols2 := []) rfl rfl (Ag b28) (by decide) VL rfl rfl (A0 Bc v16.1 _ ((AV.mk ((AC.mk v28.fv.fg v28.fv.ff v28.fv.fi)) v28.fh ((Ax.mk v28.fw.fe v28.fw.fp v28.fw.fu)) (v26.ff ++ (([v16.2.2] : List Int)))))) ?_
          refine Af ?_
          exact Au _ h (sm [(2025, 2013), (2026, 2014), (2027, 2015)] _ _ rfl rfl)
         ·have h := An c25 h
          refine As ?_
          exact Au _ h (sm [(2025, 2013), (2026, 2014), (2027, 2015)] _ _ rfl rfl)
        ·refine Ad (Aa Ae rfl (qm rfl ?_))
         refine PN (.p rfl) rfl rfl (H7 Bc v24 _ _) Hz ?_
         refine Ea rfl (Af ?_)
         refine Aq rfl (fun c29 => ?_) (fun c29 => ?_)
         ·have h := Ao c29 h
          refine Ad (Aa Ae rfl (qa rfl (qa rfl (Af ?_))))
          obtain rfl := sj h
          refine Al ((KV 4 _ rfl).trans (sm [] [(4, pD (.sl ((([] : List AV)).map Bc))), (5, iD 3)] [] rfl rfl)) (Ay ?_)
          exact ⟨⟨[_, _], ⟨.tmp _ _ rfl, ⟨.tmp _ _ rfl, tv⟩⟩, rfl⟩, tv⟩
         ·have h := An c29 h
          refine As (Aa Ae rfl (AO rfl (qm rfl (Af ?_))))
          exact Au _ h (sm [(2005, 2025), (2006, 2026), (2007, 2027)] _ _ rfl rfl)
     ·have h := An c10 h
      refine AP ?_
      exact Au _ h (sm [(2008, 2005), (2009, 2006)] _ _ rfl rfl)
    ·refine Al hs (Aa Ae rfl (qm rfl (AO rfl (qa rfl (Af ?_)))))
     exact Au _ h (sm [(2001, 2008), (2002, 2009)] _ _ rfl rfl)
  ·have h := An c4 h
   refine AP ?_
   exact Au _ h (sm [(2003, 2001)] _ _ rfl rfl)
 ·refine Al hs (Ad (Aa Ae rfl (qm rfl (qa rfl (qa rfl (Af ?_))))))
  obtain rfl := sj h
  refine Al ((Lf 2003 _ _ _ rfl rfl).trans (sm [] [(4, pD (.sl (v3.map Bc))), (5, iD 0)] [] rfl rfl)) (Ay ?_)
  exact ⟨⟨[_, _], ⟨.tmp _ _ rfl, ⟨.tmp _ _ rfl, tv⟩⟩, rfl⟩, tv⟩
theorem IU (N : Nat) (p0 : List Int) (p1 : List Int) (r : Bool) (h : EY N p0 p1 = some r) : Az Tryz.prog 92 [pD (.sl (p0.map Aj)), pD (.sl (p1.map Aj))] [] (bD r) := by
 unfold EY at h
 refine Ar (n := 26) (rs := [.tmp 4]) Tryz.func92 rfl rfl rfl (AY rfl) (AY rfl) rfl fun w0 S0 => ?_
 refine Ad (Aa Ae rfl (qa rfl (Af (Ad (Ad (Aa Ae rfl (qm rfl (AM AQ rfl (qm rfl (AM AQ rfl (Cl rfl (Af ?_))))))))))))
 refine Aq rfl (fun c1 => ?_) (fun c1 => ?_)
 ·have h := Ao c1 h
  refine Ad (Aa Ae rfl (qa rfl (Af ?_)))
  obtain rfl := sj h
  refine Al (sm [] [(4, bD false)] [] rfl rfl) (Ay ?_)
  exact ⟨⟨[_], ⟨.tmp _ _ rfl, tv⟩, rfl⟩, tv⟩
 ·have h := An c1 h
  refine As (Ad (Ad (Aa Ae rfl (qm rfl (AM AQ rfl (qm rfl (Af ?_)))))))
  refine AB (L := DB N p0 p1) h (fun v2 => mk [(0, pD (.sl (p0.map Aj))), (1, pD (.sl (p1.map Aj))), (12, iD ((p0.length : Int))), (13, iD v2)] []) (fun v3 => mk [] []) (fun _ _ => rfl) (sm [] _ _ rfl rfl) (fun j2 n2 v2 h => ?_) (fun v3 s h hs => ?_)
  ·unfold DB at h
   refine Ad (Aa Ae rfl (AX rfl (Af (Ad ?_))))
   refine Aq rfl (fun c4 => ?_) (fun c4 => ?_)
   ·have h := Ao c4 h
    refine As (Ad (AJ (Ad (Aa Ae rfl (qm rfl (qa rfl (Af (Ad (Aa Ae rfl (qm rfl (qm rfl ?_)))))))))))
    obtain ⟨v5, a5, b5, h⟩ := Ai h
    refine qi AQ Fh a5 (Ag b5) rfl (qk DA rfl (qm rfl (qm rfl ?_)))
    obtain ⟨v6, a6, b6, h⟩ := Ai h
    refine qi AQ Fh a6 (Ag b6) rfl (qk DA rfl (Cl rfl (AL (by kernel_rfl) ?_)))
    refine Aq rfl (fun c7 => ?_) (fun c7 => ?_)
    ·have h := Ao c7 h
     refine Ad (Aa Ae rfl (qa rfl (Af ?_)))
     obtain rfl := sj h
     refine Al (sm [] [(4, bD false)] [] rfl rfl) (Ay ?_)
     exact ⟨⟨[_], ⟨.tmp _ _ rfl, tv⟩, rfl⟩, tv⟩
    ·have h := An c7 h
     refine As (Aa Ae rfl (AO rfl (qm rfl (Af ?_))))
     exact Au _ h (sm [] _ _ rfl rfl)
   ·have h := An c4 h
    refine AP ?_
    exact Au _ h (sm [] _ _ rfl rfl)
  ·refine Al hs (Ad (Aa Ae rfl (qa rfl (Af ?_))))
   obtain rfl := sj h
   refine Al (sm [] [(4, bD true)] [] rfl rfl) (Ay ?_)
   exact ⟨⟨[_], ⟨.tmp _ _ rfl, tv⟩, rfl⟩, tv⟩
theorem HU (N : Nat) (p0 : List Int) (p1 : Int → Option Bool) (r : Int) (h : Ec N p0 p1 = some r) : Az Tryz.prog 131 [pD (.sl (p0.map Aj)), oD (.clo (BT (LO false Aj) tB p1))] [] (iD r) := by
 unfold Ec at h
 refine Ar (n := 19) (rs := [.tmp 4]) Tryz.func131 rfl rfl rfl (AY rfl) (AY rfl) rfl fun w0 S0 => ?_
 refine Ad (Aa Ae rfl (qa rfl (Af (Ad (Ad (Aa Ae rfl (qm rfl (AM AQ rfl (qm rfl (Af ?_))))))))))
 refine AB (L := C5 N p0 p1) h (fun v1 => mk [(0, pD (.sl (p0.map Aj))), (1, oD (.clo (BT (LO false Aj) tB p1))), (7, iD ((p0.length : Int))), (8, iD v1)] []) (fun v2 => mk [] []) (fun _ _ => rfl) (sm [] _ _ rfl rfl) (fun j1 n1 v1 h => ?_) (fun v2 s h hs => ?_)
 ·unfold C5 at h
  refine Ad (Aa Ae rfl (AX rfl (Af (Ad ?_))))
  refine Aq rfl (fun c3 => ?_) (fun c3 => ?_)
  ·have h := Ao c3 h
   refine As (Ad (AJ (Ad (Aa Ae rfl (qm rfl (qa rfl (Af (Ad (Aa Ae rfl (qm rfl (qm rfl (qm rfl ?_))))))))))))
   obtain ⟨v4, a4, b4, h⟩ := Ai h
   refine qi AQ Fh a4 (Ag b4) rfl (qk DA rfl ?_)
   obtain ⟨v5, a5, h⟩ := bind_some h
   refine Ei (ds0 := [_]) (ar := (LO false Aj) v4) (.p rfl) rfl rfl ⟨rfl, tv⟩ rfl rfl rfl (Eg (K2 _ _ N5) a5) ?_
   refine Af ?_
   refine Aq rfl (fun c6 => ?_) (fun c6 => ?_)
   ·have h := Ao c6 h
    refine Ad (Aa Ae rfl (qm rfl (qa rfl (Af ?_))))
    obtain rfl := sj h
    refine Al (sm [] [(4, iD v1)] [] rfl rfl) (Ay ?_)
    exact ⟨⟨[_], ⟨.tmp _ _ rfl, tv⟩, rfl⟩, tv⟩
   ·have h := An c6 h
    refine As (Aa Ae rfl (AO rfl (qm rfl (Af ?_))))
    exact Au _ h (sm [] _ _ rfl rfl)
  ·have h := An c3 h
   refine AP ?_
   exact Au _ h (sm [] _ _ rfl rfl)
 ·refine Al hs (Ad (Aa Ae rfl (qa rfl (Af ?_))))
  obtain rfl := sj h
  refine Al (sm [] [(4, iD ((-1)))] [] rfl rfl) (Ay ?_)
  exact ⟨⟨[_], ⟨.tmp _ _ rfl, tv⟩, rfl⟩, tv⟩
theorem Hr (N : Nat) (p0 : List Int) (p1 : Int → Option Bool) (r : Bool) (h : DU N p0 p1 = some r) : Az Tryz.prog 93 [pD (.sl (p0.map Aj)), oD (.clo (BT (LO false Aj) tB p1))] [] (bD r) := by
 unfold DU at h
 refine Ar (n := 9) (rs := [.tmp 4]) Tryz.func93 rfl rfl rfl (AY rfl) (AY rfl) rfl fun w0 S0 => ?_
 refine Ad (Aa Ae rfl (qa rfl (Af (Ad (Aa Ae rfl (qm rfl (qm rfl ?_)))))))
 obtain ⟨v1, a1, h⟩ := bind_some h
 refine AG [] (HU N p0 p1 v1 a1) T2 rfl (D4 rfl (qa rfl (Af ?_)))
 obtain rfl := sj h
 refine Al (sm [] [(4, bD ((decide (0 ≤ v1))))] [] rfl rfl) (Ay ?_)
 exact ⟨⟨[_], ⟨.tmp _ _ rfl, tv⟩, rfl⟩, tv⟩
theorem Oh (N : Nat) (p0 : Int) (r : Bool) (h : Hm N p0 = some r) : Az Tryz.prog 94 [iD p0] [] (bD r) := by
 unfold Hm at h
 refine Ar (n := 5) (rs := [.tmp 2]) Tryz.func94 rfl rfl rfl (AY rfl) (AY rfl) rfl fun w0 S0 => ?_
 refine Ad (Aa Ae rfl (qa rfl (Af (Ad (Aa Ae rfl (qm rfl (D4 rfl (qa rfl (Af ?_)))))))))
 obtain rfl := sj h
 refine Al (sm [] [(2, bD ((decide (0 ≤ p0))))] [] rfl rfl) (Ay ?_)
 exact ⟨⟨[_], ⟨.tmp _ _ rfl, tv⟩, rfl⟩, tv⟩
theorem Pt (N : Nat) (p0 : Ah) (p1 : AC) (r : Bool) (h : Jq N p0 p1 = some r) : Az Tryz.prog 67 [.e (.agg [sC (p0.fb.map Aj), sC (p0.fc.map Aj), sC (p0.fd.map Aj), sC (p0.fa.map Ak)]), .e (.agg [sC (p1.fg.map Aj), sC (p1.ff.map Aj), sC (p1.fi.map DO)])] [] (bD r) := by
 unfold Jq at h
 refine Ar (n := 22) (rs := [.tmp 4]) Tryz.func67 rfl rfl rfl (AY rfl) (AY rfl) rfl fun w0 S0 => ?_
 refine Ad (Aa Ae rfl (qb rfl (qb rfl (qa rfl (Af ?_)))))
 refine AS h (fun v1 => mk [(4, bD v1)] []) (fun j1 h => ?_) (fun v1 h => ?_)
 ·refine Aa Ae rfl (qL C9 Ck rfl (qL D6 CF rfl ?_))
  obtain ⟨v2, a2, h⟩ := bind_some h
  refine AG [] (Ic N p0 p1 v2 a2) Sf rfl (CR rfl (qm rfl ?_))
  refine AH (t := 9) rfl (fun c3 => ?_) (fun c3 => ?_)
  ·have h := Ao c3 h
   refine qf E3 rfl (ql Ch rfl (qf G1 rfl (ql Ch rfl ?_)))
   obtain ⟨v4, a4, h⟩ := bind_some h
   refine AG [] (IU N p1.fg p0.fd v4 a4) Vv rfl (qp rfl (qm rfl ?_))
   refine AH (t := 16) rfl (fun c5 => ?_) (fun c5 => ?_)
   ·have h := Ao c5 h
    refine qf Ex rfl (ql Ch rfl ?_)
    obtain ⟨v6, a6, h⟩ := bind_some h
    refine AG [] (Az.weak (ds' := [pD (.sl (p1.ff.map Aj)), oD (.fnc 94)]) (Hr N p1.ff ((fun (x : Int) => Hm N x)) v6 a6) ⟨(fun _ _ _ hh => hh), (fun _ _ _ hh => Qa V5 (fun ar t ht => by obtain ⟨x, r, rfl, hq, rfl⟩ := IE ht; exact Oh N x r hq) hh), tv⟩) Vz rfl ?_
    refine CB rfl (qp rfl (qa rfl (Af ?_)))
    exact Au _ h (sm [] _ _ rfl rfl)
   ·have h := An c5 h
    refine qn rfl (qn rfl (qn rfl (qn rfl (qp rfl (qa rfl (Af ?_))))))
    exact Au _ h (sm [] _ _ rfl rfl)
  ·have h := An c3 h
   refine qn rfl (qn rfl (qn rfl (qn rfl (qn rfl (qp rfl (qm rfl (qn rfl (qn rfl (qn rfl (qn rfl (qp rfl (qa rfl (Af ?_)))))))))))))
   exact Au _ h (sm [] _ _ rfl rfl)
 ·obtain rfl := sj h
  refine Al (sm [] [(4, bD v1)] [] rfl rfl) (Ay ?_)
  exact ⟨⟨[_], ⟨.tmp _ _ rfl, tv⟩, rfl⟩, tv⟩
theorem M4 (N : Nat) (p0 : AV) (p1 : List Int) (p2 : List Int) (p3 : List Int) (p4 : List Av) (r : Bool) (h : FE N p0 p1 p2 p3 p4 = some r) : Az Tryz.prog 66 [.e (.agg [sC (p0.fv.fg.map Aj), sC (p0.fv.ff.map Aj), sC (p0.fv.fi.map DO), iC p0.fh, iC p0.fw.fe, iC p0.fw.fp, iC p0.fw.fu, sC (p0.ff.map Aj)]), oD (.rop [.sl (p1.map Aj), .sl (p2.map Aj), .sl (p3.map Aj), .sl (p4.map Ak)])] [] (bD r) := by
 unfold FE at h
 refine Ar (n := 8) (rs := [.tmp 3]) Tryz.func66 rfl rfl rfl (AY rfl) (AY rfl) rfl fun w0 S0 => ?_
 refine Ad (Aa Ae rfl (qb rfl (qa rfl (Af (Ad (Aa Ae rfl (qK C9 Ck rfl (qf LY rfl (qL D6 CF rfl ?_)))))))))
 obtain ⟨v1, a1, h⟩ := bind_some h
 refine AG [] (Pt N ((Ah.mk p1 p2 p3 p4)) ((AC.mk p0.fv.fg p0.fv.ff p0.fv.fi)) v1 a1) VT rfl (qa rfl (Af ?_))
 obtain rfl := sj h
 refine Al (sm [] [(3, bD v1)] [] rfl rfl) (Ay ?_)
 exact ⟨⟨[_], ⟨.tmp _ _ rfl, tv⟩, rfl⟩, tv⟩
theorem FG (N : Nat) (p0 : List AV) (p1 : AV → Option Bool) (r : Int) (h : CU N p0 p1 = some r) : Az Tryz.prog 65 [pD (.sl (p0.map Bc)), oD (.clo (BT (LO true Bc) tB p1))] [] (iD r) := by
 unfold CU at h
 refine Ar (n := 19) (rs := [.tmp 4]) Tryz.func65 rfl rfl rfl (AY rfl) (AY rfl) rfl fun w0 S0 => ?_
 refine Ad (Aa Ae rfl (qa rfl (Af (Ad (Ad (Aa Ae rfl (qm rfl (AM Hz rfl (qm rfl (Af ?_))))))))))
 refine AB (L := BP N p0 p1) h (fun v1 => mk [(0, pD (.sl (p0.map Bc))), (1, oD (.clo (BT (LO true Bc) tB p1))), (7, iD ((p0.length : Int))), (8, iD v1)] []) (fun v2 => mk [] []) (fun _ _ => rfl) (sm [] _ _ rfl rfl) (fun j1 n1 v1 h => ?_) (fun v2 s h hs => ?_)
 ·unfold BP at h
  refine Ad (Aa Ae rfl (AX rfl (Af (Ad ?_))))
  refine Aq rfl (fun c3 => ?_) (fun c3 => ?_)
  ·have h := Ao c3 h
   refine As (Ad (AJ (Ad (Aa Ae rfl (qm rfl (qa rfl (Af (Ad (Aa Ae rfl (qm rfl (qm rfl (qm rfl ?_))))))))))))
   obtain ⟨v4, a4, b4, h⟩ := Ai h
   refine qi Hz Je a4 (Ag b4) rfl (qK UE Je rfl ?_)
   obtain ⟨v5, a5, h⟩ := bind_some h
   refine Ei (ds0 := [_]) (ar := (LO true Bc) ((AV.mk ((AC.mk v4.fv.fg v4.fv.ff v4.fv.fi)) v4.fh ((Ax.mk v4.fw.fe v4.fw.fp v4.fw.fu)) v4.ff))) (.p rfl) rfl rfl ⟨rfl, tv⟩ rfl rfl rfl (Eg (K2 _ _ Om) a5) ?_
   refine Af ?_
   refine Aq rfl (fun c6 => ?_) (fun c6 => ?_)
   ·have h := Ao c6 h
    refine Ad (Aa Ae rfl (qm rfl (qa rfl (Af ?_))))
    obtain rfl := sj h
    refine Al (sm [] [(4, iD v1)] [] rfl rfl) (Ay ?_)
    exact ⟨⟨[_], ⟨.tmp _ _ rfl, tv⟩, rfl⟩, tv⟩
   ·have h := An c6 h
    refine As (Aa Ae rfl (AO rfl (qm rfl (Af ?_))))
    exact Au _ h (sm [] _ _ rfl rfl)
  ·have h := An c3 h
   refine AP ?_
   exact Au _ h (sm [] _ _ rfl rfl)
 ·refine Al hs (Ad (Aa Ae rfl (qa rfl (Af ?_))))
  obtain rfl := sj h
  refine Al (sm [] [(4, iD ((-1)))] [] rfl rfl) (Ay ?_)
  exact ⟨⟨[_], ⟨.tmp _ _ rfl, tv⟩, rfl⟩, tv⟩
theorem Gq (N : Nat) (p0 : List Ax) (r : (List Ax)) (h : Dm N p0 = some r) : By Tryz.prog 95 [oD (.own 90000)] [(.vec 3 (p0.map AK), .vec 3 (r.map AK))] [] (.tup []) := by
 unfold Dm at h
 refine A3 (n := 28) (rs := []) Tryz.func95 rfl rfl rfl (AY rfl) (AY rfl) rfl rfl (AY rfl) rfl (AY rfl) fun w0 S0 GL => Lz ?_
 refine Al (sm [] [(0, oD (.own 90000))] [(90000, .vec 3 (p0.map AK))] rfl rfl) (Ad (Aa Ae rfl (qm rfl (D8 EW rfl (Cv rfl (qa rfl (qa rfl (Af ?_))))))))
 refine AB (L := Cd N) h (fun v1 => mk [(0, oD (.own 90000)), (2, iD v1.2.1), (3, iD v1.2.2)] [(90000, .vec 3 (v1.1.map AK))]) (fun v2 => mk [] [(90000, .vec 3 (v2.map AK))]) (fun _ _ => rfl) (sm [] _ _ rfl rfl) (fun j1 n1 v1 h => ?_) (fun v2 s h hs => ?_)
 ·unfold Cd at h
  refine Ad (Ad (Aa Ae rfl (qm rfl (qm rfl (AX rfl (Af ?_))))))
  refine Aq rfl (fun c3 => ?_) (fun c3 => ?_)
  ·have h := Ao c3 h
   refine As (Ad (AJ (Aa Ae rfl (qm rfl (qm rfl (qm rfl (qm rfl (qm rfl (qm rfl ?_)))))))))
   obtain ⟨v4, a4, b4, h⟩ := Ai h
   refine qI EW DD a4 (Ag b4) rfl (qJ HB DD (Ag b4) rfl (qm rfl (qm rfl ?_)))
   obtain ⟨v5, a5, b5, h⟩ := Ai h
   refine qI EW DD a5 (Ag b5) rfl (qJ HB DD (Ag b5) rfl ?_)
   obtain ⟨v6, a6, b6, h⟩ := Ai h
   refine qI EW DD a6 (Ag b6) rfl ?_
   refine A7 rfl rfl rfl rfl (Ag b6) rfl DD rfl (AY rfl) (A0 AK v1.1 _ v4) ?_
   obtain ⟨v7, a7, b7, h⟩ := Ai h
   refine qI EW DD a7 (Ag b7) rfl ?_
   refine A7 rfl rfl rfl rfl (Ag b7) rfl DD rfl (AY rfl) (A0 AK (v1.1.set ((v1.2.1).toNat) v4) _ v5) ?_
   refine AL (by kernel_rfl) (Aa Ae rfl (qm rfl (AO rfl (qm rfl (Cv rfl (qa rfl (qa rfl (Af ?_))))))))
   exact Au _ h (sm [] _ _ rfl rfl)
  ·have h := An c3 h
   refine AP ?_
   exact Au _ h (sm [] _ _ rfl rfl)
 ·obtain rfl := sj h
  refine ⟨_, hs.trans (sm [] [] [(90000, .vec 3 (v2.map AK))] rfl rfl), ?_⟩
  exact ⟨⟨[], tv, rfl⟩, ⟨rfl, tv⟩, tv⟩
theorem Px (N : Nat) (p0 : List AV) (p1 : Int) (r : (List Ax)) (h : Jy N p0 p1 = some r) : Az Tryz.prog 68 [pD (.sl (p0.map Bc)), iD p1] [(3, r.map AK)] (oD (.own 0)) := by
 unfold Jy at h
 refine Ar (n := 28) (rs := [.tmp 4]) Tryz.func68 rfl rfl rfl (AY rfl) (AY rfl) rfl fun w0 S0 => ?_
 refine Ad (Aa Ae rfl (qa rfl (Af (Ad (Aa Ae rfl (qa rfl (Af (Ad ?_))))))))
 refine AB (L := GM N p0) h (fun v1 => mk [(0, pD (.sl (p0.map Bc))), (1, iD v1.1), (5, oD (.own 2001))] [(2001, .vec 3 (v1.2.map AK))]) (fun v2 => mk [(5, oD (.own 2002))] [(2002, .vec 3 (v2.map AK))]) (fun _ _ => rfl) ((Bx 5 2003 3 rfl rfl rfl).trans (sm [(2001, 2003)] _ _ rfl rfl)) (fun j1 n1 v1 h => ?_) (fun v2 s h hs => ?_)
 ·unfold GM at h
  refine Ad (Ad (Aa Ae rfl (qm rfl (qm rfl ?_))))
  obtain ⟨v3, a3, b3, h⟩ := Ai h
  refine qi Hz Je a3 (Ag b3) rfl (qg Pk rfl (qk DA rfl (D4 rfl (Af ?_))))
  refine Aq rfl (fun c4 => ?_) (fun c4 => ?_)
  ·have h := Ao c4 h
   refine As (Ad (AJ (Aa Ae rfl (qm rfl (qm rfl (qm rfl ?_))))))
   obtain ⟨v5, a5, b5, h⟩ := Ai h
   refine qi Hz Je a5 (Ag b5) rfl (qg Ri rfl (qK HB DD rfl (Fx EW DD Ie rfl ?_)))
   obtain ⟨c6, h⟩ := AN h
   refine Gr (f := AK) EW EW DD N8 Ie c6 rfl (qa rfl (Af (Aa Ae rfl (qm rfl (qm rfl ?_)))))
   obtain ⟨v7, a7, b7, h⟩ := Ai h
   refine qi Hz Je a7 (Ag b7) rfl (qg Pk rfl (qk DA rfl (qa rfl (Af ?_))))
   exact Au _ h (sm [(2001, 24)] _ _ rfl rfl)
  ·have h := An c4 h
   refine AP ?_
   exact Au _ h (sm [(2002, 2001)] _ _ rfl rfl)
 ·refine Al hs (Ad (Aa Ae rfl (qm rfl ?_)))
  obtain ⟨v8, a8, h⟩ := bind_some h
  refine CK (ds0 := [_]) [2002] [] [true] (Gq N v2 v8 a8) (.p rfl) VZ rfl ⟨rfl, tv⟩ rfl rfl (by decide) ⟨rfl, tv⟩ rfl (A2 rfl) tv ⟨(fun h => by cases h), tv⟩ rfl rfl rfl ?_
  refine Af (Ad (Aa Ae rfl (qm rfl (qa rfl (Af ?_)))))
  obtain rfl := sj h
  refine Al (sm [(1000, 2002)] [(4, oD (.own 1000))] [(1000, .vec 3 (v8.map AK))] rfl rfl) (Ay ?_)
  exact ⟨⟨[_], ⟨.tmp _ _ rfl, tv⟩, rfl⟩, ⟨rfl, tv⟩⟩
theorem Pa (N : Nat) (p0 : Ah) (p1 : AC) (r : (List Ax) × Int) (h : IR N p0 p1 = some r) : Az Tryz.prog 36 [.e (.agg [sC (p0.fb.map Aj), sC (p0.fc.map Aj), sC (p0.fd.map Aj), sC (p0.fa.map Ak)]), .e (.agg [sC (p1.fg.map Aj), sC (p1.ff.map Aj), sC (p1.fi.map DO)])] [(3, r.1.map AK)] (.tup [.one (.own 0), .one (iC r.2)]) := by
 unfold IR at h
 refine Ar (n := 38) (rs := [.tmp 4, .tmp 5]) Tryz.func36 rfl rfl rfl (AY rfl) (AY rfl) rfl fun w0 S0 => ?_
 refine Ad (Aa Ae rfl (qb rfl (qb rfl (qa rfl (qa rfl (Af (Ad (Aa Ae rfl (qL C9 Ck rfl (qL D6 CF rfl ?_))))))))))
 obtain ⟨v1, a1, h⟩ := bind_some h
 refine AG [] (K3 N p0 p1 v1 a1) Uv rfl (qm rfl (qx rfl (qx rfl (qa rfl (qa rfl (Af (Ad (Ad (Aa Ae rfl (qm rfl (Cl rfl (Af ?_))))))))))))
 refine Aq rfl (fun c2 => ?_) (fun c2 => ?_)
 ·have h := Ao c2 h
  refine Ad (Aa Ae rfl (qm rfl (qa rfl (qa rfl (Af ?_)))))
  obtain rfl := sj h
  refine Al ((Bx 4 2001 3 rfl rfl rfl).trans (sm [(1000, 2001)] [(4, oD (.own 1000)), (5, iD v1.2)] [(1000, .vec 3 ((([] : List Ax)).map AK))] rfl rfl)) (Ay ?_)
  exact ⟨⟨[_, _], ⟨.tmp _ _ rfl, ⟨.tmp _ _ rfl, tv⟩⟩, rfl⟩, ⟨rfl, tv⟩⟩
 ·have h := An c2 h
  refine As (Ad (Ad (Aa Ae rfl (qm rfl (CB rfl (Af ?_))))))
  refine Aq rfl (fun c3 => ?_) (fun c3 => ?_)
  ·have h := Ao c3 h
   refine Ad (Aa Ae rfl (qa rfl (qa rfl (Af ?_))))
   obtain rfl := sj h
   refine Al ((Bx 4 2002 3 rfl rfl rfl).trans (sm [(1000, 2002)] [(4, oD (.own 1000)), (5, iD 13)] [(1000, .vec 3 ((([] : List Ax)).map AK))] rfl rfl)) (Ay ?_)
   exact ⟨⟨[_, _], ⟨.tmp _ _ rfl, ⟨.tmp _ _ rfl, tv⟩⟩, rfl⟩, ⟨rfl, tv⟩⟩
  ·have h := An c3 h
   refine As (Ad (Aa Ae rfl (qL C9 Ck rfl (qL D6 CF rfl ?_))))
   obtain ⟨v4, a4, h⟩ := bind_some h
   refine AG [] (MX N p0 p1 v4 a4) Vy rfl (qm rfl (qx rfl (qx rfl (qa rfl (qa rfl (Af (Ad (Ad (Aa Ae rfl (qm rfl (Cl rfl (Af ?_))))))))))))
   refine Aq rfl (fun c5 => ?_) (fun c5 => ?_)
   ·have h := Ao c5 h
    refine Ad (Aa Ae rfl (qm rfl (qa rfl (qa rfl (Af ?_)))))
    obtain rfl := sj h
    refine Al ((Bx 4 2003 3 rfl rfl rfl).trans (sm [(1000, 2003)] [(4, oD (.own 1000)), (5, iD v4.2)] [(1000, .vec 3 ((([] : List Ax)).map AK))] rfl rfl)) (Ay ?_)
    exact ⟨⟨[_, _], ⟨.tmp _ _ rfl, ⟨.tmp _ _ rfl, tv⟩⟩, rfl⟩, ⟨rfl, tv⟩⟩
   ·have h := An c5 h
    refine As (Ad (Aa Ae rfl (qm rfl (E2 (KL 2 [.sl (p0.fb.map Aj), .sl (p0.fc.map Aj), .sl (p0.fd.map Aj), .sl (p0.fa.map Ak)] rfl rfl) ?_))))
    refine Kl (capD := [_]) (BT (LO true Bc) tB ((fun (x : AV) => FE N x p0.fb p0.fc p0.fd p0.fa))) (.p rfl) V2 rfl ⟨rfl, tv⟩ rfl (fun ar t ht => by obtain ⟨x, r, rfl, hq, rfl⟩ := IE ht; exact M4 N x p0.fb p0.fc p0.fd p0.fa r hq) ?_
    obtain ⟨v6, a6, h⟩ := bind_some h
    refine AG [] (FG N v4.1 ((fun (x : AV) => FE N x p0.fb p0.fc p0.fd p0.fa)) v6 a6) VB rfl (qa rfl (Af (Ad (Ad (Aa Ae rfl (qm rfl (AX rfl (Af ?_))))))))
    refine Aq rfl (fun c7 => ?_) (fun c7 => ?_)
    ·have h := Ao c7 h
     refine Ad (Aa Ae rfl (qa rfl (qa rfl (Af ?_))))
     obtain rfl := sj h
     refine Al ((Bx 4 2004 3 rfl rfl rfl).trans (sm [(1000, 2004)] [(4, oD (.own 1000)), (5, iD 14)] [(1000, .vec 3 ((([] : List Ax)).map AK))] rfl rfl)) (Ay ?_)
     exact ⟨⟨[_, _], ⟨.tmp _ _ rfl, ⟨.tmp _ _ rfl, tv⟩⟩, rfl⟩, ⟨rfl, tv⟩⟩
    ·have h := An c7 h
     refine As (Ad (Aa Ae rfl (qm rfl (qm rfl ?_))))
     obtain ⟨v8, a8, h⟩ := bind_some h
     refine AG [2005] (Px N v4.1 v6 v8 a8) VP rfl (qa rfl (qa rfl (Af ?_)))
     obtain rfl := sj h
     refine Al (sm [(1000, 2005)] [(4, oD (.own 1000)), (5, iD 0)] [(1000, .vec 3 (v8.map AK))] rfl rfl) (Ay ?_)
     exact ⟨⟨[_, _], ⟨.tmp _ _ rfl, ⟨.tmp _ _ rfl, tv⟩⟩, rfl⟩, ⟨rfl, tv⟩⟩
theorem Oz (N : Nat) (p0 : Ah) (r : (List Ax) × Int) (h : IT N p0 = some r) : Az Tryz.prog 13 [.e (.agg [sC (p0.fb.map Aj), sC (p0.fc.map Aj), sC (p0.fd.map Aj), sC (p0.fa.map Ak)])] [(3, r.1.map AK)] (.tup [.one (.own 0), .one (iC r.2)]) := by
 unfold IT at h
 refine Ar (n := 19) (rs := [.tmp 2, .tmp 3]) Tryz.func13 rfl rfl rfl (AY rfl) (AY rfl) rfl fun w0 S0 => ?_
 refine Ad (Aa Ae rfl (qb rfl (qa rfl (qa rfl (Af (Ad (Aa Ae rfl (qL C9 Ck rfl ?_))))))))
 obtain ⟨v1, a1, h⟩ := bind_some h
 refine AG [2001, 2002, 2003] (OZ N p0 v1 a1) VW rfl (qm rfl (qx rfl (qx rfl (qz Hd rfl (qs CF rfl (qa rfl (Af (Ad (Ad (Aa Ae rfl (qm rfl (Cl rfl (Af ?_)))))))))))))
 refine Aq rfl (fun c2 => ?_) (fun c2 => ?_)
 ·have h := Ao c2 h
  refine Ad (Aa Ae rfl (qm rfl (qa rfl (qa rfl (Af ?_)))))
  obtain rfl := sj h
  refine Al ((Bx 2 2004 3 rfl rfl rfl).trans (sm [(1000, 2004)] [(2, oD (.own 1000)), (3, iD v1.2)] [(1000, .vec 3 ((([] : List Ax)).map AK))] rfl rfl)) (Ay ?_)
  exact ⟨⟨[_, _], ⟨.tmp _ _ rfl, ⟨.tmp _ _ rfl, tv⟩⟩, rfl⟩, ⟨rfl, tv⟩⟩
 ·have h := An c2 h
  refine As (Ad (Aa Ae rfl (qL C9 Ck rfl (qL D6 CF rfl ?_))))
  obtain ⟨v3, a3, h⟩ := bind_some h
  refine Ew [2005] [2001, 2002, 2003] (Pa N p0 v1.1 v3 a3) VD (HT (fun _ => rfl) De) rfl (qx rfl (qx rfl (qa rfl (qa rfl (Af ?_)))))
  obtain rfl := sj h
  refine Al (sm [(1000, 2005)] [(2, oD (.own 1000)), (3, iD v3.2)] [(1000, .vec 3 (v3.1.map AK))] rfl rfl) (Ay ?_)
  exact ⟨⟨[_, _], ⟨.tmp _ _ rfl, ⟨.tmp _ _ rfl, tv⟩⟩, rfl⟩, ⟨rfl, tv⟩⟩
theorem GY (N : Nat) (p0 : Ah) (p1 : List Ab) (r : Bool × Int) (h : Es N p0 p1 = some r) : Az Tryz.prog 42 [.e (.agg [sC (p0.fb.map Aj), sC (p0.fc.map Aj), sC (p0.fd.map Aj), sC (p0.fa.map Ak)]), pD (.sl (p1.map Ac))] [] (.tup [.one (.pure (.val (.bool r.1))), .one (iC r.2)]) := by
 unfold Es at h
 refine Ar (n := 20) (rs := [.tmp 4, .tmp 5]) Tryz.func42 rfl rfl rfl (AY rfl) (AY rfl) rfl fun w0 S0 => ?_
 refine Ad (Aa Ae rfl (qb rfl (qa rfl (qa rfl (Af (Ad (Aa Ae rfl (qL C9 Ck rfl (qm rfl ?_)))))))))
 obtain ⟨v1, a1, h⟩ := bind_some h
 refine AG [2001, 2002, 2003] (JI N p0 p1 v1 a1) T1 rfl ?_
 obtain ⟨v2, a2, h⟩ := bind_some h
 refine Ew [2004] [2001, 2002, 2003] (Oz N v1 v2 a2) V8 (HT (fun _ => rfl) De) rfl (qm rfl (qx rfl (qx rfl (qa rfl (qa rfl (Af (Ad (Ad (Aa Ae rfl (qm rfl (CR rfl (Af ?_))))))))))))
 refine Aq rfl (fun c3 => ?_) (fun c3 => ?_)
 ·have h := Ao c3 h
  refine Ad (Aa Ae rfl (qm rfl (qa rfl (qa rfl (Af ?_)))))
  obtain rfl := sj h
  refine Al (sm [] [(4, bD false), (5, iD v2.2)] [] rfl rfl) (Ay ?_)
  exact ⟨⟨[_, _], ⟨.tmp _ _ rfl, ⟨.tmp _ _ rfl, tv⟩⟩, rfl⟩, tv⟩
 ·have h := An c3 h
  refine As (Ad (Aa Ae rfl (qm rfl (CR rfl (qa rfl (qa rfl (Af ?_)))))))
  obtain rfl := sj h
  refine Al (sm [] [(4, bD ((v2.2 == 0))), (5, iD 0)] [] rfl rfl) (Ay ?_)
  exact ⟨⟨[_, _], ⟨.tmp _ _ rfl, ⟨.tmp _ _ rfl, tv⟩⟩, rfl⟩, tv⟩
theorem J8 (N : Nat) (p0 : Ah) (r : (List (List Ab)) × Int) (h : GG N p0 = some r) : Az Tryz.prog 24 [.e (.agg [sC (p0.fb.map Aj), sC (p0.fc.map Aj), sC (p0.fd.map Aj), sC (p0.fa.map Ak)])] [(1, r.1.map (CL Ac))] (.tup [.one (.own 0), .one (iC r.2)]) := by
 unfold GG at h
 refine Ar (n := 54) (rs := [.tmp 2, .tmp 3]) Tryz.func24 rfl rfl rfl (AY rfl) (AY rfl) rfl fun w0 S0 => ?_
 refine Ad (Aa Ae rfl (qb rfl (qa rfl (qa rfl (Af (Ad (Aa Ae rfl (qL C9 Ck rfl ?_))))))))
 obtain ⟨v1, a1, h⟩ := bind_some h
 refine AG [2001] (GN N p0 v1 a1) Tw rfl (qm rfl (qx rfl (qx rfl (qa rfl (qa rfl (Af (Ad (Ad (Aa Ae rfl (qm rfl (Cl rfl (Af ?_))))))))))))
 refine Aq rfl (fun c2 => ?_) (fun c2 => ?_)
 ·have h := Ao c2 h
  refine Ad (Aa Ae rfl (qm rfl (qa rfl (qa rfl (Af ?_)))))
  obtain rfl := sj h
  refine Al ((Bx 2 2002 1 rfl rfl rfl).trans (sm [(1000, 2002)] [(2, oD (.own 1000)), (3, iD v1.2)] [(1000, .vec 1 ((([] : List (List Ab))).map (CL Ac)))] rfl rfl)) (Ay ?_)
  exact ⟨⟨[_, _], ⟨.tmp _ _ rfl, ⟨.tmp _ _ rfl, tv⟩⟩, rfl⟩, ⟨rfl, tv⟩⟩
 ·have h := An c2 h
  refine As (Ad (Ad (Aa Ae rfl (qm rfl (D8 AI rfl (Ea rfl (Af ?_)))))))
  refine Aq rfl (fun c3 => ?_) (fun c3 => ?_)
  ·have h := Ao c3 h
   refine Ad (Aa Ae rfl (qa rfl (qa rfl (Af ?_))))
   obtain rfl := sj h
   refine Al ((Bx 2 2003 1 rfl rfl rfl).trans (sm [(1000, 2003)] [(2, oD (.own 1000)), (3, iD 3)] [(1000, .vec 1 ((([] : List (List Ab))).map (CL Ac)))] rfl rfl)) (Ay ?_)
   exact ⟨⟨[_, _], ⟨.tmp _ _ rfl, ⟨.tmp _ _ rfl, tv⟩⟩, rfl⟩, ⟨rfl, tv⟩⟩
  ·have h := An c3 h
   refine As (Ad (Ad (Aa Ae rfl (qa rfl (Af ?_)))))
   refine AB (L := Fp N p0) h (fun v4 => mk [(1, oD (.ptr 1 0)), (4, pD (.sl (v4.1.map Ac))), (6, iD v4.2)] [(1, .box [sC (p0.fb.map Aj), sC (p0.fc.map Aj), sC (p0.fd.map Aj), sC (p0.fa.map Ak)])]) (fun v5 => mk [] []) (fun _ _ => rfl) ((DC 2001 _ _ rfl rfl).trans (sm [] _ _ rfl rfl)) (fun j4 n4 v4 h => ?_) (fun v5 s h hs => ?_)
   ·unfold Fp at h
    refine Ad (Ad (Aa Ae rfl (qm rfl (KT rfl (Af ?_)))))
    refine Aq rfl (fun c6 => ?_) (fun c6 => ?_)
    ·have h := Ao c6 h
     refine As (Ad (AJ (Ad (Aa Ae rfl (qa rfl (Af (Ad (Ad (Aa Ae rfl (qm rfl (qm rfl ?_)))))))))))
     obtain ⟨v7, a7, h⟩ := bind_some h
     refine AG [2004] (MQ N v4.1 v4.2 v7 a7) Uy rfl (D8 Ia rfl (qm rfl (Af ?_)))
     refine AB (L := Fn N p0 v7) h (fun v8 => mk [(1, oD (.ptr 1 0)), (4, pD (.sl (v4.1.map Ac))), (6, iD v4.2), (7, oD (.own 2005)), (29, oD (.own 2006)), (30, iD ((v7.length : Int))), (31, iD v8.2)] [(1, .box [sC (p0.fb.map Aj), sC (p0.fc.map Aj), sC (p0.fd.map Aj), sC (p0.fa.map Ak)]), (2005, .vec 1 (v8.1.map (CL Ac))), (2006, .vec 1 (v7.map (CL Ac)))]) (fun v9 => mk [(1, oD (.ptr 1 0)), (4, pD (.sl (v4.1.map Ac))), (6, iD v4.2), (7, oD (.own 2007))] [(1, .box [sC (p0.fb.map Aj), sC (p0.fc.map Aj), sC (p0.fd.map Aj), sC (p0.fa.map Ak)]), (2007, .vec 1 (v9.map (CL Ac)))]) (fun _ _ => rfl) ((Bx 7 2011 1 rfl rfl rfl).trans (sm [(2005, 2011), (2006, 2004)] _ _ rfl rfl)) (fun j8 n8 v8 h => ?_) (fun v9 s h hs => ?_)
     ·unfold Fn at h
      refine Ad (Aa Ae rfl (AX rfl (Af (Ad ?_))))
      refine Aq rfl (fun c10 => ?_) (fun c10 => ?_)
      ·have h := Ao c10 h
       refine As ?_
       refine AS h (fun v11 => mk [(1, oD (.ptr 1 0)), (4, pD (.sl (v4.1.map Ac))), (6, iD v4.2), (7, oD (.own 2008)), (29, oD (.own 2009)), (30, iD ((v7.length : Int))), (31, iD v8.2)] [(1, .box [sC (p0.fb.map Aj), sC (p0.fc.map Aj), sC (p0.fd.map Aj), sC (p0.fa.map Ak)]), (2008, .vec 1 (v11.map (CL Ac))), (2009, .vec 1 (v7.map (CL Ac)))]) (fun j11 h => ?_) (fun v11 h => ?_)
       ·refine AJ (Ad (Aa Ae rfl ?_))
        obtain ⟨v12, a12, b12, h⟩ := Ai h
        refine qI Ia O9 a12 (Ag b12) rfl (qj TH (Ag b12) rfl (qa rfl (Af (Ad (Aa Ae rfl (qL C9 Ck rfl (qm rfl ?_)))))))
        obtain ⟨v13, a13, h⟩ := bind_some h
        refine AG [] (GY N p0 v12 v13 a13) Tl rfl (qm rfl (qx rfl (qx rfl (qa rfl (qa rfl (Af (Ad (Ad (Aa Ae rfl (qm rfl (Cl rfl (Af ?_))))))))))))
        refine Aq rfl (fun c14 => ?_) (fun c14 => ?_)
        ·have h := Ao c14 h
         refine Ad (Aa Ae rfl (qm rfl (qa rfl (qa rfl (Af ?_)))))
         obtain rfl := sj h
         refine Al ((Bx 2 2010 1 rfl rfl rfl).trans (sm [(1000, 2010)] [(2, oD (.own 1000)), (3, iD v13.2)] [(1000, .vec 1 ((([] : List (List Ab))).map (CL Ac)))] rfl rfl)) (Ay ?_)
         exact ⟨⟨[_, _], ⟨.tmp _ _ rfl, ⟨.tmp _ _ rfl, tv⟩⟩, rfl⟩, ⟨rfl, tv⟩⟩
        ·have h := An c14 h
         refine As (Ad (Aa Ae rfl (qm rfl (Af ?_))))
         refine Aq rfl (fun c15 => ?_) (fun c15 => ?_)
         ·have h := Ao c15 h
          refine Aa Ae rfl (qm rfl (qm rfl (Fx Ia O9 Q8 rfl ?_)))
          obtain ⟨c16, h⟩ := AN h
          refine Gr (f := (CL Ac)) Ia Ia O9 SI Q8 c16 rfl (qa rfl (Af ?_))
          exact Au _ h (sm [(2008, 48), (2009, 2006)] _ _ rfl rfl)
         ·have h := An c15 h
          refine As ?_
          exact Au _ h (sm [(2008, 2005), (2009, 2006)] _ _ rfl rfl)
       ·refine Aa Ae rfl (AO rfl (qm rfl (Af ?_)))
        exact Au _ h (sm [(2005, 2008), (2006, 2009)] _ _ rfl rfl)
      ·have h := An c10 h
       refine AP ?_
       exact Au _ h (sm [(2007, 2005)] _ _ rfl rfl)
     ·refine Al hs (Ad (Aa Ae rfl (qm rfl (D8 Ia rfl (Ea rfl (Af ?_))))))
      refine Aq rfl (fun c17 => ?_) (fun c17 => ?_)
      ·have h := Ao c17 h
       refine Ad (Aa Ae rfl (qm rfl (qa rfl (qa rfl (Af ?_)))))
       obtain rfl := sj h
       refine Al (sm [(1000, 2007)] [(2, oD (.own 1000)), (3, iD 0)] [(1000, .vec 1 (v9.map (CL Ac)))] rfl rfl) (Ay ?_)
       exact ⟨⟨[_, _], ⟨.tmp _ _ rfl, ⟨.tmp _ _ rfl, tv⟩⟩, rfl⟩, ⟨rfl, tv⟩⟩
      ·have h := An c17 h
       refine As (Aa Ae rfl (qm rfl (AO rfl (qa rfl (Af ?_)))))
       exact Au _ h (sm [] _ _ rfl rfl)
    ·have h := An c6 h
     refine AP ?_
     exact Au _ h (sm [] _ _ rfl rfl)
   ·refine Al hs (Ad (Aa Ae rfl (qa rfl (qa rfl (Af ?_)))))
    obtain rfl := sj h
    refine Al ((Bx 2 2012 1 rfl rfl rfl).trans (sm [(1000, 2012)] [(2, oD (.own 1000)), (3, iD 14)] [(1000, .vec 1 ((([] : List (List Ab))).map (CL Ac)))] rfl rfl)) (Ay ?_)
    exact ⟨⟨[_, _], ⟨.tmp _ _ rfl, ⟨.tmp _ _ rfl, tv⟩⟩, rfl⟩, ⟨rfl, tv⟩⟩
theorem Fm (N : Nat) (p0 : List Ab) (p1 : Ab) (r : Int) (h : BW N p0 p1 = some r) : Az Tryz.prog 96 [pD (.sl (p0.map Ac)), .e (.agg [iC p1.ft, iC p1.fr, iC p1.fq])] [] (iD r) := by
 unfold BW at h
 refine Ar (n := 19) (rs := [.tmp 4]) Tryz.func96 rfl rfl rfl (AY rfl) (AY rfl) rfl fun w0 S0 => ?_
 refine Ad (Aa Ae rfl (qb rfl (qa rfl (Af (Ad (Ad (Aa Ae rfl (qm rfl (AM AI rfl (qm rfl (Af ?_)))))))))))
 refine AB (L := AU N p0 p1) h (fun v1 => mk [(0, pD (.sl (p0.map Ac))), (3, oD (.ptr 3 0)), (7, iD ((p0.length : Int))), (8, iD v1)] [(3, .box [iC p1.ft, iC p1.fr, iC p1.fq])]) (fun v2 => mk [] []) (fun _ _ => rfl) (sm [] _ _ rfl rfl) (fun j1 n1 v1 h => ?_) (fun v2 s h hs => ?_)
 ·unfold AU at h
  refine Ad (Aa Ae rfl (AX rfl (Af (Ad ?_))))
  refine Aq rfl (fun c3 => ?_) (fun c3 => ?_)
  ·have h := Ao c3 h
   refine As (Ad (AJ (Ad (Aa Ae rfl (qm rfl (qa rfl (Af (Ad (Aa Ae rfl (qL Co AE rfl (qm rfl (qm rfl ?_))))))))))))
   obtain ⟨v4, a4, b4, h⟩ := Ai h
   refine qi AI AE a4 (Ag b4) rfl (qK Co AE rfl ?_)
   refine Pl [.int .i64 p1.ft, .int .i64 p1.fr, .int .i64 p1.fq] [.int .i64 v4.ft, .int .i64 v4.fr, .int .i64 v4.fq] (.p rfl) rfl rfl Mm rfl ?_
   refine AL (by kernel_rfl) ?_
   refine Aq rfl (fun c5 => ?_) (fun c5 => ?_)
   ·have h := Ao c5 h
    refine Ad (Aa Ae rfl (qm rfl (qa rfl (Af ?_))))
    obtain rfl := sj h
    refine Al (sm [] [(4, iD v1)] [] rfl rfl) (Ay ?_)
    exact ⟨⟨[_], ⟨.tmp _ _ rfl, tv⟩, rfl⟩, tv⟩
   ·have h := An c5 h
    refine As (Aa Ae rfl (AO rfl (qm rfl (Af ?_))))
    exact Au _ h (sm [] _ _ rfl rfl)
  ·have h := An c3 h
   refine AP ?_
   exact Au _ h (sm [] _ _ rfl rfl)
 ·refine Al hs (Ad (Aa Ae rfl (qa rfl (Af ?_))))
  obtain rfl := sj h
  refine Al (sm [] [(4, iD ((-1)))] [] rfl rfl) (Ay ?_)
  exact ⟨⟨[_], ⟨.tmp _ _ rfl, tv⟩, rfl⟩, tv⟩
theorem E0 (N : Nat) (p0 : List Ab) (p1 : Ab) (r : Bool) (h : Bj N p0 p1 = some r) : Az Tryz.prog 69 [pD (.sl (p0.map Ac)), .e (.agg [iC p1.ft, iC p1.fr, iC p1.fq])] [] (bD r) := by
 unfold Bj at h
 refine Ar (n := 9) (rs := [.tmp 4]) Tryz.func69 rfl rfl rfl (AY rfl) (AY rfl) rfl fun w0 S0 => ?_
 refine Ad (Aa Ae rfl (qb rfl (qa rfl (Af (Ad (Aa Ae rfl (qm rfl (qL Co AE rfl ?_))))))))
 obtain ⟨v1, a1, h⟩ := bind_some h
 refine AG [] (Fm N p0 p1 v1 a1) VA rfl (D4 rfl (qa rfl (Af ?_)))
 obtain rfl := sj h
 refine Al (sm [] [(4, bD ((decide (0 ≤ v1))))] [] rfl rfl) (Ay ?_)
 exact ⟨⟨[_], ⟨.tmp _ _ rfl, tv⟩, rfl⟩, tv⟩
theorem Ji (N : Nat) (p0 : Ah) (p1 : List Ab) (r : Int) (h : En N p0 p1 = some r) : Az Tryz.prog 37 [.e (.agg [sC (p0.fb.map Aj), sC (p0.fc.map Aj), sC (p0.fd.map Aj), sC (p0.fa.map Ak)]), pD (.sl (p1.map Ac))] [] (iD r) := by
 unfold En at h
 refine Ar (n := 27) (rs := [.tmp 4]) Tryz.func37 rfl rfl rfl (AY rfl) (AY rfl) rfl fun w0 S0 => ?_
 refine Ad (Aa Ae rfl (qb rfl (qa rfl (Af (Ad (Ad (Aa Ae rfl (qL C9 Ck rfl ?_))))))))
 obtain ⟨v1, a1, h⟩ := bind_some h
 refine AG [] (Dv N p0 v1 a1) Qs rfl (qa rfl (Af (Ad (Aa Ae rfl (qm rfl (Cl rfl (Af ?_)))))))
 refine Aq rfl (fun c2 => ?_) (fun c2 => ?_)
 ·have h := Ao c2 h
  refine Ad (Aa Ae rfl (qm rfl (qa rfl (Af ?_))))
  obtain rfl := sj h
  refine Al (sm [] [(4, iD v1)] [] rfl rfl) (Ay ?_)
  exact ⟨⟨[_], ⟨.tmp _ _ rfl, tv⟩, rfl⟩, tv⟩
 ·have h := An c2 h
  refine As (Ad (Aa Ae rfl (qL C9 Ck rfl ?_)))
  obtain ⟨v3, a3, h⟩ := bind_some h
  refine AG [2001] (G4 N p0 v3 a3) Tf rfl (qa rfl (Af (Ad (Ad (Aa Ae rfl (qm rfl (AM AI rfl (qm rfl (Af ?_)))))))))
  refine AB (L := DI N p1 v3) h (fun v4 => mk [(6, oD (.own 2002)), (16, pD (.sl (p1.map Ac))), (17, iD ((p1.length : Int))), (18, iD v4)] [(2002, .vec 3 (v3.map Ac))]) (fun v5 => mk [] []) (fun _ _ => rfl) (sm [(2002, 2001)] _ _ rfl rfl) (fun j4 n4 v4 h => ?_) (fun v5 s h hs => ?_)
  ·unfold DI at h
   refine Ad (Aa Ae rfl (AX rfl (Af (Ad ?_))))
   refine Aq rfl (fun c6 => ?_) (fun c6 => ?_)
   ·have h := Ao c6 h
    refine As (Ad (AJ (Ad (Aa Ae rfl ?_))))
    obtain ⟨v7, a7, b7, h⟩ := Ai h
    refine qi AI AE a7 (Ag b7) rfl (qK Co AE rfl (qz G8 rfl (qs AE rfl (Af (Ad (Aa Ae rfl (qm rfl (qL Co AE rfl ?_))))))))
    obtain ⟨v8, a8, h⟩ := bind_some h
    refine Ew [] [2002] (E0 N v3 v7 v8 a8) V3 De rfl (CB rfl (Af ?_))
    refine Aq rfl (fun c9 => ?_) (fun c9 => ?_)
    ·have h := Ao c9 h
     refine Ad (Aa Ae rfl (qa rfl (Af ?_)))
     obtain rfl := sj h
     refine Al (sm [] [(4, iD 4)] [] rfl rfl) (Ay ?_)
     exact ⟨⟨[_], ⟨.tmp _ _ rfl, tv⟩, rfl⟩, tv⟩
    ·have h := An c9 h
     refine As (Aa Ae rfl (AO rfl (qm rfl (Af ?_))))
     exact Au _ h (sm [] _ _ rfl rfl)
   ·have h := An c6 h
    refine AP ?_
    exact Au _ h (sm [] _ _ rfl rfl)
  ·refine Al hs (Ad (Aa Ae rfl (qa rfl (Af ?_))))
   obtain rfl := sj h
   refine Al (sm [] [(4, iD 0)] [] rfl rfl) (Ay ?_)
   exact ⟨⟨[_], ⟨.tmp _ _ rfl, tv⟩, rfl⟩, tv⟩
theorem CN (N : Nat) (p0 : List Ab) (r : (List Ab)) (h : AZ N p0 = some r) : Az Tryz.prog 15 [pD (.sl (p0.map Ac))] [(3, r.map Ac)] (oD (.own 0)) := by
 unfold AZ at h
 refine Ar (n := 8) (rs := [.tmp 2]) Tryz.func15 rfl rfl rfl (AY rfl) (AY rfl) rfl fun w0 S0 => ?_
 refine Ad (Aa Ae rfl (qa rfl (Af (Ad (Ad (Aa Ae rfl (qm rfl ?_)))))))
 refine KK (.p rfl) rfl AI ?_
 refine Af ?_
 refine K0 rfl (fun c2 => ?_) ?_
 ·have c2 := List.map_eq_nil_iff.1 c2
  rw [c2] at h
  have h : (some (([] : List Ab))) = some r := h
  refine Ad (Aa Ae rfl (qa rfl (Af ?_)))
  obtain rfl := sj h
  refine Al ((Bx 2 2001 3 rfl rfl rfl).trans (sm [(1000, 2001)] [(2, oD (.own 1000))] [(1000, .vec 3 ((([] : List Ab)).map Ac))] rfl rfl)) (Ay ?_)
  exact ⟨⟨[_], ⟨.tmp _ _ rfl, tv⟩, rfl⟩, ⟨rfl, tv⟩⟩
 ·refine As (Ad (Aa Ae rfl (Fx AI AE G8 rfl (qm rfl ?_))))
  obtain ⟨c1, h⟩ := AN h
  refine HN (f := Ac) AI AI AE Nr G8 (fun _ => rfl) c1 rfl (qa rfl (Af ?_))
  obtain rfl := sj h
  refine Al (sm [(1000, 7)] [(2, oD (.own 1000))] [(1000, .vec 3 (((([] : List Ab)) ++ p0).map Ac))] rfl rfl) (Ay ?_)
  exact ⟨⟨[_], ⟨.tmp _ _ rfl, tv⟩, rfl⟩, ⟨rfl, tv⟩⟩
theorem Ky (N : Nat) (p0 : Int) (r : Int) (h : Gx N p0 = some r) : Az Tryz.prog 105 [pD (.val (.int .u32 p0))] [] (iD r) := by
 unfold Gx at h
 refine Ar (n := 19) (rs := [.tmp 2]) Tryz.func105 rfl rfl rfl (AY rfl) (AY rfl) rfl fun w0 S0 => ?_
 refine Ad (Aa Ae rfl (qa rfl (Af ?_)))
 refine AS h (fun v1 => mk [(0, pD (.val (.int .u32 v1.1))), (2, iD v1.2)] []) (fun j1 h => ?_) (fun v1 h => ?_)
 ·refine Ad (Aa Ae rfl (qm rfl (D4 rfl (Af ?_))))
  refine Aq rfl (fun c2 => ?_) (fun c2 => ?_)
  ·have h := Ao c2 h
   refine Ad (Aa Ae rfl (qm rfl (HW rfl (by decide) (qa rfl (Af (Aa Ae rfl (qa rfl (Af ?_))))))))
   exact Au _ h (sm [] _ _ rfl rfl)
  ·have h := An c2 h
   refine As ?_
   exact Au _ h (sm [] _ _ rfl rfl)
 ·refine AS h (fun v3 => mk [(0, pD (.val (.int .u32 v3.1))), (2, iD v3.2)] []) (fun j3 h => ?_) (fun v3 h => ?_)
  ·refine Ad (Aa Ae rfl (qm rfl (D4 rfl (Af ?_))))
   refine Aq rfl (fun c4 => ?_) (fun c4 => ?_)
   ·have h := Ao c4 h
    refine Ad (Aa Ae rfl (qm rfl (HW rfl (by decide) (qa rfl (Af (Aa Ae rfl (qm rfl (AO rfl (qa rfl (Af ?_))))))))))
    exact Au _ h (sm [] _ _ rfl rfl)
   ·have h := An c4 h
    refine As ?_
    exact Au _ h (sm [] _ _ rfl rfl)
  ·refine Ad (Aa Ae rfl (qm rfl (qm rfl (H2 Pd Vj rfl ?_))))
   obtain ⟨v5, a5, h⟩ := bind_some h
   refine Li (.p rfl) rfl rfl R1 a5 ?_
   refine H2 V7 US rfl (AO rfl (qa rfl (Af ?_)))
   obtain rfl := sj h
   refine Al (sm [] [(2, iD ((wI .i64 (v3.2 + (wI .i64 v5)))))] [] rfl rfl) (Ay ?_)
   exact ⟨⟨[_], ⟨.tmp _ _ rfl, tv⟩, rfl⟩, tv⟩
theorem K6 (N : Nat) (p0 : Int) (r : Int) (h : Gw N p0 = some r) : Az Tryz.prog 106 [pD (.val (.int .u64 p0))] [] (iD r) := by
 unfold Gw at h
 refine Ar (n := 25) (rs := [.tmp 2]) Tryz.func106 rfl rfl rfl (AY rfl) (AY rfl) rfl fun w0 S0 => ?_
 refine Ad (Aa Ae rfl (qa rfl (Af ?_)))
 refine AS h (fun v1 => mk [(0, pD (.val (.int .u64 v1.1))), (2, iD v1.2)] []) (fun j1 h => ?_) (fun v1 h => ?_)
 ·refine Ad (Aa Ae rfl (qm rfl (D4 rfl (Af ?_))))
  refine Aq rfl (fun c2 => ?_) (fun c2 => ?_)
  ·have h := Ao c2 h
   refine Ad (Aa Ae rfl (qm rfl (HW rfl (by decide) (qa rfl (Af (Aa Ae rfl (qa rfl (Af ?_))))))))
   exact Au _ h (sm [] _ _ rfl rfl)
  ·have h := An c2 h
   refine As ?_
   exact Au _ h (sm [] _ _ rfl rfl)
 ·refine AS h (fun v3 => mk [(0, pD (.val (.int .u64 v3.1))), (2, iD v3.2)] []) (fun j3 h => ?_) (fun v3 h => ?_)
  ·refine Ad (Aa Ae rfl (qm rfl (D4 rfl (Af ?_))))
   refine Aq rfl (fun c4 => ?_) (fun c4 => ?_)
   ·have h := Ao c4 h
    refine Ad (Aa Ae rfl (qm rfl (HW rfl (by decide) (qa rfl (Af (Aa Ae rfl (qm rfl (AO rfl (qa rfl (Af ?_))))))))))
    exact Au _ h (sm [] _ _ rfl rfl)
   ·have h := An c4 h
    refine As ?_
    exact Au _ h (sm [] _ _ rfl rfl)
  ·refine AS h (fun v5 => mk [(0, pD (.val (.int .u64 v5.1))), (2, iD v5.2)] []) (fun j5 h => ?_) (fun v5 h => ?_)
   ·refine Ad (Aa Ae rfl (qm rfl (D4 rfl (Af ?_))))
    refine Aq rfl (fun c6 => ?_) (fun c6 => ?_)
    ·have h := Ao c6 h
     refine Ad (Aa Ae rfl (qm rfl (HW rfl (by decide) (qa rfl (Af (Aa Ae rfl (qm rfl (AO rfl (qa rfl (Af ?_))))))))))
     exact Au _ h (sm [] _ _ rfl rfl)
    ·have h := An c6 h
     refine As ?_
     exact Au _ h (sm [] _ _ rfl rfl)
   ·refine Ad (Aa Ae rfl (qm rfl (qm rfl (H2 RN Vj rfl ?_))))
    obtain ⟨v7, a7, h⟩ := bind_some h
    refine Li (.p rfl) rfl rfl R1 a7 ?_
    refine H2 V7 US rfl (AO rfl (qa rfl (Af ?_)))
    obtain rfl := sj h
    refine Al (sm [] [(2, iD ((wI .i64 (v5.2 + (wI .i64 v7)))))] [] rfl rfl) (Ay ?_)
    exact ⟨⟨[_], ⟨.tmp _ _ rfl, tv⟩, rfl⟩, tv⟩
theorem Jd (N : Nat) (p0 : Int) (r : Int) (h : FM N p0 = some r) : Az Tryz.prog 71 [pD (.val (.int .u64 p0))] [] (iD r) := by
 unfold FM at h
 refine Ar (n := 8) (rs := [.tmp 2]) Tryz.func71 rfl rfl rfl (AY rfl) (AY rfl) rfl fun w0 S0 => ?_
 refine Ad (Aa Ae rfl (qa rfl (Af (Ad ?_))))
 refine Aq rfl (fun c1 => ?_) (fun c1 => ?_)
 ·have h := Ao c1 h
  refine Ad (Aa Ae rfl (qm rfl (H2 Pc OT rfl ?_)))
  obtain ⟨v2, a2, h⟩ := bind_some h
  refine AG [] (Ky N ((wI .u32 p0)) v2 a2) U1 rfl (qa rfl (Af ?_))
  obtain rfl := sj h
  refine Al (sm [] [(2, iD v2)] [] rfl rfl) (Ay ?_)
  exact ⟨⟨[_], ⟨.tmp _ _ rfl, tv⟩, rfl⟩, tv⟩
 ·have h := An c1 h
  refine As (Ad (Aa Ae rfl (qm rfl ?_)))
  obtain ⟨v3, a3, h⟩ := bind_some h
  refine AG [] (K6 N p0 v3 a3) UD rfl (qa rfl (Af ?_))
  obtain rfl := sj h
  refine Al (sm [] [(2, iD v3)] [] rfl rfl) (Ay ?_)
  exact ⟨⟨[_], ⟨.tmp _ _ rfl, tv⟩, rfl⟩, tv⟩
theorem Fa (N : Nat) (p0 : List Ab) (p1 : Int) (p2 : Int) (p3 : (Ab × Ab) → Option Int) (r : (List Ab)) (h : CA N p0 p1 p2 p3 = some r) : By Tryz.prog 97 [oD (.own 90000), iD p1, iD p2, oD (.clo (BT (Eu true Ac true Ac) Ce p3))] [(.vec 3 (p0.map Ac), .vec 3 (r.map Ac))] [] (.tup []) := by
 unfold CA at h
 refine A3 (n := 53) (rs := []) Tryz.func97 rfl rfl rfl (AY rfl) (AY rfl) rfl rfl (AY rfl) rfl (AY rfl) fun w0 S0 GL => Lz ?_
 refine Al (sm [] [(0, oD (.own 90000)), (1, iD p1), (2, iD p2), (3, oD (.clo (BT (Eu true Ac true Ac) Ce p3)))] [(90000, .vec 3 (p0.map Ac))] rfl rfl) (Ad (Aa Ae rfl (qm rfl (AO rfl (qa rfl (Af ?_))))))
 refine AB (L := Bz N p1 p2 p3) h (fun v1 => mk [(0, oD (.own 90000)), (1, iD p1), (2, iD p2), (3, oD (.clo (BT (Eu true Ac true Ac) Ce p3))), (8, iD v1.2)] [(90000, .vec 3 (v1.1.map Ac))]) (fun v2 => mk [] [(90000, .vec 3 (v2.map Ac))]) (fun _ _ => rfl) (sm [] _ _ rfl rfl) (fun j1 n1 v1 h => ?_) (fun v2 s h hs => ?_)
 ·unfold Bz at h
  refine Ad (Ad (Aa Ae rfl (qm rfl (qm rfl (AX rfl (Af ?_))))))
  refine Aq rfl (fun c3 => ?_) (fun c3 => ?_)
  ·have h := Ao c3 h
   refine As (Ad (AJ (Ad (Aa Ae rfl (qm rfl (qa rfl (Af ?_)))))))
   refine AB (L := BE N p1 p3) h (fun v4 => mk [(0, oD (.own 90000)), (1, iD p1), (2, iD p2), (3, oD (.clo (BT (Eu true Ac true Ac) Ce p3))), (8, iD v1.2), (9, iD v4.2)] [(90000, .vec 3 (v4.1.map Ac))]) (fun v5 => mk [(0, oD (.own 90000)), (1, iD p1), (2, iD p2), (3, oD (.clo (BT (Eu true Ac true Ac) Ce p3))), (8, iD v1.2)] [(90000, .vec 3 (v5.map Ac))]) (fun _ _ => rfl) (sm [] _ _ rfl rfl) (fun j4 n4 v4 h => ?_) (fun v5 s h hs => ?_)
   ·unfold BE at h
    refine Ad ?_
    refine AS h (fun v6 => mk [(0, oD (.own 90000)), (1, iD p1), (2, iD p2), (3, oD (.clo (BT (Eu true Ac true Ac) Ce p3))), (8, iD v1.2), (9, iD v4.2), (34, bD v6)] [(90000, .vec 3 (v4.1.map Ac))]) (fun j6 h => ?_) (fun v6 h => ?_)
    ·refine Aa Ae rfl (qm rfl (qm rfl (Ea rfl (qm rfl ?_))))
     refine AH (t := 21) rfl (fun c7 => ?_) (fun c7 => ?_)
     ·have h := Ao c7 h
      refine qm rfl (qm rfl (qm rfl ?_))
      obtain ⟨v8, a8, b8, h⟩ := Ai h
      refine qI AI AE a8 (Ag b8) rfl (qJ Co AE (Ag b8) rfl (qm rfl (qm rfl (Cv rfl ?_))))
      obtain ⟨v9, a9, b9, h⟩ := Ai h
      refine qI AI AE a9 (Ag b9) rfl (qJ Co AE (Ag b9) rfl ?_)
      obtain ⟨v10, a10, h⟩ := bind_some h
      refine Ei (ds0 := [_, _]) (ar := (Eu true Ac true Ac) ((v8, v9))) (.g rfl rfl) rfl rfl ⟨rfl, rfl, tv⟩ rfl rfl rfl (Eg (Fw _ _ _ _ AT AT) a10) ?_
      refine AX rfl (qp rfl (AL (by kernel_rfl) ?_))
      exact Au _ h (sm [] _ _ rfl rfl)
     ·have h := An c7 h
      refine qn rfl (qn rfl (qn rfl (qn rfl (qn rfl (qn rfl (qn rfl (qn rfl (qn rfl (qn rfl (qn rfl (qn rfl (qp rfl (AL (by kernel_rfl) ?_)))))))))))))
      exact Au _ h (sm [] _ _ rfl rfl)
    ·refine Aq rfl (fun c11 => ?_) (fun c11 => ?_)
     ·have h := Ao c11 h
      refine As (Ad (AJ (Aa Ae rfl (qm rfl (qm rfl (qm rfl (qm rfl (Cv rfl (qm rfl (qm rfl (Cv rfl ?_)))))))))))
      obtain ⟨v12, a12, b12, h⟩ := Ai h
      refine qI AI AE a12 (Ag b12) rfl (qJ Co AE (Ag b12) rfl (qm rfl (qm rfl ?_)))
      obtain ⟨v13, a13, b13, h⟩ := Ai h
      refine qI AI AE a13 (Ag b13) rfl (qJ Co AE (Ag b13) rfl ?_)
      obtain ⟨v14, a14, b14, h⟩ := Ai h
      refine qI AI AE a14 (Ag b14) rfl ?_
      refine A7 rfl rfl rfl rfl (Ag b14) rfl AE rfl (AY rfl) (A0 Ac v4.1 _ v12) ?_
      obtain ⟨v15, a15, b15, h⟩ := Ai h
      refine qI AI AE a15 (Ag b15) rfl ?_
      refine A7 rfl rfl rfl rfl (Ag b15) rfl AE rfl (AY rfl) (A0 Ac (v4.1.set ((v4.2).toNat) v12) _ v13) ?_
      refine AL (by kernel_rfl) (Aa Ae rfl (qm rfl (Cv rfl (qa rfl (Af ?_)))))
      exact Au _ h (sm [] _ _ rfl rfl)
     ·have h := An c11 h
      refine AP ?_
      exact Au _ h (sm [] _ _ rfl rfl)
   ·refine Al hs (Aa Ae rfl (qm rfl (AO rfl (qa rfl (Af ?_)))))
    exact Au _ h (sm [] _ _ rfl rfl)
  ·have h := An c3 h
   refine AP ?_
   exact Au _ h (sm [] _ _ rfl rfl)
 ·obtain rfl := sj h
  refine ⟨_, hs.trans (sm [] [] [(90000, .vec 3 (v2.map Ac))] rfl rfl), ?_⟩
  exact ⟨⟨[], tv, rfl⟩, ⟨rfl, tv⟩, tv⟩
theorem D1 (N : Nat) (p0 : List Ab) (p1 : Int) (p2 : Int) (p3 : Int) (p4 : (Ab × Ab) → Option Int) (r : (List Ab)) (h : B9 N p0 p1 p2 p3 p4 = some r) : By Tryz.prog 132 [oD (.own 90000), iD p1, iD p2, iD p3, oD (.clo (BT (Eu true Ac true Ac) Ce p4))] [(.vec 3 (p0.map Ac), .vec 3 (r.map Ac))] [] (.tup []) := by
 unfold B9 at h
 refine A3 (n := 82) (rs := []) Tryz.func132 rfl rfl rfl (AY rfl) (AY rfl) rfl rfl (AY rfl) rfl (AY rfl) fun w0 S0 GL => Lz ?_
 refine Al (sm [] [(0, oD (.own 90000)), (1, iD p1), (2, iD p2), (3, iD p3), (4, oD (.clo (BT (Eu true Ac true Ac) Ce p4)))] [(90000, .vec 3 (p0.map Ac))] rfl rfl) (Ad (Aa Ae rfl (qm rfl (qa rfl (Af ?_)))))
 refine AB (L := BY N p2 p3 p4) h (fun v1 => mk [(0, oD (.own 90000)), (2, iD p2), (3, iD p3), (4, oD (.clo (BT (Eu true Ac true Ac) Ce p4))), (10, iD v1.2)] [(90000, .vec 3 (v1.1.map Ac))]) (fun v2 => mk [] [(90000, .vec 3 (v2.map Ac))]) (fun _ _ => rfl) (sm [] _ _ rfl rfl) (fun j1 n1 v1 h => ?_) (fun v2 s h hs => ?_)
 ·unfold BY at h
  refine AJ (Ad (Aa Ae rfl (qm rfl (IB rfl (AO rfl (qa rfl (Af (Ad (Ad (Aa Ae rfl (qm rfl (qm rfl (D4 rfl (Af ?_))))))))))))))
  refine Aq rfl (fun c3 => ?_) (fun c3 => ?_)
  ·have h := Ao c3 h
   refine AP ?_
   exact Au _ h (sm [] _ _ rfl rfl)
  ·have h := An c3 h
   refine As ?_
   refine AS h (fun v4 => mk [(0, oD (.own 90000)), (2, iD p2), (3, iD p3), (4, oD (.clo (BT (Eu true Ac true Ac) Ce p4))), (10, iD v1.2), (11, iD v4)] [(90000, .vec 3 (v1.1.map Ac))]) (fun j4 h => ?_) (fun v4 h => ?_)
   ·refine AS h (fun v5 => mk [(0, oD (.own 90000)), (2, iD p2), (3, iD p3), (4, oD (.clo (BT (Eu true Ac true Ac) Ce p4))), (10, iD v1.2), (11, iD ((wI .i64 ((wI .i64 (2 * v1.2)) + 1)))), (40, bD v5)] [(90000, .vec 3 (v1.1.map Ac))]) (fun j5 h => ?_) (fun v5 h => ?_)
    ·refine Aa Ae rfl (qm rfl (AO rfl (qm rfl (AX rfl (qm rfl ?_)))))
     refine AH (t := 23) rfl (fun c6 => ?_) (fun c6 => ?_)
     ·have h := Ao c6 h
      refine qm rfl (qm rfl (qm rfl (qm rfl (AO rfl ?_))))
      obtain ⟨v7, a7, b7, h⟩ := Ai h
      refine qI AI AE a7 (Ag b7) rfl (qJ Co AE (Ag b7) rfl (qm rfl (qm rfl (qm rfl (AO rfl (AO rfl ?_))))))
      obtain ⟨v8, a8, b8, h⟩ := Ai h
      refine qI AI AE a8 (Ag b8) rfl (qJ Co AE (Ag b8) rfl ?_)
      obtain ⟨v9, a9, h⟩ := bind_some h
      refine Ei (ds0 := [_, _]) (ar := (Eu true Ac true Ac) ((v7, v8))) (.g rfl rfl) rfl rfl ⟨rfl, rfl, tv⟩ rfl rfl rfl (Eg (Fw _ _ _ _ AT AT) a9) ?_
      refine AX rfl (qp rfl (AL (by kernel_rfl) ?_))
      exact Au _ h (sm [] _ _ rfl rfl)
     ·have h := An c6 h
      refine qn rfl (qn rfl (qn rfl (qn rfl (qn rfl (qn rfl (qn rfl (qn rfl (qn rfl (qn rfl (qn rfl (qn rfl (qn rfl (qn rfl (qn rfl (qn rfl (qp rfl (AL (by kernel_rfl) ?_)))))))))))))))))
      exact Au _ h (sm [] _ _ rfl rfl)
    ·refine Aq rfl (fun c10 => ?_) (fun c10 => ?_)
     ·have h := Ao c10 h
      refine Aa Ae rfl (qm rfl (AO rfl (qa rfl (Af ?_))))
      exact Au _ h (sm [] _ _ rfl rfl)
     ·have h := An c10 h
      refine As ?_
      exact Au _ h (sm [] _ _ rfl rfl)
   ·refine Ad (Ad (Aa Ae rfl (qm rfl (qm rfl (qm rfl (qm rfl (AO rfl ?_)))))))
    obtain ⟨v11, a11, b11, h⟩ := Ai h
    refine qI AI AE a11 (Ag b11) rfl (qJ Co AE (Ag b11) rfl (qm rfl (qm rfl (qm rfl (AO rfl ?_)))))
    obtain ⟨v12, a12, b12, h⟩ := Ai h
    refine qI AI AE a12 (Ag b12) rfl (qJ Co AE (Ag b12) rfl ?_)
    obtain ⟨v13, a13, h⟩ := bind_some h
    refine Ei (ds0 := [_, _]) (ar := (Eu true Ac true Ac) ((v11, v12))) (.p rfl) rfl rfl ⟨rfl, rfl, tv⟩ rfl rfl rfl (Eg (Fw _ _ _ _ AT AT) a13) ?_
    refine AX rfl (CB rfl (AL (by kernel_rfl) ?_))
    refine Aq rfl (fun c14 => ?_) (fun c14 => ?_)
    ·have h := Ao c14 h
     obtain rfl := sj h
     refine Ay ⟨_, (sm [] [] [(90000, .vec 3 (v1.1.map Ac))] rfl rfl), ?_⟩
     exact ⟨⟨[], tv, rfl⟩, ⟨rfl, tv⟩, tv⟩
    ·have h := An c14 h
     refine As (Ad (Aa Ae rfl (qm rfl (qm rfl (qm rfl (AO rfl (qm rfl (qm rfl (qm rfl (AO rfl (qm rfl (qm rfl (qm rfl (AO rfl ?_))))))))))))))
     obtain ⟨v15, a15, b15, h⟩ := Ai h
     refine qI AI AE a15 (Ag b15) rfl (qJ Co AE (Ag b15) rfl (qm rfl (qm rfl (qm rfl (AO rfl ?_)))))
     obtain ⟨v16, a16, b16, h⟩ := Ai h
     refine qI AI AE a16 (Ag b16) rfl (qJ Co AE (Ag b16) rfl ?_)
     obtain ⟨v17, a17, b17, h⟩ := Ai h
     refine qI AI AE a17 (Ag b17) rfl ?_
     refine A7 rfl rfl rfl rfl (Ag b17) rfl AE rfl (AY rfl) (A0 Ac v1.1 _ v15) ?_
     obtain ⟨v18, a18, b18, h⟩ := Ai h
     refine qI AI AE a18 (Ag b18) rfl ?_
     refine A7 rfl rfl rfl rfl (Ag b18) rfl AE rfl (AY rfl) (A0 Ac (v1.1.set (((wI .i64 (p3 + v1.2))).toNat) v15) _ v16) ?_
     refine AL (by kernel_rfl) (Aa Ae rfl (qm rfl (qa rfl (Af ?_))))
     exact Au _ h (sm [] _ _ rfl rfl)
 ·obtain rfl := sj h
  refine ⟨_, hs.trans (sm [] [] [(90000, .vec 3 (v2.map Ac))] rfl rfl), ?_⟩
  exact ⟨⟨[], tv, rfl⟩, ⟨rfl, tv⟩, tv⟩
theorem FO (N : Nat) (p0 : List Ab) (p1 : Int) (p2 : Int) (p3 : (Ab × Ab) → Option Int) (r : (List Ab)) (h : C2 N p0 p1 p2 p3 = some r) : By Tryz.prog 98 [oD (.own 90000), iD p1, iD p2, oD (.clo (BT (Eu true Ac true Ac) Ce p3))] [(.vec 3 (p0.map Ac), .vec 3 (r.map Ac))] [] (.tup []) := by
 unfold C2 at h
 refine A3 (n := 60) (rs := []) Tryz.func98 rfl rfl rfl (AY rfl) (AY rfl) rfl rfl (AY rfl) rfl (AY rfl) fun w0 S0 GL => Lz ?_
 refine Al (sm [] [(0, oD (.own 90000)), (1, iD p1), (2, iD p2), (3, oD (.clo (BT (Eu true Ac true Ac) Ce p3)))] [(90000, .vec 3 (p0.map Ac))] rfl rfl) (Ad (Aa Ae rfl (qm rfl (qa rfl (Af (Ad (Aa Ae rfl (qa rfl (Af (Ad (Aa Ae rfl (qm rfl (qm rfl (Cv rfl (qa rfl (Af (Ad (Ad (Aa Ae rfl (qm rfl (Cv rfl (MH rfl (by decide) (qa rfl (Af ?_))))))))))))))))))))))))
 refine AB (L := BZ N p1 p2 p3) h (fun v1 => mk [(0, oD (.own 90000)), (3, oD (.clo (BT (Eu true Ac true Ac) Ce p3))), (8, iD p1), (9, iD 0), (10, iD ((wI .i64 (p2 - p1)))), (11, iD v1.2)] [(90000, .vec 3 (v1.1.map Ac))]) (fun v2 => mk [(0, oD (.own 90000)), (3, oD (.clo (BT (Eu true Ac true Ac) Ce p3))), (8, iD p1), (9, iD 0), (10, iD ((wI .i64 (p2 - p1))))] [(90000, .vec 3 (v2.map Ac))]) (fun _ _ => rfl) (sm [] _ _ rfl rfl) (fun j1 n1 v1 h => ?_) (fun v2 s h hs => ?_)
 ·unfold BZ at h
  refine Ad (Ad (Aa Ae rfl (qm rfl (D4 rfl (Af ?_)))))
  refine Aq rfl (fun c3 => ?_) (fun c3 => ?_)
  ·have h := Ao c3 h
   refine As (Ad (AJ (Aa Ae rfl (qm rfl (qm rfl (qm rfl (qm rfl (qm rfl ?_))))))))
   obtain ⟨v4, a4, h⟩ := bind_some h
   refine CK (ds0 := [_, _, _, _, _]) [90000] [] [true] (D1 N v1.1 v1.2 ((wI .i64 (p2 - p1))) p1 p3 v4 a4) (.p rfl) SW rfl ⟨rfl, rfl, rfl, rfl, rfl, tv⟩ rfl rfl (by decide) ⟨rfl, tv⟩ rfl (A2 rfl) tv ⟨(fun h => by cases h), tv⟩ rfl rfl rfl ?_
   refine Af (Aa Ae rfl (qm rfl (Cv rfl (qa rfl (Af ?_)))))
   exact Au _ h (sm [] _ _ rfl rfl)
  ·have h := An c3 h
   refine AP ?_
   exact Au _ h (sm [] _ _ rfl rfl)
 ·refine Al hs (Ad (Aa Ae rfl (qm rfl (Cv rfl (qa rfl (Af ?_))))))
  refine AB (L := BX N p1 p3) h (fun v5 => mk [(0, oD (.own 90000)), (3, oD (.clo (BT (Eu true Ac true Ac) Ce p3))), (8, iD p1), (9, iD 0), (12, iD v5.2)] [(90000, .vec 3 (v5.1.map Ac))]) (fun v6 => mk [] [(90000, .vec 3 (v6.map Ac))]) (fun _ _ => rfl) (sm [] _ _ rfl rfl) (fun j5 n5 v5 h => ?_) (fun v6 s h hs => ?_)
  ·unfold BX at h
   refine Ad (Ad (Aa Ae rfl (qm rfl (D4 rfl (Af ?_)))))
   refine Aq rfl (fun c7 => ?_) (fun c7 => ?_)
   ·have h := Ao c7 h
    refine As (Ad (AJ (Ad (Aa Ae rfl (qm rfl (qm rfl (qm rfl (qm rfl (qm rfl (AO rfl (qm rfl (qm rfl (qm rfl (AO rfl ?_))))))))))))))
    obtain ⟨v8, a8, b8, h⟩ := Ai h
    refine qI AI AE a8 (Ag b8) rfl (qJ Co AE (Ag b8) rfl (qm rfl (qm rfl ?_)))
    obtain ⟨v9, a9, b9, h⟩ := Ai h
    refine qI AI AE a9 (Ag b9) rfl (qJ Co AE (Ag b9) rfl ?_)
    obtain ⟨v10, a10, b10, h⟩ := Ai h
    refine qI AI AE a10 (Ag b10) rfl ?_
    refine A7 rfl rfl rfl rfl (Ag b10) rfl AE rfl (AY rfl) (A0 Ac v5.1 _ v8) ?_
    obtain ⟨v11, a11, b11, h⟩ := Ai h
    refine qI AI AE a11 (Ag b11) rfl ?_
    refine A7 rfl rfl rfl rfl (Ag b11) rfl AE rfl (AY rfl) (A0 Ac (v5.1.set ((p1).toNat) v8) _ v9) ?_
    refine AL (by kernel_rfl) (Aa Ae rfl (qm rfl (qm rfl (qm rfl (qm rfl (qm rfl ?_))))))
    obtain ⟨v12, a12, h⟩ := bind_some h
    refine CK (ds0 := [_, _, _, _, _]) [90000] [] [true] (D1 N ((v5.1.set ((p1).toNat) v8).set (((wI .i64 (p1 + v5.2))).toNat) v9) 0 v5.2 p1 p3 v12 a12) (.p rfl) SW rfl ⟨rfl, rfl, rfl, rfl, rfl, tv⟩ rfl rfl (by decide) ⟨rfl, tv⟩ rfl (A2 rfl) tv ⟨(fun h => by cases h), tv⟩ rfl rfl rfl ?_
    refine Af (Aa Ae rfl (qm rfl (Cv rfl (qa rfl (Af ?_)))))
    exact Au _ h (sm [] _ _ rfl rfl)
   ·have h := An c7 h
    refine AP ?_
    exact Au _ h (sm [] _ _ rfl rfl)
  ·obtain rfl := sj h
   refine ⟨_, hs.trans (sm [] [] [(90000, .vec 3 (v6.map Ac))] rfl rfl), ?_⟩
   exact ⟨⟨[], tv, rfl⟩, ⟨rfl, tv⟩, tv⟩
theorem ID (N : Nat) (p0 : Int) (r : Int) (h : EM N p0 = some r) : Az Tryz.prog 133 [iD p0] [] (pD (.val (.int .u64 r))) := by
 unfold EM at h
 refine Ar (n := 7) (rs := [.tmp 2]) Tryz.func133 rfl rfl rfl (AY rfl) (AY rfl) rfl fun w0 S0 => ?_
 refine Ad (Aa Ae rfl (qa rfl (Af (Ad (Aa Ae rfl (qm rfl (H2 Tz Nw rfl ?_)))))))
 obtain ⟨v1, a1, h⟩ := bind_some h
 refine AG [] (Jd N ((wI .u64 p0)) v1 a1) UK rfl ?_
 obtain ⟨c2, h⟩ := AN h
 refine JN rfl c2 (qa rfl (Af ?_))
 obtain rfl := sj h
 refine Al (sm [] [(2, pD (.val (.int .u64 ((EA .u64 1 v1)))))] [] rfl rfl) (Ay ?_)
 exact ⟨⟨[_], ⟨.tmp _ _ rfl, tv⟩, rfl⟩, tv⟩
theorem I8 (N : Nat) (p0 : Int) (r : Int × Int) (h : EX N p0 = some r) : By Tryz.prog 134 [oD (.ptr 90000 0)] [(.box [.pure (.val (.int .u64 p0))], .box [.pure (.val (.int .u64 r.2))])] [] (pD (.val (.int .u64 r.1))) := by
 unfold EX at h
 refine A3 (n := 33) (rs := [.tmp 2]) Tryz.func134 rfl rfl rfl (AY rfl) (AY rfl) rfl rfl (AY rfl) rfl (AY rfl) fun w0 S0 GL => ?_
 refine Al (sm [] [(0, oD (.ptr 90000 0))] [(90000, .box [.pure (.val (.int .u64 p0))])] rfl rfl) (Ad (Aa Ae rfl (qa rfl (Af (Ad (Aa Ae rfl (qm rfl (MY rfl (ql MN rfl (qm rfl (MY rfl (ql MN rfl (JN rfl (by decide) (RG rfl (MY rfl (qs P4 rfl (AL (by kernel_rfl) (Ad (Aa Ae rfl (qm rfl (MY rfl (ql MN rfl (qm rfl (MY rfl (ql MN rfl (HW rfl (by decide) (RG rfl (MY rfl (qs P4 rfl (AL (by kernel_rfl) (Ad (Aa Ae rfl (qm rfl (MY rfl (ql MN rfl (qm rfl (MY rfl (ql MN rfl (JN rfl (by decide) ?_)))))))))))))))))))))))))))))))))))))))
 refine RG rfl (MY rfl (qs P4 rfl (AL (by kernel_rfl) (Ad (Aa Ae rfl (qm rfl (MY rfl (ql MN rfl (qa rfl (Af ?_))))))))))
 obtain rfl := sj h
 refine Al (sm [] [(2, pD (.val (.int .u64 ((Gt .u64 ((Gt .u64 ((Gt .u64 p0 ((EA .u64 p0 13)))) ((E4 .u64 ((Gt .u64 p0 ((EA .u64 p0 13)))) 7)))) ((EA .u64 ((Gt .u64 ((Gt .u64 p0 ((EA .u64 p0 13)))) ((E4 .u64 ((Gt .u64 p0 ((EA .u64 p0 13)))) 7)))) 17)))))))] [(90000, .box [.pure (.val (.int .u64 ((Gt .u64 ((Gt .u64 ((Gt .u64 p0 ((EA .u64 p0 13)))) ((E4 .u64 ((Gt .u64 p0 ((EA .u64 p0 13)))) 7)))) ((EA .u64 ((Gt .u64 ((Gt .u64 p0 ((EA .u64 p0 13)))) ((E4 .u64 ((Gt .u64 p0 ((EA .u64 p0 13)))) 7)))) 17))))))])] rfl rfl) (Ay ?_)
 exact ⟨⟨[_], ⟨.tmp _ _ rfl, tv⟩, rfl⟩, ⟨rfl, tv⟩, tv⟩
theorem E5 (N : Nat) (p0 : List Ab) (p1 : Int) (p2 : Int) (p3 : (Ab × Ab) → Option Int) (r : (List Ab)) (h : Cz N p0 p1 p2 p3 = some r) : By Tryz.prog 99 [oD (.own 90000), iD p1, iD p2, oD (.clo (BT (Eu true Ac true Ac) Ce p3))] [(.vec 3 (p0.map Ac), .vec 3 (r.map Ac))] [] (.tup []) := by
 unfold Cz at h
 refine A3 (n := 67) (rs := []) Tryz.func99 rfl rfl rfl (AY rfl) (AY rfl) rfl rfl (AY rfl) rfl (AY rfl) fun w0 S0 GL => Lz ?_
 refine Al (sm [] [(0, oD (.own 90000)), (1, iD p1), (2, iD p2), (3, oD (.clo (BT (Eu true Ac true Ac) Ce p3)))] [(90000, .vec 3 (p0.map Ac))] rfl rfl) (Ad (Aa Ae rfl (qm rfl (qm rfl (Cv rfl (qa rfl (Af (Ad (Aa Ae rfl (qm rfl (D4 rfl (Af ?_))))))))))))
 refine Aq rfl (fun c1 => ?_) (fun c1 => ?_)
 ·have h := Ao c1 h
  refine Ad (Aa Ae rfl (qm rfl (H2 Tz Vb rfl (qz UP rfl (qs P4 rfl (Af (Ad (Aa Ae rfl (qm rfl ?_)))))))))
  obtain ⟨v2, a2, h⟩ := bind_some h
  refine AG [] (ID N ((wI .i64 (p2 - p1))) v2 a2) U9 rfl (qa rfl (Af (Ad (Aa Ae rfl (qm rfl (qm rfl (MH rfl (by decide) (IB rfl (AO rfl (Cv rfl (qa rfl (Af ?_))))))))))))
  refine AB (L := BB N p1 p2 v2) h (fun v3 => mk [(0, oD (.own 90000)), (1, iD p1), (8, iD ((wI .i64 (p2 - p1)))), (9, oD (.ptr 9 0)), (10, pD (.val (.int .u64 v2))), (11, iD v3.2.2)] [(9, .box [.pure (.val (.int .u64 v3.2.1))]), (90000, .vec 3 (v3.1.map Ac))]) (fun v4 => mk [] [(90000, .vec 3 (v4.map Ac))]) (fun _ _ => rfl) (sm [] _ _ rfl rfl) (fun j3 n3 v3 h => ?_) (fun v4 s h hs => ?_)
  ·unfold BB at h
   refine Ad (Ad (Aa Ae rfl (qm rfl (qm rfl (qm rfl (MH rfl (by decide) (IB rfl (AO rfl (AO rfl (KT rfl (Af ?_)))))))))))
   refine Aq rfl (fun c5 => ?_) (fun c5 => ?_)
   ·have h := Ao c5 h
    refine As (Ad (AJ (Ad (Aa Ae rfl ?_))))
    obtain ⟨v6, a6, h⟩ := bind_some h
    refine CK (ds0 := [_]) [9] [] [true] (I8 N v3.2.1 v6 a6) (.p rfl) Vc rfl ⟨rfl, tv⟩ rfl rfl (by decide) ⟨rfl, tv⟩ rfl (A2 rfl) tv ⟨(fun h => by cases h), tv⟩ rfl rfl rfl ?_
    refine qm rfl (Cv rfl (Lu rfl (H2 Pc US rfl (qa rfl (Af ?_)))))
    refine AS h (fun v7 => mk [(0, oD (.own 90000)), (1, iD p1), (8, iD ((wI .i64 (p2 - p1)))), (9, oD (.ptr 9 0)), (10, pD (.val (.int .u64 v2))), (11, iD v3.2.2), (12, iD v7)] [(9, .box [.pure (.val (.int .u64 v6.2))]), (90000, .vec 3 (v3.1.map Ac))]) (fun j7 h => ?_) (fun v7 h => ?_)
    ·refine Ad (Aa Ae rfl (qm rfl (qm rfl (D4 rfl (Af ?_)))))
     refine Aq rfl (fun c8 => ?_) (fun c8 => ?_)
     ·have h := Ao c8 h
      refine Aa Ae rfl (qm rfl (qm rfl (Cv rfl (qa rfl (Af ?_)))))
      exact Au _ h (sm [] _ _ rfl rfl)
     ·have h := An c8 h
      refine As ?_
      exact Au _ h (sm [] _ _ rfl rfl)
    ·refine Aa Ae rfl (qm rfl (qm rfl (qm rfl (qm rfl (qm rfl (AO rfl (qm rfl (qm rfl (qm rfl (AO rfl ?_))))))))))
     obtain ⟨v9, a9, b9, h⟩ := Ai h
     refine qI AI AE a9 (Ag b9) rfl (qJ Co AE (Ag b9) rfl (qm rfl (qm rfl ?_)))
     obtain ⟨v10, a10, b10, h⟩ := Ai h
     refine qI AI AE a10 (Ag b10) rfl (qJ Co AE (Ag b10) rfl ?_)
     obtain ⟨v11, a11, b11, h⟩ := Ai h
     refine qI AI AE a11 (Ag b11) rfl ?_
     refine A7 rfl rfl rfl rfl (Ag b11) rfl AE rfl (AY rfl) (A0 Ac v3.1 _ v9) ?_
     obtain ⟨v12, a12, b12, h⟩ := Ai h
     refine qI AI AE a12 (Ag b12) rfl ?_
     refine A7 rfl rfl rfl rfl (Ag b12) rfl AE rfl (AY rfl) (A0 Ac (v3.1.set ((v3.2.2).toNat) v9) _ v10) ?_
     refine AL (by kernel_rfl) (Aa Ae rfl (qm rfl (AO rfl (qa rfl (Af ?_)))))
     exact Au _ h (sm [] _ _ rfl rfl)
   ·have h := An c5 h
    refine AP ?_
    exact Au _ h (sm [] _ _ rfl rfl)
  ·obtain rfl := sj h
   refine ⟨_, hs.trans (sm [] [] [(90000, .vec 3 (v4.map Ac))] rfl rfl), ?_⟩
   exact ⟨⟨[], tv, rfl⟩, ⟨rfl, tv⟩, tv⟩
 ·have h := An c1 h
  refine As ?_
  obtain rfl := sj h
  refine ⟨_, (sm [] [] [(90000, .vec 3 (p0.map Ac))] rfl rfl), ?_⟩
  exact ⟨⟨[], tv, rfl⟩, ⟨rfl, tv⟩, tv⟩
theorem Dn (N : Nat) (p0 : List Ab) (p1 : Int) (p2 : Int) (p3 : Int) (p4 : (Ab × Ab) → Option Int) (r : Int × Int × Int) (h : BN N p0 p1 p2 p3 p4 = some r) : By Tryz.prog 153 [pD (.sl (p0.map Ac)), iD p1, iD p2, oD (.ptr 90000 0), oD (.clo (BT (Eu true Ac true Ac) Ce p4))] [(.box [iC p3], .box [iC r.2.2])] [] (.tup [.one (iC r.1), .one (iC r.2.1)]) := by
 unfold BN at h
 refine A3 (n := 32) (rs := [.tmp 10, .tmp 11]) Tryz.func153 rfl rfl rfl (AY rfl) (AY rfl) rfl rfl (AY rfl) rfl (AY rfl) fun w0 S0 GL => ?_
 refine Al (sm [] [(0, pD (.sl (p0.map Ac))), (1, iD p1), (2, iD p2), (3, oD (.ptr 90000 0)), (4, oD (.clo (BT (Eu true Ac true Ac) Ce p4)))] [(90000, .box [iC p3])] rfl rfl) (Ad (Aa Ae rfl (qa rfl (qa rfl (Af (Ad (Ad (Aa Ae rfl (qm rfl (qm rfl (qm rfl ?_)))))))))))
 obtain ⟨v1, a1, b1, h⟩ := Ai h
 refine qi AI AE a1 (Ag b1) rfl (qK Co AE rfl (qm rfl (qm rfl ?_)))
 obtain ⟨v2, a2, b2, h⟩ := Ai h
 refine qi AI AE a2 (Ag b2) rfl (qK Co AE rfl ?_)
 obtain ⟨v3, a3, h⟩ := bind_some h
 refine Ei (ds0 := [_, _]) (ar := (Eu true Ac true Ac) ((v1, v2))) (.p rfl) rfl rfl ⟨rfl, rfl, tv⟩ rfl rfl rfl (Eg (Fw _ _ _ _ AT AT) a3) ?_
 refine AX rfl (AL (by kernel_rfl) ?_)
 refine Aq rfl (fun c4 => ?_) (fun c4 => ?_)
 ·have h := Ao c4 h
  refine Ad (Aa Ae rfl (qm rfl (MY rfl (ql DA rfl (AO rfl (MY rfl (qs Fh rfl (Af (Ad (Aa Ae rfl (qm rfl (qm rfl (qa rfl (qa rfl (Af ?_)))))))))))))))
  obtain rfl := sj h
  refine Al (sm [] [(10, iD p2), (11, iD p1)] [(90000, .box [iC ((wI .i64 (p3 + 1)))])] rfl rfl) (Ay ?_)
  exact ⟨⟨[_, _], ⟨.tmp _ _ rfl, ⟨.tmp _ _ rfl, tv⟩⟩, rfl⟩, ⟨rfl, tv⟩, tv⟩
 ·have h := An c4 h
  refine As (Ad (Aa Ae rfl (qm rfl (qm rfl (qa rfl (qa rfl (Af ?_)))))))
  obtain rfl := sj h
  refine Al (sm [] [(10, iD p1), (11, iD p2)] [(90000, .box [iC p3])] rfl rfl) (Ay ?_)
  exact ⟨⟨[_, _], ⟨.tmp _ _ rfl, ⟨.tmp _ _ rfl, tv⟩⟩, rfl⟩, ⟨rfl, tv⟩, tv⟩
theorem Ek (N : Nat) (p0 : List Ab) (p1 : Int) (p2 : Int) (p3 : Int) (p4 : Int) (p5 : (Ab × Ab) → Option Int) (r : Int × Int) (h : Cp N p0 p1 p2 p3 p4 p5 = some r) : By Tryz.prog 136 [pD (.sl (p0.map Ac)), iD p1, iD p2, iD p3, oD (.ptr 90000 0), oD (.clo (BT (Eu true Ac true Ac) Ce p5))] [(.box [iC p4], .box [iC r.2])] [] (iD r.1) := by
 unfold Cp at h
 refine A3 (n := 41) (rs := [.tmp 12]) Tryz.func136 rfl rfl rfl (AY rfl) (AY rfl) rfl rfl (AY rfl) rfl (AY rfl) fun w0 S0 GL => ?_
 refine Al (sm [] [(0, pD (.sl (p0.map Ac))), (1, iD p1), (2, iD p2), (3, iD p3), (4, oD (.ptr 90000 0)), (5, oD (.clo (BT (Eu true Ac true Ac) Ce p5)))] [(90000, .box [iC p4])] rfl rfl) (Ad (Aa Ae rfl (qa rfl (Af (Ad (Aa Ae rfl (qm rfl (qm rfl (qm rfl (qm rfl (qm rfl ?_)))))))))))
 obtain ⟨v1, a1, h⟩ := bind_some h
 refine CK (ds0 := [_, _, _, _, _]) [90000] [] [true] (Dn N p0 p1 p2 p4 p5 v1 a1) (.p rfl) Q3 rfl ⟨rfl, rfl, rfl, rfl, rfl, tv⟩ rfl rfl (by decide) ⟨rfl, tv⟩ rfl (A2 rfl) tv ⟨(fun h => by cases h), tv⟩ rfl rfl rfl ?_
 refine qm rfl (qx rfl (qx rfl (qa rfl (qa rfl (Af (Ad (Aa Ae rfl (qm rfl (qm rfl (qm rfl (qm rfl (qm rfl ?_))))))))))))
 obtain ⟨v2, a2, h⟩ := bind_some h
 refine CK (ds0 := [_, _, _, _, _]) [90000] [] [true] (Dn N p0 v1.2.1 p3 v1.2.2 p5 v2 a2) (.p rfl) Q3 rfl ⟨rfl, rfl, rfl, rfl, rfl, tv⟩ rfl rfl (by decide) ⟨rfl, tv⟩ rfl (A2 rfl) tv ⟨(fun h => by cases h), tv⟩ rfl rfl rfl ?_
 refine qm rfl (qx rfl (qx rfl (qa rfl (qa rfl (Af (Ad (Aa Ae rfl (qm rfl (qm rfl (qm rfl (qm rfl (qm rfl ?_))))))))))))
 obtain ⟨v3, a3, h⟩ := bind_some h
 refine CK (ds0 := [_, _, _, _, _]) [90000] [] [true] (Dn N p0 v1.1 v2.1 v2.2.2 p5 v3 a3) (.p rfl) Q3 rfl ⟨rfl, rfl, rfl, rfl, rfl, tv⟩ rfl rfl (by decide) ⟨rfl, tv⟩ rfl (A2 rfl) tv ⟨(fun h => by cases h), tv⟩ rfl rfl rfl ?_
 refine qm rfl (qx rfl (qx rfl (qa rfl (qa rfl (Af (Ad (Aa Ae rfl (qm rfl (qa rfl (Af ?_))))))))))
 obtain rfl := sj h
 refine Al (sm [] [(12, iD v3.2.1)] [(90000, .box [iC v3.2.2])] rfl rfl) (Ay ?_)
 exact ⟨⟨[_], ⟨.tmp _ _ rfl, tv⟩, rfl⟩, ⟨rfl, tv⟩, tv⟩
theorem Cx (N : Nat) (p0 : List Ab) (p1 : Int) (p2 : Int) (p3 : (Ab × Ab) → Option Int) (r : Int × Int) (h : Bh N p0 p1 p2 p3 = some r) : By Tryz.prog 135 [pD (.sl (p0.map Ac)), iD p1, oD (.ptr 90000 0), oD (.clo (BT (Eu true Ac true Ac) Ce p3))] [(.box [iC p2], .box [iC r.2])] [] (iD r.1) := by
 unfold Bh at h
 refine A3 (n := 18) (rs := [.tmp 8]) Tryz.func135 rfl rfl rfl (AY rfl) (AY rfl) rfl rfl (AY rfl) rfl (AY rfl) fun w0 S0 GL => ?_
 refine Al (sm [] [(0, pD (.sl (p0.map Ac))), (1, iD p1), (2, oD (.ptr 90000 0)), (3, oD (.clo (BT (Eu true Ac true Ac) Ce p3)))] [(90000, .box [iC p2])] rfl rfl) (Ad (Aa Ae rfl (qa rfl (Af (Ad (Aa Ae rfl (qm rfl (qm rfl (Cv rfl (qm rfl (qm rfl (AO rfl (qm rfl (qm rfl ?_))))))))))))))
 obtain ⟨v1, a1, h⟩ := bind_some h
 refine CK (ds0 := [_, _, _, _, _, _]) [90000] [] [true] (Ek N p0 ((wI .i64 (p1 - 1))) p1 ((wI .i64 (p1 + 1))) p2 p3 v1 a1) (.p rfl) S3 rfl ⟨rfl, rfl, rfl, rfl, rfl, rfl, tv⟩ rfl rfl (by decide) ⟨rfl, tv⟩ rfl (A2 rfl) tv ⟨(fun h => by cases h), tv⟩ rfl rfl rfl ?_
 refine qa rfl (Af ?_)
 obtain rfl := sj h
 refine Al (sm [] [(8, iD v1.1)] [(90000, .box [iC v1.2])] rfl rfl) (Ay ?_)
 exact ⟨⟨[_], ⟨.tmp _ _ rfl, tv⟩, rfl⟩, ⟨rfl, tv⟩, tv⟩
theorem Fj (N : Nat) (p0 : List Ab) (p1 : Int) (p2 : Int) (p3 : (Ab × Ab) → Option Int) (r : Int × Int) (h : CJ N p0 p1 p2 p3 = some r) : Az Tryz.prog 100 [pD (.sl (p0.map Ac)), iD p1, iD p2, oD (.clo (BT (Eu true Ac true Ac) Ce p3))] [] (.tup [.one (iC r.1), .one (iC r.2)]) := by
 unfold CJ at h
 refine Ar (n := 63) (rs := [.tmp 8, .tmp 9]) Tryz.func100 rfl rfl rfl (AY rfl) (AY rfl) rfl fun w0 S0 => ?_
 refine Ad (Aa Ae rfl (qa rfl (qa rfl (Af (Ad (Aa Ae rfl (qm rfl (qm rfl (Cv rfl (qa rfl (Af (Ad (Aa Ae rfl (qz Np rfl (Af (Ad (Aa Ae rfl (qm rfl (qm rfl (MH rfl (by decide) (IB rfl (AO rfl (qa rfl (Af (Ad (Aa Ae rfl (qm rfl (qm rfl (MH rfl (by decide) (IB rfl (AO rfl (qa rfl (Af (Ad (Aa Ae rfl (qm rfl (qm rfl (MH rfl (by decide) (IB rfl ?_)))))))))))))))))))))))))))))))))))))))
 refine AO rfl (qa rfl (Af ?_))
 refine AS h (fun v1 => mk [(11, oD (.ptr 11 0)), (13, iD v1.2)] [(11, .box [iC v1.1])]) (fun j1 h => ?_) (fun v1 h => ?_)
 ·refine Ad (Aa Ae rfl (qm rfl (D4 rfl (Af ?_))))
  refine Aq rfl (fun c2 => ?_) (fun c2 => ?_)
  ·have h := Ao c2 h
   refine AS h (fun v3 => mk [(0, pD (.sl (p0.map Ac))), (3, oD (.clo (BT (Eu true Ac true Ac) Ce p3))), (11, oD (.ptr 11 0)), (12, iD v3.2.1), (13, iD v3.2.2.1), (14, iD v3.2.2.2)] [(11, .box [iC v3.1])]) (fun j3 h => ?_) (fun v3 h => ?_)
   ·refine Ad (Aa Ae rfl (qm rfl (D4 rfl (Af ?_))))
    refine Aq rfl (fun c4 => ?_) (fun c4 => ?_)
    ·have h := Ao c4 h
     refine Ad (Aa Ae rfl (qm rfl (qm rfl (qm rfl ?_))))
     obtain ⟨v5, a5, h⟩ := bind_some h
     refine CK (ds0 := [_, _, _, _]) [11] [] [true] (Cx N p0 ((wI .i64 (p1 + (wI .i64 ((wI .i64 (Int.tdiv ((wI .i64 (p2 - p1))) 4)) * 1))))) 0 p3 v5 a5) (.p rfl) Q6 rfl ⟨rfl, rfl, rfl, rfl, tv⟩ rfl rfl (by decide) ⟨rfl, tv⟩ rfl (A2 rfl) tv ⟨(fun h => by cases h), tv⟩ rfl rfl rfl ?_
     refine qa rfl (Af (Ad (Aa Ae rfl (qm rfl (qm rfl (qm rfl ?_))))))
     obtain ⟨v6, a6, h⟩ := bind_some h
     refine CK (ds0 := [_, _, _, _]) [11] [] [true] (Cx N p0 ((wI .i64 (p1 + (wI .i64 ((wI .i64 (Int.tdiv ((wI .i64 (p2 - p1))) 4)) * 2))))) v5.2 p3 v6 a6) (.p rfl) Q6 rfl ⟨rfl, rfl, rfl, rfl, tv⟩ rfl rfl (by decide) ⟨rfl, tv⟩ rfl (A2 rfl) tv ⟨(fun h => by cases h), tv⟩ rfl rfl rfl ?_
     refine qa rfl (Af (Aa Ae rfl (qm rfl (qm rfl (qm rfl ?_)))))
     obtain ⟨v7, a7, h⟩ := bind_some h
     refine CK (ds0 := [_, _, _, _]) [11] [] [true] (Cx N p0 ((wI .i64 (p1 + (wI .i64 ((wI .i64 (Int.tdiv ((wI .i64 (p2 - p1))) 4)) * 3))))) v6.2 p3 v7 a7) (.p rfl) Q6 rfl ⟨rfl, rfl, rfl, rfl, tv⟩ rfl rfl (by decide) ⟨rfl, tv⟩ rfl (A2 rfl) tv ⟨(fun h => by cases h), tv⟩ rfl rfl rfl ?_
     refine qa rfl (Af ?_)
     exact Au _ h (sm [] _ _ rfl rfl)
    ·have h := An c4 h
     refine As ?_
     exact Au _ h (sm [] _ _ rfl rfl)
   ·refine Aa Ae rfl (qm rfl (qm rfl (qm rfl (qm rfl (qm rfl ?_)))))
    obtain ⟨v8, a8, h⟩ := bind_some h
    refine CK (ds0 := [_, _, _, _, _, _]) [11] [] [true] (Ek N p0 v3.2.1 v3.2.2.1 v3.2.2.2 v3.1 p3 v8 a8) (.p rfl) S3 rfl ⟨rfl, rfl, rfl, rfl, rfl, rfl, tv⟩ rfl rfl (by decide) ⟨rfl, tv⟩ rfl (A2 rfl) tv ⟨(fun h => by cases h), tv⟩ rfl rfl rfl ?_
    refine qa rfl (Af ?_)
    exact Au _ h (sm [] _ _ rfl rfl)
  ·have h := An c2 h
   refine As ?_
   exact Au _ h (sm [] _ _ rfl rfl)
 ·refine Ad (Aa Ae rfl (ql DA rfl (Af (AJ (Ad (Aa Ae rfl (CR rfl (qa rfl (Af ?_)))))))))
  refine Aq rfl (fun c9 => ?_) (fun c9 => ?_)
  ·have h := Ao c9 h
   refine Ad (Aa Ae rfl (qm rfl (qa rfl (qa rfl (Af ?_)))))
   obtain rfl := sj h
   refine Al (sm [] [(8, iD v1.2), (9, iD 1)] [] rfl rfl) (Ay ?_)
   exact ⟨⟨[_, _], ⟨.tmp _ _ rfl, ⟨.tmp _ _ rfl, tv⟩⟩, rfl⟩, tv⟩
  ·have h := An c9 h
   refine Ad (Aa Ae rfl (CR rfl (qa rfl (Af ?_))))
   refine Aq rfl (fun c10 => ?_) (fun c10 => ?_)
   ·have h := Ao c10 h
    refine Ad (Aa Ae rfl (qm rfl (qa rfl (qa rfl (Af ?_)))))
    obtain rfl := sj h
    refine Al (sm [] [(8, iD v1.2), (9, iD 2)] [] rfl rfl) (Ay ?_)
    exact ⟨⟨[_, _], ⟨.tmp _ _ rfl, ⟨.tmp _ _ rfl, tv⟩⟩, rfl⟩, tv⟩
   ·have h := An c10 h
    refine Ad (Aa Ae rfl (qm rfl (qa rfl (qa rfl (Af ?_)))))
    obtain rfl := sj h
    refine Al (sm [] [(8, iD v1.2), (9, iD 0)] [] rfl rfl) (Ay ?_)
    exact ⟨⟨[_, _], ⟨.tmp _ _ rfl, ⟨.tmp _ _ rfl, tv⟩⟩, rfl⟩, tv⟩
theorem Fg (N : Nat) (p0 : List Ab) (p1 : Int) (p2 : Int) (p3 : (Ab × Ab) → Option Int) (r : (List Ab)) (h : CG N p0 p1 p2 p3 = some r) : By Tryz.prog 101 [oD (.own 90000), iD p1, iD p2, oD (.clo (BT (Eu true Ac true Ac) Ce p3))] [(.vec 3 (p0.map Ac), .vec 3 (r.map Ac))] [] (.tup []) := by
 unfold CG at h
 refine A3 (n := 34) (rs := []) Tryz.func101 rfl rfl rfl (AY rfl) (AY rfl) rfl rfl (AY rfl) rfl (AY rfl) fun w0 S0 GL => Lz ?_
 refine Al (sm [] [(0, oD (.own 90000)), (1, iD p1), (2, iD p2), (3, oD (.clo (BT (Eu true Ac true Ac) Ce p3)))] [(90000, .vec 3 (p0.map Ac))] rfl rfl) (Ad (Aa Ae rfl (qm rfl (qa rfl (Af (Ad (Aa Ae rfl (qm rfl (Cv rfl (qa rfl (Af ?_)))))))))))
 refine AB (L := BF N) h (fun v1 => mk [(0, oD (.own 90000)), (8, iD v1.2.1), (9, iD v1.2.2)] [(90000, .vec 3 (v1.1.map Ac))]) (fun v2 => mk [] [(90000, .vec 3 (v2.map Ac))]) (fun _ _ => rfl) (sm [] _ _ rfl rfl) (fun j1 n1 v1 h => ?_) (fun v2 s h hs => ?_)
 ·unfold BF at h
  refine Ad (Ad (Aa Ae rfl (qm rfl (qm rfl (AX rfl (Af ?_))))))
  refine Aq rfl (fun c3 => ?_) (fun c3 => ?_)
  ·have h := Ao c3 h
   refine As (AJ (Ad (Aa Ae rfl (qm rfl (qm rfl (qm rfl (qm rfl (qm rfl (qm rfl ?_)))))))))
   obtain ⟨v4, a4, b4, h⟩ := Ai h
   refine qI AI AE a4 (Ag b4) rfl (qJ Co AE (Ag b4) rfl (qm rfl (qm rfl ?_)))
   obtain ⟨v5, a5, b5, h⟩ := Ai h
   refine qI AI AE a5 (Ag b5) rfl (qJ Co AE (Ag b5) rfl ?_)
   obtain ⟨v6, a6, b6, h⟩ := Ai h
   refine qI AI AE a6 (Ag b6) rfl ?_
   refine A7 rfl rfl rfl rfl (Ag b6) rfl AE rfl (AY rfl) (A0 Ac v1.1 _ v4) ?_
   obtain ⟨v7, a7, b7, h⟩ := Ai h
   refine qI AI AE a7 (Ag b7) rfl ?_
   refine A7 rfl rfl rfl rfl (Ag b7) rfl AE rfl (AY rfl) (A0 Ac (v1.1.set ((v1.2.1).toNat) v4) _ v5) ?_
   refine AL (by kernel_rfl) (Ad (Aa Ae rfl (qm rfl (AO rfl (qa rfl (Af (Aa Ae rfl (qm rfl (Cv rfl (qa rfl (Af ?_)))))))))))
   exact Au _ h (sm [] _ _ rfl rfl)
  ·have h := An c3 h
   refine AP ?_
   exact Au _ h (sm [] _ _ rfl rfl)
 ·obtain rfl := sj h
  refine ⟨_, hs.trans (sm [] [] [(90000, .vec 3 (v2.map Ac))] rfl rfl), ?_⟩
  exact ⟨⟨[], tv, rfl⟩, ⟨rfl, tv⟩, tv⟩
theorem Ez (N : Nat) (p0 : List Ab) (p1 : Int) (p2 : Int) (p3 : (Ab × Ab) → Option Int) (r : Bool × (List Ab)) (h : B0 N p0 p1 p2 p3 = some r) : By Tryz.prog 102 [oD (.own 90000), iD p1, iD p2, oD (.clo (BT (Eu true Ac true Ac) Ce p3))] [(.vec 3 (p0.map Ac), .vec 3 (r.2.map Ac))] [] (bD r.1) := by
 unfold B0 at h
 refine A3 (n := 141) (rs := [.tmp 8]) Tryz.func102 rfl rfl rfl (AY rfl) (AY rfl) rfl rfl (AY rfl) rfl (AY rfl) fun w0 S0 GL => ?_
 refine Al (sm [] [(0, oD (.own 90000)), (1, iD p1), (2, iD p2), (3, oD (.clo (BT (Eu true Ac true Ac) Ce p3)))] [(90000, .vec 3 (p0.map Ac))] rfl rfl) (Ad (Aa Ae rfl (qa rfl (Af (Ad (Aa Ae rfl (qm rfl (AO rfl (qa rfl (Af (Ad (Ad (Aa Ae rfl (qa rfl (Af ?_)))))))))))))))
 refine AB (L := Bf N p1 p2 p3) h (fun v1 => mk [(0, oD (.own 90000)), (1, iD p1), (2, iD p2), (3, oD (.clo (BT (Eu true Ac true Ac) Ce p3))), (9, iD v1.2.1), (10, iD v1.2.2)] [(90000, .vec 3 (v1.1.map Ac))]) (fun v2 => mk [] [(90000, .vec 3 (v2.map Ac))]) (fun _ _ => rfl) (sm [] _ _ rfl rfl) (fun j1 n1 v1 h => ?_) (fun v2 s h hs => ?_)
 ·unfold Bf at h
  refine Ad (Ad (Aa Ae rfl (qm rfl (AX rfl (Af ?_)))))
  refine Aq rfl (fun c3 => ?_) (fun c3 => ?_)
  ·have h := Ao c3 h
   refine As ?_
   refine AS h (fun v4 => mk [(0, oD (.own 90000)), (1, iD p1), (2, iD p2), (3, oD (.clo (BT (Eu true Ac true Ac) Ce p3))), (9, iD v4.2), (10, iD v1.2.2)] [(90000, .vec 3 (v4.1.map Ac))]) (fun j4 h => ?_) (fun v4 h => ?_)
   ·refine AJ (Ad ?_)
    refine AB (L := Be N p2 p3 v1) h (fun v5 => mk [(0, oD (.own 90000)), (1, iD p1), (2, iD p2), (3, oD (.clo (BT (Eu true Ac true Ac) Ce p3))), (9, iD v5), (10, iD v1.2.2)] [(90000, .vec 3 (v1.1.map Ac))]) (fun v6 => mk [(0, oD (.own 90000)), (1, iD p1), (2, iD p2), (3, oD (.clo (BT (Eu true Ac true Ac) Ce p3))), (9, iD v6), (10, iD v1.2.2)] [(90000, .vec 3 (v1.1.map Ac))]) (fun _ _ => rfl) (sm [] _ _ rfl rfl) (fun j5 n5 v5 h => ?_) (fun v6 s h hs => ?_)
    ·unfold Be at h
     refine Ad ?_
     refine AS h (fun v7 => mk [(0, oD (.own 90000)), (1, iD p1), (2, iD p2), (3, oD (.clo (BT (Eu true Ac true Ac) Ce p3))), (9, iD v5), (10, iD v1.2.2), (36, bD v7)] [(90000, .vec 3 (v1.1.map Ac))]) (fun j7 h => ?_) (fun v7 h => ?_)
     ·refine Aa Ae rfl (qm rfl (qm rfl (AX rfl (qm rfl ?_))))
      refine AH (t := 22) rfl (fun c8 => ?_) (fun c8 => ?_)
      ·have h := Ao c8 h
       refine qm rfl (qm rfl (qm rfl ?_))
       obtain ⟨v9, a9, b9, h⟩ := Ai h
       refine qI AI AE a9 (Ag b9) rfl (qJ Co AE (Ag b9) rfl (qm rfl (qm rfl (Cv rfl ?_))))
       obtain ⟨v10, a10, b10, h⟩ := Ai h
       refine qI AI AE a10 (Ag b10) rfl (qJ Co AE (Ag b10) rfl ?_)
       obtain ⟨v11, a11, h⟩ := bind_some h
       refine Ei (ds0 := [_, _]) (ar := (Eu true Ac true Ac) ((v9, v10))) (.g rfl rfl) rfl rfl ⟨rfl, rfl, tv⟩ rfl rfl rfl (Eg (Fw _ _ _ _ AT AT) a11) ?_
       refine AX rfl (CB rfl (qp rfl (AL (by kernel_rfl) ?_)))
       exact Au _ h (sm [] _ _ rfl rfl)
      ·have h := An c8 h
       refine qn rfl (qn rfl (qn rfl (qn rfl (qn rfl (qn rfl (qn rfl (qn rfl (qn rfl (qn rfl (qn rfl (qn rfl (qn rfl (qp rfl (AL (by kernel_rfl) ?_))))))))))))))
       exact Au _ h (sm [] _ _ rfl rfl)
     ·refine Aq rfl (fun c12 => ?_) (fun c12 => ?_)
      ·have h := Ao c12 h
       refine As (AJ (Aa Ae rfl (qm rfl (AO rfl (qa rfl (Af ?_))))))
       exact Au _ h (sm [] _ _ rfl rfl)
      ·have h := An c12 h
       refine AP ?_
       exact Au _ h (sm [] _ _ rfl rfl)
    ·refine Al hs (Ad (Ad (Aa Ae rfl (qm rfl (qm rfl (CR rfl (Af ?_)))))))
     refine Aq rfl (fun c13 => ?_) (fun c13 => ?_)
     ·have h := Ao c13 h
      refine Ad (Aa Ae rfl (qa rfl (Af ?_)))
      obtain rfl := sj h
      refine Al (sm [] [(8, bD true)] [(90000, .vec 3 (v1.1.map Ac))] rfl rfl) (Ay ?_)
      exact ⟨⟨[_], ⟨.tmp _ _ rfl, tv⟩, rfl⟩, ⟨rfl, tv⟩, tv⟩
     ·have h := An c13 h
      refine As (Ad (Ad (Aa Ae rfl (qm rfl (qm rfl (Cv rfl (AX rfl (Af ?_))))))))
      refine Aq rfl (fun c14 => ?_) (fun c14 => ?_)
      ·have h := Ao c14 h
       refine Ad (Aa Ae rfl (qa rfl (Af ?_)))
       obtain rfl := sj h
       refine Al (sm [] [(8, bD false)] [(90000, .vec 3 (v1.1.map Ac))] rfl rfl) (Ay ?_)
       exact ⟨⟨[_], ⟨.tmp _ _ rfl, tv⟩, rfl⟩, ⟨rfl, tv⟩, tv⟩
      ·have h := An c14 h
       refine As (Ad (Aa Ae rfl (qm rfl (qm rfl (qm rfl (qm rfl (Cv rfl (qm rfl (qm rfl (Cv rfl ?_))))))))))
       obtain ⟨v15, a15, b15, h⟩ := Ai h
       refine qI AI AE a15 (Ag b15) rfl (qJ Co AE (Ag b15) rfl (qm rfl (qm rfl ?_)))
       obtain ⟨v16, a16, b16, h⟩ := Ai h
       refine qI AI AE a16 (Ag b16) rfl (qJ Co AE (Ag b16) rfl ?_)
       obtain ⟨v17, a17, b17, h⟩ := Ai h
       refine qI AI AE a17 (Ag b17) rfl ?_
       refine A7 rfl rfl rfl rfl (Ag b17) rfl AE rfl (AY rfl) (A0 Ac v1.1 _ v15) ?_
       obtain ⟨v18, a18, b18, h⟩ := Ai h
       refine qI AI AE a18 (Ag b18) rfl ?_
       refine A7 rfl rfl rfl rfl (Ag b18) rfl AE rfl (AY rfl) (A0 Ac (v1.1.set ((v6).toNat) v15) _ v16) ?_
       refine AL (by kernel_rfl) ?_
       refine AS h (fun v19 => mk [(0, oD (.own 90000)), (1, iD p1), (2, iD p2), (3, oD (.clo (BT (Eu true Ac true Ac) Ce p3))), (9, iD v6), (10, iD v1.2.2)] [(90000, .vec 3 (v19.map Ac))]) (fun j19 h => ?_) (fun v19 h => ?_)
       ·refine Ad (Aa Ae rfl (qm rfl (qm rfl (Cv rfl (D4 rfl (Af ?_))))))
        refine Aq rfl (fun c20 => ?_) (fun c20 => ?_)
        ·have h := Ao c20 h
         refine Ad (Aa Ae rfl (qm rfl (Cv rfl (qa rfl (Af ?_)))))
         refine AB (L := Bb N p3) h (fun v21 => mk [(0, oD (.own 90000)), (1, iD p1), (2, iD p2), (3, oD (.clo (BT (Eu true Ac true Ac) Ce p3))), (9, iD v6), (10, iD v1.2.2), (11, iD v21.2)] [(90000, .vec 3 (v21.1.map Ac))]) (fun v22 => mk [(0, oD (.own 90000)), (1, iD p1), (2, iD p2), (3, oD (.clo (BT (Eu true Ac true Ac) Ce p3))), (9, iD v6), (10, iD v1.2.2)] [(90000, .vec 3 (v22.map Ac))]) (fun _ _ => rfl) (sm [] _ _ rfl rfl) (fun j21 n21 v21 h => ?_) (fun v22 s h hs => ?_)
         ·unfold Bb at h
          refine Ad (Ad (Aa Ae rfl (qm rfl (D4 rfl (Af ?_)))))
          refine Aq rfl (fun c23 => ?_) (fun c23 => ?_)
          ·have h := Ao c23 h
           refine As (Ad (AJ (Ad (Ad (Aa Ae rfl (qm rfl (qm rfl (qm rfl ?_))))))))
           obtain ⟨v24, a24, b24, h⟩ := Ai h
           refine qI AI AE a24 (Ag b24) rfl (qJ Co AE (Ag b24) rfl (qm rfl (qm rfl (Cv rfl ?_))))
           obtain ⟨v25, a25, b25, h⟩ := Ai h
           refine qI AI AE a25 (Ag b25) rfl (qJ Co AE (Ag b25) rfl ?_)
           obtain ⟨v26, a26, h⟩ := bind_some h
           refine Ei (ds0 := [_, _]) (ar := (Eu true Ac true Ac) ((v24, v25))) (.p rfl) rfl rfl ⟨rfl, rfl, tv⟩ rfl rfl rfl (Eg (Fw _ _ _ _ AT AT) a26) ?_
           refine AX rfl (CB rfl (AL (by kernel_rfl) ?_))
           refine Aq rfl (fun c27 => ?_) (fun c27 => ?_)
           ·have h := Ao c27 h
            refine AP ?_
            exact Au _ h (sm [] _ _ rfl rfl)
           ·have h := An c27 h
            refine As (Aa Ae rfl (qm rfl (qm rfl (qm rfl (qm rfl (Cv rfl (qm rfl (qm rfl (Cv rfl ?_)))))))))
            obtain ⟨v28, a28, b28, h⟩ := Ai h
            refine qI AI AE a28 (Ag b28) rfl (qJ Co AE (Ag b28) rfl (qm rfl (qm rfl ?_)))
            obtain ⟨v29, a29, b29, h⟩ := Ai h
            refine qI AI AE a29 (Ag b29) rfl (qJ Co AE (Ag b29) rfl ?_)
            obtain ⟨v30, a30, b30, h⟩ := Ai h
            refine qI AI AE a30 (Ag b30) rfl ?_
            refine A7 rfl rfl rfl rfl (Ag b30) rfl AE rfl (AY rfl) (A0 Ac v21.1 _ v28) ?_
            obtain ⟨v31, a31, b31, h⟩ := Ai h
            refine qI AI AE a31 (Ag b31) rfl ?_
            refine A7 rfl rfl rfl rfl (Ag b31) rfl AE rfl (AY rfl) (A0 Ac (v21.1.set ((v21.2).toNat) v28) _ v29) ?_
            refine AL (by kernel_rfl) (Aa Ae rfl (qm rfl (Cv rfl (qa rfl (Af ?_)))))
            exact Au _ h (sm [] _ _ rfl rfl)
          ·have h := An c23 h
           refine AP ?_
           exact Au _ h (sm [] _ _ rfl rfl)
         ·exact Au _ h (hs.trans (sm [] _ _ rfl rfl))
        ·have h := An c20 h
         refine As ?_
         exact Au _ h (sm [] _ _ rfl rfl)
       ·refine Ad (Aa Ae rfl (qm rfl (qm rfl (Cv rfl (D4 rfl (Af ?_))))))
        refine Aq rfl (fun c32 => ?_) (fun c32 => ?_)
        ·have h := Ao c32 h
         refine Ad (Aa Ae rfl (qm rfl (AO rfl (qa rfl (Af ?_)))))
         refine AB (L := Ba N p2 p3) h (fun v33 => mk [(0, oD (.own 90000)), (1, iD p1), (2, iD p2), (3, oD (.clo (BT (Eu true Ac true Ac) Ce p3))), (9, iD v6), (10, iD v1.2.2), (12, iD v33.2)] [(90000, .vec 3 (v33.1.map Ac))]) (fun v34 => mk [(0, oD (.own 90000)), (1, iD p1), (2, iD p2), (3, oD (.clo (BT (Eu true Ac true Ac) Ce p3))), (9, iD v6), (10, iD v1.2.2)] [(90000, .vec 3 (v34.map Ac))]) (fun _ _ => rfl) (sm [] _ _ rfl rfl) (fun j33 n33 v33 h => ?_) (fun v34 s h hs => ?_)
         ·unfold Ba at h
          refine Ad (Ad (Aa Ae rfl (qm rfl (qm rfl (AX rfl (Af ?_))))))
          refine Aq rfl (fun c35 => ?_) (fun c35 => ?_)
          ·have h := Ao c35 h
           refine As (Ad (AJ (Ad (Ad (Aa Ae rfl (qm rfl (qm rfl (qm rfl ?_))))))))
           obtain ⟨v36, a36, b36, h⟩ := Ai h
           refine qI AI AE a36 (Ag b36) rfl (qJ Co AE (Ag b36) rfl (qm rfl (qm rfl (Cv rfl ?_))))
           obtain ⟨v37, a37, b37, h⟩ := Ai h
           refine qI AI AE a37 (Ag b37) rfl (qJ Co AE (Ag b37) rfl ?_)
           obtain ⟨v38, a38, h⟩ := bind_some h
           refine Ei (ds0 := [_, _]) (ar := (Eu true Ac true Ac) ((v36, v37))) (.p rfl) rfl rfl ⟨rfl, rfl, tv⟩ rfl rfl rfl (Eg (Fw _ _ _ _ AT AT) a38) ?_
           refine AX rfl (CB rfl (AL (by kernel_rfl) ?_))
           refine Aq rfl (fun c39 => ?_) (fun c39 => ?_)
           ·have h := Ao c39 h
            refine AP ?_
            exact Au _ h (sm [] _ _ rfl rfl)
           ·have h := An c39 h
            refine As (Aa Ae rfl (qm rfl (qm rfl (qm rfl (qm rfl (Cv rfl (qm rfl (qm rfl (Cv rfl ?_)))))))))
            obtain ⟨v40, a40, b40, h⟩ := Ai h
            refine qI AI AE a40 (Ag b40) rfl (qJ Co AE (Ag b40) rfl (qm rfl (qm rfl ?_)))
            obtain ⟨v41, a41, b41, h⟩ := Ai h
            refine qI AI AE a41 (Ag b41) rfl (qJ Co AE (Ag b41) rfl ?_)
            obtain ⟨v42, a42, b42, h⟩ := Ai h
            refine qI AI AE a42 (Ag b42) rfl ?_
            refine A7 rfl rfl rfl rfl (Ag b42) rfl AE rfl (AY rfl) (A0 Ac v33.1 _ v40) ?_
            obtain ⟨v43, a43, b43, h⟩ := Ai h
            refine qI AI AE a43 (Ag b43) rfl ?_
            refine A7 rfl rfl rfl rfl (Ag b43) rfl AE rfl (AY rfl) (A0 Ac (v33.1.set ((v33.2).toNat) v40) _ v41) ?_
            refine AL (by kernel_rfl) (Aa Ae rfl (qm rfl (AO rfl (qa rfl (Af ?_)))))
            exact Au _ h (sm [] _ _ rfl rfl)
          ·have h := An c35 h
           refine AP ?_
           exact Au _ h (sm [] _ _ rfl rfl)
         ·exact Au _ h (hs.trans (sm [] _ _ rfl rfl))
        ·have h := An c32 h
         refine As ?_
         exact Au _ h (sm [] _ _ rfl rfl)
   ·refine Aa Ae rfl (qm rfl (AO rfl (qa rfl (Af ?_))))
    exact Au _ h (sm [] _ _ rfl rfl)
  ·have h := An c3 h
   refine AP ?_
   exact Au _ h (sm [] _ _ rfl rfl)
 ·refine Al hs (Ad (Aa Ae rfl (qa rfl (Af ?_))))
  obtain rfl := sj h
  refine Al (sm [] [(8, bD false)] [(90000, .vec 3 (v2.map Ac))] rfl rfl) (Ay ?_)
  exact ⟨⟨[_], ⟨.tmp _ _ rfl, tv⟩, rfl⟩, ⟨rfl, tv⟩, tv⟩
theorem EZ (N : Nat) (p0 : List Ab) (p1 : Int) (p2 : Int) (p3 : Int) (p4 : (Ab × Ab) → Option Int) (r : Int × (List Ab)) (h : Cr N p0 p1 p2 p3 p4 = some r) : By Tryz.prog 103 [oD (.own 90000), iD p1, iD p2, iD p3, oD (.clo (BT (Eu true Ac true Ac) Ce p4))] [(.vec 3 (p0.map Ac), .vec 3 (r.2.map Ac))] [] (iD r.1) := by
 unfold Cr at h
 refine A3 (n := 90) (rs := [.tmp 10]) Tryz.func103 rfl rfl rfl (AY rfl) (AY rfl) rfl rfl (AY rfl) rfl (AY rfl) fun w0 S0 GL => ?_
 refine Al (sm [] [(0, oD (.own 90000)), (1, iD p1), (2, iD p2), (3, iD p3), (4, oD (.clo (BT (Eu true Ac true Ac) Ce p4)))] [(90000, .vec 3 (p0.map Ac))] rfl rfl) (Ad (Aa Ae rfl (qa rfl (Af (Ad (Aa Ae rfl (qm rfl (qm rfl (qm rfl (qm rfl (qm rfl (qm rfl ?_))))))))))))
 obtain ⟨v1, a1, b1, h⟩ := Ai h
 refine qI AI AE a1 (Ag b1) rfl (qJ Co AE (Ag b1) rfl (qm rfl (qm rfl ?_)))
 obtain ⟨v2, a2, b2, h⟩ := Ai h
 refine qI AI AE a2 (Ag b2) rfl (qJ Co AE (Ag b2) rfl ?_)
 obtain ⟨v3, a3, b3, h⟩ := Ai h
 refine qI AI AE a3 (Ag b3) rfl ?_
 refine A7 rfl rfl rfl rfl (Ag b3) rfl AE rfl (AY rfl) (A0 Ac p0 _ v1) ?_
 obtain ⟨v4, a4, b4, h⟩ := Ai h
 refine qI AI AE a4 (Ag b4) rfl ?_
 refine A7 rfl rfl rfl rfl (Ag b4) rfl AE rfl (AY rfl) (A0 Ac (p0.set ((p1).toNat) v1) _ v2) ?_
 refine AL (by kernel_rfl) (Ad (Aa Ae rfl (qm rfl (AO rfl (qm rfl (Cv rfl (qa rfl (qa rfl (Af (Ad ?_))))))))))
 refine AB (L := Bs N p1 p4) h (fun v5 => mk [(0, oD (.own 90000)), (1, iD p1), (4, oD (.clo (BT (Eu true Ac true Ac) Ce p4))), (11, iD v5.2.1), (12, iD v5.2.2)] [(90000, .vec 3 (v5.1.map Ac))]) (fun v6 => mk [(11, iD v6.2)] [(90000, .vec 3 (v6.1.map Ac))]) (fun _ _ => rfl) (sm [] _ _ rfl rfl) (fun j5 n5 v5 h => ?_) (fun v6 s h hs => ?_)
 ·unfold Bs at h
  refine AJ (Ad ?_)
  refine AB (L := Bw N p1 p4 v5) h (fun v7 => mk [(0, oD (.own 90000)), (1, iD p1), (4, oD (.clo (BT (Eu true Ac true Ac) Ce p4))), (11, iD v7), (12, iD v5.2.2)] [(90000, .vec 3 (v5.1.map Ac))]) (fun v8 => mk [(0, oD (.own 90000)), (1, iD p1), (4, oD (.clo (BT (Eu true Ac true Ac) Ce p4))), (11, iD v8), (12, iD v5.2.2)] [(90000, .vec 3 (v5.1.map Ac))]) (fun _ _ => rfl) (sm [] _ _ rfl rfl) (fun j7 n7 v7 h => ?_) (fun v8 s h hs => ?_)
  ·unfold Bw at h
   refine Ad ?_
   refine AS h (fun v9 => mk [(0, oD (.own 90000)), (1, iD p1), (4, oD (.clo (BT (Eu true Ac true Ac) Ce p4))), (11, iD v7), (12, iD v5.2.2), (47, bD v9)] [(90000, .vec 3 (v5.1.map Ac))]) (fun j9 h => ?_) (fun v9 h => ?_)
   ·refine Aa Ae rfl (qm rfl (qm rfl (KT rfl (qm rfl ?_))))
    refine AH (t := 34) rfl (fun c10 => ?_) (fun c10 => ?_)
    ·have h := Ao c10 h
     refine qm rfl (qm rfl (qm rfl ?_))
     obtain ⟨v11, a11, b11, h⟩ := Ai h
     refine qI AI AE a11 (Ag b11) rfl (qJ Co AE (Ag b11) rfl (qm rfl (qm rfl ?_)))
     obtain ⟨v12, a12, b12, h⟩ := Ai h
     refine qI AI AE a12 (Ag b12) rfl (qJ Co AE (Ag b12) rfl ?_)
     obtain ⟨v13, a13, h⟩ := bind_some h
     refine Ei (ds0 := [_, _]) (ar := (Eu true Ac true Ac) ((v11, v12))) (.g rfl rfl) rfl rfl ⟨rfl, rfl, tv⟩ rfl rfl rfl (Eg (Fw _ _ _ _ AT AT) a13) ?_
     refine AX rfl (CB rfl (qp rfl (AL (by kernel_rfl) ?_)))
     exact Au _ h (sm [] _ _ rfl rfl)
    ·have h := An c10 h
     refine qn rfl (qn rfl (qn rfl (qn rfl (qn rfl (qn rfl (qn rfl (qn rfl (qn rfl (qn rfl (qn rfl (qn rfl (qp rfl (AL (by kernel_rfl) ?_)))))))))))))
     exact Au _ h (sm [] _ _ rfl rfl)
   ·refine Aq rfl (fun c14 => ?_) (fun c14 => ?_)
    ·have h := Ao c14 h
     refine As (AJ (Aa Ae rfl (qm rfl (AO rfl (qa rfl (Af ?_))))))
     exact Au _ h (sm [] _ _ rfl rfl)
    ·have h := An c14 h
     refine AP ?_
     exact Au _ h (sm [] _ _ rfl rfl)
  ·refine Al hs (Ad ?_)
   refine AB (L := Bp N p1 p4 v5 v8) h (fun v15 => mk [(0, oD (.own 90000)), (1, iD p1), (4, oD (.clo (BT (Eu true Ac true Ac) Ce p4))), (11, iD v8), (12, iD v15)] [(90000, .vec 3 (v5.1.map Ac))]) (fun v16 => mk [(0, oD (.own 90000)), (1, iD p1), (4, oD (.clo (BT (Eu true Ac true Ac) Ce p4))), (11, iD v8), (12, iD v16)] [(90000, .vec 3 (v5.1.map Ac))]) (fun _ _ => rfl) (sm [] _ _ rfl rfl) (fun j15 n15 v15 h => ?_) (fun v16 s h hs => ?_)
   ·unfold Bp at h
    refine Ad ?_
    refine AS h (fun v17 => mk [(0, oD (.own 90000)), (1, iD p1), (4, oD (.clo (BT (Eu true Ac true Ac) Ce p4))), (11, iD v8), (12, iD v15), (65, bD v17)] [(90000, .vec 3 (v5.1.map Ac))]) (fun j17 h => ?_) (fun v17 h => ?_)
    ·refine Aa Ae rfl (qm rfl (qm rfl (KT rfl (qm rfl ?_))))
     refine AH (t := 53) rfl (fun c18 => ?_) (fun c18 => ?_)
     ·have h := Ao c18 h
      refine qm rfl (qm rfl (qm rfl ?_))
      obtain ⟨v19, a19, b19, h⟩ := Ai h
      refine qI AI AE a19 (Ag b19) rfl (qJ Co AE (Ag b19) rfl (qm rfl (qm rfl ?_)))
      obtain ⟨v20, a20, b20, h⟩ := Ai h
      refine qI AI AE a20 (Ag b20) rfl (qJ Co AE (Ag b20) rfl ?_)
      obtain ⟨v21, a21, h⟩ := bind_some h
      refine Ei (ds0 := [_, _]) (ar := (Eu true Ac true Ac) ((v19, v20))) (.g rfl rfl) rfl rfl ⟨rfl, rfl, tv⟩ rfl rfl rfl (Eg (Fw _ _ _ _ AT AT) a21) ?_
      refine AX rfl (qp rfl (AL (by kernel_rfl) ?_))
      exact Au _ h (sm [] _ _ rfl rfl)
     ·have h := An c18 h
      refine qn rfl (qn rfl (qn rfl (qn rfl (qn rfl (qn rfl (qn rfl (qn rfl (qn rfl (qn rfl (qn rfl (qp rfl (AL (by kernel_rfl) ?_))))))))))))
      exact Au _ h (sm [] _ _ rfl rfl)
    ·refine Aq rfl (fun c22 => ?_) (fun c22 => ?_)
     ·have h := Ao c22 h
      refine As (AJ (Aa Ae rfl (qm rfl (Cv rfl (qa rfl (Af ?_))))))
      exact Au _ h (sm [] _ _ rfl rfl)
     ·have h := An c22 h
      refine AP ?_
      exact Au _ h (sm [] _ _ rfl rfl)
   ·refine Al hs (Ad (Ad (Aa Ae rfl (qm rfl (qm rfl (Ea rfl (Af ?_)))))))
    refine Aq rfl (fun c23 => ?_) (fun c23 => ?_)
    ·have h := Ao c23 h
     refine AP ?_
     exact Au _ h (sm [] _ _ rfl rfl)
    ·have h := An c23 h
     refine As (Ad (Aa Ae rfl (qm rfl (qm rfl (qm rfl (qm rfl (qm rfl (qm rfl ?_))))))))
     obtain ⟨v24, a24, b24, h⟩ := Ai h
     refine qI AI AE a24 (Ag b24) rfl (qJ Co AE (Ag b24) rfl (qm rfl (qm rfl ?_)))
     obtain ⟨v25, a25, b25, h⟩ := Ai h
     refine qI AI AE a25 (Ag b25) rfl (qJ Co AE (Ag b25) rfl ?_)
     obtain ⟨v26, a26, b26, h⟩ := Ai h
     refine qI AI AE a26 (Ag b26) rfl ?_
     refine A7 rfl rfl rfl rfl (Ag b26) rfl AE rfl (AY rfl) (A0 Ac v5.1 _ v24) ?_
     obtain ⟨v27, a27, b27, h⟩ := Ai h
     refine qI AI AE a27 (Ag b27) rfl ?_
     refine A7 rfl rfl rfl rfl (Ag b27) rfl AE rfl (AY rfl) (A0 Ac (v5.1.set ((v8).toNat) v24) _ v25) ?_
     refine AL (by kernel_rfl) (Ad (Aa Ae rfl (qm rfl (AO rfl (qa rfl (Af (Aa Ae rfl (qm rfl (Cv rfl (qa rfl (Af ?_)))))))))))
     exact Au _ h (sm [] _ _ rfl rfl)
 ·refine Al hs (Ad (Aa Ae rfl (qm rfl (qa rfl (Af ?_)))))
  obtain rfl := sj h
  refine Al (sm [] [(10, iD v6.2)] [(90000, .vec 3 (v6.1.map Ac))] rfl rfl) (Ay ?_)
  exact ⟨⟨[_], ⟨.tmp _ _ rfl, tv⟩, rfl⟩, ⟨rfl, tv⟩, tv⟩
theorem FI (N : Nat) (p0 : List Ab) (p1 : Int) (p2 : Int) (p3 : Int) (p4 : (Ab × Ab) → Option Int) (r : Int × Bool × (List Ab)) (h : CV N p0 p1 p2 p3 p4 = some r) : By Tryz.prog 104 [oD (.own 90000), iD p1, iD p2, iD p3, oD (.clo (BT (Eu true Ac true Ac) Ce p4))] [(.vec 3 (p0.map Ac), .vec 3 (r.2.2.map Ac))] [] (.tup [.one (iC r.1), .one (.pure (.val (.bool r.2.1)))]) := by
 unfold CV at h
 refine A3 (n := 178) (rs := [.tmp 10, .tmp 11]) Tryz.func104 rfl rfl rfl (AY rfl) (AY rfl) rfl rfl (AY rfl) rfl (AY rfl) fun w0 S0 GL => ?_
 refine Al (sm [] [(0, oD (.own 90000)), (1, iD p1), (2, iD p2), (3, iD p3), (4, oD (.clo (BT (Eu true Ac true Ac) Ce p4)))] [(90000, .vec 3 (p0.map Ac))] rfl rfl) (Ad (Aa Ae rfl (qa rfl (qa rfl (Af (Ad (Aa Ae rfl (qm rfl (qm rfl (qm rfl (qm rfl (qm rfl (qm rfl ?_)))))))))))))
 obtain ⟨v1, a1, b1, h⟩ := Ai h
 refine qI AI AE a1 (Ag b1) rfl (qJ Co AE (Ag b1) rfl (qm rfl (qm rfl ?_)))
 obtain ⟨v2, a2, b2, h⟩ := Ai h
 refine qI AI AE a2 (Ag b2) rfl (qJ Co AE (Ag b2) rfl ?_)
 obtain ⟨v3, a3, b3, h⟩ := Ai h
 refine qI AI AE a3 (Ag b3) rfl ?_
 refine A7 rfl rfl rfl rfl (Ag b3) rfl AE rfl (AY rfl) (A0 Ac p0 _ v1) ?_
 obtain ⟨v4, a4, b4, h⟩ := Ai h
 refine qI AI AE a4 (Ag b4) rfl ?_
 refine A7 rfl rfl rfl rfl (Ag b4) rfl AE rfl (AY rfl) (A0 Ac (p0.set ((p1).toNat) v1) _ v2) ?_
 refine AL (by kernel_rfl) (Ad (Aa Ae rfl (qm rfl (AO rfl (qm rfl (Cv rfl (qa rfl (qa rfl (Af (Ad ?_))))))))))
 refine AB (L := BR N p0 p1 p2 p3 p4 v1 v2) h (fun v5 => mk [(0, oD (.own 90000)), (1, iD p1), (4, oD (.clo (BT (Eu true Ac true Ac) Ce p4))), (12, iD v5), (13, iD ((wI .i64 (p2 - 1))))] [(90000, .vec 3 (((p0.set ((p1).toNat) v1).set ((p3).toNat) v2).map Ac))]) (fun v6 => mk [(0, oD (.own 90000)), (1, iD p1), (4, oD (.clo (BT (Eu true Ac true Ac) Ce p4))), (12, iD v6), (13, iD ((wI .i64 (p2 - 1))))] [(90000, .vec 3 (((p0.set ((p1).toNat) v1).set ((p3).toNat) v2).map Ac))]) (fun _ _ => rfl) (sm [] _ _ rfl rfl) (fun j5 n5 v5 h => ?_) (fun v6 s h hs => ?_)
 ·unfold BR at h
  refine Ad ?_
  refine AS h (fun v7 => mk [(0, oD (.own 90000)), (1, iD p1), (4, oD (.clo (BT (Eu true Ac true Ac) Ce p4))), (12, iD v5), (13, iD ((wI .i64 (p2 - 1)))), (47, bD v7)] [(90000, .vec 3 (((p0.set ((p1).toNat) v1).set ((p3).toNat) v2).map Ac))]) (fun j7 h => ?_) (fun v7 h => ?_)
  ·refine Aa Ae rfl (qm rfl (qm rfl (KT rfl (qm rfl ?_))))
   refine AH (t := 35) rfl (fun c8 => ?_) (fun c8 => ?_)
   ·have h := Ao c8 h
    refine qm rfl (qm rfl (qm rfl ?_))
    obtain ⟨v9, a9, b9, h⟩ := Ai h
    refine qI AI AE a9 (Ag b9) rfl (qJ Co AE (Ag b9) rfl (qm rfl (qm rfl ?_)))
    obtain ⟨v10, a10, b10, h⟩ := Ai h
    refine qI AI AE a10 (Ag b10) rfl (qJ Co AE (Ag b10) rfl ?_)
    obtain ⟨v11, a11, h⟩ := bind_some h
    refine Ei (ds0 := [_, _]) (ar := (Eu true Ac true Ac) ((v9, v10))) (.g rfl rfl) rfl rfl ⟨rfl, rfl, tv⟩ rfl rfl rfl (Eg (Fw _ _ _ _ AT AT) a11) ?_
    refine AX rfl (qp rfl (AL (by kernel_rfl) ?_))
    exact Au _ h (sm [] _ _ rfl rfl)
   ·have h := An c8 h
    refine qn rfl (qn rfl (qn rfl (qn rfl (qn rfl (qn rfl (qn rfl (qn rfl (qn rfl (qn rfl (qn rfl (qp rfl (AL (by kernel_rfl) ?_))))))))))))
    exact Au _ h (sm [] _ _ rfl rfl)
  ·refine Aq rfl (fun c12 => ?_) (fun c12 => ?_)
   ·have h := Ao c12 h
    refine As (AJ (Aa Ae rfl (qm rfl (AO rfl (qa rfl (Af ?_))))))
    exact Au _ h (sm [] _ _ rfl rfl)
   ·have h := An c12 h
    refine AP ?_
    exact Au _ h (sm [] _ _ rfl rfl)
 ·refine Al hs (Ad ?_)
  refine AB (L := BM N p0 p1 p3 p4 v1 v2 v6) h (fun v13 => mk [(0, oD (.own 90000)), (1, iD p1), (4, oD (.clo (BT (Eu true Ac true Ac) Ce p4))), (12, iD v6), (13, iD v13)] [(90000, .vec 3 (((p0.set ((p1).toNat) v1).set ((p3).toNat) v2).map Ac))]) (fun v14 => mk [(0, oD (.own 90000)), (1, iD p1), (4, oD (.clo (BT (Eu true Ac true Ac) Ce p4))), (12, iD v6), (13, iD v14)] [(90000, .vec 3 (((p0.set ((p1).toNat) v1).set ((p3).toNat) v2).map Ac))]) (fun _ _ => rfl) (sm [] _ _ rfl rfl) (fun j13 n13 v13 h => ?_) (fun v14 s h hs => ?_)
  ·unfold BM at h
   refine Ad ?_
   refine AS h (fun v15 => mk [(0, oD (.own 90000)), (1, iD p1), (4, oD (.clo (BT (Eu true Ac true Ac) Ce p4))), (12, iD v6), (13, iD v13), (66, bD v15)] [(90000, .vec 3 (((p0.set ((p1).toNat) v1).set ((p3).toNat) v2).map Ac))]) (fun j15 h => ?_) (fun v15 h => ?_)
   ·refine Aa Ae rfl (qm rfl (qm rfl (KT rfl (qm rfl ?_))))
    refine AH (t := 53) rfl (fun c16 => ?_) (fun c16 => ?_)
    ·have h := Ao c16 h
     refine qm rfl (qm rfl (qm rfl ?_))
     obtain ⟨v17, a17, b17, h⟩ := Ai h
     refine qI AI AE a17 (Ag b17) rfl (qJ Co AE (Ag b17) rfl (qm rfl (qm rfl ?_)))
     obtain ⟨v18, a18, b18, h⟩ := Ai h
     refine qI AI AE a18 (Ag b18) rfl (qJ Co AE (Ag b18) rfl ?_)
     obtain ⟨v19, a19, h⟩ := bind_some h
     refine Ei (ds0 := [_, _]) (ar := (Eu true Ac true Ac) ((v17, v18))) (.g rfl rfl) rfl rfl ⟨rfl, rfl, tv⟩ rfl rfl rfl (Eg (Fw _ _ _ _ AT AT) a19) ?_
     refine AX rfl (CB rfl (qp rfl (AL (by kernel_rfl) ?_)))
     exact Au _ h (sm [] _ _ rfl rfl)
    ·have h := An c16 h
     refine qn rfl (qn rfl (qn rfl (qn rfl (qn rfl (qn rfl (qn rfl (qn rfl (qn rfl (qn rfl (qn rfl (qn rfl (qp rfl (AL (by kernel_rfl) ?_)))))))))))))
     exact Au _ h (sm [] _ _ rfl rfl)
   ·refine Aq rfl (fun c20 => ?_) (fun c20 => ?_)
    ·have h := Ao c20 h
     refine As (AJ (Aa Ae rfl (qm rfl (Cv rfl (qa rfl (Af ?_))))))
     exact Au _ h (sm [] _ _ rfl rfl)
    ·have h := An c20 h
     refine AP ?_
     exact Au _ h (sm [] _ _ rfl rfl)
  ·refine Al hs (Ad (Ad (Aa Ae rfl (qm rfl (qm rfl (Ea rfl (Af ?_)))))))
   refine Aq rfl (fun c21 => ?_) (fun c21 => ?_)
   ·have h := Ao c21 h
    refine Ad (Aa Ae rfl (qm rfl (qm rfl (qm rfl (qm rfl (qm rfl (qm rfl ?_)))))))
    obtain ⟨v22, a22, b22, h⟩ := Ai h
    refine qI AI AE a22 (Ag b22) rfl (qJ Co AE (Ag b22) rfl (qm rfl (qm rfl ?_)))
    obtain ⟨v23, a23, b23, h⟩ := Ai h
    refine qI AI AE a23 (Ag b23) rfl (qJ Co AE (Ag b23) rfl ?_)
    obtain ⟨v24, a24, b24, h⟩ := Ai h
    refine qI AI AE a24 (Ag b24) rfl ?_
    refine A7 rfl rfl rfl rfl (Ag b24) rfl AE rfl (AY rfl) (A0 Ac ((p0.set ((p1).toNat) v1).set ((p3).toNat) v2) _ v22) ?_
    obtain ⟨v25, a25, b25, h⟩ := Ai h
    refine qI AI AE a25 (Ag b25) rfl ?_
    refine A7 rfl rfl rfl rfl (Ag b25) rfl AE rfl (AY rfl) (A0 Ac (((p0.set ((p1).toNat) v1).set ((p3).toNat) v2).set ((v14).toNat) v22) _ v23) ?_
    refine AL (by kernel_rfl) (Ad (Aa Ae rfl (qm rfl (qa rfl (qa rfl (Af ?_))))))
    obtain rfl := sj h
    refine Al (sm [] [(10, iD v14), (11, bD true)] [(90000, .vec 3 (((((p0.set ((p1).toNat) v1).set ((p3).toNat) v2).set ((v14).toNat) v22).set ((p1).toNat) v23).map Ac))] rfl rfl) (Ay ?_)
    exact ⟨⟨[_, _], ⟨.tmp _ _ rfl, ⟨.tmp _ _ rfl, tv⟩⟩, rfl⟩, ⟨rfl, tv⟩, tv⟩
   ·have h := An c21 h
    refine As (Ad (Aa Ae rfl (qm rfl (qm rfl (qm rfl (qm rfl (qm rfl (qm rfl ?_))))))))
    obtain ⟨v26, a26, b26, h⟩ := Ai h
    refine qI AI AE a26 (Ag b26) rfl (qJ Co AE (Ag b26) rfl (qm rfl (qm rfl ?_)))
    obtain ⟨v27, a27, b27, h⟩ := Ai h
    refine qI AI AE a27 (Ag b27) rfl (qJ Co AE (Ag b27) rfl ?_)
    obtain ⟨v28, a28, b28, h⟩ := Ai h
    refine qI AI AE a28 (Ag b28) rfl ?_
    refine A7 rfl rfl rfl rfl (Ag b28) rfl AE rfl (AY rfl) (A0 Ac ((p0.set ((p1).toNat) v1).set ((p3).toNat) v2) _ v26) ?_
    obtain ⟨v29, a29, b29, h⟩ := Ai h
    refine qI AI AE a29 (Ag b29) rfl ?_
    refine A7 rfl rfl rfl rfl (Ag b29) rfl AE rfl (AY rfl) (A0 Ac (((p0.set ((p1).toNat) v1).set ((p3).toNat) v2).set ((v6).toNat) v26) _ v27) ?_
    refine AL (by kernel_rfl) (Ad (Aa Ae rfl (qm rfl (AO rfl (qa rfl (Af (Ad (Aa Ae rfl (qm rfl (Cv rfl (qa rfl (Af (Ad ?_)))))))))))))
    refine AB (L := BJ N p1 p4) h (fun v30 => mk [(0, oD (.own 90000)), (1, iD p1), (4, oD (.clo (BT (Eu true Ac true Ac) Ce p4))), (12, iD v30.2.1), (13, iD v30.2.2)] [(90000, .vec 3 (v30.1.map Ac))]) (fun v31 => mk [(0, oD (.own 90000)), (1, iD p1), (13, iD v31.2)] [(90000, .vec 3 (v31.1.map Ac))]) (fun _ _ => rfl) (sm [] _ _ rfl rfl) (fun j30 n30 v30 h => ?_) (fun v31 s h hs => ?_)
    ·unfold BJ at h
     refine AJ (Ad ?_)
     refine AB (L := BL N p1 p4 v30) h (fun v32 => mk [(0, oD (.own 90000)), (1, iD p1), (4, oD (.clo (BT (Eu true Ac true Ac) Ce p4))), (12, iD v32), (13, iD v30.2.2)] [(90000, .vec 3 (v30.1.map Ac))]) (fun v33 => mk [(0, oD (.own 90000)), (1, iD p1), (4, oD (.clo (BT (Eu true Ac true Ac) Ce p4))), (12, iD v33), (13, iD v30.2.2)] [(90000, .vec 3 (v30.1.map Ac))]) (fun _ _ => rfl) (sm [] _ _ rfl rfl) (fun j32 n32 v32 h => ?_) (fun v33 s h hs => ?_)
     ·unfold BL at h
      refine Ad ?_
      refine AS h (fun v34 => mk [(0, oD (.own 90000)), (1, iD p1), (4, oD (.clo (BT (Eu true Ac true Ac) Ce p4))), (12, iD v32), (13, iD v30.2.2), (120, bD v34)] [(90000, .vec 3 (v30.1.map Ac))]) (fun j34 h => ?_) (fun v34 h => ?_)
      ·refine Aa Ae rfl (qm rfl (qm rfl (KT rfl (qm rfl ?_))))
       refine AH (t := 108) rfl (fun c35 => ?_) (fun c35 => ?_)
       ·have h := Ao c35 h
        refine qm rfl (qm rfl (qm rfl ?_))
        obtain ⟨v36, a36, b36, h⟩ := Ai h
        refine qI AI AE a36 (Ag b36) rfl (qJ Co AE (Ag b36) rfl (qm rfl (qm rfl ?_)))
        obtain ⟨v37, a37, b37, h⟩ := Ai h
        refine qI AI AE a37 (Ag b37) rfl (qJ Co AE (Ag b37) rfl ?_)
        obtain ⟨v38, a38, h⟩ := bind_some h
        refine Ei (ds0 := [_, _]) (ar := (Eu true Ac true Ac) ((v36, v37))) (.g rfl rfl) rfl rfl ⟨rfl, rfl, tv⟩ rfl rfl rfl (Eg (Fw _ _ _ _ AT AT) a38) ?_
        refine AX rfl (qp rfl (AL (by kernel_rfl) ?_))
        exact Au _ h (sm [] _ _ rfl rfl)
       ·have h := An c35 h
        refine qn rfl (qn rfl (qn rfl (qn rfl (qn rfl (qn rfl (qn rfl (qn rfl (qn rfl (qn rfl (qn rfl (qp rfl (AL (by kernel_rfl) ?_))))))))))))
        exact Au _ h (sm [] _ _ rfl rfl)
      ·refine Aq rfl (fun c39 => ?_) (fun c39 => ?_)
       ·have h := Ao c39 h
        refine As (AJ (Aa Ae rfl (qm rfl (AO rfl (qa rfl (Af ?_))))))
        exact Au _ h (sm [] _ _ rfl rfl)
       ·have h := An c39 h
        refine AP ?_
        exact Au _ h (sm [] _ _ rfl rfl)
     ·refine Al hs (Ad ?_)
      refine AB (L := BK N p1 p4 v30 v33) h (fun v40 => mk [(0, oD (.own 90000)), (1, iD p1), (4, oD (.clo (BT (Eu true Ac true Ac) Ce p4))), (12, iD v33), (13, iD v40)] [(90000, .vec 3 (v30.1.map Ac))]) (fun v41 => mk [(0, oD (.own 90000)), (1, iD p1), (4, oD (.clo (BT (Eu true Ac true Ac) Ce p4))), (12, iD v33), (13, iD v41)] [(90000, .vec 3 (v30.1.map Ac))]) (fun _ _ => rfl) (sm [] _ _ rfl rfl) (fun j40 n40 v40 h => ?_) (fun v41 s h hs => ?_)
      ·unfold BK at h
       refine Ad ?_
       refine AS h (fun v42 => mk [(0, oD (.own 90000)), (1, iD p1), (4, oD (.clo (BT (Eu true Ac true Ac) Ce p4))), (12, iD v33), (13, iD v40), (139, bD v42)] [(90000, .vec 3 (v30.1.map Ac))]) (fun j42 h => ?_) (fun v42 h => ?_)
       ·refine Aa Ae rfl (qm rfl (qm rfl (KT rfl (qm rfl ?_))))
        refine AH (t := 126) rfl (fun c43 => ?_) (fun c43 => ?_)
        ·have h := Ao c43 h
         refine qm rfl (qm rfl (qm rfl ?_))
         obtain ⟨v44, a44, b44, h⟩ := Ai h
         refine qI AI AE a44 (Ag b44) rfl (qJ Co AE (Ag b44) rfl (qm rfl (qm rfl ?_)))
         obtain ⟨v45, a45, b45, h⟩ := Ai h
         refine qI AI AE a45 (Ag b45) rfl (qJ Co AE (Ag b45) rfl ?_)
         obtain ⟨v46, a46, h⟩ := bind_some h
         refine Ei (ds0 := [_, _]) (ar := (Eu true Ac true Ac) ((v44, v45))) (.g rfl rfl) rfl rfl ⟨rfl, rfl, tv⟩ rfl rfl rfl (Eg (Fw _ _ _ _ AT AT) a46) ?_
         refine AX rfl (CB rfl (qp rfl (AL (by kernel_rfl) ?_)))
         exact Au _ h (sm [] _ _ rfl rfl)
        ·have h := An c43 h
         refine qn rfl (qn rfl (qn rfl (qn rfl (qn rfl (qn rfl (qn rfl (qn rfl (qn rfl (qn rfl (qn rfl (qn rfl (qp rfl (AL (by kernel_rfl) ?_)))))))))))))
         exact Au _ h (sm [] _ _ rfl rfl)
       ·refine Aq rfl (fun c47 => ?_) (fun c47 => ?_)
        ·have h := Ao c47 h
         refine As (AJ (Aa Ae rfl (qm rfl (Cv rfl (qa rfl (Af ?_))))))
         exact Au _ h (sm [] _ _ rfl rfl)
        ·have h := An c47 h
         refine AP ?_
         exact Au _ h (sm [] _ _ rfl rfl)
      ·refine Al hs (Ad (Ad (Aa Ae rfl (qm rfl (qm rfl (Ea rfl (Af ?_)))))))
       refine Aq rfl (fun c48 => ?_) (fun c48 => ?_)
       ·have h := Ao c48 h
        refine AP ?_
        exact Au _ h (sm [] _ _ rfl rfl)
       ·have h := An c48 h
        refine As (Ad (Aa Ae rfl (qm rfl (qm rfl (qm rfl (qm rfl (qm rfl (qm rfl ?_))))))))
        obtain ⟨v49, a49, b49, h⟩ := Ai h
        refine qI AI AE a49 (Ag b49) rfl (qJ Co AE (Ag b49) rfl (qm rfl (qm rfl ?_)))
        obtain ⟨v50, a50, b50, h⟩ := Ai h
        refine qI AI AE a50 (Ag b50) rfl (qJ Co AE (Ag b50) rfl ?_)
        obtain ⟨v51, a51, b51, h⟩ := Ai h
        refine qI AI AE a51 (Ag b51) rfl ?_
        refine A7 rfl rfl rfl rfl (Ag b51) rfl AE rfl (AY rfl) (A0 Ac v30.1 _ v49) ?_
        obtain ⟨v52, a52, b52, h⟩ := Ai h
        refine qI AI AE a52 (Ag b52) rfl ?_
        refine A7 rfl rfl rfl rfl (Ag b52) rfl AE rfl (AY rfl) (A0 Ac (v30.1.set ((v33).toNat) v49) _ v50) ?_
        refine AL (by kernel_rfl) (Ad (Aa Ae rfl (qm rfl (AO rfl (qa rfl (Af (Aa Ae rfl (qm rfl (Cv rfl (qa rfl (Af ?_)))))))))))
        exact Au _ h (sm [] _ _ rfl rfl)
    ·refine Al hs (Ad (Aa Ae rfl (qm rfl (qm rfl (qm rfl (qm rfl (qm rfl (qm rfl ?_))))))))
     obtain ⟨v53, a53, b53, h⟩ := Ai h
     refine qI AI AE a53 (Ag b53) rfl (qJ Co AE (Ag b53) rfl (qm rfl (qm rfl ?_)))
     obtain ⟨v54, a54, b54, h⟩ := Ai h
     refine qI AI AE a54 (Ag b54) rfl (qJ Co AE (Ag b54) rfl ?_)
     obtain ⟨v55, a55, b55, h⟩ := Ai h
     refine qI AI AE a55 (Ag b55) rfl ?_
     refine A7 rfl rfl rfl rfl (Ag b55) rfl AE rfl (AY rfl) (A0 Ac v31.1 _ v53) ?_
     obtain ⟨v56, a56, b56, h⟩ := Ai h
     refine qI AI AE a56 (Ag b56) rfl ?_
     refine A7 rfl rfl rfl rfl (Ag b56) rfl AE rfl (AY rfl) (A0 Ac (v31.1.set ((v31.2).toNat) v53) _ v54) ?_
     refine AL (by kernel_rfl) (Ad (Aa Ae rfl (qm rfl (qa rfl (qa rfl (Af ?_))))))
     obtain rfl := sj h
     refine Al (sm [] [(10, iD v31.2), (11, bD false)] [(90000, .vec 3 (((v31.1.set ((v31.2).toNat) v53).set ((p1).toNat) v54).map Ac))] rfl rfl) (Ay ?_)
     exact ⟨⟨[_, _], ⟨.tmp _ _ rfl, ⟨.tmp _ _ rfl, tv⟩⟩, rfl⟩, ⟨rfl, tv⟩, tv⟩
theorem FA (N : Nat) (rc : (List Ab) → Int → Int → Int → ((Ab × Ab) → Option Int) → Option ((List Ab))) (hrc : ∀ (p0 : List Ab) (p1 : Int) (p2 : Int) (p3 : Int) (p4 : (Ab × Ab) → Option Int) (r : (List Ab)), rc p0 p1 p2 p3 p4 = some r → By Tryz.prog 70 [oD (.own 90000), iD p1, iD p2, iD p3, oD (.clo (BT (Eu true Ac true Ac) Ce p4))] [(.vec 3 (p0.map Ac), .vec 3 (r.map Ac))] [] (.tup [])) (p0 : List Ab) (p1 : Int) (p2 : Int) (p3 : Int) (p4 : (Ab × Ab) → Option Int) (r : (List Ab)) (h : CW N rc p0 p1 p2 p3 p4 = some r) : By Tryz.prog 70 [oD (.own 90000), iD p1, iD p2, iD p3, oD (.clo (BT (Eu true Ac true Ac) Ce p4))] [(.vec 3 (p0.map Ac), .vec 3 (r.map Ac))] [] (.tup []) := by
 unfold CW at h
 refine A3 (n := 148) (rs := []) Tryz.func70 rfl rfl rfl (AY rfl) (AY rfl) rfl rfl (AY rfl) rfl (AY rfl) fun w0 S0 GL => Lz ?_
 refine Al (sm [] [(0, oD (.own 90000)), (1, iD p1), (2, iD p2), (3, iD p3), (4, oD (.clo (BT (Eu true Ac true Ac) Ce p4)))] [(90000, .vec 3 (p0.map Ac))] rfl rfl) (Ad (Aa Ae rfl (qa rfl (Af (Ad (Aa Ae rfl (qa rfl (Af ?_))))))))
 refine AB (L := A8 N p4 rc) h (fun v1 => mk [(0, oD (.own 90000)), (1, iD v1.2.1), (2, iD v1.2.2.1), (3, iD v1.2.2.2.1), (4, oD (.clo (BT (Eu true Ac true Ac) Ce p4))), (10, bD v1.2.2.2.2.1), (11, bD v1.2.2.2.2.2)] [(90000, .vec 3 (v1.1.map Ac))]) (fun v2 => mk [] []) (fun _ _ => rfl) (sm [] _ _ rfl rfl) (fun j1 n1 v1 h => ?_) (fun v2 s h hs => ?_)
 ·unfold A8 at h
  refine AJ (Ad (Aa Ae rfl (qm rfl (qm rfl (Cv rfl (qa rfl (Af (Ad (Ad (Aa Ae rfl (qm rfl (KT rfl (Af ?_)))))))))))))
  refine Aq rfl (fun c3 => ?_) (fun c3 => ?_)
  ·have h := Ao c3 h
   refine Ad (Aa Ae rfl (qm rfl (qm rfl (qm rfl (qm rfl ?_)))))
   obtain ⟨v4, a4, h⟩ := bind_some h
   refine CK (ds0 := [_, _, _, _]) [90000] [] [true] (Fa N v1.1 v1.2.1 v1.2.2.1 p4 v4 a4) (.p rfl) Vq rfl ⟨rfl, rfl, rfl, rfl, tv⟩ rfl rfl (by decide) ⟨rfl, tv⟩ rfl (A2 rfl) tv ⟨(fun h => by cases h), tv⟩ rfl rfl rfl ?_
   refine Af ?_
   obtain rfl := sj h
   refine Ay ⟨_, (sm [] [] [(90000, .vec 3 (v4.map Ac))] rfl rfl), ?_⟩
   exact ⟨⟨[], tv, rfl⟩, ⟨rfl, tv⟩, tv⟩
  ·have h := An c3 h
   refine As (Ad (Ad (Aa Ae rfl (qm rfl (CR rfl (Af ?_))))))
   refine Aq rfl (fun c5 => ?_) (fun c5 => ?_)
   ·have h := Ao c5 h
    refine Ad (Aa Ae rfl (qm rfl (qm rfl (qm rfl (qm rfl ?_)))))
    obtain ⟨v6, a6, h⟩ := bind_some h
    refine CK (ds0 := [_, _, _, _]) [90000] [] [true] (FO N v1.1 v1.2.1 v1.2.2.1 p4 v6 a6) (.p rfl) VX rfl ⟨rfl, rfl, rfl, rfl, tv⟩ rfl rfl (by decide) ⟨rfl, tv⟩ rfl (A2 rfl) tv ⟨(fun h => by cases h), tv⟩ rfl rfl rfl ?_
    refine Af ?_
    obtain rfl := sj h
    refine Ay ⟨_, (sm [] [] [(90000, .vec 3 (v6.map Ac))] rfl rfl), ?_⟩
    exact ⟨⟨[], tv, rfl⟩, ⟨rfl, tv⟩, tv⟩
   ·have h := An c5 h
    refine As ?_
    refine AS h (fun v7 => mk [(0, oD (.own 90000)), (1, iD v1.2.1), (2, iD v1.2.2.1), (3, iD v7.2), (4, oD (.clo (BT (Eu true Ac true Ac) Ce p4))), (10, bD v1.2.2.2.2.1), (11, bD v1.2.2.2.2.2), (12, iD ((wI .i64 (v1.2.2.1 - v1.2.1))))] [(90000, .vec 3 (v7.1.map Ac))]) (fun j7 h => ?_) (fun v7 h => ?_)
    ·refine Ad (Aa Ae rfl (qm rfl (CB rfl (Af ?_))))
     refine Aq rfl (fun c8 => ?_) (fun c8 => ?_)
     ·have h := Ao c8 h
      refine Ad (Aa Ae rfl (qm rfl (qm rfl (qm rfl (qm rfl ?_)))))
      obtain ⟨v9, a9, h⟩ := bind_some h
      refine CK (ds0 := [_, _, _, _]) [90000] [] [true] (E5 N v1.1 v1.2.1 v1.2.2.1 p4 v9 a9) (.p rfl) V1 rfl ⟨rfl, rfl, rfl, rfl, tv⟩ rfl rfl (by decide) ⟨rfl, tv⟩ rfl (A2 rfl) tv ⟨(fun h => by cases h), tv⟩ rfl rfl rfl ?_
      refine Af (Aa Ae rfl (qm rfl (Cv rfl (qa rfl (Af ?_)))))
      exact Au _ h (sm [] _ _ rfl rfl)
     ·have h := An c8 h
      refine As ?_
      exact Au _ h (sm [] _ _ rfl rfl)
    ·refine Ad (Aa Ae rfl (qm rfl (qm rfl (qm rfl (qm rfl ?_)))))
     obtain ⟨v10, a10, h⟩ := bind_some h
     refine Ew [] [90000] (Fj N v7.1 v1.2.1 v1.2.2.1 p4 v10 a10) UI De rfl (qm rfl (qx rfl (qx rfl (qa rfl (qa rfl (Af ?_))))))
     refine AS h (fun v11 => mk [(0, oD (.own 90000)), (1, iD v1.2.1), (2, iD v1.2.2.1), (3, iD v7.2), (4, oD (.clo (BT (Eu true Ac true Ac) Ce p4))), (10, bD v1.2.2.2.2.1), (11, bD v1.2.2.2.2.2), (12, iD ((wI .i64 (v1.2.2.1 - v1.2.1)))), (13, iD v11.2.1), (14, iD v11.2.2)] [(90000, .vec 3 (v11.1.map Ac))]) (fun j11 h => ?_) (fun v11 h => ?_)
     ·refine Ad (Aa Ae rfl (qm rfl (CR rfl (Af ?_))))
      refine Aq rfl (fun c12 => ?_) (fun c12 => ?_)
      ·have h := Ao c12 h
       refine Ad (Aa Ae rfl (qm rfl (qm rfl (qm rfl (qm rfl ?_)))))
       obtain ⟨v13, a13, h⟩ := bind_some h
       refine CK (ds0 := [_, _, _, _]) [90000] [] [true] (Fg N v7.1 v1.2.1 v1.2.2.1 p4 v13 a13) (.p rfl) U2 rfl ⟨rfl, rfl, rfl, rfl, tv⟩ rfl rfl (by decide) ⟨rfl, tv⟩ rfl (A2 rfl) tv ⟨(fun h => by cases h), tv⟩ rfl rfl rfl ?_
       refine Af (Ad (Aa Ae rfl (qm rfl (Cv rfl (qm rfl (qm rfl (Cv rfl (Cv rfl (qa rfl (Af (Aa Ae rfl (qa rfl (Af ?_)))))))))))))
       exact Au _ h (sm [] _ _ rfl rfl)
      ·have h := An c12 h
       refine As ?_
       exact Au _ h (sm [] _ _ rfl rfl)
     ·refine AS h (fun v14 => mk [(0, oD (.own 90000)), (1, iD v1.2.1), (2, iD v1.2.2.1), (3, iD v7.2), (4, oD (.clo (BT (Eu true Ac true Ac) Ce p4))), (10, bD v1.2.2.2.2.1), (11, bD v1.2.2.2.2.2), (12, iD ((wI .i64 (v1.2.2.1 - v1.2.1)))), (13, iD v11.2.1)] [(90000, .vec 3 (v14.map Ac))]) (fun j14 h => ?_) (fun v14 h => ?_)
      ·refine AS h (fun v15 => mk [(0, oD (.own 90000)), (1, iD v1.2.1), (2, iD v1.2.2.1), (3, iD v7.2), (4, oD (.clo (BT (Eu true Ac true Ac) Ce p4))), (10, bD v1.2.2.2.2.1), (11, bD v1.2.2.2.2.2), (12, iD ((wI .i64 (v1.2.2.1 - v1.2.1)))), (13, iD v11.2.1), (75, bD v15)] [(90000, .vec 3 (v11.1.map Ac))]) (fun j15 h => ?_) (fun v15 h => ?_)
       ·refine Aa Ae rfl (qm rfl (qm rfl ?_))
        refine AH (t := 69) rfl (fun c16 => ?_) (fun c16 => ?_)
        ·have h := Ao c16 h
         refine qm rfl (qp rfl (qm rfl ?_))
         refine AH (t := 72) rfl (fun c17 => ?_) (fun c17 => ?_)
         ·have h := Ao c17 h
          refine qm rfl (CR rfl (qp rfl (Af ?_)))
          exact Au _ h (sm [] _ _ rfl rfl)
         ·have h := An c17 h
          refine qn rfl (qn rfl (qp rfl (Af ?_)))
          exact Au _ h (sm [] _ _ rfl rfl)
        ·have h := An c16 h
         refine qn rfl (qp rfl (qm rfl (qn rfl (qn rfl (qp rfl (Af ?_))))))
         exact Au _ h (sm [] _ _ rfl rfl)
       ·refine Aq rfl (fun c18 => ?_) (fun c18 => ?_)
        ·have h := Ao c18 h
         refine Ad (Aa Ae rfl (qm rfl (qm rfl (qm rfl (qm rfl ?_)))))
         obtain ⟨v19, a19, h⟩ := bind_some h
         refine CK (ds0 := [_, _, _, _]) [90000] [] [true] (Ez N v11.1 v1.2.1 v1.2.2.1 p4 v19 a19) (.p rfl) Uo rfl ⟨rfl, rfl, rfl, rfl, tv⟩ rfl rfl (by decide) ⟨rfl, tv⟩ rfl (A2 rfl) tv ⟨(fun h => by cases h), tv⟩ rfl rfl rfl ?_
         refine Af ?_
         refine Aq rfl (fun c20 => ?_) (fun c20 => ?_)
         ·have h := Ao c20 h
          obtain rfl := sj h
          refine Ay ⟨_, (sm [] [] [(90000, .vec 3 (v19.2.map Ac))] rfl rfl), ?_⟩
          exact ⟨⟨[], tv, rfl⟩, ⟨rfl, tv⟩, tv⟩
         ·have h := An c20 h
          refine As ?_
          exact Au _ h (sm [] _ _ rfl rfl)
        ·have h := An c18 h
         refine As ?_
         exact Au _ h (sm [] _ _ rfl rfl)
      ·refine Ad ?_
       refine AS h (fun v21 => mk [(0, oD (.own 90000)), (1, iD v1.2.1), (2, iD v1.2.2.1), (3, iD v7.2), (4, oD (.clo (BT (Eu true Ac true Ac) Ce p4))), (10, bD v1.2.2.2.2.1), (11, bD v1.2.2.2.2.2), (12, iD ((wI .i64 (v1.2.2.1 - v1.2.1)))), (13, iD v11.2.1), (97, bD v21)] [(90000, .vec 3 (v14.map Ac))]) (fun j21 h => ?_) (fun v21 h => ?_)
       ·refine Aa Ae rfl (qm rfl (Ea rfl (qm rfl ?_)))
        refine AH (t := 83) rfl (fun c22 => ?_) (fun c22 => ?_)
        ·have h := Ao c22 h
         refine qm rfl (qm rfl (qm rfl (Cv rfl ?_)))
         obtain ⟨v23, a23, b23, h⟩ := Ai h
         refine qI AI AE a23 (Ag b23) rfl (qJ Co AE (Ag b23) rfl (qm rfl (qm rfl ?_)))
         obtain ⟨v24, a24, b24, h⟩ := Ai h
         refine qI AI AE a24 (Ag b24) rfl (qJ Co AE (Ag b24) rfl ?_)
         obtain ⟨v25, a25, h⟩ := bind_some h
         refine Ei (ds0 := [_, _]) (ar := (Eu true Ac true Ac) ((v23, v24))) (.g rfl rfl) rfl rfl ⟨rfl, rfl, tv⟩ rfl rfl rfl (Eg (Fw _ _ _ _ AT AT) a25) ?_
         refine AX rfl (CB rfl (qp rfl (AL (by kernel_rfl) ?_)))
         exact Au _ h (sm [] _ _ rfl rfl)
        ·have h := An c22 h
         refine qn rfl (qn rfl (qn rfl (qn rfl (qn rfl (qn rfl (qn rfl (qn rfl (qn rfl (qn rfl (qn rfl (qn rfl (qn rfl (qp rfl (AL (by kernel_rfl) ?_))))))))))))))
         exact Au _ h (sm [] _ _ rfl rfl)
       ·refine Aq rfl (fun c26 => ?_) (fun c26 => ?_)
        ·have h := Ao c26 h
         refine Ad (Aa Ae rfl (qm rfl (qm rfl (qm rfl (qm rfl (qm rfl ?_))))))
         obtain ⟨v27, a27, h⟩ := bind_some h
         refine CK (ds0 := [_, _, _, _, _]) [90000] [] [true] (EZ N v14 v1.2.1 v1.2.2.1 v11.2.1 p4 v27 a27) (.p rfl) Ut rfl ⟨rfl, rfl, rfl, rfl, rfl, tv⟩ rfl rfl (by decide) ⟨rfl, tv⟩ rfl (A2 rfl) tv ⟨(fun h => by cases h), tv⟩ rfl rfl rfl ?_
         refine qa rfl (Af (Ad (Aa Ae rfl (qm rfl (qa rfl (Af (AP ?_)))))))
         exact Au _ h (sm [] _ _ rfl rfl)
        ·have h := An c26 h
         refine As (Ad (Aa Ae rfl (qm rfl (qm rfl (qm rfl (qm rfl (qm rfl ?_)))))))
         obtain ⟨v28, a28, h⟩ := bind_some h
         refine CK (ds0 := [_, _, _, _, _]) [90000] [] [true] (FI N v14 v1.2.1 v1.2.2.1 v11.2.1 p4 v28 a28) (.p rfl) UU rfl ⟨rfl, rfl, rfl, rfl, rfl, tv⟩ rfl rfl (by decide) ⟨rfl, tv⟩ rfl (A2 rfl) tv ⟨(fun h => by cases h), tv⟩ rfl rfl rfl ?_
         refine qm rfl (qx rfl (qx rfl (qa rfl (qa rfl (Af (Ad (Aa Ae rfl (qm rfl (qa rfl (Af (Ad (Aa Ae rfl (qm rfl (qm rfl (Cv rfl (qm rfl (qm rfl (Cv rfl (qa rfl (qa rfl (Af (Ad (Aa Ae rfl (qm rfl (MH rfl (by decide) (qa rfl (Af (Ad (Aa Ae rfl (qm rfl (qm rfl (AX rfl (Af ?_)))))))))))))))))))))))))))))))))
         refine Aq rfl (fun c29 => ?_) (fun c29 => ?_)
         ·have h := Ao c29 h
          refine Ad (Aa Ae rfl (qm rfl (qm rfl (D4 rfl (qa rfl (Af (Ad (Aa Ae rfl (qm rfl (qm rfl (qm rfl (qm rfl (qm rfl ?_)))))))))))))
          obtain ⟨v30, a30, h⟩ := bind_some h
          refine CK (ds0 := [_, _, _, _, _]) [90000] [] [true] (hrc v28.2.2 v1.2.1 v28.1 v7.2 p4 v30 a30) (.p rfl) TT rfl ⟨rfl, rfl, rfl, rfl, rfl, tv⟩ rfl rfl (by decide) ⟨rfl, tv⟩ rfl (A2 rfl) tv ⟨(fun h => by cases h), tv⟩ rfl rfl rfl ?_
          refine Af (Aa Ae rfl (qm rfl (AO rfl (qa rfl (Af ?_)))))
          exact Au _ h (sm [] _ _ rfl rfl)
         ·have h := An c29 h
          refine Ad (Aa Ae rfl (qm rfl (qm rfl (D4 rfl (qa rfl (Af (Ad (Aa Ae rfl (qm rfl (qm rfl (AO rfl (qm rfl (qm rfl (qm rfl ?_))))))))))))))
          obtain ⟨v31, a31, h⟩ := bind_some h
          refine CK (ds0 := [_, _, _, _, _]) [90000] [] [true] (hrc v28.2.2 ((wI .i64 (v28.1 + 1))) v1.2.2.1 v7.2 p4 v31 a31) (.p rfl) TT rfl ⟨rfl, rfl, rfl, rfl, rfl, tv⟩ rfl rfl (by decide) ⟨rfl, tv⟩ rfl (A2 rfl) tv ⟨(fun h => by cases h), tv⟩ rfl rfl rfl ?_
          refine Af (Aa Ae rfl (qm rfl (qa rfl (Af ?_))))
          exact Au _ h (sm [] _ _ rfl rfl)
 ·cases h
theorem DZ (N : Nat) : ∀ (k : Nat) (p0 : List Ab) (p1 : Int) (p2 : Int) (p3 : Int) (p4 : (Ab × Ab) → Option Int) (r : (List Ab)), B5 N k p0 p1 p2 p3 p4 = some r → By Tryz.prog 70 [oD (.own 90000), iD p1, iD p2, iD p3, oD (.clo (BT (Eu true Ac true Ac) Ce p4))] [(.vec 3 (p0.map Ac), .vec 3 (r.map Ac))] [] (.tup [])
 | 0, _, _, _, _, _, _, h => by cases h
 | k + 1, p0, p1, p2, p3, p4, r, h => FA N (B5 N k) (DZ N k) p0 p1 p2 p3 p4 r h
theorem F2 (N : Nat) (p0 : List Ab) (p1 : Int) (p2 : Int) (p3 : Int) (p4 : (Ab × Ab) → Option Int) (r : (List Ab)) (h : D0 N p0 p1 p2 p3 p4 = some r) : By Tryz.prog 70 [oD (.own 90000), iD p1, iD p2, iD p3, oD (.clo (BT (Eu true Ac true Ac) Ce p4))] [(.vec 3 (p0.map Ac), .vec 3 (r.map Ac))] [] (.tup []) := DZ N N p0 p1 p2 p3 p4 r h
theorem E1 (N : Nat) (p0 : List Ab) (p1 : (Ab × Ab) → Option Int) (r : (List Ab)) (h : Cs N p0 p1 = some r) : By Tryz.prog 38 [oD (.own 90000), oD (.clo (BT (Eu true Ac true Ac) Ce p1))] [(.vec 3 (p0.map Ac), .vec 3 (r.map Ac))] [] (.tup []) := by
 unfold Cs at h
 refine A3 (n := 14) (rs := []) Tryz.func38 rfl rfl rfl (AY rfl) (AY rfl) rfl rfl (AY rfl) rfl (AY rfl) fun w0 S0 GL => Lz ?_
 refine Al (sm [] [(0, oD (.own 90000)), (1, oD (.clo (BT (Eu true Ac true Ac) Ce p1)))] [(90000, .vec 3 (p0.map Ac))] rfl rfl) (Ad (Aa Ae rfl (qm rfl (D8 AI rfl (qa rfl (Af (Aa Ae rfl (qm rfl (qm rfl (qm rfl (H2 Tz Nw rfl ?_)))))))))))
 obtain ⟨v1, a1, h⟩ := bind_some h
 refine AG [] (Jd N ((wI .u64 ((p0.length : Int)))) v1 a1) UK rfl (qm rfl ?_)
 obtain ⟨v2, a2, h⟩ := bind_some h
 refine CK (ds0 := [_, _, _, _, _]) [90000] [] [true] (F2 N p0 0 ((p0.length : Int)) v1 p1 v2 a2) (.p rfl) TT rfl ⟨rfl, rfl, rfl, rfl, rfl, tv⟩ rfl rfl (by decide) ⟨rfl, tv⟩ rfl (A2 rfl) tv ⟨(fun h => by cases h), tv⟩ rfl rfl rfl ?_
 refine Af ?_
 obtain rfl := sj h
 refine ⟨_, (sm [] [] [(90000, .vec 3 (v2.map Ac))] rfl rfl), ?_⟩
 exact ⟨⟨[], tv, rfl⟩, ⟨rfl, tv⟩, tv⟩
theorem Jf (N : Nat) (p0 : Int) (r : Bool) (h : FL N p0 = some r) : Az Tryz.prog 107 [iD p0] [] (bD r) := by
 unfold FL at h
 refine Ar (n := 6) (rs := [.tmp 2]) Tryz.func107 rfl rfl rfl (AY rfl) (AY rfl) rfl fun w0 S0 => ?_
 refine Ad (Aa Ae rfl (qa rfl (Af (Ad (Aa Ae rfl (qm rfl (qm rfl (Cl rfl (qa rfl (Af ?_))))))))))
 obtain rfl := sj h
 refine Al (sm [] [(2, bD ((p0 != p0)))] [] rfl rfl) (Ay ?_)
 exact ⟨⟨[_], ⟨.tmp _ _ rfl, tv⟩, rfl⟩, tv⟩
theorem GO (N : Nat) (p0 : Int) (p1 : Int) (r : Int) (h : Er N p0 p1 = some r) : Az Tryz.prog 73 [iD p0, iD p1] [] (iD r) := by
 unfold Er at h
 refine Ar (n := 20) (rs := [.tmp 4]) Tryz.func73 rfl rfl rfl (AY rfl) (AY rfl) rfl fun w0 S0 => ?_
 refine Ad (Aa Ae rfl (qa rfl (Af (Ad (Aa Ae rfl (qm rfl ?_))))))
 obtain ⟨v1, a1, h⟩ := bind_some h
 refine AG [] (Jf N p0 v1 a1) S5 rfl (qa rfl (Af (Ad (Aa Ae rfl (qm rfl ?_)))))
 obtain ⟨v2, a2, h⟩ := bind_some h
 refine AG [] (Jf N p1 v2 a2) S5 rfl (qa rfl (Af (Ad (Ad (Aa Ae rfl (qm rfl (Af ?_)))))))
 refine Aq rfl (fun c3 => ?_) (fun c3 => ?_)
 ·have h := Ao c3 h
  refine Ad (Ad (Aa Ae rfl (qm rfl (Af ?_))))
  refine Aq rfl (fun c4 => ?_) (fun c4 => ?_)
  ·have h := Ao c4 h
   refine Ad (Aa Ae rfl (qa rfl (Af ?_)))
   obtain rfl := sj h
   refine Al (sm [] [(4, iD 0)] [] rfl rfl) (Ay ?_)
   exact ⟨⟨[_], ⟨.tmp _ _ rfl, tv⟩, rfl⟩, tv⟩
  ·have h := An c4 h
   refine As (Ad (Aa Ae rfl (qa rfl (Af ?_))))
   obtain rfl := sj h
   refine Al (sm [] [(4, iD ((-1)))] [] rfl rfl) (Ay ?_)
   exact ⟨⟨[_], ⟨.tmp _ _ rfl, tv⟩, rfl⟩, tv⟩
 ·have h := An c3 h
  refine As (Ad (Ad (Aa Ae rfl (qm rfl (Af ?_)))))
  refine Aq rfl (fun c5 => ?_) (fun c5 => ?_)
  ·have h := Ao c5 h
   refine Ad (Aa Ae rfl (qa rfl (Af ?_)))
   obtain rfl := sj h
   refine Al (sm [] [(4, iD 1)] [] rfl rfl) (Ay ?_)
   exact ⟨⟨[_], ⟨.tmp _ _ rfl, tv⟩, rfl⟩, tv⟩
  ·have h := An c5 h
   refine As (Ad (Ad (Aa Ae rfl (qm rfl (qm rfl (AX rfl (Af ?_)))))))
   refine Aq rfl (fun c6 => ?_) (fun c6 => ?_)
   ·have h := Ao c6 h
    refine Ad (Aa Ae rfl (qa rfl (Af ?_)))
    obtain rfl := sj h
    refine Al (sm [] [(4, iD ((-1)))] [] rfl rfl) (Ay ?_)
    exact ⟨⟨[_], ⟨.tmp _ _ rfl, tv⟩, rfl⟩, tv⟩
   ·have h := An c6 h
    refine As (Ad (Ad (Aa Ae rfl (qm rfl (qm rfl (Ea rfl (Af ?_)))))))
    refine Aq rfl (fun c7 => ?_) (fun c7 => ?_)
    ·have h := Ao c7 h
     refine Ad (Aa Ae rfl (qa rfl (Af ?_)))
     obtain rfl := sj h
     refine Al (sm [] [(4, iD 1)] [] rfl rfl) (Ay ?_)
     exact ⟨⟨[_], ⟨.tmp _ _ rfl, tv⟩, rfl⟩, tv⟩
    ·have h := An c7 h
     refine As (Ad (Aa Ae rfl (qa rfl (Af ?_))))
     obtain rfl := sj h
     refine Al (sm [] [(4, iD 0)] [] rfl rfl) (Ay ?_)
     exact ⟨⟨[_], ⟨.tmp _ _ rfl, tv⟩, rfl⟩, tv⟩
theorem NN (N : Nat) (p0 : List Int) (r : Int) (h : Iu N p0 = some r) : Az Tryz.prog 72 [pD (.sl (p0.map Aj))] [] (iD r) := by
 unfold Iu at h
 refine Ar (n := 18) (rs := [.tmp 2]) Tryz.func72 rfl rfl rfl (AY rfl) (AY rfl) rfl fun w0 S0 => ?_
 refine Ad (Aa Ae rfl (qa rfl (Af (Ad (Aa Ae rfl (qa rfl (Af (Ad (Ad (Aa Ae rfl (qm rfl (AM AQ rfl (qm rfl (Af ?_))))))))))))))
 refine AB (L := zFS N p0) h (fun v1 => mk [(3, iD 0), (6, pD (.sl (p0.map Aj))), (7, iD ((p0.length : Int))), (8, iD v1)] []) (fun v2 => mk [(3, iD 0)] []) (fun _ _ => rfl) (sm [] _ _ rfl rfl) (fun j1 n1 v1 h => ?_) (fun v2 s h hs => ?_)
 ·unfold zFS at h
  refine Ad (Aa Ae rfl (AX rfl (Af (Ad ?_))))
  refine Aq rfl (fun c3 => ?_) (fun c3 => ?_)
  ·have h := Ao c3 h
   refine As (Ad (AJ (Ad (Aa Ae rfl ?_))))
   obtain ⟨v4, a4, b4, h⟩ := Ai h
   refine qi AQ Fh a4 (Ag b4) rfl (qk DA rfl (qa rfl (Af (Ad (Aa Ae rfl (qm rfl (qm rfl (Cl rfl (Af ?_)))))))))
   refine Aq rfl (fun c5 => ?_) (fun c5 => ?_)
   ·have h := Ao c5 h
    refine Ad (Aa Ae rfl (qm rfl (qa rfl (Af ?_))))
    obtain rfl := sj h
    refine Al (sm [] [(2, iD v4)] [] rfl rfl) (Ay ?_)
    exact ⟨⟨[_], ⟨.tmp _ _ rfl, tv⟩, rfl⟩, tv⟩
   ·have h := An c5 h
    refine As (Aa Ae rfl (AO rfl (qm rfl (Af ?_))))
    exact Au _ h (sm [] _ _ rfl rfl)
  ·have h := An c3 h
   refine AP ?_
   exact Au _ h (sm [] _ _ rfl rfl)
 ·refine Al hs (Ad (Aa Ae rfl (qm rfl (qa rfl (Af ?_)))))
  obtain rfl := sj h
  refine Al (sm [] [(2, iD 0)] [] rfl rfl) (Ay ?_)
  exact ⟨⟨[_], ⟨.tmp _ _ rfl, tv⟩, rfl⟩, tv⟩
theorem KH (N : Nat) (p0 : Ab) (p1 : Ab) (r : Int) (h : E8 N p0 p1 = some r) : Az Tryz.prog 39 [.e (.agg [iC p0.ft, iC p0.fr, iC p0.fq]), .e (.agg [iC p1.ft, iC p1.fr, iC p1.fq])] [] (iD r) := by
 unfold E8 at h
 refine Ar (n := 22) (rs := [.tmp 4]) Tryz.func39 rfl rfl rfl (AY rfl) (AY rfl) rfl fun w0 S0 => ?_
 refine Ad (Aa Ae rfl (qb rfl (qb rfl (qa rfl (Af (Ad (Aa Ae rfl (qf Od rfl (ql DA rfl (qf Od rfl (ql DA rfl ?_)))))))))))
 obtain ⟨v1, a1, h⟩ := bind_some h
 refine AG [] (GO N p0.ft p1.ft v1 a1) TN rfl (qf NW rfl (ql DA rfl (qf NW rfl (ql DA rfl ?_))))
 obtain ⟨v2, a2, h⟩ := bind_some h
 refine AG [] (GO N p0.fr p1.fr v2 a2) TN rfl (qf Of rfl (ql DA rfl (qf Of rfl (ql DA rfl ?_))))
 obtain ⟨v3, a3, h⟩ := bind_some h
 refine AG [] (GO N p0.fq p1.fq v3 a3) TN rfl (Fx AQ Fh Np rfl ?_)
 obtain ⟨v4, a4, h⟩ := bind_some h
 refine Ew [] [20] (NN N (([v1, v2, v3] : List Int)) v4 a4) Vn De rfl (qa rfl (AL (by kernel_rfl) ?_))
 obtain rfl := sj h
 refine Al (sm [] [(4, iD v4)] [] rfl rfl) (Ay ?_)
 exact ⟨⟨[_], ⟨.tmp _ _ rfl, tv⟩, rfl⟩, tv⟩
theorem E7 (N : Nat) (p0 : List Ab) (r : Nat × (List Ab)) (h : Cy N p0 = some r) : By Tryz.prog 40 [oD (.own 90000)] [(.vec 3 (p0.map Ac), .vec 3 (r.2.map Ac))] [] (oD (.view 90000 3 0 r.1)) := by
 unfold Cy at h
 refine A3 (n := 61) (rs := [.tmp 2]) Tryz.func40 rfl rfl rfl (AY rfl) (AY rfl) rfl rfl (AY rfl) rfl (AY rfl) fun w0 S0 GL => ?_
 refine Al (sm [] [(0, oD (.own 90000))] [(90000, .vec 3 (p0.map Ac))] rfl rfl) (Ad (Aa Ae rfl (qa rfl (Af (Ad (Ad (Aa Ae rfl (qm rfl (D8 AI rfl (AX rfl (Af ?_)))))))))))
 refine Aq rfl (fun c1 => ?_) (fun c1 => ?_)
 ·have h := Ao c1 h
  refine Ad (Aa Ae rfl (qm rfl (qa rfl (Af ?_))))
  obtain rfl := sj h
  refine Al ((LQ Ac p0 2 90000 3 rfl rfl).trans (sm [] [(2, oD (.view 90000 3 0 p0.length))] [(90000, .vec 3 (p0.map Ac))] rfl rfl)) (Ay ?_)
  exact ⟨⟨[_], ⟨.tmp _ _ rfl, tv⟩, rfl⟩, ⟨rfl, tv⟩, tv⟩
 ·have h := An c1 h
  refine As (Ad (Ad (Aa Ae rfl (qa rfl (Af ?_)))))
  refine AB (L := BD N p0) h (fun v2 => mk [(0, oD (.own 90000)), (3, iD v2)] [(90000, .vec 3 (p0.map Ac))]) (fun v3 => mk [(0, oD (.own 90000))] [(90000, .vec 3 (p0.map Ac))]) (fun _ _ => rfl) (sm [] _ _ rfl rfl) (fun j2 n2 v2 h => ?_) (fun v3 s h hs => ?_)
  ·unfold BD at h
   refine Ad (Ad (Aa Ae rfl (qm rfl (qm rfl (D8 AI rfl (AX rfl (Af ?_)))))))
   refine Aq rfl (fun c4 => ?_) (fun c4 => ?_)
   ·have h := Ao c4 h
    refine As (Ad (AJ (Ad (Aa Ae rfl (qm rfl (qm rfl ?_))))))
    obtain ⟨v5, a5, b5, h⟩ := Ai h
    refine qI AI AE a5 (Ag b5) rfl (qJ Co AE (Ag b5) rfl (qm rfl (qm rfl (Cv rfl ?_))))
    obtain ⟨v6, a6, b6, h⟩ := Ai h
    refine qI AI AE a6 (Ag b6) rfl (qJ Co AE (Ag b6) rfl ?_)
    refine Pl [.int .i64 v5.ft, .int .i64 v5.fr, .int .i64 v5.fq] [.int .i64 v6.ft, .int .i64 v6.fr, .int .i64 v6.fq] (.p rfl) rfl rfl Mm rfl ?_
    refine AL (by kernel_rfl) ?_
    refine Aq rfl (fun c7 => ?_) (fun c7 => ?_)
    ·have h := Ao c7 h
     refine Ad (Aa Ae rfl (qm rfl (qm rfl ?_)))
     obtain ⟨c8, h⟩ := AN h
     have w9 : ((v2).toNat) + ((p0.length - (v2).toNat)) ≤ p0.length := by have := c8.2.1; have := c8.2.2; omega
     refine F9 Ac p0 (.p rfl) rfl (Gb Ac _ _ p0) rfl AI AE (.some _ _ _ _ c8.1) (.none _) ⟨rfl, tv⟩ tv c8.2.1 (by rw [Nat.zero_add]; exact c8.2.2) (Nat.zero_add _) rfl ?_
     refine qa rfl (Af (Ad (Ad (Aa Ae rfl (qa rfl (Af ?_))))))
     refine AB (L := Bu N p0 v2) h (fun v10 => mk [(0, oD (.own 90000)), (3, iD v10.2.1), (4, oD (.view 90000 3 ((v2).toNat) ((p0.length - (v2).toNat)))), (5, iD v10.2.2)] [(90000, .vec 3 (v10.1.map Ac))]) (fun v11 => mk [(0, oD (.own 90000)), (3, iD v11.2)] [(90000, .vec 3 (v11.1.map Ac))]) (fun _ _ => rfl) (sm [] _ _ rfl rfl) (fun j10 n10 v10 h => ?_) (fun v11 s h hs => ?_)
     ·unfold Bu at h
      refine Ad (Ad (Aa Ae rfl (qm rfl (qm rfl ?_))))
      refine Qg (.p rfl) rfl AI ?_
      refine AX rfl (Af ?_)
      refine Aq rfl (fun c12 => ?_) (fun c12 => ?_)
      ·have h := Ao c12 h
       refine As ?_
       refine AS h (fun v13 => mk [(0, oD (.own 90000)), (3, iD v13.2), (4, oD (.view 90000 3 ((v2).toNat) ((p0.length - (v2).toNat)))), (5, iD v10.2.2)] [(90000, .vec 3 (v13.1.map Ac))]) (fun j13 h => ?_) (fun v13 h => ?_)
       ·refine AJ (Ad (Aa Ae rfl (qm rfl (qm rfl ?_))))
        obtain ⟨c15, h⟩ := AN h
        obtain ⟨v14, a14, b14, h⟩ := Ai h
        refine Lg Ac v10.1 (.p rfl) rfl c15 rfl rfl AI AE a14 (IL b14).1 rfl ?_
        refine KF (.p rfl) rfl Co AE rfl (Ag (IL b14).2) ?_
        refine qm rfl (qm rfl (Cv rfl ?_))
        obtain ⟨v16, a16, b16, h⟩ := Ai h
        refine Lg Ac v10.1 (.p rfl) rfl c15 rfl rfl AI AE a16 (IL b16).1 rfl ?_
        refine KF (.p rfl) rfl Co AE rfl (Ag (IL b16).2) ?_
        refine Ta [.int .i64 v14.ft, .int .i64 v14.fr, .int .i64 v14.fq] [.int .i64 v16.ft, .int .i64 v16.fr, .int .i64 v16.fq] (.p rfl) rfl rfl Mm rfl ?_
        refine AL (by kernel_rfl) ?_
        refine Aq rfl (fun c17 => ?_) (fun c17 => ?_)
        ·have h := Ao c17 h
         refine Ad (Aa Ae rfl (qm rfl (qm rfl (qm rfl (qm rfl ?_)))))
         obtain ⟨v18, a18, b18, h⟩ := Ai h
         refine Lg Ac v10.1 (.p rfl) rfl c15 rfl rfl AI AE a18 (IL b18).1 rfl ?_
         refine KF (.p rfl) rfl Co AE rfl (Ag (IL b18).2) ?_
         obtain ⟨v19, a19, b19, h⟩ := Ai h
         refine qI AI AE a19 (Ag b19) rfl ?_
         refine A7 rfl rfl rfl rfl (Ag b19) rfl AE rfl (AY rfl) (A0 Ac v10.1 _ v18) ?_
         refine Af (Aa Ae rfl (qm rfl (AO rfl (qa rfl (Af ?_)))))
         exact Au _ h (sm [] _ _ rfl rfl)
        ·have h := An c17 h
         refine As ?_
         exact Au _ h (sm [] _ _ rfl rfl)
       ·refine Aa Ae rfl (qm rfl (AO rfl (qa rfl (Af ?_))))
        exact Au _ h (sm [] _ _ rfl rfl)
      ·have h := An c12 h
       refine AP ?_
       exact Au _ h (sm [] _ _ rfl rfl)
     ·refine Al hs (Ad (Aa Ae rfl (qm rfl (qm rfl ?_))))
      obtain ⟨c20, h⟩ := AN h
      have w21 : ((v11.2).toNat) + ((v11.1.length - (v11.2).toNat)) ≤ v11.1.length := by have := c20.2.1; have := c20.2.2; omega
      refine F9 Ac v11.1 (.p rfl) rfl (Gb Ac _ _ v11.1) rfl AI AE (.some _ _ _ _ c20.1) (.none _) ⟨rfl, tv⟩ tv c20.2.1 (by rw [Nat.zero_add]; exact c20.2.2) (Nat.zero_add _) rfl ?_
      have w22 : (Gf v11.1 ((v11.2).toNat) (List.replicate ((v11.1.length - (v11.2).toNat)) ((Ab.mk 0 0 0)))).length = v11.1.length := Hh (by rw [List.length_replicate]; exact w21)
      refine Me Ac v11.1 ((Ab.mk 0 0 0)) rfl rfl (HI Ac _ _ ((v11.2).toNat) ((v11.1.length - (v11.2).toNat)) v11.1 w21) rfl AI G8 rfl rfl rfl rfl ?_
      refine Af (Ad (Aa Ae rfl (qm rfl (qm rfl ?_))))
      obtain ⟨c23, h⟩ := AN h
      have w24 : 0 + ((v11.2).toNat) ≤ (Gf v11.1 ((v11.2).toNat) (List.replicate ((v11.1.length - (v11.2).toNat)) ((Ab.mk 0 0 0)))).length := by have := c23.2.1; have := c23.2.2; omega
      refine F9 Ac (Gf v11.1 ((v11.2).toNat) (List.replicate ((v11.1.length - (v11.2).toNat)) ((Ab.mk 0 0 0)))) (.p rfl) rfl (Gb Ac _ _ (Gf v11.1 ((v11.2).toNat) (List.replicate ((v11.1.length - (v11.2).toNat)) ((Ab.mk 0 0 0))))) rfl AI AE (.none _) (.some _ _ _ _ c23.1) tv ⟨rfl, tv⟩ c23.2.1 (by rw [Nat.zero_add]; exact c23.2.2) (Nat.zero_add _) rfl ?_
      refine qa rfl (Af ?_)
      obtain rfl := sj h
      refine Al (sm [] [(2, oD (.view 90000 3 0 ((v11.2).toNat)))] [(90000, .vec 3 ((Gf v11.1 ((v11.2).toNat) (List.replicate ((v11.1.length - (v11.2).toNat)) ((Ab.mk 0 0 0)))).map Ac))] rfl rfl) (Ay ?_)
      exact ⟨⟨[_], ⟨.tmp _ _ rfl, tv⟩, rfl⟩, ⟨rfl, tv⟩, tv⟩
    ·have h := An c7 h
     refine As (Aa Ae rfl (qm rfl (AO rfl (qa rfl (Af ?_)))))
     exact Au _ h (sm [] _ _ rfl rfl)
   ·have h := An c4 h
    refine AP ?_
    exact Au _ h (sm [] _ _ rfl rfl)
  ·refine Al hs (Ad (Aa Ae rfl (qm rfl (qa rfl (Af ?_)))))
   obtain rfl := sj h
   refine Al ((LQ Ac p0 2 90000 3 rfl rfl).trans (sm [] [(2, oD (.view 90000 3 0 p0.length))] [(90000, .vec 3 (p0.map Ac))] rfl rfl)) (Ay ?_)
   exact ⟨⟨[_], ⟨.tmp _ _ rfl, tv⟩, rfl⟩, ⟨rfl, tv⟩, tv⟩
theorem Fd (N : Nat) (p0 : List Ab) (p1 : Int) (p2 : Int) (r : Nat × (List Ab)) (h : CE N p0 p1 p2 = some r) : By Tryz.prog 25 [oD (.own 90000), iD p1, iD p2] [(.vec 3 (p0.map Ac), .vec 3 (r.2.map Ac))] [] (oD (.view 90000 3 0 r.1)) := by
 unfold CE at h
 refine A3 (n := 33) (rs := [.tmp 6]) Tryz.func25 rfl rfl rfl (AY rfl) (AY rfl) rfl rfl (AY rfl) rfl (AY rfl) fun w0 S0 GL => ?_
 refine Al (sm [] [(0, oD (.own 90000)), (1, iD p1), (2, iD p2)] [(90000, .vec 3 (p0.map Ac))] rfl rfl) (Ad (Aa Ae rfl (qa rfl (Af (Ad (Aa Ae rfl (qm rfl (qm rfl (qm rfl (qm rfl (D8 AI rfl ?_)))))))))))
 obtain ⟨c1, h⟩ := AN h
 refine RE (.p rfl) rfl rfl AI AE rfl rfl rfl c1.1 c1.2.1 c1.2.2.1 c1.2.2.2.1 c1.2.2.2.2.1 (by rw [List.length_map]; exact c1.2.2.2.2.2) ?_
 refine Af (Ad (Ad (Aa Ae rfl (qm rfl (qm rfl (CR rfl (Af ?_)))))))
 refine Aq rfl (fun c2 => ?_) (fun c2 => ?_)
 ·have h := Ao c2 h
  refine Ad (Aa Ae rfl (qm rfl (qa rfl (Af ?_))))
  obtain rfl := sj h
  refine Al ((LQ Ac p0 6 90000 3 rfl rfl).trans (sm [] [(6, oD (.view 90000 3 0 p0.length))] [(90000, .vec 3 (p0.map Ac))] rfl rfl)) (Ay ?_)
  exact ⟨⟨[_], ⟨.tmp _ _ rfl, tv⟩, rfl⟩, ⟨rfl, tv⟩, tv⟩
 ·have h := An c2 h
  refine As (Ad (Aa Ae rfl (qm rfl (D8 AI rfl (qa rfl (Af (Ad (Aa Ae rfl (qm rfl (qm rfl ?_))))))))))
  obtain ⟨c3, h⟩ := AN h
  have w4 : 0 + ((p1).toNat) ≤ p0.length := by have := c3.2.1; have := c3.2.2; omega
  refine F9 Ac p0 (.p rfl) rfl (Gb Ac _ _ p0) rfl AI AE (.none _) (.some _ _ _ _ c3.1) tv ⟨rfl, tv⟩ c3.2.1 (by rw [Nat.zero_add]; exact c3.2.2) (Nat.zero_add _) rfl ?_
  refine qm rfl (qm rfl ?_)
  obtain ⟨c5, h⟩ := AN h
  have w6 : ((p2).toNat) + ((p0.length - (p2).toNat)) ≤ p0.length := by have := c5.2.1; have := c5.2.2; omega
  refine F9 Ac p0 (.p rfl) rfl (Gb Ac _ _ p0) rfl AI AE (.some _ _ _ _ c5.1) (.none _) ⟨rfl, tv⟩ tv c5.2.1 (by rw [Nat.zero_add]; exact c5.2.2) (Nat.zero_add _) rfl ?_
  obtain ⟨c7, h⟩ := AN h
  have w9f : 0 + ((p1).toNat) + (((p0.drop ((p2).toNat)).take ((p0.length - (p2).toNat)))).length ≤ p0.length := by have := c7; omega
  have w8 : (Gf p0 (0 + ((p1).toNat)) (((p0.drop ((p2).toNat)).take ((p0.length - (p2).toNat))))).length = p0.length := Hh w9f
  have w9 : 0 + ((p1).toNat + (((p0.drop ((p2).toNat)).take ((p0.length - (p2).toNat)))).length) ≤ (Gf p0 (0 + ((p1).toNat)) (((p0.drop ((p2).toNat)).take ((p0.length - (p2).toNat))))).length := by rw [w8]; have := c7; omega
  refine Pw Ac p0 (((p0.drop ((p2).toNat)).take ((p0.length - (p2).toNat)))) (.p rfl) rfl (HI Ac _ _ 0 ((p1).toNat) p0 w4) rfl rfl (Nh Ac _ _ ((p2).toNat) ((p0.length - (p2).toNat)) p0 w6) ⟨rfl, tv⟩ AI AI AE w9f rfl ?_
  refine qa rfl (AL (by kernel_rfl) (Ad (Aa Ae rfl (qm rfl (qm rfl ?_)))))
  refine Qg (.p rfl) rfl AI ?_
  refine qm rfl ?_
  obtain ⟨c10, h⟩ := AN h
  have w11 : (((((((p1).toNat + (((p0.drop ((p2).toNat)).take ((p0.length - (p2).toNat)))).length)) : Nat) : Int)).toNat) + ((((p0.length : Int)).toNat - ((((((p1).toNat + (((p0.drop ((p2).toNat)).take ((p0.length - (p2).toNat)))).length)) : Nat) : Int)).toNat)) ≤ (Gf p0 (0 + ((p1).toNat)) (((p0.drop ((p2).toNat)).take ((p0.length - (p2).toNat))))).length := by have := c10.2.2.1; have := c10.2.2.2; omega
  refine F9 Ac (Gf p0 (0 + ((p1).toNat)) (((p0.drop ((p2).toNat)).take ((p0.length - (p2).toNat))))) (.p rfl) rfl (HI Ac _ _ 0 (((p1).toNat + (((p0.drop ((p2).toNat)).take ((p0.length - (p2).toNat)))).length)) (Gf p0 (0 + ((p1).toNat)) (((p0.drop ((p2).toNat)).take ((p0.length - (p2).toNat))))) w9) rfl AI AE (.some _ _ _ _ c10.1) (.some _ _ _ _ c10.2.1) ⟨rfl, tv⟩ ⟨rfl, tv⟩ c10.2.2.1 (by rw [Nat.zero_add]; exact c10.2.2.2) (Nat.zero_add _) rfl ?_
  have w12 : (Gf (Gf p0 (0 + ((p1).toNat)) (((p0.drop ((p2).toNat)).take ((p0.length - (p2).toNat))))) (((((((p1).toNat + (((p0.drop ((p2).toNat)).take ((p0.length - (p2).toNat)))).length)) : Nat) : Int)).toNat) (List.replicate ((((p0.length : Int)).toNat - ((((((p1).toNat + (((p0.drop ((p2).toNat)).take ((p0.length - (p2).toNat)))).length)) : Nat) : Int)).toNat)) ((Ab.mk 0 0 0)))).length = (Gf p0 (0 + ((p1).toNat)) (((p0.drop ((p2).toNat)).take ((p0.length - (p2).toNat))))).length := Hh (by rw [List.length_replicate]; exact w11)
  refine Me Ac (Gf p0 (0 + ((p1).toNat)) (((p0.drop ((p2).toNat)).take ((p0.length - (p2).toNat))))) ((Ab.mk 0 0 0)) rfl rfl (HI Ac _ _ (((((((p1).toNat + (((p0.drop ((p2).toNat)).take ((p0.length - (p2).toNat)))).length)) : Nat) : Int)).toNat) ((((p0.length : Int)).toNat - ((((((p1).toNat + (((p0.drop ((p2).toNat)).take ((p0.length - (p2).toNat)))).length)) : Nat) : Int)).toNat)) (Gf p0 (0 + ((p1).toNat)) (((p0.drop ((p2).toNat)).take ((p0.length - (p2).toNat))))) w11) rfl AI G8 rfl rfl rfl rfl ?_
  refine Af (Ad (Aa Ae rfl (qm rfl (qa rfl (Af ?_)))))
  obtain rfl := sj h
  refine Al (sm [] [(6, oD (.view 90000 3 0 (((p1).toNat + (((p0.drop ((p2).toNat)).take ((p0.length - (p2).toNat)))).length))))] [(90000, .vec 3 ((Gf (Gf p0 (0 + ((p1).toNat)) (((p0.drop ((p2).toNat)).take ((p0.length - (p2).toNat))))) (((((((p1).toNat + (((p0.drop ((p2).toNat)).take ((p0.length - (p2).toNat)))).length)) : Nat) : Int)).toNat) (List.replicate ((((p0.length : Int)).toNat - ((((((p1).toNat + (((p0.drop ((p2).toNat)).take ((p0.length - (p2).toNat)))).length)) : Nat) : Int)).toNat)) ((Ab.mk 0 0 0)))).map Ac))] rfl rfl) (Ay ?_)
  exact ⟨⟨[_], ⟨.tmp _ _ rfl, tv⟩, rfl⟩, ⟨rfl, tv⟩, tv⟩
theorem KX (N : Nat) (p0 : Ah) (p1 : List Ab) (r : Bool × Int) (h : Gv N p0 p1 = some r) : Az Tryz.prog 14 [.e (.agg [sC (p0.fb.map Aj), sC (p0.fc.map Aj), sC (p0.fd.map Aj), sC (p0.fa.map Ak)]), pD (.sl (p1.map Ac))] [] (.tup [.one (.pure (.val (.bool r.1))), .one (iC r.2)]) := by
 unfold Gv at h
 refine Ar (n := 69) (rs := [.tmp 4, .tmp 5]) Tryz.func14 rfl rfl rfl (AY rfl) (AY rfl) rfl fun w0 S0 => ?_
 refine Ad (Aa Ae rfl (qb rfl (qa rfl (qa rfl (Af (Ad (Ad (Aa Ae rfl (qL C9 Ck rfl (qm rfl ?_))))))))))
 obtain ⟨v1, a1, h⟩ := bind_some h
 refine AG [] (Ji N p0 p1 v1 a1) T5 rfl (qa rfl (Af (Ad (Aa Ae rfl (qm rfl (Cl rfl (Af ?_)))))))
 refine Aq rfl (fun c2 => ?_) (fun c2 => ?_)
 ·have h := Ao c2 h
  refine Ad (Aa Ae rfl (qm rfl (qa rfl (qa rfl (Af ?_)))))
  obtain rfl := sj h
  refine Al (sm [] [(4, bD false), (5, iD v1)] [] rfl rfl) (Ay ?_)
  exact ⟨⟨[_, _], ⟨.tmp _ _ rfl, ⟨.tmp _ _ rfl, tv⟩⟩, rfl⟩, tv⟩
 ·have h := An c2 h
  refine As (Ad (Aa Ae rfl (qm rfl ?_)))
  obtain ⟨v3, a3, h⟩ := bind_some h
  refine AG [2001] (CN N p1 v3 a3) TS rfl (qa rfl (Af (Ad (Aa Ae rfl (qm rfl ?_)))))
  obtain ⟨v4, a4, h⟩ := bind_some h
  refine CK (ds0 := [_, _]) [2001] [] [true] (By.weak (ds' := [_, oD (.fnc 39)]) (E1 N v3 ((fun (x : Ab × Ab) => E8 N x.1 x.2)) v4 a4) ⟨(fun _ _ _ hh => hh), (fun _ _ _ hh => QT VC (fun ar t ht => by obtain ⟨x, r, rfl, hq, rfl⟩ := IE ht; exact KH N x.1 x.2 r hq) hh), tv⟩) (.p rfl) VJ rfl ⟨rfl, rfl, tv⟩ rfl rfl (by decide) ⟨rfl, tv⟩ rfl (A2 rfl) tv ⟨(fun h => by cases h), tv⟩ rfl rfl rfl ?_
  refine Af (Ad (Aa Ae rfl (qm rfl ?_)))
  obtain ⟨v5, a5, h⟩ := bind_some h
  obtain ⟨c6, h⟩ := AN h
  have w7 : 0 + v5.1 ≤ v5.2.length := by rw [Nat.zero_add]; exact c6
  refine CK (ds0 := [_]) [2001] [] [true] (E7 N v4 v5 a5) (.p rfl) VU rfl ⟨rfl, tv⟩ rfl rfl (by decide) ⟨rfl, tv⟩ rfl (A2 rfl) tv ⟨(fun h => by cases h), tv⟩ rfl rfl rfl ?_
  refine E2 (QR Ac v5.2 24 2001 2002 3 v5.1 rfl rfl rfl rfl rfl c6) (qa rfl (Af (Ad ?_)))
  refine AS h (fun v8 => mk [(2, oD (.ptr 2 0)), (7, oD (.own 2003)), (33, bD v8)] [(2, .box [sC (p0.fb.map Aj), sC (p0.fc.map Aj), sC (p0.fd.map Aj), sC (p0.fa.map Ak)]), (2003, .vec 3 ((v5.2.take v5.1).map Ac))]) (fun j8 h => ?_) (fun v8 h => ?_)
  ·refine Aa Ae rfl (qL C9 Ck rfl ?_)
   obtain ⟨v9, a9, h⟩ := bind_some h
   refine AG [2004] (G4 N p0 v9 a9) Tf rfl (D8 AI rfl (Ea rfl (qm rfl ?_)))
   refine AH (t := 29) rfl (fun c10 => ?_) (fun c10 => ?_)
   ·have h := Ao c10 h
    refine qn rfl (qn rfl (qn rfl (qp rfl (Af ?_))))
    exact Au _ h (sm [(2003, 2002)] _ _ rfl rfl)
   ·have h := An c10 h
    refine qm rfl (D8 AI rfl (Ea rfl (qp rfl (Af ?_))))
    exact Au _ h (sm [(2003, 2002)] _ _ rfl rfl)
  ·refine Aq rfl (fun c11 => ?_) (fun c11 => ?_)
   ·have h := Ao c11 h
    refine Ad (Aa Ae rfl (qa rfl (qa rfl (Af ?_))))
    obtain rfl := sj h
    refine Al (sm [] [(4, bD false), (5, iD 3)] [] rfl rfl) (Ay ?_)
    exact ⟨⟨[_, _], ⟨.tmp _ _ rfl, ⟨.tmp _ _ rfl, tv⟩⟩, rfl⟩, tv⟩
   ·have h := An c11 h
    refine As (Ad (Aa Ae rfl (qL C9 Ck rfl (qm rfl ?_))))
    obtain ⟨v12, a12, h⟩ := bind_some h
    refine Ew [] [2003] (GY N p0 (v5.2.take v5.1) v12 a12) Tl De rfl (qm rfl (qx rfl (qx rfl (qa rfl (qa rfl (Af (Ad (Ad (Aa Ae rfl (qm rfl (Cl rfl (Af ?_))))))))))))
    refine Aq rfl (fun c13 => ?_) (fun c13 => ?_)
    ·have h := Ao c13 h
     refine Ad (Aa Ae rfl (qm rfl (qa rfl (qa rfl (Af ?_)))))
     obtain rfl := sj h
     refine Al (sm [] [(4, bD false), (5, iD v12.2)] [] rfl rfl) (Ay ?_)
     exact ⟨⟨[_, _], ⟨.tmp _ _ rfl, ⟨.tmp _ _ rfl, tv⟩⟩, rfl⟩, tv⟩
    ·have h := An c13 h
     refine As (Ad (Ad (Aa Ae rfl (qm rfl (D8 AI rfl (qm rfl (Af ?_)))))))
     refine AB (L := Ee N p0 v5) h (fun v14 => mk [(2, oD (.ptr 2 0)), (7, oD (.own 2005)), (8, bD v14.1), (44, iD (((v5.2.take v5.1).length : Int))), (45, iD v14.2)] [(2, .box [sC (p0.fb.map Aj), sC (p0.fc.map Aj), sC (p0.fd.map Aj), sC (p0.fa.map Ak)]), (2005, .vec 3 ((v5.2.take v5.1).map Ac))]) (fun v15 => mk [(8, bD v15)] []) (fun _ _ => rfl) (sm [(2005, 2003)] _ _ rfl rfl) (fun j14 n14 v14 h => ?_) (fun v15 s h hs => ?_)
     ·unfold Ee at h
      refine Ad (Aa Ae rfl (AX rfl (Af (Ad ?_))))
      refine Aq rfl (fun c16 => ?_) (fun c16 => ?_)
      ·have h := Ao c16 h
       refine As ?_
       refine AS h (fun v17 => mk [(2, oD (.ptr 2 0)), (7, oD (.own 2006)), (8, bD v17), (44, iD (((v5.2.take v5.1).length : Int))), (45, iD v14.2)] [(2, .box [sC (p0.fb.map Aj), sC (p0.fc.map Aj), sC (p0.fd.map Aj), sC (p0.fa.map Ak)]), (2006, .vec 3 ((v5.2.take v5.1).map Ac))]) (fun j17 h => ?_) (fun v17 h => ?_)
       ·refine AJ (Ad (Aa Ae rfl (qm rfl (qa rfl (Af (Ad (Aa Ae rfl (qL C9 Ck rfl (qm rfl ?_)))))))))
        obtain ⟨v18, a18, h⟩ := bind_some h
        refine Ew [2007] [2005] (CN N (v5.2.take v5.1) v18 a18) TS (HT (fun _ => rfl) De) rfl (qm rfl (qm rfl (AO rfl ?_)))
        obtain ⟨v19, a19, h⟩ := bind_some h
        obtain ⟨c20, h⟩ := AN h
        have w21 : 0 + v19.1 ≤ v19.2.length := by rw [Nat.zero_add]; exact c20
        refine CK (ds0 := [_, _, _]) [2007] [] [true] (Fd N v18 v14.2 ((wI .i64 (v14.2 + 1))) v19 a19) (.p rfl) Vt rfl ⟨rfl, rfl, rfl, tv⟩ rfl rfl (by decide) ⟨rfl, tv⟩ rfl (A2 rfl) tv ⟨(fun h => by cases h), tv⟩ rfl rfl rfl ?_
        obtain ⟨v22, a22, h⟩ := bind_some h
        refine P5 (ds0 := [_, _]) [] [(2007, _)] (GY N p0 (((v19.2.drop 0).take v19.1)) v22 a22) (.p rfl) Tl rfl ⟨rfl, rfl, tv⟩ ⟨rfl, tv⟩ (SF (Sx w21 rfl rfl)) rfl rfl (A2 rfl) tv rfl De rfl ?_
        refine qm rfl (qx rfl (qx rfl (qa rfl (qa rfl (AL (by kernel_rfl) (Ad (Ad (Aa Ae rfl (qm rfl (Cl rfl (Af ?_)))))))))))
        refine Aq rfl (fun c23 => ?_) (fun c23 => ?_)
        ·have h := Ao c23 h
         refine Ad (Aa Ae rfl (qm rfl (qa rfl (qa rfl (Af ?_)))))
         obtain rfl := sj h
         refine Al (sm [] [(4, bD false), (5, iD v22.2)] [] rfl rfl) (Ay ?_)
         exact ⟨⟨[_, _], ⟨.tmp _ _ rfl, ⟨.tmp _ _ rfl, tv⟩⟩, rfl⟩, tv⟩
        ·have h := An c23 h
         refine As (Aa Ae rfl (qm rfl (qm rfl ?_)))
         refine AH (t := 63) rfl (fun c24 => ?_) (fun c24 => ?_)
         ·have h := Ao c24 h
          refine qm rfl (CB rfl (qp rfl (qa rfl (Af ?_))))
          exact Au _ h (sm [(2006, 2005)] _ _ rfl rfl)
         ·have h := An c24 h
          refine qn rfl (qn rfl (qp rfl (qa rfl (Af ?_))))
          exact Au _ h (sm [(2006, 2005)] _ _ rfl rfl)
       ·refine Aa Ae rfl (AO rfl (qm rfl (Af ?_)))
        exact Au _ h (sm [(2005, 2006)] _ _ rfl rfl)
      ·have h := An c16 h
       refine AP ?_
       exact Au _ h (sm [] _ _ rfl rfl)
     ·refine Al hs (Ad (Aa Ae rfl (qm rfl (qa rfl (qa rfl (Af ?_))))))
      obtain rfl := sj h
      refine Al (sm [] [(4, bD v15), (5, iD 0)] [] rfl rfl) (Ay ?_)
      exact ⟨⟨[_, _], ⟨.tmp _ _ rfl, ⟨.tmp _ _ rfl, tv⟩⟩, rfl⟩, tv⟩
theorem LJ (N : Nat) (p0 : Ah) (r : (List Ab) × Int) (h : Hg N p0 = some r) : Az Tryz.prog 12 [.e (.agg [sC (p0.fb.map Aj), sC (p0.fc.map Aj), sC (p0.fd.map Aj), sC (p0.fa.map Ak)])] [] (.tup [.one (sC (r.1.map Ac)), .one (iC r.2)]) := by
 unfold Hg at h
 refine Ar (n := 17) (rs := [.tmp 2, .tmp 3]) Tryz.func12 rfl rfl rfl (AY rfl) (AY rfl) rfl fun w0 S0 => ?_
 refine Ad (Aa Ae rfl (qb rfl (qa rfl (qa rfl (Af (Ad (Aa Ae rfl (qL C9 Ck rfl ?_))))))))
 obtain ⟨v1, a1, h⟩ := bind_some h
 refine AG [2001] (J8 N p0 v1 a1) Uc rfl (qm rfl (qx rfl (qx rfl (qa rfl (qa rfl (Af (Ad (Ad (Aa Ae rfl (qm rfl (Cl rfl (Af ?_))))))))))))
 refine Aq rfl (fun c2 => ?_) (fun c2 => ?_)
 ·have h := Ao c2 h
  refine Ad (Aa Ae rfl (qm rfl (qa rfl (qa rfl (Af ?_)))))
  obtain rfl := sj h
  refine Al ((KV 2 _ rfl).trans (sm [] [(2, pD (.sl ((([] : List Ab)).map Ac))), (3, iD v1.2)] [] rfl rfl)) (Ay ?_)
  exact ⟨⟨[_, _], ⟨.tmp _ _ rfl, ⟨.tmp _ _ rfl, tv⟩⟩, rfl⟩, tv⟩
 ·have h := An c2 h
  refine As (Ad (Aa Ae rfl (qm rfl ?_)))
  obtain ⟨v3, a3, b3, h⟩ := Ai h
  refine qI Ia O9 a3 (Ag b3) rfl (qj TH (Ag b3) rfl (qa rfl (qa rfl (Af ?_))))
  obtain rfl := sj h
  refine Al (sm [] [(2, pD (.sl (v3.map Ac))), (3, iD 0)] [] rfl rfl) (Ay ?_)
  exact ⟨⟨[_, _], ⟨.tmp _ _ rfl, ⟨.tmp _ _ rfl, tv⟩⟩, rfl⟩, tv⟩
theorem HA (N : Nat) (r : Bool) (h : Dx N = some r) : Az Tryz.prog 11 [] [] (bD r) := by
 unfold Dx at h
 refine Ar (n := 79) (rs := [.tmp 0]) Tryz.func11 rfl rfl rfl (AY rfl) (AY rfl) rfl fun w0 S0 => ?_
 refine Ad (Aa Ae rfl (qa rfl (Af (Ad (Aa Ae rfl ?_)))))
 obtain ⟨v1, a1, h⟩ := bind_some h
 refine AG [2001, 2002, 2003, 2004] (Ev N v1 a1) RX rfl (E2 (DC 2001 _ _ rfl rfl) (E2 (DC 2002 _ _ rfl rfl) (E2 (DC 2003 _ _ rfl rfl) (E2 (DC 2004 _ _ rfl rfl) ?_))))
 obtain ⟨v2, a2, h⟩ := bind_some h
 refine AG [2005] (J8 N v1 v2 a2) Uc rfl (qm rfl (qx rfl (qx rfl (qa rfl (qa rfl (Af (Ad (Aa Ae rfl ?_))))))))
 obtain ⟨v3, a3, h⟩ := bind_some h
 refine AG [2006, 2007, 2008, 2009] (Ev N v3 a3) RX rfl ?_
 obtain ⟨v4, a4, h⟩ := bind_some h
 refine Ew [2010] [2006, 2007, 2008, 2009] (GN N v3 v4 a4) Tw (HT (fun _ => rfl) De) rfl (qm rfl (qx rfl (qx rfl (qa rfl (qa rfl (Af (Ad (Aa Ae rfl ?_))))))))
 obtain ⟨v5, a5, h⟩ := bind_some h
 refine AG [2011, 2012, 2013, 2014] (Ev N v5 a5) RX rfl (qm rfl ?_)
 obtain ⟨v6, a6, h⟩ := bind_some h
 refine Ew [] [2011, 2012, 2013, 2014, 2010] (KX N v5 v4.1 v6 a6) V6 De rfl (qm rfl (qx rfl (qx rfl (qa rfl (qa rfl (Af (Ad (Aa Ae rfl ?_))))))))
 obtain ⟨v7, a7, h⟩ := bind_some h
 refine AG [2015, 2016, 2017, 2018] (Ev N v7 a7) RX rfl (E2 (DC 2015 _ _ rfl rfl) (E2 (DC 2016 _ _ rfl rfl) (E2 (DC 2017 _ _ rfl rfl) (E2 (DC 2018 _ _ rfl rfl) ?_))))
 obtain ⟨v8, a8, h⟩ := bind_some h
 refine AG [] (LJ N v7 v8 a8) VM rfl (qm rfl (qx rfl (qx rfl (qa rfl (qa rfl (Af (Ad (Aa Ae rfl (Cu G8 Ou rfl (qz G8 rfl (qs AE rfl (Af ?_))))))))))))
 refine AS h (fun v9 => mk [(0, bD v9)] []) (fun j9 h => ?_) (fun v9 h => ?_)
 ·refine Aa Ae rfl (qm rfl (CR rfl (qm rfl ?_)))
  refine AH (t := 34) rfl (fun c10 => ?_) (fun c10 => ?_)
  ·have h := Ao c10 h
   refine qm rfl (CR rfl (qp rfl (qm rfl ?_)))
   refine AH (t := 38) rfl (fun c11 => ?_) (fun c11 => ?_)
   ·have h := Ao c11 h
    refine qm rfl (CR rfl (qp rfl (qm rfl ?_)))
    refine AH (t := 42) rfl (fun c12 => ?_) (fun c12 => ?_)
    ·have h := Ao c12 h
     refine qm rfl (CR rfl (qp rfl (qm rfl ?_)))
     refine AH (t := 46) rfl (fun c13 => ?_) (fun c13 => ?_)
     ·have h := Ao c13 h
      refine qm rfl (D8 Ia rfl (CR rfl (qp rfl (qm rfl ?_))))
      refine AH (t := 51) rfl (fun c14 => ?_) (fun c14 => ?_)
      ·have h := Ao c14 h
       refine qm rfl (D8 AI rfl (CR rfl (qp rfl (qm rfl ?_))))
       refine AH (t := 56) rfl (fun c15 => ?_) (fun c15 => ?_)
       ·have h := Ao c15 h
        refine qm rfl ?_
        obtain ⟨v16, a16, b16, h⟩ := Ai h
        refine qI AI AE a16 (Ag b16) rfl (qJ Co AE (Ag b16) rfl (qL Co AE rfl ?_))
        refine Pl [.int .i64 v16.ft, .int .i64 v16.fr, .int .i64 v16.fq] [.int .i64 0, .int .i64 0, .int .i64 1] (.g rfl rfl) rfl rfl Mm rfl ?_
        refine qp rfl (qm rfl ?_)
        refine AH (t := 63) rfl (fun c17 => ?_) (fun c17 => ?_)
        ·have h := Ao c17 h
         refine qm rfl (CB rfl (qp rfl (qm rfl ?_)))
         refine AH (t := 67) rfl (fun c18 => ?_) (fun c18 => ?_)
         ·have h := Ao c18 h
          refine qm rfl (AM AI rfl (CR rfl (qp rfl (qm rfl ?_))))
          refine AH (t := 72) rfl (fun c19 => ?_) (fun c19 => ?_)
          ·have h := Ao c19 h
           refine qm rfl ?_
           obtain ⟨v20, a20, b20, h⟩ := Ai h
           refine qi AI AE a20 (Ag b20) rfl (qK Co AE rfl (qL Co AE rfl ?_))
           refine Pl [.int .i64 v20.ft, .int .i64 v20.fr, .int .i64 v20.fq] [.int .i64 0, .int .i64 0, .int .i64 1] (.g rfl rfl) rfl rfl Mm rfl ?_
           refine qp rfl (qa rfl (AL (by kernel_rfl) ?_))
           exact Au _ h (sm [] _ _ rfl rfl)
          ·have h := An c19 h
           refine qn rfl (qn rfl (qn rfl (qn rfl (qn rfl (qp rfl (qa rfl (AL (by kernel_rfl) ?_)))))))
           exact Au _ h (sm [] _ _ rfl rfl)
         ·have h := An c18 h
          refine qn rfl (qn rfl (qn rfl (qp rfl (qm rfl (qn rfl (qn rfl (qn rfl (qn rfl (qn rfl (qp rfl (qa rfl (AL (by kernel_rfl) ?_))))))))))))
          exact Au _ h (sm [] _ _ rfl rfl)
        ·have h := An c17 h
         refine qn rfl (qn rfl (qp rfl (qm rfl (qn rfl (qn rfl (qn rfl (qp rfl (qm rfl (qn rfl (qn rfl (qn rfl (qn rfl (qn rfl (qp rfl (qa rfl (AL (by kernel_rfl) ?_))))))))))))))))
         exact Au _ h (sm [] _ _ rfl rfl)
       ·have h := An c15 h
        refine qn rfl (qn rfl (qn rfl (qn rfl (qn rfl (qp rfl (qm rfl (qn rfl (qn rfl (qp rfl (qm rfl (qn rfl (qn rfl (qn rfl (qp rfl (qm rfl (qn rfl (qn rfl (qn rfl (qn rfl (qn rfl (qp rfl (qa rfl (AL (by kernel_rfl) ?_)))))))))))))))))))))))
        exact Au _ h (sm [] _ _ rfl rfl)
      ·have h := An c14 h
       refine qn rfl (qn rfl (qn rfl (qp rfl (qm rfl (qn rfl (qn rfl (qn rfl (qn rfl (qn rfl (qp rfl (qm rfl (qn rfl (qn rfl (qp rfl (qm rfl (qn rfl (qn rfl (qn rfl (qp rfl (qm rfl (qn rfl (qn rfl (qn rfl (qn rfl (qn rfl (qp rfl (qa rfl (AL (by kernel_rfl) ?_))))))))))))))))))))))))))))
       exact Au _ h (sm [] _ _ rfl rfl)
     ·have h := An c13 h
      refine qn rfl (qn rfl (qn rfl (qp rfl (qm rfl (qn rfl (qn rfl (qn rfl (qp rfl (qm rfl (qn rfl (qn rfl (qn rfl (qn rfl (qn rfl (qp rfl (qm rfl (qn rfl (qn rfl (qp rfl (qm rfl (qn rfl (qn rfl (qn rfl (qp rfl (qm rfl (qn rfl (qn rfl (qn rfl (qn rfl (qn rfl (qp rfl (qa rfl (AL (by kernel_rfl) ?_)))))))))))))))))))))))))))))))))
      exact Au _ h (sm [] _ _ rfl rfl)
    ·have h := An c12 h
     refine qn rfl (qn rfl (qp rfl (qm rfl (qn rfl (qn rfl (qn rfl (qp rfl (qm rfl (qn rfl (qn rfl (qn rfl (qp rfl (qm rfl (qn rfl (qn rfl (qn rfl (qn rfl (qn rfl (qp rfl (qm rfl (qn rfl (qn rfl (qp rfl (qm rfl (qn rfl (qn rfl (qn rfl (qp rfl (qm rfl (qn rfl (qn rfl (qn rfl (qn rfl (qn rfl (qp rfl (qa rfl (AL (by kernel_rfl) ?_)))))))))))))))))))))))))))))))))))))
     exact Au _ h (sm [] _ _ rfl rfl)
   ·have h := An c11 h
    refine qn rfl (qn rfl (qp rfl (qm rfl (qn rfl (qn rfl (qp rfl (qm rfl (qn rfl (qn rfl (qn rfl (qp rfl (qm rfl (qn rfl (qn rfl (qn rfl (qp rfl (qm rfl (qn rfl (qn rfl (qn rfl (qn rfl (qn rfl (qp rfl (qm rfl (qn rfl (qn rfl (qp rfl (qm rfl (qn rfl (qn rfl (qn rfl (qp rfl (qm rfl (qn rfl (qn rfl (qn rfl (qn rfl (qn rfl (qp rfl ?_)))))))))))))))))))))))))))))))))))))))
    refine qa rfl (AL (by kernel_rfl) ?_)
    exact Au _ h (sm [] _ _ rfl rfl)
  ·have h := An c10 h
   refine qn rfl (qn rfl (qp rfl (qm rfl (qn rfl (qn rfl (qp rfl (qm rfl (qn rfl (qn rfl (qp rfl (qm rfl (qn rfl (qn rfl (qn rfl (qp rfl (qm rfl (qn rfl (qn rfl (qn rfl (qp rfl (qm rfl (qn rfl (qn rfl (qn rfl (qn rfl (qn rfl (qp rfl (qm rfl (qn rfl (qn rfl (qp rfl (qm rfl (qn rfl (qn rfl (qn rfl (qp rfl (qm rfl (qn rfl (qn rfl ?_)))))))))))))))))))))))))))))))))))))))
   refine qn rfl (qn rfl (qn rfl (qp rfl (qa rfl (AL (by kernel_rfl) ?_)))))
   exact Au _ h (sm [] _ _ rfl rfl)
 ·obtain rfl := sj h
  refine Al (sm [] [(0, bD v9)] [] rfl rfl) (Ay ?_)
  exact ⟨⟨[_], ⟨.tmp _ _ rfl, tv⟩, rfl⟩, tv⟩
end Go.Lift
