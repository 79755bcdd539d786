/- Lemmas for PlanFindSaid, which YtohibkdhajkmdaaFinP3 proves. -/
import Derived.Test.YtohibkdhajkmdaaCode1
/- That the code does what the shallow programs do, function by function. Written by a program (gen.py). -/
namespace Go.Lift
open Go.RowKit
open Go.Proofs
set_option maxRecDepth 10000 in
theorem Ln (N : Nat) (p0 : Ae) (p1 : Ah) (p2 : Af) (r : Ah × Bool) (h : EL N p0 p1 p2 = some r) : AA Try.prog 102 [.e (.agg [.pure (.sl (p0.fVersions.map Ag)), .pure (.sl (p0.fNow.map Ag)), .pure (.sl (p0.fTarget.map Ag)), .pure (.sl (p0.fTables.map Ai))]), .e (.agg [.pure (.sl (p1.fBase.map Ag)), .pure (.sl (p1.fNext.map Ag)), .pure (.sl (p1.fHeld.map A9))]), .e (.agg [.pure (.val (.int .i64 p2.fKind)), .pure (.val (.int .i64 p2.fIndex)), .pure (.val (.int .i64 p2.fVersion))])] [(1, r.1.fBase.map Ag), (1, r.1.fNext.map Ag), (1, r.1.fHeld.map A9)] (.tup [.agg [.own 0, .own 1, .own 2], .one (.pure (.val (.bool r.2)))]) := by
 unfold EL at h
 refine Ao (n := 51) (rs := [.cell 6 43, .tmp 7]) Try.func102 rfl rfl rfl (BF rfl) (BF rfl) rfl fun w0 S0 => ?_
 refine Ab (Aa Ad rfl (qb rfl (qb rfl (qb rfl (qz C7 rfl (qa rfl (Ac (Ab (Aa Ad rfl (qL Bs AT rfl ?_))))))))))
 obtain ⟨v1, a1, h⟩ := bind_some h
 refine AK [2001, 2002, 2003] (Ns N p1 v1 a1) XC rfl (qz C7 rfl (qs AT rfl (Ac (Ab (Ab (Aa Ad rfl (qf ES rfl (ql B9 rfl (Ac (AU (Ab (Aa Ad rfl (B6 rfl (qa rfl (Ac ?_)))))))))))))))
 refine As rfl (fun c2 => ?_) (fun c2 => ?_)
 ·have h := Ap c2 h
  refine Ab (Aa Ad rfl (qL Bs AT rfl (qL Dr CX rfl (qL GM Dh rfl ?_))))
  obtain ⟨v3, a3, h⟩ := bind_some h
  refine Me (ds0 := [_, _, _]) [8, 2001, 2002, 2003] [] [false, false, true, true] (OB N p0 v1 p2 v3 a3) (.p rfl) W5 rfl ⟨rfl, rfl, rfl, trivial⟩ rfl rfl (by decide) ⟨rfl, rfl, rfl, rfl, trivial⟩ rfl (HW rfl) trivial ⟨(fun _ => rfl), (fun _ => rfl), (fun h => by cases h), (fun h => by cases h), trivial⟩ rfl rfl rfl ?_
  refine qs AT rfl (qa rfl (AY (by kernel_rfl) ?_))
  obtain rfl := sj h
  refine Al (sm [(1000, 2001), (1001, 2002), (1002, 2003)] [(6, .e (.one (.ptr 6 0))), (7, .e (.one (.pure (.val (.bool v3.1)))))] [(6, .box [.own 1000, .own 1001, .own 1002]), (1000, .vec 1 (v1.fBase.map Ag)), (1001, .vec 1 (v3.2.1.map Ag)), (1002, .vec 1 (v3.2.2.map A9))] rfl rfl) (AC ?_)
  exact ⟨⟨[_, _], ⟨.cellN _ _ _ _ _ _ _ rfl rfl Bs AT rfl rfl (Hb rfl), ⟨.tmp _ _ rfl, trivial⟩⟩, rfl⟩, ⟨rfl, rfl, rfl, trivial⟩⟩
 ·have h := Aq c2 h
  refine Ab (Aa Ad rfl (B6 rfl (qa rfl (Ac ?_))))
  refine As rfl (fun c4 => ?_) (fun c4 => ?_)
  ·have h := Ap c4 h
   refine Ab (Aa Ad rfl (qL Bs AT rfl (qL Dr CX rfl (qf Ew rfl (ql B9 rfl ?_)))))
   obtain ⟨v5, a5, h⟩ := bind_some h
   refine Me (ds0 := [_, _, _]) [8, 2001, 2002, 2003] [] [false, false, false, true] (Oo N p0 v1 p2.fIndex v5 a5) (.p rfl) Xc rfl ⟨rfl, rfl, rfl, trivial⟩ rfl rfl (by decide) ⟨rfl, rfl, rfl, rfl, trivial⟩ rfl (HW rfl) trivial ⟨(fun _ => rfl), (fun _ => rfl), (fun _ => rfl), (fun h => by cases h), trivial⟩ rfl rfl rfl ?_
   refine qs AT rfl (qa rfl (AY (by kernel_rfl) ?_))
   obtain rfl := sj h
   refine Al (sm [(1000, 2001), (1001, 2002), (1002, 2003)] [(6, .e (.one (.ptr 6 0))), (7, .e (.one (.pure (.val (.bool v5.1)))))] [(6, .box [.own 1000, .own 1001, .own 1002]), (1000, .vec 1 (v1.fBase.map Ag)), (1001, .vec 1 (v1.fNext.map Ag)), (1002, .vec 1 (v5.2.map A9))] rfl rfl) (AC ?_)
   exact ⟨⟨[_, _], ⟨.cellN _ _ _ _ _ _ _ rfl rfl Bs AT rfl rfl (Hb rfl), ⟨.tmp _ _ rfl, trivial⟩⟩, rfl⟩, ⟨rfl, rfl, rfl, trivial⟩⟩
  ·have h := Aq c4 h
   refine Av (Ab (Aa Ad rfl (qf Bz rfl (ql A7 rfl (qf Ew rfl (ql B9 rfl ?_))))))
   obtain ⟨v6, a6, b6, h⟩ := Am h
   refine qI AG Dc a6 (Aj b6) rfl (qj B9 (Aj b6) rfl (qa rfl (Ac (Ab (Ab (Aa Ad rfl (qm rfl (A8 rfl (Ac ?_)))))))))
   refine As rfl (fun c7 => ?_) (fun c7 => ?_)
   ·have h := Ap c7 h
    refine Ab (Aa Ad rfl (qL Bs AT rfl (qs AT rfl (qa rfl (Ac ?_)))))
    obtain rfl := sj h
    refine Al (sm [(1000, 2001), (1001, 2002), (1002, 2003)] [(6, .e (.one (.ptr 6 0))), (7, .e (.one (.pure (.val (.bool false)))))] [(6, .box [.own 1000, .own 1001, .own 1002]), (1000, .vec 1 (v1.fBase.map Ag)), (1001, .vec 1 (v1.fNext.map Ag)), (1002, .vec 1 (v1.fHeld.map A9))] rfl rfl) (AC ?_)
    exact ⟨⟨[_, _], ⟨.cellN _ _ _ _ _ _ _ rfl rfl Bs AT rfl rfl (Hb rfl), ⟨.tmp _ _ rfl, trivial⟩⟩, rfl⟩, ⟨rfl, rfl, rfl, trivial⟩⟩
   ·have h := Aq c7 h
    refine Av (Ab (Aa Ad rfl (qf Bz rfl (ql A7 rfl (qf Ew rfl (ql B9 rfl ?_))))))
    obtain ⟨v8, a8, b8, h⟩ := Am h
    refine qI AG Dc a8 (Aj b8) rfl ?_
    refine D8 rfl rfl rfl rfl (Aj b8) rfl Dc rfl (BF rfl) (DL Ag v1.fNext _ ((-1))) ?_
    refine Ac ?_
    refine AX h (fun v9 => mk [(6, .e (.one (.ptr 6 0))), (8, .e (.one (.ptr 8 0)))] [(6, .box [.pure (.nil0), .pure (.nil0), .pure (.nil0)]), (8, .box [.own 2004, .own 2005, .own 2006]), (2004, .vec 1 (v9.map Ag)), (2005, .vec 1 ((v1.fNext.set ((p2.fIndex).toNat) ((-1))).map Ag)), (2006, .vec 1 (v1.fHeld.map A9))]) (fun j9 h => ?_) (fun v9 h => ?_)
    ·refine Ab (Aa Ad rfl (qf ES rfl (ql B9 rfl (B6 rfl (Ac ?_)))))
     refine As rfl (fun c10 => ?_) (fun c10 => ?_)
     ·have h := Ap c10 h
      refine Aa Ad rfl (qf CB rfl (ql A7 rfl (qf Ew rfl (ql B9 rfl (qm rfl ?_)))))
      obtain ⟨v11, a11, b11, h⟩ := Am h
      refine qI AG Dc a11 (Aj b11) rfl ?_
      refine D8 rfl rfl rfl rfl (Aj b11) rfl Dc rfl (BF rfl) (DL Ag v1.fBase _ v6) ?_
      refine Ac ?_
      exact Aw _ h (sm [(2004, 2001), (2005, 2002), (2006, 2003)] _ _ rfl rfl)
     ·have h := Aq c10 h
      refine Av ?_
      exact Aw _ h (sm [(2004, 2001), (2005, 2002), (2006, 2003)] _ _ rfl rfl)
    ·refine Ab (Aa Ad rfl (qL Bs AT rfl (qs AT rfl (qa rfl (Ac ?_)))))
     obtain rfl := sj h
     refine Al (sm [(1000, 2004), (1001, 2005), (1002, 2006)] [(6, .e (.one (.ptr 6 0))), (7, .e (.one (.pure (.val (.bool true)))))] [(6, .box [.own 1000, .own 1001, .own 1002]), (1000, .vec 1 (v9.map Ag)), (1001, .vec 1 ((v1.fNext.set ((p2.fIndex).toNat) ((-1))).map Ag)), (1002, .vec 1 (v1.fHeld.map A9))] rfl rfl) (AC ?_)
     exact ⟨⟨[_, _], ⟨.cellN _ _ _ _ _ _ _ rfl rfl Bs AT rfl rfl (Hb rfl), ⟨.tmp _ _ rfl, trivial⟩⟩, rfl⟩, ⟨rfl, rfl, rfl, trivial⟩⟩
set_option maxRecDepth 10000 in
theorem LC (N : Nat) (p0 : Af) (p1 : List Int) (p2 : List Int) (p3 : List Int) (p4 : List AF) (p5 : List Int) (p6 : List Int) (p7 : List Int) (r : Bool) (h : C3 N p0 p1 p2 p3 p4 p5 p6 p7 = some r) : AA Try.prog 105 [.e (.agg [.pure (.val (.int .i64 p0.fKind)), .pure (.val (.int .i64 p0.fIndex)), .pure (.val (.int .i64 p0.fVersion))]), .e (.one (.rop [.sl (p1.map Ag), .sl (p2.map Ag), .sl (p3.map Ag), .sl (p4.map Ai)])), .e (.one (.rop [.sl (p5.map Ag), .sl (p6.map Ag), .sl (p7.map A9)]))] [] (.e (.one (.pure (.val (.bool r))))) := by
 unfold C3 at h
 refine Ao (n := 16) (rs := [.tmp 4]) Try.func105 rfl rfl rfl (BF rfl) (BF rfl) rfl fun w0 S0 => ?_
 refine Ab (Aa Ad rfl (qb rfl (qa rfl (Ac (Ab (Aa Ad rfl (qK Dr CX rfl (qK Bs AT rfl (qL GM Dh rfl ?_)))))))))
 obtain ⟨v1, a1, h⟩ := bind_some h
 refine AK [2001, 2002, 2003] (Ln N ((Ae.mk p1 p2 p3 p4)) ((Ah.mk p5 p6 p7)) p0 v1 a1) U3 rfl (qm rfl (qx rfl (qx rfl (qz C7 rfl (qs AT rfl (qa rfl (Ac (Ab (Aa Ad rfl (qm rfl (CE rfl (qa rfl (Ac ?_)))))))))))))
 obtain rfl := sj h
 refine Al (sm [] [(4, .e (.one (.pure (.val (.bool ((!v1.2)))))))] [] rfl rfl) (AC ?_)
 exact ⟨⟨[_], ⟨.tmp _ _ rfl, trivial⟩, rfl⟩, trivial⟩
set_option maxRecDepth 10000 in
theorem FO (N : Nat) (p0 : List Af) (p1 : Af → Option Bool) (r : Int) (h : BI N p0 p1 = some r) : AA Try.prog 114 [.e (.one (.pure (.sl (p0.map Ax)))), .e (.one (.clo (Id (L2 true Ax) tB p1)))] [] (.e (.one (.pure (.val (.int .i64 r))))) := by
 unfold BI at h
 refine Ao (n := 19) (rs := [.tmp 4]) Try.func114 rfl rfl rfl (BF rfl) (BF rfl) rfl fun w0 S0 => ?_
 refine Ab (Aa Ad rfl (qa rfl (Ac (Ab (Ab (Aa Ad rfl (qm rfl (AS CT rfl (qm rfl (Ac ?_))))))))))
 refine AR (L := A3 N p0 p1) h (fun v1 => mk [(0, .e (.one (.pure (.sl (p0.map Ax))))), (1, .e (.one (.clo (Id (L2 true Ax) tB p1)))), (7, .e (.one (.pure (.val (.int .i64 ((p0.length : Int))))))), (8, .e (.one (.pure (.val (.int .i64 v1)))))] []) (fun v2 => mk [] []) (fun _ _ => rfl) (sm [] _ _ rfl rfl) (fun j1 n1 v1 h => ?_) (fun v2 s h hs => ?_)
 ·unfold A3 at h
  refine Ab (Aa Ad rfl (A8 rfl (Ac (Ab ?_))))
  refine As rfl (fun c3 => ?_) (fun c3 => ?_)
  ·have h := Ap c3 h
   refine Av (Ab (AU (Ab (Aa Ad rfl (qm rfl (qa rfl (Ac (Ab (Aa Ad rfl (qm rfl (qm rfl (qm rfl ?_))))))))))))
   obtain ⟨v4, a4, b4, h⟩ := Am h
   refine qi CT Dh a4 (Aj b4) rfl (qK GM Dh rfl ?_)
   obtain ⟨v5, a5, h⟩ := bind_some h
   refine KL (ds0 := [_]) (ar := (L2 true Ax) v4) (.p rfl) rfl rfl ⟨rfl, trivial⟩ rfl rfl rfl (La (KS _ _ MA) a5) ?_
   refine Ac ?_
   refine As rfl (fun c6 => ?_) (fun c6 => ?_)
   ·have h := Ap c6 h
    refine Ab (Aa Ad rfl (qm rfl (qa rfl (Ac ?_))))
    obtain rfl := sj h
    refine Al (sm [] [(4, .e (.one (.pure (.val (.int .i64 v1)))))] [] rfl rfl) (AC ?_)
    exact ⟨⟨[_], ⟨.tmp _ _ rfl, trivial⟩, rfl⟩, trivial⟩
   ·have h := Aq c6 h
    refine Av (Aa Ad rfl (Bn rfl (qm rfl (Ac ?_))))
    exact Aw _ h (sm [] _ _ rfl rfl)
  ·have h := Aq c3 h
   refine A4 ?_
   exact Aw _ h (sm [] _ _ rfl rfl)
 ·refine Al hs (Ab (Aa Ad rfl (qa rfl (Ac ?_))))
  obtain rfl := sj h
  refine Al (sm [] [(4, .e (.one (.pure (.val (.int .i64 ((-1)))))))] [] rfl rfl) (AC ?_)
  exact ⟨⟨[_], ⟨.tmp _ _ rfl, trivial⟩, rfl⟩, trivial⟩
set_option maxRecDepth 10000 in
theorem FI (N : Nat) (p0 : List Af) (p1 : Af → Option Bool) (r : Nat × (List Af)) (h : BE N p0 p1 = some r) : FH Try.prog 103 [.e (.one (.own 90000)), .e (.one (.clo (Id (L2 true Ax) tB p1)))] [(.vec 3 (p0.map Ax), .vec 3 (r.2.map Ax))] [] (.e (.one (.view 90000 3 0 r.1))) := by
 unfold BE at h
 refine Gw (n := 42) (rs := [.tmp 4]) Try.func103 rfl rfl rfl (BF rfl) (BF rfl) rfl rfl (BF rfl) rfl (BF rfl) fun w0 S0 GL => ?_
 refine Al (sm [] [(0, .e (.one (.own 90000))), (1, .e (.one (.clo (Id (L2 true Ax) tB p1))))] [(90000, .vec 3 (p0.map Ax))] rfl rfl) (Ab (Aa Ad rfl (qa rfl (Ac (Ab (Aa Ad rfl (qm rfl (qm rfl ?_))))))))
 obtain ⟨v1, a1, h⟩ := bind_some h
 refine DJ [] [90000] (FO N p0 p1 v1 a1) WJ Cx rfl (qa rfl (Ac (Ab (Ab (Aa Ad rfl (qm rfl (B6 rfl (Ac ?_))))))))
 refine As rfl (fun c2 => ?_) (fun c2 => ?_)
 ·have h := Ap c2 h
  refine Ab (Aa Ad rfl (qm rfl (qa rfl (Ac ?_))))
  obtain rfl := sj h
  refine Al ((TG Ax p0 4 90000 3 rfl rfl).trans (sm [] [(4, .e (.one (.view 90000 3 0 p0.length)))] [(90000, .vec 3 (p0.map Ax))] rfl rfl)) (AC ?_)
  exact ⟨⟨[_], ⟨.tmp _ _ rfl, trivial⟩, rfl⟩, ⟨rfl, trivial⟩, trivial⟩
 ·have h := Aq c2 h
  refine Av (Ab (Ab (Aa Ad rfl (qm rfl (Bn rfl (qa rfl (Ac ?_)))))))
  refine AR (L := AW N p1) h (fun v3 => mk [(0, .e (.one (.own 90000))), (1, .e (.one (.clo (Id (L2 true Ax) tB p1)))), (5, .e (.one (.pure (.val (.int .i64 v3.2.1))))), (6, .e (.one (.pure (.val (.int .i64 v3.2.2)))))] [(90000, .vec 3 (v3.1.map Ax))]) (fun v4 => mk [(0, .e (.one (.own 90000))), (5, .e (.one (.pure (.val (.int .i64 v4.2)))))] [(90000, .vec 3 (v4.1.map Ax))]) (fun _ _ => rfl) (sm [] _ _ rfl rfl) (fun j3 n3 v3 h => ?_) (fun v4 s h hs => ?_)
  ·unfold AW at h
   refine Ab (Ab (Aa Ad rfl (qm rfl (qm rfl (FD CT rfl (A8 rfl (Ac ?_)))))))
   refine As rfl (fun c5 => ?_) (fun c5 => ?_)
   ·have h := Ap c5 h
    refine Av ?_
    refine AX h (fun v6 => mk [(0, .e (.one (.own 90000))), (1, .e (.one (.clo (Id (L2 true Ax) tB p1)))), (5, .e (.one (.pure (.val (.int .i64 v6.2))))), (6, .e (.one (.pure (.val (.int .i64 v3.2.2)))))] [(90000, .vec 3 (v6.1.map Ax))]) (fun j6 h => ?_) (fun v6 h => ?_)
    ·refine AU (Ab (Aa Ad rfl (qm rfl (qm rfl ?_))))
     obtain ⟨v7, a7, b7, h⟩ := Am h
     refine qI CT Dh a7 (Aj b7) rfl (qJ GM Dh (Aj b7) rfl (qz GC rfl (qs Dh rfl (Ac (Ab (Aa Ad rfl (qm rfl (qL GM Dh rfl ?_))))))))
     obtain ⟨v8, a8, h⟩ := bind_some h
     refine KL (ds0 := [_]) (ar := (L2 true Ax) v7) (.p rfl) rfl rfl ⟨rfl, trivial⟩ rfl rfl rfl (La (KS _ _ MA) a8) ?_
     refine CE rfl (Ac ?_)
     refine As rfl (fun c9 => ?_) (fun c9 => ?_)
     ·have h := Ap c9 h
      refine Ab (Aa Ad rfl (qm rfl (qm rfl (qL GM Dh rfl ?_))))
      obtain ⟨v10, a10, b10, h⟩ := Am h
      refine qI CT Dh a10 (Aj b10) rfl ?_
      refine D8 rfl rfl rfl rfl (Aj b10) rfl Dh rfl (BF rfl) (DL Ax v3.1 _ v7) ?_
      refine Ac (Aa Ad rfl (qm rfl (Bn rfl (qa rfl (Ac ?_)))))
      exact Aw _ h (sm [] _ _ rfl rfl)
     ·have h := Aq c9 h
      refine Av ?_
      exact Aw _ h (sm [] _ _ rfl rfl)
    ·refine Aa Ad rfl (qm rfl (Bn rfl (qa rfl (Ac ?_))))
     exact Aw _ h (sm [] _ _ rfl rfl)
   ·have h := Aq c5 h
    refine A4 ?_
    exact Aw _ h (sm [] _ _ rfl rfl)
  ·refine Al hs (Ab (Aa Ad rfl (qm rfl (qm rfl ?_))))
   obtain ⟨c11, h⟩ := AO h
   have w12 : ((v4.2).toNat) + ((v4.1.length - (v4.2).toNat)) ≤ v4.1.length := by have := c11.2.1; have := c11.2.2; omega
   refine Ld Ax v4.1 (.p rfl) rfl (JD Ax _ _ v4.1) rfl CT Dh (.some _ _ _ _ c11.1) (.none _) ⟨rfl, trivial⟩ trivial c11.2.1 (by rw [Nat.zero_add]; exact c11.2.2) (Nat.zero_add _) rfl ?_
   have w13 : (Il v4.1 ((v4.2).toNat) (List.replicate ((v4.1.length - (v4.2).toNat)) ((Af.mk 0 0 0)))).length = v4.1.length := IS (by rw [List.length_replicate]; exact w12)
   refine S9 Ax v4.1 ((Af.mk 0 0 0)) rfl rfl (NJ Ax _ _ ((v4.2).toNat) ((v4.1.length - (v4.2).toNat)) v4.1 w12) rfl CT GC rfl rfl rfl rfl ?_
   refine Ac (Ab (Aa Ad rfl (qm rfl (qm rfl ?_))))
   obtain ⟨c14, h⟩ := AO h
   have w15 : 0 + ((v4.2).toNat) ≤ (Il v4.1 ((v4.2).toNat) (List.replicate ((v4.1.length - (v4.2).toNat)) ((Af.mk 0 0 0)))).length := by have := c14.2.1; have := c14.2.2; omega
   refine Ld Ax (Il v4.1 ((v4.2).toNat) (List.replicate ((v4.1.length - (v4.2).toNat)) ((Af.mk 0 0 0)))) (.p rfl) rfl (JD Ax _ _ (Il v4.1 ((v4.2).toNat) (List.replicate ((v4.1.length - (v4.2).toNat)) ((Af.mk 0 0 0))))) rfl CT Dh (.none _) (.some _ _ _ _ c14.1) trivial ⟨rfl, trivial⟩ c14.2.1 (by rw [Nat.zero_add]; exact c14.2.2) (Nat.zero_add _) rfl ?_
   refine qa rfl (Ac ?_)
   obtain rfl := sj h
   refine Al (sm [] [(4, .e (.one (.view 90000 3 0 ((v4.2).toNat))))] [(90000, .vec 3 ((Il v4.1 ((v4.2).toNat) (List.replicate ((v4.1.length - (v4.2).toNat)) ((Af.mk 0 0 0)))).map Ax))] rfl rfl) (AC ?_)
   exact ⟨⟨[_], ⟨.tmp _ _ rfl, trivial⟩, rfl⟩, ⟨rfl, trivial⟩, trivial⟩
set_option maxRecDepth 10000 in
theorem MU (N : Nat) (p0 : Ae) (p1 : Ah) (r : (List Af) × Int) (h : Fd N p0 p1 = some r) : AA Try.prog 87 [.e (.agg [.pure (.sl (p0.fVersions.map Ag)), .pure (.sl (p0.fNow.map Ag)), .pure (.sl (p0.fTarget.map Ag)), .pure (.sl (p0.fTables.map Ai))]), .e (.agg [.pure (.sl (p1.fBase.map Ag)), .pure (.sl (p1.fNext.map Ag)), .pure (.sl (p1.fHeld.map A9))])] [(3, r.1.map Ax)] (.tup [.one (.own 0), .one (.pure (.val (.int .i64 r.2)))]) := by
 unfold Fd at h
 refine Ao (n := 17) (rs := [.tmp 4, .tmp 5]) Try.func87 rfl rfl rfl (BF rfl) (BF rfl) rfl fun w0 S0 => ?_
 refine Ab (Aa Ad rfl (qb rfl (qb rfl (qa rfl (qa rfl (Ac (Ab (Ab (Aa Ad rfl (qL Dr CX rfl (qL Bs AT rfl ?_)))))))))))
 obtain ⟨v1, a1, h⟩ := bind_some h
 refine AK [] (HX N p0 p1 v1 a1) TO rfl (qa rfl (Ac (Ab (Aa Ad rfl (qm rfl (Co rfl (Ac ?_)))))))
 refine As rfl (fun c2 => ?_) (fun c2 => ?_)
 ·have h := Ap c2 h
  refine Ab (Aa Ad rfl (qm rfl (qa rfl (qa rfl (Ac ?_)))))
  obtain rfl := sj h
  refine Al ((By 4 2001 3 rfl rfl rfl).trans (sm [(1000, 2001)] [(4, .e (.one (.own 1000))), (5, .e (.one (.pure (.val (.int .i64 v1)))))] [(1000, .vec 3 ((([] : List Af)).map Ax))] rfl rfl)) (AC ?_)
  exact ⟨⟨[_, _], ⟨.tmp _ _ rfl, ⟨.tmp _ _ rfl, trivial⟩⟩, rfl⟩, ⟨rfl, trivial⟩⟩
 ·have h := Aq c2 h
  refine Av (Ab (Aa Ad rfl (qL Dr CX rfl ?_)))
  obtain ⟨v3, a3, h⟩ := bind_some h
  refine AK [2002] (Qo N p0 v3 a3) Xf rfl (DY (Lj 2 [.sl (p0.fVersions.map Ag), .sl (p0.fNow.map Ag), .sl (p0.fTarget.map Ag), .sl (p0.fTables.map Ai)] rfl rfl) (DY (Lj 3 [.sl (p1.fBase.map Ag), .sl (p1.fNext.map Ag), .sl (p1.fHeld.map A9)] rfl rfl) ?_))
  refine Kn (capD := [_, _]) (Id (L2 true Ax) tB ((fun (x : Af) => C3 N x p0.fVersions p0.fNow p0.fTarget p0.fTables p1.fBase p1.fNext p1.fHeld))) (.p rfl) Xa rfl ⟨rfl, rfl, trivial⟩ rfl (fun ar t ht => by obtain ⟨x, r, rfl, hq, rfl⟩ := JK ht; exact LC N x p0.fVersions p0.fNow p0.fTarget p0.fTables p1.fBase p1.fNext p1.fHeld r hq) ?_
  obtain ⟨v4, a4, h⟩ := bind_some h
  obtain ⟨c5, h⟩ := AO h
  have w6 : 0 + v4.1 ≤ v4.2.length := by rw [Nat.zero_add]; exact c5
  refine Me (ds0 := [_, _]) [2002] [] [true] (FI N v3 ((fun (x : Af) => C3 N x p0.fVersions p0.fNow p0.fTarget p0.fTables p1.fBase p1.fNext p1.fHeld)) v4 a4) (.p rfl) V3 rfl ⟨rfl, rfl, trivial⟩ rfl rfl (by decide) ⟨rfl, trivial⟩ rfl (HW rfl) trivial ⟨(fun h => by cases h), trivial⟩ rfl rfl rfl ?_
  refine DY (Vj Ax v4.2 16 2002 2003 3 v4.1 rfl rfl rfl rfl rfl c5) (qa rfl (qa rfl (Ac ?_)))
  obtain rfl := sj h
  refine Al (sm [(1000, 2003)] [(4, .e (.one (.own 1000))), (5, .e (.one (.pure (.val (.int .i64 0)))))] [(1000, .vec 3 ((v4.2.take v4.1).map Ax))] rfl rfl) (AC ?_)
  exact ⟨⟨[_, _], ⟨.tmp _ _ rfl, ⟨.tmp _ _ rfl, trivial⟩⟩, rfl⟩, ⟨rfl, trivial⟩⟩
set_option maxRecDepth 10000 in
theorem Ok (N : Nat) (p0 : Af) (r : Bool) (h : FU N p0 = some r) : AA Try.prog 100 [.e (.agg [.pure (.val (.int .i64 p0.fKind)), .pure (.val (.int .i64 p0.fIndex)), .pure (.val (.int .i64 p0.fVersion))])] [] (.e (.one (.pure (.val (.bool r))))) := by
 unfold FU at h
 refine Ao (n := 27) (rs := [.tmp 2]) Try.func100 rfl rfl rfl (BF rfl) (BF rfl) rfl fun w0 S0 => ?_
 refine Ab (Aa Ad rfl (qb rfl (qa rfl (Ac (Ab ?_)))))
 refine AX h (fun v1 => mk [(1, .e (.one (.ptr 1 0))), (18, .e (.one (.pure (.val (.bool v1)))))] [(1, .box [.pure (.val (.int .i64 p0.fKind)), .pure (.val (.int .i64 p0.fIndex)), .pure (.val (.int .i64 p0.fVersion))])]) (fun j1 h => ?_) (fun v1 h => ?_)
 ·refine Aa Ad rfl (qf Ew rfl (ql B9 rfl (qf F3 rfl (ql B9 rfl ?_))))
  refine Xb (.p rfl) rfl rfl ?_
  refine A8 rfl (qm rfl ?_)
  refine AI (t := 9) rfl (fun c2 => ?_) (fun c2 => ?_)
  ·have h := Ap c2 h
   refine qn rfl (qn rfl (qn rfl (qp rfl (qm rfl (qn rfl (qn rfl (qn rfl (qp rfl (Ac ?_)))))))))
   exact Aw _ h (sm [] _ _ rfl rfl)
  ·have h := Aq c2 h
   refine qf ES rfl (ql B9 rfl (A8 rfl (qp rfl (qm rfl ?_))))
   refine AI (t := 14) rfl (fun c3 => ?_) (fun c3 => ?_)
   ·have h := Ap c3 h
    refine qn rfl (qn rfl (qn rfl (qp rfl (Ac ?_))))
    exact Aw _ h (sm [] _ _ rfl rfl)
   ·have h := Aq c3 h
    refine qf ES rfl (ql B9 rfl (Ge rfl (qp rfl (Ac ?_))))
    exact Aw _ h (sm [] _ _ rfl rfl)
 ·refine As rfl (fun c4 => ?_) (fun c4 => ?_)
  ·have h := Ap c4 h
   refine Ab (Aa Ad rfl (qa rfl (Ac ?_)))
   obtain rfl := sj h
   refine Al (sm [] [(2, .e (.one (.pure (.val (.bool false)))))] [] rfl rfl) (AC ?_)
   exact ⟨⟨[_], ⟨.tmp _ _ rfl, trivial⟩, rfl⟩, trivial⟩
  ·have h := Aq c4 h
   refine Av ?_
   refine AX h (fun v5 => mk [(2, .e (.one (.pure (.val (.bool v5)))))] []) (fun j5 h => ?_) (fun v5 h => ?_)
   ·refine Aa Ad rfl (qf ES rfl (ql B9 rfl (B6 rfl (qm rfl ?_))))
    refine AI (t := 22) rfl (fun c6 => ?_) (fun c6 => ?_)
    ·have h := Ap c6 h
     refine qn rfl (qn rfl (qn rfl (qp rfl (qa rfl (Ac ?_)))))
     exact Aw _ h (sm [] _ _ rfl rfl)
    ·have h := Aq c6 h
     refine qf F3 rfl (ql B9 rfl (B6 rfl (qp rfl (qa rfl (Ac ?_)))))
     exact Aw _ h (sm [] _ _ rfl rfl)
   ·obtain rfl := sj h
    refine Al (sm [] [(2, .e (.one (.pure (.val (.bool v5)))))] [] rfl rfl) (AC ?_)
    exact ⟨⟨[_], ⟨.tmp _ _ rfl, trivial⟩, rfl⟩, trivial⟩
set_option maxRecDepth 10000 in
theorem NB (N : Nat) (p0 : Ae) (p1 : Af) (r : Bool) (h : Fw N p0 p1 = some r) : AA Try.prog 101 [.e (.agg [.pure (.sl (p0.fVersions.map Ag)), .pure (.sl (p0.fNow.map Ag)), .pure (.sl (p0.fTarget.map Ag)), .pure (.sl (p0.fTables.map Ai))]), .e (.agg [.pure (.val (.int .i64 p1.fKind)), .pure (.val (.int .i64 p1.fIndex)), .pure (.val (.int .i64 p1.fVersion))])] [] (.e (.one (.pure (.val (.bool r))))) := by
 unfold Fw at h
 refine Ao (n := 36) (rs := [.tmp 4]) Try.func101 rfl rfl rfl (BF rfl) (BF rfl) rfl fun w0 S0 => ?_
 refine Ab (Aa Ad rfl (qb rfl (qb rfl (qa rfl (Ac (Ab (Ab (Aa Ad rfl (qf ES rfl (ql B9 rfl (B6 rfl (Ac ?_))))))))))))
 refine As rfl (fun c1 => ?_) (fun c1 => ?_)
 ·have h := Ap c1 h
  refine Ab (Aa Ad rfl (qf Ew rfl (ql B9 rfl (qf CF rfl (ql Gq rfl (AS DO rfl (A8 rfl (qa rfl (Ac ?_)))))))))
  obtain rfl := sj h
  refine Al (sm [] [(4, .e (.one (.pure (.val (.bool ((decide (p1.fIndex < (p0.fTables.length : Int)))))))))] [] rfl rfl) (AC ?_)
  exact ⟨⟨[_], ⟨.tmp _ _ rfl, trivial⟩, rfl⟩, trivial⟩
 ·have h := Aq c1 h
  refine Av ?_
  refine AX h (fun v2 => mk [(4, .e (.one (.pure (.val (.bool v2)))))] []) (fun j2 h => ?_) (fun v2 h => ?_)
  ·refine Aa Ad rfl (qf Ew rfl (ql B9 rfl (qf Br rfl (ql A7 rfl (AS AG rfl (A8 rfl (qm rfl ?_)))))))
   refine AI (t := 20) rfl (fun c3 => ?_) (fun c3 => ?_)
   ·have h := Ap c3 h
    refine qf ES rfl (ql B9 rfl (Co rfl (qm rfl ?_)))
    refine AI (t := 24) rfl (fun c4 => ?_) (fun c4 => ?_)
    ·have h := Ap c4 h
     refine qn rfl (qn rfl (qn rfl (qn rfl (qn rfl (qn rfl (qn rfl (qn rfl (qn rfl (qp rfl (qp rfl (qa rfl (AY (by kernel_rfl) ?_))))))))))))
     exact Aw _ h (sm [] _ _ rfl rfl)
    ·have h := Aq c4 h
     refine qf F3 rfl (ql B9 rfl (qf Br rfl (ql A7 rfl (qf Ew rfl (ql B9 rfl ?_)))))
     obtain ⟨v5, a5, b5, h⟩ := Am h
     refine qi AG Dc a5 (Aj b5) rfl (qk B9 rfl (A8 rfl (qp rfl (qp rfl (qa rfl (AY (by kernel_rfl) ?_))))))
     exact Aw _ h (sm [] _ _ rfl rfl)
   ·have h := Aq c3 h
    refine qn rfl (qn rfl (qn rfl (qn rfl (qu rfl (qu rfl (qu rfl (qu rfl (qu rfl (qu rfl (qu rfl (qu rfl (qu rfl (qn rfl (qp rfl (qa rfl (AY (by kernel_rfl) ?_))))))))))))))))
    exact Aw _ h (sm [] _ _ rfl rfl)
  ·obtain rfl := sj h
   refine Al (sm [] [(4, .e (.one (.pure (.val (.bool v2)))))] [] rfl rfl) (AC ?_)
   exact ⟨⟨[_], ⟨.tmp _ _ rfl, trivial⟩, rfl⟩, trivial⟩
set_option maxRecDepth 10000 in
theorem O2 (N : Nat) (p0 : Ae) (p1 : Ah) (p2 : Af) (r : Ah × Int) (h : F1 N p0 p1 p2 = some r) : AA Try.prog 78 [.e (.agg [.pure (.sl (p0.fVersions.map Ag)), .pure (.sl (p0.fNow.map Ag)), .pure (.sl (p0.fTarget.map Ag)), .pure (.sl (p0.fTables.map Ai))]), .e (.agg [.pure (.sl (p1.fBase.map Ag)), .pure (.sl (p1.fNext.map Ag)), .pure (.sl (p1.fHeld.map A9))]), .e (.agg [.pure (.val (.int .i64 p2.fKind)), .pure (.val (.int .i64 p2.fIndex)), .pure (.val (.int .i64 p2.fVersion))])] [(1, r.1.fBase.map Ag), (1, r.1.fNext.map Ag), (1, r.1.fHeld.map A9)] (.tup [.agg [.own 0, .own 1, .own 2], .one (.pure (.val (.int .i64 r.2)))]) := by
 unfold F1 at h
 refine Ao (n := 32) (rs := [.cell 6 43, .tmp 7]) Try.func78 rfl rfl rfl (BF rfl) (BF rfl) rfl fun w0 S0 => ?_
 refine Ab (Aa Ad rfl (qb rfl (qb rfl (qb rfl (qz C7 rfl (qa rfl (Ac (Ab (AU (Ab (Aa Ad rfl (qL GM Dh rfl ?_))))))))))))
 obtain ⟨v1, a1, h⟩ := bind_some h
 refine AK [] (Ok N p2 v1 a1) Wl rfl (CE rfl (qa rfl (Ac ?_)))
 refine As rfl (fun c2 => ?_) (fun c2 => ?_)
 ·have h := Ap c2 h
  refine Ab (Aa Ad rfl (A6 C7 GD rfl (qs AT rfl (qa rfl (Ac ?_)))))
  obtain rfl := sj h
  refine Al ((AE 6 0 2001 1 _ rfl rfl rfl rfl).trans ((AE 6 1 2002 1 _ rfl rfl rfl rfl).trans ((AE 6 2 2003 1 _ rfl rfl rfl rfl).trans (sm [(1000, 2001), (1001, 2002), (1002, 2003)] [(6, .e (.one (.ptr 6 0))), (7, .e (.one (.pure (.val (.int .i64 1)))))] [(6, .box [.own 1000, .own 1001, .own 1002]), (1000, .vec 1 ((([] : List Int)).map Ag)), (1001, .vec 1 ((([] : List Int)).map Ag)), (1002, .vec 1 ((([] : List Int)).map A9))] rfl rfl)))) (AC ?_)
  exact ⟨⟨[_, _], ⟨.cellN _ _ _ _ _ _ _ rfl rfl Bs AT rfl rfl (Hb rfl), ⟨.tmp _ _ rfl, trivial⟩⟩, rfl⟩, ⟨rfl, rfl, rfl, trivial⟩⟩
 ·have h := Aq c2 h
  refine Ab (Aa Ad rfl (qL Dr CX rfl (qL GM Dh rfl ?_)))
  obtain ⟨v3, a3, h⟩ := bind_some h
  refine AK [] (NB N p0 p2 v3 a3) WF rfl (CE rfl (qa rfl (Ac ?_)))
  refine As rfl (fun c4 => ?_) (fun c4 => ?_)
  ·have h := Ap c4 h
   refine Ab (Aa Ad rfl (A6 C7 GD rfl (qs AT rfl (qa rfl (Ac ?_)))))
   obtain rfl := sj h
   refine Al ((AE 6 0 2004 1 _ rfl rfl rfl rfl).trans ((AE 6 1 2005 1 _ rfl rfl rfl rfl).trans ((AE 6 2 2006 1 _ rfl rfl rfl rfl).trans (sm [(1000, 2004), (1001, 2005), (1002, 2006)] [(6, .e (.one (.ptr 6 0))), (7, .e (.one (.pure (.val (.int .i64 4)))))] [(6, .box [.own 1000, .own 1001, .own 1002]), (1000, .vec 1 ((([] : List Int)).map Ag)), (1001, .vec 1 ((([] : List Int)).map Ag)), (1002, .vec 1 ((([] : List Int)).map A9))] rfl rfl)))) (AC ?_)
   exact ⟨⟨[_, _], ⟨.cellN _ _ _ _ _ _ _ rfl rfl Bs AT rfl rfl (Hb rfl), ⟨.tmp _ _ rfl, trivial⟩⟩, rfl⟩, ⟨rfl, rfl, rfl, trivial⟩⟩
  ·have h := Aq c4 h
   refine Av (Ab (Aa Ad rfl (qL Dr CX rfl (qL Bs AT rfl (qL GM Dh rfl ?_)))))
   obtain ⟨v5, a5, h⟩ := bind_some h
   refine AK [2007, 2008, 2009] (Ln N p0 p1 p2 v5 a5) U3 rfl (qm rfl (qx rfl (qx rfl (qz C7 rfl (qs AT rfl (qa rfl (Ac (Ab (Ab (Aa Ad rfl (qm rfl (CE rfl (Ac ?_)))))))))))))
   refine As rfl (fun c6 => ?_) (fun c6 => ?_)
   ·have h := Ap c6 h
    refine Ab (Aa Ad rfl (A6 C7 GD rfl (qs AT rfl (qa rfl (Ac ?_)))))
    obtain rfl := sj h
    refine Al ((AE 6 0 2010 1 _ rfl rfl rfl rfl).trans ((AE 6 1 2011 1 _ rfl rfl rfl rfl).trans ((AE 6 2 2012 1 _ rfl rfl rfl rfl).trans (sm [(1000, 2010), (1001, 2011), (1002, 2012)] [(6, .e (.one (.ptr 6 0))), (7, .e (.one (.pure (.val (.int .i64 11)))))] [(6, .box [.own 1000, .own 1001, .own 1002]), (1000, .vec 1 ((([] : List Int)).map Ag)), (1001, .vec 1 ((([] : List Int)).map Ag)), (1002, .vec 1 ((([] : List Int)).map A9))] rfl rfl)))) (AC ?_)
    exact ⟨⟨[_, _], ⟨.cellN _ _ _ _ _ _ _ rfl rfl Bs AT rfl rfl (Hb rfl), ⟨.tmp _ _ rfl, trivial⟩⟩, rfl⟩, ⟨rfl, rfl, rfl, trivial⟩⟩
   ·have h := Aq c6 h
    refine Av (Ab (Aa Ad rfl (qL Bs AT rfl (qs AT rfl (qa rfl (Ac ?_))))))
    obtain rfl := sj h
    refine Al (sm [(1000, 2007), (1001, 2008), (1002, 2009)] [(6, .e (.one (.ptr 6 0))), (7, .e (.one (.pure (.val (.int .i64 0)))))] [(6, .box [.own 1000, .own 1001, .own 1002]), (1000, .vec 1 (v5.1.fBase.map Ag)), (1001, .vec 1 (v5.1.fNext.map Ag)), (1002, .vec 1 (v5.1.fHeld.map A9))] rfl rfl) (AC ?_)
    exact ⟨⟨[_, _], ⟨.cellN _ _ _ _ _ _ _ rfl rfl Bs AT rfl rfl (Hb rfl), ⟨.tmp _ _ rfl, trivial⟩⟩, rfl⟩, ⟨rfl, rfl, rfl, trivial⟩⟩
set_option maxRecDepth 10000 in
theorem K3 (N : Nat) (p0 : Ae) (p1 : Ah) (p2 : Af) (r : Ah × Int) (h : Fj N p0 p1 p2 = some r) : AA Try.prog 39 [.e (.agg [.pure (.sl (p0.fVersions.map Ag)), .pure (.sl (p0.fNow.map Ag)), .pure (.sl (p0.fTarget.map Ag)), .pure (.sl (p0.fTables.map Ai))]), .e (.agg [.pure (.sl (p1.fBase.map Ag)), .pure (.sl (p1.fNext.map Ag)), .pure (.sl (p1.fHeld.map A9))]), .e (.agg [.pure (.val (.int .i64 p2.fKind)), .pure (.val (.int .i64 p2.fIndex)), .pure (.val (.int .i64 p2.fVersion))])] [(1, r.1.fBase.map Ag), (1, r.1.fNext.map Ag), (1, r.1.fHeld.map A9)] (.tup [.agg [.own 0, .own 1, .own 2], .one (.pure (.val (.int .i64 r.2)))]) := by
 unfold Fj at h
 refine Ao (n := 22) (rs := [.cell 6 43, .tmp 7]) Try.func39 rfl rfl rfl (BF rfl) (BF rfl) rfl fun w0 S0 => ?_
 refine Ab (Aa Ad rfl (qb rfl (qb rfl (qb rfl (qz C7 rfl (qa rfl (Ac (Ab (Ab (Aa Ad rfl (qL Dr CX rfl (qL Bs AT rfl ?_))))))))))))
 obtain ⟨v1, a1, h⟩ := bind_some h
 refine AK [] (HX N p0 p1 v1 a1) TO rfl (qa rfl (Ac (Ab (Aa Ad rfl (qm rfl (Co rfl (Ac ?_)))))))
 refine As rfl (fun c2 => ?_) (fun c2 => ?_)
 ·have h := Ap c2 h
  refine Ab (Aa Ad rfl (A6 C7 GD rfl (qm rfl (qs AT rfl (qa rfl (Ac ?_))))))
  obtain rfl := sj h
  refine Al ((AE 6 0 2001 1 _ rfl rfl rfl rfl).trans ((AE 6 1 2002 1 _ rfl rfl rfl rfl).trans ((AE 6 2 2003 1 _ rfl rfl rfl rfl).trans (sm [(1000, 2001), (1001, 2002), (1002, 2003)] [(6, .e (.one (.ptr 6 0))), (7, .e (.one (.pure (.val (.int .i64 v1)))))] [(6, .box [.own 1000, .own 1001, .own 1002]), (1000, .vec 1 ((([] : List Int)).map Ag)), (1001, .vec 1 ((([] : List Int)).map Ag)), (1002, .vec 1 ((([] : List Int)).map A9))] rfl rfl)))) (AC ?_)
  exact ⟨⟨[_, _], ⟨.cellN _ _ _ _ _ _ _ rfl rfl Bs AT rfl rfl (Hb rfl), ⟨.tmp _ _ rfl, trivial⟩⟩, rfl⟩, ⟨rfl, rfl, rfl, trivial⟩⟩
 ·have h := Aq c2 h
  refine Av (Ab (Aa Ad rfl (qL Dr CX rfl (qL Bs AT rfl (qL GM Dh rfl ?_)))))
  obtain ⟨v3, a3, h⟩ := bind_some h
  refine AK [2004, 2005, 2006] (O2 N p0 p1 p2 v3 a3) XO rfl (qx rfl (qx rfl (qs AT rfl (qa rfl (Ac ?_)))))
  obtain rfl := sj h
  refine Al (sm [(1000, 2004), (1001, 2005), (1002, 2006)] [(6, .e (.one (.ptr 6 0))), (7, .e (.one (.pure (.val (.int .i64 v3.2)))))] [(6, .box [.own 1000, .own 1001, .own 1002]), (1000, .vec 1 (v3.1.fBase.map Ag)), (1001, .vec 1 (v3.1.fNext.map Ag)), (1002, .vec 1 (v3.1.fHeld.map A9))] rfl rfl) (AC ?_)
  exact ⟨⟨[_, _], ⟨.cellN _ _ _ _ _ _ _ rfl rfl Bs AT rfl rfl (Hb rfl), ⟨.tmp _ _ rfl, trivial⟩⟩, rfl⟩, ⟨rfl, rfl, rfl, trivial⟩⟩
set_option maxRecDepth 10000 in
theorem Nh (N : Nat) (p0 : Ae) (p1 : Ah) (r : (List AD) × Int) (h : Fs N p0 p1 = some r) : AA Try.prog 55 [.e (.agg [.pure (.sl (p0.fVersions.map Ag)), .pure (.sl (p0.fNow.map Ag)), .pure (.sl (p0.fTarget.map Ag)), .pure (.sl (p0.fTables.map Ai))]), .e (.agg [.pure (.sl (p1.fBase.map Ag)), .pure (.sl (p1.fNext.map Ag)), .pure (.sl (p1.fHeld.map A9))])] [] (.tup [.one (.pure (.sl (r.1.map Bb))), .one (.pure (.val (.int .i64 r.2)))]) := by
 unfold Fs at h
 refine Ao (n := 119) (rs := [.tmp 4, .tmp 5]) Try.func55 rfl rfl rfl (BF rfl) (BF rfl) rfl fun w0 S0 => ?_
 refine Ab (Aa Ad rfl (qb rfl (qb rfl (qa rfl (qa rfl (Ac (Ab (Aa Ad rfl (qL Bs AT rfl (A6 Pp U1 rfl ?_))))))))))
 refine Kc [(0, .tmp 21, _)] (.p rfl) rfl ⟨rfl, trivial⟩ rfl Hf I4 Pp rfl rfl (BF rfl) rfl rfl ?_
 refine DY (Oa 22 8 [.s, .s, .s, .s, .s, .s, .s, .x 1 []] _ ((([(AD.mk p1 ((-1)) ((Af.mk 0 0 0)) (([] : List Int)))] : List AD)).map Bb) rfl rfl) (qa rfl (Ac (Ab (Aa Ad rfl ?_))))
 refine RG (.p rfl) rfl ?_
 refine qL Bs AT rfl ?_
 obtain ⟨v1, a1, h⟩ := bind_some h
 refine AK [] (MH N p1 v1 a1) Wv rfl ?_
 refine Ql (kv := Value.string) (vt := Nk) (m := ([] : List (ByteArray × Int))) (k := v1) (v := 0) rfl (.inr rfl) rfl rfl rfl rfl (Ls OQ VG) rfl ?_
 refine qm rfl (qa rfl (Ac (Ab (Ab (Aa Ad rfl (qa rfl (Ac ?_)))))))
 refine AR (L := C4 N p0) h (fun v2 => mk [(2, .e (.one (.ptr 2 0))), (6, .e (.one (.own 2001))), (7, .e (.one (.mref 2002))), (8, .e (.one (.pure (.val (.int .i64 v2.2.2)))))] [(2, .box [.pure (.sl (p0.fVersions.map Ag)), .pure (.sl (p0.fNow.map Ag)), .pure (.sl (p0.fTarget.map Ag)), .pure (.sl (p0.fTables.map Ai))]), (2001, .dvec 8 [.s, .s, .s, .s, .s, .s, .s, .x 1 []] (v2.1.map Bb)), (2002, .mp (HM Value.string Nk v2.2.1))]) (fun v3 => mk [(6, .e (.one (.own 2003)))] [(2003, .dvec 8 [.s, .s, .s, .s, .s, .s, .s, .x 1 []] (v3.map Bb))]) (fun _ _ => rfl) (sm [(2001, 22), (2002, 23)] _ _ rfl rfl) (fun j2 n2 v2 h => ?_) (fun v3 s h hs => ?_)
 ·unfold C4 at h
  refine Ab (Ab (Aa Ad rfl (qm rfl (qm rfl ?_))))
  refine Qn (.p rfl) rfl rfl (JP Bb v2.1 _ _) Hf ?_
  refine A8 rfl (Ac ?_)
  refine As rfl (fun c4 => ?_) (fun c4 => ?_)
  ·have h := Ap c4 h
   refine Av (Ab (AU (Ab (Aa Ad rfl (qL Dr CX rfl (qm rfl (qm rfl ?_)))))))
   obtain ⟨v5, a5, b5, h⟩ := Am h
   refine KT (.p rfl) rfl rfl rfl (JP Bb v2.1 _ _) Hf I4 a5 (AJ b5) ?_
   refine qh M6 rfl ?_
   refine PA (.p rfl) rfl Bs AT rfl (Aj b5) rfl rfl (by decide) rfl ?_
   obtain ⟨v6, a6, h⟩ := bind_some h
   refine AK [2004] (MU N p0 ((Ah.mk v5.fM.fBase v5.fM.fNext v5.fM.fHeld)) v6 a6) XZ rfl (qm rfl (qx rfl (qx rfl (qa rfl (qa rfl (AY (by kernel_rfl) (Ab (Ab (Aa Ad rfl (qm rfl (Co rfl (Ac ?_))))))))))))
   refine As rfl (fun c7 => ?_) (fun c7 => ?_)
   ·have h := Ap c7 h
    refine Ab (Aa Ad rfl (qm rfl (qa rfl (qa rfl (Ac ?_)))))
    obtain rfl := sj h
    refine Al ((Mi 4 _ rfl).trans (sm [] [(4, .e (.one (.pure (.sl ((([] : List AD)).map Bb))))), (5, .e (.one (.pure (.val (.int .i64 v6.2)))))] [] rfl rfl)) (AC ?_)
    exact ⟨⟨[_, _], ⟨.tmp _ _ rfl, ⟨.tmp _ _ rfl, trivial⟩⟩, rfl⟩, trivial⟩
   ·have h := Aq c7 h
    refine Av (Ab (Aa Ad rfl (qm rfl (FD CT rfl (qm rfl (Ac ?_))))))
    refine AR (L := Cf N p0 v2 v6) h (fun v8 => mk [(2, .e (.one (.ptr 2 0))), (6, .e (.one (.own 2005))), (7, .e (.one (.mref 2006))), (8, .e (.one (.pure (.val (.int .i64 v2.2.2))))), (46, .e (.one (.own 2007))), (47, .e (.one (.pure (.val (.int .i64 ((v6.1.length : Int))))))), (48, .e (.one (.pure (.val (.int .i64 v8.2.2)))))] [(2, .box [.pure (.sl (p0.fVersions.map Ag)), .pure (.sl (p0.fNow.map Ag)), .pure (.sl (p0.fTarget.map Ag)), .pure (.sl (p0.fTables.map Ai))]), (2005, .dvec 8 [.s, .s, .s, .s, .s, .s, .s, .x 1 []] (v8.1.map Bb)), (2006, .mp (HM Value.string Nk v8.2.1)), (2007, .vec 3 (v6.1.map Ax))]) (fun v9 => mk [(2, .e (.one (.ptr 2 0))), (6, .e (.one (.own 2008))), (7, .e (.one (.mref 2009))), (8, .e (.one (.pure (.val (.int .i64 v2.2.2)))))] [(2, .box [.pure (.sl (p0.fVersions.map Ag)), .pure (.sl (p0.fNow.map Ag)), .pure (.sl (p0.fTarget.map Ag)), .pure (.sl (p0.fTables.map Ai))]), (2008, .dvec 8 [.s, .s, .s, .s, .s, .s, .s, .x 1 []] (v9.1.map Bb)), (2009, .mp (HM Value.string Nk v9.2))]) (fun _ _ => rfl) (sm [(2005, 2001), (2006, 2002), (2007, 2004)] _ _ rfl rfl) (fun j8 n8 v8 h => ?_) (fun v9 s h hs => ?_)
    ·unfold Cf at h
     refine Ab (Aa Ad rfl (A8 rfl (Ac (Ab ?_))))
     refine As rfl (fun c10 => ?_) (fun c10 => ?_)
     ·have h := Ap c10 h
      refine Av (Ab (AU (Ab (Aa Ad rfl ?_))))
      obtain ⟨v11, a11, b11, h⟩ := Am h
      refine qI CT Dh a11 (Aj b11) rfl (qJ GM Dh (Aj b11) rfl (qz GC rfl (qs Dh rfl (Ac (Ab (Aa Ad rfl (qL Dr CX rfl (qm rfl (qm rfl ?_)))))))))
      obtain ⟨v12, a12, b12, h⟩ := Am h
      refine KT (.p rfl) rfl rfl rfl (JP Bb v8.1 _ _) Hf I4 a12 (AJ b12) ?_
      refine qh M6 rfl ?_
      refine PA (.p rfl) rfl Bs AT rfl (Aj b12) rfl rfl (by decide) rfl ?_
      refine qL GM Dh rfl ?_
      obtain ⟨v13, a13, h⟩ := bind_some h
      refine AK [2010, 2011, 2012] (K3 N p0 ((Ah.mk v12.fM.fBase v12.fM.fNext v12.fM.fHeld)) v11 v13 a13) Xd rfl (qm rfl (qx rfl (qx rfl (qz C7 rfl (qs AT rfl (qa rfl (AY (by kernel_rfl) (Ab (Ab (Aa Ad rfl (qm rfl (Co rfl (Ac ?_)))))))))))))
      refine As rfl (fun c14 => ?_) (fun c14 => ?_)
      ·have h := Ap c14 h
       refine Ab (Aa Ad rfl (qm rfl (qa rfl (qa rfl (Ac ?_)))))
       obtain rfl := sj h
       refine Al ((Mi 4 _ rfl).trans (sm [] [(4, .e (.one (.pure (.sl ((([] : List AD)).map Bb))))), (5, .e (.one (.pure (.val (.int .i64 v13.2)))))] [] rfl rfl)) (AC ?_)
       exact ⟨⟨[_, _], ⟨.tmp _ _ rfl, ⟨.tmp _ _ rfl, trivial⟩⟩, rfl⟩, trivial⟩
      ·have h := Aq c14 h
       refine Av (Ab (Aa Ad rfl (qL Bs AT rfl ?_)))
       obtain ⟨v15, a15, h⟩ := bind_some h
       refine DJ [] [2010, 2011, 2012] (MH N v13.1 v15 a15) Wv Cx rfl (qa rfl (Ac (Ab (Aa Ad rfl (qm rfl (qm rfl ?_))))))
       refine Ty (kv := Value.string) (vt := Nk) (m := v8.2.1) (dv := 0) (.p rfl) rfl rfl rfl (Ls OQ VG) (by rw [OQ]; rfl) J9 rfl rfl rfl ?_
       refine qm rfl (qx rfl (qx rfl (qa rfl (qa rfl (Ac ?_)))))
       refine AX h (fun v16 => mk [(2, .e (.one (.ptr 2 0))), (6, .e (.one (.own 2013))), (7, .e (.one (.mref 2014))), (8, .e (.one (.pure (.val (.int .i64 v2.2.2))))), (16, .e (.one (.pure (.val (.int .i64 v16.2.2))))), (46, .e (.one (.own 2015))), (47, .e (.one (.pure (.val (.int .i64 ((v6.1.length : Int))))))), (48, .e (.one (.pure (.val (.int .i64 v8.2.2)))))] [(2, .box [.pure (.sl (p0.fVersions.map Ag)), .pure (.sl (p0.fNow.map Ag)), .pure (.sl (p0.fTarget.map Ag)), .pure (.sl (p0.fTables.map Ai))]), (2013, .dvec 8 [.s, .s, .s, .s, .s, .s, .s, .x 1 []] (v16.1.map Bb)), (2014, .mp (HM Value.string Nk v16.2.1)), (2015, .vec 3 (v6.1.map Ax))]) (fun j16 h => ?_) (fun v16 h => ?_)
       ·refine Ab (Aa Ad rfl (qm rfl (CE rfl (Ac ?_))))
        refine As rfl (fun c17 => ?_) (fun c17 => ?_)
        ·have h := Ap c17 h
         refine AX h (fun v18 => mk [(2, .e (.one (.ptr 2 0))), (6, .e (.one (.own 2016))), (7, .e (.one (.mref 2017))), (8, .e (.one (.pure (.val (.int .i64 v2.2.2))))), (15, .e (.one (.pure (.val (.string v15))))), (16, .e (.one (.pure (.val (.int .i64 v18.2))))), (46, .e (.one (.own 2018))), (47, .e (.one (.pure (.val (.int .i64 ((v6.1.length : Int))))))), (48, .e (.one (.pure (.val (.int .i64 v8.2.2)))))] [(2, .box [.pure (.sl (p0.fVersions.map Ag)), .pure (.sl (p0.fNow.map Ag)), .pure (.sl (p0.fTarget.map Ag)), .pure (.sl (p0.fTables.map Ai))]), (2016, .dvec 8 [.s, .s, .s, .s, .s, .s, .s, .x 1 []] (v18.1.map Bb)), (2017, .mp (HM Value.string Nk v8.2.1)), (2018, .vec 3 (v6.1.map Ax))]) (fun j18 h => ?_) (fun v18 h => ?_)
         ·refine Ab (Aa Ad rfl (qL Dr CX rfl (qL Bs AT rfl ?_)))
          obtain ⟨v19, a19, h⟩ := bind_some h
          refine DJ [] [2010, 2011, 2012] (KR N p0 v13.1 v19 a19) Xe Cx rfl (qm rfl (qx rfl (qx rfl (qa rfl (qa rfl (Ac ?_))))))
          refine AX h (fun v20 => mk [(2, .e (.one (.ptr 2 0))), (6, .e (.one (.own 2022))), (7, .e (.one (.mref 2023))), (8, .e (.one (.pure (.val (.int .i64 v2.2.2))))), (12, .e (.one (.ptr 12 0))), (13, .e (.one (.ptr 13 0))), (15, .e (.one (.pure (.val (.string v15))))), (46, .e (.one (.own 2024))), (47, .e (.one (.pure (.val (.int .i64 ((v6.1.length : Int))))))), (48, .e (.one (.pure (.val (.int .i64 v8.2.2))))), (87, .e (.one (.pure (.val (.bool v20)))))] [(2, .box [.pure (.sl (p0.fVersions.map Ag)), .pure (.sl (p0.fNow.map Ag)), .pure (.sl (p0.fTarget.map Ag)), .pure (.sl (p0.fTables.map Ai))]), (12, .box [.pure (.val (.int .i64 v11.fKind)), .pure (.val (.int .i64 v11.fIndex)), .pure (.val (.int .i64 v11.fVersion))]), (13, .box [.own 2019, .own 2020, .own 2021]), (2019, .vec 1 (v13.1.fBase.map Ag)), (2020, .vec 1 (v13.1.fNext.map Ag)), (2021, .vec 1 (v13.1.fHeld.map A9)), (2022, .dvec 8 [.s, .s, .s, .s, .s, .s, .s, .x 1 []] (v8.1.map Bb)), (2023, .mp (HM Value.string Nk v8.2.1)), (2024, .vec 3 (v6.1.map Ax))]) (fun j20 h => ?_) (fun v20 h => ?_)
          ·refine Aa Ad rfl (qm rfl (Co rfl (qm rfl ?_)))
           refine AI (t := 84) rfl (fun c21 => ?_) (fun c21 => ?_)
           ·have h := Ap c21 h
            refine qn rfl (qn rfl (qp rfl (Ac ?_)))
            exact Aw _ h (sm [(2019, 2010), (2020, 2011), (2021, 2012), (2022, 2005), (2023, 2006), (2024, 2007)] _ _ rfl rfl)
           ·have h := Aq c21 h
            refine qm rfl (CE rfl (qp rfl (Ac ?_)))
            exact Aw _ h (sm [(2019, 2010), (2020, 2011), (2021, 2012), (2022, 2005), (2023, 2006), (2024, 2007)] _ _ rfl rfl)
          ·refine As rfl (fun c22 => ?_) (fun c22 => ?_)
           ·have h := Ap c22 h
            refine Aa Ad rfl (qa rfl (Ac ?_))
            exact Aw _ h (sm [(2016, 2022), (2017, 2023), (2018, 2024)] _ _ rfl rfl)
           ·have h := Aq c22 h
            refine Ab (Aa Ad rfl (qm rfl ?_))
            refine Qn (.p rfl) rfl rfl (JP Bb v8.1 _ _) Hf ?_
            refine qa rfl (Ac (Aa Ad rfl (qm rfl (qL Bs AT rfl (qm rfl (qL GM Dh rfl (A6 Pp U1 rfl (DY (BV 2019 _ _ rfl rfl) (DY (BV 2020 _ _ rfl rfl) (DY (BV 2021 _ _ rfl rfl) ?_))))))))))
            refine Kc [(0, .tmp 94, _)] (.p rfl) rfl ⟨rfl, trivial⟩ rfl Hf I4 Pp rfl rfl (BF rfl) rfl rfl ?_
            refine DY (Oa 95 8 [.s, .s, .s, .s, .s, .s, .s, .x 1 []] _ ((([(AD.mk v13.1 v2.2.2 v11 (([] : List Int)))] : List AD)).map Bb) rfl rfl) ?_
            obtain ⟨c23, h⟩ := AO h
            refine R2 (.p rfl) rfl rfl rfl rfl rfl (by decide) Hf Hf I4 VM (BF rfl) Pp rfl (TJ (f := Bb) (g := Bb) (xs := v8.1) (ys := (([(AD.mk v13.1 v2.2.2 v11 (([] : List Int)))] : List AD))) c23) (Ur Bb v8.1 (([(AD.mk v13.1 v2.2.2 v11 (([] : List Int)))] : List AD))) rfl rfl ?_
            refine qa rfl (Ac ?_)
            exact Aw _ h (sm [(2016, 96), (2017, 2023), (2018, 2024)] _ _ rfl rfl)
         ·refine Aa Ad rfl (qm rfl (qm rfl (qm rfl ?_)))
          refine Ql (kv := Value.string) (vt := Nk) (m := v8.2.1) (k := v15) (v := v18.2) rfl (.inl rfl) rfl rfl rfl rfl (Ls OQ VG) rfl ?_
          refine Ac ?_
          exact Aw _ h (sm [(2013, 2016), (2014, 2017), (2015, 2018)] _ _ rfl rfl)
        ·have h := Aq c17 h
         refine Av ?_
         exact Aw _ h (sm [(2013, 2005), (2014, 2006), (2015, 2007)] _ _ rfl rfl)
       ·refine AX h (fun v24 => mk [(2, .e (.one (.ptr 2 0))), (6, .e (.one (.own 2025))), (7, .e (.one (.mref 2026))), (8, .e (.one (.pure (.val (.int .i64 v2.2.2))))), (46, .e (.one (.own 2027))), (47, .e (.one (.pure (.val (.int .i64 ((v6.1.length : Int))))))), (48, .e (.one (.pure (.val (.int .i64 v8.2.2)))))] [(2, .box [.pure (.sl (p0.fVersions.map Ag)), .pure (.sl (p0.fNow.map Ag)), .pure (.sl (p0.fTarget.map Ag)), .pure (.sl (p0.fTables.map Ai))]), (2025, .dvec 8 [.s, .s, .s, .s, .s, .s, .s, .x 1 []] (v24.map Bb)), (2026, .mp (HM Value.string Nk v16.2.1)), (2027, .vec 3 (v6.1.map Ax))]) (fun j24 h => ?_) (fun v24 h => ?_)
        ·refine Ab (Aa Ad rfl (qm rfl (Ez rfl (Ac ?_))))
         refine As rfl (fun c25 => ?_) (fun c25 => ?_)
         ·have h := Ap c25 h
          refine Aa Ad rfl (qm rfl (qm rfl (qm rfl (qm rfl ?_))))
          obtain ⟨v26, a26, b26, h⟩ := Am h
          refine KT (.p rfl) rfl rfl rfl (JP Bb v16.1 _ _) Hf I4 a26 (AJ b26) ?_
          refine qh Pj rfl ?_
          refine VB (.p rfl) rfl A7 rfl (Aj b26) rfl rfl rfl rfl ?_
          refine qm rfl (Ep AG Dc J9 rfl ?_)
          obtain ⟨c27, h⟩ := AO h
          refine Dx (f := Ag) AG AG Dc K8 J9 c27 rfl ?_
          obtain ⟨v28, a28, b28, h⟩ := Am h
          refine KT (.p rfl) rfl rfl rfl (Vc Bb v16.1 _ _ _ _ _) Hf I4 a28 (AJ b28) ?_
          refine qh Pj rfl ?_
          refine SJ rfl rfl rfl rfl (rows2 := (v26.fNext ++ (([v16.2.2] : List Int))).map Ag) (cols2 := []) rfl rfl (Aj b28) (by decide) RQ rfl rfl (DL Bb v16.1 _ ((AD.mk ((Ah.mk v28.fM.fBase v28.fM.fNext v28.fM.fHeld)) v28.fFrom ((Af.mk v28.fBy.fKind v28.fBy.fIndex v28.fBy.fVersion)) (v26.fNext ++ (([v16.2.2] : List Int)))))) ?_
          refine Ac ?_
          exact Aw _ h (sm [(2025, 2013), (2026, 2014), (2027, 2015)] _ _ rfl rfl)
         ·have h := Aq c25 h
          refine Av ?_
          exact Aw _ h (sm [(2025, 2013), (2026, 2014), (2027, 2015)] _ _ rfl rfl)
        ·refine Ab (Aa Ad rfl (qm rfl ?_))
         refine Qn (.p rfl) rfl rfl (JP Bb v24 _ _) Hf ?_
         refine Ge rfl (Ac ?_)
         refine As rfl (fun c29 => ?_) (fun c29 => ?_)
         ·have h := Ap c29 h
          refine Ab (Aa Ad rfl (qa rfl (qa rfl (Ac ?_))))
          obtain rfl := sj h
          refine Al ((Mi 4 _ rfl).trans (sm [] [(4, .e (.one (.pure (.sl ((([] : List AD)).map Bb))))), (5, .e (.one (.pure (.val (.int .i64 3)))))] [] rfl rfl)) (AC ?_)
          exact ⟨⟨[_, _], ⟨.tmp _ _ rfl, ⟨.tmp _ _ rfl, trivial⟩⟩, rfl⟩, trivial⟩
         ·have h := Aq c29 h
          refine Av (Aa Ad rfl (Bn rfl (qm rfl (Ac ?_))))
          exact Aw _ h (sm [(2005, 2025), (2006, 2026), (2007, 2027)] _ _ rfl rfl)
     ·have h := Aq c10 h
      refine A4 ?_
      exact Aw _ h (sm [(2008, 2005), (2009, 2006)] _ _ rfl rfl)
    ·refine Al hs (Aa Ad rfl (qm rfl (Bn rfl (qa rfl (Ac ?_)))))
     exact Aw _ h (sm [(2001, 2008), (2002, 2009)] _ _ rfl rfl)
  ·have h := Aq c4 h
   refine A4 ?_
   exact Aw _ h (sm [(2003, 2001)] _ _ rfl rfl)
 ·refine Al hs (Ab (Aa Ad rfl (qm rfl (qa rfl (qa rfl (Ac ?_))))))
  obtain rfl := sj h
  refine Al ((RE 2003 _ _ _ rfl rfl).trans (sm [] [(4, .e (.one (.pure (.sl (v3.map Bb))))), (5, .e (.one (.pure (.val (.int .i64 0)))))] [] rfl rfl)) (AC ?_)
  exact ⟨⟨[_, _], ⟨.tmp _ _ rfl, ⟨.tmp _ _ rfl, trivial⟩⟩, rfl⟩, trivial⟩
set_option maxRecDepth 10000 in
theorem IU (N : Nat) (p0 : List Int) (p1 : List Int) (r : Bool) (h : Do N p0 p1 = some r) : AA Try.prog 65 [.e (.one (.pure (.sl (p0.map Ag)))), .e (.one (.pure (.sl (p1.map Ag))))] [] (.e (.one (.pure (.val (.bool r))))) := by
 unfold Do at h
 refine Ao (n := 26) (rs := [.tmp 4]) Try.func65 rfl rfl rfl (BF rfl) (BF rfl) rfl fun w0 S0 => ?_
 refine Ab (Aa Ad rfl (qa rfl (Ac (Ab (Ab (Aa Ad rfl (qm rfl (AS AG rfl (qm rfl (AS AG rfl (Co rfl (Ac ?_))))))))))))
 refine As rfl (fun c1 => ?_) (fun c1 => ?_)
 ·have h := Ap c1 h
  refine Ab (Aa Ad rfl (qa rfl (Ac ?_)))
  obtain rfl := sj h
  refine Al (sm [] [(4, .e (.one (.pure (.val (.bool false)))))] [] rfl rfl) (AC ?_)
  exact ⟨⟨[_], ⟨.tmp _ _ rfl, trivial⟩, rfl⟩, trivial⟩
 ·have h := Aq c1 h
  refine Av (Ab (Ab (Aa Ad rfl (qm rfl (AS AG rfl (qm rfl (Ac ?_)))))))
  refine AR (L := B1 N p0 p1) h (fun v2 => mk [(0, .e (.one (.pure (.sl (p0.map Ag))))), (1, .e (.one (.pure (.sl (p1.map Ag))))), (12, .e (.one (.pure (.val (.int .i64 ((p0.length : Int))))))), (13, .e (.one (.pure (.val (.int .i64 v2)))))] []) (fun v3 => mk [] []) (fun _ _ => rfl) (sm [] _ _ rfl rfl) (fun j2 n2 v2 h => ?_) (fun v3 s h hs => ?_)
  ·unfold B1 at h
   refine Ab (Aa Ad rfl (A8 rfl (Ac (Ab ?_))))
   refine As rfl (fun c4 => ?_) (fun c4 => ?_)
   ·have h := Ap c4 h
    refine Av (Ab (AU (Ab (Aa Ad rfl (qm rfl (qa rfl (Ac (Ab (Aa Ad rfl (qm rfl (qm rfl ?_)))))))))))
    obtain ⟨v5, a5, b5, h⟩ := Am h
    refine qi AG Dc a5 (Aj b5) rfl (qk B9 rfl (qm rfl (qm rfl ?_)))
    obtain ⟨v6, a6, b6, h⟩ := Am h
    refine qi AG Dc a6 (Aj b6) rfl (qk B9 rfl (Co rfl (AY (by kernel_rfl) ?_)))
    refine As rfl (fun c7 => ?_) (fun c7 => ?_)
    ·have h := Ap c7 h
     refine Ab (Aa Ad rfl (qa rfl (Ac ?_)))
     obtain rfl := sj h
     refine Al (sm [] [(4, .e (.one (.pure (.val (.bool false)))))] [] rfl rfl) (AC ?_)
     exact ⟨⟨[_], ⟨.tmp _ _ rfl, trivial⟩, rfl⟩, trivial⟩
    ·have h := Aq c7 h
     refine Av (Aa Ad rfl (Bn rfl (qm rfl (Ac ?_))))
     exact Aw _ h (sm [] _ _ rfl rfl)
   ·have h := Aq c4 h
    refine A4 ?_
    exact Aw _ h (sm [] _ _ rfl rfl)
  ·refine Al hs (Ab (Aa Ad rfl (qa rfl (Ac ?_))))
   obtain rfl := sj h
   refine Al (sm [] [(4, .e (.one (.pure (.val (.bool true)))))] [] rfl rfl) (AC ?_)
   exact ⟨⟨[_], ⟨.tmp _ _ rfl, trivial⟩, rfl⟩, trivial⟩
set_option maxRecDepth 10000 in
theorem HJ (N : Nat) (p0 : List Int) (p1 : Int → Option Bool) (r : Int) (h : Du N p0 p1 = some r) : AA Try.prog 92 [.e (.one (.pure (.sl (p0.map Ag)))), .e (.one (.clo (Id (L2 false Ag) tB p1)))] [] (.e (.one (.pure (.val (.int .i64 r))))) := by
 unfold Du at h
 refine Ao (n := 19) (rs := [.tmp 4]) Try.func92 rfl rfl rfl (BF rfl) (BF rfl) rfl fun w0 S0 => ?_
 refine Ab (Aa Ad rfl (qa rfl (Ac (Ab (Ab (Aa Ad rfl (qm rfl (AS AG rfl (qm rfl (Ac ?_))))))))))
 refine AR (L := Be N p0 p1) h (fun v1 => mk [(0, .e (.one (.pure (.sl (p0.map Ag))))), (1, .e (.one (.clo (Id (L2 false Ag) tB p1)))), (7, .e (.one (.pure (.val (.int .i64 ((p0.length : Int))))))), (8, .e (.one (.pure (.val (.int .i64 v1)))))] []) (fun v2 => mk [] []) (fun _ _ => rfl) (sm [] _ _ rfl rfl) (fun j1 n1 v1 h => ?_) (fun v2 s h hs => ?_)
 ·unfold Be at h
  refine Ab (Aa Ad rfl (A8 rfl (Ac (Ab ?_))))
  refine As rfl (fun c3 => ?_) (fun c3 => ?_)
  ·have h := Ap c3 h
   refine Av (Ab (AU (Ab (Aa Ad rfl (qm rfl (qa rfl (Ac (Ab (Aa Ad rfl (qm rfl (qm rfl (qm rfl ?_))))))))))))
   obtain ⟨v4, a4, b4, h⟩ := Am h
   refine qi AG Dc a4 (Aj b4) rfl (qk B9 rfl ?_)
   obtain ⟨v5, a5, h⟩ := bind_some h
   refine KL (ds0 := [_]) (ar := (L2 false Ag) v4) (.p rfl) rfl rfl ⟨rfl, trivial⟩ rfl rfl rfl (La (KS _ _ Oj) a5) ?_
   refine Ac ?_
   refine As rfl (fun c6 => ?_) (fun c6 => ?_)
   ·have h := Ap c6 h
    refine Ab (Aa Ad rfl (qm rfl (qa rfl (Ac ?_))))
    obtain rfl := sj h
    refine Al (sm [] [(4, .e (.one (.pure (.val (.int .i64 v1)))))] [] rfl rfl) (AC ?_)
    exact ⟨⟨[_], ⟨.tmp _ _ rfl, trivial⟩, rfl⟩, trivial⟩
   ·have h := Aq c6 h
    refine Av (Aa Ad rfl (Bn rfl (qm rfl (Ac ?_))))
    exact Aw _ h (sm [] _ _ rfl rfl)
  ·have h := Aq c3 h
   refine A4 ?_
   exact Aw _ h (sm [] _ _ rfl rfl)
 ·refine Al hs (Ab (Aa Ad rfl (qa rfl (Ac ?_))))
  obtain rfl := sj h
  refine Al (sm [] [(4, .e (.one (.pure (.val (.int .i64 ((-1)))))))] [] rfl rfl) (AC ?_)
  exact ⟨⟨[_], ⟨.tmp _ _ rfl, trivial⟩, rfl⟩, trivial⟩
set_option maxRecDepth 10000 in
theorem G5 (N : Nat) (p0 : List Int) (p1 : Int → Option Bool) (r : Bool) (h : Cq N p0 p1 = some r) : AA Try.prog 66 [.e (.one (.pure (.sl (p0.map Ag)))), .e (.one (.clo (Id (L2 false Ag) tB p1)))] [] (.e (.one (.pure (.val (.bool r))))) := by
 unfold Cq at h
 refine Ao (n := 9) (rs := [.tmp 4]) Try.func66 rfl rfl rfl (BF rfl) (BF rfl) rfl fun w0 S0 => ?_
 refine Ab (Aa Ad rfl (qa rfl (Ac (Ab (Aa Ad rfl (qm rfl (qm rfl ?_)))))))
 obtain ⟨v1, a1, h⟩ := bind_some h
 refine AK [] (HJ N p0 p1 v1 a1) XA rfl (Ez rfl (qa rfl (Ac ?_)))
 obtain rfl := sj h
 refine Al (sm [] [(4, .e (.one (.pure (.val (.bool ((decide (0 ≤ v1))))))))] [] rfl rfl) (AC ?_)
 exact ⟨⟨[_], ⟨.tmp _ _ rfl, trivial⟩, rfl⟩, trivial⟩
set_option maxRecDepth 10000 in
theorem OL (N : Nat) (p0 : Int) (r : Bool) (h : F0 N p0 = some r) : AA Try.prog 79 [.e (.one (.pure (.val (.int .i64 p0))))] [] (.e (.one (.pure (.val (.bool r))))) := by
 unfold F0 at h
 refine Ao (n := 5) (rs := [.tmp 2]) Try.func79 rfl rfl rfl (BF rfl) (BF rfl) rfl fun w0 S0 => ?_
 refine Ab (Aa Ad rfl (qa rfl (Ac (Ab (Aa Ad rfl (qm rfl (Ez rfl (qa rfl (Ac ?_)))))))))
 obtain rfl := sj h
 refine Al (sm [] [(2, .e (.one (.pure (.val (.bool ((decide (0 ≤ p0))))))))] [] rfl rfl) (AC ?_)
 exact ⟨⟨[_], ⟨.tmp _ _ rfl, trivial⟩, rfl⟩, trivial⟩
set_option maxRecDepth 10000 in
theorem Nc (N : Nat) (p0 : Ae) (p1 : Ah) (r : Bool) (h : Fz N p0 p1 = some r) : AA Try.prog 40 [.e (.agg [.pure (.sl (p0.fVersions.map Ag)), .pure (.sl (p0.fNow.map Ag)), .pure (.sl (p0.fTarget.map Ag)), .pure (.sl (p0.fTables.map Ai))]), .e (.agg [.pure (.sl (p1.fBase.map Ag)), .pure (.sl (p1.fNext.map Ag)), .pure (.sl (p1.fHeld.map A9))])] [] (.e (.one (.pure (.val (.bool r))))) := by
 unfold Fz at h
 refine Ao (n := 22) (rs := [.tmp 4]) Try.func40 rfl rfl rfl (BF rfl) (BF rfl) rfl fun w0 S0 => ?_
 refine Ab (Aa Ad rfl (qb rfl (qb rfl (qa rfl (Ac ?_)))))
 refine AX h (fun v1 => mk [(4, .e (.one (.pure (.val (.bool v1)))))] []) (fun j1 h => ?_) (fun v1 h => ?_)
 ·refine Aa Ad rfl (qL Dr CX rfl (qL Bs AT rfl ?_))
  obtain ⟨v2, a2, h⟩ := bind_some h
  refine AK [] (HX N p0 p1 v2 a2) TO rfl (B6 rfl (qm rfl ?_))
  refine AI (t := 9) rfl (fun c3 => ?_) (fun c3 => ?_)
  ·have h := Ap c3 h
   refine qf CB rfl (ql A7 rfl (qf Hp rfl (ql A7 rfl ?_)))
   obtain ⟨v4, a4, h⟩ := bind_some h
   refine AK [] (IU N p1.fBase p0.fTarget v4 a4) XK rfl (qp rfl (qm rfl ?_))
   refine AI (t := 16) rfl (fun c5 => ?_) (fun c5 => ?_)
   ·have h := Ap c5 h
    refine qf Bz rfl (ql A7 rfl ?_)
    obtain ⟨v6, a6, h⟩ := bind_some h
    refine AK [] (AA.weak (ds' := [.e (.one (.pure (.sl (p1.fNext.map Ag)))), .e (.one (.fnc 79))]) (G5 N p1.fNext ((fun (x : Int) => F0 N x)) v6 a6) ⟨(fun _ _ _ hh => hh), (fun _ _ _ hh => Ud Xn (fun ar t ht => by obtain ⟨x, r, rfl, hq, rfl⟩ := JK ht; exact OL N x r hq) hh), trivial⟩) X9 rfl ?_
    refine CE rfl (qp rfl (qa rfl (Ac ?_)))
    exact Aw _ h (sm [] _ _ rfl rfl)
   ·have h := Aq c5 h
    refine qn rfl (qn rfl (qn rfl (qn rfl (qp rfl (qa rfl (Ac ?_))))))
    exact Aw _ h (sm [] _ _ rfl rfl)
  ·have h := Aq c3 h
   refine qn rfl (qn rfl (qn rfl (qn rfl (qn rfl (qp rfl (qm rfl (qn rfl (qn rfl (qn rfl (qn rfl (qp rfl (qa rfl (Ac ?_)))))))))))))
   exact Aw _ h (sm [] _ _ rfl rfl)
 ·obtain rfl := sj h
  refine Al (sm [] [(4, .e (.one (.pure (.val (.bool v1)))))] [] rfl rfl) (AC ?_)
  exact ⟨⟨[_], ⟨.tmp _ _ rfl, trivial⟩, rfl⟩, trivial⟩
set_option maxRecDepth 10000 in
theorem Nn (N : Nat) (p0 : AD) (p1 : List Int) (p2 : List Int) (p3 : List Int) (p4 : List AF) (r : Bool) (h : D3 N p0 p1 p2 p3 p4 = some r) : AA Try.prog 57 [.e (.agg [.pure (.sl (p0.fM.fBase.map Ag)), .pure (.sl (p0.fM.fNext.map Ag)), .pure (.sl (p0.fM.fHeld.map A9)), .pure (.val (.int .i64 p0.fFrom)), .pure (.val (.int .i64 p0.fBy.fKind)), .pure (.val (.int .i64 p0.fBy.fIndex)), .pure (.val (.int .i64 p0.fBy.fVersion)), .pure (.sl (p0.fNext.map Ag))]), .e (.one (.rop [.sl (p1.map Ag), .sl (p2.map Ag), .sl (p3.map Ag), .sl (p4.map Ai)]))] [] (.e (.one (.pure (.val (.bool r))))) := by
 unfold D3 at h
 refine Ao (n := 8) (rs := [.tmp 3]) Try.func57 rfl rfl rfl (BF rfl) (BF rfl) rfl fun w0 S0 => ?_
 refine Ab (Aa Ad rfl (qb rfl (qa rfl (Ac (Ab (Aa Ad rfl (qK Dr CX rfl (qf M6 rfl (qL Bs AT rfl ?_)))))))))
 obtain ⟨v1, a1, h⟩ := bind_some h
 refine AK [] (Nc N ((Ae.mk p1 p2 p3 p4)) ((Ah.mk p0.fM.fBase p0.fM.fNext p0.fM.fHeld)) v1 a1) WN rfl (qa rfl (Ac ?_))
 obtain rfl := sj h
 refine Al (sm [] [(3, .e (.one (.pure (.val (.bool v1)))))] [] rfl rfl) (AC ?_)
 exact ⟨⟨[_], ⟨.tmp _ _ rfl, trivial⟩, rfl⟩, trivial⟩
set_option maxRecDepth 10000 in
theorem Fx (N : Nat) (p0 : List AD) (p1 : AD → Option Bool) (r : Int) (h : B8 N p0 p1 = some r) : AA Try.prog 56 [.e (.one (.pure (.sl (p0.map Bb)))), .e (.one (.clo (Id (L2 true Bb) tB p1)))] [] (.e (.one (.pure (.val (.int .i64 r))))) := by
 unfold B8 at h
 refine Ao (n := 19) (rs := [.tmp 4]) Try.func56 rfl rfl rfl (BF rfl) (BF rfl) rfl fun w0 S0 => ?_
 refine Ab (Aa Ad rfl (qa rfl (Ac (Ab (Ab (Aa Ad rfl (qm rfl (AS Hf rfl (qm rfl (Ac ?_))))))))))
 refine AR (L := AV N p0 p1) h (fun v1 => mk [(0, .e (.one (.pure (.sl (p0.map Bb))))), (1, .e (.one (.clo (Id (L2 true Bb) tB p1)))), (7, .e (.one (.pure (.val (.int .i64 ((p0.length : Int))))))), (8, .e (.one (.pure (.val (.int .i64 v1)))))] []) (fun v2 => mk [] []) (fun _ _ => rfl) (sm [] _ _ rfl rfl) (fun j1 n1 v1 h => ?_) (fun v2 s h hs => ?_)
 ·unfold AV at h
  refine Ab (Aa Ad rfl (A8 rfl (Ac (Ab ?_))))
  refine As rfl (fun c3 => ?_) (fun c3 => ?_)
  ·have h := Ap c3 h
   refine Av (Ab (AU (Ab (Aa Ad rfl (qm rfl (qa rfl (Ac (Ab (Aa Ad rfl (qm rfl (qm rfl (qm rfl ?_))))))))))))
   obtain ⟨v4, a4, b4, h⟩ := Am h
   refine qi Hf I4 a4 (Aj b4) rfl (qK W9 I4 rfl ?_)
   obtain ⟨v5, a5, h⟩ := bind_some h
   refine KL (ds0 := [_]) (ar := (L2 true Bb) ((AD.mk ((Ah.mk v4.fM.fBase v4.fM.fNext v4.fM.fHeld)) v4.fFrom ((Af.mk v4.fBy.fKind v4.fBy.fIndex v4.fBy.fVersion)) v4.fNext))) (.p rfl) rfl rfl ⟨rfl, trivial⟩ rfl rfl rfl (La (KS _ _ PS) a5) ?_
   refine Ac ?_
   refine As rfl (fun c6 => ?_) (fun c6 => ?_)
   ·have h := Ap c6 h
    refine Ab (Aa Ad rfl (qm rfl (qa rfl (Ac ?_))))
    obtain rfl := sj h
    refine Al (sm [] [(4, .e (.one (.pure (.val (.int .i64 v1)))))] [] rfl rfl) (AC ?_)
    exact ⟨⟨[_], ⟨.tmp _ _ rfl, trivial⟩, rfl⟩, trivial⟩
   ·have h := Aq c6 h
    refine Av (Aa Ad rfl (Bn rfl (qm rfl (Ac ?_))))
    exact Aw _ h (sm [] _ _ rfl rfl)
  ·have h := Aq c3 h
   refine A4 ?_
   exact Aw _ h (sm [] _ _ rfl rfl)
 ·refine Al hs (Ab (Aa Ad rfl (qa rfl (Ac ?_))))
  obtain rfl := sj h
  refine Al (sm [] [(4, .e (.one (.pure (.val (.int .i64 ((-1)))))))] [] rfl rfl) (AC ?_)
  exact ⟨⟨[_], ⟨.tmp _ _ rfl, trivial⟩, rfl⟩, trivial⟩
set_option maxRecDepth 10000 in
theorem Ga (N : Nat) (p0 : List Af) (r : (List Af)) (h : Bq N p0 = some r) : FH Try.prog 88 [.e (.one (.own 90000))] [(.vec 3 (p0.map Ax), .vec 3 (r.map Ax))] [] (.tup []) := by
 unfold Bq at h
 refine Gw (n := 28) (rs := []) Try.func88 rfl rfl rfl (BF rfl) (BF rfl) rfl rfl (BF rfl) rfl (BF rfl) fun w0 S0 GL => WP ?_
 refine Al (sm [] [(0, .e (.one (.own 90000)))] [(90000, .vec 3 (p0.map Ax))] rfl rfl) (Ab (Aa Ad rfl (qm rfl (FD CT rfl (PD rfl (qa rfl (qa rfl (Ac ?_))))))))
 refine AR (L := Bh N) h (fun v1 => mk [(0, .e (.one (.own 90000))), (2, .e (.one (.pure (.val (.int .i64 v1.2.1))))), (3, .e (.one (.pure (.val (.int .i64 v1.2.2)))))] [(90000, .vec 3 (v1.1.map Ax))]) (fun v2 => mk [] [(90000, .vec 3 (v2.map Ax))]) (fun _ _ => rfl) (sm [] _ _ rfl rfl) (fun j1 n1 v1 h => ?_) (fun v2 s h hs => ?_)
 ·unfold Bh at h
  refine Ab (Ab (Aa Ad rfl (qm rfl (qm rfl (A8 rfl (Ac ?_))))))
  refine As rfl (fun c3 => ?_) (fun c3 => ?_)
  ·have h := Ap c3 h
   refine Av (Ab (AU (Aa Ad rfl (qm rfl (qm rfl (qm rfl (qm rfl (qm rfl (qm rfl ?_)))))))))
   obtain ⟨v4, a4, b4, h⟩ := Am h
   refine qI CT Dh a4 (Aj b4) rfl (qJ GM Dh (Aj b4) rfl (qm rfl (qm rfl ?_)))
   obtain ⟨v5, a5, b5, h⟩ := Am h
   refine qI CT Dh a5 (Aj b5) rfl (qJ GM Dh (Aj b5) rfl ?_)
   obtain ⟨v6, a6, b6, h⟩ := Am h
   refine qI CT Dh a6 (Aj b6) rfl ?_
   refine D8 rfl rfl rfl rfl (Aj b6) rfl Dh rfl (BF rfl) (DL Ax v1.1 _ v4) ?_
   obtain ⟨v7, a7, b7, h⟩ := Am h
   refine qI CT Dh a7 (Aj b7) rfl ?_
   refine D8 rfl rfl rfl rfl (Aj b7) rfl Dh rfl (BF rfl) (DL Ax (v1.1.set ((v1.2.1).toNat) v4) _ v5) ?_
   refine AY (by kernel_rfl) (Aa Ad rfl (qm rfl (Bn rfl (qm rfl (PD rfl (qa rfl (qa rfl (Ac ?_))))))))
   exact Aw _ h (sm [] _ _ rfl rfl)
  ·have h := Aq c3 h
   refine A4 ?_
   exact Aw _ h (sm [] _ _ rfl rfl)
 ·obtain rfl := sj h
  refine ⟨_, hs.trans (sm [] [] [(90000, .vec 3 (v2.map Ax))] rfl rfl), ?_⟩
  exact ⟨⟨[], trivial, rfl⟩, ⟨rfl, trivial⟩, trivial⟩
set_option maxRecDepth 10000 in
theorem QM (N : Nat) (p0 : List AD) (p1 : Int) (r : (List Af)) (h : H4 N p0 p1 = some r) : AA Try.prog 58 [.e (.one (.pure (.sl (p0.map Bb)))), .e (.one (.pure (.val (.int .i64 p1))))] [(3, r.map Ax)] (.e (.one (.own 0))) := by
 unfold H4 at h
 refine Ao (n := 28) (rs := [.tmp 4]) Try.func58 rfl rfl rfl (BF rfl) (BF rfl) rfl fun w0 S0 => ?_
 refine Ab (Aa Ad rfl (qa rfl (Ac (Ab (Aa Ad rfl (qa rfl (Ac (Ab ?_))))))))
 refine AR (L := EX N p0) h (fun v1 => mk [(0, .e (.one (.pure (.sl (p0.map Bb))))), (1, .e (.one (.pure (.val (.int .i64 v1.1))))), (5, .e (.one (.own 2001)))] [(2001, .vec 3 (v1.2.map Ax))]) (fun v2 => mk [(5, .e (.one (.own 2002)))] [(2002, .vec 3 (v2.map Ax))]) (fun _ _ => rfl) ((By 5 2003 3 rfl rfl rfl).trans (sm [(2001, 2003)] _ _ rfl rfl)) (fun j1 n1 v1 h => ?_) (fun v2 s h hs => ?_)
 ·unfold EX at h
  refine Ab (Ab (Aa Ad rfl (qm rfl (qm rfl ?_))))
  obtain ⟨v3, a3, b3, h⟩ := Am h
  refine qi Hf I4 a3 (Aj b3) rfl (qg PF rfl (qk B9 rfl (Ez rfl (Ac ?_))))
  refine As rfl (fun c4 => ?_) (fun c4 => ?_)
  ·have h := Ap c4 h
   refine Av (Ab (AU (Aa Ad rfl (qm rfl (qm rfl (qm rfl ?_))))))
   obtain ⟨v5, a5, b5, h⟩ := Am h
   refine qi Hf I4 a5 (Aj b5) rfl (qg Sm rfl (qK GM Dh rfl (Ep CT Dh GC rfl ?_)))
   obtain ⟨c6, h⟩ := AO h
   refine Dx (f := Ax) CT CT Dh NZ GC c6 rfl (qa rfl (Ac (Aa Ad rfl (qm rfl (qm rfl ?_)))))
   obtain ⟨v7, a7, b7, h⟩ := Am h
   refine qi Hf I4 a7 (Aj b7) rfl (qg PF rfl (qk B9 rfl (qa rfl (Ac ?_))))
   exact Aw _ h (sm [(2001, 24)] _ _ rfl rfl)
  ·have h := Aq c4 h
   refine A4 ?_
   exact Aw _ h (sm [(2002, 2001)] _ _ rfl rfl)
 ·refine Al hs (Ab (Aa Ad rfl (qm rfl ?_)))
  obtain ⟨v8, a8, h⟩ := bind_some h
  refine Me (ds0 := [_]) [2002] [] [true] (Ga N v2 v8 a8) (.p rfl) XV rfl ⟨rfl, trivial⟩ rfl rfl (by decide) ⟨rfl, trivial⟩ rfl (HW rfl) trivial ⟨(fun h => by cases h), trivial⟩ rfl rfl rfl ?_
  refine Ac (Ab (Aa Ad rfl (qm rfl (qa rfl (Ac ?_)))))
  obtain rfl := sj h
  refine Al (sm [(1000, 2002)] [(4, .e (.one (.own 1000)))] [(1000, .vec 3 (v8.map Ax))] rfl rfl) (AC ?_)
  exact ⟨⟨[_], ⟨.tmp _ _ rfl, trivial⟩, rfl⟩, ⟨rfl, trivial⟩⟩
set_option maxRecDepth 10000 in
theorem P3 (N : Nat) (p0 : Ae) (p1 : Ah) (r : (List Af) × Int) (h : EH N p0 p1 = some r) : AA Try.prog 27 [.e (.agg [.pure (.sl (p0.fVersions.map Ag)), .pure (.sl (p0.fNow.map Ag)), .pure (.sl (p0.fTarget.map Ag)), .pure (.sl (p0.fTables.map Ai))]), .e (.agg [.pure (.sl (p1.fBase.map Ag)), .pure (.sl (p1.fNext.map Ag)), .pure (.sl (p1.fHeld.map A9))])] [(3, r.1.map Ax)] (.tup [.one (.own 0), .one (.pure (.val (.int .i64 r.2)))]) := by
 unfold EH at h
 refine Ao (n := 38) (rs := [.tmp 4, .tmp 5]) Try.func27 rfl rfl rfl (BF rfl) (BF rfl) rfl fun w0 S0 => ?_
 refine Ab (Aa Ad rfl (qb rfl (qb rfl (qa rfl (qa rfl (Ac (Ab (Aa Ad rfl (qL Dr CX rfl (qL Bs AT rfl ?_))))))))))
 obtain ⟨v1, a1, h⟩ := bind_some h
 refine AK [] (KR N p0 p1 v1 a1) Xe rfl (qm rfl (qx rfl (qx rfl (qa rfl (qa rfl (Ac (Ab (Ab (Aa Ad rfl (qm rfl (Co rfl (Ac ?_))))))))))))
 refine As rfl (fun c2 => ?_) (fun c2 => ?_)
 ·have h := Ap c2 h
  refine Ab (Aa Ad rfl (qm rfl (qa rfl (qa rfl (Ac ?_)))))
  obtain rfl := sj h
  refine Al ((By 4 2001 3 rfl rfl rfl).trans (sm [(1000, 2001)] [(4, .e (.one (.own 1000))), (5, .e (.one (.pure (.val (.int .i64 v1.2)))))] [(1000, .vec 3 ((([] : List Af)).map Ax))] rfl rfl)) (AC ?_)
  exact ⟨⟨[_, _], ⟨.tmp _ _ rfl, ⟨.tmp _ _ rfl, trivial⟩⟩, rfl⟩, ⟨rfl, trivial⟩⟩
 ·have h := Aq c2 h
  refine Av (Ab (Ab (Aa Ad rfl (qm rfl (CE rfl (Ac ?_))))))
  refine As rfl (fun c3 => ?_) (fun c3 => ?_)
  ·have h := Ap c3 h
   refine Ab (Aa Ad rfl (qa rfl (qa rfl (Ac ?_))))
   obtain rfl := sj h
   refine Al ((By 4 2002 3 rfl rfl rfl).trans (sm [(1000, 2002)] [(4, .e (.one (.own 1000))), (5, .e (.one (.pure (.val (.int .i64 13)))))] [(1000, .vec 3 ((([] : List Af)).map Ax))] rfl rfl)) (AC ?_)
   exact ⟨⟨[_, _], ⟨.tmp _ _ rfl, ⟨.tmp _ _ rfl, trivial⟩⟩, rfl⟩, ⟨rfl, trivial⟩⟩
  ·have h := Aq c3 h
   refine Av (Ab (Aa Ad rfl (qL Dr CX rfl (qL Bs AT rfl ?_))))
   obtain ⟨v4, a4, h⟩ := bind_some h
   refine AK [] (Nh N p0 p1 v4 a4) Xo rfl (qm rfl (qx rfl (qx rfl (qa rfl (qa rfl (Ac (Ab (Ab (Aa Ad rfl (qm rfl (Co rfl (Ac ?_))))))))))))
   refine As rfl (fun c5 => ?_) (fun c5 => ?_)
   ·have h := Ap c5 h
    refine Ab (Aa Ad rfl (qm rfl (qa rfl (qa rfl (Ac ?_)))))
    obtain rfl := sj h
    refine Al ((By 4 2003 3 rfl rfl rfl).trans (sm [(1000, 2003)] [(4, .e (.one (.own 1000))), (5, .e (.one (.pure (.val (.int .i64 v4.2)))))] [(1000, .vec 3 ((([] : List Af)).map Ax))] rfl rfl)) (AC ?_)
    exact ⟨⟨[_, _], ⟨.tmp _ _ rfl, ⟨.tmp _ _ rfl, trivial⟩⟩, rfl⟩, ⟨rfl, trivial⟩⟩
   ·have h := Aq c5 h
    refine Av (Ab (Aa Ad rfl (qm rfl (DY (Lj 2 [.sl (p0.fVersions.map Ag), .sl (p0.fNow.map Ag), .sl (p0.fTarget.map Ag), .sl (p0.fTables.map Ai)] rfl rfl) ?_))))
    refine Kn (capD := [_]) (Id (L2 true Bb) tB ((fun (x : AD) => D3 N x p0.fVersions p0.fNow p0.fTarget p0.fTables))) (.p rfl) X7 rfl ⟨rfl, trivial⟩ rfl (fun ar t ht => by obtain ⟨x, r, rfl, hq, rfl⟩ := JK ht; exact Nn N x p0.fVersions p0.fNow p0.fTarget p0.fTables r hq) ?_
    obtain ⟨v6, a6, h⟩ := bind_some h
    refine AK [] (Fx N v4.1 ((fun (x : AD) => D3 N x p0.fVersions p0.fNow p0.fTarget p0.fTables)) v6 a6) XB rfl (qa rfl (Ac (Ab (Ab (Aa Ad rfl (qm rfl (A8 rfl (Ac ?_))))))))
    refine As rfl (fun c7 => ?_) (fun c7 => ?_)
    ·have h := Ap c7 h
     refine Ab (Aa Ad rfl (qa rfl (qa rfl (Ac ?_))))
     obtain rfl := sj h
     refine Al ((By 4 2004 3 rfl rfl rfl).trans (sm [(1000, 2004)] [(4, .e (.one (.own 1000))), (5, .e (.one (.pure (.val (.int .i64 14)))))] [(1000, .vec 3 ((([] : List Af)).map Ax))] rfl rfl)) (AC ?_)
     exact ⟨⟨[_, _], ⟨.tmp _ _ rfl, ⟨.tmp _ _ rfl, trivial⟩⟩, rfl⟩, ⟨rfl, trivial⟩⟩
    ·have h := Aq c7 h
     refine Av (Ab (Aa Ad rfl (qm rfl (qm rfl ?_))))
     obtain ⟨v8, a8, h⟩ := bind_some h
     refine AK [2005] (QM N v4.1 v6 v8 a8) XQ rfl (qa rfl (qa rfl (Ac ?_)))
     obtain rfl := sj h
     refine Al (sm [(1000, 2005)] [(4, .e (.one (.own 1000))), (5, .e (.one (.pure (.val (.int .i64 0)))))] [(1000, .vec 3 (v8.map Ax))] rfl rfl) (AC ?_)
     exact ⟨⟨[_, _], ⟨.tmp _ _ rfl, ⟨.tmp _ _ rfl, trivial⟩⟩, rfl⟩, ⟨rfl, trivial⟩⟩
set_option maxRecDepth 10000 in
theorem H7 (N : Nat) (p0 : Ae) (r : (List Af) × Int) (h : EI N p0 = some r) : AA Try.prog 13 [.e (.agg [.pure (.sl (p0.fVersions.map Ag)), .pure (.sl (p0.fNow.map Ag)), .pure (.sl (p0.fTarget.map Ag)), .pure (.sl (p0.fTables.map Ai))])] [(3, r.1.map Ax)] (.tup [.one (.own 0), .one (.pure (.val (.int .i64 r.2)))]) := by
 unfold EI at h
 refine Ao (n := 19) (rs := [.tmp 2, .tmp 3]) Try.func13 rfl rfl rfl (BF rfl) (BF rfl) rfl fun w0 S0 => ?_
 refine Ab (Aa Ad rfl (qb rfl (qa rfl (qa rfl (Ac (Ab (Aa Ad rfl (qL Dr CX rfl ?_))))))))
 obtain ⟨v1, a1, h⟩ := bind_some h
 refine AK [2001, 2002, 2003] (LO N p0 v1 a1) WA rfl (qm rfl (qx rfl (qx rfl (qz C7 rfl (qs AT rfl (qa rfl (Ac (Ab (Ab (Aa Ad rfl (qm rfl (Co rfl (Ac ?_)))))))))))))
 refine As rfl (fun c2 => ?_) (fun c2 => ?_)
 ·have h := Ap c2 h
  refine Ab (Aa Ad rfl (qm rfl (qa rfl (qa rfl (Ac ?_)))))
  obtain rfl := sj h
  refine Al ((By 2 2004 3 rfl rfl rfl).trans (sm [(1000, 2004)] [(2, .e (.one (.own 1000))), (3, .e (.one (.pure (.val (.int .i64 v1.2)))))] [(1000, .vec 3 ((([] : List Af)).map Ax))] rfl rfl)) (AC ?_)
  exact ⟨⟨[_, _], ⟨.tmp _ _ rfl, ⟨.tmp _ _ rfl, trivial⟩⟩, rfl⟩, ⟨rfl, trivial⟩⟩
 ·have h := Aq c2 h
  refine Av (Ab (Aa Ad rfl (qL Dr CX rfl (qL Bs AT rfl ?_))))
  obtain ⟨v3, a3, h⟩ := bind_some h
  refine DJ [2005] [2001, 2002, 2003] (P3 N p0 v1.1 v3 a3) Xu (Fc (fun _ => rfl) Cx) rfl (qx rfl (qx rfl (qa rfl (qa rfl (Ac ?_)))))
  obtain rfl := sj h
  refine Al (sm [(1000, 2005)] [(2, .e (.one (.own 1000))), (3, .e (.one (.pure (.val (.int .i64 v3.2)))))] [(1000, .vec 3 (v3.1.map Ax))] rfl rfl) (AC ?_)
  exact ⟨⟨[_, _], ⟨.tmp _ _ rfl, ⟨.tmp _ _ rfl, trivial⟩⟩, rfl⟩, ⟨rfl, trivial⟩⟩
set_option maxRecDepth 10000 in
theorem Jj (N : Nat) (p0 : Ae) (p1 : List Af) (r : Int × Ah × An × Int) (h : EB N p0 p1 = some r) : AA Try.prog 19 [.e (.agg [.pure (.sl (p0.fVersions.map Ag)), .pure (.sl (p0.fNow.map Ag)), .pure (.sl (p0.fTarget.map Ag)), .pure (.sl (p0.fTables.map Ai))]), .e (.one (.pure (.sl (p1.map Ax))))] [] (.tup [.one (.pure (.val (.int .i64 r.1))), .agg [.pure (.sl (r.2.1.fBase.map Ag)), .pure (.sl (r.2.1.fNext.map Ag)), .pure (.sl (r.2.1.fHeld.map A9))], .agg [.pure (.val (.int .i64 r.2.2.1.fTable)), .pure (.val (.int .i64 r.2.2.1.fWriter)), .pure (.val (.int .i64 r.2.2.1.fReader))], .one (.pure (.val (.int .i64 r.2.2.2)))]) := by
 unfold EB at h
 refine Ao (n := 89) (rs := [.tmp 4, .cell 5 43, .cell 6 45, .tmp 7]) Try.func19 rfl rfl rfl (BF rfl) (BF rfl) rfl fun w0 S0 => ?_
 refine Ab (Aa Ad rfl (qb rfl (qa rfl (qz C7 rfl (qz GV rfl (qa rfl (Ac (Ab (Aa Ad rfl (qL Dr CX rfl ?_))))))))))
 obtain ⟨v1, a1, h⟩ := bind_some h
 refine AK [2001, 2002, 2003] (LO N p0 v1 a1) WA rfl (qm rfl (qx rfl (qx rfl (qz C7 rfl (qs AT rfl (qa rfl (Ac (Ab (Ab (Aa Ad rfl (qm rfl (Co rfl (Ac ?_)))))))))))))
 refine As rfl (fun c2 => ?_) (fun c2 => ?_)
 ·have h := Ap c2 h
  refine Ab (Aa Ad rfl (A6 C7 GD rfl (A6 GV Mw rfl (qm rfl (qa rfl (qs AT rfl (qs Fp rfl (qa rfl (Ac ?_)))))))))
  obtain rfl := sj h
  refine Al ((Hs 5 _ rfl).trans (sm [] [(4, .e (.one (.pure (.val (.int .i64 0))))), (5, .e (.one (.ptr 5 0))), (6, .e (.one (.ptr 6 0))), (7, .e (.one (.pure (.val (.int .i64 v1.2)))))] [(5, .box [.pure (.sl ((([] : List Int)).map Ag)), .pure (.sl ((([] : List Int)).map Ag)), .pure (.sl ((([] : List Int)).map A9))]), (6, .box [.pure (.val (.int .i64 0)), .pure (.val (.int .i64 0)), .pure (.val (.int .i64 0))])] rfl rfl)) (AC ?_)
  exact ⟨⟨[_, _, _, _], ⟨.tmp _ _ rfl, ⟨.cellN _ _ _ _ _ _ _ rfl rfl Bs AT rfl rfl (Hb rfl), ⟨.cellN _ _ _ _ _ _ _ rfl rfl Lq Fp rfl rfl (Hb rfl), ⟨.tmp _ _ rfl, trivial⟩⟩⟩⟩, rfl⟩, trivial⟩
 ·have h := Aq c2 h
  refine Av (Ab (Ab (Aa Ad rfl (qL Dr CX rfl (qL Bs AT rfl (DY (BV 2001 _ _ rfl rfl) (DY (BV 2002 _ _ rfl rfl) (DY (BV 2003 _ _ rfl rfl) ?_))))))))
  obtain ⟨v3, a3, h⟩ := bind_some h
  refine AK [] (Jx N p0 v1.1 v3 a3) VP rfl (qm rfl (qx rfl (qx rfl (qx rfl (qz C7 rfl (qz GV rfl (qs AT rfl (qs Fp rfl (qa rfl (Ac (Ab (Aa Ad rfl (qm rfl (B6 rfl (Ac ?_)))))))))))))))
  refine As rfl (fun c4 => ?_) (fun c4 => ?_)
  ·have h := Ap c4 h
   refine Ab (Aa Ad rfl (qL Bs AT rfl (qL Lq Fp rfl (qa rfl (qs AT rfl (qs Fp rfl (qa rfl (AY (by kernel_rfl) ?_))))))))
   obtain rfl := sj h
   refine Al (sm [] [(4, .e (.one (.pure (.val (.int .i64 ((-1))))))), (5, .e (.one (.ptr 5 0))), (6, .e (.one (.ptr 6 0))), (7, .e (.one (.pure (.val (.int .i64 0)))))] [(5, .box [.pure (.sl (v3.1.fBase.map Ag)), .pure (.sl (v3.1.fNext.map Ag)), .pure (.sl (v3.1.fHeld.map A9))]), (6, .box [.pure (.val (.int .i64 v3.2.1.fTable)), .pure (.val (.int .i64 v3.2.1.fWriter)), .pure (.val (.int .i64 v3.2.1.fReader))])] rfl rfl) (AC ?_)
   exact ⟨⟨[_, _, _, _], ⟨.tmp _ _ rfl, ⟨.cellN _ _ _ _ _ _ _ rfl rfl Bs AT rfl rfl (Hb rfl), ⟨.cellN _ _ _ _ _ _ _ rfl rfl Lq Fp rfl rfl (Hb rfl), ⟨.tmp _ _ rfl, trivial⟩⟩⟩⟩, rfl⟩, trivial⟩
  ·have h := Aq c4 h
   refine Av (Ab (Ab (Aa Ad rfl (qm rfl (AS CT rfl (qm rfl (Ac ?_)))))))
   refine AR (L := DU N p0 p1) h (fun v5 => mk [(1, .e (.one (.pure (.sl (p1.map Ax))))), (2, .e (.one (.ptr 2 0))), (5, .e (.one (.ptr 5 0))), (6, .e (.one (.ptr 6 0))), (8, .e (.one (.ptr 8 0))), (41, .e (.one (.pure (.sl (p1.map Ax))))), (42, .e (.one (.pure (.val (.int .i64 ((p1.length : Int))))))), (43, .e (.one (.pure (.val (.int .i64 v5.2)))))] [(2, .box [.pure (.sl (p0.fVersions.map Ag)), .pure (.sl (p0.fNow.map Ag)), .pure (.sl (p0.fTarget.map Ag)), .pure (.sl (p0.fTables.map Ai))]), (5, .box [.pure (.nil0), .pure (.nil0), .pure (.nil0)]), (6, .box [.pure (.val (.int .i64 0)), .pure (.val (.int .i64 0)), .pure (.val (.int .i64 0))]), (8, .box [.pure (.sl (v5.1.fBase.map Ag)), .pure (.sl (v5.1.fNext.map Ag)), .pure (.sl (v5.1.fHeld.map A9))])]) (fun v6 => mk [(1, .e (.one (.pure (.sl (p1.map Ax))))), (2, .e (.one (.ptr 2 0))), (5, .e (.one (.ptr 5 0))), (6, .e (.one (.ptr 6 0))), (8, .e (.one (.ptr 8 0)))] [(2, .box [.pure (.sl (p0.fVersions.map Ag)), .pure (.sl (p0.fNow.map Ag)), .pure (.sl (p0.fTarget.map Ag)), .pure (.sl (p0.fTables.map Ai))]), (5, .box [.pure (.nil0), .pure (.nil0), .pure (.nil0)]), (6, .box [.pure (.val (.int .i64 0)), .pure (.val (.int .i64 0)), .pure (.val (.int .i64 0))]), (8, .box [.pure (.sl (v6.fBase.map Ag)), .pure (.sl (v6.fNext.map Ag)), .pure (.sl (v6.fHeld.map A9))])]) (fun _ _ => rfl) (sm [] _ _ rfl rfl) (fun j5 n5 v5 h => ?_) (fun v6 s h hs => ?_)
   ·unfold DU at h
    refine Ab (Aa Ad rfl (A8 rfl (Ac (Ab ?_))))
    refine As rfl (fun c7 => ?_) (fun c7 => ?_)
    ·have h := Ap c7 h
     refine Av (Ab (AU (Ab (Aa Ad rfl (qm rfl ?_)))))
     obtain ⟨v8, a8, b8, h⟩ := Am h
     refine qi CT Dh a8 (Aj b8) rfl (qK GM Dh rfl (qz GC rfl (qa rfl (qs Dh rfl (Ac (Ab (Aa Ad rfl (qL Dr CX rfl (qL Bs AT rfl (qL GM Dh rfl ?_))))))))))
     obtain ⟨v9, a9, h⟩ := bind_some h
     refine AK [2004, 2005, 2006] (K3 N p0 v5.1 v8 v9 a9) Xd rfl (qm rfl (qx rfl (qx rfl (qz C7 rfl (qs AT rfl (qa rfl (Ac (Ab ?_))))))))
     refine AX h (fun v10 => mk [(1, .e (.one (.pure (.sl (p1.map Ax))))), (2, .e (.one (.ptr 2 0))), (5, .e (.one (.ptr 5 0))), (6, .e (.one (.ptr 6 0))), (8, .e (.one (.ptr 8 0))), (13, .e (.one (.pure (.val (.int .i64 v5.2))))), (15, .e (.one (.ptr 15 0))), (41, .e (.one (.pure (.sl (p1.map Ax))))), (42, .e (.one (.pure (.val (.int .i64 ((p1.length : Int))))))), (43, .e (.one (.pure (.val (.int .i64 v5.2))))), (61, .e (.one (.pure (.val (.bool v10)))))] [(2, .box [.pure (.sl (p0.fVersions.map Ag)), .pure (.sl (p0.fNow.map Ag)), .pure (.sl (p0.fTarget.map Ag)), .pure (.sl (p0.fTables.map Ai))]), (5, .box [.pure (.nil0), .pure (.nil0), .pure (.nil0)]), (6, .box [.pure (.val (.int .i64 0)), .pure (.val (.int .i64 0)), .pure (.val (.int .i64 0))]), (8, .box [.pure (.sl (v5.1.fBase.map Ag)), .pure (.sl (v5.1.fNext.map Ag)), .pure (.sl (v5.1.fHeld.map A9))]), (15, .box [.own 2007, .own 2008, .own 2009]), (2007, .vec 1 (v9.1.fBase.map Ag)), (2008, .vec 1 (v9.1.fNext.map Ag)), (2009, .vec 1 (v9.1.fHeld.map A9))]) (fun j10 h => ?_) (fun v10 h => ?_)
     ·refine Aa Ad rfl (qm rfl (Co rfl (qm rfl ?_)))
      refine AI (t := 57) rfl (fun c11 => ?_) (fun c11 => ?_)
      ·have h := Ap c11 h
       refine qn rfl (qn rfl (qn rfl (qp rfl (Ac ?_))))
       exact Aw _ h (sm [(2007, 2004), (2008, 2005), (2009, 2006)] _ _ rfl rfl)
      ·have h := Aq c11 h
       refine qf ES rfl (ql B9 rfl (B6 rfl (qp rfl (Ac ?_))))
       exact Aw _ h (sm [(2007, 2004), (2008, 2005), (2009, 2006)] _ _ rfl rfl)
     ·refine As rfl (fun c12 => ?_) (fun c12 => ?_)
      ·have h := Ap c12 h
       refine Ab (Aa Ad rfl (qm rfl (A6 C7 GD rfl (A6 GV Mw rfl (qa rfl (qs AT rfl (qs Fp rfl (qa rfl (Ac ?_)))))))))
       obtain rfl := sj h
       refine Al ((Hs 5 _ rfl).trans (sm [] [(4, .e (.one (.pure (.val (.int .i64 v5.2))))), (5, .e (.one (.ptr 5 0))), (6, .e (.one (.ptr 6 0))), (7, .e (.one (.pure (.val (.int .i64 0)))))] [(5, .box [.pure (.sl ((([] : List Int)).map Ag)), .pure (.sl ((([] : List Int)).map Ag)), .pure (.sl ((([] : List Int)).map A9))]), (6, .box [.pure (.val (.int .i64 0)), .pure (.val (.int .i64 0)), .pure (.val (.int .i64 0))])] rfl rfl)) (AC ?_)
       exact ⟨⟨[_, _, _, _], ⟨.tmp _ _ rfl, ⟨.cellN _ _ _ _ _ _ _ rfl rfl Bs AT rfl rfl (Hb rfl), ⟨.cellN _ _ _ _ _ _ _ rfl rfl Lq Fp rfl rfl (Hb rfl), ⟨.tmp _ _ rfl, trivial⟩⟩⟩⟩, rfl⟩, trivial⟩
      ·have h := Aq c12 h
       refine Av (Ab (Ab (Aa Ad rfl (qL Dr CX rfl (qL Bs AT rfl (DY (BV 2007 _ _ rfl rfl) (DY (BV 2008 _ _ rfl rfl) (DY (BV 2009 _ _ rfl rfl) ?_))))))))
       obtain ⟨v13, a13, h⟩ := bind_some h
       refine AK [] (Jx N p0 v9.1 v13 a13) VP rfl (qm rfl (qx rfl (qx rfl (qx rfl (qz C7 rfl (qz GV rfl (qs AT rfl (qs Fp rfl (qa rfl (Ac (Ab (Aa Ad rfl (qm rfl (B6 rfl (Ac ?_)))))))))))))))
       refine As rfl (fun c14 => ?_) (fun c14 => ?_)
       ·have h := Ap c14 h
        refine Ab (Aa Ad rfl (qm rfl (qL Bs AT rfl (qL Lq Fp rfl (qa rfl (qs AT rfl (qs Fp rfl (qa rfl (AY (by kernel_rfl) ?_)))))))))
        obtain rfl := sj h
        refine Al (sm [] [(4, .e (.one (.pure (.val (.int .i64 v5.2))))), (5, .e (.one (.ptr 5 0))), (6, .e (.one (.ptr 6 0))), (7, .e (.one (.pure (.val (.int .i64 0)))))] [(5, .box [.pure (.sl (v13.1.fBase.map Ag)), .pure (.sl (v13.1.fNext.map Ag)), .pure (.sl (v13.1.fHeld.map A9))]), (6, .box [.pure (.val (.int .i64 v13.2.1.fTable)), .pure (.val (.int .i64 v13.2.1.fWriter)), .pure (.val (.int .i64 v13.2.1.fReader))])] rfl rfl) (AC ?_)
        exact ⟨⟨[_, _, _, _], ⟨.tmp _ _ rfl, ⟨.cellN _ _ _ _ _ _ _ rfl rfl Bs AT rfl rfl (Hb rfl), ⟨.cellN _ _ _ _ _ _ _ rfl rfl Lq Fp rfl rfl (Hb rfl), ⟨.tmp _ _ rfl, trivial⟩⟩⟩⟩, rfl⟩, trivial⟩
       ·have h := Aq c14 h
        refine Av (Aa Ad rfl (qL Bs AT rfl (qs AT rfl (Ac (Aa Ad rfl (Bn rfl (qm rfl (Ac ?_))))))))
        exact Aw _ h (sm [] _ _ rfl rfl)
    ·have h := Aq c7 h
     refine A4 ?_
     exact Aw _ h (sm [] _ _ rfl rfl)
   ·refine Al hs (Ab (Ab (Aa Ad rfl (qL Dr CX rfl (qL Bs AT rfl ?_)))))
    obtain ⟨v15, a15, h⟩ := bind_some h
    refine AK [] (Nc N p0 v6 v15 a15) WN rfl (CE rfl (Ac ?_))
    refine As rfl (fun c16 => ?_) (fun c16 => ?_)
    ·have h := Ap c16 h
     refine Ab (Aa Ad rfl (qm rfl (AS CT rfl (A6 C7 GD rfl (A6 GV Mw rfl (qa rfl (qs AT rfl (qs Fp rfl (qa rfl (Ac ?_))))))))))
     obtain rfl := sj h
     refine Al ((Hs 5 _ rfl).trans (sm [] [(4, .e (.one (.pure (.val (.int .i64 ((p1.length : Int))))))), (5, .e (.one (.ptr 5 0))), (6, .e (.one (.ptr 6 0))), (7, .e (.one (.pure (.val (.int .i64 14)))))] [(5, .box [.pure (.sl ((([] : List Int)).map Ag)), .pure (.sl ((([] : List Int)).map Ag)), .pure (.sl ((([] : List Int)).map A9))]), (6, .box [.pure (.val (.int .i64 0)), .pure (.val (.int .i64 0)), .pure (.val (.int .i64 0))])] rfl rfl)) (AC ?_)
     exact ⟨⟨[_, _, _, _], ⟨.tmp _ _ rfl, ⟨.cellN _ _ _ _ _ _ _ rfl rfl Bs AT rfl rfl (Hb rfl), ⟨.cellN _ _ _ _ _ _ _ rfl rfl Lq Fp rfl rfl (Hb rfl), ⟨.tmp _ _ rfl, trivial⟩⟩⟩⟩, rfl⟩, trivial⟩
    ·have h := Aq c16 h
     refine Av (Ab (Aa Ad rfl (A6 C7 GD rfl (A6 GV Mw rfl (qa rfl (qs AT rfl (qs Fp rfl (qa rfl (Ac ?_)))))))))
     obtain rfl := sj h
     refine Al ((Hs 5 _ rfl).trans (sm [] [(4, .e (.one (.pure (.val (.int .i64 0))))), (5, .e (.one (.ptr 5 0))), (6, .e (.one (.ptr 6 0))), (7, .e (.one (.pure (.val (.int .i64 15)))))] [(5, .box [.pure (.sl ((([] : List Int)).map Ag)), .pure (.sl ((([] : List Int)).map Ag)), .pure (.sl ((([] : List Int)).map A9))]), (6, .box [.pure (.val (.int .i64 0)), .pure (.val (.int .i64 0)), .pure (.val (.int .i64 0))])] rfl rfl)) (AC ?_)
     exact ⟨⟨[_, _, _, _], ⟨.tmp _ _ rfl, ⟨.cellN _ _ _ _ _ _ _ rfl rfl Bs AT rfl rfl (Hb rfl), ⟨.cellN _ _ _ _ _ _ _ rfl rfl Lq Fp rfl rfl (Hb rfl), ⟨.tmp _ _ rfl, trivial⟩⟩⟩⟩, rfl⟩, trivial⟩
set_option maxRecDepth 10000 in
theorem HG (N : Nat) (p0 : List Af) (p1 : List Af) (r : Bool) (h : DE N p0 p1 = some r) : AA Try.prog 15 [.e (.one (.pure (.sl (p0.map Ax)))), .e (.one (.pure (.sl (p1.map Ax))))] [] (.e (.one (.pure (.val (.bool r))))) := by
 unfold DE at h
 refine Ao (n := 26) (rs := [.tmp 4]) Try.func15 rfl rfl rfl (BF rfl) (BF rfl) rfl fun w0 S0 => ?_
 refine Ab (Aa Ad rfl (qa rfl (Ac (Ab (Ab (Aa Ad rfl (qm rfl (AS CT rfl (qm rfl (AS CT rfl (Co rfl (Ac ?_))))))))))))
 refine As rfl (fun c1 => ?_) (fun c1 => ?_)
 ·have h := Ap c1 h
  refine Ab (Aa Ad rfl (qa rfl (Ac ?_)))
  obtain rfl := sj h
  refine Al (sm [] [(4, .e (.one (.pure (.val (.bool false)))))] [] rfl rfl) (AC ?_)
  exact ⟨⟨[_], ⟨.tmp _ _ rfl, trivial⟩, rfl⟩, trivial⟩
 ·have h := Aq c1 h
  refine Av (Ab (Ab (Aa Ad rfl (qa rfl (Ac ?_)))))
  refine AR (L := CC N p0 p1) h (fun v2 => mk [(0, .e (.one (.pure (.sl (p0.map Ax))))), (1, .e (.one (.pure (.sl (p1.map Ax))))), (5, .e (.one (.pure (.val (.int .i64 v2)))))] []) (fun v3 => mk [] []) (fun _ _ => rfl) (sm [] _ _ rfl rfl) (fun j2 n2 v2 h => ?_) (fun v3 s h hs => ?_)
  ·unfold CC at h
   refine Ab (Ab (Aa Ad rfl (qm rfl (qm rfl (AS CT rfl (A8 rfl (Ac ?_)))))))
   refine As rfl (fun c4 => ?_) (fun c4 => ?_)
   ·have h := Ap c4 h
    refine Av (Ab (AU (Ab (Aa Ad rfl (qm rfl (qm rfl ?_))))))
    obtain ⟨v5, a5, b5, h⟩ := Am h
    refine qi CT Dh a5 (Aj b5) rfl (qK GM Dh rfl (qm rfl (qm rfl ?_)))
    obtain ⟨v6, a6, b6, h⟩ := Am h
    refine qi CT Dh a6 (Aj b6) rfl (qK GM Dh rfl ?_)
    refine W4 [.int .i64 v5.fKind, .int .i64 v5.fIndex, .int .i64 v5.fVersion] [.int .i64 v6.fKind, .int .i64 v6.fIndex, .int .i64 v6.fVersion] (.p rfl) rfl rfl Wg rfl ?_
    refine AY (by kernel_rfl) ?_
    refine As rfl (fun c7 => ?_) (fun c7 => ?_)
    ·have h := Ap c7 h
     refine Ab (Aa Ad rfl (qa rfl (Ac ?_)))
     obtain rfl := sj h
     refine Al (sm [] [(4, .e (.one (.pure (.val (.bool false)))))] [] rfl rfl) (AC ?_)
     exact ⟨⟨[_], ⟨.tmp _ _ rfl, trivial⟩, rfl⟩, trivial⟩
    ·have h := Aq c7 h
     refine Av (Aa Ad rfl (qm rfl (Bn rfl (qa rfl (Ac ?_)))))
     exact Aw _ h (sm [] _ _ rfl rfl)
   ·have h := Aq c4 h
    refine A4 ?_
    exact Aw _ h (sm [] _ _ rfl rfl)
  ·refine Al hs (Ab (Aa Ad rfl (qa rfl (Ac ?_))))
   obtain rfl := sj h
   refine Al (sm [] [(4, .e (.one (.pure (.val (.bool true)))))] [] rfl rfl) (AC ?_)
   exact ⟨⟨[_], ⟨.tmp _ _ rfl, trivial⟩, rfl⟩, trivial⟩
set_option maxRecDepth 10000 in
theorem KJ (N : Nat) (p0 : Ae) (p1 : List Af) (r : Bool) (h : Fi N p0 p1 = some r) : AA Try.prog 16 [.e (.agg [.pure (.sl (p0.fVersions.map Ag)), .pure (.sl (p0.fNow.map Ag)), .pure (.sl (p0.fTarget.map Ag)), .pure (.sl (p0.fTables.map Ai))]), .e (.one (.pure (.sl (p1.map Ax))))] [] (.e (.one (.pure (.val (.bool r))))) := by
 unfold Fi at h
 refine Ao (n := 19) (rs := [.tmp 4]) Try.func16 rfl rfl rfl (BF rfl) (BF rfl) rfl fun w0 S0 => ?_
 refine Ab (Aa Ad rfl (qb rfl (qa rfl (Ac (Ab (Aa Ad rfl (qL Dr CX rfl (qm rfl ?_))))))))
 obtain ⟨v1, a1, h⟩ := bind_some h
 refine AK [] (Jj N p0 p1 v1 a1) V6 rfl (qm rfl (qx rfl (qx rfl (qx rfl (qx rfl (qz C7 rfl (qz GV rfl (qa rfl (qs AT rfl (qs Fp rfl (qa rfl (Ac (Ab (Aa Ad rfl (qm rfl (B6 rfl (qa rfl (Ac ?_))))))))))))))))))
 obtain rfl := sj h
 refine Al (sm [] [(4, .e (.one (.pure (.val (.bool ((v1.2.2.2 == 15)))))))] [] rfl rfl) (AC ?_)
 exact ⟨⟨[_], ⟨.tmp _ _ rfl, trivial⟩, rfl⟩, trivial⟩
set_option maxRecDepth 10000 in
theorem JW (N : Nat) (r : Bool) (h : EJ N = some r) : AA Try.prog 11 [] [] (.e (.one (.pure (.val (.bool r))))) := by
 unfold EJ at h
 refine Ao (n := 74) (rs := [.tmp 0]) Try.func11 rfl rfl rfl (BF rfl) (BF rfl) rfl fun w0 S0 => ?_
 refine Ab (Aa Ad rfl (qa rfl (Ac (Ab (Aa Ad rfl ?_)))))
 obtain ⟨v1, a1, h⟩ := bind_some h
 refine AK [2001, 2002, 2003, 2004] (DR N false false v1 a1) Ss rfl ?_
 obtain ⟨v2, a2, h⟩ := bind_some h
 refine DJ [2005] [2001, 2002, 2003, 2004] (H7 N v1 v2 a2) Uz (Fc (fun _ => rfl) Cx) rfl (qm rfl (qx rfl (qx rfl (qa rfl (qa rfl (Ac (Ab (Aa Ad rfl ?_))))))))
 obtain ⟨v3, a3, h⟩ := bind_some h
 refine AK [2006, 2007, 2008, 2009] (DR N true false v3 a3) Ss rfl ?_
 obtain ⟨v4, a4, h⟩ := bind_some h
 refine DJ [2010] [2006, 2007, 2008, 2009] (H7 N v3 v4 a4) Uz (Fc (fun _ => rfl) Cx) rfl (qm rfl (qx rfl (qx rfl (qa rfl (qa rfl (Ac (Ab (Aa Ad rfl ?_))))))))
 obtain ⟨v5, a5, h⟩ := bind_some h
 refine AK [2011, 2012, 2013, 2014] (DR N true true v5 a5) Ss rfl ?_
 obtain ⟨v6, a6, h⟩ := bind_some h
 refine DJ [2015] [2011, 2012, 2013, 2014] (H7 N v5 v6 a6) Uz (Fc (fun _ => rfl) Cx) rfl (qm rfl (qx rfl (qx rfl (qa rfl (qa rfl (Ac (Ab (Aa Ad rfl ?_))))))))
 obtain ⟨v7, a7, h⟩ := bind_some h
 refine AK [2016, 2017, 2018, 2019] (DR N false false v7 a7) Ss rfl (A6 GC OC rfl (Ep CT Dh GC rfl (DY (BV 2016 _ _ rfl rfl) (DY (BV 2017 _ _ rfl rfl) (DY (BV 2018 _ _ rfl rfl) (DY (BV 2019 _ _ rfl rfl) (DY (BV 30 _ _ rfl rfl) ?_)))))))
 obtain ⟨v8, a8, h⟩ := bind_some h
 refine AK [] (Jj N v7 (([(Af.mk 1 0 1)] : List Af)) v8 a8) V6 rfl (qm rfl (qx rfl (qx rfl (qx rfl (qx rfl (qz C7 rfl (qz GV rfl (qa rfl (qs AT rfl (qs Fp rfl (qa rfl (Ac (Ab (Aa Ad rfl (A6 GC OC rfl (A6 GC OC rfl (A6 GC OC rfl (A6 GC OC rfl (Ep CT Dh GC rfl (qa rfl (Ac ?_)))))))))))))))))))))
 refine AX h (fun v9 => mk [(0, .e (.one (.pure (.val (.bool v9)))))] []) (fun j9 h => ?_) (fun v9 h => ?_)
 ·refine Aa Ad rfl (qm rfl (B6 rfl (qm rfl ?_)))
  refine AI (t := 43) rfl (fun c10 => ?_) (fun c10 => ?_)
  ·have h := Ap c10 h
   refine qm rfl (qm rfl ?_)
   obtain ⟨v11, a11, h⟩ := bind_some h
   refine DJ [] [2005, 40] (HG N v2.1 (([(Af.mk 1 1 1), (Af.mk 2 1 0), (Af.mk 1 0 1), (Af.mk 2 0 0)] : List Af)) v11 a11) WB Cx rfl (qp rfl (qm rfl ?_))
   refine AI (t := 48) rfl (fun c12 => ?_) (fun c12 => ?_)
   ·have h := Ap c12 h
    refine qm rfl (B6 rfl (qp rfl (qm rfl ?_)))
    refine AI (t := 52) rfl (fun c13 => ?_) (fun c13 => ?_)
    ·have h := Ap c13 h
     refine qm rfl (B6 rfl (qp rfl (qm rfl ?_)))
     refine AI (t := 56) rfl (fun c14 => ?_) (fun c14 => ?_)
     ·have h := Ap c14 h
      refine qm rfl (B6 rfl (qp rfl (qm rfl ?_)))
      refine AI (t := 60) rfl (fun c15 => ?_) (fun c15 => ?_)
      ·have h := Ap c15 h
       refine qm rfl (B6 rfl (qp rfl (qm rfl ?_)))
       refine AI (t := 64) rfl (fun c16 => ?_) (fun c16 => ?_)
       ·have h := Ap c16 h
        refine qL Lq Fp rfl (A6 GV Mw rfl ?_)
        refine WC [.int .i64 v8.2.2.1.fTable, .int .i64 v8.2.2.1.fWriter, .int .i64 v8.2.2.1.fReader] [.int .i64 0, .int .i64 1, .int .i64 0] (.g rfl rfl) rfl rfl WE rfl ?_
        refine qp rfl (qm rfl ?_)
        refine AI (t := 69) rfl (fun c17 => ?_) (fun c17 => ?_)
        ·have h := Ap c17 h
         obtain ⟨v18, a18, h⟩ := bind_some h
         refine AK [2020, 2021, 2022, 2023] (DR N false false v18 a18) Ss rfl (qm rfl ?_)
         obtain ⟨v19, a19, h⟩ := bind_some h
         refine DJ [] [2020, 2021, 2022, 2023, 40] (KJ N v18 (([(Af.mk 1 1 1), (Af.mk 2 1 0), (Af.mk 1 0 1), (Af.mk 2 0 0)] : List Af)) v19 a19) WM Cx rfl (qp rfl (qa rfl (Ac ?_)))
         exact Aw _ h (sm [] _ _ rfl rfl)
        ·have h := Aq c17 h
         refine qn rfl (qn rfl (qn rfl (qp rfl (qa rfl (Ac ?_)))))
         exact Aw _ h (sm [] _ _ rfl rfl)
       ·have h := Aq c16 h
        refine qn rfl (qn rfl (qn rfl (qp rfl (qm rfl (qn rfl (qn rfl (qn rfl (qp rfl (qa rfl (Ac ?_))))))))))
        exact Aw _ h (sm [] _ _ rfl rfl)
      ·have h := Aq c15 h
       refine qn rfl (qn rfl (qp rfl (qm rfl (qn rfl (qn rfl (qn rfl (qp rfl (qm rfl (qn rfl (qn rfl (qn rfl (qp rfl (qa rfl (Ac ?_))))))))))))))
       exact Aw _ h (sm [] _ _ rfl rfl)
     ·have h := Aq c14 h
      refine qn rfl (qn rfl (qp rfl (qm rfl (qn rfl (qn rfl (qp rfl (qm rfl (qn rfl (qn rfl (qn rfl (qp rfl (qm rfl (qn rfl (qn rfl (qn rfl (qp rfl (qa rfl (Ac ?_))))))))))))))))))
      exact Aw _ h (sm [] _ _ rfl rfl)
    ·have h := Aq c13 h
     refine qn rfl (qn rfl (qp rfl (qm rfl (qn rfl (qn rfl (qp rfl (qm rfl (qn rfl (qn rfl (qp rfl (qm rfl (qn rfl (qn rfl (qn rfl (qp rfl (qm rfl (qn rfl (qn rfl (qn rfl (qp rfl (qa rfl (Ac ?_))))))))))))))))))))))
     exact Aw _ h (sm [] _ _ rfl rfl)
   ·have h := Aq c12 h
    refine qn rfl (qn rfl (qp rfl (qm rfl (qn rfl (qn rfl (qp rfl (qm rfl (qn rfl (qn rfl (qp rfl (qm rfl (qn rfl (qn rfl (qp rfl (qm rfl (qn rfl (qn rfl (qn rfl (qp rfl (qm rfl (qn rfl (qn rfl (qn rfl (qp rfl (qa rfl (Ac ?_))))))))))))))))))))))))))
    exact Aw _ h (sm [] _ _ rfl rfl)
  ·have h := Aq c10 h
   refine qn rfl (qn rfl (qn rfl (qp rfl (qm rfl (qn rfl (qn rfl (qp rfl (qm rfl (qn rfl (qn rfl (qp rfl (qm rfl (qn rfl (qn rfl (qp rfl (qm rfl (qn rfl (qn rfl (qp rfl (qm rfl (qn rfl (qn rfl (qn rfl (qp rfl (qm rfl (qn rfl (qn rfl (qn rfl (qp rfl (qa rfl (Ac ?_)))))))))))))))))))))))))))))))
   exact Aw _ h (sm [] _ _ rfl rfl)
 ·obtain rfl := sj h
  refine Al (sm [] [(0, .e (.one (.pure (.val (.bool v9)))))] [] rfl rfl) (AC ?_)
  exact ⟨⟨[_], ⟨.tmp _ _ rfl, trivial⟩, rfl⟩, trivial⟩
set_option maxRecDepth 10000 in
theorem HC (N : Nat) (p0 : List Int) (p1 : Int) (r : Int) (h : DD N p0 p1 = some r) : AA Try.prog 45 [.e (.one (.pure (.sl (p0.map A9)))), .e (.one (.pure (.val (.int .i64 p1))))] [] (.e (.one (.pure (.val (.int .i64 r))))) := by
 unfold DD at h
 refine Ao (n := 14) (rs := [.tmp 4]) Try.func45 rfl rfl rfl (BF rfl) (BF rfl) rfl fun w0 S0 => ?_
 refine Ab (Aa Ad rfl (qa rfl (Ac (Ab (Ab (Aa Ad rfl (qm rfl (qm rfl (AS I2 rfl (A8 rfl (Ac ?_)))))))))))
 refine As rfl (fun c1 => ?_) (fun c1 => ?_)
 ·have h := Ap c1 h
  refine Ab (Aa Ad rfl (qm rfl (qm rfl ?_)))
  obtain ⟨v2, a2, b2, h⟩ := Am h
  refine qi I2 Vw a2 (Aj b2) rfl (qk V9 rfl (It V0 U5 rfl (qa rfl (Ac ?_))))
  obtain rfl := sj h
  refine Al (sm [] [(4, .e (.one (.pure (.val (.int .i64 ((IntKind.wrap .i64 v2)))))))] [] rfl rfl) (AC ?_)
  exact ⟨⟨[_], ⟨.tmp _ _ rfl, trivial⟩, rfl⟩, trivial⟩
 ·have h := Aq c1 h
  refine Av (Ab (Aa Ad rfl (qa rfl (Ac ?_))))
  obtain rfl := sj h
  refine Al (sm [] [(4, .e (.one (.pure (.val (.int .i64 0)))))] [] rfl rfl) (AC ?_)
  exact ⟨⟨[_], ⟨.tmp _ _ rfl, trivial⟩, rfl⟩, trivial⟩
set_option maxRecDepth 10000 in
theorem Cd (N : Nat) (p0 : AF) (r : Bool) (h : A5 N p0 = some r) : AA Try.prog 46 [.e (.agg [.pure (.val (.int .i64 p0.fKind)), .pure (.val (.int .i64 p0.fFrom)), .pure (.val (.int .i64 p0.fTo)), .pure (.val (.bool p0.fAware)), .pure (.sl (p0.fOK.map (Et eB))), .pure (.sl (p0.fRewrite.map (Et eB)))])] [] (.e (.one (.pure (.val (.bool r))))) := by
 unfold A5 at h
 refine Ao (n := 11) (rs := [.tmp 2]) Try.func46 rfl rfl rfl (BF rfl) (BF rfl) rfl fun w0 S0 => ?_
 refine Ab (Aa Ad rfl (qb rfl (qa rfl (Ac ?_))))
 refine AX h (fun v1 => mk [(2, .e (.one (.pure (.val (.bool v1)))))] []) (fun j1 h => ?_) (fun v1 h => ?_)
 ·refine Aa Ad rfl (qf Fl rfl (ql B9 rfl (B6 rfl (qm rfl ?_))))
  refine AI (t := 6) rfl (fun c2 => ?_) (fun c2 => ?_)
  ·have h := Ap c2 h
   refine qn rfl (qn rfl (qn rfl (qp rfl (qa rfl (Ac ?_)))))
   exact Aw _ h (sm [] _ _ rfl rfl)
  ·have h := Aq c2 h
   refine qf Fl rfl (ql B9 rfl (B6 rfl (qp rfl (qa rfl (Ac ?_)))))
   exact Aw _ h (sm [] _ _ rfl rfl)
 ·obtain rfl := sj h
  refine Al (sm [] [(2, .e (.one (.pure (.val (.bool v1)))))] [] rfl rfl) (AC ?_)
  exact ⟨⟨[_], ⟨.tmp _ _ rfl, trivial⟩, rfl⟩, trivial⟩
set_option maxRecDepth 10000 in
theorem HK (N : Nat) (p0 : Int) (p1 : Int) (p2 : Int) (p3 : Bool) (r : (List (List Bool))) (h : DB N p0 p1 p2 p3 = some r) : AA Try.prog 47 [.e (.one (.pure (.val (.int .i64 p0)))), .e (.one (.pure (.val (.int .i64 p1)))), .e (.one (.pure (.val (.int .u16 p2)))), .e (.one (.pure (.val (.bool p3))))] [(1, r.map (Et eB))] (.e (.one (.own 0))) := by
 unfold DB at h
 refine Ao (n := 47) (rs := [.tmp 8]) Try.func47 rfl rfl rfl (BF rfl) (BF rfl) rfl fun w0 S0 => ?_
 refine Ab (Aa Ad rfl (qa rfl (Ac (Ab (Aa Ad rfl (qa rfl (Ac (Ab (Ab (Aa Ad rfl (qa rfl (Ac ?_))))))))))))
 refine AR (L := Ca N p0 p1 p2 p3) h (fun v1 => mk [(0, .e (.one (.pure (.val (.int .i64 p0))))), (1, .e (.one (.pure (.val (.int .i64 p1))))), (2, .e (.one (.pure (.val (.int .u16 p2))))), (3, .e (.one (.pure (.val (.bool p3))))), (9, .e (.one (.own 2001))), (10, .e (.one (.pure (.val (.int .i64 v1.2)))))] [(2001, .vec 1 (v1.1.map (Et eB)))]) (fun v2 => mk [(9, .e (.one (.own 2002)))] [(2002, .vec 1 (v2.map (Et eB)))]) (fun _ _ => rfl) ((By 9 2010 1 rfl rfl rfl).trans (sm [(2001, 2010)] _ _ rfl rfl)) (fun j1 n1 v1 h => ?_) (fun v2 s h hs => ?_)
 ·unfold Ca at h
  refine Ab (Ab (Aa Ad rfl (qm rfl (qm rfl (A8 rfl (Ac ?_))))))
  refine As rfl (fun c3 => ?_) (fun c3 => ?_)
  ·have h := Ap c3 h
   refine Av (Ab (AU (Ab (Aa Ad rfl (qa rfl (Ac (Ab (Ab (Aa Ad rfl (qa rfl (Ac ?_)))))))))))
   refine AR (L := Ch N p1 p2 p3 v1) h (fun v4 => mk [(0, .e (.one (.pure (.val (.int .i64 p0))))), (1, .e (.one (.pure (.val (.int .i64 p1))))), (2, .e (.one (.pure (.val (.int .u16 p2))))), (3, .e (.one (.pure (.val (.bool p3))))), (9, .e (.one (.own 2003))), (10, .e (.one (.pure (.val (.int .i64 v1.2))))), (11, .e (.one (.own 2004))), (12, .e (.one (.pure (.val (.int .i64 v4.2)))))] [(2003, .vec 1 (v1.1.map (Et eB))), (2004, .vec 1 (v4.1.map eB))]) (fun v5 => mk [(0, .e (.one (.pure (.val (.int .i64 p0))))), (1, .e (.one (.pure (.val (.int .i64 p1))))), (2, .e (.one (.pure (.val (.int .u16 p2))))), (3, .e (.one (.pure (.val (.bool p3))))), (9, .e (.one (.own 2005))), (10, .e (.one (.pure (.val (.int .i64 v1.2))))), (11, .e (.one (.own 2006)))] [(2005, .vec 1 (v1.1.map (Et eB))), (2006, .vec 1 (v5.map eB))]) (fun _ _ => rfl) ((By 11 2009 1 rfl rfl rfl).trans (sm [(2003, 2001), (2004, 2009)] _ _ rfl rfl)) (fun j4 n4 v4 h => ?_) (fun v5 s h hs => ?_)
   ·unfold Ch at h
    refine Ab (Ab (Aa Ad rfl (qm rfl (qm rfl (A8 rfl (Ac ?_))))))
    refine As rfl (fun c6 => ?_) (fun c6 => ?_)
    ·have h := Ap c6 h
     refine Av ?_
     refine AX h (fun v7 => mk [(0, .e (.one (.pure (.val (.int .i64 p0))))), (1, .e (.one (.pure (.val (.int .i64 p1))))), (2, .e (.one (.pure (.val (.int .u16 p2))))), (3, .e (.one (.pure (.val (.bool p3))))), (9, .e (.one (.own 2007))), (10, .e (.one (.pure (.val (.int .i64 v1.2))))), (11, .e (.one (.own 2008))), (12, .e (.one (.pure (.val (.int .i64 v4.2)))))] [(2007, .vec 1 (v1.1.map (Et eB))), (2008, .vec 1 (v7.map eB))]) (fun j7 h => ?_) (fun v7 h => ?_)
     ·refine AU (Aa Ad rfl (qm rfl (qm rfl (qm rfl ?_))))
      refine AI (t := 25) rfl (fun c8 => ?_) (fun c8 => ?_)
      ·have h := Ap c8 h
       refine qm rfl (qm rfl (B6 rfl (qp rfl (qm rfl ?_))))
       refine AI (t := 30) rfl (fun c9 => ?_) (fun c9 => ?_)
       ·have h := Ap c9 h
        refine qn rfl (qn rfl (qn rfl (qn rfl (qn rfl (qn rfl (qn rfl (qn rfl (qp rfl (Ep FT PW UU rfl ?_)))))))))
        obtain ⟨c10, h⟩ := AO h
        refine Dx (f := eB) FT FT PW VE UU c10 rfl (qa rfl (Ac ?_))
        exact Aw _ h (sm [(2007, 2003), (2008, 41)] _ _ rfl rfl)
       ·have h := Aq c9 h
        refine qm rfl (qm rfl (KA rfl (qm rfl (Bn rfl ?_))))
        obtain ⟨c11, h⟩ := AO h
        refine Iz rfl c11 (K9 rfl (by decide) (B6 rfl (qp rfl (Ep FT PW UU rfl ?_))))
        obtain ⟨c12, h⟩ := AO h
        refine Dx (f := eB) FT FT PW VE UU c12 rfl (qa rfl (Ac ?_))
        exact Aw _ h (sm [(2007, 2003), (2008, 41)] _ _ rfl rfl)
      ·have h := Aq c8 h
       refine qn rfl (qn rfl (qn rfl (qp rfl (qm rfl (qm rfl (qm rfl (KA rfl (qm rfl (Bn rfl ?_)))))))))
       obtain ⟨c13, h⟩ := AO h
       refine Iz rfl c13 (K9 rfl (by decide) (B6 rfl (qp rfl (Ep FT PW UU rfl ?_))))
       obtain ⟨c14, h⟩ := AO h
       refine Dx (f := eB) FT FT PW VE UU c14 rfl (qa rfl (Ac ?_))
       exact Aw _ h (sm [(2007, 2003), (2008, 41)] _ _ rfl rfl)
     ·refine Aa Ad rfl (qm rfl (Bn rfl (qa rfl (Ac ?_))))
      exact Aw _ h (sm [(2003, 2007), (2004, 2008)] _ _ rfl rfl)
    ·have h := Aq c6 h
     refine A4 ?_
     exact Aw _ h (sm [(2005, 2003), (2006, 2004)] _ _ rfl rfl)
   ·refine Al hs (Aa Ad rfl (qm rfl (qm rfl (DY (BV 2006 _ _ rfl rfl) (Ep FN L6 Vo rfl ?_)))))
    obtain ⟨c15, h⟩ := AO h
    refine Dx (f := (Et eB)) FN FN L6 V5 Vo c15 rfl (qa rfl (Ac (Aa Ad rfl (qm rfl (Bn rfl (qa rfl (Ac ?_)))))))
    exact Aw _ h (sm [(2001, 45)] _ _ rfl rfl)
  ·have h := Aq c3 h
   refine A4 ?_
   exact Aw _ h (sm [(2002, 2001)] _ _ rfl rfl)
 ·refine Al hs (Ab (Aa Ad rfl (qm rfl (qa rfl (Ac ?_)))))
  obtain rfl := sj h
  refine Al (sm [(1000, 2002)] [(8, .e (.one (.own 1000)))] [(1000, .vec 1 (v2.map (Et eB)))] rfl rfl) (AC ?_)
  exact ⟨⟨[_], ⟨.tmp _ _ rfl, trivial⟩, rfl⟩, ⟨rfl, trivial⟩⟩
set_option maxRecDepth 10000 in
theorem LF (N : Nat) (p0 : BL) (r : Ae × Bool) (h : EK N p0 = some r) : AA Try.prog 22 [.e (.agg [.pure (.sl (p0.fVersions.map A9)), .pure (.sl (p0.fNow.map A9)), .pure (.sl (p0.fTarget.map A9)), .pure (.sl (p0.fLinks.map BY))])] [(1, r.1.fVersions.map Ag), (1, r.1.fNow.map Ag), (1, r.1.fTarget.map Ag), (6, r.1.fTables.map Ai)] (.tup [.agg [.own 0, .own 1, .own 2, .own 3], .one (.pure (.val (.bool r.2)))]) := by
 unfold EK at h
 refine Ao (n := 152) (rs := [.cell 2 30, .tmp 3]) Try.func22 rfl rfl rfl (BF rfl) (BF rfl) rfl fun w0 S0 => ?_
 refine Ab (Aa Ad rfl (qb rfl (qz Px rfl (qa rfl (Ac (Ab ?_))))))
 refine AX h (fun v1 => mk [(1, .e (.one (.ptr 1 0))), (2, .e (.one (.ptr 2 0))), (19, .e (.one (.pure (.val (.bool v1)))))] [(1, .box [.pure (.sl (p0.fVersions.map A9)), .pure (.sl (p0.fNow.map A9)), .pure (.sl (p0.fTarget.map A9)), .pure (.sl (p0.fLinks.map BY))]), (2, .box [.pure (.nil0), .pure (.nil0), .pure (.nil0), .pure (.nil0)])]) (fun j1 h => ?_) (fun v1 h => ?_)
 ·refine Aa Ad rfl (qf OI rfl (ql Tp rfl (AS I2 rfl (Ge rfl (qm rfl ?_)))))
  refine AI (t := 14) rfl (fun c2 => ?_) (fun c2 => ?_)
  ·have h := Ap c2 h
   refine qn rfl (qn rfl (qn rfl (qn rfl (qp rfl (Ac ?_)))))
   exact Aw _ h (sm [] _ _ rfl rfl)
  ·have h := Aq c2 h
   refine qf Oh rfl (ql Vz rfl (AS Tf rfl (Ge rfl (qp rfl (Ac ?_)))))
   exact Aw _ h (sm [] _ _ rfl rfl)
 ·refine As rfl (fun c3 => ?_) (fun c3 => ?_)
  ·have h := Ap c3 h
   refine Ab (Aa Ad rfl (A6 Px WQ rfl (qs CX rfl (qa rfl (Ac ?_)))))
   obtain rfl := sj h
   refine Al ((AE 2 0 2001 1 _ rfl rfl rfl rfl).trans ((AE 2 1 2002 1 _ rfl rfl rfl rfl).trans ((AE 2 2 2003 1 _ rfl rfl rfl rfl).trans ((AE 2 3 2004 6 _ rfl rfl rfl rfl).trans (sm [(1000, 2001), (1001, 2002), (1002, 2003), (1003, 2004)] [(2, .e (.one (.ptr 2 0))), (3, .e (.one (.pure (.val (.bool false)))))] [(2, .box [.own 1000, .own 1001, .own 1002, .own 1003]), (1000, .vec 1 ((([] : List Int)).map Ag)), (1001, .vec 1 ((([] : List Int)).map Ag)), (1002, .vec 1 ((([] : List Int)).map Ag)), (1003, .vec 6 ((([] : List AF)).map Ai))] rfl rfl))))) (AC ?_)
   exact ⟨⟨[_, _], ⟨.cellN _ _ _ _ _ _ _ rfl rfl Dr CX rfl rfl (Hb rfl), ⟨.tmp _ _ rfl, trivial⟩⟩, rfl⟩, ⟨rfl, rfl, rfl, rfl, trivial⟩⟩
  ·have h := Aq c3 h
   refine Av (Ab (Aa Ad rfl (qz Px rfl (Ac (Ab (Ab (Aa Ad rfl (qa rfl (Ac ?_)))))))))
   refine AR (L := Cv N p0) h (fun v4 => mk [(1, .e (.one (.ptr 1 0))), (2, .e (.one (.ptr 2 0))), (4, .e (.one (.ptr 4 0))), (5, .e (.one (.pure (.val (.int .i64 v4.2.2.2)))))] [(1, .box [.pure (.sl (p0.fVersions.map A9)), .pure (.sl (p0.fNow.map A9)), .pure (.sl (p0.fTarget.map A9)), .pure (.sl (p0.fLinks.map BY))]), (2, .box [.pure (.nil0), .pure (.nil0), .pure (.nil0), .pure (.nil0)]), (4, .box [.own 2005, .own 2006, .own 2007, .pure (.nil0)]), (2005, .vec 1 (v4.1.map Ag)), (2006, .vec 1 (v4.2.1.map Ag)), (2007, .vec 1 (v4.2.2.1.map Ag))]) (fun v5 => mk [(1, .e (.one (.ptr 1 0))), (2, .e (.one (.ptr 2 0))), (4, .e (.one (.ptr 4 0)))] [(1, .box [.pure (.sl (p0.fVersions.map A9)), .pure (.sl (p0.fNow.map A9)), .pure (.sl (p0.fTarget.map A9)), .pure (.sl (p0.fLinks.map BY))]), (2, .box [.pure (.nil0), .pure (.nil0), .pure (.nil0), .pure (.nil0)]), (4, .box [.own 2008, .own 2009, .own 2010, .pure (.nil0)]), (2008, .vec 1 (v5.1.map Ag)), (2009, .vec 1 (v5.2.1.map Ag)), (2010, .vec 1 (v5.2.2.map Ag))]) (fun _ _ => rfl) ((AE 4 0 2011 1 _ rfl rfl rfl rfl).trans ((AE 4 1 2012 1 _ rfl rfl rfl rfl).trans ((AE 4 2 2013 1 _ rfl rfl rfl rfl).trans (sm [(2005, 2011), (2006, 2012), (2007, 2013)] _ _ rfl rfl)))) (fun j4 n4 v4 h => ?_) (fun v5 s h hs => ?_)
   ·unfold Cv at h
    refine Ab (Ab (Aa Ad rfl (qm rfl (qf OI rfl (ql Tp rfl (AS I2 rfl (A8 rfl (Ac ?_))))))))
    refine As rfl (fun c6 => ?_) (fun c6 => ?_)
    ·have h := Ap c6 h
     refine Av (Ab (AU (Ab (Aa Ad rfl (qf OI rfl (ql Tp rfl (qm rfl ?_)))))))
     obtain ⟨v7, a7, b7, h⟩ := Am h
     refine qi I2 Vw a7 (Aj b7) rfl (qk V9 rfl (K9 rfl (by decide) (It V0 U5 rfl (Bn rfl (qa rfl (Ac (Ab (Aa Ad rfl (qf Br rfl (ql A7 rfl (qm rfl (Ep AG Dc J9 rfl ?_))))))))))))
     obtain ⟨c8, h⟩ := AO h
     refine Dx (f := Ag) AG AG Dc K8 J9 c8 rfl (qf Br rfl (qs RQ rfl (Ac (Ab (Aa Ad rfl (qf F5 rfl (ql A7 rfl (qf T4 rfl (ql Tp rfl (qm rfl ?_))))))))))
     obtain ⟨v9, a9, h⟩ := bind_some h
     refine AK [] (HC N p0.fNow v4.2.2.2 v9 a9) Wh rfl (qm rfl ?_)
     obtain ⟨c10, h⟩ := AO h
     refine K9 rfl c10 (Ep AG Dc J9 rfl ?_)
     obtain ⟨c11, h⟩ := AO h
     refine Dx (f := Ag) AG AG Dc K8 J9 c11 rfl (qf F5 rfl (qs RQ rfl (AY (by kernel_rfl) (Aa Ad rfl (qf Hp rfl (ql A7 rfl (qf T5 rfl (ql Tp rfl (qm rfl ?_)))))))))
     obtain ⟨v12, a12, h⟩ := bind_some h
     refine AK [] (HC N p0.fTarget v4.2.2.2 v12 a12) Wh rfl (qm rfl ?_)
     obtain ⟨c13, h⟩ := AO h
     refine K9 rfl c13 (Ep AG Dc J9 rfl ?_)
     obtain ⟨c14, h⟩ := AO h
     refine Dx (f := Ag) AG AG Dc K8 J9 c14 rfl (qf Hp rfl (qs RQ rfl (AY (by kernel_rfl) (Aa Ad rfl (qm rfl (Bn rfl (qa rfl (Ac ?_))))))))
     exact Aw _ h (sm [(2005, 40), (2006, 51), (2007, 62)] _ _ rfl rfl)
    ·have h := Aq c6 h
     refine A4 ?_
     exact Aw _ h (sm [(2008, 2005), (2009, 2006), (2010, 2007)] _ _ rfl rfl)
   ·refine Al hs (Ab (Ab (Aa Ad rfl (qa rfl (Ac ?_)))))
    refine AR (L := Bw N p0 v5) h (fun v15 => mk [(1, .e (.one (.ptr 1 0))), (2, .e (.one (.ptr 2 0))), (4, .e (.one (.ptr 4 0))), (7, .e (.one (.pure (.val (.int .i64 v15.2)))))] [(1, .box [.pure (.sl (p0.fVersions.map A9)), .pure (.sl (p0.fNow.map A9)), .pure (.sl (p0.fTarget.map A9)), .pure (.sl (p0.fLinks.map BY))]), (2, .box [.pure (.nil0), .pure (.nil0), .pure (.nil0), .pure (.nil0)]), (4, .box [.own 2014, .own 2015, .own 2016, .own 2017]), (2014, .vec 1 (v5.1.map Ag)), (2015, .vec 1 (v5.2.1.map Ag)), (2016, .vec 1 (v5.2.2.map Ag)), (2017, .vec 6 (v15.1.map Ai))]) (fun v16 => mk [(2, .e (.one (.ptr 2 0))), (4, .e (.one (.ptr 4 0)))] [(2, .box [.pure (.nil0), .pure (.nil0), .pure (.nil0), .pure (.nil0)]), (4, .box [.own 2018, .own 2019, .own 2020, .own 2021]), (2018, .vec 1 (v5.1.map Ag)), (2019, .vec 1 (v5.2.1.map Ag)), (2020, .vec 1 (v5.2.2.map Ag)), (2021, .vec 6 (v16.map Ai))]) (fun _ _ => rfl) ((AE 4 3 2039 6 _ rfl rfl rfl rfl).trans (sm [(2014, 2008), (2015, 2009), (2016, 2010), (2017, 2039)] _ _ rfl rfl)) (fun j15 n15 v15 h => ?_) (fun v16 s h hs => ?_)
    ·unfold Bw at h
     refine Ab ?_
     refine AX h (fun v17 => mk [(1, .e (.one (.ptr 1 0))), (2, .e (.one (.ptr 2 0))), (4, .e (.one (.ptr 4 0))), (7, .e (.one (.pure (.val (.int .i64 v15.2))))), (74, .e (.one (.pure (.val (.bool v17)))))] [(1, .box [.pure (.sl (p0.fVersions.map A9)), .pure (.sl (p0.fNow.map A9)), .pure (.sl (p0.fTarget.map A9)), .pure (.sl (p0.fLinks.map BY))]), (2, .box [.pure (.nil0), .pure (.nil0), .pure (.nil0), .pure (.nil0)]), (4, .box [.own 2022, .own 2023, .own 2024, .own 2025]), (2022, .vec 1 (v5.1.map Ag)), (2023, .vec 1 (v5.2.1.map Ag)), (2024, .vec 1 (v5.2.2.map Ag)), (2025, .vec 6 (v15.1.map Ai))]) (fun j17 h => ?_) (fun v17 h => ?_)
     ·refine Aa Ad rfl (qm rfl (qf Oh rfl (ql Vz rfl (AS Tf rfl (A8 rfl (qm rfl ?_))))))
      refine AI (t := 69) rfl (fun c18 => ?_) (fun c18 => ?_)
      ·have h := Ap c18 h
       refine qf Br rfl (ql A7 rfl (FD AG rfl (Ge rfl (qp rfl (Ac ?_)))))
       exact Aw _ h (sm [(2022, 2014), (2023, 2015), (2024, 2016), (2025, 2017)] _ _ rfl rfl)
      ·have h := Aq c18 h
       refine qn rfl (qn rfl (qn rfl (qn rfl (qp rfl (Ac ?_)))))
       exact Aw _ h (sm [(2022, 2014), (2023, 2015), (2024, 2016), (2025, 2017)] _ _ rfl rfl)
     ·refine As rfl (fun c19 => ?_) (fun c19 => ?_)
      ·have h := Ap c19 h
       refine Av (Ab (AU (Ab (Aa Ad rfl (qf Oh rfl (ql Vz rfl (qm rfl ?_)))))))
       obtain ⟨v20, a20, b20, h⟩ := Am h
       refine qi Tf VJ a20 (Aj b20) rfl (qK XS VJ rfl (qz XE rfl (qs VJ rfl (Ac (Ab (Aa Ad rfl (qf TK rfl (ql V9 rfl (K9 rfl (by decide) (It V0 U5 rfl (Bn rfl (qf T7 rfl (ql V9 rfl (It V0 U5 rfl (qf Br rfl (ql A7 rfl (FD AG rfl ?_)))))))))))))))))
       obtain ⟨c21, h⟩ := AO h
       refine K9 rfl c21 (qf UC rfl (ql V9 rfl (It V0 U5 rfl (qf Br rfl (ql A7 rfl (FD AG rfl ?_))))))
       obtain ⟨c22, h⟩ := AO h
       refine K9 rfl c22 (A6 JR WV rfl (qz JR rfl (qs DP rfl (AY (by kernel_rfl) ?_))))
       refine AX h (fun v23 => mk [(1, .e (.one (.ptr 1 0))), (2, .e (.one (.ptr 2 0))), (4, .e (.one (.ptr 4 0))), (7, .e (.one (.pure (.val (.int .i64 v15.2))))), (8, .e (.one (.ptr 8 0))), (9, .e (.one (.ptr 9 0)))] [(1, .box [.pure (.sl (p0.fVersions.map A9)), .pure (.sl (p0.fNow.map A9)), .pure (.sl (p0.fTarget.map A9)), .pure (.sl (p0.fLinks.map BY))]), (2, .box [.pure (.nil0), .pure (.nil0), .pure (.nil0), .pure (.nil0)]), (4, .box [.own 2026, .own 2027, .own 2028, .own 2029]), (8, .box [.pure (.val (.int .u8 v20.fKind)), .pure (.val (.int .u8 v20.fFrom)), .pure (.val (.int .u8 v20.fTo)), .pure (.val (.bool v20.fAware)), .pure (.val (.int .u16 v20.fBad)), .pure (.val (.int .u16 v20.fLost))]), (9, .box [.pure (.val (.int .i64 ((IntKind.wrap .i64 (1 + (IntKind.wrap .i64 ((Int.tmod v20.fKind 4)))))))), .pure (.val (.int .i64 ((Int.tmod ((IntKind.wrap .i64 v20.fFrom)) ((v5.1.length : Int)))))), .pure (.val (.int .i64 ((Int.tmod ((IntKind.wrap .i64 v20.fTo)) ((v5.1.length : Int)))))), .pure (.val (.bool v23)), .pure (.nil0), .pure (.nil0)]), (2026, .vec 1 (v5.1.map Ag)), (2027, .vec 1 (v5.2.1.map Ag)), (2028, .vec 1 (v5.2.2.map Ag)), (2029, .vec 6 (v15.1.map Ai))]) (fun j23 h => ?_) (fun v23 h => ?_)
       ·refine Aa Ad rfl (qf Ul rfl (ql Rx rfl (qm rfl ?_)))
        refine AI (t := 104) rfl (fun c24 => ?_) (fun c24 => ?_)
        ·have h := Ap c24 h
         refine qL GB DP rfl ?_
         obtain ⟨v25, a25, h⟩ := bind_some h
         refine AK [] (Cd N ((AF.mk ((IntKind.wrap .i64 (1 + (IntKind.wrap .i64 ((Int.tmod v20.fKind 4)))))) ((Int.tmod ((IntKind.wrap .i64 v20.fFrom)) ((v5.1.length : Int)))) ((Int.tmod ((IntKind.wrap .i64 v20.fTo)) ((v5.1.length : Int)))) false (([] : List (List Bool))) (([] : List (List Bool))))) v25 a25) Oq rfl (CE rfl (qp rfl (qf H2 rfl (qs PW rfl (Ac ?_)))))
         exact Aw _ h (sm [(2026, 2022), (2027, 2023), (2028, 2024), (2029, 2025)] _ _ rfl rfl)
        ·have h := Aq c24 h
         refine qn rfl (qn rfl (qn rfl (qp rfl (qf H2 rfl (qs PW rfl (Ac ?_))))))
         exact Aw _ h (sm [(2026, 2022), (2027, 2023), (2028, 2024), (2029, 2025)] _ _ rfl rfl)
       ·refine Ab (Aa Ad rfl (qf Br rfl (ql A7 rfl (qf CV rfl (ql B9 rfl ?_)))))
        obtain ⟨v26, a26, b26, h⟩ := Am h
        refine qI AG Dc a26 (Aj b26) rfl (qj B9 (Aj b26) rfl (qf Br rfl (ql A7 rfl (qf Hq rfl (ql B9 rfl ?_)))))
        obtain ⟨v27, a27, b27, h⟩ := Am h
        refine qI AG Dc a27 (Aj b27) rfl (qj B9 (Aj b27) rfl (qf TR rfl (ql WD rfl ?_)))
        obtain ⟨v28, a28, h⟩ := bind_some h
        refine AK [2030] (HK N v26 v27 v20.fBad false v28 a28) W3 rfl (qf IC rfl (qs Wa rfl (AY (by kernel_rfl) ?_)))
        refine AX h (fun v29 => mk [(1, .e (.one (.ptr 1 0))), (2, .e (.one (.ptr 2 0))), (4, .e (.one (.ptr 4 0))), (7, .e (.one (.pure (.val (.int .i64 v15.2))))), (9, .e (.one (.ptr 9 0)))] [(1, .box [.pure (.sl (p0.fVersions.map A9)), .pure (.sl (p0.fNow.map A9)), .pure (.sl (p0.fTarget.map A9)), .pure (.sl (p0.fLinks.map BY))]), (2, .box [.pure (.nil0), .pure (.nil0), .pure (.nil0), .pure (.nil0)]), (4, .box [.own 2031, .own 2032, .own 2033, .own 2034]), (9, .box [.pure (.val (.int .i64 ((IntKind.wrap .i64 (1 + (IntKind.wrap .i64 ((Int.tmod v20.fKind 4)))))))), .pure (.val (.int .i64 ((Int.tmod ((IntKind.wrap .i64 v20.fFrom)) ((v5.1.length : Int)))))), .pure (.val (.int .i64 ((Int.tmod ((IntKind.wrap .i64 v20.fTo)) ((v5.1.length : Int)))))), .pure (.val (.bool v23)), .own 2035, .own 2036]), (2031, .vec 1 (v5.1.map Ag)), (2032, .vec 1 (v5.2.1.map Ag)), (2033, .vec 1 (v5.2.2.map Ag)), (2034, .vec 6 (v15.1.map Ai)), (2035, .vec 1 (v28.map (Et eB))), (2036, .vec 1 (v29.map (Et eB)))]) (fun j29 h => ?_) (fun v29 h => ?_)
        ·refine Ab (Aa Ad rfl (qf Fl rfl (ql B9 rfl (B6 rfl (Ac ?_)))))
         refine As rfl (fun c30 => ?_) (fun c30 => ?_)
         ·have h := Ap c30 h
          refine Aa Ad rfl (qf Br rfl (ql A7 rfl (qf CV rfl (ql B9 rfl ?_))))
          obtain ⟨v31, a31, b31, h⟩ := Am h
          refine qI AG Dc a31 (Aj b31) rfl (qj B9 (Aj b31) rfl (qf Br rfl (ql A7 rfl (qf CV rfl (ql B9 rfl ?_)))))
          obtain ⟨v32, a32, b32, h⟩ := Am h
          refine qI AG Dc a32 (Aj b32) rfl (qj B9 (Aj b32) rfl (qf Us rfl (ql WD rfl ?_)))
          obtain ⟨v33, a33, h⟩ := bind_some h
          refine AK [2037] (HK N v31 v32 v20.fLost true v33 a33) W3 rfl (qf F4 rfl (qs Wa rfl (AY (by kernel_rfl) ?_)))
          exact Aw _ h (sm [(2031, 2026), (2032, 2027), (2033, 2028), (2034, 2029), (2035, 2030), (2036, 2037)] _ _ rfl rfl)
         ·have h := Aq c30 h
          refine Av ?_
          exact Aw _ h ((AE 9 5 2038 1 _ rfl rfl rfl rfl).trans (sm [(2031, 2026), (2032, 2027), (2033, 2028), (2034, 2029), (2035, 2030), (2036, 2038)] _ _ rfl rfl))
        ·refine Aa Ad rfl (qf CF rfl (ql Gq rfl (qL GB DP rfl (DY (BV 2035 _ _ rfl rfl) (DY (BV 2036 _ _ rfl rfl) (Ep DO DP JR rfl ?_))))))
         obtain ⟨c34, h⟩ := AO h
         refine Dx (f := Ai) DO DO DP WU JR c34 rfl (qf CF rfl (qs Xz rfl (Ac (Aa Ad rfl (qm rfl (Bn rfl (qa rfl (Ac ?_))))))))
         exact Aw _ h (sm [(2014, 2031), (2015, 2032), (2016, 2033), (2017, 149)] _ _ rfl rfl)
      ·have h := Aq c19 h
       refine A4 ?_
       exact Aw _ h (sm [(2018, 2022), (2019, 2023), (2020, 2024), (2021, 2025)] _ _ rfl rfl)
    ·refine Al hs (Ab (Aa Ad rfl (qL Dr CX rfl (qs CX rfl (qa rfl (Ac ?_))))))
     obtain rfl := sj h
     refine Al (sm [(1000, 2018), (1001, 2019), (1002, 2020), (1003, 2021)] [(2, .e (.one (.ptr 2 0))), (3, .e (.one (.pure (.val (.bool true)))))] [(2, .box [.own 1000, .own 1001, .own 1002, .own 1003]), (1000, .vec 1 (v5.1.map Ag)), (1001, .vec 1 (v5.2.1.map Ag)), (1002, .vec 1 (v5.2.2.map Ag)), (1003, .vec 6 (v16.map Ai))] rfl rfl) (AC ?_)
     exact ⟨⟨[_, _], ⟨.cellN _ _ _ _ _ _ _ rfl rfl Dr CX rfl rfl (Hb rfl), ⟨.tmp _ _ rfl, trivial⟩⟩, rfl⟩, ⟨rfl, rfl, rfl, rfl, trivial⟩⟩
set_option maxRecDepth 10000 in
theorem GZ (N : Nat) (p0 : List (List Bool)) (p1 : Int) (p2 : Int) (r : Bool) (h : C8 N p0 p1 p2 = some r) : AA Try.prog 91 [.e (.one (.pure (.sl (p0.map (Et eB))))), .e (.one (.pure (.val (.int .i64 p1)))), .e (.one (.pure (.val (.int .i64 p2))))] [] (.e (.one (.pure (.val (.bool r))))) := by
 unfold C8 at h
 refine Ao (n := 24) (rs := [.tmp 6]) Try.func91 rfl rfl rfl (BF rfl) (BF rfl) rfl fun w0 S0 => ?_
 refine Ab (Aa Ad rfl (qa rfl (Ac (Ab (Ab (Aa Ad rfl (qm rfl (AS FN rfl (qm rfl (Co rfl (Ac ?_)))))))))))
 refine As rfl (fun c1 => ?_) (fun c1 => ?_)
 ·have h := Ap c1 h
  refine Ab (Aa Ad rfl (qa rfl (Ac ?_)))
  obtain rfl := sj h
  refine Al (sm [] [(6, .e (.one (.pure (.val (.bool false)))))] [] rfl rfl) (AC ?_)
  exact ⟨⟨[_], ⟨.tmp _ _ rfl, trivial⟩, rfl⟩, trivial⟩
 ·have h := Aq c1 h
  refine Av (Ab (Ab (Aa Ad rfl (qa rfl (Ac ?_)))))
  refine AR (L := Cj N p0 p1 p2) h (fun v2 => mk [(0, .e (.one (.pure (.sl (p0.map (Et eB)))))), (1, .e (.one (.pure (.val (.int .i64 p1))))), (2, .e (.one (.pure (.val (.int .i64 p2))))), (7, .e (.one (.pure (.val (.int .i64 v2)))))] []) (fun v3 => mk [] []) (fun _ _ => rfl) (sm [] _ _ rfl rfl) (fun j2 n2 v2 h => ?_) (fun v3 s h hs => ?_)
  ·unfold Cj at h
   refine Ab (Ab (Aa Ad rfl (qm rfl (qm rfl (A8 rfl (Ac ?_))))))
   refine As rfl (fun c4 => ?_) (fun c4 => ?_)
   ·have h := Ap c4 h
    refine Av (Ab (AU (Ab (Aa Ad rfl (qm rfl (qm rfl ?_))))))
    obtain ⟨v5, a5, b5, h⟩ := Am h
    refine qi FN L6 a5 (Aj b5) rfl (qk Ou rfl (AS FT rfl (qm rfl (Co rfl (Ac ?_)))))
    refine As rfl (fun c6 => ?_) (fun c6 => ?_)
    ·have h := Ap c6 h
     refine Ab (Aa Ad rfl (qa rfl (Ac ?_)))
     obtain rfl := sj h
     refine Al (sm [] [(6, .e (.one (.pure (.val (.bool false)))))] [] rfl rfl) (AC ?_)
     exact ⟨⟨[_], ⟨.tmp _ _ rfl, trivial⟩, rfl⟩, trivial⟩
    ·have h := Aq c6 h
     refine Av (Aa Ad rfl (qm rfl (Bn rfl (qa rfl (Ac ?_)))))
     exact Aw _ h (sm [] _ _ rfl rfl)
   ·have h := Aq c4 h
    refine A4 ?_
    exact Aw _ h (sm [] _ _ rfl rfl)
  ·refine Al hs (Ab (Aa Ad rfl (qa rfl (Ac ?_))))
   obtain rfl := sj h
   refine Al (sm [] [(6, .e (.one (.pure (.val (.bool true)))))] [] rfl rfl) (AC ?_)
   exact ⟨⟨[_], ⟨.tmp _ _ rfl, trivial⟩, rfl⟩, trivial⟩
set_option maxRecDepth 10000 in
theorem JS (N : Nat) (p0 : Ae) (p1 : AF) (r : Int) (h : Ea N p0 p1 = some r) : AA Try.prog 64 [.e (.agg [.pure (.sl (p0.fVersions.map Ag)), .pure (.sl (p0.fNow.map Ag)), .pure (.sl (p0.fTarget.map Ag)), .pure (.sl (p0.fTables.map Ai))]), .e (.agg [.pure (.val (.int .i64 p1.fKind)), .pure (.val (.int .i64 p1.fFrom)), .pure (.val (.int .i64 p1.fTo)), .pure (.val (.bool p1.fAware)), .pure (.sl (p1.fOK.map (Et eB))), .pure (.sl (p1.fRewrite.map (Et eB)))])] [] (.e (.one (.pure (.val (.int .i64 r))))) := by
 unfold Ea at h
 refine Ao (n := 101) (rs := [.tmp 4]) Try.func64 rfl rfl rfl (BF rfl) (BF rfl) rfl fun w0 S0 => ?_
 refine Ab (Aa Ad rfl (qb rfl (qb rfl (qa rfl (Ac (Ab ?_))))))
 refine AX h (fun v1 => mk [(2, .e (.one (.ptr 2 0))), (3, .e (.one (.ptr 3 0))), (22, .e (.one (.pure (.val (.bool v1)))))] [(2, .box [.pure (.sl (p0.fVersions.map Ag)), .pure (.sl (p0.fNow.map Ag)), .pure (.sl (p0.fTarget.map Ag)), .pure (.sl (p0.fTables.map Ai))]), (3, .box [.pure (.val (.int .i64 p1.fKind)), .pure (.val (.int .i64 p1.fFrom)), .pure (.val (.int .i64 p1.fTo)), .pure (.val (.bool p1.fAware)), .pure (.sl (p1.fOK.map (Et eB))), .pure (.sl (p1.fRewrite.map (Et eB)))])]) (fun j1 h => ?_) (fun v1 h => ?_)
 ·refine Aa Ad rfl (qf Fl rfl (ql B9 rfl (A8 rfl (qm rfl ?_))))
  refine AI (t := 10) rfl (fun c2 => ?_) (fun c2 => ?_)
  ·have h := Ap c2 h
   refine qn rfl (qn rfl (qn rfl (qp rfl (qm rfl (qn rfl (qn rfl (qn rfl (qu rfl (qu rfl (qn rfl (qp rfl (Ac ?_))))))))))))
   exact Aw _ h (sm [] _ _ rfl rfl)
  ·have h := Aq c2 h
   refine qf Fl rfl (ql B9 rfl (Ge rfl (qp rfl (qm rfl ?_))))
   refine AI (t := 15) rfl (fun c3 => ?_) (fun c3 => ?_)
   ·have h := Ap c3 h
    refine qn rfl (qn rfl (qn rfl (qu rfl (qu rfl (qn rfl (qp rfl (Ac ?_)))))))
    exact Aw _ h (sm [] _ _ rfl rfl)
   ·have h := Aq c3 h
    refine qf H2 rfl (ql Rx rfl (qm rfl ?_))
    refine AI (t := 18) rfl (fun c4 => ?_) (fun c4 => ?_)
    ·have h := Ap c4 h
     refine qL GB DP rfl ?_
     obtain ⟨v5, a5, h⟩ := bind_some h
     refine AK [] (Cd N p1 v5 a5) Oq rfl (qp rfl (qp rfl (Ac ?_)))
     exact Aw _ h (sm [] _ _ rfl rfl)
    ·have h := Aq c4 h
     refine qn rfl (qn rfl (qp rfl (qp rfl (Ac ?_))))
     exact Aw _ h (sm [] _ _ rfl rfl)
 ·refine As rfl (fun c6 => ?_) (fun c6 => ?_)
  ·have h := Ap c6 h
   refine Ab (Aa Ad rfl (qa rfl (Ac ?_)))
   obtain rfl := sj h
   refine Al (sm [] [(4, .e (.one (.pure (.val (.int .i64 1)))))] [] rfl rfl) (AC ?_)
   exact ⟨⟨[_], ⟨.tmp _ _ rfl, trivial⟩, rfl⟩, trivial⟩
  ·have h := Aq c6 h
   refine Av (Ab (Aa Ad rfl (qf Br rfl (ql A7 rfl (AS AG rfl (qa rfl (Ac (Ab ?_))))))))
   refine AX h (fun v7 => mk [(2, .e (.one (.ptr 2 0))), (3, .e (.one (.ptr 3 0))), (45, .e (.one (.pure (.val (.bool v7)))))] [(2, .box [.pure (.sl (p0.fVersions.map Ag)), .pure (.sl (p0.fNow.map Ag)), .pure (.sl (p0.fTarget.map Ag)), .pure (.sl (p0.fTables.map Ai))]), (3, .box [.pure (.val (.int .i64 p1.fKind)), .pure (.val (.int .i64 p1.fFrom)), .pure (.val (.int .i64 p1.fTo)), .pure (.val (.bool p1.fAware)), .pure (.sl (p1.fOK.map (Et eB))), .pure (.sl (p1.fRewrite.map (Et eB)))])]) (fun j7 h => ?_) (fun v7 h => ?_)
   ·refine Aa Ad rfl (qf CV rfl (ql B9 rfl (A8 rfl (qm rfl ?_))))
    refine AI (t := 29) rfl (fun c8 => ?_) (fun c8 => ?_)
    ·have h := Ap c8 h
     refine qn rfl (qn rfl (qn rfl (qn rfl (qp rfl (qm rfl (qn rfl (qn rfl (qn rfl (qp rfl (qm rfl (qn rfl (qn rfl (qn rfl (qn rfl (qp rfl (Ac ?_))))))))))))))))
     exact Aw _ h (sm [] _ _ rfl rfl)
    ·have h := Aq c8 h
     refine qf CV rfl (ql B9 rfl (qm rfl (Ez rfl (qp rfl (qm rfl ?_)))))
     refine AI (t := 35) rfl (fun c9 => ?_) (fun c9 => ?_)
     ·have h := Ap c9 h
      refine qn rfl (qn rfl (qn rfl (qp rfl (qm rfl (qn rfl (qn rfl (qn rfl (qn rfl (qp rfl (Ac ?_))))))))))
      exact Aw _ h (sm [] _ _ rfl rfl)
     ·have h := Aq c9 h
      refine qf Hq rfl (ql B9 rfl (A8 rfl (qp rfl (qm rfl ?_))))
      refine AI (t := 40) rfl (fun c10 => ?_) (fun c10 => ?_)
      ·have h := Ap c10 h
       refine qn rfl (qn rfl (qn rfl (qn rfl (qp rfl (Ac ?_)))))
       exact Aw _ h (sm [] _ _ rfl rfl)
      ·have h := Aq c10 h
       refine qf Hq rfl (ql B9 rfl (qm rfl (Ez rfl (qp rfl (Ac ?_)))))
       exact Aw _ h (sm [] _ _ rfl rfl)
   ·refine As rfl (fun c11 => ?_) (fun c11 => ?_)
    ·have h := Ap c11 h
     refine Ab (Aa Ad rfl (qa rfl (Ac ?_)))
     obtain rfl := sj h
     refine Al (sm [] [(4, .e (.one (.pure (.val (.int .i64 4)))))] [] rfl rfl) (AC ?_)
     exact ⟨⟨[_], ⟨.tmp _ _ rfl, trivial⟩, rfl⟩, trivial⟩
    ·have h := Aq c11 h
     refine Av (Ab (Ab (Aa Ad rfl (qf IC rfl (ql Jd rfl (qf Br rfl (ql A7 rfl (qf CV rfl (ql B9 rfl ?_)))))))))
     obtain ⟨v12, a12, b12, h⟩ := Am h
     refine qi AG Dc a12 (Aj b12) rfl (qk B9 rfl (qf Br rfl (ql A7 rfl (qf Hq rfl (ql B9 rfl ?_)))))
     obtain ⟨v13, a13, b13, h⟩ := Am h
     refine qi AG Dc a13 (Aj b13) rfl (qk B9 rfl ?_)
     obtain ⟨v14, a14, h⟩ := bind_some h
     refine AK [] (GZ N p1.fOK v12 v13 v14 a14) Wr rfl (CE rfl (AY (by kernel_rfl) ?_))
     refine As rfl (fun c15 => ?_) (fun c15 => ?_)
     ·have h := Ap c15 h
      refine Ab (Aa Ad rfl (qa rfl (Ac ?_)))
      obtain rfl := sj h
      refine Al (sm [] [(4, .e (.one (.pure (.val (.int .i64 6)))))] [] rfl rfl) (AC ?_)
      exact ⟨⟨[_], ⟨.tmp _ _ rfl, trivial⟩, rfl⟩, trivial⟩
     ·have h := Aq c15 h
      refine Av (Ab (Ab (Aa Ad rfl (qf Fl rfl (ql B9 rfl (Co rfl (Ac ?_)))))))
      refine As rfl (fun c16 => ?_) (fun c16 => ?_)
      ·have h := Ap c16 h
       refine Ab (Ab (Aa Ad rfl (qf F4 rfl (ql Jd rfl (AS FN rfl (Co rfl (Ac ?_)))))))
       refine As rfl (fun c17 => ?_) (fun c17 => ?_)
       ·have h := Ap c17 h
        refine Ab (Aa Ad rfl (qa rfl (Ac ?_)))
        obtain rfl := sj h
        refine Al (sm [] [(4, .e (.one (.pure (.val (.int .i64 6)))))] [] rfl rfl) (AC ?_)
        exact ⟨⟨[_], ⟨.tmp _ _ rfl, trivial⟩, rfl⟩, trivial⟩
       ·have h := Aq c17 h
        refine Av (Ab (Aa Ad rfl (qa rfl (Ac ?_))))
        obtain rfl := sj h
        refine Al (sm [] [(4, .e (.one (.pure (.val (.int .i64 0)))))] [] rfl rfl) (AC ?_)
        exact ⟨⟨[_], ⟨.tmp _ _ rfl, trivial⟩, rfl⟩, trivial⟩
      ·have h := Aq c16 h
       refine Av (Ab (Ab (Aa Ad rfl (qf F4 rfl (ql Jd rfl (qf Br rfl (ql A7 rfl (qf CV rfl (ql B9 rfl ?_)))))))))
       obtain ⟨v18, a18, b18, h⟩ := Am h
       refine qi AG Dc a18 (Aj b18) rfl (qk B9 rfl (qf Br rfl (ql A7 rfl (qf CV rfl (ql B9 rfl ?_)))))
       obtain ⟨v19, a19, b19, h⟩ := Am h
       refine qi AG Dc a19 (Aj b19) rfl (qk B9 rfl ?_)
       obtain ⟨v20, a20, h⟩ := bind_some h
       refine AK [] (GZ N p1.fRewrite v18 v19 v20 a20) Wr rfl (CE rfl (AY (by kernel_rfl) ?_))
       refine As rfl (fun c21 => ?_) (fun c21 => ?_)
       ·have h := Ap c21 h
        refine Ab (Aa Ad rfl (qa rfl (Ac ?_)))
        obtain rfl := sj h
        refine Al (sm [] [(4, .e (.one (.pure (.val (.int .i64 6)))))] [] rfl rfl) (AC ?_)
        exact ⟨⟨[_], ⟨.tmp _ _ rfl, trivial⟩, rfl⟩, trivial⟩
       ·have h := Aq c21 h
        refine Av (Ab (Ab (Aa Ad rfl (qa rfl (Ac ?_)))))
        refine AR (L := BS N p1) h (fun v22 => mk [(3, .e (.one (.ptr 3 0))), (6, .e (.one (.pure (.val (.int .i64 v22)))))] [(3, .box [.pure (.val (.int .i64 p1.fKind)), .pure (.val (.int .i64 p1.fFrom)), .pure (.val (.int .i64 p1.fTo)), .pure (.val (.bool p1.fAware)), .pure (.sl (p1.fOK.map (Et eB))), .pure (.sl (p1.fRewrite.map (Et eB)))])]) (fun v23 => mk [] []) (fun _ _ => rfl) (sm [] _ _ rfl rfl) (fun j22 n22 v22 h => ?_) (fun v23 s h hs => ?_)
        ·unfold BS at h
         refine Ab (Ab (Aa Ad rfl (qm rfl (qf F4 rfl (ql Jd rfl (AS FN rfl (A8 rfl (Ac ?_))))))))
         refine As rfl (fun c24 => ?_) (fun c24 => ?_)
         ·have h := Ap c24 h
          refine Av (Ab (AU (Ab (Aa Ad rfl (qf F4 rfl (ql Jd rfl (qm rfl ?_)))))))
          obtain ⟨v25, a25, b25, h⟩ := Am h
          refine qi FN L6 a25 (Aj b25) rfl (qk Ou rfl (qm rfl ?_))
          obtain ⟨v26, a26, b26, h⟩ := Am h
          refine qi FT PW a26 (Aj b26) rfl (qk Rx rfl (CE rfl (Ac ?_)))
          refine As rfl (fun c27 => ?_) (fun c27 => ?_)
          ·have h := Ap c27 h
           refine Ab (Aa Ad rfl (qa rfl (Ac ?_)))
           obtain rfl := sj h
           refine Al (sm [] [(4, .e (.one (.pure (.val (.int .i64 1)))))] [] rfl rfl) (AC ?_)
           exact ⟨⟨[_], ⟨.tmp _ _ rfl, trivial⟩, rfl⟩, trivial⟩
          ·have h := Aq c27 h
           refine Av (Aa Ad rfl (qm rfl (Bn rfl (qa rfl (Ac ?_)))))
           exact Aw _ h (sm [] _ _ rfl rfl)
         ·have h := Aq c24 h
          refine A4 ?_
          exact Aw _ h (sm [] _ _ rfl rfl)
        ·refine Al hs (Ab (Aa Ad rfl (qa rfl (Ac ?_))))
         obtain rfl := sj h
         refine Al (sm [] [(4, .e (.one (.pure (.val (.int .i64 0)))))] [] rfl rfl) (AC ?_)
         exact ⟨⟨[_], ⟨.tmp _ _ rfl, trivial⟩, rfl⟩, trivial⟩
end Go.Lift

/- That the code does what the shallow programs do, function by function. Written by a program (gen.py). -/
namespace Go.Lift
open Go.RowKit
open Go.Proofs
set_option maxRecDepth 10000 in
theorem Fv (N : Nat) (p0 : Ae) (r : Int) (h : Cl N p0 = some r) : AA Try.prog 33 [.e (.agg [.pure (.sl (p0.fVersions.map Ag)), .pure (.sl (p0.fNow.map Ag)), .pure (.sl (p0.fTarget.map Ag)), .pure (.sl (p0.fTables.map Ai))])] [] (.e (.one (.pure (.val (.int .i64 r))))) := by
 unfold Cl at h
 refine Ao (n := 102) (rs := [.tmp 2]) Try.func33 rfl rfl rfl (BF rfl) (BF rfl) rfl fun w0 S0 => ?_
 refine Ab (Aa Ad rfl (qb rfl (qa rfl (Ac (Ab ?_)))))
 refine AX h (fun v1 => mk [(1, .e (.one (.ptr 1 0))), (16, .e (.one (.pure (.val (.bool v1)))))] [(1, .box [.pure (.sl (p0.fVersions.map Ag)), .pure (.sl (p0.fNow.map Ag)), .pure (.sl (p0.fTarget.map Ag)), .pure (.sl (p0.fTables.map Ai))])]) (fun j1 h => ?_) (fun v1 h => ?_)
 ·refine Aa Ad rfl (qf Br rfl (ql A7 rfl (AS AG rfl (Ge rfl (qm rfl ?_)))))
  refine AI (t := 11) rfl (fun c2 => ?_) (fun c2 => ?_)
  ·have h := Ap c2 h
   refine qn rfl (qn rfl (qn rfl (qn rfl (qp rfl (Ac ?_)))))
   exact Aw _ h (sm [] _ _ rfl rfl)
  ·have h := Aq c2 h
   refine qf CF rfl (ql Gq rfl (AS DO rfl (Ge rfl (qp rfl (Ac ?_)))))
   exact Aw _ h (sm [] _ _ rfl rfl)
 ·refine As rfl (fun c3 => ?_) (fun c3 => ?_)
  ·have h := Ap c3 h
   refine Ab (Aa Ad rfl (qa rfl (Ac ?_)))
   obtain rfl := sj h
   refine Al (sm [] [(2, .e (.one (.pure (.val (.int .i64 3)))))] [] rfl rfl) (AC ?_)
   exact ⟨⟨[_], ⟨.tmp _ _ rfl, trivial⟩, rfl⟩, trivial⟩
  ·have h := Aq c3 h
   refine Av (Ab ?_)
   refine AX h (fun v4 => mk [(1, .e (.one (.ptr 1 0))), (32, .e (.one (.pure (.val (.bool v4)))))] [(1, .box [.pure (.sl (p0.fVersions.map Ag)), .pure (.sl (p0.fNow.map Ag)), .pure (.sl (p0.fTarget.map Ag)), .pure (.sl (p0.fTables.map Ai))])]) (fun j4 h => ?_) (fun v4 h => ?_)
   ·refine Aa Ad rfl (qf F5 rfl (ql A7 rfl (AS AG rfl (qf Br rfl (ql A7 rfl (AS AG rfl (Co rfl (qm rfl ?_))))))))
    refine AI (t := 24) rfl (fun c5 => ?_) (fun c5 => ?_)
    ·have h := Ap c5 h
     refine qn rfl (qn rfl (qn rfl (qn rfl (qn rfl (qn rfl (qn rfl (qp rfl (Ac ?_))))))))
     exact Aw _ h (sm [] _ _ rfl rfl)
    ·have h := Aq c5 h
     refine qf Hp rfl (ql A7 rfl (AS AG rfl (qf Br rfl (ql A7 rfl (AS AG rfl (Co rfl (qp rfl (Ac ?_))))))))
     exact Aw _ h (sm [] _ _ rfl rfl)
   ·refine As rfl (fun c6 => ?_) (fun c6 => ?_)
    ·have h := Ap c6 h
     refine Ab (Aa Ad rfl (qa rfl (Ac ?_)))
     obtain rfl := sj h
     refine Al (sm [] [(2, .e (.one (.pure (.val (.int .i64 6)))))] [] rfl rfl) (AC ?_)
     exact ⟨⟨[_], ⟨.tmp _ _ rfl, trivial⟩, rfl⟩, trivial⟩
    ·have h := Aq c6 h
     refine Av (Ab (Ab (Aa Ad rfl (qa rfl (Ac ?_)))))
     refine AR (L := Bg N p0) h (fun v7 => mk [(1, .e (.one (.ptr 1 0))), (3, .e (.one (.pure (.val (.int .i64 v7)))))] [(1, .box [.pure (.sl (p0.fVersions.map Ag)), .pure (.sl (p0.fNow.map Ag)), .pure (.sl (p0.fTarget.map Ag)), .pure (.sl (p0.fTables.map Ai))])]) (fun v8 => mk [(1, .e (.one (.ptr 1 0)))] [(1, .box [.pure (.sl (p0.fVersions.map Ag)), .pure (.sl (p0.fNow.map Ag)), .pure (.sl (p0.fTarget.map Ag)), .pure (.sl (p0.fTables.map Ai))])]) (fun _ _ => rfl) (sm [] _ _ rfl rfl) (fun j7 n7 v7 h => ?_) (fun v8 s h hs => ?_)
     ·unfold Bg at h
      refine Ab (Ab (Aa Ad rfl (qm rfl (qf Br rfl (ql A7 rfl (AS AG rfl (A8 rfl (Ac ?_))))))))
      refine As rfl (fun c9 => ?_) (fun c9 => ?_)
      ·have h := Ap c9 h
       refine Av (Ab (AU (Ab (Aa Ad rfl (qf Br rfl (ql A7 rfl (qm rfl ?_)))))))
       obtain ⟨v10, a10, b10, h⟩ := Am h
       refine qi AG Dc a10 (Aj b10) rfl (qk B9 rfl (qa rfl (Ac ?_)))
       refine AX h (fun v11 => mk [(1, .e (.one (.ptr 1 0))), (3, .e (.one (.pure (.val (.int .i64 v7))))), (84, .e (.one (.pure (.val (.bool v11)))))] [(1, .box [.pure (.sl (p0.fVersions.map Ag)), .pure (.sl (p0.fNow.map Ag)), .pure (.sl (p0.fTarget.map Ag)), .pure (.sl (p0.fTables.map Ai))])]) (fun j11 h => ?_) (fun v11 h => ?_)
       ·refine Aa Ad rfl (qm rfl (A8 rfl (qm rfl ?_)))
        refine AI (t := 47) rfl (fun c12 => ?_) (fun c12 => ?_)
        ·have h := Ap c12 h
         refine qn rfl (qn rfl (qp rfl (qm rfl (qn rfl (qn rfl (qn rfl (qn rfl (qn rfl (qn rfl (qp rfl (qm rfl (qn rfl (qn rfl (qn rfl (qn rfl (qn rfl (qn rfl (qn rfl (qp rfl (qm rfl (qn rfl (qn rfl (qn rfl (qn rfl (qn rfl (qn rfl (qp rfl (qm rfl (qn rfl (qn rfl (qn rfl (qn rfl (qn rfl (qn rfl (qn rfl (qp rfl (Ac ?_)))))))))))))))))))))))))))))))))))))
         exact Aw _ h (sm [] _ _ rfl rfl)
        ·have h := Aq c12 h
         refine qm rfl (Ge rfl (qp rfl (qm rfl ?_)))
         refine AI (t := 51) rfl (fun c13 => ?_) (fun c13 => ?_)
         ·have h := Ap c13 h
          refine qn rfl (qn rfl (qn rfl (qn rfl (qn rfl (qn rfl (qp rfl (qm rfl (qn rfl (qn rfl (qn rfl (qn rfl (qn rfl (qn rfl (qn rfl (qp rfl (qm rfl (qn rfl (qn rfl (qn rfl (qn rfl (qn rfl (qn rfl (qp rfl (qm rfl (qn rfl (qn rfl (qn rfl (qn rfl (qn rfl (qn rfl (qn rfl (qp rfl (Ac ?_)))))))))))))))))))))))))))))))))
          exact Aw _ h (sm [] _ _ rfl rfl)
         ·have h := Aq c13 h
          refine qf F5 rfl (ql A7 rfl (qm rfl ?_))
          obtain ⟨v14, a14, b14, h⟩ := Am h
          refine qi AG Dc a14 (Aj b14) rfl (qk B9 rfl (A8 rfl (qp rfl (qm rfl ?_))))
          refine AI (t := 59) rfl (fun c15 => ?_) (fun c15 => ?_)
          ·have h := Ap c15 h
           refine qn rfl (qn rfl (qn rfl (qn rfl (qn rfl (qn rfl (qn rfl (qp rfl (qm rfl (qn rfl (qn rfl (qn rfl (qn rfl (qn rfl (qn rfl (qp rfl (qm rfl (qn rfl (qn rfl (qn rfl (qn rfl (qn rfl (qn rfl (qn rfl (qp rfl (Ac ?_)))))))))))))))))))))))))
           exact Aw _ h (sm [] _ _ rfl rfl)
          ·have h := Aq c15 h
           refine qf F5 rfl (ql A7 rfl (qm rfl ?_))
           obtain ⟨v16, a16, b16, h⟩ := Am h
           refine qi AG Dc a16 (Aj b16) rfl (qk B9 rfl (qm rfl (Ez rfl (qp rfl (qm rfl ?_)))))
           refine AI (t := 68) rfl (fun c17 => ?_) (fun c17 => ?_)
           ·have h := Ap c17 h
            refine qn rfl (qn rfl (qn rfl (qn rfl (qn rfl (qn rfl (qp rfl (qm rfl (qn rfl (qn rfl (qn rfl (qn rfl (qn rfl (qn rfl (qn rfl (qp rfl (Ac ?_))))))))))))))))
            exact Aw _ h (sm [] _ _ rfl rfl)
           ·have h := Aq c17 h
            refine qf Hp rfl (ql A7 rfl (qm rfl ?_))
            obtain ⟨v18, a18, b18, h⟩ := Am h
            refine qi AG Dc a18 (Aj b18) rfl (qk B9 rfl (A8 rfl (qp rfl (qm rfl ?_))))
            refine AI (t := 76) rfl (fun c19 => ?_) (fun c19 => ?_)
            ·have h := Ap c19 h
             refine qn rfl (qn rfl (qn rfl (qn rfl (qn rfl (qn rfl (qn rfl (qp rfl (Ac ?_))))))))
             exact Aw _ h (sm [] _ _ rfl rfl)
            ·have h := Aq c19 h
             refine qf Hp rfl (ql A7 rfl (qm rfl ?_))
             obtain ⟨v20, a20, b20, h⟩ := Am h
             refine qi AG Dc a20 (Aj b20) rfl (qk B9 rfl (qm rfl (Ez rfl (qp rfl (Ac ?_)))))
             exact Aw _ h (sm [] _ _ rfl rfl)
       ·refine As rfl (fun c21 => ?_) (fun c21 => ?_)
        ·have h := Ap c21 h
         refine Ab (Aa Ad rfl (qa rfl (Ac ?_)))
         obtain rfl := sj h
         refine Al (sm [] [(2, .e (.one (.pure (.val (.int .i64 7)))))] [] rfl rfl) (AC ?_)
         exact ⟨⟨[_], ⟨.tmp _ _ rfl, trivial⟩, rfl⟩, trivial⟩
        ·have h := Aq c21 h
         refine Av (Aa Ad rfl (qm rfl (Bn rfl (qa rfl (Ac ?_)))))
         exact Aw _ h (sm [] _ _ rfl rfl)
      ·have h := Aq c9 h
       refine A4 ?_
       exact Aw _ h (sm [] _ _ rfl rfl)
     ·refine Al hs (Ab (Ab (Aa Ad rfl (qa rfl (Ac ?_)))))
      refine AR (L := Ba N p0) h (fun v22 => mk [(1, .e (.one (.ptr 1 0))), (5, .e (.one (.pure (.val (.int .i64 v22)))))] [(1, .box [.pure (.sl (p0.fVersions.map Ag)), .pure (.sl (p0.fNow.map Ag)), .pure (.sl (p0.fTarget.map Ag)), .pure (.sl (p0.fTables.map Ai))])]) (fun v23 => mk [] []) (fun _ _ => rfl) (sm [] _ _ rfl rfl) (fun j22 n22 v22 h => ?_) (fun v23 s h hs => ?_)
      ·unfold Ba at h
       refine Ab (Ab (Aa Ad rfl (qm rfl (qf CF rfl (ql Gq rfl (AS DO rfl (A8 rfl (Ac ?_))))))))
       refine As rfl (fun c24 => ?_) (fun c24 => ?_)
       ·have h := Ap c24 h
        refine Av (Ab (AU (Ab (Aa Ad rfl (qL Dr CX rfl (qf CF rfl (ql Gq rfl (qm rfl ?_))))))))
        obtain ⟨v25, a25, b25, h⟩ := Am h
        refine qi DO DP a25 (Aj b25) rfl (qK GB DP rfl ?_)
        obtain ⟨v26, a26, h⟩ := bind_some h
        refine AK [] (JS N p0 v25 v26 a26) Xv rfl (qa rfl (AY (by kernel_rfl) (Ab (Aa Ad rfl (qm rfl (Co rfl (Ac ?_)))))))
        refine As rfl (fun c27 => ?_) (fun c27 => ?_)
        ·have h := Ap c27 h
         refine Ab (Aa Ad rfl (qm rfl (qa rfl (Ac ?_))))
         obtain rfl := sj h
         refine Al (sm [] [(2, .e (.one (.pure (.val (.int .i64 v26)))))] [] rfl rfl) (AC ?_)
         exact ⟨⟨[_], ⟨.tmp _ _ rfl, trivial⟩, rfl⟩, trivial⟩
        ·have h := Aq c27 h
         refine Av (Aa Ad rfl (qm rfl (Bn rfl (qa rfl (Ac ?_)))))
         exact Aw _ h (sm [] _ _ rfl rfl)
       ·have h := Aq c24 h
        refine A4 ?_
        exact Aw _ h (sm [] _ _ rfl rfl)
      ·refine Al hs (Ab (Aa Ad rfl (qa rfl (Ac ?_))))
       obtain rfl := sj h
       refine Al (sm [] [(2, .e (.one (.pure (.val (.int .i64 0)))))] [] rfl rfl) (AC ?_)
       exact ⟨⟨[_], ⟨.tmp _ _ rfl, trivial⟩, rfl⟩, trivial⟩
set_option maxRecDepth 10000 in
theorem Hd (N : Nat) (p0 : Ae) (r : Ah × Int) (h : Dk N p0 = some r) : AA Try.prog 29 [.e (.agg [.pure (.sl (p0.fVersions.map Ag)), .pure (.sl (p0.fNow.map Ag)), .pure (.sl (p0.fTarget.map Ag)), .pure (.sl (p0.fTables.map Ai))])] [(1, r.1.fBase.map Ag), (1, r.1.fNext.map Ag), (1, r.1.fHeld.map A9)] (.tup [.agg [.own 0, .own 1, .own 2], .one (.pure (.val (.int .i64 r.2)))]) := by
 unfold Dk at h
 refine Ao (n := 68) (rs := [.cell 2 43, .tmp 3]) Try.func29 rfl rfl rfl (BF rfl) (BF rfl) rfl fun w0 S0 => ?_
 refine Ab (Aa Ad rfl (qb rfl (qz C7 rfl (qa rfl (Ac (Ab (Ab (Aa Ad rfl (qL Dr CX rfl ?_)))))))))
 obtain ⟨v1, a1, h⟩ := bind_some h
 refine AK [] (Fv N p0 v1 a1) Wo rfl (qa rfl (Ac (Ab (Aa Ad rfl (qm rfl (Co rfl (Ac ?_)))))))
 refine As rfl (fun c2 => ?_) (fun c2 => ?_)
 ·have h := Ap c2 h
  refine Ab (Aa Ad rfl (A6 C7 GD rfl (qm rfl (qs AT rfl (qa rfl (Ac ?_))))))
  obtain rfl := sj h
  refine Al ((AE 2 0 2001 1 _ rfl rfl rfl rfl).trans ((AE 2 1 2002 1 _ rfl rfl rfl rfl).trans ((AE 2 2 2003 1 _ rfl rfl rfl rfl).trans (sm [(1000, 2001), (1001, 2002), (1002, 2003)] [(2, .e (.one (.ptr 2 0))), (3, .e (.one (.pure (.val (.int .i64 v1)))))] [(2, .box [.own 1000, .own 1001, .own 1002]), (1000, .vec 1 ((([] : List Int)).map Ag)), (1001, .vec 1 ((([] : List Int)).map Ag)), (1002, .vec 1 ((([] : List Int)).map A9))] rfl rfl)))) (AC ?_)
  exact ⟨⟨[_, _], ⟨.cellN _ _ _ _ _ _ _ rfl rfl Bs AT rfl rfl (Hb rfl), ⟨.tmp _ _ rfl, trivial⟩⟩, rfl⟩, ⟨rfl, rfl, rfl, trivial⟩⟩
 ·have h := Aq c2 h
  refine Av (Ab (Aa Ad rfl (qz C7 rfl (Ac (Ab (Ab (Aa Ad rfl (qa rfl (Ac ?_)))))))))
  refine AR (L := B3 N p0) h (fun v3 => mk [(1, .e (.one (.ptr 1 0))), (2, .e (.one (.ptr 2 0))), (5, .e (.one (.ptr 5 0))), (6, .e (.one (.pure (.val (.int .i64 v3.2.2)))))] [(1, .box [.pure (.sl (p0.fVersions.map Ag)), .pure (.sl (p0.fNow.map Ag)), .pure (.sl (p0.fTarget.map Ag)), .pure (.sl (p0.fTables.map Ai))]), (2, .box [.pure (.nil0), .pure (.nil0), .pure (.nil0)]), (5, .box [.own 2004, .own 2005, .pure (.nil0)]), (2004, .vec 1 (v3.1.map Ag)), (2005, .vec 1 (v3.2.1.map Ag))]) (fun v4 => mk [(1, .e (.one (.ptr 1 0))), (2, .e (.one (.ptr 2 0))), (5, .e (.one (.ptr 5 0)))] [(1, .box [.pure (.sl (p0.fVersions.map Ag)), .pure (.sl (p0.fNow.map Ag)), .pure (.sl (p0.fTarget.map Ag)), .pure (.sl (p0.fTables.map Ai))]), (2, .box [.pure (.nil0), .pure (.nil0), .pure (.nil0)]), (5, .box [.own 2006, .own 2007, .pure (.nil0)]), (2006, .vec 1 (v4.1.map Ag)), (2007, .vec 1 (v4.2.map Ag))]) (fun _ _ => rfl) ((AE 5 0 2008 1 _ rfl rfl rfl rfl).trans ((AE 5 1 2009 1 _ rfl rfl rfl rfl).trans (sm [(2004, 2008), (2005, 2009)] _ _ rfl rfl))) (fun j3 n3 v3 h => ?_) (fun v4 s h hs => ?_)
  ·unfold B3 at h
   refine Ab (Ab (Aa Ad rfl (qm rfl (qf Br rfl (ql A7 rfl (AS AG rfl (A8 rfl (Ac ?_))))))))
   refine As rfl (fun c5 => ?_) (fun c5 => ?_)
   ·have h := Ap c5 h
    refine Av (Ab (AU (Ab (Aa Ad rfl (qf CB rfl (ql A7 rfl (qf F5 rfl (ql A7 rfl (qm rfl ?_)))))))))
    obtain ⟨v6, a6, b6, h⟩ := Am h
    refine qi AG Dc a6 (Aj b6) rfl (qk B9 rfl (Ep AG Dc J9 rfl ?_))
    obtain ⟨c7, h⟩ := AO h
    refine Dx (f := Ag) AG AG Dc K8 J9 c7 rfl (qf CB rfl (qs RQ rfl (AY (by kernel_rfl) (Aa Ad rfl (qf Bz rfl (ql A7 rfl (Ep AG Dc J9 rfl ?_)))))))
    obtain ⟨c8, h⟩ := AO h
    refine Dx (f := Ag) AG AG Dc K8 J9 c8 rfl (qf Bz rfl (qs RQ rfl (Ac (Aa Ad rfl (qm rfl (Bn rfl (qa rfl (Ac ?_))))))))
    exact Aw _ h (sm [(2004, 30), (2005, 35)] _ _ rfl rfl)
   ·have h := Aq c5 h
    refine A4 ?_
    exact Aw _ h (sm [(2006, 2004), (2007, 2005)] _ _ rfl rfl)
  ·refine Al hs (Ab (Ab (Aa Ad rfl (qa rfl (Ac ?_)))))
   refine AR (L := Bf N p0) h (fun v9 => mk [(1, .e (.one (.ptr 1 0))), (2, .e (.one (.ptr 2 0))), (5, .e (.one (.ptr 5 0))), (7, .e (.one (.pure (.val (.int .i64 v9.2)))))] [(1, .box [.pure (.sl (p0.fVersions.map Ag)), .pure (.sl (p0.fNow.map Ag)), .pure (.sl (p0.fTarget.map Ag)), .pure (.sl (p0.fTables.map Ai))]), (2, .box [.pure (.nil0), .pure (.nil0), .pure (.nil0)]), (5, .box [.own 2010, .own 2011, .own 2012]), (2010, .vec 1 (v4.1.map Ag)), (2011, .vec 1 (v4.2.map Ag)), (2012, .vec 1 (v9.1.map A9))]) (fun v10 => mk [(2, .e (.one (.ptr 2 0))), (5, .e (.one (.ptr 5 0)))] [(2, .box [.pure (.nil0), .pure (.nil0), .pure (.nil0)]), (5, .box [.own 2013, .own 2014, .own 2015]), (2013, .vec 1 (v4.1.map Ag)), (2014, .vec 1 (v4.2.map Ag)), (2015, .vec 1 (v10.map A9))]) (fun _ _ => rfl) ((AE 5 2 2019 1 _ rfl rfl rfl rfl).trans (sm [(2010, 2006), (2011, 2007), (2012, 2019)] _ _ rfl rfl)) (fun j9 n9 v9 h => ?_) (fun v10 s h hs => ?_)
   ·unfold Bf at h
    refine Ab (Ab (Aa Ad rfl (qm rfl (qf CF rfl (ql Gq rfl (AS DO rfl (A8 rfl (Ac ?_))))))))
    refine As rfl (fun c11 => ?_) (fun c11 => ?_)
    ·have h := Ap c11 h
     refine Av (Ab (AU (Ab (Aa Ad rfl (qa rfl (Ac ?_))))))
     refine AX h (fun v12 => mk [(1, .e (.one (.ptr 1 0))), (2, .e (.one (.ptr 2 0))), (5, .e (.one (.ptr 5 0))), (7, .e (.one (.pure (.val (.int .i64 v9.2))))), (8, .e (.one (.pure (.val (.int .u8 v12)))))] [(1, .box [.pure (.sl (p0.fVersions.map Ag)), .pure (.sl (p0.fNow.map Ag)), .pure (.sl (p0.fTarget.map Ag)), .pure (.sl (p0.fTables.map Ai))]), (2, .box [.pure (.nil0), .pure (.nil0), .pure (.nil0)]), (5, .box [.own 2016, .own 2017, .own 2018]), (2016, .vec 1 (v4.1.map Ag)), (2017, .vec 1 (v4.2.map Ag)), (2018, .vec 1 (v9.1.map A9))]) (fun j12 h => ?_) (fun v12 h => ?_)
     ·refine Ab (Aa Ad rfl (qf CF rfl (ql Gq rfl (qm rfl ?_))))
      obtain ⟨v13, a13, b13, h⟩ := Am h
      refine qi DO DP a13 (Aj b13) rfl (qK GB DP rfl ?_)
      obtain ⟨v14, a14, h⟩ := bind_some h
      refine AK [] (Cd N v13 v14 a14) Oq rfl (Ac ?_)
      refine As rfl (fun c15 => ?_) (fun c15 => ?_)
      ·have h := Ap c15 h
       refine Aa Ad rfl (qf F5 rfl (ql A7 rfl (qf CF rfl (ql Gq rfl (qm rfl ?_)))))
       obtain ⟨v16, a16, b16, h⟩ := Am h
       refine qi DO DP a16 (Aj b16) rfl (qg CV rfl (qk B9 rfl ?_))
       obtain ⟨v17, a17, b17, h⟩ := Am h
       refine qi AG Dc a17 (Aj b17) rfl (qk B9 rfl ?_)
       obtain ⟨c18, h⟩ := AO h
       refine H3 rfl c18 (qa rfl (AY (by kernel_rfl) ?_))
       exact Aw _ h (sm [(2016, 2010), (2017, 2011), (2018, 2012)] _ _ rfl rfl)
      ·have h := Aq c15 h
       refine Av ?_
       exact Aw _ h (sm [(2016, 2010), (2017, 2011), (2018, 2012)] _ _ rfl rfl)
     ·refine Aa Ad rfl (qf Cz rfl (ql Gl rfl (qm rfl (Ep Dm Fq OP rfl ?_))))
      obtain ⟨c19, h⟩ := AO h
      refine Dx (f := A9) Dm Dm Fq PT OP c19 rfl (qf Cz rfl (qs XY rfl (Ac (Aa Ad rfl (qm rfl (Bn rfl (qa rfl (Ac ?_))))))))
      exact Aw _ h (sm [(2010, 2016), (2011, 2017), (2012, 65)] _ _ rfl rfl)
    ·have h := Aq c11 h
     refine A4 ?_
     exact Aw _ h (sm [(2013, 2010), (2014, 2011), (2015, 2012)] _ _ rfl rfl)
   ·refine Al hs (Ab (Aa Ad rfl (qL Bs AT rfl (qs AT rfl (qa rfl (Ac ?_))))))
    obtain rfl := sj h
    refine Al (sm [(1000, 2013), (1001, 2014), (1002, 2015)] [(2, .e (.one (.ptr 2 0))), (3, .e (.one (.pure (.val (.int .i64 0)))))] [(2, .box [.own 1000, .own 1001, .own 1002]), (1000, .vec 1 (v4.1.map Ag)), (1001, .vec 1 (v4.2.map Ag)), (1002, .vec 1 (v10.map A9))] rfl rfl) (AC ?_)
    exact ⟨⟨[_, _], ⟨.cellN _ _ _ _ _ _ _ rfl rfl Bs AT rfl rfl (Hb rfl), ⟨.tmp _ _ rfl, trivial⟩⟩, rfl⟩, ⟨rfl, rfl, rfl, trivial⟩⟩
set_option maxRecDepth 10000 in
theorem Jq (N : Nat) (p0 : Ah) (r : Ah) (h : DK N p0 = some r) : AA Try.prog 85 [.e (.agg [.pure (.sl (p0.fBase.map Ag)), .pure (.sl (p0.fNext.map Ag)), .pure (.sl (p0.fHeld.map A9))])] [(1, r.fBase.map Ag), (1, r.fNext.map Ag), (1, r.fHeld.map A9)] (.e (.agg [.own 0, .own 1, .own 2])) := by
 unfold DK at h
 refine Ao (n := 16) (rs := [.cell 2 43]) Try.func85 rfl rfl rfl (BF rfl) (BF rfl) rfl fun w0 S0 => ?_
 refine Ab (Aa Ad rfl (qb rfl (qz C7 rfl (Ac (Ab (Aa Ad rfl (Ep AG Dc J9 rfl (qf CB rfl (ql A7 rfl ?_)))))))))
 obtain ⟨c1, h⟩ := AO h
 refine Ja (f := Ag) AG AG Dc K8 J9 (fun _ => rfl) c1 rfl (Ep AG Dc J9 rfl (qf Bz rfl (ql A7 rfl ?_)))
 obtain ⟨c2, h⟩ := AO h
 refine Ja (f := Ag) AG AG Dc K8 J9 (fun _ => rfl) c2 rfl (Ep Dm Fq OP rfl (qf Cz rfl (ql Gl rfl ?_)))
 obtain ⟨c3, h⟩ := AO h
 refine Ja (f := A9) Dm Dm Fq PT OP (fun _ => rfl) c3 rfl (A6 C7 GD rfl (qs AT rfl (AY (by kernel_rfl) ?_)))
 obtain rfl := sj h
 refine Al (sm [(1000, 6), (1001, 10), (1002, 14)] [(2, .e (.one (.ptr 2 0)))] [(2, .box [.own 1000, .own 1001, .own 1002]), (1000, .vec 1 (((([] : List Int)) ++ p0.fBase).map Ag)), (1001, .vec 1 (((([] : List Int)) ++ p0.fNext).map Ag)), (1002, .vec 1 (((([] : List Int)) ++ p0.fHeld).map A9))] rfl rfl) (AC ?_)
 exact ⟨⟨[_], ⟨.cellN _ _ _ _ _ _ _ rfl rfl Bs AT rfl rfl (Hb rfl), trivial⟩, rfl⟩, ⟨rfl, rfl, rfl, trivial⟩⟩
set_option maxRecDepth 10000 in
theorem KC (N : Nat) (p0 : Ah) (r : (List Ah)) (h : DX N p0 = some r) : AA Try.prog 50 [.e (.agg [.pure (.sl (p0.fBase.map Ag)), .pure (.sl (p0.fNext.map Ag)), .pure (.sl (p0.fHeld.map A9))])] [(3, r.map Ee)] (.e (.one (.own 0))) := by
 unfold DX at h
 refine Ao (n := 62) (rs := [.tmp 2]) Try.func50 rfl rfl rfl (BF rfl) (BF rfl) rfl fun w0 S0 => ?_
 refine Ab (Aa Ad rfl (qb rfl (qa rfl (Ac (Ab (Aa Ad rfl (qa rfl (Ac (Ab (Ab (Aa Ad rfl (qa rfl (Ac ?_)))))))))))))
 refine AR (L := Cn N p0) h (fun v1 => mk [(1, .e (.one (.ptr 1 0))), (3, .e (.one (.pure (.val (.int .i64 v1.1))))), (4, .e (.one (.pure (.val (.int .i64 v1.2)))))] [(1, .box [.pure (.sl (p0.fBase.map Ag)), .pure (.sl (p0.fNext.map Ag)), .pure (.sl (p0.fHeld.map A9))])]) (fun v2 => mk [(1, .e (.one (.ptr 1 0))), (3, .e (.one (.pure (.val (.int .i64 v2)))))] [(1, .box [.pure (.sl (p0.fBase.map Ag)), .pure (.sl (p0.fNext.map Ag)), .pure (.sl (p0.fHeld.map A9))])]) (fun _ _ => rfl) (sm [] _ _ rfl rfl) (fun j1 n1 v1 h => ?_) (fun v2 s h hs => ?_)
 ·unfold Cn at h
  refine Ab (Ab (Aa Ad rfl (qm rfl (qf Bz rfl (ql A7 rfl (AS AG rfl (A8 rfl (Ac ?_))))))))
  refine As rfl (fun c3 => ?_) (fun c3 => ?_)
  ·have h := Ap c3 h
   refine Av ?_
   refine AX h (fun v4 => mk [(1, .e (.one (.ptr 1 0))), (3, .e (.one (.pure (.val (.int .i64 v4))))), (4, .e (.one (.pure (.val (.int .i64 v1.2)))))] [(1, .box [.pure (.sl (p0.fBase.map Ag)), .pure (.sl (p0.fNext.map Ag)), .pure (.sl (p0.fHeld.map A9))])]) (fun j4 h => ?_) (fun v4 h => ?_)
   ·refine AU (Ab (Aa Ad rfl (qf Bz rfl (ql A7 rfl (qm rfl ?_)))))
    obtain ⟨v5, a5, b5, h⟩ := Am h
    refine qi AG Dc a5 (Aj b5) rfl (qk B9 rfl (Ez rfl (Ac ?_)))
    refine As rfl (fun c6 => ?_) (fun c6 => ?_)
    ·have h := Ap c6 h
     refine Aa Ad rfl (qm rfl (Bn rfl (qa rfl (Ac ?_))))
     exact Aw _ h (sm [] _ _ rfl rfl)
    ·have h := Aq c6 h
     refine Av ?_
     exact Aw _ h (sm [] _ _ rfl rfl)
   ·refine Aa Ad rfl (qm rfl (Bn rfl (qa rfl (Ac ?_))))
    exact Aw _ h (sm [] _ _ rfl rfl)
  ·have h := Aq c3 h
   refine A4 ?_
   exact Aw _ h (sm [] _ _ rfl rfl)
 ·refine Al hs (Ab (Aa Ad rfl (qa rfl (Ac (Ab (Ab (Aa Ad rfl (qa rfl (Ac ?_)))))))))
  refine AR (L := Bu N p0 v2) h (fun v7 => mk [(1, .e (.one (.ptr 1 0))), (3, .e (.one (.pure (.val (.int .i64 v2))))), (5, .e (.one (.own 2001))), (6, .e (.one (.pure (.val (.int .i64 v7.2)))))] [(1, .box [.pure (.sl (p0.fBase.map Ag)), .pure (.sl (p0.fNext.map Ag)), .pure (.sl (p0.fHeld.map A9))]), (2001, .vec 3 (v7.1.map Ee))]) (fun v8 => mk [(5, .e (.one (.own 2002)))] [(2002, .vec 3 (v8.map Ee))]) (fun _ _ => rfl) ((By 5 2022 3 rfl rfl rfl).trans (sm [(2001, 2022)] _ _ rfl rfl)) (fun j7 n7 v7 h => ?_) (fun v8 s h hs => ?_)
  ·unfold Bu at h
   refine Ab (Ab (Aa Ad rfl (qm rfl (qm rfl ?_))))
   obtain ⟨c9, h⟩ := AO h
   refine H3 rfl c9 (A8 rfl (Ac ?_))
   refine As rfl (fun c10 => ?_) (fun c10 => ?_)
   ·have h := Ap c10 h
    refine Av (Ab (AU (Ab (Aa Ad rfl (qL Bs AT rfl ?_)))))
    obtain ⟨v11, a11, h⟩ := bind_some h
    refine AK [2003, 2004, 2005] (Jq N p0 v11 a11) Ya rfl (qz C7 rfl (qs AT rfl (Ac (Ab (Aa Ad rfl (qa rfl (Ac (Ab (Ab (Aa Ad rfl (qa rfl (Ac ?_))))))))))))
    refine AR (L := BQ N p0 v7) h (fun v12 => mk [(1, .e (.one (.ptr 1 0))), (3, .e (.one (.pure (.val (.int .i64 v2))))), (5, .e (.one (.own 2009))), (6, .e (.one (.pure (.val (.int .i64 v7.2))))), (7, .e (.one (.ptr 7 0))), (8, .e (.one (.pure (.val (.int .i64 v12.2.1))))), (9, .e (.one (.pure (.val (.int .i64 v12.2.2)))))] [(1, .box [.pure (.sl (p0.fBase.map Ag)), .pure (.sl (p0.fNext.map Ag)), .pure (.sl (p0.fHeld.map A9))]), (7, .box [.own 2006, .own 2007, .own 2008]), (2006, .vec 1 (v11.fBase.map Ag)), (2007, .vec 1 (v12.1.map Ag)), (2008, .vec 1 (v11.fHeld.map A9)), (2009, .vec 3 (v7.1.map Ee))]) (fun v13 => mk [(1, .e (.one (.ptr 1 0))), (3, .e (.one (.pure (.val (.int .i64 v2))))), (5, .e (.one (.own 2013))), (6, .e (.one (.pure (.val (.int .i64 v7.2))))), (7, .e (.one (.ptr 7 0)))] [(1, .box [.pure (.sl (p0.fBase.map Ag)), .pure (.sl (p0.fNext.map Ag)), .pure (.sl (p0.fHeld.map A9))]), (7, .box [.own 2010, .own 2011, .own 2012]), (2010, .vec 1 (v11.fBase.map Ag)), (2011, .vec 1 (v13.map Ag)), (2012, .vec 1 (v11.fHeld.map A9)), (2013, .vec 3 (v7.1.map Ee))]) (fun _ _ => rfl) (sm [(2006, 2003), (2007, 2004), (2008, 2005), (2009, 2001)] _ _ rfl rfl) (fun j12 n12 v12 h => ?_) (fun v13 s h hs => ?_)
    ·unfold BQ at h
     refine Ab (Ab (Aa Ad rfl (qm rfl (qf Bz rfl (ql A7 rfl (AS AG rfl (A8 rfl (Ac ?_))))))))
     refine As rfl (fun c14 => ?_) (fun c14 => ?_)
     ·have h := Ap c14 h
      refine Av ?_
      refine AX h (fun v15 => mk [(1, .e (.one (.ptr 1 0))), (3, .e (.one (.pure (.val (.int .i64 v2))))), (5, .e (.one (.own 2017))), (6, .e (.one (.pure (.val (.int .i64 v7.2))))), (7, .e (.one (.ptr 7 0))), (8, .e (.one (.pure (.val (.int .i64 v15.2))))), (9, .e (.one (.pure (.val (.int .i64 v12.2.2)))))] [(1, .box [.pure (.sl (p0.fBase.map Ag)), .pure (.sl (p0.fNext.map Ag)), .pure (.sl (p0.fHeld.map A9))]), (7, .box [.own 2014, .own 2015, .own 2016]), (2014, .vec 1 (v11.fBase.map Ag)), (2015, .vec 1 (v15.1.map Ag)), (2016, .vec 1 (v11.fHeld.map A9)), (2017, .vec 3 (v7.1.map Ee))]) (fun j15 h => ?_) (fun v15 h => ?_)
      ·refine AU (Ab (Ab (Aa Ad rfl (qf Bz rfl (ql A7 rfl (qm rfl ?_))))))
       obtain ⟨v16, a16, b16, h⟩ := Am h
       refine qi AG Dc a16 (Aj b16) rfl (qk B9 rfl (A8 rfl (Ac ?_)))
       refine As rfl (fun c17 => ?_) (fun c17 => ?_)
       ·have h := Ap c17 h
        refine A4 ?_
        exact Aw _ h (sm [(2014, 2006), (2015, 2007), (2016, 2008), (2017, 2009)] _ _ rfl rfl)
       ·have h := Aq c17 h
        refine Av ?_
        refine AX h (fun v18 => mk [(1, .e (.one (.ptr 1 0))), (3, .e (.one (.pure (.val (.int .i64 v2))))), (5, .e (.one (.own 2021))), (6, .e (.one (.pure (.val (.int .i64 v7.2))))), (7, .e (.one (.ptr 7 0))), (8, .e (.one (.pure (.val (.int .i64 v12.2.1))))), (9, .e (.one (.pure (.val (.int .i64 v12.2.2)))))] [(1, .box [.pure (.sl (p0.fBase.map Ag)), .pure (.sl (p0.fNext.map Ag)), .pure (.sl (p0.fHeld.map A9))]), (7, .box [.own 2018, .own 2019, .own 2020]), (2018, .vec 1 (v11.fBase.map Ag)), (2019, .vec 1 (v18.map Ag)), (2020, .vec 1 (v11.fHeld.map A9)), (2021, .vec 3 (v7.1.map Ee))]) (fun j18 h => ?_) (fun v18 h => ?_)
        ·refine Ab (Aa Ad rfl (qm rfl (qm rfl ?_)))
         obtain ⟨c19, h⟩ := AO h
         refine Iz rfl c19 (K9 rfl (by decide) (B6 rfl (Ac ?_)))
         refine As rfl (fun c20 => ?_) (fun c20 => ?_)
         ·have h := Ap c20 h
          refine Aa Ad rfl (qf Bz rfl (ql A7 rfl (qm rfl ?_)))
          obtain ⟨v21, a21, b21, h⟩ := Am h
          refine qI AG Dc a21 (Aj b21) rfl ?_
          refine D8 rfl rfl rfl rfl (Aj b21) rfl Dc rfl (BF rfl) (DL Ag v12.1 _ ((-1))) ?_
          refine Ac ?_
          exact Aw _ h (sm [(2018, 2006), (2019, 2007), (2020, 2008), (2021, 2009)] _ _ rfl rfl)
         ·have h := Aq c20 h
          refine Av ?_
          exact Aw _ h (sm [(2018, 2006), (2019, 2007), (2020, 2008), (2021, 2009)] _ _ rfl rfl)
        ·refine Aa Ad rfl (qm rfl (Bn rfl (qa rfl (Ac ?_))))
         exact Aw _ h (sm [(2014, 2018), (2015, 2019), (2016, 2020), (2017, 2021)] _ _ rfl rfl)
      ·refine Aa Ad rfl (qm rfl (Bn rfl (qa rfl (Ac ?_))))
       exact Aw _ h (sm [(2006, 2014), (2007, 2015), (2008, 2016), (2009, 2017)] _ _ rfl rfl)
     ·have h := Aq c14 h
      refine A4 ?_
      exact Aw _ h (sm [(2010, 2006), (2011, 2007), (2012, 2008), (2013, 2009)] _ _ rfl rfl)
    ·refine Al hs (Aa Ad rfl (qm rfl (qL Bs AT rfl (DY (BV 2010 _ _ rfl rfl) (DY (BV 2011 _ _ rfl rfl) (DY (BV 2012 _ _ rfl rfl) (Ep Kb AT C7 rfl ?_)))))))
     obtain ⟨c22, h⟩ := AO h
     refine Dx (f := Ee) Kb Kb AT UT C7 c22 rfl (qa rfl (Ac (Aa Ad rfl (qm rfl (Bn rfl (qa rfl (Ac ?_)))))))
     exact Aw _ h (sm [(2001, 60)] _ _ rfl rfl)
   ·have h := Aq c10 h
    refine A4 ?_
    exact Aw _ h (sm [(2002, 2001)] _ _ rfl rfl)
  ·refine Al hs (Ab (Aa Ad rfl (qm rfl (qa rfl (Ac ?_)))))
   obtain rfl := sj h
   refine Al (sm [(1000, 2002)] [(2, .e (.one (.own 1000)))] [(1000, .vec 3 (v8.map Ee))] rfl rfl) (AC ?_)
   exact ⟨⟨[_], ⟨.tmp _ _ rfl, trivial⟩, rfl⟩, ⟨rfl, trivial⟩⟩
set_option maxRecDepth 10000 in
theorem DQ (N : Nat) (p0 : Ah) (p1 : Int) (r : Int) (h : BR N p0 p1 = some r) : AA Try.prog 49 [.e (.agg [.pure (.sl (p0.fBase.map Ag)), .pure (.sl (p0.fNext.map Ag)), .pure (.sl (p0.fHeld.map A9))]), .e (.one (.pure (.val (.int .i64 p1))))] [] (.e (.one (.pure (.val (.int .u8 r))))) := by
 unfold BR at h
 refine Ao (n := 27) (rs := [.tmp 4]) Try.func49 rfl rfl rfl (BF rfl) (BF rfl) rfl fun w0 S0 => ?_
 refine Ab (Aa Ad rfl (qb rfl (qa rfl (Ac (Ab (Aa Ad rfl (qf CB rfl (ql A7 rfl (qm rfl ?_)))))))))
 obtain ⟨v1, a1, b1, h⟩ := Am h
 refine qi AG Dc a1 (Aj b1) rfl (qk B9 rfl ?_)
 obtain ⟨c2, h⟩ := AO h
 refine H3 rfl c2 (qa rfl (Ac ?_))
 refine AX h (fun v3 => mk [(5, .e (.one (.pure (.val (.int .u8 v3)))))] []) (fun j3 h => ?_) (fun v3 h => ?_)
 ·refine Ab (Aa Ad rfl (qf Bz rfl (ql A7 rfl (qm rfl ?_))))
  obtain ⟨v4, a4, b4, h⟩ := Am h
  refine qi AG Dc a4 (Aj b4) rfl (qk B9 rfl (Ez rfl (Ac ?_)))
  refine As rfl (fun c5 => ?_) (fun c5 => ?_)
  ·have h := Ap c5 h
   refine Aa Ad rfl (qm rfl (qf Bz rfl (ql A7 rfl (qm rfl ?_))))
   obtain ⟨v6, a6, b6, h⟩ := Am h
   refine qi AG Dc a6 (Aj b6) rfl (qk B9 rfl ?_)
   obtain ⟨c7, h⟩ := AO h
   refine H3 rfl c7 (Se rfl (qa rfl (Ac ?_)))
   exact Aw _ h (sm [] _ _ rfl rfl)
  ·have h := Aq c5 h
   refine Av ?_
   exact Aw _ h (sm [] _ _ rfl rfl)
 ·refine Ab (Aa Ad rfl (qm rfl (qa rfl (Ac ?_))))
  obtain rfl := sj h
  refine Al (sm [] [(4, .e (.one (.pure (.val (.int .u8 v3)))))] [] rfl rfl) (AC ?_)
  exact ⟨⟨[_], ⟨.tmp _ _ rfl, trivial⟩, rfl⟩, trivial⟩
set_option maxRecDepth 10000 in
theorem Fn (N : Nat) (p0 : Int) (p1 : Int) (r : Bool) (h : Ck N p0 p1 = some r) : AA Try.prog 60 [.e (.one (.pure (.val (.int .u8 p0)))), .e (.one (.pure (.val (.int .i64 p1))))] [] (.e (.one (.pure (.val (.bool r))))) := by
 unfold Ck at h
 refine Ao (n := 10) (rs := [.tmp 4]) Try.func60 rfl rfl rfl (BF rfl) (BF rfl) rfl fun w0 S0 => ?_
 refine Ab (Aa Ad rfl (qa rfl (Ac (Ab (Aa Ad rfl (qm rfl (qm rfl ?_)))))))
 obtain ⟨c1, h⟩ := AO h
 refine Iz rfl c1 (LG rfl (B6 rfl (qa rfl (Ac ?_))))
 obtain rfl := sj h
 refine Al (sm [] [(4, .e (.one (.pure (.val (.bool (((FK .u8 ((E2 .u8 p0 p1)) 1) == 1)))))))] [] rfl rfl) (AC ?_)
 exact ⟨⟨[_], ⟨.tmp _ _ rfl, trivial⟩, rfl⟩, trivial⟩
set_option maxRecDepth 10000 in
theorem J2 (N : Nat) (p0 : Ae) (p1 : Ah) (r : (List An)) (h : D2 N p0 p1 = some r) : AA Try.prog 82 [.e (.agg [.pure (.sl (p0.fVersions.map Ag)), .pure (.sl (p0.fNow.map Ag)), .pure (.sl (p0.fTarget.map Ag)), .pure (.sl (p0.fTables.map Ai))]), .e (.agg [.pure (.sl (p1.fBase.map Ag)), .pure (.sl (p1.fNext.map Ag)), .pure (.sl (p1.fHeld.map A9))])] [(3, r.map A0)] (.e (.one (.own 0))) := by
 unfold D2 at h
 refine Ao (n := 111) (rs := [.tmp 4]) Try.func82 rfl rfl rfl (BF rfl) (BF rfl) rfl fun w0 S0 => ?_
 refine Ab (Aa Ad rfl (qb rfl (qb rfl (qa rfl (Ac (Ab (Aa Ad rfl (qa rfl (Ac (Ab (Ab (Aa Ad rfl (qa rfl (Ac ?_))))))))))))))
 refine AR (L := Ct N p0 p1) h (fun v1 => mk [(2, .e (.one (.ptr 2 0))), (3, .e (.one (.ptr 3 0))), (5, .e (.one (.own 2001))), (6, .e (.one (.pure (.val (.int .i64 v1.2)))))] [(2, .box [.pure (.sl (p0.fVersions.map Ag)), .pure (.sl (p0.fNow.map Ag)), .pure (.sl (p0.fTarget.map Ag)), .pure (.sl (p0.fTables.map Ai))]), (3, .box [.pure (.sl (p1.fBase.map Ag)), .pure (.sl (p1.fNext.map Ag)), .pure (.sl (p1.fHeld.map A9))]), (2001, .vec 3 (v1.1.map A0))]) (fun v2 => mk [(5, .e (.one (.own 2002)))] [(2002, .vec 3 (v2.map A0))]) (fun _ _ => rfl) ((By 5 2013 3 rfl rfl rfl).trans (sm [(2001, 2013)] _ _ rfl rfl)) (fun j1 n1 v1 h => ?_) (fun v2 s h hs => ?_)
 ·unfold Ct at h
  refine Ab (Ab (Aa Ad rfl (qm rfl (qf CF rfl (ql Gq rfl (AS DO rfl (A8 rfl (Ac ?_))))))))
  refine As rfl (fun c3 => ?_) (fun c3 => ?_)
  ·have h := Ap c3 h
   refine Av (Ab (AU (Ab (Aa Ad rfl (qf CF rfl (ql Gq rfl (qm rfl ?_)))))))
   obtain ⟨v4, a4, b4, h⟩ := Am h
   refine qi DO DP a4 (Aj b4) rfl (qK GB DP rfl (qz JR rfl (qs DP rfl (Ac (Ab (Aa Ad rfl (qL Bs AT rfl (qf CV rfl (ql B9 rfl ?_)))))))))
   obtain ⟨v5, a5, h⟩ := bind_some h
   refine AK [] (DQ N p1 v4.fFrom v5 a5) SZ rfl (qa rfl (Ac ?_))
   refine AX h (fun v6 => mk [(2, .e (.one (.ptr 2 0))), (3, .e (.one (.ptr 3 0))), (5, .e (.one (.own 2003))), (6, .e (.one (.pure (.val (.int .i64 v1.2))))), (7, .e (.one (.ptr 7 0))), (8, .e (.one (.pure (.val (.int .u8 v6)))))] [(2, .box [.pure (.sl (p0.fVersions.map Ag)), .pure (.sl (p0.fNow.map Ag)), .pure (.sl (p0.fTarget.map Ag)), .pure (.sl (p0.fTables.map Ai))]), (3, .box [.pure (.sl (p1.fBase.map Ag)), .pure (.sl (p1.fNext.map Ag)), .pure (.sl (p1.fHeld.map A9))]), (7, .box [.pure (.val (.int .i64 v4.fKind)), .pure (.val (.int .i64 v4.fFrom)), .pure (.val (.int .i64 v4.fTo)), .pure (.val (.bool v4.fAware)), .pure (.sl (v4.fOK.map (Et eB))), .pure (.sl (v4.fRewrite.map (Et eB)))]), (2003, .vec 3 (v1.1.map A0))]) (fun j6 h => ?_) (fun v6 h => ?_)
   ·refine Ab (Aa Ad rfl (qL GB DP rfl ?_))
    obtain ⟨v7, a7, h⟩ := bind_some h
    refine AK [] (Cd N v4 v7 a7) Oq rfl (Ac ?_)
    refine As rfl (fun c8 => ?_) (fun c8 => ?_)
    ·have h := Ap c8 h
     refine Aa Ad rfl (qf Cz rfl (ql Gl rfl (qm rfl ?_)))
     obtain ⟨v9, a9, b9, h⟩ := Am h
     refine qi Dm Fq a9 (Aj b9) rfl (qk Jg rfl (qa rfl (Ac ?_)))
     exact Aw _ h (sm [(2003, 2001)] _ _ rfl rfl)
    ·have h := Aq c8 h
     refine Av ?_
     exact Aw _ h (sm [(2003, 2001)] _ _ rfl rfl)
   ·refine Ab (Aa Ad rfl (qa rfl (Ac ?_)))
    refine AR (L := BB N p0 p1 v1 v4 v6) h (fun v10 => mk [(2, .e (.one (.ptr 2 0))), (3, .e (.one (.ptr 3 0))), (5, .e (.one (.own 2004))), (6, .e (.one (.pure (.val (.int .i64 v1.2))))), (7, .e (.one (.ptr 7 0))), (8, .e (.one (.pure (.val (.int .u8 v6))))), (9, .e (.one (.pure (.val (.int .i64 v10.2)))))] [(2, .box [.pure (.sl (p0.fVersions.map Ag)), .pure (.sl (p0.fNow.map Ag)), .pure (.sl (p0.fTarget.map Ag)), .pure (.sl (p0.fTables.map Ai))]), (3, .box [.pure (.sl (p1.fBase.map Ag)), .pure (.sl (p1.fNext.map Ag)), .pure (.sl (p1.fHeld.map A9))]), (7, .box [.pure (.val (.int .i64 v4.fKind)), .pure (.val (.int .i64 v4.fFrom)), .pure (.val (.int .i64 v4.fTo)), .pure (.val (.bool v4.fAware)), .pure (.sl (v4.fOK.map (Et eB))), .pure (.sl (v4.fRewrite.map (Et eB)))]), (2004, .vec 3 (v10.1.map A0))]) (fun v11 => mk [(2, .e (.one (.ptr 2 0))), (3, .e (.one (.ptr 3 0))), (5, .e (.one (.own 2005))), (6, .e (.one (.pure (.val (.int .i64 v1.2)))))] [(2, .box [.pure (.sl (p0.fVersions.map Ag)), .pure (.sl (p0.fNow.map Ag)), .pure (.sl (p0.fTarget.map Ag)), .pure (.sl (p0.fTables.map Ai))]), (3, .box [.pure (.sl (p1.fBase.map Ag)), .pure (.sl (p1.fNext.map Ag)), .pure (.sl (p1.fHeld.map A9))]), (2005, .vec 3 (v11.map A0))]) (fun _ _ => rfl) (sm [(2004, 2003)] _ _ rfl rfl) (fun j10 n10 v10 h => ?_) (fun v11 s h hs => ?_)
    ·unfold BB at h
     refine Ab (Ab (Aa Ad rfl (qm rfl (qf Br rfl (ql A7 rfl (qf CV rfl (ql B9 rfl ?_)))))))
     obtain ⟨v12, a12, b12, h⟩ := Am h
     refine qi AG Dc a12 (Aj b12) rfl (qk B9 rfl (A8 rfl (Ac ?_)))
     refine As rfl (fun c13 => ?_) (fun c13 => ?_)
     ·have h := Ap c13 h
      refine Av ?_
      refine AX h (fun v14 => mk [(2, .e (.one (.ptr 2 0))), (3, .e (.one (.ptr 3 0))), (5, .e (.one (.own 2006))), (6, .e (.one (.pure (.val (.int .i64 v1.2))))), (7, .e (.one (.ptr 7 0))), (8, .e (.one (.pure (.val (.int .u8 v6))))), (9, .e (.one (.pure (.val (.int .i64 v10.2)))))] [(2, .box [.pure (.sl (p0.fVersions.map Ag)), .pure (.sl (p0.fNow.map Ag)), .pure (.sl (p0.fTarget.map Ag)), .pure (.sl (p0.fTables.map Ai))]), (3, .box [.pure (.sl (p1.fBase.map Ag)), .pure (.sl (p1.fNext.map Ag)), .pure (.sl (p1.fHeld.map A9))]), (7, .box [.pure (.val (.int .i64 v4.fKind)), .pure (.val (.int .i64 v4.fFrom)), .pure (.val (.int .i64 v4.fTo)), .pure (.val (.bool v4.fAware)), .pure (.sl (v4.fOK.map (Et eB))), .pure (.sl (v4.fRewrite.map (Et eB)))]), (2006, .vec 3 (v14.map A0))]) (fun j14 h => ?_) (fun v14 h => ?_)
      ·refine AU (Ab (Ab (Aa Ad rfl (qm rfl (qm rfl ?_)))))
       obtain ⟨v15, a15, h⟩ := bind_some h
       refine AK [] (Fn N v6 v10.2 v15 a15) Ua rfl (CE rfl (Ac ?_))
       refine As rfl (fun c16 => ?_) (fun c16 => ?_)
       ·have h := Ap c16 h
        refine A4 ?_
        exact Aw _ h (sm [(2006, 2004)] _ _ rfl rfl)
       ·have h := Aq c16 h
        refine Av (Ab (Aa Ad rfl (qa rfl (Ac (Ab (Ab (Aa Ad rfl (qa rfl (Ac ?_)))))))))
        refine AR (L := Bk N p0 p1 v1 v4 v10) h (fun v17 => mk [(2, .e (.one (.ptr 2 0))), (3, .e (.one (.ptr 3 0))), (5, .e (.one (.own 2007))), (6, .e (.one (.pure (.val (.int .i64 v1.2))))), (7, .e (.one (.ptr 7 0))), (8, .e (.one (.pure (.val (.int .u8 v6))))), (9, .e (.one (.pure (.val (.int .i64 v10.2))))), (10, .e (.one (.pure (.val (.bool v17.2.1))))), (11, .e (.one (.pure (.val (.int .i64 v17.2.2)))))] [(2, .box [.pure (.sl (p0.fVersions.map Ag)), .pure (.sl (p0.fNow.map Ag)), .pure (.sl (p0.fTarget.map Ag)), .pure (.sl (p0.fTables.map Ai))]), (3, .box [.pure (.sl (p1.fBase.map Ag)), .pure (.sl (p1.fNext.map Ag)), .pure (.sl (p1.fHeld.map A9))]), (7, .box [.pure (.val (.int .i64 v4.fKind)), .pure (.val (.int .i64 v4.fFrom)), .pure (.val (.int .i64 v4.fTo)), .pure (.val (.bool v4.fAware)), .pure (.sl (v4.fOK.map (Et eB))), .pure (.sl (v4.fRewrite.map (Et eB)))]), (2007, .vec 3 (v17.1.map A0))]) (fun v18 => mk [(2, .e (.one (.ptr 2 0))), (3, .e (.one (.ptr 3 0))), (5, .e (.one (.own 2008))), (6, .e (.one (.pure (.val (.int .i64 v1.2))))), (7, .e (.one (.ptr 7 0))), (8, .e (.one (.pure (.val (.int .u8 v6))))), (9, .e (.one (.pure (.val (.int .i64 v10.2))))), (10, .e (.one (.pure (.val (.bool v18.2)))))] [(2, .box [.pure (.sl (p0.fVersions.map Ag)), .pure (.sl (p0.fNow.map Ag)), .pure (.sl (p0.fTarget.map Ag)), .pure (.sl (p0.fTables.map Ai))]), (3, .box [.pure (.sl (p1.fBase.map Ag)), .pure (.sl (p1.fNext.map Ag)), .pure (.sl (p1.fHeld.map A9))]), (7, .box [.pure (.val (.int .i64 v4.fKind)), .pure (.val (.int .i64 v4.fFrom)), .pure (.val (.int .i64 v4.fTo)), .pure (.val (.bool v4.fAware)), .pure (.sl (v4.fOK.map (Et eB))), .pure (.sl (v4.fRewrite.map (Et eB)))]), (2008, .vec 3 (v18.1.map A0))]) (fun _ _ => rfl) (sm [(2007, 2004)] _ _ rfl rfl) (fun j17 n17 v17 h => ?_) (fun v18 s h hs => ?_)
        ·unfold Bk at h
         refine Ab (Ab (Aa Ad rfl (qm rfl (qf Br rfl (ql A7 rfl (qf Hq rfl (ql B9 rfl ?_)))))))
         obtain ⟨v19, a19, b19, h⟩ := Am h
         refine qi AG Dc a19 (Aj b19) rfl (qk B9 rfl (A8 rfl (Ac ?_)))
         refine As rfl (fun c20 => ?_) (fun c20 => ?_)
         ·have h := Ap c20 h
          refine Av ?_
          refine AX h (fun v21 => mk [(2, .e (.one (.ptr 2 0))), (3, .e (.one (.ptr 3 0))), (5, .e (.one (.own 2009))), (6, .e (.one (.pure (.val (.int .i64 v1.2))))), (7, .e (.one (.ptr 7 0))), (8, .e (.one (.pure (.val (.int .u8 v6))))), (9, .e (.one (.pure (.val (.int .i64 v10.2))))), (10, .e (.one (.pure (.val (.bool v21.2))))), (11, .e (.one (.pure (.val (.int .i64 v17.2.2)))))] [(2, .box [.pure (.sl (p0.fVersions.map Ag)), .pure (.sl (p0.fNow.map Ag)), .pure (.sl (p0.fTarget.map Ag)), .pure (.sl (p0.fTables.map Ai))]), (3, .box [.pure (.sl (p1.fBase.map Ag)), .pure (.sl (p1.fNext.map Ag)), .pure (.sl (p1.fHeld.map A9))]), (7, .box [.pure (.val (.int .i64 v4.fKind)), .pure (.val (.int .i64 v4.fFrom)), .pure (.val (.int .i64 v4.fTo)), .pure (.val (.bool v4.fAware)), .pure (.sl (v4.fOK.map (Et eB))), .pure (.sl (v4.fRewrite.map (Et eB)))]), (2009, .vec 3 (v21.1.map A0))]) (fun j21 h => ?_) (fun v21 h => ?_)
          ·refine AU (Ab (Ab (Aa Ad rfl (qL Bs AT rfl (qf Hq rfl (ql B9 rfl ?_))))))
           obtain ⟨v22, a22, h⟩ := bind_some h
           refine AK [] (DQ N p1 v4.fTo v22 a22) SZ rfl (qm rfl ?_)
           obtain ⟨v23, a23, h⟩ := bind_some h
           refine AK [] (Fn N v22 v17.2.2 v23 a23) Ua rfl (CE rfl (Ac ?_))
           refine As rfl (fun c24 => ?_) (fun c24 => ?_)
           ·have h := Ap c24 h
            refine A4 ?_
            exact Aw _ h (sm [(2009, 2007)] _ _ rfl rfl)
           ·have h := Aq c24 h
            refine Av ?_
            refine AX h (fun v25 => mk [(2, .e (.one (.ptr 2 0))), (3, .e (.one (.ptr 3 0))), (5, .e (.one (.own 2010))), (6, .e (.one (.pure (.val (.int .i64 v1.2))))), (7, .e (.one (.ptr 7 0))), (8, .e (.one (.pure (.val (.int .u8 v6))))), (9, .e (.one (.pure (.val (.int .i64 v10.2))))), (10, .e (.one (.pure (.val (.bool v25))))), (11, .e (.one (.pure (.val (.int .i64 v17.2.2)))))] [(2, .box [.pure (.sl (p0.fVersions.map Ag)), .pure (.sl (p0.fNow.map Ag)), .pure (.sl (p0.fTarget.map Ag)), .pure (.sl (p0.fTables.map Ai))]), (3, .box [.pure (.sl (p1.fBase.map Ag)), .pure (.sl (p1.fNext.map Ag)), .pure (.sl (p1.fHeld.map A9))]), (7, .box [.pure (.val (.int .i64 v4.fKind)), .pure (.val (.int .i64 v4.fFrom)), .pure (.val (.int .i64 v4.fTo)), .pure (.val (.bool v4.fAware)), .pure (.sl (v4.fOK.map (Et eB))), .pure (.sl (v4.fRewrite.map (Et eB)))]), (2010, .vec 3 (v17.1.map A0))]) (fun j25 h => ?_) (fun v25 h => ?_)
            ·refine Aa Ad rfl (qm rfl (qm rfl ?_))
             refine AI (t := 67) rfl (fun c26 => ?_) (fun c26 => ?_)
             ·have h := Ap c26 h
              refine qn rfl (qn rfl (qn rfl (qn rfl (qn rfl (qn rfl (qn rfl (qn rfl (qp rfl (qa rfl (Ac ?_))))))))))
              exact Aw _ h (sm [(2010, 2007)] _ _ rfl rfl)
             ·have h := Aq c26 h
              refine qf IC rfl (ql Jd rfl (qm rfl ?_))
              obtain ⟨v27, a27, b27, h⟩ := Am h
              refine qi FN L6 a27 (Aj b27) rfl (qk Ou rfl (qm rfl ?_))
              obtain ⟨v28, a28, b28, h⟩ := Am h
              refine qi FT PW a28 (Aj b28) rfl (qk Rx rfl (qp rfl (qa rfl (Ac ?_))))
              exact Aw _ h (sm [(2010, 2007)] _ _ rfl rfl)
            ·refine AX h (fun v29 => mk [(2, .e (.one (.ptr 2 0))), (3, .e (.one (.ptr 3 0))), (5, .e (.one (.own 2011))), (6, .e (.one (.pure (.val (.int .i64 v1.2))))), (7, .e (.one (.ptr 7 0))), (8, .e (.one (.pure (.val (.int .u8 v6))))), (9, .e (.one (.pure (.val (.int .i64 v10.2))))), (10, .e (.one (.pure (.val (.bool v25))))), (11, .e (.one (.pure (.val (.int .i64 v17.2.2))))), (90, .e (.one (.pure (.val (.bool v29)))))] [(2, .box [.pure (.sl (p0.fVersions.map Ag)), .pure (.sl (p0.fNow.map Ag)), .pure (.sl (p0.fTarget.map Ag)), .pure (.sl (p0.fTables.map Ai))]), (3, .box [.pure (.sl (p1.fBase.map Ag)), .pure (.sl (p1.fNext.map Ag)), .pure (.sl (p1.fHeld.map A9))]), (7, .box [.pure (.val (.int .i64 v4.fKind)), .pure (.val (.int .i64 v4.fFrom)), .pure (.val (.int .i64 v4.fTo)), .pure (.val (.bool v4.fAware)), .pure (.sl (v4.fOK.map (Et eB))), .pure (.sl (v4.fRewrite.map (Et eB)))]), (2011, .vec 3 (v17.1.map A0))]) (fun j29 h => ?_) (fun v29 h => ?_)
             ·refine Aa Ad rfl (qf H2 rfl (ql Rx rfl (CE rfl (qm rfl ?_))))
              refine AI (t := 80) rfl (fun c30 => ?_) (fun c30 => ?_)
              ·have h := Ap c30 h
               refine qf IC rfl (ql Jd rfl (qm rfl ?_))
               obtain ⟨v31, a31, b31, h⟩ := Am h
               refine qi FN L6 a31 (Aj b31) rfl (qk Ou rfl (qm rfl ?_))
               obtain ⟨v32, a32, b32, h⟩ := Am h
               refine qi FT PW a32 (Aj b32) rfl (qk Rx rfl (CE rfl (qp rfl (Ac ?_))))
               exact Aw _ h (sm [(2011, 2010)] _ _ rfl rfl)
              ·have h := Aq c30 h
               refine qn rfl (qn rfl (qn rfl (qn rfl (qn rfl (qn rfl (qn rfl (qn rfl (qn rfl (qp rfl (Ac ?_))))))))))
               exact Aw _ h (sm [(2011, 2010)] _ _ rfl rfl)
             ·refine As rfl (fun c33 => ?_) (fun c33 => ?_)
              ·have h := Ap c33 h
               refine Aa Ad rfl (qm rfl (qm rfl (qm rfl (qm rfl (A6 GV Mw rfl (Ep F6 Fp GV rfl ?_))))))
               obtain ⟨c34, h⟩ := AO h
               refine Dx (f := A0) F6 F6 Fp Ri GV c34 rfl (qa rfl (Ac ?_))
               exact Aw _ h (sm [(2009, 97)] _ _ rfl rfl)
              ·have h := Aq c33 h
               refine Av ?_
               exact Aw _ h (sm [(2009, 2011)] _ _ rfl rfl)
          ·refine Aa Ad rfl (qm rfl (Bn rfl (qa rfl (Ac ?_))))
           exact Aw _ h (sm [(2007, 2009)] _ _ rfl rfl)
         ·have h := Aq c20 h
          refine A4 ?_
          exact Aw _ h (sm [(2008, 2007)] _ _ rfl rfl)
        ·refine Al hs ?_
         refine AX h (fun v35 => mk [(2, .e (.one (.ptr 2 0))), (3, .e (.one (.ptr 3 0))), (5, .e (.one (.own 2012))), (6, .e (.one (.pure (.val (.int .i64 v1.2))))), (7, .e (.one (.ptr 7 0))), (8, .e (.one (.pure (.val (.int .u8 v6))))), (9, .e (.one (.pure (.val (.int .i64 v10.2))))), (103, .e (.one (.pure (.val (.bool v35)))))] [(2, .box [.pure (.sl (p0.fVersions.map Ag)), .pure (.sl (p0.fNow.map Ag)), .pure (.sl (p0.fTarget.map Ag)), .pure (.sl (p0.fTables.map Ai))]), (3, .box [.pure (.sl (p1.fBase.map Ag)), .pure (.sl (p1.fNext.map Ag)), .pure (.sl (p1.fHeld.map A9))]), (7, .box [.pure (.val (.int .i64 v4.fKind)), .pure (.val (.int .i64 v4.fFrom)), .pure (.val (.int .i64 v4.fTo)), .pure (.val (.bool v4.fAware)), .pure (.sl (v4.fOK.map (Et eB))), .pure (.sl (v4.fRewrite.map (Et eB)))]), (2012, .vec 3 (v18.1.map A0))]) (fun j35 h => ?_) (fun v35 h => ?_)
         ·refine Aa Ad rfl (qf H2 rfl (ql Rx rfl (qm rfl ?_)))
          refine AI (t := 100) rfl (fun c36 => ?_) (fun c36 => ?_)
          ·have h := Ap c36 h
           refine qm rfl (CE rfl (qp rfl (Ac ?_)))
           exact Aw _ h (sm [(2012, 2008)] _ _ rfl rfl)
          ·have h := Aq c36 h
           refine qn rfl (qn rfl (qp rfl (Ac ?_)))
           exact Aw _ h (sm [(2012, 2008)] _ _ rfl rfl)
         ·refine As rfl (fun c37 => ?_) (fun c37 => ?_)
          ·have h := Ap c37 h
           refine Aa Ad rfl (qm rfl (qm rfl (qm rfl (A6 GV Mw rfl (Ep F6 Fp GV rfl ?_)))))
           obtain ⟨c38, h⟩ := AO h
           refine Dx (f := A0) F6 F6 Fp Ri GV c38 rfl (qa rfl (Ac ?_))
           exact Aw _ h (sm [(2006, 109)] _ _ rfl rfl)
          ·have h := Aq c37 h
           refine Av ?_
           exact Aw _ h (sm [(2006, 2012)] _ _ rfl rfl)
      ·refine Aa Ad rfl (qm rfl (Bn rfl (qa rfl (Ac ?_))))
       exact Aw _ h (sm [(2004, 2006)] _ _ rfl rfl)
     ·have h := Aq c13 h
      refine A4 ?_
      exact Aw _ h (sm [(2005, 2004)] _ _ rfl rfl)
    ·refine Al hs (Aa Ad rfl (qm rfl (Bn rfl (qa rfl (Ac ?_)))))
     exact Aw _ h (sm [(2001, 2005)] _ _ rfl rfl)
  ·have h := Aq c3 h
   refine A4 ?_
   exact Aw _ h (sm [(2002, 2001)] _ _ rfl rfl)
 ·refine Al hs (Ab (Aa Ad rfl (qm rfl (qa rfl (Ac ?_)))))
  obtain rfl := sj h
  refine Al (sm [(1000, 2002)] [(4, .e (.one (.own 1000)))] [(1000, .vec 3 (v2.map A0))] rfl rfl) (AC ?_)
  exact ⟨⟨[_], ⟨.tmp _ _ rfl, trivial⟩, rfl⟩, ⟨rfl, trivial⟩⟩
set_option maxRecDepth 10000 in
theorem JG (N : Nat) (p0 : Ae) (p1 : Ah) (r : Bool) (h : DM N p0 p1 = some r) : AA Try.prog 51 [.e (.agg [.pure (.sl (p0.fVersions.map Ag)), .pure (.sl (p0.fNow.map Ag)), .pure (.sl (p0.fTarget.map Ag)), .pure (.sl (p0.fTables.map Ai))]), .e (.agg [.pure (.sl (p1.fBase.map Ag)), .pure (.sl (p1.fNext.map Ag)), .pure (.sl (p1.fHeld.map A9))])] [] (.e (.one (.pure (.val (.bool r))))) := by
 unfold DM at h
 refine Ao (n := 10) (rs := [.tmp 4]) Try.func51 rfl rfl rfl (BF rfl) (BF rfl) rfl fun w0 S0 => ?_
 refine Ab (Aa Ad rfl (qb rfl (qb rfl (qa rfl (Ac (Ab (Aa Ad rfl (qL Dr CX rfl (qL Bs AT rfl ?_)))))))))
 obtain ⟨v1, a1, h⟩ := bind_some h
 refine AK [2001] (J2 N p0 p1 v1 a1) Xr rfl (FD F6 rfl (B6 rfl (qa rfl (Ac ?_))))
 obtain rfl := sj h
 refine Al (sm [] [(4, .e (.one (.pure (.val (.bool (((v1.length : Int) == 0)))))))] [] rfl rfl) (AC ?_)
 exact ⟨⟨[_], ⟨.tmp _ _ rfl, trivial⟩, rfl⟩, trivial⟩
set_option maxRecDepth 10000 in
theorem Fa (N : Nat) (p0 : Ae) (p1 : Ah) (r : Bool) (h : Cr N p0 p1 = some r) : AA Try.prog 25 [.e (.agg [.pure (.sl (p0.fVersions.map Ag)), .pure (.sl (p0.fNow.map Ag)), .pure (.sl (p0.fTarget.map Ag)), .pure (.sl (p0.fTables.map Ai))]), .e (.agg [.pure (.sl (p1.fBase.map Ag)), .pure (.sl (p1.fNext.map Ag)), .pure (.sl (p1.fHeld.map A9))])] [] (.e (.one (.pure (.val (.bool r))))) := by
 unfold Cr at h
 refine Ao (n := 22) (rs := [.tmp 4]) Try.func25 rfl rfl rfl (BF rfl) (BF rfl) rfl fun w0 S0 => ?_
 refine Ab (Aa Ad rfl (qb rfl (qb rfl (qa rfl (Ac (Ab (Aa Ad rfl (qL Bs AT rfl ?_))))))))
 obtain ⟨v1, a1, h⟩ := bind_some h
 refine AK [2001] (KC N p1 v1 a1) XX rfl (qa rfl (Ac (Ab (Ab (Aa Ad rfl (qa rfl (Ac ?_)))))))
 refine AR (L := B0 N p0 v1) h (fun v2 => mk [(2, .e (.one (.ptr 2 0))), (5, .e (.one (.own 2002))), (6, .e (.one (.pure (.val (.int .i64 v2)))))] [(2, .box [.pure (.sl (p0.fVersions.map Ag)), .pure (.sl (p0.fNow.map Ag)), .pure (.sl (p0.fTarget.map Ag)), .pure (.sl (p0.fTables.map Ai))]), (2002, .vec 3 (v1.map Ee))]) (fun v3 => mk [] []) (fun _ _ => rfl) (sm [(2002, 2001)] _ _ rfl rfl) (fun j2 n2 v2 h => ?_) (fun v3 s h hs => ?_)
 ·unfold B0 at h
  refine Ab (Ab (Aa Ad rfl (qm rfl (qm rfl (FD Kb rfl (A8 rfl (Ac ?_)))))))
  refine As rfl (fun c4 => ?_) (fun c4 => ?_)
  ·have h := Ap c4 h
   refine Av (Ab (AU (Ab (Aa Ad rfl (qL Dr CX rfl (qm rfl (qm rfl ?_)))))))
   obtain ⟨v5, a5, b5, h⟩ := Am h
   refine qI Kb AT a5 (Aj b5) rfl (qJ Bs AT (Aj b5) rfl ?_)
   obtain ⟨v6, a6, h⟩ := bind_some h
   refine AK [] (JG N p0 v5 v6 a6) XM rfl (CE rfl (AY (by kernel_rfl) ?_))
   refine As rfl (fun c7 => ?_) (fun c7 => ?_)
   ·have h := Ap c7 h
    refine Ab (Aa Ad rfl (qa rfl (Ac ?_)))
    obtain rfl := sj h
    refine Al (sm [] [(4, .e (.one (.pure (.val (.bool false)))))] [] rfl rfl) (AC ?_)
    exact ⟨⟨[_], ⟨.tmp _ _ rfl, trivial⟩, rfl⟩, trivial⟩
   ·have h := Aq c7 h
    refine Av (Aa Ad rfl (qm rfl (Bn rfl (qa rfl (Ac ?_)))))
    exact Aw _ h (sm [] _ _ rfl rfl)
  ·have h := Aq c4 h
   refine A4 ?_
   exact Aw _ h (sm [] _ _ rfl rfl)
 ·refine Al hs (Ab (Aa Ad rfl (qa rfl (Ac ?_))))
  obtain rfl := sj h
  refine Al (sm [] [(4, .e (.one (.pure (.val (.bool true)))))] [] rfl rfl) (AC ?_)
  exact ⟨⟨[_], ⟨.tmp _ _ rfl, trivial⟩, rfl⟩, trivial⟩
set_option maxRecDepth 10000 in
theorem FR (N : Nat) (p0 : Ae) (p1 : Ah) (r : Int) (h : CS N p0 p1 = some r) : AA Try.prog 24 [.e (.agg [.pure (.sl (p0.fVersions.map Ag)), .pure (.sl (p0.fNow.map Ag)), .pure (.sl (p0.fTarget.map Ag)), .pure (.sl (p0.fTables.map Ai))]), .e (.agg [.pure (.sl (p1.fBase.map Ag)), .pure (.sl (p1.fNext.map Ag)), .pure (.sl (p1.fHeld.map A9))])] [] (.e (.one (.pure (.val (.int .i64 r))))) := by
 unfold CS at h
 refine Ao (n := 154) (rs := [.tmp 4]) Try.func24 rfl rfl rfl (BF rfl) (BF rfl) rfl fun w0 S0 => ?_
 refine Ab (Aa Ad rfl (qb rfl (qb rfl (qa rfl (Ac (Ab (Ab (Aa Ad rfl (qL Dr CX rfl ?_)))))))))
 obtain ⟨v1, a1, h⟩ := bind_some h
 refine AK [] (Fv N p0 v1 a1) Wo rfl (qa rfl (Ac (Ab (Aa Ad rfl (qm rfl (Co rfl (Ac ?_)))))))
 refine As rfl (fun c2 => ?_) (fun c2 => ?_)
 ·have h := Ap c2 h
  refine Ab (Aa Ad rfl (qm rfl (qa rfl (Ac ?_))))
  obtain rfl := sj h
  refine Al (sm [] [(4, .e (.one (.pure (.val (.int .i64 v1)))))] [] rfl rfl) (AC ?_)
  exact ⟨⟨[_], ⟨.tmp _ _ rfl, trivial⟩, rfl⟩, trivial⟩
 ·have h := Aq c2 h
  refine Av (Ab (Aa Ad rfl (qf Br rfl (ql A7 rfl (AS AG rfl (qa rfl (Ac (Ab ?_))))))))
  refine AX h (fun v3 => mk [(2, .e (.one (.ptr 2 0))), (3, .e (.one (.ptr 3 0))), (6, .e (.one (.pure (.val (.int .i64 ((p0.fVersions.length : Int))))))), (39, .e (.one (.pure (.val (.bool v3)))))] [(2, .box [.pure (.sl (p0.fVersions.map Ag)), .pure (.sl (p0.fNow.map Ag)), .pure (.sl (p0.fTarget.map Ag)), .pure (.sl (p0.fTables.map Ai))]), (3, .box [.pure (.sl (p1.fBase.map Ag)), .pure (.sl (p1.fNext.map Ag)), .pure (.sl (p1.fHeld.map A9))])]) (fun j3 h => ?_) (fun v3 h => ?_)
  ·refine Aa Ad rfl (qf CB rfl (ql A7 rfl (AS AG rfl (qm rfl (Co rfl (qm rfl ?_))))))
   refine AI (t := 24) rfl (fun c4 => ?_) (fun c4 => ?_)
   ·have h := Ap c4 h
    refine qn rfl (qn rfl (qn rfl (qn rfl (qn rfl (qp rfl (qm rfl (qn rfl (qn rfl (qn rfl (qn rfl (qn rfl (qn rfl (qn rfl (qp rfl (Ac ?_)))))))))))))))
    exact Aw _ h (sm [] _ _ rfl rfl)
   ·have h := Aq c4 h
    refine qf Bz rfl (ql A7 rfl (AS AG rfl (qm rfl (Co rfl (qp rfl (qm rfl ?_))))))
    refine AI (t := 31) rfl (fun c5 => ?_) (fun c5 => ?_)
    ·have h := Ap c5 h
     refine qn rfl (qn rfl (qn rfl (qn rfl (qn rfl (qn rfl (qn rfl (qp rfl (Ac ?_))))))))
     exact Aw _ h (sm [] _ _ rfl rfl)
    ·have h := Aq c5 h
     refine qf Cz rfl (ql Gl rfl (AS Dm rfl (qf CF rfl (ql Gq rfl (AS DO rfl (Co rfl (qp rfl (Ac ?_))))))))
     exact Aw _ h (sm [] _ _ rfl rfl)
  ·refine As rfl (fun c6 => ?_) (fun c6 => ?_)
   ·have h := Ap c6 h
    refine Ab (Aa Ad rfl (qa rfl (Ac ?_)))
    obtain rfl := sj h
    refine Al (sm [] [(4, .e (.one (.pure (.val (.int .i64 6)))))] [] rfl rfl) (AC ?_)
    exact ⟨⟨[_], ⟨.tmp _ _ rfl, trivial⟩, rfl⟩, trivial⟩
   ·have h := Aq c6 h
    refine Av (Ab (Ab (Aa Ad rfl (qa rfl (Ac ?_)))))
    refine AR (L := B2 N p0 p1) h (fun v7 => mk [(2, .e (.one (.ptr 2 0))), (3, .e (.one (.ptr 3 0))), (6, .e (.one (.pure (.val (.int .i64 ((p0.fVersions.length : Int))))))), (7, .e (.one (.pure (.val (.int .i64 v7)))))] [(2, .box [.pure (.sl (p0.fVersions.map Ag)), .pure (.sl (p0.fNow.map Ag)), .pure (.sl (p0.fTarget.map Ag)), .pure (.sl (p0.fTables.map Ai))]), (3, .box [.pure (.sl (p1.fBase.map Ag)), .pure (.sl (p1.fNext.map Ag)), .pure (.sl (p1.fHeld.map A9))])]) (fun v8 => mk [(2, .e (.one (.ptr 2 0))), (3, .e (.one (.ptr 3 0)))] [(2, .box [.pure (.sl (p0.fVersions.map Ag)), .pure (.sl (p0.fNow.map Ag)), .pure (.sl (p0.fTarget.map Ag)), .pure (.sl (p0.fTables.map Ai))]), (3, .box [.pure (.sl (p1.fBase.map Ag)), .pure (.sl (p1.fNext.map Ag)), .pure (.sl (p1.fHeld.map A9))])]) (fun _ _ => rfl) (sm [] _ _ rfl rfl) (fun j7 n7 v7 h => ?_) (fun v8 s h hs => ?_)
    ·unfold B2 at h
     refine Ab (Ab (Aa Ad rfl (qm rfl (qm rfl (A8 rfl (Ac ?_))))))
     refine As rfl (fun c9 => ?_) (fun c9 => ?_)
     ·have h := Ap c9 h
      refine Av (Ab (AU (Ab ?_)))
      refine AX h (fun v10 => mk [(2, .e (.one (.ptr 2 0))), (3, .e (.one (.ptr 3 0))), (6, .e (.one (.pure (.val (.int .i64 ((p0.fVersions.length : Int))))))), (7, .e (.one (.pure (.val (.int .i64 v7))))), (84, .e (.one (.pure (.val (.bool v10)))))] [(2, .box [.pure (.sl (p0.fVersions.map Ag)), .pure (.sl (p0.fNow.map Ag)), .pure (.sl (p0.fTarget.map Ag)), .pure (.sl (p0.fTables.map Ai))]), (3, .box [.pure (.sl (p1.fBase.map Ag)), .pure (.sl (p1.fNext.map Ag)), .pure (.sl (p1.fHeld.map A9))])]) (fun j10 h => ?_) (fun v10 h => ?_)
      ·refine Aa Ad rfl (qf CB rfl (ql A7 rfl (qm rfl ?_)))
       obtain ⟨v11, a11, b11, h⟩ := Am h
       refine qi AG Dc a11 (Aj b11) rfl (qk B9 rfl (A8 rfl (qm rfl ?_)))
       refine AI (t := 51) rfl (fun c12 => ?_) (fun c12 => ?_)
       ·have h := Ap c12 h
        refine qn rfl (qn rfl (qn rfl (qn rfl (qn rfl (qn rfl (qn rfl (qn rfl (qn rfl (qn rfl (qn rfl (qp rfl (qm rfl (qn rfl (qn rfl (qn rfl (qn rfl (qn rfl (qn rfl (qp rfl (qm rfl (qn rfl (qn rfl (qn rfl (qn rfl (qn rfl (qn rfl (qn rfl (qn rfl (qn rfl (qn rfl (qn rfl (qp rfl (AY (by kernel_rfl) ?_)))))))))))))))))))))))))))))))))
        exact Aw _ h (sm [] _ _ rfl rfl)
       ·have h := Aq c12 h
        refine qf CB rfl (ql A7 rfl (qm rfl ?_))
        obtain ⟨v13, a13, b13, h⟩ := Am h
        refine qi AG Dc a13 (Aj b13) rfl (qk B9 rfl (qf Br rfl (ql A7 rfl (qm rfl ?_))))
        obtain ⟨v14, a14, b14, h⟩ := Am h
        refine qi AG Dc a14 (Aj b14) rfl (qk B9 rfl (Ez rfl (qp rfl (qm rfl ?_))))
        refine AI (t := 64) rfl (fun c15 => ?_) (fun c15 => ?_)
        ·have h := Ap c15 h
         refine qn rfl (qn rfl (qn rfl (qn rfl (qn rfl (qn rfl (qp rfl (qm rfl (qn rfl (qn rfl (qn rfl (qn rfl (qn rfl (qn rfl (qn rfl (qn rfl (qn rfl (qn rfl (qn rfl (qp rfl (AY (by kernel_rfl) ?_))))))))))))))))))))
         exact Aw _ h (sm [] _ _ rfl rfl)
        ·have h := Aq c15 h
         refine qf Bz rfl (ql A7 rfl (qm rfl ?_))
         obtain ⟨v16, a16, b16, h⟩ := Am h
         refine qi AG Dc a16 (Aj b16) rfl (qk B9 rfl (A8 rfl (qp rfl (qm rfl ?_))))
         refine AI (t := 72) rfl (fun c17 => ?_) (fun c17 => ?_)
         ·have h := Ap c17 h
          refine qn rfl (qn rfl (qn rfl (qn rfl (qn rfl (qn rfl (qn rfl (qn rfl (qn rfl (qn rfl (qn rfl (qp rfl (AY (by kernel_rfl) ?_))))))))))))
          exact Aw _ h (sm [] _ _ rfl rfl)
         ·have h := Aq c17 h
          refine qf Bz rfl (ql A7 rfl (qm rfl ?_))
          obtain ⟨v18, a18, b18, h⟩ := Am h
          refine qi AG Dc a18 (Aj b18) rfl (qk B9 rfl (qf Br rfl (ql A7 rfl (qm rfl ?_))))
          obtain ⟨v19, a19, b19, h⟩ := Am h
          refine qi AG Dc a19 (Aj b19) rfl (qk B9 rfl (Ez rfl (qp rfl (AY (by kernel_rfl) ?_))))
          exact Aw _ h (sm [] _ _ rfl rfl)
      ·refine As rfl (fun c20 => ?_) (fun c20 => ?_)
       ·have h := Ap c20 h
        refine Ab (Aa Ad rfl (qa rfl (Ac ?_)))
        obtain rfl := sj h
        refine Al (sm [] [(4, .e (.one (.pure (.val (.int .i64 7)))))] [] rfl rfl) (AC ?_)
        exact ⟨⟨[_], ⟨.tmp _ _ rfl, trivial⟩, rfl⟩, trivial⟩
       ·have h := Aq c20 h
        refine Av (Ab (Aa Ad rfl (qf CB rfl (ql A7 rfl (qm rfl ?_)))))
        obtain ⟨v21, a21, b21, h⟩ := Am h
        refine qi AG Dc a21 (Aj b21) rfl (qk B9 rfl (qf Bz rfl (ql A7 rfl (qm rfl ?_))))
        obtain ⟨v22, a22, b22, h⟩ := Am h
        refine qi AG Dc a22 (Aj b22) rfl (qk B9 rfl (B6 rfl (AY (by kernel_rfl) ?_)))
        refine As rfl (fun c23 => ?_) (fun c23 => ?_)
        ·have h := Ap c23 h
         refine Ab (Aa Ad rfl (qa rfl (Ac ?_)))
         obtain rfl := sj h
         refine Al (sm [] [(4, .e (.one (.pure (.val (.int .i64 1)))))] [] rfl rfl) (AC ?_)
         exact ⟨⟨[_], ⟨.tmp _ _ rfl, trivial⟩, rfl⟩, trivial⟩
        ·have h := Aq c23 h
         refine Av (Aa Ad rfl (qm rfl (Bn rfl (qa rfl (Ac ?_)))))
         exact Aw _ h (sm [] _ _ rfl rfl)
     ·have h := Aq c9 h
      refine A4 ?_
      exact Aw _ h (sm [] _ _ rfl rfl)
    ·refine Al hs (Ab (Ab (Aa Ad rfl (qa rfl (Ac ?_)))))
     refine AR (L := BT N p0 p1) h (fun v24 => mk [(2, .e (.one (.ptr 2 0))), (3, .e (.one (.ptr 3 0))), (8, .e (.one (.pure (.val (.int .i64 v24)))))] [(2, .box [.pure (.sl (p0.fVersions.map Ag)), .pure (.sl (p0.fNow.map Ag)), .pure (.sl (p0.fTarget.map Ag)), .pure (.sl (p0.fTables.map Ai))]), (3, .box [.pure (.sl (p1.fBase.map Ag)), .pure (.sl (p1.fNext.map Ag)), .pure (.sl (p1.fHeld.map A9))])]) (fun v25 => mk [] []) (fun _ _ => rfl) (sm [] _ _ rfl rfl) (fun j24 n24 v24 h => ?_) (fun v25 s h hs => ?_)
     ·unfold BT at h
      refine Ab (Ab (Aa Ad rfl (qm rfl (qf CF rfl (ql Gq rfl (AS DO rfl (A8 rfl (Ac ?_))))))))
      refine As rfl (fun c26 => ?_) (fun c26 => ?_)
      ·have h := Ap c26 h
       refine Av (Ab (AU (Ab (Aa Ad rfl (qf CF rfl (ql Gq rfl (qm rfl ?_)))))))
       obtain ⟨v27, a27, b27, h⟩ := Am h
       refine qi DO DP a27 (Aj b27) rfl (qK GB DP rfl (qz JR rfl (qs DP rfl (Ac (Ab (Aa Ad rfl (qf Br rfl (ql A7 rfl (qf CV rfl (ql B9 rfl ?_))))))))))
       obtain ⟨v28, a28, b28, h⟩ := Am h
       refine qi AG Dc a28 (Aj b28) rfl (qk B9 rfl ?_)
       obtain ⟨c29, h⟩ := AO h
       refine H3 rfl c29 (PD rfl (qa rfl (Ac ?_)))
       refine AX h (fun v30 => mk [(2, .e (.one (.ptr 2 0))), (3, .e (.one (.ptr 3 0))), (8, .e (.one (.pure (.val (.int .i64 v24))))), (153, .e (.one (.pure (.val (.bool v30)))))] [(2, .box [.pure (.sl (p0.fVersions.map Ag)), .pure (.sl (p0.fNow.map Ag)), .pure (.sl (p0.fTarget.map Ag)), .pure (.sl (p0.fTables.map Ai))]), (3, .box [.pure (.sl (p1.fBase.map Ag)), .pure (.sl (p1.fNext.map Ag)), .pure (.sl (p1.fHeld.map A9))])]) (fun j30 h => ?_) (fun v30 h => ?_)
       ·refine Aa Ad rfl (qL GB DP rfl ?_)
        obtain ⟨v31, a31, h⟩ := bind_some h
        refine AK [] (Cd N v27 v31 a31) Oq rfl (CE rfl (qm rfl ?_))
        refine AI (t := 119) rfl (fun c32 => ?_) (fun c32 => ?_)
        ·have h := Ap c32 h
         refine qf Cz rfl (ql Gl rfl (qm rfl ?_))
         obtain ⟨v33, a33, b33, h⟩ := Am h
         refine qi Dm Fq a33 (Aj b33) rfl (qk Jg rfl (Co rfl (qp rfl (qm rfl ?_))))
         refine AI (t := 127) rfl (fun c34 => ?_) (fun c34 => ?_)
         ·have h := Ap c34 h
          refine qn rfl (qn rfl (qn rfl (qu rfl (qu rfl (qu rfl (qu rfl (qu rfl (qu rfl (qu rfl (qu rfl (qu rfl (qu rfl (qu rfl (qu rfl (qu rfl (qu rfl (qu rfl (qu rfl (qu rfl (qu rfl (qu rfl (qu rfl (qu rfl (qn rfl (qp rfl (AY (by kernel_rfl) ?_))))))))))))))))))))))))))
          exact Aw _ h (sm [] _ _ rfl rfl)
         ·have h := Aq c34 h
          refine qL GB DP rfl ?_
          obtain ⟨v35, a35, h⟩ := bind_some h
          refine AK [] (Cd N v27 v35 a35) Oq rfl (qm rfl ?_)
          refine AI (t := 130) rfl (fun c36 => ?_) (fun c36 => ?_)
          ·have h := Ap c36 h
           refine qf Cz rfl (ql Gl rfl (qm rfl ?_))
           obtain ⟨v37, a37, b37, h⟩ := Am h
           refine qi Dm Fq a37 (Aj b37) rfl (qk Jg rfl (qm rfl (Hy rfl (Co rfl (qm rfl ?_)))))
           refine AI (t := 139) rfl (fun c38 => ?_) (fun c38 => ?_)
           ·have h := Ap c38 h
            refine qn rfl (qn rfl (qn rfl (qn rfl (qn rfl (qn rfl (qn rfl (qn rfl (qn rfl (qn rfl (qn rfl (qp rfl (qp rfl (qp rfl (AY (by kernel_rfl) ?_))))))))))))))
            exact Aw _ h (sm [] _ _ rfl rfl)
           ·have h := Aq c38 h
            refine qL Bs AT rfl (qf CV rfl (ql B9 rfl ?_))
            obtain ⟨v39, a39, h⟩ := bind_some h
            refine AK [] (DQ N p1 v27.fFrom v39 a39) SZ rfl (qf Cz rfl (ql Gl rfl (qm rfl ?_)))
            obtain ⟨v40, a40, b40, h⟩ := Am h
            refine qi Dm Fq a40 (Aj b40) rfl (qk Jg rfl (Hy rfl (Co rfl (qp rfl (qp rfl (qp rfl (AY (by kernel_rfl) ?_)))))))
            exact Aw _ h (sm [] _ _ rfl rfl)
          ·have h := Aq c36 h
           refine qn rfl (qn rfl (qn rfl (qn rfl (qn rfl (qn rfl (qn rfl (qn rfl (qn rfl (qu rfl (qu rfl (qu rfl (qu rfl (qu rfl (qu rfl (qu rfl (qu rfl (qu rfl (qu rfl (qu rfl (qn rfl (qp rfl (qp rfl (AY (by kernel_rfl) ?_)))))))))))))))))))))))
           exact Aw _ h (sm [] _ _ rfl rfl)
        ·have h := Aq c32 h
         refine qn rfl (qn rfl (qn rfl (qn rfl (qn rfl (qn rfl (qp rfl (qm rfl (qL GB DP rfl ?_))))))))
         obtain ⟨v41, a41, h⟩ := bind_some h
         refine AK [] (Cd N v27 v41 a41) Oq rfl (qm rfl ?_)
         refine AI (t := 130) rfl (fun c42 => ?_) (fun c42 => ?_)
         ·have h := Ap c42 h
          refine qf Cz rfl (ql Gl rfl (qm rfl ?_))
          obtain ⟨v43, a43, b43, h⟩ := Am h
          refine qi Dm Fq a43 (Aj b43) rfl (qk Jg rfl (qm rfl (Hy rfl (Co rfl (qm rfl ?_)))))
          refine AI (t := 139) rfl (fun c44 => ?_) (fun c44 => ?_)
          ·have h := Ap c44 h
           refine qn rfl (qn rfl (qn rfl (qn rfl (qn rfl (qn rfl (qn rfl (qn rfl (qn rfl (qn rfl (qn rfl (qp rfl (qp rfl (qp rfl (AY (by kernel_rfl) ?_))))))))))))))
           exact Aw _ h (sm [] _ _ rfl rfl)
          ·have h := Aq c44 h
           refine qL Bs AT rfl (qf CV rfl (ql B9 rfl ?_))
           obtain ⟨v45, a45, h⟩ := bind_some h
           refine AK [] (DQ N p1 v27.fFrom v45 a45) SZ rfl (qf Cz rfl (ql Gl rfl (qm rfl ?_)))
           obtain ⟨v46, a46, b46, h⟩ := Am h
           refine qi Dm Fq a46 (Aj b46) rfl (qk Jg rfl (Hy rfl (Co rfl (qp rfl (qp rfl (qp rfl (AY (by kernel_rfl) ?_)))))))
           exact Aw _ h (sm [] _ _ rfl rfl)
         ·have h := Aq c42 h
          refine qn rfl (qn rfl (qn rfl (qn rfl (qn rfl (qn rfl (qn rfl (qn rfl (qn rfl (qu rfl (qu rfl (qu rfl (qu rfl (qu rfl (qu rfl (qu rfl (qu rfl (qu rfl (qu rfl (qu rfl (qn rfl (qp rfl (qp rfl (AY (by kernel_rfl) ?_)))))))))))))))))))))))
          exact Aw _ h (sm [] _ _ rfl rfl)
       ·refine As rfl (fun c47 => ?_) (fun c47 => ?_)
        ·have h := Ap c47 h
         refine Ab (Aa Ad rfl (qa rfl (Ac ?_)))
         obtain rfl := sj h
         refine Al (sm [] [(4, .e (.one (.pure (.val (.int .i64 1)))))] [] rfl rfl) (AC ?_)
         exact ⟨⟨[_], ⟨.tmp _ _ rfl, trivial⟩, rfl⟩, trivial⟩
        ·have h := Aq c47 h
         refine Av (Aa Ad rfl (qm rfl (Bn rfl (qa rfl (Ac ?_)))))
         exact Aw _ h (sm [] _ _ rfl rfl)
      ·have h := Aq c26 h
       refine A4 ?_
       exact Aw _ h (sm [] _ _ rfl rfl)
     ·refine Al hs (Ab (Aa Ad rfl (qa rfl (Ac ?_))))
      obtain rfl := sj h
      refine Al (sm [] [(4, .e (.one (.pure (.val (.int .i64 0)))))] [] rfl rfl) (AC ?_)
      exact ⟨⟨[_], ⟨.tmp _ _ rfl, trivial⟩, rfl⟩, trivial⟩
set_option maxRecDepth 10000 in
theorem JZ (N : Nat) (p0 : Af) (r : Bool) (h : D0 N p0 = some r) : AA Try.prog 80 [.e (.agg [.pure (.val (.int .i64 p0.fKind)), .pure (.val (.int .i64 p0.fIndex)), .pure (.val (.int .i64 p0.fVersion))])] [] (.e (.one (.pure (.val (.bool r))))) := by
 unfold D0 at h
 refine Ao (n := 31) (rs := [.tmp 2]) Try.func80 rfl rfl rfl (BF rfl) (BF rfl) rfl fun w0 S0 => ?_
 refine Ab (Aa Ad rfl (qb rfl (qa rfl (Ac ?_))))
 refine AX h (fun v1 => mk [(2, .e (.one (.pure (.val (.bool v1)))))] []) (fun j1 h => ?_) (fun v1 h => ?_)
 ·refine Aa Ad rfl (qf ES rfl (ql B9 rfl (Ez rfl (qm rfl ?_))))
  refine AI (t := 6) rfl (fun c2 => ?_) (fun c2 => ?_)
  ·have h := Ap c2 h
   refine qf ES rfl (ql B9 rfl (U7 rfl (qp rfl (qm rfl ?_))))
   refine AI (t := 11) rfl (fun c3 => ?_) (fun c3 => ?_)
   ·have h := Ap c3 h
    refine qf Ew rfl (ql B9 rfl (Ez rfl (qp rfl (qm rfl ?_))))
    refine AI (t := 16) rfl (fun c4 => ?_) (fun c4 => ?_)
    ·have h := Ap c4 h
     refine qf F3 rfl (ql B9 rfl (Ez rfl (qp rfl (qm rfl ?_))))
     refine AI (t := 21) rfl (fun c5 => ?_) (fun c5 => ?_)
     ·have h := Ap c5 h
      refine qf ES rfl (ql B9 rfl (B6 rfl (qm rfl ?_)))
      refine AI (t := 25) rfl (fun c6 => ?_) (fun c6 => ?_)
      ·have h := Ap c6 h
       refine qn rfl (qn rfl (qn rfl (qp rfl (qp rfl (qa rfl (Ac ?_))))))
       exact Aw _ h (sm [] _ _ rfl rfl)
      ·have h := Aq c6 h
       refine qf F3 rfl (ql B9 rfl (B6 rfl (qp rfl (qp rfl (qa rfl (Ac ?_))))))
       exact Aw _ h (sm [] _ _ rfl rfl)
     ·have h := Aq c5 h
      refine qn rfl (qn rfl (qn rfl (qn rfl (qu rfl (qu rfl (qu rfl (qn rfl (qp rfl (qa rfl (Ac ?_))))))))))
      exact Aw _ h (sm [] _ _ rfl rfl)
    ·have h := Aq c4 h
     refine qn rfl (qn rfl (qn rfl (qp rfl (qm rfl (qn rfl (qn rfl (qn rfl (qn rfl (qu rfl (qu rfl (qu rfl (qn rfl (qp rfl (qa rfl (Ac ?_)))))))))))))))
     exact Aw _ h (sm [] _ _ rfl rfl)
   ·have h := Aq c3 h
    refine qn rfl (qn rfl (qn rfl (qp rfl (qm rfl (qn rfl (qn rfl (qn rfl (qp rfl (qm rfl (qn rfl (qn rfl (qn rfl (qn rfl (qu rfl (qu rfl (qu rfl (qn rfl (qp rfl (qa rfl (Ac ?_))))))))))))))))))))
    exact Aw _ h (sm [] _ _ rfl rfl)
  ·have h := Aq c2 h
   refine qn rfl (qn rfl (qn rfl (qp rfl (qm rfl (qn rfl (qn rfl (qn rfl (qp rfl (qm rfl (qn rfl (qn rfl (qn rfl (qp rfl (qm rfl (qn rfl (qn rfl (qn rfl (qn rfl (qu rfl (qu rfl (qu rfl (qn rfl (qp rfl (qa rfl (Ac ?_)))))))))))))))))))))))))
   exact Aw _ h (sm [] _ _ rfl rfl)
 ·obtain rfl := sj h
  refine Al (sm [] [(2, .e (.one (.pure (.val (.bool v1)))))] [] rfl rfl) (AC ?_)
  exact ⟨⟨[_], ⟨.tmp _ _ rfl, trivial⟩, rfl⟩, trivial⟩
set_option maxRecDepth 10000 in
theorem Hh (N : Nat) (p0 : Ae) (p1 : Ah) (p2 : Af) (r : Ah × Bool) (h : Cw N p0 p1 p2 = some r) : AA Try.prog 30 [.e (.agg [.pure (.sl (p0.fVersions.map Ag)), .pure (.sl (p0.fNow.map Ag)), .pure (.sl (p0.fTarget.map Ag)), .pure (.sl (p0.fTables.map Ai))]), .e (.agg [.pure (.sl (p1.fBase.map Ag)), .pure (.sl (p1.fNext.map Ag)), .pure (.sl (p1.fHeld.map A9))]), .e (.agg [.pure (.val (.int .i64 p2.fKind)), .pure (.val (.int .i64 p2.fIndex)), .pure (.val (.int .i64 p2.fVersion))])] [(1, r.1.fBase.map Ag), (1, r.1.fNext.map Ag), (1, r.1.fHeld.map A9)] (.tup [.agg [.own 0, .own 1, .own 2], .one (.pure (.val (.bool r.2)))]) := by
 unfold Cw at h
 refine Ao (n := 201) (rs := [.cell 6 43, .tmp 7]) Try.func30 rfl rfl rfl (BF rfl) (BF rfl) rfl fun w0 S0 => ?_
 refine Ab (Aa Ad rfl (qb rfl (qb rfl (qb rfl (qz C7 rfl (qa rfl (Ac (Ab (Aa Ad rfl (Ep AG Dc J9 rfl (qf CB rfl (ql A7 rfl ?_))))))))))))
 obtain ⟨c1, h⟩ := AO h
 refine Ja (f := Ag) AG AG Dc K8 J9 (fun _ => rfl) c1 rfl (Ep AG Dc J9 rfl (qf Bz rfl (ql A7 rfl ?_)))
 obtain ⟨c2, h⟩ := AO h
 refine Ja (f := Ag) AG AG Dc K8 J9 (fun _ => rfl) c2 rfl (Ep Dm Fq OP rfl (qf Cz rfl (ql Gl rfl ?_)))
 obtain ⟨c3, h⟩ := AO h
 refine Ja (f := A9) Dm Dm Fq PT OP (fun _ => rfl) c3 rfl (A6 C7 GD rfl (qz C7 rfl (qs AT rfl (AY (by kernel_rfl) (Ab (Aa Ad rfl (qf Ew rfl (ql B9 rfl (qa rfl (Ac ?_))))))))))
 refine AX h (fun v4 => mk [(6, .e (.one (.ptr 6 0))), (8, .e (.one (.ptr 8 0)))] [(6, .box [.pure (.nil0), .pure (.nil0), .pure (.nil0)]), (8, .box [.own 2001, .own 2002, .own 2003]), (2001, .vec 1 (v4.1.map Ag)), (2002, .vec 1 (v4.2.1.map Ag)), (2003, .vec 1 (v4.2.2.map A9))]) (fun j4 h => ?_) (fun v4 h => ?_)
 ·refine Ab (Aa Ad rfl (qf ES rfl (ql B9 rfl (Ac (AU (Ab (Aa Ad rfl (B6 rfl (qa rfl (Ac ?_))))))))))
  refine As rfl (fun c5 => ?_) (fun c5 => ?_)
  ·have h := Ap c5 h
   refine Ab ?_
   refine AX h (fun v6 => mk [(3, .e (.one (.ptr 3 0))), (5, .e (.one (.ptr 5 0))), (6, .e (.one (.ptr 6 0))), (8, .e (.one (.ptr 8 0))), (9, .e (.one (.pure (.val (.int .i64 p2.fIndex))))), (60, .e (.one (.pure (.val (.bool v6)))))] [(3, .box [.pure (.sl (p0.fVersions.map Ag)), .pure (.sl (p0.fNow.map Ag)), .pure (.sl (p0.fTarget.map Ag)), .pure (.sl (p0.fTables.map Ai))]), (5, .box [.pure (.val (.int .i64 p2.fKind)), .pure (.val (.int .i64 p2.fIndex)), .pure (.val (.int .i64 p2.fVersion))]), (6, .box [.pure (.nil0), .pure (.nil0), .pure (.nil0)]), (8, .box [.own 2004, .own 2005, .own 2006]), (2004, .vec 1 (((([] : List Int)) ++ p1.fBase).map Ag)), (2005, .vec 1 (((([] : List Int)) ++ p1.fNext).map Ag)), (2006, .vec 1 (((([] : List Int)) ++ p1.fHeld).map A9))]) (fun j6 h => ?_) (fun v6 h => ?_)
   ·refine Aa Ad rfl (qf Bz rfl (ql A7 rfl (qm rfl ?_)))
    obtain ⟨v7, a7, b7, h⟩ := Am h
    refine qi AG Dc a7 (Aj b7) rfl (qk B9 rfl (Ez rfl (qm rfl ?_)))
    refine AI (t := 51) rfl (fun c8 => ?_) (fun c8 => ?_)
    ·have h := Ap c8 h
     refine qn rfl (qn rfl (qn rfl (qn rfl (qn rfl (qn rfl (qn rfl (qn rfl (qp rfl (AY (by kernel_rfl) ?_)))))))))
     exact Aw _ h (sm [(2004, 18), (2005, 22), (2006, 26)] _ _ rfl rfl)
    ·have h := Aq c8 h
     refine qf F3 rfl (ql B9 rfl (qf CB rfl (ql A7 rfl (qm rfl ?_))))
     obtain ⟨v9, a9, b9, h⟩ := Am h
     refine qi AG Dc a9 (Aj b9) rfl (qk B9 rfl (B6 rfl (qp rfl (AY (by kernel_rfl) ?_))))
     exact Aw _ h (sm [(2004, 18), (2005, 22), (2006, 26)] _ _ rfl rfl)
   ·refine As rfl (fun c10 => ?_) (fun c10 => ?_)
    ·have h := Ap c10 h
     refine Ab (Aa Ad rfl (A6 C7 GD rfl (qs AT rfl (qa rfl (Ac ?_)))))
     obtain rfl := sj h
     refine Al ((AE 6 0 2007 1 _ rfl rfl rfl rfl).trans ((AE 6 1 2008 1 _ rfl rfl rfl rfl).trans ((AE 6 2 2009 1 _ rfl rfl rfl rfl).trans (sm [(1000, 2007), (1001, 2008), (1002, 2009)] [(6, .e (.one (.ptr 6 0))), (7, .e (.one (.pure (.val (.bool false)))))] [(6, .box [.own 1000, .own 1001, .own 1002]), (1000, .vec 1 ((([] : List Int)).map Ag)), (1001, .vec 1 ((([] : List Int)).map Ag)), (1002, .vec 1 ((([] : List Int)).map A9))] rfl rfl)))) (AC ?_)
     exact ⟨⟨[_, _], ⟨.cellN _ _ _ _ _ _ _ rfl rfl Bs AT rfl rfl (Hb rfl), ⟨.tmp _ _ rfl, trivial⟩⟩, rfl⟩, ⟨rfl, rfl, rfl, trivial⟩⟩
    ·have h := Aq c10 h
     refine Av (Ab (Aa Ad rfl (qf Bz rfl (ql A7 rfl (qm rfl (qf F3 rfl (ql B9 rfl ?_)))))))
     obtain ⟨v11, a11, b11, h⟩ := Am h
     refine qI AG Dc a11 (Aj b11) rfl ?_
     refine D8 rfl rfl rfl rfl (Aj b11) rfl Dc rfl (BF rfl) (DL Ag ((([] : List Int)) ++ p1.fNext) _ p2.fVersion) ?_
     refine Ac (Ab (Aa Ad rfl (qa rfl (Ac ?_))))
     refine AR (L := BW N p0 p2) h (fun v12 => mk [(3, .e (.one (.ptr 3 0))), (5, .e (.one (.ptr 5 0))), (6, .e (.one (.ptr 6 0))), (8, .e (.one (.ptr 8 0))), (9, .e (.one (.pure (.val (.int .i64 p2.fIndex))))), (10, .e (.one (.pure (.val (.int .i64 v12.2)))))] [(3, .box [.pure (.sl (p0.fVersions.map Ag)), .pure (.sl (p0.fNow.map Ag)), .pure (.sl (p0.fTarget.map Ag)), .pure (.sl (p0.fTables.map Ai))]), (5, .box [.pure (.val (.int .i64 p2.fKind)), .pure (.val (.int .i64 p2.fIndex)), .pure (.val (.int .i64 p2.fVersion))]), (6, .box [.pure (.nil0), .pure (.nil0), .pure (.nil0)]), (8, .box [.own 2010, .own 2011, .own 2012]), (2010, .vec 1 (((([] : List Int)) ++ p1.fBase).map Ag)), (2011, .vec 1 ((((([] : List Int)) ++ p1.fNext).set ((p2.fIndex).toNat) p2.fVersion).map Ag)), (2012, .vec 1 (v12.1.map A9))]) (fun v13 => mk [(6, .e (.one (.ptr 6 0))), (8, .e (.one (.ptr 8 0)))] [(6, .box [.pure (.nil0), .pure (.nil0), .pure (.nil0)]), (8, .box [.own 2013, .own 2014, .own 2015]), (2013, .vec 1 (((([] : List Int)) ++ p1.fBase).map Ag)), (2014, .vec 1 ((((([] : List Int)) ++ p1.fNext).set ((p2.fIndex).toNat) p2.fVersion).map Ag)), (2015, .vec 1 (v13.map A9))]) (fun _ _ => rfl) (sm [(2010, 2004), (2011, 2005), (2012, 2006)] _ _ rfl rfl) (fun j12 n12 v12 h => ?_) (fun v13 s h hs => ?_)
     ·unfold BW at h
      refine Ab (Ab (Aa Ad rfl (qm rfl (qf CF rfl (ql Gq rfl (AS DO rfl (A8 rfl (Ac ?_))))))))
      refine As rfl (fun c14 => ?_) (fun c14 => ?_)
      ·have h := Ap c14 h
       refine Av ?_
       refine AX h (fun v15 => mk [(3, .e (.one (.ptr 3 0))), (5, .e (.one (.ptr 5 0))), (6, .e (.one (.ptr 6 0))), (8, .e (.one (.ptr 8 0))), (9, .e (.one (.pure (.val (.int .i64 p2.fIndex))))), (10, .e (.one (.pure (.val (.int .i64 v12.2)))))] [(3, .box [.pure (.sl (p0.fVersions.map Ag)), .pure (.sl (p0.fNow.map Ag)), .pure (.sl (p0.fTarget.map Ag)), .pure (.sl (p0.fTables.map Ai))]), (5, .box [.pure (.val (.int .i64 p2.fKind)), .pure (.val (.int .i64 p2.fIndex)), .pure (.val (.int .i64 p2.fVersion))]), (6, .box [.pure (.nil0), .pure (.nil0), .pure (.nil0)]), (8, .box [.own 2016, .own 2017, .own 2018]), (2016, .vec 1 (((([] : List Int)) ++ p1.fBase).map Ag)), (2017, .vec 1 ((((([] : List Int)) ++ p1.fNext).set ((p2.fIndex).toNat) p2.fVersion).map Ag)), (2018, .vec 1 (v15.map A9))]) (fun j15 h => ?_) (fun v15 h => ?_)
       ·refine AU ?_
        refine AX h (fun v16 => mk [(3, .e (.one (.ptr 3 0))), (5, .e (.one (.ptr 5 0))), (6, .e (.one (.ptr 6 0))), (8, .e (.one (.ptr 8 0))), (9, .e (.one (.pure (.val (.int .i64 p2.fIndex))))), (10, .e (.one (.pure (.val (.int .i64 v12.2))))), (90, .e (.one (.pure (.val (.bool v16)))))] [(3, .box [.pure (.sl (p0.fVersions.map Ag)), .pure (.sl (p0.fNow.map Ag)), .pure (.sl (p0.fTarget.map Ag)), .pure (.sl (p0.fTables.map Ai))]), (5, .box [.pure (.val (.int .i64 p2.fKind)), .pure (.val (.int .i64 p2.fIndex)), .pure (.val (.int .i64 p2.fVersion))]), (6, .box [.pure (.nil0), .pure (.nil0), .pure (.nil0)]), (8, .box [.own 2019, .own 2020, .own 2021]), (2019, .vec 1 (((([] : List Int)) ++ p1.fBase).map Ag)), (2020, .vec 1 ((((([] : List Int)) ++ p1.fNext).set ((p2.fIndex).toNat) p2.fVersion).map Ag)), (2021, .vec 1 (v12.1.map A9))]) (fun j16 h => ?_) (fun v16 h => ?_)
        ·refine Aa Ad rfl (qf CF rfl (ql Gq rfl (qm rfl ?_)))
         obtain ⟨v17, a17, b17, h⟩ := Am h
         refine qi DO DP a17 (Aj b17) rfl (qg CV rfl (qk B9 rfl (qm rfl (B6 rfl (qm rfl ?_)))))
         refine AI (t := 83) rfl (fun c18 => ?_) (fun c18 => ?_)
         ·have h := Ap c18 h
          refine qf CF rfl (ql Gq rfl (qm rfl ?_))
          obtain ⟨v19, a19, b19, h⟩ := Am h
          refine qi DO DP a19 (Aj b19) rfl (qK GB DP rfl ?_)
          obtain ⟨v20, a20, h⟩ := bind_some h
          refine AK [] (Cd N v19 v20 a20) Oq rfl (qp rfl (Ac ?_))
          exact Aw _ h (sm [(2019, 2010), (2020, 2011), (2021, 2012)] _ _ rfl rfl)
         ·have h := Aq c18 h
          refine qn rfl (qn rfl (qn rfl (qn rfl (qn rfl (qn rfl (qp rfl (Ac ?_)))))))
          exact Aw _ h (sm [(2019, 2010), (2020, 2011), (2021, 2012)] _ _ rfl rfl)
        ·refine As rfl (fun c21 => ?_) (fun c21 => ?_)
         ·have h := Ap c21 h
          refine Aa Ad rfl (qf Cz rfl (ql Gl rfl (qm rfl (qf Cz rfl (ql Gl rfl (qm rfl ?_))))))
          obtain ⟨v22, a22, b22, h⟩ := Am h
          refine qI Dm Fq a22 (Aj b22) rfl (qj Jg (Aj b22) rfl (qf F3 rfl (ql B9 rfl ?_)))
          obtain ⟨c23, h⟩ := AO h
          refine H3 rfl c23 (Se rfl ?_)
          obtain ⟨v24, a24, b24, h⟩ := Am h
          refine qI Dm Fq a24 (Aj b24) rfl ?_
          refine D8 rfl rfl rfl rfl (Aj b24) rfl Fq rfl (BF rfl) (DL A9 v12.1 _ ((Ng .u8 v22 ((Dw .u8 1 p2.fVersion))))) ?_
          refine AY (by kernel_rfl) ?_
          exact Aw _ h (sm [(2016, 2019), (2017, 2020), (2018, 2021)] _ _ rfl rfl)
         ·have h := Aq c21 h
          refine Av ?_
          exact Aw _ h (sm [(2016, 2019), (2017, 2020), (2018, 2021)] _ _ rfl rfl)
       ·refine Aa Ad rfl (qm rfl (Bn rfl (qa rfl (Ac ?_))))
        exact Aw _ h (sm [(2010, 2016), (2011, 2017), (2012, 2018)] _ _ rfl rfl)
      ·have h := Aq c14 h
       refine A4 ?_
       exact Aw _ h (sm [(2013, 2010), (2014, 2011), (2015, 2012)] _ _ rfl rfl)
     ·exact Aw _ h (hs.trans (sm [(2001, 2013), (2002, 2014), (2003, 2015)] _ _ rfl rfl))
  ·have h := Aq c5 h
   refine Ab (Aa Ad rfl (B6 rfl (qa rfl (Ac ?_))))
   refine As rfl (fun c25 => ?_) (fun c25 => ?_)
   ·have h := Ap c25 h
    refine Ab (Ab (Aa Ad rfl (qf Bz rfl (ql A7 rfl (qm rfl ?_)))))
    obtain ⟨v26, a26, b26, h⟩ := Am h
    refine qi AG Dc a26 (Aj b26) rfl (qk B9 rfl (A8 rfl (Ac ?_)))
    refine As rfl (fun c27 => ?_) (fun c27 => ?_)
    ·have h := Ap c27 h
     refine Ab (Aa Ad rfl (A6 C7 GD rfl (qs AT rfl (qa rfl (Ac ?_)))))
     obtain rfl := sj h
     refine Al ((AE 6 0 2022 1 _ rfl rfl rfl rfl).trans ((AE 6 1 2023 1 _ rfl rfl rfl rfl).trans ((AE 6 2 2024 1 _ rfl rfl rfl rfl).trans (sm [(1000, 2022), (1001, 2023), (1002, 2024)] [(6, .e (.one (.ptr 6 0))), (7, .e (.one (.pure (.val (.bool false)))))] [(6, .box [.own 1000, .own 1001, .own 1002]), (1000, .vec 1 ((([] : List Int)).map Ag)), (1001, .vec 1 ((([] : List Int)).map Ag)), (1002, .vec 1 ((([] : List Int)).map A9))] rfl rfl)))) (AC ?_)
     exact ⟨⟨[_, _], ⟨.cellN _ _ _ _ _ _ _ rfl rfl Bs AT rfl rfl (Hb rfl), ⟨.tmp _ _ rfl, trivial⟩⟩, rfl⟩, ⟨rfl, rfl, rfl, trivial⟩⟩
    ·have h := Aq c27 h
     refine Av (Aa Ad rfl (qf CB rfl (ql A7 rfl (qm rfl (qf Bz rfl (ql A7 rfl (qm rfl (qf Bz rfl (ql A7 rfl (qm rfl ?_))))))))))
     obtain ⟨v28, a28, b28, h⟩ := Am h
     refine qi AG Dc a28 (Aj b28) rfl (qk B9 rfl ?_)
     obtain ⟨v29, a29, b29, h⟩ := Am h
     refine qI AG Dc a29 (Aj b29) rfl ?_
     refine D8 rfl rfl rfl rfl (Aj b29) rfl Dc rfl (BF rfl) (DL Ag ((([] : List Int)) ++ p1.fBase) _ v28) ?_
     obtain ⟨v30, a30, b30, h⟩ := Am h
     refine qI AG Dc a30 (Aj b30) rfl ?_
     refine D8 rfl rfl rfl rfl (Aj b30) rfl Dc rfl (BF rfl) (DL Ag ((([] : List Int)) ++ p1.fNext) _ ((-1))) ?_
     refine AY (by kernel_rfl) ?_
     exact Aw _ h (sm [(2001, 18), (2002, 22), (2003, 26)] _ _ rfl rfl)
   ·have h := Aq c25 h
    refine Ab (Aa Ad rfl (B6 rfl (qa rfl (Ac ?_))))
    refine As rfl (fun c31 => ?_) (fun c31 => ?_)
    ·have h := Ap c31 h
     refine Ab (Aa Ad rfl (qf CF rfl (ql Gq rfl (qm rfl ?_))))
     obtain ⟨v32, a32, b32, h⟩ := Am h
     refine qi DO DP a32 (Aj b32) rfl (qK GB DP rfl (qz JR rfl (qs DP rfl (Ac (Ab (Ab (Aa Ad rfl (qL GB DP rfl ?_))))))))
     obtain ⟨v33, a33, h⟩ := bind_some h
     refine AK [] (Cd N v32 v33 a33) Oq rfl (CE rfl (Ac ?_))
     refine As rfl (fun c34 => ?_) (fun c34 => ?_)
     ·have h := Ap c34 h
      refine Ab (Aa Ad rfl (A6 C7 GD rfl (qs AT rfl (qa rfl (Ac ?_)))))
      obtain rfl := sj h
      refine Al ((AE 6 0 2025 1 _ rfl rfl rfl rfl).trans ((AE 6 1 2026 1 _ rfl rfl rfl rfl).trans ((AE 6 2 2027 1 _ rfl rfl rfl rfl).trans (sm [(1000, 2025), (1001, 2026), (1002, 2027)] [(6, .e (.one (.ptr 6 0))), (7, .e (.one (.pure (.val (.bool false)))))] [(6, .box [.own 1000, .own 1001, .own 1002]), (1000, .vec 1 ((([] : List Int)).map Ag)), (1001, .vec 1 ((([] : List Int)).map Ag)), (1002, .vec 1 ((([] : List Int)).map A9))] rfl rfl)))) (AC ?_)
      exact ⟨⟨[_, _], ⟨.cellN _ _ _ _ _ _ _ rfl rfl Bs AT rfl rfl (Hb rfl), ⟨.tmp _ _ rfl, trivial⟩⟩, rfl⟩, ⟨rfl, rfl, rfl, trivial⟩⟩
     ·have h := Aq c34 h
      refine Av (Ab (Aa Ad rfl (qL Bs AT rfl (qf CV rfl (ql B9 rfl ?_)))))
      obtain ⟨v35, a35, h⟩ := bind_some h
      refine AK [] (DQ N p1 v32.fFrom v35 a35) SZ rfl (qa rfl (Ac (Ab (Ab (Aa Ad rfl (qf Cz rfl (ql Gl rfl (qm rfl ?_))))))))
      obtain ⟨v36, a36, b36, h⟩ := Am h
      refine qi Dm Fq a36 (Aj b36) rfl (qk Jg rfl (qm rfl (B6 rfl (Ac ?_))))
      refine As rfl (fun c37 => ?_) (fun c37 => ?_)
      ·have h := Ap c37 h
       refine Ab (Aa Ad rfl (A6 C7 GD rfl (qs AT rfl (qa rfl (Ac ?_)))))
       obtain rfl := sj h
       refine Al ((AE 6 0 2028 1 _ rfl rfl rfl rfl).trans ((AE 6 1 2029 1 _ rfl rfl rfl rfl).trans ((AE 6 2 2030 1 _ rfl rfl rfl rfl).trans (sm [(1000, 2028), (1001, 2029), (1002, 2030)] [(6, .e (.one (.ptr 6 0))), (7, .e (.one (.pure (.val (.bool false)))))] [(6, .box [.own 1000, .own 1001, .own 1002]), (1000, .vec 1 ((([] : List Int)).map Ag)), (1001, .vec 1 ((([] : List Int)).map Ag)), (1002, .vec 1 ((([] : List Int)).map A9))] rfl rfl)))) (AC ?_)
       exact ⟨⟨[_, _], ⟨.cellN _ _ _ _ _ _ _ rfl rfl Bs AT rfl rfl (Hb rfl), ⟨.tmp _ _ rfl, trivial⟩⟩, rfl⟩, ⟨rfl, rfl, rfl, trivial⟩⟩
      ·have h := Aq c37 h
       refine Av (Ab (Ab (Aa Ad rfl (qa rfl (Ac ?_)))))
       refine AR (L := BA N p0 p1 p2 v32 v35) h (fun v38 => mk [(3, .e (.one (.ptr 3 0))), (4, .e (.one (.ptr 4 0))), (6, .e (.one (.ptr 6 0))), (8, .e (.one (.ptr 8 0))), (9, .e (.one (.pure (.val (.int .i64 p2.fIndex))))), (11, .e (.one (.ptr 11 0))), (12, .e (.one (.pure (.val (.int .u8 v35))))), (13, .e (.one (.pure (.val (.int .i64 v38)))))] [(3, .box [.pure (.sl (p0.fVersions.map Ag)), .pure (.sl (p0.fNow.map Ag)), .pure (.sl (p0.fTarget.map Ag)), .pure (.sl (p0.fTables.map Ai))]), (4, .box [.pure (.sl (p1.fBase.map Ag)), .pure (.sl (p1.fNext.map Ag)), .pure (.sl (p1.fHeld.map A9))]), (6, .box [.pure (.nil0), .pure (.nil0), .pure (.nil0)]), (8, .box [.own 2031, .own 2032, .own 2033]), (11, .box [.pure (.val (.int .i64 v32.fKind)), .pure (.val (.int .i64 v32.fFrom)), .pure (.val (.int .i64 v32.fTo)), .pure (.val (.bool v32.fAware)), .pure (.sl (v32.fOK.map (Et eB))), .pure (.sl (v32.fRewrite.map (Et eB)))]), (2031, .vec 1 (((([] : List Int)) ++ p1.fBase).map Ag)), (2032, .vec 1 (((([] : List Int)) ++ p1.fNext).map Ag)), (2033, .vec 1 (((([] : List Int)) ++ p1.fHeld).map A9))]) (fun v39 => mk [(6, .e (.one (.ptr 6 0))), (8, .e (.one (.ptr 8 0))), (9, .e (.one (.pure (.val (.int .i64 p2.fIndex))))), (12, .e (.one (.pure (.val (.int .u8 v35)))))] [(6, .box [.pure (.nil0), .pure (.nil0), .pure (.nil0)]), (8, .box [.own 2034, .own 2035, .own 2036]), (2034, .vec 1 (((([] : List Int)) ++ p1.fBase).map Ag)), (2035, .vec 1 (((([] : List Int)) ++ p1.fNext).map Ag)), (2036, .vec 1 (((([] : List Int)) ++ p1.fHeld).map A9))]) (fun _ _ => rfl) (sm [(2031, 18), (2032, 22), (2033, 26)] _ _ rfl rfl) (fun j38 n38 v38 h => ?_) (fun v39 s h hs => ?_)
       ·unfold BA at h
        refine Ab (Ab (Aa Ad rfl (qm rfl (qf Br rfl (ql A7 rfl (qf CV rfl (ql B9 rfl ?_)))))))
        obtain ⟨v40, a40, b40, h⟩ := Am h
        refine qi AG Dc a40 (Aj b40) rfl (qk B9 rfl (A8 rfl (Ac ?_)))
        refine As rfl (fun c41 => ?_) (fun c41 => ?_)
        ·have h := Ap c41 h
         refine Av (Ab (AU ?_))
         refine AX h (fun v42 => mk [(3, .e (.one (.ptr 3 0))), (4, .e (.one (.ptr 4 0))), (6, .e (.one (.ptr 6 0))), (8, .e (.one (.ptr 8 0))), (9, .e (.one (.pure (.val (.int .i64 p2.fIndex))))), (11, .e (.one (.ptr 11 0))), (12, .e (.one (.pure (.val (.int .u8 v35))))), (13, .e (.one (.pure (.val (.int .i64 v38))))), (14, .e (.one (.pure (.val (.bool v42)))))] [(3, .box [.pure (.sl (p0.fVersions.map Ag)), .pure (.sl (p0.fNow.map Ag)), .pure (.sl (p0.fTarget.map Ag)), .pure (.sl (p0.fTables.map Ai))]), (4, .box [.pure (.sl (p1.fBase.map Ag)), .pure (.sl (p1.fNext.map Ag)), .pure (.sl (p1.fHeld.map A9))]), (6, .box [.pure (.nil0), .pure (.nil0), .pure (.nil0)]), (8, .box [.own 2037, .own 2038, .own 2039]), (11, .box [.pure (.val (.int .i64 v32.fKind)), .pure (.val (.int .i64 v32.fFrom)), .pure (.val (.int .i64 v32.fTo)), .pure (.val (.bool v32.fAware)), .pure (.sl (v32.fOK.map (Et eB))), .pure (.sl (v32.fRewrite.map (Et eB)))]), (2037, .vec 1 (((([] : List Int)) ++ p1.fBase).map Ag)), (2038, .vec 1 (((([] : List Int)) ++ p1.fNext).map Ag)), (2039, .vec 1 (((([] : List Int)) ++ p1.fHeld).map A9))]) (fun j42 h => ?_) (fun v42 h => ?_)
         ·refine Aa Ad rfl (qf Cz rfl (ql Gl rfl (qm rfl ?_)))
          obtain ⟨v43, a43, b43, h⟩ := Am h
          refine qi Dm Fq a43 (Aj b43) rfl (qk Jg rfl (qm rfl ?_))
          obtain ⟨v44, a44, h⟩ := bind_some h
          refine AK [] (Fn N v43 v38 v44 a44) Ua rfl (qm rfl ?_)
          refine AI (t := 166) rfl (fun c45 => ?_) (fun c45 => ?_)
          ·have h := Ap c45 h
           refine qm rfl (qm rfl ?_)
           obtain ⟨v46, a46, h⟩ := bind_some h
           refine AK [] (Fn N v35 v38 v46 a46) Ua rfl (CE rfl (qp rfl (qa rfl (Ac ?_))))
           exact Aw _ h (sm [(2037, 2031), (2038, 2032), (2039, 2033)] _ _ rfl rfl)
          ·have h := Aq c45 h
           refine qn rfl (qn rfl (qn rfl (qn rfl (qp rfl (qa rfl (Ac ?_))))))
           exact Aw _ h (sm [(2037, 2031), (2038, 2032), (2039, 2033)] _ _ rfl rfl)
         ·refine AX h (fun v47 => mk [(3, .e (.one (.ptr 3 0))), (4, .e (.one (.ptr 4 0))), (6, .e (.one (.ptr 6 0))), (8, .e (.one (.ptr 8 0))), (9, .e (.one (.pure (.val (.int .i64 p2.fIndex))))), (11, .e (.one (.ptr 11 0))), (12, .e (.one (.pure (.val (.int .u8 v35))))), (13, .e (.one (.pure (.val (.int .i64 v38))))), (193, .e (.one (.pure (.val (.bool v47)))))] [(3, .box [.pure (.sl (p0.fVersions.map Ag)), .pure (.sl (p0.fNow.map Ag)), .pure (.sl (p0.fTarget.map Ag)), .pure (.sl (p0.fTables.map Ai))]), (4, .box [.pure (.sl (p1.fBase.map Ag)), .pure (.sl (p1.fNext.map Ag)), .pure (.sl (p1.fHeld.map A9))]), (6, .box [.pure (.nil0), .pure (.nil0), .pure (.nil0)]), (8, .box [.own 2040, .own 2041, .own 2042]), (11, .box [.pure (.val (.int .i64 v32.fKind)), .pure (.val (.int .i64 v32.fFrom)), .pure (.val (.int .i64 v32.fTo)), .pure (.val (.bool v32.fAware)), .pure (.sl (v32.fOK.map (Et eB))), .pure (.sl (v32.fRewrite.map (Et eB)))]), (2040, .vec 1 (((([] : List Int)) ++ p1.fBase).map Ag)), (2041, .vec 1 (((([] : List Int)) ++ p1.fNext).map Ag)), (2042, .vec 1 (((([] : List Int)) ++ p1.fHeld).map A9))]) (fun j47 h => ?_) (fun v47 h => ?_)
          ·refine Aa Ad rfl (qm rfl (qm rfl ?_))
           refine AI (t := 173) rfl (fun c48 => ?_) (fun c48 => ?_)
           ·have h := Ap c48 h
            refine qf Fl rfl (ql B9 rfl (B6 rfl (qp rfl (qm rfl ?_))))
            refine AI (t := 178) rfl (fun c49 => ?_) (fun c49 => ?_)
            ·have h := Ap c49 h
             refine qf F4 rfl (ql Jd rfl (qm rfl ?_))
             obtain ⟨v50, a50, b50, h⟩ := Am h
             refine qi FN L6 a50 (Aj b50) rfl (qk Ou rfl (qf CB rfl (ql A7 rfl (qf CV rfl (ql B9 rfl ?_)))))
             obtain ⟨v51, a51, b51, h⟩ := Am h
             refine qi AG Dc a51 (Aj b51) rfl (qk B9 rfl ?_)
             obtain ⟨v52, a52, b52, h⟩ := Am h
             refine qi FT PW a52 (Aj b52) rfl (qk Rx rfl (CE rfl (qp rfl (AY (by kernel_rfl) ?_))))
             exact Aw _ h (sm [(2040, 2037), (2041, 2038), (2042, 2039)] _ _ rfl rfl)
            ·have h := Aq c49 h
             refine qn rfl (qn rfl (qn rfl (qn rfl (qn rfl (qn rfl (qn rfl (qn rfl (qn rfl (qn rfl (qn rfl (qn rfl (qn rfl (qn rfl (qp rfl (AY (by kernel_rfl) ?_)))))))))))))))
             exact Aw _ h (sm [(2040, 2037), (2041, 2038), (2042, 2039)] _ _ rfl rfl)
           ·have h := Aq c48 h
            refine qn rfl (qn rfl (qn rfl (qp rfl (qm rfl (qn rfl (qn rfl (qn rfl (qn rfl (qn rfl (qn rfl (qn rfl (qn rfl (qn rfl (qn rfl (qn rfl (qn rfl (qn rfl (qn rfl (qp rfl (AY (by kernel_rfl) ?_))))))))))))))))))))
            exact Aw _ h (sm [(2040, 2037), (2041, 2038), (2042, 2039)] _ _ rfl rfl)
          ·refine As rfl (fun c53 => ?_) (fun c53 => ?_)
           ·have h := Ap c53 h
            refine Ab (Aa Ad rfl (A6 C7 GD rfl (qs AT rfl (qa rfl (Ac ?_)))))
            obtain rfl := sj h
            refine Al ((AE 6 0 2043 1 _ rfl rfl rfl rfl).trans ((AE 6 1 2044 1 _ rfl rfl rfl rfl).trans ((AE 6 2 2045 1 _ rfl rfl rfl rfl).trans (sm [(1000, 2043), (1001, 2044), (1002, 2045)] [(6, .e (.one (.ptr 6 0))), (7, .e (.one (.pure (.val (.bool false)))))] [(6, .box [.own 1000, .own 1001, .own 1002]), (1000, .vec 1 ((([] : List Int)).map Ag)), (1001, .vec 1 ((([] : List Int)).map Ag)), (1002, .vec 1 ((([] : List Int)).map A9))] rfl rfl)))) (AC ?_)
            exact ⟨⟨[_, _], ⟨.cellN _ _ _ _ _ _ _ rfl rfl Bs AT rfl rfl (Hb rfl), ⟨.tmp _ _ rfl, trivial⟩⟩, rfl⟩, ⟨rfl, rfl, rfl, trivial⟩⟩
           ·have h := Aq c53 h
            refine Av (Aa Ad rfl (qm rfl (Bn rfl (qa rfl (Ac ?_)))))
            exact Aw _ h (sm [(2031, 2040), (2032, 2041), (2033, 2042)] _ _ rfl rfl)
        ·have h := Aq c41 h
         refine A4 ?_
         exact Aw _ h (sm [(2034, 2031), (2035, 2032), (2036, 2033)] _ _ rfl rfl)
       ·refine Al hs (Aa Ad rfl (qf Cz rfl (ql Gl rfl (qm rfl (qm rfl ?_)))))
        obtain ⟨v54, a54, b54, h⟩ := Am h
        refine qI Dm Fq a54 (Aj b54) rfl ?_
        refine D8 rfl rfl rfl rfl (Aj b54) rfl Fq rfl (BF rfl) (DL A9 ((([] : List Int)) ++ p1.fHeld) _ v35) ?_
        refine Ac ?_
        exact Aw _ h (sm [(2001, 2034), (2002, 2035), (2003, 2036)] _ _ rfl rfl)
    ·have h := Aq c31 h
     refine Ab (Ab (Aa Ad rfl (qf Bz rfl (ql A7 rfl (qm rfl ?_)))))
     obtain ⟨v55, a55, b55, h⟩ := Am h
     refine qi AG Dc a55 (Aj b55) rfl (qk B9 rfl (A8 rfl (Ac ?_)))
     refine As rfl (fun c56 => ?_) (fun c56 => ?_)
     ·have h := Ap c56 h
      refine Ab (Aa Ad rfl (A6 C7 GD rfl (qs AT rfl (qa rfl (Ac ?_)))))
      obtain rfl := sj h
      refine Al ((AE 6 0 2046 1 _ rfl rfl rfl rfl).trans ((AE 6 1 2047 1 _ rfl rfl rfl rfl).trans ((AE 6 2 2048 1 _ rfl rfl rfl rfl).trans (sm [(1000, 2046), (1001, 2047), (1002, 2048)] [(6, .e (.one (.ptr 6 0))), (7, .e (.one (.pure (.val (.bool false)))))] [(6, .box [.own 1000, .own 1001, .own 1002]), (1000, .vec 1 ((([] : List Int)).map Ag)), (1001, .vec 1 ((([] : List Int)).map Ag)), (1002, .vec 1 ((([] : List Int)).map A9))] rfl rfl)))) (AC ?_)
      exact ⟨⟨[_, _], ⟨.cellN _ _ _ _ _ _ _ rfl rfl Bs AT rfl rfl (Hb rfl), ⟨.tmp _ _ rfl, trivial⟩⟩, rfl⟩, ⟨rfl, rfl, rfl, trivial⟩⟩
     ·have h := Aq c56 h
      refine Av (Aa Ad rfl (qf Bz rfl (ql A7 rfl (qm rfl ?_))))
      obtain ⟨v57, a57, b57, h⟩ := Am h
      refine qI AG Dc a57 (Aj b57) rfl ?_
      refine D8 rfl rfl rfl rfl (Aj b57) rfl Dc rfl (BF rfl) (DL Ag ((([] : List Int)) ++ p1.fNext) _ ((-1))) ?_
      refine Ac ?_
      exact Aw _ h (sm [(2001, 18), (2002, 22), (2003, 26)] _ _ rfl rfl)
 ·refine Ab (Aa Ad rfl (qL Bs AT rfl (qs AT rfl (qa rfl (Ac ?_)))))
  obtain rfl := sj h
  refine Al (sm [(1000, 2001), (1001, 2002), (1002, 2003)] [(6, .e (.one (.ptr 6 0))), (7, .e (.one (.pure (.val (.bool true)))))] [(6, .box [.own 1000, .own 1001, .own 1002]), (1000, .vec 1 (v4.1.map Ag)), (1001, .vec 1 (v4.2.1.map Ag)), (1002, .vec 1 (v4.2.2.map A9))] rfl rfl) (AC ?_)
  exact ⟨⟨[_, _], ⟨.cellN _ _ _ _ _ _ _ rfl rfl Bs AT rfl rfl (Hb rfl), ⟨.tmp _ _ rfl, trivial⟩⟩, rfl⟩, ⟨rfl, rfl, rfl, trivial⟩⟩
set_option maxRecDepth 10000 in
theorem J0 (N : Nat) (p0 : Ae) (p1 : Ah) (p2 : Af) (r : Ah × Int) (h : D6 N p0 p1 p2 = some r) : AA Try.prog 41 [.e (.agg [.pure (.sl (p0.fVersions.map Ag)), .pure (.sl (p0.fNow.map Ag)), .pure (.sl (p0.fTarget.map Ag)), .pure (.sl (p0.fTables.map Ai))]), .e (.agg [.pure (.sl (p1.fBase.map Ag)), .pure (.sl (p1.fNext.map Ag)), .pure (.sl (p1.fHeld.map A9))]), .e (.agg [.pure (.val (.int .i64 p2.fKind)), .pure (.val (.int .i64 p2.fIndex)), .pure (.val (.int .i64 p2.fVersion))])] [(1, r.1.fBase.map Ag), (1, r.1.fNext.map Ag), (1, r.1.fHeld.map A9)] (.tup [.agg [.own 0, .own 1, .own 2], .one (.pure (.val (.int .i64 r.2)))]) := by
 unfold D6 at h
 refine Ao (n := 73) (rs := [.cell 6 43, .tmp 7]) Try.func41 rfl rfl rfl (BF rfl) (BF rfl) rfl fun w0 S0 => ?_
 refine Ab (Aa Ad rfl (qb rfl (qb rfl (qb rfl (qz C7 rfl (qa rfl (Ac (Ab (Ab (Aa Ad rfl (qL Dr CX rfl (qL Bs AT rfl ?_))))))))))))
 obtain ⟨v1, a1, h⟩ := bind_some h
 refine AK [] (FR N p0 p1 v1 a1) Vv rfl (qa rfl (Ac (Ab (Aa Ad rfl (qm rfl (Co rfl (Ac ?_)))))))
 refine As rfl (fun c2 => ?_) (fun c2 => ?_)
 ·have h := Ap c2 h
  refine Ab (Aa Ad rfl (A6 C7 GD rfl (qm rfl (qs AT rfl (qa rfl (Ac ?_))))))
  obtain rfl := sj h
  refine Al ((AE 6 0 2001 1 _ rfl rfl rfl rfl).trans ((AE 6 1 2002 1 _ rfl rfl rfl rfl).trans ((AE 6 2 2003 1 _ rfl rfl rfl rfl).trans (sm [(1000, 2001), (1001, 2002), (1002, 2003)] [(6, .e (.one (.ptr 6 0))), (7, .e (.one (.pure (.val (.int .i64 v1)))))] [(6, .box [.own 1000, .own 1001, .own 1002]), (1000, .vec 1 ((([] : List Int)).map Ag)), (1001, .vec 1 ((([] : List Int)).map Ag)), (1002, .vec 1 ((([] : List Int)).map A9))] rfl rfl)))) (AC ?_)
  exact ⟨⟨[_, _], ⟨.cellN _ _ _ _ _ _ _ rfl rfl Bs AT rfl rfl (Hb rfl), ⟨.tmp _ _ rfl, trivial⟩⟩, rfl⟩, ⟨rfl, rfl, rfl, trivial⟩⟩
 ·have h := Aq c2 h
  refine Av (Ab (Ab (Aa Ad rfl (qL GM Dh rfl ?_))))
  obtain ⟨v3, a3, h⟩ := bind_some h
  refine AK [] (JZ N p2 v3 a3) XI rfl (CE rfl (Ac ?_))
  refine As rfl (fun c4 => ?_) (fun c4 => ?_)
  ·have h := Ap c4 h
   refine Ab (Aa Ad rfl (A6 C7 GD rfl (qs AT rfl (qa rfl (Ac ?_)))))
   obtain rfl := sj h
   refine Al ((AE 6 0 2004 1 _ rfl rfl rfl rfl).trans ((AE 6 1 2005 1 _ rfl rfl rfl rfl).trans ((AE 6 2 2006 1 _ rfl rfl rfl rfl).trans (sm [(1000, 2004), (1001, 2005), (1002, 2006)] [(6, .e (.one (.ptr 6 0))), (7, .e (.one (.pure (.val (.int .i64 1)))))] [(6, .box [.own 1000, .own 1001, .own 1002]), (1000, .vec 1 ((([] : List Int)).map Ag)), (1001, .vec 1 ((([] : List Int)).map Ag)), (1002, .vec 1 ((([] : List Int)).map A9))] rfl rfl)))) (AC ?_)
   exact ⟨⟨[_, _], ⟨.cellN _ _ _ _ _ _ _ rfl rfl Bs AT rfl rfl (Hb rfl), ⟨.tmp _ _ rfl, trivial⟩⟩, rfl⟩, ⟨rfl, rfl, rfl, trivial⟩⟩
  ·have h := Aq c4 h
   refine Av (Ab ?_)
   refine AX h (fun v5 => mk [(3, .e (.one (.ptr 3 0))), (4, .e (.one (.ptr 4 0))), (5, .e (.one (.ptr 5 0))), (6, .e (.one (.ptr 6 0))), (45, .e (.one (.pure (.val (.bool v5)))))] [(3, .box [.pure (.sl (p0.fVersions.map Ag)), .pure (.sl (p0.fNow.map Ag)), .pure (.sl (p0.fTarget.map Ag)), .pure (.sl (p0.fTables.map Ai))]), (4, .box [.pure (.sl (p1.fBase.map Ag)), .pure (.sl (p1.fNext.map Ag)), .pure (.sl (p1.fHeld.map A9))]), (5, .box [.pure (.val (.int .i64 p2.fKind)), .pure (.val (.int .i64 p2.fIndex)), .pure (.val (.int .i64 p2.fVersion))]), (6, .box [.pure (.nil0), .pure (.nil0), .pure (.nil0)])]) (fun j5 h => ?_) (fun v5 h => ?_)
   ·refine Aa Ad rfl (qf ES rfl (ql B9 rfl (B6 rfl (qm rfl ?_))))
    refine AI (t := 25) rfl (fun c6 => ?_) (fun c6 => ?_)
    ·have h := Ap c6 h
     refine qf Ew rfl (ql B9 rfl (qf CF rfl (ql Gq rfl (AS DO rfl (Ez rfl (qp rfl (qm rfl ?_)))))))
     refine AI (t := 33) rfl (fun c7 => ?_) (fun c7 => ?_)
     ·have h := Ap c7 h
      refine qn rfl (qn rfl (qn rfl (qn rfl (qu rfl (qu rfl (qu rfl (qu rfl (qu rfl (qu rfl (qn rfl (qp rfl (Ac ?_))))))))))))
      exact Aw _ h (sm [] _ _ rfl rfl)
     ·have h := Aq c7 h
      refine qf ES rfl (ql B9 rfl (Co rfl (qm rfl ?_)))
      refine AI (t := 37) rfl (fun c8 => ?_) (fun c8 => ?_)
      ·have h := Ap c8 h
       refine qf Ew rfl (ql B9 rfl (qf Br rfl (ql A7 rfl (AS AG rfl (Ez rfl (qp rfl (qp rfl (Ac ?_))))))))
       exact Aw _ h (sm [] _ _ rfl rfl)
      ·have h := Aq c8 h
       refine qn rfl (qn rfl (qn rfl (qn rfl (qn rfl (qn rfl (qp rfl (qp rfl (Ac ?_))))))))
       exact Aw _ h (sm [] _ _ rfl rfl)
    ·have h := Aq c6 h
     refine qn rfl (qn rfl (qn rfl (qn rfl (qn rfl (qn rfl (qp rfl (qm rfl (qf ES rfl (ql B9 rfl (Co rfl (qm rfl ?_)))))))))))
     refine AI (t := 37) rfl (fun c9 => ?_) (fun c9 => ?_)
     ·have h := Ap c9 h
      refine qf Ew rfl (ql B9 rfl (qf Br rfl (ql A7 rfl (AS AG rfl (Ez rfl (qp rfl (qp rfl (Ac ?_))))))))
      exact Aw _ h (sm [] _ _ rfl rfl)
     ·have h := Aq c9 h
      refine qn rfl (qn rfl (qn rfl (qn rfl (qn rfl (qn rfl (qp rfl (qp rfl (Ac ?_))))))))
      exact Aw _ h (sm [] _ _ rfl rfl)
   ·refine As rfl (fun c10 => ?_) (fun c10 => ?_)
    ·have h := Ap c10 h
     refine Ab (Aa Ad rfl (A6 C7 GD rfl (qs AT rfl (qa rfl (Ac ?_)))))
     obtain rfl := sj h
     refine Al ((AE 6 0 2007 1 _ rfl rfl rfl rfl).trans ((AE 6 1 2008 1 _ rfl rfl rfl rfl).trans ((AE 6 2 2009 1 _ rfl rfl rfl rfl).trans (sm [(1000, 2007), (1001, 2008), (1002, 2009)] [(6, .e (.one (.ptr 6 0))), (7, .e (.one (.pure (.val (.int .i64 4)))))] [(6, .box [.own 1000, .own 1001, .own 1002]), (1000, .vec 1 ((([] : List Int)).map Ag)), (1001, .vec 1 ((([] : List Int)).map Ag)), (1002, .vec 1 ((([] : List Int)).map A9))] rfl rfl)))) (AC ?_)
     exact ⟨⟨[_, _], ⟨.cellN _ _ _ _ _ _ _ rfl rfl Bs AT rfl rfl (Hb rfl), ⟨.tmp _ _ rfl, trivial⟩⟩, rfl⟩, ⟨rfl, rfl, rfl, trivial⟩⟩
    ·have h := Aq c10 h
     refine Av (Ab ?_)
     refine AX h (fun v11 => mk [(3, .e (.one (.ptr 3 0))), (4, .e (.one (.ptr 4 0))), (5, .e (.one (.ptr 5 0))), (6, .e (.one (.ptr 6 0))), (60, .e (.one (.pure (.val (.bool v11)))))] [(3, .box [.pure (.sl (p0.fVersions.map Ag)), .pure (.sl (p0.fNow.map Ag)), .pure (.sl (p0.fTarget.map Ag)), .pure (.sl (p0.fTables.map Ai))]), (4, .box [.pure (.sl (p1.fBase.map Ag)), .pure (.sl (p1.fNext.map Ag)), .pure (.sl (p1.fHeld.map A9))]), (5, .box [.pure (.val (.int .i64 p2.fKind)), .pure (.val (.int .i64 p2.fIndex)), .pure (.val (.int .i64 p2.fVersion))]), (6, .box [.pure (.nil0), .pure (.nil0), .pure (.nil0)])]) (fun j11 h => ?_) (fun v11 h => ?_)
     ·refine Aa Ad rfl (qf ES rfl (ql B9 rfl (B6 rfl (qm rfl ?_))))
      refine AI (t := 50) rfl (fun c12 => ?_) (fun c12 => ?_)
      ·have h := Ap c12 h
       refine qf F3 rfl (ql B9 rfl (qf Br rfl (ql A7 rfl (qf Ew rfl (ql B9 rfl ?_)))))
       obtain ⟨v13, a13, b13, h⟩ := Am h
       refine qi AG Dc a13 (Aj b13) rfl (qk B9 rfl (Ez rfl (qp rfl (AY (by kernel_rfl) ?_))))
       exact Aw _ h (sm [] _ _ rfl rfl)
      ·have h := Aq c12 h
       refine qn rfl (qn rfl (qn rfl (qn rfl (qn rfl (qn rfl (qn rfl (qn rfl (qn rfl (qp rfl (AY (by kernel_rfl) ?_))))))))))
       exact Aw _ h (sm [] _ _ rfl rfl)
     ·refine As rfl (fun c14 => ?_) (fun c14 => ?_)
      ·have h := Ap c14 h
       refine Ab (Aa Ad rfl (A6 C7 GD rfl (qs AT rfl (qa rfl (Ac ?_)))))
       obtain rfl := sj h
       refine Al ((AE 6 0 2010 1 _ rfl rfl rfl rfl).trans ((AE 6 1 2011 1 _ rfl rfl rfl rfl).trans ((AE 6 2 2012 1 _ rfl rfl rfl rfl).trans (sm [(1000, 2010), (1001, 2011), (1002, 2012)] [(6, .e (.one (.ptr 6 0))), (7, .e (.one (.pure (.val (.int .i64 4)))))] [(6, .box [.own 1000, .own 1001, .own 1002]), (1000, .vec 1 ((([] : List Int)).map Ag)), (1001, .vec 1 ((([] : List Int)).map Ag)), (1002, .vec 1 ((([] : List Int)).map A9))] rfl rfl)))) (AC ?_)
       exact ⟨⟨[_, _], ⟨.cellN _ _ _ _ _ _ _ rfl rfl Bs AT rfl rfl (Hb rfl), ⟨.tmp _ _ rfl, trivial⟩⟩, rfl⟩, ⟨rfl, rfl, rfl, trivial⟩⟩
      ·have h := Aq c14 h
       refine Av (Ab (Aa Ad rfl (qL Dr CX rfl (qL Bs AT rfl (qL GM Dh rfl ?_)))))
       obtain ⟨v15, a15, h⟩ := bind_some h
       refine AK [2013, 2014, 2015] (Hh N p0 p1 p2 v15 a15) Ws rfl (qm rfl (qx rfl (qx rfl (qz C7 rfl (qs AT rfl (qa rfl (Ac (Ab (Ab (Aa Ad rfl (qm rfl (CE rfl (Ac ?_)))))))))))))
       refine As rfl (fun c16 => ?_) (fun c16 => ?_)
       ·have h := Ap c16 h
        refine Ab (Aa Ad rfl (A6 C7 GD rfl (qs AT rfl (qa rfl (Ac ?_)))))
        obtain rfl := sj h
        refine Al ((AE 6 0 2016 1 _ rfl rfl rfl rfl).trans ((AE 6 1 2017 1 _ rfl rfl rfl rfl).trans ((AE 6 2 2018 1 _ rfl rfl rfl rfl).trans (sm [(1000, 2016), (1001, 2017), (1002, 2018)] [(6, .e (.one (.ptr 6 0))), (7, .e (.one (.pure (.val (.int .i64 11)))))] [(6, .box [.own 1000, .own 1001, .own 1002]), (1000, .vec 1 ((([] : List Int)).map Ag)), (1001, .vec 1 ((([] : List Int)).map Ag)), (1002, .vec 1 ((([] : List Int)).map A9))] rfl rfl)))) (AC ?_)
        exact ⟨⟨[_, _], ⟨.cellN _ _ _ _ _ _ _ rfl rfl Bs AT rfl rfl (Hb rfl), ⟨.tmp _ _ rfl, trivial⟩⟩, rfl⟩, ⟨rfl, rfl, rfl, trivial⟩⟩
       ·have h := Aq c16 h
        refine Av (Ab (Aa Ad rfl (qL Bs AT rfl (qs AT rfl (qa rfl (Ac ?_))))))
        obtain rfl := sj h
        refine Al (sm [(1000, 2013), (1001, 2014), (1002, 2015)] [(6, .e (.one (.ptr 6 0))), (7, .e (.one (.pure (.val (.int .i64 0)))))] [(6, .box [.own 1000, .own 1001, .own 1002]), (1000, .vec 1 (v15.1.fBase.map Ag)), (1001, .vec 1 (v15.1.fNext.map Ag)), (1002, .vec 1 (v15.1.fHeld.map A9))] rfl rfl) (AC ?_)
        exact ⟨⟨[_, _], ⟨.cellN _ _ _ _ _ _ _ rfl rfl Bs AT rfl rfl (Hb rfl), ⟨.tmp _ _ rfl, trivial⟩⟩, rfl⟩, ⟨rfl, rfl, rfl, trivial⟩⟩
set_option maxRecDepth 10000 in
theorem JX (N : Nat) (p0 : Ae) (p1 : Ah) (r : (List Af)) (h : D5 N p0 p1 = some r) : AA Try.prog 52 [.e (.agg [.pure (.sl (p0.fVersions.map Ag)), .pure (.sl (p0.fNow.map Ag)), .pure (.sl (p0.fTarget.map Ag)), .pure (.sl (p0.fTables.map Ai))]), .e (.agg [.pure (.sl (p1.fBase.map Ag)), .pure (.sl (p1.fNext.map Ag)), .pure (.sl (p1.fHeld.map A9))])] [(3, r.map Ax)] (.e (.one (.own 0))) := by
 unfold D5 at h
 refine Ao (n := 49) (rs := [.tmp 4]) Try.func52 rfl rfl rfl (BF rfl) (BF rfl) rfl fun w0 S0 => ?_
 refine Ab (Aa Ad rfl (qb rfl (qb rfl (qa rfl (Ac (Ab (Aa Ad rfl (qa rfl (Ac (Ab (Ab (Aa Ad rfl (qa rfl (Ac ?_))))))))))))))
 refine AR (L := Bp N p0 p1) h (fun v1 => mk [(2, .e (.one (.ptr 2 0))), (3, .e (.one (.ptr 3 0))), (5, .e (.one (.own 2001))), (6, .e (.one (.pure (.val (.int .i64 v1.2)))))] [(2, .box [.pure (.sl (p0.fVersions.map Ag)), .pure (.sl (p0.fNow.map Ag)), .pure (.sl (p0.fTarget.map Ag)), .pure (.sl (p0.fTables.map Ai))]), (3, .box [.pure (.sl (p1.fBase.map Ag)), .pure (.sl (p1.fNext.map Ag)), .pure (.sl (p1.fHeld.map A9))]), (2001, .vec 3 (v1.1.map Ax))]) (fun v2 => mk [(5, .e (.one (.own 2002)))] [(2002, .vec 3 (v2.map Ax))]) (fun _ _ => rfl) ((By 5 2011 3 rfl rfl rfl).trans (sm [(2001, 2011)] _ _ rfl rfl)) (fun j1 n1 v1 h => ?_) (fun v2 s h hs => ?_)
 ·unfold Bp at h
  refine Ab (Ab (Aa Ad rfl (qm rfl (U7 rfl (Ac ?_)))))
  refine As rfl (fun c3 => ?_) (fun c3 => ?_)
  ·have h := Ap c3 h
   refine Av (Ab (AU (Ab (Aa Ad rfl (qa rfl (Ac ?_))))))
   refine AR (L := B5 N p0 p1 v1) h (fun v4 => mk [(2, .e (.one (.ptr 2 0))), (3, .e (.one (.ptr 3 0))), (5, .e (.one (.own 2003))), (6, .e (.one (.pure (.val (.int .i64 v1.2))))), (7, .e (.one (.pure (.val (.int .i64 v4.2)))))] [(2, .box [.pure (.sl (p0.fVersions.map Ag)), .pure (.sl (p0.fNow.map Ag)), .pure (.sl (p0.fTarget.map Ag)), .pure (.sl (p0.fTables.map Ai))]), (3, .box [.pure (.sl (p1.fBase.map Ag)), .pure (.sl (p1.fNext.map Ag)), .pure (.sl (p1.fHeld.map A9))]), (2003, .vec 3 (v4.1.map Ax))]) (fun v5 => mk [(2, .e (.one (.ptr 2 0))), (3, .e (.one (.ptr 3 0))), (5, .e (.one (.own 2004))), (6, .e (.one (.pure (.val (.int .i64 v1.2)))))] [(2, .box [.pure (.sl (p0.fVersions.map Ag)), .pure (.sl (p0.fNow.map Ag)), .pure (.sl (p0.fTarget.map Ag)), .pure (.sl (p0.fTables.map Ai))]), (3, .box [.pure (.sl (p1.fBase.map Ag)), .pure (.sl (p1.fNext.map Ag)), .pure (.sl (p1.fHeld.map A9))]), (2004, .vec 3 (v5.map Ax))]) (fun _ _ => rfl) (sm [(2003, 2001)] _ _ rfl rfl) (fun j4 n4 v4 h => ?_) (fun v5 s h hs => ?_)
   ·unfold B5 at h
    refine Ab (Ab (Aa Ad rfl (qm rfl (qf Br rfl (ql A7 rfl (AS AG rfl (qf CF rfl (ql Gq rfl (AS DO rfl ?_)))))))))
    refine W8 (.p rfl) rfl rfl ?_
    refine A8 rfl (Ac ?_)
    refine As rfl (fun c6 => ?_) (fun c6 => ?_)
    ·have h := Ap c6 h
     refine Av (Ab (AU (Ab (Aa Ad rfl (qa rfl (Ac ?_))))))
     refine AR (L := B4 N p0 p1 v1 v4) h (fun v7 => mk [(2, .e (.one (.ptr 2 0))), (3, .e (.one (.ptr 3 0))), (5, .e (.one (.own 2005))), (6, .e (.one (.pure (.val (.int .i64 v1.2))))), (7, .e (.one (.pure (.val (.int .i64 v4.2))))), (8, .e (.one (.pure (.val (.int .i64 v7.2)))))] [(2, .box [.pure (.sl (p0.fVersions.map Ag)), .pure (.sl (p0.fNow.map Ag)), .pure (.sl (p0.fTarget.map Ag)), .pure (.sl (p0.fTables.map Ai))]), (3, .box [.pure (.sl (p1.fBase.map Ag)), .pure (.sl (p1.fNext.map Ag)), .pure (.sl (p1.fHeld.map A9))]), (2005, .vec 3 (v7.1.map Ax))]) (fun v8 => mk [(2, .e (.one (.ptr 2 0))), (3, .e (.one (.ptr 3 0))), (5, .e (.one (.own 2006))), (6, .e (.one (.pure (.val (.int .i64 v1.2))))), (7, .e (.one (.pure (.val (.int .i64 v4.2)))))] [(2, .box [.pure (.sl (p0.fVersions.map Ag)), .pure (.sl (p0.fNow.map Ag)), .pure (.sl (p0.fTarget.map Ag)), .pure (.sl (p0.fTables.map Ai))]), (3, .box [.pure (.sl (p1.fBase.map Ag)), .pure (.sl (p1.fNext.map Ag)), .pure (.sl (p1.fHeld.map A9))]), (2006, .vec 3 (v8.map Ax))]) (fun _ _ => rfl) (sm [(2005, 2003)] _ _ rfl rfl) (fun j7 n7 v7 h => ?_) (fun v8 s h hs => ?_)
     ·unfold B4 at h
      refine Ab (Ab (Aa Ad rfl (qm rfl (A8 rfl (Ac ?_)))))
      refine As rfl (fun c9 => ?_) (fun c9 => ?_)
      ·have h := Ap c9 h
       refine Av ?_
       refine AX h (fun v10 => mk [(2, .e (.one (.ptr 2 0))), (3, .e (.one (.ptr 3 0))), (5, .e (.one (.own 2007))), (6, .e (.one (.pure (.val (.int .i64 v1.2))))), (7, .e (.one (.pure (.val (.int .i64 v4.2))))), (8, .e (.one (.pure (.val (.int .i64 v7.2)))))] [(2, .box [.pure (.sl (p0.fVersions.map Ag)), .pure (.sl (p0.fNow.map Ag)), .pure (.sl (p0.fTarget.map Ag)), .pure (.sl (p0.fTables.map Ai))]), (3, .box [.pure (.sl (p1.fBase.map Ag)), .pure (.sl (p1.fNext.map Ag)), .pure (.sl (p1.fHeld.map A9))]), (2007, .vec 3 (v10.map Ax))]) (fun j10 h => ?_) (fun v10 h => ?_)
       ·refine AU (Ab (Aa Ad rfl (qm rfl (qm rfl (qm rfl (A6 GC OC rfl (qz GC rfl (qs Dh rfl (Ac (Ab (Aa Ad rfl (qL Dr CX rfl (qL Bs AT rfl (qL GM Dh rfl ?_))))))))))))))
        obtain ⟨v11, a11, h⟩ := bind_some h
        refine AK [2008, 2009, 2010] (J0 N p0 p1 ((Af.mk v1.2 v4.2 v7.2)) v11 a11) Xx rfl (qm rfl (qx rfl (qx rfl (qz C7 rfl (qs AT rfl (qa rfl (Ac (Ab (Aa Ad rfl (qm rfl (B6 rfl (Ac ?_))))))))))))
        refine As rfl (fun c12 => ?_) (fun c12 => ?_)
        ·have h := Ap c12 h
         refine Aa Ad rfl (qm rfl (qL GM Dh rfl (Ep CT Dh GC rfl ?_)))
         obtain ⟨c13, h⟩ := AO h
         refine Dx (f := Ax) CT CT Dh NZ GC c13 rfl (qa rfl (Ac ?_))
         exact Aw _ h (sm [(2007, 47)] _ _ rfl rfl)
        ·have h := Aq c12 h
         refine Av ?_
         exact Aw _ h (sm [(2007, 2005)] _ _ rfl rfl)
       ·refine Aa Ad rfl (qm rfl (Bn rfl (qa rfl (Ac ?_))))
        exact Aw _ h (sm [(2005, 2007)] _ _ rfl rfl)
      ·have h := Aq c9 h
       refine A4 ?_
       exact Aw _ h (sm [(2006, 2005)] _ _ rfl rfl)
     ·refine Al hs (Aa Ad rfl (qm rfl (Bn rfl (qa rfl (Ac ?_)))))
      exact Aw _ h (sm [(2003, 2006)] _ _ rfl rfl)
    ·have h := Aq c6 h
     refine A4 ?_
     exact Aw _ h (sm [(2004, 2003)] _ _ rfl rfl)
   ·refine Al hs (Aa Ad rfl (qm rfl (Bn rfl (qa rfl (Ac ?_)))))
    exact Aw _ h (sm [(2001, 2004)] _ _ rfl rfl)
  ·have h := Aq c3 h
   refine A4 ?_
   exact Aw _ h (sm [(2002, 2001)] _ _ rfl rfl)
 ·refine Al hs (Ab (Aa Ad rfl (qm rfl (qa rfl (Ac ?_)))))
  obtain rfl := sj h
  refine Al (sm [(1000, 2002)] [(4, .e (.one (.own 1000)))] [(1000, .vec 3 (v2.map Ax))] rfl rfl) (AC ?_)
  exact ⟨⟨[_], ⟨.tmp _ _ rfl, trivial⟩, rfl⟩, ⟨rfl, trivial⟩⟩
set_option maxRecDepth 10000 in
theorem F8 (N : Nat) (p0 : List Int) (p1 : List Int) (r : Int) (h : C1 N p0 p1 = some r) : AA Try.prog 83 [.e (.one (.pure (.sl (p0.map Ag)))), .e (.one (.pure (.sl (p1.map Ag))))] [] (.e (.one (.pure (.val (.int .i64 r))))) := by
 unfold C1 at h
 refine Ao (n := 46) (rs := [.tmp 4]) Try.func83 rfl rfl rfl (BF rfl) (BF rfl) rfl fun w0 S0 => ?_
 refine Ab (Aa Ad rfl (qa rfl (Ac (Ab (Ab (Aa Ad rfl (qa rfl (Ac ?_))))))))
 refine AR (L := CW N p0 p1) h (fun v1 => mk [(0, .e (.one (.pure (.sl (p0.map Ag))))), (1, .e (.one (.pure (.sl (p1.map Ag))))), (5, .e (.one (.pure (.val (.int .i64 v1)))))] []) (fun v2 => mk [(0, .e (.one (.pure (.sl (p0.map Ag))))), (1, .e (.one (.pure (.sl (p1.map Ag)))))] []) (fun _ _ => rfl) (sm [] _ _ rfl rfl) (fun j1 n1 v1 h => ?_) (fun v2 s h hs => ?_)
 ·unfold CW at h
  refine Ab ?_
  refine AX h (fun v3 => mk [(0, .e (.one (.pure (.sl (p0.map Ag))))), (1, .e (.one (.pure (.sl (p1.map Ag))))), (5, .e (.one (.pure (.val (.int .i64 v1))))), (15, .e (.one (.pure (.val (.bool v3)))))] []) (fun j3 h => ?_) (fun v3 h => ?_)
  ·refine Aa Ad rfl (qm rfl (qm rfl (AS AG rfl (A8 rfl (qm rfl ?_)))))
   refine AI (t := 10) rfl (fun c4 => ?_) (fun c4 => ?_)
   ·have h := Ap c4 h
    refine qm rfl (qm rfl (AS AG rfl (A8 rfl (qp rfl (Ac ?_)))))
    exact Aw _ h (sm [] _ _ rfl rfl)
   ·have h := Aq c4 h
    refine qn rfl (qn rfl (qn rfl (qn rfl (qp rfl (Ac ?_)))))
    exact Aw _ h (sm [] _ _ rfl rfl)
  ·refine As rfl (fun c5 => ?_) (fun c5 => ?_)
   ·have h := Ap c5 h
    refine Av (Ab (AU (Ab (Ab (Aa Ad rfl (qm rfl (qm rfl ?_)))))))
    obtain ⟨v6, a6, b6, h⟩ := Am h
    refine qi AG Dc a6 (Aj b6) rfl (qk B9 rfl (qm rfl (qm rfl ?_)))
    obtain ⟨v7, a7, b7, h⟩ := Am h
    refine qi AG Dc a7 (Aj b7) rfl (qk B9 rfl (A8 rfl (AY (by kernel_rfl) ?_)))
    refine As rfl (fun c8 => ?_) (fun c8 => ?_)
    ·have h := Ap c8 h
     refine Ab (Aa Ad rfl (qa rfl (Ac ?_)))
     obtain rfl := sj h
     refine Al (sm [] [(4, .e (.one (.pure (.val (.int .i64 ((-1)))))))] [] rfl rfl) (AC ?_)
     exact ⟨⟨[_], ⟨.tmp _ _ rfl, trivial⟩, rfl⟩, trivial⟩
    ·have h := Aq c8 h
     refine Av (Ab (Aa Ad rfl (qm rfl (qm rfl ?_))))
     obtain ⟨v9, a9, b9, h⟩ := Am h
     refine qi AG Dc a9 (Aj b9) rfl (qk B9 rfl (qm rfl (qm rfl ?_)))
     obtain ⟨v10, a10, b10, h⟩ := Am h
     refine qi AG Dc a10 (Aj b10) rfl (qk B9 rfl (Ge rfl (AY (by kernel_rfl) ?_)))
     refine As rfl (fun c11 => ?_) (fun c11 => ?_)
     ·have h := Ap c11 h
      refine Ab (Aa Ad rfl (qa rfl (Ac ?_)))
      obtain rfl := sj h
      refine Al (sm [] [(4, .e (.one (.pure (.val (.int .i64 1)))))] [] rfl rfl) (AC ?_)
      exact ⟨⟨[_], ⟨.tmp _ _ rfl, trivial⟩, rfl⟩, trivial⟩
     ·have h := Aq c11 h
      refine Av (Aa Ad rfl (qm rfl (Bn rfl (qa rfl (Ac ?_)))))
      exact Aw _ h (sm [] _ _ rfl rfl)
   ·have h := Aq c5 h
    refine A4 ?_
    exact Aw _ h (sm [] _ _ rfl rfl)
 ·refine Al hs (Ab (Ab (Aa Ad rfl (qm rfl (AS AG rfl (qm rfl (AS AG rfl (A8 rfl (Ac ?_)))))))))
  refine As rfl (fun c12 => ?_) (fun c12 => ?_)
  ·have h := Ap c12 h
   refine Ab (Aa Ad rfl (qa rfl (Ac ?_)))
   obtain rfl := sj h
   refine Al (sm [] [(4, .e (.one (.pure (.val (.int .i64 ((-1)))))))] [] rfl rfl) (AC ?_)
   exact ⟨⟨[_], ⟨.tmp _ _ rfl, trivial⟩, rfl⟩, trivial⟩
  ·have h := Aq c12 h
   refine Av (Ab (Ab (Aa Ad rfl (qm rfl (AS AG rfl (qm rfl (AS AG rfl (Ge rfl (Ac ?_)))))))))
   refine As rfl (fun c13 => ?_) (fun c13 => ?_)
   ·have h := Ap c13 h
    refine Ab (Aa Ad rfl (qa rfl (Ac ?_)))
    obtain rfl := sj h
    refine Al (sm [] [(4, .e (.one (.pure (.val (.int .i64 1)))))] [] rfl rfl) (AC ?_)
    exact ⟨⟨[_], ⟨.tmp _ _ rfl, trivial⟩, rfl⟩, trivial⟩
   ·have h := Aq c13 h
    refine Av (Ab (Aa Ad rfl (qa rfl (Ac ?_))))
    obtain rfl := sj h
    refine Al (sm [] [(4, .e (.one (.pure (.val (.int .i64 0)))))] [] rfl rfl) (AC ?_)
    exact ⟨⟨[_], ⟨.tmp _ _ rfl, trivial⟩, rfl⟩, trivial⟩
set_option maxRecDepth 10000 in
theorem GF (N : Nat) (p0 : List Int) (r : (List Int)) (h : CU N p0 = some r) : AA Try.prog 84 [.e (.one (.pure (.sl (p0.map A9))))] [(1, r.map Ag)] (.e (.one (.own 0))) := by
 unfold CU at h
 refine Ao (n := 20) (rs := [.tmp 2]) Try.func84 rfl rfl rfl (BF rfl) (BF rfl) rfl fun w0 S0 => ?_
 refine Ab (Aa Ad rfl (qa rfl (Ac (Ab (Aa Ad rfl (qa rfl (Ac (Ab (Ab (Aa Ad rfl (qa rfl (Ac ?_))))))))))))
 refine AR (L := Cy N p0) h (fun v1 => mk [(0, .e (.one (.pure (.sl (p0.map A9))))), (3, .e (.one (.own 2001))), (4, .e (.one (.pure (.val (.int .i64 v1.2)))))] [(2001, .vec 1 (v1.1.map Ag))]) (fun v2 => mk [(3, .e (.one (.own 2002)))] [(2002, .vec 1 (v2.map Ag))]) (fun _ _ => rfl) ((By 3 2003 1 rfl rfl rfl).trans (sm [(2001, 2003)] _ _ rfl rfl)) (fun j1 n1 v1 h => ?_) (fun v2 s h hs => ?_)
 ·unfold Cy at h
  refine Ab (Ab (Aa Ad rfl (qm rfl (qm rfl (AS Dm rfl (A8 rfl (Ac ?_)))))))
  refine As rfl (fun c3 => ?_) (fun c3 => ?_)
  ·have h := Ap c3 h
   refine Av (Ab (AU (Aa Ad rfl (qm rfl (qm rfl (qm rfl ?_))))))
   obtain ⟨v4, a4, b4, h⟩ := Am h
   refine qi Dm Fq a4 (Aj b4) rfl (qk Jg rfl (It X2 U5 rfl (Ep AG Dc J9 rfl ?_)))
   obtain ⟨c5, h⟩ := AO h
   refine Dx (f := Ag) AG AG Dc K8 J9 c5 rfl (qa rfl (Ac (Aa Ad rfl (qm rfl (Bn rfl (qa rfl (Ac ?_)))))))
   exact Aw _ h (sm [(2001, 18)] _ _ rfl rfl)
  ·have h := Aq c3 h
   refine A4 ?_
   exact Aw _ h (sm [(2002, 2001)] _ _ rfl rfl)
 ·refine Al hs (Ab (Aa Ad rfl (qm rfl (qa rfl (Ac ?_)))))
  obtain rfl := sj h
  refine Al (sm [(1000, 2002)] [(2, .e (.one (.own 1000)))] [(1000, .vec 1 (v2.map Ag))] rfl rfl) (AC ?_)
  exact ⟨⟨[_], ⟨.tmp _ _ rfl, trivial⟩, rfl⟩, ⟨rfl, trivial⟩⟩
set_option maxRecDepth 10000 in
theorem I6 (N : Nat) (p0 : Ah) (p1 : Ah) (r : Int) (h : Dz N p0 p1 = some r) : AA Try.prog 44 [.e (.agg [.pure (.sl (p0.fBase.map Ag)), .pure (.sl (p0.fNext.map Ag)), .pure (.sl (p0.fHeld.map A9))]), .e (.agg [.pure (.sl (p1.fBase.map Ag)), .pure (.sl (p1.fNext.map Ag)), .pure (.sl (p1.fHeld.map A9))])] [] (.e (.one (.pure (.val (.int .i64 r))))) := by
 unfold Dz at h
 refine Ao (n := 30) (rs := [.tmp 4]) Try.func44 rfl rfl rfl (BF rfl) (BF rfl) rfl fun w0 S0 => ?_
 refine Ab (Aa Ad rfl (qb rfl (qb rfl (qa rfl (Ac (Ab (Ab (Aa Ad rfl (qf CB rfl (ql A7 rfl (qf CB rfl (ql A7 rfl ?_))))))))))))
 obtain ⟨v1, a1, h⟩ := bind_some h
 refine AK [] (F8 N p0.fBase p1.fBase v1 a1) Vn rfl (qa rfl (Ac (Ab (Aa Ad rfl (qm rfl (Co rfl (Ac ?_)))))))
 refine As rfl (fun c2 => ?_) (fun c2 => ?_)
 ·have h := Ap c2 h
  refine Ab (Aa Ad rfl (qm rfl (qa rfl (Ac ?_))))
  obtain rfl := sj h
  refine Al (sm [] [(4, .e (.one (.pure (.val (.int .i64 v1)))))] [] rfl rfl) (AC ?_)
  exact ⟨⟨[_], ⟨.tmp _ _ rfl, trivial⟩, rfl⟩, trivial⟩
 ·have h := Aq c2 h
  refine Av (Ab (Ab (Aa Ad rfl (qf Bz rfl (ql A7 rfl (qf Bz rfl (ql A7 rfl ?_)))))))
  obtain ⟨v3, a3, h⟩ := bind_some h
  refine AK [] (F8 N p0.fNext p1.fNext v3 a3) Vn rfl (qa rfl (Ac (Ab (Aa Ad rfl (qm rfl (Co rfl (Ac ?_)))))))
  refine As rfl (fun c4 => ?_) (fun c4 => ?_)
  ·have h := Ap c4 h
   refine Ab (Aa Ad rfl (qm rfl (qa rfl (Ac ?_))))
   obtain rfl := sj h
   refine Al (sm [] [(4, .e (.one (.pure (.val (.int .i64 v3)))))] [] rfl rfl) (AC ?_)
   exact ⟨⟨[_], ⟨.tmp _ _ rfl, trivial⟩, rfl⟩, trivial⟩
  ·have h := Aq c4 h
   refine Av (Ab (Aa Ad rfl (qf Cz rfl (ql Gl rfl ?_))))
   obtain ⟨v5, a5, h⟩ := bind_some h
   refine AK [2001] (GF N p0.fHeld v5 a5) W1 rfl (qf Cz rfl (ql Gl rfl ?_))
   obtain ⟨v6, a6, h⟩ := bind_some h
   refine AK [2002] (GF N p1.fHeld v6 a6) W1 rfl ?_
   obtain ⟨v7, a7, h⟩ := bind_some h
   refine DJ [] [2001, 2002] (F8 N v5 v6 v7 a7) Vn Cx rfl (qa rfl (AY (by kernel_rfl) ?_))
   obtain rfl := sj h
   refine Al (sm [] [(4, .e (.one (.pure (.val (.int .i64 v7)))))] [] rfl rfl) (AC ?_)
   exact ⟨⟨[_], ⟨.tmp _ _ rfl, trivial⟩, rfl⟩, trivial⟩
set_option maxRecDepth 10000 in
theorem J1 (N : Nat) (p0 : Ah) (p1 : Ah) (r : Bool) (h : D1 N p0 p1 = some r) : AA Try.prog 21 [.e (.agg [.pure (.sl (p0.fBase.map Ag)), .pure (.sl (p0.fNext.map Ag)), .pure (.sl (p0.fHeld.map A9))]), .e (.agg [.pure (.sl (p1.fBase.map Ag)), .pure (.sl (p1.fNext.map Ag)), .pure (.sl (p1.fHeld.map A9))])] [] (.e (.one (.pure (.val (.bool r))))) := by
 unfold D1 at h
 refine Ao (n := 9) (rs := [.tmp 4]) Try.func21 rfl rfl rfl (BF rfl) (BF rfl) rfl fun w0 S0 => ?_
 refine Ab (Aa Ad rfl (qb rfl (qb rfl (qa rfl (Ac (Ab (Aa Ad rfl (qL Bs AT rfl (qL Bs AT rfl ?_)))))))))
 obtain ⟨v1, a1, h⟩ := bind_some h
 refine AK [] (I6 N p0 p1 v1 a1) X5 rfl (B6 rfl (qa rfl (Ac ?_)))
 obtain rfl := sj h
 refine Al (sm [] [(4, .e (.one (.pure (.val (.bool ((v1 == 0)))))))] [] rfl rfl) (AC ?_)
 exact ⟨⟨[_], ⟨.tmp _ _ rfl, trivial⟩, rfl⟩, trivial⟩
set_option maxRecDepth 10000 in
theorem Kq (N : Nat) (p0 : List AB) (p1 : Ah) (r : Int) (h : DC N p0 p1 = some r) : AA Try.prog 53 [.e (.one (.pure (.sl (p0.map Bx)))), .e (.agg [.pure (.sl (p1.fBase.map Ag)), .pure (.sl (p1.fNext.map Ag)), .pure (.sl (p1.fHeld.map A9))])] [] (.e (.one (.pure (.val (.int .i64 r))))) := by
 unfold DC at h
 refine Ao (n := 20) (rs := [.tmp 4]) Try.func53 rfl rfl rfl (BF rfl) (BF rfl) rfl fun w0 S0 => ?_
 refine Ab (Aa Ad rfl (qb rfl (qa rfl (Ac (Ab (Ab (Aa Ad rfl (qa rfl (Ac ?_)))))))))
 refine AR (L := Cc N p0 p1) h (fun v1 => mk [(0, .e (.one (.pure (.sl (p0.map Bx))))), (3, .e (.one (.ptr 3 0))), (5, .e (.one (.pure (.val (.int .i64 v1)))))] [(3, .box [.pure (.sl (p1.fBase.map Ag)), .pure (.sl (p1.fNext.map Ag)), .pure (.sl (p1.fHeld.map A9))])]) (fun v2 => mk [] []) (fun _ _ => rfl) (sm [] _ _ rfl rfl) (fun j1 n1 v1 h => ?_) (fun v2 s h hs => ?_)
 ·unfold Cc at h
  refine Ab (Ab (Aa Ad rfl (qm rfl (qm rfl (AS Hz rfl (A8 rfl (Ac ?_)))))))
  refine As rfl (fun c3 => ?_) (fun c3 => ?_)
  ·have h := Ap c3 h
   refine Av (Ab (AU (Ab (Aa Ad rfl (qm rfl (qm rfl ?_))))))
   obtain ⟨v4, a4, b4, h⟩ := Am h
   refine qi Hz Nm a4 (Aj b4) rfl (qg L8 rfl (qK Bs AT rfl (qL Bs AT rfl ?_)))
   obtain ⟨v5, a5, h⟩ := bind_some h
   refine AK [] (J1 N ((Ah.mk v4.fMix.fBase v4.fMix.fNext v4.fMix.fHeld)) p1 v5 a5) Xt rfl (AY (by kernel_rfl) ?_)
   refine As rfl (fun c6 => ?_) (fun c6 => ?_)
   ·have h := Ap c6 h
    refine Ab (Aa Ad rfl (qm rfl (qa rfl (Ac ?_))))
    obtain rfl := sj h
    refine Al (sm [] [(4, .e (.one (.pure (.val (.int .i64 v1)))))] [] rfl rfl) (AC ?_)
    exact ⟨⟨[_], ⟨.tmp _ _ rfl, trivial⟩, rfl⟩, trivial⟩
   ·have h := Aq c6 h
    refine Av (Aa Ad rfl (qm rfl (Bn rfl (qa rfl (Ac ?_)))))
    exact Aw _ h (sm [] _ _ rfl rfl)
  ·have h := Aq c3 h
   refine A4 ?_
   exact Aw _ h (sm [] _ _ rfl rfl)
 ·refine Al hs (Ab (Aa Ad rfl (qa rfl (Ac ?_))))
  obtain rfl := sj h
  refine Al (sm [] [(4, .e (.one (.pure (.val (.int .i64 ((-1)))))))] [] rfl rfl) (AC ?_)
  exact ⟨⟨[_], ⟨.tmp _ _ rfl, trivial⟩, rfl⟩, trivial⟩
end Go.Lift

/- That the code does what the shallow programs do, function by function. Written by a program (gen.py). -/
namespace Go.Lift
open Go.RowKit
open Go.Proofs
set_option maxRecDepth 10000 in
theorem Hg (N : Nat) (p0 : Ae) (p1 : Ah) (p2 : Int) (r : (List AB) × Bool) (h : Cu N p0 p1 p2 = some r) : AA Try.prog 26 [.e (.agg [.pure (.sl (p0.fVersions.map Ag)), .pure (.sl (p0.fNow.map Ag)), .pure (.sl (p0.fTarget.map Ag)), .pure (.sl (p0.fTables.map Ai))]), .e (.agg [.pure (.sl (p1.fBase.map Ag)), .pure (.sl (p1.fNext.map Ag)), .pure (.sl (p1.fHeld.map A9))]), .e (.one (.pure (.val (.int .i64 p2))))] [(7, r.1.map Bx)] (.tup [.one (.own 0), .one (.pure (.val (.bool r.2)))]) := by
 unfold Cu at h
 refine Ao (n := 74) (rs := [.tmp 6, .tmp 7]) Try.func26 rfl rfl rfl (BF rfl) (BF rfl) rfl fun w0 S0 => ?_
 refine Ab (Aa Ad rfl (qb rfl (qb rfl (qa rfl (qa rfl (Ac (Ab (Aa Ad rfl (qL Bs AT rfl (A6 Sv WH rfl (Ep Hz Nm Sv rfl (qa rfl (Ac (Ab (Ab (Aa Ad rfl (qa rfl (Ac ?_))))))))))))))))))
 refine AR (L := BJ N p0 p2) h (fun v1 => mk [(2, .e (.one (.pure (.val (.int .i64 p2))))), (3, .e (.one (.ptr 3 0))), (8, .e (.one (.own 2001))), (9, .e (.one (.pure (.val (.int .i64 v1.2)))))] [(3, .box [.pure (.sl (p0.fVersions.map Ag)), .pure (.sl (p0.fNow.map Ag)), .pure (.sl (p0.fTarget.map Ag)), .pure (.sl (p0.fTables.map Ai))]), (2001, .vec 7 (v1.1.map Bx))]) (fun v2 => mk [(8, .e (.one (.own 2002)))] [(2002, .vec 7 (v2.map Bx))]) (fun _ _ => rfl) (sm [(2001, 16)] _ _ rfl rfl) (fun j1 n1 v1 h => ?_) (fun v2 s h hs => ?_)
 ·unfold BJ at h
  refine Ab (Ab (Aa Ad rfl (qm rfl (qm rfl (FD Hz rfl (A8 rfl (Ac ?_)))))))
  refine As rfl (fun c3 => ?_) (fun c3 => ?_)
  ·have h := Ap c3 h
   refine Av (Ab (AU (Ab (Aa Ad rfl (qL Dr CX rfl (qm rfl (qm rfl ?_)))))))
   obtain ⟨v4, a4, b4, h⟩ := Am h
   refine qI Hz Nm a4 (Aj b4) rfl (qh L8 rfl ?_)
   refine MS (.p rfl) rfl Bs AT rfl (Aj b4) rfl rfl (by decide) ?_
   obtain ⟨v5, a5, h⟩ := bind_some h
   refine AK [2003] (JX N p0 ((Ah.mk v4.fMix.fBase v4.fMix.fNext v4.fMix.fHeld)) v5 a5) XJ rfl (qa rfl (AY (by kernel_rfl) (Ab (Aa Ad rfl (qa rfl (Ac ?_))))))
   refine AR (L := BK N p0 p2 v1 v5) h (fun v6 => mk [(2, .e (.one (.pure (.val (.int .i64 p2))))), (3, .e (.one (.ptr 3 0))), (8, .e (.one (.own 2004))), (9, .e (.one (.pure (.val (.int .i64 v1.2))))), (10, .e (.one (.own 2005))), (11, .e (.one (.pure (.val (.int .i64 v6.2)))))] [(3, .box [.pure (.sl (p0.fVersions.map Ag)), .pure (.sl (p0.fNow.map Ag)), .pure (.sl (p0.fTarget.map Ag)), .pure (.sl (p0.fTables.map Ai))]), (2004, .vec 7 (v6.1.map Bx)), (2005, .vec 3 (v5.map Ax))]) (fun v7 => mk [(2, .e (.one (.pure (.val (.int .i64 p2))))), (3, .e (.one (.ptr 3 0))), (8, .e (.one (.own 2006))), (9, .e (.one (.pure (.val (.int .i64 v1.2)))))] [(3, .box [.pure (.sl (p0.fVersions.map Ag)), .pure (.sl (p0.fNow.map Ag)), .pure (.sl (p0.fTarget.map Ag)), .pure (.sl (p0.fTables.map Ai))]), (2006, .vec 7 (v7.map Bx))]) (fun _ _ => rfl) (sm [(2004, 2001), (2005, 2003)] _ _ rfl rfl) (fun j6 n6 v6 h => ?_) (fun v7 s h hs => ?_)
   ·unfold BK at h
    refine Ab (Ab (Aa Ad rfl (qm rfl (qm rfl (FD CT rfl (A8 rfl (Ac ?_)))))))
    refine As rfl (fun c8 => ?_) (fun c8 => ?_)
    ·have h := Ap c8 h
     refine Av (Ab (AU (Ab (Aa Ad rfl (qL Dr CX rfl (qm rfl (qm rfl ?_)))))))
     obtain ⟨v9, a9, b9, h⟩ := Am h
     refine qI Hz Nm a9 (Aj b9) rfl (qh L8 rfl ?_)
     refine MS (.p rfl) rfl Bs AT rfl (Aj b9) rfl rfl (by decide) ?_
     refine qm rfl (qm rfl ?_)
     obtain ⟨v10, a10, b10, h⟩ := Am h
     refine qI CT Dh a10 (Aj b10) rfl (qJ GM Dh (Aj b10) rfl ?_)
     obtain ⟨v11, a11, h⟩ := bind_some h
     refine AK [2007, 2008, 2009] (Hh N p0 ((Ah.mk v9.fMix.fBase v9.fMix.fNext v9.fMix.fHeld)) v10 v11 a11) Ws rfl (qm rfl (qx rfl (qx rfl (qz C7 rfl (qs AT rfl (qa rfl (AY (by kernel_rfl) ?_)))))))
     refine AX h (fun v12 => mk [(2, .e (.one (.pure (.val (.int .i64 p2))))), (3, .e (.one (.ptr 3 0))), (8, .e (.one (.own 2010))), (9, .e (.one (.pure (.val (.int .i64 v1.2))))), (10, .e (.one (.own 2011))), (11, .e (.one (.pure (.val (.int .i64 v6.2)))))] [(3, .box [.pure (.sl (p0.fVersions.map Ag)), .pure (.sl (p0.fNow.map Ag)), .pure (.sl (p0.fTarget.map Ag)), .pure (.sl (p0.fTables.map Ai))]), (2010, .vec 7 (v12.map Bx)), (2011, .vec 3 (v5.map Ax))]) (fun j12 h => ?_) (fun v12 h => ?_)
     ·refine AX h (fun v13 => mk [(2, .e (.one (.pure (.val (.int .i64 p2))))), (3, .e (.one (.ptr 3 0))), (8, .e (.one (.own 2015))), (9, .e (.one (.pure (.val (.int .i64 v1.2))))), (10, .e (.one (.own 2016))), (11, .e (.one (.pure (.val (.int .i64 v6.2))))), (12, .e (.one (.ptr 12 0))), (58, .e (.one (.pure (.val (.bool v13)))))] [(3, .box [.pure (.sl (p0.fVersions.map Ag)), .pure (.sl (p0.fNow.map Ag)), .pure (.sl (p0.fTarget.map Ag)), .pure (.sl (p0.fTables.map Ai))]), (12, .box [.own 2012, .own 2013, .own 2014]), (2012, .vec 1 (v11.1.fBase.map Ag)), (2013, .vec 1 (v11.1.fNext.map Ag)), (2014, .vec 1 (v11.1.fHeld.map A9)), (2015, .vec 7 (v6.1.map Bx)), (2016, .vec 3 (v5.map Ax))]) (fun j13 h => ?_) (fun v13 h => ?_)
      ·refine Aa Ad rfl (qL Dr CX rfl (qL Bs AT rfl ?_))
       obtain ⟨v14, a14, h⟩ := bind_some h
       refine DJ [] [2007, 2008, 2009] (Fa N p0 v11.1 v14 a14) VD Cx rfl (qm rfl ?_)
       refine AI (t := 53) rfl (fun c15 => ?_) (fun c15 => ?_)
       ·have h := Ap c15 h
        refine qm rfl (qL Bs AT rfl ?_)
        obtain ⟨v16, a16, h⟩ := bind_some h
        refine DJ [] [2004, 2007, 2008, 2009] (Kq N v6.1 v11.1 v16 a16) XW Cx rfl (A8 rfl (qp rfl (Ac ?_)))
        exact Aw _ h (sm [(2012, 2007), (2013, 2008), (2014, 2009), (2015, 2004), (2016, 2005)] _ _ rfl rfl)
       ·have h := Aq c15 h
        refine qn rfl (qn rfl (qn rfl (qn rfl (qp rfl (Ac ?_)))))
        exact Aw _ h (sm [(2012, 2007), (2013, 2008), (2014, 2009), (2015, 2004), (2016, 2005)] _ _ rfl rfl)
      ·refine As rfl (fun c17 => ?_) (fun c17 => ?_)
       ·have h := Ap c17 h
        refine Al (BV 2012 _ _ rfl rfl) (Al (BV 2013 _ _ rfl rfl) (Al (BV 2014 _ _ rfl rfl) (Aa Ad rfl (qm rfl (qL Bs AT rfl (qm rfl (qm rfl (qm rfl ?_))))))))
        obtain ⟨v18, a18, b18, h⟩ := Am h
        refine qI CT Dh a18 (Aj b18) rfl (qJ GM Dh (Aj b18) rfl (A6 Sv WH rfl (Ep Hz Nm Sv rfl ?_)))
        obtain ⟨c19, h⟩ := AO h
        refine Dx (f := Bx) Hz Hz Nm V8 Sv c19 rfl (qa rfl (AY (by kernel_rfl) ?_))
        exact Aw _ h (sm [(2010, 68), (2011, 2016)] _ _ rfl rfl)
       ·have h := Aq c17 h
        refine Av ?_
        exact Aw _ h (sm [(2010, 2015), (2011, 2016)] _ _ rfl rfl)
     ·refine Ab (Aa Ad rfl (qm rfl (FD Hz rfl (qm rfl (Ge rfl (Ac ?_))))))
      refine As rfl (fun c20 => ?_) (fun c20 => ?_)
      ·have h := Ap c20 h
       refine Ab (Aa Ad rfl (qa rfl (qa rfl (Ac ?_))))
       obtain rfl := sj h
       refine Al ((By 6 2017 7 rfl rfl rfl).trans (sm [(1000, 2017)] [(6, .e (.one (.own 1000))), (7, .e (.one (.pure (.val (.bool false)))))] [(1000, .vec 7 ((([] : List AB)).map Bx))] rfl rfl)) (AC ?_)
       exact ⟨⟨[_, _], ⟨.tmp _ _ rfl, ⟨.tmp _ _ rfl, trivial⟩⟩, rfl⟩, ⟨rfl, trivial⟩⟩
      ·have h := Aq c20 h
       refine Av (Aa Ad rfl (qm rfl (Bn rfl (qa rfl (Ac ?_)))))
       exact Aw _ h (sm [(2004, 2010), (2005, 2011)] _ _ rfl rfl)
    ·have h := Aq c8 h
     refine A4 ?_
     exact Aw _ h (sm [(2006, 2004)] _ _ rfl rfl)
   ·refine Al hs (Aa Ad rfl (qm rfl (Bn rfl (qa rfl (Ac ?_)))))
    exact Aw _ h (sm [(2001, 2006)] _ _ rfl rfl)
  ·have h := Aq c3 h
   refine A4 ?_
   exact Aw _ h (sm [(2002, 2001)] _ _ rfl rfl)
 ·refine Al hs (Ab (Aa Ad rfl (qm rfl (qa rfl (qa rfl (Ac ?_))))))
  obtain rfl := sj h
  refine Al (sm [(1000, 2002)] [(6, .e (.one (.own 1000))), (7, .e (.one (.pure (.val (.bool true)))))] [(1000, .vec 7 (v2.map Bx))] rfl rfl) (AC ?_)
  exact ⟨⟨[_, _], ⟨.tmp _ _ rfl, ⟨.tmp _ _ rfl, trivial⟩⟩, rfl⟩, ⟨rfl, trivial⟩⟩
set_option maxRecDepth 10000 in
theorem J3 (N : Nat) (p0 : Ae) (p1 : Int) (r : Bool) (h : Ec N p0 p1 = some r) : AA Try.prog 36 [.e (.agg [.pure (.sl (p0.fVersions.map Ag)), .pure (.sl (p0.fNow.map Ag)), .pure (.sl (p0.fTarget.map Ag)), .pure (.sl (p0.fTables.map Ai))]), .e (.one (.pure (.val (.int .i64 p1))))] [] (.e (.one (.pure (.val (.bool r))))) := by
 unfold Ec at h
 refine Ao (n := 30) (rs := [.tmp 4]) Try.func36 rfl rfl rfl (BF rfl) (BF rfl) rfl fun w0 S0 => ?_
 refine Ab (Aa Ad rfl (qb rfl (qa rfl (Ac (Ab (Aa Ad rfl (qL Dr CX rfl ?_)))))))
 obtain ⟨v1, a1, h⟩ := bind_some h
 refine AK [2001, 2002, 2003] (Hd N p0 v1 a1) WR rfl (qm rfl (qx rfl (qx rfl (qz C7 rfl (qs AT rfl (qa rfl (Ac (Ab ?_))))))))
 refine AX h (fun v2 => mk [(1, .e (.one (.pure (.val (.int .i64 p1))))), (2, .e (.one (.ptr 2 0))), (5, .e (.one (.ptr 5 0))), (21, .e (.one (.pure (.val (.bool v2)))))] [(2, .box [.pure (.sl (p0.fVersions.map Ag)), .pure (.sl (p0.fNow.map Ag)), .pure (.sl (p0.fTarget.map Ag)), .pure (.sl (p0.fTables.map Ai))]), (5, .box [.own 2004, .own 2005, .own 2006]), (2004, .vec 1 (v1.1.fBase.map Ag)), (2005, .vec 1 (v1.1.fNext.map Ag)), (2006, .vec 1 (v1.1.fHeld.map A9))]) (fun j2 h => ?_) (fun v2 h => ?_)
 ·refine Aa Ad rfl (qm rfl (Co rfl (qm rfl ?_)))
  refine AI (t := 16) rfl (fun c3 => ?_) (fun c3 => ?_)
  ·have h := Ap c3 h
   refine qn rfl (qn rfl (qn rfl (qn rfl (qp rfl (Ac ?_)))))
   exact Aw _ h (sm [(2004, 2001), (2005, 2002), (2006, 2003)] _ _ rfl rfl)
  ·have h := Aq c3 h
   refine qL Dr CX rfl (qL Bs AT rfl ?_)
   obtain ⟨v4, a4, h⟩ := bind_some h
   refine DJ [] [2001, 2002, 2003] (Fa N p0 v1.1 v4 a4) VD Cx rfl (CE rfl (qp rfl (Ac ?_)))
   exact Aw _ h (sm [(2004, 2001), (2005, 2002), (2006, 2003)] _ _ rfl rfl)
 ·refine As rfl (fun c5 => ?_) (fun c5 => ?_)
  ·have h := Ap c5 h
   refine Ab (Aa Ad rfl (qa rfl (Ac ?_)))
   obtain rfl := sj h
   refine Al (sm [] [(4, .e (.one (.pure (.val (.bool true)))))] [] rfl rfl) (AC ?_)
   exact ⟨⟨[_], ⟨.tmp _ _ rfl, trivial⟩, rfl⟩, trivial⟩
  ·have h := Aq c5 h
   refine Av (Ab (Aa Ad rfl (qL Dr CX rfl (qL Bs AT rfl (qm rfl (DY (BV 2004 _ _ rfl rfl) (DY (BV 2005 _ _ rfl rfl) (DY (BV 2006 _ _ rfl rfl) ?_))))))))
   obtain ⟨v6, a6, h⟩ := bind_some h
   refine AK [2007] (Hg N p0 v1.1 p1 v6 a6) V2 rfl (qm rfl (qx rfl (qx rfl (qa rfl (qa rfl (Ac (Ab (Aa Ad rfl (qm rfl (qa rfl (Ac ?_)))))))))))
   obtain rfl := sj h
   refine Al (sm [] [(4, .e (.one (.pure (.val (.bool v6.2)))))] [] rfl rfl) (AC ?_)
   exact ⟨⟨[_], ⟨.tmp _ _ rfl, trivial⟩, rfl⟩, trivial⟩
set_option maxRecDepth 10000 in
theorem LD (N : Nat) (p0 : BL) (r : Ae × Bool) (h : EF N p0 = some r) : AA Try.prog 12 [.e (.agg [.pure (.sl (p0.fVersions.map A9)), .pure (.sl (p0.fNow.map A9)), .pure (.sl (p0.fTarget.map A9)), .pure (.sl (p0.fLinks.map BY))])] [(1, r.1.fVersions.map Ag), (1, r.1.fNow.map Ag), (1, r.1.fTarget.map Ag), (6, r.1.fTables.map Ai)] (.tup [.agg [.own 0, .own 1, .own 2, .own 3], .one (.pure (.val (.bool r.2)))]) := by
 unfold EF at h
 refine Ao (n := 17) (rs := [.cell 2 30, .tmp 3]) Try.func12 rfl rfl rfl (BF rfl) (BF rfl) rfl fun w0 S0 => ?_
 refine Ab (Aa Ad rfl (qb rfl (qz Px rfl (qa rfl (Ac (Ab (Aa Ad rfl (qL Wp WK rfl ?_))))))))
 obtain ⟨v1, a1, h⟩ := bind_some h
 refine AK [2001, 2002, 2003, 2004] (LF N p0 v1 a1) XH rfl (qm rfl (qx rfl (qx rfl (qz Px rfl (qs CX rfl (qa rfl (Ac ?_)))))))
 refine AX h (fun v2 => mk [(2, .e (.one (.ptr 2 0))), (3, .e (.one (.pure (.val (.bool v2)))))] [(2, .box [.own 2005, .own 2006, .own 2007, .own 2008]), (2005, .vec 1 (v1.1.fVersions.map Ag)), (2006, .vec 1 (v1.1.fNow.map Ag)), (2007, .vec 1 (v1.1.fTarget.map Ag)), (2008, .vec 6 (v1.1.fTables.map Ai))]) (fun j2 h => ?_) (fun v2 h => ?_)
 ·refine Aa Ad rfl (qL Dr CX rfl (qm rfl (qm rfl ?_)))
  refine AI (t := 13) rfl (fun c3 => ?_) (fun c3 => ?_)
  ·have h := Ap c3 h
   refine qL Dr CX rfl ?_
   obtain ⟨v4, a4, h⟩ := bind_some h
   refine DJ [] [2001, 2002, 2003, 2004] (J3 N v1.1 120 v4 a4) XU Cx rfl (qp rfl (qs CX rfl (qa rfl (AY (by kernel_rfl) ?_))))
   exact Aw _ h (sm [(2005, 2001), (2006, 2002), (2007, 2003), (2008, 2004)] _ _ rfl rfl)
  ·have h := Aq c3 h
   refine qn rfl (qn rfl (qp rfl (qs CX rfl (qa rfl (AY (by kernel_rfl) ?_)))))
   exact Aw _ h (sm [(2005, 2001), (2006, 2002), (2007, 2003), (2008, 2004)] _ _ rfl rfl)
 ·obtain rfl := sj h
  refine Al (sm [(1000, 2005), (1001, 2006), (1002, 2007), (1003, 2008)] [(2, .e (.one (.ptr 2 0))), (3, .e (.one (.pure (.val (.bool v2)))))] [(2, .box [.own 1000, .own 1001, .own 1002, .own 1003]), (1000, .vec 1 (v1.1.fVersions.map Ag)), (1001, .vec 1 (v1.1.fNow.map Ag)), (1002, .vec 1 (v1.1.fTarget.map Ag)), (1003, .vec 6 (v1.1.fTables.map Ai))] rfl rfl) (AC ?_)
  exact ⟨⟨[_, _], ⟨.cellN _ _ _ _ _ _ _ rfl rfl Dr CX rfl rfl (Hb rfl), ⟨.tmp _ _ rfl, trivial⟩⟩, rfl⟩, ⟨rfl, rfl, rfl, rfl, trivial⟩⟩
set_option maxRecDepth 10000 in
theorem Ks (N : Nat) (p0 : Ae) (p1 : Ah) (r : Bool) (h : El N p0 p1 = some r) : AA Try.prog 43 [.e (.agg [.pure (.sl (p0.fVersions.map Ag)), .pure (.sl (p0.fNow.map Ag)), .pure (.sl (p0.fTarget.map Ag)), .pure (.sl (p0.fTables.map Ai))]), .e (.agg [.pure (.sl (p1.fBase.map Ag)), .pure (.sl (p1.fNext.map Ag)), .pure (.sl (p1.fHeld.map A9))])] [] (.e (.one (.pure (.val (.bool r))))) := by
 unfold El at h
 refine Ao (n := 36) (rs := [.tmp 4]) Try.func43 rfl rfl rfl (BF rfl) (BF rfl) rfl fun w0 S0 => ?_
 refine Ab (Aa Ad rfl (qb rfl (qb rfl (qa rfl (Ac (Ab (Ab (Aa Ad rfl (qL Dr CX rfl (qL Bs AT rfl ?_))))))))))
 obtain ⟨v1, a1, h⟩ := bind_some h
 refine AK [] (FR N p0 p1 v1 a1) Vv rfl (Co rfl (Ac ?_))
 refine As rfl (fun c2 => ?_) (fun c2 => ?_)
 ·have h := Ap c2 h
  refine Ab (Aa Ad rfl (qa rfl (Ac ?_)))
  obtain rfl := sj h
  refine Al (sm [] [(4, .e (.one (.pure (.val (.bool false)))))] [] rfl rfl) (AC ?_)
  exact ⟨⟨[_], ⟨.tmp _ _ rfl, trivial⟩, rfl⟩, trivial⟩
 ·have h := Aq c2 h
  refine Av (Ab (Ab (Aa Ad rfl (qa rfl (Ac ?_)))))
  refine AR (L := CA N p0 p1) h (fun v3 => mk [(2, .e (.one (.ptr 2 0))), (3, .e (.one (.ptr 3 0))), (5, .e (.one (.pure (.val (.int .i64 v3)))))] [(2, .box [.pure (.sl (p0.fVersions.map Ag)), .pure (.sl (p0.fNow.map Ag)), .pure (.sl (p0.fTarget.map Ag)), .pure (.sl (p0.fTables.map Ai))]), (3, .box [.pure (.sl (p1.fBase.map Ag)), .pure (.sl (p1.fNext.map Ag)), .pure (.sl (p1.fHeld.map A9))])]) (fun v4 => mk [] []) (fun _ _ => rfl) (sm [] _ _ rfl rfl) (fun j3 n3 v3 h => ?_) (fun v4 s h hs => ?_)
  ·unfold CA at h
   refine Ab (Ab (Aa Ad rfl (qm rfl (qf CB rfl (ql A7 rfl (AS AG rfl (A8 rfl (Ac ?_))))))))
   refine As rfl (fun c5 => ?_) (fun c5 => ?_)
   ·have h := Ap c5 h
    refine Av (Ab (AU ?_))
    refine AX h (fun v6 => mk [(2, .e (.one (.ptr 2 0))), (3, .e (.one (.ptr 3 0))), (5, .e (.one (.pure (.val (.int .i64 v3))))), (35, .e (.one (.pure (.val (.bool v6)))))] [(2, .box [.pure (.sl (p0.fVersions.map Ag)), .pure (.sl (p0.fNow.map Ag)), .pure (.sl (p0.fTarget.map Ag)), .pure (.sl (p0.fTables.map Ai))]), (3, .box [.pure (.sl (p1.fBase.map Ag)), .pure (.sl (p1.fNext.map Ag)), .pure (.sl (p1.fHeld.map A9))])]) (fun j6 h => ?_) (fun v6 h => ?_)
    ·refine Aa Ad rfl (qf Bz rfl (ql A7 rfl (qm rfl ?_)))
     obtain ⟨v7, a7, b7, h⟩ := Am h
     refine qi AG Dc a7 (Aj b7) rfl (qk B9 rfl (Ez rfl (qm rfl ?_)))
     refine AI (t := 23) rfl (fun c8 => ?_) (fun c8 => ?_)
     ·have h := Ap c8 h
      refine qn rfl (qn rfl (qn rfl (qn rfl (qn rfl (qn rfl (qn rfl (qn rfl (qn rfl (qn rfl (qn rfl (qp rfl (AY (by kernel_rfl) ?_))))))))))))
      exact Aw _ h (sm [] _ _ rfl rfl)
     ·have h := Aq c8 h
      refine qf CB rfl (ql A7 rfl (qm rfl ?_))
      obtain ⟨v9, a9, b9, h⟩ := Am h
      refine qi AG Dc a9 (Aj b9) rfl (qk B9 rfl (qf Hp rfl (ql A7 rfl (qm rfl ?_))))
      obtain ⟨v10, a10, b10, h⟩ := Am h
      refine qi AG Dc a10 (Aj b10) rfl (qk B9 rfl (Co rfl (qp rfl (AY (by kernel_rfl) ?_))))
      exact Aw _ h (sm [] _ _ rfl rfl)
    ·refine As rfl (fun c11 => ?_) (fun c11 => ?_)
     ·have h := Ap c11 h
      refine Ab (Aa Ad rfl (qa rfl (Ac ?_)))
      obtain rfl := sj h
      refine Al (sm [] [(4, .e (.one (.pure (.val (.bool false)))))] [] rfl rfl) (AC ?_)
      exact ⟨⟨[_], ⟨.tmp _ _ rfl, trivial⟩, rfl⟩, trivial⟩
     ·have h := Aq c11 h
      refine Av (Aa Ad rfl (qm rfl (Bn rfl (qa rfl (Ac ?_)))))
      exact Aw _ h (sm [] _ _ rfl rfl)
   ·have h := Aq c5 h
    refine A4 ?_
    exact Aw _ h (sm [] _ _ rfl rfl)
  ·refine Al hs (Ab (Aa Ad rfl (qa rfl (Ac ?_))))
   obtain rfl := sj h
   refine Al (sm [] [(4, .e (.one (.pure (.val (.bool true)))))] [] rfl rfl) (AC ?_)
   exact ⟨⟨[_], ⟨.tmp _ _ rfl, trivial⟩, rfl⟩, trivial⟩
set_option maxRecDepth 10000 in
theorem Kz (N : Nat) (p0 : List AB) (p1 : Int) (r : (List Af)) (h : E5 N p0 p1 = some r) : AA Try.prog 59 [.e (.one (.pure (.sl (p0.map Bx)))), .e (.one (.pure (.val (.int .i64 p1))))] [(3, r.map Ax)] (.e (.one (.own 0))) := by
 unfold E5 at h
 refine Ao (n := 26) (rs := [.tmp 4]) Try.func59 rfl rfl rfl (BF rfl) (BF rfl) rfl fun w0 S0 => ?_
 refine Ab (Aa Ad rfl (qa rfl (Ac (Ab (Aa Ad rfl (qa rfl (Ac (Ab ?_))))))))
 refine AR (L := C9 N p0) h (fun v1 => mk [(0, .e (.one (.pure (.sl (p0.map Bx))))), (1, .e (.one (.pure (.val (.int .i64 v1.1))))), (5, .e (.one (.own 2001)))] [(2001, .vec 3 (v1.2.map Ax))]) (fun v2 => mk [(5, .e (.one (.own 2002)))] [(2002, .vec 3 (v2.map Ax))]) (fun _ _ => rfl) ((By 5 2003 3 rfl rfl rfl).trans (sm [(2001, 2003)] _ _ rfl rfl)) (fun j1 n1 v1 h => ?_) (fun v2 s h hs => ?_)
 ·unfold C9 at h
  refine Ab (Ab (Aa Ad rfl (qm rfl (qm rfl ?_))))
  obtain ⟨v3, a3, b3, h⟩ := Am h
  refine qi Hz Nm a3 (Aj b3) rfl (qg Rt rfl (qk B9 rfl (Ez rfl (Ac ?_))))
  refine As rfl (fun c4 => ?_) (fun c4 => ?_)
  ·have h := Ap c4 h
   refine Av (AU (Ab (Aa Ad rfl (qm rfl (qm rfl ?_)))))
   obtain ⟨v5, a5, b5, h⟩ := Am h
   refine qi Hz Nm a5 (Aj b5) rfl (qg TF rfl (qK GM Dh rfl (Ep CT Dh GC rfl (qm rfl ?_))))
   obtain ⟨c6, h⟩ := AO h
   refine Dx (f := Ax) CT CT Dh NZ GC c6 rfl (qa rfl (Ac (Aa Ad rfl (qm rfl (qm rfl ?_)))))
   obtain ⟨v7, a7, b7, h⟩ := Am h
   refine qi Hz Nm a7 (Aj b7) rfl (qg Rt rfl (qk B9 rfl (qa rfl (Ac ?_))))
   exact Aw _ h (sm [(2001, 19)] _ _ rfl rfl)
  ·have h := Aq c4 h
   refine A4 ?_
   exact Aw _ h (sm [(2002, 2001)] _ _ rfl rfl)
 ·refine Al hs (Ab (Aa Ad rfl (qm rfl (qa rfl (Ac ?_)))))
  obtain rfl := sj h
  refine Al (sm [(1000, 2002)] [(4, .e (.one (.own 1000)))] [(1000, .vec 3 (v2.map Ax))] rfl rfl) (AC ?_)
  exact ⟨⟨[_], ⟨.tmp _ _ rfl, trivial⟩, rfl⟩, ⟨rfl, trivial⟩⟩
set_option maxRecDepth 10000 in
theorem Km (N : Nat) (p0 : Ae) (p1 : Ah) (r : (List Af) × Int) (h : CH N p0 p1 = some r) : AA Try.prog 28 [.e (.agg [.pure (.sl (p0.fVersions.map Ag)), .pure (.sl (p0.fNow.map Ag)), .pure (.sl (p0.fTarget.map Ag)), .pure (.sl (p0.fTables.map Ai))]), .e (.agg [.pure (.sl (p1.fBase.map Ag)), .pure (.sl (p1.fNext.map Ag)), .pure (.sl (p1.fHeld.map A9))])] [(3, r.1.map Ax)] (.tup [.one (.own 0), .one (.pure (.val (.int .i64 r.2)))]) := by
 unfold CH at h
 refine Ao (n := 44) (rs := [.tmp 4, .tmp 5]) Try.func28 rfl rfl rfl (BF rfl) (BF rfl) rfl fun w0 S0 => ?_
 refine Ab (Aa Ad rfl (qb rfl (qb rfl (qa rfl (qa rfl (Ac (Ab (Ab (Aa Ad rfl (qL Dr CX rfl (qL Bs AT rfl ?_)))))))))))
 obtain ⟨v1, a1, h⟩ := bind_some h
 refine AK [] (FR N p0 p1 v1 a1) Vv rfl (qa rfl (Ac (Ab (Aa Ad rfl (qm rfl (Co rfl (Ac ?_)))))))
 refine As rfl (fun c2 => ?_) (fun c2 => ?_)
 ·have h := Ap c2 h
  refine Ab (Aa Ad rfl (qm rfl (qa rfl (qa rfl (Ac ?_)))))
  obtain rfl := sj h
  refine Al ((By 4 2001 3 rfl rfl rfl).trans (sm [(1000, 2001)] [(4, .e (.one (.own 1000))), (5, .e (.one (.pure (.val (.int .i64 v1)))))] [(1000, .vec 3 ((([] : List Af)).map Ax))] rfl rfl)) (AC ?_)
  exact ⟨⟨[_, _], ⟨.tmp _ _ rfl, ⟨.tmp _ _ rfl, trivial⟩⟩, rfl⟩, ⟨rfl, trivial⟩⟩
 ·have h := Aq c2 h
  refine Av (Ab (Ab (Aa Ad rfl (qL Dr CX rfl (qL Bs AT rfl ?_)))))
  obtain ⟨v3, a3, h⟩ := bind_some h
  refine AK [] (Fa N p0 p1 v3 a3) VD rfl (CE rfl (Ac ?_))
  refine As rfl (fun c4 => ?_) (fun c4 => ?_)
  ·have h := Ap c4 h
   refine Ab (Aa Ad rfl (qa rfl (qa rfl (Ac ?_))))
   obtain rfl := sj h
   refine Al ((By 4 2002 3 rfl rfl rfl).trans (sm [(1000, 2002)] [(4, .e (.one (.own 1000))), (5, .e (.one (.pure (.val (.int .i64 13)))))] [(1000, .vec 3 ((([] : List Af)).map Ax))] rfl rfl)) (AC ?_)
   exact ⟨⟨[_, _], ⟨.tmp _ _ rfl, ⟨.tmp _ _ rfl, trivial⟩⟩, rfl⟩, ⟨rfl, trivial⟩⟩
  ·have h := Aq c4 h
   refine Av (Ab (Aa Ad rfl (qL Dr CX rfl (qL Bs AT rfl ?_))))
   obtain ⟨v5, a5, h⟩ := bind_some h
   refine AK [2003] (Hg N p0 p1 20000 v5 a5) V2 rfl (qm rfl (qx rfl (qx rfl (qa rfl (qa rfl (Ac (Ab (Ab (Aa Ad rfl (qm rfl (CE rfl (Ac ?_))))))))))))
   refine As rfl (fun c6 => ?_) (fun c6 => ?_)
   ·have h := Ap c6 h
    refine Ab (Aa Ad rfl (qa rfl (qa rfl (Ac ?_))))
    obtain rfl := sj h
    refine Al ((By 4 2004 3 rfl rfl rfl).trans (sm [(1000, 2004)] [(4, .e (.one (.own 1000))), (5, .e (.one (.pure (.val (.int .i64 3)))))] [(1000, .vec 3 ((([] : List Af)).map Ax))] rfl rfl)) (AC ?_)
    exact ⟨⟨[_, _], ⟨.tmp _ _ rfl, ⟨.tmp _ _ rfl, trivial⟩⟩, rfl⟩, ⟨rfl, trivial⟩⟩
   ·have h := Aq c6 h
    refine Av (Ab (Ab (Aa Ad rfl (qa rfl (Ac ?_)))))
    refine AR (L := Ce N p0 v5) h (fun v7 => mk [(2, .e (.one (.ptr 2 0))), (7, .e (.one (.own 2005))), (9, .e (.one (.pure (.val (.int .i64 v7)))))] [(2, .box [.pure (.sl (p0.fVersions.map Ag)), .pure (.sl (p0.fNow.map Ag)), .pure (.sl (p0.fTarget.map Ag)), .pure (.sl (p0.fTables.map Ai))]), (2005, .vec 7 (v5.1.map Bx))]) (fun v8 => mk [] []) (fun _ _ => rfl) (sm [(2005, 2003)] _ _ rfl rfl) (fun j7 n7 v7 h => ?_) (fun v8 s h hs => ?_)
    ·unfold Ce at h
     refine Ab (Ab (Aa Ad rfl (qm rfl (qm rfl (FD Hz rfl (A8 rfl (Ac ?_)))))))
     refine As rfl (fun c9 => ?_) (fun c9 => ?_)
     ·have h := Ap c9 h
      refine Av (Ab (AU (Ab (Aa Ad rfl (qL Dr CX rfl (qm rfl (qm rfl ?_)))))))
      obtain ⟨v10, a10, b10, h⟩ := Am h
      refine qI Hz Nm a10 (Aj b10) rfl (qh L8 rfl ?_)
      refine MS (.p rfl) rfl Bs AT rfl (Aj b10) rfl rfl (by decide) ?_
      obtain ⟨v11, a11, h⟩ := bind_some h
      refine AK [] (Ks N p0 ((Ah.mk v10.fMix.fBase v10.fMix.fNext v10.fMix.fHeld)) v11 a11) XP rfl (AY (by kernel_rfl) ?_)
      refine As rfl (fun c12 => ?_) (fun c12 => ?_)
      ·have h := Ap c12 h
       refine Ab (Aa Ad rfl (qm rfl (qm rfl ?_)))
       obtain ⟨v13, a13, h⟩ := bind_some h
       refine DJ [2006] [2005] (Kz N v5.1 v7 v13 a13) X8 (Fc (fun _ => rfl) Cx) rfl (qa rfl (qa rfl (Ac ?_)))
       obtain rfl := sj h
       refine Al (sm [(1000, 2006)] [(4, .e (.one (.own 1000))), (5, .e (.one (.pure (.val (.int .i64 0)))))] [(1000, .vec 3 (v13.map Ax))] rfl rfl) (AC ?_)
       exact ⟨⟨[_, _], ⟨.tmp _ _ rfl, ⟨.tmp _ _ rfl, trivial⟩⟩, rfl⟩, ⟨rfl, trivial⟩⟩
      ·have h := Aq c12 h
       refine Av (Aa Ad rfl (qm rfl (Bn rfl (qa rfl (Ac ?_)))))
       exact Aw _ h (sm [] _ _ rfl rfl)
     ·have h := Aq c9 h
      refine A4 ?_
      exact Aw _ h (sm [] _ _ rfl rfl)
    ·refine Al hs (Ab (Aa Ad rfl (qa rfl (qa rfl (Ac ?_)))))
     obtain rfl := sj h
     refine Al ((By 4 2007 3 rfl rfl rfl).trans (sm [(1000, 2007)] [(4, .e (.one (.own 1000))), (5, .e (.one (.pure (.val (.int .i64 14)))))] [(1000, .vec 3 ((([] : List Af)).map Ax))] rfl rfl)) (AC ?_)
     exact ⟨⟨[_, _], ⟨.tmp _ _ rfl, ⟨.tmp _ _ rfl, trivial⟩⟩, rfl⟩, ⟨rfl, trivial⟩⟩
set_option maxRecDepth 10000 in
theorem Kl (N : Nat) (p0 : Ae) (r : (List Af) × Int) (h : Ek N p0 = some r) : AA Try.prog 14 [.e (.agg [.pure (.sl (p0.fVersions.map Ag)), .pure (.sl (p0.fNow.map Ag)), .pure (.sl (p0.fTarget.map Ag)), .pure (.sl (p0.fTables.map Ai))])] [(3, r.1.map Ax)] (.tup [.one (.own 0), .one (.pure (.val (.int .i64 r.2)))]) := by
 unfold Ek at h
 refine Ao (n := 19) (rs := [.tmp 2, .tmp 3]) Try.func14 rfl rfl rfl (BF rfl) (BF rfl) rfl fun w0 S0 => ?_
 refine Ab (Aa Ad rfl (qb rfl (qa rfl (qa rfl (Ac (Ab (Aa Ad rfl (qL Dr CX rfl ?_))))))))
 obtain ⟨v1, a1, h⟩ := bind_some h
 refine AK [2001, 2002, 2003] (Hd N p0 v1 a1) WR rfl (qm rfl (qx rfl (qx rfl (qz C7 rfl (qs AT rfl (qa rfl (Ac (Ab (Ab (Aa Ad rfl (qm rfl (Co rfl (Ac ?_)))))))))))))
 refine As rfl (fun c2 => ?_) (fun c2 => ?_)
 ·have h := Ap c2 h
  refine Ab (Aa Ad rfl (qm rfl (qa rfl (qa rfl (Ac ?_)))))
  obtain rfl := sj h
  refine Al ((By 2 2004 3 rfl rfl rfl).trans (sm [(1000, 2004)] [(2, .e (.one (.own 1000))), (3, .e (.one (.pure (.val (.int .i64 v1.2)))))] [(1000, .vec 3 ((([] : List Af)).map Ax))] rfl rfl)) (AC ?_)
  exact ⟨⟨[_, _], ⟨.tmp _ _ rfl, ⟨.tmp _ _ rfl, trivial⟩⟩, rfl⟩, ⟨rfl, trivial⟩⟩
 ·have h := Aq c2 h
  refine Av (Ab (Aa Ad rfl (qL Dr CX rfl (qL Bs AT rfl ?_))))
  obtain ⟨v3, a3, h⟩ := bind_some h
  refine DJ [2005] [2001, 2002, 2003] (Km N p0 v1.1 v3 a3) Xs (Fc (fun _ => rfl) Cx) rfl (qx rfl (qx rfl (qa rfl (qa rfl (Ac ?_)))))
  obtain rfl := sj h
  refine Al (sm [(1000, 2005)] [(2, .e (.one (.own 1000))), (3, .e (.one (.pure (.val (.int .i64 v3.2)))))] [(1000, .vec 3 (v3.1.map Ax))] rfl rfl) (AC ?_)
  exact ⟨⟨[_, _], ⟨.tmp _ _ rfl, ⟨.tmp _ _ rfl, trivial⟩⟩, rfl⟩, ⟨rfl, trivial⟩⟩
set_option maxRecDepth 10000 in
theorem IX (N : Nat) (p0 : BL) (r : Bool) (h : Dj N p0 = some r) : AA Try.prog 3 [.e (.agg [.pure (.sl (p0.fVersions.map A9)), .pure (.sl (p0.fNow.map A9)), .pure (.sl (p0.fTarget.map A9)), .pure (.sl (p0.fLinks.map BY))])] [] (.e (.one (.pure (.val (.bool r))))) := by
 unfold Dj at h
 refine Ao (n := 45) (rs := [.tmp 2]) Try.func3 rfl rfl rfl (BF rfl) (BF rfl) rfl fun w0 S0 => ?_
 refine Ab (Aa Ad rfl (qb rfl (qa rfl (Ac (Ab (Ab (Aa Ad rfl ?_)))))))
 obtain ⟨v1, a1, h⟩ := bind_some h
 refine AK [] (JW N v1 a1) X0 rfl (CE rfl (Ac ?_))
 refine As rfl (fun c2 => ?_) (fun c2 => ?_)
 ·have h := Ap c2 h
  refine Ab (Aa Ad rfl (qa rfl (Ac ?_)))
  obtain rfl := sj h
  refine Al (sm [] [(2, .e (.one (.pure (.val (.bool false)))))] [] rfl rfl) (AC ?_)
  exact ⟨⟨[_], ⟨.tmp _ _ rfl, trivial⟩, rfl⟩, trivial⟩
 ·have h := Aq c2 h
  refine Av (Ab (Aa Ad rfl (qL Wp WK rfl ?_)))
  obtain ⟨v3, a3, h⟩ := bind_some h
  refine AK [2001, 2002, 2003, 2004] (LD N p0 v3 a3) XN rfl (qm rfl (qx rfl (qx rfl (qz Px rfl (qs CX rfl (qa rfl (Ac (Ab (Ab (Aa Ad rfl (qm rfl (CE rfl (Ac ?_)))))))))))))
  refine As rfl (fun c4 => ?_) (fun c4 => ?_)
  ·have h := Ap c4 h
   refine Ab (Aa Ad rfl (qa rfl (Ac ?_)))
   obtain rfl := sj h
   refine Al (sm [] [(2, .e (.one (.pure (.val (.bool true)))))] [] rfl rfl) (AC ?_)
   exact ⟨⟨[_], ⟨.tmp _ _ rfl, trivial⟩, rfl⟩, trivial⟩
  ·have h := Aq c4 h
   refine Av (Ab (Aa Ad rfl (qL Dr CX rfl ?_)))
   obtain ⟨v5, a5, h⟩ := bind_some h
   refine DJ [2005] [2001, 2002, 2003, 2004] (H7 N v3.1 v5 a5) Uz (Fc (fun _ => rfl) Cx) rfl (qm rfl (qx rfl (qx rfl (qa rfl (qa rfl (Ac (Ab (Aa Ad rfl (qL Dr CX rfl ?_)))))))))
   obtain ⟨v6, a6, h⟩ := bind_some h
   refine DJ [2006] [2001, 2002, 2003, 2004] (Kl N v3.1 v6 a6) XF (Fc (fun _ => rfl) Cx) rfl (qm rfl (qx rfl (qx rfl (qa rfl (qa rfl (Ac ?_))))))
   refine AX h (fun v7 => mk [(2, .e (.one (.pure (.val (.bool v7)))))] []) (fun j7 h => ?_) (fun v7 h => ?_)
   ·refine Aa Ad rfl (qm rfl (qm rfl (B6 rfl (qm rfl ?_))))
    refine AI (t := 31) rfl (fun c8 => ?_) (fun c8 => ?_)
    ·have h := Ap c8 h
     refine qm rfl (qm rfl ?_)
     obtain ⟨v9, a9, h⟩ := bind_some h
     refine DJ [] [2005, 2006] (HG N v5.1 v6.1 v9 a9) WB Cx rfl (qp rfl (qm rfl ?_))
     refine AI (t := 36) rfl (fun c10 => ?_) (fun c10 => ?_)
     ·have h := Ap c10 h
      refine qm rfl (Co rfl (qm rfl ?_))
      refine AI (t := 39) rfl (fun c11 => ?_) (fun c11 => ?_)
      ·have h := Ap c11 h
       refine qn rfl (qn rfl (qn rfl (qp rfl (qp rfl (qa rfl (Ac ?_))))))
       exact Aw _ h (sm [] _ _ rfl rfl)
      ·have h := Aq c11 h
       refine qL Dr CX rfl (qm rfl ?_)
       obtain ⟨v12, a12, h⟩ := bind_some h
       refine DJ [] [2001, 2002, 2003, 2004, 2005] (KJ N v3.1 v5.1 v12 a12) WM Cx rfl (qp rfl (qp rfl (qa rfl (Ac ?_))))
       exact Aw _ h (sm [] _ _ rfl rfl)
     ·have h := Aq c10 h
      refine qn rfl (qn rfl (qn rfl (qu rfl (qu rfl (qu rfl (qn rfl (qp rfl (qa rfl (Ac ?_)))))))))
      exact Aw _ h (sm [] _ _ rfl rfl)
    ·have h := Aq c8 h
     refine qn rfl (qn rfl (qn rfl (qp rfl (qm rfl (qn rfl (qn rfl (qn rfl (qu rfl (qu rfl (qu rfl (qn rfl (qp rfl (qa rfl (Ac ?_))))))))))))))
     exact Aw _ h (sm [] _ _ rfl rfl)
   ·obtain rfl := sj h
    refine Al (sm [] [(2, .e (.one (.pure (.val (.bool v7)))))] [] rfl rfl) (AC ?_)
    exact ⟨⟨[_], ⟨.tmp _ _ rfl, trivial⟩, rfl⟩, trivial⟩
end Go.Lift

