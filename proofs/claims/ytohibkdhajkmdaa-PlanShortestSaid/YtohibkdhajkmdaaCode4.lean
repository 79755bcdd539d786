/- Lemmas for PlanShortestSaid, which YtohibkdhajkmdaaFinP6 proves. -/
import Derived.Test.YtohibkdhajkmdaaCode1
/- That the code does what the shallow programs do, function by function. Written by a program (gen.py). -/
namespace Go.Lift
open Go.RowKit
open Go.Proofs
set_option maxRecDepth 10000 in
theorem Lf (N : Nat) (p0 : Ad) (p1 : Af) (p2 : Ah) (r : Af × Bool) (h : ET N p0 p1 p2 = some r) : AB Try.prog 102 [.e (.agg [.pure (.sl (p0.fVersions.map Ag)), .pure (.sl (p0.fNow.map Ag)), .pure (.sl (p0.fTarget.map Ag)), .pure (.sl (p0.fTables.map Ai))]), .e (.agg [.pure (.sl (p1.fBase.map Ag)), .pure (.sl (p1.fNext.map Ag)), .pure (.sl (p1.fHeld.map A6))]), .e (.agg [.pure (.val (.int .i64 p2.fKind)), .pure (.val (.int .i64 p2.fIndex)), .pure (.val (.int .i64 p2.fVersion))])] [(1, r.1.fBase.map Ag), (1, r.1.fNext.map Ag), (1, r.1.fHeld.map A6)] (.tup [.agg [.own 0, .own 1, .own 2], .one (.pure (.val (.bool r.2)))]) := by
 unfold ET at h
 refine Ao (n := 51) (rs := [.cell 6 43, .tmp 7]) Try.func102 rfl rfl rfl (BE rfl) (BE rfl) rfl fun w0 S0 => ?_
 refine Ab (Aa Ae rfl (qb rfl (qb rfl (qb rfl (qz CF rfl (qa rfl (Ac (Ab (Aa Ae rfl (qL Be AQ rfl ?_))))))))))
 obtain ⟨v1, a1, h⟩ := bind_some h
 refine AJ [2001, 2002, 2003] (Nz N p1 v1 a1) XT rfl (qz CF rfl (qs AQ rfl (Ac (Ab (Ab (Aa Ae rfl (qf EO rfl (ql Cb rfl (Ac (AV (Ab (Aa Ae rfl (BY rfl (qa rfl (Ac ?_)))))))))))))))
 refine As rfl (fun c2 => ?_) (fun c2 => ?_)
 ·have h := Aq c2 h
  refine Ab (Aa Ae rfl (qL Be AQ rfl (qL Dl CV rfl (qL GS Dk rfl ?_))))
  obtain ⟨v3, a3, h⟩ := bind_some h
  refine Mp (ds0 := [_, _, _]) [8, 2001, 2002, 2003] [] [false, false, true, true] (Pd N p0 v1 p2 v3 a3) (.p rfl) W7 rfl ⟨rfl, rfl, rfl, trivial⟩ rfl rfl (by decide) ⟨rfl, rfl, rfl, rfl, trivial⟩ rfl (Ig rfl) trivial ⟨(fun _ => rfl), (fun _ => rfl), (fun h => by cases h), (fun h => by cases h), trivial⟩ rfl rfl rfl ?_
  refine qs AQ rfl (qa rfl (AY (by kernel_rfl) ?_))
  obtain rfl := sj h
  refine Al (sm [(1000, 2001), (1001, 2002), (1002, 2003)] [(6, .e (.one (.ptr 6 0))), (7, .e (.one (.pure (.val (.bool v3.1)))))] [(6, .box [.own 1000, .own 1001, .own 1002]), (1000, .vec 1 (v1.fBase.map Ag)), (1001, .vec 1 (v3.2.1.map Ag)), (1002, .vec 1 (v3.2.2.map A6))] rfl rfl) (AA ?_)
  exact ⟨⟨[_, _], ⟨.cellN _ _ _ _ _ _ _ rfl rfl Be AQ rfl rfl (FT rfl), ⟨.tmp _ _ rfl, trivial⟩⟩, rfl⟩, ⟨rfl, rfl, rfl, trivial⟩⟩
 ·have h := Ap c2 h
  refine Ab (Aa Ae rfl (BY rfl (qa rfl (Ac ?_))))
  refine As rfl (fun c4 => ?_) (fun c4 => ?_)
  ·have h := Aq c4 h
   refine Ab (Aa Ae rfl (qL Be AQ rfl (qL Dl CV rfl (qf EA rfl (ql Cb rfl ?_)))))
   obtain ⟨v5, a5, h⟩ := bind_some h
   refine Mp (ds0 := [_, _, _]) [8, 2001, 2002, 2003] [] [false, false, false, true] (O1 N p0 v1 p2.fIndex v5 a5) (.p rfl) Xr rfl ⟨rfl, rfl, rfl, trivial⟩ rfl rfl (by decide) ⟨rfl, rfl, rfl, rfl, trivial⟩ rfl (Ig rfl) trivial ⟨(fun _ => rfl), (fun _ => rfl), (fun _ => rfl), (fun h => by cases h), trivial⟩ rfl rfl rfl ?_
   refine qs AQ rfl (qa rfl (AY (by kernel_rfl) ?_))
   obtain rfl := sj h
   refine Al (sm [(1000, 2001), (1001, 2002), (1002, 2003)] [(6, .e (.one (.ptr 6 0))), (7, .e (.one (.pure (.val (.bool v5.1)))))] [(6, .box [.own 1000, .own 1001, .own 1002]), (1000, .vec 1 (v1.fBase.map Ag)), (1001, .vec 1 (v1.fNext.map Ag)), (1002, .vec 1 (v5.2.map A6))] rfl rfl) (AA ?_)
   exact ⟨⟨[_, _], ⟨.cellN _ _ _ _ _ _ _ rfl rfl Be AQ rfl rfl (FT rfl), ⟨.tmp _ _ rfl, trivial⟩⟩, rfl⟩, ⟨rfl, rfl, rfl, trivial⟩⟩
  ·have h := Ap c4 h
   refine Au (Ab (Aa Ae rfl (qf By rfl (ql A9 rfl (qf EA rfl (ql Cb rfl ?_))))))
   obtain ⟨v6, a6, b6, h⟩ := An h
   refine qI AF Df a6 (Aj b6) rfl (qj Cb (Aj b6) rfl (qa rfl (Ac (Ab (Ab (Aa Ae rfl (qm rfl (A8 rfl (Ac ?_)))))))))
   refine As rfl (fun c7 => ?_) (fun c7 => ?_)
   ·have h := Aq c7 h
    refine Ab (Aa Ae rfl (qL Be AQ rfl (qs AQ rfl (qa rfl (Ac ?_)))))
    obtain rfl := sj h
    refine Al (sm [(1000, 2001), (1001, 2002), (1002, 2003)] [(6, .e (.one (.ptr 6 0))), (7, .e (.one (.pure (.val (.bool false)))))] [(6, .box [.own 1000, .own 1001, .own 1002]), (1000, .vec 1 (v1.fBase.map Ag)), (1001, .vec 1 (v1.fNext.map Ag)), (1002, .vec 1 (v1.fHeld.map A6))] rfl rfl) (AA ?_)
    exact ⟨⟨[_, _], ⟨.cellN _ _ _ _ _ _ _ rfl rfl Be AQ rfl rfl (FT rfl), ⟨.tmp _ _ rfl, trivial⟩⟩, rfl⟩, ⟨rfl, rfl, rfl, trivial⟩⟩
   ·have h := Ap c7 h
    refine Au (Ab (Aa Ae rfl (qf By rfl (ql A9 rfl (qf EA rfl (ql Cb rfl ?_))))))
    obtain ⟨v8, a8, b8, h⟩ := An h
    refine qI AF Df a8 (Aj b8) rfl ?_
    refine Ee rfl rfl rfl rfl (Aj b8) rfl Df rfl (BE rfl) (DS Ag v1.fNext _ ((-1))) ?_
    refine Ac ?_
    refine AW h (fun v9 => mk [(6, .e (.one (.ptr 6 0))), (8, .e (.one (.ptr 8 0)))] [(6, .box [.pure (.nil0), .pure (.nil0), .pure (.nil0)]), (8, .box [.own 2004, .own 2005, .own 2006]), (2004, .vec 1 (v9.map Ag)), (2005, .vec 1 ((v1.fNext.set ((p2.fIndex).toNat) ((-1))).map Ag)), (2006, .vec 1 (v1.fHeld.map A6))]) (fun j9 h => ?_) (fun v9 h => ?_)
    ·refine Ab (Aa Ae rfl (qf EO rfl (ql Cb rfl (BY rfl (Ac ?_)))))
     refine As rfl (fun c10 => ?_) (fun c10 => ?_)
     ·have h := Aq c10 h
      refine Aa Ae rfl (qf CA rfl (ql A9 rfl (qf EA rfl (ql Cb rfl (qm rfl ?_)))))
      obtain ⟨v11, a11, b11, h⟩ := An h
      refine qI AF Df a11 (Aj b11) rfl ?_
      refine Ee rfl rfl rfl rfl (Aj b11) rfl Df rfl (BE rfl) (DS Ag v1.fBase _ v6) ?_
      refine Ac ?_
      exact Aw _ h (sm [(2004, 2001), (2005, 2002), (2006, 2003)] _ _ rfl rfl)
     ·have h := Ap c10 h
      refine Au ?_
      exact Aw _ h (sm [(2004, 2001), (2005, 2002), (2006, 2003)] _ _ rfl rfl)
    ·refine Ab (Aa Ae rfl (qL Be AQ rfl (qs AQ rfl (qa rfl (Ac ?_)))))
     obtain rfl := sj h
     refine Al (sm [(1000, 2004), (1001, 2005), (1002, 2006)] [(6, .e (.one (.ptr 6 0))), (7, .e (.one (.pure (.val (.bool true)))))] [(6, .box [.own 1000, .own 1001, .own 1002]), (1000, .vec 1 (v9.map Ag)), (1001, .vec 1 ((v1.fNext.set ((p2.fIndex).toNat) ((-1))).map Ag)), (1002, .vec 1 (v1.fHeld.map A6))] rfl rfl) (AA ?_)
     exact ⟨⟨[_, _], ⟨.cellN _ _ _ _ _ _ _ rfl rfl Be AQ rfl rfl (FT rfl), ⟨.tmp _ _ rfl, trivial⟩⟩, rfl⟩, ⟨rfl, rfl, rfl, trivial⟩⟩
set_option maxRecDepth 10000 in
theorem LV (N : Nat) (p0 : Ah) (p1 : List Int) (p2 : List Int) (p3 : List Int) (p4 : List AG) (p5 : List Int) (p6 : List Int) (p7 : List Int) (r : Bool) (h : C6 N p0 p1 p2 p3 p4 p5 p6 p7 = some r) : AB Try.prog 105 [.e (.agg [.pure (.val (.int .i64 p0.fKind)), .pure (.val (.int .i64 p0.fIndex)), .pure (.val (.int .i64 p0.fVersion))]), .e (.one (.rop [.sl (p1.map Ag), .sl (p2.map Ag), .sl (p3.map Ag), .sl (p4.map Ai)])), .e (.one (.rop [.sl (p5.map Ag), .sl (p6.map Ag), .sl (p7.map A6)]))] [] (.e (.one (.pure (.val (.bool r))))) := by
 unfold C6 at h
 refine Ao (n := 16) (rs := [.tmp 4]) Try.func105 rfl rfl rfl (BE rfl) (BE rfl) rfl fun w0 S0 => ?_
 refine Ab (Aa Ae rfl (qb rfl (qa rfl (Ac (Ab (Aa Ae rfl (qK Dl CV rfl (qK Be AQ rfl (qL GS Dk rfl ?_)))))))))
 obtain ⟨v1, a1, h⟩ := bind_some h
 refine AJ [2001, 2002, 2003] (Lf N ((Ad.mk p1 p2 p3 p4)) ((Af.mk p5 p6 p7)) p0 v1 a1) U0 rfl (qm rfl (qx rfl (qx rfl (qz CF rfl (qs AQ rfl (qa rfl (Ac (Ab (Aa Ae rfl (qm rfl (CE rfl (qa rfl (Ac ?_)))))))))))))
 obtain rfl := sj h
 refine Al (sm [] [(4, .e (.one (.pure (.val (.bool ((!v1.2)))))))] [] rfl rfl) (AA ?_)
 exact ⟨⟨[_], ⟨.tmp _ _ rfl, trivial⟩, rfl⟩, trivial⟩
set_option maxRecDepth 10000 in
theorem FW (N : Nat) (p0 : List Ah) (p1 : Ah → Option Bool) (r : Int) (h : BK N p0 p1 = some r) : AB Try.prog 114 [.e (.one (.pure (.sl (p0.map Ay)))), .e (.one (.clo (Io (Mm true Ay) tB p1)))] [] (.e (.one (.pure (.val (.int .i64 r))))) := by
 unfold BK at h
 refine Ao (n := 19) (rs := [.tmp 4]) Try.func114 rfl rfl rfl (BE rfl) (BE rfl) rfl fun w0 S0 => ?_
 refine Ab (Aa Ae rfl (qa rfl (Ac (Ab (Ab (Aa Ae rfl (qm rfl (AT CI rfl (qm rfl (Ac ?_))))))))))
 refine AS (L := A4 N p0 p1) h (fun v1 => mk [(0, .e (.one (.pure (.sl (p0.map Ay))))), (1, .e (.one (.clo (Io (Mm true Ay) tB p1)))), (7, .e (.one (.pure (.val (.int .i64 ((p0.length : Int))))))), (8, .e (.one (.pure (.val (.int .i64 v1)))))] []) (fun v2 => mk [] []) (fun _ _ => rfl) (sm [] _ _ rfl rfl) (fun j1 n1 v1 h => ?_) (fun v2 s h hs => ?_)
 ·unfold A4 at h
  refine Ab (Aa Ae rfl (A8 rfl (Ac (Ab ?_))))
  refine As rfl (fun c3 => ?_) (fun c3 => ?_)
  ·have h := Aq c3 h
   refine Au (Ab (AV (Ab (Aa Ae rfl (qm rfl (qa rfl (Ac (Ab (Aa Ae rfl (qm rfl (qm rfl (qm rfl ?_))))))))))))
   obtain ⟨v4, a4, b4, h⟩ := An h
   refine qi CI Dk a4 (Aj b4) rfl (qK GS Dk rfl ?_)
   obtain ⟨v5, a5, h⟩ := bind_some h
   refine KZ (ds0 := [_]) (ar := (Mm true Ay) v4) (.p rfl) rfl rfl ⟨rfl, trivial⟩ rfl rfl rfl (KO (Li _ _ MS) a5) ?_
   refine Ac ?_
   refine As rfl (fun c6 => ?_) (fun c6 => ?_)
   ·have h := Aq c6 h
    refine Ab (Aa Ae rfl (qm rfl (qa rfl (Ac ?_))))
    obtain rfl := sj h
    refine Al (sm [] [(4, .e (.one (.pure (.val (.int .i64 v1)))))] [] rfl rfl) (AA ?_)
    exact ⟨⟨[_], ⟨.tmp _ _ rfl, trivial⟩, rfl⟩, trivial⟩
   ·have h := Ap c6 h
    refine Au (Aa Ae rfl (Bo rfl (qm rfl (Ac ?_))))
    exact Aw _ h (sm [] _ _ rfl rfl)
  ·have h := Ap c3 h
   refine A5 ?_
   exact Aw _ h (sm [] _ _ rfl rfl)
 ·refine Al hs (Ab (Aa Ae rfl (qa rfl (Ac ?_))))
  obtain rfl := sj h
  refine Al (sm [] [(4, .e (.one (.pure (.val (.int .i64 ((-1)))))))] [] rfl rfl) (AA ?_)
  exact ⟨⟨[_], ⟨.tmp _ _ rfl, trivial⟩, rfl⟩, trivial⟩
set_option maxRecDepth 10000 in
theorem FJ (N : Nat) (p0 : List Ah) (p1 : Ah → Option Bool) (r : Nat × (List Ah)) (h : BD N p0 p1 = some r) : FG Try.prog 103 [.e (.one (.own 90000)), .e (.one (.clo (Io (Mm true Ay) tB p1)))] [(.vec 3 (p0.map Ay), .vec 3 (r.2.map Ay))] [] (.e (.one (.view 90000 3 0 r.1))) := by
 unfold BD at h
 refine GC (n := 42) (rs := [.tmp 4]) Try.func103 rfl rfl rfl (BE rfl) (BE rfl) rfl rfl (BE rfl) rfl (BE rfl) fun w0 S0 GL => ?_
 refine Al (sm [] [(0, .e (.one (.own 90000))), (1, .e (.one (.clo (Io (Mm true Ay) tB p1))))] [(90000, .vec 3 (p0.map Ay))] rfl rfl) (Ab (Aa Ae rfl (qa rfl (Ac (Ab (Aa Ae rfl (qm rfl (qm rfl ?_))))))))
 obtain ⟨v1, a1, h⟩ := bind_some h
 refine EB [] [90000] (FW N p0 p1 v1 a1) Wd Db rfl (qa rfl (Ac (Ab (Ab (Aa Ae rfl (qm rfl (BY rfl (Ac ?_))))))))
 refine As rfl (fun c2 => ?_) (fun c2 => ?_)
 ·have h := Aq c2 h
  refine Ab (Aa Ae rfl (qm rfl (qa rfl (Ac ?_))))
  obtain rfl := sj h
  refine Al ((UM Ay p0 4 90000 3 rfl rfl).trans (sm [] [(4, .e (.one (.view 90000 3 0 p0.length)))] [(90000, .vec 3 (p0.map Ay))] rfl rfl)) (AA ?_)
  exact ⟨⟨[_], ⟨.tmp _ _ rfl, trivial⟩, rfl⟩, ⟨rfl, trivial⟩, trivial⟩
 ·have h := Ap c2 h
  refine Au (Ab (Ab (Aa Ae rfl (qm rfl (Bo rfl (qa rfl (Ac ?_)))))))
  refine AS (L := AX N p1) h (fun v3 => mk [(0, .e (.one (.own 90000))), (1, .e (.one (.clo (Io (Mm true Ay) tB p1)))), (5, .e (.one (.pure (.val (.int .i64 v3.2.1))))), (6, .e (.one (.pure (.val (.int .i64 v3.2.2)))))] [(90000, .vec 3 (v3.1.map Ay))]) (fun v4 => mk [(0, .e (.one (.own 90000))), (5, .e (.one (.pure (.val (.int .i64 v4.2)))))] [(90000, .vec 3 (v4.1.map Ay))]) (fun _ _ => rfl) (sm [] _ _ rfl rfl) (fun j3 n3 v3 h => ?_) (fun v4 s h hs => ?_)
  ·unfold AX at h
   refine Ab (Ab (Aa Ae rfl (qm rfl (qm rfl (Fc CI rfl (A8 rfl (Ac ?_)))))))
   refine As rfl (fun c5 => ?_) (fun c5 => ?_)
   ·have h := Aq c5 h
    refine Au ?_
    refine AW h (fun v6 => mk [(0, .e (.one (.own 90000))), (1, .e (.one (.clo (Io (Mm true Ay) tB p1)))), (5, .e (.one (.pure (.val (.int .i64 v6.2))))), (6, .e (.one (.pure (.val (.int .i64 v3.2.2)))))] [(90000, .vec 3 (v6.1.map Ay))]) (fun j6 h => ?_) (fun v6 h => ?_)
    ·refine AV (Ab (Aa Ae rfl (qm rfl (qm rfl ?_))))
     obtain ⟨v7, a7, b7, h⟩ := An h
     refine qI CI Dk a7 (Aj b7) rfl (qJ GS Dk (Aj b7) rfl (qz He rfl (qs Dk rfl (Ac (Ab (Aa Ae rfl (qm rfl (qL GS Dk rfl ?_))))))))
     obtain ⟨v8, a8, h⟩ := bind_some h
     refine KZ (ds0 := [_]) (ar := (Mm true Ay) v7) (.p rfl) rfl rfl ⟨rfl, trivial⟩ rfl rfl rfl (KO (Li _ _ MS) a8) ?_
     refine CE rfl (Ac ?_)
     refine As rfl (fun c9 => ?_) (fun c9 => ?_)
     ·have h := Aq c9 h
      refine Ab (Aa Ae rfl (qm rfl (qm rfl (qL GS Dk rfl ?_))))
      obtain ⟨v10, a10, b10, h⟩ := An h
      refine qI CI Dk a10 (Aj b10) rfl ?_
      refine Ee rfl rfl rfl rfl (Aj b10) rfl Dk rfl (BE rfl) (DS Ay v3.1 _ v7) ?_
      refine Ac (Aa Ae rfl (qm rfl (Bo rfl (qa rfl (Ac ?_)))))
      exact Aw _ h (sm [] _ _ rfl rfl)
     ·have h := Ap c9 h
      refine Au ?_
      exact Aw _ h (sm [] _ _ rfl rfl)
    ·refine Aa Ae rfl (qm rfl (Bo rfl (qa rfl (Ac ?_))))
     exact Aw _ h (sm [] _ _ rfl rfl)
   ·have h := Ap c5 h
    refine A5 ?_
    exact Aw _ h (sm [] _ _ rfl rfl)
  ·refine Al hs (Ab (Aa Ae rfl (qm rfl (qm rfl ?_))))
   obtain ⟨c11, h⟩ := AO h
   have w12 : ((v4.2).toNat) + ((v4.1.length - (v4.2).toNat)) ≤ v4.1.length := by have := c11.2.1; have := c11.2.2; omega
   refine Lm Ay v4.1 (.p rfl) rfl (JO Ay _ _ v4.1) rfl CI Dk (.some _ _ _ _ c11.1) (.none _) ⟨rfl, trivial⟩ trivial c11.2.1 (by rw [Nat.zero_add]; exact c11.2.2) (Nat.zero_add _) rfl ?_
   have w13 : (Ix v4.1 ((v4.2).toNat) (List.replicate ((v4.1.length - (v4.2).toNat)) ((Ah.mk 0 0 0)))).length = v4.1.length := I8 (by rw [List.length_replicate]; exact w12)
   refine SS Ay v4.1 ((Ah.mk 0 0 0)) rfl rfl (Oi Ay _ _ ((v4.2).toNat) ((v4.1.length - (v4.2).toNat)) v4.1 w12) rfl CI He rfl rfl rfl rfl ?_
   refine Ac (Ab (Aa Ae rfl (qm rfl (qm rfl ?_))))
   obtain ⟨c14, h⟩ := AO h
   have w15 : 0 + ((v4.2).toNat) ≤ (Ix v4.1 ((v4.2).toNat) (List.replicate ((v4.1.length - (v4.2).toNat)) ((Ah.mk 0 0 0)))).length := by have := c14.2.1; have := c14.2.2; omega
   refine Lm Ay (Ix v4.1 ((v4.2).toNat) (List.replicate ((v4.1.length - (v4.2).toNat)) ((Ah.mk 0 0 0)))) (.p rfl) rfl (JO Ay _ _ (Ix v4.1 ((v4.2).toNat) (List.replicate ((v4.1.length - (v4.2).toNat)) ((Ah.mk 0 0 0))))) rfl CI Dk (.none _) (.some _ _ _ _ c14.1) trivial ⟨rfl, trivial⟩ c14.2.1 (by rw [Nat.zero_add]; exact c14.2.2) (Nat.zero_add _) rfl ?_
   refine qa rfl (Ac ?_)
   obtain rfl := sj h
   refine Al (sm [] [(4, .e (.one (.view 90000 3 0 ((v4.2).toNat))))] [(90000, .vec 3 ((Ix v4.1 ((v4.2).toNat) (List.replicate ((v4.1.length - (v4.2).toNat)) ((Ah.mk 0 0 0)))).map Ay))] rfl rfl) (AA ?_)
   exact ⟨⟨[_], ⟨.tmp _ _ rfl, trivial⟩, rfl⟩, ⟨rfl, trivial⟩, trivial⟩
set_option maxRecDepth 10000 in
theorem My (N : Nat) (p0 : Ad) (p1 : Af) (r : (List Ah) × Int) (h : Fh N p0 p1 = some r) : AB Try.prog 87 [.e (.agg [.pure (.sl (p0.fVersions.map Ag)), .pure (.sl (p0.fNow.map Ag)), .pure (.sl (p0.fTarget.map Ag)), .pure (.sl (p0.fTables.map Ai))]), .e (.agg [.pure (.sl (p1.fBase.map Ag)), .pure (.sl (p1.fNext.map Ag)), .pure (.sl (p1.fHeld.map A6))])] [(3, r.1.map Ay)] (.tup [.one (.own 0), .one (.pure (.val (.int .i64 r.2)))]) := by
 unfold Fh at h
 refine Ao (n := 17) (rs := [.tmp 4, .tmp 5]) Try.func87 rfl rfl rfl (BE rfl) (BE rfl) rfl fun w0 S0 => ?_
 refine Ab (Aa Ae rfl (qb rfl (qb rfl (qa rfl (qa rfl (Ac (Ab (Ab (Aa Ae rfl (qL Dl CV rfl (qL Be AQ rfl ?_)))))))))))
 obtain ⟨v1, a1, h⟩ := bind_some h
 refine AJ [] (Ie N p0 p1 v1 a1) Ur rfl (qa rfl (Ac (Ab (Aa Ae rfl (qm rfl (Cn rfl (Ac ?_)))))))
 refine As rfl (fun c2 => ?_) (fun c2 => ?_)
 ·have h := Aq c2 h
  refine Ab (Aa Ae rfl (qm rfl (qa rfl (qa rfl (Ac ?_)))))
  obtain rfl := sj h
  refine Al ((B8 4 2001 3 rfl rfl rfl).trans (sm [(1000, 2001)] [(4, .e (.one (.own 1000))), (5, .e (.one (.pure (.val (.int .i64 v1)))))] [(1000, .vec 3 ((([] : List Ah)).map Ay))] rfl rfl)) (AA ?_)
  exact ⟨⟨[_, _], ⟨.tmp _ _ rfl, ⟨.tmp _ _ rfl, trivial⟩⟩, rfl⟩, ⟨rfl, trivial⟩⟩
 ·have h := Ap c2 h
  refine Au (Ab (Aa Ae rfl (qL Dl CV rfl ?_)))
  obtain ⟨v3, a3, h⟩ := bind_some h
  refine AJ [2002] (Q5 N p0 v3 a3) WJ rfl (D1 (KP 2 [.sl (p0.fVersions.map Ag), .sl (p0.fNow.map Ag), .sl (p0.fTarget.map Ag), .sl (p0.fTables.map Ai)] rfl rfl) (D1 (KP 3 [.sl (p1.fBase.map Ag), .sl (p1.fNext.map Ag), .sl (p1.fHeld.map A6)] rfl rfl) ?_))
  refine KC (capD := [_, _]) (Io (Mm true Ay) tB ((fun (x : Ah) => C6 N x p0.fVersions p0.fNow p0.fTarget p0.fTables p1.fBase p1.fNext p1.fHeld))) (.p rfl) Xl rfl ⟨rfl, rfl, trivial⟩ rfl (fun ar t ht => by obtain ⟨x, r, rfl, hq, rfl⟩ := J4 ht; exact LV N x p0.fVersions p0.fNow p0.fTarget p0.fTables p1.fBase p1.fNext p1.fHeld r hq) ?_
  obtain ⟨v4, a4, h⟩ := bind_some h
  obtain ⟨c5, h⟩ := AO h
  have w6 : 0 + v4.1 ≤ v4.2.length := by rw [Nat.zero_add]; exact c5
  refine Mp (ds0 := [_, _]) [2002] [] [true] (FJ N v3 ((fun (x : Ah) => C6 N x p0.fVersions p0.fNow p0.fTarget p0.fTables p1.fBase p1.fNext p1.fHeld)) v4 a4) (.p rfl) WZ rfl ⟨rfl, rfl, trivial⟩ rfl rfl (by decide) ⟨rfl, trivial⟩ rfl (Ig rfl) trivial ⟨(fun h => by cases h), trivial⟩ rfl rfl rfl ?_
  refine D1 (Vm Ay v4.2 16 2002 2003 3 v4.1 rfl rfl rfl rfl rfl c5) (qa rfl (qa rfl (Ac ?_)))
  obtain rfl := sj h
  refine Al (sm [(1000, 2003)] [(4, .e (.one (.own 1000))), (5, .e (.one (.pure (.val (.int .i64 0)))))] [(1000, .vec 3 ((v4.2.take v4.1).map Ay))] rfl rfl) (AA ?_)
  exact ⟨⟨[_, _], ⟨.tmp _ _ rfl, ⟨.tmp _ _ rfl, trivial⟩⟩, rfl⟩, ⟨rfl, trivial⟩⟩
set_option maxRecDepth 10000 in
theorem Pc (N : Nat) (p0 : Ah) (r : Bool) (h : FY N p0 = some r) : AB Try.prog 100 [.e (.agg [.pure (.val (.int .i64 p0.fKind)), .pure (.val (.int .i64 p0.fIndex)), .pure (.val (.int .i64 p0.fVersion))])] [] (.e (.one (.pure (.val (.bool r))))) := by
 unfold FY at h
 refine Ao (n := 27) (rs := [.tmp 2]) Try.func100 rfl rfl rfl (BE rfl) (BE rfl) rfl fun w0 S0 => ?_
 refine Ab (Aa Ae rfl (qb rfl (qa rfl (Ac (Ab ?_)))))
 refine AW h (fun v1 => mk [(1, .e (.one (.ptr 1 0))), (18, .e (.one (.pure (.val (.bool v1)))))] [(1, .box [.pure (.val (.int .i64 p0.fKind)), .pure (.val (.int .i64 p0.fIndex)), .pure (.val (.int .i64 p0.fVersion))])]) (fun j1 h => ?_) (fun v1 h => ?_)
 ·refine Aa Ae rfl (qf EA rfl (ql Cb rfl (qf Gb rfl (ql Cb rfl ?_))))
  refine W3 (.p rfl) rfl rfl ?_
  refine A8 rfl (qm rfl ?_)
  refine AI (t := 9) rfl (fun c2 => ?_) (fun c2 => ?_)
  ·have h := Aq c2 h
   refine qn rfl (qn rfl (qn rfl (qp rfl (qm rfl (qn rfl (qn rfl (qn rfl (qp rfl (Ac ?_)))))))))
   exact Aw _ h (sm [] _ _ rfl rfl)
  ·have h := Ap c2 h
   refine qf EO rfl (ql Cb rfl (A8 rfl (qp rfl (qm rfl ?_))))
   refine AI (t := 14) rfl (fun c3 => ?_) (fun c3 => ?_)
   ·have h := Aq c3 h
    refine qn rfl (qn rfl (qn rfl (qp rfl (Ac ?_))))
    exact Aw _ h (sm [] _ _ rfl rfl)
   ·have h := Ap c3 h
    refine qf EO rfl (ql Cb rfl (FP rfl (qp rfl (Ac ?_))))
    exact Aw _ h (sm [] _ _ rfl rfl)
 ·refine As rfl (fun c4 => ?_) (fun c4 => ?_)
  ·have h := Aq c4 h
   refine Ab (Aa Ae rfl (qa rfl (Ac ?_)))
   obtain rfl := sj h
   refine Al (sm [] [(2, .e (.one (.pure (.val (.bool false)))))] [] rfl rfl) (AA ?_)
   exact ⟨⟨[_], ⟨.tmp _ _ rfl, trivial⟩, rfl⟩, trivial⟩
  ·have h := Ap c4 h
   refine Au ?_
   refine AW h (fun v5 => mk [(2, .e (.one (.pure (.val (.bool v5)))))] []) (fun j5 h => ?_) (fun v5 h => ?_)
   ·refine Aa Ae rfl (qf EO rfl (ql Cb rfl (BY rfl (qm rfl ?_))))
    refine AI (t := 22) rfl (fun c6 => ?_) (fun c6 => ?_)
    ·have h := Aq c6 h
     refine qn rfl (qn rfl (qn rfl (qp rfl (qa rfl (Ac ?_)))))
     exact Aw _ h (sm [] _ _ rfl rfl)
    ·have h := Ap c6 h
     refine qf Gb rfl (ql Cb rfl (BY rfl (qp rfl (qa rfl (Ac ?_)))))
     exact Aw _ h (sm [] _ _ rfl rfl)
   ·obtain rfl := sj h
    refine Al (sm [] [(2, .e (.one (.pure (.val (.bool v5)))))] [] rfl rfl) (AA ?_)
    exact ⟨⟨[_], ⟨.tmp _ _ rfl, trivial⟩, rfl⟩, trivial⟩
set_option maxRecDepth 10000 in
theorem NL (N : Nat) (p0 : Ad) (p1 : Ah) (r : Bool) (h : Fv N p0 p1 = some r) : AB Try.prog 101 [.e (.agg [.pure (.sl (p0.fVersions.map Ag)), .pure (.sl (p0.fNow.map Ag)), .pure (.sl (p0.fTarget.map Ag)), .pure (.sl (p0.fTables.map Ai))]), .e (.agg [.pure (.val (.int .i64 p1.fKind)), .pure (.val (.int .i64 p1.fIndex)), .pure (.val (.int .i64 p1.fVersion))])] [] (.e (.one (.pure (.val (.bool r))))) := by
 unfold Fv at h
 refine Ao (n := 36) (rs := [.tmp 4]) Try.func101 rfl rfl rfl (BE rfl) (BE rfl) rfl fun w0 S0 => ?_
 refine Ab (Aa Ae rfl (qb rfl (qb rfl (qa rfl (Ac (Ab (Ab (Aa Ae rfl (qf EO rfl (ql Cb rfl (BY rfl (Ac ?_))))))))))))
 refine As rfl (fun c1 => ?_) (fun c1 => ?_)
 ·have h := Aq c1 h
  refine Ab (Aa Ae rfl (qf EA rfl (ql Cb rfl (qf CG rfl (ql GE rfl (AT DQ rfl (A8 rfl (qa rfl (Ac ?_)))))))))
  obtain rfl := sj h
  refine Al (sm [] [(4, .e (.one (.pure (.val (.bool ((decide (p1.fIndex < (p0.fTables.length : Int)))))))))] [] rfl rfl) (AA ?_)
  exact ⟨⟨[_], ⟨.tmp _ _ rfl, trivial⟩, rfl⟩, trivial⟩
 ·have h := Ap c1 h
  refine Au ?_
  refine AW h (fun v2 => mk [(4, .e (.one (.pure (.val (.bool v2)))))] []) (fun j2 h => ?_) (fun v2 h => ?_)
  ·refine Aa Ae rfl (qf EA rfl (ql Cb rfl (qf Bu rfl (ql A9 rfl (AT AF rfl (A8 rfl (qm rfl ?_)))))))
   refine AI (t := 20) rfl (fun c3 => ?_) (fun c3 => ?_)
   ·have h := Aq c3 h
    refine qf EO rfl (ql Cb rfl (Cn rfl (qm rfl ?_)))
    refine AI (t := 24) rfl (fun c4 => ?_) (fun c4 => ?_)
    ·have h := Aq c4 h
     refine qn rfl (qn rfl (qn rfl (qn rfl (qn rfl (qn rfl (qn rfl (qn rfl (qn rfl (qp rfl (qp rfl (qa rfl (AY (by kernel_rfl) ?_))))))))))))
     exact Aw _ h (sm [] _ _ rfl rfl)
    ·have h := Ap c4 h
     refine qf Gb rfl (ql Cb rfl (qf Bu rfl (ql A9 rfl (qf EA rfl (ql Cb rfl ?_)))))
     obtain ⟨v5, a5, b5, h⟩ := An h
     refine qi AF Df a5 (Aj b5) rfl (qk Cb rfl (A8 rfl (qp rfl (qp rfl (qa rfl (AY (by kernel_rfl) ?_))))))
     exact Aw _ h (sm [] _ _ rfl rfl)
   ·have h := Ap c3 h
    refine qn rfl (qn rfl (qn rfl (qn rfl (qu rfl (qu rfl (qu rfl (qu rfl (qu rfl (qu rfl (qu rfl (qu rfl (qu rfl (qn rfl (qp rfl (qa rfl (AY (by kernel_rfl) ?_))))))))))))))))
    exact Aw _ h (sm [] _ _ rfl rfl)
  ·obtain rfl := sj h
   refine Al (sm [] [(4, .e (.one (.pure (.val (.bool v2)))))] [] rfl rfl) (AA ?_)
   exact ⟨⟨[_], ⟨.tmp _ _ rfl, trivial⟩, rfl⟩, trivial⟩
set_option maxRecDepth 10000 in
theorem Pi (N : Nat) (p0 : Ad) (p1 : Af) (p2 : Ah) (r : Af × Int) (h : F4 N p0 p1 p2 = some r) : AB Try.prog 78 [.e (.agg [.pure (.sl (p0.fVersions.map Ag)), .pure (.sl (p0.fNow.map Ag)), .pure (.sl (p0.fTarget.map Ag)), .pure (.sl (p0.fTables.map Ai))]), .e (.agg [.pure (.sl (p1.fBase.map Ag)), .pure (.sl (p1.fNext.map Ag)), .pure (.sl (p1.fHeld.map A6))]), .e (.agg [.pure (.val (.int .i64 p2.fKind)), .pure (.val (.int .i64 p2.fIndex)), .pure (.val (.int .i64 p2.fVersion))])] [(1, r.1.fBase.map Ag), (1, r.1.fNext.map Ag), (1, r.1.fHeld.map A6)] (.tup [.agg [.own 0, .own 1, .own 2], .one (.pure (.val (.int .i64 r.2)))]) := by
 unfold F4 at h
 refine Ao (n := 32) (rs := [.cell 6 43, .tmp 7]) Try.func78 rfl rfl rfl (BE rfl) (BE rfl) rfl fun w0 S0 => ?_
 refine Ab (Aa Ae rfl (qb rfl (qb rfl (qb rfl (qz CF rfl (qa rfl (Ac (Ab (AV (Ab (Aa Ae rfl (qL GS Dk rfl ?_))))))))))))
 obtain ⟨v1, a1, h⟩ := bind_some h
 refine AJ [] (Pc N p2 v1 a1) W9 rfl (CE rfl (qa rfl (Ac ?_)))
 refine As rfl (fun c2 => ?_) (fun c2 => ?_)
 ·have h := Aq c2 h
  refine Ab (Aa Ae rfl (AZ CF FN rfl (qs AQ rfl (qa rfl (Ac ?_)))))
  obtain rfl := sj h
  refine Al ((AE 6 0 2001 1 _ rfl rfl rfl rfl).trans ((AE 6 1 2002 1 _ rfl rfl rfl rfl).trans ((AE 6 2 2003 1 _ rfl rfl rfl rfl).trans (sm [(1000, 2001), (1001, 2002), (1002, 2003)] [(6, .e (.one (.ptr 6 0))), (7, .e (.one (.pure (.val (.int .i64 1)))))] [(6, .box [.own 1000, .own 1001, .own 1002]), (1000, .vec 1 ((([] : List Int)).map Ag)), (1001, .vec 1 ((([] : List Int)).map Ag)), (1002, .vec 1 ((([] : List Int)).map A6))] rfl rfl)))) (AA ?_)
  exact ⟨⟨[_, _], ⟨.cellN _ _ _ _ _ _ _ rfl rfl Be AQ rfl rfl (FT rfl), ⟨.tmp _ _ rfl, trivial⟩⟩, rfl⟩, ⟨rfl, rfl, rfl, trivial⟩⟩
 ·have h := Ap c2 h
  refine Ab (Aa Ae rfl (qL Dl CV rfl (qL GS Dk rfl ?_)))
  obtain ⟨v3, a3, h⟩ := bind_some h
  refine AJ [] (NL N p0 p2 v3 a3) Wi rfl (CE rfl (qa rfl (Ac ?_)))
  refine As rfl (fun c4 => ?_) (fun c4 => ?_)
  ·have h := Aq c4 h
   refine Ab (Aa Ae rfl (AZ CF FN rfl (qs AQ rfl (qa rfl (Ac ?_)))))
   obtain rfl := sj h
   refine Al ((AE 6 0 2004 1 _ rfl rfl rfl rfl).trans ((AE 6 1 2005 1 _ rfl rfl rfl rfl).trans ((AE 6 2 2006 1 _ rfl rfl rfl rfl).trans (sm [(1000, 2004), (1001, 2005), (1002, 2006)] [(6, .e (.one (.ptr 6 0))), (7, .e (.one (.pure (.val (.int .i64 4)))))] [(6, .box [.own 1000, .own 1001, .own 1002]), (1000, .vec 1 ((([] : List Int)).map Ag)), (1001, .vec 1 ((([] : List Int)).map Ag)), (1002, .vec 1 ((([] : List Int)).map A6))] rfl rfl)))) (AA ?_)
   exact ⟨⟨[_, _], ⟨.cellN _ _ _ _ _ _ _ rfl rfl Be AQ rfl rfl (FT rfl), ⟨.tmp _ _ rfl, trivial⟩⟩, rfl⟩, ⟨rfl, rfl, rfl, trivial⟩⟩
  ·have h := Ap c4 h
   refine Au (Ab (Aa Ae rfl (qL Dl CV rfl (qL Be AQ rfl (qL GS Dk rfl ?_)))))
   obtain ⟨v5, a5, h⟩ := bind_some h
   refine AJ [2007, 2008, 2009] (Lf N p0 p1 p2 v5 a5) U0 rfl (qm rfl (qx rfl (qx rfl (qz CF rfl (qs AQ rfl (qa rfl (Ac (Ab (Ab (Aa Ae rfl (qm rfl (CE rfl (Ac ?_)))))))))))))
   refine As rfl (fun c6 => ?_) (fun c6 => ?_)
   ·have h := Aq c6 h
    refine Ab (Aa Ae rfl (AZ CF FN rfl (qs AQ rfl (qa rfl (Ac ?_)))))
    obtain rfl := sj h
    refine Al ((AE 6 0 2010 1 _ rfl rfl rfl rfl).trans ((AE 6 1 2011 1 _ rfl rfl rfl rfl).trans ((AE 6 2 2012 1 _ rfl rfl rfl rfl).trans (sm [(1000, 2010), (1001, 2011), (1002, 2012)] [(6, .e (.one (.ptr 6 0))), (7, .e (.one (.pure (.val (.int .i64 11)))))] [(6, .box [.own 1000, .own 1001, .own 1002]), (1000, .vec 1 ((([] : List Int)).map Ag)), (1001, .vec 1 ((([] : List Int)).map Ag)), (1002, .vec 1 ((([] : List Int)).map A6))] rfl rfl)))) (AA ?_)
    exact ⟨⟨[_, _], ⟨.cellN _ _ _ _ _ _ _ rfl rfl Be AQ rfl rfl (FT rfl), ⟨.tmp _ _ rfl, trivial⟩⟩, rfl⟩, ⟨rfl, rfl, rfl, trivial⟩⟩
   ·have h := Ap c6 h
    refine Au (Ab (Aa Ae rfl (qL Be AQ rfl (qs AQ rfl (qa rfl (Ac ?_))))))
    obtain rfl := sj h
    refine Al (sm [(1000, 2007), (1001, 2008), (1002, 2009)] [(6, .e (.one (.ptr 6 0))), (7, .e (.one (.pure (.val (.int .i64 0)))))] [(6, .box [.own 1000, .own 1001, .own 1002]), (1000, .vec 1 (v5.1.fBase.map Ag)), (1001, .vec 1 (v5.1.fNext.map Ag)), (1002, .vec 1 (v5.1.fHeld.map A6))] rfl rfl) (AA ?_)
    exact ⟨⟨[_, _], ⟨.cellN _ _ _ _ _ _ _ rfl rfl Be AQ rfl rfl (FT rfl), ⟨.tmp _ _ rfl, trivial⟩⟩, rfl⟩, ⟨rfl, rfl, rfl, trivial⟩⟩
set_option maxRecDepth 10000 in
theorem Lq (N : Nat) (p0 : Ad) (p1 : Af) (p2 : Ah) (r : Af × Int) (h : Fk N p0 p1 p2 = some r) : AB Try.prog 39 [.e (.agg [.pure (.sl (p0.fVersions.map Ag)), .pure (.sl (p0.fNow.map Ag)), .pure (.sl (p0.fTarget.map Ag)), .pure (.sl (p0.fTables.map Ai))]), .e (.agg [.pure (.sl (p1.fBase.map Ag)), .pure (.sl (p1.fNext.map Ag)), .pure (.sl (p1.fHeld.map A6))]), .e (.agg [.pure (.val (.int .i64 p2.fKind)), .pure (.val (.int .i64 p2.fIndex)), .pure (.val (.int .i64 p2.fVersion))])] [(1, r.1.fBase.map Ag), (1, r.1.fNext.map Ag), (1, r.1.fHeld.map A6)] (.tup [.agg [.own 0, .own 1, .own 2], .one (.pure (.val (.int .i64 r.2)))]) := by
 unfold Fk at h
 refine Ao (n := 22) (rs := [.cell 6 43, .tmp 7]) Try.func39 rfl rfl rfl (BE rfl) (BE rfl) rfl fun w0 S0 => ?_
 refine Ab (Aa Ae rfl (qb rfl (qb rfl (qb rfl (qz CF rfl (qa rfl (Ac (Ab (Ab (Aa Ae rfl (qL Dl CV rfl (qL Be AQ rfl ?_))))))))))))
 obtain ⟨v1, a1, h⟩ := bind_some h
 refine AJ [] (Ie N p0 p1 v1 a1) Ur rfl (qa rfl (Ac (Ab (Aa Ae rfl (qm rfl (Cn rfl (Ac ?_)))))))
 refine As rfl (fun c2 => ?_) (fun c2 => ?_)
 ·have h := Aq c2 h
  refine Ab (Aa Ae rfl (AZ CF FN rfl (qm rfl (qs AQ rfl (qa rfl (Ac ?_))))))
  obtain rfl := sj h
  refine Al ((AE 6 0 2001 1 _ rfl rfl rfl rfl).trans ((AE 6 1 2002 1 _ rfl rfl rfl rfl).trans ((AE 6 2 2003 1 _ rfl rfl rfl rfl).trans (sm [(1000, 2001), (1001, 2002), (1002, 2003)] [(6, .e (.one (.ptr 6 0))), (7, .e (.one (.pure (.val (.int .i64 v1)))))] [(6, .box [.own 1000, .own 1001, .own 1002]), (1000, .vec 1 ((([] : List Int)).map Ag)), (1001, .vec 1 ((([] : List Int)).map Ag)), (1002, .vec 1 ((([] : List Int)).map A6))] rfl rfl)))) (AA ?_)
  exact ⟨⟨[_, _], ⟨.cellN _ _ _ _ _ _ _ rfl rfl Be AQ rfl rfl (FT rfl), ⟨.tmp _ _ rfl, trivial⟩⟩, rfl⟩, ⟨rfl, rfl, rfl, trivial⟩⟩
 ·have h := Ap c2 h
  refine Au (Ab (Aa Ae rfl (qL Dl CV rfl (qL Be AQ rfl (qL GS Dk rfl ?_)))))
  obtain ⟨v3, a3, h⟩ := bind_some h
  refine AJ [2004, 2005, 2006] (Pi N p0 p1 p2 v3 a3) X3 rfl (qx rfl (qx rfl (qs AQ rfl (qa rfl (Ac ?_)))))
  obtain rfl := sj h
  refine Al (sm [(1000, 2004), (1001, 2005), (1002, 2006)] [(6, .e (.one (.ptr 6 0))), (7, .e (.one (.pure (.val (.int .i64 v3.2)))))] [(6, .box [.own 1000, .own 1001, .own 1002]), (1000, .vec 1 (v3.1.fBase.map Ag)), (1001, .vec 1 (v3.1.fNext.map Ag)), (1002, .vec 1 (v3.1.fHeld.map A6))] rfl rfl) (AA ?_)
  exact ⟨⟨[_, _], ⟨.cellN _ _ _ _ _ _ _ rfl rfl Be AQ rfl rfl (FT rfl), ⟨.tmp _ _ rfl, trivial⟩⟩, rfl⟩, ⟨rfl, rfl, rfl, trivial⟩⟩
set_option maxRecDepth 10000 in
theorem Ns (N : Nat) (p0 : Ad) (p1 : Af) (r : (List AD) × Int) (h : FE N p0 p1 = some r) : AB Try.prog 55 [.e (.agg [.pure (.sl (p0.fVersions.map Ag)), .pure (.sl (p0.fNow.map Ag)), .pure (.sl (p0.fTarget.map Ag)), .pure (.sl (p0.fTables.map Ai))]), .e (.agg [.pure (.sl (p1.fBase.map Ag)), .pure (.sl (p1.fNext.map Ag)), .pure (.sl (p1.fHeld.map A6))])] [] (.tup [.one (.pure (.sl (r.1.map Bc))), .one (.pure (.val (.int .i64 r.2)))]) := by
 unfold FE at h
 refine Ao (n := 119) (rs := [.tmp 4, .tmp 5]) Try.func55 rfl rfl rfl (BE rfl) (BE rfl) rfl fun w0 S0 => ?_
 refine Ab (Aa Ae rfl (qb rfl (qb rfl (qa rfl (qa rfl (Ac (Ab (Aa Ae rfl (qL Be AQ rfl (AZ PY U4 rfl ?_))))))))))
 refine Kl [(0, .tmp 21, _)] (.p rfl) rfl ⟨rfl, trivial⟩ rfl Hs Jc PY rfl rfl (BE rfl) rfl rfl ?_
 refine D1 (Ok 22 8 [.s, .s, .s, .s, .s, .s, .s, .x 1 []] _ ((([(AD.mk p1 ((-1)) ((Ah.mk 0 0 0)) (([] : List Int)))] : List AD)).map Bc) rfl rfl) (qa rfl (Ac (Ab (Aa Ae rfl ?_))))
 refine RU (.p rfl) rfl ?_
 refine qL Be AQ rfl ?_
 obtain ⟨v1, a1, h⟩ := bind_some h
 refine AJ [] (Na N p1 v1 a1) Xq rfl ?_
 refine Po (kv := Value.string) (vt := NJ) (m := ([] : List (ByteArray × Int))) (k := v1) (v := 0) rfl (.inr rfl) rfl rfl rfl rfl (LO Pg VW) rfl ?_
 refine qm rfl (qa rfl (Ac (Ab (Ab (Aa Ae rfl (qa rfl (Ac ?_)))))))
 refine AS (L := C9 N p0) h (fun v2 => mk [(2, .e (.one (.ptr 2 0))), (6, .e (.one (.own 2001))), (7, .e (.one (.mref 2002))), (8, .e (.one (.pure (.val (.int .i64 v2.2.2)))))] [(2, .box [.pure (.sl (p0.fVersions.map Ag)), .pure (.sl (p0.fNow.map Ag)), .pure (.sl (p0.fTarget.map Ag)), .pure (.sl (p0.fTables.map Ai))]), (2001, .dvec 8 [.s, .s, .s, .s, .s, .s, .s, .x 1 []] (v2.1.map Bc)), (2002, .mp (HH Value.string NJ v2.2.1))]) (fun v3 => mk [(6, .e (.one (.own 2003)))] [(2003, .dvec 8 [.s, .s, .s, .s, .s, .s, .s, .x 1 []] (v3.map Bc))]) (fun _ _ => rfl) (sm [(2001, 22), (2002, 23)] _ _ rfl rfl) (fun j2 n2 v2 h => ?_) (fun v3 s h hs => ?_)
 ·unfold C9 at h
  refine Ab (Ab (Aa Ae rfl (qm rfl (qm rfl ?_))))
  refine QJ (.p rfl) rfl rfl (JY Bc v2.1 _ _) Hs ?_
  refine A8 rfl (Ac ?_)
  refine As rfl (fun c4 => ?_) (fun c4 => ?_)
  ·have h := Aq c4 h
   refine Au (Ab (AV (Ab (Aa Ae rfl (qL Dl CV rfl (qm rfl (qm rfl ?_)))))))
   obtain ⟨v5, a5, b5, h⟩ := An h
   refine Ll (.p rfl) rfl rfl rfl (JY Bc v2.1 _ _) Hs Jc a5 (AK b5) ?_
   refine qh MT rfl ?_
   refine Qh (.p rfl) rfl Be AQ rfl (Aj b5) rfl rfl (by decide) rfl ?_
   obtain ⟨v6, a6, h⟩ := bind_some h
   refine AJ [2004] (My N p0 ((Af.mk v5.fM.fBase v5.fM.fNext v5.fM.fHeld)) v6 a6) XI rfl (qm rfl (qx rfl (qx rfl (qa rfl (qa rfl (AY (by kernel_rfl) (Ab (Ab (Aa Ae rfl (qm rfl (Cn rfl (Ac ?_))))))))))))
   refine As rfl (fun c7 => ?_) (fun c7 => ?_)
   ·have h := Aq c7 h
    refine Ab (Aa Ae rfl (qm rfl (qa rfl (qa rfl (Ac ?_)))))
    obtain rfl := sj h
    refine Al ((MO 4 _ rfl).trans (sm [] [(4, .e (.one (.pure (.sl ((([] : List AD)).map Bc))))), (5, .e (.one (.pure (.val (.int .i64 v6.2)))))] [] rfl rfl)) (AA ?_)
    exact ⟨⟨[_, _], ⟨.tmp _ _ rfl, ⟨.tmp _ _ rfl, trivial⟩⟩, rfl⟩, trivial⟩
   ·have h := Ap c7 h
    refine Au (Ab (Aa Ae rfl (qm rfl (Fc CI rfl (qm rfl (Ac ?_))))))
    refine AS (L := Cg N p0 v2 v6) h (fun v8 => mk [(2, .e (.one (.ptr 2 0))), (6, .e (.one (.own 2005))), (7, .e (.one (.mref 2006))), (8, .e (.one (.pure (.val (.int .i64 v2.2.2))))), (46, .e (.one (.own 2007))), (47, .e (.one (.pure (.val (.int .i64 ((v6.1.length : Int))))))), (48, .e (.one (.pure (.val (.int .i64 v8.2.2)))))] [(2, .box [.pure (.sl (p0.fVersions.map Ag)), .pure (.sl (p0.fNow.map Ag)), .pure (.sl (p0.fTarget.map Ag)), .pure (.sl (p0.fTables.map Ai))]), (2005, .dvec 8 [.s, .s, .s, .s, .s, .s, .s, .x 1 []] (v8.1.map Bc)), (2006, .mp (HH Value.string NJ v8.2.1)), (2007, .vec 3 (v6.1.map Ay))]) (fun v9 => mk [(2, .e (.one (.ptr 2 0))), (6, .e (.one (.own 2008))), (7, .e (.one (.mref 2009))), (8, .e (.one (.pure (.val (.int .i64 v2.2.2)))))] [(2, .box [.pure (.sl (p0.fVersions.map Ag)), .pure (.sl (p0.fNow.map Ag)), .pure (.sl (p0.fTarget.map Ag)), .pure (.sl (p0.fTables.map Ai))]), (2008, .dvec 8 [.s, .s, .s, .s, .s, .s, .s, .x 1 []] (v9.1.map Bc)), (2009, .mp (HH Value.string NJ v9.2))]) (fun _ _ => rfl) (sm [(2005, 2001), (2006, 2002), (2007, 2004)] _ _ rfl rfl) (fun j8 n8 v8 h => ?_) (fun v9 s h hs => ?_)
    ·unfold Cg at h
     refine Ab (Aa Ae rfl (A8 rfl (Ac (Ab ?_))))
     refine As rfl (fun c10 => ?_) (fun c10 => ?_)
     ·have h := Aq c10 h
      refine Au (Ab (AV (Ab (Aa Ae rfl ?_))))
      obtain ⟨v11, a11, b11, h⟩ := An h
      refine qI CI Dk a11 (Aj b11) rfl (qJ GS Dk (Aj b11) rfl (qz He rfl (qs Dk rfl (Ac (Ab (Aa Ae rfl (qL Dl CV rfl (qm rfl (qm rfl ?_)))))))))
      obtain ⟨v12, a12, b12, h⟩ := An h
      refine Ll (.p rfl) rfl rfl rfl (JY Bc v8.1 _ _) Hs Jc a12 (AK b12) ?_
      refine qh MT rfl ?_
      refine Qh (.p rfl) rfl Be AQ rfl (Aj b12) rfl rfl (by decide) rfl ?_
      refine qL GS Dk rfl ?_
      obtain ⟨v13, a13, h⟩ := bind_some h
      refine AJ [2010, 2011, 2012] (Lq N p0 ((Af.mk v12.fM.fBase v12.fM.fNext v12.fM.fHeld)) v11 v13 a13) Xe rfl (qm rfl (qx rfl (qx rfl (qz CF rfl (qs AQ rfl (qa rfl (AY (by kernel_rfl) (Ab (Ab (Aa Ae rfl (qm rfl (Cn rfl (Ac ?_)))))))))))))
      refine As rfl (fun c14 => ?_) (fun c14 => ?_)
      ·have h := Aq c14 h
       refine Ab (Aa Ae rfl (qm rfl (qa rfl (qa rfl (Ac ?_)))))
       obtain rfl := sj h
       refine Al ((MO 4 _ rfl).trans (sm [] [(4, .e (.one (.pure (.sl ((([] : List AD)).map Bc))))), (5, .e (.one (.pure (.val (.int .i64 v13.2)))))] [] rfl rfl)) (AA ?_)
       exact ⟨⟨[_, _], ⟨.tmp _ _ rfl, ⟨.tmp _ _ rfl, trivial⟩⟩, rfl⟩, trivial⟩
      ·have h := Ap c14 h
       refine Au (Ab (Aa Ae rfl (qL Be AQ rfl ?_)))
       obtain ⟨v15, a15, h⟩ := bind_some h
       refine EB [] [2010, 2011, 2012] (Na N v13.1 v15 a15) Xq Db rfl (qa rfl (Ac (Ab (Aa Ae rfl (qm rfl (qm rfl ?_))))))
       refine Tu (kv := Value.string) (vt := NJ) (m := v8.2.1) (dv := 0) (.p rfl) rfl rfl rfl (LO Pg VW) (by rw [Pg]; rfl) Ko rfl rfl rfl ?_
       refine qm rfl (qx rfl (qx rfl (qa rfl (qa rfl (Ac ?_)))))
       refine AW h (fun v16 => mk [(2, .e (.one (.ptr 2 0))), (6, .e (.one (.own 2013))), (7, .e (.one (.mref 2014))), (8, .e (.one (.pure (.val (.int .i64 v2.2.2))))), (16, .e (.one (.pure (.val (.int .i64 v16.2.2))))), (46, .e (.one (.own 2015))), (47, .e (.one (.pure (.val (.int .i64 ((v6.1.length : Int))))))), (48, .e (.one (.pure (.val (.int .i64 v8.2.2)))))] [(2, .box [.pure (.sl (p0.fVersions.map Ag)), .pure (.sl (p0.fNow.map Ag)), .pure (.sl (p0.fTarget.map Ag)), .pure (.sl (p0.fTables.map Ai))]), (2013, .dvec 8 [.s, .s, .s, .s, .s, .s, .s, .x 1 []] (v16.1.map Bc)), (2014, .mp (HH Value.string NJ v16.2.1)), (2015, .vec 3 (v6.1.map Ay))]) (fun j16 h => ?_) (fun v16 h => ?_)
       ·refine Ab (Aa Ae rfl (qm rfl (CE rfl (Ac ?_))))
        refine As rfl (fun c17 => ?_) (fun c17 => ?_)
        ·have h := Aq c17 h
         refine AW h (fun v18 => mk [(2, .e (.one (.ptr 2 0))), (6, .e (.one (.own 2016))), (7, .e (.one (.mref 2017))), (8, .e (.one (.pure (.val (.int .i64 v2.2.2))))), (15, .e (.one (.pure (.val (.string v15))))), (16, .e (.one (.pure (.val (.int .i64 v18.2))))), (46, .e (.one (.own 2018))), (47, .e (.one (.pure (.val (.int .i64 ((v6.1.length : Int))))))), (48, .e (.one (.pure (.val (.int .i64 v8.2.2)))))] [(2, .box [.pure (.sl (p0.fVersions.map Ag)), .pure (.sl (p0.fNow.map Ag)), .pure (.sl (p0.fTarget.map Ag)), .pure (.sl (p0.fTables.map Ai))]), (2016, .dvec 8 [.s, .s, .s, .s, .s, .s, .s, .x 1 []] (v18.1.map Bc)), (2017, .mp (HH Value.string NJ v8.2.1)), (2018, .vec 3 (v6.1.map Ay))]) (fun j18 h => ?_) (fun v18 h => ?_)
         ·refine Ab (Aa Ae rfl (qL Dl CV rfl (qL Be AQ rfl ?_)))
          obtain ⟨v19, a19, h⟩ := bind_some h
          refine EB [] [2010, 2011, 2012] (Lb N p0 v13.1 v19 a19) Xg Db rfl (qm rfl (qx rfl (qx rfl (qa rfl (qa rfl (Ac ?_))))))
          refine AW h (fun v20 => mk [(2, .e (.one (.ptr 2 0))), (6, .e (.one (.own 2022))), (7, .e (.one (.mref 2023))), (8, .e (.one (.pure (.val (.int .i64 v2.2.2))))), (12, .e (.one (.ptr 12 0))), (13, .e (.one (.ptr 13 0))), (15, .e (.one (.pure (.val (.string v15))))), (46, .e (.one (.own 2024))), (47, .e (.one (.pure (.val (.int .i64 ((v6.1.length : Int))))))), (48, .e (.one (.pure (.val (.int .i64 v8.2.2))))), (87, .e (.one (.pure (.val (.bool v20)))))] [(2, .box [.pure (.sl (p0.fVersions.map Ag)), .pure (.sl (p0.fNow.map Ag)), .pure (.sl (p0.fTarget.map Ag)), .pure (.sl (p0.fTables.map Ai))]), (12, .box [.pure (.val (.int .i64 v11.fKind)), .pure (.val (.int .i64 v11.fIndex)), .pure (.val (.int .i64 v11.fVersion))]), (13, .box [.own 2019, .own 2020, .own 2021]), (2019, .vec 1 (v13.1.fBase.map Ag)), (2020, .vec 1 (v13.1.fNext.map Ag)), (2021, .vec 1 (v13.1.fHeld.map A6)), (2022, .dvec 8 [.s, .s, .s, .s, .s, .s, .s, .x 1 []] (v8.1.map Bc)), (2023, .mp (HH Value.string NJ v8.2.1)), (2024, .vec 3 (v6.1.map Ay))]) (fun j20 h => ?_) (fun v20 h => ?_)
          ·refine Aa Ae rfl (qm rfl (Cn rfl (qm rfl ?_)))
           refine AI (t := 84) rfl (fun c21 => ?_) (fun c21 => ?_)
           ·have h := Aq c21 h
            refine qn rfl (qn rfl (qp rfl (Ac ?_)))
            exact Aw _ h (sm [(2019, 2010), (2020, 2011), (2021, 2012), (2022, 2005), (2023, 2006), (2024, 2007)] _ _ rfl rfl)
           ·have h := Ap c21 h
            refine qm rfl (CE rfl (qp rfl (Ac ?_)))
            exact Aw _ h (sm [(2019, 2010), (2020, 2011), (2021, 2012), (2022, 2005), (2023, 2006), (2024, 2007)] _ _ rfl rfl)
          ·refine As rfl (fun c22 => ?_) (fun c22 => ?_)
           ·have h := Aq c22 h
            refine Aa Ae rfl (qa rfl (Ac ?_))
            exact Aw _ h (sm [(2016, 2022), (2017, 2023), (2018, 2024)] _ _ rfl rfl)
           ·have h := Ap c22 h
            refine Ab (Aa Ae rfl (qm rfl ?_))
            refine QJ (.p rfl) rfl rfl (JY Bc v8.1 _ _) Hs ?_
            refine qa rfl (Ac (Aa Ae rfl (qm rfl (qL Be AQ rfl (qm rfl (qL GS Dk rfl (AZ PY U4 rfl (D1 (Bq 2019 _ _ rfl rfl) (D1 (Bq 2020 _ _ rfl rfl) (D1 (Bq 2021 _ _ rfl rfl) ?_))))))))))
            refine Kl [(0, .tmp 94, _)] (.p rfl) rfl ⟨rfl, trivial⟩ rfl Hs Jc PY rfl rfl (BE rfl) rfl rfl ?_
            refine D1 (Ok 95 8 [.s, .s, .s, .s, .s, .s, .s, .x 1 []] _ ((([(AD.mk v13.1 v2.2.2 v11 (([] : List Int)))] : List AD)).map Bc) rfl rfl) ?_
            obtain ⟨c23, h⟩ := AO h
            refine Sd (.p rfl) rfl rfl rfl rfl rfl (by decide) Hs Hs Jc VF (BE rfl) PY rfl (UE (f := Bc) (g := Bc) (xs := v8.1) (ys := (([(AD.mk v13.1 v2.2.2 v11 (([] : List Int)))] : List AD))) c23) (UC Bc v8.1 (([(AD.mk v13.1 v2.2.2 v11 (([] : List Int)))] : List AD))) rfl rfl ?_
            refine qa rfl (Ac ?_)
            exact Aw _ h (sm [(2016, 96), (2017, 2023), (2018, 2024)] _ _ rfl rfl)
         ·refine Aa Ae rfl (qm rfl (qm rfl (qm rfl ?_)))
          refine Po (kv := Value.string) (vt := NJ) (m := v8.2.1) (k := v15) (v := v18.2) rfl (.inl rfl) rfl rfl rfl rfl (LO Pg VW) rfl ?_
          refine Ac ?_
          exact Aw _ h (sm [(2013, 2016), (2014, 2017), (2015, 2018)] _ _ rfl rfl)
        ·have h := Ap c17 h
         refine Au ?_
         exact Aw _ h (sm [(2013, 2005), (2014, 2006), (2015, 2007)] _ _ rfl rfl)
       ·refine AW h (fun v24 => mk [(2, .e (.one (.ptr 2 0))), (6, .e (.one (.own 2025))), (7, .e (.one (.mref 2026))), (8, .e (.one (.pure (.val (.int .i64 v2.2.2))))), (46, .e (.one (.own 2027))), (47, .e (.one (.pure (.val (.int .i64 ((v6.1.length : Int))))))), (48, .e (.one (.pure (.val (.int .i64 v8.2.2)))))] [(2, .box [.pure (.sl (p0.fVersions.map Ag)), .pure (.sl (p0.fNow.map Ag)), .pure (.sl (p0.fTarget.map Ag)), .pure (.sl (p0.fTables.map Ai))]), (2025, .dvec 8 [.s, .s, .s, .s, .s, .s, .s, .x 1 []] (v24.map Bc)), (2026, .mp (HH Value.string NJ v16.2.1)), (2027, .vec 3 (v6.1.map Ay))]) (fun j24 h => ?_) (fun v24 h => ?_)
        ·refine Ab (Aa Ae rfl (qm rfl (EE rfl (Ac ?_))))
         refine As rfl (fun c25 => ?_) (fun c25 => ?_)
         ·have h := Aq c25 h
          refine Aa Ae rfl (qm rfl (qm rfl (qm rfl (qm rfl ?_))))
          obtain ⟨v26, a26, b26, h⟩ := An h
          refine Ll (.p rfl) rfl rfl rfl (JY Bc v16.1 _ _) Hs Jc a26 (AK b26) ?_
          refine qh PS rfl ?_
          refine VV (.p rfl) rfl A9 rfl (Aj b26) rfl rfl rfl rfl ?_
          refine qm rfl (Ex AF Df Ko rfl ?_)
          obtain ⟨c27, h⟩ := AO h
          refine DM (f := Ag) AF AF Df K6 Ko c27 rfl ?_
          obtain ⟨v28, a28, b28, h⟩ := An h
          refine Ll (.p rfl) rfl rfl rfl (VG Bc v16.1 _ _ _ _ _) Hs Jc a28 (AK b28) ?_
          refine qh PS rfl ?_
          refine SD rfl rfl rfl rfl (rows2 := (v26.fNext ++ (([v16.2.2] : List Int))).map Ag) (cols2 := []) rfl rfl (Aj b28) (by decide) RQ rfl rfl (DS Bc v16.1 _ ((AD.mk ((Af.mk v28.fM.fBase v28.fM.fNext v28.fM.fHeld)) v28.fFrom ((Ah.mk v28.fBy.fKind v28.fBy.fIndex v28.fBy.fVersion)) (v26.fNext ++ (([v16.2.2] : List Int)))))) ?_
          refine Ac ?_
          exact Aw _ h (sm [(2025, 2013), (2026, 2014), (2027, 2015)] _ _ rfl rfl)
         ·have h := Ap c25 h
          refine Au ?_
          exact Aw _ h (sm [(2025, 2013), (2026, 2014), (2027, 2015)] _ _ rfl rfl)
        ·refine Ab (Aa Ae rfl (qm rfl ?_))
         refine QJ (.p rfl) rfl rfl (JY Bc v24 _ _) Hs ?_
         refine FP rfl (Ac ?_)
         refine As rfl (fun c29 => ?_) (fun c29 => ?_)
         ·have h := Aq c29 h
          refine Ab (Aa Ae rfl (qa rfl (qa rfl (Ac ?_))))
          obtain rfl := sj h
          refine Al ((MO 4 _ rfl).trans (sm [] [(4, .e (.one (.pure (.sl ((([] : List AD)).map Bc))))), (5, .e (.one (.pure (.val (.int .i64 3)))))] [] rfl rfl)) (AA ?_)
          exact ⟨⟨[_, _], ⟨.tmp _ _ rfl, ⟨.tmp _ _ rfl, trivial⟩⟩, rfl⟩, trivial⟩
         ·have h := Ap c29 h
          refine Au (Aa Ae rfl (Bo rfl (qm rfl (Ac ?_))))
          exact Aw _ h (sm [(2005, 2025), (2006, 2026), (2007, 2027)] _ _ rfl rfl)
     ·have h := Ap c10 h
      refine A5 ?_
      exact Aw _ h (sm [(2008, 2005), (2009, 2006)] _ _ rfl rfl)
    ·refine Al hs (Aa Ae rfl (qm rfl (Bo rfl (qa rfl (Ac ?_)))))
     exact Aw _ h (sm [(2001, 2008), (2002, 2009)] _ _ rfl rfl)
  ·have h := Ap c4 h
   refine A5 ?_
   exact Aw _ h (sm [(2003, 2001)] _ _ rfl rfl)
 ·refine Al hs (Ab (Aa Ae rfl (qm rfl (qa rfl (qa rfl (Ac ?_))))))
  obtain rfl := sj h
  refine Al ((RN 2003 _ _ _ rfl rfl).trans (sm [] [(4, .e (.one (.pure (.sl (v3.map Bc))))), (5, .e (.one (.pure (.val (.int .i64 0)))))] [] rfl rfl)) (AA ?_)
  exact ⟨⟨[_, _], ⟨.tmp _ _ rfl, ⟨.tmp _ _ rfl, trivial⟩⟩, rfl⟩, trivial⟩
set_option maxRecDepth 10000 in
theorem I0 (N : Nat) (p0 : List Int) (p1 : List Int) (r : Bool) (h : Do N p0 p1 = some r) : AB Try.prog 65 [.e (.one (.pure (.sl (p0.map Ag)))), .e (.one (.pure (.sl (p1.map Ag))))] [] (.e (.one (.pure (.val (.bool r))))) := by
 unfold Do at h
 refine Ao (n := 26) (rs := [.tmp 4]) Try.func65 rfl rfl rfl (BE rfl) (BE rfl) rfl fun w0 S0 => ?_
 refine Ab (Aa Ae rfl (qa rfl (Ac (Ab (Ab (Aa Ae rfl (qm rfl (AT AF rfl (qm rfl (AT AF rfl (Cn rfl (Ac ?_))))))))))))
 refine As rfl (fun c1 => ?_) (fun c1 => ?_)
 ·have h := Aq c1 h
  refine Ab (Aa Ae rfl (qa rfl (Ac ?_)))
  obtain rfl := sj h
  refine Al (sm [] [(4, .e (.one (.pure (.val (.bool false)))))] [] rfl rfl) (AA ?_)
  exact ⟨⟨[_], ⟨.tmp _ _ rfl, trivial⟩, rfl⟩, trivial⟩
 ·have h := Ap c1 h
  refine Au (Ab (Ab (Aa Ae rfl (qm rfl (AT AF rfl (qm rfl (Ac ?_)))))))
  refine AS (L := BZ N p0 p1) h (fun v2 => mk [(0, .e (.one (.pure (.sl (p0.map Ag))))), (1, .e (.one (.pure (.sl (p1.map Ag))))), (12, .e (.one (.pure (.val (.int .i64 ((p0.length : Int))))))), (13, .e (.one (.pure (.val (.int .i64 v2)))))] []) (fun v3 => mk [] []) (fun _ _ => rfl) (sm [] _ _ rfl rfl) (fun j2 n2 v2 h => ?_) (fun v3 s h hs => ?_)
  ·unfold BZ at h
   refine Ab (Aa Ae rfl (A8 rfl (Ac (Ab ?_))))
   refine As rfl (fun c4 => ?_) (fun c4 => ?_)
   ·have h := Aq c4 h
    refine Au (Ab (AV (Ab (Aa Ae rfl (qm rfl (qa rfl (Ac (Ab (Aa Ae rfl (qm rfl (qm rfl ?_)))))))))))
    obtain ⟨v5, a5, b5, h⟩ := An h
    refine qi AF Df a5 (Aj b5) rfl (qk Cb rfl (qm rfl (qm rfl ?_)))
    obtain ⟨v6, a6, b6, h⟩ := An h
    refine qi AF Df a6 (Aj b6) rfl (qk Cb rfl (Cn rfl (AY (by kernel_rfl) ?_)))
    refine As rfl (fun c7 => ?_) (fun c7 => ?_)
    ·have h := Aq c7 h
     refine Ab (Aa Ae rfl (qa rfl (Ac ?_)))
     obtain rfl := sj h
     refine Al (sm [] [(4, .e (.one (.pure (.val (.bool false)))))] [] rfl rfl) (AA ?_)
     exact ⟨⟨[_], ⟨.tmp _ _ rfl, trivial⟩, rfl⟩, trivial⟩
    ·have h := Ap c7 h
     refine Au (Aa Ae rfl (Bo rfl (qm rfl (Ac ?_))))
     exact Aw _ h (sm [] _ _ rfl rfl)
   ·have h := Ap c4 h
    refine A5 ?_
    exact Aw _ h (sm [] _ _ rfl rfl)
  ·refine Al hs (Ab (Aa Ae rfl (qa rfl (Ac ?_))))
   obtain rfl := sj h
   refine Al (sm [] [(4, .e (.one (.pure (.val (.bool true)))))] [] rfl rfl) (AA ?_)
   exact ⟨⟨[_], ⟨.tmp _ _ rfl, trivial⟩, rfl⟩, trivial⟩
set_option maxRecDepth 10000 in
theorem HV (N : Nat) (p0 : List Int) (p1 : Int → Option Bool) (r : Int) (h : Dy N p0 p1 = some r) : AB Try.prog 92 [.e (.one (.pure (.sl (p0.map Ag)))), .e (.one (.clo (Io (Mm false Ag) tB p1)))] [] (.e (.one (.pure (.val (.int .i64 r))))) := by
 unfold Dy at h
 refine Ao (n := 19) (rs := [.tmp 4]) Try.func92 rfl rfl rfl (BE rfl) (BE rfl) rfl fun w0 S0 => ?_
 refine Ab (Aa Ae rfl (qa rfl (Ac (Ab (Ab (Aa Ae rfl (qm rfl (AT AF rfl (qm rfl (Ac ?_))))))))))
 refine AS (L := Bg N p0 p1) h (fun v1 => mk [(0, .e (.one (.pure (.sl (p0.map Ag))))), (1, .e (.one (.clo (Io (Mm false Ag) tB p1)))), (7, .e (.one (.pure (.val (.int .i64 ((p0.length : Int))))))), (8, .e (.one (.pure (.val (.int .i64 v1)))))] []) (fun v2 => mk [] []) (fun _ _ => rfl) (sm [] _ _ rfl rfl) (fun j1 n1 v1 h => ?_) (fun v2 s h hs => ?_)
 ·unfold Bg at h
  refine Ab (Aa Ae rfl (A8 rfl (Ac (Ab ?_))))
  refine As rfl (fun c3 => ?_) (fun c3 => ?_)
  ·have h := Aq c3 h
   refine Au (Ab (AV (Ab (Aa Ae rfl (qm rfl (qa rfl (Ac (Ab (Aa Ae rfl (qm rfl (qm rfl (qm rfl ?_))))))))))))
   obtain ⟨v4, a4, b4, h⟩ := An h
   refine qi AF Df a4 (Aj b4) rfl (qk Cb rfl ?_)
   obtain ⟨v5, a5, h⟩ := bind_some h
   refine KZ (ds0 := [_]) (ar := (Mm false Ag) v4) (.p rfl) rfl rfl ⟨rfl, trivial⟩ rfl rfl rfl (KO (Li _ _ OQ) a5) ?_
   refine Ac ?_
   refine As rfl (fun c6 => ?_) (fun c6 => ?_)
   ·have h := Aq c6 h
    refine Ab (Aa Ae rfl (qm rfl (qa rfl (Ac ?_))))
    obtain rfl := sj h
    refine Al (sm [] [(4, .e (.one (.pure (.val (.int .i64 v1)))))] [] rfl rfl) (AA ?_)
    exact ⟨⟨[_], ⟨.tmp _ _ rfl, trivial⟩, rfl⟩, trivial⟩
   ·have h := Ap c6 h
    refine Au (Aa Ae rfl (Bo rfl (qm rfl (Ac ?_))))
    exact Aw _ h (sm [] _ _ rfl rfl)
  ·have h := Ap c3 h
   refine A5 ?_
   exact Aw _ h (sm [] _ _ rfl rfl)
 ·refine Al hs (Ab (Aa Ae rfl (qa rfl (Ac ?_))))
  obtain rfl := sj h
  refine Al (sm [] [(4, .e (.one (.pure (.val (.int .i64 ((-1)))))))] [] rfl rfl) (AA ?_)
  exact ⟨⟨[_], ⟨.tmp _ _ rfl, trivial⟩, rfl⟩, trivial⟩
set_option maxRecDepth 10000 in
theorem G6 (N : Nat) (p0 : List Int) (p1 : Int → Option Bool) (r : Bool) (h : Cq N p0 p1 = some r) : AB Try.prog 66 [.e (.one (.pure (.sl (p0.map Ag)))), .e (.one (.clo (Io (Mm false Ag) tB p1)))] [] (.e (.one (.pure (.val (.bool r))))) := by
 unfold Cq at h
 refine Ao (n := 9) (rs := [.tmp 4]) Try.func66 rfl rfl rfl (BE rfl) (BE rfl) rfl fun w0 S0 => ?_
 refine Ab (Aa Ae rfl (qa rfl (Ac (Ab (Aa Ae rfl (qm rfl (qm rfl ?_)))))))
 obtain ⟨v1, a1, h⟩ := bind_some h
 refine AJ [] (HV N p0 p1 v1 a1) XD rfl (EE rfl (qa rfl (Ac ?_)))
 obtain rfl := sj h
 refine Al (sm [] [(4, .e (.one (.pure (.val (.bool ((decide (0 ≤ v1))))))))] [] rfl rfl) (AA ?_)
 exact ⟨⟨[_], ⟨.tmp _ _ rfl, trivial⟩, rfl⟩, trivial⟩
set_option maxRecDepth 10000 in
theorem Om (N : Nat) (p0 : Int) (r : Bool) (h : F1 N p0 = some r) : AB Try.prog 79 [.e (.one (.pure (.val (.int .i64 p0))))] [] (.e (.one (.pure (.val (.bool r))))) := by
 unfold F1 at h
 refine Ao (n := 5) (rs := [.tmp 2]) Try.func79 rfl rfl rfl (BE rfl) (BE rfl) rfl fun w0 S0 => ?_
 refine Ab (Aa Ae rfl (qa rfl (Ac (Ab (Aa Ae rfl (qm rfl (EE rfl (qa rfl (Ac ?_)))))))))
 obtain rfl := sj h
 refine Al (sm [] [(2, .e (.one (.pure (.val (.bool ((decide (0 ≤ p0))))))))] [] rfl rfl) (AA ?_)
 exact ⟨⟨[_], ⟨.tmp _ _ rfl, trivial⟩, rfl⟩, trivial⟩
set_option maxRecDepth 10000 in
theorem MB (N : Nat) (p0 : Ad) (p1 : Af) (r : Bool) (h : Gq N p0 p1 = some r) : AB Try.prog 40 [.e (.agg [.pure (.sl (p0.fVersions.map Ag)), .pure (.sl (p0.fNow.map Ag)), .pure (.sl (p0.fTarget.map Ag)), .pure (.sl (p0.fTables.map Ai))]), .e (.agg [.pure (.sl (p1.fBase.map Ag)), .pure (.sl (p1.fNext.map Ag)), .pure (.sl (p1.fHeld.map A6))])] [] (.e (.one (.pure (.val (.bool r))))) := by
 unfold Gq at h
 refine Ao (n := 22) (rs := [.tmp 4]) Try.func40 rfl rfl rfl (BE rfl) (BE rfl) rfl fun w0 S0 => ?_
 refine Ab (Aa Ae rfl (qb rfl (qb rfl (qa rfl (Ac ?_)))))
 refine AW h (fun v1 => mk [(4, .e (.one (.pure (.val (.bool v1)))))] []) (fun j1 h => ?_) (fun v1 h => ?_)
 ·refine Aa Ae rfl (qL Dl CV rfl (qL Be AQ rfl ?_))
  obtain ⟨v2, a2, h⟩ := bind_some h
  refine AJ [] (Ie N p0 p1 v2 a2) Ur rfl (BY rfl (qm rfl ?_))
  refine AI (t := 9) rfl (fun c3 => ?_) (fun c3 => ?_)
  ·have h := Aq c3 h
   refine qf CA rfl (ql A9 rfl (qf Hx rfl (ql A9 rfl ?_)))
   obtain ⟨v4, a4, h⟩ := bind_some h
   refine AJ [] (I0 N p1.fBase p0.fTarget v4 a4) XY rfl (qp rfl (qm rfl ?_))
   refine AI (t := 16) rfl (fun c5 => ?_) (fun c5 => ?_)
   ·have h := Aq c5 h
    refine qf By rfl (ql A9 rfl ?_)
    obtain ⟨v6, a6, h⟩ := bind_some h
    refine AJ [] (AB.weak (ds' := [.e (.one (.pure (.sl (p1.fNext.map Ag)))), .e (.one (.fnc 79))]) (G6 N p1.fNext ((fun (x : Int) => F1 N x)) v6 a6) ⟨(fun _ _ _ hh => hh), (fun _ _ _ hh => Ut Yf (fun ar t ht => by obtain ⟨x, r, rfl, hq, rfl⟩ := J4 ht; exact Om N x r hq) hh), trivial⟩) XB rfl ?_
    refine CE rfl (qp rfl (qa rfl (Ac ?_)))
    exact Aw _ h (sm [] _ _ rfl rfl)
   ·have h := Ap c5 h
    refine qn rfl (qn rfl (qn rfl (qn rfl (qp rfl (qa rfl (Ac ?_))))))
    exact Aw _ h (sm [] _ _ rfl rfl)
  ·have h := Ap c3 h
   refine qn rfl (qn rfl (qn rfl (qn rfl (qn rfl (qp rfl (qm rfl (qn rfl (qn rfl (qn rfl (qn rfl (qp rfl (qa rfl (Ac ?_)))))))))))))
   exact Aw _ h (sm [] _ _ rfl rfl)
 ·obtain rfl := sj h
  refine Al (sm [] [(4, .e (.one (.pure (.val (.bool v1)))))] [] rfl rfl) (AA ?_)
  exact ⟨⟨[_], ⟨.tmp _ _ rfl, trivial⟩, rfl⟩, trivial⟩
set_option maxRecDepth 10000 in
theorem NF (N : Nat) (p0 : AD) (p1 : List Int) (p2 : List Int) (p3 : List Int) (p4 : List AG) (r : Bool) (h : D9 N p0 p1 p2 p3 p4 = some r) : AB Try.prog 57 [.e (.agg [.pure (.sl (p0.fM.fBase.map Ag)), .pure (.sl (p0.fM.fNext.map Ag)), .pure (.sl (p0.fM.fHeld.map A6)), .pure (.val (.int .i64 p0.fFrom)), .pure (.val (.int .i64 p0.fBy.fKind)), .pure (.val (.int .i64 p0.fBy.fIndex)), .pure (.val (.int .i64 p0.fBy.fVersion)), .pure (.sl (p0.fNext.map Ag))]), .e (.one (.rop [.sl (p1.map Ag), .sl (p2.map Ag), .sl (p3.map Ag), .sl (p4.map Ai)]))] [] (.e (.one (.pure (.val (.bool r))))) := by
 unfold D9 at h
 refine Ao (n := 8) (rs := [.tmp 3]) Try.func57 rfl rfl rfl (BE rfl) (BE rfl) rfl fun w0 S0 => ?_
 refine Ab (Aa Ae rfl (qb rfl (qa rfl (Ac (Ab (Aa Ae rfl (qK Dl CV rfl (qf MT rfl (qL Be AQ rfl ?_)))))))))
 obtain ⟨v1, a1, h⟩ := bind_some h
 refine AJ [] (MB N ((Ad.mk p1 p2 p3 p4)) ((Af.mk p0.fM.fBase p0.fM.fNext p0.fM.fHeld)) v1 a1) Wx rfl (qa rfl (Ac ?_))
 obtain rfl := sj h
 refine Al (sm [] [(3, .e (.one (.pure (.val (.bool v1)))))] [] rfl rfl) (AA ?_)
 exact ⟨⟨[_], ⟨.tmp _ _ rfl, trivial⟩, rfl⟩, trivial⟩
set_option maxRecDepth 10000 in
theorem Fz (N : Nat) (p0 : List AD) (p1 : AD → Option Bool) (r : Int) (h : B5 N p0 p1 = some r) : AB Try.prog 56 [.e (.one (.pure (.sl (p0.map Bc)))), .e (.one (.clo (Io (Mm true Bc) tB p1)))] [] (.e (.one (.pure (.val (.int .i64 r))))) := by
 unfold B5 at h
 refine Ao (n := 19) (rs := [.tmp 4]) Try.func56 rfl rfl rfl (BE rfl) (BE rfl) rfl fun w0 S0 => ?_
 refine Ab (Aa Ae rfl (qa rfl (Ac (Ab (Ab (Aa Ae rfl (qm rfl (AT Hs rfl (qm rfl (Ac ?_))))))))))
 refine AS (L := AU N p0 p1) h (fun v1 => mk [(0, .e (.one (.pure (.sl (p0.map Bc))))), (1, .e (.one (.clo (Io (Mm true Bc) tB p1)))), (7, .e (.one (.pure (.val (.int .i64 ((p0.length : Int))))))), (8, .e (.one (.pure (.val (.int .i64 v1)))))] []) (fun v2 => mk [] []) (fun _ _ => rfl) (sm [] _ _ rfl rfl) (fun j1 n1 v1 h => ?_) (fun v2 s h hs => ?_)
 ·unfold AU at h
  refine Ab (Aa Ae rfl (A8 rfl (Ac (Ab ?_))))
  refine As rfl (fun c3 => ?_) (fun c3 => ?_)
  ·have h := Aq c3 h
   refine Au (Ab (AV (Ab (Aa Ae rfl (qm rfl (qa rfl (Ac (Ab (Aa Ae rfl (qm rfl (qm rfl (qm rfl ?_))))))))))))
   obtain ⟨v4, a4, b4, h⟩ := An h
   refine qi Hs Jc a4 (Aj b4) rfl (qK Xm Jc rfl ?_)
   obtain ⟨v5, a5, h⟩ := bind_some h
   refine KZ (ds0 := [_]) (ar := (Mm true Bc) ((AD.mk ((Af.mk v4.fM.fBase v4.fM.fNext v4.fM.fHeld)) v4.fFrom ((Ah.mk v4.fBy.fKind v4.fBy.fIndex v4.fBy.fVersion)) v4.fNext))) (.p rfl) rfl rfl ⟨rfl, trivial⟩ rfl rfl rfl (KO (Li _ _ Ps) a5) ?_
   refine Ac ?_
   refine As rfl (fun c6 => ?_) (fun c6 => ?_)
   ·have h := Aq c6 h
    refine Ab (Aa Ae rfl (qm rfl (qa rfl (Ac ?_))))
    obtain rfl := sj h
    refine Al (sm [] [(4, .e (.one (.pure (.val (.int .i64 v1)))))] [] rfl rfl) (AA ?_)
    exact ⟨⟨[_], ⟨.tmp _ _ rfl, trivial⟩, rfl⟩, trivial⟩
   ·have h := Ap c6 h
    refine Au (Aa Ae rfl (Bo rfl (qm rfl (Ac ?_))))
    exact Aw _ h (sm [] _ _ rfl rfl)
  ·have h := Ap c3 h
   refine A5 ?_
   exact Aw _ h (sm [] _ _ rfl rfl)
 ·refine Al hs (Ab (Aa Ae rfl (qa rfl (Ac ?_))))
  obtain rfl := sj h
  refine Al (sm [] [(4, .e (.one (.pure (.val (.int .i64 ((-1)))))))] [] rfl rfl) (AA ?_)
  exact ⟨⟨[_], ⟨.tmp _ _ rfl, trivial⟩, rfl⟩, trivial⟩
set_option maxRecDepth 10000 in
theorem Gi (N : Nat) (p0 : List Ah) (r : (List Ah)) (h : Bs N p0 = some r) : FG Try.prog 88 [.e (.one (.own 90000))] [(.vec 3 (p0.map Ay), .vec 3 (r.map Ay))] [] (.tup []) := by
 unfold Bs at h
 refine GC (n := 28) (rs := []) Try.func88 rfl rfl rfl (BE rfl) (BE rfl) rfl rfl (BE rfl) rfl (BE rfl) fun w0 S0 GL => W0 ?_
 refine Al (sm [] [(0, .e (.one (.own 90000)))] [(90000, .vec 3 (p0.map Ay))] rfl rfl) (Ab (Aa Ae rfl (qm rfl (Fc CI rfl (PL rfl (qa rfl (qa rfl (Ac ?_))))))))
 refine AS (L := Bh N) h (fun v1 => mk [(0, .e (.one (.own 90000))), (2, .e (.one (.pure (.val (.int .i64 v1.2.1))))), (3, .e (.one (.pure (.val (.int .i64 v1.2.2)))))] [(90000, .vec 3 (v1.1.map Ay))]) (fun v2 => mk [] [(90000, .vec 3 (v2.map Ay))]) (fun _ _ => rfl) (sm [] _ _ rfl rfl) (fun j1 n1 v1 h => ?_) (fun v2 s h hs => ?_)
 ·unfold Bh at h
  refine Ab (Ab (Aa Ae rfl (qm rfl (qm rfl (A8 rfl (Ac ?_))))))
  refine As rfl (fun c3 => ?_) (fun c3 => ?_)
  ·have h := Aq c3 h
   refine Au (Ab (AV (Aa Ae rfl (qm rfl (qm rfl (qm rfl (qm rfl (qm rfl (qm rfl ?_)))))))))
   obtain ⟨v4, a4, b4, h⟩ := An h
   refine qI CI Dk a4 (Aj b4) rfl (qJ GS Dk (Aj b4) rfl (qm rfl (qm rfl ?_)))
   obtain ⟨v5, a5, b5, h⟩ := An h
   refine qI CI Dk a5 (Aj b5) rfl (qJ GS Dk (Aj b5) rfl ?_)
   obtain ⟨v6, a6, b6, h⟩ := An h
   refine qI CI Dk a6 (Aj b6) rfl ?_
   refine Ee rfl rfl rfl rfl (Aj b6) rfl Dk rfl (BE rfl) (DS Ay v1.1 _ v4) ?_
   obtain ⟨v7, a7, b7, h⟩ := An h
   refine qI CI Dk a7 (Aj b7) rfl ?_
   refine Ee rfl rfl rfl rfl (Aj b7) rfl Dk rfl (BE rfl) (DS Ay (v1.1.set ((v1.2.1).toNat) v4) _ v5) ?_
   refine AY (by kernel_rfl) (Aa Ae rfl (qm rfl (Bo rfl (qm rfl (PL rfl (qa rfl (qa rfl (Ac ?_))))))))
   exact Aw _ h (sm [] _ _ rfl rfl)
  ·have h := Ap c3 h
   refine A5 ?_
   exact Aw _ h (sm [] _ _ rfl rfl)
 ·obtain rfl := sj h
  refine ⟨_, hs.trans (sm [] [] [(90000, .vec 3 (v2.map Ay))] rfl rfl), ?_⟩
  exact ⟨⟨[], trivial, rfl⟩, ⟨rfl, trivial⟩, trivial⟩
set_option maxRecDepth 10000 in
theorem Q3 (N : Nat) (p0 : List AD) (p1 : Int) (r : (List Ah)) (h : Ih N p0 p1 = some r) : AB Try.prog 58 [.e (.one (.pure (.sl (p0.map Bc)))), .e (.one (.pure (.val (.int .i64 p1))))] [(3, r.map Ay)] (.e (.one (.own 0))) := by
 unfold Ih at h
 refine Ao (n := 28) (rs := [.tmp 4]) Try.func58 rfl rfl rfl (BE rfl) (BE rfl) rfl fun w0 S0 => ?_
 refine Ab (Aa Ae rfl (qa rfl (Ac (Ab (Aa Ae rfl (qa rfl (Ac (Ab ?_))))))))
 refine AS (L := E0 N p0) h (fun v1 => mk [(0, .e (.one (.pure (.sl (p0.map Bc))))), (1, .e (.one (.pure (.val (.int .i64 v1.1))))), (5, .e (.one (.own 2001)))] [(2001, .vec 3 (v1.2.map Ay))]) (fun v2 => mk [(5, .e (.one (.own 2002)))] [(2002, .vec 3 (v2.map Ay))]) (fun _ _ => rfl) ((B8 5 2003 3 rfl rfl rfl).trans (sm [(2001, 2003)] _ _ rfl rfl)) (fun j1 n1 v1 h => ?_) (fun v2 s h hs => ?_)
 ·unfold E0 at h
  refine Ab (Ab (Aa Ae rfl (qm rfl (qm rfl ?_))))
  obtain ⟨v3, a3, b3, h⟩ := An h
  refine qi Hs Jc a3 (Aj b3) rfl (qg P7 rfl (qk Cb rfl (EE rfl (Ac ?_))))
  refine As rfl (fun c4 => ?_) (fun c4 => ?_)
  ·have h := Aq c4 h
   refine Au (Ab (AV (Aa Ae rfl (qm rfl (qm rfl (qm rfl ?_))))))
   obtain ⟨v5, a5, b5, h⟩ := An h
   refine qi Hs Jc a5 (Aj b5) rfl (qg Tm rfl (qK GS Dk rfl (Ex CI Dk He rfl ?_)))
   obtain ⟨c6, h⟩ := AO h
   refine DM (f := Ay) CI CI Dk Pu He c6 rfl (qa rfl (Ac (Aa Ae rfl (qm rfl (qm rfl ?_)))))
   obtain ⟨v7, a7, b7, h⟩ := An h
   refine qi Hs Jc a7 (Aj b7) rfl (qg P7 rfl (qk Cb rfl (qa rfl (Ac ?_))))
   exact Aw _ h (sm [(2001, 24)] _ _ rfl rfl)
  ·have h := Ap c4 h
   refine A5 ?_
   exact Aw _ h (sm [(2002, 2001)] _ _ rfl rfl)
 ·refine Al hs (Ab (Aa Ae rfl (qm rfl ?_)))
  obtain ⟨v8, a8, h⟩ := bind_some h
  refine Mp (ds0 := [_]) [2002] [] [true] (Gi N v2 v8 a8) (.p rfl) X6 rfl ⟨rfl, trivial⟩ rfl rfl (by decide) ⟨rfl, trivial⟩ rfl (Ig rfl) trivial ⟨(fun h => by cases h), trivial⟩ rfl rfl rfl ?_
  refine Ac (Ab (Aa Ae rfl (qm rfl (qa rfl (Ac ?_)))))
  obtain rfl := sj h
  refine Al (sm [(1000, 2002)] [(4, .e (.one (.own 1000)))] [(1000, .vec 3 (v8.map Ay))] rfl rfl) (AA ?_)
  exact ⟨⟨[_], ⟨.tmp _ _ rfl, trivial⟩, rfl⟩, ⟨rfl, trivial⟩⟩
set_option maxRecDepth 10000 in
theorem Py (N : Nat) (p0 : Ad) (p1 : Af) (r : (List Ah) × Int) (h : EP N p0 p1 = some r) : AB Try.prog 27 [.e (.agg [.pure (.sl (p0.fVersions.map Ag)), .pure (.sl (p0.fNow.map Ag)), .pure (.sl (p0.fTarget.map Ag)), .pure (.sl (p0.fTables.map Ai))]), .e (.agg [.pure (.sl (p1.fBase.map Ag)), .pure (.sl (p1.fNext.map Ag)), .pure (.sl (p1.fHeld.map A6))])] [(3, r.1.map Ay)] (.tup [.one (.own 0), .one (.pure (.val (.int .i64 r.2)))]) := by
 unfold EP at h
 refine Ao (n := 38) (rs := [.tmp 4, .tmp 5]) Try.func27 rfl rfl rfl (BE rfl) (BE rfl) rfl fun w0 S0 => ?_
 refine Ab (Aa Ae rfl (qb rfl (qb rfl (qa rfl (qa rfl (Ac (Ab (Aa Ae rfl (qL Dl CV rfl (qL Be AQ rfl ?_))))))))))
 obtain ⟨v1, a1, h⟩ := bind_some h
 refine AJ [] (Lb N p0 p1 v1 a1) Xg rfl (qm rfl (qx rfl (qx rfl (qa rfl (qa rfl (Ac (Ab (Ab (Aa Ae rfl (qm rfl (Cn rfl (Ac ?_))))))))))))
 refine As rfl (fun c2 => ?_) (fun c2 => ?_)
 ·have h := Aq c2 h
  refine Ab (Aa Ae rfl (qm rfl (qa rfl (qa rfl (Ac ?_)))))
  obtain rfl := sj h
  refine Al ((B8 4 2001 3 rfl rfl rfl).trans (sm [(1000, 2001)] [(4, .e (.one (.own 1000))), (5, .e (.one (.pure (.val (.int .i64 v1.2)))))] [(1000, .vec 3 ((([] : List Ah)).map Ay))] rfl rfl)) (AA ?_)
  exact ⟨⟨[_, _], ⟨.tmp _ _ rfl, ⟨.tmp _ _ rfl, trivial⟩⟩, rfl⟩, ⟨rfl, trivial⟩⟩
 ·have h := Ap c2 h
  refine Au (Ab (Ab (Aa Ae rfl (qm rfl (CE rfl (Ac ?_))))))
  refine As rfl (fun c3 => ?_) (fun c3 => ?_)
  ·have h := Aq c3 h
   refine Ab (Aa Ae rfl (qa rfl (qa rfl (Ac ?_))))
   obtain rfl := sj h
   refine Al ((B8 4 2002 3 rfl rfl rfl).trans (sm [(1000, 2002)] [(4, .e (.one (.own 1000))), (5, .e (.one (.pure (.val (.int .i64 13)))))] [(1000, .vec 3 ((([] : List Ah)).map Ay))] rfl rfl)) (AA ?_)
   exact ⟨⟨[_, _], ⟨.tmp _ _ rfl, ⟨.tmp _ _ rfl, trivial⟩⟩, rfl⟩, ⟨rfl, trivial⟩⟩
  ·have h := Ap c3 h
   refine Au (Ab (Aa Ae rfl (qL Dl CV rfl (qL Be AQ rfl ?_))))
   obtain ⟨v4, a4, h⟩ := bind_some h
   refine AJ [] (Ns N p0 p1 v4 a4) XJ rfl (qm rfl (qx rfl (qx rfl (qa rfl (qa rfl (Ac (Ab (Ab (Aa Ae rfl (qm rfl (Cn rfl (Ac ?_))))))))))))
   refine As rfl (fun c5 => ?_) (fun c5 => ?_)
   ·have h := Aq c5 h
    refine Ab (Aa Ae rfl (qm rfl (qa rfl (qa rfl (Ac ?_)))))
    obtain rfl := sj h
    refine Al ((B8 4 2003 3 rfl rfl rfl).trans (sm [(1000, 2003)] [(4, .e (.one (.own 1000))), (5, .e (.one (.pure (.val (.int .i64 v4.2)))))] [(1000, .vec 3 ((([] : List Ah)).map Ay))] rfl rfl)) (AA ?_)
    exact ⟨⟨[_, _], ⟨.tmp _ _ rfl, ⟨.tmp _ _ rfl, trivial⟩⟩, rfl⟩, ⟨rfl, trivial⟩⟩
   ·have h := Ap c5 h
    refine Au (Ab (Aa Ae rfl (qm rfl (D1 (KP 2 [.sl (p0.fVersions.map Ag), .sl (p0.fNow.map Ag), .sl (p0.fTarget.map Ag), .sl (p0.fTables.map Ai)] rfl rfl) ?_))))
    refine KC (capD := [_]) (Io (Mm true Bc) tB ((fun (x : AD) => D9 N x p0.fVersions p0.fNow p0.fTarget p0.fTables))) (.p rfl) XC rfl ⟨rfl, trivial⟩ rfl (fun ar t ht => by obtain ⟨x, r, rfl, hq, rfl⟩ := J4 ht; exact NF N x p0.fVersions p0.fNow p0.fTarget p0.fTables r hq) ?_
    obtain ⟨v6, a6, h⟩ := bind_some h
    refine AJ [] (Fz N v4.1 ((fun (x : AD) => D9 N x p0.fVersions p0.fNow p0.fTarget p0.fTables)) v6 a6) Yi rfl (qa rfl (Ac (Ab (Ab (Aa Ae rfl (qm rfl (A8 rfl (Ac ?_))))))))
    refine As rfl (fun c7 => ?_) (fun c7 => ?_)
    ·have h := Aq c7 h
     refine Ab (Aa Ae rfl (qa rfl (qa rfl (Ac ?_))))
     obtain rfl := sj h
     refine Al ((B8 4 2004 3 rfl rfl rfl).trans (sm [(1000, 2004)] [(4, .e (.one (.own 1000))), (5, .e (.one (.pure (.val (.int .i64 14)))))] [(1000, .vec 3 ((([] : List Ah)).map Ay))] rfl rfl)) (AA ?_)
     exact ⟨⟨[_, _], ⟨.tmp _ _ rfl, ⟨.tmp _ _ rfl, trivial⟩⟩, rfl⟩, ⟨rfl, trivial⟩⟩
    ·have h := Ap c7 h
     refine Au (Ab (Aa Ae rfl (qm rfl (qm rfl ?_))))
     obtain ⟨v8, a8, h⟩ := bind_some h
     refine AJ [2005] (Q3 N v4.1 v6 v8 a8) XZ rfl (qa rfl (qa rfl (Ac ?_)))
     obtain rfl := sj h
     refine Al (sm [(1000, 2005)] [(4, .e (.one (.own 1000))), (5, .e (.one (.pure (.val (.int .i64 0)))))] [(1000, .vec 3 (v8.map Ay))] rfl rfl) (AA ?_)
     exact ⟨⟨[_, _], ⟨.tmp _ _ rfl, ⟨.tmp _ _ rfl, trivial⟩⟩, rfl⟩, ⟨rfl, trivial⟩⟩
set_option maxRecDepth 10000 in
theorem Ia (N : Nat) (p0 : Ad) (r : (List Ah) × Int) (h : EN N p0 = some r) : AB Try.prog 13 [.e (.agg [.pure (.sl (p0.fVersions.map Ag)), .pure (.sl (p0.fNow.map Ag)), .pure (.sl (p0.fTarget.map Ag)), .pure (.sl (p0.fTables.map Ai))])] [(3, r.1.map Ay)] (.tup [.one (.own 0), .one (.pure (.val (.int .i64 r.2)))]) := by
 unfold EN at h
 refine Ao (n := 19) (rs := [.tmp 2, .tmp 3]) Try.func13 rfl rfl rfl (BE rfl) (BE rfl) rfl fun w0 S0 => ?_
 refine Ab (Aa Ae rfl (qb rfl (qa rfl (qa rfl (Ac (Ab (Aa Ae rfl (qL Dl CV rfl ?_))))))))
 obtain ⟨v1, a1, h⟩ := bind_some h
 refine AJ [2001, 2002, 2003] (L9 N p0 v1 a1) Wp rfl (qm rfl (qx rfl (qx rfl (qz CF rfl (qs AQ rfl (qa rfl (Ac (Ab (Ab (Aa Ae rfl (qm rfl (Cn rfl (Ac ?_)))))))))))))
 refine As rfl (fun c2 => ?_) (fun c2 => ?_)
 ·have h := Aq c2 h
  refine Ab (Aa Ae rfl (qm rfl (qa rfl (qa rfl (Ac ?_)))))
  obtain rfl := sj h
  refine Al ((B8 2 2004 3 rfl rfl rfl).trans (sm [(1000, 2004)] [(2, .e (.one (.own 1000))), (3, .e (.one (.pure (.val (.int .i64 v1.2)))))] [(1000, .vec 3 ((([] : List Ah)).map Ay))] rfl rfl)) (AA ?_)
  exact ⟨⟨[_, _], ⟨.tmp _ _ rfl, ⟨.tmp _ _ rfl, trivial⟩⟩, rfl⟩, ⟨rfl, trivial⟩⟩
 ·have h := Ap c2 h
  refine Au (Ab (Aa Ae rfl (qL Dl CV rfl (qL Be AQ rfl ?_))))
  obtain ⟨v3, a3, h⟩ := bind_some h
  refine EB [2005] [2001, 2002, 2003] (Py N p0 v1.1 v3 a3) XG (GO (fun _ => rfl) Db) rfl (qx rfl (qx rfl (qa rfl (qa rfl (Ac ?_)))))
  obtain rfl := sj h
  refine Al (sm [(1000, 2005)] [(2, .e (.one (.own 1000))), (3, .e (.one (.pure (.val (.int .i64 v3.2)))))] [(1000, .vec 3 (v3.1.map Ay))] rfl rfl) (AA ?_)
  exact ⟨⟨[_, _], ⟨.tmp _ _ rfl, ⟨.tmp _ _ rfl, trivial⟩⟩, rfl⟩, ⟨rfl, trivial⟩⟩
set_option maxRecDepth 10000 in
theorem Jq (N : Nat) (p0 : Ad) (p1 : List Ah) (r : Int × Af × Ak × Int) (h : Ga N p0 p1 = some r) : AB Try.prog 19 [.e (.agg [.pure (.sl (p0.fVersions.map Ag)), .pure (.sl (p0.fNow.map Ag)), .pure (.sl (p0.fTarget.map Ag)), .pure (.sl (p0.fTables.map Ai))]), .e (.one (.pure (.sl (p1.map Ay))))] [] (.tup [.one (.pure (.val (.int .i64 r.1))), .agg [.pure (.sl (r.2.1.fBase.map Ag)), .pure (.sl (r.2.1.fNext.map Ag)), .pure (.sl (r.2.1.fHeld.map A6))], .agg [.pure (.val (.int .i64 r.2.2.1.fTable)), .pure (.val (.int .i64 r.2.2.1.fWriter)), .pure (.val (.int .i64 r.2.2.1.fReader))], .one (.pure (.val (.int .i64 r.2.2.2)))]) := by
 unfold Ga at h
 refine Ao (n := 89) (rs := [.tmp 4, .cell 5 43, .cell 6 45, .tmp 7]) Try.func19 rfl rfl rfl (BE rfl) (BE rfl) rfl fun w0 S0 => ?_
 refine Ab (Aa Ae rfl (qb rfl (qa rfl (qz CF rfl (qz Fs rfl (qa rfl (Ac (Ab (Aa Ae rfl (qL Dl CV rfl ?_))))))))))
 obtain ⟨v1, a1, h⟩ := bind_some h
 refine AJ [2001, 2002, 2003] (L9 N p0 v1 a1) Wp rfl (qm rfl (qx rfl (qx rfl (qz CF rfl (qs AQ rfl (qa rfl (Ac (Ab (Ab (Aa Ae rfl (qm rfl (Cn rfl (Ac ?_)))))))))))))
 refine As rfl (fun c2 => ?_) (fun c2 => ?_)
 ·have h := Aq c2 h
  refine Ab (Aa Ae rfl (AZ CF FN rfl (AZ Fs JI rfl (qm rfl (qa rfl (qs AQ rfl (qs DN rfl (qa rfl (Ac ?_)))))))))
  obtain rfl := sj h
  refine Al ((EI 5 _ rfl).trans (sm [] [(4, .e (.one (.pure (.val (.int .i64 0))))), (5, .e (.one (.ptr 5 0))), (6, .e (.one (.ptr 6 0))), (7, .e (.one (.pure (.val (.int .i64 v1.2)))))] [(5, .box [.pure (.sl ((([] : List Int)).map Ag)), .pure (.sl ((([] : List Int)).map Ag)), .pure (.sl ((([] : List Int)).map A6))]), (6, .box [.pure (.val (.int .i64 0)), .pure (.val (.int .i64 0)), .pure (.val (.int .i64 0))])] rfl rfl)) (AA ?_)
  exact ⟨⟨[_, _, _, _], ⟨.tmp _ _ rfl, ⟨.cellN _ _ _ _ _ _ _ rfl rfl Be AQ rfl rfl (FT rfl), ⟨.cellN _ _ _ _ _ _ _ rfl rfl H0 DN rfl rfl (FT rfl), ⟨.tmp _ _ rfl, trivial⟩⟩⟩⟩, rfl⟩, trivial⟩
 ·have h := Ap c2 h
  refine Au (Ab (Ab (Aa Ae rfl (qL Dl CV rfl (qL Be AQ rfl (D1 (Bq 2001 _ _ rfl rfl) (D1 (Bq 2002 _ _ rfl rfl) (D1 (Bq 2003 _ _ rfl rfl) ?_))))))))
  obtain ⟨v3, a3, h⟩ := bind_some h
  refine AJ [] (JQ N p0 v1.1 v3 a3) V4 rfl (qm rfl (qx rfl (qx rfl (qx rfl (qz CF rfl (qz Fs rfl (qs AQ rfl (qs DN rfl (qa rfl (Ac (Ab (Aa Ae rfl (qm rfl (BY rfl (Ac ?_)))))))))))))))
  refine As rfl (fun c4 => ?_) (fun c4 => ?_)
  ·have h := Aq c4 h
   refine Ab (Aa Ae rfl (qL Be AQ rfl (qL H0 DN rfl (qa rfl (qs AQ rfl (qs DN rfl (qa rfl (AY (by kernel_rfl) ?_))))))))
   obtain rfl := sj h
   refine Al (sm [] [(4, .e (.one (.pure (.val (.int .i64 ((-1))))))), (5, .e (.one (.ptr 5 0))), (6, .e (.one (.ptr 6 0))), (7, .e (.one (.pure (.val (.int .i64 0)))))] [(5, .box [.pure (.sl (v3.1.fBase.map Ag)), .pure (.sl (v3.1.fNext.map Ag)), .pure (.sl (v3.1.fHeld.map A6))]), (6, .box [.pure (.val (.int .i64 v3.2.1.fTable)), .pure (.val (.int .i64 v3.2.1.fWriter)), .pure (.val (.int .i64 v3.2.1.fReader))])] rfl rfl) (AA ?_)
   exact ⟨⟨[_, _, _, _], ⟨.tmp _ _ rfl, ⟨.cellN _ _ _ _ _ _ _ rfl rfl Be AQ rfl rfl (FT rfl), ⟨.cellN _ _ _ _ _ _ _ rfl rfl H0 DN rfl rfl (FT rfl), ⟨.tmp _ _ rfl, trivial⟩⟩⟩⟩, rfl⟩, trivial⟩
  ·have h := Ap c4 h
   refine Au (Ab (Ab (Aa Ae rfl (qm rfl (AT CI rfl (qm rfl (Ac ?_)))))))
   refine AS (L := Fe N p0 p1) h (fun v5 => mk [(1, .e (.one (.pure (.sl (p1.map Ay))))), (2, .e (.one (.ptr 2 0))), (5, .e (.one (.ptr 5 0))), (6, .e (.one (.ptr 6 0))), (8, .e (.one (.ptr 8 0))), (41, .e (.one (.pure (.sl (p1.map Ay))))), (42, .e (.one (.pure (.val (.int .i64 ((p1.length : Int))))))), (43, .e (.one (.pure (.val (.int .i64 v5.2)))))] [(2, .box [.pure (.sl (p0.fVersions.map Ag)), .pure (.sl (p0.fNow.map Ag)), .pure (.sl (p0.fTarget.map Ag)), .pure (.sl (p0.fTables.map Ai))]), (5, .box [.pure (.nil0), .pure (.nil0), .pure (.nil0)]), (6, .box [.pure (.val (.int .i64 0)), .pure (.val (.int .i64 0)), .pure (.val (.int .i64 0))]), (8, .box [.pure (.sl (v5.1.fBase.map Ag)), .pure (.sl (v5.1.fNext.map Ag)), .pure (.sl (v5.1.fHeld.map A6))])]) (fun v6 => mk [(1, .e (.one (.pure (.sl (p1.map Ay))))), (2, .e (.one (.ptr 2 0))), (5, .e (.one (.ptr 5 0))), (6, .e (.one (.ptr 6 0))), (8, .e (.one (.ptr 8 0)))] [(2, .box [.pure (.sl (p0.fVersions.map Ag)), .pure (.sl (p0.fNow.map Ag)), .pure (.sl (p0.fTarget.map Ag)), .pure (.sl (p0.fTables.map Ai))]), (5, .box [.pure (.nil0), .pure (.nil0), .pure (.nil0)]), (6, .box [.pure (.val (.int .i64 0)), .pure (.val (.int .i64 0)), .pure (.val (.int .i64 0))]), (8, .box [.pure (.sl (v6.fBase.map Ag)), .pure (.sl (v6.fNext.map Ag)), .pure (.sl (v6.fHeld.map A6))])]) (fun _ _ => rfl) (sm [] _ _ rfl rfl) (fun j5 n5 v5 h => ?_) (fun v6 s h hs => ?_)
   ·unfold Fe at h
    refine Ab (Aa Ae rfl (A8 rfl (Ac (Ab ?_))))
    refine As rfl (fun c7 => ?_) (fun c7 => ?_)
    ·have h := Aq c7 h
     refine Au (Ab (AV (Ab (Aa Ae rfl (qm rfl ?_)))))
     obtain ⟨v8, a8, b8, h⟩ := An h
     refine qi CI Dk a8 (Aj b8) rfl (qK GS Dk rfl (qz He rfl (qa rfl (qs Dk rfl (Ac (Ab (Aa Ae rfl (qL Dl CV rfl (qL Be AQ rfl (qL GS Dk rfl ?_))))))))))
     obtain ⟨v9, a9, h⟩ := bind_some h
     refine AJ [2004, 2005, 2006] (Lq N p0 v5.1 v8 v9 a9) Xe rfl (qm rfl (qx rfl (qx rfl (qz CF rfl (qs AQ rfl (qa rfl (Ac (Ab ?_))))))))
     refine AW h (fun v10 => mk [(1, .e (.one (.pure (.sl (p1.map Ay))))), (2, .e (.one (.ptr 2 0))), (5, .e (.one (.ptr 5 0))), (6, .e (.one (.ptr 6 0))), (8, .e (.one (.ptr 8 0))), (13, .e (.one (.pure (.val (.int .i64 v5.2))))), (15, .e (.one (.ptr 15 0))), (41, .e (.one (.pure (.sl (p1.map Ay))))), (42, .e (.one (.pure (.val (.int .i64 ((p1.length : Int))))))), (43, .e (.one (.pure (.val (.int .i64 v5.2))))), (61, .e (.one (.pure (.val (.bool v10)))))] [(2, .box [.pure (.sl (p0.fVersions.map Ag)), .pure (.sl (p0.fNow.map Ag)), .pure (.sl (p0.fTarget.map Ag)), .pure (.sl (p0.fTables.map Ai))]), (5, .box [.pure (.nil0), .pure (.nil0), .pure (.nil0)]), (6, .box [.pure (.val (.int .i64 0)), .pure (.val (.int .i64 0)), .pure (.val (.int .i64 0))]), (8, .box [.pure (.sl (v5.1.fBase.map Ag)), .pure (.sl (v5.1.fNext.map Ag)), .pure (.sl (v5.1.fHeld.map A6))]), (15, .box [.own 2007, .own 2008, .own 2009]), (2007, .vec 1 (v9.1.fBase.map Ag)), (2008, .vec 1 (v9.1.fNext.map Ag)), (2009, .vec 1 (v9.1.fHeld.map A6))]) (fun j10 h => ?_) (fun v10 h => ?_)
     ·refine Aa Ae rfl (qm rfl (Cn rfl (qm rfl ?_)))
      refine AI (t := 57) rfl (fun c11 => ?_) (fun c11 => ?_)
      ·have h := Aq c11 h
       refine qn rfl (qn rfl (qn rfl (qp rfl (Ac ?_))))
       exact Aw _ h (sm [(2007, 2004), (2008, 2005), (2009, 2006)] _ _ rfl rfl)
      ·have h := Ap c11 h
       refine qf EO rfl (ql Cb rfl (BY rfl (qp rfl (Ac ?_))))
       exact Aw _ h (sm [(2007, 2004), (2008, 2005), (2009, 2006)] _ _ rfl rfl)
     ·refine As rfl (fun c12 => ?_) (fun c12 => ?_)
      ·have h := Aq c12 h
       refine Ab (Aa Ae rfl (qm rfl (AZ CF FN rfl (AZ Fs JI rfl (qa rfl (qs AQ rfl (qs DN rfl (qa rfl (Ac ?_)))))))))
       obtain rfl := sj h
       refine Al ((EI 5 _ rfl).trans (sm [] [(4, .e (.one (.pure (.val (.int .i64 v5.2))))), (5, .e (.one (.ptr 5 0))), (6, .e (.one (.ptr 6 0))), (7, .e (.one (.pure (.val (.int .i64 0)))))] [(5, .box [.pure (.sl ((([] : List Int)).map Ag)), .pure (.sl ((([] : List Int)).map Ag)), .pure (.sl ((([] : List Int)).map A6))]), (6, .box [.pure (.val (.int .i64 0)), .pure (.val (.int .i64 0)), .pure (.val (.int .i64 0))])] rfl rfl)) (AA ?_)
       exact ⟨⟨[_, _, _, _], ⟨.tmp _ _ rfl, ⟨.cellN _ _ _ _ _ _ _ rfl rfl Be AQ rfl rfl (FT rfl), ⟨.cellN _ _ _ _ _ _ _ rfl rfl H0 DN rfl rfl (FT rfl), ⟨.tmp _ _ rfl, trivial⟩⟩⟩⟩, rfl⟩, trivial⟩
      ·have h := Ap c12 h
       refine Au (Ab (Ab (Aa Ae rfl (qL Dl CV rfl (qL Be AQ rfl (D1 (Bq 2007 _ _ rfl rfl) (D1 (Bq 2008 _ _ rfl rfl) (D1 (Bq 2009 _ _ rfl rfl) ?_))))))))
       obtain ⟨v13, a13, h⟩ := bind_some h
       refine AJ [] (JQ N p0 v9.1 v13 a13) V4 rfl (qm rfl (qx rfl (qx rfl (qx rfl (qz CF rfl (qz Fs rfl (qs AQ rfl (qs DN rfl (qa rfl (Ac (Ab (Aa Ae rfl (qm rfl (BY rfl (Ac ?_)))))))))))))))
       refine As rfl (fun c14 => ?_) (fun c14 => ?_)
       ·have h := Aq c14 h
        refine Ab (Aa Ae rfl (qm rfl (qL Be AQ rfl (qL H0 DN rfl (qa rfl (qs AQ rfl (qs DN rfl (qa rfl (AY (by kernel_rfl) ?_)))))))))
        obtain rfl := sj h
        refine Al (sm [] [(4, .e (.one (.pure (.val (.int .i64 v5.2))))), (5, .e (.one (.ptr 5 0))), (6, .e (.one (.ptr 6 0))), (7, .e (.one (.pure (.val (.int .i64 0)))))] [(5, .box [.pure (.sl (v13.1.fBase.map Ag)), .pure (.sl (v13.1.fNext.map Ag)), .pure (.sl (v13.1.fHeld.map A6))]), (6, .box [.pure (.val (.int .i64 v13.2.1.fTable)), .pure (.val (.int .i64 v13.2.1.fWriter)), .pure (.val (.int .i64 v13.2.1.fReader))])] rfl rfl) (AA ?_)
        exact ⟨⟨[_, _, _, _], ⟨.tmp _ _ rfl, ⟨.cellN _ _ _ _ _ _ _ rfl rfl Be AQ rfl rfl (FT rfl), ⟨.cellN _ _ _ _ _ _ _ rfl rfl H0 DN rfl rfl (FT rfl), ⟨.tmp _ _ rfl, trivial⟩⟩⟩⟩, rfl⟩, trivial⟩
       ·have h := Ap c14 h
        refine Au (Aa Ae rfl (qL Be AQ rfl (qs AQ rfl (Ac (Aa Ae rfl (Bo rfl (qm rfl (Ac ?_))))))))
        exact Aw _ h (sm [] _ _ rfl rfl)
    ·have h := Ap c7 h
     refine A5 ?_
     exact Aw _ h (sm [] _ _ rfl rfl)
   ·refine Al hs (Ab (Ab (Aa Ae rfl (qL Dl CV rfl (qL Be AQ rfl ?_)))))
    obtain ⟨v15, a15, h⟩ := bind_some h
    refine AJ [] (MB N p0 v6 v15 a15) Wx rfl (CE rfl (Ac ?_))
    refine As rfl (fun c16 => ?_) (fun c16 => ?_)
    ·have h := Aq c16 h
     refine Ab (Aa Ae rfl (qm rfl (AT CI rfl (AZ CF FN rfl (AZ Fs JI rfl (qa rfl (qs AQ rfl (qs DN rfl (qa rfl (Ac ?_))))))))))
     obtain rfl := sj h
     refine Al ((EI 5 _ rfl).trans (sm [] [(4, .e (.one (.pure (.val (.int .i64 ((p1.length : Int))))))), (5, .e (.one (.ptr 5 0))), (6, .e (.one (.ptr 6 0))), (7, .e (.one (.pure (.val (.int .i64 14)))))] [(5, .box [.pure (.sl ((([] : List Int)).map Ag)), .pure (.sl ((([] : List Int)).map Ag)), .pure (.sl ((([] : List Int)).map A6))]), (6, .box [.pure (.val (.int .i64 0)), .pure (.val (.int .i64 0)), .pure (.val (.int .i64 0))])] rfl rfl)) (AA ?_)
     exact ⟨⟨[_, _, _, _], ⟨.tmp _ _ rfl, ⟨.cellN _ _ _ _ _ _ _ rfl rfl Be AQ rfl rfl (FT rfl), ⟨.cellN _ _ _ _ _ _ _ rfl rfl H0 DN rfl rfl (FT rfl), ⟨.tmp _ _ rfl, trivial⟩⟩⟩⟩, rfl⟩, trivial⟩
    ·have h := Ap c16 h
     refine Au (Ab (Aa Ae rfl (AZ CF FN rfl (AZ Fs JI rfl (qa rfl (qs AQ rfl (qs DN rfl (qa rfl (Ac ?_)))))))))
     obtain rfl := sj h
     refine Al ((EI 5 _ rfl).trans (sm [] [(4, .e (.one (.pure (.val (.int .i64 0))))), (5, .e (.one (.ptr 5 0))), (6, .e (.one (.ptr 6 0))), (7, .e (.one (.pure (.val (.int .i64 15)))))] [(5, .box [.pure (.sl ((([] : List Int)).map Ag)), .pure (.sl ((([] : List Int)).map Ag)), .pure (.sl ((([] : List Int)).map A6))]), (6, .box [.pure (.val (.int .i64 0)), .pure (.val (.int .i64 0)), .pure (.val (.int .i64 0))])] rfl rfl)) (AA ?_)
     exact ⟨⟨[_, _, _, _], ⟨.tmp _ _ rfl, ⟨.cellN _ _ _ _ _ _ _ rfl rfl Be AQ rfl rfl (FT rfl), ⟨.cellN _ _ _ _ _ _ _ rfl rfl H0 DN rfl rfl (FT rfl), ⟨.tmp _ _ rfl, trivial⟩⟩⟩⟩, rfl⟩, trivial⟩
set_option maxRecDepth 10000 in
theorem KJ (N : Nat) (p0 : List Ah) (p1 : List Ah) (r : Bool) (h : FU N p0 p1 = some r) : AB Try.prog 15 [.e (.one (.pure (.sl (p0.map Ay)))), .e (.one (.pure (.sl (p1.map Ay))))] [] (.e (.one (.pure (.val (.bool r))))) := by
 unfold FU at h
 refine Ao (n := 26) (rs := [.tmp 4]) Try.func15 rfl rfl rfl (BE rfl) (BE rfl) rfl fun w0 S0 => ?_
 refine Ab (Aa Ae rfl (qa rfl (Ac (Ab (Ab (Aa Ae rfl (qm rfl (AT CI rfl (qm rfl (AT CI rfl (Cn rfl (Ac ?_))))))))))))
 refine As rfl (fun c1 => ?_) (fun c1 => ?_)
 ·have h := Aq c1 h
  refine Ab (Aa Ae rfl (qa rfl (Ac ?_)))
  obtain rfl := sj h
  refine Al (sm [] [(4, .e (.one (.pure (.val (.bool false)))))] [] rfl rfl) (AA ?_)
  exact ⟨⟨[_], ⟨.tmp _ _ rfl, trivial⟩, rfl⟩, trivial⟩
 ·have h := Ap c1 h
  refine Au (Ab (Ab (Aa Ae rfl (qa rfl (Ac ?_)))))
  refine AS (L := En N p0 p1) h (fun v2 => mk [(0, .e (.one (.pure (.sl (p0.map Ay))))), (1, .e (.one (.pure (.sl (p1.map Ay))))), (5, .e (.one (.pure (.val (.int .i64 v2)))))] []) (fun v3 => mk [] []) (fun _ _ => rfl) (sm [] _ _ rfl rfl) (fun j2 n2 v2 h => ?_) (fun v3 s h hs => ?_)
  ·unfold En at h
   refine Ab (Ab (Aa Ae rfl (qm rfl (qm rfl (AT CI rfl (A8 rfl (Ac ?_)))))))
   refine As rfl (fun c4 => ?_) (fun c4 => ?_)
   ·have h := Aq c4 h
    refine Au (Ab (AV (Ab (Aa Ae rfl (qm rfl (qm rfl ?_))))))
    obtain ⟨v5, a5, b5, h⟩ := An h
    refine qi CI Dk a5 (Aj b5) rfl (qK GS Dk rfl (qm rfl (qm rfl ?_)))
    obtain ⟨v6, a6, b6, h⟩ := An h
    refine qi CI Dk a6 (Aj b6) rfl (qK GS Dk rfl ?_)
    refine WX [.int .i64 v5.fKind, .int .i64 v5.fIndex, .int .i64 v5.fVersion] [.int .i64 v6.fKind, .int .i64 v6.fIndex, .int .i64 v6.fVersion] (.p rfl) rfl rfl Wn rfl ?_
    refine AY (by kernel_rfl) ?_
    refine As rfl (fun c7 => ?_) (fun c7 => ?_)
    ·have h := Aq c7 h
     refine Ab (Aa Ae rfl (qa rfl (Ac ?_)))
     obtain rfl := sj h
     refine Al (sm [] [(4, .e (.one (.pure (.val (.bool false)))))] [] rfl rfl) (AA ?_)
     exact ⟨⟨[_], ⟨.tmp _ _ rfl, trivial⟩, rfl⟩, trivial⟩
    ·have h := Ap c7 h
     refine Au (Aa Ae rfl (qm rfl (Bo rfl (qa rfl (Ac ?_)))))
     exact Aw _ h (sm [] _ _ rfl rfl)
   ·have h := Ap c4 h
    refine A5 ?_
    exact Aw _ h (sm [] _ _ rfl rfl)
  ·refine Al hs (Ab (Aa Ae rfl (qa rfl (Ac ?_))))
   obtain rfl := sj h
   refine Al (sm [] [(4, .e (.one (.pure (.val (.bool true)))))] [] rfl rfl) (AA ?_)
   exact ⟨⟨[_], ⟨.tmp _ _ rfl, trivial⟩, rfl⟩, trivial⟩
set_option maxRecDepth 10000 in
theorem O8 (N : Nat) (p0 : Ad) (p1 : List Ah) (r : Bool) (h : Is N p0 p1 = some r) : AB Try.prog 16 [.e (.agg [.pure (.sl (p0.fVersions.map Ag)), .pure (.sl (p0.fNow.map Ag)), .pure (.sl (p0.fTarget.map Ag)), .pure (.sl (p0.fTables.map Ai))]), .e (.one (.pure (.sl (p1.map Ay))))] [] (.e (.one (.pure (.val (.bool r))))) := by
 unfold Is at h
 refine Ao (n := 19) (rs := [.tmp 4]) Try.func16 rfl rfl rfl (BE rfl) (BE rfl) rfl fun w0 S0 => ?_
 refine Ab (Aa Ae rfl (qb rfl (qa rfl (Ac (Ab (Aa Ae rfl (qL Dl CV rfl (qm rfl ?_))))))))
 obtain ⟨v1, a1, h⟩ := bind_some h
 refine AJ [] (Jq N p0 p1 v1 a1) WC rfl (qm rfl (qx rfl (qx rfl (qx rfl (qx rfl (qz CF rfl (qz Fs rfl (qa rfl (qs AQ rfl (qs DN rfl (qa rfl (Ac (Ab (Aa Ae rfl (qm rfl (BY rfl (qa rfl (Ac ?_))))))))))))))))))
 obtain rfl := sj h
 refine Al (sm [] [(4, .e (.one (.pure (.val (.bool ((v1.2.2.2 == 15)))))))] [] rfl rfl) (AA ?_)
 exact ⟨⟨[_], ⟨.tmp _ _ rfl, trivial⟩, rfl⟩, trivial⟩
set_option maxRecDepth 10000 in
theorem Hp (N : Nat) (r : Bool) (h : Ec N = some r) : AB Try.prog 11 [] [] (.e (.one (.pure (.val (.bool r))))) := by
 unfold Ec at h
 refine Ao (n := 74) (rs := [.tmp 0]) Try.func11 rfl rfl rfl (BE rfl) (BE rfl) rfl fun w0 S0 => ?_
 refine Ab (Aa Ae rfl (qa rfl (Ac (Ab (Aa Ae rfl ?_)))))
 obtain ⟨v1, a1, h⟩ := bind_some h
 refine AJ [2001, 2002, 2003, 2004] (DW N false false v1 a1) Sy rfl ?_
 obtain ⟨v2, a2, h⟩ := bind_some h
 refine EB [2005] [2001, 2002, 2003, 2004] (Ia N v1 v2 a2) UB (GO (fun _ => rfl) Db) rfl (qm rfl (qx rfl (qx rfl (qa rfl (qa rfl (Ac (Ab (Aa Ae rfl ?_))))))))
 obtain ⟨v3, a3, h⟩ := bind_some h
 refine AJ [2006, 2007, 2008, 2009] (DW N true false v3 a3) Sy rfl ?_
 obtain ⟨v4, a4, h⟩ := bind_some h
 refine EB [2010] [2006, 2007, 2008, 2009] (Ia N v3 v4 a4) UB (GO (fun _ => rfl) Db) rfl (qm rfl (qx rfl (qx rfl (qa rfl (qa rfl (Ac (Ab (Aa Ae rfl ?_))))))))
 obtain ⟨v5, a5, h⟩ := bind_some h
 refine AJ [2011, 2012, 2013, 2014] (DW N true true v5 a5) Sy rfl ?_
 obtain ⟨v6, a6, h⟩ := bind_some h
 refine EB [2015] [2011, 2012, 2013, 2014] (Ia N v5 v6 a6) UB (GO (fun _ => rfl) Db) rfl (qm rfl (qx rfl (qx rfl (qa rfl (qa rfl (Ac (Ab (Aa Ae rfl ?_))))))))
 obtain ⟨v7, a7, h⟩ := bind_some h
 refine AJ [2016, 2017, 2018, 2019] (DW N false false v7 a7) Sy rfl (AZ He Ox rfl (Ex CI Dk He rfl (D1 (Bq 2016 _ _ rfl rfl) (D1 (Bq 2017 _ _ rfl rfl) (D1 (Bq 2018 _ _ rfl rfl) (D1 (Bq 2019 _ _ rfl rfl) (D1 (Bq 30 _ _ rfl rfl) ?_)))))))
 obtain ⟨v8, a8, h⟩ := bind_some h
 refine AJ [] (Jq N v7 (([(Ah.mk 1 0 1)] : List Ah)) v8 a8) WC rfl (qm rfl (qx rfl (qx rfl (qx rfl (qx rfl (qz CF rfl (qz Fs rfl (qa rfl (qs AQ rfl (qs DN rfl (qa rfl (Ac (Ab (Aa Ae rfl (AZ He Ox rfl (AZ He Ox rfl (AZ He Ox rfl (AZ He Ox rfl (Ex CI Dk He rfl (qa rfl (Ac ?_)))))))))))))))))))))
 refine AW h (fun v9 => mk [(0, .e (.one (.pure (.val (.bool v9)))))] []) (fun j9 h => ?_) (fun v9 h => ?_)
 ·refine Aa Ae rfl (qm rfl (BY rfl (qm rfl ?_)))
  refine AI (t := 43) rfl (fun c10 => ?_) (fun c10 => ?_)
  ·have h := Aq c10 h
   refine qm rfl (qm rfl ?_)
   obtain ⟨v11, a11, h⟩ := bind_some h
   refine EB [] [2005, 40] (KJ N v2.1 (([(Ah.mk 1 1 1), (Ah.mk 2 1 0), (Ah.mk 1 0 1), (Ah.mk 2 0 0)] : List Ah)) v11 a11) Yc Db rfl (qp rfl (qm rfl ?_))
   refine AI (t := 48) rfl (fun c12 => ?_) (fun c12 => ?_)
   ·have h := Aq c12 h
    refine qm rfl (BY rfl (qp rfl (qm rfl ?_)))
    refine AI (t := 52) rfl (fun c13 => ?_) (fun c13 => ?_)
    ·have h := Aq c13 h
     refine qm rfl (BY rfl (qp rfl (qm rfl ?_)))
     refine AI (t := 56) rfl (fun c14 => ?_) (fun c14 => ?_)
     ·have h := Aq c14 h
      refine qm rfl (BY rfl (qp rfl (qm rfl ?_)))
      refine AI (t := 60) rfl (fun c15 => ?_) (fun c15 => ?_)
      ·have h := Aq c15 h
       refine qm rfl (BY rfl (qp rfl (qm rfl ?_)))
       refine AI (t := 64) rfl (fun c16 => ?_) (fun c16 => ?_)
       ·have h := Aq c16 h
        refine qL H0 DN rfl (AZ Fs JI rfl ?_)
        refine Ws [.int .i64 v8.2.2.1.fTable, .int .i64 v8.2.2.1.fWriter, .int .i64 v8.2.2.1.fReader] [.int .i64 0, .int .i64 1, .int .i64 0] (.g rfl rfl) rfl rfl Wk rfl ?_
        refine qp rfl (qm rfl ?_)
        refine AI (t := 69) rfl (fun c17 => ?_) (fun c17 => ?_)
        ·have h := Aq c17 h
         obtain ⟨v18, a18, h⟩ := bind_some h
         refine AJ [2020, 2021, 2022, 2023] (DW N false false v18 a18) Sy rfl (qm rfl ?_)
         obtain ⟨v19, a19, h⟩ := bind_some h
         refine EB [] [2020, 2021, 2022, 2023, 40] (O8 N v18 (([(Ah.mk 1 1 1), (Ah.mk 2 1 0), (Ah.mk 1 0 1), (Ah.mk 2 0 0)] : List Ah)) v19 a19) X0 Db rfl (qp rfl (qa rfl (Ac ?_)))
         exact Aw _ h (sm [] _ _ rfl rfl)
        ·have h := Ap c17 h
         refine qn rfl (qn rfl (qn rfl (qp rfl (qa rfl (Ac ?_)))))
         exact Aw _ h (sm [] _ _ rfl rfl)
       ·have h := Ap c16 h
        refine qn rfl (qn rfl (qn rfl (qp rfl (qm rfl (qn rfl (qn rfl (qn rfl (qp rfl (qa rfl (Ac ?_))))))))))
        exact Aw _ h (sm [] _ _ rfl rfl)
      ·have h := Ap c15 h
       refine qn rfl (qn rfl (qp rfl (qm rfl (qn rfl (qn rfl (qn rfl (qp rfl (qm rfl (qn rfl (qn rfl (qn rfl (qp rfl (qa rfl (Ac ?_))))))))))))))
       exact Aw _ h (sm [] _ _ rfl rfl)
     ·have h := Ap c14 h
      refine qn rfl (qn rfl (qp rfl (qm rfl (qn rfl (qn rfl (qp rfl (qm rfl (qn rfl (qn rfl (qn rfl (qp rfl (qm rfl (qn rfl (qn rfl (qn rfl (qp rfl (qa rfl (Ac ?_))))))))))))))))))
      exact Aw _ h (sm [] _ _ rfl rfl)
    ·have h := Ap c13 h
     refine qn rfl (qn rfl (qp rfl (qm rfl (qn rfl (qn rfl (qp rfl (qm rfl (qn rfl (qn rfl (qp rfl (qm rfl (qn rfl (qn rfl (qn rfl (qp rfl (qm rfl (qn rfl (qn rfl (qn rfl (qp rfl (qa rfl (Ac ?_))))))))))))))))))))))
     exact Aw _ h (sm [] _ _ rfl rfl)
   ·have h := Ap c12 h
    refine qn rfl (qn rfl (qp rfl (qm rfl (qn rfl (qn rfl (qp rfl (qm rfl (qn rfl (qn rfl (qp rfl (qm rfl (qn rfl (qn rfl (qp rfl (qm rfl (qn rfl (qn rfl (qn rfl (qp rfl (qm rfl (qn rfl (qn rfl (qn rfl (qp rfl (qa rfl (Ac ?_))))))))))))))))))))))))))
    exact Aw _ h (sm [] _ _ rfl rfl)
  ·have h := Ap c10 h
   refine qn rfl (qn rfl (qn rfl (qp rfl (qm rfl (qn rfl (qn rfl (qp rfl (qm rfl (qn rfl (qn rfl (qp rfl (qm rfl (qn rfl (qn rfl (qp rfl (qm rfl (qn rfl (qn rfl (qp rfl (qm rfl (qn rfl (qn rfl (qn rfl (qp rfl (qm rfl (qn rfl (qn rfl (qn rfl (qp rfl (qa rfl (Ac ?_)))))))))))))))))))))))))))))))
   exact Aw _ h (sm [] _ _ rfl rfl)
 ·obtain rfl := sj h
  refine Al (sm [] [(0, .e (.one (.pure (.val (.bool v9)))))] [] rfl rfl) (AA ?_)
  exact ⟨⟨[_], ⟨.tmp _ _ rfl, trivial⟩, rfl⟩, trivial⟩
set_option maxRecDepth 10000 in
theorem HR (N : Nat) (p0 : List Int) (p1 : Int) (r : Int) (h : DI N p0 p1 = some r) : AB Try.prog 45 [.e (.one (.pure (.sl (p0.map A6)))), .e (.one (.pure (.val (.int .i64 p1))))] [] (.e (.one (.pure (.val (.int .i64 r))))) := by
 unfold DI at h
 refine Ao (n := 14) (rs := [.tmp 4]) Try.func45 rfl rfl rfl (BE rfl) (BE rfl) rfl fun w0 S0 => ?_
 refine Ab (Aa Ae rfl (qa rfl (Ac (Ab (Ab (Aa Ae rfl (qm rfl (qm rfl (AT Jg rfl (A8 rfl (Ac ?_)))))))))))
 refine As rfl (fun c1 => ?_) (fun c1 => ?_)
 ·have h := Aq c1 h
  refine Ab (Aa Ae rfl (qm rfl (qm rfl ?_)))
  obtain ⟨v2, a2, b2, h⟩ := An h
  refine qi Jg V5 a2 (Aj b2) rfl (qk Xk rfl (IC Wa Vb rfl (qa rfl (Ac ?_))))
  obtain rfl := sj h
  refine Al (sm [] [(4, .e (.one (.pure (.val (.int .i64 ((IntKind.wrap .i64 v2)))))))] [] rfl rfl) (AA ?_)
  exact ⟨⟨[_], ⟨.tmp _ _ rfl, trivial⟩, rfl⟩, trivial⟩
 ·have h := Ap c1 h
  refine Au (Ab (Aa Ae rfl (qa rfl (Ac ?_))))
  obtain rfl := sj h
  refine Al (sm [] [(4, .e (.one (.pure (.val (.int .i64 0)))))] [] rfl rfl) (AA ?_)
  exact ⟨⟨[_], ⟨.tmp _ _ rfl, trivial⟩, rfl⟩, trivial⟩
set_option maxRecDepth 10000 in
theorem Cd (N : Nat) (p0 : AG) (r : Bool) (h : A7 N p0 = some r) : AB Try.prog 46 [.e (.agg [.pure (.val (.int .i64 p0.fKind)), .pure (.val (.int .i64 p0.fFrom)), .pure (.val (.int .i64 p0.fTo)), .pure (.val (.bool p0.fAware)), .pure (.sl (p0.fOK.map (Es eB))), .pure (.sl (p0.fRewrite.map (Es eB)))])] [] (.e (.one (.pure (.val (.bool r))))) := by
 unfold A7 at h
 refine Ao (n := 11) (rs := [.tmp 2]) Try.func46 rfl rfl rfl (BE rfl) (BE rfl) rfl fun w0 S0 => ?_
 refine Ab (Aa Ae rfl (qb rfl (qa rfl (Ac ?_))))
 refine AW h (fun v1 => mk [(2, .e (.one (.pure (.val (.bool v1)))))] []) (fun j1 h => ?_) (fun v1 h => ?_)
 ·refine Aa Ae rfl (qf Fr rfl (ql Cb rfl (BY rfl (qm rfl ?_))))
  refine AI (t := 6) rfl (fun c2 => ?_) (fun c2 => ?_)
  ·have h := Aq c2 h
   refine qn rfl (qn rfl (qn rfl (qp rfl (qa rfl (Ac ?_)))))
   exact Aw _ h (sm [] _ _ rfl rfl)
  ·have h := Ap c2 h
   refine qf Fr rfl (ql Cb rfl (BY rfl (qp rfl (qa rfl (Ac ?_)))))
   exact Aw _ h (sm [] _ _ rfl rfl)
 ·obtain rfl := sj h
  refine Al (sm [] [(2, .e (.one (.pure (.val (.bool v1)))))] [] rfl rfl) (AA ?_)
  exact ⟨⟨[_], ⟨.tmp _ _ rfl, trivial⟩, rfl⟩, trivial⟩
set_option maxRecDepth 10000 in
theorem HZ (N : Nat) (p0 : Int) (p1 : Int) (p2 : Int) (p3 : Bool) (r : (List (List Bool))) (h : DF N p0 p1 p2 p3 = some r) : AB Try.prog 47 [.e (.one (.pure (.val (.int .i64 p0)))), .e (.one (.pure (.val (.int .i64 p1)))), .e (.one (.pure (.val (.int .u16 p2)))), .e (.one (.pure (.val (.bool p3))))] [(1, r.map (Es eB))] (.e (.one (.own 0))) := by
 unfold DF at h
 refine Ao (n := 47) (rs := [.tmp 8]) Try.func47 rfl rfl rfl (BE rfl) (BE rfl) rfl fun w0 S0 => ?_
 refine Ab (Aa Ae rfl (qa rfl (Ac (Ab (Aa Ae rfl (qa rfl (Ac (Ab (Ab (Aa Ae rfl (qa rfl (Ac ?_))))))))))))
 refine AS (L := Ca N p0 p1 p2 p3) h (fun v1 => mk [(0, .e (.one (.pure (.val (.int .i64 p0))))), (1, .e (.one (.pure (.val (.int .i64 p1))))), (2, .e (.one (.pure (.val (.int .u16 p2))))), (3, .e (.one (.pure (.val (.bool p3))))), (9, .e (.one (.own 2001))), (10, .e (.one (.pure (.val (.int .i64 v1.2)))))] [(2001, .vec 1 (v1.1.map (Es eB)))]) (fun v2 => mk [(9, .e (.one (.own 2002)))] [(2002, .vec 1 (v2.map (Es eB)))]) (fun _ _ => rfl) ((B8 9 2010 1 rfl rfl rfl).trans (sm [(2001, 2010)] _ _ rfl rfl)) (fun j1 n1 v1 h => ?_) (fun v2 s h hs => ?_)
 ·unfold Ca at h
  refine Ab (Ab (Aa Ae rfl (qm rfl (qm rfl (A8 rfl (Ac ?_))))))
  refine As rfl (fun c3 => ?_) (fun c3 => ?_)
  ·have h := Aq c3 h
   refine Au (Ab (AV (Ab (Aa Ae rfl (qa rfl (Ac (Ab (Ab (Aa Ae rfl (qa rfl (Ac ?_)))))))))))
   refine AS (L := Cf N p1 p2 p3 v1) h (fun v4 => mk [(0, .e (.one (.pure (.val (.int .i64 p0))))), (1, .e (.one (.pure (.val (.int .i64 p1))))), (2, .e (.one (.pure (.val (.int .u16 p2))))), (3, .e (.one (.pure (.val (.bool p3))))), (9, .e (.one (.own 2003))), (10, .e (.one (.pure (.val (.int .i64 v1.2))))), (11, .e (.one (.own 2004))), (12, .e (.one (.pure (.val (.int .i64 v4.2)))))] [(2003, .vec 1 (v1.1.map (Es eB))), (2004, .vec 1 (v4.1.map eB))]) (fun v5 => mk [(0, .e (.one (.pure (.val (.int .i64 p0))))), (1, .e (.one (.pure (.val (.int .i64 p1))))), (2, .e (.one (.pure (.val (.int .u16 p2))))), (3, .e (.one (.pure (.val (.bool p3))))), (9, .e (.one (.own 2005))), (10, .e (.one (.pure (.val (.int .i64 v1.2))))), (11, .e (.one (.own 2006)))] [(2005, .vec 1 (v1.1.map (Es eB))), (2006, .vec 1 (v5.map eB))]) (fun _ _ => rfl) ((B8 11 2009 1 rfl rfl rfl).trans (sm [(2003, 2001), (2004, 2009)] _ _ rfl rfl)) (fun j4 n4 v4 h => ?_) (fun v5 s h hs => ?_)
   ·unfold Cf at h
    refine Ab (Ab (Aa Ae rfl (qm rfl (qm rfl (A8 rfl (Ac ?_))))))
    refine As rfl (fun c6 => ?_) (fun c6 => ?_)
    ·have h := Aq c6 h
     refine Au ?_
     refine AW h (fun v7 => mk [(0, .e (.one (.pure (.val (.int .i64 p0))))), (1, .e (.one (.pure (.val (.int .i64 p1))))), (2, .e (.one (.pure (.val (.int .u16 p2))))), (3, .e (.one (.pure (.val (.bool p3))))), (9, .e (.one (.own 2007))), (10, .e (.one (.pure (.val (.int .i64 v1.2))))), (11, .e (.one (.own 2008))), (12, .e (.one (.pure (.val (.int .i64 v4.2)))))] [(2007, .vec 1 (v1.1.map (Es eB))), (2008, .vec 1 (v7.map eB))]) (fun j7 h => ?_) (fun v7 h => ?_)
     ·refine AV (Aa Ae rfl (qm rfl (qm rfl (qm rfl ?_))))
      refine AI (t := 25) rfl (fun c8 => ?_) (fun c8 => ?_)
      ·have h := Aq c8 h
       refine qm rfl (qm rfl (BY rfl (qp rfl (qm rfl ?_))))
       refine AI (t := 30) rfl (fun c9 => ?_) (fun c9 => ?_)
       ·have h := Aq c9 h
        refine qn rfl (qn rfl (qn rfl (qn rfl (qn rfl (qn rfl (qn rfl (qn rfl (qp rfl (Ex F6 Pw Ve rfl ?_)))))))))
        obtain ⟨c10, h⟩ := AO h
        refine DM (f := eB) F6 F6 Pw Vl Ve c10 rfl (qa rfl (Ac ?_))
        exact Aw _ h (sm [(2007, 2003), (2008, 41)] _ _ rfl rfl)
       ·have h := Ap c9 h
        refine qm rfl (qm rfl (Lo rfl (qm rfl (Bo rfl ?_))))
        obtain ⟨c11, h⟩ := AO h
        refine IE rfl c11 (Lr rfl (by decide) (BY rfl (qp rfl (Ex F6 Pw Ve rfl ?_))))
        obtain ⟨c12, h⟩ := AO h
        refine DM (f := eB) F6 F6 Pw Vl Ve c12 rfl (qa rfl (Ac ?_))
        exact Aw _ h (sm [(2007, 2003), (2008, 41)] _ _ rfl rfl)
      ·have h := Ap c8 h
       refine qn rfl (qn rfl (qn rfl (qp rfl (qm rfl (qm rfl (qm rfl (Lo rfl (qm rfl (Bo rfl ?_)))))))))
       obtain ⟨c13, h⟩ := AO h
       refine IE rfl c13 (Lr rfl (by decide) (BY rfl (qp rfl (Ex F6 Pw Ve rfl ?_))))
       obtain ⟨c14, h⟩ := AO h
       refine DM (f := eB) F6 F6 Pw Vl Ve c14 rfl (qa rfl (Ac ?_))
       exact Aw _ h (sm [(2007, 2003), (2008, 41)] _ _ rfl rfl)
     ·refine Aa Ae rfl (qm rfl (Bo rfl (qa rfl (Ac ?_))))
      exact Aw _ h (sm [(2003, 2007), (2004, 2008)] _ _ rfl rfl)
    ·have h := Ap c6 h
     refine A5 ?_
     exact Aw _ h (sm [(2005, 2003), (2006, 2004)] _ _ rfl rfl)
   ·refine Al hs (Aa Ae rfl (qm rfl (qm rfl (D1 (Bq 2006 _ _ rfl rfl) (Ex FR Mk VH rfl ?_)))))
    obtain ⟨c15, h⟩ := AO h
    refine DM (f := (Es eB)) FR FR Mk Xn VH c15 rfl (qa rfl (Ac (Aa Ae rfl (qm rfl (Bo rfl (qa rfl (Ac ?_)))))))
    exact Aw _ h (sm [(2001, 45)] _ _ rfl rfl)
  ·have h := Ap c3 h
   refine A5 ?_
   exact Aw _ h (sm [(2002, 2001)] _ _ rfl rfl)
 ·refine Al hs (Ab (Aa Ae rfl (qm rfl (qa rfl (Ac ?_)))))
  obtain rfl := sj h
  refine Al (sm [(1000, 2002)] [(8, .e (.one (.own 1000)))] [(1000, .vec 1 (v2.map (Es eB)))] rfl rfl) (AA ?_)
  exact ⟨⟨[_], ⟨.tmp _ _ rfl, trivial⟩, rfl⟩, ⟨rfl, trivial⟩⟩
set_option maxRecDepth 10000 in
theorem LJ (N : Nat) (p0 : BG) (r : Ad × Bool) (h : EQ N p0 = some r) : AB Try.prog 22 [.e (.agg [.pure (.sl (p0.fVersions.map A6)), .pure (.sl (p0.fNow.map A6)), .pure (.sl (p0.fTarget.map A6)), .pure (.sl (p0.fLinks.map BI))])] [(1, r.1.fVersions.map Ag), (1, r.1.fNow.map Ag), (1, r.1.fTarget.map Ag), (6, r.1.fTables.map Ai)] (.tup [.agg [.own 0, .own 1, .own 2, .own 3], .one (.pure (.val (.bool r.2)))]) := by
 unfold EQ at h
 refine Ao (n := 152) (rs := [.cell 2 30, .tmp 3]) Try.func22 rfl rfl rfl (BE rfl) (BE rfl) rfl fun w0 S0 => ?_
 refine Ab (Aa Ae rfl (qb rfl (qz PB rfl (qa rfl (Ac (Ab ?_))))))
 refine AW h (fun v1 => mk [(1, .e (.one (.ptr 1 0))), (2, .e (.one (.ptr 2 0))), (19, .e (.one (.pure (.val (.bool v1)))))] [(1, .box [.pure (.sl (p0.fVersions.map A6)), .pure (.sl (p0.fNow.map A6)), .pure (.sl (p0.fTarget.map A6)), .pure (.sl (p0.fLinks.map BI))]), (2, .box [.pure (.nil0), .pure (.nil0), .pure (.nil0), .pure (.nil0)])]) (fun j1 h => ?_) (fun v1 h => ?_)
 ·refine Aa Ae rfl (qf Ph rfl (ql Su rfl (AT Jg rfl (FP rfl (qm rfl ?_)))))
  refine AI (t := 14) rfl (fun c2 => ?_) (fun c2 => ?_)
  ·have h := Aq c2 h
   refine qn rfl (qn rfl (qn rfl (qn rfl (qp rfl (Ac ?_)))))
   exact Aw _ h (sm [] _ _ rfl rfl)
  ·have h := Ap c2 h
   refine qf Pf rfl (ql VP rfl (AT Tz rfl (FP rfl (qp rfl (Ac ?_)))))
   exact Aw _ h (sm [] _ _ rfl rfl)
 ·refine As rfl (fun c3 => ?_) (fun c3 => ?_)
  ·have h := Aq c3 h
   refine Ab (Aa Ae rfl (AZ PB W5 rfl (qs CV rfl (qa rfl (Ac ?_)))))
   obtain rfl := sj h
   refine Al ((AE 2 0 2001 1 _ rfl rfl rfl rfl).trans ((AE 2 1 2002 1 _ rfl rfl rfl rfl).trans ((AE 2 2 2003 1 _ rfl rfl rfl rfl).trans ((AE 2 3 2004 6 _ rfl rfl rfl rfl).trans (sm [(1000, 2001), (1001, 2002), (1002, 2003), (1003, 2004)] [(2, .e (.one (.ptr 2 0))), (3, .e (.one (.pure (.val (.bool false)))))] [(2, .box [.own 1000, .own 1001, .own 1002, .own 1003]), (1000, .vec 1 ((([] : List Int)).map Ag)), (1001, .vec 1 ((([] : List Int)).map Ag)), (1002, .vec 1 ((([] : List Int)).map Ag)), (1003, .vec 6 ((([] : List AG)).map Ai))] rfl rfl))))) (AA ?_)
   exact ⟨⟨[_, _], ⟨.cellN _ _ _ _ _ _ _ rfl rfl Dl CV rfl rfl (FT rfl), ⟨.tmp _ _ rfl, trivial⟩⟩, rfl⟩, ⟨rfl, rfl, rfl, rfl, trivial⟩⟩
  ·have h := Ap c3 h
   refine Au (Ab (Aa Ae rfl (qz PB rfl (Ac (Ab (Ab (Aa Ae rfl (qa rfl (Ac ?_)))))))))
   refine AS (L := Cx N p0) h (fun v4 => mk [(1, .e (.one (.ptr 1 0))), (2, .e (.one (.ptr 2 0))), (4, .e (.one (.ptr 4 0))), (5, .e (.one (.pure (.val (.int .i64 v4.2.2.2)))))] [(1, .box [.pure (.sl (p0.fVersions.map A6)), .pure (.sl (p0.fNow.map A6)), .pure (.sl (p0.fTarget.map A6)), .pure (.sl (p0.fLinks.map BI))]), (2, .box [.pure (.nil0), .pure (.nil0), .pure (.nil0), .pure (.nil0)]), (4, .box [.own 2005, .own 2006, .own 2007, .pure (.nil0)]), (2005, .vec 1 (v4.1.map Ag)), (2006, .vec 1 (v4.2.1.map Ag)), (2007, .vec 1 (v4.2.2.1.map Ag))]) (fun v5 => mk [(1, .e (.one (.ptr 1 0))), (2, .e (.one (.ptr 2 0))), (4, .e (.one (.ptr 4 0)))] [(1, .box [.pure (.sl (p0.fVersions.map A6)), .pure (.sl (p0.fNow.map A6)), .pure (.sl (p0.fTarget.map A6)), .pure (.sl (p0.fLinks.map BI))]), (2, .box [.pure (.nil0), .pure (.nil0), .pure (.nil0), .pure (.nil0)]), (4, .box [.own 2008, .own 2009, .own 2010, .pure (.nil0)]), (2008, .vec 1 (v5.1.map Ag)), (2009, .vec 1 (v5.2.1.map Ag)), (2010, .vec 1 (v5.2.2.map Ag))]) (fun _ _ => rfl) ((AE 4 0 2011 1 _ rfl rfl rfl rfl).trans ((AE 4 1 2012 1 _ rfl rfl rfl rfl).trans ((AE 4 2 2013 1 _ rfl rfl rfl rfl).trans (sm [(2005, 2011), (2006, 2012), (2007, 2013)] _ _ rfl rfl)))) (fun j4 n4 v4 h => ?_) (fun v5 s h hs => ?_)
   ·unfold Cx at h
    refine Ab (Ab (Aa Ae rfl (qm rfl (qf Ph rfl (ql Su rfl (AT Jg rfl (A8 rfl (Ac ?_))))))))
    refine As rfl (fun c6 => ?_) (fun c6 => ?_)
    ·have h := Aq c6 h
     refine Au (Ab (AV (Ab (Aa Ae rfl (qf Ph rfl (ql Su rfl (qm rfl ?_)))))))
     obtain ⟨v7, a7, b7, h⟩ := An h
     refine qi Jg V5 a7 (Aj b7) rfl (qk Xk rfl (Lr rfl (by decide) (IC Wa Vb rfl (Bo rfl (qa rfl (Ac (Ab (Aa Ae rfl (qf Bu rfl (ql A9 rfl (qm rfl (Ex AF Df Ko rfl ?_))))))))))))
     obtain ⟨c8, h⟩ := AO h
     refine DM (f := Ag) AF AF Df K6 Ko c8 rfl (qf Bu rfl (qs RQ rfl (Ac (Ab (Aa Ae rfl (qf F9 rfl (ql A9 rfl (qf Ub rfl (ql Su rfl (qm rfl ?_))))))))))
     obtain ⟨v9, a9, h⟩ := bind_some h
     refine AJ [] (HR N p0.fNow v4.2.2.2 v9 a9) Xc rfl (qm rfl ?_)
     obtain ⟨c10, h⟩ := AO h
     refine Lr rfl c10 (Ex AF Df Ko rfl ?_)
     obtain ⟨c11, h⟩ := AO h
     refine DM (f := Ag) AF AF Df K6 Ko c11 rfl (qf F9 rfl (qs RQ rfl (AY (by kernel_rfl) (Aa Ae rfl (qf Hx rfl (ql A9 rfl (qf UI rfl (ql Su rfl (qm rfl ?_)))))))))
     obtain ⟨v12, a12, h⟩ := bind_some h
     refine AJ [] (HR N p0.fTarget v4.2.2.2 v12 a12) Xc rfl (qm rfl ?_)
     obtain ⟨c13, h⟩ := AO h
     refine Lr rfl c13 (Ex AF Df Ko rfl ?_)
     obtain ⟨c14, h⟩ := AO h
     refine DM (f := Ag) AF AF Df K6 Ko c14 rfl (qf Hx rfl (qs RQ rfl (AY (by kernel_rfl) (Aa Ae rfl (qm rfl (Bo rfl (qa rfl (Ac ?_))))))))
     exact Aw _ h (sm [(2005, 40), (2006, 51), (2007, 62)] _ _ rfl rfl)
    ·have h := Ap c6 h
     refine A5 ?_
     exact Aw _ h (sm [(2008, 2005), (2009, 2006), (2010, 2007)] _ _ rfl rfl)
   ·refine Al hs (Ab (Ab (Aa Ae rfl (qa rfl (Ac ?_)))))
    refine AS (L := Bw N p0 v5) h (fun v15 => mk [(1, .e (.one (.ptr 1 0))), (2, .e (.one (.ptr 2 0))), (4, .e (.one (.ptr 4 0))), (7, .e (.one (.pure (.val (.int .i64 v15.2)))))] [(1, .box [.pure (.sl (p0.fVersions.map A6)), .pure (.sl (p0.fNow.map A6)), .pure (.sl (p0.fTarget.map A6)), .pure (.sl (p0.fLinks.map BI))]), (2, .box [.pure (.nil0), .pure (.nil0), .pure (.nil0), .pure (.nil0)]), (4, .box [.own 2014, .own 2015, .own 2016, .own 2017]), (2014, .vec 1 (v5.1.map Ag)), (2015, .vec 1 (v5.2.1.map Ag)), (2016, .vec 1 (v5.2.2.map Ag)), (2017, .vec 6 (v15.1.map Ai))]) (fun v16 => mk [(2, .e (.one (.ptr 2 0))), (4, .e (.one (.ptr 4 0)))] [(2, .box [.pure (.nil0), .pure (.nil0), .pure (.nil0), .pure (.nil0)]), (4, .box [.own 2018, .own 2019, .own 2020, .own 2021]), (2018, .vec 1 (v5.1.map Ag)), (2019, .vec 1 (v5.2.1.map Ag)), (2020, .vec 1 (v5.2.2.map Ag)), (2021, .vec 6 (v16.map Ai))]) (fun _ _ => rfl) ((AE 4 3 2039 6 _ rfl rfl rfl rfl).trans (sm [(2014, 2008), (2015, 2009), (2016, 2010), (2017, 2039)] _ _ rfl rfl)) (fun j15 n15 v15 h => ?_) (fun v16 s h hs => ?_)
    ·unfold Bw at h
     refine Ab ?_
     refine AW h (fun v17 => mk [(1, .e (.one (.ptr 1 0))), (2, .e (.one (.ptr 2 0))), (4, .e (.one (.ptr 4 0))), (7, .e (.one (.pure (.val (.int .i64 v15.2))))), (74, .e (.one (.pure (.val (.bool v17)))))] [(1, .box [.pure (.sl (p0.fVersions.map A6)), .pure (.sl (p0.fNow.map A6)), .pure (.sl (p0.fTarget.map A6)), .pure (.sl (p0.fLinks.map BI))]), (2, .box [.pure (.nil0), .pure (.nil0), .pure (.nil0), .pure (.nil0)]), (4, .box [.own 2022, .own 2023, .own 2024, .own 2025]), (2022, .vec 1 (v5.1.map Ag)), (2023, .vec 1 (v5.2.1.map Ag)), (2024, .vec 1 (v5.2.2.map Ag)), (2025, .vec 6 (v15.1.map Ai))]) (fun j17 h => ?_) (fun v17 h => ?_)
     ·refine Aa Ae rfl (qm rfl (qf Pf rfl (ql VP rfl (AT Tz rfl (A8 rfl (qm rfl ?_))))))
      refine AI (t := 69) rfl (fun c18 => ?_) (fun c18 => ?_)
      ·have h := Aq c18 h
       refine qf Bu rfl (ql A9 rfl (Fc AF rfl (FP rfl (qp rfl (Ac ?_)))))
       exact Aw _ h (sm [(2022, 2014), (2023, 2015), (2024, 2016), (2025, 2017)] _ _ rfl rfl)
      ·have h := Ap c18 h
       refine qn rfl (qn rfl (qn rfl (qn rfl (qp rfl (Ac ?_)))))
       exact Aw _ h (sm [(2022, 2014), (2023, 2015), (2024, 2016), (2025, 2017)] _ _ rfl rfl)
     ·refine As rfl (fun c19 => ?_) (fun c19 => ?_)
      ·have h := Aq c19 h
       refine Au (Ab (AV (Ab (Aa Ae rfl (qf Pf rfl (ql VP rfl (qm rfl ?_)))))))
       obtain ⟨v20, a20, b20, h⟩ := An h
       refine qi Tz VO a20 (Aj b20) rfl (qK XK VO rfl (qz XF rfl (qs VO rfl (Ac (Ab (Aa Ae rfl (qf TP rfl (ql Xk rfl (Lr rfl (by decide) (IC Wa Vb rfl (Bo rfl (qf Uy rfl (ql Xk rfl (IC Wa Vb rfl (qf Bu rfl (ql A9 rfl (Fc AF rfl ?_)))))))))))))))))
       obtain ⟨c21, h⟩ := AO h
       refine Lr rfl c21 (qf TY rfl (ql Xk rfl (IC Wa Vb rfl (qf Bu rfl (ql A9 rfl (Fc AF rfl ?_))))))
       obtain ⟨c22, h⟩ := AO h
       refine Lr rfl c22 (AZ Kc WR rfl (qz Kc rfl (qs DV rfl (AY (by kernel_rfl) ?_))))
       refine AW h (fun v23 => mk [(1, .e (.one (.ptr 1 0))), (2, .e (.one (.ptr 2 0))), (4, .e (.one (.ptr 4 0))), (7, .e (.one (.pure (.val (.int .i64 v15.2))))), (8, .e (.one (.ptr 8 0))), (9, .e (.one (.ptr 9 0)))] [(1, .box [.pure (.sl (p0.fVersions.map A6)), .pure (.sl (p0.fNow.map A6)), .pure (.sl (p0.fTarget.map A6)), .pure (.sl (p0.fLinks.map BI))]), (2, .box [.pure (.nil0), .pure (.nil0), .pure (.nil0), .pure (.nil0)]), (4, .box [.own 2026, .own 2027, .own 2028, .own 2029]), (8, .box [.pure (.val (.int .u8 v20.fKind)), .pure (.val (.int .u8 v20.fFrom)), .pure (.val (.int .u8 v20.fTo)), .pure (.val (.bool v20.fAware)), .pure (.val (.int .u16 v20.fBad)), .pure (.val (.int .u16 v20.fLost))]), (9, .box [.pure (.val (.int .i64 ((IntKind.wrap .i64 (1 + (IntKind.wrap .i64 ((Int.tmod v20.fKind 4)))))))), .pure (.val (.int .i64 ((Int.tmod ((IntKind.wrap .i64 v20.fFrom)) ((v5.1.length : Int)))))), .pure (.val (.int .i64 ((Int.tmod ((IntKind.wrap .i64 v20.fTo)) ((v5.1.length : Int)))))), .pure (.val (.bool v23)), .pure (.nil0), .pure (.nil0)]), (2026, .vec 1 (v5.1.map Ag)), (2027, .vec 1 (v5.2.1.map Ag)), (2028, .vec 1 (v5.2.2.map Ag)), (2029, .vec 6 (v15.1.map Ai))]) (fun j23 h => ?_) (fun v23 h => ?_)
       ·refine Aa Ae rfl (qf Ug rfl (ql Rb rfl (qm rfl ?_)))
        refine AI (t := 104) rfl (fun c24 => ?_) (fun c24 => ?_)
        ·have h := Aq c24 h
         refine qL GK DV rfl ?_
         obtain ⟨v25, a25, h⟩ := bind_some h
         refine AJ [] (Cd N ((AG.mk ((IntKind.wrap .i64 (1 + (IntKind.wrap .i64 ((Int.tmod v20.fKind 4)))))) ((Int.tmod ((IntKind.wrap .i64 v20.fFrom)) ((v5.1.length : Int)))) ((Int.tmod ((IntKind.wrap .i64 v20.fTo)) ((v5.1.length : Int)))) false (([] : List (List Bool))) (([] : List (List Bool))))) v25 a25) O0 rfl (CE rfl (qp rfl (qf Ib rfl (qs Pw rfl (Ac ?_)))))
         exact Aw _ h (sm [(2026, 2022), (2027, 2023), (2028, 2024), (2029, 2025)] _ _ rfl rfl)
        ·have h := Ap c24 h
         refine qn rfl (qn rfl (qn rfl (qp rfl (qf Ib rfl (qs Pw rfl (Ac ?_))))))
         exact Aw _ h (sm [(2026, 2022), (2027, 2023), (2028, 2024), (2029, 2025)] _ _ rfl rfl)
       ·refine Ab (Aa Ae rfl (qf Bu rfl (ql A9 rfl (qf CX rfl (ql Cb rfl ?_)))))
        obtain ⟨v26, a26, b26, h⟩ := An h
        refine qI AF Df a26 (Aj b26) rfl (qj Cb (Aj b26) rfl (qf Bu rfl (ql A9 rfl (qf HA rfl (ql Cb rfl ?_)))))
        obtain ⟨v27, a27, b27, h⟩ := An h
        refine qI AF Df a27 (Aj b27) rfl (qj Cb (Aj b27) rfl (qf UV rfl (ql Xb rfl ?_)))
        obtain ⟨v28, a28, h⟩ := bind_some h
        refine AJ [2030] (HZ N v26 v27 v20.fBad false v28 a28) WS rfl (qf I4 rfl (qs WI rfl (AY (by kernel_rfl) ?_)))
        refine AW h (fun v29 => mk [(1, .e (.one (.ptr 1 0))), (2, .e (.one (.ptr 2 0))), (4, .e (.one (.ptr 4 0))), (7, .e (.one (.pure (.val (.int .i64 v15.2))))), (9, .e (.one (.ptr 9 0)))] [(1, .box [.pure (.sl (p0.fVersions.map A6)), .pure (.sl (p0.fNow.map A6)), .pure (.sl (p0.fTarget.map A6)), .pure (.sl (p0.fLinks.map BI))]), (2, .box [.pure (.nil0), .pure (.nil0), .pure (.nil0), .pure (.nil0)]), (4, .box [.own 2031, .own 2032, .own 2033, .own 2034]), (9, .box [.pure (.val (.int .i64 ((IntKind.wrap .i64 (1 + (IntKind.wrap .i64 ((Int.tmod v20.fKind 4)))))))), .pure (.val (.int .i64 ((Int.tmod ((IntKind.wrap .i64 v20.fFrom)) ((v5.1.length : Int)))))), .pure (.val (.int .i64 ((Int.tmod ((IntKind.wrap .i64 v20.fTo)) ((v5.1.length : Int)))))), .pure (.val (.bool v23)), .own 2035, .own 2036]), (2031, .vec 1 (v5.1.map Ag)), (2032, .vec 1 (v5.2.1.map Ag)), (2033, .vec 1 (v5.2.2.map Ag)), (2034, .vec 6 (v15.1.map Ai)), (2035, .vec 1 (v28.map (Es eB))), (2036, .vec 1 (v29.map (Es eB)))]) (fun j29 h => ?_) (fun v29 h => ?_)
        ·refine Ab (Aa Ae rfl (qf Fr rfl (ql Cb rfl (BY rfl (Ac ?_)))))
         refine As rfl (fun c30 => ?_) (fun c30 => ?_)
         ·have h := Aq c30 h
          refine Aa Ae rfl (qf Bu rfl (ql A9 rfl (qf CX rfl (ql Cb rfl ?_))))
          obtain ⟨v31, a31, b31, h⟩ := An h
          refine qI AF Df a31 (Aj b31) rfl (qj Cb (Aj b31) rfl (qf Bu rfl (ql A9 rfl (qf CX rfl (ql Cb rfl ?_)))))
          obtain ⟨v32, a32, b32, h⟩ := An h
          refine qI AF Df a32 (Aj b32) rfl (qj Cb (Aj b32) rfl (qf UK rfl (ql Xb rfl ?_)))
          obtain ⟨v33, a33, h⟩ := bind_some h
          refine AJ [2037] (HZ N v31 v32 v20.fLost true v33 a33) WS rfl (qf Gd rfl (qs WI rfl (AY (by kernel_rfl) ?_)))
          exact Aw _ h (sm [(2031, 2026), (2032, 2027), (2033, 2028), (2034, 2029), (2035, 2030), (2036, 2037)] _ _ rfl rfl)
         ·have h := Ap c30 h
          refine Au ?_
          exact Aw _ h ((AE 9 5 2038 1 _ rfl rfl rfl rfl).trans (sm [(2031, 2026), (2032, 2027), (2033, 2028), (2034, 2029), (2035, 2030), (2036, 2038)] _ _ rfl rfl))
        ·refine Aa Ae rfl (qf CG rfl (ql GE rfl (qL GK DV rfl (D1 (Bq 2035 _ _ rfl rfl) (D1 (Bq 2036 _ _ rfl rfl) (Ex DQ DV Kc rfl ?_))))))
         obtain ⟨c34, h⟩ := AO h
         refine DM (f := Ai) DQ DQ DV WD Kc c34 rfl (qf CG rfl (qs XE rfl (Ac (Aa Ae rfl (qm rfl (Bo rfl (qa rfl (Ac ?_))))))))
         exact Aw _ h (sm [(2014, 2031), (2015, 2032), (2016, 2033), (2017, 149)] _ _ rfl rfl)
      ·have h := Ap c19 h
       refine A5 ?_
       exact Aw _ h (sm [(2018, 2022), (2019, 2023), (2020, 2024), (2021, 2025)] _ _ rfl rfl)
    ·refine Al hs (Ab (Aa Ae rfl (qL Dl CV rfl (qs CV rfl (qa rfl (Ac ?_))))))
     obtain rfl := sj h
     refine Al (sm [(1000, 2018), (1001, 2019), (1002, 2020), (1003, 2021)] [(2, .e (.one (.ptr 2 0))), (3, .e (.one (.pure (.val (.bool true)))))] [(2, .box [.own 1000, .own 1001, .own 1002, .own 1003]), (1000, .vec 1 (v5.1.map Ag)), (1001, .vec 1 (v5.2.1.map Ag)), (1002, .vec 1 (v5.2.2.map Ag)), (1003, .vec 6 (v16.map Ai))] rfl rfl) (AA ?_)
     exact ⟨⟨[_, _], ⟨.cellN _ _ _ _ _ _ _ rfl rfl Dl CV rfl rfl (FT rfl), ⟨.tmp _ _ rfl, trivial⟩⟩, rfl⟩, ⟨rfl, rfl, rfl, rfl, trivial⟩⟩
set_option maxRecDepth 10000 in
theorem Hd (N : Nat) (p0 : List (List Bool)) (p1 : Int) (p2 : Int) (r : Bool) (h : De N p0 p1 p2 = some r) : AB Try.prog 91 [.e (.one (.pure (.sl (p0.map (Es eB))))), .e (.one (.pure (.val (.int .i64 p1)))), .e (.one (.pure (.val (.int .i64 p2))))] [] (.e (.one (.pure (.val (.bool r))))) := by
 unfold De at h
 refine Ao (n := 24) (rs := [.tmp 6]) Try.func91 rfl rfl rfl (BE rfl) (BE rfl) rfl fun w0 S0 => ?_
 refine Ab (Aa Ae rfl (qa rfl (Ac (Ab (Ab (Aa Ae rfl (qm rfl (AT FR rfl (qm rfl (Cn rfl (Ac ?_)))))))))))
 refine As rfl (fun c1 => ?_) (fun c1 => ?_)
 ·have h := Aq c1 h
  refine Ab (Aa Ae rfl (qa rfl (Ac ?_)))
  obtain rfl := sj h
  refine Al (sm [] [(6, .e (.one (.pure (.val (.bool false)))))] [] rfl rfl) (AA ?_)
  exact ⟨⟨[_], ⟨.tmp _ _ rfl, trivial⟩, rfl⟩, trivial⟩
 ·have h := Ap c1 h
  refine Au (Ab (Ab (Aa Ae rfl (qa rfl (Ac ?_)))))
  refine AS (L := Ci N p0 p1 p2) h (fun v2 => mk [(0, .e (.one (.pure (.sl (p0.map (Es eB)))))), (1, .e (.one (.pure (.val (.int .i64 p1))))), (2, .e (.one (.pure (.val (.int .i64 p2))))), (7, .e (.one (.pure (.val (.int .i64 v2)))))] []) (fun v3 => mk [] []) (fun _ _ => rfl) (sm [] _ _ rfl rfl) (fun j2 n2 v2 h => ?_) (fun v3 s h hs => ?_)
  ·unfold Ci at h
   refine Ab (Ab (Aa Ae rfl (qm rfl (qm rfl (A8 rfl (Ac ?_))))))
   refine As rfl (fun c4 => ?_) (fun c4 => ?_)
   ·have h := Aq c4 h
    refine Au (Ab (AV (Ab (Aa Ae rfl (qm rfl (qm rfl ?_))))))
    obtain ⟨v5, a5, b5, h⟩ := An h
    refine qi FR Mk a5 (Aj b5) rfl (qk OS rfl (AT F6 rfl (qm rfl (Cn rfl (Ac ?_)))))
    refine As rfl (fun c6 => ?_) (fun c6 => ?_)
    ·have h := Aq c6 h
     refine Ab (Aa Ae rfl (qa rfl (Ac ?_)))
     obtain rfl := sj h
     refine Al (sm [] [(6, .e (.one (.pure (.val (.bool false)))))] [] rfl rfl) (AA ?_)
     exact ⟨⟨[_], ⟨.tmp _ _ rfl, trivial⟩, rfl⟩, trivial⟩
    ·have h := Ap c6 h
     refine Au (Aa Ae rfl (qm rfl (Bo rfl (qa rfl (Ac ?_)))))
     exact Aw _ h (sm [] _ _ rfl rfl)
   ·have h := Ap c4 h
    refine A5 ?_
    exact Aw _ h (sm [] _ _ rfl rfl)
  ·refine Al hs (Ab (Aa Ae rfl (qa rfl (Ac ?_))))
   obtain rfl := sj h
   refine Al (sm [] [(6, .e (.one (.pure (.val (.bool true)))))] [] rfl rfl) (AA ?_)
   exact ⟨⟨[_], ⟨.tmp _ _ rfl, trivial⟩, rfl⟩, trivial⟩
set_option maxRecDepth 10000 in
theorem Kf (N : Nat) (p0 : Ad) (p1 : AG) (r : Int) (h : D5 N p0 p1 = some r) : AB Try.prog 64 [.e (.agg [.pure (.sl (p0.fVersions.map Ag)), .pure (.sl (p0.fNow.map Ag)), .pure (.sl (p0.fTarget.map Ag)), .pure (.sl (p0.fTables.map Ai))]), .e (.agg [.pure (.val (.int .i64 p1.fKind)), .pure (.val (.int .i64 p1.fFrom)), .pure (.val (.int .i64 p1.fTo)), .pure (.val (.bool p1.fAware)), .pure (.sl (p1.fOK.map (Es eB))), .pure (.sl (p1.fRewrite.map (Es eB)))])] [] (.e (.one (.pure (.val (.int .i64 r))))) := by
 unfold D5 at h
 refine Ao (n := 101) (rs := [.tmp 4]) Try.func64 rfl rfl rfl (BE rfl) (BE rfl) rfl fun w0 S0 => ?_
 refine Ab (Aa Ae rfl (qb rfl (qb rfl (qa rfl (Ac (Ab ?_))))))
 refine AW h (fun v1 => mk [(2, .e (.one (.ptr 2 0))), (3, .e (.one (.ptr 3 0))), (22, .e (.one (.pure (.val (.bool v1)))))] [(2, .box [.pure (.sl (p0.fVersions.map Ag)), .pure (.sl (p0.fNow.map Ag)), .pure (.sl (p0.fTarget.map Ag)), .pure (.sl (p0.fTables.map Ai))]), (3, .box [.pure (.val (.int .i64 p1.fKind)), .pure (.val (.int .i64 p1.fFrom)), .pure (.val (.int .i64 p1.fTo)), .pure (.val (.bool p1.fAware)), .pure (.sl (p1.fOK.map (Es eB))), .pure (.sl (p1.fRewrite.map (Es eB)))])]) (fun j1 h => ?_) (fun v1 h => ?_)
 ·refine Aa Ae rfl (qf Fr rfl (ql Cb rfl (A8 rfl (qm rfl ?_))))
  refine AI (t := 10) rfl (fun c2 => ?_) (fun c2 => ?_)
  ·have h := Aq c2 h
   refine qn rfl (qn rfl (qn rfl (qp rfl (qm rfl (qn rfl (qn rfl (qn rfl (qu rfl (qu rfl (qn rfl (qp rfl (Ac ?_))))))))))))
   exact Aw _ h (sm [] _ _ rfl rfl)
  ·have h := Ap c2 h
   refine qf Fr rfl (ql Cb rfl (FP rfl (qp rfl (qm rfl ?_))))
   refine AI (t := 15) rfl (fun c3 => ?_) (fun c3 => ?_)
   ·have h := Aq c3 h
    refine qn rfl (qn rfl (qn rfl (qu rfl (qu rfl (qn rfl (qp rfl (Ac ?_)))))))
    exact Aw _ h (sm [] _ _ rfl rfl)
   ·have h := Ap c3 h
    refine qf Ib rfl (ql Rb rfl (qm rfl ?_))
    refine AI (t := 18) rfl (fun c4 => ?_) (fun c4 => ?_)
    ·have h := Aq c4 h
     refine qL GK DV rfl ?_
     obtain ⟨v5, a5, h⟩ := bind_some h
     refine AJ [] (Cd N p1 v5 a5) O0 rfl (qp rfl (qp rfl (Ac ?_)))
     exact Aw _ h (sm [] _ _ rfl rfl)
    ·have h := Ap c4 h
     refine qn rfl (qn rfl (qp rfl (qp rfl (Ac ?_))))
     exact Aw _ h (sm [] _ _ rfl rfl)
 ·refine As rfl (fun c6 => ?_) (fun c6 => ?_)
  ·have h := Aq c6 h
   refine Ab (Aa Ae rfl (qa rfl (Ac ?_)))
   obtain rfl := sj h
   refine Al (sm [] [(4, .e (.one (.pure (.val (.int .i64 1)))))] [] rfl rfl) (AA ?_)
   exact ⟨⟨[_], ⟨.tmp _ _ rfl, trivial⟩, rfl⟩, trivial⟩
  ·have h := Ap c6 h
   refine Au (Ab (Aa Ae rfl (qf Bu rfl (ql A9 rfl (AT AF rfl (qa rfl (Ac (Ab ?_))))))))
   refine AW h (fun v7 => mk [(2, .e (.one (.ptr 2 0))), (3, .e (.one (.ptr 3 0))), (45, .e (.one (.pure (.val (.bool v7)))))] [(2, .box [.pure (.sl (p0.fVersions.map Ag)), .pure (.sl (p0.fNow.map Ag)), .pure (.sl (p0.fTarget.map Ag)), .pure (.sl (p0.fTables.map Ai))]), (3, .box [.pure (.val (.int .i64 p1.fKind)), .pure (.val (.int .i64 p1.fFrom)), .pure (.val (.int .i64 p1.fTo)), .pure (.val (.bool p1.fAware)), .pure (.sl (p1.fOK.map (Es eB))), .pure (.sl (p1.fRewrite.map (Es eB)))])]) (fun j7 h => ?_) (fun v7 h => ?_)
   ·refine Aa Ae rfl (qf CX rfl (ql Cb rfl (A8 rfl (qm rfl ?_))))
    refine AI (t := 29) rfl (fun c8 => ?_) (fun c8 => ?_)
    ·have h := Aq c8 h
     refine qn rfl (qn rfl (qn rfl (qn rfl (qp rfl (qm rfl (qn rfl (qn rfl (qn rfl (qp rfl (qm rfl (qn rfl (qn rfl (qn rfl (qn rfl (qp rfl (Ac ?_))))))))))))))))
     exact Aw _ h (sm [] _ _ rfl rfl)
    ·have h := Ap c8 h
     refine qf CX rfl (ql Cb rfl (qm rfl (EE rfl (qp rfl (qm rfl ?_)))))
     refine AI (t := 35) rfl (fun c9 => ?_) (fun c9 => ?_)
     ·have h := Aq c9 h
      refine qn rfl (qn rfl (qn rfl (qp rfl (qm rfl (qn rfl (qn rfl (qn rfl (qn rfl (qp rfl (Ac ?_))))))))))
      exact Aw _ h (sm [] _ _ rfl rfl)
     ·have h := Ap c9 h
      refine qf HA rfl (ql Cb rfl (A8 rfl (qp rfl (qm rfl ?_))))
      refine AI (t := 40) rfl (fun c10 => ?_) (fun c10 => ?_)
      ·have h := Aq c10 h
       refine qn rfl (qn rfl (qn rfl (qn rfl (qp rfl (Ac ?_)))))
       exact Aw _ h (sm [] _ _ rfl rfl)
      ·have h := Ap c10 h
       refine qf HA rfl (ql Cb rfl (qm rfl (EE rfl (qp rfl (Ac ?_)))))
       exact Aw _ h (sm [] _ _ rfl rfl)
   ·refine As rfl (fun c11 => ?_) (fun c11 => ?_)
    ·have h := Aq c11 h
     refine Ab (Aa Ae rfl (qa rfl (Ac ?_)))
     obtain rfl := sj h
     refine Al (sm [] [(4, .e (.one (.pure (.val (.int .i64 4)))))] [] rfl rfl) (AA ?_)
     exact ⟨⟨[_], ⟨.tmp _ _ rfl, trivial⟩, rfl⟩, trivial⟩
    ·have h := Ap c11 h
     refine Au (Ab (Ab (Aa Ae rfl (qf I4 rfl (ql Jo rfl (qf Bu rfl (ql A9 rfl (qf CX rfl (ql Cb rfl ?_)))))))))
     obtain ⟨v12, a12, b12, h⟩ := An h
     refine qi AF Df a12 (Aj b12) rfl (qk Cb rfl (qf Bu rfl (ql A9 rfl (qf HA rfl (ql Cb rfl ?_)))))
     obtain ⟨v13, a13, b13, h⟩ := An h
     refine qi AF Df a13 (Aj b13) rfl (qk Cb rfl ?_)
     obtain ⟨v14, a14, h⟩ := bind_some h
     refine AJ [] (Hd N p1.fOK v12 v13 v14 a14) Xf rfl (CE rfl (AY (by kernel_rfl) ?_))
     refine As rfl (fun c15 => ?_) (fun c15 => ?_)
     ·have h := Aq c15 h
      refine Ab (Aa Ae rfl (qa rfl (Ac ?_)))
      obtain rfl := sj h
      refine Al (sm [] [(4, .e (.one (.pure (.val (.int .i64 6)))))] [] rfl rfl) (AA ?_)
      exact ⟨⟨[_], ⟨.tmp _ _ rfl, trivial⟩, rfl⟩, trivial⟩
     ·have h := Ap c15 h
      refine Au (Ab (Ab (Aa Ae rfl (qf Fr rfl (ql Cb rfl (Cn rfl (Ac ?_)))))))
      refine As rfl (fun c16 => ?_) (fun c16 => ?_)
      ·have h := Aq c16 h
       refine Ab (Ab (Aa Ae rfl (qf Gd rfl (ql Jo rfl (AT FR rfl (Cn rfl (Ac ?_)))))))
       refine As rfl (fun c17 => ?_) (fun c17 => ?_)
       ·have h := Aq c17 h
        refine Ab (Aa Ae rfl (qa rfl (Ac ?_)))
        obtain rfl := sj h
        refine Al (sm [] [(4, .e (.one (.pure (.val (.int .i64 6)))))] [] rfl rfl) (AA ?_)
        exact ⟨⟨[_], ⟨.tmp _ _ rfl, trivial⟩, rfl⟩, trivial⟩
       ·have h := Ap c17 h
        refine Au (Ab (Aa Ae rfl (qa rfl (Ac ?_))))
        obtain rfl := sj h
        refine Al (sm [] [(4, .e (.one (.pure (.val (.int .i64 0)))))] [] rfl rfl) (AA ?_)
        exact ⟨⟨[_], ⟨.tmp _ _ rfl, trivial⟩, rfl⟩, trivial⟩
      ·have h := Ap c16 h
       refine Au (Ab (Ab (Aa Ae rfl (qf Gd rfl (ql Jo rfl (qf Bu rfl (ql A9 rfl (qf CX rfl (ql Cb rfl ?_)))))))))
       obtain ⟨v18, a18, b18, h⟩ := An h
       refine qi AF Df a18 (Aj b18) rfl (qk Cb rfl (qf Bu rfl (ql A9 rfl (qf CX rfl (ql Cb rfl ?_)))))
       obtain ⟨v19, a19, b19, h⟩ := An h
       refine qi AF Df a19 (Aj b19) rfl (qk Cb rfl ?_)
       obtain ⟨v20, a20, h⟩ := bind_some h
       refine AJ [] (Hd N p1.fRewrite v18 v19 v20 a20) Xf rfl (CE rfl (AY (by kernel_rfl) ?_))
       refine As rfl (fun c21 => ?_) (fun c21 => ?_)
       ·have h := Aq c21 h
        refine Ab (Aa Ae rfl (qa rfl (Ac ?_)))
        obtain rfl := sj h
        refine Al (sm [] [(4, .e (.one (.pure (.val (.int .i64 6)))))] [] rfl rfl) (AA ?_)
        exact ⟨⟨[_], ⟨.tmp _ _ rfl, trivial⟩, rfl⟩, trivial⟩
       ·have h := Ap c21 h
        refine Au (Ab (Ab (Aa Ae rfl (qa rfl (Ac ?_)))))
        refine AS (L := BX N p1) h (fun v22 => mk [(3, .e (.one (.ptr 3 0))), (6, .e (.one (.pure (.val (.int .i64 v22)))))] [(3, .box [.pure (.val (.int .i64 p1.fKind)), .pure (.val (.int .i64 p1.fFrom)), .pure (.val (.int .i64 p1.fTo)), .pure (.val (.bool p1.fAware)), .pure (.sl (p1.fOK.map (Es eB))), .pure (.sl (p1.fRewrite.map (Es eB)))])]) (fun v23 => mk [] []) (fun _ _ => rfl) (sm [] _ _ rfl rfl) (fun j22 n22 v22 h => ?_) (fun v23 s h hs => ?_)
        ·unfold BX at h
         refine Ab (Ab (Aa Ae rfl (qm rfl (qf Gd rfl (ql Jo rfl (AT FR rfl (A8 rfl (Ac ?_))))))))
         refine As rfl (fun c24 => ?_) (fun c24 => ?_)
         ·have h := Aq c24 h
          refine Au (Ab (AV (Ab (Aa Ae rfl (qf Gd rfl (ql Jo rfl (qm rfl ?_)))))))
          obtain ⟨v25, a25, b25, h⟩ := An h
          refine qi FR Mk a25 (Aj b25) rfl (qk OS rfl (qm rfl ?_))
          obtain ⟨v26, a26, b26, h⟩ := An h
          refine qi F6 Pw a26 (Aj b26) rfl (qk Rb rfl (CE rfl (Ac ?_)))
          refine As rfl (fun c27 => ?_) (fun c27 => ?_)
          ·have h := Aq c27 h
           refine Ab (Aa Ae rfl (qa rfl (Ac ?_)))
           obtain rfl := sj h
           refine Al (sm [] [(4, .e (.one (.pure (.val (.int .i64 1)))))] [] rfl rfl) (AA ?_)
           exact ⟨⟨[_], ⟨.tmp _ _ rfl, trivial⟩, rfl⟩, trivial⟩
          ·have h := Ap c27 h
           refine Au (Aa Ae rfl (qm rfl (Bo rfl (qa rfl (Ac ?_)))))
           exact Aw _ h (sm [] _ _ rfl rfl)
         ·have h := Ap c24 h
          refine A5 ?_
          exact Aw _ h (sm [] _ _ rfl rfl)
        ·refine Al hs (Ab (Aa Ae rfl (qa rfl (Ac ?_))))
         obtain rfl := sj h
         refine Al (sm [] [(4, .e (.one (.pure (.val (.int .i64 0)))))] [] rfl rfl) (AA ?_)
         exact ⟨⟨[_], ⟨.tmp _ _ rfl, trivial⟩, rfl⟩, trivial⟩
end Go.Lift

/- That the code does what the shallow programs do, function by function. Written by a program (gen.py). -/
namespace Go.Lift
open Go.RowKit
open Go.Proofs
set_option maxRecDepth 10000 in
theorem FF (N : Nat) (p0 : Ad) (r : Int) (h : Cl N p0 = some r) : AB Try.prog 33 [.e (.agg [.pure (.sl (p0.fVersions.map Ag)), .pure (.sl (p0.fNow.map Ag)), .pure (.sl (p0.fTarget.map Ag)), .pure (.sl (p0.fTables.map Ai))])] [] (.e (.one (.pure (.val (.int .i64 r))))) := by
 unfold Cl at h
 refine Ao (n := 102) (rs := [.tmp 2]) Try.func33 rfl rfl rfl (BE rfl) (BE rfl) rfl fun w0 S0 => ?_
 refine Ab (Aa Ae rfl (qb rfl (qa rfl (Ac (Ab ?_)))))
 refine AW h (fun v1 => mk [(1, .e (.one (.ptr 1 0))), (16, .e (.one (.pure (.val (.bool v1)))))] [(1, .box [.pure (.sl (p0.fVersions.map Ag)), .pure (.sl (p0.fNow.map Ag)), .pure (.sl (p0.fTarget.map Ag)), .pure (.sl (p0.fTables.map Ai))])]) (fun j1 h => ?_) (fun v1 h => ?_)
 ·refine Aa Ae rfl (qf Bu rfl (ql A9 rfl (AT AF rfl (FP rfl (qm rfl ?_)))))
  refine AI (t := 11) rfl (fun c2 => ?_) (fun c2 => ?_)
  ·have h := Aq c2 h
   refine qn rfl (qn rfl (qn rfl (qn rfl (qp rfl (Ac ?_)))))
   exact Aw _ h (sm [] _ _ rfl rfl)
  ·have h := Ap c2 h
   refine qf CG rfl (ql GE rfl (AT DQ rfl (FP rfl (qp rfl (Ac ?_)))))
   exact Aw _ h (sm [] _ _ rfl rfl)
 ·refine As rfl (fun c3 => ?_) (fun c3 => ?_)
  ·have h := Aq c3 h
   refine Ab (Aa Ae rfl (qa rfl (Ac ?_)))
   obtain rfl := sj h
   refine Al (sm [] [(2, .e (.one (.pure (.val (.int .i64 3)))))] [] rfl rfl) (AA ?_)
   exact ⟨⟨[_], ⟨.tmp _ _ rfl, trivial⟩, rfl⟩, trivial⟩
  ·have h := Ap c3 h
   refine Au (Ab ?_)
   refine AW h (fun v4 => mk [(1, .e (.one (.ptr 1 0))), (32, .e (.one (.pure (.val (.bool v4)))))] [(1, .box [.pure (.sl (p0.fVersions.map Ag)), .pure (.sl (p0.fNow.map Ag)), .pure (.sl (p0.fTarget.map Ag)), .pure (.sl (p0.fTables.map Ai))])]) (fun j4 h => ?_) (fun v4 h => ?_)
   ·refine Aa Ae rfl (qf F9 rfl (ql A9 rfl (AT AF rfl (qf Bu rfl (ql A9 rfl (AT AF rfl (Cn rfl (qm rfl ?_))))))))
    refine AI (t := 24) rfl (fun c5 => ?_) (fun c5 => ?_)
    ·have h := Aq c5 h
     refine qn rfl (qn rfl (qn rfl (qn rfl (qn rfl (qn rfl (qn rfl (qp rfl (Ac ?_))))))))
     exact Aw _ h (sm [] _ _ rfl rfl)
    ·have h := Ap c5 h
     refine qf Hx rfl (ql A9 rfl (AT AF rfl (qf Bu rfl (ql A9 rfl (AT AF rfl (Cn rfl (qp rfl (Ac ?_))))))))
     exact Aw _ h (sm [] _ _ rfl rfl)
   ·refine As rfl (fun c6 => ?_) (fun c6 => ?_)
    ·have h := Aq c6 h
     refine Ab (Aa Ae rfl (qa rfl (Ac ?_)))
     obtain rfl := sj h
     refine Al (sm [] [(2, .e (.one (.pure (.val (.int .i64 6)))))] [] rfl rfl) (AA ?_)
     exact ⟨⟨[_], ⟨.tmp _ _ rfl, trivial⟩, rfl⟩, trivial⟩
    ·have h := Ap c6 h
     refine Au (Ab (Ab (Aa Ae rfl (qa rfl (Ac ?_)))))
     refine AS (L := Bj N p0) h (fun v7 => mk [(1, .e (.one (.ptr 1 0))), (3, .e (.one (.pure (.val (.int .i64 v7)))))] [(1, .box [.pure (.sl (p0.fVersions.map Ag)), .pure (.sl (p0.fNow.map Ag)), .pure (.sl (p0.fTarget.map Ag)), .pure (.sl (p0.fTables.map Ai))])]) (fun v8 => mk [(1, .e (.one (.ptr 1 0)))] [(1, .box [.pure (.sl (p0.fVersions.map Ag)), .pure (.sl (p0.fNow.map Ag)), .pure (.sl (p0.fTarget.map Ag)), .pure (.sl (p0.fTables.map Ai))])]) (fun _ _ => rfl) (sm [] _ _ rfl rfl) (fun j7 n7 v7 h => ?_) (fun v8 s h hs => ?_)
     ·unfold Bj at h
      refine Ab (Ab (Aa Ae rfl (qm rfl (qf Bu rfl (ql A9 rfl (AT AF rfl (A8 rfl (Ac ?_))))))))
      refine As rfl (fun c9 => ?_) (fun c9 => ?_)
      ·have h := Aq c9 h
       refine Au (Ab (AV (Ab (Aa Ae rfl (qf Bu rfl (ql A9 rfl (qm rfl ?_)))))))
       obtain ⟨v10, a10, b10, h⟩ := An h
       refine qi AF Df a10 (Aj b10) rfl (qk Cb rfl (qa rfl (Ac ?_)))
       refine AW h (fun v11 => mk [(1, .e (.one (.ptr 1 0))), (3, .e (.one (.pure (.val (.int .i64 v7))))), (84, .e (.one (.pure (.val (.bool v11)))))] [(1, .box [.pure (.sl (p0.fVersions.map Ag)), .pure (.sl (p0.fNow.map Ag)), .pure (.sl (p0.fTarget.map Ag)), .pure (.sl (p0.fTables.map Ai))])]) (fun j11 h => ?_) (fun v11 h => ?_)
       ·refine Aa Ae rfl (qm rfl (A8 rfl (qm rfl ?_)))
        refine AI (t := 47) rfl (fun c12 => ?_) (fun c12 => ?_)
        ·have h := Aq c12 h
         refine qn rfl (qn rfl (qp rfl (qm rfl (qn rfl (qn rfl (qn rfl (qn rfl (qn rfl (qn rfl (qp rfl (qm rfl (qn rfl (qn rfl (qn rfl (qn rfl (qn rfl (qn rfl (qn rfl (qp rfl (qm rfl (qn rfl (qn rfl (qn rfl (qn rfl (qn rfl (qn rfl (qp rfl (qm rfl (qn rfl (qn rfl (qn rfl (qn rfl (qn rfl (qn rfl (qn rfl (qp rfl (Ac ?_)))))))))))))))))))))))))))))))))))))
         exact Aw _ h (sm [] _ _ rfl rfl)
        ·have h := Ap c12 h
         refine qm rfl (FP rfl (qp rfl (qm rfl ?_)))
         refine AI (t := 51) rfl (fun c13 => ?_) (fun c13 => ?_)
         ·have h := Aq c13 h
          refine qn rfl (qn rfl (qn rfl (qn rfl (qn rfl (qn rfl (qp rfl (qm rfl (qn rfl (qn rfl (qn rfl (qn rfl (qn rfl (qn rfl (qn rfl (qp rfl (qm rfl (qn rfl (qn rfl (qn rfl (qn rfl (qn rfl (qn rfl (qp rfl (qm rfl (qn rfl (qn rfl (qn rfl (qn rfl (qn rfl (qn rfl (qn rfl (qp rfl (Ac ?_)))))))))))))))))))))))))))))))))
          exact Aw _ h (sm [] _ _ rfl rfl)
         ·have h := Ap c13 h
          refine qf F9 rfl (ql A9 rfl (qm rfl ?_))
          obtain ⟨v14, a14, b14, h⟩ := An h
          refine qi AF Df a14 (Aj b14) rfl (qk Cb rfl (A8 rfl (qp rfl (qm rfl ?_))))
          refine AI (t := 59) rfl (fun c15 => ?_) (fun c15 => ?_)
          ·have h := Aq c15 h
           refine qn rfl (qn rfl (qn rfl (qn rfl (qn rfl (qn rfl (qn rfl (qp rfl (qm rfl (qn rfl (qn rfl (qn rfl (qn rfl (qn rfl (qn rfl (qp rfl (qm rfl (qn rfl (qn rfl (qn rfl (qn rfl (qn rfl (qn rfl (qn rfl (qp rfl (Ac ?_)))))))))))))))))))))))))
           exact Aw _ h (sm [] _ _ rfl rfl)
          ·have h := Ap c15 h
           refine qf F9 rfl (ql A9 rfl (qm rfl ?_))
           obtain ⟨v16, a16, b16, h⟩ := An h
           refine qi AF Df a16 (Aj b16) rfl (qk Cb rfl (qm rfl (EE rfl (qp rfl (qm rfl ?_)))))
           refine AI (t := 68) rfl (fun c17 => ?_) (fun c17 => ?_)
           ·have h := Aq c17 h
            refine qn rfl (qn rfl (qn rfl (qn rfl (qn rfl (qn rfl (qp rfl (qm rfl (qn rfl (qn rfl (qn rfl (qn rfl (qn rfl (qn rfl (qn rfl (qp rfl (Ac ?_))))))))))))))))
            exact Aw _ h (sm [] _ _ rfl rfl)
           ·have h := Ap c17 h
            refine qf Hx rfl (ql A9 rfl (qm rfl ?_))
            obtain ⟨v18, a18, b18, h⟩ := An h
            refine qi AF Df a18 (Aj b18) rfl (qk Cb rfl (A8 rfl (qp rfl (qm rfl ?_))))
            refine AI (t := 76) rfl (fun c19 => ?_) (fun c19 => ?_)
            ·have h := Aq c19 h
             refine qn rfl (qn rfl (qn rfl (qn rfl (qn rfl (qn rfl (qn rfl (qp rfl (Ac ?_))))))))
             exact Aw _ h (sm [] _ _ rfl rfl)
            ·have h := Ap c19 h
             refine qf Hx rfl (ql A9 rfl (qm rfl ?_))
             obtain ⟨v20, a20, b20, h⟩ := An h
             refine qi AF Df a20 (Aj b20) rfl (qk Cb rfl (qm rfl (EE rfl (qp rfl (Ac ?_)))))
             exact Aw _ h (sm [] _ _ rfl rfl)
       ·refine As rfl (fun c21 => ?_) (fun c21 => ?_)
        ·have h := Aq c21 h
         refine Ab (Aa Ae rfl (qa rfl (Ac ?_)))
         obtain rfl := sj h
         refine Al (sm [] [(2, .e (.one (.pure (.val (.int .i64 7)))))] [] rfl rfl) (AA ?_)
         exact ⟨⟨[_], ⟨.tmp _ _ rfl, trivial⟩, rfl⟩, trivial⟩
        ·have h := Ap c21 h
         refine Au (Aa Ae rfl (qm rfl (Bo rfl (qa rfl (Ac ?_)))))
         exact Aw _ h (sm [] _ _ rfl rfl)
      ·have h := Ap c9 h
       refine A5 ?_
       exact Aw _ h (sm [] _ _ rfl rfl)
     ·refine Al hs (Ab (Ab (Aa Ae rfl (qa rfl (Ac ?_)))))
      refine AS (L := Ba N p0) h (fun v22 => mk [(1, .e (.one (.ptr 1 0))), (5, .e (.one (.pure (.val (.int .i64 v22)))))] [(1, .box [.pure (.sl (p0.fVersions.map Ag)), .pure (.sl (p0.fNow.map Ag)), .pure (.sl (p0.fTarget.map Ag)), .pure (.sl (p0.fTables.map Ai))])]) (fun v23 => mk [] []) (fun _ _ => rfl) (sm [] _ _ rfl rfl) (fun j22 n22 v22 h => ?_) (fun v23 s h hs => ?_)
      ·unfold Ba at h
       refine Ab (Ab (Aa Ae rfl (qm rfl (qf CG rfl (ql GE rfl (AT DQ rfl (A8 rfl (Ac ?_))))))))
       refine As rfl (fun c24 => ?_) (fun c24 => ?_)
       ·have h := Aq c24 h
        refine Au (Ab (AV (Ab (Aa Ae rfl (qL Dl CV rfl (qf CG rfl (ql GE rfl (qm rfl ?_))))))))
        obtain ⟨v25, a25, b25, h⟩ := An h
        refine qi DQ DV a25 (Aj b25) rfl (qK GK DV rfl ?_)
        obtain ⟨v26, a26, h⟩ := bind_some h
        refine AJ [] (Kf N p0 v25 v26 a26) XO rfl (qa rfl (AY (by kernel_rfl) (Ab (Aa Ae rfl (qm rfl (Cn rfl (Ac ?_)))))))
        refine As rfl (fun c27 => ?_) (fun c27 => ?_)
        ·have h := Aq c27 h
         refine Ab (Aa Ae rfl (qm rfl (qa rfl (Ac ?_))))
         obtain rfl := sj h
         refine Al (sm [] [(2, .e (.one (.pure (.val (.int .i64 v26)))))] [] rfl rfl) (AA ?_)
         exact ⟨⟨[_], ⟨.tmp _ _ rfl, trivial⟩, rfl⟩, trivial⟩
        ·have h := Ap c27 h
         refine Au (Aa Ae rfl (qm rfl (Bo rfl (qa rfl (Ac ?_)))))
         exact Aw _ h (sm [] _ _ rfl rfl)
       ·have h := Ap c24 h
        refine A5 ?_
        exact Aw _ h (sm [] _ _ rfl rfl)
      ·refine Al hs (Ab (Aa Ae rfl (qa rfl (Ac ?_))))
       obtain rfl := sj h
       refine Al (sm [] [(2, .e (.one (.pure (.val (.int .i64 0)))))] [] rfl rfl) (AA ?_)
       exact ⟨⟨[_], ⟨.tmp _ _ rfl, trivial⟩, rfl⟩, trivial⟩
set_option maxRecDepth 10000 in
theorem Ho (N : Nat) (p0 : Ad) (r : Af × Int) (h : CS N p0 = some r) : AB Try.prog 29 [.e (.agg [.pure (.sl (p0.fVersions.map Ag)), .pure (.sl (p0.fNow.map Ag)), .pure (.sl (p0.fTarget.map Ag)), .pure (.sl (p0.fTables.map Ai))])] [(1, r.1.fBase.map Ag), (1, r.1.fNext.map Ag), (1, r.1.fHeld.map A6)] (.tup [.agg [.own 0, .own 1, .own 2], .one (.pure (.val (.int .i64 r.2)))]) := by
 unfold CS at h
 refine Ao (n := 68) (rs := [.cell 2 43, .tmp 3]) Try.func29 rfl rfl rfl (BE rfl) (BE rfl) rfl fun w0 S0 => ?_
 refine Ab (Aa Ae rfl (qb rfl (qz CF rfl (qa rfl (Ac (Ab (Ab (Aa Ae rfl (qL Dl CV rfl ?_)))))))))
 obtain ⟨v1, a1, h⟩ := bind_some h
 refine AJ [] (FF N p0 v1 a1) WO rfl (qa rfl (Ac (Ab (Aa Ae rfl (qm rfl (Cn rfl (Ac ?_)))))))
 refine As rfl (fun c2 => ?_) (fun c2 => ?_)
 ·have h := Aq c2 h
  refine Ab (Aa Ae rfl (AZ CF FN rfl (qm rfl (qs AQ rfl (qa rfl (Ac ?_))))))
  obtain rfl := sj h
  refine Al ((AE 2 0 2001 1 _ rfl rfl rfl rfl).trans ((AE 2 1 2002 1 _ rfl rfl rfl rfl).trans ((AE 2 2 2003 1 _ rfl rfl rfl rfl).trans (sm [(1000, 2001), (1001, 2002), (1002, 2003)] [(2, .e (.one (.ptr 2 0))), (3, .e (.one (.pure (.val (.int .i64 v1)))))] [(2, .box [.own 1000, .own 1001, .own 1002]), (1000, .vec 1 ((([] : List Int)).map Ag)), (1001, .vec 1 ((([] : List Int)).map Ag)), (1002, .vec 1 ((([] : List Int)).map A6))] rfl rfl)))) (AA ?_)
  exact ⟨⟨[_, _], ⟨.cellN _ _ _ _ _ _ _ rfl rfl Be AQ rfl rfl (FT rfl), ⟨.tmp _ _ rfl, trivial⟩⟩, rfl⟩, ⟨rfl, rfl, rfl, trivial⟩⟩
 ·have h := Ap c2 h
  refine Au (Ab (Aa Ae rfl (qz CF rfl (Ac (Ab (Ab (Aa Ae rfl (qa rfl (Ac ?_)))))))))
  refine AS (L := B4 N p0) h (fun v3 => mk [(1, .e (.one (.ptr 1 0))), (2, .e (.one (.ptr 2 0))), (5, .e (.one (.ptr 5 0))), (6, .e (.one (.pure (.val (.int .i64 v3.2.2)))))] [(1, .box [.pure (.sl (p0.fVersions.map Ag)), .pure (.sl (p0.fNow.map Ag)), .pure (.sl (p0.fTarget.map Ag)), .pure (.sl (p0.fTables.map Ai))]), (2, .box [.pure (.nil0), .pure (.nil0), .pure (.nil0)]), (5, .box [.own 2004, .own 2005, .pure (.nil0)]), (2004, .vec 1 (v3.1.map Ag)), (2005, .vec 1 (v3.2.1.map Ag))]) (fun v4 => mk [(1, .e (.one (.ptr 1 0))), (2, .e (.one (.ptr 2 0))), (5, .e (.one (.ptr 5 0)))] [(1, .box [.pure (.sl (p0.fVersions.map Ag)), .pure (.sl (p0.fNow.map Ag)), .pure (.sl (p0.fTarget.map Ag)), .pure (.sl (p0.fTables.map Ai))]), (2, .box [.pure (.nil0), .pure (.nil0), .pure (.nil0)]), (5, .box [.own 2006, .own 2007, .pure (.nil0)]), (2006, .vec 1 (v4.1.map Ag)), (2007, .vec 1 (v4.2.map Ag))]) (fun _ _ => rfl) ((AE 5 0 2008 1 _ rfl rfl rfl rfl).trans ((AE 5 1 2009 1 _ rfl rfl rfl rfl).trans (sm [(2004, 2008), (2005, 2009)] _ _ rfl rfl))) (fun j3 n3 v3 h => ?_) (fun v4 s h hs => ?_)
  ·unfold B4 at h
   refine Ab (Ab (Aa Ae rfl (qm rfl (qf Bu rfl (ql A9 rfl (AT AF rfl (A8 rfl (Ac ?_))))))))
   refine As rfl (fun c5 => ?_) (fun c5 => ?_)
   ·have h := Aq c5 h
    refine Au (Ab (AV (Ab (Aa Ae rfl (qf CA rfl (ql A9 rfl (qf F9 rfl (ql A9 rfl (qm rfl ?_)))))))))
    obtain ⟨v6, a6, b6, h⟩ := An h
    refine qi AF Df a6 (Aj b6) rfl (qk Cb rfl (Ex AF Df Ko rfl ?_))
    obtain ⟨c7, h⟩ := AO h
    refine DM (f := Ag) AF AF Df K6 Ko c7 rfl (qf CA rfl (qs RQ rfl (AY (by kernel_rfl) (Aa Ae rfl (qf By rfl (ql A9 rfl (Ex AF Df Ko rfl ?_)))))))
    obtain ⟨c8, h⟩ := AO h
    refine DM (f := Ag) AF AF Df K6 Ko c8 rfl (qf By rfl (qs RQ rfl (Ac (Aa Ae rfl (qm rfl (Bo rfl (qa rfl (Ac ?_))))))))
    exact Aw _ h (sm [(2004, 30), (2005, 35)] _ _ rfl rfl)
   ·have h := Ap c5 h
    refine A5 ?_
    exact Aw _ h (sm [(2006, 2004), (2007, 2005)] _ _ rfl rfl)
  ·refine Al hs (Ab (Ab (Aa Ae rfl (qa rfl (Ac ?_)))))
   refine AS (L := Bi N p0) h (fun v9 => mk [(1, .e (.one (.ptr 1 0))), (2, .e (.one (.ptr 2 0))), (5, .e (.one (.ptr 5 0))), (7, .e (.one (.pure (.val (.int .i64 v9.2)))))] [(1, .box [.pure (.sl (p0.fVersions.map Ag)), .pure (.sl (p0.fNow.map Ag)), .pure (.sl (p0.fTarget.map Ag)), .pure (.sl (p0.fTables.map Ai))]), (2, .box [.pure (.nil0), .pure (.nil0), .pure (.nil0)]), (5, .box [.own 2010, .own 2011, .own 2012]), (2010, .vec 1 (v4.1.map Ag)), (2011, .vec 1 (v4.2.map Ag)), (2012, .vec 1 (v9.1.map A6))]) (fun v10 => mk [(2, .e (.one (.ptr 2 0))), (5, .e (.one (.ptr 5 0)))] [(2, .box [.pure (.nil0), .pure (.nil0), .pure (.nil0)]), (5, .box [.own 2013, .own 2014, .own 2015]), (2013, .vec 1 (v4.1.map Ag)), (2014, .vec 1 (v4.2.map Ag)), (2015, .vec 1 (v10.map A6))]) (fun _ _ => rfl) ((AE 5 2 2019 1 _ rfl rfl rfl rfl).trans (sm [(2010, 2006), (2011, 2007), (2012, 2019)] _ _ rfl rfl)) (fun j9 n9 v9 h => ?_) (fun v10 s h hs => ?_)
   ·unfold Bi at h
    refine Ab (Ab (Aa Ae rfl (qm rfl (qf CG rfl (ql GE rfl (AT DQ rfl (A8 rfl (Ac ?_))))))))
    refine As rfl (fun c11 => ?_) (fun c11 => ?_)
    ·have h := Aq c11 h
     refine Au (Ab (AV (Ab (Aa Ae rfl (qa rfl (Ac ?_))))))
     refine AW h (fun v12 => mk [(1, .e (.one (.ptr 1 0))), (2, .e (.one (.ptr 2 0))), (5, .e (.one (.ptr 5 0))), (7, .e (.one (.pure (.val (.int .i64 v9.2))))), (8, .e (.one (.pure (.val (.int .u8 v12)))))] [(1, .box [.pure (.sl (p0.fVersions.map Ag)), .pure (.sl (p0.fNow.map Ag)), .pure (.sl (p0.fTarget.map Ag)), .pure (.sl (p0.fTables.map Ai))]), (2, .box [.pure (.nil0), .pure (.nil0), .pure (.nil0)]), (5, .box [.own 2016, .own 2017, .own 2018]), (2016, .vec 1 (v4.1.map Ag)), (2017, .vec 1 (v4.2.map Ag)), (2018, .vec 1 (v9.1.map A6))]) (fun j12 h => ?_) (fun v12 h => ?_)
     ·refine Ab (Aa Ae rfl (qf CG rfl (ql GE rfl (qm rfl ?_))))
      obtain ⟨v13, a13, b13, h⟩ := An h
      refine qi DQ DV a13 (Aj b13) rfl (qK GK DV rfl ?_)
      obtain ⟨v14, a14, h⟩ := bind_some h
      refine AJ [] (Cd N v13 v14 a14) O0 rfl (Ac ?_)
      refine As rfl (fun c15 => ?_) (fun c15 => ?_)
      ·have h := Aq c15 h
       refine Aa Ae rfl (qf F9 rfl (ql A9 rfl (qf CG rfl (ql GE rfl (qm rfl ?_)))))
       obtain ⟨v16, a16, b16, h⟩ := An h
       refine qi DQ DV a16 (Aj b16) rfl (qg CX rfl (qk Cb rfl ?_))
       obtain ⟨v17, a17, b17, h⟩ := An h
       refine qi AF Df a17 (Aj b17) rfl (qk Cb rfl ?_)
       obtain ⟨c18, h⟩ := AO h
       refine Id rfl c18 (qa rfl (AY (by kernel_rfl) ?_))
       exact Aw _ h (sm [(2016, 2010), (2017, 2011), (2018, 2012)] _ _ rfl rfl)
      ·have h := Ap c15 h
       refine Au ?_
       exact Aw _ h (sm [(2016, 2010), (2017, 2011), (2018, 2012)] _ _ rfl rfl)
     ·refine Aa Ae rfl (qf CC rfl (ql Gs rfl (qm rfl (Ex Du Ft OR rfl ?_))))
      obtain ⟨c19, h⟩ := AO h
      refine DM (f := A6) Du Du Ft Qt OR c19 rfl (qf CC rfl (qs X9 rfl (Ac (Aa Ae rfl (qm rfl (Bo rfl (qa rfl (Ac ?_))))))))
      exact Aw _ h (sm [(2010, 2016), (2011, 2017), (2012, 65)] _ _ rfl rfl)
    ·have h := Ap c11 h
     refine A5 ?_
     exact Aw _ h (sm [(2013, 2010), (2014, 2011), (2015, 2012)] _ _ rfl rfl)
   ·refine Al hs (Ab (Aa Ae rfl (qL Be AQ rfl (qs AQ rfl (qa rfl (Ac ?_))))))
    obtain rfl := sj h
    refine Al (sm [(1000, 2013), (1001, 2014), (1002, 2015)] [(2, .e (.one (.ptr 2 0))), (3, .e (.one (.pure (.val (.int .i64 0)))))] [(2, .box [.own 1000, .own 1001, .own 1002]), (1000, .vec 1 (v4.1.map Ag)), (1001, .vec 1 (v4.2.map Ag)), (1002, .vec 1 (v10.map A6))] rfl rfl) (AA ?_)
    exact ⟨⟨[_, _], ⟨.cellN _ _ _ _ _ _ _ rfl rfl Be AQ rfl rfl (FT rfl), ⟨.tmp _ _ rfl, trivial⟩⟩, rfl⟩, ⟨rfl, rfl, rfl, trivial⟩⟩
set_option maxRecDepth 10000 in
theorem JW (N : Nat) (p0 : Af) (r : Af) (h : DR N p0 = some r) : AB Try.prog 85 [.e (.agg [.pure (.sl (p0.fBase.map Ag)), .pure (.sl (p0.fNext.map Ag)), .pure (.sl (p0.fHeld.map A6))])] [(1, r.fBase.map Ag), (1, r.fNext.map Ag), (1, r.fHeld.map A6)] (.e (.agg [.own 0, .own 1, .own 2])) := by
 unfold DR at h
 refine Ao (n := 16) (rs := [.cell 2 43]) Try.func85 rfl rfl rfl (BE rfl) (BE rfl) rfl fun w0 S0 => ?_
 refine Ab (Aa Ae rfl (qb rfl (qz CF rfl (Ac (Ab (Aa Ae rfl (Ex AF Df Ko rfl (qf CA rfl (ql A9 rfl ?_)))))))))
 obtain ⟨c1, h⟩ := AO h
 refine JN (f := Ag) AF AF Df K6 Ko (fun _ => rfl) c1 rfl (Ex AF Df Ko rfl (qf By rfl (ql A9 rfl ?_)))
 obtain ⟨c2, h⟩ := AO h
 refine JN (f := Ag) AF AF Df K6 Ko (fun _ => rfl) c2 rfl (Ex Du Ft OR rfl (qf CC rfl (ql Gs rfl ?_)))
 obtain ⟨c3, h⟩ := AO h
 refine JN (f := A6) Du Du Ft Qt OR (fun _ => rfl) c3 rfl (AZ CF FN rfl (qs AQ rfl (AY (by kernel_rfl) ?_)))
 obtain rfl := sj h
 refine Al (sm [(1000, 6), (1001, 10), (1002, 14)] [(2, .e (.one (.ptr 2 0)))] [(2, .box [.own 1000, .own 1001, .own 1002]), (1000, .vec 1 (((([] : List Int)) ++ p0.fBase).map Ag)), (1001, .vec 1 (((([] : List Int)) ++ p0.fNext).map Ag)), (1002, .vec 1 (((([] : List Int)) ++ p0.fHeld).map A6))] rfl rfl) (AA ?_)
 exact ⟨⟨[_], ⟨.cellN _ _ _ _ _ _ _ rfl rfl Be AQ rfl rfl (FT rfl), trivial⟩, rfl⟩, ⟨rfl, rfl, rfl, trivial⟩⟩
set_option maxRecDepth 10000 in
theorem Ic (N : Nat) (p0 : Af) (r : (List Af)) (h : Dj N p0 = some r) : AB Try.prog 50 [.e (.agg [.pure (.sl (p0.fBase.map Ag)), .pure (.sl (p0.fNext.map Ag)), .pure (.sl (p0.fHeld.map A6))])] [(3, r.map Dx)] (.e (.one (.own 0))) := by
 unfold Dj at h
 refine Ao (n := 62) (rs := [.tmp 2]) Try.func50 rfl rfl rfl (BE rfl) (BE rfl) rfl fun w0 S0 => ?_
 refine Ab (Aa Ae rfl (qb rfl (qa rfl (Ac (Ab (Aa Ae rfl (qa rfl (Ac (Ab (Ab (Aa Ae rfl (qa rfl (Ac ?_)))))))))))))
 refine AS (L := Co N p0) h (fun v1 => mk [(1, .e (.one (.ptr 1 0))), (3, .e (.one (.pure (.val (.int .i64 v1.1))))), (4, .e (.one (.pure (.val (.int .i64 v1.2)))))] [(1, .box [.pure (.sl (p0.fBase.map Ag)), .pure (.sl (p0.fNext.map Ag)), .pure (.sl (p0.fHeld.map A6))])]) (fun v2 => mk [(1, .e (.one (.ptr 1 0))), (3, .e (.one (.pure (.val (.int .i64 v2)))))] [(1, .box [.pure (.sl (p0.fBase.map Ag)), .pure (.sl (p0.fNext.map Ag)), .pure (.sl (p0.fHeld.map A6))])]) (fun _ _ => rfl) (sm [] _ _ rfl rfl) (fun j1 n1 v1 h => ?_) (fun v2 s h hs => ?_)
 ·unfold Co at h
  refine Ab (Ab (Aa Ae rfl (qm rfl (qf By rfl (ql A9 rfl (AT AF rfl (A8 rfl (Ac ?_))))))))
  refine As rfl (fun c3 => ?_) (fun c3 => ?_)
  ·have h := Aq c3 h
   refine Au ?_
   refine AW h (fun v4 => mk [(1, .e (.one (.ptr 1 0))), (3, .e (.one (.pure (.val (.int .i64 v4))))), (4, .e (.one (.pure (.val (.int .i64 v1.2)))))] [(1, .box [.pure (.sl (p0.fBase.map Ag)), .pure (.sl (p0.fNext.map Ag)), .pure (.sl (p0.fHeld.map A6))])]) (fun j4 h => ?_) (fun v4 h => ?_)
   ·refine AV (Ab (Aa Ae rfl (qf By rfl (ql A9 rfl (qm rfl ?_)))))
    obtain ⟨v5, a5, b5, h⟩ := An h
    refine qi AF Df a5 (Aj b5) rfl (qk Cb rfl (EE rfl (Ac ?_)))
    refine As rfl (fun c6 => ?_) (fun c6 => ?_)
    ·have h := Aq c6 h
     refine Aa Ae rfl (qm rfl (Bo rfl (qa rfl (Ac ?_))))
     exact Aw _ h (sm [] _ _ rfl rfl)
    ·have h := Ap c6 h
     refine Au ?_
     exact Aw _ h (sm [] _ _ rfl rfl)
   ·refine Aa Ae rfl (qm rfl (Bo rfl (qa rfl (Ac ?_))))
    exact Aw _ h (sm [] _ _ rfl rfl)
  ·have h := Ap c3 h
   refine A5 ?_
   exact Aw _ h (sm [] _ _ rfl rfl)
 ·refine Al hs (Ab (Aa Ae rfl (qa rfl (Ac (Ab (Ab (Aa Ae rfl (qa rfl (Ac ?_)))))))))
  refine AS (L := Bx N p0 v2) h (fun v7 => mk [(1, .e (.one (.ptr 1 0))), (3, .e (.one (.pure (.val (.int .i64 v2))))), (5, .e (.one (.own 2001))), (6, .e (.one (.pure (.val (.int .i64 v7.2)))))] [(1, .box [.pure (.sl (p0.fBase.map Ag)), .pure (.sl (p0.fNext.map Ag)), .pure (.sl (p0.fHeld.map A6))]), (2001, .vec 3 (v7.1.map Dx))]) (fun v8 => mk [(5, .e (.one (.own 2002)))] [(2002, .vec 3 (v8.map Dx))]) (fun _ _ => rfl) ((B8 5 2022 3 rfl rfl rfl).trans (sm [(2001, 2022)] _ _ rfl rfl)) (fun j7 n7 v7 h => ?_) (fun v8 s h hs => ?_)
  ·unfold Bx at h
   refine Ab (Ab (Aa Ae rfl (qm rfl (qm rfl ?_))))
   obtain ⟨c9, h⟩ := AO h
   refine Id rfl c9 (A8 rfl (Ac ?_))
   refine As rfl (fun c10 => ?_) (fun c10 => ?_)
   ·have h := Aq c10 h
    refine Au (Ab (AV (Ab (Aa Ae rfl (qL Be AQ rfl ?_)))))
    obtain ⟨v11, a11, h⟩ := bind_some h
    refine AJ [2003, 2004, 2005] (JW N p0 v11 a11) Yh rfl (qz CF rfl (qs AQ rfl (Ac (Ab (Aa Ae rfl (qa rfl (Ac (Ab (Ab (Aa Ae rfl (qa rfl (Ac ?_))))))))))))
    refine AS (L := BR N p0 v7) h (fun v12 => mk [(1, .e (.one (.ptr 1 0))), (3, .e (.one (.pure (.val (.int .i64 v2))))), (5, .e (.one (.own 2009))), (6, .e (.one (.pure (.val (.int .i64 v7.2))))), (7, .e (.one (.ptr 7 0))), (8, .e (.one (.pure (.val (.int .i64 v12.2.1))))), (9, .e (.one (.pure (.val (.int .i64 v12.2.2)))))] [(1, .box [.pure (.sl (p0.fBase.map Ag)), .pure (.sl (p0.fNext.map Ag)), .pure (.sl (p0.fHeld.map A6))]), (7, .box [.own 2006, .own 2007, .own 2008]), (2006, .vec 1 (v11.fBase.map Ag)), (2007, .vec 1 (v12.1.map Ag)), (2008, .vec 1 (v11.fHeld.map A6)), (2009, .vec 3 (v7.1.map Dx))]) (fun v13 => mk [(1, .e (.one (.ptr 1 0))), (3, .e (.one (.pure (.val (.int .i64 v2))))), (5, .e (.one (.own 2013))), (6, .e (.one (.pure (.val (.int .i64 v7.2))))), (7, .e (.one (.ptr 7 0)))] [(1, .box [.pure (.sl (p0.fBase.map Ag)), .pure (.sl (p0.fNext.map Ag)), .pure (.sl (p0.fHeld.map A6))]), (7, .box [.own 2010, .own 2011, .own 2012]), (2010, .vec 1 (v11.fBase.map Ag)), (2011, .vec 1 (v13.map Ag)), (2012, .vec 1 (v11.fHeld.map A6)), (2013, .vec 3 (v7.1.map Dx))]) (fun _ _ => rfl) (sm [(2006, 2003), (2007, 2004), (2008, 2005), (2009, 2001)] _ _ rfl rfl) (fun j12 n12 v12 h => ?_) (fun v13 s h hs => ?_)
    ·unfold BR at h
     refine Ab (Ab (Aa Ae rfl (qm rfl (qf By rfl (ql A9 rfl (AT AF rfl (A8 rfl (Ac ?_))))))))
     refine As rfl (fun c14 => ?_) (fun c14 => ?_)
     ·have h := Aq c14 h
      refine Au ?_
      refine AW h (fun v15 => mk [(1, .e (.one (.ptr 1 0))), (3, .e (.one (.pure (.val (.int .i64 v2))))), (5, .e (.one (.own 2017))), (6, .e (.one (.pure (.val (.int .i64 v7.2))))), (7, .e (.one (.ptr 7 0))), (8, .e (.one (.pure (.val (.int .i64 v15.2))))), (9, .e (.one (.pure (.val (.int .i64 v12.2.2)))))] [(1, .box [.pure (.sl (p0.fBase.map Ag)), .pure (.sl (p0.fNext.map Ag)), .pure (.sl (p0.fHeld.map A6))]), (7, .box [.own 2014, .own 2015, .own 2016]), (2014, .vec 1 (v11.fBase.map Ag)), (2015, .vec 1 (v15.1.map Ag)), (2016, .vec 1 (v11.fHeld.map A6)), (2017, .vec 3 (v7.1.map Dx))]) (fun j15 h => ?_) (fun v15 h => ?_)
      ·refine AV (Ab (Ab (Aa Ae rfl (qf By rfl (ql A9 rfl (qm rfl ?_))))))
       obtain ⟨v16, a16, b16, h⟩ := An h
       refine qi AF Df a16 (Aj b16) rfl (qk Cb rfl (A8 rfl (Ac ?_)))
       refine As rfl (fun c17 => ?_) (fun c17 => ?_)
       ·have h := Aq c17 h
        refine A5 ?_
        exact Aw _ h (sm [(2014, 2006), (2015, 2007), (2016, 2008), (2017, 2009)] _ _ rfl rfl)
       ·have h := Ap c17 h
        refine Au ?_
        refine AW h (fun v18 => mk [(1, .e (.one (.ptr 1 0))), (3, .e (.one (.pure (.val (.int .i64 v2))))), (5, .e (.one (.own 2021))), (6, .e (.one (.pure (.val (.int .i64 v7.2))))), (7, .e (.one (.ptr 7 0))), (8, .e (.one (.pure (.val (.int .i64 v12.2.1))))), (9, .e (.one (.pure (.val (.int .i64 v12.2.2)))))] [(1, .box [.pure (.sl (p0.fBase.map Ag)), .pure (.sl (p0.fNext.map Ag)), .pure (.sl (p0.fHeld.map A6))]), (7, .box [.own 2018, .own 2019, .own 2020]), (2018, .vec 1 (v11.fBase.map Ag)), (2019, .vec 1 (v18.map Ag)), (2020, .vec 1 (v11.fHeld.map A6)), (2021, .vec 3 (v7.1.map Dx))]) (fun j18 h => ?_) (fun v18 h => ?_)
        ·refine Ab (Aa Ae rfl (qm rfl (qm rfl ?_)))
         obtain ⟨c19, h⟩ := AO h
         refine IE rfl c19 (Lr rfl (by decide) (BY rfl (Ac ?_)))
         refine As rfl (fun c20 => ?_) (fun c20 => ?_)
         ·have h := Aq c20 h
          refine Aa Ae rfl (qf By rfl (ql A9 rfl (qm rfl ?_)))
          obtain ⟨v21, a21, b21, h⟩ := An h
          refine qI AF Df a21 (Aj b21) rfl ?_
          refine Ee rfl rfl rfl rfl (Aj b21) rfl Df rfl (BE rfl) (DS Ag v12.1 _ ((-1))) ?_
          refine Ac ?_
          exact Aw _ h (sm [(2018, 2006), (2019, 2007), (2020, 2008), (2021, 2009)] _ _ rfl rfl)
         ·have h := Ap c20 h
          refine Au ?_
          exact Aw _ h (sm [(2018, 2006), (2019, 2007), (2020, 2008), (2021, 2009)] _ _ rfl rfl)
        ·refine Aa Ae rfl (qm rfl (Bo rfl (qa rfl (Ac ?_))))
         exact Aw _ h (sm [(2014, 2018), (2015, 2019), (2016, 2020), (2017, 2021)] _ _ rfl rfl)
      ·refine Aa Ae rfl (qm rfl (Bo rfl (qa rfl (Ac ?_))))
       exact Aw _ h (sm [(2006, 2014), (2007, 2015), (2008, 2016), (2009, 2017)] _ _ rfl rfl)
     ·have h := Ap c14 h
      refine A5 ?_
      exact Aw _ h (sm [(2010, 2006), (2011, 2007), (2012, 2008), (2013, 2009)] _ _ rfl rfl)
    ·refine Al hs (Aa Ae rfl (qm rfl (qL Be AQ rfl (D1 (Bq 2010 _ _ rfl rfl) (D1 (Bq 2011 _ _ rfl rfl) (D1 (Bq 2012 _ _ rfl rfl) (Ex IM AQ CF rfl ?_)))))))
     obtain ⟨c22, h⟩ := AO h
     refine DM (f := Dx) IM IM AQ UY CF c22 rfl (qa rfl (Ac (Aa Ae rfl (qm rfl (Bo rfl (qa rfl (Ac ?_)))))))
     exact Aw _ h (sm [(2001, 60)] _ _ rfl rfl)
   ·have h := Ap c10 h
    refine A5 ?_
    exact Aw _ h (sm [(2002, 2001)] _ _ rfl rfl)
  ·refine Al hs (Ab (Aa Ae rfl (qm rfl (qa rfl (Ac ?_)))))
   obtain rfl := sj h
   refine Al (sm [(1000, 2002)] [(2, .e (.one (.own 1000)))] [(1000, .vec 3 (v8.map Dx))] rfl rfl) (AA ?_)
   exact ⟨⟨[_], ⟨.tmp _ _ rfl, trivial⟩, rfl⟩, ⟨rfl, trivial⟩⟩
set_option maxRecDepth 10000 in
theorem DP (N : Nat) (p0 : Af) (p1 : Int) (r : Int) (h : BP N p0 p1 = some r) : AB Try.prog 49 [.e (.agg [.pure (.sl (p0.fBase.map Ag)), .pure (.sl (p0.fNext.map Ag)), .pure (.sl (p0.fHeld.map A6))]), .e (.one (.pure (.val (.int .i64 p1))))] [] (.e (.one (.pure (.val (.int .u8 r))))) := by
 unfold BP at h
 refine Ao (n := 27) (rs := [.tmp 4]) Try.func49 rfl rfl rfl (BE rfl) (BE rfl) rfl fun w0 S0 => ?_
 refine Ab (Aa Ae rfl (qb rfl (qa rfl (Ac (Ab (Aa Ae rfl (qf CA rfl (ql A9 rfl (qm rfl ?_)))))))))
 obtain ⟨v1, a1, b1, h⟩ := An h
 refine qi AF Df a1 (Aj b1) rfl (qk Cb rfl ?_)
 obtain ⟨c2, h⟩ := AO h
 refine Id rfl c2 (qa rfl (Ac ?_))
 refine AW h (fun v3 => mk [(5, .e (.one (.pure (.val (.int .u8 v3)))))] []) (fun j3 h => ?_) (fun v3 h => ?_)
 ·refine Ab (Aa Ae rfl (qf By rfl (ql A9 rfl (qm rfl ?_))))
  obtain ⟨v4, a4, b4, h⟩ := An h
  refine qi AF Df a4 (Aj b4) rfl (qk Cb rfl (EE rfl (Ac ?_)))
  refine As rfl (fun c5 => ?_) (fun c5 => ?_)
  ·have h := Aq c5 h
   refine Aa Ae rfl (qm rfl (qf By rfl (ql A9 rfl (qm rfl ?_))))
   obtain ⟨v6, a6, b6, h⟩ := An h
   refine qi AF Df a6 (Aj b6) rfl (qk Cb rfl ?_)
   obtain ⟨c7, h⟩ := AO h
   refine Id rfl c7 (Tf rfl (qa rfl (Ac ?_)))
   exact Aw _ h (sm [] _ _ rfl rfl)
  ·have h := Ap c5 h
   refine Au ?_
   exact Aw _ h (sm [] _ _ rfl rfl)
 ·refine Ab (Aa Ae rfl (qm rfl (qa rfl (Ac ?_))))
  obtain rfl := sj h
  refine Al (sm [] [(4, .e (.one (.pure (.val (.int .u8 v3)))))] [] rfl rfl) (AA ?_)
  exact ⟨⟨[_], ⟨.tmp _ _ rfl, trivial⟩, rfl⟩, trivial⟩
set_option maxRecDepth 10000 in
theorem Fq (N : Nat) (p0 : Int) (p1 : Int) (r : Bool) (h : Cj N p0 p1 = some r) : AB Try.prog 60 [.e (.one (.pure (.val (.int .u8 p0)))), .e (.one (.pure (.val (.int .i64 p1))))] [] (.e (.one (.pure (.val (.bool r))))) := by
 unfold Cj at h
 refine Ao (n := 10) (rs := [.tmp 4]) Try.func60 rfl rfl rfl (BE rfl) (BE rfl) rfl fun w0 S0 => ?_
 refine Ab (Aa Ae rfl (qa rfl (Ac (Ab (Aa Ae rfl (qm rfl (qm rfl ?_)))))))
 obtain ⟨c1, h⟩ := AO h
 refine IE rfl c1 (L3 rfl (BY rfl (qa rfl (Ac ?_))))
 obtain rfl := sj h
 refine Al (sm [] [(4, .e (.one (.pure (.val (.bool (((FK .u8 ((E6 .u8 p0 p1)) 1) == 1)))))))] [] rfl rfl) (AA ?_)
 exact ⟨⟨[_], ⟨.tmp _ _ rfl, trivial⟩, rfl⟩, trivial⟩
set_option maxRecDepth 10000 in
theorem Hl (N : Nat) (p0 : Ad) (p1 : Af) (r : (List Ak)) (h : Dr N p0 p1 = some r) : AB Try.prog 82 [.e (.agg [.pure (.sl (p0.fVersions.map Ag)), .pure (.sl (p0.fNow.map Ag)), .pure (.sl (p0.fTarget.map Ag)), .pure (.sl (p0.fTables.map Ai))]), .e (.agg [.pure (.sl (p1.fBase.map Ag)), .pure (.sl (p1.fNext.map Ag)), .pure (.sl (p1.fHeld.map A6))])] [(3, r.map A1)] (.e (.one (.own 0))) := by
 unfold Dr at h
 refine Ao (n := 111) (rs := [.tmp 4]) Try.func82 rfl rfl rfl (BE rfl) (BE rfl) rfl fun w0 S0 => ?_
 refine Ab (Aa Ae rfl (qb rfl (qb rfl (qa rfl (Ac (Ab (Aa Ae rfl (qa rfl (Ac (Ab (Ab (Aa Ae rfl (qa rfl (Ac ?_))))))))))))))
 refine AS (L := Cr N p0 p1) h (fun v1 => mk [(2, .e (.one (.ptr 2 0))), (3, .e (.one (.ptr 3 0))), (5, .e (.one (.own 2001))), (6, .e (.one (.pure (.val (.int .i64 v1.2)))))] [(2, .box [.pure (.sl (p0.fVersions.map Ag)), .pure (.sl (p0.fNow.map Ag)), .pure (.sl (p0.fTarget.map Ag)), .pure (.sl (p0.fTables.map Ai))]), (3, .box [.pure (.sl (p1.fBase.map Ag)), .pure (.sl (p1.fNext.map Ag)), .pure (.sl (p1.fHeld.map A6))]), (2001, .vec 3 (v1.1.map A1))]) (fun v2 => mk [(5, .e (.one (.own 2002)))] [(2002, .vec 3 (v2.map A1))]) (fun _ _ => rfl) ((B8 5 2013 3 rfl rfl rfl).trans (sm [(2001, 2013)] _ _ rfl rfl)) (fun j1 n1 v1 h => ?_) (fun v2 s h hs => ?_)
 ·unfold Cr at h
  refine Ab (Ab (Aa Ae rfl (qm rfl (qf CG rfl (ql GE rfl (AT DQ rfl (A8 rfl (Ac ?_))))))))
  refine As rfl (fun c3 => ?_) (fun c3 => ?_)
  ·have h := Aq c3 h
   refine Au (Ab (AV (Ab (Aa Ae rfl (qf CG rfl (ql GE rfl (qm rfl ?_)))))))
   obtain ⟨v4, a4, b4, h⟩ := An h
   refine qi DQ DV a4 (Aj b4) rfl (qK GK DV rfl (qz Kc rfl (qs DV rfl (Ac (Ab (Aa Ae rfl (qL Be AQ rfl (qf CX rfl (ql Cb rfl ?_)))))))))
   obtain ⟨v5, a5, h⟩ := bind_some h
   refine AJ [] (DP N p1 v4.fFrom v5 a5) SA rfl (qa rfl (Ac ?_))
   refine AW h (fun v6 => mk [(2, .e (.one (.ptr 2 0))), (3, .e (.one (.ptr 3 0))), (5, .e (.one (.own 2003))), (6, .e (.one (.pure (.val (.int .i64 v1.2))))), (7, .e (.one (.ptr 7 0))), (8, .e (.one (.pure (.val (.int .u8 v6)))))] [(2, .box [.pure (.sl (p0.fVersions.map Ag)), .pure (.sl (p0.fNow.map Ag)), .pure (.sl (p0.fTarget.map Ag)), .pure (.sl (p0.fTables.map Ai))]), (3, .box [.pure (.sl (p1.fBase.map Ag)), .pure (.sl (p1.fNext.map Ag)), .pure (.sl (p1.fHeld.map A6))]), (7, .box [.pure (.val (.int .i64 v4.fKind)), .pure (.val (.int .i64 v4.fFrom)), .pure (.val (.int .i64 v4.fTo)), .pure (.val (.bool v4.fAware)), .pure (.sl (v4.fOK.map (Es eB))), .pure (.sl (v4.fRewrite.map (Es eB)))]), (2003, .vec 3 (v1.1.map A1))]) (fun j6 h => ?_) (fun v6 h => ?_)
   ·refine Ab (Aa Ae rfl (qL GK DV rfl ?_))
    obtain ⟨v7, a7, h⟩ := bind_some h
    refine AJ [] (Cd N v4 v7 a7) O0 rfl (Ac ?_)
    refine As rfl (fun c8 => ?_) (fun c8 => ?_)
    ·have h := Aq c8 h
     refine Aa Ae rfl (qf CC rfl (ql Gs rfl (qm rfl ?_)))
     obtain ⟨v9, a9, b9, h⟩ := An h
     refine qi Du Ft a9 (Aj b9) rfl (qk Jz rfl (qa rfl (Ac ?_)))
     exact Aw _ h (sm [(2003, 2001)] _ _ rfl rfl)
    ·have h := Ap c8 h
     refine Au ?_
     exact Aw _ h (sm [(2003, 2001)] _ _ rfl rfl)
   ·refine Ab (Aa Ae rfl (qa rfl (Ac ?_)))
    refine AS (L := BA N p0 p1 v1 v4 v6) h (fun v10 => mk [(2, .e (.one (.ptr 2 0))), (3, .e (.one (.ptr 3 0))), (5, .e (.one (.own 2004))), (6, .e (.one (.pure (.val (.int .i64 v1.2))))), (7, .e (.one (.ptr 7 0))), (8, .e (.one (.pure (.val (.int .u8 v6))))), (9, .e (.one (.pure (.val (.int .i64 v10.2)))))] [(2, .box [.pure (.sl (p0.fVersions.map Ag)), .pure (.sl (p0.fNow.map Ag)), .pure (.sl (p0.fTarget.map Ag)), .pure (.sl (p0.fTables.map Ai))]), (3, .box [.pure (.sl (p1.fBase.map Ag)), .pure (.sl (p1.fNext.map Ag)), .pure (.sl (p1.fHeld.map A6))]), (7, .box [.pure (.val (.int .i64 v4.fKind)), .pure (.val (.int .i64 v4.fFrom)), .pure (.val (.int .i64 v4.fTo)), .pure (.val (.bool v4.fAware)), .pure (.sl (v4.fOK.map (Es eB))), .pure (.sl (v4.fRewrite.map (Es eB)))]), (2004, .vec 3 (v10.1.map A1))]) (fun v11 => mk [(2, .e (.one (.ptr 2 0))), (3, .e (.one (.ptr 3 0))), (5, .e (.one (.own 2005))), (6, .e (.one (.pure (.val (.int .i64 v1.2)))))] [(2, .box [.pure (.sl (p0.fVersions.map Ag)), .pure (.sl (p0.fNow.map Ag)), .pure (.sl (p0.fTarget.map Ag)), .pure (.sl (p0.fTables.map Ai))]), (3, .box [.pure (.sl (p1.fBase.map Ag)), .pure (.sl (p1.fNext.map Ag)), .pure (.sl (p1.fHeld.map A6))]), (2005, .vec 3 (v11.map A1))]) (fun _ _ => rfl) (sm [(2004, 2003)] _ _ rfl rfl) (fun j10 n10 v10 h => ?_) (fun v11 s h hs => ?_)
    ·unfold BA at h
     refine Ab (Ab (Aa Ae rfl (qm rfl (qf Bu rfl (ql A9 rfl (qf CX rfl (ql Cb rfl ?_)))))))
     obtain ⟨v12, a12, b12, h⟩ := An h
     refine qi AF Df a12 (Aj b12) rfl (qk Cb rfl (A8 rfl (Ac ?_)))
     refine As rfl (fun c13 => ?_) (fun c13 => ?_)
     ·have h := Aq c13 h
      refine Au ?_
      refine AW h (fun v14 => mk [(2, .e (.one (.ptr 2 0))), (3, .e (.one (.ptr 3 0))), (5, .e (.one (.own 2006))), (6, .e (.one (.pure (.val (.int .i64 v1.2))))), (7, .e (.one (.ptr 7 0))), (8, .e (.one (.pure (.val (.int .u8 v6))))), (9, .e (.one (.pure (.val (.int .i64 v10.2)))))] [(2, .box [.pure (.sl (p0.fVersions.map Ag)), .pure (.sl (p0.fNow.map Ag)), .pure (.sl (p0.fTarget.map Ag)), .pure (.sl (p0.fTables.map Ai))]), (3, .box [.pure (.sl (p1.fBase.map Ag)), .pure (.sl (p1.fNext.map Ag)), .pure (.sl (p1.fHeld.map A6))]), (7, .box [.pure (.val (.int .i64 v4.fKind)), .pure (.val (.int .i64 v4.fFrom)), .pure (.val (.int .i64 v4.fTo)), .pure (.val (.bool v4.fAware)), .pure (.sl (v4.fOK.map (Es eB))), .pure (.sl (v4.fRewrite.map (Es eB)))]), (2006, .vec 3 (v14.map A1))]) (fun j14 h => ?_) (fun v14 h => ?_)
      ·refine AV (Ab (Ab (Aa Ae rfl (qm rfl (qm rfl ?_)))))
       obtain ⟨v15, a15, h⟩ := bind_some h
       refine AJ [] (Fq N v6 v10.2 v15 a15) T7 rfl (CE rfl (Ac ?_))
       refine As rfl (fun c16 => ?_) (fun c16 => ?_)
       ·have h := Aq c16 h
        refine A5 ?_
        exact Aw _ h (sm [(2006, 2004)] _ _ rfl rfl)
       ·have h := Ap c16 h
        refine Au (Ab (Aa Ae rfl (qa rfl (Ac (Ab (Ab (Aa Ae rfl (qa rfl (Ac ?_)))))))))
        refine AS (L := Bl N p0 p1 v1 v4 v10) h (fun v17 => mk [(2, .e (.one (.ptr 2 0))), (3, .e (.one (.ptr 3 0))), (5, .e (.one (.own 2007))), (6, .e (.one (.pure (.val (.int .i64 v1.2))))), (7, .e (.one (.ptr 7 0))), (8, .e (.one (.pure (.val (.int .u8 v6))))), (9, .e (.one (.pure (.val (.int .i64 v10.2))))), (10, .e (.one (.pure (.val (.bool v17.2.1))))), (11, .e (.one (.pure (.val (.int .i64 v17.2.2)))))] [(2, .box [.pure (.sl (p0.fVersions.map Ag)), .pure (.sl (p0.fNow.map Ag)), .pure (.sl (p0.fTarget.map Ag)), .pure (.sl (p0.fTables.map Ai))]), (3, .box [.pure (.sl (p1.fBase.map Ag)), .pure (.sl (p1.fNext.map Ag)), .pure (.sl (p1.fHeld.map A6))]), (7, .box [.pure (.val (.int .i64 v4.fKind)), .pure (.val (.int .i64 v4.fFrom)), .pure (.val (.int .i64 v4.fTo)), .pure (.val (.bool v4.fAware)), .pure (.sl (v4.fOK.map (Es eB))), .pure (.sl (v4.fRewrite.map (Es eB)))]), (2007, .vec 3 (v17.1.map A1))]) (fun v18 => mk [(2, .e (.one (.ptr 2 0))), (3, .e (.one (.ptr 3 0))), (5, .e (.one (.own 2008))), (6, .e (.one (.pure (.val (.int .i64 v1.2))))), (7, .e (.one (.ptr 7 0))), (8, .e (.one (.pure (.val (.int .u8 v6))))), (9, .e (.one (.pure (.val (.int .i64 v10.2))))), (10, .e (.one (.pure (.val (.bool v18.2)))))] [(2, .box [.pure (.sl (p0.fVersions.map Ag)), .pure (.sl (p0.fNow.map Ag)), .pure (.sl (p0.fTarget.map Ag)), .pure (.sl (p0.fTables.map Ai))]), (3, .box [.pure (.sl (p1.fBase.map Ag)), .pure (.sl (p1.fNext.map Ag)), .pure (.sl (p1.fHeld.map A6))]), (7, .box [.pure (.val (.int .i64 v4.fKind)), .pure (.val (.int .i64 v4.fFrom)), .pure (.val (.int .i64 v4.fTo)), .pure (.val (.bool v4.fAware)), .pure (.sl (v4.fOK.map (Es eB))), .pure (.sl (v4.fRewrite.map (Es eB)))]), (2008, .vec 3 (v18.1.map A1))]) (fun _ _ => rfl) (sm [(2007, 2004)] _ _ rfl rfl) (fun j17 n17 v17 h => ?_) (fun v18 s h hs => ?_)
        ·unfold Bl at h
         refine Ab (Ab (Aa Ae rfl (qm rfl (qf Bu rfl (ql A9 rfl (qf HA rfl (ql Cb rfl ?_)))))))
         obtain ⟨v19, a19, b19, h⟩ := An h
         refine qi AF Df a19 (Aj b19) rfl (qk Cb rfl (A8 rfl (Ac ?_)))
         refine As rfl (fun c20 => ?_) (fun c20 => ?_)
         ·have h := Aq c20 h
          refine Au ?_
          refine AW h (fun v21 => mk [(2, .e (.one (.ptr 2 0))), (3, .e (.one (.ptr 3 0))), (5, .e (.one (.own 2009))), (6, .e (.one (.pure (.val (.int .i64 v1.2))))), (7, .e (.one (.ptr 7 0))), (8, .e (.one (.pure (.val (.int .u8 v6))))), (9, .e (.one (.pure (.val (.int .i64 v10.2))))), (10, .e (.one (.pure (.val (.bool v21.2))))), (11, .e (.one (.pure (.val (.int .i64 v17.2.2)))))] [(2, .box [.pure (.sl (p0.fVersions.map Ag)), .pure (.sl (p0.fNow.map Ag)), .pure (.sl (p0.fTarget.map Ag)), .pure (.sl (p0.fTables.map Ai))]), (3, .box [.pure (.sl (p1.fBase.map Ag)), .pure (.sl (p1.fNext.map Ag)), .pure (.sl (p1.fHeld.map A6))]), (7, .box [.pure (.val (.int .i64 v4.fKind)), .pure (.val (.int .i64 v4.fFrom)), .pure (.val (.int .i64 v4.fTo)), .pure (.val (.bool v4.fAware)), .pure (.sl (v4.fOK.map (Es eB))), .pure (.sl (v4.fRewrite.map (Es eB)))]), (2009, .vec 3 (v21.1.map A1))]) (fun j21 h => ?_) (fun v21 h => ?_)
          ·refine AV (Ab (Ab (Aa Ae rfl (qL Be AQ rfl (qf HA rfl (ql Cb rfl ?_))))))
           obtain ⟨v22, a22, h⟩ := bind_some h
           refine AJ [] (DP N p1 v4.fTo v22 a22) SA rfl (qm rfl ?_)
           obtain ⟨v23, a23, h⟩ := bind_some h
           refine AJ [] (Fq N v22 v17.2.2 v23 a23) T7 rfl (CE rfl (Ac ?_))
           refine As rfl (fun c24 => ?_) (fun c24 => ?_)
           ·have h := Aq c24 h
            refine A5 ?_
            exact Aw _ h (sm [(2009, 2007)] _ _ rfl rfl)
           ·have h := Ap c24 h
            refine Au ?_
            refine AW h (fun v25 => mk [(2, .e (.one (.ptr 2 0))), (3, .e (.one (.ptr 3 0))), (5, .e (.one (.own 2010))), (6, .e (.one (.pure (.val (.int .i64 v1.2))))), (7, .e (.one (.ptr 7 0))), (8, .e (.one (.pure (.val (.int .u8 v6))))), (9, .e (.one (.pure (.val (.int .i64 v10.2))))), (10, .e (.one (.pure (.val (.bool v25))))), (11, .e (.one (.pure (.val (.int .i64 v17.2.2)))))] [(2, .box [.pure (.sl (p0.fVersions.map Ag)), .pure (.sl (p0.fNow.map Ag)), .pure (.sl (p0.fTarget.map Ag)), .pure (.sl (p0.fTables.map Ai))]), (3, .box [.pure (.sl (p1.fBase.map Ag)), .pure (.sl (p1.fNext.map Ag)), .pure (.sl (p1.fHeld.map A6))]), (7, .box [.pure (.val (.int .i64 v4.fKind)), .pure (.val (.int .i64 v4.fFrom)), .pure (.val (.int .i64 v4.fTo)), .pure (.val (.bool v4.fAware)), .pure (.sl (v4.fOK.map (Es eB))), .pure (.sl (v4.fRewrite.map (Es eB)))]), (2010, .vec 3 (v17.1.map A1))]) (fun j25 h => ?_) (fun v25 h => ?_)
            ·refine Aa Ae rfl (qm rfl (qm rfl ?_))
             refine AI (t := 67) rfl (fun c26 => ?_) (fun c26 => ?_)
             ·have h := Aq c26 h
              refine qn rfl (qn rfl (qn rfl (qn rfl (qn rfl (qn rfl (qn rfl (qn rfl (qp rfl (qa rfl (Ac ?_))))))))))
              exact Aw _ h (sm [(2010, 2007)] _ _ rfl rfl)
             ·have h := Ap c26 h
              refine qf I4 rfl (ql Jo rfl (qm rfl ?_))
              obtain ⟨v27, a27, b27, h⟩ := An h
              refine qi FR Mk a27 (Aj b27) rfl (qk OS rfl (qm rfl ?_))
              obtain ⟨v28, a28, b28, h⟩ := An h
              refine qi F6 Pw a28 (Aj b28) rfl (qk Rb rfl (qp rfl (qa rfl (Ac ?_))))
              exact Aw _ h (sm [(2010, 2007)] _ _ rfl rfl)
            ·refine AW h (fun v29 => mk [(2, .e (.one (.ptr 2 0))), (3, .e (.one (.ptr 3 0))), (5, .e (.one (.own 2011))), (6, .e (.one (.pure (.val (.int .i64 v1.2))))), (7, .e (.one (.ptr 7 0))), (8, .e (.one (.pure (.val (.int .u8 v6))))), (9, .e (.one (.pure (.val (.int .i64 v10.2))))), (10, .e (.one (.pure (.val (.bool v25))))), (11, .e (.one (.pure (.val (.int .i64 v17.2.2))))), (90, .e (.one (.pure (.val (.bool v29)))))] [(2, .box [.pure (.sl (p0.fVersions.map Ag)), .pure (.sl (p0.fNow.map Ag)), .pure (.sl (p0.fTarget.map Ag)), .pure (.sl (p0.fTables.map Ai))]), (3, .box [.pure (.sl (p1.fBase.map Ag)), .pure (.sl (p1.fNext.map Ag)), .pure (.sl (p1.fHeld.map A6))]), (7, .box [.pure (.val (.int .i64 v4.fKind)), .pure (.val (.int .i64 v4.fFrom)), .pure (.val (.int .i64 v4.fTo)), .pure (.val (.bool v4.fAware)), .pure (.sl (v4.fOK.map (Es eB))), .pure (.sl (v4.fRewrite.map (Es eB)))]), (2011, .vec 3 (v17.1.map A1))]) (fun j29 h => ?_) (fun v29 h => ?_)
             ·refine Aa Ae rfl (qf Ib rfl (ql Rb rfl (CE rfl (qm rfl ?_))))
              refine AI (t := 80) rfl (fun c30 => ?_) (fun c30 => ?_)
              ·have h := Aq c30 h
               refine qf I4 rfl (ql Jo rfl (qm rfl ?_))
               obtain ⟨v31, a31, b31, h⟩ := An h
               refine qi FR Mk a31 (Aj b31) rfl (qk OS rfl (qm rfl ?_))
               obtain ⟨v32, a32, b32, h⟩ := An h
               refine qi F6 Pw a32 (Aj b32) rfl (qk Rb rfl (CE rfl (qp rfl (Ac ?_))))
               exact Aw _ h (sm [(2011, 2010)] _ _ rfl rfl)
              ·have h := Ap c30 h
               refine qn rfl (qn rfl (qn rfl (qn rfl (qn rfl (qn rfl (qn rfl (qn rfl (qn rfl (qp rfl (Ac ?_))))))))))
               exact Aw _ h (sm [(2011, 2010)] _ _ rfl rfl)
             ·refine As rfl (fun c33 => ?_) (fun c33 => ?_)
              ·have h := Aq c33 h
               refine Aa Ae rfl (qm rfl (qm rfl (qm rfl (qm rfl (AZ Fs JI rfl (Ex FC DN Fs rfl ?_))))))
               obtain ⟨c34, h⟩ := AO h
               refine DM (f := A1) FC FC DN Rd Fs c34 rfl (qa rfl (Ac ?_))
               exact Aw _ h (sm [(2009, 97)] _ _ rfl rfl)
              ·have h := Ap c33 h
               refine Au ?_
               exact Aw _ h (sm [(2009, 2011)] _ _ rfl rfl)
          ·refine Aa Ae rfl (qm rfl (Bo rfl (qa rfl (Ac ?_))))
           exact Aw _ h (sm [(2007, 2009)] _ _ rfl rfl)
         ·have h := Ap c20 h
          refine A5 ?_
          exact Aw _ h (sm [(2008, 2007)] _ _ rfl rfl)
        ·refine Al hs ?_
         refine AW h (fun v35 => mk [(2, .e (.one (.ptr 2 0))), (3, .e (.one (.ptr 3 0))), (5, .e (.one (.own 2012))), (6, .e (.one (.pure (.val (.int .i64 v1.2))))), (7, .e (.one (.ptr 7 0))), (8, .e (.one (.pure (.val (.int .u8 v6))))), (9, .e (.one (.pure (.val (.int .i64 v10.2))))), (103, .e (.one (.pure (.val (.bool v35)))))] [(2, .box [.pure (.sl (p0.fVersions.map Ag)), .pure (.sl (p0.fNow.map Ag)), .pure (.sl (p0.fTarget.map Ag)), .pure (.sl (p0.fTables.map Ai))]), (3, .box [.pure (.sl (p1.fBase.map Ag)), .pure (.sl (p1.fNext.map Ag)), .pure (.sl (p1.fHeld.map A6))]), (7, .box [.pure (.val (.int .i64 v4.fKind)), .pure (.val (.int .i64 v4.fFrom)), .pure (.val (.int .i64 v4.fTo)), .pure (.val (.bool v4.fAware)), .pure (.sl (v4.fOK.map (Es eB))), .pure (.sl (v4.fRewrite.map (Es eB)))]), (2012, .vec 3 (v18.1.map A1))]) (fun j35 h => ?_) (fun v35 h => ?_)
         ·refine Aa Ae rfl (qf Ib rfl (ql Rb rfl (qm rfl ?_)))
          refine AI (t := 100) rfl (fun c36 => ?_) (fun c36 => ?_)
          ·have h := Aq c36 h
           refine qm rfl (CE rfl (qp rfl (Ac ?_)))
           exact Aw _ h (sm [(2012, 2008)] _ _ rfl rfl)
          ·have h := Ap c36 h
           refine qn rfl (qn rfl (qp rfl (Ac ?_)))
           exact Aw _ h (sm [(2012, 2008)] _ _ rfl rfl)
         ·refine As rfl (fun c37 => ?_) (fun c37 => ?_)
          ·have h := Aq c37 h
           refine Aa Ae rfl (qm rfl (qm rfl (qm rfl (AZ Fs JI rfl (Ex FC DN Fs rfl ?_)))))
           obtain ⟨c38, h⟩ := AO h
           refine DM (f := A1) FC FC DN Rd Fs c38 rfl (qa rfl (Ac ?_))
           exact Aw _ h (sm [(2006, 109)] _ _ rfl rfl)
          ·have h := Ap c37 h
           refine Au ?_
           exact Aw _ h (sm [(2006, 2012)] _ _ rfl rfl)
      ·refine Aa Ae rfl (qm rfl (Bo rfl (qa rfl (Ac ?_))))
       exact Aw _ h (sm [(2004, 2006)] _ _ rfl rfl)
     ·have h := Ap c13 h
      refine A5 ?_
      exact Aw _ h (sm [(2005, 2004)] _ _ rfl rfl)
    ·refine Al hs (Aa Ae rfl (qm rfl (Bo rfl (qa rfl (Ac ?_)))))
     exact Aw _ h (sm [(2001, 2005)] _ _ rfl rfl)
  ·have h := Ap c3 h
   refine A5 ?_
   exact Aw _ h (sm [(2002, 2001)] _ _ rfl rfl)
 ·refine Al hs (Ab (Aa Ae rfl (qm rfl (qa rfl (Ac ?_)))))
  obtain rfl := sj h
  refine Al (sm [(1000, 2002)] [(4, .e (.one (.own 1000)))] [(1000, .vec 3 (v2.map A1))] rfl rfl) (AA ?_)
  exact ⟨⟨[_], ⟨.tmp _ _ rfl, trivial⟩, rfl⟩, ⟨rfl, trivial⟩⟩
set_option maxRecDepth 10000 in
theorem JK (N : Nat) (p0 : Ad) (p1 : Af) (r : Bool) (h : DU N p0 p1 = some r) : AB Try.prog 51 [.e (.agg [.pure (.sl (p0.fVersions.map Ag)), .pure (.sl (p0.fNow.map Ag)), .pure (.sl (p0.fTarget.map Ag)), .pure (.sl (p0.fTables.map Ai))]), .e (.agg [.pure (.sl (p1.fBase.map Ag)), .pure (.sl (p1.fNext.map Ag)), .pure (.sl (p1.fHeld.map A6))])] [] (.e (.one (.pure (.val (.bool r))))) := by
 unfold DU at h
 refine Ao (n := 10) (rs := [.tmp 4]) Try.func51 rfl rfl rfl (BE rfl) (BE rfl) rfl fun w0 S0 => ?_
 refine Ab (Aa Ae rfl (qb rfl (qb rfl (qa rfl (Ac (Ab (Aa Ae rfl (qL Dl CV rfl (qL Be AQ rfl ?_)))))))))
 obtain ⟨v1, a1, h⟩ := bind_some h
 refine AJ [2001] (Hl N p0 p1 v1 a1) WY rfl (Fc FC rfl (BY rfl (qa rfl (Ac ?_))))
 obtain rfl := sj h
 refine Al (sm [] [(4, .e (.one (.pure (.val (.bool (((v1.length : Int) == 0)))))))] [] rfl rfl) (AA ?_)
 exact ⟨⟨[_], ⟨.tmp _ _ rfl, trivial⟩, rfl⟩, trivial⟩
set_option maxRecDepth 10000 in
theorem GG (N : Nat) (p0 : Ad) (p1 : Af) (r : Bool) (h : Cs N p0 p1 = some r) : AB Try.prog 25 [.e (.agg [.pure (.sl (p0.fVersions.map Ag)), .pure (.sl (p0.fNow.map Ag)), .pure (.sl (p0.fTarget.map Ag)), .pure (.sl (p0.fTables.map Ai))]), .e (.agg [.pure (.sl (p1.fBase.map Ag)), .pure (.sl (p1.fNext.map Ag)), .pure (.sl (p1.fHeld.map A6))])] [] (.e (.one (.pure (.val (.bool r))))) := by
 unfold Cs at h
 refine Ao (n := 22) (rs := [.tmp 4]) Try.func25 rfl rfl rfl (BE rfl) (BE rfl) rfl fun w0 S0 => ?_
 refine Ab (Aa Ae rfl (qb rfl (qb rfl (qa rfl (Ac (Ab (Aa Ae rfl (qL Be AQ rfl ?_))))))))
 obtain ⟨v1, a1, h⟩ := bind_some h
 refine AJ [2001] (Ic N p1 v1 a1) Wm rfl (qa rfl (Ac (Ab (Ab (Aa Ae rfl (qa rfl (Ac ?_)))))))
 refine AS (L := B0 N p0 v1) h (fun v2 => mk [(2, .e (.one (.ptr 2 0))), (5, .e (.one (.own 2002))), (6, .e (.one (.pure (.val (.int .i64 v2)))))] [(2, .box [.pure (.sl (p0.fVersions.map Ag)), .pure (.sl (p0.fNow.map Ag)), .pure (.sl (p0.fTarget.map Ag)), .pure (.sl (p0.fTables.map Ai))]), (2002, .vec 3 (v1.map Dx))]) (fun v3 => mk [] []) (fun _ _ => rfl) (sm [(2002, 2001)] _ _ rfl rfl) (fun j2 n2 v2 h => ?_) (fun v3 s h hs => ?_)
 ·unfold B0 at h
  refine Ab (Ab (Aa Ae rfl (qm rfl (qm rfl (Fc IM rfl (A8 rfl (Ac ?_)))))))
  refine As rfl (fun c4 => ?_) (fun c4 => ?_)
  ·have h := Aq c4 h
   refine Au (Ab (AV (Ab (Aa Ae rfl (qL Dl CV rfl (qm rfl (qm rfl ?_)))))))
   obtain ⟨v5, a5, b5, h⟩ := An h
   refine qI IM AQ a5 (Aj b5) rfl (qJ Be AQ (Aj b5) rfl ?_)
   obtain ⟨v6, a6, h⟩ := bind_some h
   refine AJ [] (JK N p0 v5 v6 a6) X4 rfl (CE rfl (AY (by kernel_rfl) ?_))
   refine As rfl (fun c7 => ?_) (fun c7 => ?_)
   ·have h := Aq c7 h
    refine Ab (Aa Ae rfl (qa rfl (Ac ?_)))
    obtain rfl := sj h
    refine Al (sm [] [(4, .e (.one (.pure (.val (.bool false)))))] [] rfl rfl) (AA ?_)
    exact ⟨⟨[_], ⟨.tmp _ _ rfl, trivial⟩, rfl⟩, trivial⟩
   ·have h := Ap c7 h
    refine Au (Aa Ae rfl (qm rfl (Bo rfl (qa rfl (Ac ?_)))))
    exact Aw _ h (sm [] _ _ rfl rfl)
  ·have h := Ap c4 h
   refine A5 ?_
   exact Aw _ h (sm [] _ _ rfl rfl)
 ·refine Al hs (Ab (Aa Ae rfl (qa rfl (Ac ?_))))
  obtain rfl := sj h
  refine Al (sm [] [(4, .e (.one (.pure (.val (.bool true)))))] [] rfl rfl) (AA ?_)
  exact ⟨⟨[_], ⟨.tmp _ _ rfl, trivial⟩, rfl⟩, trivial⟩
set_option maxRecDepth 10000 in
theorem zFS (N : Nat) (p0 : Ad) (p1 : Af) (r : Int) (h : Cu N p0 p1 = some r) : AB Try.prog 24 [.e (.agg [.pure (.sl (p0.fVersions.map Ag)), .pure (.sl (p0.fNow.map Ag)), .pure (.sl (p0.fTarget.map Ag)), .pure (.sl (p0.fTables.map Ai))]), .e (.agg [.pure (.sl (p1.fBase.map Ag)), .pure (.sl (p1.fNext.map Ag)), .pure (.sl (p1.fHeld.map A6))])] [] (.e (.one (.pure (.val (.int .i64 r))))) := by
 unfold Cu at h
 refine Ao (n := 154) (rs := [.tmp 4]) Try.func24 rfl rfl rfl (BE rfl) (BE rfl) rfl fun w0 S0 => ?_
 refine Ab (Aa Ae rfl (qb rfl (qb rfl (qa rfl (Ac (Ab (Ab (Aa Ae rfl (qL Dl CV rfl ?_)))))))))
 obtain ⟨v1, a1, h⟩ := bind_some h
 refine AJ [] (FF N p0 v1 a1) WO rfl (qa rfl (Ac (Ab (Aa Ae rfl (qm rfl (Cn rfl (Ac ?_)))))))
 refine As rfl (fun c2 => ?_) (fun c2 => ?_)
 ·have h := Aq c2 h
  refine Ab (Aa Ae rfl (qm rfl (qa rfl (Ac ?_))))
  obtain rfl := sj h
  refine Al (sm [] [(4, .e (.one (.pure (.val (.int .i64 v1)))))] [] rfl rfl) (AA ?_)
  exact ⟨⟨[_], ⟨.tmp _ _ rfl, trivial⟩, rfl⟩, trivial⟩
 ·have h := Ap c2 h
  refine Au (Ab (Aa Ae rfl (qf Bu rfl (ql A9 rfl (AT AF rfl (qa rfl (Ac (Ab ?_))))))))
  refine AW h (fun v3 => mk [(2, .e (.one (.ptr 2 0))), (3, .e (.one (.ptr 3 0))), (6, .e (.one (.pure (.val (.int .i64 ((p0.fVersions.length : Int))))))), (39, .e (.one (.pure (.val (.bool v3)))))] [(2, .box [.pure (.sl (p0.fVersions.map Ag)), .pure (.sl (p0.fNow.map Ag)), .pure (.sl (p0.fTarget.map Ag)), .pure (.sl (p0.fTables.map Ai))]), (3, .box [.pure (.sl (p1.fBase.map Ag)), .pure (.sl (p1.fNext.map Ag)), .pure (.sl (p1.fHeld.map A6))])]) (fun j3 h => ?_) (fun v3 h => ?_)
  ·refine Aa Ae rfl (qf CA rfl (ql A9 rfl (AT AF rfl (qm rfl (Cn rfl (qm rfl ?_))))))
   refine AI (t := 24) rfl (fun c4 => ?_) (fun c4 => ?_)
   ·have h := Aq c4 h
    refine qn rfl (qn rfl (qn rfl (qn rfl (qn rfl (qp rfl (qm rfl (qn rfl (qn rfl (qn rfl (qn rfl (qn rfl (qn rfl (qn rfl (qp rfl (Ac ?_)))))))))))))))
    exact Aw _ h (sm [] _ _ rfl rfl)
   ·have h := Ap c4 h
    refine qf By rfl (ql A9 rfl (AT AF rfl (qm rfl (Cn rfl (qp rfl (qm rfl ?_))))))
    refine AI (t := 31) rfl (fun c5 => ?_) (fun c5 => ?_)
    ·have h := Aq c5 h
     refine qn rfl (qn rfl (qn rfl (qn rfl (qn rfl (qn rfl (qn rfl (qp rfl (Ac ?_))))))))
     exact Aw _ h (sm [] _ _ rfl rfl)
    ·have h := Ap c5 h
     refine qf CC rfl (ql Gs rfl (AT Du rfl (qf CG rfl (ql GE rfl (AT DQ rfl (Cn rfl (qp rfl (Ac ?_))))))))
     exact Aw _ h (sm [] _ _ rfl rfl)
  ·refine As rfl (fun c6 => ?_) (fun c6 => ?_)
   ·have h := Aq c6 h
    refine Ab (Aa Ae rfl (qa rfl (Ac ?_)))
    obtain rfl := sj h
    refine Al (sm [] [(4, .e (.one (.pure (.val (.int .i64 6)))))] [] rfl rfl) (AA ?_)
    exact ⟨⟨[_], ⟨.tmp _ _ rfl, trivial⟩, rfl⟩, trivial⟩
   ·have h := Ap c6 h
    refine Au (Ab (Ab (Aa Ae rfl (qa rfl (Ac ?_)))))
    refine AS (L := B2 N p0 p1) h (fun v7 => mk [(2, .e (.one (.ptr 2 0))), (3, .e (.one (.ptr 3 0))), (6, .e (.one (.pure (.val (.int .i64 ((p0.fVersions.length : Int))))))), (7, .e (.one (.pure (.val (.int .i64 v7)))))] [(2, .box [.pure (.sl (p0.fVersions.map Ag)), .pure (.sl (p0.fNow.map Ag)), .pure (.sl (p0.fTarget.map Ag)), .pure (.sl (p0.fTables.map Ai))]), (3, .box [.pure (.sl (p1.fBase.map Ag)), .pure (.sl (p1.fNext.map Ag)), .pure (.sl (p1.fHeld.map A6))])]) (fun v8 => mk [(2, .e (.one (.ptr 2 0))), (3, .e (.one (.ptr 3 0)))] [(2, .box [.pure (.sl (p0.fVersions.map Ag)), .pure (.sl (p0.fNow.map Ag)), .pure (.sl (p0.fTarget.map Ag)), .pure (.sl (p0.fTables.map Ai))]), (3, .box [.pure (.sl (p1.fBase.map Ag)), .pure (.sl (p1.fNext.map Ag)), .pure (.sl (p1.fHeld.map A6))])]) (fun _ _ => rfl) (sm [] _ _ rfl rfl) (fun j7 n7 v7 h => ?_) (fun v8 s h hs => ?_)
    ·unfold B2 at h
     refine Ab (Ab (Aa Ae rfl (qm rfl (qm rfl (A8 rfl (Ac ?_))))))
     refine As rfl (fun c9 => ?_) (fun c9 => ?_)
     ·have h := Aq c9 h
      refine Au (Ab (AV (Ab ?_)))
      refine AW h (fun v10 => mk [(2, .e (.one (.ptr 2 0))), (3, .e (.one (.ptr 3 0))), (6, .e (.one (.pure (.val (.int .i64 ((p0.fVersions.length : Int))))))), (7, .e (.one (.pure (.val (.int .i64 v7))))), (84, .e (.one (.pure (.val (.bool v10)))))] [(2, .box [.pure (.sl (p0.fVersions.map Ag)), .pure (.sl (p0.fNow.map Ag)), .pure (.sl (p0.fTarget.map Ag)), .pure (.sl (p0.fTables.map Ai))]), (3, .box [.pure (.sl (p1.fBase.map Ag)), .pure (.sl (p1.fNext.map Ag)), .pure (.sl (p1.fHeld.map A6))])]) (fun j10 h => ?_) (fun v10 h => ?_)
      ·refine Aa Ae rfl (qf CA rfl (ql A9 rfl (qm rfl ?_)))
       obtain ⟨v11, a11, b11, h⟩ := An h
       refine qi AF Df a11 (Aj b11) rfl (qk Cb rfl (A8 rfl (qm rfl ?_)))
       refine AI (t := 51) rfl (fun c12 => ?_) (fun c12 => ?_)
       ·have h := Aq c12 h
        refine qn rfl (qn rfl (qn rfl (qn rfl (qn rfl (qn rfl (qn rfl (qn rfl (qn rfl (qn rfl (qn rfl (qp rfl (qm rfl (qn rfl (qn rfl (qn rfl (qn rfl (qn rfl (qn rfl (qp rfl (qm rfl (qn rfl (qn rfl (qn rfl (qn rfl (qn rfl (qn rfl (qn rfl (qn rfl (qn rfl (qn rfl (qn rfl (qp rfl (AY (by kernel_rfl) ?_)))))))))))))))))))))))))))))))))
        exact Aw _ h (sm [] _ _ rfl rfl)
       ·have h := Ap c12 h
        refine qf CA rfl (ql A9 rfl (qm rfl ?_))
        obtain ⟨v13, a13, b13, h⟩ := An h
        refine qi AF Df a13 (Aj b13) rfl (qk Cb rfl (qf Bu rfl (ql A9 rfl (qm rfl ?_))))
        obtain ⟨v14, a14, b14, h⟩ := An h
        refine qi AF Df a14 (Aj b14) rfl (qk Cb rfl (EE rfl (qp rfl (qm rfl ?_))))
        refine AI (t := 64) rfl (fun c15 => ?_) (fun c15 => ?_)
        ·have h := Aq c15 h
         refine qn rfl (qn rfl (qn rfl (qn rfl (qn rfl (qn rfl (qp rfl (qm rfl (qn rfl (qn rfl (qn rfl (qn rfl (qn rfl (qn rfl (qn rfl (qn rfl (qn rfl (qn rfl (qn rfl (qp rfl (AY (by kernel_rfl) ?_))))))))))))))))))))
         exact Aw _ h (sm [] _ _ rfl rfl)
        ·have h := Ap c15 h
         refine qf By rfl (ql A9 rfl (qm rfl ?_))
         obtain ⟨v16, a16, b16, h⟩ := An h
         refine qi AF Df a16 (Aj b16) rfl (qk Cb rfl (A8 rfl (qp rfl (qm rfl ?_))))
         refine AI (t := 72) rfl (fun c17 => ?_) (fun c17 => ?_)
         ·have h := Aq c17 h
          refine qn rfl (qn rfl (qn rfl (qn rfl (qn rfl (qn rfl (qn rfl (qn rfl (qn rfl (qn rfl (qn rfl (qp rfl (AY (by kernel_rfl) ?_))))))))))))
          exact Aw _ h (sm [] _ _ rfl rfl)
         ·have h := Ap c17 h
          refine qf By rfl (ql A9 rfl (qm rfl ?_))
          obtain ⟨v18, a18, b18, h⟩ := An h
          refine qi AF Df a18 (Aj b18) rfl (qk Cb rfl (qf Bu rfl (ql A9 rfl (qm rfl ?_))))
          obtain ⟨v19, a19, b19, h⟩ := An h
          refine qi AF Df a19 (Aj b19) rfl (qk Cb rfl (EE rfl (qp rfl (AY (by kernel_rfl) ?_))))
          exact Aw _ h (sm [] _ _ rfl rfl)
      ·refine As rfl (fun c20 => ?_) (fun c20 => ?_)
       ·have h := Aq c20 h
        refine Ab (Aa Ae rfl (qa rfl (Ac ?_)))
        obtain rfl := sj h
        refine Al (sm [] [(4, .e (.one (.pure (.val (.int .i64 7)))))] [] rfl rfl) (AA ?_)
        exact ⟨⟨[_], ⟨.tmp _ _ rfl, trivial⟩, rfl⟩, trivial⟩
       ·have h := Ap c20 h
        refine Au (Ab (Aa Ae rfl (qf CA rfl (ql A9 rfl (qm rfl ?_)))))
        obtain ⟨v21, a21, b21, h⟩ := An h
        refine qi AF Df a21 (Aj b21) rfl (qk Cb rfl (qf By rfl (ql A9 rfl (qm rfl ?_))))
        obtain ⟨v22, a22, b22, h⟩ := An h
        refine qi AF Df a22 (Aj b22) rfl (qk Cb rfl (BY rfl (AY (by kernel_rfl) ?_)))
        refine As rfl (fun c23 => ?_) (fun c23 => ?_)
        ·have h := Aq c23 h
         refine Ab (Aa Ae rfl (qa rfl (Ac ?_)))
         obtain rfl := sj h
         refine Al (sm [] [(4, .e (.one (.pure (.val (.int .i64 1)))))] [] rfl rfl) (AA ?_)
         exact ⟨⟨[_], ⟨.tmp _ _ rfl, trivial⟩, rfl⟩, trivial⟩
        ·have h := Ap c23 h
         refine Au (Aa Ae rfl (qm rfl (Bo rfl (qa rfl (Ac ?_)))))
         exact Aw _ h (sm [] _ _ rfl rfl)
     ·have h := Ap c9 h
      refine A5 ?_
      exact Aw _ h (sm [] _ _ rfl rfl)
    ·refine Al hs (Ab (Ab (Aa Ae rfl (qa rfl (Ac ?_)))))
     refine AS (L := BU N p0 p1) h (fun v24 => mk [(2, .e (.one (.ptr 2 0))), (3, .e (.one (.ptr 3 0))), (8, .e (.one (.pure (.val (.int .i64 v24)))))] [(2, .box [.pure (.sl (p0.fVersions.map Ag)), .pure (.sl (p0.fNow.map Ag)), .pure (.sl (p0.fTarget.map Ag)), .pure (.sl (p0.fTables.map Ai))]), (3, .box [.pure (.sl (p1.fBase.map Ag)), .pure (.sl (p1.fNext.map Ag)), .pure (.sl (p1.fHeld.map A6))])]) (fun v25 => mk [] []) (fun _ _ => rfl) (sm [] _ _ rfl rfl) (fun j24 n24 v24 h => ?_) (fun v25 s h hs => ?_)
     ·unfold BU at h
      refine Ab (Ab (Aa Ae rfl (qm rfl (qf CG rfl (ql GE rfl (AT DQ rfl (A8 rfl (Ac ?_))))))))
      refine As rfl (fun c26 => ?_) (fun c26 => ?_)
      ·have h := Aq c26 h
       refine Au (Ab (AV (Ab (Aa Ae rfl (qf CG rfl (ql GE rfl (qm rfl ?_)))))))
       obtain ⟨v27, a27, b27, h⟩ := An h
       refine qi DQ DV a27 (Aj b27) rfl (qK GK DV rfl (qz Kc rfl (qs DV rfl (Ac (Ab (Aa Ae rfl (qf Bu rfl (ql A9 rfl (qf CX rfl (ql Cb rfl ?_))))))))))
       obtain ⟨v28, a28, b28, h⟩ := An h
       refine qi AF Df a28 (Aj b28) rfl (qk Cb rfl ?_)
       obtain ⟨c29, h⟩ := AO h
       refine Id rfl c29 (PL rfl (qa rfl (Ac ?_)))
       refine AW h (fun v30 => mk [(2, .e (.one (.ptr 2 0))), (3, .e (.one (.ptr 3 0))), (8, .e (.one (.pure (.val (.int .i64 v24))))), (153, .e (.one (.pure (.val (.bool v30)))))] [(2, .box [.pure (.sl (p0.fVersions.map Ag)), .pure (.sl (p0.fNow.map Ag)), .pure (.sl (p0.fTarget.map Ag)), .pure (.sl (p0.fTables.map Ai))]), (3, .box [.pure (.sl (p1.fBase.map Ag)), .pure (.sl (p1.fNext.map Ag)), .pure (.sl (p1.fHeld.map A6))])]) (fun j30 h => ?_) (fun v30 h => ?_)
       ·refine Aa Ae rfl (qL GK DV rfl ?_)
        obtain ⟨v31, a31, h⟩ := bind_some h
        refine AJ [] (Cd N v27 v31 a31) O0 rfl (CE rfl (qm rfl ?_))
        refine AI (t := 119) rfl (fun c32 => ?_) (fun c32 => ?_)
        ·have h := Aq c32 h
         refine qf CC rfl (ql Gs rfl (qm rfl ?_))
         obtain ⟨v33, a33, b33, h⟩ := An h
         refine qi Du Ft a33 (Aj b33) rfl (qk Jz rfl (Cn rfl (qp rfl (qm rfl ?_))))
         refine AI (t := 127) rfl (fun c34 => ?_) (fun c34 => ?_)
         ·have h := Aq c34 h
          refine qn rfl (qn rfl (qn rfl (qu rfl (qu rfl (qu rfl (qu rfl (qu rfl (qu rfl (qu rfl (qu rfl (qu rfl (qu rfl (qu rfl (qu rfl (qu rfl (qu rfl (qu rfl (qu rfl (qu rfl (qu rfl (qu rfl (qu rfl (qu rfl (qn rfl (qp rfl (AY (by kernel_rfl) ?_))))))))))))))))))))))))))
          exact Aw _ h (sm [] _ _ rfl rfl)
         ·have h := Ap c34 h
          refine qL GK DV rfl ?_
          obtain ⟨v35, a35, h⟩ := bind_some h
          refine AJ [] (Cd N v27 v35 a35) O0 rfl (qm rfl ?_)
          refine AI (t := 130) rfl (fun c36 => ?_) (fun c36 => ?_)
          ·have h := Aq c36 h
           refine qf CC rfl (ql Gs rfl (qm rfl ?_))
           obtain ⟨v37, a37, b37, h⟩ := An h
           refine qi Du Ft a37 (Aj b37) rfl (qk Jz rfl (qm rfl (HN rfl (Cn rfl (qm rfl ?_)))))
           refine AI (t := 139) rfl (fun c38 => ?_) (fun c38 => ?_)
           ·have h := Aq c38 h
            refine qn rfl (qn rfl (qn rfl (qn rfl (qn rfl (qn rfl (qn rfl (qn rfl (qn rfl (qn rfl (qn rfl (qp rfl (qp rfl (qp rfl (AY (by kernel_rfl) ?_))))))))))))))
            exact Aw _ h (sm [] _ _ rfl rfl)
           ·have h := Ap c38 h
            refine qL Be AQ rfl (qf CX rfl (ql Cb rfl ?_))
            obtain ⟨v39, a39, h⟩ := bind_some h
            refine AJ [] (DP N p1 v27.fFrom v39 a39) SA rfl (qf CC rfl (ql Gs rfl (qm rfl ?_)))
            obtain ⟨v40, a40, b40, h⟩ := An h
            refine qi Du Ft a40 (Aj b40) rfl (qk Jz rfl (HN rfl (Cn rfl (qp rfl (qp rfl (qp rfl (AY (by kernel_rfl) ?_)))))))
            exact Aw _ h (sm [] _ _ rfl rfl)
          ·have h := Ap c36 h
           refine qn rfl (qn rfl (qn rfl (qn rfl (qn rfl (qn rfl (qn rfl (qn rfl (qn rfl (qu rfl (qu rfl (qu rfl (qu rfl (qu rfl (qu rfl (qu rfl (qu rfl (qu rfl (qu rfl (qu rfl (qn rfl (qp rfl (qp rfl (AY (by kernel_rfl) ?_)))))))))))))))))))))))
           exact Aw _ h (sm [] _ _ rfl rfl)
        ·have h := Ap c32 h
         refine qn rfl (qn rfl (qn rfl (qn rfl (qn rfl (qn rfl (qp rfl (qm rfl (qL GK DV rfl ?_))))))))
         obtain ⟨v41, a41, h⟩ := bind_some h
         refine AJ [] (Cd N v27 v41 a41) O0 rfl (qm rfl ?_)
         refine AI (t := 130) rfl (fun c42 => ?_) (fun c42 => ?_)
         ·have h := Aq c42 h
          refine qf CC rfl (ql Gs rfl (qm rfl ?_))
          obtain ⟨v43, a43, b43, h⟩ := An h
          refine qi Du Ft a43 (Aj b43) rfl (qk Jz rfl (qm rfl (HN rfl (Cn rfl (qm rfl ?_)))))
          refine AI (t := 139) rfl (fun c44 => ?_) (fun c44 => ?_)
          ·have h := Aq c44 h
           refine qn rfl (qn rfl (qn rfl (qn rfl (qn rfl (qn rfl (qn rfl (qn rfl (qn rfl (qn rfl (qn rfl (qp rfl (qp rfl (qp rfl (AY (by kernel_rfl) ?_))))))))))))))
           exact Aw _ h (sm [] _ _ rfl rfl)
          ·have h := Ap c44 h
           refine qL Be AQ rfl (qf CX rfl (ql Cb rfl ?_))
           obtain ⟨v45, a45, h⟩ := bind_some h
           refine AJ [] (DP N p1 v27.fFrom v45 a45) SA rfl (qf CC rfl (ql Gs rfl (qm rfl ?_)))
           obtain ⟨v46, a46, b46, h⟩ := An h
           refine qi Du Ft a46 (Aj b46) rfl (qk Jz rfl (HN rfl (Cn rfl (qp rfl (qp rfl (qp rfl (AY (by kernel_rfl) ?_)))))))
           exact Aw _ h (sm [] _ _ rfl rfl)
         ·have h := Ap c42 h
          refine qn rfl (qn rfl (qn rfl (qn rfl (qn rfl (qn rfl (qn rfl (qn rfl (qn rfl (qu rfl (qu rfl (qu rfl (qu rfl (qu rfl (qu rfl (qu rfl (qu rfl (qu rfl (qu rfl (qu rfl (qn rfl (qp rfl (qp rfl (AY (by kernel_rfl) ?_)))))))))))))))))))))))
          exact Aw _ h (sm [] _ _ rfl rfl)
       ·refine As rfl (fun c47 => ?_) (fun c47 => ?_)
        ·have h := Aq c47 h
         refine Ab (Aa Ae rfl (qa rfl (Ac ?_)))
         obtain rfl := sj h
         refine Al (sm [] [(4, .e (.one (.pure (.val (.int .i64 1)))))] [] rfl rfl) (AA ?_)
         exact ⟨⟨[_], ⟨.tmp _ _ rfl, trivial⟩, rfl⟩, trivial⟩
        ·have h := Ap c47 h
         refine Au (Aa Ae rfl (qm rfl (Bo rfl (qa rfl (Ac ?_)))))
         exact Aw _ h (sm [] _ _ rfl rfl)
      ·have h := Ap c26 h
       refine A5 ?_
       exact Aw _ h (sm [] _ _ rfl rfl)
     ·refine Al hs (Ab (Aa Ae rfl (qa rfl (Ac ?_))))
      obtain rfl := sj h
      refine Al (sm [] [(4, .e (.one (.pure (.val (.int .i64 0)))))] [] rfl rfl) (AA ?_)
      exact ⟨⟨[_], ⟨.tmp _ _ rfl, trivial⟩, rfl⟩, trivial⟩
set_option maxRecDepth 10000 in
theorem J7 (N : Nat) (p0 : Ah) (r : Bool) (h : Eg N p0 = some r) : AB Try.prog 80 [.e (.agg [.pure (.val (.int .i64 p0.fKind)), .pure (.val (.int .i64 p0.fIndex)), .pure (.val (.int .i64 p0.fVersion))])] [] (.e (.one (.pure (.val (.bool r))))) := by
 unfold Eg at h
 refine Ao (n := 31) (rs := [.tmp 2]) Try.func80 rfl rfl rfl (BE rfl) (BE rfl) rfl fun w0 S0 => ?_
 refine Ab (Aa Ae rfl (qb rfl (qa rfl (Ac ?_))))
 refine AW h (fun v1 => mk [(2, .e (.one (.pure (.val (.bool v1)))))] []) (fun j1 h => ?_) (fun v1 h => ?_)
 ·refine Aa Ae rfl (qf EO rfl (ql Cb rfl (EE rfl (qm rfl ?_))))
  refine AI (t := 6) rfl (fun c2 => ?_) (fun c2 => ?_)
  ·have h := Aq c2 h
   refine qf EO rfl (ql Cb rfl (Th rfl (qp rfl (qm rfl ?_))))
   refine AI (t := 11) rfl (fun c3 => ?_) (fun c3 => ?_)
   ·have h := Aq c3 h
    refine qf EA rfl (ql Cb rfl (EE rfl (qp rfl (qm rfl ?_))))
    refine AI (t := 16) rfl (fun c4 => ?_) (fun c4 => ?_)
    ·have h := Aq c4 h
     refine qf Gb rfl (ql Cb rfl (EE rfl (qp rfl (qm rfl ?_))))
     refine AI (t := 21) rfl (fun c5 => ?_) (fun c5 => ?_)
     ·have h := Aq c5 h
      refine qf EO rfl (ql Cb rfl (BY rfl (qm rfl ?_)))
      refine AI (t := 25) rfl (fun c6 => ?_) (fun c6 => ?_)
      ·have h := Aq c6 h
       refine qn rfl (qn rfl (qn rfl (qp rfl (qp rfl (qa rfl (Ac ?_))))))
       exact Aw _ h (sm [] _ _ rfl rfl)
      ·have h := Ap c6 h
       refine qf Gb rfl (ql Cb rfl (BY rfl (qp rfl (qp rfl (qa rfl (Ac ?_))))))
       exact Aw _ h (sm [] _ _ rfl rfl)
     ·have h := Ap c5 h
      refine qn rfl (qn rfl (qn rfl (qn rfl (qu rfl (qu rfl (qu rfl (qn rfl (qp rfl (qa rfl (Ac ?_))))))))))
      exact Aw _ h (sm [] _ _ rfl rfl)
    ·have h := Ap c4 h
     refine qn rfl (qn rfl (qn rfl (qp rfl (qm rfl (qn rfl (qn rfl (qn rfl (qn rfl (qu rfl (qu rfl (qu rfl (qn rfl (qp rfl (qa rfl (Ac ?_)))))))))))))))
     exact Aw _ h (sm [] _ _ rfl rfl)
   ·have h := Ap c3 h
    refine qn rfl (qn rfl (qn rfl (qp rfl (qm rfl (qn rfl (qn rfl (qn rfl (qp rfl (qm rfl (qn rfl (qn rfl (qn rfl (qn rfl (qu rfl (qu rfl (qu rfl (qn rfl (qp rfl (qa rfl (Ac ?_))))))))))))))))))))
    exact Aw _ h (sm [] _ _ rfl rfl)
  ·have h := Ap c2 h
   refine qn rfl (qn rfl (qn rfl (qp rfl (qm rfl (qn rfl (qn rfl (qn rfl (qp rfl (qm rfl (qn rfl (qn rfl (qn rfl (qp rfl (qm rfl (qn rfl (qn rfl (qn rfl (qn rfl (qu rfl (qu rfl (qu rfl (qn rfl (qp rfl (qa rfl (Ac ?_)))))))))))))))))))))))))
   exact Aw _ h (sm [] _ _ rfl rfl)
 ·obtain rfl := sj h
  refine Al (sm [] [(2, .e (.one (.pure (.val (.bool v1)))))] [] rfl rfl) (AA ?_)
  exact ⟨⟨[_], ⟨.tmp _ _ rfl, trivial⟩, rfl⟩, trivial⟩
set_option maxRecDepth 10000 in
theorem Hr (N : Nat) (p0 : Ad) (p1 : Af) (p2 : Ah) (r : Af × Bool) (h : Cw N p0 p1 p2 = some r) : AB Try.prog 30 [.e (.agg [.pure (.sl (p0.fVersions.map Ag)), .pure (.sl (p0.fNow.map Ag)), .pure (.sl (p0.fTarget.map Ag)), .pure (.sl (p0.fTables.map Ai))]), .e (.agg [.pure (.sl (p1.fBase.map Ag)), .pure (.sl (p1.fNext.map Ag)), .pure (.sl (p1.fHeld.map A6))]), .e (.agg [.pure (.val (.int .i64 p2.fKind)), .pure (.val (.int .i64 p2.fIndex)), .pure (.val (.int .i64 p2.fVersion))])] [(1, r.1.fBase.map Ag), (1, r.1.fNext.map Ag), (1, r.1.fHeld.map A6)] (.tup [.agg [.own 0, .own 1, .own 2], .one (.pure (.val (.bool r.2)))]) := by
 unfold Cw at h
 refine Ao (n := 201) (rs := [.cell 6 43, .tmp 7]) Try.func30 rfl rfl rfl (BE rfl) (BE rfl) rfl fun w0 S0 => ?_
 refine Ab (Aa Ae rfl (qb rfl (qb rfl (qb rfl (qz CF rfl (qa rfl (Ac (Ab (Aa Ae rfl (Ex AF Df Ko rfl (qf CA rfl (ql A9 rfl ?_))))))))))))
 obtain ⟨c1, h⟩ := AO h
 refine JN (f := Ag) AF AF Df K6 Ko (fun _ => rfl) c1 rfl (Ex AF Df Ko rfl (qf By rfl (ql A9 rfl ?_)))
 obtain ⟨c2, h⟩ := AO h
 refine JN (f := Ag) AF AF Df K6 Ko (fun _ => rfl) c2 rfl (Ex Du Ft OR rfl (qf CC rfl (ql Gs rfl ?_)))
 obtain ⟨c3, h⟩ := AO h
 refine JN (f := A6) Du Du Ft Qt OR (fun _ => rfl) c3 rfl (AZ CF FN rfl (qz CF rfl (qs AQ rfl (AY (by kernel_rfl) (Ab (Aa Ae rfl (qf EA rfl (ql Cb rfl (qa rfl (Ac ?_))))))))))
 refine AW h (fun v4 => mk [(6, .e (.one (.ptr 6 0))), (8, .e (.one (.ptr 8 0)))] [(6, .box [.pure (.nil0), .pure (.nil0), .pure (.nil0)]), (8, .box [.own 2001, .own 2002, .own 2003]), (2001, .vec 1 (v4.1.map Ag)), (2002, .vec 1 (v4.2.1.map Ag)), (2003, .vec 1 (v4.2.2.map A6))]) (fun j4 h => ?_) (fun v4 h => ?_)
 ·refine Ab (Aa Ae rfl (qf EO rfl (ql Cb rfl (Ac (AV (Ab (Aa Ae rfl (BY rfl (qa rfl (Ac ?_))))))))))
  refine As rfl (fun c5 => ?_) (fun c5 => ?_)
  ·have h := Aq c5 h
   refine Ab ?_
   refine AW h (fun v6 => mk [(3, .e (.one (.ptr 3 0))), (5, .e (.one (.ptr 5 0))), (6, .e (.one (.ptr 6 0))), (8, .e (.one (.ptr 8 0))), (9, .e (.one (.pure (.val (.int .i64 p2.fIndex))))), (60, .e (.one (.pure (.val (.bool v6)))))] [(3, .box [.pure (.sl (p0.fVersions.map Ag)), .pure (.sl (p0.fNow.map Ag)), .pure (.sl (p0.fTarget.map Ag)), .pure (.sl (p0.fTables.map Ai))]), (5, .box [.pure (.val (.int .i64 p2.fKind)), .pure (.val (.int .i64 p2.fIndex)), .pure (.val (.int .i64 p2.fVersion))]), (6, .box [.pure (.nil0), .pure (.nil0), .pure (.nil0)]), (8, .box [.own 2004, .own 2005, .own 2006]), (2004, .vec 1 (((([] : List Int)) ++ p1.fBase).map Ag)), (2005, .vec 1 (((([] : List Int)) ++ p1.fNext).map Ag)), (2006, .vec 1 (((([] : List Int)) ++ p1.fHeld).map A6))]) (fun j6 h => ?_) (fun v6 h => ?_)
   ·refine Aa Ae rfl (qf By rfl (ql A9 rfl (qm rfl ?_)))
    obtain ⟨v7, a7, b7, h⟩ := An h
    refine qi AF Df a7 (Aj b7) rfl (qk Cb rfl (EE rfl (qm rfl ?_)))
    refine AI (t := 51) rfl (fun c8 => ?_) (fun c8 => ?_)
    ·have h := Aq c8 h
     refine qn rfl (qn rfl (qn rfl (qn rfl (qn rfl (qn rfl (qn rfl (qn rfl (qp rfl (AY (by kernel_rfl) ?_)))))))))
     exact Aw _ h (sm [(2004, 18), (2005, 22), (2006, 26)] _ _ rfl rfl)
    ·have h := Ap c8 h
     refine qf Gb rfl (ql Cb rfl (qf CA rfl (ql A9 rfl (qm rfl ?_))))
     obtain ⟨v9, a9, b9, h⟩ := An h
     refine qi AF Df a9 (Aj b9) rfl (qk Cb rfl (BY rfl (qp rfl (AY (by kernel_rfl) ?_))))
     exact Aw _ h (sm [(2004, 18), (2005, 22), (2006, 26)] _ _ rfl rfl)
   ·refine As rfl (fun c10 => ?_) (fun c10 => ?_)
    ·have h := Aq c10 h
     refine Ab (Aa Ae rfl (AZ CF FN rfl (qs AQ rfl (qa rfl (Ac ?_)))))
     obtain rfl := sj h
     refine Al ((AE 6 0 2007 1 _ rfl rfl rfl rfl).trans ((AE 6 1 2008 1 _ rfl rfl rfl rfl).trans ((AE 6 2 2009 1 _ rfl rfl rfl rfl).trans (sm [(1000, 2007), (1001, 2008), (1002, 2009)] [(6, .e (.one (.ptr 6 0))), (7, .e (.one (.pure (.val (.bool false)))))] [(6, .box [.own 1000, .own 1001, .own 1002]), (1000, .vec 1 ((([] : List Int)).map Ag)), (1001, .vec 1 ((([] : List Int)).map Ag)), (1002, .vec 1 ((([] : List Int)).map A6))] rfl rfl)))) (AA ?_)
     exact ⟨⟨[_, _], ⟨.cellN _ _ _ _ _ _ _ rfl rfl Be AQ rfl rfl (FT rfl), ⟨.tmp _ _ rfl, trivial⟩⟩, rfl⟩, ⟨rfl, rfl, rfl, trivial⟩⟩
    ·have h := Ap c10 h
     refine Au (Ab (Aa Ae rfl (qf By rfl (ql A9 rfl (qm rfl (qf Gb rfl (ql Cb rfl ?_)))))))
     obtain ⟨v11, a11, b11, h⟩ := An h
     refine qI AF Df a11 (Aj b11) rfl ?_
     refine Ee rfl rfl rfl rfl (Aj b11) rfl Df rfl (BE rfl) (DS Ag ((([] : List Int)) ++ p1.fNext) _ p2.fVersion) ?_
     refine Ac (Ab (Aa Ae rfl (qa rfl (Ac ?_))))
     refine AS (L := BV N p0 p2) h (fun v12 => mk [(3, .e (.one (.ptr 3 0))), (5, .e (.one (.ptr 5 0))), (6, .e (.one (.ptr 6 0))), (8, .e (.one (.ptr 8 0))), (9, .e (.one (.pure (.val (.int .i64 p2.fIndex))))), (10, .e (.one (.pure (.val (.int .i64 v12.2)))))] [(3, .box [.pure (.sl (p0.fVersions.map Ag)), .pure (.sl (p0.fNow.map Ag)), .pure (.sl (p0.fTarget.map Ag)), .pure (.sl (p0.fTables.map Ai))]), (5, .box [.pure (.val (.int .i64 p2.fKind)), .pure (.val (.int .i64 p2.fIndex)), .pure (.val (.int .i64 p2.fVersion))]), (6, .box [.pure (.nil0), .pure (.nil0), .pure (.nil0)]), (8, .box [.own 2010, .own 2011, .own 2012]), (2010, .vec 1 (((([] : List Int)) ++ p1.fBase).map Ag)), (2011, .vec 1 ((((([] : List Int)) ++ p1.fNext).set ((p2.fIndex).toNat) p2.fVersion).map Ag)), (2012, .vec 1 (v12.1.map A6))]) (fun v13 => mk [(6, .e (.one (.ptr 6 0))), (8, .e (.one (.ptr 8 0)))] [(6, .box [.pure (.nil0), .pure (.nil0), .pure (.nil0)]), (8, .box [.own 2013, .own 2014, .own 2015]), (2013, .vec 1 (((([] : List Int)) ++ p1.fBase).map Ag)), (2014, .vec 1 ((((([] : List Int)) ++ p1.fNext).set ((p2.fIndex).toNat) p2.fVersion).map Ag)), (2015, .vec 1 (v13.map A6))]) (fun _ _ => rfl) (sm [(2010, 2004), (2011, 2005), (2012, 2006)] _ _ rfl rfl) (fun j12 n12 v12 h => ?_) (fun v13 s h hs => ?_)
     ·unfold BV at h
      refine Ab (Ab (Aa Ae rfl (qm rfl (qf CG rfl (ql GE rfl (AT DQ rfl (A8 rfl (Ac ?_))))))))
      refine As rfl (fun c14 => ?_) (fun c14 => ?_)
      ·have h := Aq c14 h
       refine Au ?_
       refine AW h (fun v15 => mk [(3, .e (.one (.ptr 3 0))), (5, .e (.one (.ptr 5 0))), (6, .e (.one (.ptr 6 0))), (8, .e (.one (.ptr 8 0))), (9, .e (.one (.pure (.val (.int .i64 p2.fIndex))))), (10, .e (.one (.pure (.val (.int .i64 v12.2)))))] [(3, .box [.pure (.sl (p0.fVersions.map Ag)), .pure (.sl (p0.fNow.map Ag)), .pure (.sl (p0.fTarget.map Ag)), .pure (.sl (p0.fTables.map Ai))]), (5, .box [.pure (.val (.int .i64 p2.fKind)), .pure (.val (.int .i64 p2.fIndex)), .pure (.val (.int .i64 p2.fVersion))]), (6, .box [.pure (.nil0), .pure (.nil0), .pure (.nil0)]), (8, .box [.own 2016, .own 2017, .own 2018]), (2016, .vec 1 (((([] : List Int)) ++ p1.fBase).map Ag)), (2017, .vec 1 ((((([] : List Int)) ++ p1.fNext).set ((p2.fIndex).toNat) p2.fVersion).map Ag)), (2018, .vec 1 (v15.map A6))]) (fun j15 h => ?_) (fun v15 h => ?_)
       ·refine AV ?_
        refine AW h (fun v16 => mk [(3, .e (.one (.ptr 3 0))), (5, .e (.one (.ptr 5 0))), (6, .e (.one (.ptr 6 0))), (8, .e (.one (.ptr 8 0))), (9, .e (.one (.pure (.val (.int .i64 p2.fIndex))))), (10, .e (.one (.pure (.val (.int .i64 v12.2))))), (90, .e (.one (.pure (.val (.bool v16)))))] [(3, .box [.pure (.sl (p0.fVersions.map Ag)), .pure (.sl (p0.fNow.map Ag)), .pure (.sl (p0.fTarget.map Ag)), .pure (.sl (p0.fTables.map Ai))]), (5, .box [.pure (.val (.int .i64 p2.fKind)), .pure (.val (.int .i64 p2.fIndex)), .pure (.val (.int .i64 p2.fVersion))]), (6, .box [.pure (.nil0), .pure (.nil0), .pure (.nil0)]), (8, .box [.own 2019, .own 2020, .own 2021]), (2019, .vec 1 (((([] : List Int)) ++ p1.fBase).map Ag)), (2020, .vec 1 ((((([] : List Int)) ++ p1.fNext).set ((p2.fIndex).toNat) p2.fVersion).map Ag)), (2021, .vec 1 (v12.1.map A6))]) (fun j16 h => ?_) (fun v16 h => ?_)
        ·refine Aa Ae rfl (qf CG rfl (ql GE rfl (qm rfl ?_)))
         obtain ⟨v17, a17, b17, h⟩ := An h
         refine qi DQ DV a17 (Aj b17) rfl (qg CX rfl (qk Cb rfl (qm rfl (BY rfl (qm rfl ?_)))))
         refine AI (t := 83) rfl (fun c18 => ?_) (fun c18 => ?_)
         ·have h := Aq c18 h
          refine qf CG rfl (ql GE rfl (qm rfl ?_))
          obtain ⟨v19, a19, b19, h⟩ := An h
          refine qi DQ DV a19 (Aj b19) rfl (qK GK DV rfl ?_)
          obtain ⟨v20, a20, h⟩ := bind_some h
          refine AJ [] (Cd N v19 v20 a20) O0 rfl (qp rfl (Ac ?_))
          exact Aw _ h (sm [(2019, 2010), (2020, 2011), (2021, 2012)] _ _ rfl rfl)
         ·have h := Ap c18 h
          refine qn rfl (qn rfl (qn rfl (qn rfl (qn rfl (qn rfl (qp rfl (Ac ?_)))))))
          exact Aw _ h (sm [(2019, 2010), (2020, 2011), (2021, 2012)] _ _ rfl rfl)
        ·refine As rfl (fun c21 => ?_) (fun c21 => ?_)
         ·have h := Aq c21 h
          refine Aa Ae rfl (qf CC rfl (ql Gs rfl (qm rfl (qf CC rfl (ql Gs rfl (qm rfl ?_))))))
          obtain ⟨v22, a22, b22, h⟩ := An h
          refine qI Du Ft a22 (Aj b22) rfl (qj Jz (Aj b22) rfl (qf Gb rfl (ql Cb rfl ?_)))
          obtain ⟨c23, h⟩ := AO h
          refine Id rfl c23 (Tf rfl ?_)
          obtain ⟨v24, a24, b24, h⟩ := An h
          refine qI Du Ft a24 (Aj b24) rfl ?_
          refine Ee rfl rfl rfl rfl (Aj b24) rfl Ft rfl (BE rfl) (DS A6 v12.1 _ ((Nq .u8 v22 ((DA .u8 1 p2.fVersion))))) ?_
          refine AY (by kernel_rfl) ?_
          exact Aw _ h (sm [(2016, 2019), (2017, 2020), (2018, 2021)] _ _ rfl rfl)
         ·have h := Ap c21 h
          refine Au ?_
          exact Aw _ h (sm [(2016, 2019), (2017, 2020), (2018, 2021)] _ _ rfl rfl)
       ·refine Aa Ae rfl (qm rfl (Bo rfl (qa rfl (Ac ?_))))
        exact Aw _ h (sm [(2010, 2016), (2011, 2017), (2012, 2018)] _ _ rfl rfl)
      ·have h := Ap c14 h
       refine A5 ?_
       exact Aw _ h (sm [(2013, 2010), (2014, 2011), (2015, 2012)] _ _ rfl rfl)
     ·exact Aw _ h (hs.trans (sm [(2001, 2013), (2002, 2014), (2003, 2015)] _ _ rfl rfl))
  ·have h := Ap c5 h
   refine Ab (Aa Ae rfl (BY rfl (qa rfl (Ac ?_))))
   refine As rfl (fun c25 => ?_) (fun c25 => ?_)
   ·have h := Aq c25 h
    refine Ab (Ab (Aa Ae rfl (qf By rfl (ql A9 rfl (qm rfl ?_)))))
    obtain ⟨v26, a26, b26, h⟩ := An h
    refine qi AF Df a26 (Aj b26) rfl (qk Cb rfl (A8 rfl (Ac ?_)))
    refine As rfl (fun c27 => ?_) (fun c27 => ?_)
    ·have h := Aq c27 h
     refine Ab (Aa Ae rfl (AZ CF FN rfl (qs AQ rfl (qa rfl (Ac ?_)))))
     obtain rfl := sj h
     refine Al ((AE 6 0 2022 1 _ rfl rfl rfl rfl).trans ((AE 6 1 2023 1 _ rfl rfl rfl rfl).trans ((AE 6 2 2024 1 _ rfl rfl rfl rfl).trans (sm [(1000, 2022), (1001, 2023), (1002, 2024)] [(6, .e (.one (.ptr 6 0))), (7, .e (.one (.pure (.val (.bool false)))))] [(6, .box [.own 1000, .own 1001, .own 1002]), (1000, .vec 1 ((([] : List Int)).map Ag)), (1001, .vec 1 ((([] : List Int)).map Ag)), (1002, .vec 1 ((([] : List Int)).map A6))] rfl rfl)))) (AA ?_)
     exact ⟨⟨[_, _], ⟨.cellN _ _ _ _ _ _ _ rfl rfl Be AQ rfl rfl (FT rfl), ⟨.tmp _ _ rfl, trivial⟩⟩, rfl⟩, ⟨rfl, rfl, rfl, trivial⟩⟩
    ·have h := Ap c27 h
     refine Au (Aa Ae rfl (qf CA rfl (ql A9 rfl (qm rfl (qf By rfl (ql A9 rfl (qm rfl (qf By rfl (ql A9 rfl (qm rfl ?_))))))))))
     obtain ⟨v28, a28, b28, h⟩ := An h
     refine qi AF Df a28 (Aj b28) rfl (qk Cb rfl ?_)
     obtain ⟨v29, a29, b29, h⟩ := An h
     refine qI AF Df a29 (Aj b29) rfl ?_
     refine Ee rfl rfl rfl rfl (Aj b29) rfl Df rfl (BE rfl) (DS Ag ((([] : List Int)) ++ p1.fBase) _ v28) ?_
     obtain ⟨v30, a30, b30, h⟩ := An h
     refine qI AF Df a30 (Aj b30) rfl ?_
     refine Ee rfl rfl rfl rfl (Aj b30) rfl Df rfl (BE rfl) (DS Ag ((([] : List Int)) ++ p1.fNext) _ ((-1))) ?_
     refine AY (by kernel_rfl) ?_
     exact Aw _ h (sm [(2001, 18), (2002, 22), (2003, 26)] _ _ rfl rfl)
   ·have h := Ap c25 h
    refine Ab (Aa Ae rfl (BY rfl (qa rfl (Ac ?_))))
    refine As rfl (fun c31 => ?_) (fun c31 => ?_)
    ·have h := Aq c31 h
     refine Ab (Aa Ae rfl (qf CG rfl (ql GE rfl (qm rfl ?_))))
     obtain ⟨v32, a32, b32, h⟩ := An h
     refine qi DQ DV a32 (Aj b32) rfl (qK GK DV rfl (qz Kc rfl (qs DV rfl (Ac (Ab (Ab (Aa Ae rfl (qL GK DV rfl ?_))))))))
     obtain ⟨v33, a33, h⟩ := bind_some h
     refine AJ [] (Cd N v32 v33 a33) O0 rfl (CE rfl (Ac ?_))
     refine As rfl (fun c34 => ?_) (fun c34 => ?_)
     ·have h := Aq c34 h
      refine Ab (Aa Ae rfl (AZ CF FN rfl (qs AQ rfl (qa rfl (Ac ?_)))))
      obtain rfl := sj h
      refine Al ((AE 6 0 2025 1 _ rfl rfl rfl rfl).trans ((AE 6 1 2026 1 _ rfl rfl rfl rfl).trans ((AE 6 2 2027 1 _ rfl rfl rfl rfl).trans (sm [(1000, 2025), (1001, 2026), (1002, 2027)] [(6, .e (.one (.ptr 6 0))), (7, .e (.one (.pure (.val (.bool false)))))] [(6, .box [.own 1000, .own 1001, .own 1002]), (1000, .vec 1 ((([] : List Int)).map Ag)), (1001, .vec 1 ((([] : List Int)).map Ag)), (1002, .vec 1 ((([] : List Int)).map A6))] rfl rfl)))) (AA ?_)
      exact ⟨⟨[_, _], ⟨.cellN _ _ _ _ _ _ _ rfl rfl Be AQ rfl rfl (FT rfl), ⟨.tmp _ _ rfl, trivial⟩⟩, rfl⟩, ⟨rfl, rfl, rfl, trivial⟩⟩
     ·have h := Ap c34 h
      refine Au (Ab (Aa Ae rfl (qL Be AQ rfl (qf CX rfl (ql Cb rfl ?_)))))
      obtain ⟨v35, a35, h⟩ := bind_some h
      refine AJ [] (DP N p1 v32.fFrom v35 a35) SA rfl (qa rfl (Ac (Ab (Ab (Aa Ae rfl (qf CC rfl (ql Gs rfl (qm rfl ?_))))))))
      obtain ⟨v36, a36, b36, h⟩ := An h
      refine qi Du Ft a36 (Aj b36) rfl (qk Jz rfl (qm rfl (BY rfl (Ac ?_))))
      refine As rfl (fun c37 => ?_) (fun c37 => ?_)
      ·have h := Aq c37 h
       refine Ab (Aa Ae rfl (AZ CF FN rfl (qs AQ rfl (qa rfl (Ac ?_)))))
       obtain rfl := sj h
       refine Al ((AE 6 0 2028 1 _ rfl rfl rfl rfl).trans ((AE 6 1 2029 1 _ rfl rfl rfl rfl).trans ((AE 6 2 2030 1 _ rfl rfl rfl rfl).trans (sm [(1000, 2028), (1001, 2029), (1002, 2030)] [(6, .e (.one (.ptr 6 0))), (7, .e (.one (.pure (.val (.bool false)))))] [(6, .box [.own 1000, .own 1001, .own 1002]), (1000, .vec 1 ((([] : List Int)).map Ag)), (1001, .vec 1 ((([] : List Int)).map Ag)), (1002, .vec 1 ((([] : List Int)).map A6))] rfl rfl)))) (AA ?_)
       exact ⟨⟨[_, _], ⟨.cellN _ _ _ _ _ _ _ rfl rfl Be AQ rfl rfl (FT rfl), ⟨.tmp _ _ rfl, trivial⟩⟩, rfl⟩, ⟨rfl, rfl, rfl, trivial⟩⟩
      ·have h := Ap c37 h
       refine Au (Ab (Ab (Aa Ae rfl (qa rfl (Ac ?_)))))
       refine AS (L := Bz N p0 p1 p2 v32 v35) h (fun v38 => mk [(3, .e (.one (.ptr 3 0))), (4, .e (.one (.ptr 4 0))), (6, .e (.one (.ptr 6 0))), (8, .e (.one (.ptr 8 0))), (9, .e (.one (.pure (.val (.int .i64 p2.fIndex))))), (11, .e (.one (.ptr 11 0))), (12, .e (.one (.pure (.val (.int .u8 v35))))), (13, .e (.one (.pure (.val (.int .i64 v38)))))] [(3, .box [.pure (.sl (p0.fVersions.map Ag)), .pure (.sl (p0.fNow.map Ag)), .pure (.sl (p0.fTarget.map Ag)), .pure (.sl (p0.fTables.map Ai))]), (4, .box [.pure (.sl (p1.fBase.map Ag)), .pure (.sl (p1.fNext.map Ag)), .pure (.sl (p1.fHeld.map A6))]), (6, .box [.pure (.nil0), .pure (.nil0), .pure (.nil0)]), (8, .box [.own 2031, .own 2032, .own 2033]), (11, .box [.pure (.val (.int .i64 v32.fKind)), .pure (.val (.int .i64 v32.fFrom)), .pure (.val (.int .i64 v32.fTo)), .pure (.val (.bool v32.fAware)), .pure (.sl (v32.fOK.map (Es eB))), .pure (.sl (v32.fRewrite.map (Es eB)))]), (2031, .vec 1 (((([] : List Int)) ++ p1.fBase).map Ag)), (2032, .vec 1 (((([] : List Int)) ++ p1.fNext).map Ag)), (2033, .vec 1 (((([] : List Int)) ++ p1.fHeld).map A6))]) (fun v39 => mk [(6, .e (.one (.ptr 6 0))), (8, .e (.one (.ptr 8 0))), (9, .e (.one (.pure (.val (.int .i64 p2.fIndex))))), (12, .e (.one (.pure (.val (.int .u8 v35)))))] [(6, .box [.pure (.nil0), .pure (.nil0), .pure (.nil0)]), (8, .box [.own 2034, .own 2035, .own 2036]), (2034, .vec 1 (((([] : List Int)) ++ p1.fBase).map Ag)), (2035, .vec 1 (((([] : List Int)) ++ p1.fNext).map Ag)), (2036, .vec 1 (((([] : List Int)) ++ p1.fHeld).map A6))]) (fun _ _ => rfl) (sm [(2031, 18), (2032, 22), (2033, 26)] _ _ rfl rfl) (fun j38 n38 v38 h => ?_) (fun v39 s h hs => ?_)
       ·unfold Bz at h
        refine Ab (Ab (Aa Ae rfl (qm rfl (qf Bu rfl (ql A9 rfl (qf CX rfl (ql Cb rfl ?_)))))))
        obtain ⟨v40, a40, b40, h⟩ := An h
        refine qi AF Df a40 (Aj b40) rfl (qk Cb rfl (A8 rfl (Ac ?_)))
        refine As rfl (fun c41 => ?_) (fun c41 => ?_)
        ·have h := Aq c41 h
         refine Au (Ab (AV ?_))
         refine AW h (fun v42 => mk [(3, .e (.one (.ptr 3 0))), (4, .e (.one (.ptr 4 0))), (6, .e (.one (.ptr 6 0))), (8, .e (.one (.ptr 8 0))), (9, .e (.one (.pure (.val (.int .i64 p2.fIndex))))), (11, .e (.one (.ptr 11 0))), (12, .e (.one (.pure (.val (.int .u8 v35))))), (13, .e (.one (.pure (.val (.int .i64 v38))))), (14, .e (.one (.pure (.val (.bool v42)))))] [(3, .box [.pure (.sl (p0.fVersions.map Ag)), .pure (.sl (p0.fNow.map Ag)), .pure (.sl (p0.fTarget.map Ag)), .pure (.sl (p0.fTables.map Ai))]), (4, .box [.pure (.sl (p1.fBase.map Ag)), .pure (.sl (p1.fNext.map Ag)), .pure (.sl (p1.fHeld.map A6))]), (6, .box [.pure (.nil0), .pure (.nil0), .pure (.nil0)]), (8, .box [.own 2037, .own 2038, .own 2039]), (11, .box [.pure (.val (.int .i64 v32.fKind)), .pure (.val (.int .i64 v32.fFrom)), .pure (.val (.int .i64 v32.fTo)), .pure (.val (.bool v32.fAware)), .pure (.sl (v32.fOK.map (Es eB))), .pure (.sl (v32.fRewrite.map (Es eB)))]), (2037, .vec 1 (((([] : List Int)) ++ p1.fBase).map Ag)), (2038, .vec 1 (((([] : List Int)) ++ p1.fNext).map Ag)), (2039, .vec 1 (((([] : List Int)) ++ p1.fHeld).map A6))]) (fun j42 h => ?_) (fun v42 h => ?_)
         ·refine Aa Ae rfl (qf CC rfl (ql Gs rfl (qm rfl ?_)))
          obtain ⟨v43, a43, b43, h⟩ := An h
          refine qi Du Ft a43 (Aj b43) rfl (qk Jz rfl (qm rfl ?_))
          obtain ⟨v44, a44, h⟩ := bind_some h
          refine AJ [] (Fq N v43 v38 v44 a44) T7 rfl (qm rfl ?_)
          refine AI (t := 166) rfl (fun c45 => ?_) (fun c45 => ?_)
          ·have h := Aq c45 h
           refine qm rfl (qm rfl ?_)
           obtain ⟨v46, a46, h⟩ := bind_some h
           refine AJ [] (Fq N v35 v38 v46 a46) T7 rfl (CE rfl (qp rfl (qa rfl (Ac ?_))))
           exact Aw _ h (sm [(2037, 2031), (2038, 2032), (2039, 2033)] _ _ rfl rfl)
          ·have h := Ap c45 h
           refine qn rfl (qn rfl (qn rfl (qn rfl (qp rfl (qa rfl (Ac ?_))))))
           exact Aw _ h (sm [(2037, 2031), (2038, 2032), (2039, 2033)] _ _ rfl rfl)
         ·refine AW h (fun v47 => mk [(3, .e (.one (.ptr 3 0))), (4, .e (.one (.ptr 4 0))), (6, .e (.one (.ptr 6 0))), (8, .e (.one (.ptr 8 0))), (9, .e (.one (.pure (.val (.int .i64 p2.fIndex))))), (11, .e (.one (.ptr 11 0))), (12, .e (.one (.pure (.val (.int .u8 v35))))), (13, .e (.one (.pure (.val (.int .i64 v38))))), (193, .e (.one (.pure (.val (.bool v47)))))] [(3, .box [.pure (.sl (p0.fVersions.map Ag)), .pure (.sl (p0.fNow.map Ag)), .pure (.sl (p0.fTarget.map Ag)), .pure (.sl (p0.fTables.map Ai))]), (4, .box [.pure (.sl (p1.fBase.map Ag)), .pure (.sl (p1.fNext.map Ag)), .pure (.sl (p1.fHeld.map A6))]), (6, .box [.pure (.nil0), .pure (.nil0), .pure (.nil0)]), (8, .box [.own 2040, .own 2041, .own 2042]), (11, .box [.pure (.val (.int .i64 v32.fKind)), .pure (.val (.int .i64 v32.fFrom)), .pure (.val (.int .i64 v32.fTo)), .pure (.val (.bool v32.fAware)), .pure (.sl (v32.fOK.map (Es eB))), .pure (.sl (v32.fRewrite.map (Es eB)))]), (2040, .vec 1 (((([] : List Int)) ++ p1.fBase).map Ag)), (2041, .vec 1 (((([] : List Int)) ++ p1.fNext).map Ag)), (2042, .vec 1 (((([] : List Int)) ++ p1.fHeld).map A6))]) (fun j47 h => ?_) (fun v47 h => ?_)
          ·refine Aa Ae rfl (qm rfl (qm rfl ?_))
           refine AI (t := 173) rfl (fun c48 => ?_) (fun c48 => ?_)
           ·have h := Aq c48 h
            refine qf Fr rfl (ql Cb rfl (BY rfl (qp rfl (qm rfl ?_))))
            refine AI (t := 178) rfl (fun c49 => ?_) (fun c49 => ?_)
            ·have h := Aq c49 h
             refine qf Gd rfl (ql Jo rfl (qm rfl ?_))
             obtain ⟨v50, a50, b50, h⟩ := An h
             refine qi FR Mk a50 (Aj b50) rfl (qk OS rfl (qf CA rfl (ql A9 rfl (qf CX rfl (ql Cb rfl ?_)))))
             obtain ⟨v51, a51, b51, h⟩ := An h
             refine qi AF Df a51 (Aj b51) rfl (qk Cb rfl ?_)
             obtain ⟨v52, a52, b52, h⟩ := An h
             refine qi F6 Pw a52 (Aj b52) rfl (qk Rb rfl (CE rfl (qp rfl (AY (by kernel_rfl) ?_))))
             exact Aw _ h (sm [(2040, 2037), (2041, 2038), (2042, 2039)] _ _ rfl rfl)
            ·have h := Ap c49 h
             refine qn rfl (qn rfl (qn rfl (qn rfl (qn rfl (qn rfl (qn rfl (qn rfl (qn rfl (qn rfl (qn rfl (qn rfl (qn rfl (qn rfl (qp rfl (AY (by kernel_rfl) ?_)))))))))))))))
             exact Aw _ h (sm [(2040, 2037), (2041, 2038), (2042, 2039)] _ _ rfl rfl)
           ·have h := Ap c48 h
            refine qn rfl (qn rfl (qn rfl (qp rfl (qm rfl (qn rfl (qn rfl (qn rfl (qn rfl (qn rfl (qn rfl (qn rfl (qn rfl (qn rfl (qn rfl (qn rfl (qn rfl (qn rfl (qn rfl (qp rfl (AY (by kernel_rfl) ?_))))))))))))))))))))
            exact Aw _ h (sm [(2040, 2037), (2041, 2038), (2042, 2039)] _ _ rfl rfl)
          ·refine As rfl (fun c53 => ?_) (fun c53 => ?_)
           ·have h := Aq c53 h
            refine Ab (Aa Ae rfl (AZ CF FN rfl (qs AQ rfl (qa rfl (Ac ?_)))))
            obtain rfl := sj h
            refine Al ((AE 6 0 2043 1 _ rfl rfl rfl rfl).trans ((AE 6 1 2044 1 _ rfl rfl rfl rfl).trans ((AE 6 2 2045 1 _ rfl rfl rfl rfl).trans (sm [(1000, 2043), (1001, 2044), (1002, 2045)] [(6, .e (.one (.ptr 6 0))), (7, .e (.one (.pure (.val (.bool false)))))] [(6, .box [.own 1000, .own 1001, .own 1002]), (1000, .vec 1 ((([] : List Int)).map Ag)), (1001, .vec 1 ((([] : List Int)).map Ag)), (1002, .vec 1 ((([] : List Int)).map A6))] rfl rfl)))) (AA ?_)
            exact ⟨⟨[_, _], ⟨.cellN _ _ _ _ _ _ _ rfl rfl Be AQ rfl rfl (FT rfl), ⟨.tmp _ _ rfl, trivial⟩⟩, rfl⟩, ⟨rfl, rfl, rfl, trivial⟩⟩
           ·have h := Ap c53 h
            refine Au (Aa Ae rfl (qm rfl (Bo rfl (qa rfl (Ac ?_)))))
            exact Aw _ h (sm [(2031, 2040), (2032, 2041), (2033, 2042)] _ _ rfl rfl)
        ·have h := Ap c41 h
         refine A5 ?_
         exact Aw _ h (sm [(2034, 2031), (2035, 2032), (2036, 2033)] _ _ rfl rfl)
       ·refine Al hs (Aa Ae rfl (qf CC rfl (ql Gs rfl (qm rfl (qm rfl ?_)))))
        obtain ⟨v54, a54, b54, h⟩ := An h
        refine qI Du Ft a54 (Aj b54) rfl ?_
        refine Ee rfl rfl rfl rfl (Aj b54) rfl Ft rfl (BE rfl) (DS A6 ((([] : List Int)) ++ p1.fHeld) _ v35) ?_
        refine Ac ?_
        exact Aw _ h (sm [(2001, 2034), (2002, 2035), (2003, 2036)] _ _ rfl rfl)
    ·have h := Ap c31 h
     refine Ab (Ab (Aa Ae rfl (qf By rfl (ql A9 rfl (qm rfl ?_)))))
     obtain ⟨v55, a55, b55, h⟩ := An h
     refine qi AF Df a55 (Aj b55) rfl (qk Cb rfl (A8 rfl (Ac ?_)))
     refine As rfl (fun c56 => ?_) (fun c56 => ?_)
     ·have h := Aq c56 h
      refine Ab (Aa Ae rfl (AZ CF FN rfl (qs AQ rfl (qa rfl (Ac ?_)))))
      obtain rfl := sj h
      refine Al ((AE 6 0 2046 1 _ rfl rfl rfl rfl).trans ((AE 6 1 2047 1 _ rfl rfl rfl rfl).trans ((AE 6 2 2048 1 _ rfl rfl rfl rfl).trans (sm [(1000, 2046), (1001, 2047), (1002, 2048)] [(6, .e (.one (.ptr 6 0))), (7, .e (.one (.pure (.val (.bool false)))))] [(6, .box [.own 1000, .own 1001, .own 1002]), (1000, .vec 1 ((([] : List Int)).map Ag)), (1001, .vec 1 ((([] : List Int)).map Ag)), (1002, .vec 1 ((([] : List Int)).map A6))] rfl rfl)))) (AA ?_)
      exact ⟨⟨[_, _], ⟨.cellN _ _ _ _ _ _ _ rfl rfl Be AQ rfl rfl (FT rfl), ⟨.tmp _ _ rfl, trivial⟩⟩, rfl⟩, ⟨rfl, rfl, rfl, trivial⟩⟩
     ·have h := Ap c56 h
      refine Au (Aa Ae rfl (qf By rfl (ql A9 rfl (qm rfl ?_))))
      obtain ⟨v57, a57, b57, h⟩ := An h
      refine qI AF Df a57 (Aj b57) rfl ?_
      refine Ee rfl rfl rfl rfl (Aj b57) rfl Df rfl (BE rfl) (DS Ag ((([] : List Int)) ++ p1.fNext) _ ((-1))) ?_
      refine Ac ?_
      exact Aw _ h (sm [(2001, 18), (2002, 22), (2003, 26)] _ _ rfl rfl)
 ·refine Ab (Aa Ae rfl (qL Be AQ rfl (qs AQ rfl (qa rfl (Ac ?_)))))
  obtain rfl := sj h
  refine Al (sm [(1000, 2001), (1001, 2002), (1002, 2003)] [(6, .e (.one (.ptr 6 0))), (7, .e (.one (.pure (.val (.bool true)))))] [(6, .box [.own 1000, .own 1001, .own 1002]), (1000, .vec 1 (v4.1.map Ag)), (1001, .vec 1 (v4.2.1.map Ag)), (1002, .vec 1 (v4.2.2.map A6))] rfl rfl) (AA ?_)
  exact ⟨⟨[_, _], ⟨.cellN _ _ _ _ _ _ _ rfl rfl Be AQ rfl rfl (FT rfl), ⟨.tmp _ _ rfl, trivial⟩⟩, rfl⟩, ⟨rfl, rfl, rfl, trivial⟩⟩
set_option maxRecDepth 10000 in
theorem Hn (N : Nat) (p0 : Ad) (p1 : Af) (p2 : Ah) (r : Af × Int) (h : Dn N p0 p1 p2 = some r) : AB Try.prog 41 [.e (.agg [.pure (.sl (p0.fVersions.map Ag)), .pure (.sl (p0.fNow.map Ag)), .pure (.sl (p0.fTarget.map Ag)), .pure (.sl (p0.fTables.map Ai))]), .e (.agg [.pure (.sl (p1.fBase.map Ag)), .pure (.sl (p1.fNext.map Ag)), .pure (.sl (p1.fHeld.map A6))]), .e (.agg [.pure (.val (.int .i64 p2.fKind)), .pure (.val (.int .i64 p2.fIndex)), .pure (.val (.int .i64 p2.fVersion))])] [(1, r.1.fBase.map Ag), (1, r.1.fNext.map Ag), (1, r.1.fHeld.map A6)] (.tup [.agg [.own 0, .own 1, .own 2], .one (.pure (.val (.int .i64 r.2)))]) := by
 unfold Dn at h
 refine Ao (n := 73) (rs := [.cell 6 43, .tmp 7]) Try.func41 rfl rfl rfl (BE rfl) (BE rfl) rfl fun w0 S0 => ?_
 refine Ab (Aa Ae rfl (qb rfl (qb rfl (qb rfl (qz CF rfl (qa rfl (Ac (Ab (Ab (Aa Ae rfl (qL Dl CV rfl (qL Be AQ rfl ?_))))))))))))
 obtain ⟨v1, a1, h⟩ := bind_some h
 refine AJ [] (zFS N p0 p1 v1 a1) Vw rfl (qa rfl (Ac (Ab (Aa Ae rfl (qm rfl (Cn rfl (Ac ?_)))))))
 refine As rfl (fun c2 => ?_) (fun c2 => ?_)
 ·have h := Aq c2 h
  refine Ab (Aa Ae rfl (AZ CF FN rfl (qm rfl (qs AQ rfl (qa rfl (Ac ?_))))))
  obtain rfl := sj h
  refine Al ((AE 6 0 2001 1 _ rfl rfl rfl rfl).trans ((AE 6 1 2002 1 _ rfl rfl rfl rfl).trans ((AE 6 2 2003 1 _ rfl rfl rfl rfl).trans (sm [(1000, 2001), (1001, 2002), (1002, 2003)] [(6, .e (.one (.ptr 6 0))), (7, .e (.one (.pure (.val (.int .i64 v1)))))] [(6, .box [.own 1000, .own 1001, .own 1002]), (1000, .vec 1 ((([] : List Int)).map Ag)), (1001, .vec 1 ((([] : List Int)).map Ag)), (1002, .vec 1 ((([] : List Int)).map A6))] rfl rfl)))) (AA ?_)
  exact ⟨⟨[_, _], ⟨.cellN _ _ _ _ _ _ _ rfl rfl Be AQ rfl rfl (FT rfl), ⟨.tmp _ _ rfl, trivial⟩⟩, rfl⟩, ⟨rfl, rfl, rfl, trivial⟩⟩
 ·have h := Ap c2 h
  refine Au (Ab (Ab (Aa Ae rfl (qL GS Dk rfl ?_))))
  obtain ⟨v3, a3, h⟩ := bind_some h
  refine AJ [] (J7 N p2 v3 a3) XW rfl (CE rfl (Ac ?_))
  refine As rfl (fun c4 => ?_) (fun c4 => ?_)
  ·have h := Aq c4 h
   refine Ab (Aa Ae rfl (AZ CF FN rfl (qs AQ rfl (qa rfl (Ac ?_)))))
   obtain rfl := sj h
   refine Al ((AE 6 0 2004 1 _ rfl rfl rfl rfl).trans ((AE 6 1 2005 1 _ rfl rfl rfl rfl).trans ((AE 6 2 2006 1 _ rfl rfl rfl rfl).trans (sm [(1000, 2004), (1001, 2005), (1002, 2006)] [(6, .e (.one (.ptr 6 0))), (7, .e (.one (.pure (.val (.int .i64 1)))))] [(6, .box [.own 1000, .own 1001, .own 1002]), (1000, .vec 1 ((([] : List Int)).map Ag)), (1001, .vec 1 ((([] : List Int)).map Ag)), (1002, .vec 1 ((([] : List Int)).map A6))] rfl rfl)))) (AA ?_)
   exact ⟨⟨[_, _], ⟨.cellN _ _ _ _ _ _ _ rfl rfl Be AQ rfl rfl (FT rfl), ⟨.tmp _ _ rfl, trivial⟩⟩, rfl⟩, ⟨rfl, rfl, rfl, trivial⟩⟩
  ·have h := Ap c4 h
   refine Au (Ab ?_)
   refine AW h (fun v5 => mk [(3, .e (.one (.ptr 3 0))), (4, .e (.one (.ptr 4 0))), (5, .e (.one (.ptr 5 0))), (6, .e (.one (.ptr 6 0))), (45, .e (.one (.pure (.val (.bool v5)))))] [(3, .box [.pure (.sl (p0.fVersions.map Ag)), .pure (.sl (p0.fNow.map Ag)), .pure (.sl (p0.fTarget.map Ag)), .pure (.sl (p0.fTables.map Ai))]), (4, .box [.pure (.sl (p1.fBase.map Ag)), .pure (.sl (p1.fNext.map Ag)), .pure (.sl (p1.fHeld.map A6))]), (5, .box [.pure (.val (.int .i64 p2.fKind)), .pure (.val (.int .i64 p2.fIndex)), .pure (.val (.int .i64 p2.fVersion))]), (6, .box [.pure (.nil0), .pure (.nil0), .pure (.nil0)])]) (fun j5 h => ?_) (fun v5 h => ?_)
   ·refine Aa Ae rfl (qf EO rfl (ql Cb rfl (BY rfl (qm rfl ?_))))
    refine AI (t := 25) rfl (fun c6 => ?_) (fun c6 => ?_)
    ·have h := Aq c6 h
     refine qf EA rfl (ql Cb rfl (qf CG rfl (ql GE rfl (AT DQ rfl (EE rfl (qp rfl (qm rfl ?_)))))))
     refine AI (t := 33) rfl (fun c7 => ?_) (fun c7 => ?_)
     ·have h := Aq c7 h
      refine qn rfl (qn rfl (qn rfl (qn rfl (qu rfl (qu rfl (qu rfl (qu rfl (qu rfl (qu rfl (qn rfl (qp rfl (Ac ?_))))))))))))
      exact Aw _ h (sm [] _ _ rfl rfl)
     ·have h := Ap c7 h
      refine qf EO rfl (ql Cb rfl (Cn rfl (qm rfl ?_)))
      refine AI (t := 37) rfl (fun c8 => ?_) (fun c8 => ?_)
      ·have h := Aq c8 h
       refine qf EA rfl (ql Cb rfl (qf Bu rfl (ql A9 rfl (AT AF rfl (EE rfl (qp rfl (qp rfl (Ac ?_))))))))
       exact Aw _ h (sm [] _ _ rfl rfl)
      ·have h := Ap c8 h
       refine qn rfl (qn rfl (qn rfl (qn rfl (qn rfl (qn rfl (qp rfl (qp rfl (Ac ?_))))))))
       exact Aw _ h (sm [] _ _ rfl rfl)
    ·have h := Ap c6 h
     refine qn rfl (qn rfl (qn rfl (qn rfl (qn rfl (qn rfl (qp rfl (qm rfl (qf EO rfl (ql Cb rfl (Cn rfl (qm rfl ?_)))))))))))
     refine AI (t := 37) rfl (fun c9 => ?_) (fun c9 => ?_)
     ·have h := Aq c9 h
      refine qf EA rfl (ql Cb rfl (qf Bu rfl (ql A9 rfl (AT AF rfl (EE rfl (qp rfl (qp rfl (Ac ?_))))))))
      exact Aw _ h (sm [] _ _ rfl rfl)
     ·have h := Ap c9 h
      refine qn rfl (qn rfl (qn rfl (qn rfl (qn rfl (qn rfl (qp rfl (qp rfl (Ac ?_))))))))
      exact Aw _ h (sm [] _ _ rfl rfl)
   ·refine As rfl (fun c10 => ?_) (fun c10 => ?_)
    ·have h := Aq c10 h
     refine Ab (Aa Ae rfl (AZ CF FN rfl (qs AQ rfl (qa rfl (Ac ?_)))))
     obtain rfl := sj h
     refine Al ((AE 6 0 2007 1 _ rfl rfl rfl rfl).trans ((AE 6 1 2008 1 _ rfl rfl rfl rfl).trans ((AE 6 2 2009 1 _ rfl rfl rfl rfl).trans (sm [(1000, 2007), (1001, 2008), (1002, 2009)] [(6, .e (.one (.ptr 6 0))), (7, .e (.one (.pure (.val (.int .i64 4)))))] [(6, .box [.own 1000, .own 1001, .own 1002]), (1000, .vec 1 ((([] : List Int)).map Ag)), (1001, .vec 1 ((([] : List Int)).map Ag)), (1002, .vec 1 ((([] : List Int)).map A6))] rfl rfl)))) (AA ?_)
     exact ⟨⟨[_, _], ⟨.cellN _ _ _ _ _ _ _ rfl rfl Be AQ rfl rfl (FT rfl), ⟨.tmp _ _ rfl, trivial⟩⟩, rfl⟩, ⟨rfl, rfl, rfl, trivial⟩⟩
    ·have h := Ap c10 h
     refine Au (Ab ?_)
     refine AW h (fun v11 => mk [(3, .e (.one (.ptr 3 0))), (4, .e (.one (.ptr 4 0))), (5, .e (.one (.ptr 5 0))), (6, .e (.one (.ptr 6 0))), (60, .e (.one (.pure (.val (.bool v11)))))] [(3, .box [.pure (.sl (p0.fVersions.map Ag)), .pure (.sl (p0.fNow.map Ag)), .pure (.sl (p0.fTarget.map Ag)), .pure (.sl (p0.fTables.map Ai))]), (4, .box [.pure (.sl (p1.fBase.map Ag)), .pure (.sl (p1.fNext.map Ag)), .pure (.sl (p1.fHeld.map A6))]), (5, .box [.pure (.val (.int .i64 p2.fKind)), .pure (.val (.int .i64 p2.fIndex)), .pure (.val (.int .i64 p2.fVersion))]), (6, .box [.pure (.nil0), .pure (.nil0), .pure (.nil0)])]) (fun j11 h => ?_) (fun v11 h => ?_)
     ·refine Aa Ae rfl (qf EO rfl (ql Cb rfl (BY rfl (qm rfl ?_))))
      refine AI (t := 50) rfl (fun c12 => ?_) (fun c12 => ?_)
      ·have h := Aq c12 h
       refine qf Gb rfl (ql Cb rfl (qf Bu rfl (ql A9 rfl (qf EA rfl (ql Cb rfl ?_)))))
       obtain ⟨v13, a13, b13, h⟩ := An h
       refine qi AF Df a13 (Aj b13) rfl (qk Cb rfl (EE rfl (qp rfl (AY (by kernel_rfl) ?_))))
       exact Aw _ h (sm [] _ _ rfl rfl)
      ·have h := Ap c12 h
       refine qn rfl (qn rfl (qn rfl (qn rfl (qn rfl (qn rfl (qn rfl (qn rfl (qn rfl (qp rfl (AY (by kernel_rfl) ?_))))))))))
       exact Aw _ h (sm [] _ _ rfl rfl)
     ·refine As rfl (fun c14 => ?_) (fun c14 => ?_)
      ·have h := Aq c14 h
       refine Ab (Aa Ae rfl (AZ CF FN rfl (qs AQ rfl (qa rfl (Ac ?_)))))
       obtain rfl := sj h
       refine Al ((AE 6 0 2010 1 _ rfl rfl rfl rfl).trans ((AE 6 1 2011 1 _ rfl rfl rfl rfl).trans ((AE 6 2 2012 1 _ rfl rfl rfl rfl).trans (sm [(1000, 2010), (1001, 2011), (1002, 2012)] [(6, .e (.one (.ptr 6 0))), (7, .e (.one (.pure (.val (.int .i64 4)))))] [(6, .box [.own 1000, .own 1001, .own 1002]), (1000, .vec 1 ((([] : List Int)).map Ag)), (1001, .vec 1 ((([] : List Int)).map Ag)), (1002, .vec 1 ((([] : List Int)).map A6))] rfl rfl)))) (AA ?_)
       exact ⟨⟨[_, _], ⟨.cellN _ _ _ _ _ _ _ rfl rfl Be AQ rfl rfl (FT rfl), ⟨.tmp _ _ rfl, trivial⟩⟩, rfl⟩, ⟨rfl, rfl, rfl, trivial⟩⟩
      ·have h := Ap c14 h
       refine Au (Ab (Aa Ae rfl (qL Dl CV rfl (qL Be AQ rfl (qL GS Dk rfl ?_)))))
       obtain ⟨v15, a15, h⟩ := bind_some h
       refine AJ [2013, 2014, 2015] (Hr N p0 p1 p2 v15 a15) Xp rfl (qm rfl (qx rfl (qx rfl (qz CF rfl (qs AQ rfl (qa rfl (Ac (Ab (Ab (Aa Ae rfl (qm rfl (CE rfl (Ac ?_)))))))))))))
       refine As rfl (fun c16 => ?_) (fun c16 => ?_)
       ·have h := Aq c16 h
        refine Ab (Aa Ae rfl (AZ CF FN rfl (qs AQ rfl (qa rfl (Ac ?_)))))
        obtain rfl := sj h
        refine Al ((AE 6 0 2016 1 _ rfl rfl rfl rfl).trans ((AE 6 1 2017 1 _ rfl rfl rfl rfl).trans ((AE 6 2 2018 1 _ rfl rfl rfl rfl).trans (sm [(1000, 2016), (1001, 2017), (1002, 2018)] [(6, .e (.one (.ptr 6 0))), (7, .e (.one (.pure (.val (.int .i64 11)))))] [(6, .box [.own 1000, .own 1001, .own 1002]), (1000, .vec 1 ((([] : List Int)).map Ag)), (1001, .vec 1 ((([] : List Int)).map Ag)), (1002, .vec 1 ((([] : List Int)).map A6))] rfl rfl)))) (AA ?_)
        exact ⟨⟨[_, _], ⟨.cellN _ _ _ _ _ _ _ rfl rfl Be AQ rfl rfl (FT rfl), ⟨.tmp _ _ rfl, trivial⟩⟩, rfl⟩, ⟨rfl, rfl, rfl, trivial⟩⟩
       ·have h := Ap c16 h
        refine Au (Ab (Aa Ae rfl (qL Be AQ rfl (qs AQ rfl (qa rfl (Ac ?_))))))
        obtain rfl := sj h
        refine Al (sm [(1000, 2013), (1001, 2014), (1002, 2015)] [(6, .e (.one (.ptr 6 0))), (7, .e (.one (.pure (.val (.int .i64 0)))))] [(6, .box [.own 1000, .own 1001, .own 1002]), (1000, .vec 1 (v15.1.fBase.map Ag)), (1001, .vec 1 (v15.1.fNext.map Ag)), (1002, .vec 1 (v15.1.fHeld.map A6))] rfl rfl) (AA ?_)
        exact ⟨⟨[_, _], ⟨.cellN _ _ _ _ _ _ _ rfl rfl Be AQ rfl rfl (FT rfl), ⟨.tmp _ _ rfl, trivial⟩⟩, rfl⟩, ⟨rfl, rfl, rfl, trivial⟩⟩
set_option maxRecDepth 10000 in
theorem J9 (N : Nat) (p0 : Ad) (p1 : Af) (r : (List Ah)) (h : D7 N p0 p1 = some r) : AB Try.prog 52 [.e (.agg [.pure (.sl (p0.fVersions.map Ag)), .pure (.sl (p0.fNow.map Ag)), .pure (.sl (p0.fTarget.map Ag)), .pure (.sl (p0.fTables.map Ai))]), .e (.agg [.pure (.sl (p1.fBase.map Ag)), .pure (.sl (p1.fNext.map Ag)), .pure (.sl (p1.fHeld.map A6))])] [(3, r.map Ay)] (.e (.one (.own 0))) := by
 unfold D7 at h
 refine Ao (n := 49) (rs := [.tmp 4]) Try.func52 rfl rfl rfl (BE rfl) (BE rfl) rfl fun w0 S0 => ?_
 refine Ab (Aa Ae rfl (qb rfl (qb rfl (qa rfl (Ac (Ab (Aa Ae rfl (qa rfl (Ac (Ab (Ab (Aa Ae rfl (qa rfl (Ac ?_))))))))))))))
 refine AS (L := Bt N p0 p1) h (fun v1 => mk [(2, .e (.one (.ptr 2 0))), (3, .e (.one (.ptr 3 0))), (5, .e (.one (.own 2001))), (6, .e (.one (.pure (.val (.int .i64 v1.2)))))] [(2, .box [.pure (.sl (p0.fVersions.map Ag)), .pure (.sl (p0.fNow.map Ag)), .pure (.sl (p0.fTarget.map Ag)), .pure (.sl (p0.fTables.map Ai))]), (3, .box [.pure (.sl (p1.fBase.map Ag)), .pure (.sl (p1.fNext.map Ag)), .pure (.sl (p1.fHeld.map A6))]), (2001, .vec 3 (v1.1.map Ay))]) (fun v2 => mk [(5, .e (.one (.own 2002)))] [(2002, .vec 3 (v2.map Ay))]) (fun _ _ => rfl) ((B8 5 2011 3 rfl rfl rfl).trans (sm [(2001, 2011)] _ _ rfl rfl)) (fun j1 n1 v1 h => ?_) (fun v2 s h hs => ?_)
 ·unfold Bt at h
  refine Ab (Ab (Aa Ae rfl (qm rfl (Th rfl (Ac ?_)))))
  refine As rfl (fun c3 => ?_) (fun c3 => ?_)
  ·have h := Aq c3 h
   refine Au (Ab (AV (Ab (Aa Ae rfl (qa rfl (Ac ?_))))))
   refine AS (L := B1 N p0 p1 v1) h (fun v4 => mk [(2, .e (.one (.ptr 2 0))), (3, .e (.one (.ptr 3 0))), (5, .e (.one (.own 2003))), (6, .e (.one (.pure (.val (.int .i64 v1.2))))), (7, .e (.one (.pure (.val (.int .i64 v4.2)))))] [(2, .box [.pure (.sl (p0.fVersions.map Ag)), .pure (.sl (p0.fNow.map Ag)), .pure (.sl (p0.fTarget.map Ag)), .pure (.sl (p0.fTables.map Ai))]), (3, .box [.pure (.sl (p1.fBase.map Ag)), .pure (.sl (p1.fNext.map Ag)), .pure (.sl (p1.fHeld.map A6))]), (2003, .vec 3 (v4.1.map Ay))]) (fun v5 => mk [(2, .e (.one (.ptr 2 0))), (3, .e (.one (.ptr 3 0))), (5, .e (.one (.own 2004))), (6, .e (.one (.pure (.val (.int .i64 v1.2)))))] [(2, .box [.pure (.sl (p0.fVersions.map Ag)), .pure (.sl (p0.fNow.map Ag)), .pure (.sl (p0.fTarget.map Ag)), .pure (.sl (p0.fTables.map Ai))]), (3, .box [.pure (.sl (p1.fBase.map Ag)), .pure (.sl (p1.fNext.map Ag)), .pure (.sl (p1.fHeld.map A6))]), (2004, .vec 3 (v5.map Ay))]) (fun _ _ => rfl) (sm [(2003, 2001)] _ _ rfl rfl) (fun j4 n4 v4 h => ?_) (fun v5 s h hs => ?_)
   ·unfold B1 at h
    refine Ab (Ab (Aa Ae rfl (qm rfl (qf Bu rfl (ql A9 rfl (AT AF rfl (qf CG rfl (ql GE rfl (AT DQ rfl ?_)))))))))
    refine Xj (.p rfl) rfl rfl ?_
    refine A8 rfl (Ac ?_)
    refine As rfl (fun c6 => ?_) (fun c6 => ?_)
    ·have h := Aq c6 h
     refine Au (Ab (AV (Ab (Aa Ae rfl (qa rfl (Ac ?_))))))
     refine AS (L := B3 N p0 p1 v1 v4) h (fun v7 => mk [(2, .e (.one (.ptr 2 0))), (3, .e (.one (.ptr 3 0))), (5, .e (.one (.own 2005))), (6, .e (.one (.pure (.val (.int .i64 v1.2))))), (7, .e (.one (.pure (.val (.int .i64 v4.2))))), (8, .e (.one (.pure (.val (.int .i64 v7.2)))))] [(2, .box [.pure (.sl (p0.fVersions.map Ag)), .pure (.sl (p0.fNow.map Ag)), .pure (.sl (p0.fTarget.map Ag)), .pure (.sl (p0.fTables.map Ai))]), (3, .box [.pure (.sl (p1.fBase.map Ag)), .pure (.sl (p1.fNext.map Ag)), .pure (.sl (p1.fHeld.map A6))]), (2005, .vec 3 (v7.1.map Ay))]) (fun v8 => mk [(2, .e (.one (.ptr 2 0))), (3, .e (.one (.ptr 3 0))), (5, .e (.one (.own 2006))), (6, .e (.one (.pure (.val (.int .i64 v1.2))))), (7, .e (.one (.pure (.val (.int .i64 v4.2)))))] [(2, .box [.pure (.sl (p0.fVersions.map Ag)), .pure (.sl (p0.fNow.map Ag)), .pure (.sl (p0.fTarget.map Ag)), .pure (.sl (p0.fTables.map Ai))]), (3, .box [.pure (.sl (p1.fBase.map Ag)), .pure (.sl (p1.fNext.map Ag)), .pure (.sl (p1.fHeld.map A6))]), (2006, .vec 3 (v8.map Ay))]) (fun _ _ => rfl) (sm [(2005, 2003)] _ _ rfl rfl) (fun j7 n7 v7 h => ?_) (fun v8 s h hs => ?_)
     ·unfold B3 at h
      refine Ab (Ab (Aa Ae rfl (qm rfl (A8 rfl (Ac ?_)))))
      refine As rfl (fun c9 => ?_) (fun c9 => ?_)
      ·have h := Aq c9 h
       refine Au ?_
       refine AW h (fun v10 => mk [(2, .e (.one (.ptr 2 0))), (3, .e (.one (.ptr 3 0))), (5, .e (.one (.own 2007))), (6, .e (.one (.pure (.val (.int .i64 v1.2))))), (7, .e (.one (.pure (.val (.int .i64 v4.2))))), (8, .e (.one (.pure (.val (.int .i64 v7.2)))))] [(2, .box [.pure (.sl (p0.fVersions.map Ag)), .pure (.sl (p0.fNow.map Ag)), .pure (.sl (p0.fTarget.map Ag)), .pure (.sl (p0.fTables.map Ai))]), (3, .box [.pure (.sl (p1.fBase.map Ag)), .pure (.sl (p1.fNext.map Ag)), .pure (.sl (p1.fHeld.map A6))]), (2007, .vec 3 (v10.map Ay))]) (fun j10 h => ?_) (fun v10 h => ?_)
       ·refine AV (Ab (Aa Ae rfl (qm rfl (qm rfl (qm rfl (AZ He Ox rfl (qz He rfl (qs Dk rfl (Ac (Ab (Aa Ae rfl (qL Dl CV rfl (qL Be AQ rfl (qL GS Dk rfl ?_))))))))))))))
        obtain ⟨v11, a11, h⟩ := bind_some h
        refine AJ [2008, 2009, 2010] (Hn N p0 p1 ((Ah.mk v1.2 v4.2 v7.2)) v11 a11) Wh rfl (qm rfl (qx rfl (qx rfl (qz CF rfl (qs AQ rfl (qa rfl (Ac (Ab (Aa Ae rfl (qm rfl (BY rfl (Ac ?_))))))))))))
        refine As rfl (fun c12 => ?_) (fun c12 => ?_)
        ·have h := Aq c12 h
         refine Aa Ae rfl (qm rfl (qL GS Dk rfl (Ex CI Dk He rfl ?_)))
         obtain ⟨c13, h⟩ := AO h
         refine DM (f := Ay) CI CI Dk Pu He c13 rfl (qa rfl (Ac ?_))
         exact Aw _ h (sm [(2007, 47)] _ _ rfl rfl)
        ·have h := Ap c12 h
         refine Au ?_
         exact Aw _ h (sm [(2007, 2005)] _ _ rfl rfl)
       ·refine Aa Ae rfl (qm rfl (Bo rfl (qa rfl (Ac ?_))))
        exact Aw _ h (sm [(2005, 2007)] _ _ rfl rfl)
      ·have h := Ap c9 h
       refine A5 ?_
       exact Aw _ h (sm [(2006, 2005)] _ _ rfl rfl)
     ·refine Al hs (Aa Ae rfl (qm rfl (Bo rfl (qa rfl (Ac ?_)))))
      exact Aw _ h (sm [(2003, 2006)] _ _ rfl rfl)
    ·have h := Ap c6 h
     refine A5 ?_
     exact Aw _ h (sm [(2004, 2003)] _ _ rfl rfl)
   ·refine Al hs (Aa Ae rfl (qm rfl (Bo rfl (qa rfl (Ac ?_)))))
    exact Aw _ h (sm [(2001, 2004)] _ _ rfl rfl)
  ·have h := Ap c3 h
   refine A5 ?_
   exact Aw _ h (sm [(2002, 2001)] _ _ rfl rfl)
 ·refine Al hs (Ab (Aa Ae rfl (qm rfl (qa rfl (Ac ?_)))))
  obtain rfl := sj h
  refine Al (sm [(1000, 2002)] [(4, .e (.one (.own 1000)))] [(1000, .vec 3 (v2.map Ay))] rfl rfl) (AA ?_)
  exact ⟨⟨[_], ⟨.tmp _ _ rfl, trivial⟩, rfl⟩, ⟨rfl, trivial⟩⟩
set_option maxRecDepth 10000 in
theorem Gf (N : Nat) (p0 : List Int) (p1 : List Int) (r : Int) (h : C5 N p0 p1 = some r) : AB Try.prog 83 [.e (.one (.pure (.sl (p0.map Ag)))), .e (.one (.pure (.sl (p1.map Ag))))] [] (.e (.one (.pure (.val (.int .i64 r))))) := by
 unfold C5 at h
 refine Ao (n := 46) (rs := [.tmp 4]) Try.func83 rfl rfl rfl (BE rfl) (BE rfl) rfl fun w0 S0 => ?_
 refine Ab (Aa Ae rfl (qa rfl (Ac (Ab (Ab (Aa Ae rfl (qa rfl (Ac ?_))))))))
 refine AS (L := CZ N p0 p1) h (fun v1 => mk [(0, .e (.one (.pure (.sl (p0.map Ag))))), (1, .e (.one (.pure (.sl (p1.map Ag))))), (5, .e (.one (.pure (.val (.int .i64 v1)))))] []) (fun v2 => mk [(0, .e (.one (.pure (.sl (p0.map Ag))))), (1, .e (.one (.pure (.sl (p1.map Ag)))))] []) (fun _ _ => rfl) (sm [] _ _ rfl rfl) (fun j1 n1 v1 h => ?_) (fun v2 s h hs => ?_)
 ·unfold CZ at h
  refine Ab ?_
  refine AW h (fun v3 => mk [(0, .e (.one (.pure (.sl (p0.map Ag))))), (1, .e (.one (.pure (.sl (p1.map Ag))))), (5, .e (.one (.pure (.val (.int .i64 v1))))), (15, .e (.one (.pure (.val (.bool v3)))))] []) (fun j3 h => ?_) (fun v3 h => ?_)
  ·refine Aa Ae rfl (qm rfl (qm rfl (AT AF rfl (A8 rfl (qm rfl ?_)))))
   refine AI (t := 10) rfl (fun c4 => ?_) (fun c4 => ?_)
   ·have h := Aq c4 h
    refine qm rfl (qm rfl (AT AF rfl (A8 rfl (qp rfl (Ac ?_)))))
    exact Aw _ h (sm [] _ _ rfl rfl)
   ·have h := Ap c4 h
    refine qn rfl (qn rfl (qn rfl (qn rfl (qp rfl (Ac ?_)))))
    exact Aw _ h (sm [] _ _ rfl rfl)
  ·refine As rfl (fun c5 => ?_) (fun c5 => ?_)
   ·have h := Aq c5 h
    refine Au (Ab (AV (Ab (Ab (Aa Ae rfl (qm rfl (qm rfl ?_)))))))
    obtain ⟨v6, a6, b6, h⟩ := An h
    refine qi AF Df a6 (Aj b6) rfl (qk Cb rfl (qm rfl (qm rfl ?_)))
    obtain ⟨v7, a7, b7, h⟩ := An h
    refine qi AF Df a7 (Aj b7) rfl (qk Cb rfl (A8 rfl (AY (by kernel_rfl) ?_)))
    refine As rfl (fun c8 => ?_) (fun c8 => ?_)
    ·have h := Aq c8 h
     refine Ab (Aa Ae rfl (qa rfl (Ac ?_)))
     obtain rfl := sj h
     refine Al (sm [] [(4, .e (.one (.pure (.val (.int .i64 ((-1)))))))] [] rfl rfl) (AA ?_)
     exact ⟨⟨[_], ⟨.tmp _ _ rfl, trivial⟩, rfl⟩, trivial⟩
    ·have h := Ap c8 h
     refine Au (Ab (Aa Ae rfl (qm rfl (qm rfl ?_))))
     obtain ⟨v9, a9, b9, h⟩ := An h
     refine qi AF Df a9 (Aj b9) rfl (qk Cb rfl (qm rfl (qm rfl ?_)))
     obtain ⟨v10, a10, b10, h⟩ := An h
     refine qi AF Df a10 (Aj b10) rfl (qk Cb rfl (FP rfl (AY (by kernel_rfl) ?_)))
     refine As rfl (fun c11 => ?_) (fun c11 => ?_)
     ·have h := Aq c11 h
      refine Ab (Aa Ae rfl (qa rfl (Ac ?_)))
      obtain rfl := sj h
      refine Al (sm [] [(4, .e (.one (.pure (.val (.int .i64 1)))))] [] rfl rfl) (AA ?_)
      exact ⟨⟨[_], ⟨.tmp _ _ rfl, trivial⟩, rfl⟩, trivial⟩
     ·have h := Ap c11 h
      refine Au (Aa Ae rfl (qm rfl (Bo rfl (qa rfl (Ac ?_)))))
      exact Aw _ h (sm [] _ _ rfl rfl)
   ·have h := Ap c5 h
    refine A5 ?_
    exact Aw _ h (sm [] _ _ rfl rfl)
 ·refine Al hs (Ab (Ab (Aa Ae rfl (qm rfl (AT AF rfl (qm rfl (AT AF rfl (A8 rfl (Ac ?_)))))))))
  refine As rfl (fun c12 => ?_) (fun c12 => ?_)
  ·have h := Aq c12 h
   refine Ab (Aa Ae rfl (qa rfl (Ac ?_)))
   obtain rfl := sj h
   refine Al (sm [] [(4, .e (.one (.pure (.val (.int .i64 ((-1)))))))] [] rfl rfl) (AA ?_)
   exact ⟨⟨[_], ⟨.tmp _ _ rfl, trivial⟩, rfl⟩, trivial⟩
  ·have h := Ap c12 h
   refine Au (Ab (Ab (Aa Ae rfl (qm rfl (AT AF rfl (qm rfl (AT AF rfl (FP rfl (Ac ?_)))))))))
   refine As rfl (fun c13 => ?_) (fun c13 => ?_)
   ·have h := Aq c13 h
    refine Ab (Aa Ae rfl (qa rfl (Ac ?_)))
    obtain rfl := sj h
    refine Al (sm [] [(4, .e (.one (.pure (.val (.int .i64 1)))))] [] rfl rfl) (AA ?_)
    exact ⟨⟨[_], ⟨.tmp _ _ rfl, trivial⟩, rfl⟩, trivial⟩
   ·have h := Ap c13 h
    refine Au (Ab (Aa Ae rfl (qa rfl (Ac ?_))))
    obtain rfl := sj h
    refine Al (sm [] [(4, .e (.one (.pure (.val (.int .i64 0)))))] [] rfl rfl) (AA ?_)
    exact ⟨⟨[_], ⟨.tmp _ _ rfl, trivial⟩, rfl⟩, trivial⟩
set_option maxRecDepth 10000 in
theorem GM (N : Nat) (p0 : List Int) (r : (List Int)) (h : CY N p0 = some r) : AB Try.prog 84 [.e (.one (.pure (.sl (p0.map A6))))] [(1, r.map Ag)] (.e (.one (.own 0))) := by
 unfold CY at h
 refine Ao (n := 20) (rs := [.tmp 2]) Try.func84 rfl rfl rfl (BE rfl) (BE rfl) rfl fun w0 S0 => ?_
 refine Ab (Aa Ae rfl (qa rfl (Ac (Ab (Aa Ae rfl (qa rfl (Ac (Ab (Ab (Aa Ae rfl (qa rfl (Ac ?_))))))))))))
 refine AS (L := Cy N p0) h (fun v1 => mk [(0, .e (.one (.pure (.sl (p0.map A6))))), (3, .e (.one (.own 2001))), (4, .e (.one (.pure (.val (.int .i64 v1.2)))))] [(2001, .vec 1 (v1.1.map Ag))]) (fun v2 => mk [(3, .e (.one (.own 2002)))] [(2002, .vec 1 (v2.map Ag))]) (fun _ _ => rfl) ((B8 3 2003 1 rfl rfl rfl).trans (sm [(2001, 2003)] _ _ rfl rfl)) (fun j1 n1 v1 h => ?_) (fun v2 s h hs => ?_)
 ·unfold Cy at h
  refine Ab (Ab (Aa Ae rfl (qm rfl (qm rfl (AT Du rfl (A8 rfl (Ac ?_)))))))
  refine As rfl (fun c3 => ?_) (fun c3 => ?_)
  ·have h := Aq c3 h
   refine Au (Ab (AV (Aa Ae rfl (qm rfl (qm rfl (qm rfl ?_))))))
   obtain ⟨v4, a4, b4, h⟩ := An h
   refine qi Du Ft a4 (Aj b4) rfl (qk Jz rfl (IC Yn Vb rfl (Ex AF Df Ko rfl ?_)))
   obtain ⟨c5, h⟩ := AO h
   refine DM (f := Ag) AF AF Df K6 Ko c5 rfl (qa rfl (Ac (Aa Ae rfl (qm rfl (Bo rfl (qa rfl (Ac ?_)))))))
   exact Aw _ h (sm [(2001, 18)] _ _ rfl rfl)
  ·have h := Ap c3 h
   refine A5 ?_
   exact Aw _ h (sm [(2002, 2001)] _ _ rfl rfl)
 ·refine Al hs (Ab (Aa Ae rfl (qm rfl (qa rfl (Ac ?_)))))
  obtain rfl := sj h
  refine Al (sm [(1000, 2002)] [(2, .e (.one (.own 1000)))] [(1000, .vec 1 (v2.map Ag))] rfl rfl) (AA ?_)
  exact ⟨⟨[_], ⟨.tmp _ _ rfl, trivial⟩, rfl⟩, ⟨rfl, trivial⟩⟩
set_option maxRecDepth 10000 in
theorem Jj (N : Nat) (p0 : Af) (p1 : Af) (r : Int) (h : DE N p0 p1 = some r) : AB Try.prog 44 [.e (.agg [.pure (.sl (p0.fBase.map Ag)), .pure (.sl (p0.fNext.map Ag)), .pure (.sl (p0.fHeld.map A6))]), .e (.agg [.pure (.sl (p1.fBase.map Ag)), .pure (.sl (p1.fNext.map Ag)), .pure (.sl (p1.fHeld.map A6))])] [] (.e (.one (.pure (.val (.int .i64 r))))) := by
 unfold DE at h
 refine Ao (n := 30) (rs := [.tmp 4]) Try.func44 rfl rfl rfl (BE rfl) (BE rfl) rfl fun w0 S0 => ?_
 refine Ab (Aa Ae rfl (qb rfl (qb rfl (qa rfl (Ac (Ab (Ab (Aa Ae rfl (qf CA rfl (ql A9 rfl (qf CA rfl (ql A9 rfl ?_))))))))))))
 obtain ⟨v1, a1, h⟩ := bind_some h
 refine AJ [] (Gf N p0.fBase p1.fBase v1 a1) VK rfl (qa rfl (Ac (Ab (Aa Ae rfl (qm rfl (Cn rfl (Ac ?_)))))))
 refine As rfl (fun c2 => ?_) (fun c2 => ?_)
 ·have h := Aq c2 h
  refine Ab (Aa Ae rfl (qm rfl (qa rfl (Ac ?_))))
  obtain rfl := sj h
  refine Al (sm [] [(4, .e (.one (.pure (.val (.int .i64 v1)))))] [] rfl rfl) (AA ?_)
  exact ⟨⟨[_], ⟨.tmp _ _ rfl, trivial⟩, rfl⟩, trivial⟩
 ·have h := Ap c2 h
  refine Au (Ab (Ab (Aa Ae rfl (qf By rfl (ql A9 rfl (qf By rfl (ql A9 rfl ?_)))))))
  obtain ⟨v3, a3, h⟩ := bind_some h
  refine AJ [] (Gf N p0.fNext p1.fNext v3 a3) VK rfl (qa rfl (Ac (Ab (Aa Ae rfl (qm rfl (Cn rfl (Ac ?_)))))))
  refine As rfl (fun c4 => ?_) (fun c4 => ?_)
  ·have h := Aq c4 h
   refine Ab (Aa Ae rfl (qm rfl (qa rfl (Ac ?_))))
   obtain rfl := sj h
   refine Al (sm [] [(4, .e (.one (.pure (.val (.int .i64 v3)))))] [] rfl rfl) (AA ?_)
   exact ⟨⟨[_], ⟨.tmp _ _ rfl, trivial⟩, rfl⟩, trivial⟩
  ·have h := Ap c4 h
   refine Au (Ab (Aa Ae rfl (qf CC rfl (ql Gs rfl ?_))))
   obtain ⟨v5, a5, h⟩ := bind_some h
   refine AJ [2001] (GM N p0.fHeld v5 a5) Ww rfl (qf CC rfl (ql Gs rfl ?_))
   obtain ⟨v6, a6, h⟩ := bind_some h
   refine AJ [2002] (GM N p1.fHeld v6 a6) Ww rfl ?_
   obtain ⟨v7, a7, h⟩ := bind_some h
   refine EB [] [2001, 2002] (Gf N v5 v6 v7 a7) VK Db rfl (qa rfl (AY (by kernel_rfl) ?_))
   obtain rfl := sj h
   refine Al (sm [] [(4, .e (.one (.pure (.val (.int .i64 v7)))))] [] rfl rfl) (AA ?_)
   exact ⟨⟨[_], ⟨.tmp _ _ rfl, trivial⟩, rfl⟩, trivial⟩
set_option maxRecDepth 10000 in
theorem Kd (N : Nat) (p0 : Af) (p1 : Af) (r : Bool) (h : D3 N p0 p1 = some r) : AB Try.prog 21 [.e (.agg [.pure (.sl (p0.fBase.map Ag)), .pure (.sl (p0.fNext.map Ag)), .pure (.sl (p0.fHeld.map A6))]), .e (.agg [.pure (.sl (p1.fBase.map Ag)), .pure (.sl (p1.fNext.map Ag)), .pure (.sl (p1.fHeld.map A6))])] [] (.e (.one (.pure (.val (.bool r))))) := by
 unfold D3 at h
 refine Ao (n := 9) (rs := [.tmp 4]) Try.func21 rfl rfl rfl (BE rfl) (BE rfl) rfl fun w0 S0 => ?_
 refine Ab (Aa Ae rfl (qb rfl (qb rfl (qa rfl (Ac (Ab (Aa Ae rfl (qL Be AQ rfl (qL Be AQ rfl ?_)))))))))
 obtain ⟨v1, a1, h⟩ := bind_some h
 refine AJ [] (Jj N p0 p1 v1 a1) Ym rfl (BY rfl (qa rfl (Ac ?_)))
 obtain rfl := sj h
 refine Al (sm [] [(4, .e (.one (.pure (.val (.bool ((v1 == 0)))))))] [] rfl rfl) (AA ?_)
 exact ⟨⟨[_], ⟨.tmp _ _ rfl, trivial⟩, rfl⟩, trivial⟩
set_option maxRecDepth 10000 in
theorem KM (N : Nat) (p0 : List AC) (p1 : Af) (r : Int) (h : DG N p0 p1 = some r) : AB Try.prog 53 [.e (.one (.pure (.sl (p0.map B9)))), .e (.agg [.pure (.sl (p1.fBase.map Ag)), .pure (.sl (p1.fNext.map Ag)), .pure (.sl (p1.fHeld.map A6))])] [] (.e (.one (.pure (.val (.int .i64 r))))) := by
 unfold DG at h
 refine Ao (n := 20) (rs := [.tmp 4]) Try.func53 rfl rfl rfl (BE rfl) (BE rfl) rfl fun w0 S0 => ?_
 refine Ab (Aa Ae rfl (qb rfl (qa rfl (Ac (Ab (Ab (Aa Ae rfl (qa rfl (Ac ?_)))))))))
 refine AS (L := Ch N p0 p1) h (fun v1 => mk [(0, .e (.one (.pure (.sl (p0.map B9))))), (3, .e (.one (.ptr 3 0))), (5, .e (.one (.pure (.val (.int .i64 v1)))))] [(3, .box [.pure (.sl (p1.fBase.map Ag)), .pure (.sl (p1.fNext.map Ag)), .pure (.sl (p1.fHeld.map A6))])]) (fun v2 => mk [] []) (fun _ _ => rfl) (sm [] _ _ rfl rfl) (fun j1 n1 v1 h => ?_) (fun v2 s h hs => ?_)
 ·unfold Ch at h
  refine Ab (Ab (Aa Ae rfl (qm rfl (qm rfl (AT Kp rfl (A8 rfl (Ac ?_)))))))
  refine As rfl (fun c3 => ?_) (fun c3 => ?_)
  ·have h := Aq c3 h
   refine Au (Ab (AV (Ab (Aa Ae rfl (qm rfl (qm rfl ?_))))))
   obtain ⟨v4, a4, b4, h⟩ := An h
   refine qi Kp R6 a4 (Aj b4) rfl (qg OO rfl (qK Be AQ rfl (qL Be AQ rfl ?_)))
   obtain ⟨v5, a5, h⟩ := bind_some h
   refine AJ [] (Kd N ((Af.mk v4.fMix.fBase v4.fMix.fNext v4.fMix.fHeld)) p1 v5 a5) XM rfl (AY (by kernel_rfl) ?_)
   refine As rfl (fun c6 => ?_) (fun c6 => ?_)
   ·have h := Aq c6 h
    refine Ab (Aa Ae rfl (qm rfl (qa rfl (Ac ?_))))
    obtain rfl := sj h
    refine Al (sm [] [(4, .e (.one (.pure (.val (.int .i64 v1)))))] [] rfl rfl) (AA ?_)
    exact ⟨⟨[_], ⟨.tmp _ _ rfl, trivial⟩, rfl⟩, trivial⟩
   ·have h := Ap c6 h
    refine Au (Aa Ae rfl (qm rfl (Bo rfl (qa rfl (Ac ?_)))))
    exact Aw _ h (sm [] _ _ rfl rfl)
  ·have h := Ap c3 h
   refine A5 ?_
   exact Aw _ h (sm [] _ _ rfl rfl)
 ·refine Al hs (Ab (Aa Ae rfl (qa rfl (Ac ?_))))
  obtain rfl := sj h
  refine Al (sm [] [(4, .e (.one (.pure (.val (.int .i64 ((-1)))))))] [] rfl rfl) (AA ?_)
  exact ⟨⟨[_], ⟨.tmp _ _ rfl, trivial⟩, rfl⟩, trivial⟩
end Go.Lift

/- That the code does what the shallow programs do, function by function. Written by a program (gen.py). -/
namespace Go.Lift
open Go.RowKit
open Go.Proofs
set_option maxRecDepth 10000 in
theorem Ka (N : Nat) (p0 : Ad) (p1 : Af) (p2 : Int) (r : (List AC) × Bool) (h : Cv N p0 p1 p2 = some r) : AB Try.prog 26 [.e (.agg [.pure (.sl (p0.fVersions.map Ag)), .pure (.sl (p0.fNow.map Ag)), .pure (.sl (p0.fTarget.map Ag)), .pure (.sl (p0.fTables.map Ai))]), .e (.agg [.pure (.sl (p1.fBase.map Ag)), .pure (.sl (p1.fNext.map Ag)), .pure (.sl (p1.fHeld.map A6))]), .e (.one (.pure (.val (.int .i64 p2))))] [(7, r.1.map B9)] (.tup [.one (.own 0), .one (.pure (.val (.bool r.2)))]) := by
 unfold Cv at h
 refine Ao (n := 74) (rs := [.tmp 6, .tmp 7]) Try.func26 rfl rfl rfl (BE rfl) (BE rfl) rfl fun w0 S0 => ?_
 refine Ab (Aa Ae rfl (qb rfl (qb rfl (qa rfl (qa rfl (Ac (Ab (Aa Ae rfl (qL Be AQ rfl (AZ SJ Xd rfl (Ex Kp R6 SJ rfl (qa rfl (Ac (Ab (Ab (Aa Ae rfl (qa rfl (Ac ?_))))))))))))))))))
 refine AS (L := BH N p0 p2) h (fun v1 => mk [(2, .e (.one (.pure (.val (.int .i64 p2))))), (3, .e (.one (.ptr 3 0))), (8, .e (.one (.own 2001))), (9, .e (.one (.pure (.val (.int .i64 v1.2)))))] [(3, .box [.pure (.sl (p0.fVersions.map Ag)), .pure (.sl (p0.fNow.map Ag)), .pure (.sl (p0.fTarget.map Ag)), .pure (.sl (p0.fTables.map Ai))]), (2001, .vec 7 (v1.1.map B9))]) (fun v2 => mk [(8, .e (.one (.own 2002)))] [(2002, .vec 7 (v2.map B9))]) (fun _ _ => rfl) (sm [(2001, 16)] _ _ rfl rfl) (fun j1 n1 v1 h => ?_) (fun v2 s h hs => ?_)
 ·unfold BH at h
  refine Ab (Ab (Aa Ae rfl (qm rfl (qm rfl (Fc Kp rfl (A8 rfl (Ac ?_)))))))
  refine As rfl (fun c3 => ?_) (fun c3 => ?_)
  ·have h := Aq c3 h
   refine Au (Ab (AV (Ab (Aa Ae rfl (qL Dl CV rfl (qm rfl (qm rfl ?_)))))))
   obtain ⟨v4, a4, b4, h⟩ := An h
   refine qI Kp R6 a4 (Aj b4) rfl (qh OO rfl ?_)
   refine Qr (.p rfl) rfl Be AQ rfl (Aj b4) rfl rfl (by decide) ?_
   obtain ⟨v5, a5, h⟩ := bind_some h
   refine AJ [2003] (J9 N p0 ((Af.mk v4.fMix.fBase v4.fMix.fNext v4.fMix.fHeld)) v5 a5) Yb rfl (qa rfl (AY (by kernel_rfl) (Ab (Aa Ae rfl (qa rfl (Ac ?_))))))
   refine AS (L := BL N p0 p2 v1 v5) h (fun v6 => mk [(2, .e (.one (.pure (.val (.int .i64 p2))))), (3, .e (.one (.ptr 3 0))), (8, .e (.one (.own 2004))), (9, .e (.one (.pure (.val (.int .i64 v1.2))))), (10, .e (.one (.own 2005))), (11, .e (.one (.pure (.val (.int .i64 v6.2)))))] [(3, .box [.pure (.sl (p0.fVersions.map Ag)), .pure (.sl (p0.fNow.map Ag)), .pure (.sl (p0.fTarget.map Ag)), .pure (.sl (p0.fTables.map Ai))]), (2004, .vec 7 (v6.1.map B9)), (2005, .vec 3 (v5.map Ay))]) (fun v7 => mk [(2, .e (.one (.pure (.val (.int .i64 p2))))), (3, .e (.one (.ptr 3 0))), (8, .e (.one (.own 2006))), (9, .e (.one (.pure (.val (.int .i64 v1.2)))))] [(3, .box [.pure (.sl (p0.fVersions.map Ag)), .pure (.sl (p0.fNow.map Ag)), .pure (.sl (p0.fTarget.map Ag)), .pure (.sl (p0.fTables.map Ai))]), (2006, .vec 7 (v7.map B9))]) (fun _ _ => rfl) (sm [(2004, 2001), (2005, 2003)] _ _ rfl rfl) (fun j6 n6 v6 h => ?_) (fun v7 s h hs => ?_)
   ·unfold BL at h
    refine Ab (Ab (Aa Ae rfl (qm rfl (qm rfl (Fc CI rfl (A8 rfl (Ac ?_)))))))
    refine As rfl (fun c8 => ?_) (fun c8 => ?_)
    ·have h := Aq c8 h
     refine Au (Ab (AV (Ab (Aa Ae rfl (qL Dl CV rfl (qm rfl (qm rfl ?_)))))))
     obtain ⟨v9, a9, b9, h⟩ := An h
     refine qI Kp R6 a9 (Aj b9) rfl (qh OO rfl ?_)
     refine Qr (.p rfl) rfl Be AQ rfl (Aj b9) rfl rfl (by decide) ?_
     refine qm rfl (qm rfl ?_)
     obtain ⟨v10, a10, b10, h⟩ := An h
     refine qI CI Dk a10 (Aj b10) rfl (qJ GS Dk (Aj b10) rfl ?_)
     obtain ⟨v11, a11, h⟩ := bind_some h
     refine AJ [2007, 2008, 2009] (Hr N p0 ((Af.mk v9.fMix.fBase v9.fMix.fNext v9.fMix.fHeld)) v10 v11 a11) Xp rfl (qm rfl (qx rfl (qx rfl (qz CF rfl (qs AQ rfl (qa rfl (AY (by kernel_rfl) ?_)))))))
     refine AW h (fun v12 => mk [(2, .e (.one (.pure (.val (.int .i64 p2))))), (3, .e (.one (.ptr 3 0))), (8, .e (.one (.own 2010))), (9, .e (.one (.pure (.val (.int .i64 v1.2))))), (10, .e (.one (.own 2011))), (11, .e (.one (.pure (.val (.int .i64 v6.2)))))] [(3, .box [.pure (.sl (p0.fVersions.map Ag)), .pure (.sl (p0.fNow.map Ag)), .pure (.sl (p0.fTarget.map Ag)), .pure (.sl (p0.fTables.map Ai))]), (2010, .vec 7 (v12.map B9)), (2011, .vec 3 (v5.map Ay))]) (fun j12 h => ?_) (fun v12 h => ?_)
     ·refine AW h (fun v13 => mk [(2, .e (.one (.pure (.val (.int .i64 p2))))), (3, .e (.one (.ptr 3 0))), (8, .e (.one (.own 2015))), (9, .e (.one (.pure (.val (.int .i64 v1.2))))), (10, .e (.one (.own 2016))), (11, .e (.one (.pure (.val (.int .i64 v6.2))))), (12, .e (.one (.ptr 12 0))), (58, .e (.one (.pure (.val (.bool v13)))))] [(3, .box [.pure (.sl (p0.fVersions.map Ag)), .pure (.sl (p0.fNow.map Ag)), .pure (.sl (p0.fTarget.map Ag)), .pure (.sl (p0.fTables.map Ai))]), (12, .box [.own 2012, .own 2013, .own 2014]), (2012, .vec 1 (v11.1.fBase.map Ag)), (2013, .vec 1 (v11.1.fNext.map Ag)), (2014, .vec 1 (v11.1.fHeld.map A6)), (2015, .vec 7 (v6.1.map B9)), (2016, .vec 3 (v5.map Ay))]) (fun j13 h => ?_) (fun v13 h => ?_)
      ·refine Aa Ae rfl (qL Dl CV rfl (qL Be AQ rfl ?_))
       obtain ⟨v14, a14, h⟩ := bind_some h
       refine EB [] [2007, 2008, 2009] (GG N p0 v11.1 v14 a14) Wz Db rfl (qm rfl ?_)
       refine AI (t := 53) rfl (fun c15 => ?_) (fun c15 => ?_)
       ·have h := Aq c15 h
        refine qm rfl (qL Be AQ rfl ?_)
        obtain ⟨v16, a16, h⟩ := bind_some h
        refine EB [] [2004, 2007, 2008, 2009] (KM N v6.1 v11.1 v16 a16) Yj Db rfl (A8 rfl (qp rfl (Ac ?_)))
        exact Aw _ h (sm [(2012, 2007), (2013, 2008), (2014, 2009), (2015, 2004), (2016, 2005)] _ _ rfl rfl)
       ·have h := Ap c15 h
        refine qn rfl (qn rfl (qn rfl (qn rfl (qp rfl (Ac ?_)))))
        exact Aw _ h (sm [(2012, 2007), (2013, 2008), (2014, 2009), (2015, 2004), (2016, 2005)] _ _ rfl rfl)
      ·refine As rfl (fun c17 => ?_) (fun c17 => ?_)
       ·have h := Aq c17 h
        refine Al (Bq 2012 _ _ rfl rfl) (Al (Bq 2013 _ _ rfl rfl) (Al (Bq 2014 _ _ rfl rfl) (Aa Ae rfl (qm rfl (qL Be AQ rfl (qm rfl (qm rfl (qm rfl ?_))))))))
        obtain ⟨v18, a18, b18, h⟩ := An h
        refine qI CI Dk a18 (Aj b18) rfl (qJ GS Dk (Aj b18) rfl (AZ SJ Xd rfl (Ex Kp R6 SJ rfl ?_)))
        obtain ⟨c19, h⟩ := AO h
        refine DM (f := B9) Kp Kp R6 Wt SJ c19 rfl (qa rfl (AY (by kernel_rfl) ?_))
        exact Aw _ h (sm [(2010, 68), (2011, 2016)] _ _ rfl rfl)
       ·have h := Ap c17 h
        refine Au ?_
        exact Aw _ h (sm [(2010, 2015), (2011, 2016)] _ _ rfl rfl)
     ·refine Ab (Aa Ae rfl (qm rfl (Fc Kp rfl (qm rfl (FP rfl (Ac ?_))))))
      refine As rfl (fun c20 => ?_) (fun c20 => ?_)
      ·have h := Aq c20 h
       refine Ab (Aa Ae rfl (qa rfl (qa rfl (Ac ?_))))
       obtain rfl := sj h
       refine Al ((B8 6 2017 7 rfl rfl rfl).trans (sm [(1000, 2017)] [(6, .e (.one (.own 1000))), (7, .e (.one (.pure (.val (.bool false)))))] [(1000, .vec 7 ((([] : List AC)).map B9))] rfl rfl)) (AA ?_)
       exact ⟨⟨[_, _], ⟨.tmp _ _ rfl, ⟨.tmp _ _ rfl, trivial⟩⟩, rfl⟩, ⟨rfl, trivial⟩⟩
      ·have h := Ap c20 h
       refine Au (Aa Ae rfl (qm rfl (Bo rfl (qa rfl (Ac ?_)))))
       exact Aw _ h (sm [(2004, 2010), (2005, 2011)] _ _ rfl rfl)
    ·have h := Ap c8 h
     refine A5 ?_
     exact Aw _ h (sm [(2006, 2004)] _ _ rfl rfl)
   ·refine Al hs (Aa Ae rfl (qm rfl (Bo rfl (qa rfl (Ac ?_)))))
    exact Aw _ h (sm [(2001, 2006)] _ _ rfl rfl)
  ·have h := Ap c3 h
   refine A5 ?_
   exact Aw _ h (sm [(2002, 2001)] _ _ rfl rfl)
 ·refine Al hs (Ab (Aa Ae rfl (qm rfl (qa rfl (qa rfl (Ac ?_))))))
  obtain rfl := sj h
  refine Al (sm [(1000, 2002)] [(6, .e (.one (.own 1000))), (7, .e (.one (.pure (.val (.bool true)))))] [(1000, .vec 7 (v2.map B9))] rfl rfl) (AA ?_)
  exact ⟨⟨[_, _], ⟨.tmp _ _ rfl, ⟨.tmp _ _ rfl, trivial⟩⟩, rfl⟩, ⟨rfl, trivial⟩⟩
set_option maxRecDepth 10000 in
theorem Kg (N : Nat) (p0 : Ad) (p1 : Int) (r : Bool) (h : Ed N p0 p1 = some r) : AB Try.prog 36 [.e (.agg [.pure (.sl (p0.fVersions.map Ag)), .pure (.sl (p0.fNow.map Ag)), .pure (.sl (p0.fTarget.map Ag)), .pure (.sl (p0.fTables.map Ai))]), .e (.one (.pure (.val (.int .i64 p1))))] [] (.e (.one (.pure (.val (.bool r))))) := by
 unfold Ed at h
 refine Ao (n := 30) (rs := [.tmp 4]) Try.func36 rfl rfl rfl (BE rfl) (BE rfl) rfl fun w0 S0 => ?_
 refine Ab (Aa Ae rfl (qb rfl (qa rfl (Ac (Ab (Aa Ae rfl (qL Dl CV rfl ?_)))))))
 obtain ⟨v1, a1, h⟩ := bind_some h
 refine AJ [2001, 2002, 2003] (Ho N p0 v1 a1) We rfl (qm rfl (qx rfl (qx rfl (qz CF rfl (qs AQ rfl (qa rfl (Ac (Ab ?_))))))))
 refine AW h (fun v2 => mk [(1, .e (.one (.pure (.val (.int .i64 p1))))), (2, .e (.one (.ptr 2 0))), (5, .e (.one (.ptr 5 0))), (21, .e (.one (.pure (.val (.bool v2)))))] [(2, .box [.pure (.sl (p0.fVersions.map Ag)), .pure (.sl (p0.fNow.map Ag)), .pure (.sl (p0.fTarget.map Ag)), .pure (.sl (p0.fTables.map Ai))]), (5, .box [.own 2004, .own 2005, .own 2006]), (2004, .vec 1 (v1.1.fBase.map Ag)), (2005, .vec 1 (v1.1.fNext.map Ag)), (2006, .vec 1 (v1.1.fHeld.map A6))]) (fun j2 h => ?_) (fun v2 h => ?_)
 ·refine Aa Ae rfl (qm rfl (Cn rfl (qm rfl ?_)))
  refine AI (t := 16) rfl (fun c3 => ?_) (fun c3 => ?_)
  ·have h := Aq c3 h
   refine qn rfl (qn rfl (qn rfl (qn rfl (qp rfl (Ac ?_)))))
   exact Aw _ h (sm [(2004, 2001), (2005, 2002), (2006, 2003)] _ _ rfl rfl)
  ·have h := Ap c3 h
   refine qL Dl CV rfl (qL Be AQ rfl ?_)
   obtain ⟨v4, a4, h⟩ := bind_some h
   refine EB [] [2001, 2002, 2003] (GG N p0 v1.1 v4 a4) Wz Db rfl (CE rfl (qp rfl (Ac ?_)))
   exact Aw _ h (sm [(2004, 2001), (2005, 2002), (2006, 2003)] _ _ rfl rfl)
 ·refine As rfl (fun c5 => ?_) (fun c5 => ?_)
  ·have h := Aq c5 h
   refine Ab (Aa Ae rfl (qa rfl (Ac ?_)))
   obtain rfl := sj h
   refine Al (sm [] [(4, .e (.one (.pure (.val (.bool true)))))] [] rfl rfl) (AA ?_)
   exact ⟨⟨[_], ⟨.tmp _ _ rfl, trivial⟩, rfl⟩, trivial⟩
  ·have h := Ap c5 h
   refine Au (Ab (Aa Ae rfl (qL Dl CV rfl (qL Be AQ rfl (qm rfl (D1 (Bq 2004 _ _ rfl rfl) (D1 (Bq 2005 _ _ rfl rfl) (D1 (Bq 2006 _ _ rfl rfl) ?_))))))))
   obtain ⟨v6, a6, h⟩ := bind_some h
   refine AJ [2007] (Ka N p0 v1.1 p1 v6 a6) XQ rfl (qm rfl (qx rfl (qx rfl (qa rfl (qa rfl (Ac (Ab (Aa Ae rfl (qm rfl (qa rfl (Ac ?_)))))))))))
   obtain rfl := sj h
   refine Al (sm [] [(4, .e (.one (.pure (.val (.bool v6.2)))))] [] rfl rfl) (AA ?_)
   exact ⟨⟨[_], ⟨.tmp _ _ rfl, trivial⟩, rfl⟩, trivial⟩
set_option maxRecDepth 10000 in
theorem LX (N : Nat) (p0 : BG) (r : Ad × Bool) (h : EJ N p0 = some r) : AB Try.prog 12 [.e (.agg [.pure (.sl (p0.fVersions.map A6)), .pure (.sl (p0.fNow.map A6)), .pure (.sl (p0.fTarget.map A6)), .pure (.sl (p0.fLinks.map BI))])] [(1, r.1.fVersions.map Ag), (1, r.1.fNow.map Ag), (1, r.1.fTarget.map Ag), (6, r.1.fTables.map Ai)] (.tup [.agg [.own 0, .own 1, .own 2, .own 3], .one (.pure (.val (.bool r.2)))]) := by
 unfold EJ at h
 refine Ao (n := 17) (rs := [.cell 2 30, .tmp 3]) Try.func12 rfl rfl rfl (BE rfl) (BE rfl) rfl fun w0 S0 => ?_
 refine Ab (Aa Ae rfl (qb rfl (qz PB rfl (qa rfl (Ac (Ab (Aa Ae rfl (qL WP WT rfl ?_))))))))
 obtain ⟨v1, a1, h⟩ := bind_some h
 refine AJ [2001, 2002, 2003, 2004] (LJ N p0 v1 a1) XV rfl (qm rfl (qx rfl (qx rfl (qz PB rfl (qs CV rfl (qa rfl (Ac ?_)))))))
 refine AW h (fun v2 => mk [(2, .e (.one (.ptr 2 0))), (3, .e (.one (.pure (.val (.bool v2)))))] [(2, .box [.own 2005, .own 2006, .own 2007, .own 2008]), (2005, .vec 1 (v1.1.fVersions.map Ag)), (2006, .vec 1 (v1.1.fNow.map Ag)), (2007, .vec 1 (v1.1.fTarget.map Ag)), (2008, .vec 6 (v1.1.fTables.map Ai))]) (fun j2 h => ?_) (fun v2 h => ?_)
 ·refine Aa Ae rfl (qL Dl CV rfl (qm rfl (qm rfl ?_)))
  refine AI (t := 13) rfl (fun c3 => ?_) (fun c3 => ?_)
  ·have h := Aq c3 h
   refine qL Dl CV rfl ?_
   obtain ⟨v4, a4, h⟩ := bind_some h
   refine EB [] [2001, 2002, 2003, 2004] (Kg N v1.1 120 v4 a4) XL Db rfl (qp rfl (qs CV rfl (qa rfl (AY (by kernel_rfl) ?_))))
   exact Aw _ h (sm [(2005, 2001), (2006, 2002), (2007, 2003), (2008, 2004)] _ _ rfl rfl)
  ·have h := Ap c3 h
   refine qn rfl (qn rfl (qp rfl (qs CV rfl (qa rfl (AY (by kernel_rfl) ?_)))))
   exact Aw _ h (sm [(2005, 2001), (2006, 2002), (2007, 2003), (2008, 2004)] _ _ rfl rfl)
 ·obtain rfl := sj h
  refine Al (sm [(1000, 2005), (1001, 2006), (1002, 2007), (1003, 2008)] [(2, .e (.one (.ptr 2 0))), (3, .e (.one (.pure (.val (.bool v2)))))] [(2, .box [.own 1000, .own 1001, .own 1002, .own 1003]), (1000, .vec 1 (v1.1.fVersions.map Ag)), (1001, .vec 1 (v1.1.fNow.map Ag)), (1002, .vec 1 (v1.1.fTarget.map Ag)), (1003, .vec 6 (v1.1.fTables.map Ai))] rfl rfl) (AA ?_)
  exact ⟨⟨[_, _], ⟨.cellN _ _ _ _ _ _ _ rfl rfl Dl CV rfl rfl (FT rfl), ⟨.tmp _ _ rfl, trivial⟩⟩, rfl⟩, ⟨rfl, rfl, rfl, rfl, trivial⟩⟩
set_option maxRecDepth 10000 in
theorem Jk (N : Nat) (p0 : Ad) (p1 : Af) (r : (List Af) × Int) (h : EC N p0 p1 = some r) : AB Try.prog 81 [.e (.agg [.pure (.sl (p0.fVersions.map Ag)), .pure (.sl (p0.fNow.map Ag)), .pure (.sl (p0.fTarget.map Ag)), .pure (.sl (p0.fTables.map Ai))]), .e (.agg [.pure (.sl (p1.fBase.map Ag)), .pure (.sl (p1.fNext.map Ag)), .pure (.sl (p1.fHeld.map A6))])] [(3, r.1.map Dx)] (.tup [.one (.own 0), .one (.pure (.val (.int .i64 r.2)))]) := by
 unfold EC at h
 refine Ao (n := 15) (rs := [.tmp 4, .tmp 5]) Try.func81 rfl rfl rfl (BE rfl) (BE rfl) rfl fun w0 S0 => ?_
 refine Ab (Aa Ae rfl (qb rfl (qb rfl (qa rfl (qa rfl (Ac (Ab (Ab (Aa Ae rfl (qL Dl CV rfl (qL Be AQ rfl ?_)))))))))))
 obtain ⟨v1, a1, h⟩ := bind_some h
 refine AJ [] (zFS N p0 p1 v1 a1) Vw rfl (qa rfl (Ac (Ab (Aa Ae rfl (qm rfl (Cn rfl (Ac ?_)))))))
 refine As rfl (fun c2 => ?_) (fun c2 => ?_)
 ·have h := Aq c2 h
  refine Ab (Aa Ae rfl (qm rfl (qa rfl (qa rfl (Ac ?_)))))
  obtain rfl := sj h
  refine Al ((B8 4 2001 3 rfl rfl rfl).trans (sm [(1000, 2001)] [(4, .e (.one (.own 1000))), (5, .e (.one (.pure (.val (.int .i64 v1)))))] [(1000, .vec 3 ((([] : List Af)).map Dx))] rfl rfl)) (AA ?_)
  exact ⟨⟨[_, _], ⟨.tmp _ _ rfl, ⟨.tmp _ _ rfl, trivial⟩⟩, rfl⟩, ⟨rfl, trivial⟩⟩
 ·have h := Ap c2 h
  refine Au (Ab (Aa Ae rfl (qL Be AQ rfl ?_)))
  obtain ⟨v3, a3, h⟩ := bind_some h
  refine AJ [2002] (Ic N p1 v3 a3) Wm rfl (qa rfl (qa rfl (Ac ?_)))
  obtain rfl := sj h
  refine Al (sm [(1000, 2002)] [(4, .e (.one (.own 1000))), (5, .e (.one (.pure (.val (.int .i64 0)))))] [(1000, .vec 3 (v3.map Dx))] rfl rfl) (AA ?_)
  exact ⟨⟨[_, _], ⟨.tmp _ _ rfl, ⟨.tmp _ _ rfl, trivial⟩⟩, rfl⟩, ⟨rfl, trivial⟩⟩
set_option maxRecDepth 10000 in
theorem Kb (N : Nat) (p0 : Ad) (p1 : Af) (r : Af × Ak × Int) (h : D4 N p0 p1 = some r) : AB Try.prog 42 [.e (.agg [.pure (.sl (p0.fVersions.map Ag)), .pure (.sl (p0.fNow.map Ag)), .pure (.sl (p0.fTarget.map Ag)), .pure (.sl (p0.fTables.map Ai))]), .e (.agg [.pure (.sl (p1.fBase.map Ag)), .pure (.sl (p1.fNext.map Ag)), .pure (.sl (p1.fHeld.map A6))])] [] (.tup [.agg [.pure (.sl (r.1.fBase.map Ag)), .pure (.sl (r.1.fNext.map Ag)), .pure (.sl (r.1.fHeld.map A6))], .agg [.pure (.val (.int .i64 r.2.1.fTable)), .pure (.val (.int .i64 r.2.1.fWriter)), .pure (.val (.int .i64 r.2.1.fReader))], .one (.pure (.val (.int .i64 r.2.2)))]) := by
 unfold D4 at h
 refine Ao (n := 46) (rs := [.cell 4 43, .cell 5 45, .tmp 6]) Try.func42 rfl rfl rfl (BE rfl) (BE rfl) rfl fun w0 S0 => ?_
 refine Ab (Aa Ae rfl (qb rfl (qb rfl (qz CF rfl (qz Fs rfl (qa rfl (Ac (Ab (Aa Ae rfl (qL Dl CV rfl (qL Be AQ rfl ?_)))))))))))
 obtain ⟨v1, a1, h⟩ := bind_some h
 refine AJ [2001] (Jk N p0 p1 v1 a1) XU rfl (qm rfl (qx rfl (qx rfl (qa rfl (qa rfl (Ac (Ab (Ab (Aa Ae rfl (qm rfl (Cn rfl (Ac ?_))))))))))))
 refine As rfl (fun c2 => ?_) (fun c2 => ?_)
 ·have h := Aq c2 h
  refine Ab (Aa Ae rfl (AZ CF FN rfl (AZ Fs JI rfl (qm rfl (qs AQ rfl (qs DN rfl (qa rfl (Ac ?_))))))))
  obtain rfl := sj h
  refine Al ((EI 4 _ rfl).trans (sm [] [(4, .e (.one (.ptr 4 0))), (5, .e (.one (.ptr 5 0))), (6, .e (.one (.pure (.val (.int .i64 v1.2)))))] [(4, .box [.pure (.sl ((([] : List Int)).map Ag)), .pure (.sl ((([] : List Int)).map Ag)), .pure (.sl ((([] : List Int)).map A6))]), (5, .box [.pure (.val (.int .i64 0)), .pure (.val (.int .i64 0)), .pure (.val (.int .i64 0))])] rfl rfl)) (AA ?_)
  exact ⟨⟨[_, _, _], ⟨.cellN _ _ _ _ _ _ _ rfl rfl Be AQ rfl rfl (FT rfl), ⟨.cellN _ _ _ _ _ _ _ rfl rfl H0 DN rfl rfl (FT rfl), ⟨.tmp _ _ rfl, trivial⟩⟩⟩, rfl⟩, trivial⟩
 ·have h := Ap c2 h
  refine Au (Ab (Ab (Aa Ae rfl (qa rfl (Ac ?_)))))
  refine AS (L := Ct N p0 v1) h (fun v3 => mk [(2, .e (.one (.ptr 2 0))), (4, .e (.one (.ptr 4 0))), (5, .e (.one (.ptr 5 0))), (7, .e (.one (.own 2002))), (9, .e (.one (.pure (.val (.int .i64 v3)))))] [(2, .box [.pure (.sl (p0.fVersions.map Ag)), .pure (.sl (p0.fNow.map Ag)), .pure (.sl (p0.fTarget.map Ag)), .pure (.sl (p0.fTables.map Ai))]), (4, .box [.pure (.nil0), .pure (.nil0), .pure (.nil0)]), (5, .box [.pure (.val (.int .i64 0)), .pure (.val (.int .i64 0)), .pure (.val (.int .i64 0))]), (2002, .vec 3 (v1.1.map Dx))]) (fun v4 => mk [(4, .e (.one (.ptr 4 0))), (5, .e (.one (.ptr 5 0)))] [(4, .box [.pure (.nil0), .pure (.nil0), .pure (.nil0)]), (5, .box [.pure (.val (.int .i64 0)), .pure (.val (.int .i64 0)), .pure (.val (.int .i64 0))])]) (fun _ _ => rfl) (sm [(2002, 2001)] _ _ rfl rfl) (fun j3 n3 v3 h => ?_) (fun v4 s h hs => ?_)
  ·unfold Ct at h
   refine Ab (Ab (Aa Ae rfl (qm rfl (qm rfl (Fc IM rfl (A8 rfl (Ac ?_)))))))
   refine As rfl (fun c5 => ?_) (fun c5 => ?_)
   ·have h := Aq c5 h
    refine Au (Ab (AV (Ab (Aa Ae rfl (qL Dl CV rfl (qm rfl (qm rfl ?_)))))))
    obtain ⟨v6, a6, b6, h⟩ := An h
    refine qI IM AQ a6 (Aj b6) rfl (qJ Be AQ (Aj b6) rfl ?_)
    obtain ⟨v7, a7, h⟩ := bind_some h
    refine AJ [2003] (Hl N p0 v6 v7 a7) WY rfl (qa rfl (AY (by kernel_rfl) (Ab (Aa Ae rfl (qm rfl (Fc FC rfl (FP rfl (Ac ?_))))))))
    refine As rfl (fun c8 => ?_) (fun c8 => ?_)
    ·have h := Aq c8 h
     refine Ab (Aa Ae rfl (qm rfl (qm rfl ?_)))
     obtain ⟨v9, a9, b9, h⟩ := An h
     refine qI IM AQ a9 (Aj b9) rfl (qJ Be AQ (Aj b9) rfl (qm rfl ?_))
     obtain ⟨v10, a10, b10, h⟩ := An h
     refine qI FC DN a10 (Aj b10) rfl (qJ H0 DN (Aj b10) rfl (qs AQ rfl (qs DN rfl (qa rfl (AY (by kernel_rfl) ?_)))))
     obtain rfl := sj h
     refine Al (sm [] [(4, .e (.one (.ptr 4 0))), (5, .e (.one (.ptr 5 0))), (6, .e (.one (.pure (.val (.int .i64 0)))))] [(4, .box [.pure (.sl (v9.fBase.map Ag)), .pure (.sl (v9.fNext.map Ag)), .pure (.sl (v9.fHeld.map A6))]), (5, .box [.pure (.val (.int .i64 v10.fTable)), .pure (.val (.int .i64 v10.fWriter)), .pure (.val (.int .i64 v10.fReader))])] rfl rfl) (AA ?_)
     exact ⟨⟨[_, _, _], ⟨.cellN _ _ _ _ _ _ _ rfl rfl Be AQ rfl rfl (FT rfl), ⟨.cellN _ _ _ _ _ _ _ rfl rfl H0 DN rfl rfl (FT rfl), ⟨.tmp _ _ rfl, trivial⟩⟩⟩, rfl⟩, trivial⟩
    ·have h := Ap c8 h
     refine Au (Aa Ae rfl (qm rfl (Bo rfl (qa rfl (Ac ?_)))))
     exact Aw _ h (sm [] _ _ rfl rfl)
   ·have h := Ap c5 h
    refine A5 ?_
    exact Aw _ h (sm [] _ _ rfl rfl)
  ·refine Al hs (Ab (Aa Ae rfl (AZ CF FN rfl (AZ Fs JI rfl (qs AQ rfl (qs DN rfl (qa rfl (Ac ?_))))))))
   obtain rfl := sj h
   refine Al ((EI 4 _ rfl).trans (sm [] [(4, .e (.one (.ptr 4 0))), (5, .e (.one (.ptr 5 0))), (6, .e (.one (.pure (.val (.int .i64 15)))))] [(4, .box [.pure (.sl ((([] : List Int)).map Ag)), .pure (.sl ((([] : List Int)).map Ag)), .pure (.sl ((([] : List Int)).map A6))]), (5, .box [.pure (.val (.int .i64 0)), .pure (.val (.int .i64 0)), .pure (.val (.int .i64 0))])] rfl rfl)) (AA ?_)
   exact ⟨⟨[_, _, _], ⟨.cellN _ _ _ _ _ _ _ rfl rfl Be AQ rfl rfl (FT rfl), ⟨.cellN _ _ _ _ _ _ _ rfl rfl H0 DN rfl rfl (FT rfl), ⟨.tmp _ _ rfl, trivial⟩⟩⟩, rfl⟩, trivial⟩
set_option maxRecDepth 10000 in
theorem KA (N : Nat) (p0 : Ad) (p1 : Af) (r : Bool) (h : C1 N p0 p1 = some r) : AB Try.prog 43 [.e (.agg [.pure (.sl (p0.fVersions.map Ag)), .pure (.sl (p0.fNow.map Ag)), .pure (.sl (p0.fTarget.map Ag)), .pure (.sl (p0.fTables.map Ai))]), .e (.agg [.pure (.sl (p1.fBase.map Ag)), .pure (.sl (p1.fNext.map Ag)), .pure (.sl (p1.fHeld.map A6))])] [] (.e (.one (.pure (.val (.bool r))))) := by
 unfold C1 at h
 refine Ao (n := 36) (rs := [.tmp 4]) Try.func43 rfl rfl rfl (BE rfl) (BE rfl) rfl fun w0 S0 => ?_
 refine Ab (Aa Ae rfl (qb rfl (qb rfl (qa rfl (Ac (Ab (Ab (Aa Ae rfl (qL Dl CV rfl (qL Be AQ rfl ?_))))))))))
 obtain ⟨v1, a1, h⟩ := bind_some h
 refine AJ [] (zFS N p0 p1 v1 a1) Vw rfl (Cn rfl (Ac ?_))
 refine As rfl (fun c2 => ?_) (fun c2 => ?_)
 ·have h := Aq c2 h
  refine Ab (Aa Ae rfl (qa rfl (Ac ?_)))
  obtain rfl := sj h
  refine Al (sm [] [(4, .e (.one (.pure (.val (.bool false)))))] [] rfl rfl) (AA ?_)
  exact ⟨⟨[_], ⟨.tmp _ _ rfl, trivial⟩, rfl⟩, trivial⟩
 ·have h := Ap c2 h
  refine Au (Ab (Ab (Aa Ae rfl (qa rfl (Ac ?_)))))
  refine AS (L := CD N p0 p1) h (fun v3 => mk [(2, .e (.one (.ptr 2 0))), (3, .e (.one (.ptr 3 0))), (5, .e (.one (.pure (.val (.int .i64 v3)))))] [(2, .box [.pure (.sl (p0.fVersions.map Ag)), .pure (.sl (p0.fNow.map Ag)), .pure (.sl (p0.fTarget.map Ag)), .pure (.sl (p0.fTables.map Ai))]), (3, .box [.pure (.sl (p1.fBase.map Ag)), .pure (.sl (p1.fNext.map Ag)), .pure (.sl (p1.fHeld.map A6))])]) (fun v4 => mk [] []) (fun _ _ => rfl) (sm [] _ _ rfl rfl) (fun j3 n3 v3 h => ?_) (fun v4 s h hs => ?_)
  ·unfold CD at h
   refine Ab (Ab (Aa Ae rfl (qm rfl (qf CA rfl (ql A9 rfl (AT AF rfl (A8 rfl (Ac ?_))))))))
   refine As rfl (fun c5 => ?_) (fun c5 => ?_)
   ·have h := Aq c5 h
    refine Au (Ab (AV ?_))
    refine AW h (fun v6 => mk [(2, .e (.one (.ptr 2 0))), (3, .e (.one (.ptr 3 0))), (5, .e (.one (.pure (.val (.int .i64 v3))))), (35, .e (.one (.pure (.val (.bool v6)))))] [(2, .box [.pure (.sl (p0.fVersions.map Ag)), .pure (.sl (p0.fNow.map Ag)), .pure (.sl (p0.fTarget.map Ag)), .pure (.sl (p0.fTables.map Ai))]), (3, .box [.pure (.sl (p1.fBase.map Ag)), .pure (.sl (p1.fNext.map Ag)), .pure (.sl (p1.fHeld.map A6))])]) (fun j6 h => ?_) (fun v6 h => ?_)
    ·refine Aa Ae rfl (qf By rfl (ql A9 rfl (qm rfl ?_)))
     obtain ⟨v7, a7, b7, h⟩ := An h
     refine qi AF Df a7 (Aj b7) rfl (qk Cb rfl (EE rfl (qm rfl ?_)))
     refine AI (t := 23) rfl (fun c8 => ?_) (fun c8 => ?_)
     ·have h := Aq c8 h
      refine qn rfl (qn rfl (qn rfl (qn rfl (qn rfl (qn rfl (qn rfl (qn rfl (qn rfl (qn rfl (qn rfl (qp rfl (AY (by kernel_rfl) ?_))))))))))))
      exact Aw _ h (sm [] _ _ rfl rfl)
     ·have h := Ap c8 h
      refine qf CA rfl (ql A9 rfl (qm rfl ?_))
      obtain ⟨v9, a9, b9, h⟩ := An h
      refine qi AF Df a9 (Aj b9) rfl (qk Cb rfl (qf Hx rfl (ql A9 rfl (qm rfl ?_))))
      obtain ⟨v10, a10, b10, h⟩ := An h
      refine qi AF Df a10 (Aj b10) rfl (qk Cb rfl (Cn rfl (qp rfl (AY (by kernel_rfl) ?_))))
      exact Aw _ h (sm [] _ _ rfl rfl)
    ·refine As rfl (fun c11 => ?_) (fun c11 => ?_)
     ·have h := Aq c11 h
      refine Ab (Aa Ae rfl (qa rfl (Ac ?_)))
      obtain rfl := sj h
      refine Al (sm [] [(4, .e (.one (.pure (.val (.bool false)))))] [] rfl rfl) (AA ?_)
      exact ⟨⟨[_], ⟨.tmp _ _ rfl, trivial⟩, rfl⟩, trivial⟩
     ·have h := Ap c11 h
      refine Au (Aa Ae rfl (qm rfl (Bo rfl (qa rfl (Ac ?_)))))
      exact Aw _ h (sm [] _ _ rfl rfl)
   ·have h := Ap c5 h
    refine A5 ?_
    exact Aw _ h (sm [] _ _ rfl rfl)
  ·refine Al hs (Ab (Aa Ae rfl (qa rfl (Ac ?_))))
   obtain rfl := sj h
   refine Al (sm [] [(4, .e (.one (.pure (.val (.bool true)))))] [] rfl rfl) (AA ?_)
   exact ⟨⟨[_], ⟨.tmp _ _ rfl, trivial⟩, rfl⟩, trivial⟩
set_option maxRecDepth 10000 in
theorem Jh (N : Nat) (p0 : Ad) (p1 : List Ah) (r : Int × Af × Ak × Int) (h : DB N p0 p1 = some r) : AB Try.prog 20 [.e (.agg [.pure (.sl (p0.fVersions.map Ag)), .pure (.sl (p0.fNow.map Ag)), .pure (.sl (p0.fTarget.map Ag)), .pure (.sl (p0.fTables.map Ai))]), .e (.one (.pure (.sl (p1.map Ay))))] [] (.tup [.one (.pure (.val (.int .i64 r.1))), .agg [.pure (.sl (r.2.1.fBase.map Ag)), .pure (.sl (r.2.1.fNext.map Ag)), .pure (.sl (r.2.1.fHeld.map A6))], .agg [.pure (.val (.int .i64 r.2.2.1.fTable)), .pure (.val (.int .i64 r.2.2.1.fWriter)), .pure (.val (.int .i64 r.2.2.1.fReader))], .one (.pure (.val (.int .i64 r.2.2.2)))]) := by
 unfold DB at h
 refine Ao (n := 80) (rs := [.tmp 4, .cell 5 43, .cell 6 45, .tmp 7]) Try.func20 rfl rfl rfl (BE rfl) (BE rfl) rfl fun w0 S0 => ?_
 refine Ab (Aa Ae rfl (qb rfl (qa rfl (qz CF rfl (qz Fs rfl (qa rfl (Ac (Ab (Aa Ae rfl (qL Dl CV rfl ?_))))))))))
 obtain ⟨v1, a1, h⟩ := bind_some h
 refine AJ [2001, 2002, 2003] (Ho N p0 v1 a1) We rfl (qm rfl (qx rfl (qx rfl (qz CF rfl (qs AQ rfl (qa rfl (Ac (Ab (Ab (Aa Ae rfl (qm rfl (Cn rfl (Ac ?_)))))))))))))
 refine As rfl (fun c2 => ?_) (fun c2 => ?_)
 ·have h := Aq c2 h
  refine Ab (Aa Ae rfl (AZ CF FN rfl (AZ Fs JI rfl (qm rfl (qa rfl (qs AQ rfl (qs DN rfl (qa rfl (Ac ?_)))))))))
  obtain rfl := sj h
  refine Al ((EI 5 _ rfl).trans (sm [] [(4, .e (.one (.pure (.val (.int .i64 0))))), (5, .e (.one (.ptr 5 0))), (6, .e (.one (.ptr 6 0))), (7, .e (.one (.pure (.val (.int .i64 v1.2)))))] [(5, .box [.pure (.sl ((([] : List Int)).map Ag)), .pure (.sl ((([] : List Int)).map Ag)), .pure (.sl ((([] : List Int)).map A6))]), (6, .box [.pure (.val (.int .i64 0)), .pure (.val (.int .i64 0)), .pure (.val (.int .i64 0))])] rfl rfl)) (AA ?_)
  exact ⟨⟨[_, _, _, _], ⟨.tmp _ _ rfl, ⟨.cellN _ _ _ _ _ _ _ rfl rfl Be AQ rfl rfl (FT rfl), ⟨.cellN _ _ _ _ _ _ _ rfl rfl H0 DN rfl rfl (FT rfl), ⟨.tmp _ _ rfl, trivial⟩⟩⟩⟩, rfl⟩, trivial⟩
 ·have h := Ap c2 h
  refine Au (Ab (Ab (Aa Ae rfl (qa rfl (Ac ?_)))))
  refine AS (L := B7 N p0 p1) h (fun v3 => mk [(1, .e (.one (.pure (.sl (p1.map Ay))))), (2, .e (.one (.ptr 2 0))), (5, .e (.one (.ptr 5 0))), (6, .e (.one (.ptr 6 0))), (8, .e (.one (.ptr 8 0))), (10, .e (.one (.pure (.val (.int .i64 v3.2.2.2)))))] [(2, .box [.pure (.sl (p0.fVersions.map Ag)), .pure (.sl (p0.fNow.map Ag)), .pure (.sl (p0.fTarget.map Ag)), .pure (.sl (p0.fTables.map Ai))]), (5, .box [.pure (.nil0), .pure (.nil0), .pure (.nil0)]), (6, .box [.pure (.val (.int .i64 0)), .pure (.val (.int .i64 0)), .pure (.val (.int .i64 0))]), (8, .box [.pure (.sl (v3.1.map Ag)), .pure (.sl (v3.2.1.map Ag)), .pure (.sl (v3.2.2.1.map A6))])]) (fun v4 => mk [(1, .e (.one (.pure (.sl (p1.map Ay))))), (2, .e (.one (.ptr 2 0))), (5, .e (.one (.ptr 5 0))), (6, .e (.one (.ptr 6 0))), (8, .e (.one (.ptr 8 0)))] [(2, .box [.pure (.sl (p0.fVersions.map Ag)), .pure (.sl (p0.fNow.map Ag)), .pure (.sl (p0.fTarget.map Ag)), .pure (.sl (p0.fTables.map Ai))]), (5, .box [.pure (.nil0), .pure (.nil0), .pure (.nil0)]), (6, .box [.pure (.val (.int .i64 0)), .pure (.val (.int .i64 0)), .pure (.val (.int .i64 0))]), (8, .box [.pure (.sl (v4.fBase.map Ag)), .pure (.sl (v4.fNext.map Ag)), .pure (.sl (v4.fHeld.map A6))])]) (fun _ _ => rfl) ((Bq 2001 _ _ rfl rfl).trans ((Bq 2002 _ _ rfl rfl).trans ((Bq 2003 _ _ rfl rfl).trans (sm [] _ _ rfl rfl)))) (fun j3 n3 v3 h => ?_) (fun v4 s h hs => ?_)
  ·unfold B7 at h
   refine Ab (Ab (Aa Ae rfl (qm rfl (qm rfl (AT CI rfl (A8 rfl (Ac ?_)))))))
   refine As rfl (fun c5 => ?_) (fun c5 => ?_)
   ·have h := Aq c5 h
    refine Au (Ab (AV ?_))
    refine AW h (fun v6 => mk [(1, .e (.one (.pure (.sl (p1.map Ay))))), (2, .e (.one (.ptr 2 0))), (5, .e (.one (.ptr 5 0))), (6, .e (.one (.ptr 6 0))), (8, .e (.one (.ptr 8 0))), (10, .e (.one (.pure (.val (.int .i64 v3.2.2.2)))))] [(2, .box [.pure (.sl (p0.fVersions.map Ag)), .pure (.sl (p0.fNow.map Ag)), .pure (.sl (p0.fTarget.map Ag)), .pure (.sl (p0.fTables.map Ai))]), (5, .box [.pure (.nil0), .pure (.nil0), .pure (.nil0)]), (6, .box [.pure (.val (.int .i64 0)), .pure (.val (.int .i64 0)), .pure (.val (.int .i64 0))]), (8, .box [.pure (.sl (v6.1.map Ag)), .pure (.sl (v6.2.1.map Ag)), .pure (.sl (v6.2.2.map A6))])]) (fun j6 h => ?_) (fun v6 h => ?_)
    ·refine Ab (Aa Ae rfl (qm rfl (EE rfl (Ac ?_))))
     refine As rfl (fun c7 => ?_) (fun c7 => ?_)
     ·have h := Aq c7 h
      refine Ab (Aa Ae rfl (qL Dl CV rfl (qL Be AQ rfl (qm rfl (qm rfl ?_)))))
      obtain ⟨v8, a8, b8, h⟩ := An h
      refine qi CI Dk a8 (Aj b8) rfl (qK GS Dk rfl ?_)
      obtain ⟨v9, a9, h⟩ := bind_some h
      refine AJ [2004, 2005, 2006] (Hn N p0 ((Af.mk v3.1 v3.2.1 v3.2.2.1)) v8 v9 a9) Wh rfl (qm rfl (qx rfl (qx rfl (qz CF rfl (qs AQ rfl (qa rfl (AY (by kernel_rfl) (Ab ?_))))))))
      refine AW h (fun v10 => mk [(1, .e (.one (.pure (.sl (p1.map Ay))))), (2, .e (.one (.ptr 2 0))), (5, .e (.one (.ptr 5 0))), (6, .e (.one (.ptr 6 0))), (8, .e (.one (.ptr 8 0))), (10, .e (.one (.pure (.val (.int .i64 v3.2.2.2))))), (11, .e (.one (.ptr 11 0))), (53, .e (.one (.pure (.val (.bool v10)))))] [(2, .box [.pure (.sl (p0.fVersions.map Ag)), .pure (.sl (p0.fNow.map Ag)), .pure (.sl (p0.fTarget.map Ag)), .pure (.sl (p0.fTables.map Ai))]), (5, .box [.pure (.nil0), .pure (.nil0), .pure (.nil0)]), (6, .box [.pure (.val (.int .i64 0)), .pure (.val (.int .i64 0)), .pure (.val (.int .i64 0))]), (8, .box [.pure (.sl (v3.1.map Ag)), .pure (.sl (v3.2.1.map Ag)), .pure (.sl (v3.2.2.1.map A6))]), (11, .box [.own 2007, .own 2008, .own 2009]), (2007, .vec 1 (v9.1.fBase.map Ag)), (2008, .vec 1 (v9.1.fNext.map Ag)), (2009, .vec 1 (v9.1.fHeld.map A6))]) (fun j10 h => ?_) (fun v10 h => ?_)
      ·refine Aa Ae rfl (qm rfl (Cn rfl (qm rfl ?_)))
       refine AI (t := 46) rfl (fun c11 => ?_) (fun c11 => ?_)
       ·have h := Aq c11 h
        refine qn rfl (qn rfl (qn rfl (qn rfl (qn rfl (qn rfl (qp rfl (Ac ?_)))))))
        exact Aw _ h (sm [(2007, 2004), (2008, 2005), (2009, 2006)] _ _ rfl rfl)
       ·have h := Ap c11 h
        refine qm rfl (qm rfl ?_)
        obtain ⟨v12, a12, b12, h⟩ := An h
        refine qi CI Dk a12 (Aj b12) rfl (qg EO rfl (qk Cb rfl (BY rfl (qp rfl (Ac ?_)))))
        exact Aw _ h (sm [(2007, 2004), (2008, 2005), (2009, 2006)] _ _ rfl rfl)
      ·refine As rfl (fun c13 => ?_) (fun c13 => ?_)
       ·have h := Aq c13 h
        refine Ab (Aa Ae rfl (qm rfl (AZ CF FN rfl (AZ Fs JI rfl (qa rfl (qs AQ rfl (qs DN rfl (qa rfl (Ac ?_)))))))))
        obtain rfl := sj h
        refine Al ((EI 5 _ rfl).trans (sm [] [(4, .e (.one (.pure (.val (.int .i64 v3.2.2.2))))), (5, .e (.one (.ptr 5 0))), (6, .e (.one (.ptr 6 0))), (7, .e (.one (.pure (.val (.int .i64 0)))))] [(5, .box [.pure (.sl ((([] : List Int)).map Ag)), .pure (.sl ((([] : List Int)).map Ag)), .pure (.sl ((([] : List Int)).map A6))]), (6, .box [.pure (.val (.int .i64 0)), .pure (.val (.int .i64 0)), .pure (.val (.int .i64 0))])] rfl rfl)) (AA ?_)
        exact ⟨⟨[_, _, _, _], ⟨.tmp _ _ rfl, ⟨.cellN _ _ _ _ _ _ _ rfl rfl Be AQ rfl rfl (FT rfl), ⟨.cellN _ _ _ _ _ _ _ rfl rfl H0 DN rfl rfl (FT rfl), ⟨.tmp _ _ rfl, trivial⟩⟩⟩⟩, rfl⟩, trivial⟩
       ·have h := Ap c13 h
        refine Au (Aa Ae rfl (qL Be AQ rfl (qs AQ rfl (Ac ?_))))
        exact Aw _ h ((Bq 2007 _ _ rfl rfl).trans ((Bq 2008 _ _ rfl rfl).trans ((Bq 2009 _ _ rfl rfl).trans (sm [] _ _ rfl rfl))))
     ·have h := Ap c7 h
      refine Au ?_
      exact Aw _ h (sm [] _ _ rfl rfl)
    ·refine Ab (Aa Ae rfl (qL Dl CV rfl (qL Be AQ rfl ?_)))
     obtain ⟨v14, a14, h⟩ := bind_some h
     refine AJ [] (Kb N p0 ((Af.mk v6.1 v6.2.1 v6.2.2)) v14 a14) X8 rfl (qm rfl (qx rfl (qx rfl (qx rfl (qz CF rfl (qz Fs rfl (qs AQ rfl (qs DN rfl (qa rfl (Ac (Ab (Aa Ae rfl (qm rfl (BY rfl (Ac ?_)))))))))))))))
     refine As rfl (fun c15 => ?_) (fun c15 => ?_)
     ·have h := Aq c15 h
      refine Ab (Aa Ae rfl (qm rfl (qL Be AQ rfl (qL H0 DN rfl (qa rfl (qs AQ rfl (qs DN rfl (qa rfl (AY (by kernel_rfl) ?_)))))))))
      obtain rfl := sj h
      refine Al (sm [] [(4, .e (.one (.pure (.val (.int .i64 v3.2.2.2))))), (5, .e (.one (.ptr 5 0))), (6, .e (.one (.ptr 6 0))), (7, .e (.one (.pure (.val (.int .i64 0)))))] [(5, .box [.pure (.sl (v14.1.fBase.map Ag)), .pure (.sl (v14.1.fNext.map Ag)), .pure (.sl (v14.1.fHeld.map A6))]), (6, .box [.pure (.val (.int .i64 v14.2.1.fTable)), .pure (.val (.int .i64 v14.2.1.fWriter)), .pure (.val (.int .i64 v14.2.1.fReader))])] rfl rfl) (AA ?_)
      exact ⟨⟨[_, _, _, _], ⟨.tmp _ _ rfl, ⟨.cellN _ _ _ _ _ _ _ rfl rfl Be AQ rfl rfl (FT rfl), ⟨.cellN _ _ _ _ _ _ _ rfl rfl H0 DN rfl rfl (FT rfl), ⟨.tmp _ _ rfl, trivial⟩⟩⟩⟩, rfl⟩, trivial⟩
     ·have h := Ap c15 h
      refine Au (Aa Ae rfl (qm rfl (Bo rfl (qa rfl (Ac ?_)))))
      exact Aw _ h (sm [] _ _ rfl rfl)
   ·have h := Ap c5 h
    refine A5 ?_
    exact Aw _ h (sm [] _ _ rfl rfl)
  ·refine Al hs (Ab (Ab (Aa Ae rfl (qL Dl CV rfl (qL Be AQ rfl ?_)))))
   obtain ⟨v16, a16, h⟩ := bind_some h
   refine AJ [] (KA N p0 v4 v16 a16) X1 rfl (CE rfl (Ac ?_))
   refine As rfl (fun c17 => ?_) (fun c17 => ?_)
   ·have h := Aq c17 h
    refine Ab (Aa Ae rfl (qm rfl (AT CI rfl (AZ CF FN rfl (AZ Fs JI rfl (qa rfl (qs AQ rfl (qs DN rfl (qa rfl (Ac ?_))))))))))
    obtain rfl := sj h
    refine Al ((EI 5 _ rfl).trans (sm [] [(4, .e (.one (.pure (.val (.int .i64 ((p1.length : Int))))))), (5, .e (.one (.ptr 5 0))), (6, .e (.one (.ptr 6 0))), (7, .e (.one (.pure (.val (.int .i64 14)))))] [(5, .box [.pure (.sl ((([] : List Int)).map Ag)), .pure (.sl ((([] : List Int)).map Ag)), .pure (.sl ((([] : List Int)).map A6))]), (6, .box [.pure (.val (.int .i64 0)), .pure (.val (.int .i64 0)), .pure (.val (.int .i64 0))])] rfl rfl)) (AA ?_)
    exact ⟨⟨[_, _, _, _], ⟨.tmp _ _ rfl, ⟨.cellN _ _ _ _ _ _ _ rfl rfl Be AQ rfl rfl (FT rfl), ⟨.cellN _ _ _ _ _ _ _ rfl rfl H0 DN rfl rfl (FT rfl), ⟨.tmp _ _ rfl, trivial⟩⟩⟩⟩, rfl⟩, trivial⟩
   ·have h := Ap c17 h
    refine Au (Ab (Aa Ae rfl (AZ CF FN rfl (AZ Fs JI rfl (qa rfl (qs AQ rfl (qs DN rfl (qa rfl (Ac ?_)))))))))
    obtain rfl := sj h
    refine Al ((EI 5 _ rfl).trans (sm [] [(4, .e (.one (.pure (.val (.int .i64 0))))), (5, .e (.one (.ptr 5 0))), (6, .e (.one (.ptr 6 0))), (7, .e (.one (.pure (.val (.int .i64 15)))))] [(5, .box [.pure (.sl ((([] : List Int)).map Ag)), .pure (.sl ((([] : List Int)).map Ag)), .pure (.sl ((([] : List Int)).map A6))]), (6, .box [.pure (.val (.int .i64 0)), .pure (.val (.int .i64 0)), .pure (.val (.int .i64 0))])] rfl rfl)) (AA ?_)
    exact ⟨⟨[_, _, _, _], ⟨.tmp _ _ rfl, ⟨.cellN _ _ _ _ _ _ _ rfl rfl Be AQ rfl rfl (FT rfl), ⟨.cellN _ _ _ _ _ _ _ rfl rfl H0 DN rfl rfl (FT rfl), ⟨.tmp _ _ rfl, trivial⟩⟩⟩⟩, rfl⟩, trivial⟩
set_option maxRecDepth 10000 in
theorem J5 (N : Nat) (p0 : Ad) (p1 : List Ah) (r : Bool) (h : Eb N p0 p1 = some r) : AB Try.prog 18 [.e (.agg [.pure (.sl (p0.fVersions.map Ag)), .pure (.sl (p0.fNow.map Ag)), .pure (.sl (p0.fTarget.map Ag)), .pure (.sl (p0.fTables.map Ai))]), .e (.one (.pure (.sl (p1.map Ay))))] [] (.e (.one (.pure (.val (.bool r))))) := by
 unfold Eb at h
 refine Ao (n := 19) (rs := [.tmp 4]) Try.func18 rfl rfl rfl (BE rfl) (BE rfl) rfl fun w0 S0 => ?_
 refine Ab (Aa Ae rfl (qb rfl (qa rfl (Ac (Ab (Aa Ae rfl (qL Dl CV rfl (qm rfl ?_))))))))
 obtain ⟨v1, a1, h⟩ := bind_some h
 refine AJ [] (Jh N p0 p1 v1 a1) Yk rfl (qm rfl (qx rfl (qx rfl (qx rfl (qx rfl (qz CF rfl (qz Fs rfl (qa rfl (qs AQ rfl (qs DN rfl (qa rfl (Ac (Ab (Aa Ae rfl (qm rfl (BY rfl (qa rfl (Ac ?_))))))))))))))))))
 obtain rfl := sj h
 refine Al (sm [] [(4, .e (.one (.pure (.val (.bool ((v1.2.2.2 == 15)))))))] [] rfl rfl) (AA ?_)
 exact ⟨⟨[_], ⟨.tmp _ _ rfl, trivial⟩, rfl⟩, trivial⟩
set_option maxRecDepth 10000 in
theorem HS (N : Nat) (p0 : BG) (p1 : List Ah) (r : Bool) (h : CL N p0 p1 = some r) : AB Try.prog 6 [.e (.agg [.pure (.sl (p0.fVersions.map A6)), .pure (.sl (p0.fNow.map A6)), .pure (.sl (p0.fTarget.map A6)), .pure (.sl (p0.fLinks.map BI))]), .e (.one (.pure (.sl (p1.map Ay))))] [] (.e (.one (.pure (.val (.bool r))))) := by
 unfold CL at h
 refine Ao (n := 42) (rs := [.tmp 4]) Try.func6 rfl rfl rfl (BE rfl) (BE rfl) rfl fun w0 S0 => ?_
 refine Ab (Aa Ae rfl (qb rfl (qa rfl (Ac (Ab ?_)))))
 refine AW h (fun v1 => mk [(1, .e (.one (.pure (.sl (p1.map Ay))))), (2, .e (.one (.ptr 2 0))), (15, .e (.one (.pure (.val (.bool v1)))))] [(2, .box [.pure (.sl (p0.fVersions.map A6)), .pure (.sl (p0.fNow.map A6)), .pure (.sl (p0.fTarget.map A6)), .pure (.sl (p0.fLinks.map BI))])]) (fun j1 h => ?_) (fun v1 h => ?_)
 ·refine Aa Ae rfl ?_
  obtain ⟨v2, a2, h⟩ := bind_some h
  refine AJ [] (Hp N v2 a2) Wf rfl (CE rfl (qm rfl ?_))
  refine AI (t := 11) rfl (fun c3 => ?_) (fun c3 => ?_)
  ·have h := Aq c3 h
   refine qn rfl (qn rfl (qn rfl (qp rfl (Ac ?_))))
   exact Aw _ h (sm [] _ _ rfl rfl)
  ·have h := Ap c3 h
   refine qm rfl (AT CI rfl (FP rfl (qp rfl (Ac ?_))))
   exact Aw _ h (sm [] _ _ rfl rfl)
 ·refine As rfl (fun c4 => ?_) (fun c4 => ?_)
  ·have h := Aq c4 h
   refine Ab (Aa Ae rfl ?_)
   obtain ⟨v5, a5, h⟩ := bind_some h
   refine AJ [] (Hp N v5 a5) Wf rfl (qa rfl (Ac ?_))
   obtain rfl := sj h
   refine Al (sm [] [(4, .e (.one (.pure (.val (.bool v5)))))] [] rfl rfl) (AA ?_)
   exact ⟨⟨[_], ⟨.tmp _ _ rfl, trivial⟩, rfl⟩, trivial⟩
  ·have h := Ap c4 h
   refine Au (Ab (Aa Ae rfl (qL WP WT rfl ?_)))
   obtain ⟨v6, a6, h⟩ := bind_some h
   refine AJ [2001, 2002, 2003, 2004] (LX N p0 v6 a6) XH rfl (qm rfl (qx rfl (qx rfl (qz PB rfl (qs CV rfl (qa rfl (Ac (Ab (Ab (Aa Ae rfl (qm rfl (CE rfl (Ac ?_)))))))))))))
   refine As rfl (fun c7 => ?_) (fun c7 => ?_)
   ·have h := Aq c7 h
    refine Ab (Aa Ae rfl (qa rfl (Ac ?_)))
    obtain rfl := sj h
    refine Al (sm [] [(4, .e (.one (.pure (.val (.bool true)))))] [] rfl rfl) (AA ?_)
    exact ⟨⟨[_], ⟨.tmp _ _ rfl, trivial⟩, rfl⟩, trivial⟩
   ·have h := Ap c7 h
    refine Au (Ab (Aa Ae rfl (qL Dl CV rfl ?_)))
    obtain ⟨v8, a8, h⟩ := bind_some h
    refine EB [2005] [2001, 2002, 2003, 2004] (Ia N v6.1 v8 a8) UB (GO (fun _ => rfl) Db) rfl (qm rfl (qx rfl (qx rfl (qa rfl (qa rfl (Ac (Ab (Ab (Aa Ae rfl (qL Dl CV rfl (qm rfl ?_)))))))))))
    obtain ⟨v9, a9, h⟩ := bind_some h
    refine EB [] [2001, 2002, 2003, 2004] (J5 N v6.1 p1 v9 a9) Yg Db rfl (CE rfl (Ac ?_))
    refine As rfl (fun c10 => ?_) (fun c10 => ?_)
    ·have h := Aq c10 h
     refine Ab (Aa Ae rfl (qa rfl (Ac ?_)))
     obtain rfl := sj h
     refine Al (sm [] [(4, .e (.one (.pure (.val (.bool true)))))] [] rfl rfl) (AA ?_)
     exact ⟨⟨[_], ⟨.tmp _ _ rfl, trivial⟩, rfl⟩, trivial⟩
    ·have h := Ap c10 h
     refine Au ?_
     refine AW h (fun v11 => mk [(4, .e (.one (.pure (.val (.bool v11)))))] []) (fun j11 h => ?_) (fun v11 h => ?_)
     ·refine Aa Ae rfl (qm rfl (BY rfl (qm rfl ?_)))
      refine AI (t := 35) rfl (fun c12 => ?_) (fun c12 => ?_)
      ·have h := Aq c12 h
       refine qm rfl (Fc CI rfl (qm rfl (AT CI rfl (Th rfl (qp rfl (qa rfl (Ac ?_)))))))
       exact Aw _ h (sm [] _ _ rfl rfl)
      ·have h := Ap c12 h
       refine qn rfl (qn rfl (qn rfl (qn rfl (qn rfl (qp rfl (qa rfl (Ac ?_)))))))
       exact Aw _ h (sm [] _ _ rfl rfl)
     ·obtain rfl := sj h
      refine Al (sm [] [(4, .e (.one (.pure (.val (.bool v11)))))] [] rfl rfl) (AA ?_)
      exact ⟨⟨[_], ⟨.tmp _ _ rfl, trivial⟩, rfl⟩, trivial⟩
end Go.Lift

