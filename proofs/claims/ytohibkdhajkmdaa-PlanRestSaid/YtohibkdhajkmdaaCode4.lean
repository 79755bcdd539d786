/- Lemmas for PlanRestSaid, which YtohibkdhajkmdaaFinP8 proves. -/
import Derived.Test.YtohibkdhajkmdaaCode1
/- That the code does what the shallow programs do, function by function. Written by a program (gen.py). -/
namespace Go.Lift
open Go.RowKit
open Go.Proofs
set_option maxRecDepth 10000 in
theorem KE (N : Nat) (p0 : Ac) (p1 : Ag) (p2 : Af) (r : Ag × Bool) (h : EN N p0 p1 p2 = some r) : AC Try.prog 102 [.e (.agg [.pure (.sl (p0.fVersions.map Ah)), .pure (.sl (p0.fNow.map Ah)), .pure (.sl (p0.fTarget.map Ah)), .pure (.sl (p0.fTables.map Ai))]), .e (.agg [.pure (.sl (p1.fBase.map Ah)), .pure (.sl (p1.fNext.map Ah)), .pure (.sl (p1.fHeld.map Ba))]), .e (.agg [.pure (.val (.int .i64 p2.fKind)), .pure (.val (.int .i64 p2.fIndex)), .pure (.val (.int .i64 p2.fVersion))])] [(1, r.1.fBase.map Ah), (1, r.1.fNext.map Ah), (1, r.1.fHeld.map Ba)] (.tup [.agg [.own 0, .own 1, .own 2], .one (.pure (.val (.bool r.2)))]) := by
 unfold EN at h
 refine Ar (n := 51) (rs := [.cell 6 43, .tmp 7]) Try.func102 rfl rfl rfl (BM rfl) (BM rfl) rfl fun w0 S0 => ?_
 refine Ab (Aa Ae rfl (qb rfl (qb rfl (qb rfl (qz C8 rfl (qa rfl (Ad (Ab (Aa Ae rfl (qL Bx AU rfl ?_))))))))))
 obtain ⟨v1, a1, h⟩ := bind_some h
 refine AM [2001, 2002, 2003] (NC N p1 v1 a1) Xt rfl (qz C8 rfl (qs AU rfl (Ad (Ab (Ab (Aa Ae rfl (qf EP rfl (ql Ch rfl (Ad (AW (Ab (Aa Ae rfl (B0 rfl (qa rfl (Ad ?_)))))))))))))))
 refine As rfl (fun c2 => ?_) (fun c2 => ?_)
 ·have h := Ap c2 h
  refine Ab (Aa Ae rfl (qL Bx AU rfl (qL DQ Di rfl (qL Gz C7 rfl ?_))))
  obtain ⟨v3, a3, h⟩ := bind_some h
  refine Ma (ds0 := [_, _, _]) [8, 2001, 2002, 2003] [] [false, false, true, true] (Or N p0 v1 p2 v3 a3) (.p rfl) Wv rfl ⟨rfl, rfl, rfl, trivial⟩ rfl rfl (by decide) ⟨rfl, rfl, rfl, rfl, trivial⟩ rfl (H8 rfl) trivial ⟨(fun _ => rfl), (fun _ => rfl), (fun h => by cases h), (fun h => by cases h), trivial⟩ rfl rfl rfl ?_
  refine qs AU rfl (qa rfl (A0 (by kernel_rfl) ?_))
  obtain rfl := sj h
  refine Al (sm [(1000, 2001), (1001, 2002), (1002, 2003)] [(6, .e (.one (.ptr 6 0))), (7, .e (.one (.pure (.val (.bool v3.1)))))] [(6, .box [.own 1000, .own 1001, .own 1002]), (1000, .vec 1 (v1.fBase.map Ah)), (1001, .vec 1 (v3.2.1.map Ah)), (1002, .vec 1 (v3.2.2.map Ba))] rfl rfl) (AF ?_)
  exact ⟨⟨[_, _], ⟨.cellN _ _ _ _ _ _ _ rfl rfl Bx AU rfl rfl (Hc rfl), ⟨.tmp _ _ rfl, trivial⟩⟩, rfl⟩, ⟨rfl, rfl, rfl, trivial⟩⟩
 ·have h := Aq c2 h
  refine Ab (Aa Ae rfl (B0 rfl (qa rfl (Ad ?_))))
  refine As rfl (fun c4 => ?_) (fun c4 => ?_)
  ·have h := Ap c4 h
   refine Ab (Aa Ae rfl (qL Bx AU rfl (qL DQ Di rfl (qf Ex rfl (ql Ch rfl ?_)))))
   obtain ⟨v5, a5, h⟩ := bind_some h
   refine Ma (ds0 := [_, _, _]) [8, 2001, 2002, 2003] [] [false, false, false, true] (Oz N p0 v1 p2.fIndex v5 a5) (.p rfl) W3 rfl ⟨rfl, rfl, rfl, trivial⟩ rfl rfl (by decide) ⟨rfl, rfl, rfl, rfl, trivial⟩ rfl (H8 rfl) trivial ⟨(fun _ => rfl), (fun _ => rfl), (fun _ => rfl), (fun h => by cases h), trivial⟩ rfl rfl rfl ?_
   refine qs AU rfl (qa rfl (A0 (by kernel_rfl) ?_))
   obtain rfl := sj h
   refine Al (sm [(1000, 2001), (1001, 2002), (1002, 2003)] [(6, .e (.one (.ptr 6 0))), (7, .e (.one (.pure (.val (.bool v5.1)))))] [(6, .box [.own 1000, .own 1001, .own 1002]), (1000, .vec 1 (v1.fBase.map Ah)), (1001, .vec 1 (v1.fNext.map Ah)), (1002, .vec 1 (v5.2.map Ba))] rfl rfl) (AF ?_)
   exact ⟨⟨[_, _], ⟨.cellN _ _ _ _ _ _ _ rfl rfl Bx AU rfl rfl (Hc rfl), ⟨.tmp _ _ rfl, trivial⟩⟩, rfl⟩, ⟨rfl, rfl, rfl, trivial⟩⟩
  ·have h := Aq c4 h
   refine Av (Ab (Aa Ae rfl (qf BD rfl (ql A9 rfl (qf Ex rfl (ql Ch rfl ?_))))))
   obtain ⟨v6, a6, b6, h⟩ := Am h
   refine qI AG Dh a6 (Ak b6) rfl (qj Ch (Ak b6) rfl (qa rfl (Ad (Ab (Ab (Aa Ae rfl (qm rfl (A8 rfl (Ad ?_)))))))))
   refine As rfl (fun c7 => ?_) (fun c7 => ?_)
   ·have h := Ap c7 h
    refine Ab (Aa Ae rfl (qL Bx AU rfl (qs AU rfl (qa rfl (Ad ?_)))))
    obtain rfl := sj h
    refine Al (sm [(1000, 2001), (1001, 2002), (1002, 2003)] [(6, .e (.one (.ptr 6 0))), (7, .e (.one (.pure (.val (.bool false)))))] [(6, .box [.own 1000, .own 1001, .own 1002]), (1000, .vec 1 (v1.fBase.map Ah)), (1001, .vec 1 (v1.fNext.map Ah)), (1002, .vec 1 (v1.fHeld.map Ba))] rfl rfl) (AF ?_)
    exact ⟨⟨[_, _], ⟨.cellN _ _ _ _ _ _ _ rfl rfl Bx AU rfl rfl (Hc rfl), ⟨.tmp _ _ rfl, trivial⟩⟩, rfl⟩, ⟨rfl, rfl, rfl, trivial⟩⟩
   ·have h := Aq c7 h
    refine Av (Ab (Aa Ae rfl (qf BD rfl (ql A9 rfl (qf Ex rfl (ql Ch rfl ?_))))))
    obtain ⟨v8, a8, b8, h⟩ := Am h
    refine qI AG Dh a8 (Ak b8) rfl ?_
    refine D8 rfl rfl rfl rfl (Ak b8) rfl Dh rfl (BM rfl) (DR Ah v1.fNext _ ((-1))) ?_
    refine Ad ?_
    refine AX h (fun v9 => mk [(6, .e (.one (.ptr 6 0))), (8, .e (.one (.ptr 8 0)))] [(6, .box [.pure (.nil0), .pure (.nil0), .pure (.nil0)]), (8, .box [.own 2004, .own 2005, .own 2006]), (2004, .vec 1 (v9.map Ah)), (2005, .vec 1 ((v1.fNext.set (p2.fIndex).toNat ((-1))).map Ah)), (2006, .vec 1 (v1.fHeld.map Ba))]) (fun j9 h => ?_) (fun v9 h => ?_)
    ·refine Ab (Aa Ae rfl (qf EP rfl (ql Ch rfl (B0 rfl (Ad ?_)))))
     refine As rfl (fun c10 => ?_) (fun c10 => ?_)
     ·have h := Ap c10 h
      refine Aa Ae rfl (qf CK rfl (ql A9 rfl (qf Ex rfl (ql Ch rfl (qm rfl ?_)))))
      obtain ⟨v11, a11, b11, h⟩ := Am h
      refine qI AG Dh a11 (Ak b11) rfl ?_
      refine D8 rfl rfl rfl rfl (Ak b11) rfl Dh rfl (BM rfl) (DR Ah v1.fBase _ v6) ?_
      refine Ad ?_
      exact Aw _ h (sm [(2004, 2001), (2005, 2002), (2006, 2003)] _ _ rfl rfl)
     ·have h := Aq c10 h
      refine Av ?_
      exact Aw _ h (sm [(2004, 2001), (2005, 2002), (2006, 2003)] _ _ rfl rfl)
    ·refine Ab (Aa Ae rfl (qL Bx AU rfl (qs AU rfl (qa rfl (Ad ?_)))))
     obtain rfl := sj h
     refine Al (sm [(1000, 2004), (1001, 2005), (1002, 2006)] [(6, .e (.one (.ptr 6 0))), (7, .e (.one (.pure (.val (.bool true)))))] [(6, .box [.own 1000, .own 1001, .own 1002]), (1000, .vec 1 (v9.map Ah)), (1001, .vec 1 ((v1.fNext.set (p2.fIndex).toNat ((-1))).map Ah)), (1002, .vec 1 (v1.fHeld.map Ba))] rfl rfl) (AF ?_)
     exact ⟨⟨[_, _], ⟨.cellN _ _ _ _ _ _ _ rfl rfl Bx AU rfl rfl (Hc rfl), ⟨.tmp _ _ rfl, trivial⟩⟩, rfl⟩, ⟨rfl, rfl, rfl, trivial⟩⟩
set_option maxRecDepth 10000 in
theorem LF (N : Nat) (p0 : Af) (p1 : List Int) (p2 : List Int) (p3 : List Int) (p4 : List AE) (p5 : List Int) (p6 : List Int) (p7 : List Int) (r : Bool) (h : C5 N p0 p1 p2 p3 p4 p5 p6 p7 = some r) : AC Try.prog 105 [.e (.agg [.pure (.val (.int .i64 p0.fKind)), .pure (.val (.int .i64 p0.fIndex)), .pure (.val (.int .i64 p0.fVersion))]), .e (.one (.rop [.sl (p1.map Ah), .sl (p2.map Ah), .sl (p3.map Ah), .sl (p4.map Ai)])), .e (.one (.rop [.sl (p5.map Ah), .sl (p6.map Ah), .sl (p7.map Ba)]))] [] (.e (.one (.pure (.val (.bool r))))) := by
 unfold C5 at h
 refine Ar (n := 16) (rs := [.tmp 4]) Try.func105 rfl rfl rfl (BM rfl) (BM rfl) rfl fun w0 S0 => ?_
 refine Ab (Aa Ae rfl (qb rfl (qa rfl (Ad (Ab (Aa Ae rfl (qK DQ Di rfl (qK Bx AU rfl (qL Gz C7 rfl ?_)))))))))
 obtain ⟨v1, a1, h⟩ := bind_some h
 refine AM [2001, 2002, 2003] (KE N ((Ac.mk p1 p2 p3 p4)) ((Ag.mk p5 p6 p7)) p0 v1 a1) U2 rfl (qm rfl (qx rfl (qx rfl (qz C8 rfl (qs AU rfl (qa rfl (Ad (Ab (Aa Ae rfl (qm rfl (CG rfl (qa rfl (Ad ?_)))))))))))))
 obtain rfl := sj h
 refine Al (sm [] [(4, .e (.one (.pure (.val (.bool ((!v1.2)))))))] [] rfl rfl) (AF ?_)
 exact ⟨⟨[_], ⟨.tmp _ _ rfl, trivial⟩, rfl⟩, trivial⟩
set_option maxRecDepth 10000 in
theorem FJ (N : Nat) (p0 : List Af) (p1 : Af → Option Bool) (r : Int) (h : BH N p0 p1 = some r) : AC Try.prog 114 [.e (.one (.pure (.sl (p0.map Az)))), .e (.one (.clo (Ig (L8 true Az) tB p1)))] [] (.e (.one (.pure (.val (.int .i64 r))))) := by
 unfold BH at h
 refine Ar (n := 19) (rs := [.tmp 4]) Try.func114 rfl rfl rfl (BM rfl) (BM rfl) rfl fun w0 S0 => ?_
 refine Ab (Aa Ae rfl (qa rfl (Ad (Ab (Ab (Aa Ae rfl (qm rfl (AS CE rfl (qm rfl (Ad ?_))))))))))
 refine AR (L := A2 N p0 p1) h (fun v1 => mk [(0, .e (.one (.pure (.sl (p0.map Az))))), (1, .e (.one (.clo (Ig (L8 true Az) tB p1)))), (7, .e (.one (.pure (.val (.int .i64 ((p0.length : Int))))))), (8, .e (.one (.pure (.val (.int .i64 v1)))))] []) (fun v2 => mk [] []) (fun _ _ => rfl) (sm [] _ _ rfl rfl) (fun j1 n1 v1 h => ?_) (fun v2 s h hs => ?_)
 ·unfold A2 at h
  refine Ab (Aa Ae rfl (A8 rfl (Ad (Ab ?_))))
  refine As rfl (fun c3 => ?_) (fun c3 => ?_)
  ·have h := Ap c3 h
   refine Av (Ab (AW (Ab (Aa Ae rfl (qm rfl (qa rfl (Ad (Ab (Aa Ae rfl (qm rfl (qm rfl (qm rfl ?_))))))))))))
   obtain ⟨v4, a4, b4, h⟩ := Am h
   refine qi CE C7 a4 (Ak b4) rfl (qK Gz C7 rfl ?_)
   obtain ⟨v5, a5, h⟩ := bind_some h
   refine KD (ds0 := [_]) (ar := (L8 true Az) v4) (.p rfl) rfl rfl ⟨rfl, trivial⟩ rfl rfl rfl (KK (Lb _ _ Mv) a5) ?_
   refine Ad ?_
   refine As rfl (fun c6 => ?_) (fun c6 => ?_)
   ·have h := Ap c6 h
    refine Ab (Aa Ae rfl (qm rfl (qa rfl (Ad ?_))))
    obtain rfl := sj h
    refine Al (sm [] [(4, .e (.one (.pure (.val (.int .i64 v1)))))] [] rfl rfl) (AF ?_)
    exact ⟨⟨[_], ⟨.tmp _ _ rfl, trivial⟩, rfl⟩, trivial⟩
   ·have h := Aq c6 h
    refine Av (Aa Ae rfl (Bn rfl (qm rfl (Ad ?_))))
    exact Aw _ h (sm [] _ _ rfl rfl)
  ·have h := Aq c3 h
   refine A6 ?_
   exact Aw _ h (sm [] _ _ rfl rfl)
 ·refine Al hs (Ab (Aa Ae rfl (qa rfl (Ad ?_))))
  obtain rfl := sj h
  refine Al (sm [] [(4, .e (.one (.pure (.val (.int .i64 ((-1)))))))] [] rfl rfl) (AF ?_)
  exact ⟨⟨[_], ⟨.tmp _ _ rfl, trivial⟩, rfl⟩, trivial⟩
set_option maxRecDepth 10000 in
theorem Fx (N : Nat) (p0 : List Af) (p1 : Af → Option Bool) (r : Nat × (List Af)) (h : BC N p0 p1 = some r) : Fz Try.prog 103 [.e (.one (.own 90000)), .e (.one (.clo (Ig (L8 true Az) tB p1)))] [(.vec 3 (p0.map Az), .vec 3 (r.2.map Az))] [] (.e (.one (.view 90000 3 0 r.1))) := by
 unfold BC at h
 refine Gj (n := 42) (rs := [.tmp 4]) Try.func103 rfl rfl rfl (BM rfl) (BM rfl) rfl rfl (BM rfl) rfl (BM rfl) fun w0 S0 GL => ?_
 refine Al (sm [] [(0, .e (.one (.own 90000))), (1, .e (.one (.clo (Ig (L8 true Az) tB p1))))] [(90000, .vec 3 (p0.map Az))] rfl rfl) (Ab (Aa Ae rfl (qa rfl (Ad (Ab (Aa Ae rfl (qm rfl (qm rfl ?_))))))))
 obtain ⟨v1, a1, h⟩ := bind_some h
 refine DZ [] [90000] (FJ N p0 p1 v1 a1) WV CD rfl (qa rfl (Ad (Ab (Ab (Aa Ae rfl (qm rfl (B0 rfl (Ad ?_))))))))
 refine As rfl (fun c2 => ?_) (fun c2 => ?_)
 ·have h := Ap c2 h
  refine Ab (Aa Ae rfl (qm rfl (qa rfl (Ad ?_))))
  obtain rfl := sj h
  refine Al ((Uk Az p0 4 90000 3 rfl rfl).trans (sm [] [(4, .e (.one (.view 90000 3 0 p0.length)))] [(90000, .vec 3 (p0.map Az))] rfl rfl)) (AF ?_)
  exact ⟨⟨[_], ⟨.tmp _ _ rfl, trivial⟩, rfl⟩, ⟨rfl, trivial⟩, trivial⟩
 ·have h := Aq c2 h
  refine Av (Ab (Ab (Aa Ae rfl (qm rfl (Bn rfl (qa rfl (Ad ?_)))))))
  refine AR (L := AV N p1) h (fun v3 => mk [(0, .e (.one (.own 90000))), (1, .e (.one (.clo (Ig (L8 true Az) tB p1)))), (5, .e (.one (.pure (.val (.int .i64 v3.2.1))))), (6, .e (.one (.pure (.val (.int .i64 v3.2.2)))))] [(90000, .vec 3 (v3.1.map Az))]) (fun v4 => mk [(0, .e (.one (.own 90000))), (5, .e (.one (.pure (.val (.int .i64 v4.2)))))] [(90000, .vec 3 (v4.1.map Az))]) (fun _ _ => rfl) (sm [] _ _ rfl rfl) (fun j3 n3 v3 h => ?_) (fun v4 s h hs => ?_)
  ·unfold AV at h
   refine Ab (Ab (Aa Ae rfl (qm rfl (qm rfl (Fg CE rfl (A8 rfl (Ad ?_)))))))
   refine As rfl (fun c5 => ?_) (fun c5 => ?_)
   ·have h := Ap c5 h
    refine Av ?_
    refine AX h (fun v6 => mk [(0, .e (.one (.own 90000))), (1, .e (.one (.clo (Ig (L8 true Az) tB p1)))), (5, .e (.one (.pure (.val (.int .i64 v6.2))))), (6, .e (.one (.pure (.val (.int .i64 v3.2.2)))))] [(90000, .vec 3 (v6.1.map Az))]) (fun j6 h => ?_) (fun v6 h => ?_)
    ·refine AW (Ab (Aa Ae rfl (qm rfl (qm rfl ?_))))
     obtain ⟨v7, a7, b7, h⟩ := Am h
     refine qI CE C7 a7 (Ak b7) rfl (qJ Gz C7 (Ak b7) rfl (qz GE rfl (qs C7 rfl (Ad (Ab (Aa Ae rfl (qm rfl (qL Gz C7 rfl ?_))))))))
     obtain ⟨v8, a8, h⟩ := bind_some h
     refine KD (ds0 := [_]) (ar := (L8 true Az) v7) (.p rfl) rfl rfl ⟨rfl, trivial⟩ rfl rfl rfl (KK (Lb _ _ Mv) a8) ?_
     refine CG rfl (Ad ?_)
     refine As rfl (fun c9 => ?_) (fun c9 => ?_)
     ·have h := Ap c9 h
      refine Ab (Aa Ae rfl (qm rfl (qm rfl (qL Gz C7 rfl ?_))))
      obtain ⟨v10, a10, b10, h⟩ := Am h
      refine qI CE C7 a10 (Ak b10) rfl ?_
      refine D8 rfl rfl rfl rfl (Ak b10) rfl C7 rfl (BM rfl) (DR Az v3.1 _ v7) ?_
      refine Ad (Aa Ae rfl (qm rfl (Bn rfl (qa rfl (Ad ?_)))))
      exact Aw _ h (sm [] _ _ rfl rfl)
     ·have h := Aq c9 h
      refine Av ?_
      exact Aw _ h (sm [] _ _ rfl rfl)
    ·refine Aa Ae rfl (qm rfl (Bn rfl (qa rfl (Ad ?_))))
     exact Aw _ h (sm [] _ _ rfl rfl)
   ·have h := Aq c5 h
    refine A6 ?_
    exact Aw _ h (sm [] _ _ rfl rfl)
  ·refine Al hs (Ab (Aa Ae rfl (qm rfl (qm rfl ?_))))
   obtain ⟨c11, h⟩ := AN h
   have w12 : ((v4.2).toNat) + ((v4.1.length - (v4.2).toNat)) ≤ v4.1.length := by have := c11.2.1; have := c11.2.2; omega
   refine K8 Az v4.1 (.p rfl) rfl (Jy Az _ _ v4.1) rfl CE C7 (.some _ _ _ _ c11.1) (.none _) ⟨rfl, trivial⟩ trivial c11.2.1 (by rw [Nat.zero_add]; exact c11.2.2) (Nat.zero_add _) rfl ?_
   have w13 : (Im v4.1 ((v4.2).toNat) (List.replicate ((v4.1.length - (v4.2).toNat)) ((Af.mk 0 0 0)))).length = v4.1.length := IN (by rw [List.length_replicate]; exact w12)
   refine Tg Az v4.1 ((Af.mk 0 0 0)) rfl rfl (Oa Az _ _ ((v4.2).toNat) ((v4.1.length - (v4.2).toNat)) v4.1 w12) rfl CE GE rfl rfl rfl rfl ?_
   refine Ad (Ab (Aa Ae rfl (qm rfl (qm rfl ?_))))
   obtain ⟨c14, h⟩ := AN h
   have w15 : 0 + ((v4.2).toNat) ≤ (Im v4.1 ((v4.2).toNat) (List.replicate ((v4.1.length - (v4.2).toNat)) ((Af.mk 0 0 0)))).length := by have := c14.2.1; have := c14.2.2; omega
   refine K8 Az (Im v4.1 ((v4.2).toNat) (List.replicate ((v4.1.length - (v4.2).toNat)) ((Af.mk 0 0 0)))) (.p rfl) rfl (Jy Az _ _ (Im v4.1 ((v4.2).toNat) (List.replicate ((v4.1.length - (v4.2).toNat)) ((Af.mk 0 0 0))))) rfl CE C7 (.none _) (.some _ _ _ _ c14.1) trivial ⟨rfl, trivial⟩ c14.2.1 (by rw [Nat.zero_add]; exact c14.2.2) (Nat.zero_add _) rfl ?_
   refine qa rfl (Ad ?_)
   obtain rfl := sj h
   refine Al (sm [] [(4, .e (.one (.view 90000 3 0 ((v4.2).toNat))))] [(90000, .vec 3 ((Im v4.1 ((v4.2).toNat) (List.replicate ((v4.1.length - (v4.2).toNat)) ((Af.mk 0 0 0)))).map Az))] rfl rfl) (AF ?_)
   exact ⟨⟨[_], ⟨.tmp _ _ rfl, trivial⟩, rfl⟩, ⟨rfl, trivial⟩, trivial⟩
set_option maxRecDepth 10000 in
theorem M2 (N : Nat) (p0 : Ac) (p1 : Ag) (r : (List Af) × Int) (h : E9 N p0 p1 = some r) : AC Try.prog 87 [.e (.agg [.pure (.sl (p0.fVersions.map Ah)), .pure (.sl (p0.fNow.map Ah)), .pure (.sl (p0.fTarget.map Ah)), .pure (.sl (p0.fTables.map Ai))]), .e (.agg [.pure (.sl (p1.fBase.map Ah)), .pure (.sl (p1.fNext.map Ah)), .pure (.sl (p1.fHeld.map Ba))])] [(3, r.1.map Az)] (.tup [.one (.own 0), .one (.pure (.val (.int .i64 r.2)))]) := by
 unfold E9 at h
 refine Ar (n := 17) (rs := [.tmp 4, .tmp 5]) Try.func87 rfl rfl rfl (BM rfl) (BM rfl) rfl fun w0 S0 => ?_
 refine Ab (Aa Ae rfl (qb rfl (qb rfl (qa rfl (qa rfl (Ad (Ab (Ab (Aa Ae rfl (qL DQ Di rfl (qL Bx AU rfl ?_)))))))))))
 obtain ⟨v1, a1, h⟩ := bind_some h
 refine AM [] (HY N p0 p1 v1 a1) T6 rfl (qa rfl (Ad (Ab (Aa Ae rfl (qm rfl (CB rfl (Ad ?_)))))))
 refine As rfl (fun c2 => ?_) (fun c2 => ?_)
 ·have h := Ap c2 h
  refine Ab (Aa Ae rfl (qm rfl (qa rfl (qa rfl (Ad ?_)))))
  obtain rfl := sj h
  refine Al ((Cj 4 2001 3 rfl rfl rfl).trans (sm [(1000, 2001)] [(4, .e (.one (.own 1000))), (5, .e (.one (.pure (.val (.int .i64 v1)))))] [(1000, .vec 3 ((([] : List Af)).map Az))] rfl rfl)) (AF ?_)
  exact ⟨⟨[_, _], ⟨.tmp _ _ rfl, ⟨.tmp _ _ rfl, trivial⟩⟩, rfl⟩, ⟨rfl, trivial⟩⟩
 ·have h := Aq c2 h
  refine Av (Ab (Aa Ae rfl (qL DQ Di rfl ?_)))
  obtain ⟨v3, a3, h⟩ := bind_some h
  refine AM [2002] (QV N p0 v3 a3) Xd rfl (DK (Lj 2 [.sl (p0.fVersions.map Ah), .sl (p0.fNow.map Ah), .sl (p0.fTarget.map Ah), .sl (p0.fTables.map Ai)] rfl rfl) (DK (Lj 3 [.sl (p1.fBase.map Ah), .sl (p1.fNext.map Ah), .sl (p1.fHeld.map Ba)] rfl rfl) ?_))
  refine Km (capD := [_, _]) (Ig (L8 true Az) tB ((fun (x : Af) => C5 N x p0.fVersions p0.fNow p0.fTarget p0.fTables p1.fBase p1.fNext p1.fHeld))) (.p rfl) WT rfl ⟨rfl, rfl, trivial⟩ rfl (fun ar t ht => by obtain ⟨x, r, rfl, hq, rfl⟩ := JQ ht; exact LF N x p0.fVersions p0.fNow p0.fTarget p0.fTables p1.fBase p1.fNext p1.fHeld r hq) ?_
  obtain ⟨v4, a4, h⟩ := bind_some h
  obtain ⟨c5, h⟩ := AN h
  have w6 : 0 + v4.1 ≤ v4.2.length := by rw [Nat.zero_add]; exact c5
  refine Ma (ds0 := [_, _]) [2002] [] [true] (Fx N v3 ((fun (x : Af) => C5 N x p0.fVersions p0.fNow p0.fTarget p0.fTables p1.fBase p1.fNext p1.fHeld)) v4 a4) (.p rfl) WQ rfl ⟨rfl, rfl, trivial⟩ rfl rfl (by decide) ⟨rfl, trivial⟩ rfl (H8 rfl) trivial ⟨(fun h => by cases h), trivial⟩ rfl rfl rfl ?_
  refine DK (Vl Az v4.2 16 2002 2003 3 v4.1 rfl rfl rfl rfl rfl c5) (qa rfl (qa rfl (Ad ?_)))
  obtain rfl := sj h
  refine Al (sm [(1000, 2003)] [(4, .e (.one (.own 1000))), (5, .e (.one (.pure (.val (.int .i64 0)))))] [(1000, .vec 3 ((v4.2.take v4.1).map Az))] rfl rfl) (AF ?_)
  exact ⟨⟨[_, _], ⟨.tmp _ _ rfl, ⟨.tmp _ _ rfl, trivial⟩⟩, rfl⟩, ⟨rfl, trivial⟩⟩
set_option maxRecDepth 10000 in
theorem On (N : Nat) (p0 : Af) (r : Bool) (h : zFS N p0 = some r) : AC Try.prog 100 [.e (.agg [.pure (.val (.int .i64 p0.fKind)), .pure (.val (.int .i64 p0.fIndex)), .pure (.val (.int .i64 p0.fVersion))])] [] (.e (.one (.pure (.val (.bool r))))) := by
 unfold zFS at h
 refine Ar (n := 27) (rs := [.tmp 2]) Try.func100 rfl rfl rfl (BM rfl) (BM rfl) rfl fun w0 S0 => ?_
 refine Ab (Aa Ae rfl (qb rfl (qa rfl (Ad (Ab ?_)))))
 refine AX h (fun v1 => mk [(1, .e (.one (.ptr 1 0))), (18, .e (.one (.pure (.val (.bool v1)))))] [(1, .box [.pure (.val (.int .i64 p0.fKind)), .pure (.val (.int .i64 p0.fIndex)), .pure (.val (.int .i64 p0.fVersion))])]) (fun j1 h => ?_) (fun v1 h => ?_)
 ·refine Aa Ae rfl (qf Ex rfl (ql Ch rfl (qf FV rfl (ql Ch rfl ?_))))
  refine V8 (.p rfl) rfl rfl ?_
  refine A8 rfl (qm rfl ?_)
  refine AI (t := 9) rfl (fun c2 => ?_) (fun c2 => ?_)
  ·have h := Ap c2 h
   refine qn rfl (qn rfl (qn rfl (qp rfl (qm rfl (qn rfl (qn rfl (qn rfl (qp rfl (Ad ?_)))))))))
   exact Aw _ h (sm [] _ _ rfl rfl)
  ·have h := Aq c2 h
   refine qf EP rfl (ql Ch rfl (A8 rfl (qp rfl (qm rfl ?_))))
   refine AI (t := 14) rfl (fun c3 => ?_) (fun c3 => ?_)
   ·have h := Ap c3 h
    refine qn rfl (qn rfl (qn rfl (qp rfl (Ad ?_))))
    exact Aw _ h (sm [] _ _ rfl rfl)
   ·have h := Aq c3 h
    refine qf EP rfl (ql Ch rfl (Gd rfl (qp rfl (Ad ?_))))
    exact Aw _ h (sm [] _ _ rfl rfl)
 ·refine As rfl (fun c4 => ?_) (fun c4 => ?_)
  ·have h := Ap c4 h
   refine Ab (Aa Ae rfl (qa rfl (Ad ?_)))
   obtain rfl := sj h
   refine Al (sm [] [(2, .e (.one (.pure (.val (.bool false)))))] [] rfl rfl) (AF ?_)
   exact ⟨⟨[_], ⟨.tmp _ _ rfl, trivial⟩, rfl⟩, trivial⟩
  ·have h := Aq c4 h
   refine Av ?_
   refine AX h (fun v5 => mk [(2, .e (.one (.pure (.val (.bool v5)))))] []) (fun j5 h => ?_) (fun v5 h => ?_)
   ·refine Aa Ae rfl (qf EP rfl (ql Ch rfl (B0 rfl (qm rfl ?_))))
    refine AI (t := 22) rfl (fun c6 => ?_) (fun c6 => ?_)
    ·have h := Ap c6 h
     refine qn rfl (qn rfl (qn rfl (qp rfl (qa rfl (Ad ?_)))))
     exact Aw _ h (sm [] _ _ rfl rfl)
    ·have h := Aq c6 h
     refine qf FV rfl (ql Ch rfl (B0 rfl (qp rfl (qa rfl (Ad ?_)))))
     exact Aw _ h (sm [] _ _ rfl rfl)
   ·obtain rfl := sj h
    refine Al (sm [] [(2, .e (.one (.pure (.val (.bool v5)))))] [] rfl rfl) (AF ?_)
    exact ⟨⟨[_], ⟨.tmp _ _ rfl, trivial⟩, rfl⟩, trivial⟩
set_option maxRecDepth 10000 in
theorem Nt (N : Nat) (p0 : Ac) (p1 : Af) (r : Bool) (h : Fq N p0 p1 = some r) : AC Try.prog 101 [.e (.agg [.pure (.sl (p0.fVersions.map Ah)), .pure (.sl (p0.fNow.map Ah)), .pure (.sl (p0.fTarget.map Ah)), .pure (.sl (p0.fTables.map Ai))]), .e (.agg [.pure (.val (.int .i64 p1.fKind)), .pure (.val (.int .i64 p1.fIndex)), .pure (.val (.int .i64 p1.fVersion))])] [] (.e (.one (.pure (.val (.bool r))))) := by
 unfold Fq at h
 refine Ar (n := 36) (rs := [.tmp 4]) Try.func101 rfl rfl rfl (BM rfl) (BM rfl) rfl fun w0 S0 => ?_
 refine Ab (Aa Ae rfl (qb rfl (qb rfl (qa rfl (Ad (Ab (Ab (Aa Ae rfl (qf EP rfl (ql Ch rfl (B0 rfl (Ad ?_))))))))))))
 refine As rfl (fun c1 => ?_) (fun c1 => ?_)
 ·have h := Ap c1 h
  refine Ab (Aa Ae rfl (qf Ex rfl (ql Ch rfl (qf CC rfl (ql Gl rfl (AS DT rfl (A8 rfl (qa rfl (Ad ?_)))))))))
  obtain rfl := sj h
  refine Al (sm [] [(4, .e (.one (.pure (.val (.bool ((decide (p1.fIndex < (p0.fTables.length : Int)))))))))] [] rfl rfl) (AF ?_)
  exact ⟨⟨[_], ⟨.tmp _ _ rfl, trivial⟩, rfl⟩, trivial⟩
 ·have h := Aq c1 h
  refine Av ?_
  refine AX h (fun v2 => mk [(4, .e (.one (.pure (.val (.bool v2)))))] []) (fun j2 h => ?_) (fun v2 h => ?_)
  ·refine Aa Ae rfl (qf Ex rfl (ql Ch rfl (qf Bs rfl (ql A9 rfl (AS AG rfl (A8 rfl (qm rfl ?_)))))))
   refine AI (t := 20) rfl (fun c3 => ?_) (fun c3 => ?_)
   ·have h := Ap c3 h
    refine qf EP rfl (ql Ch rfl (CB rfl (qm rfl ?_)))
    refine AI (t := 24) rfl (fun c4 => ?_) (fun c4 => ?_)
    ·have h := Ap c4 h
     refine qn rfl (qn rfl (qn rfl (qn rfl (qn rfl (qn rfl (qn rfl (qn rfl (qn rfl (qp rfl (qp rfl (qa rfl (A0 (by kernel_rfl) ?_))))))))))))
     exact Aw _ h (sm [] _ _ rfl rfl)
    ·have h := Aq c4 h
     refine qf FV rfl (ql Ch rfl (qf Bs rfl (ql A9 rfl (qf Ex rfl (ql Ch rfl ?_)))))
     obtain ⟨v5, a5, b5, h⟩ := Am h
     refine qi AG Dh a5 (Ak b5) rfl (qk Ch rfl (A8 rfl (qp rfl (qp rfl (qa rfl (A0 (by kernel_rfl) ?_))))))
     exact Aw _ h (sm [] _ _ rfl rfl)
   ·have h := Aq c3 h
    refine qn rfl (qn rfl (qn rfl (qn rfl (qu rfl (qu rfl (qu rfl (qu rfl (qu rfl (qu rfl (qu rfl (qu rfl (qu rfl (qn rfl (qp rfl (qa rfl (A0 (by kernel_rfl) ?_))))))))))))))))
    exact Aw _ h (sm [] _ _ rfl rfl)
  ·obtain rfl := sj h
   refine Al (sm [] [(4, .e (.one (.pure (.val (.bool v2)))))] [] rfl rfl) (AF ?_)
   exact ⟨⟨[_], ⟨.tmp _ _ rfl, trivial⟩, rfl⟩, trivial⟩
set_option maxRecDepth 10000 in
theorem Oy (N : Nat) (p0 : Ac) (p1 : Ag) (p2 : Af) (r : Ag × Int) (h : FQ N p0 p1 p2 = some r) : AC Try.prog 78 [.e (.agg [.pure (.sl (p0.fVersions.map Ah)), .pure (.sl (p0.fNow.map Ah)), .pure (.sl (p0.fTarget.map Ah)), .pure (.sl (p0.fTables.map Ai))]), .e (.agg [.pure (.sl (p1.fBase.map Ah)), .pure (.sl (p1.fNext.map Ah)), .pure (.sl (p1.fHeld.map Ba))]), .e (.agg [.pure (.val (.int .i64 p2.fKind)), .pure (.val (.int .i64 p2.fIndex)), .pure (.val (.int .i64 p2.fVersion))])] [(1, r.1.fBase.map Ah), (1, r.1.fNext.map Ah), (1, r.1.fHeld.map Ba)] (.tup [.agg [.own 0, .own 1, .own 2], .one (.pure (.val (.int .i64 r.2)))]) := by
 unfold FQ at h
 refine Ar (n := 32) (rs := [.cell 6 43, .tmp 7]) Try.func78 rfl rfl rfl (BM rfl) (BM rfl) rfl fun w0 S0 => ?_
 refine Ab (Aa Ae rfl (qb rfl (qb rfl (qb rfl (qz C8 rfl (qa rfl (Ad (Ab (AW (Ab (Aa Ae rfl (qL Gz C7 rfl ?_))))))))))))
 obtain ⟨v1, a1, h⟩ := bind_some h
 refine AM [] (On N p2 v1 a1) Wu rfl (CG rfl (qa rfl (Ad ?_)))
 refine As rfl (fun c2 => ?_) (fun c2 => ?_)
 ·have h := Ap c2 h
  refine Ab (Aa Ae rfl (A4 C8 GA rfl (qs AU rfl (qa rfl (Ad ?_)))))
  obtain rfl := sj h
  refine Al ((AD 6 0 2001 1 _ rfl rfl rfl rfl).trans ((AD 6 1 2002 1 _ rfl rfl rfl rfl).trans ((AD 6 2 2003 1 _ rfl rfl rfl rfl).trans (sm [(1000, 2001), (1001, 2002), (1002, 2003)] [(6, .e (.one (.ptr 6 0))), (7, .e (.one (.pure (.val (.int .i64 1)))))] [(6, .box [.own 1000, .own 1001, .own 1002]), (1000, .vec 1 ((([] : List Int)).map Ah)), (1001, .vec 1 ((([] : List Int)).map Ah)), (1002, .vec 1 ((([] : List Int)).map Ba))] rfl rfl)))) (AF ?_)
  exact ⟨⟨[_, _], ⟨.cellN _ _ _ _ _ _ _ rfl rfl Bx AU rfl rfl (Hc rfl), ⟨.tmp _ _ rfl, trivial⟩⟩, rfl⟩, ⟨rfl, rfl, rfl, trivial⟩⟩
 ·have h := Aq c2 h
  refine Ab (Aa Ae rfl (qL DQ Di rfl (qL Gz C7 rfl ?_)))
  obtain ⟨v3, a3, h⟩ := bind_some h
  refine AM [] (Nt N p0 p2 v3 a3) WX rfl (CG rfl (qa rfl (Ad ?_)))
  refine As rfl (fun c4 => ?_) (fun c4 => ?_)
  ·have h := Ap c4 h
   refine Ab (Aa Ae rfl (A4 C8 GA rfl (qs AU rfl (qa rfl (Ad ?_)))))
   obtain rfl := sj h
   refine Al ((AD 6 0 2004 1 _ rfl rfl rfl rfl).trans ((AD 6 1 2005 1 _ rfl rfl rfl rfl).trans ((AD 6 2 2006 1 _ rfl rfl rfl rfl).trans (sm [(1000, 2004), (1001, 2005), (1002, 2006)] [(6, .e (.one (.ptr 6 0))), (7, .e (.one (.pure (.val (.int .i64 4)))))] [(6, .box [.own 1000, .own 1001, .own 1002]), (1000, .vec 1 ((([] : List Int)).map Ah)), (1001, .vec 1 ((([] : List Int)).map Ah)), (1002, .vec 1 ((([] : List Int)).map Ba))] rfl rfl)))) (AF ?_)
   exact ⟨⟨[_, _], ⟨.cellN _ _ _ _ _ _ _ rfl rfl Bx AU rfl rfl (Hc rfl), ⟨.tmp _ _ rfl, trivial⟩⟩, rfl⟩, ⟨rfl, rfl, rfl, trivial⟩⟩
  ·have h := Aq c4 h
   refine Av (Ab (Aa Ae rfl (qL DQ Di rfl (qL Bx AU rfl (qL Gz C7 rfl ?_)))))
   obtain ⟨v5, a5, h⟩ := bind_some h
   refine AM [2007, 2008, 2009] (KE N p0 p1 p2 v5 a5) U2 rfl (qm rfl (qx rfl (qx rfl (qz C8 rfl (qs AU rfl (qa rfl (Ad (Ab (Ab (Aa Ae rfl (qm rfl (CG rfl (Ad ?_)))))))))))))
   refine As rfl (fun c6 => ?_) (fun c6 => ?_)
   ·have h := Ap c6 h
    refine Ab (Aa Ae rfl (A4 C8 GA rfl (qs AU rfl (qa rfl (Ad ?_)))))
    obtain rfl := sj h
    refine Al ((AD 6 0 2010 1 _ rfl rfl rfl rfl).trans ((AD 6 1 2011 1 _ rfl rfl rfl rfl).trans ((AD 6 2 2012 1 _ rfl rfl rfl rfl).trans (sm [(1000, 2010), (1001, 2011), (1002, 2012)] [(6, .e (.one (.ptr 6 0))), (7, .e (.one (.pure (.val (.int .i64 11)))))] [(6, .box [.own 1000, .own 1001, .own 1002]), (1000, .vec 1 ((([] : List Int)).map Ah)), (1001, .vec 1 ((([] : List Int)).map Ah)), (1002, .vec 1 ((([] : List Int)).map Ba))] rfl rfl)))) (AF ?_)
    exact ⟨⟨[_, _], ⟨.cellN _ _ _ _ _ _ _ rfl rfl Bx AU rfl rfl (Hc rfl), ⟨.tmp _ _ rfl, trivial⟩⟩, rfl⟩, ⟨rfl, rfl, rfl, trivial⟩⟩
   ·have h := Aq c6 h
    refine Av (Ab (Aa Ae rfl (qL Bx AU rfl (qs AU rfl (qa rfl (Ad ?_))))))
    obtain rfl := sj h
    refine Al (sm [(1000, 2007), (1001, 2008), (1002, 2009)] [(6, .e (.one (.ptr 6 0))), (7, .e (.one (.pure (.val (.int .i64 0)))))] [(6, .box [.own 1000, .own 1001, .own 1002]), (1000, .vec 1 (v5.1.fBase.map Ah)), (1001, .vec 1 (v5.1.fNext.map Ah)), (1002, .vec 1 (v5.1.fHeld.map Ba))] rfl rfl) (AF ?_)
    exact ⟨⟨[_, _], ⟨.cellN _ _ _ _ _ _ _ rfl rfl Bx AU rfl rfl (Hc rfl), ⟨.tmp _ _ rfl, trivial⟩⟩, rfl⟩, ⟨rfl, rfl, rfl, trivial⟩⟩
set_option maxRecDepth 10000 in
theorem Lm (N : Nat) (p0 : Ac) (p1 : Ag) (p2 : Af) (r : Ag × Int) (h : Fb N p0 p1 p2 = some r) : AC Try.prog 39 [.e (.agg [.pure (.sl (p0.fVersions.map Ah)), .pure (.sl (p0.fNow.map Ah)), .pure (.sl (p0.fTarget.map Ah)), .pure (.sl (p0.fTables.map Ai))]), .e (.agg [.pure (.sl (p1.fBase.map Ah)), .pure (.sl (p1.fNext.map Ah)), .pure (.sl (p1.fHeld.map Ba))]), .e (.agg [.pure (.val (.int .i64 p2.fKind)), .pure (.val (.int .i64 p2.fIndex)), .pure (.val (.int .i64 p2.fVersion))])] [(1, r.1.fBase.map Ah), (1, r.1.fNext.map Ah), (1, r.1.fHeld.map Ba)] (.tup [.agg [.own 0, .own 1, .own 2], .one (.pure (.val (.int .i64 r.2)))]) := by
 unfold Fb at h
 refine Ar (n := 22) (rs := [.cell 6 43, .tmp 7]) Try.func39 rfl rfl rfl (BM rfl) (BM rfl) rfl fun w0 S0 => ?_
 refine Ab (Aa Ae rfl (qb rfl (qb rfl (qb rfl (qz C8 rfl (qa rfl (Ad (Ab (Ab (Aa Ae rfl (qL DQ Di rfl (qL Bx AU rfl ?_))))))))))))
 obtain ⟨v1, a1, h⟩ := bind_some h
 refine AM [] (HY N p0 p1 v1 a1) T6 rfl (qa rfl (Ad (Ab (Aa Ae rfl (qm rfl (CB rfl (Ad ?_)))))))
 refine As rfl (fun c2 => ?_) (fun c2 => ?_)
 ·have h := Ap c2 h
  refine Ab (Aa Ae rfl (A4 C8 GA rfl (qm rfl (qs AU rfl (qa rfl (Ad ?_))))))
  obtain rfl := sj h
  refine Al ((AD 6 0 2001 1 _ rfl rfl rfl rfl).trans ((AD 6 1 2002 1 _ rfl rfl rfl rfl).trans ((AD 6 2 2003 1 _ rfl rfl rfl rfl).trans (sm [(1000, 2001), (1001, 2002), (1002, 2003)] [(6, .e (.one (.ptr 6 0))), (7, .e (.one (.pure (.val (.int .i64 v1)))))] [(6, .box [.own 1000, .own 1001, .own 1002]), (1000, .vec 1 ((([] : List Int)).map Ah)), (1001, .vec 1 ((([] : List Int)).map Ah)), (1002, .vec 1 ((([] : List Int)).map Ba))] rfl rfl)))) (AF ?_)
  exact ⟨⟨[_, _], ⟨.cellN _ _ _ _ _ _ _ rfl rfl Bx AU rfl rfl (Hc rfl), ⟨.tmp _ _ rfl, trivial⟩⟩, rfl⟩, ⟨rfl, rfl, rfl, trivial⟩⟩
 ·have h := Aq c2 h
  refine Av (Ab (Aa Ae rfl (qL DQ Di rfl (qL Bx AU rfl (qL Gz C7 rfl ?_)))))
  obtain ⟨v3, a3, h⟩ := bind_some h
  refine AM [2004, 2005, 2006] (Oy N p0 p1 p2 v3 a3) XM rfl (qx rfl (qx rfl (qs AU rfl (qa rfl (Ad ?_)))))
  obtain rfl := sj h
  refine Al (sm [(1000, 2004), (1001, 2005), (1002, 2006)] [(6, .e (.one (.ptr 6 0))), (7, .e (.one (.pure (.val (.int .i64 v3.2)))))] [(6, .box [.own 1000, .own 1001, .own 1002]), (1000, .vec 1 (v3.1.fBase.map Ah)), (1001, .vec 1 (v3.1.fNext.map Ah)), (1002, .vec 1 (v3.1.fHeld.map Ba))] rfl rfl) (AF ?_)
  exact ⟨⟨[_, _], ⟨.cellN _ _ _ _ _ _ _ rfl rfl Bx AU rfl rfl (Hc rfl), ⟨.tmp _ _ rfl, trivial⟩⟩, rfl⟩, ⟨rfl, rfl, rfl, trivial⟩⟩
set_option maxRecDepth 10000 in
theorem Nm (N : Nat) (p0 : Ac) (p1 : Ag) (r : (List AB) × Int) (h : Fr N p0 p1 = some r) : AC Try.prog 55 [.e (.agg [.pure (.sl (p0.fVersions.map Ah)), .pure (.sl (p0.fNow.map Ah)), .pure (.sl (p0.fTarget.map Ah)), .pure (.sl (p0.fTables.map Ai))]), .e (.agg [.pure (.sl (p1.fBase.map Ah)), .pure (.sl (p1.fNext.map Ah)), .pure (.sl (p1.fHeld.map Ba))])] [] (.tup [.one (.pure (.sl (r.1.map Bc))), .one (.pure (.val (.int .i64 r.2)))]) := by
 unfold Fr at h
 refine Ar (n := 119) (rs := [.tmp 4, .tmp 5]) Try.func55 rfl rfl rfl (BM rfl) (BM rfl) rfl fun w0 S0 => ?_
 refine Ab (Aa Ae rfl (qb rfl (qb rfl (qa rfl (qa rfl (Ad (Ab (Aa Ae rfl (qL Bx AU rfl (A4 Pr UP rfl ?_))))))))))
 refine Ka [(0, .tmp 21, _)] (.p rfl) rfl ⟨rfl, trivial⟩ rfl Hh I2 Pr rfl rfl (BM rfl) rfl rfl ?_
 refine DK (NR 22 8 [.s, .s, .s, .s, .s, .s, .s, .x 1 []] _ ((([(AB.mk p1 ((-1)) ((Af.mk 0 0 0)) (([] : List Int)))] : List AB)).map Bc) rfl rfl) (qa rfl (Ad (Ab (Aa Ae rfl ?_))))
 refine R2 (.p rfl) rfl ?_
 refine qL Bx AU rfl ?_
 obtain ⟨v1, a1, h⟩ := bind_some h
 refine AM [] (M0 N p1 v1 a1) W2 rfl ?_
 refine Ps (kv := Value.string) (vt := NA) (m := ([] : List (ByteArray × Int))) (k := v1) (v := 0) rfl (.inr rfl) rfl rfl rfl rfl (Lo O0 VF) rfl ?_
 refine qm rfl (qa rfl (Ad (Ab (Ab (Aa Ae rfl (qa rfl (Ad ?_)))))))
 refine AR (L := C6 N p0) h (fun v2 => mk [(2, .e (.one (.ptr 2 0))), (6, .e (.one (.own 2001))), (7, .e (.one (.mref 2002))), (8, .e (.one (.pure (.val (.int .i64 v2.2.2)))))] [(2, .box [.pure (.sl (p0.fVersions.map Ah)), .pure (.sl (p0.fNow.map Ah)), .pure (.sl (p0.fTarget.map Ah)), .pure (.sl (p0.fTables.map Ai))]), (2001, .dvec 8 [.s, .s, .s, .s, .s, .s, .s, .x 1 []] (v2.1.map Bc)), (2002, .mp (HM Value.string NA v2.2.1))]) (fun v3 => mk [(6, .e (.one (.own 2003)))] [(2003, .dvec 8 [.s, .s, .s, .s, .s, .s, .s, .x 1 []] (v3.map Bc))]) (fun _ _ => rfl) (sm [(2001, 22), (2002, 23)] _ _ rfl rfl) (fun j2 n2 v2 h => ?_) (fun v3 s h hs => ?_)
 ·unfold C6 at h
  refine Ab (Ab (Aa Ae rfl (qm rfl (qm rfl ?_))))
  refine Qu (.p rfl) rfl rfl (JS Bc v2.1 _ _) Hh ?_
  refine A8 rfl (Ad ?_)
  refine As rfl (fun c4 => ?_) (fun c4 => ?_)
  ·have h := Ap c4 h
   refine Av (Ab (AW (Ab (Aa Ae rfl (qL DQ Di rfl (qm rfl (qm rfl ?_)))))))
   obtain ⟨v5, a5, b5, h⟩ := Am h
   refine KV (.p rfl) rfl rfl rfl (JS Bc v2.1 _ _) Hh I2 a5 (AJ b5) ?_
   refine qh MU rfl ?_
   refine PG (.p rfl) rfl Bx AU rfl (Ak b5) rfl rfl (by decide) rfl ?_
   obtain ⟨v6, a6, h⟩ := bind_some h
   refine AM [2004] (M2 N p0 ((Ag.mk v5.fM.fBase v5.fM.fNext v5.fM.fHeld)) v6 a6) XB rfl (qm rfl (qx rfl (qx rfl (qa rfl (qa rfl (A0 (by kernel_rfl) (Ab (Ab (Aa Ae rfl (qm rfl (CB rfl (Ad ?_))))))))))))
   refine As rfl (fun c7 => ?_) (fun c7 => ?_)
   ·have h := Ap c7 h
    refine Ab (Aa Ae rfl (qm rfl (qa rfl (qa rfl (Ad ?_)))))
    obtain rfl := sj h
    refine Al ((Nc 4 _ rfl).trans (sm [] [(4, .e (.one (.pure (.sl ((([] : List AB)).map Bc))))), (5, .e (.one (.pure (.val (.int .i64 v6.2)))))] [] rfl rfl)) (AF ?_)
    exact ⟨⟨[_, _], ⟨.tmp _ _ rfl, ⟨.tmp _ _ rfl, trivial⟩⟩, rfl⟩, trivial⟩
   ·have h := Aq c7 h
    refine Av (Ab (Aa Ae rfl (qm rfl (Fg CE rfl (qm rfl (Ad ?_))))))
    refine AR (L := B8 N p0 v2 v6) h (fun v8 => mk [(2, .e (.one (.ptr 2 0))), (6, .e (.one (.own 2005))), (7, .e (.one (.mref 2006))), (8, .e (.one (.pure (.val (.int .i64 v2.2.2))))), (46, .e (.one (.own 2007))), (47, .e (.one (.pure (.val (.int .i64 ((v6.1.length : Int))))))), (48, .e (.one (.pure (.val (.int .i64 v8.2.2)))))] [(2, .box [.pure (.sl (p0.fVersions.map Ah)), .pure (.sl (p0.fNow.map Ah)), .pure (.sl (p0.fTarget.map Ah)), .pure (.sl (p0.fTables.map Ai))]), (2005, .dvec 8 [.s, .s, .s, .s, .s, .s, .s, .x 1 []] (v8.1.map Bc)), (2006, .mp (HM Value.string NA v8.2.1)), (2007, .vec 3 (v6.1.map Az))]) (fun v9 => mk [(2, .e (.one (.ptr 2 0))), (6, .e (.one (.own 2008))), (7, .e (.one (.mref 2009))), (8, .e (.one (.pure (.val (.int .i64 v2.2.2)))))] [(2, .box [.pure (.sl (p0.fVersions.map Ah)), .pure (.sl (p0.fNow.map Ah)), .pure (.sl (p0.fTarget.map Ah)), .pure (.sl (p0.fTables.map Ai))]), (2008, .dvec 8 [.s, .s, .s, .s, .s, .s, .s, .x 1 []] (v9.1.map Bc)), (2009, .mp (HM Value.string NA v9.2))]) (fun _ _ => rfl) (sm [(2005, 2001), (2006, 2002), (2007, 2004)] _ _ rfl rfl) (fun j8 n8 v8 h => ?_) (fun v9 s h hs => ?_)
    ·unfold B8 at h
     refine Ab (Aa Ae rfl (A8 rfl (Ad (Ab ?_))))
     refine As rfl (fun c10 => ?_) (fun c10 => ?_)
     ·have h := Ap c10 h
      refine Av (Ab (AW (Ab (Aa Ae rfl ?_))))
      obtain ⟨v11, a11, b11, h⟩ := Am h
      refine qI CE C7 a11 (Ak b11) rfl (qJ Gz C7 (Ak b11) rfl (qz GE rfl (qs C7 rfl (Ad (Ab (Aa Ae rfl (qL DQ Di rfl (qm rfl (qm rfl ?_)))))))))
      obtain ⟨v12, a12, b12, h⟩ := Am h
      refine KV (.p rfl) rfl rfl rfl (JS Bc v8.1 _ _) Hh I2 a12 (AJ b12) ?_
      refine qh MU rfl ?_
      refine PG (.p rfl) rfl Bx AU rfl (Ak b12) rfl rfl (by decide) rfl ?_
      refine qL Gz C7 rfl ?_
      obtain ⟨v13, a13, h⟩ := bind_some h
      refine AM [2010, 2011, 2012] (Lm N p0 ((Ag.mk v12.fM.fBase v12.fM.fNext v12.fM.fHeld)) v11 v13 a13) Xa rfl (qm rfl (qx rfl (qx rfl (qz C8 rfl (qs AU rfl (qa rfl (A0 (by kernel_rfl) (Ab (Ab (Aa Ae rfl (qm rfl (CB rfl (Ad ?_)))))))))))))
      refine As rfl (fun c14 => ?_) (fun c14 => ?_)
      ·have h := Ap c14 h
       refine Ab (Aa Ae rfl (qm rfl (qa rfl (qa rfl (Ad ?_)))))
       obtain rfl := sj h
       refine Al ((Nc 4 _ rfl).trans (sm [] [(4, .e (.one (.pure (.sl ((([] : List AB)).map Bc))))), (5, .e (.one (.pure (.val (.int .i64 v13.2)))))] [] rfl rfl)) (AF ?_)
       exact ⟨⟨[_, _], ⟨.tmp _ _ rfl, ⟨.tmp _ _ rfl, trivial⟩⟩, rfl⟩, trivial⟩
      ·have h := Aq c14 h
       refine Av (Ab (Aa Ae rfl (qL Bx AU rfl ?_)))
       obtain ⟨v15, a15, h⟩ := bind_some h
       refine DZ [] [2010, 2011, 2012] (M0 N v13.1 v15 a15) W2 CD rfl (qa rfl (Ad (Ab (Aa Ae rfl (qm rfl (qm rfl ?_))))))
       refine Tl (kv := Value.string) (vt := NA) (m := v8.2.1) (dv := 0) (.p rfl) rfl rfl rfl (Lo O0 VF) (by rw [O0]; rfl) Kd rfl rfl rfl ?_
       refine qm rfl (qx rfl (qx rfl (qa rfl (qa rfl (Ad ?_)))))
       refine AX h (fun v16 => mk [(2, .e (.one (.ptr 2 0))), (6, .e (.one (.own 2013))), (7, .e (.one (.mref 2014))), (8, .e (.one (.pure (.val (.int .i64 v2.2.2))))), (16, .e (.one (.pure (.val (.int .i64 v16.2.2))))), (46, .e (.one (.own 2015))), (47, .e (.one (.pure (.val (.int .i64 ((v6.1.length : Int))))))), (48, .e (.one (.pure (.val (.int .i64 v8.2.2)))))] [(2, .box [.pure (.sl (p0.fVersions.map Ah)), .pure (.sl (p0.fNow.map Ah)), .pure (.sl (p0.fTarget.map Ah)), .pure (.sl (p0.fTables.map Ai))]), (2013, .dvec 8 [.s, .s, .s, .s, .s, .s, .s, .x 1 []] (v16.1.map Bc)), (2014, .mp (HM Value.string NA v16.2.1)), (2015, .vec 3 (v6.1.map Az))]) (fun j16 h => ?_) (fun v16 h => ?_)
       ·refine Ab (Aa Ae rfl (qm rfl (CG rfl (Ad ?_))))
        refine As rfl (fun c17 => ?_) (fun c17 => ?_)
        ·have h := Ap c17 h
         refine AX h (fun v18 => mk [(2, .e (.one (.ptr 2 0))), (6, .e (.one (.own 2016))), (7, .e (.one (.mref 2017))), (8, .e (.one (.pure (.val (.int .i64 v2.2.2))))), (15, .e (.one (.pure (.val (.string v15))))), (16, .e (.one (.pure (.val (.int .i64 v18.2))))), (46, .e (.one (.own 2018))), (47, .e (.one (.pure (.val (.int .i64 ((v6.1.length : Int))))))), (48, .e (.one (.pure (.val (.int .i64 v8.2.2)))))] [(2, .box [.pure (.sl (p0.fVersions.map Ah)), .pure (.sl (p0.fNow.map Ah)), .pure (.sl (p0.fTarget.map Ah)), .pure (.sl (p0.fTables.map Ai))]), (2016, .dvec 8 [.s, .s, .s, .s, .s, .s, .s, .x 1 []] (v18.1.map Bc)), (2017, .mp (HM Value.string NA v8.2.1)), (2018, .vec 3 (v6.1.map Az))]) (fun j18 h => ?_) (fun v18 h => ?_)
         ·refine Ab (Aa Ae rfl (qL DQ Di rfl (qL Bx AU rfl ?_)))
          obtain ⟨v19, a19, h⟩ := bind_some h
          refine DZ [] [2010, 2011, 2012] (K2 N p0 v13.1 v19 a19) WH CD rfl (qm rfl (qx rfl (qx rfl (qa rfl (qa rfl (Ad ?_))))))
          refine AX h (fun v20 => mk [(2, .e (.one (.ptr 2 0))), (6, .e (.one (.own 2022))), (7, .e (.one (.mref 2023))), (8, .e (.one (.pure (.val (.int .i64 v2.2.2))))), (12, .e (.one (.ptr 12 0))), (13, .e (.one (.ptr 13 0))), (15, .e (.one (.pure (.val (.string v15))))), (46, .e (.one (.own 2024))), (47, .e (.one (.pure (.val (.int .i64 ((v6.1.length : Int))))))), (48, .e (.one (.pure (.val (.int .i64 v8.2.2))))), (87, .e (.one (.pure (.val (.bool v20)))))] [(2, .box [.pure (.sl (p0.fVersions.map Ah)), .pure (.sl (p0.fNow.map Ah)), .pure (.sl (p0.fTarget.map Ah)), .pure (.sl (p0.fTables.map Ai))]), (12, .box [.pure (.val (.int .i64 v11.fKind)), .pure (.val (.int .i64 v11.fIndex)), .pure (.val (.int .i64 v11.fVersion))]), (13, .box [.own 2019, .own 2020, .own 2021]), (2019, .vec 1 (v13.1.fBase.map Ah)), (2020, .vec 1 (v13.1.fNext.map Ah)), (2021, .vec 1 (v13.1.fHeld.map Ba)), (2022, .dvec 8 [.s, .s, .s, .s, .s, .s, .s, .x 1 []] (v8.1.map Bc)), (2023, .mp (HM Value.string NA v8.2.1)), (2024, .vec 3 (v6.1.map Az))]) (fun j20 h => ?_) (fun v20 h => ?_)
          ·refine Aa Ae rfl (qm rfl (CB rfl (qm rfl ?_)))
           refine AI (t := 84) rfl (fun c21 => ?_) (fun c21 => ?_)
           ·have h := Ap c21 h
            refine qn rfl (qn rfl (qp rfl (Ad ?_)))
            exact Aw _ h (sm [(2019, 2010), (2020, 2011), (2021, 2012), (2022, 2005), (2023, 2006), (2024, 2007)] _ _ rfl rfl)
           ·have h := Aq c21 h
            refine qm rfl (CG rfl (qp rfl (Ad ?_)))
            exact Aw _ h (sm [(2019, 2010), (2020, 2011), (2021, 2012), (2022, 2005), (2023, 2006), (2024, 2007)] _ _ rfl rfl)
          ·refine As rfl (fun c22 => ?_) (fun c22 => ?_)
           ·have h := Ap c22 h
            refine Aa Ae rfl (qa rfl (Ad ?_))
            exact Aw _ h (sm [(2016, 2022), (2017, 2023), (2018, 2024)] _ _ rfl rfl)
           ·have h := Aq c22 h
            refine Ab (Aa Ae rfl (qm rfl ?_))
            refine Qu (.p rfl) rfl rfl (JS Bc v8.1 _ _) Hh ?_
            refine qa rfl (Ad (Aa Ae rfl (qm rfl (qL Bx AU rfl (qm rfl (qL Gz C7 rfl (A4 Pr UP rfl (DK (BL 2019 _ _ rfl rfl) (DK (BL 2020 _ _ rfl rfl) (DK (BL 2021 _ _ rfl rfl) ?_))))))))))
            refine Ka [(0, .tmp 94, _)] (.p rfl) rfl ⟨rfl, trivial⟩ rfl Hh I2 Pr rfl rfl (BM rfl) rfl rfl ?_
            refine DK (NR 95 8 [.s, .s, .s, .s, .s, .s, .s, .x 1 []] _ ((([(AB.mk v13.1 v2.2.2 v11 (([] : List Int)))] : List AB)).map Bc) rfl rfl) ?_
            obtain ⟨c23, h⟩ := AN h
            refine R3 (.p rfl) rfl rfl rfl rfl rfl (by decide) Hh Hh I2 VD (BM rfl) Pr rfl (Ub (f := Bc) (g := Bc) (xs := v8.1) (ys := (([(AB.mk v13.1 v2.2.2 v11 (([] : List Int)))] : List AB))) c23) (TZ Bc v8.1 (([(AB.mk v13.1 v2.2.2 v11 (([] : List Int)))] : List AB))) rfl rfl ?_
            refine qa rfl (Ad ?_)
            exact Aw _ h (sm [(2016, 96), (2017, 2023), (2018, 2024)] _ _ rfl rfl)
         ·refine Aa Ae rfl (qm rfl (qm rfl (qm rfl ?_)))
          refine Ps (kv := Value.string) (vt := NA) (m := v8.2.1) (k := v15) (v := v18.2) rfl (.inl rfl) rfl rfl rfl rfl (Lo O0 VF) rfl ?_
          refine Ad ?_
          exact Aw _ h (sm [(2013, 2016), (2014, 2017), (2015, 2018)] _ _ rfl rfl)
        ·have h := Aq c17 h
         refine Av ?_
         exact Aw _ h (sm [(2013, 2005), (2014, 2006), (2015, 2007)] _ _ rfl rfl)
       ·refine AX h (fun v24 => mk [(2, .e (.one (.ptr 2 0))), (6, .e (.one (.own 2025))), (7, .e (.one (.mref 2026))), (8, .e (.one (.pure (.val (.int .i64 v2.2.2))))), (46, .e (.one (.own 2027))), (47, .e (.one (.pure (.val (.int .i64 ((v6.1.length : Int))))))), (48, .e (.one (.pure (.val (.int .i64 v8.2.2)))))] [(2, .box [.pure (.sl (p0.fVersions.map Ah)), .pure (.sl (p0.fNow.map Ah)), .pure (.sl (p0.fTarget.map Ah)), .pure (.sl (p0.fTables.map Ai))]), (2025, .dvec 8 [.s, .s, .s, .s, .s, .s, .s, .x 1 []] (v24.map Bc)), (2026, .mp (HM Value.string NA v16.2.1)), (2027, .vec 3 (v6.1.map Az))]) (fun j24 h => ?_) (fun v24 h => ?_)
        ·refine Ab (Aa Ae rfl (qm rfl (EO rfl (Ad ?_))))
         refine As rfl (fun c25 => ?_) (fun c25 => ?_)
         ·have h := Ap c25 h
          refine Aa Ae rfl (qm rfl (qm rfl (qm rfl (qm rfl ?_))))
          obtain ⟨v26, a26, b26, h⟩ := Am h
          refine KV (.p rfl) rfl rfl rfl (JS Bc v16.1 _ _) Hh I2 a26 (AJ b26) ?_
          refine qh Qj rfl ?_
          refine VG (.p rfl) rfl A9 rfl (Ak b26) rfl rfl rfl rfl ?_
          refine qm rfl (En AG Dh Kd rfl ?_)
          obtain ⟨c27, h⟩ := AN h
          refine DI (f := Ah) AG AG Dh KH Kd c27 rfl ?_
          obtain ⟨v28, a28, b28, h⟩ := Am h
          refine KV (.p rfl) rfl rfl rfl (VL Bc v16.1 _ _ _ _ _) Hh I2 a28 (AJ b28) ?_
          refine qh Qj rfl ?_
          refine SQ rfl rfl rfl rfl (rows2 := (v26.fNext ++ (([v16.2.2] : List Int))).map Ah) (cols2 := []) rfl rfl (Ak b28) (by decide) RI rfl rfl (DR Bc v16.1 _ ((AB.mk ((Ag.mk v28.fM.fBase v28.fM.fNext v28.fM.fHeld)) v28.fFrom ((Af.mk v28.fBy.fKind v28.fBy.fIndex v28.fBy.fVersion)) (v26.fNext ++ (([v16.2.2] : List Int)))))) ?_
          refine Ad ?_
          exact Aw _ h (sm [(2025, 2013), (2026, 2014), (2027, 2015)] _ _ rfl rfl)
         ·have h := Aq c25 h
          refine Av ?_
          exact Aw _ h (sm [(2025, 2013), (2026, 2014), (2027, 2015)] _ _ rfl rfl)
        ·refine Ab (Aa Ae rfl (qm rfl ?_))
         refine Qu (.p rfl) rfl rfl (JS Bc v24 _ _) Hh ?_
         refine Gd rfl (Ad ?_)
         refine As rfl (fun c29 => ?_) (fun c29 => ?_)
         ·have h := Ap c29 h
          refine Ab (Aa Ae rfl (qa rfl (qa rfl (Ad ?_))))
          obtain rfl := sj h
          refine Al ((Nc 4 _ rfl).trans (sm [] [(4, .e (.one (.pure (.sl ((([] : List AB)).map Bc))))), (5, .e (.one (.pure (.val (.int .i64 3)))))] [] rfl rfl)) (AF ?_)
          exact ⟨⟨[_, _], ⟨.tmp _ _ rfl, ⟨.tmp _ _ rfl, trivial⟩⟩, rfl⟩, trivial⟩
         ·have h := Aq c29 h
          refine Av (Aa Ae rfl (Bn rfl (qm rfl (Ad ?_))))
          exact Aw _ h (sm [(2005, 2025), (2006, 2026), (2007, 2027)] _ _ rfl rfl)
     ·have h := Aq c10 h
      refine A6 ?_
      exact Aw _ h (sm [(2008, 2005), (2009, 2006)] _ _ rfl rfl)
    ·refine Al hs (Aa Ae rfl (qm rfl (Bn rfl (qa rfl (Ad ?_)))))
     exact Aw _ h (sm [(2001, 2008), (2002, 2009)] _ _ rfl rfl)
  ·have h := Aq c4 h
   refine A6 ?_
   exact Aw _ h (sm [(2003, 2001)] _ _ rfl rfl)
 ·refine Al hs (Ab (Aa Ae rfl (qm rfl (qa rfl (qa rfl (Ad ?_))))))
  obtain rfl := sj h
  refine Al ((R8 2003 _ _ _ rfl rfl).trans (sm [] [(4, .e (.one (.pure (.sl (v3.map Bc))))), (5, .e (.one (.pure (.val (.int .i64 0)))))] [] rfl rfl)) (AF ?_)
  exact ⟨⟨[_, _], ⟨.tmp _ _ rfl, ⟨.tmp _ _ rfl, trivial⟩⟩, rfl⟩, trivial⟩
set_option maxRecDepth 10000 in
theorem IB (N : Nat) (p0 : List Int) (p1 : List Int) (r : Bool) (h : Do N p0 p1 = some r) : AC Try.prog 65 [.e (.one (.pure (.sl (p0.map Ah)))), .e (.one (.pure (.sl (p1.map Ah))))] [] (.e (.one (.pure (.val (.bool r))))) := by
 unfold Do at h
 refine Ar (n := 26) (rs := [.tmp 4]) Try.func65 rfl rfl rfl (BM rfl) (BM rfl) rfl fun w0 S0 => ?_
 refine Ab (Aa Ae rfl (qa rfl (Ad (Ab (Ab (Aa Ae rfl (qm rfl (AS AG rfl (qm rfl (AS AG rfl (CB rfl (Ad ?_))))))))))))
 refine As rfl (fun c1 => ?_) (fun c1 => ?_)
 ·have h := Ap c1 h
  refine Ab (Aa Ae rfl (qa rfl (Ad ?_)))
  obtain rfl := sj h
  refine Al (sm [] [(4, .e (.one (.pure (.val (.bool false)))))] [] rfl rfl) (AF ?_)
  exact ⟨⟨[_], ⟨.tmp _ _ rfl, trivial⟩, rfl⟩, trivial⟩
 ·have h := Aq c1 h
  refine Av (Ab (Ab (Aa Ae rfl (qm rfl (AS AG rfl (qm rfl (Ad ?_)))))))
  refine AR (L := BX N p0 p1) h (fun v2 => mk [(0, .e (.one (.pure (.sl (p0.map Ah))))), (1, .e (.one (.pure (.sl (p1.map Ah))))), (12, .e (.one (.pure (.val (.int .i64 ((p0.length : Int))))))), (13, .e (.one (.pure (.val (.int .i64 v2)))))] []) (fun v3 => mk [] []) (fun _ _ => rfl) (sm [] _ _ rfl rfl) (fun j2 n2 v2 h => ?_) (fun v3 s h hs => ?_)
  ·unfold BX at h
   refine Ab (Aa Ae rfl (A8 rfl (Ad (Ab ?_))))
   refine As rfl (fun c4 => ?_) (fun c4 => ?_)
   ·have h := Ap c4 h
    refine Av (Ab (AW (Ab (Aa Ae rfl (qm rfl (qa rfl (Ad (Ab (Aa Ae rfl (qm rfl (qm rfl ?_)))))))))))
    obtain ⟨v5, a5, b5, h⟩ := Am h
    refine qi AG Dh a5 (Ak b5) rfl (qk Ch rfl (qm rfl (qm rfl ?_)))
    obtain ⟨v6, a6, b6, h⟩ := Am h
    refine qi AG Dh a6 (Ak b6) rfl (qk Ch rfl (CB rfl (A0 (by kernel_rfl) ?_)))
    refine As rfl (fun c7 => ?_) (fun c7 => ?_)
    ·have h := Ap c7 h
     refine Ab (Aa Ae rfl (qa rfl (Ad ?_)))
     obtain rfl := sj h
     refine Al (sm [] [(4, .e (.one (.pure (.val (.bool false)))))] [] rfl rfl) (AF ?_)
     exact ⟨⟨[_], ⟨.tmp _ _ rfl, trivial⟩, rfl⟩, trivial⟩
    ·have h := Aq c7 h
     refine Av (Aa Ae rfl (Bn rfl (qm rfl (Ad ?_))))
     exact Aw _ h (sm [] _ _ rfl rfl)
   ·have h := Aq c4 h
    refine A6 ?_
    exact Aw _ h (sm [] _ _ rfl rfl)
  ·refine Al hs (Ab (Aa Ae rfl (qa rfl (Ad ?_))))
   obtain rfl := sj h
   refine Al (sm [] [(4, .e (.one (.pure (.val (.bool true)))))] [] rfl rfl) (AF ?_)
   exact ⟨⟨[_], ⟨.tmp _ _ rfl, trivial⟩, rfl⟩, trivial⟩
set_option maxRecDepth 10000 in
theorem HQ (N : Nat) (p0 : List Int) (p1 : Int → Option Bool) (r : Int) (h : Dr N p0 p1 = some r) : AC Try.prog 92 [.e (.one (.pure (.sl (p0.map Ah)))), .e (.one (.clo (Ig (L8 false Ah) tB p1)))] [] (.e (.one (.pure (.val (.int .i64 r))))) := by
 unfold Dr at h
 refine Ar (n := 19) (rs := [.tmp 4]) Try.func92 rfl rfl rfl (BM rfl) (BM rfl) rfl fun w0 S0 => ?_
 refine Ab (Aa Ae rfl (qa rfl (Ad (Ab (Ab (Aa Ae rfl (qm rfl (AS AG rfl (qm rfl (Ad ?_))))))))))
 refine AR (L := Be N p0 p1) h (fun v1 => mk [(0, .e (.one (.pure (.sl (p0.map Ah))))), (1, .e (.one (.clo (Ig (L8 false Ah) tB p1)))), (7, .e (.one (.pure (.val (.int .i64 ((p0.length : Int))))))), (8, .e (.one (.pure (.val (.int .i64 v1)))))] []) (fun v2 => mk [] []) (fun _ _ => rfl) (sm [] _ _ rfl rfl) (fun j1 n1 v1 h => ?_) (fun v2 s h hs => ?_)
 ·unfold Be at h
  refine Ab (Aa Ae rfl (A8 rfl (Ad (Ab ?_))))
  refine As rfl (fun c3 => ?_) (fun c3 => ?_)
  ·have h := Ap c3 h
   refine Av (Ab (AW (Ab (Aa Ae rfl (qm rfl (qa rfl (Ad (Ab (Aa Ae rfl (qm rfl (qm rfl (qm rfl ?_))))))))))))
   obtain ⟨v4, a4, b4, h⟩ := Am h
   refine qi AG Dh a4 (Ak b4) rfl (qk Ch rfl ?_)
   obtain ⟨v5, a5, h⟩ := bind_some h
   refine KD (ds0 := [_]) (ar := (L8 false Ah) v4) (.p rfl) rfl rfl ⟨rfl, trivial⟩ rfl rfl rfl (KK (Lb _ _ OW) a5) ?_
   refine Ad ?_
   refine As rfl (fun c6 => ?_) (fun c6 => ?_)
   ·have h := Ap c6 h
    refine Ab (Aa Ae rfl (qm rfl (qa rfl (Ad ?_))))
    obtain rfl := sj h
    refine Al (sm [] [(4, .e (.one (.pure (.val (.int .i64 v1)))))] [] rfl rfl) (AF ?_)
    exact ⟨⟨[_], ⟨.tmp _ _ rfl, trivial⟩, rfl⟩, trivial⟩
   ·have h := Aq c6 h
    refine Av (Aa Ae rfl (Bn rfl (qm rfl (Ad ?_))))
    exact Aw _ h (sm [] _ _ rfl rfl)
  ·have h := Aq c3 h
   refine A6 ?_
   exact Aw _ h (sm [] _ _ rfl rfl)
 ·refine Al hs (Ab (Aa Ae rfl (qa rfl (Ad ?_))))
  obtain rfl := sj h
  refine Al (sm [] [(4, .e (.one (.pure (.val (.int .i64 ((-1)))))))] [] rfl rfl) (AF ?_)
  exact ⟨⟨[_], ⟨.tmp _ _ rfl, trivial⟩, rfl⟩, trivial⟩
set_option maxRecDepth 10000 in
theorem G1 (N : Nat) (p0 : List Int) (p1 : Int → Option Bool) (r : Bool) (h : Cs N p0 p1 = some r) : AC Try.prog 66 [.e (.one (.pure (.sl (p0.map Ah)))), .e (.one (.clo (Ig (L8 false Ah) tB p1)))] [] (.e (.one (.pure (.val (.bool r))))) := by
 unfold Cs at h
 refine Ar (n := 9) (rs := [.tmp 4]) Try.func66 rfl rfl rfl (BM rfl) (BM rfl) rfl fun w0 S0 => ?_
 refine Ab (Aa Ae rfl (qa rfl (Ad (Ab (Aa Ae rfl (qm rfl (qm rfl ?_)))))))
 obtain ⟨v1, a1, h⟩ := bind_some h
 refine AM [] (HQ N p0 p1 v1 a1) Xs rfl (EO rfl (qa rfl (Ad ?_)))
 obtain rfl := sj h
 refine Al (sm [] [(4, .e (.one (.pure (.val (.bool ((decide (0 ≤ v1))))))))] [] rfl rfl) (AF ?_)
 exact ⟨⟨[_], ⟨.tmp _ _ rfl, trivial⟩, rfl⟩, trivial⟩
set_option maxRecDepth 10000 in
theorem Om (N : Nat) (p0 : Int) (r : Bool) (h : FU N p0 = some r) : AC Try.prog 79 [.e (.one (.pure (.val (.int .i64 p0))))] [] (.e (.one (.pure (.val (.bool r))))) := by
 unfold FU at h
 refine Ar (n := 5) (rs := [.tmp 2]) Try.func79 rfl rfl rfl (BM rfl) (BM rfl) rfl fun w0 S0 => ?_
 refine Ab (Aa Ae rfl (qa rfl (Ad (Ab (Aa Ae rfl (qm rfl (EO rfl (qa rfl (Ad ?_)))))))))
 obtain rfl := sj h
 refine Al (sm [] [(2, .e (.one (.pure (.val (.bool ((decide (0 ≤ p0))))))))] [] rfl rfl) (AF ?_)
 exact ⟨⟨[_], ⟨.tmp _ _ rfl, trivial⟩, rfl⟩, trivial⟩
set_option maxRecDepth 10000 in
theorem Mq (N : Nat) (p0 : Ac) (p1 : Ag) (r : Bool) (h : F7 N p0 p1 = some r) : AC Try.prog 40 [.e (.agg [.pure (.sl (p0.fVersions.map Ah)), .pure (.sl (p0.fNow.map Ah)), .pure (.sl (p0.fTarget.map Ah)), .pure (.sl (p0.fTables.map Ai))]), .e (.agg [.pure (.sl (p1.fBase.map Ah)), .pure (.sl (p1.fNext.map Ah)), .pure (.sl (p1.fHeld.map Ba))])] [] (.e (.one (.pure (.val (.bool r))))) := by
 unfold F7 at h
 refine Ar (n := 22) (rs := [.tmp 4]) Try.func40 rfl rfl rfl (BM rfl) (BM rfl) rfl fun w0 S0 => ?_
 refine Ab (Aa Ae rfl (qb rfl (qb rfl (qa rfl (Ad ?_)))))
 refine AX h (fun v1 => mk [(4, .e (.one (.pure (.val (.bool v1)))))] []) (fun j1 h => ?_) (fun v1 h => ?_)
 ·refine Aa Ae rfl (qL DQ Di rfl (qL Bx AU rfl ?_))
  obtain ⟨v2, a2, h⟩ := bind_some h
  refine AM [] (HY N p0 p1 v2 a2) T6 rfl (B0 rfl (qm rfl ?_))
  refine AI (t := 9) rfl (fun c3 => ?_) (fun c3 => ?_)
  ·have h := Ap c3 h
   refine qf CK rfl (ql A9 rfl (qf HV rfl (ql A9 rfl ?_)))
   obtain ⟨v4, a4, h⟩ := bind_some h
   refine AM [] (IB N p1.fBase p0.fTarget v4 a4) XX rfl (qp rfl (qm rfl ?_))
   refine AI (t := 16) rfl (fun c5 => ?_) (fun c5 => ?_)
   ·have h := Ap c5 h
    refine qf BD rfl (ql A9 rfl ?_)
    obtain ⟨v6, a6, h⟩ := bind_some h
    refine AM [] (AC.weak (ds' := [.e (.one (.pure (.sl (p1.fNext.map Ah)))), .e (.one (.fnc 79))]) (G1 N p1.fNext ((fun (x : Int) => FU N x)) v6 a6) ⟨(fun _ _ _ hh => hh), (fun _ _ _ hh => TY XS (fun ar t ht => by obtain ⟨x, r, rfl, hq, rfl⟩ := JQ ht; exact Om N x r hq) hh), trivial⟩) XA rfl ?_
    refine CG rfl (qp rfl (qa rfl (Ad ?_)))
    exact Aw _ h (sm [] _ _ rfl rfl)
   ·have h := Aq c5 h
    refine qn rfl (qn rfl (qn rfl (qn rfl (qp rfl (qa rfl (Ad ?_))))))
    exact Aw _ h (sm [] _ _ rfl rfl)
  ·have h := Aq c3 h
   refine qn rfl (qn rfl (qn rfl (qn rfl (qn rfl (qp rfl (qm rfl (qn rfl (qn rfl (qn rfl (qn rfl (qp rfl (qa rfl (Ad ?_)))))))))))))
   exact Aw _ h (sm [] _ _ rfl rfl)
 ·obtain rfl := sj h
  refine Al (sm [] [(4, .e (.one (.pure (.val (.bool v1)))))] [] rfl rfl) (AF ?_)
  exact ⟨⟨[_], ⟨.tmp _ _ rfl, trivial⟩, rfl⟩, trivial⟩
set_option maxRecDepth 10000 in
theorem Ny (N : Nat) (p0 : AB) (p1 : List Int) (p2 : List Int) (p3 : List Int) (p4 : List AE) (r : Bool) (h : Ea N p0 p1 p2 p3 p4 = some r) : AC Try.prog 57 [.e (.agg [.pure (.sl (p0.fM.fBase.map Ah)), .pure (.sl (p0.fM.fNext.map Ah)), .pure (.sl (p0.fM.fHeld.map Ba)), .pure (.val (.int .i64 p0.fFrom)), .pure (.val (.int .i64 p0.fBy.fKind)), .pure (.val (.int .i64 p0.fBy.fIndex)), .pure (.val (.int .i64 p0.fBy.fVersion)), .pure (.sl (p0.fNext.map Ah))]), .e (.one (.rop [.sl (p1.map Ah), .sl (p2.map Ah), .sl (p3.map Ah), .sl (p4.map Ai)]))] [] (.e (.one (.pure (.val (.bool r))))) := by
 unfold Ea at h
 refine Ar (n := 8) (rs := [.tmp 3]) Try.func57 rfl rfl rfl (BM rfl) (BM rfl) rfl fun w0 S0 => ?_
 refine Ab (Aa Ae rfl (qb rfl (qa rfl (Ad (Ab (Aa Ae rfl (qK DQ Di rfl (qf MU rfl (qL Bx AU rfl ?_)))))))))
 obtain ⟨v1, a1, h⟩ := bind_some h
 refine AM [] (Mq N ((Ac.mk p1 p2 p3 p4)) ((Ag.mk p0.fM.fBase p0.fM.fNext p0.fM.fHeld)) v1 a1) WI rfl (qa rfl (Ad ?_))
 obtain rfl := sj h
 refine Al (sm [] [(3, .e (.one (.pure (.val (.bool v1)))))] [] rfl rfl) (AF ?_)
 exact ⟨⟨[_], ⟨.tmp _ _ rfl, trivial⟩, rfl⟩, trivial⟩
set_option maxRecDepth 10000 in
theorem Ft (N : Nat) (p0 : List AB) (p1 : AB → Option Bool) (r : Int) (h : B4 N p0 p1 = some r) : AC Try.prog 56 [.e (.one (.pure (.sl (p0.map Bc)))), .e (.one (.clo (Ig (L8 true Bc) tB p1)))] [] (.e (.one (.pure (.val (.int .i64 r))))) := by
 unfold B4 at h
 refine Ar (n := 19) (rs := [.tmp 4]) Try.func56 rfl rfl rfl (BM rfl) (BM rfl) rfl fun w0 S0 => ?_
 refine Ab (Aa Ae rfl (qa rfl (Ad (Ab (Ab (Aa Ae rfl (qm rfl (AS Hh rfl (qm rfl (Ad ?_))))))))))
 refine AR (L := AT N p0 p1) h (fun v1 => mk [(0, .e (.one (.pure (.sl (p0.map Bc))))), (1, .e (.one (.clo (Ig (L8 true Bc) tB p1)))), (7, .e (.one (.pure (.val (.int .i64 ((p0.length : Int))))))), (8, .e (.one (.pure (.val (.int .i64 v1)))))] []) (fun v2 => mk [] []) (fun _ _ => rfl) (sm [] _ _ rfl rfl) (fun j1 n1 v1 h => ?_) (fun v2 s h hs => ?_)
 ·unfold AT at h
  refine Ab (Aa Ae rfl (A8 rfl (Ad (Ab ?_))))
  refine As rfl (fun c3 => ?_) (fun c3 => ?_)
  ·have h := Ap c3 h
   refine Av (Ab (AW (Ab (Aa Ae rfl (qm rfl (qa rfl (Ad (Ab (Aa Ae rfl (qm rfl (qm rfl (qm rfl ?_))))))))))))
   obtain ⟨v4, a4, b4, h⟩ := Am h
   refine qi Hh I2 a4 (Ak b4) rfl (qK WE I2 rfl ?_)
   obtain ⟨v5, a5, h⟩ := bind_some h
   refine KD (ds0 := [_]) (ar := (L8 true Bc) ((AB.mk ((Ag.mk v4.fM.fBase v4.fM.fNext v4.fM.fHeld)) v4.fFrom ((Af.mk v4.fBy.fKind v4.fBy.fIndex v4.fBy.fVersion)) v4.fNext))) (.p rfl) rfl rfl ⟨rfl, trivial⟩ rfl rfl rfl (KK (Lb _ _ PY) a5) ?_
   refine Ad ?_
   refine As rfl (fun c6 => ?_) (fun c6 => ?_)
   ·have h := Ap c6 h
    refine Ab (Aa Ae rfl (qm rfl (qa rfl (Ad ?_))))
    obtain rfl := sj h
    refine Al (sm [] [(4, .e (.one (.pure (.val (.int .i64 v1)))))] [] rfl rfl) (AF ?_)
    exact ⟨⟨[_], ⟨.tmp _ _ rfl, trivial⟩, rfl⟩, trivial⟩
   ·have h := Aq c6 h
    refine Av (Aa Ae rfl (Bn rfl (qm rfl (Ad ?_))))
    exact Aw _ h (sm [] _ _ rfl rfl)
  ·have h := Aq c3 h
   refine A6 ?_
   exact Aw _ h (sm [] _ _ rfl rfl)
 ·refine Al hs (Ab (Aa Ae rfl (qa rfl (Ad ?_))))
  obtain rfl := sj h
  refine Al (sm [] [(4, .e (.one (.pure (.val (.int .i64 ((-1)))))))] [] rfl rfl) (AF ?_)
  exact ⟨⟨[_], ⟨.tmp _ _ rfl, trivial⟩, rfl⟩, trivial⟩
set_option maxRecDepth 10000 in
theorem F0 (N : Nat) (p0 : List Af) (r : (List Af)) (h : Bq N p0 = some r) : Fz Try.prog 88 [.e (.one (.own 90000))] [(.vec 3 (p0.map Az), .vec 3 (r.map Az))] [] (.tup []) := by
 unfold Bq at h
 refine Gj (n := 28) (rs := []) Try.func88 rfl rfl rfl (BM rfl) (BM rfl) rfl rfl (BM rfl) rfl (BM rfl) fun w0 S0 GL => Xe ?_
 refine Al (sm [] [(0, .e (.one (.own 90000)))] [(90000, .vec 3 (p0.map Az))] rfl rfl) (Ab (Aa Ae rfl (qm rfl (Fg CE rfl (NG rfl (qa rfl (qa rfl (Ad ?_))))))))
 refine AR (L := Bf N) h (fun v1 => mk [(0, .e (.one (.own 90000))), (2, .e (.one (.pure (.val (.int .i64 v1.2.1))))), (3, .e (.one (.pure (.val (.int .i64 v1.2.2)))))] [(90000, .vec 3 (v1.1.map Az))]) (fun v2 => mk [] [(90000, .vec 3 (v2.map Az))]) (fun _ _ => rfl) (sm [] _ _ rfl rfl) (fun j1 n1 v1 h => ?_) (fun v2 s h hs => ?_)
 ·unfold Bf at h
  refine Ab (Ab (Aa Ae rfl (qm rfl (qm rfl (A8 rfl (Ad ?_))))))
  refine As rfl (fun c3 => ?_) (fun c3 => ?_)
  ·have h := Ap c3 h
   refine Av (Ab (AW (Aa Ae rfl (qm rfl (qm rfl (qm rfl (qm rfl (qm rfl (qm rfl ?_)))))))))
   obtain ⟨v4, a4, b4, h⟩ := Am h
   refine qI CE C7 a4 (Ak b4) rfl (qJ Gz C7 (Ak b4) rfl (qm rfl (qm rfl ?_)))
   obtain ⟨v5, a5, b5, h⟩ := Am h
   refine qI CE C7 a5 (Ak b5) rfl (qJ Gz C7 (Ak b5) rfl ?_)
   obtain ⟨v6, a6, b6, h⟩ := Am h
   refine qI CE C7 a6 (Ak b6) rfl ?_
   refine D8 rfl rfl rfl rfl (Ak b6) rfl C7 rfl (BM rfl) (DR Az v1.1 _ v4) ?_
   obtain ⟨v7, a7, b7, h⟩ := Am h
   refine qI CE C7 a7 (Ak b7) rfl ?_
   refine D8 rfl rfl rfl rfl (Ak b7) rfl C7 rfl (BM rfl) (DR Az (v1.1.set (v1.2.1).toNat v4) _ v5) ?_
   refine A0 (by kernel_rfl) (Aa Ae rfl (qm rfl (Bn rfl (qm rfl (NG rfl (qa rfl (qa rfl (Ad ?_))))))))
   exact Aw _ h (sm [] _ _ rfl rfl)
  ·have h := Aq c3 h
   refine A6 ?_
   exact Aw _ h (sm [] _ _ rfl rfl)
 ·obtain rfl := sj h
  refine ⟨_, hs.trans (sm [] [] [(90000, .vec 3 (v2.map Az))] rfl rfl), ?_⟩
  exact ⟨⟨[], trivial, rfl⟩, ⟨rfl, trivial⟩, trivial⟩
set_option maxRecDepth 10000 in
theorem QF (N : Nat) (p0 : List AB) (p1 : Int) (r : (List Af)) (h : HX N p0 p1 = some r) : AC Try.prog 58 [.e (.one (.pure (.sl (p0.map Bc)))), .e (.one (.pure (.val (.int .i64 p1))))] [(3, r.map Az)] (.e (.one (.own 0))) := by
 unfold HX at h
 refine Ar (n := 28) (rs := [.tmp 4]) Try.func58 rfl rfl rfl (BM rfl) (BM rfl) rfl fun w0 S0 => ?_
 refine Ab (Aa Ae rfl (qa rfl (Ad (Ab (Aa Ae rfl (qa rfl (Ad (Ab ?_))))))))
 refine AR (L := ET N p0) h (fun v1 => mk [(0, .e (.one (.pure (.sl (p0.map Bc))))), (1, .e (.one (.pure (.val (.int .i64 v1.1))))), (5, .e (.one (.own 2001)))] [(2001, .vec 3 (v1.2.map Az))]) (fun v2 => mk [(5, .e (.one (.own 2002)))] [(2002, .vec 3 (v2.map Az))]) (fun _ _ => rfl) ((Cj 5 2003 3 rfl rfl rfl).trans (sm [(2001, 2003)] _ _ rfl rfl)) (fun j1 n1 v1 h => ?_) (fun v2 s h hs => ?_)
 ·unfold ET at h
  refine Ab (Ab (Aa Ae rfl (qm rfl (qm rfl ?_))))
  obtain ⟨v3, a3, b3, h⟩ := Am h
  refine qi Hh I2 a3 (Ak b3) rfl (qg P9 rfl (qk Ch rfl (EO rfl (Ad ?_))))
  refine As rfl (fun c4 => ?_) (fun c4 => ?_)
  ·have h := Ap c4 h
   refine Av (Ab (AW (Aa Ae rfl (qm rfl (qm rfl (qm rfl ?_))))))
   obtain ⟨v5, a5, b5, h⟩ := Am h
   refine qi Hh I2 a5 (Ak b5) rfl (qg SK rfl (qK Gz C7 rfl (En CE C7 GE rfl ?_)))
   obtain ⟨c6, h⟩ := AN h
   refine DI (f := Az) CE CE C7 Pq GE c6 rfl (qa rfl (Ad (Aa Ae rfl (qm rfl (qm rfl ?_)))))
   obtain ⟨v7, a7, b7, h⟩ := Am h
   refine qi Hh I2 a7 (Ak b7) rfl (qg P9 rfl (qk Ch rfl (qa rfl (Ad ?_))))
   exact Aw _ h (sm [(2001, 24)] _ _ rfl rfl)
  ·have h := Aq c4 h
   refine A6 ?_
   exact Aw _ h (sm [(2002, 2001)] _ _ rfl rfl)
 ·refine Al hs (Ab (Aa Ae rfl (qm rfl ?_)))
  obtain ⟨v8, a8, h⟩ := bind_some h
  refine Ma (ds0 := [_]) [2002] [] [true] (F0 N v2 v8 a8) (.p rfl) Xy rfl ⟨rfl, trivial⟩ rfl rfl (by decide) ⟨rfl, trivial⟩ rfl (H8 rfl) trivial ⟨(fun h => by cases h), trivial⟩ rfl rfl rfl ?_
  refine Ad (Ab (Aa Ae rfl (qm rfl (qa rfl (Ad ?_)))))
  obtain rfl := sj h
  refine Al (sm [(1000, 2002)] [(4, .e (.one (.own 1000)))] [(1000, .vec 3 (v8.map Az))] rfl rfl) (AF ?_)
  exact ⟨⟨[_], ⟨.tmp _ _ rfl, trivial⟩, rfl⟩, ⟨rfl, trivial⟩⟩
set_option maxRecDepth 10000 in
theorem LU (N : Nat) (p0 : Ac) (p1 : Ag) (r : (List Af) × Int) (h : D0 N p0 p1 = some r) : AC Try.prog 27 [.e (.agg [.pure (.sl (p0.fVersions.map Ah)), .pure (.sl (p0.fNow.map Ah)), .pure (.sl (p0.fTarget.map Ah)), .pure (.sl (p0.fTables.map Ai))]), .e (.agg [.pure (.sl (p1.fBase.map Ah)), .pure (.sl (p1.fNext.map Ah)), .pure (.sl (p1.fHeld.map Ba))])] [(3, r.1.map Az)] (.tup [.one (.own 0), .one (.pure (.val (.int .i64 r.2)))]) := by
 unfold D0 at h
 refine Ar (n := 38) (rs := [.tmp 4, .tmp 5]) Try.func27 rfl rfl rfl (BM rfl) (BM rfl) rfl fun w0 S0 => ?_
 refine Ab (Aa Ae rfl (qb rfl (qb rfl (qa rfl (qa rfl (Ad (Ab (Aa Ae rfl (qL DQ Di rfl (qL Bx AU rfl ?_))))))))))
 obtain ⟨v1, a1, h⟩ := bind_some h
 refine AM [] (K2 N p0 p1 v1 a1) WH rfl (qm rfl (qx rfl (qx rfl (qa rfl (qa rfl (Ad (Ab (Ab (Aa Ae rfl (qm rfl (CB rfl (Ad ?_))))))))))))
 refine As rfl (fun c2 => ?_) (fun c2 => ?_)
 ·have h := Ap c2 h
  refine Ab (Aa Ae rfl (qm rfl (qa rfl (qa rfl (Ad ?_)))))
  obtain rfl := sj h
  refine Al ((Cj 4 2001 3 rfl rfl rfl).trans (sm [(1000, 2001)] [(4, .e (.one (.own 1000))), (5, .e (.one (.pure (.val (.int .i64 v1.2)))))] [(1000, .vec 3 ((([] : List Af)).map Az))] rfl rfl)) (AF ?_)
  exact ⟨⟨[_, _], ⟨.tmp _ _ rfl, ⟨.tmp _ _ rfl, trivial⟩⟩, rfl⟩, ⟨rfl, trivial⟩⟩
 ·have h := Aq c2 h
  refine Av (Ab (Ab (Aa Ae rfl (qm rfl (CG rfl (Ad ?_))))))
  refine As rfl (fun c3 => ?_) (fun c3 => ?_)
  ·have h := Ap c3 h
   refine Ab (Aa Ae rfl (qa rfl (qa rfl (Ad ?_))))
   obtain rfl := sj h
   refine Al ((Cj 4 2002 3 rfl rfl rfl).trans (sm [(1000, 2002)] [(4, .e (.one (.own 1000))), (5, .e (.one (.pure (.val (.int .i64 13)))))] [(1000, .vec 3 ((([] : List Af)).map Az))] rfl rfl)) (AF ?_)
   exact ⟨⟨[_, _], ⟨.tmp _ _ rfl, ⟨.tmp _ _ rfl, trivial⟩⟩, rfl⟩, ⟨rfl, trivial⟩⟩
  ·have h := Aq c3 h
   refine Av (Ab (Aa Ae rfl (qL DQ Di rfl (qL Bx AU rfl ?_))))
   obtain ⟨v4, a4, h⟩ := bind_some h
   refine AM [] (Nm N p0 p1 v4 a4) X1 rfl (qm rfl (qx rfl (qx rfl (qa rfl (qa rfl (Ad (Ab (Ab (Aa Ae rfl (qm rfl (CB rfl (Ad ?_))))))))))))
   refine As rfl (fun c5 => ?_) (fun c5 => ?_)
   ·have h := Ap c5 h
    refine Ab (Aa Ae rfl (qm rfl (qa rfl (qa rfl (Ad ?_)))))
    obtain rfl := sj h
    refine Al ((Cj 4 2003 3 rfl rfl rfl).trans (sm [(1000, 2003)] [(4, .e (.one (.own 1000))), (5, .e (.one (.pure (.val (.int .i64 v4.2)))))] [(1000, .vec 3 ((([] : List Af)).map Az))] rfl rfl)) (AF ?_)
    exact ⟨⟨[_, _], ⟨.tmp _ _ rfl, ⟨.tmp _ _ rfl, trivial⟩⟩, rfl⟩, ⟨rfl, trivial⟩⟩
   ·have h := Aq c5 h
    refine Av (Ab (Aa Ae rfl (qm rfl (DK (Lj 2 [.sl (p0.fVersions.map Ah), .sl (p0.fNow.map Ah), .sl (p0.fTarget.map Ah), .sl (p0.fTables.map Ai)] rfl rfl) ?_))))
    refine Km (capD := [_]) (Ig (L8 true Bc) tB ((fun (x : AB) => Ea N x p0.fVersions p0.fNow p0.fTarget p0.fTables))) (.p rfl) XE rfl ⟨rfl, trivial⟩ rfl (fun ar t ht => by obtain ⟨x, r, rfl, hq, rfl⟩ := JQ ht; exact Ny N x p0.fVersions p0.fNow p0.fTarget p0.fTables r hq) ?_
    obtain ⟨v6, a6, h⟩ := bind_some h
    refine AM [] (Ft N v4.1 ((fun (x : AB) => Ea N x p0.fVersions p0.fNow p0.fTarget p0.fTables)) v6 a6) XL rfl (qa rfl (Ad (Ab (Ab (Aa Ae rfl (qm rfl (A8 rfl (Ad ?_))))))))
    refine As rfl (fun c7 => ?_) (fun c7 => ?_)
    ·have h := Ap c7 h
     refine Ab (Aa Ae rfl (qa rfl (qa rfl (Ad ?_))))
     obtain rfl := sj h
     refine Al ((Cj 4 2004 3 rfl rfl rfl).trans (sm [(1000, 2004)] [(4, .e (.one (.own 1000))), (5, .e (.one (.pure (.val (.int .i64 14)))))] [(1000, .vec 3 ((([] : List Af)).map Az))] rfl rfl)) (AF ?_)
     exact ⟨⟨[_, _], ⟨.tmp _ _ rfl, ⟨.tmp _ _ rfl, trivial⟩⟩, rfl⟩, ⟨rfl, trivial⟩⟩
    ·have h := Aq c7 h
     refine Av (Ab (Aa Ae rfl (qm rfl (qm rfl ?_))))
     obtain ⟨v8, a8, h⟩ := bind_some h
     refine AM [2005] (QF N v4.1 v6 v8 a8) XV rfl (qa rfl (qa rfl (Ad ?_)))
     obtain rfl := sj h
     refine Al (sm [(1000, 2005)] [(4, .e (.one (.own 1000))), (5, .e (.one (.pure (.val (.int .i64 0)))))] [(1000, .vec 3 (v8.map Az))] rfl rfl) (AF ?_)
     exact ⟨⟨[_, _], ⟨.tmp _ _ rfl, ⟨.tmp _ _ rfl, trivial⟩⟩, rfl⟩, ⟨rfl, trivial⟩⟩
set_option maxRecDepth 10000 in
theorem H2 (N : Nat) (p0 : Ac) (r : (List Af) × Int) (h : ED N p0 = some r) : AC Try.prog 13 [.e (.agg [.pure (.sl (p0.fVersions.map Ah)), .pure (.sl (p0.fNow.map Ah)), .pure (.sl (p0.fTarget.map Ah)), .pure (.sl (p0.fTables.map Ai))])] [(3, r.1.map Az)] (.tup [.one (.own 0), .one (.pure (.val (.int .i64 r.2)))]) := by
 unfold ED at h
 refine Ar (n := 19) (rs := [.tmp 2, .tmp 3]) Try.func13 rfl rfl rfl (BM rfl) (BM rfl) rfl fun w0 S0 => ?_
 refine Ab (Aa Ae rfl (qb rfl (qa rfl (qa rfl (Ad (Ab (Aa Ae rfl (qL DQ Di rfl ?_))))))))
 obtain ⟨v1, a1, h⟩ := bind_some h
 refine AM [2001, 2002, 2003] (LW N p0 v1 a1) W1 rfl (qm rfl (qx rfl (qx rfl (qz C8 rfl (qs AU rfl (qa rfl (Ad (Ab (Ab (Aa Ae rfl (qm rfl (CB rfl (Ad ?_)))))))))))))
 refine As rfl (fun c2 => ?_) (fun c2 => ?_)
 ·have h := Ap c2 h
  refine Ab (Aa Ae rfl (qm rfl (qa rfl (qa rfl (Ad ?_)))))
  obtain rfl := sj h
  refine Al ((Cj 2 2004 3 rfl rfl rfl).trans (sm [(1000, 2004)] [(2, .e (.one (.own 1000))), (3, .e (.one (.pure (.val (.int .i64 v1.2)))))] [(1000, .vec 3 ((([] : List Af)).map Az))] rfl rfl)) (AF ?_)
  exact ⟨⟨[_, _], ⟨.tmp _ _ rfl, ⟨.tmp _ _ rfl, trivial⟩⟩, rfl⟩, ⟨rfl, trivial⟩⟩
 ·have h := Aq c2 h
  refine Av (Ab (Aa Ae rfl (qL DQ Di rfl (qL Bx AU rfl ?_))))
  obtain ⟨v3, a3, h⟩ := bind_some h
  refine DZ [2005] [2001, 2002, 2003] (LU N p0 v1.1 v3 a3) W7 (DX (fun _ => rfl) CD) rfl (qx rfl (qx rfl (qa rfl (qa rfl (Ad ?_)))))
  obtain rfl := sj h
  refine Al (sm [(1000, 2005)] [(2, .e (.one (.own 1000))), (3, .e (.one (.pure (.val (.int .i64 v3.2)))))] [(1000, .vec 3 (v3.1.map Az))] rfl rfl) (AF ?_)
  exact ⟨⟨[_, _], ⟨.tmp _ _ rfl, ⟨.tmp _ _ rfl, trivial⟩⟩, rfl⟩, ⟨rfl, trivial⟩⟩
set_option maxRecDepth 10000 in
theorem Jb (N : Nat) (p0 : Ac) (p1 : List Af) (r : Int × Ag × Ao × Int) (h : FX N p0 p1 = some r) : AC Try.prog 19 [.e (.agg [.pure (.sl (p0.fVersions.map Ah)), .pure (.sl (p0.fNow.map Ah)), .pure (.sl (p0.fTarget.map Ah)), .pure (.sl (p0.fTables.map Ai))]), .e (.one (.pure (.sl (p1.map Az))))] [] (.tup [.one (.pure (.val (.int .i64 r.1))), .agg [.pure (.sl (r.2.1.fBase.map Ah)), .pure (.sl (r.2.1.fNext.map Ah)), .pure (.sl (r.2.1.fHeld.map Ba))], .agg [.pure (.val (.int .i64 r.2.2.1.fTable)), .pure (.val (.int .i64 r.2.2.1.fWriter)), .pure (.val (.int .i64 r.2.2.1.fReader))], .one (.pure (.val (.int .i64 r.2.2.2)))]) := by
 unfold FX at h
 refine Ar (n := 89) (rs := [.tmp 4, .cell 5 43, .cell 6 45, .tmp 7]) Try.func19 rfl rfl rfl (BM rfl) (BM rfl) rfl fun w0 S0 => ?_
 refine Ab (Aa Ae rfl (qb rfl (qa rfl (qz C8 rfl (qz G6 rfl (qa rfl (Ad (Ab (Aa Ae rfl (qL DQ Di rfl ?_))))))))))
 obtain ⟨v1, a1, h⟩ := bind_some h
 refine AM [2001, 2002, 2003] (LW N p0 v1 a1) W1 rfl (qm rfl (qx rfl (qx rfl (qz C8 rfl (qs AU rfl (qa rfl (Ad (Ab (Ab (Aa Ae rfl (qm rfl (CB rfl (Ad ?_)))))))))))))
 refine As rfl (fun c2 => ?_) (fun c2 => ?_)
 ·have h := Ap c2 h
  refine Ab (Aa Ae rfl (A4 C8 GA rfl (A4 G6 MA rfl (qm rfl (qa rfl (qs AU rfl (qs Fm rfl (qa rfl (Ad ?_)))))))))
  obtain rfl := sj h
  refine Al ((Hy 5 _ rfl).trans (sm [] [(4, .e (.one (.pure (.val (.int .i64 0))))), (5, .e (.one (.ptr 5 0))), (6, .e (.one (.ptr 6 0))), (7, .e (.one (.pure (.val (.int .i64 v1.2)))))] [(5, .box [.pure (.sl ((([] : List Int)).map Ah)), .pure (.sl ((([] : List Int)).map Ah)), .pure (.sl ((([] : List Int)).map Ba))]), (6, .box [.pure (.val (.int .i64 0)), .pure (.val (.int .i64 0)), .pure (.val (.int .i64 0))])] rfl rfl)) (AF ?_)
  exact ⟨⟨[_, _, _, _], ⟨.tmp _ _ rfl, ⟨.cellN _ _ _ _ _ _ _ rfl rfl Bx AU rfl rfl (Hc rfl), ⟨.cellN _ _ _ _ _ _ _ rfl rfl Ly Fm rfl rfl (Hc rfl), ⟨.tmp _ _ rfl, trivial⟩⟩⟩⟩, rfl⟩, trivial⟩
 ·have h := Aq c2 h
  refine Av (Ab (Ab (Aa Ae rfl (qL DQ Di rfl (qL Bx AU rfl (DK (BL 2001 _ _ rfl rfl) (DK (BL 2002 _ _ rfl rfl) (DK (BL 2003 _ _ rfl rfl) ?_))))))))
  obtain ⟨v3, a3, h⟩ := bind_some h
  refine AM [] (Jx N p0 v1.1 v3 a3) Vp rfl (qm rfl (qx rfl (qx rfl (qx rfl (qz C8 rfl (qz G6 rfl (qs AU rfl (qs Fm rfl (qa rfl (Ad (Ab (Aa Ae rfl (qm rfl (B0 rfl (Ad ?_)))))))))))))))
  refine As rfl (fun c4 => ?_) (fun c4 => ?_)
  ·have h := Ap c4 h
   refine Ab (Aa Ae rfl (qL Bx AU rfl (qL Ly Fm rfl (qa rfl (qs AU rfl (qs Fm rfl (qa rfl (A0 (by kernel_rfl) ?_))))))))
   obtain rfl := sj h
   refine Al (sm [] [(4, .e (.one (.pure (.val (.int .i64 ((-1))))))), (5, .e (.one (.ptr 5 0))), (6, .e (.one (.ptr 6 0))), (7, .e (.one (.pure (.val (.int .i64 0)))))] [(5, .box [.pure (.sl (v3.1.fBase.map Ah)), .pure (.sl (v3.1.fNext.map Ah)), .pure (.sl (v3.1.fHeld.map Ba))]), (6, .box [.pure (.val (.int .i64 v3.2.1.fTable)), .pure (.val (.int .i64 v3.2.1.fWriter)), .pure (.val (.int .i64 v3.2.1.fReader))])] rfl rfl) (AF ?_)
   exact ⟨⟨[_, _, _, _], ⟨.tmp _ _ rfl, ⟨.cellN _ _ _ _ _ _ _ rfl rfl Bx AU rfl rfl (Hc rfl), ⟨.cellN _ _ _ _ _ _ _ rfl rfl Ly Fm rfl rfl (Hc rfl), ⟨.tmp _ _ rfl, trivial⟩⟩⟩⟩, rfl⟩, trivial⟩
  ·have h := Aq c4 h
   refine Av (Ab (Ab (Aa Ae rfl (qm rfl (AS CE rfl (qm rfl (Ad ?_)))))))
   refine AR (L := E6 N p0 p1) h (fun v5 => mk [(1, .e (.one (.pure (.sl (p1.map Az))))), (2, .e (.one (.ptr 2 0))), (5, .e (.one (.ptr 5 0))), (6, .e (.one (.ptr 6 0))), (8, .e (.one (.ptr 8 0))), (41, .e (.one (.pure (.sl (p1.map Az))))), (42, .e (.one (.pure (.val (.int .i64 ((p1.length : Int))))))), (43, .e (.one (.pure (.val (.int .i64 v5.2)))))] [(2, .box [.pure (.sl (p0.fVersions.map Ah)), .pure (.sl (p0.fNow.map Ah)), .pure (.sl (p0.fTarget.map Ah)), .pure (.sl (p0.fTables.map Ai))]), (5, .box [.pure (.nil0), .pure (.nil0), .pure (.nil0)]), (6, .box [.pure (.val (.int .i64 0)), .pure (.val (.int .i64 0)), .pure (.val (.int .i64 0))]), (8, .box [.pure (.sl (v5.1.fBase.map Ah)), .pure (.sl (v5.1.fNext.map Ah)), .pure (.sl (v5.1.fHeld.map Ba))])]) (fun v6 => mk [(1, .e (.one (.pure (.sl (p1.map Az))))), (2, .e (.one (.ptr 2 0))), (5, .e (.one (.ptr 5 0))), (6, .e (.one (.ptr 6 0))), (8, .e (.one (.ptr 8 0)))] [(2, .box [.pure (.sl (p0.fVersions.map Ah)), .pure (.sl (p0.fNow.map Ah)), .pure (.sl (p0.fTarget.map Ah)), .pure (.sl (p0.fTables.map Ai))]), (5, .box [.pure (.nil0), .pure (.nil0), .pure (.nil0)]), (6, .box [.pure (.val (.int .i64 0)), .pure (.val (.int .i64 0)), .pure (.val (.int .i64 0))]), (8, .box [.pure (.sl (v6.fBase.map Ah)), .pure (.sl (v6.fNext.map Ah)), .pure (.sl (v6.fHeld.map Ba))])]) (fun _ _ => rfl) (sm [] _ _ rfl rfl) (fun j5 n5 v5 h => ?_) (fun v6 s h hs => ?_)
   ·unfold E6 at h
    refine Ab (Aa Ae rfl (A8 rfl (Ad (Ab ?_))))
    refine As rfl (fun c7 => ?_) (fun c7 => ?_)
    ·have h := Ap c7 h
     refine Av (Ab (AW (Ab (Aa Ae rfl (qm rfl ?_)))))
     obtain ⟨v8, a8, b8, h⟩ := Am h
     refine qi CE C7 a8 (Ak b8) rfl (qK Gz C7 rfl (qz GE rfl (qa rfl (qs C7 rfl (Ad (Ab (Aa Ae rfl (qL DQ Di rfl (qL Bx AU rfl (qL Gz C7 rfl ?_))))))))))
     obtain ⟨v9, a9, h⟩ := bind_some h
     refine AM [2004, 2005, 2006] (Lm N p0 v5.1 v8 v9 a9) Xa rfl (qm rfl (qx rfl (qx rfl (qz C8 rfl (qs AU rfl (qa rfl (Ad (Ab ?_))))))))
     refine AX h (fun v10 => mk [(1, .e (.one (.pure (.sl (p1.map Az))))), (2, .e (.one (.ptr 2 0))), (5, .e (.one (.ptr 5 0))), (6, .e (.one (.ptr 6 0))), (8, .e (.one (.ptr 8 0))), (13, .e (.one (.pure (.val (.int .i64 v5.2))))), (15, .e (.one (.ptr 15 0))), (41, .e (.one (.pure (.sl (p1.map Az))))), (42, .e (.one (.pure (.val (.int .i64 ((p1.length : Int))))))), (43, .e (.one (.pure (.val (.int .i64 v5.2))))), (61, .e (.one (.pure (.val (.bool v10)))))] [(2, .box [.pure (.sl (p0.fVersions.map Ah)), .pure (.sl (p0.fNow.map Ah)), .pure (.sl (p0.fTarget.map Ah)), .pure (.sl (p0.fTables.map Ai))]), (5, .box [.pure (.nil0), .pure (.nil0), .pure (.nil0)]), (6, .box [.pure (.val (.int .i64 0)), .pure (.val (.int .i64 0)), .pure (.val (.int .i64 0))]), (8, .box [.pure (.sl (v5.1.fBase.map Ah)), .pure (.sl (v5.1.fNext.map Ah)), .pure (.sl (v5.1.fHeld.map Ba))]), (15, .box [.own 2007, .own 2008, .own 2009]), (2007, .vec 1 (v9.1.fBase.map Ah)), (2008, .vec 1 (v9.1.fNext.map Ah)), (2009, .vec 1 (v9.1.fHeld.map Ba))]) (fun j10 h => ?_) (fun v10 h => ?_)
     ·refine Aa Ae rfl (qm rfl (CB rfl (qm rfl ?_)))
      refine AI (t := 57) rfl (fun c11 => ?_) (fun c11 => ?_)
      ·have h := Ap c11 h
       refine qn rfl (qn rfl (qn rfl (qp rfl (Ad ?_))))
       exact Aw _ h (sm [(2007, 2004), (2008, 2005), (2009, 2006)] _ _ rfl rfl)
      ·have h := Aq c11 h
       refine qf EP rfl (ql Ch rfl (B0 rfl (qp rfl (Ad ?_))))
       exact Aw _ h (sm [(2007, 2004), (2008, 2005), (2009, 2006)] _ _ rfl rfl)
     ·refine As rfl (fun c12 => ?_) (fun c12 => ?_)
      ·have h := Ap c12 h
       refine Ab (Aa Ae rfl (qm rfl (A4 C8 GA rfl (A4 G6 MA rfl (qa rfl (qs AU rfl (qs Fm rfl (qa rfl (Ad ?_)))))))))
       obtain rfl := sj h
       refine Al ((Hy 5 _ rfl).trans (sm [] [(4, .e (.one (.pure (.val (.int .i64 v5.2))))), (5, .e (.one (.ptr 5 0))), (6, .e (.one (.ptr 6 0))), (7, .e (.one (.pure (.val (.int .i64 0)))))] [(5, .box [.pure (.sl ((([] : List Int)).map Ah)), .pure (.sl ((([] : List Int)).map Ah)), .pure (.sl ((([] : List Int)).map Ba))]), (6, .box [.pure (.val (.int .i64 0)), .pure (.val (.int .i64 0)), .pure (.val (.int .i64 0))])] rfl rfl)) (AF ?_)
       exact ⟨⟨[_, _, _, _], ⟨.tmp _ _ rfl, ⟨.cellN _ _ _ _ _ _ _ rfl rfl Bx AU rfl rfl (Hc rfl), ⟨.cellN _ _ _ _ _ _ _ rfl rfl Ly Fm rfl rfl (Hc rfl), ⟨.tmp _ _ rfl, trivial⟩⟩⟩⟩, rfl⟩, trivial⟩
      ·have h := Aq c12 h
       refine Av (Ab (Ab (Aa Ae rfl (qL DQ Di rfl (qL Bx AU rfl (DK (BL 2007 _ _ rfl rfl) (DK (BL 2008 _ _ rfl rfl) (DK (BL 2009 _ _ rfl rfl) ?_))))))))
       obtain ⟨v13, a13, h⟩ := bind_some h
       refine AM [] (Jx N p0 v9.1 v13 a13) Vp rfl (qm rfl (qx rfl (qx rfl (qx rfl (qz C8 rfl (qz G6 rfl (qs AU rfl (qs Fm rfl (qa rfl (Ad (Ab (Aa Ae rfl (qm rfl (B0 rfl (Ad ?_)))))))))))))))
       refine As rfl (fun c14 => ?_) (fun c14 => ?_)
       ·have h := Ap c14 h
        refine Ab (Aa Ae rfl (qm rfl (qL Bx AU rfl (qL Ly Fm rfl (qa rfl (qs AU rfl (qs Fm rfl (qa rfl (A0 (by kernel_rfl) ?_)))))))))
        obtain rfl := sj h
        refine Al (sm [] [(4, .e (.one (.pure (.val (.int .i64 v5.2))))), (5, .e (.one (.ptr 5 0))), (6, .e (.one (.ptr 6 0))), (7, .e (.one (.pure (.val (.int .i64 0)))))] [(5, .box [.pure (.sl (v13.1.fBase.map Ah)), .pure (.sl (v13.1.fNext.map Ah)), .pure (.sl (v13.1.fHeld.map Ba))]), (6, .box [.pure (.val (.int .i64 v13.2.1.fTable)), .pure (.val (.int .i64 v13.2.1.fWriter)), .pure (.val (.int .i64 v13.2.1.fReader))])] rfl rfl) (AF ?_)
        exact ⟨⟨[_, _, _, _], ⟨.tmp _ _ rfl, ⟨.cellN _ _ _ _ _ _ _ rfl rfl Bx AU rfl rfl (Hc rfl), ⟨.cellN _ _ _ _ _ _ _ rfl rfl Ly Fm rfl rfl (Hc rfl), ⟨.tmp _ _ rfl, trivial⟩⟩⟩⟩, rfl⟩, trivial⟩
       ·have h := Aq c14 h
        refine Av (Aa Ae rfl (qL Bx AU rfl (qs AU rfl (Ad (Aa Ae rfl (Bn rfl (qm rfl (Ad ?_))))))))
        exact Aw _ h (sm [] _ _ rfl rfl)
    ·have h := Aq c7 h
     refine A6 ?_
     exact Aw _ h (sm [] _ _ rfl rfl)
   ·refine Al hs (Ab (Ab (Aa Ae rfl (qL DQ Di rfl (qL Bx AU rfl ?_)))))
    obtain ⟨v15, a15, h⟩ := bind_some h
    refine AM [] (Mq N p0 v6 v15 a15) WI rfl (CG rfl (Ad ?_))
    refine As rfl (fun c16 => ?_) (fun c16 => ?_)
    ·have h := Ap c16 h
     refine Ab (Aa Ae rfl (qm rfl (AS CE rfl (A4 C8 GA rfl (A4 G6 MA rfl (qa rfl (qs AU rfl (qs Fm rfl (qa rfl (Ad ?_))))))))))
     obtain rfl := sj h
     refine Al ((Hy 5 _ rfl).trans (sm [] [(4, .e (.one (.pure (.val (.int .i64 ((p1.length : Int))))))), (5, .e (.one (.ptr 5 0))), (6, .e (.one (.ptr 6 0))), (7, .e (.one (.pure (.val (.int .i64 14)))))] [(5, .box [.pure (.sl ((([] : List Int)).map Ah)), .pure (.sl ((([] : List Int)).map Ah)), .pure (.sl ((([] : List Int)).map Ba))]), (6, .box [.pure (.val (.int .i64 0)), .pure (.val (.int .i64 0)), .pure (.val (.int .i64 0))])] rfl rfl)) (AF ?_)
     exact ⟨⟨[_, _, _, _], ⟨.tmp _ _ rfl, ⟨.cellN _ _ _ _ _ _ _ rfl rfl Bx AU rfl rfl (Hc rfl), ⟨.cellN _ _ _ _ _ _ _ rfl rfl Ly Fm rfl rfl (Hc rfl), ⟨.tmp _ _ rfl, trivial⟩⟩⟩⟩, rfl⟩, trivial⟩
    ·have h := Aq c16 h
     refine Av (Ab (Aa Ae rfl (A4 C8 GA rfl (A4 G6 MA rfl (qa rfl (qs AU rfl (qs Fm rfl (qa rfl (Ad ?_)))))))))
     obtain rfl := sj h
     refine Al ((Hy 5 _ rfl).trans (sm [] [(4, .e (.one (.pure (.val (.int .i64 0))))), (5, .e (.one (.ptr 5 0))), (6, .e (.one (.ptr 6 0))), (7, .e (.one (.pure (.val (.int .i64 15)))))] [(5, .box [.pure (.sl ((([] : List Int)).map Ah)), .pure (.sl ((([] : List Int)).map Ah)), .pure (.sl ((([] : List Int)).map Ba))]), (6, .box [.pure (.val (.int .i64 0)), .pure (.val (.int .i64 0)), .pure (.val (.int .i64 0))])] rfl rfl)) (AF ?_)
     exact ⟨⟨[_, _, _, _], ⟨.tmp _ _ rfl, ⟨.cellN _ _ _ _ _ _ _ rfl rfl Bx AU rfl rfl (Hc rfl), ⟨.cellN _ _ _ _ _ _ _ rfl rfl Ly Fm rfl rfl (Hc rfl), ⟨.tmp _ _ rfl, trivial⟩⟩⟩⟩, rfl⟩, trivial⟩
set_option maxRecDepth 10000 in
theorem HF (N : Nat) (p0 : List Af) (p1 : List Af) (r : Bool) (h : C1 N p0 p1 = some r) : AC Try.prog 15 [.e (.one (.pure (.sl (p0.map Az)))), .e (.one (.pure (.sl (p1.map Az))))] [] (.e (.one (.pure (.val (.bool r))))) := by
 unfold C1 at h
 refine Ar (n := 26) (rs := [.tmp 4]) Try.func15 rfl rfl rfl (BM rfl) (BM rfl) rfl fun w0 S0 => ?_
 refine Ab (Aa Ae rfl (qa rfl (Ad (Ab (Ab (Aa Ae rfl (qm rfl (AS CE rfl (qm rfl (AS CE rfl (CB rfl (Ad ?_))))))))))))
 refine As rfl (fun c1 => ?_) (fun c1 => ?_)
 ·have h := Ap c1 h
  refine Ab (Aa Ae rfl (qa rfl (Ad ?_)))
  obtain rfl := sj h
  refine Al (sm [] [(4, .e (.one (.pure (.val (.bool false)))))] [] rfl rfl) (AF ?_)
  exact ⟨⟨[_], ⟨.tmp _ _ rfl, trivial⟩, rfl⟩, trivial⟩
 ·have h := Aq c1 h
  refine Av (Ab (Ab (Aa Ae rfl (qa rfl (Ad ?_)))))
  refine AR (L := Cx N p0 p1) h (fun v2 => mk [(0, .e (.one (.pure (.sl (p0.map Az))))), (1, .e (.one (.pure (.sl (p1.map Az))))), (5, .e (.one (.pure (.val (.int .i64 v2)))))] []) (fun v3 => mk [] []) (fun _ _ => rfl) (sm [] _ _ rfl rfl) (fun j2 n2 v2 h => ?_) (fun v3 s h hs => ?_)
  ·unfold Cx at h
   refine Ab (Ab (Aa Ae rfl (qm rfl (qm rfl (AS CE rfl (A8 rfl (Ad ?_)))))))
   refine As rfl (fun c4 => ?_) (fun c4 => ?_)
   ·have h := Ap c4 h
    refine Av (Ab (AW (Ab (Aa Ae rfl (qm rfl (qm rfl ?_))))))
    obtain ⟨v5, a5, b5, h⟩ := Am h
    refine qi CE C7 a5 (Ak b5) rfl (qK Gz C7 rfl (qm rfl (qm rfl ?_)))
    obtain ⟨v6, a6, b6, h⟩ := Am h
    refine qi CE C7 a6 (Ak b6) rfl (qK Gz C7 rfl ?_)
    refine WF [.int .i64 v5.fKind, .int .i64 v5.fIndex, .int .i64 v5.fVersion] [.int .i64 v6.fKind, .int .i64 v6.fIndex, .int .i64 v6.fVersion] (.p rfl) rfl rfl We rfl ?_
    refine A0 (by kernel_rfl) ?_
    refine As rfl (fun c7 => ?_) (fun c7 => ?_)
    ·have h := Ap c7 h
     refine Ab (Aa Ae rfl (qa rfl (Ad ?_)))
     obtain rfl := sj h
     refine Al (sm [] [(4, .e (.one (.pure (.val (.bool false)))))] [] rfl rfl) (AF ?_)
     exact ⟨⟨[_], ⟨.tmp _ _ rfl, trivial⟩, rfl⟩, trivial⟩
    ·have h := Aq c7 h
     refine Av (Aa Ae rfl (qm rfl (Bn rfl (qa rfl (Ad ?_)))))
     exact Aw _ h (sm [] _ _ rfl rfl)
   ·have h := Aq c4 h
    refine A6 ?_
    exact Aw _ h (sm [] _ _ rfl rfl)
  ·refine Al hs (Ab (Aa Ae rfl (qa rfl (Ad ?_))))
   obtain rfl := sj h
   refine Al (sm [] [(4, .e (.one (.pure (.val (.bool true)))))] [] rfl rfl) (AF ?_)
   exact ⟨⟨[_], ⟨.tmp _ _ rfl, trivial⟩, rfl⟩, trivial⟩
set_option maxRecDepth 10000 in
theorem ON (N : Nat) (p0 : Ac) (p1 : List Af) (r : Bool) (h : Ij N p0 p1 = some r) : AC Try.prog 16 [.e (.agg [.pure (.sl (p0.fVersions.map Ah)), .pure (.sl (p0.fNow.map Ah)), .pure (.sl (p0.fTarget.map Ah)), .pure (.sl (p0.fTables.map Ai))]), .e (.one (.pure (.sl (p1.map Az))))] [] (.e (.one (.pure (.val (.bool r))))) := by
 unfold Ij at h
 refine Ar (n := 19) (rs := [.tmp 4]) Try.func16 rfl rfl rfl (BM rfl) (BM rfl) rfl fun w0 S0 => ?_
 refine Ab (Aa Ae rfl (qb rfl (qa rfl (Ad (Ab (Aa Ae rfl (qL DQ Di rfl (qm rfl ?_))))))))
 obtain ⟨v1, a1, h⟩ := bind_some h
 refine AM [] (Jb N p0 p1 v1 a1) W8 rfl (qm rfl (qx rfl (qx rfl (qx rfl (qx rfl (qz C8 rfl (qz G6 rfl (qa rfl (qs AU rfl (qs Fm rfl (qa rfl (Ad (Ab (Aa Ae rfl (qm rfl (B0 rfl (qa rfl (Ad ?_))))))))))))))))))
 obtain rfl := sj h
 refine Al (sm [] [(4, .e (.one (.pure (.val (.bool ((v1.2.2.2 == 15)))))))] [] rfl rfl) (AF ?_)
 exact ⟨⟨[_], ⟨.tmp _ _ rfl, trivial⟩, rfl⟩, trivial⟩
set_option maxRecDepth 10000 in
theorem JU (N : Nat) (r : Bool) (h : EG N = some r) : AC Try.prog 11 [] [] (.e (.one (.pure (.val (.bool r))))) := by
 unfold EG at h
 refine Ar (n := 74) (rs := [.tmp 0]) Try.func11 rfl rfl rfl (BM rfl) (BM rfl) rfl fun w0 S0 => ?_
 refine Ab (Aa Ae rfl (qa rfl (Ad (Ab (Aa Ae rfl ?_)))))
 obtain ⟨v1, a1, h⟩ := bind_some h
 refine AM [2001, 2002, 2003, 2004] (DP N false false v1 a1) TC rfl ?_
 obtain ⟨v2, a2, h⟩ := bind_some h
 refine DZ [2005] [2001, 2002, 2003, 2004] (H2 N v1 v2 a2) UM (DX (fun _ => rfl) CD) rfl (qm rfl (qx rfl (qx rfl (qa rfl (qa rfl (Ad (Ab (Aa Ae rfl ?_))))))))
 obtain ⟨v3, a3, h⟩ := bind_some h
 refine AM [2006, 2007, 2008, 2009] (DP N true false v3 a3) TC rfl ?_
 obtain ⟨v4, a4, h⟩ := bind_some h
 refine DZ [2010] [2006, 2007, 2008, 2009] (H2 N v3 v4 a4) UM (DX (fun _ => rfl) CD) rfl (qm rfl (qx rfl (qx rfl (qa rfl (qa rfl (Ad (Ab (Aa Ae rfl ?_))))))))
 obtain ⟨v5, a5, h⟩ := bind_some h
 refine AM [2011, 2012, 2013, 2014] (DP N true true v5 a5) TC rfl ?_
 obtain ⟨v6, a6, h⟩ := bind_some h
 refine DZ [2015] [2011, 2012, 2013, 2014] (H2 N v5 v6 a6) UM (DX (fun _ => rfl) CD) rfl (qm rfl (qx rfl (qx rfl (qa rfl (qa rfl (Ad (Ab (Aa Ae rfl ?_))))))))
 obtain ⟨v7, a7, h⟩ := bind_some h
 refine AM [2016, 2017, 2018, 2019] (DP N false false v7 a7) TC rfl (A4 GE Pb rfl (En CE C7 GE rfl (DK (BL 2016 _ _ rfl rfl) (DK (BL 2017 _ _ rfl rfl) (DK (BL 2018 _ _ rfl rfl) (DK (BL 2019 _ _ rfl rfl) (DK (BL 30 _ _ rfl rfl) ?_)))))))
 obtain ⟨v8, a8, h⟩ := bind_some h
 refine AM [] (Jb N v7 (([(Af.mk 1 0 1)] : List Af)) v8 a8) W8 rfl (qm rfl (qx rfl (qx rfl (qx rfl (qx rfl (qz C8 rfl (qz G6 rfl (qa rfl (qs AU rfl (qs Fm rfl (qa rfl (Ad (Ab (Aa Ae rfl (A4 GE Pb rfl (A4 GE Pb rfl (A4 GE Pb rfl (A4 GE Pb rfl (En CE C7 GE rfl (qa rfl (Ad ?_)))))))))))))))))))))
 refine AX h (fun v9 => mk [(0, .e (.one (.pure (.val (.bool v9)))))] []) (fun j9 h => ?_) (fun v9 h => ?_)
 ·refine Aa Ae rfl (qm rfl (B0 rfl (qm rfl ?_)))
  refine AI (t := 43) rfl (fun c10 => ?_) (fun c10 => ?_)
  ·have h := Ap c10 h
   refine qm rfl (qm rfl ?_)
   obtain ⟨v11, a11, h⟩ := bind_some h
   refine DZ [] [2005, 40] (HF N v2.1 (([(Af.mk 1 1 1), (Af.mk 2 1 0), (Af.mk 1 0 1), (Af.mk 2 0 0)] : List Af)) v11 a11) WN CD rfl (qp rfl (qm rfl ?_))
   refine AI (t := 48) rfl (fun c12 => ?_) (fun c12 => ?_)
   ·have h := Ap c12 h
    refine qm rfl (B0 rfl (qp rfl (qm rfl ?_)))
    refine AI (t := 52) rfl (fun c13 => ?_) (fun c13 => ?_)
    ·have h := Ap c13 h
     refine qm rfl (B0 rfl (qp rfl (qm rfl ?_)))
     refine AI (t := 56) rfl (fun c14 => ?_) (fun c14 => ?_)
     ·have h := Ap c14 h
      refine qm rfl (B0 rfl (qp rfl (qm rfl ?_)))
      refine AI (t := 60) rfl (fun c15 => ?_) (fun c15 => ?_)
      ·have h := Ap c15 h
       refine qm rfl (B0 rfl (qp rfl (qm rfl ?_)))
       refine AI (t := 64) rfl (fun c16 => ?_) (fun c16 => ?_)
       ·have h := Ap c16 h
        refine qL Ly Fm rfl (A4 G6 MA rfl ?_)
        refine WM [.int .i64 v8.2.2.1.fTable, .int .i64 v8.2.2.1.fWriter, .int .i64 v8.2.2.1.fReader] [.int .i64 0, .int .i64 1, .int .i64 0] (.g rfl rfl) rfl rfl Wy rfl ?_
        refine qp rfl (qm rfl ?_)
        refine AI (t := 69) rfl (fun c17 => ?_) (fun c17 => ?_)
        ·have h := Ap c17 h
         obtain ⟨v18, a18, h⟩ := bind_some h
         refine AM [2020, 2021, 2022, 2023] (DP N false false v18 a18) TC rfl (qm rfl ?_)
         obtain ⟨v19, a19, h⟩ := bind_some h
         refine DZ [] [2020, 2021, 2022, 2023, 40] (ON N v18 (([(Af.mk 1 1 1), (Af.mk 2 1 0), (Af.mk 1 0 1), (Af.mk 2 0 0)] : List Af)) v19 a19) Xn CD rfl (qp rfl (qa rfl (Ad ?_)))
         exact Aw _ h (sm [] _ _ rfl rfl)
        ·have h := Aq c17 h
         refine qn rfl (qn rfl (qn rfl (qp rfl (qa rfl (Ad ?_)))))
         exact Aw _ h (sm [] _ _ rfl rfl)
       ·have h := Aq c16 h
        refine qn rfl (qn rfl (qn rfl (qp rfl (qm rfl (qn rfl (qn rfl (qn rfl (qp rfl (qa rfl (Ad ?_))))))))))
        exact Aw _ h (sm [] _ _ rfl rfl)
      ·have h := Aq c15 h
       refine qn rfl (qn rfl (qp rfl (qm rfl (qn rfl (qn rfl (qn rfl (qp rfl (qm rfl (qn rfl (qn rfl (qn rfl (qp rfl (qa rfl (Ad ?_))))))))))))))
       exact Aw _ h (sm [] _ _ rfl rfl)
     ·have h := Aq c14 h
      refine qn rfl (qn rfl (qp rfl (qm rfl (qn rfl (qn rfl (qp rfl (qm rfl (qn rfl (qn rfl (qn rfl (qp rfl (qm rfl (qn rfl (qn rfl (qn rfl (qp rfl (qa rfl (Ad ?_))))))))))))))))))
      exact Aw _ h (sm [] _ _ rfl rfl)
    ·have h := Aq c13 h
     refine qn rfl (qn rfl (qp rfl (qm rfl (qn rfl (qn rfl (qp rfl (qm rfl (qn rfl (qn rfl (qp rfl (qm rfl (qn rfl (qn rfl (qn rfl (qp rfl (qm rfl (qn rfl (qn rfl (qn rfl (qp rfl (qa rfl (Ad ?_))))))))))))))))))))))
     exact Aw _ h (sm [] _ _ rfl rfl)
   ·have h := Aq c12 h
    refine qn rfl (qn rfl (qp rfl (qm rfl (qn rfl (qn rfl (qp rfl (qm rfl (qn rfl (qn rfl (qp rfl (qm rfl (qn rfl (qn rfl (qp rfl (qm rfl (qn rfl (qn rfl (qn rfl (qp rfl (qm rfl (qn rfl (qn rfl (qn rfl (qp rfl (qa rfl (Ad ?_))))))))))))))))))))))))))
    exact Aw _ h (sm [] _ _ rfl rfl)
  ·have h := Aq c10 h
   refine qn rfl (qn rfl (qn rfl (qp rfl (qm rfl (qn rfl (qn rfl (qp rfl (qm rfl (qn rfl (qn rfl (qp rfl (qm rfl (qn rfl (qn rfl (qp rfl (qm rfl (qn rfl (qn rfl (qp rfl (qm rfl (qn rfl (qn rfl (qn rfl (qp rfl (qm rfl (qn rfl (qn rfl (qn rfl (qp rfl (qa rfl (Ad ?_)))))))))))))))))))))))))))))))
   exact Aw _ h (sm [] _ _ rfl rfl)
 ·obtain rfl := sj h
  refine Al (sm [] [(0, .e (.one (.pure (.val (.bool v9)))))] [] rfl rfl) (AF ?_)
  exact ⟨⟨[_], ⟨.tmp _ _ rfl, trivial⟩, rfl⟩, trivial⟩
set_option maxRecDepth 10000 in
theorem HL (N : Nat) (p0 : List Int) (p1 : Int) (r : Int) (h : DD N p0 p1 = some r) : AC Try.prog 45 [.e (.one (.pure (.sl (p0.map Ba)))), .e (.one (.pure (.val (.int .i64 p1))))] [] (.e (.one (.pure (.val (.int .i64 r))))) := by
 unfold DD at h
 refine Ar (n := 14) (rs := [.tmp 4]) Try.func45 rfl rfl rfl (BM rfl) (BM rfl) rfl fun w0 S0 => ?_
 refine Ab (Aa Ae rfl (qa rfl (Ad (Ab (Ab (Aa Ae rfl (qm rfl (qm rfl (AS I4 rfl (A8 rfl (Ad ?_)))))))))))
 refine As rfl (fun c1 => ?_) (fun c1 => ?_)
 ·have h := Ap c1 h
  refine Ab (Aa Ae rfl (qm rfl (qm rfl ?_)))
  obtain ⟨v2, a2, b2, h⟩ := Am h
  refine qi I4 VE a2 (Ak b2) rfl (qk Wn rfl (If Vs T4 rfl (qa rfl (Ad ?_))))
  obtain rfl := sj h
  refine Al (sm [] [(4, .e (.one (.pure (.val (.int .i64 ((IntKind.wrap .i64 v2)))))))] [] rfl rfl) (AF ?_)
  exact ⟨⟨[_], ⟨.tmp _ _ rfl, trivial⟩, rfl⟩, trivial⟩
 ·have h := Aq c1 h
  refine Av (Ab (Aa Ae rfl (qa rfl (Ad ?_))))
  obtain rfl := sj h
  refine Al (sm [] [(4, .e (.one (.pure (.val (.int .i64 0)))))] [] rfl rfl) (AF ?_)
  exact ⟨⟨[_], ⟨.tmp _ _ rfl, trivial⟩, rfl⟩, trivial⟩
set_option maxRecDepth 10000 in
theorem Ca (N : Nat) (p0 : AE) (r : Bool) (h : A5 N p0 = some r) : AC Try.prog 46 [.e (.agg [.pure (.val (.int .i64 p0.fKind)), .pure (.val (.int .i64 p0.fFrom)), .pure (.val (.int .i64 p0.fTo)), .pure (.val (.bool p0.fAware)), .pure (.sl (p0.fOK.map (Eo eB))), .pure (.sl (p0.fRewrite.map (Eo eB)))])] [] (.e (.one (.pure (.val (.bool r))))) := by
 unfold A5 at h
 refine Ar (n := 11) (rs := [.tmp 2]) Try.func46 rfl rfl rfl (BM rfl) (BM rfl) rfl fun w0 S0 => ?_
 refine Ab (Aa Ae rfl (qb rfl (qa rfl (Ad ?_))))
 refine AX h (fun v1 => mk [(2, .e (.one (.pure (.val (.bool v1)))))] []) (fun j1 h => ?_) (fun v1 h => ?_)
 ·refine Aa Ae rfl (qf Fj rfl (ql Ch rfl (B0 rfl (qm rfl ?_))))
  refine AI (t := 6) rfl (fun c2 => ?_) (fun c2 => ?_)
  ·have h := Ap c2 h
   refine qn rfl (qn rfl (qn rfl (qp rfl (qa rfl (Ad ?_)))))
   exact Aw _ h (sm [] _ _ rfl rfl)
  ·have h := Aq c2 h
   refine qf Fj rfl (ql Ch rfl (B0 rfl (qp rfl (qa rfl (Ad ?_)))))
   exact Aw _ h (sm [] _ _ rfl rfl)
 ·obtain rfl := sj h
  refine Al (sm [] [(2, .e (.one (.pure (.val (.bool v1)))))] [] rfl rfl) (AF ?_)
  exact ⟨⟨[_], ⟨.tmp _ _ rfl, trivial⟩, rfl⟩, trivial⟩
set_option maxRecDepth 10000 in
theorem HB (N : Nat) (p0 : Int) (p1 : Int) (p2 : Int) (p3 : Bool) (r : (List (List Bool))) (h : DA N p0 p1 p2 p3 = some r) : AC Try.prog 47 [.e (.one (.pure (.val (.int .i64 p0)))), .e (.one (.pure (.val (.int .i64 p1)))), .e (.one (.pure (.val (.int .u16 p2)))), .e (.one (.pure (.val (.bool p3))))] [(1, r.map (Eo eB))] (.e (.one (.own 0))) := by
 unfold DA at h
 refine Ar (n := 47) (rs := [.tmp 8]) Try.func47 rfl rfl rfl (BM rfl) (BM rfl) rfl fun w0 S0 => ?_
 refine Ab (Aa Ae rfl (qa rfl (Ad (Ab (Aa Ae rfl (qa rfl (Ad (Ab (Ab (Aa Ae rfl (qa rfl (Ad ?_))))))))))))
 refine AR (L := Cb N p0 p1 p2 p3) h (fun v1 => mk [(0, .e (.one (.pure (.val (.int .i64 p0))))), (1, .e (.one (.pure (.val (.int .i64 p1))))), (2, .e (.one (.pure (.val (.int .u16 p2))))), (3, .e (.one (.pure (.val (.bool p3))))), (9, .e (.one (.own 2001))), (10, .e (.one (.pure (.val (.int .i64 v1.2)))))] [(2001, .vec 1 (v1.1.map (Eo eB)))]) (fun v2 => mk [(9, .e (.one (.own 2002)))] [(2002, .vec 1 (v2.map (Eo eB)))]) (fun _ _ => rfl) ((Cj 9 2010 1 rfl rfl rfl).trans (sm [(2001, 2010)] _ _ rfl rfl)) (fun j1 n1 v1 h => ?_) (fun v2 s h hs => ?_)
 ·unfold Cb at h
  refine Ab (Ab (Aa Ae rfl (qm rfl (qm rfl (A8 rfl (Ad ?_))))))
  refine As rfl (fun c3 => ?_) (fun c3 => ?_)
  ·have h := Ap c3 h
   refine Av (Ab (AW (Ab (Aa Ae rfl (qa rfl (Ad (Ab (Ab (Aa Ae rfl (qa rfl (Ad ?_)))))))))))
   refine AR (L := Ce N p1 p2 p3 v1) h (fun v4 => mk [(0, .e (.one (.pure (.val (.int .i64 p0))))), (1, .e (.one (.pure (.val (.int .i64 p1))))), (2, .e (.one (.pure (.val (.int .u16 p2))))), (3, .e (.one (.pure (.val (.bool p3))))), (9, .e (.one (.own 2003))), (10, .e (.one (.pure (.val (.int .i64 v1.2))))), (11, .e (.one (.own 2004))), (12, .e (.one (.pure (.val (.int .i64 v4.2)))))] [(2003, .vec 1 (v1.1.map (Eo eB))), (2004, .vec 1 (v4.1.map eB))]) (fun v5 => mk [(0, .e (.one (.pure (.val (.int .i64 p0))))), (1, .e (.one (.pure (.val (.int .i64 p1))))), (2, .e (.one (.pure (.val (.int .u16 p2))))), (3, .e (.one (.pure (.val (.bool p3))))), (9, .e (.one (.own 2005))), (10, .e (.one (.pure (.val (.int .i64 v1.2))))), (11, .e (.one (.own 2006)))] [(2005, .vec 1 (v1.1.map (Eo eB))), (2006, .vec 1 (v5.map eB))]) (fun _ _ => rfl) ((Cj 11 2009 1 rfl rfl rfl).trans (sm [(2003, 2001), (2004, 2009)] _ _ rfl rfl)) (fun j4 n4 v4 h => ?_) (fun v5 s h hs => ?_)
   ·unfold Ce at h
    refine Ab (Ab (Aa Ae rfl (qm rfl (qm rfl (A8 rfl (Ad ?_))))))
    refine As rfl (fun c6 => ?_) (fun c6 => ?_)
    ·have h := Ap c6 h
     refine Av ?_
     refine AX h (fun v7 => mk [(0, .e (.one (.pure (.val (.int .i64 p0))))), (1, .e (.one (.pure (.val (.int .i64 p1))))), (2, .e (.one (.pure (.val (.int .u16 p2))))), (3, .e (.one (.pure (.val (.bool p3))))), (9, .e (.one (.own 2007))), (10, .e (.one (.pure (.val (.int .i64 v1.2))))), (11, .e (.one (.own 2008))), (12, .e (.one (.pure (.val (.int .i64 v4.2)))))] [(2007, .vec 1 (v1.1.map (Eo eB))), (2008, .vec 1 (v7.map eB))]) (fun j7 h => ?_) (fun v7 h => ?_)
     ·refine AW (Aa Ae rfl (qm rfl (qm rfl (qm rfl ?_))))
      refine AI (t := 25) rfl (fun c8 => ?_) (fun c8 => ?_)
      ·have h := Ap c8 h
       refine qm rfl (qm rfl (B0 rfl (qp rfl (qm rfl ?_))))
       refine AI (t := 30) rfl (fun c9 => ?_) (fun c9 => ?_)
       ·have h := Ap c9 h
        refine qn rfl (qn rfl (qn rfl (qn rfl (qn rfl (qn rfl (qn rfl (qn rfl (qp rfl (En FO Pt Va rfl ?_)))))))))
        obtain ⟨c10, h⟩ := AN h
        refine DI (f := eB) FO FO Pt VK Va c10 rfl (qa rfl (Ad ?_))
        exact Aw _ h (sm [(2007, 2003), (2008, 41)] _ _ rfl rfl)
       ·have h := Aq c9 h
        refine qm rfl (qm rfl (KT rfl (qm rfl (Bn rfl ?_))))
        obtain ⟨c11, h⟩ := AN h
        refine Ip rfl c11 (J7 rfl (by decide) (B0 rfl (qp rfl (En FO Pt Va rfl ?_))))
        obtain ⟨c12, h⟩ := AN h
        refine DI (f := eB) FO FO Pt VK Va c12 rfl (qa rfl (Ad ?_))
        exact Aw _ h (sm [(2007, 2003), (2008, 41)] _ _ rfl rfl)
      ·have h := Aq c8 h
       refine qn rfl (qn rfl (qn rfl (qp rfl (qm rfl (qm rfl (qm rfl (KT rfl (qm rfl (Bn rfl ?_)))))))))
       obtain ⟨c13, h⟩ := AN h
       refine Ip rfl c13 (J7 rfl (by decide) (B0 rfl (qp rfl (En FO Pt Va rfl ?_))))
       obtain ⟨c14, h⟩ := AN h
       refine DI (f := eB) FO FO Pt VK Va c14 rfl (qa rfl (Ad ?_))
       exact Aw _ h (sm [(2007, 2003), (2008, 41)] _ _ rfl rfl)
     ·refine Aa Ae rfl (qm rfl (Bn rfl (qa rfl (Ad ?_))))
      exact Aw _ h (sm [(2003, 2007), (2004, 2008)] _ _ rfl rfl)
    ·have h := Aq c6 h
     refine A6 ?_
     exact Aw _ h (sm [(2005, 2003), (2006, 2004)] _ _ rfl rfl)
   ·refine Al hs (Aa Ae rfl (qm rfl (qm rfl (DK (BL 2006 _ _ rfl rfl) (En FE L4 VV rfl ?_)))))
    obtain ⟨c15, h⟩ := AN h
    refine DI (f := (Eo eB)) FE FE L4 W4 VV c15 rfl (qa rfl (Ad (Aa Ae rfl (qm rfl (Bn rfl (qa rfl (Ad ?_)))))))
    exact Aw _ h (sm [(2001, 45)] _ _ rfl rfl)
  ·have h := Aq c3 h
   refine A6 ?_
   exact Aw _ h (sm [(2002, 2001)] _ _ rfl rfl)
 ·refine Al hs (Ab (Aa Ae rfl (qm rfl (qa rfl (Ad ?_)))))
  obtain rfl := sj h
  refine Al (sm [(1000, 2002)] [(8, .e (.one (.own 1000)))] [(1000, .vec 1 (v2.map (Eo eB)))] rfl rfl) (AF ?_)
  exact ⟨⟨[_], ⟨.tmp _ _ rfl, trivial⟩, rfl⟩, ⟨rfl, trivial⟩⟩
set_option maxRecDepth 10000 in
theorem Lp (N : Nat) (p0 : BI) (r : Ac × Bool) (h : EC N p0 = some r) : AC Try.prog 22 [.e (.agg [.pure (.sl (p0.fVersions.map Ba)), .pure (.sl (p0.fNow.map Ba)), .pure (.sl (p0.fTarget.map Ba)), .pure (.sl (p0.fLinks.map BV))])] [(1, r.1.fVersions.map Ah), (1, r.1.fNow.map Ah), (1, r.1.fTarget.map Ah), (6, r.1.fTables.map Ai)] (.tup [.agg [.own 0, .own 1, .own 2, .own 3], .one (.pure (.val (.bool r.2)))]) := by
 unfold EC at h
 refine Ar (n := 152) (rs := [.cell 2 30, .tmp 3]) Try.func22 rfl rfl rfl (BM rfl) (BM rfl) rfl fun w0 S0 => ?_
 refine Ab (Aa Ae rfl (qb rfl (qz Qh rfl (qa rfl (Ad (Ab ?_))))))
 refine AX h (fun v1 => mk [(1, .e (.one (.ptr 1 0))), (2, .e (.one (.ptr 2 0))), (19, .e (.one (.pure (.val (.bool v1)))))] [(1, .box [.pure (.sl (p0.fVersions.map Ba)), .pure (.sl (p0.fNow.map Ba)), .pure (.sl (p0.fTarget.map Ba)), .pure (.sl (p0.fLinks.map BV))]), (2, .box [.pure (.nil0), .pure (.nil0), .pure (.nil0), .pure (.nil0)])]) (fun j1 h => ?_) (fun v1 h => ?_)
 ·refine Aa Ae rfl (qf OF rfl (ql Ts rfl (AS I4 rfl (Gd rfl (qm rfl ?_)))))
  refine AI (t := 14) rfl (fun c2 => ?_) (fun c2 => ?_)
  ·have h := Ap c2 h
   refine qn rfl (qn rfl (qn rfl (qn rfl (qp rfl (Ad ?_)))))
   exact Aw _ h (sm [] _ _ rfl rfl)
  ·have h := Aq c2 h
   refine qf OM rfl (ql Vo rfl (AS Ta rfl (Gd rfl (qp rfl (Ad ?_)))))
   exact Aw _ h (sm [] _ _ rfl rfl)
 ·refine As rfl (fun c3 => ?_) (fun c3 => ?_)
  ·have h := Ap c3 h
   refine Ab (Aa Ae rfl (A4 Qh V5 rfl (qs Di rfl (qa rfl (Ad ?_)))))
   obtain rfl := sj h
   refine Al ((AD 2 0 2001 1 _ rfl rfl rfl rfl).trans ((AD 2 1 2002 1 _ rfl rfl rfl rfl).trans ((AD 2 2 2003 1 _ rfl rfl rfl rfl).trans ((AD 2 3 2004 6 _ rfl rfl rfl rfl).trans (sm [(1000, 2001), (1001, 2002), (1002, 2003), (1003, 2004)] [(2, .e (.one (.ptr 2 0))), (3, .e (.one (.pure (.val (.bool false)))))] [(2, .box [.own 1000, .own 1001, .own 1002, .own 1003]), (1000, .vec 1 ((([] : List Int)).map Ah)), (1001, .vec 1 ((([] : List Int)).map Ah)), (1002, .vec 1 ((([] : List Int)).map Ah)), (1003, .vec 6 ((([] : List AE)).map Ai))] rfl rfl))))) (AF ?_)
   exact ⟨⟨[_, _], ⟨.cellN _ _ _ _ _ _ _ rfl rfl DQ Di rfl rfl (Hc rfl), ⟨.tmp _ _ rfl, trivial⟩⟩, rfl⟩, ⟨rfl, rfl, rfl, rfl, trivial⟩⟩
  ·have h := Aq c3 h
   refine Av (Ab (Aa Ae rfl (qz Qh rfl (Ad (Ab (Ab (Aa Ae rfl (qa rfl (Ad ?_)))))))))
   refine AR (L := Cv N p0) h (fun v4 => mk [(1, .e (.one (.ptr 1 0))), (2, .e (.one (.ptr 2 0))), (4, .e (.one (.ptr 4 0))), (5, .e (.one (.pure (.val (.int .i64 v4.2.2.2)))))] [(1, .box [.pure (.sl (p0.fVersions.map Ba)), .pure (.sl (p0.fNow.map Ba)), .pure (.sl (p0.fTarget.map Ba)), .pure (.sl (p0.fLinks.map BV))]), (2, .box [.pure (.nil0), .pure (.nil0), .pure (.nil0), .pure (.nil0)]), (4, .box [.own 2005, .own 2006, .own 2007, .pure (.nil0)]), (2005, .vec 1 (v4.1.map Ah)), (2006, .vec 1 (v4.2.1.map Ah)), (2007, .vec 1 (v4.2.2.1.map Ah))]) (fun v5 => mk [(1, .e (.one (.ptr 1 0))), (2, .e (.one (.ptr 2 0))), (4, .e (.one (.ptr 4 0)))] [(1, .box [.pure (.sl (p0.fVersions.map Ba)), .pure (.sl (p0.fNow.map Ba)), .pure (.sl (p0.fTarget.map Ba)), .pure (.sl (p0.fLinks.map BV))]), (2, .box [.pure (.nil0), .pure (.nil0), .pure (.nil0), .pure (.nil0)]), (4, .box [.own 2008, .own 2009, .own 2010, .pure (.nil0)]), (2008, .vec 1 (v5.1.map Ah)), (2009, .vec 1 (v5.2.1.map Ah)), (2010, .vec 1 (v5.2.2.map Ah))]) (fun _ _ => rfl) ((AD 4 0 2011 1 _ rfl rfl rfl rfl).trans ((AD 4 1 2012 1 _ rfl rfl rfl rfl).trans ((AD 4 2 2013 1 _ rfl rfl rfl rfl).trans (sm [(2005, 2011), (2006, 2012), (2007, 2013)] _ _ rfl rfl)))) (fun j4 n4 v4 h => ?_) (fun v5 s h hs => ?_)
   ·unfold Cv at h
    refine Ab (Ab (Aa Ae rfl (qm rfl (qf OF rfl (ql Ts rfl (AS I4 rfl (A8 rfl (Ad ?_))))))))
    refine As rfl (fun c6 => ?_) (fun c6 => ?_)
    ·have h := Ap c6 h
     refine Av (Ab (AW (Ab (Aa Ae rfl (qf OF rfl (ql Ts rfl (qm rfl ?_)))))))
     obtain ⟨v7, a7, b7, h⟩ := Am h
     refine qi I4 VE a7 (Ak b7) rfl (qk Wn rfl (J7 rfl (by decide) (If Vs T4 rfl (Bn rfl (qa rfl (Ad (Ab (Aa Ae rfl (qf Bs rfl (ql A9 rfl (qm rfl (En AG Dh Kd rfl ?_))))))))))))
     obtain ⟨c8, h⟩ := AN h
     refine DI (f := Ah) AG AG Dh KH Kd c8 rfl (qf Bs rfl (qs RI rfl (Ad (Ab (Aa Ae rfl (qf FW rfl (ql A9 rfl (qf UN rfl (ql Ts rfl (qm rfl ?_))))))))))
     obtain ⟨v9, a9, h⟩ := bind_some h
     refine AM [] (HL N p0.fNow v4.2.2.2 v9 a9) Wl rfl (qm rfl ?_)
     obtain ⟨c10, h⟩ := AN h
     refine J7 rfl c10 (En AG Dh Kd rfl ?_)
     obtain ⟨c11, h⟩ := AN h
     refine DI (f := Ah) AG AG Dh KH Kd c11 rfl (qf FW rfl (qs RI rfl (A0 (by kernel_rfl) (Aa Ae rfl (qf HV rfl (ql A9 rfl (qf TL rfl (ql Ts rfl (qm rfl ?_)))))))))
     obtain ⟨v12, a12, h⟩ := bind_some h
     refine AM [] (HL N p0.fTarget v4.2.2.2 v12 a12) Wl rfl (qm rfl ?_)
     obtain ⟨c13, h⟩ := AN h
     refine J7 rfl c13 (En AG Dh Kd rfl ?_)
     obtain ⟨c14, h⟩ := AN h
     refine DI (f := Ah) AG AG Dh KH Kd c14 rfl (qf HV rfl (qs RI rfl (A0 (by kernel_rfl) (Aa Ae rfl (qm rfl (Bn rfl (qa rfl (Ad ?_))))))))
     exact Aw _ h (sm [(2005, 40), (2006, 51), (2007, 62)] _ _ rfl rfl)
    ·have h := Aq c6 h
     refine A6 ?_
     exact Aw _ h (sm [(2008, 2005), (2009, 2006), (2010, 2007)] _ _ rfl rfl)
   ·refine Al hs (Ab (Ab (Aa Ae rfl (qa rfl (Ad ?_)))))
    refine AR (L := Bu N p0 v5) h (fun v15 => mk [(1, .e (.one (.ptr 1 0))), (2, .e (.one (.ptr 2 0))), (4, .e (.one (.ptr 4 0))), (7, .e (.one (.pure (.val (.int .i64 v15.2)))))] [(1, .box [.pure (.sl (p0.fVersions.map Ba)), .pure (.sl (p0.fNow.map Ba)), .pure (.sl (p0.fTarget.map Ba)), .pure (.sl (p0.fLinks.map BV))]), (2, .box [.pure (.nil0), .pure (.nil0), .pure (.nil0), .pure (.nil0)]), (4, .box [.own 2014, .own 2015, .own 2016, .own 2017]), (2014, .vec 1 (v5.1.map Ah)), (2015, .vec 1 (v5.2.1.map Ah)), (2016, .vec 1 (v5.2.2.map Ah)), (2017, .vec 6 (v15.1.map Ai))]) (fun v16 => mk [(2, .e (.one (.ptr 2 0))), (4, .e (.one (.ptr 4 0)))] [(2, .box [.pure (.nil0), .pure (.nil0), .pure (.nil0), .pure (.nil0)]), (4, .box [.own 2018, .own 2019, .own 2020, .own 2021]), (2018, .vec 1 (v5.1.map Ah)), (2019, .vec 1 (v5.2.1.map Ah)), (2020, .vec 1 (v5.2.2.map Ah)), (2021, .vec 6 (v16.map Ai))]) (fun _ _ => rfl) ((AD 4 3 2039 6 _ rfl rfl rfl rfl).trans (sm [(2014, 2008), (2015, 2009), (2016, 2010), (2017, 2039)] _ _ rfl rfl)) (fun j15 n15 v15 h => ?_) (fun v16 s h hs => ?_)
    ·unfold Bu at h
     refine Ab ?_
     refine AX h (fun v17 => mk [(1, .e (.one (.ptr 1 0))), (2, .e (.one (.ptr 2 0))), (4, .e (.one (.ptr 4 0))), (7, .e (.one (.pure (.val (.int .i64 v15.2))))), (74, .e (.one (.pure (.val (.bool v17)))))] [(1, .box [.pure (.sl (p0.fVersions.map Ba)), .pure (.sl (p0.fNow.map Ba)), .pure (.sl (p0.fTarget.map Ba)), .pure (.sl (p0.fLinks.map BV))]), (2, .box [.pure (.nil0), .pure (.nil0), .pure (.nil0), .pure (.nil0)]), (4, .box [.own 2022, .own 2023, .own 2024, .own 2025]), (2022, .vec 1 (v5.1.map Ah)), (2023, .vec 1 (v5.2.1.map Ah)), (2024, .vec 1 (v5.2.2.map Ah)), (2025, .vec 6 (v15.1.map Ai))]) (fun j17 h => ?_) (fun v17 h => ?_)
     ·refine Aa Ae rfl (qm rfl (qf OM rfl (ql Vo rfl (AS Ta rfl (A8 rfl (qm rfl ?_))))))
      refine AI (t := 69) rfl (fun c18 => ?_) (fun c18 => ?_)
      ·have h := Ap c18 h
       refine qf Bs rfl (ql A9 rfl (Fg AG rfl (Gd rfl (qp rfl (Ad ?_)))))
       exact Aw _ h (sm [(2022, 2014), (2023, 2015), (2024, 2016), (2025, 2017)] _ _ rfl rfl)
      ·have h := Aq c18 h
       refine qn rfl (qn rfl (qn rfl (qn rfl (qp rfl (Ad ?_)))))
       exact Aw _ h (sm [(2022, 2014), (2023, 2015), (2024, 2016), (2025, 2017)] _ _ rfl rfl)
     ·refine As rfl (fun c19 => ?_) (fun c19 => ?_)
      ·have h := Ap c19 h
       refine Av (Ab (AW (Ab (Aa Ae rfl (qf OM rfl (ql Vo rfl (qm rfl ?_)))))))
       obtain ⟨v20, a20, b20, h⟩ := Am h
       refine qi Ta Vw a20 (Ak b20) rfl (qK XW Vw rfl (qz X4 rfl (qs Vw rfl (Ad (Ab (Aa Ae rfl (qf Uc rfl (ql Wn rfl (J7 rfl (by decide) (If Vs T4 rfl (Bn rfl (qf Uq rfl (ql Wn rfl (If Vs T4 rfl (qf Bs rfl (ql A9 rfl (Fg AG rfl ?_)))))))))))))))))
       obtain ⟨c21, h⟩ := AN h
       refine J7 rfl c21 (qf T7 rfl (ql Wn rfl (If Vs T4 rfl (qf Bs rfl (ql A9 rfl (Fg AG rfl ?_))))))
       obtain ⟨c22, h⟩ := AN h
       refine J7 rfl c22 (A4 J5 Wt rfl (qz J5 rfl (qs DL rfl (A0 (by kernel_rfl) ?_))))
       refine AX h (fun v23 => mk [(1, .e (.one (.ptr 1 0))), (2, .e (.one (.ptr 2 0))), (4, .e (.one (.ptr 4 0))), (7, .e (.one (.pure (.val (.int .i64 v15.2))))), (8, .e (.one (.ptr 8 0))), (9, .e (.one (.ptr 9 0)))] [(1, .box [.pure (.sl (p0.fVersions.map Ba)), .pure (.sl (p0.fNow.map Ba)), .pure (.sl (p0.fTarget.map Ba)), .pure (.sl (p0.fLinks.map BV))]), (2, .box [.pure (.nil0), .pure (.nil0), .pure (.nil0), .pure (.nil0)]), (4, .box [.own 2026, .own 2027, .own 2028, .own 2029]), (8, .box [.pure (.val (.int .u8 v20.fKind)), .pure (.val (.int .u8 v20.fFrom)), .pure (.val (.int .u8 v20.fTo)), .pure (.val (.bool v20.fAware)), .pure (.val (.int .u16 v20.fBad)), .pure (.val (.int .u16 v20.fLost))]), (9, .box [.pure (.val (.int .i64 ((IntKind.wrap .i64 (1 + (IntKind.wrap .i64 ((Int.tmod v20.fKind 4)))))))), .pure (.val (.int .i64 ((Int.tmod ((IntKind.wrap .i64 v20.fFrom)) ((v5.1.length : Int)))))), .pure (.val (.int .i64 ((Int.tmod ((IntKind.wrap .i64 v20.fTo)) ((v5.1.length : Int)))))), .pure (.val (.bool v23)), .pure (.nil0), .pure (.nil0)]), (2026, .vec 1 (v5.1.map Ah)), (2027, .vec 1 (v5.2.1.map Ah)), (2028, .vec 1 (v5.2.2.map Ah)), (2029, .vec 6 (v15.1.map Ai))]) (fun j23 h => ?_) (fun v23 h => ?_)
       ·refine Aa Ae rfl (qf UA rfl (ql Q5 rfl (qm rfl ?_)))
        refine AI (t := 104) rfl (fun c24 => ?_) (fun c24 => ?_)
        ·have h := Ap c24 h
         refine qL Gw DL rfl ?_
         obtain ⟨v25, a25, h⟩ := bind_some h
         refine AM [] (Ca N ((AE.mk ((IntKind.wrap .i64 (1 + (IntKind.wrap .i64 ((Int.tmod v20.fKind 4)))))) ((Int.tmod ((IntKind.wrap .i64 v20.fFrom)) ((v5.1.length : Int)))) ((Int.tmod ((IntKind.wrap .i64 v20.fTo)) ((v5.1.length : Int)))) false (([] : List (List Bool))) (([] : List (List Bool))))) v25 a25) O1 rfl (CG rfl (qp rfl (qf H0 rfl (qs Pt rfl (Ad ?_)))))
         exact Aw _ h (sm [(2026, 2022), (2027, 2023), (2028, 2024), (2029, 2025)] _ _ rfl rfl)
        ·have h := Aq c24 h
         refine qn rfl (qn rfl (qn rfl (qp rfl (qf H0 rfl (qs Pt rfl (Ad ?_))))))
         exact Aw _ h (sm [(2026, 2022), (2027, 2023), (2028, 2024), (2029, 2025)] _ _ rfl rfl)
       ·refine Ab (Aa Ae rfl (qf Bs rfl (ql A9 rfl (qf CU rfl (ql Ch rfl ?_)))))
        obtain ⟨v26, a26, b26, h⟩ := Am h
        refine qI AG Dh a26 (Ak b26) rfl (qj Ch (Ak b26) rfl (qf Bs rfl (ql A9 rfl (qf Ho rfl (ql Ch rfl ?_)))))
        obtain ⟨v27, a27, b27, h⟩ := Am h
        refine qI AG Dh a27 (Ak b27) rfl (qj Ch (Ak b27) rfl (qf UE rfl (ql WW rfl ?_)))
        obtain ⟨v28, a28, h⟩ := bind_some h
        refine AM [2030] (HB N v26 v27 v20.fBad false v28 a28) WA rfl (qf IV rfl (qs Xf rfl (A0 (by kernel_rfl) ?_)))
        refine AX h (fun v29 => mk [(1, .e (.one (.ptr 1 0))), (2, .e (.one (.ptr 2 0))), (4, .e (.one (.ptr 4 0))), (7, .e (.one (.pure (.val (.int .i64 v15.2))))), (9, .e (.one (.ptr 9 0)))] [(1, .box [.pure (.sl (p0.fVersions.map Ba)), .pure (.sl (p0.fNow.map Ba)), .pure (.sl (p0.fTarget.map Ba)), .pure (.sl (p0.fLinks.map BV))]), (2, .box [.pure (.nil0), .pure (.nil0), .pure (.nil0), .pure (.nil0)]), (4, .box [.own 2031, .own 2032, .own 2033, .own 2034]), (9, .box [.pure (.val (.int .i64 ((IntKind.wrap .i64 (1 + (IntKind.wrap .i64 ((Int.tmod v20.fKind 4)))))))), .pure (.val (.int .i64 ((Int.tmod ((IntKind.wrap .i64 v20.fFrom)) ((v5.1.length : Int)))))), .pure (.val (.int .i64 ((Int.tmod ((IntKind.wrap .i64 v20.fTo)) ((v5.1.length : Int)))))), .pure (.val (.bool v23)), .own 2035, .own 2036]), (2031, .vec 1 (v5.1.map Ah)), (2032, .vec 1 (v5.2.1.map Ah)), (2033, .vec 1 (v5.2.2.map Ah)), (2034, .vec 6 (v15.1.map Ai)), (2035, .vec 1 (v28.map (Eo eB))), (2036, .vec 1 (v29.map (Eo eB)))]) (fun j29 h => ?_) (fun v29 h => ?_)
        ·refine Ab (Aa Ae rfl (qf Fj rfl (ql Ch rfl (B0 rfl (Ad ?_)))))
         refine As rfl (fun c30 => ?_) (fun c30 => ?_)
         ·have h := Ap c30 h
          refine Aa Ae rfl (qf Bs rfl (ql A9 rfl (qf CU rfl (ql Ch rfl ?_))))
          obtain ⟨v31, a31, b31, h⟩ := Am h
          refine qI AG Dh a31 (Ak b31) rfl (qj Ch (Ak b31) rfl (qf Bs rfl (ql A9 rfl (qf CU rfl (ql Ch rfl ?_)))))
          obtain ⟨v32, a32, b32, h⟩ := Am h
          refine qI AG Dh a32 (Ak b32) rfl (qj Ch (Ak b32) rfl (qf UJ rfl (ql WW rfl ?_)))
          obtain ⟨v33, a33, h⟩ := bind_some h
          refine AM [2037] (HB N v31 v32 v20.fLost true v33 a33) WA rfl (qf FY rfl (qs Xf rfl (A0 (by kernel_rfl) ?_)))
          exact Aw _ h (sm [(2031, 2026), (2032, 2027), (2033, 2028), (2034, 2029), (2035, 2030), (2036, 2037)] _ _ rfl rfl)
         ·have h := Aq c30 h
          refine Av ?_
          exact Aw _ h ((AD 9 5 2038 1 _ rfl rfl rfl rfl).trans (sm [(2031, 2026), (2032, 2027), (2033, 2028), (2034, 2029), (2035, 2030), (2036, 2038)] _ _ rfl rfl))
        ·refine Aa Ae rfl (qf CC rfl (ql Gl rfl (qL Gw DL rfl (DK (BL 2035 _ _ rfl rfl) (DK (BL 2036 _ _ rfl rfl) (En DT DL J5 rfl ?_))))))
         obtain ⟨c34, h⟩ := AN h
         refine DI (f := Ai) DT DT DL WO J5 c34 rfl (qf CC rfl (qs Xq rfl (Ad (Aa Ae rfl (qm rfl (Bn rfl (qa rfl (Ad ?_))))))))
         exact Aw _ h (sm [(2014, 2031), (2015, 2032), (2016, 2033), (2017, 149)] _ _ rfl rfl)
      ·have h := Aq c19 h
       refine A6 ?_
       exact Aw _ h (sm [(2018, 2022), (2019, 2023), (2020, 2024), (2021, 2025)] _ _ rfl rfl)
    ·refine Al hs (Ab (Aa Ae rfl (qL DQ Di rfl (qs Di rfl (qa rfl (Ad ?_))))))
     obtain rfl := sj h
     refine Al (sm [(1000, 2018), (1001, 2019), (1002, 2020), (1003, 2021)] [(2, .e (.one (.ptr 2 0))), (3, .e (.one (.pure (.val (.bool true)))))] [(2, .box [.own 1000, .own 1001, .own 1002, .own 1003]), (1000, .vec 1 (v5.1.map Ah)), (1001, .vec 1 (v5.2.1.map Ah)), (1002, .vec 1 (v5.2.2.map Ah)), (1003, .vec 6 (v16.map Ai))] rfl rfl) (AF ?_)
     exact ⟨⟨[_, _], ⟨.cellN _ _ _ _ _ _ _ rfl rfl DQ Di rfl rfl (Hc rfl), ⟨.tmp _ _ rfl, trivial⟩⟩, rfl⟩, ⟨rfl, rfl, rfl, rfl, trivial⟩⟩
set_option maxRecDepth 10000 in
theorem GW (N : Nat) (p0 : List (List Bool)) (p1 : Int) (p2 : Int) (r : Bool) (h : Da N p0 p1 p2 = some r) : AC Try.prog 91 [.e (.one (.pure (.sl (p0.map (Eo eB))))), .e (.one (.pure (.val (.int .i64 p1)))), .e (.one (.pure (.val (.int .i64 p2))))] [] (.e (.one (.pure (.val (.bool r))))) := by
 unfold Da at h
 refine Ar (n := 24) (rs := [.tmp 6]) Try.func91 rfl rfl rfl (BM rfl) (BM rfl) rfl fun w0 S0 => ?_
 refine Ab (Aa Ae rfl (qa rfl (Ad (Ab (Ab (Aa Ae rfl (qm rfl (AS FE rfl (qm rfl (CB rfl (Ad ?_)))))))))))
 refine As rfl (fun c1 => ?_) (fun c1 => ?_)
 ·have h := Ap c1 h
  refine Ab (Aa Ae rfl (qa rfl (Ad ?_)))
  obtain rfl := sj h
  refine Al (sm [] [(6, .e (.one (.pure (.val (.bool false)))))] [] rfl rfl) (AF ?_)
  exact ⟨⟨[_], ⟨.tmp _ _ rfl, trivial⟩, rfl⟩, trivial⟩
 ·have h := Aq c1 h
  refine Av (Ab (Ab (Aa Ae rfl (qa rfl (Ad ?_)))))
  refine AR (L := Cg N p0 p1 p2) h (fun v2 => mk [(0, .e (.one (.pure (.sl (p0.map (Eo eB)))))), (1, .e (.one (.pure (.val (.int .i64 p1))))), (2, .e (.one (.pure (.val (.int .i64 p2))))), (7, .e (.one (.pure (.val (.int .i64 v2)))))] []) (fun v3 => mk [] []) (fun _ _ => rfl) (sm [] _ _ rfl rfl) (fun j2 n2 v2 h => ?_) (fun v3 s h hs => ?_)
  ·unfold Cg at h
   refine Ab (Ab (Aa Ae rfl (qm rfl (qm rfl (A8 rfl (Ad ?_))))))
   refine As rfl (fun c4 => ?_) (fun c4 => ?_)
   ·have h := Ap c4 h
    refine Av (Ab (AW (Ab (Aa Ae rfl (qm rfl (qm rfl ?_))))))
    obtain ⟨v5, a5, b5, h⟩ := Am h
    refine qi FE L4 a5 (Ak b5) rfl (qk OJ rfl (AS FO rfl (qm rfl (CB rfl (Ad ?_)))))
    refine As rfl (fun c6 => ?_) (fun c6 => ?_)
    ·have h := Ap c6 h
     refine Ab (Aa Ae rfl (qa rfl (Ad ?_)))
     obtain rfl := sj h
     refine Al (sm [] [(6, .e (.one (.pure (.val (.bool false)))))] [] rfl rfl) (AF ?_)
     exact ⟨⟨[_], ⟨.tmp _ _ rfl, trivial⟩, rfl⟩, trivial⟩
    ·have h := Aq c6 h
     refine Av (Aa Ae rfl (qm rfl (Bn rfl (qa rfl (Ad ?_)))))
     exact Aw _ h (sm [] _ _ rfl rfl)
   ·have h := Aq c4 h
    refine A6 ?_
    exact Aw _ h (sm [] _ _ rfl rfl)
  ·refine Al hs (Ab (Aa Ae rfl (qa rfl (Ad ?_))))
   obtain rfl := sj h
   refine Al (sm [] [(6, .e (.one (.pure (.val (.bool true)))))] [] rfl rfl) (AF ?_)
   exact ⟨⟨[_], ⟨.tmp _ _ rfl, trivial⟩, rfl⟩, trivial⟩
set_option maxRecDepth 10000 in
theorem JX (N : Nat) (p0 : Ac) (p1 : AE) (r : Int) (h : Eb N p0 p1 = some r) : AC Try.prog 64 [.e (.agg [.pure (.sl (p0.fVersions.map Ah)), .pure (.sl (p0.fNow.map Ah)), .pure (.sl (p0.fTarget.map Ah)), .pure (.sl (p0.fTables.map Ai))]), .e (.agg [.pure (.val (.int .i64 p1.fKind)), .pure (.val (.int .i64 p1.fFrom)), .pure (.val (.int .i64 p1.fTo)), .pure (.val (.bool p1.fAware)), .pure (.sl (p1.fOK.map (Eo eB))), .pure (.sl (p1.fRewrite.map (Eo eB)))])] [] (.e (.one (.pure (.val (.int .i64 r))))) := by
 unfold Eb at h
 refine Ar (n := 101) (rs := [.tmp 4]) Try.func64 rfl rfl rfl (BM rfl) (BM rfl) rfl fun w0 S0 => ?_
 refine Ab (Aa Ae rfl (qb rfl (qb rfl (qa rfl (Ad (Ab ?_))))))
 refine AX h (fun v1 => mk [(2, .e (.one (.ptr 2 0))), (3, .e (.one (.ptr 3 0))), (22, .e (.one (.pure (.val (.bool v1)))))] [(2, .box [.pure (.sl (p0.fVersions.map Ah)), .pure (.sl (p0.fNow.map Ah)), .pure (.sl (p0.fTarget.map Ah)), .pure (.sl (p0.fTables.map Ai))]), (3, .box [.pure (.val (.int .i64 p1.fKind)), .pure (.val (.int .i64 p1.fFrom)), .pure (.val (.int .i64 p1.fTo)), .pure (.val (.bool p1.fAware)), .pure (.sl (p1.fOK.map (Eo eB))), .pure (.sl (p1.fRewrite.map (Eo eB)))])]) (fun j1 h => ?_) (fun v1 h => ?_)
 ·refine Aa Ae rfl (qf Fj rfl (ql Ch rfl (A8 rfl (qm rfl ?_))))
  refine AI (t := 10) rfl (fun c2 => ?_) (fun c2 => ?_)
  ·have h := Ap c2 h
   refine qn rfl (qn rfl (qn rfl (qp rfl (qm rfl (qn rfl (qn rfl (qn rfl (qu rfl (qu rfl (qn rfl (qp rfl (Ad ?_))))))))))))
   exact Aw _ h (sm [] _ _ rfl rfl)
  ·have h := Aq c2 h
   refine qf Fj rfl (ql Ch rfl (Gd rfl (qp rfl (qm rfl ?_))))
   refine AI (t := 15) rfl (fun c3 => ?_) (fun c3 => ?_)
   ·have h := Ap c3 h
    refine qn rfl (qn rfl (qn rfl (qu rfl (qu rfl (qn rfl (qp rfl (Ad ?_)))))))
    exact Aw _ h (sm [] _ _ rfl rfl)
   ·have h := Aq c3 h
    refine qf H0 rfl (ql Q5 rfl (qm rfl ?_))
    refine AI (t := 18) rfl (fun c4 => ?_) (fun c4 => ?_)
    ·have h := Ap c4 h
     refine qL Gw DL rfl ?_
     obtain ⟨v5, a5, h⟩ := bind_some h
     refine AM [] (Ca N p1 v5 a5) O1 rfl (qp rfl (qp rfl (Ad ?_)))
     exact Aw _ h (sm [] _ _ rfl rfl)
    ·have h := Aq c4 h
     refine qn rfl (qn rfl (qp rfl (qp rfl (Ad ?_))))
     exact Aw _ h (sm [] _ _ rfl rfl)
 ·refine As rfl (fun c6 => ?_) (fun c6 => ?_)
  ·have h := Ap c6 h
   refine Ab (Aa Ae rfl (qa rfl (Ad ?_)))
   obtain rfl := sj h
   refine Al (sm [] [(4, .e (.one (.pure (.val (.int .i64 1)))))] [] rfl rfl) (AF ?_)
   exact ⟨⟨[_], ⟨.tmp _ _ rfl, trivial⟩, rfl⟩, trivial⟩
  ·have h := Aq c6 h
   refine Av (Ab (Aa Ae rfl (qf Bs rfl (ql A9 rfl (AS AG rfl (qa rfl (Ad (Ab ?_))))))))
   refine AX h (fun v7 => mk [(2, .e (.one (.ptr 2 0))), (3, .e (.one (.ptr 3 0))), (45, .e (.one (.pure (.val (.bool v7)))))] [(2, .box [.pure (.sl (p0.fVersions.map Ah)), .pure (.sl (p0.fNow.map Ah)), .pure (.sl (p0.fTarget.map Ah)), .pure (.sl (p0.fTables.map Ai))]), (3, .box [.pure (.val (.int .i64 p1.fKind)), .pure (.val (.int .i64 p1.fFrom)), .pure (.val (.int .i64 p1.fTo)), .pure (.val (.bool p1.fAware)), .pure (.sl (p1.fOK.map (Eo eB))), .pure (.sl (p1.fRewrite.map (Eo eB)))])]) (fun j7 h => ?_) (fun v7 h => ?_)
   ·refine Aa Ae rfl (qf CU rfl (ql Ch rfl (A8 rfl (qm rfl ?_))))
    refine AI (t := 29) rfl (fun c8 => ?_) (fun c8 => ?_)
    ·have h := Ap c8 h
     refine qn rfl (qn rfl (qn rfl (qn rfl (qp rfl (qm rfl (qn rfl (qn rfl (qn rfl (qp rfl (qm rfl (qn rfl (qn rfl (qn rfl (qn rfl (qp rfl (Ad ?_))))))))))))))))
     exact Aw _ h (sm [] _ _ rfl rfl)
    ·have h := Aq c8 h
     refine qf CU rfl (ql Ch rfl (qm rfl (EO rfl (qp rfl (qm rfl ?_)))))
     refine AI (t := 35) rfl (fun c9 => ?_) (fun c9 => ?_)
     ·have h := Ap c9 h
      refine qn rfl (qn rfl (qn rfl (qp rfl (qm rfl (qn rfl (qn rfl (qn rfl (qn rfl (qp rfl (Ad ?_))))))))))
      exact Aw _ h (sm [] _ _ rfl rfl)
     ·have h := Aq c9 h
      refine qf Ho rfl (ql Ch rfl (A8 rfl (qp rfl (qm rfl ?_))))
      refine AI (t := 40) rfl (fun c10 => ?_) (fun c10 => ?_)
      ·have h := Ap c10 h
       refine qn rfl (qn rfl (qn rfl (qn rfl (qp rfl (Ad ?_)))))
       exact Aw _ h (sm [] _ _ rfl rfl)
      ·have h := Aq c10 h
       refine qf Ho rfl (ql Ch rfl (qm rfl (EO rfl (qp rfl (Ad ?_)))))
       exact Aw _ h (sm [] _ _ rfl rfl)
   ·refine As rfl (fun c11 => ?_) (fun c11 => ?_)
    ·have h := Ap c11 h
     refine Ab (Aa Ae rfl (qa rfl (Ad ?_)))
     obtain rfl := sj h
     refine Al (sm [] [(4, .e (.one (.pure (.val (.int .i64 4)))))] [] rfl rfl) (AF ?_)
     exact ⟨⟨[_], ⟨.tmp _ _ rfl, trivial⟩, rfl⟩, trivial⟩
    ·have h := Aq c11 h
     refine Av (Ab (Ab (Aa Ae rfl (qf IV rfl (ql I9 rfl (qf Bs rfl (ql A9 rfl (qf CU rfl (ql Ch rfl ?_)))))))))
     obtain ⟨v12, a12, b12, h⟩ := Am h
     refine qi AG Dh a12 (Ak b12) rfl (qk Ch rfl (qf Bs rfl (ql A9 rfl (qf Ho rfl (ql Ch rfl ?_)))))
     obtain ⟨v13, a13, b13, h⟩ := Am h
     refine qi AG Dh a13 (Ak b13) rfl (qk Ch rfl ?_)
     obtain ⟨v14, a14, h⟩ := bind_some h
     refine AM [] (GW N p1.fOK v12 v13 v14 a14) WZ rfl (CG rfl (A0 (by kernel_rfl) ?_))
     refine As rfl (fun c15 => ?_) (fun c15 => ?_)
     ·have h := Ap c15 h
      refine Ab (Aa Ae rfl (qa rfl (Ad ?_)))
      obtain rfl := sj h
      refine Al (sm [] [(4, .e (.one (.pure (.val (.int .i64 6)))))] [] rfl rfl) (AF ?_)
      exact ⟨⟨[_], ⟨.tmp _ _ rfl, trivial⟩, rfl⟩, trivial⟩
     ·have h := Aq c15 h
      refine Av (Ab (Ab (Aa Ae rfl (qf Fj rfl (ql Ch rfl (CB rfl (Ad ?_)))))))
      refine As rfl (fun c16 => ?_) (fun c16 => ?_)
      ·have h := Ap c16 h
       refine Ab (Ab (Aa Ae rfl (qf FY rfl (ql I9 rfl (AS FE rfl (CB rfl (Ad ?_)))))))
       refine As rfl (fun c17 => ?_) (fun c17 => ?_)
       ·have h := Ap c17 h
        refine Ab (Aa Ae rfl (qa rfl (Ad ?_)))
        obtain rfl := sj h
        refine Al (sm [] [(4, .e (.one (.pure (.val (.int .i64 6)))))] [] rfl rfl) (AF ?_)
        exact ⟨⟨[_], ⟨.tmp _ _ rfl, trivial⟩, rfl⟩, trivial⟩
       ·have h := Aq c17 h
        refine Av (Ab (Aa Ae rfl (qa rfl (Ad ?_))))
        obtain rfl := sj h
        refine Al (sm [] [(4, .e (.one (.pure (.val (.int .i64 0)))))] [] rfl rfl) (AF ?_)
        exact ⟨⟨[_], ⟨.tmp _ _ rfl, trivial⟩, rfl⟩, trivial⟩
      ·have h := Aq c16 h
       refine Av (Ab (Ab (Aa Ae rfl (qf FY rfl (ql I9 rfl (qf Bs rfl (ql A9 rfl (qf CU rfl (ql Ch rfl ?_)))))))))
       obtain ⟨v18, a18, b18, h⟩ := Am h
       refine qi AG Dh a18 (Ak b18) rfl (qk Ch rfl (qf Bs rfl (ql A9 rfl (qf CU rfl (ql Ch rfl ?_)))))
       obtain ⟨v19, a19, b19, h⟩ := Am h
       refine qi AG Dh a19 (Ak b19) rfl (qk Ch rfl ?_)
       obtain ⟨v20, a20, h⟩ := bind_some h
       refine AM [] (GW N p1.fRewrite v18 v19 v20 a20) WZ rfl (CG rfl (A0 (by kernel_rfl) ?_))
       refine As rfl (fun c21 => ?_) (fun c21 => ?_)
       ·have h := Ap c21 h
        refine Ab (Aa Ae rfl (qa rfl (Ad ?_)))
        obtain rfl := sj h
        refine Al (sm [] [(4, .e (.one (.pure (.val (.int .i64 6)))))] [] rfl rfl) (AF ?_)
        exact ⟨⟨[_], ⟨.tmp _ _ rfl, trivial⟩, rfl⟩, trivial⟩
       ·have h := Aq c21 h
        refine Av (Ab (Ab (Aa Ae rfl (qa rfl (Ad ?_)))))
        refine AR (L := BU N p1) h (fun v22 => mk [(3, .e (.one (.ptr 3 0))), (6, .e (.one (.pure (.val (.int .i64 v22)))))] [(3, .box [.pure (.val (.int .i64 p1.fKind)), .pure (.val (.int .i64 p1.fFrom)), .pure (.val (.int .i64 p1.fTo)), .pure (.val (.bool p1.fAware)), .pure (.sl (p1.fOK.map (Eo eB))), .pure (.sl (p1.fRewrite.map (Eo eB)))])]) (fun v23 => mk [] []) (fun _ _ => rfl) (sm [] _ _ rfl rfl) (fun j22 n22 v22 h => ?_) (fun v23 s h hs => ?_)
        ·unfold BU at h
         refine Ab (Ab (Aa Ae rfl (qm rfl (qf FY rfl (ql I9 rfl (AS FE rfl (A8 rfl (Ad ?_))))))))
         refine As rfl (fun c24 => ?_) (fun c24 => ?_)
         ·have h := Ap c24 h
          refine Av (Ab (AW (Ab (Aa Ae rfl (qf FY rfl (ql I9 rfl (qm rfl ?_)))))))
          obtain ⟨v25, a25, b25, h⟩ := Am h
          refine qi FE L4 a25 (Ak b25) rfl (qk OJ rfl (qm rfl ?_))
          obtain ⟨v26, a26, b26, h⟩ := Am h
          refine qi FO Pt a26 (Ak b26) rfl (qk Q5 rfl (CG rfl (Ad ?_)))
          refine As rfl (fun c27 => ?_) (fun c27 => ?_)
          ·have h := Ap c27 h
           refine Ab (Aa Ae rfl (qa rfl (Ad ?_)))
           obtain rfl := sj h
           refine Al (sm [] [(4, .e (.one (.pure (.val (.int .i64 1)))))] [] rfl rfl) (AF ?_)
           exact ⟨⟨[_], ⟨.tmp _ _ rfl, trivial⟩, rfl⟩, trivial⟩
          ·have h := Aq c27 h
           refine Av (Aa Ae rfl (qm rfl (Bn rfl (qa rfl (Ad ?_)))))
           exact Aw _ h (sm [] _ _ rfl rfl)
         ·have h := Aq c24 h
          refine A6 ?_
          exact Aw _ h (sm [] _ _ rfl rfl)
        ·refine Al hs (Ab (Aa Ae rfl (qa rfl (Ad ?_))))
         obtain rfl := sj h
         refine Al (sm [] [(4, .e (.one (.pure (.val (.int .i64 0)))))] [] rfl rfl) (AF ?_)
         exact ⟨⟨[_], ⟨.tmp _ _ rfl, trivial⟩, rfl⟩, trivial⟩
end Go.Lift

/- That the code does what the shallow programs do, function by function. Written by a program (gen.py). -/
namespace Go.Lift
open Go.RowKit
open Go.Proofs
set_option maxRecDepth 10000 in
theorem Fv (N : Nat) (p0 : Ac) (r : Int) (h : Ck N p0 = some r) : AC Try.prog 33 [.e (.agg [.pure (.sl (p0.fVersions.map Ah)), .pure (.sl (p0.fNow.map Ah)), .pure (.sl (p0.fTarget.map Ah)), .pure (.sl (p0.fTables.map Ai))])] [] (.e (.one (.pure (.val (.int .i64 r))))) := by
 unfold Ck at h
 refine Ar (n := 102) (rs := [.tmp 2]) Try.func33 rfl rfl rfl (BM rfl) (BM rfl) rfl fun w0 S0 => ?_
 refine Ab (Aa Ae rfl (qb rfl (qa rfl (Ad (Ab ?_)))))
 refine AX h (fun v1 => mk [(1, .e (.one (.ptr 1 0))), (16, .e (.one (.pure (.val (.bool v1)))))] [(1, .box [.pure (.sl (p0.fVersions.map Ah)), .pure (.sl (p0.fNow.map Ah)), .pure (.sl (p0.fTarget.map Ah)), .pure (.sl (p0.fTables.map Ai))])]) (fun j1 h => ?_) (fun v1 h => ?_)
 ·refine Aa Ae rfl (qf Bs rfl (ql A9 rfl (AS AG rfl (Gd rfl (qm rfl ?_)))))
  refine AI (t := 11) rfl (fun c2 => ?_) (fun c2 => ?_)
  ·have h := Ap c2 h
   refine qn rfl (qn rfl (qn rfl (qn rfl (qp rfl (Ad ?_)))))
   exact Aw _ h (sm [] _ _ rfl rfl)
  ·have h := Aq c2 h
   refine qf CC rfl (ql Gl rfl (AS DT rfl (Gd rfl (qp rfl (Ad ?_)))))
   exact Aw _ h (sm [] _ _ rfl rfl)
 ·refine As rfl (fun c3 => ?_) (fun c3 => ?_)
  ·have h := Ap c3 h
   refine Ab (Aa Ae rfl (qa rfl (Ad ?_)))
   obtain rfl := sj h
   refine Al (sm [] [(2, .e (.one (.pure (.val (.int .i64 3)))))] [] rfl rfl) (AF ?_)
   exact ⟨⟨[_], ⟨.tmp _ _ rfl, trivial⟩, rfl⟩, trivial⟩
  ·have h := Aq c3 h
   refine Av (Ab ?_)
   refine AX h (fun v4 => mk [(1, .e (.one (.ptr 1 0))), (32, .e (.one (.pure (.val (.bool v4)))))] [(1, .box [.pure (.sl (p0.fVersions.map Ah)), .pure (.sl (p0.fNow.map Ah)), .pure (.sl (p0.fTarget.map Ah)), .pure (.sl (p0.fTables.map Ai))])]) (fun j4 h => ?_) (fun v4 h => ?_)
   ·refine Aa Ae rfl (qf FW rfl (ql A9 rfl (AS AG rfl (qf Bs rfl (ql A9 rfl (AS AG rfl (CB rfl (qm rfl ?_))))))))
    refine AI (t := 24) rfl (fun c5 => ?_) (fun c5 => ?_)
    ·have h := Ap c5 h
     refine qn rfl (qn rfl (qn rfl (qn rfl (qn rfl (qn rfl (qn rfl (qp rfl (Ad ?_))))))))
     exact Aw _ h (sm [] _ _ rfl rfl)
    ·have h := Aq c5 h
     refine qf HV rfl (ql A9 rfl (AS AG rfl (qf Bs rfl (ql A9 rfl (AS AG rfl (CB rfl (qp rfl (Ad ?_))))))))
     exact Aw _ h (sm [] _ _ rfl rfl)
   ·refine As rfl (fun c6 => ?_) (fun c6 => ?_)
    ·have h := Ap c6 h
     refine Ab (Aa Ae rfl (qa rfl (Ad ?_)))
     obtain rfl := sj h
     refine Al (sm [] [(2, .e (.one (.pure (.val (.int .i64 6)))))] [] rfl rfl) (AF ?_)
     exact ⟨⟨[_], ⟨.tmp _ _ rfl, trivial⟩, rfl⟩, trivial⟩
    ·have h := Aq c6 h
     refine Av (Ab (Ab (Aa Ae rfl (qa rfl (Ad ?_)))))
     refine AR (L := Bg N p0) h (fun v7 => mk [(1, .e (.one (.ptr 1 0))), (3, .e (.one (.pure (.val (.int .i64 v7)))))] [(1, .box [.pure (.sl (p0.fVersions.map Ah)), .pure (.sl (p0.fNow.map Ah)), .pure (.sl (p0.fTarget.map Ah)), .pure (.sl (p0.fTables.map Ai))])]) (fun v8 => mk [(1, .e (.one (.ptr 1 0)))] [(1, .box [.pure (.sl (p0.fVersions.map Ah)), .pure (.sl (p0.fNow.map Ah)), .pure (.sl (p0.fTarget.map Ah)), .pure (.sl (p0.fTables.map Ai))])]) (fun _ _ => rfl) (sm [] _ _ rfl rfl) (fun j7 n7 v7 h => ?_) (fun v8 s h hs => ?_)
     ·unfold Bg at h
      refine Ab (Ab (Aa Ae rfl (qm rfl (qf Bs rfl (ql A9 rfl (AS AG rfl (A8 rfl (Ad ?_))))))))
      refine As rfl (fun c9 => ?_) (fun c9 => ?_)
      ·have h := Ap c9 h
       refine Av (Ab (AW (Ab (Aa Ae rfl (qf Bs rfl (ql A9 rfl (qm rfl ?_)))))))
       obtain ⟨v10, a10, b10, h⟩ := Am h
       refine qi AG Dh a10 (Ak b10) rfl (qk Ch rfl (qa rfl (Ad ?_)))
       refine AX h (fun v11 => mk [(1, .e (.one (.ptr 1 0))), (3, .e (.one (.pure (.val (.int .i64 v7))))), (84, .e (.one (.pure (.val (.bool v11)))))] [(1, .box [.pure (.sl (p0.fVersions.map Ah)), .pure (.sl (p0.fNow.map Ah)), .pure (.sl (p0.fTarget.map Ah)), .pure (.sl (p0.fTables.map Ai))])]) (fun j11 h => ?_) (fun v11 h => ?_)
       ·refine Aa Ae rfl (qm rfl (A8 rfl (qm rfl ?_)))
        refine AI (t := 47) rfl (fun c12 => ?_) (fun c12 => ?_)
        ·have h := Ap c12 h
         refine qn rfl (qn rfl (qp rfl (qm rfl (qn rfl (qn rfl (qn rfl (qn rfl (qn rfl (qn rfl (qp rfl (qm rfl (qn rfl (qn rfl (qn rfl (qn rfl (qn rfl (qn rfl (qn rfl (qp rfl (qm rfl (qn rfl (qn rfl (qn rfl (qn rfl (qn rfl (qn rfl (qp rfl (qm rfl (qn rfl (qn rfl (qn rfl (qn rfl (qn rfl (qn rfl (qn rfl (qp rfl (Ad ?_)))))))))))))))))))))))))))))))))))))
         exact Aw _ h (sm [] _ _ rfl rfl)
        ·have h := Aq c12 h
         refine qm rfl (Gd rfl (qp rfl (qm rfl ?_)))
         refine AI (t := 51) rfl (fun c13 => ?_) (fun c13 => ?_)
         ·have h := Ap c13 h
          refine qn rfl (qn rfl (qn rfl (qn rfl (qn rfl (qn rfl (qp rfl (qm rfl (qn rfl (qn rfl (qn rfl (qn rfl (qn rfl (qn rfl (qn rfl (qp rfl (qm rfl (qn rfl (qn rfl (qn rfl (qn rfl (qn rfl (qn rfl (qp rfl (qm rfl (qn rfl (qn rfl (qn rfl (qn rfl (qn rfl (qn rfl (qn rfl (qp rfl (Ad ?_)))))))))))))))))))))))))))))))))
          exact Aw _ h (sm [] _ _ rfl rfl)
         ·have h := Aq c13 h
          refine qf FW rfl (ql A9 rfl (qm rfl ?_))
          obtain ⟨v14, a14, b14, h⟩ := Am h
          refine qi AG Dh a14 (Ak b14) rfl (qk Ch rfl (A8 rfl (qp rfl (qm rfl ?_))))
          refine AI (t := 59) rfl (fun c15 => ?_) (fun c15 => ?_)
          ·have h := Ap c15 h
           refine qn rfl (qn rfl (qn rfl (qn rfl (qn rfl (qn rfl (qn rfl (qp rfl (qm rfl (qn rfl (qn rfl (qn rfl (qn rfl (qn rfl (qn rfl (qp rfl (qm rfl (qn rfl (qn rfl (qn rfl (qn rfl (qn rfl (qn rfl (qn rfl (qp rfl (Ad ?_)))))))))))))))))))))))))
           exact Aw _ h (sm [] _ _ rfl rfl)
          ·have h := Aq c15 h
           refine qf FW rfl (ql A9 rfl (qm rfl ?_))
           obtain ⟨v16, a16, b16, h⟩ := Am h
           refine qi AG Dh a16 (Ak b16) rfl (qk Ch rfl (qm rfl (EO rfl (qp rfl (qm rfl ?_)))))
           refine AI (t := 68) rfl (fun c17 => ?_) (fun c17 => ?_)
           ·have h := Ap c17 h
            refine qn rfl (qn rfl (qn rfl (qn rfl (qn rfl (qn rfl (qp rfl (qm rfl (qn rfl (qn rfl (qn rfl (qn rfl (qn rfl (qn rfl (qn rfl (qp rfl (Ad ?_))))))))))))))))
            exact Aw _ h (sm [] _ _ rfl rfl)
           ·have h := Aq c17 h
            refine qf HV rfl (ql A9 rfl (qm rfl ?_))
            obtain ⟨v18, a18, b18, h⟩ := Am h
            refine qi AG Dh a18 (Ak b18) rfl (qk Ch rfl (A8 rfl (qp rfl (qm rfl ?_))))
            refine AI (t := 76) rfl (fun c19 => ?_) (fun c19 => ?_)
            ·have h := Ap c19 h
             refine qn rfl (qn rfl (qn rfl (qn rfl (qn rfl (qn rfl (qn rfl (qp rfl (Ad ?_))))))))
             exact Aw _ h (sm [] _ _ rfl rfl)
            ·have h := Aq c19 h
             refine qf HV rfl (ql A9 rfl (qm rfl ?_))
             obtain ⟨v20, a20, b20, h⟩ := Am h
             refine qi AG Dh a20 (Ak b20) rfl (qk Ch rfl (qm rfl (EO rfl (qp rfl (Ad ?_)))))
             exact Aw _ h (sm [] _ _ rfl rfl)
       ·refine As rfl (fun c21 => ?_) (fun c21 => ?_)
        ·have h := Ap c21 h
         refine Ab (Aa Ae rfl (qa rfl (Ad ?_)))
         obtain rfl := sj h
         refine Al (sm [] [(2, .e (.one (.pure (.val (.int .i64 7)))))] [] rfl rfl) (AF ?_)
         exact ⟨⟨[_], ⟨.tmp _ _ rfl, trivial⟩, rfl⟩, trivial⟩
        ·have h := Aq c21 h
         refine Av (Aa Ae rfl (qm rfl (Bn rfl (qa rfl (Ad ?_)))))
         exact Aw _ h (sm [] _ _ rfl rfl)
      ·have h := Aq c9 h
       refine A6 ?_
       exact Aw _ h (sm [] _ _ rfl rfl)
     ·refine Al hs (Ab (Ab (Aa Ae rfl (qa rfl (Ad ?_)))))
      refine AR (L := Bb N p0) h (fun v22 => mk [(1, .e (.one (.ptr 1 0))), (5, .e (.one (.pure (.val (.int .i64 v22)))))] [(1, .box [.pure (.sl (p0.fVersions.map Ah)), .pure (.sl (p0.fNow.map Ah)), .pure (.sl (p0.fTarget.map Ah)), .pure (.sl (p0.fTables.map Ai))])]) (fun v23 => mk [] []) (fun _ _ => rfl) (sm [] _ _ rfl rfl) (fun j22 n22 v22 h => ?_) (fun v23 s h hs => ?_)
      ·unfold Bb at h
       refine Ab (Ab (Aa Ae rfl (qm rfl (qf CC rfl (ql Gl rfl (AS DT rfl (A8 rfl (Ad ?_))))))))
       refine As rfl (fun c24 => ?_) (fun c24 => ?_)
       ·have h := Ap c24 h
        refine Av (Ab (AW (Ab (Aa Ae rfl (qL DQ Di rfl (qf CC rfl (ql Gl rfl (qm rfl ?_))))))))
        obtain ⟨v25, a25, b25, h⟩ := Am h
        refine qi DT DL a25 (Ak b25) rfl (qK Gw DL rfl ?_)
        obtain ⟨v26, a26, h⟩ := bind_some h
        refine AM [] (JX N p0 v25 v26 a26) Xp rfl (qa rfl (A0 (by kernel_rfl) (Ab (Aa Ae rfl (qm rfl (CB rfl (Ad ?_)))))))
        refine As rfl (fun c27 => ?_) (fun c27 => ?_)
        ·have h := Ap c27 h
         refine Ab (Aa Ae rfl (qm rfl (qa rfl (Ad ?_))))
         obtain rfl := sj h
         refine Al (sm [] [(2, .e (.one (.pure (.val (.int .i64 v26)))))] [] rfl rfl) (AF ?_)
         exact ⟨⟨[_], ⟨.tmp _ _ rfl, trivial⟩, rfl⟩, trivial⟩
        ·have h := Aq c27 h
         refine Av (Aa Ae rfl (qm rfl (Bn rfl (qa rfl (Ad ?_)))))
         exact Aw _ h (sm [] _ _ rfl rfl)
       ·have h := Aq c24 h
        refine A6 ?_
        exact Aw _ h (sm [] _ _ rfl rfl)
      ·refine Al hs (Ab (Aa Ae rfl (qa rfl (Ad ?_))))
       obtain rfl := sj h
       refine Al (sm [] [(2, .e (.one (.pure (.val (.int .i64 0)))))] [] rfl rfl) (AF ?_)
       exact ⟨⟨[_], ⟨.tmp _ _ rfl, trivial⟩, rfl⟩, trivial⟩
set_option maxRecDepth 10000 in
theorem Hi (N : Nat) (p0 : Ac) (r : Ag × Int) (h : CQ N p0 = some r) : AC Try.prog 29 [.e (.agg [.pure (.sl (p0.fVersions.map Ah)), .pure (.sl (p0.fNow.map Ah)), .pure (.sl (p0.fTarget.map Ah)), .pure (.sl (p0.fTables.map Ai))])] [(1, r.1.fBase.map Ah), (1, r.1.fNext.map Ah), (1, r.1.fHeld.map Ba)] (.tup [.agg [.own 0, .own 1, .own 2], .one (.pure (.val (.int .i64 r.2)))]) := by
 unfold CQ at h
 refine Ar (n := 68) (rs := [.cell 2 43, .tmp 3]) Try.func29 rfl rfl rfl (BM rfl) (BM rfl) rfl fun w0 S0 => ?_
 refine Ab (Aa Ae rfl (qb rfl (qz C8 rfl (qa rfl (Ad (Ab (Ab (Aa Ae rfl (qL DQ Di rfl ?_)))))))))
 obtain ⟨v1, a1, h⟩ := bind_some h
 refine AM [] (Fv N p0 v1 a1) WR rfl (qa rfl (Ad (Ab (Aa Ae rfl (qm rfl (CB rfl (Ad ?_)))))))
 refine As rfl (fun c2 => ?_) (fun c2 => ?_)
 ·have h := Ap c2 h
  refine Ab (Aa Ae rfl (A4 C8 GA rfl (qm rfl (qs AU rfl (qa rfl (Ad ?_))))))
  obtain rfl := sj h
  refine Al ((AD 2 0 2001 1 _ rfl rfl rfl rfl).trans ((AD 2 1 2002 1 _ rfl rfl rfl rfl).trans ((AD 2 2 2003 1 _ rfl rfl rfl rfl).trans (sm [(1000, 2001), (1001, 2002), (1002, 2003)] [(2, .e (.one (.ptr 2 0))), (3, .e (.one (.pure (.val (.int .i64 v1)))))] [(2, .box [.own 1000, .own 1001, .own 1002]), (1000, .vec 1 ((([] : List Int)).map Ah)), (1001, .vec 1 ((([] : List Int)).map Ah)), (1002, .vec 1 ((([] : List Int)).map Ba))] rfl rfl)))) (AF ?_)
  exact ⟨⟨[_, _], ⟨.cellN _ _ _ _ _ _ _ rfl rfl Bx AU rfl rfl (Hc rfl), ⟨.tmp _ _ rfl, trivial⟩⟩, rfl⟩, ⟨rfl, rfl, rfl, trivial⟩⟩
 ·have h := Aq c2 h
  refine Av (Ab (Aa Ae rfl (qz C8 rfl (Ad (Ab (Ab (Aa Ae rfl (qa rfl (Ad ?_)))))))))
  refine AR (L := BZ N p0) h (fun v3 => mk [(1, .e (.one (.ptr 1 0))), (2, .e (.one (.ptr 2 0))), (5, .e (.one (.ptr 5 0))), (6, .e (.one (.pure (.val (.int .i64 v3.2.2)))))] [(1, .box [.pure (.sl (p0.fVersions.map Ah)), .pure (.sl (p0.fNow.map Ah)), .pure (.sl (p0.fTarget.map Ah)), .pure (.sl (p0.fTables.map Ai))]), (2, .box [.pure (.nil0), .pure (.nil0), .pure (.nil0)]), (5, .box [.own 2004, .own 2005, .pure (.nil0)]), (2004, .vec 1 (v3.1.map Ah)), (2005, .vec 1 (v3.2.1.map Ah))]) (fun v4 => mk [(1, .e (.one (.ptr 1 0))), (2, .e (.one (.ptr 2 0))), (5, .e (.one (.ptr 5 0)))] [(1, .box [.pure (.sl (p0.fVersions.map Ah)), .pure (.sl (p0.fNow.map Ah)), .pure (.sl (p0.fTarget.map Ah)), .pure (.sl (p0.fTables.map Ai))]), (2, .box [.pure (.nil0), .pure (.nil0), .pure (.nil0)]), (5, .box [.own 2006, .own 2007, .pure (.nil0)]), (2006, .vec 1 (v4.1.map Ah)), (2007, .vec 1 (v4.2.map Ah))]) (fun _ _ => rfl) ((AD 5 0 2008 1 _ rfl rfl rfl rfl).trans ((AD 5 1 2009 1 _ rfl rfl rfl rfl).trans (sm [(2004, 2008), (2005, 2009)] _ _ rfl rfl))) (fun j3 n3 v3 h => ?_) (fun v4 s h hs => ?_)
  ·unfold BZ at h
   refine Ab (Ab (Aa Ae rfl (qm rfl (qf Bs rfl (ql A9 rfl (AS AG rfl (A8 rfl (Ad ?_))))))))
   refine As rfl (fun c5 => ?_) (fun c5 => ?_)
   ·have h := Ap c5 h
    refine Av (Ab (AW (Ab (Aa Ae rfl (qf CK rfl (ql A9 rfl (qf FW rfl (ql A9 rfl (qm rfl ?_)))))))))
    obtain ⟨v6, a6, b6, h⟩ := Am h
    refine qi AG Dh a6 (Ak b6) rfl (qk Ch rfl (En AG Dh Kd rfl ?_))
    obtain ⟨c7, h⟩ := AN h
    refine DI (f := Ah) AG AG Dh KH Kd c7 rfl (qf CK rfl (qs RI rfl (A0 (by kernel_rfl) (Aa Ae rfl (qf BD rfl (ql A9 rfl (En AG Dh Kd rfl ?_)))))))
    obtain ⟨c8, h⟩ := AN h
    refine DI (f := Ah) AG AG Dh KH Kd c8 rfl (qf BD rfl (qs RI rfl (Ad (Aa Ae rfl (qm rfl (Bn rfl (qa rfl (Ad ?_))))))))
    exact Aw _ h (sm [(2004, 30), (2005, 35)] _ _ rfl rfl)
   ·have h := Aq c5 h
    refine A6 ?_
    exact Aw _ h (sm [(2006, 2004), (2007, 2005)] _ _ rfl rfl)
  ·refine Al hs (Ab (Ab (Aa Ae rfl (qa rfl (Ad ?_)))))
   refine AR (L := Bh N p0) h (fun v9 => mk [(1, .e (.one (.ptr 1 0))), (2, .e (.one (.ptr 2 0))), (5, .e (.one (.ptr 5 0))), (7, .e (.one (.pure (.val (.int .i64 v9.2)))))] [(1, .box [.pure (.sl (p0.fVersions.map Ah)), .pure (.sl (p0.fNow.map Ah)), .pure (.sl (p0.fTarget.map Ah)), .pure (.sl (p0.fTables.map Ai))]), (2, .box [.pure (.nil0), .pure (.nil0), .pure (.nil0)]), (5, .box [.own 2010, .own 2011, .own 2012]), (2010, .vec 1 (v4.1.map Ah)), (2011, .vec 1 (v4.2.map Ah)), (2012, .vec 1 (v9.1.map Ba))]) (fun v10 => mk [(2, .e (.one (.ptr 2 0))), (5, .e (.one (.ptr 5 0)))] [(2, .box [.pure (.nil0), .pure (.nil0), .pure (.nil0)]), (5, .box [.own 2013, .own 2014, .own 2015]), (2013, .vec 1 (v4.1.map Ah)), (2014, .vec 1 (v4.2.map Ah)), (2015, .vec 1 (v10.map Ba))]) (fun _ _ => rfl) ((AD 5 2 2019 1 _ rfl rfl rfl rfl).trans (sm [(2010, 2006), (2011, 2007), (2012, 2019)] _ _ rfl rfl)) (fun j9 n9 v9 h => ?_) (fun v10 s h hs => ?_)
   ·unfold Bh at h
    refine Ab (Ab (Aa Ae rfl (qm rfl (qf CC rfl (ql Gl rfl (AS DT rfl (A8 rfl (Ad ?_))))))))
    refine As rfl (fun c11 => ?_) (fun c11 => ?_)
    ·have h := Ap c11 h
     refine Av (Ab (AW (Ab (Aa Ae rfl (qa rfl (Ad ?_))))))
     refine AX h (fun v12 => mk [(1, .e (.one (.ptr 1 0))), (2, .e (.one (.ptr 2 0))), (5, .e (.one (.ptr 5 0))), (7, .e (.one (.pure (.val (.int .i64 v9.2))))), (8, .e (.one (.pure (.val (.int .u8 v12)))))] [(1, .box [.pure (.sl (p0.fVersions.map Ah)), .pure (.sl (p0.fNow.map Ah)), .pure (.sl (p0.fTarget.map Ah)), .pure (.sl (p0.fTables.map Ai))]), (2, .box [.pure (.nil0), .pure (.nil0), .pure (.nil0)]), (5, .box [.own 2016, .own 2017, .own 2018]), (2016, .vec 1 (v4.1.map Ah)), (2017, .vec 1 (v4.2.map Ah)), (2018, .vec 1 (v9.1.map Ba))]) (fun j12 h => ?_) (fun v12 h => ?_)
     ·refine Ab (Aa Ae rfl (qf CC rfl (ql Gl rfl (qm rfl ?_))))
      obtain ⟨v13, a13, b13, h⟩ := Am h
      refine qi DT DL a13 (Ak b13) rfl (qK Gw DL rfl ?_)
      obtain ⟨v14, a14, h⟩ := bind_some h
      refine AM [] (Ca N v13 v14 a14) O1 rfl (Ad ?_)
      refine As rfl (fun c15 => ?_) (fun c15 => ?_)
      ·have h := Ap c15 h
       refine Aa Ae rfl (qf FW rfl (ql A9 rfl (qf CC rfl (ql Gl rfl (qm rfl ?_)))))
       obtain ⟨v16, a16, b16, h⟩ := Am h
       refine qi DT DL a16 (Ak b16) rfl (qg CU rfl (qk Ch rfl ?_))
       obtain ⟨v17, a17, b17, h⟩ := Am h
       refine qi AG Dh a17 (Ak b17) rfl (qk Ch rfl ?_)
       obtain ⟨c18, h⟩ := AN h
       refine Ib rfl c18 (qa rfl (A0 (by kernel_rfl) ?_))
       exact Aw _ h (sm [(2016, 2010), (2017, 2011), (2018, 2012)] _ _ rfl rfl)
      ·have h := Aq c15 h
       refine Av ?_
       exact Aw _ h (sm [(2016, 2010), (2017, 2011), (2018, 2012)] _ _ rfl rfl)
     ·refine Aa Ae rfl (qf Cy rfl (ql Gf rfl (qm rfl (En Dp Fn Oo rfl ?_))))
      obtain ⟨c19, h⟩ := AN h
      refine DI (f := Ba) Dp Dp Fn P5 Oo c19 rfl (qf Cy rfl (qs Xv rfl (Ad (Aa Ae rfl (qm rfl (Bn rfl (qa rfl (Ad ?_))))))))
      exact Aw _ h (sm [(2010, 2016), (2011, 2017), (2012, 65)] _ _ rfl rfl)
    ·have h := Aq c11 h
     refine A6 ?_
     exact Aw _ h (sm [(2013, 2010), (2014, 2011), (2015, 2012)] _ _ rfl rfl)
   ·refine Al hs (Ab (Aa Ae rfl (qL Bx AU rfl (qs AU rfl (qa rfl (Ad ?_))))))
    obtain rfl := sj h
    refine Al (sm [(1000, 2013), (1001, 2014), (1002, 2015)] [(2, .e (.one (.ptr 2 0))), (3, .e (.one (.pure (.val (.int .i64 0)))))] [(2, .box [.own 1000, .own 1001, .own 1002]), (1000, .vec 1 (v4.1.map Ah)), (1001, .vec 1 (v4.2.map Ah)), (1002, .vec 1 (v10.map Ba))] rfl rfl) (AF ?_)
    exact ⟨⟨[_, _], ⟨.cellN _ _ _ _ _ _ _ rfl rfl Bx AU rfl rfl (Hc rfl), ⟨.tmp _ _ rfl, trivial⟩⟩, rfl⟩, ⟨rfl, rfl, rfl, trivial⟩⟩
set_option maxRecDepth 10000 in
theorem Jo (N : Nat) (p0 : Ag) (r : Ag) (h : DM N p0 = some r) : AC Try.prog 85 [.e (.agg [.pure (.sl (p0.fBase.map Ah)), .pure (.sl (p0.fNext.map Ah)), .pure (.sl (p0.fHeld.map Ba))])] [(1, r.fBase.map Ah), (1, r.fNext.map Ah), (1, r.fHeld.map Ba)] (.e (.agg [.own 0, .own 1, .own 2])) := by
 unfold DM at h
 refine Ar (n := 16) (rs := [.cell 2 43]) Try.func85 rfl rfl rfl (BM rfl) (BM rfl) rfl fun w0 S0 => ?_
 refine Ab (Aa Ae rfl (qb rfl (qz C8 rfl (Ad (Ab (Aa Ae rfl (En AG Dh Kd rfl (qf CK rfl (ql A9 rfl ?_)))))))))
 obtain ⟨c1, h⟩ := AN h
 refine Jg (f := Ah) AG AG Dh KH Kd (fun _ => rfl) c1 rfl (En AG Dh Kd rfl (qf BD rfl (ql A9 rfl ?_)))
 obtain ⟨c2, h⟩ := AN h
 refine Jg (f := Ah) AG AG Dh KH Kd (fun _ => rfl) c2 rfl (En Dp Fn Oo rfl (qf Cy rfl (ql Gf rfl ?_)))
 obtain ⟨c3, h⟩ := AN h
 refine Jg (f := Ba) Dp Dp Fn P5 Oo (fun _ => rfl) c3 rfl (A4 C8 GA rfl (qs AU rfl (A0 (by kernel_rfl) ?_)))
 obtain rfl := sj h
 refine Al (sm [(1000, 6), (1001, 10), (1002, 14)] [(2, .e (.one (.ptr 2 0)))] [(2, .box [.own 1000, .own 1001, .own 1002]), (1000, .vec 1 (((([] : List Int)) ++ p0.fBase).map Ah)), (1001, .vec 1 (((([] : List Int)) ++ p0.fNext).map Ah)), (1002, .vec 1 (((([] : List Int)) ++ p0.fHeld).map Ba))] rfl rfl) (AF ?_)
 exact ⟨⟨[_], ⟨.cellN _ _ _ _ _ _ _ rfl rfl Bx AU rfl rfl (Hc rfl), trivial⟩, rfl⟩, ⟨rfl, rfl, rfl, trivial⟩⟩
set_option maxRecDepth 10000 in
theorem KG (N : Nat) (p0 : Ag) (r : (List Ag)) (h : DU N p0 = some r) : AC Try.prog 50 [.e (.agg [.pure (.sl (p0.fBase.map Ah)), .pure (.sl (p0.fNext.map Ah)), .pure (.sl (p0.fHeld.map Ba))])] [(3, r.map Eg)] (.e (.one (.own 0))) := by
 unfold DU at h
 refine Ar (n := 62) (rs := [.tmp 2]) Try.func50 rfl rfl rfl (BM rfl) (BM rfl) rfl fun w0 S0 => ?_
 refine Ab (Aa Ae rfl (qb rfl (qa rfl (Ad (Ab (Aa Ae rfl (qa rfl (Ad (Ab (Ab (Aa Ae rfl (qa rfl (Ad ?_)))))))))))))
 refine AR (L := Co N p0) h (fun v1 => mk [(1, .e (.one (.ptr 1 0))), (3, .e (.one (.pure (.val (.int .i64 v1.1))))), (4, .e (.one (.pure (.val (.int .i64 v1.2)))))] [(1, .box [.pure (.sl (p0.fBase.map Ah)), .pure (.sl (p0.fNext.map Ah)), .pure (.sl (p0.fHeld.map Ba))])]) (fun v2 => mk [(1, .e (.one (.ptr 1 0))), (3, .e (.one (.pure (.val (.int .i64 v2)))))] [(1, .box [.pure (.sl (p0.fBase.map Ah)), .pure (.sl (p0.fNext.map Ah)), .pure (.sl (p0.fHeld.map Ba))])]) (fun _ _ => rfl) (sm [] _ _ rfl rfl) (fun j1 n1 v1 h => ?_) (fun v2 s h hs => ?_)
 ·unfold Co at h
  refine Ab (Ab (Aa Ae rfl (qm rfl (qf BD rfl (ql A9 rfl (AS AG rfl (A8 rfl (Ad ?_))))))))
  refine As rfl (fun c3 => ?_) (fun c3 => ?_)
  ·have h := Ap c3 h
   refine Av ?_
   refine AX h (fun v4 => mk [(1, .e (.one (.ptr 1 0))), (3, .e (.one (.pure (.val (.int .i64 v4))))), (4, .e (.one (.pure (.val (.int .i64 v1.2)))))] [(1, .box [.pure (.sl (p0.fBase.map Ah)), .pure (.sl (p0.fNext.map Ah)), .pure (.sl (p0.fHeld.map Ba))])]) (fun j4 h => ?_) (fun v4 h => ?_)
   ·refine AW (Ab (Aa Ae rfl (qf BD rfl (ql A9 rfl (qm rfl ?_)))))
    obtain ⟨v5, a5, b5, h⟩ := Am h
    refine qi AG Dh a5 (Ak b5) rfl (qk Ch rfl (EO rfl (Ad ?_)))
    refine As rfl (fun c6 => ?_) (fun c6 => ?_)
    ·have h := Ap c6 h
     refine Aa Ae rfl (qm rfl (Bn rfl (qa rfl (Ad ?_))))
     exact Aw _ h (sm [] _ _ rfl rfl)
    ·have h := Aq c6 h
     refine Av ?_
     exact Aw _ h (sm [] _ _ rfl rfl)
   ·refine Aa Ae rfl (qm rfl (Bn rfl (qa rfl (Ad ?_))))
    exact Aw _ h (sm [] _ _ rfl rfl)
  ·have h := Aq c3 h
   refine A6 ?_
   exact Aw _ h (sm [] _ _ rfl rfl)
 ·refine Al hs (Ab (Aa Ae rfl (qa rfl (Ad (Ab (Ab (Aa Ae rfl (qa rfl (Ad ?_)))))))))
  refine AR (L := Bt N p0 v2) h (fun v7 => mk [(1, .e (.one (.ptr 1 0))), (3, .e (.one (.pure (.val (.int .i64 v2))))), (5, .e (.one (.own 2001))), (6, .e (.one (.pure (.val (.int .i64 v7.2)))))] [(1, .box [.pure (.sl (p0.fBase.map Ah)), .pure (.sl (p0.fNext.map Ah)), .pure (.sl (p0.fHeld.map Ba))]), (2001, .vec 3 (v7.1.map Eg))]) (fun v8 => mk [(5, .e (.one (.own 2002)))] [(2002, .vec 3 (v8.map Eg))]) (fun _ _ => rfl) ((Cj 5 2022 3 rfl rfl rfl).trans (sm [(2001, 2022)] _ _ rfl rfl)) (fun j7 n7 v7 h => ?_) (fun v8 s h hs => ?_)
  ·unfold Bt at h
   refine Ab (Ab (Aa Ae rfl (qm rfl (qm rfl ?_))))
   obtain ⟨c9, h⟩ := AN h
   refine Ib rfl c9 (A8 rfl (Ad ?_))
   refine As rfl (fun c10 => ?_) (fun c10 => ?_)
   ·have h := Ap c10 h
    refine Av (Ab (AW (Ab (Aa Ae rfl (qL Bx AU rfl ?_)))))
    obtain ⟨v11, a11, h⟩ := bind_some h
    refine AM [2003, 2004, 2005] (Jo N p0 v11 a11) Xu rfl (qz C8 rfl (qs AU rfl (Ad (Ab (Aa Ae rfl (qa rfl (Ad (Ab (Ab (Aa Ae rfl (qa rfl (Ad ?_))))))))))))
    refine AR (L := BO N p0 v7) h (fun v12 => mk [(1, .e (.one (.ptr 1 0))), (3, .e (.one (.pure (.val (.int .i64 v2))))), (5, .e (.one (.own 2009))), (6, .e (.one (.pure (.val (.int .i64 v7.2))))), (7, .e (.one (.ptr 7 0))), (8, .e (.one (.pure (.val (.int .i64 v12.2.1))))), (9, .e (.one (.pure (.val (.int .i64 v12.2.2)))))] [(1, .box [.pure (.sl (p0.fBase.map Ah)), .pure (.sl (p0.fNext.map Ah)), .pure (.sl (p0.fHeld.map Ba))]), (7, .box [.own 2006, .own 2007, .own 2008]), (2006, .vec 1 (v11.fBase.map Ah)), (2007, .vec 1 (v12.1.map Ah)), (2008, .vec 1 (v11.fHeld.map Ba)), (2009, .vec 3 (v7.1.map Eg))]) (fun v13 => mk [(1, .e (.one (.ptr 1 0))), (3, .e (.one (.pure (.val (.int .i64 v2))))), (5, .e (.one (.own 2013))), (6, .e (.one (.pure (.val (.int .i64 v7.2))))), (7, .e (.one (.ptr 7 0)))] [(1, .box [.pure (.sl (p0.fBase.map Ah)), .pure (.sl (p0.fNext.map Ah)), .pure (.sl (p0.fHeld.map Ba))]), (7, .box [.own 2010, .own 2011, .own 2012]), (2010, .vec 1 (v11.fBase.map Ah)), (2011, .vec 1 (v13.map Ah)), (2012, .vec 1 (v11.fHeld.map Ba)), (2013, .vec 3 (v7.1.map Eg))]) (fun _ _ => rfl) (sm [(2006, 2003), (2007, 2004), (2008, 2005), (2009, 2001)] _ _ rfl rfl) (fun j12 n12 v12 h => ?_) (fun v13 s h hs => ?_)
    ·unfold BO at h
     refine Ab (Ab (Aa Ae rfl (qm rfl (qf BD rfl (ql A9 rfl (AS AG rfl (A8 rfl (Ad ?_))))))))
     refine As rfl (fun c14 => ?_) (fun c14 => ?_)
     ·have h := Ap c14 h
      refine Av ?_
      refine AX h (fun v15 => mk [(1, .e (.one (.ptr 1 0))), (3, .e (.one (.pure (.val (.int .i64 v2))))), (5, .e (.one (.own 2017))), (6, .e (.one (.pure (.val (.int .i64 v7.2))))), (7, .e (.one (.ptr 7 0))), (8, .e (.one (.pure (.val (.int .i64 v15.2))))), (9, .e (.one (.pure (.val (.int .i64 v12.2.2)))))] [(1, .box [.pure (.sl (p0.fBase.map Ah)), .pure (.sl (p0.fNext.map Ah)), .pure (.sl (p0.fHeld.map Ba))]), (7, .box [.own 2014, .own 2015, .own 2016]), (2014, .vec 1 (v11.fBase.map Ah)), (2015, .vec 1 (v15.1.map Ah)), (2016, .vec 1 (v11.fHeld.map Ba)), (2017, .vec 3 (v7.1.map Eg))]) (fun j15 h => ?_) (fun v15 h => ?_)
      ·refine AW (Ab (Ab (Aa Ae rfl (qf BD rfl (ql A9 rfl (qm rfl ?_))))))
       obtain ⟨v16, a16, b16, h⟩ := Am h
       refine qi AG Dh a16 (Ak b16) rfl (qk Ch rfl (A8 rfl (Ad ?_)))
       refine As rfl (fun c17 => ?_) (fun c17 => ?_)
       ·have h := Ap c17 h
        refine A6 ?_
        exact Aw _ h (sm [(2014, 2006), (2015, 2007), (2016, 2008), (2017, 2009)] _ _ rfl rfl)
       ·have h := Aq c17 h
        refine Av ?_
        refine AX h (fun v18 => mk [(1, .e (.one (.ptr 1 0))), (3, .e (.one (.pure (.val (.int .i64 v2))))), (5, .e (.one (.own 2021))), (6, .e (.one (.pure (.val (.int .i64 v7.2))))), (7, .e (.one (.ptr 7 0))), (8, .e (.one (.pure (.val (.int .i64 v12.2.1))))), (9, .e (.one (.pure (.val (.int .i64 v12.2.2)))))] [(1, .box [.pure (.sl (p0.fBase.map Ah)), .pure (.sl (p0.fNext.map Ah)), .pure (.sl (p0.fHeld.map Ba))]), (7, .box [.own 2018, .own 2019, .own 2020]), (2018, .vec 1 (v11.fBase.map Ah)), (2019, .vec 1 (v18.map Ah)), (2020, .vec 1 (v11.fHeld.map Ba)), (2021, .vec 3 (v7.1.map Eg))]) (fun j18 h => ?_) (fun v18 h => ?_)
        ·refine Ab (Aa Ae rfl (qm rfl (qm rfl ?_)))
         obtain ⟨c19, h⟩ := AN h
         refine Ip rfl c19 (J7 rfl (by decide) (B0 rfl (Ad ?_)))
         refine As rfl (fun c20 => ?_) (fun c20 => ?_)
         ·have h := Ap c20 h
          refine Aa Ae rfl (qf BD rfl (ql A9 rfl (qm rfl ?_)))
          obtain ⟨v21, a21, b21, h⟩ := Am h
          refine qI AG Dh a21 (Ak b21) rfl ?_
          refine D8 rfl rfl rfl rfl (Ak b21) rfl Dh rfl (BM rfl) (DR Ah v12.1 _ ((-1))) ?_
          refine Ad ?_
          exact Aw _ h (sm [(2018, 2006), (2019, 2007), (2020, 2008), (2021, 2009)] _ _ rfl rfl)
         ·have h := Aq c20 h
          refine Av ?_
          exact Aw _ h (sm [(2018, 2006), (2019, 2007), (2020, 2008), (2021, 2009)] _ _ rfl rfl)
        ·refine Aa Ae rfl (qm rfl (Bn rfl (qa rfl (Ad ?_))))
         exact Aw _ h (sm [(2014, 2018), (2015, 2019), (2016, 2020), (2017, 2021)] _ _ rfl rfl)
      ·refine Aa Ae rfl (qm rfl (Bn rfl (qa rfl (Ad ?_))))
       exact Aw _ h (sm [(2006, 2014), (2007, 2015), (2008, 2016), (2009, 2017)] _ _ rfl rfl)
     ·have h := Aq c14 h
      refine A6 ?_
      exact Aw _ h (sm [(2010, 2006), (2011, 2007), (2012, 2008), (2013, 2009)] _ _ rfl rfl)
    ·refine Al hs (Aa Ae rfl (qm rfl (qL Bx AU rfl (DK (BL 2010 _ _ rfl rfl) (DK (BL 2011 _ _ rfl rfl) (DK (BL 2012 _ _ rfl rfl) (En Kh AU C8 rfl ?_)))))))
     obtain ⟨c22, h⟩ := AN h
     refine DI (f := Eg) Kh Kh AU U3 C8 c22 rfl (qa rfl (Ad (Aa Ae rfl (qm rfl (Bn rfl (qa rfl (Ad ?_)))))))
     exact Aw _ h (sm [(2001, 60)] _ _ rfl rfl)
   ·have h := Aq c10 h
    refine A6 ?_
    exact Aw _ h (sm [(2002, 2001)] _ _ rfl rfl)
  ·refine Al hs (Ab (Aa Ae rfl (qm rfl (qa rfl (Ad ?_)))))
   obtain rfl := sj h
   refine Al (sm [(1000, 2002)] [(2, .e (.one (.own 1000)))] [(1000, .vec 3 (v8.map Eg))] rfl rfl) (AF ?_)
   exact ⟨⟨[_], ⟨.tmp _ _ rfl, trivial⟩, rfl⟩, ⟨rfl, trivial⟩⟩
set_option maxRecDepth 10000 in
theorem DN (N : Nat) (p0 : Ag) (p1 : Int) (r : Int) (h : BP N p0 p1 = some r) : AC Try.prog 49 [.e (.agg [.pure (.sl (p0.fBase.map Ah)), .pure (.sl (p0.fNext.map Ah)), .pure (.sl (p0.fHeld.map Ba))]), .e (.one (.pure (.val (.int .i64 p1))))] [] (.e (.one (.pure (.val (.int .u8 r))))) := by
 unfold BP at h
 refine Ar (n := 27) (rs := [.tmp 4]) Try.func49 rfl rfl rfl (BM rfl) (BM rfl) rfl fun w0 S0 => ?_
 refine Ab (Aa Ae rfl (qb rfl (qa rfl (Ad (Ab (Aa Ae rfl (qf CK rfl (ql A9 rfl (qm rfl ?_)))))))))
 obtain ⟨v1, a1, b1, h⟩ := Am h
 refine qi AG Dh a1 (Ak b1) rfl (qk Ch rfl ?_)
 obtain ⟨c2, h⟩ := AN h
 refine Ib rfl c2 (qa rfl (Ad ?_))
 refine AX h (fun v3 => mk [(5, .e (.one (.pure (.val (.int .u8 v3)))))] []) (fun j3 h => ?_) (fun v3 h => ?_)
 ·refine Ab (Aa Ae rfl (qf BD rfl (ql A9 rfl (qm rfl ?_))))
  obtain ⟨v4, a4, b4, h⟩ := Am h
  refine qi AG Dh a4 (Ak b4) rfl (qk Ch rfl (EO rfl (Ad ?_)))
  refine As rfl (fun c5 => ?_) (fun c5 => ?_)
  ·have h := Ap c5 h
   refine Aa Ae rfl (qm rfl (qf BD rfl (ql A9 rfl (qm rfl ?_))))
   obtain ⟨v6, a6, b6, h⟩ := Am h
   refine qi AG Dh a6 (Ak b6) rfl (qk Ch rfl ?_)
   obtain ⟨c7, h⟩ := AN h
   refine Ib rfl c7 (SP rfl (qa rfl (Ad ?_)))
   exact Aw _ h (sm [] _ _ rfl rfl)
  ·have h := Aq c5 h
   refine Av ?_
   exact Aw _ h (sm [] _ _ rfl rfl)
 ·refine Ab (Aa Ae rfl (qm rfl (qa rfl (Ad ?_))))
  obtain rfl := sj h
  refine Al (sm [] [(4, .e (.one (.pure (.val (.int .u8 v3)))))] [] rfl rfl) (AF ?_)
  exact ⟨⟨[_], ⟨.tmp _ _ rfl, trivial⟩, rfl⟩, trivial⟩
set_option maxRecDepth 10000 in
theorem Fl (N : Nat) (p0 : Int) (p1 : Int) (r : Bool) (h : Cf N p0 p1 = some r) : AC Try.prog 60 [.e (.one (.pure (.val (.int .u8 p0)))), .e (.one (.pure (.val (.int .i64 p1))))] [] (.e (.one (.pure (.val (.bool r))))) := by
 unfold Cf at h
 refine Ar (n := 10) (rs := [.tmp 4]) Try.func60 rfl rfl rfl (BM rfl) (BM rfl) rfl fun w0 S0 => ?_
 refine Ab (Aa Ae rfl (qa rfl (Ad (Ab (Aa Ae rfl (qm rfl (qm rfl ?_)))))))
 obtain ⟨c1, h⟩ := AN h
 refine Ip rfl c1 (LP rfl (B0 rfl (qa rfl (Ad ?_))))
 obtain rfl := sj h
 refine Al (sm [] [(4, .e (.one (.pure (.val (.bool (((FA .u8 ((E0 .u8 p0 p1)) 1) == 1)))))))] [] rfl rfl) (AF ?_)
 exact ⟨⟨[_], ⟨.tmp _ _ rfl, trivial⟩, rfl⟩, trivial⟩
set_option maxRecDepth 10000 in
theorem J3 (N : Nat) (p0 : Ac) (p1 : Ag) (r : (List Ao)) (h : D7 N p0 p1 = some r) : AC Try.prog 82 [.e (.agg [.pure (.sl (p0.fVersions.map Ah)), .pure (.sl (p0.fNow.map Ah)), .pure (.sl (p0.fTarget.map Ah)), .pure (.sl (p0.fTables.map Ai))]), .e (.agg [.pure (.sl (p1.fBase.map Ah)), .pure (.sl (p1.fNext.map Ah)), .pure (.sl (p1.fHeld.map Ba))])] [(3, r.map AZ)] (.e (.one (.own 0))) := by
 unfold D7 at h
 refine Ar (n := 111) (rs := [.tmp 4]) Try.func82 rfl rfl rfl (BM rfl) (BM rfl) rfl fun w0 S0 => ?_
 refine Ab (Aa Ae rfl (qb rfl (qb rfl (qa rfl (Ad (Ab (Aa Ae rfl (qa rfl (Ad (Ab (Ab (Aa Ae rfl (qa rfl (Ad ?_))))))))))))))
 refine AR (L := Cr N p0 p1) h (fun v1 => mk [(2, .e (.one (.ptr 2 0))), (3, .e (.one (.ptr 3 0))), (5, .e (.one (.own 2001))), (6, .e (.one (.pure (.val (.int .i64 v1.2)))))] [(2, .box [.pure (.sl (p0.fVersions.map Ah)), .pure (.sl (p0.fNow.map Ah)), .pure (.sl (p0.fTarget.map Ah)), .pure (.sl (p0.fTables.map Ai))]), (3, .box [.pure (.sl (p1.fBase.map Ah)), .pure (.sl (p1.fNext.map Ah)), .pure (.sl (p1.fHeld.map Ba))]), (2001, .vec 3 (v1.1.map AZ))]) (fun v2 => mk [(5, .e (.one (.own 2002)))] [(2002, .vec 3 (v2.map AZ))]) (fun _ _ => rfl) ((Cj 5 2013 3 rfl rfl rfl).trans (sm [(2001, 2013)] _ _ rfl rfl)) (fun j1 n1 v1 h => ?_) (fun v2 s h hs => ?_)
 ·unfold Cr at h
  refine Ab (Ab (Aa Ae rfl (qm rfl (qf CC rfl (ql Gl rfl (AS DT rfl (A8 rfl (Ad ?_))))))))
  refine As rfl (fun c3 => ?_) (fun c3 => ?_)
  ·have h := Ap c3 h
   refine Av (Ab (AW (Ab (Aa Ae rfl (qf CC rfl (ql Gl rfl (qm rfl ?_)))))))
   obtain ⟨v4, a4, b4, h⟩ := Am h
   refine qi DT DL a4 (Ak b4) rfl (qK Gw DL rfl (qz J5 rfl (qs DL rfl (Ad (Ab (Aa Ae rfl (qL Bx AU rfl (qf CU rfl (ql Ch rfl ?_)))))))))
   obtain ⟨v5, a5, h⟩ := bind_some h
   refine AM [] (DN N p1 v4.fFrom v5 a5) SB rfl (qa rfl (Ad ?_))
   refine AX h (fun v6 => mk [(2, .e (.one (.ptr 2 0))), (3, .e (.one (.ptr 3 0))), (5, .e (.one (.own 2003))), (6, .e (.one (.pure (.val (.int .i64 v1.2))))), (7, .e (.one (.ptr 7 0))), (8, .e (.one (.pure (.val (.int .u8 v6)))))] [(2, .box [.pure (.sl (p0.fVersions.map Ah)), .pure (.sl (p0.fNow.map Ah)), .pure (.sl (p0.fTarget.map Ah)), .pure (.sl (p0.fTables.map Ai))]), (3, .box [.pure (.sl (p1.fBase.map Ah)), .pure (.sl (p1.fNext.map Ah)), .pure (.sl (p1.fHeld.map Ba))]), (7, .box [.pure (.val (.int .i64 v4.fKind)), .pure (.val (.int .i64 v4.fFrom)), .pure (.val (.int .i64 v4.fTo)), .pure (.val (.bool v4.fAware)), .pure (.sl (v4.fOK.map (Eo eB))), .pure (.sl (v4.fRewrite.map (Eo eB)))]), (2003, .vec 3 (v1.1.map AZ))]) (fun j6 h => ?_) (fun v6 h => ?_)
   ·refine Ab (Aa Ae rfl (qL Gw DL rfl ?_))
    obtain ⟨v7, a7, h⟩ := bind_some h
    refine AM [] (Ca N v4 v7 a7) O1 rfl (Ad ?_)
    refine As rfl (fun c8 => ?_) (fun c8 => ?_)
    ·have h := Ap c8 h
     refine Aa Ae rfl (qf Cy rfl (ql Gf rfl (qm rfl ?_)))
     obtain ⟨v9, a9, b9, h⟩ := Am h
     refine qi Dp Fn a9 (Ak b9) rfl (qk Ji rfl (qa rfl (Ad ?_)))
     exact Aw _ h (sm [(2003, 2001)] _ _ rfl rfl)
    ·have h := Aq c8 h
     refine Av ?_
     exact Aw _ h (sm [(2003, 2001)] _ _ rfl rfl)
   ·refine Ab (Aa Ae rfl (qa rfl (Ad ?_)))
    refine AR (L := Bz N p0 p1 v1 v4 v6) h (fun v10 => mk [(2, .e (.one (.ptr 2 0))), (3, .e (.one (.ptr 3 0))), (5, .e (.one (.own 2004))), (6, .e (.one (.pure (.val (.int .i64 v1.2))))), (7, .e (.one (.ptr 7 0))), (8, .e (.one (.pure (.val (.int .u8 v6))))), (9, .e (.one (.pure (.val (.int .i64 v10.2)))))] [(2, .box [.pure (.sl (p0.fVersions.map Ah)), .pure (.sl (p0.fNow.map Ah)), .pure (.sl (p0.fTarget.map Ah)), .pure (.sl (p0.fTables.map Ai))]), (3, .box [.pure (.sl (p1.fBase.map Ah)), .pure (.sl (p1.fNext.map Ah)), .pure (.sl (p1.fHeld.map Ba))]), (7, .box [.pure (.val (.int .i64 v4.fKind)), .pure (.val (.int .i64 v4.fFrom)), .pure (.val (.int .i64 v4.fTo)), .pure (.val (.bool v4.fAware)), .pure (.sl (v4.fOK.map (Eo eB))), .pure (.sl (v4.fRewrite.map (Eo eB)))]), (2004, .vec 3 (v10.1.map AZ))]) (fun v11 => mk [(2, .e (.one (.ptr 2 0))), (3, .e (.one (.ptr 3 0))), (5, .e (.one (.own 2005))), (6, .e (.one (.pure (.val (.int .i64 v1.2)))))] [(2, .box [.pure (.sl (p0.fVersions.map Ah)), .pure (.sl (p0.fNow.map Ah)), .pure (.sl (p0.fTarget.map Ah)), .pure (.sl (p0.fTables.map Ai))]), (3, .box [.pure (.sl (p1.fBase.map Ah)), .pure (.sl (p1.fNext.map Ah)), .pure (.sl (p1.fHeld.map Ba))]), (2005, .vec 3 (v11.map AZ))]) (fun _ _ => rfl) (sm [(2004, 2003)] _ _ rfl rfl) (fun j10 n10 v10 h => ?_) (fun v11 s h hs => ?_)
    ·unfold Bz at h
     refine Ab (Ab (Aa Ae rfl (qm rfl (qf Bs rfl (ql A9 rfl (qf CU rfl (ql Ch rfl ?_)))))))
     obtain ⟨v12, a12, b12, h⟩ := Am h
     refine qi AG Dh a12 (Ak b12) rfl (qk Ch rfl (A8 rfl (Ad ?_)))
     refine As rfl (fun c13 => ?_) (fun c13 => ?_)
     ·have h := Ap c13 h
      refine Av ?_
      refine AX h (fun v14 => mk [(2, .e (.one (.ptr 2 0))), (3, .e (.one (.ptr 3 0))), (5, .e (.one (.own 2006))), (6, .e (.one (.pure (.val (.int .i64 v1.2))))), (7, .e (.one (.ptr 7 0))), (8, .e (.one (.pure (.val (.int .u8 v6))))), (9, .e (.one (.pure (.val (.int .i64 v10.2)))))] [(2, .box [.pure (.sl (p0.fVersions.map Ah)), .pure (.sl (p0.fNow.map Ah)), .pure (.sl (p0.fTarget.map Ah)), .pure (.sl (p0.fTables.map Ai))]), (3, .box [.pure (.sl (p1.fBase.map Ah)), .pure (.sl (p1.fNext.map Ah)), .pure (.sl (p1.fHeld.map Ba))]), (7, .box [.pure (.val (.int .i64 v4.fKind)), .pure (.val (.int .i64 v4.fFrom)), .pure (.val (.int .i64 v4.fTo)), .pure (.val (.bool v4.fAware)), .pure (.sl (v4.fOK.map (Eo eB))), .pure (.sl (v4.fRewrite.map (Eo eB)))]), (2006, .vec 3 (v14.map AZ))]) (fun j14 h => ?_) (fun v14 h => ?_)
      ·refine AW (Ab (Ab (Aa Ae rfl (qm rfl (qm rfl ?_)))))
       obtain ⟨v15, a15, h⟩ := bind_some h
       refine AM [] (Fl N v6 v10.2 v15 a15) Uf rfl (CG rfl (Ad ?_))
       refine As rfl (fun c16 => ?_) (fun c16 => ?_)
       ·have h := Ap c16 h
        refine A6 ?_
        exact Aw _ h (sm [(2006, 2004)] _ _ rfl rfl)
       ·have h := Aq c16 h
        refine Av (Ab (Aa Ae rfl (qa rfl (Ad (Ab (Ab (Aa Ae rfl (qa rfl (Ad ?_)))))))))
        refine AR (L := Bk N p0 p1 v1 v4 v10) h (fun v17 => mk [(2, .e (.one (.ptr 2 0))), (3, .e (.one (.ptr 3 0))), (5, .e (.one (.own 2007))), (6, .e (.one (.pure (.val (.int .i64 v1.2))))), (7, .e (.one (.ptr 7 0))), (8, .e (.one (.pure (.val (.int .u8 v6))))), (9, .e (.one (.pure (.val (.int .i64 v10.2))))), (10, .e (.one (.pure (.val (.bool v17.2.1))))), (11, .e (.one (.pure (.val (.int .i64 v17.2.2)))))] [(2, .box [.pure (.sl (p0.fVersions.map Ah)), .pure (.sl (p0.fNow.map Ah)), .pure (.sl (p0.fTarget.map Ah)), .pure (.sl (p0.fTables.map Ai))]), (3, .box [.pure (.sl (p1.fBase.map Ah)), .pure (.sl (p1.fNext.map Ah)), .pure (.sl (p1.fHeld.map Ba))]), (7, .box [.pure (.val (.int .i64 v4.fKind)), .pure (.val (.int .i64 v4.fFrom)), .pure (.val (.int .i64 v4.fTo)), .pure (.val (.bool v4.fAware)), .pure (.sl (v4.fOK.map (Eo eB))), .pure (.sl (v4.fRewrite.map (Eo eB)))]), (2007, .vec 3 (v17.1.map AZ))]) (fun v18 => mk [(2, .e (.one (.ptr 2 0))), (3, .e (.one (.ptr 3 0))), (5, .e (.one (.own 2008))), (6, .e (.one (.pure (.val (.int .i64 v1.2))))), (7, .e (.one (.ptr 7 0))), (8, .e (.one (.pure (.val (.int .u8 v6))))), (9, .e (.one (.pure (.val (.int .i64 v10.2))))), (10, .e (.one (.pure (.val (.bool v18.2)))))] [(2, .box [.pure (.sl (p0.fVersions.map Ah)), .pure (.sl (p0.fNow.map Ah)), .pure (.sl (p0.fTarget.map Ah)), .pure (.sl (p0.fTables.map Ai))]), (3, .box [.pure (.sl (p1.fBase.map Ah)), .pure (.sl (p1.fNext.map Ah)), .pure (.sl (p1.fHeld.map Ba))]), (7, .box [.pure (.val (.int .i64 v4.fKind)), .pure (.val (.int .i64 v4.fFrom)), .pure (.val (.int .i64 v4.fTo)), .pure (.val (.bool v4.fAware)), .pure (.sl (v4.fOK.map (Eo eB))), .pure (.sl (v4.fRewrite.map (Eo eB)))]), (2008, .vec 3 (v18.1.map AZ))]) (fun _ _ => rfl) (sm [(2007, 2004)] _ _ rfl rfl) (fun j17 n17 v17 h => ?_) (fun v18 s h hs => ?_)
        ·unfold Bk at h
         refine Ab (Ab (Aa Ae rfl (qm rfl (qf Bs rfl (ql A9 rfl (qf Ho rfl (ql Ch rfl ?_)))))))
         obtain ⟨v19, a19, b19, h⟩ := Am h
         refine qi AG Dh a19 (Ak b19) rfl (qk Ch rfl (A8 rfl (Ad ?_)))
         refine As rfl (fun c20 => ?_) (fun c20 => ?_)
         ·have h := Ap c20 h
          refine Av ?_
          refine AX h (fun v21 => mk [(2, .e (.one (.ptr 2 0))), (3, .e (.one (.ptr 3 0))), (5, .e (.one (.own 2009))), (6, .e (.one (.pure (.val (.int .i64 v1.2))))), (7, .e (.one (.ptr 7 0))), (8, .e (.one (.pure (.val (.int .u8 v6))))), (9, .e (.one (.pure (.val (.int .i64 v10.2))))), (10, .e (.one (.pure (.val (.bool v21.2))))), (11, .e (.one (.pure (.val (.int .i64 v17.2.2)))))] [(2, .box [.pure (.sl (p0.fVersions.map Ah)), .pure (.sl (p0.fNow.map Ah)), .pure (.sl (p0.fTarget.map Ah)), .pure (.sl (p0.fTables.map Ai))]), (3, .box [.pure (.sl (p1.fBase.map Ah)), .pure (.sl (p1.fNext.map Ah)), .pure (.sl (p1.fHeld.map Ba))]), (7, .box [.pure (.val (.int .i64 v4.fKind)), .pure (.val (.int .i64 v4.fFrom)), .pure (.val (.int .i64 v4.fTo)), .pure (.val (.bool v4.fAware)), .pure (.sl (v4.fOK.map (Eo eB))), .pure (.sl (v4.fRewrite.map (Eo eB)))]), (2009, .vec 3 (v21.1.map AZ))]) (fun j21 h => ?_) (fun v21 h => ?_)
          ·refine AW (Ab (Ab (Aa Ae rfl (qL Bx AU rfl (qf Ho rfl (ql Ch rfl ?_))))))
           obtain ⟨v22, a22, h⟩ := bind_some h
           refine AM [] (DN N p1 v4.fTo v22 a22) SB rfl (qm rfl ?_)
           obtain ⟨v23, a23, h⟩ := bind_some h
           refine AM [] (Fl N v22 v17.2.2 v23 a23) Uf rfl (CG rfl (Ad ?_))
           refine As rfl (fun c24 => ?_) (fun c24 => ?_)
           ·have h := Ap c24 h
            refine A6 ?_
            exact Aw _ h (sm [(2009, 2007)] _ _ rfl rfl)
           ·have h := Aq c24 h
            refine Av ?_
            refine AX h (fun v25 => mk [(2, .e (.one (.ptr 2 0))), (3, .e (.one (.ptr 3 0))), (5, .e (.one (.own 2010))), (6, .e (.one (.pure (.val (.int .i64 v1.2))))), (7, .e (.one (.ptr 7 0))), (8, .e (.one (.pure (.val (.int .u8 v6))))), (9, .e (.one (.pure (.val (.int .i64 v10.2))))), (10, .e (.one (.pure (.val (.bool v25))))), (11, .e (.one (.pure (.val (.int .i64 v17.2.2)))))] [(2, .box [.pure (.sl (p0.fVersions.map Ah)), .pure (.sl (p0.fNow.map Ah)), .pure (.sl (p0.fTarget.map Ah)), .pure (.sl (p0.fTables.map Ai))]), (3, .box [.pure (.sl (p1.fBase.map Ah)), .pure (.sl (p1.fNext.map Ah)), .pure (.sl (p1.fHeld.map Ba))]), (7, .box [.pure (.val (.int .i64 v4.fKind)), .pure (.val (.int .i64 v4.fFrom)), .pure (.val (.int .i64 v4.fTo)), .pure (.val (.bool v4.fAware)), .pure (.sl (v4.fOK.map (Eo eB))), .pure (.sl (v4.fRewrite.map (Eo eB)))]), (2010, .vec 3 (v17.1.map AZ))]) (fun j25 h => ?_) (fun v25 h => ?_)
            ·refine Aa Ae rfl (qm rfl (qm rfl ?_))
             refine AI (t := 67) rfl (fun c26 => ?_) (fun c26 => ?_)
             ·have h := Ap c26 h
              refine qn rfl (qn rfl (qn rfl (qn rfl (qn rfl (qn rfl (qn rfl (qn rfl (qp rfl (qa rfl (Ad ?_))))))))))
              exact Aw _ h (sm [(2010, 2007)] _ _ rfl rfl)
             ·have h := Aq c26 h
              refine qf IV rfl (ql I9 rfl (qm rfl ?_))
              obtain ⟨v27, a27, b27, h⟩ := Am h
              refine qi FE L4 a27 (Ak b27) rfl (qk OJ rfl (qm rfl ?_))
              obtain ⟨v28, a28, b28, h⟩ := Am h
              refine qi FO Pt a28 (Ak b28) rfl (qk Q5 rfl (qp rfl (qa rfl (Ad ?_))))
              exact Aw _ h (sm [(2010, 2007)] _ _ rfl rfl)
            ·refine AX h (fun v29 => mk [(2, .e (.one (.ptr 2 0))), (3, .e (.one (.ptr 3 0))), (5, .e (.one (.own 2011))), (6, .e (.one (.pure (.val (.int .i64 v1.2))))), (7, .e (.one (.ptr 7 0))), (8, .e (.one (.pure (.val (.int .u8 v6))))), (9, .e (.one (.pure (.val (.int .i64 v10.2))))), (10, .e (.one (.pure (.val (.bool v25))))), (11, .e (.one (.pure (.val (.int .i64 v17.2.2))))), (90, .e (.one (.pure (.val (.bool v29)))))] [(2, .box [.pure (.sl (p0.fVersions.map Ah)), .pure (.sl (p0.fNow.map Ah)), .pure (.sl (p0.fTarget.map Ah)), .pure (.sl (p0.fTables.map Ai))]), (3, .box [.pure (.sl (p1.fBase.map Ah)), .pure (.sl (p1.fNext.map Ah)), .pure (.sl (p1.fHeld.map Ba))]), (7, .box [.pure (.val (.int .i64 v4.fKind)), .pure (.val (.int .i64 v4.fFrom)), .pure (.val (.int .i64 v4.fTo)), .pure (.val (.bool v4.fAware)), .pure (.sl (v4.fOK.map (Eo eB))), .pure (.sl (v4.fRewrite.map (Eo eB)))]), (2011, .vec 3 (v17.1.map AZ))]) (fun j29 h => ?_) (fun v29 h => ?_)
             ·refine Aa Ae rfl (qf H0 rfl (ql Q5 rfl (CG rfl (qm rfl ?_))))
              refine AI (t := 80) rfl (fun c30 => ?_) (fun c30 => ?_)
              ·have h := Ap c30 h
               refine qf IV rfl (ql I9 rfl (qm rfl ?_))
               obtain ⟨v31, a31, b31, h⟩ := Am h
               refine qi FE L4 a31 (Ak b31) rfl (qk OJ rfl (qm rfl ?_))
               obtain ⟨v32, a32, b32, h⟩ := Am h
               refine qi FO Pt a32 (Ak b32) rfl (qk Q5 rfl (CG rfl (qp rfl (Ad ?_))))
               exact Aw _ h (sm [(2011, 2010)] _ _ rfl rfl)
              ·have h := Aq c30 h
               refine qn rfl (qn rfl (qn rfl (qn rfl (qn rfl (qn rfl (qn rfl (qn rfl (qn rfl (qp rfl (Ad ?_))))))))))
               exact Aw _ h (sm [(2011, 2010)] _ _ rfl rfl)
             ·refine As rfl (fun c33 => ?_) (fun c33 => ?_)
              ·have h := Ap c33 h
               refine Aa Ae rfl (qm rfl (qm rfl (qm rfl (qm rfl (A4 G6 MA rfl (En F4 Fm G6 rfl ?_))))))
               obtain ⟨c34, h⟩ := AN h
               refine DI (f := AZ) F4 F4 Fm Q9 G6 c34 rfl (qa rfl (Ad ?_))
               exact Aw _ h (sm [(2009, 97)] _ _ rfl rfl)
              ·have h := Aq c33 h
               refine Av ?_
               exact Aw _ h (sm [(2009, 2011)] _ _ rfl rfl)
          ·refine Aa Ae rfl (qm rfl (Bn rfl (qa rfl (Ad ?_))))
           exact Aw _ h (sm [(2007, 2009)] _ _ rfl rfl)
         ·have h := Aq c20 h
          refine A6 ?_
          exact Aw _ h (sm [(2008, 2007)] _ _ rfl rfl)
        ·refine Al hs ?_
         refine AX h (fun v35 => mk [(2, .e (.one (.ptr 2 0))), (3, .e (.one (.ptr 3 0))), (5, .e (.one (.own 2012))), (6, .e (.one (.pure (.val (.int .i64 v1.2))))), (7, .e (.one (.ptr 7 0))), (8, .e (.one (.pure (.val (.int .u8 v6))))), (9, .e (.one (.pure (.val (.int .i64 v10.2))))), (103, .e (.one (.pure (.val (.bool v35)))))] [(2, .box [.pure (.sl (p0.fVersions.map Ah)), .pure (.sl (p0.fNow.map Ah)), .pure (.sl (p0.fTarget.map Ah)), .pure (.sl (p0.fTables.map Ai))]), (3, .box [.pure (.sl (p1.fBase.map Ah)), .pure (.sl (p1.fNext.map Ah)), .pure (.sl (p1.fHeld.map Ba))]), (7, .box [.pure (.val (.int .i64 v4.fKind)), .pure (.val (.int .i64 v4.fFrom)), .pure (.val (.int .i64 v4.fTo)), .pure (.val (.bool v4.fAware)), .pure (.sl (v4.fOK.map (Eo eB))), .pure (.sl (v4.fRewrite.map (Eo eB)))]), (2012, .vec 3 (v18.1.map AZ))]) (fun j35 h => ?_) (fun v35 h => ?_)
         ·refine Aa Ae rfl (qf H0 rfl (ql Q5 rfl (qm rfl ?_)))
          refine AI (t := 100) rfl (fun c36 => ?_) (fun c36 => ?_)
          ·have h := Ap c36 h
           refine qm rfl (CG rfl (qp rfl (Ad ?_)))
           exact Aw _ h (sm [(2012, 2008)] _ _ rfl rfl)
          ·have h := Aq c36 h
           refine qn rfl (qn rfl (qp rfl (Ad ?_)))
           exact Aw _ h (sm [(2012, 2008)] _ _ rfl rfl)
         ·refine As rfl (fun c37 => ?_) (fun c37 => ?_)
          ·have h := Ap c37 h
           refine Aa Ae rfl (qm rfl (qm rfl (qm rfl (A4 G6 MA rfl (En F4 Fm G6 rfl ?_)))))
           obtain ⟨c38, h⟩ := AN h
           refine DI (f := AZ) F4 F4 Fm Q9 G6 c38 rfl (qa rfl (Ad ?_))
           exact Aw _ h (sm [(2006, 109)] _ _ rfl rfl)
          ·have h := Aq c37 h
           refine Av ?_
           exact Aw _ h (sm [(2006, 2012)] _ _ rfl rfl)
      ·refine Aa Ae rfl (qm rfl (Bn rfl (qa rfl (Ad ?_))))
       exact Aw _ h (sm [(2004, 2006)] _ _ rfl rfl)
     ·have h := Aq c13 h
      refine A6 ?_
      exact Aw _ h (sm [(2005, 2004)] _ _ rfl rfl)
    ·refine Al hs (Aa Ae rfl (qm rfl (Bn rfl (qa rfl (Ad ?_)))))
     exact Aw _ h (sm [(2001, 2005)] _ _ rfl rfl)
  ·have h := Aq c3 h
   refine A6 ?_
   exact Aw _ h (sm [(2002, 2001)] _ _ rfl rfl)
 ·refine Al hs (Ab (Aa Ae rfl (qm rfl (qa rfl (Ad ?_)))))
  obtain rfl := sj h
  refine Al (sm [(1000, 2002)] [(4, .e (.one (.own 1000)))] [(1000, .vec 3 (v2.map AZ))] rfl rfl) (AF ?_)
  exact ⟨⟨[_], ⟨.tmp _ _ rfl, trivial⟩, rfl⟩, ⟨rfl, trivial⟩⟩
set_option maxRecDepth 10000 in
theorem Jn (N : Nat) (p0 : Ac) (p1 : Ag) (r : Bool) (h : DS N p0 p1 = some r) : AC Try.prog 51 [.e (.agg [.pure (.sl (p0.fVersions.map Ah)), .pure (.sl (p0.fNow.map Ah)), .pure (.sl (p0.fTarget.map Ah)), .pure (.sl (p0.fTables.map Ai))]), .e (.agg [.pure (.sl (p1.fBase.map Ah)), .pure (.sl (p1.fNext.map Ah)), .pure (.sl (p1.fHeld.map Ba))])] [] (.e (.one (.pure (.val (.bool r))))) := by
 unfold DS at h
 refine Ar (n := 10) (rs := [.tmp 4]) Try.func51 rfl rfl rfl (BM rfl) (BM rfl) rfl fun w0 S0 => ?_
 refine Ab (Aa Ae rfl (qb rfl (qb rfl (qa rfl (Ad (Ab (Aa Ae rfl (qL DQ Di rfl (qL Bx AU rfl ?_)))))))))
 obtain ⟨v1, a1, h⟩ := bind_some h
 refine AM [2001] (J3 N p0 p1 v1 a1) Xr rfl (Fg F4 rfl (B0 rfl (qa rfl (Ad ?_))))
 obtain rfl := sj h
 refine Al (sm [] [(4, .e (.one (.pure (.val (.bool (((v1.length : Int) == 0)))))))] [] rfl rfl) (AF ?_)
 exact ⟨⟨[_], ⟨.tmp _ _ rfl, trivial⟩, rfl⟩, trivial⟩
set_option maxRecDepth 10000 in
theorem Gt (N : Nat) (p0 : Ac) (p1 : Ag) (r : Bool) (h : Cq N p0 p1 = some r) : AC Try.prog 25 [.e (.agg [.pure (.sl (p0.fVersions.map Ah)), .pure (.sl (p0.fNow.map Ah)), .pure (.sl (p0.fTarget.map Ah)), .pure (.sl (p0.fTables.map Ai))]), .e (.agg [.pure (.sl (p1.fBase.map Ah)), .pure (.sl (p1.fNext.map Ah)), .pure (.sl (p1.fHeld.map Ba))])] [] (.e (.one (.pure (.val (.bool r))))) := by
 unfold Cq at h
 refine Ar (n := 22) (rs := [.tmp 4]) Try.func25 rfl rfl rfl (BM rfl) (BM rfl) rfl fun w0 S0 => ?_
 refine Ab (Aa Ae rfl (qb rfl (qb rfl (qa rfl (Ad (Ab (Aa Ae rfl (qL Bx AU rfl ?_))))))))
 obtain ⟨v1, a1, h⟩ := bind_some h
 refine AM [2001] (KG N p1 v1 a1) X3 rfl (qa rfl (Ad (Ab (Ab (Aa Ae rfl (qa rfl (Ad ?_)))))))
 refine AR (L := BY N p0 v1) h (fun v2 => mk [(2, .e (.one (.ptr 2 0))), (5, .e (.one (.own 2002))), (6, .e (.one (.pure (.val (.int .i64 v2)))))] [(2, .box [.pure (.sl (p0.fVersions.map Ah)), .pure (.sl (p0.fNow.map Ah)), .pure (.sl (p0.fTarget.map Ah)), .pure (.sl (p0.fTables.map Ai))]), (2002, .vec 3 (v1.map Eg))]) (fun v3 => mk [] []) (fun _ _ => rfl) (sm [(2002, 2001)] _ _ rfl rfl) (fun j2 n2 v2 h => ?_) (fun v3 s h hs => ?_)
 ·unfold BY at h
  refine Ab (Ab (Aa Ae rfl (qm rfl (qm rfl (Fg Kh rfl (A8 rfl (Ad ?_)))))))
  refine As rfl (fun c4 => ?_) (fun c4 => ?_)
  ·have h := Ap c4 h
   refine Av (Ab (AW (Ab (Aa Ae rfl (qL DQ Di rfl (qm rfl (qm rfl ?_)))))))
   obtain ⟨v5, a5, b5, h⟩ := Am h
   refine qI Kh AU a5 (Ak b5) rfl (qJ Bx AU (Ak b5) rfl ?_)
   obtain ⟨v6, a6, h⟩ := bind_some h
   refine AM [] (Jn N p0 v5 v6 a6) XP rfl (CG rfl (A0 (by kernel_rfl) ?_))
   refine As rfl (fun c7 => ?_) (fun c7 => ?_)
   ·have h := Ap c7 h
    refine Ab (Aa Ae rfl (qa rfl (Ad ?_)))
    obtain rfl := sj h
    refine Al (sm [] [(4, .e (.one (.pure (.val (.bool false)))))] [] rfl rfl) (AF ?_)
    exact ⟨⟨[_], ⟨.tmp _ _ rfl, trivial⟩, rfl⟩, trivial⟩
   ·have h := Aq c7 h
    refine Av (Aa Ae rfl (qm rfl (Bn rfl (qa rfl (Ad ?_)))))
    exact Aw _ h (sm [] _ _ rfl rfl)
  ·have h := Aq c4 h
   refine A6 ?_
   exact Aw _ h (sm [] _ _ rfl rfl)
 ·refine Al hs (Ab (Aa Ae rfl (qa rfl (Ad ?_))))
  obtain rfl := sj h
  refine Al (sm [] [(4, .e (.one (.pure (.val (.bool true)))))] [] rfl rfl) (AF ?_)
  exact ⟨⟨[_], ⟨.tmp _ _ rfl, trivial⟩, rfl⟩, trivial⟩
set_option maxRecDepth 10000 in
theorem JT (N : Nat) (p0 : Ac) (p1 : Ag) (r : Int) (h : CR N p0 p1 = some r) : AC Try.prog 24 [.e (.agg [.pure (.sl (p0.fVersions.map Ah)), .pure (.sl (p0.fNow.map Ah)), .pure (.sl (p0.fTarget.map Ah)), .pure (.sl (p0.fTables.map Ai))]), .e (.agg [.pure (.sl (p1.fBase.map Ah)), .pure (.sl (p1.fNext.map Ah)), .pure (.sl (p1.fHeld.map Ba))])] [] (.e (.one (.pure (.val (.int .i64 r))))) := by
 unfold CR at h
 refine Ar (n := 154) (rs := [.tmp 4]) Try.func24 rfl rfl rfl (BM rfl) (BM rfl) rfl fun w0 S0 => ?_
 refine Ab (Aa Ae rfl (qb rfl (qb rfl (qa rfl (Ad (Ab (Ab (Aa Ae rfl (qL DQ Di rfl ?_)))))))))
 obtain ⟨v1, a1, h⟩ := bind_some h
 refine AM [] (Fv N p0 v1 a1) WR rfl (qa rfl (Ad (Ab (Aa Ae rfl (qm rfl (CB rfl (Ad ?_)))))))
 refine As rfl (fun c2 => ?_) (fun c2 => ?_)
 ·have h := Ap c2 h
  refine Ab (Aa Ae rfl (qm rfl (qa rfl (Ad ?_))))
  obtain rfl := sj h
  refine Al (sm [] [(4, .e (.one (.pure (.val (.int .i64 v1)))))] [] rfl rfl) (AF ?_)
  exact ⟨⟨[_], ⟨.tmp _ _ rfl, trivial⟩, rfl⟩, trivial⟩
 ·have h := Aq c2 h
  refine Av (Ab (Aa Ae rfl (qf Bs rfl (ql A9 rfl (AS AG rfl (qa rfl (Ad (Ab ?_))))))))
  refine AX h (fun v3 => mk [(2, .e (.one (.ptr 2 0))), (3, .e (.one (.ptr 3 0))), (6, .e (.one (.pure (.val (.int .i64 ((p0.fVersions.length : Int))))))), (39, .e (.one (.pure (.val (.bool v3)))))] [(2, .box [.pure (.sl (p0.fVersions.map Ah)), .pure (.sl (p0.fNow.map Ah)), .pure (.sl (p0.fTarget.map Ah)), .pure (.sl (p0.fTables.map Ai))]), (3, .box [.pure (.sl (p1.fBase.map Ah)), .pure (.sl (p1.fNext.map Ah)), .pure (.sl (p1.fHeld.map Ba))])]) (fun j3 h => ?_) (fun v3 h => ?_)
  ·refine Aa Ae rfl (qf CK rfl (ql A9 rfl (AS AG rfl (qm rfl (CB rfl (qm rfl ?_))))))
   refine AI (t := 24) rfl (fun c4 => ?_) (fun c4 => ?_)
   ·have h := Ap c4 h
    refine qn rfl (qn rfl (qn rfl (qn rfl (qn rfl (qp rfl (qm rfl (qn rfl (qn rfl (qn rfl (qn rfl (qn rfl (qn rfl (qn rfl (qp rfl (Ad ?_)))))))))))))))
    exact Aw _ h (sm [] _ _ rfl rfl)
   ·have h := Aq c4 h
    refine qf BD rfl (ql A9 rfl (AS AG rfl (qm rfl (CB rfl (qp rfl (qm rfl ?_))))))
    refine AI (t := 31) rfl (fun c5 => ?_) (fun c5 => ?_)
    ·have h := Ap c5 h
     refine qn rfl (qn rfl (qn rfl (qn rfl (qn rfl (qn rfl (qn rfl (qp rfl (Ad ?_))))))))
     exact Aw _ h (sm [] _ _ rfl rfl)
    ·have h := Aq c5 h
     refine qf Cy rfl (ql Gf rfl (AS Dp rfl (qf CC rfl (ql Gl rfl (AS DT rfl (CB rfl (qp rfl (Ad ?_))))))))
     exact Aw _ h (sm [] _ _ rfl rfl)
  ·refine As rfl (fun c6 => ?_) (fun c6 => ?_)
   ·have h := Ap c6 h
    refine Ab (Aa Ae rfl (qa rfl (Ad ?_)))
    obtain rfl := sj h
    refine Al (sm [] [(4, .e (.one (.pure (.val (.int .i64 6)))))] [] rfl rfl) (AF ?_)
    exact ⟨⟨[_], ⟨.tmp _ _ rfl, trivial⟩, rfl⟩, trivial⟩
   ·have h := Aq c6 h
    refine Av (Ab (Ab (Aa Ae rfl (qa rfl (Ad ?_)))))
    refine AR (L := B1 N p0 p1) h (fun v7 => mk [(2, .e (.one (.ptr 2 0))), (3, .e (.one (.ptr 3 0))), (6, .e (.one (.pure (.val (.int .i64 ((p0.fVersions.length : Int))))))), (7, .e (.one (.pure (.val (.int .i64 v7)))))] [(2, .box [.pure (.sl (p0.fVersions.map Ah)), .pure (.sl (p0.fNow.map Ah)), .pure (.sl (p0.fTarget.map Ah)), .pure (.sl (p0.fTables.map Ai))]), (3, .box [.pure (.sl (p1.fBase.map Ah)), .pure (.sl (p1.fNext.map Ah)), .pure (.sl (p1.fHeld.map Ba))])]) (fun v8 => mk [(2, .e (.one (.ptr 2 0))), (3, .e (.one (.ptr 3 0)))] [(2, .box [.pure (.sl (p0.fVersions.map Ah)), .pure (.sl (p0.fNow.map Ah)), .pure (.sl (p0.fTarget.map Ah)), .pure (.sl (p0.fTables.map Ai))]), (3, .box [.pure (.sl (p1.fBase.map Ah)), .pure (.sl (p1.fNext.map Ah)), .pure (.sl (p1.fHeld.map Ba))])]) (fun _ _ => rfl) (sm [] _ _ rfl rfl) (fun j7 n7 v7 h => ?_) (fun v8 s h hs => ?_)
    ·unfold B1 at h
     refine Ab (Ab (Aa Ae rfl (qm rfl (qm rfl (A8 rfl (Ad ?_))))))
     refine As rfl (fun c9 => ?_) (fun c9 => ?_)
     ·have h := Ap c9 h
      refine Av (Ab (AW (Ab ?_)))
      refine AX h (fun v10 => mk [(2, .e (.one (.ptr 2 0))), (3, .e (.one (.ptr 3 0))), (6, .e (.one (.pure (.val (.int .i64 ((p0.fVersions.length : Int))))))), (7, .e (.one (.pure (.val (.int .i64 v7))))), (84, .e (.one (.pure (.val (.bool v10)))))] [(2, .box [.pure (.sl (p0.fVersions.map Ah)), .pure (.sl (p0.fNow.map Ah)), .pure (.sl (p0.fTarget.map Ah)), .pure (.sl (p0.fTables.map Ai))]), (3, .box [.pure (.sl (p1.fBase.map Ah)), .pure (.sl (p1.fNext.map Ah)), .pure (.sl (p1.fHeld.map Ba))])]) (fun j10 h => ?_) (fun v10 h => ?_)
      ·refine Aa Ae rfl (qf CK rfl (ql A9 rfl (qm rfl ?_)))
       obtain ⟨v11, a11, b11, h⟩ := Am h
       refine qi AG Dh a11 (Ak b11) rfl (qk Ch rfl (A8 rfl (qm rfl ?_)))
       refine AI (t := 51) rfl (fun c12 => ?_) (fun c12 => ?_)
       ·have h := Ap c12 h
        refine qn rfl (qn rfl (qn rfl (qn rfl (qn rfl (qn rfl (qn rfl (qn rfl (qn rfl (qn rfl (qn rfl (qp rfl (qm rfl (qn rfl (qn rfl (qn rfl (qn rfl (qn rfl (qn rfl (qp rfl (qm rfl (qn rfl (qn rfl (qn rfl (qn rfl (qn rfl (qn rfl (qn rfl (qn rfl (qn rfl (qn rfl (qn rfl (qp rfl (A0 (by kernel_rfl) ?_)))))))))))))))))))))))))))))))))
        exact Aw _ h (sm [] _ _ rfl rfl)
       ·have h := Aq c12 h
        refine qf CK rfl (ql A9 rfl (qm rfl ?_))
        obtain ⟨v13, a13, b13, h⟩ := Am h
        refine qi AG Dh a13 (Ak b13) rfl (qk Ch rfl (qf Bs rfl (ql A9 rfl (qm rfl ?_))))
        obtain ⟨v14, a14, b14, h⟩ := Am h
        refine qi AG Dh a14 (Ak b14) rfl (qk Ch rfl (EO rfl (qp rfl (qm rfl ?_))))
        refine AI (t := 64) rfl (fun c15 => ?_) (fun c15 => ?_)
        ·have h := Ap c15 h
         refine qn rfl (qn rfl (qn rfl (qn rfl (qn rfl (qn rfl (qp rfl (qm rfl (qn rfl (qn rfl (qn rfl (qn rfl (qn rfl (qn rfl (qn rfl (qn rfl (qn rfl (qn rfl (qn rfl (qp rfl (A0 (by kernel_rfl) ?_))))))))))))))))))))
         exact Aw _ h (sm [] _ _ rfl rfl)
        ·have h := Aq c15 h
         refine qf BD rfl (ql A9 rfl (qm rfl ?_))
         obtain ⟨v16, a16, b16, h⟩ := Am h
         refine qi AG Dh a16 (Ak b16) rfl (qk Ch rfl (A8 rfl (qp rfl (qm rfl ?_))))
         refine AI (t := 72) rfl (fun c17 => ?_) (fun c17 => ?_)
         ·have h := Ap c17 h
          refine qn rfl (qn rfl (qn rfl (qn rfl (qn rfl (qn rfl (qn rfl (qn rfl (qn rfl (qn rfl (qn rfl (qp rfl (A0 (by kernel_rfl) ?_))))))))))))
          exact Aw _ h (sm [] _ _ rfl rfl)
         ·have h := Aq c17 h
          refine qf BD rfl (ql A9 rfl (qm rfl ?_))
          obtain ⟨v18, a18, b18, h⟩ := Am h
          refine qi AG Dh a18 (Ak b18) rfl (qk Ch rfl (qf Bs rfl (ql A9 rfl (qm rfl ?_))))
          obtain ⟨v19, a19, b19, h⟩ := Am h
          refine qi AG Dh a19 (Ak b19) rfl (qk Ch rfl (EO rfl (qp rfl (A0 (by kernel_rfl) ?_))))
          exact Aw _ h (sm [] _ _ rfl rfl)
      ·refine As rfl (fun c20 => ?_) (fun c20 => ?_)
       ·have h := Ap c20 h
        refine Ab (Aa Ae rfl (qa rfl (Ad ?_)))
        obtain rfl := sj h
        refine Al (sm [] [(4, .e (.one (.pure (.val (.int .i64 7)))))] [] rfl rfl) (AF ?_)
        exact ⟨⟨[_], ⟨.tmp _ _ rfl, trivial⟩, rfl⟩, trivial⟩
       ·have h := Aq c20 h
        refine Av (Ab (Aa Ae rfl (qf CK rfl (ql A9 rfl (qm rfl ?_)))))
        obtain ⟨v21, a21, b21, h⟩ := Am h
        refine qi AG Dh a21 (Ak b21) rfl (qk Ch rfl (qf BD rfl (ql A9 rfl (qm rfl ?_))))
        obtain ⟨v22, a22, b22, h⟩ := Am h
        refine qi AG Dh a22 (Ak b22) rfl (qk Ch rfl (B0 rfl (A0 (by kernel_rfl) ?_)))
        refine As rfl (fun c23 => ?_) (fun c23 => ?_)
        ·have h := Ap c23 h
         refine Ab (Aa Ae rfl (qa rfl (Ad ?_)))
         obtain rfl := sj h
         refine Al (sm [] [(4, .e (.one (.pure (.val (.int .i64 1)))))] [] rfl rfl) (AF ?_)
         exact ⟨⟨[_], ⟨.tmp _ _ rfl, trivial⟩, rfl⟩, trivial⟩
        ·have h := Aq c23 h
         refine Av (Aa Ae rfl (qm rfl (Bn rfl (qa rfl (Ad ?_)))))
         exact Aw _ h (sm [] _ _ rfl rfl)
     ·have h := Aq c9 h
      refine A6 ?_
      exact Aw _ h (sm [] _ _ rfl rfl)
    ·refine Al hs (Ab (Ab (Aa Ae rfl (qa rfl (Ad ?_)))))
     refine AR (L := BS N p0 p1) h (fun v24 => mk [(2, .e (.one (.ptr 2 0))), (3, .e (.one (.ptr 3 0))), (8, .e (.one (.pure (.val (.int .i64 v24)))))] [(2, .box [.pure (.sl (p0.fVersions.map Ah)), .pure (.sl (p0.fNow.map Ah)), .pure (.sl (p0.fTarget.map Ah)), .pure (.sl (p0.fTables.map Ai))]), (3, .box [.pure (.sl (p1.fBase.map Ah)), .pure (.sl (p1.fNext.map Ah)), .pure (.sl (p1.fHeld.map Ba))])]) (fun v25 => mk [] []) (fun _ _ => rfl) (sm [] _ _ rfl rfl) (fun j24 n24 v24 h => ?_) (fun v25 s h hs => ?_)
     ·unfold BS at h
      refine Ab (Ab (Aa Ae rfl (qm rfl (qf CC rfl (ql Gl rfl (AS DT rfl (A8 rfl (Ad ?_))))))))
      refine As rfl (fun c26 => ?_) (fun c26 => ?_)
      ·have h := Ap c26 h
       refine Av (Ab (AW (Ab (Aa Ae rfl (qf CC rfl (ql Gl rfl (qm rfl ?_)))))))
       obtain ⟨v27, a27, b27, h⟩ := Am h
       refine qi DT DL a27 (Ak b27) rfl (qK Gw DL rfl (qz J5 rfl (qs DL rfl (Ad (Ab (Aa Ae rfl (qf Bs rfl (ql A9 rfl (qf CU rfl (ql Ch rfl ?_))))))))))
       obtain ⟨v28, a28, b28, h⟩ := Am h
       refine qi AG Dh a28 (Ak b28) rfl (qk Ch rfl ?_)
       obtain ⟨c29, h⟩ := AN h
       refine Ib rfl c29 (NG rfl (qa rfl (Ad ?_)))
       refine AX h (fun v30 => mk [(2, .e (.one (.ptr 2 0))), (3, .e (.one (.ptr 3 0))), (8, .e (.one (.pure (.val (.int .i64 v24))))), (153, .e (.one (.pure (.val (.bool v30)))))] [(2, .box [.pure (.sl (p0.fVersions.map Ah)), .pure (.sl (p0.fNow.map Ah)), .pure (.sl (p0.fTarget.map Ah)), .pure (.sl (p0.fTables.map Ai))]), (3, .box [.pure (.sl (p1.fBase.map Ah)), .pure (.sl (p1.fNext.map Ah)), .pure (.sl (p1.fHeld.map Ba))])]) (fun j30 h => ?_) (fun v30 h => ?_)
       ·refine Aa Ae rfl (qL Gw DL rfl ?_)
        obtain ⟨v31, a31, h⟩ := bind_some h
        refine AM [] (Ca N v27 v31 a31) O1 rfl (CG rfl (qm rfl ?_))
        refine AI (t := 119) rfl (fun c32 => ?_) (fun c32 => ?_)
        ·have h := Ap c32 h
         refine qf Cy rfl (ql Gf rfl (qm rfl ?_))
         obtain ⟨v33, a33, b33, h⟩ := Am h
         refine qi Dp Fn a33 (Ak b33) rfl (qk Ji rfl (CB rfl (qp rfl (qm rfl ?_))))
         refine AI (t := 127) rfl (fun c34 => ?_) (fun c34 => ?_)
         ·have h := Ap c34 h
          refine qn rfl (qn rfl (qn rfl (qu rfl (qu rfl (qu rfl (qu rfl (qu rfl (qu rfl (qu rfl (qu rfl (qu rfl (qu rfl (qu rfl (qu rfl (qu rfl (qu rfl (qu rfl (qu rfl (qu rfl (qu rfl (qu rfl (qu rfl (qu rfl (qn rfl (qp rfl (A0 (by kernel_rfl) ?_))))))))))))))))))))))))))
          exact Aw _ h (sm [] _ _ rfl rfl)
         ·have h := Aq c34 h
          refine qL Gw DL rfl ?_
          obtain ⟨v35, a35, h⟩ := bind_some h
          refine AM [] (Ca N v27 v35 a35) O1 rfl (qm rfl ?_)
          refine AI (t := 130) rfl (fun c36 => ?_) (fun c36 => ?_)
          ·have h := Ap c36 h
           refine qf Cy rfl (ql Gf rfl (qm rfl ?_))
           obtain ⟨v37, a37, b37, h⟩ := Am h
           refine qi Dp Fn a37 (Ak b37) rfl (qk Ji rfl (qm rfl (HI rfl (CB rfl (qm rfl ?_)))))
           refine AI (t := 139) rfl (fun c38 => ?_) (fun c38 => ?_)
           ·have h := Ap c38 h
            refine qn rfl (qn rfl (qn rfl (qn rfl (qn rfl (qn rfl (qn rfl (qn rfl (qn rfl (qn rfl (qn rfl (qp rfl (qp rfl (qp rfl (A0 (by kernel_rfl) ?_))))))))))))))
            exact Aw _ h (sm [] _ _ rfl rfl)
           ·have h := Aq c38 h
            refine qL Bx AU rfl (qf CU rfl (ql Ch rfl ?_))
            obtain ⟨v39, a39, h⟩ := bind_some h
            refine AM [] (DN N p1 v27.fFrom v39 a39) SB rfl (qf Cy rfl (ql Gf rfl (qm rfl ?_)))
            obtain ⟨v40, a40, b40, h⟩ := Am h
            refine qi Dp Fn a40 (Ak b40) rfl (qk Ji rfl (HI rfl (CB rfl (qp rfl (qp rfl (qp rfl (A0 (by kernel_rfl) ?_)))))))
            exact Aw _ h (sm [] _ _ rfl rfl)
          ·have h := Aq c36 h
           refine qn rfl (qn rfl (qn rfl (qn rfl (qn rfl (qn rfl (qn rfl (qn rfl (qn rfl (qu rfl (qu rfl (qu rfl (qu rfl (qu rfl (qu rfl (qu rfl (qu rfl (qu rfl (qu rfl (qu rfl (qn rfl (qp rfl (qp rfl (A0 (by kernel_rfl) ?_)))))))))))))))))))))))
           exact Aw _ h (sm [] _ _ rfl rfl)
        ·have h := Aq c32 h
         refine qn rfl (qn rfl (qn rfl (qn rfl (qn rfl (qn rfl (qp rfl (qm rfl (qL Gw DL rfl ?_))))))))
         obtain ⟨v41, a41, h⟩ := bind_some h
         refine AM [] (Ca N v27 v41 a41) O1 rfl (qm rfl ?_)
         refine AI (t := 130) rfl (fun c42 => ?_) (fun c42 => ?_)
         ·have h := Ap c42 h
          refine qf Cy rfl (ql Gf rfl (qm rfl ?_))
          obtain ⟨v43, a43, b43, h⟩ := Am h
          refine qi Dp Fn a43 (Ak b43) rfl (qk Ji rfl (qm rfl (HI rfl (CB rfl (qm rfl ?_)))))
          refine AI (t := 139) rfl (fun c44 => ?_) (fun c44 => ?_)
          ·have h := Ap c44 h
           refine qn rfl (qn rfl (qn rfl (qn rfl (qn rfl (qn rfl (qn rfl (qn rfl (qn rfl (qn rfl (qn rfl (qp rfl (qp rfl (qp rfl (A0 (by kernel_rfl) ?_))))))))))))))
           exact Aw _ h (sm [] _ _ rfl rfl)
          ·have h := Aq c44 h
           refine qL Bx AU rfl (qf CU rfl (ql Ch rfl ?_))
           obtain ⟨v45, a45, h⟩ := bind_some h
           refine AM [] (DN N p1 v27.fFrom v45 a45) SB rfl (qf Cy rfl (ql Gf rfl (qm rfl ?_)))
           obtain ⟨v46, a46, b46, h⟩ := Am h
           refine qi Dp Fn a46 (Ak b46) rfl (qk Ji rfl (HI rfl (CB rfl (qp rfl (qp rfl (qp rfl (A0 (by kernel_rfl) ?_)))))))
           exact Aw _ h (sm [] _ _ rfl rfl)
         ·have h := Aq c42 h
          refine qn rfl (qn rfl (qn rfl (qn rfl (qn rfl (qn rfl (qn rfl (qn rfl (qn rfl (qu rfl (qu rfl (qu rfl (qu rfl (qu rfl (qu rfl (qu rfl (qu rfl (qu rfl (qu rfl (qu rfl (qn rfl (qp rfl (qp rfl (A0 (by kernel_rfl) ?_)))))))))))))))))))))))
          exact Aw _ h (sm [] _ _ rfl rfl)
       ·refine As rfl (fun c47 => ?_) (fun c47 => ?_)
        ·have h := Ap c47 h
         refine Ab (Aa Ae rfl (qa rfl (Ad ?_)))
         obtain rfl := sj h
         refine Al (sm [] [(4, .e (.one (.pure (.val (.int .i64 1)))))] [] rfl rfl) (AF ?_)
         exact ⟨⟨[_], ⟨.tmp _ _ rfl, trivial⟩, rfl⟩, trivial⟩
        ·have h := Aq c47 h
         refine Av (Aa Ae rfl (qm rfl (Bn rfl (qa rfl (Ad ?_)))))
         exact Aw _ h (sm [] _ _ rfl rfl)
      ·have h := Aq c26 h
       refine A6 ?_
       exact Aw _ h (sm [] _ _ rfl rfl)
     ·refine Al hs (Ab (Aa Ae rfl (qa rfl (Ad ?_))))
      obtain rfl := sj h
      refine Al (sm [] [(4, .e (.one (.pure (.val (.int .i64 0)))))] [] rfl rfl) (AF ?_)
      exact ⟨⟨[_], ⟨.tmp _ _ rfl, trivial⟩, rfl⟩, trivial⟩
set_option maxRecDepth 10000 in
theorem J1 (N : Nat) (p0 : Af) (r : Bool) (h : Ec N p0 = some r) : AC Try.prog 80 [.e (.agg [.pure (.val (.int .i64 p0.fKind)), .pure (.val (.int .i64 p0.fIndex)), .pure (.val (.int .i64 p0.fVersion))])] [] (.e (.one (.pure (.val (.bool r))))) := by
 unfold Ec at h
 refine Ar (n := 31) (rs := [.tmp 2]) Try.func80 rfl rfl rfl (BM rfl) (BM rfl) rfl fun w0 S0 => ?_
 refine Ab (Aa Ae rfl (qb rfl (qa rfl (Ad ?_))))
 refine AX h (fun v1 => mk [(2, .e (.one (.pure (.val (.bool v1)))))] []) (fun j1 h => ?_) (fun v1 h => ?_)
 ·refine Aa Ae rfl (qf EP rfl (ql Ch rfl (EO rfl (qm rfl ?_))))
  refine AI (t := 6) rfl (fun c2 => ?_) (fun c2 => ?_)
  ·have h := Ap c2 h
   refine qf EP rfl (ql Ch rfl (UX rfl (qp rfl (qm rfl ?_))))
   refine AI (t := 11) rfl (fun c3 => ?_) (fun c3 => ?_)
   ·have h := Ap c3 h
    refine qf Ex rfl (ql Ch rfl (EO rfl (qp rfl (qm rfl ?_))))
    refine AI (t := 16) rfl (fun c4 => ?_) (fun c4 => ?_)
    ·have h := Ap c4 h
     refine qf FV rfl (ql Ch rfl (EO rfl (qp rfl (qm rfl ?_))))
     refine AI (t := 21) rfl (fun c5 => ?_) (fun c5 => ?_)
     ·have h := Ap c5 h
      refine qf EP rfl (ql Ch rfl (B0 rfl (qm rfl ?_)))
      refine AI (t := 25) rfl (fun c6 => ?_) (fun c6 => ?_)
      ·have h := Ap c6 h
       refine qn rfl (qn rfl (qn rfl (qp rfl (qp rfl (qa rfl (Ad ?_))))))
       exact Aw _ h (sm [] _ _ rfl rfl)
      ·have h := Aq c6 h
       refine qf FV rfl (ql Ch rfl (B0 rfl (qp rfl (qp rfl (qa rfl (Ad ?_))))))
       exact Aw _ h (sm [] _ _ rfl rfl)
     ·have h := Aq c5 h
      refine qn rfl (qn rfl (qn rfl (qn rfl (qu rfl (qu rfl (qu rfl (qn rfl (qp rfl (qa rfl (Ad ?_))))))))))
      exact Aw _ h (sm [] _ _ rfl rfl)
    ·have h := Aq c4 h
     refine qn rfl (qn rfl (qn rfl (qp rfl (qm rfl (qn rfl (qn rfl (qn rfl (qn rfl (qu rfl (qu rfl (qu rfl (qn rfl (qp rfl (qa rfl (Ad ?_)))))))))))))))
     exact Aw _ h (sm [] _ _ rfl rfl)
   ·have h := Aq c3 h
    refine qn rfl (qn rfl (qn rfl (qp rfl (qm rfl (qn rfl (qn rfl (qn rfl (qp rfl (qm rfl (qn rfl (qn rfl (qn rfl (qn rfl (qu rfl (qu rfl (qu rfl (qn rfl (qp rfl (qa rfl (Ad ?_))))))))))))))))))))
    exact Aw _ h (sm [] _ _ rfl rfl)
  ·have h := Aq c2 h
   refine qn rfl (qn rfl (qn rfl (qp rfl (qm rfl (qn rfl (qn rfl (qn rfl (qp rfl (qm rfl (qn rfl (qn rfl (qn rfl (qp rfl (qm rfl (qn rfl (qn rfl (qn rfl (qn rfl (qu rfl (qu rfl (qu rfl (qn rfl (qp rfl (qa rfl (Ad ?_)))))))))))))))))))))))))
   exact Aw _ h (sm [] _ _ rfl rfl)
 ·obtain rfl := sj h
  refine Al (sm [] [(2, .e (.one (.pure (.val (.bool v1)))))] [] rfl rfl) (AF ?_)
  exact ⟨⟨[_], ⟨.tmp _ _ rfl, trivial⟩, rfl⟩, trivial⟩
set_option maxRecDepth 10000 in
theorem FF (N : Nat) (p0 : Ac) (p1 : Ag) (p2 : Af) (r : Ag × Bool) (h : B7 N p0 p1 p2 = some r) : AC Try.prog 30 [.e (.agg [.pure (.sl (p0.fVersions.map Ah)), .pure (.sl (p0.fNow.map Ah)), .pure (.sl (p0.fTarget.map Ah)), .pure (.sl (p0.fTables.map Ai))]), .e (.agg [.pure (.sl (p1.fBase.map Ah)), .pure (.sl (p1.fNext.map Ah)), .pure (.sl (p1.fHeld.map Ba))]), .e (.agg [.pure (.val (.int .i64 p2.fKind)), .pure (.val (.int .i64 p2.fIndex)), .pure (.val (.int .i64 p2.fVersion))])] [(1, r.1.fBase.map Ah), (1, r.1.fNext.map Ah), (1, r.1.fHeld.map Ba)] (.tup [.agg [.own 0, .own 1, .own 2], .one (.pure (.val (.bool r.2)))]) := by
 unfold B7 at h
 refine Ar (n := 201) (rs := [.cell 6 43, .tmp 7]) Try.func30 rfl rfl rfl (BM rfl) (BM rfl) rfl fun w0 S0 => ?_
 refine Ab (Aa Ae rfl (qb rfl (qb rfl (qb rfl (qz C8 rfl (qa rfl (Ad (Ab (Aa Ae rfl (En AG Dh Kd rfl (qf CK rfl (ql A9 rfl ?_))))))))))))
 obtain ⟨c1, h⟩ := AN h
 refine Jg (f := Ah) AG AG Dh KH Kd (fun _ => rfl) c1 rfl (En AG Dh Kd rfl (qf BD rfl (ql A9 rfl ?_)))
 obtain ⟨c2, h⟩ := AN h
 refine Jg (f := Ah) AG AG Dh KH Kd (fun _ => rfl) c2 rfl (En Dp Fn Oo rfl (qf Cy rfl (ql Gf rfl ?_)))
 obtain ⟨c3, h⟩ := AN h
 refine Jg (f := Ba) Dp Dp Fn P5 Oo (fun _ => rfl) c3 rfl (A4 C8 GA rfl (qz C8 rfl (qs AU rfl (A0 (by kernel_rfl) (Ab (Aa Ae rfl (qf Ex rfl (ql Ch rfl (qa rfl (Ad ?_))))))))))
 refine AX h (fun v4 => mk [(6, .e (.one (.ptr 6 0))), (8, .e (.one (.ptr 8 0)))] [(6, .box [.pure (.nil0), .pure (.nil0), .pure (.nil0)]), (8, .box [.own 2001, .own 2002, .own 2003]), (2001, .vec 1 (v4.1.map Ah)), (2002, .vec 1 (v4.2.1.map Ah)), (2003, .vec 1 (v4.2.2.map Ba))]) (fun j4 h => ?_) (fun v4 h => ?_)
 ·refine Ab (Aa Ae rfl (qf EP rfl (ql Ch rfl (Ad (AW (Ab (Aa Ae rfl (B0 rfl (qa rfl (Ad ?_))))))))))
  refine As rfl (fun c5 => ?_) (fun c5 => ?_)
  ·have h := Ap c5 h
   refine Ab ?_
   refine AX h (fun v6 => mk [(3, .e (.one (.ptr 3 0))), (5, .e (.one (.ptr 5 0))), (6, .e (.one (.ptr 6 0))), (8, .e (.one (.ptr 8 0))), (9, .e (.one (.pure (.val (.int .i64 p2.fIndex))))), (60, .e (.one (.pure (.val (.bool v6)))))] [(3, .box [.pure (.sl (p0.fVersions.map Ah)), .pure (.sl (p0.fNow.map Ah)), .pure (.sl (p0.fTarget.map Ah)), .pure (.sl (p0.fTables.map Ai))]), (5, .box [.pure (.val (.int .i64 p2.fKind)), .pure (.val (.int .i64 p2.fIndex)), .pure (.val (.int .i64 p2.fVersion))]), (6, .box [.pure (.nil0), .pure (.nil0), .pure (.nil0)]), (8, .box [.own 2004, .own 2005, .own 2006]), (2004, .vec 1 (((([] : List Int)) ++ p1.fBase).map Ah)), (2005, .vec 1 (((([] : List Int)) ++ p1.fNext).map Ah)), (2006, .vec 1 (((([] : List Int)) ++ p1.fHeld).map Ba))]) (fun j6 h => ?_) (fun v6 h => ?_)
   ·refine Aa Ae rfl (qf BD rfl (ql A9 rfl (qm rfl ?_)))
    obtain ⟨v7, a7, b7, h⟩ := Am h
    refine qi AG Dh a7 (Ak b7) rfl (qk Ch rfl (EO rfl (qm rfl ?_)))
    refine AI (t := 51) rfl (fun c8 => ?_) (fun c8 => ?_)
    ·have h := Ap c8 h
     refine qn rfl (qn rfl (qn rfl (qn rfl (qn rfl (qn rfl (qn rfl (qn rfl (qp rfl (A0 (by kernel_rfl) ?_)))))))))
     exact Aw _ h (sm [(2004, 18), (2005, 22), (2006, 26)] _ _ rfl rfl)
    ·have h := Aq c8 h
     refine qf FV rfl (ql Ch rfl (qf CK rfl (ql A9 rfl (qm rfl ?_))))
     obtain ⟨v9, a9, b9, h⟩ := Am h
     refine qi AG Dh a9 (Ak b9) rfl (qk Ch rfl (B0 rfl (qp rfl (A0 (by kernel_rfl) ?_))))
     exact Aw _ h (sm [(2004, 18), (2005, 22), (2006, 26)] _ _ rfl rfl)
   ·refine As rfl (fun c10 => ?_) (fun c10 => ?_)
    ·have h := Ap c10 h
     refine Ab (Aa Ae rfl (A4 C8 GA rfl (qs AU rfl (qa rfl (Ad ?_)))))
     obtain rfl := sj h
     refine Al ((AD 6 0 2007 1 _ rfl rfl rfl rfl).trans ((AD 6 1 2008 1 _ rfl rfl rfl rfl).trans ((AD 6 2 2009 1 _ rfl rfl rfl rfl).trans (sm [(1000, 2007), (1001, 2008), (1002, 2009)] [(6, .e (.one (.ptr 6 0))), (7, .e (.one (.pure (.val (.bool false)))))] [(6, .box [.own 1000, .own 1001, .own 1002]), (1000, .vec 1 ((([] : List Int)).map Ah)), (1001, .vec 1 ((([] : List Int)).map Ah)), (1002, .vec 1 ((([] : List Int)).map Ba))] rfl rfl)))) (AF ?_)
     exact ⟨⟨[_, _], ⟨.cellN _ _ _ _ _ _ _ rfl rfl Bx AU rfl rfl (Hc rfl), ⟨.tmp _ _ rfl, trivial⟩⟩, rfl⟩, ⟨rfl, rfl, rfl, trivial⟩⟩
    ·have h := Aq c10 h
     refine Av (Ab (Aa Ae rfl (qf BD rfl (ql A9 rfl (qm rfl (qf FV rfl (ql Ch rfl ?_)))))))
     obtain ⟨v11, a11, b11, h⟩ := Am h
     refine qI AG Dh a11 (Ak b11) rfl ?_
     refine D8 rfl rfl rfl rfl (Ak b11) rfl Dh rfl (BM rfl) (DR Ah ((([] : List Int)) ++ p1.fNext) _ p2.fVersion) ?_
     refine Ad (Ab (Aa Ae rfl (qa rfl (Ad ?_))))
     refine AR (L := BR N p0 p2) h (fun v12 => mk [(3, .e (.one (.ptr 3 0))), (5, .e (.one (.ptr 5 0))), (6, .e (.one (.ptr 6 0))), (8, .e (.one (.ptr 8 0))), (9, .e (.one (.pure (.val (.int .i64 p2.fIndex))))), (10, .e (.one (.pure (.val (.int .i64 v12.2)))))] [(3, .box [.pure (.sl (p0.fVersions.map Ah)), .pure (.sl (p0.fNow.map Ah)), .pure (.sl (p0.fTarget.map Ah)), .pure (.sl (p0.fTables.map Ai))]), (5, .box [.pure (.val (.int .i64 p2.fKind)), .pure (.val (.int .i64 p2.fIndex)), .pure (.val (.int .i64 p2.fVersion))]), (6, .box [.pure (.nil0), .pure (.nil0), .pure (.nil0)]), (8, .box [.own 2010, .own 2011, .own 2012]), (2010, .vec 1 (((([] : List Int)) ++ p1.fBase).map Ah)), (2011, .vec 1 ((((([] : List Int)) ++ p1.fNext).set (p2.fIndex).toNat p2.fVersion).map Ah)), (2012, .vec 1 (v12.1.map Ba))]) (fun v13 => mk [(6, .e (.one (.ptr 6 0))), (8, .e (.one (.ptr 8 0)))] [(6, .box [.pure (.nil0), .pure (.nil0), .pure (.nil0)]), (8, .box [.own 2013, .own 2014, .own 2015]), (2013, .vec 1 (((([] : List Int)) ++ p1.fBase).map Ah)), (2014, .vec 1 ((((([] : List Int)) ++ p1.fNext).set (p2.fIndex).toNat p2.fVersion).map Ah)), (2015, .vec 1 (v13.map Ba))]) (fun _ _ => rfl) (sm [(2010, 2004), (2011, 2005), (2012, 2006)] _ _ rfl rfl) (fun j12 n12 v12 h => ?_) (fun v13 s h hs => ?_)
     ·unfold BR at h
      refine Ab (Ab (Aa Ae rfl (qm rfl (qf CC rfl (ql Gl rfl (AS DT rfl (A8 rfl (Ad ?_))))))))
      refine As rfl (fun c14 => ?_) (fun c14 => ?_)
      ·have h := Ap c14 h
       refine Av ?_
       refine AX h (fun v15 => mk [(3, .e (.one (.ptr 3 0))), (5, .e (.one (.ptr 5 0))), (6, .e (.one (.ptr 6 0))), (8, .e (.one (.ptr 8 0))), (9, .e (.one (.pure (.val (.int .i64 p2.fIndex))))), (10, .e (.one (.pure (.val (.int .i64 v12.2)))))] [(3, .box [.pure (.sl (p0.fVersions.map Ah)), .pure (.sl (p0.fNow.map Ah)), .pure (.sl (p0.fTarget.map Ah)), .pure (.sl (p0.fTables.map Ai))]), (5, .box [.pure (.val (.int .i64 p2.fKind)), .pure (.val (.int .i64 p2.fIndex)), .pure (.val (.int .i64 p2.fVersion))]), (6, .box [.pure (.nil0), .pure (.nil0), .pure (.nil0)]), (8, .box [.own 2016, .own 2017, .own 2018]), (2016, .vec 1 (((([] : List Int)) ++ p1.fBase).map Ah)), (2017, .vec 1 ((((([] : List Int)) ++ p1.fNext).set (p2.fIndex).toNat p2.fVersion).map Ah)), (2018, .vec 1 (v15.map Ba))]) (fun j15 h => ?_) (fun v15 h => ?_)
       ·refine AW ?_
        refine AX h (fun v16 => mk [(3, .e (.one (.ptr 3 0))), (5, .e (.one (.ptr 5 0))), (6, .e (.one (.ptr 6 0))), (8, .e (.one (.ptr 8 0))), (9, .e (.one (.pure (.val (.int .i64 p2.fIndex))))), (10, .e (.one (.pure (.val (.int .i64 v12.2))))), (90, .e (.one (.pure (.val (.bool v16)))))] [(3, .box [.pure (.sl (p0.fVersions.map Ah)), .pure (.sl (p0.fNow.map Ah)), .pure (.sl (p0.fTarget.map Ah)), .pure (.sl (p0.fTables.map Ai))]), (5, .box [.pure (.val (.int .i64 p2.fKind)), .pure (.val (.int .i64 p2.fIndex)), .pure (.val (.int .i64 p2.fVersion))]), (6, .box [.pure (.nil0), .pure (.nil0), .pure (.nil0)]), (8, .box [.own 2019, .own 2020, .own 2021]), (2019, .vec 1 (((([] : List Int)) ++ p1.fBase).map Ah)), (2020, .vec 1 ((((([] : List Int)) ++ p1.fNext).set (p2.fIndex).toNat p2.fVersion).map Ah)), (2021, .vec 1 (v12.1.map Ba))]) (fun j16 h => ?_) (fun v16 h => ?_)
        ·refine Aa Ae rfl (qf CC rfl (ql Gl rfl (qm rfl ?_)))
         obtain ⟨v17, a17, b17, h⟩ := Am h
         refine qi DT DL a17 (Ak b17) rfl (qg CU rfl (qk Ch rfl (qm rfl (B0 rfl (qm rfl ?_)))))
         refine AI (t := 83) rfl (fun c18 => ?_) (fun c18 => ?_)
         ·have h := Ap c18 h
          refine qf CC rfl (ql Gl rfl (qm rfl ?_))
          obtain ⟨v19, a19, b19, h⟩ := Am h
          refine qi DT DL a19 (Ak b19) rfl (qK Gw DL rfl ?_)
          obtain ⟨v20, a20, h⟩ := bind_some h
          refine AM [] (Ca N v19 v20 a20) O1 rfl (qp rfl (Ad ?_))
          exact Aw _ h (sm [(2019, 2010), (2020, 2011), (2021, 2012)] _ _ rfl rfl)
         ·have h := Aq c18 h
          refine qn rfl (qn rfl (qn rfl (qn rfl (qn rfl (qn rfl (qp rfl (Ad ?_)))))))
          exact Aw _ h (sm [(2019, 2010), (2020, 2011), (2021, 2012)] _ _ rfl rfl)
        ·refine As rfl (fun c21 => ?_) (fun c21 => ?_)
         ·have h := Ap c21 h
          refine Aa Ae rfl (qf Cy rfl (ql Gf rfl (qm rfl (qf Cy rfl (ql Gf rfl (qm rfl ?_))))))
          obtain ⟨v22, a22, b22, h⟩ := Am h
          refine qI Dp Fn a22 (Ak b22) rfl (qj Ji (Ak b22) rfl (qf FV rfl (ql Ch rfl ?_)))
          obtain ⟨c23, h⟩ := AN h
          refine Ib rfl c23 (SP rfl ?_)
          obtain ⟨v24, a24, b24, h⟩ := Am h
          refine qI Dp Fn a24 (Ak b24) rfl ?_
          refine D8 rfl rfl rfl rfl (Ak b24) rfl Fn rfl (BM rfl) (DR Ba v12.1 _ ((Nj .u8 v22 ((Dv .u8 1 p2.fVersion))))) ?_
          refine A0 (by kernel_rfl) ?_
          exact Aw _ h (sm [(2016, 2019), (2017, 2020), (2018, 2021)] _ _ rfl rfl)
         ·have h := Aq c21 h
          refine Av ?_
          exact Aw _ h (sm [(2016, 2019), (2017, 2020), (2018, 2021)] _ _ rfl rfl)
       ·refine Aa Ae rfl (qm rfl (Bn rfl (qa rfl (Ad ?_))))
        exact Aw _ h (sm [(2010, 2016), (2011, 2017), (2012, 2018)] _ _ rfl rfl)
      ·have h := Aq c14 h
       refine A6 ?_
       exact Aw _ h (sm [(2013, 2010), (2014, 2011), (2015, 2012)] _ _ rfl rfl)
     ·exact Aw _ h (hs.trans (sm [(2001, 2013), (2002, 2014), (2003, 2015)] _ _ rfl rfl))
  ·have h := Aq c5 h
   refine Ab (Aa Ae rfl (B0 rfl (qa rfl (Ad ?_))))
   refine As rfl (fun c25 => ?_) (fun c25 => ?_)
   ·have h := Ap c25 h
    refine Ab (Ab (Aa Ae rfl (qf BD rfl (ql A9 rfl (qm rfl ?_)))))
    obtain ⟨v26, a26, b26, h⟩ := Am h
    refine qi AG Dh a26 (Ak b26) rfl (qk Ch rfl (A8 rfl (Ad ?_)))
    refine As rfl (fun c27 => ?_) (fun c27 => ?_)
    ·have h := Ap c27 h
     refine Ab (Aa Ae rfl (A4 C8 GA rfl (qs AU rfl (qa rfl (Ad ?_)))))
     obtain rfl := sj h
     refine Al ((AD 6 0 2022 1 _ rfl rfl rfl rfl).trans ((AD 6 1 2023 1 _ rfl rfl rfl rfl).trans ((AD 6 2 2024 1 _ rfl rfl rfl rfl).trans (sm [(1000, 2022), (1001, 2023), (1002, 2024)] [(6, .e (.one (.ptr 6 0))), (7, .e (.one (.pure (.val (.bool false)))))] [(6, .box [.own 1000, .own 1001, .own 1002]), (1000, .vec 1 ((([] : List Int)).map Ah)), (1001, .vec 1 ((([] : List Int)).map Ah)), (1002, .vec 1 ((([] : List Int)).map Ba))] rfl rfl)))) (AF ?_)
     exact ⟨⟨[_, _], ⟨.cellN _ _ _ _ _ _ _ rfl rfl Bx AU rfl rfl (Hc rfl), ⟨.tmp _ _ rfl, trivial⟩⟩, rfl⟩, ⟨rfl, rfl, rfl, trivial⟩⟩
    ·have h := Aq c27 h
     refine Av (Aa Ae rfl (qf CK rfl (ql A9 rfl (qm rfl (qf BD rfl (ql A9 rfl (qm rfl (qf BD rfl (ql A9 rfl (qm rfl ?_))))))))))
     obtain ⟨v28, a28, b28, h⟩ := Am h
     refine qi AG Dh a28 (Ak b28) rfl (qk Ch rfl ?_)
     obtain ⟨v29, a29, b29, h⟩ := Am h
     refine qI AG Dh a29 (Ak b29) rfl ?_
     refine D8 rfl rfl rfl rfl (Ak b29) rfl Dh rfl (BM rfl) (DR Ah ((([] : List Int)) ++ p1.fBase) _ v28) ?_
     obtain ⟨v30, a30, b30, h⟩ := Am h
     refine qI AG Dh a30 (Ak b30) rfl ?_
     refine D8 rfl rfl rfl rfl (Ak b30) rfl Dh rfl (BM rfl) (DR Ah ((([] : List Int)) ++ p1.fNext) _ ((-1))) ?_
     refine A0 (by kernel_rfl) ?_
     exact Aw _ h (sm [(2001, 18), (2002, 22), (2003, 26)] _ _ rfl rfl)
   ·have h := Aq c25 h
    refine Ab (Aa Ae rfl (B0 rfl (qa rfl (Ad ?_))))
    refine As rfl (fun c31 => ?_) (fun c31 => ?_)
    ·have h := Ap c31 h
     refine Ab (Aa Ae rfl (qf CC rfl (ql Gl rfl (qm rfl ?_))))
     obtain ⟨v32, a32, b32, h⟩ := Am h
     refine qi DT DL a32 (Ak b32) rfl (qK Gw DL rfl (qz J5 rfl (qs DL rfl (Ad (Ab (Ab (Aa Ae rfl (qL Gw DL rfl ?_))))))))
     obtain ⟨v33, a33, h⟩ := bind_some h
     refine AM [] (Ca N v32 v33 a33) O1 rfl (CG rfl (Ad ?_))
     refine As rfl (fun c34 => ?_) (fun c34 => ?_)
     ·have h := Ap c34 h
      refine Ab (Aa Ae rfl (A4 C8 GA rfl (qs AU rfl (qa rfl (Ad ?_)))))
      obtain rfl := sj h
      refine Al ((AD 6 0 2025 1 _ rfl rfl rfl rfl).trans ((AD 6 1 2026 1 _ rfl rfl rfl rfl).trans ((AD 6 2 2027 1 _ rfl rfl rfl rfl).trans (sm [(1000, 2025), (1001, 2026), (1002, 2027)] [(6, .e (.one (.ptr 6 0))), (7, .e (.one (.pure (.val (.bool false)))))] [(6, .box [.own 1000, .own 1001, .own 1002]), (1000, .vec 1 ((([] : List Int)).map Ah)), (1001, .vec 1 ((([] : List Int)).map Ah)), (1002, .vec 1 ((([] : List Int)).map Ba))] rfl rfl)))) (AF ?_)
      exact ⟨⟨[_, _], ⟨.cellN _ _ _ _ _ _ _ rfl rfl Bx AU rfl rfl (Hc rfl), ⟨.tmp _ _ rfl, trivial⟩⟩, rfl⟩, ⟨rfl, rfl, rfl, trivial⟩⟩
     ·have h := Aq c34 h
      refine Av (Ab (Aa Ae rfl (qL Bx AU rfl (qf CU rfl (ql Ch rfl ?_)))))
      obtain ⟨v35, a35, h⟩ := bind_some h
      refine AM [] (DN N p1 v32.fFrom v35 a35) SB rfl (qa rfl (Ad (Ab (Ab (Aa Ae rfl (qf Cy rfl (ql Gf rfl (qm rfl ?_))))))))
      obtain ⟨v36, a36, b36, h⟩ := Am h
      refine qi Dp Fn a36 (Ak b36) rfl (qk Ji rfl (qm rfl (B0 rfl (Ad ?_))))
      refine As rfl (fun c37 => ?_) (fun c37 => ?_)
      ·have h := Ap c37 h
       refine Ab (Aa Ae rfl (A4 C8 GA rfl (qs AU rfl (qa rfl (Ad ?_)))))
       obtain rfl := sj h
       refine Al ((AD 6 0 2028 1 _ rfl rfl rfl rfl).trans ((AD 6 1 2029 1 _ rfl rfl rfl rfl).trans ((AD 6 2 2030 1 _ rfl rfl rfl rfl).trans (sm [(1000, 2028), (1001, 2029), (1002, 2030)] [(6, .e (.one (.ptr 6 0))), (7, .e (.one (.pure (.val (.bool false)))))] [(6, .box [.own 1000, .own 1001, .own 1002]), (1000, .vec 1 ((([] : List Int)).map Ah)), (1001, .vec 1 ((([] : List Int)).map Ah)), (1002, .vec 1 ((([] : List Int)).map Ba))] rfl rfl)))) (AF ?_)
       exact ⟨⟨[_, _], ⟨.cellN _ _ _ _ _ _ _ rfl rfl Bx AU rfl rfl (Hc rfl), ⟨.tmp _ _ rfl, trivial⟩⟩, rfl⟩, ⟨rfl, rfl, rfl, trivial⟩⟩
      ·have h := Aq c37 h
       refine Av (Ab (Ab (Aa Ae rfl (qa rfl (Ad ?_)))))
       refine AR (L := By N p0 p1 p2 v32 v35) h (fun v38 => mk [(3, .e (.one (.ptr 3 0))), (4, .e (.one (.ptr 4 0))), (6, .e (.one (.ptr 6 0))), (8, .e (.one (.ptr 8 0))), (9, .e (.one (.pure (.val (.int .i64 p2.fIndex))))), (11, .e (.one (.ptr 11 0))), (12, .e (.one (.pure (.val (.int .u8 v35))))), (13, .e (.one (.pure (.val (.int .i64 v38)))))] [(3, .box [.pure (.sl (p0.fVersions.map Ah)), .pure (.sl (p0.fNow.map Ah)), .pure (.sl (p0.fTarget.map Ah)), .pure (.sl (p0.fTables.map Ai))]), (4, .box [.pure (.sl (p1.fBase.map Ah)), .pure (.sl (p1.fNext.map Ah)), .pure (.sl (p1.fHeld.map Ba))]), (6, .box [.pure (.nil0), .pure (.nil0), .pure (.nil0)]), (8, .box [.own 2031, .own 2032, .own 2033]), (11, .box [.pure (.val (.int .i64 v32.fKind)), .pure (.val (.int .i64 v32.fFrom)), .pure (.val (.int .i64 v32.fTo)), .pure (.val (.bool v32.fAware)), .pure (.sl (v32.fOK.map (Eo eB))), .pure (.sl (v32.fRewrite.map (Eo eB)))]), (2031, .vec 1 (((([] : List Int)) ++ p1.fBase).map Ah)), (2032, .vec 1 (((([] : List Int)) ++ p1.fNext).map Ah)), (2033, .vec 1 (((([] : List Int)) ++ p1.fHeld).map Ba))]) (fun v39 => mk [(6, .e (.one (.ptr 6 0))), (8, .e (.one (.ptr 8 0))), (9, .e (.one (.pure (.val (.int .i64 p2.fIndex))))), (12, .e (.one (.pure (.val (.int .u8 v35)))))] [(6, .box [.pure (.nil0), .pure (.nil0), .pure (.nil0)]), (8, .box [.own 2034, .own 2035, .own 2036]), (2034, .vec 1 (((([] : List Int)) ++ p1.fBase).map Ah)), (2035, .vec 1 (((([] : List Int)) ++ p1.fNext).map Ah)), (2036, .vec 1 (((([] : List Int)) ++ p1.fHeld).map Ba))]) (fun _ _ => rfl) (sm [(2031, 18), (2032, 22), (2033, 26)] _ _ rfl rfl) (fun j38 n38 v38 h => ?_) (fun v39 s h hs => ?_)
       ·unfold By at h
        refine Ab (Ab (Aa Ae rfl (qm rfl (qf Bs rfl (ql A9 rfl (qf CU rfl (ql Ch rfl ?_)))))))
        obtain ⟨v40, a40, b40, h⟩ := Am h
        refine qi AG Dh a40 (Ak b40) rfl (qk Ch rfl (A8 rfl (Ad ?_)))
        refine As rfl (fun c41 => ?_) (fun c41 => ?_)
        ·have h := Ap c41 h
         refine Av (Ab (AW ?_))
         refine AX h (fun v42 => mk [(3, .e (.one (.ptr 3 0))), (4, .e (.one (.ptr 4 0))), (6, .e (.one (.ptr 6 0))), (8, .e (.one (.ptr 8 0))), (9, .e (.one (.pure (.val (.int .i64 p2.fIndex))))), (11, .e (.one (.ptr 11 0))), (12, .e (.one (.pure (.val (.int .u8 v35))))), (13, .e (.one (.pure (.val (.int .i64 v38))))), (14, .e (.one (.pure (.val (.bool v42)))))] [(3, .box [.pure (.sl (p0.fVersions.map Ah)), .pure (.sl (p0.fNow.map Ah)), .pure (.sl (p0.fTarget.map Ah)), .pure (.sl (p0.fTables.map Ai))]), (4, .box [.pure (.sl (p1.fBase.map Ah)), .pure (.sl (p1.fNext.map Ah)), .pure (.sl (p1.fHeld.map Ba))]), (6, .box [.pure (.nil0), .pure (.nil0), .pure (.nil0)]), (8, .box [.own 2037, .own 2038, .own 2039]), (11, .box [.pure (.val (.int .i64 v32.fKind)), .pure (.val (.int .i64 v32.fFrom)), .pure (.val (.int .i64 v32.fTo)), .pure (.val (.bool v32.fAware)), .pure (.sl (v32.fOK.map (Eo eB))), .pure (.sl (v32.fRewrite.map (Eo eB)))]), (2037, .vec 1 (((([] : List Int)) ++ p1.fBase).map Ah)), (2038, .vec 1 (((([] : List Int)) ++ p1.fNext).map Ah)), (2039, .vec 1 (((([] : List Int)) ++ p1.fHeld).map Ba))]) (fun j42 h => ?_) (fun v42 h => ?_)
         ·refine Aa Ae rfl (qf Cy rfl (ql Gf rfl (qm rfl ?_)))
          obtain ⟨v43, a43, b43, h⟩ := Am h
          refine qi Dp Fn a43 (Ak b43) rfl (qk Ji rfl (qm rfl ?_))
          obtain ⟨v44, a44, h⟩ := bind_some h
          refine AM [] (Fl N v43 v38 v44 a44) Uf rfl (qm rfl ?_)
          refine AI (t := 166) rfl (fun c45 => ?_) (fun c45 => ?_)
          ·have h := Ap c45 h
           refine qm rfl (qm rfl ?_)
           obtain ⟨v46, a46, h⟩ := bind_some h
           refine AM [] (Fl N v35 v38 v46 a46) Uf rfl (CG rfl (qp rfl (qa rfl (Ad ?_))))
           exact Aw _ h (sm [(2037, 2031), (2038, 2032), (2039, 2033)] _ _ rfl rfl)
          ·have h := Aq c45 h
           refine qn rfl (qn rfl (qn rfl (qn rfl (qp rfl (qa rfl (Ad ?_))))))
           exact Aw _ h (sm [(2037, 2031), (2038, 2032), (2039, 2033)] _ _ rfl rfl)
         ·refine AX h (fun v47 => mk [(3, .e (.one (.ptr 3 0))), (4, .e (.one (.ptr 4 0))), (6, .e (.one (.ptr 6 0))), (8, .e (.one (.ptr 8 0))), (9, .e (.one (.pure (.val (.int .i64 p2.fIndex))))), (11, .e (.one (.ptr 11 0))), (12, .e (.one (.pure (.val (.int .u8 v35))))), (13, .e (.one (.pure (.val (.int .i64 v38))))), (193, .e (.one (.pure (.val (.bool v47)))))] [(3, .box [.pure (.sl (p0.fVersions.map Ah)), .pure (.sl (p0.fNow.map Ah)), .pure (.sl (p0.fTarget.map Ah)), .pure (.sl (p0.fTables.map Ai))]), (4, .box [.pure (.sl (p1.fBase.map Ah)), .pure (.sl (p1.fNext.map Ah)), .pure (.sl (p1.fHeld.map Ba))]), (6, .box [.pure (.nil0), .pure (.nil0), .pure (.nil0)]), (8, .box [.own 2040, .own 2041, .own 2042]), (11, .box [.pure (.val (.int .i64 v32.fKind)), .pure (.val (.int .i64 v32.fFrom)), .pure (.val (.int .i64 v32.fTo)), .pure (.val (.bool v32.fAware)), .pure (.sl (v32.fOK.map (Eo eB))), .pure (.sl (v32.fRewrite.map (Eo eB)))]), (2040, .vec 1 (((([] : List Int)) ++ p1.fBase).map Ah)), (2041, .vec 1 (((([] : List Int)) ++ p1.fNext).map Ah)), (2042, .vec 1 (((([] : List Int)) ++ p1.fHeld).map Ba))]) (fun j47 h => ?_) (fun v47 h => ?_)
          ·refine Aa Ae rfl (qm rfl (qm rfl ?_))
           refine AI (t := 173) rfl (fun c48 => ?_) (fun c48 => ?_)
           ·have h := Ap c48 h
            refine qf Fj rfl (ql Ch rfl (B0 rfl (qp rfl (qm rfl ?_))))
            refine AI (t := 178) rfl (fun c49 => ?_) (fun c49 => ?_)
            ·have h := Ap c49 h
             refine qf FY rfl (ql I9 rfl (qm rfl ?_))
             obtain ⟨v50, a50, b50, h⟩ := Am h
             refine qi FE L4 a50 (Ak b50) rfl (qk OJ rfl (qf CK rfl (ql A9 rfl (qf CU rfl (ql Ch rfl ?_)))))
             obtain ⟨v51, a51, b51, h⟩ := Am h
             refine qi AG Dh a51 (Ak b51) rfl (qk Ch rfl ?_)
             obtain ⟨v52, a52, b52, h⟩ := Am h
             refine qi FO Pt a52 (Ak b52) rfl (qk Q5 rfl (CG rfl (qp rfl (A0 (by kernel_rfl) ?_))))
             exact Aw _ h (sm [(2040, 2037), (2041, 2038), (2042, 2039)] _ _ rfl rfl)
            ·have h := Aq c49 h
             refine qn rfl (qn rfl (qn rfl (qn rfl (qn rfl (qn rfl (qn rfl (qn rfl (qn rfl (qn rfl (qn rfl (qn rfl (qn rfl (qn rfl (qp rfl (A0 (by kernel_rfl) ?_)))))))))))))))
             exact Aw _ h (sm [(2040, 2037), (2041, 2038), (2042, 2039)] _ _ rfl rfl)
           ·have h := Aq c48 h
            refine qn rfl (qn rfl (qn rfl (qp rfl (qm rfl (qn rfl (qn rfl (qn rfl (qn rfl (qn rfl (qn rfl (qn rfl (qn rfl (qn rfl (qn rfl (qn rfl (qn rfl (qn rfl (qn rfl (qp rfl (A0 (by kernel_rfl) ?_))))))))))))))))))))
            exact Aw _ h (sm [(2040, 2037), (2041, 2038), (2042, 2039)] _ _ rfl rfl)
          ·refine As rfl (fun c53 => ?_) (fun c53 => ?_)
           ·have h := Ap c53 h
            refine Ab (Aa Ae rfl (A4 C8 GA rfl (qs AU rfl (qa rfl (Ad ?_)))))
            obtain rfl := sj h
            refine Al ((AD 6 0 2043 1 _ rfl rfl rfl rfl).trans ((AD 6 1 2044 1 _ rfl rfl rfl rfl).trans ((AD 6 2 2045 1 _ rfl rfl rfl rfl).trans (sm [(1000, 2043), (1001, 2044), (1002, 2045)] [(6, .e (.one (.ptr 6 0))), (7, .e (.one (.pure (.val (.bool false)))))] [(6, .box [.own 1000, .own 1001, .own 1002]), (1000, .vec 1 ((([] : List Int)).map Ah)), (1001, .vec 1 ((([] : List Int)).map Ah)), (1002, .vec 1 ((([] : List Int)).map Ba))] rfl rfl)))) (AF ?_)
            exact ⟨⟨[_, _], ⟨.cellN _ _ _ _ _ _ _ rfl rfl Bx AU rfl rfl (Hc rfl), ⟨.tmp _ _ rfl, trivial⟩⟩, rfl⟩, ⟨rfl, rfl, rfl, trivial⟩⟩
           ·have h := Aq c53 h
            refine Av (Aa Ae rfl (qm rfl (Bn rfl (qa rfl (Ad ?_)))))
            exact Aw _ h (sm [(2031, 2040), (2032, 2041), (2033, 2042)] _ _ rfl rfl)
        ·have h := Aq c41 h
         refine A6 ?_
         exact Aw _ h (sm [(2034, 2031), (2035, 2032), (2036, 2033)] _ _ rfl rfl)
       ·refine Al hs (Aa Ae rfl (qf Cy rfl (ql Gf rfl (qm rfl (qm rfl ?_)))))
        obtain ⟨v54, a54, b54, h⟩ := Am h
        refine qI Dp Fn a54 (Ak b54) rfl ?_
        refine D8 rfl rfl rfl rfl (Ak b54) rfl Fn rfl (BM rfl) (DR Ba ((([] : List Int)) ++ p1.fHeld) _ v35) ?_
        refine Ad ?_
        exact Aw _ h (sm [(2001, 2034), (2002, 2035), (2003, 2036)] _ _ rfl rfl)
    ·have h := Aq c31 h
     refine Ab (Ab (Aa Ae rfl (qf BD rfl (ql A9 rfl (qm rfl ?_)))))
     obtain ⟨v55, a55, b55, h⟩ := Am h
     refine qi AG Dh a55 (Ak b55) rfl (qk Ch rfl (A8 rfl (Ad ?_)))
     refine As rfl (fun c56 => ?_) (fun c56 => ?_)
     ·have h := Ap c56 h
      refine Ab (Aa Ae rfl (A4 C8 GA rfl (qs AU rfl (qa rfl (Ad ?_)))))
      obtain rfl := sj h
      refine Al ((AD 6 0 2046 1 _ rfl rfl rfl rfl).trans ((AD 6 1 2047 1 _ rfl rfl rfl rfl).trans ((AD 6 2 2048 1 _ rfl rfl rfl rfl).trans (sm [(1000, 2046), (1001, 2047), (1002, 2048)] [(6, .e (.one (.ptr 6 0))), (7, .e (.one (.pure (.val (.bool false)))))] [(6, .box [.own 1000, .own 1001, .own 1002]), (1000, .vec 1 ((([] : List Int)).map Ah)), (1001, .vec 1 ((([] : List Int)).map Ah)), (1002, .vec 1 ((([] : List Int)).map Ba))] rfl rfl)))) (AF ?_)
      exact ⟨⟨[_, _], ⟨.cellN _ _ _ _ _ _ _ rfl rfl Bx AU rfl rfl (Hc rfl), ⟨.tmp _ _ rfl, trivial⟩⟩, rfl⟩, ⟨rfl, rfl, rfl, trivial⟩⟩
     ·have h := Aq c56 h
      refine Av (Aa Ae rfl (qf BD rfl (ql A9 rfl (qm rfl ?_))))
      obtain ⟨v57, a57, b57, h⟩ := Am h
      refine qI AG Dh a57 (Ak b57) rfl ?_
      refine D8 rfl rfl rfl rfl (Ak b57) rfl Dh rfl (BM rfl) (DR Ah ((([] : List Int)) ++ p1.fNext) _ ((-1))) ?_
      refine Ad ?_
      exact Aw _ h (sm [(2001, 18), (2002, 22), (2003, 26)] _ _ rfl rfl)
 ·refine Ab (Aa Ae rfl (qL Bx AU rfl (qs AU rfl (qa rfl (Ad ?_)))))
  obtain rfl := sj h
  refine Al (sm [(1000, 2001), (1001, 2002), (1002, 2003)] [(6, .e (.one (.ptr 6 0))), (7, .e (.one (.pure (.val (.bool true)))))] [(6, .box [.own 1000, .own 1001, .own 1002]), (1000, .vec 1 (v4.1.map Ah)), (1001, .vec 1 (v4.2.1.map Ah)), (1002, .vec 1 (v4.2.2.map Ba))] rfl rfl) (AF ?_)
  exact ⟨⟨[_, _], ⟨.cellN _ _ _ _ _ _ _ rfl rfl Bx AU rfl rfl (Hc rfl), ⟨.tmp _ _ rfl, trivial⟩⟩, rfl⟩, ⟨rfl, rfl, rfl, trivial⟩⟩
set_option maxRecDepth 10000 in
theorem JW (N : Nat) (p0 : Ac) (p1 : Ag) (p2 : Af) (r : Ag × Int) (h : D3 N p0 p1 p2 = some r) : AC Try.prog 41 [.e (.agg [.pure (.sl (p0.fVersions.map Ah)), .pure (.sl (p0.fNow.map Ah)), .pure (.sl (p0.fTarget.map Ah)), .pure (.sl (p0.fTables.map Ai))]), .e (.agg [.pure (.sl (p1.fBase.map Ah)), .pure (.sl (p1.fNext.map Ah)), .pure (.sl (p1.fHeld.map Ba))]), .e (.agg [.pure (.val (.int .i64 p2.fKind)), .pure (.val (.int .i64 p2.fIndex)), .pure (.val (.int .i64 p2.fVersion))])] [(1, r.1.fBase.map Ah), (1, r.1.fNext.map Ah), (1, r.1.fHeld.map Ba)] (.tup [.agg [.own 0, .own 1, .own 2], .one (.pure (.val (.int .i64 r.2)))]) := by
 unfold D3 at h
 refine Ar (n := 73) (rs := [.cell 6 43, .tmp 7]) Try.func41 rfl rfl rfl (BM rfl) (BM rfl) rfl fun w0 S0 => ?_
 refine Ab (Aa Ae rfl (qb rfl (qb rfl (qb rfl (qz C8 rfl (qa rfl (Ad (Ab (Ab (Aa Ae rfl (qL DQ Di rfl (qL Bx AU rfl ?_))))))))))))
 obtain ⟨v1, a1, h⟩ := bind_some h
 refine AM [] (JT N p0 p1 v1 a1) XK rfl (qa rfl (Ad (Ab (Aa Ae rfl (qm rfl (CB rfl (Ad ?_)))))))
 refine As rfl (fun c2 => ?_) (fun c2 => ?_)
 ·have h := Ap c2 h
  refine Ab (Aa Ae rfl (A4 C8 GA rfl (qm rfl (qs AU rfl (qa rfl (Ad ?_))))))
  obtain rfl := sj h
  refine Al ((AD 6 0 2001 1 _ rfl rfl rfl rfl).trans ((AD 6 1 2002 1 _ rfl rfl rfl rfl).trans ((AD 6 2 2003 1 _ rfl rfl rfl rfl).trans (sm [(1000, 2001), (1001, 2002), (1002, 2003)] [(6, .e (.one (.ptr 6 0))), (7, .e (.one (.pure (.val (.int .i64 v1)))))] [(6, .box [.own 1000, .own 1001, .own 1002]), (1000, .vec 1 ((([] : List Int)).map Ah)), (1001, .vec 1 ((([] : List Int)).map Ah)), (1002, .vec 1 ((([] : List Int)).map Ba))] rfl rfl)))) (AF ?_)
  exact ⟨⟨[_, _], ⟨.cellN _ _ _ _ _ _ _ rfl rfl Bx AU rfl rfl (Hc rfl), ⟨.tmp _ _ rfl, trivial⟩⟩, rfl⟩, ⟨rfl, rfl, rfl, trivial⟩⟩
 ·have h := Aq c2 h
  refine Av (Ab (Ab (Aa Ae rfl (qL Gz C7 rfl ?_))))
  obtain ⟨v3, a3, h⟩ := bind_some h
  refine AM [] (J1 N p2 v3 a3) Xo rfl (CG rfl (Ad ?_))
  refine As rfl (fun c4 => ?_) (fun c4 => ?_)
  ·have h := Ap c4 h
   refine Ab (Aa Ae rfl (A4 C8 GA rfl (qs AU rfl (qa rfl (Ad ?_)))))
   obtain rfl := sj h
   refine Al ((AD 6 0 2004 1 _ rfl rfl rfl rfl).trans ((AD 6 1 2005 1 _ rfl rfl rfl rfl).trans ((AD 6 2 2006 1 _ rfl rfl rfl rfl).trans (sm [(1000, 2004), (1001, 2005), (1002, 2006)] [(6, .e (.one (.ptr 6 0))), (7, .e (.one (.pure (.val (.int .i64 1)))))] [(6, .box [.own 1000, .own 1001, .own 1002]), (1000, .vec 1 ((([] : List Int)).map Ah)), (1001, .vec 1 ((([] : List Int)).map Ah)), (1002, .vec 1 ((([] : List Int)).map Ba))] rfl rfl)))) (AF ?_)
   exact ⟨⟨[_, _], ⟨.cellN _ _ _ _ _ _ _ rfl rfl Bx AU rfl rfl (Hc rfl), ⟨.tmp _ _ rfl, trivial⟩⟩, rfl⟩, ⟨rfl, rfl, rfl, trivial⟩⟩
  ·have h := Aq c4 h
   refine Av (Ab ?_)
   refine AX h (fun v5 => mk [(3, .e (.one (.ptr 3 0))), (4, .e (.one (.ptr 4 0))), (5, .e (.one (.ptr 5 0))), (6, .e (.one (.ptr 6 0))), (45, .e (.one (.pure (.val (.bool v5)))))] [(3, .box [.pure (.sl (p0.fVersions.map Ah)), .pure (.sl (p0.fNow.map Ah)), .pure (.sl (p0.fTarget.map Ah)), .pure (.sl (p0.fTables.map Ai))]), (4, .box [.pure (.sl (p1.fBase.map Ah)), .pure (.sl (p1.fNext.map Ah)), .pure (.sl (p1.fHeld.map Ba))]), (5, .box [.pure (.val (.int .i64 p2.fKind)), .pure (.val (.int .i64 p2.fIndex)), .pure (.val (.int .i64 p2.fVersion))]), (6, .box [.pure (.nil0), .pure (.nil0), .pure (.nil0)])]) (fun j5 h => ?_) (fun v5 h => ?_)
   ·refine Aa Ae rfl (qf EP rfl (ql Ch rfl (B0 rfl (qm rfl ?_))))
    refine AI (t := 25) rfl (fun c6 => ?_) (fun c6 => ?_)
    ·have h := Ap c6 h
     refine qf Ex rfl (ql Ch rfl (qf CC rfl (ql Gl rfl (AS DT rfl (EO rfl (qp rfl (qm rfl ?_)))))))
     refine AI (t := 33) rfl (fun c7 => ?_) (fun c7 => ?_)
     ·have h := Ap c7 h
      refine qn rfl (qn rfl (qn rfl (qn rfl (qu rfl (qu rfl (qu rfl (qu rfl (qu rfl (qu rfl (qn rfl (qp rfl (Ad ?_))))))))))))
      exact Aw _ h (sm [] _ _ rfl rfl)
     ·have h := Aq c7 h
      refine qf EP rfl (ql Ch rfl (CB rfl (qm rfl ?_)))
      refine AI (t := 37) rfl (fun c8 => ?_) (fun c8 => ?_)
      ·have h := Ap c8 h
       refine qf Ex rfl (ql Ch rfl (qf Bs rfl (ql A9 rfl (AS AG rfl (EO rfl (qp rfl (qp rfl (Ad ?_))))))))
       exact Aw _ h (sm [] _ _ rfl rfl)
      ·have h := Aq c8 h
       refine qn rfl (qn rfl (qn rfl (qn rfl (qn rfl (qn rfl (qp rfl (qp rfl (Ad ?_))))))))
       exact Aw _ h (sm [] _ _ rfl rfl)
    ·have h := Aq c6 h
     refine qn rfl (qn rfl (qn rfl (qn rfl (qn rfl (qn rfl (qp rfl (qm rfl (qf EP rfl (ql Ch rfl (CB rfl (qm rfl ?_)))))))))))
     refine AI (t := 37) rfl (fun c9 => ?_) (fun c9 => ?_)
     ·have h := Ap c9 h
      refine qf Ex rfl (ql Ch rfl (qf Bs rfl (ql A9 rfl (AS AG rfl (EO rfl (qp rfl (qp rfl (Ad ?_))))))))
      exact Aw _ h (sm [] _ _ rfl rfl)
     ·have h := Aq c9 h
      refine qn rfl (qn rfl (qn rfl (qn rfl (qn rfl (qn rfl (qp rfl (qp rfl (Ad ?_))))))))
      exact Aw _ h (sm [] _ _ rfl rfl)
   ·refine As rfl (fun c10 => ?_) (fun c10 => ?_)
    ·have h := Ap c10 h
     refine Ab (Aa Ae rfl (A4 C8 GA rfl (qs AU rfl (qa rfl (Ad ?_)))))
     obtain rfl := sj h
     refine Al ((AD 6 0 2007 1 _ rfl rfl rfl rfl).trans ((AD 6 1 2008 1 _ rfl rfl rfl rfl).trans ((AD 6 2 2009 1 _ rfl rfl rfl rfl).trans (sm [(1000, 2007), (1001, 2008), (1002, 2009)] [(6, .e (.one (.ptr 6 0))), (7, .e (.one (.pure (.val (.int .i64 4)))))] [(6, .box [.own 1000, .own 1001, .own 1002]), (1000, .vec 1 ((([] : List Int)).map Ah)), (1001, .vec 1 ((([] : List Int)).map Ah)), (1002, .vec 1 ((([] : List Int)).map Ba))] rfl rfl)))) (AF ?_)
     exact ⟨⟨[_, _], ⟨.cellN _ _ _ _ _ _ _ rfl rfl Bx AU rfl rfl (Hc rfl), ⟨.tmp _ _ rfl, trivial⟩⟩, rfl⟩, ⟨rfl, rfl, rfl, trivial⟩⟩
    ·have h := Aq c10 h
     refine Av (Ab ?_)
     refine AX h (fun v11 => mk [(3, .e (.one (.ptr 3 0))), (4, .e (.one (.ptr 4 0))), (5, .e (.one (.ptr 5 0))), (6, .e (.one (.ptr 6 0))), (60, .e (.one (.pure (.val (.bool v11)))))] [(3, .box [.pure (.sl (p0.fVersions.map Ah)), .pure (.sl (p0.fNow.map Ah)), .pure (.sl (p0.fTarget.map Ah)), .pure (.sl (p0.fTables.map Ai))]), (4, .box [.pure (.sl (p1.fBase.map Ah)), .pure (.sl (p1.fNext.map Ah)), .pure (.sl (p1.fHeld.map Ba))]), (5, .box [.pure (.val (.int .i64 p2.fKind)), .pure (.val (.int .i64 p2.fIndex)), .pure (.val (.int .i64 p2.fVersion))]), (6, .box [.pure (.nil0), .pure (.nil0), .pure (.nil0)])]) (fun j11 h => ?_) (fun v11 h => ?_)
     ·refine Aa Ae rfl (qf EP rfl (ql Ch rfl (B0 rfl (qm rfl ?_))))
      refine AI (t := 50) rfl (fun c12 => ?_) (fun c12 => ?_)
      ·have h := Ap c12 h
       refine qf FV rfl (ql Ch rfl (qf Bs rfl (ql A9 rfl (qf Ex rfl (ql Ch rfl ?_)))))
       obtain ⟨v13, a13, b13, h⟩ := Am h
       refine qi AG Dh a13 (Ak b13) rfl (qk Ch rfl (EO rfl (qp rfl (A0 (by kernel_rfl) ?_))))
       exact Aw _ h (sm [] _ _ rfl rfl)
      ·have h := Aq c12 h
       refine qn rfl (qn rfl (qn rfl (qn rfl (qn rfl (qn rfl (qn rfl (qn rfl (qn rfl (qp rfl (A0 (by kernel_rfl) ?_))))))))))
       exact Aw _ h (sm [] _ _ rfl rfl)
     ·refine As rfl (fun c14 => ?_) (fun c14 => ?_)
      ·have h := Ap c14 h
       refine Ab (Aa Ae rfl (A4 C8 GA rfl (qs AU rfl (qa rfl (Ad ?_)))))
       obtain rfl := sj h
       refine Al ((AD 6 0 2010 1 _ rfl rfl rfl rfl).trans ((AD 6 1 2011 1 _ rfl rfl rfl rfl).trans ((AD 6 2 2012 1 _ rfl rfl rfl rfl).trans (sm [(1000, 2010), (1001, 2011), (1002, 2012)] [(6, .e (.one (.ptr 6 0))), (7, .e (.one (.pure (.val (.int .i64 4)))))] [(6, .box [.own 1000, .own 1001, .own 1002]), (1000, .vec 1 ((([] : List Int)).map Ah)), (1001, .vec 1 ((([] : List Int)).map Ah)), (1002, .vec 1 ((([] : List Int)).map Ba))] rfl rfl)))) (AF ?_)
       exact ⟨⟨[_, _], ⟨.cellN _ _ _ _ _ _ _ rfl rfl Bx AU rfl rfl (Hc rfl), ⟨.tmp _ _ rfl, trivial⟩⟩, rfl⟩, ⟨rfl, rfl, rfl, trivial⟩⟩
      ·have h := Aq c14 h
       refine Av (Ab (Aa Ae rfl (qL DQ Di rfl (qL Bx AU rfl (qL Gz C7 rfl ?_)))))
       obtain ⟨v15, a15, h⟩ := bind_some h
       refine AM [2013, 2014, 2015] (FF N p0 p1 p2 v15 a15) Vx rfl (qm rfl (qx rfl (qx rfl (qz C8 rfl (qs AU rfl (qa rfl (Ad (Ab (Ab (Aa Ae rfl (qm rfl (CG rfl (Ad ?_)))))))))))))
       refine As rfl (fun c16 => ?_) (fun c16 => ?_)
       ·have h := Ap c16 h
        refine Ab (Aa Ae rfl (A4 C8 GA rfl (qs AU rfl (qa rfl (Ad ?_)))))
        obtain rfl := sj h
        refine Al ((AD 6 0 2016 1 _ rfl rfl rfl rfl).trans ((AD 6 1 2017 1 _ rfl rfl rfl rfl).trans ((AD 6 2 2018 1 _ rfl rfl rfl rfl).trans (sm [(1000, 2016), (1001, 2017), (1002, 2018)] [(6, .e (.one (.ptr 6 0))), (7, .e (.one (.pure (.val (.int .i64 11)))))] [(6, .box [.own 1000, .own 1001, .own 1002]), (1000, .vec 1 ((([] : List Int)).map Ah)), (1001, .vec 1 ((([] : List Int)).map Ah)), (1002, .vec 1 ((([] : List Int)).map Ba))] rfl rfl)))) (AF ?_)
        exact ⟨⟨[_, _], ⟨.cellN _ _ _ _ _ _ _ rfl rfl Bx AU rfl rfl (Hc rfl), ⟨.tmp _ _ rfl, trivial⟩⟩, rfl⟩, ⟨rfl, rfl, rfl, trivial⟩⟩
       ·have h := Aq c16 h
        refine Av (Ab (Aa Ae rfl (qL Bx AU rfl (qs AU rfl (qa rfl (Ad ?_))))))
        obtain rfl := sj h
        refine Al (sm [(1000, 2013), (1001, 2014), (1002, 2015)] [(6, .e (.one (.ptr 6 0))), (7, .e (.one (.pure (.val (.int .i64 0)))))] [(6, .box [.own 1000, .own 1001, .own 1002]), (1000, .vec 1 (v15.1.fBase.map Ah)), (1001, .vec 1 (v15.1.fNext.map Ah)), (1002, .vec 1 (v15.1.fHeld.map Ba))] rfl rfl) (AF ?_)
        exact ⟨⟨[_, _], ⟨.cellN _ _ _ _ _ _ _ rfl rfl Bx AU rfl rfl (Hc rfl), ⟨.tmp _ _ rfl, trivial⟩⟩, rfl⟩, ⟨rfl, rfl, rfl, trivial⟩⟩
set_option maxRecDepth 10000 in
theorem J2 (N : Nat) (p0 : Ac) (p1 : Ag) (r : (List Af)) (h : D9 N p0 p1 = some r) : AC Try.prog 52 [.e (.agg [.pure (.sl (p0.fVersions.map Ah)), .pure (.sl (p0.fNow.map Ah)), .pure (.sl (p0.fTarget.map Ah)), .pure (.sl (p0.fTables.map Ai))]), .e (.agg [.pure (.sl (p1.fBase.map Ah)), .pure (.sl (p1.fNext.map Ah)), .pure (.sl (p1.fHeld.map Ba))])] [(3, r.map Az)] (.e (.one (.own 0))) := by
 unfold D9 at h
 refine Ar (n := 49) (rs := [.tmp 4]) Try.func52 rfl rfl rfl (BM rfl) (BM rfl) rfl fun w0 S0 => ?_
 refine Ab (Aa Ae rfl (qb rfl (qb rfl (qa rfl (Ad (Ab (Aa Ae rfl (qa rfl (Ad (Ab (Ab (Aa Ae rfl (qa rfl (Ad ?_))))))))))))))
 refine AR (L := Bp N p0 p1) h (fun v1 => mk [(2, .e (.one (.ptr 2 0))), (3, .e (.one (.ptr 3 0))), (5, .e (.one (.own 2001))), (6, .e (.one (.pure (.val (.int .i64 v1.2)))))] [(2, .box [.pure (.sl (p0.fVersions.map Ah)), .pure (.sl (p0.fNow.map Ah)), .pure (.sl (p0.fTarget.map Ah)), .pure (.sl (p0.fTables.map Ai))]), (3, .box [.pure (.sl (p1.fBase.map Ah)), .pure (.sl (p1.fNext.map Ah)), .pure (.sl (p1.fHeld.map Ba))]), (2001, .vec 3 (v1.1.map Az))]) (fun v2 => mk [(5, .e (.one (.own 2002)))] [(2002, .vec 3 (v2.map Az))]) (fun _ _ => rfl) ((Cj 5 2011 3 rfl rfl rfl).trans (sm [(2001, 2011)] _ _ rfl rfl)) (fun j1 n1 v1 h => ?_) (fun v2 s h hs => ?_)
 ·unfold Bp at h
  refine Ab (Ab (Aa Ae rfl (qm rfl (UX rfl (Ad ?_)))))
  refine As rfl (fun c3 => ?_) (fun c3 => ?_)
  ·have h := Ap c3 h
   refine Av (Ab (AW (Ab (Aa Ae rfl (qa rfl (Ad ?_))))))
   refine AR (L := B3 N p0 p1 v1) h (fun v4 => mk [(2, .e (.one (.ptr 2 0))), (3, .e (.one (.ptr 3 0))), (5, .e (.one (.own 2003))), (6, .e (.one (.pure (.val (.int .i64 v1.2))))), (7, .e (.one (.pure (.val (.int .i64 v4.2)))))] [(2, .box [.pure (.sl (p0.fVersions.map Ah)), .pure (.sl (p0.fNow.map Ah)), .pure (.sl (p0.fTarget.map Ah)), .pure (.sl (p0.fTables.map Ai))]), (3, .box [.pure (.sl (p1.fBase.map Ah)), .pure (.sl (p1.fNext.map Ah)), .pure (.sl (p1.fHeld.map Ba))]), (2003, .vec 3 (v4.1.map Az))]) (fun v5 => mk [(2, .e (.one (.ptr 2 0))), (3, .e (.one (.ptr 3 0))), (5, .e (.one (.own 2004))), (6, .e (.one (.pure (.val (.int .i64 v1.2)))))] [(2, .box [.pure (.sl (p0.fVersions.map Ah)), .pure (.sl (p0.fNow.map Ah)), .pure (.sl (p0.fTarget.map Ah)), .pure (.sl (p0.fTables.map Ai))]), (3, .box [.pure (.sl (p1.fBase.map Ah)), .pure (.sl (p1.fNext.map Ah)), .pure (.sl (p1.fHeld.map Ba))]), (2004, .vec 3 (v5.map Az))]) (fun _ _ => rfl) (sm [(2003, 2001)] _ _ rfl rfl) (fun j4 n4 v4 h => ?_) (fun v5 s h hs => ?_)
   ·unfold B3 at h
    refine Ab (Ab (Aa Ae rfl (qm rfl (qf Bs rfl (ql A9 rfl (AS AG rfl (qf CC rfl (ql Gl rfl (AS DT rfl ?_)))))))))
    refine Xc (.p rfl) rfl rfl ?_
    refine A8 rfl (Ad ?_)
    refine As rfl (fun c6 => ?_) (fun c6 => ?_)
    ·have h := Ap c6 h
     refine Av (Ab (AW (Ab (Aa Ae rfl (qa rfl (Ad ?_))))))
     refine AR (L := B2 N p0 p1 v1 v4) h (fun v7 => mk [(2, .e (.one (.ptr 2 0))), (3, .e (.one (.ptr 3 0))), (5, .e (.one (.own 2005))), (6, .e (.one (.pure (.val (.int .i64 v1.2))))), (7, .e (.one (.pure (.val (.int .i64 v4.2))))), (8, .e (.one (.pure (.val (.int .i64 v7.2)))))] [(2, .box [.pure (.sl (p0.fVersions.map Ah)), .pure (.sl (p0.fNow.map Ah)), .pure (.sl (p0.fTarget.map Ah)), .pure (.sl (p0.fTables.map Ai))]), (3, .box [.pure (.sl (p1.fBase.map Ah)), .pure (.sl (p1.fNext.map Ah)), .pure (.sl (p1.fHeld.map Ba))]), (2005, .vec 3 (v7.1.map Az))]) (fun v8 => mk [(2, .e (.one (.ptr 2 0))), (3, .e (.one (.ptr 3 0))), (5, .e (.one (.own 2006))), (6, .e (.one (.pure (.val (.int .i64 v1.2))))), (7, .e (.one (.pure (.val (.int .i64 v4.2)))))] [(2, .box [.pure (.sl (p0.fVersions.map Ah)), .pure (.sl (p0.fNow.map Ah)), .pure (.sl (p0.fTarget.map Ah)), .pure (.sl (p0.fTables.map Ai))]), (3, .box [.pure (.sl (p1.fBase.map Ah)), .pure (.sl (p1.fNext.map Ah)), .pure (.sl (p1.fHeld.map Ba))]), (2006, .vec 3 (v8.map Az))]) (fun _ _ => rfl) (sm [(2005, 2003)] _ _ rfl rfl) (fun j7 n7 v7 h => ?_) (fun v8 s h hs => ?_)
     ·unfold B2 at h
      refine Ab (Ab (Aa Ae rfl (qm rfl (A8 rfl (Ad ?_)))))
      refine As rfl (fun c9 => ?_) (fun c9 => ?_)
      ·have h := Ap c9 h
       refine Av ?_
       refine AX h (fun v10 => mk [(2, .e (.one (.ptr 2 0))), (3, .e (.one (.ptr 3 0))), (5, .e (.one (.own 2007))), (6, .e (.one (.pure (.val (.int .i64 v1.2))))), (7, .e (.one (.pure (.val (.int .i64 v4.2))))), (8, .e (.one (.pure (.val (.int .i64 v7.2)))))] [(2, .box [.pure (.sl (p0.fVersions.map Ah)), .pure (.sl (p0.fNow.map Ah)), .pure (.sl (p0.fTarget.map Ah)), .pure (.sl (p0.fTables.map Ai))]), (3, .box [.pure (.sl (p1.fBase.map Ah)), .pure (.sl (p1.fNext.map Ah)), .pure (.sl (p1.fHeld.map Ba))]), (2007, .vec 3 (v10.map Az))]) (fun j10 h => ?_) (fun v10 h => ?_)
       ·refine AW (Ab (Aa Ae rfl (qm rfl (qm rfl (qm rfl (A4 GE Pb rfl (qz GE rfl (qs C7 rfl (Ad (Ab (Aa Ae rfl (qL DQ Di rfl (qL Bx AU rfl (qL Gz C7 rfl ?_))))))))))))))
        obtain ⟨v11, a11, h⟩ := bind_some h
        refine AM [2008, 2009, 2010] (JW N p0 p1 ((Af.mk v1.2 v4.2 v7.2)) v11 a11) XY rfl (qm rfl (qx rfl (qx rfl (qz C8 rfl (qs AU rfl (qa rfl (Ad (Ab (Aa Ae rfl (qm rfl (B0 rfl (Ad ?_))))))))))))
        refine As rfl (fun c12 => ?_) (fun c12 => ?_)
        ·have h := Ap c12 h
         refine Aa Ae rfl (qm rfl (qL Gz C7 rfl (En CE C7 GE rfl ?_)))
         obtain ⟨c13, h⟩ := AN h
         refine DI (f := Az) CE CE C7 Pq GE c13 rfl (qa rfl (Ad ?_))
         exact Aw _ h (sm [(2007, 47)] _ _ rfl rfl)
        ·have h := Aq c12 h
         refine Av ?_
         exact Aw _ h (sm [(2007, 2005)] _ _ rfl rfl)
       ·refine Aa Ae rfl (qm rfl (Bn rfl (qa rfl (Ad ?_))))
        exact Aw _ h (sm [(2005, 2007)] _ _ rfl rfl)
      ·have h := Aq c9 h
       refine A6 ?_
       exact Aw _ h (sm [(2006, 2005)] _ _ rfl rfl)
     ·refine Al hs (Aa Ae rfl (qm rfl (Bn rfl (qa rfl (Ad ?_)))))
      exact Aw _ h (sm [(2003, 2006)] _ _ rfl rfl)
    ·have h := Aq c6 h
     refine A6 ?_
     exact Aw _ h (sm [(2004, 2003)] _ _ rfl rfl)
   ·refine Al hs (Aa Ae rfl (qm rfl (Bn rfl (qa rfl (Ad ?_)))))
    exact Aw _ h (sm [(2001, 2004)] _ _ rfl rfl)
  ·have h := Aq c3 h
   refine A6 ?_
   exact Aw _ h (sm [(2002, 2001)] _ _ rfl rfl)
 ·refine Al hs (Ab (Aa Ae rfl (qm rfl (qa rfl (Ad ?_)))))
  obtain rfl := sj h
  refine Al (sm [(1000, 2002)] [(4, .e (.one (.own 1000)))] [(1000, .vec 3 (v2.map Az))] rfl rfl) (AF ?_)
  exact ⟨⟨[_], ⟨.tmp _ _ rfl, trivial⟩, rfl⟩, ⟨rfl, trivial⟩⟩
set_option maxRecDepth 10000 in
theorem F5 (N : Nat) (p0 : List Int) (p1 : List Int) (r : Int) (h : CZ N p0 p1 = some r) : AC Try.prog 83 [.e (.one (.pure (.sl (p0.map Ah)))), .e (.one (.pure (.sl (p1.map Ah))))] [] (.e (.one (.pure (.val (.int .i64 r))))) := by
 unfold CZ at h
 refine Ar (n := 46) (rs := [.tmp 4]) Try.func83 rfl rfl rfl (BM rfl) (BM rfl) rfl fun w0 S0 => ?_
 refine Ab (Aa Ae rfl (qa rfl (Ad (Ab (Ab (Aa Ae rfl (qa rfl (Ad ?_))))))))
 refine AR (L := CW N p0 p1) h (fun v1 => mk [(0, .e (.one (.pure (.sl (p0.map Ah))))), (1, .e (.one (.pure (.sl (p1.map Ah))))), (5, .e (.one (.pure (.val (.int .i64 v1)))))] []) (fun v2 => mk [(0, .e (.one (.pure (.sl (p0.map Ah))))), (1, .e (.one (.pure (.sl (p1.map Ah)))))] []) (fun _ _ => rfl) (sm [] _ _ rfl rfl) (fun j1 n1 v1 h => ?_) (fun v2 s h hs => ?_)
 ·unfold CW at h
  refine Ab ?_
  refine AX h (fun v3 => mk [(0, .e (.one (.pure (.sl (p0.map Ah))))), (1, .e (.one (.pure (.sl (p1.map Ah))))), (5, .e (.one (.pure (.val (.int .i64 v1))))), (15, .e (.one (.pure (.val (.bool v3)))))] []) (fun j3 h => ?_) (fun v3 h => ?_)
  ·refine Aa Ae rfl (qm rfl (qm rfl (AS AG rfl (A8 rfl (qm rfl ?_)))))
   refine AI (t := 10) rfl (fun c4 => ?_) (fun c4 => ?_)
   ·have h := Ap c4 h
    refine qm rfl (qm rfl (AS AG rfl (A8 rfl (qp rfl (Ad ?_)))))
    exact Aw _ h (sm [] _ _ rfl rfl)
   ·have h := Aq c4 h
    refine qn rfl (qn rfl (qn rfl (qn rfl (qp rfl (Ad ?_)))))
    exact Aw _ h (sm [] _ _ rfl rfl)
  ·refine As rfl (fun c5 => ?_) (fun c5 => ?_)
   ·have h := Ap c5 h
    refine Av (Ab (AW (Ab (Ab (Aa Ae rfl (qm rfl (qm rfl ?_)))))))
    obtain ⟨v6, a6, b6, h⟩ := Am h
    refine qi AG Dh a6 (Ak b6) rfl (qk Ch rfl (qm rfl (qm rfl ?_)))
    obtain ⟨v7, a7, b7, h⟩ := Am h
    refine qi AG Dh a7 (Ak b7) rfl (qk Ch rfl (A8 rfl (A0 (by kernel_rfl) ?_)))
    refine As rfl (fun c8 => ?_) (fun c8 => ?_)
    ·have h := Ap c8 h
     refine Ab (Aa Ae rfl (qa rfl (Ad ?_)))
     obtain rfl := sj h
     refine Al (sm [] [(4, .e (.one (.pure (.val (.int .i64 ((-1)))))))] [] rfl rfl) (AF ?_)
     exact ⟨⟨[_], ⟨.tmp _ _ rfl, trivial⟩, rfl⟩, trivial⟩
    ·have h := Aq c8 h
     refine Av (Ab (Aa Ae rfl (qm rfl (qm rfl ?_))))
     obtain ⟨v9, a9, b9, h⟩ := Am h
     refine qi AG Dh a9 (Ak b9) rfl (qk Ch rfl (qm rfl (qm rfl ?_)))
     obtain ⟨v10, a10, b10, h⟩ := Am h
     refine qi AG Dh a10 (Ak b10) rfl (qk Ch rfl (Gd rfl (A0 (by kernel_rfl) ?_)))
     refine As rfl (fun c11 => ?_) (fun c11 => ?_)
     ·have h := Ap c11 h
      refine Ab (Aa Ae rfl (qa rfl (Ad ?_)))
      obtain rfl := sj h
      refine Al (sm [] [(4, .e (.one (.pure (.val (.int .i64 1)))))] [] rfl rfl) (AF ?_)
      exact ⟨⟨[_], ⟨.tmp _ _ rfl, trivial⟩, rfl⟩, trivial⟩
     ·have h := Aq c11 h
      refine Av (Aa Ae rfl (qm rfl (Bn rfl (qa rfl (Ad ?_)))))
      exact Aw _ h (sm [] _ _ rfl rfl)
   ·have h := Aq c5 h
    refine A6 ?_
    exact Aw _ h (sm [] _ _ rfl rfl)
 ·refine Al hs (Ab (Ab (Aa Ae rfl (qm rfl (AS AG rfl (qm rfl (AS AG rfl (A8 rfl (Ad ?_)))))))))
  refine As rfl (fun c12 => ?_) (fun c12 => ?_)
  ·have h := Ap c12 h
   refine Ab (Aa Ae rfl (qa rfl (Ad ?_)))
   obtain rfl := sj h
   refine Al (sm [] [(4, .e (.one (.pure (.val (.int .i64 ((-1)))))))] [] rfl rfl) (AF ?_)
   exact ⟨⟨[_], ⟨.tmp _ _ rfl, trivial⟩, rfl⟩, trivial⟩
  ·have h := Aq c12 h
   refine Av (Ab (Ab (Aa Ae rfl (qm rfl (AS AG rfl (qm rfl (AS AG rfl (Gd rfl (Ad ?_)))))))))
   refine As rfl (fun c13 => ?_) (fun c13 => ?_)
   ·have h := Ap c13 h
    refine Ab (Aa Ae rfl (qa rfl (Ad ?_)))
    obtain rfl := sj h
    refine Al (sm [] [(4, .e (.one (.pure (.val (.int .i64 1)))))] [] rfl rfl) (AF ?_)
    exact ⟨⟨[_], ⟨.tmp _ _ rfl, trivial⟩, rfl⟩, trivial⟩
   ·have h := Aq c13 h
    refine Av (Ab (Aa Ae rfl (qa rfl (Ad ?_))))
    obtain rfl := sj h
    refine Al (sm [] [(4, .e (.one (.pure (.val (.int .i64 0)))))] [] rfl rfl) (AF ?_)
    exact ⟨⟨[_], ⟨.tmp _ _ rfl, trivial⟩, rfl⟩, trivial⟩
set_option maxRecDepth 10000 in
theorem GB (N : Nat) (p0 : List Int) (r : (List Int)) (h : CV N p0 = some r) : AC Try.prog 84 [.e (.one (.pure (.sl (p0.map Ba))))] [(1, r.map Ah)] (.e (.one (.own 0))) := by
 unfold CV at h
 refine Ar (n := 20) (rs := [.tmp 2]) Try.func84 rfl rfl rfl (BM rfl) (BM rfl) rfl fun w0 S0 => ?_
 refine Ab (Aa Ae rfl (qa rfl (Ad (Ab (Aa Ae rfl (qa rfl (Ad (Ab (Ab (Aa Ae rfl (qa rfl (Ad ?_))))))))))))
 refine AR (L := Cw N p0) h (fun v1 => mk [(0, .e (.one (.pure (.sl (p0.map Ba))))), (3, .e (.one (.own 2001))), (4, .e (.one (.pure (.val (.int .i64 v1.2)))))] [(2001, .vec 1 (v1.1.map Ah))]) (fun v2 => mk [(3, .e (.one (.own 2002)))] [(2002, .vec 1 (v2.map Ah))]) (fun _ _ => rfl) ((Cj 3 2003 1 rfl rfl rfl).trans (sm [(2001, 2003)] _ _ rfl rfl)) (fun j1 n1 v1 h => ?_) (fun v2 s h hs => ?_)
 ·unfold Cw at h
  refine Ab (Ab (Aa Ae rfl (qm rfl (qm rfl (AS Dp rfl (A8 rfl (Ad ?_)))))))
  refine As rfl (fun c3 => ?_) (fun c3 => ?_)
  ·have h := Ap c3 h
   refine Av (Ab (AW (Aa Ae rfl (qm rfl (qm rfl (qm rfl ?_))))))
   obtain ⟨v4, a4, b4, h⟩ := Am h
   refine qi Dp Fn a4 (Ak b4) rfl (qk Ji rfl (If XI T4 rfl (En AG Dh Kd rfl ?_)))
   obtain ⟨c5, h⟩ := AN h
   refine DI (f := Ah) AG AG Dh KH Kd c5 rfl (qa rfl (Ad (Aa Ae rfl (qm rfl (Bn rfl (qa rfl (Ad ?_)))))))
   exact Aw _ h (sm [(2001, 18)] _ _ rfl rfl)
  ·have h := Aq c3 h
   refine A6 ?_
   exact Aw _ h (sm [(2002, 2001)] _ _ rfl rfl)
 ·refine Al hs (Ab (Aa Ae rfl (qm rfl (qa rfl (Ad ?_)))))
  obtain rfl := sj h
  refine Al (sm [(1000, 2002)] [(2, .e (.one (.own 1000)))] [(1000, .vec 1 (v2.map Ah))] rfl rfl) (AF ?_)
  exact ⟨⟨[_], ⟨.tmp _ _ rfl, trivial⟩, rfl⟩, ⟨rfl, trivial⟩⟩
set_option maxRecDepth 10000 in
theorem I7 (N : Nat) (p0 : Ag) (p1 : Ag) (r : Int) (h : Dx N p0 p1 = some r) : AC Try.prog 44 [.e (.agg [.pure (.sl (p0.fBase.map Ah)), .pure (.sl (p0.fNext.map Ah)), .pure (.sl (p0.fHeld.map Ba))]), .e (.agg [.pure (.sl (p1.fBase.map Ah)), .pure (.sl (p1.fNext.map Ah)), .pure (.sl (p1.fHeld.map Ba))])] [] (.e (.one (.pure (.val (.int .i64 r))))) := by
 unfold Dx at h
 refine Ar (n := 30) (rs := [.tmp 4]) Try.func44 rfl rfl rfl (BM rfl) (BM rfl) rfl fun w0 S0 => ?_
 refine Ab (Aa Ae rfl (qb rfl (qb rfl (qa rfl (Ad (Ab (Ab (Aa Ae rfl (qf CK rfl (ql A9 rfl (qf CK rfl (ql A9 rfl ?_))))))))))))
 obtain ⟨v1, a1, h⟩ := bind_some h
 refine AM [] (F5 N p0.fBase p1.fBase v1 a1) VS rfl (qa rfl (Ad (Ab (Aa Ae rfl (qm rfl (CB rfl (Ad ?_)))))))
 refine As rfl (fun c2 => ?_) (fun c2 => ?_)
 ·have h := Ap c2 h
  refine Ab (Aa Ae rfl (qm rfl (qa rfl (Ad ?_))))
  obtain rfl := sj h
  refine Al (sm [] [(4, .e (.one (.pure (.val (.int .i64 v1)))))] [] rfl rfl) (AF ?_)
  exact ⟨⟨[_], ⟨.tmp _ _ rfl, trivial⟩, rfl⟩, trivial⟩
 ·have h := Aq c2 h
  refine Av (Ab (Ab (Aa Ae rfl (qf BD rfl (ql A9 rfl (qf BD rfl (ql A9 rfl ?_)))))))
  obtain ⟨v3, a3, h⟩ := bind_some h
  refine AM [] (F5 N p0.fNext p1.fNext v3 a3) VS rfl (qa rfl (Ad (Ab (Aa Ae rfl (qm rfl (CB rfl (Ad ?_)))))))
  refine As rfl (fun c4 => ?_) (fun c4 => ?_)
  ·have h := Ap c4 h
   refine Ab (Aa Ae rfl (qm rfl (qa rfl (Ad ?_))))
   obtain rfl := sj h
   refine Al (sm [] [(4, .e (.one (.pure (.val (.int .i64 v3)))))] [] rfl rfl) (AF ?_)
   exact ⟨⟨[_], ⟨.tmp _ _ rfl, trivial⟩, rfl⟩, trivial⟩
  ·have h := Aq c4 h
   refine Av (Ab (Aa Ae rfl (qf Cy rfl (ql Gf rfl ?_))))
   obtain ⟨v5, a5, h⟩ := bind_some h
   refine AM [2001] (GB N p0.fHeld v5 a5) V3 rfl (qf Cy rfl (ql Gf rfl ?_))
   obtain ⟨v6, a6, h⟩ := bind_some h
   refine AM [2002] (GB N p1.fHeld v6 a6) V3 rfl ?_
   obtain ⟨v7, a7, h⟩ := bind_some h
   refine DZ [] [2001, 2002] (F5 N v5 v6 v7 a7) VS CD rfl (qa rfl (A0 (by kernel_rfl) ?_))
   obtain rfl := sj h
   refine Al (sm [] [(4, .e (.one (.pure (.val (.int .i64 v7)))))] [] rfl rfl) (AF ?_)
   exact ⟨⟨[_], ⟨.tmp _ _ rfl, trivial⟩, rfl⟩, trivial⟩
set_option maxRecDepth 10000 in
theorem J0 (N : Nat) (p0 : Ag) (p1 : Ag) (r : Bool) (h : D6 N p0 p1 = some r) : AC Try.prog 21 [.e (.agg [.pure (.sl (p0.fBase.map Ah)), .pure (.sl (p0.fNext.map Ah)), .pure (.sl (p0.fHeld.map Ba))]), .e (.agg [.pure (.sl (p1.fBase.map Ah)), .pure (.sl (p1.fNext.map Ah)), .pure (.sl (p1.fHeld.map Ba))])] [] (.e (.one (.pure (.val (.bool r))))) := by
 unfold D6 at h
 refine Ar (n := 9) (rs := [.tmp 4]) Try.func21 rfl rfl rfl (BM rfl) (BM rfl) rfl fun w0 S0 => ?_
 refine Ab (Aa Ae rfl (qb rfl (qb rfl (qa rfl (Ad (Ab (Aa Ae rfl (qL Bx AU rfl (qL Bx AU rfl ?_)))))))))
 obtain ⟨v1, a1, h⟩ := bind_some h
 refine AM [] (I7 N p0 p1 v1 a1) XU rfl (B0 rfl (qa rfl (Ad ?_)))
 obtain rfl := sj h
 refine Al (sm [] [(4, .e (.one (.pure (.val (.bool ((v1 == 0)))))))] [] rfl rfl) (AF ?_)
 exact ⟨⟨[_], ⟨.tmp _ _ rfl, trivial⟩, rfl⟩, trivial⟩
set_option maxRecDepth 10000 in
theorem Ks (N : Nat) (p0 : List AA) (p1 : Ag) (r : Int) (h : DB N p0 p1 = some r) : AC Try.prog 53 [.e (.one (.pure (.sl (p0.map B6)))), .e (.agg [.pure (.sl (p1.fBase.map Ah)), .pure (.sl (p1.fNext.map Ah)), .pure (.sl (p1.fHeld.map Ba))])] [] (.e (.one (.pure (.val (.int .i64 r))))) := by
 unfold DB at h
 refine Ar (n := 20) (rs := [.tmp 4]) Try.func53 rfl rfl rfl (BM rfl) (BM rfl) rfl fun w0 S0 => ?_
 refine Ab (Aa Ae rfl (qb rfl (qa rfl (Ad (Ab (Ab (Aa Ae rfl (qa rfl (Ad ?_)))))))))
 refine AR (L := Cc N p0 p1) h (fun v1 => mk [(0, .e (.one (.pure (.sl (p0.map B6))))), (3, .e (.one (.ptr 3 0))), (5, .e (.one (.pure (.val (.int .i64 v1)))))] [(3, .box [.pure (.sl (p1.fBase.map Ah)), .pure (.sl (p1.fNext.map Ah)), .pure (.sl (p1.fHeld.map Ba))])]) (fun v2 => mk [] []) (fun _ _ => rfl) (sm [] _ _ rfl rfl) (fun j1 n1 v1 h => ?_) (fun v2 s h hs => ?_)
 ·unfold Cc at h
  refine Ab (Ab (Aa Ae rfl (qm rfl (qm rfl (AS Kc rfl (A8 rfl (Ad ?_)))))))
  refine As rfl (fun c3 => ?_) (fun c3 => ?_)
  ·have h := Ap c3 h
   refine Av (Ab (AW (Ab (Aa Ae rfl (qm rfl (qm rfl ?_))))))
   obtain ⟨v4, a4, b4, h⟩ := Am h
   refine qi Kc RN a4 (Ak b4) rfl (qg Pa rfl (qK Bx AU rfl (qL Bx AU rfl ?_)))
   obtain ⟨v5, a5, h⟩ := bind_some h
   refine AM [] (J0 N ((Ag.mk v4.fMix.fBase v4.fMix.fNext v4.fMix.fHeld)) p1 v5 a5) Xz rfl (A0 (by kernel_rfl) ?_)
   refine As rfl (fun c6 => ?_) (fun c6 => ?_)
   ·have h := Ap c6 h
    refine Ab (Aa Ae rfl (qm rfl (qa rfl (Ad ?_))))
    obtain rfl := sj h
    refine Al (sm [] [(4, .e (.one (.pure (.val (.int .i64 v1)))))] [] rfl rfl) (AF ?_)
    exact ⟨⟨[_], ⟨.tmp _ _ rfl, trivial⟩, rfl⟩, trivial⟩
   ·have h := Aq c6 h
    refine Av (Aa Ae rfl (qm rfl (Bn rfl (qa rfl (Ad ?_)))))
    exact Aw _ h (sm [] _ _ rfl rfl)
  ·have h := Aq c3 h
   refine A6 ?_
   exact Aw _ h (sm [] _ _ rfl rfl)
 ·refine Al hs (Ab (Aa Ae rfl (qa rfl (Ad ?_))))
  obtain rfl := sj h
  refine Al (sm [] [(4, .e (.one (.pure (.val (.int .i64 ((-1)))))))] [] rfl rfl) (AF ?_)
  exact ⟨⟨[_], ⟨.tmp _ _ rfl, trivial⟩, rfl⟩, trivial⟩
end Go.Lift

/- That the code does what the shallow programs do, function by function. Written by a program (gen.py). -/
namespace Go.Lift
open Go.RowKit
open Go.Proofs
set_option maxRecDepth 10000 in
theorem JY (N : Nat) (p0 : Ac) (p1 : Ag) (p2 : Int) (r : (List AA) × Bool) (h : Cu N p0 p1 p2 = some r) : AC Try.prog 26 [.e (.agg [.pure (.sl (p0.fVersions.map Ah)), .pure (.sl (p0.fNow.map Ah)), .pure (.sl (p0.fTarget.map Ah)), .pure (.sl (p0.fTables.map Ai))]), .e (.agg [.pure (.sl (p1.fBase.map Ah)), .pure (.sl (p1.fNext.map Ah)), .pure (.sl (p1.fHeld.map Ba))]), .e (.one (.pure (.val (.int .i64 p2))))] [(7, r.1.map B6)] (.tup [.one (.own 0), .one (.pure (.val (.bool r.2)))]) := by
 unfold Cu at h
 refine Ar (n := 74) (rs := [.tmp 6, .tmp 7]) Try.func26 rfl rfl rfl (BM rfl) (BM rfl) rfl fun w0 S0 => ?_
 refine Ab (Aa Ae rfl (qb rfl (qb rfl (qa rfl (qa rfl (Ad (Ab (Aa Ae rfl (qL Bx AU rfl (A4 SY Wa rfl (En Kc RN SY rfl (qa rfl (Ad (Ab (Ab (Aa Ae rfl (qa rfl (Ad ?_))))))))))))))))))
 refine AR (L := BF N p0 p2) h (fun v1 => mk [(2, .e (.one (.pure (.val (.int .i64 p2))))), (3, .e (.one (.ptr 3 0))), (8, .e (.one (.own 2001))), (9, .e (.one (.pure (.val (.int .i64 v1.2)))))] [(3, .box [.pure (.sl (p0.fVersions.map Ah)), .pure (.sl (p0.fNow.map Ah)), .pure (.sl (p0.fTarget.map Ah)), .pure (.sl (p0.fTables.map Ai))]), (2001, .vec 7 (v1.1.map B6))]) (fun v2 => mk [(8, .e (.one (.own 2002)))] [(2002, .vec 7 (v2.map B6))]) (fun _ _ => rfl) (sm [(2001, 16)] _ _ rfl rfl) (fun j1 n1 v1 h => ?_) (fun v2 s h hs => ?_)
 ·unfold BF at h
  refine Ab (Ab (Aa Ae rfl (qm rfl (qm rfl (Fg Kc rfl (A8 rfl (Ad ?_)))))))
  refine As rfl (fun c3 => ?_) (fun c3 => ?_)
  ·have h := Ap c3 h
   refine Av (Ab (AW (Ab (Aa Ae rfl (qL DQ Di rfl (qm rfl (qm rfl ?_)))))))
   obtain ⟨v4, a4, b4, h⟩ := Am h
   refine qI Kc RN a4 (Ak b4) rfl (qh Pa rfl ?_)
   refine Pg (.p rfl) rfl Bx AU rfl (Ak b4) rfl rfl (by decide) ?_
   obtain ⟨v5, a5, h⟩ := bind_some h
   refine AM [2003] (J2 N p0 ((Ag.mk v4.fMix.fBase v4.fMix.fNext v4.fMix.fHeld)) v5 a5) X8 rfl (qa rfl (A0 (by kernel_rfl) (Ab (Aa Ae rfl (qa rfl (Ad ?_))))))
   refine AR (L := BG N p0 p2 v1 v5) h (fun v6 => mk [(2, .e (.one (.pure (.val (.int .i64 p2))))), (3, .e (.one (.ptr 3 0))), (8, .e (.one (.own 2004))), (9, .e (.one (.pure (.val (.int .i64 v1.2))))), (10, .e (.one (.own 2005))), (11, .e (.one (.pure (.val (.int .i64 v6.2)))))] [(3, .box [.pure (.sl (p0.fVersions.map Ah)), .pure (.sl (p0.fNow.map Ah)), .pure (.sl (p0.fTarget.map Ah)), .pure (.sl (p0.fTables.map Ai))]), (2004, .vec 7 (v6.1.map B6)), (2005, .vec 3 (v5.map Az))]) (fun v7 => mk [(2, .e (.one (.pure (.val (.int .i64 p2))))), (3, .e (.one (.ptr 3 0))), (8, .e (.one (.own 2006))), (9, .e (.one (.pure (.val (.int .i64 v1.2)))))] [(3, .box [.pure (.sl (p0.fVersions.map Ah)), .pure (.sl (p0.fNow.map Ah)), .pure (.sl (p0.fTarget.map Ah)), .pure (.sl (p0.fTables.map Ai))]), (2006, .vec 7 (v7.map B6))]) (fun _ _ => rfl) (sm [(2004, 2001), (2005, 2003)] _ _ rfl rfl) (fun j6 n6 v6 h => ?_) (fun v7 s h hs => ?_)
   ·unfold BG at h
    refine Ab (Ab (Aa Ae rfl (qm rfl (qm rfl (Fg CE rfl (A8 rfl (Ad ?_)))))))
    refine As rfl (fun c8 => ?_) (fun c8 => ?_)
    ·have h := Ap c8 h
     refine Av (Ab (AW (Ab (Aa Ae rfl (qL DQ Di rfl (qm rfl (qm rfl ?_)))))))
     obtain ⟨v9, a9, b9, h⟩ := Am h
     refine qI Kc RN a9 (Ak b9) rfl (qh Pa rfl ?_)
     refine Pg (.p rfl) rfl Bx AU rfl (Ak b9) rfl rfl (by decide) ?_
     refine qm rfl (qm rfl ?_)
     obtain ⟨v10, a10, b10, h⟩ := Am h
     refine qI CE C7 a10 (Ak b10) rfl (qJ Gz C7 (Ak b10) rfl ?_)
     obtain ⟨v11, a11, h⟩ := bind_some h
     refine AM [2007, 2008, 2009] (FF N p0 ((Ag.mk v9.fMix.fBase v9.fMix.fNext v9.fMix.fHeld)) v10 v11 a11) Vx rfl (qm rfl (qx rfl (qx rfl (qz C8 rfl (qs AU rfl (qa rfl (A0 (by kernel_rfl) ?_)))))))
     refine AX h (fun v12 => mk [(2, .e (.one (.pure (.val (.int .i64 p2))))), (3, .e (.one (.ptr 3 0))), (8, .e (.one (.own 2010))), (9, .e (.one (.pure (.val (.int .i64 v1.2))))), (10, .e (.one (.own 2011))), (11, .e (.one (.pure (.val (.int .i64 v6.2)))))] [(3, .box [.pure (.sl (p0.fVersions.map Ah)), .pure (.sl (p0.fNow.map Ah)), .pure (.sl (p0.fTarget.map Ah)), .pure (.sl (p0.fTables.map Ai))]), (2010, .vec 7 (v12.map B6)), (2011, .vec 3 (v5.map Az))]) (fun j12 h => ?_) (fun v12 h => ?_)
     ·refine AX h (fun v13 => mk [(2, .e (.one (.pure (.val (.int .i64 p2))))), (3, .e (.one (.ptr 3 0))), (8, .e (.one (.own 2015))), (9, .e (.one (.pure (.val (.int .i64 v1.2))))), (10, .e (.one (.own 2016))), (11, .e (.one (.pure (.val (.int .i64 v6.2))))), (12, .e (.one (.ptr 12 0))), (58, .e (.one (.pure (.val (.bool v13)))))] [(3, .box [.pure (.sl (p0.fVersions.map Ah)), .pure (.sl (p0.fNow.map Ah)), .pure (.sl (p0.fTarget.map Ah)), .pure (.sl (p0.fTables.map Ai))]), (12, .box [.own 2012, .own 2013, .own 2014]), (2012, .vec 1 (v11.1.fBase.map Ah)), (2013, .vec 1 (v11.1.fNext.map Ah)), (2014, .vec 1 (v11.1.fHeld.map Ba)), (2015, .vec 7 (v6.1.map B6)), (2016, .vec 3 (v5.map Az))]) (fun j13 h => ?_) (fun v13 h => ?_)
      ·refine Aa Ae rfl (qL DQ Di rfl (qL Bx AU rfl ?_))
       obtain ⟨v14, a14, h⟩ := bind_some h
       refine DZ [] [2007, 2008, 2009] (Gt N p0 v11.1 v14 a14) Wd CD rfl (qm rfl ?_)
       refine AI (t := 53) rfl (fun c15 => ?_) (fun c15 => ?_)
       ·have h := Ap c15 h
        refine qm rfl (qL Bx AU rfl ?_)
        obtain ⟨v16, a16, h⟩ := bind_some h
        refine DZ [] [2004, 2007, 2008, 2009] (Ks N v6.1 v11.1 v16 a16) XQ CD rfl (A8 rfl (qp rfl (Ad ?_)))
        exact Aw _ h (sm [(2012, 2007), (2013, 2008), (2014, 2009), (2015, 2004), (2016, 2005)] _ _ rfl rfl)
       ·have h := Aq c15 h
        refine qn rfl (qn rfl (qn rfl (qn rfl (qp rfl (Ad ?_)))))
        exact Aw _ h (sm [(2012, 2007), (2013, 2008), (2014, 2009), (2015, 2004), (2016, 2005)] _ _ rfl rfl)
      ·refine As rfl (fun c17 => ?_) (fun c17 => ?_)
       ·have h := Ap c17 h
        refine Al (BL 2012 _ _ rfl rfl) (Al (BL 2013 _ _ rfl rfl) (Al (BL 2014 _ _ rfl rfl) (Aa Ae rfl (qm rfl (qL Bx AU rfl (qm rfl (qm rfl (qm rfl ?_))))))))
        obtain ⟨v18, a18, b18, h⟩ := Am h
        refine qI CE C7 a18 (Ak b18) rfl (qJ Gz C7 (Ak b18) rfl (A4 SY Wa rfl (En Kc RN SY rfl ?_)))
        obtain ⟨c19, h⟩ := AN h
        refine DI (f := B6) Kc Kc RN Wq SY c19 rfl (qa rfl (A0 (by kernel_rfl) ?_))
        exact Aw _ h (sm [(2010, 68), (2011, 2016)] _ _ rfl rfl)
       ·have h := Aq c17 h
        refine Av ?_
        exact Aw _ h (sm [(2010, 2015), (2011, 2016)] _ _ rfl rfl)
     ·refine Ab (Aa Ae rfl (qm rfl (Fg Kc rfl (qm rfl (Gd rfl (Ad ?_))))))
      refine As rfl (fun c20 => ?_) (fun c20 => ?_)
      ·have h := Ap c20 h
       refine Ab (Aa Ae rfl (qa rfl (qa rfl (Ad ?_))))
       obtain rfl := sj h
       refine Al ((Cj 6 2017 7 rfl rfl rfl).trans (sm [(1000, 2017)] [(6, .e (.one (.own 1000))), (7, .e (.one (.pure (.val (.bool false)))))] [(1000, .vec 7 ((([] : List AA)).map B6))] rfl rfl)) (AF ?_)
       exact ⟨⟨[_, _], ⟨.tmp _ _ rfl, ⟨.tmp _ _ rfl, trivial⟩⟩, rfl⟩, ⟨rfl, trivial⟩⟩
      ·have h := Aq c20 h
       refine Av (Aa Ae rfl (qm rfl (Bn rfl (qa rfl (Ad ?_)))))
       exact Aw _ h (sm [(2004, 2010), (2005, 2011)] _ _ rfl rfl)
    ·have h := Aq c8 h
     refine A6 ?_
     exact Aw _ h (sm [(2006, 2004)] _ _ rfl rfl)
   ·refine Al hs (Aa Ae rfl (qm rfl (Bn rfl (qa rfl (Ad ?_)))))
    exact Aw _ h (sm [(2001, 2006)] _ _ rfl rfl)
  ·have h := Aq c3 h
   refine A6 ?_
   exact Aw _ h (sm [(2002, 2001)] _ _ rfl rfl)
 ·refine Al hs (Ab (Aa Ae rfl (qm rfl (qa rfl (qa rfl (Ad ?_))))))
  obtain rfl := sj h
  refine Al (sm [(1000, 2002)] [(6, .e (.one (.own 1000))), (7, .e (.one (.pure (.val (.bool true)))))] [(1000, .vec 7 (v2.map B6))] rfl rfl) (AF ?_)
  exact ⟨⟨[_, _], ⟨.tmp _ _ rfl, ⟨.tmp _ _ rfl, trivial⟩⟩, rfl⟩, ⟨rfl, trivial⟩⟩
set_option maxRecDepth 10000 in
theorem J4 (N : Nat) (p0 : Ac) (p1 : Int) (r : Bool) (h : Ed N p0 p1 = some r) : AC Try.prog 36 [.e (.agg [.pure (.sl (p0.fVersions.map Ah)), .pure (.sl (p0.fNow.map Ah)), .pure (.sl (p0.fTarget.map Ah)), .pure (.sl (p0.fTables.map Ai))]), .e (.one (.pure (.val (.int .i64 p1))))] [] (.e (.one (.pure (.val (.bool r))))) := by
 unfold Ed at h
 refine Ar (n := 30) (rs := [.tmp 4]) Try.func36 rfl rfl rfl (BM rfl) (BM rfl) rfl fun w0 S0 => ?_
 refine Ab (Aa Ae rfl (qb rfl (qa rfl (Ad (Ab (Aa Ae rfl (qL DQ Di rfl ?_)))))))
 obtain ⟨v1, a1, h⟩ := bind_some h
 refine AM [2001, 2002, 2003] (Hi N p0 v1 a1) WG rfl (qm rfl (qx rfl (qx rfl (qz C8 rfl (qs AU rfl (qa rfl (Ad (Ab ?_))))))))
 refine AX h (fun v2 => mk [(1, .e (.one (.pure (.val (.int .i64 p1))))), (2, .e (.one (.ptr 2 0))), (5, .e (.one (.ptr 5 0))), (21, .e (.one (.pure (.val (.bool v2)))))] [(2, .box [.pure (.sl (p0.fVersions.map Ah)), .pure (.sl (p0.fNow.map Ah)), .pure (.sl (p0.fTarget.map Ah)), .pure (.sl (p0.fTables.map Ai))]), (5, .box [.own 2004, .own 2005, .own 2006]), (2004, .vec 1 (v1.1.fBase.map Ah)), (2005, .vec 1 (v1.1.fNext.map Ah)), (2006, .vec 1 (v1.1.fHeld.map Ba))]) (fun j2 h => ?_) (fun v2 h => ?_)
 ·refine Aa Ae rfl (qm rfl (CB rfl (qm rfl ?_)))
  refine AI (t := 16) rfl (fun c3 => ?_) (fun c3 => ?_)
  ·have h := Ap c3 h
   refine qn rfl (qn rfl (qn rfl (qn rfl (qp rfl (Ad ?_)))))
   exact Aw _ h (sm [(2004, 2001), (2005, 2002), (2006, 2003)] _ _ rfl rfl)
  ·have h := Aq c3 h
   refine qL DQ Di rfl (qL Bx AU rfl ?_)
   obtain ⟨v4, a4, h⟩ := bind_some h
   refine DZ [] [2001, 2002, 2003] (Gt N p0 v1.1 v4 a4) Wd CD rfl (CG rfl (qp rfl (Ad ?_)))
   exact Aw _ h (sm [(2004, 2001), (2005, 2002), (2006, 2003)] _ _ rfl rfl)
 ·refine As rfl (fun c5 => ?_) (fun c5 => ?_)
  ·have h := Ap c5 h
   refine Ab (Aa Ae rfl (qa rfl (Ad ?_)))
   obtain rfl := sj h
   refine Al (sm [] [(4, .e (.one (.pure (.val (.bool true)))))] [] rfl rfl) (AF ?_)
   exact ⟨⟨[_], ⟨.tmp _ _ rfl, trivial⟩, rfl⟩, trivial⟩
  ·have h := Aq c5 h
   refine Av (Ab (Aa Ae rfl (qL DQ Di rfl (qL Bx AU rfl (qm rfl (DK (BL 2004 _ _ rfl rfl) (DK (BL 2005 _ _ rfl rfl) (DK (BL 2006 _ _ rfl rfl) ?_))))))))
   obtain ⟨v6, a6, h⟩ := bind_some h
   refine AM [2007] (JY N p0 v1.1 p1 v6 a6) XJ rfl (qm rfl (qx rfl (qx rfl (qa rfl (qa rfl (Ad (Ab (Aa Ae rfl (qm rfl (qa rfl (Ad ?_)))))))))))
   obtain rfl := sj h
   refine Al (sm [] [(4, .e (.one (.pure (.val (.bool v6.2)))))] [] rfl rfl) (AF ?_)
   exact ⟨⟨[_], ⟨.tmp _ _ rfl, trivial⟩, rfl⟩, trivial⟩
set_option maxRecDepth 10000 in
theorem Lr (N : Nat) (p0 : BI) (r : Ac × Bool) (h : EH N p0 = some r) : AC Try.prog 12 [.e (.agg [.pure (.sl (p0.fVersions.map Ba)), .pure (.sl (p0.fNow.map Ba)), .pure (.sl (p0.fTarget.map Ba)), .pure (.sl (p0.fLinks.map BV))])] [(1, r.1.fVersions.map Ah), (1, r.1.fNow.map Ah), (1, r.1.fTarget.map Ah), (6, r.1.fTables.map Ai)] (.tup [.agg [.own 0, .own 1, .own 2, .own 3], .one (.pure (.val (.bool r.2)))]) := by
 unfold EH at h
 refine Ar (n := 17) (rs := [.cell 2 30, .tmp 3]) Try.func12 rfl rfl rfl (BM rfl) (BM rfl) rfl fun w0 S0 => ?_
 refine Ab (Aa Ae rfl (qb rfl (qz Qh rfl (qa rfl (Ad (Ab (Aa Ae rfl (qL Xb W0 rfl ?_))))))))
 obtain ⟨v1, a1, h⟩ := bind_some h
 refine AM [2001, 2002, 2003, 2004] (Lp N p0 v1 a1) XC rfl (qm rfl (qx rfl (qx rfl (qz Qh rfl (qs Di rfl (qa rfl (Ad ?_)))))))
 refine AX h (fun v2 => mk [(2, .e (.one (.ptr 2 0))), (3, .e (.one (.pure (.val (.bool v2)))))] [(2, .box [.own 2005, .own 2006, .own 2007, .own 2008]), (2005, .vec 1 (v1.1.fVersions.map Ah)), (2006, .vec 1 (v1.1.fNow.map Ah)), (2007, .vec 1 (v1.1.fTarget.map Ah)), (2008, .vec 6 (v1.1.fTables.map Ai))]) (fun j2 h => ?_) (fun v2 h => ?_)
 ·refine Aa Ae rfl (qL DQ Di rfl (qm rfl (qm rfl ?_)))
  refine AI (t := 13) rfl (fun c3 => ?_) (fun c3 => ?_)
  ·have h := Ap c3 h
   refine qL DQ Di rfl ?_
   obtain ⟨v4, a4, h⟩ := bind_some h
   refine DZ [] [2001, 2002, 2003, 2004] (J4 N v1.1 120 v4 a4) XD CD rfl (qp rfl (qs Di rfl (qa rfl (A0 (by kernel_rfl) ?_))))
   exact Aw _ h (sm [(2005, 2001), (2006, 2002), (2007, 2003), (2008, 2004)] _ _ rfl rfl)
  ·have h := Aq c3 h
   refine qn rfl (qn rfl (qp rfl (qs Di rfl (qa rfl (A0 (by kernel_rfl) ?_)))))
   exact Aw _ h (sm [(2005, 2001), (2006, 2002), (2007, 2003), (2008, 2004)] _ _ rfl rfl)
 ·obtain rfl := sj h
  refine Al (sm [(1000, 2005), (1001, 2006), (1002, 2007), (1003, 2008)] [(2, .e (.one (.ptr 2 0))), (3, .e (.one (.pure (.val (.bool v2)))))] [(2, .box [.own 1000, .own 1001, .own 1002, .own 1003]), (1000, .vec 1 (v1.1.fVersions.map Ah)), (1001, .vec 1 (v1.1.fNow.map Ah)), (1002, .vec 1 (v1.1.fTarget.map Ah)), (1003, .vec 6 (v1.1.fTables.map Ai))] rfl rfl) (AF ?_)
  exact ⟨⟨[_, _], ⟨.cellN _ _ _ _ _ _ _ rfl rfl DQ Di rfl rfl (Hc rfl), ⟨.tmp _ _ rfl, trivial⟩⟩, rfl⟩, ⟨rfl, rfl, rfl, rfl, trivial⟩⟩
set_option maxRecDepth 10000 in
theorem IM (N : Nat) (p0 : BI) (p1 : Int) (r : Bool) (h : Dm N p0 p1 = some r) : AC Try.prog 8 [.e (.agg [.pure (.sl (p0.fVersions.map Ba)), .pure (.sl (p0.fNow.map Ba)), .pure (.sl (p0.fTarget.map Ba)), .pure (.sl (p0.fLinks.map BV))]), .e (.one (.pure (.val (.int .u8 p1))))] [] (.e (.one (.pure (.val (.bool r))))) := by
 unfold Dm at h
 refine Ar (n := 83) (rs := [.tmp 4]) Try.func8 rfl rfl rfl (BM rfl) (BM rfl) rfl fun w0 S0 => ?_
 refine Ab (Aa Ae rfl (qb rfl (qa rfl (Ad (Ab (Ab (Aa Ae rfl ?_)))))))
 obtain ⟨v1, a1, h⟩ := bind_some h
 refine AM [] (JU N v1 a1) Xx rfl (CG rfl (Ad ?_))
 refine As rfl (fun c2 => ?_) (fun c2 => ?_)
 ·have h := Ap c2 h
  refine Ab (Aa Ae rfl (qa rfl (Ad ?_)))
  obtain rfl := sj h
  refine Al (sm [] [(4, .e (.one (.pure (.val (.bool false)))))] [] rfl rfl) (AF ?_)
  exact ⟨⟨[_], ⟨.tmp _ _ rfl, trivial⟩, rfl⟩, trivial⟩
 ·have h := Aq c2 h
  refine Av (Ab (Aa Ae rfl (qL Xb W0 rfl ?_)))
  obtain ⟨v3, a3, h⟩ := bind_some h
  refine AM [2001, 2002, 2003, 2004] (Lr N p0 v3 a3) XZ rfl (qm rfl (qx rfl (qx rfl (qz Qh rfl (qs Di rfl (qa rfl (Ad (Ab (Ab (Aa Ae rfl (qm rfl (CG rfl (Ad ?_)))))))))))))
  refine As rfl (fun c4 => ?_) (fun c4 => ?_)
  ·have h := Ap c4 h
   refine Ab (Aa Ae rfl (qa rfl (Ad ?_)))
   obtain rfl := sj h
   refine Al (sm [] [(4, .e (.one (.pure (.val (.bool true)))))] [] rfl rfl) (AF ?_)
   exact ⟨⟨[_], ⟨.tmp _ _ rfl, trivial⟩, rfl⟩, trivial⟩
  ·have h := Aq c4 h
   refine Av (Ab (Aa Ae rfl (qL DQ Di rfl ?_)))
   obtain ⟨v5, a5, h⟩ := bind_some h
   refine DZ [2005] [2001, 2002, 2003, 2004] (H2 N v3.1 v5 a5) UM (DX (fun _ => rfl) CD) rfl (qm rfl (qx rfl (qx rfl (qa rfl (qa rfl (Ad (Ab (Ab (Aa Ae rfl (qm rfl (CB rfl (Ad ?_))))))))))))
   refine As rfl (fun c6 => ?_) (fun c6 => ?_)
   ·have h := Ap c6 h
    refine Ab (Aa Ae rfl (qa rfl (Ad ?_)))
    obtain rfl := sj h
    refine Al (sm [] [(4, .e (.one (.pure (.val (.bool true)))))] [] rfl rfl) (AF ?_)
    exact ⟨⟨[_], ⟨.tmp _ _ rfl, trivial⟩, rfl⟩, trivial⟩
   ·have h := Aq c6 h
    refine Av (Ab (Aa Ae rfl (qL DQ Di rfl ?_)))
    obtain ⟨v7, a7, h⟩ := bind_some h
    refine DZ [2006, 2007, 2008] [2001, 2002, 2003, 2004] (Hi N v3.1 v7 a7) WG (DX (fun _ => rfl) (DX (fun _ => rfl) (DX (fun _ => rfl) CD))) rfl (qm rfl (qx rfl (qx rfl (qz C8 rfl (qs AU rfl (qa rfl (Ad (Ab (Aa Ae rfl (qm rfl (If Vs T4 rfl (qm rfl (Fg CE rfl (Bn rfl ?_))))))))))))))
    obtain ⟨c8, h⟩ := AN h
    refine J7 rfl c8 (qa rfl (Ad (Ab (Ab (Aa Ae rfl (qm rfl (qm rfl (DK (BL 2005 _ _ rfl rfl) ?_))))))))
    obtain ⟨c9, h⟩ := AN h
    refine Ri (.p rfl) rfl CE C7 (K9 (f := Az) (n := 3) (fun _ => rfl) _) (.none _) (.some _ _ _ _ c9.1) trivial ⟨rfl, trivial⟩ (by have := c9.2.1; (try simp only [List.length_map]); omega) (by have := c9.2.2; (try simp only [List.length_map]); omega) (P1 Az v5.1 _ _ (((Int.tmod ((IntKind.wrap .i64 p1)) ((IntKind.wrap .i64 ((v5.1.length : Int) + 1))))).toNat - 0) rfl) ?_
    refine AS CE rfl (qm rfl (Ad ?_))
    refine AR (L := Cm N p1 v3 v5) h (fun v10 => mk [(5, .e (.one (.ptr 5 0))), (7, .e (.one (.pure (.sl (v5.1.map Az))))), (9, .e (.one (.ptr 9 0))), (11, .e (.one (.pure (.val (.int .i64 ((Int.tmod ((IntKind.wrap .i64 p1)) ((IntKind.wrap .i64 ((v5.1.length : Int) + 1)))))))))), (45, .e (.one (.pure (.sl ((((v5.1.drop 0).take (((Int.tmod ((IntKind.wrap .i64 p1)) ((IntKind.wrap .i64 ((v5.1.length : Int) + 1))))).toNat - 0))).map Az))))), (46, .e (.one (.pure (.val (.int .i64 (((((v5.1.drop 0).take (((Int.tmod ((IntKind.wrap .i64 p1)) ((IntKind.wrap .i64 ((v5.1.length : Int) + 1))))).toNat - 0))).length : Int))))))), (47, .e (.one (.pure (.val (.int .i64 v10.2.2.2)))))] [(5, .box [.own 2009, .own 2010, .own 2011, .own 2012]), (9, .box [.own 2013, .own 2014, .own 2015]), (2009, .vec 1 (v3.1.fVersions.map Ah)), (2010, .vec 1 (v3.1.fNow.map Ah)), (2011, .vec 1 (v3.1.fTarget.map Ah)), (2012, .vec 6 (v3.1.fTables.map Ai)), (2013, .vec 1 (v10.1.map Ah)), (2014, .vec 1 (v10.2.1.map Ah)), (2015, .vec 1 (v10.2.2.1.map Ba))]) (fun v11 => mk [(5, .e (.one (.ptr 5 0))), (7, .e (.one (.pure (.sl (v5.1.map Az))))), (9, .e (.one (.ptr 9 0))), (11, .e (.one (.pure (.val (.int .i64 ((Int.tmod ((IntKind.wrap .i64 p1)) ((IntKind.wrap .i64 ((v5.1.length : Int) + 1))))))))))] [(5, .box [.own 2016, .own 2017, .own 2018, .own 2019]), (9, .box [.own 2020, .own 2021, .own 2022]), (2016, .vec 1 (v3.1.fVersions.map Ah)), (2017, .vec 1 (v3.1.fNow.map Ah)), (2018, .vec 1 (v3.1.fTarget.map Ah)), (2019, .vec 6 (v3.1.fTables.map Ai)), (2020, .vec 1 (v11.1.map Ah)), (2021, .vec 1 (v11.2.1.map Ah)), (2022, .vec 1 (v11.2.2.map Ba))]) (fun _ _ => rfl) (sm [(2009, 2001), (2010, 2002), (2011, 2003), (2012, 2004), (2013, 2006), (2014, 2007), (2015, 2008)] _ _ rfl rfl) (fun j10 n10 v10 h => ?_) (fun v11 s h hs => ?_)
    ·unfold Cm at h
     refine Ab (Aa Ae rfl (A8 rfl (Ad (Ab ?_))))
     refine As rfl (fun c12 => ?_) (fun c12 => ?_)
     ·have h := Ap c12 h
      refine Av (Ab (AW (Ab (Aa Ae rfl ?_))))
      obtain ⟨v13, a13, b13, h⟩ := Am h
      refine qi CE C7 a13 (Ak b13) rfl (qK Gz C7 rfl (qz GE rfl (qs C7 rfl (Ad (Aa Ae rfl (qL DQ Di rfl (qL Bx AU rfl (qL Gz C7 rfl ?_))))))))
      obtain ⟨v14, a14, h⟩ := bind_some h
      refine DZ [2023, 2024, 2025] [2009, 2010, 2011, 2012, 2013, 2014, 2015] (FF N v3.1 ((Ag.mk v10.1 v10.2.1 v10.2.2.1)) v13 v14 a14) Vx (DX (fun _ => rfl) (DX (fun _ => rfl) (DX (fun _ => rfl) CD))) rfl (qm rfl (qx rfl (qx rfl (qs AU rfl (Ad (Aa Ae rfl (Bn rfl (qm rfl (Ad ?_)))))))))
      exact Aw _ h (sm [(2013, 2023), (2014, 2024), (2015, 2025)] _ _ rfl rfl)
     ·have h := Aq c12 h
      refine A6 ?_
      exact Aw _ h (sm [(2016, 2009), (2017, 2010), (2018, 2011), (2019, 2012), (2020, 2013), (2021, 2014), (2022, 2015)] _ _ rfl rfl)
    ·refine Al hs (Ab (Aa Ae rfl (qL DQ Di rfl (qL Bx AU rfl ?_))))
     obtain ⟨v15, a15, h⟩ := bind_some h
     refine DZ [2026] [2016, 2017, 2018, 2019, 2020, 2021, 2022] (LU N v3.1 ((Ag.mk v11.1 v11.2.1 v11.2.2)) v15 a15) W7 (DX (fun _ => rfl) CD) rfl (qm rfl (qx rfl (qx rfl (qa rfl (qa rfl (Ad ?_))))))
     refine AX h (fun v16 => mk [(4, .e (.one (.pure (.val (.bool v16)))))] []) (fun j16 h => ?_) (fun v16 h => ?_)
     ·refine Aa Ae rfl (qm rfl (B0 rfl (qm rfl ?_)))
      refine AI (t := 67) rfl (fun c17 => ?_) (fun c17 => ?_)
      ·have h := Ap c17 h
       refine qm rfl (Fg CE rfl (qm rfl (AS CE rfl (qm rfl (NG rfl (B0 rfl (qp rfl (qm rfl ?_))))))))
       refine AI (t := 76) rfl (fun c18 => ?_) (fun c18 => ?_)
       ·have h := Ap c18 h
        refine qm rfl (qm rfl (qm rfl ?_))
        obtain ⟨c19, h⟩ := AN h
        refine Ri (.g rfl rfl) rfl CE C7 (K9 (f := Az) (n := 3) (fun _ => rfl) _) (.some _ _ _ _ c19.1) (.none _) ⟨rfl, trivial⟩ trivial (by have := c19.2.1; (try simp only [List.length_map]); omega) (by have := c19.2.2; (try simp only [List.length_map]); omega) (P1 Az v5.1 _ _ (v5.1.length - ((Int.tmod ((IntKind.wrap .i64 p1)) ((IntKind.wrap .i64 ((v5.1.length : Int) + 1))))).toNat) (by rw [List.length_map])) ?_
        obtain ⟨v20, a20, h⟩ := bind_some h
        refine DZ [] [2026] (HF N v15.1 (((v5.1.drop ((Int.tmod ((IntKind.wrap .i64 p1)) ((IntKind.wrap .i64 ((v5.1.length : Int) + 1))))).toNat).take (v5.1.length - ((Int.tmod ((IntKind.wrap .i64 p1)) ((IntKind.wrap .i64 ((v5.1.length : Int) + 1))))).toNat))) v20 a20) WN CD rfl (qp rfl (qa rfl (Ad ?_)))
        exact Aw _ h (sm [] _ _ rfl rfl)
       ·have h := Aq c18 h
        refine qn rfl (qn rfl (qn rfl (qn rfl (qn rfl (qp rfl (qa rfl (Ad ?_)))))))
        exact Aw _ h (sm [] _ _ rfl rfl)
      ·have h := Aq c17 h
       refine qn rfl (qn rfl (qn rfl (qn rfl (qn rfl (qn rfl (qn rfl (qp rfl (qm rfl (qn rfl (qn rfl (qn rfl (qn rfl (qn rfl (qp rfl (qa rfl (Ad ?_))))))))))))))))
       exact Aw _ h (sm [] _ _ rfl rfl)
     ·obtain rfl := sj h
      refine Al (sm [] [(4, .e (.one (.pure (.val (.bool v16)))))] [] rfl rfl) (AF ?_)
      exact ⟨⟨[_], ⟨.tmp _ _ rfl, trivial⟩, rfl⟩, trivial⟩
end Go.Lift

