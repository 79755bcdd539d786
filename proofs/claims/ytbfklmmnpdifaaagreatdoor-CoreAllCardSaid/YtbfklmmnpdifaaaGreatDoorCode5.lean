/- Lemmas for CoreAllCardSaid, which YtbfklmmnpdifaaaGreatDoorFinC6 proves. -/
import Derived.Test.YtbfklmmnpdifaaaGreatDoorCode4
open Go.Proofs.Tryz renaming prog → zA
namespace Go.Lift
set_option maxRecDepth 10000
open Go.RowKit
open Go.Proofs
theorem M4 (N : Nat) (p0 : Aa) (p1 : Ac) (r : Bool) (h : Fl N p0 p1 = some r) : Ao zA 91 [.e (.agg (Ag p0)), .e (.agg (AI p1))] [] (bD r) := by
 unfold Fl at h
 refine cw (n := 36) (rs := [.tmp 4]) Tryz.func91 fun w0 S0 => ?_
 refine wq rfl (qb rfl (qb rfl (qa rfl (Ab (wp rfl (qL Co BN rfl (qL B2 A3 rfl ?_)))))))
 refine BG h fun v1 a1 h => Av [] (Hw N p0 p1 v1 a1) aF rfl (Bo rfl (Ab ?_))
 refine A8 h (fun h => ?_) fun h => ?_
 ·refine wq rfl (qe rfl ?_)
  obtain rfl := sj h
  refine Ae (sm [] [(4, bD false)] [] rfl rfl) (Ar ?_)
  exact ⟨⟨[_], tm, rfl⟩, tv⟩
 ·refine Ai (wp rfl (qe rfl ?_))
  refine AC (L := Db N p0 p1) h (fun v3 => mk [(2, oD (.ptr 2 0)), (3, oD (.ptr 3 0)), (5, iD v3)] [(2, .box (Ag p0)), (3, .box (AI p1))]) (fun v4 => mk [] []) (fun _ _ => rfl) (sm [] _ _ rfl rfl) (fun j3 n3 v3 h => ?_) (fun v4 s h hs => ?_)
  ·unfold Db at h
   refine wp rfl (qm rfl (qf C5 rfl (ql A0 rfl (AJ As rfl (AV rfl (Ab ?_))))))
   refine A8 h (fun h => ?_) fun h => ?_
   ·refine Ai (AL (AH ?_))
    refine AS h (fun v6 => mk [(2, oD (.ptr 2 0)), (3, oD (.ptr 3 0)), (5, iD v3), (35, bD v6)] [(2, .box (Ag p0)), (3, .box (AI p1))]) (fun j6 h => ?_) (fun v6 h => ?_)
    ·refine Ah Aw rfl (qf BK rfl (ql A0 rfl (qm rfl ?_)))
     refine BD h fun v7 a7 b7 h => qi As Cp a7 (Af b7) rfl (qk BY rfl (EI rfl (qm rfl ?_)))
     refine Eu 23 h rfl (fun h => ?_) fun h => ?_
     ·refine qw 11 rfl (qp rfl (AM (by kernel_rfl) ?_))
      exact sn [] h
     ·refine qf C5 rfl (ql A0 rfl (qm rfl ?_))
      refine BD h fun v9 a9 b9 h => qi As Cp a9 (Af b9) rfl (qk BY rfl (qf Gx rfl (ql A0 rfl (qm rfl ?_))))
      refine BD h fun v10 a10 b10 h => qi As Cp a10 (Af b10) rfl (qk BY rfl (Bo rfl (qp rfl (AM (by kernel_rfl) ?_))))
      exact sn [] h
    ·refine A8 h (fun h => ?_) fun h => ?_
     ·refine wq rfl (qe rfl ?_)
      obtain rfl := sj h
      refine Ae (sm [] [(4, bD false)] [] rfl rfl) (Ar ?_)
      exact ⟨⟨[_], tm, rfl⟩, tv⟩
     ·refine Ai (Ah Aw rfl (qm rfl (AW rfl (qe rfl ?_))))
      exact sn [] h
   ·refine AR ?_
    exact sn [] h
  ·refine Ae hs (wq rfl (qe rfl ?_))
   obtain rfl := sj h
   refine Ae (sm [] [(4, bD true)] [] rfl rfl) (Ar ?_)
   exact ⟨⟨[_], tm, rfl⟩, tv⟩
theorem N0 (N : Nat) (p0 : List AD) (p1 : Int) (r : (List Ad)) (h : Gy N p0 p1 = some r) : Ao zA 110 [pD (.sl (p0.map BI)), iD p1] [(3, r.map AA)] (oD (.own 0)) := by
 unfold Gy at h
 refine cw (n := 26) (rs := [.tmp 4]) Tryz.func110 fun w0 S0 => ?_
 refine wq rfl (qa rfl (Ab (wq rfl (qa rfl (Ab (AL ?_))))))
 refine AC (L := DU N p0) h (fun v1 => mk [(0, pD (.sl (p0.map BI))), (1, iD v1.1), (5, oD (.own 2001))] [(2001, .vec 3 (v1.2.map AA))]) (fun v2 => mk [(5, oD (.own 2002))] [(2002, .vec 3 (v2.map AA))]) (fun _ _ => rfl) ((AT 5 2003 3 rfl rfl rfl).trans (sm [(2001, 2003)] _ _ rfl rfl)) (fun j1 n1 v1 h => ?_) (fun v2 s h hs => ?_)
 ·unfold DU at h
  refine wp rfl (qw 2 rfl ?_)
  refine BD h fun v3 a3 b3 h => qi H0 MK a3 (Af b3) rfl (qg SI rfl (qk BY rfl (EI rfl (Ab ?_))))
  refine A8 h (fun h => ?_) fun h => ?_
  ·refine Ai (AH (wq rfl (qw 2 rfl ?_)))
   refine BD h fun v5 a5 b5 h => qi H0 MK a5 (Af b5) rfl (qg WO rfl (qK JY E7 rfl (Dg ET E7 KD rfl (qm rfl ?_))))
   refine FL h fun c6 h => Ce (f := AA) ET ET E7 QG KD c6 rfl (qa rfl (Ab (Ah Aw rfl (qw 2 rfl ?_))))
   refine BD h fun v7 a7 b7 h => qi H0 MK a7 (Af b7) rfl (qg SI rfl (qk BY rfl (qe rfl ?_)))
   exact sn [(2001, 19)] h
  ·refine AR ?_
   exact sn [(2002, 2001)] h
 ·refine Ae hs (wq rfl (qm rfl (qe rfl ?_)))
  obtain rfl := sj h
  refine Ae (sm [(1000, 2002)] [(4, oD (.own 1000))] [(1000, .vec 3 (v2.map AA))] rfl rfl) (Ar ?_)
  exact ⟨⟨[_], tm, rfl⟩, ⟨rfl, tv⟩⟩
theorem M2 (N : Nat) (p0 : Aa) (p1 : Ac) (r : (List Ad) × Int) (h : Ey N p0 p1 = some r) : Ao zA 76 [.e (.agg (Ag p0)), .e (.agg (AI p1))] [(3, r.1.map AA)] (.tup [.one (.own 0), .one (iC r.2)]) := by
 unfold Ey at h
 refine cw (n := 44) (rs := [.tmp 4, .tmp 5]) Tryz.func76 fun w0 S0 => ?_
 refine wq rfl (qb rfl (qb rfl (qa rfl (qa rfl (Ab (wp rfl (qL Co BN rfl (qL B2 A3 rfl ?_))))))))
 refine BG h fun v1 a1 h => Av [] (Hw N p0 p1 v1 a1) aF rfl (qa rfl (Ab (wq rfl (qm rfl (Bo rfl (Ab ?_))))))
 refine A8 h (fun h => ?_) fun h => ?_
 ·refine wq rfl (qm rfl (qa rfl (qe rfl ?_)))
  obtain rfl := sj h
  refine Ae ((AT 4 2001 3 rfl rfl rfl).trans (sm [(1000, 2001)] [(4, oD (.own 1000)), (5, iD v1)] [(1000, .vec 3 ((([] : List Ad)).map AA))] rfl rfl)) (Ar ?_)
  exact ⟨⟨[_, _], ⟨.tmp _ _ rfl, tm⟩, rfl⟩, ⟨rfl, tv⟩⟩
 ·refine Ai (wp rfl (qL Co BN rfl (qL B2 A3 rfl ?_)))
  refine BG h fun v3 a3 h => Av [] (GG N p0 p1 v3 a3) aL rfl (CA rfl (Ab ?_))
  refine A8 h (fun h => ?_) fun h => ?_
  ·refine wq rfl (qa rfl (qe rfl ?_))
   obtain rfl := sj h
   refine Ae ((AT 4 2002 3 rfl rfl rfl).trans (sm [(1000, 2002)] [(4, oD (.own 1000)), (5, iD 13)] [(1000, .vec 3 ((([] : List Ad)).map AA))] rfl rfl)) (Ar ?_)
   exact ⟨⟨[_, _], ⟨.tmp _ _ rfl, tm⟩, rfl⟩, ⟨rfl, tv⟩⟩
  ·refine Ai (wq rfl (qL Co BN rfl (qL B2 A3 rfl ?_)))
   refine BG h fun v5 a5 h => Av [2003] (Jg N p0 p1 20000 v5 a5) dn rfl (qm rfl (qx rfl (qx rfl (qa rfl (qa rfl (Ab (wp rfl (qm rfl (CA rfl (Ab ?_))))))))))
   refine A8 h (fun h => ?_) fun h => ?_
   ·refine wq rfl (qa rfl (qe rfl ?_))
    obtain rfl := sj h
    refine Ae ((AT 4 2004 3 rfl rfl rfl).trans (sm [(1000, 2004)] [(4, oD (.own 1000)), (5, iD 3)] [(1000, .vec 3 ((([] : List Ad)).map AA))] rfl rfl)) (Ar ?_)
    exact ⟨⟨[_, _], ⟨.tmp _ _ rfl, tm⟩, rfl⟩, ⟨rfl, tv⟩⟩
   ·refine Ai (wp rfl (qe rfl ?_))
    refine AC (L := Cr N p0 v5) h (fun v7 => mk [(2, oD (.ptr 2 0)), (7, oD (.own 2005)), (9, iD v7)] [(2, .box (Ag p0)), (2005, .vec 7 (v5.1.map BI))]) (fun v8 => mk [] []) (fun _ _ => rfl) (sm [(2005, 2003)] _ _ rfl rfl) (fun j7 n7 v7 h => ?_) (fun v8 s h hs => ?_)
    ·unfold Cr at h
     refine wp rfl (qw 2 rfl (D6 H0 rfl (AV rfl (Ab ?_))))
     refine A8 h (fun h => ?_) fun h => ?_
     ·refine Ai (AL (AH (wq rfl (qL Co BN rfl (qw 2 rfl ?_)))))
      refine BD h fun v10 a10 b10 h => qI H0 MK a10 (Af b10) rfl (qh NS rfl ?_)
      refine Pl (.p rfl) rfl B2 A3 rfl (Af b10) rfl rfl (by decide) ?_
      refine BG h fun v11 a11 h => Av [] (M4 N p0 ((Ac.mk v10.fv.fe v10.fv.fc v10.fv.ff)) v11 a11) eo rfl (AM (by kernel_rfl) ?_)
      refine A8 h (fun h => ?_) fun h => ?_
      ·refine wq rfl (qw 2 rfl ?_)
       refine BG h fun v13 a13 h => Du [2006] [2005] (N0 N v5.1 v7 v13 a13) bE (Hc (fun _ => rfl) B4) rfl (qa rfl (qe rfl ?_))
       obtain rfl := sj h
       refine Ae (sm [(1000, 2006)] [(4, oD (.own 1000)), (5, iD 0)] [(1000, .vec 3 (v13.map AA))] rfl rfl) (Ar ?_)
       exact ⟨⟨[_, _], ⟨.tmp _ _ rfl, tm⟩, rfl⟩, ⟨rfl, tv⟩⟩
      ·refine Ai (Ah Aw rfl (qm rfl (AW rfl (qe rfl ?_))))
       exact sn [] h
     ·refine AR ?_
      exact sn [] h
    ·refine Ae hs (wq rfl (qa rfl (qe rfl ?_)))
     obtain rfl := sj h
     refine Ae ((AT 4 2007 3 rfl rfl rfl).trans (sm [(1000, 2007)] [(4, oD (.own 1000)), (5, iD 14)] [(1000, .vec 3 ((([] : List Ad)).map AA))] rfl rfl)) (Ar ?_)
     exact ⟨⟨[_, _], ⟨.tmp _ _ rfl, tm⟩, rfl⟩, ⟨rfl, tv⟩⟩
theorem MT (N : Nat) (p0 : Aa) (r : (List Ad) × Int) (h : Fm N p0 = some r) : Ao zA 41 [.e (.agg (Ag p0))] [(3, r.1.map AA)] (.tup [.one (.own 0), .one (iC r.2)]) := by
 unfold Fm at h
 refine cw (n := 19) (rs := [.tmp 2, .tmp 3]) Tryz.func41 fun w0 S0 => ?_
 refine wq rfl (qb rfl (qa rfl (qa rfl (Ab (wq rfl (qL Co BN rfl ?_))))))
 refine BG h fun v1 a1 h => Av [2001, 2002, 2003] (Jq N p0 v1 a1) bv rfl (qm rfl (qx rfl (qx rfl (qz EO rfl (qs A3 rfl (qa rfl (Ab (wp rfl (qm rfl (Bo rfl (Ab ?_)))))))))))
 refine A8 h (fun h => ?_) fun h => ?_
 ·refine wq rfl (qm rfl (qa rfl (qe rfl ?_)))
  obtain rfl := sj h
  refine Ae ((AT 2 2004 3 rfl rfl rfl).trans (sm [(1000, 2004)] [(2, oD (.own 1000)), (3, iD v1.2)] [(1000, .vec 3 ((([] : List Ad)).map AA))] rfl rfl)) (Ar ?_)
  exact ⟨⟨[_, _], ⟨.tmp _ _ rfl, tm⟩, rfl⟩, ⟨rfl, tv⟩⟩
 ·refine Ai (wq rfl (qL Co BN rfl (qL B2 A3 rfl ?_)))
  refine BG h fun v3 a3 h => Du [2005] [2001, 2002, 2003] (M2 N p0 v1.1 v3 a3) eL (Hc (fun _ => rfl) B4) rfl (qx rfl (qx rfl (qa rfl (qe rfl ?_))))
  obtain rfl := sj h
  refine Ae (sm [(1000, 2005)] [(2, oD (.own 1000)), (3, iD v3.2)] [(1000, .vec 3 (v3.1.map AA))] rfl rfl) (Ar ?_)
  exact ⟨⟨[_, _], ⟨.tmp _ _ rfl, tm⟩, rfl⟩, ⟨rfl, tv⟩⟩
theorem LA (N : Nat) (p0 : Aa) (p1 : List Int) (r : Bool × Int) (h : DS N p0 p1 = some r) : Ao zA 14 [.e (.agg (Ag p0)), pD (.sl (p1.map Aj))] [] (.tup [.one (.pure (.val (.bool r.1))), .one (iC r.2)]) := by
 unfold DS at h
 refine cw (n := 27) (rs := [.tmp 4, .tmp 5]) Tryz.func14 fun w0 S0 => ?_
 refine wq rfl (qb rfl (qa rfl (qa rfl (Ab (wq rfl (qL Co BN rfl (qm rfl ?_)))))))
 refine BG h fun v1 a1 h => Av [2001, 2002, 2003, 2004] (Ir N p0 p1 v1 a1) bR rfl (qm rfl (qx rfl (qx rfl (qz Kx rfl (qs BN rfl (qa rfl (Ab (wp rfl (qm rfl (Bo rfl (Ab ?_)))))))))))
 refine A8 h (fun h => ?_) fun h => ?_
 ·refine wq rfl (qm rfl (qa rfl (qe rfl ?_)))
  obtain rfl := sj h
  refine Ae (sm [] [(4, bD false), (5, iD v1.2)] [] rfl rfl) (Ar ?_)
  exact ⟨⟨[_, _], ⟨.tmp _ _ rfl, tm⟩, rfl⟩, tv⟩
 ·refine Ai (wq rfl (qL Co BN rfl ?_))
  refine BG h fun v3 a3 h => Du [2005] [2001, 2002, 2003, 2004] (MT N v1.1 v3 a3) eZ (Hc (fun _ => rfl) B4) rfl (qm rfl (qx rfl (qx rfl (qa rfl (Ab (wp rfl (qm rfl (B1 rfl (Ab ?_)))))))))
  refine A8 h (fun h => ?_) fun h => ?_
  ·refine wq rfl (qm rfl (qa rfl (qe rfl ?_)))
   obtain rfl := sj h
   refine Ae (sm [] [(4, bD false), (5, iD v3.2)] [] rfl rfl) (Ar ?_)
   exact ⟨⟨[_, _], ⟨.tmp _ _ rfl, tm⟩, rfl⟩, tv⟩
  ·refine Ai (wq rfl (qm rfl (Bo rfl (qa rfl (qe rfl ?_)))))
   obtain rfl := sj h
   refine Ae (sm [] [(4, bD ((v3.2 != 0))), (5, iD 0)] [] rfl rfl) (Ar ?_)
   exact ⟨⟨[_, _], ⟨.tmp _ _ rfl, tm⟩, rfl⟩, tv⟩
theorem Lc (N : Nat) (p0 : Aa) (r : (List (List Int)) × (List Bool) × Int) (h : Dr N p0 = some r) : Ao zA 49 [.e (.agg (Ag p0))] [(1, r.1.map (ED Aj)), (1, r.2.1.map eB)] (.tup [.one (.own 0), .one (.own 1), .one (iC r.2.2)]) := by
 unfold Dr at h
 refine cw (n := 44) (rs := [.tmp 2, .tmp 3, .tmp 4]) Tryz.func49 fun w0 S0 => ?_
 refine wq rfl (qb rfl (qa rfl (qa rfl (qa rfl (Ab (wp rfl (qL Co BN rfl ?_)))))))
 refine BG h fun v1 a1 h => Av [] (DC N p0 v1 a1) W9 rfl (qa rfl (Ab (wq rfl (qm rfl (Bo rfl (Ab ?_))))))
 refine A8 h (fun h => ?_) fun h => ?_
 ·refine wq rfl (qm rfl (qa rfl (qa rfl (qe rfl ?_))))
  obtain rfl := sj h
  refine Ae ((AT 2 2001 1 rfl rfl rfl).trans ((AT 3 2002 1 rfl rfl rfl).trans (sm [(1000, 2001), (1001, 2002)] [(2, oD (.own 1000)), (3, oD (.own 1001)), (4, iD v1)] [(1000, .vec 1 ((([] : List (List Int))).map (ED Aj))), (1001, .vec 1 ((([] : List Bool)).map eB))] rfl rfl))) (Ar ?_)
  exact ⟨⟨[_, _, _], ⟨.tmp _ _ rfl, ⟨.tmp _ _ rfl, tm⟩⟩, rfl⟩, ⟨rfl, rfl, tv⟩⟩
 ·refine Ai (wq rfl (qf A5 rfl (ql A0 rfl (AJ As rfl ?_))))
  refine BG h fun v3 a3 h => Av [2003] (J1 N ((p0.fb.length : Int)) v3 a3) cN rfl (qa rfl (Ab (wq rfl (qa rfl (Ab (wp rfl (qe rfl ?_)))))))
  refine AC (L := CN N p0 v3) h (fun v4 => mk [(1, oD (.ptr 1 0)), (6, oD (.own 2004)), (7, oD (.own 2005)), (8, iD v4.2)] [(1, .box (Ag p0)), (2004, .vec 1 (v3.map (ED Aj))), (2005, .vec 1 (v4.1.map eB))]) (fun v5 => mk [(6, oD (.own 2006)), (7, oD (.own 2007))] [(2006, .vec 1 (v3.map (ED Aj))), (2007, .vec 1 (v5.map eB))]) (fun _ _ => rfl) ((AT 7 2010 1 rfl rfl rfl).trans (sm [(2004, 2003), (2005, 2010)] _ _ rfl rfl)) (fun j4 n4 v4 h => ?_) (fun v5 s h hs => ?_)
  ·unfold CN at h
   refine wp rfl (qw 2 rfl (D6 EB rfl (AV rfl (Ab ?_))))
   refine A8 h (fun h => ?_) fun h => ?_
   ·refine Ai (AL (AH (wq rfl (qL Co BN rfl (qw 2 rfl ?_)))))
    refine BD h fun v7 a7 b7 h => qI EB GT a7 (Af b7) rfl (qj A0 (Af b7) rfl ?_)
    refine BG h fun v8 a8 h => Av [] (LA N p0 v7 v8 a8) ey rfl (qm rfl (qx rfl (qx rfl (qa rfl (qa rfl (AM (by kernel_rfl) (wp rfl (qm rfl (Bo rfl (Ab ?_))))))))))
    refine A8 h (fun h => ?_) fun h => ?_
    ·refine wq rfl (qm rfl (qa rfl (qa rfl (qe rfl ?_))))
     obtain rfl := sj h
     refine Ae ((AT 2 2008 1 rfl rfl rfl).trans ((AT 3 2009 1 rfl rfl rfl).trans (sm [(1000, 2008), (1001, 2009)] [(2, oD (.own 1000)), (3, oD (.own 1001)), (4, iD v8.2)] [(1000, .vec 1 ((([] : List (List Int))).map (ED Aj))), (1001, .vec 1 ((([] : List Bool)).map eB))] rfl rfl))) (Ar ?_)
     exact ⟨⟨[_, _, _], ⟨.tmp _ _ rfl, ⟨.tmp _ _ rfl, tm⟩⟩, rfl⟩, ⟨rfl, rfl, tv⟩⟩
    ·refine Ai (Ah Aw rfl (qw 2 rfl (Dg ES Oq Sn rfl ?_)))
     refine FL h fun c10 h => Ce (f := eB) ES ES Oq VV Sn c10 rfl (qa rfl (Ab (Ah Aw rfl (qm rfl (AW rfl (qe rfl ?_))))))
     exact sn [(2005, 41)] h
   ·refine AR ?_
    exact sn [(2006, 2004), (2007, 2005)] h
  ·refine Ae hs (wq rfl (qw 2 rfl (qa rfl (qa rfl (qe rfl ?_)))))
   obtain rfl := sj h
   refine Ae (sm [(1000, 2006), (1001, 2007)] [(2, oD (.own 1000)), (3, oD (.own 1001)), (4, iD 0)] [(1000, .vec 1 (v3.map (ED Aj))), (1001, .vec 1 (v5.map eB))] rfl rfl) (Ar ?_)
   exact ⟨⟨[_, _, _], ⟨.tmp _ _ rfl, ⟨.tmp _ _ rfl, tm⟩⟩, rfl⟩, ⟨rfl, rfl, tv⟩⟩
theorem I2 (N : Nat) (p0 : List Int) (p1 : List Int) (r : Bool) (h : EE N p0 p1 = some r) : Ao zA 19 [pD (.sl (p0.map Aj)), pD (.sl (p1.map Aj))] [] (bD r) := by
 unfold EE at h
 refine cw (n := 34) (rs := [.tmp 4]) Tryz.func19 fun w0 S0 => ?_
 refine wq rfl (qa rfl (Ab (wp rfl (qe rfl ?_))))
 refine AC (L := EV N p0 p1) h (fun v1 => mk [(0, pD (.sl (p0.map Aj))), (1, pD (.sl (p1.map Aj))), (5, iD v1)] []) (fun v2 => mk [] []) (fun _ _ => rfl) (sm [] _ _ rfl rfl) (fun j1 n1 v1 h => ?_) (fun v2 s h hs => ?_)
 ·unfold EV at h
  refine wp rfl (qw 2 rfl (AJ As rfl (AV rfl (Ab ?_))))
  refine A8 h (fun h => ?_) fun h => ?_
  ·refine Ai (AL (AH (wq rfl (qa rfl (Ab (wp rfl (qe rfl ?_)))))))
   refine AC (L := EX N p0 p1 v1) h (fun v4 => mk [(0, pD (.sl (p0.map Aj))), (1, pD (.sl (p1.map Aj))), (5, iD v1), (6, bD v4.1), (7, iD v4.2)] []) (fun v5 => mk [(0, pD (.sl (p0.map Aj))), (1, pD (.sl (p1.map Aj))), (5, iD v1), (6, bD v5)] []) (fun _ _ => rfl) (sm [] _ _ rfl rfl) (fun j4 n4 v4 h => ?_) (fun v5 s h hs => ?_)
   ·unfold EX at h
    refine wp rfl (qw 2 rfl (AJ As rfl (AV rfl (Ab ?_))))
    refine A8 h (fun h => ?_) fun h => ?_
    ·refine Ai ?_
     refine AS h (fun v7 => mk [(0, pD (.sl (p0.map Aj))), (1, pD (.sl (p1.map Aj))), (5, iD v1), (6, bD v7), (7, iD v4.2)] []) (fun j7 h => ?_) (fun v7 h => ?_)
     ·refine AH (Ah Aw rfl (qw 2 rfl ?_))
      refine Eu 21 h rfl (fun h => ?_) fun h => ?_
      ·refine qw 9 rfl (qp rfl (qa rfl (AM (by kernel_rfl) ?_)))
       exact sn [] h
      ·refine qw 2 rfl ?_
       refine BD h fun v9 a9 b9 h => qi As Cp a9 (Af b9) rfl (qk BY rfl (qw 2 rfl ?_))
       refine BD h fun v10 a10 b10 h => qi As Cp a10 (Af b10) rfl (qk BY rfl (B1 rfl (qp rfl (qa rfl (AM (by kernel_rfl) ?_)))))
       exact sn [] h
     ·refine Ah Aw rfl (qm rfl (AW rfl (qe rfl ?_)))
      exact sn [] h
    ·refine AR ?_
     exact sn [] h
   ·refine Ae hs (wq rfl (qm rfl (CA rfl (Ab ?_))))
    refine A8 h (fun h => ?_) fun h => ?_
    ·refine wq rfl (qe rfl ?_)
     obtain rfl := sj h
     refine Ae (sm [] [(4, bD false)] [] rfl rfl) (Ar ?_)
     exact ⟨⟨[_], tm, rfl⟩, tv⟩
    ·refine Ai (Ah Aw rfl (qm rfl (AW rfl (qe rfl ?_))))
     exact sn [] h
  ·refine AR ?_
   exact sn [] h
 ·refine Ae hs (wq rfl (qe rfl ?_))
  obtain rfl := sj h
  refine Ae (sm [] [(4, bD true)] [] rfl rfl) (Ar ?_)
  exact ⟨⟨[_], tm, rfl⟩, tv⟩
theorem Ii (N : Nat) (p0 : Aa) (r : (List (List Int)) × Int) (h : C8 N p0 = some r) : Ao zA 20 [.e (.agg (Ag p0))] [(1, r.1.map (ED Aj))] (.tup [.one (.own 0), .one (iC r.2)]) := by
 unfold C8 at h
 refine cw (n := 63) (rs := [.tmp 2, .tmp 3]) Tryz.func20 fun w0 S0 => ?_
 refine wq rfl (qb rfl (qa rfl (qa rfl (Ab (wq rfl (qL Co BN rfl ?_))))))
 refine BG h fun v1 a1 h => Av [2001, 2002] (Lc N p0 v1 a1) dP rfl (qm rfl (qx rfl (qx rfl (qx rfl (qa rfl (qa rfl (qa rfl (Ab (wq rfl (qa rfl (Ab (wp rfl (qe rfl ?_)))))))))))))
 refine AC (L := EJ N v1) h (fun v2 => mk [(4, oD (.own 2003)), (5, oD (.own 2004)), (6, iD v1.2.2), (7, oD (.own 2005)), (8, iD v2.2)] [(2003, .vec 1 (v1.1.map (ED Aj))), (2004, .vec 1 (v1.2.1.map eB)), (2005, .vec 1 (v2.1.map (ED Aj)))]) (fun v3 => mk [(6, iD v1.2.2), (7, oD (.own 2006))] [(2006, .vec 1 (v3.map (ED Aj)))]) (fun _ _ => rfl) ((AT 7 2022 1 rfl rfl rfl).trans (sm [(2003, 2001), (2004, 2002), (2005, 2022)] _ _ rfl rfl)) (fun j2 n2 v2 h => ?_) (fun v3 s h hs => ?_)
 ·unfold EJ at h
  refine wp rfl (qw 2 rfl (D6 EB rfl (AV rfl (Ab ?_))))
  refine A8 h (fun h => ?_) fun h => ?_
  ·refine Ai ?_
   refine AS h (fun v5 => mk [(4, oD (.own 2007)), (5, oD (.own 2008)), (6, iD v1.2.2), (7, oD (.own 2009)), (8, iD v2.2)] [(2007, .vec 1 (v1.1.map (ED Aj))), (2008, .vec 1 (v1.2.1.map eB)), (2009, .vec 1 (v5.map (ED Aj)))]) (fun j5 h => ?_) (fun v5 h => ?_)
   ·refine AH (wq rfl (qw 2 rfl ?_))
    refine BD h fun v6 a6 b6 h => qI ES Oq a6 (Af b6) rfl (qj Sm (Af b6) rfl (qa rfl (Ab (wp rfl (qe rfl ?_)))))
    refine AC (L := FH N v1 v2) h (fun v7 => mk [(4, oD (.own 2010)), (5, oD (.own 2011)), (6, iD v1.2.2), (7, oD (.own 2012)), (8, iD v2.2), (9, bD v7.1), (10, iD v7.2)] [(2010, .vec 1 (v1.1.map (ED Aj))), (2011, .vec 1 (v1.2.1.map eB)), (2012, .vec 1 (v2.1.map (ED Aj)))]) (fun v8 => mk [(4, oD (.own 2013)), (5, oD (.own 2014)), (6, iD v1.2.2), (7, oD (.own 2015)), (8, iD v2.2), (9, bD v8)] [(2013, .vec 1 (v1.1.map (ED Aj))), (2014, .vec 1 (v1.2.1.map eB)), (2015, .vec 1 (v2.1.map (ED Aj)))]) (fun _ _ => rfl) (sm [(2010, 2003), (2011, 2004), (2012, 2005)] _ _ rfl rfl) (fun j7 n7 v7 h => ?_) (fun v8 s h hs => ?_)
    ·unfold FH at h
     refine wp rfl (qw 2 rfl (D6 EB rfl (AV rfl (Ab ?_))))
     refine A8 h (fun h => ?_) fun h => ?_
     ·refine Ai ?_
      refine AS h (fun v10 => mk [(4, oD (.own 2016)), (5, oD (.own 2017)), (6, iD v1.2.2), (7, oD (.own 2018)), (8, iD v2.2), (9, bD v10), (10, iD v7.2)] [(2016, .vec 1 (v1.1.map (ED Aj))), (2017, .vec 1 (v1.2.1.map eB)), (2018, .vec 1 (v2.1.map (ED Aj)))]) (fun j10 h => ?_) (fun v10 h => ?_)
      ·refine AH ?_
       refine AS h (fun v11 => mk [(4, oD (.own 2019)), (5, oD (.own 2020)), (6, iD v1.2.2), (7, oD (.own 2021)), (8, iD v2.2), (9, bD v7.1), (10, iD v7.2), (52, bD v11)] [(2019, .vec 1 (v1.1.map (ED Aj))), (2020, .vec 1 (v1.2.1.map eB)), (2021, .vec 1 (v2.1.map (ED Aj)))]) (fun j11 h => ?_) (fun v11 h => ?_)
       ·refine Ah Aw rfl (qw 2 rfl ?_)
        refine BD h fun v12 a12 b12 h => qI ES Oq a12 (Af b12) rfl (qj Sm (Af b12) rfl (qm rfl ?_))
        refine Eu 37 h rfl (fun h => ?_) fun h => ?_
        ·refine qw 2 rfl (Bo rfl (qp rfl (qm rfl ?_)))
         refine Eu 42 h rfl (fun h => ?_) fun h => ?_
         ·refine qw 2 rfl ?_
          refine BD h fun v15 a15 b15 h => qI EB GT a15 (Af b15) rfl (qj A0 (Af b15) rfl (qw 2 rfl ?_))
          refine BD h fun v16 a16 b16 h => qI EB GT a16 (Af b16) rfl (qj A0 (Af b16) rfl ?_)
          refine BG h fun v17 a17 h => Av [] (I2 N v15 v16 v17 a17) cO rfl (qp rfl (AM (by kernel_rfl) ?_))
          exact sn [(2019, 2010), (2020, 2011), (2021, 2012)] h
         ·refine qw 9 rfl (qp rfl (AM (by kernel_rfl) ?_))
          exact sn [(2019, 2010), (2020, 2011), (2021, 2012)] h
        ·refine qw 3 rfl (qp rfl (qw 10 rfl (qp rfl (AM (by kernel_rfl) ?_))))
         exact sn [(2019, 2010), (2020, 2011), (2021, 2012)] h
       ·refine A8 h (fun h => ?_) fun h => ?_
        ·refine Ah Aw rfl (qe rfl ?_)
         exact sn [(2016, 2019), (2017, 2020), (2018, 2021)] h
        ·refine Ai ?_
         exact sn [(2016, 2019), (2017, 2020), (2018, 2021)] h
      ·refine Ah Aw rfl (qm rfl (AW rfl (qe rfl ?_)))
       exact sn [(2010, 2016), (2011, 2017), (2012, 2018)] h
     ·refine AR ?_
      exact sn [(2013, 2010), (2014, 2011), (2015, 2012)] h
    ·refine Ae hs (wq rfl (qm rfl (Ab ?_)))
     refine A8 h (fun h => ?_) fun h => ?_
     ·refine Ah Aw rfl (qw 3 rfl ?_)
      refine BD h fun v20 a20 b20 h => qI EB GT a20 (Af b20) rfl (qj A0 (Af b20) rfl (Dg EB GT SB rfl ?_))
      refine FL h fun c21 h => Ce (f := (ED Aj)) EB EB GT WX SB c21 rfl (qe rfl ?_)
      exact sn [(2007, 2013), (2008, 2014), (2009, 60)] h
     ·refine Ai ?_
      exact sn [(2007, 2013), (2008, 2014), (2009, 2015)] h
   ·refine Ah Aw rfl (qm rfl (AW rfl (qe rfl ?_)))
    exact sn [(2003, 2007), (2004, 2008), (2005, 2009)] h
  ·refine AR ?_
   exact sn [(2006, 2005)] h
 ·refine Ae hs (wq rfl (qw 2 rfl (qa rfl (qe rfl ?_))))
  obtain rfl := sj h
  refine Ae (sm [(1000, 2006)] [(2, oD (.own 1000)), (3, iD v1.2.2)] [(1000, .vec 1 (v3.map (ED Aj)))] rfl rfl) (Ar ?_)
  exact ⟨⟨[_, _], ⟨.tmp _ _ rfl, tm⟩, rfl⟩, ⟨rfl, tv⟩⟩
theorem RS (N : Nat) (p0 : Aa) (r : (List Int) × Int) (h : GV N p0 = some r) : Ao zA 21 [.e (.agg (Ag p0))] [] (.tup [.one (sC (r.1.map Aj)), .one (iC r.2)]) := by
 unfold GV at h
 refine cw (n := 22) (rs := [.tmp 2, .tmp 3]) Tryz.func21 fun w0 S0 => ?_
 refine wq rfl (qb rfl (qa rfl (qa rfl (Ab (wq rfl (qL Co BN rfl ?_))))))
 refine BG h fun v1 a1 h => Av [2001] (M5 N p0 v1 a1) ad rfl (qm rfl (qx rfl (qx rfl (qa rfl (qa rfl (Ab (AL (AH (wq rfl (qm rfl (Bo rfl (qe rfl ?_))))))))))))
 refine A8 h (fun h => ?_) fun h => ?_
 ·refine wq rfl (qm rfl (qa rfl (qe rfl ?_)))
  obtain rfl := sj h
  refine Ae ((JS 2 _ rfl).trans (sm [] [(2, pD (.sl ((([] : List Int)).map Aj))), (3, iD v1.2)] [] rfl rfl)) (Ar ?_)
  exact ⟨⟨[_, _], ⟨.tmp _ _ rfl, tm⟩, rfl⟩, tv⟩
 ·refine wq rfl (qm rfl (D6 EB rfl (B1 rfl (qe rfl ?_))))
  refine A8 h (fun h => ?_) fun h => ?_
  ·refine wq rfl (qa rfl (qe rfl ?_))
   obtain rfl := sj h
   refine Ae ((JS 2 _ rfl).trans (sm [] [(2, pD (.sl ((([] : List Int)).map Aj))), (3, iD 15)] [] rfl rfl)) (Ar ?_)
   exact ⟨⟨[_, _], ⟨.tmp _ _ rfl, tm⟩, rfl⟩, tv⟩
  ·refine Ai (wq rfl (qm rfl ?_))
   refine BD h fun v4 a4 b4 h => qI EB GT a4 (Af b4) rfl (qj A0 (Af b4) rfl (qa rfl (qe rfl ?_)))
   obtain rfl := sj h
   refine Ae (sm [] [(2, pD (.sl (v4.map Aj))), (3, iD 0)] [] rfl rfl) (Ar ?_)
   exact ⟨⟨[_, _], ⟨.tmp _ _ rfl, tm⟩, rfl⟩, tv⟩
theorem Mm (N : Nat) (p0 : Aa) (r : (List Int) × Int) (h : Ei N p0 = some r) : Ao zA 22 [.e (.agg (Ag p0))] [] (.tup [.one (sC (r.1.map Aj)), .one (iC r.2)]) := by
 unfold Ei at h
 refine cw (n := 20) (rs := [.tmp 2, .tmp 3]) Tryz.func22 fun w0 S0 => ?_
 refine wq rfl (qb rfl (qa rfl (qa rfl (Ab (wq rfl (qL Co BN rfl ?_))))))
 refine BG h fun v1 a1 h => Av [2001] (Ii N p0 v1 a1) aG rfl (qm rfl (qx rfl (qx rfl (qa rfl (qa rfl (Ab (wp rfl (qm rfl (Bo rfl (Ab ?_))))))))))
 refine A8 h (fun h => ?_) fun h => ?_
 ·refine wq rfl (qm rfl (qa rfl (qe rfl ?_)))
  obtain rfl := sj h
  refine Ae ((JS 2 _ rfl).trans (sm [] [(2, pD (.sl ((([] : List Int)).map Aj))), (3, iD v1.2)] [] rfl rfl)) (Ar ?_)
  exact ⟨⟨[_, _], ⟨.tmp _ _ rfl, tm⟩, rfl⟩, tv⟩
 ·refine Ai (wp rfl (qm rfl (D6 EB rfl (B1 rfl (Ab ?_)))))
  refine A8 h (fun h => ?_) fun h => ?_
  ·refine wq rfl (qa rfl (qe rfl ?_))
   obtain rfl := sj h
   refine Ae ((JS 2 _ rfl).trans (sm [] [(2, pD (.sl ((([] : List Int)).map Aj))), (3, iD 15)] [] rfl rfl)) (Ar ?_)
   exact ⟨⟨[_, _], ⟨.tmp _ _ rfl, tm⟩, rfl⟩, tv⟩
  ·refine Ai (wq rfl (qm rfl ?_))
   refine BD h fun v4 a4 b4 h => qI EB GT a4 (Af b4) rfl (qj A0 (Af b4) rfl (qa rfl (qe rfl ?_)))
   obtain rfl := sj h
   refine Ae (sm [] [(2, pD (.sl (v4.map Aj))), (3, iD 0)] [] rfl rfl) (Ar ?_)
   exact ⟨⟨[_, _], ⟨.tmp _ _ rfl, tm⟩, rfl⟩, tv⟩
theorem ON (N : Nat) (p0 : Aa) (r : (List Int) × Int) (h : Fu N p0 = some r) : Ao zA 23 [.e (.agg (Ag p0))] [(1, r.1.map Aj)] (.tup [.one (.own 0), .one (iC r.2)]) := by
 unfold Fu at h
 refine cw (n := 33) (rs := [.tmp 2, .tmp 3]) Tryz.func23 fun w0 S0 => ?_
 refine wq rfl (qb rfl (qa rfl (qa rfl (Ab (wq rfl (qL Co BN rfl ?_))))))
 refine BG h fun v1 a1 h => Av [2001] (Ld N p0 v1 a1) ap rfl (qm rfl (qx rfl (qx rfl (qx rfl (qa rfl (qa rfl (qa rfl (Ab (wp rfl (qm rfl (Bo rfl (Ab ?_))))))))))))
 refine A8 h (fun h => ?_) fun h => ?_
 ·refine wq rfl (qm rfl (qa rfl (qe rfl ?_)))
  obtain rfl := sj h
  refine Ae ((AT 2 2002 1 rfl rfl rfl).trans (sm [(1000, 2002)] [(2, oD (.own 1000)), (3, iD v1.2.2)] [(1000, .vec 1 ((([] : List Int)).map Aj))] rfl rfl)) (Ar ?_)
  exact ⟨⟨[_, _], ⟨.tmp _ _ rfl, tm⟩, rfl⟩, ⟨rfl, tv⟩⟩
 ·refine Ai (wq rfl (qa rfl (Ab (wp rfl (qw 2 rfl ?_)))))
  refine BG h fun v3 a3 h => Du [2003] [2001] (LO N v1.1 v1.2.1 v3 a3) du (Hc (fun _ => rfl) B4) rfl (D6 Gn rfl (qm rfl (Ab ?_)))
  refine AC (L := Fn N v3) h (fun v4 => mk [(7, pD (.val (.int .u64 v4.1))), (21, oD (.own 2004)), (22, iD ((v3.length : Int))), (23, iD v4.2)] [(2004, .vec 1 (v3.map DL))]) (fun v5 => mk [(7, pD (.val (.int .u64 v5)))] []) (fun _ _ => rfl) (sm [(2004, 2003)] _ _ rfl rfl) (fun j4 n4 v4 h => ?_) (fun v5 s h hs => ?_)
  ·unfold Fn at h
   refine wq rfl (AV rfl (Ab (AL ?_)))
   refine A8 h (fun h => ?_) fun h => ?_
   ·refine Ai (AL (AH (wq rfl ?_)))
    refine BD h fun v7 a7 b7 h => qI Gn LS a7 (Af b7) rfl (qj OL (Af b7) rfl (qa rfl (Ab (Ah Aw rfl (qw 2 rfl (VG rfl (qa rfl (Ab (Ah Aw rfl (AW rfl (qm rfl (Ab ?_))))))))))))
    exact sn [] h
   ·refine AR ?_
    exact sn [] h
  ·refine Ae hs (wq rfl (qm rfl ?_))
   refine BG h fun v8 a8 h => Av [2005] (G8 N v5 v8 a8) Wy rfl (qa rfl (qe rfl ?_))
   obtain rfl := sj h
   refine Ae (sm [(1000, 2005)] [(2, oD (.own 1000)), (3, iD 0)] [(1000, .vec 1 (v8.map Aj))] rfl rfl) (Ar ?_)
   exact ⟨⟨[_, _], ⟨.tmp _ _ rfl, tm⟩, rfl⟩, ⟨rfl, tv⟩⟩
theorem K2 (N : Nat) (p0 : Aa) (r : (List Int) × Int) (h : Dt N p0 = some r) : Ao zA 24 [.e (.agg (Ag p0))] [(1, r.1.map Aj)] (.tup [.one (.own 0), .one (iC r.2)]) := by
 unfold Dt at h
 refine cw (n := 44) (rs := [.tmp 2, .tmp 3]) Tryz.func24 fun w0 S0 => ?_
 refine wq rfl (qb rfl (qa rfl (qa rfl (Ab (wq rfl (qL Co BN rfl ?_))))))
 refine BG h fun v1 a1 h => Av [2001] (Ii N p0 v1 a1) aG rfl (qm rfl (qx rfl (qx rfl (qa rfl (qa rfl (Ab (wq rfl (qa rfl (Ab (wp rfl (qe rfl ?_)))))))))))
 refine AC (L := A9 N p0 v1) h (fun v2 => mk [(1, oD (.ptr 1 0)), (4, oD (.own 2002)), (5, iD v1.2), (6, oD (.own 2003)), (7, iD v2.2)] [(1, .box (Ag p0)), (2002, .vec 1 (v1.1.map (ED Aj))), (2003, .vec 1 (v2.1.map Aj))]) (fun v3 => mk [(5, iD v1.2), (6, oD (.own 2004))] [(2004, .vec 1 (v3.map Aj))]) (fun _ _ => rfl) ((AT 6 2011 1 rfl rfl rfl).trans (sm [(2002, 2001), (2003, 2011)] _ _ rfl rfl)) (fun j2 n2 v2 h => ?_) (fun v3 s h hs => ?_)
 ·unfold A9 at h
  refine AL ?_
  refine AS h (fun v4 => mk [(1, oD (.ptr 1 0)), (4, oD (.own 2005)), (5, iD v1.2), (6, oD (.own 2006)), (7, iD v2.2), (22, bD v4)] [(1, .box (Ag p0)), (2005, .vec 1 (v1.1.map (ED Aj))), (2006, .vec 1 (v2.1.map Aj))]) (fun j4 h => ?_) (fun v4 h => ?_)
  ·refine Ah Aw rfl (qm rfl (qf A5 rfl (ql A0 rfl (AJ As rfl (AV rfl (qm rfl ?_))))))
   refine Eu 19 h rfl (fun h => ?_) fun h => ?_
   ·refine qm rfl (B1 rfl (qp rfl (Ab ?_)))
    exact sn [(2005, 2002), (2006, 2003)] h
   ·refine qw 2 rfl (qp rfl (Ab ?_))
    exact sn [(2005, 2002), (2006, 2003)] h
  ·refine A8 h (fun h => ?_) fun h => ?_
   ·refine Ai (AL (AH (wq rfl (qe rfl ?_))))
    refine AC (L := Eo N v1 v2) h (fun v7 => mk [(1, oD (.ptr 1 0)), (4, oD (.own 2007)), (5, iD v1.2), (6, oD (.own 2008)), (7, iD v2.2), (8, iD v7)] [(1, .box (Ag p0)), (2007, .vec 1 (v1.1.map (ED Aj))), (2008, .vec 1 (v2.1.map Aj))]) (fun v8 => mk [(1, oD (.ptr 1 0)), (4, oD (.own 2009)), (5, iD v1.2), (6, oD (.own 2010)), (7, iD v2.2)] [(1, .box (Ag p0)), (2009, .vec 1 (v1.1.map (ED Aj))), (2010, .vec 1 (v8.map Aj))]) (fun _ _ => rfl) (sm [(2007, 2005), (2008, 2006)] _ _ rfl rfl) (fun j7 n7 v7 h => ?_) (fun v8 s h hs => ?_)
    ·unfold Eo at h
     refine wp rfl (qw 2 rfl (D6 EB rfl (AV rfl (Ab ?_))))
     refine A8 h (fun h => ?_) fun h => ?_
     ·refine Ai (AL (AH (wq rfl (qm rfl (Dg As Cp IM rfl (qw 2 rfl ?_))))))
      refine BD h fun v10 a10 b10 h => qI EB GT a10 (Af b10) rfl (qj A0 (Af b10) rfl ?_)
      refine BG h fun v11 a11 h => Du [] [32] (I2 N (([v2.2] : List Int)) v10 v11 a11) cO B4 rfl (Ab ?_)
      refine A8 h (fun h => ?_) fun h => ?_
      ·refine wq rfl (qw 2 rfl (Dg As Cp IM rfl ?_))
       refine FL h fun c13 h => Ce (f := Aj) As As Cp JN IM c13 rfl (qa rfl (Ab (AR ?_)))
       exact sn [(2009, 2007), (2010, 41)] h
      ·refine Ai (Ah Aw rfl (qm rfl (AW rfl (qe rfl ?_))))
       exact sn [] h
     ·refine AR ?_
      exact sn [(2009, 2007), (2010, 2008)] h
    ·refine Ae hs (Ah Aw rfl (qm rfl (AW rfl (qe rfl ?_))))
     exact sn [(2002, 2009), (2003, 2010)] h
   ·refine AR ?_
    exact sn [(2004, 2006)] h
 ·refine Ae hs (wq rfl (qw 2 rfl (qa rfl (qe rfl ?_))))
  obtain rfl := sj h
  refine Ae (sm [(1000, 2004)] [(2, oD (.own 1000)), (3, iD v1.2)] [(1000, .vec 1 (v3.map Aj))] rfl rfl) (Ar ?_)
  exact ⟨⟨[_, _], ⟨.tmp _ _ rfl, tm⟩, rfl⟩, ⟨rfl, tv⟩⟩
theorem Lw (N : Nat) (p0 : BJ) (r : Bool) (h : En N p0 = some r) : Ao zA 6 [.e (.agg (CX p0))] [] (bD r) := by
 unfold En at h
 refine cw (n := 87) (rs := [.tmp 2]) Tryz.func6 fun w0 S0 => ?_
 refine wq rfl (qb rfl (qa rfl (Ab (wq rfl (qL ce cz rfl ?_)))))
 refine BG h fun v1 a1 h => Av [2001, 2002, 2003, 2004] (Oi N p0 v1 a1) dF rfl (qm rfl (qx rfl (qx rfl (qz Kx rfl (qs BN rfl (qa rfl (Ab (AL ?_))))))))
 refine AS h (fun v2 => mk [(3, oD (.ptr 3 0)), (27, bD v2)] [(3, .box [.own 2005, .own 2006, .own 2007, .own 2008]), (2005, .vec 1 (v1.1.fb.map Aj)), (2006, .vec 1 (v1.1.fj.map Aj)), (2007, .vec 1 (v1.1.fo.map Aj)), (2008, .vec 6 (v1.1.fd.map AN))]) (fun j2 h => ?_) (fun v2 h => ?_)
 ·refine Ah Aw rfl ?_
  refine BG h fun v3 a3 h => Av [] (Jm N v3 a3) bz rfl (CA rfl (qm rfl ?_))
  refine Eu 24 h rfl (fun h => ?_) fun h => ?_
  ·refine qw 2 rfl (qp rfl (Ab ?_))
   exact sn [(2005, 2001), (2006, 2002), (2007, 2003), (2008, 2004)] h
  ·refine qm rfl (CA rfl (qp rfl (Ab ?_)))
   exact sn [(2005, 2001), (2006, 2002), (2007, 2003), (2008, 2004)] h
 ·refine A8 h (fun h => ?_) fun h => ?_
  ·refine wq rfl ?_
   refine BG h fun v6 a6 h => Av [] (Jm N v6 a6) bz rfl (qe rfl ?_)
   obtain rfl := sj h
   refine Ae (sm [] [(2, bD v6)] [] rfl rfl) (Ar ?_)
   exact ⟨⟨[_], tm, rfl⟩, tv⟩
  ·refine Ai (wq rfl (qL Co BN rfl (C0 (Bb 2005 _ _ rfl rfl) (C0 (Bb 2006 _ _ rfl rfl) (C0 (Bb 2007 _ _ rfl rfl) (C0 (Bb 2008 _ _ rfl rfl) ?_))))))
   refine BG h fun v7 a7 h => Av [2009] (M5 N v1.1 v7 a7) ad rfl (qm rfl (qx rfl (qx rfl (qa rfl (qa rfl (Ab (wq rfl (qL Co BN rfl ?_))))))))
   refine BG h fun v8 a8 h => Av [2010] (Ii N v1.1 v8 a8) aG rfl (qm rfl (qx rfl (qx rfl (qa rfl (qa rfl (Ab (wq rfl (qL Co BN rfl ?_))))))))
   refine BG h fun v9 a9 h => Av [] (RS N v1.1 v9 a9) eP rfl (qm rfl (qx rfl (qx rfl (qa rfl (qa rfl (Ab (wq rfl (qL Co BN rfl ?_))))))))
   refine BG h fun v10 a10 h => Av [] (Mm N v1.1 v10 a10) eY rfl (qm rfl (qx rfl (qx rfl (qa rfl (qa rfl (Ab (wq rfl (qL Co BN rfl ?_))))))))
   refine BG h fun v11 a11 h => Av [2011] (ON N v1.1 v11 a11) d6 rfl (qm rfl (qx rfl (qx rfl (qa rfl (qa rfl (Ab (wq rfl (qL Co BN rfl ?_))))))))
   refine BG h fun v12 a12 h => Av [2012] (K2 N v1.1 v12 a12) dS rfl (qm rfl (qx rfl (qx rfl (qa rfl (qe rfl ?_)))))
   refine AS h (fun v13 => mk [(2, bD v13)] []) (fun j13 h => ?_) (fun v13 h => ?_)
   ·refine Ah Aw rfl (qw 2 rfl (B1 rfl (qm rfl ?_)))
    refine Eu 62 h rfl (fun h => ?_) fun h => ?_
    ·refine qw 2 rfl (B1 rfl (qp rfl (qm rfl ?_)))
     refine Eu 67 h rfl (fun h => ?_) fun h => ?_
     ·refine qw 2 rfl (B1 rfl (qp rfl (qm rfl ?_)))
      refine Eu 72 h rfl (fun h => ?_) fun h => ?_
      ·refine qw 2 rfl ?_
       refine BG h fun v17 a17 h => Du [] [2009, 2010] (Hy N v7.1 v8.1 v17 a17) au B4 rfl (qp rfl (qm rfl ?_))
       refine Eu 77 h rfl (fun h => ?_) fun h => ?_
       ·refine qw 2 rfl ?_
        refine BG h fun v19 a19 h => Av [] (GI N v9.1 v10.1 v19 a19) ai rfl (qp rfl (qm rfl ?_))
        refine Eu 82 h rfl (fun h => ?_) fun h => ?_
        ·refine qw 2 rfl ?_
         refine BG h fun v21 a21 h => Du [] [2011, 2012] (GI N v11.1 v12.1 v21 a21) ai B4 rfl (qp rfl (qe rfl ?_))
         exact sn [] h
        ·refine qw 3 rfl (qp rfl (qe rfl ?_))
         exact sn [] h
       ·refine qw 3 rfl (qp rfl (qw 4 rfl (qp rfl (qe rfl ?_))))
        exact sn [] h
      ·refine qw 3 rfl (qp rfl (qw 4 rfl (qp rfl (qw 4 rfl (qp rfl (qe rfl ?_))))))
       exact sn [] h
     ·refine qw 3 rfl (qp rfl (qw 4 rfl (qp rfl (qw 4 rfl (qp rfl (qw 4 rfl (qp rfl (qe rfl ?_))))))))
      exact sn [] h
    ·refine qw 3 rfl (qp rfl (qw 4 rfl (qp rfl (qw 4 rfl (qp rfl (qw 4 rfl (qp rfl (qw 4 rfl (qp rfl (qe rfl ?_))))))))))
     exact sn [] h
   ·obtain rfl := sj h
    refine Ae (sm [] [(2, bD v13)] [] rfl rfl) (Ar ?_)
    exact ⟨⟨[_], tm, rfl⟩, tv⟩
end Go.Lift
