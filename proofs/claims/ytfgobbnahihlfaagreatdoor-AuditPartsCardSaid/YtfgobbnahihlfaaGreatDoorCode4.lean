/- Lemmas for AuditPartsCardSaid, which YtfgobbnahihlfaaGreatDoorFinA9 proves. -/
import Derived.Test.YtfgobbnahihlfaaGreatDoorCode2
open List renaming length_map → zY, map_eq_nil_iff → uF
open Go.Proofs.Tryz renaming prog → zA
namespace Go.Lift
set_option maxRecDepth 10000
open Go.RowKit
open Go.Proofs
theorem KG (N : Nat) (p0 : B3) (r : Bool) (h : Cs N p0 = some r) : Ar zA 12 [.e (.agg (FV p0))] [] (bD r) := by
 unfold Cs at h
 refine cw (n := 24) (rs := [.tmp 2]) Tryz.func12 fun w0 S0 => ?_
 refine wq rfl (qb rfl (qe rfl ?_))
 refine AM h (fun v1 => mk [(2, bD v1)] []) (fun j1 h => ?_) (fun v1 h => ?_)
 ·refine Aj Ax rfl (qf IM rfl (qL Dg Da rfl ?_))
  refine BS h fun v2 a2 h => Av [] (Kz N ((Aa.mk p0.fb.fc p0.fb.fj p0.fb.fq p0.fb.fd)) v2 a2) XN rfl (qm rfl ?_)
  refine Ce 6 h rfl (fun h => ?_) fun h => ?_
  ·refine qf Od rfl (ql Bm rfl (AK AG rfl (HI rfl (qp rfl (qm rfl ?_)))))
   refine Ce 12 h rfl (fun h => ?_) fun h => ?_
   ·refine qf KT rfl (ql PW rfl (AK G6 rfl (HI rfl (qp rfl (qm rfl ?_)))))
    refine Ce 18 h rfl (fun h => ?_) fun h => ?_
    ·refine qf Hw rfl (ql Ov rfl (AK DB rfl (HI rfl (qp rfl (qe rfl ?_)))))
     exact sn [] h
    ·refine qw 4 rfl (qp rfl (qe rfl ?_))
     exact sn [] h
   ·refine qw 4 rfl (qp rfl (qw 5 rfl (qp rfl (qe rfl ?_))))
    exact sn [] h
  ·refine qw 4 rfl (qp rfl (qw 5 rfl (qp rfl (qw 5 rfl (qp rfl (qe rfl ?_))))))
   exact sn [] h
 ·obtain rfl := sj h
  refine Ae (sm [] [(2, bD v1)] [] rfl rfl) (Aq ?_)
  exact ⟨⟨[_], tm, rfl⟩, tv⟩
theorem B9 (N : Nat) (p0 : List Ab) (r : (List Ab)) (h : AX N p0 = some r) : Ar zA 14 [pD (.sl (p0.map Aw))] [(11, r.map Aw)] (oD (.own 0)) := by
 unfold AX at h
 refine cw (n := 8) (rs := [.tmp 2]) Tryz.func14 fun w0 S0 => ?_
 refine wq rfl (qa rfl (Ac (wp rfl (qm rfl ?_))))
 refine Oe (.p rfl) rfl DB ?_
 refine Ac ?_
 refine Ol rfl (fun c2 => ?_) ?_
 ·have c2 := uF.1 c2
  rw [c2] at h
  have h : (some (([] : List Ab))) = some r := h
  refine wq rfl (qe rfl ?_)
  obtain rfl := sj h
  refine Ae ((FZ 2 2001 11 rfl rfl rfl).trans (sm [(1000, 2001)] [(2, oD (.own 1000))] [(1000, .vec 11 ((([] : List Ab)).map Aw))] rfl rfl)) (Aq ?_)
  exact ⟨⟨[_], tm, rfl⟩, ⟨rfl, tv⟩⟩
 ·refine Ap (wq rfl (F8 DB CG Jb rfl (qm rfl ?_)))
  refine Iq h fun c1 h => Li (f := Aw) DB DB CG Wj Jb (fun _ => rfl) c1 rfl (qe rfl ?_)
  obtain rfl := sj h
  refine Ae (sm [(1000, 7)] [(2, oD (.own 1000))] [(1000, .vec 11 (((([] : List Ab)) ++ p0).map Aw))] rfl rfl) (Aq ?_)
  exact ⟨⟨[_], tm, rfl⟩, ⟨rfl, tv⟩⟩
theorem LN (N : Nat) (p0 : Ab) (p1 : List Int) (p2 : List Int) (p3 : List Int) (p4 : List AL) (r : Bool) (h : Ee N p0 p1 p2 p3 p4 = some r) : Ar zA 61 [.e (.agg (AP p0)), oD (.rop [.sl (p1.map As), .sl (p2.map As), .sl (p3.map As), .sl (p4.map Bw)])] [] (bD r) := by
 unfold Ee at h
 refine cw (n := 13) (rs := [.tmp 3]) Tryz.func61 fun w0 S0 => ?_
 refine wq rfl (qb rfl (qe rfl ?_))
 refine AM h (fun v1 => mk [(3, bD v1)] []) (fun j1 h => ?_) (fun v1 h => ?_)
 ·refine Aj Ax rfl (qf Cg rfl (ql A4 rfl (AS rfl (qm rfl ?_))))
  refine Ce 7 h rfl (fun h => ?_) fun h => ?_
  ·refine qK Dg Da rfl (qL Fe CG rfl ?_)
   refine BS h fun v3 a3 h => Av [] (KX N ((Aa.mk p1 p2 p3 p4)) p0 v3 a3) XA rfl (Cl rfl (qp rfl (qe rfl ?_)))
   exact sn [] h
  ·refine qw 4 rfl (qp rfl (qe rfl ?_))
   exact sn [] h
 ·obtain rfl := sj h
  refine Ae (sm [] [(3, bD v1)] [] rfl rfl) (Aq ?_)
  exact ⟨⟨[_], tm, rfl⟩, tv⟩
theorem A6 (N : Nat) (p0 : List Ab) (p1 : Ab → Option Bool) (r : Int) (h : BO N p0 p1 = some r) : Ar zA 104 [pD (.sl (p0.map Aw)), oD (.clo (Il (LL true Aw) tB p1))] [] (iD r) := by
 unfold BO at h
 refine cw (n := 19) (rs := [.tmp 4]) Tryz.func104 fun w0 S0 => ?_
 refine wq rfl (qa rfl (Ac (wp rfl (qm rfl (AK DB rfl (qm rfl (Ac ?_)))))))
 refine A0 (L := AO N p0 p1) h (fun v1 => mk [(0, pD (.sl (p0.map Aw))), (1, oD (.clo (Il (LL true Aw) tB p1))), (7, iD ((p0.length : Int))), (8, iD v1)] []) (fun v2 => mk [] []) (fun _ _ => rfl) (sm [] _ _ rfl rfl) (fun j1 n1 v1 h => ?_) (fun v2 s h hs => ?_)
 ·unfold AO at h
  refine wq rfl (A1 rfl (Ac (AT ?_)))
  refine Bg h (fun h => ?_) fun h => ?_
  ·refine Ap (AT (AU (wq rfl (qm rfl (qa rfl (Ac (wq rfl (qw 3 rfl ?_))))))))
   refine BU h fun v4 a4 b4 h => qi DB CG a4 (Ah b4) rfl (qK Fe CG rfl ?_)
   refine BS h fun v5 a5 h => Ko (ds0 := [_]) (ar := (LL true Aw) v4) (.p rfl) rfl rfl ⟨rfl, tv⟩ rfl rfl rfl (KB (KV _ _ PE) a5) ?_
   refine Ac ?_
   refine Bg h (fun h => ?_) fun h => ?_
   ·refine wq rfl (qm rfl (qe rfl ?_))
    obtain rfl := sj h
    refine Ae (sm [] [(4, iD v1)] [] rfl rfl) (Aq ?_)
    exact ⟨⟨[_], tm, rfl⟩, tv⟩
   ·refine Ap (Aj Ax rfl (Ch rfl (qm rfl (Ac ?_))))
    exact sn [] h
  ·refine BT ?_
   exact sn [] h
 ·refine Ae hs (wq rfl (qe rfl ?_))
  obtain rfl := sj h
  refine Ae (sm [] [(4, iD ((-1)))] [] rfl rfl) (Aq ?_)
  exact ⟨⟨[_], tm, rfl⟩, tv⟩
theorem E6 (N : Nat) (p0 : List Ab) (p1 : Ab → Option Bool) (r : Int × Int) (h : Gu N p0 p1 = some r) : Ar zA 60 [pD (.sl (p0.map Aw)), oD (.clo (Il (LL true Aw) tB p1))] [] (.tup [.one (iC r.1), .one (iC r.2)]) := by
 unfold Gu at h
 refine cw (n := 13) (rs := [.tmp 4, .tmp 5]) Tryz.func60 fun w0 S0 => ?_
 refine wq rfl (qa rfl (qa rfl (Ac (wq rfl (qw 2 rfl ?_)))))
 refine BS h fun v1 a1 h => Av [] (A6 N p0 p1 v1 a1) UZ rfl (qa rfl (Ac (wp rfl (qm rfl (A1 rfl (Ac ?_))))))
 refine Bg h (fun h => ?_) fun h => ?_
 ·refine wq rfl (qa rfl (qe rfl ?_))
  obtain rfl := sj h
  refine Ae (sm [] [(4, iD 0), (5, iD 15)] [] rfl rfl) (Aq ?_)
  exact ⟨⟨[_, _], ⟨.tmp _ _ rfl, tm⟩, rfl⟩, tv⟩
 ·refine Ap (wq rfl (qm rfl (qa rfl (qe rfl ?_))))
  obtain rfl := sj h
  refine Ae (sm [] [(4, iD v1), (5, iD 0)] [] rfl rfl) (Aq ?_)
  exact ⟨⟨[_, _], ⟨.tmp _ _ rfl, tm⟩, rfl⟩, tv⟩
theorem Nq (N : Nat) (p0 : Aa) (p1 : List Ab) (r : Int × Int) (h : EF N p0 p1 = some r) : Ar zA 26 [.e (.agg (Al p0)), pD (.sl (p1.map Aw))] [] (.tup [.one (iC r.1), .one (iC r.2)]) := by
 unfold EF at h
 refine cw (n := 23) (rs := [.tmp 4, .tmp 5]) Tryz.func26 fun w0 S0 => ?_
 refine wq rfl (qb rfl (qa rfl (qa rfl (Ac (wp rfl (qL Dg Da rfl ?_))))))
 refine BS h fun v1 a1 h => Av [] (DT N p0 v1 a1) Tk rfl (qa rfl (Ac (wq rfl (qm rfl (Bb rfl (Ac ?_))))))
 refine Bg h (fun h => ?_) fun h => ?_
 ·refine wq rfl (qm rfl (qa rfl (qe rfl ?_)))
  obtain rfl := sj h
  refine Ae (sm [] [(4, iD 0), (5, iD v1)] [] rfl rfl) (Aq ?_)
  exact ⟨⟨[_, _], ⟨.tmp _ _ rfl, tm⟩, rfl⟩, tv⟩
 ·refine Ap (wp rfl (qm rfl ?_))
  refine BS h fun v3 a3 h => Av [] (E2 N p1 v3 a3) Tz rfl (qa rfl (Ac (wq rfl (qm rfl (Bb rfl (Ac ?_))))))
  refine Bg h (fun h => ?_) fun h => ?_
  ·refine wq rfl (qm rfl (qa rfl (qe rfl ?_)))
   obtain rfl := sj h
   refine Ae (sm [] [(4, iD 0), (5, iD v3)] [] rfl rfl) (Aq ?_)
   exact ⟨⟨[_, _], ⟨.tmp _ _ rfl, tm⟩, rfl⟩, tv⟩
  ·refine Ap (wq rfl (qm rfl (FO (Iw 2 [.sl (p0.fc.map As), .sl (p0.fj.map As), .sl (p0.fq.map As), .sl (p0.fd.map Bw)] rfl rfl) ?_)))
   refine Mo (capD := [_]) (Il (LL true Aw) tB ((fun (x : Ab) => Ee N x p0.fc p0.fj p0.fq p0.fd))) (.p rfl) XS rfl ⟨rfl, tv⟩ rfl (fun ar t ht => by obtain ⟨x, r, rfl, hq, rfl⟩ := ID ht; exact LN N x p0.fc p0.fj p0.fq p0.fd r hq) ?_
   refine BS h fun v5 a5 h => Av [] (E6 N p1 ((fun (x : Ab) => Ee N x p0.fc p0.fj p0.fq p0.fd)) v5 a5) WA rfl (qx rfl (qx rfl (qa rfl (qe rfl ?_))))
   obtain rfl := sj h
   refine Ae (sm [] [(4, iD v5.1), (5, iD v5.2)] [] rfl rfl) (Aq ?_)
   exact ⟨⟨[_, _], ⟨.tmp _ _ rfl, tm⟩, rfl⟩, tv⟩
theorem Cp (N : Nat) (p0 : AL) (r : Bool) (h : Bc N p0 = some r) : Ar zA 56 [.e (.agg (CV p0))] [] (bD r) := by
 unfold Bc at h
 refine cw (n := 11) (rs := [.tmp 2]) Tryz.func56 fun w0 S0 => ?_
 refine wq rfl (qb rfl (qe rfl ?_))
 refine AM h (fun v1 => mk [(2, bD v1)] []) (fun j1 h => ?_) (fun v1 h => ?_)
 ·refine Aj Ax rfl (qf Ef rfl (ql A4 rfl (AS rfl (qm rfl ?_))))
  refine Ce 6 h rfl (fun h => ?_) fun h => ?_
  ·refine qw 3 rfl (qp rfl (qe rfl ?_))
   exact sn [] h
  ·refine qf Ef rfl (ql A4 rfl (AS rfl (qp rfl (qe rfl ?_))))
   exact sn [] h
 ·obtain rfl := sj h
  refine Ae (sm [] [(2, bD v1)] [] rfl rfl) (Aq ?_)
  exact ⟨⟨[_], tm, rfl⟩, tv⟩
theorem G4 (N : Nat) (p0 : List (List Bool)) (p1 : Int) (p2 : Int) (r : Bool) (h : CM N p0 p1 p2 = some r) : Ar zA 143 [pD (.sl (p0.map (L9 eB))), iD p1, iD p2] [] (bD r) := by
 unfold CM at h
 refine cw (n := 24) (rs := [.tmp 6]) Tryz.func143 fun w0 S0 => ?_
 refine wq rfl (qa rfl (Ac (wp rfl (qm rfl (AK Eg rfl (qm rfl (Bb rfl (Ac ?_))))))))
 refine Bg h (fun h => ?_) fun h => ?_
 ·refine wq rfl (qe rfl ?_)
  obtain rfl := sj h
  refine Ae (sm [] [(6, bD false)] [] rfl rfl) (Aq ?_)
  exact ⟨⟨[_], tm, rfl⟩, tv⟩
 ·refine Ap (wp rfl (qe rfl ?_))
  refine A0 (L := BV N p0 p1 p2) h (fun v2 => mk [(0, pD (.sl (p0.map (L9 eB)))), (1, iD p1), (2, iD p2), (7, iD v2)] []) (fun v3 => mk [] []) (fun _ _ => rfl) (sm [] _ _ rfl rfl) (fun j2 n2 v2 h => ?_) (fun v3 s h hs => ?_)
  ·unfold BV at h
   refine wp rfl (qw 2 rfl (A1 rfl (Ac ?_)))
   refine Bg h (fun h => ?_) fun h => ?_
   ·refine Ap (AT (AU (wq rfl (qw 2 rfl ?_))))
    refine BU h fun v5 a5 b5 h => qi Eg J1 a5 (Ah b5) rfl (qk J4 rfl (AK Ih rfl (qm rfl (Bb rfl (Ac ?_)))))
    refine Bg h (fun h => ?_) fun h => ?_
    ·refine wq rfl (qe rfl ?_)
     obtain rfl := sj h
     refine Ae (sm [] [(6, bD false)] [] rfl rfl) (Aq ?_)
     exact ⟨⟨[_], tm, rfl⟩, tv⟩
    ·refine Ap (Aj Ax rfl (qm rfl (Ch rfl (qe rfl ?_))))
     exact sn [] h
   ·refine BT ?_
    exact sn [] h
  ·refine Ae hs (wq rfl (qe rfl ?_))
   obtain rfl := sj h
   refine Ae (sm [] [(6, bD true)] [] rfl rfl) (Aq ?_)
   exact ⟨⟨[_], tm, rfl⟩, tv⟩
theorem JO (N : Nat) (p0 : Aa) (p1 : AL) (r : Int) (h : DX N p0 p1 = some r) : Ar zA 101 [.e (.agg (Al p0)), .e (.agg (CV p1))] [] (iD r) := by
 unfold DX at h
 refine cw (n := 101) (rs := [.tmp 4]) Tryz.func101 fun w0 S0 => ?_
 refine wq rfl (qb rfl (qb rfl (qa rfl (Ac (AT ?_)))))
 refine AM h (fun v1 => mk [(2, oD (.ptr 2 0)), (3, oD (.ptr 3 0)), (22, bD v1)] [(2, .box (Al p0)), (3, .box (CV p1))]) (fun j1 h => ?_) (fun v1 h => ?_)
 ·refine Aj Ax rfl (qf Ef rfl (ql A4 rfl (A1 rfl (qm rfl ?_))))
  refine Ce 10 h rfl (fun h => ?_) fun h => ?_
  ·refine qw 3 rfl (qp rfl (qw 4 rfl (qu rfl (qu rfl (qn rfl (qp rfl (Ac ?_)))))))
   exact sn [] h
  ·refine qf Ef rfl (ql A4 rfl (Eu rfl (qp rfl (qm rfl ?_))))
   refine Ce 15 h rfl (fun h => ?_) fun h => ?_
   ·refine qw 3 rfl (qu rfl (qu rfl (qn rfl (qp rfl (Ac ?_)))))
    exact sn [] h
   ·refine qf PC rfl (ql Rk rfl (qm rfl ?_))
    refine Ce 18 h rfl (fun h => ?_) fun h => ?_
    ·refine qL Fj B1 rfl ?_
     refine BS h fun v5 a5 h => Av [] (Cp N p1 v5 a5) Qn rfl (qp rfl (qp rfl (Ac ?_)))
     exact sn [] h
    ·refine qw 2 rfl (qp rfl (qp rfl (Ac ?_)))
     exact sn [] h
 ·refine Bg h (fun h => ?_) fun h => ?_
  ·refine wq rfl (qe rfl ?_)
   obtain rfl := sj h
   refine Ae (sm [] [(4, iD 1)] [] rfl rfl) (Aq ?_)
   exact ⟨⟨[_], tm, rfl⟩, tv⟩
  ·refine Ap (wq rfl (qf BG rfl (ql Bm rfl (AK AG rfl (qa rfl (Ac (AT ?_)))))))
   refine AM h (fun v7 => mk [(2, oD (.ptr 2 0)), (3, oD (.ptr 3 0)), (45, bD v7)] [(2, .box (Al p0)), (3, .box (CV p1))]) (fun j7 h => ?_) (fun v7 h => ?_)
   ·refine Aj Ax rfl (qf Cq rfl (ql A4 rfl (A1 rfl (qm rfl ?_))))
    refine Ce 29 h rfl (fun h => ?_) fun h => ?_
    ·refine qw 4 rfl (qp rfl (qw 4 rfl (qp rfl (qw 5 rfl (qp rfl (Ac ?_))))))
     exact sn [] h
    ·refine qf Cq rfl (ql A4 rfl (qm rfl (Dt rfl (qp rfl (qm rfl ?_)))))
     refine Ce 35 h rfl (fun h => ?_) fun h => ?_
     ·refine qw 3 rfl (qp rfl (qw 5 rfl (qp rfl (Ac ?_))))
      exact sn [] h
     ·refine qf Hb rfl (ql A4 rfl (A1 rfl (qp rfl (qm rfl ?_))))
      refine Ce 40 h rfl (fun h => ?_) fun h => ?_
      ·refine qw 4 rfl (qp rfl (Ac ?_))
       exact sn [] h
      ·refine qf Hb rfl (ql A4 rfl (qm rfl (Dt rfl (qp rfl (Ac ?_)))))
       exact sn [] h
   ·refine Bg h (fun h => ?_) fun h => ?_
    ·refine wq rfl (qe rfl ?_)
     obtain rfl := sj h
     refine Ae (sm [] [(4, iD 4)] [] rfl rfl) (Aq ?_)
     exact ⟨⟨[_], tm, rfl⟩, tv⟩
    ·refine Ap (wp rfl (qf G8 rfl (ql FB rfl (qf BG rfl (ql Bm rfl (qf Cq rfl (ql A4 rfl ?_)))))))
     refine BU h fun v12 a12 b12 h => qi AG Db a12 (Ah b12) rfl (qk A4 rfl (qf BG rfl (ql Bm rfl (qf Hb rfl (ql A4 rfl ?_)))))
     refine BU h fun v13 a13 b13 h => qi AG Db a13 (Ah b13) rfl (qk A4 rfl ?_)
     refine BS h fun v14 a14 h => Av [] (G4 N p1.fJ v12 v13 v14 a14) Vb rfl (Cl rfl (AH (by kernel_rfl) ?_))
     refine Bg h (fun h => ?_) fun h => ?_
     ·refine wq rfl (qe rfl ?_)
      obtain rfl := sj h
      refine Ae (sm [] [(4, iD 6)] [] rfl rfl) (Aq ?_)
      exact ⟨⟨[_], tm, rfl⟩, tv⟩
     ·refine Ap (wp rfl (qf Ef rfl (ql A4 rfl (Bb rfl (Ac ?_)))))
      refine Bg h (fun h => ?_) fun h => ?_
      ·refine wp rfl (qf Er rfl (ql FB rfl (AK Eg rfl (Bb rfl (Ac ?_)))))
       refine Bg h (fun h => ?_) fun h => ?_
       ·refine wq rfl (qe rfl ?_)
        obtain rfl := sj h
        refine Ae (sm [] [(4, iD 6)] [] rfl rfl) (Aq ?_)
        exact ⟨⟨[_], tm, rfl⟩, tv⟩
       ·refine Ap (wq rfl (qe rfl ?_))
        obtain rfl := sj h
        refine Ae (sm [] [(4, iD 0)] [] rfl rfl) (Aq ?_)
        exact ⟨⟨[_], tm, rfl⟩, tv⟩
      ·refine Ap (wp rfl (qf Er rfl (ql FB rfl (qf BG rfl (ql Bm rfl (qf Cq rfl (ql A4 rfl ?_)))))))
       refine BU h fun v18 a18 b18 h => qi AG Db a18 (Ah b18) rfl (qk A4 rfl (qf BG rfl (ql Bm rfl (qf Cq rfl (ql A4 rfl ?_)))))
       refine BU h fun v19 a19 b19 h => qi AG Db a19 (Ah b19) rfl (qk A4 rfl ?_)
       refine BS h fun v20 a20 h => Av [] (G4 N p1.fw v18 v19 v20 a20) Vb rfl (Cl rfl (AH (by kernel_rfl) ?_))
       refine Bg h (fun h => ?_) fun h => ?_
       ·refine wq rfl (qe rfl ?_)
        obtain rfl := sj h
        refine Ae (sm [] [(4, iD 6)] [] rfl rfl) (Aq ?_)
        exact ⟨⟨[_], tm, rfl⟩, tv⟩
       ·refine Ap (wp rfl (qe rfl ?_))
        refine A0 (L := BA N p1) h (fun v22 => mk [(3, oD (.ptr 3 0)), (6, iD v22)] [(3, .box (CV p1))]) (fun v23 => mk [] []) (fun _ _ => rfl) (sm [] _ _ rfl rfl) (fun j22 n22 v22 h => ?_) (fun v23 s h hs => ?_)
        ·unfold BA at h
         refine wp rfl (qm rfl (qf Er rfl (ql FB rfl (AK Eg rfl (A1 rfl (Ac ?_))))))
         refine Bg h (fun h => ?_) fun h => ?_
         ·refine Ap (AT (AU (wq rfl (qf Er rfl (ql FB rfl (qm rfl ?_))))))
          refine BU h fun v25 a25 b25 h => qi Eg J1 a25 (Ah b25) rfl (qk J4 rfl (qm rfl ?_))
          refine BU h fun v26 a26 b26 h => qi Ih Sa a26 (Ah b26) rfl (qk Rk rfl (Cl rfl (Ac ?_)))
          refine Bg h (fun h => ?_) fun h => ?_
          ·refine wq rfl (qe rfl ?_)
           obtain rfl := sj h
           refine Ae (sm [] [(4, iD 1)] [] rfl rfl) (Aq ?_)
           exact ⟨⟨[_], tm, rfl⟩, tv⟩
          ·refine Ap (Aj Ax rfl (qm rfl (Ch rfl (qe rfl ?_))))
           exact sn [] h
         ·refine BT ?_
          exact sn [] h
        ·refine Ae hs (wq rfl (qe rfl ?_))
         obtain rfl := sj h
         refine Ae (sm [] [(4, iD 0)] [] rfl rfl) (Aq ?_)
         exact ⟨⟨[_], tm, rfl⟩, tv⟩
theorem Dm (N : Nat) (p0 : Aa) (r : Int) (h : Bj N p0 = some r) : Ar zA 55 [.e (.agg (Al p0))] [] (iD r) := by
 unfold Bj at h
 refine cw (n := 102) (rs := [.tmp 2]) Tryz.func55 fun w0 S0 => ?_
 refine wq rfl (qb rfl (qa rfl (Ac (AT ?_))))
 refine AM h (fun v1 => mk [(1, oD (.ptr 1 0)), (16, bD v1)] [(1, .box (Al p0))]) (fun j1 h => ?_) (fun v1 h => ?_)
 ·refine Aj Ax rfl (qf BG rfl (ql Bm rfl (AK AG rfl (Eu rfl (qm rfl ?_)))))
  refine Ce 11 h rfl (fun h => ?_) fun h => ?_
  ·refine qw 4 rfl (qp rfl (Ac ?_))
   exact sn [] h
  ·refine qf BN rfl (ql Fl rfl (AK De rfl (Eu rfl (qp rfl (Ac ?_)))))
   exact sn [] h
 ·refine Bg h (fun h => ?_) fun h => ?_
  ·refine wq rfl (qe rfl ?_)
   obtain rfl := sj h
   refine Ae (sm [] [(2, iD 3)] [] rfl rfl) (Aq ?_)
   exact ⟨⟨[_], tm, rfl⟩, tv⟩
  ·refine Ap (AT ?_)
   refine AM h (fun v4 => mk [(1, oD (.ptr 1 0)), (32, bD v4)] [(1, .box (Al p0))]) (fun j4 h => ?_) (fun v4 h => ?_)
   ·refine Aj Ax rfl (qf Gk rfl (ql Bm rfl (AK AG rfl (qf BG rfl (ql Bm rfl (AK AG rfl (Bb rfl (qm rfl ?_))))))))
    refine Ce 24 h rfl (fun h => ?_) fun h => ?_
    ·refine qw 7 rfl (qp rfl (Ac ?_))
     exact sn [] h
    ·refine qf JC rfl (ql Bm rfl (AK AG rfl (qf BG rfl (ql Bm rfl (AK AG rfl (Bb rfl (qp rfl (Ac ?_))))))))
     exact sn [] h
   ·refine Bg h (fun h => ?_) fun h => ?_
    ·refine wq rfl (qe rfl ?_)
     obtain rfl := sj h
     refine Ae (sm [] [(2, iD 6)] [] rfl rfl) (Aq ?_)
     exact ⟨⟨[_], tm, rfl⟩, tv⟩
    ·refine Ap (wp rfl (qe rfl ?_))
     refine A0 (L := A9 N p0) h (fun v7 => mk [(1, oD (.ptr 1 0)), (3, iD v7)] [(1, .box (Al p0))]) (fun v8 => mk [(1, oD (.ptr 1 0))] [(1, .box (Al p0))]) (fun _ _ => rfl) (sm [] _ _ rfl rfl) (fun j7 n7 v7 h => ?_) (fun v8 s h hs => ?_)
     ·unfold A9 at h
      refine wp rfl (qm rfl (qf BG rfl (ql Bm rfl (AK AG rfl (A1 rfl (Ac ?_))))))
      refine Bg h (fun h => ?_) fun h => ?_
      ·refine Ap (AT (AU (wq rfl (qf BG rfl (ql Bm rfl (qm rfl ?_))))))
       refine BU h fun v10 a10 b10 h => qi AG Db a10 (Ah b10) rfl (qk A4 rfl (qe rfl ?_))
       refine AM h (fun v11 => mk [(1, oD (.ptr 1 0)), (3, iD v7), (84, bD v11)] [(1, .box (Al p0))]) (fun j11 h => ?_) (fun v11 h => ?_)
       ·refine Aj Ax rfl (qm rfl (A1 rfl (qm rfl ?_)))
        refine Ce 47 h rfl (fun h => ?_) fun h => ?_
        ·refine qw 2 rfl (qp rfl (qw 7 rfl (qp rfl (qw 8 rfl (qp rfl (qw 7 rfl (qp rfl (qw 8 rfl (qp rfl (Ac ?_))))))))))
         exact sn [] h
        ·refine qm rfl (Eu rfl (qp rfl (qm rfl ?_)))
         refine Ce 51 h rfl (fun h => ?_) fun h => ?_
         ·refine qw 6 rfl (qp rfl (qw 8 rfl (qp rfl (qw 7 rfl (qp rfl (qw 8 rfl (qp rfl (Ac ?_))))))))
          exact sn [] h
         ·refine qf Gk rfl (ql Bm rfl (qm rfl ?_))
          refine BU h fun v14 a14 b14 h => qi AG Db a14 (Ah b14) rfl (qk A4 rfl (A1 rfl (qp rfl (qm rfl ?_))))
          refine Ce 59 h rfl (fun h => ?_) fun h => ?_
          ·refine qw 7 rfl (qp rfl (qw 7 rfl (qp rfl (qw 8 rfl (qp rfl (Ac ?_))))))
           exact sn [] h
          ·refine qf Gk rfl (ql Bm rfl (qm rfl ?_))
           refine BU h fun v16 a16 b16 h => qi AG Db a16 (Ah b16) rfl (qk A4 rfl (qm rfl (Dt rfl (qp rfl (qm rfl ?_)))))
           refine Ce 68 h rfl (fun h => ?_) fun h => ?_
           ·refine qw 6 rfl (qp rfl (qw 8 rfl (qp rfl (Ac ?_))))
            exact sn [] h
           ·refine qf JC rfl (ql Bm rfl (qm rfl ?_))
            refine BU h fun v18 a18 b18 h => qi AG Db a18 (Ah b18) rfl (qk A4 rfl (A1 rfl (qp rfl (qm rfl ?_))))
            refine Ce 76 h rfl (fun h => ?_) fun h => ?_
            ·refine qw 7 rfl (qp rfl (Ac ?_))
             exact sn [] h
            ·refine qf JC rfl (ql Bm rfl (qm rfl ?_))
             refine BU h fun v20 a20 b20 h => qi AG Db a20 (Ah b20) rfl (qk A4 rfl (qm rfl (Dt rfl (qp rfl (Ac ?_)))))
             exact sn [] h
       ·refine Bg h (fun h => ?_) fun h => ?_
        ·refine wq rfl (qe rfl ?_)
         obtain rfl := sj h
         refine Ae (sm [] [(2, iD 7)] [] rfl rfl) (Aq ?_)
         exact ⟨⟨[_], tm, rfl⟩, tv⟩
        ·refine Ap (Aj Ax rfl (qm rfl (Ch rfl (qe rfl ?_))))
         exact sn [] h
      ·refine BT ?_
       exact sn [] h
     ·refine Ae hs (wp rfl (qe rfl ?_))
      refine A0 (L := A2 N p0) h (fun v22 => mk [(1, oD (.ptr 1 0)), (5, iD v22)] [(1, .box (Al p0))]) (fun v23 => mk [] []) (fun _ _ => rfl) (sm [] _ _ rfl rfl) (fun j22 n22 v22 h => ?_) (fun v23 s h hs => ?_)
      ·unfold A2 at h
       refine wp rfl (qm rfl (qf BN rfl (ql Fl rfl (AK De rfl (A1 rfl (Ac ?_))))))
       refine Bg h (fun h => ?_) fun h => ?_
       ·refine Ap (AT (AU (wq rfl (qL Dg Da rfl (qf BN rfl (ql Fl rfl (qm rfl ?_)))))))
        refine BU h fun v25 a25 b25 h => qi De B1 a25 (Ah b25) rfl (qK Fj B1 rfl ?_)
        refine BS h fun v26 a26 h => Av [] (JO N p0 v25 v26 a26) WV rfl (qa rfl (AH (by kernel_rfl) (wq rfl (qm rfl (Bb rfl (Ac ?_))))))
        refine Bg h (fun h => ?_) fun h => ?_
        ·refine wq rfl (qm rfl (qe rfl ?_))
         obtain rfl := sj h
         refine Ae (sm [] [(2, iD v26)] [] rfl rfl) (Aq ?_)
         exact ⟨⟨[_], tm, rfl⟩, tv⟩
        ·refine Ap (Aj Ax rfl (qm rfl (Ch rfl (qe rfl ?_))))
         exact sn [] h
       ·refine BT ?_
        exact sn [] h
      ·refine Ae hs (wq rfl (qe rfl ?_))
       obtain rfl := sj h
       refine Ae (sm [] [(2, iD 0)] [] rfl rfl) (Aq ?_)
       exact ⟨⟨[_], tm, rfl⟩, tv⟩
theorem Jr (N : Nat) (p0 : Ab) (r : (List Int)) (h : CK N p0 = some r) : Ar zA 106 [.e (.agg (AP p0))] [(1, r.map As)] (oD (.own 0)) := by
 unfold CK at h
 refine cw (n := 35) (rs := [.tmp 2]) Tryz.func106 fun w0 S0 => ?_
 refine wq rfl (qb rfl (qa rfl (Ac (wp rfl (qf Cg rfl (ql A4 rfl (Ac (AU (wq rfl (AS rfl (qe rfl ?_)))))))))))
 refine Bg h (fun h => ?_) fun h => ?_
 ·refine wq rfl (qf GS rfl (ql A4 rfl (qf GT rfl (ql A4 rfl (qf Hy rfl (ql A4 rfl (F8 Cv I2 Vh rfl (qe rfl ?_))))))))
  obtain rfl := sj h
  refine Ae (sm [(1000, 13)] [(2, oD (.own 1000))] [(1000, .vec 1 ((([p0.fD, p0.fE, p0.fK] : List Int)).map As))] rfl rfl) (Aq ?_)
  exact ⟨⟨[_], tm, rfl⟩, ⟨rfl, tv⟩⟩
 ·refine wq rfl (AS rfl (qe rfl ?_))
  refine Bg h (fun h => ?_) fun h => ?_
  ·refine wq rfl (qf Hv rfl (ql A4 rfl (qf KQ rfl (ql A4 rfl (qf Ia rfl (ql A4 rfl (F8 Cv I2 Vh rfl (qe rfl ?_))))))))
   obtain rfl := sj h
   refine Ae (sm [(1000, 22)] [(2, oD (.own 1000))] [(1000, .vec 1 ((([p0.fv, p0.fr, p0.fI] : List Int)).map As))] rfl rfl) (Aq ?_)
   exact ⟨⟨[_], tm, rfl⟩, ⟨rfl, tv⟩⟩
  ·refine wq rfl (AS rfl (qe rfl ?_))
   refine Bg h (fun h => ?_) fun h => ?_
   ·refine wq rfl (qf Ky rfl (ql A4 rfl (qf Ey rfl (ql HW rfl (F8 Cv I2 Vh rfl (qe rfl ?_))))))
    obtain rfl := sj h
    refine Ae (sm [(1000, 29)] [(2, oD (.own 1000))] [(1000, .vec 1 ((([p0.fO, p0.fu] : List Int)).map As))] rfl rfl) (Aq ?_)
    exact ⟨⟨[_], tm, rfl⟩, ⟨rfl, tv⟩⟩
   ·refine Ap (wq rfl (qf Jx rfl (ql A4 rfl (qf Ey rfl (ql HW rfl (F8 Cv I2 Vh rfl (qe rfl ?_)))))))
    obtain rfl := sj h
    refine Ae (sm [(1000, 34)] [(2, oD (.own 1000))] [(1000, .vec 1 ((([p0.fm, p0.fu] : List Int)).map As))] rfl rfl) (Aq ?_)
    exact ⟨⟨[_], tm, rfl⟩, ⟨rfl, tv⟩⟩
theorem Kn (N : Nat) (p0 : Int) (p1 : Int) (p2 : List Int) (r : Ab) (h : CD N p0 p1 p2 = some r) : Ar zA 107 [iD p0, iD p1, pD (.sl (p2.map As))] [] (.e (.agg (AP r))) := by
 unfold CD at h
 refine cw (n := 59) (rs := [.cell 6 37]) Tryz.func107 fun w0 S0 => ?_
 refine wq rfl (qz Jb rfl (Ac (wq rfl (qw 2 rfl (Bx Jb RI rfl (qz Jb rfl (qs CG rfl (Ac ?_))))))))
 refine AM h (fun v1 => mk [(6, oD (.ptr 6 0)), (7, oD (.ptr 7 0))] [(6, .box [iC 0, iC 0, iC 0, iC 0, iC 0, iC 0, iC 0, iC 0, iC 0, iC 0, iC 0]), (7, .box [iC p0, iC p1, iC v1.1, iC v1.2.1, iC v1.2.2.1, iC v1.2.2.2.1, iC v1.2.2.2.2.1, iC v1.2.2.2.2.2.1, iC v1.2.2.2.2.2.2.1, iC v1.2.2.2.2.2.2.2.1, iC v1.2.2.2.2.2.2.2.2])]) (fun j1 h => ?_) (fun v1 h => ?_)
 ·refine wq rfl (qm rfl (Ac (AU (wq rfl (AS rfl (qe rfl ?_))))))
  refine Bg h (fun h => ?_) fun h => ?_
  ·refine Aj Ax rfl (qm rfl ?_)
   refine BU h fun v3 a3 b3 h => qi Cv I2 a3 (Ah b3) rfl (qk HW rfl (qm rfl ?_))
   refine BU h fun v4 a4 b4 h => qi Cv I2 a4 (Ah b4) rfl (qk HW rfl (qm rfl ?_))
   refine BU h fun v5 a5 b5 h => qi Cv I2 a5 (Ah b5) rfl (qk HW rfl (qf GS rfl (qs Db rfl (qf GT rfl (qs Db rfl (qf Hy rfl (qs Db rfl (AH (by kernel_rfl) ?_))))))))
   exact sn [] h
  ·refine wq rfl (AS rfl (qe rfl ?_))
   refine Bg h (fun h => ?_) fun h => ?_
   ·refine Aj Ax rfl (qm rfl ?_)
    refine BU h fun v7 a7 b7 h => qi Cv I2 a7 (Ah b7) rfl (qk HW rfl (qm rfl ?_))
    refine BU h fun v8 a8 b8 h => qi Cv I2 a8 (Ah b8) rfl (qk HW rfl (qm rfl ?_))
    refine BU h fun v9 a9 b9 h => qi Cv I2 a9 (Ah b9) rfl (qk HW rfl (qf Hv rfl (qs Db rfl (qf KQ rfl (qs Db rfl (qf Ia rfl (qs Db rfl (AH (by kernel_rfl) ?_))))))))
    exact sn [] h
   ·refine wq rfl (AS rfl (qe rfl ?_))
    refine Bg h (fun h => ?_) fun h => ?_
    ·refine Aj Ax rfl (qm rfl ?_)
     refine BU h fun v11 a11 b11 h => qi Cv I2 a11 (Ah b11) rfl (qk HW rfl (qm rfl ?_))
     refine BU h fun v12 a12 b12 h => qi Cv I2 a12 (Ah b12) rfl (qk HW rfl (qf Ky rfl (qs Db rfl (qf Ey rfl (qs I2 rfl (AH (by kernel_rfl) ?_))))))
     exact sn [] h
    ·refine Aj Ax rfl (qm rfl ?_)
     refine BU h fun v13 a13 b13 h => qi Cv I2 a13 (Ah b13) rfl (qk HW rfl (qm rfl ?_))
     refine BU h fun v14 a14 b14 h => qi Cv I2 a14 (Ah b14) rfl (qk HW rfl (qf Jx rfl (qs Db rfl (qf Ey rfl (qs I2 rfl (AH (by kernel_rfl) ?_))))))
     exact sn [] h
 ·refine wq rfl (qL Fe CG rfl (qs CG rfl (Ac ?_)))
  obtain rfl := sj h
  refine Ae (sm [] [(6, oD (.ptr 6 0))] [(6, .box [iC p0, iC p1, iC v1.1, iC v1.2.1, iC v1.2.2.1, iC v1.2.2.2.1, iC v1.2.2.2.2.1, iC v1.2.2.2.2.2.1, iC v1.2.2.2.2.2.2.1, iC v1.2.2.2.2.2.2.2.1, iC v1.2.2.2.2.2.2.2.2])] rfl rfl) (Aq ?_)
  exact ⟨⟨[_], ⟨.cellN _ _ _ _ _ _ _ rfl rfl Fe CG rfl rfl (Io rfl), tv⟩, rfl⟩, tv⟩
theorem JN (N : Nat) (p0 : Ab) (r : Bool) (h : DS N p0 = some r) : Ar zA 70 [.e (.agg (AP p0))] [] (bD r) := by
 unfold DS at h
 refine cw (n := 39) (rs := [.tmp 2]) Tryz.func70 fun w0 S0 => ?_
 refine wq rfl (qb rfl (qa rfl (Ac (AT ?_))))
 refine AM h (fun v1 => mk [(1, oD (.ptr 1 0)), (17, bD v1)] [(1, .box (AP p0))]) (fun j1 h => ?_) (fun v1 h => ?_)
 ·refine Aj Ax rfl (qf Cg rfl (ql A4 rfl (A1 rfl (qm rfl ?_))))
  refine Ce 8 h rfl (fun h => ?_) fun h => ?_
  ·refine qw 3 rfl (qp rfl (qw 4 rfl (qp rfl (Ac ?_))))
   exact sn [] h
  ·refine qf Cg rfl (ql A4 rfl (Eu rfl (qp rfl (qm rfl ?_))))
   refine Ce 13 h rfl (fun h => ?_) fun h => ?_
   ·refine qw 3 rfl (qp rfl (Ac ?_))
    exact sn [] h
   ·refine qf Hs rfl (ql HW rfl (A1 rfl (qp rfl (Ac ?_))))
    exact sn [] h
 ·refine Bg h (fun h => ?_) fun h => ?_
  ·refine wq rfl (qe rfl ?_)
   obtain rfl := sj h
   refine Ae (sm [] [(2, bD false)] [] rfl rfl) (Aq ?_)
   exact ⟨⟨[_], tm, rfl⟩, tv⟩
  ·refine Ap (wq rfl (qL Fe CG rfl ?_))
   refine BS h fun v5 a5 h => Av [2001] (Jr N p0 v5 a5) Xo rfl (qa rfl (Ac (wp rfl (qe rfl ?_))))
   refine A0 (L := BZ N v5) h (fun v6 => mk [(1, oD (.ptr 1 0)), (3, oD (.own 2002)), (4, iD v6)] [(1, .box (AP p0)), (2002, .vec 1 (v5.map As))]) (fun v7 => mk [(1, oD (.ptr 1 0)), (3, oD (.own 2003))] [(1, .box (AP p0)), (2003, .vec 1 (v5.map As))]) (fun _ _ => rfl) (sm [(2002, 2001)] _ _ rfl rfl) (fun j6 n6 v6 h => ?_) (fun v7 s h hs => ?_)
   ·unfold BZ at h
    refine wp rfl (qw 2 rfl (QU Cv rfl (A1 rfl (Ac ?_))))
    refine Bg h (fun h => ?_) fun h => ?_
    ·refine Ap (AT (AU (wq rfl (qw 2 rfl ?_))))
     refine BU h fun v9 a9 b9 h => qI Cv I2 a9 (Ah b9) rfl (qj HW (Ah b9) rfl (A1 rfl (Ac ?_)))
     refine Bg h (fun h => ?_) fun h => ?_
     ·refine wq rfl (qe rfl ?_)
      obtain rfl := sj h
      refine Ae (sm [] [(2, bD false)] [] rfl rfl) (Aq ?_)
      exact ⟨⟨[_], tm, rfl⟩, tv⟩
     ·refine Ap (Aj Ax rfl (qm rfl (Ch rfl (qe rfl ?_))))
      exact sn [] h
    ·refine BT ?_
     exact sn [(2003, 2002)] h
   ·refine Ae hs (wq rfl (qf Hs rfl (ql HW rfl (qf Cg rfl (ql A4 rfl (qm rfl ?_))))))
    refine BS h fun v11 a11 h => Gj [] [2003] (Kn N p0.fi p0.fa v5 v11 a11) Xx EC rfl (qL Fe CG rfl ?_)
    refine U8 [.int .i64 v11.fi, .int .i64 v11.fa, .int .i64 v11.fD, .int .i64 v11.fE, .int .i64 v11.fK, .int .i64 v11.fm, .int .i64 v11.fu, .int .i64 v11.fI, .int .i64 v11.fv, .int .i64 v11.fr, .int .i64 v11.fO] [.int .i64 p0.fi, .int .i64 p0.fa, .int .i64 p0.fD, .int .i64 p0.fE, .int .i64 p0.fK, .int .i64 p0.fm, .int .i64 p0.fu, .int .i64 p0.fI, .int .i64 p0.fv, .int .i64 p0.fr, .int .i64 p0.fO] (.p rfl) rfl rfl Vd rfl ?_
    refine qa rfl (AH (by kernel_rfl) ?_)
    obtain rfl := sj h
    refine Ae (sm [] [(2, bD (((v11.fi == p0.fi) && ((v11.fa == p0.fa) && ((v11.fD == p0.fD) && ((v11.fE == p0.fE) && ((v11.fK == p0.fK) && ((v11.fm == p0.fm) && ((v11.fu == p0.fu) && ((v11.fI == p0.fI) && ((v11.fv == p0.fv) && ((v11.fr == p0.fr) && ((v11.fO == p0.fO) && true)))))))))))))] [] rfl rfl) (Aq ?_)
    exact ⟨⟨[_], tm, rfl⟩, tv⟩
theorem Ex (N : Nat) (p0 : List Ab) (r : Int) (h : B6 N p0 = some r) : Ar zA 33 [pD (.sl (p0.map Aw))] [] (iD r) := by
 unfold B6 at h
 refine cw (n := 37) (rs := [.tmp 2]) Tryz.func33 fun w0 S0 => ?_
 refine wq rfl (qa rfl (Ac (wp rfl (qm rfl (AK DB rfl (Eu rfl (Ac ?_)))))))
 refine Bg h (fun h => ?_) fun h => ?_
 ·refine wq rfl (qe rfl ?_)
  obtain rfl := sj h
  refine Ae (sm [] [(2, iD 3)] [] rfl rfl) (Aq ?_)
  exact ⟨⟨[_], tm, rfl⟩, tv⟩
 ·refine Ap (wp rfl (qe rfl ?_))
  refine A0 (L := Cn N p0) h (fun v2 => mk [(0, pD (.sl (p0.map Aw))), (3, iD v2)] []) (fun v3 => mk [] []) (fun _ _ => rfl) (sm [] _ _ rfl rfl) (fun j2 n2 v2 h => ?_) (fun v3 s h hs => ?_)
  ·unfold Cn at h
   refine wp rfl (qw 2 rfl (AK DB rfl (A1 rfl (Ac ?_))))
   refine Bg h (fun h => ?_) fun h => ?_
   ·refine Ap (AT (AU ?_))
    refine AM h (fun v5 => mk [(0, pD (.sl (p0.map Aw))), (3, iD v2), (36, bD v5)] []) (fun j5 h => ?_) (fun v5 h => ?_)
    ·refine Aj Ax rfl (qw 2 rfl ?_)
     refine BU h fun v6 a6 b6 h => qi DB CG a6 (Ah b6) rfl (qK Fe CG rfl ?_)
     refine BS h fun v7 a7 h => Av [] (JN N v6 v7 a7) XL rfl (Cl rfl (qm rfl ?_))
     refine Ce 19 h rfl (fun h => ?_) fun h => ?_
     ·refine qw 3 rfl (qu rfl (qu rfl (qu rfl (qu rfl (qu rfl (qu rfl (qu rfl (qu rfl (qu rfl (qu rfl (qu rfl (qu rfl (qn rfl (qp rfl (AH (by kernel_rfl) ?_)))))))))))))))
      exact sn [] h
     ·refine qm rfl (Eu rfl (qm rfl ?_))
      refine Ce 22 h rfl (fun h => ?_) fun h => ?_
      ·refine qw 2 rfl ?_
       refine BU h fun v10 a10 b10 h => qi DB CG a10 (Ah b10) rfl (qg Hs rfl (qk HW rfl (qw 2 rfl (Lo rfl ?_))))
       refine BU h fun v11 a11 b11 h => qi DB CG a11 (Ah b11) rfl (qg Hs rfl (qk HW rfl (A1 rfl (qp rfl (qp rfl (AH (by kernel_rfl) ?_))))))
       exact sn [] h
      ·refine qw 12 rfl (qp rfl (qp rfl (AH (by kernel_rfl) ?_)))
       exact sn [] h
    ·refine Bg h (fun h => ?_) fun h => ?_
     ·refine wq rfl (qe rfl ?_)
      obtain rfl := sj h
      refine Ae (sm [] [(2, iD 1)] [] rfl rfl) (Aq ?_)
      exact ⟨⟨[_], tm, rfl⟩, tv⟩
     ·refine Ap (Aj Ax rfl (qm rfl (Ch rfl (qe rfl ?_))))
      exact sn [] h
   ·refine BT ?_
    exact sn [] h
  ·refine Ae hs (wq rfl (qe rfl ?_))
   obtain rfl := sj h
   refine Ae (sm [] [(2, iD 0)] [] rfl rfl) (Aq ?_)
   exact ⟨⟨[_], tm, rfl⟩, tv⟩
theorem Kb (N : Nat) (p0 : Aa) (p1 : Ab) (r : Bool) (h : CC N p0 p1 = some r) : Ar zA 63 [.e (.agg (Al p0)), .e (.agg (AP p1))] [] (bD r) := by
 unfold CC at h
 refine cw (n := 54) (rs := [.tmp 4]) Tryz.func63 fun w0 S0 => ?_
 refine wq rfl (qb rfl (qb rfl (qa rfl (Ac (wp rfl (qf Cg rfl (ql A4 rfl (Bb rfl (Ac ?_)))))))))
 refine Bg h (fun h => ?_) fun h => ?_
 ·refine wq rfl (qe rfl ?_)
  obtain rfl := sj h
  refine Ae (sm [] [(4, bD false)] [] rfl rfl) (Aq ?_)
  exact ⟨⟨[_], tm, rfl⟩, tv⟩
 ·refine Ap (wp rfl (qf GS rfl (ql A4 rfl (qf BN rfl (ql Fl rfl (AK De rfl (Dt rfl (Ac ?_))))))))
  refine Bg h (fun h => ?_) fun h => ?_
  ·refine wq rfl (qe rfl ?_)
   obtain rfl := sj h
   refine Ae (sm [] [(4, bD true)] [] rfl rfl) (Aq ?_)
   exact ⟨⟨[_], tm, rfl⟩, tv⟩
  ·refine Ap (wq rfl (qf BN rfl (ql Fl rfl (qf GS rfl (ql A4 rfl ?_)))))
   refine BU h fun v3 a3 b3 h => qi De B1 a3 (Ah b3) rfl (qK Fj B1 rfl (qz J0 rfl (qs B1 rfl (Ac ?_))))
   refine AM h (fun v4 => mk [(4, bD v4)] []) (fun j4 h => ?_) (fun v4 h => ?_)
   ·refine Aj Ax rfl (qf GT rfl (ql A4 rfl (qf BG rfl (ql Bm rfl (qf Cq rfl (ql A4 rfl ?_))))))
    refine BU h fun v5 a5 b5 h => qi AG Db a5 (Ah b5) rfl (qk A4 rfl (Dt rfl (qm rfl ?_)))
    refine Ce 30 h rfl (fun h => ?_) fun h => ?_
    ·refine qw 9 rfl (qp rfl (qw 12 rfl (qp rfl (qa rfl (AH (by kernel_rfl) ?_)))))
     exact sn [] h
    ·refine qf Hy rfl (ql A4 rfl (qf BG rfl (ql Bm rfl (qf Hb rfl (ql A4 rfl ?_)))))
     refine BU h fun v7 a7 b7 h => qi AG Db a7 (Ah b7) rfl (qk A4 rfl (Dt rfl (qp rfl (qm rfl ?_))))
     refine Ce 41 h rfl (fun h => ?_) fun h => ?_
     ·refine qw 11 rfl (qp rfl (qa rfl (AH (by kernel_rfl) ?_)))
      exact sn [] h
     ·refine qf G8 rfl (ql FB rfl (qf GT rfl (ql A4 rfl ?_)))
      refine BU h fun v9 a9 b9 h => qi Eg J1 a9 (Ah b9) rfl (qk J4 rfl (qf Hy rfl (ql A4 rfl ?_)))
      refine BU h fun v10 a10 b10 h => qi Ih Sa a10 (Ah b10) rfl (qk Rk rfl (Cl rfl (qp rfl (qa rfl (AH (by kernel_rfl) ?_)))))
      exact sn [] h
   ·obtain rfl := sj h
    refine Ae (sm [] [(4, bD v4)] [] rfl rfl) (Aq ?_)
    exact ⟨⟨[_], tm, rfl⟩, tv⟩
theorem JR (N : Nat) (p0 : Aa) (p1 : List Ab) (r : Int × Int) (h : CY N p0 p1 = some r) : Ar zA 27 [.e (.agg (Al p0)), pD (.sl (p1.map Aw))] [] (.tup [.one (iC r.1), .one (iC r.2)]) := by
 unfold CY at h
 refine cw (n := 32) (rs := [.tmp 4, .tmp 5]) Tryz.func27 fun w0 S0 => ?_
 refine wq rfl (qb rfl (qa rfl (qa rfl (Ac (wp rfl (qL Dg Da rfl ?_))))))
 refine BS h fun v1 a1 h => Av [] (Dm N p0 v1 a1) T9 rfl (qa rfl (Ac (wq rfl (qm rfl (Bb rfl (Ac ?_))))))
 refine Bg h (fun h => ?_) fun h => ?_
 ·refine wq rfl (qm rfl (qa rfl (qe rfl ?_)))
  obtain rfl := sj h
  refine Ae (sm [] [(4, iD 0), (5, iD v1)] [] rfl rfl) (Aq ?_)
  exact ⟨⟨[_, _], ⟨.tmp _ _ rfl, tm⟩, rfl⟩, tv⟩
 ·refine Ap (wp rfl (qm rfl ?_))
  refine BS h fun v3 a3 h => Av [] (Ex N p1 v3 a3) TD rfl (qa rfl (Ac (wq rfl (qm rfl (Bb rfl (Ac ?_))))))
  refine Bg h (fun h => ?_) fun h => ?_
  ·refine wq rfl (qm rfl (qa rfl (qe rfl ?_)))
   obtain rfl := sj h
   refine Ae (sm [] [(4, iD 0), (5, iD v3)] [] rfl rfl) (Aq ?_)
   exact ⟨⟨[_, _], ⟨.tmp _ _ rfl, tm⟩, rfl⟩, tv⟩
  ·refine Ap (wp rfl (qe rfl ?_))
   refine A0 (L := Cj N p0 p1) h (fun v5 => mk [(1, pD (.sl (p1.map Aw))), (2, oD (.ptr 2 0)), (8, iD v5)] [(2, .box (Al p0))]) (fun v6 => mk [] []) (fun _ _ => rfl) (sm [] _ _ rfl rfl) (fun j5 n5 v5 h => ?_) (fun v6 s h hs => ?_)
   ·unfold Cj at h
    refine wp rfl (qw 2 rfl (AK DB rfl (A1 rfl (Ac ?_))))
    refine Bg h (fun h => ?_) fun h => ?_
    ·refine Ap (AT (AU (wq rfl (qL Dg Da rfl (qw 2 rfl ?_)))))
     refine BU h fun v8 a8 b8 h => qi DB CG a8 (Ah b8) rfl (qK Fe CG rfl ?_)
     refine BS h fun v9 a9 h => Av [] (Kb N p0 v8 v9 a9) XW rfl (AH (by kernel_rfl) ?_)
     refine Bg h (fun h => ?_) fun h => ?_
     ·refine wq rfl (qm rfl (qa rfl (qe rfl ?_)))
      obtain rfl := sj h
      refine Ae (sm [] [(4, iD v5), (5, iD 0)] [] rfl rfl) (Aq ?_)
      exact ⟨⟨[_, _], ⟨.tmp _ _ rfl, tm⟩, rfl⟩, tv⟩
     ·refine Ap (Aj Ax rfl (qm rfl (Ch rfl (qe rfl ?_))))
      exact sn [] h
    ·refine BT ?_
     exact sn [] h
   ·refine Ae hs (wq rfl (qa rfl (qe rfl ?_)))
    obtain rfl := sj h
    refine Ae (sm [] [(4, iD 0), (5, iD 15)] [] rfl rfl) (Aq ?_)
    exact ⟨⟨[_, _], ⟨.tmp _ _ rfl, tm⟩, rfl⟩, tv⟩
theorem Nv (N : Nat) (p0 : Aa) (p1 : List Ao) (p2 : List Ab) (r : Int × Int) (h : EH N p0 p1 p2 = some r) : Ar zA 28 [.e (.agg (Al p0)), pD (.sl (p1.map AQ)), pD (.sl (p2.map Aw))] [] (.tup [.one (iC r.1), .one (iC r.2)]) := by
 unfold EH at h
 refine cw (n := 27) (rs := [.tmp 6, .tmp 7]) Tryz.func28 fun w0 S0 => ?_
 refine wq rfl (qb rfl (qa rfl (qa rfl (Ac (wq rfl (qL Dg Da rfl (qw 2 rfl ?_)))))))
 refine BS h fun v1 a1 h => Av [] (IB N p0 p1 p2 v1 a1) Xh rfl (qm rfl (qx rfl (qx rfl (qx rfl (qa rfl (qa rfl (qa rfl (Ac (AT (AU (wq rfl (qm rfl (Bb rfl (qe rfl ?_))))))))))))))
 refine Bg h (fun h => ?_) fun h => ?_
 ·refine wq rfl (qm rfl (qa rfl (qe rfl ?_)))
  obtain rfl := sj h
  refine Ae (sm [] [(6, iD 0), (7, iD v1.2.2)] [] rfl rfl) (Aq ?_)
  exact ⟨⟨[_, _], ⟨.tmp _ _ rfl, tm⟩, rfl⟩, tv⟩
 ·refine wq rfl (qm rfl (A1 rfl (qe rfl ?_)))
  refine Bg h (fun h => ?_) fun h => ?_
  ·refine wq rfl (qa rfl (qe rfl ?_))
   obtain rfl := sj h
   refine Ae (sm [] [(6, iD 0), (7, iD 15)] [] rfl rfl) (Aq ?_)
   exact ⟨⟨[_, _], ⟨.tmp _ _ rfl, tm⟩, rfl⟩, tv⟩
  ·refine Ap (wq rfl (qm rfl (qa rfl (qe rfl ?_))))
   obtain rfl := sj h
   refine Ae (sm [] [(6, iD v1.2.1), (7, iD 0)] [] rfl rfl) (Aq ?_)
   exact ⟨⟨[_, _], ⟨.tmp _ _ rfl, tm⟩, rfl⟩, tv⟩
theorem Hm (N : Nat) (p0 : Aa) (r : Af × Int) (h : C0 N p0 = some r) : Ar zA 74 [.e (.agg (Al p0))] [(1, r.1.fh.map As), (1, r.1.ff.map As), (1, r.1.fg.map DO)] (.tup [.agg [.own 0, .own 1, .own 2], .one (iC r.2)]) := by
 unfold C0 at h
 refine cw (n := 68) (rs := [.cell 2 40, .tmp 3]) Tryz.func74 fun w0 S0 => ?_
 refine wq rfl (qb rfl (qz DI rfl (qa rfl (Ac (wp rfl (qL Dg Da rfl ?_))))))
 refine BS h fun v1 a1 h => Av [] (Dm N p0 v1 a1) T9 rfl (qa rfl (Ac (wq rfl (qm rfl (Bb rfl (Ac ?_))))))
 refine Bg h (fun h => ?_) fun h => ?_
 ·refine wq rfl (Bx DI HB rfl (qm rfl (qs AY rfl (qe rfl ?_))))
  obtain rfl := sj h
  refine Ae ((Az 2 0 2001 1 _ rfl rfl rfl rfl).trans ((Az 2 1 2002 1 _ rfl rfl rfl rfl).trans ((Az 2 2 2003 1 _ rfl rfl rfl rfl).trans (sm [(1000, 2001), (1001, 2002), (1002, 2003)] [(2, oD (.ptr 2 0)), (3, iD v1)] [(2, .box [.own 1000, .own 1001, .own 1002]), (1000, .vec 1 ((([] : List Int)).map As)), (1001, .vec 1 ((([] : List Int)).map As)), (1002, .vec 1 ((([] : List Int)).map DO))] rfl rfl)))) (Aq ?_)
  exact ⟨⟨[_, _], ⟨.cellN _ _ _ _ _ _ _ rfl rfl Cc AY rfl rfl (Io rfl), tm⟩, rfl⟩, ⟨rfl, rfl, rfl, tv⟩⟩
 ·refine Ap (wq rfl (qz DI rfl (Ac (wp rfl (qe rfl ?_)))))
  refine A0 (L := BL N p0) h (fun v3 => mk [(1, oD (.ptr 1 0)), (2, oD (.ptr 2 0)), (5, oD (.ptr 5 0)), (6, iD v3.2.2)] [(1, .box (Al p0)), (2, .box [.pure (.nil0), .pure (.nil0), .pure (.nil0)]), (5, .box [.own 2004, .own 2005, .pure (.nil0)]), (2004, .vec 1 (v3.1.map As)), (2005, .vec 1 (v3.2.1.map As))]) (fun v4 => mk [(1, oD (.ptr 1 0)), (2, oD (.ptr 2 0)), (5, oD (.ptr 5 0))] [(1, .box (Al p0)), (2, .box [.pure (.nil0), .pure (.nil0), .pure (.nil0)]), (5, .box [.own 2006, .own 2007, .pure (.nil0)]), (2006, .vec 1 (v4.1.map As)), (2007, .vec 1 (v4.2.map As))]) (fun _ _ => rfl) ((Az 5 0 2008 1 _ rfl rfl rfl rfl).trans ((Az 5 1 2009 1 _ rfl rfl rfl rfl).trans (sm [(2004, 2008), (2005, 2009)] _ _ rfl rfl))) (fun j3 n3 v3 h => ?_) (fun v4 s h hs => ?_)
  ·unfold BL at h
   refine wp rfl (qm rfl (qf BG rfl (ql Bm rfl (AK AG rfl (A1 rfl (Ac ?_))))))
   refine Bg h (fun h => ?_) fun h => ?_
   ·refine Ap (AT (AU (wq rfl (qf Dy rfl (ql Bm rfl (qf Gk rfl (ql Bm rfl (qm rfl ?_))))))))
    refine BU h fun v6 a6 b6 h => qi AG Db a6 (Ah b6) rfl (qk A4 rfl (F8 AG Db Pa rfl ?_))
    refine Iq h fun c7 h => Me (f := As) AG AG Db RD Pa c7 rfl (qf Dy rfl (qs Xp rfl (AH (by kernel_rfl) (Aj Ax rfl (qf B4 rfl (ql Bm rfl (F8 AG Db Pa rfl ?_)))))))
    refine Iq h fun c8 h => Me (f := As) AG AG Db RD Pa c8 rfl (qf B4 rfl (qs Xp rfl (Ac (Aj Ax rfl (qm rfl (Ch rfl (qe rfl ?_)))))))
    exact sn [(2004, 30), (2005, 35)] h
   ·refine BT ?_
    exact sn [(2006, 2004), (2007, 2005)] h
  ·refine Ae hs (wp rfl (qe rfl ?_))
   refine A0 (L := A7 N p0) h (fun v9 => mk [(1, oD (.ptr 1 0)), (2, oD (.ptr 2 0)), (5, oD (.ptr 5 0)), (7, iD v9.2)] [(1, .box (Al p0)), (2, .box [.pure (.nil0), .pure (.nil0), .pure (.nil0)]), (5, .box [.own 2010, .own 2011, .own 2012]), (2010, .vec 1 (v4.1.map As)), (2011, .vec 1 (v4.2.map As)), (2012, .vec 1 (v9.1.map DO))]) (fun v10 => mk [(2, oD (.ptr 2 0)), (5, oD (.ptr 5 0))] [(2, .box [.pure (.nil0), .pure (.nil0), .pure (.nil0)]), (5, .box [.own 2013, .own 2014, .own 2015]), (2013, .vec 1 (v4.1.map As)), (2014, .vec 1 (v4.2.map As)), (2015, .vec 1 (v10.map DO))]) (fun _ _ => rfl) ((Az 5 2 2019 1 _ rfl rfl rfl rfl).trans (sm [(2010, 2006), (2011, 2007), (2012, 2019)] _ _ rfl rfl)) (fun j9 n9 v9 h => ?_) (fun v10 s h hs => ?_)
   ·unfold A7 at h
    refine wp rfl (qm rfl (qf BN rfl (ql Fl rfl (AK De rfl (A1 rfl (Ac ?_))))))
    refine Bg h (fun h => ?_) fun h => ?_
    ·refine Ap (AT (AU (wq rfl (qe rfl ?_))))
     refine AM h (fun v12 => mk [(1, oD (.ptr 1 0)), (2, oD (.ptr 2 0)), (5, oD (.ptr 5 0)), (7, iD v9.2), (8, pD (.val (.int .u8 v12)))] [(1, .box (Al p0)), (2, .box [.pure (.nil0), .pure (.nil0), .pure (.nil0)]), (5, .box [.own 2016, .own 2017, .own 2018]), (2016, .vec 1 (v4.1.map As)), (2017, .vec 1 (v4.2.map As)), (2018, .vec 1 (v9.1.map DO))]) (fun j12 h => ?_) (fun v12 h => ?_)
     ·refine wq rfl (qf BN rfl (ql Fl rfl (qm rfl ?_)))
      refine BU h fun v13 a13 b13 h => qi De B1 a13 (Ah b13) rfl (qK Fj B1 rfl ?_)
      refine BS h fun v14 a14 h => Av [] (Cp N v13 v14 a14) Qn rfl (Ac ?_)
      refine Bg h (fun h => ?_) fun h => ?_
      ·refine Aj Ax rfl (qf Gk rfl (ql Bm rfl (qf BN rfl (ql Fl rfl (qm rfl ?_)))))
       refine BU h fun v16 a16 b16 h => qi De B1 a16 (Ah b16) rfl (qg Cq rfl (qk A4 rfl ?_))
       refine BU h fun v17 a17 b17 h => qi AG Db a17 (Ah b17) rfl (qk A4 rfl ?_)
       refine Iq h fun c18 h => IX rfl c18 (qa rfl (AH (by kernel_rfl) ?_))
       exact sn [(2016, 2010), (2017, 2011), (2018, 2012)] h
      ·refine Ap ?_
       exact sn [(2016, 2010), (2017, 2011), (2018, 2012)] h
     ·refine Aj Ax rfl (qf C8 rfl (ql HJ rfl (qm rfl (F8 Ea Ek MJ rfl ?_))))
      refine Iq h fun c19 h => Me (f := DO) Ea Ea Ek Ot MJ c19 rfl (qf C8 rfl (qs XV rfl (Ac (Aj Ax rfl (qm rfl (Ch rfl (qe rfl ?_)))))))
      exact sn [(2010, 2016), (2011, 2017), (2012, 65)] h
    ·refine BT ?_
     exact sn [(2013, 2010), (2014, 2011), (2015, 2012)] h
   ·refine Ae hs (wq rfl (qL Cc AY rfl (qs AY rfl (qe rfl ?_))))
    obtain rfl := sj h
    refine Ae (sm [(1000, 2013), (1001, 2014), (1002, 2015)] [(2, oD (.ptr 2 0)), (3, iD 0)] [(2, .box [.own 1000, .own 1001, .own 1002]), (1000, .vec 1 (v4.1.map As)), (1001, .vec 1 (v4.2.map As)), (1002, .vec 1 (v10.map DO))] rfl rfl) (Aq ?_)
    exact ⟨⟨[_, _], ⟨.cellN _ _ _ _ _ _ _ rfl rfl Cc AY rfl rfl (Io rfl), tm⟩, rfl⟩, ⟨rfl, rfl, rfl, tv⟩⟩
theorem Fd (N : Nat) (p0 : Af) (p1 : Int) (r : Int) (h : B8 N p0 p1 = some r) : Ar zA 57 [.e (.agg (Bp p0)), iD p1] [] (pD (.val (.int .u8 r))) := by
 unfold B8 at h
 refine cw (n := 27) (rs := [.tmp 4]) Tryz.func57 fun w0 S0 => ?_
 refine wq rfl (qb rfl (qa rfl (Ac (wq rfl (qf Dy rfl (ql Bm rfl (qm rfl ?_)))))))
 refine BU h fun v1 a1 b1 h => qi AG Db a1 (Ah b1) rfl (qk A4 rfl ?_)
 refine Iq h fun c2 h => IX rfl c2 (qe rfl ?_)
 refine AM h (fun v3 => mk [(5, pD (.val (.int .u8 v3)))] []) (fun j3 h => ?_) (fun v3 h => ?_)
 ·refine wq rfl (qf B4 rfl (ql Bm rfl (qm rfl ?_)))
  refine BU h fun v4 a4 b4 h => qi AG Db a4 (Ah b4) rfl (qk A4 rfl (Dt rfl (Ac ?_)))
  refine Bg h (fun h => ?_) fun h => ?_
  ·refine Aj Ax rfl (qm rfl (qf B4 rfl (ql Bm rfl (qm rfl ?_))))
   refine BU h fun v6 a6 b6 h => qi AG Db a6 (Ah b6) rfl (qk A4 rfl ?_)
   refine Iq h fun c7 h => IX rfl c7 (Sw rfl (qe rfl ?_))
   exact sn [] h
  ·refine Ap ?_
   exact sn [] h
 ·refine wq rfl (qm rfl (qe rfl ?_))
  obtain rfl := sj h
  refine Ae (sm [] [(4, pD (.val (.int .u8 v3)))] [] rfl rfl) (Aq ?_)
  exact ⟨⟨[_], tm, rfl⟩, tv⟩
theorem Hl (N : Nat) (p0 : Aa) (p1 : Af) (r : Int) (h : C5 N p0 p1 = some r) : Ar zA 22 [.e (.agg (Al p0)), .e (.agg (Bp p1))] [] (iD r) := by
 unfold C5 at h
 refine cw (n := 154) (rs := [.tmp 4]) Tryz.func22 fun w0 S0 => ?_
 refine wq rfl (qb rfl (qb rfl (qa rfl (Ac (wp rfl (qL Dg Da rfl ?_))))))
 refine BS h fun v1 a1 h => Av [] (Dm N p0 v1 a1) T9 rfl (qa rfl (Ac (wq rfl (qm rfl (Bb rfl (Ac ?_))))))
 refine Bg h (fun h => ?_) fun h => ?_
 ·refine wq rfl (qm rfl (qe rfl ?_))
  obtain rfl := sj h
  refine Ae (sm [] [(4, iD v1)] [] rfl rfl) (Aq ?_)
  exact ⟨⟨[_], tm, rfl⟩, tv⟩
 ·refine Ap (wq rfl (qf BG rfl (ql Bm rfl (AK AG rfl (qa rfl (Ac (AT ?_)))))))
  refine AM h (fun v3 => mk [(2, oD (.ptr 2 0)), (3, oD (.ptr 3 0)), (6, iD ((p0.fc.length : Int))), (39, bD v3)] [(2, .box (Al p0)), (3, .box (Bp p1))]) (fun j3 h => ?_) (fun v3 h => ?_)
  ·refine Aj Ax rfl (qf Dy rfl (ql Bm rfl (AK AG rfl (qm rfl (Bb rfl (qm rfl ?_))))))
   refine Ce 24 h rfl (fun h => ?_) fun h => ?_
   ·refine qw 5 rfl (qp rfl (qw 8 rfl (qp rfl (Ac ?_))))
    exact sn [] h
   ·refine qf B4 rfl (ql Bm rfl (AK AG rfl (qm rfl (Bb rfl (qp rfl (qm rfl ?_))))))
    refine Ce 31 h rfl (fun h => ?_) fun h => ?_
    ·refine qw 7 rfl (qp rfl (Ac ?_))
     exact sn [] h
    ·refine qf C8 rfl (ql HJ rfl (AK Ea rfl (qf BN rfl (ql Fl rfl (AK De rfl (Bb rfl (qp rfl (Ac ?_))))))))
     exact sn [] h
  ·refine Bg h (fun h => ?_) fun h => ?_
   ·refine wq rfl (qe rfl ?_)
    obtain rfl := sj h
    refine Ae (sm [] [(4, iD 6)] [] rfl rfl) (Aq ?_)
    exact ⟨⟨[_], tm, rfl⟩, tv⟩
   ·refine Ap (wp rfl (qe rfl ?_))
    refine A0 (L := BK N p0 p1) h (fun v7 => mk [(2, oD (.ptr 2 0)), (3, oD (.ptr 3 0)), (6, iD ((p0.fc.length : Int))), (7, iD v7)] [(2, .box (Al p0)), (3, .box (Bp p1))]) (fun v8 => mk [(2, oD (.ptr 2 0)), (3, oD (.ptr 3 0))] [(2, .box (Al p0)), (3, .box (Bp p1))]) (fun _ _ => rfl) (sm [] _ _ rfl rfl) (fun j7 n7 v7 h => ?_) (fun v8 s h hs => ?_)
    ·unfold BK at h
     refine wp rfl (qw 2 rfl (A1 rfl (Ac ?_)))
     refine Bg h (fun h => ?_) fun h => ?_
     ·refine Ap (AT (AU (AT ?_)))
      refine AM h (fun v10 => mk [(2, oD (.ptr 2 0)), (3, oD (.ptr 3 0)), (6, iD ((p0.fc.length : Int))), (7, iD v7), (84, bD v10)] [(2, .box (Al p0)), (3, .box (Bp p1))]) (fun j10 h => ?_) (fun v10 h => ?_)
      ·refine Aj Ax rfl (qf Dy rfl (ql Bm rfl (qm rfl ?_)))
       refine BU h fun v11 a11 b11 h => qi AG Db a11 (Ah b11) rfl (qk A4 rfl (A1 rfl (qm rfl ?_)))
       refine Ce 51 h rfl (fun h => ?_) fun h => ?_
       ·refine qw 11 rfl (qp rfl (qw 7 rfl (qp rfl (qw 12 rfl (qp rfl (AH (by kernel_rfl) ?_))))))
        exact sn [] h
       ·refine qf Dy rfl (ql Bm rfl (qm rfl ?_))
        refine BU h fun v13 a13 b13 h => qi AG Db a13 (Ah b13) rfl (qk A4 rfl (qf BG rfl (ql Bm rfl (qm rfl ?_))))
        refine BU h fun v14 a14 b14 h => qi AG Db a14 (Ah b14) rfl (qk A4 rfl (Dt rfl (qp rfl (qm rfl ?_))))
        refine Ce 64 h rfl (fun h => ?_) fun h => ?_
        ·refine qw 6 rfl (qp rfl (qw 12 rfl (qp rfl (AH (by kernel_rfl) ?_))))
         exact sn [] h
        ·refine qf B4 rfl (ql Bm rfl (qm rfl ?_))
         refine BU h fun v16 a16 b16 h => qi AG Db a16 (Ah b16) rfl (qk A4 rfl (A1 rfl (qp rfl (qm rfl ?_))))
         refine Ce 72 h rfl (fun h => ?_) fun h => ?_
         ·refine qw 11 rfl (qp rfl (AH (by kernel_rfl) ?_))
          exact sn [] h
         ·refine qf B4 rfl (ql Bm rfl (qm rfl ?_))
          refine BU h fun v18 a18 b18 h => qi AG Db a18 (Ah b18) rfl (qk A4 rfl (qf BG rfl (ql Bm rfl (qm rfl ?_))))
          refine BU h fun v19 a19 b19 h => qi AG Db a19 (Ah b19) rfl (qk A4 rfl (Dt rfl (qp rfl (AH (by kernel_rfl) ?_))))
          exact sn [] h
      ·refine Bg h (fun h => ?_) fun h => ?_
       ·refine wq rfl (qe rfl ?_)
        obtain rfl := sj h
        refine Ae (sm [] [(4, iD 7)] [] rfl rfl) (Aq ?_)
        exact ⟨⟨[_], tm, rfl⟩, tv⟩
       ·refine Ap (wq rfl (qf Dy rfl (ql Bm rfl (qm rfl ?_))))
        refine BU h fun v21 a21 b21 h => qi AG Db a21 (Ah b21) rfl (qk A4 rfl (qf B4 rfl (ql Bm rfl (qm rfl ?_))))
        refine BU h fun v22 a22 b22 h => qi AG Db a22 (Ah b22) rfl (qk A4 rfl (AS rfl (AH (by kernel_rfl) ?_)))
        refine Bg h (fun h => ?_) fun h => ?_
        ·refine wq rfl (qe rfl ?_)
         obtain rfl := sj h
         refine Ae (sm [] [(4, iD 1)] [] rfl rfl) (Aq ?_)
         exact ⟨⟨[_], tm, rfl⟩, tv⟩
        ·refine Ap (Aj Ax rfl (qm rfl (Ch rfl (qe rfl ?_))))
         exact sn [] h
     ·refine BT ?_
      exact sn [] h
    ·refine Ae hs (wp rfl (qe rfl ?_))
     refine A0 (L := By N p0 p1) h (fun v24 => mk [(2, oD (.ptr 2 0)), (3, oD (.ptr 3 0)), (8, iD v24)] [(2, .box (Al p0)), (3, .box (Bp p1))]) (fun v25 => mk [] []) (fun _ _ => rfl) (sm [] _ _ rfl rfl) (fun j24 n24 v24 h => ?_) (fun v25 s h hs => ?_)
     ·unfold By at h
      refine wp rfl (qm rfl (qf BN rfl (ql Fl rfl (AK De rfl (A1 rfl (Ac ?_))))))
      refine Bg h (fun h => ?_) fun h => ?_
      ·refine Ap (AT (AU (wq rfl (qf BN rfl (ql Fl rfl (qm rfl ?_))))))
       refine BU h fun v27 a27 b27 h => qi De B1 a27 (Ah b27) rfl (qK Fj B1 rfl (qz J0 rfl (qs B1 rfl (Ac (wq rfl (qf BG rfl (ql Bm rfl (qf Cq rfl (ql A4 rfl ?_)))))))))
       refine BU h fun v28 a28 b28 h => qi AG Db a28 (Ah b28) rfl (qk A4 rfl ?_)
       refine Iq h fun c29 h => IX rfl c29 (Lo rfl (qe rfl ?_))
       refine AM h (fun v30 => mk [(2, oD (.ptr 2 0)), (3, oD (.ptr 3 0)), (8, iD v24), (153, bD v30)] [(2, .box (Al p0)), (3, .box (Bp p1))]) (fun j30 h => ?_) (fun v30 h => ?_)
       ·refine Aj Ax rfl (qL Fj B1 rfl ?_)
        refine BS h fun v31 a31 h => Av [] (Cp N v27 v31 a31) Qn rfl (Cl rfl (qm rfl ?_))
        refine Ce 119 h rfl (fun h => ?_) fun h => ?_
        ·refine qf C8 rfl (ql HJ rfl (qm rfl ?_))
         refine BU h fun v33 a33 b33 h => qi Ea Ek a33 (Ah b33) rfl (qk H8 rfl (Bb rfl (qp rfl (qm rfl ?_))))
         refine Ce 127 h rfl (fun h => ?_) fun h => ?_
         ·refine qw 3 rfl (qu rfl (qu rfl (qu rfl (qu rfl (qu rfl (qu rfl (qu rfl (qu rfl (qu rfl (qu rfl (qu rfl (qu rfl (qu rfl (qu rfl (qu rfl (qu rfl (qu rfl (qu rfl (qu rfl (qu rfl (qu rfl (qn rfl (qp rfl (AH (by kernel_rfl) ?_))))))))))))))))))))))))
          exact sn [] h
         ·refine qL Fj B1 rfl ?_
          refine BS h fun v35 a35 h => Av [] (Cp N v27 v35 a35) Qn rfl (qm rfl ?_)
          refine Ce 130 h rfl (fun h => ?_) fun h => ?_
          ·refine qf C8 rfl (ql HJ rfl (qm rfl ?_))
           refine BU h fun v37 a37 b37 h => qi Ea Ek a37 (Ah b37) rfl (qk H8 rfl (qm rfl (HU rfl (Bb rfl (qm rfl ?_)))))
           refine Ce 139 h rfl (fun h => ?_) fun h => ?_
           ·refine qw 11 rfl (qp rfl (qp rfl (qp rfl (AH (by kernel_rfl) ?_))))
            exact sn [] h
           ·refine qL Cc AY rfl (qf Cq rfl (ql A4 rfl ?_))
            refine BS h fun v39 a39 h => Av [] (Fd N p1 v27.fk v39 a39) Vs rfl (qf C8 rfl (ql HJ rfl (qm rfl ?_)))
            refine BU h fun v40 a40 b40 h => qi Ea Ek a40 (Ah b40) rfl (qk H8 rfl (HU rfl (Bb rfl (qp rfl (qp rfl (qp rfl (AH (by kernel_rfl) ?_)))))))
            exact sn [] h
          ·refine qw 9 rfl (qu rfl (qu rfl (qu rfl (qu rfl (qu rfl (qu rfl (qu rfl (qu rfl (qu rfl (qu rfl (qu rfl (qn rfl (qp rfl (qp rfl (AH (by kernel_rfl) ?_)))))))))))))))
           exact sn [] h
        ·refine qw 6 rfl (qp rfl (qm rfl (qL Fj B1 rfl ?_)))
         refine BS h fun v41 a41 h => Av [] (Cp N v27 v41 a41) Qn rfl (qm rfl ?_)
         refine Ce 130 h rfl (fun h => ?_) fun h => ?_
         ·refine qf C8 rfl (ql HJ rfl (qm rfl ?_))
          refine BU h fun v43 a43 b43 h => qi Ea Ek a43 (Ah b43) rfl (qk H8 rfl (qm rfl (HU rfl (Bb rfl (qm rfl ?_)))))
          refine Ce 139 h rfl (fun h => ?_) fun h => ?_
          ·refine qw 11 rfl (qp rfl (qp rfl (qp rfl (AH (by kernel_rfl) ?_))))
           exact sn [] h
          ·refine qL Cc AY rfl (qf Cq rfl (ql A4 rfl ?_))
           refine BS h fun v45 a45 h => Av [] (Fd N p1 v27.fk v45 a45) Vs rfl (qf C8 rfl (ql HJ rfl (qm rfl ?_)))
           refine BU h fun v46 a46 b46 h => qi Ea Ek a46 (Ah b46) rfl (qk H8 rfl (HU rfl (Bb rfl (qp rfl (qp rfl (qp rfl (AH (by kernel_rfl) ?_)))))))
           exact sn [] h
         ·refine qw 9 rfl (qu rfl (qu rfl (qu rfl (qu rfl (qu rfl (qu rfl (qu rfl (qu rfl (qu rfl (qu rfl (qu rfl (qn rfl (qp rfl (qp rfl (AH (by kernel_rfl) ?_)))))))))))))))
          exact sn [] h
       ·refine Bg h (fun h => ?_) fun h => ?_
        ·refine wq rfl (qe rfl ?_)
         obtain rfl := sj h
         refine Ae (sm [] [(4, iD 1)] [] rfl rfl) (Aq ?_)
         exact ⟨⟨[_], tm, rfl⟩, tv⟩
        ·refine Ap (Aj Ax rfl (qm rfl (Ch rfl (qe rfl ?_))))
         exact sn [] h
      ·refine BT ?_
       exact sn [] h
     ·refine Ae hs (wq rfl (qe rfl ?_))
      obtain rfl := sj h
      refine Ae (sm [] [(4, iD 0)] [] rfl rfl) (Aq ?_)
      exact ⟨⟨[_], tm, rfl⟩, tv⟩
theorem JI (N : Nat) (p0 : Ao) (r : Bool) (h : DV N p0 = some r) : Ar zA 156 [.e (.agg (BY p0))] [] (bD r) := by
 unfold DV at h
 refine cw (n := 31) (rs := [.tmp 2]) Tryz.func156 fun w0 S0 => ?_
 refine wq rfl (qb rfl (qe rfl ?_))
 refine AM h (fun v1 => mk [(2, bD v1)] []) (fun j1 h => ?_) (fun v1 h => ?_)
 ·refine Aj Ax rfl (qf Dh rfl (ql A4 rfl (Dt rfl (qm rfl ?_))))
  refine Ce 6 h rfl (fun h => ?_) fun h => ?_
  ·refine qf Dh rfl (ql A4 rfl (HI rfl (qp rfl (qm rfl ?_))))
   refine Ce 11 h rfl (fun h => ?_) fun h => ?_
   ·refine qf D5 rfl (ql A4 rfl (Dt rfl (qp rfl (qm rfl ?_))))
    refine Ce 16 h rfl (fun h => ?_) fun h => ?_
    ·refine qf FU rfl (ql A4 rfl (Dt rfl (qp rfl (qm rfl ?_))))
     refine Ce 21 h rfl (fun h => ?_) fun h => ?_
     ·refine qf Dh rfl (ql A4 rfl (AS rfl (qm rfl ?_)))
      refine Ce 25 h rfl (fun h => ?_) fun h => ?_
      ·refine qw 3 rfl (qp rfl (qp rfl (qe rfl ?_)))
       exact sn [] h
      ·refine qf FU rfl (ql A4 rfl (AS rfl (qp rfl (qp rfl (qe rfl ?_)))))
       exact sn [] h
     ·refine qw 4 rfl (qu rfl (qu rfl (qu rfl (qn rfl (qp rfl (qe rfl ?_))))))
      exact sn [] h
    ·refine qw 3 rfl (qp rfl (qw 5 rfl (qu rfl (qu rfl (qu rfl (qn rfl (qp rfl (qe rfl ?_))))))))
     exact sn [] h
   ·refine qw 3 rfl (qp rfl (qw 4 rfl (qp rfl (qw 5 rfl (qu rfl (qu rfl (qu rfl (qn rfl (qp rfl (qe rfl ?_))))))))))
    exact sn [] h
  ·refine qw 3 rfl (qp rfl (qw 4 rfl (qp rfl (qw 4 rfl (qp rfl (qw 5 rfl (qu rfl (qu rfl (qu rfl (qn rfl (qp rfl (qe rfl ?_))))))))))))
   exact sn [] h
 ·obtain rfl := sj h
  refine Ae (sm [] [(2, bD v1)] [] rfl rfl) (Aq ?_)
  exact ⟨⟨[_], tm, rfl⟩, tv⟩
theorem HZ (N : Nat) (p0 : Int) (p1 : Int) (r : Bool) (h : DG N p0 p1 = some r) : Ar zA 79 [pD (.val (.int .u8 p0)), iD p1] [] (bD r) := by
 unfold DG at h
 refine cw (n := 10) (rs := [.tmp 4]) Tryz.func79 fun w0 S0 => ?_
 refine wq rfl (qa rfl (Ac (wq rfl (qw 2 rfl ?_))))
 refine Iq h fun c1 h => LC rfl c1 (NW rfl (AS rfl (qe rfl ?_)))
 obtain rfl := sj h
 refine Ae (sm [] [(4, bD (((FW .u8 ((Ga .u8 p0 p1)) 1) == 1)))] [] rfl rfl) (Aq ?_)
 exact ⟨⟨[_], tm, rfl⟩, tv⟩
theorem Ew (N : Nat) (p0 : Aa) (p1 : Af) (p2 : Ao) (r : Af × Bool) (h : Bz N p0 p1 p2 = some r) : Ar zA 76 [.e (.agg (Al p0)), .e (.agg (Bp p1)), .e (.agg (BY p2))] [(1, r.1.fh.map As), (1, r.1.ff.map As), (1, r.1.fg.map DO)] (.tup [.agg [.own 0, .own 1, .own 2], .one (.pure (.val (.bool r.2)))]) := by
 unfold Bz at h
 refine cw (n := 201) (rs := [.cell 6 40, .tmp 7]) Tryz.func76 fun w0 S0 => ?_
 refine wq rfl (qb rfl (qb rfl (qb rfl (qz DI rfl (qa rfl (Ac (wq rfl (F8 AG Db Pa rfl (qf Dy rfl (ql Bm rfl ?_))))))))))
 refine Iq h fun c1 h => Li (f := As) AG AG Db RD Pa (fun _ => rfl) c1 rfl (F8 AG Db Pa rfl (qf B4 rfl (ql Bm rfl ?_)))
 refine Iq h fun c2 h => Li (f := As) AG AG Db RD Pa (fun _ => rfl) c2 rfl (F8 Ea Ek MJ rfl (qf C8 rfl (ql HJ rfl ?_)))
 refine Iq h fun c3 h => Li (f := DO) Ea Ea Ek Ot MJ (fun _ => rfl) c3 rfl (Bx DI HB rfl (qz DI rfl (qs AY rfl (AH (by kernel_rfl) (wq rfl (qf D5 rfl (ql A4 rfl (qe rfl ?_))))))))
 refine AM h (fun v4 => mk [(6, oD (.ptr 6 0)), (8, oD (.ptr 8 0))] [(6, .box [.pure (.nil0), .pure (.nil0), .pure (.nil0)]), (8, .box [.own 2001, .own 2002, .own 2003]), (2001, .vec 1 (v4.1.map As)), (2002, .vec 1 (v4.2.1.map As)), (2003, .vec 1 (v4.2.2.map DO))]) (fun j4 h => ?_) (fun v4 h => ?_)
 ·refine wq rfl (qf Dh rfl (ql A4 rfl (Ac (AU (wq rfl (AS rfl (qe rfl ?_)))))))
  refine Bg h (fun h => ?_) fun h => ?_
  ·refine AT ?_
   refine AM h (fun v6 => mk [(3, oD (.ptr 3 0)), (5, oD (.ptr 5 0)), (6, oD (.ptr 6 0)), (8, oD (.ptr 8 0)), (9, iD p2.fm), (60, bD v6)] [(3, .box (Al p0)), (5, .box (BY p2)), (6, .box [.pure (.nil0), .pure (.nil0), .pure (.nil0)]), (8, .box [.own 2004, .own 2005, .own 2006]), (2004, .vec 1 (((([] : List Int)) ++ p1.fh).map As)), (2005, .vec 1 (((([] : List Int)) ++ p1.ff).map As)), (2006, .vec 1 (((([] : List Int)) ++ p1.fg).map DO))]) (fun j6 h => ?_) (fun v6 h => ?_)
   ·refine Aj Ax rfl (qf B4 rfl (ql Bm rfl (qm rfl ?_)))
    refine BU h fun v7 a7 b7 h => qi AG Db a7 (Ah b7) rfl (qk A4 rfl (Dt rfl (qm rfl ?_)))
    refine Ce 51 h rfl (fun h => ?_) fun h => ?_
    ·refine qw 8 rfl (qp rfl (AH (by kernel_rfl) ?_))
     exact sn [(2004, 18), (2005, 22), (2006, 26)] h
    ·refine qf FU rfl (ql A4 rfl (qf Dy rfl (ql Bm rfl (qm rfl ?_))))
     refine BU h fun v9 a9 b9 h => qi AG Db a9 (Ah b9) rfl (qk A4 rfl (AS rfl (qp rfl (AH (by kernel_rfl) ?_))))
     exact sn [(2004, 18), (2005, 22), (2006, 26)] h
   ·refine Bg h (fun h => ?_) fun h => ?_
    ·refine wq rfl (Bx DI HB rfl (qs AY rfl (qe rfl ?_)))
     obtain rfl := sj h
     refine Ae ((Az 6 0 2007 1 _ rfl rfl rfl rfl).trans ((Az 6 1 2008 1 _ rfl rfl rfl rfl).trans ((Az 6 2 2009 1 _ rfl rfl rfl rfl).trans (sm [(1000, 2007), (1001, 2008), (1002, 2009)] [(6, oD (.ptr 6 0)), (7, bD false)] [(6, .box [.own 1000, .own 1001, .own 1002]), (1000, .vec 1 ((([] : List Int)).map As)), (1001, .vec 1 ((([] : List Int)).map As)), (1002, .vec 1 ((([] : List Int)).map DO))] rfl rfl)))) (Aq ?_)
     exact ⟨⟨[_, _], ⟨.cellN _ _ _ _ _ _ _ rfl rfl Cc AY rfl rfl (Io rfl), tm⟩, rfl⟩, ⟨rfl, rfl, rfl, tv⟩⟩
    ·refine Ap (wq rfl (qf B4 rfl (ql Bm rfl (qm rfl (qf FU rfl (ql A4 rfl ?_))))))
     refine BU h fun v11 a11 b11 h => qI AG Db a11 (Ah b11) rfl ?_
     refine EX rfl rfl rfl rfl (Ah b11) rfl Db rfl (Ge rfl) (EY As ((([] : List Int)) ++ p1.ff) _ p2.fr) ?_
     refine Ac (wq rfl (qe rfl ?_))
     refine A0 (L := BD N p0 p2) h (fun v12 => mk [(3, oD (.ptr 3 0)), (5, oD (.ptr 5 0)), (6, oD (.ptr 6 0)), (8, oD (.ptr 8 0)), (9, iD p2.fm), (10, iD v12.2)] [(3, .box (Al p0)), (5, .box (BY p2)), (6, .box [.pure (.nil0), .pure (.nil0), .pure (.nil0)]), (8, .box [.own 2010, .own 2011, .own 2012]), (2010, .vec 1 (((([] : List Int)) ++ p1.fh).map As)), (2011, .vec 1 ((((([] : List Int)) ++ p1.ff).set ((p2.fm).toNat) p2.fr).map As)), (2012, .vec 1 (v12.1.map DO))]) (fun v13 => mk [(6, oD (.ptr 6 0)), (8, oD (.ptr 8 0))] [(6, .box [.pure (.nil0), .pure (.nil0), .pure (.nil0)]), (8, .box [.own 2013, .own 2014, .own 2015]), (2013, .vec 1 (((([] : List Int)) ++ p1.fh).map As)), (2014, .vec 1 ((((([] : List Int)) ++ p1.ff).set ((p2.fm).toNat) p2.fr).map As)), (2015, .vec 1 (v13.map DO))]) (fun _ _ => rfl) (sm [(2010, 2004), (2011, 2005), (2012, 2006)] _ _ rfl rfl) (fun j12 n12 v12 h => ?_) (fun v13 s h hs => ?_)
     ·unfold BD at h
      refine wp rfl (qm rfl (qf BN rfl (ql Fl rfl (AK De rfl (A1 rfl (Ac ?_))))))
      refine Bg h (fun h => ?_) fun h => ?_
      ·refine Ap ?_
       refine AM h (fun v15 => mk [(3, oD (.ptr 3 0)), (5, oD (.ptr 5 0)), (6, oD (.ptr 6 0)), (8, oD (.ptr 8 0)), (9, iD p2.fm), (10, iD v12.2)] [(3, .box (Al p0)), (5, .box (BY p2)), (6, .box [.pure (.nil0), .pure (.nil0), .pure (.nil0)]), (8, .box [.own 2016, .own 2017, .own 2018]), (2016, .vec 1 (((([] : List Int)) ++ p1.fh).map As)), (2017, .vec 1 ((((([] : List Int)) ++ p1.ff).set ((p2.fm).toNat) p2.fr).map As)), (2018, .vec 1 (v15.map DO))]) (fun j15 h => ?_) (fun v15 h => ?_)
       ·refine AU ?_
        refine AM h (fun v16 => mk [(3, oD (.ptr 3 0)), (5, oD (.ptr 5 0)), (6, oD (.ptr 6 0)), (8, oD (.ptr 8 0)), (9, iD p2.fm), (10, iD v12.2), (90, bD v16)] [(3, .box (Al p0)), (5, .box (BY p2)), (6, .box [.pure (.nil0), .pure (.nil0), .pure (.nil0)]), (8, .box [.own 2019, .own 2020, .own 2021]), (2019, .vec 1 (((([] : List Int)) ++ p1.fh).map As)), (2020, .vec 1 ((((([] : List Int)) ++ p1.ff).set ((p2.fm).toNat) p2.fr).map As)), (2021, .vec 1 (v12.1.map DO))]) (fun j16 h => ?_) (fun v16 h => ?_)
        ·refine Aj Ax rfl (qf BN rfl (ql Fl rfl (qm rfl ?_)))
         refine BU h fun v17 a17 b17 h => qi De B1 a17 (Ah b17) rfl (qg Cq rfl (qk A4 rfl (qm rfl (AS rfl (qm rfl ?_)))))
         refine Ce 83 h rfl (fun h => ?_) fun h => ?_
         ·refine qf BN rfl (ql Fl rfl (qm rfl ?_))
          refine BU h fun v19 a19 b19 h => qi De B1 a19 (Ah b19) rfl (qK Fj B1 rfl ?_)
          refine BS h fun v20 a20 h => Av [] (Cp N v19 v20 a20) Qn rfl (qp rfl (Ac ?_))
          exact sn [(2019, 2010), (2020, 2011), (2021, 2012)] h
         ·refine qw 6 rfl (qp rfl (Ac ?_))
          exact sn [(2019, 2010), (2020, 2011), (2021, 2012)] h
        ·refine Bg h (fun h => ?_) fun h => ?_
         ·refine Aj Ax rfl (qf C8 rfl (ql HJ rfl (qm rfl (qf C8 rfl (ql HJ rfl (qm rfl ?_))))))
          refine BU h fun v22 a22 b22 h => qI Ea Ek a22 (Ah b22) rfl (qj H8 (Ah b22) rfl (qf FU rfl (ql A4 rfl ?_)))
          refine Iq h fun c23 h => IX rfl c23 (Sw rfl ?_)
          refine BU h fun v24 a24 b24 h => qI Ea Ek a24 (Ah b24) rfl ?_
          refine EX rfl rfl rfl rfl (Ah b24) rfl Ek rfl (Ge rfl) (EY DO v12.1 _ ((LW .u8 v22 ((DZ .u8 1 p2.fr))))) ?_
          refine AH (by kernel_rfl) ?_
          exact sn [(2016, 2019), (2017, 2020), (2018, 2021)] h
         ·refine Ap ?_
          exact sn [(2016, 2019), (2017, 2020), (2018, 2021)] h
       ·refine Aj Ax rfl (qm rfl (Ch rfl (qe rfl ?_)))
        exact sn [(2010, 2016), (2011, 2017), (2012, 2018)] h
      ·refine BT ?_
       exact sn [(2013, 2010), (2014, 2011), (2015, 2012)] h
     ·exact Ud _ h (hs.trans (sm [(2001, 2013), (2002, 2014), (2003, 2015)] _ _ rfl rfl))
  ·refine wq rfl (AS rfl (qe rfl ?_))
   refine Bg h (fun h => ?_) fun h => ?_
   ·refine wp rfl (qf B4 rfl (ql Bm rfl (qm rfl ?_)))
    refine BU h fun v26 a26 b26 h => qi AG Db a26 (Ah b26) rfl (qk A4 rfl (A1 rfl (Ac ?_)))
    refine Bg h (fun h => ?_) fun h => ?_
    ·refine wq rfl (Bx DI HB rfl (qs AY rfl (qe rfl ?_)))
     obtain rfl := sj h
     refine Ae ((Az 6 0 2022 1 _ rfl rfl rfl rfl).trans ((Az 6 1 2023 1 _ rfl rfl rfl rfl).trans ((Az 6 2 2024 1 _ rfl rfl rfl rfl).trans (sm [(1000, 2022), (1001, 2023), (1002, 2024)] [(6, oD (.ptr 6 0)), (7, bD false)] [(6, .box [.own 1000, .own 1001, .own 1002]), (1000, .vec 1 ((([] : List Int)).map As)), (1001, .vec 1 ((([] : List Int)).map As)), (1002, .vec 1 ((([] : List Int)).map DO))] rfl rfl)))) (Aq ?_)
     exact ⟨⟨[_, _], ⟨.cellN _ _ _ _ _ _ _ rfl rfl Cc AY rfl rfl (Io rfl), tm⟩, rfl⟩, ⟨rfl, rfl, rfl, tv⟩⟩
    ·refine Ap (Aj Ax rfl (qf Dy rfl (ql Bm rfl (qm rfl (qf B4 rfl (ql Bm rfl (qm rfl (qf B4 rfl (ql Bm rfl (qm rfl ?_))))))))))
     refine BU h fun v28 a28 b28 h => qi AG Db a28 (Ah b28) rfl (qk A4 rfl ?_)
     refine BU h fun v29 a29 b29 h => qI AG Db a29 (Ah b29) rfl ?_
     refine EX rfl rfl rfl rfl (Ah b29) rfl Db rfl (Ge rfl) (EY As ((([] : List Int)) ++ p1.fh) _ v28) ?_
     refine BU h fun v30 a30 b30 h => qI AG Db a30 (Ah b30) rfl ?_
     refine EX rfl rfl rfl rfl (Ah b30) rfl Db rfl (Ge rfl) (EY As ((([] : List Int)) ++ p1.ff) _ ((-1))) ?_
     refine AH (by kernel_rfl) ?_
     exact sn [(2001, 18), (2002, 22), (2003, 26)] h
   ·refine wq rfl (AS rfl (qe rfl ?_))
    refine Bg h (fun h => ?_) fun h => ?_
    ·refine wq rfl (qf BN rfl (ql Fl rfl (qm rfl ?_)))
     refine BU h fun v32 a32 b32 h => qi De B1 a32 (Ah b32) rfl (qK Fj B1 rfl (qz J0 rfl (qs B1 rfl (Ac (wp rfl (qL Fj B1 rfl ?_))))))
     refine BS h fun v33 a33 h => Av [] (Cp N v32 v33 a33) Qn rfl (Cl rfl (Ac ?_))
     refine Bg h (fun h => ?_) fun h => ?_
     ·refine wq rfl (Bx DI HB rfl (qs AY rfl (qe rfl ?_)))
      obtain rfl := sj h
      refine Ae ((Az 6 0 2025 1 _ rfl rfl rfl rfl).trans ((Az 6 1 2026 1 _ rfl rfl rfl rfl).trans ((Az 6 2 2027 1 _ rfl rfl rfl rfl).trans (sm [(1000, 2025), (1001, 2026), (1002, 2027)] [(6, oD (.ptr 6 0)), (7, bD false)] [(6, .box [.own 1000, .own 1001, .own 1002]), (1000, .vec 1 ((([] : List Int)).map As)), (1001, .vec 1 ((([] : List Int)).map As)), (1002, .vec 1 ((([] : List Int)).map DO))] rfl rfl)))) (Aq ?_)
      exact ⟨⟨[_, _], ⟨.cellN _ _ _ _ _ _ _ rfl rfl Cc AY rfl rfl (Io rfl), tm⟩, rfl⟩, ⟨rfl, rfl, rfl, tv⟩⟩
     ·refine Ap (wq rfl (qL Cc AY rfl (qf Cq rfl (ql A4 rfl ?_))))
      refine BS h fun v35 a35 h => Av [] (Fd N p1 v32.fk v35 a35) Vs rfl (qa rfl (Ac (wp rfl (qf C8 rfl (ql HJ rfl (qm rfl ?_))))))
      refine BU h fun v36 a36 b36 h => qi Ea Ek a36 (Ah b36) rfl (qk H8 rfl (qm rfl (AS rfl (Ac ?_))))
      refine Bg h (fun h => ?_) fun h => ?_
      ·refine wq rfl (Bx DI HB rfl (qs AY rfl (qe rfl ?_)))
       obtain rfl := sj h
       refine Ae ((Az 6 0 2028 1 _ rfl rfl rfl rfl).trans ((Az 6 1 2029 1 _ rfl rfl rfl rfl).trans ((Az 6 2 2030 1 _ rfl rfl rfl rfl).trans (sm [(1000, 2028), (1001, 2029), (1002, 2030)] [(6, oD (.ptr 6 0)), (7, bD false)] [(6, .box [.own 1000, .own 1001, .own 1002]), (1000, .vec 1 ((([] : List Int)).map As)), (1001, .vec 1 ((([] : List Int)).map As)), (1002, .vec 1 ((([] : List Int)).map DO))] rfl rfl)))) (Aq ?_)
       exact ⟨⟨[_, _], ⟨.cellN _ _ _ _ _ _ _ rfl rfl Cc AY rfl rfl (Io rfl), tm⟩, rfl⟩, ⟨rfl, rfl, rfl, tv⟩⟩
      ·refine Ap (wp rfl (qe rfl ?_))
       refine A0 (L := Bl N p0 p1 p2 v32 v35) h (fun v38 => mk [(3, oD (.ptr 3 0)), (4, oD (.ptr 4 0)), (6, oD (.ptr 6 0)), (8, oD (.ptr 8 0)), (9, iD p2.fm), (11, oD (.ptr 11 0)), (12, pD (.val (.int .u8 v35))), (13, iD v38)] [(3, .box (Al p0)), (4, .box (Bp p1)), (6, .box [.pure (.nil0), .pure (.nil0), .pure (.nil0)]), (8, .box [.own 2031, .own 2032, .own 2033]), (11, .box (CV v32)), (2031, .vec 1 (((([] : List Int)) ++ p1.fh).map As)), (2032, .vec 1 (((([] : List Int)) ++ p1.ff).map As)), (2033, .vec 1 (((([] : List Int)) ++ p1.fg).map DO))]) (fun v39 => mk [(6, oD (.ptr 6 0)), (8, oD (.ptr 8 0)), (9, iD p2.fm), (12, pD (.val (.int .u8 v35)))] [(6, .box [.pure (.nil0), .pure (.nil0), .pure (.nil0)]), (8, .box [.own 2034, .own 2035, .own 2036]), (2034, .vec 1 (((([] : List Int)) ++ p1.fh).map As)), (2035, .vec 1 (((([] : List Int)) ++ p1.ff).map As)), (2036, .vec 1 (((([] : List Int)) ++ p1.fg).map DO))]) (fun _ _ => rfl) (sm [(2031, 18), (2032, 22), (2033, 26)] _ _ rfl rfl) (fun j38 n38 v38 h => ?_) (fun v39 s h hs => ?_)
       ·unfold Bl at h
        refine wp rfl (qm rfl (qf BG rfl (ql Bm rfl (qf Cq rfl (ql A4 rfl ?_)))))
        refine BU h fun v40 a40 b40 h => qi AG Db a40 (Ah b40) rfl (qk A4 rfl (A1 rfl (Ac ?_)))
        refine Bg h (fun h => ?_) fun h => ?_
        ·refine Ap (AT (AU ?_))
         refine AM h (fun v42 => mk [(3, oD (.ptr 3 0)), (4, oD (.ptr 4 0)), (6, oD (.ptr 6 0)), (8, oD (.ptr 8 0)), (9, iD p2.fm), (11, oD (.ptr 11 0)), (12, pD (.val (.int .u8 v35))), (13, iD v38), (14, bD v42)] [(3, .box (Al p0)), (4, .box (Bp p1)), (6, .box [.pure (.nil0), .pure (.nil0), .pure (.nil0)]), (8, .box [.own 2037, .own 2038, .own 2039]), (11, .box (CV v32)), (2037, .vec 1 (((([] : List Int)) ++ p1.fh).map As)), (2038, .vec 1 (((([] : List Int)) ++ p1.ff).map As)), (2039, .vec 1 (((([] : List Int)) ++ p1.fg).map DO))]) (fun j42 h => ?_) (fun v42 h => ?_)
         ·refine Aj Ax rfl (qf C8 rfl (ql HJ rfl (qm rfl ?_)))
          refine BU h fun v43 a43 b43 h => qi Ea Ek a43 (Ah b43) rfl (qk H8 rfl (qm rfl ?_))
          refine BS h fun v44 a44 h => Av [] (HZ N v43 v38 v44 a44) Xs rfl (qm rfl ?_)
          refine Ce 166 h rfl (fun h => ?_) fun h => ?_
          ·refine qw 2 rfl ?_
           refine BS h fun v46 a46 h => Av [] (HZ N v35 v38 v46 a46) Xs rfl (Cl rfl (qp rfl (qe rfl ?_)))
           exact sn [(2037, 2031), (2038, 2032), (2039, 2033)] h
          ·refine qw 4 rfl (qp rfl (qe rfl ?_))
           exact sn [(2037, 2031), (2038, 2032), (2039, 2033)] h
         ·refine AM h (fun v47 => mk [(3, oD (.ptr 3 0)), (4, oD (.ptr 4 0)), (6, oD (.ptr 6 0)), (8, oD (.ptr 8 0)), (9, iD p2.fm), (11, oD (.ptr 11 0)), (12, pD (.val (.int .u8 v35))), (13, iD v38), (193, bD v47)] [(3, .box (Al p0)), (4, .box (Bp p1)), (6, .box [.pure (.nil0), .pure (.nil0), .pure (.nil0)]), (8, .box [.own 2040, .own 2041, .own 2042]), (11, .box (CV v32)), (2040, .vec 1 (((([] : List Int)) ++ p1.fh).map As)), (2041, .vec 1 (((([] : List Int)) ++ p1.ff).map As)), (2042, .vec 1 (((([] : List Int)) ++ p1.fg).map DO))]) (fun j47 h => ?_) (fun v47 h => ?_)
          ·refine Aj Ax rfl (qw 2 rfl ?_)
           refine Ce 173 h rfl (fun h => ?_) fun h => ?_
           ·refine qf Ef rfl (ql A4 rfl (AS rfl (qp rfl (qm rfl ?_))))
            refine Ce 178 h rfl (fun h => ?_) fun h => ?_
            ·refine qf Er rfl (ql FB rfl (qm rfl ?_))
             refine BU h fun v50 a50 b50 h => qi Eg J1 a50 (Ah b50) rfl (qk J4 rfl (qf Dy rfl (ql Bm rfl (qf Cq rfl (ql A4 rfl ?_)))))
             refine BU h fun v51 a51 b51 h => qi AG Db a51 (Ah b51) rfl (qk A4 rfl ?_)
             refine BU h fun v52 a52 b52 h => qi Ih Sa a52 (Ah b52) rfl (qk Rk rfl (Cl rfl (qp rfl (AH (by kernel_rfl) ?_))))
             exact sn [(2040, 2037), (2041, 2038), (2042, 2039)] h
            ·refine qw 14 rfl (qp rfl (AH (by kernel_rfl) ?_))
             exact sn [(2040, 2037), (2041, 2038), (2042, 2039)] h
           ·refine qw 3 rfl (qp rfl (qw 15 rfl (qp rfl (AH (by kernel_rfl) ?_))))
            exact sn [(2040, 2037), (2041, 2038), (2042, 2039)] h
          ·refine Bg h (fun h => ?_) fun h => ?_
           ·refine wq rfl (Bx DI HB rfl (qs AY rfl (qe rfl ?_)))
            obtain rfl := sj h
            refine Ae ((Az 6 0 2043 1 _ rfl rfl rfl rfl).trans ((Az 6 1 2044 1 _ rfl rfl rfl rfl).trans ((Az 6 2 2045 1 _ rfl rfl rfl rfl).trans (sm [(1000, 2043), (1001, 2044), (1002, 2045)] [(6, oD (.ptr 6 0)), (7, bD false)] [(6, .box [.own 1000, .own 1001, .own 1002]), (1000, .vec 1 ((([] : List Int)).map As)), (1001, .vec 1 ((([] : List Int)).map As)), (1002, .vec 1 ((([] : List Int)).map DO))] rfl rfl)))) (Aq ?_)
            exact ⟨⟨[_, _], ⟨.cellN _ _ _ _ _ _ _ rfl rfl Cc AY rfl rfl (Io rfl), tm⟩, rfl⟩, ⟨rfl, rfl, rfl, tv⟩⟩
           ·refine Ap (Aj Ax rfl (qm rfl (Ch rfl (qe rfl ?_))))
            exact sn [(2031, 2040), (2032, 2041), (2033, 2042)] h
        ·refine BT ?_
         exact sn [(2034, 2031), (2035, 2032), (2036, 2033)] h
       ·refine Ae hs (Aj Ax rfl (qf C8 rfl (ql HJ rfl (qw 2 rfl ?_))))
        refine BU h fun v54 a54 b54 h => qI Ea Ek a54 (Ah b54) rfl ?_
        refine EX rfl rfl rfl rfl (Ah b54) rfl Ek rfl (Ge rfl) (EY DO ((([] : List Int)) ++ p1.fg) _ v35) ?_
        refine Ac ?_
        exact sn [(2001, 2034), (2002, 2035), (2003, 2036)] h
    ·refine wp rfl (qf B4 rfl (ql Bm rfl (qm rfl ?_)))
     refine BU h fun v55 a55 b55 h => qi AG Db a55 (Ah b55) rfl (qk A4 rfl (A1 rfl (Ac ?_)))
     refine Bg h (fun h => ?_) fun h => ?_
     ·refine wq rfl (Bx DI HB rfl (qs AY rfl (qe rfl ?_)))
      obtain rfl := sj h
      refine Ae ((Az 6 0 2046 1 _ rfl rfl rfl rfl).trans ((Az 6 1 2047 1 _ rfl rfl rfl rfl).trans ((Az 6 2 2048 1 _ rfl rfl rfl rfl).trans (sm [(1000, 2046), (1001, 2047), (1002, 2048)] [(6, oD (.ptr 6 0)), (7, bD false)] [(6, .box [.own 1000, .own 1001, .own 1002]), (1000, .vec 1 ((([] : List Int)).map As)), (1001, .vec 1 ((([] : List Int)).map As)), (1002, .vec 1 ((([] : List Int)).map DO))] rfl rfl)))) (Aq ?_)
      exact ⟨⟨[_, _], ⟨.cellN _ _ _ _ _ _ _ rfl rfl Cc AY rfl rfl (Io rfl), tm⟩, rfl⟩, ⟨rfl, rfl, rfl, tv⟩⟩
     ·refine Ap (Aj Ax rfl (qf B4 rfl (ql Bm rfl (qm rfl ?_))))
      refine BU h fun v57 a57 b57 h => qI AG Db a57 (Ah b57) rfl ?_
      refine EX rfl rfl rfl rfl (Ah b57) rfl Db rfl (Ge rfl) (EY As ((([] : List Int)) ++ p1.ff) _ ((-1))) ?_
      refine Ac ?_
      exact sn [(2001, 18), (2002, 22), (2003, 26)] h
 ·refine wq rfl (qL Cc AY rfl (qs AY rfl (qe rfl ?_)))
  obtain rfl := sj h
  refine Ae (sm [(1000, 2001), (1001, 2002), (1002, 2003)] [(6, oD (.ptr 6 0)), (7, bD true)] [(6, .box [.own 1000, .own 1001, .own 1002]), (1000, .vec 1 (v4.1.map As)), (1001, .vec 1 (v4.2.1.map As)), (1002, .vec 1 (v4.2.2.map DO))] rfl rfl) (Aq ?_)
  exact ⟨⟨[_, _], ⟨.cellN _ _ _ _ _ _ _ rfl rfl Cc AY rfl rfl (Io rfl), tm⟩, rfl⟩, ⟨rfl, rfl, rfl, tv⟩⟩
theorem JG (N : Nat) (p0 : Aa) (p1 : Af) (p2 : Ao) (r : Af × Int) (h : DU N p0 p1 p2 = some r) : Ar zA 118 [.e (.agg (Al p0)), .e (.agg (Bp p1)), .e (.agg (BY p2))] [(1, r.1.fh.map As), (1, r.1.ff.map As), (1, r.1.fg.map DO)] (.tup [.agg [.own 0, .own 1, .own 2], .one (iC r.2)]) := by
 unfold DU at h
 refine cw (n := 73) (rs := [.cell 6 40, .tmp 7]) Tryz.func118 fun w0 S0 => ?_
 refine wq rfl (qb rfl (qb rfl (qb rfl (qz DI rfl (qa rfl (Ac (wp rfl (qL Dg Da rfl (qL Cc AY rfl ?_)))))))))
 refine BS h fun v1 a1 h => Av [] (Hl N p0 p1 v1 a1) WI rfl (qa rfl (Ac (wq rfl (qm rfl (Bb rfl (Ac ?_))))))
 refine Bg h (fun h => ?_) fun h => ?_
 ·refine wq rfl (Bx DI HB rfl (qm rfl (qs AY rfl (qe rfl ?_))))
  obtain rfl := sj h
  refine Ae ((Az 6 0 2001 1 _ rfl rfl rfl rfl).trans ((Az 6 1 2002 1 _ rfl rfl rfl rfl).trans ((Az 6 2 2003 1 _ rfl rfl rfl rfl).trans (sm [(1000, 2001), (1001, 2002), (1002, 2003)] [(6, oD (.ptr 6 0)), (7, iD v1)] [(6, .box [.own 1000, .own 1001, .own 1002]), (1000, .vec 1 ((([] : List Int)).map As)), (1001, .vec 1 ((([] : List Int)).map As)), (1002, .vec 1 ((([] : List Int)).map DO))] rfl rfl)))) (Aq ?_)
  exact ⟨⟨[_, _], ⟨.cellN _ _ _ _ _ _ _ rfl rfl Cc AY rfl rfl (Io rfl), tm⟩, rfl⟩, ⟨rfl, rfl, rfl, tv⟩⟩
 ·refine Ap (wp rfl (qL I1 Gr rfl ?_))
  refine BS h fun v3 a3 h => Av [] (JI N p2 v3 a3) WW rfl (Cl rfl (Ac ?_))
  refine Bg h (fun h => ?_) fun h => ?_
  ·refine wq rfl (Bx DI HB rfl (qs AY rfl (qe rfl ?_)))
   obtain rfl := sj h
   refine Ae ((Az 6 0 2004 1 _ rfl rfl rfl rfl).trans ((Az 6 1 2005 1 _ rfl rfl rfl rfl).trans ((Az 6 2 2006 1 _ rfl rfl rfl rfl).trans (sm [(1000, 2004), (1001, 2005), (1002, 2006)] [(6, oD (.ptr 6 0)), (7, iD 1)] [(6, .box [.own 1000, .own 1001, .own 1002]), (1000, .vec 1 ((([] : List Int)).map As)), (1001, .vec 1 ((([] : List Int)).map As)), (1002, .vec 1 ((([] : List Int)).map DO))] rfl rfl)))) (Aq ?_)
   exact ⟨⟨[_, _], ⟨.cellN _ _ _ _ _ _ _ rfl rfl Cc AY rfl rfl (Io rfl), tm⟩, rfl⟩, ⟨rfl, rfl, rfl, tv⟩⟩
  ·refine Ap (AT ?_)
   refine AM h (fun v5 => mk [(3, oD (.ptr 3 0)), (4, oD (.ptr 4 0)), (5, oD (.ptr 5 0)), (6, oD (.ptr 6 0)), (45, bD v5)] [(3, .box (Al p0)), (4, .box (Bp p1)), (5, .box (BY p2)), (6, .box [.pure (.nil0), .pure (.nil0), .pure (.nil0)])]) (fun j5 h => ?_) (fun v5 h => ?_)
   ·refine Aj Ax rfl (qf Dh rfl (ql A4 rfl (AS rfl (qm rfl ?_))))
    refine Ce 25 h rfl (fun h => ?_) fun h => ?_
    ·refine qf D5 rfl (ql A4 rfl (qf BN rfl (ql Fl rfl (AK De rfl (Dt rfl (qp rfl (qm rfl ?_)))))))
     refine Ce 33 h rfl (fun h => ?_) fun h => ?_
     ·refine qw 4 rfl (qu rfl (qu rfl (qu rfl (qu rfl (qu rfl (qu rfl (qn rfl (qp rfl (Ac ?_)))))))))
      exact sn [] h
     ·refine qf Dh rfl (ql A4 rfl (Bb rfl (qm rfl ?_)))
      refine Ce 37 h rfl (fun h => ?_) fun h => ?_
      ·refine qf D5 rfl (ql A4 rfl (qf BG rfl (ql Bm rfl (AK AG rfl (Dt rfl (qp rfl (qp rfl (Ac ?_))))))))
       exact sn [] h
      ·refine qw 6 rfl (qp rfl (qp rfl (Ac ?_)))
       exact sn [] h
    ·refine qw 6 rfl (qp rfl (qm rfl (qf Dh rfl (ql A4 rfl (Bb rfl (qm rfl ?_))))))
     refine Ce 37 h rfl (fun h => ?_) fun h => ?_
     ·refine qf D5 rfl (ql A4 rfl (qf BG rfl (ql Bm rfl (AK AG rfl (Dt rfl (qp rfl (qp rfl (Ac ?_))))))))
      exact sn [] h
     ·refine qw 6 rfl (qp rfl (qp rfl (Ac ?_)))
      exact sn [] h
   ·refine Bg h (fun h => ?_) fun h => ?_
    ·refine wq rfl (Bx DI HB rfl (qs AY rfl (qe rfl ?_)))
     obtain rfl := sj h
     refine Ae ((Az 6 0 2007 1 _ rfl rfl rfl rfl).trans ((Az 6 1 2008 1 _ rfl rfl rfl rfl).trans ((Az 6 2 2009 1 _ rfl rfl rfl rfl).trans (sm [(1000, 2007), (1001, 2008), (1002, 2009)] [(6, oD (.ptr 6 0)), (7, iD 4)] [(6, .box [.own 1000, .own 1001, .own 1002]), (1000, .vec 1 ((([] : List Int)).map As)), (1001, .vec 1 ((([] : List Int)).map As)), (1002, .vec 1 ((([] : List Int)).map DO))] rfl rfl)))) (Aq ?_)
     exact ⟨⟨[_, _], ⟨.cellN _ _ _ _ _ _ _ rfl rfl Cc AY rfl rfl (Io rfl), tm⟩, rfl⟩, ⟨rfl, rfl, rfl, tv⟩⟩
    ·refine Ap (AT ?_)
     refine AM h (fun v11 => mk [(3, oD (.ptr 3 0)), (4, oD (.ptr 4 0)), (5, oD (.ptr 5 0)), (6, oD (.ptr 6 0)), (60, bD v11)] [(3, .box (Al p0)), (4, .box (Bp p1)), (5, .box (BY p2)), (6, .box [.pure (.nil0), .pure (.nil0), .pure (.nil0)])]) (fun j11 h => ?_) (fun v11 h => ?_)
     ·refine Aj Ax rfl (qf Dh rfl (ql A4 rfl (AS rfl (qm rfl ?_))))
      refine Ce 50 h rfl (fun h => ?_) fun h => ?_
      ·refine qf FU rfl (ql A4 rfl (qf BG rfl (ql Bm rfl (qf D5 rfl (ql A4 rfl ?_)))))
       refine BU h fun v13 a13 b13 h => qi AG Db a13 (Ah b13) rfl (qk A4 rfl (Dt rfl (qp rfl (AH (by kernel_rfl) ?_))))
       exact sn [] h
      ·refine qw 9 rfl (qp rfl (AH (by kernel_rfl) ?_))
       exact sn [] h
     ·refine Bg h (fun h => ?_) fun h => ?_
      ·refine wq rfl (Bx DI HB rfl (qs AY rfl (qe rfl ?_)))
       obtain rfl := sj h
       refine Ae ((Az 6 0 2010 1 _ rfl rfl rfl rfl).trans ((Az 6 1 2011 1 _ rfl rfl rfl rfl).trans ((Az 6 2 2012 1 _ rfl rfl rfl rfl).trans (sm [(1000, 2010), (1001, 2011), (1002, 2012)] [(6, oD (.ptr 6 0)), (7, iD 4)] [(6, .box [.own 1000, .own 1001, .own 1002]), (1000, .vec 1 ((([] : List Int)).map As)), (1001, .vec 1 ((([] : List Int)).map As)), (1002, .vec 1 ((([] : List Int)).map DO))] rfl rfl)))) (Aq ?_)
       exact ⟨⟨[_, _], ⟨.cellN _ _ _ _ _ _ _ rfl rfl Cc AY rfl rfl (Io rfl), tm⟩, rfl⟩, ⟨rfl, rfl, rfl, tv⟩⟩
      ·refine Ap (wq rfl (qL Dg Da rfl (qL Cc AY rfl (qL I1 Gr rfl ?_))))
       refine BS h fun v15 a15 h => Av [2013, 2014, 2015] (Ew N p0 p1 p2 v15 a15) T4 rfl (qm rfl (qx rfl (qx rfl (qz DI rfl (qs AY rfl (qa rfl (Ac (wp rfl (qm rfl (Cl rfl (Ac ?_)))))))))))
       refine Bg h (fun h => ?_) fun h => ?_
       ·refine wq rfl (Bx DI HB rfl (qs AY rfl (qe rfl ?_)))
        obtain rfl := sj h
        refine Ae ((Az 6 0 2016 1 _ rfl rfl rfl rfl).trans ((Az 6 1 2017 1 _ rfl rfl rfl rfl).trans ((Az 6 2 2018 1 _ rfl rfl rfl rfl).trans (sm [(1000, 2016), (1001, 2017), (1002, 2018)] [(6, oD (.ptr 6 0)), (7, iD 11)] [(6, .box [.own 1000, .own 1001, .own 1002]), (1000, .vec 1 ((([] : List Int)).map As)), (1001, .vec 1 ((([] : List Int)).map As)), (1002, .vec 1 ((([] : List Int)).map DO))] rfl rfl)))) (Aq ?_)
        exact ⟨⟨[_, _], ⟨.cellN _ _ _ _ _ _ _ rfl rfl Cc AY rfl rfl (Io rfl), tm⟩, rfl⟩, ⟨rfl, rfl, rfl, tv⟩⟩
       ·refine Ap (wq rfl (qL Cc AY rfl (qs AY rfl (qe rfl ?_))))
        obtain rfl := sj h
        refine Ae (sm [(1000, 2013), (1001, 2014), (1002, 2015)] [(6, oD (.ptr 6 0)), (7, iD 0)] [(6, .box [.own 1000, .own 1001, .own 1002]), (1000, .vec 1 (v15.1.fh.map As)), (1001, .vec 1 (v15.1.ff.map As)), (1002, .vec 1 (v15.1.fg.map DO))] rfl rfl) (Aq ?_)
        exact ⟨⟨[_, _], ⟨.cellN _ _ _ _ _ _ _ rfl rfl Cc AY rfl rfl (Io rfl), tm⟩, rfl⟩, ⟨rfl, rfl, rfl, tv⟩⟩
theorem KK (N : Nat) (p0 : Aa) (p1 : Af) (p2 : List Ao) (r : (List Af) × Int × Int) (h : DJ N p0 p1 p2 = some r) : Ar zA 83 [.e (.agg (Al p0)), .e (.agg (Bp p1)), pD (.sl (p2.map AQ))] [(3, r.1.map Fk)] (.tup [.one (.own 0), .one (iC r.2.1), .one (iC r.2.2)]) := by
 unfold DJ at h
 refine cw (n := 52) (rs := [.tmp 6, .tmp 7, .tmp 8]) Tryz.func83 fun w0 S0 => ?_
 refine wq rfl (qb rfl (qb rfl (qa rfl (qa rfl (qa rfl (Ac (wp rfl (qL Dg Da rfl (qL Cc AY rfl ?_)))))))))
 refine BS h fun v1 a1 h => Av [] (Hl N p0 p1 v1 a1) WI rfl (qa rfl (Ac (wq rfl (qm rfl (Bb rfl (Ac ?_))))))
 refine Bg h (fun h => ?_) fun h => ?_
 ·refine wq rfl (qm rfl (qa rfl (qa rfl (qe rfl ?_))))
  obtain rfl := sj h
  refine Ae ((FZ 6 2001 3 rfl rfl rfl).trans (sm [(1000, 2001)] [(6, oD (.own 1000)), (7, iD 0), (8, iD v1)] [(1000, .vec 3 ((([] : List Af)).map Fk))] rfl rfl)) (Aq ?_)
  exact ⟨⟨[_, _, _], ⟨.tmp _ _ rfl, ⟨.tmp _ _ rfl, tm⟩⟩, rfl⟩, ⟨rfl, tv⟩⟩
 ·refine Ap (wq rfl (qL Cc AY rfl (F8 Ib AY DI rfl (qa rfl (Ac (wp rfl (qe rfl ?_)))))))
  refine A0 (L := CI N p0 p2) h (fun v3 => mk [(2, pD (.sl (p2.map AQ))), (3, oD (.ptr 3 0)), (10, oD (.own 2002)), (11, iD v3.2)] [(3, .box (Al p0)), (2002, .vec 3 (v3.1.map Fk))]) (fun v4 => mk [(2, pD (.sl (p2.map AQ))), (10, oD (.own 2003))] [(2003, .vec 3 (v4.map Fk))]) (fun _ _ => rfl) (sm [(2002, 21)] _ _ rfl rfl) (fun j3 n3 v3 h => ?_) (fun v4 s h hs => ?_)
  ·unfold CI at h
   refine wp rfl (qw 2 rfl (AK G6 rfl (A1 rfl (Ac ?_))))
   refine Bg h (fun h => ?_) fun h => ?_
   ·refine Ap (AT (AU (wq rfl (qL Dg Da rfl (qw 2 rfl ?_)))))
    refine BU h fun v6 a6 b6 h => qI Ib AY a6 (Ah b6) rfl (qJ Cc AY (Ah b6) rfl (qw 2 rfl ?_))
    refine BU h fun v7 a7 b7 h => qi G6 Gr a7 (Ah b7) rfl (qK I1 Gr rfl ?_)
    refine BS h fun v8 a8 h => Av [2004, 2005, 2006] (JG N p0 v6 v7 v8 a8) WY rfl (qm rfl (qx rfl (qx rfl (qz DI rfl (qs AY rfl (qa rfl (AH (by kernel_rfl) (wp rfl (qm rfl (Bb rfl (Ac ?_)))))))))))
    refine Bg h (fun h => ?_) fun h => ?_
    ·refine wq rfl (qw 2 rfl (qa rfl (qa rfl (qe rfl ?_))))
     obtain rfl := sj h
     refine Ae ((FZ 6 2007 3 rfl rfl rfl).trans (sm [(1000, 2007)] [(6, oD (.own 1000)), (7, iD v3.2), (8, iD v8.2)] [(1000, .vec 3 ((([] : List Af)).map Fk))] rfl rfl)) (Aq ?_)
     exact ⟨⟨[_, _, _], ⟨.tmp _ _ rfl, ⟨.tmp _ _ rfl, tm⟩⟩, rfl⟩, ⟨rfl, tv⟩⟩
    ·refine Ap (Aj Ax rfl (qm rfl (qL Cc AY rfl (FO (Bn 2004 _ _ rfl rfl) (FO (Bn 2005 _ _ rfl rfl) (FO (Bn 2006 _ _ rfl rfl) (F8 Ib AY DI rfl ?_)))))))
     refine Iq h fun c10 h => Me (f := Fk) Ib Ib AY UT DI c10 rfl (qa rfl (Ac (Aj Ax rfl (qm rfl (Ch rfl (qe rfl ?_))))))
     exact sn [(2002, 48)] h
   ·refine BT ?_
    exact sn [(2003, 2002)] h
  ·refine Ae hs (wq rfl (qw 2 rfl (AK G6 rfl (qa rfl (qa rfl (qe rfl ?_))))))
   obtain rfl := sj h
   refine Ae (sm [(1000, 2003)] [(6, oD (.own 1000)), (7, iD ((p2.length : Int))), (8, iD 0)] [(1000, .vec 3 (v4.map Fk))] rfl rfl) (Aq ?_)
   exact ⟨⟨[_, _, _], ⟨.tmp _ _ rfl, ⟨.tmp _ _ rfl, tm⟩⟩, rfl⟩, ⟨rfl, tv⟩⟩
theorem Hn (N : Nat) (p0 : Aa) (p1 : List Ao) (r : Int) (h : CZ N p0 p1 = some r) : Ar zA 40 [.e (.agg (Al p0)), pD (.sl (p1.map AQ))] [] (iD r) := by
 unfold CZ at h
 refine cw (n := 37) (rs := [.tmp 4]) Tryz.func40 fun w0 S0 => ?_
 refine wq rfl (qb rfl (qa rfl (Ac (wq rfl (qL Dg Da rfl ?_)))))
 refine BS h fun v1 a1 h => Av [2001, 2002, 2003] (Hm N p0 v1 a1) Wm rfl (qm rfl (qx rfl (qx rfl (qz DI rfl (qs AY rfl (qa rfl (Ac (wp rfl (qm rfl (Bb rfl (Ac ?_)))))))))))
 refine Bg h (fun h => ?_) fun h => ?_
 ·refine wq rfl (qm rfl (qe rfl ?_))
  obtain rfl := sj h
  refine Ae (sm [] [(4, iD v1.2)] [] rfl rfl) (Aq ?_)
  exact ⟨⟨[_], tm, rfl⟩, tv⟩
 ·refine Ap (wp rfl (qe rfl ?_))
  refine A0 (L := Ck N p1) h (fun v3 => mk [(1, pD (.sl (p1.map AQ))), (2, oD (.ptr 2 0)), (5, oD (.ptr 5 0)), (7, iD v3)] [(2, .box (Al p0)), (5, .box [.own 2004, .own 2005, .own 2006]), (2004, .vec 1 (v1.1.fh.map As)), (2005, .vec 1 (v1.1.ff.map As)), (2006, .vec 1 (v1.1.fg.map DO))]) (fun v4 => mk [(1, pD (.sl (p1.map AQ))), (2, oD (.ptr 2 0)), (5, oD (.ptr 5 0))] [(2, .box (Al p0)), (5, .box [.own 2007, .own 2008, .own 2009]), (2007, .vec 1 (v1.1.fh.map As)), (2008, .vec 1 (v1.1.ff.map As)), (2009, .vec 1 (v1.1.fg.map DO))]) (fun _ _ => rfl) (sm [(2004, 2001), (2005, 2002), (2006, 2003)] _ _ rfl rfl) (fun j3 n3 v3 h => ?_) (fun v4 s h hs => ?_)
  ·unfold Ck at h
   refine wp rfl (qw 2 rfl (AK G6 rfl (A1 rfl (Ac ?_))))
   refine Bg h (fun h => ?_) fun h => ?_
   ·refine Ap (AT (AU (wq rfl (qw 2 rfl ?_))))
    refine BU h fun v6 a6 b6 h => qi G6 Gr a6 (Ah b6) rfl (qg Dh rfl (qk A4 rfl (AS rfl (Ac ?_))))
    refine Bg h (fun h => ?_) fun h => ?_
    ·refine wq rfl (qe rfl ?_)
     obtain rfl := sj h
     refine Ae (sm [] [(4, iD 1)] [] rfl rfl) (Aq ?_)
     exact ⟨⟨[_], tm, rfl⟩, tv⟩
    ·refine Ap (Aj Ax rfl (qm rfl (Ch rfl (qe rfl ?_))))
     exact sn [] h
   ·refine BT ?_
    exact sn [(2007, 2004), (2008, 2005), (2009, 2006)] h
  ·refine Ae hs (wq rfl (qL Dg Da rfl (qL Cc AY rfl (qm rfl (FO (Bn 2007 _ _ rfl rfl) (FO (Bn 2008 _ _ rfl rfl) (FO (Bn 2009 _ _ rfl rfl) ?_)))))))
   refine BS h fun v8 a8 h => Av [2010] (KK N p0 v1.1 p1 v8 a8) XX rfl (qm rfl (qx rfl (qx rfl (qx rfl (qa rfl (Ac (wq rfl (qm rfl (qe rfl ?_)))))))))
   obtain rfl := sj h
   refine Ae (sm [] [(4, iD v8.2.2)] [] rfl rfl) (Aq ?_)
   exact ⟨⟨[_], tm, rfl⟩, tv⟩
theorem JK (N : Nat) (p0 : Aa) (r : AD) (h : En N p0 = some r) : Ar zA 36 [.e (.agg (Al p0))] [(1, r.fe.fh.map As), (1, r.fe.ff.map As), (1, r.fe.fg.map DO)] (.e (.agg [iC r.fi, .pure (.val (.bool r.fN)), .pure (.val (.bool r.fM)), .own 0, .own 1, .own 2])) := by
 unfold En at h
 refine cw (n := 12) (rs := [.cell 2 73]) Tryz.func36 fun w0 S0 => ?_
 refine wq rfl (qb rfl (qz QB rfl (Ac (wq rfl (qL Dg Da rfl ?_)))))
 refine BS h fun v1 a1 h => Av [2001, 2002, 2003] (Hm N p0 v1 a1) Wm rfl (qm rfl (qx rfl (qx rfl (qz DI rfl (qs AY rfl (qa rfl (Ac (wq rfl (qL Cc AY rfl (Bx QB Yg rfl (qs G1 rfl (Ac ?_))))))))))))
 obtain rfl := sj h
 refine Ae (sm [(1000, 2001), (1001, 2002), (1002, 2003)] [(2, oD (.ptr 2 0))] [(2, .box [iC 0, .pure (.val (.bool false)), .pure (.val (.bool false)), .own 1000, .own 1001, .own 1002]), (1000, .vec 1 (v1.1.fh.map As)), (1001, .vec 1 (v1.1.ff.map As)), (1002, .vec 1 (v1.1.fg.map DO))] rfl rfl) (Aq ?_)
 exact ⟨⟨[_], ⟨.cellN _ _ _ _ _ _ _ rfl rfl Kk G1 rfl rfl (Io rfl), tv⟩, rfl⟩, ⟨rfl, rfl, rfl, tv⟩⟩
theorem GP (N : Nat) (p0 : Ab) (r : Bool) (h : Dj N p0 = some r) : Ar zA 75 [.e (.agg (AP p0))] [] (bD r) := by
 unfold Dj at h
 refine cw (n := 11) (rs := [.tmp 2]) Tryz.func75 fun w0 S0 => ?_
 refine wq rfl (qb rfl (qe rfl ?_))
 refine AM h (fun v1 => mk [(2, bD v1)] []) (fun j1 h => ?_) (fun v1 h => ?_)
 ·refine Aj Ax rfl (qf Cg rfl (ql A4 rfl (Dt rfl (qm rfl ?_))))
  refine Ce 6 h rfl (fun h => ?_) fun h => ?_
  ·refine qf Cg rfl (ql A4 rfl (HI rfl (qp rfl (qe rfl ?_))))
   exact sn [] h
  ·refine qw 3 rfl (qp rfl (qe rfl ?_))
   exact sn [] h
 ·obtain rfl := sj h
  refine Ae (sm [] [(2, bD v1)] [] rfl rfl) (Aq ?_)
  exact ⟨⟨[_], tm, rfl⟩, tv⟩
theorem JP (N : Nat) (p0 : Aa) (p1 : List Ao) (p2 : AD) (p3 : Ab) (r : AD × Bool) (h : CU N p0 p1 p2 p3 = some r) : Ar zA 37 [.e (.agg (Al p0)), pD (.sl (p1.map AQ)), .e (.agg (AZ p2)), .e (.agg (AP p3))] [] (.tup [.agg (AZ r.1), .one (.pure (.val (.bool r.2)))]) := by
 unfold CU at h
 refine cw (n := 122) (rs := [.cell 8 73, .tmp 9]) Tryz.func37 fun w0 S0 => ?_
 refine wq rfl (qb rfl (qb rfl (qb rfl (qz QB rfl (qa rfl (Ac (wp rfl (qL Fe CG rfl ?_))))))))
 refine BS h fun v1 a1 h => Av [] (GP N p3 v1 a1) Vl rfl (Cl rfl (Ac ?_))
 refine Bg h (fun h => ?_) fun h => ?_
 ·refine wq rfl (qL Kk G1 rfl (qs G1 rfl (qe rfl ?_)))
  obtain rfl := sj h
  refine Ae (sm [] [(8, oD (.ptr 8 0)), (9, bD true)] [(8, .box (AZ p2))] rfl rfl) (Aq ?_)
  exact ⟨⟨[_, _], ⟨.cellN _ _ _ _ _ _ _ rfl rfl Kk G1 rfl rfl (Io rfl), tm⟩, rfl⟩, tv⟩
 ·refine Ap (AT ?_)
  refine AM h (fun v3 => mk [(1, pD (.sl (p1.map AQ))), (4, oD (.ptr 4 0)), (6, oD (.ptr 6 0)), (7, oD (.ptr 7 0)), (8, oD (.ptr 8 0)), (26, bD v3)] [(4, .box (Al p0)), (6, .box (AZ p2)), (7, .box (AP p3)), (8, .box [iC 0, .pure (.val (.bool false)), .pure (.val (.bool false)), .pure (.nil0), .pure (.nil0), .pure (.nil0)])]) (fun j3 h => ?_) (fun v3 h => ?_)
  ·refine Aj Ax rfl (qf Jx rfl (ql A4 rfl (qf KL rfl (ql A4 rfl (Bb rfl (qm rfl ?_))))))
   refine Ce 20 h rfl (fun h => ?_) fun h => ?_
   ·refine qw 5 rfl (qp rfl (Ac ?_))
    exact sn [] h
   ·refine qf KL rfl (ql A4 rfl (qm rfl (AK G6 rfl (Dt rfl (qp rfl (Ac ?_))))))
    exact sn [] h
  ·refine Bg h (fun h => ?_) fun h => ?_
   ·refine wq rfl (qL Kk G1 rfl (qs G1 rfl (qe rfl ?_)))
    obtain rfl := sj h
    refine Ae (sm [] [(8, oD (.ptr 8 0)), (9, bD false)] [(8, .box (AZ p2))] rfl rfl) (Aq ?_)
    exact ⟨⟨[_, _], ⟨.cellN _ _ _ _ _ _ _ rfl rfl Kk G1 rfl rfl (Io rfl), tm⟩, rfl⟩, tv⟩
   ·refine Ap (wq rfl (qm rfl (qf KL rfl (ql A4 rfl ?_))))
    refine BU h fun v6 a6 b6 h => qi G6 Gr a6 (Ah b6) rfl (qK I1 Gr rfl (qz Pd rfl (qs Gr rfl (Ac ?_))))
    refine AM h (fun v7 => mk [(6, oD (.ptr 6 0)), (8, oD (.ptr 8 0))] [(6, .box [iC v7.1, .pure (.val (.bool v7.2.1)), .pure (.val (.bool v7.2.2.1)), sC (v7.2.2.2.1.map As), sC (v7.2.2.2.2.1.map As), sC (v7.2.2.2.2.2.map DO)]), (8, .box [iC 0, .pure (.val (.bool false)), .pure (.val (.bool false)), .pure (.nil0), .pure (.nil0), .pure (.nil0)])]) (fun j7 h => ?_) (fun v7 h => ?_)
    ·refine AU ?_
     refine AM h (fun v8 => mk [(4, oD (.ptr 4 0)), (6, oD (.ptr 6 0)), (7, oD (.ptr 7 0)), (8, oD (.ptr 8 0)), (10, oD (.ptr 10 0)), (34, bD v8)] [(4, .box (Al p0)), (6, .box (AZ p2)), (7, .box (AP p3)), (8, .box [iC 0, .pure (.val (.bool false)), .pure (.val (.bool false)), .pure (.nil0), .pure (.nil0), .pure (.nil0)]), (10, .box (BY v6))]) (fun j8 h => ?_) (fun v8 h => ?_)
     ·refine Aj Ax rfl (qf Cg rfl (ql A4 rfl (AS rfl (qm rfl ?_))))
      refine Ce 38 h rfl (fun h => ?_) fun h => ?_
      ·refine qf Jz rfl (ql Rk rfl (Cl rfl (qp rfl (qm rfl ?_))))
       refine Ce 43 h rfl (fun h => ?_) fun h => ?_
       ·refine qf L8 rfl (ql Rk rfl (Cl rfl (qp rfl (qe rfl ?_))))
        exact sn [] h
       ·refine qw 3 rfl (qp rfl (qe rfl ?_))
        exact sn [] h
      ·refine qw 3 rfl (qp rfl (qw 4 rfl (qp rfl (qe rfl ?_))))
       exact sn [] h
     ·refine Bg h (fun h => ?_) fun h => ?_
      ·refine wq rfl (qf Jz rfl (qs Sa rfl (Ac (wq rfl (qf Dh rfl (ql A4 rfl (AS rfl (Ac ?_))))))))
       refine Bg h (fun h => ?_) fun h => ?_
       ·refine Aj Ax rfl (qL Dg Da rfl (qf Jy rfl (qL Cc AY rfl (qL I1 Gr rfl ?_))))
        refine BS h fun v13 a13 h => Av [2001, 2002, 2003] (Ew N p0 ((Af.mk p2.fe.fh p2.fe.ff p2.fe.fg)) v6 v13 a13) T4 rfl (qm rfl (qx rfl (qx rfl (qf Jy rfl (qs AY rfl (Ac ?_))))))
        exact Ud _ h ((Bn 2001 _ _ rfl rfl).trans ((Bn 2002 _ _ rfl rfl).trans ((Bn 2003 _ _ rfl rfl).trans (sm [] _ _ rfl rfl))))
       ·refine Ap ?_
        exact sn [] h
      ·refine AM h (fun v14 => mk [(4, oD (.ptr 4 0)), (6, oD (.ptr 6 0)), (7, oD (.ptr 7 0)), (8, oD (.ptr 8 0)), (10, oD (.ptr 10 0)), (61, bD v14)] [(4, .box (Al p0)), (6, .box (AZ p2)), (7, .box (AP p3)), (8, .box [iC 0, .pure (.val (.bool false)), .pure (.val (.bool false)), .pure (.nil0), .pure (.nil0), .pure (.nil0)]), (10, .box (BY v6))]) (fun j14 h => ?_) (fun v14 h => ?_)
       ·refine Aj Ax rfl (qf Cg rfl (ql A4 rfl (AS rfl (qm rfl ?_))))
        refine Ce 65 h rfl (fun h => ?_) fun h => ?_
        ·refine qf Jz rfl (ql Rk rfl (qp rfl (qe rfl ?_)))
         exact sn [] h
        ·refine qw 2 rfl (qp rfl (qe rfl ?_))
         exact sn [] h
       ·refine Bg h (fun h => ?_) fun h => ?_
        ·refine wq rfl (qf Jz rfl (qs Sa rfl (Ac (wq rfl (qf KL rfl (ql A4 rfl (Ch rfl (qf KL rfl (qs Db rfl (Ac (wq rfl (qf Dh rfl (ql A4 rfl (Bb rfl (Ac ?_)))))))))))))))
         refine Bg h (fun h => ?_) fun h => ?_
         ·refine Aj Ax rfl (qL Dg Da rfl (qf Jy rfl (qL Cc AY rfl (qL I1 Gr rfl ?_))))
          refine BS h fun v18 a18 h => Av [2004, 2005, 2006] (Ew N p0 ((Af.mk p2.fe.fh p2.fe.ff p2.fe.fg)) v6 v18 a18) T4 rfl (qm rfl (qx rfl (qx rfl (qf Jy rfl (qs AY rfl (Ac ?_))))))
          exact Ud _ h ((Bn 2004 _ _ rfl rfl).trans ((Bn 2005 _ _ rfl rfl).trans ((Bn 2006 _ _ rfl rfl).trans (sm [] _ _ rfl rfl))))
         ·refine Ap ?_
          exact sn [] h
        ·refine AM h (fun v19 => mk [(4, oD (.ptr 4 0)), (6, oD (.ptr 6 0)), (7, oD (.ptr 7 0)), (8, oD (.ptr 8 0)), (10, oD (.ptr 10 0)), (86, bD v19)] [(4, .box (Al p0)), (6, .box (AZ p2)), (7, .box (AP p3)), (8, .box [iC 0, .pure (.val (.bool false)), .pure (.val (.bool false)), .pure (.nil0), .pure (.nil0), .pure (.nil0)]), (10, .box (BY v6))]) (fun j19 h => ?_) (fun v19 h => ?_)
         ·refine Aj Ax rfl (qf Cg rfl (ql A4 rfl (AS rfl (qm rfl ?_))))
          refine Ce 90 h rfl (fun h => ?_) fun h => ?_
          ·refine qf Jz rfl (ql Rk rfl (qp rfl (qm rfl ?_)))
           refine Ce 94 h rfl (fun h => ?_) fun h => ?_
           ·refine qf Dh rfl (ql A4 rfl (AS rfl (qp rfl (qe rfl ?_))))
            exact sn [] h
           ·refine qw 3 rfl (qp rfl (qe rfl ?_))
            exact sn [] h
          ·refine qw 2 rfl (qp rfl (qw 4 rfl (qp rfl (qe rfl ?_))))
           exact sn [] h
         ·refine Bg h (fun h => ?_) fun h => ?_
          ·refine Aj Ax rfl (qf Jz rfl (qs Sa rfl (qf L8 rfl (qs Sa rfl (Ac ?_)))))
           exact sn [] h
          ·refine AM h (fun v23 => mk [(4, oD (.ptr 4 0)), (6, oD (.ptr 6 0)), (8, oD (.ptr 8 0)), (10, oD (.ptr 10 0)), (101, bD v23)] [(4, .box (Al p0)), (6, .box (AZ p2)), (8, .box [iC 0, .pure (.val (.bool false)), .pure (.val (.bool false)), .pure (.nil0), .pure (.nil0), .pure (.nil0)]), (10, .box (BY v6))]) (fun j23 h => ?_) (fun v23 h => ?_)
           ·refine Aj Ax rfl (qf Cg rfl (ql A4 rfl (AS rfl (qm rfl ?_))))
            refine Ce 105 h rfl (fun h => ?_) fun h => ?_
            ·refine qf L8 rfl (ql Rk rfl (qp rfl (qe rfl ?_)))
             exact sn [] h
            ·refine qw 2 rfl (qp rfl (qe rfl ?_))
             exact sn [] h
           ·refine Bg h (fun h => ?_) fun h => ?_
            ·refine wq rfl (qf L8 rfl (qs Sa rfl (Ac (Aj Ax rfl (qL Dg Da rfl (qf Jy rfl (qL Cc AY rfl (qf D5 rfl (ql A4 rfl (Bx Pd UC rfl ?_))))))))))
             refine BS h fun v26 a26 h => Av [2007, 2008, 2009] (Ew N p0 ((Af.mk p2.fe.fh p2.fe.ff p2.fe.fg)) ((Ao.mk 4 v6.fm 0)) v26 a26) T4 rfl (qm rfl (qx rfl (qx rfl (qf Jy rfl (qs AY rfl (Ac ?_))))))
             exact Ud _ h ((Bn 2007 _ _ rfl rfl).trans ((Bn 2008 _ _ rfl rfl).trans ((Bn 2009 _ _ rfl rfl).trans (sm [] _ _ rfl rfl))))
            ·refine wq rfl (qL Kk G1 rfl (qs G1 rfl (qe rfl ?_)))
             obtain rfl := sj h
             refine Ae (sm [] [(8, oD (.ptr 8 0)), (9, bD false)] [(8, .box (AZ p2))] rfl rfl) (Aq ?_)
             exact ⟨⟨[_, _], ⟨.cellN _ _ _ _ _ _ _ rfl rfl Kk G1 rfl rfl (Io rfl), tm⟩, rfl⟩, tv⟩
    ·refine wq rfl (qL Kk G1 rfl (qs G1 rfl (qe rfl ?_)))
     obtain rfl := sj h
     refine Ae (sm [] [(8, oD (.ptr 8 0)), (9, bD true)] [(8, .box [iC v7.1, .pure (.val (.bool v7.2.1)), .pure (.val (.bool v7.2.2.1)), sC (v7.2.2.2.1.map As), sC (v7.2.2.2.2.1.map As), sC (v7.2.2.2.2.2.map DO)])] rfl rfl) (Aq ?_)
     exact ⟨⟨[_, _], ⟨.cellN _ _ _ _ _ _ _ rfl rfl Kk G1 rfl rfl (Io rfl), tm⟩, rfl⟩, tv⟩
theorem Kc (N : Nat) (p0 : Aa) (p1 : List Ao) (p2 : List Ab) (r : AD × Int) (h : D9 N p0 p1 p2 = some r) : Ar zA 41 [.e (.agg (Al p0)), pD (.sl (p1.map AQ)), pD (.sl (p2.map Aw))] [] (.tup [.agg (AZ r.1), .one (iC r.2)]) := by
 unfold D9 at h
 refine cw (n := 37) (rs := [.cell 6 73, .tmp 7]) Tryz.func41 fun w0 S0 => ?_
 refine wq rfl (qb rfl (qz QB rfl (qa rfl (Ac (wq rfl (qL Dg Da rfl ?_))))))
 refine BS h fun v1 a1 h => Av [2001, 2002, 2003] (JK N p0 v1 a1) XP rfl (qz QB rfl (qs G1 rfl (Ac (wp rfl (qe rfl ?_)))))
 refine A0 (L := Cy N p0 p1 p2) h (fun v2 => mk [(1, pD (.sl (p1.map AQ))), (2, pD (.sl (p2.map Aw))), (3, oD (.ptr 3 0)), (6, oD (.ptr 6 0)), (8, oD (.ptr 8 0)), (9, iD v2.2.2.2.2.2.2)] [(3, .box (Al p0)), (6, .box [iC 0, .pure (.val (.bool false)), .pure (.val (.bool false)), .pure (.nil0), .pure (.nil0), .pure (.nil0)]), (8, .box [iC v2.1, .pure (.val (.bool v2.2.1)), .pure (.val (.bool v2.2.2.1)), sC (v2.2.2.2.1.map As), sC (v2.2.2.2.2.1.map As), sC (v2.2.2.2.2.2.1.map DO)])]) (fun v3 => mk [(6, oD (.ptr 6 0)), (8, oD (.ptr 8 0))] [(6, .box [iC 0, .pure (.val (.bool false)), .pure (.val (.bool false)), .pure (.nil0), .pure (.nil0), .pure (.nil0)]), (8, .box (AZ v3))]) (fun _ _ => rfl) ((Bn 2001 _ _ rfl rfl).trans ((Bn 2002 _ _ rfl rfl).trans ((Bn 2003 _ _ rfl rfl).trans (sm [] _ _ rfl rfl)))) (fun j2 n2 v2 h => ?_) (fun v3 s h hs => ?_)
 ·unfold Cy at h
  refine wp rfl (qw 2 rfl (AK DB rfl (A1 rfl (Ac ?_))))
  refine Bg h (fun h => ?_) fun h => ?_
  ·refine Ap (AT (AU (wq rfl (qL Dg Da rfl (qm rfl (qL Kk G1 rfl (qw 2 rfl ?_)))))))
   refine BU h fun v5 a5 b5 h => qi DB CG a5 (Ah b5) rfl (qK Fe CG rfl ?_)
   refine BS h fun v6 a6 h => Av [] (JP N p0 p1 ((AD.mk v2.1 v2.2.1 v2.2.2.1 ((Af.mk v2.2.2.2.1 v2.2.2.2.2.1 v2.2.2.2.2.2.1)))) v5 v6 a6) XY rfl (qm rfl (qx rfl (qx rfl (qz QB rfl (qs G1 rfl (qa rfl (AH (by kernel_rfl) (wp rfl (qm rfl (Cl rfl (Ac ?_)))))))))))
   refine Bg h (fun h => ?_) fun h => ?_
   ·refine wq rfl (qL Kk G1 rfl (qm rfl (qs G1 rfl (qe rfl ?_))))
    obtain rfl := sj h
    refine Ae (sm [] [(6, oD (.ptr 6 0)), (7, iD v2.2.2.2.2.2.2)] [(6, .box [iC v2.1, .pure (.val (.bool v2.2.1)), .pure (.val (.bool v2.2.2.1)), sC (v2.2.2.2.1.map As), sC (v2.2.2.2.2.1.map As), sC (v2.2.2.2.2.2.1.map DO)])] rfl rfl) (Aq ?_)
    exact ⟨⟨[_, _], ⟨.cellN _ _ _ _ _ _ _ rfl rfl Kk G1 rfl rfl (Io rfl), tm⟩, rfl⟩, tv⟩
   ·refine Ap (Aj Ax rfl (qL Kk G1 rfl (qs G1 rfl (Ac (Aj Ax rfl (qm rfl (Ch rfl (qe rfl ?_))))))))
    exact sn [] h
  ·refine BT ?_
   exact sn [] h
 ·refine Ae hs (wq rfl (qL Kk G1 rfl (qs G1 rfl (qe rfl ?_))))
  obtain rfl := sj h
  refine Ae (sm [] [(6, oD (.ptr 6 0)), (7, iD ((-1)))] [(6, .box (AZ v3))] rfl rfl) (Aq ?_)
  exact ⟨⟨[_, _], ⟨.cellN _ _ _ _ _ _ _ rfl rfl Kk G1 rfl rfl (Io rfl), tm⟩, rfl⟩, tv⟩
theorem JJ (N : Nat) (p0 : Aa) (p1 : List Ao) (p2 : List Ab) (r : Int × Int) (h : C4 N p0 p1 p2 = some r) : Ar zA 29 [.e (.agg (Al p0)), pD (.sl (p1.map AQ)), pD (.sl (p2.map Aw))] [] (.tup [.one (iC r.1), .one (iC r.2)]) := by
 unfold C4 at h
 refine cw (n := 33) (rs := [.tmp 6, .tmp 7]) Tryz.func29 fun w0 S0 => ?_
 refine wq rfl (qb rfl (qa rfl (qa rfl (Ac (wp rfl (qL Dg Da rfl (qm rfl ?_)))))))
 refine BS h fun v1 a1 h => Av [] (Hn N p0 p1 v1 a1) Wl rfl (qa rfl (Ac (wq rfl (qm rfl (Bb rfl (Ac ?_))))))
 refine Bg h (fun h => ?_) fun h => ?_
 ·refine wq rfl (qm rfl (qa rfl (qe rfl ?_)))
  obtain rfl := sj h
  refine Ae (sm [] [(6, iD 0), (7, iD v1)] [] rfl rfl) (Aq ?_)
  exact ⟨⟨[_, _], ⟨.tmp _ _ rfl, tm⟩, rfl⟩, tv⟩
 ·refine Ap (wp rfl (qm rfl ?_))
  refine BS h fun v3 a3 h => Av [] (Ex N p2 v3 a3) TD rfl (qa rfl (Ac (wq rfl (qm rfl (Bb rfl (Ac ?_))))))
  refine Bg h (fun h => ?_) fun h => ?_
  ·refine wq rfl (qm rfl (qa rfl (qe rfl ?_)))
   obtain rfl := sj h
   refine Ae (sm [] [(6, iD 0), (7, iD v3)] [] rfl rfl) (Aq ?_)
   exact ⟨⟨[_, _], ⟨.tmp _ _ rfl, tm⟩, rfl⟩, tv⟩
  ·refine Ap (wp rfl (qL Dg Da rfl (qw 2 rfl ?_)))
   refine BS h fun v5 a5 h => Av [] (Kc N p0 p1 p2 v5 a5) X2 rfl (qm rfl (qx rfl (qx rfl (qz QB rfl (qs G1 rfl (qa rfl (Ac (wq rfl (qm rfl (Dt rfl (Ac ?_)))))))))))
   refine Bg h (fun h => ?_) fun h => ?_
   ·refine wq rfl (qm rfl (qa rfl (qe rfl ?_)))
    obtain rfl := sj h
    refine Ae (sm [] [(6, iD v5.2), (7, iD 0)] [] rfl rfl) (Aq ?_)
    exact ⟨⟨[_, _], ⟨.tmp _ _ rfl, tm⟩, rfl⟩, tv⟩
   ·refine Ap (wq rfl (qa rfl (qe rfl ?_)))
    obtain rfl := sj h
    refine Ae (sm [] [(6, iD 0), (7, iD 15)] [] rfl rfl) (Aq ?_)
    exact ⟨⟨[_, _], ⟨.tmp _ _ rfl, tm⟩, rfl⟩, tv⟩
theorem K1 (N : Nat) (p0 : Ab) (p1 : AB) (r : Bool × AB × (List (Int × Int))) (h : D1 N p0 p1 = some r) : CO zA 65 [.e (.agg (AP p0)), oD (.ptr 90000 0)] [(.box [.ptr 90001 0], .box [.ptr 90001 0]), (.box [iC p1.fy, iC p1.fA, .pure (.val (.bool p1.fB)), .mref 90002], .box [iC r.2.1.fy, iC r.2.1.fA, .pure (.val (.bool r.2.1.fB)), .mref 90002]), (.mp (CX (Value.int .i64) El p1.fG), .mp (CX (Value.int .i64) El r.2.2))] [] (bD r.1) := by
 unfold D1 at h
 refine Cr (n := 8) (rs := [.tmp 3]) Tryz.func65 rfl rfl rfl (Ge rfl) (Ge rfl) rfl rfl (Ge rfl) rfl (Ge rfl) fun w0 S0 GL => ?_
 refine Ae (sm [] [(0, .e (.agg (AP p0))), (1, oD (.ptr 90000 0))] [(90000, .box [.ptr 90001 0]), (90001, .box [iC p1.fy, iC p1.fA, .pure (.val (.bool p1.fB)), .mref 90002]), (90002, .mp (CX (Value.int .i64) El p1.fG))] rfl rfl) (wq rfl (qb rfl (qa rfl (Ac (wq rfl (ql WQ rfl (qL Fe CG rfl ?_)))))))
 refine BS h fun v1 a1 h => Ez (ds0 := [_, _]) [90001, 90002] [] [true, true] (Hd N p1 p0 v1 a1) (.p rfl) XF rfl ⟨rfl, rfl, tv⟩ rfl rfl (Dp rfl) ⟨rfl, rfl, tv⟩ rfl (B5 rfl) tv ⟨(fun h => by cases h), (fun h => by cases h), tv⟩ rfl rfl rfl ?_
 refine Cl rfl (qe rfl ?_)
 obtain rfl := sj h
 refine Ae (sm [] [(3, bD ((!v1.1)))] [(90000, .box [.ptr 90001 0]), (90001, .box [iC v1.2.1.fy, iC v1.2.1.fA, .pure (.val (.bool v1.2.1.fB)), .mref 90002]), (90002, .mp (CX (Value.int .i64) El v1.2.2))] rfl rfl) (Aq ?_)
 exact ⟨⟨[_], tm, rfl⟩, ⟨rfl, rfl, rfl, tv⟩, tv⟩
theorem E8 (N : Nat) (p0 : List Ab) (p1 : AB) (r : Int × AB × (List (Int × Int))) (h : BF N p0 p1 = some r) : CO zA 104 [pD (.sl (p0.map Aw)), oD (.cls 65 [.ptr 90000 0])] [(.box [.ptr 90001 0], .box [.ptr 90001 0]), (.box [iC p1.fy, iC p1.fA, .pure (.val (.bool p1.fB)), .mref 90002], .box [iC r.2.1.fy, iC r.2.1.fA, .pure (.val (.bool r.2.1.fB)), .mref 90002]), (.mp (CX (Value.int .i64) El p1.fG), .mp (CX (Value.int .i64) El r.2.2))] [] (iD r.1) := by
 unfold BF at h
 refine Cr (n := 19) (rs := [.tmp 4]) Tryz.func104 rfl rfl rfl (Ge rfl) (Ge rfl) rfl rfl (Ge rfl) rfl (Ge rfl) fun w0 S0 GL => ?_
 refine Ae (sm [] [(0, pD (.sl (p0.map Aw))), (1, oD (.cls 65 [.ptr 90000 0]))] [(90000, .box [.ptr 90001 0]), (90001, .box [iC p1.fy, iC p1.fA, .pure (.val (.bool p1.fB)), .mref 90002]), (90002, .mp (CX (Value.int .i64) El p1.fG))] rfl rfl) (wq rfl (qa rfl (Ac (wp rfl (qm rfl (AK DB rfl (qm rfl (Ac ?_))))))))
 refine A0 (L := AN N p0) h (fun v1 => mk [(0, pD (.sl (p0.map Aw))), (1, oD (.cls 65 [.ptr 90000 0])), (7, iD ((p0.length : Int))), (8, iD v1.2.2.2.2)] [(90000, .box [.ptr 90001 0]), (90001, .box [iC v1.2.1, iC v1.2.2.1, .pure (.val (.bool v1.2.2.2.1)), .mref 90002]), (90002, .mp (CX (Value.int .i64) El v1.1))]) (fun v2 => mk [] [(90000, .box [.ptr 90001 0]), (90001, .box [iC v2.2.1, iC v2.2.2.1, .pure (.val (.bool v2.2.2.2)), .mref 90002]), (90002, .mp (CX (Value.int .i64) El v2.1))]) (fun _ _ => rfl) (sm [] _ _ rfl rfl) (fun j1 n1 v1 h => ?_) (fun v2 s h hs => ?_)
 ·unfold AN at h
  refine wq rfl (A1 rfl (Ac (AT ?_)))
  refine Bg h (fun h => ?_) fun h => ?_
  ·refine Ap (AT (AU (wq rfl (qm rfl (qa rfl (Ac (wq rfl (qw 3 rfl ?_))))))))
   refine BU h fun v4 a4 b4 h => qi DB CG a4 (Ah b4) rfl (qK Fe CG rfl ?_)
   refine BS h fun v5 a5 h => Ul (ds0 := [_]) [90000, 90001, 90002] [] [false, true, true] (K1 N v4 ((AB.mk v1.2.1 v1.2.2.1 v1.2.2.2.1 v1.1)) v5 a5) (.p rfl) rfl XO rfl ⟨rfl, tv⟩ rfl rfl (Dp rfl) ⟨rfl, rfl, rfl, tv⟩ rfl (B5 rfl) tv ⟨(fun _ => rfl), (fun h => by cases h), (fun h => by cases h), tv⟩ rfl rfl rfl ?_
   refine Ac ?_
   refine Bg h (fun h => ?_) fun h => ?_
   ·refine wq rfl (qm rfl (qe rfl ?_))
    obtain rfl := sj h
    refine Ae (sm [] [(4, iD v1.2.2.2.2)] [(90000, .box [.ptr 90001 0]), (90001, .box [iC v5.2.1.fy, iC v5.2.1.fA, .pure (.val (.bool v5.2.1.fB)), .mref 90002]), (90002, .mp (CX (Value.int .i64) El v5.2.2))] rfl rfl) (Aq ?_)
    exact ⟨⟨[_], tm, rfl⟩, ⟨rfl, rfl, rfl, tv⟩, tv⟩
   ·refine Ap (Aj Ax rfl (Ch rfl (qm rfl (Ac ?_))))
    exact sn [] h
  ·refine BT ?_
   exact sn [] h
 ·refine Ae hs (wq rfl (qe rfl ?_))
  obtain rfl := sj h
  refine Ae (sm [] [(4, iD ((-1)))] [(90000, .box [.ptr 90001 0]), (90001, .box [iC v2.2.1, iC v2.2.2.1, .pure (.val (.bool v2.2.2.2)), .mref 90002]), (90002, .mp (CX (Value.int .i64) El v2.1))] rfl rfl) (Aq ?_)
  exact ⟨⟨[_], tm, rfl⟩, ⟨rfl, rfl, rfl, tv⟩, tv⟩
theorem LX (N : Nat) (p0 : List Ab) (p1 : AB) (r : Int × Int × AB × (List (Int × Int))) (h : FA N p0 p1 = some r) : CO zA 60 [pD (.sl (p0.map Aw)), oD (.cls 65 [.ptr 90000 0])] [(.box [.ptr 90001 0], .box [.ptr 90001 0]), (.box [iC p1.fy, iC p1.fA, .pure (.val (.bool p1.fB)), .mref 90002], .box [iC r.2.2.1.fy, iC r.2.2.1.fA, .pure (.val (.bool r.2.2.1.fB)), .mref 90002]), (.mp (CX (Value.int .i64) El p1.fG), .mp (CX (Value.int .i64) El r.2.2.2))] [] (.tup [.one (iC r.1), .one (iC r.2.1)]) := by
 unfold FA at h
 refine Cr (n := 13) (rs := [.tmp 4, .tmp 5]) Tryz.func60 rfl rfl rfl (Ge rfl) (Ge rfl) rfl rfl (Ge rfl) rfl (Ge rfl) fun w0 S0 GL => ?_
 refine Ae (sm [] [(0, pD (.sl (p0.map Aw))), (1, oD (.cls 65 [.ptr 90000 0]))] [(90000, .box [.ptr 90001 0]), (90001, .box [iC p1.fy, iC p1.fA, .pure (.val (.bool p1.fB)), .mref 90002]), (90002, .mp (CX (Value.int .i64) El p1.fG))] rfl rfl) (wq rfl (qa rfl (qa rfl (Ac (wq rfl (qw 2 rfl ?_))))))
 refine BS h fun v1 a1 h => Ez (ds0 := [_, _]) [90000, 90001, 90002] [] [false, true, true] (E8 N p0 p1 v1 a1) (.p rfl) UZ rfl ⟨rfl, rfl, tv⟩ rfl rfl (Dp rfl) ⟨rfl, rfl, rfl, tv⟩ rfl (B5 rfl) tv ⟨(fun _ => rfl), (fun h => by cases h), (fun h => by cases h), tv⟩ rfl rfl rfl ?_
 refine qa rfl (Ac (wp rfl (qm rfl (A1 rfl (Ac ?_)))))
 refine Bg h (fun h => ?_) fun h => ?_
 ·refine wq rfl (qa rfl (qe rfl ?_))
  obtain rfl := sj h
  refine Ae (sm [] [(4, iD 0), (5, iD 15)] [(90000, .box [.ptr 90001 0]), (90001, .box [iC v1.2.1.fy, iC v1.2.1.fA, .pure (.val (.bool v1.2.1.fB)), .mref 90002]), (90002, .mp (CX (Value.int .i64) El v1.2.2))] rfl rfl) (Aq ?_)
  exact ⟨⟨[_, _], ⟨.tmp _ _ rfl, tm⟩, rfl⟩, ⟨rfl, rfl, rfl, tv⟩, tv⟩
 ·refine Ap (wq rfl (qm rfl (qa rfl (qe rfl ?_))))
  obtain rfl := sj h
  refine Ae (sm [] [(4, iD v1.1), (5, iD 0)] [(90000, .box [.ptr 90001 0]), (90001, .box [iC v1.2.1.fy, iC v1.2.1.fA, .pure (.val (.bool v1.2.1.fB)), .mref 90002]), (90002, .mp (CX (Value.int .i64) El v1.2.2))] rfl rfl) (Aq ?_)
  exact ⟨⟨[_, _], ⟨.tmp _ _ rfl, tm⟩, rfl⟩, ⟨rfl, rfl, rfl, tv⟩, tv⟩
theorem M0 (N : Nat) (p0 : List Ab) (r : Int × Int) (h : EZ N p0 = some r) : Ar zA 30 [pD (.sl (p0.map Aw))] [] (.tup [.one (iC r.1), .one (iC r.2)]) := by
 unfold EZ at h
 refine cw (n := 17) (rs := [.tmp 2, .tmp 3]) Tryz.func30 fun w0 S0 => ?_
 refine wq rfl (qa rfl (qa rfl (Ac (wp rfl (qm rfl ?_)))))
 refine BS h fun v1 a1 h => Av [] (E2 N p0 v1 a1) Tz rfl (qa rfl (Ac (wq rfl (qm rfl (Bb rfl (Ac ?_))))))
 refine Bg h (fun h => ?_) fun h => ?_
 ·refine wq rfl (qm rfl (qa rfl (qe rfl ?_)))
  obtain rfl := sj h
  refine Ae (sm [] [(2, iD 0), (3, iD v1)] [] rfl rfl) (Aq ?_)
  exact ⟨⟨[_, _], ⟨.tmp _ _ rfl, tm⟩, rfl⟩, tv⟩
 ·refine Ap (wq rfl ?_)
  refine BS h fun v3 a3 h => Ez (ds0 := []) [] [2001, 2002] [] (H1 N v3 a3) (.p rfl) WG rfl tv rfl rfl (by decide) tv rfl (B5 rfl) ⟨rfl, rfl, tv⟩ tv rfl rfl rfl ?_
  refine FO (sm [] [(0, pD (.sl (p0.map Aw))), (2, iD 0), (3, iD 0), (4, iD v1), (6, pD (.sl (p0.map Aw))), (7, iD v1), (8, iD v1), (9, bD ((v1 != 0))), (11, oD (.ptr 2001 0))] [(2001, .box [iC v3.fy, iC v3.fA, .pure (.val (.bool v3.fB)), .mref 2002]), (2002, .mp (CX (Value.int .i64) El v3.fG))] rfl rfl) (qz Xr rfl (qs Xe rfl (Ac (wq rfl (qm rfl ?_)))))
  refine PS [.ptr 5 0] (.p rfl) rfl ⟨rfl, tv⟩ ?_
  refine BS h fun v4 a4 h => Ez (ds0 := [_, _]) [5, 2001, 2002] [] [false, true, true] (LX N p0 v3 v4 a4) (.p rfl) WA rfl ⟨rfl, rfl, tv⟩ rfl rfl (Dp rfl) ⟨rfl, rfl, rfl, tv⟩ rfl (B5 rfl) tv ⟨(fun _ => rfl), (fun h => by cases h), (fun h => by cases h), tv⟩ rfl rfl rfl ?_
  refine qx rfl (qx rfl (qa rfl (qe rfl ?_)))
  obtain rfl := sj h
  refine Ae (sm [] [(2, iD v4.1), (3, iD v4.2.1)] [] rfl rfl) (Aq ?_)
  exact ⟨⟨[_, _], ⟨.tmp _ _ rfl, tm⟩, rfl⟩, tv⟩
theorem JH (N : Nat) (p0 : List Ab) (p1 : Ab) (r : Bool) (h : DQ N p0 p1 = some r) : Ar zA 67 [pD (.sl (p0.map Aw)), .e (.agg (AP p1))] [] (bD r) := by
 unfold DQ at h
 refine cw (n := 67) (rs := [.tmp 4]) Tryz.func67 fun w0 S0 => ?_
 refine wq rfl (qb rfl (qa rfl (Ac (wp rfl (qe rfl ?_)))))
 refine A0 (L := Cm N p0 p1) h (fun v1 => mk [(0, pD (.sl (p0.map Aw))), (3, oD (.ptr 3 0)), (5, iD v1)] [(3, .box (AP p1))]) (fun v2 => mk [] []) (fun _ _ => rfl) (sm [] _ _ rfl rfl) (fun j1 n1 v1 h => ?_) (fun v2 s h hs => ?_)
 ·unfold Cm at h
  refine wp rfl (qw 2 rfl (AK DB rfl (A1 rfl (Ac ?_))))
  refine Bg h (fun h => ?_) fun h => ?_
  ·refine Ap (AT (AU (wq rfl (qw 2 rfl ?_))))
   refine BU h fun v4 a4 b4 h => qi DB CG a4 (Ah b4) rfl (qK Fe CG rfl (qz Jb rfl (qs CG rfl (Ac (AT ?_)))))
   refine AM h (fun v5 => mk [(0, pD (.sl (p0.map Aw))), (3, oD (.ptr 3 0)), (5, iD v1), (6, oD (.ptr 6 0)), (29, bD v5)] [(3, .box (AP p1)), (6, .box (AP v4))]) (fun j5 h => ?_) (fun v5 h => ?_)
   ·refine Aj Ax rfl (qL Fe CG rfl ?_)
    refine BS h fun v6 a6 h => Av [] (GP N v4 v6 a6) Vl rfl (qm rfl ?_)
    refine Ce 19 h rfl (fun h => ?_) fun h => ?_
    ·refine qL Fe CG rfl ?_
     refine BS h fun v8 a8 h => Av [] (GP N p1 v8 a8) Vl rfl (qp rfl (qm rfl ?_))
     refine Ce 23 h rfl (fun h => ?_) fun h => ?_
     ·refine qf Ey rfl (ql HW rfl (qf Ey rfl (ql HW rfl (A1 rfl (qp rfl (Ac ?_))))))
      exact sn [] h
     ·refine qw 5 rfl (qp rfl (Ac ?_))
      exact sn [] h
    ·refine qw 2 rfl (qp rfl (qw 6 rfl (qp rfl (Ac ?_))))
     exact sn [] h
   ·refine Bg h (fun h => ?_) fun h => ?_
    ·refine wq rfl (qe rfl ?_)
     obtain rfl := sj h
     refine Ae (sm [] [(4, bD true)] [] rfl rfl) (Aq ?_)
     exact ⟨⟨[_], tm, rfl⟩, tv⟩
    ·refine Ap (AT ?_)
     refine AM h (fun v11 => mk [(0, pD (.sl (p0.map Aw))), (3, oD (.ptr 3 0)), (5, iD v1), (6, oD (.ptr 6 0)), (51, bD v11)] [(3, .box (AP p1)), (6, .box (AP v4))]) (fun j11 h => ?_) (fun v11 h => ?_)
     ·refine Aj Ax rfl (qf Cg rfl (ql A4 rfl (AS rfl (qm rfl ?_))))
      refine Ce 33 h rfl (fun h => ?_) fun h => ?_
      ·refine qf Cg rfl (ql A4 rfl (AS rfl (qp rfl (qm rfl ?_))))
       refine Ce 38 h rfl (fun h => ?_) fun h => ?_
       ·refine qf Hv rfl (ql A4 rfl (qf Hv rfl (ql A4 rfl (AS rfl (qp rfl (qm rfl ?_))))))
        refine Ce 45 h rfl (fun h => ?_) fun h => ?_
        ·refine qf Ia rfl (ql A4 rfl (qf Ia rfl (ql A4 rfl (A1 rfl (qp rfl (Ac ?_))))))
         exact sn [] h
        ·refine qw 5 rfl (qp rfl (Ac ?_))
         exact sn [] h
       ·refine qw 5 rfl (qp rfl (qw 6 rfl (qp rfl (Ac ?_))))
        exact sn [] h
      ·refine qw 3 rfl (qp rfl (qw 6 rfl (qp rfl (qw 6 rfl (qp rfl (Ac ?_))))))
       exact sn [] h
     ·refine Bg h (fun h => ?_) fun h => ?_
      ·refine wq rfl (qe rfl ?_)
       obtain rfl := sj h
       refine Ae (sm [] [(4, bD true)] [] rfl rfl) (Aq ?_)
       exact ⟨⟨[_], tm, rfl⟩, tv⟩
      ·refine Ap ?_
       refine AM h (fun v16 => mk [(0, pD (.sl (p0.map Aw))), (3, oD (.ptr 3 0)), (5, iD v1), (66, bD v16)] [(3, .box (AP p1))]) (fun j16 h => ?_) (fun v16 h => ?_)
       ·refine Aj Ax rfl (qf Cg rfl (ql A4 rfl (AS rfl (qm rfl ?_))))
        refine Ce 55 h rfl (fun h => ?_) fun h => ?_
        ·refine qf Cg rfl (ql A4 rfl (AS rfl (qp rfl (qm rfl ?_))))
         refine Ce 60 h rfl (fun h => ?_) fun h => ?_
         ·refine qf Ey rfl (ql HW rfl (qf Ey rfl (ql HW rfl (HI rfl (qp rfl (Ac ?_))))))
          exact sn [] h
         ·refine qw 5 rfl (qp rfl (Ac ?_))
          exact sn [] h
        ·refine qw 3 rfl (qp rfl (qw 6 rfl (qp rfl (Ac ?_))))
         exact sn [] h
       ·refine Bg h (fun h => ?_) fun h => ?_
        ·refine wq rfl (qe rfl ?_)
         obtain rfl := sj h
         refine Ae (sm [] [(4, bD true)] [] rfl rfl) (Aq ?_)
         exact ⟨⟨[_], tm, rfl⟩, tv⟩
        ·refine Ap (Aj Ax rfl (qm rfl (Ch rfl (qe rfl ?_))))
         exact sn [] h
  ·refine BT ?_
   exact sn [] h
 ·refine Ae hs (wq rfl (qe rfl ?_))
  obtain rfl := sj h
  refine Ae (sm [] [(4, bD false)] [] rfl rfl) (Aq ?_)
  exact ⟨⟨[_], tm, rfl⟩, tv⟩
theorem Ji (N : Nat) (p0 : List Ab) (r : Int × Int) (h : DC N p0 = some r) : Ar zA 31 [pD (.sl (p0.map Aw))] [] (.tup [.one (iC r.1), .one (iC r.2)]) := by
 unfold DC at h
 refine cw (n := 26) (rs := [.tmp 2, .tmp 3]) Tryz.func31 fun w0 S0 => ?_
 refine wq rfl (qa rfl (qa rfl (Ac (wp rfl (qm rfl ?_)))))
 refine BS h fun v1 a1 h => Av [] (Ex N p0 v1 a1) TD rfl (qa rfl (Ac (wq rfl (qm rfl (Bb rfl (Ac ?_))))))
 refine Bg h (fun h => ?_) fun h => ?_
 ·refine wq rfl (qm rfl (qa rfl (qe rfl ?_)))
  obtain rfl := sj h
  refine Ae (sm [] [(2, iD 0), (3, iD v1)] [] rfl rfl) (Aq ?_)
  exact ⟨⟨[_, _], ⟨.tmp _ _ rfl, tm⟩, rfl⟩, tv⟩
 ·refine Ap (wp rfl (qe rfl ?_))
  refine A0 (L := Cd N p0) h (fun v3 => mk [(0, pD (.sl (p0.map Aw))), (5, iD v3)] []) (fun v4 => mk [] []) (fun _ _ => rfl) (sm [] _ _ rfl rfl) (fun j3 n3 v3 h => ?_) (fun v4 s h hs => ?_)
  ·unfold Cd at h
   refine wp rfl (qw 2 rfl (AK DB rfl (A1 rfl (Ac ?_))))
   refine Bg h (fun h => ?_) fun h => ?_
   ·refine Ap (AT (AU (wq rfl (qw 2 rfl ?_))))
    refine Iq h fun c6 h => L5 (.p rfl) rfl DB CG (IE (f := Aw) (n := 11) (fun _ => rfl) _) (.none _) (.some _ _ _ _ c6.1) tv ⟨rfl, tv⟩ (by have := c6.2.1; (try simp only [zY]); omega) (by have := c6.2.2; (try simp only [zY]); omega) (KF Aw p0 _ _ ((v3).toNat - 0) rfl) ?_
    refine qw 2 rfl ?_
    refine BU h fun v7 a7 b7 h => qi DB CG a7 (Ah b7) rfl (qK Fe CG rfl ?_)
    refine BS h fun v8 a8 h => Av [] (JH N (((p0.drop 0).take ((v3).toNat - 0))) v7 v8 a8) Ye rfl (AH (by kernel_rfl) ?_)
    refine Bg h (fun h => ?_) fun h => ?_
    ·refine wq rfl (qm rfl (qa rfl (qe rfl ?_)))
     obtain rfl := sj h
     refine Ae (sm [] [(2, iD v3), (3, iD 0)] [] rfl rfl) (Aq ?_)
     exact ⟨⟨[_, _], ⟨.tmp _ _ rfl, tm⟩, rfl⟩, tv⟩
    ·refine Ap (Aj Ax rfl (qm rfl (Ch rfl (qe rfl ?_))))
     exact sn [] h
   ·refine BT ?_
    exact sn [] h
  ·refine Ae hs (wq rfl (qa rfl (qe rfl ?_)))
   obtain rfl := sj h
   refine Ae (sm [] [(2, iD 0), (3, iD 15)] [] rfl rfl) (Aq ?_)
   exact ⟨⟨[_, _], ⟨.tmp _ _ rfl, tm⟩, rfl⟩, tv⟩
theorem I3 (N : Nat) (p0 : Aa) (p1 : List Int) (r : Int) (h : Di N p0 p1 = some r) : Ar zA 58 [.e (.agg (Al p0)), pD (.sl (p1.map As))] [] (iD r) := by
 unfold Di at h
 refine cw (n := 36) (rs := [.tmp 4]) Tryz.func58 fun w0 S0 => ?_
 refine wq rfl (qb rfl (qa rfl (Ac (wp rfl (qL Dg Da rfl ?_)))))
 refine BS h fun v1 a1 h => Av [] (Dm N p0 v1 a1) T9 rfl (qa rfl (Ac (wq rfl (qm rfl (Bb rfl (Ac ?_))))))
 refine Bg h (fun h => ?_) fun h => ?_
 ·refine wq rfl (qm rfl (qe rfl ?_))
  obtain rfl := sj h
  refine Ae (sm [] [(4, iD v1)] [] rfl rfl) (Aq ?_)
  exact ⟨⟨[_], tm, rfl⟩, tv⟩
 ·refine Ap (wp rfl (qm rfl (AK AG rfl (qf BG rfl (ql Bm rfl (AK AG rfl (Bb rfl (Ac ?_))))))))
  refine Bg h (fun h => ?_) fun h => ?_
  ·refine wq rfl (qe rfl ?_)
   obtain rfl := sj h
   refine Ae (sm [] [(4, iD 6)] [] rfl rfl) (Aq ?_)
   exact ⟨⟨[_], tm, rfl⟩, tv⟩
  ·refine Ap (wp rfl (qe rfl ?_))
   refine A0 (L := B7 N p1) h (fun v4 => mk [(1, pD (.sl (p1.map As))), (6, iD v4)] []) (fun v5 => mk [] []) (fun _ _ => rfl) (sm [] _ _ rfl rfl) (fun j4 n4 v4 h => ?_) (fun v5 s h hs => ?_)
   ·unfold B7 at h
    refine wp rfl (qw 2 rfl (AK AG rfl (A1 rfl (Ac ?_))))
    refine Bg h (fun h => ?_) fun h => ?_
    ·refine Ap (AT (AU ?_))
     refine AM h (fun v7 => mk [(1, pD (.sl (p1.map As))), (6, iD v4), (35, bD v7)] []) (fun j7 h => ?_) (fun v7 h => ?_)
     ·refine Aj Ax rfl (qw 2 rfl ?_)
      refine BU h fun v8 a8 b8 h => qi AG Db a8 (Ah b8) rfl (qk A4 rfl (A1 rfl (qm rfl ?_)))
      refine Ce 29 h rfl (fun h => ?_) fun h => ?_
      ·refine qw 5 rfl (qp rfl (Ac ?_))
       exact sn [] h
      ·refine qw 2 rfl ?_
       refine BU h fun v10 a10 b10 h => qi AG Db a10 (Ah b10) rfl (qk A4 rfl (Eu rfl (qp rfl (Ac ?_))))
       exact sn [] h
     ·refine Bg h (fun h => ?_) fun h => ?_
      ·refine wq rfl (qe rfl ?_)
       obtain rfl := sj h
       refine Ae (sm [] [(4, iD 7)] [] rfl rfl) (Aq ?_)
       exact ⟨⟨[_], tm, rfl⟩, tv⟩
      ·refine Ap (Aj Ax rfl (qm rfl (Ch rfl (qe rfl ?_))))
       exact sn [] h
    ·refine BT ?_
     exact sn [] h
   ·refine Ae hs (wq rfl (qe rfl ?_))
    obtain rfl := sj h
    refine Ae (sm [] [(4, iD 0)] [] rfl rfl) (Aq ?_)
    exact ⟨⟨[_], tm, rfl⟩, tv⟩
theorem JM (N : Nat) (p0 : Aa) (p1 : List Int) (p2 : List Ao) (p3 : List Ab) (r : Int) (h : C1 N p0 p1 p2 p3 = some r) : Ar zA 23 [.e (.agg (Al p0)), pD (.sl (p1.map As)), pD (.sl (p2.map AQ)), pD (.sl (p3.map Aw))] [] (iD r) := by
 unfold C1 at h
 refine cw (n := 25) (rs := [.tmp 8]) Tryz.func23 fun w0 S0 => ?_
 refine wq rfl (qb rfl (qa rfl (Ac (wp rfl (qL Dg Da rfl (qm rfl ?_))))))
 refine BS h fun v1 a1 h => Av [] (I3 N p0 p1 v1 a1) XZ rfl (qa rfl (Ac (wq rfl (qm rfl (Bb rfl (Ac ?_))))))
 refine Bg h (fun h => ?_) fun h => ?_
 ·refine wq rfl (qm rfl (qe rfl ?_))
  obtain rfl := sj h
  refine Ae (sm [] [(8, iD v1)] [] rfl rfl) (Aq ?_)
  exact ⟨⟨[_], tm, rfl⟩, tv⟩
 ·refine Ap (wp rfl (qL Dg Da rfl (qm rfl ?_)))
  refine BS h fun v3 a3 h => Av [] (Hn N p0 p2 v3 a3) Wl rfl (qa rfl (Ac (wq rfl (qm rfl (Bb rfl (Ac ?_))))))
  refine Bg h (fun h => ?_) fun h => ?_
  ·refine wq rfl (qm rfl (qe rfl ?_))
   obtain rfl := sj h
   refine Ae (sm [] [(8, iD v3)] [] rfl rfl) (Aq ?_)
   exact ⟨⟨[_], tm, rfl⟩, tv⟩
  ·refine Ap (wq rfl (qm rfl ?_))
   refine BS h fun v5 a5 h => Av [] (Ex N p3 v5 a5) TD rfl (qe rfl ?_)
   obtain rfl := sj h
   refine Ae (sm [] [(8, iD v5)] [] rfl rfl) (Aq ?_)
   exact ⟨⟨[_], tm, rfl⟩, tv⟩
theorem Im (N : Nat) (p0 : B3) (r : Bool) (h : CB N p0 = some r) : Ar zA 9 [.e (.agg (FV p0))] [] (bD r) := by
 unfold CB at h
 refine cw (n := 170) (rs := [.tmp 2]) Tryz.func9 fun w0 S0 => ?_
 refine wq rfl (qb rfl (qa rfl (Ac (AT ?_))))
 refine AM h (fun v1 => mk [(1, oD (.ptr 1 0)), (24, bD v1)] [(1, .box (FV p0))]) (fun j1 h => ?_) (fun v1 h => ?_)
 ·refine Aj Ax rfl ?_
  refine BS h fun v2 a2 h => Av [] (Hq N v2 a2) WB rfl (Cl rfl (qm rfl ?_))
  refine Ce 20 h rfl (fun h => ?_) fun h => ?_
  ·refine qw 3 rfl (qp rfl (Ac ?_))
   exact sn [] h
  ·refine qL X1 Yd rfl ?_
   refine BS h fun v4 a4 h => Av [] (KG N ((B3.mk ((Aa.mk p0.fb.fc p0.fb.fj p0.fb.fq p0.fb.fd)) p0.fS p0.ft p0.fH)) v4 a4) Yo rfl (Cl rfl (qp rfl (Ac ?_)))
   exact sn [] h
 ·refine Bg h (fun h => ?_) fun h => ?_
  ·refine wq rfl ?_
   refine BS h fun v6 a6 h => Av [] (Hq N v6 a6) WB rfl (qe rfl ?_)
   obtain rfl := sj h
   refine Ae (sm [] [(2, bD v6)] [] rfl rfl) (Aq ?_)
   exact ⟨⟨[_], tm, rfl⟩, tv⟩
  ·refine Ap (wq rfl (qf IM rfl (qL Dg Da rfl (qf Hw rfl (ql Ov rfl ?_)))))
   refine BS h fun v7 a7 h => Av [2001] (B9 N p0.fH v7 a7) TP rfl ?_
   refine BS h fun v8 a8 h => Gj [] [2001] (Nq N ((Aa.mk p0.fb.fc p0.fb.fj p0.fb.fq p0.fb.fd)) v7 v8 a8) X0 EC rfl (qm rfl (qx rfl (qx rfl (qa rfl (qa rfl (AH (by kernel_rfl) (wq rfl (qf IM rfl (qL Dg Da rfl (qf Hw rfl (ql Ov rfl ?_)))))))))))
   refine BS h fun v9 a9 h => Av [] (JR N ((Aa.mk p0.fb.fc p0.fb.fj p0.fb.fq p0.fb.fd)) p0.fH v9 a9) Yn rfl (qm rfl (qx rfl (qx rfl (qa rfl (qa rfl (Ac (wq rfl (qf IM rfl (qL Dg Da rfl (qf KT rfl (ql PW rfl (qf Hw rfl (ql Ov rfl ?_)))))))))))))
   refine BS h fun v10 a10 h => Av [2002] (B9 N p0.fH v10 a10) TP rfl ?_
   refine BS h fun v11 a11 h => Gj [] [2002] (Nv N ((Aa.mk p0.fb.fc p0.fb.fj p0.fb.fq p0.fb.fd)) p0.ft v10 v11 a11) XT EC rfl (qm rfl (qx rfl (qx rfl (qa rfl (qa rfl (AH (by kernel_rfl) (wq rfl (qf IM rfl (qL Dg Da rfl (qf KT rfl (ql PW rfl (qf Hw rfl (ql Ov rfl ?_)))))))))))))
   refine BS h fun v12 a12 h => Av [] (JJ N ((Aa.mk p0.fb.fc p0.fb.fj p0.fb.fq p0.fb.fd)) p0.ft p0.fH v12 a12) XQ rfl (qm rfl (qx rfl (qx rfl (qa rfl (qa rfl (Ac (wq rfl (qf Hw rfl (ql Ov rfl ?_)))))))))
   refine BS h fun v13 a13 h => Av [2003] (B9 N p0.fH v13 a13) TP rfl ?_
   refine BS h fun v14 a14 h => Gj [] [2003] (M0 N v13 v14 a14) Yp EC rfl (qm rfl (qx rfl (qx rfl (qa rfl (qa rfl (Ac (wq rfl (qf Hw rfl (ql Ov rfl ?_)))))))))
   refine BS h fun v15 a15 h => Av [] (Ji N p0.fH v15 a15) Yk rfl (qm rfl (qx rfl (qx rfl (qa rfl (qa rfl (Ac (AT ?_)))))))
   refine AM h (fun v16 => mk [(1, oD (.ptr 1 0)), (3, iD v8.1), (4, iD v8.2), (7, iD v11.1), (8, iD v11.2), (11, iD v14.1), (12, iD v14.2), (104, bD v16)] [(1, .box (FV p0))]) (fun j16 h => ?_) (fun v16 h => ?_)
   ·refine Aj Ax rfl (qw 2 rfl (Bb rfl (qm rfl ?_)))
    refine Ce 80 h rfl (fun h => ?_) fun h => ?_
    ·refine qw 3 rfl (qp rfl (qw 4 rfl (qp rfl (qw 4 rfl (qp rfl (qw 4 rfl (qp rfl (qw 4 rfl (qp rfl (Ac ?_))))))))))
     exact sn [] h
    ·refine qw 2 rfl (Bb rfl (qp rfl (qm rfl ?_)))
     refine Ce 85 h rfl (fun h => ?_) fun h => ?_
     ·refine qw 3 rfl (qp rfl (qw 4 rfl (qp rfl (qw 4 rfl (qp rfl (qw 4 rfl (qp rfl (Ac ?_))))))))
      exact sn [] h
     ·refine qw 2 rfl (Bb rfl (qp rfl (qm rfl ?_)))
      refine Ce 90 h rfl (fun h => ?_) fun h => ?_
      ·refine qw 3 rfl (qp rfl (qw 4 rfl (qp rfl (qw 4 rfl (qp rfl (Ac ?_))))))
       exact sn [] h
      ·refine qw 2 rfl (Bb rfl (qp rfl (qm rfl ?_)))
       refine Ce 95 h rfl (fun h => ?_) fun h => ?_
       ·refine qw 3 rfl (qp rfl (qw 4 rfl (qp rfl (Ac ?_))))
        exact sn [] h
       ·refine qw 2 rfl (Bb rfl (qp rfl (qm rfl ?_)))
        refine Ce 100 h rfl (fun h => ?_) fun h => ?_
        ·refine qw 3 rfl (qp rfl (Ac ?_))
         exact sn [] h
        ·refine qw 2 rfl (Bb rfl (qp rfl (Ac ?_)))
         exact sn [] h
   ·refine Bg h (fun h => ?_) fun h => ?_
    ·refine wq rfl (qe rfl ?_)
     obtain rfl := sj h
     refine Ae (sm [] [(2, bD false)] [] rfl rfl) (Aq ?_)
     exact ⟨⟨[_], tm, rfl⟩, tv⟩
    ·refine Ap (wp rfl (qf IM rfl (qL Dg Da rfl (qf Od rfl (ql Bm rfl (qf KT rfl (ql PW rfl (qf Hw rfl (ql Ov rfl ?_)))))))))
     refine BS h fun v23 a23 h => Av [] (JM N ((Aa.mk p0.fb.fc p0.fb.fj p0.fb.fq p0.fb.fd)) p0.fS p0.ft p0.fH v23 a23) Yq rfl (Bb rfl (Ac ?_))
     refine Bg h (fun h => ?_) fun h => ?_
     ·refine wq rfl (qe rfl ?_)
      obtain rfl := sj h
      refine Ae (sm [] [(2, bD true)] [] rfl rfl) (Aq ?_)
      exact ⟨⟨[_], tm, rfl⟩, tv⟩
     ·refine Ap (wq rfl (qf IM rfl (qL Dg Da rfl (qf Od rfl (ql Bm rfl (qf KT rfl (ql PW rfl (qf Hw rfl (ql Ov rfl ?_)))))))))
      refine BS h fun v25 a25 h => Av [2004] (B9 N p0.fH v25 a25) TP rfl ?_
      refine BS h fun v26 a26 h => Gj [] [2004] (If N ((Aa.mk p0.fb.fc p0.fb.fj p0.fb.fq p0.fb.fd)) p0.fS p0.ft v25 v26 a26) Vx EC rfl (qm rfl (qx rfl (qx rfl (qx rfl (qa rfl (qa rfl (qa rfl (AH (by kernel_rfl) (wp rfl (qm rfl (AS rfl (Ac ?_))))))))))))
      refine Bg h (fun h => ?_) fun h => ?_
      ·refine AM h (fun v28 => mk [(2, bD v28)] []) (fun j28 h => ?_) (fun v28 h => ?_)
       ·refine Aj Ax rfl (qm rfl (AS rfl (qm rfl ?_)))
        refine Ce 133 h rfl (fun h => ?_) fun h => ?_
        ·refine qm rfl (AS rfl (qp rfl (qm rfl ?_)))
         refine Ce 137 h rfl (fun h => ?_) fun h => ?_
         ·refine qm rfl (AS rfl (qp rfl (qe rfl ?_)))
          exact sn [] h
         ·refine qw 2 rfl (qp rfl (qe rfl ?_))
          exact sn [] h
        ·refine qw 2 rfl (qp rfl (qw 3 rfl (qp rfl (qe rfl ?_))))
         exact sn [] h
       ·obtain rfl := sj h
        refine Ae (sm [] [(2, bD v28)] [] rfl rfl) (Aq ?_)
        exact ⟨⟨[_], tm, rfl⟩, tv⟩
      ·refine Ap ?_
       refine AM h (fun v31 => mk [(2, bD v31)] []) (fun j31 h => ?_) (fun v31 h => ?_)
       ·refine Aj Ax rfl (qm rfl (AS rfl (qm rfl ?_)))
        refine Ce 143 h rfl (fun h => ?_) fun h => ?_
        ·refine qm rfl (Bb rfl (qm rfl ?_))
         refine Ce 146 h rfl (fun h => ?_) fun h => ?_
         ·refine qw 3 rfl (qp rfl (qp rfl (qw 2 rfl (Bb rfl (qm rfl ?_)))))
          refine Ce 155 h rfl (fun h => ?_) fun h => ?_
          ·refine qw 3 rfl (qp rfl (qp rfl (qw 2 rfl (Bb rfl (qm rfl ?_)))))
           refine Ce 164 h rfl (fun h => ?_) fun h => ?_
           ·refine qw 3 rfl (qp rfl (qp rfl (qe rfl ?_)))
            exact sn [] h
           ·refine qw 2 rfl (HI rfl (qp rfl (qp rfl (qe rfl ?_))))
            exact sn [] h
          ·refine qw 2 rfl (HI rfl (qp rfl (qp rfl (qm rfl ?_))))
           refine Ce 161 h rfl (fun h => ?_) fun h => ?_
           ·refine qm rfl (Bb rfl (qm rfl ?_))
            refine Ce 164 h rfl (fun h => ?_) fun h => ?_
            ·refine qw 3 rfl (qp rfl (qp rfl (qe rfl ?_)))
             exact sn [] h
            ·refine qw 2 rfl (HI rfl (qp rfl (qp rfl (qe rfl ?_))))
             exact sn [] h
           ·refine qw 3 rfl (qu rfl (qu rfl (qu rfl (qn rfl (qp rfl (qe rfl ?_))))))
            exact sn [] h
         ·refine qw 2 rfl (HI rfl (qp rfl (qp rfl (qm rfl ?_))))
          refine Ce 152 h rfl (fun h => ?_) fun h => ?_
          ·refine qm rfl (Bb rfl (qm rfl ?_))
           refine Ce 155 h rfl (fun h => ?_) fun h => ?_
           ·refine qw 3 rfl (qp rfl (qp rfl (qw 2 rfl (Bb rfl (qm rfl ?_)))))
            refine Ce 164 h rfl (fun h => ?_) fun h => ?_
            ·refine qw 3 rfl (qp rfl (qp rfl (qe rfl ?_)))
             exact sn [] h
            ·refine qw 2 rfl (HI rfl (qp rfl (qp rfl (qe rfl ?_))))
             exact sn [] h
           ·refine qw 2 rfl (HI rfl (qp rfl (qp rfl (qm rfl ?_))))
            refine Ce 161 h rfl (fun h => ?_) fun h => ?_
            ·refine qm rfl (Bb rfl (qm rfl ?_))
             refine Ce 164 h rfl (fun h => ?_) fun h => ?_
             ·refine qw 3 rfl (qp rfl (qp rfl (qe rfl ?_)))
              exact sn [] h
             ·refine qw 2 rfl (HI rfl (qp rfl (qp rfl (qe rfl ?_))))
              exact sn [] h
            ·refine qw 3 rfl (qu rfl (qu rfl (qu rfl (qn rfl (qp rfl (qe rfl ?_))))))
             exact sn [] h
          ·refine qw 3 rfl (qu rfl (qu rfl (qu rfl (qn rfl (qp rfl (qw 4 rfl (qu rfl (qu rfl (qu rfl (qn rfl (qp rfl (qe rfl ?_))))))))))))
           exact sn [] h
        ·refine qw 3 rfl (qu rfl (qu rfl (qu rfl (qn rfl (qp rfl (qw 4 rfl (qu rfl (qu rfl (qu rfl (qn rfl (qp rfl (qw 4 rfl (qu rfl (qu rfl (qu rfl (qn rfl (qp rfl (qe rfl ?_))))))))))))))))))
         exact sn [] h
       ·obtain rfl := sj h
        refine Ae (sm [] [(2, bD v31)] [] rfl rfl) (Aq ?_)
        exact ⟨⟨[_], tm, rfl⟩, tv⟩
end Go.Lift
