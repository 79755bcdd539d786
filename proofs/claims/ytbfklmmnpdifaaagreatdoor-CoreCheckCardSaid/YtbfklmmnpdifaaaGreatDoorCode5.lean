/- Lemmas for CoreCheckCardSaid, which YtbfklmmnpdifaaaGreatDoorFinC7 proves. -/
import Derived.Test.YtbfklmmnpdifaaaGreatDoorCode4
open Go.Proofs.Tryz renaming prog → zA
namespace Go.Lift
set_option maxRecDepth 10000
open Go.RowKit
open Go.Proofs
theorem LG (N : Nat) (p0 : Int) (p1 : Int) (r : Int) (h : Er N p0 p1 = some r) : Al zA 155 [pD (.val (.int .u8 p0)), pD (.val (.int .u8 p1))] [] (iD r) := by
 unfold Er at h
 refine cw (n := 20) (rs := [.tmp 4]) Tryz.func155 fun w0 S0 => ?_
 refine wq rfl (qa rfl (Ac (wq rfl (qm rfl ?_))))
 refine Bv h fun v1 a1 h => Aw [] (Ju N p0 v1 a1) ah rfl (qa rfl (Ac (wq rfl (qm rfl ?_))))
 refine Bv h fun v2 a2 h => Aw [] (Ju N p1 v2 a2) ah rfl (qa rfl (Ac (wp rfl (qm rfl (Ac ?_)))))
 refine Ba h (fun h => ?_) fun h => ?_
 ·refine wp rfl (qm rfl (Ac ?_))
  refine Ba h (fun h => ?_) fun h => ?_
  ·refine wq rfl (qe rfl ?_)
   obtain rfl := sj h
   refine Ad (sm [] [(4, iD 0)] [] rfl rfl) (Aq ?_)
   exact ⟨⟨[_], tm, rfl⟩, tv⟩
  ·refine Ai (wq rfl (qe rfl ?_))
   obtain rfl := sj h
   refine Ad (sm [] [(4, iD ((-1)))] [] rfl rfl) (Aq ?_)
   exact ⟨⟨[_], tm, rfl⟩, tv⟩
 ·refine Ai (wp rfl (qm rfl (Ac ?_)))
  refine Ba h (fun h => ?_) fun h => ?_
  ·refine wq rfl (qe rfl ?_)
   obtain rfl := sj h
   refine Ad (sm [] [(4, iD 1)] [] rfl rfl) (Aq ?_)
   exact ⟨⟨[_], tm, rfl⟩, tv⟩
  ·refine Ai (wp rfl (qw 2 rfl (AX rfl (Ac ?_))))
   refine Ba h (fun h => ?_) fun h => ?_
   ·refine wq rfl (qe rfl ?_)
    obtain rfl := sj h
    refine Ad (sm [] [(4, iD ((-1)))] [] rfl rfl) (Aq ?_)
    exact ⟨⟨[_], tm, rfl⟩, tv⟩
   ·refine Ai (wp rfl (qw 2 rfl (FN rfl (Ac ?_))))
    refine Ba h (fun h => ?_) fun h => ?_
    ·refine wq rfl (qe rfl ?_)
     obtain rfl := sj h
     refine Ad (sm [] [(4, iD 1)] [] rfl rfl) (Aq ?_)
     exact ⟨⟨[_], tm, rfl⟩, tv⟩
    ·refine Ai (wq rfl (qe rfl ?_))
     obtain rfl := sj h
     refine Ad (sm [] [(4, iD 0)] [] rfl rfl) (Aq ?_)
     exact ⟨⟨[_], tm, rfl⟩, tv⟩
theorem Iu (N : Nat) (p0 : List Int) (p1 : List Int) (r : Int) (h : Cs N p0 p1 = some r) : Al zA 119 [pD (.sl (p0.map Du)), pD (.sl (p1.map Du))] [] (iD r) := by
 unfold Cs at h
 refine cw (n := 36) (rs := [.tmp 4]) Tryz.func119 fun w0 S0 => ?_
 refine wq rfl (qa rfl (Ac (wp rfl (qm rfl (AF Dz rfl (qm rfl (Ac ?_)))))))
 refine AC (L := BA N p0 p1) h (fun v1 => mk [(0, pD (.sl (p0.map Du))), (1, pD (.sl (p1.map Du))), (9, pD (.sl (p0.map Du))), (10, iD ((p0.length : Int))), (11, iD v1)] []) (fun v2 => mk [(0, pD (.sl (p0.map Du))), (1, pD (.sl (p1.map Du)))] []) (fun _ _ => rfl) (sm [] _ _ rfl rfl) (fun j1 n1 v1 h => ?_) (fun v2 s h hs => ?_)
 ·unfold BA at h
  refine wq rfl (AX rfl (Ac (AM ?_)))
  refine Ba h (fun h => ?_) fun h => ?_
  ·refine Ai (AM (AJ (wq rfl (qm rfl ?_))))
   refine BE h fun v4 a4 b4 h => qi Dz EF a4 (Af b4) rfl (qk Iz rfl (qa rfl (qa rfl (Ac (wp rfl (qw 2 rfl (AF Dz rfl (Ew rfl (Ac ?_)))))))))
   refine Ba h (fun h => ?_) fun h => ?_
   ·refine wq rfl (qe rfl ?_)
    obtain rfl := sj h
    refine Ad (sm [] [(4, iD 1)] [] rfl rfl) (Aq ?_)
    exact ⟨⟨[_], tm, rfl⟩, tv⟩
   ·refine Ai (wq rfl (qw 2 rfl ?_))
    refine BE h fun v6 a6 b6 h => qi Dz EF a6 (Af b6) rfl (qk Iz rfl (qa rfl (Ac (wq rfl (qw 2 rfl ?_)))))
    refine Bv h fun v7 a7 h => Aw [] (LG N v4 v6 v7 a7) d1 rfl (qa rfl (Ac (wq rfl (qm rfl (Bt rfl (Ac ?_))))))
    refine Ba h (fun h => ?_) fun h => ?_
    ·refine wq rfl (qm rfl (qe rfl ?_))
     obtain rfl := sj h
     refine Ad (sm [] [(4, iD v7)] [] rfl rfl) (Aq ?_)
     exact ⟨⟨[_], tm, rfl⟩, tv⟩
    ·refine Ai (Ah Ax rfl (AY rfl (qm rfl (Ac ?_))))
     exact sn [] h
  ·refine AU ?_
   exact sn [] h
 ·refine Ad hs (wp rfl (qm rfl (AF Dz rfl (qm rfl (AF Dz rfl (AX rfl (Ac ?_)))))))
  refine Ba h (fun h => ?_) fun h => ?_
  ·refine wq rfl (qe rfl ?_)
   obtain rfl := sj h
   refine Ad (sm [] [(4, iD ((-1)))] [] rfl rfl) (Aq ?_)
   exact ⟨⟨[_], tm, rfl⟩, tv⟩
  ·refine Ai (wq rfl (qe rfl ?_))
   obtain rfl := sj h
   refine Ad (sm [] [(4, iD 0)] [] rfl rfl) (Aq ?_)
   exact ⟨⟨[_], tm, rfl⟩, tv⟩
theorem So (N : Nat) (p0 : List Int) (r : Int) (h : HU N p0 = some r) : Al zA 118 [pD (.sl (p0.map Ak))] [] (iD r) := by
 unfold HU at h
 refine cw (n := 18) (rs := [.tmp 2]) Tryz.func118 fun w0 S0 => ?_
 refine wq rfl (qa rfl (Ac (wq rfl (qa rfl (Ac (wp rfl (qm rfl (AF As rfl (qm rfl (Ac ?_))))))))))
 refine AC (L := Fv N p0) h (fun v1 => mk [(3, iD 0), (6, pD (.sl (p0.map Ak))), (7, iD ((p0.length : Int))), (8, iD v1)] []) (fun v2 => mk [(3, iD 0)] []) (fun _ _ => rfl) (sm [] _ _ rfl rfl) (fun j1 n1 v1 h => ?_) (fun v2 s h hs => ?_)
 ·unfold Fv at h
  refine wq rfl (AX rfl (Ac (AM ?_)))
  refine Ba h (fun h => ?_) fun h => ?_
  ·refine Ai (AM (AJ (wq rfl ?_)))
   refine BE h fun v4 a4 b4 h => qi As CJ a4 (Af b4) rfl (qk B5 rfl (qa rfl (Ac (wq rfl (qw 2 rfl (Bt rfl (Ac ?_)))))))
   refine Ba h (fun h => ?_) fun h => ?_
   ·refine wq rfl (qm rfl (qe rfl ?_))
    obtain rfl := sj h
    refine Ad (sm [] [(2, iD v4)] [] rfl rfl) (Aq ?_)
    exact ⟨⟨[_], tm, rfl⟩, tv⟩
   ·refine Ai (Ah Ax rfl (AY rfl (qm rfl (Ac ?_))))
    exact sn [] h
  ·refine AU ?_
   exact sn [] h
 ·refine Ad hs (wq rfl (qm rfl (qe rfl ?_)))
  obtain rfl := sj h
  refine Ad (sm [] [(2, iD 0)] [] rfl rfl) (Aq ?_)
  exact ⟨⟨[_], tm, rfl⟩, tv⟩
theorem MW (N : Nat) (p0 : Ab) (p1 : Ab) (r : Int) (h : De N p0 p1 = some r) : Al zA 84 [.e (.agg (AE p0)), .e (.agg (AE p1))] [] (iD r) := by
 unfold De at h
 refine cw (n := 22) (rs := [.tmp 4]) Tryz.func84 fun w0 S0 => ?_
 refine wq rfl (qb rfl (qb rfl (qa rfl (Ac (wq rfl (qf CR rfl (ql A4 rfl (qf CR rfl (ql A4 rfl ?_)))))))))
 refine Bv h fun v1 a1 h => Aw [] (F9 N p0.fL p1.fL v1 a1) Ye rfl (qf BC rfl (ql A4 rfl (qf BC rfl (ql A4 rfl ?_))))
 refine Bv h fun v2 a2 h => Aw [] (F9 N p0.fI p1.fI v2 a2) Ye rfl (qf CS rfl (ql HE rfl (qf CS rfl (ql HE rfl ?_))))
 refine Bv h fun v3 a3 h => Aw [] (Iu N p0.fN p1.fN v3 a3) ce rfl (Dt As CJ Ja rfl ?_)
 refine Bv h fun v4 a4 h => CD [] [20] (So N (([v1, v2, v3] : List Int)) v4 a4) cV Br rfl (qa rfl (AK (by kernel_rfl) ?_))
 obtain rfl := sj h
 refine Ad (sm [] [(4, iD v4)] [] rfl rfl) (Aq ?_)
 exact ⟨⟨[_], tm, rfl⟩, tv⟩
theorem FL (N : Nat) (p0 : List Ab) (p1 : Ab) (p2 : (Ab × Ab) → Option Int) (r : Int × Bool) (h : Bw N p0 p1 p2 = some r) : Al zA 123 [pD (.sl (p0.map AW)), .e (.agg (AE p1)), oD (.clo (G8 (Xk true AW true AW) Nz p2))] [] (.tup [.one (iC r.1), .one (.pure (.val (.bool r.2)))]) := by
 unfold Bw at h
 refine cw (n := 49) (rs := [.tmp 6, .tmp 7]) Tryz.func123 fun w0 S0 => ?_
 refine wq rfl (qb rfl (qa rfl (qa rfl (Ac (wq rfl (qm rfl (AF Eu rfl (qa rfl (Ac (wq rfl (qm rfl (qa rfl (qa rfl (Ac (AM ?_)))))))))))))))
 refine AC (L := AQ N p0 p1 p2) h (fun v1 => mk [(0, pD (.sl (p0.map AW))), (2, oD (.clo (G8 (Xk true AW true AW) Nz p2))), (4, oD (.ptr 4 0)), (8, iD ((p0.length : Int))), (9, iD v1.1), (10, iD v1.2)] [(4, .box (AE p1))]) (fun v2 => mk [(0, pD (.sl (p0.map AW))), (2, oD (.clo (G8 (Xk true AW true AW) Nz p2))), (4, oD (.ptr 4 0)), (8, iD ((p0.length : Int))), (9, iD v2)] [(4, .box (AE p1))]) (fun _ _ => rfl) (sm [] _ _ rfl rfl) (fun j1 n1 v1 h => ?_) (fun v2 s h hs => ?_)
 ·unfold AQ at h
  refine wp rfl (qw 2 rfl (AX rfl (Ac ?_)))
  refine Ba h (fun h => ?_) fun h => ?_
  ·refine Ai (AJ (wq rfl (qw 2 rfl (AY rfl (Jj dt XN rfl (GM rfl (by decide) (Jj Yj Xd rfl (qa rfl (Ac (wq rfl (qw 3 rfl ?_)))))))))))
   refine BE h fun v4 a4 b4 h => qi Eu AV a4 (Af b4) rfl (qK Bi AV rfl (qL Bi AV rfl ?_))
   refine Bv h fun v5 a5 h => JO (ds0 := [_, _]) (ar := (Xk true AW true AW) ((v4, p1))) (.p rfl) rfl rfl ⟨rfl, rfl, tv⟩ rfl rfl rfl (IZ (SO _ _ _ _ Mw Mw) a5) ?_
   refine AX rfl (AK (by kernel_rfl) ?_)
   refine Ba h (fun h => ?_) fun h => ?_
   ·refine Ah Ax rfl (qm rfl (AY rfl (qe rfl ?_)))
    exact sn [] h
   ·refine Ah Ax rfl (qm rfl (qe rfl ?_))
    exact sn [] h
  ·refine AU ?_
   exact sn [] h
 ·refine Ad hs ?_
  refine AS h (fun v7 => mk [(6, iD v2), (7, bD v7)] []) (fun j7 h => ?_) (fun v7 h => ?_)
  ·refine Ah Ax rfl (qw 3 rfl (AX rfl (qm rfl ?_)))
   refine D4 39 h rfl (fun h => ?_) fun h => ?_
   ·refine qw 3 rfl ?_
    refine BE h fun v9 a9 b9 h => qi Eu AV a9 (Af b9) rfl (qK Bi AV rfl (qL Bi AV rfl ?_))
    refine Bv h fun v10 a10 h => JO (ds0 := [_, _]) (ar := (Xk true AW true AW) ((v9, p1))) (.g rfl rfl) rfl rfl ⟨rfl, rfl, tv⟩ rfl rfl rfl (IZ (SO _ _ _ _ Mw Mw) a10) ?_
    refine B7 rfl (qp rfl (qa rfl (qa rfl (AK (by kernel_rfl) ?_))))
    exact sn [] h
   ·refine qw 8 rfl (qp rfl (qa rfl (qa rfl (AK (by kernel_rfl) ?_))))
    exact sn [] h
  ·obtain rfl := sj h
   refine Ad (sm [] [(6, iD v2), (7, bD v7)] [] rfl rfl) (Aq ?_)
   exact ⟨⟨[_, _], ⟨.tmp _ _ rfl, tm⟩, rfl⟩, tv⟩
theorem Lt (N : Nat) (p0 : List Ab) (p1 : Ab) (r : Bool) (h : Fu N p0 p1 = some r) : Al zA 86 [pD (.sl (p0.map AW)), .e (.agg (AE p1))] [] (bD r) := by
 unfold Fu at h
 refine cw (n := 14) (rs := [.tmp 4]) Tryz.func86 fun w0 S0 => ?_
 refine wq rfl (qb rfl (qa rfl (Ac (wq rfl (qm rfl (qL Bi AV rfl ?_))))))
 refine Bv h fun v1 a1 h => Aw [] (Al.weak (ds' := [pD (.sl (p0.map AW)), .e (.agg (AE p1)), oD (.fnc 84)]) (FL N p0 p1 ((fun (x : Ab × Ab) => De N x.1 x.2)) v1 a1) ⟨(fun _ _ _ hh => hh), (fun _ _ _ hh => hh), (fun _ _ _ hh => SA dE (fun ar t ht => by obtain ⟨x, r, rfl, hq, rfl⟩ := Hp ht; exact MW N x.1 x.2 r hq) hh), tv⟩) cb rfl ?_
 refine qm rfl (qx rfl (qx rfl (qa rfl (qa rfl (Ac (wq rfl (qm rfl (qe rfl ?_))))))))
 obtain rfl := sj h
 refine Ad (sm [] [(4, bD v1.2)] [] rfl rfl) (Aq ?_)
 exact ⟨⟨[_], tm, rfl⟩, tv⟩
theorem P0 (N : Nat) (p0 : Aa) (p1 : List Ab) (r : Bool) (h : GU N p0 p1 = some r) : Al zA 53 [.e (.agg (Ag p0)), pD (.sl (p1.map AW))] [] (bD r) := by
 unfold GU at h
 refine cw (n := 122) (rs := [.tmp 4]) Tryz.func53 fun w0 S0 => ?_
 refine wq rfl (qb rfl (qa rfl (Ac (wq rfl (qL Ct BQ rfl ?_)))))
 refine Bv h fun v1 a1 h => Aw [2001, 2002, 2003] (OL N p0 v1 a1) cU rfl (qm rfl (qx rfl (qx rfl (qz Ea rfl (qs AV rfl (qa rfl (Ac (wp rfl (qm rfl (Bt rfl (Ac ?_)))))))))))
 refine Ba h (fun h => ?_) fun h => ?_
 ·refine wq rfl (qe rfl ?_)
  obtain rfl := sj h
  refine Ad (sm [] [(4, bD false)] [] rfl rfl) (Aq ?_)
  exact ⟨⟨[_], tm, rfl⟩, tv⟩
 ·refine Ai (wp rfl (qL Ct BQ rfl (qL Bi AV rfl ?_)))
  refine Bv h fun v3 a3 h => CD [] [2001, 2002, 2003] (Ip N p0 v1.1 v3 a3) XP Br rfl (qm rfl (qx rfl (qx rfl (qa rfl (qa rfl (Ac (wq rfl (qm rfl (Cg rfl (Ac ?_))))))))))
  refine Ba h (fun h => ?_) fun h => ?_
  ·refine wq rfl (qm rfl (AF Eu rfl (B7 rfl (qe rfl ?_))))
   obtain rfl := sj h
   refine Ad (sm [] [(4, bD (((p1.length : Int) == 0)))] [] rfl rfl) (Aq ?_)
   exact ⟨⟨[_], tm, rfl⟩, tv⟩
  ·refine Ai (wp rfl (qm rfl (AF Eu rfl (qm rfl (Ac ?_)))))
   refine AC (L := EP N p0 p1) h (fun v5 => mk [(1, pD (.sl (p1.map AW))), (2, oD (.ptr 2 0)), (5, oD (.ptr 5 0)), (41, pD (.sl (p1.map AW))), (42, iD ((p1.length : Int))), (43, iD v5)] [(2, .box (Ag p0)), (5, .box [.own 2004, .own 2005, .own 2006]), (2004, .vec 1 (v1.1.fL.map Ak)), (2005, .vec 1 (v1.1.fI.map Ak)), (2006, .vec 1 (v1.1.fN.map Du))]) (fun v6 => mk [(1, pD (.sl (p1.map AW))), (2, oD (.ptr 2 0)), (5, oD (.ptr 5 0))] [(2, .box (Ag p0)), (5, .box [.own 2007, .own 2008, .own 2009]), (2007, .vec 1 (v1.1.fL.map Ak)), (2008, .vec 1 (v1.1.fI.map Ak)), (2009, .vec 1 (v1.1.fN.map Du))]) (fun _ _ => rfl) (sm [(2004, 2001), (2005, 2002), (2006, 2003)] _ _ rfl rfl) (fun j5 n5 v5 h => ?_) (fun v6 s h hs => ?_)
   ·unfold EP at h
    refine wq rfl (AX rfl (Ac (AM ?_)))
    refine Ba h (fun h => ?_) fun h => ?_
    ·refine Ai (AM (AJ (wq rfl (qm rfl ?_))))
     refine BE h fun v8 a8 b8 h => qi Eu AV a8 (Af b8) rfl (qK Bi AV rfl (qz Ea rfl (qa rfl (qs AV rfl (Ac (AM ?_))))))
     refine AS h (fun v9 => mk [(1, pD (.sl (p1.map AW))), (2, oD (.ptr 2 0)), (5, oD (.ptr 5 0)), (10, oD (.ptr 10 0)), (41, pD (.sl (p1.map AW))), (42, iD ((p1.length : Int))), (43, iD v5), (59, bD v9)] [(2, .box (Ag p0)), (5, .box [.own 2010, .own 2011, .own 2012]), (10, .box (AE v8)), (2010, .vec 1 (v1.1.fL.map Ak)), (2011, .vec 1 (v1.1.fI.map Ak)), (2012, .vec 1 (v1.1.fN.map Du))]) (fun j9 h => ?_) (fun v9 h => ?_)
     ·refine Ah Ax rfl (qm rfl (FN rfl (qm rfl ?_)))
      refine D4 50 h rfl (fun h => ?_) fun h => ?_
      ·refine qw 2 rfl (JD rfl ?_)
       refine BE h fun v11 a11 b11 h => qi Eu AV a11 (Af b11) rfl (qK Bi AV rfl (qL Bi AV rfl ?_))
       refine Bv h fun v12 a12 h => Aw [] (MW N v11 v8 v12 a12) dE rfl (Ew rfl (qp rfl (AK (by kernel_rfl) ?_)))
       exact sn [(2010, 2004), (2011, 2005), (2012, 2006)] h
      ·refine qw 8 rfl (qp rfl (AK (by kernel_rfl) ?_))
       exact sn [(2010, 2004), (2011, 2005), (2012, 2006)] h
     ·refine Ba h (fun h => ?_) fun h => ?_
      ·refine wq rfl (qe rfl ?_)
       obtain rfl := sj h
       refine Ad (sm [] [(4, bD false)] [] rfl rfl) (Aq ?_)
       exact ⟨⟨[_], tm, rfl⟩, tv⟩
      ·refine Ai (wq rfl (qL Ct BQ rfl (qL Bi AV rfl ?_)))
       refine Bv h fun v14 a14 h => Aw [] (Ip N p0 v8 v14 a14) XP rfl (qm rfl (qx rfl (qx rfl (qa rfl (qe rfl ?_)))))
       refine AS h (fun v15 => mk [(1, pD (.sl (p1.map AW))), (2, oD (.ptr 2 0)), (5, oD (.ptr 5 0)), (41, pD (.sl (p1.map AW))), (42, iD ((p1.length : Int))), (43, iD v5), (76, bD v15)] [(2, .box (Ag p0)), (5, .box [.own 2013, .own 2014, .own 2015]), (2013, .vec 1 (v1.1.fL.map Ak)), (2014, .vec 1 (v1.1.fI.map Ak)), (2015, .vec 1 (v1.1.fN.map Du))]) (fun j15 h => ?_) (fun v15 h => ?_)
       ·refine Ah Ax rfl (qm rfl (Cg rfl (qm rfl ?_)))
        refine D4 68 h rfl (fun h => ?_) fun h => ?_
        ·refine qw 2 rfl (qp rfl (qw 4 rfl (qp rfl (Ac ?_))))
         exact sn [(2013, 2010), (2014, 2011), (2015, 2012)] h
        ·refine qm rfl (Bt rfl (qp rfl (qm rfl ?_)))
         refine D4 72 h rfl (fun h => ?_) fun h => ?_
         ·refine qw 3 rfl (qp rfl (Ac ?_))
          exact sn [(2013, 2010), (2014, 2011), (2015, 2012)] h
         ·refine qL Ct BQ rfl (qL Bi AV rfl ?_)
          refine Bv h fun v18 a18 h => Aw [] (Qp N p0 v8 v18 a18) cE rfl (qp rfl (Ac ?_))
          exact sn [(2013, 2010), (2014, 2011), (2015, 2012)] h
       ·refine Ba h (fun h => ?_) fun h => ?_
        ·refine wq rfl (qe rfl ?_)
         obtain rfl := sj h
         refine Ad (sm [] [(4, bD false)] [] rfl rfl) (Aq ?_)
         exact ⟨⟨[_], tm, rfl⟩, tv⟩
        ·refine Ai (Ah Ax rfl (AY rfl (qm rfl (Ac ?_))))
         exact sn [(2004, 2013), (2005, 2014), (2006, 2015)] h
    ·refine AU ?_
     exact sn [(2007, 2004), (2008, 2005), (2009, 2006)] h
   ·refine Ad hs (wp rfl (qm rfl (qL Bi AV rfl ?_)))
    refine Bv h fun v20 a20 h => CD [] [2007, 2008, 2009] (Lt N p1 v1.1 v20 a20) cY Br rfl (Cg rfl (Ac ?_))
    refine Ba h (fun h => ?_) fun h => ?_
    ·refine wq rfl (qe rfl ?_)
     obtain rfl := sj h
     refine Ad (sm [] [(4, bD false)] [] rfl rfl) (Aq ?_)
     exact ⟨⟨[_], tm, rfl⟩, tv⟩
    ·refine Ai (wp rfl (qm rfl (AF Eu rfl (qm rfl (Ac ?_)))))
     refine AC (L := Ex N p0 p1) h (fun v22 => mk [(1, pD (.sl (p1.map AW))), (2, oD (.ptr 2 0)), (82, pD (.sl (p1.map AW))), (83, iD ((p1.length : Int))), (84, iD v22)] [(2, .box (Ag p0))]) (fun v23 => mk [] []) (fun _ _ => rfl) (sm [] _ _ rfl rfl) (fun j22 n22 v22 h => ?_) (fun v23 s h hs => ?_)
     ·unfold Ex at h
      refine wq rfl (AX rfl (Ac (AM ?_)))
      refine Ba h (fun h => ?_) fun h => ?_
      ·refine Ai (AM (AJ (wq rfl ?_)))
       refine BE h fun v25 a25 b25 h => qi Eu AV a25 (Af b25) rfl (qK Bi AV rfl (qz Ea rfl (qs AV rfl (Ac (wq rfl (qL Ct BQ rfl (qL Bi AV rfl ?_)))))))
       refine Bv h fun v26 a26 h => Aw [2016] (LX N p0 v25 v26 a26) cm rfl (qm rfl (qx rfl (qx rfl (qa rfl (qa rfl (Ac (wq rfl (qm rfl (Fm EI rfl (qm rfl (Ac ?_)))))))))))
       refine AC (L := EB N p0 p1 v25 v26) h (fun v27 => mk [(1, pD (.sl (p1.map AW))), (2, oD (.ptr 2 0)), (14, oD (.ptr 14 0)), (82, pD (.sl (p1.map AW))), (83, iD ((p1.length : Int))), (84, iD v22), (94, oD (.own 2017)), (95, iD ((v26.1.length : Int))), (96, iD v27)] [(2, .box (Ag p0)), (14, .box (AE v25)), (2017, .vec 3 (v26.1.map AH))]) (fun v28 => mk [(1, pD (.sl (p1.map AW))), (2, oD (.ptr 2 0)), (82, pD (.sl (p1.map AW))), (83, iD ((p1.length : Int))), (84, iD v22)] [(2, .box (Ag p0))]) (fun _ _ => rfl) (sm [(2017, 2016)] _ _ rfl rfl) (fun j27 n27 v27 h => ?_) (fun v28 s h hs => ?_)
       ·unfold EB at h
        refine wq rfl (AX rfl (Ac (AM ?_)))
        refine Ba h (fun h => ?_) fun h => ?_
        ·refine Ai (AM (AJ (wq rfl ?_)))
         refine BE h fun v30 a30 b30 h => qI EI EL a30 (Af b30) rfl (qJ Jh EL (Af b30) rfl (qz K4 rfl (qs EL rfl (Ac (wq rfl (qL Ct BQ rfl (qL Bi AV rfl (qL Jh EL rfl ?_))))))))
         refine Bv h fun v31 a31 h => Aw [2018, 2019, 2020] (Np N p0 v25 v30 v31 a31) dz rfl (qm rfl (qx rfl (qx rfl (qz Ea rfl (qs AV rfl (qa rfl (Ac (wq rfl (qL Ct BQ rfl (qL Bi AV rfl ?_))))))))))
         refine Bv h fun v32 a32 h => CD [] [2018, 2019, 2020] (Ip N p0 v31.1 v32 a32) XP Br rfl (qm rfl (qx rfl (qx rfl (qa rfl (qe rfl ?_)))))
         refine AS h (fun v33 => mk [(1, pD (.sl (p1.map AW))), (2, oD (.ptr 2 0)), (14, oD (.ptr 14 0)), (82, pD (.sl (p1.map AW))), (83, iD ((p1.length : Int))), (84, iD v22), (94, oD (.own 2021)), (95, iD ((v26.1.length : Int))), (96, iD v27), (119, bD v33)] [(2, .box (Ag p0)), (14, .box (AE v25)), (2021, .vec 3 (v26.1.map AH))]) (fun j33 h => ?_) (fun v33 h => ?_)
         ·refine Ah Ax rfl (qw 2 rfl ?_)
          refine D4 114 h rfl (fun h => ?_) fun h => ?_
          ·refine qm rfl (qL Bi AV rfl ?_)
           refine Bv h fun v35 a35 h => CD [] [2018, 2019, 2020] (Lt N p1 v31.1 v35 a35) cY Br rfl (Cg rfl (qp rfl (Ac ?_)))
           exact sn [(2021, 2017)] h
          ·refine qw 4 rfl (qp rfl (Ac ?_))
           exact sn [(2021, 2017)] h
         ·refine Ba h (fun h => ?_) fun h => ?_
          ·refine wq rfl (qe rfl ?_)
           obtain rfl := sj h
           refine Ad (sm [] [(4, bD false)] [] rfl rfl) (Aq ?_)
           exact ⟨⟨[_], tm, rfl⟩, tv⟩
          ·refine Ai (Ah Ax rfl (AY rfl (qm rfl (Ac ?_))))
           exact sn [(2017, 2021)] h
        ·refine AU ?_
         exact sn [] h
       ·refine Ad hs (Ah Ax rfl (AY rfl (qm rfl (Ac ?_))))
        exact sn [] h
      ·refine AU ?_
       exact sn [] h
     ·refine Ad hs (wq rfl (qe rfl ?_))
      obtain rfl := sj h
      refine Ad (sm [] [(4, bD true)] [] rfl rfl) (Aq ?_)
      exact ⟨⟨[_], tm, rfl⟩, tv⟩
theorem R7 (N : Nat) (p0 : Aa) (p1 : List Int) (p2 : List Ab) (r : Bool) (h : GW N p0 p1 p2 = some r) : Al zA 27 [.e (.agg (Ag p0)), pD (.sl (p1.map Ak)), pD (.sl (p2.map AW))] [] (bD r) := by
 unfold GW at h
 refine cw (n := 22) (rs := [.tmp 6]) Tryz.func27 fun w0 S0 => ?_
 refine wq rfl (qb rfl (qa rfl (Ac (wq rfl (qL Ct BQ rfl (qm rfl ?_))))))
 refine Bv h fun v1 a1 h => Aw [2001, 2002, 2003, 2004] (KP N p0 p1 v1 a1) dJ rfl (qm rfl (qx rfl (qx rfl (qz Kn rfl (qs BQ rfl (qe rfl ?_))))))
 refine AS h (fun v2 => mk [(6, bD v2)] []) (fun j2 h => ?_) (fun v2 h => ?_)
 ·refine Ah Ax rfl (qm rfl (B7 rfl (qm rfl ?_)))
  refine D4 17 h rfl (fun h => ?_) fun h => ?_
  ·refine qL Ct BQ rfl (qm rfl ?_)
   refine Bv h fun v4 a4 h => CD [] [2001, 2002, 2003, 2004] (P0 N v1.1 p2 v4 a4) eW Br rfl (qp rfl (qe rfl ?_))
   exact sn [] h
  ·refine qw 3 rfl (qp rfl (qe rfl ?_))
   exact sn [] h
 ·obtain rfl := sj h
  refine Ad (sm [] [(6, bD v2)] [] rfl rfl) (Aq ?_)
  exact ⟨⟨[_], tm, rfl⟩, tv⟩
theorem Ni (N : Nat) (p0 : Aa) (p1 : Ab) (r : Bool) (h : Ez N p0 p1 = some r) : Al zA 91 [.e (.agg (Ag p0)), .e (.agg (AE p1))] [] (bD r) := by
 unfold Ez at h
 refine cw (n := 36) (rs := [.tmp 4]) Tryz.func91 fun w0 S0 => ?_
 refine wq rfl (qb rfl (qb rfl (qa rfl (Ac (wp rfl (qL Ct BQ rfl (qL Bi AV rfl ?_)))))))
 refine Bv h fun v1 a1 h => Aw [] (HB N p0 p1 v1 a1) aH rfl (Bt rfl (Ac ?_))
 refine Ba h (fun h => ?_) fun h => ?_
 ·refine wq rfl (qe rfl ?_)
  obtain rfl := sj h
  refine Ad (sm [] [(4, bD false)] [] rfl rfl) (Aq ?_)
  exact ⟨⟨[_], tm, rfl⟩, tv⟩
 ·refine Ai (wp rfl (qe rfl ?_))
  refine AC (L := Dc N p0 p1) h (fun v3 => mk [(2, oD (.ptr 2 0)), (3, oD (.ptr 3 0)), (5, iD v3)] [(2, .box (Ag p0)), (3, .box (AE p1))]) (fun v4 => mk [] []) (fun _ _ => rfl) (sm [] _ _ rfl rfl) (fun j3 n3 v3 h => ?_) (fun v4 s h hs => ?_)
  ·unfold Dc at h
   refine wp rfl (qm rfl (qf CR rfl (ql A4 rfl (AF As rfl (AX rfl (Ac ?_))))))
   refine Ba h (fun h => ?_) fun h => ?_
   ·refine Ai (AM (AJ ?_))
    refine AS h (fun v6 => mk [(2, oD (.ptr 2 0)), (3, oD (.ptr 3 0)), (5, iD v3), (35, bD v6)] [(2, .box (Ag p0)), (3, .box (AE p1))]) (fun j6 h => ?_) (fun v6 h => ?_)
    ·refine Ah Ax rfl (qf BC rfl (ql A4 rfl (qm rfl ?_)))
     refine BE h fun v7 a7 b7 h => qi As CJ a7 (Af b7) rfl (qk B5 rfl (Ew rfl (qm rfl ?_)))
     refine D4 23 h rfl (fun h => ?_) fun h => ?_
     ·refine qw 11 rfl (qp rfl (AK (by kernel_rfl) ?_))
      exact sn [] h
     ·refine qf CR rfl (ql A4 rfl (qm rfl ?_))
      refine BE h fun v9 a9 b9 h => qi As CJ a9 (Af b9) rfl (qk B5 rfl (qf GF rfl (ql A4 rfl (qm rfl ?_))))
      refine BE h fun v10 a10 b10 h => qi As CJ a10 (Af b10) rfl (qk B5 rfl (Bt rfl (qp rfl (AK (by kernel_rfl) ?_))))
      exact sn [] h
    ·refine Ba h (fun h => ?_) fun h => ?_
     ·refine wq rfl (qe rfl ?_)
      obtain rfl := sj h
      refine Ad (sm [] [(4, bD false)] [] rfl rfl) (Aq ?_)
      exact ⟨⟨[_], tm, rfl⟩, tv⟩
     ·refine Ai (Ah Ax rfl (qm rfl (AY rfl (qe rfl ?_))))
      exact sn [] h
   ·refine AU ?_
    exact sn [] h
  ·refine Ad hs (wq rfl (qe rfl ?_))
   obtain rfl := sj h
   refine Ad (sm [] [(4, bD true)] [] rfl rfl) (Aq ?_)
   exact ⟨⟨[_], tm, rfl⟩, tv⟩
theorem Js (N : Nat) (p0 : List Ab) (p1 : Ab) (r : Int × Bool) (h : Ej N p0 p1 = some r) : Al zA 63 [pD (.sl (p0.map AW)), .e (.agg (AE p1))] [] (.tup [.one (iC r.1), .one (.pure (.val (.bool r.2)))]) := by
 unfold Ej at h
 refine cw (n := 36) (rs := [.tmp 4, .tmp 5]) Tryz.func63 fun w0 S0 => ?_
 refine wq rfl (qb rfl (qa rfl (qa rfl (Ac (wq rfl (qa rfl (Ac (AM ?_))))))))
 refine AC (L := Dy N p0 p1) h (fun v1 => mk [(0, pD (.sl (p0.map AW))), (3, oD (.ptr 3 0)), (6, iD v1)] [(3, .box (AE p1))]) (fun v2 => mk [(0, pD (.sl (p0.map AW))), (3, oD (.ptr 3 0)), (6, iD v2)] [(3, .box (AE p1))]) (fun _ _ => rfl) (sm [] _ _ rfl rfl) (fun j1 n1 v1 h => ?_) (fun v2 s h hs => ?_)
 ·unfold Dy at h
  refine AM ?_
  refine AS h (fun v3 => mk [(0, pD (.sl (p0.map AW))), (3, oD (.ptr 3 0)), (6, iD v1), (19, bD v3)] [(3, .box (AE p1))]) (fun j3 h => ?_) (fun v3 h => ?_)
  ·refine Ah Ax rfl (qw 2 rfl (AF Eu rfl (AX rfl (qm rfl ?_))))
   refine D4 11 h rfl (fun h => ?_) fun h => ?_
   ·refine qw 2 rfl ?_
    refine BE h fun v5 a5 b5 h => qi Eu AV a5 (Af b5) rfl (qK Bi AV rfl (qL Bi AV rfl ?_))
    refine Bv h fun v6 a6 h => Aw [] (FE N v5 p1 v6 a6) Zo rfl (AX rfl (qp rfl (AK (by kernel_rfl) ?_)))
    exact sn [] h
   ·refine qw 7 rfl (qp rfl (AK (by kernel_rfl) ?_))
    exact sn [] h
  ·refine Ba h (fun h => ?_) fun h => ?_
   ·refine Ai (AJ (Ah Ax rfl (qm rfl (AY rfl (qe rfl ?_)))))
    exact sn [] h
   ·refine AU ?_
    exact sn [] h
 ·refine Ad hs ?_
  refine AS h (fun v8 => mk [(4, iD v2), (5, bD v8)] []) (fun j8 h => ?_) (fun v8 h => ?_)
  ·refine Ah Ax rfl (qw 3 rfl (AF Eu rfl (AX rfl (qm rfl ?_))))
   refine D4 27 h rfl (fun h => ?_) fun h => ?_
   ·refine qw 2 rfl ?_
    refine BE h fun v10 a10 b10 h => qi Eu AV a10 (Af b10) rfl (qK Bi AV rfl (qL Bi AV rfl ?_))
    refine Bv h fun v11 a11 h => Aw [] (FE N v10 p1 v11 a11) Zo rfl (B7 rfl (qp rfl (qa rfl (qa rfl (AK (by kernel_rfl) ?_)))))
    exact sn [] h
   ·refine qw 7 rfl (qp rfl (qa rfl (qa rfl (AK (by kernel_rfl) ?_))))
    exact sn [] h
  ·obtain rfl := sj h
   refine Ad (sm [] [(4, iD v2), (5, bD v8)] [] rfl rfl) (Aq ?_)
   exact ⟨⟨[_, _], ⟨.tmp _ _ rfl, tm⟩, rfl⟩, tv⟩
theorem MJ (N : Nat) (p0 : Aa) (p1 : List Ab) (r : Bool) (h : E5 N p0 p1 = some r) : Al zA 54 [.e (.agg (Ag p0)), pD (.sl (p1.map AW))] [] (bD r) := by
 unfold E5 at h
 refine cw (n := 120) (rs := [.tmp 4]) Tryz.func54 fun w0 S0 => ?_
 refine wq rfl (qb rfl (qa rfl (Ac (wq rfl (qL Ct BQ rfl ?_)))))
 refine Bv h fun v1 a1 h => Aw [2001, 2002, 2003] (Jq N p0 v1 a1) cP rfl (qm rfl (qx rfl (qx rfl (qz Ea rfl (qs AV rfl (qa rfl (Ac (wp rfl (qm rfl (Bt rfl (Ac ?_)))))))))))
 refine Ba h (fun h => ?_) fun h => ?_
 ·refine wq rfl (qe rfl ?_)
  obtain rfl := sj h
  refine Ad (sm [] [(4, bD false)] [] rfl rfl) (Aq ?_)
  exact ⟨⟨[_], tm, rfl⟩, tv⟩
 ·refine Ai (wp rfl (qL Ct BQ rfl (qL Bi AV rfl ?_)))
  refine Bv h fun v3 a3 h => CD [] [2001, 2002, 2003] (Et N p0 v1.1 v3 a3) X2 Br rfl (Cg rfl (Ac ?_))
  refine Ba h (fun h => ?_) fun h => ?_
  ·refine wq rfl (qm rfl (AF Eu rfl (B7 rfl (qe rfl ?_))))
   obtain rfl := sj h
   refine Ad (sm [] [(4, bD (((p1.length : Int) == 0)))] [] rfl rfl) (Aq ?_)
   exact ⟨⟨[_], tm, rfl⟩, tv⟩
  ·refine Ai (wp rfl (qe rfl ?_))
   refine AC (L := B3 N p0 p1) h (fun v5 => mk [(1, pD (.sl (p1.map AW))), (2, oD (.ptr 2 0)), (5, oD (.ptr 5 0)), (7, iD v5)] [(2, .box (Ag p0)), (5, .box [.own 2004, .own 2005, .own 2006]), (2004, .vec 1 (v1.1.fL.map Ak)), (2005, .vec 1 (v1.1.fI.map Ak)), (2006, .vec 1 (v1.1.fN.map Du))]) (fun v6 => mk [(1, pD (.sl (p1.map AW))), (5, oD (.ptr 5 0))] [(5, .box [.own 2007, .own 2008, .own 2009]), (2007, .vec 1 (v1.1.fL.map Ak)), (2008, .vec 1 (v1.1.fI.map Ak)), (2009, .vec 1 (v1.1.fN.map Du))]) (fun _ _ => rfl) (sm [(2004, 2001), (2005, 2002), (2006, 2003)] _ _ rfl rfl) (fun j5 n5 v5 h => ?_) (fun v6 s h hs => ?_)
   ·unfold B3 at h
    refine wp rfl (qw 2 rfl (AF Eu rfl (AX rfl (Ac ?_))))
    refine Ba h (fun h => ?_) fun h => ?_
    ·refine Ai (AM (AJ (AM ?_)))
     refine AS h (fun v8 => mk [(1, pD (.sl (p1.map AW))), (2, oD (.ptr 2 0)), (5, oD (.ptr 5 0)), (7, iD v5), (50, bD v8)] [(2, .box (Ag p0)), (5, .box [.own 2010, .own 2011, .own 2012]), (2010, .vec 1 (v1.1.fL.map Ak)), (2011, .vec 1 (v1.1.fI.map Ak)), (2012, .vec 1 (v1.1.fN.map Du))]) (fun j8 h => ?_) (fun v8 h => ?_)
     ·refine Ah Ax rfl (qm rfl (FN rfl (qm rfl ?_)))
      refine D4 38 h rfl (fun h => ?_) fun h => ?_
      ·refine qw 2 rfl (JD rfl ?_)
       refine BE h fun v10 a10 b10 h => qi Eu AV a10 (Af b10) rfl (qK Bi AV rfl (qw 2 rfl ?_))
       refine BE h fun v11 a11 b11 h => qi Eu AV a11 (Af b11) rfl (qK Bi AV rfl ?_)
       refine Bv h fun v12 a12 h => Aw [] (FE N v10 v11 v12 a12) Zo rfl (Ew rfl (qp rfl (AK (by kernel_rfl) ?_)))
       exact sn [(2010, 2004), (2011, 2005), (2012, 2006)] h
      ·refine qw 11 rfl (qp rfl (AK (by kernel_rfl) ?_))
       exact sn [(2010, 2004), (2011, 2005), (2012, 2006)] h
     ·refine Ba h (fun h => ?_) fun h => ?_
      ·refine wq rfl (qe rfl ?_)
       obtain rfl := sj h
       refine Ad (sm [] [(4, bD false)] [] rfl rfl) (Aq ?_)
       exact ⟨⟨[_], tm, rfl⟩, tv⟩
      ·refine Ai (AM ?_)
       refine AS h (fun v14 => mk [(1, pD (.sl (p1.map AW))), (2, oD (.ptr 2 0)), (5, oD (.ptr 5 0)), (7, iD v5), (74, bD v14)] [(2, .box (Ag p0)), (5, .box [.own 2013, .own 2014, .own 2015]), (2013, .vec 1 (v1.1.fL.map Ak)), (2014, .vec 1 (v1.1.fI.map Ak)), (2015, .vec 1 (v1.1.fN.map Du))]) (fun j14 h => ?_) (fun v14 h => ?_)
       ·refine Ah Ax rfl (qL Ct BQ rfl (qw 2 rfl ?_))
        refine BE h fun v15 a15 b15 h => qi Eu AV a15 (Af b15) rfl (qK Bi AV rfl ?_)
        refine Bv h fun v16 a16 h => Aw [] (HB N p0 v15 v16 a16) aH rfl (Bt rfl (qm rfl ?_))
        refine D4 58 h rfl (fun h => ?_) fun h => ?_
        ·refine qw 7 rfl (qp rfl (qw 7 rfl (qp rfl (AK (by kernel_rfl) ?_))))
         exact sn [(2013, 2010), (2014, 2011), (2015, 2012)] h
        ·refine qL Ct BQ rfl (qw 2 rfl ?_)
         refine BE h fun v18 a18 b18 h => qi Eu AV a18 (Af b18) rfl (qK Bi AV rfl ?_)
         refine Bv h fun v19 a19 h => Aw [] (Et N p0 v18 v19 a19) X2 rfl (Cg rfl (qp rfl (qm rfl ?_)))
         refine D4 67 h rfl (fun h => ?_) fun h => ?_
         ·refine qw 6 rfl (qp rfl (AK (by kernel_rfl) ?_))
          exact sn [(2013, 2010), (2014, 2011), (2015, 2012)] h
         ·refine qL Ct BQ rfl (qw 2 rfl ?_)
          refine BE h fun v21 a21 b21 h => qi Eu AV a21 (Af b21) rfl (qK Bi AV rfl ?_)
          refine Bv h fun v22 a22 h => Aw [] (Ni N p0 v21 v22 a22) fq rfl (qp rfl (AK (by kernel_rfl) ?_))
          exact sn [(2013, 2010), (2014, 2011), (2015, 2012)] h
       ·refine Ba h (fun h => ?_) fun h => ?_
        ·refine wq rfl (qe rfl ?_)
         obtain rfl := sj h
         refine Ad (sm [] [(4, bD false)] [] rfl rfl) (Aq ?_)
         exact ⟨⟨[_], tm, rfl⟩, tv⟩
        ·refine Ai (wq rfl (qL Ct BQ rfl (qw 2 rfl ?_)))
         refine BE h fun v24 a24 b24 h => qi Eu AV a24 (Af b24) rfl (qK Bi AV rfl ?_)
         refine Bv h fun v25 a25 h => Aw [2016] (JC N p0 v24 v25 a25) cr rfl (qa rfl (AK (by kernel_rfl) (wq rfl (qe rfl ?_))))
         refine AC (L := BR N p0 p1 v5 v25) h (fun v26 => mk [(1, pD (.sl (p1.map AW))), (2, oD (.ptr 2 0)), (5, oD (.ptr 5 0)), (7, iD v5), (8, oD (.own 2020)), (9, iD v26)] [(2, .box (Ag p0)), (5, .box [.own 2017, .own 2018, .own 2019]), (2017, .vec 1 (v1.1.fL.map Ak)), (2018, .vec 1 (v1.1.fI.map Ak)), (2019, .vec 1 (v1.1.fN.map Du)), (2020, .vec 3 (v25.map AH))]) (fun v27 => mk [(1, pD (.sl (p1.map AW))), (2, oD (.ptr 2 0)), (5, oD (.ptr 5 0)), (7, iD v5)] [(2, .box (Ag p0)), (5, .box [.own 2021, .own 2022, .own 2023]), (2021, .vec 1 (v1.1.fL.map Ak)), (2022, .vec 1 (v1.1.fI.map Ak)), (2023, .vec 1 (v1.1.fN.map Du))]) (fun _ _ => rfl) (sm [(2017, 2013), (2018, 2014), (2019, 2015), (2020, 2016)] _ _ rfl rfl) (fun j26 n26 v26 h => ?_) (fun v27 s h hs => ?_)
         ·unfold BR at h
          refine wp rfl (qw 2 rfl (Fm EI rfl (AX rfl (Ac ?_))))
          refine Ba h (fun h => ?_) fun h => ?_
          ·refine Ai (AM (AJ (wq rfl (qL Ct BQ rfl (qw 2 rfl ?_)))))
           refine BE h fun v29 a29 b29 h => qi Eu AV a29 (Af b29) rfl (qK Bi AV rfl (qw 2 rfl ?_))
           refine BE h fun v30 a30 b30 h => qI EI EL a30 (Af b30) rfl (qJ Jh EL (Af b30) rfl ?_)
           refine Bv h fun v31 a31 h => Aw [2024, 2025, 2026] (HH N p0 v29 v30 v31 a31) bC rfl (qm rfl (qx rfl (qx rfl (qz Ea rfl (qs AV rfl (qa rfl (AK (by kernel_rfl) (wq rfl (qm rfl (qL Bi AV rfl ?_))))))))))
           refine Bv h fun v32 a32 h => CD [] [2024, 2025, 2026] (Js N p1 v31.1 v32 a32) dL Br rfl (qm rfl (qx rfl (qx rfl (qa rfl (qe rfl ?_)))))
           refine AS h (fun v33 => mk [(1, pD (.sl (p1.map AW))), (2, oD (.ptr 2 0)), (5, oD (.ptr 5 0)), (7, iD v5), (8, oD (.own 2030)), (9, iD v26), (112, bD v33)] [(2, .box (Ag p0)), (5, .box [.own 2027, .own 2028, .own 2029]), (2027, .vec 1 (v1.1.fL.map Ak)), (2028, .vec 1 (v1.1.fI.map Ak)), (2029, .vec 1 (v1.1.fN.map Du)), (2030, .vec 3 (v25.map AH))]) (fun j33 h => ?_) (fun v33 h => ?_)
           ·refine Ah Ax rfl (qm rfl (Cg rfl (qm rfl ?_)))
            refine D4 108 h rfl (fun h => ?_) fun h => ?_
            ·refine qL Ct BQ rfl (qL Bi AV rfl ?_)
             refine Bv h fun v35 a35 h => CD [] [2024, 2025, 2026] (Et N p0 v31.1 v35 a35) X2 Br rfl (qp rfl (Ac ?_))
             exact sn [(2027, 2017), (2028, 2018), (2029, 2019), (2030, 2020)] h
            ·refine qw 3 rfl (qp rfl (Ac ?_))
             exact sn [(2027, 2017), (2028, 2018), (2029, 2019), (2030, 2020)] h
           ·refine Ba h (fun h => ?_) fun h => ?_
            ·refine wq rfl (qe rfl ?_)
             obtain rfl := sj h
             refine Ad (sm [] [(4, bD false)] [] rfl rfl) (Aq ?_)
             exact ⟨⟨[_], tm, rfl⟩, tv⟩
            ·refine Ai (Ah Ax rfl (qm rfl (AY rfl (qe rfl ?_))))
             exact sn [(2017, 2027), (2018, 2028), (2019, 2029), (2020, 2030)] h
          ·refine AU ?_
           exact sn [(2021, 2017), (2022, 2018), (2023, 2019)] h
         ·refine Ad hs (Ah Ax rfl (qm rfl (AY rfl (qe rfl ?_))))
          exact sn [(2004, 2021), (2005, 2022), (2006, 2023)] h
    ·refine AU ?_
     exact sn [(2007, 2004), (2008, 2005), (2009, 2006)] h
   ·refine Ad hs (wq rfl (qm rfl (qL Bi AV rfl ?_)))
    refine Bv h fun v37 a37 h => CD [] [2007, 2008, 2009] (Js N p1 v1.1 v37 a37) dL Br rfl (qm rfl (qx rfl (qx rfl (qa rfl (qa rfl (Ac (wq rfl (qm rfl (qe rfl ?_)))))))))
    obtain rfl := sj h
    refine Ad (sm [] [(4, bD v37.2)] [] rfl rfl) (Aq ?_)
    exact ⟨⟨[_], tm, rfl⟩, tv⟩
theorem MA (N : Nat) (p0 : Aa) (p1 : List Int) (p2 : List Ab) (r : Bool) (h : Eb N p0 p1 p2 = some r) : Al zA 29 [.e (.agg (Ag p0)), pD (.sl (p1.map Ak)), pD (.sl (p2.map AW))] [] (bD r) := by
 unfold Eb at h
 refine cw (n := 22) (rs := [.tmp 6]) Tryz.func29 fun w0 S0 => ?_
 refine wq rfl (qb rfl (qa rfl (Ac (wq rfl (qL Ct BQ rfl (qm rfl ?_))))))
 refine Bv h fun v1 a1 h => Aw [2001, 2002, 2003, 2004] (Iy N p0 p1 v1 a1) en rfl (qm rfl (qx rfl (qx rfl (qz Kn rfl (qs BQ rfl (qe rfl ?_))))))
 refine AS h (fun v2 => mk [(6, bD v2)] []) (fun j2 h => ?_) (fun v2 h => ?_)
 ·refine Ah Ax rfl (qm rfl (B7 rfl (qm rfl ?_)))
  refine D4 17 h rfl (fun h => ?_) fun h => ?_
  ·refine qL Ct BQ rfl (qm rfl ?_)
   refine Bv h fun v4 a4 h => CD [] [2001, 2002, 2003, 2004] (MJ N v1.1 p2 v4 a4) eF Br rfl (qp rfl (qe rfl ?_))
   exact sn [] h
  ·refine qw 3 rfl (qp rfl (qe rfl ?_))
   exact sn [] h
 ·obtain rfl := sj h
  refine Ad (sm [] [(6, bD v2)] [] rfl rfl) (Aq ?_)
  exact ⟨⟨[_], tm, rfl⟩, tv⟩
theorem K0 (N : Nat) (p0 : BP) (p1 : List Int) (p2 : List Ab) (r : Bool) (h : D2 N p0 p1 p2 = some r) : Al zA 7 [.e (.agg (C4 p0)), pD (.sl (p1.map Ak)), pD (.sl (p2.map AW))] [] (bD r) := by
 unfold D2 at h
 refine cw (n := 76) (rs := [.tmp 6]) Tryz.func7 fun w0 S0 => ?_
 refine wq rfl (qb rfl (qa rfl (Ac (wq rfl (qL dZ d5 rfl ?_)))))
 refine Bv h fun v1 a1 h => Aw [2001, 2002, 2003, 2004] (Oz N p0 v1 a1) fj rfl (qm rfl (qx rfl (qx rfl (qz Kn rfl (qs BQ rfl (qa rfl (Ac (AM ?_))))))))
 refine AS h (fun v2 => mk [(1, pD (.sl (p1.map Ak))), (2, pD (.sl (p2.map AW))), (7, oD (.ptr 7 0)), (34, bD v2)] [(7, .box [.own 2005, .own 2006, .own 2007, .own 2008]), (2005, .vec 1 (v1.1.fJ.map Ak)), (2006, .vec 1 (v1.1.fQ.map Ak)), (2007, .vec 1 (v1.1.fU.map Ak)), (2008, .vec 6 (v1.1.fK.map AP))]) (fun j2 h => ?_) (fun v2 h => ?_)
 ·refine Ah Ax rfl ?_
  refine Bv h fun v3 a3 h => Aw [] (JF N v3 a3) d6 rfl (Cg rfl (qm rfl ?_))
  refine D4 21 h rfl (fun h => ?_) fun h => ?_
  ·refine qw 2 rfl (qp rfl (qw 4 rfl (qp rfl (qw 4 rfl (qp rfl (Ac ?_))))))
   exact sn [(2005, 2001), (2006, 2002), (2007, 2003), (2008, 2004)] h
  ·refine qm rfl (Cg rfl (qp rfl (qm rfl ?_)))
   refine D4 25 h rfl (fun h => ?_) fun h => ?_
   ·refine qw 3 rfl (qp rfl (qw 4 rfl (qp rfl (Ac ?_))))
    exact sn [(2005, 2001), (2006, 2002), (2007, 2003), (2008, 2004)] h
   ·refine qm rfl (AF As rfl (FN rfl (qp rfl (qm rfl ?_))))
    refine D4 30 h rfl (fun h => ?_) fun h => ?_
    ·refine qw 3 rfl (qp rfl (Ac ?_))
     exact sn [(2005, 2001), (2006, 2002), (2007, 2003), (2008, 2004)] h
    ·refine qm rfl (AF Eu rfl (FN rfl (qp rfl (Ac ?_))))
     exact sn [(2005, 2001), (2006, 2002), (2007, 2003), (2008, 2004)] h
 ·refine Ba h (fun h => ?_) fun h => ?_
  ·refine wq rfl ?_
   refine Bv h fun v8 a8 h => Aw [] (JF N v8 a8) d6 rfl (qe rfl ?_)
   obtain rfl := sj h
   refine Ad (sm [] [(6, bD v8)] [] rfl rfl) (Aq ?_)
   exact ⟨⟨[_], tm, rfl⟩, tv⟩
  ·refine Ai (wp rfl (qm rfl (AF Eu rfl (qm rfl (Ac ?_)))))
   refine AC (L := BO N p2) h (fun v9 => mk [(1, pD (.sl (p1.map Ak))), (2, pD (.sl (p2.map AW))), (7, oD (.ptr 7 0)), (36, pD (.sl (p2.map AW))), (37, iD ((p2.length : Int))), (38, iD v9)] [(7, .box [.own 2009, .own 2010, .own 2011, .own 2012]), (2009, .vec 1 (v1.1.fJ.map Ak)), (2010, .vec 1 (v1.1.fQ.map Ak)), (2011, .vec 1 (v1.1.fU.map Ak)), (2012, .vec 6 (v1.1.fK.map AP))]) (fun v10 => mk [(1, pD (.sl (p1.map Ak))), (2, pD (.sl (p2.map AW))), (7, oD (.ptr 7 0))] [(7, .box [.own 2013, .own 2014, .own 2015, .own 2016]), (2013, .vec 1 (v1.1.fJ.map Ak)), (2014, .vec 1 (v1.1.fQ.map Ak)), (2015, .vec 1 (v1.1.fU.map Ak)), (2016, .vec 6 (v1.1.fK.map AP))]) (fun _ _ => rfl) (sm [(2009, 2005), (2010, 2006), (2011, 2007), (2012, 2008)] _ _ rfl rfl) (fun j9 n9 v9 h => ?_) (fun v10 s h hs => ?_)
   ·unfold BO at h
    refine wq rfl (AX rfl (Ac (AM ?_)))
    refine Ba h (fun h => ?_) fun h => ?_
    ·refine Ai (AM (AJ (wq rfl ?_)))
     refine BE h fun v12 a12 b12 h => qi Eu AV a12 (Af b12) rfl (qK Bi AV rfl (qz Ea rfl (qs AV rfl (Ac (wq rfl (qL Bi AV rfl ?_))))))
     refine Bv h fun v13 a13 h => Aw [] (Oa N v12 v13 a13) fc rfl (Cg rfl (Ac ?_))
     refine Ba h (fun h => ?_) fun h => ?_
     ·refine wq rfl (qe rfl ?_)
      obtain rfl := sj h
      refine Ad (sm [] [(6, bD true)] [] rfl rfl) (Aq ?_)
      exact ⟨⟨[_], tm, rfl⟩, tv⟩
     ·refine Ai (Ah Ax rfl (AY rfl (qm rfl (Ac ?_))))
      exact sn [] h
    ·refine AU ?_
     exact sn [(2013, 2009), (2014, 2010), (2015, 2011), (2016, 2012)] h
   ·refine Ad hs (wq rfl (qL Ct BQ rfl (qm rfl ?_)))
    refine Bv h fun v15 a15 h => Aw [2017] (C9 N p1 v15 a15) UC rfl (qm rfl ?_)
    refine Bv h fun v16 a16 h => Aw [2018] (IQ N p2 v16 a16) fd rfl ?_
    refine Bv h fun v17 a17 h => CD [] [2013, 2014, 2015, 2016, 2017, 2018] (R7 N v1.1 v15 v16 v17 a17) eL Br rfl (qa rfl (AK (by kernel_rfl) (wq rfl (qL Ct BQ rfl (qm rfl ?_)))))
    refine Bv h fun v18 a18 h => Aw [2019] (C9 N p1 v18 a18) UC rfl ?_
    refine Bv h fun v19 a19 h => CD [] [2013, 2014, 2015, 2016, 2019] (KB N v1.1 v18 v19 a19) az Br rfl (qm rfl (qx rfl (qx rfl (qa rfl (qa rfl (AK (by kernel_rfl) ?_))))))
    refine AS h (fun v20 => mk [(6, bD v20)] []) (fun j20 h => ?_) (fun v20 h => ?_)
    ·refine Ah Ax rfl (qm rfl (qL Ct BQ rfl (qw 2 rfl ?_)))
     refine Bv h fun v21 a21 h => CD [] [2013, 2014, 2015, 2016] (MA N v1.1 p1 p2 v21 a21) eT Br rfl ?_
     refine Jx (.p rfl) rfl rfl (Yo _ _ _ _ fH) rfl ?_
     refine qm rfl ?_
     refine D4 65 h rfl (fun h => ?_) fun h => ?_
     ·refine qm rfl (Cg rfl (qm rfl ?_))
      refine D4 68 h rfl (fun h => ?_) fun h => ?_
      ·refine qw 3 rfl (qu rfl (qn rfl (qp rfl (qp rfl (qe rfl ?_)))))
       exact sn [] h
      ·refine qm rfl (B7 rfl (qm rfl ?_))
       refine D4 71 h rfl (fun h => ?_) fun h => ?_
       ·refine qm rfl (qp rfl (qp rfl (qp rfl (qe rfl ?_))))
        exact sn [] h
       ·refine qn rfl (qp rfl (qp rfl (qp rfl (qe rfl ?_))))
        exact sn [] h
     ·refine qw 3 rfl (qu rfl (qu rfl (qu rfl (qu rfl (qu rfl (qn rfl (qp rfl (qe rfl ?_))))))))
      exact sn [] h
    ·obtain rfl := sj h
     refine Ad (sm [] [(6, bD v20)] [] rfl rfl) (Aq ?_)
     exact ⟨⟨[_], tm, rfl⟩, tv⟩
end Go.Lift
