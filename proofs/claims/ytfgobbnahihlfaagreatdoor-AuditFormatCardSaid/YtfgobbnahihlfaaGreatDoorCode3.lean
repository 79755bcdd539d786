/- Lemmas for AuditFormatCardSaid, which YtfgobbnahihlfaaGreatDoorFinA5 proves. -/
import Derived.Test.YtfgobbnahihlfaaGreatDoorCode
open List renaming getElem?_map → uX, length_map → vG, map_eq_nil_iff → zB3, replicate → zA3
open Nat renaming le_refl → zB8, zero_add → uY
open Option renaming map → zD0
open Go.Proofs.Tryz renaming prog → uS
namespace Go.Lift
open IntKind renaming wrap → wI
set_option maxRecDepth 10000
open Go.RowKit
open Go.Proofs
theorem D8 (N : Nat) (p0 : Int) (p1 : Int) (r : Bool) (h : Cx N p0 p1 = some r) : Ak uS 102 [iD p0, iD p1] [] (bD r) := by
 unfold Cx at h
 refine cw (n := 12) (rs := [.tmp 4]) Tryz.func102 fun w0 S0 => ?_
 refine wq rfl (qe rfl ?_)
 refine AD h (fun v1 => mk [(4, bD v1)] []) (fun j1 h => ?_) (fun v1 h => ?_)
 ·refine Ah Az rfl (qm rfl (Eh rfl (qm rfl ?_)))
  refine Dc 7 h rfl (fun h => ?_) fun h => ?_
  ·refine qw 2 rfl (A0 rfl (qp rfl (qe rfl ?_)))
   exact sn [] h
  ·refine qw 3 rfl (qp rfl (qe rfl ?_))
   exact sn [] h
 ·obtain rfl := sj h
  refine Ag (sm [] [(4, bD v1)] [] rfl rfl) (Am ?_)
  exact ⟨⟨[_], tm, rfl⟩, tv⟩
theorem KG (N : Nat) (p0 : Int) (p1 : Bool) (r : Bool) (h : Fv N p0 p1 = some r) : Ak uS 144 [iD p0, bD p1] [] (bD r) := by
 unfold Fv at h
 refine cw (n := 23) (rs := [.tmp 4]) Tryz.func144 fun w0 S0 => ?_
 refine wq rfl (qe rfl ?_)
 refine AD h (fun v1 => mk [(4, bD v1)] []) (fun j1 h => ?_) (fun v1 h => ?_)
 ·refine Ah Az rfl (qm rfl (AJ rfl (qm rfl ?_)))
  refine Dc 7 h rfl (fun h => ?_) fun h => ?_
  ·refine qw 2 rfl (qp rfl (qw 4 rfl (qu rfl (qu rfl (qw 2 rfl (qu rfl (qu rfl (qn rfl (qp rfl (qe rfl ?_))))))))))
   exact sn [] h
  ·refine qm rfl (AJ rfl (qp rfl (qm rfl ?_)))
   refine Dc 11 h rfl (fun h => ?_) fun h => ?_
   ·refine qw 3 rfl (qu rfl (qu rfl (qw 2 rfl (qu rfl (qu rfl (qn rfl (qp rfl (qe rfl ?_))))))))
    exact sn [] h
   ·refine qm rfl (AJ rfl (qm rfl ?_))
    refine Dc 14 h rfl (fun h => ?_) fun h => ?_
    ·refine qw 2 rfl (qp rfl (qw 2 rfl (Cn rfl (qp rfl (qp rfl (qe rfl ?_))))))
     exact sn [] h
    ·refine qm rfl (AJ rfl (qp rfl (qm rfl ?_)))
     refine Dc 18 h rfl (fun h => ?_) fun h => ?_
     ·refine qm rfl (Cn rfl (qp rfl (qp rfl (qe rfl ?_))))
      exact sn [] h
     ·refine qw 2 rfl (qp rfl (qp rfl (qe rfl ?_)))
      exact sn [] h
 ·obtain rfl := sj h
  refine Ag (sm [] [(4, bD v1)] [] rfl rfl) (Am ?_)
  exact ⟨⟨[_], tm, rfl⟩, tv⟩
theorem H0 (N : Nat) (p0 : List Bool) (p1 : Int) (r : Bool) (h : CB N p0 p1 = some r) : Ak uS 174 [pD (.sl (p0.map eB)), oD (.rop [.val (.int .i64 p1)])] [] (bD r) := by
 unfold CB at h
 refine cw (n := 8) (rs := [.tmp 3]) Tryz.func174 fun w0 S0 => ?_
 refine wq rfl (qa rfl (Ac (wq rfl (qm rfl (AM KI rfl (qk Bc rfl (Co rfl (qe rfl ?_))))))))
 obtain rfl := sj h
 refine Ag (sm [] [(3, bD (((p0.length : Int) != p1)))] [] rfl rfl) (Am ?_)
 exact ⟨⟨[_], tm, rfl⟩, tv⟩
theorem EK (N : Nat) (p0 : List (List Bool)) (p1 : (List Bool) → Option Bool) (r : Int) (h : BZ N p0 p1 = some r) : Ak uS 189 [pD (.sl (p0.map (Lz eB))), oD (.clo (GX (J8 false (Lz eB)) tB p1))] [] (iD r) := by
 unfold BZ at h
 refine cw (n := 19) (rs := [.tmp 4]) Tryz.func189 fun w0 S0 => ?_
 refine wq rfl (qa rfl (Ac (wp rfl (qm rfl (AM Fz rfl (qm rfl (Ac ?_)))))))
 refine Bf (L := A9 N p0 p1) h (fun v1 => mk [(0, pD (.sl (p0.map (Lz eB)))), (1, oD (.clo (GX (J8 false (Lz eB)) tB p1))), (7, iD ((p0.length : Int))), (8, iD v1)] []) (fun v2 => mk [] []) (fun _ _ => rfl) (sm [] _ _ rfl rfl) (fun j1 n1 v1 h => ?_) (fun v2 s h hs => ?_)
 ·unfold A9 at h
  refine wq rfl (A0 rfl (Ac (AP ?_)))
  refine Bi h (fun h => ?_) fun h => ?_
  ·refine Ap (AP (AS (wq rfl (qm rfl (qa rfl (Ac (wq rfl (qw 3 rfl ?_))))))))
   refine Cg h fun v4 a4 b4 h => qi Fz Mg a4 (Ai b4) rfl (qk Mu rfl ?_)
   refine BD h fun v5 a5 h => IH (ds0 := [_]) (ar := (J8 false (Lz eB)) v4) (.p rfl) rfl rfl ⟨rfl, tv⟩ rfl rfl rfl (ID (IF _ _ (QW Sc)) a5) ?_
   refine Ac ?_
   refine Bi h (fun h => ?_) fun h => ?_
   ·refine wq rfl (qm rfl (qe rfl ?_))
    obtain rfl := sj h
    refine Ag (sm [] [(4, iD v1)] [] rfl rfl) (Am ?_)
    exact ⟨⟨[_], tm, rfl⟩, tv⟩
   ·refine Ap (Ah Az rfl (Cr rfl (qm rfl (Ac ?_))))
    exact sn [] h
  ·refine Cd ?_
   exact sn [] h
 ·refine Ag hs (wq rfl (qe rfl ?_))
  obtain rfl := sj h
  refine Ag (sm [] [(4, iD ((-1)))] [] rfl rfl) (Am ?_)
  exact ⟨⟨[_], tm, rfl⟩, tv⟩
theorem Ee (N : Nat) (p0 : List (List Bool)) (p1 : (List Bool) → Option Bool) (r : Bool) (h : BF N p0 p1 = some r) : Ak uS 173 [pD (.sl (p0.map (Lz eB))), oD (.clo (GX (J8 false (Lz eB)) tB p1))] [] (bD r) := by
 unfold BF at h
 refine cw (n := 9) (rs := [.tmp 4]) Tryz.func173 fun w0 S0 => ?_
 refine wq rfl (qa rfl (Ac (wq rfl (qw 2 rfl ?_))))
 refine BD h fun v1 a1 h => Ax [] (EK N p0 p1 v1 a1) Qv rfl (Eh rfl (qe rfl ?_))
 obtain rfl := sj h
 refine Ag (sm [] [(4, bD ((decide (0 ≤ v1))))] [] rfl rfl) (Am ?_)
 exact ⟨⟨[_], tm, rfl⟩, tv⟩
theorem GQ (N : Nat) (p0 : List (List Bool)) (p1 : Int) (p2 : Int) (r : Bool) (h : Dq N p0 p1 p2 = some r) : Ak uS 145 [pD (.sl (p0.map (Lz eB))), iD p1, iD p2] [] (bD r) := by
 unfold Dq at h
 refine cw (n := 17) (rs := [.tmp 6]) Tryz.func145 fun w0 S0 => ?_
 refine wq rfl (qb rfl (qe rfl ?_))
 refine AD h (fun v1 => mk [(6, bD v1)] []) (fun j1 h => ?_) (fun v1 h => ?_)
 ·refine Ah Az rfl (qm rfl (AM Fz rfl (qm rfl (AJ rfl (qm rfl ?_)))))
  refine Dc 11 h rfl (fun h => ?_) fun h => ?_
  ·refine qm rfl (zFS (GE 5 [.val (.int .i64 p2)] rfl rfl) ?_)
   refine LC (capD := [_]) (GX (J8 false (Lz eB)) tB ((fun (x : List Bool) => CB N x p2))) (.g rfl rfl) RG rfl ⟨rfl, tv⟩ rfl (fun ar t ht => by obtain ⟨x, r, rfl, hq, rfl⟩ := G5 ht; exact H0 N x p2 r hq) ?_
   refine BD h fun v3 a3 h => Ax [] (Ee N p0 ((fun (x : List Bool) => CB N x p2)) v3 a3) Qw rfl (Cn rfl (qp rfl (qe rfl ?_)))
   exact sn [] h
  ·refine qw 4 rfl (qp rfl (qe rfl ?_))
   exact sn [] h
 ·obtain rfl := sj h
  refine Ag (sm [] [(6, bD v1)] [] rfl rfl) (Am ?_)
  exact ⟨⟨[_], tm, rfl⟩, tv⟩
theorem JG (N : Nat) (p0 : Ad) (p1 : AU) (r : Int) (h : Fa N p0 p1 = some r) : Ak uS 103 [.e (.agg (Aw p0)), .e (.agg (Dh p1))] [] (iD r) := by
 unfold Fa at h
 refine cw (n := 87) (rs := [.tmp 4]) Tryz.func103 fun w0 S0 => ?_
 refine wq rfl (qb rfl (qb rfl (qa rfl (Ac (wp rfl (qf DY rfl (ql Bc rfl (qf NI rfl (ql Ql rfl ?_)))))))))
 refine BD h fun v1 a1 h => Ax [] (KG N p1.fd p1.fJ v1 a1) QR rfl (Cn rfl (Ac ?_))
 refine Bi h (fun h => ?_) fun h => ?_
 ·refine wq rfl (qe rfl ?_)
  obtain rfl := sj h
  refine Ag (sm [] [(4, iD 1)] [] rfl rfl) (Am ?_)
  exact ⟨⟨[_], tm, rfl⟩, tv⟩
 ·refine Ap (AP ?_)
  refine AD h (fun v3 => mk [(2, oD (.ptr 2 0)), (3, oD (.ptr 3 0)), (29, bD v3)] [(2, .box (Aw p0)), (3, .box (Dh p1))]) (fun j3 h => ?_) (fun v3 h => ?_)
  ·refine Ah Az rfl (qf DX rfl (ql Bc rfl (qf C5 rfl (ql Cl rfl (AM AL rfl ?_)))))
   refine BD h fun v4 a4 h => Ax [] (D8 N p1.fF ((p0.fi.length : Int)) v4 a4) Mb rfl (Cn rfl (qm rfl ?_))
   refine Dc 21 h rfl (fun h => ?_) fun h => ?_
   ·refine qw 7 rfl (qp rfl (Ac ?_))
    exact sn [] h
   ·refine qf HG rfl (ql Bc rfl (qf C5 rfl (ql Cl rfl (AM AL rfl ?_))))
    refine BD h fun v6 a6 h => Ax [] (D8 N p1.fH ((p0.fi.length : Int)) v6 a6) Mb rfl (Cn rfl (qp rfl (Ac ?_)))
    exact sn [] h
  ·refine Bi h (fun h => ?_) fun h => ?_
   ·refine wq rfl (qe rfl ?_)
    obtain rfl := sj h
    refine Ag (sm [] [(4, iD 4)] [] rfl rfl) (Am ?_)
    exact ⟨⟨[_], tm, rfl⟩, tv⟩
   ·refine Ap (wq rfl (qf C5 rfl (ql Cl rfl (qf DX rfl (ql Bc rfl ?_)))))
    refine Cg h fun v8 a8 b8 h => qi AL Da a8 (Ai b8) rfl (qk Bc rfl (qa rfl (Ac (wq rfl (qf DY rfl (ql Bc rfl (AJ rfl (qa rfl (Ac (AP ?_))))))))))
    refine AD h (fun v9 => mk [(3, oD (.ptr 3 0)), (70, bD v9)] [(3, .box (Dh p1))]) (fun j9 h => ?_) (fun v9 h => ?_)
    ·refine Ah Az rfl (qf IT rfl (ql HO rfl (qm rfl (qf C5 rfl (ql Cl rfl (qf HG rfl (ql Bc rfl ?_)))))))
     refine Cg h fun v10 a10 b10 h => qi AL Da a10 (Ai b10) rfl (qk Bc rfl ?_)
     refine BD h fun v11 a11 h => Ax [] (GQ N p1.fI v8 v10 v11 a11) Pm rfl (Cn rfl (qm rfl ?_))
     refine Dc 50 h rfl (fun h => ?_) fun h => ?_
     ·refine qw 2 rfl (qu rfl (qu rfl (qu rfl (qu rfl (qu rfl (qu rfl (qn rfl (qp rfl (qw 4 rfl (qu rfl (qu rfl (qu rfl (qu rfl (qn rfl (qp rfl (AB (by kernel_rfl) ?_))))))))))))))))
      exact sn [] h
     ·refine qw 2 rfl ?_
      refine Dc 52 h rfl (fun h => ?_) fun h => ?_
      ·refine qf FP rfl (ql HO rfl (qw 2 rfl ?_))
       refine BD h fun v14 a14 h => Ax [] (GQ N p1.fG v8 v8 v14 a14) Pm rfl (Cn rfl (qp rfl (qp rfl (qm rfl ?_))))
       refine Dc 61 h rfl (fun h => ?_) fun h => ?_
       ·refine qw 3 rfl (qu rfl (qu rfl (qu rfl (qu rfl (qn rfl (qp rfl (AB (by kernel_rfl) ?_)))))))
        exact sn [] h
       ·refine qm rfl (Cn rfl (qm rfl ?_))
        refine Dc 64 h rfl (fun h => ?_) fun h => ?_
        ·refine qf FP rfl (ql HO rfl (AM Fz rfl (Eg rfl (qp rfl (qp rfl (AB (by kernel_rfl) ?_))))))
         exact sn [] h
        ·refine qw 4 rfl (qp rfl (qp rfl (AB (by kernel_rfl) ?_)))
         exact sn [] h
      ·refine qw 6 rfl (qp rfl (qp rfl (qw 2 rfl (Cn rfl (qm rfl ?_)))))
       refine Dc 64 h rfl (fun h => ?_) fun h => ?_
       ·refine qf FP rfl (ql HO rfl (AM Fz rfl (Eg rfl (qp rfl (qp rfl (AB (by kernel_rfl) ?_))))))
        exact sn [] h
       ·refine qw 4 rfl (qp rfl (qp rfl (AB (by kernel_rfl) ?_)))
        exact sn [] h
    ·refine Bi h (fun h => ?_) fun h => ?_
     ·refine wq rfl (qe rfl ?_)
      obtain rfl := sj h
      refine Ag (sm [] [(4, iD 6)] [] rfl rfl) (Am ?_)
      exact ⟨⟨[_], tm, rfl⟩, tv⟩
     ·refine Ap (wp rfl (qf FP rfl (ql HO rfl (AM Fz rfl (qm rfl (Ac ?_))))))
      refine Bf (L := CU N p1) h (fun v19 => mk [(3, oD (.ptr 3 0)), (73, iD ((p1.fG.length : Int))), (74, iD v19)] [(3, .box (Dh p1))]) (fun v20 => mk [] []) (fun _ _ => rfl) (sm [] _ _ rfl rfl) (fun j19 n19 v19 h => ?_) (fun v20 s h hs => ?_)
      ·unfold CU at h
       refine wq rfl (A0 rfl (Ac (AP ?_)))
       refine Bi h (fun h => ?_) fun h => ?_
       ·refine Ap (AP (AS (wq rfl (qm rfl (qa rfl (Ac (wq rfl (qf FP rfl (ql HO rfl (qm rfl ?_))))))))))
        refine Cg h fun v22 a22 b22 h => qi Fz Mg a22 (Ai b22) rfl (qk Mu rfl (qm rfl ?_))
        refine Cg h fun v23 a23 b23 h => qi KI RO a23 (Ai b23) rfl (qk Ql rfl (Cn rfl (Ac ?_)))
        refine Bi h (fun h => ?_) fun h => ?_
        ·refine wq rfl (qe rfl ?_)
         obtain rfl := sj h
         refine Ag (sm [] [(4, iD 1)] [] rfl rfl) (Am ?_)
         exact ⟨⟨[_], tm, rfl⟩, tv⟩
        ·refine Ap (Ah Az rfl (Cr rfl (qm rfl (Ac ?_))))
         exact sn [] h
       ·refine Cd ?_
        exact sn [] h
      ·refine Ag hs (wq rfl (qe rfl ?_))
       obtain rfl := sj h
       refine Ag (sm [] [(4, iD 0)] [] rfl rfl) (Am ?_)
       exact ⟨⟨[_], tm, rfl⟩, tv⟩
theorem CA (N : Nat) (p0 : Ad) (r : Int) (h : Bp N p0 = some r) : Ak uS 59 [.e (.agg (Aw p0))] [] (iD r) := by
 unfold Bp at h
 refine cw (n := 81) (rs := [.tmp 2]) Tryz.func59 fun w0 S0 => ?_
 refine wq rfl (qb rfl (qa rfl (Ac (wq rfl (qf C5 rfl (ql Cl rfl (AM AL rfl (qa rfl (Ac (AP ?_))))))))))
 refine AD h (fun v1 => mk [(1, oD (.ptr 1 0)), (3, iD ((p0.fi.length : Int))), (19, bD v1)] [(1, .box (Aw p0))]) (fun j1 h => ?_) (fun v1 h => ?_)
 ·refine Ah Az rfl (qm rfl (Eg rfl (qm rfl ?_)))
  refine Dc 14 h rfl (fun h => ?_) fun h => ?_
  ·refine qw 4 rfl (qp rfl (Ac ?_))
   exact sn [] h
  ·refine qf Dp rfl (ql Ix rfl (AM EN rfl (Eg rfl (qp rfl (Ac ?_)))))
   exact sn [] h
 ·refine Bi h (fun h => ?_) fun h => ?_
  ·refine wq rfl (qe rfl ?_)
   obtain rfl := sj h
   refine Ag (sm [] [(2, iD 3)] [] rfl rfl) (Am ?_)
   exact ⟨⟨[_], tm, rfl⟩, tv⟩
  ·refine Ap (AP ?_)
   refine AD h (fun v4 => mk [(1, oD (.ptr 1 0)), (31, bD v4)] [(1, .box (Aw p0))]) (fun j4 h => ?_) (fun v4 h => ?_)
   ·refine Ah Az rfl (qf HH rfl (ql Cl rfl (AM AL rfl (qm rfl (Co rfl (qm rfl ?_))))))
    refine Dc 25 h rfl (fun h => ?_) fun h => ?_
    ·refine qw 5 rfl (qp rfl (Ac ?_))
     exact sn [] h
    ·refine qf Ms rfl (ql Cl rfl (AM AL rfl (qm rfl (Co rfl (qp rfl (Ac ?_))))))
     exact sn [] h
   ·refine Bi h (fun h => ?_) fun h => ?_
    ·refine wq rfl (qe rfl ?_)
     obtain rfl := sj h
     refine Ag (sm [] [(2, iD 6)] [] rfl rfl) (Am ?_)
     exact ⟨⟨[_], tm, rfl⟩, tv⟩
    ·refine Ap (wp rfl (qf C5 rfl (ql Cl rfl (AM AL rfl (qm rfl (Ac ?_))))))
     refine Bf (L := BT N p0) h (fun v7 => mk [(1, oD (.ptr 1 0)), (33, pD (.sl (p0.fi.map Aq))), (34, iD ((p0.fi.length : Int))), (35, iD v7)] [(1, .box (Aw p0))]) (fun v8 => mk [(1, oD (.ptr 1 0))] [(1, .box (Aw p0))]) (fun _ _ => rfl) (sm [] _ _ rfl rfl) (fun j7 n7 v7 h => ?_) (fun v8 s h hs => ?_)
     ·unfold BT at h
      refine wq rfl (A0 rfl (Ac (AP ?_)))
      refine Bi h (fun h => ?_) fun h => ?_
      ·refine Ap (AP (AS (wq rfl (qm rfl ?_))))
       refine Cg h fun v10 a10 b10 h => qi AL Da a10 (Ai b10) rfl (qk Bc rfl (qa rfl (qe rfl ?_)))
       refine AD h (fun v11 => mk [(1, oD (.ptr 1 0)), (33, pD (.sl (p0.fi.map Aq))), (34, iD ((p0.fi.length : Int))), (35, iD v7), (65, bD v11)] [(1, .box (Aw p0))]) (fun j11 h => ?_) (fun v11 h => ?_)
       ·refine Ah Az rfl (qm rfl (A0 rfl (qm rfl ?_)))
        refine Dc 42 h rfl (fun h => ?_) fun h => ?_
        ·refine qw 2 rfl (qp rfl (qw 9 rfl (qp rfl (qw 9 rfl (qp rfl (Ac ?_))))))
         exact sn [] h
        ·refine qm rfl (Eg rfl (qp rfl (qm rfl ?_)))
         refine Dc 46 h rfl (fun h => ?_) fun h => ?_
         ·refine qw 8 rfl (qp rfl (qw 9 rfl (qp rfl (Ac ?_))))
          exact sn [] h
         ·refine qf HH rfl (ql Cl rfl (qm rfl ?_))
          refine Cg h fun v14 a14 b14 h => qi AL Da a14 (Ai b14) rfl (qk Bc rfl (qm rfl ?_))
          refine BD h fun v15 a15 h => Ax [] (D8 N v14 v10 v15 a15) Mb rfl (Cn rfl (qp rfl (qm rfl ?_)))
          refine Dc 56 h rfl (fun h => ?_) fun h => ?_
          ·refine qw 8 rfl (qp rfl (Ac ?_))
           exact sn [] h
          ·refine qf Ms rfl (ql Cl rfl (qm rfl ?_))
           refine Cg h fun v17 a17 b17 h => qi AL Da a17 (Ai b17) rfl (qk Bc rfl (qm rfl ?_))
           refine BD h fun v18 a18 h => Ax [] (D8 N v17 v10 v18 a18) Mb rfl (Cn rfl (qp rfl (Ac ?_)))
           exact sn [] h
       ·refine Bi h (fun h => ?_) fun h => ?_
        ·refine wq rfl (qe rfl ?_)
         obtain rfl := sj h
         refine Ag (sm [] [(2, iD 7)] [] rfl rfl) (Am ?_)
         exact ⟨⟨[_], tm, rfl⟩, tv⟩
        ·refine Ap (Ah Az rfl (Cr rfl (qm rfl (Ac ?_))))
         exact sn [] h
      ·refine Cd ?_
       exact sn [] h
     ·refine Ag hs (wp rfl (qf Dp rfl (ql Ix rfl (AM EN rfl (qm rfl (Ac ?_))))))
      refine Bf (L := BL N p0) h (fun v20 => mk [(1, oD (.ptr 1 0)), (68, pD (.sl (p0.fg.map A5))), (69, iD ((p0.fg.length : Int))), (70, iD v20)] [(1, .box (Aw p0))]) (fun v21 => mk [] []) (fun _ _ => rfl) (sm [] _ _ rfl rfl) (fun j20 n20 v20 h => ?_) (fun v21 s h hs => ?_)
      ·unfold BL at h
       refine wq rfl (A0 rfl (Ac (AP ?_)))
       refine Bi h (fun h => ?_) fun h => ?_
       ·refine Ap (AP (AS (wq rfl ?_)))
        refine Cg h fun v23 a23 b23 h => qi EN CP a23 (Ai b23) rfl (qK FK CP rfl (qz Jt rfl (qs CP rfl (Ac (wq rfl (qL Ed D1 rfl (qL FK CP rfl ?_)))))))
        refine BD h fun v24 a24 h => Ax [] (JG N p0 v23 v24 a24) RD rfl (qa rfl (Ac (wq rfl (qm rfl (Co rfl (Ac ?_))))))
        refine Bi h (fun h => ?_) fun h => ?_
        ·refine wq rfl (qm rfl (qe rfl ?_))
         obtain rfl := sj h
         refine Ag (sm [] [(2, iD v24)] [] rfl rfl) (Am ?_)
         exact ⟨⟨[_], tm, rfl⟩, tv⟩
        ·refine Ap (Ah Az rfl (Cr rfl (qm rfl (Ac ?_))))
         exact sn [] h
       ·refine Cd ?_
        exact sn [] h
      ·refine Ag hs (wq rfl (qe rfl ?_))
       obtain rfl := sj h
       refine Ag (sm [] [(2, iD 0)] [] rfl rfl) (Am ?_)
       exact ⟨⟨[_], tm, rfl⟩, tv⟩
theorem Fc (N : Nat) (p0 : List Int) (p1 : Int → Option Bool) (r : Int) (h : Ce N p0 p1 = some r) : Ak uS 147 [pD (.sl (p0.map Aq)), oD (.clo (GX (J8 false Aq) tB p1))] [] (iD r) := by
 unfold Ce at h
 refine cw (n := 19) (rs := [.tmp 4]) Tryz.func147 fun w0 S0 => ?_
 refine wq rfl (qa rfl (Ac (wp rfl (qm rfl (AM AL rfl (qm rfl (Ac ?_)))))))
 refine Bf (L := Bk N p0 p1) h (fun v1 => mk [(0, pD (.sl (p0.map Aq))), (1, oD (.clo (GX (J8 false Aq) tB p1))), (7, iD ((p0.length : Int))), (8, iD v1)] []) (fun v2 => mk [] []) (fun _ _ => rfl) (sm [] _ _ rfl rfl) (fun j1 n1 v1 h => ?_) (fun v2 s h hs => ?_)
 ·unfold Bk at h
  refine wq rfl (A0 rfl (Ac (AP ?_)))
  refine Bi h (fun h => ?_) fun h => ?_
  ·refine Ap (AP (AS (wq rfl (qm rfl (qa rfl (Ac (wq rfl (qw 3 rfl ?_))))))))
   refine Cg h fun v4 a4 b4 h => qi AL Da a4 (Ai b4) rfl (qk Bc rfl ?_)
   refine BD h fun v5 a5 h => IH (ds0 := [_]) (ar := (J8 false Aq) v4) (.p rfl) rfl rfl ⟨rfl, tv⟩ rfl rfl rfl (ID (IF _ _ Nr) a5) ?_
   refine Ac ?_
   refine Bi h (fun h => ?_) fun h => ?_
   ·refine wq rfl (qm rfl (qe rfl ?_))
    obtain rfl := sj h
    refine Ag (sm [] [(4, iD v1)] [] rfl rfl) (Am ?_)
    exact ⟨⟨[_], tm, rfl⟩, tv⟩
   ·refine Ap (Ah Az rfl (Cr rfl (qm rfl (Ac ?_))))
    exact sn [] h
  ·refine Cd ?_
   exact sn [] h
 ·refine Ag hs (wq rfl (qe rfl ?_))
  obtain rfl := sj h
  refine Ag (sm [] [(4, iD ((-1)))] [] rfl rfl) (Am ?_)
  exact ⟨⟨[_], tm, rfl⟩, tv⟩
theorem ED (N : Nat) (p0 : List Int) (p1 : Int → Option Bool) (r : Bool) (h : BR N p0 p1 = some r) : Ak uS 108 [pD (.sl (p0.map Aq)), oD (.clo (GX (J8 false Aq) tB p1))] [] (bD r) := by
 unfold BR at h
 refine cw (n := 9) (rs := [.tmp 4]) Tryz.func108 fun w0 S0 => ?_
 refine wq rfl (qa rfl (Ac (wq rfl (qw 2 rfl ?_))))
 refine BD h fun v1 a1 h => Ax [] (Fc N p0 p1 v1 a1) Q5 rfl (Eh rfl (qe rfl ?_))
 obtain rfl := sj h
 refine Ag (sm [] [(4, bD ((decide (0 ≤ v1))))] [] rfl rfl) (Am ?_)
 exact ⟨⟨[_], tm, rfl⟩, tv⟩
theorem HX (N : Nat) (p0 : Int) (r : Bool) (h : CZ N p0 = some r) : Ak uS 109 [iD p0] [] (bD r) := by
 unfold CZ at h
 refine cw (n := 9) (rs := [.tmp 2]) Tryz.func109 fun w0 S0 => ?_
 refine wq rfl (qe rfl ?_)
 refine AD h (fun v1 => mk [(2, bD v1)] []) (fun j1 h => ?_) (fun v1 h => ?_)
 ·refine Ah Az rfl (qm rfl (A0 rfl (qm rfl ?_)))
  refine Dc 5 h rfl (fun h => ?_) fun h => ?_
  ·refine qw 2 rfl (qp rfl (qe rfl ?_))
   exact sn [] h
  ·refine qm rfl (Eg rfl (qp rfl (qe rfl ?_)))
   exact sn [] h
 ·obtain rfl := sj h
  refine Ag (sm [] [(2, bD v1)] [] rfl rfl) (Am ?_)
  exact ⟨⟨[_], tm, rfl⟩, tv⟩
theorem It (N : Nat) (p0 : Ad) (p1 : List Int) (r : Int) (h : Ek N p0 p1 = some r) : Ak uS 71 [.e (.agg (Aw p0)), pD (.sl (p1.map Aq))] [] (iD r) := by
 unfold Ek at h
 refine cw (n := 15) (rs := [.tmp 4]) Tryz.func71 fun w0 S0 => ?_
 refine wq rfl (qb rfl (qa rfl (Ac (AP (AS (wq rfl (qm rfl (AM AL rfl (qf C5 rfl (ql Cl rfl (AM AL rfl (Co rfl (qe rfl ?_)))))))))))))
 refine Bi h (fun h => ?_) fun h => ?_
 ·refine wq rfl (qe rfl ?_)
  obtain rfl := sj h
  refine Ag (sm [] [(4, iD 6)] [] rfl rfl) (Am ?_)
  exact ⟨⟨[_], tm, rfl⟩, tv⟩
 ·refine wq rfl (qm rfl ?_)
  refine BD h fun v2 a2 h => Ax [] (Ak.weak (ds' := [pD (.sl (p1.map Aq)), oD (.fnc 109)]) (ED N p1 ((fun (x : Int) => CZ N x)) v2 a2) ⟨(fun _ _ _ hh => hh), (fun _ _ _ hh => Ke QU (fun ar t ht => by obtain ⟨x, r, rfl, hq, rfl⟩ := G5 ht; exact HX N x r hq) hh), tv⟩) RI rfl ?_
  refine qa rfl (Ac ?_)
  refine Bi h (fun h => ?_) fun h => ?_
  ·refine wq rfl (qe rfl ?_)
   obtain rfl := sj h
   refine Ag (sm [] [(4, iD 7)] [] rfl rfl) (Am ?_)
   exact ⟨⟨[_], tm, rfl⟩, tv⟩
  ·refine Ap (wq rfl (qe rfl ?_))
   obtain rfl := sj h
   refine Ag (sm [] [(4, iD 0)] [] rfl rfl) (Am ?_)
   exact ⟨⟨[_], tm, rfl⟩, tv⟩
theorem Dj (N : Nat) (p0 : List Au) (p1 : Au → Option Bool) (r : Int) (h : Bj N p0 p1 = some r) : Ak uS 148 [pD (.sl (p0.map AK)), oD (.clo (GX (J8 true AK) tB p1))] [] (iD r) := by
 unfold Bj at h
 refine cw (n := 19) (rs := [.tmp 4]) Tryz.func148 fun w0 S0 => ?_
 refine wq rfl (qa rfl (Ac (wp rfl (qm rfl (AM HK rfl (qm rfl (Ac ?_)))))))
 refine Bf (L := AR N p0 p1) h (fun v1 => mk [(0, pD (.sl (p0.map AK))), (1, oD (.clo (GX (J8 true AK) tB p1))), (7, iD ((p0.length : Int))), (8, iD v1)] []) (fun v2 => mk [] []) (fun _ _ => rfl) (sm [] _ _ rfl rfl) (fun j1 n1 v1 h => ?_) (fun v2 s h hs => ?_)
 ·unfold AR at h
  refine wq rfl (A0 rfl (Ac (AP ?_)))
  refine Bi h (fun h => ?_) fun h => ?_
  ·refine Ap (AP (AS (wq rfl (qm rfl (qa rfl (Ac (wq rfl (qw 3 rfl ?_))))))))
   refine Cg h fun v4 a4 b4 h => qi HK F2 a4 (Ai b4) rfl (qK Iz F2 rfl ?_)
   refine BD h fun v5 a5 h => IH (ds0 := [_]) (ar := (J8 true AK) v4) (.p rfl) rfl rfl ⟨rfl, tv⟩ rfl rfl rfl (ID (IF _ _ LJ) a5) ?_
   refine Ac ?_
   refine Bi h (fun h => ?_) fun h => ?_
   ·refine wq rfl (qm rfl (qe rfl ?_))
    obtain rfl := sj h
    refine Ag (sm [] [(4, iD v1)] [] rfl rfl) (Am ?_)
    exact ⟨⟨[_], tm, rfl⟩, tv⟩
   ·refine Ap (Ah Az rfl (Cr rfl (qm rfl (Ac ?_))))
    exact sn [] h
  ·refine Cd ?_
   exact sn [] h
 ·refine Ag hs (wq rfl (qe rfl ?_))
  obtain rfl := sj h
  refine Ag (sm [] [(4, iD ((-1)))] [] rfl rfl) (Am ?_)
  exact ⟨⟨[_], tm, rfl⟩, tv⟩
theorem C7 (N : Nat) (p0 : List Au) (p1 : Au → Option Bool) (r : Bool) (h : A8 N p0 p1 = some r) : Ak uS 110 [pD (.sl (p0.map AK)), oD (.clo (GX (J8 true AK) tB p1))] [] (bD r) := by
 unfold A8 at h
 refine cw (n := 9) (rs := [.tmp 4]) Tryz.func110 fun w0 S0 => ?_
 refine wq rfl (qa rfl (Ac (wq rfl (qw 2 rfl ?_))))
 refine BD h fun v1 a1 h => Ax [] (Dj N p0 p1 v1 a1) Q4 rfl (Eh rfl (qe rfl ?_))
 obtain rfl := sj h
 refine Ag (sm [] [(4, bD ((decide (0 ≤ v1))))] [] rfl rfl) (Am ?_)
 exact ⟨⟨[_], tm, rfl⟩, tv⟩
theorem Hf (N : Nat) (p0 : Au) (r : Bool) (h : CD N p0 = some r) : Ak uS 111 [.e (.agg (Cq p0))] [] (bD r) := by
 unfold CD at h
 refine cw (n := 6) (rs := [.tmp 2]) Tryz.func111 fun w0 S0 => ?_
 refine wq rfl (qb rfl (qa rfl (Ac (wq rfl (qf DW rfl (ql Bc rfl (AJ rfl (qe rfl ?_))))))))
 obtain rfl := sj h
 refine Ag (sm [] [(2, bD ((p0.fd == 4)))] [] rfl rfl) (Am ?_)
 exact ⟨⟨[_], tm, rfl⟩, tv⟩
theorem CT (N : Nat) (p0 : List Int) (r : (List Int)) (h : Bv N p0 = some r) : Ak uS 149 [pD (.sl (p0.map Aq))] [(1, r.map Aq)] (oD (.own 0)) := by
 unfold Bv at h
 refine cw (n := 8) (rs := [.tmp 2]) Tryz.func149 fun w0 S0 => ?_
 refine wq rfl (qa rfl (Ac (wp rfl (qm rfl ?_))))
 refine KF (.p rfl) rfl AL ?_
 refine Ac ?_
 refine Ks rfl (fun c2 => ?_) ?_
 ·have c2 := zB3.1 c2
  rw [c2] at h
  have h : (some (([] : List Int))) = some r := h
  refine wq rfl (qe rfl ?_)
  obtain rfl := sj h
  refine Ag ((Fe 2 2001 1 rfl rfl rfl).trans (sm [(1000, 2001)] [(2, oD (.own 1000))] [(1000, .vec 1 ((([] : List Int)).map Aq))] rfl rfl)) (Am ?_)
  exact ⟨⟨[_], tm, rfl⟩, ⟨rfl, tv⟩⟩
 ·refine Ap (wq rfl (ER AL Da N6 rfl (qm rfl ?_)))
  refine FR h fun c1 h => LG (f := Aq) AL AL Da QY N6 (fun _ => rfl) c1 rfl (qe rfl ?_)
  obtain rfl := sj h
  refine Ag (sm [(1000, 7)] [(2, oD (.own 1000))] [(1000, .vec 1 (((([] : List Int)) ++ p0).map Aq))] rfl rfl) (Am ?_)
  exact ⟨⟨[_], tm, rfl⟩, ⟨rfl, tv⟩⟩
theorem HS (N : Nat) (p0 : Int) (p1 : Int) (r : Int × Int) (h : Dy N p0 p1 = some r) : Ak uS 190 [pD (.val (.int .u32 p0)), pD (.val (.int .u32 p1))] [] (.tup [.one (.pure (.val (.int .u32 r.1))), .one (.pure (.val (.int .u32 r.2)))]) := by
 unfold Dy at h
 refine cw (n := 17) (rs := [.tmp 4, .tmp 5]) Tryz.func190 fun w0 S0 => ?_
 refine wq rfl (qa rfl (qa rfl (Ac (wq rfl (qm rfl (Hx Mq Pu rfl (qm rfl (Hx Mq Pu rfl (J4 rfl (qa rfl (Ac (wq rfl (qm rfl (II rfl (by decide) (Hx Pc L9 rfl (qm rfl (Hx Pc L9 rfl (qa rfl (qe rfl ?_)))))))))))))))))))
 obtain rfl := sj h
 refine Ag (sm [] [(4, pD (.val (.int .u32 ((wI .u32 ((EJ .u64 ((wI .u64 ((wI .u64 p0) * (wI .u64 p1)))) 32))))))), (5, pD (.val (.int .u32 ((wI .u32 ((wI .u64 ((wI .u64 p0) * (wI .u64 p1)))))))))] [] rfl rfl) (Am ?_)
 exact ⟨⟨[_, _], ⟨.tmp _ _ rfl, tm⟩, rfl⟩, tv⟩
theorem HZ (N : Nat) (p0 : Int) (p1 : Int) (r : Int × Int) (h : DB N p0 p1 = some r) : Ak uS 191 [pD (.val (.int .u64 p0)), pD (.val (.int .u64 p1))] [] (.tup [.one (.pure (.val (.int .u64 r.1))), .one (.pure (.val (.int .u64 r.2)))]) := by
 unfold DB at h
 refine cw (n := 51) (rs := [.tmp 4, .tmp 5]) Tryz.func191 fun w0 S0 => ?_
 refine wq rfl (qa rfl (qa rfl (Ac (wq rfl (qm rfl (Lb rfl (qa rfl (Ac (wq rfl (qm rfl (II rfl (by decide) (qa rfl (Ac (wq rfl (qm rfl (Lb rfl (qa rfl (Ac (wq rfl (qm rfl (II rfl (by decide) (qa rfl (Ac (wq rfl (qw 2 rfl (J4 rfl (qa rfl (Ac (wq rfl (qw 2 rfl ?_))))))))))))))))))))))))))))))
 refine J4 rfl (qm rfl (II rfl (by decide) (Cr rfl (qa rfl (Ac (wq rfl (qm rfl (Lb rfl (qa rfl (Ac (wq rfl (qm rfl (II rfl (by decide) (qa rfl (Ac (wq rfl (qw 3 rfl (J4 rfl (Cr rfl (qa rfl (Ac (wq rfl (qw 2 rfl (J4 rfl (qm rfl (Cr rfl (qm rfl (II rfl (by decide) (Cr rfl (qa rfl (Ac (AP ?_))))))))))))))))))))))))))))))))
 refine Ah Az rfl (qw 2 rfl (J4 rfl (qe rfl ?_)))
 obtain rfl := sj h
 refine Ag (sm [] [(4, pD (.val (.int .u64 ((wI .u64 ((wI .u64 ((wI .u64 ((EJ .u64 p0 32) * (EJ .u64 p1 32))) + (EJ .u64 ((wI .u64 ((wI .u64 ((EJ .u64 p0 32) * (Fi .u64 p1 4294967295))) + (EJ .u64 ((wI .u64 ((Fi .u64 p0 4294967295) * (Fi .u64 p1 4294967295)))) 32)))) 32))) + (EJ .u64 ((wI .u64 ((Fi .u64 ((wI .u64 ((wI .u64 ((EJ .u64 p0 32) * (Fi .u64 p1 4294967295))) + (EJ .u64 ((wI .u64 ((Fi .u64 p0 4294967295) * (Fi .u64 p1 4294967295)))) 32)))) 4294967295) + (wI .u64 ((Fi .u64 p0 4294967295) * (EJ .u64 p1 32)))))) 32))))))), (5, pD (.val (.int .u64 ((wI .u64 (p0 * p1))))))] [] rfl rfl) (Am ?_)
 exact ⟨⟨[_, _], ⟨.tmp _ _ rfl, tm⟩, rfl⟩, tv⟩
theorem IA (N : Nat) (p0 : Int) (p1 : Int) (r : Int × Int) (h : Es N p0 p1 = some r) : Ak uS 175 [pD (.val (.int .u64 p0)), pD (.val (.int .u64 p1))] [] (.tup [.one (.pure (.val (.int .u64 r.1))), .one (.pure (.val (.int .u64 r.2)))]) := by
 unfold Es at h
 refine cw (n := 30) (rs := [.tmp 4, .tmp 5]) Tryz.func175 fun w0 S0 => ?_
 refine wq rfl (qa rfl (qa rfl (Ac (AP ?_))))
 refine Bi h (fun h => ?_) fun h => ?_
 ·refine wq rfl (qm rfl (Hx Nk L9 rfl (qm rfl (Hx Nk L9 rfl ?_))))
  refine BD h fun v2 a2 h => Ax [] (HS N ((wI .u32 p0)) ((wI .u32 p1)) v2 a2) QM rfl (qm rfl (qx rfl (qx rfl (qa rfl (qa rfl (Ac (wq rfl (qm rfl (Hx Mq Mn rfl (qm rfl (Hx Mq Mn rfl (qa rfl (qe rfl ?_)))))))))))))
  obtain rfl := sj h
  refine Ag (sm [] [(4, pD (.val (.int .u64 ((wI .u64 v2.1))))), (5, pD (.val (.int .u64 ((wI .u64 v2.2)))))] [] rfl rfl) (Am ?_)
  exact ⟨⟨[_, _], ⟨.tmp _ _ rfl, tm⟩, rfl⟩, tv⟩
 ·refine Ap (wq rfl (qw 2 rfl ?_))
  refine BD h fun v3 a3 h => Ax [] (HZ N p0 p1 v3 a3) Rz rfl (qm rfl (qx rfl (qx rfl (qa rfl (qa rfl (Ac (wq rfl (qw 2 rfl (qa rfl (qe rfl ?_))))))))))
  obtain rfl := sj h
  refine Ag (sm [] [(4, pD (.val (.int .u64 v3.1))), (5, pD (.val (.int .u64 v3.2)))] [] rfl rfl) (Am ?_)
  exact ⟨⟨[_, _], ⟨.tmp _ _ rfl, tm⟩, rfl⟩, tv⟩
theorem FV (N : Nat) (p0 : List Int) (p1 : Int) (r : (List Int)) (h : CF N p0 p1 = some r) : Ak uS 150 [pD (.sl (p0.map Aq)), iD p1] [(1, r.map Aq)] (oD (.own 0)) := by
 unfold CF at h
 refine cw (n := 48) (rs := [.tmp 4]) Tryz.func150 fun w0 S0 => ?_
 refine wq rfl (qe rfl ?_)
 refine AD h (fun v1 => mk [(0, pD (.sl (p0.map Aq))), (1, iD p1)] []) (fun j1 h => ?_) (fun v1 h => ?_)
 ·refine wq rfl (qm rfl (A0 rfl (Ac ?_)))
  refine Bi h (fun h => ?_) fun h => ?_
  ·refine Ah Az rfl ?_
   cases h
  ·refine Ap ?_
   exact sn [] h
 ·refine wq rfl (qm rfl (AM AL rfl (Hx RQ Mn rfl (qm rfl (Hx RQ Mn rfl ?_)))))
  refine BD h fun v3 a3 h => Ax [] (IA N ((wI .u64 ((p0.length : Int)))) ((wI .u64 p1)) v3 a3) QN rfl (qm rfl (qx rfl (qx rfl (qa rfl (qe rfl ?_)))))
  refine AD h (fun v4 => mk [(0, pD (.sl (p0.map Aq))), (6, pD (.val (.int .u64 v3.2)))] []) (fun j4 h => ?_) (fun v4 h => ?_)
  ·refine AD h (fun v5 => mk [(0, pD (.sl (p0.map Aq))), (6, pD (.val (.int .u64 v3.2))), (26, bD v5)] []) (fun j5 h => ?_) (fun v5 h => ?_)
   ·refine Ah Az rfl (qm rfl (Eg rfl (qm rfl ?_)))
    refine Dc 23 h rfl (fun h => ?_) fun h => ?_
    ·refine qw 2 rfl (qp rfl (Ac ?_))
     exact sn [] h
    ·refine qm rfl (Eg rfl (qp rfl (Ac ?_)))
     exact sn [] h
   ·refine Bi h (fun h => ?_) fun h => ?_
    ·refine Ah Az rfl ?_
     cases h
    ·refine Ap ?_
     exact sn [] h
  ·refine wq rfl (qm rfl (Hx Nk Sp rfl ?_))
   refine FR h fun c8 h => Im (.p rfl) rfl rfl rfl AL Da QY (FJ rfl) N6 rfl rfl rfl c8.1 c8.2.1 c8.2.2 (Mo Aq _ ((0 : Int))) ?_
   refine qa rfl (Ac (wq rfl (qw 2 rfl ?_)))
   refine Mv Aq (zA3 ((wI .i64 v3.2)).toNat ((0 : Int))) p0 (.p rfl) rfl (Jj Aq _ _ (zA3 ((wI .i64 v3.2)).toNat ((0 : Int)))) rfl rfl (OT Aq _ _ (fun _ => rfl)) tv AL Da ?_
   refine qa rfl (Ac (AP ?_))
   refine Bf (L := Bz N) h (fun v9 => mk [(7, oD (.own 2001)), (8, iD v9.2)] [(2001, .vec 1 (v9.1.map Aq))]) (fun v10 => mk [(7, oD (.own 2002))] [(2002, .vec 1 (v10.map Aq))]) (fun _ _ => rfl) (sm [(2001, 30)] _ _ rfl rfl) (fun j9 n9 v9 h => ?_) (fun v10 s h hs => ?_)
   ·unfold Bz at h
    refine wp rfl (qw 2 rfl (Kj AL rfl (A0 rfl (Ac ?_))))
    refine Bi h (fun h => ?_) fun h => ?_
    ·refine Ap (AS (Ah Az rfl (qw 3 rfl ?_)))
     obtain ⟨c12, h⟩ := E8 h
     have w13 : ((v9.2).toNat) + ((v9.1.length - (v9.2).toNat)) ≤ v9.1.length := by have := c12.2.1; have := c12.2.2; omega
     refine Lc Aq v9.1 (.p rfl) rfl (Jj Aq _ _ v9.1) rfl AL Da (.some _ _ _ _ c12.1) (.none _) ⟨rfl, tv⟩ tv c12.2.1 (by rw [uY]; exact c12.2.2) (uY _) rfl ?_
     refine qw 2 rfl ?_
     obtain ⟨c14, h⟩ := E8 h
     have w15 : 0 + ((v9.2).toNat) ≤ v9.1.length := by have := c14.2.1; have := c14.2.2; omega
     refine Lc Aq v9.1 (.p rfl) rfl (Jj Aq _ _ v9.1) rfl AL Da (.none _) (.some _ _ _ _ c14.1) tv ⟨rfl, tv⟩ c14.2.1 (by rw [uY]; exact c14.2.2) (uY _) rfl ?_
     refine Mv Aq v9.1 (((v9.1.drop 0).take ((v9.2).toNat))) (.p rfl) rfl (MM Aq _ _ ((v9.2).toNat) ((v9.1.length - (v9.2).toNat)) v9.1 w13) rfl rfl (MG Aq _ _ 0 ((v9.2).toNat) v9.1 w15) ⟨rfl, tv⟩ AL Da ?_
     refine Cr rfl (qa rfl (AB (by kernel_rfl) ?_))
     exact sn [] h
    ·refine Cd ?_
     exact sn [(2002, 2001)] h
   ·refine Ag hs (wq rfl (qm rfl (qe rfl ?_)))
    obtain rfl := sj h
    refine Ag (sm [(1000, 2002)] [(4, oD (.own 1000))] [(1000, .vec 1 (v10.map Aq))] rfl rfl) (Am ?_)
    exact ⟨⟨[_], tm, rfl⟩, ⟨rfl, tv⟩⟩
theorem HM (N : Nat) (p0 : AU) (r : Bool) (h : Ez N p0 = some r) : Ak uS 151 [.e (.agg (Dh p0))] [] (bD r) := by
 unfold Ez at h
 refine cw (n := 11) (rs := [.tmp 2]) Tryz.func151 fun w0 S0 => ?_
 refine wq rfl (qb rfl (qe rfl ?_))
 refine AD h (fun v1 => mk [(2, bD v1)] []) (fun j1 h => ?_) (fun v1 h => ?_)
 ·refine Ah Az rfl (qf DY rfl (ql Bc rfl (AJ rfl (qm rfl ?_))))
  refine Dc 6 h rfl (fun h => ?_) fun h => ?_
  ·refine qw 3 rfl (qp rfl (qe rfl ?_))
   exact sn [] h
  ·refine qf DY rfl (ql Bc rfl (AJ rfl (qp rfl (qe rfl ?_))))
   exact sn [] h
 ·obtain rfl := sj h
  refine Ag (sm [] [(2, bD v1)] [] rfl rfl) (Am ?_)
  exact ⟨⟨[_], tm, rfl⟩, tv⟩
theorem Ls (N : Nat) (p0 : Ad) (r : Aj × Int) (h : F0 N p0 = some r) : Ak uS 112 [.e (.agg (Aw p0))] [(1, r.1.fe.map Aq), (1, r.1.fc.map Aq), (1, r.1.ff.map Dk)] (.tup [.agg [.own 0, .own 1, .own 2], .one (iC r.2)]) := by
 unfold F0 at h
 refine cw (n := 50) (rs := [.cell 2 40, .tmp 3]) Tryz.func112 fun w0 S0 => ?_
 refine wq rfl (qb rfl (qz DM rfl (qa rfl (Ac (wp rfl (qL Ed D1 rfl ?_))))))
 refine BD h fun v1 a1 h => Ax [] (CA N p0 v1 a1) OL rfl (qa rfl (Ac (wq rfl (qm rfl (Co rfl (Ac ?_))))))
 refine Bi h (fun h => ?_) fun h => ?_
 ·refine wq rfl (BA DM IL rfl (qm rfl (qs A2 rfl (qe rfl ?_))))
  obtain rfl := sj h
  refine Ag ((Bg 2 0 2001 1 _ rfl rfl rfl rfl).trans ((Bg 2 1 2002 1 _ rfl rfl rfl rfl).trans ((Bg 2 2 2003 1 _ rfl rfl rfl rfl).trans (sm [(1000, 2001), (1001, 2002), (1002, 2003)] [(2, oD (.ptr 2 0)), (3, iD v1)] [(2, .box [.own 1000, .own 1001, .own 1002]), (1000, .vec 1 ((([] : List Int)).map Aq)), (1001, .vec 1 ((([] : List Int)).map Aq)), (1002, .vec 1 ((([] : List Int)).map Dk))] rfl rfl)))) (Am ?_)
  exact ⟨⟨[_, _], ⟨.cellN _ _ _ _ _ _ _ rfl rfl Cu A2 rfl rfl (JD rfl), tm⟩, rfl⟩, ⟨rfl, rfl, rfl, tv⟩⟩
 ·refine Ap (wq rfl (qf HH rfl (ql Cl rfl ?_)))
  refine BD h fun v3 a3 h => Ax [2004] (CT N p0.fj v3 a3) NV rfl (ER AL Da N6 rfl (qf HH rfl (ql Cl rfl (AM AL rfl ?_))))
  refine BD h fun v4 a4 h => Fp [2005] [17] (FV N (([(-1)] : List Int)) ((p0.fj.length : Int)) v4 a4) QE (LN (fun _ => rfl) DI) rfl (qf Dp rfl (ql Ix rfl (AM EN rfl ?_)))
  refine FR h fun c5 h => Im (.p rfl) rfl rfl rfl E1 Ff NM (FJ rfl) MZ rfl rfl rfl c5.1 c5.2.1 c5.2.2 (Mo Dk _ ((0 : Int))) ?_
  refine BA DM IL rfl (qz DM rfl (qs A2 rfl (AB (by kernel_rfl) (wp rfl (qf Dp rfl (ql Ix rfl (AM EN rfl (qm rfl (Ac ?_)))))))))
  refine Bf (L := Du N p0) h (fun v6 => mk [(1, oD (.ptr 1 0)), (2, oD (.ptr 2 0)), (5, oD (.ptr 5 0)), (28, pD (.sl (p0.fg.map A5))), (29, iD ((p0.fg.length : Int))), (30, iD v6.2)] [(1, .box (Aw p0)), (2, .box [.pure (.nil0), .pure (.nil0), .pure (.nil0)]), (5, .box [.own 2006, .own 2007, .own 2008]), (2006, .vec 1 (v3.map Aq)), (2007, .vec 1 (v4.map Aq)), (2008, .vec 1 (v6.1.map Dk))]) (fun v7 => mk [(2, oD (.ptr 2 0)), (5, oD (.ptr 5 0))] [(2, .box [.pure (.nil0), .pure (.nil0), .pure (.nil0)]), (5, .box [.own 2009, .own 2010, .own 2011]), (2009, .vec 1 (v3.map Aq)), (2010, .vec 1 (v4.map Aq)), (2011, .vec 1 (v7.map Dk))]) (fun _ _ => rfl) (sm [(2006, 2004), (2007, 2005), (2008, 25)] _ _ rfl rfl) (fun j6 n6 v6 h => ?_) (fun v7 s h hs => ?_)
  ·unfold Du at h
   refine wq rfl (A0 rfl (Ac (AP ?_)))
   refine Bi h (fun h => ?_) fun h => ?_
   ·refine Ap ?_
    refine AD h (fun v9 => mk [(1, oD (.ptr 1 0)), (2, oD (.ptr 2 0)), (5, oD (.ptr 5 0)), (28, pD (.sl (p0.fg.map A5))), (29, iD ((p0.fg.length : Int))), (30, iD v6.2)] [(1, .box (Aw p0)), (2, .box [.pure (.nil0), .pure (.nil0), .pure (.nil0)]), (5, .box [.own 2012, .own 2013, .own 2014]), (2012, .vec 1 (v3.map Aq)), (2013, .vec 1 (v4.map Aq)), (2014, .vec 1 (v9.map Dk))]) (fun j9 h => ?_) (fun v9 h => ?_)
    ·refine AS (wq rfl (qm rfl ?_))
     refine Cg h fun v10 a10 b10 h => qi EN CP a10 (Ai b10) rfl (qK FK CP rfl (qz Jt rfl (qa rfl (qs CP rfl (Ac (wq rfl (qL FK CP rfl ?_)))))))
     refine BD h fun v11 a11 h => Ax [] (HM N v10 v11 a11) Pj rfl (Ac ?_)
     refine Bi h (fun h => ?_) fun h => ?_
     ·refine Ah Az rfl (qf Ew rfl (ql JK rfl (qm rfl (qf HH rfl (ql Cl rfl (qf DX rfl (ql Bc rfl ?_)))))))
      refine Cg h fun v13 a13 b13 h => qi AL Da a13 (Ai b13) rfl (qk Bc rfl ?_)
      refine FR h fun c14 h => Jp rfl c14 ?_
      refine Cg h fun v15 a15 b15 h => qI E1 Ff a15 (Ai b15) rfl ?_
      refine FY rfl rfl rfl rfl (Ai b15) rfl Ff rfl (FJ rfl) (FZ Dk v6.1 _ ((Fy .u8 1 v13))) ?_
      refine AB (by kernel_rfl) ?_
      exact sn [(2012, 2006), (2013, 2007), (2014, 2008)] h
     ·refine Ap ?_
      exact sn [(2012, 2006), (2013, 2007), (2014, 2008)] h
    ·refine Ah Az rfl (Cr rfl (qm rfl (Ac ?_)))
     exact sn [(2006, 2012), (2007, 2013), (2008, 2014)] h
   ·refine Cd ?_
    exact sn [(2009, 2006), (2010, 2007), (2011, 2008)] h
  ·refine Ag hs (wq rfl (qL Cu A2 rfl (qs A2 rfl (qe rfl ?_))))
   obtain rfl := sj h
   refine Ag (sm [(1000, 2009), (1001, 2010), (1002, 2011)] [(2, oD (.ptr 2 0)), (3, iD 0)] [(2, .box [.own 1000, .own 1001, .own 1002]), (1000, .vec 1 (v3.map Aq)), (1001, .vec 1 (v4.map Aq)), (1002, .vec 1 (v7.map Dk))] rfl rfl) (Am ?_)
   exact ⟨⟨[_, _], ⟨.cellN _ _ _ _ _ _ _ rfl rfl Cu A2 rfl rfl (JD rfl), tm⟩, rfl⟩, ⟨rfl, rfl, rfl, tv⟩⟩
theorem JB (N : Nat) (p0 : Aj) (p1 : Int) (r : Int) (h : Fb N p0 p1 = some r) : Ak uS 176 [.e (.agg (Bn p0)), iD p1] [] (pD (.val (.int .u8 r))) := by
 unfold Fb at h
 refine cw (n := 27) (rs := [.tmp 4]) Tryz.func176 fun w0 S0 => ?_
 refine wq rfl (qb rfl (qa rfl (Ac (wq rfl (qf D2 rfl (ql Cl rfl (qm rfl ?_)))))))
 refine Cg h fun v1 a1 b1 h => qi AL Da a1 (Ai b1) rfl (qk Bc rfl ?_)
 refine FR h fun c2 h => Jp rfl c2 (qe rfl ?_)
 refine AD h (fun v3 => mk [(5, pD (.val (.int .u8 v3)))] []) (fun j3 h => ?_) (fun v3 h => ?_)
 ·refine wq rfl (qf CK rfl (ql Cl rfl (qm rfl ?_)))
  refine Cg h fun v4 a4 b4 h => qi AL Da a4 (Ai b4) rfl (qk Bc rfl (Eh rfl (Ac ?_)))
  refine Bi h (fun h => ?_) fun h => ?_
  ·refine Ah Az rfl (qm rfl (qf CK rfl (ql Cl rfl (qm rfl ?_))))
   refine Cg h fun v6 a6 b6 h => qi AL Da a6 (Ai b6) rfl (qk Bc rfl ?_)
   refine FR h fun c7 h => Jp rfl c7 (PT rfl (qe rfl ?_))
   exact sn [] h
  ·refine Ap ?_
   exact sn [] h
 ·refine wq rfl (qm rfl (qe rfl ?_))
  obtain rfl := sj h
  refine Ag (sm [] [(4, pD (.val (.int .u8 v3)))] [] rfl rfl) (Am ?_)
  exact ⟨⟨[_], tm, rfl⟩, tv⟩
theorem Ie (N : Nat) (p0 : Ad) (p1 : Aj) (r : Int) (h : EQ N p0 p1 = some r) : Ak uS 152 [.e (.agg (Aw p0)), .e (.agg (Bn p1))] [] (iD r) := by
 unfold EQ at h
 refine cw (n := 135) (rs := [.tmp 4]) Tryz.func152 fun w0 S0 => ?_
 refine wq rfl (qb rfl (qb rfl (qa rfl (Ac (wp rfl (qL Ed D1 rfl ?_))))))
 refine BD h fun v1 a1 h => Ax [] (CA N p0 v1 a1) OL rfl (qa rfl (Ac (wq rfl (qm rfl (Co rfl (Ac ?_))))))
 refine Bi h (fun h => ?_) fun h => ?_
 ·refine wq rfl (qm rfl (qe rfl ?_))
  obtain rfl := sj h
  refine Ag (sm [] [(4, iD v1)] [] rfl rfl) (Am ?_)
  exact ⟨⟨[_], tm, rfl⟩, tv⟩
 ·refine Ap (AP ?_)
  refine AD h (fun v3 => mk [(2, oD (.ptr 2 0)), (3, oD (.ptr 3 0)), (41, bD v3)] [(2, .box (Aw p0)), (3, .box (Bn p1))]) (fun j3 h => ?_) (fun v3 h => ?_)
  ·refine Ah Az rfl (qf D2 rfl (ql Cl rfl (AM AL rfl (qf C5 rfl (ql Cl rfl (AM AL rfl (Co rfl (qm rfl ?_))))))))
   refine Dc 24 h rfl (fun h => ?_) fun h => ?_
   ·refine qw 7 rfl (qp rfl (qw 8 rfl (qp rfl (Ac ?_))))
    exact sn [] h
   ·refine qf CK rfl (ql Cl rfl (AM AL rfl (qf C5 rfl (ql Cl rfl (AM AL rfl (Co rfl (qp rfl (qm rfl ?_))))))))
    refine Dc 33 h rfl (fun h => ?_) fun h => ?_
    ·refine qw 7 rfl (qp rfl (Ac ?_))
     exact sn [] h
    ·refine qf Ew rfl (ql JK rfl (AM E1 rfl (qf Dp rfl (ql Ix rfl (AM EN rfl (Co rfl (qp rfl (Ac ?_))))))))
     exact sn [] h
  ·refine Bi h (fun h => ?_) fun h => ?_
   ·refine wq rfl (qe rfl ?_)
    obtain rfl := sj h
    refine Ag (sm [] [(4, iD 6)] [] rfl rfl) (Am ?_)
    exact ⟨⟨[_], tm, rfl⟩, tv⟩
   ·refine Ap (wp rfl (qf C5 rfl (ql Cl rfl (AM AL rfl (qm rfl (Ac ?_))))))
    refine Bf (L := Dv N p0 p1) h (fun v7 => mk [(2, oD (.ptr 2 0)), (3, oD (.ptr 3 0)), (43, pD (.sl (p0.fi.map Aq))), (44, iD ((p0.fi.length : Int))), (45, iD v7)] [(2, .box (Aw p0)), (3, .box (Bn p1))]) (fun v8 => mk [(2, oD (.ptr 2 0)), (3, oD (.ptr 3 0))] [(2, .box (Aw p0)), (3, .box (Bn p1))]) (fun _ _ => rfl) (sm [] _ _ rfl rfl) (fun j7 n7 v7 h => ?_) (fun v8 s h hs => ?_)
    ·unfold Dv at h
     refine wq rfl (A0 rfl (Ac (AP ?_)))
     refine Bi h (fun h => ?_) fun h => ?_
     ·refine Ap (AP (AS (wq rfl (qm rfl ?_))))
      refine Cg h fun v10 a10 b10 h => qi AL Da a10 (Ai b10) rfl (qk Bc rfl (qa rfl (qa rfl (Ac (AP ?_)))))
      refine AD h (fun v11 => mk [(2, oD (.ptr 2 0)), (3, oD (.ptr 3 0)), (6, iD v7), (43, pD (.sl (p0.fi.map Aq))), (44, iD ((p0.fi.length : Int))), (45, iD v7), (81, bD v11)] [(2, .box (Aw p0)), (3, .box (Bn p1))]) (fun j11 h => ?_) (fun v11 h => ?_)
      ·refine Ah Az rfl (qf D2 rfl (ql Cl rfl (qm rfl ?_)))
       refine Cg h fun v12 a12 b12 h => qi AL Da a12 (Ai b12) rfl (qk Bc rfl (A0 rfl (qm rfl ?_)))
       refine Dc 56 h rfl (fun h => ?_) fun h => ?_
       ·refine qw 7 rfl (qp rfl (qw 7 rfl (qp rfl (qw 8 rfl (qp rfl (Ac ?_))))))
        exact sn [] h
       ·refine qf D2 rfl (ql Cl rfl (qm rfl ?_))
        refine Cg h fun v14 a14 b14 h => qi AL Da a14 (Ai b14) rfl (qk Bc rfl (qm rfl (Eh rfl (qp rfl (qm rfl ?_)))))
        refine Dc 65 h rfl (fun h => ?_) fun h => ?_
        ·refine qw 6 rfl (qp rfl (qw 8 rfl (qp rfl (Ac ?_))))
         exact sn [] h
        ·refine qf CK rfl (ql Cl rfl (qm rfl ?_))
         refine Cg h fun v16 a16 b16 h => qi AL Da a16 (Ai b16) rfl (qk Bc rfl (A0 rfl (qp rfl (qm rfl ?_))))
         refine Dc 73 h rfl (fun h => ?_) fun h => ?_
         ·refine qw 7 rfl (qp rfl (Ac ?_))
          exact sn [] h
         ·refine qf CK rfl (ql Cl rfl (qm rfl ?_))
          refine Cg h fun v18 a18 b18 h => qi AL Da a18 (Ai b18) rfl (qk Bc rfl (qm rfl (Eh rfl (qp rfl (Ac ?_)))))
          exact sn [] h
      ·refine Bi h (fun h => ?_) fun h => ?_
       ·refine wq rfl (qe rfl ?_)
        obtain rfl := sj h
        refine Ag (sm [] [(4, iD 7)] [] rfl rfl) (Am ?_)
        exact ⟨⟨[_], tm, rfl⟩, tv⟩
       ·refine Ap (wq rfl (qf D2 rfl (ql Cl rfl (qm rfl ?_))))
        refine Cg h fun v20 a20 b20 h => qi AL Da a20 (Ai b20) rfl (qk Bc rfl (qf CK rfl (ql Cl rfl (qm rfl ?_))))
        refine Cg h fun v21 a21 b21 h => qi AL Da a21 (Ai b21) rfl (qk Bc rfl (AJ rfl (AB (by kernel_rfl) ?_)))
        refine Bi h (fun h => ?_) fun h => ?_
        ·refine wq rfl (qe rfl ?_)
         obtain rfl := sj h
         refine Ag (sm [] [(4, iD 1)] [] rfl rfl) (Am ?_)
         exact ⟨⟨[_], tm, rfl⟩, tv⟩
        ·refine Ap (Ah Az rfl (Cr rfl (qm rfl (Ac ?_))))
         exact sn [] h
     ·refine Cd ?_
      exact sn [] h
    ·refine Ag hs (wp rfl (qf Dp rfl (ql Ix rfl (AM EN rfl (qm rfl (Ac ?_))))))
     refine Bf (L := Df N p0 p1) h (fun v23 => mk [(2, oD (.ptr 2 0)), (3, oD (.ptr 3 0)), (95, pD (.sl (p0.fg.map A5))), (96, iD ((p0.fg.length : Int))), (97, iD v23)] [(2, .box (Aw p0)), (3, .box (Bn p1))]) (fun v24 => mk [] []) (fun _ _ => rfl) (sm [] _ _ rfl rfl) (fun j23 n23 v23 h => ?_) (fun v24 s h hs => ?_)
     ·unfold Df at h
      refine wq rfl (A0 rfl (Ac (AP ?_)))
      refine Bi h (fun h => ?_) fun h => ?_
      ·refine Ap (AP (AS (wq rfl (qm rfl ?_))))
       refine Cg h fun v26 a26 b26 h => qi EN CP a26 (Ai b26) rfl (qK FK CP rfl (qz Jt rfl (qa rfl (qs CP rfl (Ac (wq rfl (qa rfl (qe rfl ?_))))))))
       refine AD h (fun v27 => mk [(2, oD (.ptr 2 0)), (3, oD (.ptr 3 0)), (8, iD v23), (10, pD (.val (.int .u8 v27.1))), (11, pD (.val (.int .u8 v27.2))), (95, pD (.sl (p0.fg.map A5))), (96, iD ((p0.fg.length : Int))), (97, iD v23)] [(2, .box (Aw p0)), (3, .box (Bn p1))]) (fun j27 h => ?_) (fun v27 h => ?_)
       ·refine wq rfl (qL FK CP rfl ?_)
        refine BD h fun v28 a28 h => Ax [] (HM N v26 v28 a28) Pj rfl (Ac ?_)
        refine Bi h (fun h => ?_) fun h => ?_
        ·refine Ah Az rfl (qL Cu A2 rfl (qf DX rfl (ql Bc rfl ?_)))
         refine BD h fun v30 a30 h => Ax [] (JB N p1 v26.fF v30 a30) Qp rfl (qf C5 rfl (ql Cl rfl (qf DX rfl (ql Bc rfl ?_))))
         refine Cg h fun v31 a31 b31 h => qi AL Da a31 (Ai b31) rfl (qk Bc rfl ?_)
         refine FR h fun c32 h => Jp rfl c32 (HL rfl (qa rfl (qa rfl (AB (by kernel_rfl) ?_))))
         exact sn [] h
        ·refine Ap ?_
         exact sn [] h
       ·refine AD h (fun v33 => mk [(2, oD (.ptr 2 0)), (3, oD (.ptr 3 0)), (95, pD (.sl (p0.fg.map A5))), (96, iD ((p0.fg.length : Int))), (97, iD v23), (133, bD v33)] [(2, .box (Aw p0)), (3, .box (Bn p1))]) (fun j33 h => ?_) (fun v33 h => ?_)
        ·refine Ah Az rfl (qm rfl (qf Ew rfl (ql JK rfl (qm rfl ?_))))
         refine Cg h fun v34 a34 b34 h => qi E1 Ff a34 (Ai b34) rfl (qk J0 rfl (I9 rfl (Co rfl (qm rfl ?_))))
         refine Dc 124 h rfl (fun h => ?_) fun h => ?_
         ·refine qw 8 rfl (qp rfl (Ac ?_))
          exact sn [] h
         ·refine qf Ew rfl (ql JK rfl (qm rfl ?_))
          refine Cg h fun v36 a36 b36 h => qi E1 Ff a36 (Ai b36) rfl (qk J0 rfl (qm rfl (I9 rfl (Co rfl (qp rfl (Ac ?_))))))
          exact sn [] h
        ·refine Bi h (fun h => ?_) fun h => ?_
         ·refine wq rfl (qe rfl ?_)
          obtain rfl := sj h
          refine Ag (sm [] [(4, iD 1)] [] rfl rfl) (Am ?_)
          exact ⟨⟨[_], tm, rfl⟩, tv⟩
         ·refine Ap (Ah Az rfl (Cr rfl (qm rfl (Ac ?_))))
          exact sn [] h
      ·refine Cd ?_
       exact sn [] h
     ·refine Ag hs (wq rfl (qe rfl ?_))
      obtain rfl := sj h
      refine Ag (sm [] [(4, iD 0)] [] rfl rfl) (Am ?_)
      exact ⟨⟨[_], tm, rfl⟩, tv⟩
theorem En (N : Nat) (p0 : List Int) (r : (List Int)) (h : BK N p0 = some r) : Ak uS 177 [pD (.sl (p0.map Dk))] [(1, r.map Dk)] (oD (.own 0)) := by
 unfold BK at h
 refine cw (n := 8) (rs := [.tmp 2]) Tryz.func177 fun w0 S0 => ?_
 refine wq rfl (qa rfl (Ac (wp rfl (qm rfl ?_))))
 refine KF (.p rfl) rfl E1 ?_
 refine Ac ?_
 refine Ks rfl (fun c2 => ?_) ?_
 ·have c2 := zB3.1 c2
  rw [c2] at h
  have h : (some (([] : List Int))) = some r := h
  refine wq rfl (qe rfl ?_)
  obtain rfl := sj h
  refine Ag ((Fe 2 2001 1 rfl rfl rfl).trans (sm [(1000, 2001)] [(2, oD (.own 1000))] [(1000, .vec 1 ((([] : List Int)).map Dk))] rfl rfl)) (Am ?_)
  exact ⟨⟨[_], tm, rfl⟩, ⟨rfl, tv⟩⟩
 ·refine Ap (wq rfl (ER E1 Ff MZ rfl (qm rfl ?_)))
  refine FR h fun c1 h => LG (f := Dk) E1 E1 Ff NM MZ (fun _ => rfl) c1 rfl (qe rfl ?_)
  obtain rfl := sj h
  refine Ag (sm [(1000, 7)] [(2, oD (.own 1000))] [(1000, .vec 1 (((([] : List Int)) ++ p0).map Dk))] rfl rfl) (Am ?_)
  exact ⟨⟨[_], tm, rfl⟩, ⟨rfl, tv⟩⟩
theorem Hl (N : Nat) (p0 : Aj) (r : Aj) (h : D0 N p0 = some r) : Ak uS 153 [.e (.agg (Bn p0))] [(1, r.fe.map Aq), (1, r.fc.map Aq), (1, r.ff.map Dk)] (.e (.agg [.own 0, .own 1, .own 2])) := by
 unfold D0 at h
 refine cw (n := 13) (rs := [.cell 2 40]) Tryz.func153 fun w0 S0 => ?_
 refine wq rfl (qb rfl (qz DM rfl (Ac (wq rfl (qf D2 rfl (ql Cl rfl ?_))))))
 refine BD h fun v1 a1 h => Ax [2001] (CT N p0.fe v1 a1) NV rfl (qf CK rfl (ql Cl rfl ?_))
 refine BD h fun v2 a2 h => Ax [2002] (CT N p0.fc v2 a2) NV rfl (qf Ew rfl (ql JK rfl ?_))
 refine BD h fun v3 a3 h => Ax [2003] (En N p0.ff v3 a3) Q7 rfl (BA DM IL rfl (qs A2 rfl (AB (by kernel_rfl) ?_)))
 obtain rfl := sj h
 refine Ag (sm [(1000, 2001), (1001, 2002), (1002, 2003)] [(2, oD (.ptr 2 0))] [(2, .box [.own 1000, .own 1001, .own 1002]), (1000, .vec 1 (v1.map Aq)), (1001, .vec 1 (v2.map Aq)), (1002, .vec 1 (v3.map Dk))] rfl rfl) (Am ?_)
 exact ⟨⟨[_], ⟨.cellN _ _ _ _ _ _ _ rfl rfl Cu A2 rfl rfl (JD rfl), tv⟩, rfl⟩, ⟨rfl, rfl, rfl, tv⟩⟩
theorem Kl (N : Nat) (p0 : Au) (r : Bool) (h : FG N p0 = some r) : Ak uS 178 [.e (.agg (Cq p0))] [] (bD r) := by
 unfold FG at h
 refine cw (n := 27) (rs := [.tmp 2]) Tryz.func178 fun w0 S0 => ?_
 refine wq rfl (qb rfl (qa rfl (Ac (AP ?_))))
 refine AD h (fun v1 => mk [(1, oD (.ptr 1 0)), (18, bD v1)] [(1, .box (Cq p0))]) (fun j1 h => ?_) (fun v1 h => ?_)
 ·refine Ah Az rfl (qf Dg rfl (ql Bc rfl (qf G6 rfl (ql Bc rfl ?_))))
  refine QO (.p rfl) rfl rfl ?_
  refine A0 rfl (qm rfl ?_)
  refine Dc 9 h rfl (fun h => ?_) fun h => ?_
  ·refine qw 3 rfl (qp rfl (qw 4 rfl (qp rfl (Ac ?_))))
   exact sn [] h
  ·refine qf DW rfl (ql Bc rfl (A0 rfl (qp rfl (qm rfl ?_))))
   refine Dc 14 h rfl (fun h => ?_) fun h => ?_
   ·refine qw 3 rfl (qp rfl (Ac ?_))
    exact sn [] h
   ·refine qf DW rfl (ql Bc rfl (Eg rfl (qp rfl (Ac ?_))))
    exact sn [] h
 ·refine Bi h (fun h => ?_) fun h => ?_
  ·refine wq rfl (qe rfl ?_)
   obtain rfl := sj h
   refine Ag (sm [] [(2, bD false)] [] rfl rfl) (Am ?_)
   exact ⟨⟨[_], tm, rfl⟩, tv⟩
  ·refine Ap ?_
   refine AD h (fun v5 => mk [(2, bD v5)] []) (fun j5 h => ?_) (fun v5 h => ?_)
   ·refine Ah Az rfl (qf DW rfl (ql Bc rfl (AJ rfl (qm rfl ?_))))
    refine Dc 22 h rfl (fun h => ?_) fun h => ?_
    ·refine qw 3 rfl (qp rfl (qe rfl ?_))
     exact sn [] h
    ·refine qf G6 rfl (ql Bc rfl (AJ rfl (qp rfl (qe rfl ?_))))
     exact sn [] h
   ·obtain rfl := sj h
    refine Ag (sm [] [(2, bD v5)] [] rfl rfl) (Am ?_)
    exact ⟨⟨[_], tm, rfl⟩, tv⟩
theorem Jz (N : Nat) (p0 : Ad) (p1 : Au) (r : Bool) (h : E2 N p0 p1 = some r) : Ak uS 179 [.e (.agg (Aw p0)), .e (.agg (Cq p1))] [] (bD r) := by
 unfold E2 at h
 refine cw (n := 36) (rs := [.tmp 4]) Tryz.func179 fun w0 S0 => ?_
 refine wq rfl (qb rfl (qb rfl (qa rfl (Ac (wp rfl (qf DW rfl (ql Bc rfl (AJ rfl (Ac ?_)))))))))
 refine Bi h (fun h => ?_) fun h => ?_
 ·refine wq rfl (qf Dg rfl (ql Bc rfl (qf Dp rfl (ql Ix rfl (AM EN rfl (A0 rfl (qe rfl ?_)))))))
  obtain rfl := sj h
  refine Ag (sm [] [(4, bD ((decide (p1.fk < (p0.fg.length : Int)))))] [] rfl rfl) (Am ?_)
  exact ⟨⟨[_], tm, rfl⟩, tv⟩
 ·refine Ap ?_
  refine AD h (fun v2 => mk [(4, bD v2)] []) (fun j2 h => ?_) (fun v2 h => ?_)
  ·refine Ah Az rfl (qf Dg rfl (ql Bc rfl (qf C5 rfl (ql Cl rfl (AM AL rfl (A0 rfl (qm rfl ?_)))))))
   refine Dc 20 h rfl (fun h => ?_) fun h => ?_
   ·refine qf DW rfl (ql Bc rfl (Co rfl (qm rfl ?_)))
    refine Dc 24 h rfl (fun h => ?_) fun h => ?_
    ·refine qw 9 rfl (qp rfl (qp rfl (qa rfl (AB (by kernel_rfl) ?_))))
     exact sn [] h
    ·refine qf G6 rfl (ql Bc rfl (qf C5 rfl (ql Cl rfl (qf Dg rfl (ql Bc rfl ?_)))))
     refine Cg h fun v5 a5 b5 h => qi AL Da a5 (Ai b5) rfl (qk Bc rfl (A0 rfl (qp rfl (qp rfl (qa rfl (AB (by kernel_rfl) ?_))))))
     exact sn [] h
   ·refine qw 4 rfl (qu rfl (qu rfl (qu rfl (qu rfl (qu rfl (qu rfl (qu rfl (qu rfl (qu rfl (qn rfl (qp rfl (qa rfl (AB (by kernel_rfl) ?_)))))))))))))
    exact sn [] h
  ·obtain rfl := sj h
   refine Ag (sm [] [(4, bD v2)] [] rfl rfl) (Am ?_)
   exact ⟨⟨[_], tm, rfl⟩, tv⟩
theorem Hh (N : Nat) (p0 : AU) (r : Bool) (h : DU N p0 = some r) : Ak uS 197 [.e (.agg (Dh p0))] [] (bD r) := by
 unfold DU at h
 refine cw (n := 11) (rs := [.tmp 2]) Tryz.func197 fun w0 S0 => ?_
 refine wq rfl (qb rfl (qe rfl ?_))
 refine AD h (fun v1 => mk [(2, bD v1)] []) (fun j1 h => ?_) (fun v1 h => ?_)
 ·refine Ah Az rfl (qf DY rfl (ql Bc rfl (AJ rfl (qm rfl ?_))))
  refine Dc 6 h rfl (fun h => ?_) fun h => ?_
  ·refine qw 3 rfl (qp rfl (qe rfl ?_))
   exact sn [] h
  ·refine qf DY rfl (ql Bc rfl (AJ rfl (qp rfl (qe rfl ?_))))
   exact sn [] h
 ·obtain rfl := sj h
  refine Ag (sm [] [(2, bD v1)] [] rfl rfl) (Am ?_)
  exact ⟨⟨[_], tm, rfl⟩, tv⟩
theorem KB (N : Nat) (p0 : Ad) (p1 : Aj) (p2 : Au) (r : Bool × (List Int) × (List Int)) (h : Fx N p0 p1 p2 = some r) : B6 uS 192 [.e (.agg (Aw p0)), oD (.ptr 90000 0), .e (.agg (Cq p2))] [(.box [.own 90001, .own 90002, .own 90003], .box [.own 90001, .own 90002, .own 90003]), (.vec 1 (p1.fe.map Aq), .vec 1 (p1.fe.map Aq)), (.vec 1 (p1.fc.map Aq), .vec 1 (r.2.1.map Aq)), (.vec 1 (p1.ff.map Dk), .vec 1 (r.2.2.map Dk))] [] (bD r.1) := by
 unfold Fx at h
 refine BY (n := 70) (rs := [.tmp 6]) Tryz.func192 rfl rfl rfl (FJ rfl) (FJ rfl) rfl rfl (FJ rfl) rfl (FJ rfl) fun w0 S0 GL => ?_
 refine Ag (sm [] [(0, .e (.agg (Aw p0))), (1, oD (.ptr 90000 0)), (2, .e (.agg (Cq p2)))] [(90000, .box [.own 90001, .own 90002, .own 90003]), (90001, .vec 1 (p1.fe.map Aq)), (90002, .vec 1 (p1.fc.map Aq)), (90003, .vec 1 (p1.ff.map Dk))] rfl rfl) (wq rfl (qb rfl (qb rfl (qa rfl (Ac (AP ?_))))))
 refine AD h (fun v1 => mk [(1, oD (.ptr 90000 0)), (3, oD (.ptr 3 0)), (5, oD (.ptr 5 0)), (30, bD v1)] [(3, .box (Aw p0)), (5, .box (Cq p2)), (90000, .box [.own 90001, .own 90002, .own 90003]), (90001, .vec 1 (p1.fe.map Aq)), (90002, .vec 1 (p1.fc.map Aq)), (90003, .vec 1 (p1.ff.map Dk))]) (fun j1 h => ?_) (fun v1 h => ?_)
 ·refine Ah Az rfl (qm rfl (FW rfl (qf CK rfl (ql Cl rfl (qf Dg rfl (ql Bc rfl ?_))))))
  refine Cg h fun v2 a2 b2 h => qI AL Da a2 (Ai b2) rfl (qj Bc (Ai b2) rfl (Eh rfl (qm rfl ?_)))
  refine Dc 18 h rfl (fun h => ?_) fun h => ?_
  ·refine qw 11 rfl (qp rfl (AB (by kernel_rfl) ?_))
   exact sn [] h
  ·refine qm rfl (FW rfl (qf D2 rfl (ql Cl rfl (qf Dg rfl (ql Bc rfl ?_)))))
   refine Cg h fun v4 a4 b4 h => qI AL Da a4 (Ai b4) rfl (qj Bc (Ai b4) rfl (qf G6 rfl (ql Bc rfl (AJ rfl (qp rfl (AB (by kernel_rfl) ?_))))))
   exact sn [] h
 ·refine Bi h (fun h => ?_) fun h => ?_
  ·refine wq rfl (qe rfl ?_)
   obtain rfl := sj h
   refine Ag (sm [] [(6, bD false)] [(90000, .box [.own 90001, .own 90002, .own 90003]), (90001, .vec 1 (p1.fe.map Aq)), (90002, .vec 1 (p1.fc.map Aq)), (90003, .vec 1 (p1.ff.map Dk))] rfl rfl) (Am ?_)
   exact ⟨⟨[_], tm, rfl⟩, ⟨rfl, rfl, rfl, rfl, tv⟩, tv⟩
  ·refine Ap (wq rfl (qm rfl (FW rfl (qf CK rfl (ql Cl rfl (qf Dg rfl (ql Bc rfl (qf G6 rfl (ql Bc rfl ?_)))))))))
   refine Cg h fun v6 a6 b6 h => qI AL Da a6 (Ai b6) rfl ?_
   refine FY rfl rfl rfl rfl (Ai b6) rfl Da rfl (FJ rfl) (FZ Aq p1.fc _ p2.fp) ?_
   refine AB (by kernel_rfl) (wp rfl (qf Dp rfl (ql Ix rfl (AM EN rfl (qm rfl (Ac ?_))))))
   refine Bf (L := Di N p0 p2) h (fun v7 => mk [(1, oD (.ptr 90000 0)), (5, oD (.ptr 5 0)), (41, pD (.sl (p0.fg.map A5))), (42, iD ((p0.fg.length : Int))), (43, iD v7.2)] [(5, .box (Cq p2)), (90000, .box [.own 90001, .own 90002, .own 90003]), (90001, .vec 1 (p1.fe.map Aq)), (90002, .vec 1 ((p1.fc.set ((p2.fk).toNat) p2.fp).map Aq)), (90003, .vec 1 (v7.1.map Dk))]) (fun v8 => mk [] [(90000, .box [.own 90001, .own 90002, .own 90003]), (90001, .vec 1 (p1.fe.map Aq)), (90002, .vec 1 ((p1.fc.set ((p2.fk).toNat) p2.fp).map Aq)), (90003, .vec 1 (v8.map Dk))]) (fun _ _ => rfl) (sm [] _ _ rfl rfl) (fun j7 n7 v7 h => ?_) (fun v8 s h hs => ?_)
   ·unfold Di at h
    refine wq rfl (A0 rfl (Ac (AP ?_)))
    refine Bi h (fun h => ?_) fun h => ?_
    ·refine Ap ?_
     refine AD h (fun v10 => mk [(1, oD (.ptr 90000 0)), (5, oD (.ptr 5 0)), (41, pD (.sl (p0.fg.map A5))), (42, iD ((p0.fg.length : Int))), (43, iD v7.2)] [(5, .box (Cq p2)), (90000, .box [.own 90001, .own 90002, .own 90003]), (90001, .vec 1 (p1.fe.map Aq)), (90002, .vec 1 ((p1.fc.set ((p2.fk).toNat) p2.fp).map Aq)), (90003, .vec 1 (v10.map Dk))]) (fun j10 h => ?_) (fun v10 h => ?_)
     ·refine AS (wq rfl (qm rfl ?_))
      refine Cg h fun v11 a11 b11 h => qi EN CP a11 (Ai b11) rfl (qK FK CP rfl (qz Jt rfl (qa rfl (qs CP rfl (Ac ?_)))))
      refine AD h (fun v12 => mk [(1, oD (.ptr 90000 0)), (5, oD (.ptr 5 0)), (7, iD v7.2), (41, pD (.sl (p0.fg.map A5))), (42, iD ((p0.fg.length : Int))), (43, iD v7.2), (56, bD v12)] [(5, .box (Cq p2)), (90000, .box [.own 90001, .own 90002, .own 90003]), (90001, .vec 1 (p1.fe.map Aq)), (90002, .vec 1 ((p1.fc.set ((p2.fk).toNat) p2.fp).map Aq)), (90003, .vec 1 (v7.1.map Dk))]) (fun j12 h => ?_) (fun v12 h => ?_)
      ·refine Ah Az rfl (qf DX rfl (ql Bc rfl (qf Dg rfl (ql Bc rfl (AJ rfl (qm rfl ?_))))))
       refine Dc 53 h rfl (fun h => ?_) fun h => ?_
       ·refine qL FK CP rfl ?_
        refine BD h fun v14 a14 h => Ax [] (Hh N v11 v14 a14) Pp rfl (qp rfl (Ac ?_))
        exact sn [] h
       ·refine qw 2 rfl (qp rfl (Ac ?_))
        exact sn [] h
      ·refine Bi h (fun h => ?_) fun h => ?_
       ·refine Ah Az rfl (qm rfl (FW rfl (qf Ew rfl (ql JK rfl (qm rfl ?_)))))
        refine Cg h fun v16 a16 b16 h => qI E1 Ff a16 (Ai b16) rfl (qj J0 (Ai b16) rfl (qf G6 rfl (ql Bc rfl ?_)))
        refine FR h fun c17 h => Jp rfl c17 (PT rfl ?_)
        refine Cg h fun v18 a18 b18 h => qI E1 Ff a18 (Ai b18) rfl ?_
        refine FY rfl rfl rfl rfl (Ai b18) rfl Ff rfl (FJ rfl) (FZ Dk v7.1 _ ((LZ .u8 v16 ((Fy .u8 1 p2.fp))))) ?_
        refine AB (by kernel_rfl) ?_
        exact sn [] h
       ·refine Ap ?_
        exact sn [] h
     ·refine Ah Az rfl (Cr rfl (qm rfl (Ac ?_)))
      exact sn [] h
    ·refine Cd ?_
     exact sn [] h
   ·refine Ag hs (wq rfl (qe rfl ?_))
    obtain rfl := sj h
    refine Ag (sm [] [(6, bD true)] [(90000, .box [.own 90001, .own 90002, .own 90003]), (90001, .vec 1 (p1.fe.map Aq)), (90002, .vec 1 ((p1.fc.set ((p2.fk).toNat) p2.fp).map Aq)), (90003, .vec 1 (v8.map Dk))] rfl rfl) (Am ?_)
    exact ⟨⟨[_], tm, rfl⟩, ⟨rfl, rfl, rfl, rfl, tv⟩, tv⟩
theorem Jh (N : Nat) (p0 : Aj) (p1 : Int) (r : Int) (h : EF N p0 p1 = some r) : Ak uS 198 [.e (.agg (Bn p0)), iD p1] [] (pD (.val (.int .u8 r))) := by
 unfold EF at h
 refine cw (n := 27) (rs := [.tmp 4]) Tryz.func198 fun w0 S0 => ?_
 refine wq rfl (qb rfl (qa rfl (Ac (wq rfl (qf D2 rfl (ql Cl rfl (qm rfl ?_)))))))
 refine Cg h fun v1 a1 b1 h => qi AL Da a1 (Ai b1) rfl (qk Bc rfl ?_)
 refine FR h fun c2 h => Jp rfl c2 (qe rfl ?_)
 refine AD h (fun v3 => mk [(5, pD (.val (.int .u8 v3)))] []) (fun j3 h => ?_) (fun v3 h => ?_)
 ·refine wq rfl (qf CK rfl (ql Cl rfl (qm rfl ?_)))
  refine Cg h fun v4 a4 b4 h => qi AL Da a4 (Ai b4) rfl (qk Bc rfl (Eh rfl (Ac ?_)))
  refine Bi h (fun h => ?_) fun h => ?_
  ·refine Ah Az rfl (qm rfl (qf CK rfl (ql Cl rfl (qm rfl ?_))))
   refine Cg h fun v6 a6 b6 h => qi AL Da a6 (Ai b6) rfl (qk Bc rfl ?_)
   refine FR h fun c7 h => Jp rfl c7 (PT rfl (qe rfl ?_))
   exact sn [] h
  ·refine Ap ?_
   exact sn [] h
 ·refine wq rfl (qm rfl (qe rfl ?_))
  obtain rfl := sj h
  refine Ag (sm [] [(4, pD (.val (.int .u8 v3)))] [] rfl rfl) (Am ?_)
  exact ⟨⟨[_], tm, rfl⟩, tv⟩
theorem E6 (N : Nat) (p0 : Int) (r : Int) (h : Cf N p0 = some r) : Ak uS 200 [pD (.val (.int .u8 p0))] [] (iD r) := by
 unfold Cf at h
 refine cw (n := 6) (rs := [.tmp 2]) Tryz.func200 fun w0 S0 => ?_
 refine wq rfl (qa rfl (Ac (wq rfl (qm rfl ?_))))
 refine BD h fun v1 a1 h => MD (.p rfl) rfl rfl HW a1 ?_
 refine Hx Ss Sp rfl (qe rfl ?_)
 obtain rfl := sj h
 refine Ag (sm [] [(2, iD ((wI .i64 v1)))] [] rfl rfl) (Am ?_)
 exact ⟨⟨[_], tm, rfl⟩, tv⟩
theorem HI (N : Nat) (p0 : AU) (p1 : Int) (p2 : Int) (r : Bool) (h : DC N p0 p1 p2 = some r) : Ak uS 199 [.e (.agg (Dh p0)), pD (.val (.int .u8 p1)), iD p2] [] (bD r) := by
 unfold DC at h
 refine cw (n := 25) (rs := [.tmp 6]) Tryz.func199 fun w0 S0 => ?_
 refine wq rfl (qb rfl (qa rfl (Ac (wp rfl (qm rfl (qe rfl ?_))))))
 refine Bf (L := Ct N p0 p2) h (fun v1 => mk [(2, iD p2), (3, oD (.ptr 3 0)), (7, pD (.val (.int .u8 v1)))] [(3, .box (Dh p0))]) (fun v2 => mk [] []) (fun _ _ => rfl) (sm [] _ _ rfl rfl) (fun j1 n1 v1 h => ?_) (fun v2 s h hs => ?_)
 ·unfold Ct at h
  refine wp rfl (qm rfl (Co rfl (Ac ?_)))
  refine Bi h (fun h => ?_) fun h => ?_
  ·refine Ap (AP (AS (wq rfl (qf FP rfl (ql HO rfl (qm rfl ?_))))))
   refine BD h fun v4 a4 h => Ax [] (E6 N v1 v4 a4) Qn rfl ?_
   refine Cg h fun v5 a5 b5 h => qi Fz Mg a5 (Ai b5) rfl (qk Mu rfl (qm rfl ?_))
   refine Cg h fun v6 a6 b6 h => qi KI RO a6 (Ai b6) rfl (qk Ql rfl (Cn rfl (AB (by kernel_rfl) ?_)))
   refine Bi h (fun h => ?_) fun h => ?_
   ·refine wq rfl (qe rfl ?_)
    obtain rfl := sj h
    refine Ag (sm [] [(6, bD false)] [] rfl rfl) (Am ?_)
    exact ⟨⟨[_], tm, rfl⟩, tv⟩
   ·refine Ap (Ah Az rfl (qw 2 rfl (HL rfl (Lb rfl (qe rfl ?_)))))
    exact sn [] h
  ·refine Cd ?_
   exact sn [] h
 ·refine Ag hs (wq rfl (qe rfl ?_))
  obtain rfl := sj h
  refine Ag (sm [] [(6, bD true)] [] rfl rfl) (Am ?_)
  exact ⟨⟨[_], tm, rfl⟩, tv⟩
theorem KE (N : Nat) (p0 : Ad) (p1 : Aj) (p2 : Int) (r : Bool × (List Int)) (h : FH N p0 p1 p2 = some r) : B6 uS 193 [.e (.agg (Aw p0)), oD (.ptr 90000 0), iD p2] [(.box [.own 90001, .own 90002, .own 90003], .box [.own 90001, .own 90002, .own 90003]), (.vec 1 (p1.fe.map Aq), .vec 1 (p1.fe.map Aq)), (.vec 1 (p1.fc.map Aq), .vec 1 (p1.fc.map Aq)), (.vec 1 (p1.ff.map Dk), .vec 1 (r.2.map Dk))] [] (bD r.1) := by
 unfold FH at h
 refine BY (n := 68) (rs := [.tmp 6]) Tryz.func193 rfl rfl rfl (FJ rfl) (FJ rfl) rfl rfl (FJ rfl) rfl (FJ rfl) fun w0 S0 GL => ?_
 refine Ag (sm [] [(0, .e (.agg (Aw p0))), (1, oD (.ptr 90000 0)), (2, iD p2)] [(90000, .box [.own 90001, .own 90002, .own 90003]), (90001, .vec 1 (p1.fe.map Aq)), (90002, .vec 1 (p1.fc.map Aq)), (90003, .vec 1 (p1.ff.map Dk))] rfl rfl) (wq rfl (qb rfl (qa rfl (Ac (wq rfl (qf Dp rfl (ql Ix rfl (qm rfl ?_))))))))
 refine Cg h fun v1 a1 b1 h => qi EN CP a1 (Ai b1) rfl (qK FK CP rfl (qz Jt rfl (qs CP rfl (Ac (wp rfl (qL FK CP rfl ?_))))))
 refine BD h fun v2 a2 h => Ax [] (Hh N v1 v2 a2) Pp rfl (Cn rfl (Ac ?_))
 refine Bi h (fun h => ?_) fun h => ?_
 ·refine wq rfl (qe rfl ?_)
  obtain rfl := sj h
  refine Ag (sm [] [(6, bD false)] [(90000, .box [.own 90001, .own 90002, .own 90003]), (90001, .vec 1 (p1.fe.map Aq)), (90002, .vec 1 (p1.fc.map Aq)), (90003, .vec 1 (p1.ff.map Dk))] rfl rfl) (Am ?_)
  exact ⟨⟨[_], tm, rfl⟩, ⟨rfl, rfl, rfl, rfl, tv⟩, tv⟩
 ·refine Ap (wq rfl (qm rfl (FW rfl (qL Cu A2 rfl (qf DX rfl (ql Bc rfl ?_))))))
  refine BD h fun v4 a4 h => Fp [] [90001, 90002, 90003] (Jh N p1 v1.fF v4 a4) Qm DI rfl (qa rfl (AB (by kernel_rfl) (wq rfl (qm rfl (FW rfl (qf Ew rfl (ql JK rfl (qm rfl ?_))))))))
  refine Cg h fun v5 a5 b5 h => qI E1 Ff a5 (Ai b5) rfl (qj J0 (Ai b5) rfl (qm rfl (I9 rfl (qa rfl (Ac (AP ?_))))))
  refine AD h (fun v6 => mk [(1, oD (.ptr 90000 0)), (2, iD p2), (8, pD (.val (.int .u8 v4))), (60, bD v6)] [(90000, .box [.own 90001, .own 90002, .own 90003]), (90001, .vec 1 (p1.fe.map Aq)), (90002, .vec 1 (p1.fc.map Aq)), (90003, .vec 1 (p1.ff.map Dk))]) (fun j6 h => ?_) (fun v6 h => ?_)
  ·refine Ah Az rfl (qm rfl (FW rfl (qf Ew rfl (ql JK rfl (qm rfl ?_)))))
   refine Cg h fun v7 a7 b7 h => qI E1 Ff a7 (Ai b7) rfl (qj J0 (Ai b7) rfl (qm rfl (AJ rfl (qm rfl ?_))))
   refine Dc 42 h rfl (fun h => ?_) fun h => ?_
   ·refine qw 4 rfl (qu rfl (qu rfl (qu rfl (qu rfl (qu rfl (qu rfl (qu rfl (qu rfl (qu rfl (qu rfl (qu rfl (qu rfl (qn rfl (qp rfl (AB (by kernel_rfl) ?_)))))))))))))))
    exact sn [] h
   ·refine qf DY rfl (ql Bc rfl (AJ rfl (qm rfl ?_)))
    refine Dc 46 h rfl (fun h => ?_) fun h => ?_
    ·refine qL FK CP rfl (qw 2 rfl (FW rfl (qf D2 rfl (ql Cl rfl (qf DX rfl (ql Bc rfl ?_))))))
     refine Cg h fun v10 a10 b10 h => qI AL Da a10 (Ai b10) rfl (qj Bc (Ai b10) rfl ?_)
     refine BD h fun v11 a11 h => Ax [] (HI N v1 ((F3 .u8 v5 v4)) v10 v11 a11) QI rfl (Cn rfl (qp rfl (qp rfl (AB (by kernel_rfl) ?_))))
     exact sn [] h
    ·refine qw 12 rfl (qp rfl (qp rfl (AB (by kernel_rfl) ?_)))
     exact sn [] h
  ·refine Bi h (fun h => ?_) fun h => ?_
   ·refine wq rfl (qe rfl ?_)
    obtain rfl := sj h
    refine Ag (sm [] [(6, bD false)] [(90000, .box [.own 90001, .own 90002, .own 90003]), (90001, .vec 1 (p1.fe.map Aq)), (90002, .vec 1 (p1.fc.map Aq)), (90003, .vec 1 (p1.ff.map Dk))] rfl rfl) (Am ?_)
    exact ⟨⟨[_], tm, rfl⟩, ⟨rfl, rfl, rfl, rfl, tv⟩, tv⟩
   ·refine Ap (wq rfl (qm rfl (FW rfl (qf Ew rfl (ql JK rfl (qw 2 rfl ?_))))))
    refine Cg h fun v13 a13 b13 h => qI E1 Ff a13 (Ai b13) rfl ?_
    refine FY rfl rfl rfl rfl (Ai b13) rfl Ff rfl (FJ rfl) (FZ Dk p1.ff _ v4) ?_
    refine Ac (wq rfl (qe rfl ?_))
    obtain rfl := sj h
    refine Ag (sm [] [(6, bD true)] [(90000, .box [.own 90001, .own 90002, .own 90003]), (90001, .vec 1 (p1.fe.map Aq)), (90002, .vec 1 (p1.fc.map Aq)), (90003, .vec 1 ((p1.ff.set ((p2).toNat) v4).map Dk))] rfl rfl) (Am ?_)
    exact ⟨⟨[_], tm, rfl⟩, ⟨rfl, rfl, rfl, rfl, tv⟩, tv⟩
theorem Kg (N : Nat) (p0 : Ad) (p1 : Aj) (p2 : Au) (r : Aj × Bool) (h : FI N p0 p1 p2 = some r) : Ak uS 180 [.e (.agg (Aw p0)), .e (.agg (Bn p1)), .e (.agg (Cq p2))] [(1, r.1.fe.map Aq), (1, r.1.fc.map Aq), (1, r.1.ff.map Dk)] (.tup [.agg [.own 0, .own 1, .own 2], .one (.pure (.val (.bool r.2)))]) := by
 unfold FI at h
 refine cw (n := 51) (rs := [.cell 6 40, .tmp 7]) Tryz.func180 fun w0 S0 => ?_
 refine wq rfl (qb rfl (qb rfl (qb rfl (qz DM rfl (qa rfl (Ac (wq rfl (qL Cu A2 rfl ?_))))))))
 refine BD h fun v1 a1 h => Ax [2001, 2002, 2003] (Hl N p1 v1 a1) Pq rfl (qz DM rfl (qs A2 rfl (Ac (wp rfl (qf DW rfl (ql Bc rfl (Ac (AS (wq rfl (AJ rfl (qe rfl ?_)))))))))))
 refine Bi h (fun h => ?_) fun h => ?_
 ·refine wq rfl (qL Cu A2 rfl (qL Ed D1 rfl (qL Iz F2 rfl ?_)))
  refine BD h fun v3 a3 h => Dt (ds0 := [_, _, _]) [8, 2001, 2002, 2003] [] [false, false, true, true] (KB N p0 v1 p2 v3 a3) (.p rfl) QJ rfl ⟨rfl, rfl, rfl, tv⟩ rfl rfl (CR rfl) ⟨rfl, rfl, rfl, rfl, tv⟩ rfl (BJ rfl) tv ⟨(fun _ => rfl), (fun _ => rfl), (fun h => by cases h), (fun h => by cases h), tv⟩ rfl rfl rfl ?_
  refine qs A2 rfl (qa rfl (AB (by kernel_rfl) ?_))
  obtain rfl := sj h
  refine Ag (sm [(1000, 2001), (1001, 2002), (1002, 2003)] [(6, oD (.ptr 6 0)), (7, bD v3.1)] [(6, .box [.own 1000, .own 1001, .own 1002]), (1000, .vec 1 (v1.fe.map Aq)), (1001, .vec 1 (v3.2.1.map Aq)), (1002, .vec 1 (v3.2.2.map Dk))] rfl rfl) (Am ?_)
  exact ⟨⟨[_, _], ⟨.cellN _ _ _ _ _ _ _ rfl rfl Cu A2 rfl rfl (JD rfl), tm⟩, rfl⟩, ⟨rfl, rfl, rfl, tv⟩⟩
 ·refine wq rfl (AJ rfl (qe rfl ?_))
  refine Bi h (fun h => ?_) fun h => ?_
  ·refine wq rfl (qL Cu A2 rfl (qL Ed D1 rfl (qf Dg rfl (ql Bc rfl ?_))))
   refine BD h fun v5 a5 h => Dt (ds0 := [_, _, _]) [8, 2001, 2002, 2003] [] [false, false, false, true] (KE N p0 v1 p2.fk v5 a5) (.p rfl) Rh rfl ⟨rfl, rfl, rfl, tv⟩ rfl rfl (CR rfl) ⟨rfl, rfl, rfl, rfl, tv⟩ rfl (BJ rfl) tv ⟨(fun _ => rfl), (fun _ => rfl), (fun _ => rfl), (fun h => by cases h), tv⟩ rfl rfl rfl ?_
   refine qs A2 rfl (qa rfl (AB (by kernel_rfl) ?_))
   obtain rfl := sj h
   refine Ag (sm [(1000, 2001), (1001, 2002), (1002, 2003)] [(6, oD (.ptr 6 0)), (7, bD v5.1)] [(6, .box [.own 1000, .own 1001, .own 1002]), (1000, .vec 1 (v1.fe.map Aq)), (1001, .vec 1 (v1.fc.map Aq)), (1002, .vec 1 (v5.2.map Dk))] rfl rfl) (Am ?_)
   exact ⟨⟨[_, _], ⟨.cellN _ _ _ _ _ _ _ rfl rfl Cu A2 rfl rfl (JD rfl), tm⟩, rfl⟩, ⟨rfl, rfl, rfl, tv⟩⟩
  ·refine Ap (wq rfl (qf CK rfl (ql Cl rfl (qf Dg rfl (ql Bc rfl ?_)))))
   refine Cg h fun v6 a6 b6 h => qI AL Da a6 (Ai b6) rfl (qj Bc (Ai b6) rfl (qa rfl (Ac (wp rfl (qm rfl (A0 rfl (Ac ?_)))))))
   refine Bi h (fun h => ?_) fun h => ?_
   ·refine wq rfl (qL Cu A2 rfl (qs A2 rfl (qe rfl ?_)))
    obtain rfl := sj h
    refine Ag (sm [(1000, 2001), (1001, 2002), (1002, 2003)] [(6, oD (.ptr 6 0)), (7, bD false)] [(6, .box [.own 1000, .own 1001, .own 1002]), (1000, .vec 1 (v1.fe.map Aq)), (1001, .vec 1 (v1.fc.map Aq)), (1002, .vec 1 (v1.ff.map Dk))] rfl rfl) (Am ?_)
    exact ⟨⟨[_, _], ⟨.cellN _ _ _ _ _ _ _ rfl rfl Cu A2 rfl rfl (JD rfl), tm⟩, rfl⟩, ⟨rfl, rfl, rfl, tv⟩⟩
   ·refine Ap (wq rfl (qf CK rfl (ql Cl rfl (qf Dg rfl (ql Bc rfl ?_)))))
    refine Cg h fun v8 a8 b8 h => qI AL Da a8 (Ai b8) rfl ?_
    refine FY rfl rfl rfl rfl (Ai b8) rfl Da rfl (FJ rfl) (FZ Aq v1.fc _ ((-1))) ?_
    refine Ac ?_
    refine AD h (fun v9 => mk [(6, oD (.ptr 6 0)), (8, oD (.ptr 8 0))] [(6, .box [.pure (.nil0), .pure (.nil0), .pure (.nil0)]), (8, .box [.own 2004, .own 2005, .own 2006]), (2004, .vec 1 (v9.map Aq)), (2005, .vec 1 ((v1.fc.set ((p2.fk).toNat) ((-1))).map Aq)), (2006, .vec 1 (v1.ff.map Dk))]) (fun j9 h => ?_) (fun v9 h => ?_)
    ·refine wq rfl (qf DW rfl (ql Bc rfl (AJ rfl (Ac ?_))))
     refine Bi h (fun h => ?_) fun h => ?_
     ·refine Ah Az rfl (qf D2 rfl (ql Cl rfl (qf Dg rfl (ql Bc rfl (qm rfl ?_)))))
      refine Cg h fun v11 a11 b11 h => qI AL Da a11 (Ai b11) rfl ?_
      refine FY rfl rfl rfl rfl (Ai b11) rfl Da rfl (FJ rfl) (FZ Aq v1.fe _ v6) ?_
      refine Ac ?_
      exact sn [(2004, 2001), (2005, 2002), (2006, 2003)] h
     ·refine Ap ?_
      exact sn [(2004, 2001), (2005, 2002), (2006, 2003)] h
    ·refine wq rfl (qL Cu A2 rfl (qs A2 rfl (qe rfl ?_)))
     obtain rfl := sj h
     refine Ag (sm [(1000, 2004), (1001, 2005), (1002, 2006)] [(6, oD (.ptr 6 0)), (7, bD true)] [(6, .box [.own 1000, .own 1001, .own 1002]), (1000, .vec 1 (v9.map Aq)), (1001, .vec 1 ((v1.fc.set ((p2.fk).toNat) ((-1))).map Aq)), (1002, .vec 1 (v1.ff.map Dk))] rfl rfl) (Am ?_)
     exact ⟨⟨[_, _], ⟨.cellN _ _ _ _ _ _ _ rfl rfl Cu A2 rfl rfl (JD rfl), tm⟩, rfl⟩, ⟨rfl, rfl, rfl, tv⟩⟩
theorem HV (N : Nat) (p0 : Ad) (p1 : Aj) (p2 : Au) (r : Aj × Int) (h : EA N p0 p1 p2 = some r) : Ak uS 154 [.e (.agg (Aw p0)), .e (.agg (Bn p1)), .e (.agg (Cq p2))] [(1, r.1.fe.map Aq), (1, r.1.fc.map Aq), (1, r.1.ff.map Dk)] (.tup [.agg [.own 0, .own 1, .own 2], .one (iC r.2)]) := by
 unfold EA at h
 refine cw (n := 32) (rs := [.cell 6 40, .tmp 7]) Tryz.func154 fun w0 S0 => ?_
 refine wq rfl (qb rfl (qb rfl (qb rfl (qz DM rfl (qa rfl (Ac (AP (AS (wq rfl (qL Iz F2 rfl ?_))))))))))
 refine BD h fun v1 a1 h => Ax [] (Kl N p2 v1 a1) Rb rfl (Cn rfl (qe rfl ?_))
 refine Bi h (fun h => ?_) fun h => ?_
 ·refine wq rfl (BA DM IL rfl (qs A2 rfl (qe rfl ?_)))
  obtain rfl := sj h
  refine Ag ((Bg 6 0 2001 1 _ rfl rfl rfl rfl).trans ((Bg 6 1 2002 1 _ rfl rfl rfl rfl).trans ((Bg 6 2 2003 1 _ rfl rfl rfl rfl).trans (sm [(1000, 2001), (1001, 2002), (1002, 2003)] [(6, oD (.ptr 6 0)), (7, iD 1)] [(6, .box [.own 1000, .own 1001, .own 1002]), (1000, .vec 1 ((([] : List Int)).map Aq)), (1001, .vec 1 ((([] : List Int)).map Aq)), (1002, .vec 1 ((([] : List Int)).map Dk))] rfl rfl)))) (Am ?_)
  exact ⟨⟨[_, _], ⟨.cellN _ _ _ _ _ _ _ rfl rfl Cu A2 rfl rfl (JD rfl), tm⟩, rfl⟩, ⟨rfl, rfl, rfl, tv⟩⟩
 ·refine wq rfl (qL Ed D1 rfl (qL Iz F2 rfl ?_))
  refine BD h fun v3 a3 h => Ax [] (Jz N p0 p2 v3 a3) RA rfl (Cn rfl (qe rfl ?_))
  refine Bi h (fun h => ?_) fun h => ?_
  ·refine wq rfl (BA DM IL rfl (qs A2 rfl (qe rfl ?_)))
   obtain rfl := sj h
   refine Ag ((Bg 6 0 2004 1 _ rfl rfl rfl rfl).trans ((Bg 6 1 2005 1 _ rfl rfl rfl rfl).trans ((Bg 6 2 2006 1 _ rfl rfl rfl rfl).trans (sm [(1000, 2004), (1001, 2005), (1002, 2006)] [(6, oD (.ptr 6 0)), (7, iD 4)] [(6, .box [.own 1000, .own 1001, .own 1002]), (1000, .vec 1 ((([] : List Int)).map Aq)), (1001, .vec 1 ((([] : List Int)).map Aq)), (1002, .vec 1 ((([] : List Int)).map Dk))] rfl rfl)))) (Am ?_)
   exact ⟨⟨[_, _], ⟨.cellN _ _ _ _ _ _ _ rfl rfl Cu A2 rfl rfl (JD rfl), tm⟩, rfl⟩, ⟨rfl, rfl, rfl, tv⟩⟩
  ·refine Ap (wq rfl (qL Ed D1 rfl (qL Cu A2 rfl (qL Iz F2 rfl ?_))))
   refine BD h fun v5 a5 h => Ax [2007, 2008, 2009] (Kg N p0 p1 p2 v5 a5) RE rfl (qm rfl (qx rfl (qx rfl (qz DM rfl (qs A2 rfl (qa rfl (Ac (wp rfl (qm rfl (Cn rfl (Ac ?_)))))))))))
   refine Bi h (fun h => ?_) fun h => ?_
   ·refine wq rfl (BA DM IL rfl (qs A2 rfl (qe rfl ?_)))
    obtain rfl := sj h
    refine Ag ((Bg 6 0 2010 1 _ rfl rfl rfl rfl).trans ((Bg 6 1 2011 1 _ rfl rfl rfl rfl).trans ((Bg 6 2 2012 1 _ rfl rfl rfl rfl).trans (sm [(1000, 2010), (1001, 2011), (1002, 2012)] [(6, oD (.ptr 6 0)), (7, iD 11)] [(6, .box [.own 1000, .own 1001, .own 1002]), (1000, .vec 1 ((([] : List Int)).map Aq)), (1001, .vec 1 ((([] : List Int)).map Aq)), (1002, .vec 1 ((([] : List Int)).map Dk))] rfl rfl)))) (Am ?_)
    exact ⟨⟨[_, _], ⟨.cellN _ _ _ _ _ _ _ rfl rfl Cu A2 rfl rfl (JD rfl), tm⟩, rfl⟩, ⟨rfl, rfl, rfl, tv⟩⟩
   ·refine Ap (wq rfl (qL Cu A2 rfl (qs A2 rfl (qe rfl ?_))))
    obtain rfl := sj h
    refine Ag (sm [(1000, 2007), (1001, 2008), (1002, 2009)] [(6, oD (.ptr 6 0)), (7, iD 0)] [(6, .box [.own 1000, .own 1001, .own 1002]), (1000, .vec 1 (v5.1.fe.map Aq)), (1001, .vec 1 (v5.1.fc.map Aq)), (1002, .vec 1 (v5.1.ff.map Dk))] rfl rfl) (Am ?_)
    exact ⟨⟨[_, _], ⟨.cellN _ _ _ _ _ _ _ rfl rfl Cu A2 rfl rfl (JD rfl), tm⟩, rfl⟩, ⟨rfl, rfl, rfl, tv⟩⟩
theorem L2 (N : Nat) (p0 : Ad) (p1 : Aj) (p2 : List Au) (r : (List Aj) × Int × Int) (h : GJ N p0 p1 p2 = some r) : Ak uS 113 [.e (.agg (Aw p0)), .e (.agg (Bn p1)), pD (.sl (p2.map AK))] [(3, r.1.map Gm)] (.tup [.one (.own 0), .one (iC r.2.1), .one (iC r.2.2)]) := by
 unfold GJ at h
 refine cw (n := 53) (rs := [.tmp 6, .tmp 7, .tmp 8]) Tryz.func113 fun w0 S0 => ?_
 refine wq rfl (qb rfl (qb rfl (qa rfl (qa rfl (qa rfl (Ac (wp rfl (qL Ed D1 rfl (qL Cu A2 rfl ?_)))))))))
 refine BD h fun v1 a1 h => Ax [] (Ie N p0 p1 v1 a1) Pg rfl (qa rfl (Ac (wq rfl (qm rfl (Co rfl (Ac ?_))))))
 refine Bi h (fun h => ?_) fun h => ?_
 ·refine wq rfl (qm rfl (qa rfl (qa rfl (qe rfl ?_))))
  obtain rfl := sj h
  refine Ag ((Fe 6 2001 3 rfl rfl rfl).trans (sm [(1000, 2001)] [(6, oD (.own 1000)), (7, iD 0), (8, iD v1)] [(1000, .vec 3 ((([] : List Aj)).map Gm))] rfl rfl)) (Am ?_)
  exact ⟨⟨[_, _, _], ⟨.tmp _ _ rfl, ⟨.tmp _ _ rfl, tm⟩⟩, rfl⟩, ⟨rfl, tv⟩⟩
 ·refine Ap (wq rfl (qL Cu A2 rfl ?_))
  refine BD h fun v3 a3 h => Ax [2002, 2003, 2004] (Hl N p1 v3 a3) Pq rfl (zFS (BX 2002 _ _ rfl rfl) (zFS (BX 2003 _ _ rfl rfl) (zFS (BX 2004 _ _ rfl rfl) (ER Jn A2 DM rfl (qa rfl (Ac (wp rfl (qm rfl (AM HK rfl (qm rfl (Ac ?_)))))))))))
  refine Bf (L := D6 N p0 p2) h (fun v4 => mk [(2, pD (.sl (p2.map AK))), (3, oD (.ptr 3 0)), (10, oD (.own 2005)), (24, pD (.sl (p2.map AK))), (25, iD ((p2.length : Int))), (26, iD v4.2)] [(3, .box (Aw p0)), (2005, .vec 3 (v4.1.map Gm))]) (fun v5 => mk [(2, pD (.sl (p2.map AK))), (10, oD (.own 2006))] [(2006, .vec 3 (v5.map Gm))]) (fun _ _ => rfl) (sm [(2005, 23)] _ _ rfl rfl) (fun j4 n4 v4 h => ?_) (fun v5 s h hs => ?_)
  ·unfold D6 at h
   refine wq rfl (A0 rfl (Ac (AP ?_)))
   refine Bi h (fun h => ?_) fun h => ?_
   ·refine Ap (AP (AS (wq rfl (qm rfl ?_))))
    refine Cg h fun v7 a7 b7 h => qi HK F2 a7 (Ai b7) rfl (qK Iz F2 rfl (qz MP rfl (qa rfl (qs F2 rfl (Ac (wq rfl (qL Ed D1 rfl (qw 2 rfl ?_))))))))
    refine Cg h fun v8 a8 b8 h => qI Jn A2 a8 (Ai b8) rfl (qJ Cu A2 (Ai b8) rfl (qL Iz F2 rfl ?_))
    refine BD h fun v9 a9 h => Ax [2007, 2008, 2009] (HV N p0 v8 v7 v9 a9) Pf rfl (qm rfl (qx rfl (qx rfl (qz DM rfl (qs A2 rfl (qa rfl (AB (by kernel_rfl) (wp rfl (qm rfl (Co rfl (Ac ?_)))))))))))
    refine Bi h (fun h => ?_) fun h => ?_
    ·refine wq rfl (qw 2 rfl (qa rfl (qa rfl (qe rfl ?_))))
     obtain rfl := sj h
     refine Ag ((Fe 6 2010 3 rfl rfl rfl).trans (sm [(1000, 2010)] [(6, oD (.own 1000)), (7, iD v4.2), (8, iD v9.2)] [(1000, .vec 3 ((([] : List Aj)).map Gm))] rfl rfl)) (Am ?_)
     exact ⟨⟨[_, _, _], ⟨.tmp _ _ rfl, ⟨.tmp _ _ rfl, tm⟩⟩, rfl⟩, ⟨rfl, tv⟩⟩
    ·refine Ap (Ah Az rfl (qm rfl (qL Cu A2 rfl (zFS (BX 2007 _ _ rfl rfl) (zFS (BX 2008 _ _ rfl rfl) (zFS (BX 2009 _ _ rfl rfl) (ER Jn A2 DM rfl ?_)))))))
     refine FR h fun c11 h => P1 (f := Gm) Jn Jn A2 QD DM c11 rfl (qa rfl (Ac (Ah Az rfl (Cr rfl (qm rfl (Ac ?_))))))
     exact sn [(2005, 48)] h
   ·refine Cd ?_
    exact sn [(2006, 2005)] h
  ·refine Ag hs (wq rfl (qw 2 rfl (AM HK rfl (qa rfl (qa rfl (qe rfl ?_))))))
   obtain rfl := sj h
   refine Ag (sm [(1000, 2006)] [(6, oD (.own 1000)), (7, iD ((p2.length : Int))), (8, iD 0)] [(1000, .vec 3 (v5.map Gm))] rfl rfl) (Am ?_)
   exact ⟨⟨[_, _, _], ⟨.tmp _ _ rfl, ⟨.tmp _ _ rfl, tm⟩⟩, rfl⟩, ⟨rfl, tv⟩⟩
theorem Fq (N : Nat) (p0 : Ad) (p1 : List Au) (r : Aj × Int) (h : CY N p0 p1 = some r) : Ak uS 72 [.e (.agg (Aw p0)), pD (.sl (p1.map AK))] [] (.tup [.agg (Bn r.1), .one (iC r.2)]) := by
 unfold CY at h
 refine cw (n := 30) (rs := [.cell 4 40, .tmp 5]) Tryz.func72 fun w0 S0 => ?_
 refine wq rfl (qb rfl (qz DM rfl (qa rfl (Ac (wp rfl (qm rfl ?_))))))
 refine BD h fun v1 a1 h => Ax [] (Ak.weak (ds' := [pD (.sl (p1.map AK)), oD (.fnc 111)]) (C7 N p1 ((fun (x : Au) => CD N x)) v1 a1) ⟨(fun _ _ _ hh => hh), (fun _ _ _ hh => Ke Ra (fun ar t ht => by obtain ⟨x, r, rfl, hq, rfl⟩ := G5 ht; exact Hf N x r hq) hh), tv⟩) QG rfl ?_
 refine Ac ?_
 refine Bi h (fun h => ?_) fun h => ?_
 ·refine wq rfl (BA DM IL rfl (qs A2 rfl (qe rfl ?_)))
  obtain rfl := sj h
  refine Ag ((G7 4 _ rfl).trans (sm [] [(4, oD (.ptr 4 0)), (5, iD 1)] [(4, .box [sC ((([] : List Int)).map Aq), sC ((([] : List Int)).map Aq), sC ((([] : List Int)).map Dk)])] rfl rfl)) (Am ?_)
  exact ⟨⟨[_, _], ⟨.cellN _ _ _ _ _ _ _ rfl rfl Cu A2 rfl rfl (JD rfl), tm⟩, rfl⟩, tv⟩
 ·refine Ap (wq rfl (qL Ed D1 rfl ?_))
  refine BD h fun v3 a3 h => Ax [2001, 2002, 2003] (Ls N p0 v3 a3) RM rfl (qm rfl (qx rfl (qx rfl (qz DM rfl (qs A2 rfl (qa rfl (Ac (wp rfl (qm rfl (Co rfl (Ac ?_)))))))))))
  refine Bi h (fun h => ?_) fun h => ?_
  ·refine wq rfl (BA DM IL rfl (qm rfl (qs A2 rfl (qe rfl ?_))))
   obtain rfl := sj h
   refine Ag ((G7 4 _ rfl).trans (sm [] [(4, oD (.ptr 4 0)), (5, iD v3.2)] [(4, .box [sC ((([] : List Int)).map Aq), sC ((([] : List Int)).map Aq), sC ((([] : List Int)).map Dk)])] rfl rfl)) (Am ?_)
   exact ⟨⟨[_, _], ⟨.cellN _ _ _ _ _ _ _ rfl rfl Cu A2 rfl rfl (JD rfl), tm⟩, rfl⟩, tv⟩
  ·refine Ap (wq rfl (qL Ed D1 rfl (qL Cu A2 rfl (qm rfl (zFS (BX 2001 _ _ rfl rfl) (zFS (BX 2002 _ _ rfl rfl) (zFS (BX 2003 _ _ rfl rfl) ?_)))))))
   refine BD h fun v5 a5 h => Ax [2004] (L2 N p0 v3.1 p1 v5 a5) RJ rfl (qm rfl (qx rfl (qx rfl (qx rfl (qa rfl (Ac (wq rfl (qL Cu A2 rfl (qm rfl (qs A2 rfl (qe rfl ?_)))))))))))
   obtain rfl := sj h
   refine Ag (sm [] [(4, oD (.ptr 4 0)), (5, iD v5.2.2)] [(4, .box (Bn v3.1))] rfl rfl) (Am ?_)
   exact ⟨⟨[_, _], ⟨.cellN _ _ _ _ _ _ _ rfl rfl Cu A2 rfl rfl (JD rfl), tm⟩, rfl⟩, tv⟩
theorem HB (N : Nat) (p0 : Int) (r : ByteArray) (h : Ci N p0 = some r) : Ak uS 119 [iD p0] [] (pD (.val (.string r))) := by
 unfold Ci at h
 refine cw (n := 14) (rs := [.tmp 2]) Tryz.func119 fun w0 S0 => ?_
 refine wq rfl (qa rfl (Ac (wq rfl ?_)))
 refine NH [(1, .const (.string ⟨#[114, 101, 97, 100]⟩), _), (2, .const (.string ⟨#[98, 101, 103, 105, 110]⟩), _), (3, .const (.string ⟨#[100, 111, 110, 101]⟩), _), (4, .const (.string ⟨#[97, 98, 111, 114, 116]⟩), _), (5, .const (.string ⟨#[114, 101, 115, 117, 109, 101]⟩), _), (6, .const (.string ⟨#[115, 119, 105, 116, 99, 104]⟩), _), (7, .const (.string ⟨#[108, 101, 97, 115, 101]⟩), _)] (.p rfl) rfl ⟨rfl, rfl, rfl, rfl, rfl, rfl, rfl, tv⟩ Pe rfl rfl NQ Ph rfl ?_
 refine qz Pe rfl (qs Rq rfl (Ac (AP ?_)))
 refine AD h (fun v1 => mk [(0, iD p0), (3, oD (.ptr 3 0)), (10, bD v1)] [(3, .box [.pure (.val (.string (⟨#[]⟩))), .pure (.val (.string ((⟨#[114, 101, 97, 100]⟩ : ByteArray)))), .pure (.val (.string ((⟨#[98, 101, 103, 105, 110]⟩ : ByteArray)))), .pure (.val (.string ((⟨#[100, 111, 110, 101]⟩ : ByteArray)))), .pure (.val (.string ((⟨#[97, 98, 111, 114, 116]⟩ : ByteArray)))), .pure (.val (.string ((⟨#[114, 101, 115, 117, 109, 101]⟩ : ByteArray)))), .pure (.val (.string ((⟨#[115, 119, 105, 116, 99, 104]⟩ : ByteArray)))), .pure (.val (.string ((⟨#[108, 101, 97, 115, 101]⟩ : ByteArray))))])]) (fun j1 h => ?_) (fun v1 h => ?_)
 ·refine Ah Az rfl (qm rfl (A0 rfl (qm rfl ?_)))
  refine Dc 7 h rfl (fun h => ?_) fun h => ?_
  ·refine qw 2 rfl (qp rfl (Ac ?_))
   exact sn [] h
  ·refine qm rfl (Eh rfl (qp rfl (Ac ?_)))
   exact sn [] h
 ·refine Bi h (fun h => ?_) fun h => ?_
  ·refine wq rfl (qe rfl ?_)
   obtain rfl := sj h
   refine Ag (sm [] [(2, pD (.val (.string ((⟨#[]⟩ : ByteArray)))))] [] rfl rfl) (Am ?_)
   exact ⟨⟨[_], tm, rfl⟩, tv⟩
  ·refine Ap (wq rfl (qm rfl (zFS (GE 3 [.val (.string (⟨#[]⟩)), .val (.string ((⟨#[114, 101, 97, 100]⟩ : ByteArray))), .val (.string ((⟨#[98, 101, 103, 105, 110]⟩ : ByteArray))), .val (.string ((⟨#[100, 111, 110, 101]⟩ : ByteArray))), .val (.string ((⟨#[97, 98, 111, 114, 116]⟩ : ByteArray))), .val (.string ((⟨#[114, 101, 115, 117, 109, 101]⟩ : ByteArray))), .val (.string ((⟨#[115, 119, 105, 116, 99, 104]⟩ : ByteArray))), .val (.string ((⟨#[108, 101, 97, 115, 101]⟩ : ByteArray)))] rfl rfl) ?_)))
   refine Cg h fun v4 a4 b4 h => Nf (.p rfl) rfl rfl NQ Ph rfl a4 (Ai (f := fun q : ByteArray => T.val (.string q)) b4) ?_
   refine qk RN rfl (qe rfl ?_)
   obtain rfl := sj h
   refine Ag (sm [] [(2, pD (.val (.string v4)))] [] rfl rfl) (Am ?_)
   exact ⟨⟨[_], tm, rfl⟩, tv⟩
theorem GZ (N : Nat) (p0 : Aa) (r : (List Int)) (h : B9 N p0 = some r) : Ak uS 120 [.e (.agg (AN p0))] [(1, r.map Aq)] (oD (.own 0)) := by
 unfold B9 at h
 refine cw (n := 35) (rs := [.tmp 2]) Tryz.func120 fun w0 S0 => ?_
 refine wq rfl (qb rfl (qa rfl (Ac (wp rfl (qf Cs rfl (ql Bc rfl (Ac (AS (wq rfl (AJ rfl (qe rfl ?_)))))))))))
 refine Bi h (fun h => ?_) fun h => ?_
 ·refine wq rfl (qf Fn rfl (ql Bc rfl (qf Fs rfl (ql Bc rfl (qf Gb rfl (ql Bc rfl (ER Ba Gq Pz rfl (qe rfl ?_))))))))
  obtain rfl := sj h
  refine Ag (sm [(1000, 13)] [(2, oD (.own 1000))] [(1000, .vec 1 ((([p0.fA, p0.fw, p0.fB] : List Int)).map Aq))] rfl rfl) (Am ?_)
  exact ⟨⟨[_], tm, rfl⟩, ⟨rfl, tv⟩⟩
 ·refine wq rfl (AJ rfl (qe rfl ?_))
  refine Bi h (fun h => ?_) fun h => ?_
  ·refine wq rfl (qf F8 rfl (ql Bc rfl (qf HN rfl (ql Bc rfl (qf Ha rfl (ql Bc rfl (ER Ba Gq Pz rfl (qe rfl ?_))))))))
   obtain rfl := sj h
   refine Ag (sm [(1000, 22)] [(2, oD (.own 1000))] [(1000, .vec 1 ((([p0.fy, p0.fp, p0.fC] : List Int)).map Aq))] rfl rfl) (Am ?_)
   exact ⟨⟨[_], tm, rfl⟩, ⟨rfl, tv⟩⟩
  ·refine wq rfl (AJ rfl (qe rfl ?_))
   refine Bi h (fun h => ?_) fun h => ?_
   ·refine wq rfl (qf Hw rfl (ql Bc rfl (qf Do rfl (ql Fm rfl (ER Ba Gq Pz rfl (qe rfl ?_))))))
    obtain rfl := sj h
    refine Ag (sm [(1000, 29)] [(2, oD (.own 1000))] [(1000, .vec 1 ((([p0.fE, p0.fr] : List Int)).map Aq))] rfl rfl) (Am ?_)
    exact ⟨⟨[_], tm, rfl⟩, ⟨rfl, tv⟩⟩
   ·refine Ap (wq rfl (qf HD rfl (ql Bc rfl (qf Do rfl (ql Fm rfl (ER Ba Gq Pz rfl (qe rfl ?_)))))))
    obtain rfl := sj h
    refine Ag (sm [(1000, 34)] [(2, oD (.own 1000))] [(1000, .vec 1 ((([p0.fk, p0.fr] : List Int)).map Aq))] rfl rfl) (Am ?_)
    exact ⟨⟨[_], tm, rfl⟩, ⟨rfl, tv⟩⟩
theorem JH (N : Nat) (p0 : Int) (p1 : Int) (p2 : List Int) (r : Aa) (h : CO N p0 p1 p2 = some r) : Ak uS 121 [iD p0, iD p1, pD (.sl (p2.map Aq))] [] (.e (.agg (AN r))) := by
 unfold CO at h
 refine cw (n := 59) (rs := [.cell 6 37]) Tryz.func121 fun w0 S0 => ?_
 refine wq rfl (qz Hd rfl (Ac (wq rfl (qw 2 rfl (BA Hd MW rfl (qz Hd rfl (qs Cb rfl (Ac ?_))))))))
 refine AD h (fun v1 => mk [(6, oD (.ptr 6 0)), (7, oD (.ptr 7 0))] [(6, .box [iC 0, iC 0, iC 0, iC 0, iC 0, iC 0, iC 0, iC 0, iC 0, iC 0, iC 0]), (7, .box [iC p0, iC p1, iC v1.1, iC v1.2.1, iC v1.2.2.1, iC v1.2.2.2.1, iC v1.2.2.2.2.1, iC v1.2.2.2.2.2.1, iC v1.2.2.2.2.2.2.1, iC v1.2.2.2.2.2.2.2.1, iC v1.2.2.2.2.2.2.2.2])]) (fun j1 h => ?_) (fun v1 h => ?_)
 ·refine wq rfl (qm rfl (Ac (AS (wq rfl (AJ rfl (qe rfl ?_))))))
  refine Bi h (fun h => ?_) fun h => ?_
  ·refine Ah Az rfl (qm rfl ?_)
   refine Cg h fun v3 a3 b3 h => qi Ba Gq a3 (Ai b3) rfl (qk Fm rfl (qm rfl ?_))
   refine Cg h fun v4 a4 b4 h => qi Ba Gq a4 (Ai b4) rfl (qk Fm rfl (qm rfl ?_))
   refine Cg h fun v5 a5 b5 h => qi Ba Gq a5 (Ai b5) rfl (qk Fm rfl (qf Fn rfl (qs Da rfl (qf Fs rfl (qs Da rfl (qf Gb rfl (qs Da rfl (AB (by kernel_rfl) ?_))))))))
   exact sn [] h
  ·refine wq rfl (AJ rfl (qe rfl ?_))
   refine Bi h (fun h => ?_) fun h => ?_
   ·refine Ah Az rfl (qm rfl ?_)
    refine Cg h fun v7 a7 b7 h => qi Ba Gq a7 (Ai b7) rfl (qk Fm rfl (qm rfl ?_))
    refine Cg h fun v8 a8 b8 h => qi Ba Gq a8 (Ai b8) rfl (qk Fm rfl (qm rfl ?_))
    refine Cg h fun v9 a9 b9 h => qi Ba Gq a9 (Ai b9) rfl (qk Fm rfl (qf F8 rfl (qs Da rfl (qf HN rfl (qs Da rfl (qf Ha rfl (qs Da rfl (AB (by kernel_rfl) ?_))))))))
    exact sn [] h
   ·refine wq rfl (AJ rfl (qe rfl ?_))
    refine Bi h (fun h => ?_) fun h => ?_
    ·refine Ah Az rfl (qm rfl ?_)
     refine Cg h fun v11 a11 b11 h => qi Ba Gq a11 (Ai b11) rfl (qk Fm rfl (qm rfl ?_))
     refine Cg h fun v12 a12 b12 h => qi Ba Gq a12 (Ai b12) rfl (qk Fm rfl (qf Hw rfl (qs Da rfl (qf Do rfl (qs Gq rfl (AB (by kernel_rfl) ?_))))))
     exact sn [] h
    ·refine Ah Az rfl (qm rfl ?_)
     refine Cg h fun v13 a13 b13 h => qi Ba Gq a13 (Ai b13) rfl (qk Fm rfl (qm rfl ?_))
     refine Cg h fun v14 a14 b14 h => qi Ba Gq a14 (Ai b14) rfl (qk Fm rfl (qf HD rfl (qs Da rfl (qf Do rfl (qs Gq rfl (AB (by kernel_rfl) ?_))))))
     exact sn [] h
 ·refine wq rfl (qL Eb Cb rfl (qs Cb rfl (Ac ?_)))
  obtain rfl := sj h
  refine Ag (sm [] [(6, oD (.ptr 6 0))] [(6, .box [iC p0, iC p1, iC v1.1, iC v1.2.1, iC v1.2.2.1, iC v1.2.2.2.1, iC v1.2.2.2.2.1, iC v1.2.2.2.2.2.1, iC v1.2.2.2.2.2.2.1, iC v1.2.2.2.2.2.2.2.1, iC v1.2.2.2.2.2.2.2.2])] rfl rfl) (Am ?_)
  exact ⟨⟨[_], ⟨.cellN _ _ _ _ _ _ _ rfl rfl Eb Cb rfl rfl (JD rfl), tv⟩, rfl⟩, tv⟩
theorem Eo (N : Nat) (p0 : List Int) (p1 : Int → Option Bool) (r : Int) (h : Bd N p0 p1 = some r) : Ak uS 157 [pD (.sl (p0.map Aq)), oD (.clo (GX (J8 false Aq) tB p1))] [] (iD r) := by
 unfold Bd at h
 refine cw (n := 19) (rs := [.tmp 4]) Tryz.func157 fun w0 S0 => ?_
 refine wq rfl (qa rfl (Ac (wp rfl (qm rfl (AM Ba rfl (qm rfl (Ac ?_)))))))
 refine Bf (L := AC N p0 p1) h (fun v1 => mk [(0, pD (.sl (p0.map Aq))), (1, oD (.clo (GX (J8 false Aq) tB p1))), (7, iD ((p0.length : Int))), (8, iD v1)] []) (fun v2 => mk [] []) (fun _ _ => rfl) (sm [] _ _ rfl rfl) (fun j1 n1 v1 h => ?_) (fun v2 s h hs => ?_)
 ·unfold AC at h
  refine wq rfl (A0 rfl (Ac (AP ?_)))
  refine Bi h (fun h => ?_) fun h => ?_
  ·refine Ap (AP (AS (wq rfl (qm rfl (qa rfl (Ac (wq rfl (qw 3 rfl ?_))))))))
   refine Cg h fun v4 a4 b4 h => qi Ba Gq a4 (Ai b4) rfl (qk Fm rfl ?_)
   refine BD h fun v5 a5 h => IH (ds0 := [_]) (ar := (J8 false Aq) v4) (.p rfl) rfl rfl ⟨rfl, tv⟩ rfl rfl rfl (ID (IF _ _ Nr) a5) ?_
   refine Ac ?_
   refine Bi h (fun h => ?_) fun h => ?_
   ·refine wq rfl (qm rfl (qe rfl ?_))
    obtain rfl := sj h
    refine Ag (sm [] [(4, iD v1)] [] rfl rfl) (Am ?_)
    exact ⟨⟨[_], tm, rfl⟩, tv⟩
   ·refine Ap (Ah Az rfl (Cr rfl (qm rfl (Ac ?_))))
    exact sn [] h
  ·refine Cd ?_
   exact sn [] h
 ·refine Ag hs (wq rfl (qe rfl ?_))
  obtain rfl := sj h
  refine Ag (sm [] [(4, iD ((-1)))] [] rfl rfl) (Am ?_)
  exact ⟨⟨[_], tm, rfl⟩, tv⟩
theorem DJ (N : Nat) (p0 : List Int) (p1 : Int → Option Bool) (r : Bool) (h : AH N p0 p1 = some r) : Ak uS 122 [pD (.sl (p0.map Aq)), oD (.clo (GX (J8 false Aq) tB p1))] [] (bD r) := by
 unfold AH at h
 refine cw (n := 9) (rs := [.tmp 4]) Tryz.func122 fun w0 S0 => ?_
 refine wq rfl (qa rfl (Ac (wq rfl (qw 2 rfl ?_))))
 refine BD h fun v1 a1 h => Ax [] (Eo N p0 p1 v1 a1) Re rfl (Eh rfl (qe rfl ?_))
 obtain rfl := sj h
 refine Ag (sm [] [(4, bD ((decide (0 ≤ v1))))] [] rfl rfl) (Am ?_)
 exact ⟨⟨[_], tm, rfl⟩, tv⟩
theorem Iu (N : Nat) (p0 : Int) (r : Bool) (h : Cm N p0 = some r) : Ak uS 123 [iD p0] [] (bD r) := by
 unfold Cm at h
 refine cw (n := 5) (rs := [.tmp 2]) Tryz.func123 fun w0 S0 => ?_
 refine wq rfl (qa rfl (Ac (wq rfl (qm rfl (A0 rfl (qe rfl ?_))))))
 obtain rfl := sj h
 refine Ag (sm [] [(2, bD ((decide (p0 < 0))))] [] rfl rfl) (Am ?_)
 exact ⟨⟨[_], tm, rfl⟩, tv⟩
theorem Jy (N : Nat) (p0 : Aa) (r : Bool) (h : Dd N p0 = some r) : Ak uS 86 [.e (.agg (AN p0))] [] (bD r) := by
 unfold Dd at h
 refine cw (n := 28) (rs := [.tmp 2]) Tryz.func86 fun w0 S0 => ?_
 refine wq rfl (qb rfl (qa rfl (Ac (AP ?_))))
 refine AD h (fun v1 => mk [(1, oD (.ptr 1 0)), (12, bD v1)] [(1, .box (AN p0))]) (fun j1 h => ?_) (fun v1 h => ?_)
 ·refine Ah Az rfl (qf Cs rfl (ql Bc rfl ?_))
  refine BD h fun v2 a2 h => Ax [] (HB N p0.fd v2 a2) Pv rfl ?_
  refine BC (.p rfl) rfl rfl (Hz _ _ _ _) rfl ?_
  refine qm rfl ?_
  refine Dc 8 h rfl (fun h => ?_) fun h => ?_
  ·refine qw 3 rfl (qp rfl (Ac ?_))
   exact sn [] h
  ·refine qf Ev rfl (ql Fm rfl (A0 rfl (qp rfl (Ac ?_))))
   exact sn [] h
 ·refine Bi h (fun h => ?_) fun h => ?_
  ·refine wq rfl (qe rfl ?_)
   obtain rfl := sj h
   refine Ag (sm [] [(2, bD false)] [] rfl rfl) (Am ?_)
   exact ⟨⟨[_], tm, rfl⟩, tv⟩
  ·refine Ap (wq rfl (qL Eb Cb rfl ?_))
   refine BD h fun v5 a5 h => Ax [2001] (GZ N p0 v5 a5) Po rfl (qe rfl ?_)
   refine AD h (fun v6 => mk [(2, bD v6)] []) (fun j6 h => ?_) (fun v6 h => ?_)
   ·refine Ah Az rfl (qL Eb Cb rfl (qf Ev rfl (ql Fm rfl (qf Cs rfl (ql Bc rfl (qm rfl ?_))))))
    refine BD h fun v7 a7 h => Fp [] [2001] (JH N p0.fh p0.fd v5 v7 a7) Qx DI rfl ?_
    refine Pi [.int .i64 p0.fh, .int .i64 p0.fd, .int .i64 p0.fA, .int .i64 p0.fw, .int .i64 p0.fB, .int .i64 p0.fk, .int .i64 p0.fr, .int .i64 p0.fC, .int .i64 p0.fy, .int .i64 p0.fp, .int .i64 p0.fE] [.int .i64 v7.fh, .int .i64 v7.fd, .int .i64 v7.fA, .int .i64 v7.fw, .int .i64 v7.fB, .int .i64 v7.fk, .int .i64 v7.fr, .int .i64 v7.fC, .int .i64 v7.fy, .int .i64 v7.fp, .int .i64 v7.fE] (.p rfl) rfl rfl Pr rfl ?_
    refine qm rfl ?_
    refine Dc 23 h rfl (fun h => ?_) fun h => ?_
    ·refine qm rfl ?_
     refine BD h fun v9 a9 h => Fp [] [2001] (Ak.weak (ds' := [pD (.sl (v5.map Aq)), oD (.fnc 123)]) (DJ N v5 ((fun (x : Int) => Cm N x)) v9 a9) ⟨(fun _ _ _ hh => hh), (fun _ _ _ hh => Ke RL (fun ar t ht => by obtain ⟨x, r, rfl, hq, rfl⟩ := G5 ht; exact Iu N x r hq) hh), tv⟩) QQ DI rfl ?_
     refine Cn rfl (qp rfl (qa rfl (AB (by kernel_rfl) ?_)))
     exact sn [] h
    ·refine qw 3 rfl (qp rfl (qa rfl (AB (by kernel_rfl) ?_)))
     exact sn [] h
   ·obtain rfl := sj h
    refine Ag (sm [] [(2, bD v6)] [] rfl rfl) (Am ?_)
    exact ⟨⟨[_], tm, rfl⟩, tv⟩
theorem Ex (N : Nat) (p0 : List Aa) (r : Int) (h : BV N p0 = some r) : Ak uS 43 [pD (.sl (p0.map Ay))] [] (iD r) := by
 unfold BV at h
 refine cw (n := 34) (rs := [.tmp 2]) Tryz.func43 fun w0 S0 => ?_
 refine wq rfl (qa rfl (Ac (wp rfl (qm rfl (AM CH rfl (Eg rfl (Ac ?_)))))))
 refine Bi h (fun h => ?_) fun h => ?_
 ·refine wq rfl (qe rfl ?_)
  obtain rfl := sj h
  refine Ag (sm [] [(2, iD 3)] [] rfl rfl) (Am ?_)
  exact ⟨⟨[_], tm, rfl⟩, tv⟩
 ·refine Ap (wp rfl (qm rfl (AM CH rfl (qm rfl (Ac ?_)))))
  refine Bf (L := B4 N p0) h (fun v2 => mk [(0, pD (.sl (p0.map Ay))), (8, pD (.sl (p0.map Ay))), (9, iD ((p0.length : Int))), (10, iD v2)] []) (fun v3 => mk [] []) (fun _ _ => rfl) (sm [] _ _ rfl rfl) (fun j2 n2 v2 h => ?_) (fun v3 s h hs => ?_)
  ·unfold B4 at h
   refine wq rfl (A0 rfl (Ac (AP ?_)))
   refine Bi h (fun h => ?_) fun h => ?_
   ·refine Ap (AP (AS (wq rfl (qm rfl ?_))))
    refine Cg h fun v5 a5 b5 h => qi CH Cb a5 (Ai b5) rfl (qK Eb Cb rfl (qz Hd rfl (qa rfl (qs Cb rfl (Ac ?_)))))
    refine AD h (fun v6 => mk [(0, pD (.sl (p0.map Ay))), (8, pD (.sl (p0.map Ay))), (9, iD ((p0.length : Int))), (10, iD v2), (32, bD v6)] []) (fun j6 h => ?_) (fun v6 h => ?_)
    ·refine Ah Az rfl (qL Eb Cb rfl ?_)
     refine BD h fun v7 a7 h => Ax [] (Jy N v5 v7 a7) R9 rfl (Cn rfl (qm rfl ?_))
     refine Dc 18 h rfl (fun h => ?_) fun h => ?_
     ·refine qw 3 rfl (qu rfl (qu rfl (qu rfl (qu rfl (qu rfl (qu rfl (qu rfl (qu rfl (qu rfl (qn rfl (qp rfl (AB (by kernel_rfl) ?_))))))))))))
      exact sn [] h
     ·refine qm rfl (Eg rfl (qm rfl ?_))
      refine Dc 21 h rfl (fun h => ?_) fun h => ?_
      ·refine qf Ev rfl (ql Fm rfl (qw 2 rfl (HL rfl ?_)))
       refine Cg h fun v10 a10 b10 h => qi CH Cb a10 (Ai b10) rfl (qg Ev rfl (qk Fm rfl (A0 rfl (qp rfl (qp rfl (AB (by kernel_rfl) ?_))))))
       exact sn [] h
      ·refine qw 9 rfl (qp rfl (qp rfl (AB (by kernel_rfl) ?_)))
       exact sn [] h
    ·refine Bi h (fun h => ?_) fun h => ?_
     ·refine wq rfl (qe rfl ?_)
      obtain rfl := sj h
      refine Ag (sm [] [(2, iD 1)] [] rfl rfl) (Am ?_)
      exact ⟨⟨[_], tm, rfl⟩, tv⟩
     ·refine Ap (Ah Az rfl (Cr rfl (qm rfl (Ac ?_))))
      exact sn [] h
   ·refine Cd ?_
    exact sn [] h
  ·refine Ag hs (wq rfl (qe rfl ?_))
   obtain rfl := sj h
   refine Ag (sm [] [(2, iD 0)] [] rfl rfl) (Am ?_)
   exact ⟨⟨[_], tm, rfl⟩, tv⟩
theorem HQ (N : Nat) (r : AX) (h : DD N = some r) : B6 uS 64 [] [] [.box [iC r.ft, iC r.fu, .pure (.val (.bool r.fv)), .mref 1], .mp (Cv (Value.int .i64) Ef r.fD)] (oD (.ptr 0 0)) := by
 unfold DD at h
 refine BY (n := 4) (rs := [.tmp 0]) Tryz.func64 rfl rfl rfl (FJ rfl) (FJ rfl) rfl rfl (FJ rfl) rfl (FJ rfl) fun w0 S0 GL => ?_
 refine Ag (sm [] [] [] rfl rfl) (wq rfl (qa rfl (Ac (wq rfl ?_))))
 refine MF (.p rfl) rfl ?_
 refine BA Q6 QP rfl (qb rfl (qe rfl ?_))
 obtain rfl := sj h
 refine Ag (sm [(1000, 3), (1001, 1)] [(0, oD (.ptr 1000 0))] [(1000, .box [iC 0, iC 0, .pure (.val (.bool false)), .mref 1001]), (1001, .mp (Cv (Value.int .i64) Ef (([] : List (Int × Int)))))] rfl rfl) (Am ?_)
 exact ⟨⟨[_], tm, rfl⟩, tv, ⟨rfl, rfl, tv⟩⟩
theorem KK (N : Nat) (p0 : Ad) (p1 : Aa) (r : Bool) (h : Fw N p0 p1 = some r) : Ak uS 62 [.e (.agg (Aw p0)), .e (.agg (AN p1))] [] (bD r) := by
 unfold Fw at h
 refine cw (n := 47) (rs := [.tmp 4]) Tryz.func62 fun w0 S0 => ?_
 refine wq rfl (qb rfl (qb rfl (qa rfl (Ac (wp rfl (qf Fn rfl (ql Bc rfl (qf Dp rfl (ql Ix rfl (AM EN rfl (Eh rfl (Ac ?_))))))))))))
 refine Bi h (fun h => ?_) fun h => ?_
 ·refine wq rfl (qe rfl ?_)
  obtain rfl := sj h
  refine Ag (sm [] [(4, bD false)] [] rfl rfl) (Am ?_)
  exact ⟨⟨[_], tm, rfl⟩, tv⟩
 ·refine Ap (wq rfl (qf Dp rfl (ql Ix rfl (qf Fn rfl (ql Bc rfl ?_)))))
  refine Cg h fun v2 a2 b2 h => qi EN CP a2 (Ai b2) rfl (qK FK CP rfl (qz Jt rfl (qs CP rfl (Ac ?_))))
  refine AD h (fun v3 => mk [(4, bD v3)] []) (fun j3 h => ?_) (fun v3 h => ?_)
  ·refine Ah Az rfl (qf Fs rfl (ql Bc rfl (qf IT rfl (ql HO rfl (AM Fz rfl (A0 rfl (qm rfl ?_)))))))
   refine Dc 24 h rfl (fun h => ?_) fun h => ?_
   ·refine qf Gb rfl (ql Bc rfl (qf C5 rfl (ql Cl rfl (qf HG rfl (ql Bc rfl ?_)))))
    refine Cg h fun v5 a5 b5 h => qi AL Da a5 (Ai b5) rfl (qk Bc rfl (A0 rfl (qp rfl (qm rfl ?_))))
    refine Dc 35 h rfl (fun h => ?_) fun h => ?_
    ·refine qf IT rfl (ql HO rfl (qf Fs rfl (ql Bc rfl ?_)))
     refine Cg h fun v7 a7 b7 h => qi Fz Mg a7 (Ai b7) rfl (qk Mu rfl (qf Gb rfl (ql Bc rfl ?_)))
     refine Cg h fun v8 a8 b8 h => qi KI RO a8 (Ai b8) rfl (qk Ql rfl (qp rfl (qa rfl (AB (by kernel_rfl) ?_))))
     exact sn [] h
    ·refine qw 10 rfl (qp rfl (qa rfl (AB (by kernel_rfl) ?_)))
     exact sn [] h
   ·refine qw 9 rfl (qp rfl (qw 11 rfl (qp rfl (qa rfl (AB (by kernel_rfl) ?_)))))
    exact sn [] h
  ·obtain rfl := sj h
   refine Ag (sm [] [(4, bD v3)] [] rfl rfl) (Am ?_)
   exact ⟨⟨[_], tm, rfl⟩, tv⟩
theorem DT (N : Nat) (p0 : Aa) (r : Bool) (h : Cy N p0 = some r) : Ak uS 80 [.e (.agg (AN p0))] [] (bD r) := by
 unfold Cy at h
 refine cw (n := 11) (rs := [.tmp 2]) Tryz.func80 fun w0 S0 => ?_
 refine wq rfl (qb rfl (qe rfl ?_))
 refine AD h (fun v1 => mk [(2, bD v1)] []) (fun j1 h => ?_) (fun v1 h => ?_)
 ·refine Ah Az rfl (qf Cs rfl (ql Bc rfl (Eh rfl (qm rfl ?_))))
  refine Dc 6 h rfl (fun h => ?_) fun h => ?_
  ·refine qf Cs rfl (ql Bc rfl (Pb rfl (qp rfl (qe rfl ?_))))
   exact sn [] h
  ·refine qw 3 rfl (qp rfl (qe rfl ?_))
   exact sn [] h
 ·obtain rfl := sj h
  refine Ag (sm [] [(2, bD v1)] [] rfl rfl) (Am ?_)
  exact ⟨⟨[_], tm, rfl⟩, tv⟩
theorem D3 (N : Nat) (p0 : Ae) (p1 : Aa) (r : Bool) (h : B1 N p0 p1 = some r) : B6 uS 81 [oD (.ptr 90000 0), .e (.agg (AN p1))] [(.box (Ao p0), .box (Ao p0))] [] (bD r) := by
 unfold B1 at h
 refine BY (n := 66) (rs := [.tmp 4]) Tryz.func81 rfl rfl rfl (FJ rfl) (FJ rfl) rfl rfl (FJ rfl) rfl (FJ rfl) fun w0 S0 GL => ?_
 refine Ag (sm [] [(0, oD (.ptr 90000 0)), (1, .e (.agg (AN p1)))] [(90000, .box (Ao p0))] rfl rfl) (wq rfl (qb rfl (qa rfl (Ac (AP ?_)))))
 refine AD h (fun v1 => mk [(0, oD (.ptr 90000 0)), (3, oD (.ptr 3 0)), (23, bD v1)] [(3, .box (AN p1)), (90000, .box (Ao p0))]) (fun j1 h => ?_) (fun v1 h => ?_)
 ·refine Ah Az rfl (qf HD rfl (ql Bc rfl (qm rfl (FW rfl (qf G8 rfl (ql Bc rfl (Co rfl (qm rfl ?_))))))))
  refine Dc 12 h rfl (fun h => ?_) fun h => ?_
  ·refine qw 10 rfl (qp rfl (AB (by kernel_rfl) ?_))
   exact sn [] h
  ·refine qm rfl (FW rfl (qf G8 rfl (ql Bc rfl (qm rfl (FW rfl (qf Ko rfl (ql Qb rfl (AM HK rfl (Eh rfl (qp rfl (AB (by kernel_rfl) ?_)))))))))))
   exact sn [] h
 ·refine Bi h (fun h => ?_) fun h => ?_
  ·refine wq rfl (qe rfl ?_)
   obtain rfl := sj h
   refine Ag (sm [] [(4, bD false)] [(90000, .box (Ao p0))] rfl rfl) (Am ?_)
   exact ⟨⟨[_], tm, rfl⟩, ⟨rfl, tv⟩, tv⟩
  ·refine Ap (wp rfl (qf Cs rfl (ql Bc rfl (Ac (AS (wq rfl (AJ rfl (qe rfl ?_))))))))
   refine Bi h (fun h => ?_) fun h => ?_
   ·refine wq rfl (qm rfl (FW rfl (qf Fr rfl (ql Bc rfl (AJ rfl (qe rfl ?_))))))
    obtain rfl := sj h
    refine Ag (sm [] [(4, bD ((p0.fq == 0)))] [(90000, .box (Ao p0))] rfl rfl) (Am ?_)
    exact ⟨⟨[_], tm, rfl⟩, ⟨rfl, tv⟩, tv⟩
   ·refine wq rfl (AJ rfl (qe rfl ?_))
    refine Bi h (fun h => ?_) fun h => ?_
    ·refine wq rfl (qm rfl (FW rfl (qf Fr rfl (ql Bc rfl (AJ rfl (qe rfl ?_))))))
     obtain rfl := sj h
     refine Ag (sm [] [(4, bD ((p0.fq == 1)))] [(90000, .box (Ao p0))] rfl rfl) (Am ?_)
     exact ⟨⟨[_], tm, rfl⟩, ⟨rfl, tv⟩, tv⟩
    ·refine wq rfl (AJ rfl (qe rfl ?_))
     refine Bi h (fun h => ?_) fun h => ?_
     ·refine AD h (fun v7 => mk [(4, bD v7)] [(90000, .box (Ao p0))]) (fun j7 h => ?_) (fun v7 h => ?_)
      ·refine Ah Az rfl (qm rfl (FW rfl (qf Fr rfl (ql Bc rfl (AJ rfl (qm rfl ?_))))))
       refine Dc 47 h rfl (fun h => ?_) fun h => ?_
       ·refine qm rfl (FW rfl (qf Ko rfl (ql Qb rfl (qm rfl (FW rfl (qf G8 rfl (ql Bc rfl ?_)))))))
        refine Cg h fun v9 a9 b9 h => qi HK F2 a9 (Ai b9) rfl (qg DW rfl (qk Bc rfl (AJ rfl (qp rfl (qa rfl (AB (by kernel_rfl) ?_))))))
        exact sn [] h
       ·refine qw 12 rfl (qp rfl (qa rfl (AB (by kernel_rfl) ?_)))
        exact sn [] h
      ·obtain rfl := sj h
       refine Ag (sm [] [(4, bD v7)] [(90000, .box (Ao p0))] rfl rfl) (Am ?_)
       exact ⟨⟨[_], tm, rfl⟩, ⟨rfl, tv⟩, tv⟩
     ·refine Ap (wq rfl (qm rfl (FW rfl (qf Fr rfl (ql Bc rfl (AJ rfl (qe rfl ?_)))))))
      obtain rfl := sj h
      refine Ag (sm [] [(4, bD ((p0.fq == 2)))] [(90000, .box (Ao p0))] rfl rfl) (Am ?_)
      exact ⟨⟨[_], tm, rfl⟩, ⟨rfl, tv⟩, tv⟩
theorem GP (N : Nat) (p0 : AX) (p1 : Aa) (r : Bool × AX × (List (Int × Int))) (h : C3 N p0 p1 = some r) : B6 uS 66 [oD (.ptr 90000 0), .e (.agg (AN p1))] [(.box [iC p0.ft, iC p0.fu, .pure (.val (.bool p0.fv)), .mref 90001], .box [iC r.2.1.ft, iC r.2.1.fu, .pure (.val (.bool r.2.1.fv)), .mref 90001]), (.mp (Cv (Value.int .i64) Ef p0.fD), .mp (Cv (Value.int .i64) Ef r.2.2))] [] (bD r.1) := by
 unfold C3 at h
 refine BY (n := 67) (rs := [.tmp 4]) Tryz.func66 rfl rfl rfl (FJ rfl) (FJ rfl) rfl rfl (FJ rfl) rfl (FJ rfl) fun w0 S0 GL => ?_
 refine Ag (sm [] [(0, oD (.ptr 90000 0)), (1, .e (.agg (AN p1)))] [(90000, .box [iC p0.ft, iC p0.fu, .pure (.val (.bool p0.fv)), .mref 90001]), (90001, .mp (Cv (Value.int .i64) Ef p0.fD))] rfl rfl) (wq rfl (qb rfl (qe rfl ?_)))
 refine AD h (fun v1 => mk [] [(90000, .box [iC v1.2.1, iC v1.2.2.1, .pure (.val (.bool v1.2.2.2)), .mref 90001]), (90001, .mp (Cv (Value.int .i64) Ef v1.1))]) (fun j1 h => ?_) (fun v1 h => ?_)
 ·refine AS (wq rfl (qL Eb Cb rfl ?_))
  refine BD h fun v2 a2 h => Ax [] (DT N p1 v2 a2) Oe rfl (qe rfl ?_)
  refine Bi h (fun h => ?_) fun h => ?_
  ·refine wp rfl (qf Do rfl (ql Fm rfl (qm rfl (FW rfl (qf Lv rfl (ql Fm rfl (A0 rfl (AB (by kernel_rfl) ?_))))))))
   refine Bi h (fun h => ?_) fun h => ?_
   ·refine wq rfl (qe rfl ?_)
    obtain rfl := sj h
    refine Ag (sm [] [(4, bD false)] [(90000, .box [iC p0.ft, iC p0.fu, .pure (.val (.bool p0.fv)), .mref 90001]), (90001, .mp (Cv (Value.int .i64) Ef p0.fD))] rfl rfl) (Am ?_)
    exact ⟨⟨[_], tm, rfl⟩, ⟨rfl, rfl, tv⟩, tv⟩
   ·refine Ap (Ah Az rfl (qm rfl (qf Do rfl (ql Fm rfl (FW rfl (qf Lv rfl (qs Gq rfl (Ac ?_))))))))
    exact sn [] h
  ·refine wq rfl (qf Cs rfl (ql Bc rfl (AJ rfl (qe rfl ?_))))
   refine Bi h (fun h => ?_) fun h => ?_
   ·refine wp rfl (qf Ha rfl (ql Bc rfl (qm rfl (FW rfl (qf Ll rfl (ql Pa rfl (qf F8 rfl (ql Bc rfl ?_))))))))
    refine M4 (kv := (Value.int .i64)) (vt := Ef) (m := p0.fD) (dv := 0) (.p rfl) rfl rfl rfl (Ka LW Ry) (by rw [LW]; rfl) N6 rfl rfl rfl ?_
    refine A0 rfl (AB (by kernel_rfl) ?_)
    refine Bi h (fun h => ?_) fun h => ?_
    ·refine wq rfl (qe rfl ?_)
     obtain rfl := sj h
     refine Ag (sm [] [(4, bD false)] [(90000, .box [iC p0.ft, iC p0.fu, .pure (.val (.bool p0.fv)), .mref 90001]), (90001, .mp (Cv (Value.int .i64) Ef p0.fD))] rfl rfl) (Am ?_)
     exact ⟨⟨[_], tm, rfl⟩, ⟨rfl, rfl, tv⟩, tv⟩
    ·refine Ap (Ah Az rfl (qm rfl (FW rfl (qf Ll rfl (ql Pa rfl (qf F8 rfl (ql Bc rfl (qf Ha rfl (ql Bc rfl ?_)))))))))
     refine M2 (kv := (Value.int .i64)) (vt := Ef) (m := p0.fD) (k := p1.fy) (v := p1.fC) rfl (.inl rfl) rfl rfl rfl rfl (Ka LW Ry) rfl ?_
     refine AB (by kernel_rfl) ?_
     exact sn [] h
   ·refine wq rfl (qf Cs rfl (ql Bc rfl (AJ rfl (qe rfl ?_))))
    refine Bi h (fun h => ?_) fun h => ?_
    ·refine AP ?_
     refine AD h (fun v8 => mk [(0, oD (.ptr 90000 0)), (3, oD (.ptr 3 0)), (58, bD v8)] [(3, .box (AN p1)), (90000, .box [iC p0.ft, iC p0.fu, .pure (.val (.bool p0.fv)), .mref 90001]), (90001, .mp (Cv (Value.int .i64) Ef p0.fD))]) (fun j8 h => ?_) (fun v8 h => ?_)
     ·refine Ah Az rfl (qm rfl (FW rfl (qf Lk rfl (ql Ql rfl (qm rfl ?_)))))
      refine Dc 50 h rfl (fun h => ?_) fun h => ?_
      ·refine qf Do rfl (ql Fm rfl (qm rfl (FW rfl (qf Ld rfl (ql Fm rfl (Pb rfl (qp rfl (AB (by kernel_rfl) ?_))))))))
       exact sn [] h
      ·refine qw 7 rfl (qp rfl (AB (by kernel_rfl) ?_))
       exact sn [] h
     ·refine Bi h (fun h => ?_) fun h => ?_
      ·refine wq rfl (qe rfl ?_)
       obtain rfl := sj h
       refine Ag (sm [] [(4, bD false)] [(90000, .box [iC p0.ft, iC p0.fu, .pure (.val (.bool p0.fv)), .mref 90001]), (90001, .mp (Cv (Value.int .i64) Ef p0.fD))] rfl rfl) (Am ?_)
       exact ⟨⟨[_], tm, rfl⟩, ⟨rfl, rfl, tv⟩, tv⟩
      ·refine Ap (Ah Az rfl (qw 2 rfl (qf Do rfl (ql Fm rfl (FW rfl (qf Ld rfl (qs Gq rfl (FW rfl (qf Lk rfl (qs RO rfl (Ac ?_)))))))))))
       exact sn [] h
    ·refine Ap ?_
     exact sn [] h
 ·refine wq rfl (qe rfl ?_)
  obtain rfl := sj h
  refine Ag (sm [] [(4, bD true)] [(90000, .box [iC v1.2.1, iC v1.2.2.1, .pure (.val (.bool v1.2.2.2)), .mref 90001]), (90001, .mp (Cv (Value.int .i64) Ef v1.1))] rfl rfl) (Am ?_)
  exact ⟨⟨[_], tm, rfl⟩, ⟨rfl, rfl, tv⟩, tv⟩
theorem JA (N : Nat) (p0 : List Int) (p1 : Int) (r : Int) (h : EZ N p0 p1 = some r) : Ak uS 114 [pD (.sl (p0.map Aq)), iD p1] [] (iD r) := by
 unfold EZ at h
 refine cw (n := 22) (rs := [.tmp 4]) Tryz.func114 fun w0 S0 => ?_
 refine wq rfl (qa rfl (Ac (wp rfl (qm rfl (AM AL rfl (qm rfl (Ac ?_)))))))
 refine Bf (L := C6 N p0) h (fun v1 => mk [(1, iD v1.1), (7, pD (.sl (p0.map Aq))), (8, iD ((p0.length : Int))), (9, iD v1.2)] []) (fun v2 => mk [] []) (fun _ _ => rfl) (sm [] _ _ rfl rfl) (fun j1 n1 v1 h => ?_) (fun v2 s h hs => ?_)
 ·unfold C6 at h
  refine wq rfl (A0 rfl (Ac (AP ?_)))
  refine Bi h (fun h => ?_) fun h => ?_
  ·refine Ap (AP (AS (wq rfl (qm rfl ?_))))
   refine Cg h fun v4 a4 b4 h => qi AL Da a4 (Ai b4) rfl (qk Bc rfl (qa rfl (qa rfl (Ac (wp rfl (qw 2 rfl (A0 rfl (Ac ?_))))))))
   refine Bi h (fun h => ?_) fun h => ?_
   ·refine wq rfl (qm rfl (qe rfl ?_))
    obtain rfl := sj h
    refine Ag (sm [] [(4, iD v1.2)] [] rfl rfl) (Am ?_)
    exact ⟨⟨[_], tm, rfl⟩, tv⟩
   ·refine Ap (Ah Az rfl (qw 2 rfl (HL rfl (qa rfl (Ac (Ah Az rfl (Cr rfl (qm rfl (Ac ?_)))))))))
    exact sn [] h
  ·refine Cd ?_
   exact sn [] h
 ·refine Ag hs (wq rfl (qe rfl ?_))
  obtain rfl := sj h
  refine Ag (sm [] [(4, iD ((-1)))] [] rfl rfl) (Am ?_)
  exact ⟨⟨[_], tm, rfl⟩, tv⟩
theorem EH (N : Nat) (p0 : Aj) (p1 : Int) (p2 : Int) (r : Bool) (h : CL N p0 p1 p2 = some r) : Ak uS 115 [.e (.agg (Bn p0)), iD p1, iD p2] [] (bD r) := by
 unfold CL at h
 refine cw (n := 23) (rs := [.tmp 6]) Tryz.func115 fun w0 S0 => ?_
 refine wq rfl (qb rfl (qe rfl ?_))
 refine AD h (fun v1 => mk [(6, bD v1)] []) (fun j1 h => ?_) (fun v1 h => ?_)
 ·refine Ah Az rfl (qf D2 rfl (ql Cl rfl (qm rfl ?_)))
  refine Cg h fun v2 a2 b2 h => qi AL Da a2 (Ai b2) rfl (qk Bc rfl (qm rfl (AJ rfl (qm rfl ?_))))
  refine Dc 14 h rfl (fun h => ?_) fun h => ?_
  ·refine qw 7 rfl (qp rfl (qe rfl ?_))
   exact sn [] h
  ·refine qf CK rfl (ql Cl rfl (qm rfl ?_))
   refine Cg h fun v4 a4 b4 h => qi AL Da a4 (Ai b4) rfl (qk Bc rfl (qm rfl (AJ rfl (qp rfl (qe rfl ?_)))))
   exact sn [] h
 ·obtain rfl := sj h
  refine Ag (sm [] [(6, bD v1)] [] rfl rfl) (Am ?_)
  exact ⟨⟨[_], tm, rfl⟩, tv⟩
theorem Iv (N : Nat) (p0 : Ad) (p1 : Aj) (p2 : Aa) (r : Bool) (h : Er N p0 p1 p2 = some r) : Ak uS 116 [.e (.agg (Aw p0)), .e (.agg (Bn p1)), .e (.agg (AN p2))] [] (bD r) := by
 unfold Er at h
 refine cw (n := 46) (rs := [.tmp 6]) Tryz.func116 fun w0 S0 => ?_
 refine wq rfl (qb rfl (qb rfl (qb rfl (qa rfl (Ac (wq rfl (qf Dp rfl (ql Ix rfl (qf Fn rfl (ql Bc rfl ?_))))))))))
 refine Cg h fun v1 a1 b1 h => qi EN CP a1 (Ai b1) rfl (qK FK CP rfl (qz Jt rfl (qs CP rfl (Ac (wp rfl (qL Cu A2 rfl (qf HG rfl (ql Bc rfl (qf Gb rfl (ql Bc rfl ?_))))))))))
 refine BD h fun v2 a2 h => Ax [] (EH N p1 v1.fH p2.fB v2 a2) Np rfl (Cn rfl (Ac ?_))
 refine Bi h (fun h => ?_) fun h => ?_
 ·refine wq rfl (qe rfl ?_)
  obtain rfl := sj h
  refine Ag (sm [] [(6, bD false)] [] rfl rfl) (Am ?_)
  exact ⟨⟨[_], tm, rfl⟩, tv⟩
 ·refine Ap (AP ?_)
  refine AD h (fun v4 => mk [(4, oD (.ptr 4 0)), (5, oD (.ptr 5 0)), (7, oD (.ptr 7 0)), (28, bD v4)] [(4, .box (Bn p1)), (5, .box (AN p2)), (7, .box (Dh v1))]) (fun j4 h => ?_) (fun v4 h => ?_)
  ·refine Ah Az rfl (qf DY rfl (ql Bc rfl (AJ rfl (qm rfl ?_))))
   refine Dc 24 h rfl (fun h => ?_) fun h => ?_
   ·refine qw 3 rfl (qp rfl (Ac ?_))
    exact sn [] h
   ·refine qf DY rfl (ql Bc rfl (AJ rfl (qp rfl (Ac ?_))))
    exact sn [] h
  ·refine Bi h (fun h => ?_) fun h => ?_
   ·refine wq rfl (qf Ew rfl (ql JK rfl (qf Fn rfl (ql Bc rfl ?_))))
    refine Cg h fun v7 a7 b7 h => qi E1 Ff a7 (Ai b7) rfl (qk J0 rfl (qf Fs rfl (ql Bc rfl ?_)))
    refine FR h fun c8 h => II rfl c8 (Lb rfl (AJ rfl (qa rfl (AB (by kernel_rfl) ?_))))
    obtain rfl := sj h
    refine Ag (sm [] [(6, bD (((Fi .u8 ((EJ .u8 v7 p2.fw)) 1) == 1)))] [] rfl rfl) (Am ?_)
    exact ⟨⟨[_], tm, rfl⟩, tv⟩
   ·refine Ap (wq rfl (qL Cu A2 rfl (qf DX rfl (ql Bc rfl (qf Fs rfl (ql Bc rfl ?_))))))
    refine BD h fun v9 a9 h => Ax [] (EH N p1 v1.fF p2.fw v9 a9) Np rfl (qe rfl ?_)
    obtain rfl := sj h
    refine Ag (sm [] [(6, bD v9)] [] rfl rfl) (Am ?_)
    exact ⟨⟨[_], tm, rfl⟩, tv⟩
theorem Ki (N : Nat) (p0 : Ad) (p1 : Aj) (p2 : Au) (r : Aj × Int) (h : FE N p0 p1 p2 = some r) : Ak uS 155 [.e (.agg (Aw p0)), .e (.agg (Bn p1)), .e (.agg (Cq p2))] [(1, r.1.fe.map Aq), (1, r.1.fc.map Aq), (1, r.1.ff.map Dk)] (.tup [.agg [.own 0, .own 1, .own 2], .one (iC r.2)]) := by
 unfold FE at h
 refine cw (n := 22) (rs := [.cell 6 40, .tmp 7]) Tryz.func155 fun w0 S0 => ?_
 refine wq rfl (qb rfl (qb rfl (qb rfl (qz DM rfl (qa rfl (Ac (wp rfl (qL Ed D1 rfl (qL Cu A2 rfl ?_)))))))))
 refine BD h fun v1 a1 h => Ax [] (Ie N p0 p1 v1 a1) Pg rfl (qa rfl (Ac (wq rfl (qm rfl (Co rfl (Ac ?_))))))
 refine Bi h (fun h => ?_) fun h => ?_
 ·refine wq rfl (BA DM IL rfl (qm rfl (qs A2 rfl (qe rfl ?_))))
  obtain rfl := sj h
  refine Ag ((Bg 6 0 2001 1 _ rfl rfl rfl rfl).trans ((Bg 6 1 2002 1 _ rfl rfl rfl rfl).trans ((Bg 6 2 2003 1 _ rfl rfl rfl rfl).trans (sm [(1000, 2001), (1001, 2002), (1002, 2003)] [(6, oD (.ptr 6 0)), (7, iD v1)] [(6, .box [.own 1000, .own 1001, .own 1002]), (1000, .vec 1 ((([] : List Int)).map Aq)), (1001, .vec 1 ((([] : List Int)).map Aq)), (1002, .vec 1 ((([] : List Int)).map Dk))] rfl rfl)))) (Am ?_)
  exact ⟨⟨[_, _], ⟨.cellN _ _ _ _ _ _ _ rfl rfl Cu A2 rfl rfl (JD rfl), tm⟩, rfl⟩, ⟨rfl, rfl, rfl, tv⟩⟩
 ·refine Ap (wq rfl (qL Ed D1 rfl (qL Cu A2 rfl (qL Iz F2 rfl ?_))))
  refine BD h fun v3 a3 h => Ax [2004, 2005, 2006] (HV N p0 p1 p2 v3 a3) Pf rfl (qx rfl (qx rfl (qs A2 rfl (qe rfl ?_))))
  obtain rfl := sj h
  refine Ag (sm [(1000, 2004), (1001, 2005), (1002, 2006)] [(6, oD (.ptr 6 0)), (7, iD v3.2)] [(6, .box [.own 1000, .own 1001, .own 1002]), (1000, .vec 1 (v3.1.fe.map Aq)), (1001, .vec 1 (v3.1.fc.map Aq)), (1002, .vec 1 (v3.1.ff.map Dk))] rfl rfl) (Am ?_)
  exact ⟨⟨[_, _], ⟨.cellN _ _ _ _ _ _ _ rfl rfl Cu A2 rfl rfl (JD rfl), tm⟩, rfl⟩, ⟨rfl, rfl, rfl, tv⟩⟩
theorem C4 (N : Nat) (p0 : Ae) (p1 : Au) (r : Ae) (h : BI N p0 p1 = some r) : B6 uS 117 [oD (.ptr 90000 0), .e (.agg (Cq p1))] [(.box (Ao p0), .box (Ao r))] [] (.tup []) := by
 unfold BI at h
 refine BY (n := 25) (rs := []) Tryz.func117 rfl rfl rfl (FJ rfl) (FJ rfl) rfl rfl (FJ rfl) rfl (FJ rfl) fun w0 S0 GL => Py ?_
 refine Ag (sm [] [(0, oD (.ptr 90000 0)), (1, .e (.agg (Cq p1)))] [(90000, .box (Ao p0))] rfl rfl) (wq rfl (qb rfl (Ac (wq rfl (qm rfl (FW rfl (qf Kq rfl (qL Ed D1 rfl (qm rfl (FW rfl (qf HT rfl (qL Cu A2 rfl (qL Iz F2 rfl ?_)))))))))))))
 refine BD h fun v1 a1 h => Ax [2001, 2002, 2003] (Ki N ((Ad.mk p0.fa.fi p0.fa.fj p0.fa.fm p0.fa.fg)) ((Aj.mk p0.fb.fe p0.fb.fc p0.fb.ff)) p1 v1 a1) Rw rfl (qm rfl (qx rfl (qx rfl (qz DM rfl (qs A2 rfl (qa rfl (AB (by kernel_rfl) (wq rfl (qm rfl (AJ rfl (Ac ?_)))))))))))
 refine Bi h (fun h => ?_) fun h => ?_
 ·refine Ah Az rfl (qm rfl (qL Cu A2 rfl (FW rfl (qf HT rfl (qs A2 rfl (Ac ?_))))))
  obtain rfl := sj h
  refine ⟨_, ((BX 2001 _ _ rfl rfl).trans ((BX 2002 _ _ rfl rfl).trans ((BX 2003 _ _ rfl rfl).trans (sm [] [] [(90000, .box [sC (p0.fa.fi.map Aq), sC (p0.fa.fj.map Aq), sC (p0.fa.fm.map Aq), sC (p0.fa.fg.map A5), sC (p0.fo.map AK), iC p0.fh, iC p0.fq, sC (v1.1.fe.map Aq), sC (v1.1.fc.map Aq), sC (v1.1.ff.map Dk)])] rfl rfl)))), ?_⟩
  exact ⟨⟨[], tv, rfl⟩, ⟨rfl, tv⟩, tv⟩
 ·refine Ap ?_
  obtain rfl := sj h
  refine ⟨_, (sm [] [] [(90000, .box (Ao p0))] rfl rfl), ?_⟩
  exact ⟨⟨[], tv, rfl⟩, ⟨rfl, tv⟩, tv⟩
theorem DH (N : Nat) (p0 : Ae) (p1 : Aa) (r : Ae) (h : BS N p0 p1 = some r) : B6 uS 82 [oD (.ptr 90000 0), .e (.agg (AN p1))] [(.box (Ao p0), .box (Ao r))] [] (.tup []) := by
 unfold BS at h
 refine BY (n := 62) (rs := []) Tryz.func82 rfl rfl rfl (FJ rfl) (FJ rfl) rfl rfl (FJ rfl) rfl (FJ rfl) fun w0 S0 GL => Py ?_
 refine Ag (sm [] [(0, oD (.ptr 90000 0)), (1, .e (.agg (AN p1)))] [(90000, .box (Ao p0))] rfl rfl) (wq rfl (qb rfl (Ac (wq rfl (qm rfl (FW rfl (qf Ko rfl (ql Qb rfl (qm rfl (FW rfl (qf G8 rfl (ql Bc rfl ?_))))))))))))
 refine Cg h fun v1 a1 b1 h => qi HK F2 a1 (Ai b1) rfl (qK Iz F2 rfl (qz MP rfl (qs F2 rfl (AB (by kernel_rfl) (wq rfl (qf Cs rfl (ql Bc rfl (Ac (AS (wq rfl (AJ rfl (qe rfl ?_))))))))))))
 refine Bi h (fun h => ?_) fun h => ?_
 ·refine wq rfl (qm rfl (FW rfl (qf Fr rfl (qs Da rfl (Ac (wq rfl (qf DW rfl (ql Bc rfl (AJ rfl (Ac ?_))))))))))
  refine Bi h (fun h => ?_) fun h => ?_
  ·refine Ah Az rfl (qm rfl (qL Iz F2 rfl ?_))
   refine BD h fun v4 a4 h => Dt (ds0 := [_, _]) [90000] [] [true] (C4 N ((Ae.mk ((Ad.mk p0.fa.fi p0.fa.fj p0.fa.fm p0.fa.fg)) p0.fo p0.fh 1 ((Aj.mk p0.fb.fe p0.fb.fc p0.fb.ff)))) v1 v4 a4) (.p rfl) NT rfl ⟨rfl, rfl, tv⟩ rfl rfl (by decide) ⟨rfl, tv⟩ rfl (BJ rfl) tv ⟨(fun h => by cases h), tv⟩ rfl rfl rfl ?_
   refine Ac ?_
   obtain rfl := sj h
   refine ⟨_, (sm [] [] [(90000, .box (Ao v4))] rfl rfl), ?_⟩
   exact ⟨⟨[], tv, rfl⟩, ⟨rfl, tv⟩, tv⟩
  ·refine Ap ?_
   obtain rfl := sj h
   refine ⟨_, (sm [] [] [(90000, .box [sC (p0.fa.fi.map Aq), sC (p0.fa.fj.map Aq), sC (p0.fa.fm.map Aq), sC (p0.fa.fg.map A5), sC (p0.fo.map AK), iC p0.fh, iC 1, sC (p0.fb.fe.map Aq), sC (p0.fb.fc.map Aq), sC (p0.fb.ff.map Dk)])] rfl rfl), ?_⟩
   exact ⟨⟨[], tv, rfl⟩, ⟨rfl, tv⟩, tv⟩
 ·refine wq rfl (AJ rfl (qe rfl ?_))
  refine Bi h (fun h => ?_) fun h => ?_
  ·refine AD h (fun v6 => mk [(0, oD (.ptr 90000 0))] [(90000, .box (Ao v6))]) (fun j6 h => ?_) (fun v6 h => ?_)
   ·refine wq rfl (qf DW rfl (ql Bc rfl (Co rfl (Ac ?_))))
    refine Bi h (fun h => ?_) fun h => ?_
    ·refine Ah Az rfl (qm rfl (qL Iz F2 rfl ?_))
     refine BD h fun v8 a8 h => Dt (ds0 := [_, _]) [90000] [] [true] (C4 N ((Ae.mk ((Ad.mk p0.fa.fi p0.fa.fj p0.fa.fm p0.fa.fg)) p0.fo p0.fh p0.fq ((Aj.mk p0.fb.fe p0.fb.fc p0.fb.ff)))) v1 v8 a8) (.p rfl) NT rfl ⟨rfl, rfl, tv⟩ rfl rfl (by decide) ⟨rfl, tv⟩ rfl (BJ rfl) tv ⟨(fun h => by cases h), tv⟩ rfl rfl rfl ?_
     refine Ac ?_
     exact sn [] h
    ·refine Ap ?_
     exact sn [] h
   ·refine Ah Az rfl (qw 3 rfl (FW rfl (qf G8 rfl (ql Bc rfl (Cr rfl (FW rfl (qf G8 rfl (qs Da rfl (FW rfl (qf Fr rfl (qs Da rfl (Ac ?_))))))))))))
    obtain rfl := sj h
    refine ⟨_, (sm [] [] [(90000, .box [sC (v6.fa.fi.map Aq), sC (v6.fa.fj.map Aq), sC (v6.fa.fm.map Aq), sC (v6.fa.fg.map A5), sC (v6.fo.map AK), iC ((wI .i64 (v6.fh + 1))), iC 0, sC (v6.fb.fe.map Aq), sC (v6.fb.fc.map Aq), sC (v6.fb.ff.map Dk)])] rfl rfl), ?_⟩
    exact ⟨⟨[], tv, rfl⟩, ⟨rfl, tv⟩, tv⟩
  ·refine wq rfl (AJ rfl (qe rfl ?_))
   refine Bi h (fun h => ?_) fun h => ?_
   ·refine Ah Az rfl (qm rfl (FW rfl (qf Fr rfl (qs Da rfl (Ac ?_)))))
    obtain rfl := sj h
    refine ⟨_, (sm [] [] [(90000, .box [sC (p0.fa.fi.map Aq), sC (p0.fa.fj.map Aq), sC (p0.fa.fm.map Aq), sC (p0.fa.fg.map A5), sC (p0.fo.map AK), iC p0.fh, iC 2, sC (p0.fb.fe.map Aq), sC (p0.fb.fc.map Aq), sC (p0.fb.ff.map Dk)])] rfl rfl), ?_⟩
    exact ⟨⟨[], tv, rfl⟩, ⟨rfl, tv⟩, tv⟩
   ·refine wq rfl (AJ rfl (qe rfl ?_))
    refine Bi h (fun h => ?_) fun h => ?_
    ·refine wq rfl (qm rfl (FW rfl (qf Fr rfl (qs Da rfl (Ac (Ah Az rfl (qm rfl (qf Dg rfl (ql Bc rfl (BA MP PM rfl ?_))))))))))
     refine BD h fun v11 a11 h => Dt (ds0 := [_, _]) [90000] [] [true] (C4 N ((Ae.mk ((Ad.mk p0.fa.fi p0.fa.fj p0.fa.fm p0.fa.fg)) p0.fo p0.fh 0 ((Aj.mk p0.fb.fe p0.fb.fc p0.fb.ff)))) ((Au.mk 4 v1.fk 0)) v11 a11) (.p rfl) NT rfl ⟨rfl, rfl, tv⟩ rfl rfl (by decide) ⟨rfl, tv⟩ rfl (BJ rfl) tv ⟨(fun h => by cases h), tv⟩ rfl rfl rfl ?_
     refine Ac ?_
     obtain rfl := sj h
     refine ⟨_, (sm [] [] [(90000, .box (Ao v11))] rfl rfl), ?_⟩
     exact ⟨⟨[], tv, rfl⟩, ⟨rfl, tv⟩, tv⟩
    ·refine Ap ?_
     obtain rfl := sj h
     refine ⟨_, (sm [] [] [(90000, .box (Ao p0))] rfl rfl), ?_⟩
     exact ⟨⟨[], tv, rfl⟩, ⟨rfl, tv⟩, tv⟩
theorem HF (N : Nat) (p0 : Ae) (p1 : AX) (p2 : List Int) (p3 : Aa) (r : Int × Ae × AX × (List (Int × Int))) (h : DA N p0 p1 p2 p3 = some r) : B6 uS 73 [oD (.ptr 90000 0), oD (.ptr 90001 0), pD (.sl (p2.map Aq)), .e (.agg (AN p3))] [(.box (Ao p0), .box (Ao r.2.1)), (.box [iC p1.ft, iC p1.fu, .pure (.val (.bool p1.fv)), .mref 90002], .box [iC r.2.2.1.ft, iC r.2.2.1.fu, .pure (.val (.bool r.2.2.1.fv)), .mref 90002]), (.mp (Cv (Value.int .i64) Ef p1.fD), .mp (Cv (Value.int .i64) Ef r.2.2.2))] [] (iD r.1) := by
 unfold DA at h
 refine BY (n := 79) (rs := [.tmp 8]) Tryz.func73 rfl rfl rfl (FJ rfl) (FJ rfl) rfl rfl (FJ rfl) rfl (FJ rfl) fun w0 S0 GL => ?_
 refine Ag (sm [] [(0, oD (.ptr 90000 0)), (1, oD (.ptr 90001 0)), (2, pD (.sl (p2.map Aq))), (3, .e (.agg (AN p3)))] [(90000, .box (Ao p0)), (90001, .box [iC p1.ft, iC p1.fu, .pure (.val (.bool p1.fv)), .mref 90002]), (90002, .mp (Cv (Value.int .i64) Ef p1.fD))] rfl rfl) (wq rfl (qb rfl (qe rfl ?_)))
 refine AD h (fun v1 => mk [] [(90000, .box (Ao v1.2.1)), (90001, .box [iC v1.2.2.1, iC v1.2.2.2.1, .pure (.val (.bool v1.2.2.2.2)), .mref 90002]), (90002, .mp (Cv (Value.int .i64) Ef v1.1))]) (fun j1 h => ?_) (fun v1 h => ?_)
 ·refine AS ?_
  refine AD h (fun v2 => mk [(0, oD (.ptr 90000 0)), (1, oD (.ptr 90001 0)), (2, pD (.sl (p2.map Aq))), (7, oD (.ptr 7 0)), (10, bD v2)] [(7, .box (AN p3)), (90000, .box (Ao p0)), (90001, .box [iC p1.ft, iC p1.fu, .pure (.val (.bool p1.fv)), .mref 90002]), (90002, .mp (Cv (Value.int .i64) Ef p1.fD))]) (fun j2 h => ?_) (fun v2 h => ?_)
  ·refine Ah Az rfl (qf Cs rfl (ql Bc rfl (AJ rfl (qm rfl ?_))))
   refine Dc 14 h rfl (fun h => ?_) fun h => ?_
   ·refine qm rfl (FW rfl (qf Kq rfl (qL Ed D1 rfl (qL Eb Cb rfl ?_))))
    refine BD h fun v4 a4 h => Ax [] (KK N ((Ad.mk p0.fa.fi p0.fa.fj p0.fa.fm p0.fa.fg)) p3 v4 a4) RT rfl (Cn rfl (qp rfl (qa rfl (AB (by kernel_rfl) ?_))))
    exact sn [] h
   ·refine qw 7 rfl (qp rfl (qa rfl (AB (by kernel_rfl) ?_)))
    exact sn [] h
  ·refine Bi h (fun h => ?_) fun h => ?_
   ·refine wq rfl (qe rfl ?_)
    obtain rfl := sj h
    refine Ag (sm [] [(8, iD 1)] [(90000, .box (Ao p0)), (90001, .box [iC p1.ft, iC p1.fu, .pure (.val (.bool p1.fv)), .mref 90002]), (90002, .mp (Cv (Value.int .i64) Ef p1.fD))] rfl rfl) (Am ?_)
    exact ⟨⟨[_], tm, rfl⟩, ⟨rfl, rfl, rfl, tv⟩, tv⟩
   ·refine AD h (fun v6 => mk [(0, oD (.ptr 90000 0)), (1, oD (.ptr 90001 0)), (2, pD (.sl (p2.map Aq))), (7, oD (.ptr 7 0)), (23, bD v6)] [(7, .box (AN p3)), (90000, .box (Ao p0)), (90001, .box [iC p1.ft, iC p1.fu, .pure (.val (.bool p1.fv)), .mref 90002]), (90002, .mp (Cv (Value.int .i64) Ef p1.fD))]) (fun j6 h => ?_) (fun v6 h => ?_)
    ·refine Ah Az rfl (qL Eb Cb rfl ?_)
     refine BD h fun v7 a7 h => Ax [] (DT N p3 v7 a7) Oe rfl (qm rfl ?_)
     refine Dc 26 h rfl (fun h => ?_) fun h => ?_
     ·refine qm rfl (qL Eb Cb rfl ?_)
      refine BD h fun v9 a9 h => Dt (ds0 := [_, _]) [90000] [] [false] (D3 N ((Ae.mk ((Ad.mk p0.fa.fi p0.fa.fj p0.fa.fm p0.fa.fg)) p0.fo p0.fh p0.fq ((Aj.mk p0.fb.fe p0.fb.fc p0.fb.ff)))) p3 v9 a9) (.g rfl rfl) QC rfl ⟨rfl, rfl, tv⟩ rfl rfl (by decide) ⟨rfl, tv⟩ rfl (BJ rfl) tv ⟨(fun _ => rfl), tv⟩ rfl rfl rfl ?_
      refine Cn rfl (qp rfl (qe rfl ?_))
      exact sn [] h
     ·refine qw 4 rfl (qp rfl (qe rfl ?_))
      exact sn [] h
    ·refine Bi h (fun h => ?_) fun h => ?_
     ·refine wq rfl (qe rfl ?_)
      obtain rfl := sj h
      refine Ag (sm [] [(8, iD 2)] [(90000, .box (Ao p0)), (90001, .box [iC p1.ft, iC p1.fu, .pure (.val (.bool p1.fv)), .mref 90002]), (90002, .mp (Cv (Value.int .i64) Ef p1.fD))] rfl rfl) (Am ?_)
      exact ⟨⟨[_], tm, rfl⟩, ⟨rfl, rfl, rfl, tv⟩, tv⟩
     ·refine wq rfl (qm rfl (qL Eb Cb rfl ?_))
      refine BD h fun v11 a11 h => Dt (ds0 := [_, _]) [90001, 90002] [] [true, true] (GP N p1 p3 v11 a11) (.p rfl) Sf rfl ⟨rfl, rfl, tv⟩ rfl rfl (CR rfl) ⟨rfl, rfl, tv⟩ rfl (BJ rfl) tv ⟨(fun h => by cases h), (fun h => by cases h), tv⟩ rfl rfl rfl ?_
      refine Cn rfl (qe rfl ?_)
      refine Bi h (fun h => ?_) fun h => ?_
      ·refine wq rfl (qe rfl ?_)
       obtain rfl := sj h
       refine Ag (sm [] [(8, iD 3)] [(90000, .box (Ao p0)), (90001, .box [iC v11.2.1.ft, iC v11.2.1.fu, .pure (.val (.bool v11.2.1.fv)), .mref 90002]), (90002, .mp (Cv (Value.int .i64) Ef v11.2.2))] rfl rfl) (Am ?_)
       exact ⟨⟨[_], tm, rfl⟩, ⟨rfl, rfl, rfl, tv⟩, tv⟩
      ·refine wq rfl (qf Cs rfl (ql Bc rfl (AJ rfl (qe rfl ?_))))
       refine Bi h (fun h => ?_) fun h => ?_
       ·refine wq rfl (qm rfl (qf F8 rfl (ql Bc rfl ?_)))
        refine BD h fun v14 a14 h => Ax [] (JA N p2 p3.fy v14 a14) RH rfl (qe rfl ?_)
        refine AD h (fun v15 => mk [(57, bD v15)] [(90000, .box (Ao p0)), (90001, .box [iC v11.2.1.ft, iC v11.2.1.fu, .pure (.val (.bool v11.2.1.fv)), .mref 90002]), (90002, .mp (Cv (Value.int .i64) Ef v11.2.2))]) (fun j15 h => ?_) (fun v15 h => ?_)
        ·refine Ah Az rfl (qm rfl (A0 rfl (qm rfl ?_)))
         refine Dc 47 h rfl (fun h => ?_) fun h => ?_
         ·refine qw 9 rfl (qp rfl (AB (by kernel_rfl) ?_))
          exact sn [] h
         ·refine qm rfl (FW rfl (qf HT rfl (qL Cu A2 rfl (qm rfl (qf HN rfl (ql Bc rfl ?_))))))
          refine BD h fun v17 a17 h => Ax [] (EH N ((Aj.mk p0.fb.fe p0.fb.fc p0.fb.ff)) v14 p3.fp v17 a17) Np rfl (Cn rfl (qp rfl (AB (by kernel_rfl) ?_)))
          exact sn [] h
        ·refine Bi h (fun h => ?_) fun h => ?_
         ·refine wq rfl (qe rfl ?_)
          obtain rfl := sj h
          refine Ag (sm [] [(8, iD 4)] [(90000, .box (Ao p0)), (90001, .box [iC v11.2.1.ft, iC v11.2.1.fu, .pure (.val (.bool v11.2.1.fv)), .mref 90002]), (90002, .mp (Cv (Value.int .i64) Ef v11.2.2))] rfl rfl) (Am ?_)
          exact ⟨⟨[_], tm, rfl⟩, ⟨rfl, rfl, rfl, tv⟩, tv⟩
         ·refine Ap ?_
          exact sn [] h
       ·refine wq rfl (qf Cs rfl (ql Bc rfl (AJ rfl (qe rfl ?_))))
        refine Bi h (fun h => ?_) fun h => ?_
        ·refine wq rfl (qm rfl (FW rfl (qf Kq rfl (qL Ed D1 rfl (qm rfl (FW rfl (qf HT rfl (qL Cu A2 rfl (qL Eb Cb rfl ?_)))))))))
         refine BD h fun v20 a20 h => Ax [] (Iv N ((Ad.mk p0.fa.fi p0.fa.fj p0.fa.fm p0.fa.fg)) ((Aj.mk p0.fb.fe p0.fb.fc p0.fb.ff)) p3 v20 a20) QB rfl (Cn rfl (AB (by kernel_rfl) ?_))
         refine Bi h (fun h => ?_) fun h => ?_
         ·refine wq rfl (qe rfl ?_)
          obtain rfl := sj h
          refine Ag (sm [] [(8, iD 5)] [(90000, .box (Ao p0)), (90001, .box [iC v11.2.1.ft, iC v11.2.1.fu, .pure (.val (.bool v11.2.1.fv)), .mref 90002]), (90002, .mp (Cv (Value.int .i64) Ef v11.2.2))] rfl rfl) (Am ?_)
          exact ⟨⟨[_], tm, rfl⟩, ⟨rfl, rfl, rfl, tv⟩, tv⟩
         ·refine Ap ?_
          exact sn [] h
        ·refine wq rfl (qL Eb Cb rfl ?_)
         refine BD h fun v22 a22 h => Ax [] (DT N p3 v22 a22) Oe rfl (qe rfl ?_)
         refine Bi h (fun h => ?_) fun h => ?_
         ·refine Ah Az rfl (qm rfl (qL Eb Cb rfl ?_))
          refine BD h fun v24 a24 h => Dt (ds0 := [_, _]) [90000] [] [true] (DH N ((Ae.mk ((Ad.mk p0.fa.fi p0.fa.fj p0.fa.fm p0.fa.fg)) p0.fo p0.fh p0.fq ((Aj.mk p0.fb.fe p0.fb.fc p0.fb.ff)))) p3 v24 a24) (.p rfl) QF rfl ⟨rfl, rfl, tv⟩ rfl rfl (by decide) ⟨rfl, tv⟩ rfl (BJ rfl) tv ⟨(fun h => by cases h), tv⟩ rfl rfl rfl ?_
          refine Ac ?_
          exact sn [] h
         ·refine Ap ?_
          exact sn [] h
 ·refine wq rfl (qe rfl ?_)
  obtain rfl := sj h
  refine Ag (sm [] [(8, iD 0)] [(90000, .box (Ao v1.2.1)), (90001, .box [iC v1.2.2.1, iC v1.2.2.2.1, .pure (.val (.bool v1.2.2.2.2)), .mref 90002]), (90002, .mp (Cv (Value.int .i64) Ef v1.1))] rfl rfl) (Am ?_)
  exact ⟨⟨[_], tm, rfl⟩, ⟨rfl, rfl, rfl, tv⟩, tv⟩
theorem JM (N : Nat) (p0 : Ad) (p1 : List Int) (p2 : List Au) (p3 : List Aa) (r : Int × Int × (Option Ae) × Int) (h : E0 N p0 p1 p2 p3 = some r) : Ak uS 35 [.e (.agg (Aw p0)), pD (.sl (p1.map Aq)), pD (.sl (p2.map AK)), pD (.sl (p3.map Ay))] [] (.tup [.one (iC r.1), .one (iC r.2.1), .one (.pure (.rp (zD0 C9 r.2.2.1))), .one (iC r.2.2.2)]) := by
 unfold E0 at h
 refine cw (n := 69) (rs := [.tmp 8, .tmp 9, .tmp 10, .tmp 11]) Tryz.func35 fun w0 S0 => ?_
 refine wq rfl (qb rfl (qa rfl (qa rfl (qa rfl (qa rfl (Ac (wp rfl (qL Ed D1 rfl ?_))))))))
 refine BD h fun v1 a1 h => Ax [] (CA N p0 v1 a1) OL rfl (qa rfl (Ac (wq rfl (qm rfl (Co rfl (Ac ?_))))))
 refine Bi h (fun h => ?_) fun h => ?_
 ·refine wq rfl (qm rfl (qa rfl (qa rfl (qa rfl (qe rfl ?_)))))
  obtain rfl := sj h
  refine Ag (sm [] [(8, iD 0), (9, iD 0), (10, pD (.rp none)), (11, iD v1)] [] rfl rfl) (Am ?_)
  exact ⟨⟨[_, _, _, _], ⟨.tmp _ _ rfl, ⟨.tmp _ _ rfl, ⟨.tmp _ _ rfl, tm⟩⟩⟩, rfl⟩, tv⟩
 ·refine Ap (wp rfl (qL Ed D1 rfl (qm rfl ?_)))
  refine BD h fun v3 a3 h => Ax [] (It N p0 p1 v3 a3) RZ rfl (qa rfl (Ac (wq rfl (qm rfl (Co rfl (Ac ?_))))))
  refine Bi h (fun h => ?_) fun h => ?_
  ·refine wq rfl (qm rfl (qa rfl (qa rfl (qa rfl (qe rfl ?_)))))
   obtain rfl := sj h
   refine Ag (sm [] [(8, iD 0), (9, iD 0), (10, pD (.rp none)), (11, iD v3)] [] rfl rfl) (Am ?_)
   exact ⟨⟨[_, _, _, _], ⟨.tmp _ _ rfl, ⟨.tmp _ _ rfl, ⟨.tmp _ _ rfl, tm⟩⟩⟩, rfl⟩, tv⟩
  ·refine Ap (wq rfl (qL Ed D1 rfl (qm rfl ?_)))
   refine BD h fun v5 a5 h => Ax [] (Fq N p0 p2 v5 a5) QL rfl (qm rfl (qx rfl (qx rfl (qz DM rfl (qs A2 rfl (qe rfl ?_))))))
   refine AD h (fun v6 => mk [(1, pD (.sl (p1.map Aq))), (2, pD (.sl (p2.map AK))), (3, pD (.sl (p3.map Ay))), (4, oD (.ptr 4 0)), (14, oD (.ptr 14 0)), (15, iD v6)] [(4, .box (Aw p0)), (14, .box (Bn v5.1))]) (fun j6 h => ?_) (fun v6 h => ?_)
   ·refine wq rfl (qm rfl (AJ rfl (Ac ?_)))
    refine Bi h (fun h => ?_) fun h => ?_
    ·refine Ah Az rfl (qm rfl ?_)
     refine BD h fun v8 a8 h => Ax [] (Ex N p3 v8 a8) P2 rfl (qe rfl ?_)
     exact sn [] h
    ·refine Ap ?_
     exact sn [] h
   ·refine wp rfl (qm rfl (Co rfl (Ac ?_)))
    refine Bi h (fun h => ?_) fun h => ?_
    ·refine wq rfl (qm rfl (qa rfl (qa rfl (qa rfl (qe rfl ?_)))))
     obtain rfl := sj h
     refine Ag (sm [] [(8, iD 0), (9, iD 0), (10, pD (.rp none)), (11, iD v6)] [] rfl rfl) (Am ?_)
     exact ⟨⟨[_, _, _, _], ⟨.tmp _ _ rfl, ⟨.tmp _ _ rfl, ⟨.tmp _ _ rfl, tm⟩⟩⟩, rfl⟩, tv⟩
    ·refine Ap (wq rfl (qL Ed D1 rfl (qm rfl (qL Cu A2 rfl (BA Q9 Qy rfl (qb rfl (qa rfl (Ac (wq rfl ?_)))))))))
     refine BD h fun v10 a10 h => Dt (ds0 := []) [] [2001, 2002] [] (HQ N v10 a10) (.p rfl) Sl rfl tv rfl rfl (by decide) tv rfl (BJ rfl) ⟨rfl, rfl, tv⟩ tv rfl rfl rfl ?_
     refine zFS (sm [] [(1, pD (.sl (p1.map Aq))), (2, pD (.sl (p2.map AK))), (3, pD (.sl (p3.map Ay))), (4, oD (.ptr 4 0)), (14, oD (.ptr 14 0)), (15, iD v6), (16, oD (.ptr 49 0)), (42, iD v6), (43, bD ((v6 != 0))), (45, .e (.agg (Aw p0))), (46, pD (.sl (p2.map AK))), (47, .e (.agg (Bn v5.1))), (48, .e (.agg [sC (p0.fi.map Aq), sC (p0.fj.map Aq), sC (p0.fm.map Aq), sC (p0.fg.map A5), sC (p2.map AK), iC 0, iC 0, sC (v5.1.fe.map Aq), sC (v5.1.fc.map Aq), sC (v5.1.ff.map Dk)])), (49, oD (.ptr 49 0)), (50, oD (.ptr 2001 0))] [(4, .box (Aw p0)), (14, .box (Bn v5.1)), (49, .box [sC (p0.fi.map Aq), sC (p0.fj.map Aq), sC (p0.fm.map Aq), sC (p0.fg.map A5), sC (p2.map AK), iC 0, iC 0, sC (v5.1.fe.map Aq), sC (v5.1.fc.map Aq), sC (v5.1.ff.map Dk)]), (2001, .box [iC v10.ft, iC v10.fu, .pure (.val (.bool v10.fv)), .mref 2002]), (2002, .mp (Cv (Value.int .i64) Ef v10.fD))] rfl rfl) (qa rfl (Ac (wp rfl (qm rfl (AM CH rfl (qm rfl (Ac ?_)))))))
     refine Bf (L := CS N p1 p3) h (fun v11 => mk [(1, pD (.sl (p1.map Aq))), (16, oD (.ptr 49 0)), (17, oD (.ptr 2001 0)), (51, pD (.sl (p3.map Ay))), (52, iD ((p3.length : Int))), (53, iD v11.2.2.2.2.2)] [(49, .box (Ao v11.1)), (2001, .box [iC v11.2.1, iC v11.2.2.1, .pure (.val (.bool v11.2.2.2.1)), .mref 2003]), (2003, .mp (Cv (Value.int .i64) Ef v11.2.2.2.2.1))]) (fun v12 => mk [(16, oD (.ptr 49 0))] [(49, .box (Ao v12))]) (fun _ _ => rfl) (sm [(2003, 2002)] _ _ rfl rfl) (fun j11 n11 v11 h => ?_) (fun v12 s h hs => ?_)
     ·unfold CS at h
      refine wq rfl (A0 rfl (Ac (AP ?_)))
      refine Bi h (fun h => ?_) fun h => ?_
      ·refine Ap (AP (AS (wq rfl (qm rfl ?_))))
       refine Cg h fun v14 a14 b14 h => qi CH Cb a14 (Ai b14) rfl (qK Eb Cb rfl (qz Hd rfl (qa rfl (qs Cb rfl (Ac (wq rfl (qw 3 rfl (qL Eb Cb rfl ?_))))))))
       refine BD h fun v15 a15 h => Dt (ds0 := [_, _, _, _]) [49, 2001, 2003] [] [true, true, true] (HF N ((Ae.mk ((Ad.mk v11.1.fa.fi v11.1.fa.fj v11.1.fa.fm v11.1.fa.fg)) v11.1.fo v11.1.fh v11.1.fq ((Aj.mk v11.1.fb.fe v11.1.fb.fc v11.1.fb.ff)))) ((AX.mk v11.2.1 v11.2.2.1 v11.2.2.2.1 v11.2.2.2.2.1)) p1 v14 v15 a15) (.p rfl) Si rfl ⟨rfl, rfl, rfl, rfl, tv⟩ rfl rfl (CR rfl) ⟨rfl, rfl, rfl, tv⟩ rfl (BJ rfl) tv ⟨(fun h => by cases h), (fun h => by cases h), (fun h => by cases h), tv⟩ rfl rfl rfl ?_
       refine qa rfl (Ac (wq rfl (qm rfl (Co rfl (Ac ?_)))))
       refine Bi h (fun h => ?_) fun h => ?_
       ·refine wq rfl (qw 2 rfl (qa rfl (qa rfl (qa rfl (qe rfl ?_)))))
        obtain rfl := sj h
        refine Ag (sm [] [(8, iD v11.2.2.2.2.2), (9, iD v15.1), (10, pD (.rp none)), (11, iD 0)] [] rfl rfl) (Am ?_)
        exact ⟨⟨[_, _, _, _], ⟨.tmp _ _ rfl, ⟨.tmp _ _ rfl, ⟨.tmp _ _ rfl, tm⟩⟩⟩, rfl⟩, tv⟩
       ·refine Ap (Ah Az rfl (Cr rfl (qm rfl (Ac ?_))))
        exact sn [] h
      ·refine Cd ?_
       exact sn [] h
     ·refine Ag hs (wq rfl (qm rfl (qa rfl (qa rfl (qa rfl (qe rfl ?_))))))
      obtain rfl := sj h
      refine Ag ((GE 49 [.sl (v12.fa.fi.map Aq), .sl (v12.fa.fj.map Aq), .sl (v12.fa.fm.map Aq), .sl (v12.fa.fg.map A5), .sl (v12.fo.map AK), .val (.int .i64 v12.fh), .val (.int .i64 v12.fq), .sl (v12.fb.fe.map Aq), .sl (v12.fb.fc.map Aq), .sl (v12.fb.ff.map Dk)] rfl rfl).trans ((Km 10 _ rfl).trans (sm [] [(8, iD 0), (9, iD 0), (10, pD (.rp (zD0 C9 ((some ((Ae.mk ((Ad.mk v12.fa.fi v12.fa.fj v12.fa.fm v12.fa.fg)) v12.fo v12.fh v12.fq ((Aj.mk v12.fb.fe v12.fb.fc v12.fb.ff))))))))), (11, iD 15)] [] rfl rfl))) (Am ?_)
      exact ⟨⟨[_, _, _, _], ⟨.tmp _ _ rfl, ⟨.tmp _ _ rfl, ⟨.tmp _ _ rfl, tm⟩⟩⟩, rfl⟩, tv⟩
theorem Hm (N : Nat) (p0 : Ad) (p1 : List Int) (p2 : List Au) (p3 : List Aa) (r : Int × Int × Int) (h : DN N p0 p1 p2 p3 = some r) : Ak uS 13 [.e (.agg (Aw p0)), pD (.sl (p1.map Aq)), pD (.sl (p2.map AK)), pD (.sl (p3.map Ay))] [] (.tup [.one (iC r.1), .one (iC r.2.1), .one (iC r.2.2)]) := by
 unfold DN at h
 refine cw (n := 28) (rs := [.tmp 8, .tmp 9, .tmp 10]) Tryz.func13 fun w0 S0 => ?_
 refine wq rfl (qb rfl (qa rfl (qa rfl (qa rfl (Ac (wq rfl (qL Ed D1 rfl (qw 3 rfl ?_))))))))
 refine BD h fun v1 a1 h => Ax [] (JM N p0 p1 p2 p3 v1 a1) Sd rfl (qm rfl (qx rfl (qx rfl (qx rfl (qx rfl (qa rfl (qa rfl (qa rfl (qa rfl (Ac (wq rfl (qw 3 rfl (qa rfl (qa rfl (qe rfl ?_)))))))))))))))
 obtain rfl := sj h
 refine Ag (sm [] [(8, iD v1.1), (9, iD v1.2.1), (10, iD v1.2.2.2)] [] rfl rfl) (Am ?_)
 exact ⟨⟨[_, _, _], ⟨.tmp _ _ rfl, ⟨.tmp _ _ rfl, tm⟩⟩, rfl⟩, tv⟩
theorem H9 (N : Nat) (p0 : Ad) (p1 : List Au) (p2 : List Aa) (r : (Option Ae) × Int × Int) (h : DZ N p0 p1 p2 = some r) : Ak uS 39 [.e (.agg (Aw p0)), pD (.sl (p1.map AK)), pD (.sl (p2.map Ay))] [] (.tup [.one (.pure (.rp (zD0 C9 r.1))), .one (iC r.2.1), .one (iC r.2.2)]) := by
 unfold DZ at h
 refine cw (n := 59) (rs := [.tmp 6, .tmp 7, .tmp 8]) Tryz.func39 fun w0 S0 => ?_
 refine wq rfl (qb rfl (qa rfl (qa rfl (qa rfl (Ac (wp rfl (qL Ed D1 rfl ?_)))))))
 refine BD h fun v1 a1 h => Ax [] (CA N p0 v1 a1) OL rfl (qa rfl (Ac (wq rfl (qm rfl (Co rfl (Ac ?_))))))
 refine Bi h (fun h => ?_) fun h => ?_
 ·refine wq rfl (qm rfl (qa rfl (qa rfl (qe rfl ?_))))
  obtain rfl := sj h
  refine Ag (sm [] [(6, pD (.rp none)), (7, iD 0), (8, iD v1)] [] rfl rfl) (Am ?_)
  exact ⟨⟨[_, _, _], ⟨.tmp _ _ rfl, ⟨.tmp _ _ rfl, tm⟩⟩, rfl⟩, tv⟩
 ·refine Ap (wq rfl (qL Ed D1 rfl (qm rfl ?_)))
  refine BD h fun v3 a3 h => Ax [] (Fq N p0 p1 v3 a3) QL rfl (qm rfl (qx rfl (qx rfl (qz DM rfl (qs A2 rfl (qe rfl ?_))))))
  refine AD h (fun v4 => mk [(1, pD (.sl (p1.map AK))), (2, pD (.sl (p2.map Ay))), (3, oD (.ptr 3 0)), (10, oD (.ptr 10 0)), (11, iD v4)] [(3, .box (Aw p0)), (10, .box (Bn v3.1))]) (fun j4 h => ?_) (fun v4 h => ?_)
  ·refine wq rfl (qm rfl (AJ rfl (Ac ?_)))
   refine Bi h (fun h => ?_) fun h => ?_
   ·refine Ah Az rfl (qm rfl ?_)
    refine BD h fun v6 a6 h => Ax [] (Ex N p2 v6 a6) P2 rfl (qe rfl ?_)
    exact sn [] h
   ·refine Ap ?_
    exact sn [] h
  ·refine wp rfl (qm rfl (Co rfl (Ac ?_)))
   refine Bi h (fun h => ?_) fun h => ?_
   ·refine wq rfl (qm rfl (qa rfl (qa rfl (qe rfl ?_))))
    obtain rfl := sj h
    refine Ag (sm [] [(6, pD (.rp none)), (7, iD 0), (8, iD v4)] [] rfl rfl) (Am ?_)
    exact ⟨⟨[_, _, _], ⟨.tmp _ _ rfl, ⟨.tmp _ _ rfl, tm⟩⟩, rfl⟩, tv⟩
   ·refine Ap (wq rfl (qL Ed D1 rfl (qm rfl (qL Cu A2 rfl (BA Q9 Qy rfl (qb rfl (qa rfl (Ac (wp rfl (qm rfl (AM CH rfl (qm rfl (Ac ?_)))))))))))))
    refine Bf (L := CC N p2) h (fun v8 => mk [(12, oD (.ptr 37 0)), (38, pD (.sl (p2.map Ay))), (39, iD ((p2.length : Int))), (40, iD v8.2)] [(37, .box (Ao v8.1))]) (fun v9 => mk [(12, oD (.ptr 37 0))] [(37, .box (Ao v9))]) (fun _ _ => rfl) (sm [] _ _ rfl rfl) (fun j8 n8 v8 h => ?_) (fun v9 s h hs => ?_)
    ·unfold CC at h
     refine wq rfl (A0 rfl (Ac (AP ?_)))
     refine Bi h (fun h => ?_) fun h => ?_
     ·refine Ap ?_
      refine AD h (fun v11 => mk [(12, oD (.ptr 37 0)), (38, pD (.sl (p2.map Ay))), (39, iD ((p2.length : Int))), (40, iD v8.2)] [(37, .box (Ao v11))]) (fun j11 h => ?_) (fun v11 h => ?_)
      ·refine AS (wq rfl (qm rfl ?_))
       refine Cg h fun v12 a12 b12 h => qi CH Cb a12 (Ai b12) rfl (qK Eb Cb rfl (qz Hd rfl (qa rfl (qs Cb rfl (Ac (wp rfl (qL Eb Cb rfl ?_)))))))
       refine BD h fun v13 a13 h => Ax [] (DT N v12 v13 a13) Oe rfl (Cn rfl (Ac ?_))
       refine Bi h (fun h => ?_) fun h => ?_
       ·refine Cd ?_
        exact sn [] h
       ·refine Ap (wp rfl (qm rfl (qL Eb Cb rfl ?_)))
        refine BD h fun v15 a15 h => Dt (ds0 := [_, _]) [37] [] [false] (D3 N ((Ae.mk ((Ad.mk v8.1.fa.fi v8.1.fa.fj v8.1.fa.fm v8.1.fa.fg)) v8.1.fo v8.1.fh v8.1.fq ((Aj.mk v8.1.fb.fe v8.1.fb.fc v8.1.fb.ff)))) v12 v15 a15) (.p rfl) QC rfl ⟨rfl, rfl, tv⟩ rfl rfl (by decide) ⟨rfl, tv⟩ rfl (BJ rfl) tv ⟨(fun _ => rfl), tv⟩ rfl rfl rfl ?_
        refine Cn rfl (Ac ?_)
        refine Bi h (fun h => ?_) fun h => ?_
        ·refine wq rfl (qw 2 rfl (qa rfl (qa rfl (qe rfl ?_))))
         obtain rfl := sj h
         refine Ag ((GE 37 [.sl (v8.1.fa.fi.map Aq), .sl (v8.1.fa.fj.map Aq), .sl (v8.1.fa.fm.map Aq), .sl (v8.1.fa.fg.map A5), .sl (v8.1.fo.map AK), .val (.int .i64 v8.1.fh), .val (.int .i64 v8.1.fq), .sl (v8.1.fb.fe.map Aq), .sl (v8.1.fb.fc.map Aq), .sl (v8.1.fb.ff.map Dk)] rfl rfl).trans ((Km 6 _ rfl).trans (sm [] [(6, pD (.rp (zD0 C9 ((some ((Ae.mk ((Ad.mk v8.1.fa.fi v8.1.fa.fj v8.1.fa.fm v8.1.fa.fg)) v8.1.fo v8.1.fh v8.1.fq ((Aj.mk v8.1.fb.fe v8.1.fb.fc v8.1.fb.ff))))))))), (7, iD v8.2), (8, iD 0)] [] rfl rfl))) (Am ?_)
         exact ⟨⟨[_, _, _], ⟨.tmp _ _ rfl, ⟨.tmp _ _ rfl, tm⟩⟩, rfl⟩, tv⟩
        ·refine Ap (Ah Az rfl (qm rfl (qL Eb Cb rfl ?_)))
         refine BD h fun v17 a17 h => Dt (ds0 := [_, _]) [37] [] [true] (DH N ((Ae.mk ((Ad.mk v8.1.fa.fi v8.1.fa.fj v8.1.fa.fm v8.1.fa.fg)) v8.1.fo v8.1.fh v8.1.fq ((Aj.mk v8.1.fb.fe v8.1.fb.fc v8.1.fb.ff)))) v12 v17 a17) (.p rfl) QF rfl ⟨rfl, rfl, tv⟩ rfl rfl (by decide) ⟨rfl, tv⟩ rfl (BJ rfl) tv ⟨(fun h => by cases h), tv⟩ rfl rfl rfl ?_
         refine Ac ?_
         exact sn [] h
      ·refine Ah Az rfl (Cr rfl (qm rfl (Ac ?_)))
       exact sn [] h
     ·refine Cd ?_
      exact sn [] h
    ·refine Ag hs (wq rfl (qm rfl (qa rfl (qa rfl (qe rfl ?_)))))
     obtain rfl := sj h
     refine Ag ((GE 37 [.sl (v9.fa.fi.map Aq), .sl (v9.fa.fj.map Aq), .sl (v9.fa.fm.map Aq), .sl (v9.fa.fg.map A5), .sl (v9.fo.map AK), .val (.int .i64 v9.fh), .val (.int .i64 v9.fq), .sl (v9.fb.fe.map Aq), .sl (v9.fb.fc.map Aq), .sl (v9.fb.ff.map Dk)] rfl rfl).trans ((Km 6 _ rfl).trans (sm [] [(6, pD (.rp (zD0 C9 ((some ((Ae.mk ((Ad.mk v9.fa.fi v9.fa.fj v9.fa.fm v9.fa.fg)) v9.fo v9.fh v9.fq ((Aj.mk v9.fb.fe v9.fb.fc v9.fb.ff))))))))), (7, iD ((-1))), (8, iD 0)] [] rfl rfl))) (Am ?_)
     exact ⟨⟨[_, _, _], ⟨.tmp _ _ rfl, ⟨.tmp _ _ rfl, tm⟩⟩, rfl⟩, tv⟩
theorem K0 (N : Nat) (p0 : Ad) (p1 : List Au) (p2 : List Aa) (r : Aj × Int) (h : F6 N p0 p1 p2 = some r) : Ak uS 16 [.e (.agg (Aw p0)), pD (.sl (p1.map AK)), pD (.sl (p2.map Ay))] [] (.tup [.agg (Bn r.1), .one (iC r.2)]) := by
 unfold F6 at h
 refine cw (n := 32) (rs := [.cell 6 40, .tmp 7]) Tryz.func16 fun w0 S0 => ?_
 refine wq rfl (qb rfl (qz DM rfl (qa rfl (Ac (wq rfl (qL Ed D1 rfl (qw 2 rfl ?_)))))))
 refine BD h fun v1 a1 h => Ax [] (H9 N p0 p1 p2 v1 a1) R5 rfl (qm rfl (qx rfl (qx rfl (qx rfl (qa rfl (qa rfl (qa rfl (Ac (AP (AS (wq rfl (qm rfl (Co rfl (qe rfl ?_))))))))))))))
 refine Bi h (fun h => ?_) fun h => ?_
 ·refine wq rfl (BA DM IL rfl (qm rfl (qs A2 rfl (qe rfl ?_))))
  obtain rfl := sj h
  refine Ag ((G7 6 _ rfl).trans (sm [] [(6, oD (.ptr 6 0)), (7, iD v1.2.2)] [(6, .box [sC ((([] : List Int)).map Aq), sC ((([] : List Int)).map Aq), sC ((([] : List Int)).map Dk)])] rfl rfl)) (Am ?_)
  exact ⟨⟨[_, _], ⟨.cellN _ _ _ _ _ _ _ rfl rfl Cu A2 rfl rfl (JD rfl), tm⟩, rfl⟩, tv⟩
 ·refine wq rfl (qm rfl (Eh rfl (qe rfl ?_)))
  refine Bi h (fun h => ?_) fun h => ?_
  ·refine wq rfl (BA DM IL rfl (qs A2 rfl (qe rfl ?_)))
   obtain rfl := sj h
   refine Ag ((G7 6 _ rfl).trans (sm [] [(6, oD (.ptr 6 0)), (7, iD 11)] [(6, .box [sC ((([] : List Int)).map Aq), sC ((([] : List Int)).map Aq), sC ((([] : List Int)).map Dk)])] rfl rfl)) (Am ?_)
   exact ⟨⟨[_, _], ⟨.cellN _ _ _ _ _ _ _ rfl rfl Cu A2 rfl rfl (JD rfl), tm⟩, rfl⟩, tv⟩
  ·refine Ap (wq rfl (qm rfl ?_))
   refine BD h fun v4 a4 h => zFS (NG 28 _ _ rfl (by rw [a4]; rfl)) ?_
   refine Le (.p rfl) rfl ?_
   refine qg HT rfl (qK Cu A2 rfl (qs A2 rfl (qe rfl ?_)))
   obtain rfl := sj h
   refine Ag (sm [] [(6, oD (.ptr 6 0)), (7, iD 0)] [(6, .box (Bn v4.fb))] rfl rfl) (Am ?_)
   exact ⟨⟨[_, _], ⟨.cellN _ _ _ _ _ _ _ rfl rfl Cu A2 rfl rfl (JD rfl), tm⟩, rfl⟩, tv⟩
def L4 : Go.Shelf.Ren := ⟨fun | 129 => 182 | 173 => 125 | 246 => 126 | 283 => 159 | 284 => 160 | 285 => 161 | 286 => 162 | 317 => 181 | 318 => 183 | 319 => 184 | 320 => 185 | 337 => 194 | 338 => 195 | n => n, fun | 0 => 0 | 2 => 2 | 3 => 3 | 4 => 4 | 5 => 5 | 9 => 9 | 20 => 20 | 37 => 47 | 46 => 234 | 51 => 242 | 53 => 214 | 171 => 213 | 173 => 217 | 212 => 241 | 213 => 243 | 232 => 261 | 233 => 262 | n => n, fun | 17 => 0 | 18 => 1 | 19 => 2 | n => n⟩
theorem OM : LaysM.n173 uS L4 := { mixed := Az, f129 := Tryz.func182.trans (congrArg some (by kernel_rfl)), f173 := Tryz.func125.trans (congrArg some (by kernel_rfl)), f246 := Tryz.func126.trans (congrArg some (by kernel_rfl)), f283 := Tryz.func159.trans (congrArg some (by kernel_rfl)), f284 := Tryz.func160.trans (congrArg some (by kernel_rfl)), f285 := Tryz.func161.trans (congrArg some (by kernel_rfl)), f286 := Tryz.func162.trans (congrArg some (by kernel_rfl)), f317 := Tryz.func181.trans (congrArg some (by kernel_rfl)), f318 := Tryz.func183.trans (congrArg some (by kernel_rfl)), f319 := Tryz.func184.trans (congrArg some (by kernel_rfl)), f320 := Tryz.func185.trans (congrArg some (by kernel_rfl)), f337 := Tryz.func194.trans (congrArg some (by kernel_rfl)), f338 := Tryz.func195.trans (congrArg some (by kernel_rfl)), t0 := Tryz.underlying0, a0 := Tryz.isAgg0, z0 := Tryz.sizeOf0, v0 := Tryz.zeroValue0, t2 := Tryz.underlying2, a2 := Tryz.isAgg2, z2 := Tryz.sizeOf2, v2 := Tryz.zeroValue2, t3 := Tryz.underlying3, a3 := Tryz.isAgg3, z3 := Tryz.sizeOf3, v3 := Tryz.zeroValue3, t4 := Tryz.underlying4, a4 := Tryz.isAgg4, z4 := Tryz.sizeOf4, v4 := Tryz.zeroValue4, t5 := Tryz.underlying5, a5 := Tryz.isAgg5, z5 := Tryz.sizeOf5, v5 := Tryz.zeroValue5, t9 := Tryz.underlying9, a9 := Tryz.isAgg9, z9 := Tryz.sizeOf9, v9 := Tryz.zeroValue9, t20 := Tryz.underlying20, a20 := Tryz.isAgg20, z20 := Tryz.sizeOf20, v20 := Tryz.zeroValue20, t37 := Tryz.underlying47, a37 := Tryz.isAgg47, z37 := Tryz.sizeOf47, v37 := Tryz.zeroValue47, t46 := Tryz.underlying234, a46 := Tryz.isAgg234, z46 := Tryz.sizeOf234, v46 := Tryz.zeroValue234, t51 := Tryz.underlying242, a51 := Tryz.isAgg242, z51 := Tryz.sizeOf242, v51 := Tryz.zeroValue242, t53 := Tryz.underlying214, a53 := Tryz.isAgg214, z53 := Tryz.sizeOf214, v53 := Tryz.zeroValue214, t171 := Tryz.underlying213, a171 := Tryz.isAgg213, z171 := Tryz.sizeOf213, v171 := Tryz.zeroValue213, t173 := Tryz.underlying217, a173 := Tryz.isAgg217, z173 := Tryz.sizeOf217, v173 := Tryz.zeroValue217, t212 := Tryz.underlying241, a212 := Tryz.isAgg241, z212 := Tryz.sizeOf241, v212 := Tryz.zeroValue241, t213 := Tryz.underlying243, a213 := Tryz.isAgg243, z213 := Tryz.sizeOf243, t232 := Tryz.underlying261, a232 := Tryz.isAgg261, z232 := Tryz.sizeOf261, v232 := Tryz.zeroValue261, t233 := Tryz.underlying262, a233 := Tryz.isAgg262, z233 := Tryz.sizeOf262, v233 := Tryz.zeroValue262, g17 := by kernel_rfl, g18 := by kernel_rfl, g19 := by kernel_rfl, i0 := by kernel_rfl, i2 := by kernel_rfl, i3 := by kernel_rfl, i4 := by kernel_rfl, i5 := by kernel_rfl, i9 := by kernel_rfl, i20 := by kernel_rfl, i37 := by kernel_rfl, i46 := by kernel_rfl, i51 := by kernel_rfl, i53 := by kernel_rfl, i171 := by kernel_rfl, i173 := by kernel_rfl, i212 := by kernel_rfl, i232 := by kernel_rfl, i233 := by kernel_rfl, m17 := by kernel_rfl, m18 := by kernel_rfl, m19 := by kernel_rfl }
theorem CJ (N : Nat) (p0 p1 : Int) (r : ByteArray) (h : Be N p0 p1 = some r) : Ak uS 125 [iD p0, iD p1] [] (pD (.val (.string r))) := by
 obtain ⟨h1, h⟩ := E8 h
 subst h1
 exact Lg OM (g := L4.g 17) (by kernel_rfl) h
theorem Kx (N : Nat) (p0 : Aa) (r : ByteArray) (h : Ch N p0 = some r) : Ak uS 88 [.e (.agg (AN p0))] [] (pD (.val (.string r))) := by
 unfold Ch at h
 refine cw (n := 29) (rs := [.tmp 2]) Tryz.func88 fun w0 S0 => ?_
 refine wq rfl (qb rfl (qa rfl (Ac (wq rfl (qf Ev rfl (ql Fm rfl ?_))))))
 refine BD h fun v1 a1 h => Ax [] (CJ N p0.fh 10 v1 a1) L7 rfl ?_
 refine FR h fun c2 h => BC (.p rfl) rfl rfl (Bw _ _ _ _ c2) rfl ?_
 refine qf Cs rfl (ql Bc rfl ?_)
 refine BD h fun v3 a3 h => Ax [] (HB N p0.fd v3 a3) Pv rfl ?_
 refine FR h fun c4 h => BC (.p rfl) rfl rfl (Bw _ _ _ _ c4) rfl ?_
 refine qa rfl (AB (by kernel_rfl) (wp rfl (qL Eb Cb rfl ?_)))
 refine BD h fun v5 a5 h => Ax [2001] (GZ N p0 v5 a5) Po rfl (Kj Ba rfl (qm rfl (Ac ?_)))
 refine Bf (L := Cj N v5) h (fun v6 => mk [(3, pD (.val (.string v6.1))), (15, oD (.own 2002)), (16, iD ((v5.length : Int))), (17, iD v6.2)] [(2002, .vec 1 (v5.map Aq))]) (fun v7 => mk [(3, pD (.val (.string v7)))] []) (fun _ _ => rfl) (sm [(2002, 2001)] _ _ rfl rfl) (fun j6 n6 v6 h => ?_) (fun v7 s h hs => ?_)
 ·unfold Cj at h
  refine wq rfl (A0 rfl (Ac (AP ?_)))
  refine Bi h (fun h => ?_) fun h => ?_
  ·refine Ap (AP (AS (wq rfl ?_)))
   refine Cg h fun v9 a9 b9 h => qI Ba Gq a9 (Ai b9) rfl (qj Fm (Ai b9) rfl (qa rfl (Ac (Ah Az rfl (qw 2 rfl ?_)))))
   refine BD h fun v10 a10 h => Ax [] (CJ N v9 10 v10 a10) L7 rfl ?_
   refine FR h fun c11 h => BC (.p rfl) rfl rfl (Bw _ _ _ _ c11) rfl ?_
   refine FR h fun c12 h => BC (.p rfl) rfl rfl (Bw _ _ _ _ c12) rfl ?_
   refine qa rfl (Ac (Ah Az rfl (Cr rfl (qm rfl (Ac ?_)))))
   exact sn [] h
  ·refine Cd ?_
   exact sn [] h
 ·refine Ag hs (wq rfl (qm rfl ?_))
  refine FR h fun c13 h => BC (.p rfl) rfl rfl (Bw _ _ _ _ c13) rfl ?_
  refine qa rfl (Ac ?_)
  obtain rfl := sj h
  refine Ag (sm [] [(2, pD (.val (.string ((v7 ++ (⟨#[10]⟩ : ByteArray))))))] [] rfl rfl) (Am ?_)
  exact ⟨⟨[_], tm, rfl⟩, tv⟩
def Ny : Go.Shelf.Ren := ⟨fun | 166 => 87 | 240 => 124 | 276 => 158 | n => n, fun | 0 => 0 | 3 => 3 | 4 => 4 | 5 => 5 | 9 => 9 | 37 => 47 | 70 => 140 | 72 => 142 | 75 => 144 | 80 => 149 | 164 => 211 | n => n, fun n => n⟩
theorem P6 : Lays.n166 uS Ny := { mixed := Az, f166 := Tryz.func87.trans (congrArg some (by kernel_rfl)), f240 := Tryz.func124.trans (congrArg some (by kernel_rfl)), f276 := Tryz.func158.trans (congrArg some (by kernel_rfl)), t0 := Tryz.underlying0, a0 := Tryz.isAgg0, z0 := Tryz.sizeOf0, v0 := Tryz.zeroValue0, t3 := Tryz.underlying3, a3 := Tryz.isAgg3, z3 := Tryz.sizeOf3, v3 := Tryz.zeroValue3, t4 := Tryz.underlying4, a4 := Tryz.isAgg4, z4 := Tryz.sizeOf4, v4 := Tryz.zeroValue4, t9 := Tryz.underlying9, a9 := Tryz.isAgg9, z9 := Tryz.sizeOf9, v9 := Tryz.zeroValue9, t20 := Tryz.underlying20, a20 := Tryz.isAgg20, z20 := Tryz.sizeOf20, v20 := Tryz.zeroValue20, t37 := Tryz.underlying47, a37 := Tryz.isAgg47, z37 := Tryz.sizeOf47, v37 := Tryz.zeroValue47, t70 := Tryz.underlying140, a70 := Tryz.isAgg140, z70 := Tryz.sizeOf140, v70 := Tryz.zeroValue140, t72 := Tryz.underlying142, a72 := Tryz.isAgg142, z72 := Tryz.sizeOf142, v72 := Tryz.zeroValue142, t75 := Tryz.underlying144, a75 := Tryz.isAgg144, z75 := Tryz.sizeOf144, v75 := Tryz.zeroValue144, t164 := Tryz.underlying211, a164 := Tryz.isAgg211, z164 := Tryz.sizeOf211, v164 := Tryz.zeroValue211 }
def Nt : Go.Shelf.Ren := ⟨fun | 169 => 90 | n => n, fun | 0 => 0 | 3 => 3 | 5 => 5 | 9 => 9 | 37 => 47 | 70 => 140 | 72 => 142 | 127 => 180 | n => n, fun n => n⟩
theorem PV : Lays.n169 uS Nt := { mixed := Az, f169 := Tryz.func90.trans (congrArg some (by kernel_rfl)), t0 := Tryz.underlying0, a0 := Tryz.isAgg0, z0 := Tryz.sizeOf0, v0 := Tryz.zeroValue0, t3 := Tryz.underlying3, a3 := Tryz.isAgg3, z3 := Tryz.sizeOf3, v3 := Tryz.zeroValue3, t9 := Tryz.underlying9, a9 := Tryz.isAgg9, z9 := Tryz.sizeOf9, v9 := Tryz.zeroValue9, t37 := Tryz.underlying47, a37 := Tryz.isAgg47, z37 := Tryz.sizeOf47, v37 := Tryz.zeroValue47, t70 := Tryz.underlying140, a70 := Tryz.isAgg140, z70 := Tryz.sizeOf140, v70 := Tryz.zeroValue140, t72 := Tryz.underlying142, a72 := Tryz.isAgg142, z72 := Tryz.sizeOf142, v72 := Tryz.zeroValue142, t127 := Tryz.underlying180, a127 := Tryz.isAgg180, z127 := Tryz.sizeOf180, v127 := Tryz.zeroValue180 }
def PS : Go.Shelf.Ren := ⟨fun | 170 => 89 | n => n, fun | 0 => 0 | 3 => 3 | 5 => 5 | 37 => 47 | 70 => 140 | 72 => 142 | n => n, fun n => n⟩
theorem PD : Lays.n170 uS PS := { mixed := Az, f170 := Tryz.func89.trans (congrArg some (by kernel_rfl)), t0 := Tryz.underlying0, a0 := Tryz.isAgg0, z0 := Tryz.sizeOf0, v0 := Tryz.zeroValue0, t3 := Tryz.underlying3, a3 := Tryz.isAgg3, z3 := Tryz.sizeOf3, v3 := Tryz.zeroValue3, t37 := Tryz.underlying47, a37 := Tryz.isAgg47, z37 := Tryz.sizeOf47, v37 := Tryz.zeroValue47, t70 := Tryz.underlying140, a70 := Tryz.isAgg140, z70 := Tryz.sizeOf140, v70 := Tryz.zeroValue140, t72 := Tryz.underlying142, a72 := Tryz.isAgg142, z72 := Tryz.sizeOf142, v72 := Tryz.zeroValue142 }
theorem Qz : Builder.Extra uS Ny where
 sizeBuilder := by kernel_rfl
 liesBuilder := by kernel_rfl
 t5 := Tryz.underlying5
 a5 := Tryz.isAgg5
 z5 := Tryz.sizeOf5
 v5 := Tryz.zeroValue5
 infoByte := by kernel_rfl
 cellsByte := by kernel_rfl
 sizeByte := by kernel_rfl
 neB5 := by decide
theorem Q0 : Builder.Extra uS Nt where
 sizeBuilder := by kernel_rfl
 liesBuilder := by kernel_rfl
 t5 := Tryz.underlying5
 a5 := Tryz.isAgg5
 z5 := Tryz.sizeOf5
 v5 := Tryz.zeroValue5
 infoByte := by kernel_rfl
 cellsByte := by kernel_rfl
 sizeByte := by kernel_rfl
 neB5 := by decide
theorem Su (B b : Nat) (bs : List Value) (s : ByteArray) (w : World) (h : Lib.IsBuilder 142 5 B b bs w) (hlen : bs.length + s.size ≤ 140737488355328) (hBw : B ≤ w.heap.size) :
  Calls uS 87 #[.pointer (some ⟨b, 0, none⟩), .string s] w fun e w' => e = .returned (.tuple #[.int .i64 s.size, .nilIface]) ∧ (Lib.BuilderAt 142 5 B b (.pointer (some ⟨b, 0, none⟩)) (bs ++ Lib.strCells s) w' ∧ Below B w w') := Any.Builder_WriteString P6 Qz B b bs s w h hlen hBw
theorem R4 (B b : Nat) (bs : List Value) (w : World) (h : Lib.IsBuilder 142 5 B b bs w) : Calls uS 89 #[.pointer (some ⟨b, 0, none⟩)] w fun e w' => e = .returned (.int .i64 bs.length) ∧ w' = w := Any.Builder_Len PD B b bs w h
theorem Sm (B b : Nat) (l : List UInt8) (w : World) (h : Lib.IsBuilder 142 5 B b (Lib.byteCells l) w) (hBw : B ≤ w.heap.size) :
  Calls uS 90 #[.pointer (some ⟨b, 0, none⟩)] w fun e w' => e = .returned (.string ⟨l.toArray⟩) ∧ Below B w w' := Any.Builder_String_any PV Q0 B b l w h hBw
def Oq (x : Aa) : Array Value := #[.int .i64 x.fh, .int .i64 x.fd, .int .i64 x.fA, .int .i64 x.fw, .int .i64 x.fB, .int .i64 x.fk, .int .i64 x.fr, .int .i64 x.fC, .int .i64 x.fy, .int .i64 x.fp, .int .i64 x.fE]
set_option maxRecDepth 1000000 in
theorem La (n : Nat) (a : Option Addr) (cap : Nat) (ve : Int) (hve : ve ≠ 0) (w : World)
  (hval : Calls uS 43 #[.slice a n cap] w fun e w' => e = .returned (.int .i64 ve) ∧ Below w.heap.size w w') :
  Calls uS 44 #[.slice a n cap] w fun e w' => e = .returned (.tuple #[.string ⟨#[]⟩, .int .i64 ve]) ∧ Below w.heap.size w w' := by
 have e43 : ∀ args w, (callFunc 43 args).run uS w = .ok (.enter 43 args) w := fun _ _ => by kernel_rfl
 have hb : (ve != 0) = true := bne_iff_ne.2 hve
 go_enter Tryz.func44, Tryz.ntmps44
 go_wp2_with (go_at_fn 43; refine hval.mono ?_; rintro e w' ⟨rfl, hw⟩)
 go_ret2
 exact ⟨rfl, hw⟩
set_option maxHeartbeats 2000000 in
set_option maxRecDepth 1000000 in
theorem Mf (ps : List Aa) (line : Aa → Option ByteArray) (a : Option Addr) (ab : Nat) (ao : Nat → Nat) (cap : Nat) (w : World) (r : ByteArray) (res : Value)
  (hval : Calls uS 43 #[.slice a ps.length cap] w fun e w' => e = .returned (.int .i64 0) ∧ Below w.heap.size w w')
  (hix : ∀ (i : Nat) x, ps[i]? = some x → ∀ W, Below w.heap.size w W → (Instr.indexAt 27 (.slice a ps.length cap) (.int .i64 (i : Int))).run uS W = .ok (.pointer (some ⟨ab, ao i, none⟩)) W ∧ ∀ (j : Nat) v, (Oq x)[j]? = some v → W.cell? ⟨ab, ao i + j, none⟩ = some v)
  (hline : ∀ x s, x ∈ ps → line x = some s → ∀ W, Below w.heap.size w W → Calls uS 88 #[.agg (Oq x)] W fun e w' => e = .returned (.string s) ∧ Below W.heap.size W w')
  (hn : ps.length ≤ 1000000) (hr : BE line ps ⟨#[]⟩ = some r) (h1 : r.size ≤ 65536 → res = .tuple #[.string r, .int .i64 0]) (h2 : 65536 < r.size → res = .tuple #[.string ⟨#[]⟩, .int .i64 3]) :
  Calls uS 44 #[.slice a ps.length cap] w fun e w' => e = .returned res ∧ Below w.heap.size w w' := by
 have e43 : ∀ args w, (callFunc 43 args).run uS w = .ok (.enter 43 args) w := fun _ _ => by kernel_rfl
 have e88 : ∀ args w, (callFunc 88 args).run uS w = .ok (.enter 88 args) w := fun _ _ => by kernel_rfl
 have e87 : ∀ args w, (callFunc 87 args).run uS w = .ok (.enter 87 args) w := fun _ _ => by kernel_rfl
 have e89 : ∀ args w, (callFunc 89 args).run uS w = .ok (.enter 89 args) w := fun _ _ => by kernel_rfl
 have e90 : ∀ args w, (callFunc 90 args).run uS w = .ok (.enter 90 args) w := fun _ _ => by kernel_rfl
 go_enter Tryz.func44, Tryz.ntmps44
 go_wp2_with (go_at_fn 43; refine hval.mono ?_; rintro e w' ⟨rfl, hw⟩)
 clear hval
 go_loopg [15] ps.length (fun g s15 wx => ∃ (q : Nat) (c : ByteArray), q + g = ps.length ∧ s15 = .int .i64 (q : Int) ∧ BE line (ps.drop q) c = some r ∧ Lib.IsBuilder 142 5 w.heap.size w'.heap.size (Lib.strCells c) wx ∧ Below w.heap.size w wx)
 case atStart =>
  refine ⟨0, ⟨#[]⟩, by omega, rfl, hr, ?_, ?_⟩
  ·obtain ⟨_, v, f1, f2, f3⟩ | ⟨_, v, f1, f2, f3⟩ := Lib.fresh_isBuilder 142 5 w'
   ·exact .inl ⟨hw.size, v, f1, f2.mono hw.size, f3⟩
   ·exact .inr ⟨hw.size, v, f1, f2.mono hw.size, f3⟩
  ·exact hw.alloc hw.size _
 case round =>
  obtain ⟨q, c, h3, rfl, h4, h5, h6⟩ := hrel
  cases gk with
  | zero =>
   have hq : q = ps.length := by omega
   subst hq
   rw [List.drop_length] at h4
   have h4 : c = r := sj h4
   subst h4
   have cLen := R4 _ _ _ wr h5
   rw [Lib.strCells_length] at cLen
   have cStr := Sm w.heap.size w'.heap.size c.data.toList wr h5 h6.size
   have hnl : ¬ ((ps.length : Int) < (ps.length : Int)) := by omega
   by_cases hs : (65536 : Int) < (c.size : Int)
   ·go_wp2_with (go_at_fn 89; refine cLen.mono ?_; rintro e W1 ⟨rfl, hW⟩; rw [hW])
    go_ret2
    exact ⟨(congrArg Ending.returned (h2 (by omega))).symm, h6⟩
   ·go_wp2_with (first | (go_at_fn 89; refine cLen.mono ?_; rintro e W1 ⟨rfl, hW⟩; rw [hW]) | (go_at_fn 90; refine cStr.mono ?_; rintro e W2 ⟨rfl, b2⟩))
    go_ret2
    exact ⟨(congrArg Ending.returned (h1 (by omega))).symm, h6.trans b2⟩
  | succ g =>
   have hql : q < ps.length := by omega
   have hx : ps[q]? = some ps[q] := by simp [hql]
   obtain ⟨i1, i2⟩ := hix q _ hx wr h6
   rw [List.drop_eq_getElem_cons hql, BE] at h4
   obtain ⟨s, hs, h4⟩ := bind_some h4
   obtain ⟨hc, h4⟩ := E8 h4
   have hnl : ((q : Int) < (ps.length : Int)) := by omega
   have c0 : wr.cell? ⟨ab, ao q, none⟩ = some (.int .i64 ps[q].fh) := i2 0 _ rfl
   have c1 : wr.cell? ⟨ab, ao q + 1, none⟩ = some (.int .i64 ps[q].fd) := i2 1 _ rfl
   have c2 : wr.cell? ⟨ab, ao q + 2, none⟩ = some (.int .i64 ps[q].fA) := i2 2 _ rfl
   have c3 : wr.cell? ⟨ab, ao q + 3, none⟩ = some (.int .i64 ps[q].fw) := i2 3 _ rfl
   have c4 : wr.cell? ⟨ab, ao q + 4, none⟩ = some (.int .i64 ps[q].fB) := i2 4 _ rfl
   have c5 : wr.cell? ⟨ab, ao q + 5, none⟩ = some (.int .i64 ps[q].fk) := i2 5 _ rfl
   have c6 : wr.cell? ⟨ab, ao q + 6, none⟩ = some (.int .i64 ps[q].fr) := i2 6 _ rfl
   have c7 : wr.cell? ⟨ab, ao q + 7, none⟩ = some (.int .i64 ps[q].fC) := i2 7 _ rfl
   have c8 : wr.cell? ⟨ab, ao q + 8, none⟩ = some (.int .i64 ps[q].fy) := i2 8 _ rfl
   have c9 : wr.cell? ⟨ab, ao q + 9, none⟩ = some (.int .i64 ps[q].fp) := i2 9 _ rfl
   have c10 : wr.cell? ⟨ab, ao q + 10, none⟩ = some (.int .i64 ps[q].fE) := i2 10 _ rfl
   clear i2 hix
   have bA : Below w.heap.size w (wr.alloc (.cells (Oq ps[q]) 37)) := h6.alloc h6.size _
   have bW : Below wr.heap.size wr (wr.alloc (.cells (Oq ps[q]) 37)) := (Below.refl _ _).alloc (zB8 _) _
   have cL := hline ps[q] s (List.getElem_mem hql) hs _ bA
   go_wp2_with (go_at_fn 88; refine cL.mono ?_; rintro e W1 ⟨rfl, b1⟩)
   have bB : Below wr.heap.size wr W1 := bW.trans (b1.mono bW.size)
   have bC : Below w.heap.size w W1 := bA.trans (b1.mono bA.size)
   have cW := Su w.heap.size w'.heap.size (Lib.strCells c) s W1 (NC h5 bB) (by rw [Lib.strCells_length]; exact hc) bC.size
   go_wp2_with (go_at_fn 87; refine cW.mono ?_; rintro e W2 ⟨rfl, h7, b2⟩)
   go_roundg g
   case measure => omega
   case rel =>
    refine ⟨q + 1, c ++ s, by omega, ?_, h4, .inr ?_, bC.trans b2⟩
    ·rfl
    ·have e : Lib.strCells (c ++ s) = Lib.strCells c ++ Lib.strCells s := by
      rw [Lib.strCells_eq, Lib.strCells_eq, Lib.strCells_eq, ← Lib.byteCells_append, ByteArray.data_append, Array.toList_append]
     rw [e]; exact h7
theorem Od {w : World} {S : Nat → Prop} (x : Aa) : Ea uS w (G0 S) (.agg (Oq x)) (.e (.agg ((Ay x).map C.pure))) := by
 refine ⟨Oq x, rfl, rfl, fun j c hj => ?_⟩
 match j, hj with
 | 0, hj | 1, hj | 2, hj | 3, hj | 4, hj | 5, hj | 6, hj | 7, hj | 8, hj | 9, hj | 10, hj => cases hj; exact Bo.val _ rfl
 | j + 11, hj => simp [Ay] at hj
theorem IK (N : Nat) (p0 : List Aa) (r : ByteArray × Int) (h : Dw N p0 = some r) : Ak uS 44 [pD (.sl (p0.map Ay))] [] (.tup [.one (.pure (.val (.string r.1))), .one (iC r.2)]) := by
 intro w S vs hS hgk hlen hrd
 have h0 : Bo w S (Al vs 0) (.sl (p0.map Ay)) := hrd 0 _ rfl
 have hvs : vs = #[Al vs 0] := by
  have h2 : vs.size = 1 := hlen
  apply Array.ext (by simp [h2])
  intro i h1 _
  have : i = 0 := by omega
  subst this; simp [Al, h1]
 obtain ⟨hn, h⟩ := E8 h
 obtain ⟨ve, hve, h⟩ := bind_some h
 -- the result, from its two cells
 have fin : ∀ {e : Ending} {w' : World}, e = .returned (.tuple #[.string r.1, .int .i64 r.2]) ∧ Below w.heap.size w w' → ∃ v G', e = .returned v ∧ NO w.heap.size w w' ∧ (∀ β, S β → G'.S β) ∧ (∀ β, G'.S β → S β ∨ (w.heap.size ≤ β ∧ β < w'.heap.size)) ∧ Ea uS w' G' v (.tup [.one (.pure (.val (.string r.1))), .one (iC r.2)]) ∧
   (∀ (k : Nat) (x : Nat × List (List T)), ([] : List (Nat × List (List T)))[k]? = some x → CG uS w' G' k (.vec x.1 x.2)) ∧
   (∀ k β, k < ([] : List (Nat × List (List T))).length → G'.has k β → w.heap.size ≤ β ∧ β < w'.heap.size ∧ ¬ G'.S β) ∧
   (∀ k l β, k < ([] : List (Nat × List (List T))).length → l < ([] : List (Nat × List (List T))).length → G'.has k β → G'.has l β → k = l) := by
  rintro e w' ⟨rfl, hb⟩
  refine ⟨_, G0 S, rfl, ⟨hb, fun h => by cases h⟩, fun _ h => h, fun _ h => .inl h, ⟨#[.string r.1, .int .i64 r.2], rfl, rfl, fun j x hj => ?_⟩, fun i x hi => by simp at hi, fun i β hi => by simp at hi, fun i l β hi => by simp at hi⟩
  match j, hj with
  | 0, hj => cases hj; exact Bo.val _ rfl
  | 1, hj => cases hj; exact Bo.val _ rfl
  | j + 2, hj => simp at hj
 rw [hvs]
 -- the call of Valid
 have cV : Calls uS 43 #[Al vs 0] w fun e w' => e = .returned (.int .i64 ve) ∧ Below w.heap.size w w' := by
  refine (Ex N p0 ve hve w S #[Al vs 0] hS hgk rfl (fun j d hj => ?_)).mono ?_
  ·match j, hj with
   | 0, hj => cases hj; exact h0
   | j + 1, hj => simp at hj
  ·rintro e w' ⟨v, G', rfl, hb, _, _, hv, _⟩
   have : v = .int .i64 ve := BB (hv : Bo w' G'.S v (.val _))
   exact ⟨by rw [this], hb.toBelow⟩
 have hl : ∀ x s, x ∈ p0 → Ch N x = some s → ∀ W, Below w.heap.size w W → Calls uS 88 #[.agg (Oq x)] W fun e w' => e = .returned (.string s) ∧ Below W.heap.size W w' := by
  intro x s _ hs W hW
  refine (Kx N x s hs W S #[.agg (Oq x)] (fun β hβ => Nat.lt_of_lt_of_le (hS β hβ) hW.size) (hgk.mono (fun β hβ => hW.block β (hS β hβ)) (fun _ h => h)) rfl (fun j d hj => ?_)).mono ?_
  ·match j, hj with
   | 0, hj => cases hj; exact Od x
   | j + 1, hj => simp at hj
  ·rintro e w' ⟨v, G', rfl, hb, _, _, hv, _⟩
   have : v = .string s := BB (hv : Bo w' G'.S v (.val _))
   exact ⟨by rw [this], hb.toBelow⟩
 generalize hv0 : Al vs 0 = v0 at h0 cV
 obtain ⟨rows, hrows⟩ : ∃ rows, p0.map Ay = rows := ⟨_, rfl⟩
 rw [hrows] at h0
 have hrl : rows.length = p0.length := by rw [← hrows, vG]
 by_cases hz : ve = 0
 ·subst hz
  have h := Mc rfl h
  obtain ⟨s, hs, h⟩ := bind_some h
  have r1 : s.size ≤ 65536 → (Value.tuple #[.string r.1, .int .i64 r.2] : Value) = .tuple #[.string s, .int .i64 0] := fun hq => by
   have h := Mc (decide_eq_false (by omega)) h; cases h; rfl
  have r2 : 65536 < s.size → (Value.tuple #[.string r.1, .int .i64 r.2] : Value) = .tuple #[.string ⟨#[]⟩, .int .i64 3] := fun hq => by
   have h := Mt (decide_eq_true hq) h; cases h; rfl
  cases h0 with
  | nil a cap =>
   obtain rfl := zB3.1 hrows
   exact (Mf [] (fun x => Ch N x) a 0 (fun _ => 0) cap w s _ cV (fun i x hx => by simp at hx) (fun x s hx => by cases hx) (Nat.zero_le _) hs r1 r2).mono fun e w' hh => fin hh
  | sl β off cap e arr el fz rows k1 k2 k3 k4 k5 k6 =>
   rw [hrl] at cV ⊢
   refine (Mf p0 (fun x => Ch N x) (some ⟨β, off, none⟩) β (fun i => off + i * 11) cap w s _ cV (fun i x hx W hW => ?_) hl hn hs r1 r2).mono fun e w' hh => fin hh
   have hrow : rows[i]? = some (Ay x) := by rw [← hrows, uX, hx]; rfl
   have he : e = 11 := (k5 i _ hrow).symm
   subst he
   have hil : i < p0.length := Ar hx
   have hbnd : i * 11 + 11 ≤ p0.length * 11 := by omega
   rw [hrl] at k4
   refine ⟨GK CH Cb (by omega) (by simpa using hil), fun j v hj => ?_⟩
   have hWb : W.heap[β]? = some (.cells arr el fz) := by rw [hW.block β (hS β k1)]; exact k2
   have hjt : (Ay x)[j]? = some (.val v) ∧ j < 11 := by
    match j, hj with
    | 0, hj | 1, hj | 2, hj | 3, hj | 4, hj | 5, hj | 6, hj | 7, hj | 8, hj | 9, hj | 10, hj => cases hj; exact ⟨rfl, by decide⟩
    | j + 11, hj => simp [Oq] at hj
   have hv : Al arr (off + i * 11 + j) = v := BB (k6 i _ j _ hrow hjt.1)
   have hjl := hjt.2
   simp only [World.cell?, hWb]
   rw [Fl (by omega), hv]; rfl
 ·have hb : (ve != 0) = true := bne_iff_ne.2 hz
  have h := Mt hb h
  cases h
  cases h0 with
  | nil a cap => exact (La _ a cap ve hz w cV).mono fun e w' hh => fin hh
  | sl β off cap e arr el fz rows k1 k2 k3 k4 k5 k6 => exact (La _ _ cap ve hz w cV).mono fun e w' hh => fin hh
theorem Kr (N : Nat) (p0 : Int) (r : ByteArray) (h : Dl N p0 = some r) : Ak uS 45 [iD p0] [] (pD (.val (.string r))) := by
 unfold Dl at h
 refine cw (n := 7) (rs := [.tmp 2]) Tryz.func45 fun w0 S0 => ?_
 refine wq rfl (qa rfl (Ac (wq rfl (ER Kc Ph Sn rfl (qm rfl ?_)))))
 refine Cg h fun v1 a1 b1 h => Jl (.p rfl) rfl rfl rfl Kc Ph a1 (Ai (f := eS) b1) ?_
 refine I7 (.p rfl) rfl RN rfl (Ai (f := eS) b1) rfl ?_
 refine qa rfl (Ac ?_)
 obtain rfl := sj h
 refine Ag (sm [] [(2, pD (.val (.string v1)))] [] rfl rfl) (Am ?_)
 exact ⟨⟨[_], tm, rfl⟩, tv⟩
def M3 : Go.Shelf.Ren := ⟨fun | 129 => 182 | 171 => 46 | 243 => 91 | 246 => 126 | 283 => 159 | 284 => 160 | 285 => 161 | 286 => 162 | 317 => 181 | 318 => 183 | 319 => 184 | 320 => 185 | 337 => 194 | 338 => 195 | n => n, fun | 0 => 0 | 2 => 2 | 3 => 3 | 4 => 4 | 5 => 5 | 9 => 9 | 20 => 20 | 37 => 47 | 46 => 234 | 51 => 242 | 53 => 214 | 171 => 213 | 173 => 217 | 212 => 241 | 213 => 243 | 232 => 261 | 233 => 262 | n => n, fun | 17 => 0 | 18 => 1 | 19 => 2 | n => n⟩
theorem PR : LaysM.n171 uS M3 := { mixed := Az, f129 := Tryz.func182.trans (congrArg some (by kernel_rfl)), f171 := Tryz.func46.trans (congrArg some (by kernel_rfl)), f243 := Tryz.func91.trans (congrArg some (by kernel_rfl)), f246 := Tryz.func126.trans (congrArg some (by kernel_rfl)), f283 := Tryz.func159.trans (congrArg some (by kernel_rfl)), f284 := Tryz.func160.trans (congrArg some (by kernel_rfl)), f285 := Tryz.func161.trans (congrArg some (by kernel_rfl)), f286 := Tryz.func162.trans (congrArg some (by kernel_rfl)), f317 := Tryz.func181.trans (congrArg some (by kernel_rfl)), f318 := Tryz.func183.trans (congrArg some (by kernel_rfl)), f319 := Tryz.func184.trans (congrArg some (by kernel_rfl)), f320 := Tryz.func185.trans (congrArg some (by kernel_rfl)), f337 := Tryz.func194.trans (congrArg some (by kernel_rfl)), f338 := Tryz.func195.trans (congrArg some (by kernel_rfl)), t0 := Tryz.underlying0, a0 := Tryz.isAgg0, z0 := Tryz.sizeOf0, v0 := Tryz.zeroValue0, t2 := Tryz.underlying2, a2 := Tryz.isAgg2, z2 := Tryz.sizeOf2, v2 := Tryz.zeroValue2, t3 := Tryz.underlying3, a3 := Tryz.isAgg3, z3 := Tryz.sizeOf3, v3 := Tryz.zeroValue3, t4 := Tryz.underlying4, a4 := Tryz.isAgg4, z4 := Tryz.sizeOf4, v4 := Tryz.zeroValue4, t5 := Tryz.underlying5, a5 := Tryz.isAgg5, z5 := Tryz.sizeOf5, v5 := Tryz.zeroValue5, t9 := Tryz.underlying9, a9 := Tryz.isAgg9, z9 := Tryz.sizeOf9, v9 := Tryz.zeroValue9, t20 := Tryz.underlying20, a20 := Tryz.isAgg20, z20 := Tryz.sizeOf20, v20 := Tryz.zeroValue20, t37 := Tryz.underlying47, a37 := Tryz.isAgg47, z37 := Tryz.sizeOf47, v37 := Tryz.zeroValue47, t46 := Tryz.underlying234, a46 := Tryz.isAgg234, z46 := Tryz.sizeOf234, v46 := Tryz.zeroValue234, t51 := Tryz.underlying242, a51 := Tryz.isAgg242, z51 := Tryz.sizeOf242, v51 := Tryz.zeroValue242, t53 := Tryz.underlying214, a53 := Tryz.isAgg214, z53 := Tryz.sizeOf214, v53 := Tryz.zeroValue214, t171 := Tryz.underlying213, a171 := Tryz.isAgg213, z171 := Tryz.sizeOf213, v171 := Tryz.zeroValue213, t173 := Tryz.underlying217, a173 := Tryz.isAgg217, z173 := Tryz.sizeOf217, v173 := Tryz.zeroValue217, t212 := Tryz.underlying241, a212 := Tryz.isAgg241, z212 := Tryz.sizeOf241, v212 := Tryz.zeroValue241, t213 := Tryz.underlying243, a213 := Tryz.isAgg243, z213 := Tryz.sizeOf243, t232 := Tryz.underlying261, a232 := Tryz.isAgg261, z232 := Tryz.sizeOf261, v232 := Tryz.zeroValue261, t233 := Tryz.underlying262, a233 := Tryz.isAgg262, z233 := Tryz.sizeOf262, v233 := Tryz.zeroValue262, g17 := by kernel_rfl, g18 := by kernel_rfl, g19 := by kernel_rfl, i0 := by kernel_rfl, i2 := by kernel_rfl, i3 := by kernel_rfl, i4 := by kernel_rfl, i5 := by kernel_rfl, i9 := by kernel_rfl, i20 := by kernel_rfl, i37 := by kernel_rfl, i46 := by kernel_rfl, i51 := by kernel_rfl, i53 := by kernel_rfl, i171 := by kernel_rfl, i173 := by kernel_rfl, i212 := by kernel_rfl, i232 := by kernel_rfl, i233 := by kernel_rfl, m17 := by kernel_rfl, m18 := by kernel_rfl, m19 := by kernel_rfl }
theorem IV (N : Nat) (p0 : Int) (r : ByteArray) (h : EG N p0 = some r) : Ak uS 46 [iD p0] [] (pD (.val (.string r))) := PX PR (g := M3.g 17) (by kernel_rfl) h
theorem DR (N : Nat) (p0 : ByteArray) (p1 : ByteArray) (r : Bool) (h : A4 N p0 p1 = some r) : Ak uS 127 [pD (.val (.string p0)), pD (.val (.string p1))] [] (bD r) := by
 unfold A4 at h
 refine cw (n := 21) (rs := [.tmp 4]) Tryz.func127 fun w0 S0 => ?_
 refine wq rfl (qe rfl ?_)
 refine AD h (fun v1 => mk [(4, bD v1)] []) (fun j1 h => ?_) (fun v1 h => ?_)
 ·refine Ah Az rfl (qm rfl ?_)
  refine GF (.p rfl) rfl HW ?_
  refine qm rfl ?_
  refine GF (.p rfl) rfl HW ?_
  refine Eh rfl (qm rfl ?_)
  refine Dc 10 h rfl (fun h => ?_) fun h => ?_
  ·refine qw 2 rfl ?_
   refine GF (.g rfl rfl) rfl HW ?_
   refine qm rfl ?_
   refine GF (.g rfl rfl) rfl HW ?_
   refine HL rfl ?_
   refine FR h fun c3 h => IZ (.g rfl rfl) rfl HW (.some _ _ _ _ c3.1) (.none _) ⟨rfl, tv⟩ tv c3.2.1 c3.2.2 ?_
   refine qm rfl ?_
   refine BC (.g rfl rfl) rfl rfl (Hz _ _ _ _) rfl ?_
   refine qp rfl (qe rfl ?_)
   exact sn [] h
  ·refine qw 9 rfl (qp rfl (qe rfl ?_))
   exact sn [] h
 ·obtain rfl := sj h
  refine Ag (sm [] [(4, bD v1)] [] rfl rfl) (Am ?_)
  exact ⟨⟨[_], tm, rfl⟩, tv⟩
theorem DK (N : Nat) (p0 : ByteArray) (p1 : ByteArray) (r : ByteArray) (h : A1 N p0 p1 = some r) : Ak uS 92 [pD (.val (.string p0)), pD (.val (.string p1))] [] (pD (.val (.string r))) := by
 unfold A1 at h
 refine cw (n := 16) (rs := [.tmp 4]) Tryz.func92 fun w0 S0 => ?_
 refine wq rfl (qa rfl (Ac (wp rfl (qw 2 rfl ?_))))
 refine BD h fun v1 a1 h => Ax [] (DR N p0 p1 v1 a1) Rk rfl (Ac ?_)
 refine Bi h (fun h => ?_) fun h => ?_
 ·refine wq rfl (qw 2 rfl ?_)
  refine GF (.p rfl) rfl HW ?_
  refine qm rfl ?_
  refine GF (.p rfl) rfl HW ?_
  refine HL rfl ?_
  refine FR h fun c3 h => IZ (.p rfl) rfl HW (.none _) (.some _ _ _ _ c3.1) tv ⟨rfl, tv⟩ c3.2.1 c3.2.2 ?_
  refine qa rfl (Ac ?_)
  obtain rfl := sj h
  refine Ag (sm [] [(4, pD (.val (.string ((p0.extract 0 (((wI .i64 ((p0.size : Int) - (p1.size : Int)))).toNat))))))] [] rfl rfl) (Am ?_)
  exact ⟨⟨[_], tm, rfl⟩, tv⟩
 ·refine Ap (wq rfl (qm rfl (qe rfl ?_)))
  obtain rfl := sj h
  refine Ag (sm [] [(4, pD (.val (.string p0)))] [] rfl rfl) (Am ?_)
  exact ⟨⟨[_], tm, rfl⟩, tv⟩
theorem Gx (N : Nat) (p0 : ByteArray) (p1 : ByteArray) (r : ByteArray) (h : BQ N p0 p1 = some r) : Ak uS 47 [pD (.val (.string p0)), pD (.val (.string p1))] [] (pD (.val (.string r))) := by
 unfold BQ at h
 refine cw (n := 8) (rs := [.tmp 4]) Tryz.func47 fun w0 S0 => ?_
 refine wq rfl (qa rfl (Ac (wq rfl (qw 2 rfl ?_))))
 refine BD h fun v1 a1 h => Ax [] (DK N p0 p1 v1 a1) RY rfl (qe rfl ?_)
 obtain rfl := sj h
 refine Ag (sm [] [(4, pD (.val (.string v1)))] [] rfl rfl) (Am ?_)
 exact ⟨⟨[_], tm, rfl⟩, tv⟩
theorem Gw (N : Nat) (p0 : List Aa) (p1 : Int) (p2 : Int) (r : ByteArray × Int) (h : Cz N p0 p1 p2 = some r) : Ak uS 19 [pD (.sl (p0.map Ay)), iD p1, iD p2] [] (.tup [.one (.pure (.val (.string r.1))), .one (iC r.2)]) := by
 unfold Cz at h
 refine cw (n := 54) (rs := [.tmp 6, .tmp 7]) Tryz.func19 fun w0 S0 => ?_
 refine wq rfl (qa rfl (qa rfl (Ac (wp rfl (qm rfl ?_)))))
 refine BD h fun v1 a1 h => Ax [] (Ex N p0 v1 a1) P2 rfl (qa rfl (Ac (wq rfl (qm rfl (Co rfl (Ac ?_))))))
 refine Bi h (fun h => ?_) fun h => ?_
 ·refine wq rfl (qm rfl (qa rfl (qe rfl ?_)))
  obtain rfl := sj h
  refine Ag (sm [] [(6, pD (.val (.string ((⟨#[]⟩ : ByteArray))))), (7, iD v1)] [] rfl rfl) (Am ?_)
  exact ⟨⟨[_, _], ⟨.tmp _ _ rfl, tm⟩, rfl⟩, tv⟩
 ·refine Ap (AP (AS ?_))
  refine AD h (fun v3 => mk [(0, pD (.sl (p0.map Ay))), (1, iD p1), (2, iD p2), (16, bD v3)] []) (fun j3 h => ?_) (fun v3 h => ?_)
  ·refine Ah Az rfl (qm rfl (A0 rfl (qm rfl ?_)))
   refine Dc 19 h rfl (fun h => ?_) fun h => ?_
   ·refine qw 4 rfl (qp rfl (qe rfl ?_))
    exact sn [] h
   ·refine qw 2 rfl (AM CH rfl (Eh rfl (qp rfl (qe rfl ?_))))
    exact sn [] h
  ·refine Bi h (fun h => ?_) fun h => ?_
   ·refine wq rfl (qa rfl (qe rfl ?_))
    obtain rfl := sj h
    refine Ag (sm [] [(6, pD (.val (.string ((⟨#[]⟩ : ByteArray))))), (7, iD 7)] [] rfl rfl) (Am ?_)
    exact ⟨⟨[_, _], ⟨.tmp _ _ rfl, tm⟩, rfl⟩, tv⟩
   ·refine AD h (fun v6 => mk [(0, pD (.sl (p0.map Ay))), (1, iD p1), (2, iD p2), (25, bD v6)] []) (fun j6 h => ?_) (fun v6 h => ?_)
    ·refine Ah Az rfl (qm rfl (A0 rfl (qm rfl ?_)))
     refine Dc 28 h rfl (fun h => ?_) fun h => ?_
     ·refine qw 2 rfl (qp rfl (qe rfl ?_))
      exact sn [] h
     ·refine qm rfl (Eg rfl (qp rfl (qe rfl ?_)))
      exact sn [] h
    ·refine Bi h (fun h => ?_) fun h => ?_
     ·refine wq rfl (qa rfl (qe rfl ?_))
      obtain rfl := sj h
      refine Ag (sm [] [(6, pD (.val (.string ((⟨#[]⟩ : ByteArray))))), (7, iD 1)] [] rfl rfl) (Am ?_)
      exact ⟨⟨[_, _], ⟨.tmp _ _ rfl, tm⟩, rfl⟩, tv⟩
     ·refine Ap (wq rfl (qw 3 rfl (Cr rfl ?_)))
      refine FR h fun c9 h => IE (.p rfl) rfl CH Cb (FM (f := Ay) (n := 11) (fun _ => rfl) _) (.some _ _ _ _ c9.1) (.some _ _ _ _ c9.2.1) ⟨rfl, tv⟩ ⟨rfl, tv⟩ (by have := c9.2.2.1; (try simp only [vG]); omega) (by have := c9.2.2.2; (try simp only [vG]); omega) (Hy Ay p0 _ _ (((wI .i64 (p1 + 1))).toNat - (p1).toNat) rfl) ?_
      refine BD h fun v10 a10 h => Ax [] (IK N (((p0.drop (p1).toNat).take (((wI .i64 (p1 + 1))).toNat - (p1).toNat))) v10 a10) RW rfl (qm rfl (qx rfl (qx rfl (qa rfl (qa rfl (Ac (wp rfl (qm rfl (Co rfl (Ac ?_))))))))))
      refine Bi h (fun h => ?_) fun h => ?_
      ·refine wq rfl (qm rfl (qa rfl (qe rfl ?_)))
       obtain rfl := sj h
       refine Ag (sm [] [(6, pD (.val (.string ((⟨#[]⟩ : ByteArray))))), (7, iD v10.2)] [] rfl rfl) (Am ?_)
       exact ⟨⟨[_, _], ⟨.tmp _ _ rfl, tm⟩, rfl⟩, tv⟩
      ·refine Ap (wq rfl (qm rfl ?_))
       refine BD h fun v12 a12 h => Ax [] (Kr N p2 v12 a12) R1 rfl ?_
       refine FR h fun c13 h => BC (.p rfl) rfl rfl (Bw _ _ _ _ c13) rfl ?_
       refine qm rfl ?_
       refine BD h fun v14 a14 h => Ax [] (IV N p1 v14 a14) So rfl ?_
       refine FR h fun c15 h => BC (.p rfl) rfl rfl (Bw _ _ _ _ c15) rfl ?_
       refine FR h fun c16 h => BC (.p rfl) rfl rfl (Bw _ _ _ _ c16) rfl ?_
       refine qm rfl ?_
       refine BD h fun v17 a17 h => Ax [] (Gx N v10.1 ((⟨#[10]⟩ : ByteArray)) v17 a17) R3 rfl ?_
       refine FR h fun c18 h => BC (.p rfl) rfl rfl (Bw _ _ _ _ c18) rfl ?_
       refine qa rfl (qe rfl ?_)
       obtain rfl := sj h
       refine Ag (sm [] [(6, pD (.val (.string (((((v12 ++ (⟨#[32]⟩ : ByteArray)) ++ v14) ++ (⟨#[58, 32]⟩ : ByteArray)) ++ v17))))), (7, iD 0)] [] rfl rfl) (Am ?_)
       exact ⟨⟨[_, _], ⟨.tmp _ _ rfl, tm⟩, rfl⟩, tv⟩
theorem EM (N : Nat) (r : Bool) (h : B0 N = some r) : Ak uS 11 [] [] (bD r) := by
 unfold B0 at h
 refine cw (n := 97) (rs := [.tmp 0]) Tryz.func11 fun w0 S0 => ?_
 refine wq rfl (qa rfl (Ac (wq rfl (ER AL Da N6 rfl (ER AL Da N6 rfl (ER AL Da N6 rfl (BA Qt RU rfl (qz Qt rfl (qs D1 rfl (Ac (wq rfl (BA MP PM rfl (BA MP PM rfl (ER HK F2 MP rfl (qa rfl (Ac (wq rfl (BA Hd MW rfl (BA Hd MW rfl (BA Hd MW rfl (BA Hd MW rfl (ER CH Cb Hd rfl (qa rfl (Ac (AP (Ag (BX 25 _ _ rfl rfl) (Ah Az rfl (qL Ed D1 rfl (ER AL Da N6 rfl (qw 2 rfl ?_))))))))))))))))))))))))))))))
 refine FR h fun c1 h => IE (rows := (([(Aa.mk 0 7 0 0 0 0 1 0 0 0 0), (Aa.mk 0 2 0 0 0 0 1 0 0 0 0), (Aa.mk 1 6 0 0 0 0 0 1 0 1 0), (Aa.mk 2 3 0 0 0 1 1 0 0 0 0)] : List Aa)).map Ay) (.p rfl) rfl CH Cb (FM (f := Ay) (n := 11) (fun _ => rfl) _) (.none _) (.some _ _ _ _ c1.1) tv ⟨rfl, tv⟩ (by have := c1.2.1; (try simp only [vG]); omega) (by have := c1.2.2; (try simp only [vG]); omega) (Hy Ay (([(Aa.mk 0 7 0 0 0 0 1 0 0 0 0), (Aa.mk 0 2 0 0 0 0 1 0 0 0 0), (Aa.mk 1 6 0 0 0 0 0 1 0 1 0), (Aa.mk 2 3 0 0 0 1 1 0 0 0 0)] : List Aa)) _ _ ((3 : Int).toNat - 0) rfl) ?_
 refine BD h fun v2 a2 h => Fp [] [14, 15, 16, 28, 20] (Hm N ((Ad.mk (([2] : List Int)) (([0] : List Int)) (([1] : List Int)) (([] : List AU)))) (([1] : List Int)) (([(Au.mk 1 0 1), (Au.mk 2 0 0)] : List Au)) ((((([(Aa.mk 0 7 0 0 0 0 1 0 0 0 0), (Aa.mk 0 2 0 0 0 0 1 0 0 0 0), (Aa.mk 1 6 0 0 0 0 0 1 0 1 0), (Aa.mk 2 3 0 0 0 1 1 0 0 0 0)] : List Aa)).drop 0).take ((3 : Int).toNat - 0))) v2 a2) Rd DI rfl (qm rfl (qx rfl (qx rfl (qx rfl (qa rfl (qa rfl (qa rfl (AB (by kernel_rfl) (AP (Ag (BX 14 _ _ rfl rfl) (Ag (BX 15 _ _ rfl rfl) (Ag (BX 16 _ _ rfl rfl) (Ag (BX 20 _ _ rfl rfl) (Ah Az rfl (qL Ed D1 rfl (qw 2 rfl ?_))))))))))))))))
 refine FR h fun c3 h => IE (rows := (([(Aa.mk 0 7 0 0 0 0 1 0 0 0 0), (Aa.mk 0 2 0 0 0 0 1 0 0 0 0), (Aa.mk 1 6 0 0 0 0 0 1 0 1 0), (Aa.mk 2 3 0 0 0 1 1 0 0 0 0)] : List Aa)).map Ay) (.p rfl) rfl CH Cb (FM (f := Ay) (n := 11) (fun _ => rfl) _) (.none _) (.some _ _ _ _ c3.1) tv ⟨rfl, tv⟩ (by have := c3.2.1; (try simp only [vG]); omega) (by have := c3.2.2; (try simp only [vG]); omega) (Hy Ay (([(Aa.mk 0 7 0 0 0 0 1 0 0 0 0), (Aa.mk 0 2 0 0 0 0 1 0 0 0 0), (Aa.mk 1 6 0 0 0 0 0 1 0 1 0), (Aa.mk 2 3 0 0 0 1 1 0 0 0 0)] : List Aa)) _ _ ((3 : Int).toNat - 0) rfl) ?_
 refine BD h fun v4 a4 h => Ax [] (K0 N ((Ad.mk (([2] : List Int)) (([0] : List Int)) (([1] : List Int)) (([] : List AU)))) (([(Au.mk 1 0 1), (Au.mk 2 0 0)] : List Au)) ((((([(Aa.mk 0 7 0 0 0 0 1 0 0 0 0), (Aa.mk 0 2 0 0 0 0 1 0 0 0 0), (Aa.mk 1 6 0 0 0 0 0 1 0 1 0), (Aa.mk 2 3 0 0 0 1 1 0 0 0 0)] : List Aa)).drop 0).take ((3 : Int).toNat - 0))) v4 a4) Sa rfl (qm rfl (qx rfl (qx rfl (qz DM rfl (qs A2 rfl (qa rfl (AB (by kernel_rfl) (wq rfl (qL Ed D1 rfl (ER AL Da N6 rfl (qw 2 rfl ?_)))))))))))
 refine BD h fun v5 a5 h => Fp [] [46] (Hm N ((Ad.mk (([2] : List Int)) (([0] : List Int)) (([1] : List Int)) (([] : List AU)))) (([1] : List Int)) (([(Au.mk 1 0 1), (Au.mk 2 0 0)] : List Au)) (([(Aa.mk 0 7 0 0 0 0 1 0 0 0 0), (Aa.mk 0 2 0 0 0 0 1 0 0 0 0), (Aa.mk 1 6 0 0 0 0 0 1 0 1 0), (Aa.mk 2 3 0 0 0 1 1 0 0 0 0)] : List Aa)) v5 a5) Rd DI rfl (qm rfl (qx rfl (qx rfl (qx rfl (qa rfl (qa rfl (qa rfl (Ac (wq rfl (qm rfl ?_))))))))))
 refine BD h fun v6 a6 h => Ax [] (Gw N (([(Aa.mk 0 7 0 0 0 0 1 0 0 0 0), (Aa.mk 0 2 0 0 0 0 1 0 0 0 0), (Aa.mk 1 6 0 0 0 0 0 1 0 1 0), (Aa.mk 2 3 0 0 0 1 1 0 0 0 0)] : List Aa)) 3 2 v6 a6) Rp rfl (qm rfl (qx rfl (qx rfl (qa rfl (qe rfl ?_)))))
 refine AD h (fun v7 => mk [(0, bD v7)] []) (fun j7 h => ?_) (fun v7 h => ?_)
 ·refine Ah Az rfl (qm rfl (AJ rfl (qm rfl ?_)))
  refine Dc 60 h rfl (fun h => ?_) fun h => ?_
  ·refine qm rfl (AJ rfl (qp rfl (qm rfl ?_)))
   refine Dc 64 h rfl (fun h => ?_) fun h => ?_
   ·refine qm rfl (AJ rfl (qp rfl (qm rfl ?_)))
    refine Dc 68 h rfl (fun h => ?_) fun h => ?_
    ·refine qm rfl (AJ rfl (qp rfl (qm rfl ?_)))
     refine Dc 72 h rfl (fun h => ?_) fun h => ?_
     ·refine qf CK rfl (ql Cl rfl (AM AL rfl (AJ rfl (qp rfl (qm rfl ?_)))))
      refine Dc 78 h rfl (fun h => ?_) fun h => ?_
      ·refine qf CK rfl (ql Cl rfl ?_)
       refine Cg h fun v13 a13 b13 h => qi AL Da a13 (Ai b13) rfl (qk Bc rfl (AJ rfl (qp rfl (qm rfl ?_))))
       refine Dc 85 h rfl (fun h => ?_) fun h => ?_
       ·refine qm rfl (AJ rfl (qp rfl (qm rfl ?_)))
        refine Dc 89 h rfl (fun h => ?_) fun h => ?_
        ·refine qm rfl (AJ rfl (qp rfl (qm rfl ?_)))
         refine Dc 93 h rfl (fun h => ?_) fun h => ?_
         ·refine qm rfl ?_
          refine BC (.g rfl rfl) rfl rfl (Hz _ _ _ _) rfl ?_
          refine qp rfl (qe rfl ?_)
          exact sn [] h
         ·refine qw 2 rfl (qp rfl (qe rfl ?_))
          exact sn [] h
        ·refine qw 2 rfl (qp rfl (qw 3 rfl (qp rfl (qe rfl ?_))))
         exact sn [] h
       ·refine qw 2 rfl (qp rfl (qw 3 rfl (qp rfl (qw 3 rfl (qp rfl (qe rfl ?_))))))
        exact sn [] h
      ·refine qw 5 rfl (qp rfl (qw 3 rfl (qp rfl (qw 3 rfl (qp rfl (qw 3 rfl (qp rfl (qe rfl ?_))))))))
       exact sn [] h
     ·refine qw 4 rfl (qp rfl (qw 6 rfl (qp rfl (qw 3 rfl (qp rfl (qw 3 rfl (qp rfl (qw 3 rfl (qp rfl (qe rfl ?_))))))))))
      exact sn [] h
    ·refine qw 2 rfl (qp rfl (qw 5 rfl (qp rfl (qw 6 rfl (qp rfl (qw 3 rfl (qp rfl (qw 3 rfl (qp rfl (qw 3 rfl (qp rfl (qe rfl ?_))))))))))))
     exact sn [] h
   ·refine qw 2 rfl (qp rfl (qw 3 rfl (qp rfl (qw 5 rfl (qp rfl (qw 6 rfl (qp rfl (qw 3 rfl (qp rfl (qw 3 rfl (qp rfl (qw 3 rfl (qp rfl (qe rfl ?_))))))))))))))
    exact sn [] h
  ·refine qw 2 rfl (qp rfl (qw 3 rfl (qp rfl (qw 3 rfl (qp rfl (qw 5 rfl (qp rfl (qw 6 rfl (qp rfl (qw 3 rfl (qp rfl (qw 3 rfl (qp rfl (qw 3 rfl (qp rfl (qe rfl ?_))))))))))))))))
   exact sn [] h
 ·obtain rfl := sj h
  refine Ag (sm [] [(0, bD v7)] [] rfl rfl) (Am ?_)
  exact ⟨⟨[_], tm, rfl⟩, tv⟩
theorem Dz (N : Nat) (p0 : List Aa) (r : (List Aa)) (h : AQ N p0 = some r) : Ak uS 14 [pD (.sl (p0.map Ay))] [(11, r.map Ay)] (oD (.own 0)) := by
 unfold AQ at h
 refine cw (n := 8) (rs := [.tmp 2]) Tryz.func14 fun w0 S0 => ?_
 refine wq rfl (qa rfl (Ac (wp rfl (qm rfl ?_))))
 refine KF (.p rfl) rfl CH ?_
 refine Ac ?_
 refine Ks rfl (fun c2 => ?_) ?_
 ·have c2 := zB3.1 c2
  rw [c2] at h
  have h : (some (([] : List Aa))) = some r := h
  refine wq rfl (qe rfl ?_)
  obtain rfl := sj h
  refine Ag ((Fe 2 2001 11 rfl rfl rfl).trans (sm [(1000, 2001)] [(2, oD (.own 1000))] [(1000, .vec 11 ((([] : List Aa)).map Ay))] rfl rfl)) (Am ?_)
  exact ⟨⟨[_], tm, rfl⟩, ⟨rfl, tv⟩⟩
 ·refine Ap (wq rfl (ER CH Cb Hd rfl (qm rfl ?_)))
  refine FR h fun c1 h => LG (f := Ay) CH CH Cb QK Hd (fun _ => rfl) c1 rfl (qe rfl ?_)
  obtain rfl := sj h
  refine Ag (sm [(1000, 7)] [(2, oD (.own 1000))] [(1000, .vec 11 (((([] : List Aa)) ++ p0).map Ay))] rfl rfl) (Am ?_)
  exact ⟨⟨[_], tm, rfl⟩, ⟨rfl, tv⟩⟩
theorem EE (N : Nat) (p0 : Aa) (r : (List Int)) (h : A7 N p0 = some r) : Ak uS 106 [.e (.agg (AN p0))] [(1, r.map Aq)] (oD (.own 0)) := by
 unfold A7 at h
 refine cw (n := 35) (rs := [.tmp 2]) Tryz.func106 fun w0 S0 => ?_
 refine wq rfl (qb rfl (qa rfl (Ac (wp rfl (qf Cs rfl (ql Bc rfl (Ac (AS (wq rfl (AJ rfl (qe rfl ?_)))))))))))
 refine Bi h (fun h => ?_) fun h => ?_
 ·refine wq rfl (qf Fn rfl (ql Bc rfl (qf Fs rfl (ql Bc rfl (qf Gb rfl (ql Bc rfl (ER Ba Gq Pz rfl (qe rfl ?_))))))))
  obtain rfl := sj h
  refine Ag (sm [(1000, 13)] [(2, oD (.own 1000))] [(1000, .vec 1 ((([p0.fA, p0.fw, p0.fB] : List Int)).map Aq))] rfl rfl) (Am ?_)
  exact ⟨⟨[_], tm, rfl⟩, ⟨rfl, tv⟩⟩
 ·refine wq rfl (AJ rfl (qe rfl ?_))
  refine Bi h (fun h => ?_) fun h => ?_
  ·refine wq rfl (qf F8 rfl (ql Bc rfl (qf HN rfl (ql Bc rfl (qf Ha rfl (ql Bc rfl (ER Ba Gq Pz rfl (qe rfl ?_))))))))
   obtain rfl := sj h
   refine Ag (sm [(1000, 22)] [(2, oD (.own 1000))] [(1000, .vec 1 ((([p0.fy, p0.fp, p0.fC] : List Int)).map Aq))] rfl rfl) (Am ?_)
   exact ⟨⟨[_], tm, rfl⟩, ⟨rfl, tv⟩⟩
  ·refine wq rfl (AJ rfl (qe rfl ?_))
   refine Bi h (fun h => ?_) fun h => ?_
   ·refine wq rfl (qf Hw rfl (ql Bc rfl (qf Do rfl (ql Fm rfl (ER Ba Gq Pz rfl (qe rfl ?_))))))
    obtain rfl := sj h
    refine Ag (sm [(1000, 29)] [(2, oD (.own 1000))] [(1000, .vec 1 ((([p0.fE, p0.fr] : List Int)).map Aq))] rfl rfl) (Am ?_)
    exact ⟨⟨[_], tm, rfl⟩, ⟨rfl, tv⟩⟩
   ·refine Ap (wq rfl (qf HD rfl (ql Bc rfl (qf Do rfl (ql Fm rfl (ER Ba Gq Pz rfl (qe rfl ?_)))))))
    obtain rfl := sj h
    refine Ag (sm [(1000, 34)] [(2, oD (.own 1000))] [(1000, .vec 1 ((([p0.fk, p0.fr] : List Int)).map Aq))] rfl rfl) (Am ?_)
    exact ⟨⟨[_], tm, rfl⟩, ⟨rfl, tv⟩⟩
theorem Ho (N : Nat) (p0 : Int) (p1 : Int) (p2 : List Int) (r : Aa) (h : Bm N p0 p1 p2 = some r) : Ak uS 107 [iD p0, iD p1, pD (.sl (p2.map Aq))] [] (.e (.agg (AN r))) := by
 unfold Bm at h
 refine cw (n := 59) (rs := [.cell 6 37]) Tryz.func107 fun w0 S0 => ?_
 refine wq rfl (qz Hd rfl (Ac (wq rfl (qw 2 rfl (BA Hd MW rfl (qz Hd rfl (qs Cb rfl (Ac ?_))))))))
 refine AD h (fun v1 => mk [(6, oD (.ptr 6 0)), (7, oD (.ptr 7 0))] [(6, .box [iC 0, iC 0, iC 0, iC 0, iC 0, iC 0, iC 0, iC 0, iC 0, iC 0, iC 0]), (7, .box [iC p0, iC p1, iC v1.1, iC v1.2.1, iC v1.2.2.1, iC v1.2.2.2.1, iC v1.2.2.2.2.1, iC v1.2.2.2.2.2.1, iC v1.2.2.2.2.2.2.1, iC v1.2.2.2.2.2.2.2.1, iC v1.2.2.2.2.2.2.2.2])]) (fun j1 h => ?_) (fun v1 h => ?_)
 ·refine wq rfl (qm rfl (Ac (AS (wq rfl (AJ rfl (qe rfl ?_))))))
  refine Bi h (fun h => ?_) fun h => ?_
  ·refine Ah Az rfl (qm rfl ?_)
   refine Cg h fun v3 a3 b3 h => qi Ba Gq a3 (Ai b3) rfl (qk Fm rfl (qm rfl ?_))
   refine Cg h fun v4 a4 b4 h => qi Ba Gq a4 (Ai b4) rfl (qk Fm rfl (qm rfl ?_))
   refine Cg h fun v5 a5 b5 h => qi Ba Gq a5 (Ai b5) rfl (qk Fm rfl (qf Fn rfl (qs Da rfl (qf Fs rfl (qs Da rfl (qf Gb rfl (qs Da rfl (AB (by kernel_rfl) ?_))))))))
   exact sn [] h
  ·refine wq rfl (AJ rfl (qe rfl ?_))
   refine Bi h (fun h => ?_) fun h => ?_
   ·refine Ah Az rfl (qm rfl ?_)
    refine Cg h fun v7 a7 b7 h => qi Ba Gq a7 (Ai b7) rfl (qk Fm rfl (qm rfl ?_))
    refine Cg h fun v8 a8 b8 h => qi Ba Gq a8 (Ai b8) rfl (qk Fm rfl (qm rfl ?_))
    refine Cg h fun v9 a9 b9 h => qi Ba Gq a9 (Ai b9) rfl (qk Fm rfl (qf F8 rfl (qs Da rfl (qf HN rfl (qs Da rfl (qf Ha rfl (qs Da rfl (AB (by kernel_rfl) ?_))))))))
    exact sn [] h
   ·refine wq rfl (AJ rfl (qe rfl ?_))
    refine Bi h (fun h => ?_) fun h => ?_
    ·refine Ah Az rfl (qm rfl ?_)
     refine Cg h fun v11 a11 b11 h => qi Ba Gq a11 (Ai b11) rfl (qk Fm rfl (qm rfl ?_))
     refine Cg h fun v12 a12 b12 h => qi Ba Gq a12 (Ai b12) rfl (qk Fm rfl (qf Hw rfl (qs Da rfl (qf Do rfl (qs Gq rfl (AB (by kernel_rfl) ?_))))))
     exact sn [] h
    ·refine Ah Az rfl (qm rfl ?_)
     refine Cg h fun v13 a13 b13 h => qi Ba Gq a13 (Ai b13) rfl (qk Fm rfl (qm rfl ?_))
     refine Cg h fun v14 a14 b14 h => qi Ba Gq a14 (Ai b14) rfl (qk Fm rfl (qf HD rfl (qs Da rfl (qf Do rfl (qs Gq rfl (AB (by kernel_rfl) ?_))))))
     exact sn [] h
 ·refine wq rfl (qL Eb Cb rfl (qs Cb rfl (Ac ?_)))
  obtain rfl := sj h
  refine Ag (sm [] [(6, oD (.ptr 6 0))] [(6, .box [iC p0, iC p1, iC v1.1, iC v1.2.1, iC v1.2.2.1, iC v1.2.2.2.1, iC v1.2.2.2.2.1, iC v1.2.2.2.2.2.1, iC v1.2.2.2.2.2.2.1, iC v1.2.2.2.2.2.2.2.1, iC v1.2.2.2.2.2.2.2.2])] rfl rfl) (Am ?_)
  exact ⟨⟨[_], ⟨.cellN _ _ _ _ _ _ _ rfl rfl Eb Cb rfl rfl (JD rfl), tv⟩, rfl⟩, tv⟩
theorem He (N : Nat) (p0 : Aa) (r : Bool) (h : BW N p0 = some r) : Ak uS 70 [.e (.agg (AN p0))] [] (bD r) := by
 unfold BW at h
 refine cw (n := 39) (rs := [.tmp 2]) Tryz.func70 fun w0 S0 => ?_
 refine wq rfl (qb rfl (qa rfl (Ac (AP ?_))))
 refine AD h (fun v1 => mk [(1, oD (.ptr 1 0)), (17, bD v1)] [(1, .box (AN p0))]) (fun j1 h => ?_) (fun v1 h => ?_)
 ·refine Ah Az rfl (qf Cs rfl (ql Bc rfl (A0 rfl (qm rfl ?_))))
  refine Dc 8 h rfl (fun h => ?_) fun h => ?_
  ·refine qw 3 rfl (qp rfl (qw 4 rfl (qp rfl (Ac ?_))))
   exact sn [] h
  ·refine qf Cs rfl (ql Bc rfl (Eg rfl (qp rfl (qm rfl ?_))))
   refine Dc 13 h rfl (fun h => ?_) fun h => ?_
   ·refine qw 3 rfl (qp rfl (Ac ?_))
    exact sn [] h
   ·refine qf Ev rfl (ql Fm rfl (A0 rfl (qp rfl (Ac ?_))))
    exact sn [] h
 ·refine Bi h (fun h => ?_) fun h => ?_
  ·refine wq rfl (qe rfl ?_)
   obtain rfl := sj h
   refine Ag (sm [] [(2, bD false)] [] rfl rfl) (Am ?_)
   exact ⟨⟨[_], tm, rfl⟩, tv⟩
  ·refine Ap (wq rfl (qL Eb Cb rfl ?_))
   refine BD h fun v5 a5 h => Ax [2001] (EE N p0 v5 a5) PB rfl (qa rfl (Ac (wp rfl (qe rfl ?_))))
   refine Bf (L := AZ N v5) h (fun v6 => mk [(1, oD (.ptr 1 0)), (3, oD (.own 2002)), (4, iD v6)] [(1, .box (AN p0)), (2002, .vec 1 (v5.map Aq))]) (fun v7 => mk [(1, oD (.ptr 1 0)), (3, oD (.own 2003))] [(1, .box (AN p0)), (2003, .vec 1 (v5.map Aq))]) (fun _ _ => rfl) (sm [(2002, 2001)] _ _ rfl rfl) (fun j6 n6 v6 h => ?_) (fun v7 s h hs => ?_)
   ·unfold AZ at h
    refine wp rfl (qw 2 rfl (Kj Ba rfl (A0 rfl (Ac ?_))))
    refine Bi h (fun h => ?_) fun h => ?_
    ·refine Ap (AP (AS (wq rfl (qw 2 rfl ?_))))
     refine Cg h fun v9 a9 b9 h => qI Ba Gq a9 (Ai b9) rfl (qj Fm (Ai b9) rfl (A0 rfl (Ac ?_)))
     refine Bi h (fun h => ?_) fun h => ?_
     ·refine wq rfl (qe rfl ?_)
      obtain rfl := sj h
      refine Ag (sm [] [(2, bD false)] [] rfl rfl) (Am ?_)
      exact ⟨⟨[_], tm, rfl⟩, tv⟩
     ·refine Ap (Ah Az rfl (qm rfl (Cr rfl (qe rfl ?_))))
      exact sn [] h
    ·refine Cd ?_
     exact sn [(2003, 2002)] h
   ·refine Ag hs (wq rfl (qf Ev rfl (ql Fm rfl (qf Cs rfl (ql Bc rfl (qm rfl ?_))))))
    refine BD h fun v11 a11 h => Fp [] [2003] (Ho N p0.fh p0.fd v5 v11 a11) Rx DI rfl (qL Eb Cb rfl ?_)
    refine Pi [.int .i64 v11.fh, .int .i64 v11.fd, .int .i64 v11.fA, .int .i64 v11.fw, .int .i64 v11.fB, .int .i64 v11.fk, .int .i64 v11.fr, .int .i64 v11.fC, .int .i64 v11.fy, .int .i64 v11.fp, .int .i64 v11.fE] [.int .i64 p0.fh, .int .i64 p0.fd, .int .i64 p0.fA, .int .i64 p0.fw, .int .i64 p0.fB, .int .i64 p0.fk, .int .i64 p0.fr, .int .i64 p0.fC, .int .i64 p0.fy, .int .i64 p0.fp, .int .i64 p0.fE] (.p rfl) rfl rfl Pr rfl ?_
    refine qa rfl (AB (by kernel_rfl) ?_)
    obtain rfl := sj h
    refine Ag (sm [] [(2, bD (((v11.fh == p0.fh) && ((v11.fd == p0.fd) && ((v11.fA == p0.fA) && ((v11.fw == p0.fw) && ((v11.fB == p0.fB) && ((v11.fk == p0.fk) && ((v11.fr == p0.fr) && ((v11.fC == p0.fC) && ((v11.fy == p0.fy) && ((v11.fp == p0.fp) && ((v11.fE == p0.fE) && true)))))))))))))] [] rfl rfl) (Am ?_)
    exact ⟨⟨[_], tm, rfl⟩, tv⟩
theorem EL (N : Nat) (p0 : List Aa) (r : Int) (h : Bx N p0 = some r) : Ak uS 33 [pD (.sl (p0.map Ay))] [] (iD r) := by
 unfold Bx at h
 refine cw (n := 37) (rs := [.tmp 2]) Tryz.func33 fun w0 S0 => ?_
 refine wq rfl (qa rfl (Ac (wp rfl (qm rfl (AM CH rfl (Eg rfl (Ac ?_)))))))
 refine Bi h (fun h => ?_) fun h => ?_
 ·refine wq rfl (qe rfl ?_)
  obtain rfl := sj h
  refine Ag (sm [] [(2, iD 3)] [] rfl rfl) (Am ?_)
  exact ⟨⟨[_], tm, rfl⟩, tv⟩
 ·refine Ap (wp rfl (qe rfl ?_))
  refine Bf (L := Bb N p0) h (fun v2 => mk [(0, pD (.sl (p0.map Ay))), (3, iD v2)] []) (fun v3 => mk [] []) (fun _ _ => rfl) (sm [] _ _ rfl rfl) (fun j2 n2 v2 h => ?_) (fun v3 s h hs => ?_)
  ·unfold Bb at h
   refine wp rfl (qw 2 rfl (AM CH rfl (A0 rfl (Ac ?_))))
   refine Bi h (fun h => ?_) fun h => ?_
   ·refine Ap (AP (AS ?_))
    refine AD h (fun v5 => mk [(0, pD (.sl (p0.map Ay))), (3, iD v2), (36, bD v5)] []) (fun j5 h => ?_) (fun v5 h => ?_)
    ·refine Ah Az rfl (qw 2 rfl ?_)
     refine Cg h fun v6 a6 b6 h => qi CH Cb a6 (Ai b6) rfl (qK Eb Cb rfl ?_)
     refine BD h fun v7 a7 h => Ax [] (He N v6 v7 a7) Sb rfl (Cn rfl (qm rfl ?_))
     refine Dc 19 h rfl (fun h => ?_) fun h => ?_
     ·refine qw 3 rfl (qu rfl (qu rfl (qu rfl (qu rfl (qu rfl (qu rfl (qu rfl (qu rfl (qu rfl (qu rfl (qu rfl (qu rfl (qn rfl (qp rfl (AB (by kernel_rfl) ?_)))))))))))))))
      exact sn [] h
     ·refine qm rfl (Eg rfl (qm rfl ?_))
      refine Dc 22 h rfl (fun h => ?_) fun h => ?_
      ·refine qw 2 rfl ?_
       refine Cg h fun v10 a10 b10 h => qi CH Cb a10 (Ai b10) rfl (qg Ev rfl (qk Fm rfl (qw 2 rfl (HL rfl ?_))))
       refine Cg h fun v11 a11 b11 h => qi CH Cb a11 (Ai b11) rfl (qg Ev rfl (qk Fm rfl (A0 rfl (qp rfl (qp rfl (AB (by kernel_rfl) ?_))))))
       exact sn [] h
      ·refine qw 12 rfl (qp rfl (qp rfl (AB (by kernel_rfl) ?_)))
       exact sn [] h
    ·refine Bi h (fun h => ?_) fun h => ?_
     ·refine wq rfl (qe rfl ?_)
      obtain rfl := sj h
      refine Ag (sm [] [(2, iD 1)] [] rfl rfl) (Am ?_)
      exact ⟨⟨[_], tm, rfl⟩, tv⟩
     ·refine Ap (Ah Az rfl (qm rfl (Cr rfl (qe rfl ?_))))
      exact sn [] h
   ·refine Cd ?_
    exact sn [] h
  ·refine Ag hs (wq rfl (qe rfl ?_))
   obtain rfl := sj h
   refine Ag (sm [] [(2, iD 0)] [] rfl rfl) (Am ?_)
   exact ⟨⟨[_], tm, rfl⟩, tv⟩
theorem Hc (N : Nat) (r : (List ByteArray)) (h : By N = some r) : Ak uS 128 [] [(1, r.map eS)] (oD (.own 0)) := by
 unfold By at h
 refine cw (n := 2) (rs := [.tmp 0]) Tryz.func128 fun w0 S0 => ?_
 refine wq rfl (qa rfl (Ac (wq rfl (ER Kc Ph Sn rfl (qe rfl ?_)))))
 obtain rfl := sj h
 refine Ag (sm [(1000, 1)] [(0, oD (.own 1000))] [(1000, .vec 1 ((([(⟨#[]⟩ : ByteArray), (⟨#[114, 101, 97, 100]⟩ : ByteArray), (⟨#[98, 101, 103, 105, 110]⟩ : ByteArray), (⟨#[100, 111, 110, 101]⟩ : ByteArray), (⟨#[97, 98, 111, 114, 116]⟩ : ByteArray), (⟨#[114, 101, 115, 117, 109, 101]⟩ : ByteArray), (⟨#[115, 119, 105, 116, 99, 104]⟩ : ByteArray), (⟨#[108, 101, 97, 115, 101]⟩ : ByteArray)] : List ByteArray)).map eS))] rfl rfl) (Am ?_)
 exact ⟨⟨[_], tm, rfl⟩, ⟨rfl, tv⟩⟩
theorem Hr (N : Nat) (p0 : Aa) (r : ByteArray) (h : Cc N p0 = some r) : Ak uS 93 [.e (.agg (AN p0))] [] (pD (.val (.string r))) := by
 unfold Cc at h
 refine cw (n := 34) (rs := [.tmp 2]) Tryz.func93 fun w0 S0 => ?_
 refine wq rfl (qb rfl (qa rfl (Ac (wq rfl (qf Ev rfl (ql Fm rfl ?_))))))
 refine BD h fun v1 a1 h => Ax [] (CJ N p0.fh 10 v1 a1) L7 rfl ?_
 refine FR h fun c2 h => BC (.p rfl) rfl rfl (Bw _ _ _ _ c2) rfl ?_
 refine BD h fun v3 a3 h => Ax [2001] (Hc N v3 a3) RB rfl (qf Cs rfl (ql Bc rfl ?_))
 refine Cg h fun v4 a4 b4 h => qI Kc Ph a4 (Ai b4) rfl (qj RN (Ai b4) rfl ?_)
 refine FR h fun c5 h => BC (.p rfl) rfl rfl (Bw _ _ _ _ c5) rfl ?_
 refine qa rfl (AB (by kernel_rfl) (wq rfl (qL Eb Cb rfl ?_)))
 refine BD h fun v6 a6 h => Ax [2002] (EE N p0 v6 a6) PB rfl (qa rfl (Ac (wp rfl (qe rfl ?_))))
 refine Bf (L := Bl N v6) h (fun v7 => mk [(3, pD (.val (.string v7.1))), (4, oD (.own 2003)), (5, iD v7.2)] [(2003, .vec 1 (v6.map Aq))]) (fun v8 => mk [(3, pD (.val (.string v8)))] []) (fun _ _ => rfl) (sm [(2003, 2002)] _ _ rfl rfl) (fun j7 n7 v7 h => ?_) (fun v8 s h hs => ?_)
 ·unfold Bl at h
  refine wp rfl (qw 2 rfl (Kj Ba rfl (A0 rfl (Ac ?_))))
  refine Bi h (fun h => ?_) fun h => ?_
  ·refine Ap (AP (AS (Ah Az rfl (qm rfl ?_))))
   refine FR h fun c10 h => BC (.p rfl) rfl rfl (Bw _ _ _ _ c10) rfl ?_
   refine qw 2 rfl ?_
   refine Cg h fun v11 a11 b11 h => qI Ba Gq a11 (Ai b11) rfl (qj Fm (Ai b11) rfl ?_)
   refine BD h fun v12 a12 h => Ax [] (CJ N v11 10 v12 a12) L7 rfl ?_
   refine FR h fun c13 h => BC (.p rfl) rfl rfl (Bw _ _ _ _ c13) rfl ?_
   refine qa rfl (Ac (Ah Az rfl (qm rfl (Cr rfl (qe rfl ?_)))))
   exact sn [] h
  ·refine Cd ?_
   exact sn [] h
 ·refine Ag hs (wq rfl (qm rfl ?_))
  refine FR h fun c14 h => BC (.p rfl) rfl rfl (Bw _ _ _ _ c14) rfl ?_
  refine qa rfl (Ac ?_)
  obtain rfl := sj h
  refine Ag (sm [] [(2, pD (.val (.string ((v8 ++ (⟨#[10]⟩ : ByteArray))))))] [] rfl rfl) (Am ?_)
  exact ⟨⟨[_], tm, rfl⟩, tv⟩
theorem GC (N : Nat) (p0 : List Aa) (r : ByteArray × Int) (h : BP N p0 = some r) : Ak uS 48 [pD (.sl (p0.map Ay))] [] (.tup [.one (.pure (.val (.string r.1))), .one (iC r.2)]) := by
 unfold BP at h
 refine cw (n := 29) (rs := [.tmp 2, .tmp 3]) Tryz.func48 fun w0 S0 => ?_
 refine wq rfl (qa rfl (qa rfl (Ac (wp rfl (qm rfl ?_)))))
 refine BD h fun v1 a1 h => Ax [] (EL N p0 v1 a1) Q8 rfl (qa rfl (Ac (wq rfl (qm rfl (Co rfl (Ac ?_))))))
 refine Bi h (fun h => ?_) fun h => ?_
 ·refine wq rfl (qm rfl (qa rfl (qe rfl ?_)))
  obtain rfl := sj h
  refine Ag (sm [] [(2, pD (.val (.string ((⟨#[]⟩ : ByteArray))))), (3, iD v1)] [] rfl rfl) (Am ?_)
  exact ⟨⟨[_, _], ⟨.tmp _ _ rfl, tm⟩, rfl⟩, tv⟩
 ·refine Ap (wq rfl (qa rfl (Ac (wp rfl (qe rfl ?_)))))
  refine Bf (L := A6 N p0) h (fun v3 => mk [(0, pD (.sl (p0.map Ay))), (5, pD (.val (.string v3.1))), (6, iD v3.2)] []) (fun v4 => mk [(5, pD (.val (.string v4)))] []) (fun _ _ => rfl) (sm [] _ _ rfl rfl) (fun j3 n3 v3 h => ?_) (fun v4 s h hs => ?_)
  ·unfold A6 at h
   refine wp rfl (qw 2 rfl (AM CH rfl (A0 rfl (Ac ?_))))
   refine Bi h (fun h => ?_) fun h => ?_
   ·refine Ap (AP (AS (wq rfl (qw 3 rfl ?_))))
    refine Cg h fun v6 a6 b6 h => qi CH Cb a6 (Ai b6) rfl (qK Eb Cb rfl ?_)
    refine BD h fun v7 a7 h => Ax [] (Hr N v6 v7 a7) R0 rfl ?_
    refine FR h fun c8 h => BC (.p rfl) rfl rfl (Bw _ _ _ _ c8) rfl ?_
    refine qa rfl (Ac (wq rfl (qm rfl ?_)))
    refine GF (.p rfl) rfl HW ?_
    refine Eg rfl (Ac ?_)
    refine Bi h (fun h => ?_) fun h => ?_
    ·refine wq rfl (qa rfl (qe rfl ?_))
     obtain rfl := sj h
     refine Ag (sm [] [(2, pD (.val (.string ((⟨#[]⟩ : ByteArray))))), (3, iD 3)] [] rfl rfl) (Am ?_)
     exact ⟨⟨[_, _], ⟨.tmp _ _ rfl, tm⟩, rfl⟩, tv⟩
    ·refine Ap (Ah Az rfl (qm rfl (Cr rfl (qe rfl ?_))))
     exact sn [] h
   ·refine Cd ?_
    exact sn [] h
  ·refine Ag hs (wq rfl (qm rfl (qa rfl (qe rfl ?_))))
   obtain rfl := sj h
   refine Ag (sm [] [(2, pD (.val (.string v4))), (3, iD 0)] [] rfl rfl) (Am ?_)
   exact ⟨⟨[_, _], ⟨.tmp _ _ rfl, tm⟩, rfl⟩, tv⟩
theorem F5 (N : Nat) (rc : Int → Option ByteArray) (hrc : ∀ (p0 : Int) (r : ByteArray), rc p0 = some r → Ak uS 49 [iD p0] [] (pD (.val (.string r)))) (p0 : Int) (r : ByteArray) (h : CM N rc p0 = some r) : Ak uS 49 [iD p0] [] (pD (.val (.string r))) := by
 unfold CM at h
 refine cw (n := 18) (rs := [.tmp 2]) Tryz.func49 fun w0 S0 => ?_
 refine wq rfl (qa rfl (Ac (wp rfl (qm rfl (A0 rfl (Ac ?_))))))
 refine Bi h (fun h => ?_) fun h => ?_
 ·refine wq rfl (qm rfl (Cr rfl (Hx RQ Q2 rfl ?_)))
  refine LQ (.p rfl) rfl (KR _ _ Rt HW) rfl ?_
  refine qa rfl (Ac ?_)
  obtain rfl := sj h
  refine Ag (sm [] [(2, pD (.val (.string ((Utf8.encode ((wI .i32 ((wI .i64 (48 + p0))))))))))] [] rfl rfl) (Am ?_)
  exact ⟨⟨[_], tm, rfl⟩, tv⟩
 ·refine Ap (wq rfl (qm rfl (Qo rfl (by decide) ?_)))
  refine BD h fun v2 a2 h => Ax [] (hrc ((wI .i64 (Int.tdiv p0 10))) v2 a2) Qu rfl (qm rfl (QZ rfl (by decide) (Cr rfl (Hx RQ Q2 rfl ?_))))
  refine LQ (.p rfl) rfl (KR _ _ Rt HW) rfl ?_
  refine FR h fun c3 h => BC (.p rfl) rfl rfl (Bw _ _ _ _ c3) rfl ?_
  refine qa rfl (Ac ?_)
  obtain rfl := sj h
  refine Ag (sm [] [(2, pD (.val (.string ((v2 ++ (Utf8.encode ((wI .i32 ((wI .i64 (48 + (Int.tmod p0 10))))))))))))] [] rfl rfl) (Am ?_)
  exact ⟨⟨[_], tm, rfl⟩, tv⟩
theorem D9 (N : Nat) : ∀ (k : Nat) (p0 : Int) (r : ByteArray), B5 N k p0 = some r → Ak uS 49 [iD p0] [] (pD (.val (.string r)))
 | 0, _, _, h => by cases h
 | k + 1, p0, r, h => F5 N (B5 N k) (D9 N k) p0 r h
theorem G1 (N : Nat) (p0 : Int) (r : ByteArray) (h : BO N p0 = some r) : Ak uS 49 [iD p0] [] (pD (.val (.string r))) := D9 N N p0 r h
theorem GS (N : Nat) (p0 : List Aa) (p1 : Int) (p2 : Int) (r : ByteArray × Int) (h : BN N p0 p1 p2 = some r) : Ak uS 20 [pD (.sl (p0.map Ay)), iD p1, iD p2] [] (.tup [.one (.pure (.val (.string r.1))), .one (iC r.2)]) := by
 unfold BN at h
 refine cw (n := 55) (rs := [.tmp 6, .tmp 7]) Tryz.func20 fun w0 S0 => ?_
 refine wq rfl (qa rfl (qa rfl (Ac (wp rfl (qm rfl ?_)))))
 refine BD h fun v1 a1 h => Ax [] (EL N p0 v1 a1) Q8 rfl (qa rfl (Ac (wq rfl (qm rfl (Co rfl (Ac ?_))))))
 refine Bi h (fun h => ?_) fun h => ?_
 ·refine wq rfl (qm rfl (qa rfl (qe rfl ?_)))
  obtain rfl := sj h
  refine Ag (sm [] [(6, pD (.val (.string ((⟨#[]⟩ : ByteArray))))), (7, iD v1)] [] rfl rfl) (Am ?_)
  exact ⟨⟨[_, _], ⟨.tmp _ _ rfl, tm⟩, rfl⟩, tv⟩
 ·refine Ap (AP ?_)
  refine AD h (fun v3 => mk [(0, pD (.sl (p0.map Ay))), (1, iD p1), (2, iD p2), (23, bD v3)] []) (fun j3 h => ?_) (fun v3 h => ?_)
  ·refine Ah Az rfl (qm rfl (A0 rfl (qm rfl ?_)))
   refine Dc 18 h rfl (fun h => ?_) fun h => ?_
   ·refine qw 4 rfl (qp rfl (Ac ?_))
    exact sn [] h
   ·refine qw 2 rfl (AM CH rfl (Eh rfl (qp rfl (Ac ?_))))
    exact sn [] h
  ·refine Bi h (fun h => ?_) fun h => ?_
   ·refine wq rfl (qa rfl (qe rfl ?_))
    obtain rfl := sj h
    refine Ag (sm [] [(6, pD (.val (.string ((⟨#[]⟩ : ByteArray))))), (7, iD 7)] [] rfl rfl) (Am ?_)
    exact ⟨⟨[_, _], ⟨.tmp _ _ rfl, tm⟩, rfl⟩, tv⟩
   ·refine Ap (AP ?_)
    refine AD h (fun v6 => mk [(0, pD (.sl (p0.map Ay))), (1, iD p1), (2, iD p2), (29, bD v6)] []) (fun j6 h => ?_) (fun v6 h => ?_)
    ·refine Ah Az rfl (qm rfl (A0 rfl (qm rfl ?_)))
     refine Dc 26 h rfl (fun h => ?_) fun h => ?_
     ·refine qw 2 rfl (qp rfl (Ac ?_))
      exact sn [] h
     ·refine qm rfl (Eg rfl (qp rfl (Ac ?_)))
      exact sn [] h
    ·refine Bi h (fun h => ?_) fun h => ?_
     ·refine wq rfl (qa rfl (qe rfl ?_))
      obtain rfl := sj h
      refine Ag (sm [] [(6, pD (.val (.string ((⟨#[]⟩ : ByteArray))))), (7, iD 1)] [] rfl rfl) (Am ?_)
      exact ⟨⟨[_, _], ⟨.tmp _ _ rfl, tm⟩, rfl⟩, tv⟩
     ·refine Ap (wq rfl (qw 3 rfl (Cr rfl ?_)))
      refine FR h fun c9 h => IE (.p rfl) rfl CH Cb (FM (f := Ay) (n := 11) (fun _ => rfl) _) (.some _ _ _ _ c9.1) (.some _ _ _ _ c9.2.1) ⟨rfl, tv⟩ ⟨rfl, tv⟩ (by have := c9.2.2.1; (try simp only [vG]); omega) (by have := c9.2.2.2; (try simp only [vG]); omega) (Hy Ay p0 _ _ (((wI .i64 (p1 + 1))).toNat - (p1).toNat) rfl) ?_
      refine BD h fun v10 a10 h => Ax [] (GC N (((p0.drop (p1).toNat).take (((wI .i64 (p1 + 1))).toNat - (p1).toNat))) v10 a10) Sj rfl (qm rfl (qx rfl (qx rfl (qa rfl (qa rfl (Ac (wq rfl (ER Kc Ph Sn rfl (qm rfl (HL rfl ?_))))))))))
      refine Cg h fun v11 a11 b11 h => Jl (.p rfl) rfl rfl rfl Kc Ph a11 (Ai (f := eS) b11) ?_
      refine I7 (.p rfl) rfl RN rfl (Ai (f := eS) b11) rfl ?_
      refine FR h fun c12 h => BC (.p rfl) rfl rfl (Bw _ _ _ _ c12) rfl ?_
      refine qm rfl ?_
      refine BD h fun v13 a13 h => Ax [] (G1 N p1 v13 a13) Qu rfl ?_
      refine FR h fun c14 h => BC (.p rfl) rfl rfl (Bw _ _ _ _ c14) rfl ?_
      refine FR h fun c15 h => BC (.p rfl) rfl rfl (Bw _ _ _ _ c15) rfl ?_
      refine qw 2 rfl ?_
      refine GF (.p rfl) rfl HW ?_
      refine HL rfl ?_
      refine FR h fun c16 h => IZ (.p rfl) rfl HW (.none _) (.some _ _ _ _ c16.1) tv ⟨rfl, tv⟩ c16.2.1 c16.2.2 ?_
      refine FR h fun c17 h => BC (.p rfl) rfl rfl (Bw _ _ _ _ c17) rfl ?_
      refine qa rfl (qa rfl (AB (by kernel_rfl) ?_))
      obtain rfl := sj h
      refine Ag (sm [] [(6, pD (.val (.string (((((v11 ++ (⟨#[32]⟩ : ByteArray)) ++ v13) ++ (⟨#[58, 32]⟩ : ByteArray)) ++ (v10.1.extract 0 (((wI .i64 ((v10.1.size : Int) - 1))).toNat))))))), (7, iD 0)] [] rfl rfl) (Am ?_)
      exact ⟨⟨[_, _], ⟨.tmp _ _ rfl, tm⟩, rfl⟩, tv⟩
theorem Fh (N : Nat) (p0 : List Aa) (p1 : Int) (p2 : Int) (r : Bool) (h : Bh N p0 p1 p2 = some r) : Ak uS 5 [pD (.sl (p0.map Ay)), iD p1, iD p2] [] (bD r) := by
 unfold Bh at h
 refine cw (n := 42) (rs := [.tmp 6]) Tryz.func5 fun w0 S0 => ?_
 refine wq rfl (qa rfl (Ac (AP ?_)))
 refine AD h (fun v1 => mk [(0, pD (.sl (p0.map Ay))), (1, iD p1), (2, iD p2), (17, bD v1)] []) (fun j1 h => ?_) (fun v1 h => ?_)
 ·refine Ah Az rfl ?_
  refine BD h fun v2 a2 h => Ax [] (EM N v2 a2) RK rfl (Cn rfl (qm rfl ?_))
  refine Dc 13 h rfl (fun h => ?_) fun h => ?_
  ·refine qw 3 rfl (qp rfl (Ac ?_))
   exact sn [] h
  ·refine qm rfl (AM CH rfl (Eg rfl (qp rfl (Ac ?_))))
   exact sn [] h
 ·refine Bi h (fun h => ?_) fun h => ?_
  ·refine wq rfl ?_
   refine BD h fun v5 a5 h => Ax [] (EM N v5 a5) RK rfl (qe rfl ?_)
   obtain rfl := sj h
   refine Ag (sm [] [(6, bD v5)] [] rfl rfl) (Am ?_)
   exact ⟨⟨[_], tm, rfl⟩, tv⟩
  ·refine Ap (wq rfl (qm rfl ?_))
   refine BD h fun v6 a6 h => Ax [2001] (Dz N p0 v6 a6) R8 rfl (qw 2 rfl ?_)
   refine BD h fun v7 a7 h => Fp [] [2001] (Gw N v6 p1 p2 v7 a7) Rp DI rfl (qm rfl (qx rfl (qx rfl (qa rfl (qa rfl (Ac (wq rfl (qw 3 rfl ?_))))))))
   refine BD h fun v8 a8 h => Ax [] (GS N p0 p1 p2 v8 a8) Sk rfl (qm rfl (qx rfl (qx rfl (qa rfl (qe rfl ?_)))))
   refine AD h (fun v9 => mk [(6, bD v9)] []) (fun j9 h => ?_) (fun v9 h => ?_)
   ·refine Ah Az rfl (qw 2 rfl ?_)
    refine BC (.p rfl) rfl rfl (Hz _ _ _ _) rfl ?_
    refine qm rfl ?_
    refine Dc 37 h rfl (fun h => ?_) fun h => ?_
    ·refine qw 2 rfl (AJ rfl (qp rfl (qe rfl ?_)))
     exact sn [] h
    ·refine qw 3 rfl (qp rfl (qe rfl ?_))
     exact sn [] h
   ·obtain rfl := sj h
    refine Ag (sm [] [(6, bD v9)] [] rfl rfl) (Am ?_)
    exact ⟨⟨[_], tm, rfl⟩, tv⟩
end Go.Lift
