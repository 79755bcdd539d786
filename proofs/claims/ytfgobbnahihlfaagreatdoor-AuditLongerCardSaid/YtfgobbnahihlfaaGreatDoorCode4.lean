/- Lemmas for AuditLongerCardSaid, which YtfgobbnahihlfaaGreatDoorFinA7 proves. -/
import Derived.Test.YtfgobbnahihlfaaGreatDoorCode
open List renaming getElem?_map → uY, getElem_mem → zC2, length_map → vO, map_eq_nil_iff → zC5, replicate → vC
open Nat renaming le_refl → zB8, zero_add → uZ, zero_le → vN
open Option renaming map → zE0
open Go.Proofs.Tryz renaming prog → uS
namespace Go.Lift
open IntKind renaming wrap → wI
set_option maxRecDepth 10000
open Go.RowKit
open Go.Proofs
theorem Fx (N : Nat) (p0 : Int) (p1 : Int) (r : Bool) (h : CR N p0 p1 = some r) : Aq uS 102 [iD p0, iD p1] [] (bD r) := by
 unfold CR at h
 refine cw (n := 12) (rs := [.tmp 4]) Tryz.func102 fun w0 S0 => ?_
 refine wq rfl (qe rfl ?_)
 refine AK h (fun v1 => mk [(4, bD v1)] []) (fun j1 h => ?_) (fun v1 h => ?_)
 ·refine Ak Ay rfl (qm rfl (Dx rfl (qm rfl ?_)))
  refine CJ 7 h rfl (fun h => ?_) fun h => ?_
  ·refine qw 2 rfl (A4 rfl (qp rfl (qe rfl ?_)))
   exact sn [] h
  ·refine qw 3 rfl (qp rfl (qe rfl ?_))
   exact sn [] h
 ·obtain rfl := sj h
  refine Af (sm [] [(4, bD v1)] [] rfl rfl) (Ar ?_)
  exact ⟨⟨[_], tm, rfl⟩, tv⟩
theorem NS (N : Nat) (p0 : Int) (p1 : Bool) (r : Bool) (h : E3 N p0 p1 = some r) : Aq uS 144 [iD p0, bD p1] [] (bD r) := by
 unfold E3 at h
 refine cw (n := 23) (rs := [.tmp 4]) Tryz.func144 fun w0 S0 => ?_
 refine wq rfl (qe rfl ?_)
 refine AK h (fun v1 => mk [(4, bD v1)] []) (fun j1 h => ?_) (fun v1 h => ?_)
 ·refine Ak Ay rfl (qm rfl (AN rfl (qm rfl ?_)))
  refine CJ 7 h rfl (fun h => ?_) fun h => ?_
  ·refine qw 2 rfl (qp rfl (qw 4 rfl (qu rfl (qu rfl (qw 2 rfl (qu rfl (qu rfl (qn rfl (qp rfl (qe rfl ?_))))))))))
   exact sn [] h
  ·refine qm rfl (AN rfl (qp rfl (qm rfl ?_)))
   refine CJ 11 h rfl (fun h => ?_) fun h => ?_
   ·refine qw 3 rfl (qu rfl (qu rfl (qw 2 rfl (qu rfl (qu rfl (qn rfl (qp rfl (qe rfl ?_))))))))
    exact sn [] h
   ·refine qm rfl (AN rfl (qm rfl ?_))
    refine CJ 14 h rfl (fun h => ?_) fun h => ?_
    ·refine qw 2 rfl (qp rfl (qw 2 rfl (Cz rfl (qp rfl (qp rfl (qe rfl ?_))))))
     exact sn [] h
    ·refine qm rfl (AN rfl (qp rfl (qm rfl ?_)))
     refine CJ 18 h rfl (fun h => ?_) fun h => ?_
     ·refine qm rfl (Cz rfl (qp rfl (qp rfl (qe rfl ?_))))
      exact sn [] h
     ·refine qw 2 rfl (qp rfl (qp rfl (qe rfl ?_)))
      exact sn [] h
 ·obtain rfl := sj h
  refine Af (sm [] [(4, bD v1)] [] rfl rfl) (Ar ?_)
  exact ⟨⟨[_], tm, rfl⟩, tv⟩
theorem Kf (N : Nat) (p0 : List Bool) (p1 : Int) (r : Bool) (h : CN N p0 p1 = some r) : Aq uS 174 [pD (.sl (p0.map eB)), oD (.rop [.val (.int .i64 p1)])] [] (bD r) := by
 unfold CN at h
 refine cw (n := 8) (rs := [.tmp 3]) Tryz.func174 fun w0 S0 => ?_
 refine wq rfl (qa rfl (Ac (wq rfl (qm rfl (AH HF rfl (qk Ba rfl (BG rfl (qe rfl ?_))))))))
 obtain rfl := sj h
 refine Af (sm [] [(3, bD (((p0.length : Int) != p1)))] [] rfl rfl) (Ar ?_)
 exact ⟨⟨[_], tm, rfl⟩, tv⟩
theorem Gf (N : Nat) (p0 : List (List Bool)) (p1 : (List Bool) → Option Bool) (r : Int) (h : Ch N p0 p1 = some r) : Aq uS 189 [pD (.sl (p0.map (KV eB))), oD (.clo (Ix (MQ false (KV eB)) tB p1))] [] (iD r) := by
 unfold Ch at h
 refine cw (n := 19) (rs := [.tmp 4]) Tryz.func189 fun w0 S0 => ?_
 refine wq rfl (qa rfl (Ac (wp rfl (qm rfl (AH DM rfl (qm rfl (Ac ?_)))))))
 refine A5 (L := A0 N p0 p1) h (fun v1 => mk [(0, pD (.sl (p0.map (KV eB)))), (1, oD (.clo (Ix (MQ false (KV eB)) tB p1))), (7, iD ((p0.length : Int))), (8, iD v1)] []) (fun v2 => mk [] []) (fun _ _ => rfl) (sm [] _ _ rfl rfl) (fun j1 n1 v1 h => ?_) (fun v2 s h hs => ?_)
 ·unfold A0 at h
  refine wq rfl (A4 rfl (Ac (AO ?_)))
  refine Bj h (fun h => ?_) fun h => ?_
  ·refine Ap (AO (AP (wq rfl (qm rfl (qa rfl (Ac (wq rfl (qw 3 rfl ?_))))))))
   refine BP h fun v4 a4 b4 h => qi DM JA a4 (Ai b4) rfl (qk JT rfl ?_)
   refine Ca h fun v5 a5 h => KY (ds0 := [_]) (ar := (MQ false (KV eB)) v4) (.p rfl) rfl rfl ⟨rfl, tv⟩ rfl rfl rfl (KQ (KZ _ _ (Vf WK)) a5) ?_
   refine Ac ?_
   refine Bj h (fun h => ?_) fun h => ?_
   ·refine wq rfl (qm rfl (qe rfl ?_))
    obtain rfl := sj h
    refine Af (sm [] [(4, iD v1)] [] rfl rfl) (Ar ?_)
    exact ⟨⟨[_], tm, rfl⟩, tv⟩
   ·refine Ap (Ak Ay rfl (Cq rfl (qm rfl (Ac ?_))))
    exact sn [] h
  ·refine BV ?_
   exact sn [] h
 ·refine Af hs (wq rfl (qe rfl ?_))
  obtain rfl := sj h
  refine Af (sm [] [(4, iD ((-1)))] [] rfl rfl) (Ar ?_)
  exact ⟨⟨[_], tm, rfl⟩, tv⟩
theorem FN (N : Nat) (p0 : List (List Bool)) (p1 : (List Bool) → Option Bool) (r : Bool) (h : BY N p0 p1 = some r) : Aq uS 173 [pD (.sl (p0.map (KV eB))), oD (.clo (Ix (MQ false (KV eB)) tB p1))] [] (bD r) := by
 unfold BY at h
 refine cw (n := 9) (rs := [.tmp 4]) Tryz.func173 fun w0 S0 => ?_
 refine wq rfl (qa rfl (Ac (wq rfl (qw 2 rfl ?_))))
 refine Ca h fun v1 a1 h => Ax [] (Gf N p0 p1 v1 a1) Vp rfl (Dx rfl (qe rfl ?_))
 obtain rfl := sj h
 refine Af (sm [] [(4, bD ((decide (0 ≤ v1))))] [] rfl rfl) (Ar ?_)
 exact ⟨⟨[_], tm, rfl⟩, tv⟩
theorem Iq (N : Nat) (p0 : List (List Bool)) (p1 : Int) (p2 : Int) (r : Bool) (h : DO N p0 p1 p2 = some r) : Aq uS 145 [pD (.sl (p0.map (KV eB))), iD p1, iD p2] [] (bD r) := by
 unfold DO at h
 refine cw (n := 17) (rs := [.tmp 6]) Tryz.func145 fun w0 S0 => ?_
 refine wq rfl (qb rfl (qe rfl ?_))
 refine AK h (fun v1 => mk [(6, bD v1)] []) (fun j1 h => ?_) (fun v1 h => ?_)
 ·refine Ak Ay rfl (qm rfl (AH DM rfl (qm rfl (AN rfl (qm rfl ?_)))))
  refine CJ 11 h rfl (fun h => ?_) fun h => ?_
  ·refine qm rfl (Fy (Io 5 [.val (.int .i64 p2)] rfl rfl) ?_)
   refine Pj (capD := [_]) (Ix (MQ false (KV eB)) tB ((fun (x : List Bool) => CN N x p2))) (.g rfl rfl) VU rfl ⟨rfl, tv⟩ rfl (fun ar t ht => by obtain ⟨x, r, rfl, hq, rfl⟩ := IG ht; exact Kf N x p2 r hq) ?_
   refine Ca h fun v3 a3 h => Ax [] (FN N p0 ((fun (x : List Bool) => CN N x p2)) v3 a3) Vl rfl (Cz rfl (qp rfl (qe rfl ?_)))
   exact sn [] h
  ·refine qw 4 rfl (qp rfl (qe rfl ?_))
   exact sn [] h
 ·obtain rfl := sj h
  refine Af (sm [] [(6, bD v1)] [] rfl rfl) (Ar ?_)
  exact ⟨⟨[_], tm, rfl⟩, tv⟩
theorem L2 (N : Nat) (p0 : Aa) (p1 : AG) (r : Int) (h : EQ N p0 p1 = some r) : Aq uS 103 [.e (.agg (Al p0)), .e (.agg (Cy p1))] [] (iD r) := by
 unfold EQ at h
 refine cw (n := 87) (rs := [.tmp 4]) Tryz.func103 fun w0 S0 => ?_
 refine wq rfl (qb rfl (qb rfl (qa rfl (Ac (wp rfl (qf DH rfl (ql Ba rfl (qf OM rfl (ql TV rfl ?_)))))))))
 refine Ca h fun v1 a1 h => Ax [] (NS N p1.fa p1.fQ v1 a1) Vs rfl (Cz rfl (Ac ?_))
 refine Bj h (fun h => ?_) fun h => ?_
 ·refine wq rfl (qe rfl ?_)
  obtain rfl := sj h
  refine Af (sm [] [(4, iD 1)] [] rfl rfl) (Ar ?_)
  exact ⟨⟨[_], tm, rfl⟩, tv⟩
 ·refine Ap (AO ?_)
  refine AK h (fun v3 => mk [(2, oD (.ptr 2 0)), (3, oD (.ptr 3 0)), (29, bD v3)] [(2, .box (Al p0)), (3, .box (Cy p1))]) (fun j3 h => ?_) (fun v3 h => ?_)
  ·refine Ak Ay rfl (qf Cf rfl (ql Ba rfl (qf BB rfl (ql Bc rfl (AH AB rfl ?_)))))
   refine Ca h fun v4 a4 h => Ax [] (Fx N p1.fj ((p0.fb.length : Int)) v4 a4) P6 rfl (Cz rfl (qm rfl ?_))
   refine CJ 21 h rfl (fun h => ?_) fun h => ?_
   ·refine qw 7 rfl (qp rfl (Ac ?_))
    exact sn [] h
   ·refine qf GJ rfl (ql Ba rfl (qf BB rfl (ql Bc rfl (AH AB rfl ?_))))
    refine Ca h fun v6 a6 h => Ax [] (Fx N p1.fB ((p0.fb.length : Int)) v6 a6) P6 rfl (Cz rfl (qp rfl (Ac ?_)))
    exact sn [] h
  ·refine Bj h (fun h => ?_) fun h => ?_
   ·refine wq rfl (qe rfl ?_)
    obtain rfl := sj h
    refine Af (sm [] [(4, iD 4)] [] rfl rfl) (Ar ?_)
    exact ⟨⟨[_], tm, rfl⟩, tv⟩
   ·refine Ap (wq rfl (qf BB rfl (ql Bc rfl (qf Cf rfl (ql Ba rfl ?_)))))
    refine BP h fun v8 a8 b8 h => qi AB CK a8 (Ai b8) rfl (qk Ba rfl (qa rfl (Ac (wq rfl (qf DH rfl (ql Ba rfl (AN rfl (qa rfl (Ac (AO ?_))))))))))
    refine AK h (fun v9 => mk [(3, oD (.ptr 3 0)), (70, bD v9)] [(3, .box (Cy p1))]) (fun j9 h => ?_) (fun v9 h => ?_)
    ·refine Ak Ay rfl (qf GH rfl (ql E5 rfl (qm rfl (qf BB rfl (ql Bc rfl (qf GJ rfl (ql Ba rfl ?_)))))))
     refine BP h fun v10 a10 b10 h => qi AB CK a10 (Ai b10) rfl (qk Ba rfl ?_)
     refine Ca h fun v11 a11 h => Ax [] (Iq N p1.fD v8 v10 v11 a11) TR rfl (Cz rfl (qm rfl ?_))
     refine CJ 50 h rfl (fun h => ?_) fun h => ?_
     ·refine qw 2 rfl (qu rfl (qu rfl (qu rfl (qu rfl (qu rfl (qu rfl (qn rfl (qp rfl (qw 4 rfl (qu rfl (qu rfl (qu rfl (qu rfl (qn rfl (qp rfl (AE (by kernel_rfl) ?_))))))))))))))))
      exact sn [] h
     ·refine qw 2 rfl ?_
      refine CJ 52 h rfl (fun h => ?_) fun h => ?_
      ·refine qf DT rfl (ql E5 rfl (qw 2 rfl ?_))
       refine Ca h fun v14 a14 h => Ax [] (Iq N p1.fu v8 v8 v14 a14) TR rfl (Cz rfl (qp rfl (qp rfl (qm rfl ?_))))
       refine CJ 61 h rfl (fun h => ?_) fun h => ?_
       ·refine qw 3 rfl (qu rfl (qu rfl (qu rfl (qu rfl (qn rfl (qp rfl (AE (by kernel_rfl) ?_)))))))
        exact sn [] h
       ·refine qm rfl (Cz rfl (qm rfl ?_))
        refine CJ 64 h rfl (fun h => ?_) fun h => ?_
        ·refine qf DT rfl (ql E5 rfl (AH DM rfl (DZ rfl (qp rfl (qp rfl (AE (by kernel_rfl) ?_))))))
         exact sn [] h
        ·refine qw 4 rfl (qp rfl (qp rfl (AE (by kernel_rfl) ?_)))
         exact sn [] h
      ·refine qw 6 rfl (qp rfl (qp rfl (qw 2 rfl (Cz rfl (qm rfl ?_)))))
       refine CJ 64 h rfl (fun h => ?_) fun h => ?_
       ·refine qf DT rfl (ql E5 rfl (AH DM rfl (DZ rfl (qp rfl (qp rfl (AE (by kernel_rfl) ?_))))))
        exact sn [] h
       ·refine qw 4 rfl (qp rfl (qp rfl (AE (by kernel_rfl) ?_)))
        exact sn [] h
    ·refine Bj h (fun h => ?_) fun h => ?_
     ·refine wq rfl (qe rfl ?_)
      obtain rfl := sj h
      refine Af (sm [] [(4, iD 6)] [] rfl rfl) (Ar ?_)
      exact ⟨⟨[_], tm, rfl⟩, tv⟩
     ·refine Ap (wp rfl (qf DT rfl (ql E5 rfl (AH DM rfl (qm rfl (Ac ?_))))))
      refine A5 (L := B5 N p1) h (fun v19 => mk [(3, oD (.ptr 3 0)), (73, iD ((p1.fu.length : Int))), (74, iD v19)] [(3, .box (Cy p1))]) (fun v20 => mk [] []) (fun _ _ => rfl) (sm [] _ _ rfl rfl) (fun j19 n19 v19 h => ?_) (fun v20 s h hs => ?_)
      ·unfold B5 at h
       refine wq rfl (A4 rfl (Ac (AO ?_)))
       refine Bj h (fun h => ?_) fun h => ?_
       ·refine Ap (AO (AP (wq rfl (qm rfl (qa rfl (Ac (wq rfl (qf DT rfl (ql E5 rfl (qm rfl ?_))))))))))
        refine BP h fun v22 a22 b22 h => qi DM JA a22 (Ai b22) rfl (qk JT rfl (qm rfl ?_))
        refine BP h fun v23 a23 b23 h => qi HF UQ a23 (Ai b23) rfl (qk TV rfl (Cz rfl (Ac ?_)))
        refine Bj h (fun h => ?_) fun h => ?_
        ·refine wq rfl (qe rfl ?_)
         obtain rfl := sj h
         refine Af (sm [] [(4, iD 1)] [] rfl rfl) (Ar ?_)
         exact ⟨⟨[_], tm, rfl⟩, tv⟩
        ·refine Ap (Ak Ay rfl (Cq rfl (qm rfl (Ac ?_))))
         exact sn [] h
       ·refine BV ?_
        exact sn [] h
      ·refine Af hs (wq rfl (qe rfl ?_))
       obtain rfl := sj h
       refine Af (sm [] [(4, iD 0)] [] rfl rfl) (Ar ?_)
       exact ⟨⟨[_], tm, rfl⟩, tv⟩
theorem DV (N : Nat) (p0 : Aa) (r : Int) (h : BI N p0 = some r) : Aq uS 59 [.e (.agg (Al p0))] [] (iD r) := by
 unfold BI at h
 refine cw (n := 81) (rs := [.tmp 2]) Tryz.func59 fun w0 S0 => ?_
 refine wq rfl (qb rfl (qa rfl (Ac (wq rfl (qf BB rfl (ql Bc rfl (AH AB rfl (qa rfl (Ac (AO ?_))))))))))
 refine AK h (fun v1 => mk [(1, oD (.ptr 1 0)), (3, iD ((p0.fb.length : Int))), (19, bD v1)] [(1, .box (Al p0))]) (fun j1 h => ?_) (fun v1 h => ?_)
 ·refine Ak Ay rfl (qm rfl (DZ rfl (qm rfl ?_)))
  refine CJ 14 h rfl (fun h => ?_) fun h => ?_
  ·refine qw 4 rfl (qp rfl (Ac ?_))
   exact sn [] h
  ·refine qf BF rfl (ql EU rfl (AH CP rfl (DZ rfl (qp rfl (Ac ?_)))))
   exact sn [] h
 ·refine Bj h (fun h => ?_) fun h => ?_
  ·refine wq rfl (qe rfl ?_)
   obtain rfl := sj h
   refine Af (sm [] [(2, iD 3)] [] rfl rfl) (Ar ?_)
   exact ⟨⟨[_], tm, rfl⟩, tv⟩
  ·refine Ap (AO ?_)
   refine AK h (fun v4 => mk [(1, oD (.ptr 1 0)), (31, bD v4)] [(1, .box (Al p0))]) (fun j4 h => ?_) (fun v4 h => ?_)
   ·refine Ak Ay rfl (qf FJ rfl (ql Bc rfl (AH AB rfl (qm rfl (BG rfl (qm rfl ?_))))))
    refine CJ 25 h rfl (fun h => ?_) fun h => ?_
    ·refine qw 5 rfl (qp rfl (Ac ?_))
     exact sn [] h
    ·refine qf IJ rfl (ql Bc rfl (AH AB rfl (qm rfl (BG rfl (qp rfl (Ac ?_))))))
     exact sn [] h
   ·refine Bj h (fun h => ?_) fun h => ?_
    ·refine wq rfl (qe rfl ?_)
     obtain rfl := sj h
     refine Af (sm [] [(2, iD 6)] [] rfl rfl) (Ar ?_)
     exact ⟨⟨[_], tm, rfl⟩, tv⟩
    ·refine Ap (wp rfl (qf BB rfl (ql Bc rfl (AH AB rfl (qm rfl (Ac ?_))))))
     refine A5 (L := Bp N p0) h (fun v7 => mk [(1, oD (.ptr 1 0)), (33, pD (.sl (p0.fb.map As))), (34, iD ((p0.fb.length : Int))), (35, iD v7)] [(1, .box (Al p0))]) (fun v8 => mk [(1, oD (.ptr 1 0))] [(1, .box (Al p0))]) (fun _ _ => rfl) (sm [] _ _ rfl rfl) (fun j7 n7 v7 h => ?_) (fun v8 s h hs => ?_)
     ·unfold Bp at h
      refine wq rfl (A4 rfl (Ac (AO ?_)))
      refine Bj h (fun h => ?_) fun h => ?_
      ·refine Ap (AO (AP (wq rfl (qm rfl ?_))))
       refine BP h fun v10 a10 b10 h => qi AB CK a10 (Ai b10) rfl (qk Ba rfl (qa rfl (qe rfl ?_)))
       refine AK h (fun v11 => mk [(1, oD (.ptr 1 0)), (33, pD (.sl (p0.fb.map As))), (34, iD ((p0.fb.length : Int))), (35, iD v7), (65, bD v11)] [(1, .box (Al p0))]) (fun j11 h => ?_) (fun v11 h => ?_)
       ·refine Ak Ay rfl (qm rfl (A4 rfl (qm rfl ?_)))
        refine CJ 42 h rfl (fun h => ?_) fun h => ?_
        ·refine qw 2 rfl (qp rfl (qw 9 rfl (qp rfl (qw 9 rfl (qp rfl (Ac ?_))))))
         exact sn [] h
        ·refine qm rfl (DZ rfl (qp rfl (qm rfl ?_)))
         refine CJ 46 h rfl (fun h => ?_) fun h => ?_
         ·refine qw 8 rfl (qp rfl (qw 9 rfl (qp rfl (Ac ?_))))
          exact sn [] h
         ·refine qf FJ rfl (ql Bc rfl (qm rfl ?_))
          refine BP h fun v14 a14 b14 h => qi AB CK a14 (Ai b14) rfl (qk Ba rfl (qm rfl ?_))
          refine Ca h fun v15 a15 h => Ax [] (Fx N v14 v10 v15 a15) P6 rfl (Cz rfl (qp rfl (qm rfl ?_)))
          refine CJ 56 h rfl (fun h => ?_) fun h => ?_
          ·refine qw 8 rfl (qp rfl (Ac ?_))
           exact sn [] h
          ·refine qf IJ rfl (ql Bc rfl (qm rfl ?_))
           refine BP h fun v17 a17 b17 h => qi AB CK a17 (Ai b17) rfl (qk Ba rfl (qm rfl ?_))
           refine Ca h fun v18 a18 h => Ax [] (Fx N v17 v10 v18 a18) P6 rfl (Cz rfl (qp rfl (Ac ?_)))
           exact sn [] h
       ·refine Bj h (fun h => ?_) fun h => ?_
        ·refine wq rfl (qe rfl ?_)
         obtain rfl := sj h
         refine Af (sm [] [(2, iD 7)] [] rfl rfl) (Ar ?_)
         exact ⟨⟨[_], tm, rfl⟩, tv⟩
        ·refine Ap (Ak Ay rfl (Cq rfl (qm rfl (Ac ?_))))
         exact sn [] h
      ·refine BV ?_
       exact sn [] h
     ·refine Af hs (wp rfl (qf BF rfl (ql EU rfl (AH CP rfl (qm rfl (Ac ?_))))))
      refine A5 (L := Bg N p0) h (fun v20 => mk [(1, oD (.ptr 1 0)), (68, pD (.sl (p0.fd.map Bv))), (69, iD ((p0.fd.length : Int))), (70, iD v20)] [(1, .box (Al p0))]) (fun v21 => mk [] []) (fun _ _ => rfl) (sm [] _ _ rfl rfl) (fun j20 n20 v20 h => ?_) (fun v21 s h hs => ?_)
      ·unfold Bg at h
       refine wq rfl (A4 rfl (Ac (AO ?_)))
       refine Bj h (fun h => ?_) fun h => ?_
       ·refine Ap (AO (AP (wq rfl ?_)))
        refine BP h fun v23 a23 b23 h => qi CP BT a23 (Ai b23) rfl (qK EP BT rfl (qz Jo rfl (qs BT rfl (Ac (wq rfl (qL DS DN rfl (qL EP BT rfl ?_)))))))
        refine Ca h fun v24 a24 h => Ax [] (L2 N p0 v23 v24 a24) VZ rfl (qa rfl (Ac (wq rfl (qm rfl (BG rfl (Ac ?_))))))
        refine Bj h (fun h => ?_) fun h => ?_
        ·refine wq rfl (qm rfl (qe rfl ?_))
         obtain rfl := sj h
         refine Af (sm [] [(2, iD v24)] [] rfl rfl) (Ar ?_)
         exact ⟨⟨[_], tm, rfl⟩, tv⟩
        ·refine Ap (Ak Ay rfl (Cq rfl (qm rfl (Ac ?_))))
         exact sn [] h
       ·refine BV ?_
        exact sn [] h
      ·refine Af hs (wq rfl (qe rfl ?_))
       obtain rfl := sj h
       refine Af (sm [] [(2, iD 0)] [] rfl rfl) (Ar ?_)
       exact ⟨⟨[_], tm, rfl⟩, tv⟩
theorem GO (N : Nat) (p0 : List Int) (p1 : Int → Option Bool) (r : Int) (h : CF N p0 p1 = some r) : Aq uS 147 [pD (.sl (p0.map As)), oD (.clo (Ix (MQ false As) tB p1))] [] (iD r) := by
 unfold CF at h
 refine cw (n := 19) (rs := [.tmp 4]) Tryz.func147 fun w0 S0 => ?_
 refine wq rfl (qa rfl (Ac (wp rfl (qm rfl (AH AB rfl (qm rfl (Ac ?_)))))))
 refine A5 (L := AV N p0 p1) h (fun v1 => mk [(0, pD (.sl (p0.map As))), (1, oD (.clo (Ix (MQ false As) tB p1))), (7, iD ((p0.length : Int))), (8, iD v1)] []) (fun v2 => mk [] []) (fun _ _ => rfl) (sm [] _ _ rfl rfl) (fun j1 n1 v1 h => ?_) (fun v2 s h hs => ?_)
 ·unfold AV at h
  refine wq rfl (A4 rfl (Ac (AO ?_)))
  refine Bj h (fun h => ?_) fun h => ?_
  ·refine Ap (AO (AP (wq rfl (qm rfl (qa rfl (Ac (wq rfl (qw 3 rfl ?_))))))))
   refine BP h fun v4 a4 b4 h => qi AB CK a4 (Ai b4) rfl (qk Ba rfl ?_)
   refine Ca h fun v5 a5 h => KY (ds0 := [_]) (ar := (MQ false As) v4) (.p rfl) rfl rfl ⟨rfl, tv⟩ rfl rfl rfl (KQ (KZ _ _ Q1) a5) ?_
   refine Ac ?_
   refine Bj h (fun h => ?_) fun h => ?_
   ·refine wq rfl (qm rfl (qe rfl ?_))
    obtain rfl := sj h
    refine Af (sm [] [(4, iD v1)] [] rfl rfl) (Ar ?_)
    exact ⟨⟨[_], tm, rfl⟩, tv⟩
   ·refine Ap (Ak Ay rfl (Cq rfl (qm rfl (Ac ?_))))
    exact sn [] h
  ·refine BV ?_
   exact sn [] h
 ·refine Af hs (wq rfl (qe rfl ?_))
  obtain rfl := sj h
  refine Af (sm [] [(4, iD ((-1)))] [] rfl rfl) (Ar ?_)
  exact ⟨⟨[_], tm, rfl⟩, tv⟩
theorem F4 (N : Nat) (p0 : List Int) (p1 : Int → Option Bool) (r : Bool) (h : BJ N p0 p1 = some r) : Aq uS 108 [pD (.sl (p0.map As)), oD (.clo (Ix (MQ false As) tB p1))] [] (bD r) := by
 unfold BJ at h
 refine cw (n := 9) (rs := [.tmp 4]) Tryz.func108 fun w0 S0 => ?_
 refine wq rfl (qa rfl (Ac (wq rfl (qw 2 rfl ?_))))
 refine Ca h fun v1 a1 h => Ax [] (GO N p0 p1 v1 a1) VN rfl (Dx rfl (qe rfl ?_))
 obtain rfl := sj h
 refine Af (sm [] [(4, bD ((decide (0 ≤ v1))))] [] rfl rfl) (Ar ?_)
 exact ⟨⟨[_], tm, rfl⟩, tv⟩
theorem JW (N : Nat) (p0 : Int) (r : Bool) (h : DI N p0 = some r) : Aq uS 109 [iD p0] [] (bD r) := by
 unfold DI at h
 refine cw (n := 9) (rs := [.tmp 2]) Tryz.func109 fun w0 S0 => ?_
 refine wq rfl (qe rfl ?_)
 refine AK h (fun v1 => mk [(2, bD v1)] []) (fun j1 h => ?_) (fun v1 h => ?_)
 ·refine Ak Ay rfl (qm rfl (A4 rfl (qm rfl ?_)))
  refine CJ 5 h rfl (fun h => ?_) fun h => ?_
  ·refine qw 2 rfl (qp rfl (qe rfl ?_))
   exact sn [] h
  ·refine qm rfl (DZ rfl (qp rfl (qe rfl ?_)))
   exact sn [] h
 ·obtain rfl := sj h
  refine Af (sm [] [(2, bD v1)] [] rfl rfl) (Ar ?_)
  exact ⟨⟨[_], tm, rfl⟩, tv⟩
theorem KN (N : Nat) (p0 : Aa) (p1 : List Int) (r : Int) (h : D9 N p0 p1 = some r) : Aq uS 71 [.e (.agg (Al p0)), pD (.sl (p1.map As))] [] (iD r) := by
 unfold D9 at h
 refine cw (n := 15) (rs := [.tmp 4]) Tryz.func71 fun w0 S0 => ?_
 refine wq rfl (qb rfl (qa rfl (Ac (AO (AP (wq rfl (qm rfl (AH AB rfl (qf BB rfl (ql Bc rfl (AH AB rfl (BG rfl (qe rfl ?_)))))))))))))
 refine Bj h (fun h => ?_) fun h => ?_
 ·refine wq rfl (qe rfl ?_)
  obtain rfl := sj h
  refine Af (sm [] [(4, iD 6)] [] rfl rfl) (Ar ?_)
  exact ⟨⟨[_], tm, rfl⟩, tv⟩
 ·refine wq rfl (qm rfl ?_)
  refine Ca h fun v2 a2 h => Ax [] (Aq.weak (ds' := [pD (.sl (p1.map As)), oD (.fnc 109)]) (F4 N p1 ((fun (x : Int) => DI N x)) v2 a2) ⟨(fun _ _ _ hh => hh), (fun _ _ _ hh => NJ Wc (fun ar t ht => by obtain ⟨x, r, rfl, hq, rfl⟩ := IG ht; exact JW N x r hq) hh), tv⟩) U1 rfl ?_
  refine qa rfl (Ac ?_)
  refine Bj h (fun h => ?_) fun h => ?_
  ·refine wq rfl (qe rfl ?_)
   obtain rfl := sj h
   refine Af (sm [] [(4, iD 7)] [] rfl rfl) (Ar ?_)
   exact ⟨⟨[_], tm, rfl⟩, tv⟩
  ·refine Ap (wq rfl (qe rfl ?_))
   obtain rfl := sj h
   refine Af (sm [] [(4, iD 0)] [] rfl rfl) (Ar ?_)
   exact ⟨⟨[_], tm, rfl⟩, tv⟩
theorem EZ (N : Nat) (p0 : List Am) (p1 : Am → Option Bool) (r : Int) (h : Bf N p0 p1 = some r) : Aq uS 148 [pD (.sl (p0.map AM)), oD (.clo (Ix (MQ true AM) tB p1))] [] (iD r) := by
 unfold Bf at h
 refine cw (n := 19) (rs := [.tmp 4]) Tryz.func148 fun w0 S0 => ?_
 refine wq rfl (qa rfl (Ac (wp rfl (qm rfl (AH GS rfl (qm rfl (Ac ?_)))))))
 refine A5 (L := AL N p0 p1) h (fun v1 => mk [(0, pD (.sl (p0.map AM))), (1, oD (.clo (Ix (MQ true AM) tB p1))), (7, iD ((p0.length : Int))), (8, iD v1)] []) (fun v2 => mk [] []) (fun _ _ => rfl) (sm [] _ _ rfl rfl) (fun j1 n1 v1 h => ?_) (fun v2 s h hs => ?_)
 ·unfold AL at h
  refine wq rfl (A4 rfl (Ac (AO ?_)))
  refine Bj h (fun h => ?_) fun h => ?_
  ·refine Ap (AO (AP (wq rfl (qm rfl (qa rfl (Ac (wq rfl (qw 3 rfl ?_))))))))
   refine BP h fun v4 a4 b4 h => qi GS Gs a4 (Ai b4) rfl (qK Jh Gs rfl ?_)
   refine Ca h fun v5 a5 h => KY (ds0 := [_]) (ar := (MQ true AM) v4) (.p rfl) rfl rfl ⟨rfl, tv⟩ rfl rfl rfl (KQ (KZ _ _ O9) a5) ?_
   refine Ac ?_
   refine Bj h (fun h => ?_) fun h => ?_
   ·refine wq rfl (qm rfl (qe rfl ?_))
    obtain rfl := sj h
    refine Af (sm [] [(4, iD v1)] [] rfl rfl) (Ar ?_)
    exact ⟨⟨[_], tm, rfl⟩, tv⟩
   ·refine Ap (Ak Ay rfl (Cq rfl (qm rfl (Ac ?_))))
    exact sn [] h
  ·refine BV ?_
   exact sn [] h
 ·refine Af hs (wq rfl (qe rfl ?_))
  obtain rfl := sj h
  refine Af (sm [] [(4, iD ((-1)))] [] rfl rfl) (Ar ?_)
  exact ⟨⟨[_], tm, rfl⟩, tv⟩
theorem EG (N : Nat) (p0 : List Am) (p1 : Am → Option Bool) (r : Bool) (h : A6 N p0 p1 = some r) : Aq uS 110 [pD (.sl (p0.map AM)), oD (.clo (Ix (MQ true AM) tB p1))] [] (bD r) := by
 unfold A6 at h
 refine cw (n := 9) (rs := [.tmp 4]) Tryz.func110 fun w0 S0 => ?_
 refine wq rfl (qa rfl (Ac (wq rfl (qw 2 rfl ?_))))
 refine Ca h fun v1 a1 h => Ax [] (EZ N p0 p1 v1 a1) U4 rfl (Dx rfl (qe rfl ?_))
 obtain rfl := sj h
 refine Af (sm [] [(4, bD ((decide (0 ≤ v1))))] [] rfl rfl) (Ar ?_)
 exact ⟨⟨[_], tm, rfl⟩, tv⟩
theorem IY (N : Nat) (p0 : Am) (r : Bool) (h : Da N p0 = some r) : Aq uS 111 [.e (.agg (B1 p0))] [] (bD r) := by
 unfold Da at h
 refine cw (n := 6) (rs := [.tmp 2]) Tryz.func111 fun w0 S0 => ?_
 refine wq rfl (qb rfl (qa rfl (Ac (wq rfl (qf Dl rfl (ql Ba rfl (AN rfl (qe rfl ?_))))))))
 obtain rfl := sj h
 refine Af (sm [] [(2, bD ((p0.fa == 4)))] [] rfl rfl) (Ar ?_)
 exact ⟨⟨[_], tm, rfl⟩, tv⟩
theorem Ei (N : Nat) (p0 : List Int) (r : (List Int)) (h : BM N p0 = some r) : Aq uS 149 [pD (.sl (p0.map As))] [(1, r.map As)] (oD (.own 0)) := by
 unfold BM at h
 refine cw (n := 8) (rs := [.tmp 2]) Tryz.func149 fun w0 S0 => ?_
 refine wq rfl (qa rfl (Ac (wp rfl (qm rfl ?_))))
 refine Na (.p rfl) rfl AB ?_
 refine Ac ?_
 refine Ni rfl (fun c2 => ?_) ?_
 ·have c2 := zC5.1 c2
  rw [c2] at h
  have h : (some (([] : List Int))) = some r := h
  refine wq rfl (qe rfl ?_)
  obtain rfl := sj h
  refine Af ((Fj 2 2001 1 rfl rfl rfl).trans (sm [(1000, 2001)] [(2, oD (.own 1000))] [(1000, .vec 1 ((([] : List Int)).map As))] rfl rfl)) (Ar ?_)
  exact ⟨⟨[_], tm, rfl⟩, ⟨rfl, tv⟩⟩
 ·refine Ap (wq rfl (Ft AB CK NY rfl (qm rfl ?_)))
  refine Hj h fun c1 h => Kd (f := As) AB AB CK QN NY (fun _ => rfl) c1 rfl (qe rfl ?_)
  obtain rfl := sj h
  refine Af (sm [(1000, 7)] [(2, oD (.own 1000))] [(1000, .vec 1 (((([] : List Int)) ++ p0).map As))] rfl rfl) (Ar ?_)
  exact ⟨⟨[_], tm, rfl⟩, ⟨rfl, tv⟩⟩
theorem JK (N : Nat) (p0 : Int) (p1 : Int) (r : Int × Int) (h : Ff N p0 p1 = some r) : Aq uS 190 [pD (.val (.int .u32 p0)), pD (.val (.int .u32 p1))] [] (.tup [.one (.pure (.val (.int .u32 r.1))), .one (.pure (.val (.int .u32 r.2)))]) := by
 unfold Ff at h
 refine cw (n := 17) (rs := [.tmp 4, .tmp 5]) Tryz.func190 fun w0 S0 => ?_
 refine wq rfl (qa rfl (qa rfl (Ac (wq rfl (qm rfl (J5 P5 TY rfl (qm rfl (J5 P5 TY rfl (Mp rfl (qa rfl (Ac (wq rfl (qm rfl (Kt rfl (by decide) (J5 Tw P1 rfl (qm rfl (J5 Tw P1 rfl (qa rfl (qe rfl ?_)))))))))))))))))))
 obtain rfl := sj h
 refine Af (sm [] [(4, pD (.val (.int .u32 ((wI .u32 ((Fp .u64 ((wI .u64 ((wI .u64 p0) * (wI .u64 p1)))) 32))))))), (5, pD (.val (.int .u32 ((wI .u32 ((wI .u64 ((wI .u64 p0) * (wI .u64 p1)))))))))] [] rfl rfl) (Ar ?_)
 exact ⟨⟨[_, _], ⟨.tmp _ _ rfl, tm⟩, rfl⟩, tv⟩
theorem Jv (N : Nat) (p0 : Int) (p1 : Int) (r : Int × Int) (h : Fg N p0 p1 = some r) : Aq uS 191 [pD (.val (.int .u64 p0)), pD (.val (.int .u64 p1))] [] (.tup [.one (.pure (.val (.int .u64 r.1))), .one (.pure (.val (.int .u64 r.2)))]) := by
 unfold Fg at h
 refine cw (n := 51) (rs := [.tmp 4, .tmp 5]) Tryz.func191 fun w0 S0 => ?_
 refine wq rfl (qa rfl (qa rfl (Ac (wq rfl (qm rfl (MU rfl (qa rfl (Ac (wq rfl (qm rfl (Kt rfl (by decide) (qa rfl (Ac (wq rfl (qm rfl (MU rfl (qa rfl (Ac (wq rfl (qm rfl (Kt rfl (by decide) (qa rfl (Ac (wq rfl (qw 2 rfl (Mp rfl (qa rfl (Ac (wq rfl (qw 2 rfl ?_))))))))))))))))))))))))))))))
 refine Mp rfl (qm rfl (Kt rfl (by decide) (Cq rfl (qa rfl (Ac (wq rfl (qm rfl (MU rfl (qa rfl (Ac (wq rfl (qm rfl (Kt rfl (by decide) (qa rfl (Ac (wq rfl (qw 3 rfl (Mp rfl (Cq rfl (qa rfl (Ac (wq rfl (qw 2 rfl (Mp rfl (qm rfl (Cq rfl (qm rfl (Kt rfl (by decide) (Cq rfl (qa rfl (Ac (AO ?_))))))))))))))))))))))))))))))))
 refine Ak Ay rfl (qw 2 rfl (Mp rfl (qe rfl ?_)))
 obtain rfl := sj h
 refine Af (sm [] [(4, pD (.val (.int .u64 ((wI .u64 ((wI .u64 ((wI .u64 ((Fp .u64 p0 32) * (Fp .u64 p1 32))) + (Fp .u64 ((wI .u64 ((wI .u64 ((Fp .u64 p0 32) * (Fi .u64 p1 4294967295))) + (Fp .u64 ((wI .u64 ((Fi .u64 p0 4294967295) * (Fi .u64 p1 4294967295)))) 32)))) 32))) + (Fp .u64 ((wI .u64 ((Fi .u64 ((wI .u64 ((wI .u64 ((Fp .u64 p0 32) * (Fi .u64 p1 4294967295))) + (Fp .u64 ((wI .u64 ((Fi .u64 p0 4294967295) * (Fi .u64 p1 4294967295)))) 32)))) 4294967295) + (wI .u64 ((Fi .u64 p0 4294967295) * (Fp .u64 p1 32)))))) 32))))))), (5, pD (.val (.int .u64 ((wI .u64 (p0 * p1))))))] [] rfl rfl) (Ar ?_)
 exact ⟨⟨[_, _], ⟨.tmp _ _ rfl, tm⟩, rfl⟩, tv⟩
theorem KK (N : Nat) (p0 : Int) (p1 : Int) (r : Int × Int) (h : FU N p0 p1 = some r) : Aq uS 175 [pD (.val (.int .u64 p0)), pD (.val (.int .u64 p1))] [] (.tup [.one (.pure (.val (.int .u64 r.1))), .one (.pure (.val (.int .u64 r.2)))]) := by
 unfold FU at h
 refine cw (n := 30) (rs := [.tmp 4, .tmp 5]) Tryz.func175 fun w0 S0 => ?_
 refine wq rfl (qa rfl (qa rfl (Ac (AO ?_))))
 refine Bj h (fun h => ?_) fun h => ?_
 ·refine wq rfl (qm rfl (J5 Rn P1 rfl (qm rfl (J5 Rn P1 rfl ?_))))
  refine Ca h fun v2 a2 h => Ax [] (JK N ((wI .u32 p0)) ((wI .u32 p1)) v2 a2) UY rfl (qm rfl (qx rfl (qx rfl (qa rfl (qa rfl (Ac (wq rfl (qm rfl (J5 P5 P0 rfl (qm rfl (J5 P5 P0 rfl (qa rfl (qe rfl ?_)))))))))))))
  obtain rfl := sj h
  refine Af (sm [] [(4, pD (.val (.int .u64 ((wI .u64 v2.1))))), (5, pD (.val (.int .u64 ((wI .u64 v2.2)))))] [] rfl rfl) (Ar ?_)
  exact ⟨⟨[_, _], ⟨.tmp _ _ rfl, tm⟩, rfl⟩, tv⟩
 ·refine Ap (wq rfl (qw 2 rfl ?_))
  refine Ca h fun v3 a3 h => Ax [] (Jv N p0 p1 v3 a3) VL rfl (qm rfl (qx rfl (qx rfl (qa rfl (qa rfl (Ac (wq rfl (qw 2 rfl (qa rfl (qe rfl ?_))))))))))
  obtain rfl := sj h
  refine Af (sm [] [(4, pD (.val (.int .u64 v3.1))), (5, pD (.val (.int .u64 v3.2)))] [] rfl rfl) (Ar ?_)
  exact ⟨⟨[_, _], ⟨.tmp _ _ rfl, tm⟩, rfl⟩, tv⟩
theorem HE (N : Nat) (p0 : List Int) (p1 : Int) (r : (List Int)) (h : C6 N p0 p1 = some r) : Aq uS 150 [pD (.sl (p0.map As)), iD p1] [(1, r.map As)] (oD (.own 0)) := by
 unfold C6 at h
 refine cw (n := 48) (rs := [.tmp 4]) Tryz.func150 fun w0 S0 => ?_
 refine wq rfl (qe rfl ?_)
 refine AK h (fun v1 => mk [(0, pD (.sl (p0.map As))), (1, iD p1)] []) (fun j1 h => ?_) (fun v1 h => ?_)
 ·refine wq rfl (qm rfl (A4 rfl (Ac ?_)))
  refine Bj h (fun h => ?_) fun h => ?_
  ·refine Ak Ay rfl ?_
   cases h
  ·refine Ap ?_
   exact sn [] h
 ·refine wq rfl (qm rfl (AH AB rfl (J5 W7 P0 rfl (qm rfl (J5 W7 P0 rfl ?_)))))
  refine Ca h fun v3 a3 h => Ax [] (KK N ((wI .u64 ((p0.length : Int)))) ((wI .u64 p1)) v3 a3) U3 rfl (qm rfl (qx rfl (qx rfl (qa rfl (qe rfl ?_)))))
  refine AK h (fun v4 => mk [(0, pD (.sl (p0.map As))), (6, pD (.val (.int .u64 v3.2)))] []) (fun j4 h => ?_) (fun v4 h => ?_)
  ·refine AK h (fun v5 => mk [(0, pD (.sl (p0.map As))), (6, pD (.val (.int .u64 v3.2))), (26, bD v5)] []) (fun j5 h => ?_) (fun v5 h => ?_)
   ·refine Ak Ay rfl (qm rfl (DZ rfl (qm rfl ?_)))
    refine CJ 23 h rfl (fun h => ?_) fun h => ?_
    ·refine qw 2 rfl (qp rfl (Ac ?_))
     exact sn [] h
    ·refine qm rfl (DZ rfl (qp rfl (Ac ?_)))
     exact sn [] h
   ·refine Bj h (fun h => ?_) fun h => ?_
    ·refine Ak Ay rfl ?_
     cases h
    ·refine Ap ?_
     exact sn [] h
  ·refine wq rfl (qm rfl (J5 Rn WI rfl ?_))
   refine Hj h fun c8 h => Km (.p rfl) rfl rfl rfl AB CK QN (GC rfl) NY rfl rfl rfl c8.1 c8.2.1 c8.2.2 (Qb As _ ((0 : Int))) ?_
   refine qa rfl (Ac (wq rfl (qw 2 rfl ?_)))
   refine PW As (vC ((wI .i64 v3.2)).toNat ((0 : Int))) p0 (.p rfl) rfl (Le As _ _ (vC ((wI .i64 v3.2)).toNat ((0 : Int)))) rfl rfl (Tn As _ _ (fun _ => rfl)) tv AB CK ?_
   refine qa rfl (Ac (AO ?_))
   refine A5 (L := CD N) h (fun v9 => mk [(7, oD (.own 2001)), (8, iD v9.2)] [(2001, .vec 1 (v9.1.map As))]) (fun v10 => mk [(7, oD (.own 2002))] [(2002, .vec 1 (v10.map As))]) (fun _ _ => rfl) (sm [(2001, 30)] _ _ rfl rfl) (fun j9 n9 v9 h => ?_) (fun v10 s h hs => ?_)
   ·unfold CD at h
    refine wp rfl (qw 2 rfl (Pl AB rfl (A4 rfl (Ac ?_))))
    refine Bj h (fun h => ?_) fun h => ?_
    ·refine Ap (AP (Ak Ay rfl (qw 3 rfl ?_)))
     obtain ⟨c12, h⟩ := GI h
     have w13 : ((v9.2).toNat) + ((v9.1.length - (v9.2).toNat)) ≤ v9.1.length := by have := c12.2.1; have := c12.2.2; omega
     refine Oo As v9.1 (.p rfl) rfl (Le As _ _ v9.1) rfl AB CK (.some _ _ _ _ c12.1) (.none _) ⟨rfl, tv⟩ tv c12.2.1 (by rw [uZ]; exact c12.2.2) (uZ _) rfl ?_
     refine qw 2 rfl ?_
     obtain ⟨c14, h⟩ := GI h
     have w15 : 0 + ((v9.2).toNat) ≤ v9.1.length := by have := c14.2.1; have := c14.2.2; omega
     refine Oo As v9.1 (.p rfl) rfl (Le As _ _ v9.1) rfl AB CK (.none _) (.some _ _ _ _ c14.1) tv ⟨rfl, tv⟩ c14.2.1 (by rw [uZ]; exact c14.2.2) (uZ _) rfl ?_
     refine PW As v9.1 (((v9.1.drop 0).take ((v9.2).toNat))) (.p rfl) rfl (Qz As _ _ ((v9.2).toNat) ((v9.1.length - (v9.2).toNat)) v9.1 w13) rfl rfl (QH As _ _ 0 ((v9.2).toNat) v9.1 w15) ⟨rfl, tv⟩ AB CK ?_
     refine Cq rfl (qa rfl (AE (by kernel_rfl) ?_))
     exact sn [] h
    ·refine BV ?_
     exact sn [(2002, 2001)] h
   ·refine Af hs (wq rfl (qm rfl (qe rfl ?_)))
    obtain rfl := sj h
    refine Af (sm [(1000, 2002)] [(4, oD (.own 1000))] [(1000, .vec 1 (v10.map As))] rfl rfl) (Ar ?_)
    exact ⟨⟨[_], tm, rfl⟩, ⟨rfl, tv⟩⟩
theorem JH (N : Nat) (p0 : AG) (r : Bool) (h : Ev N p0 = some r) : Aq uS 151 [.e (.agg (Cy p0))] [] (bD r) := by
 unfold Ev at h
 refine cw (n := 11) (rs := [.tmp 2]) Tryz.func151 fun w0 S0 => ?_
 refine wq rfl (qb rfl (qe rfl ?_))
 refine AK h (fun v1 => mk [(2, bD v1)] []) (fun j1 h => ?_) (fun v1 h => ?_)
 ·refine Ak Ay rfl (qf DH rfl (ql Ba rfl (AN rfl (qm rfl ?_))))
  refine CJ 6 h rfl (fun h => ?_) fun h => ?_
  ·refine qw 3 rfl (qp rfl (qe rfl ?_))
   exact sn [] h
  ·refine qf DH rfl (ql Ba rfl (AN rfl (qp rfl (qe rfl ?_))))
   exact sn [] h
 ·obtain rfl := sj h
  refine Af (sm [] [(2, bD v1)] [] rfl rfl) (Ar ?_)
  exact ⟨⟨[_], tm, rfl⟩, tv⟩
theorem Ok (N : Nat) (p0 : Aa) (r : Ad × Int) (h : Fu N p0 = some r) : Aq uS 112 [.e (.agg (Al p0))] [(1, r.1.fh.map As), (1, r.1.fe.map As), (1, r.1.ff.map Dw)] (.tup [.agg [.own 0, .own 1, .own 2], .one (iC r.2)]) := by
 unfold Fu at h
 refine cw (n := 50) (rs := [.cell 2 40, .tmp 3]) Tryz.func112 fun w0 S0 => ?_
 refine wq rfl (qb rfl (qz C7 rfl (qa rfl (Ac (wp rfl (qL DS DN rfl ?_))))))
 refine Ca h fun v1 a1 h => Ax [] (DV N p0 v1 a1) Te rfl (qa rfl (Ac (wq rfl (qm rfl (BG rfl (Ac ?_))))))
 refine Bj h (fun h => ?_) fun h => ?_
 ·refine wq rfl (Bt C7 Gt rfl (qm rfl (qs AQ rfl (qe rfl ?_))))
  obtain rfl := sj h
  refine Af ((Av 2 0 2001 1 _ rfl rfl rfl rfl).trans ((Av 2 1 2002 1 _ rfl rfl rfl rfl).trans ((Av 2 2 2003 1 _ rfl rfl rfl rfl).trans (sm [(1000, 2001), (1001, 2002), (1002, 2003)] [(2, oD (.ptr 2 0)), (3, iD v1)] [(2, .box [.own 1000, .own 1001, .own 1002]), (1000, .vec 1 ((([] : List Int)).map As)), (1001, .vec 1 ((([] : List Int)).map As)), (1002, .vec 1 ((([] : List Int)).map Dw))] rfl rfl)))) (Ar ?_)
  exact ⟨⟨[_, _], ⟨.cellN _ _ _ _ _ _ _ rfl rfl B0 AQ rfl rfl (H7 rfl), tm⟩, rfl⟩, ⟨rfl, rfl, rfl, tv⟩⟩
 ·refine Ap (wq rfl (qf FJ rfl (ql Bc rfl ?_)))
  refine Ca h fun v3 a3 h => Ax [2004] (Ei N p0.fk v3 a3) Rb rfl (Ft AB CK NY rfl (qf FJ rfl (ql Bc rfl (AH AB rfl ?_))))
  refine Ca h fun v4 a4 h => Gy [2005] [17] (HE N (([(-1)] : List Int)) ((p0.fk.length : Int)) v4 a4) V1 (O2 (fun _ => rfl) ET) rfl (qf BF rfl (ql EU rfl (AH CP rfl ?_)))
  refine Hj h fun c5 h => Km (.p rfl) rfl rfl rfl Dz DE Nr (GC rfl) LS rfl rfl rfl c5.1 c5.2.1 c5.2.2 (Qb Dw _ ((0 : Int))) ?_
  refine Bt C7 Gt rfl (qz C7 rfl (qs AQ rfl (AE (by kernel_rfl) (wp rfl (qf BF rfl (ql EU rfl (AH CP rfl (qm rfl (Ac ?_)))))))))
  refine A5 (L := CO N p0) h (fun v6 => mk [(1, oD (.ptr 1 0)), (2, oD (.ptr 2 0)), (5, oD (.ptr 5 0)), (28, pD (.sl (p0.fd.map Bv))), (29, iD ((p0.fd.length : Int))), (30, iD v6.2)] [(1, .box (Al p0)), (2, .box [.pure (.nil0), .pure (.nil0), .pure (.nil0)]), (5, .box [.own 2006, .own 2007, .own 2008]), (2006, .vec 1 (v3.map As)), (2007, .vec 1 (v4.map As)), (2008, .vec 1 (v6.1.map Dw))]) (fun v7 => mk [(2, oD (.ptr 2 0)), (5, oD (.ptr 5 0))] [(2, .box [.pure (.nil0), .pure (.nil0), .pure (.nil0)]), (5, .box [.own 2009, .own 2010, .own 2011]), (2009, .vec 1 (v3.map As)), (2010, .vec 1 (v4.map As)), (2011, .vec 1 (v7.map Dw))]) (fun _ _ => rfl) (sm [(2006, 2004), (2007, 2005), (2008, 25)] _ _ rfl rfl) (fun j6 n6 v6 h => ?_) (fun v7 s h hs => ?_)
  ·unfold CO at h
   refine wq rfl (A4 rfl (Ac (AO ?_)))
   refine Bj h (fun h => ?_) fun h => ?_
   ·refine Ap ?_
    refine AK h (fun v9 => mk [(1, oD (.ptr 1 0)), (2, oD (.ptr 2 0)), (5, oD (.ptr 5 0)), (28, pD (.sl (p0.fd.map Bv))), (29, iD ((p0.fd.length : Int))), (30, iD v6.2)] [(1, .box (Al p0)), (2, .box [.pure (.nil0), .pure (.nil0), .pure (.nil0)]), (5, .box [.own 2012, .own 2013, .own 2014]), (2012, .vec 1 (v3.map As)), (2013, .vec 1 (v4.map As)), (2014, .vec 1 (v9.map Dw))]) (fun j9 h => ?_) (fun v9 h => ?_)
    ·refine AP (wq rfl (qm rfl ?_))
     refine BP h fun v10 a10 b10 h => qi CP BT a10 (Ai b10) rfl (qK EP BT rfl (qz Jo rfl (qa rfl (qs BT rfl (Ac (wq rfl (qL EP BT rfl ?_)))))))
     refine Ca h fun v11 a11 h => Ax [] (JH N v10 v11 a11) Tu rfl (Ac ?_)
     refine Bj h (fun h => ?_) fun h => ?_
     ·refine Ak Ay rfl (qf CE rfl (ql GQ rfl (qm rfl (qf FJ rfl (ql Bc rfl (qf Cf rfl (ql Ba rfl ?_)))))))
      refine BP h fun v13 a13 b13 h => qi AB CK a13 (Ai b13) rfl (qk Ba rfl ?_)
      refine Hj h fun c14 h => H0 rfl c14 ?_
      refine BP h fun v15 a15 b15 h => qI Dz DE a15 (Ai b15) rfl ?_
      refine Ep rfl rfl rfl rfl (Ai b15) rfl DE rfl (GC rfl) (Em Dw v6.1 _ ((Dk .u8 1 v13))) ?_
      refine AE (by kernel_rfl) ?_
      exact sn [(2012, 2006), (2013, 2007), (2014, 2008)] h
     ·refine Ap ?_
      exact sn [(2012, 2006), (2013, 2007), (2014, 2008)] h
    ·refine Ak Ay rfl (Cq rfl (qm rfl (Ac ?_)))
     exact sn [(2006, 2012), (2007, 2013), (2008, 2014)] h
   ·refine BV ?_
    exact sn [(2009, 2006), (2010, 2007), (2011, 2008)] h
  ·refine Af hs (wq rfl (qL B0 AQ rfl (qs AQ rfl (qe rfl ?_))))
   obtain rfl := sj h
   refine Af (sm [(1000, 2009), (1001, 2010), (1002, 2011)] [(2, oD (.ptr 2 0)), (3, iD 0)] [(2, .box [.own 1000, .own 1001, .own 1002]), (1000, .vec 1 (v3.map As)), (1001, .vec 1 (v4.map As)), (1002, .vec 1 (v7.map Dw))] rfl rfl) (Ar ?_)
   exact ⟨⟨[_, _], ⟨.cellN _ _ _ _ _ _ _ rfl rfl B0 AQ rfl rfl (H7 rfl), tm⟩, rfl⟩, ⟨rfl, rfl, rfl, tv⟩⟩
theorem Mb (N : Nat) (p0 : Ad) (p1 : Int) (r : Int) (h : EN N p0 p1 = some r) : Aq uS 176 [.e (.agg (Be p0)), iD p1] [] (pD (.val (.int .u8 r))) := by
 unfold EN at h
 refine cw (n := 27) (rs := [.tmp 4]) Tryz.func176 fun w0 S0 => ?_
 refine wq rfl (qb rfl (qa rfl (Ac (wq rfl (qf CV rfl (ql Bc rfl (qm rfl ?_)))))))
 refine BP h fun v1 a1 b1 h => qi AB CK a1 (Ai b1) rfl (qk Ba rfl ?_)
 refine Hj h fun c2 h => H0 rfl c2 (qe rfl ?_)
 refine AK h (fun v3 => mk [(5, pD (.val (.int .u8 v3)))] []) (fun j3 h => ?_) (fun v3 h => ?_)
 ·refine wq rfl (qf BO rfl (ql Bc rfl (qm rfl ?_)))
  refine BP h fun v4 a4 b4 h => qi AB CK a4 (Ai b4) rfl (qk Ba rfl (Dx rfl (Ac ?_)))
  refine Bj h (fun h => ?_) fun h => ?_
  ·refine Ak Ay rfl (qm rfl (qf BO rfl (ql Bc rfl (qm rfl ?_))))
   refine BP h fun v6 a6 b6 h => qi AB CK a6 (Ai b6) rfl (qk Ba rfl ?_)
   refine Hj h fun c7 h => H0 rfl c7 (Q9 rfl (qe rfl ?_))
   exact sn [] h
  ·refine Ap ?_
   exact sn [] h
 ·refine wq rfl (qm rfl (qe rfl ?_))
  obtain rfl := sj h
  refine Af (sm [] [(4, pD (.val (.int .u8 v3)))] [] rfl rfl) (Ar ?_)
  exact ⟨⟨[_], tm, rfl⟩, tv⟩
theorem Kw (N : Nat) (p0 : Aa) (p1 : Ad) (r : Int) (h : EW N p0 p1 = some r) : Aq uS 152 [.e (.agg (Al p0)), .e (.agg (Be p1))] [] (iD r) := by
 unfold EW at h
 refine cw (n := 135) (rs := [.tmp 4]) Tryz.func152 fun w0 S0 => ?_
 refine wq rfl (qb rfl (qb rfl (qa rfl (Ac (wp rfl (qL DS DN rfl ?_))))))
 refine Ca h fun v1 a1 h => Ax [] (DV N p0 v1 a1) Te rfl (qa rfl (Ac (wq rfl (qm rfl (BG rfl (Ac ?_))))))
 refine Bj h (fun h => ?_) fun h => ?_
 ·refine wq rfl (qm rfl (qe rfl ?_))
  obtain rfl := sj h
  refine Af (sm [] [(4, iD v1)] [] rfl rfl) (Ar ?_)
  exact ⟨⟨[_], tm, rfl⟩, tv⟩
 ·refine Ap (AO ?_)
  refine AK h (fun v3 => mk [(2, oD (.ptr 2 0)), (3, oD (.ptr 3 0)), (41, bD v3)] [(2, .box (Al p0)), (3, .box (Be p1))]) (fun j3 h => ?_) (fun v3 h => ?_)
  ·refine Ak Ay rfl (qf CV rfl (ql Bc rfl (AH AB rfl (qf BB rfl (ql Bc rfl (AH AB rfl (BG rfl (qm rfl ?_))))))))
   refine CJ 24 h rfl (fun h => ?_) fun h => ?_
   ·refine qw 7 rfl (qp rfl (qw 8 rfl (qp rfl (Ac ?_))))
    exact sn [] h
   ·refine qf BO rfl (ql Bc rfl (AH AB rfl (qf BB rfl (ql Bc rfl (AH AB rfl (BG rfl (qp rfl (qm rfl ?_))))))))
    refine CJ 33 h rfl (fun h => ?_) fun h => ?_
    ·refine qw 7 rfl (qp rfl (Ac ?_))
     exact sn [] h
    ·refine qf CE rfl (ql GQ rfl (AH Dz rfl (qf BF rfl (ql EU rfl (AH CP rfl (BG rfl (qp rfl (Ac ?_))))))))
     exact sn [] h
  ·refine Bj h (fun h => ?_) fun h => ?_
   ·refine wq rfl (qe rfl ?_)
    obtain rfl := sj h
    refine Af (sm [] [(4, iD 6)] [] rfl rfl) (Ar ?_)
    exact ⟨⟨[_], tm, rfl⟩, tv⟩
   ·refine Ap (wp rfl (qf BB rfl (ql Bc rfl (AH AB rfl (qm rfl (Ac ?_))))))
    refine A5 (L := CS N p0 p1) h (fun v7 => mk [(2, oD (.ptr 2 0)), (3, oD (.ptr 3 0)), (43, pD (.sl (p0.fb.map As))), (44, iD ((p0.fb.length : Int))), (45, iD v7)] [(2, .box (Al p0)), (3, .box (Be p1))]) (fun v8 => mk [(2, oD (.ptr 2 0)), (3, oD (.ptr 3 0))] [(2, .box (Al p0)), (3, .box (Be p1))]) (fun _ _ => rfl) (sm [] _ _ rfl rfl) (fun j7 n7 v7 h => ?_) (fun v8 s h hs => ?_)
    ·unfold CS at h
     refine wq rfl (A4 rfl (Ac (AO ?_)))
     refine Bj h (fun h => ?_) fun h => ?_
     ·refine Ap (AO (AP (wq rfl (qm rfl ?_))))
      refine BP h fun v10 a10 b10 h => qi AB CK a10 (Ai b10) rfl (qk Ba rfl (qa rfl (qa rfl (Ac (AO ?_)))))
      refine AK h (fun v11 => mk [(2, oD (.ptr 2 0)), (3, oD (.ptr 3 0)), (6, iD v7), (43, pD (.sl (p0.fb.map As))), (44, iD ((p0.fb.length : Int))), (45, iD v7), (81, bD v11)] [(2, .box (Al p0)), (3, .box (Be p1))]) (fun j11 h => ?_) (fun v11 h => ?_)
      ·refine Ak Ay rfl (qf CV rfl (ql Bc rfl (qm rfl ?_)))
       refine BP h fun v12 a12 b12 h => qi AB CK a12 (Ai b12) rfl (qk Ba rfl (A4 rfl (qm rfl ?_)))
       refine CJ 56 h rfl (fun h => ?_) fun h => ?_
       ·refine qw 7 rfl (qp rfl (qw 7 rfl (qp rfl (qw 8 rfl (qp rfl (Ac ?_))))))
        exact sn [] h
       ·refine qf CV rfl (ql Bc rfl (qm rfl ?_))
        refine BP h fun v14 a14 b14 h => qi AB CK a14 (Ai b14) rfl (qk Ba rfl (qm rfl (Dx rfl (qp rfl (qm rfl ?_)))))
        refine CJ 65 h rfl (fun h => ?_) fun h => ?_
        ·refine qw 6 rfl (qp rfl (qw 8 rfl (qp rfl (Ac ?_))))
         exact sn [] h
        ·refine qf BO rfl (ql Bc rfl (qm rfl ?_))
         refine BP h fun v16 a16 b16 h => qi AB CK a16 (Ai b16) rfl (qk Ba rfl (A4 rfl (qp rfl (qm rfl ?_))))
         refine CJ 73 h rfl (fun h => ?_) fun h => ?_
         ·refine qw 7 rfl (qp rfl (Ac ?_))
          exact sn [] h
         ·refine qf BO rfl (ql Bc rfl (qm rfl ?_))
          refine BP h fun v18 a18 b18 h => qi AB CK a18 (Ai b18) rfl (qk Ba rfl (qm rfl (Dx rfl (qp rfl (Ac ?_)))))
          exact sn [] h
      ·refine Bj h (fun h => ?_) fun h => ?_
       ·refine wq rfl (qe rfl ?_)
        obtain rfl := sj h
        refine Af (sm [] [(4, iD 7)] [] rfl rfl) (Ar ?_)
        exact ⟨⟨[_], tm, rfl⟩, tv⟩
       ·refine Ap (wq rfl (qf CV rfl (ql Bc rfl (qm rfl ?_))))
        refine BP h fun v20 a20 b20 h => qi AB CK a20 (Ai b20) rfl (qk Ba rfl (qf BO rfl (ql Bc rfl (qm rfl ?_))))
        refine BP h fun v21 a21 b21 h => qi AB CK a21 (Ai b21) rfl (qk Ba rfl (AN rfl (AE (by kernel_rfl) ?_)))
        refine Bj h (fun h => ?_) fun h => ?_
        ·refine wq rfl (qe rfl ?_)
         obtain rfl := sj h
         refine Af (sm [] [(4, iD 1)] [] rfl rfl) (Ar ?_)
         exact ⟨⟨[_], tm, rfl⟩, tv⟩
        ·refine Ap (Ak Ay rfl (Cq rfl (qm rfl (Ac ?_))))
         exact sn [] h
     ·refine BV ?_
      exact sn [] h
    ·refine Af hs (wp rfl (qf BF rfl (ql EU rfl (AH CP rfl (qm rfl (Ac ?_))))))
     refine A5 (L := CB N p0 p1) h (fun v23 => mk [(2, oD (.ptr 2 0)), (3, oD (.ptr 3 0)), (95, pD (.sl (p0.fd.map Bv))), (96, iD ((p0.fd.length : Int))), (97, iD v23)] [(2, .box (Al p0)), (3, .box (Be p1))]) (fun v24 => mk [] []) (fun _ _ => rfl) (sm [] _ _ rfl rfl) (fun j23 n23 v23 h => ?_) (fun v24 s h hs => ?_)
     ·unfold CB at h
      refine wq rfl (A4 rfl (Ac (AO ?_)))
      refine Bj h (fun h => ?_) fun h => ?_
      ·refine Ap (AO (AP (wq rfl (qm rfl ?_))))
       refine BP h fun v26 a26 b26 h => qi CP BT a26 (Ai b26) rfl (qK EP BT rfl (qz Jo rfl (qa rfl (qs BT rfl (Ac (wq rfl (qa rfl (qe rfl ?_))))))))
       refine AK h (fun v27 => mk [(2, oD (.ptr 2 0)), (3, oD (.ptr 3 0)), (8, iD v23), (10, pD (.val (.int .u8 v27.1))), (11, pD (.val (.int .u8 v27.2))), (95, pD (.sl (p0.fd.map Bv))), (96, iD ((p0.fd.length : Int))), (97, iD v23)] [(2, .box (Al p0)), (3, .box (Be p1))]) (fun j27 h => ?_) (fun v27 h => ?_)
       ·refine wq rfl (qL EP BT rfl ?_)
        refine Ca h fun v28 a28 h => Ax [] (JH N v26 v28 a28) Tu rfl (Ac ?_)
        refine Bj h (fun h => ?_) fun h => ?_
        ·refine Ak Ay rfl (qL B0 AQ rfl (qf Cf rfl (ql Ba rfl ?_)))
         refine Ca h fun v30 a30 h => Ax [] (Mb N p1 v26.fj v30 a30) Va rfl (qf BB rfl (ql Bc rfl (qf Cf rfl (ql Ba rfl ?_))))
         refine BP h fun v31 a31 b31 h => qi AB CK a31 (Ai b31) rfl (qk Ba rfl ?_)
         refine Hj h fun c32 h => H0 rfl c32 (KE rfl (qa rfl (qa rfl (AE (by kernel_rfl) ?_))))
         exact sn [] h
        ·refine Ap ?_
         exact sn [] h
       ·refine AK h (fun v33 => mk [(2, oD (.ptr 2 0)), (3, oD (.ptr 3 0)), (95, pD (.sl (p0.fd.map Bv))), (96, iD ((p0.fd.length : Int))), (97, iD v23), (133, bD v33)] [(2, .box (Al p0)), (3, .box (Be p1))]) (fun j33 h => ?_) (fun v33 h => ?_)
        ·refine Ak Ay rfl (qm rfl (qf CE rfl (ql GQ rfl (qm rfl ?_))))
         refine BP h fun v34 a34 b34 h => qi Dz DE a34 (Ai b34) rfl (qk Hc rfl (GM rfl (BG rfl (qm rfl ?_))))
         refine CJ 124 h rfl (fun h => ?_) fun h => ?_
         ·refine qw 8 rfl (qp rfl (Ac ?_))
          exact sn [] h
         ·refine qf CE rfl (ql GQ rfl (qm rfl ?_))
          refine BP h fun v36 a36 b36 h => qi Dz DE a36 (Ai b36) rfl (qk Hc rfl (qm rfl (GM rfl (BG rfl (qp rfl (Ac ?_))))))
          exact sn [] h
        ·refine Bj h (fun h => ?_) fun h => ?_
         ·refine wq rfl (qe rfl ?_)
          obtain rfl := sj h
          refine Af (sm [] [(4, iD 1)] [] rfl rfl) (Ar ?_)
          exact ⟨⟨[_], tm, rfl⟩, tv⟩
         ·refine Ap (Ak Ay rfl (Cq rfl (qm rfl (Ac ?_))))
          exact sn [] h
      ·refine BV ?_
       exact sn [] h
     ·refine Af hs (wq rfl (qe rfl ?_))
      obtain rfl := sj h
      refine Af (sm [] [(4, iD 0)] [] rfl rfl) (Ar ?_)
      exact ⟨⟨[_], tm, rfl⟩, tv⟩
theorem FQ (N : Nat) (p0 : List Int) (r : (List Int)) (h : BH N p0 = some r) : Aq uS 177 [pD (.sl (p0.map Dw))] [(1, r.map Dw)] (oD (.own 0)) := by
 unfold BH at h
 refine cw (n := 8) (rs := [.tmp 2]) Tryz.func177 fun w0 S0 => ?_
 refine wq rfl (qa rfl (Ac (wp rfl (qm rfl ?_))))
 refine Na (.p rfl) rfl Dz ?_
 refine Ac ?_
 refine Ni rfl (fun c2 => ?_) ?_
 ·have c2 := zC5.1 c2
  rw [c2] at h
  have h : (some (([] : List Int))) = some r := h
  refine wq rfl (qe rfl ?_)
  obtain rfl := sj h
  refine Af ((Fj 2 2001 1 rfl rfl rfl).trans (sm [(1000, 2001)] [(2, oD (.own 1000))] [(1000, .vec 1 ((([] : List Int)).map Dw))] rfl rfl)) (Ar ?_)
  exact ⟨⟨[_], tm, rfl⟩, ⟨rfl, tv⟩⟩
 ·refine Ap (wq rfl (Ft Dz DE LS rfl (qm rfl ?_)))
  refine Hj h fun c1 h => Kd (f := Dw) Dz Dz DE Nr LS (fun _ => rfl) c1 rfl (qe rfl ?_)
  obtain rfl := sj h
  refine Af (sm [(1000, 7)] [(2, oD (.own 1000))] [(1000, .vec 1 (((([] : List Int)) ++ p0).map Dw))] rfl rfl) (Ar ?_)
  exact ⟨⟨[_], tm, rfl⟩, ⟨rfl, tv⟩⟩
theorem I9 (N : Nat) (p0 : Ad) (r : Ad) (h : D7 N p0 = some r) : Aq uS 153 [.e (.agg (Be p0))] [(1, r.fh.map As), (1, r.fe.map As), (1, r.ff.map Dw)] (.e (.agg [.own 0, .own 1, .own 2])) := by
 unfold D7 at h
 refine cw (n := 13) (rs := [.cell 2 40]) Tryz.func153 fun w0 S0 => ?_
 refine wq rfl (qb rfl (qz C7 rfl (Ac (wq rfl (qf CV rfl (ql Bc rfl ?_))))))
 refine Ca h fun v1 a1 h => Ax [2001] (Ei N p0.fh v1 a1) Rb rfl (qf BO rfl (ql Bc rfl ?_))
 refine Ca h fun v2 a2 h => Ax [2002] (Ei N p0.fe v2 a2) Rb rfl (qf CE rfl (ql GQ rfl ?_))
 refine Ca h fun v3 a3 h => Ax [2003] (FQ N p0.ff v3 a3) Vd rfl (Bt C7 Gt rfl (qs AQ rfl (AE (by kernel_rfl) ?_)))
 obtain rfl := sj h
 refine Af (sm [(1000, 2001), (1001, 2002), (1002, 2003)] [(2, oD (.ptr 2 0))] [(2, .box [.own 1000, .own 1001, .own 1002]), (1000, .vec 1 (v1.map As)), (1001, .vec 1 (v2.map As)), (1002, .vec 1 (v3.map Dw))] rfl rfl) (Ar ?_)
 exact ⟨⟨[_], ⟨.cellN _ _ _ _ _ _ _ rfl rfl B0 AQ rfl rfl (H7 rfl), tv⟩, rfl⟩, ⟨rfl, rfl, rfl, tv⟩⟩
theorem M3 (N : Nat) (p0 : Am) (r : Bool) (h : E6 N p0 = some r) : Aq uS 178 [.e (.agg (B1 p0))] [] (bD r) := by
 unfold E6 at h
 refine cw (n := 27) (rs := [.tmp 2]) Tryz.func178 fun w0 S0 => ?_
 refine wq rfl (qb rfl (qa rfl (Ac (AO ?_))))
 refine AK h (fun v1 => mk [(1, oD (.ptr 1 0)), (18, bD v1)] [(1, .box (B1 p0))]) (fun j1 h => ?_) (fun v1 h => ?_)
 ·refine Ak Ay rfl (qf Dy rfl (ql Ba rfl (qf Fd rfl (ql Ba rfl ?_))))
  refine U5 (.p rfl) rfl rfl ?_
  refine A4 rfl (qm rfl ?_)
  refine CJ 9 h rfl (fun h => ?_) fun h => ?_
  ·refine qw 3 rfl (qp rfl (qw 4 rfl (qp rfl (Ac ?_))))
   exact sn [] h
  ·refine qf Dl rfl (ql Ba rfl (A4 rfl (qp rfl (qm rfl ?_))))
   refine CJ 14 h rfl (fun h => ?_) fun h => ?_
   ·refine qw 3 rfl (qp rfl (Ac ?_))
    exact sn [] h
   ·refine qf Dl rfl (ql Ba rfl (DZ rfl (qp rfl (Ac ?_))))
    exact sn [] h
 ·refine Bj h (fun h => ?_) fun h => ?_
  ·refine wq rfl (qe rfl ?_)
   obtain rfl := sj h
   refine Af (sm [] [(2, bD false)] [] rfl rfl) (Ar ?_)
   exact ⟨⟨[_], tm, rfl⟩, tv⟩
  ·refine Ap ?_
   refine AK h (fun v5 => mk [(2, bD v5)] []) (fun j5 h => ?_) (fun v5 h => ?_)
   ·refine Ak Ay rfl (qf Dl rfl (ql Ba rfl (AN rfl (qm rfl ?_))))
    refine CJ 22 h rfl (fun h => ?_) fun h => ?_
    ·refine qw 3 rfl (qp rfl (qe rfl ?_))
     exact sn [] h
    ·refine qf Fd rfl (ql Ba rfl (AN rfl (qp rfl (qe rfl ?_))))
     exact sn [] h
   ·obtain rfl := sj h
    refine Af (sm [] [(2, bD v5)] [] rfl rfl) (Ar ?_)
    exact ⟨⟨[_], tm, rfl⟩, tv⟩
theorem Ml (N : Nat) (p0 : Aa) (p1 : Am) (r : Bool) (h : EK N p0 p1 = some r) : Aq uS 179 [.e (.agg (Al p0)), .e (.agg (B1 p1))] [] (bD r) := by
 unfold EK at h
 refine cw (n := 36) (rs := [.tmp 4]) Tryz.func179 fun w0 S0 => ?_
 refine wq rfl (qb rfl (qb rfl (qa rfl (Ac (wp rfl (qf Dl rfl (ql Ba rfl (AN rfl (Ac ?_)))))))))
 refine Bj h (fun h => ?_) fun h => ?_
 ·refine wq rfl (qf Dy rfl (ql Ba rfl (qf BF rfl (ql EU rfl (AH CP rfl (A4 rfl (qe rfl ?_)))))))
  obtain rfl := sj h
  refine Af (sm [] [(4, bD ((decide (p1.fm < (p0.fd.length : Int)))))] [] rfl rfl) (Ar ?_)
  exact ⟨⟨[_], tm, rfl⟩, tv⟩
 ·refine Ap ?_
  refine AK h (fun v2 => mk [(4, bD v2)] []) (fun j2 h => ?_) (fun v2 h => ?_)
  ·refine Ak Ay rfl (qf Dy rfl (ql Ba rfl (qf BB rfl (ql Bc rfl (AH AB rfl (A4 rfl (qm rfl ?_)))))))
   refine CJ 20 h rfl (fun h => ?_) fun h => ?_
   ·refine qf Dl rfl (ql Ba rfl (BG rfl (qm rfl ?_)))
    refine CJ 24 h rfl (fun h => ?_) fun h => ?_
    ·refine qw 9 rfl (qp rfl (qp rfl (qa rfl (AE (by kernel_rfl) ?_))))
     exact sn [] h
    ·refine qf Fd rfl (ql Ba rfl (qf BB rfl (ql Bc rfl (qf Dy rfl (ql Ba rfl ?_)))))
     refine BP h fun v5 a5 b5 h => qi AB CK a5 (Ai b5) rfl (qk Ba rfl (A4 rfl (qp rfl (qp rfl (qa rfl (AE (by kernel_rfl) ?_))))))
     exact sn [] h
   ·refine qw 4 rfl (qu rfl (qu rfl (qu rfl (qu rfl (qu rfl (qu rfl (qu rfl (qu rfl (qu rfl (qn rfl (qp rfl (qa rfl (AE (by kernel_rfl) ?_)))))))))))))
    exact sn [] h
  ·obtain rfl := sj h
   refine Af (sm [] [(4, bD v2)] [] rfl rfl) (Ar ?_)
   exact ⟨⟨[_], tm, rfl⟩, tv⟩
theorem I5 (N : Nat) (p0 : AG) (r : Bool) (h : D4 N p0 = some r) : Aq uS 197 [.e (.agg (Cy p0))] [] (bD r) := by
 unfold D4 at h
 refine cw (n := 11) (rs := [.tmp 2]) Tryz.func197 fun w0 S0 => ?_
 refine wq rfl (qb rfl (qe rfl ?_))
 refine AK h (fun v1 => mk [(2, bD v1)] []) (fun j1 h => ?_) (fun v1 h => ?_)
 ·refine Ak Ay rfl (qf DH rfl (ql Ba rfl (AN rfl (qm rfl ?_))))
  refine CJ 6 h rfl (fun h => ?_) fun h => ?_
  ·refine qw 3 rfl (qp rfl (qe rfl ?_))
   exact sn [] h
  ·refine qf DH rfl (ql Ba rfl (AN rfl (qp rfl (qe rfl ?_))))
   exact sn [] h
 ·obtain rfl := sj h
  refine Af (sm [] [(2, bD v1)] [] rfl rfl) (Ar ?_)
  exact ⟨⟨[_], tm, rfl⟩, tv⟩
theorem Nh (N : Nat) (p0 : Aa) (p1 : Ad) (p2 : Am) (r : Bool × (List Int) × (List Int)) (h : F1 N p0 p1 p2 = some r) : Do uS 192 [.e (.agg (Al p0)), oD (.ptr 90000 0), .e (.agg (B1 p2))] [(.box [.own 90001, .own 90002, .own 90003], .box [.own 90001, .own 90002, .own 90003]), (.vec 1 (p1.fh.map As), .vec 1 (p1.fh.map As)), (.vec 1 (p1.fe.map As), .vec 1 (r.2.1.map As)), (.vec 1 (p1.ff.map Dw), .vec 1 (r.2.2.map Dw))] [] (bD r.1) := by
 unfold F1 at h
 refine Db (n := 70) (rs := [.tmp 6]) Tryz.func192 rfl rfl rfl (GC rfl) (GC rfl) rfl rfl (GC rfl) rfl (GC rfl) fun w0 S0 GL => ?_
 refine Af (sm [] [(0, .e (.agg (Al p0))), (1, oD (.ptr 90000 0)), (2, .e (.agg (B1 p2)))] [(90000, .box [.own 90001, .own 90002, .own 90003]), (90001, .vec 1 (p1.fh.map As)), (90002, .vec 1 (p1.fe.map As)), (90003, .vec 1 (p1.ff.map Dw))] rfl rfl) (wq rfl (qb rfl (qb rfl (qa rfl (Ac (AO ?_))))))
 refine AK h (fun v1 => mk [(1, oD (.ptr 90000 0)), (3, oD (.ptr 3 0)), (5, oD (.ptr 5 0)), (30, bD v1)] [(3, .box (Al p0)), (5, .box (B1 p2)), (90000, .box [.own 90001, .own 90002, .own 90003]), (90001, .vec 1 (p1.fh.map As)), (90002, .vec 1 (p1.fe.map As)), (90003, .vec 1 (p1.ff.map Dw))]) (fun j1 h => ?_) (fun v1 h => ?_)
 ·refine Ak Ay rfl (qm rfl (Hx rfl (qf BO rfl (ql Bc rfl (qf Dy rfl (ql Ba rfl ?_))))))
  refine BP h fun v2 a2 b2 h => qI AB CK a2 (Ai b2) rfl (qj Ba (Ai b2) rfl (Dx rfl (qm rfl ?_)))
  refine CJ 18 h rfl (fun h => ?_) fun h => ?_
  ·refine qw 11 rfl (qp rfl (AE (by kernel_rfl) ?_))
   exact sn [] h
  ·refine qm rfl (Hx rfl (qf CV rfl (ql Bc rfl (qf Dy rfl (ql Ba rfl ?_)))))
   refine BP h fun v4 a4 b4 h => qI AB CK a4 (Ai b4) rfl (qj Ba (Ai b4) rfl (qf Fd rfl (ql Ba rfl (AN rfl (qp rfl (AE (by kernel_rfl) ?_))))))
   exact sn [] h
 ·refine Bj h (fun h => ?_) fun h => ?_
  ·refine wq rfl (qe rfl ?_)
   obtain rfl := sj h
   refine Af (sm [] [(6, bD false)] [(90000, .box [.own 90001, .own 90002, .own 90003]), (90001, .vec 1 (p1.fh.map As)), (90002, .vec 1 (p1.fe.map As)), (90003, .vec 1 (p1.ff.map Dw))] rfl rfl) (Ar ?_)
   exact ⟨⟨[_], tm, rfl⟩, ⟨rfl, rfl, rfl, rfl, tv⟩, tv⟩
  ·refine Ap (wq rfl (qm rfl (Hx rfl (qf BO rfl (ql Bc rfl (qf Dy rfl (ql Ba rfl (qf Fd rfl (ql Ba rfl ?_)))))))))
   refine BP h fun v6 a6 b6 h => qI AB CK a6 (Ai b6) rfl ?_
   refine Ep rfl rfl rfl rfl (Ai b6) rfl CK rfl (GC rfl) (Em As p1.fe _ p2.fq) ?_
   refine AE (by kernel_rfl) (wp rfl (qf BF rfl (ql EU rfl (AH CP rfl (qm rfl (Ac ?_))))))
   refine A5 (L := CA N p0 p2) h (fun v7 => mk [(1, oD (.ptr 90000 0)), (5, oD (.ptr 5 0)), (41, pD (.sl (p0.fd.map Bv))), (42, iD ((p0.fd.length : Int))), (43, iD v7.2)] [(5, .box (B1 p2)), (90000, .box [.own 90001, .own 90002, .own 90003]), (90001, .vec 1 (p1.fh.map As)), (90002, .vec 1 ((p1.fe.set ((p2.fm).toNat) p2.fq).map As)), (90003, .vec 1 (v7.1.map Dw))]) (fun v8 => mk [] [(90000, .box [.own 90001, .own 90002, .own 90003]), (90001, .vec 1 (p1.fh.map As)), (90002, .vec 1 ((p1.fe.set ((p2.fm).toNat) p2.fq).map As)), (90003, .vec 1 (v8.map Dw))]) (fun _ _ => rfl) (sm [] _ _ rfl rfl) (fun j7 n7 v7 h => ?_) (fun v8 s h hs => ?_)
   ·unfold CA at h
    refine wq rfl (A4 rfl (Ac (AO ?_)))
    refine Bj h (fun h => ?_) fun h => ?_
    ·refine Ap ?_
     refine AK h (fun v10 => mk [(1, oD (.ptr 90000 0)), (5, oD (.ptr 5 0)), (41, pD (.sl (p0.fd.map Bv))), (42, iD ((p0.fd.length : Int))), (43, iD v7.2)] [(5, .box (B1 p2)), (90000, .box [.own 90001, .own 90002, .own 90003]), (90001, .vec 1 (p1.fh.map As)), (90002, .vec 1 ((p1.fe.set ((p2.fm).toNat) p2.fq).map As)), (90003, .vec 1 (v10.map Dw))]) (fun j10 h => ?_) (fun v10 h => ?_)
     ·refine AP (wq rfl (qm rfl ?_))
      refine BP h fun v11 a11 b11 h => qi CP BT a11 (Ai b11) rfl (qK EP BT rfl (qz Jo rfl (qa rfl (qs BT rfl (Ac ?_)))))
      refine AK h (fun v12 => mk [(1, oD (.ptr 90000 0)), (5, oD (.ptr 5 0)), (7, iD v7.2), (41, pD (.sl (p0.fd.map Bv))), (42, iD ((p0.fd.length : Int))), (43, iD v7.2), (56, bD v12)] [(5, .box (B1 p2)), (90000, .box [.own 90001, .own 90002, .own 90003]), (90001, .vec 1 (p1.fh.map As)), (90002, .vec 1 ((p1.fe.set ((p2.fm).toNat) p2.fq).map As)), (90003, .vec 1 (v7.1.map Dw))]) (fun j12 h => ?_) (fun v12 h => ?_)
      ·refine Ak Ay rfl (qf Cf rfl (ql Ba rfl (qf Dy rfl (ql Ba rfl (AN rfl (qm rfl ?_))))))
       refine CJ 53 h rfl (fun h => ?_) fun h => ?_
       ·refine qL EP BT rfl ?_
        refine Ca h fun v14 a14 h => Ax [] (I5 N v11 v14 a14) TD rfl (qp rfl (Ac ?_))
        exact sn [] h
       ·refine qw 2 rfl (qp rfl (Ac ?_))
        exact sn [] h
      ·refine Bj h (fun h => ?_) fun h => ?_
       ·refine Ak Ay rfl (qm rfl (Hx rfl (qf CE rfl (ql GQ rfl (qm rfl ?_)))))
        refine BP h fun v16 a16 b16 h => qI Dz DE a16 (Ai b16) rfl (qj Hc (Ai b16) rfl (qf Fd rfl (ql Ba rfl ?_)))
        refine Hj h fun c17 h => H0 rfl c17 (Q9 rfl ?_)
        refine BP h fun v18 a18 b18 h => qI Dz DE a18 (Ai b18) rfl ?_
        refine Ep rfl rfl rfl rfl (Ai b18) rfl DE rfl (GC rfl) (Em Dw v7.1 _ ((KL .u8 v16 ((Dk .u8 1 p2.fq))))) ?_
        refine AE (by kernel_rfl) ?_
        exact sn [] h
       ·refine Ap ?_
        exact sn [] h
     ·refine Ak Ay rfl (Cq rfl (qm rfl (Ac ?_)))
      exact sn [] h
    ·refine BV ?_
     exact sn [] h
   ·refine Af hs (wq rfl (qe rfl ?_))
    obtain rfl := sj h
    refine Af (sm [] [(6, bD true)] [(90000, .box [.own 90001, .own 90002, .own 90003]), (90001, .vec 1 (p1.fh.map As)), (90002, .vec 1 ((p1.fe.set ((p2.fm).toNat) p2.fq).map As)), (90003, .vec 1 (v8.map Dw))] rfl rfl) (Ar ?_)
    exact ⟨⟨[_], tm, rfl⟩, ⟨rfl, rfl, rfl, rfl, tv⟩, tv⟩
theorem Ld (N : Nat) (p0 : Ad) (p1 : Int) (r : Int) (h : El N p0 p1 = some r) : Aq uS 198 [.e (.agg (Be p0)), iD p1] [] (pD (.val (.int .u8 r))) := by
 unfold El at h
 refine cw (n := 27) (rs := [.tmp 4]) Tryz.func198 fun w0 S0 => ?_
 refine wq rfl (qb rfl (qa rfl (Ac (wq rfl (qf CV rfl (ql Bc rfl (qm rfl ?_)))))))
 refine BP h fun v1 a1 b1 h => qi AB CK a1 (Ai b1) rfl (qk Ba rfl ?_)
 refine Hj h fun c2 h => H0 rfl c2 (qe rfl ?_)
 refine AK h (fun v3 => mk [(5, pD (.val (.int .u8 v3)))] []) (fun j3 h => ?_) (fun v3 h => ?_)
 ·refine wq rfl (qf BO rfl (ql Bc rfl (qm rfl ?_)))
  refine BP h fun v4 a4 b4 h => qi AB CK a4 (Ai b4) rfl (qk Ba rfl (Dx rfl (Ac ?_)))
  refine Bj h (fun h => ?_) fun h => ?_
  ·refine Ak Ay rfl (qm rfl (qf BO rfl (ql Bc rfl (qm rfl ?_))))
   refine BP h fun v6 a6 b6 h => qi AB CK a6 (Ai b6) rfl (qk Ba rfl ?_)
   refine Hj h fun c7 h => H0 rfl c7 (Q9 rfl (qe rfl ?_))
   exact sn [] h
  ·refine Ap ?_
   exact sn [] h
 ·refine wq rfl (qm rfl (qe rfl ?_))
  obtain rfl := sj h
  refine Af (sm [] [(4, pD (.val (.int .u8 v3)))] [] rfl rfl) (Ar ?_)
  exact ⟨⟨[_], tm, rfl⟩, tv⟩
theorem GW (N : Nat) (p0 : Int) (r : Int) (h : BZ N p0 = some r) : Aq uS 200 [pD (.val (.int .u8 p0))] [] (iD r) := by
 unfold BZ at h
 refine cw (n := 6) (rs := [.tmp 2]) Tryz.func200 fun w0 S0 => ?_
 refine wq rfl (qa rfl (Ac (wq rfl (qm rfl ?_))))
 refine Ca h fun v1 a1 h => Qn (.p rfl) rfl rfl M0 a1 ?_
 refine J5 W4 WI rfl (qe rfl ?_)
 obtain rfl := sj h
 refine Af (sm [] [(2, iD ((wI .i64 v1)))] [] rfl rfl) (Ar ?_)
 exact ⟨⟨[_], tm, rfl⟩, tv⟩
theorem Jq (N : Nat) (p0 : AG) (p1 : Int) (p2 : Int) (r : Bool) (h : Ee N p0 p1 p2 = some r) : Aq uS 199 [.e (.agg (Cy p0)), pD (.val (.int .u8 p1)), iD p2] [] (bD r) := by
 unfold Ee at h
 refine cw (n := 25) (rs := [.tmp 6]) Tryz.func199 fun w0 S0 => ?_
 refine wq rfl (qb rfl (qa rfl (Ac (wp rfl (qm rfl (qe rfl ?_))))))
 refine A5 (L := Co N p0 p2) h (fun v1 => mk [(2, iD p2), (3, oD (.ptr 3 0)), (7, pD (.val (.int .u8 v1)))] [(3, .box (Cy p0))]) (fun v2 => mk [] []) (fun _ _ => rfl) (sm [] _ _ rfl rfl) (fun j1 n1 v1 h => ?_) (fun v2 s h hs => ?_)
 ·unfold Co at h
  refine wp rfl (qm rfl (BG rfl (Ac ?_)))
  refine Bj h (fun h => ?_) fun h => ?_
  ·refine Ap (AO (AP (wq rfl (qf DT rfl (ql E5 rfl (qm rfl ?_))))))
   refine Ca h fun v4 a4 h => Ax [] (GW N v1 v4 a4) V8 rfl ?_
   refine BP h fun v5 a5 b5 h => qi DM JA a5 (Ai b5) rfl (qk JT rfl (qm rfl ?_))
   refine BP h fun v6 a6 b6 h => qi HF UQ a6 (Ai b6) rfl (qk TV rfl (Cz rfl (AE (by kernel_rfl) ?_)))
   refine Bj h (fun h => ?_) fun h => ?_
   ·refine wq rfl (qe rfl ?_)
    obtain rfl := sj h
    refine Af (sm [] [(6, bD false)] [] rfl rfl) (Ar ?_)
    exact ⟨⟨[_], tm, rfl⟩, tv⟩
   ·refine Ap (Ak Ay rfl (qw 2 rfl (KE rfl (MU rfl (qe rfl ?_)))))
    exact sn [] h
  ·refine BV ?_
   exact sn [] h
 ·refine Af hs (wq rfl (qe rfl ?_))
  obtain rfl := sj h
  refine Af (sm [] [(6, bD true)] [] rfl rfl) (Ar ?_)
  exact ⟨⟨[_], tm, rfl⟩, tv⟩
theorem NB (N : Nat) (p0 : Aa) (p1 : Ad) (p2 : Int) (r : Bool × (List Int)) (h : Fa N p0 p1 p2 = some r) : Do uS 193 [.e (.agg (Al p0)), oD (.ptr 90000 0), iD p2] [(.box [.own 90001, .own 90002, .own 90003], .box [.own 90001, .own 90002, .own 90003]), (.vec 1 (p1.fh.map As), .vec 1 (p1.fh.map As)), (.vec 1 (p1.fe.map As), .vec 1 (p1.fe.map As)), (.vec 1 (p1.ff.map Dw), .vec 1 (r.2.map Dw))] [] (bD r.1) := by
 unfold Fa at h
 refine Db (n := 68) (rs := [.tmp 6]) Tryz.func193 rfl rfl rfl (GC rfl) (GC rfl) rfl rfl (GC rfl) rfl (GC rfl) fun w0 S0 GL => ?_
 refine Af (sm [] [(0, .e (.agg (Al p0))), (1, oD (.ptr 90000 0)), (2, iD p2)] [(90000, .box [.own 90001, .own 90002, .own 90003]), (90001, .vec 1 (p1.fh.map As)), (90002, .vec 1 (p1.fe.map As)), (90003, .vec 1 (p1.ff.map Dw))] rfl rfl) (wq rfl (qb rfl (qa rfl (Ac (wq rfl (qf BF rfl (ql EU rfl (qm rfl ?_))))))))
 refine BP h fun v1 a1 b1 h => qi CP BT a1 (Ai b1) rfl (qK EP BT rfl (qz Jo rfl (qs BT rfl (Ac (wp rfl (qL EP BT rfl ?_))))))
 refine Ca h fun v2 a2 h => Ax [] (I5 N v1 v2 a2) TD rfl (Cz rfl (Ac ?_))
 refine Bj h (fun h => ?_) fun h => ?_
 ·refine wq rfl (qe rfl ?_)
  obtain rfl := sj h
  refine Af (sm [] [(6, bD false)] [(90000, .box [.own 90001, .own 90002, .own 90003]), (90001, .vec 1 (p1.fh.map As)), (90002, .vec 1 (p1.fe.map As)), (90003, .vec 1 (p1.ff.map Dw))] rfl rfl) (Ar ?_)
  exact ⟨⟨[_], tm, rfl⟩, ⟨rfl, rfl, rfl, rfl, tv⟩, tv⟩
 ·refine Ap (wq rfl (qm rfl (Hx rfl (qL B0 AQ rfl (qf Cf rfl (ql Ba rfl ?_))))))
  refine Ca h fun v4 a4 h => Gy [] [90001, 90002, 90003] (Ld N p1 v1.fj v4 a4) UZ ET rfl (qa rfl (AE (by kernel_rfl) (wq rfl (qm rfl (Hx rfl (qf CE rfl (ql GQ rfl (qm rfl ?_))))))))
  refine BP h fun v5 a5 b5 h => qI Dz DE a5 (Ai b5) rfl (qj Hc (Ai b5) rfl (qm rfl (GM rfl (qa rfl (Ac (AO ?_))))))
  refine AK h (fun v6 => mk [(1, oD (.ptr 90000 0)), (2, iD p2), (8, pD (.val (.int .u8 v4))), (60, bD v6)] [(90000, .box [.own 90001, .own 90002, .own 90003]), (90001, .vec 1 (p1.fh.map As)), (90002, .vec 1 (p1.fe.map As)), (90003, .vec 1 (p1.ff.map Dw))]) (fun j6 h => ?_) (fun v6 h => ?_)
  ·refine Ak Ay rfl (qm rfl (Hx rfl (qf CE rfl (ql GQ rfl (qm rfl ?_)))))
   refine BP h fun v7 a7 b7 h => qI Dz DE a7 (Ai b7) rfl (qj Hc (Ai b7) rfl (qm rfl (AN rfl (qm rfl ?_))))
   refine CJ 42 h rfl (fun h => ?_) fun h => ?_
   ·refine qw 4 rfl (qu rfl (qu rfl (qu rfl (qu rfl (qu rfl (qu rfl (qu rfl (qu rfl (qu rfl (qu rfl (qu rfl (qu rfl (qn rfl (qp rfl (AE (by kernel_rfl) ?_)))))))))))))))
    exact sn [] h
   ·refine qf DH rfl (ql Ba rfl (AN rfl (qm rfl ?_)))
    refine CJ 46 h rfl (fun h => ?_) fun h => ?_
    ·refine qL EP BT rfl (qw 2 rfl (Hx rfl (qf CV rfl (ql Bc rfl (qf Cf rfl (ql Ba rfl ?_))))))
     refine BP h fun v10 a10 b10 h => qI AB CK a10 (Ai b10) rfl (qj Ba (Ai b10) rfl ?_)
     refine Ca h fun v11 a11 h => Ax [] (Jq N v1 ((Cc .u8 v5 v4)) v10 v11 a11) Wh rfl (Cz rfl (qp rfl (qp rfl (AE (by kernel_rfl) ?_))))
     exact sn [] h
    ·refine qw 12 rfl (qp rfl (qp rfl (AE (by kernel_rfl) ?_)))
     exact sn [] h
  ·refine Bj h (fun h => ?_) fun h => ?_
   ·refine wq rfl (qe rfl ?_)
    obtain rfl := sj h
    refine Af (sm [] [(6, bD false)] [(90000, .box [.own 90001, .own 90002, .own 90003]), (90001, .vec 1 (p1.fh.map As)), (90002, .vec 1 (p1.fe.map As)), (90003, .vec 1 (p1.ff.map Dw))] rfl rfl) (Ar ?_)
    exact ⟨⟨[_], tm, rfl⟩, ⟨rfl, rfl, rfl, rfl, tv⟩, tv⟩
   ·refine Ap (wq rfl (qm rfl (Hx rfl (qf CE rfl (ql GQ rfl (qw 2 rfl ?_))))))
    refine BP h fun v13 a13 b13 h => qI Dz DE a13 (Ai b13) rfl ?_
    refine Ep rfl rfl rfl rfl (Ai b13) rfl DE rfl (GC rfl) (Em Dw p1.ff _ v4) ?_
    refine Ac (wq rfl (qe rfl ?_))
    obtain rfl := sj h
    refine Af (sm [] [(6, bD true)] [(90000, .box [.own 90001, .own 90002, .own 90003]), (90001, .vec 1 (p1.fh.map As)), (90002, .vec 1 (p1.fe.map As)), (90003, .vec 1 ((p1.ff.set ((p2).toNat) v4).map Dw))] rfl rfl) (Ar ?_)
    exact ⟨⟨[_], tm, rfl⟩, ⟨rfl, rfl, rfl, rfl, tv⟩, tv⟩
theorem NE (N : Nat) (p0 : Aa) (p1 : Ad) (p2 : Am) (r : Ad × Bool) (h : E2 N p0 p1 p2 = some r) : Aq uS 180 [.e (.agg (Al p0)), .e (.agg (Be p1)), .e (.agg (B1 p2))] [(1, r.1.fh.map As), (1, r.1.fe.map As), (1, r.1.ff.map Dw)] (.tup [.agg [.own 0, .own 1, .own 2], .one (.pure (.val (.bool r.2)))]) := by
 unfold E2 at h
 refine cw (n := 51) (rs := [.cell 6 40, .tmp 7]) Tryz.func180 fun w0 S0 => ?_
 refine wq rfl (qb rfl (qb rfl (qb rfl (qz C7 rfl (qa rfl (Ac (wq rfl (qL B0 AQ rfl ?_))))))))
 refine Ca h fun v1 a1 h => Ax [2001, 2002, 2003] (I9 N p1 v1 a1) TC rfl (qz C7 rfl (qs AQ rfl (Ac (wp rfl (qf Dl rfl (ql Ba rfl (Ac (AP (wq rfl (AN rfl (qe rfl ?_)))))))))))
 refine Bj h (fun h => ?_) fun h => ?_
 ·refine wq rfl (qL B0 AQ rfl (qL DS DN rfl (qL Jh Gs rfl ?_)))
  refine Ca h fun v3 a3 h => Fc (ds0 := [_, _, _]) [8, 2001, 2002, 2003] [] [false, false, true, true] (Nh N p0 v1 p2 v3 a3) (.p rfl) V0 rfl ⟨rfl, rfl, rfl, tv⟩ rfl rfl (Ec rfl) ⟨rfl, rfl, rfl, rfl, tv⟩ rfl (CQ rfl) tv ⟨(fun _ => rfl), (fun _ => rfl), (fun h => by cases h), (fun h => by cases h), tv⟩ rfl rfl rfl ?_
  refine qs AQ rfl (qa rfl (AE (by kernel_rfl) ?_))
  obtain rfl := sj h
  refine Af (sm [(1000, 2001), (1001, 2002), (1002, 2003)] [(6, oD (.ptr 6 0)), (7, bD v3.1)] [(6, .box [.own 1000, .own 1001, .own 1002]), (1000, .vec 1 (v1.fh.map As)), (1001, .vec 1 (v3.2.1.map As)), (1002, .vec 1 (v3.2.2.map Dw))] rfl rfl) (Ar ?_)
  exact ⟨⟨[_, _], ⟨.cellN _ _ _ _ _ _ _ rfl rfl B0 AQ rfl rfl (H7 rfl), tm⟩, rfl⟩, ⟨rfl, rfl, rfl, tv⟩⟩
 ·refine wq rfl (AN rfl (qe rfl ?_))
  refine Bj h (fun h => ?_) fun h => ?_
  ·refine wq rfl (qL B0 AQ rfl (qL DS DN rfl (qf Dy rfl (ql Ba rfl ?_))))
   refine Ca h fun v5 a5 h => Fc (ds0 := [_, _, _]) [8, 2001, 2002, 2003] [] [false, false, false, true] (NB N p0 v1 p2.fm v5 a5) (.p rfl) VJ rfl ⟨rfl, rfl, rfl, tv⟩ rfl rfl (Ec rfl) ⟨rfl, rfl, rfl, rfl, tv⟩ rfl (CQ rfl) tv ⟨(fun _ => rfl), (fun _ => rfl), (fun _ => rfl), (fun h => by cases h), tv⟩ rfl rfl rfl ?_
   refine qs AQ rfl (qa rfl (AE (by kernel_rfl) ?_))
   obtain rfl := sj h
   refine Af (sm [(1000, 2001), (1001, 2002), (1002, 2003)] [(6, oD (.ptr 6 0)), (7, bD v5.1)] [(6, .box [.own 1000, .own 1001, .own 1002]), (1000, .vec 1 (v1.fh.map As)), (1001, .vec 1 (v1.fe.map As)), (1002, .vec 1 (v5.2.map Dw))] rfl rfl) (Ar ?_)
   exact ⟨⟨[_, _], ⟨.cellN _ _ _ _ _ _ _ rfl rfl B0 AQ rfl rfl (H7 rfl), tm⟩, rfl⟩, ⟨rfl, rfl, rfl, tv⟩⟩
  ·refine Ap (wq rfl (qf BO rfl (ql Bc rfl (qf Dy rfl (ql Ba rfl ?_)))))
   refine BP h fun v6 a6 b6 h => qI AB CK a6 (Ai b6) rfl (qj Ba (Ai b6) rfl (qa rfl (Ac (wp rfl (qm rfl (A4 rfl (Ac ?_)))))))
   refine Bj h (fun h => ?_) fun h => ?_
   ·refine wq rfl (qL B0 AQ rfl (qs AQ rfl (qe rfl ?_)))
    obtain rfl := sj h
    refine Af (sm [(1000, 2001), (1001, 2002), (1002, 2003)] [(6, oD (.ptr 6 0)), (7, bD false)] [(6, .box [.own 1000, .own 1001, .own 1002]), (1000, .vec 1 (v1.fh.map As)), (1001, .vec 1 (v1.fe.map As)), (1002, .vec 1 (v1.ff.map Dw))] rfl rfl) (Ar ?_)
    exact ⟨⟨[_, _], ⟨.cellN _ _ _ _ _ _ _ rfl rfl B0 AQ rfl rfl (H7 rfl), tm⟩, rfl⟩, ⟨rfl, rfl, rfl, tv⟩⟩
   ·refine Ap (wq rfl (qf BO rfl (ql Bc rfl (qf Dy rfl (ql Ba rfl ?_)))))
    refine BP h fun v8 a8 b8 h => qI AB CK a8 (Ai b8) rfl ?_
    refine Ep rfl rfl rfl rfl (Ai b8) rfl CK rfl (GC rfl) (Em As v1.fe _ ((-1))) ?_
    refine Ac ?_
    refine AK h (fun v9 => mk [(6, oD (.ptr 6 0)), (8, oD (.ptr 8 0))] [(6, .box [.pure (.nil0), .pure (.nil0), .pure (.nil0)]), (8, .box [.own 2004, .own 2005, .own 2006]), (2004, .vec 1 (v9.map As)), (2005, .vec 1 ((v1.fe.set ((p2.fm).toNat) ((-1))).map As)), (2006, .vec 1 (v1.ff.map Dw))]) (fun j9 h => ?_) (fun v9 h => ?_)
    ·refine wq rfl (qf Dl rfl (ql Ba rfl (AN rfl (Ac ?_))))
     refine Bj h (fun h => ?_) fun h => ?_
     ·refine Ak Ay rfl (qf CV rfl (ql Bc rfl (qf Dy rfl (ql Ba rfl (qm rfl ?_)))))
      refine BP h fun v11 a11 b11 h => qI AB CK a11 (Ai b11) rfl ?_
      refine Ep rfl rfl rfl rfl (Ai b11) rfl CK rfl (GC rfl) (Em As v1.fh _ v6) ?_
      refine Ac ?_
      exact sn [(2004, 2001), (2005, 2002), (2006, 2003)] h
     ·refine Ap ?_
      exact sn [(2004, 2001), (2005, 2002), (2006, 2003)] h
    ·refine wq rfl (qL B0 AQ rfl (qs AQ rfl (qe rfl ?_)))
     obtain rfl := sj h
     refine Af (sm [(1000, 2004), (1001, 2005), (1002, 2006)] [(6, oD (.ptr 6 0)), (7, bD true)] [(6, .box [.own 1000, .own 1001, .own 1002]), (1000, .vec 1 (v9.map As)), (1001, .vec 1 ((v1.fe.set ((p2.fm).toNat) ((-1))).map As)), (1002, .vec 1 (v1.ff.map Dw))] rfl rfl) (Ar ?_)
     exact ⟨⟨[_, _], ⟨.cellN _ _ _ _ _ _ _ rfl rfl B0 AQ rfl rfl (H7 rfl), tm⟩, rfl⟩, ⟨rfl, rfl, rfl, tv⟩⟩
theorem JB (N : Nat) (p0 : Aa) (p1 : Ad) (p2 : Am) (r : Ad × Int) (h : Eu N p0 p1 p2 = some r) : Aq uS 154 [.e (.agg (Al p0)), .e (.agg (Be p1)), .e (.agg (B1 p2))] [(1, r.1.fh.map As), (1, r.1.fe.map As), (1, r.1.ff.map Dw)] (.tup [.agg [.own 0, .own 1, .own 2], .one (iC r.2)]) := by
 unfold Eu at h
 refine cw (n := 32) (rs := [.cell 6 40, .tmp 7]) Tryz.func154 fun w0 S0 => ?_
 refine wq rfl (qb rfl (qb rfl (qb rfl (qz C7 rfl (qa rfl (Ac (AO (AP (wq rfl (qL Jh Gs rfl ?_))))))))))
 refine Ca h fun v1 a1 h => Ax [] (M3 N p2 v1 a1) Vk rfl (Cz rfl (qe rfl ?_))
 refine Bj h (fun h => ?_) fun h => ?_
 ·refine wq rfl (Bt C7 Gt rfl (qs AQ rfl (qe rfl ?_)))
  obtain rfl := sj h
  refine Af ((Av 6 0 2001 1 _ rfl rfl rfl rfl).trans ((Av 6 1 2002 1 _ rfl rfl rfl rfl).trans ((Av 6 2 2003 1 _ rfl rfl rfl rfl).trans (sm [(1000, 2001), (1001, 2002), (1002, 2003)] [(6, oD (.ptr 6 0)), (7, iD 1)] [(6, .box [.own 1000, .own 1001, .own 1002]), (1000, .vec 1 ((([] : List Int)).map As)), (1001, .vec 1 ((([] : List Int)).map As)), (1002, .vec 1 ((([] : List Int)).map Dw))] rfl rfl)))) (Ar ?_)
  exact ⟨⟨[_, _], ⟨.cellN _ _ _ _ _ _ _ rfl rfl B0 AQ rfl rfl (H7 rfl), tm⟩, rfl⟩, ⟨rfl, rfl, rfl, tv⟩⟩
 ·refine wq rfl (qL DS DN rfl (qL Jh Gs rfl ?_))
  refine Ca h fun v3 a3 h => Ax [] (Ml N p0 p2 v3 a3) VC rfl (Cz rfl (qe rfl ?_))
  refine Bj h (fun h => ?_) fun h => ?_
  ·refine wq rfl (Bt C7 Gt rfl (qs AQ rfl (qe rfl ?_)))
   obtain rfl := sj h
   refine Af ((Av 6 0 2004 1 _ rfl rfl rfl rfl).trans ((Av 6 1 2005 1 _ rfl rfl rfl rfl).trans ((Av 6 2 2006 1 _ rfl rfl rfl rfl).trans (sm [(1000, 2004), (1001, 2005), (1002, 2006)] [(6, oD (.ptr 6 0)), (7, iD 4)] [(6, .box [.own 1000, .own 1001, .own 1002]), (1000, .vec 1 ((([] : List Int)).map As)), (1001, .vec 1 ((([] : List Int)).map As)), (1002, .vec 1 ((([] : List Int)).map Dw))] rfl rfl)))) (Ar ?_)
   exact ⟨⟨[_, _], ⟨.cellN _ _ _ _ _ _ _ rfl rfl B0 AQ rfl rfl (H7 rfl), tm⟩, rfl⟩, ⟨rfl, rfl, rfl, tv⟩⟩
  ·refine Ap (wq rfl (qL DS DN rfl (qL B0 AQ rfl (qL Jh Gs rfl ?_))))
   refine Ca h fun v5 a5 h => Ax [2007, 2008, 2009] (NE N p0 p1 p2 v5 a5) Wb rfl (qm rfl (qx rfl (qx rfl (qz C7 rfl (qs AQ rfl (qa rfl (Ac (wp rfl (qm rfl (Cz rfl (Ac ?_)))))))))))
   refine Bj h (fun h => ?_) fun h => ?_
   ·refine wq rfl (Bt C7 Gt rfl (qs AQ rfl (qe rfl ?_)))
    obtain rfl := sj h
    refine Af ((Av 6 0 2010 1 _ rfl rfl rfl rfl).trans ((Av 6 1 2011 1 _ rfl rfl rfl rfl).trans ((Av 6 2 2012 1 _ rfl rfl rfl rfl).trans (sm [(1000, 2010), (1001, 2011), (1002, 2012)] [(6, oD (.ptr 6 0)), (7, iD 11)] [(6, .box [.own 1000, .own 1001, .own 1002]), (1000, .vec 1 ((([] : List Int)).map As)), (1001, .vec 1 ((([] : List Int)).map As)), (1002, .vec 1 ((([] : List Int)).map Dw))] rfl rfl)))) (Ar ?_)
    exact ⟨⟨[_, _], ⟨.cellN _ _ _ _ _ _ _ rfl rfl B0 AQ rfl rfl (H7 rfl), tm⟩, rfl⟩, ⟨rfl, rfl, rfl, tv⟩⟩
   ·refine Ap (wq rfl (qL B0 AQ rfl (qs AQ rfl (qe rfl ?_))))
    obtain rfl := sj h
    refine Af (sm [(1000, 2007), (1001, 2008), (1002, 2009)] [(6, oD (.ptr 6 0)), (7, iD 0)] [(6, .box [.own 1000, .own 1001, .own 1002]), (1000, .vec 1 (v5.1.fh.map As)), (1001, .vec 1 (v5.1.fe.map As)), (1002, .vec 1 (v5.1.ff.map Dw))] rfl rfl) (Ar ?_)
    exact ⟨⟨[_, _], ⟨.cellN _ _ _ _ _ _ _ rfl rfl B0 AQ rfl rfl (H7 rfl), tm⟩, rfl⟩, ⟨rfl, rfl, rfl, tv⟩⟩
theorem Pe (N : Nat) (p0 : Aa) (p1 : Ad) (p2 : List Am) (r : (List Ad) × Int × Int) (h : Ga N p0 p1 p2 = some r) : Aq uS 113 [.e (.agg (Al p0)), .e (.agg (Be p1)), pD (.sl (p2.map AM))] [(3, r.1.map EF)] (.tup [.one (.own 0), .one (iC r.2.1), .one (iC r.2.2)]) := by
 unfold Ga at h
 refine cw (n := 53) (rs := [.tmp 6, .tmp 7, .tmp 8]) Tryz.func113 fun w0 S0 => ?_
 refine wq rfl (qb rfl (qb rfl (qa rfl (qa rfl (qa rfl (Ac (wp rfl (qL DS DN rfl (qL B0 AQ rfl ?_)))))))))
 refine Ca h fun v1 a1 h => Ax [] (Kw N p0 p1 v1 a1) Tt rfl (qa rfl (Ac (wq rfl (qm rfl (BG rfl (Ac ?_))))))
 refine Bj h (fun h => ?_) fun h => ?_
 ·refine wq rfl (qm rfl (qa rfl (qa rfl (qe rfl ?_))))
  obtain rfl := sj h
  refine Af ((Fj 6 2001 3 rfl rfl rfl).trans (sm [(1000, 2001)] [(6, oD (.own 1000)), (7, iD 0), (8, iD v1)] [(1000, .vec 3 ((([] : List Ad)).map EF))] rfl rfl)) (Ar ?_)
  exact ⟨⟨[_, _, _], ⟨.tmp _ _ rfl, ⟨.tmp _ _ rfl, tm⟩⟩, rfl⟩, ⟨rfl, tv⟩⟩
 ·refine Ap (wq rfl (qL B0 AQ rfl ?_))
  refine Ca h fun v3 a3 h => Ax [2002, 2003, 2004] (I9 N p1 v3 a3) TC rfl (Fy (B6 2002 _ _ rfl rfl) (Fy (B6 2003 _ _ rfl rfl) (Fy (B6 2004 _ _ rfl rfl) (Ft Hn AQ C7 rfl (qa rfl (Ac (wp rfl (qm rfl (AH GS rfl (qm rfl (Ac ?_)))))))))))
  refine A5 (L := Ea N p0 p2) h (fun v4 => mk [(2, pD (.sl (p2.map AM))), (3, oD (.ptr 3 0)), (10, oD (.own 2005)), (24, pD (.sl (p2.map AM))), (25, iD ((p2.length : Int))), (26, iD v4.2)] [(3, .box (Al p0)), (2005, .vec 3 (v4.1.map EF))]) (fun v5 => mk [(2, pD (.sl (p2.map AM))), (10, oD (.own 2006))] [(2006, .vec 3 (v5.map EF))]) (fun _ _ => rfl) (sm [(2005, 23)] _ _ rfl rfl) (fun j4 n4 v4 h => ?_) (fun v5 s h hs => ?_)
  ·unfold Ea at h
   refine wq rfl (A4 rfl (Ac (AO ?_)))
   refine Bj h (fun h => ?_) fun h => ?_
   ·refine Ap (AO (AP (wq rfl (qm rfl ?_))))
    refine BP h fun v7 a7 b7 h => qi GS Gs a7 (Ai b7) rfl (qK Jh Gs rfl (qz QG rfl (qa rfl (qs Gs rfl (Ac (wq rfl (qL DS DN rfl (qw 2 rfl ?_))))))))
    refine BP h fun v8 a8 b8 h => qI Hn AQ a8 (Ai b8) rfl (qJ B0 AQ (Ai b8) rfl (qL Jh Gs rfl ?_))
    refine Ca h fun v9 a9 h => Ax [2007, 2008, 2009] (JB N p0 v8 v7 v9 a9) TX rfl (qm rfl (qx rfl (qx rfl (qz C7 rfl (qs AQ rfl (qa rfl (AE (by kernel_rfl) (wp rfl (qm rfl (BG rfl (Ac ?_)))))))))))
    refine Bj h (fun h => ?_) fun h => ?_
    ·refine wq rfl (qw 2 rfl (qa rfl (qa rfl (qe rfl ?_))))
     obtain rfl := sj h
     refine Af ((Fj 6 2010 3 rfl rfl rfl).trans (sm [(1000, 2010)] [(6, oD (.own 1000)), (7, iD v4.2), (8, iD v9.2)] [(1000, .vec 3 ((([] : List Ad)).map EF))] rfl rfl)) (Ar ?_)
     exact ⟨⟨[_, _, _], ⟨.tmp _ _ rfl, ⟨.tmp _ _ rfl, tm⟩⟩, rfl⟩, ⟨rfl, tv⟩⟩
    ·refine Ap (Ak Ay rfl (qm rfl (qL B0 AQ rfl (Fy (B6 2007 _ _ rfl rfl) (Fy (B6 2008 _ _ rfl rfl) (Fy (B6 2009 _ _ rfl rfl) (Ft Hn AQ C7 rfl ?_)))))))
     refine Hj h fun c11 h => Ln (f := EF) Hn Hn AQ TW C7 c11 rfl (qa rfl (Ac (Ak Ay rfl (Cq rfl (qm rfl (Ac ?_))))))
     exact sn [(2005, 48)] h
   ·refine BV ?_
    exact sn [(2006, 2005)] h
  ·refine Af hs (wq rfl (qw 2 rfl (AH GS rfl (qa rfl (qa rfl (qe rfl ?_))))))
   obtain rfl := sj h
   refine Af (sm [(1000, 2006)] [(6, oD (.own 1000)), (7, iD ((p2.length : Int))), (8, iD 0)] [(1000, .vec 3 (v5.map EF))] rfl rfl) (Ar ?_)
   exact ⟨⟨[_, _, _], ⟨.tmp _ _ rfl, ⟨.tmp _ _ rfl, tm⟩⟩, rfl⟩, ⟨rfl, tv⟩⟩
theorem Hd (N : Nat) (p0 : Aa) (p1 : List Am) (r : Ad × Int) (h : C5 N p0 p1 = some r) : Aq uS 72 [.e (.agg (Al p0)), pD (.sl (p1.map AM))] [] (.tup [.agg (Be r.1), .one (iC r.2)]) := by
 unfold C5 at h
 refine cw (n := 30) (rs := [.cell 4 40, .tmp 5]) Tryz.func72 fun w0 S0 => ?_
 refine wq rfl (qb rfl (qz C7 rfl (qa rfl (Ac (wp rfl (qm rfl ?_))))))
 refine Ca h fun v1 a1 h => Ax [] (Aq.weak (ds' := [pD (.sl (p1.map AM)), oD (.fnc 111)]) (EG N p1 ((fun (x : Am) => Da N x)) v1 a1) ⟨(fun _ _ _ hh => hh), (fun _ _ _ hh => NJ Vg (fun ar t ht => by obtain ⟨x, r, rfl, hq, rfl⟩ := IG ht; exact IY N x r hq) hh), tv⟩) VW rfl ?_
 refine Ac ?_
 refine Bj h (fun h => ?_) fun h => ?_
 ·refine wq rfl (Bt C7 Gt rfl (qs AQ rfl (qe rfl ?_)))
  obtain rfl := sj h
  refine Af ((IK 4 _ rfl).trans (sm [] [(4, oD (.ptr 4 0)), (5, iD 1)] [(4, .box [sC ((([] : List Int)).map As), sC ((([] : List Int)).map As), sC ((([] : List Int)).map Dw)])] rfl rfl)) (Ar ?_)
  exact ⟨⟨[_, _], ⟨.cellN _ _ _ _ _ _ _ rfl rfl B0 AQ rfl rfl (H7 rfl), tm⟩, rfl⟩, tv⟩
 ·refine Ap (wq rfl (qL DS DN rfl ?_))
  refine Ca h fun v3 a3 h => Ax [2001, 2002, 2003] (Ok N p0 v3 a3) VG rfl (qm rfl (qx rfl (qx rfl (qz C7 rfl (qs AQ rfl (qa rfl (Ac (wp rfl (qm rfl (BG rfl (Ac ?_)))))))))))
  refine Bj h (fun h => ?_) fun h => ?_
  ·refine wq rfl (Bt C7 Gt rfl (qm rfl (qs AQ rfl (qe rfl ?_))))
   obtain rfl := sj h
   refine Af ((IK 4 _ rfl).trans (sm [] [(4, oD (.ptr 4 0)), (5, iD v3.2)] [(4, .box [sC ((([] : List Int)).map As), sC ((([] : List Int)).map As), sC ((([] : List Int)).map Dw)])] rfl rfl)) (Ar ?_)
   exact ⟨⟨[_, _], ⟨.cellN _ _ _ _ _ _ _ rfl rfl B0 AQ rfl rfl (H7 rfl), tm⟩, rfl⟩, tv⟩
  ·refine Ap (wq rfl (qL DS DN rfl (qL B0 AQ rfl (qm rfl (Fy (B6 2001 _ _ rfl rfl) (Fy (B6 2002 _ _ rfl rfl) (Fy (B6 2003 _ _ rfl rfl) ?_)))))))
   refine Ca h fun v5 a5 h => Ax [2004] (Pe N p0 v3.1 p1 v5 a5) Vi rfl (qm rfl (qx rfl (qx rfl (qx rfl (qa rfl (Ac (wq rfl (qL B0 AQ rfl (qm rfl (qs AQ rfl (qe rfl ?_)))))))))))
   obtain rfl := sj h
   refine Af (sm [] [(4, oD (.ptr 4 0)), (5, iD v5.2.2)] [(4, .box (Be v3.1))] rfl rfl) (Ar ?_)
   exact ⟨⟨[_, _], ⟨.cellN _ _ _ _ _ _ _ rfl rfl B0 AQ rfl rfl (H7 rfl), tm⟩, rfl⟩, tv⟩
theorem Jp (N : Nat) (p0 : Int) (r : ByteArray) (h : Et N p0 = some r) : Aq uS 119 [iD p0] [] (pD (.val (.string r))) := by
 unfold Et at h
 refine cw (n := 14) (rs := [.tmp 2]) Tryz.func119 fun w0 S0 => ?_
 refine wq rfl (qa rfl (Ac (wq rfl ?_)))
 refine Ra [(1, .const (.string ⟨#[114, 101, 97, 100]⟩), _), (2, .const (.string ⟨#[98, 101, 103, 105, 110]⟩), _), (3, .const (.string ⟨#[100, 111, 110, 101]⟩), _), (4, .const (.string ⟨#[97, 98, 111, 114, 116]⟩), _), (5, .const (.string ⟨#[114, 101, 115, 117, 109, 101]⟩), _), (6, .const (.string ⟨#[115, 119, 105, 116, 99, 104]⟩), _), (7, .const (.string ⟨#[108, 101, 97, 115, 101]⟩), _)] (.p rfl) rfl ⟨rfl, rfl, rfl, rfl, rfl, rfl, rfl, tv⟩ TK rfl rfl Rq Wk rfl ?_
 refine qz TK rfl (qs VY rfl (Ac (AO ?_)))
 refine AK h (fun v1 => mk [(0, iD p0), (3, oD (.ptr 3 0)), (10, bD v1)] [(3, .box [.pure (.val (.string (⟨#[]⟩))), .pure (.val (.string ((⟨#[114, 101, 97, 100]⟩ : ByteArray)))), .pure (.val (.string ((⟨#[98, 101, 103, 105, 110]⟩ : ByteArray)))), .pure (.val (.string ((⟨#[100, 111, 110, 101]⟩ : ByteArray)))), .pure (.val (.string ((⟨#[97, 98, 111, 114, 116]⟩ : ByteArray)))), .pure (.val (.string ((⟨#[114, 101, 115, 117, 109, 101]⟩ : ByteArray)))), .pure (.val (.string ((⟨#[115, 119, 105, 116, 99, 104]⟩ : ByteArray)))), .pure (.val (.string ((⟨#[108, 101, 97, 115, 101]⟩ : ByteArray))))])]) (fun j1 h => ?_) (fun v1 h => ?_)
 ·refine Ak Ay rfl (qm rfl (A4 rfl (qm rfl ?_)))
  refine CJ 7 h rfl (fun h => ?_) fun h => ?_
  ·refine qw 2 rfl (qp rfl (Ac ?_))
   exact sn [] h
  ·refine qm rfl (Dx rfl (qp rfl (Ac ?_)))
   exact sn [] h
 ·refine Bj h (fun h => ?_) fun h => ?_
  ·refine wq rfl (qe rfl ?_)
   obtain rfl := sj h
   refine Af (sm [] [(2, pD (.val (.string ((⟨#[]⟩ : ByteArray)))))] [] rfl rfl) (Ar ?_)
   exact ⟨⟨[_], tm, rfl⟩, tv⟩
  ·refine Ap (wq rfl (qm rfl (Fy (Io 3 [.val (.string (⟨#[]⟩)), .val (.string ((⟨#[114, 101, 97, 100]⟩ : ByteArray))), .val (.string ((⟨#[98, 101, 103, 105, 110]⟩ : ByteArray))), .val (.string ((⟨#[100, 111, 110, 101]⟩ : ByteArray))), .val (.string ((⟨#[97, 98, 111, 114, 116]⟩ : ByteArray))), .val (.string ((⟨#[114, 101, 115, 117, 109, 101]⟩ : ByteArray))), .val (.string ((⟨#[115, 119, 105, 116, 99, 104]⟩ : ByteArray))), .val (.string ((⟨#[108, 101, 97, 115, 101]⟩ : ByteArray)))] rfl rfl) ?_)))
   refine BP h fun v4 a4 b4 h => RE (.p rfl) rfl rfl Rq Wk rfl a4 (Ai (f := fun q : ByteArray => T.val (.string q)) b4) ?_
   refine qk W0 rfl (qe rfl ?_)
   obtain rfl := sj h
   refine Af (sm [] [(2, pD (.val (.string v4)))] [] rfl rfl) (Ar ?_)
   exact ⟨⟨[_], tm, rfl⟩, tv⟩
theorem Ik (N : Nat) (p0 : Ab) (r : (List Int)) (h : Du N p0 = some r) : Aq uS 120 [.e (.agg (Br p0))] [(1, r.map As)] (oD (.own 0)) := by
 unfold Du at h
 refine cw (n := 35) (rs := [.tmp 2]) Tryz.func120 fun w0 S0 => ?_
 refine wq rfl (qb rfl (qa rfl (Ac (wp rfl (qf DQ rfl (ql Ba rfl (Ac (AP (wq rfl (AN rfl (qe rfl ?_)))))))))))
 refine Bj h (fun h => ?_) fun h => ?_
 ·refine wq rfl (qf G5 rfl (ql Ba rfl (qf Hb rfl (ql Ba rfl (qf HU rfl (ql Ba rfl (Ft Cd H2 TE rfl (qe rfl ?_))))))))
  obtain rfl := sj h
  refine Af (sm [(1000, 13)] [(2, oD (.own 1000))] [(1000, .vec 1 ((([p0.fy, p0.fA, p0.fF] : List Int)).map As))] rfl rfl) (Ar ?_)
  exact ⟨⟨[_], tm, rfl⟩, ⟨rfl, tv⟩⟩
 ·refine wq rfl (AN rfl (qe rfl ?_))
  refine Bj h (fun h => ?_) fun h => ?_
  ·refine wq rfl (qf HJ rfl (ql Ba rfl (qf Jn rfl (ql Ba rfl (qf IL rfl (ql Ba rfl (Ft Cd H2 TE rfl (qe rfl ?_))))))))
   obtain rfl := sj h
   refine Af (sm [(1000, 22)] [(2, oD (.own 1000))] [(1000, .vec 1 ((([p0.ft, p0.fq, p0.fJ] : List Int)).map As))] rfl rfl) (Ar ?_)
   exact ⟨⟨[_], tm, rfl⟩, ⟨rfl, tv⟩⟩
  ·refine wq rfl (AN rfl (qe rfl ?_))
   refine Bj h (fun h => ?_) fun h => ?_
   ·refine wq rfl (qf Jz rfl (ql Ba rfl (qf Fe rfl (ql Ho rfl (Ft Cd H2 TE rfl (qe rfl ?_))))))
    obtain rfl := sj h
    refine Af (sm [(1000, 29)] [(2, oD (.own 1000))] [(1000, .vec 1 ((([p0.fK, p0.fv] : List Int)).map As))] rfl rfl) (Ar ?_)
    exact ⟨⟨[_], tm, rfl⟩, ⟨rfl, tv⟩⟩
   ·refine Ap (wq rfl (qf JU rfl (ql Ba rfl (qf Fe rfl (ql Ho rfl (Ft Cd H2 TE rfl (qe rfl ?_)))))))
    obtain rfl := sj h
    refine Af (sm [(1000, 34)] [(2, oD (.own 1000))] [(1000, .vec 1 ((([p0.fm, p0.fv] : List Int)).map As))] rfl rfl) (Ar ?_)
    exact ⟨⟨[_], tm, rfl⟩, ⟨rfl, tv⟩⟩
theorem L8 (N : Nat) (p0 : Int) (p1 : Int) (p2 : List Int) (r : Ab) (h : D3 N p0 p1 p2 = some r) : Aq uS 121 [iD p0, iD p1, pD (.sl (p2.map As))] [] (.e (.agg (Br r))) := by
 unfold D3 at h
 refine cw (n := 59) (rs := [.cell 6 37]) Tryz.func121 fun w0 S0 => ?_
 refine wq rfl (qz IW rfl (Ac (wq rfl (qw 2 rfl (Bt IW Qu rfl (qz IW rfl (qs DB rfl (Ac ?_))))))))
 refine AK h (fun v1 => mk [(6, oD (.ptr 6 0)), (7, oD (.ptr 7 0))] [(6, .box [iC 0, iC 0, iC 0, iC 0, iC 0, iC 0, iC 0, iC 0, iC 0, iC 0, iC 0]), (7, .box [iC p0, iC p1, iC v1.1, iC v1.2.1, iC v1.2.2.1, iC v1.2.2.2.1, iC v1.2.2.2.2.1, iC v1.2.2.2.2.2.1, iC v1.2.2.2.2.2.2.1, iC v1.2.2.2.2.2.2.2.1, iC v1.2.2.2.2.2.2.2.2])]) (fun j1 h => ?_) (fun v1 h => ?_)
 ·refine wq rfl (qm rfl (Ac (AP (wq rfl (AN rfl (qe rfl ?_))))))
  refine Bj h (fun h => ?_) fun h => ?_
  ·refine Ak Ay rfl (qm rfl ?_)
   refine BP h fun v3 a3 b3 h => qi Cd H2 a3 (Ai b3) rfl (qk Ho rfl (qm rfl ?_))
   refine BP h fun v4 a4 b4 h => qi Cd H2 a4 (Ai b4) rfl (qk Ho rfl (qm rfl ?_))
   refine BP h fun v5 a5 b5 h => qi Cd H2 a5 (Ai b5) rfl (qk Ho rfl (qf G5 rfl (qs CK rfl (qf Hb rfl (qs CK rfl (qf HU rfl (qs CK rfl (AE (by kernel_rfl) ?_))))))))
   exact sn [] h
  ·refine wq rfl (AN rfl (qe rfl ?_))
   refine Bj h (fun h => ?_) fun h => ?_
   ·refine Ak Ay rfl (qm rfl ?_)
    refine BP h fun v7 a7 b7 h => qi Cd H2 a7 (Ai b7) rfl (qk Ho rfl (qm rfl ?_))
    refine BP h fun v8 a8 b8 h => qi Cd H2 a8 (Ai b8) rfl (qk Ho rfl (qm rfl ?_))
    refine BP h fun v9 a9 b9 h => qi Cd H2 a9 (Ai b9) rfl (qk Ho rfl (qf HJ rfl (qs CK rfl (qf Jn rfl (qs CK rfl (qf IL rfl (qs CK rfl (AE (by kernel_rfl) ?_))))))))
    exact sn [] h
   ·refine wq rfl (AN rfl (qe rfl ?_))
    refine Bj h (fun h => ?_) fun h => ?_
    ·refine Ak Ay rfl (qm rfl ?_)
     refine BP h fun v11 a11 b11 h => qi Cd H2 a11 (Ai b11) rfl (qk Ho rfl (qm rfl ?_))
     refine BP h fun v12 a12 b12 h => qi Cd H2 a12 (Ai b12) rfl (qk Ho rfl (qf Jz rfl (qs CK rfl (qf Fe rfl (qs H2 rfl (AE (by kernel_rfl) ?_))))))
     exact sn [] h
    ·refine Ak Ay rfl (qm rfl ?_)
     refine BP h fun v13 a13 b13 h => qi Cd H2 a13 (Ai b13) rfl (qk Ho rfl (qm rfl ?_))
     refine BP h fun v14 a14 b14 h => qi Cd H2 a14 (Ai b14) rfl (qk Ho rfl (qf JU rfl (qs CK rfl (qf Fe rfl (qs H2 rfl (AE (by kernel_rfl) ?_))))))
     exact sn [] h
 ·refine wq rfl (qL F8 DB rfl (qs DB rfl (Ac ?_)))
  obtain rfl := sj h
  refine Af (sm [] [(6, oD (.ptr 6 0))] [(6, .box [iC p0, iC p1, iC v1.1, iC v1.2.1, iC v1.2.2.1, iC v1.2.2.2.1, iC v1.2.2.2.2.1, iC v1.2.2.2.2.2.1, iC v1.2.2.2.2.2.2.1, iC v1.2.2.2.2.2.2.2.1, iC v1.2.2.2.2.2.2.2.2])] rfl rfl) (Ar ?_)
  exact ⟨⟨[_], ⟨.cellN _ _ _ _ _ _ _ rfl rfl F8 DB rfl rfl (H7 rfl), tv⟩, rfl⟩, tv⟩
theorem FT (N : Nat) (p0 : List Int) (p1 : Int → Option Bool) (r : Int) (h : B4 N p0 p1 = some r) : Aq uS 157 [pD (.sl (p0.map As)), oD (.clo (Ix (MQ false As) tB p1))] [] (iD r) := by
 unfold B4 at h
 refine cw (n := 19) (rs := [.tmp 4]) Tryz.func157 fun w0 S0 => ?_
 refine wq rfl (qa rfl (Ac (wp rfl (qm rfl (AH Cd rfl (qm rfl (Ac ?_)))))))
 refine A5 (L := AT N p0 p1) h (fun v1 => mk [(0, pD (.sl (p0.map As))), (1, oD (.clo (Ix (MQ false As) tB p1))), (7, iD ((p0.length : Int))), (8, iD v1)] []) (fun v2 => mk [] []) (fun _ _ => rfl) (sm [] _ _ rfl rfl) (fun j1 n1 v1 h => ?_) (fun v2 s h hs => ?_)
 ·unfold AT at h
  refine wq rfl (A4 rfl (Ac (AO ?_)))
  refine Bj h (fun h => ?_) fun h => ?_
  ·refine Ap (AO (AP (wq rfl (qm rfl (qa rfl (Ac (wq rfl (qw 3 rfl ?_))))))))
   refine BP h fun v4 a4 b4 h => qi Cd H2 a4 (Ai b4) rfl (qk Ho rfl ?_)
   refine Ca h fun v5 a5 h => KY (ds0 := [_]) (ar := (MQ false As) v4) (.p rfl) rfl rfl ⟨rfl, tv⟩ rfl rfl rfl (KQ (KZ _ _ Q1) a5) ?_
   refine Ac ?_
   refine Bj h (fun h => ?_) fun h => ?_
   ·refine wq rfl (qm rfl (qe rfl ?_))
    obtain rfl := sj h
    refine Af (sm [] [(4, iD v1)] [] rfl rfl) (Ar ?_)
    exact ⟨⟨[_], tm, rfl⟩, tv⟩
   ·refine Ap (Ak Ay rfl (Cq rfl (qm rfl (Ac ?_))))
    exact sn [] h
  ·refine BV ?_
   exact sn [] h
 ·refine Af hs (wq rfl (qe rfl ?_))
  obtain rfl := sj h
  refine Af (sm [] [(4, iD ((-1)))] [] rfl rfl) (Ar ?_)
  exact ⟨⟨[_], tm, rfl⟩, tv⟩
theorem Fq (N : Nat) (p0 : List Int) (p1 : Int → Option Bool) (r : Bool) (h : A8 N p0 p1 = some r) : Aq uS 122 [pD (.sl (p0.map As)), oD (.clo (Ix (MQ false As) tB p1))] [] (bD r) := by
 unfold A8 at h
 refine cw (n := 9) (rs := [.tmp 4]) Tryz.func122 fun w0 S0 => ?_
 refine wq rfl (qa rfl (Ac (wq rfl (qw 2 rfl ?_))))
 refine Ca h fun v1 a1 h => Ax [] (FT N p0 p1 v1 a1) Vb rfl (Dx rfl (qe rfl ?_))
 obtain rfl := sj h
 refine Af (sm [] [(4, bD ((decide (0 ≤ v1))))] [] rfl rfl) (Ar ?_)
 exact ⟨⟨[_], tm, rfl⟩, tv⟩
theorem KH (N : Nat) (p0 : Int) (r : Bool) (h : DD N p0 = some r) : Aq uS 123 [iD p0] [] (bD r) := by
 unfold DD at h
 refine cw (n := 5) (rs := [.tmp 2]) Tryz.func123 fun w0 S0 => ?_
 refine wq rfl (qa rfl (Ac (wq rfl (qm rfl (A4 rfl (qe rfl ?_))))))
 obtain rfl := sj h
 refine Af (sm [] [(2, bD ((decide (p0 < 0))))] [] rfl rfl) (Ar ?_)
 exact ⟨⟨[_], tm, rfl⟩, tv⟩
theorem L3 (N : Nat) (p0 : Ab) (r : Bool) (h : EO N p0 = some r) : Aq uS 86 [.e (.agg (Br p0))] [] (bD r) := by
 unfold EO at h
 refine cw (n := 28) (rs := [.tmp 2]) Tryz.func86 fun w0 S0 => ?_
 refine wq rfl (qb rfl (qa rfl (Ac (AO ?_))))
 refine AK h (fun v1 => mk [(1, oD (.ptr 1 0)), (12, bD v1)] [(1, .box (Br p0))]) (fun j1 h => ?_) (fun v1 h => ?_)
 ·refine Ak Ay rfl (qf DQ rfl (ql Ba rfl ?_))
  refine Ca h fun v2 a2 h => Ax [] (Jp N p0.fa v2 a2) TI rfl ?_
  refine D8 (.p rfl) rfl rfl (LD _ _ _ _) rfl ?_
  refine qm rfl ?_
  refine CJ 8 h rfl (fun h => ?_) fun h => ?_
  ·refine qw 3 rfl (qp rfl (Ac ?_))
   exact sn [] h
  ·refine qf Gw rfl (ql Ho rfl (A4 rfl (qp rfl (Ac ?_))))
   exact sn [] h
 ·refine Bj h (fun h => ?_) fun h => ?_
  ·refine wq rfl (qe rfl ?_)
   obtain rfl := sj h
   refine Af (sm [] [(2, bD false)] [] rfl rfl) (Ar ?_)
   exact ⟨⟨[_], tm, rfl⟩, tv⟩
  ·refine Ap (wq rfl (qL F8 DB rfl ?_))
   refine Ca h fun v5 a5 h => Ax [2001] (Ik N p0 v5 a5) Tx rfl (qe rfl ?_)
   refine AK h (fun v6 => mk [(2, bD v6)] []) (fun j6 h => ?_) (fun v6 h => ?_)
   ·refine Ak Ay rfl (qL F8 DB rfl (qf Gw rfl (ql Ho rfl (qf DQ rfl (ql Ba rfl (qm rfl ?_))))))
    refine Ca h fun v7 a7 h => Gy [] [2001] (L8 N p0.fi p0.fa v5 v7 a7) Vj ET rfl ?_
    refine TS [.int .i64 p0.fi, .int .i64 p0.fa, .int .i64 p0.fy, .int .i64 p0.fA, .int .i64 p0.fF, .int .i64 p0.fm, .int .i64 p0.fv, .int .i64 p0.fJ, .int .i64 p0.ft, .int .i64 p0.fq, .int .i64 p0.fK] [.int .i64 v7.fi, .int .i64 v7.fa, .int .i64 v7.fy, .int .i64 v7.fA, .int .i64 v7.fF, .int .i64 v7.fm, .int .i64 v7.fv, .int .i64 v7.fJ, .int .i64 v7.ft, .int .i64 v7.fq, .int .i64 v7.fK] (.p rfl) rfl rfl Tv rfl ?_
    refine qm rfl ?_
    refine CJ 23 h rfl (fun h => ?_) fun h => ?_
    ·refine qm rfl ?_
     refine Ca h fun v9 a9 h => Gy [] [2001] (Aq.weak (ds' := [pD (.sl (v5.map As)), oD (.fnc 123)]) (Fq N v5 ((fun (x : Int) => DD N x)) v9 a9) ⟨(fun _ _ _ hh => hh), (fun _ _ _ hh => NJ V6 (fun ar t ht => by obtain ⟨x, r, rfl, hq, rfl⟩ := IG ht; exact KH N x r hq) hh), tv⟩) Vt ET rfl ?_
     refine Cz rfl (qp rfl (qa rfl (AE (by kernel_rfl) ?_)))
     exact sn [] h
    ·refine qw 3 rfl (qp rfl (qa rfl (AE (by kernel_rfl) ?_)))
     exact sn [] h
   ·obtain rfl := sj h
    refine Af (sm [] [(2, bD v6)] [] rfl rfl) (Ar ?_)
    exact ⟨⟨[_], tm, rfl⟩, tv⟩
theorem F0 (N : Nat) (p0 : List Ab) (r : Int) (h : Dd N p0 = some r) : Aq uS 43 [pD (.sl (p0.map AJ))] [] (iD r) := by
 unfold Dd at h
 refine cw (n := 34) (rs := [.tmp 2]) Tryz.func43 fun w0 S0 => ?_
 refine wq rfl (qa rfl (Ac (wp rfl (qm rfl (AH Eb rfl (DZ rfl (Ac ?_)))))))
 refine Bj h (fun h => ?_) fun h => ?_
 ·refine wq rfl (qe rfl ?_)
  obtain rfl := sj h
  refine Af (sm [] [(2, iD 3)] [] rfl rfl) (Ar ?_)
  exact ⟨⟨[_], tm, rfl⟩, tv⟩
 ·refine Ap (wp rfl (qm rfl (AH Eb rfl (qm rfl (Ac ?_)))))
  refine A5 (L := Dp N p0) h (fun v2 => mk [(0, pD (.sl (p0.map AJ))), (8, pD (.sl (p0.map AJ))), (9, iD ((p0.length : Int))), (10, iD v2)] []) (fun v3 => mk [] []) (fun _ _ => rfl) (sm [] _ _ rfl rfl) (fun j2 n2 v2 h => ?_) (fun v3 s h hs => ?_)
  ·unfold Dp at h
   refine wq rfl (A4 rfl (Ac (AO ?_)))
   refine Bj h (fun h => ?_) fun h => ?_
   ·refine Ap (AO (AP (wq rfl (qm rfl ?_))))
    refine BP h fun v5 a5 b5 h => qi Eb DB a5 (Ai b5) rfl (qK F8 DB rfl (qz IW rfl (qa rfl (qs DB rfl (Ac ?_)))))
    refine AK h (fun v6 => mk [(0, pD (.sl (p0.map AJ))), (8, pD (.sl (p0.map AJ))), (9, iD ((p0.length : Int))), (10, iD v2), (32, bD v6)] []) (fun j6 h => ?_) (fun v6 h => ?_)
    ·refine Ak Ay rfl (qL F8 DB rfl ?_)
     refine Ca h fun v7 a7 h => Ax [] (L3 N v5 v7 a7) WT rfl (Cz rfl (qm rfl ?_))
     refine CJ 18 h rfl (fun h => ?_) fun h => ?_
     ·refine qw 3 rfl (qu rfl (qu rfl (qu rfl (qu rfl (qu rfl (qu rfl (qu rfl (qu rfl (qu rfl (qn rfl (qp rfl (AE (by kernel_rfl) ?_))))))))))))
      exact sn [] h
     ·refine qm rfl (DZ rfl (qm rfl ?_))
      refine CJ 21 h rfl (fun h => ?_) fun h => ?_
      ·refine qf Gw rfl (ql Ho rfl (qw 2 rfl (KE rfl ?_)))
       refine BP h fun v10 a10 b10 h => qi Eb DB a10 (Ai b10) rfl (qg Gw rfl (qk Ho rfl (A4 rfl (qp rfl (qp rfl (AE (by kernel_rfl) ?_))))))
       exact sn [] h
      ·refine qw 9 rfl (qp rfl (qp rfl (AE (by kernel_rfl) ?_)))
       exact sn [] h
    ·refine Bj h (fun h => ?_) fun h => ?_
     ·refine wq rfl (qe rfl ?_)
      obtain rfl := sj h
      refine Af (sm [] [(2, iD 1)] [] rfl rfl) (Ar ?_)
      exact ⟨⟨[_], tm, rfl⟩, tv⟩
     ·refine Ap (Ak Ay rfl (Cq rfl (qm rfl (Ac ?_))))
      exact sn [] h
   ·refine BV ?_
    exact sn [] h
  ·refine Af hs (wq rfl (qe rfl ?_))
   obtain rfl := sj h
   refine Af (sm [] [(2, iD 0)] [] rfl rfl) (Ar ?_)
   exact ⟨⟨[_], tm, rfl⟩, tv⟩
theorem JX (N : Nat) (r : A2) (h : Ej N = some r) : Do uS 64 [] [] [.box [iC r.fE, iC r.fG, .pure (.val (.bool r.fH)), .mref 1], .mp (DK (Value.int .i64) FO r.fI)] (oD (.ptr 0 0)) := by
 unfold Ej at h
 refine Db (n := 4) (rs := [.tmp 0]) Tryz.func64 rfl rfl rfl (GC rfl) (GC rfl) rfl rfl (GC rfl) rfl (GC rfl) fun w0 S0 GL => ?_
 refine Af (sm [] [] [] rfl rfl) (wq rfl (qa rfl (Ac (wq rfl ?_))))
 refine Qq (.p rfl) rfl ?_
 refine Bt VQ Vv rfl (qb rfl (qe rfl ?_))
 obtain rfl := sj h
 refine Af (sm [(1000, 3), (1001, 1)] [(0, oD (.ptr 1000 0))] [(1000, .box [iC 0, iC 0, .pure (.val (.bool false)), .mref 1001]), (1001, .mp (DK (Value.int .i64) FO (([] : List (Int × Int)))))] rfl rfl) (Ar ?_)
 exact ⟨⟨[_], tm, rfl⟩, tv, ⟨rfl, rfl, tv⟩⟩
theorem MY (N : Nat) (p0 : Aa) (p1 : Ab) (r : Bool) (h : DW N p0 p1 = some r) : Aq uS 62 [.e (.agg (Al p0)), .e (.agg (Br p1))] [] (bD r) := by
 unfold DW at h
 refine cw (n := 47) (rs := [.tmp 4]) Tryz.func62 fun w0 S0 => ?_
 refine wq rfl (qb rfl (qb rfl (qa rfl (Ac (wp rfl (qf G5 rfl (ql Ba rfl (qf BF rfl (ql EU rfl (AH CP rfl (Dx rfl (Ac ?_))))))))))))
 refine Bj h (fun h => ?_) fun h => ?_
 ·refine wq rfl (qe rfl ?_)
  obtain rfl := sj h
  refine Af (sm [] [(4, bD false)] [] rfl rfl) (Ar ?_)
  exact ⟨⟨[_], tm, rfl⟩, tv⟩
 ·refine Ap (wq rfl (qf BF rfl (ql EU rfl (qf G5 rfl (ql Ba rfl ?_)))))
  refine BP h fun v2 a2 b2 h => qi CP BT a2 (Ai b2) rfl (qK EP BT rfl (qz Jo rfl (qs BT rfl (Ac ?_))))
  refine AK h (fun v3 => mk [(4, bD v3)] []) (fun j3 h => ?_) (fun v3 h => ?_)
  ·refine Ak Ay rfl (qf Hb rfl (ql Ba rfl (qf GH rfl (ql E5 rfl (AH DM rfl (A4 rfl (qm rfl ?_)))))))
   refine CJ 24 h rfl (fun h => ?_) fun h => ?_
   ·refine qf HU rfl (ql Ba rfl (qf BB rfl (ql Bc rfl (qf GJ rfl (ql Ba rfl ?_)))))
    refine BP h fun v5 a5 b5 h => qi AB CK a5 (Ai b5) rfl (qk Ba rfl (A4 rfl (qp rfl (qm rfl ?_))))
    refine CJ 35 h rfl (fun h => ?_) fun h => ?_
    ·refine qf GH rfl (ql E5 rfl (qf Hb rfl (ql Ba rfl ?_)))
     refine BP h fun v7 a7 b7 h => qi DM JA a7 (Ai b7) rfl (qk JT rfl (qf HU rfl (ql Ba rfl ?_)))
     refine BP h fun v8 a8 b8 h => qi HF UQ a8 (Ai b8) rfl (qk TV rfl (qp rfl (qa rfl (AE (by kernel_rfl) ?_))))
     exact sn [] h
    ·refine qw 10 rfl (qp rfl (qa rfl (AE (by kernel_rfl) ?_)))
     exact sn [] h
   ·refine qw 9 rfl (qp rfl (qw 11 rfl (qp rfl (qa rfl (AE (by kernel_rfl) ?_)))))
    exact sn [] h
  ·obtain rfl := sj h
   refine Af (sm [] [(4, bD v3)] [] rfl rfl) (Ar ?_)
   exact ⟨⟨[_], tm, rfl⟩, tv⟩
theorem FD (N : Nat) (p0 : Ab) (r : Bool) (h : CT N p0 = some r) : Aq uS 80 [.e (.agg (Br p0))] [] (bD r) := by
 unfold CT at h
 refine cw (n := 11) (rs := [.tmp 2]) Tryz.func80 fun w0 S0 => ?_
 refine wq rfl (qb rfl (qe rfl ?_))
 refine AK h (fun v1 => mk [(2, bD v1)] []) (fun j1 h => ?_) (fun v1 h => ?_)
 ·refine Ak Ay rfl (qf DQ rfl (ql Ba rfl (Dx rfl (qm rfl ?_))))
  refine CJ 6 h rfl (fun h => ?_) fun h => ?_
  ·refine qf DQ rfl (ql Ba rfl (ME rfl (qp rfl (qe rfl ?_))))
   exact sn [] h
  ·refine qw 3 rfl (qp rfl (qe rfl ?_))
   exact sn [] h
 ·obtain rfl := sj h
  refine Af (sm [] [(2, bD v1)] [] rfl rfl) (Ar ?_)
  exact ⟨⟨[_], tm, rfl⟩, tv⟩
theorem FI (N : Nat) (p0 : Ah) (p1 : Ab) (r : Bool) (h : BL N p0 p1 = some r) : Do uS 81 [oD (.ptr 90000 0), .e (.agg (Br p1))] [(.box (Aw p0), .box (Aw p0))] [] (bD r) := by
 unfold BL at h
 refine Db (n := 66) (rs := [.tmp 4]) Tryz.func81 rfl rfl rfl (GC rfl) (GC rfl) rfl rfl (GC rfl) rfl (GC rfl) fun w0 S0 GL => ?_
 refine Af (sm [] [(0, oD (.ptr 90000 0)), (1, .e (.agg (Br p1)))] [(90000, .box (Aw p0))] rfl rfl) (wq rfl (qb rfl (qa rfl (Ac (AO ?_)))))
 refine AK h (fun v1 => mk [(0, oD (.ptr 90000 0)), (3, oD (.ptr 3 0)), (23, bD v1)] [(3, .box (Br p1)), (90000, .box (Aw p0))]) (fun j1 h => ?_) (fun v1 h => ?_)
 ·refine Ak Ay rfl (qf JU rfl (ql Ba rfl (qm rfl (Hx rfl (qf II rfl (ql Ba rfl (BG rfl (qm rfl ?_))))))))
  refine CJ 12 h rfl (fun h => ?_) fun h => ?_
  ·refine qw 10 rfl (qp rfl (AE (by kernel_rfl) ?_))
   exact sn [] h
  ·refine qm rfl (Hx rfl (qf II rfl (ql Ba rfl (qm rfl (Hx rfl (qf M7 rfl (ql O1 rfl (AH GS rfl (Dx rfl (qp rfl (AE (by kernel_rfl) ?_)))))))))))
   exact sn [] h
 ·refine Bj h (fun h => ?_) fun h => ?_
  ·refine wq rfl (qe rfl ?_)
   obtain rfl := sj h
   refine Af (sm [] [(4, bD false)] [(90000, .box (Aw p0))] rfl rfl) (Ar ?_)
   exact ⟨⟨[_], tm, rfl⟩, ⟨rfl, tv⟩, tv⟩
  ·refine Ap (wp rfl (qf DQ rfl (ql Ba rfl (Ac (AP (wq rfl (AN rfl (qe rfl ?_))))))))
   refine Bj h (fun h => ?_) fun h => ?_
   ·refine wq rfl (qm rfl (Hx rfl (qf G9 rfl (ql Ba rfl (AN rfl (qe rfl ?_))))))
    obtain rfl := sj h
    refine Af (sm [] [(4, bD ((p0.fw == 0)))] [(90000, .box (Aw p0))] rfl rfl) (Ar ?_)
    exact ⟨⟨[_], tm, rfl⟩, ⟨rfl, tv⟩, tv⟩
   ·refine wq rfl (AN rfl (qe rfl ?_))
    refine Bj h (fun h => ?_) fun h => ?_
    ·refine wq rfl (qm rfl (Hx rfl (qf G9 rfl (ql Ba rfl (AN rfl (qe rfl ?_))))))
     obtain rfl := sj h
     refine Af (sm [] [(4, bD ((p0.fw == 1)))] [(90000, .box (Aw p0))] rfl rfl) (Ar ?_)
     exact ⟨⟨[_], tm, rfl⟩, ⟨rfl, tv⟩, tv⟩
    ·refine wq rfl (AN rfl (qe rfl ?_))
     refine Bj h (fun h => ?_) fun h => ?_
     ·refine AK h (fun v7 => mk [(4, bD v7)] [(90000, .box (Aw p0))]) (fun j7 h => ?_) (fun v7 h => ?_)
      ·refine Ak Ay rfl (qm rfl (Hx rfl (qf G9 rfl (ql Ba rfl (AN rfl (qm rfl ?_))))))
       refine CJ 47 h rfl (fun h => ?_) fun h => ?_
       ·refine qm rfl (Hx rfl (qf M7 rfl (ql O1 rfl (qm rfl (Hx rfl (qf II rfl (ql Ba rfl ?_)))))))
        refine BP h fun v9 a9 b9 h => qi GS Gs a9 (Ai b9) rfl (qg Dl rfl (qk Ba rfl (AN rfl (qp rfl (qa rfl (AE (by kernel_rfl) ?_))))))
        exact sn [] h
       ·refine qw 12 rfl (qp rfl (qa rfl (AE (by kernel_rfl) ?_)))
        exact sn [] h
      ·obtain rfl := sj h
       refine Af (sm [] [(4, bD v7)] [(90000, .box (Aw p0))] rfl rfl) (Ar ?_)
       exact ⟨⟨[_], tm, rfl⟩, ⟨rfl, tv⟩, tv⟩
     ·refine Ap (wq rfl (qm rfl (Hx rfl (qf G9 rfl (ql Ba rfl (AN rfl (qe rfl ?_)))))))
      obtain rfl := sj h
      refine Af (sm [] [(4, bD ((p0.fw == 2)))] [(90000, .box (Aw p0))] rfl rfl) (Ar ?_)
      exact ⟨⟨[_], tm, rfl⟩, ⟨rfl, tv⟩, tv⟩
theorem It (N : Nat) (p0 : A2) (p1 : Ab) (r : Bool × A2 × (List (Int × Int))) (h : CX N p0 p1 = some r) : Do uS 66 [oD (.ptr 90000 0), .e (.agg (Br p1))] [(.box [iC p0.fE, iC p0.fG, .pure (.val (.bool p0.fH)), .mref 90001], .box [iC r.2.1.fE, iC r.2.1.fG, .pure (.val (.bool r.2.1.fH)), .mref 90001]), (.mp (DK (Value.int .i64) FO p0.fI), .mp (DK (Value.int .i64) FO r.2.2))] [] (bD r.1) := by
 unfold CX at h
 refine Db (n := 67) (rs := [.tmp 4]) Tryz.func66 rfl rfl rfl (GC rfl) (GC rfl) rfl rfl (GC rfl) rfl (GC rfl) fun w0 S0 GL => ?_
 refine Af (sm [] [(0, oD (.ptr 90000 0)), (1, .e (.agg (Br p1)))] [(90000, .box [iC p0.fE, iC p0.fG, .pure (.val (.bool p0.fH)), .mref 90001]), (90001, .mp (DK (Value.int .i64) FO p0.fI))] rfl rfl) (wq rfl (qb rfl (qe rfl ?_)))
 refine AK h (fun v1 => mk [] [(90000, .box [iC v1.2.1, iC v1.2.2.1, .pure (.val (.bool v1.2.2.2)), .mref 90001]), (90001, .mp (DK (Value.int .i64) FO v1.1))]) (fun j1 h => ?_) (fun v1 h => ?_)
 ·refine AP (wq rfl (qL F8 DB rfl ?_))
  refine Ca h fun v2 a2 h => Ax [] (FD N p1 v2 a2) SG rfl (qe rfl ?_)
  refine Bj h (fun h => ?_) fun h => ?_
  ·refine wp rfl (qf Fe rfl (ql Ho rfl (qm rfl (Hx rfl (qf OQ rfl (ql Ho rfl (A4 rfl (AE (by kernel_rfl) ?_))))))))
   refine Bj h (fun h => ?_) fun h => ?_
   ·refine wq rfl (qe rfl ?_)
    obtain rfl := sj h
    refine Af (sm [] [(4, bD false)] [(90000, .box [iC p0.fE, iC p0.fG, .pure (.val (.bool p0.fH)), .mref 90001]), (90001, .mp (DK (Value.int .i64) FO p0.fI))] rfl rfl) (Ar ?_)
    exact ⟨⟨[_], tm, rfl⟩, ⟨rfl, rfl, tv⟩, tv⟩
   ·refine Ap (Ak Ay rfl (qm rfl (qf Fe rfl (ql Ho rfl (Hx rfl (qf OQ rfl (qs H2 rfl (Ac ?_))))))))
    exact sn [] h
  ·refine wq rfl (qf DQ rfl (ql Ba rfl (AN rfl (qe rfl ?_))))
   refine Bj h (fun h => ?_) fun h => ?_
   ·refine wp rfl (qf IL rfl (ql Ba rfl (qm rfl (Hx rfl (qf N0 rfl (ql TT rfl (qf HJ rfl (ql Ba rfl ?_))))))))
    refine QT (kv := (Value.int .i64)) (vt := FO) (m := p0.fI) (dv := 0) (.p rfl) rfl rfl rfl (MK Pb VM) (by rw [Pb]; rfl) NY rfl rfl rfl ?_
    refine A4 rfl (AE (by kernel_rfl) ?_)
    refine Bj h (fun h => ?_) fun h => ?_
    ·refine wq rfl (qe rfl ?_)
     obtain rfl := sj h
     refine Af (sm [] [(4, bD false)] [(90000, .box [iC p0.fE, iC p0.fG, .pure (.val (.bool p0.fH)), .mref 90001]), (90001, .mp (DK (Value.int .i64) FO p0.fI))] rfl rfl) (Ar ?_)
     exact ⟨⟨[_], tm, rfl⟩, ⟨rfl, rfl, tv⟩, tv⟩
    ·refine Ap (Ak Ay rfl (qm rfl (Hx rfl (qf N0 rfl (ql TT rfl (qf HJ rfl (ql Ba rfl (qf IL rfl (ql Ba rfl ?_)))))))))
     refine QU (kv := (Value.int .i64)) (vt := FO) (m := p0.fI) (k := p1.ft) (v := p1.fJ) rfl (.inl rfl) rfl rfl rfl rfl (MK Pb VM) rfl ?_
     refine AE (by kernel_rfl) ?_
     exact sn [] h
   ·refine wq rfl (qf DQ rfl (ql Ba rfl (AN rfl (qe rfl ?_))))
    refine Bj h (fun h => ?_) fun h => ?_
    ·refine AO ?_
     refine AK h (fun v8 => mk [(0, oD (.ptr 90000 0)), (3, oD (.ptr 3 0)), (58, bD v8)] [(3, .box (Br p1)), (90000, .box [iC p0.fE, iC p0.fG, .pure (.val (.bool p0.fH)), .mref 90001]), (90001, .mp (DK (Value.int .i64) FO p0.fI))]) (fun j8 h => ?_) (fun v8 h => ?_)
     ·refine Ak Ay rfl (qm rfl (Hx rfl (qf N9 rfl (ql TV rfl (qm rfl ?_)))))
      refine CJ 50 h rfl (fun h => ?_) fun h => ?_
      ·refine qf Fe rfl (ql Ho rfl (qm rfl (Hx rfl (qf Oi rfl (ql Ho rfl (ME rfl (qp rfl (AE (by kernel_rfl) ?_))))))))
       exact sn [] h
      ·refine qw 7 rfl (qp rfl (AE (by kernel_rfl) ?_))
       exact sn [] h
     ·refine Bj h (fun h => ?_) fun h => ?_
      ·refine wq rfl (qe rfl ?_)
       obtain rfl := sj h
       refine Af (sm [] [(4, bD false)] [(90000, .box [iC p0.fE, iC p0.fG, .pure (.val (.bool p0.fH)), .mref 90001]), (90001, .mp (DK (Value.int .i64) FO p0.fI))] rfl rfl) (Ar ?_)
       exact ⟨⟨[_], tm, rfl⟩, ⟨rfl, rfl, tv⟩, tv⟩
      ·refine Ap (Ak Ay rfl (qw 2 rfl (qf Fe rfl (ql Ho rfl (Hx rfl (qf Oi rfl (qs H2 rfl (Hx rfl (qf N9 rfl (qs UQ rfl (Ac ?_)))))))))))
       exact sn [] h
    ·refine Ap ?_
     exact sn [] h
 ·refine wq rfl (qe rfl ?_)
  obtain rfl := sj h
  refine Af (sm [] [(4, bD true)] [(90000, .box [iC v1.2.1, iC v1.2.2.1, .pure (.val (.bool v1.2.2.2)), .mref 90001]), (90001, .mp (DK (Value.int .i64) FO v1.1))] rfl rfl) (Ar ?_)
  exact ⟨⟨[_], tm, rfl⟩, ⟨rfl, rfl, tv⟩, tv⟩
theorem Mn (N : Nat) (p0 : List Int) (p1 : Int) (r : Int) (h : D2 N p0 p1 = some r) : Aq uS 114 [pD (.sl (p0.map As)), iD p1] [] (iD r) := by
 unfold D2 at h
 refine cw (n := 22) (rs := [.tmp 4]) Tryz.func114 fun w0 S0 => ?_
 refine wq rfl (qa rfl (Ac (wp rfl (qm rfl (AH AB rfl (qm rfl (Ac ?_)))))))
 refine A5 (L := Dn N p0) h (fun v1 => mk [(1, iD v1.1), (7, pD (.sl (p0.map As))), (8, iD ((p0.length : Int))), (9, iD v1.2)] []) (fun v2 => mk [] []) (fun _ _ => rfl) (sm [] _ _ rfl rfl) (fun j1 n1 v1 h => ?_) (fun v2 s h hs => ?_)
 ·unfold Dn at h
  refine wq rfl (A4 rfl (Ac (AO ?_)))
  refine Bj h (fun h => ?_) fun h => ?_
  ·refine Ap (AO (AP (wq rfl (qm rfl ?_))))
   refine BP h fun v4 a4 b4 h => qi AB CK a4 (Ai b4) rfl (qk Ba rfl (qa rfl (qa rfl (Ac (wp rfl (qw 2 rfl (A4 rfl (Ac ?_))))))))
   refine Bj h (fun h => ?_) fun h => ?_
   ·refine wq rfl (qm rfl (qe rfl ?_))
    obtain rfl := sj h
    refine Af (sm [] [(4, iD v1.2)] [] rfl rfl) (Ar ?_)
    exact ⟨⟨[_], tm, rfl⟩, tv⟩
   ·refine Ap (Ak Ay rfl (qw 2 rfl (KE rfl (qa rfl (Ac (Ak Ay rfl (Cq rfl (qm rfl (Ac ?_)))))))))
    exact sn [] h
  ·refine BV ?_
   exact sn [] h
 ·refine Af hs (wq rfl (qe rfl ?_))
  obtain rfl := sj h
  refine Af (sm [] [(4, iD ((-1)))] [] rfl rfl) (Ar ?_)
  exact ⟨⟨[_], tm, rfl⟩, tv⟩
theorem Gg (N : Nat) (p0 : Ad) (p1 : Int) (p2 : Int) (r : Bool) (h : Cb N p0 p1 p2 = some r) : Aq uS 115 [.e (.agg (Be p0)), iD p1, iD p2] [] (bD r) := by
 unfold Cb at h
 refine cw (n := 23) (rs := [.tmp 6]) Tryz.func115 fun w0 S0 => ?_
 refine wq rfl (qb rfl (qe rfl ?_))
 refine AK h (fun v1 => mk [(6, bD v1)] []) (fun j1 h => ?_) (fun v1 h => ?_)
 ·refine Ak Ay rfl (qf CV rfl (ql Bc rfl (qm rfl ?_)))
  refine BP h fun v2 a2 b2 h => qi AB CK a2 (Ai b2) rfl (qk Ba rfl (qm rfl (AN rfl (qm rfl ?_))))
  refine CJ 14 h rfl (fun h => ?_) fun h => ?_
  ·refine qw 7 rfl (qp rfl (qe rfl ?_))
   exact sn [] h
  ·refine qf BO rfl (ql Bc rfl (qm rfl ?_))
   refine BP h fun v4 a4 b4 h => qi AB CK a4 (Ai b4) rfl (qk Ba rfl (qm rfl (AN rfl (qp rfl (qe rfl ?_)))))
   exact sn [] h
 ·obtain rfl := sj h
  refine Af (sm [] [(6, bD v1)] [] rfl rfl) (Ar ?_)
  exact ⟨⟨[_], tm, rfl⟩, tv⟩
theorem KI (N : Nat) (p0 : Aa) (p1 : Ad) (p2 : Ab) (r : Bool) (h : DC N p0 p1 p2 = some r) : Aq uS 116 [.e (.agg (Al p0)), .e (.agg (Be p1)), .e (.agg (Br p2))] [] (bD r) := by
 unfold DC at h
 refine cw (n := 46) (rs := [.tmp 6]) Tryz.func116 fun w0 S0 => ?_
 refine wq rfl (qb rfl (qb rfl (qb rfl (qa rfl (Ac (wq rfl (qf BF rfl (ql EU rfl (qf G5 rfl (ql Ba rfl ?_))))))))))
 refine BP h fun v1 a1 b1 h => qi CP BT a1 (Ai b1) rfl (qK EP BT rfl (qz Jo rfl (qs BT rfl (Ac (wp rfl (qL B0 AQ rfl (qf GJ rfl (ql Ba rfl (qf HU rfl (ql Ba rfl ?_))))))))))
 refine Ca h fun v2 a2 h => Ax [] (Gg N p1 v1.fB p2.fF v2 a2) Rr rfl (Cz rfl (Ac ?_))
 refine Bj h (fun h => ?_) fun h => ?_
 ·refine wq rfl (qe rfl ?_)
  obtain rfl := sj h
  refine Af (sm [] [(6, bD false)] [] rfl rfl) (Ar ?_)
  exact ⟨⟨[_], tm, rfl⟩, tv⟩
 ·refine Ap (AO ?_)
  refine AK h (fun v4 => mk [(4, oD (.ptr 4 0)), (5, oD (.ptr 5 0)), (7, oD (.ptr 7 0)), (28, bD v4)] [(4, .box (Be p1)), (5, .box (Br p2)), (7, .box (Cy v1))]) (fun j4 h => ?_) (fun v4 h => ?_)
  ·refine Ak Ay rfl (qf DH rfl (ql Ba rfl (AN rfl (qm rfl ?_))))
   refine CJ 24 h rfl (fun h => ?_) fun h => ?_
   ·refine qw 3 rfl (qp rfl (Ac ?_))
    exact sn [] h
   ·refine qf DH rfl (ql Ba rfl (AN rfl (qp rfl (Ac ?_))))
    exact sn [] h
  ·refine Bj h (fun h => ?_) fun h => ?_
   ·refine wq rfl (qf CE rfl (ql GQ rfl (qf G5 rfl (ql Ba rfl ?_))))
    refine BP h fun v7 a7 b7 h => qi Dz DE a7 (Ai b7) rfl (qk Hc rfl (qf Hb rfl (ql Ba rfl ?_)))
    refine Hj h fun c8 h => Kt rfl c8 (MU rfl (AN rfl (qa rfl (AE (by kernel_rfl) ?_))))
    obtain rfl := sj h
    refine Af (sm [] [(6, bD (((Fi .u8 ((Fp .u8 v7 p2.fA)) 1) == 1)))] [] rfl rfl) (Ar ?_)
    exact ⟨⟨[_], tm, rfl⟩, tv⟩
   ·refine Ap (wq rfl (qL B0 AQ rfl (qf Cf rfl (ql Ba rfl (qf Hb rfl (ql Ba rfl ?_))))))
    refine Ca h fun v9 a9 h => Ax [] (Gg N p1 v1.fj p2.fA v9 a9) Rr rfl (qe rfl ?_)
    obtain rfl := sj h
    refine Af (sm [] [(6, bD v9)] [] rfl rfl) (Ar ?_)
    exact ⟨⟨[_], tm, rfl⟩, tv⟩
theorem NW (N : Nat) (p0 : Aa) (p1 : Ad) (p2 : Am) (r : Ad × Int) (h : E7 N p0 p1 p2 = some r) : Aq uS 155 [.e (.agg (Al p0)), .e (.agg (Be p1)), .e (.agg (B1 p2))] [(1, r.1.fh.map As), (1, r.1.fe.map As), (1, r.1.ff.map Dw)] (.tup [.agg [.own 0, .own 1, .own 2], .one (iC r.2)]) := by
 unfold E7 at h
 refine cw (n := 22) (rs := [.cell 6 40, .tmp 7]) Tryz.func155 fun w0 S0 => ?_
 refine wq rfl (qb rfl (qb rfl (qb rfl (qz C7 rfl (qa rfl (Ac (wp rfl (qL DS DN rfl (qL B0 AQ rfl ?_)))))))))
 refine Ca h fun v1 a1 h => Ax [] (Kw N p0 p1 v1 a1) Tt rfl (qa rfl (Ac (wq rfl (qm rfl (BG rfl (Ac ?_))))))
 refine Bj h (fun h => ?_) fun h => ?_
 ·refine wq rfl (Bt C7 Gt rfl (qm rfl (qs AQ rfl (qe rfl ?_))))
  obtain rfl := sj h
  refine Af ((Av 6 0 2001 1 _ rfl rfl rfl rfl).trans ((Av 6 1 2002 1 _ rfl rfl rfl rfl).trans ((Av 6 2 2003 1 _ rfl rfl rfl rfl).trans (sm [(1000, 2001), (1001, 2002), (1002, 2003)] [(6, oD (.ptr 6 0)), (7, iD v1)] [(6, .box [.own 1000, .own 1001, .own 1002]), (1000, .vec 1 ((([] : List Int)).map As)), (1001, .vec 1 ((([] : List Int)).map As)), (1002, .vec 1 ((([] : List Int)).map Dw))] rfl rfl)))) (Ar ?_)
  exact ⟨⟨[_, _], ⟨.cellN _ _ _ _ _ _ _ rfl rfl B0 AQ rfl rfl (H7 rfl), tm⟩, rfl⟩, ⟨rfl, rfl, rfl, tv⟩⟩
 ·refine Ap (wq rfl (qL DS DN rfl (qL B0 AQ rfl (qL Jh Gs rfl ?_))))
  refine Ca h fun v3 a3 h => Ax [2004, 2005, 2006] (JB N p0 p1 p2 v3 a3) TX rfl (qx rfl (qx rfl (qs AQ rfl (qe rfl ?_))))
  obtain rfl := sj h
  refine Af (sm [(1000, 2004), (1001, 2005), (1002, 2006)] [(6, oD (.ptr 6 0)), (7, iD v3.2)] [(6, .box [.own 1000, .own 1001, .own 1002]), (1000, .vec 1 (v3.1.fh.map As)), (1001, .vec 1 (v3.1.fe.map As)), (1002, .vec 1 (v3.1.ff.map Dw))] rfl rfl) (Ar ?_)
  exact ⟨⟨[_, _], ⟨.cellN _ _ _ _ _ _ _ rfl rfl B0 AQ rfl rfl (H7 rfl), tm⟩, rfl⟩, ⟨rfl, rfl, rfl, tv⟩⟩
theorem EA (N : Nat) (p0 : Ah) (p1 : Am) (r : Ah) (h : BR N p0 p1 = some r) : Do uS 117 [oD (.ptr 90000 0), .e (.agg (B1 p1))] [(.box (Aw p0), .box (Aw r))] [] (.tup []) := by
 unfold BR at h
 refine Db (n := 25) (rs := []) Tryz.func117 rfl rfl rfl (GC rfl) (GC rfl) rfl rfl (GC rfl) rfl (GC rfl) fun w0 S0 GL => TB ?_
 refine Af (sm [] [(0, oD (.ptr 90000 0)), (1, .e (.agg (B1 p1)))] [(90000, .box (Aw p0))] rfl rfl) (wq rfl (qb rfl (Ac (wq rfl (qm rfl (Hx rfl (qf Nm rfl (qL DS DN rfl (qm rfl (Hx rfl (qf JI rfl (qL B0 AQ rfl (qL Jh Gs rfl ?_)))))))))))))
 refine Ca h fun v1 a1 h => Ax [2001, 2002, 2003] (NW N ((Aa.mk p0.fc.fb p0.fc.fk p0.fc.fp p0.fc.fd)) ((Ad.mk p0.fg.fh p0.fg.fe p0.fg.ff)) p1 v1 a1) VE rfl (qm rfl (qx rfl (qx rfl (qz C7 rfl (qs AQ rfl (qa rfl (AE (by kernel_rfl) (wq rfl (qm rfl (AN rfl (Ac ?_)))))))))))
 refine Bj h (fun h => ?_) fun h => ?_
 ·refine Ak Ay rfl (qm rfl (qL B0 AQ rfl (Hx rfl (qf JI rfl (qs AQ rfl (Ac ?_))))))
  obtain rfl := sj h
  refine ⟨_, ((B6 2001 _ _ rfl rfl).trans ((B6 2002 _ _ rfl rfl).trans ((B6 2003 _ _ rfl rfl).trans (sm [] [] [(90000, .box [sC (p0.fc.fb.map As), sC (p0.fc.fk.map As), sC (p0.fc.fp.map As), sC (p0.fc.fd.map Bv), sC (p0.fr.map AM), iC p0.fi, iC p0.fw, sC (v1.1.fh.map As), sC (v1.1.fe.map As), sC (v1.1.ff.map Dw)])] rfl rfl)))), ?_⟩
  exact ⟨⟨[], tv, rfl⟩, ⟨rfl, tv⟩, tv⟩
 ·refine Ap ?_
  obtain rfl := sj h
  refine ⟨_, (sm [] [] [(90000, .box (Aw p0))] rfl rfl), ?_⟩
  exact ⟨⟨[], tv, rfl⟩, ⟨rfl, tv⟩, tv⟩
theorem Fk (N : Nat) (p0 : Ah) (p1 : Ab) (r : Ah) (h : BE N p0 p1 = some r) : Do uS 82 [oD (.ptr 90000 0), .e (.agg (Br p1))] [(.box (Aw p0), .box (Aw r))] [] (.tup []) := by
 unfold BE at h
 refine Db (n := 62) (rs := []) Tryz.func82 rfl rfl rfl (GC rfl) (GC rfl) rfl rfl (GC rfl) rfl (GC rfl) fun w0 S0 GL => TB ?_
 refine Af (sm [] [(0, oD (.ptr 90000 0)), (1, .e (.agg (Br p1)))] [(90000, .box (Aw p0))] rfl rfl) (wq rfl (qb rfl (Ac (wq rfl (qm rfl (Hx rfl (qf M7 rfl (ql O1 rfl (qm rfl (Hx rfl (qf II rfl (ql Ba rfl ?_))))))))))))
 refine BP h fun v1 a1 b1 h => qi GS Gs a1 (Ai b1) rfl (qK Jh Gs rfl (qz QG rfl (qs Gs rfl (AE (by kernel_rfl) (wq rfl (qf DQ rfl (ql Ba rfl (Ac (AP (wq rfl (AN rfl (qe rfl ?_))))))))))))
 refine Bj h (fun h => ?_) fun h => ?_
 ·refine wq rfl (qm rfl (Hx rfl (qf G9 rfl (qs CK rfl (Ac (wq rfl (qf Dl rfl (ql Ba rfl (AN rfl (Ac ?_))))))))))
  refine Bj h (fun h => ?_) fun h => ?_
  ·refine Ak Ay rfl (qm rfl (qL Jh Gs rfl ?_))
   refine Ca h fun v4 a4 h => Fc (ds0 := [_, _]) [90000] [] [true] (EA N ((Ah.mk ((Aa.mk p0.fc.fb p0.fc.fk p0.fc.fp p0.fc.fd)) p0.fr p0.fi 1 ((Ad.mk p0.fg.fh p0.fg.fe p0.fg.ff)))) v1 v4 a4) (.p rfl) Q8 rfl ⟨rfl, rfl, tv⟩ rfl rfl (by decide) ⟨rfl, tv⟩ rfl (CQ rfl) tv ⟨(fun h => by cases h), tv⟩ rfl rfl rfl ?_
   refine Ac ?_
   obtain rfl := sj h
   refine ⟨_, (sm [] [] [(90000, .box (Aw v4))] rfl rfl), ?_⟩
   exact ⟨⟨[], tv, rfl⟩, ⟨rfl, tv⟩, tv⟩
  ·refine Ap ?_
   obtain rfl := sj h
   refine ⟨_, (sm [] [] [(90000, .box [sC (p0.fc.fb.map As), sC (p0.fc.fk.map As), sC (p0.fc.fp.map As), sC (p0.fc.fd.map Bv), sC (p0.fr.map AM), iC p0.fi, iC 1, sC (p0.fg.fh.map As), sC (p0.fg.fe.map As), sC (p0.fg.ff.map Dw)])] rfl rfl), ?_⟩
   exact ⟨⟨[], tv, rfl⟩, ⟨rfl, tv⟩, tv⟩
 ·refine wq rfl (AN rfl (qe rfl ?_))
  refine Bj h (fun h => ?_) fun h => ?_
  ·refine AK h (fun v6 => mk [(0, oD (.ptr 90000 0))] [(90000, .box (Aw v6))]) (fun j6 h => ?_) (fun v6 h => ?_)
   ·refine wq rfl (qf Dl rfl (ql Ba rfl (BG rfl (Ac ?_))))
    refine Bj h (fun h => ?_) fun h => ?_
    ·refine Ak Ay rfl (qm rfl (qL Jh Gs rfl ?_))
     refine Ca h fun v8 a8 h => Fc (ds0 := [_, _]) [90000] [] [true] (EA N ((Ah.mk ((Aa.mk p0.fc.fb p0.fc.fk p0.fc.fp p0.fc.fd)) p0.fr p0.fi p0.fw ((Ad.mk p0.fg.fh p0.fg.fe p0.fg.ff)))) v1 v8 a8) (.p rfl) Q8 rfl ⟨rfl, rfl, tv⟩ rfl rfl (by decide) ⟨rfl, tv⟩ rfl (CQ rfl) tv ⟨(fun h => by cases h), tv⟩ rfl rfl rfl ?_
     refine Ac ?_
     exact sn [] h
    ·refine Ap ?_
     exact sn [] h
   ·refine Ak Ay rfl (qw 3 rfl (Hx rfl (qf II rfl (ql Ba rfl (Cq rfl (Hx rfl (qf II rfl (qs CK rfl (Hx rfl (qf G9 rfl (qs CK rfl (Ac ?_))))))))))))
    obtain rfl := sj h
    refine ⟨_, (sm [] [] [(90000, .box [sC (v6.fc.fb.map As), sC (v6.fc.fk.map As), sC (v6.fc.fp.map As), sC (v6.fc.fd.map Bv), sC (v6.fr.map AM), iC ((wI .i64 (v6.fi + 1))), iC 0, sC (v6.fg.fh.map As), sC (v6.fg.fe.map As), sC (v6.fg.ff.map Dw)])] rfl rfl), ?_⟩
    exact ⟨⟨[], tv, rfl⟩, ⟨rfl, tv⟩, tv⟩
  ·refine wq rfl (AN rfl (qe rfl ?_))
   refine Bj h (fun h => ?_) fun h => ?_
   ·refine Ak Ay rfl (qm rfl (Hx rfl (qf G9 rfl (qs CK rfl (Ac ?_)))))
    obtain rfl := sj h
    refine ⟨_, (sm [] [] [(90000, .box [sC (p0.fc.fb.map As), sC (p0.fc.fk.map As), sC (p0.fc.fp.map As), sC (p0.fc.fd.map Bv), sC (p0.fr.map AM), iC p0.fi, iC 2, sC (p0.fg.fh.map As), sC (p0.fg.fe.map As), sC (p0.fg.ff.map Dw)])] rfl rfl), ?_⟩
    exact ⟨⟨[], tv, rfl⟩, ⟨rfl, tv⟩, tv⟩
   ·refine wq rfl (AN rfl (qe rfl ?_))
    refine Bj h (fun h => ?_) fun h => ?_
    ·refine wq rfl (qm rfl (Hx rfl (qf G9 rfl (qs CK rfl (Ac (Ak Ay rfl (qm rfl (qf Dy rfl (ql Ba rfl (Bt QG Um rfl ?_))))))))))
     refine Ca h fun v11 a11 h => Fc (ds0 := [_, _]) [90000] [] [true] (EA N ((Ah.mk ((Aa.mk p0.fc.fb p0.fc.fk p0.fc.fp p0.fc.fd)) p0.fr p0.fi 0 ((Ad.mk p0.fg.fh p0.fg.fe p0.fg.ff)))) ((Am.mk 4 v1.fm 0)) v11 a11) (.p rfl) Q8 rfl ⟨rfl, rfl, tv⟩ rfl rfl (by decide) ⟨rfl, tv⟩ rfl (CQ rfl) tv ⟨(fun h => by cases h), tv⟩ rfl rfl rfl ?_
     refine Ac ?_
     obtain rfl := sj h
     refine ⟨_, (sm [] [] [(90000, .box (Aw v11))] rfl rfl), ?_⟩
     exact ⟨⟨[], tv, rfl⟩, ⟨rfl, tv⟩, tv⟩
    ·refine Ap ?_
     obtain rfl := sj h
     refine ⟨_, (sm [] [] [(90000, .box (Aw p0))] rfl rfl), ?_⟩
     exact ⟨⟨[], tv, rfl⟩, ⟨rfl, tv⟩, tv⟩
theorem Jt (N : Nat) (p0 : Ah) (p1 : A2) (p2 : List Int) (p3 : Ab) (r : Int × Ah × A2 × (List (Int × Int))) (h : C4 N p0 p1 p2 p3 = some r) : Do uS 73 [oD (.ptr 90000 0), oD (.ptr 90001 0), pD (.sl (p2.map As)), .e (.agg (Br p3))] [(.box (Aw p0), .box (Aw r.2.1)), (.box [iC p1.fE, iC p1.fG, .pure (.val (.bool p1.fH)), .mref 90002], .box [iC r.2.2.1.fE, iC r.2.2.1.fG, .pure (.val (.bool r.2.2.1.fH)), .mref 90002]), (.mp (DK (Value.int .i64) FO p1.fI), .mp (DK (Value.int .i64) FO r.2.2.2))] [] (iD r.1) := by
 unfold C4 at h
 refine Db (n := 79) (rs := [.tmp 8]) Tryz.func73 rfl rfl rfl (GC rfl) (GC rfl) rfl rfl (GC rfl) rfl (GC rfl) fun w0 S0 GL => ?_
 refine Af (sm [] [(0, oD (.ptr 90000 0)), (1, oD (.ptr 90001 0)), (2, pD (.sl (p2.map As))), (3, .e (.agg (Br p3)))] [(90000, .box (Aw p0)), (90001, .box [iC p1.fE, iC p1.fG, .pure (.val (.bool p1.fH)), .mref 90002]), (90002, .mp (DK (Value.int .i64) FO p1.fI))] rfl rfl) (wq rfl (qb rfl (qe rfl ?_)))
 refine AK h (fun v1 => mk [] [(90000, .box (Aw v1.2.1)), (90001, .box [iC v1.2.2.1, iC v1.2.2.2.1, .pure (.val (.bool v1.2.2.2.2)), .mref 90002]), (90002, .mp (DK (Value.int .i64) FO v1.1))]) (fun j1 h => ?_) (fun v1 h => ?_)
 ·refine AP ?_
  refine AK h (fun v2 => mk [(0, oD (.ptr 90000 0)), (1, oD (.ptr 90001 0)), (2, pD (.sl (p2.map As))), (7, oD (.ptr 7 0)), (10, bD v2)] [(7, .box (Br p3)), (90000, .box (Aw p0)), (90001, .box [iC p1.fE, iC p1.fG, .pure (.val (.bool p1.fH)), .mref 90002]), (90002, .mp (DK (Value.int .i64) FO p1.fI))]) (fun j2 h => ?_) (fun v2 h => ?_)
  ·refine Ak Ay rfl (qf DQ rfl (ql Ba rfl (AN rfl (qm rfl ?_))))
   refine CJ 14 h rfl (fun h => ?_) fun h => ?_
   ·refine qm rfl (Hx rfl (qf Nm rfl (qL DS DN rfl (qL F8 DB rfl ?_))))
    refine Ca h fun v4 a4 h => Ax [] (MY N ((Aa.mk p0.fc.fb p0.fc.fk p0.fc.fp p0.fc.fd)) p3 v4 a4) Wq rfl (Cz rfl (qp rfl (qa rfl (AE (by kernel_rfl) ?_))))
    exact sn [] h
   ·refine qw 7 rfl (qp rfl (qa rfl (AE (by kernel_rfl) ?_)))
    exact sn [] h
  ·refine Bj h (fun h => ?_) fun h => ?_
   ·refine wq rfl (qe rfl ?_)
    obtain rfl := sj h
    refine Af (sm [] [(8, iD 1)] [(90000, .box (Aw p0)), (90001, .box [iC p1.fE, iC p1.fG, .pure (.val (.bool p1.fH)), .mref 90002]), (90002, .mp (DK (Value.int .i64) FO p1.fI))] rfl rfl) (Ar ?_)
    exact ⟨⟨[_], tm, rfl⟩, ⟨rfl, rfl, rfl, tv⟩, tv⟩
   ·refine AK h (fun v6 => mk [(0, oD (.ptr 90000 0)), (1, oD (.ptr 90001 0)), (2, pD (.sl (p2.map As))), (7, oD (.ptr 7 0)), (23, bD v6)] [(7, .box (Br p3)), (90000, .box (Aw p0)), (90001, .box [iC p1.fE, iC p1.fG, .pure (.val (.bool p1.fH)), .mref 90002]), (90002, .mp (DK (Value.int .i64) FO p1.fI))]) (fun j6 h => ?_) (fun v6 h => ?_)
    ·refine Ak Ay rfl (qL F8 DB rfl ?_)
     refine Ca h fun v7 a7 h => Ax [] (FD N p3 v7 a7) SG rfl (qm rfl ?_)
     refine CJ 26 h rfl (fun h => ?_) fun h => ?_
     ·refine qm rfl (qL F8 DB rfl ?_)
      refine Ca h fun v9 a9 h => Fc (ds0 := [_, _]) [90000] [] [false] (FI N ((Ah.mk ((Aa.mk p0.fc.fb p0.fc.fk p0.fc.fp p0.fc.fd)) p0.fr p0.fi p0.fw ((Ad.mk p0.fg.fh p0.fg.fe p0.fg.ff)))) p3 v9 a9) (.g rfl rfl) Vw rfl ⟨rfl, rfl, tv⟩ rfl rfl (by decide) ⟨rfl, tv⟩ rfl (CQ rfl) tv ⟨(fun _ => rfl), tv⟩ rfl rfl rfl ?_
      refine Cz rfl (qp rfl (qe rfl ?_))
      exact sn [] h
     ·refine qw 4 rfl (qp rfl (qe rfl ?_))
      exact sn [] h
    ·refine Bj h (fun h => ?_) fun h => ?_
     ·refine wq rfl (qe rfl ?_)
      obtain rfl := sj h
      refine Af (sm [] [(8, iD 2)] [(90000, .box (Aw p0)), (90001, .box [iC p1.fE, iC p1.fG, .pure (.val (.bool p1.fH)), .mref 90002]), (90002, .mp (DK (Value.int .i64) FO p1.fI))] rfl rfl) (Ar ?_)
      exact ⟨⟨[_], tm, rfl⟩, ⟨rfl, rfl, rfl, tv⟩, tv⟩
     ·refine wq rfl (qm rfl (qL F8 DB rfl ?_))
      refine Ca h fun v11 a11 h => Fc (ds0 := [_, _]) [90001, 90002] [] [true, true] (It N p1 p3 v11 a11) (.p rfl) WA rfl ⟨rfl, rfl, tv⟩ rfl rfl (Ec rfl) ⟨rfl, rfl, tv⟩ rfl (CQ rfl) tv ⟨(fun h => by cases h), (fun h => by cases h), tv⟩ rfl rfl rfl ?_
      refine Cz rfl (qe rfl ?_)
      refine Bj h (fun h => ?_) fun h => ?_
      ·refine wq rfl (qe rfl ?_)
       obtain rfl := sj h
       refine Af (sm [] [(8, iD 3)] [(90000, .box (Aw p0)), (90001, .box [iC v11.2.1.fE, iC v11.2.1.fG, .pure (.val (.bool v11.2.1.fH)), .mref 90002]), (90002, .mp (DK (Value.int .i64) FO v11.2.2))] rfl rfl) (Ar ?_)
       exact ⟨⟨[_], tm, rfl⟩, ⟨rfl, rfl, rfl, tv⟩, tv⟩
      ·refine wq rfl (qf DQ rfl (ql Ba rfl (AN rfl (qe rfl ?_))))
       refine Bj h (fun h => ?_) fun h => ?_
       ·refine wq rfl (qm rfl (qf HJ rfl (ql Ba rfl ?_)))
        refine Ca h fun v14 a14 h => Ax [] (Mn N p2 p3.ft v14 a14) VP rfl (qe rfl ?_)
        refine AK h (fun v15 => mk [(57, bD v15)] [(90000, .box (Aw p0)), (90001, .box [iC v11.2.1.fE, iC v11.2.1.fG, .pure (.val (.bool v11.2.1.fH)), .mref 90002]), (90002, .mp (DK (Value.int .i64) FO v11.2.2))]) (fun j15 h => ?_) (fun v15 h => ?_)
        ·refine Ak Ay rfl (qm rfl (A4 rfl (qm rfl ?_)))
         refine CJ 47 h rfl (fun h => ?_) fun h => ?_
         ·refine qw 9 rfl (qp rfl (AE (by kernel_rfl) ?_))
          exact sn [] h
         ·refine qm rfl (Hx rfl (qf JI rfl (qL B0 AQ rfl (qm rfl (qf Jn rfl (ql Ba rfl ?_))))))
          refine Ca h fun v17 a17 h => Ax [] (Gg N ((Ad.mk p0.fg.fh p0.fg.fe p0.fg.ff)) v14 p3.fq v17 a17) Rr rfl (Cz rfl (qp rfl (AE (by kernel_rfl) ?_)))
          exact sn [] h
        ·refine Bj h (fun h => ?_) fun h => ?_
         ·refine wq rfl (qe rfl ?_)
          obtain rfl := sj h
          refine Af (sm [] [(8, iD 4)] [(90000, .box (Aw p0)), (90001, .box [iC v11.2.1.fE, iC v11.2.1.fG, .pure (.val (.bool v11.2.1.fH)), .mref 90002]), (90002, .mp (DK (Value.int .i64) FO v11.2.2))] rfl rfl) (Ar ?_)
          exact ⟨⟨[_], tm, rfl⟩, ⟨rfl, rfl, rfl, tv⟩, tv⟩
         ·refine Ap ?_
          exact sn [] h
       ·refine wq rfl (qf DQ rfl (ql Ba rfl (AN rfl (qe rfl ?_))))
        refine Bj h (fun h => ?_) fun h => ?_
        ·refine wq rfl (qm rfl (Hx rfl (qf Nm rfl (qL DS DN rfl (qm rfl (Hx rfl (qf JI rfl (qL B0 AQ rfl (qL F8 DB rfl ?_)))))))))
         refine Ca h fun v20 a20 h => Ax [] (KI N ((Aa.mk p0.fc.fb p0.fc.fk p0.fc.fp p0.fc.fd)) ((Ad.mk p0.fg.fh p0.fg.fe p0.fg.ff)) p3 v20 a20) Vy rfl (Cz rfl (AE (by kernel_rfl) ?_))
         refine Bj h (fun h => ?_) fun h => ?_
         ·refine wq rfl (qe rfl ?_)
          obtain rfl := sj h
          refine Af (sm [] [(8, iD 5)] [(90000, .box (Aw p0)), (90001, .box [iC v11.2.1.fE, iC v11.2.1.fG, .pure (.val (.bool v11.2.1.fH)), .mref 90002]), (90002, .mp (DK (Value.int .i64) FO v11.2.2))] rfl rfl) (Ar ?_)
          exact ⟨⟨[_], tm, rfl⟩, ⟨rfl, rfl, rfl, tv⟩, tv⟩
         ·refine Ap ?_
          exact sn [] h
        ·refine wq rfl (qL F8 DB rfl ?_)
         refine Ca h fun v22 a22 h => Ax [] (FD N p3 v22 a22) SG rfl (qe rfl ?_)
         refine Bj h (fun h => ?_) fun h => ?_
         ·refine Ak Ay rfl (qm rfl (qL F8 DB rfl ?_))
          refine Ca h fun v24 a24 h => Fc (ds0 := [_, _]) [90000] [] [true] (Fk N ((Ah.mk ((Aa.mk p0.fc.fb p0.fc.fk p0.fc.fp p0.fc.fd)) p0.fr p0.fi p0.fw ((Ad.mk p0.fg.fh p0.fg.fe p0.fg.ff)))) p3 v24 a24) (.p rfl) V3 rfl ⟨rfl, rfl, tv⟩ rfl rfl (by decide) ⟨rfl, tv⟩ rfl (CQ rfl) tv ⟨(fun h => by cases h), tv⟩ rfl rfl rfl ?_
          refine Ac ?_
          exact sn [] h
         ·refine Ap ?_
          exact sn [] h
 ·refine wq rfl (qe rfl ?_)
  obtain rfl := sj h
  refine Af (sm [] [(8, iD 0)] [(90000, .box (Aw v1.2.1)), (90001, .box [iC v1.2.2.1, iC v1.2.2.2.1, .pure (.val (.bool v1.2.2.2.2)), .mref 90002]), (90002, .mp (DK (Value.int .i64) FO v1.1))] rfl rfl) (Ar ?_)
  exact ⟨⟨[_], tm, rfl⟩, ⟨rfl, rfl, rfl, tv⟩, tv⟩
theorem Mh (N : Nat) (p0 : Aa) (p1 : List Int) (p2 : List Am) (p3 : List Ab) (r : Int × Int × (Option Ah) × Int) (h : EI N p0 p1 p2 p3 = some r) : Aq uS 35 [.e (.agg (Al p0)), pD (.sl (p1.map As)), pD (.sl (p2.map AM)), pD (.sl (p3.map AJ))] [] (.tup [.one (iC r.1), .one (iC r.2.1), .one (.pure (.rp (zE0 EH r.2.2.1))), .one (iC r.2.2.2)]) := by
 unfold EI at h
 refine cw (n := 69) (rs := [.tmp 8, .tmp 9, .tmp 10, .tmp 11]) Tryz.func35 fun w0 S0 => ?_
 refine wq rfl (qb rfl (qa rfl (qa rfl (qa rfl (qa rfl (Ac (wp rfl (qL DS DN rfl ?_))))))))
 refine Ca h fun v1 a1 h => Ax [] (DV N p0 v1 a1) Te rfl (qa rfl (Ac (wq rfl (qm rfl (BG rfl (Ac ?_))))))
 refine Bj h (fun h => ?_) fun h => ?_
 ·refine wq rfl (qm rfl (qa rfl (qa rfl (qa rfl (qe rfl ?_)))))
  obtain rfl := sj h
  refine Af (sm [] [(8, iD 0), (9, iD 0), (10, pD (.rp none)), (11, iD v1)] [] rfl rfl) (Ar ?_)
  exact ⟨⟨[_, _, _, _], ⟨.tmp _ _ rfl, ⟨.tmp _ _ rfl, ⟨.tmp _ _ rfl, tm⟩⟩⟩, rfl⟩, tv⟩
 ·refine Ap (wp rfl (qL DS DN rfl (qm rfl ?_)))
  refine Ca h fun v3 a3 h => Ax [] (KN N p0 p1 v3 a3) WO rfl (qa rfl (Ac (wq rfl (qm rfl (BG rfl (Ac ?_))))))
  refine Bj h (fun h => ?_) fun h => ?_
  ·refine wq rfl (qm rfl (qa rfl (qa rfl (qa rfl (qe rfl ?_)))))
   obtain rfl := sj h
   refine Af (sm [] [(8, iD 0), (9, iD 0), (10, pD (.rp none)), (11, iD v3)] [] rfl rfl) (Ar ?_)
   exact ⟨⟨[_, _, _, _], ⟨.tmp _ _ rfl, ⟨.tmp _ _ rfl, ⟨.tmp _ _ rfl, tm⟩⟩⟩, rfl⟩, tv⟩
  ·refine Ap (wq rfl (qL DS DN rfl (qm rfl ?_)))
   refine Ca h fun v5 a5 h => Ax [] (Hd N p0 p2 v5 a5) U8 rfl (qm rfl (qx rfl (qx rfl (qz C7 rfl (qs AQ rfl (qe rfl ?_))))))
   refine AK h (fun v6 => mk [(1, pD (.sl (p1.map As))), (2, pD (.sl (p2.map AM))), (3, pD (.sl (p3.map AJ))), (4, oD (.ptr 4 0)), (14, oD (.ptr 14 0)), (15, iD v6)] [(4, .box (Al p0)), (14, .box (Be v5.1))]) (fun j6 h => ?_) (fun v6 h => ?_)
   ·refine wq rfl (qm rfl (AN rfl (Ac ?_)))
    refine Bj h (fun h => ?_) fun h => ?_
    ·refine Ak Ay rfl (qm rfl ?_)
     refine Ca h fun v8 a8 h => Ax [] (F0 N p3 v8 a8) T7 rfl (qe rfl ?_)
     exact sn [] h
    ·refine Ap ?_
     exact sn [] h
   ·refine wp rfl (qm rfl (BG rfl (Ac ?_)))
    refine Bj h (fun h => ?_) fun h => ?_
    ·refine wq rfl (qm rfl (qa rfl (qa rfl (qa rfl (qe rfl ?_)))))
     obtain rfl := sj h
     refine Af (sm [] [(8, iD 0), (9, iD 0), (10, pD (.rp none)), (11, iD v6)] [] rfl rfl) (Ar ?_)
     exact ⟨⟨[_, _, _, _], ⟨.tmp _ _ rfl, ⟨.tmp _ _ rfl, ⟨.tmp _ _ rfl, tm⟩⟩⟩, rfl⟩, tv⟩
    ·refine Ap (wq rfl (qL DS DN rfl (qm rfl (qL B0 AQ rfl (Bt V5 Vh rfl (qb rfl (qa rfl (Ac (wq rfl ?_)))))))))
     refine Ca h fun v10 a10 h => Fc (ds0 := []) [] [2001, 2002] [] (JX N v10 a10) (.p rfl) Wx rfl tv rfl rfl (by decide) tv rfl (CQ rfl) ⟨rfl, rfl, tv⟩ tv rfl rfl rfl ?_
     refine Fy (sm [] [(1, pD (.sl (p1.map As))), (2, pD (.sl (p2.map AM))), (3, pD (.sl (p3.map AJ))), (4, oD (.ptr 4 0)), (14, oD (.ptr 14 0)), (15, iD v6), (16, oD (.ptr 49 0)), (42, iD v6), (43, bD ((v6 != 0))), (45, .e (.agg (Al p0))), (46, pD (.sl (p2.map AM))), (47, .e (.agg (Be v5.1))), (48, .e (.agg [sC (p0.fb.map As), sC (p0.fk.map As), sC (p0.fp.map As), sC (p0.fd.map Bv), sC (p2.map AM), iC 0, iC 0, sC (v5.1.fh.map As), sC (v5.1.fe.map As), sC (v5.1.ff.map Dw)])), (49, oD (.ptr 49 0)), (50, oD (.ptr 2001 0))] [(4, .box (Al p0)), (14, .box (Be v5.1)), (49, .box [sC (p0.fb.map As), sC (p0.fk.map As), sC (p0.fp.map As), sC (p0.fd.map Bv), sC (p2.map AM), iC 0, iC 0, sC (v5.1.fh.map As), sC (v5.1.fe.map As), sC (v5.1.ff.map Dw)]), (2001, .box [iC v10.fE, iC v10.fG, .pure (.val (.bool v10.fH)), .mref 2002]), (2002, .mp (DK (Value.int .i64) FO v10.fI))] rfl rfl) (qa rfl (Ac (wp rfl (qm rfl (AH Eb rfl (qm rfl (Ac ?_)))))))
     refine A5 (L := C3 N p1 p3) h (fun v11 => mk [(1, pD (.sl (p1.map As))), (16, oD (.ptr 49 0)), (17, oD (.ptr 2001 0)), (51, pD (.sl (p3.map AJ))), (52, iD ((p3.length : Int))), (53, iD v11.2.2.2.2.2)] [(49, .box (Aw v11.1)), (2001, .box [iC v11.2.1, iC v11.2.2.1, .pure (.val (.bool v11.2.2.2.1)), .mref 2003]), (2003, .mp (DK (Value.int .i64) FO v11.2.2.2.2.1))]) (fun v12 => mk [(16, oD (.ptr 49 0))] [(49, .box (Aw v12))]) (fun _ _ => rfl) (sm [(2003, 2002)] _ _ rfl rfl) (fun j11 n11 v11 h => ?_) (fun v12 s h hs => ?_)
     ·unfold C3 at h
      refine wq rfl (A4 rfl (Ac (AO ?_)))
      refine Bj h (fun h => ?_) fun h => ?_
      ·refine Ap (AO (AP (wq rfl (qm rfl ?_))))
       refine BP h fun v14 a14 b14 h => qi Eb DB a14 (Ai b14) rfl (qK F8 DB rfl (qz IW rfl (qa rfl (qs DB rfl (Ac (wq rfl (qw 3 rfl (qL F8 DB rfl ?_))))))))
       refine Ca h fun v15 a15 h => Fc (ds0 := [_, _, _, _]) [49, 2001, 2003] [] [true, true, true] (Jt N ((Ah.mk ((Aa.mk v11.1.fc.fb v11.1.fc.fk v11.1.fc.fp v11.1.fc.fd)) v11.1.fr v11.1.fi v11.1.fw ((Ad.mk v11.1.fg.fh v11.1.fg.fe v11.1.fg.ff)))) ((A2.mk v11.2.1 v11.2.2.1 v11.2.2.2.1 v11.2.2.2.2.1)) p1 v14 v15 a15) (.p rfl) Wo rfl ⟨rfl, rfl, rfl, rfl, tv⟩ rfl rfl (Ec rfl) ⟨rfl, rfl, rfl, tv⟩ rfl (CQ rfl) tv ⟨(fun h => by cases h), (fun h => by cases h), (fun h => by cases h), tv⟩ rfl rfl rfl ?_
       refine qa rfl (Ac (wq rfl (qm rfl (BG rfl (Ac ?_)))))
       refine Bj h (fun h => ?_) fun h => ?_
       ·refine wq rfl (qw 2 rfl (qa rfl (qa rfl (qa rfl (qe rfl ?_)))))
        obtain rfl := sj h
        refine Af (sm [] [(8, iD v11.2.2.2.2.2), (9, iD v15.1), (10, pD (.rp none)), (11, iD 0)] [] rfl rfl) (Ar ?_)
        exact ⟨⟨[_, _, _, _], ⟨.tmp _ _ rfl, ⟨.tmp _ _ rfl, ⟨.tmp _ _ rfl, tm⟩⟩⟩, rfl⟩, tv⟩
       ·refine Ap (Ak Ay rfl (Cq rfl (qm rfl (Ac ?_))))
        exact sn [] h
      ·refine BV ?_
       exact sn [] h
     ·refine Af hs (wq rfl (qm rfl (qa rfl (qa rfl (qa rfl (qe rfl ?_))))))
      obtain rfl := sj h
      refine Af ((Io 49 [.sl (v12.fc.fb.map As), .sl (v12.fc.fk.map As), .sl (v12.fc.fp.map As), .sl (v12.fc.fd.map Bv), .sl (v12.fr.map AM), .val (.int .i64 v12.fi), .val (.int .i64 v12.fw), .sl (v12.fg.fh.map As), .sl (v12.fg.fe.map As), .sl (v12.fg.ff.map Dw)] rfl rfl).trans ((Nv 10 _ rfl).trans (sm [] [(8, iD 0), (9, iD 0), (10, pD (.rp (zE0 EH ((some ((Ah.mk ((Aa.mk v12.fc.fb v12.fc.fk v12.fc.fp v12.fc.fd)) v12.fr v12.fi v12.fw ((Ad.mk v12.fg.fh v12.fg.fe v12.fg.ff))))))))), (11, iD 15)] [] rfl rfl))) (Ar ?_)
      exact ⟨⟨[_, _, _, _], ⟨.tmp _ _ rfl, ⟨.tmp _ _ rfl, ⟨.tmp _ _ rfl, tm⟩⟩⟩, rfl⟩, tv⟩
theorem F3 (N : Nat) (p0 : Aa) (p1 : List Int) (p2 : List Am) (p3 : List Ab) (r : Int × Int × Int) (h : Cr N p0 p1 p2 p3 = some r) : Aq uS 13 [.e (.agg (Al p0)), pD (.sl (p1.map As)), pD (.sl (p2.map AM)), pD (.sl (p3.map AJ))] [] (.tup [.one (iC r.1), .one (iC r.2.1), .one (iC r.2.2)]) := by
 unfold Cr at h
 refine cw (n := 28) (rs := [.tmp 8, .tmp 9, .tmp 10]) Tryz.func13 fun w0 S0 => ?_
 refine wq rfl (qb rfl (qa rfl (qa rfl (qa rfl (Ac (wq rfl (qL DS DN rfl (qw 3 rfl ?_))))))))
 refine Ca h fun v1 a1 h => Ax [] (Mh N p0 p1 p2 p3 v1 a1) WX rfl (qm rfl (qx rfl (qx rfl (qx rfl (qx rfl (qa rfl (qa rfl (qa rfl (qa rfl (Ac (wq rfl (qw 3 rfl (qa rfl (qa rfl (qe rfl ?_)))))))))))))))
 obtain rfl := sj h
 refine Af (sm [] [(8, iD v1.1), (9, iD v1.2.1), (10, iD v1.2.2.2)] [] rfl rfl) (Ar ?_)
 exact ⟨⟨[_, _, _], ⟨.tmp _ _ rfl, ⟨.tmp _ _ rfl, tm⟩⟩, rfl⟩, tv⟩
theorem J2 (N : Nat) (p0 : Aa) (p1 : List Am) (p2 : List Ab) (r : (Option Ah) × Int × Int) (h : FH N p0 p1 p2 = some r) : Aq uS 39 [.e (.agg (Al p0)), pD (.sl (p1.map AM)), pD (.sl (p2.map AJ))] [] (.tup [.one (.pure (.rp (zE0 EH r.1))), .one (iC r.2.1), .one (iC r.2.2)]) := by
 unfold FH at h
 refine cw (n := 59) (rs := [.tmp 6, .tmp 7, .tmp 8]) Tryz.func39 fun w0 S0 => ?_
 refine wq rfl (qb rfl (qa rfl (qa rfl (qa rfl (Ac (wp rfl (qL DS DN rfl ?_)))))))
 refine Ca h fun v1 a1 h => Ax [] (DV N p0 v1 a1) Te rfl (qa rfl (Ac (wq rfl (qm rfl (BG rfl (Ac ?_))))))
 refine Bj h (fun h => ?_) fun h => ?_
 ·refine wq rfl (qm rfl (qa rfl (qa rfl (qe rfl ?_))))
  obtain rfl := sj h
  refine Af (sm [] [(6, pD (.rp none)), (7, iD 0), (8, iD v1)] [] rfl rfl) (Ar ?_)
  exact ⟨⟨[_, _, _], ⟨.tmp _ _ rfl, ⟨.tmp _ _ rfl, tm⟩⟩, rfl⟩, tv⟩
 ·refine Ap (wq rfl (qL DS DN rfl (qm rfl ?_)))
  refine Ca h fun v3 a3 h => Ax [] (Hd N p0 p1 v3 a3) U8 rfl (qm rfl (qx rfl (qx rfl (qz C7 rfl (qs AQ rfl (qe rfl ?_))))))
  refine AK h (fun v4 => mk [(1, pD (.sl (p1.map AM))), (2, pD (.sl (p2.map AJ))), (3, oD (.ptr 3 0)), (10, oD (.ptr 10 0)), (11, iD v4)] [(3, .box (Al p0)), (10, .box (Be v3.1))]) (fun j4 h => ?_) (fun v4 h => ?_)
  ·refine wq rfl (qm rfl (AN rfl (Ac ?_)))
   refine Bj h (fun h => ?_) fun h => ?_
   ·refine Ak Ay rfl (qm rfl ?_)
    refine Ca h fun v6 a6 h => Ax [] (F0 N p2 v6 a6) T7 rfl (qe rfl ?_)
    exact sn [] h
   ·refine Ap ?_
    exact sn [] h
  ·refine wp rfl (qm rfl (BG rfl (Ac ?_)))
   refine Bj h (fun h => ?_) fun h => ?_
   ·refine wq rfl (qm rfl (qa rfl (qa rfl (qe rfl ?_))))
    obtain rfl := sj h
    refine Af (sm [] [(6, pD (.rp none)), (7, iD 0), (8, iD v4)] [] rfl rfl) (Ar ?_)
    exact ⟨⟨[_, _, _], ⟨.tmp _ _ rfl, ⟨.tmp _ _ rfl, tm⟩⟩, rfl⟩, tv⟩
   ·refine Ap (wq rfl (qL DS DN rfl (qm rfl (qL B0 AQ rfl (Bt V5 Vh rfl (qb rfl (qa rfl (Ac (wp rfl (qm rfl (AH Eb rfl (qm rfl (Ac ?_)))))))))))))
    refine A5 (L := DR N p2) h (fun v8 => mk [(12, oD (.ptr 37 0)), (38, pD (.sl (p2.map AJ))), (39, iD ((p2.length : Int))), (40, iD v8.2)] [(37, .box (Aw v8.1))]) (fun v9 => mk [(12, oD (.ptr 37 0))] [(37, .box (Aw v9))]) (fun _ _ => rfl) (sm [] _ _ rfl rfl) (fun j8 n8 v8 h => ?_) (fun v9 s h hs => ?_)
    ·unfold DR at h
     refine wq rfl (A4 rfl (Ac (AO ?_)))
     refine Bj h (fun h => ?_) fun h => ?_
     ·refine Ap ?_
      refine AK h (fun v11 => mk [(12, oD (.ptr 37 0)), (38, pD (.sl (p2.map AJ))), (39, iD ((p2.length : Int))), (40, iD v8.2)] [(37, .box (Aw v11))]) (fun j11 h => ?_) (fun v11 h => ?_)
      ·refine AP (wq rfl (qm rfl ?_))
       refine BP h fun v12 a12 b12 h => qi Eb DB a12 (Ai b12) rfl (qK F8 DB rfl (qz IW rfl (qa rfl (qs DB rfl (Ac (wp rfl (qL F8 DB rfl ?_)))))))
       refine Ca h fun v13 a13 h => Ax [] (FD N v12 v13 a13) SG rfl (Cz rfl (Ac ?_))
       refine Bj h (fun h => ?_) fun h => ?_
       ·refine BV ?_
        exact sn [] h
       ·refine Ap (wp rfl (qm rfl (qL F8 DB rfl ?_)))
        refine Ca h fun v15 a15 h => Fc (ds0 := [_, _]) [37] [] [false] (FI N ((Ah.mk ((Aa.mk v8.1.fc.fb v8.1.fc.fk v8.1.fc.fp v8.1.fc.fd)) v8.1.fr v8.1.fi v8.1.fw ((Ad.mk v8.1.fg.fh v8.1.fg.fe v8.1.fg.ff)))) v12 v15 a15) (.p rfl) Vw rfl ⟨rfl, rfl, tv⟩ rfl rfl (by decide) ⟨rfl, tv⟩ rfl (CQ rfl) tv ⟨(fun _ => rfl), tv⟩ rfl rfl rfl ?_
        refine Cz rfl (Ac ?_)
        refine Bj h (fun h => ?_) fun h => ?_
        ·refine wq rfl (qw 2 rfl (qa rfl (qa rfl (qe rfl ?_))))
         obtain rfl := sj h
         refine Af ((Io 37 [.sl (v8.1.fc.fb.map As), .sl (v8.1.fc.fk.map As), .sl (v8.1.fc.fp.map As), .sl (v8.1.fc.fd.map Bv), .sl (v8.1.fr.map AM), .val (.int .i64 v8.1.fi), .val (.int .i64 v8.1.fw), .sl (v8.1.fg.fh.map As), .sl (v8.1.fg.fe.map As), .sl (v8.1.fg.ff.map Dw)] rfl rfl).trans ((Nv 6 _ rfl).trans (sm [] [(6, pD (.rp (zE0 EH ((some ((Ah.mk ((Aa.mk v8.1.fc.fb v8.1.fc.fk v8.1.fc.fp v8.1.fc.fd)) v8.1.fr v8.1.fi v8.1.fw ((Ad.mk v8.1.fg.fh v8.1.fg.fe v8.1.fg.ff))))))))), (7, iD v8.2), (8, iD 0)] [] rfl rfl))) (Ar ?_)
         exact ⟨⟨[_, _, _], ⟨.tmp _ _ rfl, ⟨.tmp _ _ rfl, tm⟩⟩, rfl⟩, tv⟩
        ·refine Ap (Ak Ay rfl (qm rfl (qL F8 DB rfl ?_)))
         refine Ca h fun v17 a17 h => Fc (ds0 := [_, _]) [37] [] [true] (Fk N ((Ah.mk ((Aa.mk v8.1.fc.fb v8.1.fc.fk v8.1.fc.fp v8.1.fc.fd)) v8.1.fr v8.1.fi v8.1.fw ((Ad.mk v8.1.fg.fh v8.1.fg.fe v8.1.fg.ff)))) v12 v17 a17) (.p rfl) V3 rfl ⟨rfl, rfl, tv⟩ rfl rfl (by decide) ⟨rfl, tv⟩ rfl (CQ rfl) tv ⟨(fun h => by cases h), tv⟩ rfl rfl rfl ?_
         refine Ac ?_
         exact sn [] h
      ·refine Ak Ay rfl (Cq rfl (qm rfl (Ac ?_)))
       exact sn [] h
     ·refine BV ?_
      exact sn [] h
    ·refine Af hs (wq rfl (qm rfl (qa rfl (qa rfl (qe rfl ?_)))))
     obtain rfl := sj h
     refine Af ((Io 37 [.sl (v9.fc.fb.map As), .sl (v9.fc.fk.map As), .sl (v9.fc.fp.map As), .sl (v9.fc.fd.map Bv), .sl (v9.fr.map AM), .val (.int .i64 v9.fi), .val (.int .i64 v9.fw), .sl (v9.fg.fh.map As), .sl (v9.fg.fe.map As), .sl (v9.fg.ff.map Dw)] rfl rfl).trans ((Nv 6 _ rfl).trans (sm [] [(6, pD (.rp (zE0 EH ((some ((Ah.mk ((Aa.mk v9.fc.fb v9.fc.fk v9.fc.fp v9.fc.fd)) v9.fr v9.fi v9.fw ((Ad.mk v9.fg.fh v9.fg.fe v9.fg.ff))))))))), (7, iD ((-1))), (8, iD 0)] [] rfl rfl))) (Ar ?_)
     exact ⟨⟨[_, _, _], ⟨.tmp _ _ rfl, ⟨.tmp _ _ rfl, tm⟩⟩, rfl⟩, tv⟩
theorem Of (N : Nat) (p0 : Aa) (p1 : List Am) (p2 : List Ab) (r : Ad × Int) (h : HL N p0 p1 p2 = some r) : Aq uS 16 [.e (.agg (Al p0)), pD (.sl (p1.map AM)), pD (.sl (p2.map AJ))] [] (.tup [.agg (Be r.1), .one (iC r.2)]) := by
 unfold HL at h
 refine cw (n := 32) (rs := [.cell 6 40, .tmp 7]) Tryz.func16 fun w0 S0 => ?_
 refine wq rfl (qb rfl (qz C7 rfl (qa rfl (Ac (wq rfl (qL DS DN rfl (qw 2 rfl ?_)))))))
 refine Ca h fun v1 a1 h => Ax [] (J2 N p0 p1 p2 v1 a1) WS rfl (qm rfl (qx rfl (qx rfl (qx rfl (qa rfl (qa rfl (qa rfl (Ac (AO (AP (wq rfl (qm rfl (BG rfl (qe rfl ?_))))))))))))))
 refine Bj h (fun h => ?_) fun h => ?_
 ·refine wq rfl (Bt C7 Gt rfl (qm rfl (qs AQ rfl (qe rfl ?_))))
  obtain rfl := sj h
  refine Af ((IK 6 _ rfl).trans (sm [] [(6, oD (.ptr 6 0)), (7, iD v1.2.2)] [(6, .box [sC ((([] : List Int)).map As), sC ((([] : List Int)).map As), sC ((([] : List Int)).map Dw)])] rfl rfl)) (Ar ?_)
  exact ⟨⟨[_, _], ⟨.cellN _ _ _ _ _ _ _ rfl rfl B0 AQ rfl rfl (H7 rfl), tm⟩, rfl⟩, tv⟩
 ·refine wq rfl (qm rfl (Dx rfl (qe rfl ?_)))
  refine Bj h (fun h => ?_) fun h => ?_
  ·refine wq rfl (Bt C7 Gt rfl (qs AQ rfl (qe rfl ?_)))
   obtain rfl := sj h
   refine Af ((IK 6 _ rfl).trans (sm [] [(6, oD (.ptr 6 0)), (7, iD 11)] [(6, .box [sC ((([] : List Int)).map As), sC ((([] : List Int)).map As), sC ((([] : List Int)).map Dw)])] rfl rfl)) (Ar ?_)
   exact ⟨⟨[_, _], ⟨.cellN _ _ _ _ _ _ _ rfl rfl B0 AQ rfl rfl (H7 rfl), tm⟩, rfl⟩, tv⟩
  ·refine Ap (wq rfl (qm rfl ?_))
   refine Ca h fun v4 a4 h => Fy (R8 28 _ _ rfl (by rw [a4]; rfl)) ?_
   refine Od (.p rfl) rfl ?_
   refine qg JI rfl (qK B0 AQ rfl (qs AQ rfl (qe rfl ?_)))
   obtain rfl := sj h
   refine Af (sm [] [(6, oD (.ptr 6 0)), (7, iD 0)] [(6, .box (Be v4.fg))] rfl rfl) (Ar ?_)
   exact ⟨⟨[_, _], ⟨.cellN _ _ _ _ _ _ _ rfl rfl B0 AQ rfl rfl (H7 rfl), tm⟩, rfl⟩, tv⟩
def Qd : Go.Shelf.Ren := ⟨fun | 129 => 182 | 173 => 125 | 246 => 126 | 283 => 159 | 284 => 160 | 285 => 161 | 286 => 162 | 317 => 181 | 318 => 183 | 319 => 184 | 320 => 185 | 337 => 194 | 338 => 195 | n => n, fun | 0 => 0 | 2 => 2 | 3 => 3 | 4 => 4 | 5 => 5 | 9 => 9 | 20 => 20 | 37 => 47 | 46 => 234 | 51 => 242 | 53 => 214 | 171 => 213 | 173 => 217 | 212 => 241 | 213 => 243 | 232 => 261 | 233 => 262 | n => n, fun | 17 => 0 | 18 => 1 | 19 => 2 | n => n⟩
theorem SC : LaysM.n173 uS Qd := { mixed := Ay, f129 := Tryz.func182.trans (congrArg some (by kernel_rfl)), f173 := Tryz.func125.trans (congrArg some (by kernel_rfl)), f246 := Tryz.func126.trans (congrArg some (by kernel_rfl)), f283 := Tryz.func159.trans (congrArg some (by kernel_rfl)), f284 := Tryz.func160.trans (congrArg some (by kernel_rfl)), f285 := Tryz.func161.trans (congrArg some (by kernel_rfl)), f286 := Tryz.func162.trans (congrArg some (by kernel_rfl)), f317 := Tryz.func181.trans (congrArg some (by kernel_rfl)), f318 := Tryz.func183.trans (congrArg some (by kernel_rfl)), f319 := Tryz.func184.trans (congrArg some (by kernel_rfl)), f320 := Tryz.func185.trans (congrArg some (by kernel_rfl)), f337 := Tryz.func194.trans (congrArg some (by kernel_rfl)), f338 := Tryz.func195.trans (congrArg some (by kernel_rfl)), t0 := Tryz.underlying0, a0 := Tryz.isAgg0, z0 := Tryz.sizeOf0, v0 := Tryz.zeroValue0, t2 := Tryz.underlying2, a2 := Tryz.isAgg2, z2 := Tryz.sizeOf2, v2 := Tryz.zeroValue2, t3 := Tryz.underlying3, a3 := Tryz.isAgg3, z3 := Tryz.sizeOf3, v3 := Tryz.zeroValue3, t4 := Tryz.underlying4, a4 := Tryz.isAgg4, z4 := Tryz.sizeOf4, v4 := Tryz.zeroValue4, t5 := Tryz.underlying5, a5 := Tryz.isAgg5, z5 := Tryz.sizeOf5, v5 := Tryz.zeroValue5, t9 := Tryz.underlying9, a9 := Tryz.isAgg9, z9 := Tryz.sizeOf9, v9 := Tryz.zeroValue9, t20 := Tryz.underlying20, a20 := Tryz.isAgg20, z20 := Tryz.sizeOf20, v20 := Tryz.zeroValue20, t37 := Tryz.underlying47, a37 := Tryz.isAgg47, z37 := Tryz.sizeOf47, v37 := Tryz.zeroValue47, t46 := Tryz.underlying234, a46 := Tryz.isAgg234, z46 := Tryz.sizeOf234, v46 := Tryz.zeroValue234, t51 := Tryz.underlying242, a51 := Tryz.isAgg242, z51 := Tryz.sizeOf242, v51 := Tryz.zeroValue242, t53 := Tryz.underlying214, a53 := Tryz.isAgg214, z53 := Tryz.sizeOf214, v53 := Tryz.zeroValue214, t171 := Tryz.underlying213, a171 := Tryz.isAgg213, z171 := Tryz.sizeOf213, v171 := Tryz.zeroValue213, t173 := Tryz.underlying217, a173 := Tryz.isAgg217, z173 := Tryz.sizeOf217, v173 := Tryz.zeroValue217, t212 := Tryz.underlying241, a212 := Tryz.isAgg241, z212 := Tryz.sizeOf241, v212 := Tryz.zeroValue241, t213 := Tryz.underlying243, a213 := Tryz.isAgg243, z213 := Tryz.sizeOf243, t232 := Tryz.underlying261, a232 := Tryz.isAgg261, z232 := Tryz.sizeOf261, v232 := Tryz.zeroValue261, t233 := Tryz.underlying262, a233 := Tryz.isAgg262, z233 := Tryz.sizeOf262, v233 := Tryz.zeroValue262, g17 := by kernel_rfl, g18 := by kernel_rfl, g19 := by kernel_rfl, i0 := by kernel_rfl, i2 := by kernel_rfl, i3 := by kernel_rfl, i4 := by kernel_rfl, i5 := by kernel_rfl, i9 := by kernel_rfl, i20 := by kernel_rfl, i37 := by kernel_rfl, i46 := by kernel_rfl, i51 := by kernel_rfl, i53 := by kernel_rfl, i171 := by kernel_rfl, i173 := by kernel_rfl, i212 := by kernel_rfl, i232 := by kernel_rfl, i233 := by kernel_rfl, m17 := by kernel_rfl, m18 := by kernel_rfl, m19 := by kernel_rfl }
theorem Gl (N : Nat) (p0 p1 : Int) (r : ByteArray) (h : EL N p0 p1 = some r) : Aq uS 125 [iD p0, iD p1] [] (pD (.val (.string r))) := by
 obtain ⟨h1, h⟩ := GI h
 subst h1
 exact Ou SC (g := Qd.g 17) (by kernel_rfl) h
theorem NT (N : Nat) (p0 : Ab) (r : ByteArray) (h : Es N p0 = some r) : Aq uS 88 [.e (.agg (Br p0))] [] (pD (.val (.string r))) := by
 unfold Es at h
 refine cw (n := 29) (rs := [.tmp 2]) Tryz.func88 fun w0 S0 => ?_
 refine wq rfl (qb rfl (qa rfl (Ac (wq rfl (qf Gw rfl (ql Ho rfl ?_))))))
 refine Ca h fun v1 a1 h => Ax [] (Gl N p0.fi 10 v1 a1) TM rfl ?_
 refine Hj h fun c2 h => D8 (.p rfl) rfl rfl (FE _ _ _ _ c2) rfl ?_
 refine qf DQ rfl (ql Ba rfl ?_)
 refine Ca h fun v3 a3 h => Ax [] (Jp N p0.fa v3 a3) TI rfl ?_
 refine Hj h fun c4 h => D8 (.p rfl) rfl rfl (FE _ _ _ _ c4) rfl ?_
 refine qa rfl (AE (by kernel_rfl) (wp rfl (qL F8 DB rfl ?_)))
 refine Ca h fun v5 a5 h => Ax [2001] (Ik N p0 v5 a5) Tx rfl (Pl Cd rfl (qm rfl (Ac ?_)))
 refine A5 (L := EV N v5) h (fun v6 => mk [(3, pD (.val (.string v6.1))), (15, oD (.own 2002)), (16, iD ((v5.length : Int))), (17, iD v6.2)] [(2002, .vec 1 (v5.map As))]) (fun v7 => mk [(3, pD (.val (.string v7)))] []) (fun _ _ => rfl) (sm [(2002, 2001)] _ _ rfl rfl) (fun j6 n6 v6 h => ?_) (fun v7 s h hs => ?_)
 ·unfold EV at h
  refine wq rfl (A4 rfl (Ac (AO ?_)))
  refine Bj h (fun h => ?_) fun h => ?_
  ·refine Ap (AO (AP (wq rfl ?_)))
   refine BP h fun v9 a9 b9 h => qI Cd H2 a9 (Ai b9) rfl (qj Ho (Ai b9) rfl (qa rfl (Ac (Ak Ay rfl (qw 2 rfl ?_)))))
   refine Ca h fun v10 a10 h => Ax [] (Gl N v9 10 v10 a10) TM rfl ?_
   refine Hj h fun c11 h => D8 (.p rfl) rfl rfl (FE _ _ _ _ c11) rfl ?_
   refine Hj h fun c12 h => D8 (.p rfl) rfl rfl (FE _ _ _ _ c12) rfl ?_
   refine qa rfl (Ac (Ak Ay rfl (Cq rfl (qm rfl (Ac ?_)))))
   exact sn [] h
  ·refine BV ?_
   exact sn [] h
 ·refine Af hs (wq rfl (qm rfl ?_))
  refine Hj h fun c13 h => D8 (.p rfl) rfl rfl (FE _ _ _ _ c13) rfl ?_
  refine qa rfl (Ac ?_)
  obtain rfl := sj h
  refine Af (sm [] [(2, pD (.val (.string ((v7 ++ (⟨#[10]⟩ : ByteArray))))))] [] rfl rfl) (Ar ?_)
  exact ⟨⟨[_], tm, rfl⟩, tv⟩
def RP : Go.Shelf.Ren := ⟨fun | 166 => 87 | 240 => 124 | 276 => 158 | n => n, fun | 0 => 0 | 3 => 3 | 4 => 4 | 5 => 5 | 9 => 9 | 37 => 47 | 70 => 140 | 72 => 142 | 75 => 144 | 80 => 149 | 164 => 211 | n => n, fun n => n⟩
theorem Uv : Lays.n166 uS RP := { mixed := Ay, f166 := Tryz.func87.trans (congrArg some (by kernel_rfl)), f240 := Tryz.func124.trans (congrArg some (by kernel_rfl)), f276 := Tryz.func158.trans (congrArg some (by kernel_rfl)), t0 := Tryz.underlying0, a0 := Tryz.isAgg0, z0 := Tryz.sizeOf0, v0 := Tryz.zeroValue0, t3 := Tryz.underlying3, a3 := Tryz.isAgg3, z3 := Tryz.sizeOf3, v3 := Tryz.zeroValue3, t4 := Tryz.underlying4, a4 := Tryz.isAgg4, z4 := Tryz.sizeOf4, v4 := Tryz.zeroValue4, t9 := Tryz.underlying9, a9 := Tryz.isAgg9, z9 := Tryz.sizeOf9, v9 := Tryz.zeroValue9, t20 := Tryz.underlying20, a20 := Tryz.isAgg20, z20 := Tryz.sizeOf20, v20 := Tryz.zeroValue20, t37 := Tryz.underlying47, a37 := Tryz.isAgg47, z37 := Tryz.sizeOf47, v37 := Tryz.zeroValue47, t70 := Tryz.underlying140, a70 := Tryz.isAgg140, z70 := Tryz.sizeOf140, v70 := Tryz.zeroValue140, t72 := Tryz.underlying142, a72 := Tryz.isAgg142, z72 := Tryz.sizeOf142, v72 := Tryz.zeroValue142, t75 := Tryz.underlying144, a75 := Tryz.isAgg144, z75 := Tryz.sizeOf144, v75 := Tryz.zeroValue144, t164 := Tryz.underlying211, a164 := Tryz.isAgg211, z164 := Tryz.sizeOf211, v164 := Tryz.zeroValue211 }
def RJ : Go.Shelf.Ren := ⟨fun | 169 => 90 | n => n, fun | 0 => 0 | 3 => 3 | 5 => 5 | 9 => 9 | 37 => 47 | 70 => 140 | 72 => 142 | 127 => 180 | n => n, fun n => n⟩
theorem Ug : Lays.n169 uS RJ := { mixed := Ay, f169 := Tryz.func90.trans (congrArg some (by kernel_rfl)), t0 := Tryz.underlying0, a0 := Tryz.isAgg0, z0 := Tryz.sizeOf0, v0 := Tryz.zeroValue0, t3 := Tryz.underlying3, a3 := Tryz.isAgg3, z3 := Tryz.sizeOf3, v3 := Tryz.zeroValue3, t9 := Tryz.underlying9, a9 := Tryz.isAgg9, z9 := Tryz.sizeOf9, v9 := Tryz.zeroValue9, t37 := Tryz.underlying47, a37 := Tryz.isAgg47, z37 := Tryz.sizeOf47, v37 := Tryz.zeroValue47, t70 := Tryz.underlying140, a70 := Tryz.isAgg140, z70 := Tryz.sizeOf140, v70 := Tryz.zeroValue140, t72 := Tryz.underlying142, a72 := Tryz.isAgg142, z72 := Tryz.sizeOf142, v72 := Tryz.zeroValue142, t127 := Tryz.underlying180, a127 := Tryz.isAgg180, z127 := Tryz.sizeOf180, v127 := Tryz.zeroValue180 }
def Uw : Go.Shelf.Ren := ⟨fun | 170 => 89 | n => n, fun | 0 => 0 | 3 => 3 | 5 => 5 | 37 => 47 | 70 => 140 | 72 => 142 | n => n, fun n => n⟩
theorem T5 : Lays.n170 uS Uw := { mixed := Ay, f170 := Tryz.func89.trans (congrArg some (by kernel_rfl)), t0 := Tryz.underlying0, a0 := Tryz.isAgg0, z0 := Tryz.sizeOf0, v0 := Tryz.zeroValue0, t3 := Tryz.underlying3, a3 := Tryz.isAgg3, z3 := Tryz.sizeOf3, v3 := Tryz.zeroValue3, t37 := Tryz.underlying47, a37 := Tryz.isAgg47, z37 := Tryz.sizeOf47, v37 := Tryz.zeroValue47, t70 := Tryz.underlying140, a70 := Tryz.isAgg140, z70 := Tryz.sizeOf140, v70 := Tryz.zeroValue140, t72 := Tryz.underlying142, a72 := Tryz.isAgg142, z72 := Tryz.sizeOf142, v72 := Tryz.zeroValue142 }
theorem V4 : Builder.Extra uS RP where
 sizeBuilder := by kernel_rfl
 liesBuilder := by kernel_rfl
 t5 := Tryz.underlying5
 a5 := Tryz.isAgg5
 z5 := Tryz.sizeOf5
 v5 := Tryz.zeroValue5
 infoByte := by kernel_rfl
 cellsByte := by kernel_rfl
 sizeByte := by kernel_rfl
 neB5 := by decide
theorem Vx : Builder.Extra uS RJ where
 sizeBuilder := by kernel_rfl
 liesBuilder := by kernel_rfl
 t5 := Tryz.underlying5
 a5 := Tryz.isAgg5
 z5 := Tryz.sizeOf5
 v5 := Tryz.zeroValue5
 infoByte := by kernel_rfl
 cellsByte := by kernel_rfl
 sizeByte := by kernel_rfl
 neB5 := by decide
theorem W8 (B b : Nat) (bs : List Value) (s : ByteArray) (w : World) (h : Lib.IsBuilder 142 5 B b bs w) (hlen : bs.length + s.size ≤ 140737488355328) (hBw : B ≤ w.heap.size) :
  Calls uS 87 #[.pointer (some ⟨b, 0, none⟩), .string s] w fun e w' => e = .returned (.tuple #[.int .i64 s.size, .nilIface]) ∧ (Lib.BuilderAt 142 5 B b (.pointer (some ⟨b, 0, none⟩)) (bs ++ Lib.strCells s) w' ∧ Below B w w') := Any.Builder_WriteString Uv V4 B b bs s w h hlen hBw
theorem WU (B b : Nat) (bs : List Value) (w : World) (h : Lib.IsBuilder 142 5 B b bs w) : Calls uS 89 #[.pointer (some ⟨b, 0, none⟩)] w fun e w' => e = .returned (.int .i64 bs.length) ∧ w' = w := Any.Builder_Len T5 B b bs w h
theorem WG (B b : Nat) (l : List UInt8) (w : World) (h : Lib.IsBuilder 142 5 B b (Lib.byteCells l) w) (hBw : B ≤ w.heap.size) :
  Calls uS 90 #[.pointer (some ⟨b, 0, none⟩)] w fun e w' => e = .returned (.string ⟨l.toArray⟩) ∧ Below B w w' := Any.Builder_String_any Ug Vx B b l w h hBw
def S8 (x : Ab) : Array Value := #[.int .i64 x.fi, .int .i64 x.fa, .int .i64 x.fy, .int .i64 x.fA, .int .i64 x.fF, .int .i64 x.fm, .int .i64 x.fv, .int .i64 x.fJ, .int .i64 x.ft, .int .i64 x.fq, .int .i64 x.fK]
set_option maxRecDepth 1000000 in
theorem OB (n : Nat) (a : Option Addr) (cap : Nat) (ve : Int) (hve : ve ≠ 0) (w : World)
  (hval : Calls uS 43 #[.slice a n cap] w fun e w' => e = .returned (.int .i64 ve) ∧ Below w.heap.size w w') :
  Calls uS 44 #[.slice a n cap] w fun e w' => e = .returned (.tuple #[.string ⟨#[]⟩, .int .i64 ve]) ∧ Below w.heap.size w w' := by
 have e43 : ∀ args w, (callFunc 43 args).run uS w = .ok (.enter 43 args) w := fun _ _ => by kernel_rfl
 have hb : (ve != 0) = true := bne_iff_ne.2 hve
 go_enter Tryz.func44, Tryz.ntmps44
 go_wp2_with (go_at_fn 43; refine hval.mono ?_; rintro e w' ⟨rfl, hw⟩)
 go_ret2
 exact ⟨rfl, hw⟩
set_option maxHeartbeats 2000000 in
set_option maxRecDepth 1000000 in
theorem P3 (ps : List Ab) (line : Ab → Option ByteArray) (a : Option Addr) (ab : Nat) (ao : Nat → Nat) (cap : Nat) (w : World) (r : ByteArray) (res : Value)
  (hval : Calls uS 43 #[.slice a ps.length cap] w fun e w' => e = .returned (.int .i64 0) ∧ Below w.heap.size w w')
  (hix : ∀ (i : Nat) x, ps[i]? = some x → ∀ W, Below w.heap.size w W → (Instr.indexAt 27 (.slice a ps.length cap) (.int .i64 (i : Int))).run uS W = .ok (.pointer (some ⟨ab, ao i, none⟩)) W ∧ ∀ (j : Nat) v, (S8 x)[j]? = some v → W.cell? ⟨ab, ao i + j, none⟩ = some v)
  (hline : ∀ x s, x ∈ ps → line x = some s → ∀ W, Below w.heap.size w W → Calls uS 88 #[.agg (S8 x)] W fun e w' => e = .returned (.string s) ∧ Below W.heap.size W w')
  (hn : ps.length ≤ 1000000) (hr : DU line ps ⟨#[]⟩ = some r) (h1 : r.size ≤ 65536 → res = .tuple #[.string r, .int .i64 0]) (h2 : 65536 < r.size → res = .tuple #[.string ⟨#[]⟩, .int .i64 3]) :
  Calls uS 44 #[.slice a ps.length cap] w fun e w' => e = .returned res ∧ Below w.heap.size w w' := by
 have e43 : ∀ args w, (callFunc 43 args).run uS w = .ok (.enter 43 args) w := fun _ _ => by kernel_rfl
 have e88 : ∀ args w, (callFunc 88 args).run uS w = .ok (.enter 88 args) w := fun _ _ => by kernel_rfl
 have e87 : ∀ args w, (callFunc 87 args).run uS w = .ok (.enter 87 args) w := fun _ _ => by kernel_rfl
 have e89 : ∀ args w, (callFunc 89 args).run uS w = .ok (.enter 89 args) w := fun _ _ => by kernel_rfl
 have e90 : ∀ args w, (callFunc 90 args).run uS w = .ok (.enter 90 args) w := fun _ _ => by kernel_rfl
 go_enter Tryz.func44, Tryz.ntmps44
 go_wp2_with (go_at_fn 43; refine hval.mono ?_; rintro e w' ⟨rfl, hw⟩)
 clear hval
 go_loopg [15] ps.length (fun g s15 wx => ∃ (q : Nat) (c : ByteArray), q + g = ps.length ∧ s15 = .int .i64 (q : Int) ∧ DU line (ps.drop q) c = some r ∧ Lib.IsBuilder 142 5 w.heap.size w'.heap.size (Lib.strCells c) wx ∧ Below w.heap.size w wx)
 case atStart =>
  refine ⟨0, ⟨#[]⟩, by omega, rfl, hr, ?_, ?_⟩
  ·obtain ⟨_, v, f1, f2, f3⟩ | ⟨_, v, f1, f2, f3⟩ := Lib.fresh_isBuilder 142 5 w'
   ·exact .inl ⟨hw.size, v, f1, f2.mono hw.size, f3⟩
   ·exact .inr ⟨hw.size, v, f1, f2.mono hw.size, f3⟩
  ·exact hw.alloc hw.size _
 case round =>
  obtain ⟨q, c, h3, rfl, h4, h5, h6⟩ := hrel
  cases gk with
  | zero =>
   have hq : q = ps.length := by omega
   subst hq
   rw [List.drop_length] at h4
   have h4 : c = r := sj h4
   subst h4
   have cLen := WU _ _ _ wr h5
   rw [Lib.strCells_length] at cLen
   have cStr := WG w.heap.size w'.heap.size c.data.toList wr h5 h6.size
   have hnl : ¬ ((ps.length : Int) < (ps.length : Int)) := by omega
   by_cases hs : (65536 : Int) < (c.size : Int)
   ·go_wp2_with (go_at_fn 89; refine cLen.mono ?_; rintro e W1 ⟨rfl, hW⟩; rw [hW])
    go_ret2
    exact ⟨(congrArg Ending.returned (h2 (by omega))).symm, h6⟩
   ·go_wp2_with (first | (go_at_fn 89; refine cLen.mono ?_; rintro e W1 ⟨rfl, hW⟩; rw [hW]) | (go_at_fn 90; refine cStr.mono ?_; rintro e W2 ⟨rfl, b2⟩))
    go_ret2
    exact ⟨(congrArg Ending.returned (h1 (by omega))).symm, h6.trans b2⟩
  | succ g =>
   have hql : q < ps.length := by omega
   have hx : ps[q]? = some ps[q] := by simp [hql]
   obtain ⟨i1, i2⟩ := hix q _ hx wr h6
   rw [List.drop_eq_getElem_cons hql, DU] at h4
   obtain ⟨s, hs, h4⟩ := bind_some h4
   obtain ⟨hc, h4⟩ := GI h4
   have hnl : ((q : Int) < (ps.length : Int)) := by omega
   have c0 : wr.cell? ⟨ab, ao q, none⟩ = some (.int .i64 ps[q].fi) := i2 0 _ rfl
   have c1 : wr.cell? ⟨ab, ao q + 1, none⟩ = some (.int .i64 ps[q].fa) := i2 1 _ rfl
   have c2 : wr.cell? ⟨ab, ao q + 2, none⟩ = some (.int .i64 ps[q].fy) := i2 2 _ rfl
   have c3 : wr.cell? ⟨ab, ao q + 3, none⟩ = some (.int .i64 ps[q].fA) := i2 3 _ rfl
   have c4 : wr.cell? ⟨ab, ao q + 4, none⟩ = some (.int .i64 ps[q].fF) := i2 4 _ rfl
   have c5 : wr.cell? ⟨ab, ao q + 5, none⟩ = some (.int .i64 ps[q].fm) := i2 5 _ rfl
   have c6 : wr.cell? ⟨ab, ao q + 6, none⟩ = some (.int .i64 ps[q].fv) := i2 6 _ rfl
   have c7 : wr.cell? ⟨ab, ao q + 7, none⟩ = some (.int .i64 ps[q].fJ) := i2 7 _ rfl
   have c8 : wr.cell? ⟨ab, ao q + 8, none⟩ = some (.int .i64 ps[q].ft) := i2 8 _ rfl
   have c9 : wr.cell? ⟨ab, ao q + 9, none⟩ = some (.int .i64 ps[q].fq) := i2 9 _ rfl
   have c10 : wr.cell? ⟨ab, ao q + 10, none⟩ = some (.int .i64 ps[q].fK) := i2 10 _ rfl
   clear i2 hix
   have bA : Below w.heap.size w (wr.alloc (.cells (S8 ps[q]) 37)) := h6.alloc h6.size _
   have bW : Below wr.heap.size wr (wr.alloc (.cells (S8 ps[q]) 37)) := (Below.refl _ _).alloc (zB8 _) _
   have cL := hline ps[q] s (zC2 hql) hs _ bA
   go_wp2_with (go_at_fn 88; refine cL.mono ?_; rintro e W1 ⟨rfl, b1⟩)
   have bB : Below wr.heap.size wr W1 := bW.trans (b1.mono bW.size)
   have bC : Below w.heap.size w W1 := bA.trans (b1.mono bA.size)
   have cW := W8 w.heap.size w'.heap.size (Lib.strCells c) s W1 (Rc h5 bB) (by rw [Lib.strCells_length]; exact hc) bC.size
   go_wp2_with (go_at_fn 87; refine cW.mono ?_; rintro e W2 ⟨rfl, h7, b2⟩)
   go_roundg g
   case measure => omega
   case rel =>
    refine ⟨q + 1, c ++ s, by omega, ?_, h4, .inr ?_, bC.trans b2⟩
    ·rfl
    ·have e : Lib.strCells (c ++ s) = Lib.strCells c ++ Lib.strCells s := by
      rw [Lib.strCells_eq, Lib.strCells_eq, Lib.strCells_eq, ← Lib.byteCells_append, ByteArray.data_append, Array.toList_append]
     rw [e]; exact h7
theorem S6 {w : World} {S : Nat → Prop} (x : Ab) : FK uS w (G0 S) (.agg (S8 x)) (.e (.agg ((AJ x).map C.pure))) := by
 refine ⟨S8 x, rfl, rfl, fun j c hj => ?_⟩
 match j, hj with
 | 0, hj | 1, hj | 2, hj | 3, hj | 4, hj | 5, hj | 6, hj | 7, hj | 8, hj | 9, hj | 10, hj => cases hj; exact Ci.val _ rfl
 | j + 11, hj => simp [AJ] at hj
theorem LT (N : Nat) (p0 : List Ab) (r : ByteArray × Int) (h : H1 N p0 = some r) : Aq uS 44 [pD (.sl (p0.map AJ))] [] (.tup [.one (.pure (.val (.string r.1))), .one (iC r.2)]) := by
 intro w S vs hS hgk hlen hrd
 have h0 : Ci w S (Au vs 0) (.sl (p0.map AJ)) := hrd 0 _ rfl
 have hvs : vs = #[Au vs 0] := by
  have h2 : vs.size = 1 := hlen
  apply Array.ext (by simp [h2])
  intro i h1 _
  have : i = 0 := by omega
  subst this; simp [Au, h1]
 obtain ⟨hn, h⟩ := GI h
 obtain ⟨ve, hve, h⟩ := bind_some h
 -- the result, from its two cells
 have fin : ∀ {e : Ending} {w' : World}, e = .returned (.tuple #[.string r.1, .int .i64 r.2]) ∧ Below w.heap.size w w' → ∃ v G', e = .returned v ∧ QZ w.heap.size w w' ∧ (∀ β, S β → G'.S β) ∧ (∀ β, G'.S β → S β ∨ (w.heap.size ≤ β ∧ β < w'.heap.size)) ∧ FK uS w' G' v (.tup [.one (.pure (.val (.string r.1))), .one (iC r.2)]) ∧
   (∀ (k : Nat) (x : Nat × List (List T)), ([] : List (Nat × List (List T)))[k]? = some x → DY uS w' G' k (.vec x.1 x.2)) ∧
   (∀ k β, k < ([] : List (Nat × List (List T))).length → G'.has k β → w.heap.size ≤ β ∧ β < w'.heap.size ∧ ¬ G'.S β) ∧
   (∀ k l β, k < ([] : List (Nat × List (List T))).length → l < ([] : List (Nat × List (List T))).length → G'.has k β → G'.has l β → k = l) := by
  rintro e w' ⟨rfl, hb⟩
  refine ⟨_, G0 S, rfl, ⟨hb, fun h => by cases h⟩, fun _ h => h, fun _ h => .inl h, ⟨#[.string r.1, .int .i64 r.2], rfl, rfl, fun j x hj => ?_⟩, fun i x hi => by simp at hi, fun i β hi => by simp at hi, fun i l β hi => by simp at hi⟩
  match j, hj with
  | 0, hj => cases hj; exact Ci.val _ rfl
  | 1, hj => cases hj; exact Ci.val _ rfl
  | j + 2, hj => simp at hj
 rw [hvs]
 -- the call of Valid
 have cV : Calls uS 43 #[Au vs 0] w fun e w' => e = .returned (.int .i64 ve) ∧ Below w.heap.size w w' := by
  refine (F0 N p0 ve hve w S #[Au vs 0] hS hgk rfl (fun j d hj => ?_)).mono ?_
  ·match j, hj with
   | 0, hj => cases hj; exact h0
   | j + 1, hj => simp at hj
  ·rintro e w' ⟨v, G', rfl, hb, _, _, hv, _⟩
   have : v = .int .i64 ve := CH (hv : Ci w' G'.S v (.val _))
   exact ⟨by rw [this], hb.toBelow⟩
 have hl : ∀ x s, x ∈ p0 → Es N x = some s → ∀ W, Below w.heap.size w W → Calls uS 88 #[.agg (S8 x)] W fun e w' => e = .returned (.string s) ∧ Below W.heap.size W w' := by
  intro x s _ hs W hW
  refine (NT N x s hs W S #[.agg (S8 x)] (fun β hβ => Nat.lt_of_lt_of_le (hS β hβ) hW.size) (hgk.mono (fun β hβ => hW.block β (hS β hβ)) (fun _ h => h)) rfl (fun j d hj => ?_)).mono ?_
  ·match j, hj with
   | 0, hj => cases hj; exact S6 x
   | j + 1, hj => simp at hj
  ·rintro e w' ⟨v, G', rfl, hb, _, _, hv, _⟩
   have : v = .string s := CH (hv : Ci w' G'.S v (.val _))
   exact ⟨by rw [this], hb.toBelow⟩
 generalize hv0 : Au vs 0 = v0 at h0 cV
 obtain ⟨rows, hrows⟩ : ∃ rows, p0.map AJ = rows := ⟨_, rfl⟩
 rw [hrows] at h0
 have hrl : rows.length = p0.length := by rw [← hrows, vO]
 by_cases hz : ve = 0
 ·subst hz
  have h := PM rfl h
  obtain ⟨s, hs, h⟩ := bind_some h
  have r1 : s.size ≤ 65536 → (Value.tuple #[.string r.1, .int .i64 r.2] : Value) = .tuple #[.string s, .int .i64 0] := fun hq => by
   have h := PM (decide_eq_false (by omega)) h; cases h; rfl
  have r2 : 65536 < s.size → (Value.tuple #[.string r.1, .int .i64 r.2] : Value) = .tuple #[.string ⟨#[]⟩, .int .i64 3] := fun hq => by
   have h := P2 (decide_eq_true hq) h; cases h; rfl
  cases h0 with
  | nil a cap =>
   obtain rfl := zC5.1 hrows
   exact (P3 [] (fun x => Es N x) a 0 (fun _ => 0) cap w s _ cV (fun i x hx => by simp at hx) (fun x s hx => by cases hx) (vN _) hs r1 r2).mono fun e w' hh => fin hh
  | sl β off cap e arr el fz rows k1 k2 k3 k4 k5 k6 =>
   rw [hrl] at cV ⊢
   refine (P3 p0 (fun x => Es N x) (some ⟨β, off, none⟩) β (fun i => off + i * 11) cap w s _ cV (fun i x hx W hW => ?_) hl hn hs r1 r2).mono fun e w' hh => fin hh
   have hrow : rows[i]? = some (AJ x) := by rw [← hrows, uY, hx]; rfl
   have he : e = 11 := (k5 i _ hrow).symm
   subst he
   have hil : i < p0.length := AA hx
   have hbnd : i * 11 + 11 ≤ p0.length * 11 := by omega
   rw [hrl] at k4
   refine ⟨Ia Eb DB (by omega) (by simpa using hil), fun j v hj => ?_⟩
   have hWb : W.heap[β]? = some (.cells arr el fz) := by rw [hW.block β (hS β k1)]; exact k2
   have hjt : (AJ x)[j]? = some (.val v) ∧ j < 11 := by
    match j, hj with
    | 0, hj | 1, hj | 2, hj | 3, hj | 4, hj | 5, hj | 6, hj | 7, hj | 8, hj | 9, hj | 10, hj => cases hj; exact ⟨rfl, by decide⟩
    | j + 11, hj => simp [S8] at hj
   have hv : Au arr (off + i * 11 + j) = v := CH (k6 i _ j _ hrow hjt.1)
   have hjl := hjt.2
   simp only [World.cell?, hWb]
   rw [He (by omega), hv]; rfl
 ·have hb : (ve != 0) = true := bne_iff_ne.2 hz
  have h := P2 hb h
  cases h
  cases h0 with
  | nil a cap => exact (OB _ a cap ve hz w cV).mono fun e w' hh => fin hh
  | sl β off cap e arr el fz rows k1 k2 k3 k4 k5 k6 => exact (OB _ _ cap ve hz w cV).mono fun e w' hh => fin hh
theorem NO (N : Nat) (p0 : Int) (r : ByteArray) (h : Hh N p0 = some r) : Aq uS 45 [iD p0] [] (pD (.val (.string r))) := by
 unfold Hh at h
 refine cw (n := 7) (rs := [.tmp 2]) Tryz.func45 fun w0 S0 => ?_
 refine wq rfl (qa rfl (Ac (wq rfl (Ft TQ Wk W9 rfl (qm rfl ?_)))))
 refine BP h fun v1 a1 b1 h => Oe (.p rfl) rfl rfl rfl TQ Wk a1 (Ai (f := eS) b1) ?_
 refine Ot (.p rfl) rfl W0 rfl (Ai (f := eS) b1) rfl ?_
 refine qa rfl (Ac ?_)
 obtain rfl := sj h
 refine Af (sm [] [(2, pD (.val (.string v1)))] [] rfl rfl) (Ar ?_)
 exact ⟨⟨[_], tm, rfl⟩, tv⟩
def RW : Go.Shelf.Ren := ⟨fun | 129 => 182 | 171 => 46 | 243 => 91 | 246 => 126 | 283 => 159 | 284 => 160 | 285 => 161 | 286 => 162 | 317 => 181 | 318 => 183 | 319 => 184 | 320 => 185 | 337 => 194 | 338 => 195 | n => n, fun | 0 => 0 | 2 => 2 | 3 => 3 | 4 => 4 | 5 => 5 | 9 => 9 | 20 => 20 | 37 => 47 | 46 => 234 | 51 => 242 | 53 => 214 | 171 => 213 | 173 => 217 | 212 => 241 | 213 => 243 | 232 => 261 | 233 => 262 | n => n, fun | 17 => 0 | 18 => 1 | 19 => 2 | n => n⟩
theorem Ul : LaysM.n171 uS RW := { mixed := Ay, f129 := Tryz.func182.trans (congrArg some (by kernel_rfl)), f171 := Tryz.func46.trans (congrArg some (by kernel_rfl)), f243 := Tryz.func91.trans (congrArg some (by kernel_rfl)), f246 := Tryz.func126.trans (congrArg some (by kernel_rfl)), f283 := Tryz.func159.trans (congrArg some (by kernel_rfl)), f284 := Tryz.func160.trans (congrArg some (by kernel_rfl)), f285 := Tryz.func161.trans (congrArg some (by kernel_rfl)), f286 := Tryz.func162.trans (congrArg some (by kernel_rfl)), f317 := Tryz.func181.trans (congrArg some (by kernel_rfl)), f318 := Tryz.func183.trans (congrArg some (by kernel_rfl)), f319 := Tryz.func184.trans (congrArg some (by kernel_rfl)), f320 := Tryz.func185.trans (congrArg some (by kernel_rfl)), f337 := Tryz.func194.trans (congrArg some (by kernel_rfl)), f338 := Tryz.func195.trans (congrArg some (by kernel_rfl)), t0 := Tryz.underlying0, a0 := Tryz.isAgg0, z0 := Tryz.sizeOf0, v0 := Tryz.zeroValue0, t2 := Tryz.underlying2, a2 := Tryz.isAgg2, z2 := Tryz.sizeOf2, v2 := Tryz.zeroValue2, t3 := Tryz.underlying3, a3 := Tryz.isAgg3, z3 := Tryz.sizeOf3, v3 := Tryz.zeroValue3, t4 := Tryz.underlying4, a4 := Tryz.isAgg4, z4 := Tryz.sizeOf4, v4 := Tryz.zeroValue4, t5 := Tryz.underlying5, a5 := Tryz.isAgg5, z5 := Tryz.sizeOf5, v5 := Tryz.zeroValue5, t9 := Tryz.underlying9, a9 := Tryz.isAgg9, z9 := Tryz.sizeOf9, v9 := Tryz.zeroValue9, t20 := Tryz.underlying20, a20 := Tryz.isAgg20, z20 := Tryz.sizeOf20, v20 := Tryz.zeroValue20, t37 := Tryz.underlying47, a37 := Tryz.isAgg47, z37 := Tryz.sizeOf47, v37 := Tryz.zeroValue47, t46 := Tryz.underlying234, a46 := Tryz.isAgg234, z46 := Tryz.sizeOf234, v46 := Tryz.zeroValue234, t51 := Tryz.underlying242, a51 := Tryz.isAgg242, z51 := Tryz.sizeOf242, v51 := Tryz.zeroValue242, t53 := Tryz.underlying214, a53 := Tryz.isAgg214, z53 := Tryz.sizeOf214, v53 := Tryz.zeroValue214, t171 := Tryz.underlying213, a171 := Tryz.isAgg213, z171 := Tryz.sizeOf213, v171 := Tryz.zeroValue213, t173 := Tryz.underlying217, a173 := Tryz.isAgg217, z173 := Tryz.sizeOf217, v173 := Tryz.zeroValue217, t212 := Tryz.underlying241, a212 := Tryz.isAgg241, z212 := Tryz.sizeOf241, v212 := Tryz.zeroValue241, t213 := Tryz.underlying243, a213 := Tryz.isAgg243, z213 := Tryz.sizeOf243, t232 := Tryz.underlying261, a232 := Tryz.isAgg261, z232 := Tryz.sizeOf261, v232 := Tryz.zeroValue261, t233 := Tryz.underlying262, a233 := Tryz.isAgg262, z233 := Tryz.sizeOf262, v233 := Tryz.zeroValue262, g17 := by kernel_rfl, g18 := by kernel_rfl, g19 := by kernel_rfl, i0 := by kernel_rfl, i2 := by kernel_rfl, i3 := by kernel_rfl, i4 := by kernel_rfl, i5 := by kernel_rfl, i9 := by kernel_rfl, i20 := by kernel_rfl, i37 := by kernel_rfl, i46 := by kernel_rfl, i51 := by kernel_rfl, i53 := by kernel_rfl, i171 := by kernel_rfl, i173 := by kernel_rfl, i212 := by kernel_rfl, i232 := by kernel_rfl, i233 := by kernel_rfl, m17 := by kernel_rfl, m18 := by kernel_rfl, m19 := by kernel_rfl }
theorem K3 (N : Nat) (p0 : Int) (r : ByteArray) (h : HY N p0 = some r) : Aq uS 46 [iD p0] [] (pD (.val (.string r))) := Uf Ul (g := RW.g 17) (by kernel_rfl) h
theorem FA (N : Nat) (p0 : ByteArray) (p1 : ByteArray) (r : Bool) (h : CI N p0 p1 = some r) : Aq uS 127 [pD (.val (.string p0)), pD (.val (.string p1))] [] (bD r) := by
 unfold CI at h
 refine cw (n := 21) (rs := [.tmp 4]) Tryz.func127 fun w0 S0 => ?_
 refine wq rfl (qe rfl ?_)
 refine AK h (fun v1 => mk [(4, bD v1)] []) (fun j1 h => ?_) (fun v1 h => ?_)
 ·refine Ak Ay rfl (qm rfl ?_)
  refine J7 (.p rfl) rfl M0 ?_
  refine qm rfl ?_
  refine J7 (.p rfl) rfl M0 ?_
  refine Dx rfl (qm rfl ?_)
  refine CJ 10 h rfl (fun h => ?_) fun h => ?_
  ·refine qw 2 rfl ?_
   refine J7 (.g rfl rfl) rfl M0 ?_
   refine qm rfl ?_
   refine J7 (.g rfl rfl) rfl M0 ?_
   refine KE rfl ?_
   refine Hj h fun c3 h => OS (.g rfl rfl) rfl M0 (.some _ _ _ _ c3.1) (.none _) ⟨rfl, tv⟩ tv c3.2.1 c3.2.2 ?_
   refine qm rfl ?_
   refine D8 (.g rfl rfl) rfl rfl (LD _ _ _ _) rfl ?_
   refine qp rfl (qe rfl ?_)
   exact sn [] h
  ·refine qw 9 rfl (qp rfl (qe rfl ?_))
   exact sn [] h
 ·obtain rfl := sj h
  refine Af (sm [] [(4, bD v1)] [] rfl rfl) (Ar ?_)
  exact ⟨⟨[_], tm, rfl⟩, tv⟩
theorem Fs (N : Nat) (p0 : ByteArray) (p1 : ByteArray) (r : ByteArray) (h : Cu N p0 p1 = some r) : Aq uS 92 [pD (.val (.string p0)), pD (.val (.string p1))] [] (pD (.val (.string r))) := by
 unfold Cu at h
 refine cw (n := 16) (rs := [.tmp 4]) Tryz.func92 fun w0 S0 => ?_
 refine wq rfl (qa rfl (Ac (wp rfl (qw 2 rfl ?_))))
 refine Ca h fun v1 a1 h => Ax [] (FA N p0 p1 v1 a1) UT rfl (Ac ?_)
 refine Bj h (fun h => ?_) fun h => ?_
 ·refine wq rfl (qw 2 rfl ?_)
  refine J7 (.p rfl) rfl M0 ?_
  refine qm rfl ?_
  refine J7 (.p rfl) rfl M0 ?_
  refine KE rfl ?_
  refine Hj h fun c3 h => OS (.p rfl) rfl M0 (.none _) (.some _ _ _ _ c3.1) tv ⟨rfl, tv⟩ c3.2.1 c3.2.2 ?_
  refine qa rfl (Ac ?_)
  obtain rfl := sj h
  refine Af (sm [] [(4, pD (.val (.string ((p0.extract 0 (((wI .i64 ((p0.size : Int) - (p1.size : Int)))).toNat))))))] [] rfl rfl) (Ar ?_)
  exact ⟨⟨[_], tm, rfl⟩, tv⟩
 ·refine Ap (wq rfl (qm rfl (qe rfl ?_)))
  obtain rfl := sj h
  refine Af (sm [] [(4, pD (.val (.string p0)))] [] rfl rfl) (Ar ?_)
  exact ⟨⟨[_], tm, rfl⟩, tv⟩
theorem Ip (N : Nat) (p0 : ByteArray) (p1 : ByteArray) (r : ByteArray) (h : Ew N p0 p1 = some r) : Aq uS 47 [pD (.val (.string p0)), pD (.val (.string p1))] [] (pD (.val (.string r))) := by
 unfold Ew at h
 refine cw (n := 8) (rs := [.tmp 4]) Tryz.func47 fun w0 S0 => ?_
 refine wq rfl (qa rfl (Ac (wq rfl (qw 2 rfl ?_))))
 refine Ca h fun v1 a1 h => Ax [] (Fs N p0 p1 v1 a1) WN rfl (qe rfl ?_)
 obtain rfl := sj h
 refine Af (sm [] [(4, pD (.val (.string v1)))] [] rfl rfl) (Ar ?_)
 exact ⟨⟨[_], tm, rfl⟩, tv⟩
theorem Lx (N : Nat) (p0 : List Ab) (p1 : Int) (p2 : Int) (r : ByteArray × Int) (h : Gi N p0 p1 p2 = some r) : Aq uS 19 [pD (.sl (p0.map AJ)), iD p1, iD p2] [] (.tup [.one (.pure (.val (.string r.1))), .one (iC r.2)]) := by
 unfold Gi at h
 refine cw (n := 54) (rs := [.tmp 6, .tmp 7]) Tryz.func19 fun w0 S0 => ?_
 refine wq rfl (qa rfl (qa rfl (Ac (wp rfl (qm rfl ?_)))))
 refine Ca h fun v1 a1 h => Ax [] (F0 N p0 v1 a1) T7 rfl (qa rfl (Ac (wq rfl (qm rfl (BG rfl (Ac ?_))))))
 refine Bj h (fun h => ?_) fun h => ?_
 ·refine wq rfl (qm rfl (qa rfl (qe rfl ?_)))
  obtain rfl := sj h
  refine Af (sm [] [(6, pD (.val (.string ((⟨#[]⟩ : ByteArray))))), (7, iD v1)] [] rfl rfl) (Ar ?_)
  exact ⟨⟨[_, _], ⟨.tmp _ _ rfl, tm⟩, rfl⟩, tv⟩
 ·refine Ap (AO (AP ?_))
  refine AK h (fun v3 => mk [(0, pD (.sl (p0.map AJ))), (1, iD p1), (2, iD p2), (16, bD v3)] []) (fun j3 h => ?_) (fun v3 h => ?_)
  ·refine Ak Ay rfl (qm rfl (A4 rfl (qm rfl ?_)))
   refine CJ 19 h rfl (fun h => ?_) fun h => ?_
   ·refine qw 4 rfl (qp rfl (qe rfl ?_))
    exact sn [] h
   ·refine qw 2 rfl (AH Eb rfl (Dx rfl (qp rfl (qe rfl ?_))))
    exact sn [] h
  ·refine Bj h (fun h => ?_) fun h => ?_
   ·refine wq rfl (qa rfl (qe rfl ?_))
    obtain rfl := sj h
    refine Af (sm [] [(6, pD (.val (.string ((⟨#[]⟩ : ByteArray))))), (7, iD 7)] [] rfl rfl) (Ar ?_)
    exact ⟨⟨[_, _], ⟨.tmp _ _ rfl, tm⟩, rfl⟩, tv⟩
   ·refine AK h (fun v6 => mk [(0, pD (.sl (p0.map AJ))), (1, iD p1), (2, iD p2), (25, bD v6)] []) (fun j6 h => ?_) (fun v6 h => ?_)
    ·refine Ak Ay rfl (qm rfl (A4 rfl (qm rfl ?_)))
     refine CJ 28 h rfl (fun h => ?_) fun h => ?_
     ·refine qw 2 rfl (qp rfl (qe rfl ?_))
      exact sn [] h
     ·refine qm rfl (DZ rfl (qp rfl (qe rfl ?_)))
      exact sn [] h
    ·refine Bj h (fun h => ?_) fun h => ?_
     ·refine wq rfl (qa rfl (qe rfl ?_))
      obtain rfl := sj h
      refine Af (sm [] [(6, pD (.val (.string ((⟨#[]⟩ : ByteArray))))), (7, iD 1)] [] rfl rfl) (Ar ?_)
      exact ⟨⟨[_, _], ⟨.tmp _ _ rfl, tm⟩, rfl⟩, tv⟩
     ·refine Ap (wq rfl (qw 3 rfl (Cq rfl ?_)))
      refine Hj h fun c9 h => KX (.p rfl) rfl Eb DB (HA (f := AJ) (n := 11) (fun _ => rfl) _) (.some _ _ _ _ c9.1) (.some _ _ _ _ c9.2.1) ⟨rfl, tv⟩ ⟨rfl, tv⟩ (by have := c9.2.2.1; (try simp only [vO]); omega) (by have := c9.2.2.2; (try simp only [vO]); omega) (JQ AJ p0 _ _ (((wI .i64 (p1 + 1))).toNat - (p1).toNat) rfl) ?_
      refine Ca h fun v10 a10 h => Ax [] (LT N (((p0.drop (p1).toNat).take (((wI .i64 (p1 + 1))).toNat - (p1).toNat))) v10 a10) Wz rfl (qm rfl (qx rfl (qx rfl (qa rfl (qa rfl (Ac (wp rfl (qm rfl (BG rfl (Ac ?_))))))))))
      refine Bj h (fun h => ?_) fun h => ?_
      ·refine wq rfl (qm rfl (qa rfl (qe rfl ?_)))
       obtain rfl := sj h
       refine Af (sm [] [(6, pD (.val (.string ((⟨#[]⟩ : ByteArray))))), (7, iD v10.2)] [] rfl rfl) (Ar ?_)
       exact ⟨⟨[_, _], ⟨.tmp _ _ rfl, tm⟩, rfl⟩, tv⟩
      ·refine Ap (wq rfl (qm rfl ?_))
       refine Ca h fun v12 a12 h => Ax [] (NO N p2 v12 a12) WP rfl ?_
       refine Hj h fun c13 h => D8 (.p rfl) rfl rfl (FE _ _ _ _ c13) rfl ?_
       refine qm rfl ?_
       refine Ca h fun v14 a14 h => Ax [] (K3 N p1 v14 a14) Ww rfl ?_
       refine Hj h fun c15 h => D8 (.p rfl) rfl rfl (FE _ _ _ _ c15) rfl ?_
       refine Hj h fun c16 h => D8 (.p rfl) rfl rfl (FE _ _ _ _ c16) rfl ?_
       refine qm rfl ?_
       refine Ca h fun v17 a17 h => Ax [] (Ip N v10.1 ((⟨#[10]⟩ : ByteArray)) v17 a17) WV rfl ?_
       refine Hj h fun c18 h => D8 (.p rfl) rfl rfl (FE _ _ _ _ c18) rfl ?_
       refine qa rfl (qe rfl ?_)
       obtain rfl := sj h
       refine Af (sm [] [(6, pD (.val (.string (((((v12 ++ (⟨#[32]⟩ : ByteArray)) ++ v14) ++ (⟨#[58, 32]⟩ : ByteArray)) ++ v17))))), (7, iD 0)] [] rfl rfl) (Ar ?_)
       exact ⟨⟨[_, _], ⟨.tmp _ _ rfl, tm⟩, rfl⟩, tv⟩
theorem Gj (N : Nat) (r : Bool) (h : Df N = some r) : Aq uS 11 [] [] (bD r) := by
 unfold Df at h
 refine cw (n := 97) (rs := [.tmp 0]) Tryz.func11 fun w0 S0 => ?_
 refine wq rfl (qa rfl (Ac (wq rfl (Ft AB CK NY rfl (Ft AB CK NY rfl (Ft AB CK NY rfl (Bt Wi Ws rfl (qz Wi rfl (qs DN rfl (Ac (wq rfl (Bt QG Um rfl (Bt QG Um rfl (Ft GS Gs QG rfl (qa rfl (Ac (wq rfl (Bt IW Qu rfl (Bt IW Qu rfl (Bt IW Qu rfl (Bt IW Qu rfl (Ft Eb DB IW rfl (qa rfl (Ac (AO (Af (B6 25 _ _ rfl rfl) (Ak Ay rfl (qL DS DN rfl (Ft AB CK NY rfl (qw 2 rfl ?_))))))))))))))))))))))))))))))
 refine Hj h fun c1 h => KX (rows := (([(Ab.mk 0 7 0 0 0 0 1 0 0 0 0), (Ab.mk 0 2 0 0 0 0 1 0 0 0 0), (Ab.mk 1 6 0 0 0 0 0 1 0 1 0), (Ab.mk 2 3 0 0 0 1 1 0 0 0 0)] : List Ab)).map AJ) (.p rfl) rfl Eb DB (HA (f := AJ) (n := 11) (fun _ => rfl) _) (.none _) (.some _ _ _ _ c1.1) tv ⟨rfl, tv⟩ (by have := c1.2.1; (try simp only [vO]); omega) (by have := c1.2.2; (try simp only [vO]); omega) (JQ AJ (([(Ab.mk 0 7 0 0 0 0 1 0 0 0 0), (Ab.mk 0 2 0 0 0 0 1 0 0 0 0), (Ab.mk 1 6 0 0 0 0 0 1 0 1 0), (Ab.mk 2 3 0 0 0 1 1 0 0 0 0)] : List Ab)) _ _ ((3 : Int).toNat - 0) rfl) ?_
 refine Ca h fun v2 a2 h => Gy [] [14, 15, 16, 28, 20] (F3 N ((Aa.mk (([2] : List Int)) (([0] : List Int)) (([1] : List Int)) (([] : List AG)))) (([1] : List Int)) (([(Am.mk 1 0 1), (Am.mk 2 0 0)] : List Am)) ((((([(Ab.mk 0 7 0 0 0 0 1 0 0 0 0), (Ab.mk 0 2 0 0 0 0 1 0 0 0 0), (Ab.mk 1 6 0 0 0 0 0 1 0 1 0), (Ab.mk 2 3 0 0 0 1 1 0 0 0 0)] : List Ab)).drop 0).take ((3 : Int).toNat - 0))) v2 a2) SB ET rfl (qm rfl (qx rfl (qx rfl (qx rfl (qa rfl (qa rfl (qa rfl (AE (by kernel_rfl) (AO (Af (B6 14 _ _ rfl rfl) (Af (B6 15 _ _ rfl rfl) (Af (B6 16 _ _ rfl rfl) (Af (B6 20 _ _ rfl rfl) (Ak Ay rfl (qL DS DN rfl (qw 2 rfl ?_))))))))))))))))
 refine Hj h fun c3 h => KX (rows := (([(Ab.mk 0 7 0 0 0 0 1 0 0 0 0), (Ab.mk 0 2 0 0 0 0 1 0 0 0 0), (Ab.mk 1 6 0 0 0 0 0 1 0 1 0), (Ab.mk 2 3 0 0 0 1 1 0 0 0 0)] : List Ab)).map AJ) (.p rfl) rfl Eb DB (HA (f := AJ) (n := 11) (fun _ => rfl) _) (.none _) (.some _ _ _ _ c3.1) tv ⟨rfl, tv⟩ (by have := c3.2.1; (try simp only [vO]); omega) (by have := c3.2.2; (try simp only [vO]); omega) (JQ AJ (([(Ab.mk 0 7 0 0 0 0 1 0 0 0 0), (Ab.mk 0 2 0 0 0 0 1 0 0 0 0), (Ab.mk 1 6 0 0 0 0 0 1 0 1 0), (Ab.mk 2 3 0 0 0 1 1 0 0 0 0)] : List Ab)) _ _ ((3 : Int).toNat - 0) rfl) ?_
 refine Ca h fun v4 a4 h => Ax [] (Of N ((Aa.mk (([2] : List Int)) (([0] : List Int)) (([1] : List Int)) (([] : List AG)))) (([(Am.mk 1 0 1), (Am.mk 2 0 0)] : List Am)) ((((([(Ab.mk 0 7 0 0 0 0 1 0 0 0 0), (Ab.mk 0 2 0 0 0 0 1 0 0 0 0), (Ab.mk 1 6 0 0 0 0 0 1 0 1 0), (Ab.mk 2 3 0 0 0 1 1 0 0 0 0)] : List Ab)).drop 0).take ((3 : Int).toNat - 0))) v4 a4) WH rfl (qm rfl (qx rfl (qx rfl (qz C7 rfl (qs AQ rfl (qa rfl (AE (by kernel_rfl) (wq rfl (qL DS DN rfl (Ft AB CK NY rfl (qw 2 rfl ?_)))))))))))
 refine Ca h fun v5 a5 h => Gy [] [46] (F3 N ((Aa.mk (([2] : List Int)) (([0] : List Int)) (([1] : List Int)) (([] : List AG)))) (([1] : List Int)) (([(Am.mk 1 0 1), (Am.mk 2 0 0)] : List Am)) (([(Ab.mk 0 7 0 0 0 0 1 0 0 0 0), (Ab.mk 0 2 0 0 0 0 1 0 0 0 0), (Ab.mk 1 6 0 0 0 0 0 1 0 1 0), (Ab.mk 2 3 0 0 0 1 1 0 0 0 0)] : List Ab)) v5 a5) SB ET rfl (qm rfl (qx rfl (qx rfl (qx rfl (qa rfl (qa rfl (qa rfl (Ac (wq rfl (qm rfl ?_))))))))))
 refine Ca h fun v6 a6 h => Ax [] (Lx N (([(Ab.mk 0 7 0 0 0 0 1 0 0 0 0), (Ab.mk 0 2 0 0 0 0 1 0 0 0 0), (Ab.mk 1 6 0 0 0 0 0 1 0 1 0), (Ab.mk 2 3 0 0 0 1 1 0 0 0 0)] : List Ab)) 3 2 v6 a6) Wn rfl (qm rfl (qx rfl (qx rfl (qa rfl (qe rfl ?_)))))
 refine AK h (fun v7 => mk [(0, bD v7)] []) (fun j7 h => ?_) (fun v7 h => ?_)
 ·refine Ak Ay rfl (qm rfl (AN rfl (qm rfl ?_)))
  refine CJ 60 h rfl (fun h => ?_) fun h => ?_
  ·refine qm rfl (AN rfl (qp rfl (qm rfl ?_)))
   refine CJ 64 h rfl (fun h => ?_) fun h => ?_
   ·refine qm rfl (AN rfl (qp rfl (qm rfl ?_)))
    refine CJ 68 h rfl (fun h => ?_) fun h => ?_
    ·refine qm rfl (AN rfl (qp rfl (qm rfl ?_)))
     refine CJ 72 h rfl (fun h => ?_) fun h => ?_
     ·refine qf BO rfl (ql Bc rfl (AH AB rfl (AN rfl (qp rfl (qm rfl ?_)))))
      refine CJ 78 h rfl (fun h => ?_) fun h => ?_
      ·refine qf BO rfl (ql Bc rfl ?_)
       refine BP h fun v13 a13 b13 h => qi AB CK a13 (Ai b13) rfl (qk Ba rfl (AN rfl (qp rfl (qm rfl ?_))))
       refine CJ 85 h rfl (fun h => ?_) fun h => ?_
       ·refine qm rfl (AN rfl (qp rfl (qm rfl ?_)))
        refine CJ 89 h rfl (fun h => ?_) fun h => ?_
        ·refine qm rfl (AN rfl (qp rfl (qm rfl ?_)))
         refine CJ 93 h rfl (fun h => ?_) fun h => ?_
         ·refine qm rfl ?_
          refine D8 (.g rfl rfl) rfl rfl (LD _ _ _ _) rfl ?_
          refine qp rfl (qe rfl ?_)
          exact sn [] h
         ·refine qw 2 rfl (qp rfl (qe rfl ?_))
          exact sn [] h
        ·refine qw 2 rfl (qp rfl (qw 3 rfl (qp rfl (qe rfl ?_))))
         exact sn [] h
       ·refine qw 2 rfl (qp rfl (qw 3 rfl (qp rfl (qw 3 rfl (qp rfl (qe rfl ?_))))))
        exact sn [] h
      ·refine qw 5 rfl (qp rfl (qw 3 rfl (qp rfl (qw 3 rfl (qp rfl (qw 3 rfl (qp rfl (qe rfl ?_))))))))
       exact sn [] h
     ·refine qw 4 rfl (qp rfl (qw 6 rfl (qp rfl (qw 3 rfl (qp rfl (qw 3 rfl (qp rfl (qw 3 rfl (qp rfl (qe rfl ?_))))))))))
      exact sn [] h
    ·refine qw 2 rfl (qp rfl (qw 5 rfl (qp rfl (qw 6 rfl (qp rfl (qw 3 rfl (qp rfl (qw 3 rfl (qp rfl (qw 3 rfl (qp rfl (qe rfl ?_))))))))))))
     exact sn [] h
   ·refine qw 2 rfl (qp rfl (qw 3 rfl (qp rfl (qw 5 rfl (qp rfl (qw 6 rfl (qp rfl (qw 3 rfl (qp rfl (qw 3 rfl (qp rfl (qw 3 rfl (qp rfl (qe rfl ?_))))))))))))))
    exact sn [] h
  ·refine qw 2 rfl (qp rfl (qw 3 rfl (qp rfl (qw 3 rfl (qp rfl (qw 5 rfl (qp rfl (qw 6 rfl (qp rfl (qw 3 rfl (qp rfl (qw 3 rfl (qp rfl (qw 3 rfl (qp rfl (qe rfl ?_))))))))))))))))
   exact sn [] h
 ·obtain rfl := sj h
  refine Af (sm [] [(0, bD v7)] [] rfl rfl) (Ar ?_)
  exact ⟨⟨[_], tm, rfl⟩, tv⟩
theorem JV (N : Nat) (p0 : Aa) (r : Bool) (h : C0 N p0 = some r) : Aq uS 34 [.e (.agg (Al p0))] [] (bD r) := by
 unfold C0 at h
 refine cw (n := 97) (rs := [.tmp 2]) Tryz.func34 fun w0 S0 => ?_
 refine wq rfl (qb rfl (qa rfl (Ac (AO ?_))))
 refine AK h (fun v1 => mk [(1, oD (.ptr 1 0)), (27, bD v1)] [(1, .box (Al p0))]) (fun j1 h => ?_) (fun v1 h => ?_)
 ·refine Ak Ay rfl (qf BB rfl (ql Bc rfl (AH AB rfl (DZ rfl (qm rfl ?_)))))
  refine CJ 10 h rfl (fun h => ?_) fun h => ?_
  ·refine qw 4 rfl (qp rfl (qw 5 rfl (qp rfl (qw 5 rfl (qp rfl (Ac ?_))))))
   exact sn [] h
  ·refine qf FJ rfl (ql Bc rfl (AH AB rfl (DZ rfl (qp rfl (qm rfl ?_)))))
   refine CJ 16 h rfl (fun h => ?_) fun h => ?_
   ·refine qw 4 rfl (qp rfl (qw 5 rfl (qp rfl (Ac ?_))))
    exact sn [] h
   ·refine qf IJ rfl (ql Bc rfl (AH AB rfl (DZ rfl (qp rfl (qm rfl ?_)))))
    refine CJ 22 h rfl (fun h => ?_) fun h => ?_
    ·refine qw 4 rfl (qp rfl (Ac ?_))
     exact sn [] h
    ·refine qf BF rfl (ql EU rfl (AH CP rfl (DZ rfl (qp rfl (Ac ?_)))))
     exact sn [] h
 ·refine Bj h (fun h => ?_) fun h => ?_
  ·refine wq rfl (qe rfl ?_)
   obtain rfl := sj h
   refine Af (sm [] [(2, bD false)] [] rfl rfl) (Ar ?_)
   exact ⟨⟨[_], tm, rfl⟩, tv⟩
  ·refine Ap (wp rfl (qe rfl ?_))
   refine A5 (L := Cn N p0) h (fun v6 => mk [(1, oD (.ptr 1 0)), (3, iD v6)] [(1, .box (Al p0))]) (fun v7 => mk [] []) (fun _ _ => rfl) (sm [] _ _ rfl rfl) (fun j6 n6 v6 h => ?_) (fun v7 s h hs => ?_)
   ·unfold Cn at h
    refine wp rfl (qm rfl (qf BF rfl (ql EU rfl (AH CP rfl (A4 rfl (Ac ?_))))))
    refine Bj h (fun h => ?_) fun h => ?_
    ·refine Ap (AO (AP (AO ?_)))
     refine AK h (fun v9 => mk [(1, oD (.ptr 1 0)), (3, iD v6), (52, bD v9)] [(1, .box (Al p0))]) (fun j9 h => ?_) (fun v9 h => ?_)
     ·refine Ak Ay rfl (qf BF rfl (ql EU rfl (qm rfl ?_)))
      refine BP h fun v10 a10 b10 h => qi CP BT a10 (Ai b10) rfl (qg GH rfl (qk E5 rfl (AH DM rfl (DZ rfl (qm rfl ?_)))))
      refine CJ 43 h rfl (fun h => ?_) fun h => ?_
      ·refine qw 8 rfl (qp rfl (Ac ?_))
       exact sn [] h
      ·refine qf BF rfl (ql EU rfl (qm rfl ?_))
       refine BP h fun v12 a12 b12 h => qi CP BT a12 (Ai b12) rfl (qg DT rfl (qk E5 rfl (AH DM rfl (DZ rfl (qp rfl (Ac ?_))))))
       exact sn [] h
     ·refine Bj h (fun h => ?_) fun h => ?_
      ·refine wq rfl (qe rfl ?_)
       obtain rfl := sj h
       refine Af (sm [] [(2, bD false)] [] rfl rfl) (Ar ?_)
       exact ⟨⟨[_], tm, rfl⟩, tv⟩
      ·refine Ap (wp rfl (qe rfl ?_))
       refine A5 (L := BC N p0 v6) h (fun v14 => mk [(1, oD (.ptr 1 0)), (3, iD v6), (4, iD v14)] [(1, .box (Al p0))]) (fun v15 => mk [(1, oD (.ptr 1 0)), (3, iD v6)] [(1, .box (Al p0))]) (fun _ _ => rfl) (sm [] _ _ rfl rfl) (fun j14 n14 v14 h => ?_) (fun v15 s h hs => ?_)
       ·unfold BC at h
        refine wp rfl (qm rfl (qf BF rfl (ql EU rfl (qm rfl ?_))))
        refine BP h fun v16 a16 b16 h => qi CP BT a16 (Ai b16) rfl (qg GH rfl (qk E5 rfl (AH DM rfl (A4 rfl (Ac ?_)))))
        refine Bj h (fun h => ?_) fun h => ?_
        ·refine Ap (AO (AP (wq rfl (qf BF rfl (ql EU rfl (qm rfl ?_))))))
         refine BP h fun v18 a18 b18 h => qi CP BT a18 (Ai b18) rfl (qg GH rfl (qk E5 rfl (qm rfl ?_)))
         refine BP h fun v19 a19 b19 h => qi DM JA a19 (Ai b19) rfl (qk JT rfl (AH HF rfl (DZ rfl (Ac ?_))))
         refine Bj h (fun h => ?_) fun h => ?_
         ·refine wq rfl (qe rfl ?_)
          obtain rfl := sj h
          refine Af (sm [] [(2, bD false)] [] rfl rfl) (Ar ?_)
          exact ⟨⟨[_], tm, rfl⟩, tv⟩
         ·refine Ap (Ak Ay rfl (qm rfl (Cq rfl (qe rfl ?_))))
          exact sn [] h
        ·refine BV ?_
         exact sn [] h
       ·refine Af hs (wq rfl (qe rfl ?_))
        refine A5 (L := BA N p0 v6) h (fun v21 => mk [(1, oD (.ptr 1 0)), (3, iD v6), (5, iD v21)] [(1, .box (Al p0))]) (fun v22 => mk [(1, oD (.ptr 1 0)), (3, iD v6)] [(1, .box (Al p0))]) (fun _ _ => rfl) (sm [] _ _ rfl rfl) (fun j21 n21 v21 h => ?_) (fun v22 s h hs => ?_)
        ·unfold BA at h
         refine wp rfl (qm rfl (qf BF rfl (ql EU rfl (qm rfl ?_))))
         refine BP h fun v23 a23 b23 h => qi CP BT a23 (Ai b23) rfl (qg DT rfl (qk E5 rfl (AH DM rfl (A4 rfl (Ac ?_)))))
         refine Bj h (fun h => ?_) fun h => ?_
         ·refine Ap (AO (AP (wq rfl (qf BF rfl (ql EU rfl (qm rfl ?_))))))
          refine BP h fun v25 a25 b25 h => qi CP BT a25 (Ai b25) rfl (qg DT rfl (qk E5 rfl (qm rfl ?_)))
          refine BP h fun v26 a26 b26 h => qi DM JA a26 (Ai b26) rfl (qk JT rfl (AH HF rfl (DZ rfl (Ac ?_))))
          refine Bj h (fun h => ?_) fun h => ?_
          ·refine wq rfl (qe rfl ?_)
           obtain rfl := sj h
           refine Af (sm [] [(2, bD false)] [] rfl rfl) (Ar ?_)
           exact ⟨⟨[_], tm, rfl⟩, tv⟩
          ·refine Ap (Ak Ay rfl (qm rfl (Cq rfl (qe rfl ?_))))
           exact sn [] h
         ·refine BV ?_
          exact sn [] h
        ·refine Af hs (Ak Ay rfl (qm rfl (Cq rfl (qe rfl ?_))))
         exact sn [] h
    ·refine BV ?_
     exact sn [] h
   ·refine Af hs (wq rfl (qe rfl ?_))
    obtain rfl := sj h
    refine Af (sm [] [(2, bD true)] [] rfl rfl) (Ar ?_)
    exact ⟨⟨[_], tm, rfl⟩, tv⟩
theorem JY (N : Nat) (p0 : BK) (r : Bool) (h : B7 N p0 = some r) : Aq uS 12 [.e (.agg (Gd p0))] [] (bD r) := by
 unfold B7 at h
 refine cw (n := 24) (rs := [.tmp 2]) Tryz.func12 fun w0 S0 => ?_
 refine wq rfl (qb rfl (qe rfl ?_))
 refine AK h (fun v1 => mk [(2, bD v1)] []) (fun j1 h => ?_) (fun v1 h => ?_)
 ·refine Ak Ay rfl (qf KT rfl (qL DS DN rfl ?_))
  refine Ca h fun v2 a2 h => Ax [] (JV N ((Aa.mk p0.fc.fb p0.fc.fk p0.fc.fp p0.fc.fd)) v2 a2) WR rfl (qm rfl ?_)
  refine CJ 6 h rfl (fun h => ?_) fun h => ?_
  ·refine qf KR rfl (ql Bc rfl (AH AB rfl (ME rfl (qp rfl (qm rfl ?_)))))
   refine CJ 12 h rfl (fun h => ?_) fun h => ?_
   ·refine qf K0 rfl (ql O1 rfl (AH GS rfl (ME rfl (qp rfl (qm rfl ?_)))))
    refine CJ 18 h rfl (fun h => ?_) fun h => ?_
    ·refine qf JM rfl (ql RZ rfl (AH Eb rfl (ME rfl (qp rfl (qe rfl ?_)))))
     exact sn [] h
    ·refine qw 4 rfl (qp rfl (qe rfl ?_))
     exact sn [] h
   ·refine qw 4 rfl (qp rfl (qw 5 rfl (qp rfl (qe rfl ?_))))
    exact sn [] h
  ·refine qw 4 rfl (qp rfl (qw 5 rfl (qp rfl (qw 5 rfl (qp rfl (qe rfl ?_))))))
   exact sn [] h
 ·obtain rfl := sj h
  refine Af (sm [] [(2, bD v1)] [] rfl rfl) (Ar ?_)
  exact ⟨⟨[_], tm, rfl⟩, tv⟩
theorem B9 (N : Nat) (p0 : AG) (r : Bool) (h : AY N p0 = some r) : Aq uS 56 [.e (.agg (Cy p0))] [] (bD r) := by
 unfold AY at h
 refine cw (n := 11) (rs := [.tmp 2]) Tryz.func56 fun w0 S0 => ?_
 refine wq rfl (qb rfl (qe rfl ?_))
 refine AK h (fun v1 => mk [(2, bD v1)] []) (fun j1 h => ?_) (fun v1 h => ?_)
 ·refine Ak Ay rfl (qf DH rfl (ql Ba rfl (AN rfl (qm rfl ?_))))
  refine CJ 6 h rfl (fun h => ?_) fun h => ?_
  ·refine qw 3 rfl (qp rfl (qe rfl ?_))
   exact sn [] h
  ·refine qf DH rfl (ql Ba rfl (AN rfl (qp rfl (qe rfl ?_))))
   exact sn [] h
 ·obtain rfl := sj h
  refine Af (sm [] [(2, bD v1)] [] rfl rfl) (Ar ?_)
  exact ⟨⟨[_], tm, rfl⟩, tv⟩
theorem F9 (N : Nat) (p0 : List (List Bool)) (p1 : Int) (p2 : Int) (r : Bool) (h : Ck N p0 p1 p2 = some r) : Aq uS 143 [pD (.sl (p0.map (KV eB))), iD p1, iD p2] [] (bD r) := by
 unfold Ck at h
 refine cw (n := 24) (rs := [.tmp 6]) Tryz.func143 fun w0 S0 => ?_
 refine wq rfl (qa rfl (Ac (wp rfl (qm rfl (AH DM rfl (qm rfl (BG rfl (Ac ?_))))))))
 refine Bj h (fun h => ?_) fun h => ?_
 ·refine wq rfl (qe rfl ?_)
  obtain rfl := sj h
  refine Af (sm [] [(6, bD false)] [] rfl rfl) (Ar ?_)
  exact ⟨⟨[_], tm, rfl⟩, tv⟩
 ·refine Ap (wp rfl (qe rfl ?_))
  refine A5 (L := BD N p0 p1 p2) h (fun v2 => mk [(0, pD (.sl (p0.map (KV eB)))), (1, iD p1), (2, iD p2), (7, iD v2)] []) (fun v3 => mk [] []) (fun _ _ => rfl) (sm [] _ _ rfl rfl) (fun j2 n2 v2 h => ?_) (fun v3 s h hs => ?_)
  ·unfold BD at h
   refine wp rfl (qw 2 rfl (A4 rfl (Ac ?_)))
   refine Bj h (fun h => ?_) fun h => ?_
   ·refine Ap (AO (AP (wq rfl (qw 2 rfl ?_))))
    refine BP h fun v5 a5 b5 h => qi DM JA a5 (Ai b5) rfl (qk JT rfl (AH HF rfl (qm rfl (BG rfl (Ac ?_)))))
    refine Bj h (fun h => ?_) fun h => ?_
    ·refine wq rfl (qe rfl ?_)
     obtain rfl := sj h
     refine Af (sm [] [(6, bD false)] [] rfl rfl) (Ar ?_)
     exact ⟨⟨[_], tm, rfl⟩, tv⟩
    ·refine Ap (Ak Ay rfl (qm rfl (Cq rfl (qe rfl ?_))))
     exact sn [] h
   ·refine BV ?_
    exact sn [] h
  ·refine Af hs (wq rfl (qe rfl ?_))
   obtain rfl := sj h
   refine Af (sm [] [(6, bD true)] [] rfl rfl) (Ar ?_)
   exact ⟨⟨[_], tm, rfl⟩, tv⟩
theorem IS (N : Nat) (p0 : Aa) (p1 : AG) (r : Int) (h : Dc N p0 p1 = some r) : Aq uS 101 [.e (.agg (Al p0)), .e (.agg (Cy p1))] [] (iD r) := by
 unfold Dc at h
 refine cw (n := 101) (rs := [.tmp 4]) Tryz.func101 fun w0 S0 => ?_
 refine wq rfl (qb rfl (qb rfl (qa rfl (Ac (AO ?_)))))
 refine AK h (fun v1 => mk [(2, oD (.ptr 2 0)), (3, oD (.ptr 3 0)), (22, bD v1)] [(2, .box (Al p0)), (3, .box (Cy p1))]) (fun j1 h => ?_) (fun v1 h => ?_)
 ·refine Ak Ay rfl (qf DH rfl (ql Ba rfl (A4 rfl (qm rfl ?_))))
  refine CJ 10 h rfl (fun h => ?_) fun h => ?_
  ·refine qw 3 rfl (qp rfl (qw 4 rfl (qu rfl (qu rfl (qn rfl (qp rfl (Ac ?_)))))))
   exact sn [] h
  ·refine qf DH rfl (ql Ba rfl (DZ rfl (qp rfl (qm rfl ?_))))
   refine CJ 15 h rfl (fun h => ?_) fun h => ?_
   ·refine qw 3 rfl (qu rfl (qu rfl (qn rfl (qp rfl (Ac ?_)))))
    exact sn [] h
   ·refine qf OM rfl (ql TV rfl (qm rfl ?_))
    refine CJ 18 h rfl (fun h => ?_) fun h => ?_
    ·refine qL EP BT rfl ?_
     refine Ca h fun v5 a5 h => Ax [] (B9 N p1 v5 a5) Pa rfl (qp rfl (qp rfl (Ac ?_)))
     exact sn [] h
    ·refine qw 2 rfl (qp rfl (qp rfl (Ac ?_)))
     exact sn [] h
 ·refine Bj h (fun h => ?_) fun h => ?_
  ·refine wq rfl (qe rfl ?_)
   obtain rfl := sj h
   refine Af (sm [] [(4, iD 1)] [] rfl rfl) (Ar ?_)
   exact ⟨⟨[_], tm, rfl⟩, tv⟩
  ·refine Ap (wq rfl (qf BB rfl (ql Bc rfl (AH AB rfl (qa rfl (Ac (AO ?_)))))))
   refine AK h (fun v7 => mk [(2, oD (.ptr 2 0)), (3, oD (.ptr 3 0)), (45, bD v7)] [(2, .box (Al p0)), (3, .box (Cy p1))]) (fun j7 h => ?_) (fun v7 h => ?_)
   ·refine Ak Ay rfl (qf Cf rfl (ql Ba rfl (A4 rfl (qm rfl ?_))))
    refine CJ 29 h rfl (fun h => ?_) fun h => ?_
    ·refine qw 4 rfl (qp rfl (qw 4 rfl (qp rfl (qw 5 rfl (qp rfl (Ac ?_))))))
     exact sn [] h
    ·refine qf Cf rfl (ql Ba rfl (qm rfl (Dx rfl (qp rfl (qm rfl ?_)))))
     refine CJ 35 h rfl (fun h => ?_) fun h => ?_
     ·refine qw 3 rfl (qp rfl (qw 5 rfl (qp rfl (Ac ?_))))
      exact sn [] h
     ·refine qf GJ rfl (ql Ba rfl (A4 rfl (qp rfl (qm rfl ?_))))
      refine CJ 40 h rfl (fun h => ?_) fun h => ?_
      ·refine qw 4 rfl (qp rfl (Ac ?_))
       exact sn [] h
      ·refine qf GJ rfl (ql Ba rfl (qm rfl (Dx rfl (qp rfl (Ac ?_)))))
       exact sn [] h
   ·refine Bj h (fun h => ?_) fun h => ?_
    ·refine wq rfl (qe rfl ?_)
     obtain rfl := sj h
     refine Af (sm [] [(4, iD 4)] [] rfl rfl) (Ar ?_)
     exact ⟨⟨[_], tm, rfl⟩, tv⟩
    ·refine Ap (wp rfl (qf GH rfl (ql E5 rfl (qf BB rfl (ql Bc rfl (qf Cf rfl (ql Ba rfl ?_)))))))
     refine BP h fun v12 a12 b12 h => qi AB CK a12 (Ai b12) rfl (qk Ba rfl (qf BB rfl (ql Bc rfl (qf GJ rfl (ql Ba rfl ?_)))))
     refine BP h fun v13 a13 b13 h => qi AB CK a13 (Ai b13) rfl (qk Ba rfl ?_)
     refine Ca h fun v14 a14 h => Ax [] (F9 N p1.fD v12 v13 v14 a14) TP rfl (Cz rfl (AE (by kernel_rfl) ?_))
     refine Bj h (fun h => ?_) fun h => ?_
     ·refine wq rfl (qe rfl ?_)
      obtain rfl := sj h
      refine Af (sm [] [(4, iD 6)] [] rfl rfl) (Ar ?_)
      exact ⟨⟨[_], tm, rfl⟩, tv⟩
     ·refine Ap (wp rfl (qf DH rfl (ql Ba rfl (BG rfl (Ac ?_)))))
      refine Bj h (fun h => ?_) fun h => ?_
      ·refine wp rfl (qf DT rfl (ql E5 rfl (AH DM rfl (BG rfl (Ac ?_)))))
       refine Bj h (fun h => ?_) fun h => ?_
       ·refine wq rfl (qe rfl ?_)
        obtain rfl := sj h
        refine Af (sm [] [(4, iD 6)] [] rfl rfl) (Ar ?_)
        exact ⟨⟨[_], tm, rfl⟩, tv⟩
       ·refine Ap (wq rfl (qe rfl ?_))
        obtain rfl := sj h
        refine Af (sm [] [(4, iD 0)] [] rfl rfl) (Ar ?_)
        exact ⟨⟨[_], tm, rfl⟩, tv⟩
      ·refine Ap (wp rfl (qf DT rfl (ql E5 rfl (qf BB rfl (ql Bc rfl (qf Cf rfl (ql Ba rfl ?_)))))))
       refine BP h fun v18 a18 b18 h => qi AB CK a18 (Ai b18) rfl (qk Ba rfl (qf BB rfl (ql Bc rfl (qf Cf rfl (ql Ba rfl ?_)))))
       refine BP h fun v19 a19 b19 h => qi AB CK a19 (Ai b19) rfl (qk Ba rfl ?_)
       refine Ca h fun v20 a20 h => Ax [] (F9 N p1.fu v18 v19 v20 a20) TP rfl (Cz rfl (AE (by kernel_rfl) ?_))
       refine Bj h (fun h => ?_) fun h => ?_
       ·refine wq rfl (qe rfl ?_)
        obtain rfl := sj h
        refine Af (sm [] [(4, iD 6)] [] rfl rfl) (Ar ?_)
        exact ⟨⟨[_], tm, rfl⟩, tv⟩
       ·refine Ap (wp rfl (qe rfl ?_))
        refine A5 (L := Bn N p1) h (fun v22 => mk [(3, oD (.ptr 3 0)), (6, iD v22)] [(3, .box (Cy p1))]) (fun v23 => mk [] []) (fun _ _ => rfl) (sm [] _ _ rfl rfl) (fun j22 n22 v22 h => ?_) (fun v23 s h hs => ?_)
        ·unfold Bn at h
         refine wp rfl (qm rfl (qf DT rfl (ql E5 rfl (AH DM rfl (A4 rfl (Ac ?_))))))
         refine Bj h (fun h => ?_) fun h => ?_
         ·refine Ap (AO (AP (wq rfl (qf DT rfl (ql E5 rfl (qm rfl ?_))))))
          refine BP h fun v25 a25 b25 h => qi DM JA a25 (Ai b25) rfl (qk JT rfl (qm rfl ?_))
          refine BP h fun v26 a26 b26 h => qi HF UQ a26 (Ai b26) rfl (qk TV rfl (Cz rfl (Ac ?_)))
          refine Bj h (fun h => ?_) fun h => ?_
          ·refine wq rfl (qe rfl ?_)
           obtain rfl := sj h
           refine Af (sm [] [(4, iD 1)] [] rfl rfl) (Ar ?_)
           exact ⟨⟨[_], tm, rfl⟩, tv⟩
          ·refine Ap (Ak Ay rfl (qm rfl (Cq rfl (qe rfl ?_))))
           exact sn [] h
         ·refine BV ?_
          exact sn [] h
        ·refine Af hs (wq rfl (qe rfl ?_))
         obtain rfl := sj h
         refine Af (sm [] [(4, iD 0)] [] rfl rfl) (Ar ?_)
         exact ⟨⟨[_], tm, rfl⟩, tv⟩
theorem DJ (N : Nat) (p0 : Aa) (r : Int) (h : Bk N p0 = some r) : Aq uS 55 [.e (.agg (Al p0))] [] (iD r) := by
 unfold Bk at h
 refine cw (n := 102) (rs := [.tmp 2]) Tryz.func55 fun w0 S0 => ?_
 refine wq rfl (qb rfl (qa rfl (Ac (AO ?_))))
 refine AK h (fun v1 => mk [(1, oD (.ptr 1 0)), (16, bD v1)] [(1, .box (Al p0))]) (fun j1 h => ?_) (fun v1 h => ?_)
 ·refine Ak Ay rfl (qf BB rfl (ql Bc rfl (AH AB rfl (DZ rfl (qm rfl ?_)))))
  refine CJ 11 h rfl (fun h => ?_) fun h => ?_
  ·refine qw 4 rfl (qp rfl (Ac ?_))
   exact sn [] h
  ·refine qf BF rfl (ql EU rfl (AH CP rfl (DZ rfl (qp rfl (Ac ?_)))))
   exact sn [] h
 ·refine Bj h (fun h => ?_) fun h => ?_
  ·refine wq rfl (qe rfl ?_)
   obtain rfl := sj h
   refine Af (sm [] [(2, iD 3)] [] rfl rfl) (Ar ?_)
   exact ⟨⟨[_], tm, rfl⟩, tv⟩
  ·refine Ap (AO ?_)
   refine AK h (fun v4 => mk [(1, oD (.ptr 1 0)), (32, bD v4)] [(1, .box (Al p0))]) (fun j4 h => ?_) (fun v4 h => ?_)
   ·refine Ak Ay rfl (qf FJ rfl (ql Bc rfl (AH AB rfl (qf BB rfl (ql Bc rfl (AH AB rfl (BG rfl (qm rfl ?_))))))))
    refine CJ 24 h rfl (fun h => ?_) fun h => ?_
    ·refine qw 7 rfl (qp rfl (Ac ?_))
     exact sn [] h
    ·refine qf IJ rfl (ql Bc rfl (AH AB rfl (qf BB rfl (ql Bc rfl (AH AB rfl (BG rfl (qp rfl (Ac ?_))))))))
     exact sn [] h
   ·refine Bj h (fun h => ?_) fun h => ?_
    ·refine wq rfl (qe rfl ?_)
     obtain rfl := sj h
     refine Af (sm [] [(2, iD 6)] [] rfl rfl) (Ar ?_)
     exact ⟨⟨[_], tm, rfl⟩, tv⟩
    ·refine Ap (wp rfl (qe rfl ?_))
     refine A5 (L := AX N p0) h (fun v7 => mk [(1, oD (.ptr 1 0)), (3, iD v7)] [(1, .box (Al p0))]) (fun v8 => mk [(1, oD (.ptr 1 0))] [(1, .box (Al p0))]) (fun _ _ => rfl) (sm [] _ _ rfl rfl) (fun j7 n7 v7 h => ?_) (fun v8 s h hs => ?_)
     ·unfold AX at h
      refine wp rfl (qm rfl (qf BB rfl (ql Bc rfl (AH AB rfl (A4 rfl (Ac ?_))))))
      refine Bj h (fun h => ?_) fun h => ?_
      ·refine Ap (AO (AP (wq rfl (qf BB rfl (ql Bc rfl (qm rfl ?_))))))
       refine BP h fun v10 a10 b10 h => qi AB CK a10 (Ai b10) rfl (qk Ba rfl (qe rfl ?_))
       refine AK h (fun v11 => mk [(1, oD (.ptr 1 0)), (3, iD v7), (84, bD v11)] [(1, .box (Al p0))]) (fun j11 h => ?_) (fun v11 h => ?_)
       ·refine Ak Ay rfl (qm rfl (A4 rfl (qm rfl ?_)))
        refine CJ 47 h rfl (fun h => ?_) fun h => ?_
        ·refine qw 2 rfl (qp rfl (qw 7 rfl (qp rfl (qw 8 rfl (qp rfl (qw 7 rfl (qp rfl (qw 8 rfl (qp rfl (Ac ?_))))))))))
         exact sn [] h
        ·refine qm rfl (DZ rfl (qp rfl (qm rfl ?_)))
         refine CJ 51 h rfl (fun h => ?_) fun h => ?_
         ·refine qw 6 rfl (qp rfl (qw 8 rfl (qp rfl (qw 7 rfl (qp rfl (qw 8 rfl (qp rfl (Ac ?_))))))))
          exact sn [] h
         ·refine qf FJ rfl (ql Bc rfl (qm rfl ?_))
          refine BP h fun v14 a14 b14 h => qi AB CK a14 (Ai b14) rfl (qk Ba rfl (A4 rfl (qp rfl (qm rfl ?_))))
          refine CJ 59 h rfl (fun h => ?_) fun h => ?_
          ·refine qw 7 rfl (qp rfl (qw 7 rfl (qp rfl (qw 8 rfl (qp rfl (Ac ?_))))))
           exact sn [] h
          ·refine qf FJ rfl (ql Bc rfl (qm rfl ?_))
           refine BP h fun v16 a16 b16 h => qi AB CK a16 (Ai b16) rfl (qk Ba rfl (qm rfl (Dx rfl (qp rfl (qm rfl ?_)))))
           refine CJ 68 h rfl (fun h => ?_) fun h => ?_
           ·refine qw 6 rfl (qp rfl (qw 8 rfl (qp rfl (Ac ?_))))
            exact sn [] h
           ·refine qf IJ rfl (ql Bc rfl (qm rfl ?_))
            refine BP h fun v18 a18 b18 h => qi AB CK a18 (Ai b18) rfl (qk Ba rfl (A4 rfl (qp rfl (qm rfl ?_))))
            refine CJ 76 h rfl (fun h => ?_) fun h => ?_
            ·refine qw 7 rfl (qp rfl (Ac ?_))
             exact sn [] h
            ·refine qf IJ rfl (ql Bc rfl (qm rfl ?_))
             refine BP h fun v20 a20 b20 h => qi AB CK a20 (Ai b20) rfl (qk Ba rfl (qm rfl (Dx rfl (qp rfl (Ac ?_)))))
             exact sn [] h
       ·refine Bj h (fun h => ?_) fun h => ?_
        ·refine wq rfl (qe rfl ?_)
         obtain rfl := sj h
         refine Af (sm [] [(2, iD 7)] [] rfl rfl) (Ar ?_)
         exact ⟨⟨[_], tm, rfl⟩, tv⟩
        ·refine Ap (Ak Ay rfl (qm rfl (Cq rfl (qe rfl ?_))))
         exact sn [] h
      ·refine BV ?_
       exact sn [] h
     ·refine Af hs (wp rfl (qe rfl ?_))
      refine A5 (L := AR N p0) h (fun v22 => mk [(1, oD (.ptr 1 0)), (5, iD v22)] [(1, .box (Al p0))]) (fun v23 => mk [] []) (fun _ _ => rfl) (sm [] _ _ rfl rfl) (fun j22 n22 v22 h => ?_) (fun v23 s h hs => ?_)
      ·unfold AR at h
       refine wp rfl (qm rfl (qf BF rfl (ql EU rfl (AH CP rfl (A4 rfl (Ac ?_))))))
       refine Bj h (fun h => ?_) fun h => ?_
       ·refine Ap (AO (AP (wq rfl (qL DS DN rfl (qf BF rfl (ql EU rfl (qm rfl ?_)))))))
        refine BP h fun v25 a25 b25 h => qi CP BT a25 (Ai b25) rfl (qK EP BT rfl ?_)
        refine Ca h fun v26 a26 h => Ax [] (IS N p0 v25 v26 a26) Vz rfl (qa rfl (AE (by kernel_rfl) (wq rfl (qm rfl (BG rfl (Ac ?_))))))
        refine Bj h (fun h => ?_) fun h => ?_
        ·refine wq rfl (qm rfl (qe rfl ?_))
         obtain rfl := sj h
         refine Af (sm [] [(2, iD v26)] [] rfl rfl) (Ar ?_)
         exact ⟨⟨[_], tm, rfl⟩, tv⟩
        ·refine Ap (Ak Ay rfl (qm rfl (Cq rfl (qe rfl ?_))))
         exact sn [] h
       ·refine BV ?_
        exact sn [] h
      ·refine Af hs (wq rfl (qe rfl ?_))
       obtain rfl := sj h
       refine Af (sm [] [(2, iD 0)] [] rfl rfl) (Ar ?_)
       exact ⟨⟨[_], tm, rfl⟩, tv⟩
theorem H4 (N : Nat) (p0 : Aa) (p1 : List Int) (r : Int) (h : CL N p0 p1 = some r) : Aq uS 58 [.e (.agg (Al p0)), pD (.sl (p1.map As))] [] (iD r) := by
 unfold CL at h
 refine cw (n := 36) (rs := [.tmp 4]) Tryz.func58 fun w0 S0 => ?_
 refine wq rfl (qb rfl (qa rfl (Ac (wp rfl (qL DS DN rfl ?_)))))
 refine Ca h fun v1 a1 h => Ax [] (DJ N p0 v1 a1) Uq rfl (qa rfl (Ac (wq rfl (qm rfl (BG rfl (Ac ?_))))))
 refine Bj h (fun h => ?_) fun h => ?_
 ·refine wq rfl (qm rfl (qe rfl ?_))
  obtain rfl := sj h
  refine Af (sm [] [(4, iD v1)] [] rfl rfl) (Ar ?_)
  exact ⟨⟨[_], tm, rfl⟩, tv⟩
 ·refine Ap (wp rfl (qm rfl (AH AB rfl (qf BB rfl (ql Bc rfl (AH AB rfl (BG rfl (Ac ?_))))))))
  refine Bj h (fun h => ?_) fun h => ?_
  ·refine wq rfl (qe rfl ?_)
   obtain rfl := sj h
   refine Af (sm [] [(4, iD 6)] [] rfl rfl) (Ar ?_)
   exact ⟨⟨[_], tm, rfl⟩, tv⟩
  ·refine Ap (wp rfl (qe rfl ?_))
   refine A5 (L := BQ N p1) h (fun v4 => mk [(1, pD (.sl (p1.map As))), (6, iD v4)] []) (fun v5 => mk [] []) (fun _ _ => rfl) (sm [] _ _ rfl rfl) (fun j4 n4 v4 h => ?_) (fun v5 s h hs => ?_)
   ·unfold BQ at h
    refine wp rfl (qw 2 rfl (AH AB rfl (A4 rfl (Ac ?_))))
    refine Bj h (fun h => ?_) fun h => ?_
    ·refine Ap (AO (AP ?_))
     refine AK h (fun v7 => mk [(1, pD (.sl (p1.map As))), (6, iD v4), (35, bD v7)] []) (fun j7 h => ?_) (fun v7 h => ?_)
     ·refine Ak Ay rfl (qw 2 rfl ?_)
      refine BP h fun v8 a8 b8 h => qi AB CK a8 (Ai b8) rfl (qk Ba rfl (A4 rfl (qm rfl ?_)))
      refine CJ 29 h rfl (fun h => ?_) fun h => ?_
      ·refine qw 5 rfl (qp rfl (Ac ?_))
       exact sn [] h
      ·refine qw 2 rfl ?_
       refine BP h fun v10 a10 b10 h => qi AB CK a10 (Ai b10) rfl (qk Ba rfl (DZ rfl (qp rfl (Ac ?_))))
       exact sn [] h
     ·refine Bj h (fun h => ?_) fun h => ?_
      ·refine wq rfl (qe rfl ?_)
       obtain rfl := sj h
       refine Af (sm [] [(4, iD 7)] [] rfl rfl) (Ar ?_)
       exact ⟨⟨[_], tm, rfl⟩, tv⟩
      ·refine Ap (Ak Ay rfl (qm rfl (Cq rfl (qe rfl ?_))))
       exact sn [] h
    ·refine BV ?_
     exact sn [] h
   ·refine Af hs (wq rfl (qe rfl ?_))
    obtain rfl := sj h
    refine Af (sm [] [(4, iD 0)] [] rfl rfl) (Ar ?_)
    exact ⟨⟨[_], tm, rfl⟩, tv⟩
theorem IR (N : Nat) (p0 : Aa) (r : Ad × Int) (h : Di N p0 = some r) : Aq uS 74 [.e (.agg (Al p0))] [(1, r.1.fh.map As), (1, r.1.fe.map As), (1, r.1.ff.map Dw)] (.tup [.agg [.own 0, .own 1, .own 2], .one (iC r.2)]) := by
 unfold Di at h
 refine cw (n := 68) (rs := [.cell 2 40, .tmp 3]) Tryz.func74 fun w0 S0 => ?_
 refine wq rfl (qb rfl (qz C7 rfl (qa rfl (Ac (wp rfl (qL DS DN rfl ?_))))))
 refine Ca h fun v1 a1 h => Ax [] (DJ N p0 v1 a1) Uq rfl (qa rfl (Ac (wq rfl (qm rfl (BG rfl (Ac ?_))))))
 refine Bj h (fun h => ?_) fun h => ?_
 ·refine wq rfl (Bt C7 Gt rfl (qm rfl (qs AQ rfl (qe rfl ?_))))
  obtain rfl := sj h
  refine Af ((Av 2 0 2001 1 _ rfl rfl rfl rfl).trans ((Av 2 1 2002 1 _ rfl rfl rfl rfl).trans ((Av 2 2 2003 1 _ rfl rfl rfl rfl).trans (sm [(1000, 2001), (1001, 2002), (1002, 2003)] [(2, oD (.ptr 2 0)), (3, iD v1)] [(2, .box [.own 1000, .own 1001, .own 1002]), (1000, .vec 1 ((([] : List Int)).map As)), (1001, .vec 1 ((([] : List Int)).map As)), (1002, .vec 1 ((([] : List Int)).map Dw))] rfl rfl)))) (Ar ?_)
  exact ⟨⟨[_, _], ⟨.cellN _ _ _ _ _ _ _ rfl rfl B0 AQ rfl rfl (H7 rfl), tm⟩, rfl⟩, ⟨rfl, rfl, rfl, tv⟩⟩
 ·refine Ap (wq rfl (qz C7 rfl (Ac (wp rfl (qe rfl ?_)))))
  refine A5 (L := Bu N p0) h (fun v3 => mk [(1, oD (.ptr 1 0)), (2, oD (.ptr 2 0)), (5, oD (.ptr 5 0)), (6, iD v3.2.2)] [(1, .box (Al p0)), (2, .box [.pure (.nil0), .pure (.nil0), .pure (.nil0)]), (5, .box [.own 2004, .own 2005, .pure (.nil0)]), (2004, .vec 1 (v3.1.map As)), (2005, .vec 1 (v3.2.1.map As))]) (fun v4 => mk [(1, oD (.ptr 1 0)), (2, oD (.ptr 2 0)), (5, oD (.ptr 5 0))] [(1, .box (Al p0)), (2, .box [.pure (.nil0), .pure (.nil0), .pure (.nil0)]), (5, .box [.own 2006, .own 2007, .pure (.nil0)]), (2006, .vec 1 (v4.1.map As)), (2007, .vec 1 (v4.2.map As))]) (fun _ _ => rfl) ((Av 5 0 2008 1 _ rfl rfl rfl rfl).trans ((Av 5 1 2009 1 _ rfl rfl rfl rfl).trans (sm [(2004, 2008), (2005, 2009)] _ _ rfl rfl))) (fun j3 n3 v3 h => ?_) (fun v4 s h hs => ?_)
  ·unfold Bu at h
   refine wp rfl (qm rfl (qf BB rfl (ql Bc rfl (AH AB rfl (A4 rfl (Ac ?_))))))
   refine Bj h (fun h => ?_) fun h => ?_
   ·refine Ap (AO (AP (wq rfl (qf CV rfl (ql Bc rfl (qf FJ rfl (ql Bc rfl (qm rfl ?_))))))))
    refine BP h fun v6 a6 b6 h => qi AB CK a6 (Ai b6) rfl (qk Ba rfl (Ft AB CK NY rfl ?_))
    refine Hj h fun c7 h => Ln (f := As) AB AB CK QN NY c7 rfl (qf CV rfl (qs Vq rfl (AE (by kernel_rfl) (Ak Ay rfl (qf BO rfl (ql Bc rfl (Ft AB CK NY rfl ?_)))))))
    refine Hj h fun c8 h => Ln (f := As) AB AB CK QN NY c8 rfl (qf BO rfl (qs Vq rfl (Ac (Ak Ay rfl (qm rfl (Cq rfl (qe rfl ?_)))))))
    exact sn [(2004, 30), (2005, 35)] h
   ·refine BV ?_
    exact sn [(2006, 2004), (2007, 2005)] h
  ·refine Af hs (wp rfl (qe rfl ?_))
   refine A5 (L := AU N p0) h (fun v9 => mk [(1, oD (.ptr 1 0)), (2, oD (.ptr 2 0)), (5, oD (.ptr 5 0)), (7, iD v9.2)] [(1, .box (Al p0)), (2, .box [.pure (.nil0), .pure (.nil0), .pure (.nil0)]), (5, .box [.own 2010, .own 2011, .own 2012]), (2010, .vec 1 (v4.1.map As)), (2011, .vec 1 (v4.2.map As)), (2012, .vec 1 (v9.1.map Dw))]) (fun v10 => mk [(2, oD (.ptr 2 0)), (5, oD (.ptr 5 0))] [(2, .box [.pure (.nil0), .pure (.nil0), .pure (.nil0)]), (5, .box [.own 2013, .own 2014, .own 2015]), (2013, .vec 1 (v4.1.map As)), (2014, .vec 1 (v4.2.map As)), (2015, .vec 1 (v10.map Dw))]) (fun _ _ => rfl) ((Av 5 2 2019 1 _ rfl rfl rfl rfl).trans (sm [(2010, 2006), (2011, 2007), (2012, 2019)] _ _ rfl rfl)) (fun j9 n9 v9 h => ?_) (fun v10 s h hs => ?_)
   ·unfold AU at h
    refine wp rfl (qm rfl (qf BF rfl (ql EU rfl (AH CP rfl (A4 rfl (Ac ?_))))))
    refine Bj h (fun h => ?_) fun h => ?_
    ·refine Ap (AO (AP (wq rfl (qe rfl ?_))))
     refine AK h (fun v12 => mk [(1, oD (.ptr 1 0)), (2, oD (.ptr 2 0)), (5, oD (.ptr 5 0)), (7, iD v9.2), (8, pD (.val (.int .u8 v12)))] [(1, .box (Al p0)), (2, .box [.pure (.nil0), .pure (.nil0), .pure (.nil0)]), (5, .box [.own 2016, .own 2017, .own 2018]), (2016, .vec 1 (v4.1.map As)), (2017, .vec 1 (v4.2.map As)), (2018, .vec 1 (v9.1.map Dw))]) (fun j12 h => ?_) (fun v12 h => ?_)
     ·refine wq rfl (qf BF rfl (ql EU rfl (qm rfl ?_)))
      refine BP h fun v13 a13 b13 h => qi CP BT a13 (Ai b13) rfl (qK EP BT rfl ?_)
      refine Ca h fun v14 a14 h => Ax [] (B9 N v13 v14 a14) Pa rfl (Ac ?_)
      refine Bj h (fun h => ?_) fun h => ?_
      ·refine Ak Ay rfl (qf FJ rfl (ql Bc rfl (qf BF rfl (ql EU rfl (qm rfl ?_)))))
       refine BP h fun v16 a16 b16 h => qi CP BT a16 (Ai b16) rfl (qg Cf rfl (qk Ba rfl ?_))
       refine BP h fun v17 a17 b17 h => qi AB CK a17 (Ai b17) rfl (qk Ba rfl ?_)
       refine Hj h fun c18 h => H0 rfl c18 (qa rfl (AE (by kernel_rfl) ?_))
       exact sn [(2016, 2010), (2017, 2011), (2018, 2012)] h
      ·refine Ap ?_
       exact sn [(2016, 2010), (2017, 2011), (2018, 2012)] h
     ·refine Ak Ay rfl (qf CE rfl (ql GQ rfl (qm rfl (Ft Dz DE LS rfl ?_))))
      refine Hj h fun c19 h => Ln (f := Dw) Dz Dz DE Nr LS c19 rfl (qf CE rfl (qs Wy rfl (Ac (Ak Ay rfl (qm rfl (Cq rfl (qe rfl ?_)))))))
      exact sn [(2010, 2016), (2011, 2017), (2012, 65)] h
    ·refine BV ?_
     exact sn [(2013, 2010), (2014, 2011), (2015, 2012)] h
   ·refine Af hs (wq rfl (qL B0 AQ rfl (qs AQ rfl (qe rfl ?_))))
    obtain rfl := sj h
    refine Af (sm [(1000, 2013), (1001, 2014), (1002, 2015)] [(2, oD (.ptr 2 0)), (3, iD 0)] [(2, .box [.own 1000, .own 1001, .own 1002]), (1000, .vec 1 (v4.1.map As)), (1001, .vec 1 (v4.2.map As)), (1002, .vec 1 (v10.map Dw))] rfl rfl) (Ar ?_)
    exact ⟨⟨[_, _], ⟨.cellN _ _ _ _ _ _ _ rfl rfl B0 AQ rfl rfl (H7 rfl), tm⟩, rfl⟩, ⟨rfl, rfl, rfl, tv⟩⟩
theorem ED (N : Nat) (p0 : Ad) (p1 : Int) (r : Int) (h : BS N p0 p1 = some r) : Aq uS 57 [.e (.agg (Be p0)), iD p1] [] (pD (.val (.int .u8 r))) := by
 unfold BS at h
 refine cw (n := 27) (rs := [.tmp 4]) Tryz.func57 fun w0 S0 => ?_
 refine wq rfl (qb rfl (qa rfl (Ac (wq rfl (qf CV rfl (ql Bc rfl (qm rfl ?_)))))))
 refine BP h fun v1 a1 b1 h => qi AB CK a1 (Ai b1) rfl (qk Ba rfl ?_)
 refine Hj h fun c2 h => H0 rfl c2 (qe rfl ?_)
 refine AK h (fun v3 => mk [(5, pD (.val (.int .u8 v3)))] []) (fun j3 h => ?_) (fun v3 h => ?_)
 ·refine wq rfl (qf BO rfl (ql Bc rfl (qm rfl ?_)))
  refine BP h fun v4 a4 b4 h => qi AB CK a4 (Ai b4) rfl (qk Ba rfl (Dx rfl (Ac ?_)))
  refine Bj h (fun h => ?_) fun h => ?_
  ·refine Ak Ay rfl (qm rfl (qf BO rfl (ql Bc rfl (qm rfl ?_))))
   refine BP h fun v6 a6 b6 h => qi AB CK a6 (Ai b6) rfl (qk Ba rfl ?_)
   refine Hj h fun c7 h => H0 rfl c7 (Q9 rfl (qe rfl ?_))
   exact sn [] h
  ·refine Ap ?_
   exact sn [] h
 ·refine wq rfl (qm rfl (qe rfl ?_))
  obtain rfl := sj h
  refine Af (sm [] [(4, pD (.val (.int .u8 v3)))] [] rfl rfl) (Ar ?_)
  exact ⟨⟨[_], tm, rfl⟩, tv⟩
theorem Gk (N : Nat) (p0 : Aa) (p1 : Ad) (r : Int) (h : Cx N p0 p1 = some r) : Aq uS 22 [.e (.agg (Al p0)), .e (.agg (Be p1))] [] (iD r) := by
 unfold Cx at h
 refine cw (n := 154) (rs := [.tmp 4]) Tryz.func22 fun w0 S0 => ?_
 refine wq rfl (qb rfl (qb rfl (qa rfl (Ac (wp rfl (qL DS DN rfl ?_))))))
 refine Ca h fun v1 a1 h => Ax [] (DJ N p0 v1 a1) Uq rfl (qa rfl (Ac (wq rfl (qm rfl (BG rfl (Ac ?_))))))
 refine Bj h (fun h => ?_) fun h => ?_
 ·refine wq rfl (qm rfl (qe rfl ?_))
  obtain rfl := sj h
  refine Af (sm [] [(4, iD v1)] [] rfl rfl) (Ar ?_)
  exact ⟨⟨[_], tm, rfl⟩, tv⟩
 ·refine Ap (wq rfl (qf BB rfl (ql Bc rfl (AH AB rfl (qa rfl (Ac (AO ?_)))))))
  refine AK h (fun v3 => mk [(2, oD (.ptr 2 0)), (3, oD (.ptr 3 0)), (6, iD ((p0.fb.length : Int))), (39, bD v3)] [(2, .box (Al p0)), (3, .box (Be p1))]) (fun j3 h => ?_) (fun v3 h => ?_)
  ·refine Ak Ay rfl (qf CV rfl (ql Bc rfl (AH AB rfl (qm rfl (BG rfl (qm rfl ?_))))))
   refine CJ 24 h rfl (fun h => ?_) fun h => ?_
   ·refine qw 5 rfl (qp rfl (qw 8 rfl (qp rfl (Ac ?_))))
    exact sn [] h
   ·refine qf BO rfl (ql Bc rfl (AH AB rfl (qm rfl (BG rfl (qp rfl (qm rfl ?_))))))
    refine CJ 31 h rfl (fun h => ?_) fun h => ?_
    ·refine qw 7 rfl (qp rfl (Ac ?_))
     exact sn [] h
    ·refine qf CE rfl (ql GQ rfl (AH Dz rfl (qf BF rfl (ql EU rfl (AH CP rfl (BG rfl (qp rfl (Ac ?_))))))))
     exact sn [] h
  ·refine Bj h (fun h => ?_) fun h => ?_
   ·refine wq rfl (qe rfl ?_)
    obtain rfl := sj h
    refine Af (sm [] [(4, iD 6)] [] rfl rfl) (Ar ?_)
    exact ⟨⟨[_], tm, rfl⟩, tv⟩
   ·refine Ap (wp rfl (qe rfl ?_))
    refine A5 (L := Bw N p0 p1) h (fun v7 => mk [(2, oD (.ptr 2 0)), (3, oD (.ptr 3 0)), (6, iD ((p0.fb.length : Int))), (7, iD v7)] [(2, .box (Al p0)), (3, .box (Be p1))]) (fun v8 => mk [(2, oD (.ptr 2 0)), (3, oD (.ptr 3 0))] [(2, .box (Al p0)), (3, .box (Be p1))]) (fun _ _ => rfl) (sm [] _ _ rfl rfl) (fun j7 n7 v7 h => ?_) (fun v8 s h hs => ?_)
    ·unfold Bw at h
     refine wp rfl (qw 2 rfl (A4 rfl (Ac ?_)))
     refine Bj h (fun h => ?_) fun h => ?_
     ·refine Ap (AO (AP (AO ?_)))
      refine AK h (fun v10 => mk [(2, oD (.ptr 2 0)), (3, oD (.ptr 3 0)), (6, iD ((p0.fb.length : Int))), (7, iD v7), (84, bD v10)] [(2, .box (Al p0)), (3, .box (Be p1))]) (fun j10 h => ?_) (fun v10 h => ?_)
      ·refine Ak Ay rfl (qf CV rfl (ql Bc rfl (qm rfl ?_)))
       refine BP h fun v11 a11 b11 h => qi AB CK a11 (Ai b11) rfl (qk Ba rfl (A4 rfl (qm rfl ?_)))
       refine CJ 51 h rfl (fun h => ?_) fun h => ?_
       ·refine qw 11 rfl (qp rfl (qw 7 rfl (qp rfl (qw 12 rfl (qp rfl (AE (by kernel_rfl) ?_))))))
        exact sn [] h
       ·refine qf CV rfl (ql Bc rfl (qm rfl ?_))
        refine BP h fun v13 a13 b13 h => qi AB CK a13 (Ai b13) rfl (qk Ba rfl (qf BB rfl (ql Bc rfl (qm rfl ?_))))
        refine BP h fun v14 a14 b14 h => qi AB CK a14 (Ai b14) rfl (qk Ba rfl (Dx rfl (qp rfl (qm rfl ?_))))
        refine CJ 64 h rfl (fun h => ?_) fun h => ?_
        ·refine qw 6 rfl (qp rfl (qw 12 rfl (qp rfl (AE (by kernel_rfl) ?_))))
         exact sn [] h
        ·refine qf BO rfl (ql Bc rfl (qm rfl ?_))
         refine BP h fun v16 a16 b16 h => qi AB CK a16 (Ai b16) rfl (qk Ba rfl (A4 rfl (qp rfl (qm rfl ?_))))
         refine CJ 72 h rfl (fun h => ?_) fun h => ?_
         ·refine qw 11 rfl (qp rfl (AE (by kernel_rfl) ?_))
          exact sn [] h
         ·refine qf BO rfl (ql Bc rfl (qm rfl ?_))
          refine BP h fun v18 a18 b18 h => qi AB CK a18 (Ai b18) rfl (qk Ba rfl (qf BB rfl (ql Bc rfl (qm rfl ?_))))
          refine BP h fun v19 a19 b19 h => qi AB CK a19 (Ai b19) rfl (qk Ba rfl (Dx rfl (qp rfl (AE (by kernel_rfl) ?_))))
          exact sn [] h
      ·refine Bj h (fun h => ?_) fun h => ?_
       ·refine wq rfl (qe rfl ?_)
        obtain rfl := sj h
        refine Af (sm [] [(4, iD 7)] [] rfl rfl) (Ar ?_)
        exact ⟨⟨[_], tm, rfl⟩, tv⟩
       ·refine Ap (wq rfl (qf CV rfl (ql Bc rfl (qm rfl ?_))))
        refine BP h fun v21 a21 b21 h => qi AB CK a21 (Ai b21) rfl (qk Ba rfl (qf BO rfl (ql Bc rfl (qm rfl ?_))))
        refine BP h fun v22 a22 b22 h => qi AB CK a22 (Ai b22) rfl (qk Ba rfl (AN rfl (AE (by kernel_rfl) ?_)))
        refine Bj h (fun h => ?_) fun h => ?_
        ·refine wq rfl (qe rfl ?_)
         obtain rfl := sj h
         refine Af (sm [] [(4, iD 1)] [] rfl rfl) (Ar ?_)
         exact ⟨⟨[_], tm, rfl⟩, tv⟩
        ·refine Ap (Ak Ay rfl (qm rfl (Cq rfl (qe rfl ?_))))
         exact sn [] h
     ·refine BV ?_
      exact sn [] h
    ·refine Af hs (wp rfl (qe rfl ?_))
     refine A5 (L := Bo N p0 p1) h (fun v24 => mk [(2, oD (.ptr 2 0)), (3, oD (.ptr 3 0)), (8, iD v24)] [(2, .box (Al p0)), (3, .box (Be p1))]) (fun v25 => mk [] []) (fun _ _ => rfl) (sm [] _ _ rfl rfl) (fun j24 n24 v24 h => ?_) (fun v25 s h hs => ?_)
     ·unfold Bo at h
      refine wp rfl (qm rfl (qf BF rfl (ql EU rfl (AH CP rfl (A4 rfl (Ac ?_))))))
      refine Bj h (fun h => ?_) fun h => ?_
      ·refine Ap (AO (AP (wq rfl (qf BF rfl (ql EU rfl (qm rfl ?_))))))
       refine BP h fun v27 a27 b27 h => qi CP BT a27 (Ai b27) rfl (qK EP BT rfl (qz Jo rfl (qs BT rfl (Ac (wq rfl (qf BB rfl (ql Bc rfl (qf Cf rfl (ql Ba rfl ?_)))))))))
       refine BP h fun v28 a28 b28 h => qi AB CK a28 (Ai b28) rfl (qk Ba rfl ?_)
       refine Hj h fun c29 h => H0 rfl c29 (KE rfl (qe rfl ?_))
       refine AK h (fun v30 => mk [(2, oD (.ptr 2 0)), (3, oD (.ptr 3 0)), (8, iD v24), (153, bD v30)] [(2, .box (Al p0)), (3, .box (Be p1))]) (fun j30 h => ?_) (fun v30 h => ?_)
       ·refine Ak Ay rfl (qL EP BT rfl ?_)
        refine Ca h fun v31 a31 h => Ax [] (B9 N v27 v31 a31) Pa rfl (Cz rfl (qm rfl ?_))
        refine CJ 119 h rfl (fun h => ?_) fun h => ?_
        ·refine qf CE rfl (ql GQ rfl (qm rfl ?_))
         refine BP h fun v33 a33 b33 h => qi Dz DE a33 (Ai b33) rfl (qk Hc rfl (BG rfl (qp rfl (qm rfl ?_))))
         refine CJ 127 h rfl (fun h => ?_) fun h => ?_
         ·refine qw 3 rfl (qu rfl (qu rfl (qu rfl (qu rfl (qu rfl (qu rfl (qu rfl (qu rfl (qu rfl (qu rfl (qu rfl (qu rfl (qu rfl (qu rfl (qu rfl (qu rfl (qu rfl (qu rfl (qu rfl (qu rfl (qu rfl (qn rfl (qp rfl (AE (by kernel_rfl) ?_))))))))))))))))))))))))
          exact sn [] h
         ·refine qL EP BT rfl ?_
          refine Ca h fun v35 a35 h => Ax [] (B9 N v27 v35 a35) Pa rfl (qm rfl ?_)
          refine CJ 130 h rfl (fun h => ?_) fun h => ?_
          ·refine qf CE rfl (ql GQ rfl (qm rfl ?_))
           refine BP h fun v37 a37 b37 h => qi Dz DE a37 (Ai b37) rfl (qk Hc rfl (qm rfl (GM rfl (BG rfl (qm rfl ?_)))))
           refine CJ 139 h rfl (fun h => ?_) fun h => ?_
           ·refine qw 11 rfl (qp rfl (qp rfl (qp rfl (AE (by kernel_rfl) ?_))))
            exact sn [] h
           ·refine qL B0 AQ rfl (qf Cf rfl (ql Ba rfl ?_))
            refine Ca h fun v39 a39 h => Ax [] (ED N p1 v27.fj v39 a39) T6 rfl (qf CE rfl (ql GQ rfl (qm rfl ?_)))
            refine BP h fun v40 a40 b40 h => qi Dz DE a40 (Ai b40) rfl (qk Hc rfl (GM rfl (BG rfl (qp rfl (qp rfl (qp rfl (AE (by kernel_rfl) ?_)))))))
            exact sn [] h
          ·refine qw 9 rfl (qu rfl (qu rfl (qu rfl (qu rfl (qu rfl (qu rfl (qu rfl (qu rfl (qu rfl (qu rfl (qu rfl (qn rfl (qp rfl (qp rfl (AE (by kernel_rfl) ?_)))))))))))))))
           exact sn [] h
        ·refine qw 6 rfl (qp rfl (qm rfl (qL EP BT rfl ?_)))
         refine Ca h fun v41 a41 h => Ax [] (B9 N v27 v41 a41) Pa rfl (qm rfl ?_)
         refine CJ 130 h rfl (fun h => ?_) fun h => ?_
         ·refine qf CE rfl (ql GQ rfl (qm rfl ?_))
          refine BP h fun v43 a43 b43 h => qi Dz DE a43 (Ai b43) rfl (qk Hc rfl (qm rfl (GM rfl (BG rfl (qm rfl ?_)))))
          refine CJ 139 h rfl (fun h => ?_) fun h => ?_
          ·refine qw 11 rfl (qp rfl (qp rfl (qp rfl (AE (by kernel_rfl) ?_))))
           exact sn [] h
          ·refine qL B0 AQ rfl (qf Cf rfl (ql Ba rfl ?_))
           refine Ca h fun v45 a45 h => Ax [] (ED N p1 v27.fj v45 a45) T6 rfl (qf CE rfl (ql GQ rfl (qm rfl ?_)))
           refine BP h fun v46 a46 b46 h => qi Dz DE a46 (Ai b46) rfl (qk Hc rfl (GM rfl (BG rfl (qp rfl (qp rfl (qp rfl (AE (by kernel_rfl) ?_)))))))
           exact sn [] h
         ·refine qw 9 rfl (qu rfl (qu rfl (qu rfl (qu rfl (qu rfl (qu rfl (qu rfl (qu rfl (qu rfl (qu rfl (qu rfl (qn rfl (qp rfl (qp rfl (AE (by kernel_rfl) ?_)))))))))))))))
          exact sn [] h
       ·refine Bj h (fun h => ?_) fun h => ?_
        ·refine wq rfl (qe rfl ?_)
         obtain rfl := sj h
         refine Af (sm [] [(4, iD 1)] [] rfl rfl) (Ar ?_)
         exact ⟨⟨[_], tm, rfl⟩, tv⟩
        ·refine Ap (Ak Ay rfl (qm rfl (Cq rfl (qe rfl ?_))))
         exact sn [] h
      ·refine BV ?_
       exact sn [] h
     ·refine Af hs (wq rfl (qe rfl ?_))
      obtain rfl := sj h
      refine Af (sm [] [(4, iD 0)] [] rfl rfl) (Ar ?_)
      exact ⟨⟨[_], tm, rfl⟩, tv⟩
theorem I0 (N : Nat) (p0 : Am) (r : Bool) (h : Dg N p0 = some r) : Aq uS 156 [.e (.agg (B1 p0))] [] (bD r) := by
 unfold Dg at h
 refine cw (n := 31) (rs := [.tmp 2]) Tryz.func156 fun w0 S0 => ?_
 refine wq rfl (qb rfl (qe rfl ?_))
 refine AK h (fun v1 => mk [(2, bD v1)] []) (fun j1 h => ?_) (fun v1 h => ?_)
 ·refine Ak Ay rfl (qf Dl rfl (ql Ba rfl (Dx rfl (qm rfl ?_))))
  refine CJ 6 h rfl (fun h => ?_) fun h => ?_
  ·refine qf Dl rfl (ql Ba rfl (ME rfl (qp rfl (qm rfl ?_))))
   refine CJ 11 h rfl (fun h => ?_) fun h => ?_
   ·refine qf Dy rfl (ql Ba rfl (Dx rfl (qp rfl (qm rfl ?_))))
    refine CJ 16 h rfl (fun h => ?_) fun h => ?_
    ·refine qf Fd rfl (ql Ba rfl (Dx rfl (qp rfl (qm rfl ?_))))
     refine CJ 21 h rfl (fun h => ?_) fun h => ?_
     ·refine qf Dl rfl (ql Ba rfl (AN rfl (qm rfl ?_)))
      refine CJ 25 h rfl (fun h => ?_) fun h => ?_
      ·refine qw 3 rfl (qp rfl (qp rfl (qe rfl ?_)))
       exact sn [] h
      ·refine qf Fd rfl (ql Ba rfl (AN rfl (qp rfl (qp rfl (qe rfl ?_)))))
       exact sn [] h
     ·refine qw 4 rfl (qu rfl (qu rfl (qu rfl (qn rfl (qp rfl (qe rfl ?_))))))
      exact sn [] h
    ·refine qw 3 rfl (qp rfl (qw 5 rfl (qu rfl (qu rfl (qu rfl (qn rfl (qp rfl (qe rfl ?_))))))))
     exact sn [] h
   ·refine qw 3 rfl (qp rfl (qw 4 rfl (qp rfl (qw 5 rfl (qu rfl (qu rfl (qu rfl (qn rfl (qp rfl (qe rfl ?_))))))))))
    exact sn [] h
  ·refine qw 3 rfl (qp rfl (qw 4 rfl (qp rfl (qw 4 rfl (qp rfl (qw 5 rfl (qu rfl (qu rfl (qu rfl (qn rfl (qp rfl (qe rfl ?_))))))))))))
   exact sn [] h
 ·obtain rfl := sj h
  refine Af (sm [] [(2, bD v1)] [] rfl rfl) (Ar ?_)
  exact ⟨⟨[_], tm, rfl⟩, tv⟩
theorem G8 (N : Nat) (p0 : Int) (p1 : Int) (r : Bool) (h : CZ N p0 p1 = some r) : Aq uS 79 [pD (.val (.int .u8 p0)), iD p1] [] (bD r) := by
 unfold CZ at h
 refine cw (n := 10) (rs := [.tmp 4]) Tryz.func79 fun w0 S0 => ?_
 refine wq rfl (qa rfl (Ac (wq rfl (qw 2 rfl ?_))))
 refine Hj h fun c1 h => Kt rfl c1 (MU rfl (AN rfl (qe rfl ?_)))
 obtain rfl := sj h
 refine Af (sm [] [(4, bD (((Fi .u8 ((Fp .u8 p0 p1)) 1) == 1)))] [] rfl rfl) (Ar ?_)
 exact ⟨⟨[_], tm, rfl⟩, tv⟩
theorem IX (N : Nat) (p0 : Aa) (p1 : Ad) (p2 : Am) (r : Ad × Bool) (h : Cw N p0 p1 p2 = some r) : Aq uS 76 [.e (.agg (Al p0)), .e (.agg (Be p1)), .e (.agg (B1 p2))] [(1, r.1.fh.map As), (1, r.1.fe.map As), (1, r.1.ff.map Dw)] (.tup [.agg [.own 0, .own 1, .own 2], .one (.pure (.val (.bool r.2)))]) := by
 unfold Cw at h
 refine cw (n := 201) (rs := [.cell 6 40, .tmp 7]) Tryz.func76 fun w0 S0 => ?_
 refine wq rfl (qb rfl (qb rfl (qb rfl (qz C7 rfl (qa rfl (Ac (wq rfl (Ft AB CK NY rfl (qf CV rfl (ql Bc rfl ?_))))))))))
 refine Hj h fun c1 h => Kd (f := As) AB AB CK QN NY (fun _ => rfl) c1 rfl (Ft AB CK NY rfl (qf BO rfl (ql Bc rfl ?_)))
 refine Hj h fun c2 h => Kd (f := As) AB AB CK QN NY (fun _ => rfl) c2 rfl (Ft Dz DE LS rfl (qf CE rfl (ql GQ rfl ?_)))
 refine Hj h fun c3 h => Kd (f := Dw) Dz Dz DE Nr LS (fun _ => rfl) c3 rfl (Bt C7 Gt rfl (qz C7 rfl (qs AQ rfl (AE (by kernel_rfl) (wq rfl (qf Dy rfl (ql Ba rfl (qe rfl ?_))))))))
 refine AK h (fun v4 => mk [(6, oD (.ptr 6 0)), (8, oD (.ptr 8 0))] [(6, .box [.pure (.nil0), .pure (.nil0), .pure (.nil0)]), (8, .box [.own 2001, .own 2002, .own 2003]), (2001, .vec 1 (v4.1.map As)), (2002, .vec 1 (v4.2.1.map As)), (2003, .vec 1 (v4.2.2.map Dw))]) (fun j4 h => ?_) (fun v4 h => ?_)
 ·refine wq rfl (qf Dl rfl (ql Ba rfl (Ac (AP (wq rfl (AN rfl (qe rfl ?_)))))))
  refine Bj h (fun h => ?_) fun h => ?_
  ·refine AO ?_
   refine AK h (fun v6 => mk [(3, oD (.ptr 3 0)), (5, oD (.ptr 5 0)), (6, oD (.ptr 6 0)), (8, oD (.ptr 8 0)), (9, iD p2.fm), (60, bD v6)] [(3, .box (Al p0)), (5, .box (B1 p2)), (6, .box [.pure (.nil0), .pure (.nil0), .pure (.nil0)]), (8, .box [.own 2004, .own 2005, .own 2006]), (2004, .vec 1 (((([] : List Int)) ++ p1.fh).map As)), (2005, .vec 1 (((([] : List Int)) ++ p1.fe).map As)), (2006, .vec 1 (((([] : List Int)) ++ p1.ff).map Dw))]) (fun j6 h => ?_) (fun v6 h => ?_)
   ·refine Ak Ay rfl (qf BO rfl (ql Bc rfl (qm rfl ?_)))
    refine BP h fun v7 a7 b7 h => qi AB CK a7 (Ai b7) rfl (qk Ba rfl (Dx rfl (qm rfl ?_)))
    refine CJ 51 h rfl (fun h => ?_) fun h => ?_
    ·refine qw 8 rfl (qp rfl (AE (by kernel_rfl) ?_))
     exact sn [(2004, 18), (2005, 22), (2006, 26)] h
    ·refine qf Fd rfl (ql Ba rfl (qf CV rfl (ql Bc rfl (qm rfl ?_))))
     refine BP h fun v9 a9 b9 h => qi AB CK a9 (Ai b9) rfl (qk Ba rfl (AN rfl (qp rfl (AE (by kernel_rfl) ?_))))
     exact sn [(2004, 18), (2005, 22), (2006, 26)] h
   ·refine Bj h (fun h => ?_) fun h => ?_
    ·refine wq rfl (Bt C7 Gt rfl (qs AQ rfl (qe rfl ?_)))
     obtain rfl := sj h
     refine Af ((Av 6 0 2007 1 _ rfl rfl rfl rfl).trans ((Av 6 1 2008 1 _ rfl rfl rfl rfl).trans ((Av 6 2 2009 1 _ rfl rfl rfl rfl).trans (sm [(1000, 2007), (1001, 2008), (1002, 2009)] [(6, oD (.ptr 6 0)), (7, bD false)] [(6, .box [.own 1000, .own 1001, .own 1002]), (1000, .vec 1 ((([] : List Int)).map As)), (1001, .vec 1 ((([] : List Int)).map As)), (1002, .vec 1 ((([] : List Int)).map Dw))] rfl rfl)))) (Ar ?_)
     exact ⟨⟨[_, _], ⟨.cellN _ _ _ _ _ _ _ rfl rfl B0 AQ rfl rfl (H7 rfl), tm⟩, rfl⟩, ⟨rfl, rfl, rfl, tv⟩⟩
    ·refine Ap (wq rfl (qf BO rfl (ql Bc rfl (qm rfl (qf Fd rfl (ql Ba rfl ?_))))))
     refine BP h fun v11 a11 b11 h => qI AB CK a11 (Ai b11) rfl ?_
     refine Ep rfl rfl rfl rfl (Ai b11) rfl CK rfl (GC rfl) (Em As ((([] : List Int)) ++ p1.fe) _ p2.fq) ?_
     refine Ac (wq rfl (qe rfl ?_))
     refine A5 (L := Bm N p0 p2) h (fun v12 => mk [(3, oD (.ptr 3 0)), (5, oD (.ptr 5 0)), (6, oD (.ptr 6 0)), (8, oD (.ptr 8 0)), (9, iD p2.fm), (10, iD v12.2)] [(3, .box (Al p0)), (5, .box (B1 p2)), (6, .box [.pure (.nil0), .pure (.nil0), .pure (.nil0)]), (8, .box [.own 2010, .own 2011, .own 2012]), (2010, .vec 1 (((([] : List Int)) ++ p1.fh).map As)), (2011, .vec 1 ((((([] : List Int)) ++ p1.fe).set ((p2.fm).toNat) p2.fq).map As)), (2012, .vec 1 (v12.1.map Dw))]) (fun v13 => mk [(6, oD (.ptr 6 0)), (8, oD (.ptr 8 0))] [(6, .box [.pure (.nil0), .pure (.nil0), .pure (.nil0)]), (8, .box [.own 2013, .own 2014, .own 2015]), (2013, .vec 1 (((([] : List Int)) ++ p1.fh).map As)), (2014, .vec 1 ((((([] : List Int)) ++ p1.fe).set ((p2.fm).toNat) p2.fq).map As)), (2015, .vec 1 (v13.map Dw))]) (fun _ _ => rfl) (sm [(2010, 2004), (2011, 2005), (2012, 2006)] _ _ rfl rfl) (fun j12 n12 v12 h => ?_) (fun v13 s h hs => ?_)
     ·unfold Bm at h
      refine wp rfl (qm rfl (qf BF rfl (ql EU rfl (AH CP rfl (A4 rfl (Ac ?_))))))
      refine Bj h (fun h => ?_) fun h => ?_
      ·refine Ap ?_
       refine AK h (fun v15 => mk [(3, oD (.ptr 3 0)), (5, oD (.ptr 5 0)), (6, oD (.ptr 6 0)), (8, oD (.ptr 8 0)), (9, iD p2.fm), (10, iD v12.2)] [(3, .box (Al p0)), (5, .box (B1 p2)), (6, .box [.pure (.nil0), .pure (.nil0), .pure (.nil0)]), (8, .box [.own 2016, .own 2017, .own 2018]), (2016, .vec 1 (((([] : List Int)) ++ p1.fh).map As)), (2017, .vec 1 ((((([] : List Int)) ++ p1.fe).set ((p2.fm).toNat) p2.fq).map As)), (2018, .vec 1 (v15.map Dw))]) (fun j15 h => ?_) (fun v15 h => ?_)
       ·refine AP ?_
        refine AK h (fun v16 => mk [(3, oD (.ptr 3 0)), (5, oD (.ptr 5 0)), (6, oD (.ptr 6 0)), (8, oD (.ptr 8 0)), (9, iD p2.fm), (10, iD v12.2), (90, bD v16)] [(3, .box (Al p0)), (5, .box (B1 p2)), (6, .box [.pure (.nil0), .pure (.nil0), .pure (.nil0)]), (8, .box [.own 2019, .own 2020, .own 2021]), (2019, .vec 1 (((([] : List Int)) ++ p1.fh).map As)), (2020, .vec 1 ((((([] : List Int)) ++ p1.fe).set ((p2.fm).toNat) p2.fq).map As)), (2021, .vec 1 (v12.1.map Dw))]) (fun j16 h => ?_) (fun v16 h => ?_)
        ·refine Ak Ay rfl (qf BF rfl (ql EU rfl (qm rfl ?_)))
         refine BP h fun v17 a17 b17 h => qi CP BT a17 (Ai b17) rfl (qg Cf rfl (qk Ba rfl (qm rfl (AN rfl (qm rfl ?_)))))
         refine CJ 83 h rfl (fun h => ?_) fun h => ?_
         ·refine qf BF rfl (ql EU rfl (qm rfl ?_))
          refine BP h fun v19 a19 b19 h => qi CP BT a19 (Ai b19) rfl (qK EP BT rfl ?_)
          refine Ca h fun v20 a20 h => Ax [] (B9 N v19 v20 a20) Pa rfl (qp rfl (Ac ?_))
          exact sn [(2019, 2010), (2020, 2011), (2021, 2012)] h
         ·refine qw 6 rfl (qp rfl (Ac ?_))
          exact sn [(2019, 2010), (2020, 2011), (2021, 2012)] h
        ·refine Bj h (fun h => ?_) fun h => ?_
         ·refine Ak Ay rfl (qf CE rfl (ql GQ rfl (qm rfl (qf CE rfl (ql GQ rfl (qm rfl ?_))))))
          refine BP h fun v22 a22 b22 h => qI Dz DE a22 (Ai b22) rfl (qj Hc (Ai b22) rfl (qf Fd rfl (ql Ba rfl ?_)))
          refine Hj h fun c23 h => H0 rfl c23 (Q9 rfl ?_)
          refine BP h fun v24 a24 b24 h => qI Dz DE a24 (Ai b24) rfl ?_
          refine Ep rfl rfl rfl rfl (Ai b24) rfl DE rfl (GC rfl) (Em Dw v12.1 _ ((KL .u8 v22 ((Dk .u8 1 p2.fq))))) ?_
          refine AE (by kernel_rfl) ?_
          exact sn [(2016, 2019), (2017, 2020), (2018, 2021)] h
         ·refine Ap ?_
          exact sn [(2016, 2019), (2017, 2020), (2018, 2021)] h
       ·refine Ak Ay rfl (qm rfl (Cq rfl (qe rfl ?_)))
        exact sn [(2010, 2016), (2011, 2017), (2012, 2018)] h
      ·refine BV ?_
       exact sn [(2013, 2010), (2014, 2011), (2015, 2012)] h
     ·exact WZ _ h (hs.trans (sm [(2001, 2013), (2002, 2014), (2003, 2015)] _ _ rfl rfl))
  ·refine wq rfl (AN rfl (qe rfl ?_))
   refine Bj h (fun h => ?_) fun h => ?_
   ·refine wp rfl (qf BO rfl (ql Bc rfl (qm rfl ?_)))
    refine BP h fun v26 a26 b26 h => qi AB CK a26 (Ai b26) rfl (qk Ba rfl (A4 rfl (Ac ?_)))
    refine Bj h (fun h => ?_) fun h => ?_
    ·refine wq rfl (Bt C7 Gt rfl (qs AQ rfl (qe rfl ?_)))
     obtain rfl := sj h
     refine Af ((Av 6 0 2022 1 _ rfl rfl rfl rfl).trans ((Av 6 1 2023 1 _ rfl rfl rfl rfl).trans ((Av 6 2 2024 1 _ rfl rfl rfl rfl).trans (sm [(1000, 2022), (1001, 2023), (1002, 2024)] [(6, oD (.ptr 6 0)), (7, bD false)] [(6, .box [.own 1000, .own 1001, .own 1002]), (1000, .vec 1 ((([] : List Int)).map As)), (1001, .vec 1 ((([] : List Int)).map As)), (1002, .vec 1 ((([] : List Int)).map Dw))] rfl rfl)))) (Ar ?_)
     exact ⟨⟨[_, _], ⟨.cellN _ _ _ _ _ _ _ rfl rfl B0 AQ rfl rfl (H7 rfl), tm⟩, rfl⟩, ⟨rfl, rfl, rfl, tv⟩⟩
    ·refine Ap (Ak Ay rfl (qf CV rfl (ql Bc rfl (qm rfl (qf BO rfl (ql Bc rfl (qm rfl (qf BO rfl (ql Bc rfl (qm rfl ?_))))))))))
     refine BP h fun v28 a28 b28 h => qi AB CK a28 (Ai b28) rfl (qk Ba rfl ?_)
     refine BP h fun v29 a29 b29 h => qI AB CK a29 (Ai b29) rfl ?_
     refine Ep rfl rfl rfl rfl (Ai b29) rfl CK rfl (GC rfl) (Em As ((([] : List Int)) ++ p1.fh) _ v28) ?_
     refine BP h fun v30 a30 b30 h => qI AB CK a30 (Ai b30) rfl ?_
     refine Ep rfl rfl rfl rfl (Ai b30) rfl CK rfl (GC rfl) (Em As ((([] : List Int)) ++ p1.fe) _ ((-1))) ?_
     refine AE (by kernel_rfl) ?_
     exact sn [(2001, 18), (2002, 22), (2003, 26)] h
   ·refine wq rfl (AN rfl (qe rfl ?_))
    refine Bj h (fun h => ?_) fun h => ?_
    ·refine wq rfl (qf BF rfl (ql EU rfl (qm rfl ?_)))
     refine BP h fun v32 a32 b32 h => qi CP BT a32 (Ai b32) rfl (qK EP BT rfl (qz Jo rfl (qs BT rfl (Ac (wp rfl (qL EP BT rfl ?_))))))
     refine Ca h fun v33 a33 h => Ax [] (B9 N v32 v33 a33) Pa rfl (Cz rfl (Ac ?_))
     refine Bj h (fun h => ?_) fun h => ?_
     ·refine wq rfl (Bt C7 Gt rfl (qs AQ rfl (qe rfl ?_)))
      obtain rfl := sj h
      refine Af ((Av 6 0 2025 1 _ rfl rfl rfl rfl).trans ((Av 6 1 2026 1 _ rfl rfl rfl rfl).trans ((Av 6 2 2027 1 _ rfl rfl rfl rfl).trans (sm [(1000, 2025), (1001, 2026), (1002, 2027)] [(6, oD (.ptr 6 0)), (7, bD false)] [(6, .box [.own 1000, .own 1001, .own 1002]), (1000, .vec 1 ((([] : List Int)).map As)), (1001, .vec 1 ((([] : List Int)).map As)), (1002, .vec 1 ((([] : List Int)).map Dw))] rfl rfl)))) (Ar ?_)
      exact ⟨⟨[_, _], ⟨.cellN _ _ _ _ _ _ _ rfl rfl B0 AQ rfl rfl (H7 rfl), tm⟩, rfl⟩, ⟨rfl, rfl, rfl, tv⟩⟩
     ·refine Ap (wq rfl (qL B0 AQ rfl (qf Cf rfl (ql Ba rfl ?_))))
      refine Ca h fun v35 a35 h => Ax [] (ED N p1 v32.fj v35 a35) T6 rfl (qa rfl (Ac (wp rfl (qf CE rfl (ql GQ rfl (qm rfl ?_))))))
      refine BP h fun v36 a36 b36 h => qi Dz DE a36 (Ai b36) rfl (qk Hc rfl (qm rfl (AN rfl (Ac ?_))))
      refine Bj h (fun h => ?_) fun h => ?_
      ·refine wq rfl (Bt C7 Gt rfl (qs AQ rfl (qe rfl ?_)))
       obtain rfl := sj h
       refine Af ((Av 6 0 2028 1 _ rfl rfl rfl rfl).trans ((Av 6 1 2029 1 _ rfl rfl rfl rfl).trans ((Av 6 2 2030 1 _ rfl rfl rfl rfl).trans (sm [(1000, 2028), (1001, 2029), (1002, 2030)] [(6, oD (.ptr 6 0)), (7, bD false)] [(6, .box [.own 1000, .own 1001, .own 1002]), (1000, .vec 1 ((([] : List Int)).map As)), (1001, .vec 1 ((([] : List Int)).map As)), (1002, .vec 1 ((([] : List Int)).map Dw))] rfl rfl)))) (Ar ?_)
       exact ⟨⟨[_, _], ⟨.cellN _ _ _ _ _ _ _ rfl rfl B0 AQ rfl rfl (H7 rfl), tm⟩, rfl⟩, ⟨rfl, rfl, rfl, tv⟩⟩
      ·refine Ap (wp rfl (qe rfl ?_))
       refine A5 (L := Bb N p0 p1 p2 v32 v35) h (fun v38 => mk [(3, oD (.ptr 3 0)), (4, oD (.ptr 4 0)), (6, oD (.ptr 6 0)), (8, oD (.ptr 8 0)), (9, iD p2.fm), (11, oD (.ptr 11 0)), (12, pD (.val (.int .u8 v35))), (13, iD v38)] [(3, .box (Al p0)), (4, .box (Be p1)), (6, .box [.pure (.nil0), .pure (.nil0), .pure (.nil0)]), (8, .box [.own 2031, .own 2032, .own 2033]), (11, .box (Cy v32)), (2031, .vec 1 (((([] : List Int)) ++ p1.fh).map As)), (2032, .vec 1 (((([] : List Int)) ++ p1.fe).map As)), (2033, .vec 1 (((([] : List Int)) ++ p1.ff).map Dw))]) (fun v39 => mk [(6, oD (.ptr 6 0)), (8, oD (.ptr 8 0)), (9, iD p2.fm), (12, pD (.val (.int .u8 v35)))] [(6, .box [.pure (.nil0), .pure (.nil0), .pure (.nil0)]), (8, .box [.own 2034, .own 2035, .own 2036]), (2034, .vec 1 (((([] : List Int)) ++ p1.fh).map As)), (2035, .vec 1 (((([] : List Int)) ++ p1.fe).map As)), (2036, .vec 1 (((([] : List Int)) ++ p1.ff).map Dw))]) (fun _ _ => rfl) (sm [(2031, 18), (2032, 22), (2033, 26)] _ _ rfl rfl) (fun j38 n38 v38 h => ?_) (fun v39 s h hs => ?_)
       ·unfold Bb at h
        refine wp rfl (qm rfl (qf BB rfl (ql Bc rfl (qf Cf rfl (ql Ba rfl ?_)))))
        refine BP h fun v40 a40 b40 h => qi AB CK a40 (Ai b40) rfl (qk Ba rfl (A4 rfl (Ac ?_)))
        refine Bj h (fun h => ?_) fun h => ?_
        ·refine Ap (AO (AP ?_))
         refine AK h (fun v42 => mk [(3, oD (.ptr 3 0)), (4, oD (.ptr 4 0)), (6, oD (.ptr 6 0)), (8, oD (.ptr 8 0)), (9, iD p2.fm), (11, oD (.ptr 11 0)), (12, pD (.val (.int .u8 v35))), (13, iD v38), (14, bD v42)] [(3, .box (Al p0)), (4, .box (Be p1)), (6, .box [.pure (.nil0), .pure (.nil0), .pure (.nil0)]), (8, .box [.own 2037, .own 2038, .own 2039]), (11, .box (Cy v32)), (2037, .vec 1 (((([] : List Int)) ++ p1.fh).map As)), (2038, .vec 1 (((([] : List Int)) ++ p1.fe).map As)), (2039, .vec 1 (((([] : List Int)) ++ p1.ff).map Dw))]) (fun j42 h => ?_) (fun v42 h => ?_)
         ·refine Ak Ay rfl (qf CE rfl (ql GQ rfl (qm rfl ?_)))
          refine BP h fun v43 a43 b43 h => qi Dz DE a43 (Ai b43) rfl (qk Hc rfl (qm rfl ?_))
          refine Ca h fun v44 a44 h => Ax [] (G8 N v43 v38 v44 a44) VS rfl (qm rfl ?_)
          refine CJ 166 h rfl (fun h => ?_) fun h => ?_
          ·refine qw 2 rfl ?_
           refine Ca h fun v46 a46 h => Ax [] (G8 N v35 v38 v46 a46) VS rfl (Cz rfl (qp rfl (qe rfl ?_)))
           exact sn [(2037, 2031), (2038, 2032), (2039, 2033)] h
          ·refine qw 4 rfl (qp rfl (qe rfl ?_))
           exact sn [(2037, 2031), (2038, 2032), (2039, 2033)] h
         ·refine AK h (fun v47 => mk [(3, oD (.ptr 3 0)), (4, oD (.ptr 4 0)), (6, oD (.ptr 6 0)), (8, oD (.ptr 8 0)), (9, iD p2.fm), (11, oD (.ptr 11 0)), (12, pD (.val (.int .u8 v35))), (13, iD v38), (193, bD v47)] [(3, .box (Al p0)), (4, .box (Be p1)), (6, .box [.pure (.nil0), .pure (.nil0), .pure (.nil0)]), (8, .box [.own 2040, .own 2041, .own 2042]), (11, .box (Cy v32)), (2040, .vec 1 (((([] : List Int)) ++ p1.fh).map As)), (2041, .vec 1 (((([] : List Int)) ++ p1.fe).map As)), (2042, .vec 1 (((([] : List Int)) ++ p1.ff).map Dw))]) (fun j47 h => ?_) (fun v47 h => ?_)
          ·refine Ak Ay rfl (qw 2 rfl ?_)
           refine CJ 173 h rfl (fun h => ?_) fun h => ?_
           ·refine qf DH rfl (ql Ba rfl (AN rfl (qp rfl (qm rfl ?_))))
            refine CJ 178 h rfl (fun h => ?_) fun h => ?_
            ·refine qf DT rfl (ql E5 rfl (qm rfl ?_))
             refine BP h fun v50 a50 b50 h => qi DM JA a50 (Ai b50) rfl (qk JT rfl (qf CV rfl (ql Bc rfl (qf Cf rfl (ql Ba rfl ?_)))))
             refine BP h fun v51 a51 b51 h => qi AB CK a51 (Ai b51) rfl (qk Ba rfl ?_)
             refine BP h fun v52 a52 b52 h => qi HF UQ a52 (Ai b52) rfl (qk TV rfl (Cz rfl (qp rfl (AE (by kernel_rfl) ?_))))
             exact sn [(2040, 2037), (2041, 2038), (2042, 2039)] h
            ·refine qw 14 rfl (qp rfl (AE (by kernel_rfl) ?_))
             exact sn [(2040, 2037), (2041, 2038), (2042, 2039)] h
           ·refine qw 3 rfl (qp rfl (qw 15 rfl (qp rfl (AE (by kernel_rfl) ?_))))
            exact sn [(2040, 2037), (2041, 2038), (2042, 2039)] h
          ·refine Bj h (fun h => ?_) fun h => ?_
           ·refine wq rfl (Bt C7 Gt rfl (qs AQ rfl (qe rfl ?_)))
            obtain rfl := sj h
            refine Af ((Av 6 0 2043 1 _ rfl rfl rfl rfl).trans ((Av 6 1 2044 1 _ rfl rfl rfl rfl).trans ((Av 6 2 2045 1 _ rfl rfl rfl rfl).trans (sm [(1000, 2043), (1001, 2044), (1002, 2045)] [(6, oD (.ptr 6 0)), (7, bD false)] [(6, .box [.own 1000, .own 1001, .own 1002]), (1000, .vec 1 ((([] : List Int)).map As)), (1001, .vec 1 ((([] : List Int)).map As)), (1002, .vec 1 ((([] : List Int)).map Dw))] rfl rfl)))) (Ar ?_)
            exact ⟨⟨[_, _], ⟨.cellN _ _ _ _ _ _ _ rfl rfl B0 AQ rfl rfl (H7 rfl), tm⟩, rfl⟩, ⟨rfl, rfl, rfl, tv⟩⟩
           ·refine Ap (Ak Ay rfl (qm rfl (Cq rfl (qe rfl ?_))))
            exact sn [(2031, 2040), (2032, 2041), (2033, 2042)] h
        ·refine BV ?_
         exact sn [(2034, 2031), (2035, 2032), (2036, 2033)] h
       ·refine Af hs (Ak Ay rfl (qf CE rfl (ql GQ rfl (qw 2 rfl ?_))))
        refine BP h fun v54 a54 b54 h => qI Dz DE a54 (Ai b54) rfl ?_
        refine Ep rfl rfl rfl rfl (Ai b54) rfl DE rfl (GC rfl) (Em Dw ((([] : List Int)) ++ p1.ff) _ v35) ?_
        refine Ac ?_
        exact sn [(2001, 2034), (2002, 2035), (2003, 2036)] h
    ·refine wp rfl (qf BO rfl (ql Bc rfl (qm rfl ?_)))
     refine BP h fun v55 a55 b55 h => qi AB CK a55 (Ai b55) rfl (qk Ba rfl (A4 rfl (Ac ?_)))
     refine Bj h (fun h => ?_) fun h => ?_
     ·refine wq rfl (Bt C7 Gt rfl (qs AQ rfl (qe rfl ?_)))
      obtain rfl := sj h
      refine Af ((Av 6 0 2046 1 _ rfl rfl rfl rfl).trans ((Av 6 1 2047 1 _ rfl rfl rfl rfl).trans ((Av 6 2 2048 1 _ rfl rfl rfl rfl).trans (sm [(1000, 2046), (1001, 2047), (1002, 2048)] [(6, oD (.ptr 6 0)), (7, bD false)] [(6, .box [.own 1000, .own 1001, .own 1002]), (1000, .vec 1 ((([] : List Int)).map As)), (1001, .vec 1 ((([] : List Int)).map As)), (1002, .vec 1 ((([] : List Int)).map Dw))] rfl rfl)))) (Ar ?_)
      exact ⟨⟨[_, _], ⟨.cellN _ _ _ _ _ _ _ rfl rfl B0 AQ rfl rfl (H7 rfl), tm⟩, rfl⟩, ⟨rfl, rfl, rfl, tv⟩⟩
     ·refine Ap (Ak Ay rfl (qf BO rfl (ql Bc rfl (qm rfl ?_))))
      refine BP h fun v57 a57 b57 h => qI AB CK a57 (Ai b57) rfl ?_
      refine Ep rfl rfl rfl rfl (Ai b57) rfl CK rfl (GC rfl) (Em As ((([] : List Int)) ++ p1.fe) _ ((-1))) ?_
      refine Ac ?_
      exact sn [(2001, 18), (2002, 22), (2003, 26)] h
 ·refine wq rfl (qL B0 AQ rfl (qs AQ rfl (qe rfl ?_)))
  obtain rfl := sj h
  refine Af (sm [(1000, 2001), (1001, 2002), (1002, 2003)] [(6, oD (.ptr 6 0)), (7, bD true)] [(6, .box [.own 1000, .own 1001, .own 1002]), (1000, .vec 1 (v4.1.map As)), (1001, .vec 1 (v4.2.1.map As)), (1002, .vec 1 (v4.2.2.map Dw))] rfl rfl) (Ar ?_)
  exact ⟨⟨[_, _], ⟨.cellN _ _ _ _ _ _ _ rfl rfl B0 AQ rfl rfl (H7 rfl), tm⟩, rfl⟩, ⟨rfl, rfl, rfl, tv⟩⟩
theorem IP (N : Nat) (p0 : Aa) (p1 : Ad) (p2 : Am) (r : Ad × Int) (h : Dh N p0 p1 p2 = some r) : Aq uS 118 [.e (.agg (Al p0)), .e (.agg (Be p1)), .e (.agg (B1 p2))] [(1, r.1.fh.map As), (1, r.1.fe.map As), (1, r.1.ff.map Dw)] (.tup [.agg [.own 0, .own 1, .own 2], .one (iC r.2)]) := by
 unfold Dh at h
 refine cw (n := 73) (rs := [.cell 6 40, .tmp 7]) Tryz.func118 fun w0 S0 => ?_
 refine wq rfl (qb rfl (qb rfl (qb rfl (qz C7 rfl (qa rfl (Ac (wp rfl (qL DS DN rfl (qL B0 AQ rfl ?_)))))))))
 refine Ca h fun v1 a1 h => Ax [] (Gk N p0 p1 v1 a1) VF rfl (qa rfl (Ac (wq rfl (qm rfl (BG rfl (Ac ?_))))))
 refine Bj h (fun h => ?_) fun h => ?_
 ·refine wq rfl (Bt C7 Gt rfl (qm rfl (qs AQ rfl (qe rfl ?_))))
  obtain rfl := sj h
  refine Af ((Av 6 0 2001 1 _ rfl rfl rfl rfl).trans ((Av 6 1 2002 1 _ rfl rfl rfl rfl).trans ((Av 6 2 2003 1 _ rfl rfl rfl rfl).trans (sm [(1000, 2001), (1001, 2002), (1002, 2003)] [(6, oD (.ptr 6 0)), (7, iD v1)] [(6, .box [.own 1000, .own 1001, .own 1002]), (1000, .vec 1 ((([] : List Int)).map As)), (1001, .vec 1 ((([] : List Int)).map As)), (1002, .vec 1 ((([] : List Int)).map Dw))] rfl rfl)))) (Ar ?_)
  exact ⟨⟨[_, _], ⟨.cellN _ _ _ _ _ _ _ rfl rfl B0 AQ rfl rfl (H7 rfl), tm⟩, rfl⟩, ⟨rfl, rfl, rfl, tv⟩⟩
 ·refine Ap (wp rfl (qL Jh Gs rfl ?_))
  refine Ca h fun v3 a3 h => Ax [] (I0 N p2 v3 a3) UV rfl (Cz rfl (Ac ?_))
  refine Bj h (fun h => ?_) fun h => ?_
  ·refine wq rfl (Bt C7 Gt rfl (qs AQ rfl (qe rfl ?_)))
   obtain rfl := sj h
   refine Af ((Av 6 0 2004 1 _ rfl rfl rfl rfl).trans ((Av 6 1 2005 1 _ rfl rfl rfl rfl).trans ((Av 6 2 2006 1 _ rfl rfl rfl rfl).trans (sm [(1000, 2004), (1001, 2005), (1002, 2006)] [(6, oD (.ptr 6 0)), (7, iD 1)] [(6, .box [.own 1000, .own 1001, .own 1002]), (1000, .vec 1 ((([] : List Int)).map As)), (1001, .vec 1 ((([] : List Int)).map As)), (1002, .vec 1 ((([] : List Int)).map Dw))] rfl rfl)))) (Ar ?_)
   exact ⟨⟨[_, _], ⟨.cellN _ _ _ _ _ _ _ rfl rfl B0 AQ rfl rfl (H7 rfl), tm⟩, rfl⟩, ⟨rfl, rfl, rfl, tv⟩⟩
  ·refine Ap (AO ?_)
   refine AK h (fun v5 => mk [(3, oD (.ptr 3 0)), (4, oD (.ptr 4 0)), (5, oD (.ptr 5 0)), (6, oD (.ptr 6 0)), (45, bD v5)] [(3, .box (Al p0)), (4, .box (Be p1)), (5, .box (B1 p2)), (6, .box [.pure (.nil0), .pure (.nil0), .pure (.nil0)])]) (fun j5 h => ?_) (fun v5 h => ?_)
   ·refine Ak Ay rfl (qf Dl rfl (ql Ba rfl (AN rfl (qm rfl ?_))))
    refine CJ 25 h rfl (fun h => ?_) fun h => ?_
    ·refine qf Dy rfl (ql Ba rfl (qf BF rfl (ql EU rfl (AH CP rfl (Dx rfl (qp rfl (qm rfl ?_)))))))
     refine CJ 33 h rfl (fun h => ?_) fun h => ?_
     ·refine qw 4 rfl (qu rfl (qu rfl (qu rfl (qu rfl (qu rfl (qu rfl (qn rfl (qp rfl (Ac ?_)))))))))
      exact sn [] h
     ·refine qf Dl rfl (ql Ba rfl (BG rfl (qm rfl ?_)))
      refine CJ 37 h rfl (fun h => ?_) fun h => ?_
      ·refine qf Dy rfl (ql Ba rfl (qf BB rfl (ql Bc rfl (AH AB rfl (Dx rfl (qp rfl (qp rfl (Ac ?_))))))))
       exact sn [] h
      ·refine qw 6 rfl (qp rfl (qp rfl (Ac ?_)))
       exact sn [] h
    ·refine qw 6 rfl (qp rfl (qm rfl (qf Dl rfl (ql Ba rfl (BG rfl (qm rfl ?_))))))
     refine CJ 37 h rfl (fun h => ?_) fun h => ?_
     ·refine qf Dy rfl (ql Ba rfl (qf BB rfl (ql Bc rfl (AH AB rfl (Dx rfl (qp rfl (qp rfl (Ac ?_))))))))
      exact sn [] h
     ·refine qw 6 rfl (qp rfl (qp rfl (Ac ?_)))
      exact sn [] h
   ·refine Bj h (fun h => ?_) fun h => ?_
    ·refine wq rfl (Bt C7 Gt rfl (qs AQ rfl (qe rfl ?_)))
     obtain rfl := sj h
     refine Af ((Av 6 0 2007 1 _ rfl rfl rfl rfl).trans ((Av 6 1 2008 1 _ rfl rfl rfl rfl).trans ((Av 6 2 2009 1 _ rfl rfl rfl rfl).trans (sm [(1000, 2007), (1001, 2008), (1002, 2009)] [(6, oD (.ptr 6 0)), (7, iD 4)] [(6, .box [.own 1000, .own 1001, .own 1002]), (1000, .vec 1 ((([] : List Int)).map As)), (1001, .vec 1 ((([] : List Int)).map As)), (1002, .vec 1 ((([] : List Int)).map Dw))] rfl rfl)))) (Ar ?_)
     exact ⟨⟨[_, _], ⟨.cellN _ _ _ _ _ _ _ rfl rfl B0 AQ rfl rfl (H7 rfl), tm⟩, rfl⟩, ⟨rfl, rfl, rfl, tv⟩⟩
    ·refine Ap (AO ?_)
     refine AK h (fun v11 => mk [(3, oD (.ptr 3 0)), (4, oD (.ptr 4 0)), (5, oD (.ptr 5 0)), (6, oD (.ptr 6 0)), (60, bD v11)] [(3, .box (Al p0)), (4, .box (Be p1)), (5, .box (B1 p2)), (6, .box [.pure (.nil0), .pure (.nil0), .pure (.nil0)])]) (fun j11 h => ?_) (fun v11 h => ?_)
     ·refine Ak Ay rfl (qf Dl rfl (ql Ba rfl (AN rfl (qm rfl ?_))))
      refine CJ 50 h rfl (fun h => ?_) fun h => ?_
      ·refine qf Fd rfl (ql Ba rfl (qf BB rfl (ql Bc rfl (qf Dy rfl (ql Ba rfl ?_)))))
       refine BP h fun v13 a13 b13 h => qi AB CK a13 (Ai b13) rfl (qk Ba rfl (Dx rfl (qp rfl (AE (by kernel_rfl) ?_))))
       exact sn [] h
      ·refine qw 9 rfl (qp rfl (AE (by kernel_rfl) ?_))
       exact sn [] h
     ·refine Bj h (fun h => ?_) fun h => ?_
      ·refine wq rfl (Bt C7 Gt rfl (qs AQ rfl (qe rfl ?_)))
       obtain rfl := sj h
       refine Af ((Av 6 0 2010 1 _ rfl rfl rfl rfl).trans ((Av 6 1 2011 1 _ rfl rfl rfl rfl).trans ((Av 6 2 2012 1 _ rfl rfl rfl rfl).trans (sm [(1000, 2010), (1001, 2011), (1002, 2012)] [(6, oD (.ptr 6 0)), (7, iD 4)] [(6, .box [.own 1000, .own 1001, .own 1002]), (1000, .vec 1 ((([] : List Int)).map As)), (1001, .vec 1 ((([] : List Int)).map As)), (1002, .vec 1 ((([] : List Int)).map Dw))] rfl rfl)))) (Ar ?_)
       exact ⟨⟨[_, _], ⟨.cellN _ _ _ _ _ _ _ rfl rfl B0 AQ rfl rfl (H7 rfl), tm⟩, rfl⟩, ⟨rfl, rfl, rfl, tv⟩⟩
      ·refine Ap (wq rfl (qL DS DN rfl (qL B0 AQ rfl (qL Jh Gs rfl ?_))))
       refine Ca h fun v15 a15 h => Ax [2013, 2014, 2015] (IX N p0 p1 p2 v15 a15) WY rfl (qm rfl (qx rfl (qx rfl (qz C7 rfl (qs AQ rfl (qa rfl (Ac (wp rfl (qm rfl (Cz rfl (Ac ?_)))))))))))
       refine Bj h (fun h => ?_) fun h => ?_
       ·refine wq rfl (Bt C7 Gt rfl (qs AQ rfl (qe rfl ?_)))
        obtain rfl := sj h
        refine Af ((Av 6 0 2016 1 _ rfl rfl rfl rfl).trans ((Av 6 1 2017 1 _ rfl rfl rfl rfl).trans ((Av 6 2 2018 1 _ rfl rfl rfl rfl).trans (sm [(1000, 2016), (1001, 2017), (1002, 2018)] [(6, oD (.ptr 6 0)), (7, iD 11)] [(6, .box [.own 1000, .own 1001, .own 1002]), (1000, .vec 1 ((([] : List Int)).map As)), (1001, .vec 1 ((([] : List Int)).map As)), (1002, .vec 1 ((([] : List Int)).map Dw))] rfl rfl)))) (Ar ?_)
        exact ⟨⟨[_, _], ⟨.cellN _ _ _ _ _ _ _ rfl rfl B0 AQ rfl rfl (H7 rfl), tm⟩, rfl⟩, ⟨rfl, rfl, rfl, tv⟩⟩
       ·refine Ap (wq rfl (qL B0 AQ rfl (qs AQ rfl (qe rfl ?_))))
        obtain rfl := sj h
        refine Af (sm [(1000, 2013), (1001, 2014), (1002, 2015)] [(6, oD (.ptr 6 0)), (7, iD 0)] [(6, .box [.own 1000, .own 1001, .own 1002]), (1000, .vec 1 (v15.1.fh.map As)), (1001, .vec 1 (v15.1.fe.map As)), (1002, .vec 1 (v15.1.ff.map Dw))] rfl rfl) (Ar ?_)
        exact ⟨⟨[_, _], ⟨.cellN _ _ _ _ _ _ _ rfl rfl B0 AQ rfl rfl (H7 rfl), tm⟩, rfl⟩, ⟨rfl, rfl, rfl, tv⟩⟩
theorem JL (N : Nat) (p0 : Aa) (p1 : Ad) (p2 : List Am) (r : (List Ad) × Int × Int) (h : C1 N p0 p1 p2 = some r) : Aq uS 83 [.e (.agg (Al p0)), .e (.agg (Be p1)), pD (.sl (p2.map AM))] [(3, r.1.map EF)] (.tup [.one (.own 0), .one (iC r.2.1), .one (iC r.2.2)]) := by
 unfold C1 at h
 refine cw (n := 52) (rs := [.tmp 6, .tmp 7, .tmp 8]) Tryz.func83 fun w0 S0 => ?_
 refine wq rfl (qb rfl (qb rfl (qa rfl (qa rfl (qa rfl (Ac (wp rfl (qL DS DN rfl (qL B0 AQ rfl ?_)))))))))
 refine Ca h fun v1 a1 h => Ax [] (Gk N p0 p1 v1 a1) VF rfl (qa rfl (Ac (wq rfl (qm rfl (BG rfl (Ac ?_))))))
 refine Bj h (fun h => ?_) fun h => ?_
 ·refine wq rfl (qm rfl (qa rfl (qa rfl (qe rfl ?_))))
  obtain rfl := sj h
  refine Af ((Fj 6 2001 3 rfl rfl rfl).trans (sm [(1000, 2001)] [(6, oD (.own 1000)), (7, iD 0), (8, iD v1)] [(1000, .vec 3 ((([] : List Ad)).map EF))] rfl rfl)) (Ar ?_)
  exact ⟨⟨[_, _, _], ⟨.tmp _ _ rfl, ⟨.tmp _ _ rfl, tm⟩⟩, rfl⟩, ⟨rfl, tv⟩⟩
 ·refine Ap (wq rfl (qL B0 AQ rfl (Ft Hn AQ C7 rfl (qa rfl (Ac (wp rfl (qe rfl ?_)))))))
  refine A5 (L := Cj N p0 p2) h (fun v3 => mk [(2, pD (.sl (p2.map AM))), (3, oD (.ptr 3 0)), (10, oD (.own 2002)), (11, iD v3.2)] [(3, .box (Al p0)), (2002, .vec 3 (v3.1.map EF))]) (fun v4 => mk [(2, pD (.sl (p2.map AM))), (10, oD (.own 2003))] [(2003, .vec 3 (v4.map EF))]) (fun _ _ => rfl) (sm [(2002, 21)] _ _ rfl rfl) (fun j3 n3 v3 h => ?_) (fun v4 s h hs => ?_)
  ·unfold Cj at h
   refine wp rfl (qw 2 rfl (AH GS rfl (A4 rfl (Ac ?_))))
   refine Bj h (fun h => ?_) fun h => ?_
   ·refine Ap (AO (AP (wq rfl (qL DS DN rfl (qw 2 rfl ?_)))))
    refine BP h fun v6 a6 b6 h => qI Hn AQ a6 (Ai b6) rfl (qJ B0 AQ (Ai b6) rfl (qw 2 rfl ?_))
    refine BP h fun v7 a7 b7 h => qi GS Gs a7 (Ai b7) rfl (qK Jh Gs rfl ?_)
    refine Ca h fun v8 a8 h => Ax [2004, 2005, 2006] (IP N p0 v6 v7 v8 a8) UU rfl (qm rfl (qx rfl (qx rfl (qz C7 rfl (qs AQ rfl (qa rfl (AE (by kernel_rfl) (wp rfl (qm rfl (BG rfl (Ac ?_)))))))))))
    refine Bj h (fun h => ?_) fun h => ?_
    ·refine wq rfl (qw 2 rfl (qa rfl (qa rfl (qe rfl ?_))))
     obtain rfl := sj h
     refine Af ((Fj 6 2007 3 rfl rfl rfl).trans (sm [(1000, 2007)] [(6, oD (.own 1000)), (7, iD v3.2), (8, iD v8.2)] [(1000, .vec 3 ((([] : List Ad)).map EF))] rfl rfl)) (Ar ?_)
     exact ⟨⟨[_, _, _], ⟨.tmp _ _ rfl, ⟨.tmp _ _ rfl, tm⟩⟩, rfl⟩, ⟨rfl, tv⟩⟩
    ·refine Ap (Ak Ay rfl (qm rfl (qL B0 AQ rfl (Fy (B6 2004 _ _ rfl rfl) (Fy (B6 2005 _ _ rfl rfl) (Fy (B6 2006 _ _ rfl rfl) (Ft Hn AQ C7 rfl ?_)))))))
     refine Hj h fun c10 h => Ln (f := EF) Hn Hn AQ TW C7 c10 rfl (qa rfl (Ac (Ak Ay rfl (qm rfl (Cq rfl (qe rfl ?_))))))
     exact sn [(2002, 48)] h
   ·refine BV ?_
    exact sn [(2003, 2002)] h
  ·refine Af hs (wq rfl (qw 2 rfl (AH GS rfl (qa rfl (qa rfl (qe rfl ?_))))))
   obtain rfl := sj h
   refine Af (sm [(1000, 2003)] [(6, oD (.own 1000)), (7, iD ((p2.length : Int))), (8, iD 0)] [(1000, .vec 3 (v4.map EF))] rfl rfl) (Ar ?_)
   exact ⟨⟨[_, _, _], ⟨.tmp _ _ rfl, ⟨.tmp _ _ rfl, tm⟩⟩, rfl⟩, ⟨rfl, tv⟩⟩
theorem IQ (N : Nat) (p0 : Aa) (p1 : List Am) (r : Int) (h : C9 N p0 p1 = some r) : Aq uS 40 [.e (.agg (Al p0)), pD (.sl (p1.map AM))] [] (iD r) := by
 unfold C9 at h
 refine cw (n := 37) (rs := [.tmp 4]) Tryz.func40 fun w0 S0 => ?_
 refine wq rfl (qb rfl (qa rfl (Ac (wq rfl (qL DS DN rfl ?_)))))
 refine Ca h fun v1 a1 h => Ax [2001, 2002, 2003] (IR N p0 v1 a1) WB rfl (qm rfl (qx rfl (qx rfl (qz C7 rfl (qs AQ rfl (qa rfl (Ac (wp rfl (qm rfl (BG rfl (Ac ?_)))))))))))
 refine Bj h (fun h => ?_) fun h => ?_
 ·refine wq rfl (qm rfl (qe rfl ?_))
  obtain rfl := sj h
  refine Af (sm [] [(4, iD v1.2)] [] rfl rfl) (Ar ?_)
  exact ⟨⟨[_], tm, rfl⟩, tv⟩
 ·refine Ap (wp rfl (qe rfl ?_))
  refine A5 (L := B3 N p1) h (fun v3 => mk [(1, pD (.sl (p1.map AM))), (2, oD (.ptr 2 0)), (5, oD (.ptr 5 0)), (7, iD v3)] [(2, .box (Al p0)), (5, .box [.own 2004, .own 2005, .own 2006]), (2004, .vec 1 (v1.1.fh.map As)), (2005, .vec 1 (v1.1.fe.map As)), (2006, .vec 1 (v1.1.ff.map Dw))]) (fun v4 => mk [(1, pD (.sl (p1.map AM))), (2, oD (.ptr 2 0)), (5, oD (.ptr 5 0))] [(2, .box (Al p0)), (5, .box [.own 2007, .own 2008, .own 2009]), (2007, .vec 1 (v1.1.fh.map As)), (2008, .vec 1 (v1.1.fe.map As)), (2009, .vec 1 (v1.1.ff.map Dw))]) (fun _ _ => rfl) (sm [(2004, 2001), (2005, 2002), (2006, 2003)] _ _ rfl rfl) (fun j3 n3 v3 h => ?_) (fun v4 s h hs => ?_)
  ·unfold B3 at h
   refine wp rfl (qw 2 rfl (AH GS rfl (A4 rfl (Ac ?_))))
   refine Bj h (fun h => ?_) fun h => ?_
   ·refine Ap (AO (AP (wq rfl (qw 2 rfl ?_))))
    refine BP h fun v6 a6 b6 h => qi GS Gs a6 (Ai b6) rfl (qg Dl rfl (qk Ba rfl (AN rfl (Ac ?_))))
    refine Bj h (fun h => ?_) fun h => ?_
    ·refine wq rfl (qe rfl ?_)
     obtain rfl := sj h
     refine Af (sm [] [(4, iD 1)] [] rfl rfl) (Ar ?_)
     exact ⟨⟨[_], tm, rfl⟩, tv⟩
    ·refine Ap (Ak Ay rfl (qm rfl (Cq rfl (qe rfl ?_))))
     exact sn [] h
   ·refine BV ?_
    exact sn [(2007, 2004), (2008, 2005), (2009, 2006)] h
  ·refine Af hs (wq rfl (qL DS DN rfl (qL B0 AQ rfl (qm rfl (Fy (B6 2007 _ _ rfl rfl) (Fy (B6 2008 _ _ rfl rfl) (Fy (B6 2009 _ _ rfl rfl) ?_)))))))
   refine Ca h fun v8 a8 h => Ax [2010] (JL N p0 v1.1 p1 v8 a8) WE rfl (qm rfl (qx rfl (qx rfl (qx rfl (qa rfl (Ac (wq rfl (qm rfl (qe rfl ?_)))))))))
   obtain rfl := sj h
   refine Af (sm [] [(4, iD v8.2.2)] [] rfl rfl) (Ar ?_)
   exact ⟨⟨[_], tm, rfl⟩, tv⟩
theorem Iu (N : Nat) (p0 : Ab) (r : (List Int)) (h : Cm N p0 = some r) : Aq uS 106 [.e (.agg (Br p0))] [(1, r.map As)] (oD (.own 0)) := by
 unfold Cm at h
 refine cw (n := 35) (rs := [.tmp 2]) Tryz.func106 fun w0 S0 => ?_
 refine wq rfl (qb rfl (qa rfl (Ac (wp rfl (qf DQ rfl (ql Ba rfl (Ac (AP (wq rfl (AN rfl (qe rfl ?_)))))))))))
 refine Bj h (fun h => ?_) fun h => ?_
 ·refine wq rfl (qf G5 rfl (ql Ba rfl (qf Hb rfl (ql Ba rfl (qf HU rfl (ql Ba rfl (Ft Cd H2 TE rfl (qe rfl ?_))))))))
  obtain rfl := sj h
  refine Af (sm [(1000, 13)] [(2, oD (.own 1000))] [(1000, .vec 1 ((([p0.fy, p0.fA, p0.fF] : List Int)).map As))] rfl rfl) (Ar ?_)
  exact ⟨⟨[_], tm, rfl⟩, ⟨rfl, tv⟩⟩
 ·refine wq rfl (AN rfl (qe rfl ?_))
  refine Bj h (fun h => ?_) fun h => ?_
  ·refine wq rfl (qf HJ rfl (ql Ba rfl (qf Jn rfl (ql Ba rfl (qf IL rfl (ql Ba rfl (Ft Cd H2 TE rfl (qe rfl ?_))))))))
   obtain rfl := sj h
   refine Af (sm [(1000, 22)] [(2, oD (.own 1000))] [(1000, .vec 1 ((([p0.ft, p0.fq, p0.fJ] : List Int)).map As))] rfl rfl) (Ar ?_)
   exact ⟨⟨[_], tm, rfl⟩, ⟨rfl, tv⟩⟩
  ·refine wq rfl (AN rfl (qe rfl ?_))
   refine Bj h (fun h => ?_) fun h => ?_
   ·refine wq rfl (qf Jz rfl (ql Ba rfl (qf Fe rfl (ql Ho rfl (Ft Cd H2 TE rfl (qe rfl ?_))))))
    obtain rfl := sj h
    refine Af (sm [(1000, 29)] [(2, oD (.own 1000))] [(1000, .vec 1 ((([p0.fK, p0.fv] : List Int)).map As))] rfl rfl) (Ar ?_)
    exact ⟨⟨[_], tm, rfl⟩, ⟨rfl, tv⟩⟩
   ·refine Ap (wq rfl (qf JU rfl (ql Ba rfl (qf Fe rfl (ql Ho rfl (Ft Cd H2 TE rfl (qe rfl ?_)))))))
    obtain rfl := sj h
    refine Af (sm [(1000, 34)] [(2, oD (.own 1000))] [(1000, .vec 1 ((([p0.fm, p0.fv] : List Int)).map As))] rfl rfl) (Ar ?_)
    exact ⟨⟨[_], tm, rfl⟩, ⟨rfl, tv⟩⟩
theorem Ji (N : Nat) (p0 : Int) (p1 : Int) (p2 : List Int) (r : Ab) (h : Cg N p0 p1 p2 = some r) : Aq uS 107 [iD p0, iD p1, pD (.sl (p2.map As))] [] (.e (.agg (Br r))) := by
 unfold Cg at h
 refine cw (n := 59) (rs := [.cell 6 37]) Tryz.func107 fun w0 S0 => ?_
 refine wq rfl (qz IW rfl (Ac (wq rfl (qw 2 rfl (Bt IW Qu rfl (qz IW rfl (qs DB rfl (Ac ?_))))))))
 refine AK h (fun v1 => mk [(6, oD (.ptr 6 0)), (7, oD (.ptr 7 0))] [(6, .box [iC 0, iC 0, iC 0, iC 0, iC 0, iC 0, iC 0, iC 0, iC 0, iC 0, iC 0]), (7, .box [iC p0, iC p1, iC v1.1, iC v1.2.1, iC v1.2.2.1, iC v1.2.2.2.1, iC v1.2.2.2.2.1, iC v1.2.2.2.2.2.1, iC v1.2.2.2.2.2.2.1, iC v1.2.2.2.2.2.2.2.1, iC v1.2.2.2.2.2.2.2.2])]) (fun j1 h => ?_) (fun v1 h => ?_)
 ·refine wq rfl (qm rfl (Ac (AP (wq rfl (AN rfl (qe rfl ?_))))))
  refine Bj h (fun h => ?_) fun h => ?_
  ·refine Ak Ay rfl (qm rfl ?_)
   refine BP h fun v3 a3 b3 h => qi Cd H2 a3 (Ai b3) rfl (qk Ho rfl (qm rfl ?_))
   refine BP h fun v4 a4 b4 h => qi Cd H2 a4 (Ai b4) rfl (qk Ho rfl (qm rfl ?_))
   refine BP h fun v5 a5 b5 h => qi Cd H2 a5 (Ai b5) rfl (qk Ho rfl (qf G5 rfl (qs CK rfl (qf Hb rfl (qs CK rfl (qf HU rfl (qs CK rfl (AE (by kernel_rfl) ?_))))))))
   exact sn [] h
  ·refine wq rfl (AN rfl (qe rfl ?_))
   refine Bj h (fun h => ?_) fun h => ?_
   ·refine Ak Ay rfl (qm rfl ?_)
    refine BP h fun v7 a7 b7 h => qi Cd H2 a7 (Ai b7) rfl (qk Ho rfl (qm rfl ?_))
    refine BP h fun v8 a8 b8 h => qi Cd H2 a8 (Ai b8) rfl (qk Ho rfl (qm rfl ?_))
    refine BP h fun v9 a9 b9 h => qi Cd H2 a9 (Ai b9) rfl (qk Ho rfl (qf HJ rfl (qs CK rfl (qf Jn rfl (qs CK rfl (qf IL rfl (qs CK rfl (AE (by kernel_rfl) ?_))))))))
    exact sn [] h
   ·refine wq rfl (AN rfl (qe rfl ?_))
    refine Bj h (fun h => ?_) fun h => ?_
    ·refine Ak Ay rfl (qm rfl ?_)
     refine BP h fun v11 a11 b11 h => qi Cd H2 a11 (Ai b11) rfl (qk Ho rfl (qm rfl ?_))
     refine BP h fun v12 a12 b12 h => qi Cd H2 a12 (Ai b12) rfl (qk Ho rfl (qf Jz rfl (qs CK rfl (qf Fe rfl (qs H2 rfl (AE (by kernel_rfl) ?_))))))
     exact sn [] h
    ·refine Ak Ay rfl (qm rfl ?_)
     refine BP h fun v13 a13 b13 h => qi Cd H2 a13 (Ai b13) rfl (qk Ho rfl (qm rfl ?_))
     refine BP h fun v14 a14 b14 h => qi Cd H2 a14 (Ai b14) rfl (qk Ho rfl (qf JU rfl (qs CK rfl (qf Fe rfl (qs H2 rfl (AE (by kernel_rfl) ?_))))))
     exact sn [] h
 ·refine wq rfl (qL F8 DB rfl (qs DB rfl (Ac ?_)))
  obtain rfl := sj h
  refine Af (sm [] [(6, oD (.ptr 6 0))] [(6, .box [iC p0, iC p1, iC v1.1, iC v1.2.1, iC v1.2.2.1, iC v1.2.2.2.1, iC v1.2.2.2.2.1, iC v1.2.2.2.2.2.1, iC v1.2.2.2.2.2.2.1, iC v1.2.2.2.2.2.2.2.1, iC v1.2.2.2.2.2.2.2.2])] rfl rfl) (Ar ?_)
  exact ⟨⟨[_], ⟨.cellN _ _ _ _ _ _ _ rfl rfl F8 DB rfl rfl (H7 rfl), tv⟩, rfl⟩, tv⟩
theorem IU (N : Nat) (p0 : Ab) (r : Bool) (h : C8 N p0 = some r) : Aq uS 70 [.e (.agg (Br p0))] [] (bD r) := by
 unfold C8 at h
 refine cw (n := 39) (rs := [.tmp 2]) Tryz.func70 fun w0 S0 => ?_
 refine wq rfl (qb rfl (qa rfl (Ac (AO ?_))))
 refine AK h (fun v1 => mk [(1, oD (.ptr 1 0)), (17, bD v1)] [(1, .box (Br p0))]) (fun j1 h => ?_) (fun v1 h => ?_)
 ·refine Ak Ay rfl (qf DQ rfl (ql Ba rfl (A4 rfl (qm rfl ?_))))
  refine CJ 8 h rfl (fun h => ?_) fun h => ?_
  ·refine qw 3 rfl (qp rfl (qw 4 rfl (qp rfl (Ac ?_))))
   exact sn [] h
  ·refine qf DQ rfl (ql Ba rfl (DZ rfl (qp rfl (qm rfl ?_))))
   refine CJ 13 h rfl (fun h => ?_) fun h => ?_
   ·refine qw 3 rfl (qp rfl (Ac ?_))
    exact sn [] h
   ·refine qf Gw rfl (ql Ho rfl (A4 rfl (qp rfl (Ac ?_))))
    exact sn [] h
 ·refine Bj h (fun h => ?_) fun h => ?_
  ·refine wq rfl (qe rfl ?_)
   obtain rfl := sj h
   refine Af (sm [] [(2, bD false)] [] rfl rfl) (Ar ?_)
   exact ⟨⟨[_], tm, rfl⟩, tv⟩
  ·refine Ap (wq rfl (qL F8 DB rfl ?_))
   refine Ca h fun v5 a5 h => Ax [2001] (Iu N p0 v5 a5) VD rfl (qa rfl (Ac (wp rfl (qe rfl ?_))))
   refine A5 (L := BN N v5) h (fun v6 => mk [(1, oD (.ptr 1 0)), (3, oD (.own 2002)), (4, iD v6)] [(1, .box (Br p0)), (2002, .vec 1 (v5.map As))]) (fun v7 => mk [(1, oD (.ptr 1 0)), (3, oD (.own 2003))] [(1, .box (Br p0)), (2003, .vec 1 (v5.map As))]) (fun _ _ => rfl) (sm [(2002, 2001)] _ _ rfl rfl) (fun j6 n6 v6 h => ?_) (fun v7 s h hs => ?_)
   ·unfold BN at h
    refine wp rfl (qw 2 rfl (Pl Cd rfl (A4 rfl (Ac ?_))))
    refine Bj h (fun h => ?_) fun h => ?_
    ·refine Ap (AO (AP (wq rfl (qw 2 rfl ?_))))
     refine BP h fun v9 a9 b9 h => qI Cd H2 a9 (Ai b9) rfl (qj Ho (Ai b9) rfl (A4 rfl (Ac ?_)))
     refine Bj h (fun h => ?_) fun h => ?_
     ·refine wq rfl (qe rfl ?_)
      obtain rfl := sj h
      refine Af (sm [] [(2, bD false)] [] rfl rfl) (Ar ?_)
      exact ⟨⟨[_], tm, rfl⟩, tv⟩
     ·refine Ap (Ak Ay rfl (qm rfl (Cq rfl (qe rfl ?_))))
      exact sn [] h
    ·refine BV ?_
     exact sn [(2003, 2002)] h
   ·refine Af hs (wq rfl (qf Gw rfl (ql Ho rfl (qf DQ rfl (ql Ba rfl (qm rfl ?_))))))
    refine Ca h fun v11 a11 h => Gy [] [2003] (Ji N p0.fi p0.fa v5 v11 a11) VK ET rfl (qL F8 DB rfl ?_)
    refine TS [.int .i64 v11.fi, .int .i64 v11.fa, .int .i64 v11.fy, .int .i64 v11.fA, .int .i64 v11.fF, .int .i64 v11.fm, .int .i64 v11.fv, .int .i64 v11.fJ, .int .i64 v11.ft, .int .i64 v11.fq, .int .i64 v11.fK] [.int .i64 p0.fi, .int .i64 p0.fa, .int .i64 p0.fy, .int .i64 p0.fA, .int .i64 p0.fF, .int .i64 p0.fm, .int .i64 p0.fv, .int .i64 p0.fJ, .int .i64 p0.ft, .int .i64 p0.fq, .int .i64 p0.fK] (.p rfl) rfl rfl Tv rfl ?_
    refine qa rfl (AE (by kernel_rfl) ?_)
    obtain rfl := sj h
    refine Af (sm [] [(2, bD (((v11.fi == p0.fi) && ((v11.fa == p0.fa) && ((v11.fy == p0.fy) && ((v11.fA == p0.fA) && ((v11.fF == p0.fF) && ((v11.fm == p0.fm) && ((v11.fv == p0.fv) && ((v11.fJ == p0.fJ) && ((v11.ft == p0.ft) && ((v11.fq == p0.fq) && ((v11.fK == p0.fK) && true)))))))))))))] [] rfl rfl) (Ar ?_)
    exact ⟨⟨[_], tm, rfl⟩, tv⟩
theorem IT (N : Nat) (p0 : List Ab) (r : Int) (h : De N p0 = some r) : Aq uS 33 [pD (.sl (p0.map AJ))] [] (iD r) := by
 unfold De at h
 refine cw (n := 37) (rs := [.tmp 2]) Tryz.func33 fun w0 S0 => ?_
 refine wq rfl (qa rfl (Ac (wp rfl (qm rfl (AH Eb rfl (DZ rfl (Ac ?_)))))))
 refine Bj h (fun h => ?_) fun h => ?_
 ·refine wq rfl (qe rfl ?_)
  obtain rfl := sj h
  refine Af (sm [] [(2, iD 3)] [] rfl rfl) (Ar ?_)
  exact ⟨⟨[_], tm, rfl⟩, tv⟩
 ·refine Ap (wp rfl (qe rfl ?_))
  refine A5 (L := B2 N p0) h (fun v2 => mk [(0, pD (.sl (p0.map AJ))), (3, iD v2)] []) (fun v3 => mk [] []) (fun _ _ => rfl) (sm [] _ _ rfl rfl) (fun j2 n2 v2 h => ?_) (fun v3 s h hs => ?_)
  ·unfold B2 at h
   refine wp rfl (qw 2 rfl (AH Eb rfl (A4 rfl (Ac ?_))))
   refine Bj h (fun h => ?_) fun h => ?_
   ·refine Ap (AO (AP ?_))
    refine AK h (fun v5 => mk [(0, pD (.sl (p0.map AJ))), (3, iD v2), (36, bD v5)] []) (fun j5 h => ?_) (fun v5 h => ?_)
    ·refine Ak Ay rfl (qw 2 rfl ?_)
     refine BP h fun v6 a6 b6 h => qi Eb DB a6 (Ai b6) rfl (qK F8 DB rfl ?_)
     refine Ca h fun v7 a7 h => Ax [] (IU N v6 v7 a7) WW rfl (Cz rfl (qm rfl ?_))
     refine CJ 19 h rfl (fun h => ?_) fun h => ?_
     ·refine qw 3 rfl (qu rfl (qu rfl (qu rfl (qu rfl (qu rfl (qu rfl (qu rfl (qu rfl (qu rfl (qu rfl (qu rfl (qu rfl (qn rfl (qp rfl (AE (by kernel_rfl) ?_)))))))))))))))
      exact sn [] h
     ·refine qm rfl (DZ rfl (qm rfl ?_))
      refine CJ 22 h rfl (fun h => ?_) fun h => ?_
      ·refine qw 2 rfl ?_
       refine BP h fun v10 a10 b10 h => qi Eb DB a10 (Ai b10) rfl (qg Gw rfl (qk Ho rfl (qw 2 rfl (KE rfl ?_))))
       refine BP h fun v11 a11 b11 h => qi Eb DB a11 (Ai b11) rfl (qg Gw rfl (qk Ho rfl (A4 rfl (qp rfl (qp rfl (AE (by kernel_rfl) ?_))))))
       exact sn [] h
      ·refine qw 12 rfl (qp rfl (qp rfl (AE (by kernel_rfl) ?_)))
       exact sn [] h
    ·refine Bj h (fun h => ?_) fun h => ?_
     ·refine wq rfl (qe rfl ?_)
      obtain rfl := sj h
      refine Af (sm [] [(2, iD 1)] [] rfl rfl) (Ar ?_)
      exact ⟨⟨[_], tm, rfl⟩, tv⟩
     ·refine Ap (Ak Ay rfl (qm rfl (Cq rfl (qe rfl ?_))))
      exact sn [] h
   ·refine BV ?_
    exact sn [] h
  ·refine Af hs (wq rfl (qe rfl ?_))
   obtain rfl := sj h
   refine Af (sm [] [(2, iD 0)] [] rfl rfl) (Ar ?_)
   exact ⟨⟨[_], tm, rfl⟩, tv⟩
theorem IV (N : Nat) (p0 : Aa) (p1 : List Int) (p2 : List Am) (p3 : List Ab) (r : Int) (h : CC N p0 p1 p2 p3 = some r) : Aq uS 23 [.e (.agg (Al p0)), pD (.sl (p1.map As)), pD (.sl (p2.map AM)), pD (.sl (p3.map AJ))] [] (iD r) := by
 unfold CC at h
 refine cw (n := 25) (rs := [.tmp 8]) Tryz.func23 fun w0 S0 => ?_
 refine wq rfl (qb rfl (qa rfl (Ac (wp rfl (qL DS DN rfl (qm rfl ?_))))))
 refine Ca h fun v1 a1 h => Ax [] (H4 N p0 p1 v1 a1) WQ rfl (qa rfl (Ac (wq rfl (qm rfl (BG rfl (Ac ?_))))))
 refine Bj h (fun h => ?_) fun h => ?_
 ·refine wq rfl (qm rfl (qe rfl ?_))
  obtain rfl := sj h
  refine Af (sm [] [(8, iD v1)] [] rfl rfl) (Ar ?_)
  exact ⟨⟨[_], tm, rfl⟩, tv⟩
 ·refine Ap (wp rfl (qL DS DN rfl (qm rfl ?_)))
  refine Ca h fun v3 a3 h => Ax [] (IQ N p0 p2 v3 a3) Wm rfl (qa rfl (Ac (wq rfl (qm rfl (BG rfl (Ac ?_))))))
  refine Bj h (fun h => ?_) fun h => ?_
  ·refine wq rfl (qm rfl (qe rfl ?_))
   obtain rfl := sj h
   refine Af (sm [] [(8, iD v3)] [] rfl rfl) (Ar ?_)
   exact ⟨⟨[_], tm, rfl⟩, tv⟩
  ·refine Ap (wq rfl (qm rfl ?_))
   refine Ca h fun v5 a5 h => Ax [] (IT N p3 v5 a5) WM rfl (qe rfl ?_)
   obtain rfl := sj h
   refine Af (sm [] [(8, iD v5)] [] rfl rfl) (Ar ?_)
   exact ⟨⟨[_], tm, rfl⟩, tv⟩
theorem DF (N : Nat) (p0 : List Ab) (r : (List Ab)) (h : A3 N p0 = some r) : Aq uS 14 [pD (.sl (p0.map AJ))] [(11, r.map AJ)] (oD (.own 0)) := by
 unfold A3 at h
 refine cw (n := 8) (rs := [.tmp 2]) Tryz.func14 fun w0 S0 => ?_
 refine wq rfl (qa rfl (Ac (wp rfl (qm rfl ?_))))
 refine Na (.p rfl) rfl Eb ?_
 refine Ac ?_
 refine Ni rfl (fun c2 => ?_) ?_
 ·have c2 := zC5.1 c2
  rw [c2] at h
  have h : (some (([] : List Ab))) = some r := h
  refine wq rfl (qe rfl ?_)
  obtain rfl := sj h
  refine Af ((Fj 2 2001 11 rfl rfl rfl).trans (sm [(1000, 2001)] [(2, oD (.own 1000))] [(1000, .vec 11 ((([] : List Ab)).map AJ))] rfl rfl)) (Ar ?_)
  exact ⟨⟨[_], tm, rfl⟩, ⟨rfl, tv⟩⟩
 ·refine Ap (wq rfl (Ft Eb DB IW rfl (qm rfl ?_)))
  refine Hj h fun c1 h => Kd (f := AJ) Eb Eb DB VX IW (fun _ => rfl) c1 rfl (qe rfl ?_)
  obtain rfl := sj h
  refine Af (sm [(1000, 7)] [(2, oD (.own 1000))] [(1000, .vec 11 (((([] : List Ab)) ++ p0).map AJ))] rfl rfl) (Ar ?_)
  exact ⟨⟨[_], tm, rfl⟩, ⟨rfl, tv⟩⟩
set_option maxRecDepth 10000 in
theorem G1 (N : Nat) (p0 : BK) (p1 : Int) (r : Bool) (h : B8 N p0 p1 = some r) : Aq uS 7 [.e (.agg (Gd p0)), pD (.val (.int .u8 p1))] [] (bD r) := by
 unfold B8 at h
 refine cw (n := 98) (rs := [.tmp 4]) Tryz.func7 fun w0 S0 => ?_
 refine wq rfl (qb rfl (qa rfl (Ac (AO ?_))))
 refine AK h (fun v1 => mk [(1, pD (.val (.int .u8 p1))), (2, oD (.ptr 2 0)), (30, bD v1)] [(2, .box (Gd p0))]) (fun j1 h => ?_) (fun v1 h => ?_)
 ·refine Ak Ay rfl ?_
  refine Ca h fun v2 a2 h => Ax [] (Gj N v2 a2) VR rfl (Cz rfl (qm rfl ?_))
  refine CJ 14 h rfl (fun h => ?_) fun h => ?_
  ·refine qw 3 rfl (qp rfl (qw 11 rfl (qp rfl (Ac ?_))))
   exact sn [] h
  ·refine qL WC Wt rfl ?_
   refine Ca h fun v4 a4 h => Ax [] (JY N ((BK.mk ((Aa.mk p0.fc.fb p0.fc.fk p0.fc.fp p0.fc.fd)) p0.fM p0.fr p0.fC)) v4 a4) WD rfl (Cz rfl (qp rfl (qm rfl ?_)))
   refine CJ 19 h rfl (fun h => ?_) fun h => ?_
   ·refine qw 10 rfl (qp rfl (Ac ?_))
    exact sn [] h
   ·refine qf KT rfl (qL DS DN rfl (qf KR rfl (ql Bc rfl (qf K0 rfl (ql O1 rfl (qf JM rfl (ql RZ rfl ?_)))))))
    refine Ca h fun v6 a6 h => Ax [] (IV N ((Aa.mk p0.fc.fb p0.fc.fk p0.fc.fp p0.fc.fd)) p0.fM p0.fr p0.fC v6 a6) WL rfl (BG rfl (qp rfl (Ac ?_)))
    exact sn [] h
 ·refine Bj h (fun h => ?_) fun h => ?_
  ·refine wq rfl ?_
   refine Ca h fun v8 a8 h => Ax [] (Gj N v8 a8) VR rfl (qe rfl ?_)
   obtain rfl := sj h
   refine Af (sm [] [(4, bD v8)] [] rfl rfl) (Ar ?_)
   exact ⟨⟨[_], tm, rfl⟩, tv⟩
  ·refine Ap (wq rfl (qm rfl (J5 W4 WI rfl (qf JM rfl (ql RZ rfl (AH Eb rfl (Cq rfl ?_)))))))
   refine Hj h fun c9 h => UX rfl c9 (qa rfl (Ac (wq rfl (qf KT rfl (qL DS DN rfl (qf KR rfl (ql Bc rfl (qf K0 rfl (ql O1 rfl (qf JM rfl (ql RZ rfl (qm rfl ?_))))))))))))
   refine Hj h fun c10 h => KX (.p rfl) rfl Eb DB (HA (f := AJ) (n := 11) (fun _ => rfl) _) (.none _) (.some _ _ _ _ c10.1) tv ⟨rfl, tv⟩ (by have := c10.2.1; (try simp only [vO]); omega) (by have := c10.2.2; (try simp only [vO]); omega) (JQ AJ p0.fC _ _ (((Int.tmod ((wI .i64 p1)) ((wI .i64 ((p0.fC.length : Int) + 1))))).toNat - 0) rfl) ?_
   refine Ca h fun v11 a11 h => Ax [2001] (DF N (((p0.fC.drop 0).take (((Int.tmod ((wI .i64 p1)) ((wI .i64 ((p0.fC.length : Int) + 1))))).toNat - 0))) v11 a11) Ve rfl ?_
   refine Ca h fun v12 a12 h => Gy [] [2001] (F3 N ((Aa.mk p0.fc.fb p0.fc.fk p0.fc.fp p0.fc.fd)) p0.fM p0.fr v11 v12 a12) SB ET rfl (qm rfl (qx rfl (qx rfl (qx rfl (qa rfl (qa rfl (qa rfl (AE (by kernel_rfl) (wq rfl (qf KT rfl (qL DS DN rfl (qf KR rfl (ql Bc rfl (qf K0 rfl (ql O1 rfl (qf JM rfl (ql RZ rfl ?_)))))))))))))))))
   refine Ca h fun v13 a13 h => Ax [2002] (DF N p0.fC v13 a13) Ve rfl ?_
   refine Ca h fun v14 a14 h => Gy [] [2002] (F3 N ((Aa.mk p0.fc.fb p0.fc.fk p0.fc.fp p0.fc.fd)) p0.fM p0.fr v13 v14 a14) SB ET rfl (qm rfl (qx rfl (qx rfl (qx rfl (qa rfl (qa rfl (qa rfl (AE (by kernel_rfl) (wp rfl (qm rfl (AN rfl (Ac ?_))))))))))))
   refine Bj h (fun h => ?_) fun h => ?_
   ·refine AK h (fun v16 => mk [(4, bD v16)] []) (fun j16 h => ?_) (fun v16 h => ?_)
    ·refine Ak Ay rfl (qm rfl (AN rfl (qm rfl ?_)))
     refine CJ 73 h rfl (fun h => ?_) fun h => ?_
     ·refine qw 2 rfl (AN rfl (qp rfl (qm rfl ?_)))
      refine CJ 78 h rfl (fun h => ?_) fun h => ?_
      ·refine qw 2 rfl (AN rfl (qp rfl (qe rfl ?_)))
       exact sn [] h
      ·refine qw 3 rfl (qp rfl (qe rfl ?_))
       exact sn [] h
     ·refine qw 3 rfl (qp rfl (qw 4 rfl (qp rfl (qe rfl ?_))))
      exact sn [] h
    ·obtain rfl := sj h
     refine Af (sm [] [(4, bD v16)] [] rfl rfl) (Ar ?_)
     exact ⟨⟨[_], tm, rfl⟩, tv⟩
   ·refine Ap ?_
    refine AK h (fun v19 => mk [(4, bD v19)] []) (fun j19 h => ?_) (fun v19 h => ?_)
    ·refine Ak Ay rfl (qm rfl (AN rfl (qm rfl ?_)))
     refine CJ 85 h rfl (fun h => ?_) fun h => ?_
     ·refine qm rfl (AN rfl (qm rfl ?_))
      refine CJ 88 h rfl (fun h => ?_) fun h => ?_
      ·refine qw 3 rfl (qu rfl (qu rfl (qu rfl (qn rfl (qp rfl (qp rfl (qe rfl ?_)))))))
       exact sn [] h
      ·refine qm rfl (AN rfl (qm rfl ?_))
       refine CJ 91 h rfl (fun h => ?_) fun h => ?_
       ·refine qw 2 rfl (Dx rfl (qp rfl (qp rfl (qp rfl (qe rfl ?_)))))
        exact sn [] h
       ·refine qw 3 rfl (qp rfl (qp rfl (qp rfl (qe rfl ?_))))
        exact sn [] h
     ·refine qw 3 rfl (qu rfl (qu rfl (qu rfl (qu rfl (qu rfl (qu rfl (qu rfl (qn rfl (qp rfl (qe rfl ?_))))))))))
      exact sn [] h
    ·obtain rfl := sj h
     refine Af (sm [] [(4, bD v19)] [] rfl rfl) (Ar ?_)
     exact ⟨⟨[_], tm, rfl⟩, tv⟩
end Go.Lift
