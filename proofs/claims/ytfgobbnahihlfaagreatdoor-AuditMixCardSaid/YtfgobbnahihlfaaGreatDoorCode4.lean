/- Lemmas for AuditMixCardSaid, which YtfgobbnahihlfaaGreatDoorFinA4 proves. -/
import Derived.Test.YtfgobbnahihlfaaGreatDoorCode
open List renaming getElem?_map → uX, getElem_mem → zD0, length_map → vP, map_eq_nil_iff → zC4, replicate → vC
open Nat renaming le_refl → zC1, zero_add → uZ, zero_le → vO
open Option renaming map → zD7
open Go.Proofs.Tryz renaming prog → uS
namespace Go.Lift
open IntKind renaming wrap → wI
set_option maxRecDepth 10000
open Go.RowKit
open Go.Proofs
theorem FJ (N : Nat) (p0 : Int) (p1 : Int) (r : Bool) (h : CV N p0 p1 = some r) : Ap uS 102 [iD p0, iD p1] [] (bD r) := by
 unfold CV at h
 refine cw (n := 12) (rs := [.tmp 4]) Tryz.func102 fun w0 S0 => ?_
 refine wq rfl (qe rfl ?_)
 refine AJ h (fun v1 => mk [(4, bD v1)] []) (fun j1 h => ?_) (fun v1 h => ?_)
 ·refine Aj Aw rfl (qm rfl (Dg rfl (qm rfl ?_)))
  refine CJ 7 h rfl (fun h => ?_) fun h => ?_
  ·refine qw 2 rfl (A2 rfl (qp rfl (qe rfl ?_)))
   exact sn [] h
  ·refine qw 3 rfl (qp rfl (qe rfl ?_))
   exact sn [] h
 ·obtain rfl := sj h
  refine Ad (sm [] [(4, bD v1)] [] rfl rfl) (Aq ?_)
  exact ⟨⟨[_], tm, rfl⟩, tv⟩
theorem M3 (N : Nat) (p0 : Int) (p1 : Bool) (r : Bool) (h : E8 N p0 p1 = some r) : Ap uS 144 [iD p0, bD p1] [] (bD r) := by
 unfold E8 at h
 refine cw (n := 23) (rs := [.tmp 4]) Tryz.func144 fun w0 S0 => ?_
 refine wq rfl (qe rfl ?_)
 refine AJ h (fun v1 => mk [(4, bD v1)] []) (fun j1 h => ?_) (fun v1 h => ?_)
 ·refine Aj Aw rfl (qm rfl (AR rfl (qm rfl ?_)))
  refine CJ 7 h rfl (fun h => ?_) fun h => ?_
  ·refine qw 2 rfl (qp rfl (qw 4 rfl (qu rfl (qu rfl (qw 2 rfl (qu rfl (qu rfl (qn rfl (qp rfl (qe rfl ?_))))))))))
   exact sn [] h
  ·refine qm rfl (AR rfl (qp rfl (qm rfl ?_)))
   refine CJ 11 h rfl (fun h => ?_) fun h => ?_
   ·refine qw 3 rfl (qu rfl (qu rfl (qw 2 rfl (qu rfl (qu rfl (qn rfl (qp rfl (qe rfl ?_))))))))
    exact sn [] h
   ·refine qm rfl (AR rfl (qm rfl ?_))
    refine CJ 14 h rfl (fun h => ?_) fun h => ?_
    ·refine qw 2 rfl (qp rfl (qw 2 rfl (Ch rfl (qp rfl (qp rfl (qe rfl ?_))))))
     exact sn [] h
    ·refine qm rfl (AR rfl (qp rfl (qm rfl ?_)))
     refine CJ 18 h rfl (fun h => ?_) fun h => ?_
     ·refine qm rfl (Ch rfl (qp rfl (qp rfl (qe rfl ?_))))
      exact sn [] h
     ·refine qw 2 rfl (qp rfl (qp rfl (qe rfl ?_)))
      exact sn [] h
 ·obtain rfl := sj h
  refine Ad (sm [] [(4, bD v1)] [] rfl rfl) (Aq ?_)
  exact ⟨⟨[_], tm, rfl⟩, tv⟩
theorem J9 (N : Nat) (p0 : List Bool) (p1 : Int) (r : Bool) (h : CP N p0 p1 = some r) : Ap uS 174 [pD (.sl (p0.map eB)), oD (.rop [.val (.int .i64 p1)])] [] (bD r) := by
 unfold CP at h
 refine cw (n := 8) (rs := [.tmp 3]) Tryz.func174 fun w0 S0 => ?_
 refine wq rfl (qa rfl (Ab (wq rfl (qm rfl (AF H2 rfl (qk A5 rfl (BD rfl (qe rfl ?_))))))))
 obtain rfl := sj h
 refine Ad (sm [] [(3, bD (((p0.length : Int) != p1)))] [] rfl rfl) (Aq ?_)
 exact ⟨⟨[_], tm, rfl⟩, tv⟩
theorem Gs (N : Nat) (p0 : List (List Bool)) (p1 : (List Bool) → Option Bool) (r : Int) (h : Cn N p0 p1 = some r) : Ap uS 189 [pD (.sl (p0.map (K5 eB))), oD (.clo (Iz (MF false (K5 eB)) tB p1))] [] (iD r) := by
 unfold Cn at h
 refine cw (n := 19) (rs := [.tmp 4]) Tryz.func189 fun w0 S0 => ?_
 refine wq rfl (qa rfl (Ab (wp rfl (qm rfl (AF DO rfl (qm rfl (Ab ?_)))))))
 refine A1 (L := A3 N p0 p1) h (fun v1 => mk [(0, pD (.sl (p0.map (K5 eB)))), (1, oD (.clo (Iz (MF false (K5 eB)) tB p1))), (7, iD ((p0.length : Int))), (8, iD v1)] []) (fun v2 => mk [] []) (fun _ _ => rfl) (sm [] _ _ rfl rfl) (fun j1 n1 v1 h => ?_) (fun v2 s h hs => ?_)
 ·unfold A3 at h
  refine wq rfl (A2 rfl (Ab (AQ ?_)))
  refine Be h (fun h => ?_) fun h => ?_
  ·refine Ao (AQ (AP (wq rfl (qm rfl (qa rfl (Ab (wq rfl (qw 3 rfl ?_))))))))
   refine BP h fun v4 a4 b4 h => qi DO JN a4 (Ah b4) rfl (qk J2 rfl ?_)
   refine B1 h fun v5 a5 h => K3 (ds0 := [_]) (ar := (MF false (K5 eB)) v4) (.p rfl) rfl rfl ⟨rfl, tv⟩ rfl rfl rfl (KZ (K2 _ _ (Vi Wu)) a5) ?_
   refine Ab ?_
   refine Be h (fun h => ?_) fun h => ?_
   ·refine wq rfl (qm rfl (qe rfl ?_))
    obtain rfl := sj h
    refine Ad (sm [] [(4, iD v1)] [] rfl rfl) (Aq ?_)
    exact ⟨⟨[_], tm, rfl⟩, tv⟩
   ·refine Ao (Aj Aw rfl (Cg rfl (qm rfl (Ab ?_))))
    exact sn [] h
  ·refine BT ?_
   exact sn [] h
 ·refine Ad hs (wq rfl (qe rfl ?_))
  obtain rfl := sj h
  refine Ad (sm [] [(4, iD ((-1)))] [] rfl rfl) (Aq ?_)
  exact ⟨⟨[_], tm, rfl⟩, tv⟩
theorem FU (N : Nat) (p0 : List (List Bool)) (p1 : (List Bool) → Option Bool) (r : Bool) (h : B3 N p0 p1 = some r) : Ap uS 173 [pD (.sl (p0.map (K5 eB))), oD (.clo (Iz (MF false (K5 eB)) tB p1))] [] (bD r) := by
 unfold B3 at h
 refine cw (n := 9) (rs := [.tmp 4]) Tryz.func173 fun w0 S0 => ?_
 refine wq rfl (qa rfl (Ab (wq rfl (qw 2 rfl ?_))))
 refine B1 h fun v1 a1 h => Av [] (Gs N p0 p1 v1 a1) VJ rfl (Dg rfl (qe rfl ?_))
 obtain rfl := sj h
 refine Ad (sm [] [(4, bD ((decide (0 ≤ v1))))] [] rfl rfl) (Aq ?_)
 exact ⟨⟨[_], tm, rfl⟩, tv⟩
theorem IH (N : Nat) (p0 : List (List Bool)) (p1 : Int) (p2 : Int) (r : Bool) (h : DQ N p0 p1 p2 = some r) : Ap uS 145 [pD (.sl (p0.map (K5 eB))), iD p1, iD p2] [] (bD r) := by
 unfold DQ at h
 refine cw (n := 17) (rs := [.tmp 6]) Tryz.func145 fun w0 S0 => ?_
 refine wq rfl (qb rfl (qe rfl ?_))
 refine AJ h (fun v1 => mk [(6, bD v1)] []) (fun j1 h => ?_) (fun v1 h => ?_)
 ·refine Aj Aw rfl (qm rfl (AF DO rfl (qm rfl (AR rfl (qm rfl ?_)))))
  refine CJ 11 h rfl (fun h => ?_) fun h => ?_
  ·refine qm rfl (Fz (Ii 5 [.val (.int .i64 p2)] rfl rfl) ?_)
   refine Pr (capD := [_]) (Iz (MF false (K5 eB)) tB ((fun (x : List Bool) => CP N x p2))) (.g rfl rfl) UJ rfl ⟨rfl, tv⟩ rfl (fun ar t ht => by obtain ⟨x, r, rfl, hq, rfl⟩ := IP ht; exact J9 N x p2 r hq) ?_
   refine B1 h fun v3 a3 h => Av [] (FU N p0 ((fun (x : List Bool) => CP N x p2)) v3 a3) UW rfl (Ch rfl (qp rfl (qe rfl ?_)))
   exact sn [] h
  ·refine qw 4 rfl (qp rfl (qe rfl ?_))
   exact sn [] h
 ·obtain rfl := sj h
  refine Ad (sm [] [(6, bD v1)] [] rfl rfl) (Aq ?_)
  exact ⟨⟨[_], tm, rfl⟩, tv⟩
theorem Mh (N : Nat) (p0 : Aa) (p1 : AH) (r : Int) (h : EN N p0 p1 = some r) : Ap uS 103 [.e (.agg (Al p0)), .e (.agg (CA p1))] [] (iD r) := by
 unfold EN at h
 refine cw (n := 87) (rs := [.tmp 4]) Tryz.func103 fun w0 S0 => ?_
 refine wq rfl (qb rfl (qb rfl (qa rfl (Ab (wp rfl (qf DJ rfl (ql A5 rfl (qf OE rfl (ql Qq rfl ?_)))))))))
 refine B1 h fun v1 a1 h => Av [] (M3 N p1.fa p1.fM v1 a1) VW rfl (Ch rfl (Ab ?_))
 refine Be h (fun h => ?_) fun h => ?_
 ·refine wq rfl (qe rfl ?_)
  obtain rfl := sj h
  refine Ad (sm [] [(4, iD 1)] [] rfl rfl) (Aq ?_)
  exact ⟨⟨[_], tm, rfl⟩, tv⟩
 ·refine Ao (AQ ?_)
  refine AJ h (fun v3 => mk [(2, oD (.ptr 2 0)), (3, oD (.ptr 3 0)), (29, bD v3)] [(2, .box (Al p0)), (3, .box (CA p1))]) (fun j3 h => ?_) (fun v3 h => ?_)
  ·refine Aj Aw rfl (qf Ci rfl (ql A5 rfl (qf BI rfl (ql Bc rfl (AF AB rfl ?_)))))
   refine B1 h fun v4 a4 h => Av [] (FJ N p1.fj ((p0.fb.length : Int)) v4 a4) PW rfl (Ch rfl (qm rfl ?_))
   refine CJ 21 h rfl (fun h => ?_) fun h => ?_
   ·refine qw 7 rfl (qp rfl (Ab ?_))
    exact sn [] h
   ·refine qf G5 rfl (ql A5 rfl (qf BI rfl (ql Bc rfl (AF AB rfl ?_))))
    refine B1 h fun v6 a6 h => Av [] (FJ N p1.fw ((p0.fb.length : Int)) v6 a6) PW rfl (Ch rfl (qp rfl (Ab ?_)))
    exact sn [] h
  ·refine Be h (fun h => ?_) fun h => ?_
   ·refine wq rfl (qe rfl ?_)
    obtain rfl := sj h
    refine Ad (sm [] [(4, iD 4)] [] rfl rfl) (Aq ?_)
    exact ⟨⟨[_], tm, rfl⟩, tv⟩
   ·refine Ao (wq rfl (qf BI rfl (ql Bc rfl (qf Ci rfl (ql A5 rfl ?_)))))
    refine BP h fun v8 a8 b8 h => qi AB Cy a8 (Ah b8) rfl (qk A5 rfl (qa rfl (Ab (wq rfl (qf DJ rfl (ql A5 rfl (AR rfl (qa rfl (Ab (AQ ?_))))))))))
    refine AJ h (fun v9 => mk [(3, oD (.ptr 3 0)), (70, bD v9)] [(3, .box (CA p1))]) (fun j9 h => ?_) (fun v9 h => ?_)
    ·refine Aj Aw rfl (qf Hb rfl (ql E7 rfl (qm rfl (qf BI rfl (ql Bc rfl (qf G5 rfl (ql A5 rfl ?_)))))))
     refine BP h fun v10 a10 b10 h => qi AB Cy a10 (Ah b10) rfl (qk A5 rfl ?_)
     refine B1 h fun v11 a11 h => Av [] (IH N p1.fH v8 v10 v11 a11) Tl rfl (Ch rfl (qm rfl ?_))
     refine CJ 50 h rfl (fun h => ?_) fun h => ?_
     ·refine qw 2 rfl (qu rfl (qu rfl (qu rfl (qu rfl (qu rfl (qu rfl (qn rfl (qp rfl (qw 4 rfl (qu rfl (qu rfl (qu rfl (qu rfl (qn rfl (qp rfl (AE (by kernel_rfl) ?_))))))))))))))))
      exact sn [] h
     ·refine qw 2 rfl ?_
      refine CJ 52 h rfl (fun h => ?_) fun h => ?_
      ·refine qf DW rfl (ql E7 rfl (qw 2 rfl ?_))
       refine B1 h fun v14 a14 h => Av [] (IH N p1.fr v8 v8 v14 a14) Tl rfl (Ch rfl (qp rfl (qp rfl (qm rfl ?_))))
       refine CJ 61 h rfl (fun h => ?_) fun h => ?_
       ·refine qw 3 rfl (qu rfl (qu rfl (qu rfl (qu rfl (qn rfl (qp rfl (AE (by kernel_rfl) ?_)))))))
        exact sn [] h
       ·refine qm rfl (Ch rfl (qm rfl ?_))
        refine CJ 64 h rfl (fun h => ?_) fun h => ?_
        ·refine qf DW rfl (ql E7 rfl (AF DO rfl (DX rfl (qp rfl (qp rfl (AE (by kernel_rfl) ?_))))))
         exact sn [] h
        ·refine qw 4 rfl (qp rfl (qp rfl (AE (by kernel_rfl) ?_)))
         exact sn [] h
      ·refine qw 6 rfl (qp rfl (qp rfl (qw 2 rfl (Ch rfl (qm rfl ?_)))))
       refine CJ 64 h rfl (fun h => ?_) fun h => ?_
       ·refine qf DW rfl (ql E7 rfl (AF DO rfl (DX rfl (qp rfl (qp rfl (AE (by kernel_rfl) ?_))))))
        exact sn [] h
       ·refine qw 4 rfl (qp rfl (qp rfl (AE (by kernel_rfl) ?_)))
        exact sn [] h
    ·refine Be h (fun h => ?_) fun h => ?_
     ·refine wq rfl (qe rfl ?_)
      obtain rfl := sj h
      refine Ad (sm [] [(4, iD 6)] [] rfl rfl) (Aq ?_)
      exact ⟨⟨[_], tm, rfl⟩, tv⟩
     ·refine Ao (wp rfl (qf DW rfl (ql E7 rfl (AF DO rfl (qm rfl (Ab ?_))))))
      refine A1 (L := B9 N p1) h (fun v19 => mk [(3, oD (.ptr 3 0)), (73, iD ((p1.fr.length : Int))), (74, iD v19)] [(3, .box (CA p1))]) (fun v20 => mk [] []) (fun _ _ => rfl) (sm [] _ _ rfl rfl) (fun j19 n19 v19 h => ?_) (fun v20 s h hs => ?_)
      ·unfold B9 at h
       refine wq rfl (A2 rfl (Ab (AQ ?_)))
       refine Be h (fun h => ?_) fun h => ?_
       ·refine Ao (AQ (AP (wq rfl (qm rfl (qa rfl (Ab (wq rfl (qf DW rfl (ql E7 rfl (qm rfl ?_))))))))))
        refine BP h fun v22 a22 b22 h => qi DO JN a22 (Ah b22) rfl (qk J2 rfl (qm rfl ?_))
        refine BP h fun v23 a23 b23 h => qi H2 Rt a23 (Ah b23) rfl (qk Qq rfl (Ch rfl (Ab ?_)))
        refine Be h (fun h => ?_) fun h => ?_
        ·refine wq rfl (qe rfl ?_)
         obtain rfl := sj h
         refine Ad (sm [] [(4, iD 1)] [] rfl rfl) (Aq ?_)
         exact ⟨⟨[_], tm, rfl⟩, tv⟩
        ·refine Ao (Aj Aw rfl (Cg rfl (qm rfl (Ab ?_))))
         exact sn [] h
       ·refine BT ?_
        exact sn [] h
      ·refine Ad hs (wq rfl (qe rfl ?_))
       obtain rfl := sj h
       refine Ad (sm [] [(4, iD 0)] [] rfl rfl) (Aq ?_)
       exact ⟨⟨[_], tm, rfl⟩, tv⟩
theorem DS (N : Nat) (p0 : Aa) (r : Int) (h : BO N p0 = some r) : Ap uS 59 [.e (.agg (Al p0))] [] (iD r) := by
 unfold BO at h
 refine cw (n := 81) (rs := [.tmp 2]) Tryz.func59 fun w0 S0 => ?_
 refine wq rfl (qb rfl (qa rfl (Ab (wq rfl (qf BI rfl (ql Bc rfl (AF AB rfl (qa rfl (Ab (AQ ?_))))))))))
 refine AJ h (fun v1 => mk [(1, oD (.ptr 1 0)), (3, iD ((p0.fb.length : Int))), (19, bD v1)] [(1, .box (Al p0))]) (fun j1 h => ?_) (fun v1 h => ?_)
 ·refine Aj Aw rfl (qm rfl (DX rfl (qm rfl ?_)))
  refine CJ 14 h rfl (fun h => ?_) fun h => ?_
  ·refine qw 4 rfl (qp rfl (Ab ?_))
   exact sn [] h
  ·refine qf BJ rfl (ql EW rfl (AF C0 rfl (DX rfl (qp rfl (Ab ?_)))))
   exact sn [] h
 ·refine Be h (fun h => ?_) fun h => ?_
  ·refine wq rfl (qe rfl ?_)
   obtain rfl := sj h
   refine Ad (sm [] [(2, iD 3)] [] rfl rfl) (Aq ?_)
   exact ⟨⟨[_], tm, rfl⟩, tv⟩
  ·refine Ao (AQ ?_)
   refine AJ h (fun v4 => mk [(1, oD (.ptr 1 0)), (31, bD v4)] [(1, .box (Al p0))]) (fun j4 h => ?_) (fun v4 h => ?_)
   ·refine Aj Aw rfl (qf FI rfl (ql Bc rfl (AF AB rfl (qm rfl (BD rfl (qm rfl ?_))))))
    refine CJ 25 h rfl (fun h => ?_) fun h => ?_
    ·refine qw 5 rfl (qp rfl (Ab ?_))
     exact sn [] h
    ·refine qf IL rfl (ql Bc rfl (AF AB rfl (qm rfl (BD rfl (qp rfl (Ab ?_))))))
     exact sn [] h
   ·refine Be h (fun h => ?_) fun h => ?_
    ·refine wq rfl (qe rfl ?_)
     obtain rfl := sj h
     refine Ad (sm [] [(2, iD 6)] [] rfl rfl) (Aq ?_)
     exact ⟨⟨[_], tm, rfl⟩, tv⟩
    ·refine Ao (wp rfl (qf BI rfl (ql Bc rfl (AF AB rfl (qm rfl (Ab ?_))))))
     refine A1 (L := Bo N p0) h (fun v7 => mk [(1, oD (.ptr 1 0)), (33, pD (.sl (p0.fb.map Ar))), (34, iD ((p0.fb.length : Int))), (35, iD v7)] [(1, .box (Al p0))]) (fun v8 => mk [(1, oD (.ptr 1 0))] [(1, .box (Al p0))]) (fun _ _ => rfl) (sm [] _ _ rfl rfl) (fun j7 n7 v7 h => ?_) (fun v8 s h hs => ?_)
     ·unfold Bo at h
      refine wq rfl (A2 rfl (Ab (AQ ?_)))
      refine Be h (fun h => ?_) fun h => ?_
      ·refine Ao (AQ (AP (wq rfl (qm rfl ?_))))
       refine BP h fun v10 a10 b10 h => qi AB Cy a10 (Ah b10) rfl (qk A5 rfl (qa rfl (qe rfl ?_)))
       refine AJ h (fun v11 => mk [(1, oD (.ptr 1 0)), (33, pD (.sl (p0.fb.map Ar))), (34, iD ((p0.fb.length : Int))), (35, iD v7), (65, bD v11)] [(1, .box (Al p0))]) (fun j11 h => ?_) (fun v11 h => ?_)
       ·refine Aj Aw rfl (qm rfl (A2 rfl (qm rfl ?_)))
        refine CJ 42 h rfl (fun h => ?_) fun h => ?_
        ·refine qw 2 rfl (qp rfl (qw 9 rfl (qp rfl (qw 9 rfl (qp rfl (Ab ?_))))))
         exact sn [] h
        ·refine qm rfl (DX rfl (qp rfl (qm rfl ?_)))
         refine CJ 46 h rfl (fun h => ?_) fun h => ?_
         ·refine qw 8 rfl (qp rfl (qw 9 rfl (qp rfl (Ab ?_))))
          exact sn [] h
         ·refine qf FI rfl (ql Bc rfl (qm rfl ?_))
          refine BP h fun v14 a14 b14 h => qi AB Cy a14 (Ah b14) rfl (qk A5 rfl (qm rfl ?_))
          refine B1 h fun v15 a15 h => Av [] (FJ N v14 v10 v15 a15) PW rfl (Ch rfl (qp rfl (qm rfl ?_)))
          refine CJ 56 h rfl (fun h => ?_) fun h => ?_
          ·refine qw 8 rfl (qp rfl (Ab ?_))
           exact sn [] h
          ·refine qf IL rfl (ql Bc rfl (qm rfl ?_))
           refine BP h fun v17 a17 b17 h => qi AB Cy a17 (Ah b17) rfl (qk A5 rfl (qm rfl ?_))
           refine B1 h fun v18 a18 h => Av [] (FJ N v17 v10 v18 a18) PW rfl (Ch rfl (qp rfl (Ab ?_)))
           exact sn [] h
       ·refine Be h (fun h => ?_) fun h => ?_
        ·refine wq rfl (qe rfl ?_)
         obtain rfl := sj h
         refine Ad (sm [] [(2, iD 7)] [] rfl rfl) (Aq ?_)
         exact ⟨⟨[_], tm, rfl⟩, tv⟩
        ·refine Ao (Aj Aw rfl (Cg rfl (qm rfl (Ab ?_))))
         exact sn [] h
      ·refine BT ?_
       exact sn [] h
     ·refine Ad hs (wp rfl (qf BJ rfl (ql EW rfl (AF C0 rfl (qm rfl (Ab ?_))))))
      refine A1 (L := Bj N p0) h (fun v20 => mk [(1, oD (.ptr 1 0)), (68, pD (.sl (p0.fd.map Bw))), (69, iD ((p0.fd.length : Int))), (70, iD v20)] [(1, .box (Al p0))]) (fun v21 => mk [] []) (fun _ _ => rfl) (sm [] _ _ rfl rfl) (fun j20 n20 v20 h => ?_) (fun v21 s h hs => ?_)
      ·unfold Bj at h
       refine wq rfl (A2 rfl (Ab (AQ ?_)))
       refine Be h (fun h => ?_) fun h => ?_
       ·refine Ao (AQ (AP (wq rfl ?_)))
        refine BP h fun v23 a23 b23 h => qi C0 BY a23 (Ah b23) rfl (qK ER BY rfl (qz JR rfl (qs BY rfl (Ab (wq rfl (qL DI DD rfl (qL ER BY rfl ?_)))))))
        refine B1 h fun v24 a24 h => Av [] (Mh N p0 v23 v24 a24) UE rfl (qa rfl (Ab (wq rfl (qm rfl (BD rfl (Ab ?_))))))
        refine Be h (fun h => ?_) fun h => ?_
        ·refine wq rfl (qm rfl (qe rfl ?_))
         obtain rfl := sj h
         refine Ad (sm [] [(2, iD v24)] [] rfl rfl) (Aq ?_)
         exact ⟨⟨[_], tm, rfl⟩, tv⟩
        ·refine Ao (Aj Aw rfl (Cg rfl (qm rfl (Ab ?_))))
         exact sn [] h
       ·refine BT ?_
        exact sn [] h
      ·refine Ad hs (wq rfl (qe rfl ?_))
       obtain rfl := sj h
       refine Ad (sm [] [(2, iD 0)] [] rfl rfl) (Aq ?_)
       exact ⟨⟨[_], tm, rfl⟩, tv⟩
theorem GS (N : Nat) (p0 : List Int) (p1 : Int → Option Bool) (r : Int) (h : DE N p0 p1 = some r) : Ap uS 147 [pD (.sl (p0.map Ar)), oD (.clo (Iz (MF false Ar) tB p1))] [] (iD r) := by
 unfold DE at h
 refine cw (n := 19) (rs := [.tmp 4]) Tryz.func147 fun w0 S0 => ?_
 refine wq rfl (qa rfl (Ab (wp rfl (qm rfl (AF AB rfl (qm rfl (Ab ?_)))))))
 refine A1 (L := Cd N p0 p1) h (fun v1 => mk [(0, pD (.sl (p0.map Ar))), (1, oD (.clo (Iz (MF false Ar) tB p1))), (7, iD ((p0.length : Int))), (8, iD v1)] []) (fun v2 => mk [] []) (fun _ _ => rfl) (sm [] _ _ rfl rfl) (fun j1 n1 v1 h => ?_) (fun v2 s h hs => ?_)
 ·unfold Cd at h
  refine wq rfl (A2 rfl (Ab (AQ ?_)))
  refine Be h (fun h => ?_) fun h => ?_
  ·refine Ao (AQ (AP (wq rfl (qm rfl (qa rfl (Ab (wq rfl (qw 3 rfl ?_))))))))
   refine BP h fun v4 a4 b4 h => qi AB Cy a4 (Ah b4) rfl (qk A5 rfl ?_)
   refine B1 h fun v5 a5 h => K3 (ds0 := [_]) (ar := (MF false Ar) v4) (.p rfl) rfl rfl ⟨rfl, tv⟩ rfl rfl rfl (KZ (K2 _ _ Rl) a5) ?_
   refine Ab ?_
   refine Be h (fun h => ?_) fun h => ?_
   ·refine wq rfl (qm rfl (qe rfl ?_))
    obtain rfl := sj h
    refine Ad (sm [] [(4, iD v1)] [] rfl rfl) (Aq ?_)
    exact ⟨⟨[_], tm, rfl⟩, tv⟩
   ·refine Ao (Aj Aw rfl (Cg rfl (qm rfl (Ab ?_))))
    exact sn [] h
  ·refine BT ?_
   exact sn [] h
 ·refine Ad hs (wq rfl (qe rfl ?_))
  obtain rfl := sj h
  refine Ad (sm [] [(4, iD ((-1)))] [] rfl rfl) (Aq ?_)
  exact ⟨⟨[_], tm, rfl⟩, tv⟩
theorem Gl (N : Nat) (p0 : List Int) (p1 : Int → Option Bool) (r : Bool) (h : C5 N p0 p1 = some r) : Ap uS 108 [pD (.sl (p0.map Ar)), oD (.clo (Iz (MF false Ar) tB p1))] [] (bD r) := by
 unfold C5 at h
 refine cw (n := 9) (rs := [.tmp 4]) Tryz.func108 fun w0 S0 => ?_
 refine wq rfl (qa rfl (Ab (wq rfl (qw 2 rfl ?_))))
 refine B1 h fun v1 a1 h => Av [] (GS N p0 p1 v1 a1) VM rfl (Dg rfl (qe rfl ?_))
 obtain rfl := sj h
 refine Ad (sm [] [(4, bD ((decide (0 ≤ v1))))] [] rfl rfl) (Aq ?_)
 exact ⟨⟨[_], tm, rfl⟩, tv⟩
theorem Jw (N : Nat) (p0 : Int) (r : Bool) (h : Eh N p0 = some r) : Ap uS 109 [iD p0] [] (bD r) := by
 unfold Eh at h
 refine cw (n := 9) (rs := [.tmp 2]) Tryz.func109 fun w0 S0 => ?_
 refine wq rfl (qe rfl ?_)
 refine AJ h (fun v1 => mk [(2, bD v1)] []) (fun j1 h => ?_) (fun v1 h => ?_)
 ·refine Aj Aw rfl (qm rfl (A2 rfl (qm rfl ?_)))
  refine CJ 5 h rfl (fun h => ?_) fun h => ?_
  ·refine qw 2 rfl (qp rfl (qe rfl ?_))
   exact sn [] h
  ·refine qm rfl (DX rfl (qp rfl (qe rfl ?_)))
   exact sn [] h
 ·obtain rfl := sj h
  refine Ad (sm [] [(2, bD v1)] [] rfl rfl) (Aq ?_)
  exact ⟨⟨[_], tm, rfl⟩, tv⟩
theorem KP (N : Nat) (p0 : Aa) (p1 : List Int) (r : Int) (h : F3 N p0 p1 = some r) : Ap uS 71 [.e (.agg (Al p0)), pD (.sl (p1.map Ar))] [] (iD r) := by
 unfold F3 at h
 refine cw (n := 15) (rs := [.tmp 4]) Tryz.func71 fun w0 S0 => ?_
 refine wq rfl (qb rfl (qa rfl (Ab (AQ (AP (wq rfl (qm rfl (AF AB rfl (qf BI rfl (ql Bc rfl (AF AB rfl (BD rfl (qe rfl ?_)))))))))))))
 refine Be h (fun h => ?_) fun h => ?_
 ·refine wq rfl (qe rfl ?_)
  obtain rfl := sj h
  refine Ad (sm [] [(4, iD 6)] [] rfl rfl) (Aq ?_)
  exact ⟨⟨[_], tm, rfl⟩, tv⟩
 ·refine wq rfl (qm rfl ?_)
  refine B1 h fun v2 a2 h => Av [] (Ap.weak (ds' := [pD (.sl (p1.map Ar)), oD (.fnc 109)]) (Gl N p1 ((fun (x : Int) => Eh N x)) v2 a2) ⟨(fun _ _ _ hh => hh), (fun _ _ _ hh => NT Vz (fun ar t ht => by obtain ⟨x, r, rfl, hq, rfl⟩ := IP ht; exact Jw N x r hq) hh), tv⟩) U1 rfl ?_
  refine qa rfl (Ab ?_)
  refine Be h (fun h => ?_) fun h => ?_
  ·refine wq rfl (qe rfl ?_)
   obtain rfl := sj h
   refine Ad (sm [] [(4, iD 7)] [] rfl rfl) (Aq ?_)
   exact ⟨⟨[_], tm, rfl⟩, tv⟩
  ·refine Ao (wq rfl (qe rfl ?_))
   obtain rfl := sj h
   refine Ad (sm [] [(4, iD 0)] [] rfl rfl) (Aq ?_)
   exact ⟨⟨[_], tm, rfl⟩, tv⟩
theorem E1 (N : Nat) (p0 : List Am) (p1 : Am → Option Bool) (r : Int) (h : Bh N p0 p1 = some r) : Ap uS 148 [pD (.sl (p0.map AO)), oD (.clo (Iz (MF true AO) tB p1))] [] (iD r) := by
 unfold Bh at h
 refine cw (n := 19) (rs := [.tmp 4]) Tryz.func148 fun w0 S0 => ?_
 refine wq rfl (qa rfl (Ab (wp rfl (qm rfl (AF Gn rfl (qm rfl (Ab ?_)))))))
 refine A1 (L := AN N p0 p1) h (fun v1 => mk [(0, pD (.sl (p0.map AO))), (1, oD (.clo (Iz (MF true AO) tB p1))), (7, iD ((p0.length : Int))), (8, iD v1)] []) (fun v2 => mk [] []) (fun _ _ => rfl) (sm [] _ _ rfl rfl) (fun j1 n1 v1 h => ?_) (fun v2 s h hs => ?_)
 ·unfold AN at h
  refine wq rfl (A2 rfl (Ab (AQ ?_)))
  refine Be h (fun h => ?_) fun h => ?_
  ·refine Ao (AQ (AP (wq rfl (qm rfl (qa rfl (Ab (wq rfl (qw 3 rfl ?_))))))))
   refine BP h fun v4 a4 b4 h => qi Gn FD a4 (Ah b4) rfl (qK If FD rfl ?_)
   refine B1 h fun v5 a5 h => K3 (ds0 := [_]) (ar := (MF true AO) v4) (.p rfl) rfl rfl ⟨rfl, tv⟩ rfl rfl rfl (KZ (K2 _ _ Pv) a5) ?_
   refine Ab ?_
   refine Be h (fun h => ?_) fun h => ?_
   ·refine wq rfl (qm rfl (qe rfl ?_))
    obtain rfl := sj h
    refine Ad (sm [] [(4, iD v1)] [] rfl rfl) (Aq ?_)
    exact ⟨⟨[_], tm, rfl⟩, tv⟩
   ·refine Ao (Aj Aw rfl (Cg rfl (qm rfl (Ab ?_))))
    exact sn [] h
  ·refine BT ?_
   exact sn [] h
 ·refine Ad hs (wq rfl (qe rfl ?_))
  obtain rfl := sj h
  refine Ad (sm [] [(4, iD ((-1)))] [] rfl rfl) (Aq ?_)
  exact ⟨⟨[_], tm, rfl⟩, tv⟩
theorem EG (N : Nat) (p0 : List Am) (p1 : Am → Option Bool) (r : Bool) (h : A8 N p0 p1 = some r) : Ap uS 110 [pD (.sl (p0.map AO)), oD (.clo (Iz (MF true AO) tB p1))] [] (bD r) := by
 unfold A8 at h
 refine cw (n := 9) (rs := [.tmp 4]) Tryz.func110 fun w0 S0 => ?_
 refine wq rfl (qa rfl (Ab (wq rfl (qw 2 rfl ?_))))
 refine B1 h fun v1 a1 h => Av [] (E1 N p0 p1 v1 a1) UK rfl (Dg rfl (qe rfl ?_))
 obtain rfl := sj h
 refine Ad (sm [] [(4, bD ((decide (0 ≤ v1))))] [] rfl rfl) (Aq ?_)
 exact ⟨⟨[_], tm, rfl⟩, tv⟩
theorem IU (N : Nat) (p0 : Am) (r : Bool) (h : Db N p0 = some r) : Ap uS 111 [.e (.agg (BL p0))] [] (bD r) := by
 unfold Db at h
 refine cw (n := 6) (rs := [.tmp 2]) Tryz.func111 fun w0 S0 => ?_
 refine wq rfl (qb rfl (qa rfl (Ab (wq rfl (qf CU rfl (ql A5 rfl (AR rfl (qe rfl ?_))))))))
 obtain rfl := sj h
 refine Ad (sm [] [(2, bD ((p0.fa == 4)))] [] rfl rfl) (Aq ?_)
 exact ⟨⟨[_], tm, rfl⟩, tv⟩
theorem Eg (N : Nat) (p0 : List Int) (r : (List Int)) (h : BS N p0 = some r) : Ap uS 149 [pD (.sl (p0.map Ar))] [(1, r.map Ar)] (oD (.own 0)) := by
 unfold BS at h
 refine cw (n := 8) (rs := [.tmp 2]) Tryz.func149 fun w0 S0 => ?_
 refine wq rfl (qa rfl (Ab (wp rfl (qm rfl ?_))))
 refine Nr (.p rfl) rfl AB ?_
 refine Ab ?_
 refine Nk rfl (fun c2 => ?_) ?_
 ·have c2 := zC4.1 c2
  rw [c2] at h
  have h : (some (([] : List Int))) = some r := h
  refine wq rfl (qe rfl ?_)
  obtain rfl := sj h
  refine Ad ((EP 2 2001 1 rfl rfl rfl).trans (sm [(1000, 2001)] [(2, oD (.own 1000))] [(1000, .vec 1 ((([] : List Int)).map Ar))] rfl rfl)) (Aq ?_)
  exact ⟨⟨[_], tm, rfl⟩, ⟨rfl, tv⟩⟩
 ·refine Ao (wq rfl (Fg AB Cy ML rfl (qm rfl ?_)))
  refine Hz h fun c1 h => Ko (f := Ar) AB AB Cy Pi ML (fun _ => rfl) c1 rfl (qe rfl ?_)
  obtain rfl := sj h
  refine Ad (sm [(1000, 7)] [(2, oD (.own 1000))] [(1000, .vec 1 (((([] : List Int)) ++ p0).map Ar))] rfl rfl) (Aq ?_)
  exact ⟨⟨[_], tm, rfl⟩, ⟨rfl, tv⟩⟩
theorem JH (N : Nat) (p0 : Int) (p1 : Int) (r : Int × Int) (h : Fe N p0 p1 = some r) : Ap uS 190 [pD (.val (.int .u32 p0)), pD (.val (.int .u32 p1))] [] (.tup [.one (.pure (.val (.int .u32 r.1))), .one (.pure (.val (.int .u32 r.2)))]) := by
 unfold Fe at h
 refine cw (n := 17) (rs := [.tmp 4, .tmp 5]) Tryz.func190 fun w0 S0 => ?_
 refine wq rfl (qa rfl (qa rfl (Ab (wq rfl (qm rfl (Kj PM TH rfl (qm rfl (Kj PM TH rfl (MG rfl (qa rfl (Ab (wq rfl (qm rfl (KM rfl (by decide) (Kj Tk PV rfl (qm rfl (Kj Tk PV rfl (qa rfl (qe rfl ?_)))))))))))))))))))
 obtain rfl := sj h
 refine Ad (sm [] [(4, pD (.val (.int .u32 ((wI .u32 ((FM .u64 ((wI .u64 ((wI .u64 p0) * (wI .u64 p1)))) 32))))))), (5, pD (.val (.int .u32 ((wI .u32 ((wI .u64 ((wI .u64 p0) * (wI .u64 p1)))))))))] [] rfl rfl) (Aq ?_)
 exact ⟨⟨[_, _], ⟨.tmp _ _ rfl, tm⟩, rfl⟩, tv⟩
theorem Jv (N : Nat) (p0 : Int) (p1 : Int) (r : Int × Int) (h : Fl N p0 p1 = some r) : Ap uS 191 [pD (.val (.int .u64 p0)), pD (.val (.int .u64 p1))] [] (.tup [.one (.pure (.val (.int .u64 r.1))), .one (.pure (.val (.int .u64 r.2)))]) := by
 unfold Fl at h
 refine cw (n := 51) (rs := [.tmp 4, .tmp 5]) Tryz.func191 fun w0 S0 => ?_
 refine wq rfl (qa rfl (qa rfl (Ab (wq rfl (qm rfl (MS rfl (qa rfl (Ab (wq rfl (qm rfl (KM rfl (by decide) (qa rfl (Ab (wq rfl (qm rfl (MS rfl (qa rfl (Ab (wq rfl (qm rfl (KM rfl (by decide) (qa rfl (Ab (wq rfl (qw 2 rfl (MG rfl (qa rfl (Ab (wq rfl (qw 2 rfl ?_))))))))))))))))))))))))))))))
 refine MG rfl (qm rfl (KM rfl (by decide) (Cg rfl (qa rfl (Ab (wq rfl (qm rfl (MS rfl (qa rfl (Ab (wq rfl (qm rfl (KM rfl (by decide) (qa rfl (Ab (wq rfl (qw 3 rfl (MG rfl (Cg rfl (qa rfl (Ab (wq rfl (qw 2 rfl (MG rfl (qm rfl (Cg rfl (qm rfl (KM rfl (by decide) (Cg rfl (qa rfl (Ab (AQ ?_))))))))))))))))))))))))))))))))
 refine Aj Aw rfl (qw 2 rfl (MG rfl (qe rfl ?_)))
 obtain rfl := sj h
 refine Ad (sm [] [(4, pD (.val (.int .u64 ((wI .u64 ((wI .u64 ((wI .u64 ((FM .u64 p0 32) * (FM .u64 p1 32))) + (FM .u64 ((wI .u64 ((wI .u64 ((FM .u64 p0 32) * (Ft .u64 p1 4294967295))) + (FM .u64 ((wI .u64 ((Ft .u64 p0 4294967295) * (Ft .u64 p1 4294967295)))) 32)))) 32))) + (FM .u64 ((wI .u64 ((Ft .u64 ((wI .u64 ((wI .u64 ((FM .u64 p0 32) * (Ft .u64 p1 4294967295))) + (FM .u64 ((wI .u64 ((Ft .u64 p0 4294967295) * (Ft .u64 p1 4294967295)))) 32)))) 4294967295) + (wI .u64 ((Ft .u64 p0 4294967295) * (FM .u64 p1 32)))))) 32))))))), (5, pD (.val (.int .u64 ((wI .u64 (p0 * p1))))))] [] rfl rfl) (Aq ?_)
 exact ⟨⟨[_, _], ⟨.tmp _ _ rfl, tm⟩, rfl⟩, tv⟩
theorem KY (N : Nat) (p0 : Int) (p1 : Int) (r : Int × Int) (h : F8 N p0 p1 = some r) : Ap uS 175 [pD (.val (.int .u64 p0)), pD (.val (.int .u64 p1))] [] (.tup [.one (.pure (.val (.int .u64 r.1))), .one (.pure (.val (.int .u64 r.2)))]) := by
 unfold F8 at h
 refine cw (n := 30) (rs := [.tmp 4, .tmp 5]) Tryz.func175 fun w0 S0 => ?_
 refine wq rfl (qa rfl (qa rfl (Ab (AQ ?_))))
 refine Be h (fun h => ?_) fun h => ?_
 ·refine wq rfl (qm rfl (Kj QL PV rfl (qm rfl (Kj QL PV rfl ?_))))
  refine B1 h fun v2 a2 h => Av [] (JH N ((wI .u32 p0)) ((wI .u32 p1)) v2 a2) Vj rfl (qm rfl (qx rfl (qx rfl (qa rfl (qa rfl (Ab (wq rfl (qm rfl (Kj PM PJ rfl (qm rfl (Kj PM PJ rfl (qa rfl (qe rfl ?_)))))))))))))
  obtain rfl := sj h
  refine Ad (sm [] [(4, pD (.val (.int .u64 ((wI .u64 v2.1))))), (5, pD (.val (.int .u64 ((wI .u64 v2.2)))))] [] rfl rfl) (Aq ?_)
  exact ⟨⟨[_, _], ⟨.tmp _ _ rfl, tm⟩, rfl⟩, tv⟩
 ·refine Ao (wq rfl (qw 2 rfl ?_))
  refine B1 h fun v3 a3 h => Av [] (Jv N p0 p1 v3 a3) UM rfl (qm rfl (qx rfl (qx rfl (qa rfl (qa rfl (Ab (wq rfl (qw 2 rfl (qa rfl (qe rfl ?_))))))))))
  obtain rfl := sj h
  refine Ad (sm [] [(4, pD (.val (.int .u64 v3.1))), (5, pD (.val (.int .u64 v3.2)))] [] rfl rfl) (Aq ?_)
  exact ⟨⟨[_, _], ⟨.tmp _ _ rfl, tm⟩, rfl⟩, tv⟩
theorem HH (N : Nat) (p0 : List Int) (p1 : Int) (r : (List Int)) (h : C8 N p0 p1 = some r) : Ap uS 150 [pD (.sl (p0.map Ar)), iD p1] [(1, r.map Ar)] (oD (.own 0)) := by
 unfold C8 at h
 refine cw (n := 48) (rs := [.tmp 4]) Tryz.func150 fun w0 S0 => ?_
 refine wq rfl (qe rfl ?_)
 refine AJ h (fun v1 => mk [(0, pD (.sl (p0.map Ar))), (1, iD p1)] []) (fun j1 h => ?_) (fun v1 h => ?_)
 ·refine wq rfl (qm rfl (A2 rfl (Ab ?_)))
  refine Be h (fun h => ?_) fun h => ?_
  ·refine Aj Aw rfl ?_
   cases h
  ·refine Ao ?_
   exact sn [] h
 ·refine wq rfl (qm rfl (AF AB rfl (Kj WN PJ rfl (qm rfl (Kj WN PJ rfl ?_)))))
  refine B1 h fun v3 a3 h => Av [] (KY N ((wI .u64 ((p0.length : Int)))) ((wI .u64 p1)) v3 a3) UI rfl (qm rfl (qx rfl (qx rfl (qa rfl (qe rfl ?_)))))
  refine AJ h (fun v4 => mk [(0, pD (.sl (p0.map Ar))), (6, pD (.val (.int .u64 v3.2)))] []) (fun j4 h => ?_) (fun v4 h => ?_)
  ·refine AJ h (fun v5 => mk [(0, pD (.sl (p0.map Ar))), (6, pD (.val (.int .u64 v3.2))), (26, bD v5)] []) (fun j5 h => ?_) (fun v5 h => ?_)
   ·refine Aj Aw rfl (qm rfl (DX rfl (qm rfl ?_)))
    refine CJ 23 h rfl (fun h => ?_) fun h => ?_
    ·refine qw 2 rfl (qp rfl (Ab ?_))
     exact sn [] h
    ·refine qm rfl (DX rfl (qp rfl (Ab ?_)))
     exact sn [] h
   ·refine Be h (fun h => ?_) fun h => ?_
    ·refine Aj Aw rfl ?_
     cases h
    ·refine Ao ?_
     exact sn [] h
  ·refine wq rfl (qm rfl (Kj QL Wl rfl ?_))
   refine Hz h fun c8 h => KL (.p rfl) rfl rfl rfl AB Cy Pi (GQ rfl) ML rfl rfl rfl c8.1 c8.2.1 c8.2.2 (PH Ar _ ((0 : Int))) ?_
   refine qa rfl (Ab (wq rfl (qw 2 rfl ?_)))
   refine P8 Ar (vC ((wI .i64 v3.2)).toNat ((0 : Int))) p0 (.p rfl) rfl (LK Ar _ _ (vC ((wI .i64 v3.2)).toNat ((0 : Int)))) rfl rfl (Sv Ar _ _ (fun _ => rfl)) tv AB Cy ?_
   refine qa rfl (Ab (AQ ?_))
   refine A1 (L := CK N) h (fun v9 => mk [(7, oD (.own 2001)), (8, iD v9.2)] [(2001, .vec 1 (v9.1.map Ar))]) (fun v10 => mk [(7, oD (.own 2002))] [(2002, .vec 1 (v10.map Ar))]) (fun _ _ => rfl) (sm [(2001, 30)] _ _ rfl rfl) (fun j9 n9 v9 h => ?_) (fun v10 s h hs => ?_)
   ·unfold CK at h
    refine wp rfl (qw 2 rfl (Pp AB rfl (A2 rfl (Ab ?_))))
    refine Be h (fun h => ?_) fun h => ?_
    ·refine Ao (AP (Aj Aw rfl (qw 3 rfl ?_)))
     obtain ⟨c12, h⟩ := GW h
     have w13 : ((v9.2).toNat) + ((v9.1.length - (v9.2).toNat)) ≤ v9.1.length := by have := c12.2.1; have := c12.2.2; omega
     refine Oo Ar v9.1 (.p rfl) rfl (LK Ar _ _ v9.1) rfl AB Cy (.some _ _ _ _ c12.1) (.none _) ⟨rfl, tv⟩ tv c12.2.1 (by rw [uZ]; exact c12.2.2) (uZ _) rfl ?_
     refine qw 2 rfl ?_
     obtain ⟨c14, h⟩ := GW h
     have w15 : 0 + ((v9.2).toNat) ≤ v9.1.length := by have := c14.2.1; have := c14.2.2; omega
     refine Oo Ar v9.1 (.p rfl) rfl (LK Ar _ _ v9.1) rfl AB Cy (.none _) (.some _ _ _ _ c14.1) tv ⟨rfl, tv⟩ c14.2.1 (by rw [uZ]; exact c14.2.2) (uZ _) rfl ?_
     refine P8 Ar v9.1 (((v9.1.drop 0).take ((v9.2).toNat))) (.p rfl) rfl (Qs Ar _ _ ((v9.2).toNat) ((v9.1.length - (v9.2).toNat)) v9.1 w13) rfl rfl (Qr Ar _ _ 0 ((v9.2).toNat) v9.1 w15) ⟨rfl, tv⟩ AB Cy ?_
     refine Cg rfl (qa rfl (AE (by kernel_rfl) ?_))
     exact sn [] h
    ·refine BT ?_
     exact sn [(2002, 2001)] h
   ·refine Ad hs (wq rfl (qm rfl (qe rfl ?_)))
    obtain rfl := sj h
    refine Ad (sm [(1000, 2002)] [(4, oD (.own 1000))] [(1000, .vec 1 (v10.map Ar))] rfl rfl) (Aq ?_)
    exact ⟨⟨[_], tm, rfl⟩, ⟨rfl, tv⟩⟩
theorem JO (N : Nat) (p0 : AH) (r : Bool) (h : Ev N p0 = some r) : Ap uS 151 [.e (.agg (CA p0))] [] (bD r) := by
 unfold Ev at h
 refine cw (n := 11) (rs := [.tmp 2]) Tryz.func151 fun w0 S0 => ?_
 refine wq rfl (qb rfl (qe rfl ?_))
 refine AJ h (fun v1 => mk [(2, bD v1)] []) (fun j1 h => ?_) (fun v1 h => ?_)
 ·refine Aj Aw rfl (qf DJ rfl (ql A5 rfl (AR rfl (qm rfl ?_))))
  refine CJ 6 h rfl (fun h => ?_) fun h => ?_
  ·refine qw 3 rfl (qp rfl (qe rfl ?_))
   exact sn [] h
  ·refine qf DJ rfl (ql A5 rfl (AR rfl (qp rfl (qe rfl ?_))))
   exact sn [] h
 ·obtain rfl := sj h
  refine Ad (sm [] [(2, bD v1)] [] rfl rfl) (Aq ?_)
  exact ⟨⟨[_], tm, rfl⟩, tv⟩
theorem N6 (N : Nat) (p0 : Aa) (r : Ac × Int) (h : FC N p0 = some r) : Ap uS 112 [.e (.agg (Al p0))] [(1, r.1.fh.map Ar), (1, r.1.ff.map Ar), (1, r.1.fg.map C1)] (.tup [.agg [.own 0, .own 1, .own 2], .one (iC r.2)]) := by
 unfold FC at h
 refine cw (n := 50) (rs := [.cell 2 40, .tmp 3]) Tryz.func112 fun w0 S0 => ?_
 refine wq rfl (qb rfl (qz CO rfl (qa rfl (Ab (wp rfl (qL DI DD rfl ?_))))))
 refine B1 h fun v1 a1 h => Av [] (DS N p0 v1 a1) Sz rfl (qa rfl (Ab (wq rfl (qm rfl (BD rfl (Ab ?_))))))
 refine Be h (fun h => ?_) fun h => ?_
 ·refine wq rfl (Bf CO F6 rfl (qm rfl (qs AM rfl (qe rfl ?_))))
  obtain rfl := sj h
  refine Ad ((Ax 2 0 2001 1 _ rfl rfl rfl rfl).trans ((Ax 2 1 2002 1 _ rfl rfl rfl rfl).trans ((Ax 2 2 2003 1 _ rfl rfl rfl rfl).trans (sm [(1000, 2001), (1001, 2002), (1002, 2003)] [(2, oD (.ptr 2 0)), (3, iD v1)] [(2, .box [.own 1000, .own 1001, .own 1002]), (1000, .vec 1 ((([] : List Int)).map Ar)), (1001, .vec 1 ((([] : List Int)).map Ar)), (1002, .vec 1 ((([] : List Int)).map C1))] rfl rfl)))) (Aq ?_)
  exact ⟨⟨[_, _], ⟨.cellN _ _ _ _ _ _ _ rfl rfl BE AM rfl rfl (Hc rfl), tm⟩, rfl⟩, ⟨rfl, rfl, rfl, tv⟩⟩
 ·refine Ao (wq rfl (qf FI rfl (ql Bc rfl ?_)))
  refine B1 h fun v3 a3 h => Av [2004] (Eg N p0.fk v3 a3) RV rfl (Fg AB Cy ML rfl (qf FI rfl (ql Bc rfl (AF AB rfl ?_))))
  refine B1 h fun v4 a4 h => Hn [2005] [17] (HH N (([(-1)] : List Int)) ((p0.fk.length : Int)) v4 a4) U8 (Pa (fun _ => rfl) Fr) rfl (qf BJ rfl (ql EW rfl (AF C0 rfl ?_)))
  refine Hz h fun c5 h => KL (.p rfl) rfl rfl rfl Dq DF Nh (GQ rfl) LJ rfl rfl rfl c5.1 c5.2.1 c5.2.2 (PH C1 _ ((0 : Int))) ?_
  refine Bf CO F6 rfl (qz CO rfl (qs AM rfl (AE (by kernel_rfl) (wp rfl (qf BJ rfl (ql EW rfl (AF C0 rfl (qm rfl (Ab ?_)))))))))
  refine A1 (L := CY N p0) h (fun v6 => mk [(1, oD (.ptr 1 0)), (2, oD (.ptr 2 0)), (5, oD (.ptr 5 0)), (28, pD (.sl (p0.fd.map Bw))), (29, iD ((p0.fd.length : Int))), (30, iD v6.2)] [(1, .box (Al p0)), (2, .box [.pure (.nil0), .pure (.nil0), .pure (.nil0)]), (5, .box [.own 2006, .own 2007, .own 2008]), (2006, .vec 1 (v3.map Ar)), (2007, .vec 1 (v4.map Ar)), (2008, .vec 1 (v6.1.map C1))]) (fun v7 => mk [(2, oD (.ptr 2 0)), (5, oD (.ptr 5 0))] [(2, .box [.pure (.nil0), .pure (.nil0), .pure (.nil0)]), (5, .box [.own 2009, .own 2010, .own 2011]), (2009, .vec 1 (v3.map Ar)), (2010, .vec 1 (v4.map Ar)), (2011, .vec 1 (v7.map C1))]) (fun _ _ => rfl) (sm [(2006, 2004), (2007, 2005), (2008, 25)] _ _ rfl rfl) (fun j6 n6 v6 h => ?_) (fun v7 s h hs => ?_)
  ·unfold CY at h
   refine wq rfl (A2 rfl (Ab (AQ ?_)))
   refine Be h (fun h => ?_) fun h => ?_
   ·refine Ao ?_
    refine AJ h (fun v9 => mk [(1, oD (.ptr 1 0)), (2, oD (.ptr 2 0)), (5, oD (.ptr 5 0)), (28, pD (.sl (p0.fd.map Bw))), (29, iD ((p0.fd.length : Int))), (30, iD v6.2)] [(1, .box (Al p0)), (2, .box [.pure (.nil0), .pure (.nil0), .pure (.nil0)]), (5, .box [.own 2012, .own 2013, .own 2014]), (2012, .vec 1 (v3.map Ar)), (2013, .vec 1 (v4.map Ar)), (2014, .vec 1 (v9.map C1))]) (fun j9 h => ?_) (fun v9 h => ?_)
    ·refine AP (wq rfl (qm rfl ?_))
     refine BP h fun v10 a10 b10 h => qi C0 BY a10 (Ah b10) rfl (qK ER BY rfl (qz JR rfl (qa rfl (qs BY rfl (Ab (wq rfl (qL ER BY rfl ?_)))))))
     refine B1 h fun v11 a11 h => Av [] (JO N v10 v11 a11) Tp rfl (Ab ?_)
     refine Be h (fun h => ?_) fun h => ?_
     ·refine Aj Aw rfl (qf Co rfl (ql Gx rfl (qm rfl (qf FI rfl (ql Bc rfl (qf Ci rfl (ql A5 rfl ?_)))))))
      refine BP h fun v13 a13 b13 h => qi AB Cy a13 (Ah b13) rfl (qk A5 rfl ?_)
      refine Hz h fun c14 h => Ib rfl c14 ?_
      refine BP h fun v15 a15 b15 h => qI Dq DF a15 (Ah b15) rfl ?_
      refine Ep rfl rfl rfl rfl (Ah b15) rfl DF rfl (GQ rfl) (Er C1 v6.1 _ ((Dm .u8 1 v13))) ?_
      refine AE (by kernel_rfl) ?_
      exact sn [(2012, 2006), (2013, 2007), (2014, 2008)] h
     ·refine Ao ?_
      exact sn [(2012, 2006), (2013, 2007), (2014, 2008)] h
    ·refine Aj Aw rfl (Cg rfl (qm rfl (Ab ?_)))
     exact sn [(2006, 2012), (2007, 2013), (2008, 2014)] h
   ·refine BT ?_
    exact sn [(2009, 2006), (2010, 2007), (2011, 2008)] h
  ·refine Ad hs (wq rfl (qL BE AM rfl (qs AM rfl (qe rfl ?_))))
   obtain rfl := sj h
   refine Ad (sm [(1000, 2009), (1001, 2010), (1002, 2011)] [(2, oD (.ptr 2 0)), (3, iD 0)] [(2, .box [.own 1000, .own 1001, .own 1002]), (1000, .vec 1 (v3.map Ar)), (1001, .vec 1 (v4.map Ar)), (1002, .vec 1 (v7.map C1))] rfl rfl) (Aq ?_)
   exact ⟨⟨[_, _], ⟨.cellN _ _ _ _ _ _ _ rfl rfl BE AM rfl rfl (Hc rfl), tm⟩, rfl⟩, ⟨rfl, rfl, rfl, tv⟩⟩
theorem Mk (N : Nat) (p0 : Ac) (p1 : Int) (r : Int) (h : ES N p0 p1 = some r) : Ap uS 176 [.e (.agg (A0 p0)), iD p1] [] (pD (.val (.int .u8 r))) := by
 unfold ES at h
 refine cw (n := 27) (rs := [.tmp 4]) Tryz.func176 fun w0 S0 => ?_
 refine wq rfl (qb rfl (qa rfl (Ab (wq rfl (qf CL rfl (ql Bc rfl (qm rfl ?_)))))))
 refine BP h fun v1 a1 b1 h => qi AB Cy a1 (Ah b1) rfl (qk A5 rfl ?_)
 refine Hz h fun c2 h => Ib rfl c2 (qe rfl ?_)
 refine AJ h (fun v3 => mk [(5, pD (.val (.int .u8 v3)))] []) (fun j3 h => ?_) (fun v3 h => ?_)
 ·refine wq rfl (qf BK rfl (ql Bc rfl (qm rfl ?_)))
  refine BP h fun v4 a4 b4 h => qi AB Cy a4 (Ah b4) rfl (qk A5 rfl (Dg rfl (Ab ?_)))
  refine Be h (fun h => ?_) fun h => ?_
  ·refine Aj Aw rfl (qm rfl (qf BK rfl (ql Bc rfl (qm rfl ?_))))
   refine BP h fun v6 a6 b6 h => qi AB Cy a6 (Ah b6) rfl (qk A5 rfl ?_)
   refine Hz h fun c7 h => Ib rfl c7 (QM rfl (qe rfl ?_))
   exact sn [] h
  ·refine Ao ?_
   exact sn [] h
 ·refine wq rfl (qm rfl (qe rfl ?_))
  obtain rfl := sj h
  refine Ad (sm [] [(4, pD (.val (.int .u8 v3)))] [] rfl rfl) (Aq ?_)
  exact ⟨⟨[_], tm, rfl⟩, tv⟩
theorem Ks (N : Nat) (p0 : Aa) (p1 : Ac) (r : Int) (h : EU N p0 p1 = some r) : Ap uS 152 [.e (.agg (Al p0)), .e (.agg (A0 p1))] [] (iD r) := by
 unfold EU at h
 refine cw (n := 135) (rs := [.tmp 4]) Tryz.func152 fun w0 S0 => ?_
 refine wq rfl (qb rfl (qb rfl (qa rfl (Ab (wp rfl (qL DI DD rfl ?_))))))
 refine B1 h fun v1 a1 h => Av [] (DS N p0 v1 a1) Sz rfl (qa rfl (Ab (wq rfl (qm rfl (BD rfl (Ab ?_))))))
 refine Be h (fun h => ?_) fun h => ?_
 ·refine wq rfl (qm rfl (qe rfl ?_))
  obtain rfl := sj h
  refine Ad (sm [] [(4, iD v1)] [] rfl rfl) (Aq ?_)
  exact ⟨⟨[_], tm, rfl⟩, tv⟩
 ·refine Ao (AQ ?_)
  refine AJ h (fun v3 => mk [(2, oD (.ptr 2 0)), (3, oD (.ptr 3 0)), (41, bD v3)] [(2, .box (Al p0)), (3, .box (A0 p1))]) (fun j3 h => ?_) (fun v3 h => ?_)
  ·refine Aj Aw rfl (qf CL rfl (ql Bc rfl (AF AB rfl (qf BI rfl (ql Bc rfl (AF AB rfl (BD rfl (qm rfl ?_))))))))
   refine CJ 24 h rfl (fun h => ?_) fun h => ?_
   ·refine qw 7 rfl (qp rfl (qw 8 rfl (qp rfl (Ab ?_))))
    exact sn [] h
   ·refine qf BK rfl (ql Bc rfl (AF AB rfl (qf BI rfl (ql Bc rfl (AF AB rfl (BD rfl (qp rfl (qm rfl ?_))))))))
    refine CJ 33 h rfl (fun h => ?_) fun h => ?_
    ·refine qw 7 rfl (qp rfl (Ab ?_))
     exact sn [] h
    ·refine qf Co rfl (ql Gx rfl (AF Dq rfl (qf BJ rfl (ql EW rfl (AF C0 rfl (BD rfl (qp rfl (Ab ?_))))))))
     exact sn [] h
  ·refine Be h (fun h => ?_) fun h => ?_
   ·refine wq rfl (qe rfl ?_)
    obtain rfl := sj h
    refine Ad (sm [] [(4, iD 6)] [] rfl rfl) (Aq ?_)
    exact ⟨⟨[_], tm, rfl⟩, tv⟩
   ·refine Ao (wp rfl (qf BI rfl (ql Bc rfl (AF AB rfl (qm rfl (Ab ?_))))))
    refine A1 (L := CZ N p0 p1) h (fun v7 => mk [(2, oD (.ptr 2 0)), (3, oD (.ptr 3 0)), (43, pD (.sl (p0.fb.map Ar))), (44, iD ((p0.fb.length : Int))), (45, iD v7)] [(2, .box (Al p0)), (3, .box (A0 p1))]) (fun v8 => mk [(2, oD (.ptr 2 0)), (3, oD (.ptr 3 0))] [(2, .box (Al p0)), (3, .box (A0 p1))]) (fun _ _ => rfl) (sm [] _ _ rfl rfl) (fun j7 n7 v7 h => ?_) (fun v8 s h hs => ?_)
    ·unfold CZ at h
     refine wq rfl (A2 rfl (Ab (AQ ?_)))
     refine Be h (fun h => ?_) fun h => ?_
     ·refine Ao (AQ (AP (wq rfl (qm rfl ?_))))
      refine BP h fun v10 a10 b10 h => qi AB Cy a10 (Ah b10) rfl (qk A5 rfl (qa rfl (qa rfl (Ab (AQ ?_)))))
      refine AJ h (fun v11 => mk [(2, oD (.ptr 2 0)), (3, oD (.ptr 3 0)), (6, iD v7), (43, pD (.sl (p0.fb.map Ar))), (44, iD ((p0.fb.length : Int))), (45, iD v7), (81, bD v11)] [(2, .box (Al p0)), (3, .box (A0 p1))]) (fun j11 h => ?_) (fun v11 h => ?_)
      ·refine Aj Aw rfl (qf CL rfl (ql Bc rfl (qm rfl ?_)))
       refine BP h fun v12 a12 b12 h => qi AB Cy a12 (Ah b12) rfl (qk A5 rfl (A2 rfl (qm rfl ?_)))
       refine CJ 56 h rfl (fun h => ?_) fun h => ?_
       ·refine qw 7 rfl (qp rfl (qw 7 rfl (qp rfl (qw 8 rfl (qp rfl (Ab ?_))))))
        exact sn [] h
       ·refine qf CL rfl (ql Bc rfl (qm rfl ?_))
        refine BP h fun v14 a14 b14 h => qi AB Cy a14 (Ah b14) rfl (qk A5 rfl (qm rfl (Dg rfl (qp rfl (qm rfl ?_)))))
        refine CJ 65 h rfl (fun h => ?_) fun h => ?_
        ·refine qw 6 rfl (qp rfl (qw 8 rfl (qp rfl (Ab ?_))))
         exact sn [] h
        ·refine qf BK rfl (ql Bc rfl (qm rfl ?_))
         refine BP h fun v16 a16 b16 h => qi AB Cy a16 (Ah b16) rfl (qk A5 rfl (A2 rfl (qp rfl (qm rfl ?_))))
         refine CJ 73 h rfl (fun h => ?_) fun h => ?_
         ·refine qw 7 rfl (qp rfl (Ab ?_))
          exact sn [] h
         ·refine qf BK rfl (ql Bc rfl (qm rfl ?_))
          refine BP h fun v18 a18 b18 h => qi AB Cy a18 (Ah b18) rfl (qk A5 rfl (qm rfl (Dg rfl (qp rfl (Ab ?_)))))
          exact sn [] h
      ·refine Be h (fun h => ?_) fun h => ?_
       ·refine wq rfl (qe rfl ?_)
        obtain rfl := sj h
        refine Ad (sm [] [(4, iD 7)] [] rfl rfl) (Aq ?_)
        exact ⟨⟨[_], tm, rfl⟩, tv⟩
       ·refine Ao (wq rfl (qf CL rfl (ql Bc rfl (qm rfl ?_))))
        refine BP h fun v20 a20 b20 h => qi AB Cy a20 (Ah b20) rfl (qk A5 rfl (qf BK rfl (ql Bc rfl (qm rfl ?_))))
        refine BP h fun v21 a21 b21 h => qi AB Cy a21 (Ah b21) rfl (qk A5 rfl (AR rfl (AE (by kernel_rfl) ?_)))
        refine Be h (fun h => ?_) fun h => ?_
        ·refine wq rfl (qe rfl ?_)
         obtain rfl := sj h
         refine Ad (sm [] [(4, iD 1)] [] rfl rfl) (Aq ?_)
         exact ⟨⟨[_], tm, rfl⟩, tv⟩
        ·refine Ao (Aj Aw rfl (Cg rfl (qm rfl (Ab ?_))))
         exact sn [] h
     ·refine BT ?_
      exact sn [] h
    ·refine Ad hs (wp rfl (qf BJ rfl (ql EW rfl (AF C0 rfl (qm rfl (Ab ?_))))))
     refine A1 (L := CD N p0 p1) h (fun v23 => mk [(2, oD (.ptr 2 0)), (3, oD (.ptr 3 0)), (95, pD (.sl (p0.fd.map Bw))), (96, iD ((p0.fd.length : Int))), (97, iD v23)] [(2, .box (Al p0)), (3, .box (A0 p1))]) (fun v24 => mk [] []) (fun _ _ => rfl) (sm [] _ _ rfl rfl) (fun j23 n23 v23 h => ?_) (fun v24 s h hs => ?_)
     ·unfold CD at h
      refine wq rfl (A2 rfl (Ab (AQ ?_)))
      refine Be h (fun h => ?_) fun h => ?_
      ·refine Ao (AQ (AP (wq rfl (qm rfl ?_))))
       refine BP h fun v26 a26 b26 h => qi C0 BY a26 (Ah b26) rfl (qK ER BY rfl (qz JR rfl (qa rfl (qs BY rfl (Ab (wq rfl (qa rfl (qe rfl ?_))))))))
       refine AJ h (fun v27 => mk [(2, oD (.ptr 2 0)), (3, oD (.ptr 3 0)), (8, iD v23), (10, pD (.val (.int .u8 v27.1))), (11, pD (.val (.int .u8 v27.2))), (95, pD (.sl (p0.fd.map Bw))), (96, iD ((p0.fd.length : Int))), (97, iD v23)] [(2, .box (Al p0)), (3, .box (A0 p1))]) (fun j27 h => ?_) (fun v27 h => ?_)
       ·refine wq rfl (qL ER BY rfl ?_)
        refine B1 h fun v28 a28 h => Av [] (JO N v26 v28 a28) Tp rfl (Ab ?_)
        refine Be h (fun h => ?_) fun h => ?_
        ·refine Aj Aw rfl (qL BE AM rfl (qf Ci rfl (ql A5 rfl ?_)))
         refine B1 h fun v30 a30 h => Av [] (Mk N p1 v26.fj v30 a30) Uz rfl (qf BI rfl (ql Bc rfl (qf Ci rfl (ql A5 rfl ?_))))
         refine BP h fun v31 a31 b31 h => qi AB Cy a31 (Ah b31) rfl (qk A5 rfl ?_)
         refine Hz h fun c32 h => Ib rfl c32 (KJ rfl (qa rfl (qa rfl (AE (by kernel_rfl) ?_))))
         exact sn [] h
        ·refine Ao ?_
         exact sn [] h
       ·refine AJ h (fun v33 => mk [(2, oD (.ptr 2 0)), (3, oD (.ptr 3 0)), (95, pD (.sl (p0.fd.map Bw))), (96, iD ((p0.fd.length : Int))), (97, iD v23), (133, bD v33)] [(2, .box (Al p0)), (3, .box (A0 p1))]) (fun j33 h => ?_) (fun v33 h => ?_)
        ·refine Aj Aw rfl (qm rfl (qf Co rfl (ql Gx rfl (qm rfl ?_))))
         refine BP h fun v34 a34 b34 h => qi Dq DF a34 (Ah b34) rfl (qk GZ rfl (Hd rfl (BD rfl (qm rfl ?_))))
         refine CJ 124 h rfl (fun h => ?_) fun h => ?_
         ·refine qw 8 rfl (qp rfl (Ab ?_))
          exact sn [] h
         ·refine qf Co rfl (ql Gx rfl (qm rfl ?_))
          refine BP h fun v36 a36 b36 h => qi Dq DF a36 (Ah b36) rfl (qk GZ rfl (qm rfl (Hd rfl (BD rfl (qp rfl (Ab ?_))))))
          exact sn [] h
        ·refine Be h (fun h => ?_) fun h => ?_
         ·refine wq rfl (qe rfl ?_)
          obtain rfl := sj h
          refine Ad (sm [] [(4, iD 1)] [] rfl rfl) (Aq ?_)
          exact ⟨⟨[_], tm, rfl⟩, tv⟩
         ·refine Ao (Aj Aw rfl (Cg rfl (qm rfl (Ab ?_))))
          exact sn [] h
      ·refine BT ?_
       exact sn [] h
     ·refine Ad hs (wq rfl (qe rfl ?_))
      obtain rfl := sj h
      refine Ad (sm [] [(4, iD 0)] [] rfl rfl) (Aq ?_)
      exact ⟨⟨[_], tm, rfl⟩, tv⟩
theorem F2 (N : Nat) (p0 : List Int) (r : (List Int)) (h : BM N p0 = some r) : Ap uS 177 [pD (.sl (p0.map C1))] [(1, r.map C1)] (oD (.own 0)) := by
 unfold BM at h
 refine cw (n := 8) (rs := [.tmp 2]) Tryz.func177 fun w0 S0 => ?_
 refine wq rfl (qa rfl (Ab (wp rfl (qm rfl ?_))))
 refine Nr (.p rfl) rfl Dq ?_
 refine Ab ?_
 refine Nk rfl (fun c2 => ?_) ?_
 ·have c2 := zC4.1 c2
  rw [c2] at h
  have h : (some (([] : List Int))) = some r := h
  refine wq rfl (qe rfl ?_)
  obtain rfl := sj h
  refine Ad ((EP 2 2001 1 rfl rfl rfl).trans (sm [(1000, 2001)] [(2, oD (.own 1000))] [(1000, .vec 1 ((([] : List Int)).map C1))] rfl rfl)) (Aq ?_)
  exact ⟨⟨[_], tm, rfl⟩, ⟨rfl, tv⟩⟩
 ·refine Ao (wq rfl (Fg Dq DF LJ rfl (qm rfl ?_)))
  refine Hz h fun c1 h => Ko (f := C1) Dq Dq DF Nh LJ (fun _ => rfl) c1 rfl (qe rfl ?_)
  obtain rfl := sj h
  refine Ad (sm [(1000, 7)] [(2, oD (.own 1000))] [(1000, .vec 1 (((([] : List Int)) ++ p0).map C1))] rfl rfl) (Aq ?_)
  exact ⟨⟨[_], tm, rfl⟩, ⟨rfl, tv⟩⟩
theorem Ja (N : Nat) (p0 : Ac) (r : Ac) (h : D4 N p0 = some r) : Ap uS 153 [.e (.agg (A0 p0))] [(1, r.fh.map Ar), (1, r.ff.map Ar), (1, r.fg.map C1)] (.e (.agg [.own 0, .own 1, .own 2])) := by
 unfold D4 at h
 refine cw (n := 13) (rs := [.cell 2 40]) Tryz.func153 fun w0 S0 => ?_
 refine wq rfl (qb rfl (qz CO rfl (Ab (wq rfl (qf CL rfl (ql Bc rfl ?_))))))
 refine B1 h fun v1 a1 h => Av [2001] (Eg N p0.fh v1 a1) RV rfl (qf BK rfl (ql Bc rfl ?_))
 refine B1 h fun v2 a2 h => Av [2002] (Eg N p0.ff v2 a2) RV rfl (qf Co rfl (ql Gx rfl ?_))
 refine B1 h fun v3 a3 h => Av [2003] (F2 N p0.fg v3 a3) Vb rfl (Bf CO F6 rfl (qs AM rfl (AE (by kernel_rfl) ?_)))
 obtain rfl := sj h
 refine Ad (sm [(1000, 2001), (1001, 2002), (1002, 2003)] [(2, oD (.ptr 2 0))] [(2, .box [.own 1000, .own 1001, .own 1002]), (1000, .vec 1 (v1.map Ar)), (1001, .vec 1 (v2.map Ar)), (1002, .vec 1 (v3.map C1))] rfl rfl) (Aq ?_)
 exact ⟨⟨[_], ⟨.cellN _ _ _ _ _ _ _ rfl rfl BE AM rfl rfl (Hc rfl), tv⟩, rfl⟩, ⟨rfl, rfl, rfl, tv⟩⟩
theorem NH (N : Nat) (p0 : Am) (r : Bool) (h : E4 N p0 = some r) : Ap uS 178 [.e (.agg (BL p0))] [] (bD r) := by
 unfold E4 at h
 refine cw (n := 27) (rs := [.tmp 2]) Tryz.func178 fun w0 S0 => ?_
 refine wq rfl (qb rfl (qa rfl (Ab (AQ ?_))))
 refine AJ h (fun v1 => mk [(1, oD (.ptr 1 0)), (18, bD v1)] [(1, .box (BL p0))]) (fun j1 h => ?_) (fun v1 h => ?_)
 ·refine Aj Aw rfl (qf Dt rfl (ql A5 rfl (qf Fc rfl (ql A5 rfl ?_))))
  refine Vw (.p rfl) rfl rfl ?_
  refine A2 rfl (qm rfl ?_)
  refine CJ 9 h rfl (fun h => ?_) fun h => ?_
  ·refine qw 3 rfl (qp rfl (qw 4 rfl (qp rfl (Ab ?_))))
   exact sn [] h
  ·refine qf CU rfl (ql A5 rfl (A2 rfl (qp rfl (qm rfl ?_))))
   refine CJ 14 h rfl (fun h => ?_) fun h => ?_
   ·refine qw 3 rfl (qp rfl (Ab ?_))
    exact sn [] h
   ·refine qf CU rfl (ql A5 rfl (DX rfl (qp rfl (Ab ?_))))
    exact sn [] h
 ·refine Be h (fun h => ?_) fun h => ?_
  ·refine wq rfl (qe rfl ?_)
   obtain rfl := sj h
   refine Ad (sm [] [(2, bD false)] [] rfl rfl) (Aq ?_)
   exact ⟨⟨[_], tm, rfl⟩, tv⟩
  ·refine Ao ?_
   refine AJ h (fun v5 => mk [(2, bD v5)] []) (fun j5 h => ?_) (fun v5 h => ?_)
   ·refine Aj Aw rfl (qf CU rfl (ql A5 rfl (AR rfl (qm rfl ?_))))
    refine CJ 22 h rfl (fun h => ?_) fun h => ?_
    ·refine qw 3 rfl (qp rfl (qe rfl ?_))
     exact sn [] h
    ·refine qf Fc rfl (ql A5 rfl (AR rfl (qp rfl (qe rfl ?_))))
     exact sn [] h
   ·obtain rfl := sj h
    refine Ad (sm [] [(2, bD v5)] [] rfl rfl) (Aq ?_)
    exact ⟨⟨[_], tm, rfl⟩, tv⟩
theorem L7 (N : Nat) (p0 : Aa) (p1 : Am) (r : Bool) (h : EK N p0 p1 = some r) : Ap uS 179 [.e (.agg (Al p0)), .e (.agg (BL p1))] [] (bD r) := by
 unfold EK at h
 refine cw (n := 36) (rs := [.tmp 4]) Tryz.func179 fun w0 S0 => ?_
 refine wq rfl (qb rfl (qb rfl (qa rfl (Ab (wp rfl (qf CU rfl (ql A5 rfl (AR rfl (Ab ?_)))))))))
 refine Be h (fun h => ?_) fun h => ?_
 ·refine wq rfl (qf Dt rfl (ql A5 rfl (qf BJ rfl (ql EW rfl (AF C0 rfl (A2 rfl (qe rfl ?_)))))))
  obtain rfl := sj h
  refine Ad (sm [] [(4, bD ((decide (p1.fm < (p0.fd.length : Int)))))] [] rfl rfl) (Aq ?_)
  exact ⟨⟨[_], tm, rfl⟩, tv⟩
 ·refine Ao ?_
  refine AJ h (fun v2 => mk [(4, bD v2)] []) (fun j2 h => ?_) (fun v2 h => ?_)
  ·refine Aj Aw rfl (qf Dt rfl (ql A5 rfl (qf BI rfl (ql Bc rfl (AF AB rfl (A2 rfl (qm rfl ?_)))))))
   refine CJ 20 h rfl (fun h => ?_) fun h => ?_
   ·refine qf CU rfl (ql A5 rfl (BD rfl (qm rfl ?_)))
    refine CJ 24 h rfl (fun h => ?_) fun h => ?_
    ·refine qw 9 rfl (qp rfl (qp rfl (qa rfl (AE (by kernel_rfl) ?_))))
     exact sn [] h
    ·refine qf Fc rfl (ql A5 rfl (qf BI rfl (ql Bc rfl (qf Dt rfl (ql A5 rfl ?_)))))
     refine BP h fun v5 a5 b5 h => qi AB Cy a5 (Ah b5) rfl (qk A5 rfl (A2 rfl (qp rfl (qp rfl (qa rfl (AE (by kernel_rfl) ?_))))))
     exact sn [] h
   ·refine qw 4 rfl (qu rfl (qu rfl (qu rfl (qu rfl (qu rfl (qu rfl (qu rfl (qu rfl (qu rfl (qn rfl (qp rfl (qa rfl (AE (by kernel_rfl) ?_)))))))))))))
    exact sn [] h
  ·obtain rfl := sj h
   refine Ad (sm [] [(4, bD v2)] [] rfl rfl) (Aq ?_)
   exact ⟨⟨[_], tm, rfl⟩, tv⟩
theorem I6 (N : Nat) (p0 : AH) (r : Bool) (h : D5 N p0 = some r) : Ap uS 197 [.e (.agg (CA p0))] [] (bD r) := by
 unfold D5 at h
 refine cw (n := 11) (rs := [.tmp 2]) Tryz.func197 fun w0 S0 => ?_
 refine wq rfl (qb rfl (qe rfl ?_))
 refine AJ h (fun v1 => mk [(2, bD v1)] []) (fun j1 h => ?_) (fun v1 h => ?_)
 ·refine Aj Aw rfl (qf DJ rfl (ql A5 rfl (AR rfl (qm rfl ?_))))
  refine CJ 6 h rfl (fun h => ?_) fun h => ?_
  ·refine qw 3 rfl (qp rfl (qe rfl ?_))
   exact sn [] h
  ·refine qf DJ rfl (ql A5 rfl (AR rfl (qp rfl (qe rfl ?_))))
   exact sn [] h
 ·obtain rfl := sj h
  refine Ad (sm [] [(2, bD v1)] [] rfl rfl) (Aq ?_)
  exact ⟨⟨[_], tm, rfl⟩, tv⟩
theorem Np (N : Nat) (p0 : Aa) (p1 : Ac) (p2 : Am) (r : Bool × (List Int) × (List Int)) (h : Ga N p0 p1 p2 = some r) : Do uS 192 [.e (.agg (Al p0)), oD (.ptr 90000 0), .e (.agg (BL p2))] [(.box [.own 90001, .own 90002, .own 90003], .box [.own 90001, .own 90002, .own 90003]), (.vec 1 (p1.fh.map Ar), .vec 1 (p1.fh.map Ar)), (.vec 1 (p1.ff.map Ar), .vec 1 (r.2.1.map Ar)), (.vec 1 (p1.fg.map C1), .vec 1 (r.2.2.map C1))] [] (bD r.1) := by
 unfold Ga at h
 refine Dc (n := 70) (rs := [.tmp 6]) Tryz.func192 rfl rfl rfl (GQ rfl) (GQ rfl) rfl rfl (GQ rfl) rfl (GQ rfl) fun w0 S0 GL => ?_
 refine Ad (sm [] [(0, .e (.agg (Al p0))), (1, oD (.ptr 90000 0)), (2, .e (.agg (BL p2)))] [(90000, .box [.own 90001, .own 90002, .own 90003]), (90001, .vec 1 (p1.fh.map Ar)), (90002, .vec 1 (p1.ff.map Ar)), (90003, .vec 1 (p1.fg.map C1))] rfl rfl) (wq rfl (qb rfl (qb rfl (qa rfl (Ab (AQ ?_))))))
 refine AJ h (fun v1 => mk [(1, oD (.ptr 90000 0)), (3, oD (.ptr 3 0)), (5, oD (.ptr 5 0)), (30, bD v1)] [(3, .box (Al p0)), (5, .box (BL p2)), (90000, .box [.own 90001, .own 90002, .own 90003]), (90001, .vec 1 (p1.fh.map Ar)), (90002, .vec 1 (p1.ff.map Ar)), (90003, .vec 1 (p1.fg.map C1))]) (fun j1 h => ?_) (fun v1 h => ?_)
 ·refine Aj Aw rfl (qm rfl (HK rfl (qf BK rfl (ql Bc rfl (qf Dt rfl (ql A5 rfl ?_))))))
  refine BP h fun v2 a2 b2 h => qI AB Cy a2 (Ah b2) rfl (qj A5 (Ah b2) rfl (Dg rfl (qm rfl ?_)))
  refine CJ 18 h rfl (fun h => ?_) fun h => ?_
  ·refine qw 11 rfl (qp rfl (AE (by kernel_rfl) ?_))
   exact sn [] h
  ·refine qm rfl (HK rfl (qf CL rfl (ql Bc rfl (qf Dt rfl (ql A5 rfl ?_)))))
   refine BP h fun v4 a4 b4 h => qI AB Cy a4 (Ah b4) rfl (qj A5 (Ah b4) rfl (qf Fc rfl (ql A5 rfl (AR rfl (qp rfl (AE (by kernel_rfl) ?_))))))
   exact sn [] h
 ·refine Be h (fun h => ?_) fun h => ?_
  ·refine wq rfl (qe rfl ?_)
   obtain rfl := sj h
   refine Ad (sm [] [(6, bD false)] [(90000, .box [.own 90001, .own 90002, .own 90003]), (90001, .vec 1 (p1.fh.map Ar)), (90002, .vec 1 (p1.ff.map Ar)), (90003, .vec 1 (p1.fg.map C1))] rfl rfl) (Aq ?_)
   exact ⟨⟨[_], tm, rfl⟩, ⟨rfl, rfl, rfl, rfl, tv⟩, tv⟩
  ·refine Ao (wq rfl (qm rfl (HK rfl (qf BK rfl (ql Bc rfl (qf Dt rfl (ql A5 rfl (qf Fc rfl (ql A5 rfl ?_)))))))))
   refine BP h fun v6 a6 b6 h => qI AB Cy a6 (Ah b6) rfl ?_
   refine Ep rfl rfl rfl rfl (Ah b6) rfl Cy rfl (GQ rfl) (Er Ar p1.ff _ p2.fp) ?_
   refine AE (by kernel_rfl) (wp rfl (qf BJ rfl (ql EW rfl (AF C0 rfl (qm rfl (Ab ?_))))))
   refine A1 (L := CH N p0 p2) h (fun v7 => mk [(1, oD (.ptr 90000 0)), (5, oD (.ptr 5 0)), (41, pD (.sl (p0.fd.map Bw))), (42, iD ((p0.fd.length : Int))), (43, iD v7.2)] [(5, .box (BL p2)), (90000, .box [.own 90001, .own 90002, .own 90003]), (90001, .vec 1 (p1.fh.map Ar)), (90002, .vec 1 ((p1.ff.set ((p2.fm).toNat) p2.fp).map Ar)), (90003, .vec 1 (v7.1.map C1))]) (fun v8 => mk [] [(90000, .box [.own 90001, .own 90002, .own 90003]), (90001, .vec 1 (p1.fh.map Ar)), (90002, .vec 1 ((p1.ff.set ((p2.fm).toNat) p2.fp).map Ar)), (90003, .vec 1 (v8.map C1))]) (fun _ _ => rfl) (sm [] _ _ rfl rfl) (fun j7 n7 v7 h => ?_) (fun v8 s h hs => ?_)
   ·unfold CH at h
    refine wq rfl (A2 rfl (Ab (AQ ?_)))
    refine Be h (fun h => ?_) fun h => ?_
    ·refine Ao ?_
     refine AJ h (fun v10 => mk [(1, oD (.ptr 90000 0)), (5, oD (.ptr 5 0)), (41, pD (.sl (p0.fd.map Bw))), (42, iD ((p0.fd.length : Int))), (43, iD v7.2)] [(5, .box (BL p2)), (90000, .box [.own 90001, .own 90002, .own 90003]), (90001, .vec 1 (p1.fh.map Ar)), (90002, .vec 1 ((p1.ff.set ((p2.fm).toNat) p2.fp).map Ar)), (90003, .vec 1 (v10.map C1))]) (fun j10 h => ?_) (fun v10 h => ?_)
     ·refine AP (wq rfl (qm rfl ?_))
      refine BP h fun v11 a11 b11 h => qi C0 BY a11 (Ah b11) rfl (qK ER BY rfl (qz JR rfl (qa rfl (qs BY rfl (Ab ?_)))))
      refine AJ h (fun v12 => mk [(1, oD (.ptr 90000 0)), (5, oD (.ptr 5 0)), (7, iD v7.2), (41, pD (.sl (p0.fd.map Bw))), (42, iD ((p0.fd.length : Int))), (43, iD v7.2), (56, bD v12)] [(5, .box (BL p2)), (90000, .box [.own 90001, .own 90002, .own 90003]), (90001, .vec 1 (p1.fh.map Ar)), (90002, .vec 1 ((p1.ff.set ((p2.fm).toNat) p2.fp).map Ar)), (90003, .vec 1 (v7.1.map C1))]) (fun j12 h => ?_) (fun v12 h => ?_)
      ·refine Aj Aw rfl (qf Ci rfl (ql A5 rfl (qf Dt rfl (ql A5 rfl (AR rfl (qm rfl ?_))))))
       refine CJ 53 h rfl (fun h => ?_) fun h => ?_
       ·refine qL ER BY rfl ?_
        refine B1 h fun v14 a14 h => Av [] (I6 N v11 v14 a14) Tu rfl (qp rfl (Ab ?_))
        exact sn [] h
       ·refine qw 2 rfl (qp rfl (Ab ?_))
        exact sn [] h
      ·refine Be h (fun h => ?_) fun h => ?_
       ·refine Aj Aw rfl (qm rfl (HK rfl (qf Co rfl (ql Gx rfl (qm rfl ?_)))))
        refine BP h fun v16 a16 b16 h => qI Dq DF a16 (Ah b16) rfl (qj GZ (Ah b16) rfl (qf Fc rfl (ql A5 rfl ?_)))
        refine Hz h fun c17 h => Ib rfl c17 (QM rfl ?_)
        refine BP h fun v18 a18 b18 h => qI Dq DF a18 (Ah b18) rfl ?_
        refine Ep rfl rfl rfl rfl (Ah b18) rfl DF rfl (GQ rfl) (Er C1 v7.1 _ ((KS .u8 v16 ((Dm .u8 1 p2.fp))))) ?_
        refine AE (by kernel_rfl) ?_
        exact sn [] h
       ·refine Ao ?_
        exact sn [] h
     ·refine Aj Aw rfl (Cg rfl (qm rfl (Ab ?_)))
      exact sn [] h
    ·refine BT ?_
     exact sn [] h
   ·refine Ad hs (wq rfl (qe rfl ?_))
    obtain rfl := sj h
    refine Ad (sm [] [(6, bD true)] [(90000, .box [.own 90001, .own 90002, .own 90003]), (90001, .vec 1 (p1.fh.map Ar)), (90002, .vec 1 ((p1.ff.set ((p2.fm).toNat) p2.fp).map Ar)), (90003, .vec 1 (v8.map C1))] rfl rfl) (Aq ?_)
    exact ⟨⟨[_], tm, rfl⟩, ⟨rfl, rfl, rfl, rfl, tv⟩, tv⟩
theorem L4 (N : Nat) (p0 : Ac) (p1 : Int) (r : Int) (h : Ek N p0 p1 = some r) : Ap uS 198 [.e (.agg (A0 p0)), iD p1] [] (pD (.val (.int .u8 r))) := by
 unfold Ek at h
 refine cw (n := 27) (rs := [.tmp 4]) Tryz.func198 fun w0 S0 => ?_
 refine wq rfl (qb rfl (qa rfl (Ab (wq rfl (qf CL rfl (ql Bc rfl (qm rfl ?_)))))))
 refine BP h fun v1 a1 b1 h => qi AB Cy a1 (Ah b1) rfl (qk A5 rfl ?_)
 refine Hz h fun c2 h => Ib rfl c2 (qe rfl ?_)
 refine AJ h (fun v3 => mk [(5, pD (.val (.int .u8 v3)))] []) (fun j3 h => ?_) (fun v3 h => ?_)
 ·refine wq rfl (qf BK rfl (ql Bc rfl (qm rfl ?_)))
  refine BP h fun v4 a4 b4 h => qi AB Cy a4 (Ah b4) rfl (qk A5 rfl (Dg rfl (Ab ?_)))
  refine Be h (fun h => ?_) fun h => ?_
  ·refine Aj Aw rfl (qm rfl (qf BK rfl (ql Bc rfl (qm rfl ?_))))
   refine BP h fun v6 a6 b6 h => qi AB Cy a6 (Ah b6) rfl (qk A5 rfl ?_)
   refine Hz h fun c7 h => Ib rfl c7 (QM rfl (qe rfl ?_))
   exact sn [] h
  ·refine Ao ?_
   exact sn [] h
 ·refine wq rfl (qm rfl (qe rfl ?_))
  obtain rfl := sj h
  refine Ad (sm [] [(4, pD (.val (.int .u8 v3)))] [] rfl rfl) (Aq ?_)
  exact ⟨⟨[_], tm, rfl⟩, tv⟩
theorem G9 (N : Nat) (p0 : Int) (r : Int) (h : B2 N p0 = some r) : Ap uS 200 [pD (.val (.int .u8 p0))] [] (iD r) := by
 unfold B2 at h
 refine cw (n := 6) (rs := [.tmp 2]) Tryz.func200 fun w0 S0 => ?_
 refine wq rfl (qa rfl (Ab (wq rfl (qm rfl ?_))))
 refine B1 h fun v1 a1 h => Qw (.p rfl) rfl rfl NG a1 ?_
 refine Kj WS Wl rfl (qe rfl ?_)
 obtain rfl := sj h
 refine Ad (sm [] [(2, iD ((wI .i64 v1)))] [] rfl rfl) (Aq ?_)
 exact ⟨⟨[_], tm, rfl⟩, tv⟩
theorem JM (N : Nat) (p0 : AH) (p1 : Int) (p2 : Int) (r : Bool) (h : Ej N p0 p1 p2 = some r) : Ap uS 199 [.e (.agg (CA p0)), pD (.val (.int .u8 p1)), iD p2] [] (bD r) := by
 unfold Ej at h
 refine cw (n := 25) (rs := [.tmp 6]) Tryz.func199 fun w0 S0 => ?_
 refine wq rfl (qb rfl (qa rfl (Ab (wp rfl (qm rfl (qe rfl ?_))))))
 refine A1 (L := Cq N p0 p2) h (fun v1 => mk [(2, iD p2), (3, oD (.ptr 3 0)), (7, pD (.val (.int .u8 v1)))] [(3, .box (CA p0))]) (fun v2 => mk [] []) (fun _ _ => rfl) (sm [] _ _ rfl rfl) (fun j1 n1 v1 h => ?_) (fun v2 s h hs => ?_)
 ·unfold Cq at h
  refine wp rfl (qm rfl (BD rfl (Ab ?_)))
  refine Be h (fun h => ?_) fun h => ?_
  ·refine Ao (AQ (AP (wq rfl (qf DW rfl (ql E7 rfl (qm rfl ?_))))))
   refine B1 h fun v4 a4 h => Av [] (G9 N v1 v4 a4) U3 rfl ?_
   refine BP h fun v5 a5 b5 h => qi DO JN a5 (Ah b5) rfl (qk J2 rfl (qm rfl ?_))
   refine BP h fun v6 a6 b6 h => qi H2 Rt a6 (Ah b6) rfl (qk Qq rfl (Ch rfl (AE (by kernel_rfl) ?_)))
   refine Be h (fun h => ?_) fun h => ?_
   ·refine wq rfl (qe rfl ?_)
    obtain rfl := sj h
    refine Ad (sm [] [(6, bD false)] [] rfl rfl) (Aq ?_)
    exact ⟨⟨[_], tm, rfl⟩, tv⟩
   ·refine Ao (Aj Aw rfl (qw 2 rfl (KJ rfl (MS rfl (qe rfl ?_)))))
    exact sn [] h
  ·refine BT ?_
   exact sn [] h
 ·refine Ad hs (wq rfl (qe rfl ?_))
  obtain rfl := sj h
  refine Ad (sm [] [(6, bD true)] [] rfl rfl) (Aq ?_)
  exact ⟨⟨[_], tm, rfl⟩, tv⟩
theorem NW (N : Nat) (p0 : Aa) (p1 : Ac) (p2 : Int) (r : Bool × (List Int)) (h : E5 N p0 p1 p2 = some r) : Do uS 193 [.e (.agg (Al p0)), oD (.ptr 90000 0), iD p2] [(.box [.own 90001, .own 90002, .own 90003], .box [.own 90001, .own 90002, .own 90003]), (.vec 1 (p1.fh.map Ar), .vec 1 (p1.fh.map Ar)), (.vec 1 (p1.ff.map Ar), .vec 1 (p1.ff.map Ar)), (.vec 1 (p1.fg.map C1), .vec 1 (r.2.map C1))] [] (bD r.1) := by
 unfold E5 at h
 refine Dc (n := 68) (rs := [.tmp 6]) Tryz.func193 rfl rfl rfl (GQ rfl) (GQ rfl) rfl rfl (GQ rfl) rfl (GQ rfl) fun w0 S0 GL => ?_
 refine Ad (sm [] [(0, .e (.agg (Al p0))), (1, oD (.ptr 90000 0)), (2, iD p2)] [(90000, .box [.own 90001, .own 90002, .own 90003]), (90001, .vec 1 (p1.fh.map Ar)), (90002, .vec 1 (p1.ff.map Ar)), (90003, .vec 1 (p1.fg.map C1))] rfl rfl) (wq rfl (qb rfl (qa rfl (Ab (wq rfl (qf BJ rfl (ql EW rfl (qm rfl ?_))))))))
 refine BP h fun v1 a1 b1 h => qi C0 BY a1 (Ah b1) rfl (qK ER BY rfl (qz JR rfl (qs BY rfl (Ab (wp rfl (qL ER BY rfl ?_))))))
 refine B1 h fun v2 a2 h => Av [] (I6 N v1 v2 a2) Tu rfl (Ch rfl (Ab ?_))
 refine Be h (fun h => ?_) fun h => ?_
 ·refine wq rfl (qe rfl ?_)
  obtain rfl := sj h
  refine Ad (sm [] [(6, bD false)] [(90000, .box [.own 90001, .own 90002, .own 90003]), (90001, .vec 1 (p1.fh.map Ar)), (90002, .vec 1 (p1.ff.map Ar)), (90003, .vec 1 (p1.fg.map C1))] rfl rfl) (Aq ?_)
  exact ⟨⟨[_], tm, rfl⟩, ⟨rfl, rfl, rfl, rfl, tv⟩, tv⟩
 ·refine Ao (wq rfl (qm rfl (HK rfl (qL BE AM rfl (qf Ci rfl (ql A5 rfl ?_))))))
  refine B1 h fun v4 a4 h => Hn [] [90001, 90002, 90003] (L4 N p1 v1.fj v4 a4) UV Fr rfl (qa rfl (AE (by kernel_rfl) (wq rfl (qm rfl (HK rfl (qf Co rfl (ql Gx rfl (qm rfl ?_))))))))
  refine BP h fun v5 a5 b5 h => qI Dq DF a5 (Ah b5) rfl (qj GZ (Ah b5) rfl (qm rfl (Hd rfl (qa rfl (Ab (AQ ?_))))))
  refine AJ h (fun v6 => mk [(1, oD (.ptr 90000 0)), (2, iD p2), (8, pD (.val (.int .u8 v4))), (60, bD v6)] [(90000, .box [.own 90001, .own 90002, .own 90003]), (90001, .vec 1 (p1.fh.map Ar)), (90002, .vec 1 (p1.ff.map Ar)), (90003, .vec 1 (p1.fg.map C1))]) (fun j6 h => ?_) (fun v6 h => ?_)
  ·refine Aj Aw rfl (qm rfl (HK rfl (qf Co rfl (ql Gx rfl (qm rfl ?_)))))
   refine BP h fun v7 a7 b7 h => qI Dq DF a7 (Ah b7) rfl (qj GZ (Ah b7) rfl (qm rfl (AR rfl (qm rfl ?_))))
   refine CJ 42 h rfl (fun h => ?_) fun h => ?_
   ·refine qw 4 rfl (qu rfl (qu rfl (qu rfl (qu rfl (qu rfl (qu rfl (qu rfl (qu rfl (qu rfl (qu rfl (qu rfl (qu rfl (qn rfl (qp rfl (AE (by kernel_rfl) ?_)))))))))))))))
    exact sn [] h
   ·refine qf DJ rfl (ql A5 rfl (AR rfl (qm rfl ?_)))
    refine CJ 46 h rfl (fun h => ?_) fun h => ?_
    ·refine qL ER BY rfl (qw 2 rfl (HK rfl (qf CL rfl (ql Bc rfl (qf Ci rfl (ql A5 rfl ?_))))))
     refine BP h fun v10 a10 b10 h => qI AB Cy a10 (Ah b10) rfl (qj A5 (Ah b10) rfl ?_)
     refine B1 h fun v11 a11 h => Av [] (JM N v1 ((Ce .u8 v5 v4)) v10 v11 a11) Vs rfl (Ch rfl (qp rfl (qp rfl (AE (by kernel_rfl) ?_))))
     exact sn [] h
    ·refine qw 12 rfl (qp rfl (qp rfl (AE (by kernel_rfl) ?_)))
     exact sn [] h
  ·refine Be h (fun h => ?_) fun h => ?_
   ·refine wq rfl (qe rfl ?_)
    obtain rfl := sj h
    refine Ad (sm [] [(6, bD false)] [(90000, .box [.own 90001, .own 90002, .own 90003]), (90001, .vec 1 (p1.fh.map Ar)), (90002, .vec 1 (p1.ff.map Ar)), (90003, .vec 1 (p1.fg.map C1))] rfl rfl) (Aq ?_)
    exact ⟨⟨[_], tm, rfl⟩, ⟨rfl, rfl, rfl, rfl, tv⟩, tv⟩
   ·refine Ao (wq rfl (qm rfl (HK rfl (qf Co rfl (ql Gx rfl (qw 2 rfl ?_))))))
    refine BP h fun v13 a13 b13 h => qI Dq DF a13 (Ah b13) rfl ?_
    refine Ep rfl rfl rfl rfl (Ah b13) rfl DF rfl (GQ rfl) (Er C1 p1.fg _ v4) ?_
    refine Ab (wq rfl (qe rfl ?_))
    obtain rfl := sj h
    refine Ad (sm [] [(6, bD true)] [(90000, .box [.own 90001, .own 90002, .own 90003]), (90001, .vec 1 (p1.fh.map Ar)), (90002, .vec 1 (p1.ff.map Ar)), (90003, .vec 1 ((p1.fg.set ((p2).toNat) v4).map C1))] rfl rfl) (Aq ?_)
    exact ⟨⟨[_], tm, rfl⟩, ⟨rfl, rfl, rfl, rfl, tv⟩, tv⟩
theorem NK (N : Nat) (p0 : Aa) (p1 : Ac) (p2 : Am) (r : Ac × Bool) (h : E6 N p0 p1 p2 = some r) : Ap uS 180 [.e (.agg (Al p0)), .e (.agg (A0 p1)), .e (.agg (BL p2))] [(1, r.1.fh.map Ar), (1, r.1.ff.map Ar), (1, r.1.fg.map C1)] (.tup [.agg [.own 0, .own 1, .own 2], .one (.pure (.val (.bool r.2)))]) := by
 unfold E6 at h
 refine cw (n := 51) (rs := [.cell 6 40, .tmp 7]) Tryz.func180 fun w0 S0 => ?_
 refine wq rfl (qb rfl (qb rfl (qb rfl (qz CO rfl (qa rfl (Ab (wq rfl (qL BE AM rfl ?_))))))))
 refine B1 h fun v1 a1 h => Av [2001, 2002, 2003] (Ja N p1 v1 a1) TE rfl (qz CO rfl (qs AM rfl (Ab (wp rfl (qf CU rfl (ql A5 rfl (Ab (AP (wq rfl (AR rfl (qe rfl ?_)))))))))))
 refine Be h (fun h => ?_) fun h => ?_
 ·refine wq rfl (qL BE AM rfl (qL DI DD rfl (qL If FD rfl ?_)))
  refine B1 h fun v3 a3 h => Fd (ds0 := [_, _, _]) [8, 2001, 2002, 2003] [] [false, false, true, true] (Np N p0 v1 p2 v3 a3) (.p rfl) VB rfl ⟨rfl, rfl, rfl, tv⟩ rfl rfl (Ea rfl) ⟨rfl, rfl, rfl, rfl, tv⟩ rfl (CX rfl) tv ⟨(fun _ => rfl), (fun _ => rfl), (fun h => by cases h), (fun h => by cases h), tv⟩ rfl rfl rfl ?_
  refine qs AM rfl (qa rfl (AE (by kernel_rfl) ?_))
  obtain rfl := sj h
  refine Ad (sm [(1000, 2001), (1001, 2002), (1002, 2003)] [(6, oD (.ptr 6 0)), (7, bD v3.1)] [(6, .box [.own 1000, .own 1001, .own 1002]), (1000, .vec 1 (v1.fh.map Ar)), (1001, .vec 1 (v3.2.1.map Ar)), (1002, .vec 1 (v3.2.2.map C1))] rfl rfl) (Aq ?_)
  exact ⟨⟨[_, _], ⟨.cellN _ _ _ _ _ _ _ rfl rfl BE AM rfl rfl (Hc rfl), tm⟩, rfl⟩, ⟨rfl, rfl, rfl, tv⟩⟩
 ·refine wq rfl (AR rfl (qe rfl ?_))
  refine Be h (fun h => ?_) fun h => ?_
  ·refine wq rfl (qL BE AM rfl (qL DI DD rfl (qf Dt rfl (ql A5 rfl ?_))))
   refine B1 h fun v5 a5 h => Fd (ds0 := [_, _, _]) [8, 2001, 2002, 2003] [] [false, false, false, true] (NW N p0 v1 p2.fm v5 a5) (.p rfl) UN rfl ⟨rfl, rfl, rfl, tv⟩ rfl rfl (Ea rfl) ⟨rfl, rfl, rfl, rfl, tv⟩ rfl (CX rfl) tv ⟨(fun _ => rfl), (fun _ => rfl), (fun _ => rfl), (fun h => by cases h), tv⟩ rfl rfl rfl ?_
   refine qs AM rfl (qa rfl (AE (by kernel_rfl) ?_))
   obtain rfl := sj h
   refine Ad (sm [(1000, 2001), (1001, 2002), (1002, 2003)] [(6, oD (.ptr 6 0)), (7, bD v5.1)] [(6, .box [.own 1000, .own 1001, .own 1002]), (1000, .vec 1 (v1.fh.map Ar)), (1001, .vec 1 (v1.ff.map Ar)), (1002, .vec 1 (v5.2.map C1))] rfl rfl) (Aq ?_)
   exact ⟨⟨[_, _], ⟨.cellN _ _ _ _ _ _ _ rfl rfl BE AM rfl rfl (Hc rfl), tm⟩, rfl⟩, ⟨rfl, rfl, rfl, tv⟩⟩
  ·refine Ao (wq rfl (qf BK rfl (ql Bc rfl (qf Dt rfl (ql A5 rfl ?_)))))
   refine BP h fun v6 a6 b6 h => qI AB Cy a6 (Ah b6) rfl (qj A5 (Ah b6) rfl (qa rfl (Ab (wp rfl (qm rfl (A2 rfl (Ab ?_)))))))
   refine Be h (fun h => ?_) fun h => ?_
   ·refine wq rfl (qL BE AM rfl (qs AM rfl (qe rfl ?_)))
    obtain rfl := sj h
    refine Ad (sm [(1000, 2001), (1001, 2002), (1002, 2003)] [(6, oD (.ptr 6 0)), (7, bD false)] [(6, .box [.own 1000, .own 1001, .own 1002]), (1000, .vec 1 (v1.fh.map Ar)), (1001, .vec 1 (v1.ff.map Ar)), (1002, .vec 1 (v1.fg.map C1))] rfl rfl) (Aq ?_)
    exact ⟨⟨[_, _], ⟨.cellN _ _ _ _ _ _ _ rfl rfl BE AM rfl rfl (Hc rfl), tm⟩, rfl⟩, ⟨rfl, rfl, rfl, tv⟩⟩
   ·refine Ao (wq rfl (qf BK rfl (ql Bc rfl (qf Dt rfl (ql A5 rfl ?_)))))
    refine BP h fun v8 a8 b8 h => qI AB Cy a8 (Ah b8) rfl ?_
    refine Ep rfl rfl rfl rfl (Ah b8) rfl Cy rfl (GQ rfl) (Er Ar v1.ff _ ((-1))) ?_
    refine Ab ?_
    refine AJ h (fun v9 => mk [(6, oD (.ptr 6 0)), (8, oD (.ptr 8 0))] [(6, .box [.pure (.nil0), .pure (.nil0), .pure (.nil0)]), (8, .box [.own 2004, .own 2005, .own 2006]), (2004, .vec 1 (v9.map Ar)), (2005, .vec 1 ((v1.ff.set ((p2.fm).toNat) ((-1))).map Ar)), (2006, .vec 1 (v1.fg.map C1))]) (fun j9 h => ?_) (fun v9 h => ?_)
    ·refine wq rfl (qf CU rfl (ql A5 rfl (AR rfl (Ab ?_))))
     refine Be h (fun h => ?_) fun h => ?_
     ·refine Aj Aw rfl (qf CL rfl (ql Bc rfl (qf Dt rfl (ql A5 rfl (qm rfl ?_)))))
      refine BP h fun v11 a11 b11 h => qI AB Cy a11 (Ah b11) rfl ?_
      refine Ep rfl rfl rfl rfl (Ah b11) rfl Cy rfl (GQ rfl) (Er Ar v1.fh _ v6) ?_
      refine Ab ?_
      exact sn [(2004, 2001), (2005, 2002), (2006, 2003)] h
     ·refine Ao ?_
      exact sn [(2004, 2001), (2005, 2002), (2006, 2003)] h
    ·refine wq rfl (qL BE AM rfl (qs AM rfl (qe rfl ?_)))
     obtain rfl := sj h
     refine Ad (sm [(1000, 2004), (1001, 2005), (1002, 2006)] [(6, oD (.ptr 6 0)), (7, bD true)] [(6, .box [.own 1000, .own 1001, .own 1002]), (1000, .vec 1 (v9.map Ar)), (1001, .vec 1 ((v1.ff.set ((p2.fm).toNat) ((-1))).map Ar)), (1002, .vec 1 (v1.fg.map C1))] rfl rfl) (Aq ?_)
     exact ⟨⟨[_, _], ⟨.cellN _ _ _ _ _ _ _ rfl rfl BE AM rfl rfl (Hc rfl), tm⟩, rfl⟩, ⟨rfl, rfl, rfl, tv⟩⟩
theorem JV (N : Nat) (p0 : Aa) (p1 : Ac) (p2 : Am) (r : Ac × Int) (h : Es N p0 p1 p2 = some r) : Ap uS 154 [.e (.agg (Al p0)), .e (.agg (A0 p1)), .e (.agg (BL p2))] [(1, r.1.fh.map Ar), (1, r.1.ff.map Ar), (1, r.1.fg.map C1)] (.tup [.agg [.own 0, .own 1, .own 2], .one (iC r.2)]) := by
 unfold Es at h
 refine cw (n := 32) (rs := [.cell 6 40, .tmp 7]) Tryz.func154 fun w0 S0 => ?_
 refine wq rfl (qb rfl (qb rfl (qb rfl (qz CO rfl (qa rfl (Ab (AQ (AP (wq rfl (qL If FD rfl ?_))))))))))
 refine B1 h fun v1 a1 h => Av [] (NH N p2 v1 a1) US rfl (Ch rfl (qe rfl ?_))
 refine Be h (fun h => ?_) fun h => ?_
 ·refine wq rfl (Bf CO F6 rfl (qs AM rfl (qe rfl ?_)))
  obtain rfl := sj h
  refine Ad ((Ax 6 0 2001 1 _ rfl rfl rfl rfl).trans ((Ax 6 1 2002 1 _ rfl rfl rfl rfl).trans ((Ax 6 2 2003 1 _ rfl rfl rfl rfl).trans (sm [(1000, 2001), (1001, 2002), (1002, 2003)] [(6, oD (.ptr 6 0)), (7, iD 1)] [(6, .box [.own 1000, .own 1001, .own 1002]), (1000, .vec 1 ((([] : List Int)).map Ar)), (1001, .vec 1 ((([] : List Int)).map Ar)), (1002, .vec 1 ((([] : List Int)).map C1))] rfl rfl)))) (Aq ?_)
  exact ⟨⟨[_, _], ⟨.cellN _ _ _ _ _ _ _ rfl rfl BE AM rfl rfl (Hc rfl), tm⟩, rfl⟩, ⟨rfl, rfl, rfl, tv⟩⟩
 ·refine wq rfl (qL DI DD rfl (qL If FD rfl ?_))
  refine B1 h fun v3 a3 h => Av [] (L7 N p0 p2 v3 a3) UO rfl (Ch rfl (qe rfl ?_))
  refine Be h (fun h => ?_) fun h => ?_
  ·refine wq rfl (Bf CO F6 rfl (qs AM rfl (qe rfl ?_)))
   obtain rfl := sj h
   refine Ad ((Ax 6 0 2004 1 _ rfl rfl rfl rfl).trans ((Ax 6 1 2005 1 _ rfl rfl rfl rfl).trans ((Ax 6 2 2006 1 _ rfl rfl rfl rfl).trans (sm [(1000, 2004), (1001, 2005), (1002, 2006)] [(6, oD (.ptr 6 0)), (7, iD 4)] [(6, .box [.own 1000, .own 1001, .own 1002]), (1000, .vec 1 ((([] : List Int)).map Ar)), (1001, .vec 1 ((([] : List Int)).map Ar)), (1002, .vec 1 ((([] : List Int)).map C1))] rfl rfl)))) (Aq ?_)
   exact ⟨⟨[_, _], ⟨.cellN _ _ _ _ _ _ _ rfl rfl BE AM rfl rfl (Hc rfl), tm⟩, rfl⟩, ⟨rfl, rfl, rfl, tv⟩⟩
  ·refine Ao (wq rfl (qL DI DD rfl (qL BE AM rfl (qL If FD rfl ?_))))
   refine B1 h fun v5 a5 h => Av [2007, 2008, 2009] (NK N p0 p1 p2 v5 a5) UF rfl (qm rfl (qx rfl (qx rfl (qz CO rfl (qs AM rfl (qa rfl (Ab (wp rfl (qm rfl (Ch rfl (Ab ?_)))))))))))
   refine Be h (fun h => ?_) fun h => ?_
   ·refine wq rfl (Bf CO F6 rfl (qs AM rfl (qe rfl ?_)))
    obtain rfl := sj h
    refine Ad ((Ax 6 0 2010 1 _ rfl rfl rfl rfl).trans ((Ax 6 1 2011 1 _ rfl rfl rfl rfl).trans ((Ax 6 2 2012 1 _ rfl rfl rfl rfl).trans (sm [(1000, 2010), (1001, 2011), (1002, 2012)] [(6, oD (.ptr 6 0)), (7, iD 11)] [(6, .box [.own 1000, .own 1001, .own 1002]), (1000, .vec 1 ((([] : List Int)).map Ar)), (1001, .vec 1 ((([] : List Int)).map Ar)), (1002, .vec 1 ((([] : List Int)).map C1))] rfl rfl)))) (Aq ?_)
    exact ⟨⟨[_, _], ⟨.cellN _ _ _ _ _ _ _ rfl rfl BE AM rfl rfl (Hc rfl), tm⟩, rfl⟩, ⟨rfl, rfl, rfl, tv⟩⟩
   ·refine Ao (wq rfl (qL BE AM rfl (qs AM rfl (qe rfl ?_))))
    obtain rfl := sj h
    refine Ad (sm [(1000, 2007), (1001, 2008), (1002, 2009)] [(6, oD (.ptr 6 0)), (7, iD 0)] [(6, .box [.own 1000, .own 1001, .own 1002]), (1000, .vec 1 (v5.1.fh.map Ar)), (1001, .vec 1 (v5.1.ff.map Ar)), (1002, .vec 1 (v5.1.fg.map C1))] rfl rfl) (Aq ?_)
    exact ⟨⟨[_, _], ⟨.cellN _ _ _ _ _ _ _ rfl rfl BE AM rfl rfl (Hc rfl), tm⟩, rfl⟩, ⟨rfl, rfl, rfl, tv⟩⟩
theorem Pj (N : Nat) (p0 : Aa) (p1 : Ac) (p2 : List Am) (r : (List Ac) × Int × Int) (h : Gk N p0 p1 p2 = some r) : Ap uS 113 [.e (.agg (Al p0)), .e (.agg (A0 p1)), pD (.sl (p2.map AO))] [(3, r.1.map EE)] (.tup [.one (.own 0), .one (iC r.2.1), .one (iC r.2.2)]) := by
 unfold Gk at h
 refine cw (n := 53) (rs := [.tmp 6, .tmp 7, .tmp 8]) Tryz.func113 fun w0 S0 => ?_
 refine wq rfl (qb rfl (qb rfl (qa rfl (qa rfl (qa rfl (Ab (wp rfl (qL DI DD rfl (qL BE AM rfl ?_)))))))))
 refine B1 h fun v1 a1 h => Av [] (Ks N p0 p1 v1 a1) TD rfl (qa rfl (Ab (wq rfl (qm rfl (BD rfl (Ab ?_))))))
 refine Be h (fun h => ?_) fun h => ?_
 ·refine wq rfl (qm rfl (qa rfl (qa rfl (qe rfl ?_))))
  obtain rfl := sj h
  refine Ad ((EP 6 2001 3 rfl rfl rfl).trans (sm [(1000, 2001)] [(6, oD (.own 1000)), (7, iD 0), (8, iD v1)] [(1000, .vec 3 ((([] : List Ac)).map EE))] rfl rfl)) (Aq ?_)
  exact ⟨⟨[_, _, _], ⟨.tmp _ _ rfl, ⟨.tmp _ _ rfl, tm⟩⟩, rfl⟩, ⟨rfl, tv⟩⟩
 ·refine Ao (wq rfl (qL BE AM rfl ?_))
  refine B1 h fun v3 a3 h => Av [2002, 2003, 2004] (Ja N p1 v3 a3) TE rfl (Fz (Bd 2002 _ _ rfl rfl) (Fz (Bd 2003 _ _ rfl rfl) (Fz (Bd 2004 _ _ rfl rfl) (Fg Hv AM CO rfl (qa rfl (Ab (wp rfl (qm rfl (AF Gn rfl (qm rfl (Ab ?_)))))))))))
  refine A1 (L := D8 N p0 p2) h (fun v4 => mk [(2, pD (.sl (p2.map AO))), (3, oD (.ptr 3 0)), (10, oD (.own 2005)), (24, pD (.sl (p2.map AO))), (25, iD ((p2.length : Int))), (26, iD v4.2)] [(3, .box (Al p0)), (2005, .vec 3 (v4.1.map EE))]) (fun v5 => mk [(2, pD (.sl (p2.map AO))), (10, oD (.own 2006))] [(2006, .vec 3 (v5.map EE))]) (fun _ _ => rfl) (sm [(2005, 23)] _ _ rfl rfl) (fun j4 n4 v4 h => ?_) (fun v5 s h hs => ?_)
  ·unfold D8 at h
   refine wq rfl (A2 rfl (Ab (AQ ?_)))
   refine Be h (fun h => ?_) fun h => ?_
   ·refine Ao (AQ (AP (wq rfl (qm rfl ?_))))
    refine BP h fun v7 a7 b7 h => qi Gn FD a7 (Ah b7) rfl (qK If FD rfl (qz Od rfl (qa rfl (qs FD rfl (Ab (wq rfl (qL DI DD rfl (qw 2 rfl ?_))))))))
    refine BP h fun v8 a8 b8 h => qI Hv AM a8 (Ah b8) rfl (qJ BE AM (Ah b8) rfl (qL If FD rfl ?_))
    refine B1 h fun v9 a9 h => Av [2007, 2008, 2009] (JV N p0 v8 v7 v9 a9) Tj rfl (qm rfl (qx rfl (qx rfl (qz CO rfl (qs AM rfl (qa rfl (AE (by kernel_rfl) (wp rfl (qm rfl (BD rfl (Ab ?_)))))))))))
    refine Be h (fun h => ?_) fun h => ?_
    ·refine wq rfl (qw 2 rfl (qa rfl (qa rfl (qe rfl ?_))))
     obtain rfl := sj h
     refine Ad ((EP 6 2010 3 rfl rfl rfl).trans (sm [(1000, 2010)] [(6, oD (.own 1000)), (7, iD v4.2), (8, iD v9.2)] [(1000, .vec 3 ((([] : List Ac)).map EE))] rfl rfl)) (Aq ?_)
     exact ⟨⟨[_, _, _], ⟨.tmp _ _ rfl, ⟨.tmp _ _ rfl, tm⟩⟩, rfl⟩, ⟨rfl, tv⟩⟩
    ·refine Ao (Aj Aw rfl (qm rfl (qL BE AM rfl (Fz (Bd 2007 _ _ rfl rfl) (Fz (Bd 2008 _ _ rfl rfl) (Fz (Bd 2009 _ _ rfl rfl) (Fg Hv AM CO rfl ?_)))))))
     refine Hz h fun c11 h => Ke (f := EE) Hv Hv AM Tn CO c11 rfl (qa rfl (Ab (Aj Aw rfl (Cg rfl (qm rfl (Ab ?_))))))
     exact sn [(2005, 48)] h
   ·refine BT ?_
    exact sn [(2006, 2005)] h
  ·refine Ad hs (wq rfl (qw 2 rfl (AF Gn rfl (qa rfl (qa rfl (qe rfl ?_))))))
   obtain rfl := sj h
   refine Ad (sm [(1000, 2006)] [(6, oD (.own 1000)), (7, iD ((p2.length : Int))), (8, iD 0)] [(1000, .vec 3 (v5.map EE))] rfl rfl) (Aq ?_)
   exact ⟨⟨[_, _, _], ⟨.tmp _ _ rfl, ⟨.tmp _ _ rfl, tm⟩⟩, rfl⟩, ⟨rfl, tv⟩⟩
theorem Hp (N : Nat) (p0 : Aa) (p1 : List Am) (r : Ac × Int) (h : C2 N p0 p1 = some r) : Ap uS 72 [.e (.agg (Al p0)), pD (.sl (p1.map AO))] [] (.tup [.agg (A0 r.1), .one (iC r.2)]) := by
 unfold C2 at h
 refine cw (n := 30) (rs := [.cell 4 40, .tmp 5]) Tryz.func72 fun w0 S0 => ?_
 refine wq rfl (qb rfl (qz CO rfl (qa rfl (Ab (wp rfl (qm rfl ?_))))))
 refine B1 h fun v1 a1 h => Av [] (Ap.weak (ds' := [pD (.sl (p1.map AO)), oD (.fnc 111)]) (EG N p1 ((fun (x : Am) => Db N x)) v1 a1) ⟨(fun _ _ _ hh => hh), (fun _ _ _ hh => NT UR (fun ar t ht => by obtain ⟨x, r, rfl, hq, rfl⟩ := IP ht; exact IU N x r hq) hh), tv⟩) VL rfl ?_
 refine Ab ?_
 refine Be h (fun h => ?_) fun h => ?_
 ·refine wq rfl (Bf CO F6 rfl (qs AM rfl (qe rfl ?_)))
  obtain rfl := sj h
  refine Ad ((FZ 4 _ rfl).trans (sm [] [(4, oD (.ptr 4 0)), (5, iD 1)] [(4, .box [sC ((([] : List Int)).map Ar), sC ((([] : List Int)).map Ar), sC ((([] : List Int)).map C1)])] rfl rfl)) (Aq ?_)
  exact ⟨⟨[_, _], ⟨.cellN _ _ _ _ _ _ _ rfl rfl BE AM rfl rfl (Hc rfl), tm⟩, rfl⟩, tv⟩
 ·refine Ao (wq rfl (qL DI DD rfl ?_))
  refine B1 h fun v3 a3 h => Av [2001, 2002, 2003] (N6 N p0 v3 a3) Va rfl (qm rfl (qx rfl (qx rfl (qz CO rfl (qs AM rfl (qa rfl (Ab (wp rfl (qm rfl (BD rfl (Ab ?_)))))))))))
  refine Be h (fun h => ?_) fun h => ?_
  ·refine wq rfl (Bf CO F6 rfl (qm rfl (qs AM rfl (qe rfl ?_))))
   obtain rfl := sj h
   refine Ad ((FZ 4 _ rfl).trans (sm [] [(4, oD (.ptr 4 0)), (5, iD v3.2)] [(4, .box [sC ((([] : List Int)).map Ar), sC ((([] : List Int)).map Ar), sC ((([] : List Int)).map C1)])] rfl rfl)) (Aq ?_)
   exact ⟨⟨[_, _], ⟨.cellN _ _ _ _ _ _ _ rfl rfl BE AM rfl rfl (Hc rfl), tm⟩, rfl⟩, tv⟩
  ·refine Ao (wq rfl (qL DI DD rfl (qL BE AM rfl (qm rfl (Fz (Bd 2001 _ _ rfl rfl) (Fz (Bd 2002 _ _ rfl rfl) (Fz (Bd 2003 _ _ rfl rfl) ?_)))))))
   refine B1 h fun v5 a5 h => Av [2004] (Pj N p0 v3.1 p1 v5 a5) Vc rfl (qm rfl (qx rfl (qx rfl (qx rfl (qa rfl (Ab (wq rfl (qL BE AM rfl (qm rfl (qs AM rfl (qe rfl ?_)))))))))))
   obtain rfl := sj h
   refine Ad (sm [] [(4, oD (.ptr 4 0)), (5, iD v5.2.2)] [(4, .box (A0 v3.1))] rfl rfl) (Aq ?_)
   exact ⟨⟨[_, _], ⟨.cellN _ _ _ _ _ _ _ rfl rfl BE AM rfl rfl (Hc rfl), tm⟩, rfl⟩, tv⟩
theorem JD (N : Nat) (p0 : Int) (r : ByteArray) (h : Eu N p0 = some r) : Ap uS 119 [iD p0] [] (pD (.val (.string r))) := by
 unfold Eu at h
 refine cw (n := 14) (rs := [.tmp 2]) Tryz.func119 fun w0 S0 => ?_
 refine wq rfl (qa rfl (Ab (wq rfl ?_)))
 refine RL [(1, .const (.string ⟨#[114, 101, 97, 100]⟩), _), (2, .const (.string ⟨#[98, 101, 103, 105, 110]⟩), _), (3, .const (.string ⟨#[100, 111, 110, 101]⟩), _), (4, .const (.string ⟨#[97, 98, 111, 114, 116]⟩), _), (5, .const (.string ⟨#[114, 101, 115, 117, 109, 101]⟩), _), (6, .const (.string ⟨#[115, 119, 105, 116, 99, 104]⟩), _), (7, .const (.string ⟨#[108, 101, 97, 115, 101]⟩), _)] (.p rfl) rfl ⟨rfl, rfl, rfl, rfl, rfl, rfl, rfl, tv⟩ Td rfl rfl RM V1 rfl ?_
 refine qz Td rfl (qs VI rfl (Ab (AQ ?_)))
 refine AJ h (fun v1 => mk [(0, iD p0), (3, oD (.ptr 3 0)), (10, bD v1)] [(3, .box [.pure (.val (.string (⟨#[]⟩))), .pure (.val (.string ((⟨#[114, 101, 97, 100]⟩ : ByteArray)))), .pure (.val (.string ((⟨#[98, 101, 103, 105, 110]⟩ : ByteArray)))), .pure (.val (.string ((⟨#[100, 111, 110, 101]⟩ : ByteArray)))), .pure (.val (.string ((⟨#[97, 98, 111, 114, 116]⟩ : ByteArray)))), .pure (.val (.string ((⟨#[114, 101, 115, 117, 109, 101]⟩ : ByteArray)))), .pure (.val (.string ((⟨#[115, 119, 105, 116, 99, 104]⟩ : ByteArray)))), .pure (.val (.string ((⟨#[108, 101, 97, 115, 101]⟩ : ByteArray))))])]) (fun j1 h => ?_) (fun v1 h => ?_)
 ·refine Aj Aw rfl (qm rfl (A2 rfl (qm rfl ?_)))
  refine CJ 7 h rfl (fun h => ?_) fun h => ?_
  ·refine qw 2 rfl (qp rfl (Ab ?_))
   exact sn [] h
  ·refine qm rfl (Dg rfl (qp rfl (Ab ?_)))
   exact sn [] h
 ·refine Be h (fun h => ?_) fun h => ?_
  ·refine wq rfl (qe rfl ?_)
   obtain rfl := sj h
   refine Ad (sm [] [(2, pD (.val (.string ((⟨#[]⟩ : ByteArray)))))] [] rfl rfl) (Aq ?_)
   exact ⟨⟨[_], tm, rfl⟩, tv⟩
  ·refine Ao (wq rfl (qm rfl (Fz (Ii 3 [.val (.string (⟨#[]⟩)), .val (.string ((⟨#[114, 101, 97, 100]⟩ : ByteArray))), .val (.string ((⟨#[98, 101, 103, 105, 110]⟩ : ByteArray))), .val (.string ((⟨#[100, 111, 110, 101]⟩ : ByteArray))), .val (.string ((⟨#[97, 98, 111, 114, 116]⟩ : ByteArray))), .val (.string ((⟨#[114, 101, 115, 117, 109, 101]⟩ : ByteArray))), .val (.string ((⟨#[115, 119, 105, 116, 99, 104]⟩ : ByteArray))), .val (.string ((⟨#[108, 101, 97, 115, 101]⟩ : ByteArray)))] rfl rfl) ?_)))
   refine BP h fun v4 a4 b4 h => QO (.p rfl) rfl rfl RM V1 rfl a4 (Ah (f := fun q : ByteArray => T.val (.string q)) b4) ?_
   refine qk WK rfl (qe rfl ?_)
   obtain rfl := sj h
   refine Ad (sm [] [(2, pD (.val (.string v4)))] [] rfl rfl) (Aq ?_)
   exact ⟨⟨[_], tm, rfl⟩, tv⟩
theorem Ik (N : Nat) (p0 : Ae) (r : (List Int)) (h : Dv N p0 = some r) : Ap uS 120 [.e (.agg (A6 p0))] [(1, r.map Ar)] (oD (.own 0)) := by
 unfold Dv at h
 refine cw (n := 35) (rs := [.tmp 2]) Tryz.func120 fun w0 S0 => ?_
 refine wq rfl (qb rfl (qa rfl (Ab (wp rfl (qf CQ rfl (ql A5 rfl (Ab (AP (wq rfl (AR rfl (qe rfl ?_)))))))))))
 refine Be h (fun h => ?_) fun h => ?_
 ·refine wq rfl (qf Hj rfl (ql A5 rfl (qf Hm rfl (ql A5 rfl (qf H4 rfl (ql A5 rfl (Fg Cb Ig Th rfl (qe rfl ?_))))))))
  obtain rfl := sj h
  refine Ad (sm [(1000, 13)] [(2, oD (.own 1000))] [(1000, .vec 1 ((([p0.fF, p0.fD, p0.fG] : List Int)).map Ar))] rfl rfl) (Aq ?_)
  exact ⟨⟨[_], tm, rfl⟩, ⟨rfl, tv⟩⟩
 ·refine wq rfl (AR rfl (qe rfl ?_))
  refine Be h (fun h => ?_) fun h => ?_
  ·refine wq rfl (qf HW rfl (ql A5 rfl (qf JW rfl (ql A5 rfl (qf IM rfl (ql A5 rfl (Fg Cb Ig Th rfl (qe rfl ?_))))))))
   obtain rfl := sj h
   refine Ad (sm [(1000, 22)] [(2, oD (.own 1000))] [(1000, .vec 1 ((([p0.fE, p0.fp, p0.fI] : List Int)).map Ar))] rfl rfl) (Aq ?_)
   exact ⟨⟨[_], tm, rfl⟩, ⟨rfl, tv⟩⟩
  ·refine wq rfl (AR rfl (qe rfl ?_))
   refine Be h (fun h => ?_) fun h => ?_
   ·refine wq rfl (qf JS rfl (ql A5 rfl (qf Fb rfl (ql HA rfl (Fg Cb Ig Th rfl (qe rfl ?_))))))
    obtain rfl := sj h
    refine Ad (sm [(1000, 29)] [(2, oD (.own 1000))] [(1000, .vec 1 ((([p0.fK, p0.fy] : List Int)).map Ar))] rfl rfl) (Aq ?_)
    exact ⟨⟨[_], tm, rfl⟩, ⟨rfl, tv⟩⟩
   ·refine Ao (wq rfl (qf IS rfl (ql A5 rfl (qf Fb rfl (ql HA rfl (Fg Cb Ig Th rfl (qe rfl ?_)))))))
    obtain rfl := sj h
    refine Ad (sm [(1000, 34)] [(2, oD (.own 1000))] [(1000, .vec 1 ((([p0.fm, p0.fy] : List Int)).map Ar))] rfl rfl) (Aq ?_)
    exact ⟨⟨[_], tm, rfl⟩, ⟨rfl, tv⟩⟩
theorem L6 (N : Nat) (p0 : Int) (p1 : Int) (p2 : List Int) (r : Ae) (h : D3 N p0 p1 p2 = some r) : Ap uS 121 [iD p0, iD p1, pD (.sl (p2.map Ar))] [] (.e (.agg (A6 r))) := by
 unfold D3 at h
 refine cw (n := 59) (rs := [.cell 6 37]) Tryz.func121 fun w0 S0 => ?_
 refine wq rfl (qz IY rfl (Ab (wq rfl (qw 2 rfl (Bf IY Qy rfl (qz IY rfl (qs DB rfl (Ab ?_))))))))
 refine AJ h (fun v1 => mk [(6, oD (.ptr 6 0)), (7, oD (.ptr 7 0))] [(6, .box [iC 0, iC 0, iC 0, iC 0, iC 0, iC 0, iC 0, iC 0, iC 0, iC 0, iC 0]), (7, .box [iC p0, iC p1, iC v1.1, iC v1.2.1, iC v1.2.2.1, iC v1.2.2.2.1, iC v1.2.2.2.2.1, iC v1.2.2.2.2.2.1, iC v1.2.2.2.2.2.2.1, iC v1.2.2.2.2.2.2.2.1, iC v1.2.2.2.2.2.2.2.2])]) (fun j1 h => ?_) (fun v1 h => ?_)
 ·refine wq rfl (qm rfl (Ab (AP (wq rfl (AR rfl (qe rfl ?_))))))
  refine Be h (fun h => ?_) fun h => ?_
  ·refine Aj Aw rfl (qm rfl ?_)
   refine BP h fun v3 a3 b3 h => qi Cb Ig a3 (Ah b3) rfl (qk HA rfl (qm rfl ?_))
   refine BP h fun v4 a4 b4 h => qi Cb Ig a4 (Ah b4) rfl (qk HA rfl (qm rfl ?_))
   refine BP h fun v5 a5 b5 h => qi Cb Ig a5 (Ah b5) rfl (qk HA rfl (qf Hj rfl (qs Cy rfl (qf Hm rfl (qs Cy rfl (qf H4 rfl (qs Cy rfl (AE (by kernel_rfl) ?_))))))))
   exact sn [] h
  ·refine wq rfl (AR rfl (qe rfl ?_))
   refine Be h (fun h => ?_) fun h => ?_
   ·refine Aj Aw rfl (qm rfl ?_)
    refine BP h fun v7 a7 b7 h => qi Cb Ig a7 (Ah b7) rfl (qk HA rfl (qm rfl ?_))
    refine BP h fun v8 a8 b8 h => qi Cb Ig a8 (Ah b8) rfl (qk HA rfl (qm rfl ?_))
    refine BP h fun v9 a9 b9 h => qi Cb Ig a9 (Ah b9) rfl (qk HA rfl (qf HW rfl (qs Cy rfl (qf JW rfl (qs Cy rfl (qf IM rfl (qs Cy rfl (AE (by kernel_rfl) ?_))))))))
    exact sn [] h
   ·refine wq rfl (AR rfl (qe rfl ?_))
    refine Be h (fun h => ?_) fun h => ?_
    ·refine Aj Aw rfl (qm rfl ?_)
     refine BP h fun v11 a11 b11 h => qi Cb Ig a11 (Ah b11) rfl (qk HA rfl (qm rfl ?_))
     refine BP h fun v12 a12 b12 h => qi Cb Ig a12 (Ah b12) rfl (qk HA rfl (qf JS rfl (qs Cy rfl (qf Fb rfl (qs Ig rfl (AE (by kernel_rfl) ?_))))))
     exact sn [] h
    ·refine Aj Aw rfl (qm rfl ?_)
     refine BP h fun v13 a13 b13 h => qi Cb Ig a13 (Ah b13) rfl (qk HA rfl (qm rfl ?_))
     refine BP h fun v14 a14 b14 h => qi Cb Ig a14 (Ah b14) rfl (qk HA rfl (qf IS rfl (qs Cy rfl (qf Fb rfl (qs Ig rfl (AE (by kernel_rfl) ?_))))))
     exact sn [] h
 ·refine wq rfl (qL FT DB rfl (qs DB rfl (Ab ?_)))
  obtain rfl := sj h
  refine Ad (sm [] [(6, oD (.ptr 6 0))] [(6, .box [iC p0, iC p1, iC v1.1, iC v1.2.1, iC v1.2.2.1, iC v1.2.2.2.1, iC v1.2.2.2.2.1, iC v1.2.2.2.2.2.1, iC v1.2.2.2.2.2.2.1, iC v1.2.2.2.2.2.2.2.1, iC v1.2.2.2.2.2.2.2.2])] rfl rfl) (Aq ?_)
  exact ⟨⟨[_], ⟨.cellN _ _ _ _ _ _ _ rfl rfl FT DB rfl rfl (Hc rfl), tv⟩, rfl⟩, tv⟩
theorem F7 (N : Nat) (p0 : List Int) (p1 : Int → Option Bool) (r : Int) (h : B6 N p0 p1 = some r) : Ap uS 157 [pD (.sl (p0.map Ar)), oD (.clo (Iz (MF false Ar) tB p1))] [] (iD r) := by
 unfold B6 at h
 refine cw (n := 19) (rs := [.tmp 4]) Tryz.func157 fun w0 S0 => ?_
 refine wq rfl (qa rfl (Ab (wp rfl (qm rfl (AF Cb rfl (qm rfl (Ab ?_)))))))
 refine A1 (L := AW N p0 p1) h (fun v1 => mk [(0, pD (.sl (p0.map Ar))), (1, oD (.clo (Iz (MF false Ar) tB p1))), (7, iD ((p0.length : Int))), (8, iD v1)] []) (fun v2 => mk [] []) (fun _ _ => rfl) (sm [] _ _ rfl rfl) (fun j1 n1 v1 h => ?_) (fun v2 s h hs => ?_)
 ·unfold AW at h
  refine wq rfl (A2 rfl (Ab (AQ ?_)))
  refine Be h (fun h => ?_) fun h => ?_
  ·refine Ao (AQ (AP (wq rfl (qm rfl (qa rfl (Ab (wq rfl (qw 3 rfl ?_))))))))
   refine BP h fun v4 a4 b4 h => qi Cb Ig a4 (Ah b4) rfl (qk HA rfl ?_)
   refine B1 h fun v5 a5 h => K3 (ds0 := [_]) (ar := (MF false Ar) v4) (.p rfl) rfl rfl ⟨rfl, tv⟩ rfl rfl rfl (KZ (K2 _ _ Rl) a5) ?_
   refine Ab ?_
   refine Be h (fun h => ?_) fun h => ?_
   ·refine wq rfl (qm rfl (qe rfl ?_))
    obtain rfl := sj h
    refine Ad (sm [] [(4, iD v1)] [] rfl rfl) (Aq ?_)
    exact ⟨⟨[_], tm, rfl⟩, tv⟩
   ·refine Ao (Aj Aw rfl (Cg rfl (qm rfl (Ab ?_))))
    exact sn [] h
  ·refine BT ?_
   exact sn [] h
 ·refine Ad hs (wq rfl (qe rfl ?_))
  obtain rfl := sj h
  refine Ad (sm [] [(4, iD ((-1)))] [] rfl rfl) (Aq ?_)
  exact ⟨⟨[_], tm, rfl⟩, tv⟩
theorem Fu (N : Nat) (p0 : List Int) (p1 : Int → Option Bool) (r : Bool) (h : A9 N p0 p1 = some r) : Ap uS 122 [pD (.sl (p0.map Ar)), oD (.clo (Iz (MF false Ar) tB p1))] [] (bD r) := by
 unfold A9 at h
 refine cw (n := 9) (rs := [.tmp 4]) Tryz.func122 fun w0 S0 => ?_
 refine wq rfl (qa rfl (Ab (wq rfl (qw 2 rfl ?_))))
 refine B1 h fun v1 a1 h => Av [] (F7 N p0 p1 v1 a1) VX rfl (Dg rfl (qe rfl ?_))
 obtain rfl := sj h
 refine Ad (sm [] [(4, bD ((decide (0 ≤ v1))))] [] rfl rfl) (Aq ?_)
 exact ⟨⟨[_], tm, rfl⟩, tv⟩
theorem KX (N : Nat) (p0 : Int) (r : Bool) (h : DH N p0 = some r) : Ap uS 123 [iD p0] [] (bD r) := by
 unfold DH at h
 refine cw (n := 5) (rs := [.tmp 2]) Tryz.func123 fun w0 S0 => ?_
 refine wq rfl (qa rfl (Ab (wq rfl (qm rfl (A2 rfl (qe rfl ?_))))))
 obtain rfl := sj h
 refine Ad (sm [] [(2, bD ((decide (p0 < 0))))] [] rfl rfl) (Aq ?_)
 exact ⟨⟨[_], tm, rfl⟩, tv⟩
theorem Mb (N : Nat) (p0 : Ae) (r : Bool) (h : EO N p0 = some r) : Ap uS 86 [.e (.agg (A6 p0))] [] (bD r) := by
 unfold EO at h
 refine cw (n := 28) (rs := [.tmp 2]) Tryz.func86 fun w0 S0 => ?_
 refine wq rfl (qb rfl (qa rfl (Ab (AQ ?_))))
 refine AJ h (fun v1 => mk [(1, oD (.ptr 1 0)), (12, bD v1)] [(1, .box (A6 p0))]) (fun j1 h => ?_) (fun v1 h => ?_)
 ·refine Aj Aw rfl (qf CQ rfl (ql A5 rfl ?_))
  refine B1 h fun v2 a2 h => Av [] (JD N p0.fa v2 a2) Tm rfl ?_
  refine D9 (.p rfl) rfl rfl (Ln _ _ _ _) rfl ?_
  refine qm rfl ?_
  refine CJ 8 h rfl (fun h => ?_) fun h => ?_
  ·refine qw 3 rfl (qp rfl (Ab ?_))
   exact sn [] h
  ·refine qf GG rfl (ql HA rfl (A2 rfl (qp rfl (Ab ?_))))
   exact sn [] h
 ·refine Be h (fun h => ?_) fun h => ?_
  ·refine wq rfl (qe rfl ?_)
   obtain rfl := sj h
   refine Ad (sm [] [(2, bD false)] [] rfl rfl) (Aq ?_)
   exact ⟨⟨[_], tm, rfl⟩, tv⟩
  ·refine Ao (wq rfl (qL FT DB rfl ?_))
   refine B1 h fun v5 a5 h => Av [2001] (Ik N p0 v5 a5) TB rfl (qe rfl ?_)
   refine AJ h (fun v6 => mk [(2, bD v6)] []) (fun j6 h => ?_) (fun v6 h => ?_)
   ·refine Aj Aw rfl (qL FT DB rfl (qf GG rfl (ql HA rfl (qf CQ rfl (ql A5 rfl (qm rfl ?_))))))
    refine B1 h fun v7 a7 h => Hn [] [2001] (L6 N p0.fi p0.fa v5 v7 a7) UL Fr rfl ?_
    refine Tq [.int .i64 p0.fi, .int .i64 p0.fa, .int .i64 p0.fF, .int .i64 p0.fD, .int .i64 p0.fG, .int .i64 p0.fm, .int .i64 p0.fy, .int .i64 p0.fI, .int .i64 p0.fE, .int .i64 p0.fp, .int .i64 p0.fK] [.int .i64 v7.fi, .int .i64 v7.fa, .int .i64 v7.fF, .int .i64 v7.fD, .int .i64 v7.fG, .int .i64 v7.fm, .int .i64 v7.fy, .int .i64 v7.fI, .int .i64 v7.fE, .int .i64 v7.fp, .int .i64 v7.fK] (.p rfl) rfl rfl Tv rfl ?_
    refine qm rfl ?_
    refine CJ 23 h rfl (fun h => ?_) fun h => ?_
    ·refine qm rfl ?_
     refine B1 h fun v9 a9 h => Hn [] [2001] (Ap.weak (ds' := [pD (.sl (v5.map Ar)), oD (.fnc 123)]) (Fu N v5 ((fun (x : Int) => DH N x)) v9 a9) ⟨(fun _ _ _ hh => hh), (fun _ _ _ hh => NT VR (fun ar t ht => by obtain ⟨x, r, rfl, hq, rfl⟩ := IP ht; exact KX N x r hq) hh), tv⟩) Vm Fr rfl ?_
     refine Ch rfl (qp rfl (qa rfl (AE (by kernel_rfl) ?_)))
     exact sn [] h
    ·refine qw 3 rfl (qp rfl (qa rfl (AE (by kernel_rfl) ?_)))
     exact sn [] h
   ·obtain rfl := sj h
    refine Ad (sm [] [(2, bD v6)] [] rfl rfl) (Aq ?_)
    exact ⟨⟨[_], tm, rfl⟩, tv⟩
theorem Gf (N : Nat) (p0 : List Ae) (r : Int) (h : Dh N p0 = some r) : Ap uS 43 [pD (.sl (p0.map AL))] [] (iD r) := by
 unfold Dh at h
 refine cw (n := 34) (rs := [.tmp 2]) Tryz.func43 fun w0 S0 => ?_
 refine wq rfl (qa rfl (Ab (wp rfl (qm rfl (AF Eb rfl (DX rfl (Ab ?_)))))))
 refine Be h (fun h => ?_) fun h => ?_
 ·refine wq rfl (qe rfl ?_)
  obtain rfl := sj h
  refine Ad (sm [] [(2, iD 3)] [] rfl rfl) (Aq ?_)
  exact ⟨⟨[_], tm, rfl⟩, tv⟩
 ·refine Ao (wp rfl (qm rfl (AF Eb rfl (qm rfl (Ab ?_)))))
  refine A1 (L := Dn N p0) h (fun v2 => mk [(0, pD (.sl (p0.map AL))), (8, pD (.sl (p0.map AL))), (9, iD ((p0.length : Int))), (10, iD v2)] []) (fun v3 => mk [] []) (fun _ _ => rfl) (sm [] _ _ rfl rfl) (fun j2 n2 v2 h => ?_) (fun v3 s h hs => ?_)
  ·unfold Dn at h
   refine wq rfl (A2 rfl (Ab (AQ ?_)))
   refine Be h (fun h => ?_) fun h => ?_
   ·refine Ao (AQ (AP (wq rfl (qm rfl ?_))))
    refine BP h fun v5 a5 b5 h => qi Eb DB a5 (Ah b5) rfl (qK FT DB rfl (qz IY rfl (qa rfl (qs DB rfl (Ab ?_)))))
    refine AJ h (fun v6 => mk [(0, pD (.sl (p0.map AL))), (8, pD (.sl (p0.map AL))), (9, iD ((p0.length : Int))), (10, iD v2), (32, bD v6)] []) (fun j6 h => ?_) (fun v6 h => ?_)
    ·refine Aj Aw rfl (qL FT DB rfl ?_)
     refine B1 h fun v7 a7 h => Av [] (Mb N v5 v7 a7) Wh rfl (Ch rfl (qm rfl ?_))
     refine CJ 18 h rfl (fun h => ?_) fun h => ?_
     ·refine qw 3 rfl (qu rfl (qu rfl (qu rfl (qu rfl (qu rfl (qu rfl (qu rfl (qu rfl (qu rfl (qn rfl (qp rfl (AE (by kernel_rfl) ?_))))))))))))
      exact sn [] h
     ·refine qm rfl (DX rfl (qm rfl ?_))
      refine CJ 21 h rfl (fun h => ?_) fun h => ?_
      ·refine qf GG rfl (ql HA rfl (qw 2 rfl (KJ rfl ?_)))
       refine BP h fun v10 a10 b10 h => qi Eb DB a10 (Ah b10) rfl (qg GG rfl (qk HA rfl (A2 rfl (qp rfl (qp rfl (AE (by kernel_rfl) ?_))))))
       exact sn [] h
      ·refine qw 9 rfl (qp rfl (qp rfl (AE (by kernel_rfl) ?_)))
       exact sn [] h
    ·refine Be h (fun h => ?_) fun h => ?_
     ·refine wq rfl (qe rfl ?_)
      obtain rfl := sj h
      refine Ad (sm [] [(2, iD 1)] [] rfl rfl) (Aq ?_)
      exact ⟨⟨[_], tm, rfl⟩, tv⟩
     ·refine Ao (Aj Aw rfl (Cg rfl (qm rfl (Ab ?_))))
      exact sn [] h
   ·refine BT ?_
    exact sn [] h
  ·refine Ad hs (wq rfl (qe rfl ?_))
   obtain rfl := sj h
   refine Ad (sm [] [(2, iD 0)] [] rfl rfl) (Aq ?_)
   exact ⟨⟨[_], tm, rfl⟩, tv⟩
theorem JL (N : Nat) (r : BN) (h : Fi N = some r) : Do uS 64 [] [] [.box [iC r.fA, iC r.fB, .pure (.val (.bool r.fC)), .mref 1], .mp (DN (Value.int .i64) zFS r.fJ)] (oD (.ptr 0 0)) := by
 unfold Fi at h
 refine Dc (n := 4) (rs := [.tmp 0]) Tryz.func64 rfl rfl rfl (GQ rfl) (GQ rfl) rfl rfl (GQ rfl) rfl (GQ rfl) fun w0 S0 GL => ?_
 refine Ad (sm [] [] [] rfl rfl) (wq rfl (qa rfl (Ab (wq rfl ?_))))
 refine QH (.p rfl) rfl ?_
 refine Bf Vg Ve rfl (qb rfl (qe rfl ?_))
 obtain rfl := sj h
 refine Ad (sm [(1000, 3), (1001, 1)] [(0, oD (.ptr 1000 0))] [(1000, .box [iC 0, iC 0, .pure (.val (.bool false)), .mref 1001]), (1001, .mp (DN (Value.int .i64) zFS (([] : List (Int × Int)))))] rfl rfl) (Aq ?_)
 exact ⟨⟨[_], tm, rfl⟩, tv, ⟨rfl, rfl, tv⟩⟩
theorem M6 (N : Nat) (p0 : Aa) (p1 : Ae) (r : Bool) (h : Hr N p0 p1 = some r) : Ap uS 62 [.e (.agg (Al p0)), .e (.agg (A6 p1))] [] (bD r) := by
 unfold Hr at h
 refine cw (n := 47) (rs := [.tmp 4]) Tryz.func62 fun w0 S0 => ?_
 refine wq rfl (qb rfl (qb rfl (qa rfl (Ab (wp rfl (qf Hj rfl (ql A5 rfl (qf BJ rfl (ql EW rfl (AF C0 rfl (Dg rfl (Ab ?_))))))))))))
 refine Be h (fun h => ?_) fun h => ?_
 ·refine wq rfl (qe rfl ?_)
  obtain rfl := sj h
  refine Ad (sm [] [(4, bD false)] [] rfl rfl) (Aq ?_)
  exact ⟨⟨[_], tm, rfl⟩, tv⟩
 ·refine Ao (wq rfl (qf BJ rfl (ql EW rfl (qf Hj rfl (ql A5 rfl ?_)))))
  refine BP h fun v2 a2 b2 h => qi C0 BY a2 (Ah b2) rfl (qK ER BY rfl (qz JR rfl (qs BY rfl (Ab ?_))))
  refine AJ h (fun v3 => mk [(4, bD v3)] []) (fun j3 h => ?_) (fun v3 h => ?_)
  ·refine Aj Aw rfl (qf Hm rfl (ql A5 rfl (qf Hb rfl (ql E7 rfl (AF DO rfl (A2 rfl (qm rfl ?_)))))))
   refine CJ 24 h rfl (fun h => ?_) fun h => ?_
   ·refine qf H4 rfl (ql A5 rfl (qf BI rfl (ql Bc rfl (qf G5 rfl (ql A5 rfl ?_)))))
    refine BP h fun v5 a5 b5 h => qi AB Cy a5 (Ah b5) rfl (qk A5 rfl (A2 rfl (qp rfl (qm rfl ?_))))
    refine CJ 35 h rfl (fun h => ?_) fun h => ?_
    ·refine qf Hb rfl (ql E7 rfl (qf Hm rfl (ql A5 rfl ?_)))
     refine BP h fun v7 a7 b7 h => qi DO JN a7 (Ah b7) rfl (qk J2 rfl (qf H4 rfl (ql A5 rfl ?_)))
     refine BP h fun v8 a8 b8 h => qi H2 Rt a8 (Ah b8) rfl (qk Qq rfl (qp rfl (qa rfl (AE (by kernel_rfl) ?_))))
     exact sn [] h
    ·refine qw 10 rfl (qp rfl (qa rfl (AE (by kernel_rfl) ?_)))
     exact sn [] h
   ·refine qw 9 rfl (qp rfl (qw 11 rfl (qp rfl (qa rfl (AE (by kernel_rfl) ?_)))))
    exact sn [] h
  ·obtain rfl := sj h
   refine Ad (sm [] [(4, bD v3)] [] rfl rfl) (Aq ?_)
   exact ⟨⟨[_], tm, rfl⟩, tv⟩
theorem FB (N : Nat) (p0 : Ae) (r : Bool) (h : CW N p0 = some r) : Ap uS 80 [.e (.agg (A6 p0))] [] (bD r) := by
 unfold CW at h
 refine cw (n := 11) (rs := [.tmp 2]) Tryz.func80 fun w0 S0 => ?_
 refine wq rfl (qb rfl (qe rfl ?_))
 refine AJ h (fun v1 => mk [(2, bD v1)] []) (fun j1 h => ?_) (fun v1 h => ?_)
 ·refine Aj Aw rfl (qf CQ rfl (ql A5 rfl (Dg rfl (qm rfl ?_))))
  refine CJ 6 h rfl (fun h => ?_) fun h => ?_
  ·refine qf CQ rfl (ql A5 rfl (Lh rfl (qp rfl (qe rfl ?_))))
   exact sn [] h
  ·refine qw 3 rfl (qp rfl (qe rfl ?_))
   exact sn [] h
 ·obtain rfl := sj h
  refine Ad (sm [] [(2, bD v1)] [] rfl rfl) (Aq ?_)
  exact ⟨⟨[_], tm, rfl⟩, tv⟩
theorem FK (N : Nat) (p0 : Ai) (p1 : Ae) (r : Bool) (h : BQ N p0 p1 = some r) : Do uS 81 [oD (.ptr 90000 0), .e (.agg (A6 p1))] [(.box (Ay p0), .box (Ay p0))] [] (bD r) := by
 unfold BQ at h
 refine Dc (n := 66) (rs := [.tmp 4]) Tryz.func81 rfl rfl rfl (GQ rfl) (GQ rfl) rfl rfl (GQ rfl) rfl (GQ rfl) fun w0 S0 GL => ?_
 refine Ad (sm [] [(0, oD (.ptr 90000 0)), (1, .e (.agg (A6 p1)))] [(90000, .box (Ay p0))] rfl rfl) (wq rfl (qb rfl (qa rfl (Ab (AQ ?_)))))
 refine AJ h (fun v1 => mk [(0, oD (.ptr 90000 0)), (3, oD (.ptr 3 0)), (23, bD v1)] [(3, .box (A6 p1)), (90000, .box (Ay p0))]) (fun j1 h => ?_) (fun v1 h => ?_)
 ·refine Aj Aw rfl (qf IS rfl (ql A5 rfl (qm rfl (HK rfl (qf IK rfl (ql A5 rfl (BD rfl (qm rfl ?_))))))))
  refine CJ 12 h rfl (fun h => ?_) fun h => ?_
  ·refine qw 10 rfl (qp rfl (AE (by kernel_rfl) ?_))
   exact sn [] h
  ·refine qm rfl (HK rfl (qf IK rfl (ql A5 rfl (qm rfl (HK rfl (qf ND rfl (ql Qe rfl (AF Gn rfl (Dg rfl (qp rfl (AE (by kernel_rfl) ?_)))))))))))
   exact sn [] h
 ·refine Be h (fun h => ?_) fun h => ?_
  ·refine wq rfl (qe rfl ?_)
   obtain rfl := sj h
   refine Ad (sm [] [(4, bD false)] [(90000, .box (Ay p0))] rfl rfl) (Aq ?_)
   exact ⟨⟨[_], tm, rfl⟩, ⟨rfl, tv⟩, tv⟩
  ·refine Ao (wp rfl (qf CQ rfl (ql A5 rfl (Ab (AP (wq rfl (AR rfl (qe rfl ?_))))))))
   refine Be h (fun h => ?_) fun h => ?_
   ·refine wq rfl (qm rfl (HK rfl (qf Ho rfl (ql A5 rfl (AR rfl (qe rfl ?_))))))
    obtain rfl := sj h
    refine Ad (sm [] [(4, bD ((p0.ft == 0)))] [(90000, .box (Ay p0))] rfl rfl) (Aq ?_)
    exact ⟨⟨[_], tm, rfl⟩, ⟨rfl, tv⟩, tv⟩
   ·refine wq rfl (AR rfl (qe rfl ?_))
    refine Be h (fun h => ?_) fun h => ?_
    ·refine wq rfl (qm rfl (HK rfl (qf Ho rfl (ql A5 rfl (AR rfl (qe rfl ?_))))))
     obtain rfl := sj h
     refine Ad (sm [] [(4, bD ((p0.ft == 1)))] [(90000, .box (Ay p0))] rfl rfl) (Aq ?_)
     exact ⟨⟨[_], tm, rfl⟩, ⟨rfl, tv⟩, tv⟩
    ·refine wq rfl (AR rfl (qe rfl ?_))
     refine Be h (fun h => ?_) fun h => ?_
     ·refine AJ h (fun v7 => mk [(4, bD v7)] [(90000, .box (Ay p0))]) (fun j7 h => ?_) (fun v7 h => ?_)
      ·refine Aj Aw rfl (qm rfl (HK rfl (qf Ho rfl (ql A5 rfl (AR rfl (qm rfl ?_))))))
       refine CJ 47 h rfl (fun h => ?_) fun h => ?_
       ·refine qm rfl (HK rfl (qf ND rfl (ql Qe rfl (qm rfl (HK rfl (qf IK rfl (ql A5 rfl ?_)))))))
        refine BP h fun v9 a9 b9 h => qi Gn FD a9 (Ah b9) rfl (qg CU rfl (qk A5 rfl (AR rfl (qp rfl (qa rfl (AE (by kernel_rfl) ?_))))))
        exact sn [] h
       ·refine qw 12 rfl (qp rfl (qa rfl (AE (by kernel_rfl) ?_)))
        exact sn [] h
      ·obtain rfl := sj h
       refine Ad (sm [] [(4, bD v7)] [(90000, .box (Ay p0))] rfl rfl) (Aq ?_)
       exact ⟨⟨[_], tm, rfl⟩, ⟨rfl, tv⟩, tv⟩
     ·refine Ao (wq rfl (qm rfl (HK rfl (qf Ho rfl (ql A5 rfl (AR rfl (qe rfl ?_)))))))
      obtain rfl := sj h
      refine Ad (sm [] [(4, bD ((p0.ft == 2)))] [(90000, .box (Ay p0))] rfl rfl) (Aq ?_)
      exact ⟨⟨[_], tm, rfl⟩, ⟨rfl, tv⟩, tv⟩
theorem Iy (N : Nat) (p0 : BN) (p1 : Ae) (r : Bool × BN × (List (Int × Int))) (h : EA N p0 p1 = some r) : Do uS 66 [oD (.ptr 90000 0), .e (.agg (A6 p1))] [(.box [iC p0.fA, iC p0.fB, .pure (.val (.bool p0.fC)), .mref 90001], .box [iC r.2.1.fA, iC r.2.1.fB, .pure (.val (.bool r.2.1.fC)), .mref 90001]), (.mp (DN (Value.int .i64) zFS p0.fJ), .mp (DN (Value.int .i64) zFS r.2.2))] [] (bD r.1) := by
 unfold EA at h
 refine Dc (n := 67) (rs := [.tmp 4]) Tryz.func66 rfl rfl rfl (GQ rfl) (GQ rfl) rfl rfl (GQ rfl) rfl (GQ rfl) fun w0 S0 GL => ?_
 refine Ad (sm [] [(0, oD (.ptr 90000 0)), (1, .e (.agg (A6 p1)))] [(90000, .box [iC p0.fA, iC p0.fB, .pure (.val (.bool p0.fC)), .mref 90001]), (90001, .mp (DN (Value.int .i64) zFS p0.fJ))] rfl rfl) (wq rfl (qb rfl (qe rfl ?_)))
 refine AJ h (fun v1 => mk [] [(90000, .box [iC v1.2.1, iC v1.2.2.1, .pure (.val (.bool v1.2.2.2)), .mref 90001]), (90001, .mp (DN (Value.int .i64) zFS v1.1))]) (fun j1 h => ?_) (fun v1 h => ?_)
 ·refine AP (wq rfl (qL FT DB rfl ?_))
  refine B1 h fun v2 a2 h => Av [] (FB N p1 v2 a2) SX rfl (qe rfl ?_)
  refine Be h (fun h => ?_) fun h => ?_
  ·refine wp rfl (qf Fb rfl (ql HA rfl (qm rfl (HK rfl (qf OF rfl (ql HA rfl (A2 rfl (AE (by kernel_rfl) ?_))))))))
   refine Be h (fun h => ?_) fun h => ?_
   ·refine wq rfl (qe rfl ?_)
    obtain rfl := sj h
    refine Ad (sm [] [(4, bD false)] [(90000, .box [iC p0.fA, iC p0.fB, .pure (.val (.bool p0.fC)), .mref 90001]), (90001, .mp (DN (Value.int .i64) zFS p0.fJ))] rfl rfl) (Aq ?_)
    exact ⟨⟨[_], tm, rfl⟩, ⟨rfl, rfl, tv⟩, tv⟩
   ·refine Ao (Aj Aw rfl (qm rfl (qf Fb rfl (ql HA rfl (HK rfl (qf OF rfl (qs Ig rfl (Ab ?_))))))))
    exact sn [] h
  ·refine wq rfl (qf CQ rfl (ql A5 rfl (AR rfl (qe rfl ?_))))
   refine Be h (fun h => ?_) fun h => ?_
   ·refine wp rfl (qf IM rfl (ql A5 rfl (qm rfl (HK rfl (qf ON rfl (ql Tf rfl (qf HW rfl (ql A5 rfl ?_))))))))
    refine RU (kv := (Value.int .i64)) (vt := zFS) (m := p0.fJ) (dv := 0) (.p rfl) rfl rfl rfl (MQ Po VE) (by rw [Po]; rfl) ML rfl rfl rfl ?_
    refine A2 rfl (AE (by kernel_rfl) ?_)
    refine Be h (fun h => ?_) fun h => ?_
    ·refine wq rfl (qe rfl ?_)
     obtain rfl := sj h
     refine Ad (sm [] [(4, bD false)] [(90000, .box [iC p0.fA, iC p0.fB, .pure (.val (.bool p0.fC)), .mref 90001]), (90001, .mp (DN (Value.int .i64) zFS p0.fJ))] rfl rfl) (Aq ?_)
     exact ⟨⟨[_], tm, rfl⟩, ⟨rfl, rfl, tv⟩, tv⟩
    ·refine Ao (Aj Aw rfl (qm rfl (HK rfl (qf ON rfl (ql Tf rfl (qf HW rfl (ql A5 rfl (qf IM rfl (ql A5 rfl ?_)))))))))
     refine Q6 (kv := (Value.int .i64)) (vt := zFS) (m := p0.fJ) (k := p1.fE) (v := p1.fI) rfl (.inl rfl) rfl rfl rfl rfl (MQ Po VE) rfl ?_
     refine AE (by kernel_rfl) ?_
     exact sn [] h
   ·refine wq rfl (qf CQ rfl (ql A5 rfl (AR rfl (qe rfl ?_))))
    refine Be h (fun h => ?_) fun h => ?_
    ·refine AQ ?_
     refine AJ h (fun v8 => mk [(0, oD (.ptr 90000 0)), (3, oD (.ptr 3 0)), (58, bD v8)] [(3, .box (A6 p1)), (90000, .box [iC p0.fA, iC p0.fB, .pure (.val (.bool p0.fC)), .mref 90001]), (90001, .mp (DN (Value.int .i64) zFS p0.fJ))]) (fun j8 h => ?_) (fun v8 h => ?_)
     ·refine Aj Aw rfl (qm rfl (HK rfl (qf OS rfl (ql Qq rfl (qm rfl ?_)))))
      refine CJ 50 h rfl (fun h => ?_) fun h => ?_
      ·refine qf Fb rfl (ql HA rfl (qm rfl (HK rfl (qf N2 rfl (ql HA rfl (Lh rfl (qp rfl (AE (by kernel_rfl) ?_))))))))
       exact sn [] h
      ·refine qw 7 rfl (qp rfl (AE (by kernel_rfl) ?_))
       exact sn [] h
     ·refine Be h (fun h => ?_) fun h => ?_
      ·refine wq rfl (qe rfl ?_)
       obtain rfl := sj h
       refine Ad (sm [] [(4, bD false)] [(90000, .box [iC p0.fA, iC p0.fB, .pure (.val (.bool p0.fC)), .mref 90001]), (90001, .mp (DN (Value.int .i64) zFS p0.fJ))] rfl rfl) (Aq ?_)
       exact ⟨⟨[_], tm, rfl⟩, ⟨rfl, rfl, tv⟩, tv⟩
      ·refine Ao (Aj Aw rfl (qw 2 rfl (qf Fb rfl (ql HA rfl (HK rfl (qf N2 rfl (qs Ig rfl (HK rfl (qf OS rfl (qs Rt rfl (Ab ?_)))))))))))
       exact sn [] h
    ·refine Ao ?_
     exact sn [] h
 ·refine wq rfl (qe rfl ?_)
  obtain rfl := sj h
  refine Ad (sm [] [(4, bD true)] [(90000, .box [iC v1.2.1, iC v1.2.2.1, .pure (.val (.bool v1.2.2.2)), .mref 90001]), (90001, .mp (DN (Value.int .i64) zFS v1.1))] rfl rfl) (Aq ?_)
  exact ⟨⟨[_], tm, rfl⟩, ⟨rfl, rfl, tv⟩, tv⟩
theorem Mm (N : Nat) (p0 : List Int) (p1 : Int) (r : Int) (h : He N p0 p1 = some r) : Ap uS 114 [pD (.sl (p0.map Ar)), iD p1] [] (iD r) := by
 unfold He at h
 refine cw (n := 22) (rs := [.tmp 4]) Tryz.func114 fun w0 S0 => ?_
 refine wq rfl (qa rfl (Ab (wp rfl (qm rfl (AF AB rfl (qm rfl (Ab ?_)))))))
 refine A1 (L := EF N p0) h (fun v1 => mk [(1, iD v1.1), (7, pD (.sl (p0.map Ar))), (8, iD ((p0.length : Int))), (9, iD v1.2)] []) (fun v2 => mk [] []) (fun _ _ => rfl) (sm [] _ _ rfl rfl) (fun j1 n1 v1 h => ?_) (fun v2 s h hs => ?_)
 ·unfold EF at h
  refine wq rfl (A2 rfl (Ab (AQ ?_)))
  refine Be h (fun h => ?_) fun h => ?_
  ·refine Ao (AQ (AP (wq rfl (qm rfl ?_))))
   refine BP h fun v4 a4 b4 h => qi AB Cy a4 (Ah b4) rfl (qk A5 rfl (qa rfl (qa rfl (Ab (wp rfl (qw 2 rfl (A2 rfl (Ab ?_))))))))
   refine Be h (fun h => ?_) fun h => ?_
   ·refine wq rfl (qm rfl (qe rfl ?_))
    obtain rfl := sj h
    refine Ad (sm [] [(4, iD v1.2)] [] rfl rfl) (Aq ?_)
    exact ⟨⟨[_], tm, rfl⟩, tv⟩
   ·refine Ao (Aj Aw rfl (qw 2 rfl (KJ rfl (qa rfl (Ab (Aj Aw rfl (Cg rfl (qm rfl (Ab ?_)))))))))
    exact sn [] h
  ·refine BT ?_
   exact sn [] h
 ·refine Ad hs (wq rfl (qe rfl ?_))
  obtain rfl := sj h
  refine Ad (sm [] [(4, iD ((-1)))] [] rfl rfl) (Aq ?_)
  exact ⟨⟨[_], tm, rfl⟩, tv⟩
theorem Gv (N : Nat) (p0 : Ac) (p1 : Int) (p2 : Int) (r : Bool) (h : D6 N p0 p1 p2 = some r) : Ap uS 115 [.e (.agg (A0 p0)), iD p1, iD p2] [] (bD r) := by
 unfold D6 at h
 refine cw (n := 23) (rs := [.tmp 6]) Tryz.func115 fun w0 S0 => ?_
 refine wq rfl (qb rfl (qe rfl ?_))
 refine AJ h (fun v1 => mk [(6, bD v1)] []) (fun j1 h => ?_) (fun v1 h => ?_)
 ·refine Aj Aw rfl (qf CL rfl (ql Bc rfl (qm rfl ?_)))
  refine BP h fun v2 a2 b2 h => qi AB Cy a2 (Ah b2) rfl (qk A5 rfl (qm rfl (AR rfl (qm rfl ?_))))
  refine CJ 14 h rfl (fun h => ?_) fun h => ?_
  ·refine qw 7 rfl (qp rfl (qe rfl ?_))
   exact sn [] h
  ·refine qf BK rfl (ql Bc rfl (qm rfl ?_))
   refine BP h fun v4 a4 b4 h => qi AB Cy a4 (Ah b4) rfl (qk A5 rfl (qm rfl (AR rfl (qp rfl (qe rfl ?_)))))
   exact sn [] h
 ·obtain rfl := sj h
  refine Ad (sm [] [(6, bD v1)] [] rfl rfl) (Aq ?_)
  exact ⟨⟨[_], tm, rfl⟩, tv⟩
theorem KW (N : Nat) (p0 : Aa) (p1 : Ac) (p2 : Ae) (r : Bool) (h : FY N p0 p1 p2 = some r) : Ap uS 116 [.e (.agg (Al p0)), .e (.agg (A0 p1)), .e (.agg (A6 p2))] [] (bD r) := by
 unfold FY at h
 refine cw (n := 46) (rs := [.tmp 6]) Tryz.func116 fun w0 S0 => ?_
 refine wq rfl (qb rfl (qb rfl (qb rfl (qa rfl (Ab (wq rfl (qf BJ rfl (ql EW rfl (qf Hj rfl (ql A5 rfl ?_))))))))))
 refine BP h fun v1 a1 b1 h => qi C0 BY a1 (Ah b1) rfl (qK ER BY rfl (qz JR rfl (qs BY rfl (Ab (wp rfl (qL BE AM rfl (qf G5 rfl (ql A5 rfl (qf H4 rfl (ql A5 rfl ?_))))))))))
 refine B1 h fun v2 a2 h => Av [] (Gv N p1 v1.fw p2.fG v2 a2) Ry rfl (Ch rfl (Ab ?_))
 refine Be h (fun h => ?_) fun h => ?_
 ·refine wq rfl (qe rfl ?_)
  obtain rfl := sj h
  refine Ad (sm [] [(6, bD false)] [] rfl rfl) (Aq ?_)
  exact ⟨⟨[_], tm, rfl⟩, tv⟩
 ·refine Ao (AQ ?_)
  refine AJ h (fun v4 => mk [(4, oD (.ptr 4 0)), (5, oD (.ptr 5 0)), (7, oD (.ptr 7 0)), (28, bD v4)] [(4, .box (A0 p1)), (5, .box (A6 p2)), (7, .box (CA v1))]) (fun j4 h => ?_) (fun v4 h => ?_)
  ·refine Aj Aw rfl (qf DJ rfl (ql A5 rfl (AR rfl (qm rfl ?_))))
   refine CJ 24 h rfl (fun h => ?_) fun h => ?_
   ·refine qw 3 rfl (qp rfl (Ab ?_))
    exact sn [] h
   ·refine qf DJ rfl (ql A5 rfl (AR rfl (qp rfl (Ab ?_))))
    exact sn [] h
  ·refine Be h (fun h => ?_) fun h => ?_
   ·refine wq rfl (qf Co rfl (ql Gx rfl (qf Hj rfl (ql A5 rfl ?_))))
    refine BP h fun v7 a7 b7 h => qi Dq DF a7 (Ah b7) rfl (qk GZ rfl (qf Hm rfl (ql A5 rfl ?_)))
    refine Hz h fun c8 h => KM rfl c8 (MS rfl (AR rfl (qa rfl (AE (by kernel_rfl) ?_))))
    obtain rfl := sj h
    refine Ad (sm [] [(6, bD (((Ft .u8 ((FM .u8 v7 p2.fD)) 1) == 1)))] [] rfl rfl) (Aq ?_)
    exact ⟨⟨[_], tm, rfl⟩, tv⟩
   ·refine Ao (wq rfl (qL BE AM rfl (qf Ci rfl (ql A5 rfl (qf Hm rfl (ql A5 rfl ?_))))))
    refine B1 h fun v9 a9 h => Av [] (Gv N p1 v1.fj p2.fD v9 a9) Ry rfl (qe rfl ?_)
    obtain rfl := sj h
    refine Ad (sm [] [(6, bD v9)] [] rfl rfl) (Aq ?_)
    exact ⟨⟨[_], tm, rfl⟩, tv⟩
theorem NR (N : Nat) (p0 : Aa) (p1 : Ac) (p2 : Am) (r : Ac × Int) (h : Fa N p0 p1 p2 = some r) : Ap uS 155 [.e (.agg (Al p0)), .e (.agg (A0 p1)), .e (.agg (BL p2))] [(1, r.1.fh.map Ar), (1, r.1.ff.map Ar), (1, r.1.fg.map C1)] (.tup [.agg [.own 0, .own 1, .own 2], .one (iC r.2)]) := by
 unfold Fa at h
 refine cw (n := 22) (rs := [.cell 6 40, .tmp 7]) Tryz.func155 fun w0 S0 => ?_
 refine wq rfl (qb rfl (qb rfl (qb rfl (qz CO rfl (qa rfl (Ab (wp rfl (qL DI DD rfl (qL BE AM rfl ?_)))))))))
 refine B1 h fun v1 a1 h => Av [] (Ks N p0 p1 v1 a1) TD rfl (qa rfl (Ab (wq rfl (qm rfl (BD rfl (Ab ?_))))))
 refine Be h (fun h => ?_) fun h => ?_
 ·refine wq rfl (Bf CO F6 rfl (qm rfl (qs AM rfl (qe rfl ?_))))
  obtain rfl := sj h
  refine Ad ((Ax 6 0 2001 1 _ rfl rfl rfl rfl).trans ((Ax 6 1 2002 1 _ rfl rfl rfl rfl).trans ((Ax 6 2 2003 1 _ rfl rfl rfl rfl).trans (sm [(1000, 2001), (1001, 2002), (1002, 2003)] [(6, oD (.ptr 6 0)), (7, iD v1)] [(6, .box [.own 1000, .own 1001, .own 1002]), (1000, .vec 1 ((([] : List Int)).map Ar)), (1001, .vec 1 ((([] : List Int)).map Ar)), (1002, .vec 1 ((([] : List Int)).map C1))] rfl rfl)))) (Aq ?_)
  exact ⟨⟨[_, _], ⟨.cellN _ _ _ _ _ _ _ rfl rfl BE AM rfl rfl (Hc rfl), tm⟩, rfl⟩, ⟨rfl, rfl, rfl, tv⟩⟩
 ·refine Ao (wq rfl (qL DI DD rfl (qL BE AM rfl (qL If FD rfl ?_))))
  refine B1 h fun v3 a3 h => Av [2004, 2005, 2006] (JV N p0 p1 p2 v3 a3) Tj rfl (qx rfl (qx rfl (qs AM rfl (qe rfl ?_))))
  obtain rfl := sj h
  refine Ad (sm [(1000, 2004), (1001, 2005), (1002, 2006)] [(6, oD (.ptr 6 0)), (7, iD v3.2)] [(6, .box [.own 1000, .own 1001, .own 1002]), (1000, .vec 1 (v3.1.fh.map Ar)), (1001, .vec 1 (v3.1.ff.map Ar)), (1002, .vec 1 (v3.1.fg.map C1))] rfl rfl) (Aq ?_)
  exact ⟨⟨[_, _], ⟨.cellN _ _ _ _ _ _ _ rfl rfl BE AM rfl rfl (Hc rfl), tm⟩, rfl⟩, ⟨rfl, rfl, rfl, tv⟩⟩
theorem EC (N : Nat) (p0 : Ai) (p1 : Am) (r : Ai) (h : BX N p0 p1 = some r) : Do uS 117 [oD (.ptr 90000 0), .e (.agg (BL p1))] [(.box (Ay p0), .box (Ay r))] [] (.tup []) := by
 unfold BX at h
 refine Dc (n := 25) (rs := []) Tryz.func117 rfl rfl rfl (GQ rfl) (GQ rfl) rfl rfl (GQ rfl) rfl (GQ rfl) fun w0 S0 GL => To ?_
 refine Ad (sm [] [(0, oD (.ptr 90000 0)), (1, .e (.agg (BL p1)))] [(90000, .box (Ay p0))] rfl rfl) (wq rfl (qb rfl (Ab (wq rfl (qm rfl (HK rfl (qf Ng rfl (qL DI DD rfl (qm rfl (HK rfl (qf J1 rfl (qL BE AM rfl (qL If FD rfl ?_)))))))))))))
 refine B1 h fun v1 a1 h => Av [2001, 2002, 2003] (NR N ((Aa.mk p0.fc.fb p0.fc.fk p0.fc.fo p0.fc.fd)) ((Ac.mk p0.fe.fh p0.fe.ff p0.fe.fg)) p1 v1 a1) U4 rfl (qm rfl (qx rfl (qx rfl (qz CO rfl (qs AM rfl (qa rfl (AE (by kernel_rfl) (wq rfl (qm rfl (AR rfl (Ab ?_)))))))))))
 refine Be h (fun h => ?_) fun h => ?_
 ·refine Aj Aw rfl (qm rfl (qL BE AM rfl (HK rfl (qf J1 rfl (qs AM rfl (Ab ?_))))))
  obtain rfl := sj h
  refine ⟨_, ((Bd 2001 _ _ rfl rfl).trans ((Bd 2002 _ _ rfl rfl).trans ((Bd 2003 _ _ rfl rfl).trans (sm [] [] [(90000, .box [sC (p0.fc.fb.map Ar), sC (p0.fc.fk.map Ar), sC (p0.fc.fo.map Ar), sC (p0.fc.fd.map Bw), sC (p0.fq.map AO), iC p0.fi, iC p0.ft, sC (v1.1.fh.map Ar), sC (v1.1.ff.map Ar), sC (v1.1.fg.map C1)])] rfl rfl)))), ?_⟩
  exact ⟨⟨[], tv, rfl⟩, ⟨rfl, tv⟩, tv⟩
 ·refine Ao ?_
  obtain rfl := sj h
  refine ⟨_, (sm [] [] [(90000, .box (Ay p0))] rfl rfl), ?_⟩
  exact ⟨⟨[], tv, rfl⟩, ⟨rfl, tv⟩, tv⟩
theorem Fo (N : Nat) (p0 : Ai) (p1 : Ae) (r : Ai) (h : BF N p0 p1 = some r) : Do uS 82 [oD (.ptr 90000 0), .e (.agg (A6 p1))] [(.box (Ay p0), .box (Ay r))] [] (.tup []) := by
 unfold BF at h
 refine Dc (n := 62) (rs := []) Tryz.func82 rfl rfl rfl (GQ rfl) (GQ rfl) rfl rfl (GQ rfl) rfl (GQ rfl) fun w0 S0 GL => To ?_
 refine Ad (sm [] [(0, oD (.ptr 90000 0)), (1, .e (.agg (A6 p1)))] [(90000, .box (Ay p0))] rfl rfl) (wq rfl (qb rfl (Ab (wq rfl (qm rfl (HK rfl (qf ND rfl (ql Qe rfl (qm rfl (HK rfl (qf IK rfl (ql A5 rfl ?_))))))))))))
 refine BP h fun v1 a1 b1 h => qi Gn FD a1 (Ah b1) rfl (qK If FD rfl (qz Od rfl (qs FD rfl (AE (by kernel_rfl) (wq rfl (qf CQ rfl (ql A5 rfl (Ab (AP (wq rfl (AR rfl (qe rfl ?_))))))))))))
 refine Be h (fun h => ?_) fun h => ?_
 ·refine wq rfl (qm rfl (HK rfl (qf Ho rfl (qs Cy rfl (Ab (wq rfl (qf CU rfl (ql A5 rfl (AR rfl (Ab ?_))))))))))
  refine Be h (fun h => ?_) fun h => ?_
  ·refine Aj Aw rfl (qm rfl (qL If FD rfl ?_))
   refine B1 h fun v4 a4 h => Fd (ds0 := [_, _]) [90000] [] [true] (EC N ((Ai.mk ((Aa.mk p0.fc.fb p0.fc.fk p0.fc.fo p0.fc.fd)) p0.fq p0.fi 1 ((Ac.mk p0.fe.fh p0.fe.ff p0.fe.fg)))) v1 v4 a4) (.p rfl) RS rfl ⟨rfl, rfl, tv⟩ rfl rfl (by decide) ⟨rfl, tv⟩ rfl (CX rfl) tv ⟨(fun h => by cases h), tv⟩ rfl rfl rfl ?_
   refine Ab ?_
   obtain rfl := sj h
   refine ⟨_, (sm [] [] [(90000, .box (Ay v4))] rfl rfl), ?_⟩
   exact ⟨⟨[], tv, rfl⟩, ⟨rfl, tv⟩, tv⟩
  ·refine Ao ?_
   obtain rfl := sj h
   refine ⟨_, (sm [] [] [(90000, .box [sC (p0.fc.fb.map Ar), sC (p0.fc.fk.map Ar), sC (p0.fc.fo.map Ar), sC (p0.fc.fd.map Bw), sC (p0.fq.map AO), iC p0.fi, iC 1, sC (p0.fe.fh.map Ar), sC (p0.fe.ff.map Ar), sC (p0.fe.fg.map C1)])] rfl rfl), ?_⟩
   exact ⟨⟨[], tv, rfl⟩, ⟨rfl, tv⟩, tv⟩
 ·refine wq rfl (AR rfl (qe rfl ?_))
  refine Be h (fun h => ?_) fun h => ?_
  ·refine AJ h (fun v6 => mk [(0, oD (.ptr 90000 0))] [(90000, .box (Ay v6))]) (fun j6 h => ?_) (fun v6 h => ?_)
   ·refine wq rfl (qf CU rfl (ql A5 rfl (BD rfl (Ab ?_))))
    refine Be h (fun h => ?_) fun h => ?_
    ·refine Aj Aw rfl (qm rfl (qL If FD rfl ?_))
     refine B1 h fun v8 a8 h => Fd (ds0 := [_, _]) [90000] [] [true] (EC N ((Ai.mk ((Aa.mk p0.fc.fb p0.fc.fk p0.fc.fo p0.fc.fd)) p0.fq p0.fi p0.ft ((Ac.mk p0.fe.fh p0.fe.ff p0.fe.fg)))) v1 v8 a8) (.p rfl) RS rfl ⟨rfl, rfl, tv⟩ rfl rfl (by decide) ⟨rfl, tv⟩ rfl (CX rfl) tv ⟨(fun h => by cases h), tv⟩ rfl rfl rfl ?_
     refine Ab ?_
     exact sn [] h
    ·refine Ao ?_
     exact sn [] h
   ·refine Aj Aw rfl (qw 3 rfl (HK rfl (qf IK rfl (ql A5 rfl (Cg rfl (HK rfl (qf IK rfl (qs Cy rfl (HK rfl (qf Ho rfl (qs Cy rfl (Ab ?_))))))))))))
    obtain rfl := sj h
    refine ⟨_, (sm [] [] [(90000, .box [sC (v6.fc.fb.map Ar), sC (v6.fc.fk.map Ar), sC (v6.fc.fo.map Ar), sC (v6.fc.fd.map Bw), sC (v6.fq.map AO), iC ((wI .i64 (v6.fi + 1))), iC 0, sC (v6.fe.fh.map Ar), sC (v6.fe.ff.map Ar), sC (v6.fe.fg.map C1)])] rfl rfl), ?_⟩
    exact ⟨⟨[], tv, rfl⟩, ⟨rfl, tv⟩, tv⟩
  ·refine wq rfl (AR rfl (qe rfl ?_))
   refine Be h (fun h => ?_) fun h => ?_
   ·refine Aj Aw rfl (qm rfl (HK rfl (qf Ho rfl (qs Cy rfl (Ab ?_)))))
    obtain rfl := sj h
    refine ⟨_, (sm [] [] [(90000, .box [sC (p0.fc.fb.map Ar), sC (p0.fc.fk.map Ar), sC (p0.fc.fo.map Ar), sC (p0.fc.fd.map Bw), sC (p0.fq.map AO), iC p0.fi, iC 2, sC (p0.fe.fh.map Ar), sC (p0.fe.ff.map Ar), sC (p0.fe.fg.map C1)])] rfl rfl), ?_⟩
    exact ⟨⟨[], tv, rfl⟩, ⟨rfl, tv⟩, tv⟩
   ·refine wq rfl (AR rfl (qe rfl ?_))
    refine Be h (fun h => ?_) fun h => ?_
    ·refine wq rfl (qm rfl (HK rfl (qf Ho rfl (qs Cy rfl (Ab (Aj Aw rfl (qm rfl (qf Dt rfl (ql A5 rfl (Bf Od R7 rfl ?_))))))))))
     refine B1 h fun v11 a11 h => Fd (ds0 := [_, _]) [90000] [] [true] (EC N ((Ai.mk ((Aa.mk p0.fc.fb p0.fc.fk p0.fc.fo p0.fc.fd)) p0.fq p0.fi 0 ((Ac.mk p0.fe.fh p0.fe.ff p0.fe.fg)))) ((Am.mk 4 v1.fm 0)) v11 a11) (.p rfl) RS rfl ⟨rfl, rfl, tv⟩ rfl rfl (by decide) ⟨rfl, tv⟩ rfl (CX rfl) tv ⟨(fun h => by cases h), tv⟩ rfl rfl rfl ?_
     refine Ab ?_
     obtain rfl := sj h
     refine ⟨_, (sm [] [] [(90000, .box (Ay v11))] rfl rfl), ?_⟩
     exact ⟨⟨[], tv, rfl⟩, ⟨rfl, tv⟩, tv⟩
    ·refine Ao ?_
     obtain rfl := sj h
     refine ⟨_, (sm [] [] [(90000, .box (Ay p0))] rfl rfl), ?_⟩
     exact ⟨⟨[], tv, rfl⟩, ⟨rfl, tv⟩, tv⟩
theorem JT (N : Nat) (p0 : Ai) (p1 : BN) (p2 : List Int) (p3 : Ae) (r : Int × Ai × BN × (List (Int × Int))) (h : Fk N p0 p1 p2 p3 = some r) : Do uS 73 [oD (.ptr 90000 0), oD (.ptr 90001 0), pD (.sl (p2.map Ar)), .e (.agg (A6 p3))] [(.box (Ay p0), .box (Ay r.2.1)), (.box [iC p1.fA, iC p1.fB, .pure (.val (.bool p1.fC)), .mref 90002], .box [iC r.2.2.1.fA, iC r.2.2.1.fB, .pure (.val (.bool r.2.2.1.fC)), .mref 90002]), (.mp (DN (Value.int .i64) zFS p1.fJ), .mp (DN (Value.int .i64) zFS r.2.2.2))] [] (iD r.1) := by
 unfold Fk at h
 refine Dc (n := 79) (rs := [.tmp 8]) Tryz.func73 rfl rfl rfl (GQ rfl) (GQ rfl) rfl rfl (GQ rfl) rfl (GQ rfl) fun w0 S0 GL => ?_
 refine Ad (sm [] [(0, oD (.ptr 90000 0)), (1, oD (.ptr 90001 0)), (2, pD (.sl (p2.map Ar))), (3, .e (.agg (A6 p3)))] [(90000, .box (Ay p0)), (90001, .box [iC p1.fA, iC p1.fB, .pure (.val (.bool p1.fC)), .mref 90002]), (90002, .mp (DN (Value.int .i64) zFS p1.fJ))] rfl rfl) (wq rfl (qb rfl (qe rfl ?_)))
 refine AJ h (fun v1 => mk [] [(90000, .box (Ay v1.2.1)), (90001, .box [iC v1.2.2.1, iC v1.2.2.2.1, .pure (.val (.bool v1.2.2.2.2)), .mref 90002]), (90002, .mp (DN (Value.int .i64) zFS v1.1))]) (fun j1 h => ?_) (fun v1 h => ?_)
 ·refine AP ?_
  refine AJ h (fun v2 => mk [(0, oD (.ptr 90000 0)), (1, oD (.ptr 90001 0)), (2, pD (.sl (p2.map Ar))), (7, oD (.ptr 7 0)), (10, bD v2)] [(7, .box (A6 p3)), (90000, .box (Ay p0)), (90001, .box [iC p1.fA, iC p1.fB, .pure (.val (.bool p1.fC)), .mref 90002]), (90002, .mp (DN (Value.int .i64) zFS p1.fJ))]) (fun j2 h => ?_) (fun v2 h => ?_)
  ·refine Aj Aw rfl (qf CQ rfl (ql A5 rfl (AR rfl (qm rfl ?_))))
   refine CJ 14 h rfl (fun h => ?_) fun h => ?_
   ·refine qm rfl (HK rfl (qf Ng rfl (qL DI DD rfl (qL FT DB rfl ?_))))
    refine B1 h fun v4 a4 h => Av [] (M6 N ((Aa.mk p0.fc.fb p0.fc.fk p0.fc.fo p0.fc.fd)) p3 v4 a4) Wd rfl (Ch rfl (qp rfl (qa rfl (AE (by kernel_rfl) ?_))))
    exact sn [] h
   ·refine qw 7 rfl (qp rfl (qa rfl (AE (by kernel_rfl) ?_)))
    exact sn [] h
  ·refine Be h (fun h => ?_) fun h => ?_
   ·refine wq rfl (qe rfl ?_)
    obtain rfl := sj h
    refine Ad (sm [] [(8, iD 1)] [(90000, .box (Ay p0)), (90001, .box [iC p1.fA, iC p1.fB, .pure (.val (.bool p1.fC)), .mref 90002]), (90002, .mp (DN (Value.int .i64) zFS p1.fJ))] rfl rfl) (Aq ?_)
    exact ⟨⟨[_], tm, rfl⟩, ⟨rfl, rfl, rfl, tv⟩, tv⟩
   ·refine AJ h (fun v6 => mk [(0, oD (.ptr 90000 0)), (1, oD (.ptr 90001 0)), (2, pD (.sl (p2.map Ar))), (7, oD (.ptr 7 0)), (23, bD v6)] [(7, .box (A6 p3)), (90000, .box (Ay p0)), (90001, .box [iC p1.fA, iC p1.fB, .pure (.val (.bool p1.fC)), .mref 90002]), (90002, .mp (DN (Value.int .i64) zFS p1.fJ))]) (fun j6 h => ?_) (fun v6 h => ?_)
    ·refine Aj Aw rfl (qL FT DB rfl ?_)
     refine B1 h fun v7 a7 h => Av [] (FB N p3 v7 a7) SX rfl (qm rfl ?_)
     refine CJ 26 h rfl (fun h => ?_) fun h => ?_
     ·refine qm rfl (qL FT DB rfl ?_)
      refine B1 h fun v9 a9 h => Fd (ds0 := [_, _]) [90000] [] [false] (FK N ((Ai.mk ((Aa.mk p0.fc.fb p0.fc.fk p0.fc.fo p0.fc.fd)) p0.fq p0.fi p0.ft ((Ac.mk p0.fe.fh p0.fe.ff p0.fe.fg)))) p3 v9 a9) (.g rfl rfl) VF rfl ⟨rfl, rfl, tv⟩ rfl rfl (by decide) ⟨rfl, tv⟩ rfl (CX rfl) tv ⟨(fun _ => rfl), tv⟩ rfl rfl rfl ?_
      refine Ch rfl (qp rfl (qe rfl ?_))
      exact sn [] h
     ·refine qw 4 rfl (qp rfl (qe rfl ?_))
      exact sn [] h
    ·refine Be h (fun h => ?_) fun h => ?_
     ·refine wq rfl (qe rfl ?_)
      obtain rfl := sj h
      refine Ad (sm [] [(8, iD 2)] [(90000, .box (Ay p0)), (90001, .box [iC p1.fA, iC p1.fB, .pure (.val (.bool p1.fC)), .mref 90002]), (90002, .mp (DN (Value.int .i64) zFS p1.fJ))] rfl rfl) (Aq ?_)
      exact ⟨⟨[_], tm, rfl⟩, ⟨rfl, rfl, rfl, tv⟩, tv⟩
     ·refine wq rfl (qm rfl (qL FT DB rfl ?_))
      refine B1 h fun v11 a11 h => Fd (ds0 := [_, _]) [90001, 90002] [] [true, true] (Iy N p1 p3 v11 a11) (.p rfl) WA rfl ⟨rfl, rfl, tv⟩ rfl rfl (Ea rfl) ⟨rfl, rfl, tv⟩ rfl (CX rfl) tv ⟨(fun h => by cases h), (fun h => by cases h), tv⟩ rfl rfl rfl ?_
      refine Ch rfl (qe rfl ?_)
      refine Be h (fun h => ?_) fun h => ?_
      ·refine wq rfl (qe rfl ?_)
       obtain rfl := sj h
       refine Ad (sm [] [(8, iD 3)] [(90000, .box (Ay p0)), (90001, .box [iC v11.2.1.fA, iC v11.2.1.fB, .pure (.val (.bool v11.2.1.fC)), .mref 90002]), (90002, .mp (DN (Value.int .i64) zFS v11.2.2))] rfl rfl) (Aq ?_)
       exact ⟨⟨[_], tm, rfl⟩, ⟨rfl, rfl, rfl, tv⟩, tv⟩
      ·refine wq rfl (qf CQ rfl (ql A5 rfl (AR rfl (qe rfl ?_))))
       refine Be h (fun h => ?_) fun h => ?_
       ·refine wq rfl (qm rfl (qf HW rfl (ql A5 rfl ?_)))
        refine B1 h fun v14 a14 h => Av [] (Mm N p2 p3.fE v14 a14) UA rfl (qe rfl ?_)
        refine AJ h (fun v15 => mk [(57, bD v15)] [(90000, .box (Ay p0)), (90001, .box [iC v11.2.1.fA, iC v11.2.1.fB, .pure (.val (.bool v11.2.1.fC)), .mref 90002]), (90002, .mp (DN (Value.int .i64) zFS v11.2.2))]) (fun j15 h => ?_) (fun v15 h => ?_)
        ·refine Aj Aw rfl (qm rfl (A2 rfl (qm rfl ?_)))
         refine CJ 47 h rfl (fun h => ?_) fun h => ?_
         ·refine qw 9 rfl (qp rfl (AE (by kernel_rfl) ?_))
          exact sn [] h
         ·refine qm rfl (HK rfl (qf J1 rfl (qL BE AM rfl (qm rfl (qf JW rfl (ql A5 rfl ?_))))))
          refine B1 h fun v17 a17 h => Av [] (Gv N ((Ac.mk p0.fe.fh p0.fe.ff p0.fe.fg)) v14 p3.fp v17 a17) Ry rfl (Ch rfl (qp rfl (AE (by kernel_rfl) ?_)))
          exact sn [] h
        ·refine Be h (fun h => ?_) fun h => ?_
         ·refine wq rfl (qe rfl ?_)
          obtain rfl := sj h
          refine Ad (sm [] [(8, iD 4)] [(90000, .box (Ay p0)), (90001, .box [iC v11.2.1.fA, iC v11.2.1.fB, .pure (.val (.bool v11.2.1.fC)), .mref 90002]), (90002, .mp (DN (Value.int .i64) zFS v11.2.2))] rfl rfl) (Aq ?_)
          exact ⟨⟨[_], tm, rfl⟩, ⟨rfl, rfl, rfl, tv⟩, tv⟩
         ·refine Ao ?_
          exact sn [] h
       ·refine wq rfl (qf CQ rfl (ql A5 rfl (AR rfl (qe rfl ?_))))
        refine Be h (fun h => ?_) fun h => ?_
        ·refine wq rfl (qm rfl (HK rfl (qf Ng rfl (qL DI DD rfl (qm rfl (HK rfl (qf J1 rfl (qL BE AM rfl (qL FT DB rfl ?_)))))))))
         refine B1 h fun v20 a20 h => Av [] (KW N ((Aa.mk p0.fc.fb p0.fc.fk p0.fc.fo p0.fc.fd)) ((Ac.mk p0.fe.fh p0.fe.ff p0.fe.fg)) p3 v20 a20) U2 rfl (Ch rfl (AE (by kernel_rfl) ?_))
         refine Be h (fun h => ?_) fun h => ?_
         ·refine wq rfl (qe rfl ?_)
          obtain rfl := sj h
          refine Ad (sm [] [(8, iD 5)] [(90000, .box (Ay p0)), (90001, .box [iC v11.2.1.fA, iC v11.2.1.fB, .pure (.val (.bool v11.2.1.fC)), .mref 90002]), (90002, .mp (DN (Value.int .i64) zFS v11.2.2))] rfl rfl) (Aq ?_)
          exact ⟨⟨[_], tm, rfl⟩, ⟨rfl, rfl, rfl, tv⟩, tv⟩
         ·refine Ao ?_
          exact sn [] h
        ·refine wq rfl (qL FT DB rfl ?_)
         refine B1 h fun v22 a22 h => Av [] (FB N p3 v22 a22) SX rfl (qe rfl ?_)
         refine Be h (fun h => ?_) fun h => ?_
         ·refine Aj Aw rfl (qm rfl (qL FT DB rfl ?_))
          refine B1 h fun v24 a24 h => Fd (ds0 := [_, _]) [90000] [] [true] (Fo N ((Ai.mk ((Aa.mk p0.fc.fb p0.fc.fk p0.fc.fo p0.fc.fd)) p0.fq p0.fi p0.ft ((Ac.mk p0.fe.fh p0.fe.ff p0.fe.fg)))) p3 v24 a24) (.p rfl) VS rfl ⟨rfl, rfl, tv⟩ rfl rfl (by decide) ⟨rfl, tv⟩ rfl (CX rfl) tv ⟨(fun h => by cases h), tv⟩ rfl rfl rfl ?_
          refine Ab ?_
          exact sn [] h
         ·refine Ao ?_
          exact sn [] h
 ·refine wq rfl (qe rfl ?_)
  obtain rfl := sj h
  refine Ad (sm [] [(8, iD 0)] [(90000, .box (Ay v1.2.1)), (90001, .box [iC v1.2.2.1, iC v1.2.2.2.1, .pure (.val (.bool v1.2.2.2.2)), .mref 90002]), (90002, .mp (DN (Value.int .i64) zFS v1.1))] rfl rfl) (Aq ?_)
  exact ⟨⟨[_], tm, rfl⟩, ⟨rfl, rfl, rfl, tv⟩, tv⟩
theorem Md (N : Nat) (p0 : Aa) (p1 : List Int) (p2 : List Am) (p3 : List Ae) (r : Int × Int × (Option Ai) × Int) (h : G4 N p0 p1 p2 p3 = some r) : Ap uS 35 [.e (.agg (Al p0)), pD (.sl (p1.map Ar)), pD (.sl (p2.map AO)), pD (.sl (p3.map AL))] [] (.tup [.one (iC r.1), .one (iC r.2.1), .one (.pure (.rp (zD7 EQ r.2.2.1))), .one (iC r.2.2.2)]) := by
 unfold G4 at h
 refine cw (n := 69) (rs := [.tmp 8, .tmp 9, .tmp 10, .tmp 11]) Tryz.func35 fun w0 S0 => ?_
 refine wq rfl (qb rfl (qa rfl (qa rfl (qa rfl (qa rfl (Ab (wp rfl (qL DI DD rfl ?_))))))))
 refine B1 h fun v1 a1 h => Av [] (DS N p0 v1 a1) Sz rfl (qa rfl (Ab (wq rfl (qm rfl (BD rfl (Ab ?_))))))
 refine Be h (fun h => ?_) fun h => ?_
 ·refine wq rfl (qm rfl (qa rfl (qa rfl (qa rfl (qe rfl ?_)))))
  obtain rfl := sj h
  refine Ad (sm [] [(8, iD 0), (9, iD 0), (10, pD (.rp none)), (11, iD v1)] [] rfl rfl) (Aq ?_)
  exact ⟨⟨[_, _, _, _], ⟨.tmp _ _ rfl, ⟨.tmp _ _ rfl, ⟨.tmp _ _ rfl, tm⟩⟩⟩, rfl⟩, tv⟩
 ·refine Ao (wp rfl (qL DI DD rfl (qm rfl ?_)))
  refine B1 h fun v3 a3 h => Av [] (KP N p0 p1 v3 a3) Wb rfl (qa rfl (Ab (wq rfl (qm rfl (BD rfl (Ab ?_))))))
  refine Be h (fun h => ?_) fun h => ?_
  ·refine wq rfl (qm rfl (qa rfl (qa rfl (qa rfl (qe rfl ?_)))))
   obtain rfl := sj h
   refine Ad (sm [] [(8, iD 0), (9, iD 0), (10, pD (.rp none)), (11, iD v3)] [] rfl rfl) (Aq ?_)
   exact ⟨⟨[_, _, _, _], ⟨.tmp _ _ rfl, ⟨.tmp _ _ rfl, ⟨.tmp _ _ rfl, tm⟩⟩⟩, rfl⟩, tv⟩
  ·refine Ao (wq rfl (qL DI DD rfl (qm rfl ?_)))
   refine B1 h fun v5 a5 h => Av [] (Hp N p0 p2 v5 a5) UP rfl (qm rfl (qx rfl (qx rfl (qz CO rfl (qs AM rfl (qe rfl ?_))))))
   refine AJ h (fun v6 => mk [(1, pD (.sl (p1.map Ar))), (2, pD (.sl (p2.map AO))), (3, pD (.sl (p3.map AL))), (4, oD (.ptr 4 0)), (14, oD (.ptr 14 0)), (15, iD v6)] [(4, .box (Al p0)), (14, .box (A0 v5.1))]) (fun j6 h => ?_) (fun v6 h => ?_)
   ·refine wq rfl (qm rfl (AR rfl (Ab ?_)))
    refine Be h (fun h => ?_) fun h => ?_
    ·refine Aj Aw rfl (qm rfl ?_)
     refine B1 h fun v8 a8 h => Av [] (Gf N p3 v8 a8) T2 rfl (qe rfl ?_)
     exact sn [] h
    ·refine Ao ?_
     exact sn [] h
   ·refine wp rfl (qm rfl (BD rfl (Ab ?_)))
    refine Be h (fun h => ?_) fun h => ?_
    ·refine wq rfl (qm rfl (qa rfl (qa rfl (qa rfl (qe rfl ?_)))))
     obtain rfl := sj h
     refine Ad (sm [] [(8, iD 0), (9, iD 0), (10, pD (.rp none)), (11, iD v6)] [] rfl rfl) (Aq ?_)
     exact ⟨⟨[_, _, _, _], ⟨.tmp _ _ rfl, ⟨.tmp _ _ rfl, ⟨.tmp _ _ rfl, tm⟩⟩⟩, rfl⟩, tv⟩
    ·refine Ao (wq rfl (qL DI DD rfl (qm rfl (qL BE AM rfl (Bf Vh VN rfl (qb rfl (qa rfl (Ab (wq rfl ?_)))))))))
     refine B1 h fun v10 a10 h => Fd (ds0 := []) [] [2001, 2002] [] (JL N v10 a10) (.p rfl) WF rfl tv rfl rfl (by decide) tv rfl (CX rfl) ⟨rfl, rfl, tv⟩ tv rfl rfl rfl ?_
     refine Fz (sm [] [(1, pD (.sl (p1.map Ar))), (2, pD (.sl (p2.map AO))), (3, pD (.sl (p3.map AL))), (4, oD (.ptr 4 0)), (14, oD (.ptr 14 0)), (15, iD v6), (16, oD (.ptr 49 0)), (42, iD v6), (43, bD ((v6 != 0))), (45, .e (.agg (Al p0))), (46, pD (.sl (p2.map AO))), (47, .e (.agg (A0 v5.1))), (48, .e (.agg [sC (p0.fb.map Ar), sC (p0.fk.map Ar), sC (p0.fo.map Ar), sC (p0.fd.map Bw), sC (p2.map AO), iC 0, iC 0, sC (v5.1.fh.map Ar), sC (v5.1.ff.map Ar), sC (v5.1.fg.map C1)])), (49, oD (.ptr 49 0)), (50, oD (.ptr 2001 0))] [(4, .box (Al p0)), (14, .box (A0 v5.1)), (49, .box [sC (p0.fb.map Ar), sC (p0.fk.map Ar), sC (p0.fo.map Ar), sC (p0.fd.map Bw), sC (p2.map AO), iC 0, iC 0, sC (v5.1.fh.map Ar), sC (v5.1.ff.map Ar), sC (v5.1.fg.map C1)]), (2001, .box [iC v10.fA, iC v10.fB, .pure (.val (.bool v10.fC)), .mref 2002]), (2002, .mp (DN (Value.int .i64) zFS v10.fJ))] rfl rfl) (qa rfl (Ab (wp rfl (qm rfl (AF Eb rfl (qm rfl (Ab ?_)))))))
     refine A1 (L := Ef N p1 p3) h (fun v11 => mk [(1, pD (.sl (p1.map Ar))), (16, oD (.ptr 49 0)), (17, oD (.ptr 2001 0)), (51, pD (.sl (p3.map AL))), (52, iD ((p3.length : Int))), (53, iD v11.2.2.2.2.2)] [(49, .box (Ay v11.1)), (2001, .box [iC v11.2.1, iC v11.2.2.1, .pure (.val (.bool v11.2.2.2.1)), .mref 2003]), (2003, .mp (DN (Value.int .i64) zFS v11.2.2.2.2.1))]) (fun v12 => mk [(16, oD (.ptr 49 0))] [(49, .box (Ay v12))]) (fun _ _ => rfl) (sm [(2003, 2002)] _ _ rfl rfl) (fun j11 n11 v11 h => ?_) (fun v12 s h hs => ?_)
     ·unfold Ef at h
      refine wq rfl (A2 rfl (Ab (AQ ?_)))
      refine Be h (fun h => ?_) fun h => ?_
      ·refine Ao (AQ (AP (wq rfl (qm rfl ?_))))
       refine BP h fun v14 a14 b14 h => qi Eb DB a14 (Ah b14) rfl (qK FT DB rfl (qz IY rfl (qa rfl (qs DB rfl (Ab (wq rfl (qw 3 rfl (qL FT DB rfl ?_))))))))
       refine B1 h fun v15 a15 h => Fd (ds0 := [_, _, _, _]) [49, 2001, 2003] [] [true, true, true] (JT N ((Ai.mk ((Aa.mk v11.1.fc.fb v11.1.fc.fk v11.1.fc.fo v11.1.fc.fd)) v11.1.fq v11.1.fi v11.1.ft ((Ac.mk v11.1.fe.fh v11.1.fe.ff v11.1.fe.fg)))) ((BN.mk v11.2.1 v11.2.2.1 v11.2.2.2.1 v11.2.2.2.2.1)) p1 v14 v15 a15) (.p rfl) V8 rfl ⟨rfl, rfl, rfl, rfl, tv⟩ rfl rfl (Ea rfl) ⟨rfl, rfl, rfl, tv⟩ rfl (CX rfl) tv ⟨(fun h => by cases h), (fun h => by cases h), (fun h => by cases h), tv⟩ rfl rfl rfl ?_
       refine qa rfl (Ab (wq rfl (qm rfl (BD rfl (Ab ?_)))))
       refine Be h (fun h => ?_) fun h => ?_
       ·refine wq rfl (qw 2 rfl (qa rfl (qa rfl (qa rfl (qe rfl ?_)))))
        obtain rfl := sj h
        refine Ad (sm [] [(8, iD v11.2.2.2.2.2), (9, iD v15.1), (10, pD (.rp none)), (11, iD 0)] [] rfl rfl) (Aq ?_)
        exact ⟨⟨[_, _, _, _], ⟨.tmp _ _ rfl, ⟨.tmp _ _ rfl, ⟨.tmp _ _ rfl, tm⟩⟩⟩, rfl⟩, tv⟩
       ·refine Ao (Aj Aw rfl (Cg rfl (qm rfl (Ab ?_))))
        exact sn [] h
      ·refine BT ?_
       exact sn [] h
     ·refine Ad hs (wq rfl (qm rfl (qa rfl (qa rfl (qa rfl (qe rfl ?_))))))
      obtain rfl := sj h
      refine Ad ((Ii 49 [.sl (v12.fc.fb.map Ar), .sl (v12.fc.fk.map Ar), .sl (v12.fc.fo.map Ar), .sl (v12.fc.fd.map Bw), .sl (v12.fq.map AO), .val (.int .i64 v12.fi), .val (.int .i64 v12.ft), .sl (v12.fe.fh.map Ar), .sl (v12.fe.ff.map Ar), .sl (v12.fe.fg.map C1)] rfl rfl).trans ((Nc 10 _ rfl).trans (sm [] [(8, iD 0), (9, iD 0), (10, pD (.rp (zD7 EQ ((some ((Ai.mk ((Aa.mk v12.fc.fb v12.fc.fk v12.fc.fo v12.fc.fd)) v12.fq v12.fi v12.ft ((Ac.mk v12.fe.fh v12.fe.ff v12.fe.fg))))))))), (11, iD 15)] [] rfl rfl))) (Aq ?_)
      exact ⟨⟨[_, _, _, _], ⟨.tmp _ _ rfl, ⟨.tmp _ _ rfl, ⟨.tmp _ _ rfl, tm⟩⟩⟩, rfl⟩, tv⟩
theorem Jc (N : Nat) (p0 : Aa) (p1 : List Int) (p2 : List Am) (p3 : List Ae) (r : Int × Int × Int) (h : FG N p0 p1 p2 p3 = some r) : Ap uS 13 [.e (.agg (Al p0)), pD (.sl (p1.map Ar)), pD (.sl (p2.map AO)), pD (.sl (p3.map AL))] [] (.tup [.one (iC r.1), .one (iC r.2.1), .one (iC r.2.2)]) := by
 unfold FG at h
 refine cw (n := 28) (rs := [.tmp 8, .tmp 9, .tmp 10]) Tryz.func13 fun w0 S0 => ?_
 refine wq rfl (qb rfl (qa rfl (qa rfl (qa rfl (Ab (wq rfl (qL DI DD rfl (qw 3 rfl ?_))))))))
 refine B1 h fun v1 a1 h => Av [] (Md N p0 p1 p2 p3 v1 a1) Wf rfl (qm rfl (qx rfl (qx rfl (qx rfl (qx rfl (qa rfl (qa rfl (qa rfl (qa rfl (Ab (wq rfl (qw 3 rfl (qa rfl (qa rfl (qe rfl ?_)))))))))))))))
 obtain rfl := sj h
 refine Ad (sm [] [(8, iD v1.1), (9, iD v1.2.1), (10, iD v1.2.2.2)] [] rfl rfl) (Aq ?_)
 exact ⟨⟨[_, _, _], ⟨.tmp _ _ rfl, ⟨.tmp _ _ rfl, tm⟩⟩, rfl⟩, tv⟩
theorem J8 (N : Nat) (p0 : Aa) (p1 : List Am) (p2 : List Ae) (r : (Option Ai) × Int × Int) (h : DU N p0 p1 p2 = some r) : Ap uS 39 [.e (.agg (Al p0)), pD (.sl (p1.map AO)), pD (.sl (p2.map AL))] [] (.tup [.one (.pure (.rp (zD7 EQ r.1))), .one (iC r.2.1), .one (iC r.2.2)]) := by
 unfold DU at h
 refine cw (n := 59) (rs := [.tmp 6, .tmp 7, .tmp 8]) Tryz.func39 fun w0 S0 => ?_
 refine wq rfl (qb rfl (qa rfl (qa rfl (qa rfl (Ab (wp rfl (qL DI DD rfl ?_)))))))
 refine B1 h fun v1 a1 h => Av [] (DS N p0 v1 a1) Sz rfl (qa rfl (Ab (wq rfl (qm rfl (BD rfl (Ab ?_))))))
 refine Be h (fun h => ?_) fun h => ?_
 ·refine wq rfl (qm rfl (qa rfl (qa rfl (qe rfl ?_))))
  obtain rfl := sj h
  refine Ad (sm [] [(6, pD (.rp none)), (7, iD 0), (8, iD v1)] [] rfl rfl) (Aq ?_)
  exact ⟨⟨[_, _, _], ⟨.tmp _ _ rfl, ⟨.tmp _ _ rfl, tm⟩⟩, rfl⟩, tv⟩
 ·refine Ao (wq rfl (qL DI DD rfl (qm rfl ?_)))
  refine B1 h fun v3 a3 h => Av [] (Hp N p0 p1 v3 a3) UP rfl (qm rfl (qx rfl (qx rfl (qz CO rfl (qs AM rfl (qe rfl ?_))))))
  refine AJ h (fun v4 => mk [(1, pD (.sl (p1.map AO))), (2, pD (.sl (p2.map AL))), (3, oD (.ptr 3 0)), (10, oD (.ptr 10 0)), (11, iD v4)] [(3, .box (Al p0)), (10, .box (A0 v3.1))]) (fun j4 h => ?_) (fun v4 h => ?_)
  ·refine wq rfl (qm rfl (AR rfl (Ab ?_)))
   refine Be h (fun h => ?_) fun h => ?_
   ·refine Aj Aw rfl (qm rfl ?_)
    refine B1 h fun v6 a6 h => Av [] (Gf N p2 v6 a6) T2 rfl (qe rfl ?_)
    exact sn [] h
   ·refine Ao ?_
    exact sn [] h
  ·refine wp rfl (qm rfl (BD rfl (Ab ?_)))
   refine Be h (fun h => ?_) fun h => ?_
   ·refine wq rfl (qm rfl (qa rfl (qa rfl (qe rfl ?_))))
    obtain rfl := sj h
    refine Ad (sm [] [(6, pD (.rp none)), (7, iD 0), (8, iD v4)] [] rfl rfl) (Aq ?_)
    exact ⟨⟨[_, _, _], ⟨.tmp _ _ rfl, ⟨.tmp _ _ rfl, tm⟩⟩, rfl⟩, tv⟩
   ·refine Ao (wq rfl (qL DI DD rfl (qm rfl (qL BE AM rfl (Bf Vh VN rfl (qb rfl (qa rfl (Ab (wp rfl (qm rfl (AF Eb rfl (qm rfl (Ab ?_)))))))))))))
    refine A1 (L := CG N p2) h (fun v8 => mk [(12, oD (.ptr 37 0)), (38, pD (.sl (p2.map AL))), (39, iD ((p2.length : Int))), (40, iD v8.2)] [(37, .box (Ay v8.1))]) (fun v9 => mk [(12, oD (.ptr 37 0))] [(37, .box (Ay v9))]) (fun _ _ => rfl) (sm [] _ _ rfl rfl) (fun j8 n8 v8 h => ?_) (fun v9 s h hs => ?_)
    ·unfold CG at h
     refine wq rfl (A2 rfl (Ab (AQ ?_)))
     refine Be h (fun h => ?_) fun h => ?_
     ·refine Ao ?_
      refine AJ h (fun v11 => mk [(12, oD (.ptr 37 0)), (38, pD (.sl (p2.map AL))), (39, iD ((p2.length : Int))), (40, iD v8.2)] [(37, .box (Ay v11))]) (fun j11 h => ?_) (fun v11 h => ?_)
      ·refine AP (wq rfl (qm rfl ?_))
       refine BP h fun v12 a12 b12 h => qi Eb DB a12 (Ah b12) rfl (qK FT DB rfl (qz IY rfl (qa rfl (qs DB rfl (Ab (wp rfl (qL FT DB rfl ?_)))))))
       refine B1 h fun v13 a13 h => Av [] (FB N v12 v13 a13) SX rfl (Ch rfl (Ab ?_))
       refine Be h (fun h => ?_) fun h => ?_
       ·refine BT ?_
        exact sn [] h
       ·refine Ao (wp rfl (qm rfl (qL FT DB rfl ?_)))
        refine B1 h fun v15 a15 h => Fd (ds0 := [_, _]) [37] [] [false] (FK N ((Ai.mk ((Aa.mk v8.1.fc.fb v8.1.fc.fk v8.1.fc.fo v8.1.fc.fd)) v8.1.fq v8.1.fi v8.1.ft ((Ac.mk v8.1.fe.fh v8.1.fe.ff v8.1.fe.fg)))) v12 v15 a15) (.p rfl) VF rfl ⟨rfl, rfl, tv⟩ rfl rfl (by decide) ⟨rfl, tv⟩ rfl (CX rfl) tv ⟨(fun _ => rfl), tv⟩ rfl rfl rfl ?_
        refine Ch rfl (Ab ?_)
        refine Be h (fun h => ?_) fun h => ?_
        ·refine wq rfl (qw 2 rfl (qa rfl (qa rfl (qe rfl ?_))))
         obtain rfl := sj h
         refine Ad ((Ii 37 [.sl (v8.1.fc.fb.map Ar), .sl (v8.1.fc.fk.map Ar), .sl (v8.1.fc.fo.map Ar), .sl (v8.1.fc.fd.map Bw), .sl (v8.1.fq.map AO), .val (.int .i64 v8.1.fi), .val (.int .i64 v8.1.ft), .sl (v8.1.fe.fh.map Ar), .sl (v8.1.fe.ff.map Ar), .sl (v8.1.fe.fg.map C1)] rfl rfl).trans ((Nc 6 _ rfl).trans (sm [] [(6, pD (.rp (zD7 EQ ((some ((Ai.mk ((Aa.mk v8.1.fc.fb v8.1.fc.fk v8.1.fc.fo v8.1.fc.fd)) v8.1.fq v8.1.fi v8.1.ft ((Ac.mk v8.1.fe.fh v8.1.fe.ff v8.1.fe.fg))))))))), (7, iD v8.2), (8, iD 0)] [] rfl rfl))) (Aq ?_)
         exact ⟨⟨[_, _, _], ⟨.tmp _ _ rfl, ⟨.tmp _ _ rfl, tm⟩⟩, rfl⟩, tv⟩
        ·refine Ao (Aj Aw rfl (qm rfl (qL FT DB rfl ?_)))
         refine B1 h fun v17 a17 h => Fd (ds0 := [_, _]) [37] [] [true] (Fo N ((Ai.mk ((Aa.mk v8.1.fc.fb v8.1.fc.fk v8.1.fc.fo v8.1.fc.fd)) v8.1.fq v8.1.fi v8.1.ft ((Ac.mk v8.1.fe.fh v8.1.fe.ff v8.1.fe.fg)))) v12 v17 a17) (.p rfl) VS rfl ⟨rfl, rfl, tv⟩ rfl rfl (by decide) ⟨rfl, tv⟩ rfl (CX rfl) tv ⟨(fun h => by cases h), tv⟩ rfl rfl rfl ?_
         refine Ab ?_
         exact sn [] h
      ·refine Aj Aw rfl (Cg rfl (qm rfl (Ab ?_)))
       exact sn [] h
     ·refine BT ?_
      exact sn [] h
    ·refine Ad hs (wq rfl (qm rfl (qa rfl (qa rfl (qe rfl ?_)))))
     obtain rfl := sj h
     refine Ad ((Ii 37 [.sl (v9.fc.fb.map Ar), .sl (v9.fc.fk.map Ar), .sl (v9.fc.fo.map Ar), .sl (v9.fc.fd.map Bw), .sl (v9.fq.map AO), .val (.int .i64 v9.fi), .val (.int .i64 v9.ft), .sl (v9.fe.fh.map Ar), .sl (v9.fe.ff.map Ar), .sl (v9.fe.fg.map C1)] rfl rfl).trans ((Nc 6 _ rfl).trans (sm [] [(6, pD (.rp (zD7 EQ ((some ((Ai.mk ((Aa.mk v9.fc.fb v9.fc.fk v9.fc.fo v9.fc.fd)) v9.fq v9.fi v9.ft ((Ac.mk v9.fe.fh v9.fe.ff v9.fe.fg))))))))), (7, iD ((-1))), (8, iD 0)] [] rfl rfl))) (Aq ?_)
     exact ⟨⟨[_, _, _], ⟨.tmp _ _ rfl, ⟨.tmp _ _ rfl, tm⟩⟩, rfl⟩, tv⟩
theorem KK (N : Nat) (p0 : Aa) (p1 : List Am) (p2 : List Ae) (r : Ac × Int) (h : Ed N p0 p1 p2 = some r) : Ap uS 16 [.e (.agg (Al p0)), pD (.sl (p1.map AO)), pD (.sl (p2.map AL))] [] (.tup [.agg (A0 r.1), .one (iC r.2)]) := by
 unfold Ed at h
 refine cw (n := 32) (rs := [.cell 6 40, .tmp 7]) Tryz.func16 fun w0 S0 => ?_
 refine wq rfl (qb rfl (qz CO rfl (qa rfl (Ab (wq rfl (qL DI DD rfl (qw 2 rfl ?_)))))))
 refine B1 h fun v1 a1 h => Av [] (J8 N p0 p1 p2 v1 a1) V3 rfl (qm rfl (qx rfl (qx rfl (qx rfl (qa rfl (qa rfl (qa rfl (Ab (AQ (AP (wq rfl (qm rfl (BD rfl (qe rfl ?_))))))))))))))
 refine Be h (fun h => ?_) fun h => ?_
 ·refine wq rfl (Bf CO F6 rfl (qm rfl (qs AM rfl (qe rfl ?_))))
  obtain rfl := sj h
  refine Ad ((FZ 6 _ rfl).trans (sm [] [(6, oD (.ptr 6 0)), (7, iD v1.2.2)] [(6, .box [sC ((([] : List Int)).map Ar), sC ((([] : List Int)).map Ar), sC ((([] : List Int)).map C1)])] rfl rfl)) (Aq ?_)
  exact ⟨⟨[_, _], ⟨.cellN _ _ _ _ _ _ _ rfl rfl BE AM rfl rfl (Hc rfl), tm⟩, rfl⟩, tv⟩
 ·refine wq rfl (qm rfl (Dg rfl (qe rfl ?_)))
  refine Be h (fun h => ?_) fun h => ?_
  ·refine wq rfl (Bf CO F6 rfl (qs AM rfl (qe rfl ?_)))
   obtain rfl := sj h
   refine Ad ((FZ 6 _ rfl).trans (sm [] [(6, oD (.ptr 6 0)), (7, iD 11)] [(6, .box [sC ((([] : List Int)).map Ar), sC ((([] : List Int)).map Ar), sC ((([] : List Int)).map C1)])] rfl rfl)) (Aq ?_)
   exact ⟨⟨[_, _], ⟨.cellN _ _ _ _ _ _ _ rfl rfl BE AM rfl rfl (Hc rfl), tm⟩, rfl⟩, tv⟩
  ·refine Ao (wq rfl (qm rfl ?_))
   refine B1 h fun v4 a4 h => Fz (Rq 28 _ _ rfl (by rw [a4]; rfl)) ?_
   refine Ot (.p rfl) rfl ?_
   refine qg J1 rfl (qK BE AM rfl (qs AM rfl (qe rfl ?_)))
   obtain rfl := sj h
   refine Ad (sm [] [(6, oD (.ptr 6 0)), (7, iD 0)] [(6, .box (A0 v4.fe))] rfl rfl) (Aq ?_)
   exact ⟨⟨[_, _], ⟨.cellN _ _ _ _ _ _ _ rfl rfl BE AM rfl rfl (Hc rfl), tm⟩, rfl⟩, tv⟩
def P7 : Go.Shelf.Ren := ⟨fun | 129 => 182 | 173 => 125 | 246 => 126 | 283 => 159 | 284 => 160 | 285 => 161 | 286 => 162 | 317 => 181 | 318 => 183 | 319 => 184 | 320 => 185 | 337 => 194 | 338 => 195 | n => n, fun | 0 => 0 | 2 => 2 | 3 => 3 | 4 => 4 | 5 => 5 | 9 => 9 | 20 => 20 | 37 => 47 | 46 => 234 | 51 => 242 | 53 => 214 | 171 => 213 | 173 => 217 | 212 => 241 | 213 => 243 | 232 => 261 | 233 => 262 | n => n, fun | 17 => 0 | 18 => 1 | 19 => 2 | n => n⟩
theorem Sc : LaysM.n173 uS P7 := { mixed := Aw, f129 := Tryz.func182.trans (congrArg some (by kernel_rfl)), f173 := Tryz.func125.trans (congrArg some (by kernel_rfl)), f246 := Tryz.func126.trans (congrArg some (by kernel_rfl)), f283 := Tryz.func159.trans (congrArg some (by kernel_rfl)), f284 := Tryz.func160.trans (congrArg some (by kernel_rfl)), f285 := Tryz.func161.trans (congrArg some (by kernel_rfl)), f286 := Tryz.func162.trans (congrArg some (by kernel_rfl)), f317 := Tryz.func181.trans (congrArg some (by kernel_rfl)), f318 := Tryz.func183.trans (congrArg some (by kernel_rfl)), f319 := Tryz.func184.trans (congrArg some (by kernel_rfl)), f320 := Tryz.func185.trans (congrArg some (by kernel_rfl)), f337 := Tryz.func194.trans (congrArg some (by kernel_rfl)), f338 := Tryz.func195.trans (congrArg some (by kernel_rfl)), t0 := Tryz.underlying0, a0 := Tryz.isAgg0, z0 := Tryz.sizeOf0, v0 := Tryz.zeroValue0, t2 := Tryz.underlying2, a2 := Tryz.isAgg2, z2 := Tryz.sizeOf2, v2 := Tryz.zeroValue2, t3 := Tryz.underlying3, a3 := Tryz.isAgg3, z3 := Tryz.sizeOf3, v3 := Tryz.zeroValue3, t4 := Tryz.underlying4, a4 := Tryz.isAgg4, z4 := Tryz.sizeOf4, v4 := Tryz.zeroValue4, t5 := Tryz.underlying5, a5 := Tryz.isAgg5, z5 := Tryz.sizeOf5, v5 := Tryz.zeroValue5, t9 := Tryz.underlying9, a9 := Tryz.isAgg9, z9 := Tryz.sizeOf9, v9 := Tryz.zeroValue9, t20 := Tryz.underlying20, a20 := Tryz.isAgg20, z20 := Tryz.sizeOf20, v20 := Tryz.zeroValue20, t37 := Tryz.underlying47, a37 := Tryz.isAgg47, z37 := Tryz.sizeOf47, v37 := Tryz.zeroValue47, t46 := Tryz.underlying234, a46 := Tryz.isAgg234, z46 := Tryz.sizeOf234, v46 := Tryz.zeroValue234, t51 := Tryz.underlying242, a51 := Tryz.isAgg242, z51 := Tryz.sizeOf242, v51 := Tryz.zeroValue242, t53 := Tryz.underlying214, a53 := Tryz.isAgg214, z53 := Tryz.sizeOf214, v53 := Tryz.zeroValue214, t171 := Tryz.underlying213, a171 := Tryz.isAgg213, z171 := Tryz.sizeOf213, v171 := Tryz.zeroValue213, t173 := Tryz.underlying217, a173 := Tryz.isAgg217, z173 := Tryz.sizeOf217, v173 := Tryz.zeroValue217, t212 := Tryz.underlying241, a212 := Tryz.isAgg241, z212 := Tryz.sizeOf241, v212 := Tryz.zeroValue241, t213 := Tryz.underlying243, a213 := Tryz.isAgg243, z213 := Tryz.sizeOf243, t232 := Tryz.underlying261, a232 := Tryz.isAgg261, z232 := Tryz.sizeOf261, v232 := Tryz.zeroValue261, t233 := Tryz.underlying262, a233 := Tryz.isAgg262, z233 := Tryz.sizeOf262, v233 := Tryz.zeroValue262, g17 := by kernel_rfl, g18 := by kernel_rfl, g19 := by kernel_rfl, i0 := by kernel_rfl, i2 := by kernel_rfl, i3 := by kernel_rfl, i4 := by kernel_rfl, i5 := by kernel_rfl, i9 := by kernel_rfl, i20 := by kernel_rfl, i37 := by kernel_rfl, i46 := by kernel_rfl, i51 := by kernel_rfl, i53 := by kernel_rfl, i171 := by kernel_rfl, i173 := by kernel_rfl, i212 := by kernel_rfl, i232 := by kernel_rfl, i233 := by kernel_rfl, m17 := by kernel_rfl, m18 := by kernel_rfl, m19 := by kernel_rfl }
theorem GB (N : Nat) (p0 p1 : Int) (r : ByteArray) (h : EM N p0 p1 = some r) : Ap uS 125 [iD p0, iD p1] [] (pD (.val (.string r))) := by
 obtain ⟨h1, h⟩ := GW h
 subst h1
 exact OM Sc (g := P7.g 17) (by kernel_rfl) h
theorem NN (N : Nat) (p0 : Ae) (r : ByteArray) (h : Et N p0 = some r) : Ap uS 88 [.e (.agg (A6 p0))] [] (pD (.val (.string r))) := by
 unfold Et at h
 refine cw (n := 29) (rs := [.tmp 2]) Tryz.func88 fun w0 S0 => ?_
 refine wq rfl (qb rfl (qa rfl (Ab (wq rfl (qf GG rfl (ql HA rfl ?_))))))
 refine B1 h fun v1 a1 h => Av [] (GB N p0.fi 10 v1 a1) Tt rfl ?_
 refine Hz h fun c2 h => D9 (.p rfl) rfl rfl (FR _ _ _ _ c2) rfl ?_
 refine qf CQ rfl (ql A5 rfl ?_)
 refine B1 h fun v3 a3 h => Av [] (JD N p0.fa v3 a3) Tm rfl ?_
 refine Hz h fun c4 h => D9 (.p rfl) rfl rfl (FR _ _ _ _ c4) rfl ?_
 refine qa rfl (AE (by kernel_rfl) (wp rfl (qL FT DB rfl ?_)))
 refine B1 h fun v5 a5 h => Av [2001] (Ik N p0 v5 a5) TB rfl (Pp Cb rfl (qm rfl (Ab ?_)))
 refine A1 (L := EY N v5) h (fun v6 => mk [(3, pD (.val (.string v6.1))), (15, oD (.own 2002)), (16, iD ((v5.length : Int))), (17, iD v6.2)] [(2002, .vec 1 (v5.map Ar))]) (fun v7 => mk [(3, pD (.val (.string v7)))] []) (fun _ _ => rfl) (sm [(2002, 2001)] _ _ rfl rfl) (fun j6 n6 v6 h => ?_) (fun v7 s h hs => ?_)
 ·unfold EY at h
  refine wq rfl (A2 rfl (Ab (AQ ?_)))
  refine Be h (fun h => ?_) fun h => ?_
  ·refine Ao (AQ (AP (wq rfl ?_)))
   refine BP h fun v9 a9 b9 h => qI Cb Ig a9 (Ah b9) rfl (qj HA (Ah b9) rfl (qa rfl (Ab (Aj Aw rfl (qw 2 rfl ?_)))))
   refine B1 h fun v10 a10 h => Av [] (GB N v9 10 v10 a10) Tt rfl ?_
   refine Hz h fun c11 h => D9 (.p rfl) rfl rfl (FR _ _ _ _ c11) rfl ?_
   refine Hz h fun c12 h => D9 (.p rfl) rfl rfl (FR _ _ _ _ c12) rfl ?_
   refine qa rfl (Ab (Aj Aw rfl (Cg rfl (qm rfl (Ab ?_)))))
   exact sn [] h
  ·refine BT ?_
   exact sn [] h
 ·refine Ad hs (wq rfl (qm rfl ?_))
  refine Hz h fun c13 h => D9 (.p rfl) rfl rfl (FR _ _ _ _ c13) rfl ?_
  refine qa rfl (Ab ?_)
  obtain rfl := sj h
  refine Ad (sm [] [(2, pD (.val (.string ((v7 ++ (⟨#[10]⟩ : ByteArray))))))] [] rfl rfl) (Aq ?_)
  exact ⟨⟨[_], tm, rfl⟩, tv⟩
def QR : Go.Shelf.Ren := ⟨fun | 166 => 87 | 240 => 124 | 276 => 158 | n => n, fun | 0 => 0 | 3 => 3 | 4 => 4 | 5 => 5 | 9 => 9 | 37 => 47 | 70 => 140 | 72 => 142 | 75 => 144 | 80 => 149 | 164 => 211 | n => n, fun n => n⟩
theorem Ub : Lays.n166 uS QR := { mixed := Aw, f166 := Tryz.func87.trans (congrArg some (by kernel_rfl)), f240 := Tryz.func124.trans (congrArg some (by kernel_rfl)), f276 := Tryz.func158.trans (congrArg some (by kernel_rfl)), t0 := Tryz.underlying0, a0 := Tryz.isAgg0, z0 := Tryz.sizeOf0, v0 := Tryz.zeroValue0, t3 := Tryz.underlying3, a3 := Tryz.isAgg3, z3 := Tryz.sizeOf3, v3 := Tryz.zeroValue3, t4 := Tryz.underlying4, a4 := Tryz.isAgg4, z4 := Tryz.sizeOf4, v4 := Tryz.zeroValue4, t9 := Tryz.underlying9, a9 := Tryz.isAgg9, z9 := Tryz.sizeOf9, v9 := Tryz.zeroValue9, t20 := Tryz.underlying20, a20 := Tryz.isAgg20, z20 := Tryz.sizeOf20, v20 := Tryz.zeroValue20, t37 := Tryz.underlying47, a37 := Tryz.isAgg47, z37 := Tryz.sizeOf47, v37 := Tryz.zeroValue47, t70 := Tryz.underlying140, a70 := Tryz.isAgg140, z70 := Tryz.sizeOf140, v70 := Tryz.zeroValue140, t72 := Tryz.underlying142, a72 := Tryz.isAgg142, z72 := Tryz.sizeOf142, v72 := Tryz.zeroValue142, t75 := Tryz.underlying144, a75 := Tryz.isAgg144, z75 := Tryz.sizeOf144, v75 := Tryz.zeroValue144, t164 := Tryz.underlying211, a164 := Tryz.isAgg211, z164 := Tryz.sizeOf211, v164 := Tryz.zeroValue211 }
def Ru : Go.Shelf.Ren := ⟨fun | 169 => 90 | n => n, fun | 0 => 0 | 3 => 3 | 5 => 5 | 9 => 9 | 37 => 47 | 70 => 140 | 72 => 142 | 127 => 180 | n => n, fun n => n⟩
theorem T0 : Lays.n169 uS Ru := { mixed := Aw, f169 := Tryz.func90.trans (congrArg some (by kernel_rfl)), t0 := Tryz.underlying0, a0 := Tryz.isAgg0, z0 := Tryz.sizeOf0, v0 := Tryz.zeroValue0, t3 := Tryz.underlying3, a3 := Tryz.isAgg3, z3 := Tryz.sizeOf3, v3 := Tryz.zeroValue3, t9 := Tryz.underlying9, a9 := Tryz.isAgg9, z9 := Tryz.sizeOf9, v9 := Tryz.zeroValue9, t37 := Tryz.underlying47, a37 := Tryz.isAgg47, z37 := Tryz.sizeOf47, v37 := Tryz.zeroValue47, t70 := Tryz.underlying140, a70 := Tryz.isAgg140, z70 := Tryz.sizeOf140, v70 := Tryz.zeroValue140, t72 := Tryz.underlying142, a72 := Tryz.isAgg142, z72 := Tryz.sizeOf142, v72 := Tryz.zeroValue142, t127 := Tryz.underlying180, a127 := Tryz.isAgg180, z127 := Tryz.sizeOf180, v127 := Tryz.zeroValue180 }
def T1 : Go.Shelf.Ren := ⟨fun | 170 => 89 | n => n, fun | 0 => 0 | 3 => 3 | 5 => 5 | 37 => 47 | 70 => 140 | 72 => 142 | n => n, fun n => n⟩
theorem T7 : Lays.n170 uS T1 := { mixed := Aw, f170 := Tryz.func89.trans (congrArg some (by kernel_rfl)), t0 := Tryz.underlying0, a0 := Tryz.isAgg0, z0 := Tryz.sizeOf0, v0 := Tryz.zeroValue0, t3 := Tryz.underlying3, a3 := Tryz.isAgg3, z3 := Tryz.sizeOf3, v3 := Tryz.zeroValue3, t37 := Tryz.underlying47, a37 := Tryz.isAgg47, z37 := Tryz.sizeOf47, v37 := Tryz.zeroValue47, t70 := Tryz.underlying140, a70 := Tryz.isAgg140, z70 := Tryz.sizeOf140, v70 := Tryz.zeroValue140, t72 := Tryz.underlying142, a72 := Tryz.isAgg142, z72 := Tryz.sizeOf142, v72 := Tryz.zeroValue142 }
theorem VY : Builder.Extra uS QR where
 sizeBuilder := by kernel_rfl
 liesBuilder := by kernel_rfl
 t5 := Tryz.underlying5
 a5 := Tryz.isAgg5
 z5 := Tryz.sizeOf5
 v5 := Tryz.zeroValue5
 infoByte := by kernel_rfl
 cellsByte := by kernel_rfl
 sizeByte := by kernel_rfl
 neB5 := by decide
theorem UX : Builder.Extra uS Ru where
 sizeBuilder := by kernel_rfl
 liesBuilder := by kernel_rfl
 t5 := Tryz.underlying5
 a5 := Tryz.isAgg5
 z5 := Tryz.sizeOf5
 v5 := Tryz.zeroValue5
 infoByte := by kernel_rfl
 cellsByte := by kernel_rfl
 sizeByte := by kernel_rfl
 neB5 := by decide
theorem WR (B b : Nat) (bs : List Value) (s : ByteArray) (w : World) (h : Lib.IsBuilder 142 5 B b bs w) (hlen : bs.length + s.size ≤ 140737488355328) (hBw : B ≤ w.heap.size) :
  Calls uS 87 #[.pointer (some ⟨b, 0, none⟩), .string s] w fun e w' => e = .returned (.tuple #[.int .i64 s.size, .nilIface]) ∧ (Lib.BuilderAt 142 5 B b (.pointer (some ⟨b, 0, none⟩)) (bs ++ Lib.strCells s) w' ∧ Below B w w') := Any.Builder_WriteString Ub VY B b bs s w h hlen hBw
theorem Wg (B b : Nat) (bs : List Value) (w : World) (h : Lib.IsBuilder 142 5 B b bs w) : Calls uS 89 #[.pointer (some ⟨b, 0, none⟩)] w fun e w' => e = .returned (.int .i64 bs.length) ∧ w' = w := Any.Builder_Len T7 B b bs w h
theorem Wy (B b : Nat) (l : List UInt8) (w : World) (h : Lib.IsBuilder 142 5 B b (Lib.byteCells l) w) (hBw : B ≤ w.heap.size) :
  Calls uS 90 #[.pointer (some ⟨b, 0, none⟩)] w fun e w' => e = .returned (.string ⟨l.toArray⟩) ∧ Below B w w' := Any.Builder_String_any T0 UX B b l w h hBw
def Si (x : Ae) : Array Value := #[.int .i64 x.fi, .int .i64 x.fa, .int .i64 x.fF, .int .i64 x.fD, .int .i64 x.fG, .int .i64 x.fm, .int .i64 x.fy, .int .i64 x.fI, .int .i64 x.fE, .int .i64 x.fp, .int .i64 x.fK]
set_option maxRecDepth 1000000 in
theorem OR (n : Nat) (a : Option Addr) (cap : Nat) (ve : Int) (hve : ve ≠ 0) (w : World)
  (hval : Calls uS 43 #[.slice a n cap] w fun e w' => e = .returned (.int .i64 ve) ∧ Below w.heap.size w w') :
  Calls uS 44 #[.slice a n cap] w fun e w' => e = .returned (.tuple #[.string ⟨#[]⟩, .int .i64 ve]) ∧ Below w.heap.size w w' := by
 have e43 : ∀ args w, (callFunc 43 args).run uS w = .ok (.enter 43 args) w := fun _ _ => by kernel_rfl
 have hb : (ve != 0) = true := bne_iff_ne.2 hve
 go_enter Tryz.func44, Tryz.ntmps44
 go_wp2_with (go_at_fn 43; refine hval.mono ?_; rintro e w' ⟨rfl, hw⟩)
 go_ret2
 exact ⟨rfl, hw⟩
set_option maxHeartbeats 2000000 in
set_option maxRecDepth 1000000 in
theorem P0 (ps : List Ae) (line : Ae → Option ByteArray) (a : Option Addr) (ab : Nat) (ao : Nat → Nat) (cap : Nat) (w : World) (r : ByteArray) (res : Value)
  (hval : Calls uS 43 #[.slice a ps.length cap] w fun e w' => e = .returned (.int .i64 0) ∧ Below w.heap.size w w')
  (hix : ∀ (i : Nat) x, ps[i]? = some x → ∀ W, Below w.heap.size w W → (Instr.indexAt 27 (.slice a ps.length cap) (.int .i64 (i : Int))).run uS W = .ok (.pointer (some ⟨ab, ao i, none⟩)) W ∧ ∀ (j : Nat) v, (Si x)[j]? = some v → W.cell? ⟨ab, ao i + j, none⟩ = some v)
  (hline : ∀ x s, x ∈ ps → line x = some s → ∀ W, Below w.heap.size w W → Calls uS 88 #[.agg (Si x)] W fun e w' => e = .returned (.string s) ∧ Below W.heap.size W w')
  (hn : ps.length ≤ 1000000) (hr : DT line ps ⟨#[]⟩ = some r) (h1 : r.size ≤ 65536 → res = .tuple #[.string r, .int .i64 0]) (h2 : 65536 < r.size → res = .tuple #[.string ⟨#[]⟩, .int .i64 3]) :
  Calls uS 44 #[.slice a ps.length cap] w fun e w' => e = .returned res ∧ Below w.heap.size w w' := by
 have e43 : ∀ args w, (callFunc 43 args).run uS w = .ok (.enter 43 args) w := fun _ _ => by kernel_rfl
 have e88 : ∀ args w, (callFunc 88 args).run uS w = .ok (.enter 88 args) w := fun _ _ => by kernel_rfl
 have e87 : ∀ args w, (callFunc 87 args).run uS w = .ok (.enter 87 args) w := fun _ _ => by kernel_rfl
 have e89 : ∀ args w, (callFunc 89 args).run uS w = .ok (.enter 89 args) w := fun _ _ => by kernel_rfl
 have e90 : ∀ args w, (callFunc 90 args).run uS w = .ok (.enter 90 args) w := fun _ _ => by kernel_rfl
 go_enter Tryz.func44, Tryz.ntmps44
 go_wp2_with (go_at_fn 43; refine hval.mono ?_; rintro e w' ⟨rfl, hw⟩)
 clear hval
 go_loopg [15] ps.length (fun g s15 wx => ∃ (q : Nat) (c : ByteArray), q + g = ps.length ∧ s15 = .int .i64 (q : Int) ∧ DT line (ps.drop q) c = some r ∧ Lib.IsBuilder 142 5 w.heap.size w'.heap.size (Lib.strCells c) wx ∧ Below w.heap.size w wx)
 case atStart =>
  refine ⟨0, ⟨#[]⟩, by omega, rfl, hr, ?_, ?_⟩
  ·obtain ⟨_, v, f1, f2, f3⟩ | ⟨_, v, f1, f2, f3⟩ := Lib.fresh_isBuilder 142 5 w'
   ·exact .inl ⟨hw.size, v, f1, f2.mono hw.size, f3⟩
   ·exact .inr ⟨hw.size, v, f1, f2.mono hw.size, f3⟩
  ·exact hw.alloc hw.size _
 case round =>
  obtain ⟨q, c, h3, rfl, h4, h5, h6⟩ := hrel
  cases gk with
  | zero =>
   have hq : q = ps.length := by omega
   subst hq
   rw [List.drop_length] at h4
   have h4 : c = r := sj h4
   subst h4
   have cLen := Wg _ _ _ wr h5
   rw [Lib.strCells_length] at cLen
   have cStr := Wy w.heap.size w'.heap.size c.data.toList wr h5 h6.size
   have hnl : ¬ ((ps.length : Int) < (ps.length : Int)) := by omega
   by_cases hs : (65536 : Int) < (c.size : Int)
   ·go_wp2_with (go_at_fn 89; refine cLen.mono ?_; rintro e W1 ⟨rfl, hW⟩; rw [hW])
    go_ret2
    exact ⟨(congrArg Ending.returned (h2 (by omega))).symm, h6⟩
   ·go_wp2_with (first | (go_at_fn 89; refine cLen.mono ?_; rintro e W1 ⟨rfl, hW⟩; rw [hW]) | (go_at_fn 90; refine cStr.mono ?_; rintro e W2 ⟨rfl, b2⟩))
    go_ret2
    exact ⟨(congrArg Ending.returned (h1 (by omega))).symm, h6.trans b2⟩
  | succ g =>
   have hql : q < ps.length := by omega
   have hx : ps[q]? = some ps[q] := by simp [hql]
   obtain ⟨i1, i2⟩ := hix q _ hx wr h6
   rw [List.drop_eq_getElem_cons hql, DT] at h4
   obtain ⟨s, hs, h4⟩ := bind_some h4
   obtain ⟨hc, h4⟩ := GW h4
   have hnl : ((q : Int) < (ps.length : Int)) := by omega
   have c0 : wr.cell? ⟨ab, ao q, none⟩ = some (.int .i64 ps[q].fi) := i2 0 _ rfl
   have c1 : wr.cell? ⟨ab, ao q + 1, none⟩ = some (.int .i64 ps[q].fa) := i2 1 _ rfl
   have c2 : wr.cell? ⟨ab, ao q + 2, none⟩ = some (.int .i64 ps[q].fF) := i2 2 _ rfl
   have c3 : wr.cell? ⟨ab, ao q + 3, none⟩ = some (.int .i64 ps[q].fD) := i2 3 _ rfl
   have c4 : wr.cell? ⟨ab, ao q + 4, none⟩ = some (.int .i64 ps[q].fG) := i2 4 _ rfl
   have c5 : wr.cell? ⟨ab, ao q + 5, none⟩ = some (.int .i64 ps[q].fm) := i2 5 _ rfl
   have c6 : wr.cell? ⟨ab, ao q + 6, none⟩ = some (.int .i64 ps[q].fy) := i2 6 _ rfl
   have c7 : wr.cell? ⟨ab, ao q + 7, none⟩ = some (.int .i64 ps[q].fI) := i2 7 _ rfl
   have c8 : wr.cell? ⟨ab, ao q + 8, none⟩ = some (.int .i64 ps[q].fE) := i2 8 _ rfl
   have c9 : wr.cell? ⟨ab, ao q + 9, none⟩ = some (.int .i64 ps[q].fp) := i2 9 _ rfl
   have c10 : wr.cell? ⟨ab, ao q + 10, none⟩ = some (.int .i64 ps[q].fK) := i2 10 _ rfl
   clear i2 hix
   have bA : Below w.heap.size w (wr.alloc (.cells (Si ps[q]) 37)) := h6.alloc h6.size _
   have bW : Below wr.heap.size wr (wr.alloc (.cells (Si ps[q]) 37)) := (Below.refl _ _).alloc (zC1 _) _
   have cL := hline ps[q] s (zD0 hql) hs _ bA
   go_wp2_with (go_at_fn 88; refine cL.mono ?_; rintro e W1 ⟨rfl, b1⟩)
   have bB : Below wr.heap.size wr W1 := bW.trans (b1.mono bW.size)
   have bC : Below w.heap.size w W1 := bA.trans (b1.mono bA.size)
   have cW := WR w.heap.size w'.heap.size (Lib.strCells c) s W1 (Q7 h5 bB) (by rw [Lib.strCells_length]; exact hc) bC.size
   go_wp2_with (go_at_fn 87; refine cW.mono ?_; rintro e W2 ⟨rfl, h7, b2⟩)
   go_roundg g
   case measure => omega
   case rel =>
    refine ⟨q + 1, c ++ s, by omega, ?_, h4, .inr ?_, bC.trans b2⟩
    ·rfl
    ·have e : Lib.strCells (c ++ s) = Lib.strCells c ++ Lib.strCells s := by
      rw [Lib.strCells_eq, Lib.strCells_eq, Lib.strCells_eq, ← Lib.byteCells_append, ByteArray.data_append, Array.toList_append]
     rw [e]; exact h7
theorem S5 {w : World} {S : Nat → Prop} (x : Ae) : Fw uS w (G0 S) (.agg (Si x)) (.e (.agg ((AL x).map C.pure))) := by
 refine ⟨Si x, rfl, rfl, fun j c hj => ?_⟩
 match j, hj with
 | 0, hj | 1, hj | 2, hj | 3, hj | 4, hj | 5, hj | 6, hj | 7, hj | 8, hj | 9, hj | 10, hj => cases hj; exact Cj.val _ rfl
 | j + 11, hj => simp [AL] at hj
theorem Lv (N : Nat) (p0 : List Ae) (r : ByteArray × Int) (h : H8 N p0 = some r) : Ap uS 44 [pD (.sl (p0.map AL))] [] (.tup [.one (.pure (.val (.string r.1))), .one (iC r.2)]) := by
 intro w S vs hS hgk hlen hrd
 have h0 : Cj w S (Au vs 0) (.sl (p0.map AL)) := hrd 0 _ rfl
 have hvs : vs = #[Au vs 0] := by
  have h2 : vs.size = 1 := hlen
  apply Array.ext (by simp [h2])
  intro i h1 _
  have : i = 0 := by omega
  subst this; simp [Au, h1]
 obtain ⟨hn, h⟩ := GW h
 obtain ⟨ve, hve, h⟩ := bind_some h
 -- the result, from its two cells
 have fin : ∀ {e : Ending} {w' : World}, e = .returned (.tuple #[.string r.1, .int .i64 r.2]) ∧ Below w.heap.size w w' → ∃ v G', e = .returned v ∧ QW w.heap.size w w' ∧ (∀ β, S β → G'.S β) ∧ (∀ β, G'.S β → S β ∨ (w.heap.size ≤ β ∧ β < w'.heap.size)) ∧ Fw uS w' G' v (.tup [.one (.pure (.val (.string r.1))), .one (iC r.2)]) ∧
   (∀ (k : Nat) (x : Nat × List (List T)), ([] : List (Nat × List (List T)))[k]? = some x → D0 uS w' G' k (.vec x.1 x.2)) ∧
   (∀ k β, k < ([] : List (Nat × List (List T))).length → G'.has k β → w.heap.size ≤ β ∧ β < w'.heap.size ∧ ¬ G'.S β) ∧
   (∀ k l β, k < ([] : List (Nat × List (List T))).length → l < ([] : List (Nat × List (List T))).length → G'.has k β → G'.has l β → k = l) := by
  rintro e w' ⟨rfl, hb⟩
  refine ⟨_, G0 S, rfl, ⟨hb, fun h => by cases h⟩, fun _ h => h, fun _ h => .inl h, ⟨#[.string r.1, .int .i64 r.2], rfl, rfl, fun j x hj => ?_⟩, fun i x hi => by simp at hi, fun i β hi => by simp at hi, fun i l β hi => by simp at hi⟩
  match j, hj with
  | 0, hj => cases hj; exact Cj.val _ rfl
  | 1, hj => cases hj; exact Cj.val _ rfl
  | j + 2, hj => simp at hj
 rw [hvs]
 -- the call of Valid
 have cV : Calls uS 43 #[Au vs 0] w fun e w' => e = .returned (.int .i64 ve) ∧ Below w.heap.size w w' := by
  refine (Gf N p0 ve hve w S #[Au vs 0] hS hgk rfl (fun j d hj => ?_)).mono ?_
  ·match j, hj with
   | 0, hj => cases hj; exact h0
   | j + 1, hj => simp at hj
  ·rintro e w' ⟨v, G', rfl, hb, _, _, hv, _⟩
   have : v = .int .i64 ve := CN (hv : Cj w' G'.S v (.val _))
   exact ⟨by rw [this], hb.toBelow⟩
 have hl : ∀ x s, x ∈ p0 → Et N x = some s → ∀ W, Below w.heap.size w W → Calls uS 88 #[.agg (Si x)] W fun e w' => e = .returned (.string s) ∧ Below W.heap.size W w' := by
  intro x s _ hs W hW
  refine (NN N x s hs W S #[.agg (Si x)] (fun β hβ => Nat.lt_of_lt_of_le (hS β hβ) hW.size) (hgk.mono (fun β hβ => hW.block β (hS β hβ)) (fun _ h => h)) rfl (fun j d hj => ?_)).mono ?_
  ·match j, hj with
   | 0, hj => cases hj; exact S5 x
   | j + 1, hj => simp at hj
  ·rintro e w' ⟨v, G', rfl, hb, _, _, hv, _⟩
   have : v = .string s := CN (hv : Cj w' G'.S v (.val _))
   exact ⟨by rw [this], hb.toBelow⟩
 generalize hv0 : Au vs 0 = v0 at h0 cV
 obtain ⟨rows, hrows⟩ : ∃ rows, p0.map AL = rows := ⟨_, rfl⟩
 rw [hrows] at h0
 have hrl : rows.length = p0.length := by rw [← hrows, vP]
 by_cases hz : ve = 0
 ·subst hz
  have h := PY rfl h
  obtain ⟨s, hs, h⟩ := bind_some h
  have r1 : s.size ≤ 65536 → (Value.tuple #[.string r.1, .int .i64 r.2] : Value) = .tuple #[.string s, .int .i64 0] := fun hq => by
   have h := PY (decide_eq_false (by omega)) h; cases h; rfl
  have r2 : 65536 < s.size → (Value.tuple #[.string r.1, .int .i64 r.2] : Value) = .tuple #[.string ⟨#[]⟩, .int .i64 3] := fun hq => by
   have h := PF (decide_eq_true hq) h; cases h; rfl
  cases h0 with
  | nil a cap =>
   obtain rfl := zC4.1 hrows
   exact (P0 [] (fun x => Et N x) a 0 (fun _ => 0) cap w s _ cV (fun i x hx => by simp at hx) (fun x s hx => by cases hx) (vO _) hs r1 r2).mono fun e w' hh => fin hh
  | sl β off cap e arr el fz rows k1 k2 k3 k4 k5 k6 =>
   rw [hrl] at cV ⊢
   refine (P0 p0 (fun x => Et N x) (some ⟨β, off, none⟩) β (fun i => off + i * 11) cap w s _ cV (fun i x hx W hW => ?_) hl hn hs r1 r2).mono fun e w' hh => fin hh
   have hrow : rows[i]? = some (AL x) := by rw [← hrows, uX, hx]; rfl
   have he : e = 11 := (k5 i _ hrow).symm
   subst he
   have hil : i < p0.length := AC hx
   have hbnd : i * 11 + 11 ≤ p0.length * 11 := by omega
   rw [hrl] at k4
   refine ⟨In Eb DB (by omega) (by simpa using hil), fun j v hj => ?_⟩
   have hWb : W.heap[β]? = some (.cells arr el fz) := by rw [hW.block β (hS β k1)]; exact k2
   have hjt : (AL x)[j]? = some (.val v) ∧ j < 11 := by
    match j, hj with
    | 0, hj | 1, hj | 2, hj | 3, hj | 4, hj | 5, hj | 6, hj | 7, hj | 8, hj | 9, hj | 10, hj => cases hj; exact ⟨rfl, by decide⟩
    | j + 11, hj => simp [Si] at hj
   have hv : Au arr (off + i * 11 + j) = v := CN (k6 i _ j _ hrow hjt.1)
   have hjl := hjt.2
   simp only [World.cell?, hWb]
   rw [Hi (by omega), hv]; rfl
 ·have hb : (ve != 0) = true := bne_iff_ne.2 hz
  have h := PF hb h
  cases h
  cases h0 with
  | nil a cap => exact (OR _ a cap ve hz w cV).mono fun e w' hh => fin hh
  | sl β off cap e arr el fz rows k1 k2 k3 k4 k5 k6 => exact (OR _ _ cap ve hz w cV).mono fun e w' hh => fin hh
theorem Nm (N : Nat) (p0 : Int) (r : ByteArray) (h : Ht N p0 = some r) : Ap uS 45 [iD p0] [] (pD (.val (.string r))) := by
 unfold Ht at h
 refine cw (n := 7) (rs := [.tmp 2]) Tryz.func45 fun w0 S0 => ?_
 refine wq rfl (qa rfl (Ab (wq rfl (Fg Tw V1 WO rfl (qm rfl ?_)))))
 refine BP h fun v1 a1 b1 h => NZ (.p rfl) rfl rfl rfl Tw V1 a1 (Ah (f := eS) b1) ?_
 refine OD (.p rfl) rfl WK rfl (Ah (f := eS) b1) rfl ?_
 refine qa rfl (Ab ?_)
 obtain rfl := sj h
 refine Ad (sm [] [(2, pD (.val (.string v1)))] [] rfl rfl) (Aq ?_)
 exact ⟨⟨[_], tm, rfl⟩, tv⟩
def Rw : Go.Shelf.Ren := ⟨fun | 129 => 182 | 171 => 46 | 243 => 91 | 246 => 126 | 283 => 159 | 284 => 160 | 285 => 161 | 286 => 162 | 317 => 181 | 318 => 183 | 319 => 184 | 320 => 185 | 337 => 194 | 338 => 195 | n => n, fun | 0 => 0 | 2 => 2 | 3 => 3 | 4 => 4 | 5 => 5 | 9 => 9 | 20 => 20 | 37 => 47 | 46 => 234 | 51 => 242 | 53 => 214 | 171 => 213 | 173 => 217 | 212 => 241 | 213 => 243 | 232 => 261 | 233 => 262 | n => n, fun | 17 => 0 | 18 => 1 | 19 => 2 | n => n⟩
theorem Ul : LaysM.n171 uS Rw := { mixed := Aw, f129 := Tryz.func182.trans (congrArg some (by kernel_rfl)), f171 := Tryz.func46.trans (congrArg some (by kernel_rfl)), f243 := Tryz.func91.trans (congrArg some (by kernel_rfl)), f246 := Tryz.func126.trans (congrArg some (by kernel_rfl)), f283 := Tryz.func159.trans (congrArg some (by kernel_rfl)), f284 := Tryz.func160.trans (congrArg some (by kernel_rfl)), f285 := Tryz.func161.trans (congrArg some (by kernel_rfl)), f286 := Tryz.func162.trans (congrArg some (by kernel_rfl)), f317 := Tryz.func181.trans (congrArg some (by kernel_rfl)), f318 := Tryz.func183.trans (congrArg some (by kernel_rfl)), f319 := Tryz.func184.trans (congrArg some (by kernel_rfl)), f320 := Tryz.func185.trans (congrArg some (by kernel_rfl)), f337 := Tryz.func194.trans (congrArg some (by kernel_rfl)), f338 := Tryz.func195.trans (congrArg some (by kernel_rfl)), t0 := Tryz.underlying0, a0 := Tryz.isAgg0, z0 := Tryz.sizeOf0, v0 := Tryz.zeroValue0, t2 := Tryz.underlying2, a2 := Tryz.isAgg2, z2 := Tryz.sizeOf2, v2 := Tryz.zeroValue2, t3 := Tryz.underlying3, a3 := Tryz.isAgg3, z3 := Tryz.sizeOf3, v3 := Tryz.zeroValue3, t4 := Tryz.underlying4, a4 := Tryz.isAgg4, z4 := Tryz.sizeOf4, v4 := Tryz.zeroValue4, t5 := Tryz.underlying5, a5 := Tryz.isAgg5, z5 := Tryz.sizeOf5, v5 := Tryz.zeroValue5, t9 := Tryz.underlying9, a9 := Tryz.isAgg9, z9 := Tryz.sizeOf9, v9 := Tryz.zeroValue9, t20 := Tryz.underlying20, a20 := Tryz.isAgg20, z20 := Tryz.sizeOf20, v20 := Tryz.zeroValue20, t37 := Tryz.underlying47, a37 := Tryz.isAgg47, z37 := Tryz.sizeOf47, v37 := Tryz.zeroValue47, t46 := Tryz.underlying234, a46 := Tryz.isAgg234, z46 := Tryz.sizeOf234, v46 := Tryz.zeroValue234, t51 := Tryz.underlying242, a51 := Tryz.isAgg242, z51 := Tryz.sizeOf242, v51 := Tryz.zeroValue242, t53 := Tryz.underlying214, a53 := Tryz.isAgg214, z53 := Tryz.sizeOf214, v53 := Tryz.zeroValue214, t171 := Tryz.underlying213, a171 := Tryz.isAgg213, z171 := Tryz.sizeOf213, v171 := Tryz.zeroValue213, t173 := Tryz.underlying217, a173 := Tryz.isAgg217, z173 := Tryz.sizeOf217, v173 := Tryz.zeroValue217, t212 := Tryz.underlying241, a212 := Tryz.isAgg241, z212 := Tryz.sizeOf241, v212 := Tryz.zeroValue241, t213 := Tryz.underlying243, a213 := Tryz.isAgg243, z213 := Tryz.sizeOf243, t232 := Tryz.underlying261, a232 := Tryz.isAgg261, z232 := Tryz.sizeOf261, v232 := Tryz.zeroValue261, t233 := Tryz.underlying262, a233 := Tryz.isAgg262, z233 := Tryz.sizeOf262, v233 := Tryz.zeroValue262, g17 := by kernel_rfl, g18 := by kernel_rfl, g19 := by kernel_rfl, i0 := by kernel_rfl, i2 := by kernel_rfl, i3 := by kernel_rfl, i4 := by kernel_rfl, i5 := by kernel_rfl, i9 := by kernel_rfl, i20 := by kernel_rfl, i37 := by kernel_rfl, i46 := by kernel_rfl, i51 := by kernel_rfl, i53 := by kernel_rfl, i171 := by kernel_rfl, i173 := by kernel_rfl, i212 := by kernel_rfl, i232 := by kernel_rfl, i233 := by kernel_rfl, m17 := by kernel_rfl, m18 := by kernel_rfl, m19 := by kernel_rfl }
theorem LC (N : Nat) (p0 : Int) (r : ByteArray) (h : H9 N p0 = some r) : Ap uS 46 [iD p0] [] (pD (.val (.string r))) := TM Ul (g := Rw.g 17) (by kernel_rfl) h
theorem FP (N : Nat) (p0 : ByteArray) (p1 : ByteArray) (r : Bool) (h : CM N p0 p1 = some r) : Ap uS 127 [pD (.val (.string p0)), pD (.val (.string p1))] [] (bD r) := by
 unfold CM at h
 refine cw (n := 21) (rs := [.tmp 4]) Tryz.func127 fun w0 S0 => ?_
 refine wq rfl (qe rfl ?_)
 refine AJ h (fun v1 => mk [(4, bD v1)] []) (fun j1 h => ?_) (fun v1 h => ?_)
 ·refine Aj Aw rfl (qm rfl ?_)
  refine Ka (.p rfl) rfl NG ?_
  refine qm rfl ?_
  refine Ka (.p rfl) rfl NG ?_
  refine Dg rfl (qm rfl ?_)
  refine CJ 10 h rfl (fun h => ?_) fun h => ?_
  ·refine qw 2 rfl ?_
   refine Ka (.g rfl rfl) rfl NG ?_
   refine qm rfl ?_
   refine Ka (.g rfl rfl) rfl NG ?_
   refine KJ rfl ?_
   refine Hz h fun c3 h => OP (.g rfl rfl) rfl NG (.some _ _ _ _ c3.1) (.none _) ⟨rfl, tv⟩ tv c3.2.1 c3.2.2 ?_
   refine qm rfl ?_
   refine D9 (.g rfl rfl) rfl rfl (Ln _ _ _ _) rfl ?_
   refine qp rfl (qe rfl ?_)
   exact sn [] h
  ·refine qw 9 rfl (qp rfl (qe rfl ?_))
   exact sn [] h
 ·obtain rfl := sj h
  refine Ad (sm [] [(4, bD v1)] [] rfl rfl) (Aq ?_)
  exact ⟨⟨[_], tm, rfl⟩, tv⟩
theorem Fv (N : Nat) (p0 : ByteArray) (p1 : ByteArray) (r : ByteArray) (h : Cw N p0 p1 = some r) : Ap uS 92 [pD (.val (.string p0)), pD (.val (.string p1))] [] (pD (.val (.string r))) := by
 unfold Cw at h
 refine cw (n := 16) (rs := [.tmp 4]) Tryz.func92 fun w0 S0 => ?_
 refine wq rfl (qa rfl (Ab (wp rfl (qw 2 rfl ?_))))
 refine B1 h fun v1 a1 h => Av [] (FP N p0 p1 v1 a1) Uy rfl (Ab ?_)
 refine Be h (fun h => ?_) fun h => ?_
 ·refine wq rfl (qw 2 rfl ?_)
  refine Ka (.p rfl) rfl NG ?_
  refine qm rfl ?_
  refine Ka (.p rfl) rfl NG ?_
  refine KJ rfl ?_
  refine Hz h fun c3 h => OP (.p rfl) rfl NG (.none _) (.some _ _ _ _ c3.1) tv ⟨rfl, tv⟩ c3.2.1 c3.2.2 ?_
  refine qa rfl (Ab ?_)
  obtain rfl := sj h
  refine Ad (sm [] [(4, pD (.val (.string ((p0.extract 0 (((wI .i64 ((p0.size : Int) - (p1.size : Int)))).toNat))))))] [] rfl rfl) (Aq ?_)
  exact ⟨⟨[_], tm, rfl⟩, tv⟩
 ·refine Ao (wq rfl (qm rfl (qe rfl ?_)))
  obtain rfl := sj h
  refine Ad (sm [] [(4, pD (.val (.string p0)))] [] rfl rfl) (Aq ?_)
  exact ⟨⟨[_], tm, rfl⟩, tv⟩
theorem Iu (N : Nat) (p0 : ByteArray) (p1 : ByteArray) (r : ByteArray) (h : Ex N p0 p1 = some r) : Ap uS 47 [pD (.val (.string p0)), pD (.val (.string p1))] [] (pD (.val (.string r))) := by
 unfold Ex at h
 refine cw (n := 8) (rs := [.tmp 4]) Tryz.func47 fun w0 S0 => ?_
 refine wq rfl (qa rfl (Ab (wq rfl (qw 2 rfl ?_))))
 refine B1 h fun v1 a1 h => Av [] (Fv N p0 p1 v1 a1) Ws rfl (qe rfl ?_)
 obtain rfl := sj h
 refine Ad (sm [] [(4, pD (.val (.string v1)))] [] rfl rfl) (Aq ?_)
 exact ⟨⟨[_], tm, rfl⟩, tv⟩
theorem Ly (N : Nat) (p0 : List Ae) (p1 : Int) (p2 : Int) (r : ByteArray × Int) (h : Gt N p0 p1 p2 = some r) : Ap uS 19 [pD (.sl (p0.map AL)), iD p1, iD p2] [] (.tup [.one (.pure (.val (.string r.1))), .one (iC r.2)]) := by
 unfold Gt at h
 refine cw (n := 54) (rs := [.tmp 6, .tmp 7]) Tryz.func19 fun w0 S0 => ?_
 refine wq rfl (qa rfl (qa rfl (Ab (wp rfl (qm rfl ?_)))))
 refine B1 h fun v1 a1 h => Av [] (Gf N p0 v1 a1) T2 rfl (qa rfl (Ab (wq rfl (qm rfl (BD rfl (Ab ?_))))))
 refine Be h (fun h => ?_) fun h => ?_
 ·refine wq rfl (qm rfl (qa rfl (qe rfl ?_)))
  obtain rfl := sj h
  refine Ad (sm [] [(6, pD (.val (.string ((⟨#[]⟩ : ByteArray))))), (7, iD v1)] [] rfl rfl) (Aq ?_)
  exact ⟨⟨[_, _], ⟨.tmp _ _ rfl, tm⟩, rfl⟩, tv⟩
 ·refine Ao (AQ (AP ?_))
  refine AJ h (fun v3 => mk [(0, pD (.sl (p0.map AL))), (1, iD p1), (2, iD p2), (16, bD v3)] []) (fun j3 h => ?_) (fun v3 h => ?_)
  ·refine Aj Aw rfl (qm rfl (A2 rfl (qm rfl ?_)))
   refine CJ 19 h rfl (fun h => ?_) fun h => ?_
   ·refine qw 4 rfl (qp rfl (qe rfl ?_))
    exact sn [] h
   ·refine qw 2 rfl (AF Eb rfl (Dg rfl (qp rfl (qe rfl ?_))))
    exact sn [] h
  ·refine Be h (fun h => ?_) fun h => ?_
   ·refine wq rfl (qa rfl (qe rfl ?_))
    obtain rfl := sj h
    refine Ad (sm [] [(6, pD (.val (.string ((⟨#[]⟩ : ByteArray))))), (7, iD 7)] [] rfl rfl) (Aq ?_)
    exact ⟨⟨[_, _], ⟨.tmp _ _ rfl, tm⟩, rfl⟩, tv⟩
   ·refine AJ h (fun v6 => mk [(0, pD (.sl (p0.map AL))), (1, iD p1), (2, iD p2), (25, bD v6)] []) (fun j6 h => ?_) (fun v6 h => ?_)
    ·refine Aj Aw rfl (qm rfl (A2 rfl (qm rfl ?_)))
     refine CJ 28 h rfl (fun h => ?_) fun h => ?_
     ·refine qw 2 rfl (qp rfl (qe rfl ?_))
      exact sn [] h
     ·refine qm rfl (DX rfl (qp rfl (qe rfl ?_)))
      exact sn [] h
    ·refine Be h (fun h => ?_) fun h => ?_
     ·refine wq rfl (qa rfl (qe rfl ?_))
      obtain rfl := sj h
      refine Ad (sm [] [(6, pD (.val (.string ((⟨#[]⟩ : ByteArray))))), (7, iD 1)] [] rfl rfl) (Aq ?_)
      exact ⟨⟨[_, _], ⟨.tmp _ _ rfl, tm⟩, rfl⟩, tv⟩
     ·refine Ao (wq rfl (qw 3 rfl (Cg rfl ?_)))
      refine Hz h fun c9 h => NI (.p rfl) rfl Eb DB (Ip (f := AL) (n := 11) (fun _ => rfl) _) (.some _ _ _ _ c9.1) (.some _ _ _ _ c9.2.1) ⟨rfl, tv⟩ ⟨rfl, tv⟩ (by have := c9.2.2.1; (try simp only [vP]); omega) (by have := c9.2.2.2; (try simp only [vP]); omega) (LS AL p0 _ _ (((wI .i64 (p1 + 1))).toNat - (p1).toNat) rfl) ?_
      refine B1 h fun v10 a10 h => Av [] (Lv N (((p0.drop (p1).toNat).take (((wI .i64 (p1 + 1))).toNat - (p1).toNat))) v10 a10) Wn rfl (qm rfl (qx rfl (qx rfl (qa rfl (qa rfl (Ab (wp rfl (qm rfl (BD rfl (Ab ?_))))))))))
      refine Be h (fun h => ?_) fun h => ?_
      ·refine wq rfl (qm rfl (qa rfl (qe rfl ?_)))
       obtain rfl := sj h
       refine Ad (sm [] [(6, pD (.val (.string ((⟨#[]⟩ : ByteArray))))), (7, iD v10.2)] [] rfl rfl) (Aq ?_)
       exact ⟨⟨[_, _], ⟨.tmp _ _ rfl, tm⟩, rfl⟩, tv⟩
      ·refine Ao (wq rfl (qm rfl ?_))
       refine B1 h fun v12 a12 h => Av [] (Nm N p2 v12 a12) V4 rfl ?_
       refine Hz h fun c13 h => D9 (.p rfl) rfl rfl (FR _ _ _ _ c13) rfl ?_
       refine qm rfl ?_
       refine B1 h fun v14 a14 h => Av [] (LC N p1 v14 a14) Wz rfl ?_
       refine Hz h fun c15 h => D9 (.p rfl) rfl rfl (FR _ _ _ _ c15) rfl ?_
       refine Hz h fun c16 h => D9 (.p rfl) rfl rfl (FR _ _ _ _ c16) rfl ?_
       refine qm rfl ?_
       refine B1 h fun v17 a17 h => Av [] (Iu N v10.1 ((⟨#[10]⟩ : ByteArray)) v17 a17) WG rfl ?_
       refine Hz h fun c18 h => D9 (.p rfl) rfl rfl (FR _ _ _ _ c18) rfl ?_
       refine qa rfl (qe rfl ?_)
       obtain rfl := sj h
       refine Ad (sm [] [(6, pD (.val (.string (((((v12 ++ (⟨#[32]⟩ : ByteArray)) ++ v14) ++ (⟨#[58, 32]⟩ : ByteArray)) ++ v17))))), (7, iD 0)] [] rfl rfl) (Aq ?_)
       exact ⟨⟨[_, _], ⟨.tmp _ _ rfl, tm⟩, rfl⟩, tv⟩
theorem GD (N : Nat) (r : Bool) (h : De N = some r) : Ap uS 11 [] [] (bD r) := by
 unfold De at h
 refine cw (n := 97) (rs := [.tmp 0]) Tryz.func11 fun w0 S0 => ?_
 refine wq rfl (qa rfl (Ab (wq rfl (Fg AB Cy ML rfl (Fg AB Cy ML rfl (Fg AB Cy ML rfl (Bf VH V9 rfl (qz VH rfl (qs DD rfl (Ab (wq rfl (Bf Od R7 rfl (Bf Od R7 rfl (Fg Gn FD Od rfl (qa rfl (Ab (wq rfl (Bf IY Qy rfl (Bf IY Qy rfl (Bf IY Qy rfl (Bf IY Qy rfl (Fg Eb DB IY rfl (qa rfl (Ab (AQ (Ad (Bd 25 _ _ rfl rfl) (Aj Aw rfl (qL DI DD rfl (Fg AB Cy ML rfl (qw 2 rfl ?_))))))))))))))))))))))))))))))
 refine Hz h fun c1 h => NI (rows := (([(Ae.mk 0 7 0 0 0 0 1 0 0 0 0), (Ae.mk 0 2 0 0 0 0 1 0 0 0 0), (Ae.mk 1 6 0 0 0 0 0 1 0 1 0), (Ae.mk 2 3 0 0 0 1 1 0 0 0 0)] : List Ae)).map AL) (.p rfl) rfl Eb DB (Ip (f := AL) (n := 11) (fun _ => rfl) _) (.none _) (.some _ _ _ _ c1.1) tv ⟨rfl, tv⟩ (by have := c1.2.1; (try simp only [vP]); omega) (by have := c1.2.2; (try simp only [vP]); omega) (LS AL (([(Ae.mk 0 7 0 0 0 0 1 0 0 0 0), (Ae.mk 0 2 0 0 0 0 1 0 0 0 0), (Ae.mk 1 6 0 0 0 0 0 1 0 1 0), (Ae.mk 2 3 0 0 0 1 1 0 0 0 0)] : List Ae)) _ _ ((3 : Int).toNat - 0) rfl) ?_
 refine B1 h fun v2 a2 h => Hn [] [14, 15, 16, 28, 20] (Jc N ((Aa.mk (([2] : List Int)) (([0] : List Int)) (([1] : List Int)) (([] : List AH)))) (([1] : List Int)) (([(Am.mk 1 0 1), (Am.mk 2 0 0)] : List Am)) ((((([(Ae.mk 0 7 0 0 0 0 1 0 0 0 0), (Ae.mk 0 2 0 0 0 0 1 0 0 0 0), (Ae.mk 1 6 0 0 0 0 0 1 0 1 0), (Ae.mk 2 3 0 0 0 1 1 0 0 0 0)] : List Ae)).drop 0).take ((3 : Int).toNat - 0))) v2 a2) UT Fr rfl (qm rfl (qx rfl (qx rfl (qx rfl (qa rfl (qa rfl (qa rfl (AE (by kernel_rfl) (AQ (Ad (Bd 14 _ _ rfl rfl) (Ad (Bd 15 _ _ rfl rfl) (Ad (Bd 16 _ _ rfl rfl) (Ad (Bd 20 _ _ rfl rfl) (Aj Aw rfl (qL DI DD rfl (qw 2 rfl ?_))))))))))))))))
 refine Hz h fun c3 h => NI (rows := (([(Ae.mk 0 7 0 0 0 0 1 0 0 0 0), (Ae.mk 0 2 0 0 0 0 1 0 0 0 0), (Ae.mk 1 6 0 0 0 0 0 1 0 1 0), (Ae.mk 2 3 0 0 0 1 1 0 0 0 0)] : List Ae)).map AL) (.p rfl) rfl Eb DB (Ip (f := AL) (n := 11) (fun _ => rfl) _) (.none _) (.some _ _ _ _ c3.1) tv ⟨rfl, tv⟩ (by have := c3.2.1; (try simp only [vP]); omega) (by have := c3.2.2; (try simp only [vP]); omega) (LS AL (([(Ae.mk 0 7 0 0 0 0 1 0 0 0 0), (Ae.mk 0 2 0 0 0 0 1 0 0 0 0), (Ae.mk 1 6 0 0 0 0 0 1 0 1 0), (Ae.mk 2 3 0 0 0 1 1 0 0 0 0)] : List Ae)) _ _ ((3 : Int).toNat - 0) rfl) ?_
 refine B1 h fun v4 a4 h => Av [] (KK N ((Aa.mk (([2] : List Int)) (([0] : List Int)) (([1] : List Int)) (([] : List AH)))) (([(Am.mk 1 0 1), (Am.mk 2 0 0)] : List Am)) ((((([(Ae.mk 0 7 0 0 0 0 1 0 0 0 0), (Ae.mk 0 2 0 0 0 0 1 0 0 0 0), (Ae.mk 1 6 0 0 0 0 0 1 0 1 0), (Ae.mk 2 3 0 0 0 1 1 0 0 0 0)] : List Ae)).drop 0).take ((3 : Int).toNat - 0))) v4 a4) VP rfl (qm rfl (qx rfl (qx rfl (qz CO rfl (qs AM rfl (qa rfl (AE (by kernel_rfl) (wq rfl (qL DI DD rfl (Fg AB Cy ML rfl (qw 2 rfl ?_)))))))))))
 refine B1 h fun v5 a5 h => Hn [] [46] (Jc N ((Aa.mk (([2] : List Int)) (([0] : List Int)) (([1] : List Int)) (([] : List AH)))) (([1] : List Int)) (([(Am.mk 1 0 1), (Am.mk 2 0 0)] : List Am)) (([(Ae.mk 0 7 0 0 0 0 1 0 0 0 0), (Ae.mk 0 2 0 0 0 0 1 0 0 0 0), (Ae.mk 1 6 0 0 0 0 0 1 0 1 0), (Ae.mk 2 3 0 0 0 1 1 0 0 0 0)] : List Ae)) v5 a5) UT Fr rfl (qm rfl (qx rfl (qx rfl (qx rfl (qa rfl (qa rfl (qa rfl (Ab (wq rfl (qm rfl ?_))))))))))
 refine B1 h fun v6 a6 h => Av [] (Ly N (([(Ae.mk 0 7 0 0 0 0 1 0 0 0 0), (Ae.mk 0 2 0 0 0 0 1 0 0 0 0), (Ae.mk 1 6 0 0 0 0 0 1 0 1 0), (Ae.mk 2 3 0 0 0 1 1 0 0 0 0)] : List Ae)) 3 2 v6 a6) WE rfl (qm rfl (qx rfl (qx rfl (qa rfl (qe rfl ?_)))))
 refine AJ h (fun v7 => mk [(0, bD v7)] []) (fun j7 h => ?_) (fun v7 h => ?_)
 ·refine Aj Aw rfl (qm rfl (AR rfl (qm rfl ?_)))
  refine CJ 60 h rfl (fun h => ?_) fun h => ?_
  ·refine qm rfl (AR rfl (qp rfl (qm rfl ?_)))
   refine CJ 64 h rfl (fun h => ?_) fun h => ?_
   ·refine qm rfl (AR rfl (qp rfl (qm rfl ?_)))
    refine CJ 68 h rfl (fun h => ?_) fun h => ?_
    ·refine qm rfl (AR rfl (qp rfl (qm rfl ?_)))
     refine CJ 72 h rfl (fun h => ?_) fun h => ?_
     ·refine qf BK rfl (ql Bc rfl (AF AB rfl (AR rfl (qp rfl (qm rfl ?_)))))
      refine CJ 78 h rfl (fun h => ?_) fun h => ?_
      ·refine qf BK rfl (ql Bc rfl ?_)
       refine BP h fun v13 a13 b13 h => qi AB Cy a13 (Ah b13) rfl (qk A5 rfl (AR rfl (qp rfl (qm rfl ?_))))
       refine CJ 85 h rfl (fun h => ?_) fun h => ?_
       ·refine qm rfl (AR rfl (qp rfl (qm rfl ?_)))
        refine CJ 89 h rfl (fun h => ?_) fun h => ?_
        ·refine qm rfl (AR rfl (qp rfl (qm rfl ?_)))
         refine CJ 93 h rfl (fun h => ?_) fun h => ?_
         ·refine qm rfl ?_
          refine D9 (.g rfl rfl) rfl rfl (Ln _ _ _ _) rfl ?_
          refine qp rfl (qe rfl ?_)
          exact sn [] h
         ·refine qw 2 rfl (qp rfl (qe rfl ?_))
          exact sn [] h
        ·refine qw 2 rfl (qp rfl (qw 3 rfl (qp rfl (qe rfl ?_))))
         exact sn [] h
       ·refine qw 2 rfl (qp rfl (qw 3 rfl (qp rfl (qw 3 rfl (qp rfl (qe rfl ?_))))))
        exact sn [] h
      ·refine qw 5 rfl (qp rfl (qw 3 rfl (qp rfl (qw 3 rfl (qp rfl (qw 3 rfl (qp rfl (qe rfl ?_))))))))
       exact sn [] h
     ·refine qw 4 rfl (qp rfl (qw 6 rfl (qp rfl (qw 3 rfl (qp rfl (qw 3 rfl (qp rfl (qw 3 rfl (qp rfl (qe rfl ?_))))))))))
      exact sn [] h
    ·refine qw 2 rfl (qp rfl (qw 5 rfl (qp rfl (qw 6 rfl (qp rfl (qw 3 rfl (qp rfl (qw 3 rfl (qp rfl (qw 3 rfl (qp rfl (qe rfl ?_))))))))))))
     exact sn [] h
   ·refine qw 2 rfl (qp rfl (qw 3 rfl (qp rfl (qw 5 rfl (qp rfl (qw 6 rfl (qp rfl (qw 3 rfl (qp rfl (qw 3 rfl (qp rfl (qw 3 rfl (qp rfl (qe rfl ?_))))))))))))))
    exact sn [] h
  ·refine qw 2 rfl (qp rfl (qw 3 rfl (qp rfl (qw 3 rfl (qp rfl (qw 5 rfl (qp rfl (qw 6 rfl (qp rfl (qw 3 rfl (qp rfl (qw 3 rfl (qp rfl (qw 3 rfl (qp rfl (qe rfl ?_))))))))))))))))
   exact sn [] h
 ·obtain rfl := sj h
  refine Ad (sm [] [(0, bD v7)] [] rfl rfl) (Aq ?_)
  exact ⟨⟨[_], tm, rfl⟩, tv⟩
theorem JK (N : Nat) (p0 : Aa) (r : Bool) (h : C4 N p0 = some r) : Ap uS 34 [.e (.agg (Al p0))] [] (bD r) := by
 unfold C4 at h
 refine cw (n := 97) (rs := [.tmp 2]) Tryz.func34 fun w0 S0 => ?_
 refine wq rfl (qb rfl (qa rfl (Ab (AQ ?_))))
 refine AJ h (fun v1 => mk [(1, oD (.ptr 1 0)), (27, bD v1)] [(1, .box (Al p0))]) (fun j1 h => ?_) (fun v1 h => ?_)
 ·refine Aj Aw rfl (qf BI rfl (ql Bc rfl (AF AB rfl (DX rfl (qm rfl ?_)))))
  refine CJ 10 h rfl (fun h => ?_) fun h => ?_
  ·refine qw 4 rfl (qp rfl (qw 5 rfl (qp rfl (qw 5 rfl (qp rfl (Ab ?_))))))
   exact sn [] h
  ·refine qf FI rfl (ql Bc rfl (AF AB rfl (DX rfl (qp rfl (qm rfl ?_)))))
   refine CJ 16 h rfl (fun h => ?_) fun h => ?_
   ·refine qw 4 rfl (qp rfl (qw 5 rfl (qp rfl (Ab ?_))))
    exact sn [] h
   ·refine qf IL rfl (ql Bc rfl (AF AB rfl (DX rfl (qp rfl (qm rfl ?_)))))
    refine CJ 22 h rfl (fun h => ?_) fun h => ?_
    ·refine qw 4 rfl (qp rfl (Ab ?_))
     exact sn [] h
    ·refine qf BJ rfl (ql EW rfl (AF C0 rfl (DX rfl (qp rfl (Ab ?_)))))
     exact sn [] h
 ·refine Be h (fun h => ?_) fun h => ?_
  ·refine wq rfl (qe rfl ?_)
   obtain rfl := sj h
   refine Ad (sm [] [(2, bD false)] [] rfl rfl) (Aq ?_)
   exact ⟨⟨[_], tm, rfl⟩, tv⟩
  ·refine Ao (wp rfl (qe rfl ?_))
   refine A1 (L := Cp N p0) h (fun v6 => mk [(1, oD (.ptr 1 0)), (3, iD v6)] [(1, .box (Al p0))]) (fun v7 => mk [] []) (fun _ _ => rfl) (sm [] _ _ rfl rfl) (fun j6 n6 v6 h => ?_) (fun v7 s h hs => ?_)
   ·unfold Cp at h
    refine wp rfl (qm rfl (qf BJ rfl (ql EW rfl (AF C0 rfl (A2 rfl (Ab ?_))))))
    refine Be h (fun h => ?_) fun h => ?_
    ·refine Ao (AQ (AP (AQ ?_)))
     refine AJ h (fun v9 => mk [(1, oD (.ptr 1 0)), (3, iD v6), (52, bD v9)] [(1, .box (Al p0))]) (fun j9 h => ?_) (fun v9 h => ?_)
     ·refine Aj Aw rfl (qf BJ rfl (ql EW rfl (qm rfl ?_)))
      refine BP h fun v10 a10 b10 h => qi C0 BY a10 (Ah b10) rfl (qg Hb rfl (qk E7 rfl (AF DO rfl (DX rfl (qm rfl ?_)))))
      refine CJ 43 h rfl (fun h => ?_) fun h => ?_
      ·refine qw 8 rfl (qp rfl (Ab ?_))
       exact sn [] h
      ·refine qf BJ rfl (ql EW rfl (qm rfl ?_))
       refine BP h fun v12 a12 b12 h => qi C0 BY a12 (Ah b12) rfl (qg DW rfl (qk E7 rfl (AF DO rfl (DX rfl (qp rfl (Ab ?_))))))
       exact sn [] h
     ·refine Be h (fun h => ?_) fun h => ?_
      ·refine wq rfl (qe rfl ?_)
       obtain rfl := sj h
       refine Ad (sm [] [(2, bD false)] [] rfl rfl) (Aq ?_)
       exact ⟨⟨[_], tm, rfl⟩, tv⟩
      ·refine Ao (wp rfl (qe rfl ?_))
       refine A1 (L := BB N p0 v6) h (fun v14 => mk [(1, oD (.ptr 1 0)), (3, iD v6), (4, iD v14)] [(1, .box (Al p0))]) (fun v15 => mk [(1, oD (.ptr 1 0)), (3, iD v6)] [(1, .box (Al p0))]) (fun _ _ => rfl) (sm [] _ _ rfl rfl) (fun j14 n14 v14 h => ?_) (fun v15 s h hs => ?_)
       ·unfold BB at h
        refine wp rfl (qm rfl (qf BJ rfl (ql EW rfl (qm rfl ?_))))
        refine BP h fun v16 a16 b16 h => qi C0 BY a16 (Ah b16) rfl (qg Hb rfl (qk E7 rfl (AF DO rfl (A2 rfl (Ab ?_)))))
        refine Be h (fun h => ?_) fun h => ?_
        ·refine Ao (AQ (AP (wq rfl (qf BJ rfl (ql EW rfl (qm rfl ?_))))))
         refine BP h fun v18 a18 b18 h => qi C0 BY a18 (Ah b18) rfl (qg Hb rfl (qk E7 rfl (qm rfl ?_)))
         refine BP h fun v19 a19 b19 h => qi DO JN a19 (Ah b19) rfl (qk J2 rfl (AF H2 rfl (DX rfl (Ab ?_))))
         refine Be h (fun h => ?_) fun h => ?_
         ·refine wq rfl (qe rfl ?_)
          obtain rfl := sj h
          refine Ad (sm [] [(2, bD false)] [] rfl rfl) (Aq ?_)
          exact ⟨⟨[_], tm, rfl⟩, tv⟩
         ·refine Ao (Aj Aw rfl (qm rfl (Cg rfl (qe rfl ?_))))
          exact sn [] h
        ·refine BT ?_
         exact sn [] h
       ·refine Ad hs (wq rfl (qe rfl ?_))
        refine A1 (L := Bz N p0 v6) h (fun v21 => mk [(1, oD (.ptr 1 0)), (3, iD v6), (5, iD v21)] [(1, .box (Al p0))]) (fun v22 => mk [(1, oD (.ptr 1 0)), (3, iD v6)] [(1, .box (Al p0))]) (fun _ _ => rfl) (sm [] _ _ rfl rfl) (fun j21 n21 v21 h => ?_) (fun v22 s h hs => ?_)
        ·unfold Bz at h
         refine wp rfl (qm rfl (qf BJ rfl (ql EW rfl (qm rfl ?_))))
         refine BP h fun v23 a23 b23 h => qi C0 BY a23 (Ah b23) rfl (qg DW rfl (qk E7 rfl (AF DO rfl (A2 rfl (Ab ?_)))))
         refine Be h (fun h => ?_) fun h => ?_
         ·refine Ao (AQ (AP (wq rfl (qf BJ rfl (ql EW rfl (qm rfl ?_))))))
          refine BP h fun v25 a25 b25 h => qi C0 BY a25 (Ah b25) rfl (qg DW rfl (qk E7 rfl (qm rfl ?_)))
          refine BP h fun v26 a26 b26 h => qi DO JN a26 (Ah b26) rfl (qk J2 rfl (AF H2 rfl (DX rfl (Ab ?_))))
          refine Be h (fun h => ?_) fun h => ?_
          ·refine wq rfl (qe rfl ?_)
           obtain rfl := sj h
           refine Ad (sm [] [(2, bD false)] [] rfl rfl) (Aq ?_)
           exact ⟨⟨[_], tm, rfl⟩, tv⟩
          ·refine Ao (Aj Aw rfl (qm rfl (Cg rfl (qe rfl ?_))))
           exact sn [] h
         ·refine BT ?_
          exact sn [] h
        ·refine Ad hs (Aj Aw rfl (qm rfl (Cg rfl (qe rfl ?_))))
         exact sn [] h
    ·refine BT ?_
     exact sn [] h
   ·refine Ad hs (wq rfl (qe rfl ?_))
    obtain rfl := sj h
    refine Ad (sm [] [(2, bD true)] [] rfl rfl) (Aq ?_)
    exact ⟨⟨[_], tm, rfl⟩, tv⟩
theorem JG (N : Nat) (p0 : B0) (r : Bool) (h : B8 N p0 = some r) : Ap uS 12 [.e (.agg (Gp p0))] [] (bD r) := by
 unfold B8 at h
 refine cw (n := 24) (rs := [.tmp 2]) Tryz.func12 fun w0 S0 => ?_
 refine wq rfl (qb rfl (qe rfl ?_))
 refine AJ h (fun v1 => mk [(2, bD v1)] []) (fun j1 h => ?_) (fun v1 h => ?_)
 ·refine Aj Aw rfl (qf NJ rfl (qL DI DD rfl ?_))
  refine B1 h fun v2 a2 h => Av [] (JK N ((Aa.mk p0.fc.fb p0.fc.fk p0.fc.fo p0.fc.fd)) v2 a2) Wo rfl (qm rfl ?_)
  refine CJ 6 h rfl (fun h => ?_) fun h => ?_
  ·refine qf SP rfl (ql Bc rfl (AF AB rfl (Lh rfl (qp rfl (qm rfl ?_)))))
   refine CJ 12 h rfl (fun h => ?_) fun h => ?_
   ·refine qf Nv rfl (ql Qe rfl (AF Gn rfl (Lh rfl (qp rfl (qm rfl ?_)))))
    refine CJ 18 h rfl (fun h => ?_) fun h => ?_
    ·refine qf M4 rfl (ql Up rfl (AF Eb rfl (Lh rfl (qp rfl (qe rfl ?_)))))
     exact sn [] h
    ·refine qw 4 rfl (qp rfl (qe rfl ?_))
     exact sn [] h
   ·refine qw 4 rfl (qp rfl (qw 5 rfl (qp rfl (qe rfl ?_))))
    exact sn [] h
  ·refine qw 4 rfl (qp rfl (qw 5 rfl (qp rfl (qw 5 rfl (qp rfl (qe rfl ?_))))))
   exact sn [] h
 ·obtain rfl := sj h
  refine Ad (sm [] [(2, bD v1)] [] rfl rfl) (Aq ?_)
  exact ⟨⟨[_], tm, rfl⟩, tv⟩
theorem Fj (N : Nat) (p0 : List Ae) (r : (List Ae)) (h : Bn N p0 = some r) : Ap uS 14 [pD (.sl (p0.map AL))] [(11, r.map AL)] (oD (.own 0)) := by
 unfold Bn at h
 refine cw (n := 8) (rs := [.tmp 2]) Tryz.func14 fun w0 S0 => ?_
 refine wq rfl (qa rfl (Ab (wp rfl (qm rfl ?_))))
 refine Nr (.p rfl) rfl Eb ?_
 refine Ab ?_
 refine Nk rfl (fun c2 => ?_) ?_
 ·have c2 := zC4.1 c2
  rw [c2] at h
  have h : (some (([] : List Ae))) = some r := h
  refine wq rfl (qe rfl ?_)
  obtain rfl := sj h
  refine Ad ((EP 2 2001 11 rfl rfl rfl).trans (sm [(1000, 2001)] [(2, oD (.own 1000))] [(1000, .vec 11 ((([] : List Ae)).map AL))] rfl rfl)) (Aq ?_)
  exact ⟨⟨[_], tm, rfl⟩, ⟨rfl, tv⟩⟩
 ·refine Ao (wq rfl (Fg Eb DB IY rfl (qm rfl ?_)))
  refine Hz h fun c1 h => Ko (f := AL) Eb Eb DB UZ IY (fun _ => rfl) c1 rfl (qe rfl ?_)
  obtain rfl := sj h
  refine Ad (sm [(1000, 7)] [(2, oD (.own 1000))] [(1000, .vec 11 (((([] : List Ae)) ++ p0).map AL))] rfl rfl) (Aq ?_)
  exact ⟨⟨[_], tm, rfl⟩, ⟨rfl, tv⟩⟩
theorem B7 (N : Nat) (p0 : AH) (r : Bool) (h : AZ N p0 = some r) : Ap uS 56 [.e (.agg (CA p0))] [] (bD r) := by
 unfold AZ at h
 refine cw (n := 11) (rs := [.tmp 2]) Tryz.func56 fun w0 S0 => ?_
 refine wq rfl (qb rfl (qe rfl ?_))
 refine AJ h (fun v1 => mk [(2, bD v1)] []) (fun j1 h => ?_) (fun v1 h => ?_)
 ·refine Aj Aw rfl (qf DJ rfl (ql A5 rfl (AR rfl (qm rfl ?_))))
  refine CJ 6 h rfl (fun h => ?_) fun h => ?_
  ·refine qw 3 rfl (qp rfl (qe rfl ?_))
   exact sn [] h
  ·refine qf DJ rfl (ql A5 rfl (AR rfl (qp rfl (qe rfl ?_))))
   exact sn [] h
 ·obtain rfl := sj h
  refine Ad (sm [] [(2, bD v1)] [] rfl rfl) (Aq ?_)
  exact ⟨⟨[_], tm, rfl⟩, tv⟩
theorem Gj (N : Nat) (p0 : List (List Bool)) (p1 : Int) (p2 : Int) (r : Bool) (h : Ct N p0 p1 p2 = some r) : Ap uS 143 [pD (.sl (p0.map (K5 eB))), iD p1, iD p2] [] (bD r) := by
 unfold Ct at h
 refine cw (n := 24) (rs := [.tmp 6]) Tryz.func143 fun w0 S0 => ?_
 refine wq rfl (qa rfl (Ab (wp rfl (qm rfl (AF DO rfl (qm rfl (BD rfl (Ab ?_))))))))
 refine Be h (fun h => ?_) fun h => ?_
 ·refine wq rfl (qe rfl ?_)
  obtain rfl := sj h
  refine Ad (sm [] [(6, bD false)] [] rfl rfl) (Aq ?_)
  exact ⟨⟨[_], tm, rfl⟩, tv⟩
 ·refine Ao (wp rfl (qe rfl ?_))
  refine A1 (L := BG N p0 p1 p2) h (fun v2 => mk [(0, pD (.sl (p0.map (K5 eB)))), (1, iD p1), (2, iD p2), (7, iD v2)] []) (fun v3 => mk [] []) (fun _ _ => rfl) (sm [] _ _ rfl rfl) (fun j2 n2 v2 h => ?_) (fun v3 s h hs => ?_)
  ·unfold BG at h
   refine wp rfl (qw 2 rfl (A2 rfl (Ab ?_)))
   refine Be h (fun h => ?_) fun h => ?_
   ·refine Ao (AQ (AP (wq rfl (qw 2 rfl ?_))))
    refine BP h fun v5 a5 b5 h => qi DO JN a5 (Ah b5) rfl (qk J2 rfl (AF H2 rfl (qm rfl (BD rfl (Ab ?_)))))
    refine Be h (fun h => ?_) fun h => ?_
    ·refine wq rfl (qe rfl ?_)
     obtain rfl := sj h
     refine Ad (sm [] [(6, bD false)] [] rfl rfl) (Aq ?_)
     exact ⟨⟨[_], tm, rfl⟩, tv⟩
    ·refine Ao (Aj Aw rfl (qm rfl (Cg rfl (qe rfl ?_))))
     exact sn [] h
   ·refine BT ?_
    exact sn [] h
  ·refine Ad hs (wq rfl (qe rfl ?_))
   obtain rfl := sj h
   refine Ad (sm [] [(6, bD true)] [] rfl rfl) (Aq ?_)
   exact ⟨⟨[_], tm, rfl⟩, tv⟩
theorem I0 (N : Nat) (p0 : Aa) (p1 : AH) (r : Int) (h : Dl N p0 p1 = some r) : Ap uS 101 [.e (.agg (Al p0)), .e (.agg (CA p1))] [] (iD r) := by
 unfold Dl at h
 refine cw (n := 101) (rs := [.tmp 4]) Tryz.func101 fun w0 S0 => ?_
 refine wq rfl (qb rfl (qb rfl (qa rfl (Ab (AQ ?_)))))
 refine AJ h (fun v1 => mk [(2, oD (.ptr 2 0)), (3, oD (.ptr 3 0)), (22, bD v1)] [(2, .box (Al p0)), (3, .box (CA p1))]) (fun j1 h => ?_) (fun v1 h => ?_)
 ·refine Aj Aw rfl (qf DJ rfl (ql A5 rfl (A2 rfl (qm rfl ?_))))
  refine CJ 10 h rfl (fun h => ?_) fun h => ?_
  ·refine qw 3 rfl (qp rfl (qw 4 rfl (qu rfl (qu rfl (qn rfl (qp rfl (Ab ?_)))))))
   exact sn [] h
  ·refine qf DJ rfl (ql A5 rfl (DX rfl (qp rfl (qm rfl ?_))))
   refine CJ 15 h rfl (fun h => ?_) fun h => ?_
   ·refine qw 3 rfl (qu rfl (qu rfl (qn rfl (qp rfl (Ab ?_)))))
    exact sn [] h
   ·refine qf OE rfl (ql Qq rfl (qm rfl ?_))
    refine CJ 18 h rfl (fun h => ?_) fun h => ?_
    ·refine qL ER BY rfl ?_
     refine B1 h fun v5 a5 h => Av [] (B7 N p1 v5 a5) O5 rfl (qp rfl (qp rfl (Ab ?_)))
     exact sn [] h
    ·refine qw 2 rfl (qp rfl (qp rfl (Ab ?_)))
     exact sn [] h
 ·refine Be h (fun h => ?_) fun h => ?_
  ·refine wq rfl (qe rfl ?_)
   obtain rfl := sj h
   refine Ad (sm [] [(4, iD 1)] [] rfl rfl) (Aq ?_)
   exact ⟨⟨[_], tm, rfl⟩, tv⟩
  ·refine Ao (wq rfl (qf BI rfl (ql Bc rfl (AF AB rfl (qa rfl (Ab (AQ ?_)))))))
   refine AJ h (fun v7 => mk [(2, oD (.ptr 2 0)), (3, oD (.ptr 3 0)), (45, bD v7)] [(2, .box (Al p0)), (3, .box (CA p1))]) (fun j7 h => ?_) (fun v7 h => ?_)
   ·refine Aj Aw rfl (qf Ci rfl (ql A5 rfl (A2 rfl (qm rfl ?_))))
    refine CJ 29 h rfl (fun h => ?_) fun h => ?_
    ·refine qw 4 rfl (qp rfl (qw 4 rfl (qp rfl (qw 5 rfl (qp rfl (Ab ?_))))))
     exact sn [] h
    ·refine qf Ci rfl (ql A5 rfl (qm rfl (Dg rfl (qp rfl (qm rfl ?_)))))
     refine CJ 35 h rfl (fun h => ?_) fun h => ?_
     ·refine qw 3 rfl (qp rfl (qw 5 rfl (qp rfl (Ab ?_))))
      exact sn [] h
     ·refine qf G5 rfl (ql A5 rfl (A2 rfl (qp rfl (qm rfl ?_))))
      refine CJ 40 h rfl (fun h => ?_) fun h => ?_
      ·refine qw 4 rfl (qp rfl (Ab ?_))
       exact sn [] h
      ·refine qf G5 rfl (ql A5 rfl (qm rfl (Dg rfl (qp rfl (Ab ?_)))))
       exact sn [] h
   ·refine Be h (fun h => ?_) fun h => ?_
    ·refine wq rfl (qe rfl ?_)
     obtain rfl := sj h
     refine Ad (sm [] [(4, iD 4)] [] rfl rfl) (Aq ?_)
     exact ⟨⟨[_], tm, rfl⟩, tv⟩
    ·refine Ao (wp rfl (qf Hb rfl (ql E7 rfl (qf BI rfl (ql Bc rfl (qf Ci rfl (ql A5 rfl ?_)))))))
     refine BP h fun v12 a12 b12 h => qi AB Cy a12 (Ah b12) rfl (qk A5 rfl (qf BI rfl (ql Bc rfl (qf G5 rfl (ql A5 rfl ?_)))))
     refine BP h fun v13 a13 b13 h => qi AB Cy a13 (Ah b13) rfl (qk A5 rfl ?_)
     refine B1 h fun v14 a14 h => Av [] (Gj N p1.fH v12 v13 v14 a14) TA rfl (Ch rfl (AE (by kernel_rfl) ?_))
     refine Be h (fun h => ?_) fun h => ?_
     ·refine wq rfl (qe rfl ?_)
      obtain rfl := sj h
      refine Ad (sm [] [(4, iD 6)] [] rfl rfl) (Aq ?_)
      exact ⟨⟨[_], tm, rfl⟩, tv⟩
     ·refine Ao (wp rfl (qf DJ rfl (ql A5 rfl (BD rfl (Ab ?_)))))
      refine Be h (fun h => ?_) fun h => ?_
      ·refine wp rfl (qf DW rfl (ql E7 rfl (AF DO rfl (BD rfl (Ab ?_)))))
       refine Be h (fun h => ?_) fun h => ?_
       ·refine wq rfl (qe rfl ?_)
        obtain rfl := sj h
        refine Ad (sm [] [(4, iD 6)] [] rfl rfl) (Aq ?_)
        exact ⟨⟨[_], tm, rfl⟩, tv⟩
       ·refine Ao (wq rfl (qe rfl ?_))
        obtain rfl := sj h
        refine Ad (sm [] [(4, iD 0)] [] rfl rfl) (Aq ?_)
        exact ⟨⟨[_], tm, rfl⟩, tv⟩
      ·refine Ao (wp rfl (qf DW rfl (ql E7 rfl (qf BI rfl (ql Bc rfl (qf Ci rfl (ql A5 rfl ?_)))))))
       refine BP h fun v18 a18 b18 h => qi AB Cy a18 (Ah b18) rfl (qk A5 rfl (qf BI rfl (ql Bc rfl (qf Ci rfl (ql A5 rfl ?_)))))
       refine BP h fun v19 a19 b19 h => qi AB Cy a19 (Ah b19) rfl (qk A5 rfl ?_)
       refine B1 h fun v20 a20 h => Av [] (Gj N p1.fr v18 v19 v20 a20) TA rfl (Ch rfl (AE (by kernel_rfl) ?_))
       refine Be h (fun h => ?_) fun h => ?_
       ·refine wq rfl (qe rfl ?_)
        obtain rfl := sj h
        refine Ad (sm [] [(4, iD 6)] [] rfl rfl) (Aq ?_)
        exact ⟨⟨[_], tm, rfl⟩, tv⟩
       ·refine Ao (wp rfl (qe rfl ?_))
        refine A1 (L := Bq N p1) h (fun v22 => mk [(3, oD (.ptr 3 0)), (6, iD v22)] [(3, .box (CA p1))]) (fun v23 => mk [] []) (fun _ _ => rfl) (sm [] _ _ rfl rfl) (fun j22 n22 v22 h => ?_) (fun v23 s h hs => ?_)
        ·unfold Bq at h
         refine wp rfl (qm rfl (qf DW rfl (ql E7 rfl (AF DO rfl (A2 rfl (Ab ?_))))))
         refine Be h (fun h => ?_) fun h => ?_
         ·refine Ao (AQ (AP (wq rfl (qf DW rfl (ql E7 rfl (qm rfl ?_))))))
          refine BP h fun v25 a25 b25 h => qi DO JN a25 (Ah b25) rfl (qk J2 rfl (qm rfl ?_))
          refine BP h fun v26 a26 b26 h => qi H2 Rt a26 (Ah b26) rfl (qk Qq rfl (Ch rfl (Ab ?_)))
          refine Be h (fun h => ?_) fun h => ?_
          ·refine wq rfl (qe rfl ?_)
           obtain rfl := sj h
           refine Ad (sm [] [(4, iD 1)] [] rfl rfl) (Aq ?_)
           exact ⟨⟨[_], tm, rfl⟩, tv⟩
          ·refine Ao (Aj Aw rfl (qm rfl (Cg rfl (qe rfl ?_))))
           exact sn [] h
         ·refine BT ?_
          exact sn [] h
        ·refine Ad hs (wq rfl (qe rfl ?_))
         obtain rfl := sj h
         refine Ad (sm [] [(4, iD 0)] [] rfl rfl) (Aq ?_)
         exact ⟨⟨[_], tm, rfl⟩, tv⟩
theorem EI (N : Nat) (p0 : Aa) (r : Int) (h : BH N p0 = some r) : Ap uS 55 [.e (.agg (Al p0))] [] (iD r) := by
 unfold BH at h
 refine cw (n := 102) (rs := [.tmp 2]) Tryz.func55 fun w0 S0 => ?_
 refine wq rfl (qb rfl (qa rfl (Ab (AQ ?_))))
 refine AJ h (fun v1 => mk [(1, oD (.ptr 1 0)), (16, bD v1)] [(1, .box (Al p0))]) (fun j1 h => ?_) (fun v1 h => ?_)
 ·refine Aj Aw rfl (qf BI rfl (ql Bc rfl (AF AB rfl (DX rfl (qm rfl ?_)))))
  refine CJ 11 h rfl (fun h => ?_) fun h => ?_
  ·refine qw 4 rfl (qp rfl (Ab ?_))
   exact sn [] h
  ·refine qf BJ rfl (ql EW rfl (AF C0 rfl (DX rfl (qp rfl (Ab ?_)))))
   exact sn [] h
 ·refine Be h (fun h => ?_) fun h => ?_
  ·refine wq rfl (qe rfl ?_)
   obtain rfl := sj h
   refine Ad (sm [] [(2, iD 3)] [] rfl rfl) (Aq ?_)
   exact ⟨⟨[_], tm, rfl⟩, tv⟩
  ·refine Ao (AQ ?_)
   refine AJ h (fun v4 => mk [(1, oD (.ptr 1 0)), (32, bD v4)] [(1, .box (Al p0))]) (fun j4 h => ?_) (fun v4 h => ?_)
   ·refine Aj Aw rfl (qf FI rfl (ql Bc rfl (AF AB rfl (qf BI rfl (ql Bc rfl (AF AB rfl (BD rfl (qm rfl ?_))))))))
    refine CJ 24 h rfl (fun h => ?_) fun h => ?_
    ·refine qw 7 rfl (qp rfl (Ab ?_))
     exact sn [] h
    ·refine qf IL rfl (ql Bc rfl (AF AB rfl (qf BI rfl (ql Bc rfl (AF AB rfl (BD rfl (qp rfl (Ab ?_))))))))
     exact sn [] h
   ·refine Be h (fun h => ?_) fun h => ?_
    ·refine wq rfl (qe rfl ?_)
     obtain rfl := sj h
     refine Ad (sm [] [(2, iD 6)] [] rfl rfl) (Aq ?_)
     exact ⟨⟨[_], tm, rfl⟩, tv⟩
    ·refine Ao (wp rfl (qe rfl ?_))
     refine A1 (L := AY N p0) h (fun v7 => mk [(1, oD (.ptr 1 0)), (3, iD v7)] [(1, .box (Al p0))]) (fun v8 => mk [(1, oD (.ptr 1 0))] [(1, .box (Al p0))]) (fun _ _ => rfl) (sm [] _ _ rfl rfl) (fun j7 n7 v7 h => ?_) (fun v8 s h hs => ?_)
     ·unfold AY at h
      refine wp rfl (qm rfl (qf BI rfl (ql Bc rfl (AF AB rfl (A2 rfl (Ab ?_))))))
      refine Be h (fun h => ?_) fun h => ?_
      ·refine Ao (AQ (AP (wq rfl (qf BI rfl (ql Bc rfl (qm rfl ?_))))))
       refine BP h fun v10 a10 b10 h => qi AB Cy a10 (Ah b10) rfl (qk A5 rfl (qe rfl ?_))
       refine AJ h (fun v11 => mk [(1, oD (.ptr 1 0)), (3, iD v7), (84, bD v11)] [(1, .box (Al p0))]) (fun j11 h => ?_) (fun v11 h => ?_)
       ·refine Aj Aw rfl (qm rfl (A2 rfl (qm rfl ?_)))
        refine CJ 47 h rfl (fun h => ?_) fun h => ?_
        ·refine qw 2 rfl (qp rfl (qw 7 rfl (qp rfl (qw 8 rfl (qp rfl (qw 7 rfl (qp rfl (qw 8 rfl (qp rfl (Ab ?_))))))))))
         exact sn [] h
        ·refine qm rfl (DX rfl (qp rfl (qm rfl ?_)))
         refine CJ 51 h rfl (fun h => ?_) fun h => ?_
         ·refine qw 6 rfl (qp rfl (qw 8 rfl (qp rfl (qw 7 rfl (qp rfl (qw 8 rfl (qp rfl (Ab ?_))))))))
          exact sn [] h
         ·refine qf FI rfl (ql Bc rfl (qm rfl ?_))
          refine BP h fun v14 a14 b14 h => qi AB Cy a14 (Ah b14) rfl (qk A5 rfl (A2 rfl (qp rfl (qm rfl ?_))))
          refine CJ 59 h rfl (fun h => ?_) fun h => ?_
          ·refine qw 7 rfl (qp rfl (qw 7 rfl (qp rfl (qw 8 rfl (qp rfl (Ab ?_))))))
           exact sn [] h
          ·refine qf FI rfl (ql Bc rfl (qm rfl ?_))
           refine BP h fun v16 a16 b16 h => qi AB Cy a16 (Ah b16) rfl (qk A5 rfl (qm rfl (Dg rfl (qp rfl (qm rfl ?_)))))
           refine CJ 68 h rfl (fun h => ?_) fun h => ?_
           ·refine qw 6 rfl (qp rfl (qw 8 rfl (qp rfl (Ab ?_))))
            exact sn [] h
           ·refine qf IL rfl (ql Bc rfl (qm rfl ?_))
            refine BP h fun v18 a18 b18 h => qi AB Cy a18 (Ah b18) rfl (qk A5 rfl (A2 rfl (qp rfl (qm rfl ?_))))
            refine CJ 76 h rfl (fun h => ?_) fun h => ?_
            ·refine qw 7 rfl (qp rfl (Ab ?_))
             exact sn [] h
            ·refine qf IL rfl (ql Bc rfl (qm rfl ?_))
             refine BP h fun v20 a20 b20 h => qi AB Cy a20 (Ah b20) rfl (qk A5 rfl (qm rfl (Dg rfl (qp rfl (Ab ?_)))))
             exact sn [] h
       ·refine Be h (fun h => ?_) fun h => ?_
        ·refine wq rfl (qe rfl ?_)
         obtain rfl := sj h
         refine Ad (sm [] [(2, iD 7)] [] rfl rfl) (Aq ?_)
         exact ⟨⟨[_], tm, rfl⟩, tv⟩
        ·refine Ao (Aj Aw rfl (qm rfl (Cg rfl (qe rfl ?_))))
         exact sn [] h
      ·refine BT ?_
       exact sn [] h
     ·refine Ad hs (wp rfl (qe rfl ?_))
      refine A1 (L := AT N p0) h (fun v22 => mk [(1, oD (.ptr 1 0)), (5, iD v22)] [(1, .box (Al p0))]) (fun v23 => mk [] []) (fun _ _ => rfl) (sm [] _ _ rfl rfl) (fun j22 n22 v22 h => ?_) (fun v23 s h hs => ?_)
      ·unfold AT at h
       refine wp rfl (qm rfl (qf BJ rfl (ql EW rfl (AF C0 rfl (A2 rfl (Ab ?_))))))
       refine Be h (fun h => ?_) fun h => ?_
       ·refine Ao (AQ (AP (wq rfl (qL DI DD rfl (qf BJ rfl (ql EW rfl (qm rfl ?_)))))))
        refine BP h fun v25 a25 b25 h => qi C0 BY a25 (Ah b25) rfl (qK ER BY rfl ?_)
        refine B1 h fun v26 a26 h => Av [] (I0 N p0 v25 v26 a26) VU rfl (qa rfl (AE (by kernel_rfl) (wq rfl (qm rfl (BD rfl (Ab ?_))))))
        refine Be h (fun h => ?_) fun h => ?_
        ·refine wq rfl (qm rfl (qe rfl ?_))
         obtain rfl := sj h
         refine Ad (sm [] [(2, iD v26)] [] rfl rfl) (Aq ?_)
         exact ⟨⟨[_], tm, rfl⟩, tv⟩
        ·refine Ao (Aj Aw rfl (qm rfl (Cg rfl (qe rfl ?_))))
         exact sn [] h
       ·refine BT ?_
        exact sn [] h
      ·refine Ad hs (wq rfl (qe rfl ?_))
       obtain rfl := sj h
       refine Ad (sm [] [(2, iD 0)] [] rfl rfl) (Aq ?_)
       exact ⟨⟨[_], tm, rfl⟩, tv⟩
theorem Gy (N : Nat) (p0 : Aa) (r : Ac × Int) (h : CF N p0 = some r) : Ap uS 74 [.e (.agg (Al p0))] [(1, r.1.fh.map Ar), (1, r.1.ff.map Ar), (1, r.1.fg.map C1)] (.tup [.agg [.own 0, .own 1, .own 2], .one (iC r.2)]) := by
 unfold CF at h
 refine cw (n := 68) (rs := [.cell 2 40, .tmp 3]) Tryz.func74 fun w0 S0 => ?_
 refine wq rfl (qb rfl (qz CO rfl (qa rfl (Ab (wp rfl (qL DI DD rfl ?_))))))
 refine B1 h fun v1 a1 h => Av [] (EI N p0 v1 a1) UG rfl (qa rfl (Ab (wq rfl (qm rfl (BD rfl (Ab ?_))))))
 refine Be h (fun h => ?_) fun h => ?_
 ·refine wq rfl (Bf CO F6 rfl (qm rfl (qs AM rfl (qe rfl ?_))))
  obtain rfl := sj h
  refine Ad ((Ax 2 0 2001 1 _ rfl rfl rfl rfl).trans ((Ax 2 1 2002 1 _ rfl rfl rfl rfl).trans ((Ax 2 2 2003 1 _ rfl rfl rfl rfl).trans (sm [(1000, 2001), (1001, 2002), (1002, 2003)] [(2, oD (.ptr 2 0)), (3, iD v1)] [(2, .box [.own 1000, .own 1001, .own 1002]), (1000, .vec 1 ((([] : List Int)).map Ar)), (1001, .vec 1 ((([] : List Int)).map Ar)), (1002, .vec 1 ((([] : List Int)).map C1))] rfl rfl)))) (Aq ?_)
  exact ⟨⟨[_, _], ⟨.cellN _ _ _ _ _ _ _ rfl rfl BE AM rfl rfl (Hc rfl), tm⟩, rfl⟩, ⟨rfl, rfl, rfl, tv⟩⟩
 ·refine Ao (wq rfl (qz CO rfl (Ab (wp rfl (qe rfl ?_)))))
  refine A1 (L := Bu N p0) h (fun v3 => mk [(1, oD (.ptr 1 0)), (2, oD (.ptr 2 0)), (5, oD (.ptr 5 0)), (6, iD v3.2.2)] [(1, .box (Al p0)), (2, .box [.pure (.nil0), .pure (.nil0), .pure (.nil0)]), (5, .box [.own 2004, .own 2005, .pure (.nil0)]), (2004, .vec 1 (v3.1.map Ar)), (2005, .vec 1 (v3.2.1.map Ar))]) (fun v4 => mk [(1, oD (.ptr 1 0)), (2, oD (.ptr 2 0)), (5, oD (.ptr 5 0))] [(1, .box (Al p0)), (2, .box [.pure (.nil0), .pure (.nil0), .pure (.nil0)]), (5, .box [.own 2006, .own 2007, .pure (.nil0)]), (2006, .vec 1 (v4.1.map Ar)), (2007, .vec 1 (v4.2.map Ar))]) (fun _ _ => rfl) ((Ax 5 0 2008 1 _ rfl rfl rfl rfl).trans ((Ax 5 1 2009 1 _ rfl rfl rfl rfl).trans (sm [(2004, 2008), (2005, 2009)] _ _ rfl rfl))) (fun j3 n3 v3 h => ?_) (fun v4 s h hs => ?_)
  ·unfold Bu at h
   refine wp rfl (qm rfl (qf BI rfl (ql Bc rfl (AF AB rfl (A2 rfl (Ab ?_))))))
   refine Be h (fun h => ?_) fun h => ?_
   ·refine Ao (AQ (AP (wq rfl (qf CL rfl (ql Bc rfl (qf FI rfl (ql Bc rfl (qm rfl ?_))))))))
    refine BP h fun v6 a6 b6 h => qi AB Cy a6 (Ah b6) rfl (qk A5 rfl (Fg AB Cy ML rfl ?_))
    refine Hz h fun c7 h => Ke (f := Ar) AB AB Cy Pi ML c7 rfl (qf CL rfl (qs Vf rfl (AE (by kernel_rfl) (Aj Aw rfl (qf BK rfl (ql Bc rfl (Fg AB Cy ML rfl ?_)))))))
    refine Hz h fun c8 h => Ke (f := Ar) AB AB Cy Pi ML c8 rfl (qf BK rfl (qs Vf rfl (Ab (Aj Aw rfl (qm rfl (Cg rfl (qe rfl ?_)))))))
    exact sn [(2004, 30), (2005, 35)] h
   ·refine BT ?_
    exact sn [(2006, 2004), (2007, 2005)] h
  ·refine Ad hs (wp rfl (qe rfl ?_))
   refine A1 (L := AX N p0) h (fun v9 => mk [(1, oD (.ptr 1 0)), (2, oD (.ptr 2 0)), (5, oD (.ptr 5 0)), (7, iD v9.2)] [(1, .box (Al p0)), (2, .box [.pure (.nil0), .pure (.nil0), .pure (.nil0)]), (5, .box [.own 2010, .own 2011, .own 2012]), (2010, .vec 1 (v4.1.map Ar)), (2011, .vec 1 (v4.2.map Ar)), (2012, .vec 1 (v9.1.map C1))]) (fun v10 => mk [(2, oD (.ptr 2 0)), (5, oD (.ptr 5 0))] [(2, .box [.pure (.nil0), .pure (.nil0), .pure (.nil0)]), (5, .box [.own 2013, .own 2014, .own 2015]), (2013, .vec 1 (v4.1.map Ar)), (2014, .vec 1 (v4.2.map Ar)), (2015, .vec 1 (v10.map C1))]) (fun _ _ => rfl) ((Ax 5 2 2019 1 _ rfl rfl rfl rfl).trans (sm [(2010, 2006), (2011, 2007), (2012, 2019)] _ _ rfl rfl)) (fun j9 n9 v9 h => ?_) (fun v10 s h hs => ?_)
   ·unfold AX at h
    refine wp rfl (qm rfl (qf BJ rfl (ql EW rfl (AF C0 rfl (A2 rfl (Ab ?_))))))
    refine Be h (fun h => ?_) fun h => ?_
    ·refine Ao (AQ (AP (wq rfl (qe rfl ?_))))
     refine AJ h (fun v12 => mk [(1, oD (.ptr 1 0)), (2, oD (.ptr 2 0)), (5, oD (.ptr 5 0)), (7, iD v9.2), (8, pD (.val (.int .u8 v12)))] [(1, .box (Al p0)), (2, .box [.pure (.nil0), .pure (.nil0), .pure (.nil0)]), (5, .box [.own 2016, .own 2017, .own 2018]), (2016, .vec 1 (v4.1.map Ar)), (2017, .vec 1 (v4.2.map Ar)), (2018, .vec 1 (v9.1.map C1))]) (fun j12 h => ?_) (fun v12 h => ?_)
     ·refine wq rfl (qf BJ rfl (ql EW rfl (qm rfl ?_)))
      refine BP h fun v13 a13 b13 h => qi C0 BY a13 (Ah b13) rfl (qK ER BY rfl ?_)
      refine B1 h fun v14 a14 h => Av [] (B7 N v13 v14 a14) O5 rfl (Ab ?_)
      refine Be h (fun h => ?_) fun h => ?_
      ·refine Aj Aw rfl (qf FI rfl (ql Bc rfl (qf BJ rfl (ql EW rfl (qm rfl ?_)))))
       refine BP h fun v16 a16 b16 h => qi C0 BY a16 (Ah b16) rfl (qg Ci rfl (qk A5 rfl ?_))
       refine BP h fun v17 a17 b17 h => qi AB Cy a17 (Ah b17) rfl (qk A5 rfl ?_)
       refine Hz h fun c18 h => Ib rfl c18 (qa rfl (AE (by kernel_rfl) ?_))
       exact sn [(2016, 2010), (2017, 2011), (2018, 2012)] h
      ·refine Ao ?_
       exact sn [(2016, 2010), (2017, 2011), (2018, 2012)] h
     ·refine Aj Aw rfl (qf Co rfl (ql Gx rfl (qm rfl (Fg Dq DF LJ rfl ?_))))
      refine Hz h fun c19 h => Ke (f := C1) Dq Dq DF Nh LJ c19 rfl (qf Co rfl (qs WC rfl (Ab (Aj Aw rfl (qm rfl (Cg rfl (qe rfl ?_)))))))
      exact sn [(2010, 2016), (2011, 2017), (2012, 65)] h
    ·refine BT ?_
     exact sn [(2013, 2010), (2014, 2011), (2015, 2012)] h
   ·refine Ad hs (wq rfl (qL BE AM rfl (qs AM rfl (qe rfl ?_))))
    obtain rfl := sj h
    refine Ad (sm [(1000, 2013), (1001, 2014), (1002, 2015)] [(2, oD (.ptr 2 0)), (3, iD 0)] [(2, .box [.own 1000, .own 1001, .own 1002]), (1000, .vec 1 (v4.1.map Ar)), (1001, .vec 1 (v4.2.map Ar)), (1002, .vec 1 (v10.map C1))] rfl rfl) (Aq ?_)
    exact ⟨⟨[_, _], ⟨.cellN _ _ _ _ _ _ _ rfl rfl BE AM rfl rfl (Hc rfl), tm⟩, rfl⟩, ⟨rfl, rfl, rfl, tv⟩⟩
theorem EB (N : Nat) (p0 : Ac) (p1 : Int) (r : Int) (h : BW N p0 p1 = some r) : Ap uS 57 [.e (.agg (A0 p0)), iD p1] [] (pD (.val (.int .u8 r))) := by
 unfold BW at h
 refine cw (n := 27) (rs := [.tmp 4]) Tryz.func57 fun w0 S0 => ?_
 refine wq rfl (qb rfl (qa rfl (Ab (wq rfl (qf CL rfl (ql Bc rfl (qm rfl ?_)))))))
 refine BP h fun v1 a1 b1 h => qi AB Cy a1 (Ah b1) rfl (qk A5 rfl ?_)
 refine Hz h fun c2 h => Ib rfl c2 (qe rfl ?_)
 refine AJ h (fun v3 => mk [(5, pD (.val (.int .u8 v3)))] []) (fun j3 h => ?_) (fun v3 h => ?_)
 ·refine wq rfl (qf BK rfl (ql Bc rfl (qm rfl ?_)))
  refine BP h fun v4 a4 b4 h => qi AB Cy a4 (Ah b4) rfl (qk A5 rfl (Dg rfl (Ab ?_)))
  refine Be h (fun h => ?_) fun h => ?_
  ·refine Aj Aw rfl (qm rfl (qf BK rfl (ql Bc rfl (qm rfl ?_))))
   refine BP h fun v6 a6 b6 h => qi AB Cy a6 (Ah b6) rfl (qk A5 rfl ?_)
   refine Hz h fun c7 h => Ib rfl c7 (QM rfl (qe rfl ?_))
   exact sn [] h
  ·refine Ao ?_
   exact sn [] h
 ·refine wq rfl (qm rfl (qe rfl ?_))
  obtain rfl := sj h
  refine Ad (sm [] [(4, pD (.val (.int .u8 v3)))] [] rfl rfl) (Aq ?_)
  exact ⟨⟨[_], tm, rfl⟩, tv⟩
theorem Gz (N : Nat) (p0 : Aa) (p1 : Ac) (r : Int) (h : CB N p0 p1 = some r) : Ap uS 22 [.e (.agg (Al p0)), .e (.agg (A0 p1))] [] (iD r) := by
 unfold CB at h
 refine cw (n := 154) (rs := [.tmp 4]) Tryz.func22 fun w0 S0 => ?_
 refine wq rfl (qb rfl (qb rfl (qa rfl (Ab (wp rfl (qL DI DD rfl ?_))))))
 refine B1 h fun v1 a1 h => Av [] (EI N p0 v1 a1) UG rfl (qa rfl (Ab (wq rfl (qm rfl (BD rfl (Ab ?_))))))
 refine Be h (fun h => ?_) fun h => ?_
 ·refine wq rfl (qm rfl (qe rfl ?_))
  obtain rfl := sj h
  refine Ad (sm [] [(4, iD v1)] [] rfl rfl) (Aq ?_)
  exact ⟨⟨[_], tm, rfl⟩, tv⟩
 ·refine Ao (wq rfl (qf BI rfl (ql Bc rfl (AF AB rfl (qa rfl (Ab (AQ ?_)))))))
  refine AJ h (fun v3 => mk [(2, oD (.ptr 2 0)), (3, oD (.ptr 3 0)), (6, iD ((p0.fb.length : Int))), (39, bD v3)] [(2, .box (Al p0)), (3, .box (A0 p1))]) (fun j3 h => ?_) (fun v3 h => ?_)
  ·refine Aj Aw rfl (qf CL rfl (ql Bc rfl (AF AB rfl (qm rfl (BD rfl (qm rfl ?_))))))
   refine CJ 24 h rfl (fun h => ?_) fun h => ?_
   ·refine qw 5 rfl (qp rfl (qw 8 rfl (qp rfl (Ab ?_))))
    exact sn [] h
   ·refine qf BK rfl (ql Bc rfl (AF AB rfl (qm rfl (BD rfl (qp rfl (qm rfl ?_))))))
    refine CJ 31 h rfl (fun h => ?_) fun h => ?_
    ·refine qw 7 rfl (qp rfl (Ab ?_))
     exact sn [] h
    ·refine qf Co rfl (ql Gx rfl (AF Dq rfl (qf BJ rfl (ql EW rfl (AF C0 rfl (BD rfl (qp rfl (Ab ?_))))))))
     exact sn [] h
  ·refine Be h (fun h => ?_) fun h => ?_
   ·refine wq rfl (qe rfl ?_)
    obtain rfl := sj h
    refine Ad (sm [] [(4, iD 6)] [] rfl rfl) (Aq ?_)
    exact ⟨⟨[_], tm, rfl⟩, tv⟩
   ·refine Ao (wp rfl (qe rfl ?_))
    refine A1 (L := Bv N p0 p1) h (fun v7 => mk [(2, oD (.ptr 2 0)), (3, oD (.ptr 3 0)), (6, iD ((p0.fb.length : Int))), (7, iD v7)] [(2, .box (Al p0)), (3, .box (A0 p1))]) (fun v8 => mk [(2, oD (.ptr 2 0)), (3, oD (.ptr 3 0))] [(2, .box (Al p0)), (3, .box (A0 p1))]) (fun _ _ => rfl) (sm [] _ _ rfl rfl) (fun j7 n7 v7 h => ?_) (fun v8 s h hs => ?_)
    ·unfold Bv at h
     refine wp rfl (qw 2 rfl (A2 rfl (Ab ?_)))
     refine Be h (fun h => ?_) fun h => ?_
     ·refine Ao (AQ (AP (AQ ?_)))
      refine AJ h (fun v10 => mk [(2, oD (.ptr 2 0)), (3, oD (.ptr 3 0)), (6, iD ((p0.fb.length : Int))), (7, iD v7), (84, bD v10)] [(2, .box (Al p0)), (3, .box (A0 p1))]) (fun j10 h => ?_) (fun v10 h => ?_)
      ·refine Aj Aw rfl (qf CL rfl (ql Bc rfl (qm rfl ?_)))
       refine BP h fun v11 a11 b11 h => qi AB Cy a11 (Ah b11) rfl (qk A5 rfl (A2 rfl (qm rfl ?_)))
       refine CJ 51 h rfl (fun h => ?_) fun h => ?_
       ·refine qw 11 rfl (qp rfl (qw 7 rfl (qp rfl (qw 12 rfl (qp rfl (AE (by kernel_rfl) ?_))))))
        exact sn [] h
       ·refine qf CL rfl (ql Bc rfl (qm rfl ?_))
        refine BP h fun v13 a13 b13 h => qi AB Cy a13 (Ah b13) rfl (qk A5 rfl (qf BI rfl (ql Bc rfl (qm rfl ?_))))
        refine BP h fun v14 a14 b14 h => qi AB Cy a14 (Ah b14) rfl (qk A5 rfl (Dg rfl (qp rfl (qm rfl ?_))))
        refine CJ 64 h rfl (fun h => ?_) fun h => ?_
        ·refine qw 6 rfl (qp rfl (qw 12 rfl (qp rfl (AE (by kernel_rfl) ?_))))
         exact sn [] h
        ·refine qf BK rfl (ql Bc rfl (qm rfl ?_))
         refine BP h fun v16 a16 b16 h => qi AB Cy a16 (Ah b16) rfl (qk A5 rfl (A2 rfl (qp rfl (qm rfl ?_))))
         refine CJ 72 h rfl (fun h => ?_) fun h => ?_
         ·refine qw 11 rfl (qp rfl (AE (by kernel_rfl) ?_))
          exact sn [] h
         ·refine qf BK rfl (ql Bc rfl (qm rfl ?_))
          refine BP h fun v18 a18 b18 h => qi AB Cy a18 (Ah b18) rfl (qk A5 rfl (qf BI rfl (ql Bc rfl (qm rfl ?_))))
          refine BP h fun v19 a19 b19 h => qi AB Cy a19 (Ah b19) rfl (qk A5 rfl (Dg rfl (qp rfl (AE (by kernel_rfl) ?_))))
          exact sn [] h
      ·refine Be h (fun h => ?_) fun h => ?_
       ·refine wq rfl (qe rfl ?_)
        obtain rfl := sj h
        refine Ad (sm [] [(4, iD 7)] [] rfl rfl) (Aq ?_)
        exact ⟨⟨[_], tm, rfl⟩, tv⟩
       ·refine Ao (wq rfl (qf CL rfl (ql Bc rfl (qm rfl ?_))))
        refine BP h fun v21 a21 b21 h => qi AB Cy a21 (Ah b21) rfl (qk A5 rfl (qf BK rfl (ql Bc rfl (qm rfl ?_))))
        refine BP h fun v22 a22 b22 h => qi AB Cy a22 (Ah b22) rfl (qk A5 rfl (AR rfl (AE (by kernel_rfl) ?_)))
        refine Be h (fun h => ?_) fun h => ?_
        ·refine wq rfl (qe rfl ?_)
         obtain rfl := sj h
         refine Ad (sm [] [(4, iD 1)] [] rfl rfl) (Aq ?_)
         exact ⟨⟨[_], tm, rfl⟩, tv⟩
        ·refine Ao (Aj Aw rfl (qm rfl (Cg rfl (qe rfl ?_))))
         exact sn [] h
     ·refine BT ?_
      exact sn [] h
    ·refine Ad hs (wp rfl (qe rfl ?_))
     refine A1 (L := Bs N p0 p1) h (fun v24 => mk [(2, oD (.ptr 2 0)), (3, oD (.ptr 3 0)), (8, iD v24)] [(2, .box (Al p0)), (3, .box (A0 p1))]) (fun v25 => mk [] []) (fun _ _ => rfl) (sm [] _ _ rfl rfl) (fun j24 n24 v24 h => ?_) (fun v25 s h hs => ?_)
     ·unfold Bs at h
      refine wp rfl (qm rfl (qf BJ rfl (ql EW rfl (AF C0 rfl (A2 rfl (Ab ?_))))))
      refine Be h (fun h => ?_) fun h => ?_
      ·refine Ao (AQ (AP (wq rfl (qf BJ rfl (ql EW rfl (qm rfl ?_))))))
       refine BP h fun v27 a27 b27 h => qi C0 BY a27 (Ah b27) rfl (qK ER BY rfl (qz JR rfl (qs BY rfl (Ab (wq rfl (qf BI rfl (ql Bc rfl (qf Ci rfl (ql A5 rfl ?_)))))))))
       refine BP h fun v28 a28 b28 h => qi AB Cy a28 (Ah b28) rfl (qk A5 rfl ?_)
       refine Hz h fun c29 h => Ib rfl c29 (KJ rfl (qe rfl ?_))
       refine AJ h (fun v30 => mk [(2, oD (.ptr 2 0)), (3, oD (.ptr 3 0)), (8, iD v24), (153, bD v30)] [(2, .box (Al p0)), (3, .box (A0 p1))]) (fun j30 h => ?_) (fun v30 h => ?_)
       ·refine Aj Aw rfl (qL ER BY rfl ?_)
        refine B1 h fun v31 a31 h => Av [] (B7 N v27 v31 a31) O5 rfl (Ch rfl (qm rfl ?_))
        refine CJ 119 h rfl (fun h => ?_) fun h => ?_
        ·refine qf Co rfl (ql Gx rfl (qm rfl ?_))
         refine BP h fun v33 a33 b33 h => qi Dq DF a33 (Ah b33) rfl (qk GZ rfl (BD rfl (qp rfl (qm rfl ?_))))
         refine CJ 127 h rfl (fun h => ?_) fun h => ?_
         ·refine qw 3 rfl (qu rfl (qu rfl (qu rfl (qu rfl (qu rfl (qu rfl (qu rfl (qu rfl (qu rfl (qu rfl (qu rfl (qu rfl (qu rfl (qu rfl (qu rfl (qu rfl (qu rfl (qu rfl (qu rfl (qu rfl (qu rfl (qn rfl (qp rfl (AE (by kernel_rfl) ?_))))))))))))))))))))))))
          exact sn [] h
         ·refine qL ER BY rfl ?_
          refine B1 h fun v35 a35 h => Av [] (B7 N v27 v35 a35) O5 rfl (qm rfl ?_)
          refine CJ 130 h rfl (fun h => ?_) fun h => ?_
          ·refine qf Co rfl (ql Gx rfl (qm rfl ?_))
           refine BP h fun v37 a37 b37 h => qi Dq DF a37 (Ah b37) rfl (qk GZ rfl (qm rfl (Hd rfl (BD rfl (qm rfl ?_)))))
           refine CJ 139 h rfl (fun h => ?_) fun h => ?_
           ·refine qw 11 rfl (qp rfl (qp rfl (qp rfl (AE (by kernel_rfl) ?_))))
            exact sn [] h
           ·refine qL BE AM rfl (qf Ci rfl (ql A5 rfl ?_))
            refine B1 h fun v39 a39 h => Av [] (EB N p1 v27.fj v39 a39) Uh rfl (qf Co rfl (ql Gx rfl (qm rfl ?_)))
            refine BP h fun v40 a40 b40 h => qi Dq DF a40 (Ah b40) rfl (qk GZ rfl (Hd rfl (BD rfl (qp rfl (qp rfl (qp rfl (AE (by kernel_rfl) ?_)))))))
            exact sn [] h
          ·refine qw 9 rfl (qu rfl (qu rfl (qu rfl (qu rfl (qu rfl (qu rfl (qu rfl (qu rfl (qu rfl (qu rfl (qu rfl (qn rfl (qp rfl (qp rfl (AE (by kernel_rfl) ?_)))))))))))))))
           exact sn [] h
        ·refine qw 6 rfl (qp rfl (qm rfl (qL ER BY rfl ?_)))
         refine B1 h fun v41 a41 h => Av [] (B7 N v27 v41 a41) O5 rfl (qm rfl ?_)
         refine CJ 130 h rfl (fun h => ?_) fun h => ?_
         ·refine qf Co rfl (ql Gx rfl (qm rfl ?_))
          refine BP h fun v43 a43 b43 h => qi Dq DF a43 (Ah b43) rfl (qk GZ rfl (qm rfl (Hd rfl (BD rfl (qm rfl ?_)))))
          refine CJ 139 h rfl (fun h => ?_) fun h => ?_
          ·refine qw 11 rfl (qp rfl (qp rfl (qp rfl (AE (by kernel_rfl) ?_))))
           exact sn [] h
          ·refine qL BE AM rfl (qf Ci rfl (ql A5 rfl ?_))
           refine B1 h fun v45 a45 h => Av [] (EB N p1 v27.fj v45 a45) Uh rfl (qf Co rfl (ql Gx rfl (qm rfl ?_)))
           refine BP h fun v46 a46 b46 h => qi Dq DF a46 (Ah b46) rfl (qk GZ rfl (Hd rfl (BD rfl (qp rfl (qp rfl (qp rfl (AE (by kernel_rfl) ?_)))))))
           exact sn [] h
         ·refine qw 9 rfl (qu rfl (qu rfl (qu rfl (qu rfl (qu rfl (qu rfl (qu rfl (qu rfl (qu rfl (qu rfl (qu rfl (qn rfl (qp rfl (qp rfl (AE (by kernel_rfl) ?_)))))))))))))))
          exact sn [] h
       ·refine Be h (fun h => ?_) fun h => ?_
        ·refine wq rfl (qe rfl ?_)
         obtain rfl := sj h
         refine Ad (sm [] [(4, iD 1)] [] rfl rfl) (Aq ?_)
         exact ⟨⟨[_], tm, rfl⟩, tv⟩
        ·refine Ao (Aj Aw rfl (qm rfl (Cg rfl (qe rfl ?_))))
         exact sn [] h
      ·refine BT ?_
       exact sn [] h
     ·refine Ad hs (wq rfl (qe rfl ?_))
      obtain rfl := sj h
      refine Ad (sm [] [(4, iD 0)] [] rfl rfl) (Aq ?_)
      exact ⟨⟨[_], tm, rfl⟩, tv⟩
theorem I5 (N : Nat) (p0 : Am) (r : Bool) (h : Dk N p0 = some r) : Ap uS 156 [.e (.agg (BL p0))] [] (bD r) := by
 unfold Dk at h
 refine cw (n := 31) (rs := [.tmp 2]) Tryz.func156 fun w0 S0 => ?_
 refine wq rfl (qb rfl (qe rfl ?_))
 refine AJ h (fun v1 => mk [(2, bD v1)] []) (fun j1 h => ?_) (fun v1 h => ?_)
 ·refine Aj Aw rfl (qf CU rfl (ql A5 rfl (Dg rfl (qm rfl ?_))))
  refine CJ 6 h rfl (fun h => ?_) fun h => ?_
  ·refine qf CU rfl (ql A5 rfl (Lh rfl (qp rfl (qm rfl ?_))))
   refine CJ 11 h rfl (fun h => ?_) fun h => ?_
   ·refine qf Dt rfl (ql A5 rfl (Dg rfl (qp rfl (qm rfl ?_))))
    refine CJ 16 h rfl (fun h => ?_) fun h => ?_
    ·refine qf Fc rfl (ql A5 rfl (Dg rfl (qp rfl (qm rfl ?_))))
     refine CJ 21 h rfl (fun h => ?_) fun h => ?_
     ·refine qf CU rfl (ql A5 rfl (AR rfl (qm rfl ?_)))
      refine CJ 25 h rfl (fun h => ?_) fun h => ?_
      ·refine qw 3 rfl (qp rfl (qp rfl (qe rfl ?_)))
       exact sn [] h
      ·refine qf Fc rfl (ql A5 rfl (AR rfl (qp rfl (qp rfl (qe rfl ?_)))))
       exact sn [] h
     ·refine qw 4 rfl (qu rfl (qu rfl (qu rfl (qn rfl (qp rfl (qe rfl ?_))))))
      exact sn [] h
    ·refine qw 3 rfl (qp rfl (qw 5 rfl (qu rfl (qu rfl (qu rfl (qn rfl (qp rfl (qe rfl ?_))))))))
     exact sn [] h
   ·refine qw 3 rfl (qp rfl (qw 4 rfl (qp rfl (qw 5 rfl (qu rfl (qu rfl (qu rfl (qn rfl (qp rfl (qe rfl ?_))))))))))
    exact sn [] h
  ·refine qw 3 rfl (qp rfl (qw 4 rfl (qp rfl (qw 4 rfl (qp rfl (qw 5 rfl (qu rfl (qu rfl (qu rfl (qn rfl (qp rfl (qe rfl ?_))))))))))))
   exact sn [] h
 ·obtain rfl := sj h
  refine Ad (sm [] [(2, bD v1)] [] rfl rfl) (Aq ?_)
  exact ⟨⟨[_], tm, rfl⟩, tv⟩
theorem Hk (N : Nat) (p0 : Int) (p1 : Int) (r : Bool) (h : C6 N p0 p1 = some r) : Ap uS 79 [pD (.val (.int .u8 p0)), iD p1] [] (bD r) := by
 unfold C6 at h
 refine cw (n := 10) (rs := [.tmp 4]) Tryz.func79 fun w0 S0 => ?_
 refine wq rfl (qa rfl (Ab (wq rfl (qw 2 rfl ?_))))
 refine Hz h fun c1 h => KM rfl c1 (MS rfl (AR rfl (qe rfl ?_)))
 obtain rfl := sj h
 refine Ad (sm [] [(4, bD (((Ft .u8 ((FM .u8 p0 p1)) 1) == 1)))] [] rfl rfl) (Aq ?_)
 exact ⟨⟨[_], tm, rfl⟩, tv⟩
theorem D1 (N : Nat) (p0 : Aa) (p1 : Ac) (p2 : Am) (r : Ac × Bool) (h : Br N p0 p1 p2 = some r) : Ap uS 76 [.e (.agg (Al p0)), .e (.agg (A0 p1)), .e (.agg (BL p2))] [(1, r.1.fh.map Ar), (1, r.1.ff.map Ar), (1, r.1.fg.map C1)] (.tup [.agg [.own 0, .own 1, .own 2], .one (.pure (.val (.bool r.2)))]) := by
 unfold Br at h
 refine cw (n := 201) (rs := [.cell 6 40, .tmp 7]) Tryz.func76 fun w0 S0 => ?_
 refine wq rfl (qb rfl (qb rfl (qb rfl (qz CO rfl (qa rfl (Ab (wq rfl (Fg AB Cy ML rfl (qf CL rfl (ql Bc rfl ?_))))))))))
 refine Hz h fun c1 h => Ko (f := Ar) AB AB Cy Pi ML (fun _ => rfl) c1 rfl (Fg AB Cy ML rfl (qf BK rfl (ql Bc rfl ?_)))
 refine Hz h fun c2 h => Ko (f := Ar) AB AB Cy Pi ML (fun _ => rfl) c2 rfl (Fg Dq DF LJ rfl (qf Co rfl (ql Gx rfl ?_)))
 refine Hz h fun c3 h => Ko (f := C1) Dq Dq DF Nh LJ (fun _ => rfl) c3 rfl (Bf CO F6 rfl (qz CO rfl (qs AM rfl (AE (by kernel_rfl) (wq rfl (qf Dt rfl (ql A5 rfl (qe rfl ?_))))))))
 refine AJ h (fun v4 => mk [(6, oD (.ptr 6 0)), (8, oD (.ptr 8 0))] [(6, .box [.pure (.nil0), .pure (.nil0), .pure (.nil0)]), (8, .box [.own 2001, .own 2002, .own 2003]), (2001, .vec 1 (v4.1.map Ar)), (2002, .vec 1 (v4.2.1.map Ar)), (2003, .vec 1 (v4.2.2.map C1))]) (fun j4 h => ?_) (fun v4 h => ?_)
 ·refine wq rfl (qf CU rfl (ql A5 rfl (Ab (AP (wq rfl (AR rfl (qe rfl ?_)))))))
  refine Be h (fun h => ?_) fun h => ?_
  ·refine AQ ?_
   refine AJ h (fun v6 => mk [(3, oD (.ptr 3 0)), (5, oD (.ptr 5 0)), (6, oD (.ptr 6 0)), (8, oD (.ptr 8 0)), (9, iD p2.fm), (60, bD v6)] [(3, .box (Al p0)), (5, .box (BL p2)), (6, .box [.pure (.nil0), .pure (.nil0), .pure (.nil0)]), (8, .box [.own 2004, .own 2005, .own 2006]), (2004, .vec 1 (((([] : List Int)) ++ p1.fh).map Ar)), (2005, .vec 1 (((([] : List Int)) ++ p1.ff).map Ar)), (2006, .vec 1 (((([] : List Int)) ++ p1.fg).map C1))]) (fun j6 h => ?_) (fun v6 h => ?_)
   ·refine Aj Aw rfl (qf BK rfl (ql Bc rfl (qm rfl ?_)))
    refine BP h fun v7 a7 b7 h => qi AB Cy a7 (Ah b7) rfl (qk A5 rfl (Dg rfl (qm rfl ?_)))
    refine CJ 51 h rfl (fun h => ?_) fun h => ?_
    ·refine qw 8 rfl (qp rfl (AE (by kernel_rfl) ?_))
     exact sn [(2004, 18), (2005, 22), (2006, 26)] h
    ·refine qf Fc rfl (ql A5 rfl (qf CL rfl (ql Bc rfl (qm rfl ?_))))
     refine BP h fun v9 a9 b9 h => qi AB Cy a9 (Ah b9) rfl (qk A5 rfl (AR rfl (qp rfl (AE (by kernel_rfl) ?_))))
     exact sn [(2004, 18), (2005, 22), (2006, 26)] h
   ·refine Be h (fun h => ?_) fun h => ?_
    ·refine wq rfl (Bf CO F6 rfl (qs AM rfl (qe rfl ?_)))
     obtain rfl := sj h
     refine Ad ((Ax 6 0 2007 1 _ rfl rfl rfl rfl).trans ((Ax 6 1 2008 1 _ rfl rfl rfl rfl).trans ((Ax 6 2 2009 1 _ rfl rfl rfl rfl).trans (sm [(1000, 2007), (1001, 2008), (1002, 2009)] [(6, oD (.ptr 6 0)), (7, bD false)] [(6, .box [.own 1000, .own 1001, .own 1002]), (1000, .vec 1 ((([] : List Int)).map Ar)), (1001, .vec 1 ((([] : List Int)).map Ar)), (1002, .vec 1 ((([] : List Int)).map C1))] rfl rfl)))) (Aq ?_)
     exact ⟨⟨[_, _], ⟨.cellN _ _ _ _ _ _ _ rfl rfl BE AM rfl rfl (Hc rfl), tm⟩, rfl⟩, ⟨rfl, rfl, rfl, tv⟩⟩
    ·refine Ao (wq rfl (qf BK rfl (ql Bc rfl (qm rfl (qf Fc rfl (ql A5 rfl ?_))))))
     refine BP h fun v11 a11 b11 h => qI AB Cy a11 (Ah b11) rfl ?_
     refine Ep rfl rfl rfl rfl (Ah b11) rfl Cy rfl (GQ rfl) (Er Ar ((([] : List Int)) ++ p1.ff) _ p2.fp) ?_
     refine Ab (wq rfl (qe rfl ?_))
     refine A1 (L := Bp N p0 p2) h (fun v12 => mk [(3, oD (.ptr 3 0)), (5, oD (.ptr 5 0)), (6, oD (.ptr 6 0)), (8, oD (.ptr 8 0)), (9, iD p2.fm), (10, iD v12.2)] [(3, .box (Al p0)), (5, .box (BL p2)), (6, .box [.pure (.nil0), .pure (.nil0), .pure (.nil0)]), (8, .box [.own 2010, .own 2011, .own 2012]), (2010, .vec 1 (((([] : List Int)) ++ p1.fh).map Ar)), (2011, .vec 1 ((((([] : List Int)) ++ p1.ff).set ((p2.fm).toNat) p2.fp).map Ar)), (2012, .vec 1 (v12.1.map C1))]) (fun v13 => mk [(6, oD (.ptr 6 0)), (8, oD (.ptr 8 0))] [(6, .box [.pure (.nil0), .pure (.nil0), .pure (.nil0)]), (8, .box [.own 2013, .own 2014, .own 2015]), (2013, .vec 1 (((([] : List Int)) ++ p1.fh).map Ar)), (2014, .vec 1 ((((([] : List Int)) ++ p1.ff).set ((p2.fm).toNat) p2.fp).map Ar)), (2015, .vec 1 (v13.map C1))]) (fun _ _ => rfl) (sm [(2010, 2004), (2011, 2005), (2012, 2006)] _ _ rfl rfl) (fun j12 n12 v12 h => ?_) (fun v13 s h hs => ?_)
     ·unfold Bp at h
      refine wp rfl (qm rfl (qf BJ rfl (ql EW rfl (AF C0 rfl (A2 rfl (Ab ?_))))))
      refine Be h (fun h => ?_) fun h => ?_
      ·refine Ao ?_
       refine AJ h (fun v15 => mk [(3, oD (.ptr 3 0)), (5, oD (.ptr 5 0)), (6, oD (.ptr 6 0)), (8, oD (.ptr 8 0)), (9, iD p2.fm), (10, iD v12.2)] [(3, .box (Al p0)), (5, .box (BL p2)), (6, .box [.pure (.nil0), .pure (.nil0), .pure (.nil0)]), (8, .box [.own 2016, .own 2017, .own 2018]), (2016, .vec 1 (((([] : List Int)) ++ p1.fh).map Ar)), (2017, .vec 1 ((((([] : List Int)) ++ p1.ff).set ((p2.fm).toNat) p2.fp).map Ar)), (2018, .vec 1 (v15.map C1))]) (fun j15 h => ?_) (fun v15 h => ?_)
       ·refine AP ?_
        refine AJ h (fun v16 => mk [(3, oD (.ptr 3 0)), (5, oD (.ptr 5 0)), (6, oD (.ptr 6 0)), (8, oD (.ptr 8 0)), (9, iD p2.fm), (10, iD v12.2), (90, bD v16)] [(3, .box (Al p0)), (5, .box (BL p2)), (6, .box [.pure (.nil0), .pure (.nil0), .pure (.nil0)]), (8, .box [.own 2019, .own 2020, .own 2021]), (2019, .vec 1 (((([] : List Int)) ++ p1.fh).map Ar)), (2020, .vec 1 ((((([] : List Int)) ++ p1.ff).set ((p2.fm).toNat) p2.fp).map Ar)), (2021, .vec 1 (v12.1.map C1))]) (fun j16 h => ?_) (fun v16 h => ?_)
        ·refine Aj Aw rfl (qf BJ rfl (ql EW rfl (qm rfl ?_)))
         refine BP h fun v17 a17 b17 h => qi C0 BY a17 (Ah b17) rfl (qg Ci rfl (qk A5 rfl (qm rfl (AR rfl (qm rfl ?_)))))
         refine CJ 83 h rfl (fun h => ?_) fun h => ?_
         ·refine qf BJ rfl (ql EW rfl (qm rfl ?_))
          refine BP h fun v19 a19 b19 h => qi C0 BY a19 (Ah b19) rfl (qK ER BY rfl ?_)
          refine B1 h fun v20 a20 h => Av [] (B7 N v19 v20 a20) O5 rfl (qp rfl (Ab ?_))
          exact sn [(2019, 2010), (2020, 2011), (2021, 2012)] h
         ·refine qw 6 rfl (qp rfl (Ab ?_))
          exact sn [(2019, 2010), (2020, 2011), (2021, 2012)] h
        ·refine Be h (fun h => ?_) fun h => ?_
         ·refine Aj Aw rfl (qf Co rfl (ql Gx rfl (qm rfl (qf Co rfl (ql Gx rfl (qm rfl ?_))))))
          refine BP h fun v22 a22 b22 h => qI Dq DF a22 (Ah b22) rfl (qj GZ (Ah b22) rfl (qf Fc rfl (ql A5 rfl ?_)))
          refine Hz h fun c23 h => Ib rfl c23 (QM rfl ?_)
          refine BP h fun v24 a24 b24 h => qI Dq DF a24 (Ah b24) rfl ?_
          refine Ep rfl rfl rfl rfl (Ah b24) rfl DF rfl (GQ rfl) (Er C1 v12.1 _ ((KS .u8 v22 ((Dm .u8 1 p2.fp))))) ?_
          refine AE (by kernel_rfl) ?_
          exact sn [(2016, 2019), (2017, 2020), (2018, 2021)] h
         ·refine Ao ?_
          exact sn [(2016, 2019), (2017, 2020), (2018, 2021)] h
       ·refine Aj Aw rfl (qm rfl (Cg rfl (qe rfl ?_)))
        exact sn [(2010, 2016), (2011, 2017), (2012, 2018)] h
      ·refine BT ?_
       exact sn [(2013, 2010), (2014, 2011), (2015, 2012)] h
     ·exact S4 _ h (hs.trans (sm [(2001, 2013), (2002, 2014), (2003, 2015)] _ _ rfl rfl))
  ·refine wq rfl (AR rfl (qe rfl ?_))
   refine Be h (fun h => ?_) fun h => ?_
   ·refine wp rfl (qf BK rfl (ql Bc rfl (qm rfl ?_)))
    refine BP h fun v26 a26 b26 h => qi AB Cy a26 (Ah b26) rfl (qk A5 rfl (A2 rfl (Ab ?_)))
    refine Be h (fun h => ?_) fun h => ?_
    ·refine wq rfl (Bf CO F6 rfl (qs AM rfl (qe rfl ?_)))
     obtain rfl := sj h
     refine Ad ((Ax 6 0 2022 1 _ rfl rfl rfl rfl).trans ((Ax 6 1 2023 1 _ rfl rfl rfl rfl).trans ((Ax 6 2 2024 1 _ rfl rfl rfl rfl).trans (sm [(1000, 2022), (1001, 2023), (1002, 2024)] [(6, oD (.ptr 6 0)), (7, bD false)] [(6, .box [.own 1000, .own 1001, .own 1002]), (1000, .vec 1 ((([] : List Int)).map Ar)), (1001, .vec 1 ((([] : List Int)).map Ar)), (1002, .vec 1 ((([] : List Int)).map C1))] rfl rfl)))) (Aq ?_)
     exact ⟨⟨[_, _], ⟨.cellN _ _ _ _ _ _ _ rfl rfl BE AM rfl rfl (Hc rfl), tm⟩, rfl⟩, ⟨rfl, rfl, rfl, tv⟩⟩
    ·refine Ao (Aj Aw rfl (qf CL rfl (ql Bc rfl (qm rfl (qf BK rfl (ql Bc rfl (qm rfl (qf BK rfl (ql Bc rfl (qm rfl ?_))))))))))
     refine BP h fun v28 a28 b28 h => qi AB Cy a28 (Ah b28) rfl (qk A5 rfl ?_)
     refine BP h fun v29 a29 b29 h => qI AB Cy a29 (Ah b29) rfl ?_
     refine Ep rfl rfl rfl rfl (Ah b29) rfl Cy rfl (GQ rfl) (Er Ar ((([] : List Int)) ++ p1.fh) _ v28) ?_
     refine BP h fun v30 a30 b30 h => qI AB Cy a30 (Ah b30) rfl ?_
     refine Ep rfl rfl rfl rfl (Ah b30) rfl Cy rfl (GQ rfl) (Er Ar ((([] : List Int)) ++ p1.ff) _ ((-1))) ?_
     refine AE (by kernel_rfl) ?_
     exact sn [(2001, 18), (2002, 22), (2003, 26)] h
   ·refine wq rfl (AR rfl (qe rfl ?_))
    refine Be h (fun h => ?_) fun h => ?_
    ·refine wq rfl (qf BJ rfl (ql EW rfl (qm rfl ?_)))
     refine BP h fun v32 a32 b32 h => qi C0 BY a32 (Ah b32) rfl (qK ER BY rfl (qz JR rfl (qs BY rfl (Ab (wp rfl (qL ER BY rfl ?_))))))
     refine B1 h fun v33 a33 h => Av [] (B7 N v32 v33 a33) O5 rfl (Ch rfl (Ab ?_))
     refine Be h (fun h => ?_) fun h => ?_
     ·refine wq rfl (Bf CO F6 rfl (qs AM rfl (qe rfl ?_)))
      obtain rfl := sj h
      refine Ad ((Ax 6 0 2025 1 _ rfl rfl rfl rfl).trans ((Ax 6 1 2026 1 _ rfl rfl rfl rfl).trans ((Ax 6 2 2027 1 _ rfl rfl rfl rfl).trans (sm [(1000, 2025), (1001, 2026), (1002, 2027)] [(6, oD (.ptr 6 0)), (7, bD false)] [(6, .box [.own 1000, .own 1001, .own 1002]), (1000, .vec 1 ((([] : List Int)).map Ar)), (1001, .vec 1 ((([] : List Int)).map Ar)), (1002, .vec 1 ((([] : List Int)).map C1))] rfl rfl)))) (Aq ?_)
      exact ⟨⟨[_, _], ⟨.cellN _ _ _ _ _ _ _ rfl rfl BE AM rfl rfl (Hc rfl), tm⟩, rfl⟩, ⟨rfl, rfl, rfl, tv⟩⟩
     ·refine Ao (wq rfl (qL BE AM rfl (qf Ci rfl (ql A5 rfl ?_))))
      refine B1 h fun v35 a35 h => Av [] (EB N p1 v32.fj v35 a35) Uh rfl (qa rfl (Ab (wp rfl (qf Co rfl (ql Gx rfl (qm rfl ?_))))))
      refine BP h fun v36 a36 b36 h => qi Dq DF a36 (Ah b36) rfl (qk GZ rfl (qm rfl (AR rfl (Ab ?_))))
      refine Be h (fun h => ?_) fun h => ?_
      ·refine wq rfl (Bf CO F6 rfl (qs AM rfl (qe rfl ?_)))
       obtain rfl := sj h
       refine Ad ((Ax 6 0 2028 1 _ rfl rfl rfl rfl).trans ((Ax 6 1 2029 1 _ rfl rfl rfl rfl).trans ((Ax 6 2 2030 1 _ rfl rfl rfl rfl).trans (sm [(1000, 2028), (1001, 2029), (1002, 2030)] [(6, oD (.ptr 6 0)), (7, bD false)] [(6, .box [.own 1000, .own 1001, .own 1002]), (1000, .vec 1 ((([] : List Int)).map Ar)), (1001, .vec 1 ((([] : List Int)).map Ar)), (1002, .vec 1 ((([] : List Int)).map C1))] rfl rfl)))) (Aq ?_)
       exact ⟨⟨[_, _], ⟨.cellN _ _ _ _ _ _ _ rfl rfl BE AM rfl rfl (Hc rfl), tm⟩, rfl⟩, ⟨rfl, rfl, rfl, tv⟩⟩
      ·refine Ao (wp rfl (qe rfl ?_))
       refine A1 (L := Bb N p0 p1 p2 v32 v35) h (fun v38 => mk [(3, oD (.ptr 3 0)), (4, oD (.ptr 4 0)), (6, oD (.ptr 6 0)), (8, oD (.ptr 8 0)), (9, iD p2.fm), (11, oD (.ptr 11 0)), (12, pD (.val (.int .u8 v35))), (13, iD v38)] [(3, .box (Al p0)), (4, .box (A0 p1)), (6, .box [.pure (.nil0), .pure (.nil0), .pure (.nil0)]), (8, .box [.own 2031, .own 2032, .own 2033]), (11, .box (CA v32)), (2031, .vec 1 (((([] : List Int)) ++ p1.fh).map Ar)), (2032, .vec 1 (((([] : List Int)) ++ p1.ff).map Ar)), (2033, .vec 1 (((([] : List Int)) ++ p1.fg).map C1))]) (fun v39 => mk [(6, oD (.ptr 6 0)), (8, oD (.ptr 8 0)), (9, iD p2.fm), (12, pD (.val (.int .u8 v35)))] [(6, .box [.pure (.nil0), .pure (.nil0), .pure (.nil0)]), (8, .box [.own 2034, .own 2035, .own 2036]), (2034, .vec 1 (((([] : List Int)) ++ p1.fh).map Ar)), (2035, .vec 1 (((([] : List Int)) ++ p1.ff).map Ar)), (2036, .vec 1 (((([] : List Int)) ++ p1.fg).map C1))]) (fun _ _ => rfl) (sm [(2031, 18), (2032, 22), (2033, 26)] _ _ rfl rfl) (fun j38 n38 v38 h => ?_) (fun v39 s h hs => ?_)
       ·unfold Bb at h
        refine wp rfl (qm rfl (qf BI rfl (ql Bc rfl (qf Ci rfl (ql A5 rfl ?_)))))
        refine BP h fun v40 a40 b40 h => qi AB Cy a40 (Ah b40) rfl (qk A5 rfl (A2 rfl (Ab ?_)))
        refine Be h (fun h => ?_) fun h => ?_
        ·refine Ao (AQ (AP ?_))
         refine AJ h (fun v42 => mk [(3, oD (.ptr 3 0)), (4, oD (.ptr 4 0)), (6, oD (.ptr 6 0)), (8, oD (.ptr 8 0)), (9, iD p2.fm), (11, oD (.ptr 11 0)), (12, pD (.val (.int .u8 v35))), (13, iD v38), (14, bD v42)] [(3, .box (Al p0)), (4, .box (A0 p1)), (6, .box [.pure (.nil0), .pure (.nil0), .pure (.nil0)]), (8, .box [.own 2037, .own 2038, .own 2039]), (11, .box (CA v32)), (2037, .vec 1 (((([] : List Int)) ++ p1.fh).map Ar)), (2038, .vec 1 (((([] : List Int)) ++ p1.ff).map Ar)), (2039, .vec 1 (((([] : List Int)) ++ p1.fg).map C1))]) (fun j42 h => ?_) (fun v42 h => ?_)
         ·refine Aj Aw rfl (qf Co rfl (ql Gx rfl (qm rfl ?_)))
          refine BP h fun v43 a43 b43 h => qi Dq DF a43 (Ah b43) rfl (qk GZ rfl (qm rfl ?_))
          refine B1 h fun v44 a44 h => Av [] (Hk N v43 v38 v44 a44) Vq rfl (qm rfl ?_)
          refine CJ 166 h rfl (fun h => ?_) fun h => ?_
          ·refine qw 2 rfl ?_
           refine B1 h fun v46 a46 h => Av [] (Hk N v35 v38 v46 a46) Vq rfl (Ch rfl (qp rfl (qe rfl ?_)))
           exact sn [(2037, 2031), (2038, 2032), (2039, 2033)] h
          ·refine qw 4 rfl (qp rfl (qe rfl ?_))
           exact sn [(2037, 2031), (2038, 2032), (2039, 2033)] h
         ·refine AJ h (fun v47 => mk [(3, oD (.ptr 3 0)), (4, oD (.ptr 4 0)), (6, oD (.ptr 6 0)), (8, oD (.ptr 8 0)), (9, iD p2.fm), (11, oD (.ptr 11 0)), (12, pD (.val (.int .u8 v35))), (13, iD v38), (193, bD v47)] [(3, .box (Al p0)), (4, .box (A0 p1)), (6, .box [.pure (.nil0), .pure (.nil0), .pure (.nil0)]), (8, .box [.own 2040, .own 2041, .own 2042]), (11, .box (CA v32)), (2040, .vec 1 (((([] : List Int)) ++ p1.fh).map Ar)), (2041, .vec 1 (((([] : List Int)) ++ p1.ff).map Ar)), (2042, .vec 1 (((([] : List Int)) ++ p1.fg).map C1))]) (fun j47 h => ?_) (fun v47 h => ?_)
          ·refine Aj Aw rfl (qw 2 rfl ?_)
           refine CJ 173 h rfl (fun h => ?_) fun h => ?_
           ·refine qf DJ rfl (ql A5 rfl (AR rfl (qp rfl (qm rfl ?_))))
            refine CJ 178 h rfl (fun h => ?_) fun h => ?_
            ·refine qf DW rfl (ql E7 rfl (qm rfl ?_))
             refine BP h fun v50 a50 b50 h => qi DO JN a50 (Ah b50) rfl (qk J2 rfl (qf CL rfl (ql Bc rfl (qf Ci rfl (ql A5 rfl ?_)))))
             refine BP h fun v51 a51 b51 h => qi AB Cy a51 (Ah b51) rfl (qk A5 rfl ?_)
             refine BP h fun v52 a52 b52 h => qi H2 Rt a52 (Ah b52) rfl (qk Qq rfl (Ch rfl (qp rfl (AE (by kernel_rfl) ?_))))
             exact sn [(2040, 2037), (2041, 2038), (2042, 2039)] h
            ·refine qw 14 rfl (qp rfl (AE (by kernel_rfl) ?_))
             exact sn [(2040, 2037), (2041, 2038), (2042, 2039)] h
           ·refine qw 3 rfl (qp rfl (qw 15 rfl (qp rfl (AE (by kernel_rfl) ?_))))
            exact sn [(2040, 2037), (2041, 2038), (2042, 2039)] h
          ·refine Be h (fun h => ?_) fun h => ?_
           ·refine wq rfl (Bf CO F6 rfl (qs AM rfl (qe rfl ?_)))
            obtain rfl := sj h
            refine Ad ((Ax 6 0 2043 1 _ rfl rfl rfl rfl).trans ((Ax 6 1 2044 1 _ rfl rfl rfl rfl).trans ((Ax 6 2 2045 1 _ rfl rfl rfl rfl).trans (sm [(1000, 2043), (1001, 2044), (1002, 2045)] [(6, oD (.ptr 6 0)), (7, bD false)] [(6, .box [.own 1000, .own 1001, .own 1002]), (1000, .vec 1 ((([] : List Int)).map Ar)), (1001, .vec 1 ((([] : List Int)).map Ar)), (1002, .vec 1 ((([] : List Int)).map C1))] rfl rfl)))) (Aq ?_)
            exact ⟨⟨[_, _], ⟨.cellN _ _ _ _ _ _ _ rfl rfl BE AM rfl rfl (Hc rfl), tm⟩, rfl⟩, ⟨rfl, rfl, rfl, tv⟩⟩
           ·refine Ao (Aj Aw rfl (qm rfl (Cg rfl (qe rfl ?_))))
            exact sn [(2031, 2040), (2032, 2041), (2033, 2042)] h
        ·refine BT ?_
         exact sn [(2034, 2031), (2035, 2032), (2036, 2033)] h
       ·refine Ad hs (Aj Aw rfl (qf Co rfl (ql Gx rfl (qw 2 rfl ?_))))
        refine BP h fun v54 a54 b54 h => qI Dq DF a54 (Ah b54) rfl ?_
        refine Ep rfl rfl rfl rfl (Ah b54) rfl DF rfl (GQ rfl) (Er C1 ((([] : List Int)) ++ p1.fg) _ v35) ?_
        refine Ab ?_
        exact sn [(2001, 2034), (2002, 2035), (2003, 2036)] h
    ·refine wp rfl (qf BK rfl (ql Bc rfl (qm rfl ?_)))
     refine BP h fun v55 a55 b55 h => qi AB Cy a55 (Ah b55) rfl (qk A5 rfl (A2 rfl (Ab ?_)))
     refine Be h (fun h => ?_) fun h => ?_
     ·refine wq rfl (Bf CO F6 rfl (qs AM rfl (qe rfl ?_)))
      obtain rfl := sj h
      refine Ad ((Ax 6 0 2046 1 _ rfl rfl rfl rfl).trans ((Ax 6 1 2047 1 _ rfl rfl rfl rfl).trans ((Ax 6 2 2048 1 _ rfl rfl rfl rfl).trans (sm [(1000, 2046), (1001, 2047), (1002, 2048)] [(6, oD (.ptr 6 0)), (7, bD false)] [(6, .box [.own 1000, .own 1001, .own 1002]), (1000, .vec 1 ((([] : List Int)).map Ar)), (1001, .vec 1 ((([] : List Int)).map Ar)), (1002, .vec 1 ((([] : List Int)).map C1))] rfl rfl)))) (Aq ?_)
      exact ⟨⟨[_, _], ⟨.cellN _ _ _ _ _ _ _ rfl rfl BE AM rfl rfl (Hc rfl), tm⟩, rfl⟩, ⟨rfl, rfl, rfl, tv⟩⟩
     ·refine Ao (Aj Aw rfl (qf BK rfl (ql Bc rfl (qm rfl ?_))))
      refine BP h fun v57 a57 b57 h => qI AB Cy a57 (Ah b57) rfl ?_
      refine Ep rfl rfl rfl rfl (Ah b57) rfl Cy rfl (GQ rfl) (Er Ar ((([] : List Int)) ++ p1.ff) _ ((-1))) ?_
      refine Ab ?_
      exact sn [(2001, 18), (2002, 22), (2003, 26)] h
 ·refine wq rfl (qL BE AM rfl (qs AM rfl (qe rfl ?_)))
  obtain rfl := sj h
  refine Ad (sm [(1000, 2001), (1001, 2002), (1002, 2003)] [(6, oD (.ptr 6 0)), (7, bD true)] [(6, .box [.own 1000, .own 1001, .own 1002]), (1000, .vec 1 (v4.1.map Ar)), (1001, .vec 1 (v4.2.1.map Ar)), (1002, .vec 1 (v4.2.2.map C1))] rfl rfl) (Aq ?_)
  exact ⟨⟨[_, _], ⟨.cellN _ _ _ _ _ _ _ rfl rfl BE AM rfl rfl (Hc rfl), tm⟩, rfl⟩, ⟨rfl, rfl, rfl, tv⟩⟩
theorem I4 (N : Nat) (p0 : Aa) (p1 : Ac) (p2 : Am) (r : Ac × Int) (h : Di N p0 p1 p2 = some r) : Ap uS 118 [.e (.agg (Al p0)), .e (.agg (A0 p1)), .e (.agg (BL p2))] [(1, r.1.fh.map Ar), (1, r.1.ff.map Ar), (1, r.1.fg.map C1)] (.tup [.agg [.own 0, .own 1, .own 2], .one (iC r.2)]) := by
 unfold Di at h
 refine cw (n := 73) (rs := [.cell 6 40, .tmp 7]) Tryz.func118 fun w0 S0 => ?_
 refine wq rfl (qb rfl (qb rfl (qb rfl (qz CO rfl (qa rfl (Ab (wp rfl (qL DI DD rfl (qL BE AM rfl ?_)))))))))
 refine B1 h fun v1 a1 h => Av [] (Gz N p0 p1 v1 a1) VO rfl (qa rfl (Ab (wq rfl (qm rfl (BD rfl (Ab ?_))))))
 refine Be h (fun h => ?_) fun h => ?_
 ·refine wq rfl (Bf CO F6 rfl (qm rfl (qs AM rfl (qe rfl ?_))))
  obtain rfl := sj h
  refine Ad ((Ax 6 0 2001 1 _ rfl rfl rfl rfl).trans ((Ax 6 1 2002 1 _ rfl rfl rfl rfl).trans ((Ax 6 2 2003 1 _ rfl rfl rfl rfl).trans (sm [(1000, 2001), (1001, 2002), (1002, 2003)] [(6, oD (.ptr 6 0)), (7, iD v1)] [(6, .box [.own 1000, .own 1001, .own 1002]), (1000, .vec 1 ((([] : List Int)).map Ar)), (1001, .vec 1 ((([] : List Int)).map Ar)), (1002, .vec 1 ((([] : List Int)).map C1))] rfl rfl)))) (Aq ?_)
  exact ⟨⟨[_, _], ⟨.cellN _ _ _ _ _ _ _ rfl rfl BE AM rfl rfl (Hc rfl), tm⟩, rfl⟩, ⟨rfl, rfl, rfl, tv⟩⟩
 ·refine Ao (wp rfl (qL If FD rfl ?_))
  refine B1 h fun v3 a3 h => Av [] (I5 N p2 v3 a3) Ux rfl (Ch rfl (Ab ?_))
  refine Be h (fun h => ?_) fun h => ?_
  ·refine wq rfl (Bf CO F6 rfl (qs AM rfl (qe rfl ?_)))
   obtain rfl := sj h
   refine Ad ((Ax 6 0 2004 1 _ rfl rfl rfl rfl).trans ((Ax 6 1 2005 1 _ rfl rfl rfl rfl).trans ((Ax 6 2 2006 1 _ rfl rfl rfl rfl).trans (sm [(1000, 2004), (1001, 2005), (1002, 2006)] [(6, oD (.ptr 6 0)), (7, iD 1)] [(6, .box [.own 1000, .own 1001, .own 1002]), (1000, .vec 1 ((([] : List Int)).map Ar)), (1001, .vec 1 ((([] : List Int)).map Ar)), (1002, .vec 1 ((([] : List Int)).map C1))] rfl rfl)))) (Aq ?_)
   exact ⟨⟨[_, _], ⟨.cellN _ _ _ _ _ _ _ rfl rfl BE AM rfl rfl (Hc rfl), tm⟩, rfl⟩, ⟨rfl, rfl, rfl, tv⟩⟩
  ·refine Ao (AQ ?_)
   refine AJ h (fun v5 => mk [(3, oD (.ptr 3 0)), (4, oD (.ptr 4 0)), (5, oD (.ptr 5 0)), (6, oD (.ptr 6 0)), (45, bD v5)] [(3, .box (Al p0)), (4, .box (A0 p1)), (5, .box (BL p2)), (6, .box [.pure (.nil0), .pure (.nil0), .pure (.nil0)])]) (fun j5 h => ?_) (fun v5 h => ?_)
   ·refine Aj Aw rfl (qf CU rfl (ql A5 rfl (AR rfl (qm rfl ?_))))
    refine CJ 25 h rfl (fun h => ?_) fun h => ?_
    ·refine qf Dt rfl (ql A5 rfl (qf BJ rfl (ql EW rfl (AF C0 rfl (Dg rfl (qp rfl (qm rfl ?_)))))))
     refine CJ 33 h rfl (fun h => ?_) fun h => ?_
     ·refine qw 4 rfl (qu rfl (qu rfl (qu rfl (qu rfl (qu rfl (qu rfl (qn rfl (qp rfl (Ab ?_)))))))))
      exact sn [] h
     ·refine qf CU rfl (ql A5 rfl (BD rfl (qm rfl ?_)))
      refine CJ 37 h rfl (fun h => ?_) fun h => ?_
      ·refine qf Dt rfl (ql A5 rfl (qf BI rfl (ql Bc rfl (AF AB rfl (Dg rfl (qp rfl (qp rfl (Ab ?_))))))))
       exact sn [] h
      ·refine qw 6 rfl (qp rfl (qp rfl (Ab ?_)))
       exact sn [] h
    ·refine qw 6 rfl (qp rfl (qm rfl (qf CU rfl (ql A5 rfl (BD rfl (qm rfl ?_))))))
     refine CJ 37 h rfl (fun h => ?_) fun h => ?_
     ·refine qf Dt rfl (ql A5 rfl (qf BI rfl (ql Bc rfl (AF AB rfl (Dg rfl (qp rfl (qp rfl (Ab ?_))))))))
      exact sn [] h
     ·refine qw 6 rfl (qp rfl (qp rfl (Ab ?_)))
      exact sn [] h
   ·refine Be h (fun h => ?_) fun h => ?_
    ·refine wq rfl (Bf CO F6 rfl (qs AM rfl (qe rfl ?_)))
     obtain rfl := sj h
     refine Ad ((Ax 6 0 2007 1 _ rfl rfl rfl rfl).trans ((Ax 6 1 2008 1 _ rfl rfl rfl rfl).trans ((Ax 6 2 2009 1 _ rfl rfl rfl rfl).trans (sm [(1000, 2007), (1001, 2008), (1002, 2009)] [(6, oD (.ptr 6 0)), (7, iD 4)] [(6, .box [.own 1000, .own 1001, .own 1002]), (1000, .vec 1 ((([] : List Int)).map Ar)), (1001, .vec 1 ((([] : List Int)).map Ar)), (1002, .vec 1 ((([] : List Int)).map C1))] rfl rfl)))) (Aq ?_)
     exact ⟨⟨[_, _], ⟨.cellN _ _ _ _ _ _ _ rfl rfl BE AM rfl rfl (Hc rfl), tm⟩, rfl⟩, ⟨rfl, rfl, rfl, tv⟩⟩
    ·refine Ao (AQ ?_)
     refine AJ h (fun v11 => mk [(3, oD (.ptr 3 0)), (4, oD (.ptr 4 0)), (5, oD (.ptr 5 0)), (6, oD (.ptr 6 0)), (60, bD v11)] [(3, .box (Al p0)), (4, .box (A0 p1)), (5, .box (BL p2)), (6, .box [.pure (.nil0), .pure (.nil0), .pure (.nil0)])]) (fun j11 h => ?_) (fun v11 h => ?_)
     ·refine Aj Aw rfl (qf CU rfl (ql A5 rfl (AR rfl (qm rfl ?_))))
      refine CJ 50 h rfl (fun h => ?_) fun h => ?_
      ·refine qf Fc rfl (ql A5 rfl (qf BI rfl (ql Bc rfl (qf Dt rfl (ql A5 rfl ?_)))))
       refine BP h fun v13 a13 b13 h => qi AB Cy a13 (Ah b13) rfl (qk A5 rfl (Dg rfl (qp rfl (AE (by kernel_rfl) ?_))))
       exact sn [] h
      ·refine qw 9 rfl (qp rfl (AE (by kernel_rfl) ?_))
       exact sn [] h
     ·refine Be h (fun h => ?_) fun h => ?_
      ·refine wq rfl (Bf CO F6 rfl (qs AM rfl (qe rfl ?_)))
       obtain rfl := sj h
       refine Ad ((Ax 6 0 2010 1 _ rfl rfl rfl rfl).trans ((Ax 6 1 2011 1 _ rfl rfl rfl rfl).trans ((Ax 6 2 2012 1 _ rfl rfl rfl rfl).trans (sm [(1000, 2010), (1001, 2011), (1002, 2012)] [(6, oD (.ptr 6 0)), (7, iD 4)] [(6, .box [.own 1000, .own 1001, .own 1002]), (1000, .vec 1 ((([] : List Int)).map Ar)), (1001, .vec 1 ((([] : List Int)).map Ar)), (1002, .vec 1 ((([] : List Int)).map C1))] rfl rfl)))) (Aq ?_)
       exact ⟨⟨[_, _], ⟨.cellN _ _ _ _ _ _ _ rfl rfl BE AM rfl rfl (Hc rfl), tm⟩, rfl⟩, ⟨rfl, rfl, rfl, tv⟩⟩
      ·refine Ao (wq rfl (qL DI DD rfl (qL BE AM rfl (qL If FD rfl ?_))))
       refine B1 h fun v15 a15 h => Av [2013, 2014, 2015] (D1 N p0 p1 p2 v15 a15) R8 rfl (qm rfl (qx rfl (qx rfl (qz CO rfl (qs AM rfl (qa rfl (Ab (wp rfl (qm rfl (Ch rfl (Ab ?_)))))))))))
       refine Be h (fun h => ?_) fun h => ?_
       ·refine wq rfl (Bf CO F6 rfl (qs AM rfl (qe rfl ?_)))
        obtain rfl := sj h
        refine Ad ((Ax 6 0 2016 1 _ rfl rfl rfl rfl).trans ((Ax 6 1 2017 1 _ rfl rfl rfl rfl).trans ((Ax 6 2 2018 1 _ rfl rfl rfl rfl).trans (sm [(1000, 2016), (1001, 2017), (1002, 2018)] [(6, oD (.ptr 6 0)), (7, iD 11)] [(6, .box [.own 1000, .own 1001, .own 1002]), (1000, .vec 1 ((([] : List Int)).map Ar)), (1001, .vec 1 ((([] : List Int)).map Ar)), (1002, .vec 1 ((([] : List Int)).map C1))] rfl rfl)))) (Aq ?_)
        exact ⟨⟨[_, _], ⟨.cellN _ _ _ _ _ _ _ rfl rfl BE AM rfl rfl (Hc rfl), tm⟩, rfl⟩, ⟨rfl, rfl, rfl, tv⟩⟩
       ·refine Ao (wq rfl (qL BE AM rfl (qs AM rfl (qe rfl ?_))))
        obtain rfl := sj h
        refine Ad (sm [(1000, 2013), (1001, 2014), (1002, 2015)] [(6, oD (.ptr 6 0)), (7, iD 0)] [(6, .box [.own 1000, .own 1001, .own 1002]), (1000, .vec 1 (v15.1.fh.map Ar)), (1001, .vec 1 (v15.1.ff.map Ar)), (1002, .vec 1 (v15.1.fg.map C1))] rfl rfl) (Aq ?_)
        exact ⟨⟨[_, _], ⟨.cellN _ _ _ _ _ _ _ rfl rfl BE AM rfl rfl (Hc rfl), tm⟩, rfl⟩, ⟨rfl, rfl, rfl, tv⟩⟩
theorem JQ (N : Nat) (p0 : Aa) (p1 : Ac) (p2 : List Am) (r : (List Ac) × Int × Int) (h : C3 N p0 p1 p2 = some r) : Ap uS 83 [.e (.agg (Al p0)), .e (.agg (A0 p1)), pD (.sl (p2.map AO))] [(3, r.1.map EE)] (.tup [.one (.own 0), .one (iC r.2.1), .one (iC r.2.2)]) := by
 unfold C3 at h
 refine cw (n := 52) (rs := [.tmp 6, .tmp 7, .tmp 8]) Tryz.func83 fun w0 S0 => ?_
 refine wq rfl (qb rfl (qb rfl (qa rfl (qa rfl (qa rfl (Ab (wp rfl (qL DI DD rfl (qL BE AM rfl ?_)))))))))
 refine B1 h fun v1 a1 h => Av [] (Gz N p0 p1 v1 a1) VO rfl (qa rfl (Ab (wq rfl (qm rfl (BD rfl (Ab ?_))))))
 refine Be h (fun h => ?_) fun h => ?_
 ·refine wq rfl (qm rfl (qa rfl (qa rfl (qe rfl ?_))))
  obtain rfl := sj h
  refine Ad ((EP 6 2001 3 rfl rfl rfl).trans (sm [(1000, 2001)] [(6, oD (.own 1000)), (7, iD 0), (8, iD v1)] [(1000, .vec 3 ((([] : List Ac)).map EE))] rfl rfl)) (Aq ?_)
  exact ⟨⟨[_, _, _], ⟨.tmp _ _ rfl, ⟨.tmp _ _ rfl, tm⟩⟩, rfl⟩, ⟨rfl, tv⟩⟩
 ·refine Ao (wq rfl (qL BE AM rfl (Fg Hv AM CO rfl (qa rfl (Ab (wp rfl (qe rfl ?_)))))))
  refine A1 (L := Cs N p0 p2) h (fun v3 => mk [(2, pD (.sl (p2.map AO))), (3, oD (.ptr 3 0)), (10, oD (.own 2002)), (11, iD v3.2)] [(3, .box (Al p0)), (2002, .vec 3 (v3.1.map EE))]) (fun v4 => mk [(2, pD (.sl (p2.map AO))), (10, oD (.own 2003))] [(2003, .vec 3 (v4.map EE))]) (fun _ _ => rfl) (sm [(2002, 21)] _ _ rfl rfl) (fun j3 n3 v3 h => ?_) (fun v4 s h hs => ?_)
  ·unfold Cs at h
   refine wp rfl (qw 2 rfl (AF Gn rfl (A2 rfl (Ab ?_))))
   refine Be h (fun h => ?_) fun h => ?_
   ·refine Ao (AQ (AP (wq rfl (qL DI DD rfl (qw 2 rfl ?_)))))
    refine BP h fun v6 a6 b6 h => qI Hv AM a6 (Ah b6) rfl (qJ BE AM (Ah b6) rfl (qw 2 rfl ?_))
    refine BP h fun v7 a7 b7 h => qi Gn FD a7 (Ah b7) rfl (qK If FD rfl ?_)
    refine B1 h fun v8 a8 h => Av [2004, 2005, 2006] (I4 N p0 v6 v7 v8 a8) VD rfl (qm rfl (qx rfl (qx rfl (qz CO rfl (qs AM rfl (qa rfl (AE (by kernel_rfl) (wp rfl (qm rfl (BD rfl (Ab ?_)))))))))))
    refine Be h (fun h => ?_) fun h => ?_
    ·refine wq rfl (qw 2 rfl (qa rfl (qa rfl (qe rfl ?_))))
     obtain rfl := sj h
     refine Ad ((EP 6 2007 3 rfl rfl rfl).trans (sm [(1000, 2007)] [(6, oD (.own 1000)), (7, iD v3.2), (8, iD v8.2)] [(1000, .vec 3 ((([] : List Ac)).map EE))] rfl rfl)) (Aq ?_)
     exact ⟨⟨[_, _, _], ⟨.tmp _ _ rfl, ⟨.tmp _ _ rfl, tm⟩⟩, rfl⟩, ⟨rfl, tv⟩⟩
    ·refine Ao (Aj Aw rfl (qm rfl (qL BE AM rfl (Fz (Bd 2004 _ _ rfl rfl) (Fz (Bd 2005 _ _ rfl rfl) (Fz (Bd 2006 _ _ rfl rfl) (Fg Hv AM CO rfl ?_)))))))
     refine Hz h fun c10 h => Ke (f := EE) Hv Hv AM Tn CO c10 rfl (qa rfl (Ab (Aj Aw rfl (qm rfl (Cg rfl (qe rfl ?_))))))
     exact sn [(2002, 48)] h
   ·refine BT ?_
    exact sn [(2003, 2002)] h
  ·refine Ad hs (wq rfl (qw 2 rfl (AF Gn rfl (qa rfl (qa rfl (qe rfl ?_))))))
   obtain rfl := sj h
   refine Ad (sm [(1000, 2003)] [(6, oD (.own 1000)), (7, iD ((p2.length : Int))), (8, iD 0)] [(1000, .vec 3 (v4.map EE))] rfl rfl) (Aq ?_)
   exact ⟨⟨[_, _, _], ⟨.tmp _ _ rfl, ⟨.tmp _ _ rfl, tm⟩⟩, rfl⟩, ⟨rfl, tv⟩⟩
theorem I1 (N : Nat) (p0 : Aa) (p1 : List Am) (r : Int) (h : Dj N p0 p1 = some r) : Ap uS 40 [.e (.agg (Al p0)), pD (.sl (p1.map AO))] [] (iD r) := by
 unfold Dj at h
 refine cw (n := 37) (rs := [.tmp 4]) Tryz.func40 fun w0 S0 => ?_
 refine wq rfl (qb rfl (qa rfl (Ab (wq rfl (qL DI DD rfl ?_)))))
 refine B1 h fun v1 a1 h => Av [2001, 2002, 2003] (Gy N p0 v1 a1) VV rfl (qm rfl (qx rfl (qx rfl (qz CO rfl (qs AM rfl (qa rfl (Ab (wp rfl (qm rfl (BD rfl (Ab ?_)))))))))))
 refine Be h (fun h => ?_) fun h => ?_
 ·refine wq rfl (qm rfl (qe rfl ?_))
  obtain rfl := sj h
  refine Ad (sm [] [(4, iD v1.2)] [] rfl rfl) (Aq ?_)
  exact ⟨⟨[_], tm, rfl⟩, tv⟩
 ·refine Ao (wp rfl (qe rfl ?_))
  refine A1 (L := B5 N p1) h (fun v3 => mk [(1, pD (.sl (p1.map AO))), (2, oD (.ptr 2 0)), (5, oD (.ptr 5 0)), (7, iD v3)] [(2, .box (Al p0)), (5, .box [.own 2004, .own 2005, .own 2006]), (2004, .vec 1 (v1.1.fh.map Ar)), (2005, .vec 1 (v1.1.ff.map Ar)), (2006, .vec 1 (v1.1.fg.map C1))]) (fun v4 => mk [(1, pD (.sl (p1.map AO))), (2, oD (.ptr 2 0)), (5, oD (.ptr 5 0))] [(2, .box (Al p0)), (5, .box [.own 2007, .own 2008, .own 2009]), (2007, .vec 1 (v1.1.fh.map Ar)), (2008, .vec 1 (v1.1.ff.map Ar)), (2009, .vec 1 (v1.1.fg.map C1))]) (fun _ _ => rfl) (sm [(2004, 2001), (2005, 2002), (2006, 2003)] _ _ rfl rfl) (fun j3 n3 v3 h => ?_) (fun v4 s h hs => ?_)
  ·unfold B5 at h
   refine wp rfl (qw 2 rfl (AF Gn rfl (A2 rfl (Ab ?_))))
   refine Be h (fun h => ?_) fun h => ?_
   ·refine Ao (AQ (AP (wq rfl (qw 2 rfl ?_))))
    refine BP h fun v6 a6 b6 h => qi Gn FD a6 (Ah b6) rfl (qg CU rfl (qk A5 rfl (AR rfl (Ab ?_))))
    refine Be h (fun h => ?_) fun h => ?_
    ·refine wq rfl (qe rfl ?_)
     obtain rfl := sj h
     refine Ad (sm [] [(4, iD 1)] [] rfl rfl) (Aq ?_)
     exact ⟨⟨[_], tm, rfl⟩, tv⟩
    ·refine Ao (Aj Aw rfl (qm rfl (Cg rfl (qe rfl ?_))))
     exact sn [] h
   ·refine BT ?_
    exact sn [(2007, 2004), (2008, 2005), (2009, 2006)] h
  ·refine Ad hs (wq rfl (qL DI DD rfl (qL BE AM rfl (qm rfl (Fz (Bd 2007 _ _ rfl rfl) (Fz (Bd 2008 _ _ rfl rfl) (Fz (Bd 2009 _ _ rfl rfl) ?_)))))))
   refine B1 h fun v8 a8 h => Av [2010] (JQ N p0 v1.1 p1 v8 a8) Wx rfl (qm rfl (qx rfl (qx rfl (qx rfl (qa rfl (Ab (wq rfl (qm rfl (qe rfl ?_)))))))))
   obtain rfl := sj h
   refine Ad (sm [] [(4, iD v8.2.2)] [] rfl rfl) (Aq ?_)
   exact ⟨⟨[_], tm, rfl⟩, tv⟩
theorem IE (N : Nat) (p0 : Ae) (r : (List Int)) (h : Cr N p0 = some r) : Ap uS 106 [.e (.agg (A6 p0))] [(1, r.map Ar)] (oD (.own 0)) := by
 unfold Cr at h
 refine cw (n := 35) (rs := [.tmp 2]) Tryz.func106 fun w0 S0 => ?_
 refine wq rfl (qb rfl (qa rfl (Ab (wp rfl (qf CQ rfl (ql A5 rfl (Ab (AP (wq rfl (AR rfl (qe rfl ?_)))))))))))
 refine Be h (fun h => ?_) fun h => ?_
 ·refine wq rfl (qf Hj rfl (ql A5 rfl (qf Hm rfl (ql A5 rfl (qf H4 rfl (ql A5 rfl (Fg Cb Ig Th rfl (qe rfl ?_))))))))
  obtain rfl := sj h
  refine Ad (sm [(1000, 13)] [(2, oD (.own 1000))] [(1000, .vec 1 ((([p0.fF, p0.fD, p0.fG] : List Int)).map Ar))] rfl rfl) (Aq ?_)
  exact ⟨⟨[_], tm, rfl⟩, ⟨rfl, tv⟩⟩
 ·refine wq rfl (AR rfl (qe rfl ?_))
  refine Be h (fun h => ?_) fun h => ?_
  ·refine wq rfl (qf HW rfl (ql A5 rfl (qf JW rfl (ql A5 rfl (qf IM rfl (ql A5 rfl (Fg Cb Ig Th rfl (qe rfl ?_))))))))
   obtain rfl := sj h
   refine Ad (sm [(1000, 22)] [(2, oD (.own 1000))] [(1000, .vec 1 ((([p0.fE, p0.fp, p0.fI] : List Int)).map Ar))] rfl rfl) (Aq ?_)
   exact ⟨⟨[_], tm, rfl⟩, ⟨rfl, tv⟩⟩
  ·refine wq rfl (AR rfl (qe rfl ?_))
   refine Be h (fun h => ?_) fun h => ?_
   ·refine wq rfl (qf JS rfl (ql A5 rfl (qf Fb rfl (ql HA rfl (Fg Cb Ig Th rfl (qe rfl ?_))))))
    obtain rfl := sj h
    refine Ad (sm [(1000, 29)] [(2, oD (.own 1000))] [(1000, .vec 1 ((([p0.fK, p0.fy] : List Int)).map Ar))] rfl rfl) (Aq ?_)
    exact ⟨⟨[_], tm, rfl⟩, ⟨rfl, tv⟩⟩
   ·refine Ao (wq rfl (qf IS rfl (ql A5 rfl (qf Fb rfl (ql HA rfl (Fg Cb Ig Th rfl (qe rfl ?_)))))))
    obtain rfl := sj h
    refine Ad (sm [(1000, 34)] [(2, oD (.own 1000))] [(1000, .vec 1 ((([p0.fm, p0.fy] : List Int)).map Ar))] rfl rfl) (Aq ?_)
    exact ⟨⟨[_], tm, rfl⟩, ⟨rfl, tv⟩⟩
theorem Jp (N : Nat) (p0 : Int) (p1 : Int) (p2 : List Int) (r : Ae) (h : Ck N p0 p1 p2 = some r) : Ap uS 107 [iD p0, iD p1, pD (.sl (p2.map Ar))] [] (.e (.agg (A6 r))) := by
 unfold Ck at h
 refine cw (n := 59) (rs := [.cell 6 37]) Tryz.func107 fun w0 S0 => ?_
 refine wq rfl (qz IY rfl (Ab (wq rfl (qw 2 rfl (Bf IY Qy rfl (qz IY rfl (qs DB rfl (Ab ?_))))))))
 refine AJ h (fun v1 => mk [(6, oD (.ptr 6 0)), (7, oD (.ptr 7 0))] [(6, .box [iC 0, iC 0, iC 0, iC 0, iC 0, iC 0, iC 0, iC 0, iC 0, iC 0, iC 0]), (7, .box [iC p0, iC p1, iC v1.1, iC v1.2.1, iC v1.2.2.1, iC v1.2.2.2.1, iC v1.2.2.2.2.1, iC v1.2.2.2.2.2.1, iC v1.2.2.2.2.2.2.1, iC v1.2.2.2.2.2.2.2.1, iC v1.2.2.2.2.2.2.2.2])]) (fun j1 h => ?_) (fun v1 h => ?_)
 ·refine wq rfl (qm rfl (Ab (AP (wq rfl (AR rfl (qe rfl ?_))))))
  refine Be h (fun h => ?_) fun h => ?_
  ·refine Aj Aw rfl (qm rfl ?_)
   refine BP h fun v3 a3 b3 h => qi Cb Ig a3 (Ah b3) rfl (qk HA rfl (qm rfl ?_))
   refine BP h fun v4 a4 b4 h => qi Cb Ig a4 (Ah b4) rfl (qk HA rfl (qm rfl ?_))
   refine BP h fun v5 a5 b5 h => qi Cb Ig a5 (Ah b5) rfl (qk HA rfl (qf Hj rfl (qs Cy rfl (qf Hm rfl (qs Cy rfl (qf H4 rfl (qs Cy rfl (AE (by kernel_rfl) ?_))))))))
   exact sn [] h
  ·refine wq rfl (AR rfl (qe rfl ?_))
   refine Be h (fun h => ?_) fun h => ?_
   ·refine Aj Aw rfl (qm rfl ?_)
    refine BP h fun v7 a7 b7 h => qi Cb Ig a7 (Ah b7) rfl (qk HA rfl (qm rfl ?_))
    refine BP h fun v8 a8 b8 h => qi Cb Ig a8 (Ah b8) rfl (qk HA rfl (qm rfl ?_))
    refine BP h fun v9 a9 b9 h => qi Cb Ig a9 (Ah b9) rfl (qk HA rfl (qf HW rfl (qs Cy rfl (qf JW rfl (qs Cy rfl (qf IM rfl (qs Cy rfl (AE (by kernel_rfl) ?_))))))))
    exact sn [] h
   ·refine wq rfl (AR rfl (qe rfl ?_))
    refine Be h (fun h => ?_) fun h => ?_
    ·refine Aj Aw rfl (qm rfl ?_)
     refine BP h fun v11 a11 b11 h => qi Cb Ig a11 (Ah b11) rfl (qk HA rfl (qm rfl ?_))
     refine BP h fun v12 a12 b12 h => qi Cb Ig a12 (Ah b12) rfl (qk HA rfl (qf JS rfl (qs Cy rfl (qf Fb rfl (qs Ig rfl (AE (by kernel_rfl) ?_))))))
     exact sn [] h
    ·refine Aj Aw rfl (qm rfl ?_)
     refine BP h fun v13 a13 b13 h => qi Cb Ig a13 (Ah b13) rfl (qk HA rfl (qm rfl ?_))
     refine BP h fun v14 a14 b14 h => qi Cb Ig a14 (Ah b14) rfl (qk HA rfl (qf IS rfl (qs Cy rfl (qf Fb rfl (qs Ig rfl (AE (by kernel_rfl) ?_))))))
     exact sn [] h
 ·refine wq rfl (qL FT DB rfl (qs DB rfl (Ab ?_)))
  obtain rfl := sj h
  refine Ad (sm [] [(6, oD (.ptr 6 0))] [(6, .box [iC p0, iC p1, iC v1.1, iC v1.2.1, iC v1.2.2.1, iC v1.2.2.2.1, iC v1.2.2.2.2.1, iC v1.2.2.2.2.2.1, iC v1.2.2.2.2.2.2.1, iC v1.2.2.2.2.2.2.2.1, iC v1.2.2.2.2.2.2.2.2])] rfl rfl) (Aq ?_)
  exact ⟨⟨[_], ⟨.cellN _ _ _ _ _ _ _ rfl rfl FT DB rfl rfl (Hc rfl), tv⟩, rfl⟩, tv⟩
theorem IX (N : Nat) (p0 : Ae) (r : Bool) (h : Df N p0 = some r) : Ap uS 70 [.e (.agg (A6 p0))] [] (bD r) := by
 unfold Df at h
 refine cw (n := 39) (rs := [.tmp 2]) Tryz.func70 fun w0 S0 => ?_
 refine wq rfl (qb rfl (qa rfl (Ab (AQ ?_))))
 refine AJ h (fun v1 => mk [(1, oD (.ptr 1 0)), (17, bD v1)] [(1, .box (A6 p0))]) (fun j1 h => ?_) (fun v1 h => ?_)
 ·refine Aj Aw rfl (qf CQ rfl (ql A5 rfl (A2 rfl (qm rfl ?_))))
  refine CJ 8 h rfl (fun h => ?_) fun h => ?_
  ·refine qw 3 rfl (qp rfl (qw 4 rfl (qp rfl (Ab ?_))))
   exact sn [] h
  ·refine qf CQ rfl (ql A5 rfl (DX rfl (qp rfl (qm rfl ?_))))
   refine CJ 13 h rfl (fun h => ?_) fun h => ?_
   ·refine qw 3 rfl (qp rfl (Ab ?_))
    exact sn [] h
   ·refine qf GG rfl (ql HA rfl (A2 rfl (qp rfl (Ab ?_))))
    exact sn [] h
 ·refine Be h (fun h => ?_) fun h => ?_
  ·refine wq rfl (qe rfl ?_)
   obtain rfl := sj h
   refine Ad (sm [] [(2, bD false)] [] rfl rfl) (Aq ?_)
   exact ⟨⟨[_], tm, rfl⟩, tv⟩
  ·refine Ao (wq rfl (qL FT DB rfl ?_))
   refine B1 h fun v5 a5 h => Av [2001] (IE N p0 v5 a5) U5 rfl (qa rfl (Ab (wp rfl (qe rfl ?_))))
   refine A1 (L := BR N v5) h (fun v6 => mk [(1, oD (.ptr 1 0)), (3, oD (.own 2002)), (4, iD v6)] [(1, .box (A6 p0)), (2002, .vec 1 (v5.map Ar))]) (fun v7 => mk [(1, oD (.ptr 1 0)), (3, oD (.own 2003))] [(1, .box (A6 p0)), (2003, .vec 1 (v5.map Ar))]) (fun _ _ => rfl) (sm [(2002, 2001)] _ _ rfl rfl) (fun j6 n6 v6 h => ?_) (fun v7 s h hs => ?_)
   ·unfold BR at h
    refine wp rfl (qw 2 rfl (Pp Cb rfl (A2 rfl (Ab ?_))))
    refine Be h (fun h => ?_) fun h => ?_
    ·refine Ao (AQ (AP (wq rfl (qw 2 rfl ?_))))
     refine BP h fun v9 a9 b9 h => qI Cb Ig a9 (Ah b9) rfl (qj HA (Ah b9) rfl (A2 rfl (Ab ?_)))
     refine Be h (fun h => ?_) fun h => ?_
     ·refine wq rfl (qe rfl ?_)
      obtain rfl := sj h
      refine Ad (sm [] [(2, bD false)] [] rfl rfl) (Aq ?_)
      exact ⟨⟨[_], tm, rfl⟩, tv⟩
     ·refine Ao (Aj Aw rfl (qm rfl (Cg rfl (qe rfl ?_))))
      exact sn [] h
    ·refine BT ?_
     exact sn [(2003, 2002)] h
   ·refine Ad hs (wq rfl (qf GG rfl (ql HA rfl (qf CQ rfl (ql A5 rfl (qm rfl ?_))))))
    refine B1 h fun v11 a11 h => Hn [] [2003] (Jp N p0.fi p0.fa v5 v11 a11) Vd Fr rfl (qL FT DB rfl ?_)
    refine Tq [.int .i64 v11.fi, .int .i64 v11.fa, .int .i64 v11.fF, .int .i64 v11.fD, .int .i64 v11.fG, .int .i64 v11.fm, .int .i64 v11.fy, .int .i64 v11.fI, .int .i64 v11.fE, .int .i64 v11.fp, .int .i64 v11.fK] [.int .i64 p0.fi, .int .i64 p0.fa, .int .i64 p0.fF, .int .i64 p0.fD, .int .i64 p0.fG, .int .i64 p0.fm, .int .i64 p0.fy, .int .i64 p0.fI, .int .i64 p0.fE, .int .i64 p0.fp, .int .i64 p0.fK] (.p rfl) rfl rfl Tv rfl ?_
    refine qa rfl (AE (by kernel_rfl) ?_)
    obtain rfl := sj h
    refine Ad (sm [] [(2, bD (((v11.fi == p0.fi) && ((v11.fa == p0.fa) && ((v11.fF == p0.fF) && ((v11.fD == p0.fD) && ((v11.fG == p0.fG) && ((v11.fm == p0.fm) && ((v11.fy == p0.fy) && ((v11.fI == p0.fI) && ((v11.fE == p0.fE) && ((v11.fp == p0.fp) && ((v11.fK == p0.fK) && true)))))))))))))] [] rfl rfl) (Aq ?_)
    exact ⟨⟨[_], tm, rfl⟩, tv⟩
theorem I2 (N : Nat) (p0 : List Ae) (r : Int) (h : Dd N p0 = some r) : Ap uS 33 [pD (.sl (p0.map AL))] [] (iD r) := by
 unfold Dd at h
 refine cw (n := 37) (rs := [.tmp 2]) Tryz.func33 fun w0 S0 => ?_
 refine wq rfl (qa rfl (Ab (wp rfl (qm rfl (AF Eb rfl (DX rfl (Ab ?_)))))))
 refine Be h (fun h => ?_) fun h => ?_
 ·refine wq rfl (qe rfl ?_)
  obtain rfl := sj h
  refine Ad (sm [] [(2, iD 3)] [] rfl rfl) (Aq ?_)
  exact ⟨⟨[_], tm, rfl⟩, tv⟩
 ·refine Ao (wp rfl (qe rfl ?_))
  refine A1 (L := B4 N p0) h (fun v2 => mk [(0, pD (.sl (p0.map AL))), (3, iD v2)] []) (fun v3 => mk [] []) (fun _ _ => rfl) (sm [] _ _ rfl rfl) (fun j2 n2 v2 h => ?_) (fun v3 s h hs => ?_)
  ·unfold B4 at h
   refine wp rfl (qw 2 rfl (AF Eb rfl (A2 rfl (Ab ?_))))
   refine Be h (fun h => ?_) fun h => ?_
   ·refine Ao (AQ (AP ?_))
    refine AJ h (fun v5 => mk [(0, pD (.sl (p0.map AL))), (3, iD v2), (36, bD v5)] []) (fun j5 h => ?_) (fun v5 h => ?_)
    ·refine Aj Aw rfl (qw 2 rfl ?_)
     refine BP h fun v6 a6 b6 h => qi Eb DB a6 (Ah b6) rfl (qK FT DB rfl ?_)
     refine B1 h fun v7 a7 h => Av [] (IX N v6 v7 a7) WJ rfl (Ch rfl (qm rfl ?_))
     refine CJ 19 h rfl (fun h => ?_) fun h => ?_
     ·refine qw 3 rfl (qu rfl (qu rfl (qu rfl (qu rfl (qu rfl (qu rfl (qu rfl (qu rfl (qu rfl (qu rfl (qu rfl (qu rfl (qn rfl (qp rfl (AE (by kernel_rfl) ?_)))))))))))))))
      exact sn [] h
     ·refine qm rfl (DX rfl (qm rfl ?_))
      refine CJ 22 h rfl (fun h => ?_) fun h => ?_
      ·refine qw 2 rfl ?_
       refine BP h fun v10 a10 b10 h => qi Eb DB a10 (Ah b10) rfl (qg GG rfl (qk HA rfl (qw 2 rfl (KJ rfl ?_))))
       refine BP h fun v11 a11 b11 h => qi Eb DB a11 (Ah b11) rfl (qg GG rfl (qk HA rfl (A2 rfl (qp rfl (qp rfl (AE (by kernel_rfl) ?_))))))
       exact sn [] h
      ·refine qw 12 rfl (qp rfl (qp rfl (AE (by kernel_rfl) ?_)))
       exact sn [] h
    ·refine Be h (fun h => ?_) fun h => ?_
     ·refine wq rfl (qe rfl ?_)
      obtain rfl := sj h
      refine Ad (sm [] [(2, iD 1)] [] rfl rfl) (Aq ?_)
      exact ⟨⟨[_], tm, rfl⟩, tv⟩
     ·refine Ao (Aj Aw rfl (qm rfl (Cg rfl (qe rfl ?_))))
      exact sn [] h
   ·refine BT ?_
    exact sn [] h
  ·refine Ad hs (wq rfl (qe rfl ?_))
   obtain rfl := sj h
   refine Ad (sm [] [(2, iD 0)] [] rfl rfl) (Aq ?_)
   exact ⟨⟨[_], tm, rfl⟩, tv⟩
theorem IZ (N : Nat) (p0 : Aa) (r : AA) (h : DV N p0 = some r) : Ap uS 36 [.e (.agg (Al p0))] [(1, r.fe.fh.map Ar), (1, r.fe.ff.map Ar), (1, r.fe.fg.map C1)] (.e (.agg [iC r.fi, .pure (.val (.bool r.fv)), .pure (.val (.bool r.fu)), .own 0, .own 1, .own 2])) := by
 unfold DV at h
 refine cw (n := 12) (rs := [.cell 2 73]) Tryz.func36 fun w0 S0 => ?_
 refine wq rfl (qb rfl (qz Pt rfl (Ab (wq rfl (qL DI DD rfl ?_)))))
 refine B1 h fun v1 a1 h => Av [2001, 2002, 2003] (Gy N p0 v1 a1) VV rfl (qm rfl (qx rfl (qx rfl (qz CO rfl (qs AM rfl (qa rfl (Ab (wq rfl (qL BE AM rfl (Bf Pt Wc rfl (qs Gi rfl (Ab ?_))))))))))))
 obtain rfl := sj h
 refine Ad (sm [(1000, 2001), (1001, 2002), (1002, 2003)] [(2, oD (.ptr 2 0))] [(2, .box [iC 0, .pure (.val (.bool false)), .pure (.val (.bool false)), .own 1000, .own 1001, .own 1002]), (1000, .vec 1 (v1.1.fh.map Ar)), (1001, .vec 1 (v1.1.ff.map Ar)), (1002, .vec 1 (v1.1.fg.map C1))] rfl rfl) (Aq ?_)
 exact ⟨⟨[_], ⟨.cellN _ _ _ _ _ _ _ rfl rfl Jh Gi rfl rfl (Hc rfl), tv⟩, rfl⟩, ⟨rfl, rfl, rfl, tv⟩⟩
theorem Kc (N : Nat) (p0 : Ae) (r : Bool) (h : DR N p0 = some r) : Ap uS 75 [.e (.agg (A6 p0))] [] (bD r) := by
 unfold DR at h
 refine cw (n := 11) (rs := [.tmp 2]) Tryz.func75 fun w0 S0 => ?_
 refine wq rfl (qb rfl (qe rfl ?_))
 refine AJ h (fun v1 => mk [(2, bD v1)] []) (fun j1 h => ?_) (fun v1 h => ?_)
 ·refine Aj Aw rfl (qf CQ rfl (ql A5 rfl (Dg rfl (qm rfl ?_))))
  refine CJ 6 h rfl (fun h => ?_) fun h => ?_
  ·refine qf CQ rfl (ql A5 rfl (Lh rfl (qp rfl (qe rfl ?_))))
   exact sn [] h
  ·refine qw 3 rfl (qp rfl (qe rfl ?_))
   exact sn [] h
 ·obtain rfl := sj h
  refine Ad (sm [] [(2, bD v1)] [] rfl rfl) (Aq ?_)
  exact ⟨⟨[_], tm, rfl⟩, tv⟩
theorem IT (N : Nat) (p0 : Aa) (p1 : List Am) (p2 : AA) (p3 : Ae) (r : AA × Bool) (h : Cz N p0 p1 p2 p3 = some r) : Ap uS 37 [.e (.agg (Al p0)), pD (.sl (p1.map AO)), .e (.agg (AS p2)), .e (.agg (A6 p3))] [] (.tup [.agg (AS r.1), .one (.pure (.val (.bool r.2)))]) := by
 unfold Cz at h
 refine cw (n := 122) (rs := [.cell 8 73, .tmp 9]) Tryz.func37 fun w0 S0 => ?_
 refine wq rfl (qb rfl (qb rfl (qb rfl (qz Pt rfl (qa rfl (Ab (wp rfl (qL FT DB rfl ?_))))))))
 refine B1 h fun v1 a1 h => Av [] (Kc N p3 v1 a1) Wa rfl (Ch rfl (Ab ?_))
 refine Be h (fun h => ?_) fun h => ?_
 ·refine wq rfl (qL Jh Gi rfl (qs Gi rfl (qe rfl ?_)))
  obtain rfl := sj h
  refine Ad (sm [] [(8, oD (.ptr 8 0)), (9, bD true)] [(8, .box (AS p2))] rfl rfl) (Aq ?_)
  exact ⟨⟨[_, _], ⟨.cellN _ _ _ _ _ _ _ rfl rfl Jh Gi rfl rfl (Hc rfl), tm⟩, rfl⟩, tv⟩
 ·refine Ao (AQ ?_)
  refine AJ h (fun v3 => mk [(1, pD (.sl (p1.map AO))), (4, oD (.ptr 4 0)), (6, oD (.ptr 6 0)), (7, oD (.ptr 7 0)), (8, oD (.ptr 8 0)), (26, bD v3)] [(4, .box (Al p0)), (6, .box (AS p2)), (7, .box (A6 p3)), (8, .box [iC 0, .pure (.val (.bool false)), .pure (.val (.bool false)), .pure (.nil0), .pure (.nil0), .pure (.nil0)])]) (fun j3 h => ?_) (fun v3 h => ?_)
  ·refine Aj Aw rfl (qf IS rfl (ql A5 rfl (qf JF rfl (ql A5 rfl (BD rfl (qm rfl ?_))))))
   refine CJ 20 h rfl (fun h => ?_) fun h => ?_
   ·refine qw 5 rfl (qp rfl (Ab ?_))
    exact sn [] h
   ·refine qf JF rfl (ql A5 rfl (qm rfl (AF Gn rfl (Dg rfl (qp rfl (Ab ?_))))))
    exact sn [] h
  ·refine Be h (fun h => ?_) fun h => ?_
   ·refine wq rfl (qL Jh Gi rfl (qs Gi rfl (qe rfl ?_)))
    obtain rfl := sj h
    refine Ad (sm [] [(8, oD (.ptr 8 0)), (9, bD false)] [(8, .box (AS p2))] rfl rfl) (Aq ?_)
    exact ⟨⟨[_, _], ⟨.cellN _ _ _ _ _ _ _ rfl rfl Jh Gi rfl rfl (Hc rfl), tm⟩, rfl⟩, tv⟩
   ·refine Ao (wq rfl (qm rfl (qf JF rfl (ql A5 rfl ?_))))
    refine BP h fun v6 a6 b6 h => qi Gn FD a6 (Ah b6) rfl (qK If FD rfl (qz Od rfl (qs FD rfl (Ab ?_))))
    refine AJ h (fun v7 => mk [(6, oD (.ptr 6 0)), (8, oD (.ptr 8 0))] [(6, .box [iC v7.1, .pure (.val (.bool v7.2.1)), .pure (.val (.bool v7.2.2.1)), sC (v7.2.2.2.1.map Ar), sC (v7.2.2.2.2.1.map Ar), sC (v7.2.2.2.2.2.map C1)]), (8, .box [iC 0, .pure (.val (.bool false)), .pure (.val (.bool false)), .pure (.nil0), .pure (.nil0), .pure (.nil0)])]) (fun j7 h => ?_) (fun v7 h => ?_)
    ·refine AP ?_
     refine AJ h (fun v8 => mk [(4, oD (.ptr 4 0)), (6, oD (.ptr 6 0)), (7, oD (.ptr 7 0)), (8, oD (.ptr 8 0)), (10, oD (.ptr 10 0)), (34, bD v8)] [(4, .box (Al p0)), (6, .box (AS p2)), (7, .box (A6 p3)), (8, .box [iC 0, .pure (.val (.bool false)), .pure (.val (.bool false)), .pure (.nil0), .pure (.nil0), .pure (.nil0)]), (10, .box (BL v6))]) (fun j8 h => ?_) (fun v8 h => ?_)
     ·refine Aj Aw rfl (qf CQ rfl (ql A5 rfl (AR rfl (qm rfl ?_))))
      refine CJ 38 h rfl (fun h => ?_) fun h => ?_
      ·refine qf IR rfl (ql Qq rfl (Ch rfl (qp rfl (qm rfl ?_))))
       refine CJ 43 h rfl (fun h => ?_) fun h => ?_
       ·refine qf K0 rfl (ql Qq rfl (Ch rfl (qp rfl (qe rfl ?_))))
        exact sn [] h
       ·refine qw 3 rfl (qp rfl (qe rfl ?_))
        exact sn [] h
      ·refine qw 3 rfl (qp rfl (qw 4 rfl (qp rfl (qe rfl ?_))))
       exact sn [] h
     ·refine Be h (fun h => ?_) fun h => ?_
      ·refine wq rfl (qf IR rfl (qs Rt rfl (Ab (wq rfl (qf CU rfl (ql A5 rfl (AR rfl (Ab ?_))))))))
       refine Be h (fun h => ?_) fun h => ?_
       ·refine Aj Aw rfl (qL DI DD rfl (qf HZ rfl (qL BE AM rfl (qL If FD rfl ?_))))
        refine B1 h fun v13 a13 h => Av [2001, 2002, 2003] (D1 N p0 ((Ac.mk p2.fe.fh p2.fe.ff p2.fe.fg)) v6 v13 a13) R8 rfl (qm rfl (qx rfl (qx rfl (qf HZ rfl (qs AM rfl (Ab ?_))))))
        exact S4 _ h ((Bd 2001 _ _ rfl rfl).trans ((Bd 2002 _ _ rfl rfl).trans ((Bd 2003 _ _ rfl rfl).trans (sm [] _ _ rfl rfl))))
       ·refine Ao ?_
        exact sn [] h
      ·refine AJ h (fun v14 => mk [(4, oD (.ptr 4 0)), (6, oD (.ptr 6 0)), (7, oD (.ptr 7 0)), (8, oD (.ptr 8 0)), (10, oD (.ptr 10 0)), (61, bD v14)] [(4, .box (Al p0)), (6, .box (AS p2)), (7, .box (A6 p3)), (8, .box [iC 0, .pure (.val (.bool false)), .pure (.val (.bool false)), .pure (.nil0), .pure (.nil0), .pure (.nil0)]), (10, .box (BL v6))]) (fun j14 h => ?_) (fun v14 h => ?_)
       ·refine Aj Aw rfl (qf CQ rfl (ql A5 rfl (AR rfl (qm rfl ?_))))
        refine CJ 65 h rfl (fun h => ?_) fun h => ?_
        ·refine qf IR rfl (ql Qq rfl (qp rfl (qe rfl ?_)))
         exact sn [] h
        ·refine qw 2 rfl (qp rfl (qe rfl ?_))
         exact sn [] h
       ·refine Be h (fun h => ?_) fun h => ?_
        ·refine wq rfl (qf IR rfl (qs Rt rfl (Ab (wq rfl (qf JF rfl (ql A5 rfl (Cg rfl (qf JF rfl (qs Cy rfl (Ab (wq rfl (qf CU rfl (ql A5 rfl (BD rfl (Ab ?_)))))))))))))))
         refine Be h (fun h => ?_) fun h => ?_
         ·refine Aj Aw rfl (qL DI DD rfl (qf HZ rfl (qL BE AM rfl (qL If FD rfl ?_))))
          refine B1 h fun v18 a18 h => Av [2004, 2005, 2006] (D1 N p0 ((Ac.mk p2.fe.fh p2.fe.ff p2.fe.fg)) v6 v18 a18) R8 rfl (qm rfl (qx rfl (qx rfl (qf HZ rfl (qs AM rfl (Ab ?_))))))
          exact S4 _ h ((Bd 2004 _ _ rfl rfl).trans ((Bd 2005 _ _ rfl rfl).trans ((Bd 2006 _ _ rfl rfl).trans (sm [] _ _ rfl rfl))))
         ·refine Ao ?_
          exact sn [] h
        ·refine AJ h (fun v19 => mk [(4, oD (.ptr 4 0)), (6, oD (.ptr 6 0)), (7, oD (.ptr 7 0)), (8, oD (.ptr 8 0)), (10, oD (.ptr 10 0)), (86, bD v19)] [(4, .box (Al p0)), (6, .box (AS p2)), (7, .box (A6 p3)), (8, .box [iC 0, .pure (.val (.bool false)), .pure (.val (.bool false)), .pure (.nil0), .pure (.nil0), .pure (.nil0)]), (10, .box (BL v6))]) (fun j19 h => ?_) (fun v19 h => ?_)
         ·refine Aj Aw rfl (qf CQ rfl (ql A5 rfl (AR rfl (qm rfl ?_))))
          refine CJ 90 h rfl (fun h => ?_) fun h => ?_
          ·refine qf IR rfl (ql Qq rfl (qp rfl (qm rfl ?_)))
           refine CJ 94 h rfl (fun h => ?_) fun h => ?_
           ·refine qf CU rfl (ql A5 rfl (AR rfl (qp rfl (qe rfl ?_))))
            exact sn [] h
           ·refine qw 3 rfl (qp rfl (qe rfl ?_))
            exact sn [] h
          ·refine qw 2 rfl (qp rfl (qw 4 rfl (qp rfl (qe rfl ?_))))
           exact sn [] h
         ·refine Be h (fun h => ?_) fun h => ?_
          ·refine Aj Aw rfl (qf IR rfl (qs Rt rfl (qf K0 rfl (qs Rt rfl (Ab ?_)))))
           exact sn [] h
          ·refine AJ h (fun v23 => mk [(4, oD (.ptr 4 0)), (6, oD (.ptr 6 0)), (8, oD (.ptr 8 0)), (10, oD (.ptr 10 0)), (101, bD v23)] [(4, .box (Al p0)), (6, .box (AS p2)), (8, .box [iC 0, .pure (.val (.bool false)), .pure (.val (.bool false)), .pure (.nil0), .pure (.nil0), .pure (.nil0)]), (10, .box (BL v6))]) (fun j23 h => ?_) (fun v23 h => ?_)
           ·refine Aj Aw rfl (qf CQ rfl (ql A5 rfl (AR rfl (qm rfl ?_))))
            refine CJ 105 h rfl (fun h => ?_) fun h => ?_
            ·refine qf K0 rfl (ql Qq rfl (qp rfl (qe rfl ?_)))
             exact sn [] h
            ·refine qw 2 rfl (qp rfl (qe rfl ?_))
             exact sn [] h
           ·refine Be h (fun h => ?_) fun h => ?_
            ·refine wq rfl (qf K0 rfl (qs Rt rfl (Ab (Aj Aw rfl (qL DI DD rfl (qf HZ rfl (qL BE AM rfl (qf Dt rfl (ql A5 rfl (Bf Od R7 rfl ?_))))))))))
             refine B1 h fun v26 a26 h => Av [2007, 2008, 2009] (D1 N p0 ((Ac.mk p2.fe.fh p2.fe.ff p2.fe.fg)) ((Am.mk 4 v6.fm 0)) v26 a26) R8 rfl (qm rfl (qx rfl (qx rfl (qf HZ rfl (qs AM rfl (Ab ?_))))))
             exact S4 _ h ((Bd 2007 _ _ rfl rfl).trans ((Bd 2008 _ _ rfl rfl).trans ((Bd 2009 _ _ rfl rfl).trans (sm [] _ _ rfl rfl))))
            ·refine wq rfl (qL Jh Gi rfl (qs Gi rfl (qe rfl ?_)))
             obtain rfl := sj h
             refine Ad (sm [] [(8, oD (.ptr 8 0)), (9, bD false)] [(8, .box (AS p2))] rfl rfl) (Aq ?_)
             exact ⟨⟨[_, _], ⟨.cellN _ _ _ _ _ _ _ rfl rfl Jh Gi rfl rfl (Hc rfl), tm⟩, rfl⟩, tv⟩
    ·refine wq rfl (qL Jh Gi rfl (qs Gi rfl (qe rfl ?_)))
     obtain rfl := sj h
     refine Ad (sm [] [(8, oD (.ptr 8 0)), (9, bD true)] [(8, .box [iC v7.1, .pure (.val (.bool v7.2.1)), .pure (.val (.bool v7.2.2.1)), sC (v7.2.2.2.1.map Ar), sC (v7.2.2.2.2.1.map Ar), sC (v7.2.2.2.2.2.map C1)])] rfl rfl) (Aq ?_)
     exact ⟨⟨[_, _], ⟨.cellN _ _ _ _ _ _ _ rfl rfl Jh Gi rfl rfl (Hc rfl), tm⟩, rfl⟩, tv⟩
theorem Jq (N : Nat) (p0 : Aa) (p1 : List Am) (p2 : List Ae) (r : AA × Int) (h : DC N p0 p1 p2 = some r) : Ap uS 41 [.e (.agg (Al p0)), pD (.sl (p1.map AO)), pD (.sl (p2.map AL))] [] (.tup [.agg (AS r.1), .one (iC r.2)]) := by
 unfold DC at h
 refine cw (n := 37) (rs := [.cell 6 73, .tmp 7]) Tryz.func41 fun w0 S0 => ?_
 refine wq rfl (qb rfl (qz Pt rfl (qa rfl (Ab (wq rfl (qL DI DD rfl ?_))))))
 refine B1 h fun v1 a1 h => Av [2001, 2002, 2003] (IZ N p0 v1 a1) Wv rfl (qz Pt rfl (qs Gi rfl (Ab (wp rfl (qe rfl ?_)))))
 refine A1 (L := Cf N p0 p1 p2) h (fun v2 => mk [(1, pD (.sl (p1.map AO))), (2, pD (.sl (p2.map AL))), (3, oD (.ptr 3 0)), (6, oD (.ptr 6 0)), (8, oD (.ptr 8 0)), (9, iD v2.2.2.2.2.2.2)] [(3, .box (Al p0)), (6, .box [iC 0, .pure (.val (.bool false)), .pure (.val (.bool false)), .pure (.nil0), .pure (.nil0), .pure (.nil0)]), (8, .box [iC v2.1, .pure (.val (.bool v2.2.1)), .pure (.val (.bool v2.2.2.1)), sC (v2.2.2.2.1.map Ar), sC (v2.2.2.2.2.1.map Ar), sC (v2.2.2.2.2.2.1.map C1)])]) (fun v3 => mk [(6, oD (.ptr 6 0)), (8, oD (.ptr 8 0))] [(6, .box [iC 0, .pure (.val (.bool false)), .pure (.val (.bool false)), .pure (.nil0), .pure (.nil0), .pure (.nil0)]), (8, .box (AS v3))]) (fun _ _ => rfl) ((Bd 2001 _ _ rfl rfl).trans ((Bd 2002 _ _ rfl rfl).trans ((Bd 2003 _ _ rfl rfl).trans (sm [] _ _ rfl rfl)))) (fun j2 n2 v2 h => ?_) (fun v3 s h hs => ?_)
 ·unfold Cf at h
  refine wp rfl (qw 2 rfl (AF Eb rfl (A2 rfl (Ab ?_))))
  refine Be h (fun h => ?_) fun h => ?_
  ·refine Ao (AQ (AP (wq rfl (qL DI DD rfl (qm rfl (qL Jh Gi rfl (qw 2 rfl ?_)))))))
   refine BP h fun v5 a5 b5 h => qi Eb DB a5 (Ah b5) rfl (qK FT DB rfl ?_)
   refine B1 h fun v6 a6 h => Av [] (IT N p0 p1 ((AA.mk v2.1 v2.2.1 v2.2.2.1 ((Ac.mk v2.2.2.2.1 v2.2.2.2.2.1 v2.2.2.2.2.2.1)))) v5 v6 a6) WI rfl (qm rfl (qx rfl (qx rfl (qz Pt rfl (qs Gi rfl (qa rfl (AE (by kernel_rfl) (wp rfl (qm rfl (Ch rfl (Ab ?_)))))))))))
   refine Be h (fun h => ?_) fun h => ?_
   ·refine wq rfl (qL Jh Gi rfl (qm rfl (qs Gi rfl (qe rfl ?_))))
    obtain rfl := sj h
    refine Ad (sm [] [(6, oD (.ptr 6 0)), (7, iD v2.2.2.2.2.2.2)] [(6, .box [iC v2.1, .pure (.val (.bool v2.2.1)), .pure (.val (.bool v2.2.2.1)), sC (v2.2.2.2.1.map Ar), sC (v2.2.2.2.2.1.map Ar), sC (v2.2.2.2.2.2.1.map C1)])] rfl rfl) (Aq ?_)
    exact ⟨⟨[_, _], ⟨.cellN _ _ _ _ _ _ _ rfl rfl Jh Gi rfl rfl (Hc rfl), tm⟩, rfl⟩, tv⟩
   ·refine Ao (Aj Aw rfl (qL Jh Gi rfl (qs Gi rfl (Ab (Aj Aw rfl (qm rfl (Cg rfl (qe rfl ?_))))))))
    exact sn [] h
  ·refine BT ?_
   exact sn [] h
 ·refine Ad hs (wq rfl (qL Jh Gi rfl (qs Gi rfl (qe rfl ?_))))
  obtain rfl := sj h
  refine Ad (sm [] [(6, oD (.ptr 6 0)), (7, iD ((-1)))] [(6, .box (AS v3))] rfl rfl) (Aq ?_)
  exact ⟨⟨[_, _], ⟨.cellN _ _ _ _ _ _ _ rfl rfl Jh Gi rfl rfl (Hc rfl), tm⟩, rfl⟩, tv⟩
theorem J0 (N : Nat) (p0 : Aa) (p1 : List Am) (p2 : List Ae) (r : Ac × Int) (h : C7 N p0 p1 p2 = some r) : Ap uS 17 [.e (.agg (Al p0)), pD (.sl (p1.map AO)), pD (.sl (p2.map AL))] [] (.tup [.agg (A0 r.1), .one (iC r.2)]) := by
 unfold C7 at h
 refine cw (n := 37) (rs := [.cell 6 40, .tmp 7]) Tryz.func17 fun w0 S0 => ?_
 refine wq rfl (qb rfl (qz CO rfl (qa rfl (Ab (wp rfl (qL DI DD rfl (qm rfl ?_)))))))
 refine B1 h fun v1 a1 h => Av [] (I1 N p0 p1 v1 a1) V6 rfl (qa rfl (Ab (wq rfl (qm rfl (BD rfl (Ab ?_))))))
 refine Be h (fun h => ?_) fun h => ?_
 ·refine wq rfl (Bf CO F6 rfl (qm rfl (qs AM rfl (qe rfl ?_))))
  obtain rfl := sj h
  refine Ad ((FZ 6 _ rfl).trans (sm [] [(6, oD (.ptr 6 0)), (7, iD v1)] [(6, .box [sC ((([] : List Int)).map Ar), sC ((([] : List Int)).map Ar), sC ((([] : List Int)).map C1)])] rfl rfl)) (Aq ?_)
  exact ⟨⟨[_, _], ⟨.cellN _ _ _ _ _ _ _ rfl rfl BE AM rfl rfl (Hc rfl), tm⟩, rfl⟩, tv⟩
 ·refine Ao (wp rfl (qm rfl ?_))
  refine B1 h fun v3 a3 h => Av [] (I2 N p2 v3 a3) Wi rfl (qa rfl (Ab (wq rfl (qm rfl (BD rfl (Ab ?_))))))
  refine Be h (fun h => ?_) fun h => ?_
  ·refine wq rfl (Bf CO F6 rfl (qm rfl (qs AM rfl (qe rfl ?_))))
   obtain rfl := sj h
   refine Ad ((FZ 6 _ rfl).trans (sm [] [(6, oD (.ptr 6 0)), (7, iD v3)] [(6, .box [sC ((([] : List Int)).map Ar), sC ((([] : List Int)).map Ar), sC ((([] : List Int)).map C1)])] rfl rfl)) (Aq ?_)
   exact ⟨⟨[_, _], ⟨.cellN _ _ _ _ _ _ _ rfl rfl BE AM rfl rfl (Hc rfl), tm⟩, rfl⟩, tv⟩
  ·refine Ao (wq rfl (qL DI DD rfl (qw 2 rfl ?_)))
   refine B1 h fun v5 a5 h => Av [] (Jq N p0 p1 p2 v5 a5) Wr rfl (qm rfl (qx rfl (qx rfl (qz Pt rfl (qs Gi rfl (qa rfl (Ab (wp rfl (qm rfl (Dg rfl (Ab ?_)))))))))))
   refine Be h (fun h => ?_) fun h => ?_
   ·refine wq rfl (Bf CO F6 rfl (qs AM rfl (qe rfl ?_)))
    obtain rfl := sj h
    refine Ad ((FZ 6 _ rfl).trans (sm [] [(6, oD (.ptr 6 0)), (7, iD 11)] [(6, .box [sC ((([] : List Int)).map Ar), sC ((([] : List Int)).map Ar), sC ((([] : List Int)).map C1)])] rfl rfl)) (Aq ?_)
    exact ⟨⟨[_, _], ⟨.cellN _ _ _ _ _ _ _ rfl rfl BE AM rfl rfl (Hc rfl), tm⟩, rfl⟩, tv⟩
   ·refine Ao (wq rfl (qf HZ rfl (qL BE AM rfl (qs AM rfl (qe rfl ?_)))))
    obtain rfl := sj h
    refine Ad (sm [] [(6, oD (.ptr 6 0)), (7, iD 0)] [(6, .box (A0 v5.1.fe))] rfl rfl) (Aq ?_)
    exact ⟨⟨[_, _], ⟨.cellN _ _ _ _ _ _ _ rfl rfl BE AM rfl rfl (Hc rfl), tm⟩, rfl⟩, tv⟩
theorem Fh (N : Nat) (p0 : List Int) (p1 : List Int) (r : Int) (h : Cl N p0 p1 = some r) : Ap uS 84 [pD (.sl (p0.map Ar)), pD (.sl (p1.map Ar))] [] (iD r) := by
 unfold Cl at h
 refine cw (n := 46) (rs := [.tmp 4]) Tryz.func84 fun w0 S0 => ?_
 refine wq rfl (qa rfl (Ab (wp rfl (qe rfl ?_))))
 refine A1 (L := Ca N p0 p1) h (fun v1 => mk [(0, pD (.sl (p0.map Ar))), (1, pD (.sl (p1.map Ar))), (5, iD v1)] []) (fun v2 => mk [(0, pD (.sl (p0.map Ar))), (1, pD (.sl (p1.map Ar)))] []) (fun _ _ => rfl) (sm [] _ _ rfl rfl) (fun j1 n1 v1 h => ?_) (fun v2 s h hs => ?_)
 ·unfold Ca at h
  refine AQ ?_
  refine AJ h (fun v3 => mk [(0, pD (.sl (p0.map Ar))), (1, pD (.sl (p1.map Ar))), (5, iD v1), (15, bD v3)] []) (fun j3 h => ?_) (fun v3 h => ?_)
  ·refine Aj Aw rfl (qw 2 rfl (AF AB rfl (A2 rfl (qm rfl ?_))))
   refine CJ 10 h rfl (fun h => ?_) fun h => ?_
   ·refine qw 2 rfl (AF AB rfl (A2 rfl (qp rfl (Ab ?_))))
    exact sn [] h
   ·refine qw 4 rfl (qp rfl (Ab ?_))
    exact sn [] h
  ·refine Be h (fun h => ?_) fun h => ?_
   ·refine Ao (AQ (AP (wp rfl (qw 2 rfl ?_))))
    refine BP h fun v6 a6 b6 h => qi AB Cy a6 (Ah b6) rfl (qk A5 rfl (qw 2 rfl ?_))
    refine BP h fun v7 a7 b7 h => qi AB Cy a7 (Ah b7) rfl (qk A5 rfl (A2 rfl (AE (by kernel_rfl) ?_)))
    refine Be h (fun h => ?_) fun h => ?_
    ·refine wq rfl (qe rfl ?_)
     obtain rfl := sj h
     refine Ad (sm [] [(4, iD ((-1)))] [] rfl rfl) (Aq ?_)
     exact ⟨⟨[_], tm, rfl⟩, tv⟩
    ·refine Ao (wq rfl (qw 2 rfl ?_))
     refine BP h fun v9 a9 b9 h => qi AB Cy a9 (Ah b9) rfl (qk A5 rfl (qw 2 rfl ?_))
     refine BP h fun v10 a10 b10 h => qi AB Cy a10 (Ah b10) rfl (qk A5 rfl (DX rfl (AE (by kernel_rfl) ?_)))
     refine Be h (fun h => ?_) fun h => ?_
     ·refine wq rfl (qe rfl ?_)
      obtain rfl := sj h
      refine Ad (sm [] [(4, iD 1)] [] rfl rfl) (Aq ?_)
      exact ⟨⟨[_], tm, rfl⟩, tv⟩
     ·refine Ao (Aj Aw rfl (qm rfl (Cg rfl (qe rfl ?_))))
      exact sn [] h
   ·refine BT ?_
    exact sn [] h
 ·refine Ad hs (wp rfl (qm rfl (AF AB rfl (qm rfl (AF AB rfl (A2 rfl (Ab ?_)))))))
  refine Be h (fun h => ?_) fun h => ?_
  ·refine wq rfl (qe rfl ?_)
   obtain rfl := sj h
   refine Ad (sm [] [(4, iD ((-1)))] [] rfl rfl) (Aq ?_)
   exact ⟨⟨[_], tm, rfl⟩, tv⟩
  ·refine Ao (wp rfl (qm rfl (AF AB rfl (qm rfl (AF AB rfl (DX rfl (Ab ?_)))))))
   refine Be h (fun h => ?_) fun h => ?_
   ·refine wq rfl (qe rfl ?_)
    obtain rfl := sj h
    refine Ad (sm [] [(4, iD 1)] [] rfl rfl) (Aq ?_)
    exact ⟨⟨[_], tm, rfl⟩, tv⟩
   ·refine Ao (wq rfl (qe rfl ?_))
    obtain rfl := sj h
    refine Ad (sm [] [(4, iD 0)] [] rfl rfl) (Aq ?_)
    exact ⟨⟨[_], tm, rfl⟩, tv⟩
theorem FV (N : Nat) (p0 : List Int) (r : (List Int)) (h : Cc N p0 = some r) : Ap uS 85 [pD (.sl (p0.map C1))] [(1, r.map Ar)] (oD (.own 0)) := by
 unfold Cc at h
 refine cw (n := 20) (rs := [.tmp 2]) Tryz.func85 fun w0 S0 => ?_
 refine wq rfl (qa rfl (Ab (wq rfl (qa rfl (Ab (wp rfl (qe rfl ?_)))))))
 refine A1 (L := BV N p0) h (fun v1 => mk [(0, pD (.sl (p0.map C1))), (3, oD (.own 2001)), (4, iD v1.2)] [(2001, .vec 1 (v1.1.map Ar))]) (fun v2 => mk [(3, oD (.own 2002))] [(2002, .vec 1 (v2.map Ar))]) (fun _ _ => rfl) ((EP 3 2003 1 rfl rfl rfl).trans (sm [(2001, 2003)] _ _ rfl rfl)) (fun j1 n1 v1 h => ?_) (fun v2 s h hs => ?_)
 ·unfold BV at h
  refine wp rfl (qw 2 rfl (AF Dq rfl (A2 rfl (Ab ?_))))
  refine Be h (fun h => ?_) fun h => ?_
  ·refine Ao (AQ (AP (Aj Aw rfl (qw 3 rfl ?_))))
   refine BP h fun v4 a4 b4 h => qi Dq DF a4 (Ah b4) rfl (qk GZ rfl (Kj VK Wl rfl (Fg AB Cy ML rfl ?_)))
   refine Hz h fun c5 h => Ke (f := Ar) AB AB Cy Pi ML c5 rfl (qa rfl (Ab (Aj Aw rfl (qm rfl (Cg rfl (qe rfl ?_))))))
   exact sn [(2001, 18)] h
  ·refine BT ?_
   exact sn [(2002, 2001)] h
 ·refine Ad hs (wq rfl (qm rfl (qe rfl ?_)))
  obtain rfl := sj h
  refine Ad (sm [(1000, 2002)] [(2, oD (.own 1000))] [(1000, .vec 1 (v2.map Ar))] rfl rfl) (Aq ?_)
  exact ⟨⟨[_], tm, rfl⟩, ⟨rfl, tv⟩⟩
theorem Id (N : Nat) (p0 : Ac) (p1 : Ac) (r : Int) (h : CT N p0 p1 = some r) : Ap uS 42 [.e (.agg (A0 p0)), .e (.agg (A0 p1))] [] (iD r) := by
 unfold CT at h
 refine cw (n := 30) (rs := [.tmp 4]) Tryz.func42 fun w0 S0 => ?_
 refine wq rfl (qb rfl (qb rfl (qa rfl (Ab (wp rfl (qf CL rfl (ql Bc rfl (qf CL rfl (ql Bc rfl ?_)))))))))
 refine B1 h fun v1 a1 h => Av [] (Fh N p0.fh p1.fh v1 a1) T5 rfl (qa rfl (Ab (wq rfl (qm rfl (BD rfl (Ab ?_))))))
 refine Be h (fun h => ?_) fun h => ?_
 ·refine wq rfl (qm rfl (qe rfl ?_))
  obtain rfl := sj h
  refine Ad (sm [] [(4, iD v1)] [] rfl rfl) (Aq ?_)
  exact ⟨⟨[_], tm, rfl⟩, tv⟩
 ·refine Ao (wp rfl (qf BK rfl (ql Bc rfl (qf BK rfl (ql Bc rfl ?_)))))
  refine B1 h fun v3 a3 h => Av [] (Fh N p0.ff p1.ff v3 a3) T5 rfl (qa rfl (Ab (wq rfl (qm rfl (BD rfl (Ab ?_))))))
  refine Be h (fun h => ?_) fun h => ?_
  ·refine wq rfl (qm rfl (qe rfl ?_))
   obtain rfl := sj h
   refine Ad (sm [] [(4, iD v3)] [] rfl rfl) (Aq ?_)
   exact ⟨⟨[_], tm, rfl⟩, tv⟩
  ·refine Ao (wq rfl (qf Co rfl (ql Gx rfl ?_)))
   refine B1 h fun v5 a5 h => Av [2001] (FV N p0.fg v5 a5) UU rfl (qf Co rfl (ql Gx rfl ?_))
   refine B1 h fun v6 a6 h => Av [2002] (FV N p1.fg v6 a6) UU rfl ?_
   refine B1 h fun v7 a7 h => Hn [] [2001, 2002] (Fh N v5 v6 v7 a7) T5 Fr rfl (qa rfl (AE (by kernel_rfl) ?_))
   obtain rfl := sj h
   refine Ad (sm [] [(4, iD v7)] [] rfl rfl) (Aq ?_)
   exact ⟨⟨[_], tm, rfl⟩, tv⟩
theorem IV (N : Nat) (p0 : Ac) (p1 : Ac) (r : Bool) (h : BU N p0 p1 = some r) : Ap uS 18 [.e (.agg (A0 p0)), .e (.agg (A0 p1))] [] (bD r) := by
 unfold BU at h
 refine cw (n := 9) (rs := [.tmp 4]) Tryz.func18 fun w0 S0 => ?_
 refine wq rfl (qb rfl (qb rfl (qa rfl (Ab (wq rfl (qL BE AM rfl (qL BE AM rfl ?_)))))))
 refine B1 h fun v1 a1 h => Av [] (Id N p0 p1 v1 a1) WB rfl (AR rfl (qe rfl ?_))
 obtain rfl := sj h
 refine Ad (sm [] [(4, bD ((v1 == 0)))] [] rfl rfl) (Aq ?_)
 exact ⟨⟨[_], tm, rfl⟩, tv⟩
theorem HV (N : Nat) (p0 : B0) (r : Bool) (h : CI N p0 = some r) : Ap uS 4 [.e (.agg (Gp p0))] [] (bD r) := by
 unfold CI at h
 refine cw (n := 44) (rs := [.tmp 2]) Tryz.func4 fun w0 S0 => ?_
 refine wq rfl (qb rfl (qa rfl (Ab (AQ ?_))))
 refine AJ h (fun v1 => mk [(1, oD (.ptr 1 0)), (13, bD v1)] [(1, .box (Gp p0))]) (fun j1 h => ?_) (fun v1 h => ?_)
 ·refine Aj Aw rfl ?_
  refine B1 h fun v2 a2 h => Av [] (GD N v2 a2) VG rfl (Ch rfl (qm rfl ?_))
  refine CJ 9 h rfl (fun h => ?_) fun h => ?_
  ·refine qw 3 rfl (qp rfl (Ab ?_))
   exact sn [] h
  ·refine qL We WH rfl ?_
   refine B1 h fun v4 a4 h => Av [] (JG N ((B0.mk ((Aa.mk p0.fc.fb p0.fc.fk p0.fc.fo p0.fc.fd)) p0.fO p0.fq p0.fN)) v4 a4) Wk rfl (Ch rfl (qp rfl (Ab ?_)))
   exact sn [] h
 ·refine Be h (fun h => ?_) fun h => ?_
  ·refine wq rfl ?_
   refine B1 h fun v6 a6 h => Av [] (GD N v6 a6) VG rfl (qe rfl ?_)
   obtain rfl := sj h
   refine Ad (sm [] [(2, bD v6)] [] rfl rfl) (Aq ?_)
   exact ⟨⟨[_], tm, rfl⟩, tv⟩
  ·refine Ao (wq rfl (qf NJ rfl (qL DI DD rfl (qf Nv rfl (ql Qe rfl (qf M4 rfl (ql Up rfl ?_)))))))
   refine B1 h fun v7 a7 h => Av [] ((Fj N p0.fN v7 a7).share rfl) Wp rfl ?_
   refine B1 h fun v8 a8 h => Av [] (KK N ((Aa.mk p0.fc.fb p0.fc.fk p0.fc.fo p0.fc.fd)) p0.fq v7 v8 a8) VP rfl (qm rfl (qx rfl (qx rfl (qz CO rfl (qs AM rfl (qa rfl (AE (by kernel_rfl) (wq rfl (qf NJ rfl (qL DI DD rfl (qf Nv rfl (ql Qe rfl (qf M4 rfl (ql Up rfl ?_))))))))))))))
   refine B1 h fun v9 a9 h => Av [] (J0 N ((Aa.mk p0.fc.fb p0.fc.fk p0.fc.fo p0.fc.fd)) p0.fq p0.fN v9 a9) Wm rfl (qm rfl (qx rfl (qx rfl (qz CO rfl (qs AM rfl (qe rfl ?_))))))
   refine AJ h (fun v10 => mk [(2, bD v10)] []) (fun j10 h => ?_) (fun v10 h => ?_)
   ·refine Aj Aw rfl (qw 2 rfl (AR rfl (qm rfl ?_)))
    refine CJ 39 h rfl (fun h => ?_) fun h => ?_
    ·refine qL BE AM rfl (qL BE AM rfl ?_)
     refine B1 h fun v12 a12 h => Av [] (IV N v8.1 v9.1 v12 a12) Wt rfl (qp rfl (qe rfl ?_))
     exact sn [] h
    ·refine qw 3 rfl (qp rfl (qe rfl ?_))
     exact sn [] h
   ·obtain rfl := sj h
    refine Ad (sm [] [(2, bD v10)] [] rfl rfl) (Aq ?_)
    exact ⟨⟨[_], tm, rfl⟩, tv⟩
end Go.Lift
