/- Lemmas for AuditSpoiledCardSaid, which YtfgobbnahihlfaaGreatDoorFinA10 proves. -/
import Derived.Test.YtfgobbnahihlfaaGreatDoorCode2
open List renaming map_eq_nil_iff → zI4
open Go.Proofs.Tryz renaming prog → zA0
namespace Go.Lift
set_option maxRecDepth 10000
open Go.RowKit
open Go.Proofs
theorem J4 (N : Nat) (p0 : BB) (r : Bool) (h : Cj N p0 = some r) : Ar zA0 12 [.e (.agg (C6 p0))] [] (bD r) := by
 unfold Cj at h
 refine cw (n := 24) (rs := [.tmp 2]) Tryz.func12 fun w0 S0 => ?_
 refine wq rfl (qb rfl (qe rfl ?_))
 refine AK h (fun v1 => mk [(2, bD v1)] []) (fun j1 h => ?_) (fun v1 h => ?_)
 ·refine Ak Ax rfl (qf Kd rfl (qL D2 D0 rfl ?_))
  refine Cg h fun v2 a2 h => Ay [] (J2 N ((Aa.mk p0.fb.fc p0.fb.fk p0.fb.fp p0.fb.fd)) v2 a2) Xt rfl (qm rfl ?_)
  refine CS 6 h rfl (fun h => ?_) fun h => ?_
  ·refine qf JT rfl (ql Bi rfl (AG AC rfl (MQ rfl (qp rfl (qm rfl ?_)))))
   refine CS 12 h rfl (fun h => ?_) fun h => ?_
   ·refine qf J6 rfl (ql Pj rfl (AG Hi rfl (MQ rfl (qp rfl (qm rfl ?_)))))
    refine CS 18 h rfl (fun h => ?_) fun h => ?_
    ·refine qf GU rfl (ql Np rfl (AG Dz rfl (MQ rfl (qp rfl (qe rfl ?_)))))
     exact sn [] h
    ·refine qw 4 rfl (qp rfl (qe rfl ?_))
     exact sn [] h
   ·refine qw 4 rfl (qp rfl (qw 5 rfl (qp rfl (qe rfl ?_))))
    exact sn [] h
  ·refine qw 4 rfl (qp rfl (qw 5 rfl (qp rfl (qw 5 rfl (qp rfl (qe rfl ?_))))))
   exact sn [] h
 ·obtain rfl := sj h
  refine Ag (sm [] [(2, bD v1)] [] rfl rfl) (As ?_)
  exact ⟨⟨[_], tm, rfl⟩, tv⟩
theorem Ck (N : Nat) (p0 : AI) (r : Bool) (h : A5 N p0 = some r) : Ar zA0 56 [.e (.agg (CG p0))] [] (bD r) := by
 unfold A5 at h
 refine cw (n := 11) (rs := [.tmp 2]) Tryz.func56 fun w0 S0 => ?_
 refine wq rfl (qb rfl (qe rfl ?_))
 refine AK h (fun v1 => mk [(2, bD v1)] []) (fun j1 h => ?_) (fun v1 h => ?_)
 ·refine Ak Ax rfl (qf DZ rfl (ql Bg rfl (AN rfl (qm rfl ?_))))
  refine CS 6 h rfl (fun h => ?_) fun h => ?_
  ·refine qw 3 rfl (qp rfl (qe rfl ?_))
   exact sn [] h
  ·refine qf DZ rfl (ql Bg rfl (AN rfl (qp rfl (qe rfl ?_))))
   exact sn [] h
 ·obtain rfl := sj h
  refine Ag (sm [] [(2, bD v1)] [] rfl rfl) (As ?_)
  exact ⟨⟨[_], tm, rfl⟩, tv⟩
theorem Gs (N : Nat) (p0 : List (List Bool)) (p1 : Int) (p2 : Int) (r : Bool) (h : Cy N p0 p1 p2 = some r) : Ar zA0 143 [pD (.sl (p0.map (Li eB))), iD p1, iD p2] [] (bD r) := by
 unfold Cy at h
 refine cw (n := 24) (rs := [.tmp 6]) Tryz.func143 fun w0 S0 => ?_
 refine wq rfl (qa rfl (Ac (wp rfl (qm rfl (AG D6 rfl (qm rfl (BJ rfl (Ac ?_))))))))
 refine Bp h (fun h => ?_) fun h => ?_
 ·refine wq rfl (qe rfl ?_)
  obtain rfl := sj h
  refine Ag (sm [] [(6, bD false)] [] rfl rfl) (As ?_)
  exact ⟨⟨[_], tm, rfl⟩, tv⟩
 ·refine Aq (wp rfl (qe rfl ?_))
  refine Ba (L := BM N p0 p1 p2) h (fun v2 => mk [(0, pD (.sl (p0.map (Li eB)))), (1, iD p1), (2, iD p2), (7, iD v2)] []) (fun v3 => mk [] []) (fun _ _ => rfl) (sm [] _ _ rfl rfl) (fun j2 n2 v2 h => ?_) (fun v3 s h hs => ?_)
  ·unfold BM at h
   refine wp rfl (qw 2 rfl (Bc rfl (Ac ?_)))
   refine Bp h (fun h => ?_) fun h => ?_
   ·refine Aq (AP (AQ (wq rfl (qw 2 rfl ?_))))
    refine BW h fun v5 a5 b5 h => qi D6 J1 a5 (Ai b5) rfl (qk JX rfl (AG H9 rfl (qm rfl (BJ rfl (Ac ?_)))))
    refine Bp h (fun h => ?_) fun h => ?_
    ·refine wq rfl (qe rfl ?_)
     obtain rfl := sj h
     refine Ag (sm [] [(6, bD false)] [] rfl rfl) (As ?_)
     exact ⟨⟨[_], tm, rfl⟩, tv⟩
    ·refine Aq (Ak Ax rfl (qm rfl (CB rfl (qe rfl ?_))))
     exact sn [] h
   ·refine B1 ?_
    exact sn [] h
  ·refine Ag hs (wq rfl (qe rfl ?_))
   obtain rfl := sj h
   refine Ag (sm [] [(6, bD true)] [] rfl rfl) (As ?_)
   exact ⟨⟨[_], tm, rfl⟩, tv⟩
theorem Je (N : Nat) (p0 : Aa) (p1 : AI) (r : Int) (h : Dq N p0 p1 = some r) : Ar zA0 101 [.e (.agg (Am p0)), .e (.agg (CG p1))] [] (iD r) := by
 unfold Dq at h
 refine cw (n := 101) (rs := [.tmp 4]) Tryz.func101 fun w0 S0 => ?_
 refine wq rfl (qb rfl (qb rfl (qa rfl (Ac (AP ?_)))))
 refine AK h (fun v1 => mk [(2, oD (.ptr 2 0)), (3, oD (.ptr 3 0)), (22, bD v1)] [(2, .box (Am p0)), (3, .box (CG p1))]) (fun j1 h => ?_) (fun v1 h => ?_)
 ·refine Ak Ax rfl (qf DZ rfl (ql Bg rfl (Bc rfl (qm rfl ?_))))
  refine CS 10 h rfl (fun h => ?_) fun h => ?_
  ·refine qw 3 rfl (qp rfl (qw 4 rfl (qu rfl (qu rfl (qn rfl (qp rfl (Ac ?_)))))))
   exact sn [] h
  ·refine qf DZ rfl (ql Bg rfl (Ei rfl (qp rfl (qm rfl ?_))))
   refine CS 15 h rfl (fun h => ?_) fun h => ?_
   ·refine qw 3 rfl (qu rfl (qu rfl (qn rfl (qp rfl (Ac ?_)))))
    exact sn [] h
   ·refine qf Pk rfl (ql Ul rfl (qm rfl ?_))
    refine CS 18 h rfl (fun h => ?_) fun h => ?_
    ·refine qL E8 B4 rfl ?_
     refine Cg h fun v5 a5 h => Ay [] (Ck N p1 v5 a5) Pw rfl (qp rfl (qp rfl (Ac ?_)))
     exact sn [] h
    ·refine qw 2 rfl (qp rfl (qp rfl (Ac ?_)))
     exact sn [] h
 ·refine Bp h (fun h => ?_) fun h => ?_
  ·refine wq rfl (qe rfl ?_)
   obtain rfl := sj h
   refine Ag (sm [] [(4, iD 1)] [] rfl rfl) (As ?_)
   exact ⟨⟨[_], tm, rfl⟩, tv⟩
  ·refine Aq (wq rfl (qf BI rfl (ql Bi rfl (AG AC rfl (qa rfl (Ac (AP ?_)))))))
   refine AK h (fun v7 => mk [(2, oD (.ptr 2 0)), (3, oD (.ptr 3 0)), (45, bD v7)] [(2, .box (Am p0)), (3, .box (CG p1))]) (fun j7 h => ?_) (fun v7 h => ?_)
   ·refine Ak Ax rfl (qf Cp rfl (ql Bg rfl (Bc rfl (qm rfl ?_))))
    refine CS 29 h rfl (fun h => ?_) fun h => ?_
    ·refine qw 4 rfl (qp rfl (qw 4 rfl (qp rfl (qw 5 rfl (qp rfl (Ac ?_))))))
     exact sn [] h
    ·refine qf Cp rfl (ql Bg rfl (qm rfl (DO rfl (qp rfl (qm rfl ?_)))))
     refine CS 35 h rfl (fun h => ?_) fun h => ?_
     ·refine qw 3 rfl (qp rfl (qw 5 rfl (qp rfl (Ac ?_))))
      exact sn [] h
     ·refine qf G4 rfl (ql Bg rfl (Bc rfl (qp rfl (qm rfl ?_))))
      refine CS 40 h rfl (fun h => ?_) fun h => ?_
      ·refine qw 4 rfl (qp rfl (Ac ?_))
       exact sn [] h
      ·refine qf G4 rfl (ql Bg rfl (qm rfl (DO rfl (qp rfl (Ac ?_)))))
       exact sn [] h
   ·refine Bp h (fun h => ?_) fun h => ?_
    ·refine wq rfl (qe rfl ?_)
     obtain rfl := sj h
     refine Ag (sm [] [(4, iD 4)] [] rfl rfl) (As ?_)
     exact ⟨⟨[_], tm, rfl⟩, tv⟩
    ·refine Aq (wp rfl (qf Hk rfl (ql Fq rfl (qf BI rfl (ql Bi rfl (qf Cp rfl (ql Bg rfl ?_)))))))
     refine BW h fun v12 a12 b12 h => qi AC CU a12 (Ai b12) rfl (qk Bg rfl (qf BI rfl (ql Bi rfl (qf G4 rfl (ql Bg rfl ?_)))))
     refine BW h fun v13 a13 b13 h => qi AC CU a13 (Ai b13) rfl (qk Bg rfl ?_)
     refine Cg h fun v14 a14 h => Ay [] (Gs N p1.fD v12 v13 v14 a14) Ub rfl (CM rfl (AH (by kernel_rfl) ?_))
     refine Bp h (fun h => ?_) fun h => ?_
     ·refine wq rfl (qe rfl ?_)
      obtain rfl := sj h
      refine Ag (sm [] [(4, iD 6)] [] rfl rfl) (As ?_)
      exact ⟨⟨[_], tm, rfl⟩, tv⟩
     ·refine Aq (wp rfl (qf DZ rfl (ql Bg rfl (BJ rfl (Ac ?_)))))
      refine Bp h (fun h => ?_) fun h => ?_
      ·refine wp rfl (qf Ec rfl (ql Fq rfl (AG D6 rfl (BJ rfl (Ac ?_)))))
       refine Bp h (fun h => ?_) fun h => ?_
       ·refine wq rfl (qe rfl ?_)
        obtain rfl := sj h
        refine Ag (sm [] [(4, iD 6)] [] rfl rfl) (As ?_)
        exact ⟨⟨[_], tm, rfl⟩, tv⟩
       ·refine Aq (wq rfl (qe rfl ?_))
        obtain rfl := sj h
        refine Ag (sm [] [(4, iD 0)] [] rfl rfl) (As ?_)
        exact ⟨⟨[_], tm, rfl⟩, tv⟩
      ·refine Aq (wp rfl (qf Ec rfl (ql Fq rfl (qf BI rfl (ql Bi rfl (qf Cp rfl (ql Bg rfl ?_)))))))
       refine BW h fun v18 a18 b18 h => qi AC CU a18 (Ai b18) rfl (qk Bg rfl (qf BI rfl (ql Bi rfl (qf Cp rfl (ql Bg rfl ?_)))))
       refine BW h fun v19 a19 b19 h => qi AC CU a19 (Ai b19) rfl (qk Bg rfl ?_)
       refine Cg h fun v20 a20 h => Ay [] (Gs N p1.fv v18 v19 v20 a20) Ub rfl (CM rfl (AH (by kernel_rfl) ?_))
       refine Bp h (fun h => ?_) fun h => ?_
       ·refine wq rfl (qe rfl ?_)
        obtain rfl := sj h
        refine Ag (sm [] [(4, iD 6)] [] rfl rfl) (As ?_)
        exact ⟨⟨[_], tm, rfl⟩, tv⟩
       ·refine Aq (wp rfl (qe rfl ?_))
        refine Ba (L := By N p1) h (fun v22 => mk [(3, oD (.ptr 3 0)), (6, iD v22)] [(3, .box (CG p1))]) (fun v23 => mk [] []) (fun _ _ => rfl) (sm [] _ _ rfl rfl) (fun j22 n22 v22 h => ?_) (fun v23 s h hs => ?_)
        ·unfold By at h
         refine wp rfl (qm rfl (qf Ec rfl (ql Fq rfl (AG D6 rfl (Bc rfl (Ac ?_))))))
         refine Bp h (fun h => ?_) fun h => ?_
         ·refine Aq (AP (AQ (wq rfl (qf Ec rfl (ql Fq rfl (qm rfl ?_))))))
          refine BW h fun v25 a25 b25 h => qi D6 J1 a25 (Ai b25) rfl (qk JX rfl (qm rfl ?_))
          refine BW h fun v26 a26 b26 h => qi H9 Ve a26 (Ai b26) rfl (qk Ul rfl (CM rfl (Ac ?_)))
          refine Bp h (fun h => ?_) fun h => ?_
          ·refine wq rfl (qe rfl ?_)
           obtain rfl := sj h
           refine Ag (sm [] [(4, iD 1)] [] rfl rfl) (As ?_)
           exact ⟨⟨[_], tm, rfl⟩, tv⟩
          ·refine Aq (Ak Ax rfl (qm rfl (CB rfl (qe rfl ?_))))
           exact sn [] h
         ·refine B1 ?_
          exact sn [] h
        ·refine Ag hs (wq rfl (qe rfl ?_))
         obtain rfl := sj h
         refine Ag (sm [] [(4, iD 0)] [] rfl rfl) (As ?_)
         exact ⟨⟨[_], tm, rfl⟩, tv⟩
theorem DY (N : Nat) (p0 : Aa) (r : Int) (h : Bu N p0 = some r) : Ar zA0 55 [.e (.agg (Am p0))] [] (iD r) := by
 unfold Bu at h
 refine cw (n := 102) (rs := [.tmp 2]) Tryz.func55 fun w0 S0 => ?_
 refine wq rfl (qb rfl (qa rfl (Ac (AP ?_))))
 refine AK h (fun v1 => mk [(1, oD (.ptr 1 0)), (16, bD v1)] [(1, .box (Am p0))]) (fun j1 h => ?_) (fun v1 h => ?_)
 ·refine Ak Ax rfl (qf BI rfl (ql Bi rfl (AG AC rfl (Ei rfl (qm rfl ?_)))))
  refine CS 11 h rfl (fun h => ?_) fun h => ?_
  ·refine qw 4 rfl (qp rfl (Ac ?_))
   exact sn [] h
  ·refine qf BO rfl (ql Fb rfl (AG Da rfl (Ei rfl (qp rfl (Ac ?_)))))
   exact sn [] h
 ·refine Bp h (fun h => ?_) fun h => ?_
  ·refine wq rfl (qe rfl ?_)
   obtain rfl := sj h
   refine Ag (sm [] [(2, iD 3)] [] rfl rfl) (As ?_)
   exact ⟨⟨[_], tm, rfl⟩, tv⟩
  ·refine Aq (AP ?_)
   refine AK h (fun v4 => mk [(1, oD (.ptr 1 0)), (32, bD v4)] [(1, .box (Am p0))]) (fun j4 h => ?_) (fun v4 h => ?_)
   ·refine Ak Ax rfl (qf FV rfl (ql Bi rfl (AG AC rfl (qf BI rfl (ql Bi rfl (AG AC rfl (BJ rfl (qm rfl ?_))))))))
    refine CS 24 h rfl (fun h => ?_) fun h => ?_
    ·refine qw 7 rfl (qp rfl (Ac ?_))
     exact sn [] h
    ·refine qf IY rfl (ql Bi rfl (AG AC rfl (qf BI rfl (ql Bi rfl (AG AC rfl (BJ rfl (qp rfl (Ac ?_))))))))
     exact sn [] h
   ·refine Bp h (fun h => ?_) fun h => ?_
    ·refine wq rfl (qe rfl ?_)
     obtain rfl := sj h
     refine Ag (sm [] [(2, iD 6)] [] rfl rfl) (As ?_)
     exact ⟨⟨[_], tm, rfl⟩, tv⟩
    ·refine Aq (wp rfl (qe rfl ?_))
     refine Ba (L := AY N p0) h (fun v7 => mk [(1, oD (.ptr 1 0)), (3, iD v7)] [(1, .box (Am p0))]) (fun v8 => mk [(1, oD (.ptr 1 0))] [(1, .box (Am p0))]) (fun _ _ => rfl) (sm [] _ _ rfl rfl) (fun j7 n7 v7 h => ?_) (fun v8 s h hs => ?_)
     ·unfold AY at h
      refine wp rfl (qm rfl (qf BI rfl (ql Bi rfl (AG AC rfl (Bc rfl (Ac ?_))))))
      refine Bp h (fun h => ?_) fun h => ?_
      ·refine Aq (AP (AQ (wq rfl (qf BI rfl (ql Bi rfl (qm rfl ?_))))))
       refine BW h fun v10 a10 b10 h => qi AC CU a10 (Ai b10) rfl (qk Bg rfl (qe rfl ?_))
       refine AK h (fun v11 => mk [(1, oD (.ptr 1 0)), (3, iD v7), (84, bD v11)] [(1, .box (Am p0))]) (fun j11 h => ?_) (fun v11 h => ?_)
       ·refine Ak Ax rfl (qm rfl (Bc rfl (qm rfl ?_)))
        refine CS 47 h rfl (fun h => ?_) fun h => ?_
        ·refine qw 2 rfl (qp rfl (qw 7 rfl (qp rfl (qw 8 rfl (qp rfl (qw 7 rfl (qp rfl (qw 8 rfl (qp rfl (Ac ?_))))))))))
         exact sn [] h
        ·refine qm rfl (Ei rfl (qp rfl (qm rfl ?_)))
         refine CS 51 h rfl (fun h => ?_) fun h => ?_
         ·refine qw 6 rfl (qp rfl (qw 8 rfl (qp rfl (qw 7 rfl (qp rfl (qw 8 rfl (qp rfl (Ac ?_))))))))
          exact sn [] h
         ·refine qf FV rfl (ql Bi rfl (qm rfl ?_))
          refine BW h fun v14 a14 b14 h => qi AC CU a14 (Ai b14) rfl (qk Bg rfl (Bc rfl (qp rfl (qm rfl ?_))))
          refine CS 59 h rfl (fun h => ?_) fun h => ?_
          ·refine qw 7 rfl (qp rfl (qw 7 rfl (qp rfl (qw 8 rfl (qp rfl (Ac ?_))))))
           exact sn [] h
          ·refine qf FV rfl (ql Bi rfl (qm rfl ?_))
           refine BW h fun v16 a16 b16 h => qi AC CU a16 (Ai b16) rfl (qk Bg rfl (qm rfl (DO rfl (qp rfl (qm rfl ?_)))))
           refine CS 68 h rfl (fun h => ?_) fun h => ?_
           ·refine qw 6 rfl (qp rfl (qw 8 rfl (qp rfl (Ac ?_))))
            exact sn [] h
           ·refine qf IY rfl (ql Bi rfl (qm rfl ?_))
            refine BW h fun v18 a18 b18 h => qi AC CU a18 (Ai b18) rfl (qk Bg rfl (Bc rfl (qp rfl (qm rfl ?_))))
            refine CS 76 h rfl (fun h => ?_) fun h => ?_
            ·refine qw 7 rfl (qp rfl (Ac ?_))
             exact sn [] h
            ·refine qf IY rfl (ql Bi rfl (qm rfl ?_))
             refine BW h fun v20 a20 b20 h => qi AC CU a20 (Ai b20) rfl (qk Bg rfl (qm rfl (DO rfl (qp rfl (Ac ?_)))))
             exact sn [] h
       ·refine Bp h (fun h => ?_) fun h => ?_
        ·refine wq rfl (qe rfl ?_)
         obtain rfl := sj h
         refine Ag (sm [] [(2, iD 7)] [] rfl rfl) (As ?_)
         exact ⟨⟨[_], tm, rfl⟩, tv⟩
        ·refine Aq (Ak Ax rfl (qm rfl (CB rfl (qe rfl ?_))))
         exact sn [] h
      ·refine B1 ?_
       exact sn [] h
     ·refine Ag hs (wp rfl (qe rfl ?_))
      refine Ba (L := AT N p0) h (fun v22 => mk [(1, oD (.ptr 1 0)), (5, iD v22)] [(1, .box (Am p0))]) (fun v23 => mk [] []) (fun _ _ => rfl) (sm [] _ _ rfl rfl) (fun j22 n22 v22 h => ?_) (fun v23 s h hs => ?_)
      ·unfold AT at h
       refine wp rfl (qm rfl (qf BO rfl (ql Fb rfl (AG Da rfl (Bc rfl (Ac ?_))))))
       refine Bp h (fun h => ?_) fun h => ?_
       ·refine Aq (AP (AQ (wq rfl (qL D2 D0 rfl (qf BO rfl (ql Fb rfl (qm rfl ?_)))))))
        refine BW h fun v25 a25 b25 h => qi Da B4 a25 (Ai b25) rfl (qK E8 B4 rfl ?_)
        refine Cg h fun v26 a26 h => Ay [] (Je N p0 v25 v26 a26) Wb rfl (qa rfl (AH (by kernel_rfl) (wq rfl (qm rfl (BJ rfl (Ac ?_))))))
        refine Bp h (fun h => ?_) fun h => ?_
        ·refine wq rfl (qm rfl (qe rfl ?_))
         obtain rfl := sj h
         refine Ag (sm [] [(2, iD v26)] [] rfl rfl) (As ?_)
         exact ⟨⟨[_], tm, rfl⟩, tv⟩
        ·refine Aq (Ak Ax rfl (qm rfl (CB rfl (qe rfl ?_))))
         exact sn [] h
       ·refine B1 ?_
        exact sn [] h
      ·refine Ag hs (wq rfl (qe rfl ?_))
       obtain rfl := sj h
       refine Ag (sm [] [(2, iD 0)] [] rfl rfl) (As ?_)
       exact ⟨⟨[_], tm, rfl⟩, tv⟩
theorem Ik (N : Nat) (p0 : Aa) (p1 : List Int) (r : Int) (h : CY N p0 p1 = some r) : Ar zA0 58 [.e (.agg (Am p0)), pD (.sl (p1.map Au))] [] (iD r) := by
 unfold CY at h
 refine cw (n := 36) (rs := [.tmp 4]) Tryz.func58 fun w0 S0 => ?_
 refine wq rfl (qb rfl (qa rfl (Ac (wp rfl (qL D2 D0 rfl ?_)))))
 refine Cg h fun v1 a1 h => Ay [] (DY N p0 v1 a1) UD rfl (qa rfl (Ac (wq rfl (qm rfl (BJ rfl (Ac ?_))))))
 refine Bp h (fun h => ?_) fun h => ?_
 ·refine wq rfl (qm rfl (qe rfl ?_))
  obtain rfl := sj h
  refine Ag (sm [] [(4, iD v1)] [] rfl rfl) (As ?_)
  exact ⟨⟨[_], tm, rfl⟩, tv⟩
 ·refine Aq (wp rfl (qm rfl (AG AC rfl (qf BI rfl (ql Bi rfl (AG AC rfl (BJ rfl (Ac ?_))))))))
  refine Bp h (fun h => ?_) fun h => ?_
  ·refine wq rfl (qe rfl ?_)
   obtain rfl := sj h
   refine Ag (sm [] [(4, iD 6)] [] rfl rfl) (As ?_)
   exact ⟨⟨[_], tm, rfl⟩, tv⟩
  ·refine Aq (wp rfl (qe rfl ?_))
   refine Ba (L := BZ N p1) h (fun v4 => mk [(1, pD (.sl (p1.map Au))), (6, iD v4)] []) (fun v5 => mk [] []) (fun _ _ => rfl) (sm [] _ _ rfl rfl) (fun j4 n4 v4 h => ?_) (fun v5 s h hs => ?_)
   ·unfold BZ at h
    refine wp rfl (qw 2 rfl (AG AC rfl (Bc rfl (Ac ?_))))
    refine Bp h (fun h => ?_) fun h => ?_
    ·refine Aq (AP (AQ ?_))
     refine AK h (fun v7 => mk [(1, pD (.sl (p1.map Au))), (6, iD v4), (35, bD v7)] []) (fun j7 h => ?_) (fun v7 h => ?_)
     ·refine Ak Ax rfl (qw 2 rfl ?_)
      refine BW h fun v8 a8 b8 h => qi AC CU a8 (Ai b8) rfl (qk Bg rfl (Bc rfl (qm rfl ?_)))
      refine CS 29 h rfl (fun h => ?_) fun h => ?_
      ·refine qw 5 rfl (qp rfl (Ac ?_))
       exact sn [] h
      ·refine qw 2 rfl ?_
       refine BW h fun v10 a10 b10 h => qi AC CU a10 (Ai b10) rfl (qk Bg rfl (Ei rfl (qp rfl (Ac ?_))))
       exact sn [] h
     ·refine Bp h (fun h => ?_) fun h => ?_
      ·refine wq rfl (qe rfl ?_)
       obtain rfl := sj h
       refine Ag (sm [] [(4, iD 7)] [] rfl rfl) (As ?_)
       exact ⟨⟨[_], tm, rfl⟩, tv⟩
      ·refine Aq (Ak Ax rfl (qm rfl (CB rfl (qe rfl ?_))))
       exact sn [] h
    ·refine B1 ?_
     exact sn [] h
   ·refine Ag hs (wq rfl (qe rfl ?_))
    obtain rfl := sj h
    refine Ag (sm [] [(4, iD 0)] [] rfl rfl) (As ?_)
    exact ⟨⟨[_], tm, rfl⟩, tv⟩
theorem Jf (N : Nat) (p0 : Aa) (r : Ae × Int) (h : DB N p0 = some r) : Ar zA0 74 [.e (.agg (Am p0))] [(1, r.1.fh.map Au), (1, r.1.fe.map Au), (1, r.1.ff.map DL)] (.tup [.agg [.own 0, .own 1, .own 2], .one (iC r.2)]) := by
 unfold DB at h
 refine cw (n := 68) (rs := [.cell 2 40, .tmp 3]) Tryz.func74 fun w0 S0 => ?_
 refine wq rfl (qb rfl (qz Do rfl (qa rfl (Ac (wp rfl (qL D2 D0 rfl ?_))))))
 refine Cg h fun v1 a1 h => Ay [] (DY N p0 v1 a1) UD rfl (qa rfl (Ac (wq rfl (qm rfl (BJ rfl (Ac ?_))))))
 refine Bp h (fun h => ?_) fun h => ?_
 ·refine wq rfl (BD Do GP rfl (qm rfl (qs AS rfl (qe rfl ?_))))
  obtain rfl := sj h
  refine Ag ((Av 2 0 2001 1 _ rfl rfl rfl rfl).trans ((Av 2 1 2002 1 _ rfl rfl rfl rfl).trans ((Av 2 2 2003 1 _ rfl rfl rfl rfl).trans (sm [(1000, 2001), (1001, 2002), (1002, 2003)] [(2, oD (.ptr 2 0)), (3, iD v1)] [(2, .box [.own 1000, .own 1001, .own 1002]), (1000, .vec 1 ((([] : List Int)).map Au)), (1001, .vec 1 ((([] : List Int)).map Au)), (1002, .vec 1 ((([] : List Int)).map DL))] rfl rfl)))) (As ?_)
  exact ⟨⟨[_, _], ⟨.cellN _ _ _ _ _ _ _ rfl rfl B8 AS rfl rfl (Io rfl), tm⟩, rfl⟩, ⟨rfl, rfl, rfl, tv⟩⟩
 ·refine Aq (wq rfl (qz Do rfl (Ac (wp rfl (qe rfl ?_)))))
  refine Ba (L := BG N p0) h (fun v3 => mk [(1, oD (.ptr 1 0)), (2, oD (.ptr 2 0)), (5, oD (.ptr 5 0)), (6, iD v3.2.2)] [(1, .box (Am p0)), (2, .box [.pure (.nil0), .pure (.nil0), .pure (.nil0)]), (5, .box [.own 2004, .own 2005, .pure (.nil0)]), (2004, .vec 1 (v3.1.map Au)), (2005, .vec 1 (v3.2.1.map Au))]) (fun v4 => mk [(1, oD (.ptr 1 0)), (2, oD (.ptr 2 0)), (5, oD (.ptr 5 0))] [(1, .box (Am p0)), (2, .box [.pure (.nil0), .pure (.nil0), .pure (.nil0)]), (5, .box [.own 2006, .own 2007, .pure (.nil0)]), (2006, .vec 1 (v4.1.map Au)), (2007, .vec 1 (v4.2.map Au))]) (fun _ _ => rfl) ((Av 5 0 2008 1 _ rfl rfl rfl rfl).trans ((Av 5 1 2009 1 _ rfl rfl rfl rfl).trans (sm [(2004, 2008), (2005, 2009)] _ _ rfl rfl))) (fun j3 n3 v3 h => ?_) (fun v4 s h hs => ?_)
  ·unfold BG at h
   refine wp rfl (qm rfl (qf BI rfl (ql Bi rfl (AG AC rfl (Bc rfl (Ac ?_))))))
   refine Bp h (fun h => ?_) fun h => ?_
   ·refine Aq (AP (AQ (wq rfl (qf Dc rfl (ql Bi rfl (qf FV rfl (ql Bi rfl (qm rfl ?_))))))))
    refine BW h fun v6 a6 b6 h => qi AC CU a6 (Ai b6) rfl (qk Bg rfl (Fm AC CU Ok rfl ?_))
    refine HH h fun c7 h => Kr (f := Au) AC AC CU QY Ok c7 rfl (qf Dc rfl (qs VT rfl (AH (by kernel_rfl) (Ak Ax rfl (qf BX rfl (ql Bi rfl (Fm AC CU Ok rfl ?_)))))))
    refine HH h fun c8 h => Kr (f := Au) AC AC CU QY Ok c8 rfl (qf BX rfl (qs VT rfl (Ac (Ak Ax rfl (qm rfl (CB rfl (qe rfl ?_)))))))
    exact sn [(2004, 30), (2005, 35)] h
   ·refine B1 ?_
    exact sn [(2006, 2004), (2007, 2005)] h
  ·refine Ag hs (wp rfl (qe rfl ?_))
   refine Ba (L := AZ N p0) h (fun v9 => mk [(1, oD (.ptr 1 0)), (2, oD (.ptr 2 0)), (5, oD (.ptr 5 0)), (7, iD v9.2)] [(1, .box (Am p0)), (2, .box [.pure (.nil0), .pure (.nil0), .pure (.nil0)]), (5, .box [.own 2010, .own 2011, .own 2012]), (2010, .vec 1 (v4.1.map Au)), (2011, .vec 1 (v4.2.map Au)), (2012, .vec 1 (v9.1.map DL))]) (fun v10 => mk [(2, oD (.ptr 2 0)), (5, oD (.ptr 5 0))] [(2, .box [.pure (.nil0), .pure (.nil0), .pure (.nil0)]), (5, .box [.own 2013, .own 2014, .own 2015]), (2013, .vec 1 (v4.1.map Au)), (2014, .vec 1 (v4.2.map Au)), (2015, .vec 1 (v10.map DL))]) (fun _ _ => rfl) ((Av 5 2 2019 1 _ rfl rfl rfl rfl).trans (sm [(2010, 2006), (2011, 2007), (2012, 2019)] _ _ rfl rfl)) (fun j9 n9 v9 h => ?_) (fun v10 s h hs => ?_)
   ·unfold AZ at h
    refine wp rfl (qm rfl (qf BO rfl (ql Fb rfl (AG Da rfl (Bc rfl (Ac ?_))))))
    refine Bp h (fun h => ?_) fun h => ?_
    ·refine Aq (AP (AQ (wq rfl (qe rfl ?_))))
     refine AK h (fun v12 => mk [(1, oD (.ptr 1 0)), (2, oD (.ptr 2 0)), (5, oD (.ptr 5 0)), (7, iD v9.2), (8, pD (.val (.int .u8 v12)))] [(1, .box (Am p0)), (2, .box [.pure (.nil0), .pure (.nil0), .pure (.nil0)]), (5, .box [.own 2016, .own 2017, .own 2018]), (2016, .vec 1 (v4.1.map Au)), (2017, .vec 1 (v4.2.map Au)), (2018, .vec 1 (v9.1.map DL))]) (fun j12 h => ?_) (fun v12 h => ?_)
     ·refine wq rfl (qf BO rfl (ql Fb rfl (qm rfl ?_)))
      refine BW h fun v13 a13 b13 h => qi Da B4 a13 (Ai b13) rfl (qK E8 B4 rfl ?_)
      refine Cg h fun v14 a14 h => Ay [] (Ck N v13 v14 a14) Pw rfl (Ac ?_)
      refine Bp h (fun h => ?_) fun h => ?_
      ·refine Ak Ax rfl (qf FV rfl (ql Bi rfl (qf BO rfl (ql Fb rfl (qm rfl ?_)))))
       refine BW h fun v16 a16 b16 h => qi Da B4 a16 (Ai b16) rfl (qg Cp rfl (qk Bg rfl ?_))
       refine BW h fun v17 a17 b17 h => qi AC CU a17 (Ai b17) rfl (qk Bg rfl ?_)
       refine HH h fun c18 h => Ii rfl c18 (qa rfl (AH (by kernel_rfl) ?_))
       exact sn [(2016, 2010), (2017, 2011), (2018, 2012)] h
      ·refine Aq ?_
       exact sn [(2016, 2010), (2017, 2011), (2018, 2012)] h
     ·refine Ak Ax rfl (qf CP rfl (ql GX rfl (qm rfl (Fm DP DW Lw rfl ?_))))
      refine HH h fun c19 h => Kr (f := DL) DP DP DW Nn Lw c19 rfl (qf CP rfl (qs WZ rfl (Ac (Ak Ax rfl (qm rfl (CB rfl (qe rfl ?_)))))))
      exact sn [(2010, 2016), (2011, 2017), (2012, 65)] h
    ·refine B1 ?_
     exact sn [(2013, 2010), (2014, 2011), (2015, 2012)] h
   ·refine Ag hs (wq rfl (qL B8 AS rfl (qs AS rfl (qe rfl ?_))))
    obtain rfl := sj h
    refine Ag (sm [(1000, 2013), (1001, 2014), (1002, 2015)] [(2, oD (.ptr 2 0)), (3, iD 0)] [(2, .box [.own 1000, .own 1001, .own 1002]), (1000, .vec 1 (v4.1.map Au)), (1001, .vec 1 (v4.2.map Au)), (1002, .vec 1 (v10.map DL))] rfl rfl) (As ?_)
    exact ⟨⟨[_, _], ⟨.cellN _ _ _ _ _ _ _ rfl rfl B8 AS rfl rfl (Io rfl), tm⟩, rfl⟩, ⟨rfl, rfl, rfl, tv⟩⟩
theorem ER (N : Nat) (p0 : Ae) (p1 : Int) (r : Int) (h : B2 N p0 p1 = some r) : Ar zA0 57 [.e (.agg (Bm p0)), iD p1] [] (pD (.val (.int .u8 r))) := by
 unfold B2 at h
 refine cw (n := 27) (rs := [.tmp 4]) Tryz.func57 fun w0 S0 => ?_
 refine wq rfl (qb rfl (qa rfl (Ac (wq rfl (qf Dc rfl (ql Bi rfl (qm rfl ?_)))))))
 refine BW h fun v1 a1 b1 h => qi AC CU a1 (Ai b1) rfl (qk Bg rfl ?_)
 refine HH h fun c2 h => Ii rfl c2 (qe rfl ?_)
 refine AK h (fun v3 => mk [(5, pD (.val (.int .u8 v3)))] []) (fun j3 h => ?_) (fun v3 h => ?_)
 ·refine wq rfl (qf BX rfl (ql Bi rfl (qm rfl ?_)))
  refine BW h fun v4 a4 b4 h => qi AC CU a4 (Ai b4) rfl (qk Bg rfl (DO rfl (Ac ?_)))
  refine Bp h (fun h => ?_) fun h => ?_
  ·refine Ak Ax rfl (qm rfl (qf BX rfl (ql Bi rfl (qm rfl ?_))))
   refine BW h fun v6 a6 b6 h => qi AC CU a6 (Ai b6) rfl (qk Bg rfl ?_)
   refine HH h fun c7 h => Ii rfl c7 (RF rfl (qe rfl ?_))
   exact sn [] h
  ·refine Aq ?_
   exact sn [] h
 ·refine wq rfl (qm rfl (qe rfl ?_))
  obtain rfl := sj h
  refine Ag (sm [] [(4, pD (.val (.int .u8 v3)))] [] rfl rfl) (As ?_)
  exact ⟨⟨[_], tm, rfl⟩, tv⟩
theorem GK (N : Nat) (p0 : Aa) (p1 : Ae) (r : Int) (h : CJ N p0 p1 = some r) : Ar zA0 22 [.e (.agg (Am p0)), .e (.agg (Bm p1))] [] (iD r) := by
 unfold CJ at h
 refine cw (n := 154) (rs := [.tmp 4]) Tryz.func22 fun w0 S0 => ?_
 refine wq rfl (qb rfl (qb rfl (qa rfl (Ac (wp rfl (qL D2 D0 rfl ?_))))))
 refine Cg h fun v1 a1 h => Ay [] (DY N p0 v1 a1) UD rfl (qa rfl (Ac (wq rfl (qm rfl (BJ rfl (Ac ?_))))))
 refine Bp h (fun h => ?_) fun h => ?_
 ·refine wq rfl (qm rfl (qe rfl ?_))
  obtain rfl := sj h
  refine Ag (sm [] [(4, iD v1)] [] rfl rfl) (As ?_)
  exact ⟨⟨[_], tm, rfl⟩, tv⟩
 ·refine Aq (wq rfl (qf BI rfl (ql Bi rfl (AG AC rfl (qa rfl (Ac (AP ?_)))))))
  refine AK h (fun v3 => mk [(2, oD (.ptr 2 0)), (3, oD (.ptr 3 0)), (6, iD ((p0.fc.length : Int))), (39, bD v3)] [(2, .box (Am p0)), (3, .box (Bm p1))]) (fun j3 h => ?_) (fun v3 h => ?_)
  ·refine Ak Ax rfl (qf Dc rfl (ql Bi rfl (AG AC rfl (qm rfl (BJ rfl (qm rfl ?_))))))
   refine CS 24 h rfl (fun h => ?_) fun h => ?_
   ·refine qw 5 rfl (qp rfl (qw 8 rfl (qp rfl (Ac ?_))))
    exact sn [] h
   ·refine qf BX rfl (ql Bi rfl (AG AC rfl (qm rfl (BJ rfl (qp rfl (qm rfl ?_))))))
    refine CS 31 h rfl (fun h => ?_) fun h => ?_
    ·refine qw 7 rfl (qp rfl (Ac ?_))
     exact sn [] h
    ·refine qf CP rfl (ql GX rfl (AG DP rfl (qf BO rfl (ql Fb rfl (AG Da rfl (BJ rfl (qp rfl (Ac ?_))))))))
     exact sn [] h
  ·refine Bp h (fun h => ?_) fun h => ?_
   ·refine wq rfl (qe rfl ?_)
    obtain rfl := sj h
    refine Ag (sm [] [(4, iD 6)] [] rfl rfl) (As ?_)
    exact ⟨⟨[_], tm, rfl⟩, tv⟩
   ·refine Aq (wp rfl (qe rfl ?_))
    refine Ba (L := BE N p0 p1) h (fun v7 => mk [(2, oD (.ptr 2 0)), (3, oD (.ptr 3 0)), (6, iD ((p0.fc.length : Int))), (7, iD v7)] [(2, .box (Am p0)), (3, .box (Bm p1))]) (fun v8 => mk [(2, oD (.ptr 2 0)), (3, oD (.ptr 3 0))] [(2, .box (Am p0)), (3, .box (Bm p1))]) (fun _ _ => rfl) (sm [] _ _ rfl rfl) (fun j7 n7 v7 h => ?_) (fun v8 s h hs => ?_)
    ·unfold BE at h
     refine wp rfl (qw 2 rfl (Bc rfl (Ac ?_)))
     refine Bp h (fun h => ?_) fun h => ?_
     ·refine Aq (AP (AQ (AP ?_)))
      refine AK h (fun v10 => mk [(2, oD (.ptr 2 0)), (3, oD (.ptr 3 0)), (6, iD ((p0.fc.length : Int))), (7, iD v7), (84, bD v10)] [(2, .box (Am p0)), (3, .box (Bm p1))]) (fun j10 h => ?_) (fun v10 h => ?_)
      ·refine Ak Ax rfl (qf Dc rfl (ql Bi rfl (qm rfl ?_)))
       refine BW h fun v11 a11 b11 h => qi AC CU a11 (Ai b11) rfl (qk Bg rfl (Bc rfl (qm rfl ?_)))
       refine CS 51 h rfl (fun h => ?_) fun h => ?_
       ·refine qw 11 rfl (qp rfl (qw 7 rfl (qp rfl (qw 12 rfl (qp rfl (AH (by kernel_rfl) ?_))))))
        exact sn [] h
       ·refine qf Dc rfl (ql Bi rfl (qm rfl ?_))
        refine BW h fun v13 a13 b13 h => qi AC CU a13 (Ai b13) rfl (qk Bg rfl (qf BI rfl (ql Bi rfl (qm rfl ?_))))
        refine BW h fun v14 a14 b14 h => qi AC CU a14 (Ai b14) rfl (qk Bg rfl (DO rfl (qp rfl (qm rfl ?_))))
        refine CS 64 h rfl (fun h => ?_) fun h => ?_
        ·refine qw 6 rfl (qp rfl (qw 12 rfl (qp rfl (AH (by kernel_rfl) ?_))))
         exact sn [] h
        ·refine qf BX rfl (ql Bi rfl (qm rfl ?_))
         refine BW h fun v16 a16 b16 h => qi AC CU a16 (Ai b16) rfl (qk Bg rfl (Bc rfl (qp rfl (qm rfl ?_))))
         refine CS 72 h rfl (fun h => ?_) fun h => ?_
         ·refine qw 11 rfl (qp rfl (AH (by kernel_rfl) ?_))
          exact sn [] h
         ·refine qf BX rfl (ql Bi rfl (qm rfl ?_))
          refine BW h fun v18 a18 b18 h => qi AC CU a18 (Ai b18) rfl (qk Bg rfl (qf BI rfl (ql Bi rfl (qm rfl ?_))))
          refine BW h fun v19 a19 b19 h => qi AC CU a19 (Ai b19) rfl (qk Bg rfl (DO rfl (qp rfl (AH (by kernel_rfl) ?_))))
          exact sn [] h
      ·refine Bp h (fun h => ?_) fun h => ?_
       ·refine wq rfl (qe rfl ?_)
        obtain rfl := sj h
        refine Ag (sm [] [(4, iD 7)] [] rfl rfl) (As ?_)
        exact ⟨⟨[_], tm, rfl⟩, tv⟩
       ·refine Aq (wq rfl (qf Dc rfl (ql Bi rfl (qm rfl ?_))))
        refine BW h fun v21 a21 b21 h => qi AC CU a21 (Ai b21) rfl (qk Bg rfl (qf BX rfl (ql Bi rfl (qm rfl ?_))))
        refine BW h fun v22 a22 b22 h => qi AC CU a22 (Ai b22) rfl (qk Bg rfl (AN rfl (AH (by kernel_rfl) ?_)))
        refine Bp h (fun h => ?_) fun h => ?_
        ·refine wq rfl (qe rfl ?_)
         obtain rfl := sj h
         refine Ag (sm [] [(4, iD 1)] [] rfl rfl) (As ?_)
         exact ⟨⟨[_], tm, rfl⟩, tv⟩
        ·refine Aq (Ak Ax rfl (qm rfl (CB rfl (qe rfl ?_))))
         exact sn [] h
     ·refine B1 ?_
      exact sn [] h
    ·refine Ag hs (wp rfl (qe rfl ?_))
     refine Ba (L := Bx N p0 p1) h (fun v24 => mk [(2, oD (.ptr 2 0)), (3, oD (.ptr 3 0)), (8, iD v24)] [(2, .box (Am p0)), (3, .box (Bm p1))]) (fun v25 => mk [] []) (fun _ _ => rfl) (sm [] _ _ rfl rfl) (fun j24 n24 v24 h => ?_) (fun v25 s h hs => ?_)
     ·unfold Bx at h
      refine wp rfl (qm rfl (qf BO rfl (ql Fb rfl (AG Da rfl (Bc rfl (Ac ?_))))))
      refine Bp h (fun h => ?_) fun h => ?_
      ·refine Aq (AP (AQ (wq rfl (qf BO rfl (ql Fb rfl (qm rfl ?_))))))
       refine BW h fun v27 a27 b27 h => qi Da B4 a27 (Ai b27) rfl (qK E8 B4 rfl (qz JK rfl (qs B4 rfl (Ac (wq rfl (qf BI rfl (ql Bi rfl (qf Cp rfl (ql Bg rfl ?_)))))))))
       refine BW h fun v28 a28 b28 h => qi AC CU a28 (Ai b28) rfl (qk Bg rfl ?_)
       refine HH h fun c29 h => Ii rfl c29 (K1 rfl (qe rfl ?_))
       refine AK h (fun v30 => mk [(2, oD (.ptr 2 0)), (3, oD (.ptr 3 0)), (8, iD v24), (153, bD v30)] [(2, .box (Am p0)), (3, .box (Bm p1))]) (fun j30 h => ?_) (fun v30 h => ?_)
       ·refine Ak Ax rfl (qL E8 B4 rfl ?_)
        refine Cg h fun v31 a31 h => Ay [] (Ck N v27 v31 a31) Pw rfl (CM rfl (qm rfl ?_))
        refine CS 119 h rfl (fun h => ?_) fun h => ?_
        ·refine qf CP rfl (ql GX rfl (qm rfl ?_))
         refine BW h fun v33 a33 b33 h => qi DP DW a33 (Ai b33) rfl (qk Hq rfl (BJ rfl (qp rfl (qm rfl ?_))))
         refine CS 127 h rfl (fun h => ?_) fun h => ?_
         ·refine qw 3 rfl (qu rfl (qu rfl (qu rfl (qu rfl (qu rfl (qu rfl (qu rfl (qu rfl (qu rfl (qu rfl (qu rfl (qu rfl (qu rfl (qu rfl (qu rfl (qu rfl (qu rfl (qu rfl (qu rfl (qu rfl (qu rfl (qn rfl (qp rfl (AH (by kernel_rfl) ?_))))))))))))))))))))))))
          exact sn [] h
         ·refine qL E8 B4 rfl ?_
          refine Cg h fun v35 a35 h => Ay [] (Ck N v27 v35 a35) Pw rfl (qm rfl ?_)
          refine CS 130 h rfl (fun h => ?_) fun h => ?_
          ·refine qf CP rfl (ql GX rfl (qm rfl ?_))
           refine BW h fun v37 a37 b37 h => qi DP DW a37 (Ai b37) rfl (qk Hq rfl (qm rfl (Hd rfl (BJ rfl (qm rfl ?_)))))
           refine CS 139 h rfl (fun h => ?_) fun h => ?_
           ·refine qw 11 rfl (qp rfl (qp rfl (qp rfl (AH (by kernel_rfl) ?_))))
            exact sn [] h
           ·refine qL B8 AS rfl (qf Cp rfl (ql Bg rfl ?_))
            refine Cg h fun v39 a39 h => Ay [] (ER N p1 v27.fj v39 a39) UX rfl (qf CP rfl (ql GX rfl (qm rfl ?_)))
            refine BW h fun v40 a40 b40 h => qi DP DW a40 (Ai b40) rfl (qk Hq rfl (Hd rfl (BJ rfl (qp rfl (qp rfl (qp rfl (AH (by kernel_rfl) ?_)))))))
            exact sn [] h
          ·refine qw 9 rfl (qu rfl (qu rfl (qu rfl (qu rfl (qu rfl (qu rfl (qu rfl (qu rfl (qu rfl (qu rfl (qu rfl (qn rfl (qp rfl (qp rfl (AH (by kernel_rfl) ?_)))))))))))))))
           exact sn [] h
        ·refine qw 6 rfl (qp rfl (qm rfl (qL E8 B4 rfl ?_)))
         refine Cg h fun v41 a41 h => Ay [] (Ck N v27 v41 a41) Pw rfl (qm rfl ?_)
         refine CS 130 h rfl (fun h => ?_) fun h => ?_
         ·refine qf CP rfl (ql GX rfl (qm rfl ?_))
          refine BW h fun v43 a43 b43 h => qi DP DW a43 (Ai b43) rfl (qk Hq rfl (qm rfl (Hd rfl (BJ rfl (qm rfl ?_)))))
          refine CS 139 h rfl (fun h => ?_) fun h => ?_
          ·refine qw 11 rfl (qp rfl (qp rfl (qp rfl (AH (by kernel_rfl) ?_))))
           exact sn [] h
          ·refine qL B8 AS rfl (qf Cp rfl (ql Bg rfl ?_))
           refine Cg h fun v45 a45 h => Ay [] (ER N p1 v27.fj v45 a45) UX rfl (qf CP rfl (ql GX rfl (qm rfl ?_)))
           refine BW h fun v46 a46 b46 h => qi DP DW a46 (Ai b46) rfl (qk Hq rfl (Hd rfl (BJ rfl (qp rfl (qp rfl (qp rfl (AH (by kernel_rfl) ?_)))))))
           exact sn [] h
         ·refine qw 9 rfl (qu rfl (qu rfl (qu rfl (qu rfl (qu rfl (qu rfl (qu rfl (qu rfl (qu rfl (qu rfl (qu rfl (qn rfl (qp rfl (qp rfl (AH (by kernel_rfl) ?_)))))))))))))))
          exact sn [] h
       ·refine Bp h (fun h => ?_) fun h => ?_
        ·refine wq rfl (qe rfl ?_)
         obtain rfl := sj h
         refine Ag (sm [] [(4, iD 1)] [] rfl rfl) (As ?_)
         exact ⟨⟨[_], tm, rfl⟩, tv⟩
        ·refine Aq (Ak Ax rfl (qm rfl (CB rfl (qe rfl ?_))))
         exact sn [] h
      ·refine B1 ?_
       exact sn [] h
     ·refine Ag hs (wq rfl (qe rfl ?_))
      obtain rfl := sj h
      refine Ag (sm [] [(4, iD 0)] [] rfl rfl) (As ?_)
      exact ⟨⟨[_], tm, rfl⟩, tv⟩
theorem I8 (N : Nat) (p0 : Al) (r : Bool) (h : DC N p0 = some r) : Ar zA0 156 [.e (.agg (Cb p0))] [] (bD r) := by
 unfold DC at h
 refine cw (n := 31) (rs := [.tmp 2]) Tryz.func156 fun w0 S0 => ?_
 refine wq rfl (qb rfl (qe rfl ?_))
 refine AK h (fun v1 => mk [(2, bD v1)] []) (fun j1 h => ?_) (fun v1 h => ?_)
 ·refine Ak Ax rfl (qf DF rfl (ql Bg rfl (DO rfl (qm rfl ?_))))
  refine CS 6 h rfl (fun h => ?_) fun h => ?_
  ·refine qf DF rfl (ql Bg rfl (MQ rfl (qp rfl (qm rfl ?_))))
   refine CS 11 h rfl (fun h => ?_) fun h => ?_
   ·refine qf DM rfl (ql Bg rfl (DO rfl (qp rfl (qm rfl ?_))))
    refine CS 16 h rfl (fun h => ?_) fun h => ?_
    ·refine qf Fw rfl (ql Bg rfl (DO rfl (qp rfl (qm rfl ?_))))
     refine CS 21 h rfl (fun h => ?_) fun h => ?_
     ·refine qf DF rfl (ql Bg rfl (AN rfl (qm rfl ?_)))
      refine CS 25 h rfl (fun h => ?_) fun h => ?_
      ·refine qw 3 rfl (qp rfl (qp rfl (qe rfl ?_)))
       exact sn [] h
      ·refine qf Fw rfl (ql Bg rfl (AN rfl (qp rfl (qp rfl (qe rfl ?_)))))
       exact sn [] h
     ·refine qw 4 rfl (qu rfl (qu rfl (qu rfl (qn rfl (qp rfl (qe rfl ?_))))))
      exact sn [] h
    ·refine qw 3 rfl (qp rfl (qw 5 rfl (qu rfl (qu rfl (qu rfl (qn rfl (qp rfl (qe rfl ?_))))))))
     exact sn [] h
   ·refine qw 3 rfl (qp rfl (qw 4 rfl (qp rfl (qw 5 rfl (qu rfl (qu rfl (qu rfl (qn rfl (qp rfl (qe rfl ?_))))))))))
    exact sn [] h
  ·refine qw 3 rfl (qp rfl (qw 4 rfl (qp rfl (qw 4 rfl (qp rfl (qw 5 rfl (qu rfl (qu rfl (qu rfl (qn rfl (qp rfl (qe rfl ?_))))))))))))
   exact sn [] h
 ·obtain rfl := sj h
  refine Ag (sm [] [(2, bD v1)] [] rfl rfl) (As ?_)
  exact ⟨⟨[_], tm, rfl⟩, tv⟩
theorem Ho (N : Nat) (p0 : Int) (p1 : Int) (r : Bool) (h : Dk N p0 p1 = some r) : Ar zA0 79 [pD (.val (.int .u8 p0)), iD p1] [] (bD r) := by
 unfold Dk at h
 refine cw (n := 10) (rs := [.tmp 4]) Tryz.func79 fun w0 S0 => ?_
 refine wq rfl (qa rfl (Ac (wq rfl (qw 2 rfl ?_))))
 refine HH h fun c1 h => KP rfl c1 (Nb rfl (AN rfl (qe rfl ?_)))
 obtain rfl := sj h
 refine Ag (sm [] [(4, bD (((FB .u8 ((FM .u8 p0 p1)) 1) == 1)))] [] rfl rfl) (As ?_)
 exact ⟨⟨[_], tm, rfl⟩, tv⟩
theorem Jc (N : Nat) (p0 : Aa) (p1 : Ae) (p2 : Al) (r : Ae × Bool) (h : CH N p0 p1 p2 = some r) : Ar zA0 76 [.e (.agg (Am p0)), .e (.agg (Bm p1)), .e (.agg (Cb p2))] [(1, r.1.fh.map Au), (1, r.1.fe.map Au), (1, r.1.ff.map DL)] (.tup [.agg [.own 0, .own 1, .own 2], .one (.pure (.val (.bool r.2)))]) := by
 unfold CH at h
 refine cw (n := 201) (rs := [.cell 6 40, .tmp 7]) Tryz.func76 fun w0 S0 => ?_
 refine wq rfl (qb rfl (qb rfl (qb rfl (qz Do rfl (qa rfl (Ac (wq rfl (Fm AC CU Ok rfl (qf Dc rfl (ql Bi rfl ?_))))))))))
 refine HH h fun c1 h => KA (f := Au) AC AC CU QY Ok (fun _ => rfl) c1 rfl (Fm AC CU Ok rfl (qf BX rfl (ql Bi rfl ?_)))
 refine HH h fun c2 h => KA (f := Au) AC AC CU QY Ok (fun _ => rfl) c2 rfl (Fm DP DW Lw rfl (qf CP rfl (ql GX rfl ?_)))
 refine HH h fun c3 h => KA (f := DL) DP DP DW Nn Lw (fun _ => rfl) c3 rfl (BD Do GP rfl (qz Do rfl (qs AS rfl (AH (by kernel_rfl) (wq rfl (qf DM rfl (ql Bg rfl (qe rfl ?_))))))))
 refine AK h (fun v4 => mk [(6, oD (.ptr 6 0)), (8, oD (.ptr 8 0))] [(6, .box [.pure (.nil0), .pure (.nil0), .pure (.nil0)]), (8, .box [.own 2001, .own 2002, .own 2003]), (2001, .vec 1 (v4.1.map Au)), (2002, .vec 1 (v4.2.1.map Au)), (2003, .vec 1 (v4.2.2.map DL))]) (fun j4 h => ?_) (fun v4 h => ?_)
 ·refine wq rfl (qf DF rfl (ql Bg rfl (Ac (AQ (wq rfl (AN rfl (qe rfl ?_)))))))
  refine Bp h (fun h => ?_) fun h => ?_
  ·refine AP ?_
   refine AK h (fun v6 => mk [(3, oD (.ptr 3 0)), (5, oD (.ptr 5 0)), (6, oD (.ptr 6 0)), (8, oD (.ptr 8 0)), (9, iD p2.fm), (60, bD v6)] [(3, .box (Am p0)), (5, .box (Cb p2)), (6, .box [.pure (.nil0), .pure (.nil0), .pure (.nil0)]), (8, .box [.own 2004, .own 2005, .own 2006]), (2004, .vec 1 (((([] : List Int)) ++ p1.fh).map Au)), (2005, .vec 1 (((([] : List Int)) ++ p1.fe).map Au)), (2006, .vec 1 (((([] : List Int)) ++ p1.ff).map DL))]) (fun j6 h => ?_) (fun v6 h => ?_)
   ·refine Ak Ax rfl (qf BX rfl (ql Bi rfl (qm rfl ?_)))
    refine BW h fun v7 a7 b7 h => qi AC CU a7 (Ai b7) rfl (qk Bg rfl (DO rfl (qm rfl ?_)))
    refine CS 51 h rfl (fun h => ?_) fun h => ?_
    ·refine qw 8 rfl (qp rfl (AH (by kernel_rfl) ?_))
     exact sn [(2004, 18), (2005, 22), (2006, 26)] h
    ·refine qf Fw rfl (ql Bg rfl (qf Dc rfl (ql Bi rfl (qm rfl ?_))))
     refine BW h fun v9 a9 b9 h => qi AC CU a9 (Ai b9) rfl (qk Bg rfl (AN rfl (qp rfl (AH (by kernel_rfl) ?_))))
     exact sn [(2004, 18), (2005, 22), (2006, 26)] h
   ·refine Bp h (fun h => ?_) fun h => ?_
    ·refine wq rfl (BD Do GP rfl (qs AS rfl (qe rfl ?_)))
     obtain rfl := sj h
     refine Ag ((Av 6 0 2007 1 _ rfl rfl rfl rfl).trans ((Av 6 1 2008 1 _ rfl rfl rfl rfl).trans ((Av 6 2 2009 1 _ rfl rfl rfl rfl).trans (sm [(1000, 2007), (1001, 2008), (1002, 2009)] [(6, oD (.ptr 6 0)), (7, bD false)] [(6, .box [.own 1000, .own 1001, .own 1002]), (1000, .vec 1 ((([] : List Int)).map Au)), (1001, .vec 1 ((([] : List Int)).map Au)), (1002, .vec 1 ((([] : List Int)).map DL))] rfl rfl)))) (As ?_)
     exact ⟨⟨[_, _], ⟨.cellN _ _ _ _ _ _ _ rfl rfl B8 AS rfl rfl (Io rfl), tm⟩, rfl⟩, ⟨rfl, rfl, rfl, tv⟩⟩
    ·refine Aq (wq rfl (qf BX rfl (ql Bi rfl (qm rfl (qf Fw rfl (ql Bg rfl ?_))))))
     refine BW h fun v11 a11 b11 h => qI AC CU a11 (Ai b11) rfl ?_
     refine EG rfl rfl rfl rfl (Ai b11) rfl CU rfl (GO rfl) (EI Au ((([] : List Int)) ++ p1.fe) _ p2.fr) ?_
     refine Ac (wq rfl (qe rfl ?_))
     refine Ba (L := Bv N p0 p2) h (fun v12 => mk [(3, oD (.ptr 3 0)), (5, oD (.ptr 5 0)), (6, oD (.ptr 6 0)), (8, oD (.ptr 8 0)), (9, iD p2.fm), (10, iD v12.2)] [(3, .box (Am p0)), (5, .box (Cb p2)), (6, .box [.pure (.nil0), .pure (.nil0), .pure (.nil0)]), (8, .box [.own 2010, .own 2011, .own 2012]), (2010, .vec 1 (((([] : List Int)) ++ p1.fh).map Au)), (2011, .vec 1 ((((([] : List Int)) ++ p1.fe).set ((p2.fm).toNat) p2.fr).map Au)), (2012, .vec 1 (v12.1.map DL))]) (fun v13 => mk [(6, oD (.ptr 6 0)), (8, oD (.ptr 8 0))] [(6, .box [.pure (.nil0), .pure (.nil0), .pure (.nil0)]), (8, .box [.own 2013, .own 2014, .own 2015]), (2013, .vec 1 (((([] : List Int)) ++ p1.fh).map Au)), (2014, .vec 1 ((((([] : List Int)) ++ p1.fe).set ((p2.fm).toNat) p2.fr).map Au)), (2015, .vec 1 (v13.map DL))]) (fun _ _ => rfl) (sm [(2010, 2004), (2011, 2005), (2012, 2006)] _ _ rfl rfl) (fun j12 n12 v12 h => ?_) (fun v13 s h hs => ?_)
     ·unfold Bv at h
      refine wp rfl (qm rfl (qf BO rfl (ql Fb rfl (AG Da rfl (Bc rfl (Ac ?_))))))
      refine Bp h (fun h => ?_) fun h => ?_
      ·refine Aq ?_
       refine AK h (fun v15 => mk [(3, oD (.ptr 3 0)), (5, oD (.ptr 5 0)), (6, oD (.ptr 6 0)), (8, oD (.ptr 8 0)), (9, iD p2.fm), (10, iD v12.2)] [(3, .box (Am p0)), (5, .box (Cb p2)), (6, .box [.pure (.nil0), .pure (.nil0), .pure (.nil0)]), (8, .box [.own 2016, .own 2017, .own 2018]), (2016, .vec 1 (((([] : List Int)) ++ p1.fh).map Au)), (2017, .vec 1 ((((([] : List Int)) ++ p1.fe).set ((p2.fm).toNat) p2.fr).map Au)), (2018, .vec 1 (v15.map DL))]) (fun j15 h => ?_) (fun v15 h => ?_)
       ·refine AQ ?_
        refine AK h (fun v16 => mk [(3, oD (.ptr 3 0)), (5, oD (.ptr 5 0)), (6, oD (.ptr 6 0)), (8, oD (.ptr 8 0)), (9, iD p2.fm), (10, iD v12.2), (90, bD v16)] [(3, .box (Am p0)), (5, .box (Cb p2)), (6, .box [.pure (.nil0), .pure (.nil0), .pure (.nil0)]), (8, .box [.own 2019, .own 2020, .own 2021]), (2019, .vec 1 (((([] : List Int)) ++ p1.fh).map Au)), (2020, .vec 1 ((((([] : List Int)) ++ p1.fe).set ((p2.fm).toNat) p2.fr).map Au)), (2021, .vec 1 (v12.1.map DL))]) (fun j16 h => ?_) (fun v16 h => ?_)
        ·refine Ak Ax rfl (qf BO rfl (ql Fb rfl (qm rfl ?_)))
         refine BW h fun v17 a17 b17 h => qi Da B4 a17 (Ai b17) rfl (qg Cp rfl (qk Bg rfl (qm rfl (AN rfl (qm rfl ?_)))))
         refine CS 83 h rfl (fun h => ?_) fun h => ?_
         ·refine qf BO rfl (ql Fb rfl (qm rfl ?_))
          refine BW h fun v19 a19 b19 h => qi Da B4 a19 (Ai b19) rfl (qK E8 B4 rfl ?_)
          refine Cg h fun v20 a20 h => Ay [] (Ck N v19 v20 a20) Pw rfl (qp rfl (Ac ?_))
          exact sn [(2019, 2010), (2020, 2011), (2021, 2012)] h
         ·refine qw 6 rfl (qp rfl (Ac ?_))
          exact sn [(2019, 2010), (2020, 2011), (2021, 2012)] h
        ·refine Bp h (fun h => ?_) fun h => ?_
         ·refine Ak Ax rfl (qf CP rfl (ql GX rfl (qm rfl (qf CP rfl (ql GX rfl (qm rfl ?_))))))
          refine BW h fun v22 a22 b22 h => qI DP DW a22 (Ai b22) rfl (qj Hq (Ai b22) rfl (qf Fw rfl (ql Bg rfl ?_)))
          refine HH h fun c23 h => Ii rfl c23 (RF rfl ?_)
          refine BW h fun v24 a24 b24 h => qI DP DW a24 (Ai b24) rfl ?_
          refine EG rfl rfl rfl rfl (Ai b24) rfl DW rfl (GO rfl) (EI DL v12.1 _ ((K7 .u8 v22 ((DE .u8 1 p2.fr))))) ?_
          refine AH (by kernel_rfl) ?_
          exact sn [(2016, 2019), (2017, 2020), (2018, 2021)] h
         ·refine Aq ?_
          exact sn [(2016, 2019), (2017, 2020), (2018, 2021)] h
       ·refine Ak Ax rfl (qm rfl (CB rfl (qe rfl ?_)))
        exact sn [(2010, 2016), (2011, 2017), (2012, 2018)] h
      ·refine B1 ?_
       exact sn [(2013, 2010), (2014, 2011), (2015, 2012)] h
     ·exact Xq _ h (hs.trans (sm [(2001, 2013), (2002, 2014), (2003, 2015)] _ _ rfl rfl))
  ·refine wq rfl (AN rfl (qe rfl ?_))
   refine Bp h (fun h => ?_) fun h => ?_
   ·refine wp rfl (qf BX rfl (ql Bi rfl (qm rfl ?_)))
    refine BW h fun v26 a26 b26 h => qi AC CU a26 (Ai b26) rfl (qk Bg rfl (Bc rfl (Ac ?_)))
    refine Bp h (fun h => ?_) fun h => ?_
    ·refine wq rfl (BD Do GP rfl (qs AS rfl (qe rfl ?_)))
     obtain rfl := sj h
     refine Ag ((Av 6 0 2022 1 _ rfl rfl rfl rfl).trans ((Av 6 1 2023 1 _ rfl rfl rfl rfl).trans ((Av 6 2 2024 1 _ rfl rfl rfl rfl).trans (sm [(1000, 2022), (1001, 2023), (1002, 2024)] [(6, oD (.ptr 6 0)), (7, bD false)] [(6, .box [.own 1000, .own 1001, .own 1002]), (1000, .vec 1 ((([] : List Int)).map Au)), (1001, .vec 1 ((([] : List Int)).map Au)), (1002, .vec 1 ((([] : List Int)).map DL))] rfl rfl)))) (As ?_)
     exact ⟨⟨[_, _], ⟨.cellN _ _ _ _ _ _ _ rfl rfl B8 AS rfl rfl (Io rfl), tm⟩, rfl⟩, ⟨rfl, rfl, rfl, tv⟩⟩
    ·refine Aq (Ak Ax rfl (qf Dc rfl (ql Bi rfl (qm rfl (qf BX rfl (ql Bi rfl (qm rfl (qf BX rfl (ql Bi rfl (qm rfl ?_))))))))))
     refine BW h fun v28 a28 b28 h => qi AC CU a28 (Ai b28) rfl (qk Bg rfl ?_)
     refine BW h fun v29 a29 b29 h => qI AC CU a29 (Ai b29) rfl ?_
     refine EG rfl rfl rfl rfl (Ai b29) rfl CU rfl (GO rfl) (EI Au ((([] : List Int)) ++ p1.fh) _ v28) ?_
     refine BW h fun v30 a30 b30 h => qI AC CU a30 (Ai b30) rfl ?_
     refine EG rfl rfl rfl rfl (Ai b30) rfl CU rfl (GO rfl) (EI Au ((([] : List Int)) ++ p1.fe) _ ((-1))) ?_
     refine AH (by kernel_rfl) ?_
     exact sn [(2001, 18), (2002, 22), (2003, 26)] h
   ·refine wq rfl (AN rfl (qe rfl ?_))
    refine Bp h (fun h => ?_) fun h => ?_
    ·refine wq rfl (qf BO rfl (ql Fb rfl (qm rfl ?_)))
     refine BW h fun v32 a32 b32 h => qi Da B4 a32 (Ai b32) rfl (qK E8 B4 rfl (qz JK rfl (qs B4 rfl (Ac (wp rfl (qL E8 B4 rfl ?_))))))
     refine Cg h fun v33 a33 h => Ay [] (Ck N v32 v33 a33) Pw rfl (CM rfl (Ac ?_))
     refine Bp h (fun h => ?_) fun h => ?_
     ·refine wq rfl (BD Do GP rfl (qs AS rfl (qe rfl ?_)))
      obtain rfl := sj h
      refine Ag ((Av 6 0 2025 1 _ rfl rfl rfl rfl).trans ((Av 6 1 2026 1 _ rfl rfl rfl rfl).trans ((Av 6 2 2027 1 _ rfl rfl rfl rfl).trans (sm [(1000, 2025), (1001, 2026), (1002, 2027)] [(6, oD (.ptr 6 0)), (7, bD false)] [(6, .box [.own 1000, .own 1001, .own 1002]), (1000, .vec 1 ((([] : List Int)).map Au)), (1001, .vec 1 ((([] : List Int)).map Au)), (1002, .vec 1 ((([] : List Int)).map DL))] rfl rfl)))) (As ?_)
      exact ⟨⟨[_, _], ⟨.cellN _ _ _ _ _ _ _ rfl rfl B8 AS rfl rfl (Io rfl), tm⟩, rfl⟩, ⟨rfl, rfl, rfl, tv⟩⟩
     ·refine Aq (wq rfl (qL B8 AS rfl (qf Cp rfl (ql Bg rfl ?_))))
      refine Cg h fun v35 a35 h => Ay [] (ER N p1 v32.fj v35 a35) UX rfl (qa rfl (Ac (wp rfl (qf CP rfl (ql GX rfl (qm rfl ?_))))))
      refine BW h fun v36 a36 b36 h => qi DP DW a36 (Ai b36) rfl (qk Hq rfl (qm rfl (AN rfl (Ac ?_))))
      refine Bp h (fun h => ?_) fun h => ?_
      ·refine wq rfl (BD Do GP rfl (qs AS rfl (qe rfl ?_)))
       obtain rfl := sj h
       refine Ag ((Av 6 0 2028 1 _ rfl rfl rfl rfl).trans ((Av 6 1 2029 1 _ rfl rfl rfl rfl).trans ((Av 6 2 2030 1 _ rfl rfl rfl rfl).trans (sm [(1000, 2028), (1001, 2029), (1002, 2030)] [(6, oD (.ptr 6 0)), (7, bD false)] [(6, .box [.own 1000, .own 1001, .own 1002]), (1000, .vec 1 ((([] : List Int)).map Au)), (1001, .vec 1 ((([] : List Int)).map Au)), (1002, .vec 1 ((([] : List Int)).map DL))] rfl rfl)))) (As ?_)
       exact ⟨⟨[_, _], ⟨.cellN _ _ _ _ _ _ _ rfl rfl B8 AS rfl rfl (Io rfl), tm⟩, rfl⟩, ⟨rfl, rfl, rfl, tv⟩⟩
      ·refine Aq (wp rfl (qe rfl ?_))
       refine Ba (L := Bh N p0 p1 p2 v32 v35) h (fun v38 => mk [(3, oD (.ptr 3 0)), (4, oD (.ptr 4 0)), (6, oD (.ptr 6 0)), (8, oD (.ptr 8 0)), (9, iD p2.fm), (11, oD (.ptr 11 0)), (12, pD (.val (.int .u8 v35))), (13, iD v38)] [(3, .box (Am p0)), (4, .box (Bm p1)), (6, .box [.pure (.nil0), .pure (.nil0), .pure (.nil0)]), (8, .box [.own 2031, .own 2032, .own 2033]), (11, .box (CG v32)), (2031, .vec 1 (((([] : List Int)) ++ p1.fh).map Au)), (2032, .vec 1 (((([] : List Int)) ++ p1.fe).map Au)), (2033, .vec 1 (((([] : List Int)) ++ p1.ff).map DL))]) (fun v39 => mk [(6, oD (.ptr 6 0)), (8, oD (.ptr 8 0)), (9, iD p2.fm), (12, pD (.val (.int .u8 v35)))] [(6, .box [.pure (.nil0), .pure (.nil0), .pure (.nil0)]), (8, .box [.own 2034, .own 2035, .own 2036]), (2034, .vec 1 (((([] : List Int)) ++ p1.fh).map Au)), (2035, .vec 1 (((([] : List Int)) ++ p1.fe).map Au)), (2036, .vec 1 (((([] : List Int)) ++ p1.ff).map DL))]) (fun _ _ => rfl) (sm [(2031, 18), (2032, 22), (2033, 26)] _ _ rfl rfl) (fun j38 n38 v38 h => ?_) (fun v39 s h hs => ?_)
       ·unfold Bh at h
        refine wp rfl (qm rfl (qf BI rfl (ql Bi rfl (qf Cp rfl (ql Bg rfl ?_)))))
        refine BW h fun v40 a40 b40 h => qi AC CU a40 (Ai b40) rfl (qk Bg rfl (Bc rfl (Ac ?_)))
        refine Bp h (fun h => ?_) fun h => ?_
        ·refine Aq (AP (AQ ?_))
         refine AK h (fun v42 => mk [(3, oD (.ptr 3 0)), (4, oD (.ptr 4 0)), (6, oD (.ptr 6 0)), (8, oD (.ptr 8 0)), (9, iD p2.fm), (11, oD (.ptr 11 0)), (12, pD (.val (.int .u8 v35))), (13, iD v38), (14, bD v42)] [(3, .box (Am p0)), (4, .box (Bm p1)), (6, .box [.pure (.nil0), .pure (.nil0), .pure (.nil0)]), (8, .box [.own 2037, .own 2038, .own 2039]), (11, .box (CG v32)), (2037, .vec 1 (((([] : List Int)) ++ p1.fh).map Au)), (2038, .vec 1 (((([] : List Int)) ++ p1.fe).map Au)), (2039, .vec 1 (((([] : List Int)) ++ p1.ff).map DL))]) (fun j42 h => ?_) (fun v42 h => ?_)
         ·refine Ak Ax rfl (qf CP rfl (ql GX rfl (qm rfl ?_)))
          refine BW h fun v43 a43 b43 h => qi DP DW a43 (Ai b43) rfl (qk Hq rfl (qm rfl ?_))
          refine Cg h fun v44 a44 h => Ay [] (Ho N v43 v38 v44 a44) Vp rfl (qm rfl ?_)
          refine CS 166 h rfl (fun h => ?_) fun h => ?_
          ·refine qw 2 rfl ?_
           refine Cg h fun v46 a46 h => Ay [] (Ho N v35 v38 v46 a46) Vp rfl (CM rfl (qp rfl (qe rfl ?_)))
           exact sn [(2037, 2031), (2038, 2032), (2039, 2033)] h
          ·refine qw 4 rfl (qp rfl (qe rfl ?_))
           exact sn [(2037, 2031), (2038, 2032), (2039, 2033)] h
         ·refine AK h (fun v47 => mk [(3, oD (.ptr 3 0)), (4, oD (.ptr 4 0)), (6, oD (.ptr 6 0)), (8, oD (.ptr 8 0)), (9, iD p2.fm), (11, oD (.ptr 11 0)), (12, pD (.val (.int .u8 v35))), (13, iD v38), (193, bD v47)] [(3, .box (Am p0)), (4, .box (Bm p1)), (6, .box [.pure (.nil0), .pure (.nil0), .pure (.nil0)]), (8, .box [.own 2040, .own 2041, .own 2042]), (11, .box (CG v32)), (2040, .vec 1 (((([] : List Int)) ++ p1.fh).map Au)), (2041, .vec 1 (((([] : List Int)) ++ p1.fe).map Au)), (2042, .vec 1 (((([] : List Int)) ++ p1.ff).map DL))]) (fun j47 h => ?_) (fun v47 h => ?_)
          ·refine Ak Ax rfl (qw 2 rfl ?_)
           refine CS 173 h rfl (fun h => ?_) fun h => ?_
           ·refine qf DZ rfl (ql Bg rfl (AN rfl (qp rfl (qm rfl ?_))))
            refine CS 178 h rfl (fun h => ?_) fun h => ?_
            ·refine qf Ec rfl (ql Fq rfl (qm rfl ?_))
             refine BW h fun v50 a50 b50 h => qi D6 J1 a50 (Ai b50) rfl (qk JX rfl (qf Dc rfl (ql Bi rfl (qf Cp rfl (ql Bg rfl ?_)))))
             refine BW h fun v51 a51 b51 h => qi AC CU a51 (Ai b51) rfl (qk Bg rfl ?_)
             refine BW h fun v52 a52 b52 h => qi H9 Ve a52 (Ai b52) rfl (qk Ul rfl (CM rfl (qp rfl (AH (by kernel_rfl) ?_))))
             exact sn [(2040, 2037), (2041, 2038), (2042, 2039)] h
            ·refine qw 14 rfl (qp rfl (AH (by kernel_rfl) ?_))
             exact sn [(2040, 2037), (2041, 2038), (2042, 2039)] h
           ·refine qw 3 rfl (qp rfl (qw 15 rfl (qp rfl (AH (by kernel_rfl) ?_))))
            exact sn [(2040, 2037), (2041, 2038), (2042, 2039)] h
          ·refine Bp h (fun h => ?_) fun h => ?_
           ·refine wq rfl (BD Do GP rfl (qs AS rfl (qe rfl ?_)))
            obtain rfl := sj h
            refine Ag ((Av 6 0 2043 1 _ rfl rfl rfl rfl).trans ((Av 6 1 2044 1 _ rfl rfl rfl rfl).trans ((Av 6 2 2045 1 _ rfl rfl rfl rfl).trans (sm [(1000, 2043), (1001, 2044), (1002, 2045)] [(6, oD (.ptr 6 0)), (7, bD false)] [(6, .box [.own 1000, .own 1001, .own 1002]), (1000, .vec 1 ((([] : List Int)).map Au)), (1001, .vec 1 ((([] : List Int)).map Au)), (1002, .vec 1 ((([] : List Int)).map DL))] rfl rfl)))) (As ?_)
            exact ⟨⟨[_, _], ⟨.cellN _ _ _ _ _ _ _ rfl rfl B8 AS rfl rfl (Io rfl), tm⟩, rfl⟩, ⟨rfl, rfl, rfl, tv⟩⟩
           ·refine Aq (Ak Ax rfl (qm rfl (CB rfl (qe rfl ?_))))
            exact sn [(2031, 2040), (2032, 2041), (2033, 2042)] h
        ·refine B1 ?_
         exact sn [(2034, 2031), (2035, 2032), (2036, 2033)] h
       ·refine Ag hs (Ak Ax rfl (qf CP rfl (ql GX rfl (qw 2 rfl ?_))))
        refine BW h fun v54 a54 b54 h => qI DP DW a54 (Ai b54) rfl ?_
        refine EG rfl rfl rfl rfl (Ai b54) rfl DW rfl (GO rfl) (EI DL ((([] : List Int)) ++ p1.ff) _ v35) ?_
        refine Ac ?_
        exact sn [(2001, 2034), (2002, 2035), (2003, 2036)] h
    ·refine wp rfl (qf BX rfl (ql Bi rfl (qm rfl ?_)))
     refine BW h fun v55 a55 b55 h => qi AC CU a55 (Ai b55) rfl (qk Bg rfl (Bc rfl (Ac ?_)))
     refine Bp h (fun h => ?_) fun h => ?_
     ·refine wq rfl (BD Do GP rfl (qs AS rfl (qe rfl ?_)))
      obtain rfl := sj h
      refine Ag ((Av 6 0 2046 1 _ rfl rfl rfl rfl).trans ((Av 6 1 2047 1 _ rfl rfl rfl rfl).trans ((Av 6 2 2048 1 _ rfl rfl rfl rfl).trans (sm [(1000, 2046), (1001, 2047), (1002, 2048)] [(6, oD (.ptr 6 0)), (7, bD false)] [(6, .box [.own 1000, .own 1001, .own 1002]), (1000, .vec 1 ((([] : List Int)).map Au)), (1001, .vec 1 ((([] : List Int)).map Au)), (1002, .vec 1 ((([] : List Int)).map DL))] rfl rfl)))) (As ?_)
      exact ⟨⟨[_, _], ⟨.cellN _ _ _ _ _ _ _ rfl rfl B8 AS rfl rfl (Io rfl), tm⟩, rfl⟩, ⟨rfl, rfl, rfl, tv⟩⟩
     ·refine Aq (Ak Ax rfl (qf BX rfl (ql Bi rfl (qm rfl ?_))))
      refine BW h fun v57 a57 b57 h => qI AC CU a57 (Ai b57) rfl ?_
      refine EG rfl rfl rfl rfl (Ai b57) rfl CU rfl (GO rfl) (EI Au ((([] : List Int)) ++ p1.fe) _ ((-1))) ?_
      refine Ac ?_
      exact sn [(2001, 18), (2002, 22), (2003, 26)] h
 ·refine wq rfl (qL B8 AS rfl (qs AS rfl (qe rfl ?_)))
  obtain rfl := sj h
  refine Ag (sm [(1000, 2001), (1001, 2002), (1002, 2003)] [(6, oD (.ptr 6 0)), (7, bD true)] [(6, .box [.own 1000, .own 1001, .own 1002]), (1000, .vec 1 (v4.1.map Au)), (1001, .vec 1 (v4.2.1.map Au)), (1002, .vec 1 (v4.2.2.map DL))] rfl rfl) (As ?_)
  exact ⟨⟨[_, _], ⟨.cellN _ _ _ _ _ _ _ rfl rfl B8 AS rfl rfl (Io rfl), tm⟩, rfl⟩, ⟨rfl, rfl, rfl, tv⟩⟩
theorem I6 (N : Nat) (p0 : Aa) (p1 : Ae) (p2 : Al) (r : Ae × Int) (h : Dx N p0 p1 p2 = some r) : Ar zA0 118 [.e (.agg (Am p0)), .e (.agg (Bm p1)), .e (.agg (Cb p2))] [(1, r.1.fh.map Au), (1, r.1.fe.map Au), (1, r.1.ff.map DL)] (.tup [.agg [.own 0, .own 1, .own 2], .one (iC r.2)]) := by
 unfold Dx at h
 refine cw (n := 73) (rs := [.cell 6 40, .tmp 7]) Tryz.func118 fun w0 S0 => ?_
 refine wq rfl (qb rfl (qb rfl (qb rfl (qz Do rfl (qa rfl (Ac (wp rfl (qL D2 D0 rfl (qL B8 AS rfl ?_)))))))))
 refine Cg h fun v1 a1 h => Ay [] (GK N p0 p1 v1 a1) VC rfl (qa rfl (Ac (wq rfl (qm rfl (BJ rfl (Ac ?_))))))
 refine Bp h (fun h => ?_) fun h => ?_
 ·refine wq rfl (BD Do GP rfl (qm rfl (qs AS rfl (qe rfl ?_))))
  obtain rfl := sj h
  refine Ag ((Av 6 0 2001 1 _ rfl rfl rfl rfl).trans ((Av 6 1 2002 1 _ rfl rfl rfl rfl).trans ((Av 6 2 2003 1 _ rfl rfl rfl rfl).trans (sm [(1000, 2001), (1001, 2002), (1002, 2003)] [(6, oD (.ptr 6 0)), (7, iD v1)] [(6, .box [.own 1000, .own 1001, .own 1002]), (1000, .vec 1 ((([] : List Int)).map Au)), (1001, .vec 1 ((([] : List Int)).map Au)), (1002, .vec 1 ((([] : List Int)).map DL))] rfl rfl)))) (As ?_)
  exact ⟨⟨[_, _], ⟨.cellN _ _ _ _ _ _ _ rfl rfl B8 AS rfl rfl (Io rfl), tm⟩, rfl⟩, ⟨rfl, rfl, rfl, tv⟩⟩
 ·refine Aq (wp rfl (qL Ju GN rfl ?_))
  refine Cg h fun v3 a3 h => Ay [] (I8 N p2 v3 a3) Wf rfl (CM rfl (Ac ?_))
  refine Bp h (fun h => ?_) fun h => ?_
  ·refine wq rfl (BD Do GP rfl (qs AS rfl (qe rfl ?_)))
   obtain rfl := sj h
   refine Ag ((Av 6 0 2004 1 _ rfl rfl rfl rfl).trans ((Av 6 1 2005 1 _ rfl rfl rfl rfl).trans ((Av 6 2 2006 1 _ rfl rfl rfl rfl).trans (sm [(1000, 2004), (1001, 2005), (1002, 2006)] [(6, oD (.ptr 6 0)), (7, iD 1)] [(6, .box [.own 1000, .own 1001, .own 1002]), (1000, .vec 1 ((([] : List Int)).map Au)), (1001, .vec 1 ((([] : List Int)).map Au)), (1002, .vec 1 ((([] : List Int)).map DL))] rfl rfl)))) (As ?_)
   exact ⟨⟨[_, _], ⟨.cellN _ _ _ _ _ _ _ rfl rfl B8 AS rfl rfl (Io rfl), tm⟩, rfl⟩, ⟨rfl, rfl, rfl, tv⟩⟩
  ·refine Aq (AP ?_)
   refine AK h (fun v5 => mk [(3, oD (.ptr 3 0)), (4, oD (.ptr 4 0)), (5, oD (.ptr 5 0)), (6, oD (.ptr 6 0)), (45, bD v5)] [(3, .box (Am p0)), (4, .box (Bm p1)), (5, .box (Cb p2)), (6, .box [.pure (.nil0), .pure (.nil0), .pure (.nil0)])]) (fun j5 h => ?_) (fun v5 h => ?_)
   ·refine Ak Ax rfl (qf DF rfl (ql Bg rfl (AN rfl (qm rfl ?_))))
    refine CS 25 h rfl (fun h => ?_) fun h => ?_
    ·refine qf DM rfl (ql Bg rfl (qf BO rfl (ql Fb rfl (AG Da rfl (DO rfl (qp rfl (qm rfl ?_)))))))
     refine CS 33 h rfl (fun h => ?_) fun h => ?_
     ·refine qw 4 rfl (qu rfl (qu rfl (qu rfl (qu rfl (qu rfl (qu rfl (qn rfl (qp rfl (Ac ?_)))))))))
      exact sn [] h
     ·refine qf DF rfl (ql Bg rfl (BJ rfl (qm rfl ?_)))
      refine CS 37 h rfl (fun h => ?_) fun h => ?_
      ·refine qf DM rfl (ql Bg rfl (qf BI rfl (ql Bi rfl (AG AC rfl (DO rfl (qp rfl (qp rfl (Ac ?_))))))))
       exact sn [] h
      ·refine qw 6 rfl (qp rfl (qp rfl (Ac ?_)))
       exact sn [] h
    ·refine qw 6 rfl (qp rfl (qm rfl (qf DF rfl (ql Bg rfl (BJ rfl (qm rfl ?_))))))
     refine CS 37 h rfl (fun h => ?_) fun h => ?_
     ·refine qf DM rfl (ql Bg rfl (qf BI rfl (ql Bi rfl (AG AC rfl (DO rfl (qp rfl (qp rfl (Ac ?_))))))))
      exact sn [] h
     ·refine qw 6 rfl (qp rfl (qp rfl (Ac ?_)))
      exact sn [] h
   ·refine Bp h (fun h => ?_) fun h => ?_
    ·refine wq rfl (BD Do GP rfl (qs AS rfl (qe rfl ?_)))
     obtain rfl := sj h
     refine Ag ((Av 6 0 2007 1 _ rfl rfl rfl rfl).trans ((Av 6 1 2008 1 _ rfl rfl rfl rfl).trans ((Av 6 2 2009 1 _ rfl rfl rfl rfl).trans (sm [(1000, 2007), (1001, 2008), (1002, 2009)] [(6, oD (.ptr 6 0)), (7, iD 4)] [(6, .box [.own 1000, .own 1001, .own 1002]), (1000, .vec 1 ((([] : List Int)).map Au)), (1001, .vec 1 ((([] : List Int)).map Au)), (1002, .vec 1 ((([] : List Int)).map DL))] rfl rfl)))) (As ?_)
     exact ⟨⟨[_, _], ⟨.cellN _ _ _ _ _ _ _ rfl rfl B8 AS rfl rfl (Io rfl), tm⟩, rfl⟩, ⟨rfl, rfl, rfl, tv⟩⟩
    ·refine Aq (AP ?_)
     refine AK h (fun v11 => mk [(3, oD (.ptr 3 0)), (4, oD (.ptr 4 0)), (5, oD (.ptr 5 0)), (6, oD (.ptr 6 0)), (60, bD v11)] [(3, .box (Am p0)), (4, .box (Bm p1)), (5, .box (Cb p2)), (6, .box [.pure (.nil0), .pure (.nil0), .pure (.nil0)])]) (fun j11 h => ?_) (fun v11 h => ?_)
     ·refine Ak Ax rfl (qf DF rfl (ql Bg rfl (AN rfl (qm rfl ?_))))
      refine CS 50 h rfl (fun h => ?_) fun h => ?_
      ·refine qf Fw rfl (ql Bg rfl (qf BI rfl (ql Bi rfl (qf DM rfl (ql Bg rfl ?_)))))
       refine BW h fun v13 a13 b13 h => qi AC CU a13 (Ai b13) rfl (qk Bg rfl (DO rfl (qp rfl (AH (by kernel_rfl) ?_))))
       exact sn [] h
      ·refine qw 9 rfl (qp rfl (AH (by kernel_rfl) ?_))
       exact sn [] h
     ·refine Bp h (fun h => ?_) fun h => ?_
      ·refine wq rfl (BD Do GP rfl (qs AS rfl (qe rfl ?_)))
       obtain rfl := sj h
       refine Ag ((Av 6 0 2010 1 _ rfl rfl rfl rfl).trans ((Av 6 1 2011 1 _ rfl rfl rfl rfl).trans ((Av 6 2 2012 1 _ rfl rfl rfl rfl).trans (sm [(1000, 2010), (1001, 2011), (1002, 2012)] [(6, oD (.ptr 6 0)), (7, iD 4)] [(6, .box [.own 1000, .own 1001, .own 1002]), (1000, .vec 1 ((([] : List Int)).map Au)), (1001, .vec 1 ((([] : List Int)).map Au)), (1002, .vec 1 ((([] : List Int)).map DL))] rfl rfl)))) (As ?_)
       exact ⟨⟨[_, _], ⟨.cellN _ _ _ _ _ _ _ rfl rfl B8 AS rfl rfl (Io rfl), tm⟩, rfl⟩, ⟨rfl, rfl, rfl, tv⟩⟩
      ·refine Aq (wq rfl (qL D2 D0 rfl (qL B8 AS rfl (qL Ju GN rfl ?_))))
       refine Cg h fun v15 a15 h => Ay [2013, 2014, 2015] (Jc N p0 p1 p2 v15 a15) Xk rfl (qm rfl (qx rfl (qx rfl (qz Do rfl (qs AS rfl (qa rfl (Ac (wp rfl (qm rfl (CM rfl (Ac ?_)))))))))))
       refine Bp h (fun h => ?_) fun h => ?_
       ·refine wq rfl (BD Do GP rfl (qs AS rfl (qe rfl ?_)))
        obtain rfl := sj h
        refine Ag ((Av 6 0 2016 1 _ rfl rfl rfl rfl).trans ((Av 6 1 2017 1 _ rfl rfl rfl rfl).trans ((Av 6 2 2018 1 _ rfl rfl rfl rfl).trans (sm [(1000, 2016), (1001, 2017), (1002, 2018)] [(6, oD (.ptr 6 0)), (7, iD 11)] [(6, .box [.own 1000, .own 1001, .own 1002]), (1000, .vec 1 ((([] : List Int)).map Au)), (1001, .vec 1 ((([] : List Int)).map Au)), (1002, .vec 1 ((([] : List Int)).map DL))] rfl rfl)))) (As ?_)
        exact ⟨⟨[_, _], ⟨.cellN _ _ _ _ _ _ _ rfl rfl B8 AS rfl rfl (Io rfl), tm⟩, rfl⟩, ⟨rfl, rfl, rfl, tv⟩⟩
       ·refine Aq (wq rfl (qL B8 AS rfl (qs AS rfl (qe rfl ?_))))
        obtain rfl := sj h
        refine Ag (sm [(1000, 2013), (1001, 2014), (1002, 2015)] [(6, oD (.ptr 6 0)), (7, iD 0)] [(6, .box [.own 1000, .own 1001, .own 1002]), (1000, .vec 1 (v15.1.fh.map Au)), (1001, .vec 1 (v15.1.fe.map Au)), (1002, .vec 1 (v15.1.ff.map DL))] rfl rfl) (As ?_)
        exact ⟨⟨[_, _], ⟨.cellN _ _ _ _ _ _ _ rfl rfl B8 AS rfl rfl (Io rfl), tm⟩, rfl⟩, ⟨rfl, rfl, rfl, tv⟩⟩
theorem JR (N : Nat) (p0 : Aa) (p1 : Ae) (p2 : List Al) (r : (List Ae) × Int × Int) (h : Dg N p0 p1 p2 = some r) : Ar zA0 83 [.e (.agg (Am p0)), .e (.agg (Bm p1)), pD (.sl (p2.map AM))] [(3, r.1.map EW)] (.tup [.one (.own 0), .one (iC r.2.1), .one (iC r.2.2)]) := by
 unfold Dg at h
 refine cw (n := 52) (rs := [.tmp 6, .tmp 7, .tmp 8]) Tryz.func83 fun w0 S0 => ?_
 refine wq rfl (qb rfl (qb rfl (qa rfl (qa rfl (qa rfl (Ac (wp rfl (qL D2 D0 rfl (qL B8 AS rfl ?_)))))))))
 refine Cg h fun v1 a1 h => Ay [] (GK N p0 p1 v1 a1) VC rfl (qa rfl (Ac (wq rfl (qm rfl (BJ rfl (Ac ?_))))))
 refine Bp h (fun h => ?_) fun h => ?_
 ·refine wq rfl (qm rfl (qa rfl (qa rfl (qe rfl ?_))))
  obtain rfl := sj h
  refine Ag ((E0 6 2001 3 rfl rfl rfl).trans (sm [(1000, 2001)] [(6, oD (.own 1000)), (7, iD 0), (8, iD v1)] [(1000, .vec 3 ((([] : List Ae)).map EW))] rfl rfl)) (As ?_)
  exact ⟨⟨[_, _, _], ⟨.tmp _ _ rfl, ⟨.tmp _ _ rfl, tm⟩⟩, rfl⟩, ⟨rfl, tv⟩⟩
 ·refine Aq (wq rfl (qL B8 AS rfl (Fm HE AS Do rfl (qa rfl (Ac (wp rfl (qe rfl ?_)))))))
  refine Ba (L := Cw N p0 p2) h (fun v3 => mk [(2, pD (.sl (p2.map AM))), (3, oD (.ptr 3 0)), (10, oD (.own 2002)), (11, iD v3.2)] [(3, .box (Am p0)), (2002, .vec 3 (v3.1.map EW))]) (fun v4 => mk [(2, pD (.sl (p2.map AM))), (10, oD (.own 2003))] [(2003, .vec 3 (v4.map EW))]) (fun _ _ => rfl) (sm [(2002, 21)] _ _ rfl rfl) (fun j3 n3 v3 h => ?_) (fun v4 s h hs => ?_)
  ·unfold Cw at h
   refine wp rfl (qw 2 rfl (AG Hi rfl (Bc rfl (Ac ?_))))
   refine Bp h (fun h => ?_) fun h => ?_
   ·refine Aq (AP (AQ (wq rfl (qL D2 D0 rfl (qw 2 rfl ?_)))))
    refine BW h fun v6 a6 b6 h => qI HE AS a6 (Ai b6) rfl (qJ B8 AS (Ai b6) rfl (qw 2 rfl ?_))
    refine BW h fun v7 a7 b7 h => qi Hi GN a7 (Ai b7) rfl (qK Ju GN rfl ?_)
    refine Cg h fun v8 a8 h => Ay [2004, 2005, 2006] (I6 N p0 v6 v7 v8 a8) VI rfl (qm rfl (qx rfl (qx rfl (qz Do rfl (qs AS rfl (qa rfl (AH (by kernel_rfl) (wp rfl (qm rfl (BJ rfl (Ac ?_)))))))))))
    refine Bp h (fun h => ?_) fun h => ?_
    ·refine wq rfl (qw 2 rfl (qa rfl (qa rfl (qe rfl ?_))))
     obtain rfl := sj h
     refine Ag ((E0 6 2007 3 rfl rfl rfl).trans (sm [(1000, 2007)] [(6, oD (.own 1000)), (7, iD v3.2), (8, iD v8.2)] [(1000, .vec 3 ((([] : List Ae)).map EW))] rfl rfl)) (As ?_)
     exact ⟨⟨[_, _, _], ⟨.tmp _ _ rfl, ⟨.tmp _ _ rfl, tm⟩⟩, rfl⟩, ⟨rfl, tv⟩⟩
    ·refine Aq (Ak Ax rfl (qm rfl (qL B8 AS rfl (FI (Cd 2004 _ _ rfl rfl) (FI (Cd 2005 _ _ rfl rfl) (FI (Cd 2006 _ _ rfl rfl) (Fm HE AS Do rfl ?_)))))))
     refine HH h fun c10 h => Kr (f := EW) HE HE AS Um Do c10 rfl (qa rfl (Ac (Ak Ax rfl (qm rfl (CB rfl (qe rfl ?_))))))
     exact sn [(2002, 48)] h
   ·refine B1 ?_
    exact sn [(2003, 2002)] h
  ·refine Ag hs (wq rfl (qw 2 rfl (AG Hi rfl (qa rfl (qa rfl (qe rfl ?_))))))
   obtain rfl := sj h
   refine Ag (sm [(1000, 2003)] [(6, oD (.own 1000)), (7, iD ((p2.length : Int))), (8, iD 0)] [(1000, .vec 3 (v4.map EW))] rfl rfl) (As ?_)
   exact ⟨⟨[_, _, _], ⟨.tmp _ _ rfl, ⟨.tmp _ _ rfl, tm⟩⟩, rfl⟩, ⟨rfl, tv⟩⟩
theorem Jd (N : Nat) (p0 : Aa) (p1 : List Al) (r : Int) (h : Dy N p0 p1 = some r) : Ar zA0 40 [.e (.agg (Am p0)), pD (.sl (p1.map AM))] [] (iD r) := by
 unfold Dy at h
 refine cw (n := 37) (rs := [.tmp 4]) Tryz.func40 fun w0 S0 => ?_
 refine wq rfl (qb rfl (qa rfl (Ac (wq rfl (qL D2 D0 rfl ?_)))))
 refine Cg h fun v1 a1 h => Ay [2001, 2002, 2003] (Jf N p0 v1 a1) W9 rfl (qm rfl (qx rfl (qx rfl (qz Do rfl (qs AS rfl (qa rfl (Ac (wp rfl (qm rfl (BJ rfl (Ac ?_)))))))))))
 refine Bp h (fun h => ?_) fun h => ?_
 ·refine wq rfl (qm rfl (qe rfl ?_))
  obtain rfl := sj h
  refine Ag (sm [] [(4, iD v1.2)] [] rfl rfl) (As ?_)
  exact ⟨⟨[_], tm, rfl⟩, tv⟩
 ·refine Aq (wp rfl (qe rfl ?_))
  refine Ba (L := Ce N p1) h (fun v3 => mk [(1, pD (.sl (p1.map AM))), (2, oD (.ptr 2 0)), (5, oD (.ptr 5 0)), (7, iD v3)] [(2, .box (Am p0)), (5, .box [.own 2004, .own 2005, .own 2006]), (2004, .vec 1 (v1.1.fh.map Au)), (2005, .vec 1 (v1.1.fe.map Au)), (2006, .vec 1 (v1.1.ff.map DL))]) (fun v4 => mk [(1, pD (.sl (p1.map AM))), (2, oD (.ptr 2 0)), (5, oD (.ptr 5 0))] [(2, .box (Am p0)), (5, .box [.own 2007, .own 2008, .own 2009]), (2007, .vec 1 (v1.1.fh.map Au)), (2008, .vec 1 (v1.1.fe.map Au)), (2009, .vec 1 (v1.1.ff.map DL))]) (fun _ _ => rfl) (sm [(2004, 2001), (2005, 2002), (2006, 2003)] _ _ rfl rfl) (fun j3 n3 v3 h => ?_) (fun v4 s h hs => ?_)
  ·unfold Ce at h
   refine wp rfl (qw 2 rfl (AG Hi rfl (Bc rfl (Ac ?_))))
   refine Bp h (fun h => ?_) fun h => ?_
   ·refine Aq (AP (AQ (wq rfl (qw 2 rfl ?_))))
    refine BW h fun v6 a6 b6 h => qi Hi GN a6 (Ai b6) rfl (qg DF rfl (qk Bg rfl (AN rfl (Ac ?_))))
    refine Bp h (fun h => ?_) fun h => ?_
    ·refine wq rfl (qe rfl ?_)
     obtain rfl := sj h
     refine Ag (sm [] [(4, iD 1)] [] rfl rfl) (As ?_)
     exact ⟨⟨[_], tm, rfl⟩, tv⟩
    ·refine Aq (Ak Ax rfl (qm rfl (CB rfl (qe rfl ?_))))
     exact sn [] h
   ·refine B1 ?_
    exact sn [(2007, 2004), (2008, 2005), (2009, 2006)] h
  ·refine Ag hs (wq rfl (qL D2 D0 rfl (qL B8 AS rfl (qm rfl (FI (Cd 2007 _ _ rfl rfl) (FI (Cd 2008 _ _ rfl rfl) (FI (Cd 2009 _ _ rfl rfl) ?_)))))))
   refine Cg h fun v8 a8 h => Ay [2010] (JR N p0 v1.1 p1 v8 a8) W7 rfl (qm rfl (qx rfl (qx rfl (qx rfl (qa rfl (Ac (wq rfl (qm rfl (qe rfl ?_)))))))))
   obtain rfl := sj h
   refine Ag (sm [] [(4, iD v8.2.2)] [] rfl rfl) (As ?_)
   exact ⟨⟨[_], tm, rfl⟩, tv⟩
theorem IJ (N : Nat) (p0 : Ab) (r : (List Int)) (h : Cv N p0 = some r) : Ar zA0 106 [.e (.agg (BA p0))] [(1, r.map Au)] (oD (.own 0)) := by
 unfold Cv at h
 refine cw (n := 35) (rs := [.tmp 2]) Tryz.func106 fun w0 S0 => ?_
 refine wq rfl (qb rfl (qa rfl (Ac (wp rfl (qf DN rfl (ql Bg rfl (Ac (AQ (wq rfl (AN rfl (qe rfl ?_)))))))))))
 refine Bp h (fun h => ?_) fun h => ?_
 ·refine wq rfl (qf Hn rfl (ql Bg rfl (qf Hw rfl (ql Bg rfl (qf H7 rfl (ql Bg rfl (Fm Cn In TY rfl (qe rfl ?_))))))))
  obtain rfl := sj h
  refine Ag (sm [(1000, 13)] [(2, oD (.own 1000))] [(1000, .vec 1 ((([p0.fA, p0.fB, p0.fF] : List Int)).map Au))] rfl rfl) (As ?_)
  exact ⟨⟨[_], tm, rfl⟩, ⟨rfl, tv⟩⟩
 ·refine wq rfl (AN rfl (qe rfl ?_))
  refine Bp h (fun h => ?_) fun h => ?_
  ·refine wq rfl (qf H2 rfl (ql Bg rfl (qf J7 rfl (ql Bg rfl (qf I3 rfl (ql Bg rfl (Fm Cn In TY rfl (qe rfl ?_))))))))
   obtain rfl := sj h
   refine Ag (sm [(1000, 22)] [(2, oD (.own 1000))] [(1000, .vec 1 ((([p0.fu, p0.fr, p0.fJ] : List Int)).map Au))] rfl rfl) (As ?_)
   exact ⟨⟨[_], tm, rfl⟩, ⟨rfl, tv⟩⟩
  ·refine wq rfl (AN rfl (qe rfl ?_))
   refine Bp h (fun h => ?_) fun h => ?_
   ·refine wq rfl (qf JP rfl (ql Bg rfl (qf Fv rfl (ql HI rfl (Fm Cn In TY rfl (qe rfl ?_))))))
    obtain rfl := sj h
    refine Ag (sm [(1000, 29)] [(2, oD (.own 1000))] [(1000, .vec 1 ((([p0.fM, p0.fw] : List Int)).map Au))] rfl rfl) (As ?_)
    exact ⟨⟨[_], tm, rfl⟩, ⟨rfl, tv⟩⟩
   ·refine Aq (wq rfl (qf JQ rfl (ql Bg rfl (qf Fv rfl (ql HI rfl (Fm Cn In TY rfl (qe rfl ?_)))))))
    obtain rfl := sj h
    refine Ag (sm [(1000, 34)] [(2, oD (.own 1000))] [(1000, .vec 1 ((([p0.fm, p0.fw] : List Int)).map Au))] rfl rfl) (As ?_)
    exact ⟨⟨[_], tm, rfl⟩, ⟨rfl, tv⟩⟩
theorem Jt (N : Nat) (p0 : Int) (p1 : Int) (p2 : List Int) (r : Ab) (h : Cq N p0 p1 p2 = some r) : Ar zA0 107 [iD p0, iD p1, pD (.sl (p2.map Au))] [] (.e (.agg (BA r))) := by
 unfold Cq at h
 refine cw (n := 59) (rs := [.cell 6 37]) Tryz.func107 fun w0 S0 => ?_
 refine wq rfl (qz HB rfl (Ac (wq rfl (qw 2 rfl (BD HB QR rfl (qz HB rfl (qs C2 rfl (Ac ?_))))))))
 refine AK h (fun v1 => mk [(6, oD (.ptr 6 0)), (7, oD (.ptr 7 0))] [(6, .box [iC 0, iC 0, iC 0, iC 0, iC 0, iC 0, iC 0, iC 0, iC 0, iC 0, iC 0]), (7, .box [iC p0, iC p1, iC v1.1, iC v1.2.1, iC v1.2.2.1, iC v1.2.2.2.1, iC v1.2.2.2.2.1, iC v1.2.2.2.2.2.1, iC v1.2.2.2.2.2.2.1, iC v1.2.2.2.2.2.2.2.1, iC v1.2.2.2.2.2.2.2.2])]) (fun j1 h => ?_) (fun v1 h => ?_)
 ·refine wq rfl (qm rfl (Ac (AQ (wq rfl (AN rfl (qe rfl ?_))))))
  refine Bp h (fun h => ?_) fun h => ?_
  ·refine Ak Ax rfl (qm rfl ?_)
   refine BW h fun v3 a3 b3 h => qi Cn In a3 (Ai b3) rfl (qk HI rfl (qm rfl ?_))
   refine BW h fun v4 a4 b4 h => qi Cn In a4 (Ai b4) rfl (qk HI rfl (qm rfl ?_))
   refine BW h fun v5 a5 b5 h => qi Cn In a5 (Ai b5) rfl (qk HI rfl (qf Hn rfl (qs CU rfl (qf Hw rfl (qs CU rfl (qf H7 rfl (qs CU rfl (AH (by kernel_rfl) ?_))))))))
   exact sn [] h
  ·refine wq rfl (AN rfl (qe rfl ?_))
   refine Bp h (fun h => ?_) fun h => ?_
   ·refine Ak Ax rfl (qm rfl ?_)
    refine BW h fun v7 a7 b7 h => qi Cn In a7 (Ai b7) rfl (qk HI rfl (qm rfl ?_))
    refine BW h fun v8 a8 b8 h => qi Cn In a8 (Ai b8) rfl (qk HI rfl (qm rfl ?_))
    refine BW h fun v9 a9 b9 h => qi Cn In a9 (Ai b9) rfl (qk HI rfl (qf H2 rfl (qs CU rfl (qf J7 rfl (qs CU rfl (qf I3 rfl (qs CU rfl (AH (by kernel_rfl) ?_))))))))
    exact sn [] h
   ·refine wq rfl (AN rfl (qe rfl ?_))
    refine Bp h (fun h => ?_) fun h => ?_
    ·refine Ak Ax rfl (qm rfl ?_)
     refine BW h fun v11 a11 b11 h => qi Cn In a11 (Ai b11) rfl (qk HI rfl (qm rfl ?_))
     refine BW h fun v12 a12 b12 h => qi Cn In a12 (Ai b12) rfl (qk HI rfl (qf JP rfl (qs CU rfl (qf Fv rfl (qs In rfl (AH (by kernel_rfl) ?_))))))
     exact sn [] h
    ·refine Ak Ax rfl (qm rfl ?_)
     refine BW h fun v13 a13 b13 h => qi Cn In a13 (Ai b13) rfl (qk HI rfl (qm rfl ?_))
     refine BW h fun v14 a14 b14 h => qi Cn In a14 (Ai b14) rfl (qk HI rfl (qf JQ rfl (qs CU rfl (qf Fv rfl (qs In rfl (AH (by kernel_rfl) ?_))))))
     exact sn [] h
 ·refine wq rfl (qL F1 C2 rfl (qs C2 rfl (Ac ?_)))
  obtain rfl := sj h
  refine Ag (sm [] [(6, oD (.ptr 6 0))] [(6, .box [iC p0, iC p1, iC v1.1, iC v1.2.1, iC v1.2.2.1, iC v1.2.2.2.1, iC v1.2.2.2.2.1, iC v1.2.2.2.2.2.1, iC v1.2.2.2.2.2.2.1, iC v1.2.2.2.2.2.2.2.1, iC v1.2.2.2.2.2.2.2.2])] rfl rfl) (As ?_)
  exact ⟨⟨[_], ⟨.cellN _ _ _ _ _ _ _ rfl rfl F1 C2 rfl rfl (Io rfl), tv⟩, rfl⟩, tv⟩
theorem I9 (N : Nat) (p0 : Ab) (r : Bool) (h : Dt N p0 = some r) : Ar zA0 70 [.e (.agg (BA p0))] [] (bD r) := by
 unfold Dt at h
 refine cw (n := 39) (rs := [.tmp 2]) Tryz.func70 fun w0 S0 => ?_
 refine wq rfl (qb rfl (qa rfl (Ac (AP ?_))))
 refine AK h (fun v1 => mk [(1, oD (.ptr 1 0)), (17, bD v1)] [(1, .box (BA p0))]) (fun j1 h => ?_) (fun v1 h => ?_)
 ·refine Ak Ax rfl (qf DN rfl (ql Bg rfl (Bc rfl (qm rfl ?_))))
  refine CS 8 h rfl (fun h => ?_) fun h => ?_
  ·refine qw 3 rfl (qp rfl (qw 4 rfl (qp rfl (Ac ?_))))
   exact sn [] h
  ·refine qf DN rfl (ql Bg rfl (Ei rfl (qp rfl (qm rfl ?_))))
   refine CS 13 h rfl (fun h => ?_) fun h => ?_
   ·refine qw 3 rfl (qp rfl (Ac ?_))
    exact sn [] h
   ·refine qf GQ rfl (ql HI rfl (Bc rfl (qp rfl (Ac ?_))))
    exact sn [] h
 ·refine Bp h (fun h => ?_) fun h => ?_
  ·refine wq rfl (qe rfl ?_)
   obtain rfl := sj h
   refine Ag (sm [] [(2, bD false)] [] rfl rfl) (As ?_)
   exact ⟨⟨[_], tm, rfl⟩, tv⟩
  ·refine Aq (wq rfl (qL F1 C2 rfl ?_))
   refine Cg h fun v5 a5 h => Ay [2001] (IJ N p0 v5 a5) VB rfl (qa rfl (Ac (wp rfl (qe rfl ?_))))
   refine Ba (L := BV N v5) h (fun v6 => mk [(1, oD (.ptr 1 0)), (3, oD (.own 2002)), (4, iD v6)] [(1, .box (BA p0)), (2002, .vec 1 (v5.map Au))]) (fun v7 => mk [(1, oD (.ptr 1 0)), (3, oD (.own 2003))] [(1, .box (BA p0)), (2003, .vec 1 (v5.map Au))]) (fun _ _ => rfl) (sm [(2002, 2001)] _ _ rfl rfl) (fun j6 n6 v6 h => ?_) (fun v7 s h hs => ?_)
   ·unfold BV at h
    refine wp rfl (qw 2 rfl (PU Cn rfl (Bc rfl (Ac ?_))))
    refine Bp h (fun h => ?_) fun h => ?_
    ·refine Aq (AP (AQ (wq rfl (qw 2 rfl ?_))))
     refine BW h fun v9 a9 b9 h => qI Cn In a9 (Ai b9) rfl (qj HI (Ai b9) rfl (Bc rfl (Ac ?_)))
     refine Bp h (fun h => ?_) fun h => ?_
     ·refine wq rfl (qe rfl ?_)
      obtain rfl := sj h
      refine Ag (sm [] [(2, bD false)] [] rfl rfl) (As ?_)
      exact ⟨⟨[_], tm, rfl⟩, tv⟩
     ·refine Aq (Ak Ax rfl (qm rfl (CB rfl (qe rfl ?_))))
      exact sn [] h
    ·refine B1 ?_
     exact sn [(2003, 2002)] h
   ·refine Ag hs (wq rfl (qf GQ rfl (ql HI rfl (qf DN rfl (ql Bg rfl (qm rfl ?_))))))
    refine Cg h fun v11 a11 h => F5 [] [2003] (Jt N p0.fi p0.fa v5 v11 a11) Vr Er rfl (qL F1 C2 rfl ?_)
    refine Un [.int .i64 v11.fi, .int .i64 v11.fa, .int .i64 v11.fA, .int .i64 v11.fB, .int .i64 v11.fF, .int .i64 v11.fm, .int .i64 v11.fw, .int .i64 v11.fJ, .int .i64 v11.fu, .int .i64 v11.fr, .int .i64 v11.fM] [.int .i64 p0.fi, .int .i64 p0.fa, .int .i64 p0.fA, .int .i64 p0.fB, .int .i64 p0.fF, .int .i64 p0.fm, .int .i64 p0.fw, .int .i64 p0.fJ, .int .i64 p0.fu, .int .i64 p0.fr, .int .i64 p0.fM] (.p rfl) rfl rfl T9 rfl ?_
    refine qa rfl (AH (by kernel_rfl) ?_)
    obtain rfl := sj h
    refine Ag (sm [] [(2, bD (((v11.fi == p0.fi) && ((v11.fa == p0.fa) && ((v11.fA == p0.fA) && ((v11.fB == p0.fB) && ((v11.fF == p0.fF) && ((v11.fm == p0.fm) && ((v11.fw == p0.fw) && ((v11.fJ == p0.fJ) && ((v11.fu == p0.fu) && ((v11.fr == p0.fr) && ((v11.fM == p0.fM) && true)))))))))))))] [] rfl rfl) (As ?_)
    exact ⟨⟨[_], tm, rfl⟩, tv⟩
theorem GF (N : Nat) (p0 : List Ab) (r : Int) (h : BY N p0 = some r) : Ar zA0 33 [pD (.sl (p0.map AE))] [] (iD r) := by
 unfold BY at h
 refine cw (n := 37) (rs := [.tmp 2]) Tryz.func33 fun w0 S0 => ?_
 refine wq rfl (qa rfl (Ac (wp rfl (qm rfl (AG Dz rfl (Ei rfl (Ac ?_)))))))
 refine Bp h (fun h => ?_) fun h => ?_
 ·refine wq rfl (qe rfl ?_)
  obtain rfl := sj h
  refine Ag (sm [] [(2, iD 3)] [] rfl rfl) (As ?_)
  exact ⟨⟨[_], tm, rfl⟩, tv⟩
 ·refine Aq (wp rfl (qe rfl ?_))
  refine Ba (L := Cf N p0) h (fun v2 => mk [(0, pD (.sl (p0.map AE))), (3, iD v2)] []) (fun v3 => mk [] []) (fun _ _ => rfl) (sm [] _ _ rfl rfl) (fun j2 n2 v2 h => ?_) (fun v3 s h hs => ?_)
  ·unfold Cf at h
   refine wp rfl (qw 2 rfl (AG Dz rfl (Bc rfl (Ac ?_))))
   refine Bp h (fun h => ?_) fun h => ?_
   ·refine Aq (AP (AQ ?_))
    refine AK h (fun v5 => mk [(0, pD (.sl (p0.map AE))), (3, iD v2), (36, bD v5)] []) (fun j5 h => ?_) (fun v5 h => ?_)
    ·refine Ak Ax rfl (qw 2 rfl ?_)
     refine BW h fun v6 a6 b6 h => qi Dz C2 a6 (Ai b6) rfl (qK F1 C2 rfl ?_)
     refine Cg h fun v7 a7 h => Ay [] (I9 N v6 v7 a7) WQ rfl (CM rfl (qm rfl ?_))
     refine CS 19 h rfl (fun h => ?_) fun h => ?_
     ·refine qw 3 rfl (qu rfl (qu rfl (qu rfl (qu rfl (qu rfl (qu rfl (qu rfl (qu rfl (qu rfl (qu rfl (qu rfl (qu rfl (qn rfl (qp rfl (AH (by kernel_rfl) ?_)))))))))))))))
      exact sn [] h
     ·refine qm rfl (Ei rfl (qm rfl ?_))
      refine CS 22 h rfl (fun h => ?_) fun h => ?_
      ·refine qw 2 rfl ?_
       refine BW h fun v10 a10 b10 h => qi Dz C2 a10 (Ai b10) rfl (qg GQ rfl (qk HI rfl (qw 2 rfl (K1 rfl ?_))))
       refine BW h fun v11 a11 b11 h => qi Dz C2 a11 (Ai b11) rfl (qg GQ rfl (qk HI rfl (Bc rfl (qp rfl (qp rfl (AH (by kernel_rfl) ?_))))))
       exact sn [] h
      ·refine qw 12 rfl (qp rfl (qp rfl (AH (by kernel_rfl) ?_)))
       exact sn [] h
    ·refine Bp h (fun h => ?_) fun h => ?_
     ·refine wq rfl (qe rfl ?_)
      obtain rfl := sj h
      refine Ag (sm [] [(2, iD 1)] [] rfl rfl) (As ?_)
      exact ⟨⟨[_], tm, rfl⟩, tv⟩
     ·refine Aq (Ak Ax rfl (qm rfl (CB rfl (qe rfl ?_))))
      exact sn [] h
   ·refine B1 ?_
    exact sn [] h
  ·refine Ag hs (wq rfl (qe rfl ?_))
   obtain rfl := sj h
   refine Ag (sm [] [(2, iD 0)] [] rfl rfl) (As ?_)
   exact ⟨⟨[_], tm, rfl⟩, tv⟩
theorem I5 (N : Nat) (p0 : Aa) (p1 : List Int) (p2 : List Al) (p3 : List Ab) (r : Int) (h : CL N p0 p1 p2 p3 = some r) : Ar zA0 23 [.e (.agg (Am p0)), pD (.sl (p1.map Au)), pD (.sl (p2.map AM)), pD (.sl (p3.map AE))] [] (iD r) := by
 unfold CL at h
 refine cw (n := 25) (rs := [.tmp 8]) Tryz.func23 fun w0 S0 => ?_
 refine wq rfl (qb rfl (qa rfl (Ac (wp rfl (qL D2 D0 rfl (qm rfl ?_))))))
 refine Cg h fun v1 a1 h => Ay [] (Ik N p0 p1 v1 a1) Xb rfl (qa rfl (Ac (wq rfl (qm rfl (BJ rfl (Ac ?_))))))
 refine Bp h (fun h => ?_) fun h => ?_
 ·refine wq rfl (qm rfl (qe rfl ?_))
  obtain rfl := sj h
  refine Ag (sm [] [(8, iD v1)] [] rfl rfl) (As ?_)
  exact ⟨⟨[_], tm, rfl⟩, tv⟩
 ·refine Aq (wp rfl (qL D2 D0 rfl (qm rfl ?_)))
  refine Cg h fun v3 a3 h => Ay [] (Jd N p0 p2 v3 a3) W8 rfl (qa rfl (Ac (wq rfl (qm rfl (BJ rfl (Ac ?_))))))
  refine Bp h (fun h => ?_) fun h => ?_
  ·refine wq rfl (qm rfl (qe rfl ?_))
   obtain rfl := sj h
   refine Ag (sm [] [(8, iD v3)] [] rfl rfl) (As ?_)
   exact ⟨⟨[_], tm, rfl⟩, tv⟩
  ·refine Aq (wq rfl (qm rfl ?_))
   refine Cg h fun v5 a5 h => Ay [] (GF N p3 v5 a5) VN rfl (qe rfl ?_)
   obtain rfl := sj h
   refine Ag (sm [] [(8, iD v5)] [] rfl rfl) (As ?_)
   exact ⟨⟨[_], tm, rfl⟩, tv⟩
theorem DX (N : Nat) (p0 : List Ab) (r : (List Ab)) (h : Bb N p0 = some r) : Ar zA0 14 [pD (.sl (p0.map AE))] [(11, r.map AE)] (oD (.own 0)) := by
 unfold Bb at h
 refine cw (n := 8) (rs := [.tmp 2]) Tryz.func14 fun w0 S0 => ?_
 refine wq rfl (qa rfl (Ac (wp rfl (qm rfl ?_))))
 refine Nw (.p rfl) rfl Dz ?_
 refine Ac ?_
 refine NB rfl (fun c2 => ?_) ?_
 ·have c2 := zI4.1 c2
  rw [c2] at h
  have h : (some (([] : List Ab))) = some r := h
  refine wq rfl (qe rfl ?_)
  obtain rfl := sj h
  refine Ag ((E0 2 2001 11 rfl rfl rfl).trans (sm [(1000, 2001)] [(2, oD (.own 1000))] [(1000, .vec 11 ((([] : List Ab)).map AE))] rfl rfl)) (As ?_)
  exact ⟨⟨[_], tm, rfl⟩, ⟨rfl, tv⟩⟩
 ·refine Aq (wq rfl (Fm Dz C2 HB rfl (qm rfl ?_)))
  refine HH h fun c1 h => KA (f := AE) Dz Dz C2 RT HB (fun _ => rfl) c1 rfl (qe rfl ?_)
  obtain rfl := sj h
  refine Ag (sm [(1000, 7)] [(2, oD (.own 1000))] [(1000, .vec 11 (((([] : List Ab)) ++ p0).map AE))] rfl rfl) (As ?_)
  exact ⟨⟨[_], tm, rfl⟩, ⟨rfl, tv⟩⟩
open IntKind renaming wrap → wI
set_option maxRecDepth 1000000 in
theorem S1 (a : Option Addr) (n c : Nat) (p : Option Addr) (vc : Nat) (w : World) (r : Value) (w1 : World) (ha : a = none → c = 0) (hnc : n ≤ c)
  (hA : ∀ ty, (Builtin.append_ #[27, 27] ty #[.slice a n c, .slice p 1 vc]).run zA0 w = .ok r w1) :
  Calls zA0 32 #[.slice a n c, .int .i64 (n : Int), .slice p 1 vc] w fun e w' => e = .returned r ∧ w' = w1 := by
 go_enter Tryz.func32, Tryz.ntmps32
 cases a with
 | none =>
  have h0 := ha rfl
  subst h0
  obtain rfl : n = 0 := by omega
  go_wp2_with (at_builtin; refine Lib.wpList_append_run _ rfl _ _ _ _ rfl _ _ rfl rfl _ _ (hA _) ?_)
  go_ret
  exact ⟨rfl, rfl⟩
 | some a =>
  obtain ⟨ab, ao, asp⟩ := a
  go_wp2_with (at_builtin; refine Lib.wpList_append_run _ rfl _ _ _ _ rfl _ _ rfl rfl _ _ (hA _) ?_)
  all_goals (go_ret; exact ⟨rfl, rfl⟩)
set_option maxHeartbeats 4000000 in
set_option maxRecDepth 1000000 in
theorem Tf (b i n c G B : Nat) (p : Option Addr) (vc : Nat) (w w1 w2 w3 : World) (r1 r2 : Value) (hi : i < n) (hnl : n ≤ 4294967296) (hnc : n ≤ c) (hc : c < n + 1) (hG : n + 1 ≤ G)
  (hZ : ∀ ty, (Builtin.append_ #[27, 3] ty #[.slice (some ⟨b, 0, none⟩) i c, .int .i64 ((n : Int) + 1 - (i : Int))]).run zA0 w = .ok (.slice (some ⟨B, 0, none⟩) (n + 1) G) w1)
  (h1 : ∀ ty dc, (Builtin.copy_ #[27, 27] ty #[.slice (some ⟨B, i * 11, none⟩) (n + 1 - i) dc, .slice p 1 vc]).run zA0 w1 = .ok r1 w2)
  (h2 : ∀ ty dc sc, (Builtin.copy_ #[27, 27] ty #[.slice (some ⟨B, (i + 1) * 11, none⟩) (n + 1 - (i + 1)) dc, .slice (some ⟨b, i * 11, none⟩) (n - i) sc]).run zA0 w2.drew = .ok r2 w3) :
  Calls zA0 32 #[.slice (some ⟨b, 0, none⟩) n c, .int .i64 (i : Int), .slice p 1 vc] w fun e w' => e = .returned (.slice (some ⟨B, 0, none⟩) (n + 1) G) ∧ w' = w3 := by
 have hw1 : IntKind.i64.wrap ((i : Int) + 1) = (i : Int) + 1 := by rw [IntKind.wrap_i64]; omega
 have hw2 : IntKind.i64.wrap ((n : Int) + 1) = (n : Int) + 1 := by rw [IntKind.wrap_i64]; omega
 have hw3 : IntKind.i64.wrap ((n : Int) + 1 - (i : Int)) = (n : Int) + 1 - (i : Int) := by rw [IntKind.wrap_i64]; omega
 have hz2 : ¬ ((i : Int) = (n : Int)) := by omega
 have hz3 : (c : Int) < (n : Int) + 1 := by omega
 have hGi : ¬ (G = i) := by omega
 have hGim : ¬ (G = i + 1) := by omega
 have hci : ¬ (c = i) := by omega
 have hb1 : (0 : Int) ≤ (i : Int) + 1 := by omega
 have hin : i ≤ n := by omega
 have htn : ((i : Int) + 1).toNat = i + 1 := by omega
 have hb3 : (i : Int) ≤ (n : Int) := by omega
 have Ax : Tryz.prog.follows .mixedOrders = true := by kernel_rfl
 go_enter Tryz.func32, Tryz.ntmps32
 go_wp2_with (first
  | (at_builtin; refine Lib.wpList_append_run _ rfl _ _ _ _ rfl _ _ rfl rfl _ _ (hZ _) ?_)
  | (at_builtin; refine wpList_copy_runI _ rfl _ _ 27 27 rfl _ _ rfl rfl (h1 _ _) ?_))
 go_region_law_o (refine step_copy_runI rfl _ _ 27 27 rfl (.slice (some ⟨B, (i + 1) * 11, none⟩) (n + 1 - (i + 1)) (G - (i + 1))) (.slice (some ⟨b, i * 11, none⟩) (n - i) (c - i)) (by simp [Act.eval, Act.put]) (by simp [Act.eval, Act.put]) (h2 3 (G - (i + 1)) (c - i)) ?_)
 go_wp2
 go_ret
 exact ⟨rfl, rfl⟩
set_option maxHeartbeats 4000000 in
set_option maxRecDepth 1000000 in
theorem Tg (b i n c : Nat) (p : Option Addr) (vc : Nat) (w w1 w2 : World) (r1 r2 : Value) (hi : i < n) (hnl : n ≤ 4294967296) (hc : n + 1 ≤ c)
  (hov : ∀ lb cb, (callFunc 68 #[.slice p 1 vc, .slice (some ⟨b, (i + 1) * 11, none⟩) lb cb]).run zA0 w = .ok (.value (.bool false)) w)
  (h1 : ∀ ty dc sc, (Builtin.copy_ #[27, 27] ty #[.slice (some ⟨b, (i + 1) * 11, none⟩) (n + 1 - (i + 1)) dc, .slice (some ⟨b, i * 11, none⟩) (n + 1 - i) sc]).run zA0 w.drew = .ok r1 w1)
  (h2 : ∀ ty dc, (Builtin.copy_ #[27, 27] ty #[.slice (some ⟨b, i * 11, none⟩) (n + 1 - i) dc, .slice p 1 vc]).run zA0 w1 = .ok r2 w2) :
  Calls zA0 32 #[.slice (some ⟨b, 0, none⟩) n c, .int .i64 (i : Int), .slice p 1 vc] w fun e w' => e = .returned (.slice (some ⟨b, 0, none⟩) (n + 1) c) ∧ w' = w2 := by
 have hw1 : IntKind.i64.wrap ((i : Int) + 1) = (i : Int) + 1 := by rw [IntKind.wrap_i64]; omega
 have hw2 : IntKind.i64.wrap ((n : Int) + 1) = (n : Int) + 1 := by rw [IntKind.wrap_i64]; omega
 have hz2 : ¬ ((i : Int) = (n : Int)) := by omega
 have hz3 : ¬ ((c : Int) < (n : Int) + 1) := by omega
 have hb1 : (0 : Int) ≤ (i : Int) + 1 := by omega
 have hb0 : (0 : Int) ≤ (n : Int) + 1 := by omega
 have hin : i ≤ n := by omega
 have htn : ((i : Int) + 1).toNat = i + 1 := by omega
 have htm : ((n : Int) + 1).toNat = n + 1 := by omega
 have hb2 : ¬ (c = i + 1) := by omega
 have hb3 : (i : Int) ≤ (n : Int) + 1 := by omega
 have hb4 : ¬ (c = i) := by omega
 have Ax : Tryz.prog.follows .mixedOrders = true := by kernel_rfl
 go_enter Tryz.func32, Tryz.ntmps32
 go_wp2_with (simp only [hov])
 go_region_law_o (refine step_copy_runI rfl _ _ 27 27 rfl (.slice (some ⟨b, (i + 1) * 11, none⟩) (n + 1 - (i + 1)) (c - (i + 1))) (.slice (some ⟨b, i * 11, none⟩) (n + 1 - i) (c - i)) (by simp [Act.eval, Act.put]) (by simp [Act.eval, Act.put]) (h1 3 (c - (i + 1)) (c - i)) ?_)
 go_wp2_with (at_builtin; refine wpList_copy_runI _ rfl _ _ 27 27 rfl _ _ rfl rfl (h2 _ _) ?_)
 go_ret
 exact ⟨rfl, rfl⟩
theorem Fp (N : Nat) (p0 : List Ab) (p1 : Int) (p2 : List Ab) (r : List Ab) (h : Cr N p0 p1 p2 = some r) : HJ zA0 32 [oD (.own 90900), iD p1, pD (.sl (p2.map AE))] (.vec 11 (p0.map AE)) [.vec 11 (r.map AE)] (oD (.own 0)) :=
 R9 (bytes := 0) (tS := 27) (el := 37) rfl (fun rows x i hx hi hl => Rv (ov := 68) (tR := 4) (ti := 3) Dz (by kernel_rfl) C2 RT (GO rfl) HB rfl (by decide)
  (fun w x y hq => by rw [run_callFunc_extern Tryz.func68 (by kernel_rfl) (by kernel_rfl) (by kernel_rfl) (e := Extern.SlicesOverlaps.overlaps #[27, 27] #[4]) (by kernel_rfl), hq]; rfl)
  (fun a n c p vc w r w1 g1 g2 g3 => S1 a n c p vc w r w1 g1 g2 g3) (fun b i n c C B p vc w w1 w2 w3 r1 r2 g1 g2 g3 g4 g5 g6 g7 g8 => Tf b i n c C B p vc w w1 w2 w3 r1 r2 g1 g2 g3 g4 g5 g6 g7 g8) (fun b i n c p vc w w1 w2 r1 r2 g1 g2 g3 g4 g5 g6 => Tg b i n c p vc w w1 w2 r1 r2 g1 g2 g3 g4 g5 g6) hx hi hl) (fun _ => rfl) h
theorem G7 (N : Nat) (p0 : BB) (p1 : Int) (r : Bool) (h : Cc N p0 p1 = some r) : Ar zA0 10 [.e (.agg (C6 p0)), pD (.val (.int .u8 p1))] [] (bD r) := by
 unfold Cc at h
 refine cw (n := 142) (rs := [.tmp 4]) Tryz.func10 fun w0 S0 => ?_
 refine wq rfl (qb rfl (qa rfl (Ac (AP ?_))))
 refine AK h (fun v1 => mk [(1, pD (.val (.int .u8 p1))), (2, oD (.ptr 2 0)), (37, bD v1)] [(2, .box (C6 p0))]) (fun j1 h => ?_) (fun v1 h => ?_)
 ·refine Ak Ax rfl ?_
  refine Cg h fun v2 a2 h => Ay [] (GH N v2 a2) VE rfl (CM rfl (qm rfl ?_))
  refine CS 21 h rfl (fun h => ?_) fun h => ?_
  ·refine qw 3 rfl (qp rfl (qw 11 rfl (qp rfl (Ac ?_))))
   exact sn [] h
  ·refine qL Xm WV rfl ?_
   refine Cg h fun v4 a4 h => Ay [] (J4 N ((BB.mk ((Aa.mk p0.fb.fc p0.fb.fk p0.fb.fp p0.fb.fd)) p0.fK p0.fq p0.ft)) v4 a4) Xn rfl (CM rfl (qp rfl (qm rfl ?_)))
   refine CS 26 h rfl (fun h => ?_) fun h => ?_
   ·refine qw 10 rfl (qp rfl (Ac ?_))
    exact sn [] h
   ·refine qf Kd rfl (qL D2 D0 rfl (qf JT rfl (ql Bi rfl (qf J6 rfl (ql Pj rfl (qf GU rfl (ql Np rfl ?_)))))))
    refine Cg h fun v6 a6 h => Ay [] (I5 N ((Aa.mk p0.fb.fc p0.fb.fk p0.fb.fp p0.fb.fd)) p0.fK p0.fq p0.ft v6 a6) Xf rfl (BJ rfl (qp rfl (Ac ?_)))
    exact sn [] h
 ·refine Bp h (fun h => ?_) fun h => ?_
  ·refine wq rfl ?_
   refine Cg h fun v8 a8 h => Ay [] (GH N v8 a8) VE rfl (qe rfl ?_)
   obtain rfl := sj h
   refine Ag (sm [] [(4, bD v8)] [] rfl rfl) (As ?_)
   exact ⟨⟨[_], tm, rfl⟩, tv⟩
  ·refine Aq (wp rfl (qf Kd rfl (qL D2 D0 rfl (qf JT rfl (ql Bi rfl (qf J6 rfl (ql Pj rfl (qf GU rfl (ql Np rfl ?_)))))))))
   refine Cg h fun v9 a9 h => Ay [2001] (DX N p0.ft v9 a9) VM rfl ?_
   refine Cg h fun v10 a10 h => F5 [] [2001] (Fo N ((Aa.mk p0.fb.fc p0.fb.fk p0.fb.fp p0.fb.fd)) p0.fK p0.fq v9 v10 a10) Sb Er rfl (qm rfl (qx rfl (qx rfl (qx rfl (qa rfl (qa rfl (qa rfl (AH (by kernel_rfl) ?_))))))))
   refine AK h (fun v11 => mk [(1, pD (.val (.int .u8 p1))), (2, oD (.ptr 2 0)), (7, iD v10.2.2), (60, bD v11)] [(2, .box (C6 p0))]) (fun j11 h => ?_) (fun v11 h => ?_)
   ·refine Ak Ax rfl (qm rfl (BJ rfl (qm rfl ?_)))
    refine CS 55 h rfl (fun h => ?_) fun h => ?_
    ·refine qw 4 rfl (qp rfl (Ac ?_))
     exact sn [] h
    ·refine qf GU rfl (ql Np rfl (AG Dz rfl (AN rfl (qp rfl (Ac ?_)))))
     exact sn [] h
   ·refine Bp h (fun h => ?_) fun h => ?_
    ·refine AK h (fun v14 => mk [(4, bD v14)] []) (fun j14 h => ?_) (fun v14 h => ?_)
     ·refine Ak Ax rfl (qm rfl (AN rfl (qm rfl ?_)))
      refine CS 63 h rfl (fun h => ?_) fun h => ?_
      ·refine qw 2 rfl (qp rfl (qe rfl ?_))
       exact sn [] h
      ·refine qm rfl (AN rfl (qp rfl (qe rfl ?_)))
       exact sn [] h
     ·obtain rfl := sj h
      refine Ag (sm [] [(4, bD v14)] [] rfl rfl) (As ?_)
      exact ⟨⟨[_], tm, rfl⟩, tv⟩
    ·refine Aq (wq rfl (qa rfl (Ac (wp rfl (qf GU rfl (ql Np rfl (AG Dz rfl (qm rfl (Ac ?_)))))))))
     refine Ba (L := Bs N p0) h (fun v16 => mk [(1, pD (.val (.int .u8 p1))), (2, oD (.ptr 2 0)), (8, oD (.own 2002)), (68, pD (.sl (p0.ft.map AE))), (69, iD ((p0.ft.length : Int))), (70, iD v16.2)] [(2, .box (C6 p0)), (2002, .vec 11 (v16.1.map AE))]) (fun v17 => mk [(1, pD (.val (.int .u8 p1))), (2, oD (.ptr 2 0)), (8, oD (.own 2003))] [(2, .box (C6 p0)), (2003, .vec 11 (v17.map AE))]) (fun _ _ => rfl) ((E0 8 2005 11 rfl rfl rfl).trans (sm [(2002, 2005)] _ _ rfl rfl)) (fun j16 n16 v16 h => ?_) (fun v17 s h hs => ?_)
     ·unfold Bs at h
      refine wq rfl (Bc rfl (Ac (AP ?_)))
      refine Bp h (fun h => ?_) fun h => ?_
      ·refine Aq ?_
       refine AK h (fun v19 => mk [(1, pD (.val (.int .u8 p1))), (2, oD (.ptr 2 0)), (8, oD (.own 2004)), (68, pD (.sl (p0.ft.map AE))), (69, iD ((p0.ft.length : Int))), (70, iD v16.2)] [(2, .box (C6 p0)), (2004, .vec 11 (v19.map AE))]) (fun j19 h => ?_) (fun v19 h => ?_)
       ·refine AQ (wq rfl ?_)
        refine BW h fun v20 a20 b20 h => qi Dz C2 a20 (Ai b20) rfl (qK F1 C2 rfl (qz HB rfl (qs C2 rfl (Ac (wq rfl (qf DN rfl (ql Bg rfl (BJ rfl (Ac ?_)))))))))
        refine Bp h (fun h => ?_) fun h => ?_
        ·refine Ak Ax rfl (qm rfl (qL F1 C2 rfl (Fm Dz C2 HB rfl ?_)))
         refine HH h fun c22 h => Kr (f := AE) Dz Dz C2 RT HB c22 rfl (qe rfl ?_)
         exact sn [(2004, 80)] h
        ·refine Aq ?_
         exact sn [(2004, 2002)] h
       ·refine Ak Ax rfl (CB rfl (qm rfl (Ac ?_)))
        exact sn [(2002, 2004)] h
      ·refine B1 ?_
       exact sn [(2003, 2002)] h
     ·refine Ag hs (wq rfl (qm rfl (Kt Xy Xl rfl (qf GU rfl (ql Np rfl (AG Dz rfl ?_))))))
      refine HH h fun c23 h => Wj rfl c23 (qa rfl (Ac (wq rfl (qf GU rfl (ql Np rfl ?_)))))
      refine Cg h fun v24 a24 h => Ay [2006] (DX N p0.ft v24 a24) VM rfl (qe rfl ?_)
      refine AK h (fun v25 => mk [(2, oD (.ptr 2 0)), (8, oD (.own 2007)), (12, oD (.own 2008))] [(2, .box (C6 p0)), (2007, .vec 11 (v17.map AE)), (2008, .vec 11 (v25.map AE))]) (fun j25 h => ?_) (fun v25 h => ?_)
      ·refine wq rfl (qf GU rfl (ql Np rfl (qm rfl ?_)))
       refine BW h fun v26 a26 b26 h => qi Dz C2 a26 (Ai b26) rfl (qg DN rfl (qk Bg rfl (AN rfl (Ac ?_))))
       refine Bp h (fun h => ?_) fun h => ?_
       ·refine Ak Ax rfl (qw 2 rfl (qf GU rfl (ql Np rfl (qm rfl ?_))))
        refine BW h fun v28 a28 b28 h => qi Dz C2 a28 (Ai b28) rfl (qK F1 C2 rfl (Fm Dz C2 HB rfl (FI (Cd 105 _ _ rfl rfl) ?_)))
        refine Cg h fun v29 a29 h => Tk (ds0 := [_, _, _]) 2006 [2009] (Fp N v24 ((Int.tmod ((wI .i64 p1)) ((p0.ft.length : Int)))) (([v28] : List Ab)) v29 a29) (.p rfl) Xi rfl ⟨rfl, rfl, rfl, tv⟩ rfl rfl rfl rfl rfl rfl ⟨rfl, tv⟩ rfl rfl rfl ?_
        refine qa rfl (Ac ?_)
        exact sn [(2007, 2003), (2008, 2009)] h
       ·refine Aq ?_
        exact sn [(2007, 2003), (2008, 2006)] h
      ·refine wq rfl (qf Kd rfl (qL D2 D0 rfl (qf JT rfl (ql Bi rfl (qf J6 rfl (ql Pj rfl (qm rfl ?_)))))))
       refine Cg h fun v30 a30 h => F5 [] [2007] (Fo N ((Aa.mk p0.fb.fc p0.fb.fk p0.fb.fp p0.fb.fd)) p0.fK p0.fq v17 v30 a30) Sb Er rfl (qm rfl (qx rfl (qx rfl (qx rfl (qa rfl (qa rfl (qa rfl (Ac (wq rfl (qf Kd rfl (qL D2 D0 rfl (qf JT rfl (ql Bi rfl (qf J6 rfl (ql Pj rfl (qm rfl ?_))))))))))))))))
       refine Cg h fun v31 a31 h => F5 [] [2008] (Fo N ((Aa.mk p0.fb.fc p0.fb.fk p0.fb.fp p0.fb.fd)) p0.fK p0.fq v25 v31 a31) Sb Er rfl (qm rfl (qx rfl (qx rfl (qx rfl (qa rfl (qa rfl (qe rfl ?_)))))))
       refine AK h (fun v32 => mk [(4, bD v32)] []) (fun j32 h => ?_) (fun v32 h => ?_)
       ·refine Ak Ax rfl (qm rfl (AN rfl (qm rfl ?_)))
        refine CS 133 h rfl (fun h => ?_) fun h => ?_
        ·refine qm rfl (AN rfl (qp rfl (qm rfl ?_)))
         refine CS 137 h rfl (fun h => ?_) fun h => ?_
         ·refine qm rfl ?_
          refine Cg h fun v35 a35 h => F5 [] [2007] (GF N v17 v35 a35) VN Er rfl (AN rfl (qp rfl (qe rfl ?_)))
          exact sn [] h
         ·refine qw 3 rfl (qp rfl (qe rfl ?_))
          exact sn [] h
        ·refine qw 2 rfl (qp rfl (qw 4 rfl (qp rfl (qe rfl ?_))))
         exact sn [] h
       ·obtain rfl := sj h
        refine Ag (sm [] [(4, bD v32)] [] rfl rfl) (As ?_)
        exact ⟨⟨[_], tm, rfl⟩, tv⟩
end Go.Lift
