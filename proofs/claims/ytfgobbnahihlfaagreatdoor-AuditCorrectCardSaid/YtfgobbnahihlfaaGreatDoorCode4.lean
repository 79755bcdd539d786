/- Lemmas for AuditCorrectCardSaid, which YtfgobbnahihlfaaGreatDoorFinA6 proves. -/
import Derived.Test.YtfgobbnahihlfaaGreatDoorCode1
open Int renaming tdiv → y5, tmod → zJ
open List renaming getElem?_map → zH, getElem_mem → yN, length_map → zU
open Nat renaming le_refl → yD, zero_le → zL
open Option renaming map → zA1
open Go.Proofs.Tryz renaming prog → zA
namespace Go.Lift
open IntKind renaming wrap → wI
set_option maxRecDepth 10000
open Go.RowKit
open Go.Proofs
theorem Q9 (N : Nat) (p0 : Ad) (r : Bool) (h : GU N p0 = some r) : Au zA 86 [.e (.agg (C3 p0))] [] (bD r) := by
 unfold GU at h
 refine cw (n := 28) (rs := [.tmp 2]) Tryz.func86 fun w0 S0 => ?_
 refine wq rfl (qb rfl (qa rfl (Ac (A5 ?_))))
 refine AI h (fun v1 => mk [(1, oD (.ptr 1 0)), (12, bD v1)] [(1, .box (C3 p0))]) (fun j1 h => ?_) (fun v1 h => ?_)
 ·refine Ai Aw rfl (qf Hc rfl (ql A8 rfl ?_))
  refine BF h fun v2 a2 h => Av [] (Nz N p0.gD v2 a2) bt rfl ?_
  refine FM (.p rfl) rfl rfl (PL _ _ _ _) rfl ?_
  refine qm rfl ?_
  refine Dc 8 h rfl (fun h => ?_) fun h => ?_
  ·refine qw 3 rfl (qp rfl (Ac ?_))
   exact sn [] h
  ·refine qf KY rfl (ql Lq rfl (A9 rfl (qp rfl (Ac ?_))))
   exact sn [] h
 ·refine Bb h (fun h => ?_) fun h => ?_
  ·refine wq rfl (qe rfl ?_)
   obtain rfl := sj h
   refine Ah (sm [] [(2, bD false)] [] rfl rfl) (As ?_)
   exact ⟨⟨[_], tm, rfl⟩, tv⟩
  ·refine Al (wq rfl (qL I0 ER rfl ?_))
   refine BF h fun v5 a5 h => Av [2001] (LU N p0 v5 a5) bd rfl (qe rfl ?_)
   refine AI h (fun v6 => mk [(2, bD v6)] []) (fun j6 h => ?_) (fun v6 h => ?_)
   ·refine Ai Aw rfl (qL I0 ER rfl (qf KY rfl (ql Lq rfl (qf Hc rfl (ql A8 rfl (qm rfl ?_))))))
    refine BF h fun v7 a7 h => FN [] [2001] (QV N p0.gE p0.gD v5 v7 a7) dG Eb rfl ?_
    refine eW [.int .i64 p0.gE, .int .i64 p0.gD, .int .i64 p0.gX, .int .i64 p0.g8, .int .i64 p0.hJ, .int .i64 p0.gL, .int .i64 p0.gN, .int .i64 p0.gP, .int .i64 p0.gO, .int .i64 p0.gV, .int .i64 p0.qv] [.int .i64 v7.gE, .int .i64 v7.gD, .int .i64 v7.gX, .int .i64 v7.g8, .int .i64 v7.hJ, .int .i64 v7.gL, .int .i64 v7.gN, .int .i64 v7.gP, .int .i64 v7.gO, .int .i64 v7.gV, .int .i64 v7.qv] (.p rfl) rfl rfl et rfl ?_
    refine qm rfl ?_
    refine Dc 23 h rfl (fun h => ?_) fun h => ?_
    ·refine qm rfl ?_
     refine BF h fun v9 a9 h => FN [] [2001] (Au.weak (ds' := [pD (.sl (v5.map Aq)), oD (.fnc 123)]) (HW N v5 ((fun (x : Int) => Fo N x)) v9 a9) ⟨(fun _ _ _ hh => hh), (fun _ _ _ hh => Sv dN (fun ar t ht => by obtain ⟨x, r, rfl, hq, rfl⟩ := Mp ht; exact O2 N x r hq) hh), tv⟩) eK Eb rfl ?_
     refine CL rfl (qp rfl (qa rfl (AJ (by kernel_rfl) ?_)))
     exact sn [] h
    ·refine qw 3 rfl (qp rfl (qa rfl (AJ (by kernel_rfl) ?_)))
     exact sn [] h
   ·obtain rfl := sj h
    refine Ah (sm [] [(2, bD v6)] [] rfl rfl) (As ?_)
    exact ⟨⟨[_], tm, rfl⟩, tv⟩
theorem II (N : Nat) (p0 : List Ad) (r : Int) (h : ET N p0 = some r) : Au zA 43 [pD (.sl (p0.map AO))] [] (iD r) := by
 unfold ET at h
 refine cw (n := 34) (rs := [.tmp 2]) Tryz.func43 fun w0 S0 => ?_
 refine wq rfl (qa rfl (Ac (wp rfl (qm rfl (AU E9 rfl (FQ rfl (Ac ?_)))))))
 refine Bb h (fun h => ?_) fun h => ?_
 ·refine wq rfl (qe rfl ?_)
  obtain rfl := sj h
  refine Ah (sm [] [(2, iD 3)] [] rfl rfl) (As ?_)
  exact ⟨⟨[_], tm, rfl⟩, tv⟩
 ·refine Al (wp rfl (qm rfl (AU E9 rfl (qm rfl (Ac ?_)))))
  refine AY (L := E6 N p0) h (fun v2 => mk [(0, pD (.sl (p0.map AO))), (8, pD (.sl (p0.map AO))), (9, iD ((p0.length : Int))), (10, iD v2)] []) (fun v3 => mk [] []) (fun _ _ => rfl) (sm [] _ _ rfl rfl) (fun j2 n2 v2 h => ?_) (fun v3 s h hs => ?_)
  ·unfold E6 at h
   refine wq rfl (A9 rfl (Ac (A5 ?_)))
   refine Bb h (fun h => ?_) fun h => ?_
   ·refine Al (A5 (AX (wq rfl (qm rfl ?_))))
    refine BY h fun v5 a5 b5 h => qi E9 ER a5 (Aj b5) rfl (qK I0 ER rfl (qz Iu rfl (qa rfl (qs ER rfl (Ac ?_)))))
    refine AI h (fun v6 => mk [(0, pD (.sl (p0.map AO))), (8, pD (.sl (p0.map AO))), (9, iD ((p0.length : Int))), (10, iD v2), (32, bD v6)] []) (fun j6 h => ?_) (fun v6 h => ?_)
    ·refine Ai Aw rfl (qL I0 ER rfl ?_)
     refine BF h fun v7 a7 h => Av [] (Q9 N v5 v7 a7) gc rfl (CL rfl (qm rfl ?_))
     refine Dc 18 h rfl (fun h => ?_) fun h => ?_
     ·refine qw 3 rfl (qu rfl (qu rfl (qu rfl (qu rfl (qu rfl (qu rfl (qu rfl (qu rfl (qu rfl (qn rfl (qp rfl (AJ (by kernel_rfl) ?_))))))))))))
      exact sn [] h
     ·refine qm rfl (FQ rfl (qm rfl ?_))
      refine Dc 21 h rfl (fun h => ?_) fun h => ?_
      ·refine qf KY rfl (ql Lq rfl (qw 2 rfl (Kx rfl ?_)))
       refine BY h fun v10 a10 b10 h => qi E9 ER a10 (Aj b10) rfl (qg KY rfl (qk Lq rfl (A9 rfl (qp rfl (qp rfl (AJ (by kernel_rfl) ?_))))))
       exact sn [] h
      ·refine qw 9 rfl (qp rfl (qp rfl (AJ (by kernel_rfl) ?_)))
       exact sn [] h
    ·refine Bb h (fun h => ?_) fun h => ?_
     ·refine wq rfl (qe rfl ?_)
      obtain rfl := sj h
      refine Ah (sm [] [(2, iD 1)] [] rfl rfl) (As ?_)
      exact ⟨⟨[_], tm, rfl⟩, tv⟩
     ·refine Al (Ai Aw rfl (Bp rfl (qm rfl (Ac ?_))))
      exact sn [] h
   ·refine Bh ?_
    exact sn [] h
  ·refine Ah hs (wq rfl (qe rfl ?_))
   obtain rfl := sj h
   refine Ah (sm [] [(2, iD 0)] [] rfl rfl) (As ?_)
   exact ⟨⟨[_], tm, rfl⟩, tv⟩
theorem NU (N : Nat) (r : BI) (h : Gq N = some r) : E8 zA 64 [] [] [.box [iC r.hM, iC r.hO, .pure (.val (.bool r.qc)), .mref 1], .mp (FC (Value.int .i64) Ij r.qo)] (oD (.ptr 0 0)) := by
 unfold Gq at h
 refine EY (n := 4) (rs := [.tmp 0]) Tryz.func64 rfl rfl rfl (Jd rfl) (Jd rfl) rfl rfl (Jd rfl) rfl (Jd rfl) fun w0 S0 GL => ?_
 refine Ah (sm [] [] [] rfl rfl) (wq rfl (qa rfl (Ac (wq rfl ?_))))
 refine WC (.p rfl) rfl ?_
 refine AS e9 dO rfl (qb rfl (qe rfl ?_))
 obtain rfl := sj h
 refine Ah (sm [(1000, 3), (1001, 1)] [(0, oD (.ptr 1000 0))] [(1000, .box [iC 0, iC 0, .pure (.val (.bool false)), .mref 1001]), (1001, .mp (FC (Value.int .i64) Ij (([] : List (Int × Int)))))] rfl rfl) (As ?_)
 exact ⟨⟨[_], tm, rfl⟩, tv, ⟨rfl, rfl, tv⟩⟩
theorem R5 (N : Nat) (p0 : Aa) (p1 : Ad) (r : Bool) (h : FW N p0 p1 = some r) : Au zA 62 [.e (.agg (Ag p0)), .e (.agg (C3 p1))] [] (bD r) := by
 unfold FW at h
 refine cw (n := 47) (rs := [.tmp 4]) Tryz.func62 fun w0 S0 => ?_
 refine wq rfl (qb rfl (qb rfl (qa rfl (Ac (wp rfl (qf Mq rfl (ql A8 rfl (qf CS rfl (ql Hy rfl (AU Ev rfl (Eh rfl (Ac ?_))))))))))))
 refine Bb h (fun h => ?_) fun h => ?_
 ·refine wq rfl (qe rfl ?_)
  obtain rfl := sj h
  refine Ah (sm [] [(4, bD false)] [] rfl rfl) (As ?_)
  exact ⟨⟨[_], tm, rfl⟩, tv⟩
 ·refine Al (wq rfl (qf CS rfl (ql Hy rfl (qf Mq rfl (ql A8 rfl ?_)))))
  refine BY h fun v2 a2 b2 h => qi Ev CG a2 (Aj b2) rfl (qK FK CG rfl (qz JD rfl (qs CG rfl (Ac ?_))))
  refine AI h (fun v3 => mk [(4, bD v3)] []) (fun j3 h => ?_) (fun v3 h => ?_)
  ·refine Ai Aw rfl (qf Mm rfl (ql A8 rfl (qf IP rfl (ql In rfl (AU FA rfl (A9 rfl (qm rfl ?_)))))))
   refine Dc 24 h rfl (fun h => ?_) fun h => ?_
   ·refine qf N7 rfl (ql A8 rfl (qf Bx rfl (ql Bi rfl (qf Gx rfl (ql A8 rfl ?_)))))
    refine BY h fun v5 a5 b5 h => qi AF CQ a5 (Aj b5) rfl (qk A8 rfl (A9 rfl (qp rfl (qm rfl ?_))))
    refine Dc 35 h rfl (fun h => ?_) fun h => ?_
    ·refine qf IP rfl (ql In rfl (qf Mm rfl (ql A8 rfl ?_)))
     refine BY h fun v7 a7 b7 h => qi FA Lf a7 (Aj b7) rfl (qk MK rfl (qf N7 rfl (ql A8 rfl ?_)))
     refine BY h fun v8 a8 b8 h => qi Gl S6 a8 (Aj b8) rfl (qk Uw rfl (qp rfl (qa rfl (AJ (by kernel_rfl) ?_))))
     exact sn [] h
    ·refine qw 10 rfl (qp rfl (qa rfl (AJ (by kernel_rfl) ?_)))
     exact sn [] h
   ·refine qw 9 rfl (qp rfl (qw 11 rfl (qp rfl (qa rfl (AJ (by kernel_rfl) ?_)))))
    exact sn [] h
  ·obtain rfl := sj h
   refine Ah (sm [] [(4, bD v3)] [] rfl rfl) (As ?_)
   exact ⟨⟨[_], tm, rfl⟩, tv⟩
theorem HX (N : Nat) (p0 : Ad) (r : Bool) (h : Ez N p0 = some r) : Au zA 80 [.e (.agg (C3 p0))] [] (bD r) := by
 unfold Ez at h
 refine cw (n := 11) (rs := [.tmp 2]) Tryz.func80 fun w0 S0 => ?_
 refine wq rfl (qb rfl (qe rfl ?_))
 refine AI h (fun v1 => mk [(2, bD v1)] []) (fun j1 h => ?_) (fun v1 h => ?_)
 ·refine Ai Aw rfl (qf Hc rfl (ql A8 rfl (Eh rfl (qm rfl ?_))))
  refine Dc 6 h rfl (fun h => ?_) fun h => ?_
  ·refine qf Hc rfl (ql A8 rfl (TR rfl (qp rfl (qe rfl ?_))))
   exact sn [] h
  ·refine qw 3 rfl (qp rfl (qe rfl ?_))
   exact sn [] h
 ·obtain rfl := sj h
  refine Ah (sm [] [(2, bD v1)] [] rfl rfl) (As ?_)
  exact ⟨⟨[_], tm, rfl⟩, tv⟩
theorem Ih (N : Nat) (p0 : Ao) (p1 : Ad) (r : Bool) (h : Cr N p0 p1 = some r) : E8 zA 81 [oD (.ptr 90000 0), .e (.agg (C3 p1))] [(.box (AP p0), .box (AP p0))] [] (bD r) := by
 unfold Cr at h
 refine EY (n := 66) (rs := [.tmp 4]) Tryz.func81 rfl rfl rfl (Jd rfl) (Jd rfl) rfl rfl (Jd rfl) rfl (Jd rfl) fun w0 S0 GL => ?_
 refine Ah (sm [] [(0, oD (.ptr 90000 0)), (1, .e (.agg (C3 p1)))] [(90000, .box (AP p0))] rfl rfl) (wq rfl (qb rfl (qa rfl (Ac (A5 ?_)))))
 refine AI h (fun v1 => mk [(0, oD (.ptr 90000 0)), (3, oD (.ptr 3 0)), (23, bD v1)] [(3, .box (C3 p1)), (90000, .box (AP p0))]) (fun j1 h => ?_) (fun v1 h => ?_)
 ·refine Ai Aw rfl (qf SH rfl (ql A8 rfl (qm rfl (KK rfl (qf Mr rfl (ql A8 rfl (BH rfl (qm rfl ?_))))))))
  refine Dc 12 h rfl (fun h => ?_) fun h => ?_
  ·refine qw 10 rfl (qp rfl (AJ (by kernel_rfl) ?_))
   exact sn [] h
  ·refine qm rfl (KK rfl (qf Mr rfl (ql A8 rfl (qm rfl (KK rfl (qf R7 rfl (ql KW rfl (AU DB rfl (Eh rfl (qp rfl (AJ (by kernel_rfl) ?_)))))))))))
   exact sn [] h
 ·refine Bb h (fun h => ?_) fun h => ?_
  ·refine wq rfl (qe rfl ?_)
   obtain rfl := sj h
   refine Ah (sm [] [(4, bD false)] [(90000, .box (AP p0))] rfl rfl) (As ?_)
   exact ⟨⟨[_], tm, rfl⟩, ⟨rfl, tv⟩, tv⟩
  ·refine Al (wp rfl (qf Hc rfl (ql A8 rfl (Ac (AX (wq rfl (AN rfl (qe rfl ?_))))))))
   refine Bb h (fun h => ?_) fun h => ?_
   ·refine wq rfl (qm rfl (KK rfl (qf Kb rfl (ql A8 rfl (AN rfl (qe rfl ?_))))))
    obtain rfl := sj h
    refine Ah (sm [] [(4, bD ((p0.gQ == 0)))] [(90000, .box (AP p0))] rfl rfl) (As ?_)
    exact ⟨⟨[_], tm, rfl⟩, ⟨rfl, tv⟩, tv⟩
   ·refine wq rfl (AN rfl (qe rfl ?_))
    refine Bb h (fun h => ?_) fun h => ?_
    ·refine wq rfl (qm rfl (KK rfl (qf Kb rfl (ql A8 rfl (AN rfl (qe rfl ?_))))))
     obtain rfl := sj h
     refine Ah (sm [] [(4, bD ((p0.gQ == 1)))] [(90000, .box (AP p0))] rfl rfl) (As ?_)
     exact ⟨⟨[_], tm, rfl⟩, ⟨rfl, tv⟩, tv⟩
    ·refine wq rfl (AN rfl (qe rfl ?_))
     refine Bb h (fun h => ?_) fun h => ?_
     ·refine AI h (fun v7 => mk [(4, bD v7)] [(90000, .box (AP p0))]) (fun j7 h => ?_) (fun v7 h => ?_)
      ·refine Ai Aw rfl (qm rfl (KK rfl (qf Kb rfl (ql A8 rfl (AN rfl (qm rfl ?_))))))
       refine Dc 47 h rfl (fun h => ?_) fun h => ?_
       ·refine qm rfl (KK rfl (qf R7 rfl (ql KW rfl (qm rfl (KK rfl (qf Mr rfl (ql A8 rfl ?_)))))))
        refine BY h fun v9 a9 b9 h => qi DB Ea a9 (Aj b9) rfl (qg DK rfl (qk A8 rfl (AN rfl (qp rfl (qa rfl (AJ (by kernel_rfl) ?_))))))
        exact sn [] h
       ·refine qw 12 rfl (qp rfl (qa rfl (AJ (by kernel_rfl) ?_)))
        exact sn [] h
      ·obtain rfl := sj h
       refine Ah (sm [] [(4, bD v7)] [(90000, .box (AP p0))] rfl rfl) (As ?_)
       exact ⟨⟨[_], tm, rfl⟩, ⟨rfl, tv⟩, tv⟩
     ·refine Al (wq rfl (qm rfl (KK rfl (qf Kb rfl (ql A8 rfl (AN rfl (qe rfl ?_)))))))
      obtain rfl := sj h
      refine Ah (sm [] [(4, bD ((p0.gQ == 2)))] [(90000, .box (AP p0))] rfl rfl) (As ?_)
      exact ⟨⟨[_], tm, rfl⟩, ⟨rfl, tv⟩, tv⟩
theorem Me (N : Nat) (p0 : BI) (p1 : Ad) (r : Bool × BI × (List (Int × Int))) (h : EG N p0 p1 = some r) : E8 zA 66 [oD (.ptr 90000 0), .e (.agg (C3 p1))] [(.box [iC p0.hM, iC p0.hO, .pure (.val (.bool p0.qc)), .mref 90001], .box [iC r.2.1.hM, iC r.2.1.hO, .pure (.val (.bool r.2.1.qc)), .mref 90001]), (.mp (FC (Value.int .i64) Ij p0.qo), .mp (FC (Value.int .i64) Ij r.2.2))] [] (bD r.1) := by
 unfold EG at h
 refine EY (n := 67) (rs := [.tmp 4]) Tryz.func66 rfl rfl rfl (Jd rfl) (Jd rfl) rfl rfl (Jd rfl) rfl (Jd rfl) fun w0 S0 GL => ?_
 refine Ah (sm [] [(0, oD (.ptr 90000 0)), (1, .e (.agg (C3 p1)))] [(90000, .box [iC p0.hM, iC p0.hO, .pure (.val (.bool p0.qc)), .mref 90001]), (90001, .mp (FC (Value.int .i64) Ij p0.qo))] rfl rfl) (wq rfl (qb rfl (qe rfl ?_)))
 refine AI h (fun v1 => mk [] [(90000, .box [iC v1.2.1, iC v1.2.2.1, .pure (.val (.bool v1.2.2.2)), .mref 90001]), (90001, .mp (FC (Value.int .i64) Ij v1.1))]) (fun j1 h => ?_) (fun v1 h => ?_)
 ·refine AX (wq rfl (qL I0 ER rfl ?_))
  refine BF h fun v2 a2 h => Av [] (HX N p1 v2 a2) Zy rfl (qe rfl ?_)
  refine Bb h (fun h => ?_) fun h => ?_
  ·refine wp rfl (qf JY rfl (ql Lq rfl (qm rfl (KK rfl (qf TM rfl (ql Lq rfl (A9 rfl (AJ (by kernel_rfl) ?_))))))))
   refine Bb h (fun h => ?_) fun h => ?_
   ·refine wq rfl (qe rfl ?_)
    obtain rfl := sj h
    refine Ah (sm [] [(4, bD false)] [(90000, .box [iC p0.hM, iC p0.hO, .pure (.val (.bool p0.qc)), .mref 90001]), (90001, .mp (FC (Value.int .i64) Ij p0.qo))] rfl rfl) (As ?_)
    exact ⟨⟨[_], tm, rfl⟩, ⟨rfl, rfl, tv⟩, tv⟩
   ·refine Al (Ai Aw rfl (qm rfl (qf JY rfl (ql Lq rfl (KK rfl (qf TM rfl (qs Pg rfl (Ac ?_))))))))
    exact sn [] h
  ·refine wq rfl (qf Hc rfl (ql A8 rfl (AN rfl (qe rfl ?_))))
   refine Bb h (fun h => ?_) fun h => ?_
   ·refine wp rfl (qf Po rfl (ql A8 rfl (qm rfl (KK rfl (qf TO rfl (ql bp rfl (qf Nn rfl (ql A8 rfl ?_))))))))
    refine Xv (kv := (Value.int .i64)) (vt := Ij) (m := p0.qo) (dv := 0) (.p rfl) rfl rfl rfl (RN Ut dJ) (by rw [Ut]; rfl) MD rfl rfl rfl ?_
    refine A9 rfl (AJ (by kernel_rfl) ?_)
    refine Bb h (fun h => ?_) fun h => ?_
    ·refine wq rfl (qe rfl ?_)
     obtain rfl := sj h
     refine Ah (sm [] [(4, bD false)] [(90000, .box [iC p0.hM, iC p0.hO, .pure (.val (.bool p0.qc)), .mref 90001]), (90001, .mp (FC (Value.int .i64) Ij p0.qo))] rfl rfl) (As ?_)
     exact ⟨⟨[_], tm, rfl⟩, ⟨rfl, rfl, tv⟩, tv⟩
    ·refine Al (Ai Aw rfl (qm rfl (KK rfl (qf TO rfl (ql bp rfl (qf Nn rfl (ql A8 rfl (qf Po rfl (ql A8 rfl ?_)))))))))
     refine Yq (kv := (Value.int .i64)) (vt := Ij) (m := p0.qo) (k := p1.gO) (v := p1.gP) rfl (.inl rfl) rfl rfl rfl rfl (RN Ut dJ) rfl ?_
     refine AJ (by kernel_rfl) ?_
     exact sn [] h
   ·refine wq rfl (qf Hc rfl (ql A8 rfl (AN rfl (qe rfl ?_))))
    refine Bb h (fun h => ?_) fun h => ?_
    ·refine A5 ?_
     refine AI h (fun v8 => mk [(0, oD (.ptr 90000 0)), (3, oD (.ptr 3 0)), (58, bD v8)] [(3, .box (C3 p1)), (90000, .box [iC p0.hM, iC p0.hO, .pure (.val (.bool p0.qc)), .mref 90001]), (90001, .mp (FC (Value.int .i64) Ij p0.qo))]) (fun j8 h => ?_) (fun v8 h => ?_)
     ·refine Ai Aw rfl (qm rfl (KK rfl (qf Ty rfl (ql Uw rfl (qm rfl ?_)))))
      refine Dc 50 h rfl (fun h => ?_) fun h => ?_
      ·refine qf JY rfl (ql Lq rfl (qm rfl (KK rfl (qf Tm rfl (ql Lq rfl (TR rfl (qp rfl (AJ (by kernel_rfl) ?_))))))))
       exact sn [] h
      ·refine qw 7 rfl (qp rfl (AJ (by kernel_rfl) ?_))
       exact sn [] h
     ·refine Bb h (fun h => ?_) fun h => ?_
      ·refine wq rfl (qe rfl ?_)
       obtain rfl := sj h
       refine Ah (sm [] [(4, bD false)] [(90000, .box [iC p0.hM, iC p0.hO, .pure (.val (.bool p0.qc)), .mref 90001]), (90001, .mp (FC (Value.int .i64) Ij p0.qo))] rfl rfl) (As ?_)
       exact ⟨⟨[_], tm, rfl⟩, ⟨rfl, rfl, tv⟩, tv⟩
      ·refine Al (Ai Aw rfl (qw 2 rfl (qf JY rfl (ql Lq rfl (KK rfl (qf Tm rfl (qs Pg rfl (KK rfl (qf Ty rfl (qs S6 rfl (Ac ?_)))))))))))
       exact sn [] h
    ·refine Al ?_
     exact sn [] h
 ·refine wq rfl (qe rfl ?_)
  obtain rfl := sj h
  refine Ah (sm [] [(4, bD true)] [(90000, .box [iC v1.2.1, iC v1.2.2.1, .pure (.val (.bool v1.2.2.2)), .mref 90001]), (90001, .mp (FC (Value.int .i64) Ij v1.1))] rfl rfl) (As ?_)
  exact ⟨⟨[_], tm, rfl⟩, ⟨rfl, rfl, tv⟩, tv⟩
theorem QK (N : Nat) (p0 : List Int) (p1 : Int) (r : Int) (h : F8 N p0 p1 = some r) : Au zA 114 [pD (.sl (p0.map Aq)), iD p1] [] (iD r) := by
 unfold F8 at h
 refine cw (n := 22) (rs := [.tmp 4]) Tryz.func114 fun w0 S0 => ?_
 refine wq rfl (qa rfl (Ac (wp rfl (qm rfl (AU AF rfl (qm rfl (Ac ?_)))))))
 refine AY (L := Fb N p0) h (fun v1 => mk [(1, iD v1.1), (7, pD (.sl (p0.map Aq))), (8, iD ((p0.length : Int))), (9, iD v1.2)] []) (fun v2 => mk [] []) (fun _ _ => rfl) (sm [] _ _ rfl rfl) (fun j1 n1 v1 h => ?_) (fun v2 s h hs => ?_)
 ·unfold Fb at h
  refine wq rfl (A9 rfl (Ac (A5 ?_)))
  refine Bb h (fun h => ?_) fun h => ?_
  ·refine Al (A5 (AX (wq rfl (qm rfl ?_))))
   refine BY h fun v4 a4 b4 h => qi AF CQ a4 (Aj b4) rfl (qk A8 rfl (qa rfl (qa rfl (Ac (wp rfl (qw 2 rfl (A9 rfl (Ac ?_))))))))
   refine Bb h (fun h => ?_) fun h => ?_
   ·refine wq rfl (qm rfl (qe rfl ?_))
    obtain rfl := sj h
    refine Ah (sm [] [(4, iD v1.2)] [] rfl rfl) (As ?_)
    exact ⟨⟨[_], tm, rfl⟩, tv⟩
   ·refine Al (Ai Aw rfl (qw 2 rfl (Kx rfl (qa rfl (Ac (Ai Aw rfl (Bp rfl (qm rfl (Ac ?_)))))))))
    exact sn [] h
  ·refine Bh ?_
   exact sn [] h
 ·refine Ah hs (wq rfl (qe rfl ?_))
  obtain rfl := sj h
  refine Ah (sm [] [(4, iD ((-1)))] [] rfl rfl) (As ?_)
  exact ⟨⟨[_], tm, rfl⟩, tv⟩
theorem I1 (N : Nat) (p0 : Ab) (p1 : Int) (p2 : Int) (r : Bool) (h : Dw N p0 p1 p2 = some r) : Au zA 115 [.e (.agg (AH p0)), iD p1, iD p2] [] (bD r) := by
 unfold Dw at h
 refine cw (n := 23) (rs := [.tmp 6]) Tryz.func115 fun w0 S0 => ?_
 refine wq rfl (qb rfl (qe rfl ?_))
 refine AI h (fun v1 => mk [(6, bD v1)] []) (fun j1 h => ?_) (fun v1 h => ?_)
 ·refine Ai Aw rfl (qf Dj rfl (ql Bi rfl (qm rfl ?_)))
  refine BY h fun v2 a2 b2 h => qi AF CQ a2 (Aj b2) rfl (qk A8 rfl (qm rfl (AN rfl (qm rfl ?_))))
  refine Dc 14 h rfl (fun h => ?_) fun h => ?_
  ·refine qw 7 rfl (qp rfl (qe rfl ?_))
   exact sn [] h
  ·refine qf BU rfl (ql Bi rfl (qm rfl ?_))
   refine BY h fun v4 a4 b4 h => qi AF CQ a4 (Aj b4) rfl (qk A8 rfl (qm rfl (AN rfl (qp rfl (qe rfl ?_)))))
   exact sn [] h
 ·obtain rfl := sj h
  refine Ah (sm [] [(6, bD v1)] [] rfl rfl) (As ?_)
  exact ⟨⟨[_], tm, rfl⟩, tv⟩
theorem Pa (N : Nat) (p0 : Aa) (p1 : Ab) (p2 : Ad) (r : Bool) (h : Fp N p0 p1 p2 = some r) : Au zA 116 [.e (.agg (Ag p0)), .e (.agg (AH p1)), .e (.agg (C3 p2))] [] (bD r) := by
 unfold Fp at h
 refine cw (n := 46) (rs := [.tmp 6]) Tryz.func116 fun w0 S0 => ?_
 refine wq rfl (qb rfl (qb rfl (qb rfl (qa rfl (Ac (wq rfl (qf CS rfl (ql Hy rfl (qf Mq rfl (ql A8 rfl ?_))))))))))
 refine BY h fun v1 a1 b1 h => qi Ev CG a1 (Aj b1) rfl (qK FK CG rfl (qz JD rfl (qs CG rfl (Ac (wp rfl (qL Bf AQ rfl (qf Gx rfl (ql A8 rfl (qf N7 rfl (ql A8 rfl ?_))))))))))
 refine BF h fun v2 a2 h => Av [] (I1 N p1 v1.gW p2.hJ v2 a2) XN rfl (CL rfl (Ac ?_))
 refine Bb h (fun h => ?_) fun h => ?_
 ·refine wq rfl (qe rfl ?_)
  obtain rfl := sj h
  refine Ah (sm [] [(6, bD false)] [] rfl rfl) (As ?_)
  exact ⟨⟨[_], tm, rfl⟩, tv⟩
 ·refine Al (A5 ?_)
  refine AI h (fun v4 => mk [(4, oD (.ptr 4 0)), (5, oD (.ptr 5 0)), (7, oD (.ptr 7 0)), (28, bD v4)] [(4, .box (AH p1)), (5, .box (C3 p2)), (7, .box (BJ v1))]) (fun j4 h => ?_) (fun v4 h => ?_)
  ·refine Ai Aw rfl (qf Fi rfl (ql A8 rfl (AN rfl (qm rfl ?_))))
   refine Dc 24 h rfl (fun h => ?_) fun h => ?_
   ·refine qw 3 rfl (qp rfl (Ac ?_))
    exact sn [] h
   ·refine qf Fi rfl (ql A8 rfl (AN rfl (qp rfl (Ac ?_))))
    exact sn [] h
  ·refine Bb h (fun h => ?_) fun h => ?_
   ·refine wq rfl (qf Dm rfl (ql Il rfl (qf Mq rfl (ql A8 rfl ?_))))
    refine BY h fun v7 a7 b7 h => qi Ei EP a7 (Aj b7) rfl (qk IN rfl (qf Mm rfl (ql A8 rfl ?_)))
    refine GJ h fun c8 h => L6 rfl c8 (RM rfl (AN rfl (qa rfl (AJ (by kernel_rfl) ?_))))
    obtain rfl := sj h
    refine Ah (sm [] [(6, bD (((Ho .u8 ((Gy .u8 v7 p2.g8)) 1) == 1)))] [] rfl rfl) (As ?_)
    exact ⟨⟨[_], tm, rfl⟩, tv⟩
   ·refine Al (wq rfl (qL Bf AQ rfl (qf CB rfl (ql A8 rfl (qf Mm rfl (ql A8 rfl ?_))))))
    refine BF h fun v9 a9 h => Av [] (I1 N p1 v1.gM p2.g8 v9 a9) XN rfl (qe rfl ?_)
    obtain rfl := sj h
    refine Ah (sm [] [(6, bD v9)] [] rfl rfl) (As ?_)
    exact ⟨⟨[_], tm, rfl⟩, tv⟩
theorem SQ (N : Nat) (p0 : Aa) (p1 : Ab) (p2 : Ae) (r : Ab × Int) (h : Hp N p0 p1 p2 = some r) : Au zA 155 [.e (.agg (Ag p0)), .e (.agg (AH p1)), .e (.agg (Dd p2))] [(1, r.1.gI.map Aq), (1, r.1.gF.map Aq), (1, r.1.gG.map Cy)] (.tup [.agg [.own 0, .own 1, .own 2], .one (iC r.2)]) := by
 unfold Hp at h
 refine cw (n := 22) (rs := [.cell 6 40, .tmp 7]) Tryz.func155 fun w0 S0 => ?_
 refine wq rfl (qb rfl (qb rfl (qb rfl (qz CM rfl (qa rfl (Ac (wp rfl (qL BZ BB rfl (qL Bf AQ rfl ?_)))))))))
 refine BF h fun v1 a1 h => Av [] (OV N p0 p1 v1 a1) aX rfl (qa rfl (Ac (wq rfl (qm rfl (BH rfl (Ac ?_))))))
 refine Bb h (fun h => ?_) fun h => ?_
 ·refine wq rfl (AS CM G1 rfl (qm rfl (qs AQ rfl (qe rfl ?_))))
  obtain rfl := sj h
  refine Ah ((Ay 6 0 2001 1 _ rfl rfl rfl rfl).trans ((Ay 6 1 2002 1 _ rfl rfl rfl rfl).trans ((Ay 6 2 2003 1 _ rfl rfl rfl rfl).trans (sm [(1000, 2001), (1001, 2002), (1002, 2003)] [(6, oD (.ptr 6 0)), (7, iD v1)] [(6, .box [.own 1000, .own 1001, .own 1002]), (1000, .vec 1 ((([] : List Int)).map Aq)), (1001, .vec 1 ((([] : List Int)).map Aq)), (1002, .vec 1 ((([] : List Int)).map Cy))] rfl rfl)))) (As ?_)
  exact ⟨⟨[_, _], ⟨.cellN _ _ _ _ _ _ _ rfl rfl Bf AQ rfl rfl (E1 rfl), tm⟩, rfl⟩, ⟨rfl, rfl, rfl, tv⟩⟩
 ·refine Al (wq rfl (qL BZ BB rfl (qL Bf AQ rfl (qL IE Ea rfl ?_))))
  refine BF h fun v3 a3 h => Av [2004, 2005, 2006] (NZ N p0 p1 p2 v3 a3) bu rfl (qx rfl (qx rfl (qs AQ rfl (qe rfl ?_))))
  obtain rfl := sj h
  refine Ah (sm [(1000, 2004), (1001, 2005), (1002, 2006)] [(6, oD (.ptr 6 0)), (7, iD v3.2)] [(6, .box [.own 1000, .own 1001, .own 1002]), (1000, .vec 1 (v3.1.gI.map Aq)), (1001, .vec 1 (v3.1.gF.map Aq)), (1002, .vec 1 (v3.1.gG.map Cy))] rfl rfl) (As ?_)
  exact ⟨⟨[_, _], ⟨.cellN _ _ _ _ _ _ _ rfl rfl Bf AQ rfl rfl (E1 rfl), tm⟩, rfl⟩, ⟨rfl, rfl, rfl, tv⟩⟩
theorem GN (N : Nat) (p0 : Ao) (p1 : Ae) (r : Ao) (h : C9 N p0 p1 = some r) : E8 zA 117 [oD (.ptr 90000 0), .e (.agg (Dd p1))] [(.box (AP p0), .box (AP r))] [] (.tup []) := by
 unfold C9 at h
 refine EY (n := 25) (rs := []) Tryz.func117 rfl rfl rfl (Jd rfl) (Jd rfl) rfl rfl (Jd rfl) rfl (Jd rfl) fun w0 S0 GL => az ?_
 refine Ah (sm [] [(0, oD (.ptr 90000 0)), (1, .e (.agg (Dd p1)))] [(90000, .box (AP p0))] rfl rfl) (wq rfl (qb rfl (Ac (wq rfl (qm rfl (KK rfl (qf Sw rfl (qL BZ BB rfl (qm rfl (KK rfl (qf Nw rfl (qL Bf AQ rfl (qL IE Ea rfl ?_)))))))))))))
 refine BF h fun v1 a1 h => Av [2001, 2002, 2003] (SQ N ((Aa.mk p0.gK.gH p0.gK.gR p0.gK.gU p0.gK.gJ)) ((Ab.mk p0.gB.gI p0.gB.gF p0.gB.gG)) p1 v1 a1) eH rfl (qm rfl (qx rfl (qx rfl (qz CM rfl (qs AQ rfl (qa rfl (AJ (by kernel_rfl) (wq rfl (qm rfl (AN rfl (Ac ?_)))))))))))
 refine Bb h (fun h => ?_) fun h => ?_
 ·refine Ai Aw rfl (qm rfl (qL Bf AQ rfl (KK rfl (qf Nw rfl (qs AQ rfl (Ac ?_))))))
  obtain rfl := sj h
  refine ⟨_, ((AV 2001 _ _ rfl rfl).trans ((AV 2002 _ _ rfl rfl).trans ((AV 2003 _ _ rfl rfl).trans (sm [] [] [(90000, .box [sC (p0.gK.gH.map Aq), sC (p0.gK.gR.map Aq), sC (p0.gK.gU.map Aq), sC (p0.gK.gJ.map Bs), sC (p0.gZ.map Ax), iC p0.gE, iC p0.gQ, sC (v1.1.gI.map Aq), sC (v1.1.gF.map Aq), sC (v1.1.gG.map Cy)])] rfl rfl)))), ?_⟩
  exact ⟨⟨[], tv, rfl⟩, ⟨rfl, tv⟩, tv⟩
 ·refine Al ?_
  obtain rfl := sj h
  refine ⟨_, (sm [] [] [(90000, .box (AP p0))] rfl rfl), ?_⟩
  exact ⟨⟨[], tv, rfl⟩, ⟨rfl, tv⟩, tv⟩
theorem HQ (N : Nat) (p0 : Ao) (p1 : Ad) (r : Ao) (h : Ci N p0 p1 = some r) : E8 zA 82 [oD (.ptr 90000 0), .e (.agg (C3 p1))] [(.box (AP p0), .box (AP r))] [] (.tup []) := by
 unfold Ci at h
 refine EY (n := 62) (rs := []) Tryz.func82 rfl rfl rfl (Jd rfl) (Jd rfl) rfl rfl (Jd rfl) rfl (Jd rfl) fun w0 S0 GL => az ?_
 refine Ah (sm [] [(0, oD (.ptr 90000 0)), (1, .e (.agg (C3 p1)))] [(90000, .box (AP p0))] rfl rfl) (wq rfl (qb rfl (Ac (wq rfl (qm rfl (KK rfl (qf R7 rfl (ql KW rfl (qm rfl (KK rfl (qf Mr rfl (ql A8 rfl ?_))))))))))))
 refine BY h fun v1 a1 b1 h => qi DB Ea a1 (Aj b1) rfl (qK IE Ea rfl (qz KU rfl (qs Ea rfl (AJ (by kernel_rfl) (wq rfl (qf Hc rfl (ql A8 rfl (Ac (AX (wq rfl (AN rfl (qe rfl ?_))))))))))))
 refine Bb h (fun h => ?_) fun h => ?_
 ·refine wq rfl (qm rfl (KK rfl (qf Kb rfl (qs CQ rfl (Ac (wq rfl (qf DK rfl (ql A8 rfl (AN rfl (Ac ?_))))))))))
  refine Bb h (fun h => ?_) fun h => ?_
  ·refine Ai Aw rfl (qm rfl (qL IE Ea rfl ?_))
   refine BF h fun v4 a4 h => HC (ds0 := [_, _]) [90000] [] [true] (GN N ((Ao.mk ((Aa.mk p0.gK.gH p0.gK.gR p0.gK.gU p0.gK.gJ)) p0.gZ p0.gE 1 ((Ab.mk p0.gB.gI p0.gB.gF p0.gB.gG)))) v1 v4 a4) (.p rfl) Xl rfl ⟨rfl, rfl, tv⟩ rfl rfl (by decide) ⟨rfl, tv⟩ rfl (EA rfl) tv ⟨(fun h => by cases h), tv⟩ rfl rfl rfl ?_
   refine Ac ?_
   obtain rfl := sj h
   refine ⟨_, (sm [] [] [(90000, .box (AP v4))] rfl rfl), ?_⟩
   exact ⟨⟨[], tv, rfl⟩, ⟨rfl, tv⟩, tv⟩
  ·refine Al ?_
   obtain rfl := sj h
   refine ⟨_, (sm [] [] [(90000, .box [sC (p0.gK.gH.map Aq), sC (p0.gK.gR.map Aq), sC (p0.gK.gU.map Aq), sC (p0.gK.gJ.map Bs), sC (p0.gZ.map Ax), iC p0.gE, iC 1, sC (p0.gB.gI.map Aq), sC (p0.gB.gF.map Aq), sC (p0.gB.gG.map Cy)])] rfl rfl), ?_⟩
   exact ⟨⟨[], tv, rfl⟩, ⟨rfl, tv⟩, tv⟩
 ·refine wq rfl (AN rfl (qe rfl ?_))
  refine Bb h (fun h => ?_) fun h => ?_
  ·refine AI h (fun v6 => mk [(0, oD (.ptr 90000 0))] [(90000, .box (AP v6))]) (fun j6 h => ?_) (fun v6 h => ?_)
   ·refine wq rfl (qf DK rfl (ql A8 rfl (BH rfl (Ac ?_))))
    refine Bb h (fun h => ?_) fun h => ?_
    ·refine Ai Aw rfl (qm rfl (qL IE Ea rfl ?_))
     refine BF h fun v8 a8 h => HC (ds0 := [_, _]) [90000] [] [true] (GN N ((Ao.mk ((Aa.mk p0.gK.gH p0.gK.gR p0.gK.gU p0.gK.gJ)) p0.gZ p0.gE p0.gQ ((Ab.mk p0.gB.gI p0.gB.gF p0.gB.gG)))) v1 v8 a8) (.p rfl) Xl rfl ⟨rfl, rfl, tv⟩ rfl rfl (by decide) ⟨rfl, tv⟩ rfl (EA rfl) tv ⟨(fun h => by cases h), tv⟩ rfl rfl rfl ?_
     refine Ac ?_
     exact sn [] h
    ·refine Al ?_
     exact sn [] h
   ·refine Ai Aw rfl (qw 3 rfl (KK rfl (qf Mr rfl (ql A8 rfl (Bp rfl (KK rfl (qf Mr rfl (qs CQ rfl (KK rfl (qf Kb rfl (qs CQ rfl (Ac ?_))))))))))))
    obtain rfl := sj h
    refine ⟨_, (sm [] [] [(90000, .box [sC (v6.gK.gH.map Aq), sC (v6.gK.gR.map Aq), sC (v6.gK.gU.map Aq), sC (v6.gK.gJ.map Bs), sC (v6.gZ.map Ax), iC ((wI .i64 (v6.gE + 1))), iC 0, sC (v6.gB.gI.map Aq), sC (v6.gB.gF.map Aq), sC (v6.gB.gG.map Cy)])] rfl rfl), ?_⟩
    exact ⟨⟨[], tv, rfl⟩, ⟨rfl, tv⟩, tv⟩
  ·refine wq rfl (AN rfl (qe rfl ?_))
   refine Bb h (fun h => ?_) fun h => ?_
   ·refine Ai Aw rfl (qm rfl (KK rfl (qf Kb rfl (qs CQ rfl (Ac ?_)))))
    obtain rfl := sj h
    refine ⟨_, (sm [] [] [(90000, .box [sC (p0.gK.gH.map Aq), sC (p0.gK.gR.map Aq), sC (p0.gK.gU.map Aq), sC (p0.gK.gJ.map Bs), sC (p0.gZ.map Ax), iC p0.gE, iC 2, sC (p0.gB.gI.map Aq), sC (p0.gB.gF.map Aq), sC (p0.gB.gG.map Cy)])] rfl rfl), ?_⟩
    exact ⟨⟨[], tv, rfl⟩, ⟨rfl, tv⟩, tv⟩
   ·refine wq rfl (AN rfl (qe rfl ?_))
    refine Bb h (fun h => ?_) fun h => ?_
    ·refine wq rfl (qm rfl (KK rfl (qf Kb rfl (qs CQ rfl (Ac (Ai Aw rfl (qm rfl (qf Db rfl (ql A8 rfl (AS KU Xg rfl ?_))))))))))
     refine BF h fun v11 a11 h => HC (ds0 := [_, _]) [90000] [] [true] (GN N ((Ao.mk ((Aa.mk p0.gK.gH p0.gK.gR p0.gK.gU p0.gK.gJ)) p0.gZ p0.gE 0 ((Ab.mk p0.gB.gI p0.gB.gF p0.gB.gG)))) ((Ae.mk 4 v1.gL 0)) v11 a11) (.p rfl) Xl rfl ⟨rfl, rfl, tv⟩ rfl rfl (by decide) ⟨rfl, tv⟩ rfl (EA rfl) tv ⟨(fun h => by cases h), tv⟩ rfl rfl rfl ?_
     refine Ac ?_
     obtain rfl := sj h
     refine ⟨_, (sm [] [] [(90000, .box (AP v11))] rfl rfl), ?_⟩
     exact ⟨⟨[], tv, rfl⟩, ⟨rfl, tv⟩, tv⟩
    ·refine Al ?_
     obtain rfl := sj h
     refine ⟨_, (sm [] [] [(90000, .box (AP p0))] rfl rfl), ?_⟩
     exact ⟨⟨[], tv, rfl⟩, ⟨rfl, tv⟩, tv⟩
theorem Ns (N : Nat) (p0 : Ao) (p1 : BI) (p2 : List Int) (p3 : Ad) (r : Int × Ao × BI × (List (Int × Int))) (h : EO N p0 p1 p2 p3 = some r) : E8 zA 73 [oD (.ptr 90000 0), oD (.ptr 90001 0), pD (.sl (p2.map Aq)), .e (.agg (C3 p3))] [(.box (AP p0), .box (AP r.2.1)), (.box [iC p1.hM, iC p1.hO, .pure (.val (.bool p1.qc)), .mref 90002], .box [iC r.2.2.1.hM, iC r.2.2.1.hO, .pure (.val (.bool r.2.2.1.qc)), .mref 90002]), (.mp (FC (Value.int .i64) Ij p1.qo), .mp (FC (Value.int .i64) Ij r.2.2.2))] [] (iD r.1) := by
 unfold EO at h
 refine EY (n := 79) (rs := [.tmp 8]) Tryz.func73 rfl rfl rfl (Jd rfl) (Jd rfl) rfl rfl (Jd rfl) rfl (Jd rfl) fun w0 S0 GL => ?_
 refine Ah (sm [] [(0, oD (.ptr 90000 0)), (1, oD (.ptr 90001 0)), (2, pD (.sl (p2.map Aq))), (3, .e (.agg (C3 p3)))] [(90000, .box (AP p0)), (90001, .box [iC p1.hM, iC p1.hO, .pure (.val (.bool p1.qc)), .mref 90002]), (90002, .mp (FC (Value.int .i64) Ij p1.qo))] rfl rfl) (wq rfl (qb rfl (qe rfl ?_)))
 refine AI h (fun v1 => mk [] [(90000, .box (AP v1.2.1)), (90001, .box [iC v1.2.2.1, iC v1.2.2.2.1, .pure (.val (.bool v1.2.2.2.2)), .mref 90002]), (90002, .mp (FC (Value.int .i64) Ij v1.1))]) (fun j1 h => ?_) (fun v1 h => ?_)
 ·refine AX ?_
  refine AI h (fun v2 => mk [(0, oD (.ptr 90000 0)), (1, oD (.ptr 90001 0)), (2, pD (.sl (p2.map Aq))), (7, oD (.ptr 7 0)), (10, bD v2)] [(7, .box (C3 p3)), (90000, .box (AP p0)), (90001, .box [iC p1.hM, iC p1.hO, .pure (.val (.bool p1.qc)), .mref 90002]), (90002, .mp (FC (Value.int .i64) Ij p1.qo))]) (fun j2 h => ?_) (fun v2 h => ?_)
  ·refine Ai Aw rfl (qf Hc rfl (ql A8 rfl (AN rfl (qm rfl ?_))))
   refine Dc 14 h rfl (fun h => ?_) fun h => ?_
   ·refine qm rfl (KK rfl (qf Sw rfl (qL BZ BB rfl (qL I0 ER rfl ?_))))
    refine BF h fun v4 a4 h => Av [] (R5 N ((Aa.mk p0.gK.gH p0.gK.gR p0.gK.gU p0.gK.gJ)) p3 v4 a4) fE rfl (CL rfl (qp rfl (qa rfl (AJ (by kernel_rfl) ?_))))
    exact sn [] h
   ·refine qw 7 rfl (qp rfl (qa rfl (AJ (by kernel_rfl) ?_)))
    exact sn [] h
  ·refine Bb h (fun h => ?_) fun h => ?_
   ·refine wq rfl (qe rfl ?_)
    obtain rfl := sj h
    refine Ah (sm [] [(8, iD 1)] [(90000, .box (AP p0)), (90001, .box [iC p1.hM, iC p1.hO, .pure (.val (.bool p1.qc)), .mref 90002]), (90002, .mp (FC (Value.int .i64) Ij p1.qo))] rfl rfl) (As ?_)
    exact ⟨⟨[_], tm, rfl⟩, ⟨rfl, rfl, rfl, tv⟩, tv⟩
   ·refine AI h (fun v6 => mk [(0, oD (.ptr 90000 0)), (1, oD (.ptr 90001 0)), (2, pD (.sl (p2.map Aq))), (7, oD (.ptr 7 0)), (23, bD v6)] [(7, .box (C3 p3)), (90000, .box (AP p0)), (90001, .box [iC p1.hM, iC p1.hO, .pure (.val (.bool p1.qc)), .mref 90002]), (90002, .mp (FC (Value.int .i64) Ij p1.qo))]) (fun j6 h => ?_) (fun v6 h => ?_)
    ·refine Ai Aw rfl (qL I0 ER rfl ?_)
     refine BF h fun v7 a7 h => Av [] (HX N p3 v7 a7) Zy rfl (qm rfl ?_)
     refine Dc 26 h rfl (fun h => ?_) fun h => ?_
     ·refine qm rfl (qL I0 ER rfl ?_)
      refine BF h fun v9 a9 h => HC (ds0 := [_, _]) [90000] [] [false] (Ih N ((Ao.mk ((Aa.mk p0.gK.gH p0.gK.gR p0.gK.gU p0.gK.gJ)) p0.gZ p0.gE p0.gQ ((Ab.mk p0.gB.gI p0.gB.gF p0.gB.gG)))) p3 v9 a9) (.g rfl rfl) dC rfl ⟨rfl, rfl, tv⟩ rfl rfl (by decide) ⟨rfl, tv⟩ rfl (EA rfl) tv ⟨(fun _ => rfl), tv⟩ rfl rfl rfl ?_
      refine CL rfl (qp rfl (qe rfl ?_))
      exact sn [] h
     ·refine qw 4 rfl (qp rfl (qe rfl ?_))
      exact sn [] h
    ·refine Bb h (fun h => ?_) fun h => ?_
     ·refine wq rfl (qe rfl ?_)
      obtain rfl := sj h
      refine Ah (sm [] [(8, iD 2)] [(90000, .box (AP p0)), (90001, .box [iC p1.hM, iC p1.hO, .pure (.val (.bool p1.qc)), .mref 90002]), (90002, .mp (FC (Value.int .i64) Ij p1.qo))] rfl rfl) (As ?_)
      exact ⟨⟨[_], tm, rfl⟩, ⟨rfl, rfl, rfl, tv⟩, tv⟩
     ·refine wq rfl (qm rfl (qL I0 ER rfl ?_))
      refine BF h fun v11 a11 h => HC (ds0 := [_, _]) [90001, 90002] [] [true, true] (Me N p1 p3 v11 a11) (.p rfl) fW rfl ⟨rfl, rfl, tv⟩ rfl rfl (Ge rfl) ⟨rfl, rfl, tv⟩ rfl (EA rfl) tv ⟨(fun h => by cases h), (fun h => by cases h), tv⟩ rfl rfl rfl ?_
      refine CL rfl (qe rfl ?_)
      refine Bb h (fun h => ?_) fun h => ?_
      ·refine wq rfl (qe rfl ?_)
       obtain rfl := sj h
       refine Ah (sm [] [(8, iD 3)] [(90000, .box (AP p0)), (90001, .box [iC v11.2.1.hM, iC v11.2.1.hO, .pure (.val (.bool v11.2.1.qc)), .mref 90002]), (90002, .mp (FC (Value.int .i64) Ij v11.2.2))] rfl rfl) (As ?_)
       exact ⟨⟨[_], tm, rfl⟩, ⟨rfl, rfl, rfl, tv⟩, tv⟩
      ·refine wq rfl (qf Hc rfl (ql A8 rfl (AN rfl (qe rfl ?_))))
       refine Bb h (fun h => ?_) fun h => ?_
       ·refine wq rfl (qm rfl (qf Nn rfl (ql A8 rfl ?_)))
        refine BF h fun v14 a14 h => Av [] (QK N p2 p3.gO v14 a14) fc rfl (qe rfl ?_)
        refine AI h (fun v15 => mk [(57, bD v15)] [(90000, .box (AP p0)), (90001, .box [iC v11.2.1.hM, iC v11.2.1.hO, .pure (.val (.bool v11.2.1.qc)), .mref 90002]), (90002, .mp (FC (Value.int .i64) Ij v11.2.2))]) (fun j15 h => ?_) (fun v15 h => ?_)
        ·refine Ai Aw rfl (qm rfl (A9 rfl (qm rfl ?_)))
         refine Dc 47 h rfl (fun h => ?_) fun h => ?_
         ·refine qw 9 rfl (qp rfl (AJ (by kernel_rfl) ?_))
          exact sn [] h
         ·refine qm rfl (KK rfl (qf Nw rfl (qL Bf AQ rfl (qm rfl (qf So rfl (ql A8 rfl ?_))))))
          refine BF h fun v17 a17 h => Av [] (I1 N ((Ab.mk p0.gB.gI p0.gB.gF p0.gB.gG)) v14 p3.gV v17 a17) XN rfl (CL rfl (qp rfl (AJ (by kernel_rfl) ?_)))
          exact sn [] h
        ·refine Bb h (fun h => ?_) fun h => ?_
         ·refine wq rfl (qe rfl ?_)
          obtain rfl := sj h
          refine Ah (sm [] [(8, iD 4)] [(90000, .box (AP p0)), (90001, .box [iC v11.2.1.hM, iC v11.2.1.hO, .pure (.val (.bool v11.2.1.qc)), .mref 90002]), (90002, .mp (FC (Value.int .i64) Ij v11.2.2))] rfl rfl) (As ?_)
          exact ⟨⟨[_], tm, rfl⟩, ⟨rfl, rfl, rfl, tv⟩, tv⟩
         ·refine Al ?_
          exact sn [] h
       ·refine wq rfl (qf Hc rfl (ql A8 rfl (AN rfl (qe rfl ?_))))
        refine Bb h (fun h => ?_) fun h => ?_
        ·refine wq rfl (qm rfl (KK rfl (qf Sw rfl (qL BZ BB rfl (qm rfl (KK rfl (qf Nw rfl (qL Bf AQ rfl (qL I0 ER rfl ?_)))))))))
         refine BF h fun v20 a20 h => Av [] (Pa N ((Aa.mk p0.gK.gH p0.gK.gR p0.gK.gU p0.gK.gJ)) ((Ab.mk p0.gB.gI p0.gB.gF p0.gB.gG)) p3 v20 a20) fb rfl (CL rfl (AJ (by kernel_rfl) ?_))
         refine Bb h (fun h => ?_) fun h => ?_
         ·refine wq rfl (qe rfl ?_)
          obtain rfl := sj h
          refine Ah (sm [] [(8, iD 5)] [(90000, .box (AP p0)), (90001, .box [iC v11.2.1.hM, iC v11.2.1.hO, .pure (.val (.bool v11.2.1.qc)), .mref 90002]), (90002, .mp (FC (Value.int .i64) Ij v11.2.2))] rfl rfl) (As ?_)
          exact ⟨⟨[_], tm, rfl⟩, ⟨rfl, rfl, rfl, tv⟩, tv⟩
         ·refine Al ?_
          exact sn [] h
        ·refine wq rfl (qL I0 ER rfl ?_)
         refine BF h fun v22 a22 h => Av [] (HX N p3 v22 a22) Zy rfl (qe rfl ?_)
         refine Bb h (fun h => ?_) fun h => ?_
         ·refine Ai Aw rfl (qm rfl (qL I0 ER rfl ?_))
          refine BF h fun v24 a24 h => HC (ds0 := [_, _]) [90000] [] [true] (HQ N ((Ao.mk ((Aa.mk p0.gK.gH p0.gK.gR p0.gK.gU p0.gK.gJ)) p0.gZ p0.gE p0.gQ ((Ab.mk p0.gB.gI p0.gB.gF p0.gB.gG)))) p3 v24 a24) (.p rfl) ec rfl ⟨rfl, rfl, tv⟩ rfl rfl (by decide) ⟨rfl, tv⟩ rfl (EA rfl) tv ⟨(fun h => by cases h), tv⟩ rfl rfl rfl ?_
          refine Ac ?_
          exact sn [] h
         ·refine Al ?_
          exact sn [] h
 ·refine wq rfl (qe rfl ?_)
  obtain rfl := sj h
  refine Ah (sm [] [(8, iD 0)] [(90000, .box (AP v1.2.1)), (90001, .box [iC v1.2.2.1, iC v1.2.2.2.1, .pure (.val (.bool v1.2.2.2.2)), .mref 90002]), (90002, .mp (FC (Value.int .i64) Ij v1.1))] rfl rfl) (As ?_)
  exact ⟨⟨[_], tm, rfl⟩, ⟨rfl, rfl, rfl, tv⟩, tv⟩
theorem QQ (N : Nat) (p0 : Aa) (p1 : List Int) (p2 : List Ae) (p3 : List Ad) (r : Int × Int × (Option Ao) × Int) (h : GV N p0 p1 p2 p3 = some r) : Au zA 35 [.e (.agg (Ag p0)), pD (.sl (p1.map Aq)), pD (.sl (p2.map Ax)), pD (.sl (p3.map AO))] [] (.tup [.one (iC r.1), .one (iC r.2.1), .one (.pure (.rp (zA1 GZ r.2.2.1))), .one (iC r.2.2.2)]) := by
 unfold GV at h
 refine cw (n := 69) (rs := [.tmp 8, .tmp 9, .tmp 10, .tmp 11]) Tryz.func35 fun w0 S0 => ?_
 refine wq rfl (qb rfl (qa rfl (qa rfl (qa rfl (qa rfl (Ac (wp rfl (qL BZ BB rfl ?_))))))))
 refine BF h fun v1 a1 h => Av [] (FR N p0 v1 a1) Z9 rfl (qa rfl (Ac (wq rfl (qm rfl (BH rfl (Ac ?_))))))
 refine Bb h (fun h => ?_) fun h => ?_
 ·refine wq rfl (qm rfl (qa rfl (qa rfl (qa rfl (qe rfl ?_)))))
  obtain rfl := sj h
  refine Ah (sm [] [(8, iD 0), (9, iD 0), (10, pD (.rp none)), (11, iD v1)] [] rfl rfl) (As ?_)
  exact ⟨⟨[_, _, _, _], ⟨.tmp _ _ rfl, ⟨.tmp _ _ rfl, ⟨.tmp _ _ rfl, tm⟩⟩⟩, rfl⟩, tv⟩
 ·refine Al (wp rfl (qL BZ BB rfl (qm rfl ?_)))
  refine BF h fun v3 a3 h => Av [] (O5 N p0 p1 v3 a3) gd rfl (qa rfl (Ac (wq rfl (qm rfl (BH rfl (Ac ?_))))))
  refine Bb h (fun h => ?_) fun h => ?_
  ·refine wq rfl (qm rfl (qa rfl (qa rfl (qa rfl (qe rfl ?_)))))
   obtain rfl := sj h
   refine Ah (sm [] [(8, iD 0), (9, iD 0), (10, pD (.rp none)), (11, iD v3)] [] rfl rfl) (As ?_)
   exact ⟨⟨[_, _, _, _], ⟨.tmp _ _ rfl, ⟨.tmp _ _ rfl, ⟨.tmp _ _ rfl, tm⟩⟩⟩, rfl⟩, tv⟩
  ·refine Al (wq rfl (qL BZ BB rfl (qm rfl ?_)))
   refine BF h fun v5 a5 h => Av [] (Kc N p0 p2 v5 a5) fp rfl (qm rfl (qx rfl (qx rfl (qz CM rfl (qs AQ rfl (qe rfl ?_))))))
   refine AI h (fun v6 => mk [(1, pD (.sl (p1.map Aq))), (2, pD (.sl (p2.map Ax))), (3, pD (.sl (p3.map AO))), (4, oD (.ptr 4 0)), (14, oD (.ptr 14 0)), (15, iD v6)] [(4, .box (Ag p0)), (14, .box (AH v5.1))]) (fun j6 h => ?_) (fun v6 h => ?_)
   ·refine wq rfl (qm rfl (AN rfl (Ac ?_)))
    refine Bb h (fun h => ?_) fun h => ?_
    ·refine Ai Aw rfl (qm rfl ?_)
     refine BF h fun v8 a8 h => Av [] (II N p3 v8 a8) bT rfl (qe rfl ?_)
     exact sn [] h
    ·refine Al ?_
     exact sn [] h
   ·refine wp rfl (qm rfl (BH rfl (Ac ?_)))
    refine Bb h (fun h => ?_) fun h => ?_
    ·refine wq rfl (qm rfl (qa rfl (qa rfl (qa rfl (qe rfl ?_)))))
     obtain rfl := sj h
     refine Ah (sm [] [(8, iD 0), (9, iD 0), (10, pD (.rp none)), (11, iD v6)] [] rfl rfl) (As ?_)
     exact ⟨⟨[_, _, _, _], ⟨.tmp _ _ rfl, ⟨.tmp _ _ rfl, ⟨.tmp _ _ rfl, tm⟩⟩⟩, rfl⟩, tv⟩
    ·refine Al (wq rfl (qL BZ BB rfl (qm rfl (qL Bf AQ rfl (AS eE dM rfl (qb rfl (qa rfl (Ac (wq rfl ?_)))))))))
     refine BF h fun v10 a10 h => HC (ds0 := []) [] [2001, 2002] [] (NU N v10 a10) (.p rfl) fD rfl tv rfl rfl (by decide) tv rfl (EA rfl) ⟨rfl, rfl, tv⟩ tv rfl rfl rfl ?_
     refine FO (sm [] [(1, pD (.sl (p1.map Aq))), (2, pD (.sl (p2.map Ax))), (3, pD (.sl (p3.map AO))), (4, oD (.ptr 4 0)), (14, oD (.ptr 14 0)), (15, iD v6), (16, oD (.ptr 49 0)), (42, iD v6), (43, bD ((v6 != 0))), (45, .e (.agg (Ag p0))), (46, pD (.sl (p2.map Ax))), (47, .e (.agg (AH v5.1))), (48, .e (.agg [sC (p0.gH.map Aq), sC (p0.gR.map Aq), sC (p0.gU.map Aq), sC (p0.gJ.map Bs), sC (p2.map Ax), iC 0, iC 0, sC (v5.1.gI.map Aq), sC (v5.1.gF.map Aq), sC (v5.1.gG.map Cy)])), (49, oD (.ptr 49 0)), (50, oD (.ptr 2001 0))] [(4, .box (Ag p0)), (14, .box (AH v5.1)), (49, .box [sC (p0.gH.map Aq), sC (p0.gR.map Aq), sC (p0.gU.map Aq), sC (p0.gJ.map Bs), sC (p2.map Ax), iC 0, iC 0, sC (v5.1.gI.map Aq), sC (v5.1.gF.map Aq), sC (v5.1.gG.map Cy)]), (2001, .box [iC v10.hM, iC v10.hO, .pure (.val (.bool v10.qc)), .mref 2002]), (2002, .mp (FC (Value.int .i64) Ij v10.qo))] rfl rfl) (qa rfl (Ac (wp rfl (qm rfl (AU E9 rfl (qm rfl (Ac ?_)))))))
     refine AY (L := EJ N p1 p3) h (fun v11 => mk [(1, pD (.sl (p1.map Aq))), (16, oD (.ptr 49 0)), (17, oD (.ptr 2001 0)), (51, pD (.sl (p3.map AO))), (52, iD ((p3.length : Int))), (53, iD v11.2.2.2.2.2)] [(49, .box (AP v11.1)), (2001, .box [iC v11.2.1, iC v11.2.2.1, .pure (.val (.bool v11.2.2.2.1)), .mref 2003]), (2003, .mp (FC (Value.int .i64) Ij v11.2.2.2.2.1))]) (fun v12 => mk [(16, oD (.ptr 49 0))] [(49, .box (AP v12))]) (fun _ _ => rfl) (sm [(2003, 2002)] _ _ rfl rfl) (fun j11 n11 v11 h => ?_) (fun v12 s h hs => ?_)
     ·unfold EJ at h
      refine wq rfl (A9 rfl (Ac (A5 ?_)))
      refine Bb h (fun h => ?_) fun h => ?_
      ·refine Al (A5 (AX (wq rfl (qm rfl ?_))))
       refine BY h fun v14 a14 b14 h => qi E9 ER a14 (Aj b14) rfl (qK I0 ER rfl (qz Iu rfl (qa rfl (qs ER rfl (Ac (wq rfl (qw 3 rfl (qL I0 ER rfl ?_))))))))
       refine BF h fun v15 a15 h => HC (ds0 := [_, _, _, _]) [49, 2001, 2003] [] [true, true, true] (Ns N ((Ao.mk ((Aa.mk v11.1.gK.gH v11.1.gK.gR v11.1.gK.gU v11.1.gK.gJ)) v11.1.gZ v11.1.gE v11.1.gQ ((Ab.mk v11.1.gB.gI v11.1.gB.gF v11.1.gB.gG)))) ((BI.mk v11.2.1 v11.2.2.1 v11.2.2.2.1 v11.2.2.2.2.1)) p1 v14 v15 a15) (.p rfl) f7 rfl ⟨rfl, rfl, rfl, rfl, tv⟩ rfl rfl (Ge rfl) ⟨rfl, rfl, rfl, tv⟩ rfl (EA rfl) tv ⟨(fun h => by cases h), (fun h => by cases h), (fun h => by cases h), tv⟩ rfl rfl rfl ?_
       refine qa rfl (Ac (wq rfl (qm rfl (BH rfl (Ac ?_)))))
       refine Bb h (fun h => ?_) fun h => ?_
       ·refine wq rfl (qw 2 rfl (qa rfl (qa rfl (qa rfl (qe rfl ?_)))))
        obtain rfl := sj h
        refine Ah (sm [] [(8, iD v11.2.2.2.2.2), (9, iD v15.1), (10, pD (.rp none)), (11, iD 0)] [] rfl rfl) (As ?_)
        exact ⟨⟨[_, _, _, _], ⟨.tmp _ _ rfl, ⟨.tmp _ _ rfl, ⟨.tmp _ _ rfl, tm⟩⟩⟩, rfl⟩, tv⟩
       ·refine Al (Ai Aw rfl (Bp rfl (qm rfl (Ac ?_))))
        exact sn [] h
      ·refine Bh ?_
       exact sn [] h
     ·refine Ah hs (wq rfl (qm rfl (qa rfl (qa rfl (qa rfl (qe rfl ?_))))))
      obtain rfl := sj h
      refine Ah ((Lu 49 [.sl (v12.gK.gH.map Aq), .sl (v12.gK.gR.map Aq), .sl (v12.gK.gU.map Aq), .sl (v12.gK.gJ.map Bs), .sl (v12.gZ.map Ax), .val (.int .i64 v12.gE), .val (.int .i64 v12.gQ), .sl (v12.gB.gI.map Aq), .sl (v12.gB.gF.map Aq), .sl (v12.gB.gG.map Cy)] rfl rfl).trans ((Se 10 _ rfl).trans (sm [] [(8, iD 0), (9, iD 0), (10, pD (.rp (zA1 GZ ((some ((Ao.mk ((Aa.mk v12.gK.gH v12.gK.gR v12.gK.gU v12.gK.gJ)) v12.gZ v12.gE v12.gQ ((Ab.mk v12.gB.gI v12.gB.gF v12.gB.gG))))))))), (11, iD 15)] [] rfl rfl))) (As ?_)
      exact ⟨⟨[_, _, _, _], ⟨.tmp _ _ rfl, ⟨.tmp _ _ rfl, ⟨.tmp _ _ rfl, tm⟩⟩⟩, rfl⟩, tv⟩
theorem Ko (N : Nat) (p0 : Aa) (p1 : List Int) (p2 : List Ae) (p3 : List Ad) (r : Int × Int × Int) (h : Ft N p0 p1 p2 p3 = some r) : Au zA 13 [.e (.agg (Ag p0)), pD (.sl (p1.map Aq)), pD (.sl (p2.map Ax)), pD (.sl (p3.map AO))] [] (.tup [.one (iC r.1), .one (iC r.2.1), .one (iC r.2.2)]) := by
 unfold Ft at h
 refine cw (n := 28) (rs := [.tmp 8, .tmp 9, .tmp 10]) Tryz.func13 fun w0 S0 => ?_
 refine wq rfl (qb rfl (qa rfl (qa rfl (qa rfl (Ac (wq rfl (qL BZ BB rfl (qw 3 rfl ?_))))))))
 refine BF h fun v1 a1 h => Av [] (QQ N p0 p1 p2 p3 v1 a1) fM rfl (qm rfl (qx rfl (qx rfl (qx rfl (qx rfl (qa rfl (qa rfl (qa rfl (qa rfl (Ac (wq rfl (qw 3 rfl (qa rfl (qa rfl (qe rfl ?_)))))))))))))))
 obtain rfl := sj h
 refine Ah (sm [] [(8, iD v1.1), (9, iD v1.2.1), (10, iD v1.2.2.2)] [] rfl rfl) (As ?_)
 exact ⟨⟨[_, _, _], ⟨.tmp _ _ rfl, ⟨.tmp _ _ rfl, tm⟩⟩, rfl⟩, tv⟩
theorem OC (N : Nat) (p0 : Aa) (p1 : List Ae) (p2 : List Ad) (r : (Option Ao) × Int × Int) (h : FT N p0 p1 p2 = some r) : Au zA 39 [.e (.agg (Ag p0)), pD (.sl (p1.map Ax)), pD (.sl (p2.map AO))] [] (.tup [.one (.pure (.rp (zA1 GZ r.1))), .one (iC r.2.1), .one (iC r.2.2)]) := by
 unfold FT at h
 refine cw (n := 59) (rs := [.tmp 6, .tmp 7, .tmp 8]) Tryz.func39 fun w0 S0 => ?_
 refine wq rfl (qb rfl (qa rfl (qa rfl (qa rfl (Ac (wp rfl (qL BZ BB rfl ?_)))))))
 refine BF h fun v1 a1 h => Av [] (FR N p0 v1 a1) Z9 rfl (qa rfl (Ac (wq rfl (qm rfl (BH rfl (Ac ?_))))))
 refine Bb h (fun h => ?_) fun h => ?_
 ·refine wq rfl (qm rfl (qa rfl (qa rfl (qe rfl ?_))))
  obtain rfl := sj h
  refine Ah (sm [] [(6, pD (.rp none)), (7, iD 0), (8, iD v1)] [] rfl rfl) (As ?_)
  exact ⟨⟨[_, _, _], ⟨.tmp _ _ rfl, ⟨.tmp _ _ rfl, tm⟩⟩, rfl⟩, tv⟩
 ·refine Al (wq rfl (qL BZ BB rfl (qm rfl ?_)))
  refine BF h fun v3 a3 h => Av [] (Kc N p0 p1 v3 a3) fp rfl (qm rfl (qx rfl (qx rfl (qz CM rfl (qs AQ rfl (qe rfl ?_))))))
  refine AI h (fun v4 => mk [(1, pD (.sl (p1.map Ax))), (2, pD (.sl (p2.map AO))), (3, oD (.ptr 3 0)), (10, oD (.ptr 10 0)), (11, iD v4)] [(3, .box (Ag p0)), (10, .box (AH v3.1))]) (fun j4 h => ?_) (fun v4 h => ?_)
  ·refine wq rfl (qm rfl (AN rfl (Ac ?_)))
   refine Bb h (fun h => ?_) fun h => ?_
   ·refine Ai Aw rfl (qm rfl ?_)
    refine BF h fun v6 a6 h => Av [] (II N p2 v6 a6) bT rfl (qe rfl ?_)
    exact sn [] h
   ·refine Al ?_
    exact sn [] h
  ·refine wp rfl (qm rfl (BH rfl (Ac ?_)))
   refine Bb h (fun h => ?_) fun h => ?_
   ·refine wq rfl (qm rfl (qa rfl (qa rfl (qe rfl ?_))))
    obtain rfl := sj h
    refine Ah (sm [] [(6, pD (.rp none)), (7, iD 0), (8, iD v4)] [] rfl rfl) (As ?_)
    exact ⟨⟨[_, _, _], ⟨.tmp _ _ rfl, ⟨.tmp _ _ rfl, tm⟩⟩, rfl⟩, tv⟩
   ·refine Al (wq rfl (qL BZ BB rfl (qm rfl (qL Bf AQ rfl (AS eE dM rfl (qb rfl (qa rfl (Ac (wp rfl (qm rfl (AU E9 rfl (qm rfl (Ac ?_)))))))))))))
    refine AY (L := D3 N p2) h (fun v8 => mk [(12, oD (.ptr 37 0)), (38, pD (.sl (p2.map AO))), (39, iD ((p2.length : Int))), (40, iD v8.2)] [(37, .box (AP v8.1))]) (fun v9 => mk [(12, oD (.ptr 37 0))] [(37, .box (AP v9))]) (fun _ _ => rfl) (sm [] _ _ rfl rfl) (fun j8 n8 v8 h => ?_) (fun v9 s h hs => ?_)
    ·unfold D3 at h
     refine wq rfl (A9 rfl (Ac (A5 ?_)))
     refine Bb h (fun h => ?_) fun h => ?_
     ·refine Al ?_
      refine AI h (fun v11 => mk [(12, oD (.ptr 37 0)), (38, pD (.sl (p2.map AO))), (39, iD ((p2.length : Int))), (40, iD v8.2)] [(37, .box (AP v11))]) (fun j11 h => ?_) (fun v11 h => ?_)
      ·refine AX (wq rfl (qm rfl ?_))
       refine BY h fun v12 a12 b12 h => qi E9 ER a12 (Aj b12) rfl (qK I0 ER rfl (qz Iu rfl (qa rfl (qs ER rfl (Ac (wp rfl (qL I0 ER rfl ?_)))))))
       refine BF h fun v13 a13 h => Av [] (HX N v12 v13 a13) Zy rfl (CL rfl (Ac ?_))
       refine Bb h (fun h => ?_) fun h => ?_
       ·refine Bh ?_
        exact sn [] h
       ·refine Al (wp rfl (qm rfl (qL I0 ER rfl ?_)))
        refine BF h fun v15 a15 h => HC (ds0 := [_, _]) [37] [] [false] (Ih N ((Ao.mk ((Aa.mk v8.1.gK.gH v8.1.gK.gR v8.1.gK.gU v8.1.gK.gJ)) v8.1.gZ v8.1.gE v8.1.gQ ((Ab.mk v8.1.gB.gI v8.1.gB.gF v8.1.gB.gG)))) v12 v15 a15) (.p rfl) dC rfl ⟨rfl, rfl, tv⟩ rfl rfl (by decide) ⟨rfl, tv⟩ rfl (EA rfl) tv ⟨(fun _ => rfl), tv⟩ rfl rfl rfl ?_
        refine CL rfl (Ac ?_)
        refine Bb h (fun h => ?_) fun h => ?_
        ·refine wq rfl (qw 2 rfl (qa rfl (qa rfl (qe rfl ?_))))
         obtain rfl := sj h
         refine Ah ((Lu 37 [.sl (v8.1.gK.gH.map Aq), .sl (v8.1.gK.gR.map Aq), .sl (v8.1.gK.gU.map Aq), .sl (v8.1.gK.gJ.map Bs), .sl (v8.1.gZ.map Ax), .val (.int .i64 v8.1.gE), .val (.int .i64 v8.1.gQ), .sl (v8.1.gB.gI.map Aq), .sl (v8.1.gB.gF.map Aq), .sl (v8.1.gB.gG.map Cy)] rfl rfl).trans ((Se 6 _ rfl).trans (sm [] [(6, pD (.rp (zA1 GZ ((some ((Ao.mk ((Aa.mk v8.1.gK.gH v8.1.gK.gR v8.1.gK.gU v8.1.gK.gJ)) v8.1.gZ v8.1.gE v8.1.gQ ((Ab.mk v8.1.gB.gI v8.1.gB.gF v8.1.gB.gG))))))))), (7, iD v8.2), (8, iD 0)] [] rfl rfl))) (As ?_)
         exact ⟨⟨[_, _, _], ⟨.tmp _ _ rfl, ⟨.tmp _ _ rfl, tm⟩⟩, rfl⟩, tv⟩
        ·refine Al (Ai Aw rfl (qm rfl (qL I0 ER rfl ?_)))
         refine BF h fun v17 a17 h => HC (ds0 := [_, _]) [37] [] [true] (HQ N ((Ao.mk ((Aa.mk v8.1.gK.gH v8.1.gK.gR v8.1.gK.gU v8.1.gK.gJ)) v8.1.gZ v8.1.gE v8.1.gQ ((Ab.mk v8.1.gB.gI v8.1.gB.gF v8.1.gB.gG)))) v12 v17 a17) (.p rfl) ec rfl ⟨rfl, rfl, tv⟩ rfl rfl (by decide) ⟨rfl, tv⟩ rfl (EA rfl) tv ⟨(fun h => by cases h), tv⟩ rfl rfl rfl ?_
         refine Ac ?_
         exact sn [] h
      ·refine Ai Aw rfl (Bp rfl (qm rfl (Ac ?_)))
       exact sn [] h
     ·refine Bh ?_
      exact sn [] h
    ·refine Ah hs (wq rfl (qm rfl (qa rfl (qa rfl (qe rfl ?_)))))
     obtain rfl := sj h
     refine Ah ((Lu 37 [.sl (v9.gK.gH.map Aq), .sl (v9.gK.gR.map Aq), .sl (v9.gK.gU.map Aq), .sl (v9.gK.gJ.map Bs), .sl (v9.gZ.map Ax), .val (.int .i64 v9.gE), .val (.int .i64 v9.gQ), .sl (v9.gB.gI.map Aq), .sl (v9.gB.gF.map Aq), .sl (v9.gB.gG.map Cy)] rfl rfl).trans ((Se 6 _ rfl).trans (sm [] [(6, pD (.rp (zA1 GZ ((some ((Ao.mk ((Aa.mk v9.gK.gH v9.gK.gR v9.gK.gU v9.gK.gJ)) v9.gZ v9.gE v9.gQ ((Ab.mk v9.gB.gI v9.gB.gF v9.gB.gG))))))))), (7, iD ((-1))), (8, iD 0)] [] rfl rfl))) (As ?_)
     exact ⟨⟨[_, _, _], ⟨.tmp _ _ rfl, ⟨.tmp _ _ rfl, tm⟩⟩, rfl⟩, tv⟩
theorem OY (N : Nat) (p0 : Aa) (p1 : List Ae) (p2 : List Ad) (r : Ab × Int) (h : G9 N p0 p1 p2 = some r) : Au zA 16 [.e (.agg (Ag p0)), pD (.sl (p1.map Ax)), pD (.sl (p2.map AO))] [] (.tup [.agg (AH r.1), .one (iC r.2)]) := by
 unfold G9 at h
 refine cw (n := 32) (rs := [.cell 6 40, .tmp 7]) Tryz.func16 fun w0 S0 => ?_
 refine wq rfl (qb rfl (qz CM rfl (qa rfl (Ac (wq rfl (qL BZ BB rfl (qw 2 rfl ?_)))))))
 refine BF h fun v1 a1 h => Av [] (OC N p0 p1 p2 v1 a1) fB rfl (qm rfl (qx rfl (qx rfl (qx rfl (qa rfl (qa rfl (qa rfl (Ac (A5 (AX (wq rfl (qm rfl (BH rfl (qe rfl ?_))))))))))))))
 refine Bb h (fun h => ?_) fun h => ?_
 ·refine wq rfl (AS CM G1 rfl (qm rfl (qs AQ rfl (qe rfl ?_))))
  obtain rfl := sj h
  refine Ah ((D4 6 _ rfl).trans (sm [] [(6, oD (.ptr 6 0)), (7, iD v1.2.2)] [(6, .box [sC ((([] : List Int)).map Aq), sC ((([] : List Int)).map Aq), sC ((([] : List Int)).map Cy)])] rfl rfl)) (As ?_)
  exact ⟨⟨[_, _], ⟨.cellN _ _ _ _ _ _ _ rfl rfl Bf AQ rfl rfl (E1 rfl), tm⟩, rfl⟩, tv⟩
 ·refine wq rfl (qm rfl (Eh rfl (qe rfl ?_)))
  refine Bb h (fun h => ?_) fun h => ?_
  ·refine wq rfl (AS CM G1 rfl (qs AQ rfl (qe rfl ?_)))
   obtain rfl := sj h
   refine Ah ((D4 6 _ rfl).trans (sm [] [(6, oD (.ptr 6 0)), (7, iD 11)] [(6, .box [sC ((([] : List Int)).map Aq), sC ((([] : List Int)).map Aq), sC ((([] : List Int)).map Cy)])] rfl rfl)) (As ?_)
   exact ⟨⟨[_, _], ⟨.cellN _ _ _ _ _ _ _ rfl rfl Bf AQ rfl rfl (E1 rfl), tm⟩, rfl⟩, tv⟩
  ·refine Al (wq rfl (qm rfl ?_))
   refine BF h fun v4 a4 h => FO (Xj 28 _ _ rfl (by rw [a4]; rfl)) ?_
   refine TD (.p rfl) rfl ?_
   refine qg Nw rfl (qK Bf AQ rfl (qs AQ rfl (qe rfl ?_)))
   obtain rfl := sj h
   refine Ah (sm [] [(6, oD (.ptr 6 0)), (7, iD 0)] [(6, .box (AH v4.gB))] rfl rfl) (As ?_)
   exact ⟨⟨[_, _], ⟨.cellN _ _ _ _ _ _ _ rfl rfl Bf AQ rfl rfl (E1 rfl), tm⟩, rfl⟩, tv⟩
def VC : Go.Shelf.Ren := ⟨fun | 129 => 182 | 173 => 125 | 246 => 126 | 283 => 159 | 284 => 160 | 285 => 161 | 286 => 162 | 317 => 181 | 318 => 183 | 319 => 184 | 320 => 185 | 337 => 194 | 338 => 195 | n => n, fun | 0 => 0 | 2 => 2 | 3 => 3 | 4 => 4 | 5 => 5 | 9 => 9 | 20 => 20 | 37 => 47 | 46 => 234 | 51 => 242 | 53 => 214 | 171 => 213 | 173 => 217 | 212 => 241 | 213 => 243 | 232 => 261 | 233 => 262 | n => n, fun | 17 => 0 | 18 => 1 | 19 => 2 | n => n⟩
theorem Zq : LaysM.n173 zA VC := { mixed := Aw, f129 := Tryz.func182.trans (congrArg some (by kernel_rfl)), f173 := Tryz.func125.trans (congrArg some (by kernel_rfl)), f246 := Tryz.func126.trans (congrArg some (by kernel_rfl)), f283 := Tryz.func159.trans (congrArg some (by kernel_rfl)), f284 := Tryz.func160.trans (congrArg some (by kernel_rfl)), f285 := Tryz.func161.trans (congrArg some (by kernel_rfl)), f286 := Tryz.func162.trans (congrArg some (by kernel_rfl)), f317 := Tryz.func181.trans (congrArg some (by kernel_rfl)), f318 := Tryz.func183.trans (congrArg some (by kernel_rfl)), f319 := Tryz.func184.trans (congrArg some (by kernel_rfl)), f320 := Tryz.func185.trans (congrArg some (by kernel_rfl)), f337 := Tryz.func194.trans (congrArg some (by kernel_rfl)), f338 := Tryz.func195.trans (congrArg some (by kernel_rfl)), t0 := Tryz.underlying0, a0 := Tryz.isAgg0, z0 := Tryz.sizeOf0, v0 := Tryz.zeroValue0, t2 := Tryz.underlying2, a2 := Tryz.isAgg2, z2 := Tryz.sizeOf2, v2 := Tryz.zeroValue2, t3 := Tryz.underlying3, a3 := Tryz.isAgg3, z3 := Tryz.sizeOf3, v3 := Tryz.zeroValue3, t4 := Tryz.underlying4, a4 := Tryz.isAgg4, z4 := Tryz.sizeOf4, v4 := Tryz.zeroValue4, t5 := Tryz.underlying5, a5 := Tryz.isAgg5, z5 := Tryz.sizeOf5, v5 := Tryz.zeroValue5, t9 := Tryz.underlying9, a9 := Tryz.isAgg9, z9 := Tryz.sizeOf9, v9 := Tryz.zeroValue9, t20 := Tryz.underlying20, a20 := Tryz.isAgg20, z20 := Tryz.sizeOf20, v20 := Tryz.zeroValue20, t37 := Tryz.underlying47, a37 := Tryz.isAgg47, z37 := Tryz.sizeOf47, v37 := Tryz.zeroValue47, t46 := Tryz.underlying234, a46 := Tryz.isAgg234, z46 := Tryz.sizeOf234, v46 := Tryz.zeroValue234, t51 := Tryz.underlying242, a51 := Tryz.isAgg242, z51 := Tryz.sizeOf242, v51 := Tryz.zeroValue242, t53 := Tryz.underlying214, a53 := Tryz.isAgg214, z53 := Tryz.sizeOf214, v53 := Tryz.zeroValue214, t171 := Tryz.underlying213, a171 := Tryz.isAgg213, z171 := Tryz.sizeOf213, v171 := Tryz.zeroValue213, t173 := Tryz.underlying217, a173 := Tryz.isAgg217, z173 := Tryz.sizeOf217, v173 := Tryz.zeroValue217, t212 := Tryz.underlying241, a212 := Tryz.isAgg241, z212 := Tryz.sizeOf241, v212 := Tryz.zeroValue241, t213 := Tryz.underlying243, a213 := Tryz.isAgg243, z213 := Tryz.sizeOf243, t232 := Tryz.underlying261, a232 := Tryz.isAgg261, z232 := Tryz.sizeOf261, v232 := Tryz.zeroValue261, t233 := Tryz.underlying262, a233 := Tryz.isAgg262, z233 := Tryz.sizeOf262, v233 := Tryz.zeroValue262, g17 := by kernel_rfl, g18 := by kernel_rfl, g19 := by kernel_rfl, i0 := by kernel_rfl, i2 := by kernel_rfl, i3 := by kernel_rfl, i4 := by kernel_rfl, i5 := by kernel_rfl, i9 := by kernel_rfl, i20 := by kernel_rfl, i37 := by kernel_rfl, i46 := by kernel_rfl, i51 := by kernel_rfl, i53 := by kernel_rfl, i171 := by kernel_rfl, i173 := by kernel_rfl, i212 := by kernel_rfl, i232 := by kernel_rfl, i233 := by kernel_rfl, m17 := by kernel_rfl, m18 := by kernel_rfl, m19 := by kernel_rfl }
theorem I6 (N : Nat) (p0 p1 : Int) (r : ByteArray) (h : G6 N p0 p1 = some r) : Au zA 125 [iD p0, iD p1] [] (pD (.val (.string r))) := by
 obtain ⟨h1, h⟩ := JC h
 subst h1
 exact TF Zq (g := VC.g 17) (by kernel_rfl) h
theorem S5 (N : Nat) (p0 : Ad) (r : ByteArray) (h : GB N p0 = some r) : Au zA 88 [.e (.agg (C3 p0))] [] (pD (.val (.string r))) := by
 unfold GB at h
 refine cw (n := 29) (rs := [.tmp 2]) Tryz.func88 fun w0 S0 => ?_
 refine wq rfl (qb rfl (qa rfl (Ac (wq rfl (qf KY rfl (ql Lq rfl ?_))))))
 refine BF h fun v1 a1 h => Av [] (I6 N p0.gE 10 v1 a1) aB rfl ?_
 refine GJ h fun c2 h => FM (.p rfl) rfl rfl (Ib _ _ _ _ c2) rfl ?_
 refine qf Hc rfl (ql A8 rfl ?_)
 refine BF h fun v3 a3 h => Av [] (Nz N p0.gD v3 a3) bt rfl ?_
 refine GJ h fun c4 h => FM (.p rfl) rfl rfl (Ib _ _ _ _ c4) rfl ?_
 refine qa rfl (AJ (by kernel_rfl) (wp rfl (qL I0 ER rfl ?_)))
 refine BF h fun v5 a5 h => Av [2001] (LU N p0 v5 a5) bd rfl (GG GH rfl (qm rfl (Ac ?_)))
 refine AY (L := Hd N v5) h (fun v6 => mk [(3, pD (.val (.string v6.1))), (15, oD (.own 2002)), (16, iD ((v5.length : Int))), (17, iD v6.2)] [(2002, .vec 1 (v5.map Aq))]) (fun v7 => mk [(3, pD (.val (.string v7)))] []) (fun _ _ => rfl) (sm [(2002, 2001)] _ _ rfl rfl) (fun j6 n6 v6 h => ?_) (fun v7 s h hs => ?_)
 ·unfold Hd at h
  refine wq rfl (A9 rfl (Ac (A5 ?_)))
  refine Bb h (fun h => ?_) fun h => ?_
  ·refine Al (A5 (AX (wq rfl ?_)))
   refine BY h fun v9 a9 b9 h => qI GH Pg a9 (Aj b9) rfl (qj Lq (Aj b9) rfl (qa rfl (Ac (Ai Aw rfl (qw 2 rfl ?_)))))
   refine BF h fun v10 a10 h => Av [] (I6 N v9 10 v10 a10) aB rfl ?_
   refine GJ h fun c11 h => FM (.p rfl) rfl rfl (Ib _ _ _ _ c11) rfl ?_
   refine GJ h fun c12 h => FM (.p rfl) rfl rfl (Ib _ _ _ _ c12) rfl ?_
   refine qa rfl (Ac (Ai Aw rfl (Bp rfl (qm rfl (Ac ?_)))))
   exact sn [] h
  ·refine Bh ?_
   exact sn [] h
 ·refine Ah hs (wq rfl (qm rfl ?_))
  refine GJ h fun c13 h => FM (.p rfl) rfl rfl (Ib _ _ _ _ c13) rfl ?_
  refine qa rfl (Ac ?_)
  obtain rfl := sj h
  refine Ah (sm [] [(2, pD (.val (.string ((v7 ++ (⟨#[10]⟩ : ByteArray))))))] [] rfl rfl) (As ?_)
  exact ⟨⟨[_], tm, rfl⟩, tv⟩
def Yc : Go.Shelf.Ren := ⟨fun | 166 => 87 | 240 => 124 | 276 => 158 | n => n, fun | 0 => 0 | 3 => 3 | 4 => 4 | 5 => 5 | 9 => 9 | 37 => 47 | 70 => 140 | 72 => 142 | 75 => 144 | 80 => 149 | 164 => 211 | n => n, fun n => n⟩
theorem ck : Lays.n166 zA Yc := { mixed := Aw, f166 := Tryz.func87.trans (congrArg some (by kernel_rfl)), f240 := Tryz.func124.trans (congrArg some (by kernel_rfl)), f276 := Tryz.func158.trans (congrArg some (by kernel_rfl)), t0 := Tryz.underlying0, a0 := Tryz.isAgg0, z0 := Tryz.sizeOf0, v0 := Tryz.zeroValue0, t3 := Tryz.underlying3, a3 := Tryz.isAgg3, z3 := Tryz.sizeOf3, v3 := Tryz.zeroValue3, t4 := Tryz.underlying4, a4 := Tryz.isAgg4, z4 := Tryz.sizeOf4, v4 := Tryz.zeroValue4, t9 := Tryz.underlying9, a9 := Tryz.isAgg9, z9 := Tryz.sizeOf9, v9 := Tryz.zeroValue9, t20 := Tryz.underlying20, a20 := Tryz.isAgg20, z20 := Tryz.sizeOf20, v20 := Tryz.zeroValue20, t37 := Tryz.underlying47, a37 := Tryz.isAgg47, z37 := Tryz.sizeOf47, v37 := Tryz.zeroValue47, t70 := Tryz.underlying140, a70 := Tryz.isAgg140, z70 := Tryz.sizeOf140, v70 := Tryz.zeroValue140, t72 := Tryz.underlying142, a72 := Tryz.isAgg142, z72 := Tryz.sizeOf142, v72 := Tryz.zeroValue142, t75 := Tryz.underlying144, a75 := Tryz.isAgg144, z75 := Tryz.sizeOf144, v75 := Tryz.zeroValue144, t164 := Tryz.underlying211, a164 := Tryz.isAgg211, z164 := Tryz.sizeOf211, v164 := Tryz.zeroValue211 }
def W4 : Go.Shelf.Ren := ⟨fun | 169 => 90 | n => n, fun | 0 => 0 | 3 => 3 | 5 => 5 | 9 => 9 | 37 => 47 | 70 => 140 | 72 => 142 | 127 => 180 | n => n, fun n => n⟩
theorem cu : Lays.n169 zA W4 := { mixed := Aw, f169 := Tryz.func90.trans (congrArg some (by kernel_rfl)), t0 := Tryz.underlying0, a0 := Tryz.isAgg0, z0 := Tryz.sizeOf0, v0 := Tryz.zeroValue0, t3 := Tryz.underlying3, a3 := Tryz.isAgg3, z3 := Tryz.sizeOf3, v3 := Tryz.zeroValue3, t9 := Tryz.underlying9, a9 := Tryz.isAgg9, z9 := Tryz.sizeOf9, v9 := Tryz.zeroValue9, t37 := Tryz.underlying47, a37 := Tryz.isAgg47, z37 := Tryz.sizeOf47, v37 := Tryz.zeroValue47, t70 := Tryz.underlying140, a70 := Tryz.isAgg140, z70 := Tryz.sizeOf140, v70 := Tryz.zeroValue140, t72 := Tryz.underlying142, a72 := Tryz.isAgg142, z72 := Tryz.sizeOf142, v72 := Tryz.zeroValue142, t127 := Tryz.underlying180, a127 := Tryz.isAgg180, z127 := Tryz.sizeOf180, v127 := Tryz.zeroValue180 }
def bQ : Go.Shelf.Ren := ⟨fun | 170 => 89 | n => n, fun | 0 => 0 | 3 => 3 | 5 => 5 | 37 => 47 | 70 => 140 | 72 => 142 | n => n, fun n => n⟩
theorem bY : Lays.n170 zA bQ := { mixed := Aw, f170 := Tryz.func89.trans (congrArg some (by kernel_rfl)), t0 := Tryz.underlying0, a0 := Tryz.isAgg0, z0 := Tryz.sizeOf0, v0 := Tryz.zeroValue0, t3 := Tryz.underlying3, a3 := Tryz.isAgg3, z3 := Tryz.sizeOf3, v3 := Tryz.zeroValue3, t37 := Tryz.underlying47, a37 := Tryz.isAgg47, z37 := Tryz.sizeOf47, v37 := Tryz.zeroValue47, t70 := Tryz.underlying140, a70 := Tryz.isAgg140, z70 := Tryz.sizeOf140, v70 := Tryz.zeroValue140, t72 := Tryz.underlying142, a72 := Tryz.isAgg142, z72 := Tryz.sizeOf142, v72 := Tryz.zeroValue142 }
theorem fg : Builder.Extra zA Yc where
 sizeBuilder := by kernel_rfl
 liesBuilder := by kernel_rfl
 t5 := Tryz.underlying5
 a5 := Tryz.isAgg5
 z5 := Tryz.sizeOf5
 v5 := Tryz.zeroValue5
 infoByte := by kernel_rfl
 cellsByte := by kernel_rfl
 sizeByte := by kernel_rfl
 neB5 := by decide
theorem dB : Builder.Extra zA W4 where
 sizeBuilder := by kernel_rfl
 liesBuilder := by kernel_rfl
 t5 := Tryz.underlying5
 a5 := Tryz.isAgg5
 z5 := Tryz.sizeOf5
 v5 := Tryz.zeroValue5
 infoByte := by kernel_rfl
 cellsByte := by kernel_rfl
 sizeByte := by kernel_rfl
 neB5 := by decide
theorem gw (B b : Nat) (bs : List Value) (s : ByteArray) (w : World) (h : Lib.IsBuilder 142 5 B b bs w) (hlen : bs.length + s.size ≤ 140737488355328) (hBw : B ≤ w.heap.size) :
  Calls zA 87 #[.pointer (some ⟨b, 0, none⟩), .string s] w fun e w' => e = .returned (.tuple #[.int .i64 s.size, .nilIface]) ∧ (Lib.BuilderAt 142 5 B b (.pointer (some ⟨b, 0, none⟩)) (bs ++ Lib.strCells s) w' ∧ Below B w w') := Any.Builder_WriteString ck fg B b bs s w h hlen hBw
theorem ga (B b : Nat) (bs : List Value) (w : World) (h : Lib.IsBuilder 142 5 B b bs w) : Calls zA 89 #[.pointer (some ⟨b, 0, none⟩)] w fun e w' => e = .returned (.int .i64 bs.length) ∧ w' = w := Any.Builder_Len bY B b bs w h
theorem fQ (B b : Nat) (l : List UInt8) (w : World) (h : Lib.IsBuilder 142 5 B b (Lib.byteCells l) w) (hBw : B ≤ w.heap.size) :
  Calls zA 90 #[.pointer (some ⟨b, 0, none⟩)] w fun e w' => e = .returned (.string ⟨l.toArray⟩) ∧ Below B w w' := Any.Builder_String_any cu dB B b l w h hBw
def Z6 (x : Ad) : Array Value := #[.int .i64 x.gE, .int .i64 x.gD, .int .i64 x.gX, .int .i64 x.g8, .int .i64 x.hJ, .int .i64 x.gL, .int .i64 x.gN, .int .i64 x.gP, .int .i64 x.gO, .int .i64 x.gV, .int .i64 x.qv]
set_option maxRecDepth 1000000 in
theorem S8 (n : Nat) (a : Option Addr) (cap : Nat) (ve : Int) (hve : ve ≠ 0) (w : World)
  (hval : Calls zA 43 #[.slice a n cap] w fun e w' => e = .returned (.int .i64 ve) ∧ Below w.heap.size w w') :
  Calls zA 44 #[.slice a n cap] w fun e w' => e = .returned (.tuple #[.string ⟨#[]⟩, .int .i64 ve]) ∧ Below w.heap.size w w' := by
 have e43 : ∀ args w, (callFunc 43 args).run zA w = .ok (.enter 43 args) w := fun _ _ => by kernel_rfl
 have hb : (ve != 0) = true := bne_iff_ne.2 hve
 go_enter Tryz.func44, Tryz.ntmps44
 go_wp2_with (go_at_fn 43; refine hval.mono ?_; rintro e w' ⟨rfl, hw⟩)
 go_ret2
 exact ⟨rfl, hw⟩
set_option maxHeartbeats 2000000 in
set_option maxRecDepth 1000000 in
theorem VZ (ps : List Ad) (line : Ad → Option ByteArray) (a : Option Addr) (ab : Nat) (ao : Nat → Nat) (cap : Nat) (w : World) (r : ByteArray) (res : Value)
  (hval : Calls zA 43 #[.slice a ps.length cap] w fun e w' => e = .returned (.int .i64 0) ∧ Below w.heap.size w w')
  (hix : ∀ (i : Nat) x, ps[i]? = some x → ∀ W, Below w.heap.size w W → (Instr.indexAt 27 (.slice a ps.length cap) (.int .i64 (i : Int))).run zA W = .ok (.pointer (some ⟨ab, ao i, none⟩)) W ∧ ∀ (j : Nat) v, (Z6 x)[j]? = some v → W.cell? ⟨ab, ao i + j, none⟩ = some v)
  (hline : ∀ x s, x ∈ ps → line x = some s → ∀ W, Below w.heap.size w W → Calls zA 88 #[.agg (Z6 x)] W fun e w' => e = .returned (.string s) ∧ Below W.heap.size W w')
  (hn : ps.length ≤ 1000000) (hr : FP line ps ⟨#[]⟩ = some r) (h1 : r.size ≤ 65536 → res = .tuple #[.string r, .int .i64 0]) (h2 : 65536 < r.size → res = .tuple #[.string ⟨#[]⟩, .int .i64 3]) :
  Calls zA 44 #[.slice a ps.length cap] w fun e w' => e = .returned res ∧ Below w.heap.size w w' := by
 have e43 : ∀ args w, (callFunc 43 args).run zA w = .ok (.enter 43 args) w := fun _ _ => by kernel_rfl
 have e88 : ∀ args w, (callFunc 88 args).run zA w = .ok (.enter 88 args) w := fun _ _ => by kernel_rfl
 have e87 : ∀ args w, (callFunc 87 args).run zA w = .ok (.enter 87 args) w := fun _ _ => by kernel_rfl
 have e89 : ∀ args w, (callFunc 89 args).run zA w = .ok (.enter 89 args) w := fun _ _ => by kernel_rfl
 have e90 : ∀ args w, (callFunc 90 args).run zA w = .ok (.enter 90 args) w := fun _ _ => by kernel_rfl
 go_enter Tryz.func44, Tryz.ntmps44
 go_wp2_with (go_at_fn 43; refine hval.mono ?_; rintro e w' ⟨rfl, hw⟩)
 clear hval
 go_loopg [15] ps.length (fun g s15 wx => ∃ (q : Nat) (c : ByteArray), q + g = ps.length ∧ s15 = .int .i64 (q : Int) ∧ FP line (ps.drop q) c = some r ∧ Lib.IsBuilder 142 5 w.heap.size w'.heap.size (Lib.strCells c) wx ∧ Below w.heap.size w wx)
 case atStart =>
  refine ⟨0, ⟨#[]⟩, by omega, rfl, hr, ?_, ?_⟩
  ·obtain ⟨_, v, f1, f2, f3⟩ | ⟨_, v, f1, f2, f3⟩ := Lib.fresh_isBuilder 142 5 w'
   ·exact .inl ⟨hw.size, v, f1, f2.mono hw.size, f3⟩
   ·exact .inr ⟨hw.size, v, f1, f2.mono hw.size, f3⟩
  ·exact hw.alloc hw.size _
 case round =>
  obtain ⟨q, c, h3, rfl, h4, h5, h6⟩ := hrel
  cases gk with
  | zero =>
   have hq : q = ps.length := by omega
   subst hq
   rw [List.drop_length] at h4
   have h4 : c = r := sj h4
   subst h4
   have cLen := ga _ _ _ wr h5
   rw [Lib.strCells_length] at cLen
   have cStr := fQ w.heap.size w'.heap.size c.data.toList wr h5 h6.size
   have hnl : ¬ ((ps.length : Int) < (ps.length : Int)) := by omega
   by_cases hs : (65536 : Int) < (c.size : Int)
   ·go_wp2_with (go_at_fn 89; refine cLen.mono ?_; rintro e W1 ⟨rfl, hW⟩; rw [hW])
    go_ret2
    exact ⟨(congrArg Ending.returned (h2 (by omega))).symm, h6⟩
   ·go_wp2_with (first | (go_at_fn 89; refine cLen.mono ?_; rintro e W1 ⟨rfl, hW⟩; rw [hW]) | (go_at_fn 90; refine cStr.mono ?_; rintro e W2 ⟨rfl, b2⟩))
    go_ret2
    exact ⟨(congrArg Ending.returned (h1 (by omega))).symm, h6.trans b2⟩
  | succ g =>
   have hql : q < ps.length := by omega
   have hx : ps[q]? = some ps[q] := by simp [hql]
   obtain ⟨i1, i2⟩ := hix q _ hx wr h6
   rw [List.drop_eq_getElem_cons hql, FP] at h4
   obtain ⟨s, hs, h4⟩ := bind_some h4
   obtain ⟨hc, h4⟩ := JC h4
   have hnl : ((q : Int) < (ps.length : Int)) := by omega
   have c0 : wr.cell? ⟨ab, ao q, none⟩ = some (.int .i64 ps[q].gE) := i2 0 _ rfl
   have c1 : wr.cell? ⟨ab, ao q + 1, none⟩ = some (.int .i64 ps[q].gD) := i2 1 _ rfl
   have c2 : wr.cell? ⟨ab, ao q + 2, none⟩ = some (.int .i64 ps[q].gX) := i2 2 _ rfl
   have c3 : wr.cell? ⟨ab, ao q + 3, none⟩ = some (.int .i64 ps[q].g8) := i2 3 _ rfl
   have c4 : wr.cell? ⟨ab, ao q + 4, none⟩ = some (.int .i64 ps[q].hJ) := i2 4 _ rfl
   have c5 : wr.cell? ⟨ab, ao q + 5, none⟩ = some (.int .i64 ps[q].gL) := i2 5 _ rfl
   have c6 : wr.cell? ⟨ab, ao q + 6, none⟩ = some (.int .i64 ps[q].gN) := i2 6 _ rfl
   have c7 : wr.cell? ⟨ab, ao q + 7, none⟩ = some (.int .i64 ps[q].gP) := i2 7 _ rfl
   have c8 : wr.cell? ⟨ab, ao q + 8, none⟩ = some (.int .i64 ps[q].gO) := i2 8 _ rfl
   have c9 : wr.cell? ⟨ab, ao q + 9, none⟩ = some (.int .i64 ps[q].gV) := i2 9 _ rfl
   have c10 : wr.cell? ⟨ab, ao q + 10, none⟩ = some (.int .i64 ps[q].qv) := i2 10 _ rfl
   clear i2 hix
   have bA : Below w.heap.size w (wr.alloc (.cells (Z6 ps[q]) 37)) := h6.alloc h6.size _
   have bW : Below wr.heap.size wr (wr.alloc (.cells (Z6 ps[q]) 37)) := (Below.refl _ _).alloc (yD _) _
   have cL := hline ps[q] s (yN hql) hs _ bA
   go_wp2_with (go_at_fn 88; refine cL.mono ?_; rintro e W1 ⟨rfl, b1⟩)
   have bB : Below wr.heap.size wr W1 := bW.trans (b1.mono bW.size)
   have bC : Below w.heap.size w W1 := bA.trans (b1.mono bA.size)
   have cW := gw w.heap.size w'.heap.size (Lib.strCells c) s W1 (Xr h5 bB) (by rw [Lib.strCells_length]; exact hc) bC.size
   go_wp2_with (go_at_fn 87; refine cW.mono ?_; rintro e W2 ⟨rfl, h7, b2⟩)
   go_roundg g
   case measure => omega
   case rel =>
    refine ⟨q + 1, c ++ s, by omega, ?_, h4, .inr ?_, bC.trans b2⟩
    ·rfl
    ·have e : Lib.strCells (c ++ s) = Lib.strCells c ++ Lib.strCells s := by
      rw [Lib.strCells_eq, Lib.strCells_eq, Lib.strCells_eq, ← Lib.byteCells_append, ByteArray.data_append, Array.toList_append]
     rw [e]; exact h7
theorem ad {w : World} {S : Nat → Prop} (x : Ad) : Ii zA w (G0 S) (.agg (Z6 x)) (.e (.agg ((AO x).map C.pure))) := by
 refine ⟨Z6 x, rfl, rfl, fun j c hj => ?_⟩
 match j, hj with
 | 0, hj | 1, hj | 2, hj | 3, hj | 4, hj | 5, hj | 6, hj | 7, hj | 8, hj | 9, hj | 10, hj => cases hj; exact DJ.val _ rfl
 | j + 11, hj => simp [AO] at hj
theorem Qw (N : Nat) (p0 : List Ad) (r : ByteArray × Int) (h : Lg N p0 = some r) : Au zA 44 [pD (.sl (p0.map AO))] [] (.tup [.one (.pure (.val (.string r.1))), .one (iC r.2)]) := by
 intro w S vs hS hgk hlen hrd
 have h0 : DJ w S (AC vs 0) (.sl (p0.map AO)) := hrd 0 _ rfl
 have hvs : vs = #[AC vs 0] := by
  have h2 : vs.size = 1 := hlen
  apply Array.ext (by simp [h2])
  intro i h1 _
  have : i = 0 := by omega
  subst this; simp [AC, h1]
 obtain ⟨hn, h⟩ := JC h
 obtain ⟨ve, hve, h⟩ := bind_some h
 -- the result, from its two cells
 have fin : ∀ {e : Ending} {w' : World}, e = .returned (.tuple #[.string r.1, .int .i64 r.2]) ∧ Below w.heap.size w w' → ∃ v G', e = .returned v ∧ WR w.heap.size w w' ∧ (∀ β, S β → G'.S β) ∧ (∀ β, G'.S β → S β ∨ (w.heap.size ≤ β ∧ β < w'.heap.size)) ∧ Ii zA w' G' v (.tup [.one (.pure (.val (.string r.1))), .one (iC r.2)]) ∧
   (∀ (k : Nat) (x : Nat × List (List T)), ([] : List (Nat × List (List T)))[k]? = some x → FZ zA w' G' k (.vec x.1 x.2)) ∧
   (∀ k β, k < ([] : List (Nat × List (List T))).length → G'.has k β → w.heap.size ≤ β ∧ β < w'.heap.size ∧ ¬ G'.S β) ∧
   (∀ k l β, k < ([] : List (Nat × List (List T))).length → l < ([] : List (Nat × List (List T))).length → G'.has k β → G'.has l β → k = l) := by
  rintro e w' ⟨rfl, hb⟩
  refine ⟨_, G0 S, rfl, ⟨hb, fun h => by cases h⟩, fun _ h => h, fun _ h => .inl h, ⟨#[.string r.1, .int .i64 r.2], rfl, rfl, fun j x hj => ?_⟩, fun i x hi => by simp at hi, fun i β hi => by simp at hi, fun i l β hi => by simp at hi⟩
  match j, hj with
  | 0, hj => cases hj; exact DJ.val _ rfl
  | 1, hj => cases hj; exact DJ.val _ rfl
  | j + 2, hj => simp at hj
 rw [hvs]
 -- the call of Valid
 have cV : Calls zA 43 #[AC vs 0] w fun e w' => e = .returned (.int .i64 ve) ∧ Below w.heap.size w w' := by
  refine (II N p0 ve hve w S #[AC vs 0] hS hgk rfl (fun j d hj => ?_)).mono ?_
  ·match j, hj with
   | 0, hj => cases hj; exact h0
   | j + 1, hj => simp at hj
  ·rintro e w' ⟨v, G', rfl, hb, _, _, hv, _⟩
   have : v = .int .i64 ve := DR (hv : DJ w' G'.S v (.val _))
   exact ⟨by rw [this], hb.toBelow⟩
 have hl : ∀ x s, x ∈ p0 → GB N x = some s → ∀ W, Below w.heap.size w W → Calls zA 88 #[.agg (Z6 x)] W fun e w' => e = .returned (.string s) ∧ Below W.heap.size W w' := by
  intro x s _ hs W hW
  refine (S5 N x s hs W S #[.agg (Z6 x)] (fun β hβ => Nat.lt_of_lt_of_le (hS β hβ) hW.size) (hgk.mono (fun β hβ => hW.block β (hS β hβ)) (fun _ h => h)) rfl (fun j d hj => ?_)).mono ?_
  ·match j, hj with
   | 0, hj => cases hj; exact ad x
   | j + 1, hj => simp at hj
  ·rintro e w' ⟨v, G', rfl, hb, _, _, hv, _⟩
   have : v = .string s := DR (hv : DJ w' G'.S v (.val _))
   exact ⟨by rw [this], hb.toBelow⟩
 generalize hv0 : AC vs 0 = v0 at h0 cV
 obtain ⟨rows, hrows⟩ : ∃ rows, p0.map AO = rows := ⟨_, rfl⟩
 rw [hrows] at h0
 have hrl : rows.length = p0.length := by rw [← hrows, zU]
 by_cases hz : ve = 0
 ·subst hz
  have h := VI rfl h
  obtain ⟨s, hs, h⟩ := bind_some h
  have r1 : s.size ≤ 65536 → (Value.tuple #[.string r.1, .int .i64 r.2] : Value) = .tuple #[.string s, .int .i64 0] := fun hq => by
   have h := VI (decide_eq_false (by omega)) h; cases h; rfl
  have r2 : 65536 < s.size → (Value.tuple #[.string r.1, .int .i64 r.2] : Value) = .tuple #[.string ⟨#[]⟩, .int .i64 3] := fun hq => by
   have h := V2 (decide_eq_true hq) h; cases h; rfl
  cases h0 with
  | nil a cap =>
   obtain rfl := List.map_eq_nil_iff.1 hrows
   exact (VZ [] (fun x => GB N x) a 0 (fun _ => 0) cap w s _ cV (fun i x hx => by simp at hx) (fun x s hx => by cases hx) (zL _) hs r1 r2).mono fun e w' hh => fin hh
  | sl β off cap e arr el fz rows k1 k2 k3 k4 k5 k6 =>
   rw [hrl] at cV ⊢
   refine (VZ p0 (fun x => GB N x) (some ⟨β, off, none⟩) β (fun i => off + i * 11) cap w s _ cV (fun i x hx W hW => ?_) hl hn hs r1 r2).mono fun e w' hh => fin hh
   have hrow : rows[i]? = some (AO x) := by rw [← hrows, zH, hx]; rfl
   have he : e = 11 := (k5 i _ hrow).symm
   subst he
   have hil : i < p0.length := AT hx
   have hbnd : i * 11 + 11 ≤ p0.length * 11 := by omega
   rw [hrl] at k4
   refine ⟨L8 E9 ER (by omega) (by simpa using hil), fun j v hj => ?_⟩
   have hWb : W.heap[β]? = some (.cells arr el fz) := by rw [hW.block β (hS β k1)]; exact k2
   have hjt : (AO x)[j]? = some (.val v) ∧ j < 11 := by
    match j, hj with
    | 0, hj | 1, hj | 2, hj | 3, hj | 4, hj | 5, hj | 6, hj | 7, hj | 8, hj | 9, hj | 10, hj => cases hj; exact ⟨rfl, by decide⟩
    | j + 11, hj => simp [Z6] at hj
   have hv : AC arr (off + i * 11 + j) = v := DR (k6 i _ j _ hrow hjt.1)
   have hjl := hjt.2
   simp only [World.cell?, hWb]
   rw [J0 (by omega), hv]; rfl
 ·have hb : (ve != 0) = true := bne_iff_ne.2 hz
  have h := V2 hb h
  cases h
  cases h0 with
  | nil a cap => exact (S8 _ a cap ve hz w cV).mono fun e w' hh => fin hh
  | sl β off cap e arr el fz rows k1 k2 k3 k4 k5 k6 => exact (S8 _ _ cap ve hz w cV).mono fun e w' hh => fin hh
theorem SS (N : Nat) (p0 : Int) (r : ByteArray) (h : Kn N p0 = some r) : Au zA 45 [iD p0] [] (pD (.val (.string r))) := by
 unfold Kn at h
 refine cw (n := 7) (rs := [.tmp 2]) Tryz.func45 fun w0 S0 => ?_
 refine wq rfl (qa rfl (Ac (wq rfl (EB aK fw gy rfl (qm rfl ?_)))))
 refine BY h fun v1 a1 b1 h => Pu (.p rfl) rfl rfl rfl aK fw a1 (Aj (f := eS) b1) ?_
 refine Qc (.p rfl) rfl gu rfl (Aj (f := eS) b1) rfl ?_
 refine qa rfl (Ac ?_)
 obtain rfl := sj h
 refine Ah (sm [] [(2, pD (.val (.string v1)))] [] rfl rfl) (As ?_)
 exact ⟨⟨[_], tm, rfl⟩, tv⟩
def Yz : Go.Shelf.Ren := ⟨fun | 129 => 182 | 171 => 46 | 243 => 91 | 246 => 126 | 283 => 159 | 284 => 160 | 285 => 161 | 286 => 162 | 317 => 181 | 318 => 183 | 319 => 184 | 320 => 185 | 337 => 194 | 338 => 195 | n => n, fun | 0 => 0 | 2 => 2 | 3 => 3 | 4 => 4 | 5 => 5 | 9 => 9 | 20 => 20 | 37 => 47 | 46 => 234 | 51 => 242 | 53 => 214 | 171 => 213 | 173 => 217 | 212 => 241 | 213 => 243 | 232 => 261 | 233 => 262 | n => n, fun | 17 => 0 | 18 => 1 | 19 => 2 | n => n⟩
theorem cF : LaysM.n171 zA Yz := { mixed := Aw, f129 := Tryz.func182.trans (congrArg some (by kernel_rfl)), f171 := Tryz.func46.trans (congrArg some (by kernel_rfl)), f243 := Tryz.func91.trans (congrArg some (by kernel_rfl)), f246 := Tryz.func126.trans (congrArg some (by kernel_rfl)), f283 := Tryz.func159.trans (congrArg some (by kernel_rfl)), f284 := Tryz.func160.trans (congrArg some (by kernel_rfl)), f285 := Tryz.func161.trans (congrArg some (by kernel_rfl)), f286 := Tryz.func162.trans (congrArg some (by kernel_rfl)), f317 := Tryz.func181.trans (congrArg some (by kernel_rfl)), f318 := Tryz.func183.trans (congrArg some (by kernel_rfl)), f319 := Tryz.func184.trans (congrArg some (by kernel_rfl)), f320 := Tryz.func185.trans (congrArg some (by kernel_rfl)), f337 := Tryz.func194.trans (congrArg some (by kernel_rfl)), f338 := Tryz.func195.trans (congrArg some (by kernel_rfl)), t0 := Tryz.underlying0, a0 := Tryz.isAgg0, z0 := Tryz.sizeOf0, v0 := Tryz.zeroValue0, t2 := Tryz.underlying2, a2 := Tryz.isAgg2, z2 := Tryz.sizeOf2, v2 := Tryz.zeroValue2, t3 := Tryz.underlying3, a3 := Tryz.isAgg3, z3 := Tryz.sizeOf3, v3 := Tryz.zeroValue3, t4 := Tryz.underlying4, a4 := Tryz.isAgg4, z4 := Tryz.sizeOf4, v4 := Tryz.zeroValue4, t5 := Tryz.underlying5, a5 := Tryz.isAgg5, z5 := Tryz.sizeOf5, v5 := Tryz.zeroValue5, t9 := Tryz.underlying9, a9 := Tryz.isAgg9, z9 := Tryz.sizeOf9, v9 := Tryz.zeroValue9, t20 := Tryz.underlying20, a20 := Tryz.isAgg20, z20 := Tryz.sizeOf20, v20 := Tryz.zeroValue20, t37 := Tryz.underlying47, a37 := Tryz.isAgg47, z37 := Tryz.sizeOf47, v37 := Tryz.zeroValue47, t46 := Tryz.underlying234, a46 := Tryz.isAgg234, z46 := Tryz.sizeOf234, v46 := Tryz.zeroValue234, t51 := Tryz.underlying242, a51 := Tryz.isAgg242, z51 := Tryz.sizeOf242, v51 := Tryz.zeroValue242, t53 := Tryz.underlying214, a53 := Tryz.isAgg214, z53 := Tryz.sizeOf214, v53 := Tryz.zeroValue214, t171 := Tryz.underlying213, a171 := Tryz.isAgg213, z171 := Tryz.sizeOf213, v171 := Tryz.zeroValue213, t173 := Tryz.underlying217, a173 := Tryz.isAgg217, z173 := Tryz.sizeOf217, v173 := Tryz.zeroValue217, t212 := Tryz.underlying241, a212 := Tryz.isAgg241, z212 := Tryz.sizeOf241, v212 := Tryz.zeroValue241, t213 := Tryz.underlying243, a213 := Tryz.isAgg243, z213 := Tryz.sizeOf243, t232 := Tryz.underlying261, a232 := Tryz.isAgg261, z232 := Tryz.sizeOf261, v232 := Tryz.zeroValue261, t233 := Tryz.underlying262, a233 := Tryz.isAgg262, z233 := Tryz.sizeOf262, v233 := Tryz.zeroValue262, g17 := by kernel_rfl, g18 := by kernel_rfl, g19 := by kernel_rfl, i0 := by kernel_rfl, i2 := by kernel_rfl, i3 := by kernel_rfl, i4 := by kernel_rfl, i5 := by kernel_rfl, i9 := by kernel_rfl, i20 := by kernel_rfl, i37 := by kernel_rfl, i46 := by kernel_rfl, i51 := by kernel_rfl, i53 := by kernel_rfl, i171 := by kernel_rfl, i173 := by kernel_rfl, i212 := by kernel_rfl, i232 := by kernel_rfl, i233 := by kernel_rfl, m17 := by kernel_rfl, m18 := by kernel_rfl, m19 := by kernel_rfl }
theorem P5 (N : Nat) (p0 : Int) (r : ByteArray) (h : Le N p0 = some r) : Au zA 46 [iD p0] [] (pD (.val (.string r))) := ci cF (g := Yz.g 17) (by kernel_rfl) h
theorem H1 (N : Nat) (p0 : ByteArray) (p1 : ByteArray) (r : Bool) (h : Ef N p0 p1 = some r) : Au zA 127 [pD (.val (.string p0)), pD (.val (.string p1))] [] (bD r) := by
 unfold Ef at h
 refine cw (n := 21) (rs := [.tmp 4]) Tryz.func127 fun w0 S0 => ?_
 refine wq rfl (qe rfl ?_)
 refine AI h (fun v1 => mk [(4, bD v1)] []) (fun j1 h => ?_) (fun v1 h => ?_)
 ·refine Ai Aw rfl (qm rfl ?_)
  refine OE (.p rfl) rfl Sx ?_
  refine qm rfl ?_
  refine OE (.p rfl) rfl Sx ?_
  refine Eh rfl (qm rfl ?_)
  refine Dc 10 h rfl (fun h => ?_) fun h => ?_
  ·refine qw 2 rfl ?_
   refine OE (.g rfl rfl) rfl Sx ?_
   refine qm rfl ?_
   refine OE (.g rfl rfl) rfl Sx ?_
   refine Kx rfl ?_
   refine GJ h fun c3 h => TJ (.g rfl rfl) rfl Sx (.some _ _ _ _ c3.1) (.none _) ⟨rfl, tv⟩ tv c3.2.1 c3.2.2 ?_
   refine qm rfl ?_
   refine FM (.g rfl rfl) rfl rfl (PL _ _ _ _) rfl ?_
   refine qp rfl (qe rfl ?_)
   exact sn [] h
  ·refine qw 9 rfl (qp rfl (qe rfl ?_))
   exact sn [] h
 ·obtain rfl := sj h
  refine Ah (sm [] [(4, bD v1)] [] rfl rfl) (As ?_)
  exact ⟨⟨[_], tm, rfl⟩, tv⟩
theorem HU (N : Nat) (p0 : ByteArray) (p1 : ByteArray) (r : ByteArray) (h : DW N p0 p1 = some r) : Au zA 92 [pD (.val (.string p0)), pD (.val (.string p1))] [] (pD (.val (.string r))) := by
 unfold DW at h
 refine cw (n := 16) (rs := [.tmp 4]) Tryz.func92 fun w0 S0 => ?_
 refine wq rfl (qa rfl (Ac (wp rfl (qw 2 rfl ?_))))
 refine BF h fun v1 a1 h => Av [] (H1 N p0 p1 v1 a1) ex rfl (Ac ?_)
 refine Bb h (fun h => ?_) fun h => ?_
 ·refine wq rfl (qw 2 rfl ?_)
  refine OE (.p rfl) rfl Sx ?_
  refine qm rfl ?_
  refine OE (.p rfl) rfl Sx ?_
  refine Kx rfl ?_
  refine GJ h fun c3 h => TJ (.p rfl) rfl Sx (.none _) (.some _ _ _ _ c3.1) tv ⟨rfl, tv⟩ c3.2.1 c3.2.2 ?_
  refine qa rfl (Ac ?_)
  obtain rfl := sj h
  refine Ah (sm [] [(4, pD (.val (.string ((p0.extract 0 (((wI .i64 ((p0.size : Int) - (p1.size : Int)))).toNat))))))] [] rfl rfl) (As ?_)
  exact ⟨⟨[_], tm, rfl⟩, tv⟩
 ·refine Al (wq rfl (qm rfl (qe rfl ?_)))
  obtain rfl := sj h
  refine Ah (sm [] [(4, pD (.val (.string p0)))] [] rfl rfl) (As ?_)
  exact ⟨⟨[_], tm, rfl⟩, tv⟩
theorem Mc (N : Nat) (p0 : ByteArray) (p1 : ByteArray) (r : ByteArray) (h : GK N p0 p1 = some r) : Au zA 47 [pD (.val (.string p0)), pD (.val (.string p1))] [] (pD (.val (.string r))) := by
 unfold GK at h
 refine cw (n := 8) (rs := [.tmp 4]) Tryz.func47 fun w0 S0 => ?_
 refine wq rfl (qa rfl (Ac (wq rfl (qw 2 rfl ?_))))
 refine BF h fun v1 a1 h => Av [] (HU N p0 p1 v1 a1) fF rfl (qe rfl ?_)
 obtain rfl := sj h
 refine Ah (sm [] [(4, pD (.val (.string v1)))] [] rfl rfl) (As ?_)
 exact ⟨⟨[_], tm, rfl⟩, tv⟩
theorem QE (N : Nat) (p0 : List Ad) (p1 : Int) (p2 : Int) (r : ByteArray × Int) (h : IZ N p0 p1 p2 = some r) : Au zA 19 [pD (.sl (p0.map AO)), iD p1, iD p2] [] (.tup [.one (.pure (.val (.string r.1))), .one (iC r.2)]) := by
 unfold IZ at h
 refine cw (n := 54) (rs := [.tmp 6, .tmp 7]) Tryz.func19 fun w0 S0 => ?_
 refine wq rfl (qa rfl (qa rfl (Ac (wp rfl (qm rfl ?_)))))
 refine BF h fun v1 a1 h => Av [] (II N p0 v1 a1) bT rfl (qa rfl (Ac (wq rfl (qm rfl (BH rfl (Ac ?_))))))
 refine Bb h (fun h => ?_) fun h => ?_
 ·refine wq rfl (qm rfl (qa rfl (qe rfl ?_)))
  obtain rfl := sj h
  refine Ah (sm [] [(6, pD (.val (.string ((⟨#[]⟩ : ByteArray))))), (7, iD v1)] [] rfl rfl) (As ?_)
  exact ⟨⟨[_, _], ⟨.tmp _ _ rfl, tm⟩, rfl⟩, tv⟩
 ·refine Al (A5 (AX ?_))
  refine AI h (fun v3 => mk [(0, pD (.sl (p0.map AO))), (1, iD p1), (2, iD p2), (16, bD v3)] []) (fun j3 h => ?_) (fun v3 h => ?_)
  ·refine Ai Aw rfl (qm rfl (A9 rfl (qm rfl ?_)))
   refine Dc 19 h rfl (fun h => ?_) fun h => ?_
   ·refine qw 4 rfl (qp rfl (qe rfl ?_))
    exact sn [] h
   ·refine qw 2 rfl (AU E9 rfl (Eh rfl (qp rfl (qe rfl ?_))))
    exact sn [] h
  ·refine Bb h (fun h => ?_) fun h => ?_
   ·refine wq rfl (qa rfl (qe rfl ?_))
    obtain rfl := sj h
    refine Ah (sm [] [(6, pD (.val (.string ((⟨#[]⟩ : ByteArray))))), (7, iD 7)] [] rfl rfl) (As ?_)
    exact ⟨⟨[_, _], ⟨.tmp _ _ rfl, tm⟩, rfl⟩, tv⟩
   ·refine AI h (fun v6 => mk [(0, pD (.sl (p0.map AO))), (1, iD p1), (2, iD p2), (25, bD v6)] []) (fun j6 h => ?_) (fun v6 h => ?_)
    ·refine Ai Aw rfl (qm rfl (A9 rfl (qm rfl ?_)))
     refine Dc 28 h rfl (fun h => ?_) fun h => ?_
     ·refine qw 2 rfl (qp rfl (qe rfl ?_))
      exact sn [] h
     ·refine qm rfl (FQ rfl (qp rfl (qe rfl ?_)))
      exact sn [] h
    ·refine Bb h (fun h => ?_) fun h => ?_
     ·refine wq rfl (qa rfl (qe rfl ?_))
      obtain rfl := sj h
      refine Ah (sm [] [(6, pD (.val (.string ((⟨#[]⟩ : ByteArray))))), (7, iD 1)] [] rfl rfl) (As ?_)
      exact ⟨⟨[_, _], ⟨.tmp _ _ rfl, tm⟩, rfl⟩, tv⟩
     ·refine Al (wq rfl (qw 3 rfl (Bp rfl ?_)))
      refine GJ h fun c9 h => Sy (.p rfl) rfl E9 ER (L5 (f := AO) (n := 11) (fun _ => rfl) _) (.some _ _ _ _ c9.1) (.some _ _ _ _ c9.2.1) ⟨rfl, tv⟩ ⟨rfl, tv⟩ (by have := c9.2.2.1; (try simp only [zU]); omega) (by have := c9.2.2.2; (try simp only [zU]); omega) (PP AO p0 _ _ (((wI .i64 (p1 + 1))).toNat - (p1).toNat) rfl) ?_
      refine BF h fun v10 a10 h => Av [] (Qw N (((p0.drop (p1).toNat).take (((wI .i64 (p1 + 1))).toNat - (p1).toNat))) v10 a10) fH rfl (qm rfl (qx rfl (qx rfl (qa rfl (qa rfl (Ac (wp rfl (qm rfl (BH rfl (Ac ?_))))))))))
      refine Bb h (fun h => ?_) fun h => ?_
      ·refine wq rfl (qm rfl (qa rfl (qe rfl ?_)))
       obtain rfl := sj h
       refine Ah (sm [] [(6, pD (.val (.string ((⟨#[]⟩ : ByteArray))))), (7, iD v10.2)] [] rfl rfl) (As ?_)
       exact ⟨⟨[_, _], ⟨.tmp _ _ rfl, tm⟩, rfl⟩, tv⟩
      ·refine Al (wq rfl (qm rfl ?_))
       refine BF h fun v12 a12 h => Av [] (SS N p2 v12 a12) fC rfl ?_
       refine GJ h fun c13 h => FM (.p rfl) rfl rfl (Ib _ _ _ _ c13) rfl ?_
       refine qm rfl ?_
       refine BF h fun v14 a14 h => Av [] (P5 N p1 v14 a14) fN rfl ?_
       refine GJ h fun c15 h => FM (.p rfl) rfl rfl (Ib _ _ _ _ c15) rfl ?_
       refine GJ h fun c16 h => FM (.p rfl) rfl rfl (Ib _ _ _ _ c16) rfl ?_
       refine qm rfl ?_
       refine BF h fun v17 a17 h => Av [] (Mc N v10.1 ((⟨#[10]⟩ : ByteArray)) v17 a17) fO rfl ?_
       refine GJ h fun c18 h => FM (.p rfl) rfl rfl (Ib _ _ _ _ c18) rfl ?_
       refine qa rfl (qe rfl ?_)
       obtain rfl := sj h
       refine Ah (sm [] [(6, pD (.val (.string (((((v12 ++ (⟨#[32]⟩ : ByteArray)) ++ v14) ++ (⟨#[58, 32]⟩ : ByteArray)) ++ v17))))), (7, iD 0)] [] rfl rfl) (As ?_)
       exact ⟨⟨[_, _], ⟨.tmp _ _ rfl, tm⟩, rfl⟩, tv⟩
theorem Ja (N : Nat) (r : Bool) (h : EU N = some r) : Au zA 11 [] [] (bD r) := by
 unfold EU at h
 refine cw (n := 97) (rs := [.tmp 0]) Tryz.func11 fun w0 S0 => ?_
 refine wq rfl (qa rfl (Ac (wq rfl (EB AF CQ MD rfl (EB AF CQ MD rfl (EB AF CQ MD rfl (AS QM dj rfl (qz QM rfl (qs BB rfl (Ac (wq rfl (AS KU Xg rfl (AS KU Xg rfl (EB DB Ea KU rfl (qa rfl (Ac (wq rfl (AS Iu Sg rfl (AS Iu Sg rfl (AS Iu Sg rfl (AS Iu Sg rfl (EB E9 ER Iu rfl (qa rfl (Ac (A5 (Ah (AV 25 _ _ rfl rfl) (Ai Aw rfl (qL BZ BB rfl (EB AF CQ MD rfl (qw 2 rfl ?_))))))))))))))))))))))))))))))
 refine GJ h fun c1 h => Sy (rows := (([(Ad.mk 0 7 0 0 0 0 1 0 0 0 0), (Ad.mk 0 2 0 0 0 0 1 0 0 0 0), (Ad.mk 1 6 0 0 0 0 0 1 0 1 0), (Ad.mk 2 3 0 0 0 1 1 0 0 0 0)] : List Ad)).map AO) (.p rfl) rfl E9 ER (L5 (f := AO) (n := 11) (fun _ => rfl) _) (.none _) (.some _ _ _ _ c1.1) tv ⟨rfl, tv⟩ (by have := c1.2.1; (try simp only [zU]); omega) (by have := c1.2.2; (try simp only [zU]); omega) (PP AO (([(Ad.mk 0 7 0 0 0 0 1 0 0 0 0), (Ad.mk 0 2 0 0 0 0 1 0 0 0 0), (Ad.mk 1 6 0 0 0 0 0 1 0 1 0), (Ad.mk 2 3 0 0 0 1 1 0 0 0 0)] : List Ad)) _ _ ((3 : Int).toNat - 0) rfl) ?_
 refine BF h fun v2 a2 h => FN [] [14, 15, 16, 28, 20] (Ko N ((Aa.mk (([2] : List Int)) (([0] : List Int)) (([1] : List Int)) (([] : List AA)))) (([1] : List Int)) (([(Ae.mk 1 0 1), (Ae.mk 2 0 0)] : List Ae)) ((((([(Ad.mk 0 7 0 0 0 0 1 0 0 0 0), (Ad.mk 0 2 0 0 0 0 1 0 0 0 0), (Ad.mk 1 6 0 0 0 0 0 1 0 1 0), (Ad.mk 2 3 0 0 0 1 1 0 0 0 0)] : List Ad)).drop 0).take ((3 : Int).toNat - 0))) v2 a2) bV Eb rfl (qm rfl (qx rfl (qx rfl (qx rfl (qa rfl (qa rfl (qa rfl (AJ (by kernel_rfl) (A5 (Ah (AV 14 _ _ rfl rfl) (Ah (AV 15 _ _ rfl rfl) (Ah (AV 16 _ _ rfl rfl) (Ah (AV 20 _ _ rfl rfl) (Ai Aw rfl (qL BZ BB rfl (qw 2 rfl ?_))))))))))))))))
 refine GJ h fun c3 h => Sy (rows := (([(Ad.mk 0 7 0 0 0 0 1 0 0 0 0), (Ad.mk 0 2 0 0 0 0 1 0 0 0 0), (Ad.mk 1 6 0 0 0 0 0 1 0 1 0), (Ad.mk 2 3 0 0 0 1 1 0 0 0 0)] : List Ad)).map AO) (.p rfl) rfl E9 ER (L5 (f := AO) (n := 11) (fun _ => rfl) _) (.none _) (.some _ _ _ _ c3.1) tv ⟨rfl, tv⟩ (by have := c3.2.1; (try simp only [zU]); omega) (by have := c3.2.2; (try simp only [zU]); omega) (PP AO (([(Ad.mk 0 7 0 0 0 0 1 0 0 0 0), (Ad.mk 0 2 0 0 0 0 1 0 0 0 0), (Ad.mk 1 6 0 0 0 0 0 1 0 1 0), (Ad.mk 2 3 0 0 0 1 1 0 0 0 0)] : List Ad)) _ _ ((3 : Int).toNat - 0) rfl) ?_
 refine BF h fun v4 a4 h => Av [] (OY N ((Aa.mk (([2] : List Int)) (([0] : List Int)) (([1] : List Int)) (([] : List AA)))) (([(Ae.mk 1 0 1), (Ae.mk 2 0 0)] : List Ae)) ((((([(Ad.mk 0 7 0 0 0 0 1 0 0 0 0), (Ad.mk 0 2 0 0 0 0 1 0 0 0 0), (Ad.mk 1 6 0 0 0 0 0 1 0 1 0), (Ad.mk 2 3 0 0 0 1 1 0 0 0 0)] : List Ad)).drop 0).take ((3 : Int).toNat - 0))) v4 a4) eg rfl (qm rfl (qx rfl (qx rfl (qz CM rfl (qs AQ rfl (qa rfl (AJ (by kernel_rfl) (wq rfl (qL BZ BB rfl (EB AF CQ MD rfl (qw 2 rfl ?_)))))))))))
 refine BF h fun v5 a5 h => FN [] [46] (Ko N ((Aa.mk (([2] : List Int)) (([0] : List Int)) (([1] : List Int)) (([] : List AA)))) (([1] : List Int)) (([(Ae.mk 1 0 1), (Ae.mk 2 0 0)] : List Ae)) (([(Ad.mk 0 7 0 0 0 0 1 0 0 0 0), (Ad.mk 0 2 0 0 0 0 1 0 0 0 0), (Ad.mk 1 6 0 0 0 0 0 1 0 1 0), (Ad.mk 2 3 0 0 0 1 1 0 0 0 0)] : List Ad)) v5 a5) bV Eb rfl (qm rfl (qx rfl (qx rfl (qx rfl (qa rfl (qa rfl (qa rfl (Ac (wq rfl (qm rfl ?_))))))))))
 refine BF h fun v6 a6 h => Av [] (QE N (([(Ad.mk 0 7 0 0 0 0 1 0 0 0 0), (Ad.mk 0 2 0 0 0 0 1 0 0 0 0), (Ad.mk 1 6 0 0 0 0 0 1 0 1 0), (Ad.mk 2 3 0 0 0 1 1 0 0 0 0)] : List Ad)) 3 2 v6 a6) gj rfl (qm rfl (qx rfl (qx rfl (qa rfl (qe rfl ?_)))))
 refine AI h (fun v7 => mk [(0, bD v7)] []) (fun j7 h => ?_) (fun v7 h => ?_)
 ·refine Ai Aw rfl (qm rfl (AN rfl (qm rfl ?_)))
  refine Dc 60 h rfl (fun h => ?_) fun h => ?_
  ·refine qm rfl (AN rfl (qp rfl (qm rfl ?_)))
   refine Dc 64 h rfl (fun h => ?_) fun h => ?_
   ·refine qm rfl (AN rfl (qp rfl (qm rfl ?_)))
    refine Dc 68 h rfl (fun h => ?_) fun h => ?_
    ·refine qm rfl (AN rfl (qp rfl (qm rfl ?_)))
     refine Dc 72 h rfl (fun h => ?_) fun h => ?_
     ·refine qf BU rfl (ql Bi rfl (AU AF rfl (AN rfl (qp rfl (qm rfl ?_)))))
      refine Dc 78 h rfl (fun h => ?_) fun h => ?_
      ·refine qf BU rfl (ql Bi rfl ?_)
       refine BY h fun v13 a13 b13 h => qi AF CQ a13 (Aj b13) rfl (qk A8 rfl (AN rfl (qp rfl (qm rfl ?_))))
       refine Dc 85 h rfl (fun h => ?_) fun h => ?_
       ·refine qm rfl (AN rfl (qp rfl (qm rfl ?_)))
        refine Dc 89 h rfl (fun h => ?_) fun h => ?_
        ·refine qm rfl (AN rfl (qp rfl (qm rfl ?_)))
         refine Dc 93 h rfl (fun h => ?_) fun h => ?_
         ·refine qm rfl ?_
          refine FM (.g rfl rfl) rfl rfl (PL _ _ _ _) rfl ?_
          refine qp rfl (qe rfl ?_)
          exact sn [] h
         ·refine qw 2 rfl (qp rfl (qe rfl ?_))
          exact sn [] h
        ·refine qw 2 rfl (qp rfl (qw 3 rfl (qp rfl (qe rfl ?_))))
         exact sn [] h
       ·refine qw 2 rfl (qp rfl (qw 3 rfl (qp rfl (qw 3 rfl (qp rfl (qe rfl ?_))))))
        exact sn [] h
      ·refine qw 5 rfl (qp rfl (qw 3 rfl (qp rfl (qw 3 rfl (qp rfl (qw 3 rfl (qp rfl (qe rfl ?_))))))))
       exact sn [] h
     ·refine qw 4 rfl (qp rfl (qw 6 rfl (qp rfl (qw 3 rfl (qp rfl (qw 3 rfl (qp rfl (qw 3 rfl (qp rfl (qe rfl ?_))))))))))
      exact sn [] h
    ·refine qw 2 rfl (qp rfl (qw 5 rfl (qp rfl (qw 6 rfl (qp rfl (qw 3 rfl (qp rfl (qw 3 rfl (qp rfl (qw 3 rfl (qp rfl (qe rfl ?_))))))))))))
     exact sn [] h
   ·refine qw 2 rfl (qp rfl (qw 3 rfl (qp rfl (qw 5 rfl (qp rfl (qw 6 rfl (qp rfl (qw 3 rfl (qp rfl (qw 3 rfl (qp rfl (qw 3 rfl (qp rfl (qe rfl ?_))))))))))))))
    exact sn [] h
  ·refine qw 2 rfl (qp rfl (qw 3 rfl (qp rfl (qw 3 rfl (qp rfl (qw 5 rfl (qp rfl (qw 6 rfl (qp rfl (qw 3 rfl (qp rfl (qw 3 rfl (qp rfl (qw 3 rfl (qp rfl (qe rfl ?_))))))))))))))))
   exact sn [] h
 ·obtain rfl := sj h
  refine Ah (sm [] [(0, bD v7)] [] rfl rfl) (As ?_)
  exact ⟨⟨[_], tm, rfl⟩, tv⟩
theorem Ju (N : Nat) (p0 : List Int) (p1 : Int) (r : Int) (h : Es N p0 p1 = some r) : Au zA 129 [pD (.sl (p0.map Cy)), iD p1] [] (iD r) := by
 unfold Es at h
 refine cw (n := 14) (rs := [.tmp 4]) Tryz.func129 fun w0 S0 => ?_
 refine wq rfl (qa rfl (Ac (wp rfl (qw 2 rfl (AU KA rfl (A9 rfl (Ac ?_)))))))
 refine Bb h (fun h => ?_) fun h => ?_
 ·refine wq rfl (qw 2 rfl ?_)
  refine BY h fun v2 a2 b2 h => qi KA ej a2 (Aj b2) rfl (qk bb rfl (JN W7 Xt rfl (qe rfl ?_)))
  obtain rfl := sj h
  refine Ah (sm [] [(4, iD ((wI .i64 v2)))] [] rfl rfl) (As ?_)
  exact ⟨⟨[_], tm, rfl⟩, tv⟩
 ·refine Al (wq rfl (qe rfl ?_))
  obtain rfl := sj h
  refine Ah (sm [] [(4, iD 0)] [] rfl rfl) (As ?_)
  exact ⟨⟨[_], tm, rfl⟩, tv⟩
theorem Cc (N : Nat) (p0 : AA) (r : Bool) (h : Bd N p0 = some r) : Au zA 56 [.e (.agg (BJ p0))] [] (bD r) := by
 unfold Bd at h
 refine cw (n := 11) (rs := [.tmp 2]) Tryz.func56 fun w0 S0 => ?_
 refine wq rfl (qb rfl (qe rfl ?_))
 refine AI h (fun v1 => mk [(2, bD v1)] []) (fun j1 h => ?_) (fun v1 h => ?_)
 ·refine Ai Aw rfl (qf Fi rfl (ql A8 rfl (AN rfl (qm rfl ?_))))
  refine Dc 6 h rfl (fun h => ?_) fun h => ?_
  ·refine qw 3 rfl (qp rfl (qe rfl ?_))
   exact sn [] h
  ·refine qf Fi rfl (ql A8 rfl (AN rfl (qp rfl (qe rfl ?_))))
   exact sn [] h
 ·obtain rfl := sj h
  refine Ah (sm [] [(2, bD v1)] [] rfl rfl) (As ?_)
  exact ⟨⟨[_], tm, rfl⟩, tv⟩
theorem JK (N : Nat) (p0 : Int) (p1 : Int) (p2 : Int) (p3 : Bool) (r : (List (List Bool))) (h : Et N p0 p1 p2 p3 = some r) : Au zA 130 [iD p0, iD p1, pD (.val (.int .u16 p2)), bD p3] [(1, r.map (Nv eB))] (oD (.own 0)) := by
 unfold Et at h
 refine cw (n := 47) (rs := [.tmp 8]) Tryz.func130 fun w0 S0 => ?_
 refine wq rfl (qa rfl (Ac (wq rfl (qa rfl (Ac (wp rfl (qe rfl ?_)))))))
 refine AY (L := CC N p0 p1 p2 p3) h (fun v1 => mk [(0, iD p0), (1, iD p1), (2, pD (.val (.int .u16 p2))), (3, bD p3), (9, oD (.own 2001)), (10, iD v1.2)] [(2001, .vec 1 (v1.1.map (Nv eB)))]) (fun v2 => mk [(9, oD (.own 2002))] [(2002, .vec 1 (v2.map (Nv eB)))]) (fun _ _ => rfl) ((Bl 9 2010 1 rfl rfl rfl).trans (sm [(2001, 2010)] _ _ rfl rfl)) (fun j1 n1 v1 h => ?_) (fun v2 s h hs => ?_)
 ·unfold CC at h
  refine wp rfl (qw 2 rfl (A9 rfl (Ac ?_)))
  refine Bb h (fun h => ?_) fun h => ?_
  ·refine Al (A5 (AX (wq rfl (qa rfl (Ac (wp rfl (qe rfl ?_)))))))
   refine AY (L := CA N p1 p2 p3 v1) h (fun v4 => mk [(0, iD p0), (1, iD p1), (2, pD (.val (.int .u16 p2))), (3, bD p3), (9, oD (.own 2003)), (10, iD v1.2), (11, oD (.own 2004)), (12, iD v4.2)] [(2003, .vec 1 (v1.1.map (Nv eB))), (2004, .vec 1 (v4.1.map eB))]) (fun v5 => mk [(0, iD p0), (1, iD p1), (2, pD (.val (.int .u16 p2))), (3, bD p3), (9, oD (.own 2005)), (10, iD v1.2), (11, oD (.own 2006))] [(2005, .vec 1 (v1.1.map (Nv eB))), (2006, .vec 1 (v5.map eB))]) (fun _ _ => rfl) ((Bl 11 2009 1 rfl rfl rfl).trans (sm [(2003, 2001), (2004, 2009)] _ _ rfl rfl)) (fun j4 n4 v4 h => ?_) (fun v5 s h hs => ?_)
   ·unfold CA at h
    refine wp rfl (qw 2 rfl (A9 rfl (Ac ?_)))
    refine Bb h (fun h => ?_) fun h => ?_
    ·refine Al ?_
     refine AI h (fun v7 => mk [(0, iD p0), (1, iD p1), (2, pD (.val (.int .u16 p2))), (3, bD p3), (9, oD (.own 2007)), (10, iD v1.2), (11, oD (.own 2008)), (12, iD v4.2)] [(2007, .vec 1 (v1.1.map (Nv eB))), (2008, .vec 1 (v7.map eB))]) (fun j7 h => ?_) (fun v7 h => ?_)
     ·refine AX (Ai Aw rfl (qw 3 rfl ?_))
      refine Dc 25 h rfl (fun h => ?_) fun h => ?_
      ·refine qw 2 rfl (AN rfl (qp rfl (qm rfl ?_)))
       refine Dc 30 h rfl (fun h => ?_) fun h => ?_
       ·refine qw 8 rfl (qp rfl (EB Gl S6 cY rfl ?_))
        refine GJ h fun c10 h => EL (f := eB) Gl Gl S6 cy cY c10 rfl (qe rfl ?_)
        exact sn [(2007, 2003), (2008, 41)] h
       ·refine qw 2 rfl (MN rfl (qm rfl (Bp rfl ?_)))
        refine GJ h fun c11 h => L6 rfl c11 (H3 rfl (by decide) (AN rfl (qp rfl (EB Gl S6 cY rfl ?_))))
        refine GJ h fun c12 h => EL (f := eB) Gl Gl S6 cy cY c12 rfl (qe rfl ?_)
        exact sn [(2007, 2003), (2008, 41)] h
      ·refine qw 3 rfl (qp rfl (qw 3 rfl (MN rfl (qm rfl (Bp rfl ?_)))))
       refine GJ h fun c13 h => L6 rfl c13 (H3 rfl (by decide) (AN rfl (qp rfl (EB Gl S6 cY rfl ?_))))
       refine GJ h fun c14 h => EL (f := eB) Gl Gl S6 cy cY c14 rfl (qe rfl ?_)
       exact sn [(2007, 2003), (2008, 41)] h
     ·refine Ai Aw rfl (qm rfl (Bp rfl (qe rfl ?_)))
      exact sn [(2003, 2007), (2004, 2008)] h
    ·refine Bh ?_
     exact sn [(2005, 2003), (2006, 2004)] h
   ·refine Ah hs (Ai Aw rfl (qw 2 rfl (FO (AV 2006 _ _ rfl rfl) (EB FA Lf bz rfl ?_))))
    refine GJ h fun c15 h => EL (f := (Nv eB)) FA FA Lf cx bz c15 rfl (qa rfl (Ac (Ai Aw rfl (qm rfl (Bp rfl (qe rfl ?_))))))
    exact sn [(2001, 45)] h
  ·refine Bh ?_
   exact sn [(2002, 2001)] h
 ·refine Ah hs (wq rfl (qm rfl (qe rfl ?_)))
  obtain rfl := sj h
  refine Ah (sm [(1000, 2002)] [(8, oD (.own 1000))] [(1000, .vec 1 (v2.map (Nv eB)))] rfl rfl) (As ?_)
  exact ⟨⟨[_], tm, rfl⟩, ⟨rfl, tv⟩⟩
theorem Ou (N : Nat) (p0 : BG) (r : Aa × Bool) (h : Fc N p0 = some r) : Au zA 94 [.e (.agg (DG p0))] [(1, r.1.gH.map Aq), (1, r.1.gR.map Aq), (1, r.1.gU.map Aq), (6, r.1.gJ.map Bs)] (.tup [.agg [.own 0, .own 1, .own 2, .own 3], .one (.pure (.val (.bool r.2)))]) := by
 unfold Fc at h
 refine cw (n := 152) (rs := [.cell 2 25, .tmp 3]) Tryz.func94 fun w0 S0 => ?_
 refine wq rfl (qb rfl (qz QM rfl (qa rfl (Ac (A5 ?_)))))
 refine AI h (fun v1 => mk [(1, oD (.ptr 1 0)), (2, oD (.ptr 2 0)), (19, bD v1)] [(1, .box (DG p0)), (2, .box [.pure (.nil0), .pure (.nil0), .pure (.nil0), .pure (.nil0)])]) (fun j1 h => ?_) (fun v1 h => ?_)
 ·refine Ai Aw rfl (qf SP rfl (ql QX rfl (AU KA rfl (FQ rfl (qm rfl ?_)))))
  refine Dc 14 h rfl (fun h => ?_) fun h => ?_
  ·refine qw 4 rfl (qp rfl (Ac ?_))
   exact sn [] h
  ·refine qf SX rfl (ql cJ rfl (AU X9 rfl (FQ rfl (qp rfl (Ac ?_)))))
   exact sn [] h
 ·refine Bb h (fun h => ?_) fun h => ?_
  ·refine wq rfl (AS QM dj rfl (qs BB rfl (qe rfl ?_)))
   obtain rfl := sj h
   refine Ah ((Ay 2 0 2001 1 _ rfl rfl rfl rfl).trans ((Ay 2 1 2002 1 _ rfl rfl rfl rfl).trans ((Ay 2 2 2003 1 _ rfl rfl rfl rfl).trans ((Ay 2 3 2004 6 _ rfl rfl rfl rfl).trans (sm [(1000, 2001), (1001, 2002), (1002, 2003), (1003, 2004)] [(2, oD (.ptr 2 0)), (3, bD false)] [(2, .box [.own 1000, .own 1001, .own 1002, .own 1003]), (1000, .vec 1 ((([] : List Int)).map Aq)), (1001, .vec 1 ((([] : List Int)).map Aq)), (1002, .vec 1 ((([] : List Int)).map Aq)), (1003, .vec 6 ((([] : List AA)).map Bs))] rfl rfl))))) (As ?_)
   exact ⟨⟨[_, _], ⟨.cellN _ _ _ _ _ _ _ rfl rfl BZ BB rfl rfl (E1 rfl), tm⟩, rfl⟩, ⟨rfl, rfl, rfl, rfl, tv⟩⟩
  ·refine Al (wq rfl (qz QM rfl (Ac (wp rfl (qe rfl ?_)))))
   refine AY (L := C2 N p0) h (fun v4 => mk [(1, oD (.ptr 1 0)), (2, oD (.ptr 2 0)), (4, oD (.ptr 4 0)), (5, iD v4.2.2.2)] [(1, .box (DG p0)), (2, .box [.pure (.nil0), .pure (.nil0), .pure (.nil0), .pure (.nil0)]), (4, .box [.own 2005, .own 2006, .own 2007, .pure (.nil0)]), (2005, .vec 1 (v4.1.map Aq)), (2006, .vec 1 (v4.2.1.map Aq)), (2007, .vec 1 (v4.2.2.1.map Aq))]) (fun v5 => mk [(1, oD (.ptr 1 0)), (2, oD (.ptr 2 0)), (4, oD (.ptr 4 0))] [(1, .box (DG p0)), (2, .box [.pure (.nil0), .pure (.nil0), .pure (.nil0), .pure (.nil0)]), (4, .box [.own 2008, .own 2009, .own 2010, .pure (.nil0)]), (2008, .vec 1 (v5.1.map Aq)), (2009, .vec 1 (v5.2.1.map Aq)), (2010, .vec 1 (v5.2.2.map Aq))]) (fun _ _ => rfl) ((Ay 4 0 2011 1 _ rfl rfl rfl rfl).trans ((Ay 4 1 2012 1 _ rfl rfl rfl rfl).trans ((Ay 4 2 2013 1 _ rfl rfl rfl rfl).trans (sm [(2005, 2011), (2006, 2012), (2007, 2013)] _ _ rfl rfl)))) (fun j4 n4 v4 h => ?_) (fun v5 s h hs => ?_)
   ·unfold C2 at h
    refine wp rfl (qm rfl (qf SP rfl (ql QX rfl (AU KA rfl (A9 rfl (Ac ?_))))))
    refine Bb h (fun h => ?_) fun h => ?_
    ·refine Al (A5 (AX (wq rfl (qf SP rfl (ql QX rfl (qm rfl ?_))))))
     refine BY h fun v7 a7 b7 h => qi KA ej a7 (Aj b7) rfl (qk bb rfl (H3 rfl (by decide) (JN W7 Xt rfl (Bp rfl (qa rfl (Ac (wq rfl (qf Bx rfl (ql Bi rfl (qm rfl (EB AF CQ MD rfl ?_)))))))))))
     refine GJ h fun c8 h => EL (f := Aq) AF AF CQ Ok MD c8 rfl (qf Bx rfl (qs YG rfl (Ac (wq rfl (qf HA rfl (ql Bi rfl (qf ZW rfl (ql QX rfl (qm rfl ?_)))))))))
     refine BF h fun v9 a9 h => Av [] (Ju N p0.gR v4.2.2.2 v9 a9) aW rfl (qm rfl ?_)
     refine GJ h fun c10 h => H3 rfl c10 (EB AF CQ MD rfl ?_)
     refine GJ h fun c11 h => EL (f := Aq) AF AF CQ Ok MD c11 rfl (qf HA rfl (qs YG rfl (AJ (by kernel_rfl) (Ai Aw rfl (qf J2 rfl (ql Bi rfl (qf ZA rfl (ql QX rfl (qm rfl ?_)))))))))
     refine BF h fun v12 a12 h => Av [] (Ju N p0.gU v4.2.2.2 v12 a12) aW rfl (qm rfl ?_)
     refine GJ h fun c13 h => H3 rfl c13 (EB AF CQ MD rfl ?_)
     refine GJ h fun c14 h => EL (f := Aq) AF AF CQ Ok MD c14 rfl (qf J2 rfl (qs YG rfl (AJ (by kernel_rfl) (Ai Aw rfl (qm rfl (Bp rfl (qe rfl ?_)))))))
     exact sn [(2005, 40), (2006, 51), (2007, 62)] h
    ·refine Bh ?_
     exact sn [(2008, 2005), (2009, 2006), (2010, 2007)] h
   ·refine Ah hs (wp rfl (qe rfl ?_))
    refine AY (L := BN N p0 v5) h (fun v15 => mk [(1, oD (.ptr 1 0)), (2, oD (.ptr 2 0)), (4, oD (.ptr 4 0)), (7, iD v15.2)] [(1, .box (DG p0)), (2, .box [.pure (.nil0), .pure (.nil0), .pure (.nil0), .pure (.nil0)]), (4, .box [.own 2014, .own 2015, .own 2016, .own 2017]), (2014, .vec 1 (v5.1.map Aq)), (2015, .vec 1 (v5.2.1.map Aq)), (2016, .vec 1 (v5.2.2.map Aq)), (2017, .vec 6 (v15.1.map Bs))]) (fun v16 => mk [(2, oD (.ptr 2 0)), (4, oD (.ptr 4 0))] [(2, .box [.pure (.nil0), .pure (.nil0), .pure (.nil0), .pure (.nil0)]), (4, .box [.own 2018, .own 2019, .own 2020, .own 2021]), (2018, .vec 1 (v5.1.map Aq)), (2019, .vec 1 (v5.2.1.map Aq)), (2020, .vec 1 (v5.2.2.map Aq)), (2021, .vec 6 (v16.map Bs))]) (fun _ _ => rfl) ((Ay 4 3 2039 6 _ rfl rfl rfl rfl).trans (sm [(2014, 2008), (2015, 2009), (2016, 2010), (2017, 2039)] _ _ rfl rfl)) (fun j15 n15 v15 h => ?_) (fun v16 s h hs => ?_)
    ·unfold BN at h
     refine A5 ?_
     refine AI h (fun v17 => mk [(1, oD (.ptr 1 0)), (2, oD (.ptr 2 0)), (4, oD (.ptr 4 0)), (7, iD v15.2), (74, bD v17)] [(1, .box (DG p0)), (2, .box [.pure (.nil0), .pure (.nil0), .pure (.nil0), .pure (.nil0)]), (4, .box [.own 2022, .own 2023, .own 2024, .own 2025]), (2022, .vec 1 (v5.1.map Aq)), (2023, .vec 1 (v5.2.1.map Aq)), (2024, .vec 1 (v5.2.2.map Aq)), (2025, .vec 6 (v15.1.map Bs))]) (fun j17 h => ?_) (fun v17 h => ?_)
     ·refine Ai Aw rfl (qm rfl (qf SX rfl (ql cJ rfl (AU X9 rfl (A9 rfl (qm rfl ?_))))))
      refine Dc 69 h rfl (fun h => ?_) fun h => ?_
      ·refine qf Bx rfl (ql Bi rfl (GG AF rfl (FQ rfl (qp rfl (Ac ?_)))))
       exact sn [(2022, 2014), (2023, 2015), (2024, 2016), (2025, 2017)] h
      ·refine qw 4 rfl (qp rfl (Ac ?_))
       exact sn [(2022, 2014), (2023, 2015), (2024, 2016), (2025, 2017)] h
     ·refine Bb h (fun h => ?_) fun h => ?_
      ·refine Al (A5 (AX (wq rfl (qf SX rfl (ql cJ rfl (qm rfl ?_))))))
       refine BY h fun v20 a20 b20 h => qi X9 Ym a20 (Aj b20) rfl (qK dW Ym rfl (qz dV rfl (qs Ym rfl (Ac (wq rfl (qf WQ rfl (ql bb rfl (H3 rfl (by decide) (JN W7 Xt rfl (Bp rfl (qf Yv rfl (ql bb rfl (JN W7 Xt rfl (qf Bx rfl (ql Bi rfl (GG AF rfl ?_))))))))))))))))
       refine GJ h fun c21 h => H3 rfl c21 (qf XB rfl (ql bb rfl (JN W7 Xt rfl (qf Bx rfl (ql Bi rfl (GG AF rfl ?_))))))
       refine GJ h fun c22 h => H3 rfl c22 (AS JD ee rfl (qz JD rfl (qs CG rfl (AJ (by kernel_rfl) ?_))))
       refine AI h (fun v23 => mk [(1, oD (.ptr 1 0)), (2, oD (.ptr 2 0)), (4, oD (.ptr 4 0)), (7, iD v15.2), (8, oD (.ptr 8 0)), (9, oD (.ptr 9 0))] [(1, .box (DG p0)), (2, .box [.pure (.nil0), .pure (.nil0), .pure (.nil0), .pure (.nil0)]), (4, .box [.own 2026, .own 2027, .own 2028, .own 2029]), (8, .box (Ob v20)), (9, .box [iC ((wI .i64 (1 + (wI .i64 ((zJ v20.gD 4)))))), iC ((zJ ((wI .i64 v20.gM)) ((v5.1.length : Int)))), iC ((zJ ((wI .i64 v20.gW)) ((v5.1.length : Int)))), .pure (.val (.bool v23)), .pure (.nil0), .pure (.nil0)]), (2026, .vec 1 (v5.1.map Aq)), (2027, .vec 1 (v5.2.1.map Aq)), (2028, .vec 1 (v5.2.2.map Aq)), (2029, .vec 6 (v15.1.map Bs))]) (fun j23 h => ?_) (fun v23 h => ?_)
       ·refine Ai Aw rfl (qf XT rfl (ql Uw rfl (qm rfl ?_)))
        refine Dc 104 h rfl (fun h => ?_) fun h => ?_
        ·refine qL FK CG rfl ?_
         refine BF h fun v25 a25 h => Av [] (Cc N ((AA.mk ((wI .i64 (1 + (wI .i64 ((zJ v20.gD 4)))))) ((zJ ((wI .i64 v20.gM)) ((v5.1.length : Int)))) ((zJ ((wI .i64 v20.gW)) ((v5.1.length : Int)))) false (([] : List (List Bool))) (([] : List (List Bool))))) v25 a25) QL rfl (CL rfl (qp rfl (qf KH rfl (qs S6 rfl (Ac ?_)))))
         exact sn [(2026, 2022), (2027, 2023), (2028, 2024), (2029, 2025)] h
        ·refine qw 3 rfl (qp rfl (qf KH rfl (qs S6 rfl (Ac ?_))))
         exact sn [(2026, 2022), (2027, 2023), (2028, 2024), (2029, 2025)] h
       ·refine wq rfl (qf Bx rfl (ql Bi rfl (qf CB rfl (ql A8 rfl ?_))))
        refine BY h fun v26 a26 b26 h => qI AF CQ a26 (Aj b26) rfl (qj A8 (Aj b26) rfl (qf Bx rfl (ql Bi rfl (qf Gx rfl (ql A8 rfl ?_)))))
        refine BY h fun v27 a27 b27 h => qI AF CQ a27 (Aj b27) rfl (qj A8 (Aj b27) rfl (qf W3 rfl (ql aP rfl ?_)))
        refine BF h fun v28 a28 h => Av [2030] (JK N v26 v27 v20.qE false v28 a28) bf rfl (qf IP rfl (qs aN rfl (AJ (by kernel_rfl) ?_)))
        refine AI h (fun v29 => mk [(1, oD (.ptr 1 0)), (2, oD (.ptr 2 0)), (4, oD (.ptr 4 0)), (7, iD v15.2), (9, oD (.ptr 9 0))] [(1, .box (DG p0)), (2, .box [.pure (.nil0), .pure (.nil0), .pure (.nil0), .pure (.nil0)]), (4, .box [.own 2031, .own 2032, .own 2033, .own 2034]), (9, .box [iC ((wI .i64 (1 + (wI .i64 ((zJ v20.gD 4)))))), iC ((zJ ((wI .i64 v20.gM)) ((v5.1.length : Int)))), iC ((zJ ((wI .i64 v20.gW)) ((v5.1.length : Int)))), .pure (.val (.bool v23)), .own 2035, .own 2036]), (2031, .vec 1 (v5.1.map Aq)), (2032, .vec 1 (v5.2.1.map Aq)), (2033, .vec 1 (v5.2.2.map Aq)), (2034, .vec 6 (v15.1.map Bs)), (2035, .vec 1 (v28.map (Nv eB))), (2036, .vec 1 (v29.map (Nv eB)))]) (fun j29 h => ?_) (fun v29 h => ?_)
        ·refine wq rfl (qf Fi rfl (ql A8 rfl (AN rfl (Ac ?_))))
         refine Bb h (fun h => ?_) fun h => ?_
         ·refine Ai Aw rfl (qf Bx rfl (ql Bi rfl (qf CB rfl (ql A8 rfl ?_))))
          refine BY h fun v31 a31 b31 h => qI AF CQ a31 (Aj b31) rfl (qj A8 (Aj b31) rfl (qf Bx rfl (ql Bi rfl (qf CB rfl (ql A8 rfl ?_)))))
          refine BY h fun v32 a32 b32 h => qI AF CQ a32 (Aj b32) rfl (qj A8 (Aj b32) rfl (qf YH rfl (ql aP rfl ?_)))
          refine BF h fun v33 a33 h => Av [2037] (JK N v31 v32 v20.qF true v33 a33) bf rfl (qf Gv rfl (qs aN rfl (AJ (by kernel_rfl) ?_)))
          exact sn [(2031, 2026), (2032, 2027), (2033, 2028), (2034, 2029), (2035, 2030), (2036, 2037)] h
         ·refine Al ?_
          exact YI _ h ((Ay 9 5 2038 1 _ rfl rfl rfl rfl).trans (sm [(2031, 2026), (2032, 2027), (2033, 2028), (2034, 2029), (2035, 2030), (2036, 2038)] _ _ rfl rfl))
        ·refine Ai Aw rfl (qf CS rfl (ql Hy rfl (qL FK CG rfl (FO (AV 2035 _ _ rfl rfl) (FO (AV 2036 _ _ rfl rfl) (EB Ev CG JD rfl ?_))))))
         refine GJ h fun c34 h => EL (f := Bs) Ev Ev CG cI JD c34 rfl (qf CS rfl (qs fY rfl (Ac (Ai Aw rfl (qm rfl (Bp rfl (qe rfl ?_)))))))
         exact sn [(2014, 2031), (2015, 2032), (2016, 2033), (2017, 149)] h
      ·refine Bh ?_
       exact sn [(2018, 2022), (2019, 2023), (2020, 2024), (2021, 2025)] h
    ·refine Ah hs (wq rfl (qL BZ BB rfl (qs BB rfl (qe rfl ?_))))
     obtain rfl := sj h
     refine Ah (sm [(1000, 2018), (1001, 2019), (1002, 2020), (1003, 2021)] [(2, oD (.ptr 2 0)), (3, bD true)] [(2, .box [.own 1000, .own 1001, .own 1002, .own 1003]), (1000, .vec 1 (v5.1.map Aq)), (1001, .vec 1 (v5.2.1.map Aq)), (1002, .vec 1 (v5.2.2.map Aq)), (1003, .vec 6 (v16.map Bs))] rfl rfl) (As ?_)
     exact ⟨⟨[_, _], ⟨.cellN _ _ _ _ _ _ _ rfl rfl BZ BB rfl rfl (E1 rfl), tm⟩, rfl⟩, ⟨rfl, rfl, rfl, rfl, tv⟩⟩
theorem IV (N : Nat) (p0 : List (List Bool)) (p1 : Int) (p2 : Int) (r : Bool) (h : DO N p0 p1 p2 = some r) : Au zA 143 [pD (.sl (p0.map (Nv eB))), iD p1, iD p2] [] (bD r) := by
 unfold DO at h
 refine cw (n := 24) (rs := [.tmp 6]) Tryz.func143 fun w0 S0 => ?_
 refine wq rfl (qa rfl (Ac (wp rfl (qm rfl (AU FA rfl (qm rfl (BH rfl (Ac ?_))))))))
 refine Bb h (fun h => ?_) fun h => ?_
 ·refine wq rfl (qe rfl ?_)
  obtain rfl := sj h
  refine Ah (sm [] [(6, bD false)] [] rfl rfl) (As ?_)
  exact ⟨⟨[_], tm, rfl⟩, tv⟩
 ·refine Al (wp rfl (qe rfl ?_))
  refine AY (L := CJ N p0 p1 p2) h (fun v2 => mk [(0, pD (.sl (p0.map (Nv eB)))), (1, iD p1), (2, iD p2), (7, iD v2)] []) (fun v3 => mk [] []) (fun _ _ => rfl) (sm [] _ _ rfl rfl) (fun j2 n2 v2 h => ?_) (fun v3 s h hs => ?_)
  ·unfold CJ at h
   refine wp rfl (qw 2 rfl (A9 rfl (Ac ?_)))
   refine Bb h (fun h => ?_) fun h => ?_
   ·refine Al (A5 (AX (wq rfl (qw 2 rfl ?_))))
    refine BY h fun v5 a5 b5 h => qi FA Lf a5 (Aj b5) rfl (qk MK rfl (AU Gl rfl (qm rfl (BH rfl (Ac ?_)))))
    refine Bb h (fun h => ?_) fun h => ?_
    ·refine wq rfl (qe rfl ?_)
     obtain rfl := sj h
     refine Ah (sm [] [(6, bD false)] [] rfl rfl) (As ?_)
     exact ⟨⟨[_], tm, rfl⟩, tv⟩
    ·refine Al (Ai Aw rfl (qm rfl (Bp rfl (qe rfl ?_))))
     exact sn [] h
   ·refine Bh ?_
    exact sn [] h
  ·refine Ah hs (wq rfl (qe rfl ?_))
   obtain rfl := sj h
   refine Ah (sm [] [(6, bD true)] [] rfl rfl) (As ?_)
   exact ⟨⟨[_], tm, rfl⟩, tv⟩
theorem MF (N : Nat) (p0 : Aa) (p1 : AA) (r : Int) (h : E2 N p0 p1 = some r) : Au zA 101 [.e (.agg (Ag p0)), .e (.agg (BJ p1))] [] (iD r) := by
 unfold E2 at h
 refine cw (n := 101) (rs := [.tmp 4]) Tryz.func101 fun w0 S0 => ?_
 refine wq rfl (qb rfl (qb rfl (qa rfl (Ac (A5 ?_)))))
 refine AI h (fun v1 => mk [(2, oD (.ptr 2 0)), (3, oD (.ptr 3 0)), (22, bD v1)] [(2, .box (Ag p0)), (3, .box (BJ p1))]) (fun j1 h => ?_) (fun v1 h => ?_)
 ·refine Ai Aw rfl (qf Fi rfl (ql A8 rfl (A9 rfl (qm rfl ?_))))
  refine Dc 10 h rfl (fun h => ?_) fun h => ?_
  ·refine qw 3 rfl (qp rfl (qw 4 rfl (qu rfl (qu rfl (qn rfl (qp rfl (Ac ?_)))))))
   exact sn [] h
  ·refine qf Fi rfl (ql A8 rfl (FQ rfl (qp rfl (qm rfl ?_))))
   refine Dc 15 h rfl (fun h => ?_) fun h => ?_
   ·refine qw 3 rfl (qu rfl (qu rfl (qn rfl (qp rfl (Ac ?_)))))
    exact sn [] h
   ·refine qf KH rfl (ql Uw rfl (qm rfl ?_))
    refine Dc 18 h rfl (fun h => ?_) fun h => ?_
    ·refine qL FK CG rfl ?_
     refine BF h fun v5 a5 h => Av [] (Cc N p1 v5 a5) QL rfl (qp rfl (qp rfl (Ac ?_)))
     exact sn [] h
    ·refine qw 2 rfl (qp rfl (qp rfl (Ac ?_)))
     exact sn [] h
 ·refine Bb h (fun h => ?_) fun h => ?_
  ·refine wq rfl (qe rfl ?_)
   obtain rfl := sj h
   refine Ah (sm [] [(4, iD 1)] [] rfl rfl) (As ?_)
   exact ⟨⟨[_], tm, rfl⟩, tv⟩
  ·refine Al (wq rfl (qf Bx rfl (ql Bi rfl (AU AF rfl (qa rfl (Ac (A5 ?_)))))))
   refine AI h (fun v7 => mk [(2, oD (.ptr 2 0)), (3, oD (.ptr 3 0)), (45, bD v7)] [(2, .box (Ag p0)), (3, .box (BJ p1))]) (fun j7 h => ?_) (fun v7 h => ?_)
   ·refine Ai Aw rfl (qf CB rfl (ql A8 rfl (A9 rfl (qm rfl ?_))))
    refine Dc 29 h rfl (fun h => ?_) fun h => ?_
    ·refine qw 4 rfl (qp rfl (qw 4 rfl (qp rfl (qw 5 rfl (qp rfl (Ac ?_))))))
     exact sn [] h
    ·refine qf CB rfl (ql A8 rfl (qm rfl (Eh rfl (qp rfl (qm rfl ?_)))))
     refine Dc 35 h rfl (fun h => ?_) fun h => ?_
     ·refine qw 3 rfl (qp rfl (qw 5 rfl (qp rfl (Ac ?_))))
      exact sn [] h
     ·refine qf Gx rfl (ql A8 rfl (A9 rfl (qp rfl (qm rfl ?_))))
      refine Dc 40 h rfl (fun h => ?_) fun h => ?_
      ·refine qw 4 rfl (qp rfl (Ac ?_))
       exact sn [] h
      ·refine qf Gx rfl (ql A8 rfl (qm rfl (Eh rfl (qp rfl (Ac ?_)))))
       exact sn [] h
   ·refine Bb h (fun h => ?_) fun h => ?_
    ·refine wq rfl (qe rfl ?_)
     obtain rfl := sj h
     refine Ah (sm [] [(4, iD 4)] [] rfl rfl) (As ?_)
     exact ⟨⟨[_], tm, rfl⟩, tv⟩
    ·refine Al (wp rfl (qf IP rfl (ql In rfl (qf Bx rfl (ql Bi rfl (qf CB rfl (ql A8 rfl ?_)))))))
     refine BY h fun v12 a12 b12 h => qi AF CQ a12 (Aj b12) rfl (qk A8 rfl (qf Bx rfl (ql Bi rfl (qf Gx rfl (ql A8 rfl ?_)))))
     refine BY h fun v13 a13 b13 h => qi AF CQ a13 (Aj b13) rfl (qk A8 rfl ?_)
     refine BF h fun v14 a14 h => Av [] (IV N p1.gY v12 v13 v14 a14) aR rfl (CL rfl (AJ (by kernel_rfl) ?_))
     refine Bb h (fun h => ?_) fun h => ?_
     ·refine wq rfl (qe rfl ?_)
      obtain rfl := sj h
      refine Ah (sm [] [(4, iD 6)] [] rfl rfl) (As ?_)
      exact ⟨⟨[_], tm, rfl⟩, tv⟩
     ·refine Al (wp rfl (qf Fi rfl (ql A8 rfl (BH rfl (Ac ?_)))))
      refine Bb h (fun h => ?_) fun h => ?_
      ·refine wp rfl (qf Gv rfl (ql In rfl (AU FA rfl (BH rfl (Ac ?_)))))
       refine Bb h (fun h => ?_) fun h => ?_
       ·refine wq rfl (qe rfl ?_)
        obtain rfl := sj h
        refine Ah (sm [] [(4, iD 6)] [] rfl rfl) (As ?_)
        exact ⟨⟨[_], tm, rfl⟩, tv⟩
       ·refine Al (wq rfl (qe rfl ?_))
        obtain rfl := sj h
        refine Ah (sm [] [(4, iD 0)] [] rfl rfl) (As ?_)
        exact ⟨⟨[_], tm, rfl⟩, tv⟩
      ·refine Al (wp rfl (qf Gv rfl (ql In rfl (qf Bx rfl (ql Bi rfl (qf CB rfl (ql A8 rfl ?_)))))))
       refine BY h fun v18 a18 b18 h => qi AF CQ a18 (Aj b18) rfl (qk A8 rfl (qf Bx rfl (ql Bi rfl (qf CB rfl (ql A8 rfl ?_)))))
       refine BY h fun v19 a19 b19 h => qi AF CQ a19 (Aj b19) rfl (qk A8 rfl ?_)
       refine BF h fun v20 a20 h => Av [] (IV N p1.g9 v18 v19 v20 a20) aR rfl (CL rfl (AJ (by kernel_rfl) ?_))
       refine Bb h (fun h => ?_) fun h => ?_
       ·refine wq rfl (qe rfl ?_)
        obtain rfl := sj h
        refine Ah (sm [] [(4, iD 6)] [] rfl rfl) (As ?_)
        exact ⟨⟨[_], tm, rfl⟩, tv⟩
       ·refine Al (wp rfl (qe rfl ?_))
        refine AY (L := Cf N p1) h (fun v22 => mk [(3, oD (.ptr 3 0)), (6, iD v22)] [(3, .box (BJ p1))]) (fun v23 => mk [] []) (fun _ _ => rfl) (sm [] _ _ rfl rfl) (fun j22 n22 v22 h => ?_) (fun v23 s h hs => ?_)
        ·unfold Cf at h
         refine wp rfl (qm rfl (qf Gv rfl (ql In rfl (AU FA rfl (A9 rfl (Ac ?_))))))
         refine Bb h (fun h => ?_) fun h => ?_
         ·refine Al (A5 (AX (wq rfl (qf Gv rfl (ql In rfl (qm rfl ?_))))))
          refine BY h fun v25 a25 b25 h => qi FA Lf a25 (Aj b25) rfl (qk MK rfl (qm rfl ?_))
          refine BY h fun v26 a26 b26 h => qi Gl S6 a26 (Aj b26) rfl (qk Uw rfl (CL rfl (Ac ?_)))
          refine Bb h (fun h => ?_) fun h => ?_
          ·refine wq rfl (qe rfl ?_)
           obtain rfl := sj h
           refine Ah (sm [] [(4, iD 1)] [] rfl rfl) (As ?_)
           exact ⟨⟨[_], tm, rfl⟩, tv⟩
          ·refine Al (Ai Aw rfl (qm rfl (Bp rfl (qe rfl ?_))))
           exact sn [] h
         ·refine Bh ?_
          exact sn [] h
        ·refine Ah hs (wq rfl (qe rfl ?_))
         obtain rfl := sj h
         refine Ah (sm [] [(4, iD 0)] [] rfl rfl) (As ?_)
         exact ⟨⟨[_], tm, rfl⟩, tv⟩
theorem Em (N : Nat) (p0 : Aa) (r : Int) (h : BQ N p0 = some r) : Au zA 55 [.e (.agg (Ag p0))] [] (iD r) := by
 unfold BQ at h
 refine cw (n := 102) (rs := [.tmp 2]) Tryz.func55 fun w0 S0 => ?_
 refine wq rfl (qb rfl (qa rfl (Ac (A5 ?_))))
 refine AI h (fun v1 => mk [(1, oD (.ptr 1 0)), (16, bD v1)] [(1, .box (Ag p0))]) (fun j1 h => ?_) (fun v1 h => ?_)
 ·refine Ai Aw rfl (qf Bx rfl (ql Bi rfl (AU AF rfl (FQ rfl (qm rfl ?_)))))
  refine Dc 11 h rfl (fun h => ?_) fun h => ?_
  ·refine qw 4 rfl (qp rfl (Ac ?_))
   exact sn [] h
  ·refine qf CS rfl (ql Hy rfl (AU Ev rfl (FQ rfl (qp rfl (Ac ?_)))))
   exact sn [] h
 ·refine Bb h (fun h => ?_) fun h => ?_
  ·refine wq rfl (qe rfl ?_)
   obtain rfl := sj h
   refine Ah (sm [] [(2, iD 3)] [] rfl rfl) (As ?_)
   exact ⟨⟨[_], tm, rfl⟩, tv⟩
  ·refine Al (A5 ?_)
   refine AI h (fun v4 => mk [(1, oD (.ptr 1 0)), (32, bD v4)] [(1, .box (Ag p0))]) (fun j4 h => ?_) (fun v4 h => ?_)
   ·refine Ai Aw rfl (qf HA rfl (ql Bi rfl (AU AF rfl (qf Bx rfl (ql Bi rfl (AU AF rfl (BH rfl (qm rfl ?_))))))))
    refine Dc 24 h rfl (fun h => ?_) fun h => ?_
    ·refine qw 7 rfl (qp rfl (Ac ?_))
     exact sn [] h
    ·refine qf J2 rfl (ql Bi rfl (AU AF rfl (qf Bx rfl (ql Bi rfl (AU AF rfl (BH rfl (qp rfl (Ac ?_))))))))
     exact sn [] h
   ·refine Bb h (fun h => ?_) fun h => ?_
    ·refine wq rfl (qe rfl ?_)
     obtain rfl := sj h
     refine Ah (sm [] [(2, iD 6)] [] rfl rfl) (As ?_)
     exact ⟨⟨[_], tm, rfl⟩, tv⟩
    ·refine Al (wp rfl (qe rfl ?_))
     refine AY (L := Bt N p0) h (fun v7 => mk [(1, oD (.ptr 1 0)), (3, iD v7)] [(1, .box (Ag p0))]) (fun v8 => mk [(1, oD (.ptr 1 0))] [(1, .box (Ag p0))]) (fun _ _ => rfl) (sm [] _ _ rfl rfl) (fun j7 n7 v7 h => ?_) (fun v8 s h hs => ?_)
     ·unfold Bt at h
      refine wp rfl (qm rfl (qf Bx rfl (ql Bi rfl (AU AF rfl (A9 rfl (Ac ?_))))))
      refine Bb h (fun h => ?_) fun h => ?_
      ·refine Al (A5 (AX (wq rfl (qf Bx rfl (ql Bi rfl (qm rfl ?_))))))
       refine BY h fun v10 a10 b10 h => qi AF CQ a10 (Aj b10) rfl (qk A8 rfl (qe rfl ?_))
       refine AI h (fun v11 => mk [(1, oD (.ptr 1 0)), (3, iD v7), (84, bD v11)] [(1, .box (Ag p0))]) (fun j11 h => ?_) (fun v11 h => ?_)
       ·refine Ai Aw rfl (qm rfl (A9 rfl (qm rfl ?_)))
        refine Dc 47 h rfl (fun h => ?_) fun h => ?_
        ·refine qw 2 rfl (qp rfl (qw 7 rfl (qp rfl (qw 8 rfl (qp rfl (qw 7 rfl (qp rfl (qw 8 rfl (qp rfl (Ac ?_))))))))))
         exact sn [] h
        ·refine qm rfl (FQ rfl (qp rfl (qm rfl ?_)))
         refine Dc 51 h rfl (fun h => ?_) fun h => ?_
         ·refine qw 6 rfl (qp rfl (qw 8 rfl (qp rfl (qw 7 rfl (qp rfl (qw 8 rfl (qp rfl (Ac ?_))))))))
          exact sn [] h
         ·refine qf HA rfl (ql Bi rfl (qm rfl ?_))
          refine BY h fun v14 a14 b14 h => qi AF CQ a14 (Aj b14) rfl (qk A8 rfl (A9 rfl (qp rfl (qm rfl ?_))))
          refine Dc 59 h rfl (fun h => ?_) fun h => ?_
          ·refine qw 7 rfl (qp rfl (qw 7 rfl (qp rfl (qw 8 rfl (qp rfl (Ac ?_))))))
           exact sn [] h
          ·refine qf HA rfl (ql Bi rfl (qm rfl ?_))
           refine BY h fun v16 a16 b16 h => qi AF CQ a16 (Aj b16) rfl (qk A8 rfl (qm rfl (Eh rfl (qp rfl (qm rfl ?_)))))
           refine Dc 68 h rfl (fun h => ?_) fun h => ?_
           ·refine qw 6 rfl (qp rfl (qw 8 rfl (qp rfl (Ac ?_))))
            exact sn [] h
           ·refine qf J2 rfl (ql Bi rfl (qm rfl ?_))
            refine BY h fun v18 a18 b18 h => qi AF CQ a18 (Aj b18) rfl (qk A8 rfl (A9 rfl (qp rfl (qm rfl ?_))))
            refine Dc 76 h rfl (fun h => ?_) fun h => ?_
            ·refine qw 7 rfl (qp rfl (Ac ?_))
             exact sn [] h
            ·refine qf J2 rfl (ql Bi rfl (qm rfl ?_))
             refine BY h fun v20 a20 b20 h => qi AF CQ a20 (Aj b20) rfl (qk A8 rfl (qm rfl (Eh rfl (qp rfl (Ac ?_)))))
             exact sn [] h
       ·refine Bb h (fun h => ?_) fun h => ?_
        ·refine wq rfl (qe rfl ?_)
         obtain rfl := sj h
         refine Ah (sm [] [(2, iD 7)] [] rfl rfl) (As ?_)
         exact ⟨⟨[_], tm, rfl⟩, tv⟩
        ·refine Al (Ai Aw rfl (qm rfl (Bp rfl (qe rfl ?_))))
         exact sn [] h
      ·refine Bh ?_
       exact sn [] h
     ·refine Ah hs (wp rfl (qe rfl ?_))
      refine AY (L := Bq N p0) h (fun v22 => mk [(1, oD (.ptr 1 0)), (5, iD v22)] [(1, .box (Ag p0))]) (fun v23 => mk [] []) (fun _ _ => rfl) (sm [] _ _ rfl rfl) (fun j22 n22 v22 h => ?_) (fun v23 s h hs => ?_)
      ·unfold Bq at h
       refine wp rfl (qm rfl (qf CS rfl (ql Hy rfl (AU Ev rfl (A9 rfl (Ac ?_))))))
       refine Bb h (fun h => ?_) fun h => ?_
       ·refine Al (A5 (AX (wq rfl (qL BZ BB rfl (qf CS rfl (ql Hy rfl (qm rfl ?_)))))))
        refine BY h fun v25 a25 b25 h => qi Ev CG a25 (Aj b25) rfl (qK FK CG rfl ?_)
        refine BF h fun v26 a26 h => Av [] (MF N p0 v25 v26 a26) eJ rfl (qa rfl (AJ (by kernel_rfl) (wq rfl (qm rfl (BH rfl (Ac ?_))))))
        refine Bb h (fun h => ?_) fun h => ?_
        ·refine wq rfl (qm rfl (qe rfl ?_))
         obtain rfl := sj h
         refine Ah (sm [] [(2, iD v26)] [] rfl rfl) (As ?_)
         exact ⟨⟨[_], tm, rfl⟩, tv⟩
        ·refine Al (Ai Aw rfl (qm rfl (Bp rfl (qe rfl ?_))))
         exact sn [] h
       ·refine Bh ?_
        exact sn [] h
      ·refine Ah hs (wq rfl (qe rfl ?_))
       obtain rfl := sj h
       refine Ah (sm [] [(2, iD 0)] [] rfl rfl) (As ?_)
       exact ⟨⟨[_], tm, rfl⟩, tv⟩
theorem Fj (N : Nat) (p0 : Aa) (r : Ab × Int) (h : CH N p0 = some r) : Au zA 74 [.e (.agg (Ag p0))] [(1, r.1.gI.map Aq), (1, r.1.gF.map Aq), (1, r.1.gG.map Cy)] (.tup [.agg [.own 0, .own 1, .own 2], .one (iC r.2)]) := by
 unfold CH at h
 refine cw (n := 68) (rs := [.cell 2 40, .tmp 3]) Tryz.func74 fun w0 S0 => ?_
 refine wq rfl (qb rfl (qz CM rfl (qa rfl (Ac (wp rfl (qL BZ BB rfl ?_))))))
 refine BF h fun v1 a1 h => Av [] (Em N p0 v1 a1) Y4 rfl (qa rfl (Ac (wq rfl (qm rfl (BH rfl (Ac ?_))))))
 refine Bb h (fun h => ?_) fun h => ?_
 ·refine wq rfl (AS CM G1 rfl (qm rfl (qs AQ rfl (qe rfl ?_))))
  obtain rfl := sj h
  refine Ah ((Ay 2 0 2001 1 _ rfl rfl rfl rfl).trans ((Ay 2 1 2002 1 _ rfl rfl rfl rfl).trans ((Ay 2 2 2003 1 _ rfl rfl rfl rfl).trans (sm [(1000, 2001), (1001, 2002), (1002, 2003)] [(2, oD (.ptr 2 0)), (3, iD v1)] [(2, .box [.own 1000, .own 1001, .own 1002]), (1000, .vec 1 ((([] : List Int)).map Aq)), (1001, .vec 1 ((([] : List Int)).map Aq)), (1002, .vec 1 ((([] : List Int)).map Cy))] rfl rfl)))) (As ?_)
  exact ⟨⟨[_, _], ⟨.cellN _ _ _ _ _ _ _ rfl rfl Bf AQ rfl rfl (E1 rfl), tm⟩, rfl⟩, ⟨rfl, rfl, rfl, tv⟩⟩
 ·refine Al (wq rfl (qz CM rfl (Ac (wp rfl (qe rfl ?_)))))
  refine AY (L := Cq N p0) h (fun v3 => mk [(1, oD (.ptr 1 0)), (2, oD (.ptr 2 0)), (5, oD (.ptr 5 0)), (6, iD v3.2.2)] [(1, .box (Ag p0)), (2, .box [.pure (.nil0), .pure (.nil0), .pure (.nil0)]), (5, .box [.own 2004, .own 2005, .pure (.nil0)]), (2004, .vec 1 (v3.1.map Aq)), (2005, .vec 1 (v3.2.1.map Aq))]) (fun v4 => mk [(1, oD (.ptr 1 0)), (2, oD (.ptr 2 0)), (5, oD (.ptr 5 0))] [(1, .box (Ag p0)), (2, .box [.pure (.nil0), .pure (.nil0), .pure (.nil0)]), (5, .box [.own 2006, .own 2007, .pure (.nil0)]), (2006, .vec 1 (v4.1.map Aq)), (2007, .vec 1 (v4.2.map Aq))]) (fun _ _ => rfl) ((Ay 5 0 2008 1 _ rfl rfl rfl rfl).trans ((Ay 5 1 2009 1 _ rfl rfl rfl rfl).trans (sm [(2004, 2008), (2005, 2009)] _ _ rfl rfl))) (fun j3 n3 v3 h => ?_) (fun v4 s h hs => ?_)
  ·unfold Cq at h
   refine wp rfl (qm rfl (qf Bx rfl (ql Bi rfl (AU AF rfl (A9 rfl (Ac ?_))))))
   refine Bb h (fun h => ?_) fun h => ?_
   ·refine Al (A5 (AX (wq rfl (qf Dj rfl (ql Bi rfl (qf HA rfl (ql Bi rfl (qm rfl ?_))))))))
    refine BY h fun v6 a6 b6 h => qi AF CQ a6 (Aj b6) rfl (qk A8 rfl (EB AF CQ MD rfl ?_))
    refine GJ h fun c7 h => EL (f := Aq) AF AF CQ Ok MD c7 rfl (qf Dj rfl (qs YG rfl (AJ (by kernel_rfl) (Ai Aw rfl (qf BU rfl (ql Bi rfl (EB AF CQ MD rfl ?_)))))))
    refine GJ h fun c8 h => EL (f := Aq) AF AF CQ Ok MD c8 rfl (qf BU rfl (qs YG rfl (Ac (Ai Aw rfl (qm rfl (Bp rfl (qe rfl ?_)))))))
    exact sn [(2004, 30), (2005, 35)] h
   ·refine Bh ?_
    exact sn [(2006, 2004), (2007, 2005)] h
  ·refine Ah hs (wp rfl (qe rfl ?_))
   refine AY (L := Bw N p0) h (fun v9 => mk [(1, oD (.ptr 1 0)), (2, oD (.ptr 2 0)), (5, oD (.ptr 5 0)), (7, iD v9.2)] [(1, .box (Ag p0)), (2, .box [.pure (.nil0), .pure (.nil0), .pure (.nil0)]), (5, .box [.own 2010, .own 2011, .own 2012]), (2010, .vec 1 (v4.1.map Aq)), (2011, .vec 1 (v4.2.map Aq)), (2012, .vec 1 (v9.1.map Cy))]) (fun v10 => mk [(2, oD (.ptr 2 0)), (5, oD (.ptr 5 0))] [(2, .box [.pure (.nil0), .pure (.nil0), .pure (.nil0)]), (5, .box [.own 2013, .own 2014, .own 2015]), (2013, .vec 1 (v4.1.map Aq)), (2014, .vec 1 (v4.2.map Aq)), (2015, .vec 1 (v10.map Cy))]) (fun _ _ => rfl) ((Ay 5 2 2019 1 _ rfl rfl rfl rfl).trans (sm [(2010, 2006), (2011, 2007), (2012, 2019)] _ _ rfl rfl)) (fun j9 n9 v9 h => ?_) (fun v10 s h hs => ?_)
   ·unfold Bw at h
    refine wp rfl (qm rfl (qf CS rfl (ql Hy rfl (AU Ev rfl (A9 rfl (Ac ?_))))))
    refine Bb h (fun h => ?_) fun h => ?_
    ·refine Al (A5 (AX (wq rfl (qe rfl ?_))))
     refine AI h (fun v12 => mk [(1, oD (.ptr 1 0)), (2, oD (.ptr 2 0)), (5, oD (.ptr 5 0)), (7, iD v9.2), (8, pD (.val (.int .u8 v12)))] [(1, .box (Ag p0)), (2, .box [.pure (.nil0), .pure (.nil0), .pure (.nil0)]), (5, .box [.own 2016, .own 2017, .own 2018]), (2016, .vec 1 (v4.1.map Aq)), (2017, .vec 1 (v4.2.map Aq)), (2018, .vec 1 (v9.1.map Cy))]) (fun j12 h => ?_) (fun v12 h => ?_)
     ·refine wq rfl (qf CS rfl (ql Hy rfl (qm rfl ?_)))
      refine BY h fun v13 a13 b13 h => qi Ev CG a13 (Aj b13) rfl (qK FK CG rfl ?_)
      refine BF h fun v14 a14 h => Av [] (Cc N v13 v14 a14) QL rfl (Ac ?_)
      refine Bb h (fun h => ?_) fun h => ?_
      ·refine Ai Aw rfl (qf HA rfl (ql Bi rfl (qf CS rfl (ql Hy rfl (qm rfl ?_)))))
       refine BY h fun v16 a16 b16 h => qi Ev CG a16 (Aj b16) rfl (qg CB rfl (qk A8 rfl ?_))
       refine BY h fun v17 a17 b17 h => qi AF CQ a17 (Aj b17) rfl (qk A8 rfl ?_)
       refine GJ h fun c18 h => Kt rfl c18 (qa rfl (AJ (by kernel_rfl) ?_))
       exact sn [(2016, 2010), (2017, 2011), (2018, 2012)] h
      ·refine Al ?_
       exact sn [(2016, 2010), (2017, 2011), (2018, 2012)] h
     ·refine Ai Aw rfl (qf Dm rfl (ql Il rfl (qm rfl (EB Ei EP NH rfl ?_))))
      refine GJ h fun c19 h => EL (f := Cy) Ei Ei EP PF NH c19 rfl (qf Dm rfl (qs fJ rfl (Ac (Ai Aw rfl (qm rfl (Bp rfl (qe rfl ?_)))))))
      exact sn [(2010, 2016), (2011, 2017), (2012, 65)] h
    ·refine Bh ?_
     exact sn [(2013, 2010), (2014, 2011), (2015, 2012)] h
   ·refine Ah hs (wq rfl (qL Bf AQ rfl (qs AQ rfl (qe rfl ?_))))
    obtain rfl := sj h
    refine Ah (sm [(1000, 2013), (1001, 2014), (1002, 2015)] [(2, oD (.ptr 2 0)), (3, iD 0)] [(2, .box [.own 1000, .own 1001, .own 1002]), (1000, .vec 1 (v4.1.map Aq)), (1001, .vec 1 (v4.2.map Aq)), (1002, .vec 1 (v10.map Cy))] rfl rfl) (As ?_)
    exact ⟨⟨[_, _], ⟨.cellN _ _ _ _ _ _ _ rfl rfl Bf AQ rfl rfl (E1 rfl), tm⟩, rfl⟩, ⟨rfl, rfl, rfl, tv⟩⟩
theorem L7 (N : Nat) (p0 : Ab) (r : Ab) (h : EE N p0 = some r) : Au zA 186 [.e (.agg (AH p0))] [(1, r.gI.map Aq), (1, r.gF.map Aq), (1, r.gG.map Cy)] (.e (.agg [.own 0, .own 1, .own 2])) := by
 unfold EE at h
 refine cw (n := 16) (rs := [.cell 2 40]) Tryz.func186 fun w0 S0 => ?_
 refine wq rfl (qb rfl (qz CM rfl (Ac (wq rfl (EB AF CQ MD rfl (qf Dj rfl (ql Bi rfl ?_)))))))
 refine GJ h fun c1 h => K8 (f := Aq) AF AF CQ Ok MD (fun _ => rfl) c1 rfl (EB AF CQ MD rfl (qf BU rfl (ql Bi rfl ?_)))
 refine GJ h fun c2 h => K8 (f := Aq) AF AF CQ Ok MD (fun _ => rfl) c2 rfl (EB Ei EP NH rfl (qf Dm rfl (ql Il rfl ?_)))
 refine GJ h fun c3 h => K8 (f := Cy) Ei Ei EP PF NH (fun _ => rfl) c3 rfl (AS CM G1 rfl (qs AQ rfl (AJ (by kernel_rfl) ?_)))
 obtain rfl := sj h
 refine Ah (sm [(1000, 6), (1001, 10), (1002, 14)] [(2, oD (.ptr 2 0))] [(2, .box [.own 1000, .own 1001, .own 1002]), (1000, .vec 1 (((([] : List Int)) ++ p0.gI).map Aq)), (1001, .vec 1 (((([] : List Int)) ++ p0.gF).map Aq)), (1002, .vec 1 (((([] : List Int)) ++ p0.gG).map Cy))] rfl rfl) (As ?_)
 exact ⟨⟨[_], ⟨.cellN _ _ _ _ _ _ _ rfl rfl Bf AQ rfl rfl (E1 rfl), tv⟩, rfl⟩, ⟨rfl, rfl, rfl, tv⟩⟩
theorem J6 (N : Nat) (p0 : Ab) (r : (List Ab)) (h : DZ N p0 = some r) : Au zA 163 [.e (.agg (AH p0))] [(3, r.map CZ)] (oD (.own 0)) := by
 unfold DZ at h
 refine cw (n := 62) (rs := [.tmp 2]) Tryz.func163 fun w0 S0 => ?_
 refine wq rfl (qb rfl (qa rfl (Ac (wq rfl (qa rfl (Ac (wp rfl (qe rfl ?_))))))))
 refine AY (L := CO N p0) h (fun v1 => mk [(1, oD (.ptr 1 0)), (3, iD v1.1), (4, iD v1.2)] [(1, .box (AH p0))]) (fun v2 => mk [(1, oD (.ptr 1 0)), (3, iD v2)] [(1, .box (AH p0))]) (fun _ _ => rfl) (sm [] _ _ rfl rfl) (fun j1 n1 v1 h => ?_) (fun v2 s h hs => ?_)
 ·unfold CO at h
  refine wp rfl (qm rfl (qf BU rfl (ql Bi rfl (AU AF rfl (A9 rfl (Ac ?_))))))
  refine Bb h (fun h => ?_) fun h => ?_
  ·refine Al ?_
   refine AI h (fun v4 => mk [(1, oD (.ptr 1 0)), (3, iD v4), (4, iD v1.2)] [(1, .box (AH p0))]) (fun j4 h => ?_) (fun v4 h => ?_)
   ·refine AX (wq rfl (qf BU rfl (ql Bi rfl (qm rfl ?_))))
    refine BY h fun v5 a5 b5 h => qi AF CQ a5 (Aj b5) rfl (qk A8 rfl (Eh rfl (Ac ?_)))
    refine Bb h (fun h => ?_) fun h => ?_
    ·refine Ai Aw rfl (qm rfl (Bp rfl (qe rfl ?_)))
     exact sn [] h
    ·refine Al ?_
     exact sn [] h
   ·refine Ai Aw rfl (qm rfl (Bp rfl (qe rfl ?_)))
    exact sn [] h
  ·refine Bh ?_
   exact sn [] h
 ·refine Ah hs (wq rfl (qa rfl (Ac (wp rfl (qe rfl ?_)))))
  refine AY (L := BP N p0 v2) h (fun v7 => mk [(1, oD (.ptr 1 0)), (3, iD v2), (5, oD (.own 2001)), (6, iD v7.2)] [(1, .box (AH p0)), (2001, .vec 3 (v7.1.map CZ))]) (fun v8 => mk [(5, oD (.own 2002))] [(2002, .vec 3 (v8.map CZ))]) (fun _ _ => rfl) ((Bl 5 2022 3 rfl rfl rfl).trans (sm [(2001, 2022)] _ _ rfl rfl)) (fun j7 n7 v7 h => ?_) (fun v8 s h hs => ?_)
  ·unfold BP at h
   refine wp rfl (qw 2 rfl ?_)
   refine GJ h fun c9 h => Kt rfl c9 (A9 rfl (Ac ?_))
   refine Bb h (fun h => ?_) fun h => ?_
   ·refine Al (A5 (AX (wq rfl (qL Bf AQ rfl ?_))))
    refine BF h fun v11 a11 h => Av [2003, 2004, 2005] (L7 N p0 v11 a11) eo rfl (qz CM rfl (qs AQ rfl (Ac (wq rfl (qa rfl (Ac (wp rfl (qe rfl ?_))))))))
    refine AY (L := B9 N p0 v7) h (fun v12 => mk [(1, oD (.ptr 1 0)), (3, iD v2), (5, oD (.own 2009)), (6, iD v7.2), (7, oD (.ptr 7 0)), (8, iD v12.2.1), (9, iD v12.2.2)] [(1, .box (AH p0)), (7, .box [.own 2006, .own 2007, .own 2008]), (2006, .vec 1 (v11.gI.map Aq)), (2007, .vec 1 (v12.1.map Aq)), (2008, .vec 1 (v11.gG.map Cy)), (2009, .vec 3 (v7.1.map CZ))]) (fun v13 => mk [(1, oD (.ptr 1 0)), (3, iD v2), (5, oD (.own 2013)), (6, iD v7.2), (7, oD (.ptr 7 0))] [(1, .box (AH p0)), (7, .box [.own 2010, .own 2011, .own 2012]), (2010, .vec 1 (v11.gI.map Aq)), (2011, .vec 1 (v13.map Aq)), (2012, .vec 1 (v11.gG.map Cy)), (2013, .vec 3 (v7.1.map CZ))]) (fun _ _ => rfl) (sm [(2006, 2003), (2007, 2004), (2008, 2005), (2009, 2001)] _ _ rfl rfl) (fun j12 n12 v12 h => ?_) (fun v13 s h hs => ?_)
    ·unfold B9 at h
     refine wp rfl (qm rfl (qf BU rfl (ql Bi rfl (AU AF rfl (A9 rfl (Ac ?_))))))
     refine Bb h (fun h => ?_) fun h => ?_
     ·refine Al ?_
      refine AI h (fun v15 => mk [(1, oD (.ptr 1 0)), (3, iD v2), (5, oD (.own 2017)), (6, iD v7.2), (7, oD (.ptr 7 0)), (8, iD v15.2), (9, iD v12.2.2)] [(1, .box (AH p0)), (7, .box [.own 2014, .own 2015, .own 2016]), (2014, .vec 1 (v11.gI.map Aq)), (2015, .vec 1 (v15.1.map Aq)), (2016, .vec 1 (v11.gG.map Cy)), (2017, .vec 3 (v7.1.map CZ))]) (fun j15 h => ?_) (fun v15 h => ?_)
      ·refine AX (wp rfl (qf BU rfl (ql Bi rfl (qm rfl ?_))))
       refine BY h fun v16 a16 b16 h => qi AF CQ a16 (Aj b16) rfl (qk A8 rfl (A9 rfl (Ac ?_)))
       refine Bb h (fun h => ?_) fun h => ?_
       ·refine Bh ?_
        exact sn [(2014, 2006), (2015, 2007), (2016, 2008), (2017, 2009)] h
       ·refine Al ?_
        refine AI h (fun v18 => mk [(1, oD (.ptr 1 0)), (3, iD v2), (5, oD (.own 2021)), (6, iD v7.2), (7, oD (.ptr 7 0)), (8, iD v12.2.1), (9, iD v12.2.2)] [(1, .box (AH p0)), (7, .box [.own 2018, .own 2019, .own 2020]), (2018, .vec 1 (v11.gI.map Aq)), (2019, .vec 1 (v18.map Aq)), (2020, .vec 1 (v11.gG.map Cy)), (2021, .vec 3 (v7.1.map CZ))]) (fun j18 h => ?_) (fun v18 h => ?_)
        ·refine wq rfl (qw 2 rfl ?_)
         refine GJ h fun c19 h => L6 rfl c19 (H3 rfl (by decide) (AN rfl (Ac ?_)))
         refine Bb h (fun h => ?_) fun h => ?_
         ·refine Ai Aw rfl (qf BU rfl (ql Bi rfl (qm rfl ?_)))
          refine BY h fun v21 a21 b21 h => qI AF CQ a21 (Aj b21) rfl ?_
          refine FE rfl rfl rfl rfl (Aj b21) rfl CQ rfl (Jd rfl) (FL Aq v12.1 _ ((-1))) ?_
          refine Ac ?_
          exact sn [(2018, 2006), (2019, 2007), (2020, 2008), (2021, 2009)] h
         ·refine Al ?_
          exact sn [(2018, 2006), (2019, 2007), (2020, 2008), (2021, 2009)] h
        ·refine Ai Aw rfl (qm rfl (Bp rfl (qe rfl ?_)))
         exact sn [(2014, 2018), (2015, 2019), (2016, 2020), (2017, 2021)] h
      ·refine Ai Aw rfl (qm rfl (Bp rfl (qe rfl ?_)))
       exact sn [(2006, 2014), (2007, 2015), (2008, 2016), (2009, 2017)] h
     ·refine Bh ?_
      exact sn [(2010, 2006), (2011, 2007), (2012, 2008), (2013, 2009)] h
    ·refine Ah hs (Ai Aw rfl (qm rfl (qL Bf AQ rfl (FO (AV 2010 _ _ rfl rfl) (FO (AV 2011 _ _ rfl rfl) (FO (AV 2012 _ _ rfl rfl) (EB FV AQ CM rfl ?_)))))))
     refine GJ h fun c22 h => EL (f := CZ) FV FV AQ YL CM c22 rfl (qa rfl (Ac (Ai Aw rfl (qm rfl (Bp rfl (qe rfl ?_))))))
     exact sn [(2001, 60)] h
   ·refine Bh ?_
    exact sn [(2002, 2001)] h
  ·refine Ah hs (wq rfl (qm rfl (qe rfl ?_)))
   obtain rfl := sj h
   refine Ah (sm [(1000, 2002)] [(2, oD (.own 1000))] [(1000, .vec 3 (v8.map CZ))] rfl rfl) (As ?_)
   exact ⟨⟨[_], tm, rfl⟩, ⟨rfl, tv⟩⟩
theorem EF (N : Nat) (p0 : Ab) (p1 : Int) (r : Int) (h : Ca N p0 p1 = some r) : Au zA 57 [.e (.agg (AH p0)), iD p1] [] (pD (.val (.int .u8 r))) := by
 unfold Ca at h
 refine cw (n := 27) (rs := [.tmp 4]) Tryz.func57 fun w0 S0 => ?_
 refine wq rfl (qb rfl (qa rfl (Ac (wq rfl (qf Dj rfl (ql Bi rfl (qm rfl ?_)))))))
 refine BY h fun v1 a1 b1 h => qi AF CQ a1 (Aj b1) rfl (qk A8 rfl ?_)
 refine GJ h fun c2 h => Kt rfl c2 (qe rfl ?_)
 refine AI h (fun v3 => mk [(5, pD (.val (.int .u8 v3)))] []) (fun j3 h => ?_) (fun v3 h => ?_)
 ·refine wq rfl (qf BU rfl (ql Bi rfl (qm rfl ?_)))
  refine BY h fun v4 a4 b4 h => qi AF CQ a4 (Aj b4) rfl (qk A8 rfl (Eh rfl (Ac ?_)))
  refine Bb h (fun h => ?_) fun h => ?_
  ·refine Ai Aw rfl (qm rfl (qf BU rfl (ql Bi rfl (qm rfl ?_))))
   refine BY h fun v6 a6 b6 h => qi AF CQ a6 (Aj b6) rfl (qk A8 rfl ?_)
   refine GJ h fun c7 h => Kt rfl c7 (Yx rfl (qe rfl ?_))
   exact sn [] h
  ·refine Al ?_
   exact sn [] h
 ·refine wq rfl (qm rfl (qe rfl ?_))
  obtain rfl := sj h
  refine Ah (sm [] [(4, pD (.val (.int .u8 v3)))] [] rfl rfl) (As ?_)
  exact ⟨⟨[_], tm, rfl⟩, tv⟩
theorem FG (N : Nat) (p0 : Int) (p1 : Int) (r : Bool) (h : Cm N p0 p1 = some r) : Au zA 79 [pD (.val (.int .u8 p0)), iD p1] [] (bD r) := by
 unfold Cm at h
 refine cw (n := 10) (rs := [.tmp 4]) Tryz.func79 fun w0 S0 => ?_
 refine wq rfl (qa rfl (Ac (wq rfl (qw 2 rfl ?_))))
 refine GJ h fun c1 h => L6 rfl c1 (RM rfl (AN rfl (qe rfl ?_)))
 obtain rfl := sj h
 refine Ah (sm [] [(4, bD (((Ho .u8 ((Gy .u8 p0 p1)) 1) == 1)))] [] rfl rfl) (As ?_)
 exact ⟨⟨[_], tm, rfl⟩, tv⟩
theorem Jc (N : Nat) (p0 : Aa) (p1 : Ab) (r : (List Az)) (h : D5 N p0 p1 = some r) : Au zA 187 [.e (.agg (Ag p0)), .e (.agg (AH p1))] [(3, r.map CR)] (oD (.own 0)) := by
 unfold D5 at h
 refine cw (n := 111) (rs := [.tmp 4]) Tryz.func187 fun w0 S0 => ?_
 refine wq rfl (qb rfl (qb rfl (qa rfl (Ac (wq rfl (qa rfl (Ac (wp rfl (qe rfl ?_)))))))))
 refine AY (L := CV N p0 p1) h (fun v1 => mk [(2, oD (.ptr 2 0)), (3, oD (.ptr 3 0)), (5, oD (.own 2001)), (6, iD v1.2)] [(2, .box (Ag p0)), (3, .box (AH p1)), (2001, .vec 3 (v1.1.map CR))]) (fun v2 => mk [(5, oD (.own 2002))] [(2002, .vec 3 (v2.map CR))]) (fun _ _ => rfl) ((Bl 5 2013 3 rfl rfl rfl).trans (sm [(2001, 2013)] _ _ rfl rfl)) (fun j1 n1 v1 h => ?_) (fun v2 s h hs => ?_)
 ·unfold CV at h
  refine wp rfl (qm rfl (qf CS rfl (ql Hy rfl (AU Ev rfl (A9 rfl (Ac ?_))))))
  refine Bb h (fun h => ?_) fun h => ?_
  ·refine Al (A5 (AX (wq rfl (qf CS rfl (ql Hy rfl (qm rfl ?_))))))
   refine BY h fun v4 a4 b4 h => qi Ev CG a4 (Aj b4) rfl (qK FK CG rfl (qz JD rfl (qs CG rfl (Ac (wq rfl (qL Bf AQ rfl (qf CB rfl (ql A8 rfl ?_))))))))
   refine BF h fun v5 a5 h => Av [] (EF N p1 v4.gM v5 a5) YB rfl (qe rfl ?_)
   refine AI h (fun v6 => mk [(2, oD (.ptr 2 0)), (3, oD (.ptr 3 0)), (5, oD (.own 2003)), (6, iD v1.2), (7, oD (.ptr 7 0)), (8, pD (.val (.int .u8 v6)))] [(2, .box (Ag p0)), (3, .box (AH p1)), (7, .box (BJ v4)), (2003, .vec 3 (v1.1.map CR))]) (fun j6 h => ?_) (fun v6 h => ?_)
   ·refine wq rfl (qL FK CG rfl ?_)
    refine BF h fun v7 a7 h => Av [] (Cc N v4 v7 a7) QL rfl (Ac ?_)
    refine Bb h (fun h => ?_) fun h => ?_
    ·refine Ai Aw rfl (qf Dm rfl (ql Il rfl (qm rfl ?_)))
     refine BY h fun v9 a9 b9 h => qi Ei EP a9 (Aj b9) rfl (qk IN rfl (qe rfl ?_))
     exact sn [(2003, 2001)] h
    ·refine Al ?_
     exact sn [(2003, 2001)] h
   ·refine wq rfl (qe rfl ?_)
    refine AY (L := BT N p0 p1 v1 v4 v6) h (fun v10 => mk [(2, oD (.ptr 2 0)), (3, oD (.ptr 3 0)), (5, oD (.own 2004)), (6, iD v1.2), (7, oD (.ptr 7 0)), (8, pD (.val (.int .u8 v6))), (9, iD v10.2)] [(2, .box (Ag p0)), (3, .box (AH p1)), (7, .box (BJ v4)), (2004, .vec 3 (v10.1.map CR))]) (fun v11 => mk [(2, oD (.ptr 2 0)), (3, oD (.ptr 3 0)), (5, oD (.own 2005)), (6, iD v1.2)] [(2, .box (Ag p0)), (3, .box (AH p1)), (2005, .vec 3 (v11.map CR))]) (fun _ _ => rfl) (sm [(2004, 2003)] _ _ rfl rfl) (fun j10 n10 v10 h => ?_) (fun v11 s h hs => ?_)
    ·unfold BT at h
     refine wp rfl (qm rfl (qf Bx rfl (ql Bi rfl (qf CB rfl (ql A8 rfl ?_)))))
     refine BY h fun v12 a12 b12 h => qi AF CQ a12 (Aj b12) rfl (qk A8 rfl (A9 rfl (Ac ?_)))
     refine Bb h (fun h => ?_) fun h => ?_
     ·refine Al ?_
      refine AI h (fun v14 => mk [(2, oD (.ptr 2 0)), (3, oD (.ptr 3 0)), (5, oD (.own 2006)), (6, iD v1.2), (7, oD (.ptr 7 0)), (8, pD (.val (.int .u8 v6))), (9, iD v10.2)] [(2, .box (Ag p0)), (3, .box (AH p1)), (7, .box (BJ v4)), (2006, .vec 3 (v14.map CR))]) (fun j14 h => ?_) (fun v14 h => ?_)
      ·refine AX (wp rfl (qw 2 rfl ?_))
       refine BF h fun v15 a15 h => Av [] (FG N v6 v10.2 v15 a15) Yk rfl (CL rfl (Ac ?_))
       refine Bb h (fun h => ?_) fun h => ?_
       ·refine Bh ?_
        exact sn [(2006, 2004)] h
       ·refine Al (wq rfl (qa rfl (Ac (wp rfl (qe rfl ?_)))))
        refine AY (L := BA N p0 p1 v1 v4 v10) h (fun v17 => mk [(2, oD (.ptr 2 0)), (3, oD (.ptr 3 0)), (5, oD (.own 2007)), (6, iD v1.2), (7, oD (.ptr 7 0)), (8, pD (.val (.int .u8 v6))), (9, iD v10.2), (10, bD v17.2.1), (11, iD v17.2.2)] [(2, .box (Ag p0)), (3, .box (AH p1)), (7, .box (BJ v4)), (2007, .vec 3 (v17.1.map CR))]) (fun v18 => mk [(2, oD (.ptr 2 0)), (3, oD (.ptr 3 0)), (5, oD (.own 2008)), (6, iD v1.2), (7, oD (.ptr 7 0)), (8, pD (.val (.int .u8 v6))), (9, iD v10.2), (10, bD v18.2)] [(2, .box (Ag p0)), (3, .box (AH p1)), (7, .box (BJ v4)), (2008, .vec 3 (v18.1.map CR))]) (fun _ _ => rfl) (sm [(2007, 2004)] _ _ rfl rfl) (fun j17 n17 v17 h => ?_) (fun v18 s h hs => ?_)
        ·unfold BA at h
         refine wp rfl (qm rfl (qf Bx rfl (ql Bi rfl (qf Gx rfl (ql A8 rfl ?_)))))
         refine BY h fun v19 a19 b19 h => qi AF CQ a19 (Aj b19) rfl (qk A8 rfl (A9 rfl (Ac ?_)))
         refine Bb h (fun h => ?_) fun h => ?_
         ·refine Al ?_
          refine AI h (fun v21 => mk [(2, oD (.ptr 2 0)), (3, oD (.ptr 3 0)), (5, oD (.own 2009)), (6, iD v1.2), (7, oD (.ptr 7 0)), (8, pD (.val (.int .u8 v6))), (9, iD v10.2), (10, bD v21.2), (11, iD v17.2.2)] [(2, .box (Ag p0)), (3, .box (AH p1)), (7, .box (BJ v4)), (2009, .vec 3 (v21.1.map CR))]) (fun j21 h => ?_) (fun v21 h => ?_)
          ·refine AX (wp rfl (qL Bf AQ rfl (qf Gx rfl (ql A8 rfl ?_))))
           refine BF h fun v22 a22 h => Av [] (EF N p1 v4.gW v22 a22) YB rfl (qm rfl ?_)
           refine BF h fun v23 a23 h => Av [] (FG N v22 v17.2.2 v23 a23) Yk rfl (CL rfl (Ac ?_))
           refine Bb h (fun h => ?_) fun h => ?_
           ·refine Bh ?_
            exact sn [(2009, 2007)] h
           ·refine Al ?_
            refine AI h (fun v25 => mk [(2, oD (.ptr 2 0)), (3, oD (.ptr 3 0)), (5, oD (.own 2010)), (6, iD v1.2), (7, oD (.ptr 7 0)), (8, pD (.val (.int .u8 v6))), (9, iD v10.2), (10, bD v25), (11, iD v17.2.2)] [(2, .box (Ag p0)), (3, .box (AH p1)), (7, .box (BJ v4)), (2010, .vec 3 (v17.1.map CR))]) (fun j25 h => ?_) (fun v25 h => ?_)
            ·refine Ai Aw rfl (qw 2 rfl ?_)
             refine Dc 67 h rfl (fun h => ?_) fun h => ?_
             ·refine qw 8 rfl (qp rfl (qe rfl ?_))
              exact sn [(2010, 2007)] h
             ·refine qf IP rfl (ql In rfl (qm rfl ?_))
              refine BY h fun v27 a27 b27 h => qi FA Lf a27 (Aj b27) rfl (qk MK rfl (qm rfl ?_))
              refine BY h fun v28 a28 b28 h => qi Gl S6 a28 (Aj b28) rfl (qk Uw rfl (qp rfl (qe rfl ?_)))
              exact sn [(2010, 2007)] h
            ·refine AI h (fun v29 => mk [(2, oD (.ptr 2 0)), (3, oD (.ptr 3 0)), (5, oD (.own 2011)), (6, iD v1.2), (7, oD (.ptr 7 0)), (8, pD (.val (.int .u8 v6))), (9, iD v10.2), (10, bD v25), (11, iD v17.2.2), (90, bD v29)] [(2, .box (Ag p0)), (3, .box (AH p1)), (7, .box (BJ v4)), (2011, .vec 3 (v17.1.map CR))]) (fun j29 h => ?_) (fun v29 h => ?_)
             ·refine Ai Aw rfl (qf KH rfl (ql Uw rfl (CL rfl (qm rfl ?_))))
              refine Dc 80 h rfl (fun h => ?_) fun h => ?_
              ·refine qf IP rfl (ql In rfl (qm rfl ?_))
               refine BY h fun v31 a31 b31 h => qi FA Lf a31 (Aj b31) rfl (qk MK rfl (qm rfl ?_))
               refine BY h fun v32 a32 b32 h => qi Gl S6 a32 (Aj b32) rfl (qk Uw rfl (CL rfl (qp rfl (Ac ?_))))
               exact sn [(2011, 2010)] h
              ·refine qw 9 rfl (qp rfl (Ac ?_))
               exact sn [(2011, 2010)] h
             ·refine Bb h (fun h => ?_) fun h => ?_
              ·refine Ai Aw rfl (qw 4 rfl (AS I2 OJ rfl (EB Lb Gw I2 rfl ?_)))
               refine GJ h fun c34 h => EL (f := CR) Lb Lb Gw YC I2 c34 rfl (qe rfl ?_)
               exact sn [(2009, 97)] h
              ·refine Al ?_
               exact sn [(2009, 2011)] h
          ·refine Ai Aw rfl (qm rfl (Bp rfl (qe rfl ?_)))
           exact sn [(2007, 2009)] h
         ·refine Bh ?_
          exact sn [(2008, 2007)] h
        ·refine Ah hs ?_
         refine AI h (fun v35 => mk [(2, oD (.ptr 2 0)), (3, oD (.ptr 3 0)), (5, oD (.own 2012)), (6, iD v1.2), (7, oD (.ptr 7 0)), (8, pD (.val (.int .u8 v6))), (9, iD v10.2), (103, bD v35)] [(2, .box (Ag p0)), (3, .box (AH p1)), (7, .box (BJ v4)), (2012, .vec 3 (v18.1.map CR))]) (fun j35 h => ?_) (fun v35 h => ?_)
         ·refine Ai Aw rfl (qf KH rfl (ql Uw rfl (qm rfl ?_)))
          refine Dc 100 h rfl (fun h => ?_) fun h => ?_
          ·refine qm rfl (CL rfl (qp rfl (Ac ?_)))
           exact sn [(2012, 2008)] h
          ·refine qw 2 rfl (qp rfl (Ac ?_))
           exact sn [(2012, 2008)] h
         ·refine Bb h (fun h => ?_) fun h => ?_
          ·refine Ai Aw rfl (qw 3 rfl (AS I2 OJ rfl (EB Lb Gw I2 rfl ?_)))
           refine GJ h fun c38 h => EL (f := CR) Lb Lb Gw YC I2 c38 rfl (qe rfl ?_)
           exact sn [(2006, 109)] h
          ·refine Al ?_
           exact sn [(2006, 2012)] h
      ·refine Ai Aw rfl (qm rfl (Bp rfl (qe rfl ?_)))
       exact sn [(2004, 2006)] h
     ·refine Bh ?_
      exact sn [(2005, 2004)] h
    ·refine Ah hs (Ai Aw rfl (qm rfl (Bp rfl (qe rfl ?_))))
     exact sn [(2001, 2005)] h
  ·refine Bh ?_
   exact sn [(2002, 2001)] h
 ·refine Ah hs (wq rfl (qm rfl (qe rfl ?_)))
  obtain rfl := sj h
  refine Ah (sm [(1000, 2002)] [(4, oD (.own 1000))] [(1000, .vec 3 (v2.map CR))] rfl rfl) (As ?_)
  exact ⟨⟨[_], tm, rfl⟩, ⟨rfl, tv⟩⟩
theorem LE (N : Nat) (p0 : Aa) (p1 : Ab) (r : Bool) (h : EH N p0 p1 = some r) : Au zA 164 [.e (.agg (Ag p0)), .e (.agg (AH p1))] [] (bD r) := by
 unfold EH at h
 refine cw (n := 10) (rs := [.tmp 4]) Tryz.func164 fun w0 S0 => ?_
 refine wq rfl (qb rfl (qb rfl (qa rfl (Ac (wq rfl (qL BZ BB rfl (qL Bf AQ rfl ?_)))))))
 refine BF h fun v1 a1 h => Av [2001] (Jc N p0 p1 v1 a1) aV rfl (GG Lb rfl (AN rfl (qe rfl ?_)))
 obtain rfl := sj h
 refine Ah (sm [] [(4, bD (((v1.length : Int) == 0)))] [] rfl rfl) (As ?_)
 exact ⟨⟨[_], tm, rfl⟩, tv⟩
theorem Gj (N : Nat) (p0 : Aa) (p1 : Ab) (r : Bool) (h : CW N p0 p1 = some r) : Au zA 131 [.e (.agg (Ag p0)), .e (.agg (AH p1))] [] (bD r) := by
 unfold CW at h
 refine cw (n := 22) (rs := [.tmp 4]) Tryz.func131 fun w0 S0 => ?_
 refine wq rfl (qb rfl (qb rfl (qa rfl (Ac (wq rfl (qL Bf AQ rfl ?_))))))
 refine BF h fun v1 a1 h => Av [2001] (J6 N p1 v1 a1) bg rfl (qa rfl (Ac (wp rfl (qe rfl ?_))))
 refine AY (L := Co N p0 v1) h (fun v2 => mk [(2, oD (.ptr 2 0)), (5, oD (.own 2002)), (6, iD v2)] [(2, .box (Ag p0)), (2002, .vec 3 (v1.map CZ))]) (fun v3 => mk [] []) (fun _ _ => rfl) (sm [(2002, 2001)] _ _ rfl rfl) (fun j2 n2 v2 h => ?_) (fun v3 s h hs => ?_)
 ·unfold Co at h
  refine wp rfl (qw 2 rfl (GG FV rfl (A9 rfl (Ac ?_))))
  refine Bb h (fun h => ?_) fun h => ?_
  ·refine Al (A5 (AX (wq rfl (qL BZ BB rfl (qw 2 rfl ?_)))))
   refine BY h fun v5 a5 b5 h => qI FV AQ a5 (Aj b5) rfl (qJ Bf AQ (Aj b5) rfl ?_)
   refine BF h fun v6 a6 h => Av [] (LE N p0 v5 v6 a6) ey rfl (CL rfl (AJ (by kernel_rfl) ?_))
   refine Bb h (fun h => ?_) fun h => ?_
   ·refine wq rfl (qe rfl ?_)
    obtain rfl := sj h
    refine Ah (sm [] [(4, bD false)] [] rfl rfl) (As ?_)
    exact ⟨⟨[_], tm, rfl⟩, tv⟩
   ·refine Al (Ai Aw rfl (qm rfl (Bp rfl (qe rfl ?_))))
    exact sn [] h
  ·refine Bh ?_
   exact sn [] h
 ·refine Ah hs (wq rfl (qe rfl ?_))
  obtain rfl := sj h
  refine Ah (sm [] [(4, bD true)] [] rfl rfl) (As ?_)
  exact ⟨⟨[_], tm, rfl⟩, tv⟩
theorem Ep (N : Nat) (p0 : Aa) (p1 : Ab) (r : Int) (h : Ce N p0 p1 = some r) : Au zA 22 [.e (.agg (Ag p0)), .e (.agg (AH p1))] [] (iD r) := by
 unfold Ce at h
 refine cw (n := 154) (rs := [.tmp 4]) Tryz.func22 fun w0 S0 => ?_
 refine wq rfl (qb rfl (qb rfl (qa rfl (Ac (wp rfl (qL BZ BB rfl ?_))))))
 refine BF h fun v1 a1 h => Av [] (Em N p0 v1 a1) Y4 rfl (qa rfl (Ac (wq rfl (qm rfl (BH rfl (Ac ?_))))))
 refine Bb h (fun h => ?_) fun h => ?_
 ·refine wq rfl (qm rfl (qe rfl ?_))
  obtain rfl := sj h
  refine Ah (sm [] [(4, iD v1)] [] rfl rfl) (As ?_)
  exact ⟨⟨[_], tm, rfl⟩, tv⟩
 ·refine Al (wq rfl (qf Bx rfl (ql Bi rfl (AU AF rfl (qa rfl (Ac (A5 ?_)))))))
  refine AI h (fun v3 => mk [(2, oD (.ptr 2 0)), (3, oD (.ptr 3 0)), (6, iD ((p0.gH.length : Int))), (39, bD v3)] [(2, .box (Ag p0)), (3, .box (AH p1))]) (fun j3 h => ?_) (fun v3 h => ?_)
  ·refine Ai Aw rfl (qf Dj rfl (ql Bi rfl (AU AF rfl (qm rfl (BH rfl (qm rfl ?_))))))
   refine Dc 24 h rfl (fun h => ?_) fun h => ?_
   ·refine qw 5 rfl (qp rfl (qw 8 rfl (qp rfl (Ac ?_))))
    exact sn [] h
   ·refine qf BU rfl (ql Bi rfl (AU AF rfl (qm rfl (BH rfl (qp rfl (qm rfl ?_))))))
    refine Dc 31 h rfl (fun h => ?_) fun h => ?_
    ·refine qw 7 rfl (qp rfl (Ac ?_))
     exact sn [] h
    ·refine qf Dm rfl (ql Il rfl (AU Ei rfl (qf CS rfl (ql Hy rfl (AU Ev rfl (BH rfl (qp rfl (Ac ?_))))))))
     exact sn [] h
  ·refine Bb h (fun h => ?_) fun h => ?_
   ·refine wq rfl (qe rfl ?_)
    obtain rfl := sj h
    refine Ah (sm [] [(4, iD 6)] [] rfl rfl) (As ?_)
    exact ⟨⟨[_], tm, rfl⟩, tv⟩
   ·refine Al (wp rfl (qe rfl ?_))
    refine AY (L := Cu N p0 p1) h (fun v7 => mk [(2, oD (.ptr 2 0)), (3, oD (.ptr 3 0)), (6, iD ((p0.gH.length : Int))), (7, iD v7)] [(2, .box (Ag p0)), (3, .box (AH p1))]) (fun v8 => mk [(2, oD (.ptr 2 0)), (3, oD (.ptr 3 0))] [(2, .box (Ag p0)), (3, .box (AH p1))]) (fun _ _ => rfl) (sm [] _ _ rfl rfl) (fun j7 n7 v7 h => ?_) (fun v8 s h hs => ?_)
    ·unfold Cu at h
     refine wp rfl (qw 2 rfl (A9 rfl (Ac ?_)))
     refine Bb h (fun h => ?_) fun h => ?_
     ·refine Al (A5 (AX (A5 ?_)))
      refine AI h (fun v10 => mk [(2, oD (.ptr 2 0)), (3, oD (.ptr 3 0)), (6, iD ((p0.gH.length : Int))), (7, iD v7), (84, bD v10)] [(2, .box (Ag p0)), (3, .box (AH p1))]) (fun j10 h => ?_) (fun v10 h => ?_)
      ·refine Ai Aw rfl (qf Dj rfl (ql Bi rfl (qm rfl ?_)))
       refine BY h fun v11 a11 b11 h => qi AF CQ a11 (Aj b11) rfl (qk A8 rfl (A9 rfl (qm rfl ?_)))
       refine Dc 51 h rfl (fun h => ?_) fun h => ?_
       ·refine qw 11 rfl (qp rfl (qw 7 rfl (qp rfl (qw 12 rfl (qp rfl (AJ (by kernel_rfl) ?_))))))
        exact sn [] h
       ·refine qf Dj rfl (ql Bi rfl (qm rfl ?_))
        refine BY h fun v13 a13 b13 h => qi AF CQ a13 (Aj b13) rfl (qk A8 rfl (qf Bx rfl (ql Bi rfl (qm rfl ?_))))
        refine BY h fun v14 a14 b14 h => qi AF CQ a14 (Aj b14) rfl (qk A8 rfl (Eh rfl (qp rfl (qm rfl ?_))))
        refine Dc 64 h rfl (fun h => ?_) fun h => ?_
        ·refine qw 6 rfl (qp rfl (qw 12 rfl (qp rfl (AJ (by kernel_rfl) ?_))))
         exact sn [] h
        ·refine qf BU rfl (ql Bi rfl (qm rfl ?_))
         refine BY h fun v16 a16 b16 h => qi AF CQ a16 (Aj b16) rfl (qk A8 rfl (A9 rfl (qp rfl (qm rfl ?_))))
         refine Dc 72 h rfl (fun h => ?_) fun h => ?_
         ·refine qw 11 rfl (qp rfl (AJ (by kernel_rfl) ?_))
          exact sn [] h
         ·refine qf BU rfl (ql Bi rfl (qm rfl ?_))
          refine BY h fun v18 a18 b18 h => qi AF CQ a18 (Aj b18) rfl (qk A8 rfl (qf Bx rfl (ql Bi rfl (qm rfl ?_))))
          refine BY h fun v19 a19 b19 h => qi AF CQ a19 (Aj b19) rfl (qk A8 rfl (Eh rfl (qp rfl (AJ (by kernel_rfl) ?_))))
          exact sn [] h
      ·refine Bb h (fun h => ?_) fun h => ?_
       ·refine wq rfl (qe rfl ?_)
        obtain rfl := sj h
        refine Ah (sm [] [(4, iD 7)] [] rfl rfl) (As ?_)
        exact ⟨⟨[_], tm, rfl⟩, tv⟩
       ·refine Al (wq rfl (qf Dj rfl (ql Bi rfl (qm rfl ?_))))
        refine BY h fun v21 a21 b21 h => qi AF CQ a21 (Aj b21) rfl (qk A8 rfl (qf BU rfl (ql Bi rfl (qm rfl ?_))))
        refine BY h fun v22 a22 b22 h => qi AF CQ a22 (Aj b22) rfl (qk A8 rfl (AN rfl (AJ (by kernel_rfl) ?_)))
        refine Bb h (fun h => ?_) fun h => ?_
        ·refine wq rfl (qe rfl ?_)
         obtain rfl := sj h
         refine Ah (sm [] [(4, iD 1)] [] rfl rfl) (As ?_)
         exact ⟨⟨[_], tm, rfl⟩, tv⟩
        ·refine Al (Ai Aw rfl (qm rfl (Bp rfl (qe rfl ?_))))
         exact sn [] h
     ·refine Bh ?_
      exact sn [] h
    ·refine Ah hs (wp rfl (qe rfl ?_))
     refine AY (L := Cg N p0 p1) h (fun v24 => mk [(2, oD (.ptr 2 0)), (3, oD (.ptr 3 0)), (8, iD v24)] [(2, .box (Ag p0)), (3, .box (AH p1))]) (fun v25 => mk [] []) (fun _ _ => rfl) (sm [] _ _ rfl rfl) (fun j24 n24 v24 h => ?_) (fun v25 s h hs => ?_)
     ·unfold Cg at h
      refine wp rfl (qm rfl (qf CS rfl (ql Hy rfl (AU Ev rfl (A9 rfl (Ac ?_))))))
      refine Bb h (fun h => ?_) fun h => ?_
      ·refine Al (A5 (AX (wq rfl (qf CS rfl (ql Hy rfl (qm rfl ?_))))))
       refine BY h fun v27 a27 b27 h => qi Ev CG a27 (Aj b27) rfl (qK FK CG rfl (qz JD rfl (qs CG rfl (Ac (wq rfl (qf Bx rfl (ql Bi rfl (qf CB rfl (ql A8 rfl ?_)))))))))
       refine BY h fun v28 a28 b28 h => qi AF CQ a28 (Aj b28) rfl (qk A8 rfl ?_)
       refine GJ h fun c29 h => Kt rfl c29 (Kx rfl (qe rfl ?_))
       refine AI h (fun v30 => mk [(2, oD (.ptr 2 0)), (3, oD (.ptr 3 0)), (8, iD v24), (153, bD v30)] [(2, .box (Ag p0)), (3, .box (AH p1))]) (fun j30 h => ?_) (fun v30 h => ?_)
       ·refine Ai Aw rfl (qL FK CG rfl ?_)
        refine BF h fun v31 a31 h => Av [] (Cc N v27 v31 a31) QL rfl (CL rfl (qm rfl ?_))
        refine Dc 119 h rfl (fun h => ?_) fun h => ?_
        ·refine qf Dm rfl (ql Il rfl (qm rfl ?_))
         refine BY h fun v33 a33 b33 h => qi Ei EP a33 (Aj b33) rfl (qk IN rfl (BH rfl (qp rfl (qm rfl ?_))))
         refine Dc 127 h rfl (fun h => ?_) fun h => ?_
         ·refine qw 3 rfl (qu rfl (qu rfl (qu rfl (qu rfl (qu rfl (qu rfl (qu rfl (qu rfl (qu rfl (qu rfl (qu rfl (qu rfl (qu rfl (qu rfl (qu rfl (qu rfl (qu rfl (qu rfl (qu rfl (qu rfl (qu rfl (qn rfl (qp rfl (AJ (by kernel_rfl) ?_))))))))))))))))))))))))
          exact sn [] h
         ·refine qL FK CG rfl ?_
          refine BF h fun v35 a35 h => Av [] (Cc N v27 v35 a35) QL rfl (qm rfl ?_)
          refine Dc 130 h rfl (fun h => ?_) fun h => ?_
          ·refine qf Dm rfl (ql Il rfl (qm rfl ?_))
           refine BY h fun v37 a37 b37 h => qi Ei EP a37 (Aj b37) rfl (qk IN rfl (qm rfl (Js rfl (BH rfl (qm rfl ?_)))))
           refine Dc 139 h rfl (fun h => ?_) fun h => ?_
           ·refine qw 11 rfl (qp rfl (qp rfl (qp rfl (AJ (by kernel_rfl) ?_))))
            exact sn [] h
           ·refine qL Bf AQ rfl (qf CB rfl (ql A8 rfl ?_))
            refine BF h fun v39 a39 h => Av [] (EF N p1 v27.gM v39 a39) YB rfl (qf Dm rfl (ql Il rfl (qm rfl ?_)))
            refine BY h fun v40 a40 b40 h => qi Ei EP a40 (Aj b40) rfl (qk IN rfl (Js rfl (BH rfl (qp rfl (qp rfl (qp rfl (AJ (by kernel_rfl) ?_)))))))
            exact sn [] h
          ·refine qw 9 rfl (qu rfl (qu rfl (qu rfl (qu rfl (qu rfl (qu rfl (qu rfl (qu rfl (qu rfl (qu rfl (qu rfl (qn rfl (qp rfl (qp rfl (AJ (by kernel_rfl) ?_)))))))))))))))
           exact sn [] h
        ·refine qw 6 rfl (qp rfl (qm rfl (qL FK CG rfl ?_)))
         refine BF h fun v41 a41 h => Av [] (Cc N v27 v41 a41) QL rfl (qm rfl ?_)
         refine Dc 130 h rfl (fun h => ?_) fun h => ?_
         ·refine qf Dm rfl (ql Il rfl (qm rfl ?_))
          refine BY h fun v43 a43 b43 h => qi Ei EP a43 (Aj b43) rfl (qk IN rfl (qm rfl (Js rfl (BH rfl (qm rfl ?_)))))
          refine Dc 139 h rfl (fun h => ?_) fun h => ?_
          ·refine qw 11 rfl (qp rfl (qp rfl (qp rfl (AJ (by kernel_rfl) ?_))))
           exact sn [] h
          ·refine qL Bf AQ rfl (qf CB rfl (ql A8 rfl ?_))
           refine BF h fun v45 a45 h => Av [] (EF N p1 v27.gM v45 a45) YB rfl (qf Dm rfl (ql Il rfl (qm rfl ?_)))
           refine BY h fun v46 a46 b46 h => qi Ei EP a46 (Aj b46) rfl (qk IN rfl (Js rfl (BH rfl (qp rfl (qp rfl (qp rfl (AJ (by kernel_rfl) ?_)))))))
           exact sn [] h
         ·refine qw 9 rfl (qu rfl (qu rfl (qu rfl (qu rfl (qu rfl (qu rfl (qu rfl (qu rfl (qu rfl (qu rfl (qu rfl (qn rfl (qp rfl (qp rfl (AJ (by kernel_rfl) ?_)))))))))))))))
          exact sn [] h
       ·refine Bb h (fun h => ?_) fun h => ?_
        ·refine wq rfl (qe rfl ?_)
         obtain rfl := sj h
         refine Ah (sm [] [(4, iD 1)] [] rfl rfl) (As ?_)
         exact ⟨⟨[_], tm, rfl⟩, tv⟩
        ·refine Al (Ai Aw rfl (qm rfl (Bp rfl (qe rfl ?_))))
         exact sn [] h
      ·refine Bh ?_
       exact sn [] h
     ·refine Ah hs (wq rfl (qe rfl ?_))
      obtain rfl := sj h
      refine Ah (sm [] [(4, iD 0)] [] rfl rfl) (As ?_)
      exact ⟨⟨[_], tm, rfl⟩, tv⟩
theorem Mt (N : Nat) (p0 : Ae) (r : Bool) (h : EW N p0 = some r) : Au zA 156 [.e (.agg (Dd p0))] [] (bD r) := by
 unfold EW at h
 refine cw (n := 31) (rs := [.tmp 2]) Tryz.func156 fun w0 S0 => ?_
 refine wq rfl (qb rfl (qe rfl ?_))
 refine AI h (fun v1 => mk [(2, bD v1)] []) (fun j1 h => ?_) (fun v1 h => ?_)
 ·refine Ai Aw rfl (qf DK rfl (ql A8 rfl (Eh rfl (qm rfl ?_))))
  refine Dc 6 h rfl (fun h => ?_) fun h => ?_
  ·refine qf DK rfl (ql A8 rfl (TR rfl (qp rfl (qm rfl ?_))))
   refine Dc 11 h rfl (fun h => ?_) fun h => ?_
   ·refine qf Db rfl (ql A8 rfl (Eh rfl (qp rfl (qm rfl ?_))))
    refine Dc 16 h rfl (fun h => ?_) fun h => ?_
    ·refine qf HB rfl (ql A8 rfl (Eh rfl (qp rfl (qm rfl ?_))))
     refine Dc 21 h rfl (fun h => ?_) fun h => ?_
     ·refine qf DK rfl (ql A8 rfl (AN rfl (qm rfl ?_)))
      refine Dc 25 h rfl (fun h => ?_) fun h => ?_
      ·refine qw 3 rfl (qp rfl (qp rfl (qe rfl ?_)))
       exact sn [] h
      ·refine qf HB rfl (ql A8 rfl (AN rfl (qp rfl (qp rfl (qe rfl ?_)))))
       exact sn [] h
     ·refine qw 4 rfl (qu rfl (qu rfl (qu rfl (qn rfl (qp rfl (qe rfl ?_))))))
      exact sn [] h
    ·refine qw 3 rfl (qp rfl (qw 5 rfl (qu rfl (qu rfl (qu rfl (qn rfl (qp rfl (qe rfl ?_))))))))
     exact sn [] h
   ·refine qw 3 rfl (qp rfl (qw 4 rfl (qp rfl (qw 5 rfl (qu rfl (qu rfl (qu rfl (qn rfl (qp rfl (qe rfl ?_))))))))))
    exact sn [] h
  ·refine qw 3 rfl (qp rfl (qw 4 rfl (qp rfl (qw 4 rfl (qp rfl (qw 5 rfl (qu rfl (qu rfl (qu rfl (qn rfl (qp rfl (qe rfl ?_))))))))))))
   exact sn [] h
 ·obtain rfl := sj h
  refine Ah (sm [] [(2, bD v1)] [] rfl rfl) (As ?_)
  exact ⟨⟨[_], tm, rfl⟩, tv⟩
theorem Fk (N : Nat) (p0 : Aa) (p1 : Ab) (p2 : Ae) (r : Ab × Bool) (h : Bu N p0 p1 p2 = some r) : Au zA 76 [.e (.agg (Ag p0)), .e (.agg (AH p1)), .e (.agg (Dd p2))] [(1, r.1.gI.map Aq), (1, r.1.gF.map Aq), (1, r.1.gG.map Cy)] (.tup [.agg [.own 0, .own 1, .own 2], .one (.pure (.val (.bool r.2)))]) := by
 unfold Bu at h
 refine cw (n := 201) (rs := [.cell 6 40, .tmp 7]) Tryz.func76 fun w0 S0 => ?_
 refine wq rfl (qb rfl (qb rfl (qb rfl (qz CM rfl (qa rfl (Ac (wq rfl (EB AF CQ MD rfl (qf Dj rfl (ql Bi rfl ?_))))))))))
 refine GJ h fun c1 h => K8 (f := Aq) AF AF CQ Ok MD (fun _ => rfl) c1 rfl (EB AF CQ MD rfl (qf BU rfl (ql Bi rfl ?_)))
 refine GJ h fun c2 h => K8 (f := Aq) AF AF CQ Ok MD (fun _ => rfl) c2 rfl (EB Ei EP NH rfl (qf Dm rfl (ql Il rfl ?_)))
 refine GJ h fun c3 h => K8 (f := Cy) Ei Ei EP PF NH (fun _ => rfl) c3 rfl (AS CM G1 rfl (qz CM rfl (qs AQ rfl (AJ (by kernel_rfl) (wq rfl (qf Db rfl (ql A8 rfl (qe rfl ?_))))))))
 refine AI h (fun v4 => mk [(6, oD (.ptr 6 0)), (8, oD (.ptr 8 0))] [(6, .box [.pure (.nil0), .pure (.nil0), .pure (.nil0)]), (8, .box [.own 2001, .own 2002, .own 2003]), (2001, .vec 1 (v4.1.map Aq)), (2002, .vec 1 (v4.2.1.map Aq)), (2003, .vec 1 (v4.2.2.map Cy))]) (fun j4 h => ?_) (fun v4 h => ?_)
 ·refine wq rfl (qf DK rfl (ql A8 rfl (Ac (AX (wq rfl (AN rfl (qe rfl ?_)))))))
  refine Bb h (fun h => ?_) fun h => ?_
  ·refine A5 ?_
   refine AI h (fun v6 => mk [(3, oD (.ptr 3 0)), (5, oD (.ptr 5 0)), (6, oD (.ptr 6 0)), (8, oD (.ptr 8 0)), (9, iD p2.gL), (60, bD v6)] [(3, .box (Ag p0)), (5, .box (Dd p2)), (6, .box [.pure (.nil0), .pure (.nil0), .pure (.nil0)]), (8, .box [.own 2004, .own 2005, .own 2006]), (2004, .vec 1 (((([] : List Int)) ++ p1.gI).map Aq)), (2005, .vec 1 (((([] : List Int)) ++ p1.gF).map Aq)), (2006, .vec 1 (((([] : List Int)) ++ p1.gG).map Cy))]) (fun j6 h => ?_) (fun v6 h => ?_)
   ·refine Ai Aw rfl (qf BU rfl (ql Bi rfl (qm rfl ?_)))
    refine BY h fun v7 a7 b7 h => qi AF CQ a7 (Aj b7) rfl (qk A8 rfl (Eh rfl (qm rfl ?_)))
    refine Dc 51 h rfl (fun h => ?_) fun h => ?_
    ·refine qw 8 rfl (qp rfl (AJ (by kernel_rfl) ?_))
     exact sn [(2004, 18), (2005, 22), (2006, 26)] h
    ·refine qf HB rfl (ql A8 rfl (qf Dj rfl (ql Bi rfl (qm rfl ?_))))
     refine BY h fun v9 a9 b9 h => qi AF CQ a9 (Aj b9) rfl (qk A8 rfl (AN rfl (qp rfl (AJ (by kernel_rfl) ?_))))
     exact sn [(2004, 18), (2005, 22), (2006, 26)] h
   ·refine Bb h (fun h => ?_) fun h => ?_
    ·refine wq rfl (AS CM G1 rfl (qs AQ rfl (qe rfl ?_)))
     obtain rfl := sj h
     refine Ah ((Ay 6 0 2007 1 _ rfl rfl rfl rfl).trans ((Ay 6 1 2008 1 _ rfl rfl rfl rfl).trans ((Ay 6 2 2009 1 _ rfl rfl rfl rfl).trans (sm [(1000, 2007), (1001, 2008), (1002, 2009)] [(6, oD (.ptr 6 0)), (7, bD false)] [(6, .box [.own 1000, .own 1001, .own 1002]), (1000, .vec 1 ((([] : List Int)).map Aq)), (1001, .vec 1 ((([] : List Int)).map Aq)), (1002, .vec 1 ((([] : List Int)).map Cy))] rfl rfl)))) (As ?_)
     exact ⟨⟨[_, _], ⟨.cellN _ _ _ _ _ _ _ rfl rfl Bf AQ rfl rfl (E1 rfl), tm⟩, rfl⟩, ⟨rfl, rfl, rfl, tv⟩⟩
    ·refine Al (wq rfl (qf BU rfl (ql Bi rfl (qm rfl (qf HB rfl (ql A8 rfl ?_))))))
     refine BY h fun v11 a11 b11 h => qI AF CQ a11 (Aj b11) rfl ?_
     refine FE rfl rfl rfl rfl (Aj b11) rfl CQ rfl (Jd rfl) (FL Aq ((([] : List Int)) ++ p1.gF) _ p2.gV) ?_
     refine Ac (wq rfl (qe rfl ?_))
     refine AY (L := Ch N p0 p2) h (fun v12 => mk [(3, oD (.ptr 3 0)), (5, oD (.ptr 5 0)), (6, oD (.ptr 6 0)), (8, oD (.ptr 8 0)), (9, iD p2.gL), (10, iD v12.2)] [(3, .box (Ag p0)), (5, .box (Dd p2)), (6, .box [.pure (.nil0), .pure (.nil0), .pure (.nil0)]), (8, .box [.own 2010, .own 2011, .own 2012]), (2010, .vec 1 (((([] : List Int)) ++ p1.gI).map Aq)), (2011, .vec 1 ((((([] : List Int)) ++ p1.gF).set ((p2.gL).toNat) p2.gV).map Aq)), (2012, .vec 1 (v12.1.map Cy))]) (fun v13 => mk [(6, oD (.ptr 6 0)), (8, oD (.ptr 8 0))] [(6, .box [.pure (.nil0), .pure (.nil0), .pure (.nil0)]), (8, .box [.own 2013, .own 2014, .own 2015]), (2013, .vec 1 (((([] : List Int)) ++ p1.gI).map Aq)), (2014, .vec 1 ((((([] : List Int)) ++ p1.gF).set ((p2.gL).toNat) p2.gV).map Aq)), (2015, .vec 1 (v13.map Cy))]) (fun _ _ => rfl) (sm [(2010, 2004), (2011, 2005), (2012, 2006)] _ _ rfl rfl) (fun j12 n12 v12 h => ?_) (fun v13 s h hs => ?_)
     ·unfold Ch at h
      refine wp rfl (qm rfl (qf CS rfl (ql Hy rfl (AU Ev rfl (A9 rfl (Ac ?_))))))
      refine Bb h (fun h => ?_) fun h => ?_
      ·refine Al ?_
       refine AI h (fun v15 => mk [(3, oD (.ptr 3 0)), (5, oD (.ptr 5 0)), (6, oD (.ptr 6 0)), (8, oD (.ptr 8 0)), (9, iD p2.gL), (10, iD v12.2)] [(3, .box (Ag p0)), (5, .box (Dd p2)), (6, .box [.pure (.nil0), .pure (.nil0), .pure (.nil0)]), (8, .box [.own 2016, .own 2017, .own 2018]), (2016, .vec 1 (((([] : List Int)) ++ p1.gI).map Aq)), (2017, .vec 1 ((((([] : List Int)) ++ p1.gF).set ((p2.gL).toNat) p2.gV).map Aq)), (2018, .vec 1 (v15.map Cy))]) (fun j15 h => ?_) (fun v15 h => ?_)
       ·refine AX ?_
        refine AI h (fun v16 => mk [(3, oD (.ptr 3 0)), (5, oD (.ptr 5 0)), (6, oD (.ptr 6 0)), (8, oD (.ptr 8 0)), (9, iD p2.gL), (10, iD v12.2), (90, bD v16)] [(3, .box (Ag p0)), (5, .box (Dd p2)), (6, .box [.pure (.nil0), .pure (.nil0), .pure (.nil0)]), (8, .box [.own 2019, .own 2020, .own 2021]), (2019, .vec 1 (((([] : List Int)) ++ p1.gI).map Aq)), (2020, .vec 1 ((((([] : List Int)) ++ p1.gF).set ((p2.gL).toNat) p2.gV).map Aq)), (2021, .vec 1 (v12.1.map Cy))]) (fun j16 h => ?_) (fun v16 h => ?_)
        ·refine Ai Aw rfl (qf CS rfl (ql Hy rfl (qm rfl ?_)))
         refine BY h fun v17 a17 b17 h => qi Ev CG a17 (Aj b17) rfl (qg CB rfl (qk A8 rfl (qm rfl (AN rfl (qm rfl ?_)))))
         refine Dc 83 h rfl (fun h => ?_) fun h => ?_
         ·refine qf CS rfl (ql Hy rfl (qm rfl ?_))
          refine BY h fun v19 a19 b19 h => qi Ev CG a19 (Aj b19) rfl (qK FK CG rfl ?_)
          refine BF h fun v20 a20 h => Av [] (Cc N v19 v20 a20) QL rfl (qp rfl (Ac ?_))
          exact sn [(2019, 2010), (2020, 2011), (2021, 2012)] h
         ·refine qw 6 rfl (qp rfl (Ac ?_))
          exact sn [(2019, 2010), (2020, 2011), (2021, 2012)] h
        ·refine Bb h (fun h => ?_) fun h => ?_
         ·refine Ai Aw rfl (qf Dm rfl (ql Il rfl (qm rfl (qf Dm rfl (ql Il rfl (qm rfl ?_))))))
          refine BY h fun v22 a22 b22 h => qI Ei EP a22 (Aj b22) rfl (qj IN (Aj b22) rfl (qf HB rfl (ql A8 rfl ?_)))
          refine GJ h fun c23 h => Kt rfl c23 (Yx rfl ?_)
          refine BY h fun v24 a24 b24 h => qI Ei EP a24 (Aj b24) rfl ?_
          refine FE rfl rfl rfl rfl (Aj b24) rfl EP rfl (Jd rfl) (FL Cy v12.1 _ ((Pb .u8 v22 ((EK .u8 1 p2.gV))))) ?_
          refine AJ (by kernel_rfl) ?_
          exact sn [(2016, 2019), (2017, 2020), (2018, 2021)] h
         ·refine Al ?_
          exact sn [(2016, 2019), (2017, 2020), (2018, 2021)] h
       ·refine Ai Aw rfl (qm rfl (Bp rfl (qe rfl ?_)))
        exact sn [(2010, 2016), (2011, 2017), (2012, 2018)] h
      ·refine Bh ?_
       exact sn [(2013, 2010), (2014, 2011), (2015, 2012)] h
     ·exact YI _ h (hs.trans (sm [(2001, 2013), (2002, 2014), (2003, 2015)] _ _ rfl rfl))
  ·refine wq rfl (AN rfl (qe rfl ?_))
   refine Bb h (fun h => ?_) fun h => ?_
   ·refine wp rfl (qf BU rfl (ql Bi rfl (qm rfl ?_)))
    refine BY h fun v26 a26 b26 h => qi AF CQ a26 (Aj b26) rfl (qk A8 rfl (A9 rfl (Ac ?_)))
    refine Bb h (fun h => ?_) fun h => ?_
    ·refine wq rfl (AS CM G1 rfl (qs AQ rfl (qe rfl ?_)))
     obtain rfl := sj h
     refine Ah ((Ay 6 0 2022 1 _ rfl rfl rfl rfl).trans ((Ay 6 1 2023 1 _ rfl rfl rfl rfl).trans ((Ay 6 2 2024 1 _ rfl rfl rfl rfl).trans (sm [(1000, 2022), (1001, 2023), (1002, 2024)] [(6, oD (.ptr 6 0)), (7, bD false)] [(6, .box [.own 1000, .own 1001, .own 1002]), (1000, .vec 1 ((([] : List Int)).map Aq)), (1001, .vec 1 ((([] : List Int)).map Aq)), (1002, .vec 1 ((([] : List Int)).map Cy))] rfl rfl)))) (As ?_)
     exact ⟨⟨[_, _], ⟨.cellN _ _ _ _ _ _ _ rfl rfl Bf AQ rfl rfl (E1 rfl), tm⟩, rfl⟩, ⟨rfl, rfl, rfl, tv⟩⟩
    ·refine Al (Ai Aw rfl (qf Dj rfl (ql Bi rfl (qm rfl (qf BU rfl (ql Bi rfl (qm rfl (qf BU rfl (ql Bi rfl (qm rfl ?_))))))))))
     refine BY h fun v28 a28 b28 h => qi AF CQ a28 (Aj b28) rfl (qk A8 rfl ?_)
     refine BY h fun v29 a29 b29 h => qI AF CQ a29 (Aj b29) rfl ?_
     refine FE rfl rfl rfl rfl (Aj b29) rfl CQ rfl (Jd rfl) (FL Aq ((([] : List Int)) ++ p1.gI) _ v28) ?_
     refine BY h fun v30 a30 b30 h => qI AF CQ a30 (Aj b30) rfl ?_
     refine FE rfl rfl rfl rfl (Aj b30) rfl CQ rfl (Jd rfl) (FL Aq ((([] : List Int)) ++ p1.gF) _ ((-1))) ?_
     refine AJ (by kernel_rfl) ?_
     exact sn [(2001, 18), (2002, 22), (2003, 26)] h
   ·refine wq rfl (AN rfl (qe rfl ?_))
    refine Bb h (fun h => ?_) fun h => ?_
    ·refine wq rfl (qf CS rfl (ql Hy rfl (qm rfl ?_)))
     refine BY h fun v32 a32 b32 h => qi Ev CG a32 (Aj b32) rfl (qK FK CG rfl (qz JD rfl (qs CG rfl (Ac (wp rfl (qL FK CG rfl ?_))))))
     refine BF h fun v33 a33 h => Av [] (Cc N v32 v33 a33) QL rfl (CL rfl (Ac ?_))
     refine Bb h (fun h => ?_) fun h => ?_
     ·refine wq rfl (AS CM G1 rfl (qs AQ rfl (qe rfl ?_)))
      obtain rfl := sj h
      refine Ah ((Ay 6 0 2025 1 _ rfl rfl rfl rfl).trans ((Ay 6 1 2026 1 _ rfl rfl rfl rfl).trans ((Ay 6 2 2027 1 _ rfl rfl rfl rfl).trans (sm [(1000, 2025), (1001, 2026), (1002, 2027)] [(6, oD (.ptr 6 0)), (7, bD false)] [(6, .box [.own 1000, .own 1001, .own 1002]), (1000, .vec 1 ((([] : List Int)).map Aq)), (1001, .vec 1 ((([] : List Int)).map Aq)), (1002, .vec 1 ((([] : List Int)).map Cy))] rfl rfl)))) (As ?_)
      exact ⟨⟨[_, _], ⟨.cellN _ _ _ _ _ _ _ rfl rfl Bf AQ rfl rfl (E1 rfl), tm⟩, rfl⟩, ⟨rfl, rfl, rfl, tv⟩⟩
     ·refine Al (wq rfl (qL Bf AQ rfl (qf CB rfl (ql A8 rfl ?_))))
      refine BF h fun v35 a35 h => Av [] (EF N p1 v32.gM v35 a35) YB rfl (qa rfl (Ac (wp rfl (qf Dm rfl (ql Il rfl (qm rfl ?_))))))
      refine BY h fun v36 a36 b36 h => qi Ei EP a36 (Aj b36) rfl (qk IN rfl (qm rfl (AN rfl (Ac ?_))))
      refine Bb h (fun h => ?_) fun h => ?_
      ·refine wq rfl (AS CM G1 rfl (qs AQ rfl (qe rfl ?_)))
       obtain rfl := sj h
       refine Ah ((Ay 6 0 2028 1 _ rfl rfl rfl rfl).trans ((Ay 6 1 2029 1 _ rfl rfl rfl rfl).trans ((Ay 6 2 2030 1 _ rfl rfl rfl rfl).trans (sm [(1000, 2028), (1001, 2029), (1002, 2030)] [(6, oD (.ptr 6 0)), (7, bD false)] [(6, .box [.own 1000, .own 1001, .own 1002]), (1000, .vec 1 ((([] : List Int)).map Aq)), (1001, .vec 1 ((([] : List Int)).map Aq)), (1002, .vec 1 ((([] : List Int)).map Cy))] rfl rfl)))) (As ?_)
       exact ⟨⟨[_, _], ⟨.cellN _ _ _ _ _ _ _ rfl rfl Bf AQ rfl rfl (E1 rfl), tm⟩, rfl⟩, ⟨rfl, rfl, rfl, tv⟩⟩
      ·refine Al (wp rfl (qe rfl ?_))
       refine AY (L := BV N p0 p1 p2 v32 v35) h (fun v38 => mk [(3, oD (.ptr 3 0)), (4, oD (.ptr 4 0)), (6, oD (.ptr 6 0)), (8, oD (.ptr 8 0)), (9, iD p2.gL), (11, oD (.ptr 11 0)), (12, pD (.val (.int .u8 v35))), (13, iD v38)] [(3, .box (Ag p0)), (4, .box (AH p1)), (6, .box [.pure (.nil0), .pure (.nil0), .pure (.nil0)]), (8, .box [.own 2031, .own 2032, .own 2033]), (11, .box (BJ v32)), (2031, .vec 1 (((([] : List Int)) ++ p1.gI).map Aq)), (2032, .vec 1 (((([] : List Int)) ++ p1.gF).map Aq)), (2033, .vec 1 (((([] : List Int)) ++ p1.gG).map Cy))]) (fun v39 => mk [(6, oD (.ptr 6 0)), (8, oD (.ptr 8 0)), (9, iD p2.gL), (12, pD (.val (.int .u8 v35)))] [(6, .box [.pure (.nil0), .pure (.nil0), .pure (.nil0)]), (8, .box [.own 2034, .own 2035, .own 2036]), (2034, .vec 1 (((([] : List Int)) ++ p1.gI).map Aq)), (2035, .vec 1 (((([] : List Int)) ++ p1.gF).map Aq)), (2036, .vec 1 (((([] : List Int)) ++ p1.gG).map Cy))]) (fun _ _ => rfl) (sm [(2031, 18), (2032, 22), (2033, 26)] _ _ rfl rfl) (fun j38 n38 v38 h => ?_) (fun v39 s h hs => ?_)
       ·unfold BV at h
        refine wp rfl (qm rfl (qf Bx rfl (ql Bi rfl (qf CB rfl (ql A8 rfl ?_)))))
        refine BY h fun v40 a40 b40 h => qi AF CQ a40 (Aj b40) rfl (qk A8 rfl (A9 rfl (Ac ?_)))
        refine Bb h (fun h => ?_) fun h => ?_
        ·refine Al (A5 (AX ?_))
         refine AI h (fun v42 => mk [(3, oD (.ptr 3 0)), (4, oD (.ptr 4 0)), (6, oD (.ptr 6 0)), (8, oD (.ptr 8 0)), (9, iD p2.gL), (11, oD (.ptr 11 0)), (12, pD (.val (.int .u8 v35))), (13, iD v38), (14, bD v42)] [(3, .box (Ag p0)), (4, .box (AH p1)), (6, .box [.pure (.nil0), .pure (.nil0), .pure (.nil0)]), (8, .box [.own 2037, .own 2038, .own 2039]), (11, .box (BJ v32)), (2037, .vec 1 (((([] : List Int)) ++ p1.gI).map Aq)), (2038, .vec 1 (((([] : List Int)) ++ p1.gF).map Aq)), (2039, .vec 1 (((([] : List Int)) ++ p1.gG).map Cy))]) (fun j42 h => ?_) (fun v42 h => ?_)
         ·refine Ai Aw rfl (qf Dm rfl (ql Il rfl (qm rfl ?_)))
          refine BY h fun v43 a43 b43 h => qi Ei EP a43 (Aj b43) rfl (qk IN rfl (qm rfl ?_))
          refine BF h fun v44 a44 h => Av [] (FG N v43 v38 v44 a44) Yk rfl (qm rfl ?_)
          refine Dc 166 h rfl (fun h => ?_) fun h => ?_
          ·refine qw 2 rfl ?_
           refine BF h fun v46 a46 h => Av [] (FG N v35 v38 v46 a46) Yk rfl (CL rfl (qp rfl (qe rfl ?_)))
           exact sn [(2037, 2031), (2038, 2032), (2039, 2033)] h
          ·refine qw 4 rfl (qp rfl (qe rfl ?_))
           exact sn [(2037, 2031), (2038, 2032), (2039, 2033)] h
         ·refine AI h (fun v47 => mk [(3, oD (.ptr 3 0)), (4, oD (.ptr 4 0)), (6, oD (.ptr 6 0)), (8, oD (.ptr 8 0)), (9, iD p2.gL), (11, oD (.ptr 11 0)), (12, pD (.val (.int .u8 v35))), (13, iD v38), (193, bD v47)] [(3, .box (Ag p0)), (4, .box (AH p1)), (6, .box [.pure (.nil0), .pure (.nil0), .pure (.nil0)]), (8, .box [.own 2040, .own 2041, .own 2042]), (11, .box (BJ v32)), (2040, .vec 1 (((([] : List Int)) ++ p1.gI).map Aq)), (2041, .vec 1 (((([] : List Int)) ++ p1.gF).map Aq)), (2042, .vec 1 (((([] : List Int)) ++ p1.gG).map Cy))]) (fun j47 h => ?_) (fun v47 h => ?_)
          ·refine Ai Aw rfl (qw 2 rfl ?_)
           refine Dc 173 h rfl (fun h => ?_) fun h => ?_
           ·refine qf Fi rfl (ql A8 rfl (AN rfl (qp rfl (qm rfl ?_))))
            refine Dc 178 h rfl (fun h => ?_) fun h => ?_
            ·refine qf Gv rfl (ql In rfl (qm rfl ?_))
             refine BY h fun v50 a50 b50 h => qi FA Lf a50 (Aj b50) rfl (qk MK rfl (qf Dj rfl (ql Bi rfl (qf CB rfl (ql A8 rfl ?_)))))
             refine BY h fun v51 a51 b51 h => qi AF CQ a51 (Aj b51) rfl (qk A8 rfl ?_)
             refine BY h fun v52 a52 b52 h => qi Gl S6 a52 (Aj b52) rfl (qk Uw rfl (CL rfl (qp rfl (AJ (by kernel_rfl) ?_))))
             exact sn [(2040, 2037), (2041, 2038), (2042, 2039)] h
            ·refine qw 14 rfl (qp rfl (AJ (by kernel_rfl) ?_))
             exact sn [(2040, 2037), (2041, 2038), (2042, 2039)] h
           ·refine qw 3 rfl (qp rfl (qw 15 rfl (qp rfl (AJ (by kernel_rfl) ?_))))
            exact sn [(2040, 2037), (2041, 2038), (2042, 2039)] h
          ·refine Bb h (fun h => ?_) fun h => ?_
           ·refine wq rfl (AS CM G1 rfl (qs AQ rfl (qe rfl ?_)))
            obtain rfl := sj h
            refine Ah ((Ay 6 0 2043 1 _ rfl rfl rfl rfl).trans ((Ay 6 1 2044 1 _ rfl rfl rfl rfl).trans ((Ay 6 2 2045 1 _ rfl rfl rfl rfl).trans (sm [(1000, 2043), (1001, 2044), (1002, 2045)] [(6, oD (.ptr 6 0)), (7, bD false)] [(6, .box [.own 1000, .own 1001, .own 1002]), (1000, .vec 1 ((([] : List Int)).map Aq)), (1001, .vec 1 ((([] : List Int)).map Aq)), (1002, .vec 1 ((([] : List Int)).map Cy))] rfl rfl)))) (As ?_)
            exact ⟨⟨[_, _], ⟨.cellN _ _ _ _ _ _ _ rfl rfl Bf AQ rfl rfl (E1 rfl), tm⟩, rfl⟩, ⟨rfl, rfl, rfl, tv⟩⟩
           ·refine Al (Ai Aw rfl (qm rfl (Bp rfl (qe rfl ?_))))
            exact sn [(2031, 2040), (2032, 2041), (2033, 2042)] h
        ·refine Bh ?_
         exact sn [(2034, 2031), (2035, 2032), (2036, 2033)] h
       ·refine Ah hs (Ai Aw rfl (qf Dm rfl (ql Il rfl (qw 2 rfl ?_))))
        refine BY h fun v54 a54 b54 h => qI Ei EP a54 (Aj b54) rfl ?_
        refine FE rfl rfl rfl rfl (Aj b54) rfl EP rfl (Jd rfl) (FL Cy ((([] : List Int)) ++ p1.gG) _ v35) ?_
        refine Ac ?_
        exact sn [(2001, 2034), (2002, 2035), (2003, 2036)] h
    ·refine wp rfl (qf BU rfl (ql Bi rfl (qm rfl ?_)))
     refine BY h fun v55 a55 b55 h => qi AF CQ a55 (Aj b55) rfl (qk A8 rfl (A9 rfl (Ac ?_)))
     refine Bb h (fun h => ?_) fun h => ?_
     ·refine wq rfl (AS CM G1 rfl (qs AQ rfl (qe rfl ?_)))
      obtain rfl := sj h
      refine Ah ((Ay 6 0 2046 1 _ rfl rfl rfl rfl).trans ((Ay 6 1 2047 1 _ rfl rfl rfl rfl).trans ((Ay 6 2 2048 1 _ rfl rfl rfl rfl).trans (sm [(1000, 2046), (1001, 2047), (1002, 2048)] [(6, oD (.ptr 6 0)), (7, bD false)] [(6, .box [.own 1000, .own 1001, .own 1002]), (1000, .vec 1 ((([] : List Int)).map Aq)), (1001, .vec 1 ((([] : List Int)).map Aq)), (1002, .vec 1 ((([] : List Int)).map Cy))] rfl rfl)))) (As ?_)
      exact ⟨⟨[_, _], ⟨.cellN _ _ _ _ _ _ _ rfl rfl Bf AQ rfl rfl (E1 rfl), tm⟩, rfl⟩, ⟨rfl, rfl, rfl, tv⟩⟩
     ·refine Al (Ai Aw rfl (qf BU rfl (ql Bi rfl (qm rfl ?_))))
      refine BY h fun v57 a57 b57 h => qI AF CQ a57 (Aj b57) rfl ?_
      refine FE rfl rfl rfl rfl (Aj b57) rfl CQ rfl (Jd rfl) (FL Aq ((([] : List Int)) ++ p1.gF) _ ((-1))) ?_
      refine Ac ?_
      exact sn [(2001, 18), (2002, 22), (2003, 26)] h
 ·refine wq rfl (qL Bf AQ rfl (qs AQ rfl (qe rfl ?_)))
  obtain rfl := sj h
  refine Ah (sm [(1000, 2001), (1001, 2002), (1002, 2003)] [(6, oD (.ptr 6 0)), (7, bD true)] [(6, .box [.own 1000, .own 1001, .own 1002]), (1000, .vec 1 (v4.1.map Aq)), (1001, .vec 1 (v4.2.1.map Aq)), (1002, .vec 1 (v4.2.2.map Cy))] rfl rfl) (As ?_)
  exact ⟨⟨[_, _], ⟨.cellN _ _ _ _ _ _ _ rfl rfl Bf AQ rfl rfl (E1 rfl), tm⟩, rfl⟩, ⟨rfl, rfl, rfl, tv⟩⟩
theorem Hk (N : Nat) (p0 : Aa) (p1 : Ab) (p2 : Ae) (r : Ab × Int) (h : Dt N p0 p1 p2 = some r) : Au zA 118 [.e (.agg (Ag p0)), .e (.agg (AH p1)), .e (.agg (Dd p2))] [(1, r.1.gI.map Aq), (1, r.1.gF.map Aq), (1, r.1.gG.map Cy)] (.tup [.agg [.own 0, .own 1, .own 2], .one (iC r.2)]) := by
 unfold Dt at h
 refine cw (n := 73) (rs := [.cell 6 40, .tmp 7]) Tryz.func118 fun w0 S0 => ?_
 refine wq rfl (qb rfl (qb rfl (qb rfl (qz CM rfl (qa rfl (Ac (wp rfl (qL BZ BB rfl (qL Bf AQ rfl ?_)))))))))
 refine BF h fun v1 a1 h => Av [] (Ep N p0 p1 v1 a1) Wc rfl (qa rfl (Ac (wq rfl (qm rfl (BH rfl (Ac ?_))))))
 refine Bb h (fun h => ?_) fun h => ?_
 ·refine wq rfl (AS CM G1 rfl (qm rfl (qs AQ rfl (qe rfl ?_))))
  obtain rfl := sj h
  refine Ah ((Ay 6 0 2001 1 _ rfl rfl rfl rfl).trans ((Ay 6 1 2002 1 _ rfl rfl rfl rfl).trans ((Ay 6 2 2003 1 _ rfl rfl rfl rfl).trans (sm [(1000, 2001), (1001, 2002), (1002, 2003)] [(6, oD (.ptr 6 0)), (7, iD v1)] [(6, .box [.own 1000, .own 1001, .own 1002]), (1000, .vec 1 ((([] : List Int)).map Aq)), (1001, .vec 1 ((([] : List Int)).map Aq)), (1002, .vec 1 ((([] : List Int)).map Cy))] rfl rfl)))) (As ?_)
  exact ⟨⟨[_, _], ⟨.cellN _ _ _ _ _ _ _ rfl rfl Bf AQ rfl rfl (E1 rfl), tm⟩, rfl⟩, ⟨rfl, rfl, rfl, tv⟩⟩
 ·refine Al (wp rfl (qL IE Ea rfl ?_))
  refine BF h fun v3 a3 h => Av [] (Mt N p2 v3 a3) dF rfl (CL rfl (Ac ?_))
  refine Bb h (fun h => ?_) fun h => ?_
  ·refine wq rfl (AS CM G1 rfl (qs AQ rfl (qe rfl ?_)))
   obtain rfl := sj h
   refine Ah ((Ay 6 0 2004 1 _ rfl rfl rfl rfl).trans ((Ay 6 1 2005 1 _ rfl rfl rfl rfl).trans ((Ay 6 2 2006 1 _ rfl rfl rfl rfl).trans (sm [(1000, 2004), (1001, 2005), (1002, 2006)] [(6, oD (.ptr 6 0)), (7, iD 1)] [(6, .box [.own 1000, .own 1001, .own 1002]), (1000, .vec 1 ((([] : List Int)).map Aq)), (1001, .vec 1 ((([] : List Int)).map Aq)), (1002, .vec 1 ((([] : List Int)).map Cy))] rfl rfl)))) (As ?_)
   exact ⟨⟨[_, _], ⟨.cellN _ _ _ _ _ _ _ rfl rfl Bf AQ rfl rfl (E1 rfl), tm⟩, rfl⟩, ⟨rfl, rfl, rfl, tv⟩⟩
  ·refine Al (A5 ?_)
   refine AI h (fun v5 => mk [(3, oD (.ptr 3 0)), (4, oD (.ptr 4 0)), (5, oD (.ptr 5 0)), (6, oD (.ptr 6 0)), (45, bD v5)] [(3, .box (Ag p0)), (4, .box (AH p1)), (5, .box (Dd p2)), (6, .box [.pure (.nil0), .pure (.nil0), .pure (.nil0)])]) (fun j5 h => ?_) (fun v5 h => ?_)
   ·refine Ai Aw rfl (qf DK rfl (ql A8 rfl (AN rfl (qm rfl ?_))))
    refine Dc 25 h rfl (fun h => ?_) fun h => ?_
    ·refine qf Db rfl (ql A8 rfl (qf CS rfl (ql Hy rfl (AU Ev rfl (Eh rfl (qp rfl (qm rfl ?_)))))))
     refine Dc 33 h rfl (fun h => ?_) fun h => ?_
     ·refine qw 4 rfl (qu rfl (qu rfl (qu rfl (qu rfl (qu rfl (qu rfl (qn rfl (qp rfl (Ac ?_)))))))))
      exact sn [] h
     ·refine qf DK rfl (ql A8 rfl (BH rfl (qm rfl ?_)))
      refine Dc 37 h rfl (fun h => ?_) fun h => ?_
      ·refine qf Db rfl (ql A8 rfl (qf Bx rfl (ql Bi rfl (AU AF rfl (Eh rfl (qp rfl (qp rfl (Ac ?_))))))))
       exact sn [] h
      ·refine qw 6 rfl (qp rfl (qp rfl (Ac ?_)))
       exact sn [] h
    ·refine qw 6 rfl (qp rfl (qm rfl (qf DK rfl (ql A8 rfl (BH rfl (qm rfl ?_))))))
     refine Dc 37 h rfl (fun h => ?_) fun h => ?_
     ·refine qf Db rfl (ql A8 rfl (qf Bx rfl (ql Bi rfl (AU AF rfl (Eh rfl (qp rfl (qp rfl (Ac ?_))))))))
      exact sn [] h
     ·refine qw 6 rfl (qp rfl (qp rfl (Ac ?_)))
      exact sn [] h
   ·refine Bb h (fun h => ?_) fun h => ?_
    ·refine wq rfl (AS CM G1 rfl (qs AQ rfl (qe rfl ?_)))
     obtain rfl := sj h
     refine Ah ((Ay 6 0 2007 1 _ rfl rfl rfl rfl).trans ((Ay 6 1 2008 1 _ rfl rfl rfl rfl).trans ((Ay 6 2 2009 1 _ rfl rfl rfl rfl).trans (sm [(1000, 2007), (1001, 2008), (1002, 2009)] [(6, oD (.ptr 6 0)), (7, iD 4)] [(6, .box [.own 1000, .own 1001, .own 1002]), (1000, .vec 1 ((([] : List Int)).map Aq)), (1001, .vec 1 ((([] : List Int)).map Aq)), (1002, .vec 1 ((([] : List Int)).map Cy))] rfl rfl)))) (As ?_)
     exact ⟨⟨[_, _], ⟨.cellN _ _ _ _ _ _ _ rfl rfl Bf AQ rfl rfl (E1 rfl), tm⟩, rfl⟩, ⟨rfl, rfl, rfl, tv⟩⟩
    ·refine Al (A5 ?_)
     refine AI h (fun v11 => mk [(3, oD (.ptr 3 0)), (4, oD (.ptr 4 0)), (5, oD (.ptr 5 0)), (6, oD (.ptr 6 0)), (60, bD v11)] [(3, .box (Ag p0)), (4, .box (AH p1)), (5, .box (Dd p2)), (6, .box [.pure (.nil0), .pure (.nil0), .pure (.nil0)])]) (fun j11 h => ?_) (fun v11 h => ?_)
     ·refine Ai Aw rfl (qf DK rfl (ql A8 rfl (AN rfl (qm rfl ?_))))
      refine Dc 50 h rfl (fun h => ?_) fun h => ?_
      ·refine qf HB rfl (ql A8 rfl (qf Bx rfl (ql Bi rfl (qf Db rfl (ql A8 rfl ?_)))))
       refine BY h fun v13 a13 b13 h => qi AF CQ a13 (Aj b13) rfl (qk A8 rfl (Eh rfl (qp rfl (AJ (by kernel_rfl) ?_))))
       exact sn [] h
      ·refine qw 9 rfl (qp rfl (AJ (by kernel_rfl) ?_))
       exact sn [] h
     ·refine Bb h (fun h => ?_) fun h => ?_
      ·refine wq rfl (AS CM G1 rfl (qs AQ rfl (qe rfl ?_)))
       obtain rfl := sj h
       refine Ah ((Ay 6 0 2010 1 _ rfl rfl rfl rfl).trans ((Ay 6 1 2011 1 _ rfl rfl rfl rfl).trans ((Ay 6 2 2012 1 _ rfl rfl rfl rfl).trans (sm [(1000, 2010), (1001, 2011), (1002, 2012)] [(6, oD (.ptr 6 0)), (7, iD 4)] [(6, .box [.own 1000, .own 1001, .own 1002]), (1000, .vec 1 ((([] : List Int)).map Aq)), (1001, .vec 1 ((([] : List Int)).map Aq)), (1002, .vec 1 ((([] : List Int)).map Cy))] rfl rfl)))) (As ?_)
       exact ⟨⟨[_, _], ⟨.cellN _ _ _ _ _ _ _ rfl rfl Bf AQ rfl rfl (E1 rfl), tm⟩, rfl⟩, ⟨rfl, rfl, rfl, tv⟩⟩
      ·refine Al (wq rfl (qL BZ BB rfl (qL Bf AQ rfl (qL IE Ea rfl ?_))))
       refine BF h fun v15 a15 h => Av [2013, 2014, 2015] (Fk N p0 p1 p2 v15 a15) Xn rfl (qm rfl (qx rfl (qx rfl (qz CM rfl (qs AQ rfl (qa rfl (Ac (wp rfl (qm rfl (CL rfl (Ac ?_)))))))))))
       refine Bb h (fun h => ?_) fun h => ?_
       ·refine wq rfl (AS CM G1 rfl (qs AQ rfl (qe rfl ?_)))
        obtain rfl := sj h
        refine Ah ((Ay 6 0 2016 1 _ rfl rfl rfl rfl).trans ((Ay 6 1 2017 1 _ rfl rfl rfl rfl).trans ((Ay 6 2 2018 1 _ rfl rfl rfl rfl).trans (sm [(1000, 2016), (1001, 2017), (1002, 2018)] [(6, oD (.ptr 6 0)), (7, iD 11)] [(6, .box [.own 1000, .own 1001, .own 1002]), (1000, .vec 1 ((([] : List Int)).map Aq)), (1001, .vec 1 ((([] : List Int)).map Aq)), (1002, .vec 1 ((([] : List Int)).map Cy))] rfl rfl)))) (As ?_)
        exact ⟨⟨[_, _], ⟨.cellN _ _ _ _ _ _ _ rfl rfl Bf AQ rfl rfl (E1 rfl), tm⟩, rfl⟩, ⟨rfl, rfl, rfl, tv⟩⟩
       ·refine Al (wq rfl (qL Bf AQ rfl (qs AQ rfl (qe rfl ?_))))
        obtain rfl := sj h
        refine Ah (sm [(1000, 2013), (1001, 2014), (1002, 2015)] [(6, oD (.ptr 6 0)), (7, iD 0)] [(6, .box [.own 1000, .own 1001, .own 1002]), (1000, .vec 1 (v15.1.gI.map Aq)), (1001, .vec 1 (v15.1.gF.map Aq)), (1002, .vec 1 (v15.1.gG.map Cy))] rfl rfl) (As ?_)
        exact ⟨⟨[_, _], ⟨.cellN _ _ _ _ _ _ _ rfl rfl Bf AQ rfl rfl (E1 rfl), tm⟩, rfl⟩, ⟨rfl, rfl, rfl, tv⟩⟩
theorem My (N : Nat) (p0 : Aa) (p1 : Ab) (r : (List Ae)) (h : EV N p0 p1 = some r) : Au zA 165 [.e (.agg (Ag p0)), .e (.agg (AH p1))] [(3, r.map Ax)] (oD (.own 0)) := by
 unfold EV at h
 refine cw (n := 49) (rs := [.tmp 4]) Tryz.func165 fun w0 S0 => ?_
 refine wq rfl (qb rfl (qb rfl (qa rfl (Ac (wq rfl (qa rfl (Ac (wp rfl (qe rfl ?_)))))))))
 refine AY (L := BL N p0 p1) h (fun v1 => mk [(2, oD (.ptr 2 0)), (3, oD (.ptr 3 0)), (5, oD (.own 2001)), (6, iD v1.2)] [(2, .box (Ag p0)), (3, .box (AH p1)), (2001, .vec 3 (v1.1.map Ax))]) (fun v2 => mk [(5, oD (.own 2002))] [(2002, .vec 3 (v2.map Ax))]) (fun _ _ => rfl) ((Bl 5 2011 3 rfl rfl rfl).trans (sm [(2001, 2011)] _ _ rfl rfl)) (fun j1 n1 v1 h => ?_) (fun v2 s h hs => ?_)
 ·unfold BL at h
  refine wp rfl (qm rfl (TR rfl (Ac ?_)))
  refine Bb h (fun h => ?_) fun h => ?_
  ·refine Al (A5 (AX (wq rfl (qe rfl ?_))))
   refine AY (L := Cp N p0 p1 v1) h (fun v4 => mk [(2, oD (.ptr 2 0)), (3, oD (.ptr 3 0)), (5, oD (.own 2003)), (6, iD v1.2), (7, iD v4.2)] [(2, .box (Ag p0)), (3, .box (AH p1)), (2003, .vec 3 (v4.1.map Ax))]) (fun v5 => mk [(2, oD (.ptr 2 0)), (3, oD (.ptr 3 0)), (5, oD (.own 2004)), (6, iD v1.2)] [(2, .box (Ag p0)), (3, .box (AH p1)), (2004, .vec 3 (v5.map Ax))]) (fun _ _ => rfl) (sm [(2003, 2001)] _ _ rfl rfl) (fun j4 n4 v4 h => ?_) (fun v5 s h hs => ?_)
   ·unfold Cp at h
    refine wp rfl (qm rfl (qf Bx rfl (ql Bi rfl (AU AF rfl (qf CS rfl (ql Hy rfl (AU Ev rfl ?_)))))))
    refine en (.p rfl) rfl rfl ?_
    refine A9 rfl (Ac ?_)
    refine Bb h (fun h => ?_) fun h => ?_
    ·refine Al (A5 (AX (wq rfl (qe rfl ?_))))
     refine AY (L := Cs N p0 p1 v1 v4) h (fun v7 => mk [(2, oD (.ptr 2 0)), (3, oD (.ptr 3 0)), (5, oD (.own 2005)), (6, iD v1.2), (7, iD v4.2), (8, iD v7.2)] [(2, .box (Ag p0)), (3, .box (AH p1)), (2005, .vec 3 (v7.1.map Ax))]) (fun v8 => mk [(2, oD (.ptr 2 0)), (3, oD (.ptr 3 0)), (5, oD (.own 2006)), (6, iD v1.2), (7, iD v4.2)] [(2, .box (Ag p0)), (3, .box (AH p1)), (2006, .vec 3 (v8.map Ax))]) (fun _ _ => rfl) (sm [(2005, 2003)] _ _ rfl rfl) (fun j7 n7 v7 h => ?_) (fun v8 s h hs => ?_)
     ·unfold Cs at h
      refine wp rfl (qm rfl (A9 rfl (Ac ?_)))
      refine Bb h (fun h => ?_) fun h => ?_
      ·refine Al ?_
       refine AI h (fun v10 => mk [(2, oD (.ptr 2 0)), (3, oD (.ptr 3 0)), (5, oD (.own 2007)), (6, iD v1.2), (7, iD v4.2), (8, iD v7.2)] [(2, .box (Ag p0)), (3, .box (AH p1)), (2007, .vec 3 (v10.map Ax))]) (fun j10 h => ?_) (fun v10 h => ?_)
       ·refine AX (wq rfl (qw 3 rfl (AS KU Xg rfl (qz KU rfl (qs Ea rfl (Ac (wq rfl (qL BZ BB rfl (qL Bf AQ rfl (qL IE Ea rfl ?_))))))))))
        refine BF h fun v11 a11 h => Av [2008, 2009, 2010] (Hk N p0 p1 ((Ae.mk v1.2 v4.2 v7.2)) v11 a11) W9 rfl (qm rfl (qx rfl (qx rfl (qz CM rfl (qs AQ rfl (qa rfl (Ac (wq rfl (qm rfl (AN rfl (Ac ?_)))))))))))
        refine Bb h (fun h => ?_) fun h => ?_
        ·refine Ai Aw rfl (qm rfl (qL IE Ea rfl (EB DB Ea KU rfl ?_)))
         refine GJ h fun c13 h => EL (f := Ax) DB DB Ea Xd KU c13 rfl (qe rfl ?_)
         exact sn [(2007, 47)] h
        ·refine Al ?_
         exact sn [(2007, 2005)] h
       ·refine Ai Aw rfl (qm rfl (Bp rfl (qe rfl ?_)))
        exact sn [(2005, 2007)] h
      ·refine Bh ?_
       exact sn [(2006, 2005)] h
     ·refine Ah hs (Ai Aw rfl (qm rfl (Bp rfl (qe rfl ?_))))
      exact sn [(2003, 2006)] h
    ·refine Bh ?_
     exact sn [(2004, 2003)] h
   ·refine Ah hs (Ai Aw rfl (qm rfl (Bp rfl (qe rfl ?_))))
    exact sn [(2001, 2004)] h
  ·refine Bh ?_
   exact sn [(2002, 2001)] h
 ·refine Ah hs (wq rfl (qm rfl (qe rfl ?_)))
  obtain rfl := sj h
  refine Ah (sm [(1000, 2002)] [(4, oD (.own 1000))] [(1000, .vec 3 (v2.map Ax))] rfl rfl) (As ?_)
  exact ⟨⟨[_], tm, rfl⟩, ⟨rfl, tv⟩⟩
theorem HM (N : Nat) (p0 : List Int) (p1 : List Int) (r : Int) (h : DC N p0 p1 = some r) : Au zA 84 [pD (.sl (p0.map Aq)), pD (.sl (p1.map Aq))] [] (iD r) := by
 unfold DC at h
 refine cw (n := 46) (rs := [.tmp 4]) Tryz.func84 fun w0 S0 => ?_
 refine wq rfl (qa rfl (Ac (wp rfl (qe rfl ?_))))
 refine AY (L := Dz N p0 p1) h (fun v1 => mk [(0, pD (.sl (p0.map Aq))), (1, pD (.sl (p1.map Aq))), (5, iD v1)] []) (fun v2 => mk [(0, pD (.sl (p0.map Aq))), (1, pD (.sl (p1.map Aq)))] []) (fun _ _ => rfl) (sm [] _ _ rfl rfl) (fun j1 n1 v1 h => ?_) (fun v2 s h hs => ?_)
 ·unfold Dz at h
  refine A5 ?_
  refine AI h (fun v3 => mk [(0, pD (.sl (p0.map Aq))), (1, pD (.sl (p1.map Aq))), (5, iD v1), (15, bD v3)] []) (fun j3 h => ?_) (fun v3 h => ?_)
  ·refine Ai Aw rfl (qw 2 rfl (AU AF rfl (A9 rfl (qm rfl ?_))))
   refine Dc 10 h rfl (fun h => ?_) fun h => ?_
   ·refine qw 2 rfl (AU AF rfl (A9 rfl (qp rfl (Ac ?_))))
    exact sn [] h
   ·refine qw 4 rfl (qp rfl (Ac ?_))
    exact sn [] h
  ·refine Bb h (fun h => ?_) fun h => ?_
   ·refine Al (A5 (AX (wp rfl (qw 2 rfl ?_))))
    refine BY h fun v6 a6 b6 h => qi AF CQ a6 (Aj b6) rfl (qk A8 rfl (qw 2 rfl ?_))
    refine BY h fun v7 a7 b7 h => qi AF CQ a7 (Aj b7) rfl (qk A8 rfl (A9 rfl (AJ (by kernel_rfl) ?_)))
    refine Bb h (fun h => ?_) fun h => ?_
    ·refine wq rfl (qe rfl ?_)
     obtain rfl := sj h
     refine Ah (sm [] [(4, iD ((-1)))] [] rfl rfl) (As ?_)
     exact ⟨⟨[_], tm, rfl⟩, tv⟩
    ·refine Al (wq rfl (qw 2 rfl ?_))
     refine BY h fun v9 a9 b9 h => qi AF CQ a9 (Aj b9) rfl (qk A8 rfl (qw 2 rfl ?_))
     refine BY h fun v10 a10 b10 h => qi AF CQ a10 (Aj b10) rfl (qk A8 rfl (FQ rfl (AJ (by kernel_rfl) ?_)))
     refine Bb h (fun h => ?_) fun h => ?_
     ·refine wq rfl (qe rfl ?_)
      obtain rfl := sj h
      refine Ah (sm [] [(4, iD 1)] [] rfl rfl) (As ?_)
      exact ⟨⟨[_], tm, rfl⟩, tv⟩
     ·refine Al (Ai Aw rfl (qm rfl (Bp rfl (qe rfl ?_))))
      exact sn [] h
   ·refine Bh ?_
    exact sn [] h
 ·refine Ah hs (wp rfl (qm rfl (AU AF rfl (qm rfl (AU AF rfl (A9 rfl (Ac ?_)))))))
  refine Bb h (fun h => ?_) fun h => ?_
  ·refine wq rfl (qe rfl ?_)
   obtain rfl := sj h
   refine Ah (sm [] [(4, iD ((-1)))] [] rfl rfl) (As ?_)
   exact ⟨⟨[_], tm, rfl⟩, tv⟩
  ·refine Al (wp rfl (qm rfl (AU AF rfl (qm rfl (AU AF rfl (FQ rfl (Ac ?_)))))))
   refine Bb h (fun h => ?_) fun h => ?_
   ·refine wq rfl (qe rfl ?_)
    obtain rfl := sj h
    refine Ah (sm [] [(4, iD 1)] [] rfl rfl) (As ?_)
    exact ⟨⟨[_], tm, rfl⟩, tv⟩
   ·refine Al (wq rfl (qe rfl ?_))
    obtain rfl := sj h
    refine Ah (sm [] [(4, iD 0)] [] rfl rfl) (As ?_)
    exact ⟨⟨[_], tm, rfl⟩, tv⟩
theorem Io (N : Nat) (p0 : List Int) (r : (List Int)) (h : Dv N p0 = some r) : Au zA 85 [pD (.sl (p0.map Cy))] [(1, r.map Aq)] (oD (.own 0)) := by
 unfold Dv at h
 refine cw (n := 20) (rs := [.tmp 2]) Tryz.func85 fun w0 S0 => ?_
 refine wq rfl (qa rfl (Ac (wq rfl (qa rfl (Ac (wp rfl (qe rfl ?_)))))))
 refine AY (L := C5 N p0) h (fun v1 => mk [(0, pD (.sl (p0.map Cy))), (3, oD (.own 2001)), (4, iD v1.2)] [(2001, .vec 1 (v1.1.map Aq))]) (fun v2 => mk [(3, oD (.own 2002))] [(2002, .vec 1 (v2.map Aq))]) (fun _ _ => rfl) ((Bl 3 2003 1 rfl rfl rfl).trans (sm [(2001, 2003)] _ _ rfl rfl)) (fun j1 n1 v1 h => ?_) (fun v2 s h hs => ?_)
 ·unfold C5 at h
  refine wp rfl (qw 2 rfl (AU Ei rfl (A9 rfl (Ac ?_))))
  refine Bb h (fun h => ?_) fun h => ?_
  ·refine Al (A5 (AX (Ai Aw rfl (qw 3 rfl ?_))))
   refine BY h fun v4 a4 b4 h => qi Ei EP a4 (Aj b4) rfl (qk IN rfl (JN eY Xt rfl (EB AF CQ MD rfl ?_)))
   refine GJ h fun c5 h => EL (f := Aq) AF AF CQ Ok MD c5 rfl (qa rfl (Ac (Ai Aw rfl (qm rfl (Bp rfl (qe rfl ?_))))))
   exact sn [(2001, 18)] h
  ·refine Bh ?_
   exact sn [(2002, 2001)] h
 ·refine Ah hs (wq rfl (qm rfl (qe rfl ?_)))
  obtain rfl := sj h
  refine Ah (sm [(1000, 2002)] [(2, oD (.own 1000))] [(1000, .vec 1 (v2.map Aq))] rfl rfl) (As ?_)
  exact ⟨⟨[_], tm, rfl⟩, ⟨rfl, tv⟩⟩
theorem Lm (N : Nat) (p0 : Ab) (p1 : Ab) (r : Int) (h : Ek N p0 p1 = some r) : Au zA 42 [.e (.agg (AH p0)), .e (.agg (AH p1))] [] (iD r) := by
 unfold Ek at h
 refine cw (n := 30) (rs := [.tmp 4]) Tryz.func42 fun w0 S0 => ?_
 refine wq rfl (qb rfl (qb rfl (qa rfl (Ac (wp rfl (qf Dj rfl (ql Bi rfl (qf Dj rfl (ql Bi rfl ?_)))))))))
 refine BF h fun v1 a1 h => Av [] (HM N p0.gI p1.gI v1 a1) co rfl (qa rfl (Ac (wq rfl (qm rfl (BH rfl (Ac ?_))))))
 refine Bb h (fun h => ?_) fun h => ?_
 ·refine wq rfl (qm rfl (qe rfl ?_))
  obtain rfl := sj h
  refine Ah (sm [] [(4, iD v1)] [] rfl rfl) (As ?_)
  exact ⟨⟨[_], tm, rfl⟩, tv⟩
 ·refine Al (wp rfl (qf BU rfl (ql Bi rfl (qf BU rfl (ql Bi rfl ?_)))))
  refine BF h fun v3 a3 h => Av [] (HM N p0.gF p1.gF v3 a3) co rfl (qa rfl (Ac (wq rfl (qm rfl (BH rfl (Ac ?_))))))
  refine Bb h (fun h => ?_) fun h => ?_
  ·refine wq rfl (qm rfl (qe rfl ?_))
   obtain rfl := sj h
   refine Ah (sm [] [(4, iD v3)] [] rfl rfl) (As ?_)
   exact ⟨⟨[_], tm, rfl⟩, tv⟩
  ·refine Al (wq rfl (qf Dm rfl (ql Il rfl ?_)))
   refine BF h fun v5 a5 h => Av [2001] (Io N p0.gG v5 a5) ei rfl (qf Dm rfl (ql Il rfl ?_))
   refine BF h fun v6 a6 h => Av [2002] (Io N p1.gG v6 a6) ei rfl ?_
   refine BF h fun v7 a7 h => FN [] [2001, 2002] (HM N v5 v6 v7 a7) co Eb rfl (qa rfl (AJ (by kernel_rfl) ?_))
   obtain rfl := sj h
   refine Ah (sm [] [(4, iD v7)] [] rfl rfl) (As ?_)
   exact ⟨⟨[_], tm, rfl⟩, tv⟩
theorem Hj (N : Nat) (p0 : Ab) (p1 : Ab) (r : Bool) (h : Bm N p0 p1 = some r) : Au zA 18 [.e (.agg (AH p0)), .e (.agg (AH p1))] [] (bD r) := by
 unfold Bm at h
 refine cw (n := 9) (rs := [.tmp 4]) Tryz.func18 fun w0 S0 => ?_
 refine wq rfl (qb rfl (qb rfl (qa rfl (Ac (wq rfl (qL Bf AQ rfl (qL Bf AQ rfl ?_)))))))
 refine BF h fun v1 a1 h => Av [] (Lm N p0 p1 v1 a1) f8 rfl (AN rfl (qe rfl ?_))
 obtain rfl := sj h
 refine Ah (sm [] [(4, bD ((v1 == 0)))] [] rfl rfl) (As ?_)
 exact ⟨⟨[_], tm, rfl⟩, tv⟩
theorem MX (N : Nat) (p0 : List AD) (p1 : Ab) (r : Int) (h : Er N p0 p1 = some r) : Au zA 166 [pD (.sl (p0.map BS)), .e (.agg (AH p1))] [] (iD r) := by
 unfold Er at h
 refine cw (n := 20) (rs := [.tmp 4]) Tryz.func166 fun w0 S0 => ?_
 refine wq rfl (qb rfl (qa rfl (Ac (wp rfl (qe rfl ?_)))))
 refine AY (L := CD N p0 p1) h (fun v1 => mk [(0, pD (.sl (p0.map BS))), (3, oD (.ptr 3 0)), (5, iD v1)] [(3, .box (AH p1))]) (fun v2 => mk [] []) (fun _ _ => rfl) (sm [] _ _ rfl rfl) (fun j1 n1 v1 h => ?_) (fun v2 s h hs => ?_)
 ·unfold CD at h
  refine wp rfl (qw 2 rfl (AU HI rfl (A9 rfl (Ac ?_))))
  refine Bb h (fun h => ?_) fun h => ?_
  ·refine Al (A5 (AX (wq rfl (qw 2 rfl ?_))))
   refine BY h fun v4 a4 b4 h => qi HI MJ a4 (Aj b4) rfl (qg NS rfl (qK Bf AQ rfl (qL Bf AQ rfl ?_)))
   refine BF h fun v5 a5 h => Av [] (Hj N ((Ab.mk v4.gB.gI v4.gB.gF v4.gB.gG)) p1 v5 a5) cl rfl (AJ (by kernel_rfl) ?_)
   refine Bb h (fun h => ?_) fun h => ?_
   ·refine wq rfl (qm rfl (qe rfl ?_))
    obtain rfl := sj h
    refine Ah (sm [] [(4, iD v1)] [] rfl rfl) (As ?_)
    exact ⟨⟨[_], tm, rfl⟩, tv⟩
   ·refine Al (Ai Aw rfl (qm rfl (Bp rfl (qe rfl ?_))))
    exact sn [] h
  ·refine Bh ?_
   exact sn [] h
 ·refine Ah hs (wq rfl (qe rfl ?_))
  obtain rfl := sj h
  refine Ah (sm [] [(4, iD ((-1)))] [] rfl rfl) (As ?_)
  exact ⟨⟨[_], tm, rfl⟩, tv⟩
theorem I5 (N : Nat) (p0 : Aa) (p1 : Ab) (p2 : Int) (r : (List AD) × Bool) (h : C1 N p0 p1 p2 = some r) : Au zA 132 [.e (.agg (Ag p0)), .e (.agg (AH p1)), iD p2] [(7, r.1.map BS)] (.tup [.one (.own 0), .one (.pure (.val (.bool r.2)))]) := by
 unfold C1 at h
 refine cw (n := 74) (rs := [.tmp 6, .tmp 7]) Tryz.func132 fun w0 S0 => ?_
 refine wq rfl (qb rfl (qb rfl (qa rfl (qa rfl (Ac (wq rfl (qL Bf AQ rfl (AS Tr aH rfl (EB HI MJ Tr rfl (qa rfl (Ac (wp rfl (qe rfl ?_)))))))))))))
 refine AY (L := B5 N p0 p2) h (fun v1 => mk [(2, iD p2), (3, oD (.ptr 3 0)), (8, oD (.own 2001)), (9, iD v1.2)] [(3, .box (Ag p0)), (2001, .vec 7 (v1.1.map BS))]) (fun v2 => mk [(8, oD (.own 2002))] [(2002, .vec 7 (v2.map BS))]) (fun _ _ => rfl) (sm [(2001, 16)] _ _ rfl rfl) (fun j1 n1 v1 h => ?_) (fun v2 s h hs => ?_)
 ·unfold B5 at h
  refine wp rfl (qw 2 rfl (GG HI rfl (A9 rfl (Ac ?_))))
  refine Bb h (fun h => ?_) fun h => ?_
  ·refine Al (A5 (AX (wq rfl (qL BZ BB rfl (qw 2 rfl ?_)))))
   refine BY h fun v4 a4 b4 h => qI HI MJ a4 (Aj b4) rfl (qh NS rfl ?_)
   refine PA (.p rfl) rfl Bf AQ rfl (Aj b4) rfl rfl (by decide) ?_
   refine BF h fun v5 a5 h => Av [2003] (My N p0 ((Ab.mk v4.gB.gI v4.gB.gF v4.gB.gG)) v5 a5) eX rfl (qa rfl (AJ (by kernel_rfl) (wq rfl (qe rfl ?_))))
   refine AY (L := B3 N p0 p2 v1 v5) h (fun v6 => mk [(2, iD p2), (3, oD (.ptr 3 0)), (8, oD (.own 2004)), (9, iD v1.2), (10, oD (.own 2005)), (11, iD v6.2)] [(3, .box (Ag p0)), (2004, .vec 7 (v6.1.map BS)), (2005, .vec 3 (v5.map Ax))]) (fun v7 => mk [(2, iD p2), (3, oD (.ptr 3 0)), (8, oD (.own 2006)), (9, iD v1.2)] [(3, .box (Ag p0)), (2006, .vec 7 (v7.map BS))]) (fun _ _ => rfl) (sm [(2004, 2001), (2005, 2003)] _ _ rfl rfl) (fun j6 n6 v6 h => ?_) (fun v7 s h hs => ?_)
   ·unfold B3 at h
    refine wp rfl (qw 2 rfl (GG DB rfl (A9 rfl (Ac ?_))))
    refine Bb h (fun h => ?_) fun h => ?_
    ·refine Al (A5 (AX (wq rfl (qL BZ BB rfl (qw 2 rfl ?_)))))
     refine BY h fun v9 a9 b9 h => qI HI MJ a9 (Aj b9) rfl (qh NS rfl ?_)
     refine PA (.p rfl) rfl Bf AQ rfl (Aj b9) rfl rfl (by decide) ?_
     refine qw 2 rfl ?_
     refine BY h fun v10 a10 b10 h => qI DB Ea a10 (Aj b10) rfl (qJ IE Ea (Aj b10) rfl ?_)
     refine BF h fun v11 a11 h => Av [2007, 2008, 2009] (Fk N p0 ((Ab.mk v9.gB.gI v9.gB.gF v9.gB.gG)) v10 v11 a11) Xn rfl (qm rfl (qx rfl (qx rfl (qz CM rfl (qs AQ rfl (qa rfl (AJ (by kernel_rfl) ?_)))))))
     refine AI h (fun v12 => mk [(2, iD p2), (3, oD (.ptr 3 0)), (8, oD (.own 2010)), (9, iD v1.2), (10, oD (.own 2011)), (11, iD v6.2)] [(3, .box (Ag p0)), (2010, .vec 7 (v12.map BS)), (2011, .vec 3 (v5.map Ax))]) (fun j12 h => ?_) (fun v12 h => ?_)
     ·refine AI h (fun v13 => mk [(2, iD p2), (3, oD (.ptr 3 0)), (8, oD (.own 2015)), (9, iD v1.2), (10, oD (.own 2016)), (11, iD v6.2), (12, oD (.ptr 12 0)), (58, bD v13)] [(3, .box (Ag p0)), (12, .box [.own 2012, .own 2013, .own 2014]), (2012, .vec 1 (v11.1.gI.map Aq)), (2013, .vec 1 (v11.1.gF.map Aq)), (2014, .vec 1 (v11.1.gG.map Cy)), (2015, .vec 7 (v6.1.map BS)), (2016, .vec 3 (v5.map Ax))]) (fun j13 h => ?_) (fun v13 h => ?_)
      ·refine Ai Aw rfl (qL BZ BB rfl (qL Bf AQ rfl ?_))
       refine BF h fun v14 a14 h => FN [] [2007, 2008, 2009] (Gj N p0 v11.1 v14 a14) Yu Eb rfl (qm rfl ?_)
       refine Dc 53 h rfl (fun h => ?_) fun h => ?_
       ·refine qm rfl (qL Bf AQ rfl ?_)
        refine BF h fun v16 a16 h => FN [] [2004, 2007, 2008, 2009] (MX N v6.1 v11.1 v16 a16) dn Eb rfl (A9 rfl (qp rfl (Ac ?_)))
        exact sn [(2012, 2007), (2013, 2008), (2014, 2009), (2015, 2004), (2016, 2005)] h
       ·refine qw 4 rfl (qp rfl (Ac ?_))
        exact sn [(2012, 2007), (2013, 2008), (2014, 2009), (2015, 2004), (2016, 2005)] h
      ·refine Bb h (fun h => ?_) fun h => ?_
       ·refine Ah (AV 2012 _ _ rfl rfl) (Ah (AV 2013 _ _ rfl rfl) (Ah (AV 2014 _ _ rfl rfl) (Ai Aw rfl (qm rfl (qL Bf AQ rfl (qw 3 rfl ?_))))))
        refine BY h fun v18 a18 b18 h => qI DB Ea a18 (Aj b18) rfl (qJ IE Ea (Aj b18) rfl (AS Tr aH rfl (EB HI MJ Tr rfl ?_)))
        refine GJ h fun c19 h => EL (f := BS) HI HI MJ cB Tr c19 rfl (qa rfl (AJ (by kernel_rfl) ?_))
        exact sn [(2010, 68), (2011, 2016)] h
       ·refine Al ?_
        exact sn [(2010, 2015), (2011, 2016)] h
     ·refine wq rfl (qm rfl (GG HI rfl (qm rfl (FQ rfl (Ac ?_)))))
      refine Bb h (fun h => ?_) fun h => ?_
      ·refine wq rfl (qa rfl (qe rfl ?_))
       obtain rfl := sj h
       refine Ah ((Bl 6 2017 7 rfl rfl rfl).trans (sm [(1000, 2017)] [(6, oD (.own 1000)), (7, bD false)] [(1000, .vec 7 ((([] : List AD)).map BS))] rfl rfl)) (As ?_)
       exact ⟨⟨[_, _], ⟨.tmp _ _ rfl, tm⟩, rfl⟩, ⟨rfl, tv⟩⟩
      ·refine Al (Ai Aw rfl (qm rfl (Bp rfl (qe rfl ?_))))
       exact sn [(2004, 2010), (2005, 2011)] h
    ·refine Bh ?_
     exact sn [(2006, 2004)] h
   ·refine Ah hs (Ai Aw rfl (qm rfl (Bp rfl (qe rfl ?_))))
    exact sn [(2001, 2006)] h
  ·refine Bh ?_
   exact sn [(2002, 2001)] h
 ·refine Ah hs (wq rfl (qm rfl (qa rfl (qe rfl ?_))))
  obtain rfl := sj h
  refine Ah (sm [(1000, 2002)] [(6, oD (.own 1000)), (7, bD true)] [(1000, .vec 7 (v2.map BS))] rfl rfl) (As ?_)
  exact ⟨⟨[_, _], ⟨.tmp _ _ rfl, tm⟩, rfl⟩, ⟨rfl, tv⟩⟩
theorem Ms (N : Nat) (p0 : Aa) (p1 : Int) (r : Bool) (h : EZ N p0 p1 = some r) : Au zA 95 [.e (.agg (Ag p0)), iD p1] [] (bD r) := by
 unfold EZ at h
 refine cw (n := 30) (rs := [.tmp 4]) Tryz.func95 fun w0 S0 => ?_
 refine wq rfl (qb rfl (qa rfl (Ac (wq rfl (qL BZ BB rfl ?_)))))
 refine BF h fun v1 a1 h => Av [2001, 2002, 2003] (Fj N p0 v1 a1) Xa rfl (qm rfl (qx rfl (qx rfl (qz CM rfl (qs AQ rfl (qa rfl (Ac (A5 ?_))))))))
 refine AI h (fun v2 => mk [(1, iD p1), (2, oD (.ptr 2 0)), (5, oD (.ptr 5 0)), (21, bD v2)] [(2, .box (Ag p0)), (5, .box [.own 2004, .own 2005, .own 2006]), (2004, .vec 1 (v1.1.gI.map Aq)), (2005, .vec 1 (v1.1.gF.map Aq)), (2006, .vec 1 (v1.1.gG.map Cy))]) (fun j2 h => ?_) (fun v2 h => ?_)
 ·refine Ai Aw rfl (qm rfl (BH rfl (qm rfl ?_)))
  refine Dc 16 h rfl (fun h => ?_) fun h => ?_
  ·refine qw 4 rfl (qp rfl (Ac ?_))
   exact sn [(2004, 2001), (2005, 2002), (2006, 2003)] h
  ·refine qL BZ BB rfl (qL Bf AQ rfl ?_)
   refine BF h fun v4 a4 h => FN [] [2001, 2002, 2003] (Gj N p0 v1.1 v4 a4) Yu Eb rfl (CL rfl (qp rfl (Ac ?_)))
   exact sn [(2004, 2001), (2005, 2002), (2006, 2003)] h
 ·refine Bb h (fun h => ?_) fun h => ?_
  ·refine wq rfl (qe rfl ?_)
   obtain rfl := sj h
   refine Ah (sm [] [(4, bD true)] [] rfl rfl) (As ?_)
   exact ⟨⟨[_], tm, rfl⟩, tv⟩
  ·refine Al (wq rfl (qL BZ BB rfl (qL Bf AQ rfl (qm rfl (FO (AV 2004 _ _ rfl rfl) (FO (AV 2005 _ _ rfl rfl) (FO (AV 2006 _ _ rfl rfl) ?_)))))))
   refine BF h fun v6 a6 h => Av [2007] (I5 N p0 v1.1 p1 v6 a6) bv rfl (qm rfl (qx rfl (qx rfl (qa rfl (qa rfl (Ac (wq rfl (qm rfl (qe rfl ?_)))))))))
   obtain rfl := sj h
   refine Ah (sm [] [(4, bD v6.2)] [] rfl rfl) (As ?_)
   exact ⟨⟨[_], tm, rfl⟩, tv⟩
theorem JG (N : Nat) (p0 : Aa) (p1 : Ab) (r : Bool) (h : DD N p0 p1 = some r) : Au zA 167 [.e (.agg (Ag p0)), .e (.agg (AH p1))] [] (bD r) := by
 unfold DD at h
 refine cw (n := 36) (rs := [.tmp 4]) Tryz.func167 fun w0 S0 => ?_
 refine wq rfl (qb rfl (qb rfl (qa rfl (Ac (wp rfl (qL BZ BB rfl (qL Bf AQ rfl ?_)))))))
 refine BF h fun v1 a1 h => Av [] (Ep N p0 p1 v1 a1) Wc rfl (BH rfl (Ac ?_))
 refine Bb h (fun h => ?_) fun h => ?_
 ·refine wq rfl (qe rfl ?_)
  obtain rfl := sj h
  refine Ah (sm [] [(4, bD false)] [] rfl rfl) (As ?_)
  exact ⟨⟨[_], tm, rfl⟩, tv⟩
 ·refine Al (wp rfl (qe rfl ?_))
  refine AY (L := C8 N p0 p1) h (fun v3 => mk [(2, oD (.ptr 2 0)), (3, oD (.ptr 3 0)), (5, iD v3)] [(2, .box (Ag p0)), (3, .box (AH p1))]) (fun v4 => mk [] []) (fun _ _ => rfl) (sm [] _ _ rfl rfl) (fun j3 n3 v3 h => ?_) (fun v4 s h hs => ?_)
  ·unfold C8 at h
   refine wp rfl (qm rfl (qf Dj rfl (ql Bi rfl (AU AF rfl (A9 rfl (Ac ?_))))))
   refine Bb h (fun h => ?_) fun h => ?_
   ·refine Al (A5 (AX ?_))
    refine AI h (fun v6 => mk [(2, oD (.ptr 2 0)), (3, oD (.ptr 3 0)), (5, iD v3), (35, bD v6)] [(2, .box (Ag p0)), (3, .box (AH p1))]) (fun j6 h => ?_) (fun v6 h => ?_)
    ·refine Ai Aw rfl (qf BU rfl (ql Bi rfl (qm rfl ?_)))
     refine BY h fun v7 a7 b7 h => qi AF CQ a7 (Aj b7) rfl (qk A8 rfl (Eh rfl (qm rfl ?_)))
     refine Dc 23 h rfl (fun h => ?_) fun h => ?_
     ·refine qw 11 rfl (qp rfl (AJ (by kernel_rfl) ?_))
      exact sn [] h
     ·refine qf Dj rfl (ql Bi rfl (qm rfl ?_))
      refine BY h fun v9 a9 b9 h => qi AF CQ a9 (Aj b9) rfl (qk A8 rfl (qf J2 rfl (ql Bi rfl (qm rfl ?_))))
      refine BY h fun v10 a10 b10 h => qi AF CQ a10 (Aj b10) rfl (qk A8 rfl (BH rfl (qp rfl (AJ (by kernel_rfl) ?_))))
      exact sn [] h
    ·refine Bb h (fun h => ?_) fun h => ?_
     ·refine wq rfl (qe rfl ?_)
      obtain rfl := sj h
      refine Ah (sm [] [(4, bD false)] [] rfl rfl) (As ?_)
      exact ⟨⟨[_], tm, rfl⟩, tv⟩
     ·refine Al (Ai Aw rfl (qm rfl (Bp rfl (qe rfl ?_))))
      exact sn [] h
   ·refine Bh ?_
    exact sn [] h
  ·refine Ah hs (wq rfl (qe rfl ?_))
   obtain rfl := sj h
   refine Ah (sm [] [(4, bD true)] [] rfl rfl) (As ?_)
   exact ⟨⟨[_], tm, rfl⟩, tv⟩
theorem N5 (N : Nat) (p0 : List AD) (p1 : Int) (r : (List Ae)) (h : Gs N p0 p1 = some r) : Au zA 168 [pD (.sl (p0.map BS)), iD p1] [(3, r.map Ax)] (oD (.own 0)) := by
 unfold Gs at h
 refine cw (n := 26) (rs := [.tmp 4]) Tryz.func168 fun w0 S0 => ?_
 refine wq rfl (qa rfl (Ac (wq rfl (qa rfl (Ac (A5 ?_))))))
 refine AY (L := DN N p0) h (fun v1 => mk [(0, pD (.sl (p0.map BS))), (1, iD v1.1), (5, oD (.own 2001))] [(2001, .vec 3 (v1.2.map Ax))]) (fun v2 => mk [(5, oD (.own 2002))] [(2002, .vec 3 (v2.map Ax))]) (fun _ _ => rfl) ((Bl 5 2003 3 rfl rfl rfl).trans (sm [(2001, 2003)] _ _ rfl rfl)) (fun j1 n1 v1 h => ?_) (fun v2 s h hs => ?_)
 ·unfold DN at h
  refine wp rfl (qw 2 rfl ?_)
  refine BY h fun v3 a3 b3 h => qi HI MJ a3 (Aj b3) rfl (qg TB rfl (qk A8 rfl (Eh rfl (Ac ?_))))
  refine Bb h (fun h => ?_) fun h => ?_
  ·refine Al (AX (wq rfl (qw 2 rfl ?_)))
   refine BY h fun v5 a5 b5 h => qi HI MJ a5 (Aj b5) rfl (qg XI rfl (qK IE Ea rfl (EB DB Ea KU rfl (qm rfl ?_))))
   refine GJ h fun c6 h => EL (f := Ax) DB DB Ea Xd KU c6 rfl (qa rfl (Ac (Ai Aw rfl (qw 2 rfl ?_))))
   refine BY h fun v7 a7 b7 h => qi HI MJ a7 (Aj b7) rfl (qg TB rfl (qk A8 rfl (qe rfl ?_)))
   exact sn [(2001, 19)] h
  ·refine Bh ?_
   exact sn [(2002, 2001)] h
 ·refine Ah hs (wq rfl (qm rfl (qe rfl ?_)))
  obtain rfl := sj h
  refine Ah (sm [(1000, 2002)] [(4, oD (.own 1000))] [(1000, .vec 3 (v2.map Ax))] rfl rfl) (As ?_)
  exact ⟨⟨[_], tm, rfl⟩, ⟨rfl, tv⟩⟩
theorem Ng (N : Nat) (p0 : Aa) (p1 : Ab) (r : (List Ae) × Int) (h : Eo N p0 p1 = some r) : Au zA 133 [.e (.agg (Ag p0)), .e (.agg (AH p1))] [(3, r.1.map Ax)] (.tup [.one (.own 0), .one (iC r.2)]) := by
 unfold Eo at h
 refine cw (n := 44) (rs := [.tmp 4, .tmp 5]) Tryz.func133 fun w0 S0 => ?_
 refine wq rfl (qb rfl (qb rfl (qa rfl (qa rfl (Ac (wp rfl (qL BZ BB rfl (qL Bf AQ rfl ?_))))))))
 refine BF h fun v1 a1 h => Av [] (Ep N p0 p1 v1 a1) Wc rfl (qa rfl (Ac (wq rfl (qm rfl (BH rfl (Ac ?_))))))
 refine Bb h (fun h => ?_) fun h => ?_
 ·refine wq rfl (qm rfl (qa rfl (qe rfl ?_)))
  obtain rfl := sj h
  refine Ah ((Bl 4 2001 3 rfl rfl rfl).trans (sm [(1000, 2001)] [(4, oD (.own 1000)), (5, iD v1)] [(1000, .vec 3 ((([] : List Ae)).map Ax))] rfl rfl)) (As ?_)
  exact ⟨⟨[_, _], ⟨.tmp _ _ rfl, tm⟩, rfl⟩, ⟨rfl, tv⟩⟩
 ·refine Al (wp rfl (qL BZ BB rfl (qL Bf AQ rfl ?_)))
  refine BF h fun v3 a3 h => Av [] (Gj N p0 p1 v3 a3) Yu rfl (CL rfl (Ac ?_))
  refine Bb h (fun h => ?_) fun h => ?_
  ·refine wq rfl (qa rfl (qe rfl ?_))
   obtain rfl := sj h
   refine Ah ((Bl 4 2002 3 rfl rfl rfl).trans (sm [(1000, 2002)] [(4, oD (.own 1000)), (5, iD 13)] [(1000, .vec 3 ((([] : List Ae)).map Ax))] rfl rfl)) (As ?_)
   exact ⟨⟨[_, _], ⟨.tmp _ _ rfl, tm⟩, rfl⟩, ⟨rfl, tv⟩⟩
  ·refine Al (wq rfl (qL BZ BB rfl (qL Bf AQ rfl ?_)))
   refine BF h fun v5 a5 h => Av [2003] (I5 N p0 p1 20000 v5 a5) bv rfl (qm rfl (qx rfl (qx rfl (qa rfl (qa rfl (Ac (wp rfl (qm rfl (CL rfl (Ac ?_))))))))))
   refine Bb h (fun h => ?_) fun h => ?_
   ·refine wq rfl (qa rfl (qe rfl ?_))
    obtain rfl := sj h
    refine Ah ((Bl 4 2004 3 rfl rfl rfl).trans (sm [(1000, 2004)] [(4, oD (.own 1000)), (5, iD 3)] [(1000, .vec 3 ((([] : List Ae)).map Ax))] rfl rfl)) (As ?_)
    exact ⟨⟨[_, _], ⟨.tmp _ _ rfl, tm⟩, rfl⟩, ⟨rfl, tv⟩⟩
   ·refine Al (wp rfl (qe rfl ?_))
    refine AY (L := CF N p0 v5) h (fun v7 => mk [(2, oD (.ptr 2 0)), (7, oD (.own 2005)), (9, iD v7)] [(2, .box (Ag p0)), (2005, .vec 7 (v5.1.map BS))]) (fun v8 => mk [] []) (fun _ _ => rfl) (sm [(2005, 2003)] _ _ rfl rfl) (fun j7 n7 v7 h => ?_) (fun v8 s h hs => ?_)
    ·unfold CF at h
     refine wp rfl (qw 2 rfl (GG HI rfl (A9 rfl (Ac ?_))))
     refine Bb h (fun h => ?_) fun h => ?_
     ·refine Al (A5 (AX (wq rfl (qL BZ BB rfl (qw 2 rfl ?_)))))
      refine BY h fun v10 a10 b10 h => qI HI MJ a10 (Aj b10) rfl (qh NS rfl ?_)
      refine PA (.p rfl) rfl Bf AQ rfl (Aj b10) rfl rfl (by decide) ?_
      refine BF h fun v11 a11 h => Av [] (JG N p0 ((Ab.mk v10.gB.gI v10.gB.gF v10.gB.gG)) v11 a11) bh rfl (AJ (by kernel_rfl) ?_)
      refine Bb h (fun h => ?_) fun h => ?_
      ·refine wq rfl (qw 2 rfl ?_)
       refine BF h fun v13 a13 h => FN [2006] [2005] (N5 N v5.1 v7 v13 a13) d4 (G4 (fun _ => rfl) Eb) rfl (qa rfl (qe rfl ?_))
       obtain rfl := sj h
       refine Ah (sm [(1000, 2006)] [(4, oD (.own 1000)), (5, iD 0)] [(1000, .vec 3 (v13.map Ax))] rfl rfl) (As ?_)
       exact ⟨⟨[_, _], ⟨.tmp _ _ rfl, tm⟩, rfl⟩, ⟨rfl, tv⟩⟩
      ·refine Al (Ai Aw rfl (qm rfl (Bp rfl (qe rfl ?_))))
       exact sn [] h
     ·refine Bh ?_
      exact sn [] h
    ·refine Ah hs (wq rfl (qa rfl (qe rfl ?_)))
     obtain rfl := sj h
     refine Ah ((Bl 4 2007 3 rfl rfl rfl).trans (sm [(1000, 2007)] [(4, oD (.own 1000)), (5, iD 14)] [(1000, .vec 3 ((([] : List Ae)).map Ax))] rfl rfl)) (As ?_)
     exact ⟨⟨[_, _], ⟨.tmp _ _ rfl, tm⟩, rfl⟩, ⟨rfl, tv⟩⟩
theorem MZ (N : Nat) (p0 : Aa) (r : (List Ae) × Int) (h : Fh N p0 = some r) : Au zA 96 [.e (.agg (Ag p0))] [(3, r.1.map Ax)] (.tup [.one (.own 0), .one (iC r.2)]) := by
 unfold Fh at h
 refine cw (n := 19) (rs := [.tmp 2, .tmp 3]) Tryz.func96 fun w0 S0 => ?_
 refine wq rfl (qb rfl (qa rfl (qa rfl (Ac (wq rfl (qL BZ BB rfl ?_))))))
 refine BF h fun v1 a1 h => Av [2001, 2002, 2003] (Fj N p0 v1 a1) Xa rfl (qm rfl (qx rfl (qx rfl (qz CM rfl (qs AQ rfl (qa rfl (Ac (wp rfl (qm rfl (BH rfl (Ac ?_)))))))))))
 refine Bb h (fun h => ?_) fun h => ?_
 ·refine wq rfl (qm rfl (qa rfl (qe rfl ?_)))
  obtain rfl := sj h
  refine Ah ((Bl 2 2004 3 rfl rfl rfl).trans (sm [(1000, 2004)] [(2, oD (.own 1000)), (3, iD v1.2)] [(1000, .vec 3 ((([] : List Ae)).map Ax))] rfl rfl)) (As ?_)
  exact ⟨⟨[_, _], ⟨.tmp _ _ rfl, tm⟩, rfl⟩, ⟨rfl, tv⟩⟩
 ·refine Al (wq rfl (qL BZ BB rfl (qL Bf AQ rfl ?_)))
  refine BF h fun v3 a3 h => FN [2005] [2001, 2002, 2003] (Ng N p0 v1.1 v3 a3) d6 (G4 (fun _ => rfl) Eb) rfl (qx rfl (qx rfl (qa rfl (qe rfl ?_))))
  obtain rfl := sj h
  refine Ah (sm [(1000, 2005)] [(2, oD (.own 1000)), (3, iD v3.2)] [(1000, .vec 3 (v3.1.map Ax))] rfl rfl) (As ?_)
  exact ⟨⟨[_, _], ⟨.tmp _ _ rfl, tm⟩, rfl⟩, ⟨rfl, tv⟩⟩
theorem GO (N : Nat) (p0 : Aa) (p1 : List Int) (r : Int) (h : C7 N p0 p1 = some r) : Au zA 58 [.e (.agg (Ag p0)), pD (.sl (p1.map Aq))] [] (iD r) := by
 unfold C7 at h
 refine cw (n := 36) (rs := [.tmp 4]) Tryz.func58 fun w0 S0 => ?_
 refine wq rfl (qb rfl (qa rfl (Ac (wp rfl (qL BZ BB rfl ?_)))))
 refine BF h fun v1 a1 h => Av [] (Em N p0 v1 a1) Y4 rfl (qa rfl (Ac (wq rfl (qm rfl (BH rfl (Ac ?_))))))
 refine Bb h (fun h => ?_) fun h => ?_
 ·refine wq rfl (qm rfl (qe rfl ?_))
  obtain rfl := sj h
  refine Ah (sm [] [(4, iD v1)] [] rfl rfl) (As ?_)
  exact ⟨⟨[_], tm, rfl⟩, tv⟩
 ·refine Al (wp rfl (qm rfl (AU AF rfl (qf Bx rfl (ql Bi rfl (AU AF rfl (BH rfl (Ac ?_))))))))
  refine Bb h (fun h => ?_) fun h => ?_
  ·refine wq rfl (qe rfl ?_)
   obtain rfl := sj h
   refine Ah (sm [] [(4, iD 6)] [] rfl rfl) (As ?_)
   exact ⟨⟨[_], tm, rfl⟩, tv⟩
  ·refine Al (wp rfl (qe rfl ?_))
   refine AY (L := C4 N p1) h (fun v4 => mk [(1, pD (.sl (p1.map Aq))), (6, iD v4)] []) (fun v5 => mk [] []) (fun _ _ => rfl) (sm [] _ _ rfl rfl) (fun j4 n4 v4 h => ?_) (fun v5 s h hs => ?_)
   ·unfold C4 at h
    refine wp rfl (qw 2 rfl (AU AF rfl (A9 rfl (Ac ?_))))
    refine Bb h (fun h => ?_) fun h => ?_
    ·refine Al (A5 (AX ?_))
     refine AI h (fun v7 => mk [(1, pD (.sl (p1.map Aq))), (6, iD v4), (35, bD v7)] []) (fun j7 h => ?_) (fun v7 h => ?_)
     ·refine Ai Aw rfl (qw 2 rfl ?_)
      refine BY h fun v8 a8 b8 h => qi AF CQ a8 (Aj b8) rfl (qk A8 rfl (A9 rfl (qm rfl ?_)))
      refine Dc 29 h rfl (fun h => ?_) fun h => ?_
      ·refine qw 5 rfl (qp rfl (Ac ?_))
       exact sn [] h
      ·refine qw 2 rfl ?_
       refine BY h fun v10 a10 b10 h => qi AF CQ a10 (Aj b10) rfl (qk A8 rfl (FQ rfl (qp rfl (Ac ?_))))
       exact sn [] h
     ·refine Bb h (fun h => ?_) fun h => ?_
      ·refine wq rfl (qe rfl ?_)
       obtain rfl := sj h
       refine Ah (sm [] [(4, iD 7)] [] rfl rfl) (As ?_)
       exact ⟨⟨[_], tm, rfl⟩, tv⟩
      ·refine Al (Ai Aw rfl (qm rfl (Bp rfl (qe rfl ?_))))
       exact sn [] h
    ·refine Bh ?_
     exact sn [] h
   ·refine Ah hs (wq rfl (qe rfl ?_))
    obtain rfl := sj h
    refine Ah (sm [] [(4, iD 0)] [] rfl rfl) (As ?_)
    exact ⟨⟨[_], tm, rfl⟩, tv⟩
theorem LQ (N : Nat) (p0 : Aa) (p1 : Ab) (r : (List Ab) × Int) (h : Fz N p0 p1 = some r) : Au zA 196 [.e (.agg (Ag p0)), .e (.agg (AH p1))] [(3, r.1.map CZ)] (.tup [.one (.own 0), .one (iC r.2)]) := by
 unfold Fz at h
 refine cw (n := 15) (rs := [.tmp 4, .tmp 5]) Tryz.func196 fun w0 S0 => ?_
 refine wq rfl (qb rfl (qb rfl (qa rfl (qa rfl (Ac (wp rfl (qL BZ BB rfl (qL Bf AQ rfl ?_))))))))
 refine BF h fun v1 a1 h => Av [] (Ep N p0 p1 v1 a1) Wc rfl (qa rfl (Ac (wq rfl (qm rfl (BH rfl (Ac ?_))))))
 refine Bb h (fun h => ?_) fun h => ?_
 ·refine wq rfl (qm rfl (qa rfl (qe rfl ?_)))
  obtain rfl := sj h
  refine Ah ((Bl 4 2001 3 rfl rfl rfl).trans (sm [(1000, 2001)] [(4, oD (.own 1000)), (5, iD v1)] [(1000, .vec 3 ((([] : List Ab)).map CZ))] rfl rfl)) (As ?_)
  exact ⟨⟨[_, _], ⟨.tmp _ _ rfl, tm⟩, rfl⟩, ⟨rfl, tv⟩⟩
 ·refine Al (wq rfl (qL Bf AQ rfl ?_))
  refine BF h fun v3 a3 h => Av [2002] (J6 N p1 v3 a3) bg rfl (qa rfl (qe rfl ?_))
  obtain rfl := sj h
  refine Ah (sm [(1000, 2002)] [(4, oD (.own 1000)), (5, iD 0)] [(1000, .vec 3 (v3.map CZ))] rfl rfl) (As ?_)
  exact ⟨⟨[_, _], ⟨.tmp _ _ rfl, tm⟩, rfl⟩, ⟨rfl, tv⟩⟩
theorem MC (N : Nat) (p0 : Aa) (p1 : Ab) (r : Ab × Az × Int) (h : EX N p0 p1 = some r) : Au zA 188 [.e (.agg (Ag p0)), .e (.agg (AH p1))] [] (.tup [.agg (AH r.1), .agg (Ji r.2.1), .one (iC r.2.2)]) := by
 unfold EX at h
 refine cw (n := 46) (rs := [.cell 4 40, .cell 5 226, .tmp 6]) Tryz.func188 fun w0 S0 => ?_
 refine wq rfl (qb rfl (qb rfl (qz CM rfl (qz I2 rfl (qa rfl (Ac (wq rfl (qL BZ BB rfl (qL Bf AQ rfl ?_)))))))))
 refine BF h fun v1 a1 h => Av [2001] (LQ N p0 p1 v1 a1) dU rfl (qm rfl (qx rfl (qx rfl (qa rfl (qa rfl (Ac (wp rfl (qm rfl (BH rfl (Ac ?_))))))))))
 refine Bb h (fun h => ?_) fun h => ?_
 ·refine wq rfl (AS CM G1 rfl (AS I2 OJ rfl (qm rfl (qs AQ rfl (qs Gw rfl (qe rfl ?_))))))
  obtain rfl := sj h
  refine Ah ((D4 4 _ rfl).trans (sm [] [(4, oD (.ptr 4 0)), (5, oD (.ptr 5 0)), (6, iD v1.2)] [(4, .box [sC ((([] : List Int)).map Aq), sC ((([] : List Int)).map Aq), sC ((([] : List Int)).map Cy)]), (5, .box [iC 0, iC 0, iC 0])] rfl rfl)) (As ?_)
  exact ⟨⟨[_, _, _], ⟨.cellN _ _ _ _ _ _ _ rfl rfl Bf AQ rfl rfl (E1 rfl), ⟨.cellN _ _ _ _ _ _ _ rfl rfl MU Gw rfl rfl (E1 rfl), tm⟩⟩, rfl⟩, tv⟩
 ·refine Al (wp rfl (qe rfl ?_))
  refine AY (L := CY N p0 v1) h (fun v3 => mk [(2, oD (.ptr 2 0)), (4, oD (.ptr 4 0)), (5, oD (.ptr 5 0)), (7, oD (.own 2002)), (9, iD v3)] [(2, .box (Ag p0)), (4, .box [.pure (.nil0), .pure (.nil0), .pure (.nil0)]), (5, .box [iC 0, iC 0, iC 0]), (2002, .vec 3 (v1.1.map CZ))]) (fun v4 => mk [(4, oD (.ptr 4 0)), (5, oD (.ptr 5 0))] [(4, .box [.pure (.nil0), .pure (.nil0), .pure (.nil0)]), (5, .box [iC 0, iC 0, iC 0])]) (fun _ _ => rfl) (sm [(2002, 2001)] _ _ rfl rfl) (fun j3 n3 v3 h => ?_) (fun v4 s h hs => ?_)
  ·unfold CY at h
   refine wp rfl (qw 2 rfl (GG FV rfl (A9 rfl (Ac ?_))))
   refine Bb h (fun h => ?_) fun h => ?_
   ·refine Al (A5 (AX (wq rfl (qL BZ BB rfl (qw 2 rfl ?_)))))
    refine BY h fun v6 a6 b6 h => qI FV AQ a6 (Aj b6) rfl (qJ Bf AQ (Aj b6) rfl ?_)
    refine BF h fun v7 a7 h => Av [2003] (Jc N p0 v6 v7 a7) aV rfl (qa rfl (AJ (by kernel_rfl) (wq rfl (qm rfl (GG Lb rfl (FQ rfl (Ac ?_)))))))
    refine Bb h (fun h => ?_) fun h => ?_
    ·refine wq rfl (qw 2 rfl ?_)
     refine BY h fun v9 a9 b9 h => qI FV AQ a9 (Aj b9) rfl (qJ Bf AQ (Aj b9) rfl (qm rfl ?_))
     refine BY h fun v10 a10 b10 h => qI Lb Gw a10 (Aj b10) rfl (qJ MU Gw (Aj b10) rfl (qs AQ rfl (qs Gw rfl (qa rfl (AJ (by kernel_rfl) ?_)))))
     obtain rfl := sj h
     refine Ah (sm [] [(4, oD (.ptr 4 0)), (5, oD (.ptr 5 0)), (6, iD 0)] [(4, .box (AH v9)), (5, .box (Ji v10))] rfl rfl) (As ?_)
     exact ⟨⟨[_, _, _], ⟨.cellN _ _ _ _ _ _ _ rfl rfl Bf AQ rfl rfl (E1 rfl), ⟨.cellN _ _ _ _ _ _ _ rfl rfl MU Gw rfl rfl (E1 rfl), tm⟩⟩, rfl⟩, tv⟩
    ·refine Al (Ai Aw rfl (qm rfl (Bp rfl (qe rfl ?_))))
     exact sn [] h
   ·refine Bh ?_
    exact sn [] h
  ·refine Ah hs (wq rfl (AS CM G1 rfl (AS I2 OJ rfl (qs AQ rfl (qs Gw rfl (qe rfl ?_))))))
   obtain rfl := sj h
   refine Ah ((D4 4 _ rfl).trans (sm [] [(4, oD (.ptr 4 0)), (5, oD (.ptr 5 0)), (6, iD 15)] [(4, .box [sC ((([] : List Int)).map Aq), sC ((([] : List Int)).map Aq), sC ((([] : List Int)).map Cy)]), (5, .box [iC 0, iC 0, iC 0])] rfl rfl)) (As ?_)
   exact ⟨⟨[_, _, _], ⟨.cellN _ _ _ _ _ _ _ rfl rfl Bf AQ rfl rfl (E1 rfl), ⟨.cellN _ _ _ _ _ _ _ rfl rfl MU Gw rfl rfl (E1 rfl), tm⟩⟩, rfl⟩, tv⟩
theorem Ln (N : Nat) (p0 : Aa) (p1 : List Ae) (r : Int × Ab × Az × Int) (h : El N p0 p1 = some r) : Au zA 169 [.e (.agg (Ag p0)), pD (.sl (p1.map Ax))] [] (.tup [.one (iC r.1), .agg (AH r.2.1), .agg (Ji r.2.2.1), .one (iC r.2.2.2)]) := by
 unfold El at h
 refine cw (n := 80) (rs := [.tmp 4, .cell 5 40, .cell 6 226, .tmp 7]) Tryz.func169 fun w0 S0 => ?_
 refine wq rfl (qb rfl (qa rfl (qz CM rfl (qz I2 rfl (qa rfl (Ac (wq rfl (qL BZ BB rfl ?_))))))))
 refine BF h fun v1 a1 h => Av [2001, 2002, 2003] (Fj N p0 v1 a1) Xa rfl (qm rfl (qx rfl (qx rfl (qz CM rfl (qs AQ rfl (qa rfl (Ac (wp rfl (qm rfl (BH rfl (Ac ?_)))))))))))
 refine Bb h (fun h => ?_) fun h => ?_
 ·refine wq rfl (AS CM G1 rfl (AS I2 OJ rfl (qm rfl (qa rfl (qs AQ rfl (qs Gw rfl (qe rfl ?_)))))))
  obtain rfl := sj h
  refine Ah ((D4 5 _ rfl).trans (sm [] [(4, iD 0), (5, oD (.ptr 5 0)), (6, oD (.ptr 6 0)), (7, iD v1.2)] [(5, .box [sC ((([] : List Int)).map Aq), sC ((([] : List Int)).map Aq), sC ((([] : List Int)).map Cy)]), (6, .box [iC 0, iC 0, iC 0])] rfl rfl)) (As ?_)
  exact ⟨⟨[_, _, _, _], ⟨.tmp _ _ rfl, ⟨.cellN _ _ _ _ _ _ _ rfl rfl Bf AQ rfl rfl (E1 rfl), ⟨.cellN _ _ _ _ _ _ _ rfl rfl MU Gw rfl rfl (E1 rfl), tm⟩⟩⟩, rfl⟩, tv⟩
 ·refine Al (wp rfl (qe rfl ?_))
  refine AY (L := Cx N p0 p1) h (fun v3 => mk [(1, pD (.sl (p1.map Ax))), (2, oD (.ptr 2 0)), (5, oD (.ptr 5 0)), (6, oD (.ptr 6 0)), (8, oD (.ptr 8 0)), (10, iD v3.2.2.2)] [(2, .box (Ag p0)), (5, .box [.pure (.nil0), .pure (.nil0), .pure (.nil0)]), (6, .box [iC 0, iC 0, iC 0]), (8, .box [sC (v3.1.map Aq), sC (v3.2.1.map Aq), sC (v3.2.2.1.map Cy)])]) (fun v4 => mk [(1, pD (.sl (p1.map Ax))), (2, oD (.ptr 2 0)), (5, oD (.ptr 5 0)), (6, oD (.ptr 6 0)), (8, oD (.ptr 8 0))] [(2, .box (Ag p0)), (5, .box [.pure (.nil0), .pure (.nil0), .pure (.nil0)]), (6, .box [iC 0, iC 0, iC 0]), (8, .box (AH v4))]) (fun _ _ => rfl) ((AV 2001 _ _ rfl rfl).trans ((AV 2002 _ _ rfl rfl).trans ((AV 2003 _ _ rfl rfl).trans (sm [] _ _ rfl rfl)))) (fun j3 n3 v3 h => ?_) (fun v4 s h hs => ?_)
  ·unfold Cx at h
   refine wp rfl (qw 2 rfl (AU DB rfl (A9 rfl (Ac ?_))))
   refine Bb h (fun h => ?_) fun h => ?_
   ·refine Al (A5 (AX ?_))
    refine AI h (fun v6 => mk [(1, pD (.sl (p1.map Ax))), (2, oD (.ptr 2 0)), (5, oD (.ptr 5 0)), (6, oD (.ptr 6 0)), (8, oD (.ptr 8 0)), (10, iD v3.2.2.2)] [(2, .box (Ag p0)), (5, .box [.pure (.nil0), .pure (.nil0), .pure (.nil0)]), (6, .box [iC 0, iC 0, iC 0]), (8, .box [sC (v6.1.map Aq), sC (v6.2.1.map Aq), sC (v6.2.2.map Cy)])]) (fun j6 h => ?_) (fun v6 h => ?_)
    ·refine wq rfl (qm rfl (Eh rfl (Ac ?_)))
     refine Bb h (fun h => ?_) fun h => ?_
     ·refine wq rfl (qL BZ BB rfl (qL Bf AQ rfl (qw 2 rfl ?_)))
      refine BY h fun v8 a8 b8 h => qi DB Ea a8 (Aj b8) rfl (qK IE Ea rfl ?_)
      refine BF h fun v9 a9 h => Av [2004, 2005, 2006] (Hk N p0 ((Ab.mk v3.1 v3.2.1 v3.2.2.1)) v8 v9 a9) W9 rfl (qm rfl (qx rfl (qx rfl (qz CM rfl (qs AQ rfl (qa rfl (AJ (by kernel_rfl) (A5 ?_))))))))
      refine AI h (fun v10 => mk [(1, pD (.sl (p1.map Ax))), (2, oD (.ptr 2 0)), (5, oD (.ptr 5 0)), (6, oD (.ptr 6 0)), (8, oD (.ptr 8 0)), (10, iD v3.2.2.2), (11, oD (.ptr 11 0)), (53, bD v10)] [(2, .box (Ag p0)), (5, .box [.pure (.nil0), .pure (.nil0), .pure (.nil0)]), (6, .box [iC 0, iC 0, iC 0]), (8, .box [sC (v3.1.map Aq), sC (v3.2.1.map Aq), sC (v3.2.2.1.map Cy)]), (11, .box [.own 2007, .own 2008, .own 2009]), (2007, .vec 1 (v9.1.gI.map Aq)), (2008, .vec 1 (v9.1.gF.map Aq)), (2009, .vec 1 (v9.1.gG.map Cy))]) (fun j10 h => ?_) (fun v10 h => ?_)
      ·refine Ai Aw rfl (qm rfl (BH rfl (qm rfl ?_)))
       refine Dc 46 h rfl (fun h => ?_) fun h => ?_
       ·refine qw 6 rfl (qp rfl (Ac ?_))
        exact sn [(2007, 2004), (2008, 2005), (2009, 2006)] h
       ·refine qw 2 rfl ?_
        refine BY h fun v12 a12 b12 h => qi DB Ea a12 (Aj b12) rfl (qg DK rfl (qk A8 rfl (AN rfl (qp rfl (Ac ?_)))))
        exact sn [(2007, 2004), (2008, 2005), (2009, 2006)] h
      ·refine Bb h (fun h => ?_) fun h => ?_
       ·refine wq rfl (qm rfl (AS CM G1 rfl (AS I2 OJ rfl (qa rfl (qs AQ rfl (qs Gw rfl (qe rfl ?_)))))))
        obtain rfl := sj h
        refine Ah ((D4 5 _ rfl).trans (sm [] [(4, iD v3.2.2.2), (5, oD (.ptr 5 0)), (6, oD (.ptr 6 0)), (7, iD 0)] [(5, .box [sC ((([] : List Int)).map Aq), sC ((([] : List Int)).map Aq), sC ((([] : List Int)).map Cy)]), (6, .box [iC 0, iC 0, iC 0])] rfl rfl)) (As ?_)
        exact ⟨⟨[_, _, _, _], ⟨.tmp _ _ rfl, ⟨.cellN _ _ _ _ _ _ _ rfl rfl Bf AQ rfl rfl (E1 rfl), ⟨.cellN _ _ _ _ _ _ _ rfl rfl MU Gw rfl rfl (E1 rfl), tm⟩⟩⟩, rfl⟩, tv⟩
       ·refine Al (Ai Aw rfl (qL Bf AQ rfl (qs AQ rfl (Ac ?_))))
        exact YI _ h ((AV 2007 _ _ rfl rfl).trans ((AV 2008 _ _ rfl rfl).trans ((AV 2009 _ _ rfl rfl).trans (sm [] _ _ rfl rfl))))
     ·refine Al ?_
      exact sn [] h
    ·refine wq rfl (qL BZ BB rfl (qL Bf AQ rfl ?_))
     refine BF h fun v14 a14 h => Av [] (MC N p0 ((Ab.mk v6.1 v6.2.1 v6.2.2)) v14 a14) di rfl (qm rfl (qx rfl (qx rfl (qx rfl (qz CM rfl (qz I2 rfl (qs AQ rfl (qs Gw rfl (qa rfl (Ac (wq rfl (qm rfl (AN rfl (Ac ?_))))))))))))))
     refine Bb h (fun h => ?_) fun h => ?_
     ·refine wq rfl (qm rfl (qL Bf AQ rfl (qL MU Gw rfl (qa rfl (qs AQ rfl (qs Gw rfl (qa rfl (AJ (by kernel_rfl) ?_))))))))
      obtain rfl := sj h
      refine Ah (sm [] [(4, iD v3.2.2.2), (5, oD (.ptr 5 0)), (6, oD (.ptr 6 0)), (7, iD 0)] [(5, .box (AH v14.1)), (6, .box (Ji v14.2.1))] rfl rfl) (As ?_)
      exact ⟨⟨[_, _, _, _], ⟨.tmp _ _ rfl, ⟨.cellN _ _ _ _ _ _ _ rfl rfl Bf AQ rfl rfl (E1 rfl), ⟨.cellN _ _ _ _ _ _ _ rfl rfl MU Gw rfl rfl (E1 rfl), tm⟩⟩⟩, rfl⟩, tv⟩
     ·refine Al (Ai Aw rfl (qm rfl (Bp rfl (qe rfl ?_))))
      exact sn [] h
   ·refine Bh ?_
    exact sn [] h
  ·refine Ah hs (wp rfl (qL BZ BB rfl (qL Bf AQ rfl ?_)))
   refine BF h fun v16 a16 h => Av [] (JG N p0 v4 v16 a16) bh rfl (CL rfl (Ac ?_))
   refine Bb h (fun h => ?_) fun h => ?_
   ·refine wq rfl (qm rfl (AU DB rfl (AS CM G1 rfl (AS I2 OJ rfl (qa rfl (qs AQ rfl (qs Gw rfl (qe rfl ?_))))))))
    obtain rfl := sj h
    refine Ah ((D4 5 _ rfl).trans (sm [] [(4, iD ((p1.length : Int))), (5, oD (.ptr 5 0)), (6, oD (.ptr 6 0)), (7, iD 14)] [(5, .box [sC ((([] : List Int)).map Aq), sC ((([] : List Int)).map Aq), sC ((([] : List Int)).map Cy)]), (6, .box [iC 0, iC 0, iC 0])] rfl rfl)) (As ?_)
    exact ⟨⟨[_, _, _, _], ⟨.tmp _ _ rfl, ⟨.cellN _ _ _ _ _ _ _ rfl rfl Bf AQ rfl rfl (E1 rfl), ⟨.cellN _ _ _ _ _ _ _ rfl rfl MU Gw rfl rfl (E1 rfl), tm⟩⟩⟩, rfl⟩, tv⟩
   ·refine Al (wq rfl (AS CM G1 rfl (AS I2 OJ rfl (qa rfl (qs AQ rfl (qs Gw rfl (qe rfl ?_)))))))
    obtain rfl := sj h
    refine Ah ((D4 5 _ rfl).trans (sm [] [(4, iD 0), (5, oD (.ptr 5 0)), (6, oD (.ptr 6 0)), (7, iD 15)] [(5, .box [sC ((([] : List Int)).map Aq), sC ((([] : List Int)).map Aq), sC ((([] : List Int)).map Cy)]), (6, .box [iC 0, iC 0, iC 0])] rfl rfl)) (As ?_)
    exact ⟨⟨[_, _, _, _], ⟨.tmp _ _ rfl, ⟨.cellN _ _ _ _ _ _ _ rfl rfl Bf AQ rfl rfl (E1 rfl), ⟨.cellN _ _ _ _ _ _ _ rfl rfl MU Gw rfl rfl (E1 rfl), tm⟩⟩⟩, rfl⟩, tv⟩
theorem I3 (N : Nat) (p0 : Aa) (p1 : List Ae) (r : Bool) (h : Ec N p0 p1 = some r) : Au zA 134 [.e (.agg (Ag p0)), pD (.sl (p1.map Ax))] [] (bD r) := by
 unfold Ec at h
 refine cw (n := 19) (rs := [.tmp 4]) Tryz.func134 fun w0 S0 => ?_
 refine wq rfl (qb rfl (qa rfl (Ac (wq rfl (qL BZ BB rfl (qm rfl ?_))))))
 refine BF h fun v1 a1 h => Av [] (Ln N p0 p1 v1 a1) dt rfl (qm rfl (qx rfl (qx rfl (qx rfl (qx rfl (qz CM rfl (qz I2 rfl (qa rfl (qs AQ rfl (qs Gw rfl (qa rfl (Ac (wq rfl (qm rfl (AN rfl (qe rfl ?_))))))))))))))))
 obtain rfl := sj h
 refine Ah (sm [] [(4, bD ((v1.2.2.2 == 15)))] [] rfl rfl) (As ?_)
 exact ⟨⟨[_], tm, rfl⟩, tv⟩
theorem NR (N : Nat) (p0 : Aa) (p1 : List Int) (p2 : List Ae) (r : Ak × Int) (h : EM N p0 p1 p2 = some r) : Au zA 97 [.e (.agg (Ag p0)), pD (.sl (p1.map Aq)), pD (.sl (p2.map Ax))] [(3, r.1.gT.map Ax), (1, r.1.gB.gI.map Aq), (1, r.1.gB.gF.map Aq), (1, r.1.gB.gG.map Cy)] (.tup [.agg [.own 0, iC r.1.gE, iC r.1.gQ, iC r.1.gO, iC r.1.gP, iC r.1.gN, .own 1, .own 2, .own 3], .one (iC r.2)]) := by
 unfold EM at h
 refine cw (n := 39) (rs := [.cell 6 91, .tmp 7]) Tryz.func97 fun w0 S0 => ?_
 refine wq rfl (qb rfl (qz KF rfl (qa rfl (Ac (wp rfl (qL BZ BB rfl (qm rfl ?_)))))))
 refine BF h fun v1 a1 h => Av [] (GO N p0 p1 v1 a1) cC rfl (qa rfl (Ac (wq rfl (qm rfl (BH rfl (Ac ?_))))))
 refine Bb h (fun h => ?_) fun h => ?_
 ·refine wq rfl (AS KF Wo rfl (qm rfl (qs B1 rfl (qe rfl ?_))))
  obtain rfl := sj h
  refine Ah ((Ay 6 0 2001 3 _ rfl rfl rfl rfl).trans ((Ay 6 6 2002 1 _ rfl rfl rfl rfl).trans ((Ay 6 7 2003 1 _ rfl rfl rfl rfl).trans ((Ay 6 8 2004 1 _ rfl rfl rfl rfl).trans (sm [(1000, 2001), (1001, 2002), (1002, 2003), (1003, 2004)] [(6, oD (.ptr 6 0)), (7, iD v1)] [(6, .box [.own 1000, iC 0, iC 0, iC 0, iC 0, iC 0, .own 1001, .own 1002, .own 1003]), (1000, .vec 3 ((([] : List Ae)).map Ax)), (1001, .vec 1 ((([] : List Int)).map Aq)), (1002, .vec 1 ((([] : List Int)).map Aq)), (1003, .vec 1 ((([] : List Int)).map Cy))] rfl rfl))))) (As ?_)
  exact ⟨⟨[_, _], ⟨.cellN _ _ _ _ _ _ _ rfl rfl Dx B1 rfl rfl (E1 rfl), tm⟩, rfl⟩, ⟨rfl, rfl, rfl, rfl, tv⟩⟩
 ·refine Al (wp rfl (qL BZ BB rfl (qm rfl ?_)))
  refine BF h fun v3 a3 h => Av [] (I3 N p0 p2 v3 a3) bm rfl (CL rfl (Ac ?_))
  refine Bb h (fun h => ?_) fun h => ?_
  ·refine wq rfl (AS KF Wo rfl (qs B1 rfl (qe rfl ?_)))
   obtain rfl := sj h
   refine Ah ((Ay 6 0 2005 3 _ rfl rfl rfl rfl).trans ((Ay 6 6 2006 1 _ rfl rfl rfl rfl).trans ((Ay 6 7 2007 1 _ rfl rfl rfl rfl).trans ((Ay 6 8 2008 1 _ rfl rfl rfl rfl).trans (sm [(1000, 2005), (1001, 2006), (1002, 2007), (1003, 2008)] [(6, oD (.ptr 6 0)), (7, iD 13)] [(6, .box [.own 1000, iC 0, iC 0, iC 0, iC 0, iC 0, .own 1001, .own 1002, .own 1003]), (1000, .vec 3 ((([] : List Ae)).map Ax)), (1001, .vec 1 ((([] : List Int)).map Aq)), (1002, .vec 1 ((([] : List Int)).map Aq)), (1003, .vec 1 ((([] : List Int)).map Cy))] rfl rfl))))) (As ?_)
   exact ⟨⟨[_, _], ⟨.cellN _ _ _ _ _ _ _ rfl rfl Dx B1 rfl rfl (E1 rfl), tm⟩, rfl⟩, ⟨rfl, rfl, rfl, rfl, tv⟩⟩
  ·refine Al (wq rfl (qL BZ BB rfl ?_))
   refine BF h fun v5 a5 h => Av [2009, 2010, 2011] (Fj N p0 v5 a5) Xa rfl (qm rfl (qx rfl (qx rfl (qz CM rfl (qs AQ rfl (qa rfl (Ac (wq rfl (EB DB Ea KU rfl (qm rfl ?_))))))))))
   refine GJ h fun c6 h => K8 (f := Ax) DB DB Ea Xd KU (fun _ => rfl) c6 rfl (qL Bf AQ rfl (AS KF Wo rfl (qz KF rfl (qs B1 rfl (AJ (by kernel_rfl) ?_)))))
   refine AI h (fun v7 => mk [(6, oD (.ptr 6 0)), (11, oD (.ptr 11 0))] [(6, .box [.pure (.nil0), iC 0, iC 0, iC 0, iC 0, iC 0, .pure (.nil0), .pure (.nil0), .pure (.nil0)]), (11, .box [.own 2012, iC 0, iC v7, iC 0, iC 0, iC 0, .own 2013, .own 2014, .own 2015]), (2012, .vec 3 (((([] : List Ae)) ++ p2).map Ax)), (2013, .vec 1 (v5.1.gI.map Aq)), (2014, .vec 1 (v5.1.gF.map Aq)), (2015, .vec 1 (v5.1.gG.map Cy))]) (fun j7 h => ?_) (fun v7 h => ?_)
   ·refine wq rfl (qm rfl (AU DB rfl (AN rfl (Ac ?_))))
    refine Bb h (fun h => ?_) fun h => ?_
    ·refine Ai Aw rfl (qf DT rfl (qs CQ rfl (Ac ?_)))
     exact sn [(2012, 31), (2013, 2009), (2014, 2010), (2015, 2011)] h
    ·refine Al ?_
     exact sn [(2012, 31), (2013, 2009), (2014, 2010), (2015, 2011)] h
   ·refine wq rfl (qL Dx B1 rfl (qs B1 rfl (qe rfl ?_)))
    obtain rfl := sj h
    refine Ah (sm [(1000, 2012), (1001, 2013), (1002, 2014), (1003, 2015)] [(6, oD (.ptr 6 0)), (7, iD 0)] [(6, .box [.own 1000, iC 0, iC v7, iC 0, iC 0, iC 0, .own 1001, .own 1002, .own 1003]), (1000, .vec 3 (((([] : List Ae)) ++ p2).map Ax)), (1001, .vec 1 (v5.1.gI.map Aq)), (1002, .vec 1 (v5.1.gF.map Aq)), (1003, .vec 1 (v5.1.gG.map Cy))] rfl rfl) (As ?_)
    exact ⟨⟨[_, _], ⟨.cellN _ _ _ _ _ _ _ rfl rfl Dx B1 rfl rfl (E1 rfl), tm⟩, rfl⟩, ⟨rfl, rfl, rfl, rfl, tv⟩⟩
theorem FJ (N : Nat) (p0 : Ak) (r : Int) (h : AZ N p0 = some r) : Au zA 136 [.e (.agg (AM p0))] [] (iD r) := by
 unfold AZ at h
 refine cw (n := 27) (rs := [.tmp 2]) Tryz.func136 fun w0 S0 => ?_
 refine wq rfl (qb rfl (qa rfl (Ac (wq rfl (qf F0 rfl (ql KW rfl (qf E5 rfl (ql A8 rfl ?_))))))))
 refine BY h fun v1 a1 b1 h => qi DB Ea a1 (Aj b1) rfl (qK IE Ea rfl (qz KU rfl (qs Ea rfl (Ac (wp rfl (qf DT rfl (ql A8 rfl (AN rfl (Ac ?_)))))))))
 refine Bb h (fun h => ?_) fun h => ?_
 ·refine wq rfl (qf IL rfl (qf Dj rfl (ql Bi rfl (qf Db rfl (ql A8 rfl ?_)))))
  refine BY h fun v3 a3 b3 h => qi AF CQ a3 (Aj b3) rfl (qk A8 rfl (qe rfl ?_))
  obtain rfl := sj h
  refine Ah (sm [] [(2, iD v3)] [] rfl rfl) (As ?_)
  exact ⟨⟨[_], tm, rfl⟩, tv⟩
 ·refine Al (wq rfl (qf IL rfl (qf BU rfl (ql Bi rfl (qf Db rfl (ql A8 rfl ?_))))))
  refine BY h fun v4 a4 b4 h => qi AF CQ a4 (Aj b4) rfl (qk A8 rfl (qe rfl ?_))
  obtain rfl := sj h
  refine Ah (sm [] [(2, iD v4)] [] rfl rfl) (As ?_)
  exact ⟨⟨[_], tm, rfl⟩, tv⟩
theorem IS (N : Nat) (p0 : Ak) (p1 : Int) (r : Ct) (h : Dh N p0 p1 = some r) : Au zA 99 [.e (.agg (AM p0)), pD (.val (.int .u8 p1))] [] (.e (.agg (Gi r))) := by
 unfold Dh at h
 refine cw (n := 71) (rs := [.cell 4 96]) Tryz.func99 fun w0 S0 => ?_
 refine wq rfl (qb rfl (qz Nc rfl (Ac (wp rfl (qf IJ rfl (ql Lq rfl (AN rfl (Ac ?_))))))))
 refine Bb h (fun h => ?_) fun h => ?_
 ·refine wq rfl (qm rfl (VO rfl (by decide) (JN W7 gt rfl (Bp rfl (AS Nc Qe rfl (qs Ht rfl (Ac ?_)))))))
  obtain rfl := sj h
  refine Ah (sm [] [(4, oD (.ptr 4 0))] [(4, .box [iC 1, iC ((wI .i64 (1 + (wI .i64 ((wI .u8 (y5 p1 32))))))), iC 0, iC 0, iC 0, .pure (.val (.bool false)), iC 0])] rfl rfl) (As ?_)
  exact ⟨⟨[_], ⟨.cellN _ _ _ _ _ _ _ rfl rfl LZ Ht rfl rfl (E1 rfl), tv⟩, rfl⟩, tv⟩
 ·refine Al (wq rfl (qf Jf rfl (ql A8 rfl (qe rfl ?_))))
  refine AI h (fun v2 => mk [(1, pD (.val (.int .u8 p1))), (2, oD (.ptr 2 0)), (4, oD (.ptr 4 0)), (5, iD v2)] [(2, .box (AM p0)), (4, .box [iC 0, iC 0, iC 0, iC 0, iC 0, .pure (.val (.bool false)), iC 0])]) (fun j2 h => ?_) (fun v2 h => ?_)
  ·refine wq rfl (qm rfl (H3 rfl (by decide) (AN rfl (Ac ?_))))
   refine Bb h (fun h => ?_) fun h => ?_
   ·refine Ai Aw rfl (qm rfl (Kx rfl (qe rfl ?_)))
    exact sn [] h
   ·refine Al ?_
    exact sn [] h
  ·refine wp rfl (qm rfl (H3 rfl (by decide) (Ac (AX (wq rfl (AN rfl (qe rfl ?_)))))))
   refine Bb h (fun h => ?_) fun h => ?_
   ·refine wq rfl (AS Nc Qe rfl (qs Ht rfl (Ac ?_)))
    obtain rfl := sj h
    refine Ah (sm [] [(4, oD (.ptr 4 0))] [(4, .box [iC 3, iC 0, iC 0, iC 0, iC 0, .pure (.val (.bool false)), iC 0])] rfl rfl) (As ?_)
    exact ⟨⟨[_], ⟨.cellN _ _ _ _ _ _ _ rfl rfl LZ Ht rfl rfl (E1 rfl), tv⟩, rfl⟩, tv⟩
   ·refine wq rfl (AN rfl (qe rfl ?_))
    refine Bb h (fun h => ?_) fun h => ?_
    ·refine wq rfl (AS Nc Qe rfl (qs Ht rfl (Ac ?_)))
     obtain rfl := sj h
     refine Ah (sm [] [(4, oD (.ptr 4 0))] [(4, .box [iC 2, iC 0, iC 0, iC 0, iC 0, .pure (.val (.bool false)), iC 0])] rfl rfl) (As ?_)
     exact ⟨⟨[_], ⟨.cellN _ _ _ _ _ _ _ rfl rfl LZ Ht rfl rfl (E1 rfl), tv⟩, rfl⟩, tv⟩
    ·refine wq rfl (AN rfl (qe rfl ?_))
     refine Bb h (fun h => ?_) fun h => ?_
     ·refine wq rfl (qf IJ rfl (ql Lq rfl (qm rfl (VO rfl (by decide) (JN W7 gt rfl (Bp rfl (AS Nc Qe rfl (qs Ht rfl (Ac ?_)))))))))
      obtain rfl := sj h
      refine Ah (sm [] [(4, oD (.ptr 4 0))] [(4, .box [iC 1, iC ((wI .i64 (p0.gN + (wI .i64 ((wI .u8 (y5 p1 128))))))), iC 0, iC 0, iC 0, .pure (.val (.bool false)), iC 0])] rfl rfl) (As ?_)
      exact ⟨⟨[_], ⟨.cellN _ _ _ _ _ _ _ rfl rfl LZ Ht rfl rfl (E1 rfl), tv⟩, rfl⟩, tv⟩
     ·refine Al (wp rfl (qf DT rfl (ql A8 rfl (Ac (AX ?_)))))
      refine AI h (fun v7 => mk [(1, pD (.val (.int .u8 p1))), (2, oD (.ptr 2 0)), (4, oD (.ptr 4 0)), (5, iD v2), (39, iD p0.gQ), (40, bD v7)] [(2, .box (AM p0)), (4, .box [iC 0, iC 0, iC 0, iC 0, iC 0, .pure (.val (.bool false)), iC 0])]) (fun j7 h => ?_) (fun v7 h => ?_)
      ·refine wq rfl (AN rfl (qe rfl ?_))
       refine Bb h (fun h => ?_) fun h => ?_
       ·refine Al ?_
        exact sn [] h
       ·refine Ai Aw rfl (AN rfl (qe rfl ?_))
        exact sn [] h
      ·refine Bb h (fun h => ?_) fun h => ?_
       ·refine wq rfl (qm rfl (qf HD rfl (ql A8 rfl (qL Dx B1 rfl ?_))))
        refine BF h fun v10 a10 h => Av [] (FJ N ((Ak.mk p0.gT p0.gE p0.gQ p0.gO p0.gP p0.gN ((Ab.mk p0.gB.gI p0.gB.gF p0.gB.gG)))) v10 a10) V8 rfl (AS Nc Qe rfl (qs Ht rfl (AJ (by kernel_rfl) ?_)))
        obtain rfl := sj h
        refine Ah (sm [] [(4, oD (.ptr 4 0))] [(4, .box [iC 4, iC 0, iC v2, iC p0.gO, iC v10, .pure (.val (.bool false)), iC 0])] rfl rfl) (As ?_)
        exact ⟨⟨[_], ⟨.cellN _ _ _ _ _ _ _ rfl rfl LZ Ht rfl rfl (E1 rfl), tv⟩, rfl⟩, tv⟩
       ·refine wq rfl (AN rfl (qe rfl ?_))
        refine Bb h (fun h => ?_) fun h => ?_
        ·refine wq rfl (qw 2 rfl (H3 rfl (by decide) (BH rfl (AS Nc Qe rfl (qs Ht rfl (Ac ?_))))))
         obtain rfl := sj h
         refine Ah (sm [] [(4, oD (.ptr 4 0))] [(4, .box [iC 5, iC 0, iC v2, iC 0, iC 0, .pure (.val (.bool (((zJ p1 4) != 3)))), iC 0])] rfl rfl) (As ?_)
         exact ⟨⟨[_], ⟨.cellN _ _ _ _ _ _ _ rfl rfl LZ Ht rfl rfl (E1 rfl), tv⟩, rfl⟩, tv⟩
        ·refine wq rfl (AN rfl (qe rfl ?_))
         refine Bb h (fun h => ?_) fun h => ?_
         ·refine wq rfl (qm rfl (qf F0 rfl (ql KW rfl (qf E5 rfl (ql A8 rfl ?_)))))
          refine BY h fun v13 a13 b13 h => qi DB Ea a13 (Aj b13) rfl (qg Db rfl (qk A8 rfl (AS Nc Qe rfl (qs Ht rfl (Ac ?_)))))
          obtain rfl := sj h
          refine Ah (sm [] [(4, oD (.ptr 4 0))] [(4, .box [iC 6, iC 0, iC v2, iC 0, iC 0, .pure (.val (.bool false)), iC v13.gL])] rfl rfl) (As ?_)
          exact ⟨⟨[_], ⟨.cellN _ _ _ _ _ _ _ rfl rfl LZ Ht rfl rfl (E1 rfl), tv⟩, rfl⟩, tv⟩
         ·refine wq rfl (AN rfl (qe rfl ?_))
          refine Bb h (fun h => ?_) fun h => ?_
          ·refine wq rfl (AS Nc Qe rfl (qs Ht rfl (Ac ?_)))
           obtain rfl := sj h
           refine Ah (sm [] [(4, oD (.ptr 4 0))] [(4, .box [iC 7, iC 0, iC 0, iC 0, iC 0, .pure (.val (.bool false)), iC 0])] rfl rfl) (As ?_)
           exact ⟨⟨[_], ⟨.cellN _ _ _ _ _ _ _ rfl rfl LZ Ht rfl rfl (E1 rfl), tv⟩, rfl⟩, tv⟩
          ·refine Al (wq rfl (AS Nc Qe rfl (qs Ht rfl (Ac ?_))))
           obtain rfl := sj h
           refine Ah (sm [] [(4, oD (.ptr 4 0))] [(4, .box [iC 3, iC 0, iC 0, iC 0, iC 0, .pure (.val (.bool false)), iC 0])] rfl rfl) (As ?_)
           exact ⟨⟨[_], ⟨.cellN _ _ _ _ _ _ _ rfl rfl LZ Ht rfl rfl (E1 rfl), tv⟩, rfl⟩, tv⟩
theorem En (N : Nat) (p0 : Ak) (r : (List Bk)) (h : A3 N p0 = some r) : Au zA 138 [.e (.agg (AM p0))] [(10, r.map Cj)] (oD (.own 0)) := by
 unfold A3 at h
 refine cw (n := 49) (rs := [.tmp 2]) Tryz.func138 fun w0 S0 => ?_
 refine wq rfl (qb rfl (qa rfl (Ac (wp rfl (qf DT rfl (ql A8 rfl (Ac (AX ?_))))))))
 refine AI h (fun v1 => mk [(1, oD (.ptr 1 0)), (4, iD p0.gQ), (5, bD v1)] [(1, .box (AM p0))]) (fun j1 h => ?_) (fun v1 h => ?_)
 ·refine wq rfl (AN rfl (qe rfl ?_))
  refine Bb h (fun h => ?_) fun h => ?_
  ·refine Al ?_
   exact sn [] h
  ·refine Ai Aw rfl (AN rfl (qe rfl ?_))
   exact sn [] h
 ·refine Bb h (fun h => ?_) fun h => ?_
  ·refine wq rfl (qf Jf rfl (ql A8 rfl (qf HD rfl (ql A8 rfl (qL Dx B1 rfl ?_)))))
   refine BF h fun v4 a4 h => Av [] (FJ N ((Ak.mk p0.gT p0.gE p0.gQ p0.gO p0.gP p0.gN ((Ab.mk p0.gB.gI p0.gB.gF p0.gB.gG)))) v4 a4) V8 rfl (AS YR Xq rfl (AS Lv Vt rfl (EB Mg LT Lv rfl (qa rfl (AJ (by kernel_rfl) ?_)))))
   obtain rfl := sj h
   refine Ah (sm [(1000, 16)] [(2, oD (.own 1000))] [(1000, .vec 10 ((([(Bk.mk 2 ((Fw.mk 0 0 0 (⟨#[]⟩))) ((DY.mk p0.gP p0.gO v4)) 0 0)] : List Bk)).map Cj))] rfl rfl) (As ?_)
   exact ⟨⟨[_], tm, rfl⟩, ⟨rfl, tv⟩⟩
  ·refine wq rfl (AN rfl (qe rfl ?_))
   refine Bb h (fun h => ?_) fun h => ?_
   ·refine wq rfl (qf F0 rfl (ql KW rfl (qf E5 rfl (ql A8 rfl ?_))))
    refine BY h fun v6 a6 b6 h => qi DB Ea a6 (Aj b6) rfl (qg Db rfl (qk A8 rfl (qf Jf rfl (ql A8 rfl (qf HD rfl (ql A8 rfl (qL Dx B1 rfl ?_)))))))
    refine BF h fun v7 a7 h => Av [] (FJ N ((Ak.mk p0.gT p0.gE p0.gQ p0.gO p0.gP p0.gN ((Ab.mk p0.gB.gI p0.gB.gF p0.gB.gG)))) v7 a7) V8 rfl (AS YR Xq rfl (AS Lv Vt rfl (EB Mg LT Lv rfl (qa rfl (AJ (by kernel_rfl) ?_)))))
    obtain rfl := sj h
    refine Ah (sm [(1000, 34)] [(2, oD (.own 1000))] [(1000, .vec 10 ((([(Bk.mk 3 ((Fw.mk 0 0 0 (⟨#[]⟩))) ((DY.mk p0.gP p0.gO v7)) v6.gL 0)] : List Bk)).map Cj))] rfl rfl) (As ?_)
    exact ⟨⟨[_], tm, rfl⟩, ⟨rfl, tv⟩⟩
   ·refine wq rfl (AN rfl (qe rfl ?_))
    refine Bb h (fun h => ?_) fun h => ?_
    ·refine wq rfl (qf F0 rfl (ql KW rfl (qf E5 rfl (ql A8 rfl ?_))))
     refine BY h fun v9 a9 b9 h => qi DB Ea a9 (Aj b9) rfl (qg Db rfl (qk A8 rfl (qf Jf rfl (ql A8 rfl (AS YR Xq rfl (AS Lv Vt rfl (EB Mg LT Lv rfl (qa rfl (AJ (by kernel_rfl) ?_)))))))))
     obtain rfl := sj h
     refine Ah (sm [(1000, 48)] [(2, oD (.own 1000))] [(1000, .vec 10 ((([(Bk.mk 4 ((Fw.mk 0 0 0 (⟨#[]⟩))) ((DY.mk p0.gP 0 0)) 0 v9.gL)] : List Bk)).map Cj))] rfl rfl) (As ?_)
     exact ⟨⟨[_], tm, rfl⟩, ⟨rfl, tv⟩⟩
    ·refine Al (wq rfl (qe rfl ?_))
     obtain rfl := sj h
     refine Ah ((Bl 2 2001 10 rfl rfl rfl).trans (sm [(1000, 2001)] [(2, oD (.own 1000))] [(1000, .vec 10 ((([] : List Bk)).map Cj))] rfl rfl)) (As ?_)
     exact ⟨⟨[_], tm, rfl⟩, ⟨rfl, tv⟩⟩
theorem F1 (N : Nat) (p0 : Ak) (p1 : Int) (r : Ak × (List Bk)) (h : Cd N p0 p1 = some r) : Au zA 141 [.e (.agg (AM p0)), iD p1] [(10, r.2.map Cj)] (.tup [.agg (AM r.1), .one (.own 0)]) := by
 unfold Cd at h
 refine cw (n := 21) (rs := [.cell 4 91, .tmp 5]) Tryz.func141 fun w0 S0 => ?_
 refine wq rfl (qb rfl (qz KF rfl (qa rfl (Ac (wq rfl (qm rfl (qf IJ rfl (ql Lq rfl (qf E5 rfl (ql A8 rfl (AS eV dD rfl (AS Lv Vt rfl (qz Lv rfl (qs LT rfl (Ac (wq rfl (qf Jf rfl (ql A8 rfl (Bp rfl (qf Jf rfl (qs CQ rfl (Ac (wq rfl (qL Dx B1 rfl (qL aY LT rfl (EB Mg LT Lv rfl (qs B1 rfl (qa rfl (AJ (by kernel_rfl) ?_)))))))))))))))))))))))))))))
 obtain rfl := sj h
 refine Ah (sm [(1000, 20)] [(4, oD (.ptr 4 0)), (5, oD (.own 1000))] [(4, .box [sC (p0.gT.map Ax), iC p0.gE, iC p0.gQ, iC p0.gO, iC ((wI .i64 (p0.gP + 1))), iC p0.gN, sC (p0.gB.gI.map Aq), sC (p0.gB.gF.map Aq), sC (p0.gB.gG.map Cy)]), (1000, .vec 10 ((([(Bk.mk 1 ((Fw.mk p1 p0.gN p0.gE (⟨#[]⟩))) ((DY.mk 0 0 0)) 0 0)] : List Bk)).map Cj))] rfl rfl) (As ?_)
 exact ⟨⟨[_, _], ⟨.cellN _ _ _ _ _ _ _ rfl rfl Dx B1 rfl rfl (E1 rfl), tm⟩, rfl⟩, ⟨rfl, tv⟩⟩
theorem Hl (N : Nat) (p0 : List Int) (p1 : Int) (r : Int) (h : CI N p0 p1 = some r) : Au zA 139 [pD (.sl (p0.map Aq)), iD p1] [] (iD r) := by
 unfold CI at h
 refine cw (n := 19) (rs := [.tmp 4]) Tryz.func139 fun w0 S0 => ?_
 refine wq rfl (qa rfl (Ac (wq rfl (qa rfl (Ac (wp rfl (qe rfl ?_)))))))
 refine AY (L := Do N p0 p1) h (fun v1 => mk [(0, pD (.sl (p0.map Aq))), (1, iD p1), (5, iD v1.1), (6, iD v1.2)] []) (fun v2 => mk [(5, iD v2)] []) (fun _ _ => rfl) (sm [] _ _ rfl rfl) (fun j1 n1 v1 h => ?_) (fun v2 s h hs => ?_)
 ·unfold Do at h
  refine wp rfl (qw 2 rfl (A9 rfl (Ac ?_)))
  refine Bb h (fun h => ?_) fun h => ?_
  ·refine Al (A5 (AX (Ai Aw rfl (qw 3 rfl ?_))))
   refine BY h fun v4 a4 b4 h => qi AF CQ a4 (Aj b4) rfl (qk A8 rfl (Bp rfl (qa rfl (Ac (Ai Aw rfl (qm rfl (Bp rfl (qe rfl ?_))))))))
   exact sn [] h
  ·refine Bh ?_
   exact sn [] h
 ·refine Ah hs (wq rfl (qm rfl (qe rfl ?_)))
  obtain rfl := sj h
  refine Ah (sm [] [(4, iD v2)] [] rfl rfl) (As ?_)
  exact ⟨⟨[_], tm, rfl⟩, tv⟩
theorem Jt (N : Nat) (p0 : Aa) (p1 : List Int) (p2 : Ak) (r : Ak × (List Bk)) (h : DE N p0 p1 p2 = some r) : Au zA 135 [.e (.agg (Ag p0)), pD (.sl (p1.map Aq)), .e (.agg (AM p2))] [(10, r.2.map Cj)] (.tup [.agg (AM r.1), .one (.own 0)]) := by
 unfold DE at h
 refine cw (n := 54) (rs := [.cell 6 91, .tmp 7]) Tryz.func135 fun w0 S0 => ?_
 refine wq rfl (qb rfl (qb rfl (qz KF rfl (qa rfl (Ac (wp rfl (qf DT rfl (ql A8 rfl (BH rfl (Ac ?_))))))))))
 refine Bb h (fun h => ?_) fun h => ?_
 ·refine wq rfl (qL Dx B1 rfl (qL Dx B1 rfl ?_))
  refine BF h fun v2 a2 h => Av [2001] (En N ((Ak.mk p2.gT p2.gE p2.gQ p2.gO p2.gP p2.gN ((Ab.mk p2.gB.gI p2.gB.gF p2.gB.gG)))) v2 a2) Uc rfl (qs B1 rfl (qa rfl (AJ (by kernel_rfl) ?_)))
  obtain rfl := sj h
  refine Ah (sm [(1000, 2001)] [(6, oD (.ptr 6 0)), (7, oD (.own 1000))] [(6, .box (AM p2)), (1000, .vec 10 (v2.map Cj))] rfl rfl) (As ?_)
  exact ⟨⟨[_, _], ⟨.cellN _ _ _ _ _ _ _ rfl rfl Dx B1 rfl rfl (E1 rfl), tm⟩, rfl⟩, ⟨rfl, tv⟩⟩
 ·refine Al (wq rfl (qL Dx B1 rfl ?_))
  refine BF h fun v3 a3 h => Av [2002] (F1 N ((Ak.mk p2.gT p2.gE p2.gQ p2.gO p2.gP p2.gN ((Ab.mk p2.gB.gI p2.gB.gF p2.gB.gG)))) 1 v3 a3) V6 rfl (qm rfl (qx rfl (qx rfl (qs B1 rfl (qa rfl (Ac (wq rfl (qf F0 rfl (ql KW rfl (qf E5 rfl (ql A8 rfl ?_)))))))))))
  refine BY h fun v4 a4 b4 h => qi DB Ea a4 (Aj b4) rfl (qK IE Ea rfl (qz KU rfl (qs Ea rfl (Ac ?_))))
  refine AI h (fun v5 => mk [(3, oD (.ptr 3 0)), (5, oD (.ptr 5 0)), (6, oD (.ptr 6 0)), (8, oD (.own 2003)), (9, oD (.ptr 9 0))] [(3, .box (Ag p0)), (5, .box [sC (v3.1.gT.map Ax), iC v3.1.gE, iC v5.1, iC v5.2, iC v3.1.gP, iC v3.1.gN, sC (v3.1.gB.gI.map Aq), sC (v3.1.gB.gF.map Aq), sC (v3.1.gB.gG.map Cy)]), (6, .box [.pure (.nil0), iC 0, iC 0, iC 0, iC 0, iC 0, .pure (.nil0), .pure (.nil0), .pure (.nil0)]), (9, .box (Dd v4)), (2003, .vec 10 (v3.2.map Cj))]) (fun j5 h => ?_) (fun v5 h => ?_)
  ·refine wq rfl (qf DK rfl (ql A8 rfl (AN rfl (Ac ?_))))
   refine Bb h (fun h => ?_) fun h => ?_
   ·refine Ai Aw rfl (qf DT rfl (qs CQ rfl (Ac ?_)))
    exact sn [(2003, 2002)] h
   ·refine wq rfl (qf DT rfl (qs CQ rfl (Ac (Ai Aw rfl (qm rfl (qf Db rfl (ql A8 rfl ?_)))))))
    refine BF h fun v7 a7 h => Av [] (Hl N p1 v4.gL v7 a7) XQ rfl (qf HD rfl (qs CQ rfl (Ac ?_)))
    exact sn [(2003, 2002)] h
  ·refine AI h (fun v8 => mk [(5, oD (.ptr 5 0)), (6, oD (.ptr 6 0)), (8, oD (.own 2004))] [(5, .box [sC (v3.1.gT.map Ax), iC v3.1.gE, iC v5.1, iC v5.2, iC v3.1.gP, iC v3.1.gN, sC (v8.1.map Aq), sC (v8.2.1.map Aq), sC (v8.2.2.map Cy)]), (6, .box [.pure (.nil0), iC 0, iC 0, iC 0, iC 0, iC 0, .pure (.nil0), .pure (.nil0), .pure (.nil0)]), (2004, .vec 10 (v3.2.map Cj))]) (fun j8 h => ?_) (fun v8 h => ?_)
   ·refine wq rfl (qf DK rfl (ql A8 rfl (AN rfl (Ac ?_))))
    refine Bb h (fun h => ?_) fun h => ?_
    ·refine Ai Aw rfl (qL BZ BB rfl (qf IL rfl (qL Bf AQ rfl (qL IE Ea rfl ?_))))
     refine BF h fun v10 a10 h => Av [2005, 2006, 2007] (Fk N p0 ((Ab.mk v3.1.gB.gI v3.1.gB.gF v3.1.gB.gG)) v4 v10 a10) Xn rfl (qm rfl (qx rfl (qx rfl (qf IL rfl (qs AQ rfl (Ac ?_))))))
     exact YI _ h ((AV 2005 _ _ rfl rfl).trans ((AV 2006 _ _ rfl rfl).trans ((AV 2007 _ _ rfl rfl).trans (sm [(2004, 2003)] _ _ rfl rfl))))
    ·refine Al ?_
     exact sn [(2004, 2003)] h
   ·refine wq rfl (qL Dx B1 rfl (qm rfl (qL Dx B1 rfl ?_)))
    refine BF h fun v11 a11 h => Av [2008] (En N ((Ak.mk v3.1.gT v3.1.gE v5.1 v5.2 v3.1.gP v3.1.gN ((Ab.mk v8.1 v8.2.1 v8.2.2)))) v11 a11) Uc rfl ?_
    refine GJ h fun c12 h => EL (f := Cj) Mg Mg LT XH Lv c12 rfl (qs B1 rfl (qa rfl (AJ (by kernel_rfl) ?_)))
    obtain rfl := sj h
    refine Ah (sm [(1000, 53)] [(6, oD (.ptr 6 0)), (7, oD (.own 1000))] [(6, .box [sC (v3.1.gT.map Ax), iC v3.1.gE, iC v5.1, iC v5.2, iC v3.1.gP, iC v3.1.gN, sC (v8.1.map Aq), sC (v8.2.1.map Aq), sC (v8.2.2.map Cy)]), (1000, .vec 10 ((v3.2 ++ v11).map Cj))] rfl rfl) (As ?_)
    exact ⟨⟨[_, _], ⟨.cellN _ _ _ _ _ _ _ rfl rfl Dx B1 rfl rfl (E1 rfl), tm⟩, rfl⟩, ⟨rfl, tv⟩⟩
theorem N4 (N : Nat) (p0 : Aa) (p1 : Ab) (p2 : List Ae) (r : (List Ab) × Int × Int) (h : Fx N p0 p1 p2 = some r) : Au zA 83 [.e (.agg (Ag p0)), .e (.agg (AH p1)), pD (.sl (p2.map Ax))] [(3, r.1.map CZ)] (.tup [.one (.own 0), .one (iC r.2.1), .one (iC r.2.2)]) := by
 unfold Fx at h
 refine cw (n := 52) (rs := [.tmp 6, .tmp 7, .tmp 8]) Tryz.func83 fun w0 S0 => ?_
 refine wq rfl (qb rfl (qb rfl (qa rfl (qa rfl (qa rfl (Ac (wp rfl (qL BZ BB rfl (qL Bf AQ rfl ?_)))))))))
 refine BF h fun v1 a1 h => Av [] (Ep N p0 p1 v1 a1) Wc rfl (qa rfl (Ac (wq rfl (qm rfl (BH rfl (Ac ?_))))))
 refine Bb h (fun h => ?_) fun h => ?_
 ·refine wq rfl (qm rfl (qa rfl (qa rfl (qe rfl ?_))))
  obtain rfl := sj h
  refine Ah ((Bl 6 2001 3 rfl rfl rfl).trans (sm [(1000, 2001)] [(6, oD (.own 1000)), (7, iD 0), (8, iD v1)] [(1000, .vec 3 ((([] : List Ab)).map CZ))] rfl rfl)) (As ?_)
  exact ⟨⟨[_, _, _], ⟨.tmp _ _ rfl, ⟨.tmp _ _ rfl, tm⟩⟩, rfl⟩, ⟨rfl, tv⟩⟩
 ·refine Al (wq rfl (qL Bf AQ rfl (EB FV AQ CM rfl (qa rfl (Ac (wp rfl (qe rfl ?_)))))))
  refine AY (L := DM N p0 p2) h (fun v3 => mk [(2, pD (.sl (p2.map Ax))), (3, oD (.ptr 3 0)), (10, oD (.own 2002)), (11, iD v3.2)] [(3, .box (Ag p0)), (2002, .vec 3 (v3.1.map CZ))]) (fun v4 => mk [(2, pD (.sl (p2.map Ax))), (10, oD (.own 2003))] [(2003, .vec 3 (v4.map CZ))]) (fun _ _ => rfl) (sm [(2002, 21)] _ _ rfl rfl) (fun j3 n3 v3 h => ?_) (fun v4 s h hs => ?_)
  ·unfold DM at h
   refine wp rfl (qw 2 rfl (AU DB rfl (A9 rfl (Ac ?_))))
   refine Bb h (fun h => ?_) fun h => ?_
   ·refine Al (A5 (AX (wq rfl (qL BZ BB rfl (qw 2 rfl ?_)))))
    refine BY h fun v6 a6 b6 h => qI FV AQ a6 (Aj b6) rfl (qJ Bf AQ (Aj b6) rfl (qw 2 rfl ?_))
    refine BY h fun v7 a7 b7 h => qi DB Ea a7 (Aj b7) rfl (qK IE Ea rfl ?_)
    refine BF h fun v8 a8 h => Av [2004, 2005, 2006] (Hk N p0 v6 v7 v8 a8) W9 rfl (qm rfl (qx rfl (qx rfl (qz CM rfl (qs AQ rfl (qa rfl (AJ (by kernel_rfl) (wp rfl (qm rfl (BH rfl (Ac ?_)))))))))))
    refine Bb h (fun h => ?_) fun h => ?_
    ·refine wq rfl (qw 2 rfl (qa rfl (qa rfl (qe rfl ?_))))
     obtain rfl := sj h
     refine Ah ((Bl 6 2007 3 rfl rfl rfl).trans (sm [(1000, 2007)] [(6, oD (.own 1000)), (7, iD v3.2), (8, iD v8.2)] [(1000, .vec 3 ((([] : List Ab)).map CZ))] rfl rfl)) (As ?_)
     exact ⟨⟨[_, _, _], ⟨.tmp _ _ rfl, ⟨.tmp _ _ rfl, tm⟩⟩, rfl⟩, ⟨rfl, tv⟩⟩
    ·refine Al (Ai Aw rfl (qm rfl (qL Bf AQ rfl (FO (AV 2004 _ _ rfl rfl) (FO (AV 2005 _ _ rfl rfl) (FO (AV 2006 _ _ rfl rfl) (EB FV AQ CM rfl ?_)))))))
     refine GJ h fun c10 h => EL (f := CZ) FV FV AQ YL CM c10 rfl (qa rfl (Ac (Ai Aw rfl (qm rfl (Bp rfl (qe rfl ?_))))))
     exact sn [(2002, 48)] h
   ·refine Bh ?_
    exact sn [(2003, 2002)] h
  ·refine Ah hs (wq rfl (qw 2 rfl (AU DB rfl (qa rfl (qa rfl (qe rfl ?_))))))
   obtain rfl := sj h
   refine Ah (sm [(1000, 2003)] [(6, oD (.own 1000)), (7, iD ((p2.length : Int))), (8, iD 0)] [(1000, .vec 3 (v4.map CZ))] rfl rfl) (As ?_)
   exact ⟨⟨[_, _, _], ⟨.tmp _ _ rfl, ⟨.tmp _ _ rfl, tm⟩⟩, rfl⟩, ⟨rfl, tv⟩⟩
theorem Je (N : Nat) (p0 : Aa) (p1 : List Ae) (r : (List Ab)) (h : D0 N p0 p1 = some r) : Au zA 170 [.e (.agg (Ag p0)), pD (.sl (p1.map Ax))] [(3, r.map CZ)] (oD (.own 0)) := by
 unfold D0 at h
 refine cw (n := 24) (rs := [.tmp 4]) Tryz.func170 fun w0 S0 => ?_
 refine wq rfl (qb rfl (qa rfl (Ac (wq rfl (qL BZ BB rfl ?_)))))
 refine BF h fun v1 a1 h => Av [2001, 2002, 2003] (Fj N p0 v1 a1) Xa rfl (qm rfl (qx rfl (qx rfl (qz CM rfl (qs AQ rfl (qa rfl (Ac (wq rfl (qL BZ BB rfl (qL Bf AQ rfl (qm rfl (FO (AV 2001 _ _ rfl rfl) (FO (AV 2002 _ _ rfl rfl) (FO (AV 2003 _ _ rfl rfl) ?_))))))))))))))
 refine BF h fun v2 a2 h => Av [2004] (N4 N p0 v1.1 p1 v2 a2) gf rfl (qm rfl (qx rfl (qx rfl (qx rfl (qa rfl (qa rfl (qa rfl (Ac (wq rfl (qm rfl (qe rfl ?_)))))))))))
 obtain rfl := sj h
 refine Ah (sm [(1000, 2004)] [(4, oD (.own 1000))] [(1000, .vec 3 (v2.1.map CZ))] rfl rfl) (As ?_)
 exact ⟨⟨[_], tm, rfl⟩, ⟨rfl, tv⟩⟩
theorem GM (N : Nat) (p0 : Aa) (p1 : List Ae) (p2 : Int) (r : Ab) (h : CE N p0 p1 p2 = some r) : Au zA 137 [.e (.agg (Ag p0)), pD (.sl (p1.map Ax)), iD p2] [(1, r.gI.map Aq), (1, r.gF.map Aq), (1, r.gG.map Cy)] (.e (.agg [.own 0, .own 1, .own 2])) := by
 unfold CE at h
 refine cw (n := 28) (rs := [.cell 6 40]) Tryz.func137 fun w0 S0 => ?_
 refine wq rfl (qb rfl (qz CM rfl (Ac (wq rfl (qL BZ BB rfl (qL BZ BB rfl (qm rfl ?_)))))))
 refine BF h fun v1 a1 h => Av [2001] (Je N p0 p1 v1 a1) aA rfl (qm rfl (Bp rfl ?_))
 refine BY h fun v2 a2 b2 h => qI FV AQ a2 (Aj b2) rfl (qJ Bf AQ (Aj b2) rfl (qw 2 rfl ?_))
 refine BY h fun v3 a3 b3 h => qi DB Ea a3 (Aj b3) rfl (qg Db rfl (qk A8 rfl (AS KU Xg rfl ?_)))
 refine BF h fun v4 a4 h => Av [2002, 2003, 2004] (Fk N p0 v2 ((Ae.mk 4 v3.gL 0)) v4 a4) Xn rfl (qm rfl (qx rfl (qx rfl (qz CM rfl (qs AQ rfl (qa rfl (AJ (by kernel_rfl) (wq rfl (qL Bf AQ rfl (qs AQ rfl (Ac ?_)))))))))))
 obtain rfl := sj h
 refine Ah (sm [(1000, 2002), (1001, 2003), (1002, 2004)] [(6, oD (.ptr 6 0))] [(6, .box [.own 1000, .own 1001, .own 1002]), (1000, .vec 1 (v4.1.gI.map Aq)), (1001, .vec 1 (v4.1.gF.map Aq)), (1002, .vec 1 (v4.1.gG.map Cy))] rfl rfl) (As ?_)
 exact ⟨⟨[_], ⟨.cellN _ _ _ _ _ _ _ rfl rfl Bf AQ rfl rfl (E1 rfl), tv⟩, rfl⟩, ⟨rfl, rfl, rfl, tv⟩⟩
theorem HL (N : Nat) (p0 : Aa) (p1 : Ak) (r : Ak × (List Bk)) (h : DF N p0 p1 = some r) : Au zA 140 [.e (.agg (Ag p0)), .e (.agg (AM p1))] [(10, r.2.map Cj)] (.tup [.agg (AM r.1), .one (.own 0)]) := by
 unfold DF at h
 refine cw (n := 49) (rs := [.cell 4 91, .tmp 5]) Tryz.func140 fun w0 S0 => ?_
 refine wq rfl (qb rfl (qb rfl (qz KF rfl (qa rfl (Ac (wq rfl (qL Dx B1 rfl ?_)))))))
 refine BF h fun v1 a1 h => Av [2001] (F1 N ((Ak.mk p1.gT p1.gE p1.gQ p1.gO p1.gP p1.gN ((Ab.mk p1.gB.gI p1.gB.gF p1.gB.gG)))) 2 v1 a1) V6 rfl (qm rfl (qx rfl (qx rfl (qs B1 rfl (qe rfl ?_)))))
 refine AI h (fun v2 => mk [(3, oD (.ptr 3 0)), (4, oD (.ptr 4 0)), (6, oD (.own 2002))] [(3, .box [sC (v1.1.gT.map Ax), iC v1.1.gE, iC v1.1.gQ, iC v1.1.gO, iC v1.1.gP, iC v1.1.gN, sC (v2.1.map Aq), sC (v2.2.1.map Aq), sC (v2.2.2.map Cy)]), (4, .box [.pure (.nil0), iC 0, iC 0, iC 0, iC 0, iC 0, .pure (.nil0), .pure (.nil0), .pure (.nil0)]), (2002, .vec 10 (v1.2.map Cj))]) (fun j2 h => ?_) (fun v2 h => ?_)
 ·refine wq rfl (qf F0 rfl (ql KW rfl (qf E5 rfl (ql A8 rfl ?_))))
  refine BY h fun v3 a3 b3 h => qi DB Ea a3 (Aj b3) rfl (qg DK rfl (qk A8 rfl (BH rfl (Ac ?_))))
  refine Bb h (fun h => ?_) fun h => ?_
  ·refine Ai Aw rfl (qL BZ BB rfl (qf IL rfl (qL Bf AQ rfl (qf F0 rfl (ql KW rfl (qf E5 rfl (ql A8 rfl ?_)))))))
   refine BY h fun v5 a5 b5 h => qi DB Ea a5 (Aj b5) rfl (qK IE Ea rfl ?_)
   refine BF h fun v6 a6 h => Av [2003, 2004, 2005] (Fk N p0 ((Ab.mk v1.1.gB.gI v1.1.gB.gF v1.1.gB.gG)) v5 v6 a6) Xn rfl (qm rfl (qx rfl (qx rfl (qf IL rfl (qs AQ rfl (AJ (by kernel_rfl) ?_))))))
   exact YI _ h ((AV 2003 _ _ rfl rfl).trans ((AV 2004 _ _ rfl rfl).trans ((AV 2005 _ _ rfl rfl).trans (sm [(2002, 2001)] _ _ rfl rfl))))
  ·refine Al ?_
   exact sn [(2002, 2001)] h
 ·refine wq rfl (qf E5 rfl (ql A8 rfl (Bp rfl (qf E5 rfl (qs CQ rfl (Ac (wq rfl (qf HD rfl (qs CQ rfl (Ac (wq rfl (qf DT rfl (qs CQ rfl (Ac ?_))))))))))))))
  refine AI h (fun v7 => mk [(3, oD (.ptr 3 0)), (4, oD (.ptr 4 0)), (6, oD (.own 2006))] [(3, .box [sC (v1.1.gT.map Ax), iC ((wI .i64 (v1.1.gE + 1))), iC v7, iC 0, iC v1.1.gP, iC v1.1.gN, sC (v2.1.map Aq), sC (v2.2.1.map Aq), sC (v2.2.2.map Cy)]), (4, .box [.pure (.nil0), iC 0, iC 0, iC 0, iC 0, iC 0, .pure (.nil0), .pure (.nil0), .pure (.nil0)]), (2006, .vec 10 (v1.2.map Cj))]) (fun j7 h => ?_) (fun v7 h => ?_)
  ·refine wq rfl (qf E5 rfl (ql A8 rfl (qf F0 rfl (ql KW rfl (AU DB rfl (AN rfl (Ac ?_)))))))
   refine Bb h (fun h => ?_) fun h => ?_
   ·refine Ai Aw rfl (qf DT rfl (qs CQ rfl (Ac ?_)))
    exact sn [(2006, 2002)] h
   ·refine Al ?_
    exact sn [(2006, 2002)] h
  ·refine wq rfl (qL Dx B1 rfl (qm rfl (qs B1 rfl (qe rfl ?_))))
   obtain rfl := sj h
   refine Ah (sm [(1000, 2006)] [(4, oD (.ptr 4 0)), (5, oD (.own 1000))] [(4, .box [sC (v1.1.gT.map Ax), iC ((wI .i64 (v1.1.gE + 1))), iC v7, iC 0, iC v1.1.gP, iC v1.1.gN, sC (v2.1.map Aq), sC (v2.2.1.map Aq), sC (v2.2.2.map Cy)]), (1000, .vec 10 (v1.2.map Cj))] rfl rfl) (As ?_)
   exact ⟨⟨[_, _], ⟨.cellN _ _ _ _ _ _ _ rfl rfl Dx B1 rfl rfl (E1 rfl), tm⟩, rfl⟩, ⟨rfl, tv⟩⟩
end Go.Lift
