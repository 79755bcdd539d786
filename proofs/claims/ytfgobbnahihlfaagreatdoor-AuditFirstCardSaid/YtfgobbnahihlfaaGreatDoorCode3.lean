/- Lemmas for AuditFirstCardSaid, which YtfgobbnahihlfaaGreatDoorFinA3 proves. -/
import Derived.Test.YtfgobbnahihlfaaGreatDoorCode
open List renaming getElem?_map → zG, getElem_mem → yV, length_map → zY, map_eq_nil_iff → xB, replicate → zJ
open Nat renaming le_refl → yY, zero_add → zI, zero_le → zT
open Option renaming map → xW
open Go.Proofs.Tryz renaming prog → zA
namespace Go.Lift
open IntKind renaming wrap → wI
set_option maxRecDepth 10000
open Go.RowKit
open Go.Proofs
theorem FP (N : Nat) (p0 : Int) (p1 : Int) (r : Bool) (h : Da N p0 p1 = some r) : Ar zA 102 [iD p0, iD p1] [] (bD r) := by
 unfold Da at h
 refine cw (n := 12) (rs := [.tmp 4]) Tryz.func102 fun w0 S0 => ?_
 refine wq rfl (qe rfl ?_)
 refine AF h (fun v1 => mk [(4, bD v1)] []) (fun j1 h => ?_) (fun v1 h => ?_)
 ·refine Aj Aw rfl (qm rfl (C9 rfl (qm rfl ?_)))
  refine Cp 7 h rfl (fun h => ?_) fun h => ?_
  ·refine qw 2 rfl (A4 rfl (qp rfl (qe rfl ?_)))
   exact sn [] h
  ·refine qw 3 rfl (qp rfl (qe rfl ?_))
   exact sn [] h
 ·obtain rfl := sj h
  refine Af (sm [] [(4, bD v1)] [] rfl rfl) (Aq ?_)
  exact ⟨⟨[_], tm, rfl⟩, tv⟩
theorem N6 (N : Nat) (p0 : Int) (p1 : Bool) (r : Bool) (h : Fg N p0 p1 = some r) : Ar zA 144 [iD p0, bD p1] [] (bD r) := by
 unfold Fg at h
 refine cw (n := 23) (rs := [.tmp 4]) Tryz.func144 fun w0 S0 => ?_
 refine wq rfl (qe rfl ?_)
 refine AF h (fun v1 => mk [(4, bD v1)] []) (fun j1 h => ?_) (fun v1 h => ?_)
 ·refine Aj Aw rfl (qm rfl (AN rfl (qm rfl ?_)))
  refine Cp 7 h rfl (fun h => ?_) fun h => ?_
  ·refine qw 2 rfl (qp rfl (qw 4 rfl (qu rfl (qu rfl (qw 2 rfl (qu rfl (qu rfl (qn rfl (qp rfl (qe rfl ?_))))))))))
   exact sn [] h
  ·refine qm rfl (AN rfl (qp rfl (qm rfl ?_)))
   refine Cp 11 h rfl (fun h => ?_) fun h => ?_
   ·refine qw 3 rfl (qu rfl (qu rfl (qw 2 rfl (qu rfl (qu rfl (qn rfl (qp rfl (qe rfl ?_))))))))
    exact sn [] h
   ·refine qm rfl (AN rfl (qm rfl ?_))
    refine Cp 14 h rfl (fun h => ?_) fun h => ?_
    ·refine qw 2 rfl (qp rfl (qw 2 rfl (B9 rfl (qp rfl (qp rfl (qe rfl ?_))))))
     exact sn [] h
    ·refine qm rfl (AN rfl (qp rfl (qm rfl ?_)))
     refine Cp 18 h rfl (fun h => ?_) fun h => ?_
     ·refine qm rfl (B9 rfl (qp rfl (qp rfl (qe rfl ?_))))
      exact sn [] h
     ·refine qw 2 rfl (qp rfl (qp rfl (qe rfl ?_)))
      exact sn [] h
 ·obtain rfl := sj h
  refine Af (sm [] [(4, bD v1)] [] rfl rfl) (Aq ?_)
  exact ⟨⟨[_], tm, rfl⟩, tv⟩
theorem KB (N : Nat) (p0 : List Bool) (p1 : Int) (r : Bool) (h : C3 N p0 p1 = some r) : Ar zA 174 [pD (.sl (p0.map eB)), oD (.rop [.val (.int .i64 p1)])] [] (bD r) := by
 unfold C3 at h
 refine cw (n := 8) (rs := [.tmp 3]) Tryz.func174 fun w0 S0 => ?_
 refine wq rfl (qa rfl (Ab (wq rfl (qm rfl (AH HI rfl (qk AW rfl (BG rfl (qe rfl ?_))))))))
 obtain rfl := sj h
 refine Af (sm [] [(3, bD (((p0.length : Int) != p1)))] [] rfl rfl) (Aq ?_)
 exact ⟨⟨[_], tm, rfl⟩, tv⟩
theorem GE (N : Nat) (p0 : List (List Bool)) (p1 : (List Bool) → Option Bool) (r : Int) (h : Cv N p0 p1 = some r) : Ar zA 189 [pD (.sl (p0.map (Lq eB))), oD (.clo (Iv (Nc false (Lq eB)) tB p1))] [] (iD r) := by
 unfold Cv at h
 refine cw (n := 19) (rs := [.tmp 4]) Tryz.func189 fun w0 S0 => ?_
 refine wq rfl (qa rfl (Ab (wp rfl (qm rfl (AH DW rfl (qm rfl (Ab ?_)))))))
 refine A5 (L := A6 N p0 p1) h (fun v1 => mk [(0, pD (.sl (p0.map (Lq eB)))), (1, oD (.clo (Iv (Nc false (Lq eB)) tB p1))), (7, iD ((p0.length : Int))), (8, iD v1)] []) (fun v2 => mk [] []) (fun _ _ => rfl) (sm [] _ _ rfl rfl) (fun j1 n1 v1 h => ?_) (fun v2 s h hs => ?_)
 ·unfold A6 at h
  refine wq rfl (A4 rfl (Ab (AR ?_)))
  refine Bb h (fun h => ?_) fun h => ?_
  ·refine Ap (AR (AT (wq rfl (qm rfl (qa rfl (Ab (wq rfl (qw 3 rfl ?_))))))))
   refine BN h fun v4 a4 b4 h => qi DW Jz a4 (Ag b4) rfl (qk Jv rfl ?_)
   refine B4 h fun v5 a5 h => Lm (ds0 := [_]) (ar := (Nc false (Lq eB)) v4) (.p rfl) rfl rfl ⟨rfl, tv⟩ rfl rfl rfl (Lg (Ln _ _ (Wc W4)) a5) ?_
   refine Ab ?_
   refine Bb h (fun h => ?_) fun h => ?_
   ·refine wq rfl (qm rfl (qe rfl ?_))
    obtain rfl := sj h
    refine Af (sm [] [(4, iD v1)] [] rfl rfl) (Aq ?_)
    exact ⟨⟨[_], tm, rfl⟩, tv⟩
   ·refine Ap (Aj Aw rfl (Cl rfl (qm rfl (Ab ?_))))
    exact sn [] h
  ·refine BZ ?_
   exact sn [] h
 ·refine Af hs (wq rfl (qe rfl ?_))
  obtain rfl := sj h
  refine Af (sm [] [(4, iD ((-1)))] [] rfl rfl) (Aq ?_)
  exact ⟨⟨[_], tm, rfl⟩, tv⟩
theorem F8 (N : Nat) (p0 : List (List Bool)) (p1 : (List Bool) → Option Bool) (r : Bool) (h : Ca N p0 p1 = some r) : Ar zA 173 [pD (.sl (p0.map (Lq eB))), oD (.clo (Iv (Nc false (Lq eB)) tB p1))] [] (bD r) := by
 unfold Ca at h
 refine cw (n := 9) (rs := [.tmp 4]) Tryz.func173 fun w0 S0 => ?_
 refine wq rfl (qa rfl (Ab (wq rfl (qw 2 rfl ?_))))
 refine B4 h fun v1 a1 h => Av [] (GE N p0 p1 v1 a1) Vz rfl (C9 rfl (qe rfl ?_))
 obtain rfl := sj h
 refine Af (sm [] [(4, bD ((decide (0 ≤ v1))))] [] rfl rfl) (Aq ?_)
 exact ⟨⟨[_], tm, rfl⟩, tv⟩
theorem IL (N : Nat) (p0 : List (List Bool)) (p1 : Int) (p2 : Int) (r : Bool) (h : D3 N p0 p1 p2 = some r) : Ar zA 145 [pD (.sl (p0.map (Lq eB))), iD p1, iD p2] [] (bD r) := by
 unfold D3 at h
 refine cw (n := 17) (rs := [.tmp 6]) Tryz.func145 fun w0 S0 => ?_
 refine wq rfl (qb rfl (qe rfl ?_))
 refine AF h (fun v1 => mk [(6, bD v1)] []) (fun j1 h => ?_) (fun v1 h => ?_)
 ·refine Aj Aw rfl (qm rfl (AH DW rfl (qm rfl (AN rfl (qm rfl ?_)))))
  refine Cp 11 h rfl (fun h => ?_) fun h => ?_
  ·refine qm rfl (F4 (IM 5 [.val (.int .i64 p2)] rfl rfl) ?_)
   refine Ps (capD := [_]) (Iv (Nc false (Lq eB)) tB ((fun (x : List Bool) => C3 N x p2))) (.g rfl rfl) Wi rfl ⟨rfl, tv⟩ rfl (fun ar t ht => by obtain ⟨x, r, rfl, hq, rfl⟩ := IY ht; exact KB N x p2 r hq) ?_
   refine B4 h fun v3 a3 h => Av [] (F8 N p0 ((fun (x : List Bool) => C3 N x p2)) v3 a3) Vy rfl (B9 rfl (qp rfl (qe rfl ?_)))
   exact sn [] h
  ·refine qw 4 rfl (qp rfl (qe rfl ?_))
   exact sn [] h
 ·obtain rfl := sj h
  refine Af (sm [] [(6, bD v1)] [] rfl rfl) (Aq ?_)
  exact ⟨⟨[_], tm, rfl⟩, tv⟩
theorem My (N : Nat) (p0 : Aa) (p1 : AK) (r : Int) (h : E2 N p0 p1 = some r) : Ar zA 103 [.e (.agg (Ak p0)), .e (.agg (CC p1))] [] (iD r) := by
 unfold E2 at h
 refine cw (n := 87) (rs := [.tmp 4]) Tryz.func103 fun w0 S0 => ?_
 refine wq rfl (qb rfl (qb rfl (qa rfl (Ab (wp rfl (qf DX rfl (ql AW rfl (qf OB rfl (ql Qd rfl ?_)))))))))
 refine B4 h fun v1 a1 h => Av [] (N6 N p1.fa p1.fN v1 a1) Vn rfl (B9 rfl (Ab ?_))
 refine Bb h (fun h => ?_) fun h => ?_
 ·refine wq rfl (qe rfl ?_)
  obtain rfl := sj h
  refine Af (sm [] [(4, iD 1)] [] rfl rfl) (Aq ?_)
  exact ⟨⟨[_], tm, rfl⟩, tv⟩
 ·refine Ap (AR ?_)
  refine AF h (fun v3 => mk [(2, oD (.ptr 2 0)), (3, oD (.ptr 3 0)), (29, bD v3)] [(2, .box (Ak p0)), (3, .box (CC p1))]) (fun j3 h => ?_) (fun v3 h => ?_)
  ·refine Aj Aw rfl (qf Cc rfl (ql AW rfl (qf BB rfl (ql Bd rfl (AH AA rfl ?_)))))
   refine B4 h fun v4 a4 h => Av [] (FP N p1.fj ((p0.fb.length : Int)) v4 a4) Qe rfl (B9 rfl (qm rfl ?_))
   refine Cp 21 h rfl (fun h => ?_) fun h => ?_
   ·refine qw 7 rfl (qp rfl (Ab ?_))
    exact sn [] h
   ·refine qf FU rfl (ql AW rfl (qf BB rfl (ql Bd rfl (AH AA rfl ?_))))
    refine B4 h fun v6 a6 h => Av [] (FP N p1.fA ((p0.fb.length : Int)) v6 a6) Qe rfl (B9 rfl (qp rfl (Ab ?_)))
    exact sn [] h
  ·refine Bb h (fun h => ?_) fun h => ?_
   ·refine wq rfl (qe rfl ?_)
    obtain rfl := sj h
    refine Af (sm [] [(4, iD 4)] [] rfl rfl) (Aq ?_)
    exact ⟨⟨[_], tm, rfl⟩, tv⟩
   ·refine Ap (wq rfl (qf BB rfl (ql Bd rfl (qf Cc rfl (ql AW rfl ?_)))))
    refine BN h fun v8 a8 b8 h => qi AA CK a8 (Ag b8) rfl (qk AW rfl (qa rfl (Ab (wq rfl (qf DX rfl (ql AW rfl (AN rfl (qa rfl (Ab (AR ?_))))))))))
    refine AF h (fun v9 => mk [(3, oD (.ptr 3 0)), (70, bD v9)] [(3, .box (CC p1))]) (fun j9 h => ?_) (fun v9 h => ?_)
    ·refine Aj Aw rfl (qf Gx rfl (ql Fa rfl (qm rfl (qf BB rfl (ql Bd rfl (qf FU rfl (ql AW rfl ?_)))))))
     refine BN h fun v10 a10 b10 h => qi AA CK a10 (Ag b10) rfl (qk AW rfl ?_)
     refine B4 h fun v11 a11 h => Av [] (IL N p1.fE v8 v10 v11 a11) Up rfl (B9 rfl (qm rfl ?_))
     refine Cp 50 h rfl (fun h => ?_) fun h => ?_
     ·refine qw 2 rfl (qu rfl (qu rfl (qu rfl (qu rfl (qu rfl (qu rfl (qn rfl (qp rfl (qw 4 rfl (qu rfl (qu rfl (qu rfl (qu rfl (qn rfl (qp rfl (AE (by kernel_rfl) ?_))))))))))))))))
      exact sn [] h
     ·refine qw 2 rfl ?_
      refine Cp 52 h rfl (fun h => ?_) fun h => ?_
      ·refine qf D8 rfl (ql Fa rfl (qw 2 rfl ?_))
       refine B4 h fun v14 a14 h => Av [] (IL N p1.fy v8 v8 v14 a14) Up rfl (B9 rfl (qp rfl (qp rfl (qm rfl ?_))))
       refine Cp 61 h rfl (fun h => ?_) fun h => ?_
       ·refine qw 3 rfl (qu rfl (qu rfl (qu rfl (qu rfl (qn rfl (qp rfl (AE (by kernel_rfl) ?_)))))))
        exact sn [] h
       ·refine qm rfl (B9 rfl (qm rfl ?_))
        refine Cp 64 h rfl (fun h => ?_) fun h => ?_
        ·refine qf D8 rfl (ql Fa rfl (AH DW rfl (Ed rfl (qp rfl (qp rfl (AE (by kernel_rfl) ?_))))))
         exact sn [] h
        ·refine qw 4 rfl (qp rfl (qp rfl (AE (by kernel_rfl) ?_)))
         exact sn [] h
      ·refine qw 6 rfl (qp rfl (qp rfl (qw 2 rfl (B9 rfl (qm rfl ?_)))))
       refine Cp 64 h rfl (fun h => ?_) fun h => ?_
       ·refine qf D8 rfl (ql Fa rfl (AH DW rfl (Ed rfl (qp rfl (qp rfl (AE (by kernel_rfl) ?_))))))
        exact sn [] h
       ·refine qw 4 rfl (qp rfl (qp rfl (AE (by kernel_rfl) ?_)))
        exact sn [] h
    ·refine Bb h (fun h => ?_) fun h => ?_
     ·refine wq rfl (qe rfl ?_)
      obtain rfl := sj h
      refine Af (sm [] [(4, iD 6)] [] rfl rfl) (Aq ?_)
      exact ⟨⟨[_], tm, rfl⟩, tv⟩
     ·refine Ap (wp rfl (qf D8 rfl (ql Fa rfl (AH DW rfl (qm rfl (Ab ?_))))))
      refine A5 (L := Cj N p1) h (fun v19 => mk [(3, oD (.ptr 3 0)), (73, iD ((p1.fy.length : Int))), (74, iD v19)] [(3, .box (CC p1))]) (fun v20 => mk [] []) (fun _ _ => rfl) (sm [] _ _ rfl rfl) (fun j19 n19 v19 h => ?_) (fun v20 s h hs => ?_)
      ·unfold Cj at h
       refine wq rfl (A4 rfl (Ab (AR ?_)))
       refine Bb h (fun h => ?_) fun h => ?_
       ·refine Ap (AR (AT (wq rfl (qm rfl (qa rfl (Ab (wq rfl (qf D8 rfl (ql Fa rfl (qm rfl ?_))))))))))
        refine BN h fun v22 a22 b22 h => qi DW Jz a22 (Ag b22) rfl (qk Jv rfl (qm rfl ?_))
        refine BN h fun v23 a23 b23 h => qi HI Rm a23 (Ag b23) rfl (qk Qd rfl (B9 rfl (Ab ?_)))
        refine Bb h (fun h => ?_) fun h => ?_
        ·refine wq rfl (qe rfl ?_)
         obtain rfl := sj h
         refine Af (sm [] [(4, iD 1)] [] rfl rfl) (Aq ?_)
         exact ⟨⟨[_], tm, rfl⟩, tv⟩
        ·refine Ap (Aj Aw rfl (Cl rfl (qm rfl (Ab ?_))))
         exact sn [] h
       ·refine BZ ?_
        exact sn [] h
      ·refine Af hs (wq rfl (qe rfl ?_))
       obtain rfl := sj h
       refine Af (sm [] [(4, iD 0)] [] rfl rfl) (Aq ?_)
       exact ⟨⟨[_], tm, rfl⟩, tv⟩
theorem D9 (N : Nat) (p0 : Aa) (r : Int) (h : BS N p0 = some r) : Ar zA 59 [.e (.agg (Ak p0))] [] (iD r) := by
 unfold BS at h
 refine cw (n := 81) (rs := [.tmp 2]) Tryz.func59 fun w0 S0 => ?_
 refine wq rfl (qb rfl (qa rfl (Ab (wq rfl (qf BB rfl (ql Bd rfl (AH AA rfl (qa rfl (Ab (AR ?_))))))))))
 refine AF h (fun v1 => mk [(1, oD (.ptr 1 0)), (3, iD ((p0.fb.length : Int))), (19, bD v1)] [(1, .box (Ak p0))]) (fun j1 h => ?_) (fun v1 h => ?_)
 ·refine Aj Aw rfl (qm rfl (Ed rfl (qm rfl ?_)))
  refine Cp 14 h rfl (fun h => ?_) fun h => ?_
  ·refine qw 4 rfl (qp rfl (Ab ?_))
   exact sn [] h
  ·refine qf BA rfl (ql EK rfl (AH CR rfl (Ed rfl (qp rfl (Ab ?_)))))
   exact sn [] h
 ·refine Bb h (fun h => ?_) fun h => ?_
  ·refine wq rfl (qe rfl ?_)
   obtain rfl := sj h
   refine Af (sm [] [(2, iD 3)] [] rfl rfl) (Aq ?_)
   exact ⟨⟨[_], tm, rfl⟩, tv⟩
  ·refine Ap (AR ?_)
   refine AF h (fun v4 => mk [(1, oD (.ptr 1 0)), (31, bD v4)] [(1, .box (Ak p0))]) (fun j4 h => ?_) (fun v4 h => ?_)
   ·refine Aj Aw rfl (qf FO rfl (ql Bd rfl (AH AA rfl (qm rfl (BG rfl (qm rfl ?_))))))
    refine Cp 25 h rfl (fun h => ?_) fun h => ?_
    ·refine qw 5 rfl (qp rfl (Ab ?_))
     exact sn [] h
    ·refine qf I0 rfl (ql Bd rfl (AH AA rfl (qm rfl (BG rfl (qp rfl (Ab ?_))))))
     exact sn [] h
   ·refine Bb h (fun h => ?_) fun h => ?_
    ·refine wq rfl (qe rfl ?_)
     obtain rfl := sj h
     refine Af (sm [] [(2, iD 6)] [] rfl rfl) (Aq ?_)
     exact ⟨⟨[_], tm, rfl⟩, tv⟩
    ·refine Ap (wp rfl (qf BB rfl (ql Bd rfl (AH AA rfl (qm rfl (Ab ?_))))))
     refine A5 (L := Bs N p0) h (fun v7 => mk [(1, oD (.ptr 1 0)), (33, pD (.sl (p0.fb.map As))), (34, iD ((p0.fb.length : Int))), (35, iD v7)] [(1, .box (Ak p0))]) (fun v8 => mk [(1, oD (.ptr 1 0))] [(1, .box (Ak p0))]) (fun _ _ => rfl) (sm [] _ _ rfl rfl) (fun j7 n7 v7 h => ?_) (fun v8 s h hs => ?_)
     ·unfold Bs at h
      refine wq rfl (A4 rfl (Ab (AR ?_)))
      refine Bb h (fun h => ?_) fun h => ?_
      ·refine Ap (AR (AT (wq rfl (qm rfl ?_))))
       refine BN h fun v10 a10 b10 h => qi AA CK a10 (Ag b10) rfl (qk AW rfl (qa rfl (qe rfl ?_)))
       refine AF h (fun v11 => mk [(1, oD (.ptr 1 0)), (33, pD (.sl (p0.fb.map As))), (34, iD ((p0.fb.length : Int))), (35, iD v7), (65, bD v11)] [(1, .box (Ak p0))]) (fun j11 h => ?_) (fun v11 h => ?_)
       ·refine Aj Aw rfl (qm rfl (A4 rfl (qm rfl ?_)))
        refine Cp 42 h rfl (fun h => ?_) fun h => ?_
        ·refine qw 2 rfl (qp rfl (qw 9 rfl (qp rfl (qw 9 rfl (qp rfl (Ab ?_))))))
         exact sn [] h
        ·refine qm rfl (Ed rfl (qp rfl (qm rfl ?_)))
         refine Cp 46 h rfl (fun h => ?_) fun h => ?_
         ·refine qw 8 rfl (qp rfl (qw 9 rfl (qp rfl (Ab ?_))))
          exact sn [] h
         ·refine qf FO rfl (ql Bd rfl (qm rfl ?_))
          refine BN h fun v14 a14 b14 h => qi AA CK a14 (Ag b14) rfl (qk AW rfl (qm rfl ?_))
          refine B4 h fun v15 a15 h => Av [] (FP N v14 v10 v15 a15) Qe rfl (B9 rfl (qp rfl (qm rfl ?_)))
          refine Cp 56 h rfl (fun h => ?_) fun h => ?_
          ·refine qw 8 rfl (qp rfl (Ab ?_))
           exact sn [] h
          ·refine qf I0 rfl (ql Bd rfl (qm rfl ?_))
           refine BN h fun v17 a17 b17 h => qi AA CK a17 (Ag b17) rfl (qk AW rfl (qm rfl ?_))
           refine B4 h fun v18 a18 h => Av [] (FP N v17 v10 v18 a18) Qe rfl (B9 rfl (qp rfl (Ab ?_)))
           exact sn [] h
       ·refine Bb h (fun h => ?_) fun h => ?_
        ·refine wq rfl (qe rfl ?_)
         obtain rfl := sj h
         refine Af (sm [] [(2, iD 7)] [] rfl rfl) (Aq ?_)
         exact ⟨⟨[_], tm, rfl⟩, tv⟩
        ·refine Ap (Aj Aw rfl (Cl rfl (qm rfl (Ab ?_))))
         exact sn [] h
      ·refine BZ ?_
       exact sn [] h
     ·refine Af hs (wp rfl (qf BA rfl (ql EK rfl (AH CR rfl (qm rfl (Ab ?_))))))
      refine A5 (L := Bm N p0) h (fun v20 => mk [(1, oD (.ptr 1 0)), (68, pD (.sl (p0.fc.map BD))), (69, iD ((p0.fc.length : Int))), (70, iD v20)] [(1, .box (Ak p0))]) (fun v21 => mk [] []) (fun _ _ => rfl) (sm [] _ _ rfl rfl) (fun j20 n20 v20 h => ?_) (fun v21 s h hs => ?_)
      ·unfold Bm at h
       refine wq rfl (A4 rfl (Ab (AR ?_)))
       refine Bb h (fun h => ?_) fun h => ?_
       ·refine Ap (AR (AT (wq rfl ?_)))
        refine BN h fun v23 a23 b23 h => qi CR BK a23 (Ag b23) rfl (qK Eu BK rfl (qz IC rfl (qs BK rfl (Ab (wq rfl (qL DG DA rfl (qL Eu BK rfl ?_)))))))
        refine B4 h fun v24 a24 h => Av [] (My N p0 v23 v24 a24) Vu rfl (qa rfl (Ab (wq rfl (qm rfl (BG rfl (Ab ?_))))))
        refine Bb h (fun h => ?_) fun h => ?_
        ·refine wq rfl (qm rfl (qe rfl ?_))
         obtain rfl := sj h
         refine Af (sm [] [(2, iD v24)] [] rfl rfl) (Aq ?_)
         exact ⟨⟨[_], tm, rfl⟩, tv⟩
        ·refine Ap (Aj Aw rfl (Cl rfl (qm rfl (Ab ?_))))
         exact sn [] h
       ·refine BZ ?_
        exact sn [] h
      ·refine Af hs (wq rfl (qe rfl ?_))
       obtain rfl := sj h
       refine Af (sm [] [(2, iD 0)] [] rfl rfl) (Aq ?_)
       exact ⟨⟨[_], tm, rfl⟩, tv⟩
theorem Ha (N : Nat) (p0 : List Int) (p1 : Int → Option Bool) (r : Int) (h : CV N p0 p1 = some r) : Ar zA 147 [pD (.sl (p0.map As)), oD (.clo (Iv (Nc false As) tB p1))] [] (iD r) := by
 unfold CV at h
 refine cw (n := 19) (rs := [.tmp 4]) Tryz.func147 fun w0 S0 => ?_
 refine wq rfl (qa rfl (Ab (wp rfl (qm rfl (AH AA rfl (qm rfl (Ab ?_)))))))
 refine A5 (L := A3 N p0 p1) h (fun v1 => mk [(0, pD (.sl (p0.map As))), (1, oD (.clo (Iv (Nc false As) tB p1))), (7, iD ((p0.length : Int))), (8, iD v1)] []) (fun v2 => mk [] []) (fun _ _ => rfl) (sm [] _ _ rfl rfl) (fun j1 n1 v1 h => ?_) (fun v2 s h hs => ?_)
 ·unfold A3 at h
  refine wq rfl (A4 rfl (Ab (AR ?_)))
  refine Bb h (fun h => ?_) fun h => ?_
  ·refine Ap (AR (AT (wq rfl (qm rfl (qa rfl (Ab (wq rfl (qw 3 rfl ?_))))))))
   refine BN h fun v4 a4 b4 h => qi AA CK a4 (Ag b4) rfl (qk AW rfl ?_)
   refine B4 h fun v5 a5 h => Lm (ds0 := [_]) (ar := (Nc false As) v4) (.p rfl) rfl rfl ⟨rfl, tv⟩ rfl rfl rfl (Lg (Ln _ _ Se) a5) ?_
   refine Ab ?_
   refine Bb h (fun h => ?_) fun h => ?_
   ·refine wq rfl (qm rfl (qe rfl ?_))
    obtain rfl := sj h
    refine Af (sm [] [(4, iD v1)] [] rfl rfl) (Aq ?_)
    exact ⟨⟨[_], tm, rfl⟩, tv⟩
   ·refine Ap (Aj Aw rfl (Cl rfl (qm rfl (Ab ?_))))
    exact sn [] h
  ·refine BZ ?_
   exact sn [] h
 ·refine Af hs (wq rfl (qe rfl ?_))
  obtain rfl := sj h
  refine Af (sm [] [(4, iD ((-1)))] [] rfl rfl) (Aq ?_)
  exact ⟨⟨[_], tm, rfl⟩, tv⟩
theorem Gz (N : Nat) (p0 : List Int) (p1 : Int → Option Bool) (r : Bool) (h : BW N p0 p1 = some r) : Ar zA 108 [pD (.sl (p0.map As)), oD (.clo (Iv (Nc false As) tB p1))] [] (bD r) := by
 unfold BW at h
 refine cw (n := 9) (rs := [.tmp 4]) Tryz.func108 fun w0 S0 => ?_
 refine wq rfl (qa rfl (Ab (wq rfl (qw 2 rfl ?_))))
 refine B4 h fun v1 a1 h => Av [] (Ha N p0 p1 v1 a1) WA rfl (C9 rfl (qe rfl ?_))
 obtain rfl := sj h
 refine Af (sm [] [(4, bD ((decide (0 ≤ v1))))] [] rfl rfl) (Aq ?_)
 exact ⟨⟨[_], tm, rfl⟩, tv⟩
theorem JP (N : Nat) (p0 : Int) (r : Bool) (h : DZ N p0 = some r) : Ar zA 109 [iD p0] [] (bD r) := by
 unfold DZ at h
 refine cw (n := 9) (rs := [.tmp 2]) Tryz.func109 fun w0 S0 => ?_
 refine wq rfl (qe rfl ?_)
 refine AF h (fun v1 => mk [(2, bD v1)] []) (fun j1 h => ?_) (fun v1 h => ?_)
 ·refine Aj Aw rfl (qm rfl (A4 rfl (qm rfl ?_)))
  refine Cp 5 h rfl (fun h => ?_) fun h => ?_
  ·refine qw 2 rfl (qp rfl (qe rfl ?_))
   exact sn [] h
  ·refine qm rfl (Ed rfl (qp rfl (qe rfl ?_)))
   exact sn [] h
 ·obtain rfl := sj h
  refine Af (sm [] [(2, bD v1)] [] rfl rfl) (Aq ?_)
  exact ⟨⟨[_], tm, rfl⟩, tv⟩
theorem K7 (N : Nat) (p0 : Aa) (p1 : List Int) (r : Int) (h : Ep N p0 p1 = some r) : Ar zA 71 [.e (.agg (Ak p0)), pD (.sl (p1.map As))] [] (iD r) := by
 unfold Ep at h
 refine cw (n := 15) (rs := [.tmp 4]) Tryz.func71 fun w0 S0 => ?_
 refine wq rfl (qb rfl (qa rfl (Ab (AR (AT (wq rfl (qm rfl (AH AA rfl (qf BB rfl (ql Bd rfl (AH AA rfl (BG rfl (qe rfl ?_)))))))))))))
 refine Bb h (fun h => ?_) fun h => ?_
 ·refine wq rfl (qe rfl ?_)
  obtain rfl := sj h
  refine Af (sm [] [(4, iD 6)] [] rfl rfl) (Aq ?_)
  exact ⟨⟨[_], tm, rfl⟩, tv⟩
 ·refine wq rfl (qm rfl ?_)
  refine B4 h fun v2 a2 h => Av [] (Ar.weak (ds' := [pD (.sl (p1.map As)), oD (.fnc 109)]) (Gz N p1 ((fun (x : Int) => DZ N x)) v2 a2) ⟨(fun _ _ _ hh => hh), (fun _ _ _ hh => Of Ws (fun ar t ht => by obtain ⟨x, r, rfl, hq, rfl⟩ := IY ht; exact JP N x r hq) hh), tv⟩) VE rfl ?_
  refine qa rfl (Ab ?_)
  refine Bb h (fun h => ?_) fun h => ?_
  ·refine wq rfl (qe rfl ?_)
   obtain rfl := sj h
   refine Af (sm [] [(4, iD 7)] [] rfl rfl) (Aq ?_)
   exact ⟨⟨[_], tm, rfl⟩, tv⟩
  ·refine Ap (wq rfl (qe rfl ?_))
   obtain rfl := sj h
   refine Af (sm [] [(4, iD 0)] [] rfl rfl) (Aq ?_)
   exact ⟨⟨[_], tm, rfl⟩, tv⟩
theorem Fd (N : Nat) (p0 : List Am) (p1 : Am → Option Bool) (r : Int) (h : Bl N p0 p1 = some r) : Ar zA 148 [pD (.sl (p0.map AP)), oD (.clo (Iv (Nc true AP) tB p1))] [] (iD r) := by
 unfold Bl at h
 refine cw (n := 19) (rs := [.tmp 4]) Tryz.func148 fun w0 S0 => ?_
 refine wq rfl (qa rfl (Ab (wp rfl (qm rfl (AH GB rfl (qm rfl (Ab ?_)))))))
 refine A5 (L := AO N p0 p1) h (fun v1 => mk [(0, pD (.sl (p0.map AP))), (1, oD (.clo (Iv (Nc true AP) tB p1))), (7, iD ((p0.length : Int))), (8, iD v1)] []) (fun v2 => mk [] []) (fun _ _ => rfl) (sm [] _ _ rfl rfl) (fun j1 n1 v1 h => ?_) (fun v2 s h hs => ?_)
 ·unfold AO at h
  refine wq rfl (A4 rfl (Ab (AR ?_)))
  refine Bb h (fun h => ?_) fun h => ?_
  ·refine Ap (AR (AT (wq rfl (qm rfl (qa rfl (Ab (wq rfl (qw 3 rfl ?_))))))))
   refine BN h fun v4 a4 b4 h => qi GB FR a4 (Ag b4) rfl (qK In FR rfl ?_)
   refine B4 h fun v5 a5 h => Lm (ds0 := [_]) (ar := (Nc true AP) v4) (.p rfl) rfl rfl ⟨rfl, tv⟩ rfl rfl rfl (Lg (Ln _ _ P5) a5) ?_
   refine Ab ?_
   refine Bb h (fun h => ?_) fun h => ?_
   ·refine wq rfl (qm rfl (qe rfl ?_))
    obtain rfl := sj h
    refine Af (sm [] [(4, iD v1)] [] rfl rfl) (Aq ?_)
    exact ⟨⟨[_], tm, rfl⟩, tv⟩
   ·refine Ap (Aj Aw rfl (Cl rfl (qm rfl (Ab ?_))))
    exact sn [] h
  ·refine BZ ?_
   exact sn [] h
 ·refine Af hs (wq rfl (qe rfl ?_))
  obtain rfl := sj h
  refine Af (sm [] [(4, iD ((-1)))] [] rfl rfl) (Aq ?_)
  exact ⟨⟨[_], tm, rfl⟩, tv⟩
theorem EV (N : Nat) (p0 : List Am) (p1 : Am → Option Bool) (r : Bool) (h : Ba N p0 p1 = some r) : Ar zA 110 [pD (.sl (p0.map AP)), oD (.clo (Iv (Nc true AP) tB p1))] [] (bD r) := by
 unfold Ba at h
 refine cw (n := 9) (rs := [.tmp 4]) Tryz.func110 fun w0 S0 => ?_
 refine wq rfl (qa rfl (Ab (wq rfl (qw 2 rfl ?_))))
 refine B4 h fun v1 a1 h => Av [] (Fd N p0 p1 v1 a1) Vr rfl (C9 rfl (qe rfl ?_))
 obtain rfl := sj h
 refine Af (sm [] [(4, bD ((decide (0 ≤ v1))))] [] rfl rfl) (Aq ?_)
 exact ⟨⟨[_], tm, rfl⟩, tv⟩
theorem Jl (N : Nat) (p0 : Am) (r : Bool) (h : DD N p0 = some r) : Ar zA 111 [.e (.agg (BQ p0))] [] (bD r) := by
 unfold DD at h
 refine cw (n := 6) (rs := [.tmp 2]) Tryz.func111 fun w0 S0 => ?_
 refine wq rfl (qb rfl (qa rfl (Ab (wq rfl (qf C0 rfl (ql AW rfl (AN rfl (qe rfl ?_))))))))
 obtain rfl := sj h
 refine Af (sm [] [(2, bD ((p0.fa == 4)))] [] rfl rfl) (Aq ?_)
 exact ⟨⟨[_], tm, rfl⟩, tv⟩
theorem Ey (N : Nat) (p0 : List Int) (r : (List Int)) (h : BY N p0 = some r) : Ar zA 149 [pD (.sl (p0.map As))] [(1, r.map As)] (oD (.own 0)) := by
 unfold BY at h
 refine cw (n := 8) (rs := [.tmp 2]) Tryz.func149 fun w0 S0 => ?_
 refine wq rfl (qa rfl (Ab (wp rfl (qm rfl ?_))))
 refine Oe (.p rfl) rfl AA ?_
 refine Ab ?_
 refine Nv rfl (fun c2 => ?_) ?_
 ·have c2 := xB.1 c2
  rw [c2] at h
  have h : (some (([] : List Int))) = some r := h
  refine wq rfl (qe rfl ?_)
  obtain rfl := sj h
  refine Af ((Fx 2 2001 1 rfl rfl rfl).trans (sm [(1000, 2001)] [(2, oD (.own 1000))] [(1000, .vec 1 ((([] : List Int)).map As))] rfl rfl)) (Aq ?_)
  exact ⟨⟨[_], tm, rfl⟩, ⟨rfl, tv⟩⟩
 ·refine Ap (wq rfl (FJ AA CK Ok rfl (qm rfl ?_)))
  refine HL h fun c1 h => Kk (f := As) AA AA CK Q8 Ok (fun _ => rfl) c1 rfl (qe rfl ?_)
  obtain rfl := sj h
  refine Af (sm [(1000, 7)] [(2, oD (.own 1000))] [(1000, .vec 1 (((([] : List Int)) ++ p0).map As))] rfl rfl) (Aq ?_)
  exact ⟨⟨[_], tm, rfl⟩, ⟨rfl, tv⟩⟩
theorem Kd (N : Nat) (p0 : Int) (p1 : Int) (r : Int × Int) (h : Fu N p0 p1 = some r) : Ar zA 190 [pD (.val (.int .u32 p0)), pD (.val (.int .u32 p1))] [] (.tup [.one (.pure (.val (.int .u32 r.1))), .one (.pure (.val (.int .u32 r.2)))]) := by
 unfold Fu at h
 refine cw (n := 17) (rs := [.tmp 4, .tmp 5]) Tryz.func190 fun w0 S0 => ?_
 refine wq rfl (qa rfl (qa rfl (Ab (wq rfl (qm rfl (K5 Ql T8 rfl (qm rfl (K5 Ql T8 rfl (MQ rfl (qa rfl (Ab (wq rfl (qm rfl (K1 rfl (by decide) (K5 Uk Qt rfl (qm rfl (K5 Uk Qt rfl (qa rfl (qe rfl ?_)))))))))))))))))))
 obtain rfl := sj h
 refine Af (sm [] [(4, pD (.val (.int .u32 ((wI .u32 ((FG .u64 ((wI .u64 ((wI .u64 p0) * (wI .u64 p1)))) 32))))))), (5, pD (.val (.int .u32 ((wI .u32 ((wI .u64 ((wI .u64 p0) * (wI .u64 p1)))))))))] [] rfl rfl) (Aq ?_)
 exact ⟨⟨[_, _], ⟨.tmp _ _ rfl, tm⟩, rfl⟩, tv⟩
theorem JO (N : Nat) (p0 : Int) (p1 : Int) (r : Int × Int) (h : Fy N p0 p1 = some r) : Ar zA 191 [pD (.val (.int .u64 p0)), pD (.val (.int .u64 p1))] [] (.tup [.one (.pure (.val (.int .u64 r.1))), .one (.pure (.val (.int .u64 r.2)))]) := by
 unfold Fy at h
 refine cw (n := 51) (rs := [.tmp 4, .tmp 5]) Tryz.func191 fun w0 S0 => ?_
 refine wq rfl (qa rfl (qa rfl (Ab (wq rfl (qm rfl (Nb rfl (qa rfl (Ab (wq rfl (qm rfl (K1 rfl (by decide) (qa rfl (Ab (wq rfl (qm rfl (Nb rfl (qa rfl (Ab (wq rfl (qm rfl (K1 rfl (by decide) (qa rfl (Ab (wq rfl (qw 2 rfl (MQ rfl (qa rfl (Ab (wq rfl (qw 2 rfl ?_))))))))))))))))))))))))))))))
 refine MQ rfl (qm rfl (K1 rfl (by decide) (Cl rfl (qa rfl (Ab (wq rfl (qm rfl (Nb rfl (qa rfl (Ab (wq rfl (qm rfl (K1 rfl (by decide) (qa rfl (Ab (wq rfl (qw 3 rfl (MQ rfl (Cl rfl (qa rfl (Ab (wq rfl (qw 2 rfl (MQ rfl (qm rfl (Cl rfl (qm rfl (K1 rfl (by decide) (Cl rfl (qa rfl (Ab (AR ?_))))))))))))))))))))))))))))))))
 refine Aj Aw rfl (qw 2 rfl (MQ rfl (qe rfl ?_)))
 obtain rfl := sj h
 refine Af (sm [] [(4, pD (.val (.int .u64 ((wI .u64 ((wI .u64 ((wI .u64 ((FG .u64 p0 32) * (FG .u64 p1 32))) + (FG .u64 ((wI .u64 ((wI .u64 ((FG .u64 p0 32) * (Ft .u64 p1 4294967295))) + (FG .u64 ((wI .u64 ((Ft .u64 p0 4294967295) * (Ft .u64 p1 4294967295)))) 32)))) 32))) + (FG .u64 ((wI .u64 ((Ft .u64 ((wI .u64 ((wI .u64 ((FG .u64 p0 32) * (Ft .u64 p1 4294967295))) + (FG .u64 ((wI .u64 ((Ft .u64 p0 4294967295) * (Ft .u64 p1 4294967295)))) 32)))) 4294967295) + (wI .u64 ((Ft .u64 p0 4294967295) * (FG .u64 p1 32)))))) 32))))))), (5, pD (.val (.int .u64 ((wI .u64 (p0 * p1))))))] [] rfl rfl) (Aq ?_)
 exact ⟨⟨[_, _], ⟨.tmp _ _ rfl, tm⟩, rfl⟩, tv⟩
theorem Ld (N : Nat) (p0 : Int) (p1 : Int) (r : Int × Int) (h : Gf N p0 p1 = some r) : Ar zA 175 [pD (.val (.int .u64 p0)), pD (.val (.int .u64 p1))] [] (.tup [.one (.pure (.val (.int .u64 r.1))), .one (.pure (.val (.int .u64 r.2)))]) := by
 unfold Gf at h
 refine cw (n := 30) (rs := [.tmp 4, .tmp 5]) Tryz.func175 fun w0 S0 => ?_
 refine wq rfl (qa rfl (qa rfl (Ab (AR ?_))))
 refine Bb h (fun h => ?_) fun h => ?_
 ·refine wq rfl (qm rfl (K5 RB Qt rfl (qm rfl (K5 RB Qt rfl ?_))))
  refine B4 h fun v2 a2 h => Av [] (Kd N ((wI .u32 p0)) ((wI .u32 p1)) v2 a2) WG rfl (qm rfl (qx rfl (qx rfl (qa rfl (qa rfl (Ab (wq rfl (qm rfl (K5 Ql QC rfl (qm rfl (K5 Ql QC rfl (qa rfl (qe rfl ?_)))))))))))))
  obtain rfl := sj h
  refine Af (sm [] [(4, pD (.val (.int .u64 ((wI .u64 v2.1))))), (5, pD (.val (.int .u64 ((wI .u64 v2.2)))))] [] rfl rfl) (Aq ?_)
  exact ⟨⟨[_, _], ⟨.tmp _ _ rfl, tm⟩, rfl⟩, tv⟩
 ·refine Ap (wq rfl (qw 2 rfl ?_))
  refine B4 h fun v3 a3 h => Av [] (JO N p0 p1 v3 a3) VU rfl (qm rfl (qx rfl (qx rfl (qa rfl (qa rfl (Ab (wq rfl (qw 2 rfl (qa rfl (qe rfl ?_))))))))))
  obtain rfl := sj h
  refine Af (sm [] [(4, pD (.val (.int .u64 v3.1))), (5, pD (.val (.int .u64 v3.2)))] [] rfl rfl) (Aq ?_)
  exact ⟨⟨[_, _], ⟨.tmp _ _ rfl, tm⟩, rfl⟩, tv⟩
theorem HR (N : Nat) (p0 : List Int) (p1 : Int) (r : (List Int)) (h : Dl N p0 p1 = some r) : Ar zA 150 [pD (.sl (p0.map As)), iD p1] [(1, r.map As)] (oD (.own 0)) := by
 unfold Dl at h
 refine cw (n := 48) (rs := [.tmp 4]) Tryz.func150 fun w0 S0 => ?_
 refine wq rfl (qe rfl ?_)
 refine AF h (fun v1 => mk [(0, pD (.sl (p0.map As))), (1, iD p1)] []) (fun j1 h => ?_) (fun v1 h => ?_)
 ·refine wq rfl (qm rfl (A4 rfl (Ab ?_)))
  refine Bb h (fun h => ?_) fun h => ?_
  ·refine Aj Aw rfl ?_
   cases h
  ·refine Ap ?_
   exact sn [] h
 ·refine wq rfl (qm rfl (AH AA rfl (K5 Xw QC rfl (qm rfl (K5 Xw QC rfl ?_)))))
  refine B4 h fun v3 a3 h => Av [] (Ld N ((wI .u64 ((p0.length : Int)))) ((wI .u64 p1)) v3 a3) Wn rfl (qm rfl (qx rfl (qx rfl (qa rfl (qe rfl ?_)))))
  refine AF h (fun v4 => mk [(0, pD (.sl (p0.map As))), (6, pD (.val (.int .u64 v3.2)))] []) (fun j4 h => ?_) (fun v4 h => ?_)
  ·refine AF h (fun v5 => mk [(0, pD (.sl (p0.map As))), (6, pD (.val (.int .u64 v3.2))), (26, bD v5)] []) (fun j5 h => ?_) (fun v5 h => ?_)
   ·refine Aj Aw rfl (qm rfl (Ed rfl (qm rfl ?_)))
    refine Cp 23 h rfl (fun h => ?_) fun h => ?_
    ·refine qw 2 rfl (qp rfl (Ab ?_))
     exact sn [] h
    ·refine qm rfl (Ed rfl (qp rfl (Ab ?_)))
     exact sn [] h
   ·refine Bb h (fun h => ?_) fun h => ?_
    ·refine Aj Aw rfl ?_
     cases h
    ·refine Ap ?_
     exact sn [] h
  ·refine wq rfl (qm rfl (K5 RB Xy rfl ?_))
   refine HL h fun c8 h => KL (.p rfl) rfl rfl rfl AA CK Q8 (GZ rfl) Ok rfl rfl rfl c8.1 c8.2.1 c8.2.2 (QE As _ ((0 : Int))) ?_
   refine qa rfl (Ab (wq rfl (qw 2 rfl ?_)))
   refine P8 As (zJ ((wI .i64 v3.2)).toNat ((0 : Int))) p0 (.p rfl) rfl (Md As _ _ (zJ ((wI .i64 v3.2)).toNat ((0 : Int)))) rfl rfl (TK As _ _ (fun _ => rfl)) tv AA CK ?_
   refine qa rfl (Ab (AR ?_))
   refine A5 (L := CU N) h (fun v9 => mk [(7, oD (.own 2001)), (8, iD v9.2)] [(2001, .vec 1 (v9.1.map As))]) (fun v10 => mk [(7, oD (.own 2002))] [(2002, .vec 1 (v10.map As))]) (fun _ _ => rfl) (sm [(2001, 30)] _ _ rfl rfl) (fun j9 n9 v9 h => ?_) (fun v10 s h hs => ?_)
   ·unfold CU at h
    refine wp rfl (qw 2 rfl (PA AA rfl (A4 rfl (Ab ?_))))
    refine Bb h (fun h => ?_) fun h => ?_
    ·refine Ap (AT (Aj Aw rfl (qw 3 rfl ?_)))
     obtain ⟨c12, h⟩ := Hk h
     have w13 : ((v9.2).toNat) + ((v9.1.length - (v9.2).toNat)) ≤ v9.1.length := by have := c12.2.1; have := c12.2.2; omega
     refine OO As v9.1 (.p rfl) rfl (Md As _ _ v9.1) rfl AA CK (.some _ _ _ _ c12.1) (.none _) ⟨rfl, tv⟩ tv c12.2.1 (by rw [zI]; exact c12.2.2) (zI _) rfl ?_
     refine qw 2 rfl ?_
     obtain ⟨c14, h⟩ := Hk h
     have w15 : 0 + ((v9.2).toNat) ≤ v9.1.length := by have := c14.2.1; have := c14.2.2; omega
     refine OO As v9.1 (.p rfl) rfl (Md As _ _ v9.1) rfl AA CK (.none _) (.some _ _ _ _ c14.1) tv ⟨rfl, tv⟩ c14.2.1 (by rw [zI]; exact c14.2.2) (zI _) rfl ?_
     refine P8 As v9.1 (((v9.1.drop 0).take ((v9.2).toNat))) (.p rfl) rfl (QV As _ _ ((v9.2).toNat) ((v9.1.length - (v9.2).toNat)) v9.1 w13) rfl rfl (Q4 As _ _ 0 ((v9.2).toNat) v9.1 w15) ⟨rfl, tv⟩ AA CK ?_
     refine Cl rfl (qa rfl (AE (by kernel_rfl) ?_))
     exact sn [] h
    ·refine BZ ?_
     exact sn [(2002, 2001)] h
   ·refine Af hs (wq rfl (qm rfl (qe rfl ?_)))
    obtain rfl := sj h
    refine Af (sm [(1000, 2002)] [(4, oD (.own 1000))] [(1000, .vec 1 (v10.map As))] rfl rfl) (Aq ?_)
    exact ⟨⟨[_], tm, rfl⟩, ⟨rfl, tv⟩⟩
theorem J8 (N : Nat) (p0 : AK) (r : Bool) (h : EG N p0 = some r) : Ar zA 151 [.e (.agg (CC p0))] [] (bD r) := by
 unfold EG at h
 refine cw (n := 11) (rs := [.tmp 2]) Tryz.func151 fun w0 S0 => ?_
 refine wq rfl (qb rfl (qe rfl ?_))
 refine AF h (fun v1 => mk [(2, bD v1)] []) (fun j1 h => ?_) (fun v1 h => ?_)
 ·refine Aj Aw rfl (qf DX rfl (ql AW rfl (AN rfl (qm rfl ?_))))
  refine Cp 6 h rfl (fun h => ?_) fun h => ?_
  ·refine qw 3 rfl (qp rfl (qe rfl ?_))
   exact sn [] h
  ·refine qf DX rfl (ql AW rfl (AN rfl (qp rfl (qe rfl ?_))))
   exact sn [] h
 ·obtain rfl := sj h
  refine Af (sm [] [(2, bD v1)] [] rfl rfl) (Aq ?_)
  exact ⟨⟨[_], tm, rfl⟩, tv⟩
theorem OY (N : Nat) (p0 : Aa) (r : Ae × Int) (h : FV N p0 = some r) : Ar zA 112 [.e (.agg (Ak p0))] [(1, r.1.fh.map As), (1, r.1.ff.map As), (1, r.1.fg.map Dm)] (.tup [.agg [.own 0, .own 1, .own 2], .one (iC r.2)]) := by
 unfold FV at h
 refine cw (n := 50) (rs := [.cell 2 40, .tmp 3]) Tryz.func112 fun w0 S0 => ?_
 refine wq rfl (qb rfl (qz Dj rfl (qa rfl (Ab (wp rfl (qL DG DA rfl ?_))))))
 refine B4 h fun v1 a1 h => Av [] (D9 N p0 v1 a1) TG rfl (qa rfl (Ab (wq rfl (qm rfl (BG rfl (Ab ?_))))))
 refine Bb h (fun h => ?_) fun h => ?_
 ·refine wq rfl (Bq Dj GS rfl (qm rfl (qs AU rfl (qe rfl ?_))))
  obtain rfl := sj h
  refine Af ((Ax 2 0 2001 1 _ rfl rfl rfl rfl).trans ((Ax 2 1 2002 1 _ rfl rfl rfl rfl).trans ((Ax 2 2 2003 1 _ rfl rfl rfl rfl).trans (sm [(1000, 2001), (1001, 2002), (1002, 2003)] [(2, oD (.ptr 2 0)), (3, iD v1)] [(2, .box [.own 1000, .own 1001, .own 1002]), (1000, .vec 1 ((([] : List Int)).map As)), (1001, .vec 1 ((([] : List Int)).map As)), (1002, .vec 1 ((([] : List Int)).map Dm))] rfl rfl)))) (Aq ?_)
  exact ⟨⟨[_, _], ⟨.cellN _ _ _ _ _ _ _ rfl rfl B0 AU rfl rfl (HQ rfl), tm⟩, rfl⟩, ⟨rfl, rfl, rfl, tv⟩⟩
 ·refine Ap (wq rfl (qf FO rfl (ql Bd rfl ?_)))
  refine B4 h fun v3 a3 h => Av [2004] (Ey N p0.fk v3 a3) RO rfl (FJ AA CK Ok rfl (qf FO rfl (ql Bd rfl (AH AA rfl ?_))))
  refine B4 h fun v4 a4 h => Hw [2005] [17] (HR N (([(-1)] : List Int)) ((p0.fk.length : Int)) v4 a4) Wg (PU (fun _ => rfl) FD) rfl (qf BA rfl (ql EK rfl (AH CR rfl ?_)))
  refine HL h fun c5 h => KL (.p rfl) rfl rfl rfl DQ DR Oj (GZ rfl) LO rfl rfl rfl c5.1 c5.2.1 c5.2.2 (QE Dm _ ((0 : Int))) ?_
  refine Bq Dj GS rfl (qz Dj rfl (qs AU rfl (AE (by kernel_rfl) (wp rfl (qf BA rfl (ql EK rfl (AH CR rfl (qm rfl (Ab ?_)))))))))
  refine A5 (L := C7 N p0) h (fun v6 => mk [(1, oD (.ptr 1 0)), (2, oD (.ptr 2 0)), (5, oD (.ptr 5 0)), (28, pD (.sl (p0.fc.map BD))), (29, iD ((p0.fc.length : Int))), (30, iD v6.2)] [(1, .box (Ak p0)), (2, .box [.pure (.nil0), .pure (.nil0), .pure (.nil0)]), (5, .box [.own 2006, .own 2007, .own 2008]), (2006, .vec 1 (v3.map As)), (2007, .vec 1 (v4.map As)), (2008, .vec 1 (v6.1.map Dm))]) (fun v7 => mk [(2, oD (.ptr 2 0)), (5, oD (.ptr 5 0))] [(2, .box [.pure (.nil0), .pure (.nil0), .pure (.nil0)]), (5, .box [.own 2009, .own 2010, .own 2011]), (2009, .vec 1 (v3.map As)), (2010, .vec 1 (v4.map As)), (2011, .vec 1 (v7.map Dm))]) (fun _ _ => rfl) (sm [(2006, 2004), (2007, 2005), (2008, 25)] _ _ rfl rfl) (fun j6 n6 v6 h => ?_) (fun v7 s h hs => ?_)
  ·unfold C7 at h
   refine wq rfl (A4 rfl (Ab (AR ?_)))
   refine Bb h (fun h => ?_) fun h => ?_
   ·refine Ap ?_
    refine AF h (fun v9 => mk [(1, oD (.ptr 1 0)), (2, oD (.ptr 2 0)), (5, oD (.ptr 5 0)), (28, pD (.sl (p0.fc.map BD))), (29, iD ((p0.fc.length : Int))), (30, iD v6.2)] [(1, .box (Ak p0)), (2, .box [.pure (.nil0), .pure (.nil0), .pure (.nil0)]), (5, .box [.own 2012, .own 2013, .own 2014]), (2012, .vec 1 (v3.map As)), (2013, .vec 1 (v4.map As)), (2014, .vec 1 (v9.map Dm))]) (fun j9 h => ?_) (fun v9 h => ?_)
    ·refine AT (wq rfl (qm rfl ?_))
     refine BN h fun v10 a10 b10 h => qi CR BK a10 (Ag b10) rfl (qK Eu BK rfl (qz IC rfl (qa rfl (qs BK rfl (Ab (wq rfl (qL Eu BK rfl ?_)))))))
     refine B4 h fun v11 a11 h => Av [] (J8 N v10 v11 a11) T6 rfl (Ab ?_)
     refine Bb h (fun h => ?_) fun h => ?_
     ·refine Aj Aw rfl (qf CF rfl (ql GV rfl (qm rfl (qf FO rfl (ql Bd rfl (qf Cc rfl (ql AW rfl ?_)))))))
      refine BN h fun v13 a13 b13 h => qi AA CK a13 (Ag b13) rfl (qk AW rfl ?_)
      refine HL h fun c14 h => Ik rfl c14 ?_
      refine BN h fun v15 a15 b15 h => qI DQ DR a15 (Ag b15) rfl ?_
      refine EE rfl rfl rfl rfl (Ag b15) rfl DR rfl (GZ rfl) (EC Dm v6.1 _ ((DE .u8 1 v13))) ?_
      refine AE (by kernel_rfl) ?_
      exact sn [(2012, 2006), (2013, 2007), (2014, 2008)] h
     ·refine Ap ?_
      exact sn [(2012, 2006), (2013, 2007), (2014, 2008)] h
    ·refine Aj Aw rfl (Cl rfl (qm rfl (Ab ?_)))
     exact sn [(2006, 2012), (2007, 2013), (2008, 2014)] h
   ·refine BZ ?_
    exact sn [(2009, 2006), (2010, 2007), (2011, 2008)] h
  ·refine Af hs (wq rfl (qL B0 AU rfl (qs AU rfl (qe rfl ?_))))
   obtain rfl := sj h
   refine Af (sm [(1000, 2009), (1001, 2010), (1002, 2011)] [(2, oD (.ptr 2 0)), (3, iD 0)] [(2, .box [.own 1000, .own 1001, .own 1002]), (1000, .vec 1 (v3.map As)), (1001, .vec 1 (v4.map As)), (1002, .vec 1 (v7.map Dm))] rfl rfl) (Aq ?_)
   exact ⟨⟨[_, _], ⟨.cellN _ _ _ _ _ _ _ rfl rfl B0 AU rfl rfl (HQ rfl), tm⟩, rfl⟩, ⟨rfl, rfl, rfl, tv⟩⟩
theorem MN (N : Nat) (p0 : Ae) (p1 : Int) (r : Int) (h : E1 N p0 p1 = some r) : Ar zA 176 [.e (.agg (Bh p0)), iD p1] [] (pD (.val (.int .u8 r))) := by
 unfold E1 at h
 refine cw (n := 27) (rs := [.tmp 4]) Tryz.func176 fun w0 S0 => ?_
 refine wq rfl (qb rfl (qa rfl (Ab (wq rfl (qf C4 rfl (ql Bd rfl (qm rfl ?_)))))))
 refine BN h fun v1 a1 b1 h => qi AA CK a1 (Ag b1) rfl (qk AW rfl ?_)
 refine HL h fun c2 h => Ik rfl c2 (qe rfl ?_)
 refine AF h (fun v3 => mk [(5, pD (.val (.int .u8 v3)))] []) (fun j3 h => ?_) (fun v3 h => ?_)
 ·refine wq rfl (qf BT rfl (ql Bd rfl (qm rfl ?_)))
  refine BN h fun v4 a4 b4 h => qi AA CK a4 (Ag b4) rfl (qk AW rfl (C9 rfl (Ab ?_)))
  refine Bb h (fun h => ?_) fun h => ?_
  ·refine Aj Aw rfl (qm rfl (qf BT rfl (ql Bd rfl (qm rfl ?_))))
   refine BN h fun v6 a6 b6 h => qi AA CK a6 (Ag b6) rfl (qk AW rfl ?_)
   refine HL h fun c7 h => Ik rfl c7 (RM rfl (qe rfl ?_))
   exact sn [] h
  ·refine Ap ?_
   exact sn [] h
 ·refine wq rfl (qm rfl (qe rfl ?_))
  obtain rfl := sj h
  refine Af (sm [] [(4, pD (.val (.int .u8 v3)))] [] rfl rfl) (Aq ?_)
  exact ⟨⟨[_], tm, rfl⟩, tv⟩
theorem KX (N : Nat) (p0 : Aa) (p1 : Ae) (r : Int) (h : E8 N p0 p1 = some r) : Ar zA 152 [.e (.agg (Ak p0)), .e (.agg (Bh p1))] [] (iD r) := by
 unfold E8 at h
 refine cw (n := 135) (rs := [.tmp 4]) Tryz.func152 fun w0 S0 => ?_
 refine wq rfl (qb rfl (qb rfl (qa rfl (Ab (wp rfl (qL DG DA rfl ?_))))))
 refine B4 h fun v1 a1 h => Av [] (D9 N p0 v1 a1) TG rfl (qa rfl (Ab (wq rfl (qm rfl (BG rfl (Ab ?_))))))
 refine Bb h (fun h => ?_) fun h => ?_
 ·refine wq rfl (qm rfl (qe rfl ?_))
  obtain rfl := sj h
  refine Af (sm [] [(4, iD v1)] [] rfl rfl) (Aq ?_)
  exact ⟨⟨[_], tm, rfl⟩, tv⟩
 ·refine Ap (AR ?_)
  refine AF h (fun v3 => mk [(2, oD (.ptr 2 0)), (3, oD (.ptr 3 0)), (41, bD v3)] [(2, .box (Ak p0)), (3, .box (Bh p1))]) (fun j3 h => ?_) (fun v3 h => ?_)
  ·refine Aj Aw rfl (qf C4 rfl (ql Bd rfl (AH AA rfl (qf BB rfl (ql Bd rfl (AH AA rfl (BG rfl (qm rfl ?_))))))))
   refine Cp 24 h rfl (fun h => ?_) fun h => ?_
   ·refine qw 7 rfl (qp rfl (qw 8 rfl (qp rfl (Ab ?_))))
    exact sn [] h
   ·refine qf BT rfl (ql Bd rfl (AH AA rfl (qf BB rfl (ql Bd rfl (AH AA rfl (BG rfl (qp rfl (qm rfl ?_))))))))
    refine Cp 33 h rfl (fun h => ?_) fun h => ?_
    ·refine qw 7 rfl (qp rfl (Ab ?_))
     exact sn [] h
    ·refine qf CF rfl (ql GV rfl (AH DQ rfl (qf BA rfl (ql EK rfl (AH CR rfl (BG rfl (qp rfl (Ab ?_))))))))
     exact sn [] h
  ·refine Bb h (fun h => ?_) fun h => ?_
   ·refine wq rfl (qe rfl ?_)
    obtain rfl := sj h
    refine Af (sm [] [(4, iD 6)] [] rfl rfl) (Aq ?_)
    exact ⟨⟨[_], tm, rfl⟩, tv⟩
   ·refine Ap (wp rfl (qf BB rfl (ql Bd rfl (AH AA rfl (qm rfl (Ab ?_))))))
    refine A5 (L := C8 N p0 p1) h (fun v7 => mk [(2, oD (.ptr 2 0)), (3, oD (.ptr 3 0)), (43, pD (.sl (p0.fb.map As))), (44, iD ((p0.fb.length : Int))), (45, iD v7)] [(2, .box (Ak p0)), (3, .box (Bh p1))]) (fun v8 => mk [(2, oD (.ptr 2 0)), (3, oD (.ptr 3 0))] [(2, .box (Ak p0)), (3, .box (Bh p1))]) (fun _ _ => rfl) (sm [] _ _ rfl rfl) (fun j7 n7 v7 h => ?_) (fun v8 s h hs => ?_)
    ·unfold C8 at h
     refine wq rfl (A4 rfl (Ab (AR ?_)))
     refine Bb h (fun h => ?_) fun h => ?_
     ·refine Ap (AR (AT (wq rfl (qm rfl ?_))))
      refine BN h fun v10 a10 b10 h => qi AA CK a10 (Ag b10) rfl (qk AW rfl (qa rfl (qa rfl (Ab (AR ?_)))))
      refine AF h (fun v11 => mk [(2, oD (.ptr 2 0)), (3, oD (.ptr 3 0)), (6, iD v7), (43, pD (.sl (p0.fb.map As))), (44, iD ((p0.fb.length : Int))), (45, iD v7), (81, bD v11)] [(2, .box (Ak p0)), (3, .box (Bh p1))]) (fun j11 h => ?_) (fun v11 h => ?_)
      ·refine Aj Aw rfl (qf C4 rfl (ql Bd rfl (qm rfl ?_)))
       refine BN h fun v12 a12 b12 h => qi AA CK a12 (Ag b12) rfl (qk AW rfl (A4 rfl (qm rfl ?_)))
       refine Cp 56 h rfl (fun h => ?_) fun h => ?_
       ·refine qw 7 rfl (qp rfl (qw 7 rfl (qp rfl (qw 8 rfl (qp rfl (Ab ?_))))))
        exact sn [] h
       ·refine qf C4 rfl (ql Bd rfl (qm rfl ?_))
        refine BN h fun v14 a14 b14 h => qi AA CK a14 (Ag b14) rfl (qk AW rfl (qm rfl (C9 rfl (qp rfl (qm rfl ?_)))))
        refine Cp 65 h rfl (fun h => ?_) fun h => ?_
        ·refine qw 6 rfl (qp rfl (qw 8 rfl (qp rfl (Ab ?_))))
         exact sn [] h
        ·refine qf BT rfl (ql Bd rfl (qm rfl ?_))
         refine BN h fun v16 a16 b16 h => qi AA CK a16 (Ag b16) rfl (qk AW rfl (A4 rfl (qp rfl (qm rfl ?_))))
         refine Cp 73 h rfl (fun h => ?_) fun h => ?_
         ·refine qw 7 rfl (qp rfl (Ab ?_))
          exact sn [] h
         ·refine qf BT rfl (ql Bd rfl (qm rfl ?_))
          refine BN h fun v18 a18 b18 h => qi AA CK a18 (Ag b18) rfl (qk AW rfl (qm rfl (C9 rfl (qp rfl (Ab ?_)))))
          exact sn [] h
      ·refine Bb h (fun h => ?_) fun h => ?_
       ·refine wq rfl (qe rfl ?_)
        obtain rfl := sj h
        refine Af (sm [] [(4, iD 7)] [] rfl rfl) (Aq ?_)
        exact ⟨⟨[_], tm, rfl⟩, tv⟩
       ·refine Ap (wq rfl (qf C4 rfl (ql Bd rfl (qm rfl ?_))))
        refine BN h fun v20 a20 b20 h => qi AA CK a20 (Ag b20) rfl (qk AW rfl (qf BT rfl (ql Bd rfl (qm rfl ?_))))
        refine BN h fun v21 a21 b21 h => qi AA CK a21 (Ag b21) rfl (qk AW rfl (AN rfl (AE (by kernel_rfl) ?_)))
        refine Bb h (fun h => ?_) fun h => ?_
        ·refine wq rfl (qe rfl ?_)
         obtain rfl := sj h
         refine Af (sm [] [(4, iD 1)] [] rfl rfl) (Aq ?_)
         exact ⟨⟨[_], tm, rfl⟩, tv⟩
        ·refine Ap (Aj Aw rfl (Cl rfl (qm rfl (Ab ?_))))
         exact sn [] h
     ·refine BZ ?_
      exact sn [] h
    ·refine Af hs (wp rfl (qf BA rfl (ql EK rfl (AH CR rfl (qm rfl (Ab ?_))))))
     refine A5 (L := CS N p0 p1) h (fun v23 => mk [(2, oD (.ptr 2 0)), (3, oD (.ptr 3 0)), (95, pD (.sl (p0.fc.map BD))), (96, iD ((p0.fc.length : Int))), (97, iD v23)] [(2, .box (Ak p0)), (3, .box (Bh p1))]) (fun v24 => mk [] []) (fun _ _ => rfl) (sm [] _ _ rfl rfl) (fun j23 n23 v23 h => ?_) (fun v24 s h hs => ?_)
     ·unfold CS at h
      refine wq rfl (A4 rfl (Ab (AR ?_)))
      refine Bb h (fun h => ?_) fun h => ?_
      ·refine Ap (AR (AT (wq rfl (qm rfl ?_))))
       refine BN h fun v26 a26 b26 h => qi CR BK a26 (Ag b26) rfl (qK Eu BK rfl (qz IC rfl (qa rfl (qs BK rfl (Ab (wq rfl (qa rfl (qe rfl ?_))))))))
       refine AF h (fun v27 => mk [(2, oD (.ptr 2 0)), (3, oD (.ptr 3 0)), (8, iD v23), (10, pD (.val (.int .u8 v27.1))), (11, pD (.val (.int .u8 v27.2))), (95, pD (.sl (p0.fc.map BD))), (96, iD ((p0.fc.length : Int))), (97, iD v23)] [(2, .box (Ak p0)), (3, .box (Bh p1))]) (fun j27 h => ?_) (fun v27 h => ?_)
       ·refine wq rfl (qL Eu BK rfl ?_)
        refine B4 h fun v28 a28 h => Av [] (J8 N v26 v28 a28) T6 rfl (Ab ?_)
        refine Bb h (fun h => ?_) fun h => ?_
        ·refine Aj Aw rfl (qL B0 AU rfl (qf Cc rfl (ql AW rfl ?_)))
         refine B4 h fun v30 a30 h => Av [] (MN N p1 v26.fj v30 a30) WC rfl (qf BB rfl (ql Bd rfl (qf Cc rfl (ql AW rfl ?_))))
         refine BN h fun v31 a31 b31 h => qi AA CK a31 (Ag b31) rfl (qk AW rfl ?_)
         refine HL h fun c32 h => Ik rfl c32 (J9 rfl (qa rfl (qa rfl (AE (by kernel_rfl) ?_))))
         exact sn [] h
        ·refine Ap ?_
         exact sn [] h
       ·refine AF h (fun v33 => mk [(2, oD (.ptr 2 0)), (3, oD (.ptr 3 0)), (95, pD (.sl (p0.fc.map BD))), (96, iD ((p0.fc.length : Int))), (97, iD v23), (133, bD v33)] [(2, .box (Ak p0)), (3, .box (Bh p1))]) (fun j33 h => ?_) (fun v33 h => ?_)
        ·refine Aj Aw rfl (qm rfl (qf CF rfl (ql GV rfl (qm rfl ?_))))
         refine BN h fun v34 a34 b34 h => qi DQ DR a34 (Ag b34) rfl (qk Hl rfl (Hd rfl (BG rfl (qm rfl ?_))))
         refine Cp 124 h rfl (fun h => ?_) fun h => ?_
         ·refine qw 8 rfl (qp rfl (Ab ?_))
          exact sn [] h
         ·refine qf CF rfl (ql GV rfl (qm rfl ?_))
          refine BN h fun v36 a36 b36 h => qi DQ DR a36 (Ag b36) rfl (qk Hl rfl (qm rfl (Hd rfl (BG rfl (qp rfl (Ab ?_))))))
          exact sn [] h
        ·refine Bb h (fun h => ?_) fun h => ?_
         ·refine wq rfl (qe rfl ?_)
          obtain rfl := sj h
          refine Af (sm [] [(4, iD 1)] [] rfl rfl) (Aq ?_)
          exact ⟨⟨[_], tm, rfl⟩, tv⟩
         ·refine Ap (Aj Aw rfl (Cl rfl (qm rfl (Ab ?_))))
          exact sn [] h
      ·refine BZ ?_
       exact sn [] h
     ·refine Af hs (wq rfl (qe rfl ?_))
      obtain rfl := sj h
      refine Af (sm [] [(4, iD 0)] [] rfl rfl) (Aq ?_)
      exact ⟨⟨[_], tm, rfl⟩, tv⟩
theorem Gj (N : Nat) (p0 : List Int) (r : (List Int)) (h : BR N p0 = some r) : Ar zA 177 [pD (.sl (p0.map Dm))] [(1, r.map Dm)] (oD (.own 0)) := by
 unfold BR at h
 refine cw (n := 8) (rs := [.tmp 2]) Tryz.func177 fun w0 S0 => ?_
 refine wq rfl (qa rfl (Ab (wp rfl (qm rfl ?_))))
 refine Oe (.p rfl) rfl DQ ?_
 refine Ab ?_
 refine Nv rfl (fun c2 => ?_) ?_
 ·have c2 := xB.1 c2
  rw [c2] at h
  have h : (some (([] : List Int))) = some r := h
  refine wq rfl (qe rfl ?_)
  obtain rfl := sj h
  refine Af ((Fx 2 2001 1 rfl rfl rfl).trans (sm [(1000, 2001)] [(2, oD (.own 1000))] [(1000, .vec 1 ((([] : List Int)).map Dm))] rfl rfl)) (Aq ?_)
  exact ⟨⟨[_], tm, rfl⟩, ⟨rfl, tv⟩⟩
 ·refine Ap (wq rfl (FJ DQ DR LO rfl (qm rfl ?_)))
  refine HL h fun c1 h => Kk (f := Dm) DQ DQ DR Oj LO (fun _ => rfl) c1 rfl (qe rfl ?_)
  obtain rfl := sj h
  refine Af (sm [(1000, 7)] [(2, oD (.own 1000))] [(1000, .vec 1 (((([] : List Int)) ++ p0).map Dm))] rfl rfl) (Aq ?_)
  exact ⟨⟨[_], tm, rfl⟩, ⟨rfl, tv⟩⟩
theorem Jn (N : Nat) (p0 : Ae) (r : Ae) (h : Eo N p0 = some r) : Ar zA 153 [.e (.agg (Bh p0))] [(1, r.fh.map As), (1, r.ff.map As), (1, r.fg.map Dm)] (.e (.agg [.own 0, .own 1, .own 2])) := by
 unfold Eo at h
 refine cw (n := 13) (rs := [.cell 2 40]) Tryz.func153 fun w0 S0 => ?_
 refine wq rfl (qb rfl (qz Dj rfl (Ab (wq rfl (qf C4 rfl (ql Bd rfl ?_))))))
 refine B4 h fun v1 a1 h => Av [2001] (Ey N p0.fh v1 a1) RO rfl (qf BT rfl (ql Bd rfl ?_))
 refine B4 h fun v2 a2 h => Av [2002] (Ey N p0.ff v2 a2) RO rfl (qf CF rfl (ql GV rfl ?_))
 refine B4 h fun v3 a3 h => Av [2003] (Gj N p0.fg v3 a3) V2 rfl (Bq Dj GS rfl (qs AU rfl (AE (by kernel_rfl) ?_)))
 obtain rfl := sj h
 refine Af (sm [(1000, 2001), (1001, 2002), (1002, 2003)] [(2, oD (.ptr 2 0))] [(2, .box [.own 1000, .own 1001, .own 1002]), (1000, .vec 1 (v1.map As)), (1001, .vec 1 (v2.map As)), (1002, .vec 1 (v3.map Dm))] rfl rfl) (Aq ?_)
 exact ⟨⟨[_], ⟨.cellN _ _ _ _ _ _ _ rfl rfl B0 AU rfl rfl (HQ rfl), tv⟩, rfl⟩, ⟨rfl, rfl, rfl, tv⟩⟩
theorem NL (N : Nat) (p0 : Am) (r : Bool) (h : Ff N p0 = some r) : Ar zA 178 [.e (.agg (BQ p0))] [] (bD r) := by
 unfold Ff at h
 refine cw (n := 27) (rs := [.tmp 2]) Tryz.func178 fun w0 S0 => ?_
 refine wq rfl (qb rfl (qa rfl (Ab (AR ?_))))
 refine AF h (fun v1 => mk [(1, oD (.ptr 1 0)), (18, bD v1)] [(1, .box (BQ p0))]) (fun j1 h => ?_) (fun v1 h => ?_)
 ·refine Aj Aw rfl (qf DK rfl (ql AW rfl (qf Fo rfl (ql AW rfl ?_))))
  refine Wd (.p rfl) rfl rfl ?_
  refine A4 rfl (qm rfl ?_)
  refine Cp 9 h rfl (fun h => ?_) fun h => ?_
  ·refine qw 3 rfl (qp rfl (qw 4 rfl (qp rfl (Ab ?_))))
   exact sn [] h
  ·refine qf C0 rfl (ql AW rfl (A4 rfl (qp rfl (qm rfl ?_))))
   refine Cp 14 h rfl (fun h => ?_) fun h => ?_
   ·refine qw 3 rfl (qp rfl (Ab ?_))
    exact sn [] h
   ·refine qf C0 rfl (ql AW rfl (Ed rfl (qp rfl (Ab ?_))))
    exact sn [] h
 ·refine Bb h (fun h => ?_) fun h => ?_
  ·refine wq rfl (qe rfl ?_)
   obtain rfl := sj h
   refine Af (sm [] [(2, bD false)] [] rfl rfl) (Aq ?_)
   exact ⟨⟨[_], tm, rfl⟩, tv⟩
  ·refine Ap ?_
   refine AF h (fun v5 => mk [(2, bD v5)] []) (fun j5 h => ?_) (fun v5 h => ?_)
   ·refine Aj Aw rfl (qf C0 rfl (ql AW rfl (AN rfl (qm rfl ?_))))
    refine Cp 22 h rfl (fun h => ?_) fun h => ?_
    ·refine qw 3 rfl (qp rfl (qe rfl ?_))
     exact sn [] h
    ·refine qf Fo rfl (ql AW rfl (AN rfl (qp rfl (qe rfl ?_))))
     exact sn [] h
   ·obtain rfl := sj h
    refine Af (sm [] [(2, bD v5)] [] rfl rfl) (Aq ?_)
    exact ⟨⟨[_], tm, rfl⟩, tv⟩
theorem MK (N : Nat) (p0 : Aa) (p1 : Am) (r : Bool) (h : E0 N p0 p1 = some r) : Ar zA 179 [.e (.agg (Ak p0)), .e (.agg (BQ p1))] [] (bD r) := by
 unfold E0 at h
 refine cw (n := 36) (rs := [.tmp 4]) Tryz.func179 fun w0 S0 => ?_
 refine wq rfl (qb rfl (qb rfl (qa rfl (Ab (wp rfl (qf C0 rfl (ql AW rfl (AN rfl (Ab ?_)))))))))
 refine Bb h (fun h => ?_) fun h => ?_
 ·refine wq rfl (qf DK rfl (ql AW rfl (qf BA rfl (ql EK rfl (AH CR rfl (A4 rfl (qe rfl ?_)))))))
  obtain rfl := sj h
  refine Af (sm [] [(4, bD ((decide (p1.fm < (p0.fc.length : Int)))))] [] rfl rfl) (Aq ?_)
  exact ⟨⟨[_], tm, rfl⟩, tv⟩
 ·refine Ap ?_
  refine AF h (fun v2 => mk [(4, bD v2)] []) (fun j2 h => ?_) (fun v2 h => ?_)
  ·refine Aj Aw rfl (qf DK rfl (ql AW rfl (qf BB rfl (ql Bd rfl (AH AA rfl (A4 rfl (qm rfl ?_)))))))
   refine Cp 20 h rfl (fun h => ?_) fun h => ?_
   ·refine qf C0 rfl (ql AW rfl (BG rfl (qm rfl ?_)))
    refine Cp 24 h rfl (fun h => ?_) fun h => ?_
    ·refine qw 9 rfl (qp rfl (qp rfl (qa rfl (AE (by kernel_rfl) ?_))))
     exact sn [] h
    ·refine qf Fo rfl (ql AW rfl (qf BB rfl (ql Bd rfl (qf DK rfl (ql AW rfl ?_)))))
     refine BN h fun v5 a5 b5 h => qi AA CK a5 (Ag b5) rfl (qk AW rfl (A4 rfl (qp rfl (qp rfl (qa rfl (AE (by kernel_rfl) ?_))))))
     exact sn [] h
   ·refine qw 4 rfl (qu rfl (qu rfl (qu rfl (qu rfl (qu rfl (qu rfl (qu rfl (qu rfl (qu rfl (qn rfl (qp rfl (qa rfl (AE (by kernel_rfl) ?_)))))))))))))
    exact sn [] h
  ·obtain rfl := sj h
   refine Af (sm [] [(4, bD v2)] [] rfl rfl) (Aq ?_)
   exact ⟨⟨[_], tm, rfl⟩, tv⟩
theorem JA (N : Nat) (p0 : AK) (r : Bool) (h : Em N p0 = some r) : Ar zA 197 [.e (.agg (CC p0))] [] (bD r) := by
 unfold Em at h
 refine cw (n := 11) (rs := [.tmp 2]) Tryz.func197 fun w0 S0 => ?_
 refine wq rfl (qb rfl (qe rfl ?_))
 refine AF h (fun v1 => mk [(2, bD v1)] []) (fun j1 h => ?_) (fun v1 h => ?_)
 ·refine Aj Aw rfl (qf DX rfl (ql AW rfl (AN rfl (qm rfl ?_))))
  refine Cp 6 h rfl (fun h => ?_) fun h => ?_
  ·refine qw 3 rfl (qp rfl (qe rfl ?_))
   exact sn [] h
  ·refine qf DX rfl (ql AW rfl (AN rfl (qp rfl (qe rfl ?_))))
   exact sn [] h
 ·obtain rfl := sj h
  refine Af (sm [] [(2, bD v1)] [] rfl rfl) (Aq ?_)
  exact ⟨⟨[_], tm, rfl⟩, tv⟩
theorem Oa (N : Nat) (p0 : Aa) (p1 : Ae) (p2 : Am) (r : Bool × (List Int) × (List Int)) (h : Gq N p0 p1 p2 = some r) : DI zA 192 [.e (.agg (Ak p0)), oD (.ptr 90000 0), .e (.agg (BQ p2))] [(.box [.own 90001, .own 90002, .own 90003], .box [.own 90001, .own 90002, .own 90003]), (.vec 1 (p1.fh.map As), .vec 1 (p1.fh.map As)), (.vec 1 (p1.ff.map As), .vec 1 (r.2.1.map As)), (.vec 1 (p1.fg.map Dm), .vec 1 (r.2.2.map Dm))] [] (bD r.1) := by
 unfold Gq at h
 refine Dp (n := 70) (rs := [.tmp 6]) Tryz.func192 rfl rfl rfl (GZ rfl) (GZ rfl) rfl rfl (GZ rfl) rfl (GZ rfl) fun w0 S0 GL => ?_
 refine Af (sm [] [(0, .e (.agg (Ak p0))), (1, oD (.ptr 90000 0)), (2, .e (.agg (BQ p2)))] [(90000, .box [.own 90001, .own 90002, .own 90003]), (90001, .vec 1 (p1.fh.map As)), (90002, .vec 1 (p1.ff.map As)), (90003, .vec 1 (p1.fg.map Dm))] rfl rfl) (wq rfl (qb rfl (qb rfl (qa rfl (Ab (AR ?_))))))
 refine AF h (fun v1 => mk [(1, oD (.ptr 90000 0)), (3, oD (.ptr 3 0)), (5, oD (.ptr 5 0)), (30, bD v1)] [(3, .box (Ak p0)), (5, .box (BQ p2)), (90000, .box [.own 90001, .own 90002, .own 90003]), (90001, .vec 1 (p1.fh.map As)), (90002, .vec 1 (p1.ff.map As)), (90003, .vec 1 (p1.fg.map Dm))]) (fun j1 h => ?_) (fun v1 h => ?_)
 ·refine Aj Aw rfl (qm rfl (HS rfl (qf BT rfl (ql Bd rfl (qf DK rfl (ql AW rfl ?_))))))
  refine BN h fun v2 a2 b2 h => qI AA CK a2 (Ag b2) rfl (qj AW (Ag b2) rfl (C9 rfl (qm rfl ?_)))
  refine Cp 18 h rfl (fun h => ?_) fun h => ?_
  ·refine qw 11 rfl (qp rfl (AE (by kernel_rfl) ?_))
   exact sn [] h
  ·refine qm rfl (HS rfl (qf C4 rfl (ql Bd rfl (qf DK rfl (ql AW rfl ?_)))))
   refine BN h fun v4 a4 b4 h => qI AA CK a4 (Ag b4) rfl (qj AW (Ag b4) rfl (qf Fo rfl (ql AW rfl (AN rfl (qp rfl (AE (by kernel_rfl) ?_))))))
   exact sn [] h
 ·refine Bb h (fun h => ?_) fun h => ?_
  ·refine wq rfl (qe rfl ?_)
   obtain rfl := sj h
   refine Af (sm [] [(6, bD false)] [(90000, .box [.own 90001, .own 90002, .own 90003]), (90001, .vec 1 (p1.fh.map As)), (90002, .vec 1 (p1.ff.map As)), (90003, .vec 1 (p1.fg.map Dm))] rfl rfl) (Aq ?_)
   exact ⟨⟨[_], tm, rfl⟩, ⟨rfl, rfl, rfl, rfl, tv⟩, tv⟩
  ·refine Ap (wq rfl (qm rfl (HS rfl (qf BT rfl (ql Bd rfl (qf DK rfl (ql AW rfl (qf Fo rfl (ql AW rfl ?_)))))))))
   refine BN h fun v6 a6 b6 h => qI AA CK a6 (Ag b6) rfl ?_
   refine EE rfl rfl rfl rfl (Ag b6) rfl CK rfl (GZ rfl) (EC As p1.ff _ p2.fq) ?_
   refine AE (by kernel_rfl) (wp rfl (qf BA rfl (ql EK rfl (AH CR rfl (qm rfl (Ab ?_))))))
   refine A5 (L := CO N p0 p2) h (fun v7 => mk [(1, oD (.ptr 90000 0)), (5, oD (.ptr 5 0)), (41, pD (.sl (p0.fc.map BD))), (42, iD ((p0.fc.length : Int))), (43, iD v7.2)] [(5, .box (BQ p2)), (90000, .box [.own 90001, .own 90002, .own 90003]), (90001, .vec 1 (p1.fh.map As)), (90002, .vec 1 ((p1.ff.set ((p2.fm).toNat) p2.fq).map As)), (90003, .vec 1 (v7.1.map Dm))]) (fun v8 => mk [] [(90000, .box [.own 90001, .own 90002, .own 90003]), (90001, .vec 1 (p1.fh.map As)), (90002, .vec 1 ((p1.ff.set ((p2.fm).toNat) p2.fq).map As)), (90003, .vec 1 (v8.map Dm))]) (fun _ _ => rfl) (sm [] _ _ rfl rfl) (fun j7 n7 v7 h => ?_) (fun v8 s h hs => ?_)
   ·unfold CO at h
    refine wq rfl (A4 rfl (Ab (AR ?_)))
    refine Bb h (fun h => ?_) fun h => ?_
    ·refine Ap ?_
     refine AF h (fun v10 => mk [(1, oD (.ptr 90000 0)), (5, oD (.ptr 5 0)), (41, pD (.sl (p0.fc.map BD))), (42, iD ((p0.fc.length : Int))), (43, iD v7.2)] [(5, .box (BQ p2)), (90000, .box [.own 90001, .own 90002, .own 90003]), (90001, .vec 1 (p1.fh.map As)), (90002, .vec 1 ((p1.ff.set ((p2.fm).toNat) p2.fq).map As)), (90003, .vec 1 (v10.map Dm))]) (fun j10 h => ?_) (fun v10 h => ?_)
     ·refine AT (wq rfl (qm rfl ?_))
      refine BN h fun v11 a11 b11 h => qi CR BK a11 (Ag b11) rfl (qK Eu BK rfl (qz IC rfl (qa rfl (qs BK rfl (Ab ?_)))))
      refine AF h (fun v12 => mk [(1, oD (.ptr 90000 0)), (5, oD (.ptr 5 0)), (7, iD v7.2), (41, pD (.sl (p0.fc.map BD))), (42, iD ((p0.fc.length : Int))), (43, iD v7.2), (56, bD v12)] [(5, .box (BQ p2)), (90000, .box [.own 90001, .own 90002, .own 90003]), (90001, .vec 1 (p1.fh.map As)), (90002, .vec 1 ((p1.ff.set ((p2.fm).toNat) p2.fq).map As)), (90003, .vec 1 (v7.1.map Dm))]) (fun j12 h => ?_) (fun v12 h => ?_)
      ·refine Aj Aw rfl (qf Cc rfl (ql AW rfl (qf DK rfl (ql AW rfl (AN rfl (qm rfl ?_))))))
       refine Cp 53 h rfl (fun h => ?_) fun h => ?_
       ·refine qL Eu BK rfl ?_
        refine B4 h fun v14 a14 h => Av [] (JA N v11 v14 a14) Ui rfl (qp rfl (Ab ?_))
        exact sn [] h
       ·refine qw 2 rfl (qp rfl (Ab ?_))
        exact sn [] h
      ·refine Bb h (fun h => ?_) fun h => ?_
       ·refine Aj Aw rfl (qm rfl (HS rfl (qf CF rfl (ql GV rfl (qm rfl ?_)))))
        refine BN h fun v16 a16 b16 h => qI DQ DR a16 (Ag b16) rfl (qj Hl (Ag b16) rfl (qf Fo rfl (ql AW rfl ?_)))
        refine HL h fun c17 h => Ik rfl c17 (RM rfl ?_)
        refine BN h fun v18 a18 b18 h => qI DQ DR a18 (Ag b18) rfl ?_
        refine EE rfl rfl rfl rfl (Ag b18) rfl DR rfl (GZ rfl) (EC Dm v7.1 _ ((Le .u8 v16 ((DE .u8 1 p2.fq))))) ?_
        refine AE (by kernel_rfl) ?_
        exact sn [] h
       ·refine Ap ?_
        exact sn [] h
     ·refine Aj Aw rfl (Cl rfl (qm rfl (Ab ?_)))
      exact sn [] h
    ·refine BZ ?_
     exact sn [] h
   ·refine Af hs (wq rfl (qe rfl ?_))
    obtain rfl := sj h
    refine Af (sm [] [(6, bD true)] [(90000, .box [.own 90001, .own 90002, .own 90003]), (90001, .vec 1 (p1.fh.map As)), (90002, .vec 1 ((p1.ff.set ((p2.fm).toNat) p2.fq).map As)), (90003, .vec 1 (v8.map Dm))] rfl rfl) (Aq ?_)
    exact ⟨⟨[_], tm, rfl⟩, ⟨rfl, rfl, rfl, rfl, tv⟩, tv⟩
theorem LB (N : Nat) (p0 : Ae) (p1 : Int) (r : Int) (h : EA N p0 p1 = some r) : Ar zA 198 [.e (.agg (Bh p0)), iD p1] [] (pD (.val (.int .u8 r))) := by
 unfold EA at h
 refine cw (n := 27) (rs := [.tmp 4]) Tryz.func198 fun w0 S0 => ?_
 refine wq rfl (qb rfl (qa rfl (Ab (wq rfl (qf C4 rfl (ql Bd rfl (qm rfl ?_)))))))
 refine BN h fun v1 a1 b1 h => qi AA CK a1 (Ag b1) rfl (qk AW rfl ?_)
 refine HL h fun c2 h => Ik rfl c2 (qe rfl ?_)
 refine AF h (fun v3 => mk [(5, pD (.val (.int .u8 v3)))] []) (fun j3 h => ?_) (fun v3 h => ?_)
 ·refine wq rfl (qf BT rfl (ql Bd rfl (qm rfl ?_)))
  refine BN h fun v4 a4 b4 h => qi AA CK a4 (Ag b4) rfl (qk AW rfl (C9 rfl (Ab ?_)))
  refine Bb h (fun h => ?_) fun h => ?_
  ·refine Aj Aw rfl (qm rfl (qf BT rfl (ql Bd rfl (qm rfl ?_))))
   refine BN h fun v6 a6 b6 h => qi AA CK a6 (Ag b6) rfl (qk AW rfl ?_)
   refine HL h fun c7 h => Ik rfl c7 (RM rfl (qe rfl ?_))
   exact sn [] h
  ·refine Ap ?_
   exact sn [] h
 ·refine wq rfl (qm rfl (qe rfl ?_))
  obtain rfl := sj h
  refine Af (sm [] [(4, pD (.val (.int .u8 v3)))] [] rfl rfl) (Aq ?_)
  exact ⟨⟨[_], tm, rfl⟩, tv⟩
theorem Hc (N : Nat) (p0 : Int) (r : Int) (h : Cb N p0 = some r) : Ar zA 200 [pD (.val (.int .u8 p0))] [] (iD r) := by
 unfold Cb at h
 refine cw (n := 6) (rs := [.tmp 2]) Tryz.func200 fun w0 S0 => ?_
 refine wq rfl (qa rfl (Ab (wq rfl (qm rfl ?_))))
 refine B4 h fun v1 a1 h => QY (.p rfl) rfl rfl Og a1 ?_
 refine K5 XF Xy rfl (qe rfl ?_)
 obtain rfl := sj h
 refine Af (sm [] [(2, iD ((wI .i64 v1)))] [] rfl rfl) (Aq ?_)
 exact ⟨⟨[_], tm, rfl⟩, tv⟩
theorem Ka (N : Nat) (p0 : AK) (p1 : Int) (p2 : Int) (r : Bool) (h : Ew N p0 p1 p2 = some r) : Ar zA 199 [.e (.agg (CC p0)), pD (.val (.int .u8 p1)), iD p2] [] (bD r) := by
 unfold Ew at h
 refine cw (n := 25) (rs := [.tmp 6]) Tryz.func199 fun w0 S0 => ?_
 refine wq rfl (qb rfl (qa rfl (Ab (wp rfl (qm rfl (qe rfl ?_))))))
 refine A5 (L := CD N p0 p2) h (fun v1 => mk [(2, iD p2), (3, oD (.ptr 3 0)), (7, pD (.val (.int .u8 v1)))] [(3, .box (CC p0))]) (fun v2 => mk [] []) (fun _ _ => rfl) (sm [] _ _ rfl rfl) (fun j1 n1 v1 h => ?_) (fun v2 s h hs => ?_)
 ·unfold CD at h
  refine wp rfl (qm rfl (BG rfl (Ab ?_)))
  refine Bb h (fun h => ?_) fun h => ?_
  ·refine Ap (AR (AT (wq rfl (qf D8 rfl (ql Fa rfl (qm rfl ?_))))))
   refine B4 h fun v4 a4 h => Av [] (Hc N v1 v4 a4) Wq rfl ?_
   refine BN h fun v5 a5 b5 h => qi DW Jz a5 (Ag b5) rfl (qk Jv rfl (qm rfl ?_))
   refine BN h fun v6 a6 b6 h => qi HI Rm a6 (Ag b6) rfl (qk Qd rfl (B9 rfl (AE (by kernel_rfl) ?_)))
   refine Bb h (fun h => ?_) fun h => ?_
   ·refine wq rfl (qe rfl ?_)
    obtain rfl := sj h
    refine Af (sm [] [(6, bD false)] [] rfl rfl) (Aq ?_)
    exact ⟨⟨[_], tm, rfl⟩, tv⟩
   ·refine Ap (Aj Aw rfl (qw 2 rfl (J9 rfl (Nb rfl (qe rfl ?_)))))
    exact sn [] h
  ·refine BZ ?_
   exact sn [] h
 ·refine Af hs (wq rfl (qe rfl ?_))
  obtain rfl := sj h
  refine Af (sm [] [(6, bD true)] [] rfl rfl) (Aq ?_)
  exact ⟨⟨[_], tm, rfl⟩, tv⟩
theorem NC (N : Nat) (p0 : Aa) (p1 : Ae) (p2 : Int) (r : Bool × (List Int)) (h : Fl N p0 p1 p2 = some r) : DI zA 193 [.e (.agg (Ak p0)), oD (.ptr 90000 0), iD p2] [(.box [.own 90001, .own 90002, .own 90003], .box [.own 90001, .own 90002, .own 90003]), (.vec 1 (p1.fh.map As), .vec 1 (p1.fh.map As)), (.vec 1 (p1.ff.map As), .vec 1 (p1.ff.map As)), (.vec 1 (p1.fg.map Dm), .vec 1 (r.2.map Dm))] [] (bD r.1) := by
 unfold Fl at h
 refine Dp (n := 68) (rs := [.tmp 6]) Tryz.func193 rfl rfl rfl (GZ rfl) (GZ rfl) rfl rfl (GZ rfl) rfl (GZ rfl) fun w0 S0 GL => ?_
 refine Af (sm [] [(0, .e (.agg (Ak p0))), (1, oD (.ptr 90000 0)), (2, iD p2)] [(90000, .box [.own 90001, .own 90002, .own 90003]), (90001, .vec 1 (p1.fh.map As)), (90002, .vec 1 (p1.ff.map As)), (90003, .vec 1 (p1.fg.map Dm))] rfl rfl) (wq rfl (qb rfl (qa rfl (Ab (wq rfl (qf BA rfl (ql EK rfl (qm rfl ?_))))))))
 refine BN h fun v1 a1 b1 h => qi CR BK a1 (Ag b1) rfl (qK Eu BK rfl (qz IC rfl (qs BK rfl (Ab (wp rfl (qL Eu BK rfl ?_))))))
 refine B4 h fun v2 a2 h => Av [] (JA N v1 v2 a2) Ui rfl (B9 rfl (Ab ?_))
 refine Bb h (fun h => ?_) fun h => ?_
 ·refine wq rfl (qe rfl ?_)
  obtain rfl := sj h
  refine Af (sm [] [(6, bD false)] [(90000, .box [.own 90001, .own 90002, .own 90003]), (90001, .vec 1 (p1.fh.map As)), (90002, .vec 1 (p1.ff.map As)), (90003, .vec 1 (p1.fg.map Dm))] rfl rfl) (Aq ?_)
  exact ⟨⟨[_], tm, rfl⟩, ⟨rfl, rfl, rfl, rfl, tv⟩, tv⟩
 ·refine Ap (wq rfl (qm rfl (HS rfl (qL B0 AU rfl (qf Cc rfl (ql AW rfl ?_))))))
  refine B4 h fun v4 a4 h => Hw [] [90001, 90002, 90003] (LB N p1 v1.fj v4 a4) VJ FD rfl (qa rfl (AE (by kernel_rfl) (wq rfl (qm rfl (HS rfl (qf CF rfl (ql GV rfl (qm rfl ?_))))))))
  refine BN h fun v5 a5 b5 h => qI DQ DR a5 (Ag b5) rfl (qj Hl (Ag b5) rfl (qm rfl (Hd rfl (qa rfl (Ab (AR ?_))))))
  refine AF h (fun v6 => mk [(1, oD (.ptr 90000 0)), (2, iD p2), (8, pD (.val (.int .u8 v4))), (60, bD v6)] [(90000, .box [.own 90001, .own 90002, .own 90003]), (90001, .vec 1 (p1.fh.map As)), (90002, .vec 1 (p1.ff.map As)), (90003, .vec 1 (p1.fg.map Dm))]) (fun j6 h => ?_) (fun v6 h => ?_)
  ·refine Aj Aw rfl (qm rfl (HS rfl (qf CF rfl (ql GV rfl (qm rfl ?_)))))
   refine BN h fun v7 a7 b7 h => qI DQ DR a7 (Ag b7) rfl (qj Hl (Ag b7) rfl (qm rfl (AN rfl (qm rfl ?_))))
   refine Cp 42 h rfl (fun h => ?_) fun h => ?_
   ·refine qw 4 rfl (qu rfl (qu rfl (qu rfl (qu rfl (qu rfl (qu rfl (qu rfl (qu rfl (qu rfl (qu rfl (qu rfl (qu rfl (qn rfl (qp rfl (AE (by kernel_rfl) ?_)))))))))))))))
    exact sn [] h
   ·refine qf DX rfl (ql AW rfl (AN rfl (qm rfl ?_)))
    refine Cp 46 h rfl (fun h => ?_) fun h => ?_
    ·refine qL Eu BK rfl (qw 2 rfl (HS rfl (qf C4 rfl (ql Bd rfl (qf Cc rfl (ql AW rfl ?_))))))
     refine BN h fun v10 a10 b10 h => qI AA CK a10 (Ag b10) rfl (qj AW (Ag b10) rfl ?_)
     refine B4 h fun v11 a11 h => Av [] (Ka N v1 ((Cr .u8 v5 v4)) v10 v11 a11) Wx rfl (B9 rfl (qp rfl (qp rfl (AE (by kernel_rfl) ?_))))
     exact sn [] h
    ·refine qw 12 rfl (qp rfl (qp rfl (AE (by kernel_rfl) ?_)))
     exact sn [] h
  ·refine Bb h (fun h => ?_) fun h => ?_
   ·refine wq rfl (qe rfl ?_)
    obtain rfl := sj h
    refine Af (sm [] [(6, bD false)] [(90000, .box [.own 90001, .own 90002, .own 90003]), (90001, .vec 1 (p1.fh.map As)), (90002, .vec 1 (p1.ff.map As)), (90003, .vec 1 (p1.fg.map Dm))] rfl rfl) (Aq ?_)
    exact ⟨⟨[_], tm, rfl⟩, ⟨rfl, rfl, rfl, rfl, tv⟩, tv⟩
   ·refine Ap (wq rfl (qm rfl (HS rfl (qf CF rfl (ql GV rfl (qw 2 rfl ?_))))))
    refine BN h fun v13 a13 b13 h => qI DQ DR a13 (Ag b13) rfl ?_
    refine EE rfl rfl rfl rfl (Ag b13) rfl DR rfl (GZ rfl) (EC Dm p1.fg _ v4) ?_
    refine Ab (wq rfl (qe rfl ?_))
    obtain rfl := sj h
    refine Af (sm [] [(6, bD true)] [(90000, .box [.own 90001, .own 90002, .own 90003]), (90001, .vec 1 (p1.fh.map As)), (90002, .vec 1 (p1.ff.map As)), (90003, .vec 1 ((p1.fg.set ((p2).toNat) v4).map Dm))] rfl rfl) (Aq ?_)
    exact ⟨⟨[_], tm, rfl⟩, ⟨rfl, rfl, rfl, rfl, tv⟩, tv⟩
theorem NZ (N : Nat) (p0 : Aa) (p1 : Ae) (p2 : Am) (r : Ae × Bool) (h : Fh N p0 p1 p2 = some r) : Ar zA 180 [.e (.agg (Ak p0)), .e (.agg (Bh p1)), .e (.agg (BQ p2))] [(1, r.1.fh.map As), (1, r.1.ff.map As), (1, r.1.fg.map Dm)] (.tup [.agg [.own 0, .own 1, .own 2], .one (.pure (.val (.bool r.2)))]) := by
 unfold Fh at h
 refine cw (n := 51) (rs := [.cell 6 40, .tmp 7]) Tryz.func180 fun w0 S0 => ?_
 refine wq rfl (qb rfl (qb rfl (qb rfl (qz Dj rfl (qa rfl (Ab (wq rfl (qL B0 AU rfl ?_))))))))
 refine B4 h fun v1 a1 h => Av [2001, 2002, 2003] (Jn N p1 v1 a1) TZ rfl (qz Dj rfl (qs AU rfl (Ab (wp rfl (qf C0 rfl (ql AW rfl (Ab (AT (wq rfl (AN rfl (qe rfl ?_)))))))))))
 refine Bb h (fun h => ?_) fun h => ?_
 ·refine wq rfl (qL B0 AU rfl (qL DG DA rfl (qL In FR rfl ?_)))
  refine B4 h fun v3 a3 h => Fq (ds0 := [_, _, _]) [8, 2001, 2002, 2003] [] [false, false, true, true] (Oa N p0 v1 p2 v3 a3) (.p rfl) VM rfl ⟨rfl, rfl, rfl, tv⟩ rfl rfl (Es rfl) ⟨rfl, rfl, rfl, rfl, tv⟩ rfl (Db rfl) tv ⟨(fun _ => rfl), (fun _ => rfl), (fun h => by cases h), (fun h => by cases h), tv⟩ rfl rfl rfl ?_
  refine qs AU rfl (qa rfl (AE (by kernel_rfl) ?_))
  obtain rfl := sj h
  refine Af (sm [(1000, 2001), (1001, 2002), (1002, 2003)] [(6, oD (.ptr 6 0)), (7, bD v3.1)] [(6, .box [.own 1000, .own 1001, .own 1002]), (1000, .vec 1 (v1.fh.map As)), (1001, .vec 1 (v3.2.1.map As)), (1002, .vec 1 (v3.2.2.map Dm))] rfl rfl) (Aq ?_)
  exact ⟨⟨[_, _], ⟨.cellN _ _ _ _ _ _ _ rfl rfl B0 AU rfl rfl (HQ rfl), tm⟩, rfl⟩, ⟨rfl, rfl, rfl, tv⟩⟩
 ·refine wq rfl (AN rfl (qe rfl ?_))
  refine Bb h (fun h => ?_) fun h => ?_
  ·refine wq rfl (qL B0 AU rfl (qL DG DA rfl (qf DK rfl (ql AW rfl ?_))))
   refine B4 h fun v5 a5 h => Fq (ds0 := [_, _, _]) [8, 2001, 2002, 2003] [] [false, false, false, true] (NC N p0 v1 p2.fm v5 a5) (.p rfl) Vt rfl ⟨rfl, rfl, rfl, tv⟩ rfl rfl (Es rfl) ⟨rfl, rfl, rfl, rfl, tv⟩ rfl (Db rfl) tv ⟨(fun _ => rfl), (fun _ => rfl), (fun _ => rfl), (fun h => by cases h), tv⟩ rfl rfl rfl ?_
   refine qs AU rfl (qa rfl (AE (by kernel_rfl) ?_))
   obtain rfl := sj h
   refine Af (sm [(1000, 2001), (1001, 2002), (1002, 2003)] [(6, oD (.ptr 6 0)), (7, bD v5.1)] [(6, .box [.own 1000, .own 1001, .own 1002]), (1000, .vec 1 (v1.fh.map As)), (1001, .vec 1 (v1.ff.map As)), (1002, .vec 1 (v5.2.map Dm))] rfl rfl) (Aq ?_)
   exact ⟨⟨[_, _], ⟨.cellN _ _ _ _ _ _ _ rfl rfl B0 AU rfl rfl (HQ rfl), tm⟩, rfl⟩, ⟨rfl, rfl, rfl, tv⟩⟩
  ·refine Ap (wq rfl (qf BT rfl (ql Bd rfl (qf DK rfl (ql AW rfl ?_)))))
   refine BN h fun v6 a6 b6 h => qI AA CK a6 (Ag b6) rfl (qj AW (Ag b6) rfl (qa rfl (Ab (wp rfl (qm rfl (A4 rfl (Ab ?_)))))))
   refine Bb h (fun h => ?_) fun h => ?_
   ·refine wq rfl (qL B0 AU rfl (qs AU rfl (qe rfl ?_)))
    obtain rfl := sj h
    refine Af (sm [(1000, 2001), (1001, 2002), (1002, 2003)] [(6, oD (.ptr 6 0)), (7, bD false)] [(6, .box [.own 1000, .own 1001, .own 1002]), (1000, .vec 1 (v1.fh.map As)), (1001, .vec 1 (v1.ff.map As)), (1002, .vec 1 (v1.fg.map Dm))] rfl rfl) (Aq ?_)
    exact ⟨⟨[_, _], ⟨.cellN _ _ _ _ _ _ _ rfl rfl B0 AU rfl rfl (HQ rfl), tm⟩, rfl⟩, ⟨rfl, rfl, rfl, tv⟩⟩
   ·refine Ap (wq rfl (qf BT rfl (ql Bd rfl (qf DK rfl (ql AW rfl ?_)))))
    refine BN h fun v8 a8 b8 h => qI AA CK a8 (Ag b8) rfl ?_
    refine EE rfl rfl rfl rfl (Ag b8) rfl CK rfl (GZ rfl) (EC As v1.ff _ ((-1))) ?_
    refine Ab ?_
    refine AF h (fun v9 => mk [(6, oD (.ptr 6 0)), (8, oD (.ptr 8 0))] [(6, .box [.pure (.nil0), .pure (.nil0), .pure (.nil0)]), (8, .box [.own 2004, .own 2005, .own 2006]), (2004, .vec 1 (v9.map As)), (2005, .vec 1 ((v1.ff.set ((p2.fm).toNat) ((-1))).map As)), (2006, .vec 1 (v1.fg.map Dm))]) (fun j9 h => ?_) (fun v9 h => ?_)
    ·refine wq rfl (qf C0 rfl (ql AW rfl (AN rfl (Ab ?_))))
     refine Bb h (fun h => ?_) fun h => ?_
     ·refine Aj Aw rfl (qf C4 rfl (ql Bd rfl (qf DK rfl (ql AW rfl (qm rfl ?_)))))
      refine BN h fun v11 a11 b11 h => qI AA CK a11 (Ag b11) rfl ?_
      refine EE rfl rfl rfl rfl (Ag b11) rfl CK rfl (GZ rfl) (EC As v1.fh _ v6) ?_
      refine Ab ?_
      exact sn [(2004, 2001), (2005, 2002), (2006, 2003)] h
     ·refine Ap ?_
      exact sn [(2004, 2001), (2005, 2002), (2006, 2003)] h
    ·refine wq rfl (qL B0 AU rfl (qs AU rfl (qe rfl ?_)))
     obtain rfl := sj h
     refine Af (sm [(1000, 2004), (1001, 2005), (1002, 2006)] [(6, oD (.ptr 6 0)), (7, bD true)] [(6, .box [.own 1000, .own 1001, .own 1002]), (1000, .vec 1 (v9.map As)), (1001, .vec 1 ((v1.ff.set ((p2.fm).toNat) ((-1))).map As)), (1002, .vec 1 (v1.fg.map Dm))] rfl rfl) (Aq ?_)
     exact ⟨⟨[_, _], ⟨.cellN _ _ _ _ _ _ _ rfl rfl B0 AU rfl rfl (HQ rfl), tm⟩, rfl⟩, ⟨rfl, rfl, rfl, tv⟩⟩
theorem JY (N : Nat) (p0 : Aa) (p1 : Ae) (p2 : Am) (r : Ae × Int) (h : EJ N p0 p1 p2 = some r) : Ar zA 154 [.e (.agg (Ak p0)), .e (.agg (Bh p1)), .e (.agg (BQ p2))] [(1, r.1.fh.map As), (1, r.1.ff.map As), (1, r.1.fg.map Dm)] (.tup [.agg [.own 0, .own 1, .own 2], .one (iC r.2)]) := by
 unfold EJ at h
 refine cw (n := 32) (rs := [.cell 6 40, .tmp 7]) Tryz.func154 fun w0 S0 => ?_
 refine wq rfl (qb rfl (qb rfl (qb rfl (qz Dj rfl (qa rfl (Ab (AR (AT (wq rfl (qL In FR rfl ?_))))))))))
 refine B4 h fun v1 a1 h => Av [] (NL N p2 v1 a1) V5 rfl (B9 rfl (qe rfl ?_))
 refine Bb h (fun h => ?_) fun h => ?_
 ·refine wq rfl (Bq Dj GS rfl (qs AU rfl (qe rfl ?_)))
  obtain rfl := sj h
  refine Af ((Ax 6 0 2001 1 _ rfl rfl rfl rfl).trans ((Ax 6 1 2002 1 _ rfl rfl rfl rfl).trans ((Ax 6 2 2003 1 _ rfl rfl rfl rfl).trans (sm [(1000, 2001), (1001, 2002), (1002, 2003)] [(6, oD (.ptr 6 0)), (7, iD 1)] [(6, .box [.own 1000, .own 1001, .own 1002]), (1000, .vec 1 ((([] : List Int)).map As)), (1001, .vec 1 ((([] : List Int)).map As)), (1002, .vec 1 ((([] : List Int)).map Dm))] rfl rfl)))) (Aq ?_)
  exact ⟨⟨[_, _], ⟨.cellN _ _ _ _ _ _ _ rfl rfl B0 AU rfl rfl (HQ rfl), tm⟩, rfl⟩, ⟨rfl, rfl, rfl, tv⟩⟩
 ·refine wq rfl (qL DG DA rfl (qL In FR rfl ?_))
  refine B4 h fun v3 a3 h => Av [] (MK N p0 p2 v3 a3) Vs rfl (B9 rfl (qe rfl ?_))
  refine Bb h (fun h => ?_) fun h => ?_
  ·refine wq rfl (Bq Dj GS rfl (qs AU rfl (qe rfl ?_)))
   obtain rfl := sj h
   refine Af ((Ax 6 0 2004 1 _ rfl rfl rfl rfl).trans ((Ax 6 1 2005 1 _ rfl rfl rfl rfl).trans ((Ax 6 2 2006 1 _ rfl rfl rfl rfl).trans (sm [(1000, 2004), (1001, 2005), (1002, 2006)] [(6, oD (.ptr 6 0)), (7, iD 4)] [(6, .box [.own 1000, .own 1001, .own 1002]), (1000, .vec 1 ((([] : List Int)).map As)), (1001, .vec 1 ((([] : List Int)).map As)), (1002, .vec 1 ((([] : List Int)).map Dm))] rfl rfl)))) (Aq ?_)
   exact ⟨⟨[_, _], ⟨.cellN _ _ _ _ _ _ _ rfl rfl B0 AU rfl rfl (HQ rfl), tm⟩, rfl⟩, ⟨rfl, rfl, rfl, tv⟩⟩
  ·refine Ap (wq rfl (qL DG DA rfl (qL B0 AU rfl (qL In FR rfl ?_))))
   refine B4 h fun v5 a5 h => Av [2007, 2008, 2009] (NZ N p0 p1 p2 v5 a5) WE rfl (qm rfl (qx rfl (qx rfl (qz Dj rfl (qs AU rfl (qa rfl (Ab (wp rfl (qm rfl (B9 rfl (Ab ?_)))))))))))
   refine Bb h (fun h => ?_) fun h => ?_
   ·refine wq rfl (Bq Dj GS rfl (qs AU rfl (qe rfl ?_)))
    obtain rfl := sj h
    refine Af ((Ax 6 0 2010 1 _ rfl rfl rfl rfl).trans ((Ax 6 1 2011 1 _ rfl rfl rfl rfl).trans ((Ax 6 2 2012 1 _ rfl rfl rfl rfl).trans (sm [(1000, 2010), (1001, 2011), (1002, 2012)] [(6, oD (.ptr 6 0)), (7, iD 11)] [(6, .box [.own 1000, .own 1001, .own 1002]), (1000, .vec 1 ((([] : List Int)).map As)), (1001, .vec 1 ((([] : List Int)).map As)), (1002, .vec 1 ((([] : List Int)).map Dm))] rfl rfl)))) (Aq ?_)
    exact ⟨⟨[_, _], ⟨.cellN _ _ _ _ _ _ _ rfl rfl B0 AU rfl rfl (HQ rfl), tm⟩, rfl⟩, ⟨rfl, rfl, rfl, tv⟩⟩
   ·refine Ap (wq rfl (qL B0 AU rfl (qs AU rfl (qe rfl ?_))))
    obtain rfl := sj h
    refine Af (sm [(1000, 2007), (1001, 2008), (1002, 2009)] [(6, oD (.ptr 6 0)), (7, iD 0)] [(6, .box [.own 1000, .own 1001, .own 1002]), (1000, .vec 1 (v5.1.fh.map As)), (1001, .vec 1 (v5.1.ff.map As)), (1002, .vec 1 (v5.1.fg.map Dm))] rfl rfl) (Aq ?_)
    exact ⟨⟨[_, _], ⟨.cellN _ _ _ _ _ _ _ rfl rfl B0 AU rfl rfl (HQ rfl), tm⟩, rfl⟩, ⟨rfl, rfl, rfl, tv⟩⟩
theorem P3 (N : Nat) (p0 : Aa) (p1 : Ae) (p2 : List Am) (r : (List Ae) × Int × Int) (h : Gv N p0 p1 p2 = some r) : Ar zA 113 [.e (.agg (Ak p0)), .e (.agg (Bh p1)), pD (.sl (p2.map AP))] [(3, r.1.map ES)] (.tup [.one (.own 0), .one (iC r.2.1), .one (iC r.2.2)]) := by
 unfold Gv at h
 refine cw (n := 53) (rs := [.tmp 6, .tmp 7, .tmp 8]) Tryz.func113 fun w0 S0 => ?_
 refine wq rfl (qb rfl (qb rfl (qa rfl (qa rfl (qa rfl (Ab (wp rfl (qL DG DA rfl (qL B0 AU rfl ?_)))))))))
 refine B4 h fun v1 a1 h => Av [] (KX N p0 p1 v1 a1) TU rfl (qa rfl (Ab (wq rfl (qm rfl (BG rfl (Ab ?_))))))
 refine Bb h (fun h => ?_) fun h => ?_
 ·refine wq rfl (qm rfl (qa rfl (qa rfl (qe rfl ?_))))
  obtain rfl := sj h
  refine Af ((Fx 6 2001 3 rfl rfl rfl).trans (sm [(1000, 2001)] [(6, oD (.own 1000)), (7, iD 0), (8, iD v1)] [(1000, .vec 3 ((([] : List Ae)).map ES))] rfl rfl)) (Aq ?_)
  exact ⟨⟨[_, _, _], ⟨.tmp _ _ rfl, ⟨.tmp _ _ rfl, tm⟩⟩, rfl⟩, ⟨rfl, tv⟩⟩
 ·refine Ap (wq rfl (qL B0 AU rfl ?_))
  refine B4 h fun v3 a3 h => Av [2002, 2003, 2004] (Jn N p1 v3 a3) TZ rfl (F4 (Bi 2002 _ _ rfl rfl) (F4 (Bi 2003 _ _ rfl rfl) (F4 (Bi 2004 _ _ rfl rfl) (FJ HG AU Dj rfl (qa rfl (Ab (wp rfl (qm rfl (AH GB rfl (qm rfl (Ab ?_)))))))))))
  refine A5 (L := El N p0 p2) h (fun v4 => mk [(2, pD (.sl (p2.map AP))), (3, oD (.ptr 3 0)), (10, oD (.own 2005)), (24, pD (.sl (p2.map AP))), (25, iD ((p2.length : Int))), (26, iD v4.2)] [(3, .box (Ak p0)), (2005, .vec 3 (v4.1.map ES))]) (fun v5 => mk [(2, pD (.sl (p2.map AP))), (10, oD (.own 2006))] [(2006, .vec 3 (v5.map ES))]) (fun _ _ => rfl) (sm [(2005, 23)] _ _ rfl rfl) (fun j4 n4 v4 h => ?_) (fun v5 s h hs => ?_)
  ·unfold El at h
   refine wq rfl (A4 rfl (Ab (AR ?_)))
   refine Bb h (fun h => ?_) fun h => ?_
   ·refine Ap (AR (AT (wq rfl (qm rfl ?_))))
    refine BN h fun v7 a7 b7 h => qi GB FR a7 (Ag b7) rfl (qK In FR rfl (qz OH rfl (qa rfl (qs FR rfl (Ab (wq rfl (qL DG DA rfl (qw 2 rfl ?_))))))))
    refine BN h fun v8 a8 b8 h => qI HG AU a8 (Ag b8) rfl (qJ B0 AU (Ag b8) rfl (qL In FR rfl ?_))
    refine B4 h fun v9 a9 h => Av [2007, 2008, 2009] (JY N p0 v8 v7 v9 a9) Uf rfl (qm rfl (qx rfl (qx rfl (qz Dj rfl (qs AU rfl (qa rfl (AE (by kernel_rfl) (wp rfl (qm rfl (BG rfl (Ab ?_)))))))))))
    refine Bb h (fun h => ?_) fun h => ?_
    ·refine wq rfl (qw 2 rfl (qa rfl (qa rfl (qe rfl ?_))))
     obtain rfl := sj h
     refine Af ((Fx 6 2010 3 rfl rfl rfl).trans (sm [(1000, 2010)] [(6, oD (.own 1000)), (7, iD v4.2), (8, iD v9.2)] [(1000, .vec 3 ((([] : List Ae)).map ES))] rfl rfl)) (Aq ?_)
     exact ⟨⟨[_, _, _], ⟨.tmp _ _ rfl, ⟨.tmp _ _ rfl, tm⟩⟩, rfl⟩, ⟨rfl, tv⟩⟩
    ·refine Ap (Aj Aw rfl (qm rfl (qL B0 AU rfl (F4 (Bi 2007 _ _ rfl rfl) (F4 (Bi 2008 _ _ rfl rfl) (F4 (Bi 2009 _ _ rfl rfl) (FJ HG AU Dj rfl ?_)))))))
     refine HL h fun c11 h => Lr (f := ES) HG HG AU Uc Dj c11 rfl (qa rfl (Ab (Aj Aw rfl (Cl rfl (qm rfl (Ab ?_))))))
     exact sn [(2005, 48)] h
   ·refine BZ ?_
    exact sn [(2006, 2005)] h
  ·refine Af hs (wq rfl (qw 2 rfl (AH GB rfl (qa rfl (qa rfl (qe rfl ?_))))))
   obtain rfl := sj h
   refine Af (sm [(1000, 2006)] [(6, oD (.own 1000)), (7, iD ((p2.length : Int))), (8, iD 0)] [(1000, .vec 3 (v5.map ES))] rfl rfl) (Aq ?_)
   exact ⟨⟨[_, _, _], ⟨.tmp _ _ rfl, ⟨.tmp _ _ rfl, tm⟩⟩, rfl⟩, ⟨rfl, tv⟩⟩
theorem Hy (N : Nat) (p0 : Aa) (p1 : List Am) (r : Ae × Int) (h : Df N p0 p1 = some r) : Ar zA 72 [.e (.agg (Ak p0)), pD (.sl (p1.map AP))] [] (.tup [.agg (Bh r.1), .one (iC r.2)]) := by
 unfold Df at h
 refine cw (n := 30) (rs := [.cell 4 40, .tmp 5]) Tryz.func72 fun w0 S0 => ?_
 refine wq rfl (qb rfl (qz Dj rfl (qa rfl (Ab (wp rfl (qm rfl ?_))))))
 refine B4 h fun v1 a1 h => Av [] (Ar.weak (ds' := [pD (.sl (p1.map AP)), oD (.fnc 111)]) (EV N p1 ((fun (x : Am) => DD N x)) v1 a1) ⟨(fun _ _ _ hh => hh), (fun _ _ _ hh => Of V1 (fun ar t ht => by obtain ⟨x, r, rfl, hq, rfl⟩ := IY ht; exact Jl N x r hq) hh), tv⟩) Vv rfl ?_
 refine Ab ?_
 refine Bb h (fun h => ?_) fun h => ?_
 ·refine wq rfl (Bq Dj GS rfl (qs AU rfl (qe rfl ?_)))
  obtain rfl := sj h
  refine Af ((I1 4 _ rfl).trans (sm [] [(4, oD (.ptr 4 0)), (5, iD 1)] [(4, .box [sC ((([] : List Int)).map As), sC ((([] : List Int)).map As), sC ((([] : List Int)).map Dm)])] rfl rfl)) (Aq ?_)
  exact ⟨⟨[_, _], ⟨.cellN _ _ _ _ _ _ _ rfl rfl B0 AU rfl rfl (HQ rfl), tm⟩, rfl⟩, tv⟩
 ·refine Ap (wq rfl (qL DG DA rfl ?_))
  refine B4 h fun v3 a3 h => Av [2001, 2002, 2003] (OY N p0 v3 a3) Vx rfl (qm rfl (qx rfl (qx rfl (qz Dj rfl (qs AU rfl (qa rfl (Ab (wp rfl (qm rfl (BG rfl (Ab ?_)))))))))))
  refine Bb h (fun h => ?_) fun h => ?_
  ·refine wq rfl (Bq Dj GS rfl (qm rfl (qs AU rfl (qe rfl ?_))))
   obtain rfl := sj h
   refine Af ((I1 4 _ rfl).trans (sm [] [(4, oD (.ptr 4 0)), (5, iD v3.2)] [(4, .box [sC ((([] : List Int)).map As), sC ((([] : List Int)).map As), sC ((([] : List Int)).map Dm)])] rfl rfl)) (Aq ?_)
   exact ⟨⟨[_, _], ⟨.cellN _ _ _ _ _ _ _ rfl rfl B0 AU rfl rfl (HQ rfl), tm⟩, rfl⟩, tv⟩
  ·refine Ap (wq rfl (qL DG DA rfl (qL B0 AU rfl (qm rfl (F4 (Bi 2001 _ _ rfl rfl) (F4 (Bi 2002 _ _ rfl rfl) (F4 (Bi 2003 _ _ rfl rfl) ?_)))))))
   refine B4 h fun v5 a5 h => Av [2004] (P3 N p0 v3.1 p1 v5 a5) V6 rfl (qm rfl (qx rfl (qx rfl (qx rfl (qa rfl (Ab (wq rfl (qL B0 AU rfl (qm rfl (qs AU rfl (qe rfl ?_)))))))))))
   obtain rfl := sj h
   refine Af (sm [] [(4, oD (.ptr 4 0)), (5, iD v5.2.2)] [(4, .box (Bh v3.1))] rfl rfl) (Aq ?_)
   exact ⟨⟨[_, _], ⟨.cellN _ _ _ _ _ _ _ rfl rfl B0 AU rfl rfl (HQ rfl), tm⟩, rfl⟩, tv⟩
theorem Kb (N : Nat) (p0 : Int) (r : ByteArray) (h : EF N p0 = some r) : Ar zA 119 [iD p0] [] (pD (.val (.string r))) := by
 unfold EF at h
 refine cw (n := 14) (rs := [.tmp 2]) Tryz.func119 fun w0 S0 => ?_
 refine wq rfl (qa rfl (Ab (wq rfl ?_)))
 refine RV [(1, .const (.string ⟨#[114, 101, 97, 100]⟩), _), (2, .const (.string ⟨#[98, 101, 103, 105, 110]⟩), _), (3, .const (.string ⟨#[100, 111, 110, 101]⟩), _), (4, .const (.string ⟨#[97, 98, 111, 114, 116]⟩), _), (5, .const (.string ⟨#[114, 101, 115, 117, 109, 101]⟩), _), (6, .const (.string ⟨#[115, 119, 105, 116, 99, 104]⟩), _), (7, .const (.string ⟨#[108, 101, 97, 115, 101]⟩), _)] (.p rfl) rfl ⟨rfl, rfl, rfl, rfl, rfl, rfl, rfl, tv⟩ Ul rfl rfl SI WI rfl ?_
 refine qz Ul rfl (qs Vp rfl (Ab (AR ?_)))
 refine AF h (fun v1 => mk [(0, iD p0), (3, oD (.ptr 3 0)), (10, bD v1)] [(3, .box [.pure (.val (.string (⟨#[]⟩))), .pure (.val (.string ((⟨#[114, 101, 97, 100]⟩ : ByteArray)))), .pure (.val (.string ((⟨#[98, 101, 103, 105, 110]⟩ : ByteArray)))), .pure (.val (.string ((⟨#[100, 111, 110, 101]⟩ : ByteArray)))), .pure (.val (.string ((⟨#[97, 98, 111, 114, 116]⟩ : ByteArray)))), .pure (.val (.string ((⟨#[114, 101, 115, 117, 109, 101]⟩ : ByteArray)))), .pure (.val (.string ((⟨#[115, 119, 105, 116, 99, 104]⟩ : ByteArray)))), .pure (.val (.string ((⟨#[108, 101, 97, 115, 101]⟩ : ByteArray))))])]) (fun j1 h => ?_) (fun v1 h => ?_)
 ·refine Aj Aw rfl (qm rfl (A4 rfl (qm rfl ?_)))
  refine Cp 7 h rfl (fun h => ?_) fun h => ?_
  ·refine qw 2 rfl (qp rfl (Ab ?_))
   exact sn [] h
  ·refine qm rfl (C9 rfl (qp rfl (Ab ?_)))
   exact sn [] h
 ·refine Bb h (fun h => ?_) fun h => ?_
  ·refine wq rfl (qe rfl ?_)
   obtain rfl := sj h
   refine Af (sm [] [(2, pD (.val (.string ((⟨#[]⟩ : ByteArray)))))] [] rfl rfl) (Aq ?_)
   exact ⟨⟨[_], tm, rfl⟩, tv⟩
  ·refine Ap (wq rfl (qm rfl (F4 (IM 3 [.val (.string (⟨#[]⟩)), .val (.string ((⟨#[114, 101, 97, 100]⟩ : ByteArray))), .val (.string ((⟨#[98, 101, 103, 105, 110]⟩ : ByteArray))), .val (.string ((⟨#[100, 111, 110, 101]⟩ : ByteArray))), .val (.string ((⟨#[97, 98, 111, 114, 116]⟩ : ByteArray))), .val (.string ((⟨#[114, 101, 115, 117, 109, 101]⟩ : ByteArray))), .val (.string ((⟨#[115, 119, 105, 116, 99, 104]⟩ : ByteArray))), .val (.string ((⟨#[108, 101, 97, 115, 101]⟩ : ByteArray)))] rfl rfl) ?_)))
   refine BN h fun v4 a4 b4 h => Sp (.p rfl) rfl rfl SI WI rfl a4 (Ag (f := fun q : ByteArray => T.val (.string q)) b4) ?_
   refine qk Xx rfl (qe rfl ?_)
   obtain rfl := sj h
   refine Af (sm [] [(2, pD (.val (.string v4)))] [] rfl rfl) (Aq ?_)
   exact ⟨⟨[_], tm, rfl⟩, tv⟩
theorem IV (N : Nat) (p0 : Ac) (r : (List Int)) (h : DN N p0 = some r) : Ar zA 120 [.e (.agg (AM p0))] [(1, r.map As)] (oD (.own 0)) := by
 unfold DN at h
 refine cw (n := 35) (rs := [.tmp 2]) Tryz.func120 fun w0 S0 => ?_
 refine wq rfl (qb rfl (qa rfl (Ab (wp rfl (qf B8 rfl (ql AW rfl (Ab (AT (wq rfl (AN rfl (qe rfl ?_)))))))))))
 refine Bb h (fun h => ?_) fun h => ?_
 ·refine wq rfl (qf Fs rfl (ql AW rfl (qf Fp rfl (ql AW rfl (qf Gp rfl (ql AW rfl (FJ Co Iq Ud rfl (qe rfl ?_))))))))
  obtain rfl := sj h
  refine Af (sm [(1000, 13)] [(2, oD (.own 1000))] [(1000, .vec 1 ((([p0.fv, p0.fw, p0.fC] : List Int)).map As))] rfl rfl) (Aq ?_)
  exact ⟨⟨[_], tm, rfl⟩, ⟨rfl, tv⟩⟩
 ·refine wq rfl (AN rfl (qe rfl ?_))
  refine Bb h (fun h => ?_) fun h => ?_
  ·refine wq rfl (qf Gn rfl (ql AW rfl (qf IX rfl (ql AW rfl (qf Hx rfl (ql AW rfl (FJ Co Iq Ud rfl (qe rfl ?_))))))))
   obtain rfl := sj h
   refine Af (sm [(1000, 22)] [(2, oD (.own 1000))] [(1000, .vec 1 ((([p0.ft, p0.fq, p0.fD] : List Int)).map As))] rfl rfl) (Aq ?_)
   exact ⟨⟨[_], tm, rfl⟩, ⟨rfl, tv⟩⟩
  ·refine wq rfl (AN rfl (qe rfl ?_))
   refine Bb h (fun h => ?_) fun h => ?_
   ·refine wq rfl (qf Kg rfl (ql AW rfl (qf Eg rfl (ql Ho rfl (FJ Co Iq Ud rfl (qe rfl ?_))))))
    obtain rfl := sj h
    refine Af (sm [(1000, 29)] [(2, oD (.own 1000))] [(1000, .vec 1 ((([p0.fM, p0.fu] : List Int)).map As))] rfl rfl) (Aq ?_)
    exact ⟨⟨[_], tm, rfl⟩, ⟨rfl, tv⟩⟩
   ·refine Ap (wq rfl (qf IW rfl (ql AW rfl (qf Eg rfl (ql Ho rfl (FJ Co Iq Ud rfl (qe rfl ?_)))))))
    obtain rfl := sj h
    refine Af (sm [(1000, 34)] [(2, oD (.own 1000))] [(1000, .vec 1 ((([p0.fm, p0.fu] : List Int)).map As))] rfl rfl) (Aq ?_)
    exact ⟨⟨[_], tm, rfl⟩, ⟨rfl, tv⟩⟩
theorem Mw (N : Nat) (p0 : Int) (p1 : Int) (p2 : List Int) (r : Ac) (h : En N p0 p1 p2 = some r) : Ar zA 121 [iD p0, iD p1, pD (.sl (p2.map As))] [] (.e (.agg (AM r))) := by
 unfold En at h
 refine cw (n := 59) (rs := [.cell 6 37]) Tryz.func121 fun w0 S0 => ?_
 refine wq rfl (qz IR rfl (Ab (wq rfl (qw 2 rfl (Bq IR QR rfl (qz IR rfl (qs CY rfl (Ab ?_))))))))
 refine AF h (fun v1 => mk [(6, oD (.ptr 6 0)), (7, oD (.ptr 7 0))] [(6, .box [iC 0, iC 0, iC 0, iC 0, iC 0, iC 0, iC 0, iC 0, iC 0, iC 0, iC 0]), (7, .box [iC p0, iC p1, iC v1.1, iC v1.2.1, iC v1.2.2.1, iC v1.2.2.2.1, iC v1.2.2.2.2.1, iC v1.2.2.2.2.2.1, iC v1.2.2.2.2.2.2.1, iC v1.2.2.2.2.2.2.2.1, iC v1.2.2.2.2.2.2.2.2])]) (fun j1 h => ?_) (fun v1 h => ?_)
 ·refine wq rfl (qm rfl (Ab (AT (wq rfl (AN rfl (qe rfl ?_))))))
  refine Bb h (fun h => ?_) fun h => ?_
  ·refine Aj Aw rfl (qm rfl ?_)
   refine BN h fun v3 a3 b3 h => qi Co Iq a3 (Ag b3) rfl (qk Ho rfl (qm rfl ?_))
   refine BN h fun v4 a4 b4 h => qi Co Iq a4 (Ag b4) rfl (qk Ho rfl (qm rfl ?_))
   refine BN h fun v5 a5 b5 h => qi Co Iq a5 (Ag b5) rfl (qk Ho rfl (qf Fs rfl (qs CK rfl (qf Fp rfl (qs CK rfl (qf Gp rfl (qs CK rfl (AE (by kernel_rfl) ?_))))))))
   exact sn [] h
  ·refine wq rfl (AN rfl (qe rfl ?_))
   refine Bb h (fun h => ?_) fun h => ?_
   ·refine Aj Aw rfl (qm rfl ?_)
    refine BN h fun v7 a7 b7 h => qi Co Iq a7 (Ag b7) rfl (qk Ho rfl (qm rfl ?_))
    refine BN h fun v8 a8 b8 h => qi Co Iq a8 (Ag b8) rfl (qk Ho rfl (qm rfl ?_))
    refine BN h fun v9 a9 b9 h => qi Co Iq a9 (Ag b9) rfl (qk Ho rfl (qf Gn rfl (qs CK rfl (qf IX rfl (qs CK rfl (qf Hx rfl (qs CK rfl (AE (by kernel_rfl) ?_))))))))
    exact sn [] h
   ·refine wq rfl (AN rfl (qe rfl ?_))
    refine Bb h (fun h => ?_) fun h => ?_
    ·refine Aj Aw rfl (qm rfl ?_)
     refine BN h fun v11 a11 b11 h => qi Co Iq a11 (Ag b11) rfl (qk Ho rfl (qm rfl ?_))
     refine BN h fun v12 a12 b12 h => qi Co Iq a12 (Ag b12) rfl (qk Ho rfl (qf Kg rfl (qs CK rfl (qf Eg rfl (qs Iq rfl (AE (by kernel_rfl) ?_))))))
     exact sn [] h
    ·refine Aj Aw rfl (qm rfl ?_)
     refine BN h fun v13 a13 b13 h => qi Co Iq a13 (Ag b13) rfl (qk Ho rfl (qm rfl ?_))
     refine BN h fun v14 a14 b14 h => qi Co Iq a14 (Ag b14) rfl (qk Ho rfl (qf IW rfl (qs CK rfl (qf Eg rfl (qs Iq rfl (AE (by kernel_rfl) ?_))))))
     exact sn [] h
 ·refine wq rfl (qL E9 CY rfl (qs CY rfl (Ab ?_)))
  obtain rfl := sj h
  refine Af (sm [] [(6, oD (.ptr 6 0))] [(6, .box [iC p0, iC p1, iC v1.1, iC v1.2.1, iC v1.2.2.1, iC v1.2.2.2.1, iC v1.2.2.2.2.1, iC v1.2.2.2.2.2.1, iC v1.2.2.2.2.2.2.1, iC v1.2.2.2.2.2.2.2.1, iC v1.2.2.2.2.2.2.2.2])] rfl rfl) (Aq ?_)
  exact ⟨⟨[_], ⟨.cellN _ _ _ _ _ _ _ rfl rfl E9 CY rfl rfl (HQ rfl), tv⟩, rfl⟩, tv⟩
theorem Ge (N : Nat) (p0 : List Int) (p1 : Int → Option Bool) (r : Int) (h : Ch N p0 p1 = some r) : Ar zA 157 [pD (.sl (p0.map As)), oD (.clo (Iv (Nc false As) tB p1))] [] (iD r) := by
 unfold Ch at h
 refine cw (n := 19) (rs := [.tmp 4]) Tryz.func157 fun w0 S0 => ?_
 refine wq rfl (qa rfl (Ab (wp rfl (qm rfl (AH Co rfl (qm rfl (Ab ?_)))))))
 refine A5 (L := A0 N p0 p1) h (fun v1 => mk [(0, pD (.sl (p0.map As))), (1, oD (.clo (Iv (Nc false As) tB p1))), (7, iD ((p0.length : Int))), (8, iD v1)] []) (fun v2 => mk [] []) (fun _ _ => rfl) (sm [] _ _ rfl rfl) (fun j1 n1 v1 h => ?_) (fun v2 s h hs => ?_)
 ·unfold A0 at h
  refine wq rfl (A4 rfl (Ab (AR ?_)))
  refine Bb h (fun h => ?_) fun h => ?_
  ·refine Ap (AR (AT (wq rfl (qm rfl (qa rfl (Ab (wq rfl (qw 3 rfl ?_))))))))
   refine BN h fun v4 a4 b4 h => qi Co Iq a4 (Ag b4) rfl (qk Ho rfl ?_)
   refine B4 h fun v5 a5 h => Lm (ds0 := [_]) (ar := (Nc false As) v4) (.p rfl) rfl rfl ⟨rfl, tv⟩ rfl rfl rfl (Lg (Ln _ _ Se) a5) ?_
   refine Ab ?_
   refine Bb h (fun h => ?_) fun h => ?_
   ·refine wq rfl (qm rfl (qe rfl ?_))
    obtain rfl := sj h
    refine Af (sm [] [(4, iD v1)] [] rfl rfl) (Aq ?_)
    exact ⟨⟨[_], tm, rfl⟩, tv⟩
   ·refine Ap (Aj Aw rfl (Cl rfl (qm rfl (Ab ?_))))
    exact sn [] h
  ·refine BZ ?_
   exact sn [] h
 ·refine Af hs (wq rfl (qe rfl ?_))
  obtain rfl := sj h
  refine Af (sm [] [(4, iD ((-1)))] [] rfl rfl) (Aq ?_)
  exact ⟨⟨[_], tm, rfl⟩, tv⟩
theorem FK (N : Nat) (p0 : List Int) (p1 : Int → Option Bool) (r : Bool) (h : Bc N p0 p1 = some r) : Ar zA 122 [pD (.sl (p0.map As)), oD (.clo (Iv (Nc false As) tB p1))] [] (bD r) := by
 unfold Bc at h
 refine cw (n := 9) (rs := [.tmp 4]) Tryz.func122 fun w0 S0 => ?_
 refine wq rfl (qa rfl (Ab (wq rfl (qw 2 rfl ?_))))
 refine B4 h fun v1 a1 h => Av [] (Ge N p0 p1 v1 a1) VO rfl (C9 rfl (qe rfl ?_))
 obtain rfl := sj h
 refine Af (sm [] [(4, bD ((decide (0 ≤ v1))))] [] rfl rfl) (Aq ?_)
 exact ⟨⟨[_], tm, rfl⟩, tv⟩
theorem K9 (N : Nat) (p0 : Int) (r : Bool) (h : DU N p0 = some r) : Ar zA 123 [iD p0] [] (bD r) := by
 unfold DU at h
 refine cw (n := 5) (rs := [.tmp 2]) Tryz.func123 fun w0 S0 => ?_
 refine wq rfl (qa rfl (Ab (wq rfl (qm rfl (A4 rfl (qe rfl ?_))))))
 obtain rfl := sj h
 refine Af (sm [] [(2, bD ((decide (p0 < 0))))] [] rfl rfl) (Aq ?_)
 exact ⟨⟨[_], tm, rfl⟩, tv⟩
theorem MO (N : Nat) (p0 : Ac) (r : Bool) (h : EY N p0 = some r) : Ar zA 86 [.e (.agg (AM p0))] [] (bD r) := by
 unfold EY at h
 refine cw (n := 28) (rs := [.tmp 2]) Tryz.func86 fun w0 S0 => ?_
 refine wq rfl (qb rfl (qa rfl (Ab (AR ?_))))
 refine AF h (fun v1 => mk [(1, oD (.ptr 1 0)), (12, bD v1)] [(1, .box (AM p0))]) (fun j1 h => ?_) (fun v1 h => ?_)
 ·refine Aj Aw rfl (qf B8 rfl (ql AW rfl ?_))
  refine B4 h fun v2 a2 h => Av [] (Kb N p0.fa v2 a2) Uo rfl ?_
  refine Er (.p rfl) rfl rfl (Mm _ _ _ _) rfl ?_
  refine qm rfl ?_
  refine Cp 8 h rfl (fun h => ?_) fun h => ?_
  ·refine qw 3 rfl (qp rfl (Ab ?_))
   exact sn [] h
  ·refine qf GW rfl (ql Ho rfl (A4 rfl (qp rfl (Ab ?_))))
   exact sn [] h
 ·refine Bb h (fun h => ?_) fun h => ?_
  ·refine wq rfl (qe rfl ?_)
   obtain rfl := sj h
   refine Af (sm [] [(2, bD false)] [] rfl rfl) (Aq ?_)
   exact ⟨⟨[_], tm, rfl⟩, tv⟩
  ·refine Ap (wq rfl (qL E9 CY rfl ?_))
   refine B4 h fun v5 a5 h => Av [2001] (IV N p0 v5 a5) TY rfl (qe rfl ?_)
   refine AF h (fun v6 => mk [(2, bD v6)] []) (fun j6 h => ?_) (fun v6 h => ?_)
   ·refine Aj Aw rfl (qL E9 CY rfl (qf GW rfl (ql Ho rfl (qf B8 rfl (ql AW rfl (qm rfl ?_))))))
    refine B4 h fun v7 a7 h => Hw [] [2001] (Mw N p0.fi p0.fa v5 v7 a7) Wt FD rfl ?_
    refine Un [.int .i64 p0.fi, .int .i64 p0.fa, .int .i64 p0.fv, .int .i64 p0.fw, .int .i64 p0.fC, .int .i64 p0.fm, .int .i64 p0.fu, .int .i64 p0.fD, .int .i64 p0.ft, .int .i64 p0.fq, .int .i64 p0.fM] [.int .i64 v7.fi, .int .i64 v7.fa, .int .i64 v7.fv, .int .i64 v7.fw, .int .i64 v7.fC, .int .i64 v7.fm, .int .i64 v7.fu, .int .i64 v7.fD, .int .i64 v7.ft, .int .i64 v7.fq, .int .i64 v7.fM] (.p rfl) rfl rfl T9 rfl ?_
    refine qm rfl ?_
    refine Cp 23 h rfl (fun h => ?_) fun h => ?_
    ·refine qm rfl ?_
     refine B4 h fun v9 a9 h => Hw [] [2001] (Ar.weak (ds' := [pD (.sl (v5.map As)), oD (.fnc 123)]) (FK N v5 ((fun (x : Int) => DU N x)) v9 a9) ⟨(fun _ _ _ hh => hh), (fun _ _ _ hh => Of Wp (fun ar t ht => by obtain ⟨x, r, rfl, hq, rfl⟩ := IY ht; exact K9 N x r hq) hh), tv⟩) VS FD rfl ?_
     refine B9 rfl (qp rfl (qa rfl (AE (by kernel_rfl) ?_)))
     exact sn [] h
    ·refine qw 3 rfl (qp rfl (qa rfl (AE (by kernel_rfl) ?_)))
     exact sn [] h
   ·obtain rfl := sj h
    refine Af (sm [] [(2, bD v6)] [] rfl rfl) (Aq ?_)
    exact ⟨⟨[_], tm, rfl⟩, tv⟩
theorem Gr (N : Nat) (p0 : List Ac) (r : Int) (h : Dx N p0 = some r) : Ar zA 43 [pD (.sl (p0.map AG))] [] (iD r) := by
 unfold Dx at h
 refine cw (n := 34) (rs := [.tmp 2]) Tryz.func43 fun w0 S0 => ?_
 refine wq rfl (qa rfl (Ab (wp rfl (qm rfl (AH D0 rfl (Ed rfl (Ab ?_)))))))
 refine Bb h (fun h => ?_) fun h => ?_
 ·refine wq rfl (qe rfl ?_)
  obtain rfl := sj h
  refine Af (sm [] [(2, iD 3)] [] rfl rfl) (Aq ?_)
  exact ⟨⟨[_], tm, rfl⟩, tv⟩
 ·refine Ap (wp rfl (qm rfl (AH D0 rfl (qm rfl (Ab ?_)))))
  refine A5 (L := DH N p0) h (fun v2 => mk [(0, pD (.sl (p0.map AG))), (8, pD (.sl (p0.map AG))), (9, iD ((p0.length : Int))), (10, iD v2)] []) (fun v3 => mk [] []) (fun _ _ => rfl) (sm [] _ _ rfl rfl) (fun j2 n2 v2 h => ?_) (fun v3 s h hs => ?_)
  ·unfold DH at h
   refine wq rfl (A4 rfl (Ab (AR ?_)))
   refine Bb h (fun h => ?_) fun h => ?_
   ·refine Ap (AR (AT (wq rfl (qm rfl ?_))))
    refine BN h fun v5 a5 b5 h => qi D0 CY a5 (Ag b5) rfl (qK E9 CY rfl (qz IR rfl (qa rfl (qs CY rfl (Ab ?_)))))
    refine AF h (fun v6 => mk [(0, pD (.sl (p0.map AG))), (8, pD (.sl (p0.map AG))), (9, iD ((p0.length : Int))), (10, iD v2), (32, bD v6)] []) (fun j6 h => ?_) (fun v6 h => ?_)
    ·refine Aj Aw rfl (qL E9 CY rfl ?_)
     refine B4 h fun v7 a7 h => Av [] (MO N v5 v7 a7) WK rfl (B9 rfl (qm rfl ?_))
     refine Cp 18 h rfl (fun h => ?_) fun h => ?_
     ·refine qw 3 rfl (qu rfl (qu rfl (qu rfl (qu rfl (qu rfl (qu rfl (qu rfl (qu rfl (qu rfl (qn rfl (qp rfl (AE (by kernel_rfl) ?_))))))))))))
      exact sn [] h
     ·refine qm rfl (Ed rfl (qm rfl ?_))
      refine Cp 21 h rfl (fun h => ?_) fun h => ?_
      ·refine qf GW rfl (ql Ho rfl (qw 2 rfl (J9 rfl ?_)))
       refine BN h fun v10 a10 b10 h => qi D0 CY a10 (Ag b10) rfl (qg GW rfl (qk Ho rfl (A4 rfl (qp rfl (qp rfl (AE (by kernel_rfl) ?_))))))
       exact sn [] h
      ·refine qw 9 rfl (qp rfl (qp rfl (AE (by kernel_rfl) ?_)))
       exact sn [] h
    ·refine Bb h (fun h => ?_) fun h => ?_
     ·refine wq rfl (qe rfl ?_)
      obtain rfl := sj h
      refine Af (sm [] [(2, iD 1)] [] rfl rfl) (Aq ?_)
      exact ⟨⟨[_], tm, rfl⟩, tv⟩
     ·refine Ap (Aj Aw rfl (Cl rfl (qm rfl (Ab ?_))))
      exact sn [] h
   ·refine BZ ?_
    exact sn [] h
  ·refine Af hs (wq rfl (qe rfl ?_))
   obtain rfl := sj h
   refine Af (sm [] [(2, iD 0)] [] rfl rfl) (Aq ?_)
   exact ⟨⟨[_], tm, rfl⟩, tv⟩
theorem JM (N : Nat) (r : A8) (h : Ex N = some r) : DI zA 64 [] [] [.box [iC r.fF, iC r.fG, .pure (.val (.bool r.fH)), .mref 1], .mp (D2 (Value.int .i64) F9 r.fI)] (oD (.ptr 0 0)) := by
 unfold Ex at h
 refine Dp (n := 4) (rs := [.tmp 0]) Tryz.func64 rfl rfl rfl (GZ rfl) (GZ rfl) rfl rfl (GZ rfl) rfl (GZ rfl) fun w0 S0 GL => ?_
 refine Af (sm [] [] [] rfl rfl) (wq rfl (qa rfl (Ab (wq rfl ?_))))
 refine Q0 (.p rfl) rfl ?_
 refine Bq Wk Vq rfl (qb rfl (qe rfl ?_))
 obtain rfl := sj h
 refine Af (sm [(1000, 3), (1001, 1)] [(0, oD (.ptr 1000 0))] [(1000, .box [iC 0, iC 0, .pure (.val (.bool false)), .mref 1001]), (1001, .mp (D2 (Value.int .i64) F9 (([] : List (Int × Int)))))] rfl rfl) (Aq ?_)
 exact ⟨⟨[_], tm, rfl⟩, tv, ⟨rfl, rfl, tv⟩⟩
theorem Oi (N : Nat) (p0 : Aa) (p1 : Ac) (r : Bool) (h : Ec N p0 p1 = some r) : Ar zA 62 [.e (.agg (Ak p0)), .e (.agg (AM p1))] [] (bD r) := by
 unfold Ec at h
 refine cw (n := 47) (rs := [.tmp 4]) Tryz.func62 fun w0 S0 => ?_
 refine wq rfl (qb rfl (qb rfl (qa rfl (Ab (wp rfl (qf Fs rfl (ql AW rfl (qf BA rfl (ql EK rfl (AH CR rfl (C9 rfl (Ab ?_))))))))))))
 refine Bb h (fun h => ?_) fun h => ?_
 ·refine wq rfl (qe rfl ?_)
  obtain rfl := sj h
  refine Af (sm [] [(4, bD false)] [] rfl rfl) (Aq ?_)
  exact ⟨⟨[_], tm, rfl⟩, tv⟩
 ·refine Ap (wq rfl (qf BA rfl (ql EK rfl (qf Fs rfl (ql AW rfl ?_)))))
  refine BN h fun v2 a2 b2 h => qi CR BK a2 (Ag b2) rfl (qK Eu BK rfl (qz IC rfl (qs BK rfl (Ab ?_))))
  refine AF h (fun v3 => mk [(4, bD v3)] []) (fun j3 h => ?_) (fun v3 h => ?_)
  ·refine Aj Aw rfl (qf Fp rfl (ql AW rfl (qf Gx rfl (ql Fa rfl (AH DW rfl (A4 rfl (qm rfl ?_)))))))
   refine Cp 24 h rfl (fun h => ?_) fun h => ?_
   ·refine qf Gp rfl (ql AW rfl (qf BB rfl (ql Bd rfl (qf FU rfl (ql AW rfl ?_)))))
    refine BN h fun v5 a5 b5 h => qi AA CK a5 (Ag b5) rfl (qk AW rfl (A4 rfl (qp rfl (qm rfl ?_))))
    refine Cp 35 h rfl (fun h => ?_) fun h => ?_
    ·refine qf Gx rfl (ql Fa rfl (qf Fp rfl (ql AW rfl ?_)))
     refine BN h fun v7 a7 b7 h => qi DW Jz a7 (Ag b7) rfl (qk Jv rfl (qf Gp rfl (ql AW rfl ?_)))
     refine BN h fun v8 a8 b8 h => qi HI Rm a8 (Ag b8) rfl (qk Qd rfl (qp rfl (qa rfl (AE (by kernel_rfl) ?_))))
     exact sn [] h
    ·refine qw 10 rfl (qp rfl (qa rfl (AE (by kernel_rfl) ?_)))
     exact sn [] h
   ·refine qw 9 rfl (qp rfl (qw 11 rfl (qp rfl (qa rfl (AE (by kernel_rfl) ?_)))))
    exact sn [] h
  ·obtain rfl := sj h
   refine Af (sm [] [(4, bD v3)] [] rfl rfl) (Aq ?_)
   exact ⟨⟨[_], tm, rfl⟩, tv⟩
theorem FM (N : Nat) (p0 : Ac) (r : Bool) (h : C6 N p0 = some r) : Ar zA 80 [.e (.agg (AM p0))] [] (bD r) := by
 unfold C6 at h
 refine cw (n := 11) (rs := [.tmp 2]) Tryz.func80 fun w0 S0 => ?_
 refine wq rfl (qb rfl (qe rfl ?_))
 refine AF h (fun v1 => mk [(2, bD v1)] []) (fun j1 h => ?_) (fun v1 h => ?_)
 ·refine Aj Aw rfl (qf B8 rfl (ql AW rfl (C9 rfl (qm rfl ?_))))
  refine Cp 6 h rfl (fun h => ?_) fun h => ?_
  ·refine qf B8 rfl (ql AW rfl (KT rfl (qp rfl (qe rfl ?_))))
   exact sn [] h
  ·refine qw 3 rfl (qp rfl (qe rfl ?_))
   exact sn [] h
 ·obtain rfl := sj h
  refine Af (sm [] [(2, bD v1)] [] rfl rfl) (Aq ?_)
  exact ⟨⟨[_], tm, rfl⟩, tv⟩
theorem F0 (N : Nat) (p0 : Ai) (p1 : Ac) (r : Bool) (h : BV N p0 p1 = some r) : DI zA 81 [oD (.ptr 90000 0), .e (.agg (AM p1))] [(.box (Az p0), .box (Az p0))] [] (bD r) := by
 unfold BV at h
 refine Dp (n := 66) (rs := [.tmp 4]) Tryz.func81 rfl rfl rfl (GZ rfl) (GZ rfl) rfl rfl (GZ rfl) rfl (GZ rfl) fun w0 S0 GL => ?_
 refine Af (sm [] [(0, oD (.ptr 90000 0)), (1, .e (.agg (AM p1)))] [(90000, .box (Az p0))] rfl rfl) (wq rfl (qb rfl (qa rfl (Ab (AR ?_)))))
 refine AF h (fun v1 => mk [(0, oD (.ptr 90000 0)), (3, oD (.ptr 3 0)), (23, bD v1)] [(3, .box (AM p1)), (90000, .box (Az p0))]) (fun j1 h => ?_) (fun v1 h => ?_)
 ·refine Aj Aw rfl (qf IW rfl (ql AW rfl (qm rfl (HS rfl (qf I4 rfl (ql AW rfl (BG rfl (qm rfl ?_))))))))
  refine Cp 12 h rfl (fun h => ?_) fun h => ?_
  ·refine qw 10 rfl (qp rfl (AE (by kernel_rfl) ?_))
   exact sn [] h
  ·refine qm rfl (HS rfl (qf I4 rfl (ql AW rfl (qm rfl (HS rfl (qf N7 rfl (ql Rh rfl (AH GB rfl (C9 rfl (qp rfl (AE (by kernel_rfl) ?_)))))))))))
   exact sn [] h
 ·refine Bb h (fun h => ?_) fun h => ?_
  ·refine wq rfl (qe rfl ?_)
   obtain rfl := sj h
   refine Af (sm [] [(4, bD false)] [(90000, .box (Az p0))] rfl rfl) (Aq ?_)
   exact ⟨⟨[_], tm, rfl⟩, ⟨rfl, tv⟩, tv⟩
  ·refine Ap (wp rfl (qf B8 rfl (ql AW rfl (Ab (AT (wq rfl (AN rfl (qe rfl ?_))))))))
   refine Bb h (fun h => ?_) fun h => ?_
   ·refine wq rfl (qm rfl (HS rfl (qf Hr rfl (ql AW rfl (AN rfl (qe rfl ?_))))))
    obtain rfl := sj h
    refine Af (sm [] [(4, bD ((p0.fB == 0)))] [(90000, .box (Az p0))] rfl rfl) (Aq ?_)
    exact ⟨⟨[_], tm, rfl⟩, ⟨rfl, tv⟩, tv⟩
   ·refine wq rfl (AN rfl (qe rfl ?_))
    refine Bb h (fun h => ?_) fun h => ?_
    ·refine wq rfl (qm rfl (HS rfl (qf Hr rfl (ql AW rfl (AN rfl (qe rfl ?_))))))
     obtain rfl := sj h
     refine Af (sm [] [(4, bD ((p0.fB == 1)))] [(90000, .box (Az p0))] rfl rfl) (Aq ?_)
     exact ⟨⟨[_], tm, rfl⟩, ⟨rfl, tv⟩, tv⟩
    ·refine wq rfl (AN rfl (qe rfl ?_))
     refine Bb h (fun h => ?_) fun h => ?_
     ·refine AF h (fun v7 => mk [(4, bD v7)] [(90000, .box (Az p0))]) (fun j7 h => ?_) (fun v7 h => ?_)
      ·refine Aj Aw rfl (qm rfl (HS rfl (qf Hr rfl (ql AW rfl (AN rfl (qm rfl ?_))))))
       refine Cp 47 h rfl (fun h => ?_) fun h => ?_
       ·refine qm rfl (HS rfl (qf N7 rfl (ql Rh rfl (qm rfl (HS rfl (qf I4 rfl (ql AW rfl ?_)))))))
        refine BN h fun v9 a9 b9 h => qi GB FR a9 (Ag b9) rfl (qg C0 rfl (qk AW rfl (AN rfl (qp rfl (qa rfl (AE (by kernel_rfl) ?_))))))
        exact sn [] h
       ·refine qw 12 rfl (qp rfl (qa rfl (AE (by kernel_rfl) ?_)))
        exact sn [] h
      ·obtain rfl := sj h
       refine Af (sm [] [(4, bD v7)] [(90000, .box (Az p0))] rfl rfl) (Aq ?_)
       exact ⟨⟨[_], tm, rfl⟩, ⟨rfl, tv⟩, tv⟩
     ·refine Ap (wq rfl (qm rfl (HS rfl (qf Hr rfl (ql AW rfl (AN rfl (qe rfl ?_)))))))
      obtain rfl := sj h
      refine Af (sm [] [(4, bD ((p0.fB == 2)))] [(90000, .box (Az p0))] rfl rfl) (Aq ?_)
      exact ⟨⟨[_], tm, rfl⟩, ⟨rfl, tv⟩, tv⟩
theorem IP (N : Nat) (p0 : A8) (p1 : Ac) (r : Bool × A8 × (List (Int × Int))) (h : De N p0 p1 = some r) : DI zA 66 [oD (.ptr 90000 0), .e (.agg (AM p1))] [(.box [iC p0.fF, iC p0.fG, .pure (.val (.bool p0.fH)), .mref 90001], .box [iC r.2.1.fF, iC r.2.1.fG, .pure (.val (.bool r.2.1.fH)), .mref 90001]), (.mp (D2 (Value.int .i64) F9 p0.fI), .mp (D2 (Value.int .i64) F9 r.2.2))] [] (bD r.1) := by
 unfold De at h
 refine Dp (n := 67) (rs := [.tmp 4]) Tryz.func66 rfl rfl rfl (GZ rfl) (GZ rfl) rfl rfl (GZ rfl) rfl (GZ rfl) fun w0 S0 GL => ?_
 refine Af (sm [] [(0, oD (.ptr 90000 0)), (1, .e (.agg (AM p1)))] [(90000, .box [iC p0.fF, iC p0.fG, .pure (.val (.bool p0.fH)), .mref 90001]), (90001, .mp (D2 (Value.int .i64) F9 p0.fI))] rfl rfl) (wq rfl (qb rfl (qe rfl ?_)))
 refine AF h (fun v1 => mk [] [(90000, .box [iC v1.2.1, iC v1.2.2.1, .pure (.val (.bool v1.2.2.2)), .mref 90001]), (90001, .mp (D2 (Value.int .i64) F9 v1.1))]) (fun j1 h => ?_) (fun v1 h => ?_)
 ·refine AT (wq rfl (qL E9 CY rfl ?_))
  refine B4 h fun v2 a2 h => Av [] (FM N p1 v2 a2) Th rfl (qe rfl ?_)
  refine Bb h (fun h => ?_) fun h => ?_
  ·refine wp rfl (qf Eg rfl (ql Ho rfl (qm rfl (HS rfl (qf Oq rfl (ql Ho rfl (A4 rfl (AE (by kernel_rfl) ?_))))))))
   refine Bb h (fun h => ?_) fun h => ?_
   ·refine wq rfl (qe rfl ?_)
    obtain rfl := sj h
    refine Af (sm [] [(4, bD false)] [(90000, .box [iC p0.fF, iC p0.fG, .pure (.val (.bool p0.fH)), .mref 90001]), (90001, .mp (D2 (Value.int .i64) F9 p0.fI))] rfl rfl) (Aq ?_)
    exact ⟨⟨[_], tm, rfl⟩, ⟨rfl, rfl, tv⟩, tv⟩
   ·refine Ap (Aj Aw rfl (qm rfl (qf Eg rfl (ql Ho rfl (HS rfl (qf Oq rfl (qs Iq rfl (Ab ?_))))))))
    exact sn [] h
  ·refine wq rfl (qf B8 rfl (ql AW rfl (AN rfl (qe rfl ?_))))
   refine Bb h (fun h => ?_) fun h => ?_
   ·refine wp rfl (qf Hx rfl (ql AW rfl (qm rfl (HS rfl (qf OQ rfl (ql Ug rfl (qf Gn rfl (ql AW rfl ?_))))))))
    refine Su (kv := (Value.int .i64)) (vt := F9) (m := p0.fI) (dv := 0) (.p rfl) rfl rfl rfl (Nj Pw VI) (by rw [Pw]; rfl) Ok rfl rfl rfl ?_
    refine A4 rfl (AE (by kernel_rfl) ?_)
    refine Bb h (fun h => ?_) fun h => ?_
    ·refine wq rfl (qe rfl ?_)
     obtain rfl := sj h
     refine Af (sm [] [(4, bD false)] [(90000, .box [iC p0.fF, iC p0.fG, .pure (.val (.bool p0.fH)), .mref 90001]), (90001, .mp (D2 (Value.int .i64) F9 p0.fI))] rfl rfl) (Aq ?_)
     exact ⟨⟨[_], tm, rfl⟩, ⟨rfl, rfl, tv⟩, tv⟩
    ·refine Ap (Aj Aw rfl (qm rfl (HS rfl (qf OQ rfl (ql Ug rfl (qf Gn rfl (ql AW rfl (qf Hx rfl (ql AW rfl ?_)))))))))
     refine SA (kv := (Value.int .i64)) (vt := F9) (m := p0.fI) (k := p1.ft) (v := p1.fD) rfl (.inl rfl) rfl rfl rfl rfl (Nj Pw VI) rfl ?_
     refine AE (by kernel_rfl) ?_
     exact sn [] h
   ·refine wq rfl (qf B8 rfl (ql AW rfl (AN rfl (qe rfl ?_))))
    refine Bb h (fun h => ?_) fun h => ?_
    ·refine AR ?_
     refine AF h (fun v8 => mk [(0, oD (.ptr 90000 0)), (3, oD (.ptr 3 0)), (58, bD v8)] [(3, .box (AM p1)), (90000, .box [iC p0.fF, iC p0.fG, .pure (.val (.bool p0.fH)), .mref 90001]), (90001, .mp (D2 (Value.int .i64) F9 p0.fI))]) (fun j8 h => ?_) (fun v8 h => ?_)
     ·refine Aj Aw rfl (qm rfl (HS rfl (qf OP rfl (ql Qd rfl (qm rfl ?_)))))
      refine Cp 50 h rfl (fun h => ?_) fun h => ?_
      ·refine qf Eg rfl (ql Ho rfl (qm rfl (HS rfl (qf O9 rfl (ql Ho rfl (KT rfl (qp rfl (AE (by kernel_rfl) ?_))))))))
       exact sn [] h
      ·refine qw 7 rfl (qp rfl (AE (by kernel_rfl) ?_))
       exact sn [] h
     ·refine Bb h (fun h => ?_) fun h => ?_
      ·refine wq rfl (qe rfl ?_)
       obtain rfl := sj h
       refine Af (sm [] [(4, bD false)] [(90000, .box [iC p0.fF, iC p0.fG, .pure (.val (.bool p0.fH)), .mref 90001]), (90001, .mp (D2 (Value.int .i64) F9 p0.fI))] rfl rfl) (Aq ?_)
       exact ⟨⟨[_], tm, rfl⟩, ⟨rfl, rfl, tv⟩, tv⟩
      ·refine Ap (Aj Aw rfl (qw 2 rfl (qf Eg rfl (ql Ho rfl (HS rfl (qf O9 rfl (qs Iq rfl (HS rfl (qf OP rfl (qs Rm rfl (Ab ?_)))))))))))
       exact sn [] h
    ·refine Ap ?_
     exact sn [] h
 ·refine wq rfl (qe rfl ?_)
  obtain rfl := sj h
  refine Af (sm [] [(4, bD true)] [(90000, .box [iC v1.2.1, iC v1.2.2.1, .pure (.val (.bool v1.2.2.2)), .mref 90001]), (90001, .mp (D2 (Value.int .i64) F9 v1.1))] rfl rfl) (Aq ?_)
  exact ⟨⟨[_], tm, rfl⟩, ⟨rfl, rfl, tv⟩, tv⟩
theorem Ms (N : Nat) (p0 : List Int) (p1 : Int) (r : Int) (h : Ej N p0 p1 = some r) : Ar zA 114 [pD (.sl (p0.map As)), iD p1] [] (iD r) := by
 unfold Ej at h
 refine cw (n := 22) (rs := [.tmp 4]) Tryz.func114 fun w0 S0 => ?_
 refine wq rfl (qa rfl (Ab (wp rfl (qm rfl (AH AA rfl (qm rfl (Ab ?_)))))))
 refine A5 (L := DJ N p0) h (fun v1 => mk [(1, iD v1.1), (7, pD (.sl (p0.map As))), (8, iD ((p0.length : Int))), (9, iD v1.2)] []) (fun v2 => mk [] []) (fun _ _ => rfl) (sm [] _ _ rfl rfl) (fun j1 n1 v1 h => ?_) (fun v2 s h hs => ?_)
 ·unfold DJ at h
  refine wq rfl (A4 rfl (Ab (AR ?_)))
  refine Bb h (fun h => ?_) fun h => ?_
  ·refine Ap (AR (AT (wq rfl (qm rfl ?_))))
   refine BN h fun v4 a4 b4 h => qi AA CK a4 (Ag b4) rfl (qk AW rfl (qa rfl (qa rfl (Ab (wp rfl (qw 2 rfl (A4 rfl (Ab ?_))))))))
   refine Bb h (fun h => ?_) fun h => ?_
   ·refine wq rfl (qm rfl (qe rfl ?_))
    obtain rfl := sj h
    refine Af (sm [] [(4, iD v1.2)] [] rfl rfl) (Aq ?_)
    exact ⟨⟨[_], tm, rfl⟩, tv⟩
   ·refine Ap (Aj Aw rfl (qw 2 rfl (J9 rfl (qa rfl (Ab (Aj Aw rfl (Cl rfl (qm rfl (Ab ?_)))))))))
    exact sn [] h
  ·refine BZ ?_
   exact sn [] h
 ·refine Af hs (wq rfl (qe rfl ?_))
  obtain rfl := sj h
  refine Af (sm [] [(4, iD ((-1)))] [] rfl rfl) (Aq ?_)
  exact ⟨⟨[_], tm, rfl⟩, tv⟩
theorem GG (N : Nat) (p0 : Ae) (p1 : Int) (p2 : Int) (r : Bool) (h : Cn N p0 p1 p2 = some r) : Ar zA 115 [.e (.agg (Bh p0)), iD p1, iD p2] [] (bD r) := by
 unfold Cn at h
 refine cw (n := 23) (rs := [.tmp 6]) Tryz.func115 fun w0 S0 => ?_
 refine wq rfl (qb rfl (qe rfl ?_))
 refine AF h (fun v1 => mk [(6, bD v1)] []) (fun j1 h => ?_) (fun v1 h => ?_)
 ·refine Aj Aw rfl (qf C4 rfl (ql Bd rfl (qm rfl ?_)))
  refine BN h fun v2 a2 b2 h => qi AA CK a2 (Ag b2) rfl (qk AW rfl (qm rfl (AN rfl (qm rfl ?_))))
  refine Cp 14 h rfl (fun h => ?_) fun h => ?_
  ·refine qw 7 rfl (qp rfl (qe rfl ?_))
   exact sn [] h
  ·refine qf BT rfl (ql Bd rfl (qm rfl ?_))
   refine BN h fun v4 a4 b4 h => qi AA CK a4 (Ag b4) rfl (qk AW rfl (qm rfl (AN rfl (qp rfl (qe rfl ?_)))))
   exact sn [] h
 ·obtain rfl := sj h
  refine Af (sm [] [(6, bD v1)] [] rfl rfl) (Aq ?_)
  exact ⟨⟨[_], tm, rfl⟩, tv⟩
theorem K3 (N : Nat) (p0 : Aa) (p1 : Ae) (p2 : Ac) (r : Bool) (h : DS N p0 p1 p2 = some r) : Ar zA 116 [.e (.agg (Ak p0)), .e (.agg (Bh p1)), .e (.agg (AM p2))] [] (bD r) := by
 unfold DS at h
 refine cw (n := 46) (rs := [.tmp 6]) Tryz.func116 fun w0 S0 => ?_
 refine wq rfl (qb rfl (qb rfl (qb rfl (qa rfl (Ab (wq rfl (qf BA rfl (ql EK rfl (qf Fs rfl (ql AW rfl ?_))))))))))
 refine BN h fun v1 a1 b1 h => qi CR BK a1 (Ag b1) rfl (qK Eu BK rfl (qz IC rfl (qs BK rfl (Ab (wp rfl (qL B0 AU rfl (qf FU rfl (ql AW rfl (qf Gp rfl (ql AW rfl ?_))))))))))
 refine B4 h fun v2 a2 h => Av [] (GG N p1 v1.fA p2.fC v2 a2) SG rfl (B9 rfl (Ab ?_))
 refine Bb h (fun h => ?_) fun h => ?_
 ·refine wq rfl (qe rfl ?_)
  obtain rfl := sj h
  refine Af (sm [] [(6, bD false)] [] rfl rfl) (Aq ?_)
  exact ⟨⟨[_], tm, rfl⟩, tv⟩
 ·refine Ap (AR ?_)
  refine AF h (fun v4 => mk [(4, oD (.ptr 4 0)), (5, oD (.ptr 5 0)), (7, oD (.ptr 7 0)), (28, bD v4)] [(4, .box (Bh p1)), (5, .box (AM p2)), (7, .box (CC v1))]) (fun j4 h => ?_) (fun v4 h => ?_)
  ·refine Aj Aw rfl (qf DX rfl (ql AW rfl (AN rfl (qm rfl ?_))))
   refine Cp 24 h rfl (fun h => ?_) fun h => ?_
   ·refine qw 3 rfl (qp rfl (Ab ?_))
    exact sn [] h
   ·refine qf DX rfl (ql AW rfl (AN rfl (qp rfl (Ab ?_))))
    exact sn [] h
  ·refine Bb h (fun h => ?_) fun h => ?_
   ·refine wq rfl (qf CF rfl (ql GV rfl (qf Fs rfl (ql AW rfl ?_))))
    refine BN h fun v7 a7 b7 h => qi DQ DR a7 (Ag b7) rfl (qk Hl rfl (qf Fp rfl (ql AW rfl ?_)))
    refine HL h fun c8 h => K1 rfl c8 (Nb rfl (AN rfl (qa rfl (AE (by kernel_rfl) ?_))))
    obtain rfl := sj h
    refine Af (sm [] [(6, bD (((Ft .u8 ((FG .u8 v7 p2.fw)) 1) == 1)))] [] rfl rfl) (Aq ?_)
    exact ⟨⟨[_], tm, rfl⟩, tv⟩
   ·refine Ap (wq rfl (qL B0 AU rfl (qf Cc rfl (ql AW rfl (qf Fp rfl (ql AW rfl ?_))))))
    refine B4 h fun v9 a9 h => Av [] (GG N p1 v1.fj p2.fw v9 a9) SG rfl (qe rfl ?_)
    obtain rfl := sj h
    refine Af (sm [] [(6, bD v9)] [] rfl rfl) (Aq ?_)
    exact ⟨⟨[_], tm, rfl⟩, tv⟩
theorem NO (N : Nat) (p0 : Aa) (p1 : Ae) (p2 : Am) (r : Ae × Int) (h : Fn N p0 p1 p2 = some r) : Ar zA 155 [.e (.agg (Ak p0)), .e (.agg (Bh p1)), .e (.agg (BQ p2))] [(1, r.1.fh.map As), (1, r.1.ff.map As), (1, r.1.fg.map Dm)] (.tup [.agg [.own 0, .own 1, .own 2], .one (iC r.2)]) := by
 unfold Fn at h
 refine cw (n := 22) (rs := [.cell 6 40, .tmp 7]) Tryz.func155 fun w0 S0 => ?_
 refine wq rfl (qb rfl (qb rfl (qb rfl (qz Dj rfl (qa rfl (Ab (wp rfl (qL DG DA rfl (qL B0 AU rfl ?_)))))))))
 refine B4 h fun v1 a1 h => Av [] (KX N p0 p1 v1 a1) TU rfl (qa rfl (Ab (wq rfl (qm rfl (BG rfl (Ab ?_))))))
 refine Bb h (fun h => ?_) fun h => ?_
 ·refine wq rfl (Bq Dj GS rfl (qm rfl (qs AU rfl (qe rfl ?_))))
  obtain rfl := sj h
  refine Af ((Ax 6 0 2001 1 _ rfl rfl rfl rfl).trans ((Ax 6 1 2002 1 _ rfl rfl rfl rfl).trans ((Ax 6 2 2003 1 _ rfl rfl rfl rfl).trans (sm [(1000, 2001), (1001, 2002), (1002, 2003)] [(6, oD (.ptr 6 0)), (7, iD v1)] [(6, .box [.own 1000, .own 1001, .own 1002]), (1000, .vec 1 ((([] : List Int)).map As)), (1001, .vec 1 ((([] : List Int)).map As)), (1002, .vec 1 ((([] : List Int)).map Dm))] rfl rfl)))) (Aq ?_)
  exact ⟨⟨[_, _], ⟨.cellN _ _ _ _ _ _ _ rfl rfl B0 AU rfl rfl (HQ rfl), tm⟩, rfl⟩, ⟨rfl, rfl, rfl, tv⟩⟩
 ·refine Ap (wq rfl (qL DG DA rfl (qL B0 AU rfl (qL In FR rfl ?_))))
  refine B4 h fun v3 a3 h => Av [2004, 2005, 2006] (JY N p0 p1 p2 v3 a3) Uf rfl (qx rfl (qx rfl (qs AU rfl (qe rfl ?_))))
  obtain rfl := sj h
  refine Af (sm [(1000, 2004), (1001, 2005), (1002, 2006)] [(6, oD (.ptr 6 0)), (7, iD v3.2)] [(6, .box [.own 1000, .own 1001, .own 1002]), (1000, .vec 1 (v3.1.fh.map As)), (1001, .vec 1 (v3.1.ff.map As)), (1002, .vec 1 (v3.1.fg.map Dm))] rfl rfl) (Aq ?_)
  exact ⟨⟨[_, _], ⟨.cellN _ _ _ _ _ _ _ rfl rfl B0 AU rfl rfl (HQ rfl), tm⟩, rfl⟩, ⟨rfl, rfl, rfl, tv⟩⟩
theorem EL (N : Nat) (p0 : Ai) (p1 : Am) (r : Ai) (h : B5 N p0 p1 = some r) : DI zA 117 [oD (.ptr 90000 0), .e (.agg (BQ p1))] [(.box (Az p0), .box (Az r))] [] (.tup []) := by
 unfold B5 at h
 refine Dp (n := 25) (rs := []) Tryz.func117 rfl rfl rfl (GZ rfl) (GZ rfl) rfl rfl (GZ rfl) rfl (GZ rfl) fun w0 S0 GL => T5 ?_
 refine Af (sm [] [(0, oD (.ptr 90000 0)), (1, .e (.agg (BQ p1)))] [(90000, .box (Az p0))] rfl rfl) (wq rfl (qb rfl (Ab (wq rfl (qm rfl (HS rfl (qf Ob rfl (qL DG DA rfl (qm rfl (HS rfl (qf J3 rfl (qL B0 AU rfl (qL In FR rfl ?_)))))))))))))
 refine B4 h fun v1 a1 h => Av [2001, 2002, 2003] (NO N ((Aa.mk p0.fd.fb p0.fd.fk p0.fd.fp p0.fd.fc)) ((Ae.mk p0.fe.fh p0.fe.ff p0.fe.fg)) p1 v1 a1) VY rfl (qm rfl (qx rfl (qx rfl (qz Dj rfl (qs AU rfl (qa rfl (AE (by kernel_rfl) (wq rfl (qm rfl (AN rfl (Ab ?_)))))))))))
 refine Bb h (fun h => ?_) fun h => ?_
 ·refine Aj Aw rfl (qm rfl (qL B0 AU rfl (HS rfl (qf J3 rfl (qs AU rfl (Ab ?_))))))
  obtain rfl := sj h
  refine ⟨_, ((Bi 2001 _ _ rfl rfl).trans ((Bi 2002 _ _ rfl rfl).trans ((Bi 2003 _ _ rfl rfl).trans (sm [] [] [(90000, .box [sC (p0.fd.fb.map As), sC (p0.fd.fk.map As), sC (p0.fd.fp.map As), sC (p0.fd.fc.map BD), sC (p0.fr.map AP), iC p0.fi, iC p0.fB, sC (v1.1.fh.map As), sC (v1.1.ff.map As), sC (v1.1.fg.map Dm)])] rfl rfl)))), ?_⟩
  exact ⟨⟨[], tv, rfl⟩, ⟨rfl, tv⟩, tv⟩
 ·refine Ap ?_
  obtain rfl := sj h
  refine ⟨_, (sm [] [] [(90000, .box (Az p0))] rfl rfl), ?_⟩
  exact ⟨⟨[], tv, rfl⟩, ⟨rfl, tv⟩, tv⟩
theorem FF (N : Nat) (p0 : Ai) (p1 : Ac) (r : Ai) (h : BP N p0 p1 = some r) : DI zA 82 [oD (.ptr 90000 0), .e (.agg (AM p1))] [(.box (Az p0), .box (Az r))] [] (.tup []) := by
 unfold BP at h
 refine Dp (n := 62) (rs := []) Tryz.func82 rfl rfl rfl (GZ rfl) (GZ rfl) rfl rfl (GZ rfl) rfl (GZ rfl) fun w0 S0 GL => T5 ?_
 refine Af (sm [] [(0, oD (.ptr 90000 0)), (1, .e (.agg (AM p1)))] [(90000, .box (Az p0))] rfl rfl) (wq rfl (qb rfl (Ab (wq rfl (qm rfl (HS rfl (qf N7 rfl (ql Rh rfl (qm rfl (HS rfl (qf I4 rfl (ql AW rfl ?_))))))))))))
 refine BN h fun v1 a1 b1 h => qi GB FR a1 (Ag b1) rfl (qK In FR rfl (qz OH rfl (qs FR rfl (AE (by kernel_rfl) (wq rfl (qf B8 rfl (ql AW rfl (Ab (AT (wq rfl (AN rfl (qe rfl ?_))))))))))))
 refine Bb h (fun h => ?_) fun h => ?_
 ·refine wq rfl (qm rfl (HS rfl (qf Hr rfl (qs CK rfl (Ab (wq rfl (qf C0 rfl (ql AW rfl (AN rfl (Ab ?_))))))))))
  refine Bb h (fun h => ?_) fun h => ?_
  ·refine Aj Aw rfl (qm rfl (qL In FR rfl ?_))
   refine B4 h fun v4 a4 h => Fq (ds0 := [_, _]) [90000] [] [true] (EL N ((Ai.mk ((Aa.mk p0.fd.fb p0.fd.fk p0.fd.fp p0.fd.fc)) p0.fr p0.fi 1 ((Ae.mk p0.fe.fh p0.fe.ff p0.fe.fg)))) v1 v4 a4) (.p rfl) Sl rfl ⟨rfl, rfl, tv⟩ rfl rfl (by decide) ⟨rfl, tv⟩ rfl (Db rfl) tv ⟨(fun h => by cases h), tv⟩ rfl rfl rfl ?_
   refine Ab ?_
   obtain rfl := sj h
   refine ⟨_, (sm [] [] [(90000, .box (Az v4))] rfl rfl), ?_⟩
   exact ⟨⟨[], tv, rfl⟩, ⟨rfl, tv⟩, tv⟩
  ·refine Ap ?_
   obtain rfl := sj h
   refine ⟨_, (sm [] [] [(90000, .box [sC (p0.fd.fb.map As), sC (p0.fd.fk.map As), sC (p0.fd.fp.map As), sC (p0.fd.fc.map BD), sC (p0.fr.map AP), iC p0.fi, iC 1, sC (p0.fe.fh.map As), sC (p0.fe.ff.map As), sC (p0.fe.fg.map Dm)])] rfl rfl), ?_⟩
   exact ⟨⟨[], tv, rfl⟩, ⟨rfl, tv⟩, tv⟩
 ·refine wq rfl (AN rfl (qe rfl ?_))
  refine Bb h (fun h => ?_) fun h => ?_
  ·refine AF h (fun v6 => mk [(0, oD (.ptr 90000 0))] [(90000, .box (Az v6))]) (fun j6 h => ?_) (fun v6 h => ?_)
   ·refine wq rfl (qf C0 rfl (ql AW rfl (BG rfl (Ab ?_))))
    refine Bb h (fun h => ?_) fun h => ?_
    ·refine Aj Aw rfl (qm rfl (qL In FR rfl ?_))
     refine B4 h fun v8 a8 h => Fq (ds0 := [_, _]) [90000] [] [true] (EL N ((Ai.mk ((Aa.mk p0.fd.fb p0.fd.fk p0.fd.fp p0.fd.fc)) p0.fr p0.fi p0.fB ((Ae.mk p0.fe.fh p0.fe.ff p0.fe.fg)))) v1 v8 a8) (.p rfl) Sl rfl ⟨rfl, rfl, tv⟩ rfl rfl (by decide) ⟨rfl, tv⟩ rfl (Db rfl) tv ⟨(fun h => by cases h), tv⟩ rfl rfl rfl ?_
     refine Ab ?_
     exact sn [] h
    ·refine Ap ?_
     exact sn [] h
   ·refine Aj Aw rfl (qw 3 rfl (HS rfl (qf I4 rfl (ql AW rfl (Cl rfl (HS rfl (qf I4 rfl (qs CK rfl (HS rfl (qf Hr rfl (qs CK rfl (Ab ?_))))))))))))
    obtain rfl := sj h
    refine ⟨_, (sm [] [] [(90000, .box [sC (v6.fd.fb.map As), sC (v6.fd.fk.map As), sC (v6.fd.fp.map As), sC (v6.fd.fc.map BD), sC (v6.fr.map AP), iC ((wI .i64 (v6.fi + 1))), iC 0, sC (v6.fe.fh.map As), sC (v6.fe.ff.map As), sC (v6.fe.fg.map Dm)])] rfl rfl), ?_⟩
    exact ⟨⟨[], tv, rfl⟩, ⟨rfl, tv⟩, tv⟩
  ·refine wq rfl (AN rfl (qe rfl ?_))
   refine Bb h (fun h => ?_) fun h => ?_
   ·refine Aj Aw rfl (qm rfl (HS rfl (qf Hr rfl (qs CK rfl (Ab ?_)))))
    obtain rfl := sj h
    refine ⟨_, (sm [] [] [(90000, .box [sC (p0.fd.fb.map As), sC (p0.fd.fk.map As), sC (p0.fd.fp.map As), sC (p0.fd.fc.map BD), sC (p0.fr.map AP), iC p0.fi, iC 2, sC (p0.fe.fh.map As), sC (p0.fe.ff.map As), sC (p0.fe.fg.map Dm)])] rfl rfl), ?_⟩
    exact ⟨⟨[], tv, rfl⟩, ⟨rfl, tv⟩, tv⟩
   ·refine wq rfl (AN rfl (qe rfl ?_))
    refine Bb h (fun h => ?_) fun h => ?_
    ·refine wq rfl (qm rfl (HS rfl (qf Hr rfl (qs CK rfl (Ab (Aj Aw rfl (qm rfl (qf DK rfl (ql AW rfl (Bq OH TF rfl ?_))))))))))
     refine B4 h fun v11 a11 h => Fq (ds0 := [_, _]) [90000] [] [true] (EL N ((Ai.mk ((Aa.mk p0.fd.fb p0.fd.fk p0.fd.fp p0.fd.fc)) p0.fr p0.fi 0 ((Ae.mk p0.fe.fh p0.fe.ff p0.fe.fg)))) ((Am.mk 4 v1.fm 0)) v11 a11) (.p rfl) Sl rfl ⟨rfl, rfl, tv⟩ rfl rfl (by decide) ⟨rfl, tv⟩ rfl (Db rfl) tv ⟨(fun h => by cases h), tv⟩ rfl rfl rfl ?_
     refine Ab ?_
     obtain rfl := sj h
     refine ⟨_, (sm [] [] [(90000, .box (Az v11))] rfl rfl), ?_⟩
     exact ⟨⟨[], tv, rfl⟩, ⟨rfl, tv⟩, tv⟩
    ·refine Ap ?_
     obtain rfl := sj h
     refine ⟨_, (sm [] [] [(90000, .box (Az p0))] rfl rfl), ?_⟩
     exact ⟨⟨[], tv, rfl⟩, ⟨rfl, tv⟩, tv⟩
theorem JQ (N : Nat) (p0 : Ai) (p1 : A8) (p2 : List Int) (p3 : Ac) (r : Int × Ai × A8 × (List (Int × Int))) (h : Di N p0 p1 p2 p3 = some r) : DI zA 73 [oD (.ptr 90000 0), oD (.ptr 90001 0), pD (.sl (p2.map As)), .e (.agg (AM p3))] [(.box (Az p0), .box (Az r.2.1)), (.box [iC p1.fF, iC p1.fG, .pure (.val (.bool p1.fH)), .mref 90002], .box [iC r.2.2.1.fF, iC r.2.2.1.fG, .pure (.val (.bool r.2.2.1.fH)), .mref 90002]), (.mp (D2 (Value.int .i64) F9 p1.fI), .mp (D2 (Value.int .i64) F9 r.2.2.2))] [] (iD r.1) := by
 unfold Di at h
 refine Dp (n := 79) (rs := [.tmp 8]) Tryz.func73 rfl rfl rfl (GZ rfl) (GZ rfl) rfl rfl (GZ rfl) rfl (GZ rfl) fun w0 S0 GL => ?_
 refine Af (sm [] [(0, oD (.ptr 90000 0)), (1, oD (.ptr 90001 0)), (2, pD (.sl (p2.map As))), (3, .e (.agg (AM p3)))] [(90000, .box (Az p0)), (90001, .box [iC p1.fF, iC p1.fG, .pure (.val (.bool p1.fH)), .mref 90002]), (90002, .mp (D2 (Value.int .i64) F9 p1.fI))] rfl rfl) (wq rfl (qb rfl (qe rfl ?_)))
 refine AF h (fun v1 => mk [] [(90000, .box (Az v1.2.1)), (90001, .box [iC v1.2.2.1, iC v1.2.2.2.1, .pure (.val (.bool v1.2.2.2.2)), .mref 90002]), (90002, .mp (D2 (Value.int .i64) F9 v1.1))]) (fun j1 h => ?_) (fun v1 h => ?_)
 ·refine AT ?_
  refine AF h (fun v2 => mk [(0, oD (.ptr 90000 0)), (1, oD (.ptr 90001 0)), (2, pD (.sl (p2.map As))), (7, oD (.ptr 7 0)), (10, bD v2)] [(7, .box (AM p3)), (90000, .box (Az p0)), (90001, .box [iC p1.fF, iC p1.fG, .pure (.val (.bool p1.fH)), .mref 90002]), (90002, .mp (D2 (Value.int .i64) F9 p1.fI))]) (fun j2 h => ?_) (fun v2 h => ?_)
  ·refine Aj Aw rfl (qf B8 rfl (ql AW rfl (AN rfl (qm rfl ?_))))
   refine Cp 14 h rfl (fun h => ?_) fun h => ?_
   ·refine qm rfl (HS rfl (qf Ob rfl (qL DG DA rfl (qL E9 CY rfl ?_))))
    refine B4 h fun v4 a4 h => Av [] (Oi N ((Aa.mk p0.fd.fb p0.fd.fk p0.fd.fp p0.fd.fc)) p3 v4 a4) Xb rfl (B9 rfl (qp rfl (qa rfl (AE (by kernel_rfl) ?_))))
    exact sn [] h
   ·refine qw 7 rfl (qp rfl (qa rfl (AE (by kernel_rfl) ?_)))
    exact sn [] h
  ·refine Bb h (fun h => ?_) fun h => ?_
   ·refine wq rfl (qe rfl ?_)
    obtain rfl := sj h
    refine Af (sm [] [(8, iD 1)] [(90000, .box (Az p0)), (90001, .box [iC p1.fF, iC p1.fG, .pure (.val (.bool p1.fH)), .mref 90002]), (90002, .mp (D2 (Value.int .i64) F9 p1.fI))] rfl rfl) (Aq ?_)
    exact ⟨⟨[_], tm, rfl⟩, ⟨rfl, rfl, rfl, tv⟩, tv⟩
   ·refine AF h (fun v6 => mk [(0, oD (.ptr 90000 0)), (1, oD (.ptr 90001 0)), (2, pD (.sl (p2.map As))), (7, oD (.ptr 7 0)), (23, bD v6)] [(7, .box (AM p3)), (90000, .box (Az p0)), (90001, .box [iC p1.fF, iC p1.fG, .pure (.val (.bool p1.fH)), .mref 90002]), (90002, .mp (D2 (Value.int .i64) F9 p1.fI))]) (fun j6 h => ?_) (fun v6 h => ?_)
    ·refine Aj Aw rfl (qL E9 CY rfl ?_)
     refine B4 h fun v7 a7 h => Av [] (FM N p3 v7 a7) Th rfl (qm rfl ?_)
     refine Cp 26 h rfl (fun h => ?_) fun h => ?_
     ·refine qm rfl (qL E9 CY rfl ?_)
      refine B4 h fun v9 a9 h => Fq (ds0 := [_, _]) [90000] [] [false] (F0 N ((Ai.mk ((Aa.mk p0.fd.fb p0.fd.fk p0.fd.fp p0.fd.fc)) p0.fr p0.fi p0.fB ((Ae.mk p0.fe.fh p0.fe.ff p0.fe.fg)))) p3 v9 a9) (.g rfl rfl) VF rfl ⟨rfl, rfl, tv⟩ rfl rfl (by decide) ⟨rfl, tv⟩ rfl (Db rfl) tv ⟨(fun _ => rfl), tv⟩ rfl rfl rfl ?_
      refine B9 rfl (qp rfl (qe rfl ?_))
      exact sn [] h
     ·refine qw 4 rfl (qp rfl (qe rfl ?_))
      exact sn [] h
    ·refine Bb h (fun h => ?_) fun h => ?_
     ·refine wq rfl (qe rfl ?_)
      obtain rfl := sj h
      refine Af (sm [] [(8, iD 2)] [(90000, .box (Az p0)), (90001, .box [iC p1.fF, iC p1.fG, .pure (.val (.bool p1.fH)), .mref 90002]), (90002, .mp (D2 (Value.int .i64) F9 p1.fI))] rfl rfl) (Aq ?_)
      exact ⟨⟨[_], tm, rfl⟩, ⟨rfl, rfl, rfl, tv⟩, tv⟩
     ·refine wq rfl (qm rfl (qL E9 CY rfl ?_))
      refine B4 h fun v11 a11 h => Fq (ds0 := [_, _]) [90001, 90002] [] [true, true] (IP N p1 p3 v11 a11) (.p rfl) W7 rfl ⟨rfl, rfl, tv⟩ rfl rfl (Es rfl) ⟨rfl, rfl, tv⟩ rfl (Db rfl) tv ⟨(fun h => by cases h), (fun h => by cases h), tv⟩ rfl rfl rfl ?_
      refine B9 rfl (qe rfl ?_)
      refine Bb h (fun h => ?_) fun h => ?_
      ·refine wq rfl (qe rfl ?_)
       obtain rfl := sj h
       refine Af (sm [] [(8, iD 3)] [(90000, .box (Az p0)), (90001, .box [iC v11.2.1.fF, iC v11.2.1.fG, .pure (.val (.bool v11.2.1.fH)), .mref 90002]), (90002, .mp (D2 (Value.int .i64) F9 v11.2.2))] rfl rfl) (Aq ?_)
       exact ⟨⟨[_], tm, rfl⟩, ⟨rfl, rfl, rfl, tv⟩, tv⟩
      ·refine wq rfl (qf B8 rfl (ql AW rfl (AN rfl (qe rfl ?_))))
       refine Bb h (fun h => ?_) fun h => ?_
       ·refine wq rfl (qm rfl (qf Gn rfl (ql AW rfl ?_)))
        refine B4 h fun v14 a14 h => Av [] (Ms N p2 p3.ft v14 a14) VA rfl (qe rfl ?_)
        refine AF h (fun v15 => mk [(57, bD v15)] [(90000, .box (Az p0)), (90001, .box [iC v11.2.1.fF, iC v11.2.1.fG, .pure (.val (.bool v11.2.1.fH)), .mref 90002]), (90002, .mp (D2 (Value.int .i64) F9 v11.2.2))]) (fun j15 h => ?_) (fun v15 h => ?_)
        ·refine Aj Aw rfl (qm rfl (A4 rfl (qm rfl ?_)))
         refine Cp 47 h rfl (fun h => ?_) fun h => ?_
         ·refine qw 9 rfl (qp rfl (AE (by kernel_rfl) ?_))
          exact sn [] h
         ·refine qm rfl (HS rfl (qf J3 rfl (qL B0 AU rfl (qm rfl (qf IX rfl (ql AW rfl ?_))))))
          refine B4 h fun v17 a17 h => Av [] (GG N ((Ae.mk p0.fe.fh p0.fe.ff p0.fe.fg)) v14 p3.fq v17 a17) SG rfl (B9 rfl (qp rfl (AE (by kernel_rfl) ?_)))
          exact sn [] h
        ·refine Bb h (fun h => ?_) fun h => ?_
         ·refine wq rfl (qe rfl ?_)
          obtain rfl := sj h
          refine Af (sm [] [(8, iD 4)] [(90000, .box (Az p0)), (90001, .box [iC v11.2.1.fF, iC v11.2.1.fG, .pure (.val (.bool v11.2.1.fH)), .mref 90002]), (90002, .mp (D2 (Value.int .i64) F9 v11.2.2))] rfl rfl) (Aq ?_)
          exact ⟨⟨[_], tm, rfl⟩, ⟨rfl, rfl, rfl, tv⟩, tv⟩
         ·refine Ap ?_
          exact sn [] h
       ·refine wq rfl (qf B8 rfl (ql AW rfl (AN rfl (qe rfl ?_))))
        refine Bb h (fun h => ?_) fun h => ?_
        ·refine wq rfl (qm rfl (HS rfl (qf Ob rfl (qL DG DA rfl (qm rfl (HS rfl (qf J3 rfl (qL B0 AU rfl (qL E9 CY rfl ?_)))))))))
         refine B4 h fun v20 a20 h => Av [] (K3 N ((Aa.mk p0.fd.fb p0.fd.fk p0.fd.fp p0.fd.fc)) ((Ae.mk p0.fe.fh p0.fe.ff p0.fe.fg)) p3 v20 a20) Wh rfl (B9 rfl (AE (by kernel_rfl) ?_))
         refine Bb h (fun h => ?_) fun h => ?_
         ·refine wq rfl (qe rfl ?_)
          obtain rfl := sj h
          refine Af (sm [] [(8, iD 5)] [(90000, .box (Az p0)), (90001, .box [iC v11.2.1.fF, iC v11.2.1.fG, .pure (.val (.bool v11.2.1.fH)), .mref 90002]), (90002, .mp (D2 (Value.int .i64) F9 v11.2.2))] rfl rfl) (Aq ?_)
          exact ⟨⟨[_], tm, rfl⟩, ⟨rfl, rfl, rfl, tv⟩, tv⟩
         ·refine Ap ?_
          exact sn [] h
        ·refine wq rfl (qL E9 CY rfl ?_)
         refine B4 h fun v22 a22 h => Av [] (FM N p3 v22 a22) Th rfl (qe rfl ?_)
         refine Bb h (fun h => ?_) fun h => ?_
         ·refine Aj Aw rfl (qm rfl (qL E9 CY rfl ?_))
          refine B4 h fun v24 a24 h => Fq (ds0 := [_, _]) [90000] [] [true] (FF N ((Ai.mk ((Aa.mk p0.fd.fb p0.fd.fk p0.fd.fp p0.fd.fc)) p0.fr p0.fi p0.fB ((Ae.mk p0.fe.fh p0.fe.ff p0.fe.fg)))) p3 v24 a24) (.p rfl) WD rfl ⟨rfl, rfl, tv⟩ rfl rfl (by decide) ⟨rfl, tv⟩ rfl (Db rfl) tv ⟨(fun h => by cases h), tv⟩ rfl rfl rfl ?_
          refine Ab ?_
          exact sn [] h
         ·refine Ap ?_
          exact sn [] h
 ·refine wq rfl (qe rfl ?_)
  obtain rfl := sj h
  refine Af (sm [] [(8, iD 0)] [(90000, .box (Az v1.2.1)), (90001, .box [iC v1.2.2.1, iC v1.2.2.2.1, .pure (.val (.bool v1.2.2.2.2)), .mref 90002]), (90002, .mp (D2 (Value.int .i64) F9 v1.1))] rfl rfl) (Aq ?_)
  exact ⟨⟨[_], tm, rfl⟩, ⟨rfl, rfl, rfl, tv⟩, tv⟩
theorem MG (N : Nat) (p0 : Aa) (p1 : List Int) (p2 : List Am) (p3 : List Ac) (r : Int × Int × (Option Ai) × Int) (h : E4 N p0 p1 p2 p3 = some r) : Ar zA 35 [.e (.agg (Ak p0)), pD (.sl (p1.map As)), pD (.sl (p2.map AP)), pD (.sl (p3.map AG))] [] (.tup [.one (iC r.1), .one (iC r.2.1), .one (.pure (.rp (xW EW r.2.2.1))), .one (iC r.2.2.2)]) := by
 unfold E4 at h
 refine cw (n := 69) (rs := [.tmp 8, .tmp 9, .tmp 10, .tmp 11]) Tryz.func35 fun w0 S0 => ?_
 refine wq rfl (qb rfl (qa rfl (qa rfl (qa rfl (qa rfl (Ab (wp rfl (qL DG DA rfl ?_))))))))
 refine B4 h fun v1 a1 h => Av [] (D9 N p0 v1 a1) TG rfl (qa rfl (Ab (wq rfl (qm rfl (BG rfl (Ab ?_))))))
 refine Bb h (fun h => ?_) fun h => ?_
 ·refine wq rfl (qm rfl (qa rfl (qa rfl (qa rfl (qe rfl ?_)))))
  obtain rfl := sj h
  refine Af (sm [] [(8, iD 0), (9, iD 0), (10, pD (.rp none)), (11, iD v1)] [] rfl rfl) (Aq ?_)
  exact ⟨⟨[_, _, _, _], ⟨.tmp _ _ rfl, ⟨.tmp _ _ rfl, ⟨.tmp _ _ rfl, tm⟩⟩⟩, rfl⟩, tv⟩
 ·refine Ap (wp rfl (qL DG DA rfl (qm rfl ?_)))
  refine B4 h fun v3 a3 h => Av [] (K7 N p0 p1 v3 a3) Xc rfl (qa rfl (Ab (wq rfl (qm rfl (BG rfl (Ab ?_))))))
  refine Bb h (fun h => ?_) fun h => ?_
  ·refine wq rfl (qm rfl (qa rfl (qa rfl (qa rfl (qe rfl ?_)))))
   obtain rfl := sj h
   refine Af (sm [] [(8, iD 0), (9, iD 0), (10, pD (.rp none)), (11, iD v3)] [] rfl rfl) (Aq ?_)
   exact ⟨⟨[_, _, _, _], ⟨.tmp _ _ rfl, ⟨.tmp _ _ rfl, ⟨.tmp _ _ rfl, tm⟩⟩⟩, rfl⟩, tv⟩
  ·refine Ap (wq rfl (qL DG DA rfl (qm rfl ?_)))
   refine B4 h fun v5 a5 h => Av [] (Hy N p0 p2 v5 a5) Vw rfl (qm rfl (qx rfl (qx rfl (qz Dj rfl (qs AU rfl (qe rfl ?_))))))
   refine AF h (fun v6 => mk [(1, pD (.sl (p1.map As))), (2, pD (.sl (p2.map AP))), (3, pD (.sl (p3.map AG))), (4, oD (.ptr 4 0)), (14, oD (.ptr 14 0)), (15, iD v6)] [(4, .box (Ak p0)), (14, .box (Bh v5.1))]) (fun j6 h => ?_) (fun v6 h => ?_)
   ·refine wq rfl (qm rfl (AN rfl (Ab ?_)))
    refine Bb h (fun h => ?_) fun h => ?_
    ·refine Aj Aw rfl (qm rfl ?_)
     refine B4 h fun v8 a8 h => Av [] (Gr N p3 v8 a8) UC rfl (qe rfl ?_)
     exact sn [] h
    ·refine Ap ?_
     exact sn [] h
   ·refine wp rfl (qm rfl (BG rfl (Ab ?_)))
    refine Bb h (fun h => ?_) fun h => ?_
    ·refine wq rfl (qm rfl (qa rfl (qa rfl (qa rfl (qe rfl ?_)))))
     obtain rfl := sj h
     refine Af (sm [] [(8, iD 0), (9, iD 0), (10, pD (.rp none)), (11, iD v6)] [] rfl rfl) (Aq ?_)
     exact ⟨⟨[_, _, _, _], ⟨.tmp _ _ rfl, ⟨.tmp _ _ rfl, ⟨.tmp _ _ rfl, tm⟩⟩⟩, rfl⟩, tv⟩
    ·refine Ap (wq rfl (qL DG DA rfl (qm rfl (qL B0 AU rfl (Bq V3 Wy rfl (qb rfl (qa rfl (Ab (wq rfl ?_)))))))))
     refine B4 h fun v10 a10 h => Fq (ds0 := []) [] [2001, 2002] [] (JM N v10 a10) (.p rfl) Xr rfl tv rfl rfl (by decide) tv rfl (Db rfl) ⟨rfl, rfl, tv⟩ tv rfl rfl rfl ?_
     refine F4 (sm [] [(1, pD (.sl (p1.map As))), (2, pD (.sl (p2.map AP))), (3, pD (.sl (p3.map AG))), (4, oD (.ptr 4 0)), (14, oD (.ptr 14 0)), (15, iD v6), (16, oD (.ptr 49 0)), (42, iD v6), (43, bD ((v6 != 0))), (45, .e (.agg (Ak p0))), (46, pD (.sl (p2.map AP))), (47, .e (.agg (Bh v5.1))), (48, .e (.agg [sC (p0.fb.map As), sC (p0.fk.map As), sC (p0.fp.map As), sC (p0.fc.map BD), sC (p2.map AP), iC 0, iC 0, sC (v5.1.fh.map As), sC (v5.1.ff.map As), sC (v5.1.fg.map Dm)])), (49, oD (.ptr 49 0)), (50, oD (.ptr 2001 0))] [(4, .box (Ak p0)), (14, .box (Bh v5.1)), (49, .box [sC (p0.fb.map As), sC (p0.fk.map As), sC (p0.fp.map As), sC (p0.fc.map BD), sC (p2.map AP), iC 0, iC 0, sC (v5.1.fh.map As), sC (v5.1.ff.map As), sC (v5.1.fg.map Dm)]), (2001, .box [iC v10.fF, iC v10.fG, .pure (.val (.bool v10.fH)), .mref 2002]), (2002, .mp (D2 (Value.int .i64) F9 v10.fI))] rfl rfl) (qa rfl (Ab (wp rfl (qm rfl (AH D0 rfl (qm rfl (Ab ?_)))))))
     refine A5 (L := Dh N p1 p3) h (fun v11 => mk [(1, pD (.sl (p1.map As))), (16, oD (.ptr 49 0)), (17, oD (.ptr 2001 0)), (51, pD (.sl (p3.map AG))), (52, iD ((p3.length : Int))), (53, iD v11.2.2.2.2.2)] [(49, .box (Az v11.1)), (2001, .box [iC v11.2.1, iC v11.2.2.1, .pure (.val (.bool v11.2.2.2.1)), .mref 2003]), (2003, .mp (D2 (Value.int .i64) F9 v11.2.2.2.2.1))]) (fun v12 => mk [(16, oD (.ptr 49 0))] [(49, .box (Az v12))]) (fun _ _ => rfl) (sm [(2003, 2002)] _ _ rfl rfl) (fun j11 n11 v11 h => ?_) (fun v12 s h hs => ?_)
     ·unfold Dh at h
      refine wq rfl (A4 rfl (Ab (AR ?_)))
      refine Bb h (fun h => ?_) fun h => ?_
      ·refine Ap (AR (AT (wq rfl (qm rfl ?_))))
       refine BN h fun v14 a14 b14 h => qi D0 CY a14 (Ag b14) rfl (qK E9 CY rfl (qz IR rfl (qa rfl (qs CY rfl (Ab (wq rfl (qw 3 rfl (qL E9 CY rfl ?_))))))))
       refine B4 h fun v15 a15 h => Fq (ds0 := [_, _, _, _]) [49, 2001, 2003] [] [true, true, true] (JQ N ((Ai.mk ((Aa.mk v11.1.fd.fb v11.1.fd.fk v11.1.fd.fp v11.1.fd.fc)) v11.1.fr v11.1.fi v11.1.fB ((Ae.mk v11.1.fe.fh v11.1.fe.ff v11.1.fe.fg)))) ((A8.mk v11.2.1 v11.2.2.1 v11.2.2.2.1 v11.2.2.2.2.1)) p1 v14 v15 a15) (.p rfl) WR rfl ⟨rfl, rfl, rfl, rfl, tv⟩ rfl rfl (Es rfl) ⟨rfl, rfl, rfl, tv⟩ rfl (Db rfl) tv ⟨(fun h => by cases h), (fun h => by cases h), (fun h => by cases h), tv⟩ rfl rfl rfl ?_
       refine qa rfl (Ab (wq rfl (qm rfl (BG rfl (Ab ?_)))))
       refine Bb h (fun h => ?_) fun h => ?_
       ·refine wq rfl (qw 2 rfl (qa rfl (qa rfl (qa rfl (qe rfl ?_)))))
        obtain rfl := sj h
        refine Af (sm [] [(8, iD v11.2.2.2.2.2), (9, iD v15.1), (10, pD (.rp none)), (11, iD 0)] [] rfl rfl) (Aq ?_)
        exact ⟨⟨[_, _, _, _], ⟨.tmp _ _ rfl, ⟨.tmp _ _ rfl, ⟨.tmp _ _ rfl, tm⟩⟩⟩, rfl⟩, tv⟩
       ·refine Ap (Aj Aw rfl (Cl rfl (qm rfl (Ab ?_))))
        exact sn [] h
      ·refine BZ ?_
       exact sn [] h
     ·refine Af hs (wq rfl (qm rfl (qa rfl (qa rfl (qa rfl (qe rfl ?_))))))
      obtain rfl := sj h
      refine Af ((IM 49 [.sl (v12.fd.fb.map As), .sl (v12.fd.fk.map As), .sl (v12.fd.fp.map As), .sl (v12.fd.fc.map BD), .sl (v12.fr.map AP), .val (.int .i64 v12.fi), .val (.int .i64 v12.fB), .sl (v12.fe.fh.map As), .sl (v12.fe.ff.map As), .sl (v12.fe.fg.map Dm)] rfl rfl).trans ((NQ 10 _ rfl).trans (sm [] [(8, iD 0), (9, iD 0), (10, pD (.rp (xW EW ((some ((Ai.mk ((Aa.mk v12.fd.fb v12.fd.fk v12.fd.fp v12.fd.fc)) v12.fr v12.fi v12.fB ((Ae.mk v12.fe.fh v12.fe.ff v12.fe.fg))))))))), (11, iD 15)] [] rfl rfl))) (Aq ?_)
      exact ⟨⟨[_, _, _, _], ⟨.tmp _ _ rfl, ⟨.tmp _ _ rfl, ⟨.tmp _ _ rfl, tm⟩⟩⟩, rfl⟩, tv⟩
theorem Hz (N : Nat) (p0 : Aa) (p1 : List Int) (p2 : List Am) (p3 : List Ac) (r : Int × Int × Int) (h : Dt N p0 p1 p2 p3 = some r) : Ar zA 13 [.e (.agg (Ak p0)), pD (.sl (p1.map As)), pD (.sl (p2.map AP)), pD (.sl (p3.map AG))] [] (.tup [.one (iC r.1), .one (iC r.2.1), .one (iC r.2.2)]) := by
 unfold Dt at h
 refine cw (n := 28) (rs := [.tmp 8, .tmp 9, .tmp 10]) Tryz.func13 fun w0 S0 => ?_
 refine wq rfl (qb rfl (qa rfl (qa rfl (qa rfl (Ab (wq rfl (qL DG DA rfl (qw 3 rfl ?_))))))))
 refine B4 h fun v1 a1 h => Av [] (MG N p0 p1 p2 p3 v1 a1) Xm rfl (qm rfl (qx rfl (qx rfl (qx rfl (qx rfl (qa rfl (qa rfl (qa rfl (qa rfl (Ab (wq rfl (qw 3 rfl (qa rfl (qa rfl (qe rfl ?_)))))))))))))))
 obtain rfl := sj h
 refine Af (sm [] [(8, iD v1.1), (9, iD v1.2.1), (10, iD v1.2.2.2)] [] rfl rfl) (Aq ?_)
 exact ⟨⟨[_, _, _], ⟨.tmp _ _ rfl, ⟨.tmp _ _ rfl, tm⟩⟩, rfl⟩, tv⟩
theorem Ky (N : Nat) (p0 : Aa) (p1 : List Am) (p2 : List Ac) (r : (Option Ai) × Int × Int) (h : F2 N p0 p1 p2 = some r) : Ar zA 39 [.e (.agg (Ak p0)), pD (.sl (p1.map AP)), pD (.sl (p2.map AG))] [] (.tup [.one (.pure (.rp (xW EW r.1))), .one (iC r.2.1), .one (iC r.2.2)]) := by
 unfold F2 at h
 refine cw (n := 59) (rs := [.tmp 6, .tmp 7, .tmp 8]) Tryz.func39 fun w0 S0 => ?_
 refine wq rfl (qb rfl (qa rfl (qa rfl (qa rfl (Ab (wp rfl (qL DG DA rfl ?_)))))))
 refine B4 h fun v1 a1 h => Av [] (D9 N p0 v1 a1) TG rfl (qa rfl (Ab (wq rfl (qm rfl (BG rfl (Ab ?_))))))
 refine Bb h (fun h => ?_) fun h => ?_
 ·refine wq rfl (qm rfl (qa rfl (qa rfl (qe rfl ?_))))
  obtain rfl := sj h
  refine Af (sm [] [(6, pD (.rp none)), (7, iD 0), (8, iD v1)] [] rfl rfl) (Aq ?_)
  exact ⟨⟨[_, _, _], ⟨.tmp _ _ rfl, ⟨.tmp _ _ rfl, tm⟩⟩, rfl⟩, tv⟩
 ·refine Ap (wq rfl (qL DG DA rfl (qm rfl ?_)))
  refine B4 h fun v3 a3 h => Av [] (Hy N p0 p1 v3 a3) Vw rfl (qm rfl (qx rfl (qx rfl (qz Dj rfl (qs AU rfl (qe rfl ?_))))))
  refine AF h (fun v4 => mk [(1, pD (.sl (p1.map AP))), (2, pD (.sl (p2.map AG))), (3, oD (.ptr 3 0)), (10, oD (.ptr 10 0)), (11, iD v4)] [(3, .box (Ak p0)), (10, .box (Bh v3.1))]) (fun j4 h => ?_) (fun v4 h => ?_)
  ·refine wq rfl (qm rfl (AN rfl (Ab ?_)))
   refine Bb h (fun h => ?_) fun h => ?_
   ·refine Aj Aw rfl (qm rfl ?_)
    refine B4 h fun v6 a6 h => Av [] (Gr N p2 v6 a6) UC rfl (qe rfl ?_)
    exact sn [] h
   ·refine Ap ?_
    exact sn [] h
  ·refine wp rfl (qm rfl (BG rfl (Ab ?_)))
   refine Bb h (fun h => ?_) fun h => ?_
   ·refine wq rfl (qm rfl (qa rfl (qa rfl (qe rfl ?_))))
    obtain rfl := sj h
    refine Af (sm [] [(6, pD (.rp none)), (7, iD 0), (8, iD v4)] [] rfl rfl) (Aq ?_)
    exact ⟨⟨[_, _, _], ⟨.tmp _ _ rfl, ⟨.tmp _ _ rfl, tm⟩⟩, rfl⟩, tv⟩
   ·refine Ap (wq rfl (qL DG DA rfl (qm rfl (qL B0 AU rfl (Bq V3 Wy rfl (qb rfl (qa rfl (Ab (wp rfl (qm rfl (AH D0 rfl (qm rfl (Ab ?_)))))))))))))
    refine A5 (L := D5 N p2) h (fun v8 => mk [(12, oD (.ptr 37 0)), (38, pD (.sl (p2.map AG))), (39, iD ((p2.length : Int))), (40, iD v8.2)] [(37, .box (Az v8.1))]) (fun v9 => mk [(12, oD (.ptr 37 0))] [(37, .box (Az v9))]) (fun _ _ => rfl) (sm [] _ _ rfl rfl) (fun j8 n8 v8 h => ?_) (fun v9 s h hs => ?_)
    ·unfold D5 at h
     refine wq rfl (A4 rfl (Ab (AR ?_)))
     refine Bb h (fun h => ?_) fun h => ?_
     ·refine Ap ?_
      refine AF h (fun v11 => mk [(12, oD (.ptr 37 0)), (38, pD (.sl (p2.map AG))), (39, iD ((p2.length : Int))), (40, iD v8.2)] [(37, .box (Az v11))]) (fun j11 h => ?_) (fun v11 h => ?_)
      ·refine AT (wq rfl (qm rfl ?_))
       refine BN h fun v12 a12 b12 h => qi D0 CY a12 (Ag b12) rfl (qK E9 CY rfl (qz IR rfl (qa rfl (qs CY rfl (Ab (wp rfl (qL E9 CY rfl ?_)))))))
       refine B4 h fun v13 a13 h => Av [] (FM N v12 v13 a13) Th rfl (B9 rfl (Ab ?_))
       refine Bb h (fun h => ?_) fun h => ?_
       ·refine BZ ?_
        exact sn [] h
       ·refine Ap (wp rfl (qm rfl (qL E9 CY rfl ?_)))
        refine B4 h fun v15 a15 h => Fq (ds0 := [_, _]) [37] [] [false] (F0 N ((Ai.mk ((Aa.mk v8.1.fd.fb v8.1.fd.fk v8.1.fd.fp v8.1.fd.fc)) v8.1.fr v8.1.fi v8.1.fB ((Ae.mk v8.1.fe.fh v8.1.fe.ff v8.1.fe.fg)))) v12 v15 a15) (.p rfl) VF rfl ⟨rfl, rfl, tv⟩ rfl rfl (by decide) ⟨rfl, tv⟩ rfl (Db rfl) tv ⟨(fun _ => rfl), tv⟩ rfl rfl rfl ?_
        refine B9 rfl (Ab ?_)
        refine Bb h (fun h => ?_) fun h => ?_
        ·refine wq rfl (qw 2 rfl (qa rfl (qa rfl (qe rfl ?_))))
         obtain rfl := sj h
         refine Af ((IM 37 [.sl (v8.1.fd.fb.map As), .sl (v8.1.fd.fk.map As), .sl (v8.1.fd.fp.map As), .sl (v8.1.fd.fc.map BD), .sl (v8.1.fr.map AP), .val (.int .i64 v8.1.fi), .val (.int .i64 v8.1.fB), .sl (v8.1.fe.fh.map As), .sl (v8.1.fe.ff.map As), .sl (v8.1.fe.fg.map Dm)] rfl rfl).trans ((NQ 6 _ rfl).trans (sm [] [(6, pD (.rp (xW EW ((some ((Ai.mk ((Aa.mk v8.1.fd.fb v8.1.fd.fk v8.1.fd.fp v8.1.fd.fc)) v8.1.fr v8.1.fi v8.1.fB ((Ae.mk v8.1.fe.fh v8.1.fe.ff v8.1.fe.fg))))))))), (7, iD v8.2), (8, iD 0)] [] rfl rfl))) (Aq ?_)
         exact ⟨⟨[_, _, _], ⟨.tmp _ _ rfl, ⟨.tmp _ _ rfl, tm⟩⟩, rfl⟩, tv⟩
        ·refine Ap (Aj Aw rfl (qm rfl (qL E9 CY rfl ?_)))
         refine B4 h fun v17 a17 h => Fq (ds0 := [_, _]) [37] [] [true] (FF N ((Ai.mk ((Aa.mk v8.1.fd.fb v8.1.fd.fk v8.1.fd.fp v8.1.fd.fc)) v8.1.fr v8.1.fi v8.1.fB ((Ae.mk v8.1.fe.fh v8.1.fe.ff v8.1.fe.fg)))) v12 v17 a17) (.p rfl) WD rfl ⟨rfl, rfl, tv⟩ rfl rfl (by decide) ⟨rfl, tv⟩ rfl (Db rfl) tv ⟨(fun h => by cases h), tv⟩ rfl rfl rfl ?_
         refine Ab ?_
         exact sn [] h
      ·refine Aj Aw rfl (Cl rfl (qm rfl (Ab ?_)))
       exact sn [] h
     ·refine BZ ?_
      exact sn [] h
    ·refine Af hs (wq rfl (qm rfl (qa rfl (qa rfl (qe rfl ?_)))))
     obtain rfl := sj h
     refine Af ((IM 37 [.sl (v9.fd.fb.map As), .sl (v9.fd.fk.map As), .sl (v9.fd.fp.map As), .sl (v9.fd.fc.map BD), .sl (v9.fr.map AP), .val (.int .i64 v9.fi), .val (.int .i64 v9.fB), .sl (v9.fe.fh.map As), .sl (v9.fe.ff.map As), .sl (v9.fe.fg.map Dm)] rfl rfl).trans ((NQ 6 _ rfl).trans (sm [] [(6, pD (.rp (xW EW ((some ((Ai.mk ((Aa.mk v9.fd.fb v9.fd.fk v9.fd.fp v9.fd.fc)) v9.fr v9.fi v9.fB ((Ae.mk v9.fe.fh v9.fe.ff v9.fe.fg))))))))), (7, iD ((-1))), (8, iD 0)] [] rfl rfl))) (Aq ?_)
     exact ⟨⟨[_, _, _], ⟨.tmp _ _ rfl, ⟨.tmp _ _ rfl, tm⟩⟩, rfl⟩, tv⟩
theorem OL (N : Nat) (p0 : Aa) (p1 : List Am) (p2 : List Ac) (r : Ae × Int) (h : H5 N p0 p1 p2 = some r) : Ar zA 16 [.e (.agg (Ak p0)), pD (.sl (p1.map AP)), pD (.sl (p2.map AG))] [] (.tup [.agg (Bh r.1), .one (iC r.2)]) := by
 unfold H5 at h
 refine cw (n := 32) (rs := [.cell 6 40, .tmp 7]) Tryz.func16 fun w0 S0 => ?_
 refine wq rfl (qb rfl (qz Dj rfl (qa rfl (Ab (wq rfl (qL DG DA rfl (qw 2 rfl ?_)))))))
 refine B4 h fun v1 a1 h => Av [] (Ky N p0 p1 p2 v1 a1) WP rfl (qm rfl (qx rfl (qx rfl (qx rfl (qa rfl (qa rfl (qa rfl (Ab (AR (AT (wq rfl (qm rfl (BG rfl (qe rfl ?_))))))))))))))
 refine Bb h (fun h => ?_) fun h => ?_
 ·refine wq rfl (Bq Dj GS rfl (qm rfl (qs AU rfl (qe rfl ?_))))
  obtain rfl := sj h
  refine Af ((I1 6 _ rfl).trans (sm [] [(6, oD (.ptr 6 0)), (7, iD v1.2.2)] [(6, .box [sC ((([] : List Int)).map As), sC ((([] : List Int)).map As), sC ((([] : List Int)).map Dm)])] rfl rfl)) (Aq ?_)
  exact ⟨⟨[_, _], ⟨.cellN _ _ _ _ _ _ _ rfl rfl B0 AU rfl rfl (HQ rfl), tm⟩, rfl⟩, tv⟩
 ·refine wq rfl (qm rfl (C9 rfl (qe rfl ?_)))
  refine Bb h (fun h => ?_) fun h => ?_
  ·refine wq rfl (Bq Dj GS rfl (qs AU rfl (qe rfl ?_)))
   obtain rfl := sj h
   refine Af ((I1 6 _ rfl).trans (sm [] [(6, oD (.ptr 6 0)), (7, iD 11)] [(6, .box [sC ((([] : List Int)).map As), sC ((([] : List Int)).map As), sC ((([] : List Int)).map Dm)])] rfl rfl)) (Aq ?_)
   exact ⟨⟨[_, _], ⟨.cellN _ _ _ _ _ _ _ rfl rfl B0 AU rfl rfl (HQ rfl), tm⟩, rfl⟩, tv⟩
  ·refine Ap (wq rfl (qm rfl ?_))
   refine B4 h fun v4 a4 h => F4 (Sr 28 _ _ rfl (by rw [a4]; rfl)) ?_
   refine OF (.p rfl) rfl ?_
   refine qg J3 rfl (qK B0 AU rfl (qs AU rfl (qe rfl ?_)))
   obtain rfl := sj h
   refine Af (sm [] [(6, oD (.ptr 6 0)), (7, iD 0)] [(6, .box (Bh v4.fe))] rfl rfl) (Aq ?_)
   exact ⟨⟨[_, _], ⟨.cellN _ _ _ _ _ _ _ rfl rfl B0 AU rfl rfl (HQ rfl), tm⟩, rfl⟩, tv⟩
def Qo : Go.Shelf.Ren := ⟨fun | 129 => 182 | 173 => 125 | 246 => 126 | 283 => 159 | 284 => 160 | 285 => 161 | 286 => 162 | 317 => 181 | 318 => 183 | 319 => 184 | 320 => 185 | 337 => 194 | 338 => 195 | n => n, fun | 0 => 0 | 2 => 2 | 3 => 3 | 4 => 4 | 5 => 5 | 9 => 9 | 20 => 20 | 37 => 47 | 46 => 234 | 51 => 242 | 53 => 214 | 171 => 213 | 173 => 217 | 212 => 241 | 213 => 243 | 232 => 261 | 233 => 262 | n => n, fun | 17 => 0 | 18 => 1 | 19 => 2 | n => n⟩
theorem Tz : LaysM.n173 zA Qo := { mixed := Aw, f129 := Tryz.func182.trans (congrArg some (by kernel_rfl)), f173 := Tryz.func125.trans (congrArg some (by kernel_rfl)), f246 := Tryz.func126.trans (congrArg some (by kernel_rfl)), f283 := Tryz.func159.trans (congrArg some (by kernel_rfl)), f284 := Tryz.func160.trans (congrArg some (by kernel_rfl)), f285 := Tryz.func161.trans (congrArg some (by kernel_rfl)), f286 := Tryz.func162.trans (congrArg some (by kernel_rfl)), f317 := Tryz.func181.trans (congrArg some (by kernel_rfl)), f318 := Tryz.func183.trans (congrArg some (by kernel_rfl)), f319 := Tryz.func184.trans (congrArg some (by kernel_rfl)), f320 := Tryz.func185.trans (congrArg some (by kernel_rfl)), f337 := Tryz.func194.trans (congrArg some (by kernel_rfl)), f338 := Tryz.func195.trans (congrArg some (by kernel_rfl)), t0 := Tryz.underlying0, a0 := Tryz.isAgg0, z0 := Tryz.sizeOf0, v0 := Tryz.zeroValue0, t2 := Tryz.underlying2, a2 := Tryz.isAgg2, z2 := Tryz.sizeOf2, v2 := Tryz.zeroValue2, t3 := Tryz.underlying3, a3 := Tryz.isAgg3, z3 := Tryz.sizeOf3, v3 := Tryz.zeroValue3, t4 := Tryz.underlying4, a4 := Tryz.isAgg4, z4 := Tryz.sizeOf4, v4 := Tryz.zeroValue4, t5 := Tryz.underlying5, a5 := Tryz.isAgg5, z5 := Tryz.sizeOf5, v5 := Tryz.zeroValue5, t9 := Tryz.underlying9, a9 := Tryz.isAgg9, z9 := Tryz.sizeOf9, v9 := Tryz.zeroValue9, t20 := Tryz.underlying20, a20 := Tryz.isAgg20, z20 := Tryz.sizeOf20, v20 := Tryz.zeroValue20, t37 := Tryz.underlying47, a37 := Tryz.isAgg47, z37 := Tryz.sizeOf47, v37 := Tryz.zeroValue47, t46 := Tryz.underlying234, a46 := Tryz.isAgg234, z46 := Tryz.sizeOf234, v46 := Tryz.zeroValue234, t51 := Tryz.underlying242, a51 := Tryz.isAgg242, z51 := Tryz.sizeOf242, v51 := Tryz.zeroValue242, t53 := Tryz.underlying214, a53 := Tryz.isAgg214, z53 := Tryz.sizeOf214, v53 := Tryz.zeroValue214, t171 := Tryz.underlying213, a171 := Tryz.isAgg213, z171 := Tryz.sizeOf213, v171 := Tryz.zeroValue213, t173 := Tryz.underlying217, a173 := Tryz.isAgg217, z173 := Tryz.sizeOf217, v173 := Tryz.zeroValue217, t212 := Tryz.underlying241, a212 := Tryz.isAgg241, z212 := Tryz.sizeOf241, v212 := Tryz.zeroValue241, t213 := Tryz.underlying243, a213 := Tryz.isAgg243, z213 := Tryz.sizeOf243, t232 := Tryz.underlying261, a232 := Tryz.isAgg261, z232 := Tryz.sizeOf261, v232 := Tryz.zeroValue261, t233 := Tryz.underlying262, a233 := Tryz.isAgg262, z233 := Tryz.sizeOf262, v233 := Tryz.zeroValue262, g17 := by kernel_rfl, g18 := by kernel_rfl, g19 := by kernel_rfl, i0 := by kernel_rfl, i2 := by kernel_rfl, i3 := by kernel_rfl, i4 := by kernel_rfl, i5 := by kernel_rfl, i9 := by kernel_rfl, i20 := by kernel_rfl, i37 := by kernel_rfl, i46 := by kernel_rfl, i51 := by kernel_rfl, i53 := by kernel_rfl, i171 := by kernel_rfl, i173 := by kernel_rfl, i212 := by kernel_rfl, i232 := by kernel_rfl, i233 := by kernel_rfl, m17 := by kernel_rfl, m18 := by kernel_rfl, m19 := by kernel_rfl }
theorem GM (N : Nat) (p0 p1 : Int) (r : ByteArray) (h : E3 N p0 p1 = some r) : Ar zA 125 [iD p0, iD p1] [] (pD (.val (.string r))) := by
 obtain ⟨h1, h⟩ := Hk h
 subst h1
 exact Oy Tz (g := Qo.g 17) (by kernel_rfl) h
theorem Nt (N : Nat) (p0 : Ac) (r : ByteArray) (h : EI N p0 = some r) : Ar zA 88 [.e (.agg (AM p0))] [] (pD (.val (.string r))) := by
 unfold EI at h
 refine cw (n := 29) (rs := [.tmp 2]) Tryz.func88 fun w0 S0 => ?_
 refine wq rfl (qb rfl (qa rfl (Ab (wq rfl (qf GW rfl (ql Ho rfl ?_))))))
 refine B4 h fun v1 a1 h => Av [] (GM N p0.fi 10 v1 a1) Ur rfl ?_
 refine HL h fun c2 h => Er (.p rfl) rfl rfl (FX _ _ _ _ c2) rfl ?_
 refine qf B8 rfl (ql AW rfl ?_)
 refine B4 h fun v3 a3 h => Av [] (Kb N p0.fa v3 a3) Uo rfl ?_
 refine HL h fun c4 h => Er (.p rfl) rfl rfl (FX _ _ _ _ c4) rfl ?_
 refine qa rfl (AE (by kernel_rfl) (wp rfl (qL E9 CY rfl ?_)))
 refine B4 h fun v5 a5 h => Av [2001] (IV N p0 v5 a5) TY rfl (PA Co rfl (qm rfl (Ab ?_)))
 refine A5 (L := E6 N v5) h (fun v6 => mk [(3, pD (.val (.string v6.1))), (15, oD (.own 2002)), (16, iD ((v5.length : Int))), (17, iD v6.2)] [(2002, .vec 1 (v5.map As))]) (fun v7 => mk [(3, pD (.val (.string v7)))] []) (fun _ _ => rfl) (sm [(2002, 2001)] _ _ rfl rfl) (fun j6 n6 v6 h => ?_) (fun v7 s h hs => ?_)
 ·unfold E6 at h
  refine wq rfl (A4 rfl (Ab (AR ?_)))
  refine Bb h (fun h => ?_) fun h => ?_
  ·refine Ap (AR (AT (wq rfl ?_)))
   refine BN h fun v9 a9 b9 h => qI Co Iq a9 (Ag b9) rfl (qj Ho (Ag b9) rfl (qa rfl (Ab (Aj Aw rfl (qw 2 rfl ?_)))))
   refine B4 h fun v10 a10 h => Av [] (GM N v9 10 v10 a10) Ur rfl ?_
   refine HL h fun c11 h => Er (.p rfl) rfl rfl (FX _ _ _ _ c11) rfl ?_
   refine HL h fun c12 h => Er (.p rfl) rfl rfl (FX _ _ _ _ c12) rfl ?_
   refine qa rfl (Ab (Aj Aw rfl (Cl rfl (qm rfl (Ab ?_)))))
   exact sn [] h
  ·refine BZ ?_
   exact sn [] h
 ·refine Af hs (wq rfl (qm rfl ?_))
  refine HL h fun c13 h => Er (.p rfl) rfl rfl (FX _ _ _ _ c13) rfl ?_
  refine qa rfl (Ab ?_)
  obtain rfl := sj h
  refine Af (sm [] [(2, pD (.val (.string ((v7 ++ (⟨#[10]⟩ : ByteArray))))))] [] rfl rfl) (Aq ?_)
  exact ⟨⟨[_], tm, rfl⟩, tv⟩
def SM : Go.Shelf.Ren := ⟨fun | 166 => 87 | 240 => 124 | 276 => 158 | n => n, fun | 0 => 0 | 3 => 3 | 4 => 4 | 5 => 5 | 9 => 9 | 37 => 47 | 70 => 140 | 72 => 142 | 75 => 144 | 80 => 149 | 164 => 211 | n => n, fun n => n⟩
theorem UI : Lays.n166 zA SM := { mixed := Aw, f166 := Tryz.func87.trans (congrArg some (by kernel_rfl)), f240 := Tryz.func124.trans (congrArg some (by kernel_rfl)), f276 := Tryz.func158.trans (congrArg some (by kernel_rfl)), t0 := Tryz.underlying0, a0 := Tryz.isAgg0, z0 := Tryz.sizeOf0, v0 := Tryz.zeroValue0, t3 := Tryz.underlying3, a3 := Tryz.isAgg3, z3 := Tryz.sizeOf3, v3 := Tryz.zeroValue3, t4 := Tryz.underlying4, a4 := Tryz.isAgg4, z4 := Tryz.sizeOf4, v4 := Tryz.zeroValue4, t9 := Tryz.underlying9, a9 := Tryz.isAgg9, z9 := Tryz.sizeOf9, v9 := Tryz.zeroValue9, t20 := Tryz.underlying20, a20 := Tryz.isAgg20, z20 := Tryz.sizeOf20, v20 := Tryz.zeroValue20, t37 := Tryz.underlying47, a37 := Tryz.isAgg47, z37 := Tryz.sizeOf47, v37 := Tryz.zeroValue47, t70 := Tryz.underlying140, a70 := Tryz.isAgg140, z70 := Tryz.sizeOf140, v70 := Tryz.zeroValue140, t72 := Tryz.underlying142, a72 := Tryz.isAgg142, z72 := Tryz.sizeOf142, v72 := Tryz.zeroValue142, t75 := Tryz.underlying144, a75 := Tryz.isAgg144, z75 := Tryz.sizeOf144, v75 := Tryz.zeroValue144, t164 := Tryz.underlying211, a164 := Tryz.isAgg211, z164 := Tryz.sizeOf211, v164 := Tryz.zeroValue211 }
def RK : Go.Shelf.Ren := ⟨fun | 169 => 90 | n => n, fun | 0 => 0 | 3 => 3 | 5 => 5 | 9 => 9 | 37 => 47 | 70 => 140 | 72 => 142 | 127 => 180 | n => n, fun n => n⟩
theorem Vb : Lays.n169 zA RK := { mixed := Aw, f169 := Tryz.func90.trans (congrArg some (by kernel_rfl)), t0 := Tryz.underlying0, a0 := Tryz.isAgg0, z0 := Tryz.sizeOf0, v0 := Tryz.zeroValue0, t3 := Tryz.underlying3, a3 := Tryz.isAgg3, z3 := Tryz.sizeOf3, v3 := Tryz.zeroValue3, t9 := Tryz.underlying9, a9 := Tryz.isAgg9, z9 := Tryz.sizeOf9, v9 := Tryz.zeroValue9, t37 := Tryz.underlying47, a37 := Tryz.isAgg47, z37 := Tryz.sizeOf47, v37 := Tryz.zeroValue47, t70 := Tryz.underlying140, a70 := Tryz.isAgg140, z70 := Tryz.sizeOf140, v70 := Tryz.zeroValue140, t72 := Tryz.underlying142, a72 := Tryz.isAgg142, z72 := Tryz.sizeOf142, v72 := Tryz.zeroValue142, t127 := Tryz.underlying180, a127 := Tryz.isAgg180, z127 := Tryz.sizeOf180, v127 := Tryz.zeroValue180 }
def UR : Go.Shelf.Ren := ⟨fun | 170 => 89 | n => n, fun | 0 => 0 | 3 => 3 | 5 => 5 | 37 => 47 | 70 => 140 | 72 => 142 | n => n, fun n => n⟩
theorem Uu : Lays.n170 zA UR := { mixed := Aw, f170 := Tryz.func89.trans (congrArg some (by kernel_rfl)), t0 := Tryz.underlying0, a0 := Tryz.isAgg0, z0 := Tryz.sizeOf0, v0 := Tryz.zeroValue0, t3 := Tryz.underlying3, a3 := Tryz.isAgg3, z3 := Tryz.sizeOf3, v3 := Tryz.zeroValue3, t37 := Tryz.underlying47, a37 := Tryz.isAgg47, z37 := Tryz.sizeOf47, v37 := Tryz.zeroValue47, t70 := Tryz.underlying140, a70 := Tryz.isAgg140, z70 := Tryz.sizeOf140, v70 := Tryz.zeroValue140, t72 := Tryz.underlying142, a72 := Tryz.isAgg142, z72 := Tryz.sizeOf142, v72 := Tryz.zeroValue142 }
theorem Ww : Builder.Extra zA SM where
 sizeBuilder := by kernel_rfl
 liesBuilder := by kernel_rfl
 t5 := Tryz.underlying5
 a5 := Tryz.isAgg5
 z5 := Tryz.sizeOf5
 v5 := Tryz.zeroValue5
 infoByte := by kernel_rfl
 cellsByte := by kernel_rfl
 sizeByte := by kernel_rfl
 neB5 := by decide
theorem VK : Builder.Extra zA RK where
 sizeBuilder := by kernel_rfl
 liesBuilder := by kernel_rfl
 t5 := Tryz.underlying5
 a5 := Tryz.isAgg5
 z5 := Tryz.sizeOf5
 v5 := Tryz.zeroValue5
 infoByte := by kernel_rfl
 cellsByte := by kernel_rfl
 sizeByte := by kernel_rfl
 neB5 := by decide
theorem XB (B b : Nat) (bs : List Value) (s : ByteArray) (w : World) (h : Lib.IsBuilder 142 5 B b bs w) (hlen : bs.length + s.size ≤ 140737488355328) (hBw : B ≤ w.heap.size) :
  Calls zA 87 #[.pointer (some ⟨b, 0, none⟩), .string s] w fun e w' => e = .returned (.tuple #[.int .i64 s.size, .nilIface]) ∧ (Lib.BuilderAt 142 5 B b (.pointer (some ⟨b, 0, none⟩)) (bs ++ Lib.strCells s) w' ∧ Below B w w') := Any.Builder_WriteString UI Ww B b bs s w h hlen hBw
theorem Xq (B b : Nat) (bs : List Value) (w : World) (h : Lib.IsBuilder 142 5 B b bs w) : Calls zA 89 #[.pointer (some ⟨b, 0, none⟩)] w fun e w' => e = .returned (.int .i64 bs.length) ∧ w' = w := Any.Builder_Len Uu B b bs w h
theorem WX (B b : Nat) (l : List UInt8) (w : World) (h : Lib.IsBuilder 142 5 B b (Lib.byteCells l) w) (hBw : B ≤ w.heap.size) :
  Calls zA 90 #[.pointer (some ⟨b, 0, none⟩)] w fun e w' => e = .returned (.string ⟨l.toArray⟩) ∧ Below B w w' := Any.Builder_String_any Vb VK B b l w h hBw
def Ti (x : Ac) : Array Value := #[.int .i64 x.fi, .int .i64 x.fa, .int .i64 x.fv, .int .i64 x.fw, .int .i64 x.fC, .int .i64 x.fm, .int .i64 x.fu, .int .i64 x.fD, .int .i64 x.ft, .int .i64 x.fq, .int .i64 x.fM]
set_option maxRecDepth 1000000 in
theorem OT (n : Nat) (a : Option Addr) (cap : Nat) (ve : Int) (hve : ve ≠ 0) (w : World)
  (hval : Calls zA 43 #[.slice a n cap] w fun e w' => e = .returned (.int .i64 ve) ∧ Below w.heap.size w w') :
  Calls zA 44 #[.slice a n cap] w fun e w' => e = .returned (.tuple #[.string ⟨#[]⟩, .int .i64 ve]) ∧ Below w.heap.size w w' := by
 have e43 : ∀ args w, (callFunc 43 args).run zA w = .ok (.enter 43 args) w := fun _ _ => by kernel_rfl
 have hb : (ve != 0) = true := bne_iff_ne.2 hve
 go_enter Tryz.func44, Tryz.ntmps44
 go_wp2_with (go_at_fn 43; refine hval.mono ?_; rintro e w' ⟨rfl, hw⟩)
 go_ret2
 exact ⟨rfl, hw⟩
set_option maxHeartbeats 2000000 in
set_option maxRecDepth 1000000 in
theorem Qc (ps : List Ac) (line : Ac → Option ByteArray) (a : Option Addr) (ab : Nat) (ao : Nat → Nat) (cap : Nat) (w : World) (r : ByteArray) (res : Value)
  (hval : Calls zA 43 #[.slice a ps.length cap] w fun e w' => e = .returned (.int .i64 0) ∧ Below w.heap.size w w')
  (hix : ∀ (i : Nat) x, ps[i]? = some x → ∀ W, Below w.heap.size w W → (Instr.indexAt 27 (.slice a ps.length cap) (.int .i64 (i : Int))).run zA W = .ok (.pointer (some ⟨ab, ao i, none⟩)) W ∧ ∀ (j : Nat) v, (Ti x)[j]? = some v → W.cell? ⟨ab, ao i + j, none⟩ = some v)
  (hline : ∀ x s, x ∈ ps → line x = some s → ∀ W, Below w.heap.size w W → Calls zA 88 #[.agg (Ti x)] W fun e w' => e = .returned (.string s) ∧ Below W.heap.size W w')
  (hn : ps.length ≤ 1000000) (hr : D4 line ps ⟨#[]⟩ = some r) (h1 : r.size ≤ 65536 → res = .tuple #[.string r, .int .i64 0]) (h2 : 65536 < r.size → res = .tuple #[.string ⟨#[]⟩, .int .i64 3]) :
  Calls zA 44 #[.slice a ps.length cap] w fun e w' => e = .returned res ∧ Below w.heap.size w w' := by
 have e43 : ∀ args w, (callFunc 43 args).run zA w = .ok (.enter 43 args) w := fun _ _ => by kernel_rfl
 have e88 : ∀ args w, (callFunc 88 args).run zA w = .ok (.enter 88 args) w := fun _ _ => by kernel_rfl
 have e87 : ∀ args w, (callFunc 87 args).run zA w = .ok (.enter 87 args) w := fun _ _ => by kernel_rfl
 have e89 : ∀ args w, (callFunc 89 args).run zA w = .ok (.enter 89 args) w := fun _ _ => by kernel_rfl
 have e90 : ∀ args w, (callFunc 90 args).run zA w = .ok (.enter 90 args) w := fun _ _ => by kernel_rfl
 go_enter Tryz.func44, Tryz.ntmps44
 go_wp2_with (go_at_fn 43; refine hval.mono ?_; rintro e w' ⟨rfl, hw⟩)
 clear hval
 go_loopg [15] ps.length (fun g s15 wx => ∃ (q : Nat) (c : ByteArray), q + g = ps.length ∧ s15 = .int .i64 (q : Int) ∧ D4 line (ps.drop q) c = some r ∧ Lib.IsBuilder 142 5 w.heap.size w'.heap.size (Lib.strCells c) wx ∧ Below w.heap.size w wx)
 case atStart =>
  refine ⟨0, ⟨#[]⟩, by omega, rfl, hr, ?_, ?_⟩
  ·obtain ⟨_, v, f1, f2, f3⟩ | ⟨_, v, f1, f2, f3⟩ := Lib.fresh_isBuilder 142 5 w'
   ·exact .inl ⟨hw.size, v, f1, f2.mono hw.size, f3⟩
   ·exact .inr ⟨hw.size, v, f1, f2.mono hw.size, f3⟩
  ·exact hw.alloc hw.size _
 case round =>
  obtain ⟨q, c, h3, rfl, h4, h5, h6⟩ := hrel
  cases gk with
  | zero =>
   have hq : q = ps.length := by omega
   subst hq
   rw [List.drop_length] at h4
   have h4 : c = r := sj h4
   subst h4
   have cLen := Xq _ _ _ wr h5
   rw [Lib.strCells_length] at cLen
   have cStr := WX w.heap.size w'.heap.size c.data.toList wr h5 h6.size
   have hnl : ¬ ((ps.length : Int) < (ps.length : Int)) := by omega
   by_cases hs : (65536 : Int) < (c.size : Int)
   ·go_wp2_with (go_at_fn 89; refine cLen.mono ?_; rintro e W1 ⟨rfl, hW⟩; rw [hW])
    go_ret2
    exact ⟨(congrArg Ending.returned (h2 (by omega))).symm, h6⟩
   ·go_wp2_with (first | (go_at_fn 89; refine cLen.mono ?_; rintro e W1 ⟨rfl, hW⟩; rw [hW]) | (go_at_fn 90; refine cStr.mono ?_; rintro e W2 ⟨rfl, b2⟩))
    go_ret2
    exact ⟨(congrArg Ending.returned (h1 (by omega))).symm, h6.trans b2⟩
  | succ g =>
   have hql : q < ps.length := by omega
   have hx : ps[q]? = some ps[q] := by simp [hql]
   obtain ⟨i1, i2⟩ := hix q _ hx wr h6
   rw [List.drop_eq_getElem_cons hql, D4] at h4
   obtain ⟨s, hs, h4⟩ := bind_some h4
   obtain ⟨hc, h4⟩ := Hk h4
   have hnl : ((q : Int) < (ps.length : Int)) := by omega
   have c0 : wr.cell? ⟨ab, ao q, none⟩ = some (.int .i64 ps[q].fi) := i2 0 _ rfl
   have c1 : wr.cell? ⟨ab, ao q + 1, none⟩ = some (.int .i64 ps[q].fa) := i2 1 _ rfl
   have c2 : wr.cell? ⟨ab, ao q + 2, none⟩ = some (.int .i64 ps[q].fv) := i2 2 _ rfl
   have c3 : wr.cell? ⟨ab, ao q + 3, none⟩ = some (.int .i64 ps[q].fw) := i2 3 _ rfl
   have c4 : wr.cell? ⟨ab, ao q + 4, none⟩ = some (.int .i64 ps[q].fC) := i2 4 _ rfl
   have c5 : wr.cell? ⟨ab, ao q + 5, none⟩ = some (.int .i64 ps[q].fm) := i2 5 _ rfl
   have c6 : wr.cell? ⟨ab, ao q + 6, none⟩ = some (.int .i64 ps[q].fu) := i2 6 _ rfl
   have c7 : wr.cell? ⟨ab, ao q + 7, none⟩ = some (.int .i64 ps[q].fD) := i2 7 _ rfl
   have c8 : wr.cell? ⟨ab, ao q + 8, none⟩ = some (.int .i64 ps[q].ft) := i2 8 _ rfl
   have c9 : wr.cell? ⟨ab, ao q + 9, none⟩ = some (.int .i64 ps[q].fq) := i2 9 _ rfl
   have c10 : wr.cell? ⟨ab, ao q + 10, none⟩ = some (.int .i64 ps[q].fM) := i2 10 _ rfl
   clear i2 hix
   have bA : Below w.heap.size w (wr.alloc (.cells (Ti ps[q]) 37)) := h6.alloc h6.size _
   have bW : Below wr.heap.size wr (wr.alloc (.cells (Ti ps[q]) 37)) := (Below.refl _ _).alloc (yY _) _
   have cL := hline ps[q] s (yV hql) hs _ bA
   go_wp2_with (go_at_fn 88; refine cL.mono ?_; rintro e W1 ⟨rfl, b1⟩)
   have bB : Below wr.heap.size wr W1 := bW.trans (b1.mono bW.size)
   have bC : Below w.heap.size w W1 := bA.trans (b1.mono bA.size)
   have cW := XB w.heap.size w'.heap.size (Lib.strCells c) s W1 (Rq h5 bB) (by rw [Lib.strCells_length]; exact hc) bC.size
   go_wp2_with (go_at_fn 87; refine cW.mono ?_; rintro e W2 ⟨rfl, h7, b2⟩)
   go_roundg g
   case measure => omega
   case rel =>
    refine ⟨q + 1, c ++ s, by omega, ?_, h4, .inr ?_, bC.trans b2⟩
    ·rfl
    ·have e : Lib.strCells (c ++ s) = Lib.strCells c ++ Lib.strCells s := by
      rw [Lib.strCells_eq, Lib.strCells_eq, Lib.strCells_eq, ← Lib.byteCells_append, ByteArray.data_append, Array.toList_append]
     rw [e]; exact h7
theorem TL {w : World} {S : Nat → Prop} (x : Ac) : FT zA w (G0 S) (.agg (Ti x)) (.e (.agg ((AG x).map C.pure))) := by
 refine ⟨Ti x, rfl, rfl, fun j c hj => ?_⟩
 match j, hj with
 | 0, hj | 1, hj | 2, hj | 3, hj | 4, hj | 5, hj | 6, hj | 7, hj | 8, hj | 9, hj | 10, hj => cases hj; exact Cw.val _ rfl
 | j + 11, hj => simp [AG] at hj
theorem Me (N : Nat) (p0 : List Ac) (r : ByteArray × Int) (h : Ij N p0 = some r) : Ar zA 44 [pD (.sl (p0.map AG))] [] (.tup [.one (.pure (.val (.string r.1))), .one (iC r.2)]) := by
 intro w S vs hS hgk hlen hrd
 have h0 : Cw w S (Au vs 0) (.sl (p0.map AG)) := hrd 0 _ rfl
 have hvs : vs = #[Au vs 0] := by
  have h2 : vs.size = 1 := hlen
  apply Array.ext (by simp [h2])
  intro i h1 _
  have : i = 0 := by omega
  subst this; simp [Au, h1]
 obtain ⟨hn, h⟩ := Hk h
 obtain ⟨ve, hve, h⟩ := bind_some h
 -- the result, from its two cells
 have fin : ∀ {e : Ending} {w' : World}, e = .returned (.tuple #[.string r.1, .int .i64 r.2]) ∧ Below w.heap.size w w' → ∃ v G', e = .returned v ∧ RG w.heap.size w w' ∧ (∀ β, S β → G'.S β) ∧ (∀ β, G'.S β → S β ∨ (w.heap.size ≤ β ∧ β < w'.heap.size)) ∧ FT zA w' G' v (.tup [.one (.pure (.val (.string r.1))), .one (iC r.2)]) ∧
   (∀ (k : Nat) (x : Nat × List (List T)), ([] : List (Nat × List (List T)))[k]? = some x → Ee zA w' G' k (.vec x.1 x.2)) ∧
   (∀ k β, k < ([] : List (Nat × List (List T))).length → G'.has k β → w.heap.size ≤ β ∧ β < w'.heap.size ∧ ¬ G'.S β) ∧
   (∀ k l β, k < ([] : List (Nat × List (List T))).length → l < ([] : List (Nat × List (List T))).length → G'.has k β → G'.has l β → k = l) := by
  rintro e w' ⟨rfl, hb⟩
  refine ⟨_, G0 S, rfl, ⟨hb, fun h => by cases h⟩, fun _ h => h, fun _ h => .inl h, ⟨#[.string r.1, .int .i64 r.2], rfl, rfl, fun j x hj => ?_⟩, fun i x hi => by simp at hi, fun i β hi => by simp at hi, fun i l β hi => by simp at hi⟩
  match j, hj with
  | 0, hj => cases hj; exact Cw.val _ rfl
  | 1, hj => cases hj; exact Cw.val _ rfl
  | j + 2, hj => simp at hj
 rw [hvs]
 -- the call of Valid
 have cV : Calls zA 43 #[Au vs 0] w fun e w' => e = .returned (.int .i64 ve) ∧ Below w.heap.size w w' := by
  refine (Gr N p0 ve hve w S #[Au vs 0] hS hgk rfl (fun j d hj => ?_)).mono ?_
  ·match j, hj with
   | 0, hj => cases hj; exact h0
   | j + 1, hj => simp at hj
  ·rintro e w' ⟨v, G', rfl, hb, _, _, hv, _⟩
   have : v = .int .i64 ve := CW (hv : Cw w' G'.S v (.val _))
   exact ⟨by rw [this], hb.toBelow⟩
 have hl : ∀ x s, x ∈ p0 → EI N x = some s → ∀ W, Below w.heap.size w W → Calls zA 88 #[.agg (Ti x)] W fun e w' => e = .returned (.string s) ∧ Below W.heap.size W w' := by
  intro x s _ hs W hW
  refine (Nt N x s hs W S #[.agg (Ti x)] (fun β hβ => Nat.lt_of_lt_of_le (hS β hβ) hW.size) (hgk.mono (fun β hβ => hW.block β (hS β hβ)) (fun _ h => h)) rfl (fun j d hj => ?_)).mono ?_
  ·match j, hj with
   | 0, hj => cases hj; exact TL x
   | j + 1, hj => simp at hj
  ·rintro e w' ⟨v, G', rfl, hb, _, _, hv, _⟩
   have : v = .string s := CW (hv : Cw w' G'.S v (.val _))
   exact ⟨by rw [this], hb.toBelow⟩
 generalize hv0 : Au vs 0 = v0 at h0 cV
 obtain ⟨rows, hrows⟩ : ∃ rows, p0.map AG = rows := ⟨_, rfl⟩
 rw [hrows] at h0
 have hrl : rows.length = p0.length := by rw [← hrows, zY]
 by_cases hz : ve = 0
 ·subst hz
  have h := QI rfl h
  obtain ⟨s, hs, h⟩ := bind_some h
  have r1 : s.size ≤ 65536 → (Value.tuple #[.string r.1, .int .i64 r.2] : Value) = .tuple #[.string s, .int .i64 0] := fun hq => by
   have h := QI (decide_eq_false (by omega)) h; cases h; rfl
  have r2 : 65536 < s.size → (Value.tuple #[.string r.1, .int .i64 r.2] : Value) = .tuple #[.string ⟨#[]⟩, .int .i64 3] := fun hq => by
   have h := Qm (decide_eq_true hq) h; cases h; rfl
  cases h0 with
  | nil a cap =>
   obtain rfl := xB.1 hrows
   exact (Qc [] (fun x => EI N x) a 0 (fun _ => 0) cap w s _ cV (fun i x hx => by simp at hx) (fun x s hx => by cases hx) (zT _) hs r1 r2).mono fun e w' hh => fin hh
  | sl β off cap e arr el fz rows k1 k2 k3 k4 k5 k6 =>
   rw [hrl] at cV ⊢
   refine (Qc p0 (fun x => EI N x) (some ⟨β, off, none⟩) β (fun i => off + i * 11) cap w s _ cV (fun i x hx W hW => ?_) hl hn hs r1 r2).mono fun e w' hh => fin hh
   have hrow : rows[i]? = some (AG x) := by rw [← hrows, zG, hx]; rfl
   have he : e = 11 := (k5 i _ hrow).symm
   subst he
   have hil : i < p0.length := AB hx
   have hbnd : i * 11 + 11 ≤ p0.length * 11 := by omega
   rw [hrl] at k4
   refine ⟨ID D0 CY (by omega) (by simpa using hil), fun j v hj => ?_⟩
   have hWb : W.heap[β]? = some (.cells arr el fz) := by rw [hW.block β (hS β k1)]; exact k2
   have hjt : (AG x)[j]? = some (.val v) ∧ j < 11 := by
    match j, hj with
    | 0, hj | 1, hj | 2, hj | 3, hj | 4, hj | 5, hj | 6, hj | 7, hj | 8, hj | 9, hj | 10, hj => cases hj; exact ⟨rfl, by decide⟩
    | j + 11, hj => simp [Ti] at hj
   have hv : Au arr (off + i * 11 + j) = v := CW (k6 i _ j _ hrow hjt.1)
   have hjl := hjt.2
   simp only [World.cell?, hWb]
   rw [Ht (by omega), hv]; rfl
 ·have hb : (ve != 0) = true := bne_iff_ne.2 hz
  have h := Qm hb h
  cases h
  cases h0 with
  | nil a cap => exact (OT _ a cap ve hz w cV).mono fun e w' hh => fin hh
  | sl β off cap e arr el fz rows k1 k2 k3 k4 k5 k6 => exact (OT _ _ cap ve hz w cV).mono fun e w' hh => fin hh
theorem Oc (N : Nat) (p0 : Int) (r : ByteArray) (h : HE N p0 = some r) : Ar zA 45 [iD p0] [] (pD (.val (.string r))) := by
 unfold HE at h
 refine cw (n := 7) (rs := [.tmp 2]) Tryz.func45 fun w0 S0 => ?_
 refine wq rfl (qa rfl (Ab (wq rfl (FJ Uj WI XD rfl (qm rfl ?_)))))
 refine BN h fun v1 a1 b1 h => Om (.p rfl) rfl rfl rfl Uj WI a1 (Ag (f := eS) b1) ?_
 refine Pg (.p rfl) rfl Xx rfl (Ag (f := eS) b1) rfl ?_
 refine qa rfl (Ab ?_)
 obtain rfl := sj h
 refine Af (sm [] [(2, pD (.val (.string v1)))] [] rfl rfl) (Aq ?_)
 exact ⟨⟨[_], tm, rfl⟩, tv⟩
def RA : Go.Shelf.Ren := ⟨fun | 129 => 182 | 171 => 46 | 243 => 91 | 246 => 126 | 283 => 159 | 284 => 160 | 285 => 161 | 286 => 162 | 317 => 181 | 318 => 183 | 319 => 184 | 320 => 185 | 337 => 194 | 338 => 195 | n => n, fun | 0 => 0 | 2 => 2 | 3 => 3 | 4 => 4 | 5 => 5 | 9 => 9 | 20 => 20 | 37 => 47 | 46 => 234 | 51 => 242 | 53 => 214 | 171 => 213 | 173 => 217 | 212 => 241 | 213 => 243 | 232 => 261 | 233 => 262 | n => n, fun | 17 => 0 | 18 => 1 | 19 => 2 | n => n⟩
theorem UG : LaysM.n171 zA RA := { mixed := Aw, f129 := Tryz.func182.trans (congrArg some (by kernel_rfl)), f171 := Tryz.func46.trans (congrArg some (by kernel_rfl)), f243 := Tryz.func91.trans (congrArg some (by kernel_rfl)), f246 := Tryz.func126.trans (congrArg some (by kernel_rfl)), f283 := Tryz.func159.trans (congrArg some (by kernel_rfl)), f284 := Tryz.func160.trans (congrArg some (by kernel_rfl)), f285 := Tryz.func161.trans (congrArg some (by kernel_rfl)), f286 := Tryz.func162.trans (congrArg some (by kernel_rfl)), f317 := Tryz.func181.trans (congrArg some (by kernel_rfl)), f318 := Tryz.func183.trans (congrArg some (by kernel_rfl)), f319 := Tryz.func184.trans (congrArg some (by kernel_rfl)), f320 := Tryz.func185.trans (congrArg some (by kernel_rfl)), f337 := Tryz.func194.trans (congrArg some (by kernel_rfl)), f338 := Tryz.func195.trans (congrArg some (by kernel_rfl)), t0 := Tryz.underlying0, a0 := Tryz.isAgg0, z0 := Tryz.sizeOf0, v0 := Tryz.zeroValue0, t2 := Tryz.underlying2, a2 := Tryz.isAgg2, z2 := Tryz.sizeOf2, v2 := Tryz.zeroValue2, t3 := Tryz.underlying3, a3 := Tryz.isAgg3, z3 := Tryz.sizeOf3, v3 := Tryz.zeroValue3, t4 := Tryz.underlying4, a4 := Tryz.isAgg4, z4 := Tryz.sizeOf4, v4 := Tryz.zeroValue4, t5 := Tryz.underlying5, a5 := Tryz.isAgg5, z5 := Tryz.sizeOf5, v5 := Tryz.zeroValue5, t9 := Tryz.underlying9, a9 := Tryz.isAgg9, z9 := Tryz.sizeOf9, v9 := Tryz.zeroValue9, t20 := Tryz.underlying20, a20 := Tryz.isAgg20, z20 := Tryz.sizeOf20, v20 := Tryz.zeroValue20, t37 := Tryz.underlying47, a37 := Tryz.isAgg47, z37 := Tryz.sizeOf47, v37 := Tryz.zeroValue47, t46 := Tryz.underlying234, a46 := Tryz.isAgg234, z46 := Tryz.sizeOf234, v46 := Tryz.zeroValue234, t51 := Tryz.underlying242, a51 := Tryz.isAgg242, z51 := Tryz.sizeOf242, v51 := Tryz.zeroValue242, t53 := Tryz.underlying214, a53 := Tryz.isAgg214, z53 := Tryz.sizeOf214, v53 := Tryz.zeroValue214, t171 := Tryz.underlying213, a171 := Tryz.isAgg213, z171 := Tryz.sizeOf213, v171 := Tryz.zeroValue213, t173 := Tryz.underlying217, a173 := Tryz.isAgg217, z173 := Tryz.sizeOf217, v173 := Tryz.zeroValue217, t212 := Tryz.underlying241, a212 := Tryz.isAgg241, z212 := Tryz.sizeOf241, v212 := Tryz.zeroValue241, t213 := Tryz.underlying243, a213 := Tryz.isAgg243, z213 := Tryz.sizeOf243, t232 := Tryz.underlying261, a232 := Tryz.isAgg261, z232 := Tryz.sizeOf261, v232 := Tryz.zeroValue261, t233 := Tryz.underlying262, a233 := Tryz.isAgg262, z233 := Tryz.sizeOf262, v233 := Tryz.zeroValue262, g17 := by kernel_rfl, g18 := by kernel_rfl, g19 := by kernel_rfl, i0 := by kernel_rfl, i2 := by kernel_rfl, i3 := by kernel_rfl, i4 := by kernel_rfl, i5 := by kernel_rfl, i9 := by kernel_rfl, i20 := by kernel_rfl, i37 := by kernel_rfl, i46 := by kernel_rfl, i51 := by kernel_rfl, i53 := by kernel_rfl, i171 := by kernel_rfl, i173 := by kernel_rfl, i212 := by kernel_rfl, i232 := by kernel_rfl, i233 := by kernel_rfl, m17 := by kernel_rfl, m18 := by kernel_rfl, m19 := by kernel_rfl }
theorem LP (N : Nat) (p0 : Int) (r : ByteArray) (h : Ii N p0 = some r) : Ar zA 46 [iD p0] [] (pD (.val (.string r))) := UL UG (g := RA.g 17) (by kernel_rfl) h
theorem FQ (N : Nat) (p0 : ByteArray) (p1 : ByteArray) (r : Bool) (h : CX N p0 p1 = some r) : Ar zA 127 [pD (.val (.string p0)), pD (.val (.string p1))] [] (bD r) := by
 unfold CX at h
 refine cw (n := 21) (rs := [.tmp 4]) Tryz.func127 fun w0 S0 => ?_
 refine wq rfl (qe rfl ?_)
 refine AF h (fun v1 => mk [(4, bD v1)] []) (fun j1 h => ?_) (fun v1 h => ?_)
 ·refine Aj Aw rfl (qm rfl ?_)
  refine Kw (.p rfl) rfl Og ?_
  refine qm rfl ?_
  refine Kw (.p rfl) rfl Og ?_
  refine C9 rfl (qm rfl ?_)
  refine Cp 10 h rfl (fun h => ?_) fun h => ?_
  ·refine qw 2 rfl ?_
   refine Kw (.g rfl rfl) rfl Og ?_
   refine qm rfl ?_
   refine Kw (.g rfl rfl) rfl Og ?_
   refine J9 rfl ?_
   refine HL h fun c3 h => OJ (.g rfl rfl) rfl Og (.some _ _ _ _ c3.1) (.none _) ⟨rfl, tv⟩ tv c3.2.1 c3.2.2 ?_
   refine qm rfl ?_
   refine Er (.g rfl rfl) rfl rfl (Mm _ _ _ _) rfl ?_
   refine qp rfl (qe rfl ?_)
   exact sn [] h
  ·refine qw 9 rfl (qp rfl (qe rfl ?_))
   exact sn [] h
 ·obtain rfl := sj h
  refine Af (sm [] [(4, bD v1)] [] rfl rfl) (Aq ?_)
  exact ⟨⟨[_], tm, rfl⟩, tv⟩
theorem FI (N : Nat) (p0 : ByteArray) (p1 : ByteArray) (r : ByteArray) (h : CG N p0 p1 = some r) : Ar zA 92 [pD (.val (.string p0)), pD (.val (.string p1))] [] (pD (.val (.string r))) := by
 unfold CG at h
 refine cw (n := 16) (rs := [.tmp 4]) Tryz.func92 fun w0 S0 => ?_
 refine wq rfl (qa rfl (Ab (wp rfl (qw 2 rfl ?_))))
 refine B4 h fun v1 a1 h => Av [] (FQ N p0 p1 v1 a1) V7 rfl (Ab ?_)
 refine Bb h (fun h => ?_) fun h => ?_
 ·refine wq rfl (qw 2 rfl ?_)
  refine Kw (.p rfl) rfl Og ?_
  refine qm rfl ?_
  refine Kw (.p rfl) rfl Og ?_
  refine J9 rfl ?_
  refine HL h fun c3 h => OJ (.p rfl) rfl Og (.none _) (.some _ _ _ _ c3.1) tv ⟨rfl, tv⟩ c3.2.1 c3.2.2 ?_
  refine qa rfl (Ab ?_)
  obtain rfl := sj h
  refine Af (sm [] [(4, pD (.val (.string ((p0.extract 0 (((wI .i64 ((p0.size : Int) - (p1.size : Int)))).toNat))))))] [] rfl rfl) (Aq ?_)
  exact ⟨⟨[_], tm, rfl⟩, tv⟩
 ·refine Ap (wq rfl (qm rfl (qe rfl ?_)))
  obtain rfl := sj h
  refine Af (sm [] [(4, pD (.val (.string p0)))] [] rfl rfl) (Aq ?_)
  exact ⟨⟨[_], tm, rfl⟩, tv⟩
theorem Iy (N : Nat) (p0 : ByteArray) (p1 : ByteArray) (r : ByteArray) (h : ER N p0 p1 = some r) : Ar zA 47 [pD (.val (.string p0)), pD (.val (.string p1))] [] (pD (.val (.string r))) := by
 unfold ER at h
 refine cw (n := 8) (rs := [.tmp 4]) Tryz.func47 fun w0 S0 => ?_
 refine wq rfl (qa rfl (Ab (wq rfl (qw 2 rfl ?_))))
 refine B4 h fun v1 a1 h => Av [] (FI N p0 p1 v1 a1) Xl rfl (qe rfl ?_)
 obtain rfl := sj h
 refine Af (sm [] [(4, pD (.val (.string v1)))] [] rfl rfl) (Aq ?_)
 exact ⟨⟨[_], tm, rfl⟩, tv⟩
theorem Ls (N : Nat) (p0 : List Ac) (p1 : Int) (p2 : Int) (r : ByteArray × Int) (h : GJ N p0 p1 p2 = some r) : Ar zA 19 [pD (.sl (p0.map AG)), iD p1, iD p2] [] (.tup [.one (.pure (.val (.string r.1))), .one (iC r.2)]) := by
 unfold GJ at h
 refine cw (n := 54) (rs := [.tmp 6, .tmp 7]) Tryz.func19 fun w0 S0 => ?_
 refine wq rfl (qa rfl (qa rfl (Ab (wp rfl (qm rfl ?_)))))
 refine B4 h fun v1 a1 h => Av [] (Gr N p0 v1 a1) UC rfl (qa rfl (Ab (wq rfl (qm rfl (BG rfl (Ab ?_))))))
 refine Bb h (fun h => ?_) fun h => ?_
 ·refine wq rfl (qm rfl (qa rfl (qe rfl ?_)))
  obtain rfl := sj h
  refine Af (sm [] [(6, pD (.val (.string ((⟨#[]⟩ : ByteArray))))), (7, iD v1)] [] rfl rfl) (Aq ?_)
  exact ⟨⟨[_, _], ⟨.tmp _ _ rfl, tm⟩, rfl⟩, tv⟩
 ·refine Ap (AR (AT ?_))
  refine AF h (fun v3 => mk [(0, pD (.sl (p0.map AG))), (1, iD p1), (2, iD p2), (16, bD v3)] []) (fun j3 h => ?_) (fun v3 h => ?_)
  ·refine Aj Aw rfl (qm rfl (A4 rfl (qm rfl ?_)))
   refine Cp 19 h rfl (fun h => ?_) fun h => ?_
   ·refine qw 4 rfl (qp rfl (qe rfl ?_))
    exact sn [] h
   ·refine qw 2 rfl (AH D0 rfl (C9 rfl (qp rfl (qe rfl ?_))))
    exact sn [] h
  ·refine Bb h (fun h => ?_) fun h => ?_
   ·refine wq rfl (qa rfl (qe rfl ?_))
    obtain rfl := sj h
    refine Af (sm [] [(6, pD (.val (.string ((⟨#[]⟩ : ByteArray))))), (7, iD 7)] [] rfl rfl) (Aq ?_)
    exact ⟨⟨[_, _], ⟨.tmp _ _ rfl, tm⟩, rfl⟩, tv⟩
   ·refine AF h (fun v6 => mk [(0, pD (.sl (p0.map AG))), (1, iD p1), (2, iD p2), (25, bD v6)] []) (fun j6 h => ?_) (fun v6 h => ?_)
    ·refine Aj Aw rfl (qm rfl (A4 rfl (qm rfl ?_)))
     refine Cp 28 h rfl (fun h => ?_) fun h => ?_
     ·refine qw 2 rfl (qp rfl (qe rfl ?_))
      exact sn [] h
     ·refine qm rfl (Ed rfl (qp rfl (qe rfl ?_)))
      exact sn [] h
    ·refine Bb h (fun h => ?_) fun h => ?_
     ·refine wq rfl (qa rfl (qe rfl ?_))
      obtain rfl := sj h
      refine Af (sm [] [(6, pD (.val (.string ((⟨#[]⟩ : ByteArray))))), (7, iD 1)] [] rfl rfl) (Aq ?_)
      exact ⟨⟨[_, _], ⟨.tmp _ _ rfl, tm⟩, rfl⟩, tv⟩
     ·refine Ap (wq rfl (qw 3 rfl (Cl rfl ?_)))
      refine HL h fun c9 h => Lj (.p rfl) rfl D0 CY (HO (f := AG) (n := 11) (fun _ => rfl) _) (.some _ _ _ _ c9.1) (.some _ _ _ _ c9.2.1) ⟨rfl, tv⟩ ⟨rfl, tv⟩ (by have := c9.2.2.1; (try simp only [zY]); omega) (by have := c9.2.2.2; (try simp only [zY]); omega) (Kh AG p0 _ _ (((wI .i64 (p1 + 1))).toNat - (p1).toNat) rfl) ?_
      refine B4 h fun v10 a10 h => Av [] (Me N (((p0.drop (p1).toNat).take (((wI .i64 (p1 + 1))).toNat - (p1).toNat))) v10 a10) Xa rfl (qm rfl (qx rfl (qx rfl (qa rfl (qa rfl (Ab (wp rfl (qm rfl (BG rfl (Ab ?_))))))))))
      refine Bb h (fun h => ?_) fun h => ?_
      ·refine wq rfl (qm rfl (qa rfl (qe rfl ?_)))
       obtain rfl := sj h
       refine Af (sm [] [(6, pD (.val (.string ((⟨#[]⟩ : ByteArray))))), (7, iD v10.2)] [] rfl rfl) (Aq ?_)
       exact ⟨⟨[_, _], ⟨.tmp _ _ rfl, tm⟩, rfl⟩, tv⟩
      ·refine Ap (wq rfl (qm rfl ?_))
       refine B4 h fun v12 a12 h => Av [] (Oc N p2 v12 a12) W3 rfl ?_
       refine HL h fun c13 h => Er (.p rfl) rfl rfl (FX _ _ _ _ c13) rfl ?_
       refine qm rfl ?_
       refine B4 h fun v14 a14 h => Av [] (LP N p1 v14 a14) WO rfl ?_
       refine HL h fun c15 h => Er (.p rfl) rfl rfl (FX _ _ _ _ c15) rfl ?_
       refine HL h fun c16 h => Er (.p rfl) rfl rfl (FX _ _ _ _ c16) rfl ?_
       refine qm rfl ?_
       refine B4 h fun v17 a17 h => Av [] (Iy N v10.1 ((⟨#[10]⟩ : ByteArray)) v17 a17) Xo rfl ?_
       refine HL h fun c18 h => Er (.p rfl) rfl rfl (FX _ _ _ _ c18) rfl ?_
       refine qa rfl (qe rfl ?_)
       obtain rfl := sj h
       refine Af (sm [] [(6, pD (.val (.string (((((v12 ++ (⟨#[32]⟩ : ByteArray)) ++ v14) ++ (⟨#[58, 32]⟩ : ByteArray)) ++ v17))))), (7, iD 0)] [] rfl rfl) (Aq ?_)
       exact ⟨⟨[_, _], ⟨.tmp _ _ rfl, tm⟩, rfl⟩, tv⟩
theorem GQ (N : Nat) (r : Bool) (h : Dn N = some r) : Ar zA 11 [] [] (bD r) := by
 unfold Dn at h
 refine cw (n := 97) (rs := [.tmp 0]) Tryz.func11 fun w0 S0 => ?_
 refine wq rfl (qa rfl (Ab (wq rfl (FJ AA CK Ok rfl (FJ AA CK Ok rfl (FJ AA CK Ok rfl (Bq Wu W8 rfl (qz Wu rfl (qs DA rfl (Ab (wq rfl (Bq OH TF rfl (Bq OH TF rfl (FJ GB FR OH rfl (qa rfl (Ab (wq rfl (Bq IR QR rfl (Bq IR QR rfl (Bq IR QR rfl (Bq IR QR rfl (FJ D0 CY IR rfl (qa rfl (Ab (AR (Af (Bi 25 _ _ rfl rfl) (Aj Aw rfl (qL DG DA rfl (FJ AA CK Ok rfl (qw 2 rfl ?_))))))))))))))))))))))))))))))
 refine HL h fun c1 h => Lj (rows := (([(Ac.mk 0 7 0 0 0 0 1 0 0 0 0), (Ac.mk 0 2 0 0 0 0 1 0 0 0 0), (Ac.mk 1 6 0 0 0 0 0 1 0 1 0), (Ac.mk 2 3 0 0 0 1 1 0 0 0 0)] : List Ac)).map AG) (.p rfl) rfl D0 CY (HO (f := AG) (n := 11) (fun _ => rfl) _) (.none _) (.some _ _ _ _ c1.1) tv ⟨rfl, tv⟩ (by have := c1.2.1; (try simp only [zY]); omega) (by have := c1.2.2; (try simp only [zY]); omega) (Kh AG (([(Ac.mk 0 7 0 0 0 0 1 0 0 0 0), (Ac.mk 0 2 0 0 0 0 1 0 0 0 0), (Ac.mk 1 6 0 0 0 0 0 1 0 1 0), (Ac.mk 2 3 0 0 0 1 1 0 0 0 0)] : List Ac)) _ _ ((3 : Int).toNat - 0) rfl) ?_
 refine B4 h fun v2 a2 h => Hw [] [14, 15, 16, 28, 20] (Hz N ((Aa.mk (([2] : List Int)) (([0] : List Int)) (([1] : List Int)) (([] : List AK)))) (([1] : List Int)) (([(Am.mk 1 0 1), (Am.mk 2 0 0)] : List Am)) ((((([(Ac.mk 0 7 0 0 0 0 1 0 0 0 0), (Ac.mk 0 2 0 0 0 0 1 0 0 0 0), (Ac.mk 1 6 0 0 0 0 0 1 0 1 0), (Ac.mk 2 3 0 0 0 1 1 0 0 0 0)] : List Ac)).drop 0).take ((3 : Int).toNat - 0))) v2 a2) UP FD rfl (qm rfl (qx rfl (qx rfl (qx rfl (qa rfl (qa rfl (qa rfl (AE (by kernel_rfl) (AR (Af (Bi 14 _ _ rfl rfl) (Af (Bi 15 _ _ rfl rfl) (Af (Bi 16 _ _ rfl rfl) (Af (Bi 20 _ _ rfl rfl) (Aj Aw rfl (qL DG DA rfl (qw 2 rfl ?_))))))))))))))))
 refine HL h fun c3 h => Lj (rows := (([(Ac.mk 0 7 0 0 0 0 1 0 0 0 0), (Ac.mk 0 2 0 0 0 0 1 0 0 0 0), (Ac.mk 1 6 0 0 0 0 0 1 0 1 0), (Ac.mk 2 3 0 0 0 1 1 0 0 0 0)] : List Ac)).map AG) (.p rfl) rfl D0 CY (HO (f := AG) (n := 11) (fun _ => rfl) _) (.none _) (.some _ _ _ _ c3.1) tv ⟨rfl, tv⟩ (by have := c3.2.1; (try simp only [zY]); omega) (by have := c3.2.2; (try simp only [zY]); omega) (Kh AG (([(Ac.mk 0 7 0 0 0 0 1 0 0 0 0), (Ac.mk 0 2 0 0 0 0 1 0 0 0 0), (Ac.mk 1 6 0 0 0 0 0 1 0 1 0), (Ac.mk 2 3 0 0 0 1 1 0 0 0 0)] : List Ac)) _ _ ((3 : Int).toNat - 0) rfl) ?_
 refine B4 h fun v4 a4 h => Av [] (OL N ((Aa.mk (([2] : List Int)) (([0] : List Int)) (([1] : List Int)) (([] : List AK)))) (([(Am.mk 1 0 1), (Am.mk 2 0 0)] : List Am)) ((((([(Ac.mk 0 7 0 0 0 0 1 0 0 0 0), (Ac.mk 0 2 0 0 0 0 1 0 0 0 0), (Ac.mk 1 6 0 0 0 0 0 1 0 1 0), (Ac.mk 2 3 0 0 0 1 1 0 0 0 0)] : List Ac)).drop 0).take ((3 : Int).toNat - 0))) v4 a4) Xj rfl (qm rfl (qx rfl (qx rfl (qz Dj rfl (qs AU rfl (qa rfl (AE (by kernel_rfl) (wq rfl (qL DG DA rfl (FJ AA CK Ok rfl (qw 2 rfl ?_)))))))))))
 refine B4 h fun v5 a5 h => Hw [] [46] (Hz N ((Aa.mk (([2] : List Int)) (([0] : List Int)) (([1] : List Int)) (([] : List AK)))) (([1] : List Int)) (([(Am.mk 1 0 1), (Am.mk 2 0 0)] : List Am)) (([(Ac.mk 0 7 0 0 0 0 1 0 0 0 0), (Ac.mk 0 2 0 0 0 0 1 0 0 0 0), (Ac.mk 1 6 0 0 0 0 0 1 0 1 0), (Ac.mk 2 3 0 0 0 1 1 0 0 0 0)] : List Ac)) v5 a5) UP FD rfl (qm rfl (qx rfl (qx rfl (qx rfl (qa rfl (qa rfl (qa rfl (Ab (wq rfl (qm rfl ?_))))))))))
 refine B4 h fun v6 a6 h => Av [] (Ls N (([(Ac.mk 0 7 0 0 0 0 1 0 0 0 0), (Ac.mk 0 2 0 0 0 0 1 0 0 0 0), (Ac.mk 1 6 0 0 0 0 0 1 0 1 0), (Ac.mk 2 3 0 0 0 1 1 0 0 0 0)] : List Ac)) 3 2 v6 a6) W0 rfl (qm rfl (qx rfl (qx rfl (qa rfl (qe rfl ?_)))))
 refine AF h (fun v7 => mk [(0, bD v7)] []) (fun j7 h => ?_) (fun v7 h => ?_)
 ·refine Aj Aw rfl (qm rfl (AN rfl (qm rfl ?_)))
  refine Cp 60 h rfl (fun h => ?_) fun h => ?_
  ·refine qm rfl (AN rfl (qp rfl (qm rfl ?_)))
   refine Cp 64 h rfl (fun h => ?_) fun h => ?_
   ·refine qm rfl (AN rfl (qp rfl (qm rfl ?_)))
    refine Cp 68 h rfl (fun h => ?_) fun h => ?_
    ·refine qm rfl (AN rfl (qp rfl (qm rfl ?_)))
     refine Cp 72 h rfl (fun h => ?_) fun h => ?_
     ·refine qf BT rfl (ql Bd rfl (AH AA rfl (AN rfl (qp rfl (qm rfl ?_)))))
      refine Cp 78 h rfl (fun h => ?_) fun h => ?_
      ·refine qf BT rfl (ql Bd rfl ?_)
       refine BN h fun v13 a13 b13 h => qi AA CK a13 (Ag b13) rfl (qk AW rfl (AN rfl (qp rfl (qm rfl ?_))))
       refine Cp 85 h rfl (fun h => ?_) fun h => ?_
       ·refine qm rfl (AN rfl (qp rfl (qm rfl ?_)))
        refine Cp 89 h rfl (fun h => ?_) fun h => ?_
        ·refine qm rfl (AN rfl (qp rfl (qm rfl ?_)))
         refine Cp 93 h rfl (fun h => ?_) fun h => ?_
         ·refine qm rfl ?_
          refine Er (.g rfl rfl) rfl rfl (Mm _ _ _ _) rfl ?_
          refine qp rfl (qe rfl ?_)
          exact sn [] h
         ·refine qw 2 rfl (qp rfl (qe rfl ?_))
          exact sn [] h
        ·refine qw 2 rfl (qp rfl (qw 3 rfl (qp rfl (qe rfl ?_))))
         exact sn [] h
       ·refine qw 2 rfl (qp rfl (qw 3 rfl (qp rfl (qw 3 rfl (qp rfl (qe rfl ?_))))))
        exact sn [] h
      ·refine qw 5 rfl (qp rfl (qw 3 rfl (qp rfl (qw 3 rfl (qp rfl (qw 3 rfl (qp rfl (qe rfl ?_))))))))
       exact sn [] h
     ·refine qw 4 rfl (qp rfl (qw 6 rfl (qp rfl (qw 3 rfl (qp rfl (qw 3 rfl (qp rfl (qw 3 rfl (qp rfl (qe rfl ?_))))))))))
      exact sn [] h
    ·refine qw 2 rfl (qp rfl (qw 5 rfl (qp rfl (qw 6 rfl (qp rfl (qw 3 rfl (qp rfl (qw 3 rfl (qp rfl (qw 3 rfl (qp rfl (qe rfl ?_))))))))))))
     exact sn [] h
   ·refine qw 2 rfl (qp rfl (qw 3 rfl (qp rfl (qw 5 rfl (qp rfl (qw 6 rfl (qp rfl (qw 3 rfl (qp rfl (qw 3 rfl (qp rfl (qw 3 rfl (qp rfl (qe rfl ?_))))))))))))))
    exact sn [] h
  ·refine qw 2 rfl (qp rfl (qw 3 rfl (qp rfl (qw 3 rfl (qp rfl (qw 5 rfl (qp rfl (qw 6 rfl (qp rfl (qw 3 rfl (qp rfl (qw 3 rfl (qp rfl (qw 3 rfl (qp rfl (qe rfl ?_))))))))))))))))
   exact sn [] h
 ·obtain rfl := sj h
  refine Af (sm [] [(0, bD v7)] [] rfl rfl) (Aq ?_)
  exact ⟨⟨[_], tm, rfl⟩, tv⟩
theorem JZ (N : Nat) (p0 : Aa) (r : Bool) (h : Dg N p0 = some r) : Ar zA 34 [.e (.agg (Ak p0))] [] (bD r) := by
 unfold Dg at h
 refine cw (n := 97) (rs := [.tmp 2]) Tryz.func34 fun w0 S0 => ?_
 refine wq rfl (qb rfl (qa rfl (Ab (AR ?_))))
 refine AF h (fun v1 => mk [(1, oD (.ptr 1 0)), (27, bD v1)] [(1, .box (Ak p0))]) (fun j1 h => ?_) (fun v1 h => ?_)
 ·refine Aj Aw rfl (qf BB rfl (ql Bd rfl (AH AA rfl (Ed rfl (qm rfl ?_)))))
  refine Cp 10 h rfl (fun h => ?_) fun h => ?_
  ·refine qw 4 rfl (qp rfl (qw 5 rfl (qp rfl (qw 5 rfl (qp rfl (Ab ?_))))))
   exact sn [] h
  ·refine qf FO rfl (ql Bd rfl (AH AA rfl (Ed rfl (qp rfl (qm rfl ?_)))))
   refine Cp 16 h rfl (fun h => ?_) fun h => ?_
   ·refine qw 4 rfl (qp rfl (qw 5 rfl (qp rfl (Ab ?_))))
    exact sn [] h
   ·refine qf I0 rfl (ql Bd rfl (AH AA rfl (Ed rfl (qp rfl (qm rfl ?_)))))
    refine Cp 22 h rfl (fun h => ?_) fun h => ?_
    ·refine qw 4 rfl (qp rfl (Ab ?_))
     exact sn [] h
    ·refine qf BA rfl (ql EK rfl (AH CR rfl (Ed rfl (qp rfl (Ab ?_)))))
     exact sn [] h
 ·refine Bb h (fun h => ?_) fun h => ?_
  ·refine wq rfl (qe rfl ?_)
   obtain rfl := sj h
   refine Af (sm [] [(2, bD false)] [] rfl rfl) (Aq ?_)
   exact ⟨⟨[_], tm, rfl⟩, tv⟩
  ·refine Ap (wp rfl (qe rfl ?_))
   refine A5 (L := CA N p0) h (fun v6 => mk [(1, oD (.ptr 1 0)), (3, iD v6)] [(1, .box (Ak p0))]) (fun v7 => mk [] []) (fun _ _ => rfl) (sm [] _ _ rfl rfl) (fun j6 n6 v6 h => ?_) (fun v7 s h hs => ?_)
   ·unfold CA at h
    refine wp rfl (qm rfl (qf BA rfl (ql EK rfl (AH CR rfl (A4 rfl (Ab ?_))))))
    refine Bb h (fun h => ?_) fun h => ?_
    ·refine Ap (AR (AT (AR ?_)))
     refine AF h (fun v9 => mk [(1, oD (.ptr 1 0)), (3, iD v6), (52, bD v9)] [(1, .box (Ak p0))]) (fun j9 h => ?_) (fun v9 h => ?_)
     ·refine Aj Aw rfl (qf BA rfl (ql EK rfl (qm rfl ?_)))
      refine BN h fun v10 a10 b10 h => qi CR BK a10 (Ag b10) rfl (qg Gx rfl (qk Fa rfl (AH DW rfl (Ed rfl (qm rfl ?_)))))
      refine Cp 43 h rfl (fun h => ?_) fun h => ?_
      ·refine qw 8 rfl (qp rfl (Ab ?_))
       exact sn [] h
      ·refine qf BA rfl (ql EK rfl (qm rfl ?_))
       refine BN h fun v12 a12 b12 h => qi CR BK a12 (Ag b12) rfl (qg D8 rfl (qk Fa rfl (AH DW rfl (Ed rfl (qp rfl (Ab ?_))))))
       exact sn [] h
     ·refine Bb h (fun h => ?_) fun h => ?_
      ·refine wq rfl (qe rfl ?_)
       obtain rfl := sj h
       refine Af (sm [] [(2, bD false)] [] rfl rfl) (Aq ?_)
       exact ⟨⟨[_], tm, rfl⟩, tv⟩
      ·refine Ap (wp rfl (qe rfl ?_))
       refine A5 (L := BL N p0 v6) h (fun v14 => mk [(1, oD (.ptr 1 0)), (3, iD v6), (4, iD v14)] [(1, .box (Ak p0))]) (fun v15 => mk [(1, oD (.ptr 1 0)), (3, iD v6)] [(1, .box (Ak p0))]) (fun _ _ => rfl) (sm [] _ _ rfl rfl) (fun j14 n14 v14 h => ?_) (fun v15 s h hs => ?_)
       ·unfold BL at h
        refine wp rfl (qm rfl (qf BA rfl (ql EK rfl (qm rfl ?_))))
        refine BN h fun v16 a16 b16 h => qi CR BK a16 (Ag b16) rfl (qg Gx rfl (qk Fa rfl (AH DW rfl (A4 rfl (Ab ?_)))))
        refine Bb h (fun h => ?_) fun h => ?_
        ·refine Ap (AR (AT (wq rfl (qf BA rfl (ql EK rfl (qm rfl ?_))))))
         refine BN h fun v18 a18 b18 h => qi CR BK a18 (Ag b18) rfl (qg Gx rfl (qk Fa rfl (qm rfl ?_)))
         refine BN h fun v19 a19 b19 h => qi DW Jz a19 (Ag b19) rfl (qk Jv rfl (AH HI rfl (Ed rfl (Ab ?_))))
         refine Bb h (fun h => ?_) fun h => ?_
         ·refine wq rfl (qe rfl ?_)
          obtain rfl := sj h
          refine Af (sm [] [(2, bD false)] [] rfl rfl) (Aq ?_)
          exact ⟨⟨[_], tm, rfl⟩, tv⟩
         ·refine Ap (Aj Aw rfl (qm rfl (Cl rfl (qe rfl ?_))))
          exact sn [] h
        ·refine BZ ?_
         exact sn [] h
       ·refine Af hs (wq rfl (qe rfl ?_))
        refine A5 (L := BM N p0 v6) h (fun v21 => mk [(1, oD (.ptr 1 0)), (3, iD v6), (5, iD v21)] [(1, .box (Ak p0))]) (fun v22 => mk [(1, oD (.ptr 1 0)), (3, iD v6)] [(1, .box (Ak p0))]) (fun _ _ => rfl) (sm [] _ _ rfl rfl) (fun j21 n21 v21 h => ?_) (fun v22 s h hs => ?_)
        ·unfold BM at h
         refine wp rfl (qm rfl (qf BA rfl (ql EK rfl (qm rfl ?_))))
         refine BN h fun v23 a23 b23 h => qi CR BK a23 (Ag b23) rfl (qg D8 rfl (qk Fa rfl (AH DW rfl (A4 rfl (Ab ?_)))))
         refine Bb h (fun h => ?_) fun h => ?_
         ·refine Ap (AR (AT (wq rfl (qf BA rfl (ql EK rfl (qm rfl ?_))))))
          refine BN h fun v25 a25 b25 h => qi CR BK a25 (Ag b25) rfl (qg D8 rfl (qk Fa rfl (qm rfl ?_)))
          refine BN h fun v26 a26 b26 h => qi DW Jz a26 (Ag b26) rfl (qk Jv rfl (AH HI rfl (Ed rfl (Ab ?_))))
          refine Bb h (fun h => ?_) fun h => ?_
          ·refine wq rfl (qe rfl ?_)
           obtain rfl := sj h
           refine Af (sm [] [(2, bD false)] [] rfl rfl) (Aq ?_)
           exact ⟨⟨[_], tm, rfl⟩, tv⟩
          ·refine Ap (Aj Aw rfl (qm rfl (Cl rfl (qe rfl ?_))))
           exact sn [] h
         ·refine BZ ?_
          exact sn [] h
        ·refine Af hs (Aj Aw rfl (qm rfl (Cl rfl (qe rfl ?_))))
         exact sn [] h
    ·refine BZ ?_
     exact sn [] h
   ·refine Af hs (wq rfl (qe rfl ?_))
    obtain rfl := sj h
    refine Af (sm [] [(2, bD true)] [] rfl rfl) (Aq ?_)
    exact ⟨⟨[_], tm, rfl⟩, tv⟩
theorem Kf (N : Nat) (p0 : BU) (r : Bool) (h : Ci N p0 = some r) : Ar zA 12 [.e (.agg (GF p0))] [] (bD r) := by
 unfold Ci at h
 refine cw (n := 24) (rs := [.tmp 2]) Tryz.func12 fun w0 S0 => ?_
 refine wq rfl (qb rfl (qe rfl ?_))
 refine AF h (fun v1 => mk [(2, bD v1)] []) (fun j1 h => ?_) (fun v1 h => ?_)
 ·refine Aj Aw rfl (qf NY rfl (qL DG DA rfl ?_))
  refine B4 h fun v2 a2 h => Av [] (JZ N ((Aa.mk p0.fd.fb p0.fd.fk p0.fd.fp p0.fd.fc)) v2 a2) Xu rfl (qm rfl ?_)
  refine Cp 6 h rfl (fun h => ?_) fun h => ?_
  ·refine qf N0 rfl (ql Bd rfl (AH AA rfl (KT rfl (qp rfl (qm rfl ?_)))))
   refine Cp 12 h rfl (fun h => ?_) fun h => ?_
   ·refine qf NU rfl (ql Rh rfl (AH GB rfl (KT rfl (qp rfl (qm rfl ?_)))))
    refine Cp 18 h rfl (fun h => ?_) fun h => ?_
    ·refine qf NN rfl (ql U5 rfl (AH D0 rfl (KT rfl (qp rfl (qe rfl ?_)))))
     exact sn [] h
    ·refine qw 4 rfl (qp rfl (qe rfl ?_))
     exact sn [] h
   ·refine qw 4 rfl (qp rfl (qw 5 rfl (qp rfl (qe rfl ?_))))
    exact sn [] h
  ·refine qw 4 rfl (qp rfl (qw 5 rfl (qp rfl (qw 5 rfl (qp rfl (qe rfl ?_))))))
   exact sn [] h
 ·obtain rfl := sj h
  refine Af (sm [] [(2, bD v1)] [] rfl rfl) (Aq ?_)
  exact ⟨⟨[_], tm, rfl⟩, tv⟩
theorem Fv (N : Nat) (p0 : List Ac) (r : (List Ac)) (h : Bx N p0 = some r) : Ar zA 14 [pD (.sl (p0.map AG))] [(11, r.map AG)] (oD (.own 0)) := by
 unfold Bx at h
 refine cw (n := 8) (rs := [.tmp 2]) Tryz.func14 fun w0 S0 => ?_
 refine wq rfl (qa rfl (Ab (wp rfl (qm rfl ?_))))
 refine Oe (.p rfl) rfl D0 ?_
 refine Ab ?_
 refine Nv rfl (fun c2 => ?_) ?_
 ·have c2 := xB.1 c2
  rw [c2] at h
  have h : (some (([] : List Ac))) = some r := h
  refine wq rfl (qe rfl ?_)
  obtain rfl := sj h
  refine Af ((Fx 2 2001 11 rfl rfl rfl).trans (sm [(1000, 2001)] [(2, oD (.own 1000))] [(1000, .vec 11 ((([] : List Ac)).map AG))] rfl rfl)) (Aq ?_)
  exact ⟨⟨[_], tm, rfl⟩, ⟨rfl, tv⟩⟩
 ·refine Ap (wq rfl (FJ D0 CY IR rfl (qm rfl ?_)))
  refine HL h fun c1 h => Kk (f := AG) D0 D0 CY VD IR (fun _ => rfl) c1 rfl (qe rfl ?_)
  obtain rfl := sj h
  refine Af (sm [(1000, 7)] [(2, oD (.own 1000))] [(1000, .vec 11 (((([] : List Ac)) ++ p0).map AG))] rfl rfl) (Aq ?_)
  exact ⟨⟨[_], tm, rfl⟩, ⟨rfl, tv⟩⟩
theorem B1 (N : Nat) (p0 : AK) (r : Bool) (h : AS N p0 = some r) : Ar zA 56 [.e (.agg (CC p0))] [] (bD r) := by
 unfold AS at h
 refine cw (n := 11) (rs := [.tmp 2]) Tryz.func56 fun w0 S0 => ?_
 refine wq rfl (qb rfl (qe rfl ?_))
 refine AF h (fun v1 => mk [(2, bD v1)] []) (fun j1 h => ?_) (fun v1 h => ?_)
 ·refine Aj Aw rfl (qf DX rfl (ql AW rfl (AN rfl (qm rfl ?_))))
  refine Cp 6 h rfl (fun h => ?_) fun h => ?_
  ·refine qw 3 rfl (qp rfl (qe rfl ?_))
   exact sn [] h
  ·refine qf DX rfl (ql AW rfl (AN rfl (qp rfl (qe rfl ?_))))
   exact sn [] h
 ·obtain rfl := sj h
  refine Af (sm [] [(2, bD v1)] [] rfl rfl) (Aq ?_)
  exact ⟨⟨[_], tm, rfl⟩, tv⟩
theorem GC (N : Nat) (p0 : List (List Bool)) (p1 : Int) (p2 : Int) (r : Bool) (h : Cz N p0 p1 p2 = some r) : Ar zA 143 [pD (.sl (p0.map (Lq eB))), iD p1, iD p2] [] (bD r) := by
 unfold Cz at h
 refine cw (n := 24) (rs := [.tmp 6]) Tryz.func143 fun w0 S0 => ?_
 refine wq rfl (qa rfl (Ab (wp rfl (qm rfl (AH DW rfl (qm rfl (BG rfl (Ab ?_))))))))
 refine Bb h (fun h => ?_) fun h => ?_
 ·refine wq rfl (qe rfl ?_)
  obtain rfl := sj h
  refine Af (sm [] [(6, bD false)] [] rfl rfl) (Aq ?_)
  exact ⟨⟨[_], tm, rfl⟩, tv⟩
 ·refine Ap (wp rfl (qe rfl ?_))
  refine A5 (L := BO N p0 p1 p2) h (fun v2 => mk [(0, pD (.sl (p0.map (Lq eB)))), (1, iD p1), (2, iD p2), (7, iD v2)] []) (fun v3 => mk [] []) (fun _ _ => rfl) (sm [] _ _ rfl rfl) (fun j2 n2 v2 h => ?_) (fun v3 s h hs => ?_)
  ·unfold BO at h
   refine wp rfl (qw 2 rfl (A4 rfl (Ab ?_)))
   refine Bb h (fun h => ?_) fun h => ?_
   ·refine Ap (AR (AT (wq rfl (qw 2 rfl ?_))))
    refine BN h fun v5 a5 b5 h => qi DW Jz a5 (Ag b5) rfl (qk Jv rfl (AH HI rfl (qm rfl (BG rfl (Ab ?_)))))
    refine Bb h (fun h => ?_) fun h => ?_
    ·refine wq rfl (qe rfl ?_)
     obtain rfl := sj h
     refine Af (sm [] [(6, bD false)] [] rfl rfl) (Aq ?_)
     exact ⟨⟨[_], tm, rfl⟩, tv⟩
    ·refine Ap (Aj Aw rfl (qm rfl (Cl rfl (qe rfl ?_))))
     exact sn [] h
   ·refine BZ ?_
    exact sn [] h
  ·refine Af hs (wq rfl (qe rfl ?_))
   obtain rfl := sj h
   refine Af (sm [] [(6, bD true)] [] rfl rfl) (Aq ?_)
   exact ⟨⟨[_], tm, rfl⟩, tv⟩
theorem Ja (N : Nat) (p0 : Aa) (p1 : AK) (r : Int) (h : DC N p0 p1 = some r) : Ar zA 101 [.e (.agg (Ak p0)), .e (.agg (CC p1))] [] (iD r) := by
 unfold DC at h
 refine cw (n := 101) (rs := [.tmp 4]) Tryz.func101 fun w0 S0 => ?_
 refine wq rfl (qb rfl (qb rfl (qa rfl (Ab (AR ?_)))))
 refine AF h (fun v1 => mk [(2, oD (.ptr 2 0)), (3, oD (.ptr 3 0)), (22, bD v1)] [(2, .box (Ak p0)), (3, .box (CC p1))]) (fun j1 h => ?_) (fun v1 h => ?_)
 ·refine Aj Aw rfl (qf DX rfl (ql AW rfl (A4 rfl (qm rfl ?_))))
  refine Cp 10 h rfl (fun h => ?_) fun h => ?_
  ·refine qw 3 rfl (qp rfl (qw 4 rfl (qu rfl (qu rfl (qn rfl (qp rfl (Ab ?_)))))))
   exact sn [] h
  ·refine qf DX rfl (ql AW rfl (Ed rfl (qp rfl (qm rfl ?_))))
   refine Cp 15 h rfl (fun h => ?_) fun h => ?_
   ·refine qw 3 rfl (qu rfl (qu rfl (qn rfl (qp rfl (Ab ?_)))))
    exact sn [] h
   ·refine qf OB rfl (ql Qd rfl (qm rfl ?_))
    refine Cp 18 h rfl (fun h => ?_) fun h => ?_
    ·refine qL Eu BK rfl ?_
     refine B4 h fun v5 a5 h => Av [] (B1 N p1 v5 a5) OW rfl (qp rfl (qp rfl (Ab ?_)))
     exact sn [] h
    ·refine qw 2 rfl (qp rfl (qp rfl (Ab ?_)))
     exact sn [] h
 ·refine Bb h (fun h => ?_) fun h => ?_
  ·refine wq rfl (qe rfl ?_)
   obtain rfl := sj h
   refine Af (sm [] [(4, iD 1)] [] rfl rfl) (Aq ?_)
   exact ⟨⟨[_], tm, rfl⟩, tv⟩
  ·refine Ap (wq rfl (qf BB rfl (ql Bd rfl (AH AA rfl (qa rfl (Ab (AR ?_)))))))
   refine AF h (fun v7 => mk [(2, oD (.ptr 2 0)), (3, oD (.ptr 3 0)), (45, bD v7)] [(2, .box (Ak p0)), (3, .box (CC p1))]) (fun j7 h => ?_) (fun v7 h => ?_)
   ·refine Aj Aw rfl (qf Cc rfl (ql AW rfl (A4 rfl (qm rfl ?_))))
    refine Cp 29 h rfl (fun h => ?_) fun h => ?_
    ·refine qw 4 rfl (qp rfl (qw 4 rfl (qp rfl (qw 5 rfl (qp rfl (Ab ?_))))))
     exact sn [] h
    ·refine qf Cc rfl (ql AW rfl (qm rfl (C9 rfl (qp rfl (qm rfl ?_)))))
     refine Cp 35 h rfl (fun h => ?_) fun h => ?_
     ·refine qw 3 rfl (qp rfl (qw 5 rfl (qp rfl (Ab ?_))))
      exact sn [] h
     ·refine qf FU rfl (ql AW rfl (A4 rfl (qp rfl (qm rfl ?_))))
      refine Cp 40 h rfl (fun h => ?_) fun h => ?_
      ·refine qw 4 rfl (qp rfl (Ab ?_))
       exact sn [] h
      ·refine qf FU rfl (ql AW rfl (qm rfl (C9 rfl (qp rfl (Ab ?_)))))
       exact sn [] h
   ·refine Bb h (fun h => ?_) fun h => ?_
    ·refine wq rfl (qe rfl ?_)
     obtain rfl := sj h
     refine Af (sm [] [(4, iD 4)] [] rfl rfl) (Aq ?_)
     exact ⟨⟨[_], tm, rfl⟩, tv⟩
    ·refine Ap (wp rfl (qf Gx rfl (ql Fa rfl (qf BB rfl (ql Bd rfl (qf Cc rfl (ql AW rfl ?_)))))))
     refine BN h fun v12 a12 b12 h => qi AA CK a12 (Ag b12) rfl (qk AW rfl (qf BB rfl (ql Bd rfl (qf FU rfl (ql AW rfl ?_)))))
     refine BN h fun v13 a13 b13 h => qi AA CK a13 (Ag b13) rfl (qk AW rfl ?_)
     refine B4 h fun v14 a14 h => Av [] (GC N p1.fE v12 v13 v14 a14) Uq rfl (B9 rfl (AE (by kernel_rfl) ?_))
     refine Bb h (fun h => ?_) fun h => ?_
     ·refine wq rfl (qe rfl ?_)
      obtain rfl := sj h
      refine Af (sm [] [(4, iD 6)] [] rfl rfl) (Aq ?_)
      exact ⟨⟨[_], tm, rfl⟩, tv⟩
     ·refine Ap (wp rfl (qf DX rfl (ql AW rfl (BG rfl (Ab ?_)))))
      refine Bb h (fun h => ?_) fun h => ?_
      ·refine wp rfl (qf D8 rfl (ql Fa rfl (AH DW rfl (BG rfl (Ab ?_)))))
       refine Bb h (fun h => ?_) fun h => ?_
       ·refine wq rfl (qe rfl ?_)
        obtain rfl := sj h
        refine Af (sm [] [(4, iD 6)] [] rfl rfl) (Aq ?_)
        exact ⟨⟨[_], tm, rfl⟩, tv⟩
       ·refine Ap (wq rfl (qe rfl ?_))
        obtain rfl := sj h
        refine Af (sm [] [(4, iD 0)] [] rfl rfl) (Aq ?_)
        exact ⟨⟨[_], tm, rfl⟩, tv⟩
      ·refine Ap (wp rfl (qf D8 rfl (ql Fa rfl (qf BB rfl (ql Bd rfl (qf Cc rfl (ql AW rfl ?_)))))))
       refine BN h fun v18 a18 b18 h => qi AA CK a18 (Ag b18) rfl (qk AW rfl (qf BB rfl (ql Bd rfl (qf Cc rfl (ql AW rfl ?_)))))
       refine BN h fun v19 a19 b19 h => qi AA CK a19 (Ag b19) rfl (qk AW rfl ?_)
       refine B4 h fun v20 a20 h => Av [] (GC N p1.fy v18 v19 v20 a20) Uq rfl (B9 rfl (AE (by kernel_rfl) ?_))
       refine Bb h (fun h => ?_) fun h => ?_
       ·refine wq rfl (qe rfl ?_)
        obtain rfl := sj h
        refine Af (sm [] [(4, iD 6)] [] rfl rfl) (Aq ?_)
        exact ⟨⟨[_], tm, rfl⟩, tv⟩
       ·refine Ap (wp rfl (qe rfl ?_))
        refine A5 (L := Bw N p1) h (fun v22 => mk [(3, oD (.ptr 3 0)), (6, iD v22)] [(3, .box (CC p1))]) (fun v23 => mk [] []) (fun _ _ => rfl) (sm [] _ _ rfl rfl) (fun j22 n22 v22 h => ?_) (fun v23 s h hs => ?_)
        ·unfold Bw at h
         refine wp rfl (qm rfl (qf D8 rfl (ql Fa rfl (AH DW rfl (A4 rfl (Ab ?_))))))
         refine Bb h (fun h => ?_) fun h => ?_
         ·refine Ap (AR (AT (wq rfl (qf D8 rfl (ql Fa rfl (qm rfl ?_))))))
          refine BN h fun v25 a25 b25 h => qi DW Jz a25 (Ag b25) rfl (qk Jv rfl (qm rfl ?_))
          refine BN h fun v26 a26 b26 h => qi HI Rm a26 (Ag b26) rfl (qk Qd rfl (B9 rfl (Ab ?_)))
          refine Bb h (fun h => ?_) fun h => ?_
          ·refine wq rfl (qe rfl ?_)
           obtain rfl := sj h
           refine Af (sm [] [(4, iD 1)] [] rfl rfl) (Aq ?_)
           exact ⟨⟨[_], tm, rfl⟩, tv⟩
          ·refine Ap (Aj Aw rfl (qm rfl (Cl rfl (qe rfl ?_))))
           exact sn [] h
         ·refine BZ ?_
          exact sn [] h
        ·refine Af hs (wq rfl (qe rfl ?_))
         obtain rfl := sj h
         refine Af (sm [] [(4, iD 0)] [] rfl rfl) (Aq ?_)
         exact ⟨⟨[_], tm, rfl⟩, tv⟩
theorem DY (N : Nat) (p0 : Aa) (r : Int) (h : Br N p0 = some r) : Ar zA 55 [.e (.agg (Ak p0))] [] (iD r) := by
 unfold Br at h
 refine cw (n := 102) (rs := [.tmp 2]) Tryz.func55 fun w0 S0 => ?_
 refine wq rfl (qb rfl (qa rfl (Ab (AR ?_))))
 refine AF h (fun v1 => mk [(1, oD (.ptr 1 0)), (16, bD v1)] [(1, .box (Ak p0))]) (fun j1 h => ?_) (fun v1 h => ?_)
 ·refine Aj Aw rfl (qf BB rfl (ql Bd rfl (AH AA rfl (Ed rfl (qm rfl ?_)))))
  refine Cp 11 h rfl (fun h => ?_) fun h => ?_
  ·refine qw 4 rfl (qp rfl (Ab ?_))
   exact sn [] h
  ·refine qf BA rfl (ql EK rfl (AH CR rfl (Ed rfl (qp rfl (Ab ?_)))))
   exact sn [] h
 ·refine Bb h (fun h => ?_) fun h => ?_
  ·refine wq rfl (qe rfl ?_)
   obtain rfl := sj h
   refine Af (sm [] [(2, iD 3)] [] rfl rfl) (Aq ?_)
   exact ⟨⟨[_], tm, rfl⟩, tv⟩
  ·refine Ap (AR ?_)
   refine AF h (fun v4 => mk [(1, oD (.ptr 1 0)), (32, bD v4)] [(1, .box (Ak p0))]) (fun j4 h => ?_) (fun v4 h => ?_)
   ·refine Aj Aw rfl (qf FO rfl (ql Bd rfl (AH AA rfl (qf BB rfl (ql Bd rfl (AH AA rfl (BG rfl (qm rfl ?_))))))))
    refine Cp 24 h rfl (fun h => ?_) fun h => ?_
    ·refine qw 7 rfl (qp rfl (Ab ?_))
     exact sn [] h
    ·refine qf I0 rfl (ql Bd rfl (AH AA rfl (qf BB rfl (ql Bd rfl (AH AA rfl (BG rfl (qp rfl (Ab ?_))))))))
     exact sn [] h
   ·refine Bb h (fun h => ?_) fun h => ?_
    ·refine wq rfl (qe rfl ?_)
     obtain rfl := sj h
     refine Af (sm [] [(2, iD 6)] [] rfl rfl) (Aq ?_)
     exact ⟨⟨[_], tm, rfl⟩, tv⟩
    ·refine Ap (wp rfl (qe rfl ?_))
     refine A5 (L := A2 N p0) h (fun v7 => mk [(1, oD (.ptr 1 0)), (3, iD v7)] [(1, .box (Ak p0))]) (fun v8 => mk [(1, oD (.ptr 1 0))] [(1, .box (Ak p0))]) (fun _ _ => rfl) (sm [] _ _ rfl rfl) (fun j7 n7 v7 h => ?_) (fun v8 s h hs => ?_)
     ·unfold A2 at h
      refine wp rfl (qm rfl (qf BB rfl (ql Bd rfl (AH AA rfl (A4 rfl (Ab ?_))))))
      refine Bb h (fun h => ?_) fun h => ?_
      ·refine Ap (AR (AT (wq rfl (qf BB rfl (ql Bd rfl (qm rfl ?_))))))
       refine BN h fun v10 a10 b10 h => qi AA CK a10 (Ag b10) rfl (qk AW rfl (qe rfl ?_))
       refine AF h (fun v11 => mk [(1, oD (.ptr 1 0)), (3, iD v7), (84, bD v11)] [(1, .box (Ak p0))]) (fun j11 h => ?_) (fun v11 h => ?_)
       ·refine Aj Aw rfl (qm rfl (A4 rfl (qm rfl ?_)))
        refine Cp 47 h rfl (fun h => ?_) fun h => ?_
        ·refine qw 2 rfl (qp rfl (qw 7 rfl (qp rfl (qw 8 rfl (qp rfl (qw 7 rfl (qp rfl (qw 8 rfl (qp rfl (Ab ?_))))))))))
         exact sn [] h
        ·refine qm rfl (Ed rfl (qp rfl (qm rfl ?_)))
         refine Cp 51 h rfl (fun h => ?_) fun h => ?_
         ·refine qw 6 rfl (qp rfl (qw 8 rfl (qp rfl (qw 7 rfl (qp rfl (qw 8 rfl (qp rfl (Ab ?_))))))))
          exact sn [] h
         ·refine qf FO rfl (ql Bd rfl (qm rfl ?_))
          refine BN h fun v14 a14 b14 h => qi AA CK a14 (Ag b14) rfl (qk AW rfl (A4 rfl (qp rfl (qm rfl ?_))))
          refine Cp 59 h rfl (fun h => ?_) fun h => ?_
          ·refine qw 7 rfl (qp rfl (qw 7 rfl (qp rfl (qw 8 rfl (qp rfl (Ab ?_))))))
           exact sn [] h
          ·refine qf FO rfl (ql Bd rfl (qm rfl ?_))
           refine BN h fun v16 a16 b16 h => qi AA CK a16 (Ag b16) rfl (qk AW rfl (qm rfl (C9 rfl (qp rfl (qm rfl ?_)))))
           refine Cp 68 h rfl (fun h => ?_) fun h => ?_
           ·refine qw 6 rfl (qp rfl (qw 8 rfl (qp rfl (Ab ?_))))
            exact sn [] h
           ·refine qf I0 rfl (ql Bd rfl (qm rfl ?_))
            refine BN h fun v18 a18 b18 h => qi AA CK a18 (Ag b18) rfl (qk AW rfl (A4 rfl (qp rfl (qm rfl ?_))))
            refine Cp 76 h rfl (fun h => ?_) fun h => ?_
            ·refine qw 7 rfl (qp rfl (Ab ?_))
             exact sn [] h
            ·refine qf I0 rfl (ql Bd rfl (qm rfl ?_))
             refine BN h fun v20 a20 b20 h => qi AA CK a20 (Ag b20) rfl (qk AW rfl (qm rfl (C9 rfl (qp rfl (Ab ?_)))))
             exact sn [] h
       ·refine Bb h (fun h => ?_) fun h => ?_
        ·refine wq rfl (qe rfl ?_)
         obtain rfl := sj h
         refine Af (sm [] [(2, iD 7)] [] rfl rfl) (Aq ?_)
         exact ⟨⟨[_], tm, rfl⟩, tv⟩
        ·refine Ap (Aj Aw rfl (qm rfl (Cl rfl (qe rfl ?_))))
         exact sn [] h
      ·refine BZ ?_
       exact sn [] h
     ·refine Af hs (wp rfl (qe rfl ?_))
      refine A5 (L := AY N p0) h (fun v22 => mk [(1, oD (.ptr 1 0)), (5, iD v22)] [(1, .box (Ak p0))]) (fun v23 => mk [] []) (fun _ _ => rfl) (sm [] _ _ rfl rfl) (fun j22 n22 v22 h => ?_) (fun v23 s h hs => ?_)
      ·unfold AY at h
       refine wp rfl (qm rfl (qf BA rfl (ql EK rfl (AH CR rfl (A4 rfl (Ab ?_))))))
       refine Bb h (fun h => ?_) fun h => ?_
       ·refine Ap (AR (AT (wq rfl (qL DG DA rfl (qf BA rfl (ql EK rfl (qm rfl ?_)))))))
        refine BN h fun v25 a25 b25 h => qi CR BK a25 (Ag b25) rfl (qK Eu BK rfl ?_)
        refine B4 h fun v26 a26 h => Av [] (Ja N p0 v25 v26 a26) Vk rfl (qa rfl (AE (by kernel_rfl) (wq rfl (qm rfl (BG rfl (Ab ?_))))))
        refine Bb h (fun h => ?_) fun h => ?_
        ·refine wq rfl (qm rfl (qe rfl ?_))
         obtain rfl := sj h
         refine Af (sm [] [(2, iD v26)] [] rfl rfl) (Aq ?_)
         exact ⟨⟨[_], tm, rfl⟩, tv⟩
        ·refine Ap (Aj Aw rfl (qm rfl (Cl rfl (qe rfl ?_))))
         exact sn [] h
       ·refine BZ ?_
        exact sn [] h
      ·refine Af hs (wq rfl (qe rfl ?_))
       obtain rfl := sj h
       refine Af (sm [] [(2, iD 0)] [] rfl rfl) (Aq ?_)
       exact ⟨⟨[_], tm, rfl⟩, tv⟩
theorem Ip (N : Nat) (p0 : Aa) (p1 : List Int) (r : Int) (h : C2 N p0 p1 = some r) : Ar zA 58 [.e (.agg (Ak p0)), pD (.sl (p1.map As))] [] (iD r) := by
 unfold C2 at h
 refine cw (n := 36) (rs := [.tmp 4]) Tryz.func58 fun w0 S0 => ?_
 refine wq rfl (qb rfl (qa rfl (Ab (wp rfl (qL DG DA rfl ?_)))))
 refine B4 h fun v1 a1 h => Av [] (DY N p0 v1 a1) U2 rfl (qa rfl (Ab (wq rfl (qm rfl (BG rfl (Ab ?_))))))
 refine Bb h (fun h => ?_) fun h => ?_
 ·refine wq rfl (qm rfl (qe rfl ?_))
  obtain rfl := sj h
  refine Af (sm [] [(4, iD v1)] [] rfl rfl) (Aq ?_)
  exact ⟨⟨[_], tm, rfl⟩, tv⟩
 ·refine Ap (wp rfl (qm rfl (AH AA rfl (qf BB rfl (ql Bd rfl (AH AA rfl (BG rfl (Ab ?_))))))))
  refine Bb h (fun h => ?_) fun h => ?_
  ·refine wq rfl (qe rfl ?_)
   obtain rfl := sj h
   refine Af (sm [] [(4, iD 6)] [] rfl rfl) (Aq ?_)
   exact ⟨⟨[_], tm, rfl⟩, tv⟩
  ·refine Ap (wp rfl (qe rfl ?_))
   refine A5 (L := B3 N p1) h (fun v4 => mk [(1, pD (.sl (p1.map As))), (6, iD v4)] []) (fun v5 => mk [] []) (fun _ _ => rfl) (sm [] _ _ rfl rfl) (fun j4 n4 v4 h => ?_) (fun v5 s h hs => ?_)
   ·unfold B3 at h
    refine wp rfl (qw 2 rfl (AH AA rfl (A4 rfl (Ab ?_))))
    refine Bb h (fun h => ?_) fun h => ?_
    ·refine Ap (AR (AT ?_))
     refine AF h (fun v7 => mk [(1, pD (.sl (p1.map As))), (6, iD v4), (35, bD v7)] []) (fun j7 h => ?_) (fun v7 h => ?_)
     ·refine Aj Aw rfl (qw 2 rfl ?_)
      refine BN h fun v8 a8 b8 h => qi AA CK a8 (Ag b8) rfl (qk AW rfl (A4 rfl (qm rfl ?_)))
      refine Cp 29 h rfl (fun h => ?_) fun h => ?_
      ·refine qw 5 rfl (qp rfl (Ab ?_))
       exact sn [] h
      ·refine qw 2 rfl ?_
       refine BN h fun v10 a10 b10 h => qi AA CK a10 (Ag b10) rfl (qk AW rfl (Ed rfl (qp rfl (Ab ?_))))
       exact sn [] h
     ·refine Bb h (fun h => ?_) fun h => ?_
      ·refine wq rfl (qe rfl ?_)
       obtain rfl := sj h
       refine Af (sm [] [(4, iD 7)] [] rfl rfl) (Aq ?_)
       exact ⟨⟨[_], tm, rfl⟩, tv⟩
      ·refine Ap (Aj Aw rfl (qm rfl (Cl rfl (qe rfl ?_))))
       exact sn [] h
    ·refine BZ ?_
     exact sn [] h
   ·refine Af hs (wq rfl (qe rfl ?_))
    obtain rfl := sj h
    refine Af (sm [] [(4, iD 0)] [] rfl rfl) (Aq ?_)
    exact ⟨⟨[_], tm, rfl⟩, tv⟩
theorem GN (N : Nat) (p0 : Aa) (r : Ae × Int) (h : CN N p0 = some r) : Ar zA 74 [.e (.agg (Ak p0))] [(1, r.1.fh.map As), (1, r.1.ff.map As), (1, r.1.fg.map Dm)] (.tup [.agg [.own 0, .own 1, .own 2], .one (iC r.2)]) := by
 unfold CN at h
 refine cw (n := 68) (rs := [.cell 2 40, .tmp 3]) Tryz.func74 fun w0 S0 => ?_
 refine wq rfl (qb rfl (qz Dj rfl (qa rfl (Ab (wp rfl (qL DG DA rfl ?_))))))
 refine B4 h fun v1 a1 h => Av [] (DY N p0 v1 a1) U2 rfl (qa rfl (Ab (wq rfl (qm rfl (BG rfl (Ab ?_))))))
 refine Bb h (fun h => ?_) fun h => ?_
 ·refine wq rfl (Bq Dj GS rfl (qm rfl (qs AU rfl (qe rfl ?_))))
  obtain rfl := sj h
  refine Af ((Ax 2 0 2001 1 _ rfl rfl rfl rfl).trans ((Ax 2 1 2002 1 _ rfl rfl rfl rfl).trans ((Ax 2 2 2003 1 _ rfl rfl rfl rfl).trans (sm [(1000, 2001), (1001, 2002), (1002, 2003)] [(2, oD (.ptr 2 0)), (3, iD v1)] [(2, .box [.own 1000, .own 1001, .own 1002]), (1000, .vec 1 ((([] : List Int)).map As)), (1001, .vec 1 ((([] : List Int)).map As)), (1002, .vec 1 ((([] : List Int)).map Dm))] rfl rfl)))) (Aq ?_)
  exact ⟨⟨[_, _], ⟨.cellN _ _ _ _ _ _ _ rfl rfl B0 AU rfl rfl (HQ rfl), tm⟩, rfl⟩, ⟨rfl, rfl, rfl, tv⟩⟩
 ·refine Ap (wq rfl (qz Dj rfl (Ab (wp rfl (qe rfl ?_)))))
  refine A5 (L := BC N p0) h (fun v3 => mk [(1, oD (.ptr 1 0)), (2, oD (.ptr 2 0)), (5, oD (.ptr 5 0)), (6, iD v3.2.2)] [(1, .box (Ak p0)), (2, .box [.pure (.nil0), .pure (.nil0), .pure (.nil0)]), (5, .box [.own 2004, .own 2005, .pure (.nil0)]), (2004, .vec 1 (v3.1.map As)), (2005, .vec 1 (v3.2.1.map As))]) (fun v4 => mk [(1, oD (.ptr 1 0)), (2, oD (.ptr 2 0)), (5, oD (.ptr 5 0))] [(1, .box (Ak p0)), (2, .box [.pure (.nil0), .pure (.nil0), .pure (.nil0)]), (5, .box [.own 2006, .own 2007, .pure (.nil0)]), (2006, .vec 1 (v4.1.map As)), (2007, .vec 1 (v4.2.map As))]) (fun _ _ => rfl) ((Ax 5 0 2008 1 _ rfl rfl rfl rfl).trans ((Ax 5 1 2009 1 _ rfl rfl rfl rfl).trans (sm [(2004, 2008), (2005, 2009)] _ _ rfl rfl))) (fun j3 n3 v3 h => ?_) (fun v4 s h hs => ?_)
  ·unfold BC at h
   refine wp rfl (qm rfl (qf BB rfl (ql Bd rfl (AH AA rfl (A4 rfl (Ab ?_))))))
   refine Bb h (fun h => ?_) fun h => ?_
   ·refine Ap (AR (AT (wq rfl (qf C4 rfl (ql Bd rfl (qf FO rfl (ql Bd rfl (qm rfl ?_))))))))
    refine BN h fun v6 a6 b6 h => qi AA CK a6 (Ag b6) rfl (qk AW rfl (FJ AA CK Ok rfl ?_))
    refine HL h fun c7 h => Lr (f := As) AA AA CK Q8 Ok c7 rfl (qf C4 rfl (qs Wm rfl (AE (by kernel_rfl) (Aj Aw rfl (qf BT rfl (ql Bd rfl (FJ AA CK Ok rfl ?_)))))))
    refine HL h fun c8 h => Lr (f := As) AA AA CK Q8 Ok c8 rfl (qf BT rfl (qs Wm rfl (Ab (Aj Aw rfl (qm rfl (Cl rfl (qe rfl ?_)))))))
    exact sn [(2004, 30), (2005, 35)] h
   ·refine BZ ?_
    exact sn [(2006, 2004), (2007, 2005)] h
  ·refine Af hs (wp rfl (qe rfl ?_))
   refine A5 (L := A1 N p0) h (fun v9 => mk [(1, oD (.ptr 1 0)), (2, oD (.ptr 2 0)), (5, oD (.ptr 5 0)), (7, iD v9.2)] [(1, .box (Ak p0)), (2, .box [.pure (.nil0), .pure (.nil0), .pure (.nil0)]), (5, .box [.own 2010, .own 2011, .own 2012]), (2010, .vec 1 (v4.1.map As)), (2011, .vec 1 (v4.2.map As)), (2012, .vec 1 (v9.1.map Dm))]) (fun v10 => mk [(2, oD (.ptr 2 0)), (5, oD (.ptr 5 0))] [(2, .box [.pure (.nil0), .pure (.nil0), .pure (.nil0)]), (5, .box [.own 2013, .own 2014, .own 2015]), (2013, .vec 1 (v4.1.map As)), (2014, .vec 1 (v4.2.map As)), (2015, .vec 1 (v10.map Dm))]) (fun _ _ => rfl) ((Ax 5 2 2019 1 _ rfl rfl rfl rfl).trans (sm [(2010, 2006), (2011, 2007), (2012, 2019)] _ _ rfl rfl)) (fun j9 n9 v9 h => ?_) (fun v10 s h hs => ?_)
   ·unfold A1 at h
    refine wp rfl (qm rfl (qf BA rfl (ql EK rfl (AH CR rfl (A4 rfl (Ab ?_))))))
    refine Bb h (fun h => ?_) fun h => ?_
    ·refine Ap (AR (AT (wq rfl (qe rfl ?_))))
     refine AF h (fun v12 => mk [(1, oD (.ptr 1 0)), (2, oD (.ptr 2 0)), (5, oD (.ptr 5 0)), (7, iD v9.2), (8, pD (.val (.int .u8 v12)))] [(1, .box (Ak p0)), (2, .box [.pure (.nil0), .pure (.nil0), .pure (.nil0)]), (5, .box [.own 2016, .own 2017, .own 2018]), (2016, .vec 1 (v4.1.map As)), (2017, .vec 1 (v4.2.map As)), (2018, .vec 1 (v9.1.map Dm))]) (fun j12 h => ?_) (fun v12 h => ?_)
     ·refine wq rfl (qf BA rfl (ql EK rfl (qm rfl ?_)))
      refine BN h fun v13 a13 b13 h => qi CR BK a13 (Ag b13) rfl (qK Eu BK rfl ?_)
      refine B4 h fun v14 a14 h => Av [] (B1 N v13 v14 a14) OW rfl (Ab ?_)
      refine Bb h (fun h => ?_) fun h => ?_
      ·refine Aj Aw rfl (qf FO rfl (ql Bd rfl (qf BA rfl (ql EK rfl (qm rfl ?_)))))
       refine BN h fun v16 a16 b16 h => qi CR BK a16 (Ag b16) rfl (qg Cc rfl (qk AW rfl ?_))
       refine BN h fun v17 a17 b17 h => qi AA CK a17 (Ag b17) rfl (qk AW rfl ?_)
       refine HL h fun c18 h => Ik rfl c18 (qa rfl (AE (by kernel_rfl) ?_))
       exact sn [(2016, 2010), (2017, 2011), (2018, 2012)] h
      ·refine Ap ?_
       exact sn [(2016, 2010), (2017, 2011), (2018, 2012)] h
     ·refine Aj Aw rfl (qf CF rfl (ql GV rfl (qm rfl (FJ DQ DR LO rfl ?_))))
      refine HL h fun c19 h => Lr (f := Dm) DQ DQ DR Oj LO c19 rfl (qf CF rfl (qs Xp rfl (Ab (Aj Aw rfl (qm rfl (Cl rfl (qe rfl ?_)))))))
      exact sn [(2010, 2016), (2011, 2017), (2012, 65)] h
    ·refine BZ ?_
     exact sn [(2013, 2010), (2014, 2011), (2015, 2012)] h
   ·refine Af hs (wq rfl (qL B0 AU rfl (qs AU rfl (qe rfl ?_))))
    obtain rfl := sj h
    refine Af (sm [(1000, 2013), (1001, 2014), (1002, 2015)] [(2, oD (.ptr 2 0)), (3, iD 0)] [(2, .box [.own 1000, .own 1001, .own 1002]), (1000, .vec 1 (v4.1.map As)), (1001, .vec 1 (v4.2.map As)), (1002, .vec 1 (v10.map Dm))] rfl rfl) (Aq ?_)
    exact ⟨⟨[_, _], ⟨.cellN _ _ _ _ _ _ _ rfl rfl B0 AU rfl rfl (HQ rfl), tm⟩, rfl⟩, ⟨rfl, rfl, rfl, tv⟩⟩
theorem EO (N : Nat) (p0 : Ae) (p1 : Int) (r : Int) (h : B6 N p0 p1 = some r) : Ar zA 57 [.e (.agg (Bh p0)), iD p1] [] (pD (.val (.int .u8 r))) := by
 unfold B6 at h
 refine cw (n := 27) (rs := [.tmp 4]) Tryz.func57 fun w0 S0 => ?_
 refine wq rfl (qb rfl (qa rfl (Ab (wq rfl (qf C4 rfl (ql Bd rfl (qm rfl ?_)))))))
 refine BN h fun v1 a1 b1 h => qi AA CK a1 (Ag b1) rfl (qk AW rfl ?_)
 refine HL h fun c2 h => Ik rfl c2 (qe rfl ?_)
 refine AF h (fun v3 => mk [(5, pD (.val (.int .u8 v3)))] []) (fun j3 h => ?_) (fun v3 h => ?_)
 ·refine wq rfl (qf BT rfl (ql Bd rfl (qm rfl ?_)))
  refine BN h fun v4 a4 b4 h => qi AA CK a4 (Ag b4) rfl (qk AW rfl (C9 rfl (Ab ?_)))
  refine Bb h (fun h => ?_) fun h => ?_
  ·refine Aj Aw rfl (qm rfl (qf BT rfl (ql Bd rfl (qm rfl ?_))))
   refine BN h fun v6 a6 b6 h => qi AA CK a6 (Ag b6) rfl (qk AW rfl ?_)
   refine HL h fun c7 h => Ik rfl c7 (RM rfl (qe rfl ?_))
   exact sn [] h
  ·refine Ap ?_
   exact sn [] h
 ·refine wq rfl (qm rfl (qe rfl ?_))
  obtain rfl := sj h
  refine Af (sm [] [(4, pD (.val (.int .u8 v3)))] [] rfl rfl) (Aq ?_)
  exact ⟨⟨[_], tm, rfl⟩, tv⟩
theorem GK (N : Nat) (p0 : Aa) (p1 : Ae) (r : Int) (h : CQ N p0 p1 = some r) : Ar zA 22 [.e (.agg (Ak p0)), .e (.agg (Bh p1))] [] (iD r) := by
 unfold CQ at h
 refine cw (n := 154) (rs := [.tmp 4]) Tryz.func22 fun w0 S0 => ?_
 refine wq rfl (qb rfl (qb rfl (qa rfl (Ab (wp rfl (qL DG DA rfl ?_))))))
 refine B4 h fun v1 a1 h => Av [] (DY N p0 v1 a1) U2 rfl (qa rfl (Ab (wq rfl (qm rfl (BG rfl (Ab ?_))))))
 refine Bb h (fun h => ?_) fun h => ?_
 ·refine wq rfl (qm rfl (qe rfl ?_))
  obtain rfl := sj h
  refine Af (sm [] [(4, iD v1)] [] rfl rfl) (Aq ?_)
  exact ⟨⟨[_], tm, rfl⟩, tv⟩
 ·refine Ap (wq rfl (qf BB rfl (ql Bd rfl (AH AA rfl (qa rfl (Ab (AR ?_)))))))
  refine AF h (fun v3 => mk [(2, oD (.ptr 2 0)), (3, oD (.ptr 3 0)), (6, iD ((p0.fb.length : Int))), (39, bD v3)] [(2, .box (Ak p0)), (3, .box (Bh p1))]) (fun j3 h => ?_) (fun v3 h => ?_)
  ·refine Aj Aw rfl (qf C4 rfl (ql Bd rfl (AH AA rfl (qm rfl (BG rfl (qm rfl ?_))))))
   refine Cp 24 h rfl (fun h => ?_) fun h => ?_
   ·refine qw 5 rfl (qp rfl (qw 8 rfl (qp rfl (Ab ?_))))
    exact sn [] h
   ·refine qf BT rfl (ql Bd rfl (AH AA rfl (qm rfl (BG rfl (qp rfl (qm rfl ?_))))))
    refine Cp 31 h rfl (fun h => ?_) fun h => ?_
    ·refine qw 7 rfl (qp rfl (Ab ?_))
     exact sn [] h
    ·refine qf CF rfl (ql GV rfl (AH DQ rfl (qf BA rfl (ql EK rfl (AH CR rfl (BG rfl (qp rfl (Ab ?_))))))))
     exact sn [] h
  ·refine Bb h (fun h => ?_) fun h => ?_
   ·refine wq rfl (qe rfl ?_)
    obtain rfl := sj h
    refine Af (sm [] [(4, iD 6)] [] rfl rfl) (Aq ?_)
    exact ⟨⟨[_], tm, rfl⟩, tv⟩
   ·refine Ap (wp rfl (qe rfl ?_))
    refine A5 (L := BE N p0 p1) h (fun v7 => mk [(2, oD (.ptr 2 0)), (3, oD (.ptr 3 0)), (6, iD ((p0.fb.length : Int))), (7, iD v7)] [(2, .box (Ak p0)), (3, .box (Bh p1))]) (fun v8 => mk [(2, oD (.ptr 2 0)), (3, oD (.ptr 3 0))] [(2, .box (Ak p0)), (3, .box (Bh p1))]) (fun _ _ => rfl) (sm [] _ _ rfl rfl) (fun j7 n7 v7 h => ?_) (fun v8 s h hs => ?_)
    ·unfold BE at h
     refine wp rfl (qw 2 rfl (A4 rfl (Ab ?_)))
     refine Bb h (fun h => ?_) fun h => ?_
     ·refine Ap (AR (AT (AR ?_)))
      refine AF h (fun v10 => mk [(2, oD (.ptr 2 0)), (3, oD (.ptr 3 0)), (6, iD ((p0.fb.length : Int))), (7, iD v7), (84, bD v10)] [(2, .box (Ak p0)), (3, .box (Bh p1))]) (fun j10 h => ?_) (fun v10 h => ?_)
      ·refine Aj Aw rfl (qf C4 rfl (ql Bd rfl (qm rfl ?_)))
       refine BN h fun v11 a11 b11 h => qi AA CK a11 (Ag b11) rfl (qk AW rfl (A4 rfl (qm rfl ?_)))
       refine Cp 51 h rfl (fun h => ?_) fun h => ?_
       ·refine qw 11 rfl (qp rfl (qw 7 rfl (qp rfl (qw 12 rfl (qp rfl (AE (by kernel_rfl) ?_))))))
        exact sn [] h
       ·refine qf C4 rfl (ql Bd rfl (qm rfl ?_))
        refine BN h fun v13 a13 b13 h => qi AA CK a13 (Ag b13) rfl (qk AW rfl (qf BB rfl (ql Bd rfl (qm rfl ?_))))
        refine BN h fun v14 a14 b14 h => qi AA CK a14 (Ag b14) rfl (qk AW rfl (C9 rfl (qp rfl (qm rfl ?_))))
        refine Cp 64 h rfl (fun h => ?_) fun h => ?_
        ·refine qw 6 rfl (qp rfl (qw 12 rfl (qp rfl (AE (by kernel_rfl) ?_))))
         exact sn [] h
        ·refine qf BT rfl (ql Bd rfl (qm rfl ?_))
         refine BN h fun v16 a16 b16 h => qi AA CK a16 (Ag b16) rfl (qk AW rfl (A4 rfl (qp rfl (qm rfl ?_))))
         refine Cp 72 h rfl (fun h => ?_) fun h => ?_
         ·refine qw 11 rfl (qp rfl (AE (by kernel_rfl) ?_))
          exact sn [] h
         ·refine qf BT rfl (ql Bd rfl (qm rfl ?_))
          refine BN h fun v18 a18 b18 h => qi AA CK a18 (Ag b18) rfl (qk AW rfl (qf BB rfl (ql Bd rfl (qm rfl ?_))))
          refine BN h fun v19 a19 b19 h => qi AA CK a19 (Ag b19) rfl (qk AW rfl (C9 rfl (qp rfl (AE (by kernel_rfl) ?_))))
          exact sn [] h
      ·refine Bb h (fun h => ?_) fun h => ?_
       ·refine wq rfl (qe rfl ?_)
        obtain rfl := sj h
        refine Af (sm [] [(4, iD 7)] [] rfl rfl) (Aq ?_)
        exact ⟨⟨[_], tm, rfl⟩, tv⟩
       ·refine Ap (wq rfl (qf C4 rfl (ql Bd rfl (qm rfl ?_))))
        refine BN h fun v21 a21 b21 h => qi AA CK a21 (Ag b21) rfl (qk AW rfl (qf BT rfl (ql Bd rfl (qm rfl ?_))))
        refine BN h fun v22 a22 b22 h => qi AA CK a22 (Ag b22) rfl (qk AW rfl (AN rfl (AE (by kernel_rfl) ?_)))
        refine Bb h (fun h => ?_) fun h => ?_
        ·refine wq rfl (qe rfl ?_)
         obtain rfl := sj h
         refine Af (sm [] [(4, iD 1)] [] rfl rfl) (Aq ?_)
         exact ⟨⟨[_], tm, rfl⟩, tv⟩
        ·refine Ap (Aj Aw rfl (qm rfl (Cl rfl (qe rfl ?_))))
         exact sn [] h
     ·refine BZ ?_
      exact sn [] h
    ·refine Af hs (wp rfl (qe rfl ?_))
     refine A5 (L := Bu N p0 p1) h (fun v24 => mk [(2, oD (.ptr 2 0)), (3, oD (.ptr 3 0)), (8, iD v24)] [(2, .box (Ak p0)), (3, .box (Bh p1))]) (fun v25 => mk [] []) (fun _ _ => rfl) (sm [] _ _ rfl rfl) (fun j24 n24 v24 h => ?_) (fun v25 s h hs => ?_)
     ·unfold Bu at h
      refine wp rfl (qm rfl (qf BA rfl (ql EK rfl (AH CR rfl (A4 rfl (Ab ?_))))))
      refine Bb h (fun h => ?_) fun h => ?_
      ·refine Ap (AR (AT (wq rfl (qf BA rfl (ql EK rfl (qm rfl ?_))))))
       refine BN h fun v27 a27 b27 h => qi CR BK a27 (Ag b27) rfl (qK Eu BK rfl (qz IC rfl (qs BK rfl (Ab (wq rfl (qf BB rfl (ql Bd rfl (qf Cc rfl (ql AW rfl ?_)))))))))
       refine BN h fun v28 a28 b28 h => qi AA CK a28 (Ag b28) rfl (qk AW rfl ?_)
       refine HL h fun c29 h => Ik rfl c29 (J9 rfl (qe rfl ?_))
       refine AF h (fun v30 => mk [(2, oD (.ptr 2 0)), (3, oD (.ptr 3 0)), (8, iD v24), (153, bD v30)] [(2, .box (Ak p0)), (3, .box (Bh p1))]) (fun j30 h => ?_) (fun v30 h => ?_)
       ·refine Aj Aw rfl (qL Eu BK rfl ?_)
        refine B4 h fun v31 a31 h => Av [] (B1 N v27 v31 a31) OW rfl (B9 rfl (qm rfl ?_))
        refine Cp 119 h rfl (fun h => ?_) fun h => ?_
        ·refine qf CF rfl (ql GV rfl (qm rfl ?_))
         refine BN h fun v33 a33 b33 h => qi DQ DR a33 (Ag b33) rfl (qk Hl rfl (BG rfl (qp rfl (qm rfl ?_))))
         refine Cp 127 h rfl (fun h => ?_) fun h => ?_
         ·refine qw 3 rfl (qu rfl (qu rfl (qu rfl (qu rfl (qu rfl (qu rfl (qu rfl (qu rfl (qu rfl (qu rfl (qu rfl (qu rfl (qu rfl (qu rfl (qu rfl (qu rfl (qu rfl (qu rfl (qu rfl (qu rfl (qu rfl (qn rfl (qp rfl (AE (by kernel_rfl) ?_))))))))))))))))))))))))
          exact sn [] h
         ·refine qL Eu BK rfl ?_
          refine B4 h fun v35 a35 h => Av [] (B1 N v27 v35 a35) OW rfl (qm rfl ?_)
          refine Cp 130 h rfl (fun h => ?_) fun h => ?_
          ·refine qf CF rfl (ql GV rfl (qm rfl ?_))
           refine BN h fun v37 a37 b37 h => qi DQ DR a37 (Ag b37) rfl (qk Hl rfl (qm rfl (Hd rfl (BG rfl (qm rfl ?_)))))
           refine Cp 139 h rfl (fun h => ?_) fun h => ?_
           ·refine qw 11 rfl (qp rfl (qp rfl (qp rfl (AE (by kernel_rfl) ?_))))
            exact sn [] h
           ·refine qL B0 AU rfl (qf Cc rfl (ql AW rfl ?_))
            refine B4 h fun v39 a39 h => Av [] (EO N p1 v27.fj v39 a39) UD rfl (qf CF rfl (ql GV rfl (qm rfl ?_)))
            refine BN h fun v40 a40 b40 h => qi DQ DR a40 (Ag b40) rfl (qk Hl rfl (Hd rfl (BG rfl (qp rfl (qp rfl (qp rfl (AE (by kernel_rfl) ?_)))))))
            exact sn [] h
          ·refine qw 9 rfl (qu rfl (qu rfl (qu rfl (qu rfl (qu rfl (qu rfl (qu rfl (qu rfl (qu rfl (qu rfl (qu rfl (qn rfl (qp rfl (qp rfl (AE (by kernel_rfl) ?_)))))))))))))))
           exact sn [] h
        ·refine qw 6 rfl (qp rfl (qm rfl (qL Eu BK rfl ?_)))
         refine B4 h fun v41 a41 h => Av [] (B1 N v27 v41 a41) OW rfl (qm rfl ?_)
         refine Cp 130 h rfl (fun h => ?_) fun h => ?_
         ·refine qf CF rfl (ql GV rfl (qm rfl ?_))
          refine BN h fun v43 a43 b43 h => qi DQ DR a43 (Ag b43) rfl (qk Hl rfl (qm rfl (Hd rfl (BG rfl (qm rfl ?_)))))
          refine Cp 139 h rfl (fun h => ?_) fun h => ?_
          ·refine qw 11 rfl (qp rfl (qp rfl (qp rfl (AE (by kernel_rfl) ?_))))
           exact sn [] h
          ·refine qL B0 AU rfl (qf Cc rfl (ql AW rfl ?_))
           refine B4 h fun v45 a45 h => Av [] (EO N p1 v27.fj v45 a45) UD rfl (qf CF rfl (ql GV rfl (qm rfl ?_)))
           refine BN h fun v46 a46 b46 h => qi DQ DR a46 (Ag b46) rfl (qk Hl rfl (Hd rfl (BG rfl (qp rfl (qp rfl (qp rfl (AE (by kernel_rfl) ?_)))))))
           exact sn [] h
         ·refine qw 9 rfl (qu rfl (qu rfl (qu rfl (qu rfl (qu rfl (qu rfl (qu rfl (qu rfl (qu rfl (qu rfl (qu rfl (qn rfl (qp rfl (qp rfl (AE (by kernel_rfl) ?_)))))))))))))))
          exact sn [] h
       ·refine Bb h (fun h => ?_) fun h => ?_
        ·refine wq rfl (qe rfl ?_)
         obtain rfl := sj h
         refine Af (sm [] [(4, iD 1)] [] rfl rfl) (Aq ?_)
         exact ⟨⟨[_], tm, rfl⟩, tv⟩
        ·refine Ap (Aj Aw rfl (qm rfl (Cl rfl (qe rfl ?_))))
         exact sn [] h
      ·refine BZ ?_
       exact sn [] h
     ·refine Af hs (wq rfl (qe rfl ?_))
      obtain rfl := sj h
      refine Af (sm [] [(4, iD 0)] [] rfl rfl) (Aq ?_)
      exact ⟨⟨[_], tm, rfl⟩, tv⟩
theorem Jg (N : Nat) (p0 : Am) (r : Bool) (h : DB N p0 = some r) : Ar zA 156 [.e (.agg (BQ p0))] [] (bD r) := by
 unfold DB at h
 refine cw (n := 31) (rs := [.tmp 2]) Tryz.func156 fun w0 S0 => ?_
 refine wq rfl (qb rfl (qe rfl ?_))
 refine AF h (fun v1 => mk [(2, bD v1)] []) (fun j1 h => ?_) (fun v1 h => ?_)
 ·refine Aj Aw rfl (qf C0 rfl (ql AW rfl (C9 rfl (qm rfl ?_))))
  refine Cp 6 h rfl (fun h => ?_) fun h => ?_
  ·refine qf C0 rfl (ql AW rfl (KT rfl (qp rfl (qm rfl ?_))))
   refine Cp 11 h rfl (fun h => ?_) fun h => ?_
   ·refine qf DK rfl (ql AW rfl (C9 rfl (qp rfl (qm rfl ?_))))
    refine Cp 16 h rfl (fun h => ?_) fun h => ?_
    ·refine qf Fo rfl (ql AW rfl (C9 rfl (qp rfl (qm rfl ?_))))
     refine Cp 21 h rfl (fun h => ?_) fun h => ?_
     ·refine qf C0 rfl (ql AW rfl (AN rfl (qm rfl ?_)))
      refine Cp 25 h rfl (fun h => ?_) fun h => ?_
      ·refine qw 3 rfl (qp rfl (qp rfl (qe rfl ?_)))
       exact sn [] h
      ·refine qf Fo rfl (ql AW rfl (AN rfl (qp rfl (qp rfl (qe rfl ?_)))))
       exact sn [] h
     ·refine qw 4 rfl (qu rfl (qu rfl (qu rfl (qn rfl (qp rfl (qe rfl ?_))))))
      exact sn [] h
    ·refine qw 3 rfl (qp rfl (qw 5 rfl (qu rfl (qu rfl (qu rfl (qn rfl (qp rfl (qe rfl ?_))))))))
     exact sn [] h
   ·refine qw 3 rfl (qp rfl (qw 4 rfl (qp rfl (qw 5 rfl (qu rfl (qu rfl (qu rfl (qn rfl (qp rfl (qe rfl ?_))))))))))
    exact sn [] h
  ·refine qw 3 rfl (qp rfl (qw 4 rfl (qp rfl (qw 4 rfl (qp rfl (qw 5 rfl (qu rfl (qu rfl (qu rfl (qn rfl (qp rfl (qe rfl ?_))))))))))))
   exact sn [] h
 ·obtain rfl := sj h
  refine Af (sm [] [(2, bD v1)] [] rfl rfl) (Aq ?_)
  exact ⟨⟨[_], tm, rfl⟩, tv⟩
theorem zFS (N : Nat) (p0 : Int) (p1 : Int) (r : Bool) (h : Ck N p0 p1 = some r) : Ar zA 79 [pD (.val (.int .u8 p0)), iD p1] [] (bD r) := by
 unfold Ck at h
 refine cw (n := 10) (rs := [.tmp 4]) Tryz.func79 fun w0 S0 => ?_
 refine wq rfl (qa rfl (Ab (wq rfl (qw 2 rfl ?_))))
 refine HL h fun c1 h => K1 rfl c1 (Nb rfl (AN rfl (qe rfl ?_)))
 obtain rfl := sj h
 refine Af (sm [] [(4, bD (((Ft .u8 ((FG .u8 p0 p1)) 1) == 1)))] [] rfl rfl) (Aq ?_)
 exact ⟨⟨[_], tm, rfl⟩, tv⟩
theorem Eh (N : Nat) (p0 : Aa) (p1 : Ae) (p2 : Am) (r : Ae × Bool) (h : Bt N p0 p1 p2 = some r) : Ar zA 76 [.e (.agg (Ak p0)), .e (.agg (Bh p1)), .e (.agg (BQ p2))] [(1, r.1.fh.map As), (1, r.1.ff.map As), (1, r.1.fg.map Dm)] (.tup [.agg [.own 0, .own 1, .own 2], .one (.pure (.val (.bool r.2)))]) := by
 unfold Bt at h
 refine cw (n := 201) (rs := [.cell 6 40, .tmp 7]) Tryz.func76 fun w0 S0 => ?_
 refine wq rfl (qb rfl (qb rfl (qb rfl (qz Dj rfl (qa rfl (Ab (wq rfl (FJ AA CK Ok rfl (qf C4 rfl (ql Bd rfl ?_))))))))))
 refine HL h fun c1 h => Kk (f := As) AA AA CK Q8 Ok (fun _ => rfl) c1 rfl (FJ AA CK Ok rfl (qf BT rfl (ql Bd rfl ?_)))
 refine HL h fun c2 h => Kk (f := As) AA AA CK Q8 Ok (fun _ => rfl) c2 rfl (FJ DQ DR LO rfl (qf CF rfl (ql GV rfl ?_)))
 refine HL h fun c3 h => Kk (f := Dm) DQ DQ DR Oj LO (fun _ => rfl) c3 rfl (Bq Dj GS rfl (qz Dj rfl (qs AU rfl (AE (by kernel_rfl) (wq rfl (qf DK rfl (ql AW rfl (qe rfl ?_))))))))
 refine AF h (fun v4 => mk [(6, oD (.ptr 6 0)), (8, oD (.ptr 8 0))] [(6, .box [.pure (.nil0), .pure (.nil0), .pure (.nil0)]), (8, .box [.own 2001, .own 2002, .own 2003]), (2001, .vec 1 (v4.1.map As)), (2002, .vec 1 (v4.2.1.map As)), (2003, .vec 1 (v4.2.2.map Dm))]) (fun j4 h => ?_) (fun v4 h => ?_)
 ·refine wq rfl (qf C0 rfl (ql AW rfl (Ab (AT (wq rfl (AN rfl (qe rfl ?_)))))))
  refine Bb h (fun h => ?_) fun h => ?_
  ·refine AR ?_
   refine AF h (fun v6 => mk [(3, oD (.ptr 3 0)), (5, oD (.ptr 5 0)), (6, oD (.ptr 6 0)), (8, oD (.ptr 8 0)), (9, iD p2.fm), (60, bD v6)] [(3, .box (Ak p0)), (5, .box (BQ p2)), (6, .box [.pure (.nil0), .pure (.nil0), .pure (.nil0)]), (8, .box [.own 2004, .own 2005, .own 2006]), (2004, .vec 1 (((([] : List Int)) ++ p1.fh).map As)), (2005, .vec 1 (((([] : List Int)) ++ p1.ff).map As)), (2006, .vec 1 (((([] : List Int)) ++ p1.fg).map Dm))]) (fun j6 h => ?_) (fun v6 h => ?_)
   ·refine Aj Aw rfl (qf BT rfl (ql Bd rfl (qm rfl ?_)))
    refine BN h fun v7 a7 b7 h => qi AA CK a7 (Ag b7) rfl (qk AW rfl (C9 rfl (qm rfl ?_)))
    refine Cp 51 h rfl (fun h => ?_) fun h => ?_
    ·refine qw 8 rfl (qp rfl (AE (by kernel_rfl) ?_))
     exact sn [(2004, 18), (2005, 22), (2006, 26)] h
    ·refine qf Fo rfl (ql AW rfl (qf C4 rfl (ql Bd rfl (qm rfl ?_))))
     refine BN h fun v9 a9 b9 h => qi AA CK a9 (Ag b9) rfl (qk AW rfl (AN rfl (qp rfl (AE (by kernel_rfl) ?_))))
     exact sn [(2004, 18), (2005, 22), (2006, 26)] h
   ·refine Bb h (fun h => ?_) fun h => ?_
    ·refine wq rfl (Bq Dj GS rfl (qs AU rfl (qe rfl ?_)))
     obtain rfl := sj h
     refine Af ((Ax 6 0 2007 1 _ rfl rfl rfl rfl).trans ((Ax 6 1 2008 1 _ rfl rfl rfl rfl).trans ((Ax 6 2 2009 1 _ rfl rfl rfl rfl).trans (sm [(1000, 2007), (1001, 2008), (1002, 2009)] [(6, oD (.ptr 6 0)), (7, bD false)] [(6, .box [.own 1000, .own 1001, .own 1002]), (1000, .vec 1 ((([] : List Int)).map As)), (1001, .vec 1 ((([] : List Int)).map As)), (1002, .vec 1 ((([] : List Int)).map Dm))] rfl rfl)))) (Aq ?_)
     exact ⟨⟨[_, _], ⟨.cellN _ _ _ _ _ _ _ rfl rfl B0 AU rfl rfl (HQ rfl), tm⟩, rfl⟩, ⟨rfl, rfl, rfl, tv⟩⟩
    ·refine Ap (wq rfl (qf BT rfl (ql Bd rfl (qm rfl (qf Fo rfl (ql AW rfl ?_))))))
     refine BN h fun v11 a11 b11 h => qI AA CK a11 (Ag b11) rfl ?_
     refine EE rfl rfl rfl rfl (Ag b11) rfl CK rfl (GZ rfl) (EC As ((([] : List Int)) ++ p1.ff) _ p2.fq) ?_
     refine Ab (wq rfl (qe rfl ?_))
     refine A5 (L := Bv N p0 p2) h (fun v12 => mk [(3, oD (.ptr 3 0)), (5, oD (.ptr 5 0)), (6, oD (.ptr 6 0)), (8, oD (.ptr 8 0)), (9, iD p2.fm), (10, iD v12.2)] [(3, .box (Ak p0)), (5, .box (BQ p2)), (6, .box [.pure (.nil0), .pure (.nil0), .pure (.nil0)]), (8, .box [.own 2010, .own 2011, .own 2012]), (2010, .vec 1 (((([] : List Int)) ++ p1.fh).map As)), (2011, .vec 1 ((((([] : List Int)) ++ p1.ff).set ((p2.fm).toNat) p2.fq).map As)), (2012, .vec 1 (v12.1.map Dm))]) (fun v13 => mk [(6, oD (.ptr 6 0)), (8, oD (.ptr 8 0))] [(6, .box [.pure (.nil0), .pure (.nil0), .pure (.nil0)]), (8, .box [.own 2013, .own 2014, .own 2015]), (2013, .vec 1 (((([] : List Int)) ++ p1.fh).map As)), (2014, .vec 1 ((((([] : List Int)) ++ p1.ff).set ((p2.fm).toNat) p2.fq).map As)), (2015, .vec 1 (v13.map Dm))]) (fun _ _ => rfl) (sm [(2010, 2004), (2011, 2005), (2012, 2006)] _ _ rfl rfl) (fun j12 n12 v12 h => ?_) (fun v13 s h hs => ?_)
     ·unfold Bv at h
      refine wp rfl (qm rfl (qf BA rfl (ql EK rfl (AH CR rfl (A4 rfl (Ab ?_))))))
      refine Bb h (fun h => ?_) fun h => ?_
      ·refine Ap ?_
       refine AF h (fun v15 => mk [(3, oD (.ptr 3 0)), (5, oD (.ptr 5 0)), (6, oD (.ptr 6 0)), (8, oD (.ptr 8 0)), (9, iD p2.fm), (10, iD v12.2)] [(3, .box (Ak p0)), (5, .box (BQ p2)), (6, .box [.pure (.nil0), .pure (.nil0), .pure (.nil0)]), (8, .box [.own 2016, .own 2017, .own 2018]), (2016, .vec 1 (((([] : List Int)) ++ p1.fh).map As)), (2017, .vec 1 ((((([] : List Int)) ++ p1.ff).set ((p2.fm).toNat) p2.fq).map As)), (2018, .vec 1 (v15.map Dm))]) (fun j15 h => ?_) (fun v15 h => ?_)
       ·refine AT ?_
        refine AF h (fun v16 => mk [(3, oD (.ptr 3 0)), (5, oD (.ptr 5 0)), (6, oD (.ptr 6 0)), (8, oD (.ptr 8 0)), (9, iD p2.fm), (10, iD v12.2), (90, bD v16)] [(3, .box (Ak p0)), (5, .box (BQ p2)), (6, .box [.pure (.nil0), .pure (.nil0), .pure (.nil0)]), (8, .box [.own 2019, .own 2020, .own 2021]), (2019, .vec 1 (((([] : List Int)) ++ p1.fh).map As)), (2020, .vec 1 ((((([] : List Int)) ++ p1.ff).set ((p2.fm).toNat) p2.fq).map As)), (2021, .vec 1 (v12.1.map Dm))]) (fun j16 h => ?_) (fun v16 h => ?_)
        ·refine Aj Aw rfl (qf BA rfl (ql EK rfl (qm rfl ?_)))
         refine BN h fun v17 a17 b17 h => qi CR BK a17 (Ag b17) rfl (qg Cc rfl (qk AW rfl (qm rfl (AN rfl (qm rfl ?_)))))
         refine Cp 83 h rfl (fun h => ?_) fun h => ?_
         ·refine qf BA rfl (ql EK rfl (qm rfl ?_))
          refine BN h fun v19 a19 b19 h => qi CR BK a19 (Ag b19) rfl (qK Eu BK rfl ?_)
          refine B4 h fun v20 a20 h => Av [] (B1 N v19 v20 a20) OW rfl (qp rfl (Ab ?_))
          exact sn [(2019, 2010), (2020, 2011), (2021, 2012)] h
         ·refine qw 6 rfl (qp rfl (Ab ?_))
          exact sn [(2019, 2010), (2020, 2011), (2021, 2012)] h
        ·refine Bb h (fun h => ?_) fun h => ?_
         ·refine Aj Aw rfl (qf CF rfl (ql GV rfl (qm rfl (qf CF rfl (ql GV rfl (qm rfl ?_))))))
          refine BN h fun v22 a22 b22 h => qI DQ DR a22 (Ag b22) rfl (qj Hl (Ag b22) rfl (qf Fo rfl (ql AW rfl ?_)))
          refine HL h fun c23 h => Ik rfl c23 (RM rfl ?_)
          refine BN h fun v24 a24 b24 h => qI DQ DR a24 (Ag b24) rfl ?_
          refine EE rfl rfl rfl rfl (Ag b24) rfl DR rfl (GZ rfl) (EC Dm v12.1 _ ((Le .u8 v22 ((DE .u8 1 p2.fq))))) ?_
          refine AE (by kernel_rfl) ?_
          exact sn [(2016, 2019), (2017, 2020), (2018, 2021)] h
         ·refine Ap ?_
          exact sn [(2016, 2019), (2017, 2020), (2018, 2021)] h
       ·refine Aj Aw rfl (qm rfl (Cl rfl (qe rfl ?_)))
        exact sn [(2010, 2016), (2011, 2017), (2012, 2018)] h
      ·refine BZ ?_
       exact sn [(2013, 2010), (2014, 2011), (2015, 2012)] h
     ·exact S9 _ h (hs.trans (sm [(2001, 2013), (2002, 2014), (2003, 2015)] _ _ rfl rfl))
  ·refine wq rfl (AN rfl (qe rfl ?_))
   refine Bb h (fun h => ?_) fun h => ?_
   ·refine wp rfl (qf BT rfl (ql Bd rfl (qm rfl ?_)))
    refine BN h fun v26 a26 b26 h => qi AA CK a26 (Ag b26) rfl (qk AW rfl (A4 rfl (Ab ?_)))
    refine Bb h (fun h => ?_) fun h => ?_
    ·refine wq rfl (Bq Dj GS rfl (qs AU rfl (qe rfl ?_)))
     obtain rfl := sj h
     refine Af ((Ax 6 0 2022 1 _ rfl rfl rfl rfl).trans ((Ax 6 1 2023 1 _ rfl rfl rfl rfl).trans ((Ax 6 2 2024 1 _ rfl rfl rfl rfl).trans (sm [(1000, 2022), (1001, 2023), (1002, 2024)] [(6, oD (.ptr 6 0)), (7, bD false)] [(6, .box [.own 1000, .own 1001, .own 1002]), (1000, .vec 1 ((([] : List Int)).map As)), (1001, .vec 1 ((([] : List Int)).map As)), (1002, .vec 1 ((([] : List Int)).map Dm))] rfl rfl)))) (Aq ?_)
     exact ⟨⟨[_, _], ⟨.cellN _ _ _ _ _ _ _ rfl rfl B0 AU rfl rfl (HQ rfl), tm⟩, rfl⟩, ⟨rfl, rfl, rfl, tv⟩⟩
    ·refine Ap (Aj Aw rfl (qf C4 rfl (ql Bd rfl (qm rfl (qf BT rfl (ql Bd rfl (qm rfl (qf BT rfl (ql Bd rfl (qm rfl ?_))))))))))
     refine BN h fun v28 a28 b28 h => qi AA CK a28 (Ag b28) rfl (qk AW rfl ?_)
     refine BN h fun v29 a29 b29 h => qI AA CK a29 (Ag b29) rfl ?_
     refine EE rfl rfl rfl rfl (Ag b29) rfl CK rfl (GZ rfl) (EC As ((([] : List Int)) ++ p1.fh) _ v28) ?_
     refine BN h fun v30 a30 b30 h => qI AA CK a30 (Ag b30) rfl ?_
     refine EE rfl rfl rfl rfl (Ag b30) rfl CK rfl (GZ rfl) (EC As ((([] : List Int)) ++ p1.ff) _ ((-1))) ?_
     refine AE (by kernel_rfl) ?_
     exact sn [(2001, 18), (2002, 22), (2003, 26)] h
   ·refine wq rfl (AN rfl (qe rfl ?_))
    refine Bb h (fun h => ?_) fun h => ?_
    ·refine wq rfl (qf BA rfl (ql EK rfl (qm rfl ?_)))
     refine BN h fun v32 a32 b32 h => qi CR BK a32 (Ag b32) rfl (qK Eu BK rfl (qz IC rfl (qs BK rfl (Ab (wp rfl (qL Eu BK rfl ?_))))))
     refine B4 h fun v33 a33 h => Av [] (B1 N v32 v33 a33) OW rfl (B9 rfl (Ab ?_))
     refine Bb h (fun h => ?_) fun h => ?_
     ·refine wq rfl (Bq Dj GS rfl (qs AU rfl (qe rfl ?_)))
      obtain rfl := sj h
      refine Af ((Ax 6 0 2025 1 _ rfl rfl rfl rfl).trans ((Ax 6 1 2026 1 _ rfl rfl rfl rfl).trans ((Ax 6 2 2027 1 _ rfl rfl rfl rfl).trans (sm [(1000, 2025), (1001, 2026), (1002, 2027)] [(6, oD (.ptr 6 0)), (7, bD false)] [(6, .box [.own 1000, .own 1001, .own 1002]), (1000, .vec 1 ((([] : List Int)).map As)), (1001, .vec 1 ((([] : List Int)).map As)), (1002, .vec 1 ((([] : List Int)).map Dm))] rfl rfl)))) (Aq ?_)
      exact ⟨⟨[_, _], ⟨.cellN _ _ _ _ _ _ _ rfl rfl B0 AU rfl rfl (HQ rfl), tm⟩, rfl⟩, ⟨rfl, rfl, rfl, tv⟩⟩
     ·refine Ap (wq rfl (qL B0 AU rfl (qf Cc rfl (ql AW rfl ?_))))
      refine B4 h fun v35 a35 h => Av [] (EO N p1 v32.fj v35 a35) UD rfl (qa rfl (Ab (wp rfl (qf CF rfl (ql GV rfl (qm rfl ?_))))))
      refine BN h fun v36 a36 b36 h => qi DQ DR a36 (Ag b36) rfl (qk Hl rfl (qm rfl (AN rfl (Ab ?_))))
      refine Bb h (fun h => ?_) fun h => ?_
      ·refine wq rfl (Bq Dj GS rfl (qs AU rfl (qe rfl ?_)))
       obtain rfl := sj h
       refine Af ((Ax 6 0 2028 1 _ rfl rfl rfl rfl).trans ((Ax 6 1 2029 1 _ rfl rfl rfl rfl).trans ((Ax 6 2 2030 1 _ rfl rfl rfl rfl).trans (sm [(1000, 2028), (1001, 2029), (1002, 2030)] [(6, oD (.ptr 6 0)), (7, bD false)] [(6, .box [.own 1000, .own 1001, .own 1002]), (1000, .vec 1 ((([] : List Int)).map As)), (1001, .vec 1 ((([] : List Int)).map As)), (1002, .vec 1 ((([] : List Int)).map Dm))] rfl rfl)))) (Aq ?_)
       exact ⟨⟨[_, _], ⟨.cellN _ _ _ _ _ _ _ rfl rfl B0 AU rfl rfl (HQ rfl), tm⟩, rfl⟩, ⟨rfl, rfl, rfl, tv⟩⟩
      ·refine Ap (wp rfl (qe rfl ?_))
       refine A5 (L := Bf N p0 p1 p2 v32 v35) h (fun v38 => mk [(3, oD (.ptr 3 0)), (4, oD (.ptr 4 0)), (6, oD (.ptr 6 0)), (8, oD (.ptr 8 0)), (9, iD p2.fm), (11, oD (.ptr 11 0)), (12, pD (.val (.int .u8 v35))), (13, iD v38)] [(3, .box (Ak p0)), (4, .box (Bh p1)), (6, .box [.pure (.nil0), .pure (.nil0), .pure (.nil0)]), (8, .box [.own 2031, .own 2032, .own 2033]), (11, .box (CC v32)), (2031, .vec 1 (((([] : List Int)) ++ p1.fh).map As)), (2032, .vec 1 (((([] : List Int)) ++ p1.ff).map As)), (2033, .vec 1 (((([] : List Int)) ++ p1.fg).map Dm))]) (fun v39 => mk [(6, oD (.ptr 6 0)), (8, oD (.ptr 8 0)), (9, iD p2.fm), (12, pD (.val (.int .u8 v35)))] [(6, .box [.pure (.nil0), .pure (.nil0), .pure (.nil0)]), (8, .box [.own 2034, .own 2035, .own 2036]), (2034, .vec 1 (((([] : List Int)) ++ p1.fh).map As)), (2035, .vec 1 (((([] : List Int)) ++ p1.ff).map As)), (2036, .vec 1 (((([] : List Int)) ++ p1.fg).map Dm))]) (fun _ _ => rfl) (sm [(2031, 18), (2032, 22), (2033, 26)] _ _ rfl rfl) (fun j38 n38 v38 h => ?_) (fun v39 s h hs => ?_)
       ·unfold Bf at h
        refine wp rfl (qm rfl (qf BB rfl (ql Bd rfl (qf Cc rfl (ql AW rfl ?_)))))
        refine BN h fun v40 a40 b40 h => qi AA CK a40 (Ag b40) rfl (qk AW rfl (A4 rfl (Ab ?_)))
        refine Bb h (fun h => ?_) fun h => ?_
        ·refine Ap (AR (AT ?_))
         refine AF h (fun v42 => mk [(3, oD (.ptr 3 0)), (4, oD (.ptr 4 0)), (6, oD (.ptr 6 0)), (8, oD (.ptr 8 0)), (9, iD p2.fm), (11, oD (.ptr 11 0)), (12, pD (.val (.int .u8 v35))), (13, iD v38), (14, bD v42)] [(3, .box (Ak p0)), (4, .box (Bh p1)), (6, .box [.pure (.nil0), .pure (.nil0), .pure (.nil0)]), (8, .box [.own 2037, .own 2038, .own 2039]), (11, .box (CC v32)), (2037, .vec 1 (((([] : List Int)) ++ p1.fh).map As)), (2038, .vec 1 (((([] : List Int)) ++ p1.ff).map As)), (2039, .vec 1 (((([] : List Int)) ++ p1.fg).map Dm))]) (fun j42 h => ?_) (fun v42 h => ?_)
         ·refine Aj Aw rfl (qf CF rfl (ql GV rfl (qm rfl ?_)))
          refine BN h fun v43 a43 b43 h => qi DQ DR a43 (Ag b43) rfl (qk Hl rfl (qm rfl ?_))
          refine B4 h fun v44 a44 h => Av [] (zFS N v43 v38 v44 a44) UN rfl (qm rfl ?_)
          refine Cp 166 h rfl (fun h => ?_) fun h => ?_
          ·refine qw 2 rfl ?_
           refine B4 h fun v46 a46 h => Av [] (zFS N v35 v38 v46 a46) UN rfl (B9 rfl (qp rfl (qe rfl ?_)))
           exact sn [(2037, 2031), (2038, 2032), (2039, 2033)] h
          ·refine qw 4 rfl (qp rfl (qe rfl ?_))
           exact sn [(2037, 2031), (2038, 2032), (2039, 2033)] h
         ·refine AF h (fun v47 => mk [(3, oD (.ptr 3 0)), (4, oD (.ptr 4 0)), (6, oD (.ptr 6 0)), (8, oD (.ptr 8 0)), (9, iD p2.fm), (11, oD (.ptr 11 0)), (12, pD (.val (.int .u8 v35))), (13, iD v38), (193, bD v47)] [(3, .box (Ak p0)), (4, .box (Bh p1)), (6, .box [.pure (.nil0), .pure (.nil0), .pure (.nil0)]), (8, .box [.own 2040, .own 2041, .own 2042]), (11, .box (CC v32)), (2040, .vec 1 (((([] : List Int)) ++ p1.fh).map As)), (2041, .vec 1 (((([] : List Int)) ++ p1.ff).map As)), (2042, .vec 1 (((([] : List Int)) ++ p1.fg).map Dm))]) (fun j47 h => ?_) (fun v47 h => ?_)
          ·refine Aj Aw rfl (qw 2 rfl ?_)
           refine Cp 173 h rfl (fun h => ?_) fun h => ?_
           ·refine qf DX rfl (ql AW rfl (AN rfl (qp rfl (qm rfl ?_))))
            refine Cp 178 h rfl (fun h => ?_) fun h => ?_
            ·refine qf D8 rfl (ql Fa rfl (qm rfl ?_))
             refine BN h fun v50 a50 b50 h => qi DW Jz a50 (Ag b50) rfl (qk Jv rfl (qf C4 rfl (ql Bd rfl (qf Cc rfl (ql AW rfl ?_)))))
             refine BN h fun v51 a51 b51 h => qi AA CK a51 (Ag b51) rfl (qk AW rfl ?_)
             refine BN h fun v52 a52 b52 h => qi HI Rm a52 (Ag b52) rfl (qk Qd rfl (B9 rfl (qp rfl (AE (by kernel_rfl) ?_))))
             exact sn [(2040, 2037), (2041, 2038), (2042, 2039)] h
            ·refine qw 14 rfl (qp rfl (AE (by kernel_rfl) ?_))
             exact sn [(2040, 2037), (2041, 2038), (2042, 2039)] h
           ·refine qw 3 rfl (qp rfl (qw 15 rfl (qp rfl (AE (by kernel_rfl) ?_))))
            exact sn [(2040, 2037), (2041, 2038), (2042, 2039)] h
          ·refine Bb h (fun h => ?_) fun h => ?_
           ·refine wq rfl (Bq Dj GS rfl (qs AU rfl (qe rfl ?_)))
            obtain rfl := sj h
            refine Af ((Ax 6 0 2043 1 _ rfl rfl rfl rfl).trans ((Ax 6 1 2044 1 _ rfl rfl rfl rfl).trans ((Ax 6 2 2045 1 _ rfl rfl rfl rfl).trans (sm [(1000, 2043), (1001, 2044), (1002, 2045)] [(6, oD (.ptr 6 0)), (7, bD false)] [(6, .box [.own 1000, .own 1001, .own 1002]), (1000, .vec 1 ((([] : List Int)).map As)), (1001, .vec 1 ((([] : List Int)).map As)), (1002, .vec 1 ((([] : List Int)).map Dm))] rfl rfl)))) (Aq ?_)
            exact ⟨⟨[_, _], ⟨.cellN _ _ _ _ _ _ _ rfl rfl B0 AU rfl rfl (HQ rfl), tm⟩, rfl⟩, ⟨rfl, rfl, rfl, tv⟩⟩
           ·refine Ap (Aj Aw rfl (qm rfl (Cl rfl (qe rfl ?_))))
            exact sn [(2031, 2040), (2032, 2041), (2033, 2042)] h
        ·refine BZ ?_
         exact sn [(2034, 2031), (2035, 2032), (2036, 2033)] h
       ·refine Af hs (Aj Aw rfl (qf CF rfl (ql GV rfl (qw 2 rfl ?_))))
        refine BN h fun v54 a54 b54 h => qI DQ DR a54 (Ag b54) rfl ?_
        refine EE rfl rfl rfl rfl (Ag b54) rfl DR rfl (GZ rfl) (EC Dm ((([] : List Int)) ++ p1.fg) _ v35) ?_
        refine Ab ?_
        exact sn [(2001, 2034), (2002, 2035), (2003, 2036)] h
    ·refine wp rfl (qf BT rfl (ql Bd rfl (qm rfl ?_)))
     refine BN h fun v55 a55 b55 h => qi AA CK a55 (Ag b55) rfl (qk AW rfl (A4 rfl (Ab ?_)))
     refine Bb h (fun h => ?_) fun h => ?_
     ·refine wq rfl (Bq Dj GS rfl (qs AU rfl (qe rfl ?_)))
      obtain rfl := sj h
      refine Af ((Ax 6 0 2046 1 _ rfl rfl rfl rfl).trans ((Ax 6 1 2047 1 _ rfl rfl rfl rfl).trans ((Ax 6 2 2048 1 _ rfl rfl rfl rfl).trans (sm [(1000, 2046), (1001, 2047), (1002, 2048)] [(6, oD (.ptr 6 0)), (7, bD false)] [(6, .box [.own 1000, .own 1001, .own 1002]), (1000, .vec 1 ((([] : List Int)).map As)), (1001, .vec 1 ((([] : List Int)).map As)), (1002, .vec 1 ((([] : List Int)).map Dm))] rfl rfl)))) (Aq ?_)
      exact ⟨⟨[_, _], ⟨.cellN _ _ _ _ _ _ _ rfl rfl B0 AU rfl rfl (HQ rfl), tm⟩, rfl⟩, ⟨rfl, rfl, rfl, tv⟩⟩
     ·refine Ap (Aj Aw rfl (qf BT rfl (ql Bd rfl (qm rfl ?_))))
      refine BN h fun v57 a57 b57 h => qI AA CK a57 (Ag b57) rfl ?_
      refine EE rfl rfl rfl rfl (Ag b57) rfl CK rfl (GZ rfl) (EC As ((([] : List Int)) ++ p1.ff) _ ((-1))) ?_
      refine Ab ?_
      exact sn [(2001, 18), (2002, 22), (2003, 26)] h
 ·refine wq rfl (qL B0 AU rfl (qs AU rfl (qe rfl ?_)))
  obtain rfl := sj h
  refine Af (sm [(1000, 2001), (1001, 2002), (1002, 2003)] [(6, oD (.ptr 6 0)), (7, bD true)] [(6, .box [.own 1000, .own 1001, .own 1002]), (1000, .vec 1 (v4.1.map As)), (1001, .vec 1 (v4.2.1.map As)), (1002, .vec 1 (v4.2.2.map Dm))] rfl rfl) (Aq ?_)
  exact ⟨⟨[_, _], ⟨.cellN _ _ _ _ _ _ _ rfl rfl B0 AU rfl rfl (HQ rfl), tm⟩, rfl⟩, ⟨rfl, rfl, rfl, tv⟩⟩
theorem I9 (N : Nat) (p0 : Aa) (p1 : Ae) (p2 : Am) (r : Ae × Int) (h : Dz N p0 p1 p2 = some r) : Ar zA 118 [.e (.agg (Ak p0)), .e (.agg (Bh p1)), .e (.agg (BQ p2))] [(1, r.1.fh.map As), (1, r.1.ff.map As), (1, r.1.fg.map Dm)] (.tup [.agg [.own 0, .own 1, .own 2], .one (iC r.2)]) := by
 unfold Dz at h
 refine cw (n := 73) (rs := [.cell 6 40, .tmp 7]) Tryz.func118 fun w0 S0 => ?_
 refine wq rfl (qb rfl (qb rfl (qb rfl (qz Dj rfl (qa rfl (Ab (wp rfl (qL DG DA rfl (qL B0 AU rfl ?_)))))))))
 refine B4 h fun v1 a1 h => Av [] (GK N p0 p1 v1 a1) VG rfl (qa rfl (Ab (wq rfl (qm rfl (BG rfl (Ab ?_))))))
 refine Bb h (fun h => ?_) fun h => ?_
 ·refine wq rfl (Bq Dj GS rfl (qm rfl (qs AU rfl (qe rfl ?_))))
  obtain rfl := sj h
  refine Af ((Ax 6 0 2001 1 _ rfl rfl rfl rfl).trans ((Ax 6 1 2002 1 _ rfl rfl rfl rfl).trans ((Ax 6 2 2003 1 _ rfl rfl rfl rfl).trans (sm [(1000, 2001), (1001, 2002), (1002, 2003)] [(6, oD (.ptr 6 0)), (7, iD v1)] [(6, .box [.own 1000, .own 1001, .own 1002]), (1000, .vec 1 ((([] : List Int)).map As)), (1001, .vec 1 ((([] : List Int)).map As)), (1002, .vec 1 ((([] : List Int)).map Dm))] rfl rfl)))) (Aq ?_)
  exact ⟨⟨[_, _], ⟨.cellN _ _ _ _ _ _ _ rfl rfl B0 AU rfl rfl (HQ rfl), tm⟩, rfl⟩, ⟨rfl, rfl, rfl, tv⟩⟩
 ·refine Ap (wp rfl (qL In FR rfl ?_))
  refine B4 h fun v3 a3 h => Av [] (Jg N p2 v3 a3) Vo rfl (B9 rfl (Ab ?_))
  refine Bb h (fun h => ?_) fun h => ?_
  ·refine wq rfl (Bq Dj GS rfl (qs AU rfl (qe rfl ?_)))
   obtain rfl := sj h
   refine Af ((Ax 6 0 2004 1 _ rfl rfl rfl rfl).trans ((Ax 6 1 2005 1 _ rfl rfl rfl rfl).trans ((Ax 6 2 2006 1 _ rfl rfl rfl rfl).trans (sm [(1000, 2004), (1001, 2005), (1002, 2006)] [(6, oD (.ptr 6 0)), (7, iD 1)] [(6, .box [.own 1000, .own 1001, .own 1002]), (1000, .vec 1 ((([] : List Int)).map As)), (1001, .vec 1 ((([] : List Int)).map As)), (1002, .vec 1 ((([] : List Int)).map Dm))] rfl rfl)))) (Aq ?_)
   exact ⟨⟨[_, _], ⟨.cellN _ _ _ _ _ _ _ rfl rfl B0 AU rfl rfl (HQ rfl), tm⟩, rfl⟩, ⟨rfl, rfl, rfl, tv⟩⟩
  ·refine Ap (AR ?_)
   refine AF h (fun v5 => mk [(3, oD (.ptr 3 0)), (4, oD (.ptr 4 0)), (5, oD (.ptr 5 0)), (6, oD (.ptr 6 0)), (45, bD v5)] [(3, .box (Ak p0)), (4, .box (Bh p1)), (5, .box (BQ p2)), (6, .box [.pure (.nil0), .pure (.nil0), .pure (.nil0)])]) (fun j5 h => ?_) (fun v5 h => ?_)
   ·refine Aj Aw rfl (qf C0 rfl (ql AW rfl (AN rfl (qm rfl ?_))))
    refine Cp 25 h rfl (fun h => ?_) fun h => ?_
    ·refine qf DK rfl (ql AW rfl (qf BA rfl (ql EK rfl (AH CR rfl (C9 rfl (qp rfl (qm rfl ?_)))))))
     refine Cp 33 h rfl (fun h => ?_) fun h => ?_
     ·refine qw 4 rfl (qu rfl (qu rfl (qu rfl (qu rfl (qu rfl (qu rfl (qn rfl (qp rfl (Ab ?_)))))))))
      exact sn [] h
     ·refine qf C0 rfl (ql AW rfl (BG rfl (qm rfl ?_)))
      refine Cp 37 h rfl (fun h => ?_) fun h => ?_
      ·refine qf DK rfl (ql AW rfl (qf BB rfl (ql Bd rfl (AH AA rfl (C9 rfl (qp rfl (qp rfl (Ab ?_))))))))
       exact sn [] h
      ·refine qw 6 rfl (qp rfl (qp rfl (Ab ?_)))
       exact sn [] h
    ·refine qw 6 rfl (qp rfl (qm rfl (qf C0 rfl (ql AW rfl (BG rfl (qm rfl ?_))))))
     refine Cp 37 h rfl (fun h => ?_) fun h => ?_
     ·refine qf DK rfl (ql AW rfl (qf BB rfl (ql Bd rfl (AH AA rfl (C9 rfl (qp rfl (qp rfl (Ab ?_))))))))
      exact sn [] h
     ·refine qw 6 rfl (qp rfl (qp rfl (Ab ?_)))
      exact sn [] h
   ·refine Bb h (fun h => ?_) fun h => ?_
    ·refine wq rfl (Bq Dj GS rfl (qs AU rfl (qe rfl ?_)))
     obtain rfl := sj h
     refine Af ((Ax 6 0 2007 1 _ rfl rfl rfl rfl).trans ((Ax 6 1 2008 1 _ rfl rfl rfl rfl).trans ((Ax 6 2 2009 1 _ rfl rfl rfl rfl).trans (sm [(1000, 2007), (1001, 2008), (1002, 2009)] [(6, oD (.ptr 6 0)), (7, iD 4)] [(6, .box [.own 1000, .own 1001, .own 1002]), (1000, .vec 1 ((([] : List Int)).map As)), (1001, .vec 1 ((([] : List Int)).map As)), (1002, .vec 1 ((([] : List Int)).map Dm))] rfl rfl)))) (Aq ?_)
     exact ⟨⟨[_, _], ⟨.cellN _ _ _ _ _ _ _ rfl rfl B0 AU rfl rfl (HQ rfl), tm⟩, rfl⟩, ⟨rfl, rfl, rfl, tv⟩⟩
    ·refine Ap (AR ?_)
     refine AF h (fun v11 => mk [(3, oD (.ptr 3 0)), (4, oD (.ptr 4 0)), (5, oD (.ptr 5 0)), (6, oD (.ptr 6 0)), (60, bD v11)] [(3, .box (Ak p0)), (4, .box (Bh p1)), (5, .box (BQ p2)), (6, .box [.pure (.nil0), .pure (.nil0), .pure (.nil0)])]) (fun j11 h => ?_) (fun v11 h => ?_)
     ·refine Aj Aw rfl (qf C0 rfl (ql AW rfl (AN rfl (qm rfl ?_))))
      refine Cp 50 h rfl (fun h => ?_) fun h => ?_
      ·refine qf Fo rfl (ql AW rfl (qf BB rfl (ql Bd rfl (qf DK rfl (ql AW rfl ?_)))))
       refine BN h fun v13 a13 b13 h => qi AA CK a13 (Ag b13) rfl (qk AW rfl (C9 rfl (qp rfl (AE (by kernel_rfl) ?_))))
       exact sn [] h
      ·refine qw 9 rfl (qp rfl (AE (by kernel_rfl) ?_))
       exact sn [] h
     ·refine Bb h (fun h => ?_) fun h => ?_
      ·refine wq rfl (Bq Dj GS rfl (qs AU rfl (qe rfl ?_)))
       obtain rfl := sj h
       refine Af ((Ax 6 0 2010 1 _ rfl rfl rfl rfl).trans ((Ax 6 1 2011 1 _ rfl rfl rfl rfl).trans ((Ax 6 2 2012 1 _ rfl rfl rfl rfl).trans (sm [(1000, 2010), (1001, 2011), (1002, 2012)] [(6, oD (.ptr 6 0)), (7, iD 4)] [(6, .box [.own 1000, .own 1001, .own 1002]), (1000, .vec 1 ((([] : List Int)).map As)), (1001, .vec 1 ((([] : List Int)).map As)), (1002, .vec 1 ((([] : List Int)).map Dm))] rfl rfl)))) (Aq ?_)
       exact ⟨⟨[_, _], ⟨.cellN _ _ _ _ _ _ _ rfl rfl B0 AU rfl rfl (HQ rfl), tm⟩, rfl⟩, ⟨rfl, rfl, rfl, tv⟩⟩
      ·refine Ap (wq rfl (qL DG DA rfl (qL B0 AU rfl (qL In FR rfl ?_))))
       refine B4 h fun v15 a15 h => Av [2013, 2014, 2015] (Eh N p0 p1 p2 v15 a15) TO rfl (qm rfl (qx rfl (qx rfl (qz Dj rfl (qs AU rfl (qa rfl (Ab (wp rfl (qm rfl (B9 rfl (Ab ?_)))))))))))
       refine Bb h (fun h => ?_) fun h => ?_
       ·refine wq rfl (Bq Dj GS rfl (qs AU rfl (qe rfl ?_)))
        obtain rfl := sj h
        refine Af ((Ax 6 0 2016 1 _ rfl rfl rfl rfl).trans ((Ax 6 1 2017 1 _ rfl rfl rfl rfl).trans ((Ax 6 2 2018 1 _ rfl rfl rfl rfl).trans (sm [(1000, 2016), (1001, 2017), (1002, 2018)] [(6, oD (.ptr 6 0)), (7, iD 11)] [(6, .box [.own 1000, .own 1001, .own 1002]), (1000, .vec 1 ((([] : List Int)).map As)), (1001, .vec 1 ((([] : List Int)).map As)), (1002, .vec 1 ((([] : List Int)).map Dm))] rfl rfl)))) (Aq ?_)
        exact ⟨⟨[_, _], ⟨.cellN _ _ _ _ _ _ _ rfl rfl B0 AU rfl rfl (HQ rfl), tm⟩, rfl⟩, ⟨rfl, rfl, rfl, tv⟩⟩
       ·refine Ap (wq rfl (qL B0 AU rfl (qs AU rfl (qe rfl ?_))))
        obtain rfl := sj h
        refine Af (sm [(1000, 2013), (1001, 2014), (1002, 2015)] [(6, oD (.ptr 6 0)), (7, iD 0)] [(6, .box [.own 1000, .own 1001, .own 1002]), (1000, .vec 1 (v15.1.fh.map As)), (1001, .vec 1 (v15.1.ff.map As)), (1002, .vec 1 (v15.1.fg.map Dm))] rfl rfl) (Aq ?_)
        exact ⟨⟨[_, _], ⟨.cellN _ _ _ _ _ _ _ rfl rfl B0 AU rfl rfl (HQ rfl), tm⟩, rfl⟩, ⟨rfl, rfl, rfl, tv⟩⟩
theorem JX (N : Nat) (p0 : Aa) (p1 : Ae) (p2 : List Am) (r : (List Ae) × Int × Int) (h : Dk N p0 p1 p2 = some r) : Ar zA 83 [.e (.agg (Ak p0)), .e (.agg (Bh p1)), pD (.sl (p2.map AP))] [(3, r.1.map ES)] (.tup [.one (.own 0), .one (iC r.2.1), .one (iC r.2.2)]) := by
 unfold Dk at h
 refine cw (n := 52) (rs := [.tmp 6, .tmp 7, .tmp 8]) Tryz.func83 fun w0 S0 => ?_
 refine wq rfl (qb rfl (qb rfl (qa rfl (qa rfl (qa rfl (Ab (wp rfl (qL DG DA rfl (qL B0 AU rfl ?_)))))))))
 refine B4 h fun v1 a1 h => Av [] (GK N p0 p1 v1 a1) VG rfl (qa rfl (Ab (wq rfl (qm rfl (BG rfl (Ab ?_))))))
 refine Bb h (fun h => ?_) fun h => ?_
 ·refine wq rfl (qm rfl (qa rfl (qa rfl (qe rfl ?_))))
  obtain rfl := sj h
  refine Af ((Fx 6 2001 3 rfl rfl rfl).trans (sm [(1000, 2001)] [(6, oD (.own 1000)), (7, iD 0), (8, iD v1)] [(1000, .vec 3 ((([] : List Ae)).map ES))] rfl rfl)) (Aq ?_)
  exact ⟨⟨[_, _, _], ⟨.tmp _ _ rfl, ⟨.tmp _ _ rfl, tm⟩⟩, rfl⟩, ⟨rfl, tv⟩⟩
 ·refine Ap (wq rfl (qL B0 AU rfl (FJ HG AU Dj rfl (qa rfl (Ab (wp rfl (qe rfl ?_)))))))
  refine A5 (L := Cy N p0 p2) h (fun v3 => mk [(2, pD (.sl (p2.map AP))), (3, oD (.ptr 3 0)), (10, oD (.own 2002)), (11, iD v3.2)] [(3, .box (Ak p0)), (2002, .vec 3 (v3.1.map ES))]) (fun v4 => mk [(2, pD (.sl (p2.map AP))), (10, oD (.own 2003))] [(2003, .vec 3 (v4.map ES))]) (fun _ _ => rfl) (sm [(2002, 21)] _ _ rfl rfl) (fun j3 n3 v3 h => ?_) (fun v4 s h hs => ?_)
  ·unfold Cy at h
   refine wp rfl (qw 2 rfl (AH GB rfl (A4 rfl (Ab ?_))))
   refine Bb h (fun h => ?_) fun h => ?_
   ·refine Ap (AR (AT (wq rfl (qL DG DA rfl (qw 2 rfl ?_)))))
    refine BN h fun v6 a6 b6 h => qI HG AU a6 (Ag b6) rfl (qJ B0 AU (Ag b6) rfl (qw 2 rfl ?_))
    refine BN h fun v7 a7 b7 h => qi GB FR a7 (Ag b7) rfl (qK In FR rfl ?_)
    refine B4 h fun v8 a8 h => Av [2004, 2005, 2006] (I9 N p0 v6 v7 v8 a8) VT rfl (qm rfl (qx rfl (qx rfl (qz Dj rfl (qs AU rfl (qa rfl (AE (by kernel_rfl) (wp rfl (qm rfl (BG rfl (Ab ?_)))))))))))
    refine Bb h (fun h => ?_) fun h => ?_
    ·refine wq rfl (qw 2 rfl (qa rfl (qa rfl (qe rfl ?_))))
     obtain rfl := sj h
     refine Af ((Fx 6 2007 3 rfl rfl rfl).trans (sm [(1000, 2007)] [(6, oD (.own 1000)), (7, iD v3.2), (8, iD v8.2)] [(1000, .vec 3 ((([] : List Ae)).map ES))] rfl rfl)) (Aq ?_)
     exact ⟨⟨[_, _, _], ⟨.tmp _ _ rfl, ⟨.tmp _ _ rfl, tm⟩⟩, rfl⟩, ⟨rfl, tv⟩⟩
    ·refine Ap (Aj Aw rfl (qm rfl (qL B0 AU rfl (F4 (Bi 2004 _ _ rfl rfl) (F4 (Bi 2005 _ _ rfl rfl) (F4 (Bi 2006 _ _ rfl rfl) (FJ HG AU Dj rfl ?_)))))))
     refine HL h fun c10 h => Lr (f := ES) HG HG AU Uc Dj c10 rfl (qa rfl (Ab (Aj Aw rfl (qm rfl (Cl rfl (qe rfl ?_))))))
     exact sn [(2002, 48)] h
   ·refine BZ ?_
    exact sn [(2003, 2002)] h
  ·refine Af hs (wq rfl (qw 2 rfl (AH GB rfl (qa rfl (qa rfl (qe rfl ?_))))))
   obtain rfl := sj h
   refine Af (sm [(1000, 2003)] [(6, oD (.own 1000)), (7, iD ((p2.length : Int))), (8, iD 0)] [(1000, .vec 3 (v4.map ES))] rfl rfl) (Aq ?_)
   exact ⟨⟨[_, _, _], ⟨.tmp _ _ rfl, ⟨.tmp _ _ rfl, tm⟩⟩, rfl⟩, ⟨rfl, tv⟩⟩
theorem Jb (N : Nat) (p0 : Aa) (p1 : List Am) (r : Int) (h : Do N p0 p1 = some r) : Ar zA 40 [.e (.agg (Ak p0)), pD (.sl (p1.map AP))] [] (iD r) := by
 unfold Do at h
 refine cw (n := 37) (rs := [.tmp 4]) Tryz.func40 fun w0 S0 => ?_
 refine wq rfl (qb rfl (qa rfl (Ab (wq rfl (qL DG DA rfl ?_)))))
 refine B4 h fun v1 a1 h => Av [2001, 2002, 2003] (GN N p0 v1 a1) Wj rfl (qm rfl (qx rfl (qx rfl (qz Dj rfl (qs AU rfl (qa rfl (Ab (wp rfl (qm rfl (BG rfl (Ab ?_)))))))))))
 refine Bb h (fun h => ?_) fun h => ?_
 ·refine wq rfl (qm rfl (qe rfl ?_))
  obtain rfl := sj h
  refine Af (sm [] [(4, iD v1.2)] [] rfl rfl) (Aq ?_)
  exact ⟨⟨[_], tm, rfl⟩, tv⟩
 ·refine Ap (wp rfl (qe rfl ?_))
  refine A5 (L := Cg N p1) h (fun v3 => mk [(1, pD (.sl (p1.map AP))), (2, oD (.ptr 2 0)), (5, oD (.ptr 5 0)), (7, iD v3)] [(2, .box (Ak p0)), (5, .box [.own 2004, .own 2005, .own 2006]), (2004, .vec 1 (v1.1.fh.map As)), (2005, .vec 1 (v1.1.ff.map As)), (2006, .vec 1 (v1.1.fg.map Dm))]) (fun v4 => mk [(1, pD (.sl (p1.map AP))), (2, oD (.ptr 2 0)), (5, oD (.ptr 5 0))] [(2, .box (Ak p0)), (5, .box [.own 2007, .own 2008, .own 2009]), (2007, .vec 1 (v1.1.fh.map As)), (2008, .vec 1 (v1.1.ff.map As)), (2009, .vec 1 (v1.1.fg.map Dm))]) (fun _ _ => rfl) (sm [(2004, 2001), (2005, 2002), (2006, 2003)] _ _ rfl rfl) (fun j3 n3 v3 h => ?_) (fun v4 s h hs => ?_)
  ·unfold Cg at h
   refine wp rfl (qw 2 rfl (AH GB rfl (A4 rfl (Ab ?_))))
   refine Bb h (fun h => ?_) fun h => ?_
   ·refine Ap (AR (AT (wq rfl (qw 2 rfl ?_))))
    refine BN h fun v6 a6 b6 h => qi GB FR a6 (Ag b6) rfl (qg C0 rfl (qk AW rfl (AN rfl (Ab ?_))))
    refine Bb h (fun h => ?_) fun h => ?_
    ·refine wq rfl (qe rfl ?_)
     obtain rfl := sj h
     refine Af (sm [] [(4, iD 1)] [] rfl rfl) (Aq ?_)
     exact ⟨⟨[_], tm, rfl⟩, tv⟩
    ·refine Ap (Aj Aw rfl (qm rfl (Cl rfl (qe rfl ?_))))
     exact sn [] h
   ·refine BZ ?_
    exact sn [(2007, 2004), (2008, 2005), (2009, 2006)] h
  ·refine Af hs (wq rfl (qL DG DA rfl (qL B0 AU rfl (qm rfl (F4 (Bi 2007 _ _ rfl rfl) (F4 (Bi 2008 _ _ rfl rfl) (F4 (Bi 2009 _ _ rfl rfl) ?_)))))))
   refine B4 h fun v8 a8 h => Av [2010] (JX N p0 v1.1 p1 v8 a8) WW rfl (qm rfl (qx rfl (qx rfl (qx rfl (qa rfl (Ab (wq rfl (qm rfl (qe rfl ?_)))))))))
   obtain rfl := sj h
   refine Af (sm [] [(4, iD v8.2.2)] [] rfl rfl) (Aq ?_)
   exact ⟨⟨[_], tm, rfl⟩, tv⟩
theorem IB (N : Nat) (p0 : Ac) (r : (List Int)) (h : CB N p0 = some r) : Ar zA 106 [.e (.agg (AM p0))] [(1, r.map As)] (oD (.own 0)) := by
 unfold CB at h
 refine cw (n := 35) (rs := [.tmp 2]) Tryz.func106 fun w0 S0 => ?_
 refine wq rfl (qb rfl (qa rfl (Ab (wp rfl (qf B8 rfl (ql AW rfl (Ab (AT (wq rfl (AN rfl (qe rfl ?_)))))))))))
 refine Bb h (fun h => ?_) fun h => ?_
 ·refine wq rfl (qf Fs rfl (ql AW rfl (qf Fp rfl (ql AW rfl (qf Gp rfl (ql AW rfl (FJ Co Iq Ud rfl (qe rfl ?_))))))))
  obtain rfl := sj h
  refine Af (sm [(1000, 13)] [(2, oD (.own 1000))] [(1000, .vec 1 ((([p0.fv, p0.fw, p0.fC] : List Int)).map As))] rfl rfl) (Aq ?_)
  exact ⟨⟨[_], tm, rfl⟩, ⟨rfl, tv⟩⟩
 ·refine wq rfl (AN rfl (qe rfl ?_))
  refine Bb h (fun h => ?_) fun h => ?_
  ·refine wq rfl (qf Gn rfl (ql AW rfl (qf IX rfl (ql AW rfl (qf Hx rfl (ql AW rfl (FJ Co Iq Ud rfl (qe rfl ?_))))))))
   obtain rfl := sj h
   refine Af (sm [(1000, 22)] [(2, oD (.own 1000))] [(1000, .vec 1 ((([p0.ft, p0.fq, p0.fD] : List Int)).map As))] rfl rfl) (Aq ?_)
   exact ⟨⟨[_], tm, rfl⟩, ⟨rfl, tv⟩⟩
  ·refine wq rfl (AN rfl (qe rfl ?_))
   refine Bb h (fun h => ?_) fun h => ?_
   ·refine wq rfl (qf Kg rfl (ql AW rfl (qf Eg rfl (ql Ho rfl (FJ Co Iq Ud rfl (qe rfl ?_))))))
    obtain rfl := sj h
    refine Af (sm [(1000, 29)] [(2, oD (.own 1000))] [(1000, .vec 1 ((([p0.fM, p0.fu] : List Int)).map As))] rfl rfl) (Aq ?_)
    exact ⟨⟨[_], tm, rfl⟩, ⟨rfl, tv⟩⟩
   ·refine Ap (wq rfl (qf IW rfl (ql AW rfl (qf Eg rfl (ql Ho rfl (FJ Co Iq Ud rfl (qe rfl ?_)))))))
    obtain rfl := sj h
    refine Af (sm [(1000, 34)] [(2, oD (.own 1000))] [(1000, .vec 1 ((([p0.fm, p0.fu] : List Int)).map As))] rfl rfl) (Aq ?_)
    exact ⟨⟨[_], tm, rfl⟩, ⟨rfl, tv⟩⟩
theorem JF (N : Nat) (p0 : Int) (p1 : Int) (p2 : List Int) (r : Ac) (h : Ct N p0 p1 p2 = some r) : Ar zA 107 [iD p0, iD p1, pD (.sl (p2.map As))] [] (.e (.agg (AM r))) := by
 unfold Ct at h
 refine cw (n := 59) (rs := [.cell 6 37]) Tryz.func107 fun w0 S0 => ?_
 refine wq rfl (qz IR rfl (Ab (wq rfl (qw 2 rfl (Bq IR QR rfl (qz IR rfl (qs CY rfl (Ab ?_))))))))
 refine AF h (fun v1 => mk [(6, oD (.ptr 6 0)), (7, oD (.ptr 7 0))] [(6, .box [iC 0, iC 0, iC 0, iC 0, iC 0, iC 0, iC 0, iC 0, iC 0, iC 0, iC 0]), (7, .box [iC p0, iC p1, iC v1.1, iC v1.2.1, iC v1.2.2.1, iC v1.2.2.2.1, iC v1.2.2.2.2.1, iC v1.2.2.2.2.2.1, iC v1.2.2.2.2.2.2.1, iC v1.2.2.2.2.2.2.2.1, iC v1.2.2.2.2.2.2.2.2])]) (fun j1 h => ?_) (fun v1 h => ?_)
 ·refine wq rfl (qm rfl (Ab (AT (wq rfl (AN rfl (qe rfl ?_))))))
  refine Bb h (fun h => ?_) fun h => ?_
  ·refine Aj Aw rfl (qm rfl ?_)
   refine BN h fun v3 a3 b3 h => qi Co Iq a3 (Ag b3) rfl (qk Ho rfl (qm rfl ?_))
   refine BN h fun v4 a4 b4 h => qi Co Iq a4 (Ag b4) rfl (qk Ho rfl (qm rfl ?_))
   refine BN h fun v5 a5 b5 h => qi Co Iq a5 (Ag b5) rfl (qk Ho rfl (qf Fs rfl (qs CK rfl (qf Fp rfl (qs CK rfl (qf Gp rfl (qs CK rfl (AE (by kernel_rfl) ?_))))))))
   exact sn [] h
  ·refine wq rfl (AN rfl (qe rfl ?_))
   refine Bb h (fun h => ?_) fun h => ?_
   ·refine Aj Aw rfl (qm rfl ?_)
    refine BN h fun v7 a7 b7 h => qi Co Iq a7 (Ag b7) rfl (qk Ho rfl (qm rfl ?_))
    refine BN h fun v8 a8 b8 h => qi Co Iq a8 (Ag b8) rfl (qk Ho rfl (qm rfl ?_))
    refine BN h fun v9 a9 b9 h => qi Co Iq a9 (Ag b9) rfl (qk Ho rfl (qf Gn rfl (qs CK rfl (qf IX rfl (qs CK rfl (qf Hx rfl (qs CK rfl (AE (by kernel_rfl) ?_))))))))
    exact sn [] h
   ·refine wq rfl (AN rfl (qe rfl ?_))
    refine Bb h (fun h => ?_) fun h => ?_
    ·refine Aj Aw rfl (qm rfl ?_)
     refine BN h fun v11 a11 b11 h => qi Co Iq a11 (Ag b11) rfl (qk Ho rfl (qm rfl ?_))
     refine BN h fun v12 a12 b12 h => qi Co Iq a12 (Ag b12) rfl (qk Ho rfl (qf Kg rfl (qs CK rfl (qf Eg rfl (qs Iq rfl (AE (by kernel_rfl) ?_))))))
     exact sn [] h
    ·refine Aj Aw rfl (qm rfl ?_)
     refine BN h fun v13 a13 b13 h => qi Co Iq a13 (Ag b13) rfl (qk Ho rfl (qm rfl ?_))
     refine BN h fun v14 a14 b14 h => qi Co Iq a14 (Ag b14) rfl (qk Ho rfl (qf IW rfl (qs CK rfl (qf Eg rfl (qs Iq rfl (AE (by kernel_rfl) ?_))))))
     exact sn [] h
 ·refine wq rfl (qL E9 CY rfl (qs CY rfl (Ab ?_)))
  obtain rfl := sj h
  refine Af (sm [] [(6, oD (.ptr 6 0))] [(6, .box [iC p0, iC p1, iC v1.1, iC v1.2.1, iC v1.2.2.1, iC v1.2.2.2.1, iC v1.2.2.2.2.1, iC v1.2.2.2.2.2.1, iC v1.2.2.2.2.2.2.1, iC v1.2.2.2.2.2.2.2.1, iC v1.2.2.2.2.2.2.2.2])] rfl rfl) (Aq ?_)
  exact ⟨⟨[_], ⟨.cellN _ _ _ _ _ _ _ rfl rfl E9 CY rfl rfl (HQ rfl), tv⟩, rfl⟩, tv⟩
theorem Jc (N : Nat) (p0 : Ac) (r : Bool) (h : Dy N p0 = some r) : Ar zA 70 [.e (.agg (AM p0))] [] (bD r) := by
 unfold Dy at h
 refine cw (n := 39) (rs := [.tmp 2]) Tryz.func70 fun w0 S0 => ?_
 refine wq rfl (qb rfl (qa rfl (Ab (AR ?_))))
 refine AF h (fun v1 => mk [(1, oD (.ptr 1 0)), (17, bD v1)] [(1, .box (AM p0))]) (fun j1 h => ?_) (fun v1 h => ?_)
 ·refine Aj Aw rfl (qf B8 rfl (ql AW rfl (A4 rfl (qm rfl ?_))))
  refine Cp 8 h rfl (fun h => ?_) fun h => ?_
  ·refine qw 3 rfl (qp rfl (qw 4 rfl (qp rfl (Ab ?_))))
   exact sn [] h
  ·refine qf B8 rfl (ql AW rfl (Ed rfl (qp rfl (qm rfl ?_))))
   refine Cp 13 h rfl (fun h => ?_) fun h => ?_
   ·refine qw 3 rfl (qp rfl (Ab ?_))
    exact sn [] h
   ·refine qf GW rfl (ql Ho rfl (A4 rfl (qp rfl (Ab ?_))))
    exact sn [] h
 ·refine Bb h (fun h => ?_) fun h => ?_
  ·refine wq rfl (qe rfl ?_)
   obtain rfl := sj h
   refine Af (sm [] [(2, bD false)] [] rfl rfl) (Aq ?_)
   exact ⟨⟨[_], tm, rfl⟩, tv⟩
  ·refine Ap (wq rfl (qL E9 CY rfl ?_))
   refine B4 h fun v5 a5 h => Av [2001] (IB N p0 v5 a5) VX rfl (qa rfl (Ab (wp rfl (qe rfl ?_))))
   refine A5 (L := BX N v5) h (fun v6 => mk [(1, oD (.ptr 1 0)), (3, oD (.own 2002)), (4, iD v6)] [(1, .box (AM p0)), (2002, .vec 1 (v5.map As))]) (fun v7 => mk [(1, oD (.ptr 1 0)), (3, oD (.own 2003))] [(1, .box (AM p0)), (2003, .vec 1 (v5.map As))]) (fun _ _ => rfl) (sm [(2002, 2001)] _ _ rfl rfl) (fun j6 n6 v6 h => ?_) (fun v7 s h hs => ?_)
   ·unfold BX at h
    refine wp rfl (qw 2 rfl (PA Co rfl (A4 rfl (Ab ?_))))
    refine Bb h (fun h => ?_) fun h => ?_
    ·refine Ap (AR (AT (wq rfl (qw 2 rfl ?_))))
     refine BN h fun v9 a9 b9 h => qI Co Iq a9 (Ag b9) rfl (qj Ho (Ag b9) rfl (A4 rfl (Ab ?_)))
     refine Bb h (fun h => ?_) fun h => ?_
     ·refine wq rfl (qe rfl ?_)
      obtain rfl := sj h
      refine Af (sm [] [(2, bD false)] [] rfl rfl) (Aq ?_)
      exact ⟨⟨[_], tm, rfl⟩, tv⟩
     ·refine Ap (Aj Aw rfl (qm rfl (Cl rfl (qe rfl ?_))))
      exact sn [] h
    ·refine BZ ?_
     exact sn [(2003, 2002)] h
   ·refine Af hs (wq rfl (qf GW rfl (ql Ho rfl (qf B8 rfl (ql AW rfl (qm rfl ?_))))))
    refine B4 h fun v11 a11 h => Hw [] [2003] (JF N p0.fi p0.fa v5 v11 a11) VZ FD rfl (qL E9 CY rfl ?_)
    refine Un [.int .i64 v11.fi, .int .i64 v11.fa, .int .i64 v11.fv, .int .i64 v11.fw, .int .i64 v11.fC, .int .i64 v11.fm, .int .i64 v11.fu, .int .i64 v11.fD, .int .i64 v11.ft, .int .i64 v11.fq, .int .i64 v11.fM] [.int .i64 p0.fi, .int .i64 p0.fa, .int .i64 p0.fv, .int .i64 p0.fw, .int .i64 p0.fC, .int .i64 p0.fm, .int .i64 p0.fu, .int .i64 p0.fD, .int .i64 p0.ft, .int .i64 p0.fq, .int .i64 p0.fM] (.p rfl) rfl rfl T9 rfl ?_
    refine qa rfl (AE (by kernel_rfl) ?_)
    obtain rfl := sj h
    refine Af (sm [] [(2, bD (((v11.fi == p0.fi) && ((v11.fa == p0.fa) && ((v11.fv == p0.fv) && ((v11.fw == p0.fw) && ((v11.fC == p0.fC) && ((v11.fm == p0.fm) && ((v11.fu == p0.fu) && ((v11.fD == p0.fD) && ((v11.ft == p0.ft) && ((v11.fq == p0.fq) && ((v11.fM == p0.fM) && true)))))))))))))] [] rfl rfl) (Aq ?_)
    exact ⟨⟨[_], tm, rfl⟩, tv⟩
theorem Jh (N : Nat) (p0 : List Ac) (r : Int) (h : Dv N p0 = some r) : Ar zA 33 [pD (.sl (p0.map AG))] [] (iD r) := by
 unfold Dv at h
 refine cw (n := 37) (rs := [.tmp 2]) Tryz.func33 fun w0 S0 => ?_
 refine wq rfl (qa rfl (Ab (wp rfl (qm rfl (AH D0 rfl (Ed rfl (Ab ?_)))))))
 refine Bb h (fun h => ?_) fun h => ?_
 ·refine wq rfl (qe rfl ?_)
  obtain rfl := sj h
  refine Af (sm [] [(2, iD 3)] [] rfl rfl) (Aq ?_)
  exact ⟨⟨[_], tm, rfl⟩, tv⟩
 ·refine Ap (wp rfl (qe rfl ?_))
  refine A5 (L := Ce N p0) h (fun v2 => mk [(0, pD (.sl (p0.map AG))), (3, iD v2)] []) (fun v3 => mk [] []) (fun _ _ => rfl) (sm [] _ _ rfl rfl) (fun j2 n2 v2 h => ?_) (fun v3 s h hs => ?_)
  ·unfold Ce at h
   refine wp rfl (qw 2 rfl (AH D0 rfl (A4 rfl (Ab ?_))))
   refine Bb h (fun h => ?_) fun h => ?_
   ·refine Ap (AR (AT ?_))
    refine AF h (fun v5 => mk [(0, pD (.sl (p0.map AG))), (3, iD v2), (36, bD v5)] []) (fun j5 h => ?_) (fun v5 h => ?_)
    ·refine Aj Aw rfl (qw 2 rfl ?_)
     refine BN h fun v6 a6 b6 h => qi D0 CY a6 (Ag b6) rfl (qK E9 CY rfl ?_)
     refine B4 h fun v7 a7 h => Av [] (Jc N v6 v7 a7) WV rfl (B9 rfl (qm rfl ?_))
     refine Cp 19 h rfl (fun h => ?_) fun h => ?_
     ·refine qw 3 rfl (qu rfl (qu rfl (qu rfl (qu rfl (qu rfl (qu rfl (qu rfl (qu rfl (qu rfl (qu rfl (qu rfl (qu rfl (qn rfl (qp rfl (AE (by kernel_rfl) ?_)))))))))))))))
      exact sn [] h
     ·refine qm rfl (Ed rfl (qm rfl ?_))
      refine Cp 22 h rfl (fun h => ?_) fun h => ?_
      ·refine qw 2 rfl ?_
       refine BN h fun v10 a10 b10 h => qi D0 CY a10 (Ag b10) rfl (qg GW rfl (qk Ho rfl (qw 2 rfl (J9 rfl ?_))))
       refine BN h fun v11 a11 b11 h => qi D0 CY a11 (Ag b11) rfl (qg GW rfl (qk Ho rfl (A4 rfl (qp rfl (qp rfl (AE (by kernel_rfl) ?_))))))
       exact sn [] h
      ·refine qw 12 rfl (qp rfl (qp rfl (AE (by kernel_rfl) ?_)))
       exact sn [] h
    ·refine Bb h (fun h => ?_) fun h => ?_
     ·refine wq rfl (qe rfl ?_)
      obtain rfl := sj h
      refine Af (sm [] [(2, iD 1)] [] rfl rfl) (Aq ?_)
      exact ⟨⟨[_], tm, rfl⟩, tv⟩
     ·refine Ap (Aj Aw rfl (qm rfl (Cl rfl (qe rfl ?_))))
      exact sn [] h
   ·refine BZ ?_
    exact sn [] h
  ·refine Af hs (wq rfl (qe rfl ?_))
   obtain rfl := sj h
   refine Af (sm [] [(2, iD 0)] [] rfl rfl) (Aq ?_)
   exact ⟨⟨[_], tm, rfl⟩, tv⟩
theorem Jf (N : Nat) (p0 : Aa) (p1 : List Int) (p2 : List Am) (p3 : List Ac) (r : Int) (h : Dw N p0 p1 p2 p3 = some r) : Ar zA 23 [.e (.agg (Ak p0)), pD (.sl (p1.map As)), pD (.sl (p2.map AP)), pD (.sl (p3.map AG))] [] (iD r) := by
 unfold Dw at h
 refine cw (n := 25) (rs := [.tmp 8]) Tryz.func23 fun w0 S0 => ?_
 refine wq rfl (qb rfl (qa rfl (Ab (wp rfl (qL DG DA rfl (qm rfl ?_))))))
 refine B4 h fun v1 a1 h => Av [] (Ip N p0 p1 v1 a1) Xg rfl (qa rfl (Ab (wq rfl (qm rfl (BG rfl (Ab ?_))))))
 refine Bb h (fun h => ?_) fun h => ?_
 ·refine wq rfl (qm rfl (qe rfl ?_))
  obtain rfl := sj h
  refine Af (sm [] [(8, iD v1)] [] rfl rfl) (Aq ?_)
  exact ⟨⟨[_], tm, rfl⟩, tv⟩
 ·refine Ap (wp rfl (qL DG DA rfl (qm rfl ?_)))
  refine B4 h fun v3 a3 h => Av [] (Jb N p0 p2 v3 a3) WL rfl (qa rfl (Ab (wq rfl (qm rfl (BG rfl (Ab ?_))))))
  refine Bb h (fun h => ?_) fun h => ?_
  ·refine wq rfl (qm rfl (qe rfl ?_))
   obtain rfl := sj h
   refine Af (sm [] [(8, iD v3)] [] rfl rfl) (Aq ?_)
   exact ⟨⟨[_], tm, rfl⟩, tv⟩
  ·refine Ap (wq rfl (qm rfl ?_))
   refine B4 h fun v5 a5 h => Av [] (Jh N p3 v5 a5) Xs rfl (qe rfl ?_)
   obtain rfl := sj h
   refine Af (sm [] [(8, iD v5)] [] rfl rfl) (Aq ?_)
   exact ⟨⟨[_], tm, rfl⟩, tv⟩
end Go.Lift
