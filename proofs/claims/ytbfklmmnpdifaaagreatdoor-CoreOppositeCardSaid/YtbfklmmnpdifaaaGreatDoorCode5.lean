/- Lemmas for CoreOppositeCardSaid, which YtbfklmmnpdifaaaGreatDoorFinC5 proves. -/
import Derived.Test.YtbfklmmnpdifaaaGreatDoorCode2
open List renaming map_eq_nil_iff → zH6, replicate → zA6
open Nat renaming zero_add → zA3
open Go.Proofs.Tryz renaming prog → zA0
namespace Go.Lift
open IntKind renaming wrap → wI
set_option maxRecDepth 10000
open Go.RowKit
open Go.Proofs
theorem Ks (N : Nat) (p0 : Int) (r : Int) (h : FZ N p0 = some r) : Ap zA0 151 [pD (.val (.int .u64 p0))] [] (iD r) := by
 unfold FZ at h
 refine cw (n := 35) (rs := [.tmp 2]) Tryz.func151 fun w0 S0 => ?_
 refine wq rfl (qa rfl (Ab (wq rfl (qm rfl (GQ rfl (by decide) (Il rfl (qm rfl (Il rfl (AX rfl (qa rfl (Ab (wq rfl (qm rfl (GQ rfl (by decide) (Il rfl (qm rfl (Il rfl (AX rfl (qa rfl (Ab (wq rfl (qm rfl (GQ rfl (by decide) (qm rfl (AX rfl (Il rfl (qa rfl (Ab (wq rfl (qw 2 rfl (GQ rfl (by decide) (AX rfl (qa rfl ?_)))))))))))))))))))))))))))))))))
 refine Ab (wq rfl (qw 2 rfl (GQ rfl (by decide) (AX rfl (qa rfl (Ab (wq rfl (qw 2 rfl (GQ rfl (by decide) (AX rfl (qa rfl (Ab (wq rfl (qm rfl (Jx W3 XM rfl (Il rfl (qe rfl ?_)))))))))))))))))
 obtain rfl := sj h
 refine Ae (sm [] [(2, iD ((AI .i64 ((wI .i64 ((wI .u64 ((wI .u64 ((wI .u64 ((AI .u64 ((wI .u64 ((AY .u64 ((wI .u64 ((AI .u64 ((AY .u64 ((wI .u64 ((AI .u64 ((AY .u64 p0 1)) 6148914691236517205) + (AI .u64 p0 6148914691236517205)))) 2)) 3689348814741910323) + (AI .u64 ((wI .u64 ((AI .u64 ((AY .u64 p0 1)) 6148914691236517205) + (AI .u64 p0 6148914691236517205)))) 3689348814741910323)))) 4) + (wI .u64 ((AI .u64 ((AY .u64 ((wI .u64 ((AI .u64 ((AY .u64 p0 1)) 6148914691236517205) + (AI .u64 p0 6148914691236517205)))) 2)) 3689348814741910323) + (AI .u64 ((wI .u64 ((AI .u64 ((AY .u64 p0 1)) 6148914691236517205) + (AI .u64 p0 6148914691236517205)))) 3689348814741910323)))))) 1085102592571150095) + (AY .u64 ((AI .u64 ((wI .u64 ((AY .u64 ((wI .u64 ((AI .u64 ((AY .u64 ((wI .u64 ((AI .u64 ((AY .u64 p0 1)) 6148914691236517205) + (AI .u64 p0 6148914691236517205)))) 2)) 3689348814741910323) + (AI .u64 ((wI .u64 ((AI .u64 ((AY .u64 p0 1)) 6148914691236517205) + (AI .u64 p0 6148914691236517205)))) 3689348814741910323)))) 4) + (wI .u64 ((AI .u64 ((AY .u64 ((wI .u64 ((AI .u64 ((AY .u64 p0 1)) 6148914691236517205) + (AI .u64 p0 6148914691236517205)))) 2)) 3689348814741910323) + (AI .u64 ((wI .u64 ((AI .u64 ((AY .u64 p0 1)) 6148914691236517205) + (AI .u64 p0 6148914691236517205)))) 3689348814741910323)))))) 1085102592571150095)) 8))) + (AY .u64 ((wI .u64 ((AI .u64 ((wI .u64 ((AY .u64 ((wI .u64 ((AI .u64 ((AY .u64 ((wI .u64 ((AI .u64 ((AY .u64 p0 1)) 6148914691236517205) + (AI .u64 p0 6148914691236517205)))) 2)) 3689348814741910323) + (AI .u64 ((wI .u64 ((AI .u64 ((AY .u64 p0 1)) 6148914691236517205) + (AI .u64 p0 6148914691236517205)))) 3689348814741910323)))) 4) + (wI .u64 ((AI .u64 ((AY .u64 ((wI .u64 ((AI .u64 ((AY .u64 p0 1)) 6148914691236517205) + (AI .u64 p0 6148914691236517205)))) 2)) 3689348814741910323) + (AI .u64 ((wI .u64 ((AI .u64 ((AY .u64 p0 1)) 6148914691236517205) + (AI .u64 p0 6148914691236517205)))) 3689348814741910323)))))) 1085102592571150095) + (AY .u64 ((AI .u64 ((wI .u64 ((AY .u64 ((wI .u64 ((AI .u64 ((AY .u64 ((wI .u64 ((AI .u64 ((AY .u64 p0 1)) 6148914691236517205) + (AI .u64 p0 6148914691236517205)))) 2)) 3689348814741910323) + (AI .u64 ((wI .u64 ((AI .u64 ((AY .u64 p0 1)) 6148914691236517205) + (AI .u64 p0 6148914691236517205)))) 3689348814741910323)))) 4) + (wI .u64 ((AI .u64 ((AY .u64 ((wI .u64 ((AI .u64 ((AY .u64 p0 1)) 6148914691236517205) + (AI .u64 p0 6148914691236517205)))) 2)) 3689348814741910323) + (AI .u64 ((wI .u64 ((AI .u64 ((AY .u64 p0 1)) 6148914691236517205) + (AI .u64 p0 6148914691236517205)))) 3689348814741910323)))))) 1085102592571150095)) 8)))) 16))) + (AY .u64 ((wI .u64 ((wI .u64 ((AI .u64 ((wI .u64 ((AY .u64 ((wI .u64 ((AI .u64 ((AY .u64 ((wI .u64 ((AI .u64 ((AY .u64 p0 1)) 6148914691236517205) + (AI .u64 p0 6148914691236517205)))) 2)) 3689348814741910323) + (AI .u64 ((wI .u64 ((AI .u64 ((AY .u64 p0 1)) 6148914691236517205) + (AI .u64 p0 6148914691236517205)))) 3689348814741910323)))) 4) + (wI .u64 ((AI .u64 ((AY .u64 ((wI .u64 ((AI .u64 ((AY .u64 p0 1)) 6148914691236517205) + (AI .u64 p0 6148914691236517205)))) 2)) 3689348814741910323) + (AI .u64 ((wI .u64 ((AI .u64 ((AY .u64 p0 1)) 6148914691236517205) + (AI .u64 p0 6148914691236517205)))) 3689348814741910323)))))) 1085102592571150095) + (AY .u64 ((AI .u64 ((wI .u64 ((AY .u64 ((wI .u64 ((AI .u64 ((AY .u64 ((wI .u64 ((AI .u64 ((AY .u64 p0 1)) 6148914691236517205) + (AI .u64 p0 6148914691236517205)))) 2)) 3689348814741910323) + (AI .u64 ((wI .u64 ((AI .u64 ((AY .u64 p0 1)) 6148914691236517205) + (AI .u64 p0 6148914691236517205)))) 3689348814741910323)))) 4) + (wI .u64 ((AI .u64 ((AY .u64 ((wI .u64 ((AI .u64 ((AY .u64 p0 1)) 6148914691236517205) + (AI .u64 p0 6148914691236517205)))) 2)) 3689348814741910323) + (AI .u64 ((wI .u64 ((AI .u64 ((AY .u64 p0 1)) 6148914691236517205) + (AI .u64 p0 6148914691236517205)))) 3689348814741910323)))))) 1085102592571150095)) 8))) + (AY .u64 ((wI .u64 ((AI .u64 ((wI .u64 ((AY .u64 ((wI .u64 ((AI .u64 ((AY .u64 ((wI .u64 ((AI .u64 ((AY .u64 p0 1)) 6148914691236517205) + (AI .u64 p0 6148914691236517205)))) 2)) 3689348814741910323) + (AI .u64 ((wI .u64 ((AI .u64 ((AY .u64 p0 1)) 6148914691236517205) + (AI .u64 p0 6148914691236517205)))) 3689348814741910323)))) 4) + (wI .u64 ((AI .u64 ((AY .u64 ((wI .u64 ((AI .u64 ((AY .u64 p0 1)) 6148914691236517205) + (AI .u64 p0 6148914691236517205)))) 2)) 3689348814741910323) + (AI .u64 ((wI .u64 ((AI .u64 ((AY .u64 p0 1)) 6148914691236517205) + (AI .u64 p0 6148914691236517205)))) 3689348814741910323)))))) 1085102592571150095) + (AY .u64 ((AI .u64 ((wI .u64 ((AY .u64 ((wI .u64 ((AI .u64 ((AY .u64 ((wI .u64 ((AI .u64 ((AY .u64 p0 1)) 6148914691236517205) + (AI .u64 p0 6148914691236517205)))) 2)) 3689348814741910323) + (AI .u64 ((wI .u64 ((AI .u64 ((AY .u64 p0 1)) 6148914691236517205) + (AI .u64 p0 6148914691236517205)))) 3689348814741910323)))) 4) + (wI .u64 ((AI .u64 ((AY .u64 ((wI .u64 ((AI .u64 ((AY .u64 p0 1)) 6148914691236517205) + (AI .u64 p0 6148914691236517205)))) 2)) 3689348814741910323) + (AI .u64 ((wI .u64 ((AI .u64 ((AY .u64 p0 1)) 6148914691236517205) + (AI .u64 p0 6148914691236517205)))) 3689348814741910323)))))) 1085102592571150095)) 8)))) 16)))) 32)))))) 127)))] [] rfl rfl) (As ?_)
 exact ⟨⟨[_], tm, rfl⟩, tv⟩
theorem In (N : Nat) (p0 : Int) (r : Int) (h : Fh N p0 = some r) : Ap zA0 113 [pD (.val (.int .u64 p0))] [] (iD r) := by
 unfold Fh at h
 refine cw (n := 8) (rs := [.tmp 2]) Tryz.func113 fun w0 S0 => ?_
 refine wq rfl (qa rfl (Ab (AL ?_)))
 refine Bb h (fun h => ?_) fun h => ?_
 ·refine wq rfl (qm rfl (Jx YR S8 rfl ?_))
  refine BZ h fun v2 a2 h => Ax [] (Kz N ((wI .u32 p0)) v2 a2) bO rfl (qe rfl ?_)
  obtain rfl := sj h
  refine Ae (sm [] [(2, iD v2)] [] rfl rfl) (As ?_)
  exact ⟨⟨[_], tm, rfl⟩, tv⟩
 ·refine Aj (wq rfl (qm rfl ?_))
  refine BZ h fun v3 a3 h => Ax [] (Ks N p0 v3 a3) cY rfl (qe rfl ?_)
  obtain rfl := sj h
  refine Ae (sm [] [(2, iD v3)] [] rfl rfl) (As ?_)
  exact ⟨⟨[_], tm, rfl⟩, tv⟩
def ZR : Go.Shelf.Ren := ⟨fun | 27 => 82 | 28 => 115 | 29 => 116 | n => n, fun | 0 => 0 | 3 => 3 | 4 => 4 | 5 => 5 | 22 => 147 | 25 => 71 | 27 => 145 | 53 => 180 | 54 => 181 | n => n, fun | 0 => 0 | 1 => 1 | n => n⟩
theorem aA : Lays7.n27 zA0 ZR := { mixed := Aw, f27 := Tryz.func82.trans (congrArg some (by kernel_rfl)), f28 := Tryz.func115.trans (congrArg some (by kernel_rfl)), f29 := Tryz.func116.trans (congrArg some (by kernel_rfl)), t0 := Tryz.underlying0, a0 := Tryz.isAgg0, z0 := Tryz.sizeOf0, v0 := Tryz.zeroValue0, i0 := by kernel_rfl, t3 := Tryz.underlying3, a3 := Tryz.isAgg3, z3 := Tryz.sizeOf3, v3 := Tryz.zeroValue3, i3 := by kernel_rfl, t4 := Tryz.underlying4, a4 := Tryz.isAgg4, z4 := Tryz.sizeOf4, v4 := Tryz.zeroValue4, i4 := by kernel_rfl, t5 := Tryz.underlying5, a5 := Tryz.isAgg5, z5 := Tryz.sizeOf5, v5 := Tryz.zeroValue5, i5 := by kernel_rfl, t22 := Tryz.underlying147, a22 := Tryz.isAgg147, z22 := Tryz.sizeOf147, v22 := Tryz.zeroValue147, i22 := by kernel_rfl, t25 := Tryz.underlying71, a25 := Tryz.isAgg71, z25 := Tryz.sizeOf71, v25 := Tryz.zeroValue71, i25 := by kernel_rfl, t27 := Tryz.underlying145, a27 := Tryz.isAgg145, z27 := Tryz.sizeOf145, v27 := Tryz.zeroValue145, i27 := by kernel_rfl, t53 := Tryz.underlying180, a53 := Tryz.isAgg180, z53 := Tryz.sizeOf180, v53 := Tryz.zeroValue180, i53 := by kernel_rfl, t54 := Tryz.underlying181, a54 := Tryz.isAgg181, z54 := Tryz.sizeOf181, g0 := by kernel_rfl, g1 := by kernel_rfl }
theorem JV (N : Nat) (p0 : Int) (r : Int) (h : GS N p0 = some r) : Ap zA0 82 [pD (.val (.int .u64 p0))] [] (iD r) := en aA (by kernel_rfl) h
theorem H0 (N : Nat) (p0 : Int) (r : (List Int)) (h : BH N p0 = some r) : Ap zA0 52 [pD (.val (.int .u64 p0))] [(1, r.map Ak)] (oD (.own 0)) := by
 unfold BH at h
 refine cw (n := 18) (rs := [.tmp 2]) Tryz.func52 fun w0 S0 => ?_
 refine wq rfl (qa rfl (Ab (wq rfl (qa rfl (Ab (wp rfl (qm rfl (qe rfl ?_))))))))
 refine AB (L := Gl N) h (fun v1 => mk [(3, oD (.own 2001)), (4, pD (.val (.int .u64 v1.2)))] [(2001, .vec 1 (v1.1.map Ak))]) (fun v2 => mk [(3, oD (.own 2002))] [(2002, .vec 1 (v2.map Ak))]) (fun _ _ => rfl) ((A6 3 2003 1 rfl rfl rfl).trans (sm [(2001, 2003)] _ _ rfl rfl)) (fun j1 n1 v1 h => ?_) (fun v2 s h hs => ?_)
 ·unfold Gl at h
  refine wp rfl (qm rfl (BC rfl (Ab ?_)))
  refine Bb h (fun h => ?_) fun h => ?_
  ·refine Aj (AL (AH (Ag Aw rfl (qw 2 rfl ?_))))
   refine BZ h fun v4 a4 h => Ax [] (JV N v1.2 v4 a4) dz rfl (Dp Ar Cx IT rfl ?_)
   refine FT h fun c5 h => Cy (f := Ak) Ar Ar Cx JU IT c5 rfl (qa rfl (Ab (Ag Aw rfl (qw 2 rfl (J4 rfl (Il rfl (qe rfl ?_)))))))
   exact sn [(2001, 16)] h
  ·refine AS ?_
   exact sn [(2002, 2001)] h
 ·refine Ae hs (wq rfl (qm rfl (qe rfl ?_)))
  obtain rfl := sj h
  refine Ae (sm [(1000, 2002)] [(2, oD (.own 1000))] [(1000, .vec 1 (v2.map Ak))] rfl rfl) (As ?_)
  exact ⟨⟨[_], tm, rfl⟩, ⟨rfl, tv⟩⟩
theorem K5 (N : Nat) (p0 : Int) (r : Bool) (h : Hb N p0 = some r) : Ap zA0 173 [iD p0] [] (bD r) := by
 unfold Hb at h
 refine cw (n := 6) (rs := [.tmp 2]) Tryz.func173 fun w0 S0 => ?_
 refine wq rfl (qa rfl (Ab (wq rfl (qw 2 rfl (BC rfl (qe rfl ?_))))))
 obtain rfl := sj h
 refine Ae (sm [] [(2, bD ((p0 != p0)))] [] rfl rfl) (As ?_)
 exact ⟨⟨[_], tm, rfl⟩, tv⟩
theorem Nb (N : Nat) (p0 : Int) (p1 : Int) (r : Int) (h : HM N p0 p1 = some r) : Ap zA0 152 [iD p0, iD p1] [] (iD r) := by
 unfold HM at h
 refine cw (n := 20) (rs := [.tmp 4]) Tryz.func152 fun w0 S0 => ?_
 refine wq rfl (qa rfl (Ab (wq rfl (qm rfl ?_))))
 refine BZ h fun v1 a1 h => Ax [] (K5 N p0 v1 a1) Zz rfl (qa rfl (Ab (wq rfl (qm rfl ?_))))
 refine BZ h fun v2 a2 h => Ax [] (K5 N p1 v2 a2) Zz rfl (qa rfl (Ab (wp rfl (qm rfl (Ab ?_)))))
 refine Bb h (fun h => ?_) fun h => ?_
 ·refine wp rfl (qm rfl (Ab ?_))
  refine Bb h (fun h => ?_) fun h => ?_
  ·refine wq rfl (qe rfl ?_)
   obtain rfl := sj h
   refine Ae (sm [] [(4, iD 0)] [] rfl rfl) (As ?_)
   exact ⟨⟨[_], tm, rfl⟩, tv⟩
  ·refine Aj (wq rfl (qe rfl ?_))
   obtain rfl := sj h
   refine Ae (sm [] [(4, iD ((-1)))] [] rfl rfl) (As ?_)
   exact ⟨⟨[_], tm, rfl⟩, tv⟩
 ·refine Aj (wp rfl (qm rfl (Ab ?_)))
  refine Bb h (fun h => ?_) fun h => ?_
  ·refine wq rfl (qe rfl ?_)
   obtain rfl := sj h
   refine Ae (sm [] [(4, iD 1)] [] rfl rfl) (As ?_)
   exact ⟨⟨[_], tm, rfl⟩, tv⟩
  ·refine Aj (wp rfl (qw 2 rfl (AT rfl (Ab ?_))))
   refine Bb h (fun h => ?_) fun h => ?_
   ·refine wq rfl (qe rfl ?_)
    obtain rfl := sj h
    refine Ae (sm [] [(4, iD ((-1)))] [] rfl rfl) (As ?_)
    exact ⟨⟨[_], tm, rfl⟩, tv⟩
   ·refine Aj (wp rfl (qw 2 rfl (GB rfl (Ab ?_))))
    refine Bb h (fun h => ?_) fun h => ?_
    ·refine wq rfl (qe rfl ?_)
     obtain rfl := sj h
     refine Ae (sm [] [(4, iD 1)] [] rfl rfl) (As ?_)
     exact ⟨⟨[_], tm, rfl⟩, tv⟩
    ·refine Aj (wq rfl (qe rfl ?_))
     obtain rfl := sj h
     refine Ae (sm [] [(4, iD 0)] [] rfl rfl) (As ?_)
     exact ⟨⟨[_], tm, rfl⟩, tv⟩
theorem Ki (N : Nat) (p0 : List Int) (p1 : List Int) (r : Int) (h : FC N p0 p1 = some r) : Ap zA0 114 [pD (.sl (p0.map Ak)), pD (.sl (p1.map Ak))] [] (iD r) := by
 unfold FC at h
 refine cw (n := 36) (rs := [.tmp 4]) Tryz.func114 fun w0 S0 => ?_
 refine wq rfl (qa rfl (Ab (wp rfl (qm rfl (AJ Ar rfl (qm rfl (Ab ?_)))))))
 refine AB (L := DR N p0 p1) h (fun v1 => mk [(0, pD (.sl (p0.map Ak))), (1, pD (.sl (p1.map Ak))), (9, pD (.sl (p0.map Ak))), (10, iD ((p0.length : Int))), (11, iD v1)] []) (fun v2 => mk [(0, pD (.sl (p0.map Ak))), (1, pD (.sl (p1.map Ak)))] []) (fun _ _ => rfl) (sm [] _ _ rfl rfl) (fun j1 n1 v1 h => ?_) (fun v2 s h hs => ?_)
 ·unfold DR at h
  refine wq rfl (AT rfl (Ab (AL ?_)))
  refine Bb h (fun h => ?_) fun h => ?_
  ·refine Aj (AL (AH (wq rfl (qm rfl ?_))))
   refine BK h fun v4 a4 b4 h => qi Ar Cx a4 (Af b4) rfl (qk BV rfl (qa rfl (qa rfl (Ab (wp rfl (qw 2 rfl (AJ Ar rfl (E0 rfl (Ab ?_)))))))))
   refine Bb h (fun h => ?_) fun h => ?_
   ·refine wq rfl (qe rfl ?_)
    obtain rfl := sj h
    refine Ae (sm [] [(4, iD 1)] [] rfl rfl) (As ?_)
    exact ⟨⟨[_], tm, rfl⟩, tv⟩
   ·refine Aj (wq rfl (qw 2 rfl ?_))
    refine BK h fun v6 a6 b6 h => qi Ar Cx a6 (Af b6) rfl (qk BV rfl (qa rfl (Ab (wq rfl (qw 2 rfl ?_)))))
    refine BZ h fun v7 a7 h => Ax [] (Nb N v4 v6 v7 a7) cA rfl (qa rfl (Ab (wq rfl (qm rfl (BC rfl (Ab ?_))))))
    refine Bb h (fun h => ?_) fun h => ?_
    ·refine wq rfl (qm rfl (qe rfl ?_))
     obtain rfl := sj h
     refine Ae (sm [] [(4, iD v7)] [] rfl rfl) (As ?_)
     exact ⟨⟨[_], tm, rfl⟩, tv⟩
    ·refine Aj (Ag Aw rfl (AX rfl (qm rfl (Ab ?_))))
     exact sn [] h
  ·refine AS ?_
   exact sn [] h
 ·refine Ae hs (wp rfl (qm rfl (AJ Ar rfl (qm rfl (AJ Ar rfl (AT rfl (Ab ?_)))))))
  refine Bb h (fun h => ?_) fun h => ?_
  ·refine wq rfl (qe rfl ?_)
   obtain rfl := sj h
   refine Ae (sm [] [(4, iD ((-1)))] [] rfl rfl) (As ?_)
   exact ⟨⟨[_], tm, rfl⟩, tv⟩
  ·refine Aj (wq rfl (qe rfl ?_))
   obtain rfl := sj h
   refine Ae (sm [] [(4, iD 0)] [] rfl rfl) (As ?_)
   exact ⟨⟨[_], tm, rfl⟩, tv⟩
theorem O9 (N : Nat) (p0 : Int) (p1 : Int) (r : Int) (h : Du N p0 p1 = some r) : Ap zA0 78 [pD (.val (.int .u64 p0)), pD (.val (.int .u64 p1))] [] (iD r) := by
 unfold Du at h
 refine cw (n := 19) (rs := [.tmp 4]) Tryz.func78 fun w0 S0 => ?_
 refine wq rfl (qa rfl (Ab (wp rfl (qm rfl ?_))))
 refine BZ h fun v1 a1 h => Ax [] (In N p0 v1 a1) Zq rfl (qm rfl ?_)
 refine BZ h fun v2 a2 h => Ax [] (In N p1 v2 a2) Zq rfl (J4 rfl (qa rfl (Ab (wq rfl (qm rfl (BC rfl (Ab ?_)))))))
 refine Bb h (fun h => ?_) fun h => ?_
 ·refine wq rfl (qm rfl (qe rfl ?_))
  obtain rfl := sj h
  refine Ae (sm [] [(4, iD ((wI .i64 (v1 - v2))))] [] rfl rfl) (As ?_)
  exact ⟨⟨[_], tm, rfl⟩, tv⟩
 ·refine Aj (wq rfl (qm rfl ?_))
  refine BZ h fun v4 a4 h => Ax [2001] (H0 N p0 v4 a4) Y4 rfl (qm rfl ?_)
  refine BZ h fun v5 a5 h => Ax [2002] (H0 N p1 v5 a5) Y4 rfl ?_
  refine BZ h fun v6 a6 h => EK [] [2001, 2002] (Ki N v4 v5 v6 a6) bQ C1 rfl (qe rfl ?_)
  obtain rfl := sj h
  refine Ae (sm [] [(4, iD v6)] [] rfl rfl) (As ?_)
  exact ⟨⟨[_], tm, rfl⟩, tv⟩
theorem If (N : Nat) (p0 : List Int) (p1 : Int) (r : Int) (h : Df N p0 p1 = some r) : Ap zA0 72 [pD (.sl (p0.map Ak)), iD p1] [] (iD r) := by
 unfold Df at h
 refine cw (n := 19) (rs := [.tmp 4]) Tryz.func72 fun w0 S0 => ?_
 refine wq rfl (qa rfl (Ab (wp rfl (qm rfl (AJ Ar rfl (qm rfl (Ab ?_)))))))
 refine AB (L := BM N p0 p1) h (fun v1 => mk [(0, pD (.sl (p0.map Ak))), (1, iD p1), (7, iD ((p0.length : Int))), (8, iD v1)] []) (fun v2 => mk [] []) (fun _ _ => rfl) (sm [] _ _ rfl rfl) (fun j1 n1 v1 h => ?_) (fun v2 s h hs => ?_)
 ·unfold BM at h
  refine wq rfl (AT rfl (Ab (AL ?_)))
  refine Bb h (fun h => ?_) fun h => ?_
  ·refine Aj (AL (AH (wq rfl (qm rfl (qa rfl (Ab (wq rfl (qw 3 rfl ?_))))))))
   refine BK h fun v4 a4 b4 h => qi Ar Cx a4 (Af b4) rfl (qk BV rfl (Ch rfl (Ab ?_)))
   refine Bb h (fun h => ?_) fun h => ?_
   ·refine wq rfl (qm rfl (qe rfl ?_))
    obtain rfl := sj h
    refine Ae (sm [] [(4, iD v1)] [] rfl rfl) (As ?_)
    exact ⟨⟨[_], tm, rfl⟩, tv⟩
   ·refine Aj (Ag Aw rfl (AX rfl (qm rfl (Ab ?_))))
    exact sn [] h
  ·refine AS ?_
   exact sn [] h
 ·refine Ae hs (wq rfl (qe rfl ?_))
  obtain rfl := sj h
  refine Ae (sm [] [(4, iD ((-1)))] [] rfl rfl) (As ?_)
  exact ⟨⟨[_], tm, rfl⟩, tv⟩
theorem Ht (N : Nat) (p0 : List (List Bool)) (r : (List (List Bool))) (h : CS N p0 = some r) : Ap zA0 102 [pD (.sl (p0.map (EX eB)))] [(1, r.map (EX eB))] (oD (.own 0)) := by
 unfold CS at h
 refine cw (n := 8) (rs := [.tmp 2]) Tryz.func102 fun w0 S0 => ?_
 refine wq rfl (qa rfl (Ab (wp rfl (qm rfl ?_))))
 refine M7 (.p rfl) rfl Ep ?_
 refine Ab ?_
 refine Nv rfl (fun c2 => ?_) ?_
 ·have c2 := zH6.1 c2
  rw [c2] at h
  have h : (some (([] : List (List Bool)))) = some r := h
  refine wq rfl (qe rfl ?_)
  obtain rfl := sj h
  refine Ae ((A6 2 2001 1 rfl rfl rfl).trans (sm [(1000, 2001)] [(2, oD (.own 1000))] [(1000, .vec 1 ((([] : List (List Bool))).map (EX eB)))] rfl rfl)) (As ?_)
  exact ⟨⟨[_], tm, rfl⟩, ⟨rfl, tv⟩⟩
 ·refine Aj (wq rfl (Dp Ep Jy TL rfl (qm rfl ?_)))
  refine FT h fun c1 h => I0 (f := (EX eB)) Ep Ep Jy Xh TL (fun _ => rfl) c1 rfl (qe rfl ?_)
  obtain rfl := sj h
  refine Ae (sm [(1000, 7)] [(2, oD (.own 1000))] [(1000, .vec 1 (((([] : List (List Bool))) ++ p0).map (EX eB)))] rfl rfl) (As ?_)
  exact ⟨⟨[_], tm, rfl⟩, ⟨rfl, tv⟩⟩
theorem G4 (N : Nat) (p0 : List Bool) (r : (List Bool)) (h : CB N p0 = some r) : Ap zA0 103 [pD (.sl (p0.map eB))] [(1, r.map eB)] (oD (.own 0)) := by
 unfold CB at h
 refine cw (n := 8) (rs := [.tmp 2]) Tryz.func103 fun w0 S0 => ?_
 refine wq rfl (qa rfl (Ab (wp rfl (qm rfl ?_))))
 refine M7 (.p rfl) rfl Fo ?_
 refine Ab ?_
 refine Nv rfl (fun c2 => ?_) ?_
 ·have c2 := zH6.1 c2
  rw [c2] at h
  have h : (some (([] : List Bool))) = some r := h
  refine wq rfl (qe rfl ?_)
  obtain rfl := sj h
  refine Ae ((A6 2 2001 1 rfl rfl rfl).trans (sm [(1000, 2001)] [(2, oD (.own 1000))] [(1000, .vec 1 ((([] : List Bool)).map eB))] rfl rfl)) (As ?_)
  exact ⟨⟨[_], tm, rfl⟩, ⟨rfl, tv⟩⟩
 ·refine Aj (wq rfl (Dp Fo PG Tw rfl (qm rfl ?_)))
  refine FT h fun c1 h => I0 (f := eB) Fo Fo PG Wi Tw (fun _ => rfl) c1 rfl (qe rfl ?_)
  obtain rfl := sj h
  refine Ae (sm [(1000, 7)] [(2, oD (.own 1000))] [(1000, .vec 1 (((([] : List Bool)) ++ p0).map eB))] rfl rfl) (As ?_)
  exact ⟨⟨[_], tm, rfl⟩, ⟨rfl, tv⟩⟩
theorem PB (N : Nat) (p0 : Al) (r : Al) (h : GC N p0 = some r) : Ap zA0 73 [.e (.agg (Ba p0))] [(1, r.fr.map (EX eB)), (1, r.fk.map (EX eB))] (.e (.agg [iC r.fg, iC r.ff, iC r.fj, .pure (.val (.bool r.ft)), .own 0, .own 1])) := by
 unfold GC at h
 refine cw (n := 48) (rs := [.cell 2 84]) Tryz.func73 fun w0 S0 => ?_
 refine wq rfl (qb rfl (qz IY rfl (Ab (wq rfl (qf Hg rfl (ql Io rfl ?_))))))
 refine BZ h fun v1 a1 h => Ax [2001] (Ht N p0.fr v1 a1) Zw rfl (qf Fx rfl (ql Io rfl ?_))
 refine BZ h fun v2 a2 h => Ax [2002] (Ht N p0.fk v2 a2) Zw rfl (qf Hg rfl (qs XP rfl (qf Fx rfl (qs XP rfl (AO (by kernel_rfl) (wp rfl (qf Hg rfl (ql Io rfl (Ef Ep rfl (qm rfl (Ab ?_)))))))))))
 refine AB (L := DT N v1) h (fun v3 => mk [(1, oD (.ptr 1 0)), (2, oD (.ptr 2 0)), (15, iD ((v1.length : Int))), (16, iD v3.2)] [(1, .box [iC p0.fg, iC p0.ff, iC p0.fj, .pure (.val (.bool p0.ft)), .own 2003, .own 2004]), (2, .box [iC 0, iC 0, iC 0, .pure (.val (.bool false)), .pure (.nil0), .pure (.nil0)]), (2003, .vec 1 (v3.1.map (EX eB))), (2004, .vec 1 (v2.map (EX eB)))]) (fun v4 => mk [(1, oD (.ptr 1 0)), (2, oD (.ptr 2 0))] [(1, .box [iC p0.fg, iC p0.ff, iC p0.fj, .pure (.val (.bool p0.ft)), .own 2005, .own 2006]), (2, .box [iC 0, iC 0, iC 0, .pure (.val (.bool false)), .pure (.nil0), .pure (.nil0)]), (2005, .vec 1 (v4.map (EX eB))), (2006, .vec 1 (v2.map (EX eB)))]) (fun _ _ => rfl) (sm [(2003, 2001), (2004, 2002)] _ _ rfl rfl) (fun j3 n3 v3 h => ?_) (fun v4 s h hs => ?_)
 ·unfold DT at h
  refine wq rfl (AT rfl (Ab (AL ?_)))
  refine Bb h (fun h => ?_) fun h => ?_
  ·refine Aj (AL (AH (wq rfl (qm rfl (qa rfl (Ab (Ag Aw rfl (qf Hg rfl (ql Io rfl (qm rfl (qf Hg rfl (ql Io rfl (qm rfl ?_)))))))))))))
   refine BK h fun v6 a6 b6 h => qI Ep Jy a6 (Af b6) rfl (qj Or (Af b6) rfl ?_)
   refine BZ h fun v7 a7 h => Ax [] ((G4 N v6 v7 a7).share rfl) Y9 rfl ?_
   refine BK h fun v8 a8 b8 h => qI Ep Jy a8 (Af b8) rfl ?_
   refine Dy rfl rfl rfl rfl (Af b8) rfl Jy rfl (I3 rfl) (Dr (EX eB) v3.1 _ v7) ?_
   refine AO (by kernel_rfl) (Ag Aw rfl (AX rfl (qm rfl (Ab ?_))))
   exact sn [] h
  ·refine AS ?_
   exact sn [(2005, 2003), (2006, 2004)] h
 ·refine Ae hs (wp rfl (qf Fx rfl (ql Io rfl (Ef Ep rfl (qm rfl (Ab ?_))))))
  refine AB (L := CX N v2) h (fun v9 => mk [(1, oD (.ptr 1 0)), (2, oD (.ptr 2 0)), (32, iD ((v2.length : Int))), (33, iD v9.2)] [(1, .box [iC p0.fg, iC p0.ff, iC p0.fj, .pure (.val (.bool p0.ft)), .own 2007, .own 2008]), (2, .box [iC 0, iC 0, iC 0, .pure (.val (.bool false)), .pure (.nil0), .pure (.nil0)]), (2007, .vec 1 (v4.map (EX eB))), (2008, .vec 1 (v9.1.map (EX eB)))]) (fun v10 => mk [(1, oD (.ptr 1 0)), (2, oD (.ptr 2 0))] [(1, .box [iC p0.fg, iC p0.ff, iC p0.fj, .pure (.val (.bool p0.ft)), .own 2009, .own 2010]), (2, .box [iC 0, iC 0, iC 0, .pure (.val (.bool false)), .pure (.nil0), .pure (.nil0)]), (2009, .vec 1 (v4.map (EX eB))), (2010, .vec 1 (v10.map (EX eB)))]) (fun _ _ => rfl) (sm [(2007, 2005), (2008, 2006)] _ _ rfl rfl) (fun j9 n9 v9 h => ?_) (fun v10 s h hs => ?_)
  ·unfold CX at h
   refine wq rfl (AT rfl (Ab (AL ?_)))
   refine Bb h (fun h => ?_) fun h => ?_
   ·refine Aj (AL (AH (wq rfl (qm rfl (qa rfl (Ab (Ag Aw rfl (qf Fx rfl (ql Io rfl (qm rfl (qf Fx rfl (ql Io rfl (qm rfl ?_)))))))))))))
    refine BK h fun v12 a12 b12 h => qI Ep Jy a12 (Af b12) rfl (qj Or (Af b12) rfl ?_)
    refine BZ h fun v13 a13 h => Ax [] ((G4 N v12 v13 a13).share rfl) Y9 rfl ?_
    refine BK h fun v14 a14 b14 h => qI Ep Jy a14 (Af b14) rfl ?_
    refine Dy rfl rfl rfl rfl (Af b14) rfl Jy rfl (I3 rfl) (Dr (EX eB) v9.1 _ v13) ?_
    refine AO (by kernel_rfl) (Ag Aw rfl (AX rfl (qm rfl (Ab ?_))))
    exact sn [] h
   ·refine AS ?_
    exact sn [(2009, 2007), (2010, 2008)] h
  ·refine Ae hs (wq rfl (qL GR Dc rfl (qs Dc rfl (Ab ?_))))
   obtain rfl := sj h
   refine Ae (sm [(1000, 2009), (1001, 2010)] [(2, oD (.ptr 2 0))] [(2, .box [iC p0.fg, iC p0.ff, iC p0.fj, .pure (.val (.bool p0.ft)), .own 1000, .own 1001]), (1000, .vec 1 (v4.map (EX eB))), (1001, .vec 1 (v10.map (EX eB)))] rfl rfl) (As ?_)
   exact ⟨⟨[_], ⟨.cellN _ _ _ _ _ _ _ rfl rfl GR Dc rfl rfl (Jh rfl), tv⟩, rfl⟩, ⟨rfl, rfl, tv⟩⟩
theorem NK (N : Nat) (p0 : Aa) (p1 : List Int) (r : Aa × Int) (h : FI N p0 p1 = some r) : Ap zA0 39 [.e (.agg (Ah p0)), pD (.sl (p1.map Ak))] [(1, r.1.fa.map Ak), (1, r.1.fh.map Ak), (1, r.1.fq.map Ak), (6, r.1.fc.map AM)] (.tup [.agg [.own 0, .own 1, .own 2, .own 3], .one (iC r.2)]) := by
 unfold FI at h
 refine cw (n := 121) (rs := [.cell 4 29, .tmp 5]) Tryz.func39 fun w0 S0 => ?_
 refine wq rfl (qb rfl (qz Kx rfl (qa rfl (Ab (wp rfl (qL Dq Cu rfl ?_))))))
 refine BZ h fun v1 a1 h => Ax [] (EQ N p0 v1 a1) Xc rfl (qa rfl (Ab (wq rfl (qm rfl (BC rfl (Ab ?_))))))
 refine Bb h (fun h => ?_) fun h => ?_
 ·refine wq rfl (Bg Kx R3 rfl (qm rfl (qs Cu rfl (qe rfl ?_))))
  obtain rfl := sj h
  refine Ae ((Aq 4 0 2001 1 _ rfl rfl rfl rfl).trans ((Aq 4 1 2002 1 _ rfl rfl rfl rfl).trans ((Aq 4 2 2003 1 _ rfl rfl rfl rfl).trans ((Aq 4 3 2004 6 _ rfl rfl rfl rfl).trans (sm [(1000, 2001), (1001, 2002), (1002, 2003), (1003, 2004)] [(4, oD (.ptr 4 0)), (5, iD v1)] [(4, .box [.own 1000, .own 1001, .own 1002, .own 1003]), (1000, .vec 1 ((([] : List Int)).map Ak)), (1001, .vec 1 ((([] : List Int)).map Ak)), (1002, .vec 1 ((([] : List Int)).map Ak)), (1003, .vec 6 ((([] : List Al)).map AM))] rfl rfl))))) (As ?_)
  exact ⟨⟨[_, _], ⟨.cellN _ _ _ _ _ _ _ rfl rfl Dq Cu rfl rfl (Jh rfl), tm⟩, rfl⟩, ⟨rfl, rfl, rfl, rfl, tv⟩⟩
 ·refine Aj (wp rfl (qm rfl (AJ Ar rfl (qm rfl (Ab ?_)))))
  refine AB (L := Cm N p1) h (fun v3 => mk [(1, pD (.sl (p1.map Ak))), (2, oD (.ptr 2 0)), (4, oD (.ptr 4 0)), (22, iD ((p1.length : Int))), (23, iD v3)] [(2, .box (Ah p0)), (4, .box [.pure (.nil0), .pure (.nil0), .pure (.nil0), .pure (.nil0)])]) (fun v4 => mk [(1, pD (.sl (p1.map Ak))), (2, oD (.ptr 2 0)), (4, oD (.ptr 4 0))] [(2, .box (Ah p0)), (4, .box [.pure (.nil0), .pure (.nil0), .pure (.nil0), .pure (.nil0)])]) (fun _ _ => rfl) (sm [] _ _ rfl rfl) (fun j3 n3 v3 h => ?_) (fun v4 s h hs => ?_)
  ·unfold Cm at h
   refine wq rfl (AT rfl (Ab (AL ?_)))
   refine Bb h (fun h => ?_) fun h => ?_
   ·refine Aj (AL (AH (wq rfl (qm rfl (qe rfl ?_)))))
    refine AQ h (fun v6 => mk [(1, pD (.sl (p1.map Ak))), (2, oD (.ptr 2 0)), (4, oD (.ptr 4 0)), (22, iD ((p1.length : Int))), (23, iD v3), (39, bD v6)] [(2, .box (Ah p0)), (4, .box [.pure (.nil0), .pure (.nil0), .pure (.nil0), .pure (.nil0)])]) (fun j6 h => ?_) (fun v6 h => ?_)
    ·refine Ag Aw rfl (qm rfl (GB rfl (qm rfl ?_)))
     refine Eo 28 h rfl (fun h => ?_) fun h => ?_
     ·refine qw 2 rfl ?_
      refine BK h fun v8 a8 b8 h => qi Ar Cx a8 (Af b8) rfl (qk BV rfl (qw 2 rfl (J4 rfl ?_)))
      refine BK h fun v9 a9 b9 h => qi Ar Cx a9 (Af b9) rfl (qk BV rfl (U4 rfl (qp rfl (AO (by kernel_rfl) ?_))))
      exact sn [] h
     ·refine qw 10 rfl (qp rfl (AO (by kernel_rfl) ?_))
      exact sn [] h
    ·refine Bb h (fun h => ?_) fun h => ?_
     ·refine wq rfl (Bg Kx R3 rfl (qs Cu rfl (qe rfl ?_)))
      obtain rfl := sj h
      refine Ae ((Aq 4 0 2005 1 _ rfl rfl rfl rfl).trans ((Aq 4 1 2006 1 _ rfl rfl rfl rfl).trans ((Aq 4 2 2007 1 _ rfl rfl rfl rfl).trans ((Aq 4 3 2008 6 _ rfl rfl rfl rfl).trans (sm [(1000, 2005), (1001, 2006), (1002, 2007), (1003, 2008)] [(4, oD (.ptr 4 0)), (5, iD 1)] [(4, .box [.own 1000, .own 1001, .own 1002, .own 1003]), (1000, .vec 1 ((([] : List Int)).map Ak)), (1001, .vec 1 ((([] : List Int)).map Ak)), (1002, .vec 1 ((([] : List Int)).map Ak)), (1003, .vec 6 ((([] : List Al)).map AM))] rfl rfl))))) (As ?_)
      exact ⟨⟨[_, _], ⟨.cellN _ _ _ _ _ _ _ rfl rfl Dq Cu rfl rfl (Jh rfl), tm⟩, rfl⟩, ⟨rfl, rfl, rfl, rfl, tv⟩⟩
     ·refine Aj (Ag Aw rfl (AX rfl (qm rfl (Ab ?_))))
      exact sn [] h
   ·refine AS ?_
    exact sn [] h
  ·refine Ae hs (wq rfl (qz Kx rfl (Ab (wp rfl (qm rfl (AJ Ar rfl (qm rfl (Ab ?_))))))))
   refine AB (L := DM N p0 p1) h (fun v11 => mk [(1, pD (.sl (p1.map Ak))), (2, oD (.ptr 2 0)), (4, oD (.ptr 4 0)), (8, oD (.ptr 8 0)), (42, pD (.sl (p1.map Ak))), (43, iD ((p1.length : Int))), (44, iD v11.2.2.2)] [(2, .box (Ah p0)), (4, .box [.pure (.nil0), .pure (.nil0), .pure (.nil0), .pure (.nil0)]), (8, .box [.own 2009, .own 2010, .own 2011, .pure (.nil0)]), (2009, .vec 1 (v11.1.map Ak)), (2010, .vec 1 (v11.2.1.map Ak)), (2011, .vec 1 (v11.2.2.1.map Ak))]) (fun v12 => mk [(1, pD (.sl (p1.map Ak))), (2, oD (.ptr 2 0)), (4, oD (.ptr 4 0)), (8, oD (.ptr 8 0))] [(2, .box (Ah p0)), (4, .box [.pure (.nil0), .pure (.nil0), .pure (.nil0), .pure (.nil0)]), (8, .box [.own 2012, .own 2013, .own 2014, .pure (.nil0)]), (2012, .vec 1 (v12.1.map Ak)), (2013, .vec 1 (v12.2.1.map Ak)), (2014, .vec 1 (v12.2.2.map Ak))]) (fun _ _ => rfl) ((Aq 8 0 2019 1 _ rfl rfl rfl rfl).trans ((Aq 8 1 2020 1 _ rfl rfl rfl rfl).trans ((Aq 8 2 2021 1 _ rfl rfl rfl rfl).trans (sm [(2009, 2019), (2010, 2020), (2011, 2021)] _ _ rfl rfl)))) (fun j11 n11 v11 h => ?_) (fun v12 s h hs => ?_)
   ·unfold DM at h
    refine wq rfl (AT rfl (Ab (AL ?_)))
    refine Bb h (fun h => ?_) fun h => ?_
    ·refine Aj (AL (AH (wq rfl ?_)))
     refine BK h fun v14 a14 b14 h => qi Ar Cx a14 (Af b14) rfl (qk BV rfl (qa rfl (Ab (wp rfl (qm rfl (qf A7 rfl (ql A1 rfl (AJ Ar rfl ?_))))))))
     refine BZ h fun v15 a15 h => Ax [] (GZ N v14 ((p0.fa.length : Int)) v15 a15) XG rfl (CD rfl (Ab ?_))
     refine Bb h (fun h => ?_) fun h => ?_
     ·refine wq rfl (Bg Kx R3 rfl (qs Cu rfl (qe rfl ?_)))
      obtain rfl := sj h
      refine Ae ((Aq 4 0 2015 1 _ rfl rfl rfl rfl).trans ((Aq 4 1 2016 1 _ rfl rfl rfl rfl).trans ((Aq 4 2 2017 1 _ rfl rfl rfl rfl).trans ((Aq 4 3 2018 6 _ rfl rfl rfl rfl).trans (sm [(1000, 2015), (1001, 2016), (1002, 2017), (1003, 2018)] [(4, oD (.ptr 4 0)), (5, iD 4)] [(4, .box [.own 1000, .own 1001, .own 1002, .own 1003]), (1000, .vec 1 ((([] : List Int)).map Ak)), (1001, .vec 1 ((([] : List Int)).map Ak)), (1002, .vec 1 ((([] : List Int)).map Ak)), (1003, .vec 6 ((([] : List Al)).map AM))] rfl rfl))))) (As ?_)
      exact ⟨⟨[_, _], ⟨.cellN _ _ _ _ _ _ _ rfl rfl Dq Cu rfl rfl (Jh rfl), tm⟩, rfl⟩, ⟨rfl, rfl, rfl, rfl, tv⟩⟩
     ·refine Aj (wq rfl (qf A7 rfl (ql A1 rfl (qf A7 rfl (ql A1 rfl (qm rfl ?_))))))
      refine BK h fun v17 a17 b17 h => qi Ar Cx a17 (Af b17) rfl (qk BV rfl (Dp Ar Cx IT rfl ?_))
      refine FT h fun c18 h => Cy (f := Ak) Ar Ar Cx JU IT c18 rfl (qf A7 rfl (qs G8 rfl (AO (by kernel_rfl) (wq rfl (qf Fv rfl (ql A1 rfl (qf Fv rfl (ql A1 rfl (qm rfl ?_)))))))))
      refine BK h fun v19 a19 b19 h => qi Ar Cx a19 (Af b19) rfl (qk BV rfl (Dp Ar Cx IT rfl ?_))
      refine FT h fun c20 h => Cy (f := Ak) Ar Ar Cx JU IT c20 rfl (qf Fv rfl (qs G8 rfl (AO (by kernel_rfl) (Ag Aw rfl (qf GP rfl (ql A1 rfl (qf GP rfl (ql A1 rfl (qm rfl ?_)))))))))
      refine BK h fun v21 a21 b21 h => qi Ar Cx a21 (Af b21) rfl (qk BV rfl (Dp Ar Cx IT rfl ?_))
      refine FT h fun c22 h => Cy (f := Ak) Ar Ar Cx JU IT c22 rfl (qf GP rfl (qs G8 rfl (AO (by kernel_rfl) (Ag Aw rfl (AX rfl (qm rfl (Ab ?_)))))))
      exact sn [(2009, 63), (2010, 73), (2011, 83)] h
    ·refine AS ?_
     exact sn [(2012, 2009), (2013, 2010), (2014, 2011)] h
   ·refine Ae hs (wp rfl (qf Ca rfl (ql Hc rfl (AJ Dl rfl (qm rfl (Ab ?_))))))
    refine AB (L := CF N p0 p1) h (fun v23 => mk [(1, pD (.sl (p1.map Ak))), (4, oD (.ptr 4 0)), (8, oD (.ptr 8 0)), (87, pD (.sl (p0.fc.map AM))), (88, iD ((p0.fc.length : Int))), (89, iD v23.2)] [(4, .box [.pure (.nil0), .pure (.nil0), .pure (.nil0), .pure (.nil0)]), (8, .box [.own 2022, .own 2023, .own 2024, .own 2025]), (2022, .vec 1 (v12.1.map Ak)), (2023, .vec 1 (v12.2.1.map Ak)), (2024, .vec 1 (v12.2.2.map Ak)), (2025, .vec 6 (v23.1.map AM))]) (fun v24 => mk [(4, oD (.ptr 4 0)), (8, oD (.ptr 8 0))] [(4, .box [.pure (.nil0), .pure (.nil0), .pure (.nil0), .pure (.nil0)]), (8, .box [.own 2026, .own 2027, .own 2028, .own 2029]), (2026, .vec 1 (v12.1.map Ak)), (2027, .vec 1 (v12.2.1.map Ak)), (2028, .vec 1 (v12.2.2.map Ak)), (2029, .vec 6 (v24.map AM))]) (fun _ _ => rfl) ((Aq 8 3 2040 6 _ rfl rfl rfl rfl).trans (sm [(2022, 2012), (2023, 2013), (2024, 2014), (2025, 2040)] _ _ rfl rfl)) (fun j23 n23 v23 h => ?_) (fun v24 s h hs => ?_)
    ·unfold CF at h
     refine wq rfl (AT rfl (Ab (AL ?_)))
     refine Bb h (fun h => ?_) fun h => ?_
     ·refine Aj ?_
      refine AQ h (fun v26 => mk [(1, pD (.sl (p1.map Ak))), (4, oD (.ptr 4 0)), (8, oD (.ptr 8 0)), (87, pD (.sl (p0.fc.map AM))), (88, iD ((p0.fc.length : Int))), (89, iD v23.2)] [(4, .box [.pure (.nil0), .pure (.nil0), .pure (.nil0), .pure (.nil0)]), (8, .box [.own 2030, .own 2031, .own 2032, .own 2033]), (2030, .vec 1 (v12.1.map Ak)), (2031, .vec 1 (v12.2.1.map Ak)), (2032, .vec 1 (v12.2.2.map Ak)), (2033, .vec 6 (v26.map AM))]) (fun j26 h => ?_) (fun v26 h => ?_)
      ·refine AH (wq rfl ?_)
       refine BK h fun v27 a27 b27 h => qi Dl Dc a27 (Af b27) rfl (qK GR Dc rfl (qz IY rfl (qs Dc rfl (Ab (wq rfl (qm rfl (qf CY rfl (ql BV rfl ?_))))))))
       refine BZ h fun v28 a28 h => Ax [] (If N p1 v27.ff v28 a28) cF rfl (qm rfl (qf HD rfl (ql BV rfl ?_)))
       refine BZ h fun v29 a29 h => Ax [] (If N p1 v27.fj v29 a29) cF rfl (qa rfl (qa rfl (AO (by kernel_rfl) ?_)))
       refine AQ h (fun v30 => mk [(1, pD (.sl (p1.map Ak))), (4, oD (.ptr 4 0)), (8, oD (.ptr 8 0)), (12, oD (.ptr 12 0)), (13, iD v28), (14, iD v29), (87, pD (.sl (p0.fc.map AM))), (88, iD ((p0.fc.length : Int))), (89, iD v23.2), (106, bD v30)] [(4, .box [.pure (.nil0), .pure (.nil0), .pure (.nil0), .pure (.nil0)]), (8, .box [.own 2034, .own 2035, .own 2036, .own 2037]), (12, .box (Ba v27)), (2034, .vec 1 (v12.1.map Ak)), (2035, .vec 1 (v12.2.1.map Ak)), (2036, .vec 1 (v12.2.2.map Ak)), (2037, .vec 6 (v23.1.map AM))]) (fun j30 h => ?_) (fun v30 h => ?_)
       ·refine Ag Aw rfl (qm rfl (E0 rfl (qm rfl ?_)))
        refine Eo 103 h rfl (fun h => ?_) fun h => ?_
        ·refine qm rfl (E0 rfl (qp rfl (Ab ?_)))
         exact sn [(2034, 2022), (2035, 2023), (2036, 2024), (2037, 2025)] h
        ·refine qw 2 rfl (qp rfl (Ab ?_))
         exact sn [(2034, 2022), (2035, 2023), (2036, 2024), (2037, 2025)] h
       ·refine Bb h (fun h => ?_) fun h => ?_
        ·refine wq rfl (qL GR Dc rfl ?_)
         refine BZ h fun v33 a33 h => Ax [2038, 2039] (PB N v27 v33 a33) dn rfl (qs Dc rfl (Ab (wq rfl (qw 2 rfl (qf CY rfl (qs Cx rfl (qf HD rfl (qs Cx rfl (Ab (Ag Aw rfl (qf Ca rfl (ql Hc rfl (qL GR Dc rfl (CQ (A9 2038 _ _ rfl rfl) (CQ (A9 2039 _ _ rfl rfl) (Dp Dl Dc IY rfl ?_))))))))))))))))
         refine FT h fun c34 h => Cy (f := AM) Dl Dl Dc WP IY c34 rfl (qf Ca rfl (qs az rfl (Ab ?_)))
         exact sn [(2030, 2034), (2031, 2035), (2032, 2036), (2033, 117)] h
        ·refine Aj ?_
         exact sn [(2030, 2034), (2031, 2035), (2032, 2036), (2033, 2037)] h
      ·refine Ag Aw rfl (AX rfl (qm rfl (Ab ?_)))
       exact sn [(2022, 2030), (2023, 2031), (2024, 2032), (2025, 2033)] h
     ·refine AS ?_
      exact sn [(2026, 2022), (2027, 2023), (2028, 2024), (2029, 2025)] h
    ·refine Ae hs (wq rfl (qL Dq Cu rfl (qs Cu rfl (qe rfl ?_))))
     obtain rfl := sj h
     refine Ae (sm [(1000, 2026), (1001, 2027), (1002, 2028), (1003, 2029)] [(4, oD (.ptr 4 0)), (5, iD 0)] [(4, .box [.own 1000, .own 1001, .own 1002, .own 1003]), (1000, .vec 1 (v12.1.map Ak)), (1001, .vec 1 (v12.2.1.map Ak)), (1002, .vec 1 (v12.2.2.map Ak)), (1003, .vec 6 (v24.map AM))] rfl rfl) (As ?_)
     exact ⟨⟨[_, _], ⟨.cellN _ _ _ _ _ _ _ rfl rfl Dq Cu rfl rfl (Jh rfl), tm⟩, rfl⟩, ⟨rfl, rfl, rfl, rfl, tv⟩⟩
theorem Ec (N : Nat) (p0 : List Int) (r : (List Int)) (h : BQ N p0 = some r) : Ap zA0 13 [pD (.sl (p0.map Ak))] [(1, r.map Ak)] (oD (.own 0)) := by
 unfold BQ at h
 refine cw (n := 8) (rs := [.tmp 2]) Tryz.func13 fun w0 S0 => ?_
 refine wq rfl (qa rfl (Ab (wp rfl (qm rfl ?_))))
 refine M7 (.p rfl) rfl Ar ?_
 refine Ab ?_
 refine Nv rfl (fun c2 => ?_) ?_
 ·have c2 := zH6.1 c2
  rw [c2] at h
  have h : (some (([] : List Int))) = some r := h
  refine wq rfl (qe rfl ?_)
  obtain rfl := sj h
  refine Ae ((A6 2 2001 1 rfl rfl rfl).trans (sm [(1000, 2001)] [(2, oD (.own 1000))] [(1000, .vec 1 ((([] : List Int)).map Ak))] rfl rfl)) (As ?_)
  exact ⟨⟨[_], tm, rfl⟩, ⟨rfl, tv⟩⟩
 ·refine Aj (wq rfl (Dp Ar Cx IT rfl (qm rfl ?_)))
  refine FT h fun c1 h => I0 (f := Ak) Ar Ar Cx JU IT (fun _ => rfl) c1 rfl (qe rfl ?_)
  obtain rfl := sj h
  refine Ae (sm [(1000, 7)] [(2, oD (.own 1000))] [(1000, .vec 1 (((([] : List Int)) ++ p0).map Ak))] rfl rfl) (As ?_)
  exact ⟨⟨[_], tm, rfl⟩, ⟨rfl, tv⟩⟩
theorem Np (N : Nat) (p0 : Int) (p1 : Int) (r : Int × Int) (h : HJ N p0 p1 = some r) : Ap zA0 166 [pD (.val (.int .u32 p0)), pD (.val (.int .u32 p1))] [] (.tup [.one (.pure (.val (.int .u32 r.1))), .one (.pure (.val (.int .u32 r.2)))]) := by
 unfold HJ at h
 refine cw (n := 17) (rs := [.tmp 4, .tmp 5]) Tryz.func166 fun w0 S0 => ?_
 refine wq rfl (qa rfl (qa rfl (Ab (wq rfl (qm rfl (Jx Uv Zo rfl (qm rfl (Jx Uv Zo rfl (Ny rfl (qa rfl (Ab (wq rfl (qm rfl (GQ rfl (by decide) (Jx W3 S8 rfl (qm rfl (Jx W3 S8 rfl (qa rfl (qe rfl ?_)))))))))))))))))))
 obtain rfl := sj h
 refine Ae (sm [] [(4, pD (.val (.int .u32 ((wI .u32 ((AY .u64 ((wI .u64 ((wI .u64 p0) * (wI .u64 p1)))) 32))))))), (5, pD (.val (.int .u32 ((wI .u32 ((wI .u64 ((wI .u64 p0) * (wI .u64 p1)))))))))] [] rfl rfl) (As ?_)
 exact ⟨⟨[_, _], ⟨.tmp _ _ rfl, tm⟩, rfl⟩, tv⟩
theorem M6 (N : Nat) (p0 : Int) (p1 : Int) (r : Int × Int) (h : HG N p0 p1 = some r) : Ap zA0 167 [pD (.val (.int .u64 p0)), pD (.val (.int .u64 p1))] [] (.tup [.one (.pure (.val (.int .u64 r.1))), .one (.pure (.val (.int .u64 r.2)))]) := by
 unfold HG at h
 refine cw (n := 51) (rs := [.tmp 4, .tmp 5]) Tryz.func167 fun w0 S0 => ?_
 refine wq rfl (qa rfl (qa rfl (Ab (wq rfl (qm rfl (Il rfl (qa rfl (Ab (wq rfl (qm rfl (GQ rfl (by decide) (qa rfl (Ab (wq rfl (qm rfl (Il rfl (qa rfl (Ab (wq rfl (qm rfl (GQ rfl (by decide) (qa rfl (Ab (wq rfl (qw 2 rfl (Ny rfl (qa rfl (Ab (wq rfl (qw 2 rfl ?_))))))))))))))))))))))))))))))
 refine Ny rfl (qm rfl (GQ rfl (by decide) (AX rfl (qa rfl (Ab (wq rfl (qm rfl (Il rfl (qa rfl (Ab (wq rfl (qm rfl (GQ rfl (by decide) (qa rfl (Ab (wq rfl (qw 3 rfl (Ny rfl (AX rfl (qa rfl (Ab (wq rfl (qw 2 rfl (Ny rfl (qm rfl (AX rfl (qm rfl (GQ rfl (by decide) (AX rfl (qa rfl (Ab (AL ?_))))))))))))))))))))))))))))))))
 refine Ag Aw rfl (qw 2 rfl (Ny rfl (qe rfl ?_)))
 obtain rfl := sj h
 refine Ae (sm [] [(4, pD (.val (.int .u64 ((wI .u64 ((wI .u64 ((wI .u64 ((AY .u64 p0 32) * (AY .u64 p1 32))) + (AY .u64 ((wI .u64 ((wI .u64 ((AY .u64 p0 32) * (AI .u64 p1 4294967295))) + (AY .u64 ((wI .u64 ((AI .u64 p0 4294967295) * (AI .u64 p1 4294967295)))) 32)))) 32))) + (AY .u64 ((wI .u64 ((AI .u64 ((wI .u64 ((wI .u64 ((AY .u64 p0 32) * (AI .u64 p1 4294967295))) + (AY .u64 ((wI .u64 ((AI .u64 p0 4294967295) * (AI .u64 p1 4294967295)))) 32)))) 4294967295) + (wI .u64 ((AI .u64 p0 4294967295) * (AY .u64 p1 32)))))) 32))))))), (5, pD (.val (.int .u64 ((wI .u64 (p0 * p1))))))] [] rfl rfl) (As ?_)
 exact ⟨⟨[_, _], ⟨.tmp _ _ rfl, tm⟩, rfl⟩, tv⟩
theorem Ol (N : Nat) (p0 : Int) (p1 : Int) (r : Int × Int) (h : Iu N p0 p1 = some r) : Ap zA0 137 [pD (.val (.int .u64 p0)), pD (.val (.int .u64 p1))] [] (.tup [.one (.pure (.val (.int .u64 r.1))), .one (.pure (.val (.int .u64 r.2)))]) := by
 unfold Iu at h
 refine cw (n := 30) (rs := [.tmp 4, .tmp 5]) Tryz.func137 fun w0 S0 => ?_
 refine wq rfl (qa rfl (qa rfl (Ab (AL ?_))))
 refine Bb h (fun h => ?_) fun h => ?_
 ·refine wq rfl (qm rfl (Jx YR S8 rfl (qm rfl (Jx YR S8 rfl ?_))))
  refine BZ h fun v2 a2 h => Ax [] (Np N ((wI .u32 p0)) ((wI .u32 p1)) v2 a2) cr rfl (qm rfl (qx rfl (qx rfl (qa rfl (qa rfl (Ab (wq rfl (qm rfl (Jx Uv Yu rfl (qm rfl (Jx Uv Yu rfl (qa rfl (qe rfl ?_)))))))))))))
  obtain rfl := sj h
  refine Ae (sm [] [(4, pD (.val (.int .u64 ((wI .u64 v2.1))))), (5, pD (.val (.int .u64 ((wI .u64 v2.2)))))] [] rfl rfl) (As ?_)
  exact ⟨⟨[_, _], ⟨.tmp _ _ rfl, tm⟩, rfl⟩, tv⟩
 ·refine Aj (wq rfl (qw 2 rfl ?_))
  refine BZ h fun v3 a3 h => Ax [] (M6 N p0 p1 v3 a3) aP rfl (qm rfl (qx rfl (qx rfl (qa rfl (qa rfl (Ab (wq rfl (qw 2 rfl (qa rfl (qe rfl ?_))))))))))
  obtain rfl := sj h
  refine Ae (sm [] [(4, pD (.val (.int .u64 v3.1))), (5, pD (.val (.int .u64 v3.2)))] [] rfl rfl) (As ?_)
  exact ⟨⟨[_, _], ⟨.tmp _ _ rfl, tm⟩, rfl⟩, tv⟩
theorem Kp (N : Nat) (p0 : List Int) (p1 : Int) (r : (List Int)) (h : EF N p0 p1 = some r) : Ap zA0 104 [pD (.sl (p0.map Ak)), iD p1] [(1, r.map Ak)] (oD (.own 0)) := by
 unfold EF at h
 refine cw (n := 48) (rs := [.tmp 4]) Tryz.func104 fun w0 S0 => ?_
 refine wq rfl (qe rfl ?_)
 refine AQ h (fun v1 => mk [(0, pD (.sl (p0.map Ak))), (1, iD p1)] []) (fun j1 h => ?_) (fun v1 h => ?_)
 ·refine wq rfl (qm rfl (AT rfl (Ab ?_)))
  refine Bb h (fun h => ?_) fun h => ?_
  ·refine Ag Aw rfl ?_
   cases h
  ·refine Aj ?_
   exact sn [] h
 ·refine wq rfl (qm rfl (AJ Ar rfl (Jx de Yu rfl (qm rfl (Jx de Yu rfl ?_)))))
  refine BZ h fun v3 a3 h => Ax [] (Ol N ((wI .u64 ((p0.length : Int)))) ((wI .u64 p1)) v3 a3) cG rfl (qm rfl (qx rfl (qx rfl (qa rfl (qe rfl ?_)))))
  refine AQ h (fun v4 => mk [(0, pD (.sl (p0.map Ak))), (6, pD (.val (.int .u64 v3.2)))] []) (fun j4 h => ?_) (fun v4 h => ?_)
  ·refine AQ h (fun v5 => mk [(0, pD (.sl (p0.map Ak))), (6, pD (.val (.int .u64 v3.2))), (26, bD v5)] []) (fun j5 h => ?_) (fun v5 h => ?_)
   ·refine Ag Aw rfl (qm rfl (GB rfl (qm rfl ?_)))
    refine Eo 23 h rfl (fun h => ?_) fun h => ?_
    ·refine qw 2 rfl (qp rfl (Ab ?_))
     exact sn [] h
    ·refine qm rfl (GB rfl (qp rfl (Ab ?_)))
     exact sn [] h
   ·refine Bb h (fun h => ?_) fun h => ?_
    ·refine Ag Aw rfl ?_
     cases h
    ·refine Aj ?_
     exact sn [] h
  ·refine wq rfl (qm rfl (Jx YR XM rfl ?_))
   refine FT h fun c8 h => Lf (.p rfl) rfl rfl rfl Ar Cx JU (I3 rfl) IT rfl rfl rfl c8.1 c8.2.1 c8.2.2 (Q9 Ak _ ((0 : Int))) ?_
   refine qa rfl (Ab (wq rfl (qw 2 rfl ?_)))
   refine Un Ak (zA6 ((wI .i64 v3.2)).toNat ((0 : Int))) p0 (.p rfl) rfl (Ju Ak _ _ (zA6 ((wI .i64 v3.2)).toNat ((0 : Int)))) rfl rfl (Yz Ak _ _ (fun _ => rfl)) tv Ar Cx ?_
   refine qa rfl (Ab (AL ?_))
   refine AB (L := D8 N) h (fun v9 => mk [(7, oD (.own 2001)), (8, iD v9.2)] [(2001, .vec 1 (v9.1.map Ak))]) (fun v10 => mk [(7, oD (.own 2002))] [(2002, .vec 1 (v10.map Ak))]) (fun _ _ => rfl) (sm [(2001, 30)] _ _ rfl rfl) (fun j9 n9 v9 h => ?_) (fun v10 s h hs => ?_)
   ·unfold D8 at h
    refine wp rfl (qw 2 rfl (Ef Ar rfl (AT rfl (Ab ?_))))
    refine Bb h (fun h => ?_) fun h => ?_
    ·refine Aj (AH (Ag Aw rfl (qw 3 rfl ?_)))
     obtain ⟨c12, h⟩ := Hw h
     have w13 : ((v9.2).toNat) + ((v9.1.length - (v9.2).toNat)) ≤ v9.1.length := by have := c12.2.1; have := c12.2.2; omega
     refine Ko Ak v9.1 (.p rfl) rfl (Ju Ak _ _ v9.1) rfl Ar Cx (.some _ _ _ _ c12.1) (.none _) ⟨rfl, tv⟩ tv c12.2.1 (by rw [zA3]; exact c12.2.2) (zA3 _) rfl ?_
     refine qw 2 rfl ?_
     obtain ⟨c14, h⟩ := Hw h
     have w15 : 0 + ((v9.2).toNat) ≤ v9.1.length := by have := c14.2.1; have := c14.2.2; omega
     refine Ko Ak v9.1 (.p rfl) rfl (Ju Ak _ _ v9.1) rfl Ar Cx (.none _) (.some _ _ _ _ c14.1) tv ⟨rfl, tv⟩ c14.2.1 (by rw [zA3]; exact c14.2.2) (zA3 _) rfl ?_
     refine Un Ak v9.1 (((v9.1.drop 0).take ((v9.2).toNat))) (.p rfl) rfl (NM Ak _ _ ((v9.2).toNat) ((v9.1.length - (v9.2).toNat)) v9.1 w13) rfl rfl (Vz Ak _ _ 0 ((v9.2).toNat) v9.1 w15) ⟨rfl, tv⟩ Ar Cx ?_
     refine AX rfl (qa rfl (AO (by kernel_rfl) ?_))
     exact sn [] h
    ·refine AS ?_
     exact sn [(2002, 2001)] h
   ·refine Ae hs (wq rfl (qm rfl (qe rfl ?_)))
    obtain rfl := sj h
    refine Ae (sm [(1000, 2002)] [(4, oD (.own 1000))] [(1000, .vec 1 (v10.map Ak))] rfl rfl) (As ?_)
    exact ⟨⟨[_], tm, rfl⟩, ⟨rfl, tv⟩⟩
theorem KH (N : Nat) (p0 : Al) (r : Bool) (h : FU N p0 = some r) : Ap zA0 105 [.e (.agg (Ba p0))] [] (bD r) := by
 unfold FU at h
 refine cw (n := 11) (rs := [.tmp 2]) Tryz.func105 fun w0 S0 => ?_
 refine wq rfl (qb rfl (qe rfl ?_))
 refine AQ h (fun v1 => mk [(2, bD v1)] []) (fun j1 h => ?_) (fun v1 h => ?_)
 ·refine Ag Aw rfl (qf Gj rfl (ql BV rfl (Ch rfl (qm rfl ?_))))
  refine Eo 6 h rfl (fun h => ?_) fun h => ?_
  ·refine qw 3 rfl (qp rfl (qe rfl ?_))
   exact sn [] h
  ·refine qf Gj rfl (ql BV rfl (Ch rfl (qp rfl (qe rfl ?_))))
   exact sn [] h
 ·obtain rfl := sj h
  refine Ae (sm [] [(2, bD v1)] [] rfl rfl) (As ?_)
  exact ⟨⟨[_], tm, rfl⟩, tv⟩
theorem Tl (N : Nat) (p0 : Aa) (r : Ac × Int) (h : Ia N p0 = some r) : Ap zA0 74 [.e (.agg (Ah p0))] [(1, r.1.fd.map Ak), (1, r.1.fb.map Ak), (1, r.1.fe.map DV)] (.tup [.agg [.own 0, .own 1, .own 2], .one (iC r.2)]) := by
 unfold Ia at h
 refine cw (n := 50) (rs := [.cell 2 49, .tmp 3]) Tryz.func74 fun w0 S0 => ?_
 refine wq rfl (qb rfl (qz EH rfl (qa rfl (Ab (wp rfl (qL Dq Cu rfl ?_))))))
 refine BZ h fun v1 a1 h => Ax [] (EQ N p0 v1 a1) Xc rfl (qa rfl (Ab (wq rfl (qm rfl (BC rfl (Ab ?_))))))
 refine Bb h (fun h => ?_) fun h => ?_
 ·refine wq rfl (Bg EH Jl rfl (qm rfl (qs A3 rfl (qe rfl ?_))))
  obtain rfl := sj h
  refine Ae ((Aq 2 0 2001 1 _ rfl rfl rfl rfl).trans ((Aq 2 1 2002 1 _ rfl rfl rfl rfl).trans ((Aq 2 2 2003 1 _ rfl rfl rfl rfl).trans (sm [(1000, 2001), (1001, 2002), (1002, 2003)] [(2, oD (.ptr 2 0)), (3, iD v1)] [(2, .box [.own 1000, .own 1001, .own 1002]), (1000, .vec 1 ((([] : List Int)).map Ak)), (1001, .vec 1 ((([] : List Int)).map Ak)), (1002, .vec 1 ((([] : List Int)).map DV))] rfl rfl)))) (As ?_)
  exact ⟨⟨[_, _], ⟨.cellN _ _ _ _ _ _ _ rfl rfl B8 A3 rfl rfl (Jh rfl), tm⟩, rfl⟩, ⟨rfl, rfl, rfl, tv⟩⟩
 ·refine Aj (wq rfl (qf Fv rfl (ql A1 rfl ?_)))
  refine BZ h fun v3 a3 h => Ax [2004] (Ec N p0.fh v3 a3) Wq rfl (Dp Ar Cx IT rfl (qf Fv rfl (ql A1 rfl (AJ Ar rfl ?_))))
  refine BZ h fun v4 a4 h => EK [2005] [17] (Kp N (([(-1)] : List Int)) ((p0.fh.length : Int)) v4 a4) cU (KL (fun _ => rfl) C1) rfl (qf Ca rfl (ql Hc rfl (AJ Dl rfl ?_)))
  refine FT h fun c5 h => Lf (.p rfl) rfl rfl rfl D4 EC Pj (I3 rfl) Na rfl rfl rfl c5.1 c5.2.1 c5.2.2 (Q9 DV _ ((0 : Int))) ?_
  refine Bg EH Jl rfl (qz EH rfl (qs A3 rfl (AO (by kernel_rfl) (wp rfl (qf Ca rfl (ql Hc rfl (AJ Dl rfl (qm rfl (Ab ?_)))))))))
  refine AB (L := El N p0) h (fun v6 => mk [(1, oD (.ptr 1 0)), (2, oD (.ptr 2 0)), (5, oD (.ptr 5 0)), (28, pD (.sl (p0.fc.map AM))), (29, iD ((p0.fc.length : Int))), (30, iD v6.2)] [(1, .box (Ah p0)), (2, .box [.pure (.nil0), .pure (.nil0), .pure (.nil0)]), (5, .box [.own 2006, .own 2007, .own 2008]), (2006, .vec 1 (v3.map Ak)), (2007, .vec 1 (v4.map Ak)), (2008, .vec 1 (v6.1.map DV))]) (fun v7 => mk [(2, oD (.ptr 2 0)), (5, oD (.ptr 5 0))] [(2, .box [.pure (.nil0), .pure (.nil0), .pure (.nil0)]), (5, .box [.own 2009, .own 2010, .own 2011]), (2009, .vec 1 (v3.map Ak)), (2010, .vec 1 (v4.map Ak)), (2011, .vec 1 (v7.map DV))]) (fun _ _ => rfl) (sm [(2006, 2004), (2007, 2005), (2008, 25)] _ _ rfl rfl) (fun j6 n6 v6 h => ?_) (fun v7 s h hs => ?_)
  ·unfold El at h
   refine wq rfl (AT rfl (Ab (AL ?_)))
   refine Bb h (fun h => ?_) fun h => ?_
   ·refine Aj ?_
    refine AQ h (fun v9 => mk [(1, oD (.ptr 1 0)), (2, oD (.ptr 2 0)), (5, oD (.ptr 5 0)), (28, pD (.sl (p0.fc.map AM))), (29, iD ((p0.fc.length : Int))), (30, iD v6.2)] [(1, .box (Ah p0)), (2, .box [.pure (.nil0), .pure (.nil0), .pure (.nil0)]), (5, .box [.own 2012, .own 2013, .own 2014]), (2012, .vec 1 (v3.map Ak)), (2013, .vec 1 (v4.map Ak)), (2014, .vec 1 (v9.map DV))]) (fun j9 h => ?_) (fun v9 h => ?_)
    ·refine AH (wq rfl (qm rfl ?_))
     refine BK h fun v10 a10 b10 h => qi Dl Dc a10 (Af b10) rfl (qK GR Dc rfl (qz IY rfl (qa rfl (qs Dc rfl (Ab (wq rfl (qL GR Dc rfl ?_)))))))
     refine BZ h fun v11 a11 h => Ax [] (KH N v10 v11 a11) Wv rfl (Ab ?_)
     refine Bb h (fun h => ?_) fun h => ?_
     ·refine Ag Aw rfl (qf CV rfl (ql HX rfl (qm rfl (qf Fv rfl (ql A1 rfl (qf CY rfl (ql BV rfl ?_)))))))
      refine BK h fun v13 a13 b13 h => qi Ar Cx a13 (Af b13) rfl (qk BV rfl ?_)
      refine FT h fun c14 h => I7 rfl c14 ?_
      refine BK h fun v15 a15 b15 h => qI D4 EC a15 (Af b15) rfl ?_
      refine Dy rfl rfl rfl rfl (Af b15) rfl EC rfl (I3 rfl) (Dr DV v6.1 _ ((DQ .u8 1 v13))) ?_
      refine AO (by kernel_rfl) ?_
      exact sn [(2012, 2006), (2013, 2007), (2014, 2008)] h
     ·refine Aj ?_
      exact sn [(2012, 2006), (2013, 2007), (2014, 2008)] h
    ·refine Ag Aw rfl (AX rfl (qm rfl (Ab ?_)))
     exact sn [(2006, 2012), (2007, 2013), (2008, 2014)] h
   ·refine AS ?_
    exact sn [(2009, 2006), (2010, 2007), (2011, 2008)] h
  ·refine Ae hs (wq rfl (qL B8 A3 rfl (qs A3 rfl (qe rfl ?_))))
   obtain rfl := sj h
   refine Ae (sm [(1000, 2009), (1001, 2010), (1002, 2011)] [(2, oD (.ptr 2 0)), (3, iD 0)] [(2, .box [.own 1000, .own 1001, .own 1002]), (1000, .vec 1 (v3.map Ak)), (1001, .vec 1 (v4.map Ak)), (1002, .vec 1 (v7.map DV))] rfl rfl) (As ?_)
   exact ⟨⟨[_, _], ⟨.cellN _ _ _ _ _ _ _ rfl rfl B8 A3 rfl rfl (Jh rfl), tm⟩, rfl⟩, ⟨rfl, rfl, rfl, tv⟩⟩
theorem Kf (N : Nat) (p0 : Ac) (p1 : Int) (r : Int) (h : Fu N p0 p1 = some r) : Ap zA0 156 [.e (.agg (AK p0)), iD p1] [] (pD (.val (.int .u8 r))) := by
 unfold Fu at h
 refine cw (n := 27) (rs := [.tmp 4]) Tryz.func156 fun w0 S0 => ?_
 refine wq rfl (qb rfl (qa rfl (Ab (wq rfl (qf Db rfl (ql A1 rfl (qm rfl ?_)))))))
 refine BK h fun v1 a1 b1 h => qi Ar Cx a1 (Af b1) rfl (qk BV rfl ?_)
 refine FT h fun c2 h => I7 rfl c2 (qe rfl ?_)
 refine AQ h (fun v3 => mk [(5, pD (.val (.int .u8 v3)))] []) (fun j3 h => ?_) (fun v3 h => ?_)
 ·refine wq rfl (qf BO rfl (ql A1 rfl (qm rfl ?_)))
  refine BK h fun v4 a4 b4 h => qi Ar Cx a4 (Af b4) rfl (qk BV rfl (E0 rfl (Ab ?_)))
  refine Bb h (fun h => ?_) fun h => ?_
  ·refine Ag Aw rfl (qm rfl (qf BO rfl (ql A1 rfl (qm rfl ?_))))
   refine BK h fun v6 a6 b6 h => qi Ar Cx a6 (Af b6) rfl (qk BV rfl ?_)
   refine FT h fun c7 h => I7 rfl c7 (Wf rfl (qe rfl ?_))
   exact sn [] h
  ·refine Aj ?_
   exact sn [] h
 ·refine wq rfl (qm rfl (qe rfl ?_))
  obtain rfl := sj h
  refine Ae (sm [] [(4, pD (.val (.int .u8 v3)))] [] rfl rfl) (As ?_)
  exact ⟨⟨[_], tm, rfl⟩, tv⟩
theorem J8 (N : Nat) (p0 : Aa) (p1 : Ac) (r : Int) (h : FQ N p0 p1 = some r) : Ap zA0 120 [.e (.agg (Ah p0)), .e (.agg (AK p1))] [] (iD r) := by
 unfold FQ at h
 refine cw (n := 135) (rs := [.tmp 4]) Tryz.func120 fun w0 S0 => ?_
 refine wq rfl (qb rfl (qb rfl (qa rfl (Ab (wp rfl (qL Dq Cu rfl ?_))))))
 refine BZ h fun v1 a1 h => Ax [] (EQ N p0 v1 a1) Xc rfl (qa rfl (Ab (wq rfl (qm rfl (BC rfl (Ab ?_))))))
 refine Bb h (fun h => ?_) fun h => ?_
 ·refine wq rfl (qm rfl (qe rfl ?_))
  obtain rfl := sj h
  refine Ae (sm [] [(4, iD v1)] [] rfl rfl) (As ?_)
  exact ⟨⟨[_], tm, rfl⟩, tv⟩
 ·refine Aj (AL ?_)
  refine AQ h (fun v3 => mk [(2, oD (.ptr 2 0)), (3, oD (.ptr 3 0)), (41, bD v3)] [(2, .box (Ah p0)), (3, .box (AK p1))]) (fun j3 h => ?_) (fun v3 h => ?_)
  ·refine Ag Aw rfl (qf Db rfl (ql A1 rfl (AJ Ar rfl (qf A7 rfl (ql A1 rfl (AJ Ar rfl (BC rfl (qm rfl ?_))))))))
   refine Eo 24 h rfl (fun h => ?_) fun h => ?_
   ·refine qw 7 rfl (qp rfl (qw 8 rfl (qp rfl (Ab ?_))))
    exact sn [] h
   ·refine qf BO rfl (ql A1 rfl (AJ Ar rfl (qf A7 rfl (ql A1 rfl (AJ Ar rfl (BC rfl (qp rfl (qm rfl ?_))))))))
    refine Eo 33 h rfl (fun h => ?_) fun h => ?_
    ·refine qw 7 rfl (qp rfl (Ab ?_))
     exact sn [] h
    ·refine qf CV rfl (ql HX rfl (AJ D4 rfl (qf Ca rfl (ql Hc rfl (AJ Dl rfl (BC rfl (qp rfl (Ab ?_))))))))
     exact sn [] h
  ·refine Bb h (fun h => ?_) fun h => ?_
   ·refine wq rfl (qe rfl ?_)
    obtain rfl := sj h
    refine Ae (sm [] [(4, iD 6)] [] rfl rfl) (As ?_)
    exact ⟨⟨[_], tm, rfl⟩, tv⟩
   ·refine Aj (wp rfl (qf A7 rfl (ql A1 rfl (AJ Ar rfl (qm rfl (Ab ?_))))))
    refine AB (L := En N p0 p1) h (fun v7 => mk [(2, oD (.ptr 2 0)), (3, oD (.ptr 3 0)), (43, pD (.sl (p0.fa.map Ak))), (44, iD ((p0.fa.length : Int))), (45, iD v7)] [(2, .box (Ah p0)), (3, .box (AK p1))]) (fun v8 => mk [(2, oD (.ptr 2 0)), (3, oD (.ptr 3 0))] [(2, .box (Ah p0)), (3, .box (AK p1))]) (fun _ _ => rfl) (sm [] _ _ rfl rfl) (fun j7 n7 v7 h => ?_) (fun v8 s h hs => ?_)
    ·unfold En at h
     refine wq rfl (AT rfl (Ab (AL ?_)))
     refine Bb h (fun h => ?_) fun h => ?_
     ·refine Aj (AL (AH (wq rfl (qm rfl ?_))))
      refine BK h fun v10 a10 b10 h => qi Ar Cx a10 (Af b10) rfl (qk BV rfl (qa rfl (qa rfl (Ab (AL ?_)))))
      refine AQ h (fun v11 => mk [(2, oD (.ptr 2 0)), (3, oD (.ptr 3 0)), (6, iD v7), (43, pD (.sl (p0.fa.map Ak))), (44, iD ((p0.fa.length : Int))), (45, iD v7), (81, bD v11)] [(2, .box (Ah p0)), (3, .box (AK p1))]) (fun j11 h => ?_) (fun v11 h => ?_)
      ·refine Ag Aw rfl (qf Db rfl (ql A1 rfl (qm rfl ?_)))
       refine BK h fun v12 a12 b12 h => qi Ar Cx a12 (Af b12) rfl (qk BV rfl (AT rfl (qm rfl ?_)))
       refine Eo 56 h rfl (fun h => ?_) fun h => ?_
       ·refine qw 7 rfl (qp rfl (qw 7 rfl (qp rfl (qw 8 rfl (qp rfl (Ab ?_))))))
        exact sn [] h
       ·refine qf Db rfl (ql A1 rfl (qm rfl ?_))
        refine BK h fun v14 a14 b14 h => qi Ar Cx a14 (Af b14) rfl (qk BV rfl (qm rfl (E0 rfl (qp rfl (qm rfl ?_)))))
        refine Eo 65 h rfl (fun h => ?_) fun h => ?_
        ·refine qw 6 rfl (qp rfl (qw 8 rfl (qp rfl (Ab ?_))))
         exact sn [] h
        ·refine qf BO rfl (ql A1 rfl (qm rfl ?_))
         refine BK h fun v16 a16 b16 h => qi Ar Cx a16 (Af b16) rfl (qk BV rfl (AT rfl (qp rfl (qm rfl ?_))))
         refine Eo 73 h rfl (fun h => ?_) fun h => ?_
         ·refine qw 7 rfl (qp rfl (Ab ?_))
          exact sn [] h
         ·refine qf BO rfl (ql A1 rfl (qm rfl ?_))
          refine BK h fun v18 a18 b18 h => qi Ar Cx a18 (Af b18) rfl (qk BV rfl (qm rfl (E0 rfl (qp rfl (Ab ?_)))))
          exact sn [] h
      ·refine Bb h (fun h => ?_) fun h => ?_
       ·refine wq rfl (qe rfl ?_)
        obtain rfl := sj h
        refine Ae (sm [] [(4, iD 7)] [] rfl rfl) (As ?_)
        exact ⟨⟨[_], tm, rfl⟩, tv⟩
       ·refine Aj (wq rfl (qf Db rfl (ql A1 rfl (qm rfl ?_))))
        refine BK h fun v20 a20 b20 h => qi Ar Cx a20 (Af b20) rfl (qk BV rfl (qf BO rfl (ql A1 rfl (qm rfl ?_))))
        refine BK h fun v21 a21 b21 h => qi Ar Cx a21 (Af b21) rfl (qk BV rfl (Ch rfl (AO (by kernel_rfl) ?_)))
        refine Bb h (fun h => ?_) fun h => ?_
        ·refine wq rfl (qe rfl ?_)
         obtain rfl := sj h
         refine Ae (sm [] [(4, iD 1)] [] rfl rfl) (As ?_)
         exact ⟨⟨[_], tm, rfl⟩, tv⟩
        ·refine Aj (Ag Aw rfl (AX rfl (qm rfl (Ab ?_))))
         exact sn [] h
     ·refine AS ?_
      exact sn [] h
    ·refine Ae hs (wp rfl (qf Ca rfl (ql Hc rfl (AJ Dl rfl (qm rfl (Ab ?_))))))
     refine AB (L := D3 N p0 p1) h (fun v23 => mk [(2, oD (.ptr 2 0)), (3, oD (.ptr 3 0)), (95, pD (.sl (p0.fc.map AM))), (96, iD ((p0.fc.length : Int))), (97, iD v23)] [(2, .box (Ah p0)), (3, .box (AK p1))]) (fun v24 => mk [] []) (fun _ _ => rfl) (sm [] _ _ rfl rfl) (fun j23 n23 v23 h => ?_) (fun v24 s h hs => ?_)
     ·unfold D3 at h
      refine wq rfl (AT rfl (Ab (AL ?_)))
      refine Bb h (fun h => ?_) fun h => ?_
      ·refine Aj (AL (AH (wq rfl (qm rfl ?_))))
       refine BK h fun v26 a26 b26 h => qi Dl Dc a26 (Af b26) rfl (qK GR Dc rfl (qz IY rfl (qa rfl (qs Dc rfl (Ab (wq rfl (qa rfl (qe rfl ?_))))))))
       refine AQ h (fun v27 => mk [(2, oD (.ptr 2 0)), (3, oD (.ptr 3 0)), (8, iD v23), (10, pD (.val (.int .u8 v27.1))), (11, pD (.val (.int .u8 v27.2))), (95, pD (.sl (p0.fc.map AM))), (96, iD ((p0.fc.length : Int))), (97, iD v23)] [(2, .box (Ah p0)), (3, .box (AK p1))]) (fun j27 h => ?_) (fun v27 h => ?_)
       ·refine wq rfl (qL GR Dc rfl ?_)
        refine BZ h fun v28 a28 h => Ax [] (KH N v26 v28 a28) Wv rfl (Ab ?_)
        refine Bb h (fun h => ?_) fun h => ?_
        ·refine Ag Aw rfl (qL B8 A3 rfl (qf CY rfl (ql BV rfl ?_)))
         refine BZ h fun v30 a30 h => Ax [] (Kf N p1 v26.ff v30 a30) WM rfl (qf A7 rfl (ql A1 rfl (qf CY rfl (ql BV rfl ?_))))
         refine BK h fun v31 a31 b31 h => qi Ar Cx a31 (Af b31) rfl (qk BV rfl ?_)
         refine FT h fun c32 h => I7 rfl c32 (J4 rfl (qa rfl (qa rfl (AO (by kernel_rfl) ?_))))
         exact sn [] h
        ·refine Aj ?_
         exact sn [] h
       ·refine AQ h (fun v33 => mk [(2, oD (.ptr 2 0)), (3, oD (.ptr 3 0)), (95, pD (.sl (p0.fc.map AM))), (96, iD ((p0.fc.length : Int))), (97, iD v23), (133, bD v33)] [(2, .box (Ah p0)), (3, .box (AK p1))]) (fun j33 h => ?_) (fun v33 h => ?_)
        ·refine Ag Aw rfl (qm rfl (qf CV rfl (ql HX rfl (qm rfl ?_))))
         refine BK h fun v34 a34 b34 h => qi D4 EC a34 (Af b34) rfl (qk IH rfl (H5 rfl (BC rfl (qm rfl ?_))))
         refine Eo 124 h rfl (fun h => ?_) fun h => ?_
         ·refine qw 8 rfl (qp rfl (Ab ?_))
          exact sn [] h
         ·refine qf CV rfl (ql HX rfl (qm rfl ?_))
          refine BK h fun v36 a36 b36 h => qi D4 EC a36 (Af b36) rfl (qk IH rfl (qm rfl (H5 rfl (BC rfl (qp rfl (Ab ?_))))))
          exact sn [] h
        ·refine Bb h (fun h => ?_) fun h => ?_
         ·refine wq rfl (qe rfl ?_)
          obtain rfl := sj h
          refine Ae (sm [] [(4, iD 1)] [] rfl rfl) (As ?_)
          exact ⟨⟨[_], tm, rfl⟩, tv⟩
         ·refine Aj (Ag Aw rfl (AX rfl (qm rfl (Ab ?_))))
          exact sn [] h
      ·refine AS ?_
       exact sn [] h
     ·refine Ae hs (wq rfl (qe rfl ?_))
      obtain rfl := sj h
      refine Ae (sm [] [(4, iD 0)] [] rfl rfl) (As ?_)
      exact ⟨⟨[_], tm, rfl⟩, tv⟩
theorem F5 (N : Nat) (p0 : List Int) (r : (List Int)) (h : BY N p0 = some r) : Ap zA0 174 [pD (.sl (p0.map DV))] [(1, r.map DV)] (oD (.own 0)) := by
 unfold BY at h
 refine cw (n := 8) (rs := [.tmp 2]) Tryz.func174 fun w0 S0 => ?_
 refine wq rfl (qa rfl (Ab (wp rfl (qm rfl ?_))))
 refine M7 (.p rfl) rfl D4 ?_
 refine Ab ?_
 refine Nv rfl (fun c2 => ?_) ?_
 ·have c2 := zH6.1 c2
  rw [c2] at h
  have h : (some (([] : List Int))) = some r := h
  refine wq rfl (qe rfl ?_)
  obtain rfl := sj h
  refine Ae ((A6 2 2001 1 rfl rfl rfl).trans (sm [(1000, 2001)] [(2, oD (.own 1000))] [(1000, .vec 1 ((([] : List Int)).map DV))] rfl rfl)) (As ?_)
  exact ⟨⟨[_], tm, rfl⟩, ⟨rfl, tv⟩⟩
 ·refine Aj (wq rfl (Dp D4 EC Na rfl (qm rfl ?_)))
  refine FT h fun c1 h => I0 (f := DV) D4 D4 EC Pj Na (fun _ => rfl) c1 rfl (qe rfl ?_)
  obtain rfl := sj h
  refine Ae (sm [(1000, 7)] [(2, oD (.own 1000))] [(1000, .vec 1 (((([] : List Int)) ++ p0).map DV))] rfl rfl) (As ?_)
  exact ⟨⟨[_], tm, rfl⟩, ⟨rfl, tv⟩⟩
theorem Q5 (N : Nat) (p0 : Aa) (p1 : Ac) (r : (List Ac) × Int) (h : Hp N p0 p1 = some r) : Ap zA0 153 [.e (.agg (Ah p0)), .e (.agg (AK p1))] [(3, r.1.map E6)] (.tup [.one (.own 0), .one (iC r.2)]) := by
 unfold Hp at h
 refine cw (n := 75) (rs := [.tmp 4, .tmp 5]) Tryz.func153 fun w0 S0 => ?_
 refine wq rfl (qb rfl (qb rfl (qa rfl (qa rfl (Ab (wp rfl (qL Dq Cu rfl (qL B8 A3 rfl ?_))))))))
 refine BZ h fun v1 a1 h => Ax [] (J8 N p0 p1 v1 a1) UW rfl (qa rfl (Ab (wq rfl (qm rfl (BC rfl (Ab ?_))))))
 refine Bb h (fun h => ?_) fun h => ?_
 ·refine wq rfl (qm rfl (qa rfl (qe rfl ?_)))
  obtain rfl := sj h
  refine Ae ((A6 4 2001 3 rfl rfl rfl).trans (sm [(1000, 2001)] [(4, oD (.own 1000)), (5, iD v1)] [(1000, .vec 3 ((([] : List Ac)).map E6))] rfl rfl)) (As ?_)
  exact ⟨⟨[_, _], ⟨.tmp _ _ rfl, tm⟩, rfl⟩, ⟨rfl, tv⟩⟩
 ·refine Aj (wq rfl (qa rfl (Ab (wp rfl (qf BO rfl (ql A1 rfl (AJ Ar rfl (qm rfl (Ab ?_)))))))))
  refine AB (L := D1 N p1) h (fun v3 => mk [(3, oD (.ptr 3 0)), (7, oD (.own 2002)), (22, pD (.sl (p1.fb.map Ak))), (23, iD ((p1.fb.length : Int))), (24, iD v3.2)] [(3, .box (AK p1)), (2002, .vec 1 (v3.1.map Ak))]) (fun v4 => mk [(3, oD (.ptr 3 0)), (7, oD (.own 2003))] [(3, .box (AK p1)), (2003, .vec 1 (v4.map Ak))]) (fun _ _ => rfl) ((A6 7 2005 1 rfl rfl rfl).trans (sm [(2002, 2005)] _ _ rfl rfl)) (fun j3 n3 v3 h => ?_) (fun v4 s h hs => ?_)
  ·unfold D1 at h
   refine wq rfl (AT rfl (Ab (AL ?_)))
   refine Bb h (fun h => ?_) fun h => ?_
   ·refine Aj ?_
    refine AQ h (fun v6 => mk [(3, oD (.ptr 3 0)), (7, oD (.own 2004)), (22, pD (.sl (p1.fb.map Ak))), (23, iD ((p1.fb.length : Int))), (24, iD v3.2)] [(3, .box (AK p1)), (2004, .vec 1 (v6.map Ak))]) (fun j6 h => ?_) (fun v6 h => ?_)
    ·refine AH (wq rfl (qm rfl ?_))
     refine BK h fun v7 a7 b7 h => qi Ar Cx a7 (Af b7) rfl (qk BV rfl (qa rfl (qa rfl (Ab (wq rfl (qm rfl (E0 rfl (Ab ?_))))))))
     refine Bb h (fun h => ?_) fun h => ?_
     ·refine Ag Aw rfl (qw 2 rfl (Dp Ar Cx IT rfl ?_))
      refine FT h fun c9 h => Cy (f := Ak) Ar Ar Cx JU IT c9 rfl (qe rfl ?_)
      exact sn [(2004, 34)] h
     ·refine Aj ?_
      exact sn [(2004, 2002)] h
    ·refine Ag Aw rfl (AX rfl (qm rfl (Ab ?_)))
     exact sn [(2002, 2004)] h
   ·refine AS ?_
    exact sn [(2003, 2002)] h
  ·refine Ae hs (wq rfl (qa rfl (Ab (wp rfl (qm rfl (Ef Ar rfl ?_))))))
   refine FT h fun c10 h => I7 rfl c10 (qm rfl (Ab ?_))
   refine AB (L := C9 N p1 v4) h (fun v11 => mk [(3, oD (.ptr 3 0)), (7, oD (.own 2006)), (10, oD (.own 2007)), (38, iD ((DQ .i64 1 ((v4.length : Int))))), (39, iD v11.2)] [(3, .box (AK p1)), (2006, .vec 1 (v4.map Ak)), (2007, .vec 3 (v11.1.map E6))]) (fun v12 => mk [(10, oD (.own 2008))] [(2008, .vec 3 (v12.map E6))]) (fun _ _ => rfl) ((A6 10 2027 3 rfl rfl rfl).trans (sm [(2006, 2003), (2007, 2027)] _ _ rfl rfl)) (fun j11 n11 v11 h => ?_) (fun v12 s h hs => ?_)
   ·unfold C9 at h
    refine wq rfl (AT rfl (Ab (AL ?_)))
    refine Bb h (fun h => ?_) fun h => ?_
    ·refine Aj (AL (AH (wq rfl (qm rfl (qa rfl (Ab (wq rfl (qf Db rfl (ql A1 rfl ?_)))))))))
     refine BZ h fun v14 a14 h => Ax [2009] (Ec N p1.fd v14 a14) Wq rfl (qf BO rfl (ql A1 rfl ?_))
     refine BZ h fun v15 a15 h => Ax [2010] (Ec N p1.fb v15 a15) Wq rfl (qf CV rfl (ql HX rfl ?_))
     refine BZ h fun v16 a16 h => Ax [2011] (F5 N p1.fe v16 a16) Zt rfl (Bg EH Jl rfl (qz EH rfl (qs A3 rfl (AO (by kernel_rfl) (wp rfl (qm rfl (Ef Ar rfl (qm rfl (Ab ?_)))))))))
     refine AB (L := Da N v4 v11) h (fun v17 => mk [(3, oD (.ptr 3 0)), (7, oD (.own 2015)), (10, oD (.own 2016)), (11, iD v11.2), (12, oD (.ptr 12 0)), (38, iD ((DQ .i64 1 ((v4.length : Int))))), (39, iD v11.2), (52, oD (.own 2015)), (53, iD ((v4.length : Int))), (54, iD v17.2)] [(3, .box (AK p1)), (12, .box [.own 2012, .own 2013, .own 2014]), (2012, .vec 1 (v14.map Ak)), (2013, .vec 1 (v17.1.map Ak)), (2014, .vec 1 (v16.map DV)), (2015, .vec 1 (v4.map Ak)), (2016, .vec 3 (v11.1.map E6))]) (fun v18 => mk [(3, oD (.ptr 3 0)), (7, oD (.own 2020)), (10, oD (.own 2021)), (12, oD (.ptr 12 0)), (38, iD ((DQ .i64 1 ((v4.length : Int))))), (39, iD v11.2)] [(3, .box (AK p1)), (12, .box [.own 2017, .own 2018, .own 2019]), (2017, .vec 1 (v14.map Ak)), (2018, .vec 1 (v18.map Ak)), (2019, .vec 1 (v16.map DV)), (2020, .vec 1 (v4.map Ak)), (2021, .vec 3 (v11.1.map E6))]) (fun _ _ => rfl) (sm [(2012, 2009), (2013, 2010), (2014, 2011), (2015, 2006), (2016, 2007)] _ _ rfl rfl) (fun j17 n17 v17 h => ?_) (fun v18 s h hs => ?_)
     ·unfold Da at h
      refine wq rfl (AT rfl (Ab (AL ?_)))
      refine Bb h (fun h => ?_) fun h => ?_
      ·refine Aj ?_
       refine AQ h (fun v20 => mk [(3, oD (.ptr 3 0)), (7, oD (.own 2025)), (10, oD (.own 2026)), (11, iD v11.2), (12, oD (.ptr 12 0)), (38, iD ((DQ .i64 1 ((v4.length : Int))))), (39, iD v11.2), (52, oD (.own 2025)), (53, iD ((v4.length : Int))), (54, iD v17.2)] [(3, .box (AK p1)), (12, .box [.own 2022, .own 2023, .own 2024]), (2022, .vec 1 (v14.map Ak)), (2023, .vec 1 (v20.map Ak)), (2024, .vec 1 (v16.map DV)), (2025, .vec 1 (v4.map Ak)), (2026, .vec 3 (v11.1.map E6))]) (fun j20 h => ?_) (fun v20 h => ?_)
       ·refine AH (wq rfl (qm rfl ?_))
        refine BK h fun v21 a21 b21 h => qI Ar Cx a21 (Af b21) rfl (qj BV (Af b21) rfl (qa rfl (qa rfl (Ab (wq rfl (qw 2 rfl ?_))))))
        refine FT h fun c22 h => GQ rfl c22 (Il rfl (Ch rfl (Ab ?_)))
        refine Bb h (fun h => ?_) fun h => ?_
        ·refine Ag Aw rfl (qf BO rfl (ql A1 rfl (qm rfl ?_)))
         refine BK h fun v24 a24 b24 h => qI Ar Cx a24 (Af b24) rfl ?_
         refine Dy rfl rfl rfl rfl (Af b24) rfl Cx rfl (I3 rfl) (Dr Ak v17.1 _ ((-1))) ?_
         refine Ab ?_
         exact sn [(2022, 2012), (2023, 2013), (2024, 2014), (2025, 2015), (2026, 2016)] h
        ·refine Aj ?_
         exact sn [(2022, 2012), (2023, 2013), (2024, 2014), (2025, 2015), (2026, 2016)] h
       ·refine Ag Aw rfl (AX rfl (qm rfl (Ab ?_)))
        exact sn [(2012, 2022), (2013, 2023), (2014, 2024), (2015, 2025), (2016, 2026)] h
      ·refine AS ?_
       exact sn [(2017, 2012), (2018, 2013), (2019, 2014), (2020, 2015), (2021, 2016)] h
     ·refine Ae hs (Ag Aw rfl (qm rfl (qL B8 A3 rfl (CQ (A9 2017 _ _ rfl rfl) (CQ (A9 2018 _ _ rfl rfl) (CQ (A9 2019 _ _ rfl rfl) (Dp Mr A3 EH rfl ?_)))))))
      refine FT h fun c25 h => Cy (f := E6) Mr Mr A3 Zj EH c25 rfl (qa rfl (Ab (Ag Aw rfl (AX rfl (qm rfl (Ab ?_))))))
      exact sn [(2006, 2020), (2007, 72)] h
    ·refine AS ?_
     exact sn [(2008, 2007)] h
   ·refine Ae hs (wq rfl (qm rfl (qa rfl (qe rfl ?_))))
    obtain rfl := sj h
    refine Ae (sm [(1000, 2008)] [(4, oD (.own 1000)), (5, iD 0)] [(1000, .vec 3 (v12.map E6))] rfl rfl) (As ?_)
    exact ⟨⟨[_, _], ⟨.tmp _ _ rfl, tm⟩, rfl⟩, ⟨rfl, tv⟩⟩
theorem Ot (N : Nat) (p0 : Aa) (p1 : Ac) (r : (List An)) (h : Gb N p0 p1 = some r) : Ap zA0 154 [.e (.agg (Ah p0)), .e (.agg (AK p1))] [(3, r.map A0)] (oD (.own 0)) := by
 unfold Gb at h
 refine cw (n := 98) (rs := [.tmp 4]) Tryz.func154 fun w0 S0 => ?_
 refine wq rfl (qb rfl (qb rfl (qa rfl (Ab (wq rfl (qa rfl (Ab (wp rfl (qf Ca rfl (ql Hc rfl (AJ Dl rfl (qm rfl (Ab ?_)))))))))))))
 refine AB (L := DC N p0 p1) h (fun v1 => mk [(3, oD (.ptr 3 0)), (5, oD (.own 2001)), (15, pD (.sl (p0.fc.map AM))), (16, iD ((p0.fc.length : Int))), (17, iD v1.2)] [(3, .box (AK p1)), (2001, .vec 3 (v1.1.map A0))]) (fun v2 => mk [(5, oD (.own 2002))] [(2002, .vec 3 (v2.map A0))]) (fun _ _ => rfl) ((A6 5 2013 3 rfl rfl rfl).trans (sm [(2001, 2013)] _ _ rfl rfl)) (fun j1 n1 v1 h => ?_) (fun v2 s h hs => ?_)
 ·unfold DC at h
  refine wq rfl (AT rfl (Ab (AL ?_)))
  refine Bb h (fun h => ?_) fun h => ?_
  ·refine Aj (AL (AH (wq rfl (qm rfl ?_))))
   refine BK h fun v4 a4 b4 h => qi Dl Dc a4 (Af b4) rfl (qK GR Dc rfl (qz IY rfl (qa rfl (qs Dc rfl (Ab (wq rfl (qL B8 A3 rfl (qf CY rfl (ql BV rfl ?_)))))))))
   refine BZ h fun v5 a5 h => Ax [] (Kf N p1 v4.ff v5 a5) WM rfl (qL B8 A3 rfl (qf HD rfl (ql BV rfl ?_)))
   refine BZ h fun v6 a6 h => Ax [] (Kf N p1 v4.fj v6 a6) WM rfl (qa rfl (qa rfl (AO (by kernel_rfl) ?_)))
   refine AQ h (fun v7 => mk [(3, oD (.ptr 3 0)), (5, oD (.own 2003)), (6, iD v1.2), (7, oD (.ptr 7 0)), (8, pD (.val (.int .u8 v7))), (9, pD (.val (.int .u8 v6))), (15, pD (.sl (p0.fc.map AM))), (16, iD ((p0.fc.length : Int))), (17, iD v1.2)] [(3, .box (AK p1)), (7, .box (Ba v4)), (2003, .vec 3 (v1.1.map A0))]) (fun j7 h => ?_) (fun v7 h => ?_)
   ·refine wq rfl (qL GR Dc rfl ?_)
    refine BZ h fun v8 a8 h => Ax [] (KH N v4 v8 a8) Wv rfl (Ab ?_)
    refine Bb h (fun h => ?_) fun h => ?_
    ·refine Ag Aw rfl (qf CV rfl (ql HX rfl (qm rfl ?_)))
     refine BK h fun v10 a10 b10 h => qi D4 EC a10 (Af b10) rfl (qk IH rfl (qe rfl ?_))
     exact sn [(2003, 2001)] h
    ·refine Aj ?_
     exact sn [(2003, 2001)] h
   ·refine wq rfl (qf Hg rfl (ql Io rfl (AJ Ep rfl (qm rfl (Ab ?_)))))
    refine AB (L := Cp N v1 v4 v6 v7) h (fun v11 => mk [(3, oD (.ptr 3 0)), (5, oD (.own 2004)), (6, iD v1.2), (7, oD (.ptr 7 0)), (8, pD (.val (.int .u8 v7))), (9, pD (.val (.int .u8 v6))), (15, pD (.sl (p0.fc.map AM))), (16, iD ((p0.fc.length : Int))), (17, iD v1.2), (39, iD ((v4.fr.length : Int))), (40, iD v11.2)] [(3, .box (AK p1)), (7, .box (Ba v4)), (2004, .vec 3 (v11.1.map A0))]) (fun v12 => mk [(3, oD (.ptr 3 0)), (5, oD (.own 2005)), (15, pD (.sl (p0.fc.map AM))), (16, iD ((p0.fc.length : Int))), (17, iD v1.2)] [(3, .box (AK p1)), (2005, .vec 3 (v12.map A0))]) (fun _ _ => rfl) (sm [(2004, 2003)] _ _ rfl rfl) (fun j11 n11 v11 h => ?_) (fun v12 s h hs => ?_)
    ·unfold Cp at h
     refine wq rfl (AT rfl (Ab (AL ?_)))
     refine Bb h (fun h => ?_) fun h => ?_
     ·refine Aj ?_
      refine AQ h (fun v14 => mk [(3, oD (.ptr 3 0)), (5, oD (.own 2006)), (6, iD v1.2), (7, oD (.ptr 7 0)), (8, pD (.val (.int .u8 v7))), (9, pD (.val (.int .u8 v6))), (15, pD (.sl (p0.fc.map AM))), (16, iD ((p0.fc.length : Int))), (17, iD v1.2), (39, iD ((v4.fr.length : Int))), (40, iD v11.2)] [(3, .box (AK p1)), (7, .box (Ba v4)), (2006, .vec 3 (v14.map A0))]) (fun j14 h => ?_) (fun v14 h => ?_)
      ·refine AH (wq rfl (qm rfl (qa rfl (Ab (wp rfl (qw 2 rfl ?_))))))
       refine FT h fun c15 h => GQ rfl c15 (Il rfl (Ch rfl (Ab ?_)))
       refine Bb h (fun h => ?_) fun h => ?_
       ·refine AS ?_
        exact sn [(2006, 2004)] h
       ·refine Aj (wq rfl (qa rfl (Ab (wp rfl (qf Hg rfl (ql Io rfl (qm rfl ?_)))))))
        refine BK h fun v17 a17 b17 h => qi Ep Jy a17 (Af b17) rfl (qk Or rfl (AJ Fo rfl (qm rfl (Ab ?_))))
        refine AB (L := B5 N v1 v4 v6 v11 v17) h (fun v18 => mk [(3, oD (.ptr 3 0)), (5, oD (.own 2007)), (6, iD v1.2), (7, oD (.ptr 7 0)), (8, pD (.val (.int .u8 v7))), (9, pD (.val (.int .u8 v6))), (10, iD v11.2), (11, bD v18.2.1), (15, pD (.sl (p0.fc.map AM))), (16, iD ((p0.fc.length : Int))), (17, iD v1.2), (39, iD ((v4.fr.length : Int))), (40, iD v11.2), (52, pD (.sl (v17.map eB))), (53, iD ((v17.length : Int))), (54, iD v18.2.2)] [(3, .box (AK p1)), (7, .box (Ba v4)), (2007, .vec 3 (v18.1.map A0))]) (fun v19 => mk [(3, oD (.ptr 3 0)), (5, oD (.own 2008)), (6, iD v1.2), (7, oD (.ptr 7 0)), (8, pD (.val (.int .u8 v7))), (9, pD (.val (.int .u8 v6))), (10, iD v11.2), (11, bD v19.2), (15, pD (.sl (p0.fc.map AM))), (16, iD ((p0.fc.length : Int))), (17, iD v1.2), (39, iD ((v4.fr.length : Int))), (40, iD v11.2)] [(3, .box (AK p1)), (7, .box (Ba v4)), (2008, .vec 3 (v19.1.map A0))]) (fun _ _ => rfl) (sm [(2007, 2004)] _ _ rfl rfl) (fun j18 n18 v18 h => ?_) (fun v19 s h hs => ?_)
        ·unfold B5 at h
         refine wq rfl (AT rfl (Ab (AL ?_)))
         refine Bb h (fun h => ?_) fun h => ?_
         ·refine Aj ?_
          refine AQ h (fun v21 => mk [(3, oD (.ptr 3 0)), (5, oD (.own 2009)), (6, iD v1.2), (7, oD (.ptr 7 0)), (8, pD (.val (.int .u8 v7))), (9, pD (.val (.int .u8 v6))), (10, iD v11.2), (11, bD v21.2), (15, pD (.sl (p0.fc.map AM))), (16, iD ((p0.fc.length : Int))), (17, iD v1.2), (39, iD ((v4.fr.length : Int))), (40, iD v11.2), (52, pD (.sl (v17.map eB))), (53, iD ((v17.length : Int))), (54, iD v18.2.2)] [(3, .box (AK p1)), (7, .box (Ba v4)), (2009, .vec 3 (v21.1.map A0))]) (fun j21 h => ?_) (fun v21 h => ?_)
          ·refine AH (wq rfl (qm rfl ?_))
           refine BK h fun v22 a22 b22 h => qi Fo PG a22 (Af b22) rfl (qk Tv rfl (qa rfl (qa rfl (Ab (wp rfl (qw 2 rfl ?_))))))
           refine FT h fun c23 h => GQ rfl c23 (Il rfl (Ch rfl (Ab ?_)))
           refine Bb h (fun h => ?_) fun h => ?_
           ·refine AS ?_
            exact sn [(2009, 2007)] h
           ·refine Aj ?_
            refine AQ h (fun v25 => mk [(3, oD (.ptr 3 0)), (5, oD (.own 2010)), (6, iD v1.2), (7, oD (.ptr 7 0)), (8, pD (.val (.int .u8 v7))), (9, pD (.val (.int .u8 v6))), (10, iD v11.2), (11, bD v25), (12, iD v18.2.2), (13, bD v22), (15, pD (.sl (p0.fc.map AM))), (16, iD ((p0.fc.length : Int))), (17, iD v1.2), (39, iD ((v4.fr.length : Int))), (40, iD v11.2), (52, pD (.sl (v17.map eB))), (53, iD ((v17.length : Int))), (54, iD v18.2.2)] [(3, .box (AK p1)), (7, .box (Ba v4)), (2010, .vec 3 (v18.1.map A0))]) (fun j25 h => ?_) (fun v25 h => ?_)
            ·refine Ag Aw rfl (qw 2 rfl ?_)
             refine Eo 65 h rfl (fun h => ?_) fun h => ?_
             ·refine qn rfl (qp rfl (qe rfl ?_))
              exact sn [(2010, 2007)] h
             ·refine qm rfl (qp rfl (qe rfl ?_))
              exact sn [(2010, 2007)] h
            ·refine AQ h (fun v27 => mk [(3, oD (.ptr 3 0)), (5, oD (.own 2011)), (6, iD v1.2), (7, oD (.ptr 7 0)), (8, pD (.val (.int .u8 v7))), (9, pD (.val (.int .u8 v6))), (10, iD v11.2), (11, bD v25), (12, iD v18.2.2), (15, pD (.sl (p0.fc.map AM))), (16, iD ((p0.fc.length : Int))), (17, iD v1.2), (39, iD ((v4.fr.length : Int))), (40, iD v11.2), (52, pD (.sl (v17.map eB))), (53, iD ((v17.length : Int))), (54, iD v18.2.2), (74, bD v27)] [(3, .box (AK p1)), (7, .box (Ba v4)), (2011, .vec 3 (v18.1.map A0))]) (fun j27 h => ?_) (fun v27 h => ?_)
             ·refine Ag Aw rfl (qm rfl (CD rfl (qm rfl ?_)))
              refine Eo 70 h rfl (fun h => ?_) fun h => ?_
              ·refine qf Jm rfl (ql Tv rfl (CD rfl (qp rfl (Ab ?_))))
               exact sn [(2011, 2010)] h
              ·refine qw 3 rfl (qp rfl (Ab ?_))
               exact sn [(2011, 2010)] h
             ·refine Bb h (fun h => ?_) fun h => ?_
              ·refine Ag Aw rfl (qw 4 rfl (Bg I8 QW rfl (Dp HL IE I8 rfl ?_)))
               refine FT h fun c30 h => Cy (f := A0) HL HL IE Re I8 c30 rfl (qe rfl ?_)
               exact sn [(2009, 81)] h
              ·refine Aj ?_
               exact sn [(2009, 2011)] h
          ·refine Ag Aw rfl (AX rfl (qm rfl (Ab ?_)))
           exact sn [(2007, 2009)] h
         ·refine AS ?_
          exact sn [(2008, 2007)] h
        ·refine Ae hs ?_
         refine AQ h (fun v31 => mk [(3, oD (.ptr 3 0)), (5, oD (.own 2012)), (6, iD v1.2), (7, oD (.ptr 7 0)), (8, pD (.val (.int .u8 v7))), (9, pD (.val (.int .u8 v6))), (10, iD v11.2), (15, pD (.sl (p0.fc.map AM))), (16, iD ((p0.fc.length : Int))), (17, iD v1.2), (39, iD ((v4.fr.length : Int))), (40, iD v11.2), (88, bD v31)] [(3, .box (AK p1)), (7, .box (Ba v4)), (2012, .vec 3 (v19.1.map A0))]) (fun j31 h => ?_) (fun v31 h => ?_)
         ·refine Ag Aw rfl (qf Jm rfl (ql Tv rfl (qm rfl ?_)))
          refine Eo 85 h rfl (fun h => ?_) fun h => ?_
          ·refine qm rfl (CD rfl (qp rfl (Ab ?_)))
           exact sn [(2012, 2008)] h
          ·refine qw 2 rfl (qp rfl (Ab ?_))
           exact sn [(2012, 2008)] h
         ·refine Bb h (fun h => ?_) fun h => ?_
          ·refine Ag Aw rfl (qw 3 rfl (Bg I8 QW rfl (Dp HL IE I8 rfl ?_)))
           refine FT h fun c34 h => Cy (f := A0) HL HL IE Re I8 c34 rfl (qe rfl ?_)
           exact sn [(2006, 94)] h
          ·refine Aj ?_
           exact sn [(2006, 2012)] h
      ·refine Ag Aw rfl (AX rfl (qm rfl (Ab ?_)))
       exact sn [(2004, 2006)] h
     ·refine AS ?_
      exact sn [(2005, 2004)] h
    ·refine Ae hs (Ag Aw rfl (AX rfl (qm rfl (Ab ?_))))
     exact sn [(2001, 2005)] h
  ·refine AS ?_
   exact sn [(2002, 2001)] h
 ·refine Ae hs (wq rfl (qm rfl (qe rfl ?_)))
  obtain rfl := sj h
  refine Ae (sm [(1000, 2002)] [(4, oD (.own 1000))] [(1000, .vec 3 (v2.map A0))] rfl rfl) (As ?_)
  exact ⟨⟨[_], tm, rfl⟩, ⟨rfl, tv⟩⟩
theorem SM (N : Nat) (p0 : Aa) (p1 : Ac) (r : Ac × An × Int) (h : H8 N p0 p1 = some r) : Ap zA0 117 [.e (.agg (Ah p0)), .e (.agg (AK p1))] [] (.tup [.agg (AK r.1), .agg (NA r.2.1), .one (iC r.2.2)]) := by
 unfold H8 at h
 refine cw (n := 42) (rs := [.cell 4 49, .cell 5 149, .tmp 6]) Tryz.func117 fun w0 S0 => ?_
 refine wq rfl (qb rfl (qb rfl (qz EH rfl (qz I8 rfl (qa rfl (Ab (wq rfl (qL Dq Cu rfl (qL B8 A3 rfl ?_)))))))))
 refine BZ h fun v1 a1 h => Ax [2001] (Q5 N p0 p1 v1 a1) cQ rfl (qm rfl (qx rfl (qx rfl (qa rfl (qa rfl (Ab (wp rfl (qm rfl (BC rfl (Ab ?_))))))))))
 refine Bb h (fun h => ?_) fun h => ?_
 ·refine wq rfl (Bg EH Jl rfl (Bg I8 QW rfl (qm rfl (qs A3 rfl (qs IE rfl (qe rfl ?_))))))
  obtain rfl := sj h
  refine Ae ((Qm 4 _ rfl).trans (sm [] [(4, oD (.ptr 4 0)), (5, oD (.ptr 5 0)), (6, iD v1.2)] [(4, .box [sC ((([] : List Int)).map Ak), sC ((([] : List Int)).map Ak), sC ((([] : List Int)).map DV)]), (5, .box [iC 0, iC 0, iC 0])] rfl rfl)) (As ?_)
  exact ⟨⟨[_, _, _], ⟨.cellN _ _ _ _ _ _ _ rfl rfl B8 A3 rfl rfl (Jh rfl), ⟨.cellN _ _ _ _ _ _ _ rfl rfl UU IE rfl rfl (Jh rfl), tm⟩⟩, rfl⟩, tv⟩
 ·refine Aj (wp rfl (qm rfl (Ef Mr rfl (qm rfl (Ab ?_)))))
  refine AB (L := E8 N p0 v1) h (fun v3 => mk [(2, oD (.ptr 2 0)), (4, oD (.ptr 4 0)), (5, oD (.ptr 5 0)), (23, oD (.own 2002)), (24, iD ((v1.1.length : Int))), (25, iD v3)] [(2, .box (Ah p0)), (4, .box [.pure (.nil0), .pure (.nil0), .pure (.nil0)]), (5, .box [iC 0, iC 0, iC 0]), (2002, .vec 3 (v1.1.map E6))]) (fun v4 => mk [(4, oD (.ptr 4 0)), (5, oD (.ptr 5 0))] [(4, .box [.pure (.nil0), .pure (.nil0), .pure (.nil0)]), (5, .box [iC 0, iC 0, iC 0])]) (fun _ _ => rfl) (sm [(2002, 2001)] _ _ rfl rfl) (fun j3 n3 v3 h => ?_) (fun v4 s h hs => ?_)
  ·unfold E8 at h
   refine wq rfl (AT rfl (Ab (AL ?_)))
   refine Bb h (fun h => ?_) fun h => ?_
   ·refine Aj (AL (AH (wq rfl ?_)))
    refine BK h fun v6 a6 b6 h => qI Mr A3 a6 (Af b6) rfl (qJ B8 A3 (Af b6) rfl (qz EH rfl (qs A3 rfl (Ab (wq rfl (qL Dq Cu rfl (qL B8 A3 rfl ?_)))))))
    refine BZ h fun v7 a7 h => Ax [2003] (Ot N p0 v6 v7 a7) cv rfl (qa rfl (Ab (wq rfl (qm rfl (Ef HL rfl (GB rfl (Ab ?_)))))))
    refine Bb h (fun h => ?_) fun h => ?_
    ·refine wq rfl (qL B8 A3 rfl (qm rfl ?_))
     refine BK h fun v9 a9 b9 h => qI HL IE a9 (Af b9) rfl (qJ UU IE (Af b9) rfl (qs A3 rfl (qs IE rfl (qa rfl (AO (by kernel_rfl) ?_)))))
     obtain rfl := sj h
     refine Ae (sm [] [(4, oD (.ptr 4 0)), (5, oD (.ptr 5 0)), (6, iD 0)] [(4, .box (AK v6)), (5, .box (NA v9))] rfl rfl) (As ?_)
     exact ⟨⟨[_, _, _], ⟨.cellN _ _ _ _ _ _ _ rfl rfl B8 A3 rfl rfl (Jh rfl), ⟨.cellN _ _ _ _ _ _ _ rfl rfl UU IE rfl rfl (Jh rfl), tm⟩⟩, rfl⟩, tv⟩
    ·refine Aj (Ag Aw rfl (AX rfl (qm rfl (Ab ?_))))
     exact sn [] h
   ·refine AS ?_
    exact sn [] h
  ·refine Ae hs (wq rfl (Bg EH Jl rfl (Bg I8 QW rfl (qs A3 rfl (qs IE rfl (qe rfl ?_))))))
   obtain rfl := sj h
   refine Ae ((Qm 4 _ rfl).trans (sm [] [(4, oD (.ptr 4 0)), (5, oD (.ptr 5 0)), (6, iD 15)] [(4, .box [sC ((([] : List Int)).map Ak), sC ((([] : List Int)).map Ak), sC ((([] : List Int)).map DV)]), (5, .box [iC 0, iC 0, iC 0])] rfl rfl)) (As ?_)
   exact ⟨⟨[_, _, _], ⟨.cellN _ _ _ _ _ _ _ rfl rfl B8 A3 rfl rfl (Jh rfl), ⟨.cellN _ _ _ _ _ _ _ rfl rfl UU IE rfl rfl (Jh rfl), tm⟩⟩, rfl⟩, tv⟩
theorem Nt (N : Nat) (p0 : Aa) (p1 : Ac) (r : Bool × Int) (h : GI N p0 p1 = some r) : Ap zA0 83 [.e (.agg (Ah p0)), .e (.agg (AK p1))] [] (.tup [.one (.pure (.val (.bool r.1))), .one (iC r.2)]) := by
 unfold GI at h
 refine cw (n := 22) (rs := [.tmp 4, .tmp 5]) Tryz.func83 fun w0 S0 => ?_
 refine wq rfl (qb rfl (qb rfl (qa rfl (qa rfl (Ab (wq rfl (qL Dq Cu rfl (qL B8 A3 rfl ?_))))))))
 refine BZ h fun v1 a1 h => Ax [] (SM N p0 p1 v1 a1) aX rfl (qm rfl (qx rfl (qx rfl (qx rfl (qz EH rfl (qz I8 rfl (qs A3 rfl (qs IE rfl (qa rfl (Ab (wq rfl (qm rfl (Ab (AH (wq rfl (Ch rfl (qe rfl ?_)))))))))))))))))
 refine Bb h (fun h => ?_) fun h => ?_
 ·refine wq rfl (qa rfl (qe rfl ?_))
  obtain rfl := sj h
  refine Ae (sm [] [(4, bD false), (5, iD 0)] [] rfl rfl) (As ?_)
  exact ⟨⟨[_, _], ⟨.tmp _ _ rfl, tm⟩, rfl⟩, tv⟩
 ·refine wq rfl (Ch rfl (qe rfl ?_))
  refine Bb h (fun h => ?_) fun h => ?_
  ·refine wq rfl (qa rfl (qe rfl ?_))
   obtain rfl := sj h
   refine Ae (sm [] [(4, bD true), (5, iD 0)] [] rfl rfl) (As ?_)
   exact ⟨⟨[_, _], ⟨.tmp _ _ rfl, tm⟩, rfl⟩, tv⟩
  ·refine wq rfl (qm rfl (qa rfl (qe rfl ?_)))
   obtain rfl := sj h
   refine Ae (sm [] [(4, bD false), (5, iD v1.2.2)] [] rfl rfl) (As ?_)
   exact ⟨⟨[_, _], ⟨.tmp _ _ rfl, tm⟩, rfl⟩, tv⟩
theorem PK (N : Nat) (p0 : Ac) (r : ByteArray) (h : HV N p0 = some r) : Ap zA0 138 [.e (.agg (AK p0))] [] (pD (.val (.string r))) := by
 unfold HV at h
 refine cw (n := 53) (rs := [.tmp 2]) Tryz.func138 fun w0 S0 => ?_
 refine wq rfl (qb rfl (qa rfl (Ab (wq rfl (qf Db rfl (ql A1 rfl (AJ Ar rfl (Ny rfl (qf CV rfl (ql HX rfl (AJ D4 rfl (AX rfl ?_))))))))))))
 refine FT h fun c1 h => Lf (.p rfl) rfl rfl rfl K3 ZM ZI (I3 rfl) ck rfl rfl rfl c1.1 c1.2.1 c1.2.2 (Q9 DV _ ((0 : Int))) ?_
 refine qa rfl (Ab (wp rfl (qf Db rfl (ql A1 rfl (AJ Ar rfl (qm rfl (Ab ?_)))))))
 refine AB (L := E1 N p0) h (fun v2 => mk [(1, oD (.ptr 1 0)), (3, oD (.own 2001)), (18, iD ((p0.fd.length : Int))), (19, iD v2.2)] [(1, .box (AK p0)), (2001, .vec 1 (v2.1.map DV))]) (fun v3 => mk [(1, oD (.ptr 1 0)), (3, oD (.own 2002))] [(1, .box (AK p0)), (2002, .vec 1 (v3.map DV))]) (fun _ _ => rfl) (sm [(2001, 15)] _ _ rfl rfl) (fun j2 n2 v2 h => ?_) (fun v3 s h hs => ?_)
 ·unfold E1 at h
  refine wq rfl (AT rfl (Ab (AL ?_)))
  refine Bb h (fun h => ?_) fun h => ?_
  ·refine Aj (AL (AH (wq rfl (qm rfl (qa rfl (Ab (Ag Aw rfl (qm rfl (qf Db rfl (ql A1 rfl (qm rfl ?_)))))))))))
   refine BK h fun v5 a5 b5 h => qi Ar Cx a5 (Af b5) rfl (qk BV rfl (Jx de ep rfl (qf BO rfl (ql A1 rfl (qm rfl ?_)))))
   refine BK h fun v6 a6 b6 h => qi Ar Cx a6 (Af b6) rfl (qk BV rfl (AX rfl (Jx de ep rfl (Dp K3 ZM ck rfl ?_))))
   refine FT h fun c7 h => Cy (f := DV) K3 K3 ZM ZI ck c7 rfl (qa rfl (AO (by kernel_rfl) (Ag Aw rfl (AX rfl (qm rfl (Ab ?_))))))
   exact sn [(2001, 37)] h
  ·refine AS ?_
   exact sn [(2002, 2001)] h
 ·refine Ae hs (wp rfl (qf CV rfl (ql HX rfl (AJ D4 rfl (qm rfl (Ab ?_))))))
  refine AB (L := DO N p0) h (fun v8 => mk [(3, oD (.own 2003)), (40, pD (.sl (p0.fe.map DV))), (41, iD ((p0.fe.length : Int))), (42, iD v8.2)] [(2003, .vec 1 (v8.1.map DV))]) (fun v9 => mk [(3, oD (.own 2004))] [(2004, .vec 1 (v9.map DV))]) (fun _ _ => rfl) (sm [(2003, 2002)] _ _ rfl rfl) (fun j8 n8 v8 h => ?_) (fun v9 s h hs => ?_)
  ·unfold DO at h
   refine wq rfl (AT rfl (Ab (AL ?_)))
   refine Bb h (fun h => ?_) fun h => ?_
   ·refine Aj (AL (AH (wq rfl ?_)))
    refine BK h fun v11 a11 b11 h => qi D4 EC a11 (Af b11) rfl (qk IH rfl (qa rfl (Ab (Ag Aw rfl (qw 2 rfl (Dp K3 ZM ck rfl ?_))))))
    refine FT h fun c12 h => Cy (f := DV) K3 K3 ZM ZI ck c12 rfl (qa rfl (Ab (Ag Aw rfl (AX rfl (qm rfl (Ab ?_))))))
    exact sn [(2003, 49)] h
   ·refine AS ?_
    exact sn [(2004, 2003)] h
  ·refine Ae hs (wq rfl (qm rfl ?_))
   refine Xw v9 (.p rfl) rfl (WA DV _ _ _) ⟨rfl, tv⟩ rfl bc VC ?_
   refine qa rfl (Ab ?_)
   obtain rfl := sj h
   refine Ae (sm [] [(2, pD (.val (.string ((CG v9)))))] [] rfl rfl) (As ?_)
   exact ⟨⟨[_], tm, rfl⟩, tv⟩
theorem TM (N : Nat) (p0 : Aa) (r : (List Ad)) (h : IG N p0 = some r) : Ap zA0 125 [.e (.agg (Ah p0))] [(3, r.map AG)] (oD (.own 0)) := by
 unfold IG at h
 refine cw (n := 54) (rs := [.tmp 2]) Tryz.func125 fun w0 S0 => ?_
 refine wq rfl (qb rfl (qa rfl (Ab (wq rfl (qa rfl (Ab (wp rfl (qf A7 rfl (ql A1 rfl (AJ Ar rfl (qm rfl (Ab ?_))))))))))))
 refine AB (L := Do N p0) h (fun v1 => mk [(1, oD (.ptr 1 0)), (3, oD (.own 2001)), (10, pD (.sl (p0.fa.map Ak))), (11, iD ((p0.fa.length : Int))), (12, iD v1.2)] [(1, .box (Ah p0)), (2001, .vec 3 (v1.1.map AG))]) (fun v2 => mk [(1, oD (.ptr 1 0)), (3, oD (.own 2002))] [(1, .box (Ah p0)), (2002, .vec 3 (v2.map AG))]) (fun _ _ => rfl) ((A6 3 2005 3 rfl rfl rfl).trans (sm [(2001, 2005)] _ _ rfl rfl)) (fun j1 n1 v1 h => ?_) (fun v2 s h hs => ?_)
 ·unfold Do at h
  refine wq rfl (AT rfl (Ab (AL ?_)))
  refine Bb h (fun h => ?_) fun h => ?_
  ·refine Aj (AL (AH (wq rfl (qm rfl ?_))))
   refine BK h fun v4 a4 b4 h => qi Ar Cx a4 (Af b4) rfl (qk BV rfl (qa rfl (qa rfl (Ab (wq rfl (qw 2 rfl (Ab ?_)))))))
   refine AB (L := EP N v1 v4) h (fun v5 => mk [(1, oD (.ptr 1 0)), (3, oD (.own 2003)), (4, iD v1.2), (10, pD (.sl (p0.fa.map Ak))), (11, iD ((p0.fa.length : Int))), (12, iD v1.2), (17, iD v4), (18, iD v5.2)] [(1, .box (Ah p0)), (2003, .vec 3 (v5.1.map AG))]) (fun v6 => mk [(1, oD (.ptr 1 0)), (3, oD (.own 2004)), (10, pD (.sl (p0.fa.map Ak))), (11, iD ((p0.fa.length : Int))), (12, iD v1.2)] [(1, .box (Ah p0)), (2004, .vec 3 (v6.map AG))]) (fun _ _ => rfl) (sm [(2003, 2001)] _ _ rfl rfl) (fun j5 n5 v5 h => ?_) (fun v6 s h hs => ?_)
   ·unfold EP at h
    refine wq rfl (AT rfl (Ab (AL ?_)))
    refine Bb h (fun h => ?_) fun h => ?_
    ·refine Aj (AL (AH (wq rfl (qm rfl (qa rfl (Ab (Ag Aw rfl (qw 3 rfl (Bg K7 YM rfl (Dp Fa E9 K7 rfl ?_))))))))))
     refine FT h fun c8 h => Cy (f := AG) Fa Fa E9 SW K7 c8 rfl (qa rfl (Ab (Ag Aw rfl (AX rfl (qm rfl (Ab ?_))))))
     exact sn [(2003, 26)] h
    ·refine AS ?_
     exact sn [(2004, 2003)] h
   ·refine Ae hs (Ag Aw rfl (AX rfl (qm rfl (Ab ?_))))
    exact sn [(2001, 2004)] h
  ·refine AS ?_
   exact sn [(2002, 2001)] h
 ·refine Ae hs (wp rfl (qf A7 rfl (ql A1 rfl (AJ Ar rfl (qm rfl (Ab ?_))))))
  refine AB (L := Ct N p0) h (fun v9 => mk [(1, oD (.ptr 1 0)), (3, oD (.own 2006)), (31, iD ((p0.fa.length : Int))), (32, iD v9.2)] [(1, .box (Ah p0)), (2006, .vec 3 (v9.1.map AG))]) (fun v10 => mk [(1, oD (.ptr 1 0)), (3, oD (.own 2007))] [(1, .box (Ah p0)), (2007, .vec 3 (v10.map AG))]) (fun _ _ => rfl) (sm [(2006, 2002)] _ _ rfl rfl) (fun j9 n9 v9 h => ?_) (fun v10 s h hs => ?_)
  ·unfold Ct at h
   refine wq rfl (AT rfl (Ab (AL ?_)))
   refine Bb h (fun h => ?_) fun h => ?_
   ·refine Aj (AL (AH (wq rfl (qm rfl (qa rfl (Ab (Ag Aw rfl (qw 2 rfl (Bg K7 YM rfl (Dp Fa E9 K7 rfl ?_))))))))))
    refine FT h fun c12 h => Cy (f := AG) Fa Fa E9 SW K7 c12 rfl (qa rfl (Ab (Ag Aw rfl (AX rfl (qm rfl (Ab ?_))))))
    exact sn [(2006, 39)] h
   ·refine AS ?_
    exact sn [(2007, 2006)] h
  ·refine Ae hs (wp rfl (qf Ca rfl (ql Hc rfl (AJ Dl rfl (qm rfl (Ab ?_))))))
   refine AB (L := Bt N p0) h (fun v13 => mk [(3, oD (.own 2008)), (43, iD ((p0.fc.length : Int))), (44, iD v13.2)] [(2008, .vec 3 (v13.1.map AG))]) (fun v14 => mk [(3, oD (.own 2009))] [(2009, .vec 3 (v14.map AG))]) (fun _ _ => rfl) (sm [(2008, 2007)] _ _ rfl rfl) (fun j13 n13 v13 h => ?_) (fun v14 s h hs => ?_)
   ·unfold Bt at h
    refine wq rfl (AT rfl (Ab (AL ?_)))
    refine Bb h (fun h => ?_) fun h => ?_
    ·refine Aj (AL (AH (wq rfl (qm rfl (qa rfl (Ab (Ag Aw rfl (qw 2 rfl (Bg K7 YM rfl (Dp Fa E9 K7 rfl ?_))))))))))
     refine FT h fun c16 h => Cy (f := AG) Fa Fa E9 SW K7 c16 rfl (qa rfl (Ab (Ag Aw rfl (AX rfl (qm rfl (Ab ?_))))))
     exact sn [(2008, 51)] h
    ·refine AS ?_
     exact sn [(2009, 2008)] h
   ·refine Ae hs (wq rfl (qm rfl (qe rfl ?_)))
    obtain rfl := sj h
    refine Ae (sm [(1000, 2009)] [(2, oD (.own 1000))] [(1000, .vec 3 (v14.map AG))] rfl rfl) (As ?_)
    exact ⟨⟨[_], tm, rfl⟩, ⟨rfl, tv⟩⟩
theorem PQ (N : Nat) (p0 : Ac) (r : Ac) (h : G5 N p0 = some r) : Ap zA0 159 [.e (.agg (AK p0))] [(1, r.fd.map Ak), (1, r.fb.map Ak), (1, r.fe.map DV)] (.e (.agg [.own 0, .own 1, .own 2])) := by
 unfold G5 at h
 refine cw (n := 13) (rs := [.cell 2 49]) Tryz.func159 fun w0 S0 => ?_
 refine wq rfl (qb rfl (qz EH rfl (Ab (wq rfl (qf Db rfl (ql A1 rfl ?_))))))
 refine BZ h fun v1 a1 h => Ax [2001] (Ec N p0.fd v1 a1) Wq rfl (qf BO rfl (ql A1 rfl ?_))
 refine BZ h fun v2 a2 h => Ax [2002] (Ec N p0.fb v2 a2) Wq rfl (qf CV rfl (ql HX rfl ?_))
 refine BZ h fun v3 a3 h => Ax [2003] (F5 N p0.fe v3 a3) Zt rfl (Bg EH Jl rfl (qs A3 rfl (AO (by kernel_rfl) ?_)))
 obtain rfl := sj h
 refine Ae (sm [(1000, 2001), (1001, 2002), (1002, 2003)] [(2, oD (.ptr 2 0))] [(2, .box [.own 1000, .own 1001, .own 1002]), (1000, .vec 1 (v1.map Ak)), (1001, .vec 1 (v2.map Ak)), (1002, .vec 1 (v3.map DV))] rfl rfl) (As ?_)
 exact ⟨⟨[_], ⟨.cellN _ _ _ _ _ _ _ rfl rfl B8 A3 rfl rfl (Jh rfl), tv⟩, rfl⟩, ⟨rfl, rfl, rfl, tv⟩⟩
theorem Mp (N : Nat) (p0 : Al) (r : Bool) (h : F9 N p0 = some r) : Ap zA0 176 [.e (.agg (Ba p0))] [] (bD r) := by
 unfold F9 at h
 refine cw (n := 11) (rs := [.tmp 2]) Tryz.func176 fun w0 S0 => ?_
 refine wq rfl (qb rfl (qe rfl ?_))
 refine AQ h (fun v1 => mk [(2, bD v1)] []) (fun j1 h => ?_) (fun v1 h => ?_)
 ·refine Ag Aw rfl (qf Gj rfl (ql BV rfl (Ch rfl (qm rfl ?_))))
  refine Eo 6 h rfl (fun h => ?_) fun h => ?_
  ·refine qw 3 rfl (qp rfl (qe rfl ?_))
   exact sn [] h
  ·refine qf Gj rfl (ql BV rfl (Ch rfl (qp rfl (qe rfl ?_))))
   exact sn [] h
 ·obtain rfl := sj h
  refine Ae (sm [] [(2, bD v1)] [] rfl rfl) (As ?_)
  exact ⟨⟨[_], tm, rfl⟩, tv⟩
theorem RE (N : Nat) (p0 : Aa) (p1 : Ac) (p2 : Ad) (r : Bool × (List Int) × (List Int)) (h : Iz N p0 p1 p2 = some r) : Ex zA0 160 [.e (.agg (Ah p0)), oD (.ptr 90000 0), .e (.agg (Dm p2))] [(.box [.own 90001, .own 90002, .own 90003], .box [.own 90001, .own 90002, .own 90003]), (.vec 1 (p1.fd.map Ak), .vec 1 (p1.fd.map Ak)), (.vec 1 (p1.fb.map Ak), .vec 1 (r.2.1.map Ak)), (.vec 1 (p1.fe.map DV), .vec 1 (r.2.2.map DV))] [] (bD r.1) := by
 unfold Iz at h
 refine G1 (n := 70) (rs := [.tmp 6]) Tryz.func160 rfl rfl rfl (I3 rfl) (I3 rfl) rfl rfl (I3 rfl) rfl (I3 rfl) fun w0 S0 GL => ?_
 refine Ae (sm [] [(0, .e (.agg (Ah p0))), (1, oD (.ptr 90000 0)), (2, .e (.agg (Dm p2)))] [(90000, .box [.own 90001, .own 90002, .own 90003]), (90001, .vec 1 (p1.fd.map Ak)), (90002, .vec 1 (p1.fb.map Ak)), (90003, .vec 1 (p1.fe.map DV))] rfl rfl) (wq rfl (qb rfl (qb rfl (qa rfl (Ab (AL ?_))))))
 refine AQ h (fun v1 => mk [(1, oD (.ptr 90000 0)), (3, oD (.ptr 3 0)), (5, oD (.ptr 5 0)), (30, bD v1)] [(3, .box (Ah p0)), (5, .box (Dm p2)), (90000, .box [.own 90001, .own 90002, .own 90003]), (90001, .vec 1 (p1.fd.map Ak)), (90002, .vec 1 (p1.fb.map Ak)), (90003, .vec 1 (p1.fe.map DV))]) (fun j1 h => ?_) (fun v1 h => ?_)
 ·refine Ag Aw rfl (qm rfl (Ys rfl (qf BO rfl (ql A1 rfl (qf FA rfl (ql BV rfl ?_))))))
  refine BK h fun v2 a2 b2 h => qI Ar Cx a2 (Af b2) rfl (qj BV (Af b2) rfl (E0 rfl (qm rfl ?_)))
  refine Eo 18 h rfl (fun h => ?_) fun h => ?_
  ·refine qw 11 rfl (qp rfl (AO (by kernel_rfl) ?_))
   exact sn [] h
  ·refine qm rfl (Ys rfl (qf Db rfl (ql A1 rfl (qf FA rfl (ql BV rfl ?_)))))
   refine BK h fun v4 a4 b4 h => qI Ar Cx a4 (Af b4) rfl (qj BV (Af b4) rfl (qf HB rfl (ql BV rfl (Ch rfl (qp rfl (AO (by kernel_rfl) ?_))))))
   exact sn [] h
 ·refine Bb h (fun h => ?_) fun h => ?_
  ·refine wq rfl (qe rfl ?_)
   obtain rfl := sj h
   refine Ae (sm [] [(6, bD false)] [(90000, .box [.own 90001, .own 90002, .own 90003]), (90001, .vec 1 (p1.fd.map Ak)), (90002, .vec 1 (p1.fb.map Ak)), (90003, .vec 1 (p1.fe.map DV))] rfl rfl) (As ?_)
   exact ⟨⟨[_], tm, rfl⟩, ⟨rfl, rfl, rfl, rfl, tv⟩, tv⟩
  ·refine Aj (wq rfl (qm rfl (Ys rfl (qf BO rfl (ql A1 rfl (qf FA rfl (ql BV rfl (qf HB rfl (ql BV rfl ?_)))))))))
   refine BK h fun v6 a6 b6 h => qI Ar Cx a6 (Af b6) rfl ?_
   refine Dy rfl rfl rfl rfl (Af b6) rfl Cx rfl (I3 rfl) (Dr Ak p1.fb _ p2.fo) ?_
   refine AO (by kernel_rfl) (wp rfl (qf Ca rfl (ql Hc rfl (AJ Dl rfl (qm rfl (Ab ?_))))))
   refine AB (L := DY N p0 p2) h (fun v7 => mk [(1, oD (.ptr 90000 0)), (5, oD (.ptr 5 0)), (41, pD (.sl (p0.fc.map AM))), (42, iD ((p0.fc.length : Int))), (43, iD v7.2)] [(5, .box (Dm p2)), (90000, .box [.own 90001, .own 90002, .own 90003]), (90001, .vec 1 (p1.fd.map Ak)), (90002, .vec 1 ((p1.fb.set ((p2.fi).toNat) p2.fo).map Ak)), (90003, .vec 1 (v7.1.map DV))]) (fun v8 => mk [] [(90000, .box [.own 90001, .own 90002, .own 90003]), (90001, .vec 1 (p1.fd.map Ak)), (90002, .vec 1 ((p1.fb.set ((p2.fi).toNat) p2.fo).map Ak)), (90003, .vec 1 (v8.map DV))]) (fun _ _ => rfl) (sm [] _ _ rfl rfl) (fun j7 n7 v7 h => ?_) (fun v8 s h hs => ?_)
   ·unfold DY at h
    refine wq rfl (AT rfl (Ab (AL ?_)))
    refine Bb h (fun h => ?_) fun h => ?_
    ·refine Aj ?_
     refine AQ h (fun v10 => mk [(1, oD (.ptr 90000 0)), (5, oD (.ptr 5 0)), (41, pD (.sl (p0.fc.map AM))), (42, iD ((p0.fc.length : Int))), (43, iD v7.2)] [(5, .box (Dm p2)), (90000, .box [.own 90001, .own 90002, .own 90003]), (90001, .vec 1 (p1.fd.map Ak)), (90002, .vec 1 ((p1.fb.set ((p2.fi).toNat) p2.fo).map Ak)), (90003, .vec 1 (v10.map DV))]) (fun j10 h => ?_) (fun v10 h => ?_)
     ·refine AH (wq rfl (qm rfl ?_))
      refine BK h fun v11 a11 b11 h => qi Dl Dc a11 (Af b11) rfl (qK GR Dc rfl (qz IY rfl (qa rfl (qs Dc rfl (Ab ?_)))))
      refine AQ h (fun v12 => mk [(1, oD (.ptr 90000 0)), (5, oD (.ptr 5 0)), (7, iD v7.2), (41, pD (.sl (p0.fc.map AM))), (42, iD ((p0.fc.length : Int))), (43, iD v7.2), (56, bD v12)] [(5, .box (Dm p2)), (90000, .box [.own 90001, .own 90002, .own 90003]), (90001, .vec 1 (p1.fd.map Ak)), (90002, .vec 1 ((p1.fb.set ((p2.fi).toNat) p2.fo).map Ak)), (90003, .vec 1 (v7.1.map DV))]) (fun j12 h => ?_) (fun v12 h => ?_)
      ·refine Ag Aw rfl (qf CY rfl (ql BV rfl (qf FA rfl (ql BV rfl (Ch rfl (qm rfl ?_))))))
       refine Eo 53 h rfl (fun h => ?_) fun h => ?_
       ·refine qL GR Dc rfl ?_
        refine BZ h fun v14 a14 h => Ax [] (Mp N v11 v14 a14) Zc rfl (qp rfl (Ab ?_))
        exact sn [] h
       ·refine qw 2 rfl (qp rfl (Ab ?_))
        exact sn [] h
      ·refine Bb h (fun h => ?_) fun h => ?_
       ·refine Ag Aw rfl (qm rfl (Ys rfl (qf CV rfl (ql HX rfl (qm rfl ?_)))))
        refine BK h fun v16 a16 b16 h => qI D4 EC a16 (Af b16) rfl (qj IH (Af b16) rfl (qf HB rfl (ql BV rfl ?_)))
        refine FT h fun c17 h => I7 rfl c17 (Wf rfl ?_)
        refine BK h fun v18 a18 b18 h => qI D4 EC a18 (Af b18) rfl ?_
        refine Dy rfl rfl rfl rfl (Af b18) rfl EC rfl (I3 rfl) (Dr DV v7.1 _ ((PP .u8 v16 ((DQ .u8 1 p2.fo))))) ?_
        refine AO (by kernel_rfl) ?_
        exact sn [] h
       ·refine Aj ?_
        exact sn [] h
     ·refine Ag Aw rfl (AX rfl (qm rfl (Ab ?_)))
      exact sn [] h
    ·refine AS ?_
     exact sn [] h
   ·refine Ae hs (wq rfl (qe rfl ?_))
    obtain rfl := sj h
    refine Ae (sm [] [(6, bD true)] [(90000, .box [.own 90001, .own 90002, .own 90003]), (90001, .vec 1 (p1.fd.map Ak)), (90002, .vec 1 ((p1.fb.set ((p2.fi).toNat) p2.fo).map Ak)), (90003, .vec 1 (v8.map DV))] rfl rfl) (As ?_)
    exact ⟨⟨[_], tm, rfl⟩, ⟨rfl, rfl, rfl, rfl, tv⟩, tv⟩
theorem OJ (N : Nat) (p0 : Ac) (p1 : Int) (r : Int) (h : Gz N p0 p1 = some r) : Ap zA0 177 [.e (.agg (AK p0)), iD p1] [] (pD (.val (.int .u8 r))) := by
 unfold Gz at h
 refine cw (n := 27) (rs := [.tmp 4]) Tryz.func177 fun w0 S0 => ?_
 refine wq rfl (qb rfl (qa rfl (Ab (wq rfl (qf Db rfl (ql A1 rfl (qm rfl ?_)))))))
 refine BK h fun v1 a1 b1 h => qi Ar Cx a1 (Af b1) rfl (qk BV rfl ?_)
 refine FT h fun c2 h => I7 rfl c2 (qe rfl ?_)
 refine AQ h (fun v3 => mk [(5, pD (.val (.int .u8 v3)))] []) (fun j3 h => ?_) (fun v3 h => ?_)
 ·refine wq rfl (qf BO rfl (ql A1 rfl (qm rfl ?_)))
  refine BK h fun v4 a4 b4 h => qi Ar Cx a4 (Af b4) rfl (qk BV rfl (E0 rfl (Ab ?_)))
  refine Bb h (fun h => ?_) fun h => ?_
  ·refine Ag Aw rfl (qm rfl (qf BO rfl (ql A1 rfl (qm rfl ?_))))
   refine BK h fun v6 a6 b6 h => qi Ar Cx a6 (Af b6) rfl (qk BV rfl ?_)
   refine FT h fun c7 h => I7 rfl c7 (Wf rfl (qe rfl ?_))
   exact sn [] h
  ·refine Aj ?_
   exact sn [] h
 ·refine wq rfl (qm rfl (qe rfl ?_))
  obtain rfl := sj h
  refine Ae (sm [] [(4, pD (.val (.int .u8 v3)))] [] rfl rfl) (As ?_)
  exact ⟨⟨[_], tm, rfl⟩, tv⟩
theorem JK (N : Nat) (p0 : Int) (r : Int) (h : C4 N p0 = some r) : Ap zA0 180 [pD (.val (.int .u8 p0))] [] (iD r) := by
 unfold C4 at h
 refine cw (n := 6) (rs := [.tmp 2]) Tryz.func180 fun w0 S0 => ?_
 refine wq rfl (qa rfl (Ab (wq rfl (qm rfl ?_))))
 refine BZ h fun v1 a1 h => Kk (.p rfl) rfl rfl VC a1 ?_
 refine Jx Z3 XM rfl (qe rfl ?_)
 obtain rfl := sj h
 refine Ae (sm [] [(2, iD ((wI .i64 v1)))] [] rfl rfl) (As ?_)
 exact ⟨⟨[_], tm, rfl⟩, tv⟩
theorem MX (N : Nat) (p0 : Al) (p1 : Int) (p2 : Int) (r : Bool) (h : Gt N p0 p1 p2 = some r) : Ap zA0 178 [.e (.agg (Ba p0)), pD (.val (.int .u8 p1)), iD p2] [] (bD r) := by
 unfold Gt at h
 refine cw (n := 25) (rs := [.tmp 6]) Tryz.func178 fun w0 S0 => ?_
 refine wq rfl (qb rfl (qa rfl (Ab (wp rfl (qm rfl (qe rfl ?_))))))
 refine AB (L := DI N p0 p2) h (fun v1 => mk [(2, iD p2), (3, oD (.ptr 3 0)), (7, pD (.val (.int .u8 v1)))] [(3, .box (Ba p0))]) (fun v2 => mk [] []) (fun _ _ => rfl) (sm [] _ _ rfl rfl) (fun j1 n1 v1 h => ?_) (fun v2 s h hs => ?_)
 ·unfold DI at h
  refine wp rfl (qm rfl (BC rfl (Ab ?_)))
  refine Bb h (fun h => ?_) fun h => ?_
  ·refine Aj (AL (AH (wq rfl (qf Fx rfl (ql Io rfl (qm rfl ?_))))))
   refine BZ h fun v4 a4 h => Ax [] (JK N v1 v4 a4) aO rfl ?_
   refine BK h fun v5 a5 b5 h => qi Ep Jy a5 (Af b5) rfl (qk Or rfl (qm rfl ?_))
   refine BK h fun v6 a6 b6 h => qi Fo PG a6 (Af b6) rfl (qk Tv rfl (CD rfl (AO (by kernel_rfl) ?_)))
   refine Bb h (fun h => ?_) fun h => ?_
   ·refine wq rfl (qe rfl ?_)
    obtain rfl := sj h
    refine Ae (sm [] [(6, bD false)] [] rfl rfl) (As ?_)
    exact ⟨⟨[_], tm, rfl⟩, tv⟩
   ·refine Aj (Ag Aw rfl (qw 2 rfl (J4 rfl (Il rfl (qe rfl ?_)))))
    exact sn [] h
  ·refine AS ?_
   exact sn [] h
 ·refine Ae hs (wq rfl (qe rfl ?_))
  obtain rfl := sj h
  refine Ae (sm [] [(6, bD true)] [] rfl rfl) (As ?_)
  exact ⟨⟨[_], tm, rfl⟩, tv⟩
theorem Rz (N : Nat) (p0 : Aa) (p1 : Ac) (p2 : Int) (r : Bool × (List Int)) (h : HA N p0 p1 p2 = some r) : Ex zA0 161 [.e (.agg (Ah p0)), oD (.ptr 90000 0), iD p2] [(.box [.own 90001, .own 90002, .own 90003], .box [.own 90001, .own 90002, .own 90003]), (.vec 1 (p1.fd.map Ak), .vec 1 (p1.fd.map Ak)), (.vec 1 (p1.fb.map Ak), .vec 1 (p1.fb.map Ak)), (.vec 1 (p1.fe.map DV), .vec 1 (r.2.map DV))] [] (bD r.1) := by
 unfold HA at h
 refine G1 (n := 68) (rs := [.tmp 6]) Tryz.func161 rfl rfl rfl (I3 rfl) (I3 rfl) rfl rfl (I3 rfl) rfl (I3 rfl) fun w0 S0 GL => ?_
 refine Ae (sm [] [(0, .e (.agg (Ah p0))), (1, oD (.ptr 90000 0)), (2, iD p2)] [(90000, .box [.own 90001, .own 90002, .own 90003]), (90001, .vec 1 (p1.fd.map Ak)), (90002, .vec 1 (p1.fb.map Ak)), (90003, .vec 1 (p1.fe.map DV))] rfl rfl) (wq rfl (qb rfl (qa rfl (Ab (wq rfl (qf Ca rfl (ql Hc rfl (qm rfl ?_))))))))
 refine BK h fun v1 a1 b1 h => qi Dl Dc a1 (Af b1) rfl (qK GR Dc rfl (qz IY rfl (qs Dc rfl (Ab (wp rfl (qL GR Dc rfl ?_))))))
 refine BZ h fun v2 a2 h => Ax [] (Mp N v1 v2 a2) Zc rfl (CD rfl (Ab ?_))
 refine Bb h (fun h => ?_) fun h => ?_
 ·refine wq rfl (qe rfl ?_)
  obtain rfl := sj h
  refine Ae (sm [] [(6, bD false)] [(90000, .box [.own 90001, .own 90002, .own 90003]), (90001, .vec 1 (p1.fd.map Ak)), (90002, .vec 1 (p1.fb.map Ak)), (90003, .vec 1 (p1.fe.map DV))] rfl rfl) (As ?_)
  exact ⟨⟨[_], tm, rfl⟩, ⟨rfl, rfl, rfl, rfl, tv⟩, tv⟩
 ·refine Aj (wq rfl (qm rfl (Ys rfl (qL B8 A3 rfl (qf CY rfl (ql BV rfl ?_))))))
  refine BZ h fun v4 a4 h => EK [] [90001, 90002, 90003] (OJ N p1 v1.ff v4 a4) bJ C1 rfl (qa rfl (AO (by kernel_rfl) (wq rfl (qm rfl (Ys rfl (qf CV rfl (ql HX rfl (qm rfl ?_))))))))
  refine BK h fun v5 a5 b5 h => qI D4 EC a5 (Af b5) rfl (qj IH (Af b5) rfl (qm rfl (H5 rfl (qa rfl (Ab (AL ?_))))))
  refine AQ h (fun v6 => mk [(1, oD (.ptr 90000 0)), (2, iD p2), (8, pD (.val (.int .u8 v4))), (60, bD v6)] [(90000, .box [.own 90001, .own 90002, .own 90003]), (90001, .vec 1 (p1.fd.map Ak)), (90002, .vec 1 (p1.fb.map Ak)), (90003, .vec 1 (p1.fe.map DV))]) (fun j6 h => ?_) (fun v6 h => ?_)
  ·refine Ag Aw rfl (qm rfl (Ys rfl (qf CV rfl (ql HX rfl (qm rfl ?_)))))
   refine BK h fun v7 a7 b7 h => qI D4 EC a7 (Af b7) rfl (qj IH (Af b7) rfl (qm rfl (Ch rfl (qm rfl ?_))))
   refine Eo 42 h rfl (fun h => ?_) fun h => ?_
   ·refine qw 4 rfl (qu rfl (qu rfl (qu rfl (qu rfl (qu rfl (qu rfl (qu rfl (qu rfl (qu rfl (qu rfl (qu rfl (qu rfl (qn rfl (qp rfl (AO (by kernel_rfl) ?_)))))))))))))))
    exact sn [] h
   ·refine qf Gj rfl (ql BV rfl (Ch rfl (qm rfl ?_)))
    refine Eo 46 h rfl (fun h => ?_) fun h => ?_
    ·refine qL GR Dc rfl (qw 2 rfl (Ys rfl (qf Db rfl (ql A1 rfl (qf CY rfl (ql BV rfl ?_))))))
     refine BK h fun v10 a10 b10 h => qI Ar Cx a10 (Af b10) rfl (qj BV (Af b10) rfl ?_)
     refine BZ h fun v11 a11 h => Ax [] (MX N v1 ((CZ .u8 v5 v4)) v10 v11 a11) bz rfl (CD rfl (qp rfl (qp rfl (AO (by kernel_rfl) ?_))))
     exact sn [] h
    ·refine qw 12 rfl (qp rfl (qp rfl (AO (by kernel_rfl) ?_)))
     exact sn [] h
  ·refine Bb h (fun h => ?_) fun h => ?_
   ·refine wq rfl (qe rfl ?_)
    obtain rfl := sj h
    refine Ae (sm [] [(6, bD false)] [(90000, .box [.own 90001, .own 90002, .own 90003]), (90001, .vec 1 (p1.fd.map Ak)), (90002, .vec 1 (p1.fb.map Ak)), (90003, .vec 1 (p1.fe.map DV))] rfl rfl) (As ?_)
    exact ⟨⟨[_], tm, rfl⟩, ⟨rfl, rfl, rfl, rfl, tv⟩, tv⟩
   ·refine Aj (wq rfl (qm rfl (Ys rfl (qf CV rfl (ql HX rfl (qw 2 rfl ?_))))))
    refine BK h fun v13 a13 b13 h => qI D4 EC a13 (Af b13) rfl ?_
    refine Dy rfl rfl rfl rfl (Af b13) rfl EC rfl (I3 rfl) (Dr DV p1.fe _ v4) ?_
    refine Ab (wq rfl (qe rfl ?_))
    obtain rfl := sj h
    refine Ae (sm [] [(6, bD true)] [(90000, .box [.own 90001, .own 90002, .own 90003]), (90001, .vec 1 (p1.fd.map Ak)), (90002, .vec 1 (p1.fb.map Ak)), (90003, .vec 1 ((p1.fe.set ((p2).toNat) v4).map DV))] rfl rfl) (As ?_)
    exact ⟨⟨[_], tm, rfl⟩, ⟨rfl, rfl, rfl, rfl, tv⟩, tv⟩
theorem MY (N : Nat) (p0 : Aa) (p1 : Ac) (p2 : Ad) (r : Ac × Bool) (h : F0 N p0 p1 p2 = some r) : Ap zA0 127 [.e (.agg (Ah p0)), .e (.agg (AK p1)), .e (.agg (Dm p2))] [(1, r.1.fd.map Ak), (1, r.1.fb.map Ak), (1, r.1.fe.map DV)] (.tup [.agg [.own 0, .own 1, .own 2], .one (.pure (.val (.bool r.2)))]) := by
 unfold F0 at h
 refine cw (n := 51) (rs := [.cell 6 49, .tmp 7]) Tryz.func127 fun w0 S0 => ?_
 refine wq rfl (qb rfl (qb rfl (qb rfl (qz EH rfl (qa rfl (Ab (wq rfl (qL B8 A3 rfl ?_))))))))
 refine BZ h fun v1 a1 h => Ax [2001, 2002, 2003] (PQ N p1 v1 a1) cJ rfl (qz EH rfl (qs A3 rfl (Ab (wp rfl (qf Gp rfl (ql BV rfl (Ab (AH (wq rfl (Ch rfl (qe rfl ?_)))))))))))
 refine Bb h (fun h => ?_) fun h => ?_
 ·refine wq rfl (qL B8 A3 rfl (qL Dq Cu rfl (qL JT E9 rfl ?_)))
  refine BZ h fun v3 a3 h => LT (ds0 := [_, _, _]) [8, 2001, 2002, 2003] [] [false, false, true, true] (RE N p0 v1 p2 v3 a3) (.p rfl) cc rfl ⟨rfl, rfl, rfl, tv⟩ rfl rfl (by decide) ⟨rfl, rfl, rfl, rfl, tv⟩ rfl (Gg rfl) tv ⟨(fun _ => rfl), (fun _ => rfl), (fun h => by cases h), (fun h => by cases h), tv⟩ rfl rfl rfl ?_
  refine qs A3 rfl (qa rfl (AO (by kernel_rfl) ?_))
  obtain rfl := sj h
  refine Ae (sm [(1000, 2001), (1001, 2002), (1002, 2003)] [(6, oD (.ptr 6 0)), (7, bD v3.1)] [(6, .box [.own 1000, .own 1001, .own 1002]), (1000, .vec 1 (v1.fd.map Ak)), (1001, .vec 1 (v3.2.1.map Ak)), (1002, .vec 1 (v3.2.2.map DV))] rfl rfl) (As ?_)
  exact ⟨⟨[_, _], ⟨.cellN _ _ _ _ _ _ _ rfl rfl B8 A3 rfl rfl (Jh rfl), tm⟩, rfl⟩, ⟨rfl, rfl, rfl, tv⟩⟩
 ·refine wq rfl (Ch rfl (qe rfl ?_))
  refine Bb h (fun h => ?_) fun h => ?_
  ·refine wq rfl (qL B8 A3 rfl (qL Dq Cu rfl (qf FA rfl (ql BV rfl ?_))))
   refine BZ h fun v5 a5 h => LT (ds0 := [_, _, _]) [8, 2001, 2002, 2003] [] [false, false, false, true] (Rz N p0 v1 p2.fi v5 a5) (.p rfl) bG rfl ⟨rfl, rfl, rfl, tv⟩ rfl rfl (by decide) ⟨rfl, rfl, rfl, rfl, tv⟩ rfl (Gg rfl) tv ⟨(fun _ => rfl), (fun _ => rfl), (fun _ => rfl), (fun h => by cases h), tv⟩ rfl rfl rfl ?_
   refine qs A3 rfl (qa rfl (AO (by kernel_rfl) ?_))
   obtain rfl := sj h
   refine Ae (sm [(1000, 2001), (1001, 2002), (1002, 2003)] [(6, oD (.ptr 6 0)), (7, bD v5.1)] [(6, .box [.own 1000, .own 1001, .own 1002]), (1000, .vec 1 (v1.fd.map Ak)), (1001, .vec 1 (v1.fb.map Ak)), (1002, .vec 1 (v5.2.map DV))] rfl rfl) (As ?_)
   exact ⟨⟨[_, _], ⟨.cellN _ _ _ _ _ _ _ rfl rfl B8 A3 rfl rfl (Jh rfl), tm⟩, rfl⟩, ⟨rfl, rfl, rfl, tv⟩⟩
  ·refine Aj (wq rfl (qf BO rfl (ql A1 rfl (qf FA rfl (ql BV rfl ?_)))))
   refine BK h fun v6 a6 b6 h => qI Ar Cx a6 (Af b6) rfl (qj BV (Af b6) rfl (qa rfl (Ab (wp rfl (qm rfl (AT rfl (Ab ?_)))))))
   refine Bb h (fun h => ?_) fun h => ?_
   ·refine wq rfl (qL B8 A3 rfl (qs A3 rfl (qe rfl ?_)))
    obtain rfl := sj h
    refine Ae (sm [(1000, 2001), (1001, 2002), (1002, 2003)] [(6, oD (.ptr 6 0)), (7, bD false)] [(6, .box [.own 1000, .own 1001, .own 1002]), (1000, .vec 1 (v1.fd.map Ak)), (1001, .vec 1 (v1.fb.map Ak)), (1002, .vec 1 (v1.fe.map DV))] rfl rfl) (As ?_)
    exact ⟨⟨[_, _], ⟨.cellN _ _ _ _ _ _ _ rfl rfl B8 A3 rfl rfl (Jh rfl), tm⟩, rfl⟩, ⟨rfl, rfl, rfl, tv⟩⟩
   ·refine Aj (wq rfl (qf BO rfl (ql A1 rfl (qf FA rfl (ql BV rfl ?_)))))
    refine BK h fun v8 a8 b8 h => qI Ar Cx a8 (Af b8) rfl ?_
    refine Dy rfl rfl rfl rfl (Af b8) rfl Cx rfl (I3 rfl) (Dr Ak v1.fb _ ((-1))) ?_
    refine Ab ?_
    refine AQ h (fun v9 => mk [(6, oD (.ptr 6 0)), (8, oD (.ptr 8 0))] [(6, .box [.pure (.nil0), .pure (.nil0), .pure (.nil0)]), (8, .box [.own 2004, .own 2005, .own 2006]), (2004, .vec 1 (v9.map Ak)), (2005, .vec 1 ((v1.fb.set ((p2.fi).toNat) ((-1))).map Ak)), (2006, .vec 1 (v1.fe.map DV))]) (fun j9 h => ?_) (fun v9 h => ?_)
    ·refine wq rfl (qf Gp rfl (ql BV rfl (Ch rfl (Ab ?_))))
     refine Bb h (fun h => ?_) fun h => ?_
     ·refine Ag Aw rfl (qf Db rfl (ql A1 rfl (qf FA rfl (ql BV rfl (qm rfl ?_)))))
      refine BK h fun v11 a11 b11 h => qI Ar Cx a11 (Af b11) rfl ?_
      refine Dy rfl rfl rfl rfl (Af b11) rfl Cx rfl (I3 rfl) (Dr Ak v1.fd _ v6) ?_
      refine Ab ?_
      exact sn [(2004, 2001), (2005, 2002), (2006, 2003)] h
     ·refine Aj ?_
      exact sn [(2004, 2001), (2005, 2002), (2006, 2003)] h
    ·refine wq rfl (qL B8 A3 rfl (qs A3 rfl (qe rfl ?_)))
     obtain rfl := sj h
     refine Ae (sm [(1000, 2004), (1001, 2005), (1002, 2006)] [(6, oD (.ptr 6 0)), (7, bD true)] [(6, .box [.own 1000, .own 1001, .own 1002]), (1000, .vec 1 (v9.map Ak)), (1001, .vec 1 ((v1.fb.set ((p2.fi).toNat) ((-1))).map Ak)), (1002, .vec 1 (v1.fe.map DV))] rfl rfl) (As ?_)
     exact ⟨⟨[_, _], ⟨.cellN _ _ _ _ _ _ _ rfl rfl B8 A3 rfl rfl (Jh rfl), tm⟩, rfl⟩, ⟨rfl, rfl, rfl, tv⟩⟩
theorem NN (N : Nat) (p0 : Ad) (p1 : List Int) (p2 : List Int) (p3 : List Int) (p4 : List Al) (p5 : List Int) (p6 : List Int) (p7 : List Int) (r : Bool) (h : DE N p0 p1 p2 p3 p4 p5 p6 p7 = some r) : Ap zA0 126 [.e (.agg (Dm p0)), oD (.rop [.sl (p1.map Ak), .sl (p2.map Ak), .sl (p3.map Ak), .sl (p4.map AM)]), oD (.rop [.sl (p5.map Ak), .sl (p6.map Ak), .sl (p7.map DV)])] [] (bD r) := by
 unfold DE at h
 refine cw (n := 16) (rs := [.tmp 4]) Tryz.func126 fun w0 S0 => ?_
 refine wq rfl (qb rfl (qa rfl (Ab (wq rfl (qK Dq Cu rfl (qK B8 A3 rfl (qL JT E9 rfl ?_)))))))
 refine BZ h fun v1 a1 h => Ax [2001, 2002, 2003] (MY N ((Aa.mk p1 p2 p3 p4)) ((Ac.mk p5 p6 p7)) p0 v1 a1) Zv rfl (qm rfl (qx rfl (qx rfl (qz EH rfl (qs A3 rfl (qa rfl (Ab (wq rfl (qm rfl (CD rfl (qe rfl ?_)))))))))))
 obtain rfl := sj h
 refine Ae (sm [] [(4, bD ((!v1.2)))] [] rfl rfl) (As ?_)
 exact ⟨⟨[_], tm, rfl⟩, tv⟩
theorem Hj (N : Nat) (p0 : List Ad) (p1 : Ad → Option Bool) (r : Int) (h : BS N p0 p1 = some r) : Ap zA0 158 [pD (.sl (p0.map AG)), oD (.clo (Hn (Lc true AG) tB p1))] [] (iD r) := by
 unfold BS at h
 refine cw (n := 19) (rs := [.tmp 4]) Tryz.func158 fun w0 S0 => ?_
 refine wq rfl (qa rfl (Ab (wp rfl (qm rfl (AJ Fa rfl (qm rfl (Ab ?_)))))))
 refine AB (L := A2 N p0 p1) h (fun v1 => mk [(0, pD (.sl (p0.map AG))), (1, oD (.clo (Hn (Lc true AG) tB p1))), (7, iD ((p0.length : Int))), (8, iD v1)] []) (fun v2 => mk [] []) (fun _ _ => rfl) (sm [] _ _ rfl rfl) (fun j1 n1 v1 h => ?_) (fun v2 s h hs => ?_)
 ·unfold A2 at h
  refine wq rfl (AT rfl (Ab (AL ?_)))
  refine Bb h (fun h => ?_) fun h => ?_
  ·refine Aj (AL (AH (wq rfl (qm rfl (qa rfl (Ab (wq rfl (qw 3 rfl ?_))))))))
   refine BK h fun v4 a4 b4 h => qi Fa E9 a4 (Af b4) rfl (qK JT E9 rfl ?_)
   refine BZ h fun v5 a5 h => KO (ds0 := [_]) (ar := (Lc true AG) v4) (.p rfl) rfl rfl ⟨rfl, tv⟩ rfl rfl rfl (J3 (KT _ _ OE) a5) ?_
   refine Ab ?_
   refine Bb h (fun h => ?_) fun h => ?_
   ·refine wq rfl (qm rfl (qe rfl ?_))
    obtain rfl := sj h
    refine Ae (sm [] [(4, iD v1)] [] rfl rfl) (As ?_)
    exact ⟨⟨[_], tm, rfl⟩, tv⟩
   ·refine Aj (Ag Aw rfl (AX rfl (qm rfl (Ab ?_))))
    exact sn [] h
  ·refine AS ?_
   exact sn [] h
 ·refine Ae hs (wq rfl (qe rfl ?_))
  obtain rfl := sj h
  refine Ae (sm [] [(4, iD ((-1)))] [] rfl rfl) (As ?_)
  exact ⟨⟨[_], tm, rfl⟩, tv⟩
theorem Hd (N : Nat) (p0 : List Ad) (p1 : Ad → Option Bool) (r : Nat × (List Ad)) (h : BN N p0 p1 = some r) : Ex zA0 124 [oD (.own 90000), oD (.clo (Hn (Lc true AG) tB p1))] [(.vec 3 (p0.map AG), .vec 3 (r.2.map AG))] [] (oD (.view 90000 3 0 r.1)) := by
 unfold BN at h
 refine G1 (n := 42) (rs := [.tmp 4]) Tryz.func124 rfl rfl rfl (I3 rfl) (I3 rfl) rfl rfl (I3 rfl) rfl (I3 rfl) fun w0 S0 GL => ?_
 refine Ae (sm [] [(0, oD (.own 90000)), (1, oD (.clo (Hn (Lc true AG) tB p1)))] [(90000, .vec 3 (p0.map AG))] rfl rfl) (wq rfl (qa rfl (Ab (wq rfl (qw 2 rfl ?_)))))
 refine BZ h fun v1 a1 h => EK [] [90000] (Hj N p0 p1 v1 a1) aR C1 rfl (qa rfl (Ab (wp rfl (qm rfl (Ch rfl (Ab ?_))))))
 refine Bb h (fun h => ?_) fun h => ?_
 ·refine wq rfl (qm rfl (qe rfl ?_))
  obtain rfl := sj h
  refine Ae ((US AG p0 4 90000 3 rfl rfl).trans (sm [] [(4, oD (.view 90000 3 0 p0.length))] [(90000, .vec 3 (p0.map AG))] rfl rfl)) (As ?_)
  exact ⟨⟨[_], tm, rfl⟩, ⟨rfl, tv⟩, tv⟩
 ·refine Aj (wp rfl (qm rfl (AX rfl (qe rfl ?_))))
  refine AB (L := AW N p1) h (fun v3 => mk [(0, oD (.own 90000)), (1, oD (.clo (Hn (Lc true AG) tB p1))), (5, iD v3.2.1), (6, iD v3.2.2)] [(90000, .vec 3 (v3.1.map AG))]) (fun v4 => mk [(0, oD (.own 90000)), (5, iD v4.2)] [(90000, .vec 3 (v4.1.map AG))]) (fun _ _ => rfl) (sm [] _ _ rfl rfl) (fun j3 n3 v3 h => ?_) (fun v4 s h hs => ?_)
  ·unfold AW at h
   refine wp rfl (qw 2 rfl (Ef Fa rfl (AT rfl (Ab ?_))))
   refine Bb h (fun h => ?_) fun h => ?_
   ·refine Aj ?_
    refine AQ h (fun v6 => mk [(0, oD (.own 90000)), (1, oD (.clo (Hn (Lc true AG) tB p1))), (5, iD v6.2), (6, iD v3.2.2)] [(90000, .vec 3 (v6.1.map AG))]) (fun j6 h => ?_) (fun v6 h => ?_)
    ·refine AH (wq rfl (qw 2 rfl ?_))
     refine BK h fun v7 a7 b7 h => qI Fa E9 a7 (Af b7) rfl (qJ JT E9 (Af b7) rfl (qz K7 rfl (qs E9 rfl (Ab (wq rfl (qm rfl (qL JT E9 rfl ?_)))))))
     refine BZ h fun v8 a8 h => KO (ds0 := [_]) (ar := (Lc true AG) v7) (.p rfl) rfl rfl ⟨rfl, tv⟩ rfl rfl rfl (J3 (KT _ _ OE) a8) ?_
     refine CD rfl (Ab ?_)
     refine Bb h (fun h => ?_) fun h => ?_
     ·refine wq rfl (qw 2 rfl (qL JT E9 rfl ?_))
      refine BK h fun v10 a10 b10 h => qI Fa E9 a10 (Af b10) rfl ?_
      refine Dy rfl rfl rfl rfl (Af b10) rfl E9 rfl (I3 rfl) (Dr AG v3.1 _ v7) ?_
      refine Ab (Ag Aw rfl (qm rfl (AX rfl (qe rfl ?_))))
      exact sn [] h
     ·refine Aj ?_
      exact sn [] h
    ·refine Ag Aw rfl (qm rfl (AX rfl (qe rfl ?_)))
     exact sn [] h
   ·refine AS ?_
    exact sn [] h
  ·refine Ae hs (wq rfl (qw 2 rfl ?_))
   obtain ⟨c11, h⟩ := Hw h
   have w12 : ((v4.2).toNat) + ((v4.1.length - (v4.2).toNat)) ≤ v4.1.length := by have := c11.2.1; have := c11.2.2; omega
   refine Ko AG v4.1 (.p rfl) rfl (Ju AG _ _ v4.1) rfl Fa E9 (.some _ _ _ _ c11.1) (.none _) ⟨rfl, tv⟩ tv c11.2.1 (by rw [zA3]; exact c11.2.2) (zA3 _) rfl ?_
   have w13 : (Ji v4.1 ((v4.2).toNat) (zA6 ((v4.1.length - (v4.2).toNat)) ((Ad.mk 0 0 0)))).length = v4.1.length := JO (by rw [List.length_replicate]; exact w12)
   refine Ts AG v4.1 ((Ad.mk 0 0 0)) rfl rfl (NM AG _ _ ((v4.2).toNat) ((v4.1.length - (v4.2).toNat)) v4.1 w12) rfl Fa K7 rfl rfl rfl rfl ?_
   refine Ab (wq rfl (qw 2 rfl ?_))
   obtain ⟨c14, h⟩ := Hw h
   have w15 : 0 + ((v4.2).toNat) ≤ (Ji v4.1 ((v4.2).toNat) (zA6 ((v4.1.length - (v4.2).toNat)) ((Ad.mk 0 0 0)))).length := by have := c14.2.1; have := c14.2.2; omega
   refine Ko AG (Ji v4.1 ((v4.2).toNat) (zA6 ((v4.1.length - (v4.2).toNat)) ((Ad.mk 0 0 0)))) (.p rfl) rfl (Ju AG _ _ (Ji v4.1 ((v4.2).toNat) (zA6 ((v4.1.length - (v4.2).toNat)) ((Ad.mk 0 0 0))))) rfl Fa E9 (.none _) (.some _ _ _ _ c14.1) tv ⟨rfl, tv⟩ c14.2.1 (by rw [zA3]; exact c14.2.2) (zA3 _) rfl ?_
   refine qa rfl (Ab ?_)
   obtain rfl := sj h
   refine Ae (sm [] [(4, oD (.view 90000 3 0 ((v4.2).toNat)))] [(90000, .vec 3 ((Ji v4.1 ((v4.2).toNat) (zA6 ((v4.1.length - (v4.2).toNat)) ((Ad.mk 0 0 0)))).map AG))] rfl rfl) (As ?_)
   exact ⟨⟨[_], tm, rfl⟩, ⟨rfl, tv⟩, tv⟩
theorem Pz (N : Nat) (p0 : Aa) (p1 : Ac) (r : (List Ad) × Int) (h : Gv N p0 p1 = some r) : Ap zA0 87 [.e (.agg (Ah p0)), .e (.agg (AK p1))] [(3, r.1.map AG)] (.tup [.one (.own 0), .one (iC r.2)]) := by
 unfold Gv at h
 refine cw (n := 17) (rs := [.tmp 4, .tmp 5]) Tryz.func87 fun w0 S0 => ?_
 refine wq rfl (qb rfl (qb rfl (qa rfl (qa rfl (Ab (wp rfl (qL Dq Cu rfl (qL B8 A3 rfl ?_))))))))
 refine BZ h fun v1 a1 h => Ax [] (J8 N p0 p1 v1 a1) UW rfl (qa rfl (Ab (wq rfl (qm rfl (BC rfl (Ab ?_))))))
 refine Bb h (fun h => ?_) fun h => ?_
 ·refine wq rfl (qm rfl (qa rfl (qe rfl ?_)))
  obtain rfl := sj h
  refine Ae ((A6 4 2001 3 rfl rfl rfl).trans (sm [(1000, 2001)] [(4, oD (.own 1000)), (5, iD v1)] [(1000, .vec 3 ((([] : List Ad)).map AG))] rfl rfl)) (As ?_)
  exact ⟨⟨[_, _], ⟨.tmp _ _ rfl, tm⟩, rfl⟩, ⟨rfl, tv⟩⟩
 ·refine Aj (wq rfl (qL Dq Cu rfl ?_))
  refine BZ h fun v3 a3 h => Ax [2002] (TM N p0 v3 a3) cz rfl (CQ (H2 2 [.sl (p0.fa.map Ak), .sl (p0.fh.map Ak), .sl (p0.fq.map Ak), .sl (p0.fc.map AM)] rfl rfl) (CQ (H2 3 [.sl (p1.fd.map Ak), .sl (p1.fb.map Ak), .sl (p1.fe.map DV)] rfl rfl) ?_))
  refine Ip (capD := [_, _]) (Hn (Lc true AG) tB ((fun (x : Ad) => DE N x p0.fa p0.fh p0.fq p0.fc p1.fd p1.fb p1.fe))) (.p rfl) bL rfl ⟨rfl, rfl, tv⟩ rfl (fun ar t ht => by obtain ⟨x, r, rfl, hq, rfl⟩ := HT ht; exact NN N x p0.fa p0.fh p0.fq p0.fc p1.fd p1.fb p1.fe r hq) ?_
  obtain ⟨v4, a4, h⟩ := bind_some h
  obtain ⟨c5, h⟩ := Hw h
  have w6 : 0 + v4.1 ≤ v4.2.length := by rw [zA3]; exact c5
  refine LT (ds0 := [_, _]) [2002] [] [true] (Hd N v3 ((fun (x : Ad) => DE N x p0.fa p0.fh p0.fq p0.fc p1.fd p1.fb p1.fe)) v4 a4) (.p rfl) ce rfl ⟨rfl, rfl, tv⟩ rfl rfl (by decide) ⟨rfl, tv⟩ rfl (Gg rfl) tv ⟨(fun h => by cases h), tv⟩ rfl rfl rfl ?_
  refine CQ (V5 AG v4.2 16 2002 2003 3 v4.1 rfl rfl rfl rfl rfl c5) (qa rfl (qe rfl ?_))
  obtain rfl := sj h
  refine Ae (sm [(1000, 2003)] [(4, oD (.own 1000)), (5, iD 0)] [(1000, .vec 3 ((v4.2.take v4.1).map AG))] rfl rfl) (As ?_)
  exact ⟨⟨[_, _], ⟨.tmp _ _ rfl, tm⟩, rfl⟩, ⟨rfl, tv⟩⟩
theorem Q4 (N : Nat) (p0 : Ad) (r : Bool) (h : Hq N p0 = some r) : Ap zA0 162 [.e (.agg (Dm p0))] [] (bD r) := by
 unfold Hq at h
 refine cw (n := 27) (rs := [.tmp 2]) Tryz.func162 fun w0 S0 => ?_
 refine wq rfl (qb rfl (qa rfl (Ab (AL ?_))))
 refine AQ h (fun v1 => mk [(1, oD (.ptr 1 0)), (18, bD v1)] [(1, .box (Dm p0))]) (fun j1 h => ?_) (fun v1 h => ?_)
 ·refine Ag Aw rfl (qf FA rfl (ql BV rfl (qf HB rfl (ql BV rfl ?_))))
  refine bp (.p rfl) rfl rfl ?_
  refine AT rfl (qm rfl ?_)
  refine Eo 9 h rfl (fun h => ?_) fun h => ?_
  ·refine qw 3 rfl (qp rfl (qw 4 rfl (qp rfl (Ab ?_))))
   exact sn [] h
  ·refine qf Gp rfl (ql BV rfl (AT rfl (qp rfl (qm rfl ?_))))
   refine Eo 14 h rfl (fun h => ?_) fun h => ?_
   ·refine qw 3 rfl (qp rfl (Ab ?_))
    exact sn [] h
   ·refine qf Gp rfl (ql BV rfl (GB rfl (qp rfl (Ab ?_))))
    exact sn [] h
 ·refine Bb h (fun h => ?_) fun h => ?_
  ·refine wq rfl (qe rfl ?_)
   obtain rfl := sj h
   refine Ae (sm [] [(2, bD false)] [] rfl rfl) (As ?_)
   exact ⟨⟨[_], tm, rfl⟩, tv⟩
  ·refine Aj ?_
   refine AQ h (fun v5 => mk [(2, bD v5)] []) (fun j5 h => ?_) (fun v5 h => ?_)
   ·refine Ag Aw rfl (qf Gp rfl (ql BV rfl (Ch rfl (qm rfl ?_))))
    refine Eo 22 h rfl (fun h => ?_) fun h => ?_
    ·refine qw 3 rfl (qp rfl (qe rfl ?_))
     exact sn [] h
    ·refine qf HB rfl (ql BV rfl (Ch rfl (qp rfl (qe rfl ?_))))
     exact sn [] h
   ·obtain rfl := sj h
    refine Ae (sm [] [(2, bD v5)] [] rfl rfl) (As ?_)
    exact ⟨⟨[_], tm, rfl⟩, tv⟩
theorem P7 (N : Nat) (p0 : Aa) (p1 : Ad) (r : Bool) (h : GW N p0 p1 = some r) : Ap zA0 163 [.e (.agg (Ah p0)), .e (.agg (Dm p1))] [] (bD r) := by
 unfold GW at h
 refine cw (n := 36) (rs := [.tmp 4]) Tryz.func163 fun w0 S0 => ?_
 refine wq rfl (qb rfl (qb rfl (qa rfl (Ab (wp rfl (qf Gp rfl (ql BV rfl (Ch rfl (Ab ?_)))))))))
 refine Bb h (fun h => ?_) fun h => ?_
 ·refine wq rfl (qf FA rfl (ql BV rfl (qf Ca rfl (ql Hc rfl (AJ Dl rfl (AT rfl (qe rfl ?_)))))))
  obtain rfl := sj h
  refine Ae (sm [] [(4, bD ((decide (p1.fi < (p0.fc.length : Int)))))] [] rfl rfl) (As ?_)
  exact ⟨⟨[_], tm, rfl⟩, tv⟩
 ·refine Aj ?_
  refine AQ h (fun v2 => mk [(4, bD v2)] []) (fun j2 h => ?_) (fun v2 h => ?_)
  ·refine Ag Aw rfl (qf FA rfl (ql BV rfl (qf A7 rfl (ql A1 rfl (AJ Ar rfl (AT rfl (qm rfl ?_)))))))
   refine Eo 20 h rfl (fun h => ?_) fun h => ?_
   ·refine qf Gp rfl (ql BV rfl (BC rfl (qm rfl ?_)))
    refine Eo 24 h rfl (fun h => ?_) fun h => ?_
    ·refine qw 9 rfl (qp rfl (qp rfl (qa rfl (AO (by kernel_rfl) ?_))))
     exact sn [] h
    ·refine qf HB rfl (ql BV rfl (qf A7 rfl (ql A1 rfl (qf FA rfl (ql BV rfl ?_)))))
     refine BK h fun v5 a5 b5 h => qi Ar Cx a5 (Af b5) rfl (qk BV rfl (AT rfl (qp rfl (qp rfl (qa rfl (AO (by kernel_rfl) ?_))))))
     exact sn [] h
   ·refine qw 4 rfl (qu rfl (qu rfl (qu rfl (qu rfl (qu rfl (qu rfl (qu rfl (qu rfl (qu rfl (qn rfl (qp rfl (qa rfl (AO (by kernel_rfl) ?_)))))))))))))
    exact sn [] h
  ·obtain rfl := sj h
   refine Ae (sm [] [(4, bD v2)] [] rfl rfl) (As ?_)
   exact ⟨⟨[_], tm, rfl⟩, tv⟩
theorem RW (N : Nat) (p0 : Aa) (p1 : Ac) (p2 : Ad) (r : Ac × Int) (h : Hv N p0 p1 p2 = some r) : Ap zA0 128 [.e (.agg (Ah p0)), .e (.agg (AK p1)), .e (.agg (Dm p2))] [(1, r.1.fd.map Ak), (1, r.1.fb.map Ak), (1, r.1.fe.map DV)] (.tup [.agg [.own 0, .own 1, .own 2], .one (iC r.2)]) := by
 unfold Hv at h
 refine cw (n := 32) (rs := [.cell 6 49, .tmp 7]) Tryz.func128 fun w0 S0 => ?_
 refine wq rfl (qb rfl (qb rfl (qb rfl (qz EH rfl (qa rfl (Ab (AL (AH (wq rfl (qL JT E9 rfl ?_))))))))))
 refine BZ h fun v1 a1 h => Ax [] (Q4 N p2 v1 a1) bj rfl (CD rfl (qe rfl ?_))
 refine Bb h (fun h => ?_) fun h => ?_
 ·refine wq rfl (Bg EH Jl rfl (qs A3 rfl (qe rfl ?_)))
  obtain rfl := sj h
  refine Ae ((Aq 6 0 2001 1 _ rfl rfl rfl rfl).trans ((Aq 6 1 2002 1 _ rfl rfl rfl rfl).trans ((Aq 6 2 2003 1 _ rfl rfl rfl rfl).trans (sm [(1000, 2001), (1001, 2002), (1002, 2003)] [(6, oD (.ptr 6 0)), (7, iD 1)] [(6, .box [.own 1000, .own 1001, .own 1002]), (1000, .vec 1 ((([] : List Int)).map Ak)), (1001, .vec 1 ((([] : List Int)).map Ak)), (1002, .vec 1 ((([] : List Int)).map DV))] rfl rfl)))) (As ?_)
  exact ⟨⟨[_, _], ⟨.cellN _ _ _ _ _ _ _ rfl rfl B8 A3 rfl rfl (Jh rfl), tm⟩, rfl⟩, ⟨rfl, rfl, rfl, tv⟩⟩
 ·refine wq rfl (qL Dq Cu rfl (qL JT E9 rfl ?_))
  refine BZ h fun v3 a3 h => Ax [] (P7 N p0 p2 v3 a3) bF rfl (CD rfl (qe rfl ?_))
  refine Bb h (fun h => ?_) fun h => ?_
  ·refine wq rfl (Bg EH Jl rfl (qs A3 rfl (qe rfl ?_)))
   obtain rfl := sj h
   refine Ae ((Aq 6 0 2004 1 _ rfl rfl rfl rfl).trans ((Aq 6 1 2005 1 _ rfl rfl rfl rfl).trans ((Aq 6 2 2006 1 _ rfl rfl rfl rfl).trans (sm [(1000, 2004), (1001, 2005), (1002, 2006)] [(6, oD (.ptr 6 0)), (7, iD 4)] [(6, .box [.own 1000, .own 1001, .own 1002]), (1000, .vec 1 ((([] : List Int)).map Ak)), (1001, .vec 1 ((([] : List Int)).map Ak)), (1002, .vec 1 ((([] : List Int)).map DV))] rfl rfl)))) (As ?_)
   exact ⟨⟨[_, _], ⟨.cellN _ _ _ _ _ _ _ rfl rfl B8 A3 rfl rfl (Jh rfl), tm⟩, rfl⟩, ⟨rfl, rfl, rfl, tv⟩⟩
  ·refine Aj (wq rfl (qL Dq Cu rfl (qL B8 A3 rfl (qL JT E9 rfl ?_))))
   refine BZ h fun v5 a5 h => Ax [2007, 2008, 2009] (MY N p0 p1 p2 v5 a5) Zv rfl (qm rfl (qx rfl (qx rfl (qz EH rfl (qs A3 rfl (qa rfl (Ab (wp rfl (qm rfl (CD rfl (Ab ?_)))))))))))
   refine Bb h (fun h => ?_) fun h => ?_
   ·refine wq rfl (Bg EH Jl rfl (qs A3 rfl (qe rfl ?_)))
    obtain rfl := sj h
    refine Ae ((Aq 6 0 2010 1 _ rfl rfl rfl rfl).trans ((Aq 6 1 2011 1 _ rfl rfl rfl rfl).trans ((Aq 6 2 2012 1 _ rfl rfl rfl rfl).trans (sm [(1000, 2010), (1001, 2011), (1002, 2012)] [(6, oD (.ptr 6 0)), (7, iD 11)] [(6, .box [.own 1000, .own 1001, .own 1002]), (1000, .vec 1 ((([] : List Int)).map Ak)), (1001, .vec 1 ((([] : List Int)).map Ak)), (1002, .vec 1 ((([] : List Int)).map DV))] rfl rfl)))) (As ?_)
    exact ⟨⟨[_, _], ⟨.cellN _ _ _ _ _ _ _ rfl rfl B8 A3 rfl rfl (Jh rfl), tm⟩, rfl⟩, ⟨rfl, rfl, rfl, tv⟩⟩
   ·refine Aj (wq rfl (qL B8 A3 rfl (qs A3 rfl (qe rfl ?_))))
    obtain rfl := sj h
    refine Ae (sm [(1000, 2007), (1001, 2008), (1002, 2009)] [(6, oD (.ptr 6 0)), (7, iD 0)] [(6, .box [.own 1000, .own 1001, .own 1002]), (1000, .vec 1 (v5.1.fd.map Ak)), (1001, .vec 1 (v5.1.fb.map Ak)), (1002, .vec 1 (v5.1.fe.map DV))] rfl rfl) (As ?_)
    exact ⟨⟨[_, _], ⟨.cellN _ _ _ _ _ _ _ rfl rfl B8 A3 rfl rfl (Jh rfl), tm⟩, rfl⟩, ⟨rfl, rfl, rfl, tv⟩⟩
theorem RQ (N : Nat) (p0 : Aa) (p1 : Ac) (p2 : Ad) (r : Ac × Int) (h : Hx N p0 p1 p2 = some r) : Ap zA0 88 [.e (.agg (Ah p0)), .e (.agg (AK p1)), .e (.agg (Dm p2))] [(1, r.1.fd.map Ak), (1, r.1.fb.map Ak), (1, r.1.fe.map DV)] (.tup [.agg [.own 0, .own 1, .own 2], .one (iC r.2)]) := by
 unfold Hx at h
 refine cw (n := 22) (rs := [.cell 6 49, .tmp 7]) Tryz.func88 fun w0 S0 => ?_
 refine wq rfl (qb rfl (qb rfl (qb rfl (qz EH rfl (qa rfl (Ab (wp rfl (qL Dq Cu rfl (qL B8 A3 rfl ?_)))))))))
 refine BZ h fun v1 a1 h => Ax [] (J8 N p0 p1 v1 a1) UW rfl (qa rfl (Ab (wq rfl (qm rfl (BC rfl (Ab ?_))))))
 refine Bb h (fun h => ?_) fun h => ?_
 ·refine wq rfl (Bg EH Jl rfl (qm rfl (qs A3 rfl (qe rfl ?_))))
  obtain rfl := sj h
  refine Ae ((Aq 6 0 2001 1 _ rfl rfl rfl rfl).trans ((Aq 6 1 2002 1 _ rfl rfl rfl rfl).trans ((Aq 6 2 2003 1 _ rfl rfl rfl rfl).trans (sm [(1000, 2001), (1001, 2002), (1002, 2003)] [(6, oD (.ptr 6 0)), (7, iD v1)] [(6, .box [.own 1000, .own 1001, .own 1002]), (1000, .vec 1 ((([] : List Int)).map Ak)), (1001, .vec 1 ((([] : List Int)).map Ak)), (1002, .vec 1 ((([] : List Int)).map DV))] rfl rfl)))) (As ?_)
  exact ⟨⟨[_, _], ⟨.cellN _ _ _ _ _ _ _ rfl rfl B8 A3 rfl rfl (Jh rfl), tm⟩, rfl⟩, ⟨rfl, rfl, rfl, tv⟩⟩
 ·refine Aj (wq rfl (qL Dq Cu rfl (qL B8 A3 rfl (qL JT E9 rfl ?_))))
  refine BZ h fun v3 a3 h => Ax [2004, 2005, 2006] (RW N p0 p1 p2 v3 a3) cE rfl (qx rfl (qx rfl (qs A3 rfl (qe rfl ?_))))
  obtain rfl := sj h
  refine Ae (sm [(1000, 2004), (1001, 2005), (1002, 2006)] [(6, oD (.ptr 6 0)), (7, iD v3.2)] [(6, .box [.own 1000, .own 1001, .own 1002]), (1000, .vec 1 (v3.1.fd.map Ak)), (1001, .vec 1 (v3.1.fb.map Ak)), (1002, .vec 1 (v3.1.fe.map DV))] rfl rfl) (As ?_)
  exact ⟨⟨[_, _], ⟨.cellN _ _ _ _ _ _ _ rfl rfl B8 A3 rfl rfl (Jh rfl), tm⟩, rfl⟩, ⟨rfl, rfl, rfl, tv⟩⟩
theorem P8 (N : Nat) (p0 : Aa) (p1 : Ac) (r : (List Az) × Int) (h : GX N p0 p1 = some r) : Ap zA0 106 [.e (.agg (Ah p0)), .e (.agg (AK p1))] [] (.tup [.one (sC (r.1.map Bf)), .one (iC r.2)]) := by
 unfold GX at h
 refine cw (n := 119) (rs := [.tmp 4, .tmp 5]) Tryz.func106 fun w0 S0 => ?_
 refine wq rfl (qb rfl (qb rfl (qa rfl (qa rfl (Ab (wq rfl (qL B8 A3 rfl (Bg SE Y7 rfl ?_))))))))
 refine Mi [(0, .tmp 21, _)] (.p rfl) rfl ⟨rfl, tv⟩ rfl Hk K4 SE rfl rfl (I3 rfl) rfl rfl ?_
 refine CQ (QV 22 8 [.s, .s, .s, .s, .s, .s, .s, .x 1 []] _ ((([(Az.mk p1 ((-1)) ((Ad.mk 0 0 0)) (([] : List Int)))] : List Az)).map Bf) rfl rfl) (qa rfl (Ab (wq rfl ?_)))
 refine U9 (.p rfl) rfl ?_
 refine qL B8 A3 rfl ?_
 refine BZ h fun v1 a1 h => Ax [] (PK N p1 v1 a1) Zu rfl ?_
 refine Ph (kv := Value.string) (vt := O1) (m := ([] : List (ByteArray × Int))) (k := v1) (v := 0) rfl (.inr rfl) rfl rfl rfl rfl (N1 Rq Z1) rfl ?_
 refine qm rfl (qa rfl (Ab (wp rfl (qe rfl ?_))))
 refine AB (L := DF N p0) h (fun v2 => mk [(2, oD (.ptr 2 0)), (6, oD (.own 2001)), (7, oD (.mref 2002)), (8, iD v2.2.2)] [(2, .box (Ah p0)), (2001, .dvec 8 [.s, .s, .s, .s, .s, .s, .s, .x 1 []] (v2.1.map Bf)), (2002, .mp (F3 Value.string O1 v2.2.1))]) (fun v3 => mk [(6, oD (.own 2003))] [(2003, .dvec 8 [.s, .s, .s, .s, .s, .s, .s, .x 1 []] (v3.map Bf))]) (fun _ _ => rfl) (sm [(2001, 22), (2002, 23)] _ _ rfl rfl) (fun j2 n2 v2 h => ?_) (fun v3 s h hs => ?_)
 ·unfold DF at h
  refine wp rfl (qw 2 rfl ?_)
  refine TS (.p rfl) rfl rfl (LS Bf v2.1 _ _) Hk ?_
  refine AT rfl (Ab ?_)
  refine Bb h (fun h => ?_) fun h => ?_
  ·refine Aj (AL (AH (wq rfl (qL Dq Cu rfl (qw 2 rfl ?_)))))
   refine BK h fun v5 a5 b5 h => Nk (.p rfl) rfl rfl rfl (LS Bf v2.1 _ _) Hk K4 a5 (AF b5) ?_
   refine qh PH rfl ?_
   refine R8 (.p rfl) rfl B8 A3 rfl (Af b5) rfl rfl (by decide) rfl ?_
   refine BZ h fun v6 a6 h => Ax [2004] (Pz N p0 ((Ac.mk v5.fp.fd v5.fp.fb v5.fp.fe)) v6 a6) dm rfl (qm rfl (qx rfl (qx rfl (qa rfl (qa rfl (AO (by kernel_rfl) (wp rfl (qm rfl (BC rfl (Ab ?_))))))))))
   refine Bb h (fun h => ?_) fun h => ?_
   ·refine wq rfl (qm rfl (qa rfl (qe rfl ?_)))
    obtain rfl := sj h
    refine Ae ((O4 4 _ rfl).trans (sm [] [(4, pD (.sl ((([] : List Az)).map Bf))), (5, iD v6.2)] [] rfl rfl)) (As ?_)
    exact ⟨⟨[_, _], ⟨.tmp _ _ rfl, tm⟩, rfl⟩, tv⟩
   ·refine Aj (wq rfl (qm rfl (Ef Fa rfl (qm rfl (Ab ?_)))))
    refine AB (L := Cn N p0 v2 v6) h (fun v8 => mk [(2, oD (.ptr 2 0)), (6, oD (.own 2005)), (7, oD (.mref 2006)), (8, iD v2.2.2), (46, oD (.own 2007)), (47, iD ((v6.1.length : Int))), (48, iD v8.2.2)] [(2, .box (Ah p0)), (2005, .dvec 8 [.s, .s, .s, .s, .s, .s, .s, .x 1 []] (v8.1.map Bf)), (2006, .mp (F3 Value.string O1 v8.2.1)), (2007, .vec 3 (v6.1.map AG))]) (fun v9 => mk [(2, oD (.ptr 2 0)), (6, oD (.own 2008)), (7, oD (.mref 2009)), (8, iD v2.2.2)] [(2, .box (Ah p0)), (2008, .dvec 8 [.s, .s, .s, .s, .s, .s, .s, .x 1 []] (v9.1.map Bf)), (2009, .mp (F3 Value.string O1 v9.2))]) (fun _ _ => rfl) (sm [(2005, 2001), (2006, 2002), (2007, 2004)] _ _ rfl rfl) (fun j8 n8 v8 h => ?_) (fun v9 s h hs => ?_)
    ·unfold Cn at h
     refine wq rfl (AT rfl (Ab (AL ?_)))
     refine Bb h (fun h => ?_) fun h => ?_
     ·refine Aj (AL (AH (wq rfl ?_)))
      refine BK h fun v11 a11 b11 h => qI Fa E9 a11 (Af b11) rfl (qJ JT E9 (Af b11) rfl (qz K7 rfl (qs E9 rfl (Ab (wq rfl (qL Dq Cu rfl (qw 2 rfl ?_)))))))
      refine BK h fun v12 a12 b12 h => Nk (.p rfl) rfl rfl rfl (LS Bf v8.1 _ _) Hk K4 a12 (AF b12) ?_
      refine qh PH rfl ?_
      refine R8 (.p rfl) rfl B8 A3 rfl (Af b12) rfl rfl (by decide) rfl ?_
      refine qL JT E9 rfl ?_
      refine BZ h fun v13 a13 h => Ax [2010, 2011, 2012] (RQ N p0 ((Ac.mk v12.fp.fd v12.fp.fb v12.fp.fe)) v11 v13 a13) dj rfl (qm rfl (qx rfl (qx rfl (qz EH rfl (qs A3 rfl (qa rfl (AO (by kernel_rfl) (wp rfl (qm rfl (BC rfl (Ab ?_)))))))))))
      refine Bb h (fun h => ?_) fun h => ?_
      ·refine wq rfl (qm rfl (qa rfl (qe rfl ?_)))
       obtain rfl := sj h
       refine Ae ((O4 4 _ rfl).trans (sm [] [(4, pD (.sl ((([] : List Az)).map Bf))), (5, iD v13.2)] [] rfl rfl)) (As ?_)
       exact ⟨⟨[_, _], ⟨.tmp _ _ rfl, tm⟩, rfl⟩, tv⟩
      ·refine Aj (wq rfl (qL B8 A3 rfl ?_))
       refine BZ h fun v15 a15 h => EK [] [2010, 2011, 2012] (PK N v13.1 v15 a15) Zu C1 rfl (qa rfl (Ab (wq rfl (qw 2 rfl ?_))))
       refine VQ (kv := Value.string) (vt := O1) (m := v8.2.1) (dv := 0) (.p rfl) rfl rfl rfl (N1 Rq Z1) (by rw [Rq]; rfl) IT rfl rfl rfl ?_
       refine qm rfl (qx rfl (qx rfl (qa rfl (qe rfl ?_))))
       refine AQ h (fun v16 => mk [(2, oD (.ptr 2 0)), (6, oD (.own 2013)), (7, oD (.mref 2014)), (8, iD v2.2.2), (16, iD v16.2.2), (46, oD (.own 2015)), (47, iD ((v6.1.length : Int))), (48, iD v8.2.2)] [(2, .box (Ah p0)), (2013, .dvec 8 [.s, .s, .s, .s, .s, .s, .s, .x 1 []] (v16.1.map Bf)), (2014, .mp (F3 Value.string O1 v16.2.1)), (2015, .vec 3 (v6.1.map AG))]) (fun j16 h => ?_) (fun v16 h => ?_)
       ·refine wq rfl (qm rfl (CD rfl (Ab ?_)))
        refine Bb h (fun h => ?_) fun h => ?_
        ·refine AQ h (fun v18 => mk [(2, oD (.ptr 2 0)), (6, oD (.own 2016)), (7, oD (.mref 2017)), (8, iD v2.2.2), (15, pD (.val (.string v15))), (16, iD v18.2), (46, oD (.own 2018)), (47, iD ((v6.1.length : Int))), (48, iD v8.2.2)] [(2, .box (Ah p0)), (2016, .dvec 8 [.s, .s, .s, .s, .s, .s, .s, .x 1 []] (v18.1.map Bf)), (2017, .mp (F3 Value.string O1 v8.2.1)), (2018, .vec 3 (v6.1.map AG))]) (fun j18 h => ?_) (fun v18 h => ?_)
         ·refine wq rfl (qL Dq Cu rfl (qL B8 A3 rfl ?_))
          refine BZ h fun v19 a19 h => EK [] [2010, 2011, 2012] (Nt N p0 v13.1 v19 a19) cN C1 rfl (qm rfl (qx rfl (qx rfl (qa rfl (qe rfl ?_)))))
          refine AQ h (fun v20 => mk [(2, oD (.ptr 2 0)), (6, oD (.own 2022)), (7, oD (.mref 2023)), (8, iD v2.2.2), (12, oD (.ptr 12 0)), (13, oD (.ptr 13 0)), (15, pD (.val (.string v15))), (46, oD (.own 2024)), (47, iD ((v6.1.length : Int))), (48, iD v8.2.2), (87, bD v20)] [(2, .box (Ah p0)), (12, .box (Dm v11)), (13, .box [.own 2019, .own 2020, .own 2021]), (2019, .vec 1 (v13.1.fd.map Ak)), (2020, .vec 1 (v13.1.fb.map Ak)), (2021, .vec 1 (v13.1.fe.map DV)), (2022, .dvec 8 [.s, .s, .s, .s, .s, .s, .s, .x 1 []] (v8.1.map Bf)), (2023, .mp (F3 Value.string O1 v8.2.1)), (2024, .vec 3 (v6.1.map AG))]) (fun j20 h => ?_) (fun v20 h => ?_)
          ·refine Ag Aw rfl (qm rfl (BC rfl (qm rfl ?_)))
           refine Eo 84 h rfl (fun h => ?_) fun h => ?_
           ·refine qw 2 rfl (qp rfl (Ab ?_))
            exact sn [(2019, 2010), (2020, 2011), (2021, 2012), (2022, 2005), (2023, 2006), (2024, 2007)] h
           ·refine qm rfl (CD rfl (qp rfl (Ab ?_)))
            exact sn [(2019, 2010), (2020, 2011), (2021, 2012), (2022, 2005), (2023, 2006), (2024, 2007)] h
          ·refine Bb h (fun h => ?_) fun h => ?_
           ·refine Ag Aw rfl (qe rfl ?_)
            exact sn [(2016, 2022), (2017, 2023), (2018, 2024)] h
           ·refine wq rfl (qm rfl ?_)
            refine TS (.p rfl) rfl rfl (LS Bf v8.1 _ _) Hk ?_
            refine qa rfl (Ab (Ag Aw rfl (qm rfl (qL B8 A3 rfl (qm rfl (qL JT E9 rfl (Bg SE Y7 rfl (CQ (A9 2019 _ _ rfl rfl) (CQ (A9 2020 _ _ rfl rfl) (CQ (A9 2021 _ _ rfl rfl) ?_))))))))))
            refine Mi [(0, .tmp 94, _)] (.p rfl) rfl ⟨rfl, tv⟩ rfl Hk K4 SE rfl rfl (I3 rfl) rfl rfl ?_
            refine CQ (QV 95 8 [.s, .s, .s, .s, .s, .s, .s, .x 1 []] _ ((([(Az.mk v13.1 v2.2.2 v11 (([] : List Int)))] : List Az)).map Bf) rfl rfl) ?_
            refine FT h fun c23 h => Vr (.p rfl) rfl rfl rfl rfl rfl (by decide) Hk Hk K4 ZX (I3 rfl) SE rfl (YF (f := Bf) (g := Bf) (xs := v8.1) (ys := (([(Az.mk v13.1 v2.2.2 v11 (([] : List Int)))] : List Az))) c23) (Ym Bf v8.1 (([(Az.mk v13.1 v2.2.2 v11 (([] : List Int)))] : List Az))) rfl rfl ?_
            refine qa rfl (Ab ?_)
            exact sn [(2016, 96), (2017, 2023), (2018, 2024)] h
         ·refine Ag Aw rfl (qw 3 rfl ?_)
          refine Ph (kv := Value.string) (vt := O1) (m := v8.2.1) (k := v15) (v := v18.2) rfl (.inl rfl) rfl rfl rfl rfl (N1 Rq Z1) rfl ?_
          refine Ab ?_
          exact sn [(2013, 2016), (2014, 2017), (2015, 2018)] h
        ·refine Aj ?_
         exact sn [(2013, 2005), (2014, 2006), (2015, 2007)] h
       ·refine AQ h (fun v24 => mk [(2, oD (.ptr 2 0)), (6, oD (.own 2025)), (7, oD (.mref 2026)), (8, iD v2.2.2), (46, oD (.own 2027)), (47, iD ((v6.1.length : Int))), (48, iD v8.2.2)] [(2, .box (Ah p0)), (2025, .dvec 8 [.s, .s, .s, .s, .s, .s, .s, .x 1 []] (v24.map Bf)), (2026, .mp (F3 Value.string O1 v16.2.1)), (2027, .vec 3 (v6.1.map AG))]) (fun j24 h => ?_) (fun v24 h => ?_)
        ·refine wq rfl (qm rfl (E0 rfl (Ab ?_)))
         refine Bb h (fun h => ?_) fun h => ?_
         ·refine Ag Aw rfl (qw 4 rfl ?_)
          refine BK h fun v26 a26 b26 h => Nk (.p rfl) rfl rfl rfl (LS Bf v16.1 _ _) Hk K4 a26 (AF b26) ?_
          refine qh Tj rfl ?_
          refine ad (.p rfl) rfl A1 rfl (Af b26) rfl rfl rfl rfl ?_
          refine qm rfl (Dp Ar Cx IT rfl ?_)
          refine FT h fun c27 h => Cy (f := Ak) Ar Ar Cx JU IT c27 rfl ?_
          refine BK h fun v28 a28 b28 h => Nk (.p rfl) rfl rfl rfl (ag Bf v16.1 _ _ _ _ _) Hk K4 a28 (AF b28) ?_
          refine qh Tj rfl ?_
          refine WG rfl rfl rfl rfl (rows2 := (v26.fb ++ (([v16.2.2] : List Int))).map Ak) (cols2 := []) rfl rfl (Af b28) (by decide) G8 rfl rfl (Dr Bf v16.1 _ ((Az.mk ((Ac.mk v28.fp.fd v28.fp.fb v28.fp.fe)) v28.ff ((Ad.mk v28.fu.fg v28.fu.fi v28.fu.fo)) (v26.fb ++ (([v16.2.2] : List Int)))))) ?_
          refine Ab ?_
          exact sn [(2025, 2013), (2026, 2014), (2027, 2015)] h
         ·refine Aj ?_
          exact sn [(2025, 2013), (2026, 2014), (2027, 2015)] h
        ·refine wq rfl (qm rfl ?_)
         refine TS (.p rfl) rfl rfl (LS Bf v24 _ _) Hk ?_
         refine GB rfl (Ab ?_)
         refine Bb h (fun h => ?_) fun h => ?_
         ·refine wq rfl (qa rfl (qe rfl ?_))
          obtain rfl := sj h
          refine Ae ((O4 4 _ rfl).trans (sm [] [(4, pD (.sl ((([] : List Az)).map Bf))), (5, iD 3)] [] rfl rfl)) (As ?_)
          exact ⟨⟨[_, _], ⟨.tmp _ _ rfl, tm⟩, rfl⟩, tv⟩
         ·refine Aj (Ag Aw rfl (AX rfl (qm rfl (Ab ?_))))
          exact sn [(2005, 2025), (2006, 2026), (2007, 2027)] h
     ·refine AS ?_
      exact sn [(2008, 2005), (2009, 2006)] h
    ·refine Ae hs (Ag Aw rfl (qm rfl (AX rfl (qe rfl ?_))))
     exact sn [(2001, 2008), (2002, 2009)] h
  ·refine AS ?_
   exact sn [(2003, 2001)] h
 ·refine Ae hs (wq rfl (qm rfl (qa rfl (qe rfl ?_))))
  obtain rfl := sj h
  refine Ae ((VG 2003 _ _ _ rfl rfl).trans (sm [] [(4, pD (.sl (v3.map Bf))), (5, iD 0)] [] rfl rfl)) (As ?_)
  exact ⟨⟨[_, _], ⟨.tmp _ _ rfl, tm⟩, rfl⟩, tv⟩
theorem KF (N : Nat) (p0 : List Int) (p1 : List Int) (r : Bool) (h : D5 N p0 p1 = some r) : Ap zA0 25 [pD (.sl (p0.map Ak)), pD (.sl (p1.map Ak))] [] (bD r) := by
 unfold D5 at h
 refine cw (n := 26) (rs := [.tmp 4]) Tryz.func25 fun w0 S0 => ?_
 refine wq rfl (qa rfl (Ab (wp rfl (qm rfl (AJ Ar rfl (qm rfl (AJ Ar rfl (BC rfl (Ab ?_)))))))))
 refine Bb h (fun h => ?_) fun h => ?_
 ·refine wq rfl (qe rfl ?_)
  obtain rfl := sj h
  refine Ae (sm [] [(4, bD false)] [] rfl rfl) (As ?_)
  exact ⟨⟨[_], tm, rfl⟩, tv⟩
 ·refine Aj (wp rfl (qm rfl (AJ Ar rfl (qm rfl (Ab ?_)))))
  refine AB (L := B9 N p0 p1) h (fun v2 => mk [(0, pD (.sl (p0.map Ak))), (1, pD (.sl (p1.map Ak))), (12, iD ((p0.length : Int))), (13, iD v2)] []) (fun v3 => mk [] []) (fun _ _ => rfl) (sm [] _ _ rfl rfl) (fun j2 n2 v2 h => ?_) (fun v3 s h hs => ?_)
  ·unfold B9 at h
   refine wq rfl (AT rfl (Ab (AL ?_)))
   refine Bb h (fun h => ?_) fun h => ?_
   ·refine Aj (AL (AH (wq rfl (qm rfl (qa rfl (Ab (wq rfl (qw 2 rfl ?_))))))))
    refine BK h fun v5 a5 b5 h => qi Ar Cx a5 (Af b5) rfl (qk BV rfl (qw 2 rfl ?_))
    refine BK h fun v6 a6 b6 h => qi Ar Cx a6 (Af b6) rfl (qk BV rfl (BC rfl (AO (by kernel_rfl) ?_)))
    refine Bb h (fun h => ?_) fun h => ?_
    ·refine wq rfl (qe rfl ?_)
     obtain rfl := sj h
     refine Ae (sm [] [(4, bD false)] [] rfl rfl) (As ?_)
     exact ⟨⟨[_], tm, rfl⟩, tv⟩
    ·refine Aj (Ag Aw rfl (AX rfl (qm rfl (Ab ?_))))
     exact sn [] h
   ·refine AS ?_
    exact sn [] h
  ·refine Ae hs (wq rfl (qe rfl ?_))
   obtain rfl := sj h
   refine Ae (sm [] [(4, bD true)] [] rfl rfl) (As ?_)
   exact ⟨⟨[_], tm, rfl⟩, tv⟩
theorem Jr (N : Nat) (p0 : List Int) (p1 : Int → Option Bool) (r : Int) (h : D7 N p0 p1 = some r) : Ap zA0 157 [pD (.sl (p0.map Ak)), oD (.clo (Hn (Lc false Ak) tB p1))] [] (iD r) := by
 unfold D7 at h
 refine cw (n := 19) (rs := [.tmp 4]) Tryz.func157 fun w0 S0 => ?_
 refine wq rfl (qa rfl (Ab (wp rfl (qm rfl (AJ Ar rfl (qm rfl (Ab ?_)))))))
 refine AB (L := Bj N p0 p1) h (fun v1 => mk [(0, pD (.sl (p0.map Ak))), (1, oD (.clo (Hn (Lc false Ak) tB p1))), (7, iD ((p0.length : Int))), (8, iD v1)] []) (fun v2 => mk [] []) (fun _ _ => rfl) (sm [] _ _ rfl rfl) (fun j1 n1 v1 h => ?_) (fun v2 s h hs => ?_)
 ·unfold Bj at h
  refine wq rfl (AT rfl (Ab (AL ?_)))
  refine Bb h (fun h => ?_) fun h => ?_
  ·refine Aj (AL (AH (wq rfl (qm rfl (qa rfl (Ab (wq rfl (qw 3 rfl ?_))))))))
   refine BK h fun v4 a4 b4 h => qi Ar Cx a4 (Af b4) rfl (qk BV rfl ?_)
   refine BZ h fun v5 a5 h => KO (ds0 := [_]) (ar := (Lc false Ak) v4) (.p rfl) rfl rfl ⟨rfl, tv⟩ rfl rfl rfl (J3 (KT _ _ RD) a5) ?_
   refine Ab ?_
   refine Bb h (fun h => ?_) fun h => ?_
   ·refine wq rfl (qm rfl (qe rfl ?_))
    obtain rfl := sj h
    refine Ae (sm [] [(4, iD v1)] [] rfl rfl) (As ?_)
    exact ⟨⟨[_], tm, rfl⟩, tv⟩
   ·refine Aj (Ag Aw rfl (AX rfl (qm rfl (Ab ?_))))
    exact sn [] h
  ·refine AS ?_
   exact sn [] h
 ·refine Ae hs (wq rfl (qe rfl ?_))
  obtain rfl := sj h
  refine Ae (sm [] [(4, iD ((-1)))] [] rfl rfl) (As ?_)
  exact ⟨⟨[_], tm, rfl⟩, tv⟩
theorem IM (N : Nat) (p0 : List Int) (p1 : Int → Option Bool) (r : Bool) (h : CM N p0 p1 = some r) : Ap zA0 121 [pD (.sl (p0.map Ak)), oD (.clo (Hn (Lc false Ak) tB p1))] [] (bD r) := by
 unfold CM at h
 refine cw (n := 9) (rs := [.tmp 4]) Tryz.func121 fun w0 S0 => ?_
 refine wq rfl (qa rfl (Ab (wq rfl (qw 2 rfl ?_))))
 refine BZ h fun v1 a1 h => Ax [] (Jr N p0 p1 v1 a1) aT rfl (E0 rfl (qe rfl ?_))
 obtain rfl := sj h
 refine Ae (sm [] [(4, bD ((decide (0 ≤ v1))))] [] rfl rfl) (As ?_)
 exact ⟨⟨[_], tm, rfl⟩, tv⟩
theorem RK (N : Nat) (p0 : Int) (r : Bool) (h : Hs N p0 = some r) : Ap zA0 122 [iD p0] [] (bD r) := by
 unfold Hs at h
 refine cw (n := 5) (rs := [.tmp 2]) Tryz.func122 fun w0 S0 => ?_
 refine wq rfl (qa rfl (Ab (wq rfl (qm rfl (E0 rfl (qe rfl ?_))))))
 obtain rfl := sj h
 refine Ae (sm [] [(2, bD ((decide (0 ≤ p0))))] [] rfl rfl) (As ?_)
 exact ⟨⟨[_], tm, rfl⟩, tv⟩
theorem TX (N : Nat) (p0 : Aa) (p1 : Ac) (r : Bool) (h : IR N p0 p1 = some r) : Ap zA0 85 [.e (.agg (Ah p0)), .e (.agg (AK p1))] [] (bD r) := by
 unfold IR at h
 refine cw (n := 22) (rs := [.tmp 4]) Tryz.func85 fun w0 S0 => ?_
 refine wq rfl (qb rfl (qb rfl (qe rfl ?_)))
 refine AQ h (fun v1 => mk [(4, bD v1)] []) (fun j1 h => ?_) (fun v1 h => ?_)
 ·refine Ag Aw rfl (qL Dq Cu rfl (qL B8 A3 rfl ?_))
  refine BZ h fun v2 a2 h => Ax [] (J8 N p0 p1 v2 a2) UW rfl (Ch rfl (qm rfl ?_))
  refine Eo 9 h rfl (fun h => ?_) fun h => ?_
  ·refine qf Db rfl (ql A1 rfl (qf GP rfl (ql A1 rfl ?_)))
   refine BZ h fun v4 a4 h => Ax [] (KF N p1.fd p0.fq v4 a4) dq rfl (qp rfl (qm rfl ?_))
   refine Eo 16 h rfl (fun h => ?_) fun h => ?_
   ·refine qf BO rfl (ql A1 rfl ?_)
    refine BZ h fun v6 a6 h => Ax [] (Ap.weak (ds' := [pD (.sl (p1.fb.map Ak)), oD (.fnc 122)]) (IM N p1.fb ((fun (x : Int) => Hs N x)) v6 a6) ⟨(fun _ _ _ hh => hh), (fun _ _ _ hh => Ur bU (fun ar t ht => by obtain ⟨x, r, rfl, hq, rfl⟩ := HT ht; exact RK N x r hq) hh), tv⟩) bg rfl ?_
    refine CD rfl (qp rfl (qe rfl ?_))
    exact sn [] h
   ·refine qw 4 rfl (qp rfl (qe rfl ?_))
    exact sn [] h
  ·refine qw 5 rfl (qp rfl (qw 5 rfl (qp rfl (qe rfl ?_))))
   exact sn [] h
 ·obtain rfl := sj h
  refine Ae (sm [] [(4, bD v1)] [] rfl rfl) (As ?_)
  exact ⟨⟨[_], tm, rfl⟩, tv⟩
theorem PX (N : Nat) (p0 : Az) (p1 : List Int) (p2 : List Int) (p3 : List Int) (p4 : List Al) (r : Bool) (h : EN N p0 p1 p2 p3 p4 = some r) : Ap zA0 108 [.e (.agg (VF p0)), oD (.rop [.sl (p1.map Ak), .sl (p2.map Ak), .sl (p3.map Ak), .sl (p4.map AM)])] [] (bD r) := by
 unfold EN at h
 refine cw (n := 8) (rs := [.tmp 3]) Tryz.func108 fun w0 S0 => ?_
 refine wq rfl (qb rfl (qa rfl (Ab (wq rfl (qK Dq Cu rfl (qf PH rfl (qL B8 A3 rfl ?_)))))))
 refine BZ h fun v1 a1 h => Ax [] (TX N ((Aa.mk p1 p2 p3 p4)) ((Ac.mk p0.fp.fd p0.fp.fb p0.fp.fe)) v1 a1) dA rfl (qe rfl ?_)
 obtain rfl := sj h
 refine Ae (sm [] [(3, bD v1)] [] rfl rfl) (As ?_)
 exact ⟨⟨[_], tm, rfl⟩, tv⟩
theorem GU (N : Nat) (p0 : List Az) (p1 : Az → Option Bool) (r : Int) (h : Ci N p0 p1 = some r) : Ap zA0 107 [pD (.sl (p0.map Bf)), oD (.clo (Hn (Lc true Bf) tB p1))] [] (iD r) := by
 unfold Ci at h
 refine cw (n := 19) (rs := [.tmp 4]) Tryz.func107 fun w0 S0 => ?_
 refine wq rfl (qa rfl (Ab (wp rfl (qm rfl (AJ Hk rfl (qm rfl (Ab ?_)))))))
 refine AB (L := AU N p0 p1) h (fun v1 => mk [(0, pD (.sl (p0.map Bf))), (1, oD (.clo (Hn (Lc true Bf) tB p1))), (7, iD ((p0.length : Int))), (8, iD v1)] []) (fun v2 => mk [] []) (fun _ _ => rfl) (sm [] _ _ rfl rfl) (fun j1 n1 v1 h => ?_) (fun v2 s h hs => ?_)
 ·unfold AU at h
  refine wq rfl (AT rfl (Ab (AL ?_)))
  refine Bb h (fun h => ?_) fun h => ?_
  ·refine Aj (AL (AH (wq rfl (qm rfl (qa rfl (Ab (wq rfl (qw 3 rfl ?_))))))))
   refine BK h fun v4 a4 b4 h => qi Hk K4 a4 (Af b4) rfl (qK cn K4 rfl ?_)
   refine BZ h fun v5 a5 h => KO (ds0 := [_]) (ar := (Lc true Bf) ((Az.mk ((Ac.mk v4.fp.fd v4.fp.fb v4.fp.fe)) v4.ff ((Ad.mk v4.fu.fg v4.fu.fi v4.fu.fo)) v4.fb))) (.p rfl) rfl rfl ⟨rfl, tv⟩ rfl rfl rfl (J3 (KT _ _ Sl) a5) ?_
   refine Ab ?_
   refine Bb h (fun h => ?_) fun h => ?_
   ·refine wq rfl (qm rfl (qe rfl ?_))
    obtain rfl := sj h
    refine Ae (sm [] [(4, iD v1)] [] rfl rfl) (As ?_)
    exact ⟨⟨[_], tm, rfl⟩, tv⟩
   ·refine Aj (Ag Aw rfl (AX rfl (qm rfl (Ab ?_))))
    exact sn [] h
  ·refine AS ?_
   exact sn [] h
 ·refine Ae hs (wq rfl (qe rfl ?_))
  obtain rfl := sj h
  refine Ae (sm [] [(4, iD ((-1)))] [] rfl rfl) (As ?_)
  exact ⟨⟨[_], tm, rfl⟩, tv⟩
theorem HH (N : Nat) (p0 : List Ad) (r : (List Ad)) (h : Bx N p0 = some r) : Ex zA0 139 [oD (.own 90000)] [(.vec 3 (p0.map AG), .vec 3 (r.map AG))] [] (.tup []) := by
 unfold Bx at h
 refine G1 (n := 28) (rs := []) Tryz.func139 rfl rfl rfl (I3 rfl) (I3 rfl) rfl rfl (I3 rfl) rfl (I3 rfl) fun w0 S0 GL => bH ?_
 refine Ae (sm [] [(0, oD (.own 90000))] [(90000, .vec 3 (p0.map AG))] rfl rfl) (wq rfl (qm rfl (Ef Fa rfl (J4 rfl (qa rfl (qe rfl ?_))))))
 refine AB (L := Bh N) h (fun v1 => mk [(0, oD (.own 90000)), (2, iD v1.2.1), (3, iD v1.2.2)] [(90000, .vec 3 (v1.1.map AG))]) (fun v2 => mk [] [(90000, .vec 3 (v2.map AG))]) (fun _ _ => rfl) (sm [] _ _ rfl rfl) (fun j1 n1 v1 h => ?_) (fun v2 s h hs => ?_)
 ·unfold Bh at h
  refine wp rfl (qw 2 rfl (AT rfl (Ab ?_)))
  refine Bb h (fun h => ?_) fun h => ?_
  ·refine Aj (AL (AH (Ag Aw rfl (qw 6 rfl ?_))))
   refine BK h fun v4 a4 b4 h => qI Fa E9 a4 (Af b4) rfl (qJ JT E9 (Af b4) rfl (qw 2 rfl ?_))
   refine BK h fun v5 a5 b5 h => qI Fa E9 a5 (Af b5) rfl (qJ JT E9 (Af b5) rfl ?_)
   refine BK h fun v6 a6 b6 h => qI Fa E9 a6 (Af b6) rfl ?_
   refine Dy rfl rfl rfl rfl (Af b6) rfl E9 rfl (I3 rfl) (Dr AG v1.1 _ v4) ?_
   refine BK h fun v7 a7 b7 h => qI Fa E9 a7 (Af b7) rfl ?_
   refine Dy rfl rfl rfl rfl (Af b7) rfl E9 rfl (I3 rfl) (Dr AG (v1.1.set ((v1.2.1).toNat) v4) _ v5) ?_
   refine AO (by kernel_rfl) (Ag Aw rfl (qm rfl (AX rfl (qm rfl (J4 rfl (qa rfl (qe rfl ?_)))))))
   exact sn [] h
  ·refine AS ?_
   exact sn [] h
 ·obtain rfl := sj h
  refine ⟨_, hs.trans (sm [] [] [(90000, .vec 3 (v2.map AG))] rfl rfl), ?_⟩
  exact ⟨⟨[], tv, rfl⟩, ⟨rfl, tv⟩, tv⟩
theorem TH (N : Nat) (p0 : List Az) (p1 : Int) (r : (List Ad)) (h : JY N p0 p1 = some r) : Ap zA0 109 [pD (.sl (p0.map Bf)), iD p1] [(3, r.map AG)] (oD (.own 0)) := by
 unfold JY at h
 refine cw (n := 28) (rs := [.tmp 4]) Tryz.func109 fun w0 S0 => ?_
 refine wq rfl (qa rfl (Ab (wq rfl (qa rfl (Ab (AL ?_))))))
 refine AB (L := F6 N p0) h (fun v1 => mk [(0, pD (.sl (p0.map Bf))), (1, iD v1.1), (5, oD (.own 2001))] [(2001, .vec 3 (v1.2.map AG))]) (fun v2 => mk [(5, oD (.own 2002))] [(2002, .vec 3 (v2.map AG))]) (fun _ _ => rfl) ((A6 5 2003 3 rfl rfl rfl).trans (sm [(2001, 2003)] _ _ rfl rfl)) (fun j1 n1 v1 h => ?_) (fun v2 s h hs => ?_)
 ·unfold F6 at h
  refine wp rfl (qw 2 rfl ?_)
  refine BK h fun v3 a3 b3 h => qi Hk K4 a3 (Af b3) rfl (qg SB rfl (qk BV rfl (E0 rfl (Ab ?_))))
  refine Bb h (fun h => ?_) fun h => ?_
  ·refine Aj (AL (AH (Ag Aw rfl (qw 3 rfl ?_))))
   refine BK h fun v5 a5 b5 h => qi Hk K4 a5 (Af b5) rfl (qg VO rfl (qK JT E9 rfl (Dp Fa E9 K7 rfl ?_)))
   refine FT h fun c6 h => Cy (f := AG) Fa Fa E9 SW K7 c6 rfl (qa rfl (Ab (Ag Aw rfl (qw 2 rfl ?_))))
   refine BK h fun v7 a7 b7 h => qi Hk K4 a7 (Af b7) rfl (qg SB rfl (qk BV rfl (qe rfl ?_)))
   exact sn [(2001, 24)] h
  ·refine AS ?_
   exact sn [(2002, 2001)] h
 ·refine Ae hs (wq rfl (qm rfl ?_))
  refine BZ h fun v8 a8 h => LT (ds0 := [_]) [2002] [] [true] (HH N v2 v8 a8) (.p rfl) cO rfl ⟨rfl, tv⟩ rfl rfl (by decide) ⟨rfl, tv⟩ rfl (Gg rfl) tv ⟨(fun h => by cases h), tv⟩ rfl rfl rfl ?_
  refine Ab (wq rfl (qm rfl (qe rfl ?_)))
  obtain rfl := sj h
  refine Ae (sm [(1000, 2002)] [(4, oD (.own 1000))] [(1000, .vec 3 (v8.map AG))] rfl rfl) (As ?_)
  exact ⟨⟨[_], tm, rfl⟩, ⟨rfl, tv⟩⟩
theorem R7 (N : Nat) (p0 : Aa) (p1 : Ac) (r : (List Ad) × Int) (h : FM N p0 p1 = some r) : Ap zA0 75 [.e (.agg (Ah p0)), .e (.agg (AK p1))] [(3, r.1.map AG)] (.tup [.one (.own 0), .one (iC r.2)]) := by
 unfold FM at h
 refine cw (n := 38) (rs := [.tmp 4, .tmp 5]) Tryz.func75 fun w0 S0 => ?_
 refine wq rfl (qb rfl (qb rfl (qa rfl (qa rfl (Ab (wq rfl (qL Dq Cu rfl (qL B8 A3 rfl ?_))))))))
 refine BZ h fun v1 a1 h => Ax [] (Nt N p0 p1 v1 a1) cN rfl (qm rfl (qx rfl (qx rfl (qa rfl (qa rfl (Ab (wp rfl (qm rfl (BC rfl (Ab ?_))))))))))
 refine Bb h (fun h => ?_) fun h => ?_
 ·refine wq rfl (qm rfl (qa rfl (qe rfl ?_)))
  obtain rfl := sj h
  refine Ae ((A6 4 2001 3 rfl rfl rfl).trans (sm [(1000, 2001)] [(4, oD (.own 1000)), (5, iD v1.2)] [(1000, .vec 3 ((([] : List Ad)).map AG))] rfl rfl)) (As ?_)
  exact ⟨⟨[_, _], ⟨.tmp _ _ rfl, tm⟩, rfl⟩, ⟨rfl, tv⟩⟩
 ·refine Aj (wp rfl (qm rfl (CD rfl (Ab ?_))))
  refine Bb h (fun h => ?_) fun h => ?_
  ·refine wq rfl (qa rfl (qe rfl ?_))
   obtain rfl := sj h
   refine Ae ((A6 4 2002 3 rfl rfl rfl).trans (sm [(1000, 2002)] [(4, oD (.own 1000)), (5, iD 13)] [(1000, .vec 3 ((([] : List Ad)).map AG))] rfl rfl)) (As ?_)
   exact ⟨⟨[_, _], ⟨.tmp _ _ rfl, tm⟩, rfl⟩, ⟨rfl, tv⟩⟩
  ·refine Aj (wq rfl (qL Dq Cu rfl (qL B8 A3 rfl ?_)))
   refine BZ h fun v4 a4 h => Ax [] (P8 N p0 p1 v4 a4) cp rfl (qm rfl (qx rfl (qx rfl (qa rfl (qa rfl (Ab (wp rfl (qm rfl (BC rfl (Ab ?_))))))))))
   refine Bb h (fun h => ?_) fun h => ?_
   ·refine wq rfl (qm rfl (qa rfl (qe rfl ?_)))
    obtain rfl := sj h
    refine Ae ((A6 4 2003 3 rfl rfl rfl).trans (sm [(1000, 2003)] [(4, oD (.own 1000)), (5, iD v4.2)] [(1000, .vec 3 ((([] : List Ad)).map AG))] rfl rfl)) (As ?_)
    exact ⟨⟨[_, _], ⟨.tmp _ _ rfl, tm⟩, rfl⟩, ⟨rfl, tv⟩⟩
   ·refine Aj (wq rfl (qm rfl (CQ (H2 2 [.sl (p0.fa.map Ak), .sl (p0.fh.map Ak), .sl (p0.fq.map Ak), .sl (p0.fc.map AM)] rfl rfl) ?_)))
    refine Ip (capD := [_]) (Hn (Lc true Bf) tB ((fun (x : Az) => EN N x p0.fa p0.fh p0.fq p0.fc))) (.p rfl) bm rfl ⟨rfl, tv⟩ rfl (fun ar t ht => by obtain ⟨x, r, rfl, hq, rfl⟩ := HT ht; exact PX N x p0.fa p0.fh p0.fq p0.fc r hq) ?_
    refine BZ h fun v6 a6 h => Ax [] (GU N v4.1 ((fun (x : Az) => EN N x p0.fa p0.fh p0.fq p0.fc)) v6 a6) ct rfl (qa rfl (Ab (wp rfl (qm rfl (AT rfl (Ab ?_))))))
    refine Bb h (fun h => ?_) fun h => ?_
    ·refine wq rfl (qa rfl (qe rfl ?_))
     obtain rfl := sj h
     refine Ae ((A6 4 2004 3 rfl rfl rfl).trans (sm [(1000, 2004)] [(4, oD (.own 1000)), (5, iD 14)] [(1000, .vec 3 ((([] : List Ad)).map AG))] rfl rfl)) (As ?_)
     exact ⟨⟨[_, _], ⟨.tmp _ _ rfl, tm⟩, rfl⟩, ⟨rfl, tv⟩⟩
    ·refine Aj (wq rfl (qw 2 rfl ?_))
     refine BZ h fun v8 a8 h => Ax [2005] (TH N v4.1 v6 v8 a8) aY rfl (qa rfl (qe rfl ?_))
     obtain rfl := sj h
     refine Ae (sm [(1000, 2005)] [(4, oD (.own 1000)), (5, iD 0)] [(1000, .vec 3 (v8.map AG))] rfl rfl) (As ?_)
     exact ⟨⟨[_, _], ⟨.tmp _ _ rfl, tm⟩, rfl⟩, ⟨rfl, tv⟩⟩
theorem Td (N : Nat) (p0 : Aa) (r : (List Ad) × Int) (h : Gk N p0 = some r) : Ap zA0 40 [.e (.agg (Ah p0))] [(3, r.1.map AG)] (.tup [.one (.own 0), .one (iC r.2)]) := by
 unfold Gk at h
 refine cw (n := 19) (rs := [.tmp 2, .tmp 3]) Tryz.func40 fun w0 S0 => ?_
 refine wq rfl (qb rfl (qa rfl (qa rfl (Ab (wq rfl (qL Dq Cu rfl ?_))))))
 refine BZ h fun v1 a1 h => Ax [2001, 2002, 2003] (Tl N p0 v1 a1) dZ rfl (qm rfl (qx rfl (qx rfl (qz EH rfl (qs A3 rfl (qa rfl (Ab (wp rfl (qm rfl (BC rfl (Ab ?_)))))))))))
 refine Bb h (fun h => ?_) fun h => ?_
 ·refine wq rfl (qm rfl (qa rfl (qe rfl ?_)))
  obtain rfl := sj h
  refine Ae ((A6 2 2004 3 rfl rfl rfl).trans (sm [(1000, 2004)] [(2, oD (.own 1000)), (3, iD v1.2)] [(1000, .vec 3 ((([] : List Ad)).map AG))] rfl rfl)) (As ?_)
  exact ⟨⟨[_, _], ⟨.tmp _ _ rfl, tm⟩, rfl⟩, ⟨rfl, tv⟩⟩
 ·refine Aj (wq rfl (qL Dq Cu rfl (qL B8 A3 rfl ?_)))
  refine BZ h fun v3 a3 h => EK [2005] [2001, 2002, 2003] (R7 N p0 v1.1 v3 a3) dy (KL (fun _ => rfl) C1) rfl (qx rfl (qx rfl (qa rfl (qe rfl ?_))))
  obtain rfl := sj h
  refine Ae (sm [(1000, 2005)] [(2, oD (.own 1000)), (3, iD v3.2)] [(1000, .vec 3 (v3.1.map AG))] rfl rfl) (As ?_)
  exact ⟨⟨[_, _], ⟨.tmp _ _ rfl, tm⟩, rfl⟩, ⟨rfl, tv⟩⟩
theorem Ms (N : Nat) (p0 : Aa) (p1 : List Int) (r : Bool × Int) (h : Fs N p0 p1 = some r) : Ap zA0 12 [.e (.agg (Ah p0)), pD (.sl (p1.map Ak))] [] (.tup [.one (.pure (.val (.bool r.1))), .one (iC r.2)]) := by
 unfold Fs at h
 refine cw (n := 36) (rs := [.tmp 4, .tmp 5]) Tryz.func12 fun w0 S0 => ?_
 refine wq rfl (qb rfl (qa rfl (qa rfl (Ab (wp rfl (qL Dq Cu rfl ?_))))))
 refine BZ h fun v1 a1 h => Ax [] (EQ N p0 v1 a1) Xc rfl (qa rfl (Ab (wq rfl (qm rfl (BC rfl (Ab ?_))))))
 refine Bb h (fun h => ?_) fun h => ?_
 ·refine wq rfl (qm rfl (qa rfl (qe rfl ?_)))
  obtain rfl := sj h
  refine Ae (sm [] [(4, bD false), (5, iD v1)] [] rfl rfl) (As ?_)
  exact ⟨⟨[_, _], ⟨.tmp _ _ rfl, tm⟩, rfl⟩, tv⟩
 ·refine Aj (wq rfl (qL Dq Cu rfl (qm rfl ?_)))
  refine BZ h fun v3 a3 h => Ax [2001, 2002, 2003, 2004] (NK N p0 p1 v3 a3) ec rfl (qm rfl (qx rfl (qx rfl (qz Kx rfl (qs Cu rfl (qa rfl (Ab (wp rfl (qm rfl (BC rfl (Ab ?_)))))))))))
  refine Bb h (fun h => ?_) fun h => ?_
  ·refine wq rfl (qm rfl (qa rfl (qe rfl ?_)))
   obtain rfl := sj h
   refine Ae (sm [] [(4, bD false), (5, iD v3.2)] [] rfl rfl) (As ?_)
   exact ⟨⟨[_, _], ⟨.tmp _ _ rfl, tm⟩, rfl⟩, tv⟩
  ·refine Aj (wp rfl (qL Dq Cu rfl ?_))
   refine BZ h fun v5 a5 h => EK [2005] [2001, 2002, 2003, 2004] (Td N v3.1 v5 a5) d3 (KL (fun _ => rfl) C1) rfl (qm rfl (qx rfl (qx rfl (qa rfl (qa rfl (Ab (wq rfl (qm rfl (Ab (AH (wq rfl (Ch rfl (qe rfl ?_)))))))))))))
   refine Bb h (fun h => ?_) fun h => ?_
   ·refine wq rfl (qa rfl (qe rfl ?_))
    obtain rfl := sj h
    refine Ae (sm [] [(4, bD false), (5, iD 0)] [] rfl rfl) (As ?_)
    exact ⟨⟨[_, _], ⟨.tmp _ _ rfl, tm⟩, rfl⟩, tv⟩
   ·refine wq rfl (Ch rfl (qe rfl ?_))
    refine Bb h (fun h => ?_) fun h => ?_
    ·refine wq rfl (qm rfl (qa rfl (qe rfl ?_)))
     obtain rfl := sj h
     refine Ae (sm [] [(4, bD false), (5, iD v5.2)] [] rfl rfl) (As ?_)
     exact ⟨⟨[_, _], ⟨.tmp _ _ rfl, tm⟩, rfl⟩, tv⟩
    ·refine Aj (wq rfl (qa rfl (qe rfl ?_)))
     obtain rfl := sj h
     refine Ae (sm [] [(4, bD true), (5, iD 0)] [] rfl rfl) (As ?_)
     exact ⟨⟨[_, _], ⟨.tmp _ _ rfl, tm⟩, rfl⟩, tv⟩
theorem P5 (N : Nat) (p0 : Aa) (p1 : Int) (r : Bool × Int) (h : H7 N p0 p1 = some r) : Ap zA0 79 [.e (.agg (Ah p0)), pD (.val (.int .u64 p1))] [] (.tup [.one (.pure (.val (.bool r.1))), .one (iC r.2)]) := by
 unfold H7 at h
 refine cw (n := 12) (rs := [.tmp 4, .tmp 5]) Tryz.func79 fun w0 S0 => ?_
 refine wq rfl (qb rfl (qa rfl (qa rfl (Ab (wq rfl (qL Dq Cu rfl (qm rfl ?_)))))))
 refine BZ h fun v1 a1 h => Ax [2001] (H0 N p1 v1 a1) Y4 rfl ?_
 refine BZ h fun v2 a2 h => EK [] [2001] (Ms N p0 v1 v2 a2) bI C1 rfl (qx rfl (qx rfl (qa rfl (qa rfl (AO (by kernel_rfl) ?_)))))
 obtain rfl := sj h
 refine Ae (sm [] [(4, bD v2.1), (5, iD v2.2)] [] rfl rfl) (As ?_)
 exact ⟨⟨[_, _], ⟨.tmp _ _ rfl, tm⟩, rfl⟩, tv⟩
theorem M4 (N : Nat) (p0 : Aa) (r : (List Int) × (List (Int × Bool)) × Int) (h : GF N p0 = some r) : Ap zA0 42 [.e (.agg (Ah p0))] [(1, r.1.map DA)] (.tup [.one (.own 0), .one (.pure (.mp (F3 (Value.int .u64) tB r.2.1))), .one (iC r.2.2)]) := by
 unfold GF at h
 refine cw (n := 56) (rs := [.tmp 2, .tmp 3, .tmp 4]) Tryz.func42 fun w0 S0 => ?_
 refine wq rfl (qb rfl (qa rfl (qa rfl (qa rfl (Ab (wp rfl (qL Dq Cu rfl ?_)))))))
 refine BZ h fun v1 a1 h => Ax [] (EQ N p0 v1 a1) Xc rfl (qa rfl (Ab (wq rfl (qm rfl (BC rfl (Ab ?_))))))
 refine Bb h (fun h => ?_) fun h => ?_
 ·refine wq rfl (qm rfl (qa rfl (qa rfl (qe rfl ?_))))
  obtain rfl := sj h
  refine Ae ((A6 2 2001 1 rfl rfl rfl).trans (sm [(1000, 2001)] [(2, oD (.own 1000)), (3, pD (.mp (F3 (Value.int .u64) tB (([] : List (Int × Bool)))))), (4, iD v1)] [(1000, .vec 1 ((([] : List Int)).map DA))] rfl rfl)) (As ?_)
  exact ⟨⟨[_, _, _], ⟨.tmp _ _ rfl, ⟨.tmp _ _ rfl, tm⟩⟩, rfl⟩, ⟨rfl, tv⟩⟩
 ·refine Aj (wq rfl (qa rfl (Ab (wp rfl (qf A7 rfl (ql A1 rfl (AJ Ar rfl ?_)))))))
  refine FT h fun c3 h => I7 rfl c3 (qm rfl (Ab ?_))
  refine AB (L := Fk N p0) h (fun v4 => mk [(1, oD (.ptr 1 0)), (6, oD (.own 2002)), (21, pD (.val (.int .u64 ((DQ .u64 1 ((p0.fa.length : Int))))))), (22, pD (.val (.int .u64 v4.2)))] [(1, .box (Ah p0)), (2002, .vec 1 (v4.1.map DA))]) (fun v5 => mk [(1, oD (.ptr 1 0)), (6, oD (.own 2003))] [(1, .box (Ah p0)), (2003, .vec 1 (v5.map DA))]) (fun _ _ => rfl) ((A6 6 2004 1 rfl rfl rfl).trans (sm [(2002, 2004)] _ _ rfl rfl)) (fun j4 n4 v4 h => ?_) (fun v5 s h hs => ?_)
  ·unfold Fk at h
   refine wq rfl (AT rfl (Ab (AL ?_)))
   refine Bb h (fun h => ?_) fun h => ?_
   ·refine Aj (AL (AH (wq rfl (qm rfl (qa rfl (Ab (Ag Aw rfl (qw 2 rfl (Dp Gy L8 S6 rfl ?_)))))))))
    refine FT h fun c7 h => Cy (f := DA) Gy Gy L8 Wd S6 c7 rfl (qa rfl (Ab (Ag Aw rfl (AX rfl (qm rfl (Ab ?_))))))
    exact sn [(2002, 28)] h
   ·refine AS ?_
    exact sn [(2003, 2002)] h
  ·refine Ae hs (wq rfl (qm rfl ?_))
   refine BZ h fun v8 a8 h => LT (ds0 := [_, _]) [2003] [] [true] (Ex.weak (ds' := [_, oD (.fnc 78)]) (Jd N v5 ((fun (x : Int × Int) => Du N x.1 x.2)) v8 a8) ⟨(fun _ _ _ hh => hh), (fun _ _ _ hh => W7 dM (fun ar t ht => by obtain ⟨x, r, rfl, hq, rfl⟩ := HT ht; exact O9 N x.1 x.2 r hq) hh), tv⟩) (.p rfl) d1 rfl ⟨rfl, rfl, tv⟩ rfl rfl (by decide) ⟨rfl, tv⟩ rfl (Gg rfl) tv ⟨(fun h => by cases h), tv⟩ rfl rfl rfl ?_
   refine Ab (wq rfl (qm rfl (Ef Gy rfl ?_)))
   refine Uk (.p rfl) rfl N7 rfl ?_
   refine qa rfl (Ab (wp rfl (qm rfl (Ef Gy rfl (qm rfl (Ab ?_))))))
   refine AB (L := Ez N p0 v8) h (fun v9 => mk [(1, oD (.ptr 1 0)), (6, oD (.own 2005)), (8, oD (.mref 2006)), (35, oD (.own 2005)), (36, iD ((v8.length : Int))), (37, iD v9.2)] [(1, .box (Ah p0)), (2005, .vec 1 (v8.map DA)), (2006, .mp (F3 (Value.int .u64) tB v9.1))]) (fun v10 => mk [(6, oD (.own 2007)), (8, oD (.mref 2008))] [(2007, .vec 1 (v8.map DA)), (2008, .mp (F3 (Value.int .u64) tB v10))]) (fun _ _ => rfl) (sm [(2005, 2003), (2006, 34)] _ _ rfl rfl) (fun j9 n9 v9 h => ?_) (fun v10 s h hs => ?_)
   ·unfold Ez at h
    refine wq rfl (AT rfl (Ab (AL ?_)))
    refine Bb h (fun h => ?_) fun h => ?_
    ·refine Aj (AL (AH (wq rfl ?_)))
     refine BK h fun v12 a12 b12 h => qI Gy L8 a12 (Af b12) rfl (qj Ps (Af b12) rfl (qa rfl (Ab (wq rfl (qL Dq Cu rfl (qm rfl ?_))))))
     refine BZ h fun v13 a13 h => Ax [] (P5 N p0 v12 v13 a13) eo rfl (qm rfl (qx rfl (qx rfl (qa rfl (qa rfl (Ab (wp rfl (qm rfl (BC rfl (Ab ?_))))))))))
     refine Bb h (fun h => ?_) fun h => ?_
     ·refine wq rfl (qm rfl (qa rfl (qa rfl (qe rfl ?_))))
      obtain rfl := sj h
      refine Ae ((A6 2 2009 1 rfl rfl rfl).trans (sm [(1000, 2009)] [(2, oD (.own 1000)), (3, pD (.mp (F3 (Value.int .u64) tB (([] : List (Int × Bool)))))), (4, iD v13.2)] [(1000, .vec 1 ((([] : List Int)).map DA))] rfl rfl)) (As ?_)
      exact ⟨⟨[_, _, _], ⟨.tmp _ _ rfl, ⟨.tmp _ _ rfl, tm⟩⟩, rfl⟩, ⟨rfl, tv⟩⟩
     ·refine Aj (Ag Aw rfl (qw 3 rfl ?_))
      refine Ph (kv := (Value.int .u64)) (vt := tB) (m := v9.1) (k := v12) (v := v13.1) rfl (.inl rfl) rfl rfl rfl rfl (LX N7 UI) rfl ?_
      refine Ab (Ag Aw rfl (AX rfl (qm rfl (Ab ?_))))
      exact sn [] h
    ·refine AS ?_
     exact sn [(2007, 2005), (2008, 2006)] h
   ·refine Ae hs (wq rfl (qw 2 rfl (qa rfl (qa rfl (qe rfl ?_)))))
    obtain rfl := sj h
    refine Ae ((VE 2008 _ rfl rfl).trans (sm [(1000, 2007)] [(2, oD (.own 1000)), (3, pD (.mp (F3 (Value.int .u64) tB v10))), (4, iD 0)] [(1000, .vec 1 (v8.map DA))] rfl rfl)) (As ?_)
    exact ⟨⟨[_, _, _], ⟨.tmp _ _ rfl, ⟨.tmp _ _ rfl, tm⟩⟩, rfl⟩, ⟨rfl, tv⟩⟩
theorem ND (N : Nat) (p0 : Int) (p1 : Int) (r : Bool) (h : FN N p0 p1 = some r) : Ap zA0 81 [pD (.val (.int .u64 p0)), oD (.rop [.val (.int .u64 p1)])] [] (bD r) := by
 unfold FN at h
 refine cw (n := 8) (rs := [.tmp 3]) Tryz.func81 fun w0 S0 => ?_
 refine wq rfl (qa rfl (Ab (wq rfl (qm rfl (qk Ps rfl (H5 rfl (Ch rfl (qe rfl ?_))))))))
 obtain rfl := sj h
 refine Ae (sm [] [(3, bD (((CZ .u64 p0 p1) == 0)))] [] rfl rfl) (As ?_)
 exact ⟨⟨[_], tm, rfl⟩, tv⟩
theorem Gx (N : Nat) (p0 : List Int) (p1 : Int → Option Bool) (r : Int) (h : DD N p0 p1 = some r) : Ap zA0 80 [pD (.sl (p0.map DA)), oD (.clo (Hn (Lc false DA) tB p1))] [] (iD r) := by
 unfold DD at h
 refine cw (n := 19) (rs := [.tmp 4]) Tryz.func80 fun w0 S0 => ?_
 refine wq rfl (qa rfl (Ab (wp rfl (qm rfl (AJ Gy rfl (qm rfl (Ab ?_)))))))
 refine AB (L := C6 N p0 p1) h (fun v1 => mk [(0, pD (.sl (p0.map DA))), (1, oD (.clo (Hn (Lc false DA) tB p1))), (7, iD ((p0.length : Int))), (8, iD v1)] []) (fun v2 => mk [] []) (fun _ _ => rfl) (sm [] _ _ rfl rfl) (fun j1 n1 v1 h => ?_) (fun v2 s h hs => ?_)
 ·unfold C6 at h
  refine wq rfl (AT rfl (Ab (AL ?_)))
  refine Bb h (fun h => ?_) fun h => ?_
  ·refine Aj (AL (AH (wq rfl (qm rfl (qa rfl (Ab (wq rfl (qw 3 rfl ?_))))))))
   refine BK h fun v4 a4 b4 h => qi Gy L8 a4 (Af b4) rfl (qk Ps rfl ?_)
   refine BZ h fun v5 a5 h => KO (ds0 := [_]) (ar := (Lc false DA) v4) (.p rfl) rfl rfl ⟨rfl, tv⟩ rfl rfl rfl (J3 (KT _ _ Ud) a5) ?_
   refine Ab ?_
   refine Bb h (fun h => ?_) fun h => ?_
   ·refine wq rfl (qm rfl (qe rfl ?_))
    obtain rfl := sj h
    refine Ae (sm [] [(4, iD v1)] [] rfl rfl) (As ?_)
    exact ⟨⟨[_], tm, rfl⟩, tv⟩
   ·refine Aj (Ag Aw rfl (AX rfl (qm rfl (Ab ?_))))
    exact sn [] h
  ·refine AS ?_
   exact sn [] h
 ·refine Ae hs (wq rfl (qe rfl ?_))
  obtain rfl := sj h
  refine Ae (sm [] [(4, iD ((-1)))] [] rfl rfl) (As ?_)
  exact ⟨⟨[_], tm, rfl⟩, tv⟩
theorem F1 (N : Nat) (p0 : List Int) (p1 : Int → Option Bool) (r : Bool) (h : C7 N p0 p1 = some r) : Ap zA0 46 [pD (.sl (p0.map DA)), oD (.clo (Hn (Lc false DA) tB p1))] [] (bD r) := by
 unfold C7 at h
 refine cw (n := 9) (rs := [.tmp 4]) Tryz.func46 fun w0 S0 => ?_
 refine wq rfl (qa rfl (Ab (wq rfl (qw 2 rfl ?_))))
 refine BZ h fun v1 a1 h => Ax [] (Gx N p0 p1 v1 a1) cC rfl (E0 rfl (qe rfl ?_))
 obtain rfl := sj h
 refine Ae (sm [] [(4, bD ((decide (0 ≤ v1))))] [] rfl rfl) (As ?_)
 exact ⟨⟨[_], tm, rfl⟩, tv⟩
theorem Pi (N : Nat) (p0 : List Int) (p1 : List (Int × Bool)) (r : (List Int)) (h : Gw N p0 p1 = some r) : Ap zA0 51 [pD (.sl (p0.map DA)), pD (.mp (F3 (Value.int .u64) tB p1))] [(1, r.map DA)] (oD (.own 0)) := by
 unfold Gw at h
 refine cw (n := 29) (rs := [.tmp 4]) Tryz.func51 fun w0 S0 => ?_
 refine wq rfl (qa rfl (Ab (wq rfl (qa rfl (Ab (wp rfl (qm rfl (AJ Gy rfl (qm rfl (Ab ?_))))))))))
 refine AB (L := Gq N p0 p1) h (fun v1 => mk [(1, pD (.mp (F3 (Value.int .u64) tB p1))), (5, oD (.own 2001)), (8, pD (.sl (p0.map DA))), (9, iD ((p0.length : Int))), (10, iD v1.2)] [(2001, .vec 1 (v1.1.map DA))]) (fun v2 => mk [(5, oD (.own 2002))] [(2002, .vec 1 (v2.map DA))]) (fun _ _ => rfl) ((A6 5 2005 1 rfl rfl rfl).trans (sm [(2001, 2005)] _ _ rfl rfl)) (fun j1 n1 v1 h => ?_) (fun v2 s h hs => ?_)
 ·unfold Gq at h
  refine wq rfl (AT rfl (Ab (AL ?_)))
  refine Bb h (fun h => ?_) fun h => ?_
  ·refine Aj ?_
   refine AQ h (fun v4 => mk [(1, pD (.mp (F3 (Value.int .u64) tB p1))), (5, oD (.own 2003)), (8, pD (.sl (p0.map DA))), (9, iD ((p0.length : Int))), (10, iD v1.2)] [(2003, .vec 1 (v4.map DA))]) (fun j4 h => ?_) (fun v4 h => ?_)
   ·refine AH (wq rfl ?_)
    refine BK h fun v5 a5 b5 h => qi Gy L8 a5 (Af b5) rfl (qk Ps rfl (qz S6 rfl (qs L8 rfl (Ab ?_))))
    refine AQ h (fun v6 => mk [(1, pD (.mp (F3 (Value.int .u64) tB p1))), (5, oD (.own 2004)), (7, oD (.rop [.val (.int .u64 v5)])), (8, pD (.sl (p0.map DA))), (9, iD ((p0.length : Int))), (10, iD v1.2), (22, bD v6)] [(2004, .vec 1 (v1.1.map DA))]) (fun j6 h => ?_) (fun v6 h => ?_)
    ·refine Ag Aw rfl (qm rfl (ql Ps rfl ?_))
     refine NC (kv := (Value.int .u64)) (vt := tB) (m := p1) (dv := false) (.p rfl) rfl rfl (LX N7 UI) (by rw [N7]; rfl) Tw rfl rfl rfl ?_
     refine qm rfl ?_
     refine Eo 17 h rfl (fun h => ?_) fun h => ?_
     ·refine qm rfl (CQ (H2 7 [.val (.int .u64 v5)] rfl rfl) ?_)
      refine Ip (capD := [_]) (Hn (Lc false DA) tB ((fun (x : Int) => FN N x v5))) (.g rfl rfl) dL rfl ⟨rfl, tv⟩ rfl (fun ar t ht => by obtain ⟨x, r, rfl, hq, rfl⟩ := HT ht; exact ND N x v5 r hq) ?_
      refine BZ h fun v8 a8 h => EK [] [2001] (F1 N v1.1 ((fun (x : Int) => FN N x v5)) v8 a8) cu C1 rfl (CD rfl (qp rfl (Ab ?_)))
      exact sn [(2004, 2001)] h
     ·refine qw 4 rfl (qp rfl (Ab ?_))
      exact ZO _ h ((H2 7 [.val (.int .u64 v5)] rfl rfl).trans (sm [(2004, 2001)] _ _ rfl rfl))
    ·refine Bb h (fun h => ?_) fun h => ?_
     ·refine Ag Aw rfl (qm rfl (qk Ps rfl (Dp Gy L8 S6 rfl ?_)))
      refine FT h fun c10 h => Cy (f := DA) Gy Gy L8 Wd S6 c10 rfl (qe rfl ?_)
      exact sn [(2003, 26)] h
     ·refine Aj ?_
      exact sn [(2003, 2004)] h
   ·refine Ag Aw rfl (AX rfl (qm rfl (Ab ?_)))
    exact sn [(2001, 2003)] h
  ·refine AS ?_
   exact sn [(2002, 2001)] h
 ·refine Ae hs (wq rfl (qm rfl (qe rfl ?_)))
  obtain rfl := sj h
  refine Ae (sm [(1000, 2002)] [(4, oD (.own 1000))] [(1000, .vec 1 (v2.map DA))] rfl rfl) (As ?_)
  exact ⟨⟨[_], tm, rfl⟩, ⟨rfl, tv⟩⟩
theorem MN (N : Nat) (p0 : List Int) (r : (List (List Int))) (h : GD N p0 = some r) : Ap zA0 48 [pD (.sl (p0.map DA))] [(1, r.map (EX Ak))] (oD (.own 0)) := by
 unfold GD at h
 refine cw (n := 19) (rs := [.tmp 2]) Tryz.func48 fun w0 S0 => ?_
 refine wq rfl (qa rfl (Ab (wq rfl (qa rfl (Ab (wp rfl (qm rfl (AJ Gy rfl (qm rfl (Ab ?_))))))))))
 refine AB (L := G9 N p0) h (fun v1 => mk [(3, oD (.own 2001)), (6, pD (.sl (p0.map DA))), (7, iD ((p0.length : Int))), (8, iD v1.2)] [(2001, .vec 1 (v1.1.map (EX Ak)))]) (fun v2 => mk [(3, oD (.own 2002))] [(2002, .vec 1 (v2.map (EX Ak)))]) (fun _ _ => rfl) ((A6 3 2004 1 rfl rfl rfl).trans (sm [(2001, 2004)] _ _ rfl rfl)) (fun j1 n1 v1 h => ?_) (fun v2 s h hs => ?_)
 ·unfold G9 at h
  refine wq rfl (AT rfl (Ab (AL ?_)))
  refine Bb h (fun h => ?_) fun h => ?_
  ·refine Aj (AL (AH (wq rfl ?_)))
   refine BK h fun v4 a4 b4 h => qi Gy L8 a4 (Af b4) rfl (qk Ps rfl (qa rfl (Ab (Ag Aw rfl (qw 2 rfl ?_)))))
   refine BZ h fun v5 a5 h => Ax [2003] (H0 N v4 v5 a5) Y4 rfl (CQ (A9 2003 _ _ rfl rfl) (Dp Fc G8 Vt rfl ?_))
   refine FT h fun c6 h => Cy (f := (EX Ak)) Fc Fc G8 Zk Vt c6 rfl (qa rfl (Ab (Ag Aw rfl (AX rfl (qm rfl (Ab ?_))))))
   exact sn [(2001, 16)] h
  ·refine AS ?_
   exact sn [(2002, 2001)] h
 ·refine Ae hs (wq rfl (qm rfl (qe rfl ?_)))
  obtain rfl := sj h
  refine Ae (sm [(1000, 2002)] [(2, oD (.own 1000))] [(1000, .vec 1 (v2.map (EX Ak)))] rfl rfl) (As ?_)
  exact ⟨⟨[_], tm, rfl⟩, ⟨rfl, tv⟩⟩
theorem Pv (N : Nat) (p0 : Aa) (r : (List (List Int)) × Int) (h : GV N p0 = some r) : Ap zA0 18 [.e (.agg (Ah p0))] [(1, r.1.map (EX Ak))] (.tup [.one (.own 0), .one (iC r.2)]) := by
 unfold GV at h
 refine cw (n := 20) (rs := [.tmp 2, .tmp 3]) Tryz.func18 fun w0 S0 => ?_
 refine wq rfl (qb rfl (qa rfl (qa rfl (Ab (wq rfl (qL Dq Cu rfl ?_))))))
 refine BZ h fun v1 a1 h => Ax [2001] (M4 N p0 v1 a1) bi rfl (qm rfl (qx rfl (qx rfl (qx rfl (qa rfl (qa rfl (qa rfl (Ab (wp rfl (qm rfl (BC rfl (Ab ?_))))))))))))
 refine Bb h (fun h => ?_) fun h => ?_
 ·refine wq rfl (qm rfl (qa rfl (qe rfl ?_)))
  obtain rfl := sj h
  refine Ae ((A6 2 2002 1 rfl rfl rfl).trans (sm [(1000, 2002)] [(2, oD (.own 1000)), (3, iD v1.2.2)] [(1000, .vec 1 ((([] : List (List Int))).map (EX Ak)))] rfl rfl)) (As ?_)
  exact ⟨⟨[_, _], ⟨.tmp _ _ rfl, tm⟩, rfl⟩, ⟨rfl, tv⟩⟩
 ·refine Aj (wq rfl (qw 2 rfl ?_))
  refine BZ h fun v3 a3 h => EK [2003] [2001] (Pi N v1.1 v1.2.1 v3 a3) dK (KL (fun _ => rfl) C1) rfl (CQ (A9 2003 _ _ rfl rfl) ?_)
  refine BZ h fun v4 a4 h => Ax [2004] (MN N v3 v4 a4) bA rfl (qa rfl (qe rfl ?_))
  obtain rfl := sj h
  refine Ae (sm [(1000, 2004)] [(2, oD (.own 1000)), (3, iD 0)] [(1000, .vec 1 (v4.map (EX Ak)))] rfl rfl) (As ?_)
  exact ⟨⟨[_, _], ⟨.tmp _ _ rfl, tm⟩, rfl⟩, ⟨rfl, tv⟩⟩
theorem Ke (N : Nat) (p0 : List Int) (r : (List Int)) (h : Dz N p0 = some r) : Ap zA0 44 [pD (.sl (p0.map DA))] [(1, r.map DA)] (oD (.own 0)) := by
 unfold Dz at h
 refine cw (n := 8) (rs := [.tmp 2]) Tryz.func44 fun w0 S0 => ?_
 refine wq rfl (qa rfl (Ab (wp rfl (qm rfl ?_))))
 refine M7 (.p rfl) rfl Gy ?_
 refine Ab ?_
 refine Nv rfl (fun c2 => ?_) ?_
 ·have c2 := zH6.1 c2
  rw [c2] at h
  have h : (some (([] : List Int))) = some r := h
  refine wq rfl (qe rfl ?_)
  obtain rfl := sj h
  refine Ae ((A6 2 2001 1 rfl rfl rfl).trans (sm [(1000, 2001)] [(2, oD (.own 1000))] [(1000, .vec 1 ((([] : List Int)).map DA))] rfl rfl)) (As ?_)
  exact ⟨⟨[_], tm, rfl⟩, ⟨rfl, tv⟩⟩
 ·refine Aj (wq rfl (Dp Gy L8 S6 rfl (qm rfl ?_)))
  refine FT h fun c1 h => I0 (f := DA) Gy Gy L8 Wd S6 (fun _ => rfl) c1 rfl (qe rfl ?_)
  obtain rfl := sj h
  refine Ae (sm [(1000, 7)] [(2, oD (.own 1000))] [(1000, .vec 1 (((([] : List Int)) ++ p0).map DA))] rfl rfl) (As ?_)
  exact ⟨⟨[_], tm, rfl⟩, ⟨rfl, tv⟩⟩
theorem Ov (N : Nat) (p0 : Int) (p1 : List (Int × Bool)) (p2 : Int) (r : Bool) (h : F8 N p0 p1 p2 = some r) : Ap zA0 47 [pD (.val (.int .u64 p0)), oD (.rop [.mp (F3 (Value.int .u64) tB p1)]), oD (.rop [.val (.int .u64 p2)])] [] (bD r) := by
 unfold F8 at h
 refine cw (n := 20) (rs := [.tmp 4]) Tryz.func47 fun w0 S0 => ?_
 refine wq rfl (qe rfl ?_)
 refine AQ h (fun v1 => mk [(4, bD v1)] []) (fun j1 h => ?_) (fun v1 h => ?_)
 ·refine Ag Aw rfl (qk bk rfl (qm rfl ?_))
  refine NC (kv := (Value.int .u64)) (vt := tB) (m := p1) (dv := false) (.p rfl) rfl rfl (LX N7 UI) (by rw [N7]; rfl) Tw rfl rfl rfl ?_
  refine CD rfl (qm rfl ?_)
  refine Eo 9 h rfl (fun h => ?_) fun h => ?_
  ·refine qm rfl (qk Ps rfl (BC rfl (qp rfl (qm rfl ?_))))
   refine Eo 14 h rfl (fun h => ?_) fun h => ?_
   ·refine qk Ps rfl (qm rfl (H5 rfl (Ch rfl (qp rfl (qe rfl ?_)))))
    exact sn [] h
   ·refine qw 4 rfl (qp rfl (qe rfl ?_))
    exact sn [] h
  ·refine qw 3 rfl (qp rfl (qw 5 rfl (qp rfl (qe rfl ?_))))
   exact sn [] h
 ·obtain rfl := sj h
  refine Ae (sm [] [(4, bD v1)] [] rfl rfl) (As ?_)
  exact ⟨⟨[_], tm, rfl⟩, tv⟩
theorem Qa (N : Nat) (p0 : Int) (p1 : List (Int × Bool)) (p2 : List Int) (r : Bool) (h : Ft N p0 p1 p2 = some r) : Ap zA0 45 [pD (.val (.int .u64 p0)), oD (.rop [.mp (F3 (Value.int .u64) tB p1)]), oD (.rop [.sl (p2.map DA)])] [] (bD r) := by
 unfold Ft at h
 refine cw (n := 13) (rs := [.tmp 4]) Tryz.func45 fun w0 S0 => ?_
 refine wq rfl (qb rfl (qe rfl ?_))
 refine AQ h (fun v1 => mk [(4, bD v1)] []) (fun j1 h => ?_) (fun v1 h => ?_)
 ·refine Ag Aw rfl (qk bk rfl (ql Ps rfl ?_))
  refine NC (kv := (Value.int .u64)) (vt := tB) (m := p1) (dv := false) (.p rfl) rfl rfl (LX N7 UI) (by rw [N7]; rfl) Tw rfl rfl rfl ?_
  refine qm rfl ?_
  refine Eo 8 h rfl (fun h => ?_) fun h => ?_
  ·refine qw 3 rfl (qp rfl (qe rfl ?_))
   exact sn [] h
  ·refine qk cb rfl (CQ (H2 3 [.val (.int .u64 p0)] rfl rfl) ?_)
   refine Ip (capD := [_, _]) (Hn (Lc false DA) tB ((fun (x : Int) => F8 N x p1 p0))) (.g rfl rfl) ei rfl ⟨rfl, rfl, tv⟩ rfl (fun ar t ht => by obtain ⟨x, r, rfl, hq, rfl⟩ := HT ht; exact Ov N x p1 p0 r hq) ?_
   refine BZ h fun v3 a3 h => Ax [] (F1 N p2 ((fun (x : Int) => F8 N x p1 p0)) v3 a3) cu rfl (qp rfl (qe rfl ?_))
   exact sn [] h
 ·obtain rfl := sj h
  refine Ae (sm [] [(4, bD v1)] [] rfl rfl) (As ?_)
  exact ⟨⟨[_], tm, rfl⟩, tv⟩
theorem IJ (N : Nat) (p0 : List Int) (p1 : Int → Option Bool) (r : Nat × (List Int)) (h : CK N p0 p1 = some r) : Ex zA0 43 [oD (.own 90000), oD (.clo (Hn (Lc false DA) tB p1))] [(.vec 1 (p0.map DA), .vec 1 (r.2.map DA))] [] (oD (.view 90000 1 0 r.1)) := by
 unfold CK at h
 refine G1 (n := 42) (rs := [.tmp 4]) Tryz.func43 rfl rfl rfl (I3 rfl) (I3 rfl) rfl rfl (I3 rfl) rfl (I3 rfl) fun w0 S0 GL => ?_
 refine Ae (sm [] [(0, oD (.own 90000)), (1, oD (.clo (Hn (Lc false DA) tB p1)))] [(90000, .vec 1 (p0.map DA))] rfl rfl) (wq rfl (qa rfl (Ab (wq rfl (qw 2 rfl ?_)))))
 refine BZ h fun v1 a1 h => EK [] [90000] (Gx N p0 p1 v1 a1) cC C1 rfl (qa rfl (Ab (wp rfl (qm rfl (Ch rfl (Ab ?_))))))
 refine Bb h (fun h => ?_) fun h => ?_
 ·refine wq rfl (qm rfl (qe rfl ?_))
  obtain rfl := sj h
  refine Ae ((US DA p0 4 90000 1 rfl rfl).trans (sm [] [(4, oD (.view 90000 1 0 p0.length))] [(90000, .vec 1 (p0.map DA))] rfl rfl)) (As ?_)
  exact ⟨⟨[_], tm, rfl⟩, ⟨rfl, tv⟩, tv⟩
 ·refine Aj (wp rfl (qm rfl (AX rfl (qe rfl ?_))))
  refine AB (L := C0 N p1) h (fun v3 => mk [(0, oD (.own 90000)), (1, oD (.clo (Hn (Lc false DA) tB p1))), (5, iD v3.2.1), (6, iD v3.2.2)] [(90000, .vec 1 (v3.1.map DA))]) (fun v4 => mk [(0, oD (.own 90000)), (5, iD v4.2)] [(90000, .vec 1 (v4.1.map DA))]) (fun _ _ => rfl) (sm [] _ _ rfl rfl) (fun j3 n3 v3 h => ?_) (fun v4 s h hs => ?_)
  ·unfold C0 at h
   refine wp rfl (qw 2 rfl (Ef Gy rfl (AT rfl (Ab ?_))))
   refine Bb h (fun h => ?_) fun h => ?_
   ·refine Aj ?_
    refine AQ h (fun v6 => mk [(0, oD (.own 90000)), (1, oD (.clo (Hn (Lc false DA) tB p1))), (5, iD v6.2), (6, iD v3.2.2)] [(90000, .vec 1 (v6.1.map DA))]) (fun j6 h => ?_) (fun v6 h => ?_)
    ·refine AH (wq rfl (qw 2 rfl ?_))
     refine BK h fun v7 a7 b7 h => qI Gy L8 a7 (Af b7) rfl (qj Ps (Af b7) rfl (qa rfl (Ab (wq rfl (qw 2 rfl ?_)))))
     refine BZ h fun v8 a8 h => KO (ds0 := [_]) (ar := (Lc false DA) v7) (.p rfl) rfl rfl ⟨rfl, tv⟩ rfl rfl rfl (J3 (KT _ _ Ud) a8) ?_
     refine CD rfl (Ab ?_)
     refine Bb h (fun h => ?_) fun h => ?_
     ·refine wq rfl (qw 3 rfl ?_)
      refine BK h fun v10 a10 b10 h => qI Gy L8 a10 (Af b10) rfl ?_
      refine Dy rfl rfl rfl rfl (Af b10) rfl L8 rfl (I3 rfl) (Dr DA v3.1 _ v7) ?_
      refine Ab (Ag Aw rfl (qm rfl (AX rfl (qe rfl ?_))))
      exact sn [] h
     ·refine Aj ?_
      exact sn [] h
    ·refine Ag Aw rfl (qm rfl (AX rfl (qe rfl ?_)))
     exact sn [] h
   ·refine AS ?_
    exact sn [] h
  ·refine Ae hs (wq rfl (qw 2 rfl ?_))
   obtain ⟨c11, h⟩ := Hw h
   have w12 : ((v4.2).toNat) + ((v4.1.length - (v4.2).toNat)) ≤ v4.1.length := by have := c11.2.1; have := c11.2.2; omega
   refine Ko DA v4.1 (.p rfl) rfl (Ju DA _ _ v4.1) rfl Gy L8 (.some _ _ _ _ c11.1) (.none _) ⟨rfl, tv⟩ tv c11.2.1 (by rw [zA3]; exact c11.2.2) (zA3 _) rfl ?_
   have w13 : (Ji v4.1 ((v4.2).toNat) (zA6 ((v4.1.length - (v4.2).toNat)) ((0 : Int)))).length = v4.1.length := JO (by rw [List.length_replicate]; exact w12)
   refine Ts DA v4.1 ((0 : Int)) rfl rfl (NM DA _ _ ((v4.2).toNat) ((v4.1.length - (v4.2).toNat)) v4.1 w12) rfl Gy S6 rfl rfl rfl rfl ?_
   refine Ab (wq rfl (qw 2 rfl ?_))
   obtain ⟨c14, h⟩ := Hw h
   have w15 : 0 + ((v4.2).toNat) ≤ (Ji v4.1 ((v4.2).toNat) (zA6 ((v4.1.length - (v4.2).toNat)) ((0 : Int)))).length := by have := c14.2.1; have := c14.2.2; omega
   refine Ko DA (Ji v4.1 ((v4.2).toNat) (zA6 ((v4.1.length - (v4.2).toNat)) ((0 : Int)))) (.p rfl) rfl (Ju DA _ _ (Ji v4.1 ((v4.2).toNat) (zA6 ((v4.1.length - (v4.2).toNat)) ((0 : Int))))) rfl Gy L8 (.none _) (.some _ _ _ _ c14.1) tv ⟨rfl, tv⟩ c14.2.1 (by rw [zA3]; exact c14.2.2) (zA3 _) rfl ?_
   refine qa rfl (Ab ?_)
   obtain rfl := sj h
   refine Ae (sm [] [(4, oD (.view 90000 1 0 ((v4.2).toNat)))] [(90000, .vec 1 ((Ji v4.1 ((v4.2).toNat) (zA6 ((v4.1.length - (v4.2).toNat)) ((0 : Int)))).map DA))] rfl rfl) (As ?_)
   exact ⟨⟨[_], tm, rfl⟩, ⟨rfl, tv⟩, tv⟩
theorem N9 (N : Nat) (p0 : Aa) (r : (List (List Int)) × Int) (h : Gn N p0 = some r) : Ap zA0 15 [.e (.agg (Ah p0))] [(1, r.1.map (EX Ak))] (.tup [.one (.own 0), .one (iC r.2)]) := by
 unfold Gn at h
 refine cw (n := 23) (rs := [.tmp 2, .tmp 3]) Tryz.func15 fun w0 S0 => ?_
 refine wq rfl (qb rfl (qa rfl (qa rfl (Ab (wq rfl (qL Dq Cu rfl ?_))))))
 refine BZ h fun v1 a1 h => Ax [2001] (M4 N p0 v1 a1) bi rfl (qm rfl (qx rfl (qx rfl (qx rfl (qz du rfl (qz d4 rfl (qs dC rfl (qs dT rfl (qa rfl (Ab (wp rfl (qm rfl (BC rfl (Ab ?_))))))))))))))
 refine Bb h (fun h => ?_) fun h => ?_
 ·refine wq rfl (qm rfl (qa rfl (qe rfl ?_)))
  obtain rfl := sj h
  refine Ae ((A6 2 2002 1 rfl rfl rfl).trans (sm [(1000, 2002)] [(2, oD (.own 1000)), (3, iD v1.2.2)] [(1000, .vec 1 ((([] : List (List Int))).map (EX Ak)))] rfl rfl)) (As ?_)
  exact ⟨⟨[_, _], ⟨.tmp _ _ rfl, tm⟩, rfl⟩, ⟨rfl, tv⟩⟩
 ·refine Aj (AL (Ae (A9 2001 _ _ rfl rfl) (Ag Aw rfl (ql cb rfl ?_))))
  refine BZ h fun v3 a3 h => Ax [2003] (Ke N v1.1 v3 a3) dV rfl (CQ (H2 5 [.mp (F3 (Value.int .u64) tB v1.2.1)] rfl rfl) (CQ (H2 4 [.sl (v1.1.map DA)] rfl rfl) ?_))
  refine Ip (capD := [_, _]) (Hn (Lc false DA) tB ((fun (x : Int) => Ft N x v1.2.1 v1.1))) (.p rfl) dp rfl ⟨rfl, rfl, tv⟩ rfl (fun ar t ht => by obtain ⟨x, r, rfl, hq, rfl⟩ := HT ht; exact Qa N x v1.2.1 v1.1 r hq) ?_
  obtain ⟨v4, a4, h⟩ := bind_some h
  obtain ⟨c5, h⟩ := Hw h
  have w6 : 0 + v4.1 ≤ v4.2.length := by rw [zA3]; exact c5
  refine LT (ds0 := [_, _]) [2003] [] [true] (IJ N v3 ((fun (x : Int) => Ft N x v1.2.1 v1.1)) v4 a4) (.p rfl) d5 rfl ⟨rfl, rfl, tv⟩ rfl rfl (by decide) ⟨rfl, tv⟩ rfl (Gg rfl) tv ⟨(fun h => by cases h), tv⟩ rfl rfl rfl ?_
  refine CQ (V5 DA v4.2 20 2003 2004 1 v4.1 rfl rfl rfl rfl rfl c5) (qa rfl (Ab (wq rfl (qm rfl (CQ (A9 2004 _ _ rfl rfl) ?_)))))
  refine BZ h fun v7 a7 h => Ax [2005] (MN N (v4.2.take v4.1) v7 a7) bA rfl (qa rfl (qe rfl ?_))
  obtain rfl := sj h
  refine Ae (sm [(1000, 2005)] [(2, oD (.own 1000)), (3, iD 0)] [(1000, .vec 1 (v7.map (EX Ak)))] rfl rfl) (As ?_)
  exact ⟨⟨[_, _], ⟨.tmp _ _ rfl, tm⟩, rfl⟩, ⟨rfl, tv⟩⟩
theorem MA (N : Nat) (p0 : List Int) (p1 : List Int) (r : Bool) (h : Hh N p0 p1 = some r) : Ap zA0 50 [pD (.sl (p0.map Ak)), pD (.sl (p1.map Ak))] [] (bD r) := by
 unfold Hh at h
 refine cw (n := 26) (rs := [.tmp 4]) Tryz.func50 fun w0 S0 => ?_
 refine wq rfl (qa rfl (Ab (wp rfl (qm rfl (AJ Ar rfl (qm rfl (AJ Ar rfl (BC rfl (Ab ?_)))))))))
 refine Bb h (fun h => ?_) fun h => ?_
 ·refine wq rfl (qe rfl ?_)
  obtain rfl := sj h
  refine Ae (sm [] [(4, bD false)] [] rfl rfl) (As ?_)
  exact ⟨⟨[_], tm, rfl⟩, tv⟩
 ·refine Aj (wp rfl (qe rfl ?_))
  refine AB (L := Fe N p0 p1) h (fun v2 => mk [(0, pD (.sl (p0.map Ak))), (1, pD (.sl (p1.map Ak))), (5, iD v2)] []) (fun v3 => mk [] []) (fun _ _ => rfl) (sm [] _ _ rfl rfl) (fun j2 n2 v2 h => ?_) (fun v3 s h hs => ?_)
  ·unfold Fe at h
   refine wp rfl (qw 2 rfl (AJ Ar rfl (AT rfl (Ab ?_))))
   refine Bb h (fun h => ?_) fun h => ?_
   ·refine Aj (AL (AH (wq rfl (qw 2 rfl ?_))))
    refine BK h fun v5 a5 b5 h => qi Ar Cx a5 (Af b5) rfl (qk BV rfl (qw 2 rfl ?_))
    refine BK h fun v6 a6 b6 h => qi Ar Cx a6 (Af b6) rfl (qk BV rfl (BC rfl (AO (by kernel_rfl) ?_)))
    refine Bb h (fun h => ?_) fun h => ?_
    ·refine wq rfl (qe rfl ?_)
     obtain rfl := sj h
     refine Ae (sm [] [(4, bD false)] [] rfl rfl) (As ?_)
     exact ⟨⟨[_], tm, rfl⟩, tv⟩
    ·refine Aj (Ag Aw rfl (qm rfl (AX rfl (qe rfl ?_))))
     exact sn [] h
   ·refine AS ?_
    exact sn [] h
  ·refine Ae hs (wq rfl (qe rfl ?_))
   obtain rfl := sj h
   refine Ae (sm [] [(4, bD true)] [] rfl rfl) (As ?_)
   exact ⟨⟨[_], tm, rfl⟩, tv⟩
theorem I6 (N : Nat) (p0 : List (List Int)) (p1 : List (List Int)) (r : Bool) (h : FK N p0 p1 = some r) : Ap zA0 17 [pD (.sl (p0.map (EX Ak))), pD (.sl (p1.map (EX Ak)))] [] (bD r) := by
 unfold FK at h
 refine cw (n := 27) (rs := [.tmp 4]) Tryz.func17 fun w0 S0 => ?_
 refine wq rfl (qa rfl (Ab (wp rfl (qm rfl (AJ Fc rfl (qm rfl (AJ Fc rfl (BC rfl (Ab ?_)))))))))
 refine Bb h (fun h => ?_) fun h => ?_
 ·refine wq rfl (qe rfl ?_)
  obtain rfl := sj h
  refine Ae (sm [] [(4, bD false)] [] rfl rfl) (As ?_)
  exact ⟨⟨[_], tm, rfl⟩, tv⟩
 ·refine Aj (wp rfl (qe rfl ?_))
  refine AB (L := E5 N p0 p1) h (fun v2 => mk [(0, pD (.sl (p0.map (EX Ak)))), (1, pD (.sl (p1.map (EX Ak)))), (5, iD v2)] []) (fun v3 => mk [] []) (fun _ _ => rfl) (sm [] _ _ rfl rfl) (fun j2 n2 v2 h => ?_) (fun v3 s h hs => ?_)
  ·unfold E5 at h
   refine wp rfl (qw 2 rfl (AJ Fc rfl (AT rfl (Ab ?_))))
   refine Bb h (fun h => ?_) fun h => ?_
   ·refine Aj (AL (AH (wq rfl (qw 2 rfl ?_))))
    refine BK h fun v5 a5 b5 h => qi Fc G8 a5 (Af b5) rfl (qk A1 rfl (qw 2 rfl ?_))
    refine BK h fun v6 a6 b6 h => qi Fc G8 a6 (Af b6) rfl (qk A1 rfl ?_)
    refine BZ h fun v7 a7 h => Ax [] (MA N v5 v6 v7 a7) dN rfl (CD rfl (AO (by kernel_rfl) ?_))
    refine Bb h (fun h => ?_) fun h => ?_
    ·refine wq rfl (qe rfl ?_)
     obtain rfl := sj h
     refine Ae (sm [] [(4, bD false)] [] rfl rfl) (As ?_)
     exact ⟨⟨[_], tm, rfl⟩, tv⟩
    ·refine Aj (Ag Aw rfl (qm rfl (AX rfl (qe rfl ?_))))
     exact sn [] h
   ·refine AS ?_
    exact sn [] h
  ·refine Ae hs (wq rfl (qe rfl ?_))
   obtain rfl := sj h
   refine Ae (sm [] [(4, bD true)] [] rfl rfl) (As ?_)
   exact ⟨⟨[_], tm, rfl⟩, tv⟩
theorem I5 (N : Nat) (r : Bool) (h : EM N = some r) : Ap zA0 11 [] [] (bD r) := by
 unfold EM at h
 refine cw (n := 63) (rs := [.tmp 0]) Tryz.func11 fun w0 S0 => ?_
 refine wq rfl (qa rfl (Ab (wp rfl (Dp Fo PG Tw rfl ?_))))
 refine Xd (.p rfl) rfl (.own _ _ _) ⟨rfl, tv⟩ rfl Fo ?_
 refine qm rfl (Ab ?_)
 refine AB (L := E4 N) h (fun v1 => mk [(9, oD (.own 2001)), (10, iD (((([false, true] : List Bool)).length : Int))), (11, iD v1)] [(2001, .vec 1 ((([false, true] : List Bool)).map eB))]) (fun v2 => mk [] []) (fun _ _ => rfl) (sm [(2001, 9)] _ _ rfl rfl) (fun j1 n1 v1 h => ?_) (fun v2 s h hs => ?_)
 ·unfold E4 at h
  refine wq rfl (AT rfl (Ab (AL ?_)))
  refine Bb h (fun h => ?_) fun h => ?_
  ·refine Aj (AL (AH (wq rfl ?_)))
   refine BK h fun v4 a4 b4 h => qI Fo PG a4 (Af b4) rfl (qj Tv (Af b4) rfl (qa rfl (Ab (wq rfl (qm rfl ?_)))))
   refine BZ h fun v5 a5 h => Ax [2002, 2003, 2004, 2005] (GJ N v4 v5 a5) aB rfl (CQ (A9 2002 _ _ rfl rfl) (CQ (A9 2003 _ _ rfl rfl) (CQ (A9 2004 _ _ rfl rfl) (CQ (A9 2005 _ _ rfl rfl) ?_))))
   refine BZ h fun v6 a6 h => Ax [2006] (Pv N v5 v6 a6) bR rfl (qm rfl (qx rfl (qx rfl (qa rfl (qa rfl (Ab (wq rfl (qm rfl ?_))))))))
   refine BZ h fun v7 a7 h => Ax [2007, 2008, 2009, 2010] (GJ N v4 v7 a7) aB rfl (CQ (A9 2007 _ _ rfl rfl) (CQ (A9 2008 _ _ rfl rfl) (CQ (A9 2009 _ _ rfl rfl) (CQ (A9 2010 _ _ rfl rfl) ?_))))
   refine BZ h fun v8 a8 h => Ax [2011] (N9 N v7 v8 a8) bK rfl (qm rfl (qx rfl (qx rfl (qa rfl (qa rfl (Ab (wq rfl (qm rfl ?_))))))))
   refine BZ h fun v9 a9 h => Ax [2012, 2013, 2014, 2015] (GJ N v4 v9 a9) aB rfl (Dp Ar Cx IT rfl ?_)
   refine BZ h fun v10 a10 h => EK [] [2012, 2013, 2014, 2015, 30] (Ms N v9 (([0, 2] : List Int)) v10 a10) bI C1 rfl (qm rfl (qx rfl (qx rfl (qa rfl (qe rfl ?_)))))
   refine AQ h (fun v11 => mk [(9, oD (.own 2016)), (10, iD (((([false, true] : List Bool)).length : Int))), (11, iD v1), (61, bD v11)] [(2016, .vec 1 ((([false, true] : List Bool)).map eB))]) (fun j11 h => ?_) (fun v11 h => ?_)
   ·refine Ag Aw rfl (qm rfl (BC rfl (qm rfl ?_)))
    refine Eo 36 h rfl (fun h => ?_) fun h => ?_
    ·refine qw 2 rfl (qp rfl (qw 3 rfl (qp rfl (qw 2 rfl (qp rfl (qw 6 rfl (qp rfl (qw 7 rfl (qp rfl (Ab ?_))))))))))
     exact sn [(2016, 2001)] h
    ·refine qm rfl (BC rfl (qp rfl (qm rfl ?_)))
     refine Eo 40 h rfl (fun h => ?_) fun h => ?_
     ·refine qw 2 rfl (qp rfl (qw 2 rfl (qp rfl (qw 6 rfl (qp rfl (qw 7 rfl (qp rfl (Ab ?_))))))))
      exact sn [(2016, 2001)] h
     ·refine qm rfl (BC rfl (qp rfl (qm rfl ?_)))
      refine Eo 44 h rfl (fun h => ?_) fun h => ?_
      ·refine qn rfl (qp rfl (qw 6 rfl (qp rfl (qw 7 rfl (qp rfl (Ab ?_))))))
       exact sn [(2016, 2001)] h
      ·refine qm rfl (qp rfl (qm rfl ?_))
       refine Eo 47 h rfl (fun h => ?_) fun h => ?_
       ·refine qw 5 rfl (qp rfl (qw 7 rfl (qp rfl (Ab ?_))))
        exact sn [(2016, 2001)] h
       ·refine qm rfl (Dp Ar Cx IT rfl (CQ (A9 49 _ _ rfl rfl) (Dp Fc G8 Vt rfl ?_)))
        refine BZ h fun v16 a16 h => EK [] [2006, 50] (I6 N v6.1 (([([0, 1] : List Int)] : List (List Int))) v16 a16) cD C1 rfl (CD rfl (qp rfl (qm rfl ?_)))
        refine Eo 54 h rfl (fun h => ?_) fun h => ?_
        ·refine qw 6 rfl (qp rfl (Ab ?_))
         exact sn [(2016, 2001)] h
        ·refine qm rfl (Dp Ar Cx IT rfl (Dp Ar Cx IT rfl (CQ (A9 56 _ _ rfl rfl) (CQ (A9 57 _ _ rfl rfl) (Dp Fc G8 Vt rfl ?_)))))
         refine BZ h fun v18 a18 h => EK [] [2011, 58] (I6 N v8.1 (([([0, 2] : List Int), ([1, 2] : List Int)] : List (List Int))) v18 a18) cD C1 rfl (CD rfl (qp rfl (Ab ?_)))
         exact sn [(2016, 2001)] h
   ·refine Bb h (fun h => ?_) fun h => ?_
    ·refine wq rfl (qe rfl ?_)
     obtain rfl := sj h
     refine Ae (sm [] [(0, bD false)] [] rfl rfl) (As ?_)
     exact ⟨⟨[_], tm, rfl⟩, tv⟩
    ·refine Aj (Ag Aw rfl (AX rfl (qm rfl (Ab ?_))))
     exact sn [(2001, 2016)] h
  ·refine AS ?_
   exact sn [] h
 ·refine Ae hs (wq rfl (qe rfl ?_))
  obtain rfl := sj h
  refine Ae (sm [] [(0, bD true)] [] rfl rfl) (As ?_)
  exact ⟨⟨[_], tm, rfl⟩, tv⟩
theorem G6 (N : Nat) (p0 : List Int) (p1 : List Int) (r : Bool) (h : Et N p0 p1 = some r) : Ap zA0 19 [pD (.sl (p0.map Ak)), pD (.sl (p1.map Ak))] [] (bD r) := by
 unfold Et at h
 refine cw (n := 34) (rs := [.tmp 4]) Tryz.func19 fun w0 S0 => ?_
 refine wq rfl (qa rfl (Ab (wp rfl (qe rfl ?_))))
 refine AB (L := EI N p0 p1) h (fun v1 => mk [(0, pD (.sl (p0.map Ak))), (1, pD (.sl (p1.map Ak))), (5, iD v1)] []) (fun v2 => mk [] []) (fun _ _ => rfl) (sm [] _ _ rfl rfl) (fun j1 n1 v1 h => ?_) (fun v2 s h hs => ?_)
 ·unfold EI at h
  refine wp rfl (qw 2 rfl (AJ Ar rfl (AT rfl (Ab ?_))))
  refine Bb h (fun h => ?_) fun h => ?_
  ·refine Aj (AL (AH (wq rfl (qa rfl (Ab (wp rfl (qe rfl ?_)))))))
   refine AB (L := EE N p0 p1 v1) h (fun v4 => mk [(0, pD (.sl (p0.map Ak))), (1, pD (.sl (p1.map Ak))), (5, iD v1), (6, bD v4.1), (7, iD v4.2)] []) (fun v5 => mk [(0, pD (.sl (p0.map Ak))), (1, pD (.sl (p1.map Ak))), (5, iD v1), (6, bD v5)] []) (fun _ _ => rfl) (sm [] _ _ rfl rfl) (fun j4 n4 v4 h => ?_) (fun v5 s h hs => ?_)
   ·unfold EE at h
    refine wp rfl (qw 2 rfl (AJ Ar rfl (AT rfl (Ab ?_))))
    refine Bb h (fun h => ?_) fun h => ?_
    ·refine Aj ?_
     refine AQ h (fun v7 => mk [(0, pD (.sl (p0.map Ak))), (1, pD (.sl (p1.map Ak))), (5, iD v1), (6, bD v7), (7, iD v4.2)] []) (fun j7 h => ?_) (fun v7 h => ?_)
     ·refine AH (Ag Aw rfl (qw 2 rfl ?_))
      refine Eo 21 h rfl (fun h => ?_) fun h => ?_
      ·refine qw 9 rfl (qp rfl (qa rfl (AO (by kernel_rfl) ?_)))
       exact sn [] h
      ·refine qw 2 rfl ?_
       refine BK h fun v9 a9 b9 h => qi Ar Cx a9 (Af b9) rfl (qk BV rfl (qw 2 rfl ?_))
       refine BK h fun v10 a10 b10 h => qi Ar Cx a10 (Af b10) rfl (qk BV rfl (Ch rfl (qp rfl (qa rfl (AO (by kernel_rfl) ?_)))))
       exact sn [] h
     ·refine Ag Aw rfl (qm rfl (AX rfl (qe rfl ?_)))
      exact sn [] h
    ·refine AS ?_
     exact sn [] h
   ·refine Ae hs (wq rfl (qm rfl (CD rfl (Ab ?_))))
    refine Bb h (fun h => ?_) fun h => ?_
    ·refine wq rfl (qe rfl ?_)
     obtain rfl := sj h
     refine Ae (sm [] [(4, bD false)] [] rfl rfl) (As ?_)
     exact ⟨⟨[_], tm, rfl⟩, tv⟩
    ·refine Aj (Ag Aw rfl (qm rfl (AX rfl (qe rfl ?_))))
     exact sn [] h
  ·refine AS ?_
   exact sn [] h
 ·refine Ae hs (wq rfl (qe rfl ?_))
  obtain rfl := sj h
  refine Ae (sm [] [(4, bD true)] [] rfl rfl) (As ?_)
  exact ⟨⟨[_], tm, rfl⟩, tv⟩
theorem JR (N : Nat) (p0 : BF) (r : Bool) (h : C8 N p0 = some r) : Ap zA0 5 [.e (.agg (CN p0))] [] (bD r) := by
 unfold C8 at h
 refine cw (n := 110) (rs := [.tmp 2]) Tryz.func5 fun w0 S0 => ?_
 refine wq rfl (qb rfl (qa rfl (Ab (wq rfl (qL bu bt rfl ?_)))))
 refine BZ h fun v1 a1 h => Ax [2001, 2002, 2003, 2004] (NE N p0 v1 a1) ed rfl (qm rfl (qx rfl (qx rfl (qz Kx rfl (qs Cu rfl (qa rfl (Ab (AL ?_))))))))
 refine AQ h (fun v2 => mk [(3, oD (.ptr 3 0)), (29, bD v2)] [(3, .box [.own 2005, .own 2006, .own 2007, .own 2008]), (2005, .vec 1 (v1.1.fa.map Ak)), (2006, .vec 1 (v1.1.fh.map Ak)), (2007, .vec 1 (v1.1.fq.map Ak)), (2008, .vec 6 (v1.1.fc.map AM))]) (fun j2 h => ?_) (fun v2 h => ?_)
 ·refine Ag Aw rfl ?_
  refine BZ h fun v3 a3 h => Ax [] (I5 N v3 a3) cq rfl (CD rfl (qm rfl ?_))
  refine Eo 26 h rfl (fun h => ?_) fun h => ?_
  ·refine qw 2 rfl (qp rfl (Ab ?_))
   exact sn [(2005, 2001), (2006, 2002), (2007, 2003), (2008, 2004)] h
  ·refine qm rfl (CD rfl (qp rfl (Ab ?_)))
   exact sn [(2005, 2001), (2006, 2002), (2007, 2003), (2008, 2004)] h
 ·refine Bb h (fun h => ?_) fun h => ?_
  ·refine wq rfl ?_
   refine BZ h fun v6 a6 h => Ax [] (I5 N v6 a6) cq rfl (qe rfl ?_)
   obtain rfl := sj h
   refine Ae (sm [] [(2, bD v6)] [] rfl rfl) (As ?_)
   exact ⟨⟨[_], tm, rfl⟩, tv⟩
  ·refine Aj (wq rfl (qL Dq Cu rfl (CQ (A9 2005 _ _ rfl rfl) (CQ (A9 2006 _ _ rfl rfl) (CQ (A9 2007 _ _ rfl rfl) (CQ (A9 2008 _ _ rfl rfl) ?_))))))
   refine BZ h fun v7 a7 h => Ax [2009] (Pv N v1.1 v7 a7) bR rfl (qm rfl (qx rfl (qx rfl (qa rfl (qa rfl (Ab (wq rfl (qL Dq Cu rfl ?_))))))))
   refine BZ h fun v8 a8 h => Ax [2010] (N9 N v1.1 v8 a8) bK rfl (qm rfl (qx rfl (qx rfl (qa rfl (qa rfl (Ab (AL ?_)))))))
   refine AQ h (fun v9 => mk [(5, oD (.own 2011)), (7, oD (.own 2012)), (51, bD v9)] [(2011, .vec 1 (v7.1.map (EX Ak))), (2012, .vec 1 (v8.1.map (EX Ak)))]) (fun j9 h => ?_) (fun v9 h => ?_)
   ·refine Ag Aw rfl (qm rfl (BC rfl (qm rfl ?_)))
    refine Eo 43 h rfl (fun h => ?_) fun h => ?_
    ·refine qw 2 rfl (qp rfl (qw 4 rfl (qp rfl (Ab ?_))))
     exact sn [(2011, 2009), (2012, 2010)] h
    ·refine qm rfl (BC rfl (qp rfl (qm rfl ?_)))
     refine Eo 47 h rfl (fun h => ?_) fun h => ?_
     ·refine qw 3 rfl (qp rfl (Ab ?_))
      exact sn [(2011, 2009), (2012, 2010)] h
     ·refine qm rfl (Ef Fc rfl (Ch rfl (qp rfl (Ab ?_))))
      exact sn [(2011, 2009), (2012, 2010)] h
   ·refine Bb h (fun h => ?_) fun h => ?_
    ·refine wq rfl (qe rfl ?_)
     obtain rfl := sj h
     refine Ae (sm [] [(2, bD false)] [] rfl rfl) (As ?_)
     exact ⟨⟨[_], tm, rfl⟩, tv⟩
    ·refine Aj (wp rfl (qm rfl (Ef Fc rfl (qm rfl (Ab ?_)))))
     refine AB (L := BX N v7 v8) h (fun v13 => mk [(5, oD (.own 2013)), (7, oD (.own 2014)), (52, oD (.own 2013)), (53, iD ((v7.1.length : Int))), (54, iD v13)] [(2013, .vec 1 (v7.1.map (EX Ak))), (2014, .vec 1 (v8.1.map (EX Ak)))]) (fun v14 => mk [(7, oD (.own 2015))] [(2015, .vec 1 (v8.1.map (EX Ak)))]) (fun _ _ => rfl) (sm [(2013, 2011), (2014, 2012)] _ _ rfl rfl) (fun j13 n13 v13 h => ?_) (fun v14 s h hs => ?_)
     ·unfold BX at h
      refine wq rfl (AT rfl (Ab (AL ?_)))
      refine Bb h (fun h => ?_) fun h => ?_
      ·refine Aj (AL (AH (wq rfl (qm rfl ?_))))
       refine BK h fun v16 a16 b16 h => qI Fc G8 a16 (Af b16) rfl (qj A1 (Af b16) rfl (qa rfl (qa rfl (Ab (wp rfl (qm rfl (Ef Fc rfl (qm rfl (Ab ?_)))))))))
       refine AB (L := Dj N v7 v13 v16) h (fun v17 => mk [(5, oD (.own 2016)), (7, oD (.own 2017)), (9, iD v13), (10, pD (.sl (v16.map Ak))), (52, oD (.own 2016)), (53, iD ((v7.1.length : Int))), (54, iD v13), (59, oD (.own 2016)), (60, iD ((v7.1.length : Int))), (61, iD v17)] [(2016, .vec 1 (v7.1.map (EX Ak))), (2017, .vec 1 (v8.1.map (EX Ak)))]) (fun v18 => mk [(5, oD (.own 2018)), (7, oD (.own 2019)), (10, pD (.sl (v16.map Ak))), (52, oD (.own 2018)), (53, iD ((v7.1.length : Int))), (54, iD v13)] [(2018, .vec 1 (v7.1.map (EX Ak))), (2019, .vec 1 (v8.1.map (EX Ak)))]) (fun _ _ => rfl) (sm [(2016, 2013), (2017, 2014)] _ _ rfl rfl) (fun j17 n17 v17 h => ?_) (fun v18 s h hs => ?_)
       ·unfold Dj at h
        refine wq rfl (AT rfl (Ab (AL ?_)))
        refine Bb h (fun h => ?_) fun h => ?_
        ·refine Aj (AL (AH (wq rfl (qm rfl ?_))))
         refine BK h fun v20 a20 b20 h => qI Fc G8 a20 (Af b20) rfl (qj A1 (Af b20) rfl (qa rfl (qe rfl ?_)))
         refine AQ h (fun v21 => mk [(5, oD (.own 2020)), (7, oD (.own 2021)), (9, iD v13), (10, pD (.sl (v16.map Ak))), (52, oD (.own 2020)), (53, iD ((v7.1.length : Int))), (54, iD v13), (59, oD (.own 2020)), (60, iD ((v7.1.length : Int))), (61, iD v17), (73, bD v21)] [(2020, .vec 1 (v7.1.map (EX Ak))), (2021, .vec 1 (v8.1.map (EX Ak)))]) (fun j21 h => ?_) (fun v21 h => ?_)
         ·refine Ag Aw rfl (qw 2 rfl (BC rfl (qm rfl ?_)))
          refine Eo 69 h rfl (fun h => ?_) fun h => ?_
          ·refine qw 2 rfl ?_
           refine BZ h fun v23 a23 h => Ax [] (G6 N v16 v20 v23 a23) ZN rfl (qp rfl (Ab ?_))
           exact sn [(2020, 2016), (2021, 2017)] h
          ·refine qw 3 rfl (qp rfl (Ab ?_))
           exact sn [(2020, 2016), (2021, 2017)] h
         ·refine Bb h (fun h => ?_) fun h => ?_
          ·refine wq rfl (qe rfl ?_)
           obtain rfl := sj h
           refine Ae (sm [] [(2, bD false)] [] rfl rfl) (As ?_)
           exact ⟨⟨[_], tm, rfl⟩, tv⟩
          ·refine Aj (Ag Aw rfl (AX rfl (qm rfl (Ab ?_))))
           exact sn [(2016, 2020), (2017, 2021)] h
        ·refine AS ?_
         exact sn [(2018, 2016), (2019, 2017)] h
       ·refine Ae hs (wq rfl (qm rfl (Ef Fc rfl (qm rfl (Ab ?_)))))
        refine AB (L := Di N v8 v16) h (fun v25 => mk [(5, oD (.own 2022)), (7, oD (.own 2023)), (10, pD (.sl (v16.map Ak))), (52, oD (.own 2022)), (53, iD ((v7.1.length : Int))), (54, iD v13), (75, oD (.own 2023)), (76, iD ((v8.1.length : Int))), (77, iD v25)] [(2022, .vec 1 (v7.1.map (EX Ak))), (2023, .vec 1 (v8.1.map (EX Ak)))]) (fun v26 => mk [(5, oD (.own 2024)), (7, oD (.own 2025)), (52, oD (.own 2024)), (53, iD ((v7.1.length : Int))), (54, iD v13)] [(2024, .vec 1 (v7.1.map (EX Ak))), (2025, .vec 1 (v8.1.map (EX Ak)))]) (fun _ _ => rfl) (sm [(2022, 2018), (2023, 2019)] _ _ rfl rfl) (fun j25 n25 v25 h => ?_) (fun v26 s h hs => ?_)
        ·unfold Di at h
         refine wq rfl (AT rfl (Ab (AL ?_)))
         refine Bb h (fun h => ?_) fun h => ?_
         ·refine Aj (AL (AH (wq rfl ?_)))
          refine BK h fun v28 a28 b28 h => qI Fc G8 a28 (Af b28) rfl (qj A1 (Af b28) rfl (qa rfl (Ab (wq rfl (qw 2 rfl ?_)))))
          refine BZ h fun v29 a29 h => Ax [] (G6 N v16 v28 v29 a29) ZN rfl (Ab ?_)
          refine Bb h (fun h => ?_) fun h => ?_
          ·refine wq rfl (qe rfl ?_)
           obtain rfl := sj h
           refine Ae (sm [] [(2, bD false)] [] rfl rfl) (As ?_)
           exact ⟨⟨[_], tm, rfl⟩, tv⟩
          ·refine Aj (Ag Aw rfl (AX rfl (qm rfl (Ab ?_))))
           exact sn [] h
         ·refine AS ?_
          exact sn [(2024, 2022), (2025, 2023)] h
        ·refine Ae hs (Ag Aw rfl (AX rfl (qm rfl (Ab ?_))))
         exact sn [(2013, 2024), (2014, 2025)] h
      ·refine AS ?_
       exact sn [(2015, 2014)] h
     ·refine Ae hs (wp rfl (qm rfl (Ef Fc rfl (qm rfl (Ab ?_)))))
      refine AB (L := BW N v8) h (fun v31 => mk [(7, oD (.own 2026)), (86, oD (.own 2026)), (87, iD ((v8.1.length : Int))), (88, iD v31)] [(2026, .vec 1 (v8.1.map (EX Ak)))]) (fun v32 => mk [] []) (fun _ _ => rfl) (sm [(2026, 2015)] _ _ rfl rfl) (fun j31 n31 v31 h => ?_) (fun v32 s h hs => ?_)
      ·unfold BW at h
       refine wq rfl (AT rfl (Ab (AL ?_)))
       refine Bb h (fun h => ?_) fun h => ?_
       ·refine Aj (AL (AH (wq rfl (qm rfl ?_))))
        refine BK h fun v34 a34 b34 h => qI Fc G8 a34 (Af b34) rfl (qj A1 (Af b34) rfl (qa rfl (qa rfl (Ab (wq rfl (qm rfl (Ef Fc rfl (qm rfl (Ab ?_)))))))))
        refine AB (L := Dh N v8 v31 v34) h (fun v35 => mk [(7, oD (.own 2027)), (15, iD v31), (16, pD (.sl (v34.map Ak))), (86, oD (.own 2027)), (87, iD ((v8.1.length : Int))), (88, iD v31), (93, oD (.own 2027)), (94, iD ((v8.1.length : Int))), (95, iD v35)] [(2027, .vec 1 (v8.1.map (EX Ak)))]) (fun v36 => mk [(7, oD (.own 2028)), (86, oD (.own 2028)), (87, iD ((v8.1.length : Int))), (88, iD v31)] [(2028, .vec 1 (v8.1.map (EX Ak)))]) (fun _ _ => rfl) (sm [(2027, 2026)] _ _ rfl rfl) (fun j35 n35 v35 h => ?_) (fun v36 s h hs => ?_)
        ·unfold Dh at h
         refine wq rfl (AT rfl (Ab (AL ?_)))
         refine Bb h (fun h => ?_) fun h => ?_
         ·refine Aj (AL (AH (wq rfl (qm rfl ?_))))
          refine BK h fun v38 a38 b38 h => qI Fc G8 a38 (Af b38) rfl (qj A1 (Af b38) rfl (qa rfl (qe rfl ?_)))
          refine AQ h (fun v39 => mk [(7, oD (.own 2029)), (15, iD v31), (16, pD (.sl (v34.map Ak))), (86, oD (.own 2029)), (87, iD ((v8.1.length : Int))), (88, iD v31), (93, oD (.own 2029)), (94, iD ((v8.1.length : Int))), (95, iD v35), (107, bD v39)] [(2029, .vec 1 (v8.1.map (EX Ak)))]) (fun j39 h => ?_) (fun v39 h => ?_)
          ·refine Ag Aw rfl (qw 2 rfl (BC rfl (qm rfl ?_)))
           refine Eo 103 h rfl (fun h => ?_) fun h => ?_
           ·refine qw 2 rfl ?_
            refine BZ h fun v41 a41 h => Ax [] (G6 N v34 v38 v41 a41) ZN rfl (qp rfl (Ab ?_))
            exact sn [(2029, 2027)] h
           ·refine qw 3 rfl (qp rfl (Ab ?_))
            exact sn [(2029, 2027)] h
          ·refine Bb h (fun h => ?_) fun h => ?_
           ·refine wq rfl (qe rfl ?_)
            obtain rfl := sj h
            refine Ae (sm [] [(2, bD false)] [] rfl rfl) (As ?_)
            exact ⟨⟨[_], tm, rfl⟩, tv⟩
           ·refine Aj (Ag Aw rfl (AX rfl (qm rfl (Ab ?_))))
            exact sn [(2027, 2029)] h
         ·refine AS ?_
          exact sn [(2028, 2027)] h
        ·refine Ae hs (Ag Aw rfl (AX rfl (qm rfl (Ab ?_))))
         exact sn [(2026, 2028)] h
       ·refine AS ?_
        exact sn [] h
      ·refine Ae hs (wq rfl (qe rfl ?_))
       obtain rfl := sj h
       refine Ae (sm [] [(2, bD true)] [] rfl rfl) (As ?_)
       exact ⟨⟨[_], tm, rfl⟩, tv⟩
end Go.Lift
