/- Lemmas for CoreFreeCardSaid, which YtbfklmmnpdifaaaGreatDoorFinC4 proves. -/
import Derived.Test.YtbfklmmnpdifaaaGreatDoorCode2
open List renaming map_eq_nil_iff → zH3, replicate → zA5
open Nat renaming zero_add → zA1
open Go.Proofs.Tryz renaming prog → zA0
namespace Go.Lift
open IntKind renaming wrap → wI
set_option maxRecDepth 10000
open Go.RowKit
open Go.Proofs
theorem KI (N : Nat) (p0 : Int) (r : Int) (h : F3 N p0 = some r) : Ao zA0 151 [pD (.val (.int .u64 p0))] [] (iD r) := by
 unfold F3 at h
 refine cw (n := 35) (rs := [.tmp 2]) Tryz.func151 fun w0 S0 => ?_
 refine wq rfl (qa rfl (Ab (wq rfl (qm rfl (GU rfl (by decide) (Iu rfl (qm rfl (Iu rfl (AX rfl (qa rfl (Ab (wq rfl (qm rfl (GU rfl (by decide) (Iu rfl (qm rfl (Iu rfl (AX rfl (qa rfl (Ab (wq rfl (qm rfl (GU rfl (by decide) (qm rfl (AX rfl (Iu rfl (qa rfl (Ab (wq rfl (qw 2 rfl (GU rfl (by decide) (AX rfl (qa rfl ?_)))))))))))))))))))))))))))))))))
 refine Ab (wq rfl (qw 2 rfl (GU rfl (by decide) (AX rfl (qa rfl (Ab (wq rfl (qw 2 rfl (GU rfl (by decide) (AX rfl (qa rfl (Ab (wq rfl (qm rfl (JP W3 XX rfl (Iu rfl (qe rfl ?_)))))))))))))))))
 obtain rfl := sj h
 refine Ae (sm [] [(2, iD ((AK .i64 ((wI .i64 ((wI .u64 ((wI .u64 ((wI .u64 ((AK .u64 ((wI .u64 ((AZ .u64 ((wI .u64 ((AK .u64 ((AZ .u64 ((wI .u64 ((AK .u64 ((AZ .u64 p0 1)) 6148914691236517205) + (AK .u64 p0 6148914691236517205)))) 2)) 3689348814741910323) + (AK .u64 ((wI .u64 ((AK .u64 ((AZ .u64 p0 1)) 6148914691236517205) + (AK .u64 p0 6148914691236517205)))) 3689348814741910323)))) 4) + (wI .u64 ((AK .u64 ((AZ .u64 ((wI .u64 ((AK .u64 ((AZ .u64 p0 1)) 6148914691236517205) + (AK .u64 p0 6148914691236517205)))) 2)) 3689348814741910323) + (AK .u64 ((wI .u64 ((AK .u64 ((AZ .u64 p0 1)) 6148914691236517205) + (AK .u64 p0 6148914691236517205)))) 3689348814741910323)))))) 1085102592571150095) + (AZ .u64 ((AK .u64 ((wI .u64 ((AZ .u64 ((wI .u64 ((AK .u64 ((AZ .u64 ((wI .u64 ((AK .u64 ((AZ .u64 p0 1)) 6148914691236517205) + (AK .u64 p0 6148914691236517205)))) 2)) 3689348814741910323) + (AK .u64 ((wI .u64 ((AK .u64 ((AZ .u64 p0 1)) 6148914691236517205) + (AK .u64 p0 6148914691236517205)))) 3689348814741910323)))) 4) + (wI .u64 ((AK .u64 ((AZ .u64 ((wI .u64 ((AK .u64 ((AZ .u64 p0 1)) 6148914691236517205) + (AK .u64 p0 6148914691236517205)))) 2)) 3689348814741910323) + (AK .u64 ((wI .u64 ((AK .u64 ((AZ .u64 p0 1)) 6148914691236517205) + (AK .u64 p0 6148914691236517205)))) 3689348814741910323)))))) 1085102592571150095)) 8))) + (AZ .u64 ((wI .u64 ((AK .u64 ((wI .u64 ((AZ .u64 ((wI .u64 ((AK .u64 ((AZ .u64 ((wI .u64 ((AK .u64 ((AZ .u64 p0 1)) 6148914691236517205) + (AK .u64 p0 6148914691236517205)))) 2)) 3689348814741910323) + (AK .u64 ((wI .u64 ((AK .u64 ((AZ .u64 p0 1)) 6148914691236517205) + (AK .u64 p0 6148914691236517205)))) 3689348814741910323)))) 4) + (wI .u64 ((AK .u64 ((AZ .u64 ((wI .u64 ((AK .u64 ((AZ .u64 p0 1)) 6148914691236517205) + (AK .u64 p0 6148914691236517205)))) 2)) 3689348814741910323) + (AK .u64 ((wI .u64 ((AK .u64 ((AZ .u64 p0 1)) 6148914691236517205) + (AK .u64 p0 6148914691236517205)))) 3689348814741910323)))))) 1085102592571150095) + (AZ .u64 ((AK .u64 ((wI .u64 ((AZ .u64 ((wI .u64 ((AK .u64 ((AZ .u64 ((wI .u64 ((AK .u64 ((AZ .u64 p0 1)) 6148914691236517205) + (AK .u64 p0 6148914691236517205)))) 2)) 3689348814741910323) + (AK .u64 ((wI .u64 ((AK .u64 ((AZ .u64 p0 1)) 6148914691236517205) + (AK .u64 p0 6148914691236517205)))) 3689348814741910323)))) 4) + (wI .u64 ((AK .u64 ((AZ .u64 ((wI .u64 ((AK .u64 ((AZ .u64 p0 1)) 6148914691236517205) + (AK .u64 p0 6148914691236517205)))) 2)) 3689348814741910323) + (AK .u64 ((wI .u64 ((AK .u64 ((AZ .u64 p0 1)) 6148914691236517205) + (AK .u64 p0 6148914691236517205)))) 3689348814741910323)))))) 1085102592571150095)) 8)))) 16))) + (AZ .u64 ((wI .u64 ((wI .u64 ((AK .u64 ((wI .u64 ((AZ .u64 ((wI .u64 ((AK .u64 ((AZ .u64 ((wI .u64 ((AK .u64 ((AZ .u64 p0 1)) 6148914691236517205) + (AK .u64 p0 6148914691236517205)))) 2)) 3689348814741910323) + (AK .u64 ((wI .u64 ((AK .u64 ((AZ .u64 p0 1)) 6148914691236517205) + (AK .u64 p0 6148914691236517205)))) 3689348814741910323)))) 4) + (wI .u64 ((AK .u64 ((AZ .u64 ((wI .u64 ((AK .u64 ((AZ .u64 p0 1)) 6148914691236517205) + (AK .u64 p0 6148914691236517205)))) 2)) 3689348814741910323) + (AK .u64 ((wI .u64 ((AK .u64 ((AZ .u64 p0 1)) 6148914691236517205) + (AK .u64 p0 6148914691236517205)))) 3689348814741910323)))))) 1085102592571150095) + (AZ .u64 ((AK .u64 ((wI .u64 ((AZ .u64 ((wI .u64 ((AK .u64 ((AZ .u64 ((wI .u64 ((AK .u64 ((AZ .u64 p0 1)) 6148914691236517205) + (AK .u64 p0 6148914691236517205)))) 2)) 3689348814741910323) + (AK .u64 ((wI .u64 ((AK .u64 ((AZ .u64 p0 1)) 6148914691236517205) + (AK .u64 p0 6148914691236517205)))) 3689348814741910323)))) 4) + (wI .u64 ((AK .u64 ((AZ .u64 ((wI .u64 ((AK .u64 ((AZ .u64 p0 1)) 6148914691236517205) + (AK .u64 p0 6148914691236517205)))) 2)) 3689348814741910323) + (AK .u64 ((wI .u64 ((AK .u64 ((AZ .u64 p0 1)) 6148914691236517205) + (AK .u64 p0 6148914691236517205)))) 3689348814741910323)))))) 1085102592571150095)) 8))) + (AZ .u64 ((wI .u64 ((AK .u64 ((wI .u64 ((AZ .u64 ((wI .u64 ((AK .u64 ((AZ .u64 ((wI .u64 ((AK .u64 ((AZ .u64 p0 1)) 6148914691236517205) + (AK .u64 p0 6148914691236517205)))) 2)) 3689348814741910323) + (AK .u64 ((wI .u64 ((AK .u64 ((AZ .u64 p0 1)) 6148914691236517205) + (AK .u64 p0 6148914691236517205)))) 3689348814741910323)))) 4) + (wI .u64 ((AK .u64 ((AZ .u64 ((wI .u64 ((AK .u64 ((AZ .u64 p0 1)) 6148914691236517205) + (AK .u64 p0 6148914691236517205)))) 2)) 3689348814741910323) + (AK .u64 ((wI .u64 ((AK .u64 ((AZ .u64 p0 1)) 6148914691236517205) + (AK .u64 p0 6148914691236517205)))) 3689348814741910323)))))) 1085102592571150095) + (AZ .u64 ((AK .u64 ((wI .u64 ((AZ .u64 ((wI .u64 ((AK .u64 ((AZ .u64 ((wI .u64 ((AK .u64 ((AZ .u64 p0 1)) 6148914691236517205) + (AK .u64 p0 6148914691236517205)))) 2)) 3689348814741910323) + (AK .u64 ((wI .u64 ((AK .u64 ((AZ .u64 p0 1)) 6148914691236517205) + (AK .u64 p0 6148914691236517205)))) 3689348814741910323)))) 4) + (wI .u64 ((AK .u64 ((AZ .u64 ((wI .u64 ((AK .u64 ((AZ .u64 p0 1)) 6148914691236517205) + (AK .u64 p0 6148914691236517205)))) 2)) 3689348814741910323) + (AK .u64 ((wI .u64 ((AK .u64 ((AZ .u64 p0 1)) 6148914691236517205) + (AK .u64 p0 6148914691236517205)))) 3689348814741910323)))))) 1085102592571150095)) 8)))) 16)))) 32)))))) 127)))] [] rfl rfl) (Ar ?_)
 exact ⟨⟨[_], tm, rfl⟩, tv⟩
theorem Iv (N : Nat) (p0 : Int) (r : Int) (h : Fo N p0 = some r) : Ao zA0 113 [pD (.val (.int .u64 p0))] [] (iD r) := by
 unfold Fo at h
 refine cw (n := 8) (rs := [.tmp 2]) Tryz.func113 fun w0 S0 => ?_
 refine wq rfl (qa rfl (Ab (AN ?_)))
 refine A8 h (fun h => ?_) fun h => ?_
 ·refine wq rfl (qm rfl (JP YG Sp rfl ?_))
  refine BP h fun v2 a2 h => Ax [] (KN N ((wI .u32 p0)) v2 a2) bt rfl (qe rfl ?_)
  obtain rfl := sj h
  refine Ae (sm [] [(2, iD v2)] [] rfl rfl) (Ar ?_)
  exact ⟨⟨[_], tm, rfl⟩, tv⟩
 ·refine Ai (wq rfl (qm rfl ?_))
  refine BP h fun v3 a3 h => Ax [] (KI N p0 v3 a3) cV rfl (qe rfl ?_)
  obtain rfl := sj h
  refine Ae (sm [] [(2, iD v3)] [] rfl rfl) (Ar ?_)
  exact ⟨⟨[_], tm, rfl⟩, tv⟩
def aC : Go.Shelf.Ren := ⟨fun | 27 => 82 | 28 => 115 | 29 => 116 | n => n, fun | 0 => 0 | 3 => 3 | 4 => 4 | 5 => 5 | 22 => 147 | 25 => 71 | 27 => 145 | 53 => 180 | 54 => 181 | n => n, fun | 0 => 0 | 1 => 1 | n => n⟩
theorem ap : Lays7.n27 zA0 aC := { mixed := Av, f27 := Tryz.func82.trans (congrArg some (by kernel_rfl)), f28 := Tryz.func115.trans (congrArg some (by kernel_rfl)), f29 := Tryz.func116.trans (congrArg some (by kernel_rfl)), t0 := Tryz.underlying0, a0 := Tryz.isAgg0, z0 := Tryz.sizeOf0, v0 := Tryz.zeroValue0, i0 := by kernel_rfl, t3 := Tryz.underlying3, a3 := Tryz.isAgg3, z3 := Tryz.sizeOf3, v3 := Tryz.zeroValue3, i3 := by kernel_rfl, t4 := Tryz.underlying4, a4 := Tryz.isAgg4, z4 := Tryz.sizeOf4, v4 := Tryz.zeroValue4, i4 := by kernel_rfl, t5 := Tryz.underlying5, a5 := Tryz.isAgg5, z5 := Tryz.sizeOf5, v5 := Tryz.zeroValue5, i5 := by kernel_rfl, t22 := Tryz.underlying147, a22 := Tryz.isAgg147, z22 := Tryz.sizeOf147, v22 := Tryz.zeroValue147, i22 := by kernel_rfl, t25 := Tryz.underlying71, a25 := Tryz.isAgg71, z25 := Tryz.sizeOf71, v25 := Tryz.zeroValue71, i25 := by kernel_rfl, t27 := Tryz.underlying145, a27 := Tryz.isAgg145, z27 := Tryz.sizeOf145, v27 := Tryz.zeroValue145, i27 := by kernel_rfl, t53 := Tryz.underlying180, a53 := Tryz.isAgg180, z53 := Tryz.sizeOf180, v53 := Tryz.zeroValue180, i53 := by kernel_rfl, t54 := Tryz.underlying181, a54 := Tryz.isAgg181, z54 := Tryz.sizeOf181, g0 := by kernel_rfl, g1 := by kernel_rfl }
theorem J7 (N : Nat) (p0 : Int) (r : Int) (h : G7 N p0 = some r) : Ao zA0 82 [pD (.val (.int .u64 p0))] [] (iD r) := dM ap (by kernel_rfl) h
theorem Ih (N : Nat) (p0 : Int) (r : (List Int)) (h : Bo N p0 = some r) : Ao zA0 52 [pD (.val (.int .u64 p0))] [(1, r.map Ak)] (oD (.own 0)) := by
 unfold Bo at h
 refine cw (n := 18) (rs := [.tmp 2]) Tryz.func52 fun w0 S0 => ?_
 refine wq rfl (qa rfl (Ab (wq rfl (qa rfl (Ab (wp rfl (qm rfl (qe rfl ?_))))))))
 refine AE (L := Gt N) h (fun v1 => mk [(3, oD (.own 2001)), (4, pD (.val (.int .u64 v1.2)))] [(2001, .vec 1 (v1.1.map Ak))]) (fun v2 => mk [(3, oD (.own 2002))] [(2002, .vec 1 (v2.map Ak))]) (fun _ _ => rfl) ((AU 3 2003 1 rfl rfl rfl).trans (sm [(2001, 2003)] _ _ rfl rfl)) (fun j1 n1 v1 h => ?_) (fun v2 s h hs => ?_)
 ·unfold Gt at h
  refine wp rfl (qm rfl (Bp rfl (Ab ?_)))
  refine A8 h (fun h => ?_) fun h => ?_
  ·refine Ai (AN (AH (Ag Av rfl (qw 2 rfl ?_))))
   refine BP h fun v4 a4 h => Ax [] (J7 N v1.2 v4 a4) du rfl (Di As Cy I3 rfl ?_)
   refine FI h fun c5 h => Ck (f := Ak) As As Cy J8 I3 c5 rfl (qa rfl (Ab (Ag Av rfl (qw 2 rfl (Kh rfl (Iu rfl (qe rfl ?_)))))))
   exact sn [(2001, 16)] h
  ·refine AS ?_
   exact sn [(2002, 2001)] h
 ·refine Ae hs (wq rfl (qm rfl (qe rfl ?_)))
  obtain rfl := sj h
  refine Ae (sm [(1000, 2002)] [(2, oD (.own 1000))] [(1000, .vec 1 (v2.map Ak))] rfl rfl) (Ar ?_)
  exact ⟨⟨[_], tm, rfl⟩, ⟨rfl, tv⟩⟩
theorem Ll (N : Nat) (p0 : Int) (r : Bool) (h : Hd N p0 = some r) : Ao zA0 173 [iD p0] [] (bD r) := by
 unfold Hd at h
 refine cw (n := 6) (rs := [.tmp 2]) Tryz.func173 fun w0 S0 => ?_
 refine wq rfl (qa rfl (Ab (wq rfl (qw 2 rfl (Bp rfl (qe rfl ?_))))))
 obtain rfl := sj h
 refine Ae (sm [] [(2, bD ((p0 != p0)))] [] rfl rfl) (Ar ?_)
 exact ⟨⟨[_], tm, rfl⟩, tv⟩
theorem Nm (N : Nat) (p0 : Int) (p1 : Int) (r : Int) (h : HU N p0 p1 = some r) : Ao zA0 152 [iD p0, iD p1] [] (iD r) := by
 unfold HU at h
 refine cw (n := 20) (rs := [.tmp 4]) Tryz.func152 fun w0 S0 => ?_
 refine wq rfl (qa rfl (Ab (wq rfl (qm rfl ?_))))
 refine BP h fun v1 a1 h => Ax [] (Ll N p0 v1 a1) Zi rfl (qa rfl (Ab (wq rfl (qm rfl ?_))))
 refine BP h fun v2 a2 h => Ax [] (Ll N p1 v2 a2) Zi rfl (qa rfl (Ab (wp rfl (qm rfl (Ab ?_)))))
 refine A8 h (fun h => ?_) fun h => ?_
 ·refine wp rfl (qm rfl (Ab ?_))
  refine A8 h (fun h => ?_) fun h => ?_
  ·refine wq rfl (qe rfl ?_)
   obtain rfl := sj h
   refine Ae (sm [] [(4, iD 0)] [] rfl rfl) (Ar ?_)
   exact ⟨⟨[_], tm, rfl⟩, tv⟩
  ·refine Ai (wq rfl (qe rfl ?_))
   obtain rfl := sj h
   refine Ae (sm [] [(4, iD ((-1)))] [] rfl rfl) (Ar ?_)
   exact ⟨⟨[_], tm, rfl⟩, tv⟩
 ·refine Ai (wp rfl (qm rfl (Ab ?_)))
  refine A8 h (fun h => ?_) fun h => ?_
  ·refine wq rfl (qe rfl ?_)
   obtain rfl := sj h
   refine Ae (sm [] [(4, iD 1)] [] rfl rfl) (Ar ?_)
   exact ⟨⟨[_], tm, rfl⟩, tv⟩
  ·refine Ai (wp rfl (qw 2 rfl (AV rfl (Ab ?_))))
   refine A8 h (fun h => ?_) fun h => ?_
   ·refine wq rfl (qe rfl ?_)
    obtain rfl := sj h
    refine Ae (sm [] [(4, iD ((-1)))] [] rfl rfl) (Ar ?_)
    exact ⟨⟨[_], tm, rfl⟩, tv⟩
   ·refine Ai (wp rfl (qw 2 rfl (GM rfl (Ab ?_))))
    refine A8 h (fun h => ?_) fun h => ?_
    ·refine wq rfl (qe rfl ?_)
     obtain rfl := sj h
     refine Ae (sm [] [(4, iD 1)] [] rfl rfl) (Ar ?_)
     exact ⟨⟨[_], tm, rfl⟩, tv⟩
    ·refine Ai (wq rfl (qe rfl ?_))
     obtain rfl := sj h
     refine Ae (sm [] [(4, iD 0)] [] rfl rfl) (Ar ?_)
     exact ⟨⟨[_], tm, rfl⟩, tv⟩
theorem Kv (N : Nat) (p0 : List Int) (p1 : List Int) (r : Int) (h : FG N p0 p1 = some r) : Ao zA0 114 [pD (.sl (p0.map Ak)), pD (.sl (p1.map Ak))] [] (iD r) := by
 unfold FG at h
 refine cw (n := 36) (rs := [.tmp 4]) Tryz.func114 fun w0 S0 => ?_
 refine wq rfl (qa rfl (Ab (wp rfl (qm rfl (AJ As rfl (qm rfl (Ab ?_)))))))
 refine AE (L := DZ N p0 p1) h (fun v1 => mk [(0, pD (.sl (p0.map Ak))), (1, pD (.sl (p1.map Ak))), (9, pD (.sl (p0.map Ak))), (10, iD ((p0.length : Int))), (11, iD v1)] []) (fun v2 => mk [(0, pD (.sl (p0.map Ak))), (1, pD (.sl (p1.map Ak)))] []) (fun _ _ => rfl) (sm [] _ _ rfl rfl) (fun j1 n1 v1 h => ?_) (fun v2 s h hs => ?_)
 ·unfold DZ at h
  refine wq rfl (AV rfl (Ab (AN ?_)))
  refine A8 h (fun h => ?_) fun h => ?_
  ·refine Ai (AN (AH (wq rfl (qm rfl ?_))))
   refine BD h fun v4 a4 b4 h => qi As Cy a4 (Af b4) rfl (qk BV rfl (qa rfl (qa rfl (Ab (wp rfl (qw 2 rfl (AJ As rfl (EE rfl (Ab ?_)))))))))
   refine A8 h (fun h => ?_) fun h => ?_
   ·refine wq rfl (qe rfl ?_)
    obtain rfl := sj h
    refine Ae (sm [] [(4, iD 1)] [] rfl rfl) (Ar ?_)
    exact ⟨⟨[_], tm, rfl⟩, tv⟩
   ·refine Ai (wq rfl (qw 2 rfl ?_))
    refine BD h fun v6 a6 b6 h => qi As Cy a6 (Af b6) rfl (qk BV rfl (qa rfl (Ab (wq rfl (qw 2 rfl ?_)))))
    refine BP h fun v7 a7 h => Ax [] (Nm N v4 v6 v7 a7) cu rfl (qa rfl (Ab (wq rfl (qm rfl (Bp rfl (Ab ?_))))))
    refine A8 h (fun h => ?_) fun h => ?_
    ·refine wq rfl (qm rfl (qe rfl ?_))
     obtain rfl := sj h
     refine Ae (sm [] [(4, iD v7)] [] rfl rfl) (Ar ?_)
     exact ⟨⟨[_], tm, rfl⟩, tv⟩
    ·refine Ai (Ag Av rfl (AX rfl (qm rfl (Ab ?_))))
     exact sn [] h
  ·refine AS ?_
   exact sn [] h
 ·refine Ae hs (wp rfl (qm rfl (AJ As rfl (qm rfl (AJ As rfl (AV rfl (Ab ?_)))))))
  refine A8 h (fun h => ?_) fun h => ?_
  ·refine wq rfl (qe rfl ?_)
   obtain rfl := sj h
   refine Ae (sm [] [(4, iD ((-1)))] [] rfl rfl) (Ar ?_)
   exact ⟨⟨[_], tm, rfl⟩, tv⟩
  ·refine Ai (wq rfl (qe rfl ?_))
   obtain rfl := sj h
   refine Ae (sm [] [(4, iD 0)] [] rfl rfl) (Ar ?_)
   exact ⟨⟨[_], tm, rfl⟩, tv⟩
theorem PO (N : Nat) (p0 : Int) (p1 : Int) (r : Int) (h : DA N p0 p1 = some r) : Ao zA0 78 [pD (.val (.int .u64 p0)), pD (.val (.int .u64 p1))] [] (iD r) := by
 unfold DA at h
 refine cw (n := 19) (rs := [.tmp 4]) Tryz.func78 fun w0 S0 => ?_
 refine wq rfl (qa rfl (Ab (wp rfl (qm rfl ?_))))
 refine BP h fun v1 a1 h => Ax [] (Iv N p0 v1 a1) Zm rfl (qm rfl ?_)
 refine BP h fun v2 a2 h => Ax [] (Iv N p1 v2 a2) Zm rfl (Kh rfl (qa rfl (Ab (wq rfl (qm rfl (Bp rfl (Ab ?_)))))))
 refine A8 h (fun h => ?_) fun h => ?_
 ·refine wq rfl (qm rfl (qe rfl ?_))
  obtain rfl := sj h
  refine Ae (sm [] [(4, iD ((wI .i64 (v1 - v2))))] [] rfl rfl) (Ar ?_)
  exact ⟨⟨[_], tm, rfl⟩, tv⟩
 ·refine Ai (wq rfl (qm rfl ?_))
  refine BP h fun v4 a4 h => Ax [2001] (Ih N p0 v4 a4) YV rfl (qm rfl ?_)
  refine BP h fun v5 a5 h => Ax [2002] (Ih N p1 v5 a5) YV rfl ?_
  refine BP h fun v6 a6 h => D0 [] [2001, 2002] (Kv N v4 v5 v6 a6) cC Cn rfl (qe rfl ?_)
  obtain rfl := sj h
  refine Ae (sm [] [(4, iD v6)] [] rfl rfl) (Ar ?_)
  exact ⟨⟨[_], tm, rfl⟩, tv⟩
theorem Ii (N : Nat) (p0 : List Int) (p1 : Int) (r : Int) (h : Dn N p0 p1 = some r) : Ao zA0 72 [pD (.sl (p0.map Ak)), iD p1] [] (iD r) := by
 unfold Dn at h
 refine cw (n := 19) (rs := [.tmp 4]) Tryz.func72 fun w0 S0 => ?_
 refine wq rfl (qa rfl (Ab (wp rfl (qm rfl (AJ As rfl (qm rfl (Ab ?_)))))))
 refine AE (L := BK N p0 p1) h (fun v1 => mk [(0, pD (.sl (p0.map Ak))), (1, iD p1), (7, iD ((p0.length : Int))), (8, iD v1)] []) (fun v2 => mk [] []) (fun _ _ => rfl) (sm [] _ _ rfl rfl) (fun j1 n1 v1 h => ?_) (fun v2 s h hs => ?_)
 ·unfold BK at h
  refine wq rfl (AV rfl (Ab (AN ?_)))
  refine A8 h (fun h => ?_) fun h => ?_
  ·refine Ai (AN (AH (wq rfl (qm rfl (qa rfl (Ab (wq rfl (qw 3 rfl ?_))))))))
   refine BD h fun v4 a4 b4 h => qi As Cy a4 (Af b4) rfl (qk BV rfl (Cf rfl (Ab ?_)))
   refine A8 h (fun h => ?_) fun h => ?_
   ·refine wq rfl (qm rfl (qe rfl ?_))
    obtain rfl := sj h
    refine Ae (sm [] [(4, iD v1)] [] rfl rfl) (Ar ?_)
    exact ⟨⟨[_], tm, rfl⟩, tv⟩
   ·refine Ai (Ag Av rfl (AX rfl (qm rfl (Ab ?_))))
    exact sn [] h
  ·refine AS ?_
   exact sn [] h
 ·refine Ae hs (wq rfl (qe rfl ?_))
  obtain rfl := sj h
  refine Ae (sm [] [(4, iD ((-1)))] [] rfl rfl) (Ar ?_)
  exact ⟨⟨[_], tm, rfl⟩, tv⟩
theorem HC (N : Nat) (p0 : List (List Bool)) (r : (List (List Bool))) (h : C1 N p0 = some r) : Ao zA0 102 [pD (.sl (p0.map (EP eB)))] [(1, r.map (EP eB))] (oD (.own 0)) := by
 unfold C1 at h
 refine cw (n := 8) (rs := [.tmp 2]) Tryz.func102 fun w0 S0 => ?_
 refine wq rfl (qa rfl (Ab (wp rfl (qm rfl ?_))))
 refine Nq (.p rfl) rfl EC ?_
 refine Ab ?_
 refine M6 rfl (fun c2 => ?_) ?_
 ·have c2 := zH3.1 c2
  rw [c2] at h
  have h : (some (([] : List (List Bool)))) = some r := h
  refine wq rfl (qe rfl ?_)
  obtain rfl := sj h
  refine Ae ((AU 2 2001 1 rfl rfl rfl).trans (sm [(1000, 2001)] [(2, oD (.own 1000))] [(1000, .vec 1 ((([] : List (List Bool))).map (EP eB)))] rfl rfl)) (Ar ?_)
  exact ⟨⟨[_], tm, rfl⟩, ⟨rfl, tv⟩⟩
 ·refine Ai (wq rfl (Di EC JJ Uh rfl (qm rfl ?_)))
  refine FI h fun c1 h => I4 (f := (EP eB)) EC EC JJ WJ Uh (fun _ => rfl) c1 rfl (qe rfl ?_)
  obtain rfl := sj h
  refine Ae (sm [(1000, 7)] [(2, oD (.own 1000))] [(1000, .vec 1 (((([] : List (List Bool))) ++ p0).map (EP eB)))] rfl rfl) (Ar ?_)
  exact ⟨⟨[_], tm, rfl⟩, ⟨rfl, tv⟩⟩
theorem Ha (N : Nat) (p0 : List Bool) (r : (List Bool)) (h : CD N p0 = some r) : Ao zA0 103 [pD (.sl (p0.map eB))] [(1, r.map eB)] (oD (.own 0)) := by
 unfold CD at h
 refine cw (n := 8) (rs := [.tmp 2]) Tryz.func103 fun w0 S0 => ?_
 refine wq rfl (qa rfl (Ab (wp rfl (qm rfl ?_))))
 refine Nq (.p rfl) rfl EN ?_
 refine Ab ?_
 refine M6 rfl (fun c2 => ?_) ?_
 ·have c2 := zH3.1 c2
  rw [c2] at h
  have h : (some (([] : List Bool))) = some r := h
  refine wq rfl (qe rfl ?_)
  obtain rfl := sj h
  refine Ae ((AU 2 2001 1 rfl rfl rfl).trans (sm [(1000, 2001)] [(2, oD (.own 1000))] [(1000, .vec 1 ((([] : List Bool)).map eB))] rfl rfl)) (Ar ?_)
  exact ⟨⟨[_], tm, rfl⟩, ⟨rfl, tv⟩⟩
 ·refine Ai (wq rfl (Di EN N7 Sd rfl (qm rfl ?_)))
  refine FI h fun c1 h => I4 (f := eB) EN EN N7 VV Sd (fun _ => rfl) c1 rfl (qe rfl ?_)
  obtain rfl := sj h
  refine Ae (sm [(1000, 7)] [(2, oD (.own 1000))] [(1000, .vec 1 (((([] : List Bool)) ++ p0).map eB))] rfl rfl) (Ar ?_)
  exact ⟨⟨[_], tm, rfl⟩, ⟨rfl, tv⟩⟩
theorem Pj (N : Nat) (p0 : An) (r : An) (h : GK N p0 = some r) : Ao zA0 73 [.e (.agg (Ba p0))] [(1, r.fq.map (EP eB)), (1, r.fk.map (EP eB))] (.e (.agg [iC r.ff, iC r.fg, iC r.fj, .pure (.val (.bool r.fr)), .own 0, .own 1])) := by
 unfold GK at h
 refine cw (n := 48) (rs := [.cell 2 84]) Tryz.func73 fun w0 S0 => ?_
 refine wq rfl (qb rfl (qz I7 rfl (Ab (wq rfl (qf Hl rfl (ql IG rfl ?_))))))
 refine BP h fun v1 a1 h => Ax [2001] (HC N p0.fq v1 a1) Zs rfl (qf FD rfl (ql IG rfl ?_))
 refine BP h fun v2 a2 h => Ax [2002] (HC N p0.fk v2 a2) Zs rfl (qf Hl rfl (qs Ya rfl (qf FD rfl (qs Ya rfl (AL (by kernel_rfl) (wp rfl (qf Hl rfl (ql IG rfl (EL EC rfl (qm rfl (Ab ?_)))))))))))
 refine AE (L := D5 N v1) h (fun v3 => mk [(1, oD (.ptr 1 0)), (2, oD (.ptr 2 0)), (15, iD ((v1.length : Int))), (16, iD v3.2)] [(1, .box [iC p0.ff, iC p0.fg, iC p0.fj, .pure (.val (.bool p0.fr)), .own 2003, .own 2004]), (2, .box [iC 0, iC 0, iC 0, .pure (.val (.bool false)), .pure (.nil0), .pure (.nil0)]), (2003, .vec 1 (v3.1.map (EP eB))), (2004, .vec 1 (v2.map (EP eB)))]) (fun v4 => mk [(1, oD (.ptr 1 0)), (2, oD (.ptr 2 0))] [(1, .box [iC p0.ff, iC p0.fg, iC p0.fj, .pure (.val (.bool p0.fr)), .own 2005, .own 2006]), (2, .box [iC 0, iC 0, iC 0, .pure (.val (.bool false)), .pure (.nil0), .pure (.nil0)]), (2005, .vec 1 (v4.map (EP eB))), (2006, .vec 1 (v2.map (EP eB)))]) (fun _ _ => rfl) (sm [(2003, 2001), (2004, 2002)] _ _ rfl rfl) (fun j3 n3 v3 h => ?_) (fun v4 s h hs => ?_)
 ·unfold D5 at h
  refine wq rfl (AV rfl (Ab (AN ?_)))
  refine A8 h (fun h => ?_) fun h => ?_
  ·refine Ai (AN (AH (wq rfl (qm rfl (qa rfl (Ab (Ag Av rfl (qf Hl rfl (ql IG rfl (qm rfl (qf Hl rfl (ql IG rfl (qm rfl ?_)))))))))))))
   refine BD h fun v6 a6 b6 h => qI EC JJ a6 (Af b6) rfl (qj OI (Af b6) rfl ?_)
   refine BP h fun v7 a7 h => Ax [] ((Ha N v6 v7 a7).share rfl) Zz rfl ?_
   refine BD h fun v8 a8 b8 h => qI EC JJ a8 (Af b8) rfl ?_
   refine DG rfl rfl rfl rfl (Af b8) rfl JJ rfl (Jc rfl) (Dy (EP eB) v3.1 _ v7) ?_
   refine AL (by kernel_rfl) (Ag Av rfl (AX rfl (qm rfl (Ab ?_))))
   exact sn [] h
  ·refine AS ?_
   exact sn [(2005, 2003), (2006, 2004)] h
 ·refine Ae hs (wp rfl (qf FD rfl (ql IG rfl (EL EC rfl (qm rfl (Ab ?_))))))
  refine AE (L := C8 N v2) h (fun v9 => mk [(1, oD (.ptr 1 0)), (2, oD (.ptr 2 0)), (32, iD ((v2.length : Int))), (33, iD v9.2)] [(1, .box [iC p0.ff, iC p0.fg, iC p0.fj, .pure (.val (.bool p0.fr)), .own 2007, .own 2008]), (2, .box [iC 0, iC 0, iC 0, .pure (.val (.bool false)), .pure (.nil0), .pure (.nil0)]), (2007, .vec 1 (v4.map (EP eB))), (2008, .vec 1 (v9.1.map (EP eB)))]) (fun v10 => mk [(1, oD (.ptr 1 0)), (2, oD (.ptr 2 0))] [(1, .box [iC p0.ff, iC p0.fg, iC p0.fj, .pure (.val (.bool p0.fr)), .own 2009, .own 2010]), (2, .box [iC 0, iC 0, iC 0, .pure (.val (.bool false)), .pure (.nil0), .pure (.nil0)]), (2009, .vec 1 (v4.map (EP eB))), (2010, .vec 1 (v10.map (EP eB)))]) (fun _ _ => rfl) (sm [(2007, 2005), (2008, 2006)] _ _ rfl rfl) (fun j9 n9 v9 h => ?_) (fun v10 s h hs => ?_)
  ·unfold C8 at h
   refine wq rfl (AV rfl (Ab (AN ?_)))
   refine A8 h (fun h => ?_) fun h => ?_
   ·refine Ai (AN (AH (wq rfl (qm rfl (qa rfl (Ab (Ag Av rfl (qf FD rfl (ql IG rfl (qm rfl (qf FD rfl (ql IG rfl (qm rfl ?_)))))))))))))
    refine BD h fun v12 a12 b12 h => qI EC JJ a12 (Af b12) rfl (qj OI (Af b12) rfl ?_)
    refine BP h fun v13 a13 h => Ax [] ((Ha N v12 v13 a13).share rfl) Zz rfl ?_
    refine BD h fun v14 a14 b14 h => qI EC JJ a14 (Af b14) rfl ?_
    refine DG rfl rfl rfl rfl (Af b14) rfl JJ rfl (Jc rfl) (Dy (EP eB) v9.1 _ v13) ?_
    refine AL (by kernel_rfl) (Ag Av rfl (AX rfl (qm rfl (Ab ?_))))
    exact sn [] h
   ·refine AS ?_
    exact sn [(2009, 2007), (2010, 2008)] h
  ·refine Ae hs (wq rfl (qL G1 Dl rfl (qs Dl rfl (Ab ?_))))
   obtain rfl := sj h
   refine Ae (sm [(1000, 2009), (1001, 2010)] [(2, oD (.ptr 2 0))] [(2, .box [iC p0.ff, iC p0.fg, iC p0.fj, .pure (.val (.bool p0.fr)), .own 1000, .own 1001]), (1000, .vec 1 (v4.map (EP eB))), (1001, .vec 1 (v10.map (EP eB)))] rfl rfl) (Ar ?_)
   exact ⟨⟨[_], ⟨.cellN _ _ _ _ _ _ _ rfl rfl G1 Dl rfl rfl (Jo rfl), tv⟩, rfl⟩, ⟨rfl, rfl, tv⟩⟩
theorem NX (N : Nat) (p0 : Aa) (p1 : List Int) (r : Aa × Int) (h : FT N p0 p1 = some r) : Ao zA0 39 [.e (.agg (Ah p0)), pD (.sl (p1.map Ak))] [(1, r.1.fa.map Ak), (1, r.1.fi.map Ak), (1, r.1.fm.map Ak), (6, r.1.fc.map AM)] (.tup [.agg [.own 0, .own 1, .own 2, .own 3], .one (iC r.2)]) := by
 unfold FT at h
 refine cw (n := 121) (rs := [.cell 4 29, .tmp 5]) Tryz.func39 fun w0 S0 => ?_
 refine wq rfl (qb rfl (qz Km rfl (qa rfl (Ab (wp rfl (qL CU BY rfl ?_))))))
 refine BP h fun v1 a1 h => Ax [] (E5 N p0 v1 a1) Xj rfl (qa rfl (Ab (wq rfl (qm rfl (Bp rfl (Ab ?_))))))
 refine A8 h (fun h => ?_) fun h => ?_
 ·refine wq rfl (Bg Km SS rfl (qm rfl (qs BY rfl (qe rfl ?_))))
  obtain rfl := sj h
  refine Ae ((Aq 4 0 2001 1 _ rfl rfl rfl rfl).trans ((Aq 4 1 2002 1 _ rfl rfl rfl rfl).trans ((Aq 4 2 2003 1 _ rfl rfl rfl rfl).trans ((Aq 4 3 2004 6 _ rfl rfl rfl rfl).trans (sm [(1000, 2001), (1001, 2002), (1002, 2003), (1003, 2004)] [(4, oD (.ptr 4 0)), (5, iD v1)] [(4, .box [.own 1000, .own 1001, .own 1002, .own 1003]), (1000, .vec 1 ((([] : List Int)).map Ak)), (1001, .vec 1 ((([] : List Int)).map Ak)), (1002, .vec 1 ((([] : List Int)).map Ak)), (1003, .vec 6 ((([] : List An)).map AM))] rfl rfl))))) (Ar ?_)
  exact ⟨⟨[_, _], ⟨.cellN _ _ _ _ _ _ _ rfl rfl CU BY rfl rfl (Jo rfl), tm⟩, rfl⟩, ⟨rfl, rfl, rfl, rfl, tv⟩⟩
 ·refine Ai (wp rfl (qm rfl (AJ As rfl (qm rfl (Ab ?_)))))
  refine AE (L := Cx N p1) h (fun v3 => mk [(1, pD (.sl (p1.map Ak))), (2, oD (.ptr 2 0)), (4, oD (.ptr 4 0)), (22, iD ((p1.length : Int))), (23, iD v3)] [(2, .box (Ah p0)), (4, .box [.pure (.nil0), .pure (.nil0), .pure (.nil0), .pure (.nil0)])]) (fun v4 => mk [(1, pD (.sl (p1.map Ak))), (2, oD (.ptr 2 0)), (4, oD (.ptr 4 0))] [(2, .box (Ah p0)), (4, .box [.pure (.nil0), .pure (.nil0), .pure (.nil0), .pure (.nil0)])]) (fun _ _ => rfl) (sm [] _ _ rfl rfl) (fun j3 n3 v3 h => ?_) (fun v4 s h hs => ?_)
  ·unfold Cx at h
   refine wq rfl (AV rfl (Ab (AN ?_)))
   refine A8 h (fun h => ?_) fun h => ?_
   ·refine Ai (AN (AH (wq rfl (qm rfl (qe rfl ?_)))))
    refine AR h (fun v6 => mk [(1, pD (.sl (p1.map Ak))), (2, oD (.ptr 2 0)), (4, oD (.ptr 4 0)), (22, iD ((p1.length : Int))), (23, iD v3), (39, bD v6)] [(2, .box (Ah p0)), (4, .box [.pure (.nil0), .pure (.nil0), .pure (.nil0), .pure (.nil0)])]) (fun j6 h => ?_) (fun v6 h => ?_)
    ·refine Ag Av rfl (qm rfl (GM rfl (qm rfl ?_)))
     refine Ey 28 h rfl (fun h => ?_) fun h => ?_
     ·refine qw 2 rfl ?_
      refine BD h fun v8 a8 b8 h => qi As Cy a8 (Af b8) rfl (qk BV rfl (qw 2 rfl (Kh rfl ?_)))
      refine BD h fun v9 a9 b9 h => qi As Cy a9 (Af b9) rfl (qk BV rfl (UW rfl (qp rfl (AL (by kernel_rfl) ?_))))
      exact sn [] h
     ·refine qw 10 rfl (qp rfl (AL (by kernel_rfl) ?_))
      exact sn [] h
    ·refine A8 h (fun h => ?_) fun h => ?_
     ·refine wq rfl (Bg Km SS rfl (qs BY rfl (qe rfl ?_)))
      obtain rfl := sj h
      refine Ae ((Aq 4 0 2005 1 _ rfl rfl rfl rfl).trans ((Aq 4 1 2006 1 _ rfl rfl rfl rfl).trans ((Aq 4 2 2007 1 _ rfl rfl rfl rfl).trans ((Aq 4 3 2008 6 _ rfl rfl rfl rfl).trans (sm [(1000, 2005), (1001, 2006), (1002, 2007), (1003, 2008)] [(4, oD (.ptr 4 0)), (5, iD 1)] [(4, .box [.own 1000, .own 1001, .own 1002, .own 1003]), (1000, .vec 1 ((([] : List Int)).map Ak)), (1001, .vec 1 ((([] : List Int)).map Ak)), (1002, .vec 1 ((([] : List Int)).map Ak)), (1003, .vec 6 ((([] : List An)).map AM))] rfl rfl))))) (Ar ?_)
      exact ⟨⟨[_, _], ⟨.cellN _ _ _ _ _ _ _ rfl rfl CU BY rfl rfl (Jo rfl), tm⟩, rfl⟩, ⟨rfl, rfl, rfl, rfl, tv⟩⟩
     ·refine Ai (Ag Av rfl (AX rfl (qm rfl (Ab ?_))))
      exact sn [] h
   ·refine AS ?_
    exact sn [] h
  ·refine Ae hs (wq rfl (qz Km rfl (Ab (wp rfl (qm rfl (AJ As rfl (qm rfl (Ab ?_))))))))
   refine AE (L := DP N p0 p1) h (fun v11 => mk [(1, pD (.sl (p1.map Ak))), (2, oD (.ptr 2 0)), (4, oD (.ptr 4 0)), (8, oD (.ptr 8 0)), (42, pD (.sl (p1.map Ak))), (43, iD ((p1.length : Int))), (44, iD v11.2.2.2)] [(2, .box (Ah p0)), (4, .box [.pure (.nil0), .pure (.nil0), .pure (.nil0), .pure (.nil0)]), (8, .box [.own 2009, .own 2010, .own 2011, .pure (.nil0)]), (2009, .vec 1 (v11.1.map Ak)), (2010, .vec 1 (v11.2.1.map Ak)), (2011, .vec 1 (v11.2.2.1.map Ak))]) (fun v12 => mk [(1, pD (.sl (p1.map Ak))), (2, oD (.ptr 2 0)), (4, oD (.ptr 4 0)), (8, oD (.ptr 8 0))] [(2, .box (Ah p0)), (4, .box [.pure (.nil0), .pure (.nil0), .pure (.nil0), .pure (.nil0)]), (8, .box [.own 2012, .own 2013, .own 2014, .pure (.nil0)]), (2012, .vec 1 (v12.1.map Ak)), (2013, .vec 1 (v12.2.1.map Ak)), (2014, .vec 1 (v12.2.2.map Ak))]) (fun _ _ => rfl) ((Aq 8 0 2019 1 _ rfl rfl rfl rfl).trans ((Aq 8 1 2020 1 _ rfl rfl rfl rfl).trans ((Aq 8 2 2021 1 _ rfl rfl rfl rfl).trans (sm [(2009, 2019), (2010, 2020), (2011, 2021)] _ _ rfl rfl)))) (fun j11 n11 v11 h => ?_) (fun v12 s h hs => ?_)
   ·unfold DP at h
    refine wq rfl (AV rfl (Ab (AN ?_)))
    refine A8 h (fun h => ?_) fun h => ?_
    ·refine Ai (AN (AH (wq rfl ?_)))
     refine BD h fun v14 a14 b14 h => qi As Cy a14 (Af b14) rfl (qk BV rfl (qa rfl (Ab (wp rfl (qm rfl (qf A6 rfl (ql A1 rfl (AJ As rfl ?_))))))))
     refine BP h fun v15 a15 h => Ax [] (G4 N v14 ((p0.fa.length : Int)) v15 a15) Xp rfl (Cm rfl (Ab ?_))
     refine A8 h (fun h => ?_) fun h => ?_
     ·refine wq rfl (Bg Km SS rfl (qs BY rfl (qe rfl ?_)))
      obtain rfl := sj h
      refine Ae ((Aq 4 0 2015 1 _ rfl rfl rfl rfl).trans ((Aq 4 1 2016 1 _ rfl rfl rfl rfl).trans ((Aq 4 2 2017 1 _ rfl rfl rfl rfl).trans ((Aq 4 3 2018 6 _ rfl rfl rfl rfl).trans (sm [(1000, 2015), (1001, 2016), (1002, 2017), (1003, 2018)] [(4, oD (.ptr 4 0)), (5, iD 4)] [(4, .box [.own 1000, .own 1001, .own 1002, .own 1003]), (1000, .vec 1 ((([] : List Int)).map Ak)), (1001, .vec 1 ((([] : List Int)).map Ak)), (1002, .vec 1 ((([] : List Int)).map Ak)), (1003, .vec 6 ((([] : List An)).map AM))] rfl rfl))))) (Ar ?_)
      exact ⟨⟨[_, _], ⟨.cellN _ _ _ _ _ _ _ rfl rfl CU BY rfl rfl (Jo rfl), tm⟩, rfl⟩, ⟨rfl, rfl, rfl, rfl, tv⟩⟩
     ·refine Ai (wq rfl (qf A6 rfl (ql A1 rfl (qf A6 rfl (ql A1 rfl (qm rfl ?_))))))
      refine BD h fun v17 a17 b17 h => qi As Cy a17 (Af b17) rfl (qk BV rfl (Di As Cy I3 rfl ?_))
      refine FI h fun c18 h => Ck (f := Ak) As As Cy J8 I3 c18 rfl (qf A6 rfl (qs GZ rfl (AL (by kernel_rfl) (wq rfl (qf FA rfl (ql A1 rfl (qf FA rfl (ql A1 rfl (qm rfl ?_)))))))))
      refine BD h fun v19 a19 b19 h => qi As Cy a19 (Af b19) rfl (qk BV rfl (Di As Cy I3 rfl ?_))
      refine FI h fun c20 h => Ck (f := Ak) As As Cy J8 I3 c20 rfl (qf FA rfl (qs GZ rfl (AL (by kernel_rfl) (Ag Av rfl (qf GB rfl (ql A1 rfl (qf GB rfl (ql A1 rfl (qm rfl ?_)))))))))
      refine BD h fun v21 a21 b21 h => qi As Cy a21 (Af b21) rfl (qk BV rfl (Di As Cy I3 rfl ?_))
      refine FI h fun c22 h => Ck (f := Ak) As As Cy J8 I3 c22 rfl (qf GB rfl (qs GZ rfl (AL (by kernel_rfl) (Ag Av rfl (AX rfl (qm rfl (Ab ?_)))))))
      exact sn [(2009, 63), (2010, 73), (2011, 83)] h
    ·refine AS ?_
     exact sn [(2012, 2009), (2013, 2010), (2014, 2011)] h
   ·refine Ae hs (wp rfl (qf Cc rfl (ql Hj rfl (AJ Dt rfl (qm rfl (Ab ?_))))))
    refine AE (L := CH N p0 p1) h (fun v23 => mk [(1, pD (.sl (p1.map Ak))), (4, oD (.ptr 4 0)), (8, oD (.ptr 8 0)), (87, pD (.sl (p0.fc.map AM))), (88, iD ((p0.fc.length : Int))), (89, iD v23.2)] [(4, .box [.pure (.nil0), .pure (.nil0), .pure (.nil0), .pure (.nil0)]), (8, .box [.own 2022, .own 2023, .own 2024, .own 2025]), (2022, .vec 1 (v12.1.map Ak)), (2023, .vec 1 (v12.2.1.map Ak)), (2024, .vec 1 (v12.2.2.map Ak)), (2025, .vec 6 (v23.1.map AM))]) (fun v24 => mk [(4, oD (.ptr 4 0)), (8, oD (.ptr 8 0))] [(4, .box [.pure (.nil0), .pure (.nil0), .pure (.nil0), .pure (.nil0)]), (8, .box [.own 2026, .own 2027, .own 2028, .own 2029]), (2026, .vec 1 (v12.1.map Ak)), (2027, .vec 1 (v12.2.1.map Ak)), (2028, .vec 1 (v12.2.2.map Ak)), (2029, .vec 6 (v24.map AM))]) (fun _ _ => rfl) ((Aq 8 3 2040 6 _ rfl rfl rfl rfl).trans (sm [(2022, 2012), (2023, 2013), (2024, 2014), (2025, 2040)] _ _ rfl rfl)) (fun j23 n23 v23 h => ?_) (fun v24 s h hs => ?_)
    ·unfold CH at h
     refine wq rfl (AV rfl (Ab (AN ?_)))
     refine A8 h (fun h => ?_) fun h => ?_
     ·refine Ai ?_
      refine AR h (fun v26 => mk [(1, pD (.sl (p1.map Ak))), (4, oD (.ptr 4 0)), (8, oD (.ptr 8 0)), (87, pD (.sl (p0.fc.map AM))), (88, iD ((p0.fc.length : Int))), (89, iD v23.2)] [(4, .box [.pure (.nil0), .pure (.nil0), .pure (.nil0), .pure (.nil0)]), (8, .box [.own 2030, .own 2031, .own 2032, .own 2033]), (2030, .vec 1 (v12.1.map Ak)), (2031, .vec 1 (v12.2.1.map Ak)), (2032, .vec 1 (v12.2.2.map Ak)), (2033, .vec 6 (v26.map AM))]) (fun j26 h => ?_) (fun v26 h => ?_)
      ·refine AH (wq rfl ?_)
       refine BD h fun v27 a27 b27 h => qi Dt Dl a27 (Af b27) rfl (qK G1 Dl rfl (qz I7 rfl (qs Dl rfl (Ab (wq rfl (qm rfl (qf Dd rfl (ql BV rfl ?_))))))))
       refine BP h fun v28 a28 h => Ax [] (Ii N p1 v27.fg v28 a28) bV rfl (qm rfl (qf HK rfl (ql BV rfl ?_)))
       refine BP h fun v29 a29 h => Ax [] (Ii N p1 v27.fj v29 a29) bV rfl (qa rfl (qa rfl (AL (by kernel_rfl) ?_)))
       refine AR h (fun v30 => mk [(1, pD (.sl (p1.map Ak))), (4, oD (.ptr 4 0)), (8, oD (.ptr 8 0)), (12, oD (.ptr 12 0)), (13, iD v28), (14, iD v29), (87, pD (.sl (p0.fc.map AM))), (88, iD ((p0.fc.length : Int))), (89, iD v23.2), (106, bD v30)] [(4, .box [.pure (.nil0), .pure (.nil0), .pure (.nil0), .pure (.nil0)]), (8, .box [.own 2034, .own 2035, .own 2036, .own 2037]), (12, .box (Ba v27)), (2034, .vec 1 (v12.1.map Ak)), (2035, .vec 1 (v12.2.1.map Ak)), (2036, .vec 1 (v12.2.2.map Ak)), (2037, .vec 6 (v23.1.map AM))]) (fun j30 h => ?_) (fun v30 h => ?_)
       ·refine Ag Av rfl (qm rfl (EE rfl (qm rfl ?_)))
        refine Ey 103 h rfl (fun h => ?_) fun h => ?_
        ·refine qm rfl (EE rfl (qp rfl (Ab ?_)))
         exact sn [(2034, 2022), (2035, 2023), (2036, 2024), (2037, 2025)] h
        ·refine qw 2 rfl (qp rfl (Ab ?_))
         exact sn [(2034, 2022), (2035, 2023), (2036, 2024), (2037, 2025)] h
       ·refine A8 h (fun h => ?_) fun h => ?_
        ·refine wq rfl (qL G1 Dl rfl ?_)
         refine BP h fun v33 a33 h => Ax [2038, 2039] (Pj N v27 v33 a33) dz rfl (qs Dl rfl (Ab (wq rfl (qw 2 rfl (qf Dd rfl (qs Cy rfl (qf HK rfl (qs Cy rfl (Ab (Ag Av rfl (qf Cc rfl (ql Hj rfl (qL G1 Dl rfl (CY (A9 2038 _ _ rfl rfl) (CY (A9 2039 _ _ rfl rfl) (Di Dt Dl I7 rfl ?_))))))))))))))))
         refine FI h fun c34 h => Ck (f := AM) Dt Dt Dl Wv I7 c34 rfl (qf Cc rfl (qs Z8 rfl (Ab ?_)))
         exact sn [(2030, 2034), (2031, 2035), (2032, 2036), (2033, 117)] h
        ·refine Ai ?_
         exact sn [(2030, 2034), (2031, 2035), (2032, 2036), (2033, 2037)] h
      ·refine Ag Av rfl (AX rfl (qm rfl (Ab ?_)))
       exact sn [(2022, 2030), (2023, 2031), (2024, 2032), (2025, 2033)] h
     ·refine AS ?_
      exact sn [(2026, 2022), (2027, 2023), (2028, 2024), (2029, 2025)] h
    ·refine Ae hs (wq rfl (qL CU BY rfl (qs BY rfl (qe rfl ?_))))
     obtain rfl := sj h
     refine Ae (sm [(1000, 2026), (1001, 2027), (1002, 2028), (1003, 2029)] [(4, oD (.ptr 4 0)), (5, iD 0)] [(4, .box [.own 1000, .own 1001, .own 1002, .own 1003]), (1000, .vec 1 (v12.1.map Ak)), (1001, .vec 1 (v12.2.1.map Ak)), (1002, .vec 1 (v12.2.2.map Ak)), (1003, .vec 6 (v24.map AM))] rfl rfl) (Ar ?_)
     exact ⟨⟨[_, _], ⟨.cellN _ _ _ _ _ _ _ rfl rfl CU BY rfl rfl (Jo rfl), tm⟩, rfl⟩, ⟨rfl, rfl, rfl, rfl, tv⟩⟩
theorem Em (N : Nat) (p0 : List Int) (r : (List Int)) (h : BU N p0 = some r) : Ao zA0 13 [pD (.sl (p0.map Ak))] [(1, r.map Ak)] (oD (.own 0)) := by
 unfold BU at h
 refine cw (n := 8) (rs := [.tmp 2]) Tryz.func13 fun w0 S0 => ?_
 refine wq rfl (qa rfl (Ab (wp rfl (qm rfl ?_))))
 refine Nq (.p rfl) rfl As ?_
 refine Ab ?_
 refine M6 rfl (fun c2 => ?_) ?_
 ·have c2 := zH3.1 c2
  rw [c2] at h
  have h : (some (([] : List Int))) = some r := h
  refine wq rfl (qe rfl ?_)
  obtain rfl := sj h
  refine Ae ((AU 2 2001 1 rfl rfl rfl).trans (sm [(1000, 2001)] [(2, oD (.own 1000))] [(1000, .vec 1 ((([] : List Int)).map Ak))] rfl rfl)) (Ar ?_)
  exact ⟨⟨[_], tm, rfl⟩, ⟨rfl, tv⟩⟩
 ·refine Ai (wq rfl (Di As Cy I3 rfl (qm rfl ?_)))
  refine FI h fun c1 h => I4 (f := Ak) As As Cy J8 I3 (fun _ => rfl) c1 rfl (qe rfl ?_)
  obtain rfl := sj h
  refine Ae (sm [(1000, 7)] [(2, oD (.own 1000))] [(1000, .vec 1 (((([] : List Int)) ++ p0).map Ak))] rfl rfl) (Ar ?_)
  exact ⟨⟨[_], tm, rfl⟩, ⟨rfl, tv⟩⟩
theorem M2 (N : Nat) (p0 : Int) (p1 : Int) (r : Int × Int) (h : HO N p0 p1 = some r) : Ao zA0 166 [pD (.val (.int .u32 p0)), pD (.val (.int .u32 p1))] [] (.tup [.one (.pure (.val (.int .u32 r.1))), .one (.pure (.val (.int .u32 r.2)))]) := by
 unfold HO at h
 refine cw (n := 17) (rs := [.tmp 4, .tmp 5]) Tryz.func166 fun w0 S0 => ?_
 refine wq rfl (qa rfl (qa rfl (Ab (wq rfl (qm rfl (JP UJ Zh rfl (qm rfl (JP UJ Zh rfl (Nv rfl (qa rfl (Ab (wq rfl (qm rfl (GU rfl (by decide) (JP W3 Sp rfl (qm rfl (JP W3 Sp rfl (qa rfl (qe rfl ?_)))))))))))))))))))
 obtain rfl := sj h
 refine Ae (sm [] [(4, pD (.val (.int .u32 ((wI .u32 ((AZ .u64 ((wI .u64 ((wI .u64 p0) * (wI .u64 p1)))) 32))))))), (5, pD (.val (.int .u32 ((wI .u32 ((wI .u64 ((wI .u64 p0) * (wI .u64 p1)))))))))] [] rfl rfl) (Ar ?_)
 exact ⟨⟨[_, _], ⟨.tmp _ _ rfl, tm⟩, rfl⟩, tv⟩
theorem Nw (N : Nat) (p0 : Int) (p1 : Int) (r : Int × Int) (h : HR N p0 p1 = some r) : Ao zA0 167 [pD (.val (.int .u64 p0)), pD (.val (.int .u64 p1))] [] (.tup [.one (.pure (.val (.int .u64 r.1))), .one (.pure (.val (.int .u64 r.2)))]) := by
 unfold HR at h
 refine cw (n := 51) (rs := [.tmp 4, .tmp 5]) Tryz.func167 fun w0 S0 => ?_
 refine wq rfl (qa rfl (qa rfl (Ab (wq rfl (qm rfl (Iu rfl (qa rfl (Ab (wq rfl (qm rfl (GU rfl (by decide) (qa rfl (Ab (wq rfl (qm rfl (Iu rfl (qa rfl (Ab (wq rfl (qm rfl (GU rfl (by decide) (qa rfl (Ab (wq rfl (qw 2 rfl (Nv rfl (qa rfl (Ab (wq rfl (qw 2 rfl ?_))))))))))))))))))))))))))))))
 refine Nv rfl (qm rfl (GU rfl (by decide) (AX rfl (qa rfl (Ab (wq rfl (qm rfl (Iu rfl (qa rfl (Ab (wq rfl (qm rfl (GU rfl (by decide) (qa rfl (Ab (wq rfl (qw 3 rfl (Nv rfl (AX rfl (qa rfl (Ab (wq rfl (qw 2 rfl (Nv rfl (qm rfl (AX rfl (qm rfl (GU rfl (by decide) (AX rfl (qa rfl (Ab (AN ?_))))))))))))))))))))))))))))))))
 refine Ag Av rfl (qw 2 rfl (Nv rfl (qe rfl ?_)))
 obtain rfl := sj h
 refine Ae (sm [] [(4, pD (.val (.int .u64 ((wI .u64 ((wI .u64 ((wI .u64 ((AZ .u64 p0 32) * (AZ .u64 p1 32))) + (AZ .u64 ((wI .u64 ((wI .u64 ((AZ .u64 p0 32) * (AK .u64 p1 4294967295))) + (AZ .u64 ((wI .u64 ((AK .u64 p0 4294967295) * (AK .u64 p1 4294967295)))) 32)))) 32))) + (AZ .u64 ((wI .u64 ((AK .u64 ((wI .u64 ((wI .u64 ((AZ .u64 p0 32) * (AK .u64 p1 4294967295))) + (AZ .u64 ((wI .u64 ((AK .u64 p0 4294967295) * (AK .u64 p1 4294967295)))) 32)))) 4294967295) + (wI .u64 ((AK .u64 p0 4294967295) * (AZ .u64 p1 32)))))) 32))))))), (5, pD (.val (.int .u64 ((wI .u64 (p0 * p1))))))] [] rfl rfl) (Ar ?_)
 exact ⟨⟨[_, _], ⟨.tmp _ _ rfl, tm⟩, rfl⟩, tv⟩
theorem OG (N : Nat) (p0 : Int) (p1 : Int) (r : Int × Int) (h : Iy N p0 p1 = some r) : Ao zA0 137 [pD (.val (.int .u64 p0)), pD (.val (.int .u64 p1))] [] (.tup [.one (.pure (.val (.int .u64 r.1))), .one (.pure (.val (.int .u64 r.2)))]) := by
 unfold Iy at h
 refine cw (n := 30) (rs := [.tmp 4, .tmp 5]) Tryz.func137 fun w0 S0 => ?_
 refine wq rfl (qa rfl (qa rfl (Ab (AN ?_))))
 refine A8 h (fun h => ?_) fun h => ?_
 ·refine wq rfl (qm rfl (JP YG Sp rfl (qm rfl (JP YG Sp rfl ?_))))
  refine BP h fun v2 a2 h => Ax [] (M2 N ((wI .u32 p0)) ((wI .u32 p1)) v2 a2) bQ rfl (qm rfl (qx rfl (qx rfl (qa rfl (qa rfl (Ab (wq rfl (qm rfl (JP UJ Yl rfl (qm rfl (JP UJ Yl rfl (qa rfl (qe rfl ?_)))))))))))))
  obtain rfl := sj h
  refine Ae (sm [] [(4, pD (.val (.int .u64 ((wI .u64 v2.1))))), (5, pD (.val (.int .u64 ((wI .u64 v2.2)))))] [] rfl rfl) (Ar ?_)
  exact ⟨⟨[_, _], ⟨.tmp _ _ rfl, tm⟩, rfl⟩, tv⟩
 ·refine Ai (wq rfl (qw 2 rfl ?_))
  refine BP h fun v3 a3 h => Ax [] (Nw N p0 p1 v3 a3) cr rfl (qm rfl (qx rfl (qx rfl (qa rfl (qa rfl (Ab (wq rfl (qw 2 rfl (qa rfl (qe rfl ?_))))))))))
  obtain rfl := sj h
  refine Ae (sm [] [(4, pD (.val (.int .u64 v3.1))), (5, pD (.val (.int .u64 v3.2)))] [] rfl rfl) (Ar ?_)
  exact ⟨⟨[_, _], ⟨.tmp _ _ rfl, tm⟩, rfl⟩, tv⟩
theorem KD (N : Nat) (p0 : List Int) (p1 : Int) (r : (List Int)) (h : ER N p0 p1 = some r) : Ao zA0 104 [pD (.sl (p0.map Ak)), iD p1] [(1, r.map Ak)] (oD (.own 0)) := by
 unfold ER at h
 refine cw (n := 48) (rs := [.tmp 4]) Tryz.func104 fun w0 S0 => ?_
 refine wq rfl (qe rfl ?_)
 refine AR h (fun v1 => mk [(0, pD (.sl (p0.map Ak))), (1, iD p1)] []) (fun j1 h => ?_) (fun v1 h => ?_)
 ·refine wq rfl (qm rfl (AV rfl (Ab ?_)))
  refine A8 h (fun h => ?_) fun h => ?_
  ·refine Ag Av rfl ?_
   cases h
  ·refine Ai ?_
   exact sn [] h
 ·refine wq rfl (qm rfl (AJ As rfl (JP dm Yl rfl (qm rfl (JP dm Yl rfl ?_)))))
  refine BP h fun v3 a3 h => Ax [] (OG N ((wI .u64 ((p0.length : Int)))) ((wI .u64 p1)) v3 a3) bv rfl (qm rfl (qx rfl (qx rfl (qa rfl (qe rfl ?_)))))
  refine AR h (fun v4 => mk [(0, pD (.sl (p0.map Ak))), (6, pD (.val (.int .u64 v3.2)))] []) (fun j4 h => ?_) (fun v4 h => ?_)
  ·refine AR h (fun v5 => mk [(0, pD (.sl (p0.map Ak))), (6, pD (.val (.int .u64 v3.2))), (26, bD v5)] []) (fun j5 h => ?_) (fun v5 h => ?_)
   ·refine Ag Av rfl (qm rfl (GM rfl (qm rfl ?_)))
    refine Ey 23 h rfl (fun h => ?_) fun h => ?_
    ·refine qw 2 rfl (qp rfl (Ab ?_))
     exact sn [] h
    ·refine qm rfl (GM rfl (qp rfl (Ab ?_)))
     exact sn [] h
   ·refine A8 h (fun h => ?_) fun h => ?_
    ·refine Ag Av rfl ?_
     cases h
    ·refine Ai ?_
     exact sn [] h
  ·refine wq rfl (qm rfl (JP YG XX rfl ?_))
   refine FI h fun c8 h => LF (.p rfl) rfl rfl rfl As Cy J8 (Jc rfl) I3 rfl rfl rfl c8.1 c8.2.1 c8.2.2 (Rt Ak _ ((0 : Int))) ?_
   refine qa rfl (Ab (wq rfl (qw 2 rfl ?_)))
   refine Vf Ak (zA5 ((wI .i64 v3.2)).toNat ((0 : Int))) p0 (.p rfl) rfl (JG Ak _ _ (zA5 ((wI .i64 v3.2)).toNat ((0 : Int)))) rfl rfl (YO Ak _ _ (fun _ => rfl)) tv As Cy ?_
   refine qa rfl (Ab (AN ?_))
   refine AE (L := Eh N) h (fun v9 => mk [(7, oD (.own 2001)), (8, iD v9.2)] [(2001, .vec 1 (v9.1.map Ak))]) (fun v10 => mk [(7, oD (.own 2002))] [(2002, .vec 1 (v10.map Ak))]) (fun _ _ => rfl) (sm [(2001, 30)] _ _ rfl rfl) (fun j9 n9 v9 h => ?_) (fun v10 s h hs => ?_)
   ·unfold Eh at h
    refine wp rfl (qw 2 rfl (EL As rfl (AV rfl (Ab ?_))))
    refine A8 h (fun h => ?_) fun h => ?_
    ·refine Ai (AH (Ag Av rfl (qw 3 rfl ?_)))
     obtain ⟨c12, h⟩ := HI h
     have w13 : ((v9.2).toNat) + ((v9.1.length - (v9.2).toNat)) ≤ v9.1.length := by have := c12.2.1; have := c12.2.2; omega
     refine KJ Ak v9.1 (.p rfl) rfl (JG Ak _ _ v9.1) rfl As Cy (.some _ _ _ _ c12.1) (.none _) ⟨rfl, tv⟩ tv c12.2.1 (by rw [zA1]; exact c12.2.2) (zA1 _) rfl ?_
     refine qw 2 rfl ?_
     obtain ⟨c14, h⟩ := HI h
     have w15 : 0 + ((v9.2).toNat) ≤ v9.1.length := by have := c14.2.1; have := c14.2.2; omega
     refine KJ Ak v9.1 (.p rfl) rfl (JG Ak _ _ v9.1) rfl As Cy (.none _) (.some _ _ _ _ c14.1) tv ⟨rfl, tv⟩ c14.2.1 (by rw [zA1]; exact c14.2.2) (zA1 _) rfl ?_
     refine Vf Ak v9.1 (((v9.1.drop 0).take ((v9.2).toNat))) (.p rfl) rfl (Og Ak _ _ ((v9.2).toNat) ((v9.1.length - (v9.2).toNat)) v9.1 w13) rfl rfl (Vz Ak _ _ 0 ((v9.2).toNat) v9.1 w15) ⟨rfl, tv⟩ As Cy ?_
     refine AX rfl (qa rfl (AL (by kernel_rfl) ?_))
     exact sn [] h
    ·refine AS ?_
     exact sn [(2002, 2001)] h
   ·refine Ae hs (wq rfl (qm rfl (qe rfl ?_)))
    obtain rfl := sj h
    refine Ae (sm [(1000, 2002)] [(4, oD (.own 1000))] [(1000, .vec 1 (v10.map Ak))] rfl rfl) (Ar ?_)
    exact ⟨⟨[_], tm, rfl⟩, ⟨rfl, tv⟩⟩
theorem K6 (N : Nat) (p0 : An) (r : Bool) (h : FX N p0 = some r) : Ao zA0 105 [.e (.agg (Ba p0))] [] (bD r) := by
 unfold FX at h
 refine cw (n := 11) (rs := [.tmp 2]) Tryz.func105 fun w0 S0 => ?_
 refine wq rfl (qb rfl (qe rfl ?_))
 refine AR h (fun v1 => mk [(2, bD v1)] []) (fun j1 h => ?_) (fun v1 h => ?_)
 ·refine Ag Av rfl (qf Gu rfl (ql BV rfl (Cf rfl (qm rfl ?_))))
  refine Ey 6 h rfl (fun h => ?_) fun h => ?_
  ·refine qw 3 rfl (qp rfl (qe rfl ?_))
   exact sn [] h
  ·refine qf Gu rfl (ql BV rfl (Cf rfl (qp rfl (qe rfl ?_))))
   exact sn [] h
 ·obtain rfl := sj h
  refine Ae (sm [] [(2, bD v1)] [] rfl rfl) (Ar ?_)
  exact ⟨⟨[_], tm, rfl⟩, tv⟩
theorem SD (N : Nat) (p0 : Aa) (r : Ac × Int) (h : Iq N p0 = some r) : Ao zA0 74 [.e (.agg (Ah p0))] [(1, r.1.fd.map Ak), (1, r.1.fb.map Ak), (1, r.1.fe.map D4)] (.tup [.agg [.own 0, .own 1, .own 2], .one (iC r.2)]) := by
 unfold Iq at h
 refine cw (n := 50) (rs := [.cell 2 49, .tmp 3]) Tryz.func74 fun w0 S0 => ?_
 refine wq rfl (qb rfl (qz EG rfl (qa rfl (Ab (wp rfl (qL CU BY rfl ?_))))))
 refine BP h fun v1 a1 h => Ax [] (E5 N p0 v1 a1) Xj rfl (qa rfl (Ab (wq rfl (qm rfl (Bp rfl (Ab ?_))))))
 refine A8 h (fun h => ?_) fun h => ?_
 ·refine wq rfl (Bg EG Jm rfl (qm rfl (qs A3 rfl (qe rfl ?_))))
  obtain rfl := sj h
  refine Ae ((Aq 2 0 2001 1 _ rfl rfl rfl rfl).trans ((Aq 2 1 2002 1 _ rfl rfl rfl rfl).trans ((Aq 2 2 2003 1 _ rfl rfl rfl rfl).trans (sm [(1000, 2001), (1001, 2002), (1002, 2003)] [(2, oD (.ptr 2 0)), (3, iD v1)] [(2, .box [.own 1000, .own 1001, .own 1002]), (1000, .vec 1 ((([] : List Int)).map Ak)), (1001, .vec 1 ((([] : List Int)).map Ak)), (1002, .vec 1 ((([] : List Int)).map D4))] rfl rfl)))) (Ar ?_)
  exact ⟨⟨[_, _], ⟨.cellN _ _ _ _ _ _ _ rfl rfl BZ A3 rfl rfl (Jo rfl), tm⟩, rfl⟩, ⟨rfl, rfl, rfl, tv⟩⟩
 ·refine Ai (wq rfl (qf FA rfl (ql A1 rfl ?_)))
  refine BP h fun v3 a3 h => Ax [2004] (Em N p0.fi v3 a3) Xc rfl (Di As Cy I3 rfl (qf FA rfl (ql A1 rfl (AJ As rfl ?_))))
  refine BP h fun v4 a4 h => D0 [2005] [17] (KD N (([(-1)] : List Int)) ((p0.fi.length : Int)) v4 a4) bu (HM (fun _ => rfl) Cn) rfl (qf Cc rfl (ql Hj rfl (AJ Dt rfl ?_)))
  refine FI h fun c5 h => LF (.p rfl) rfl rfl rfl D9 EQ PT (Jc rfl) NI rfl rfl rfl c5.1 c5.2.1 c5.2.2 (Rt D4 _ ((0 : Int))) ?_
  refine Bg EG Jm rfl (qz EG rfl (qs A3 rfl (AL (by kernel_rfl) (wp rfl (qf Cc rfl (ql Hj rfl (AJ Dt rfl (qm rfl (Ab ?_)))))))))
  refine AE (L := Ew N p0) h (fun v6 => mk [(1, oD (.ptr 1 0)), (2, oD (.ptr 2 0)), (5, oD (.ptr 5 0)), (28, pD (.sl (p0.fc.map AM))), (29, iD ((p0.fc.length : Int))), (30, iD v6.2)] [(1, .box (Ah p0)), (2, .box [.pure (.nil0), .pure (.nil0), .pure (.nil0)]), (5, .box [.own 2006, .own 2007, .own 2008]), (2006, .vec 1 (v3.map Ak)), (2007, .vec 1 (v4.map Ak)), (2008, .vec 1 (v6.1.map D4))]) (fun v7 => mk [(2, oD (.ptr 2 0)), (5, oD (.ptr 5 0))] [(2, .box [.pure (.nil0), .pure (.nil0), .pure (.nil0)]), (5, .box [.own 2009, .own 2010, .own 2011]), (2009, .vec 1 (v3.map Ak)), (2010, .vec 1 (v4.map Ak)), (2011, .vec 1 (v7.map D4))]) (fun _ _ => rfl) (sm [(2006, 2004), (2007, 2005), (2008, 25)] _ _ rfl rfl) (fun j6 n6 v6 h => ?_) (fun v7 s h hs => ?_)
  ·unfold Ew at h
   refine wq rfl (AV rfl (Ab (AN ?_)))
   refine A8 h (fun h => ?_) fun h => ?_
   ·refine Ai ?_
    refine AR h (fun v9 => mk [(1, oD (.ptr 1 0)), (2, oD (.ptr 2 0)), (5, oD (.ptr 5 0)), (28, pD (.sl (p0.fc.map AM))), (29, iD ((p0.fc.length : Int))), (30, iD v6.2)] [(1, .box (Ah p0)), (2, .box [.pure (.nil0), .pure (.nil0), .pure (.nil0)]), (5, .box [.own 2012, .own 2013, .own 2014]), (2012, .vec 1 (v3.map Ak)), (2013, .vec 1 (v4.map Ak)), (2014, .vec 1 (v9.map D4))]) (fun j9 h => ?_) (fun v9 h => ?_)
    ·refine AH (wq rfl (qm rfl ?_))
     refine BD h fun v10 a10 b10 h => qi Dt Dl a10 (Af b10) rfl (qK G1 Dl rfl (qz I7 rfl (qa rfl (qs Dl rfl (Ab (wq rfl (qL G1 Dl rfl ?_)))))))
     refine BP h fun v11 a11 h => Ax [] (K6 N v10 v11 a11) WL rfl (Ab ?_)
     refine A8 h (fun h => ?_) fun h => ?_
     ·refine Ag Av rfl (qf C6 rfl (ql H7 rfl (qm rfl (qf FA rfl (ql A1 rfl (qf Dd rfl (ql BV rfl ?_)))))))
      refine BD h fun v13 a13 b13 h => qi As Cy a13 (Af b13) rfl (qk BV rfl ?_)
      refine FI h fun c14 h => Jj rfl c14 ?_
      refine BD h fun v15 a15 b15 h => qI D9 EQ a15 (Af b15) rfl ?_
      refine DG rfl rfl rfl rfl (Af b15) rfl EQ rfl (Jc rfl) (Dy D4 v6.1 _ ((DX .u8 1 v13))) ?_
      refine AL (by kernel_rfl) ?_
      exact sn [(2012, 2006), (2013, 2007), (2014, 2008)] h
     ·refine Ai ?_
      exact sn [(2012, 2006), (2013, 2007), (2014, 2008)] h
    ·refine Ag Av rfl (AX rfl (qm rfl (Ab ?_)))
     exact sn [(2006, 2012), (2007, 2013), (2008, 2014)] h
   ·refine AS ?_
    exact sn [(2009, 2006), (2010, 2007), (2011, 2008)] h
  ·refine Ae hs (wq rfl (qL BZ A3 rfl (qs A3 rfl (qe rfl ?_))))
   obtain rfl := sj h
   refine Ae (sm [(1000, 2009), (1001, 2010), (1002, 2011)] [(2, oD (.ptr 2 0)), (3, iD 0)] [(2, .box [.own 1000, .own 1001, .own 1002]), (1000, .vec 1 (v3.map Ak)), (1001, .vec 1 (v4.map Ak)), (1002, .vec 1 (v7.map D4))] rfl rfl) (Ar ?_)
   exact ⟨⟨[_, _], ⟨.cellN _ _ _ _ _ _ _ rfl rfl BZ A3 rfl rfl (Jo rfl), tm⟩, rfl⟩, ⟨rfl, rfl, rfl, tv⟩⟩
theorem Kq (N : Nat) (p0 : Ac) (p1 : Int) (r : Int) (h : Fy N p0 p1 = some r) : Ao zA0 156 [.e (.agg (AI p0)), iD p1] [] (pD (.val (.int .u8 r))) := by
 unfold Fy at h
 refine cw (n := 27) (rs := [.tmp 4]) Tryz.func156 fun w0 S0 => ?_
 refine wq rfl (qb rfl (qa rfl (Ab (wq rfl (qf C4 rfl (ql A1 rfl (qm rfl ?_)))))))
 refine BD h fun v1 a1 b1 h => qi As Cy a1 (Af b1) rfl (qk BV rfl ?_)
 refine FI h fun c2 h => Jj rfl c2 (qe rfl ?_)
 refine AR h (fun v3 => mk [(5, pD (.val (.int .u8 v3)))] []) (fun j3 h => ?_) (fun v3 h => ?_)
 ·refine wq rfl (qf BI rfl (ql A1 rfl (qm rfl ?_)))
  refine BD h fun v4 a4 b4 h => qi As Cy a4 (Af b4) rfl (qk BV rfl (EE rfl (Ab ?_)))
  refine A8 h (fun h => ?_) fun h => ?_
  ·refine Ag Av rfl (qm rfl (qf BI rfl (ql A1 rfl (qm rfl ?_))))
   refine BD h fun v6 a6 b6 h => qi As Cy a6 (Af b6) rfl (qk BV rfl ?_)
   refine FI h fun c7 h => Jj rfl c7 (WM rfl (qe rfl ?_))
   exact sn [] h
  ·refine Ai ?_
   exact sn [] h
 ·refine wq rfl (qm rfl (qe rfl ?_))
  obtain rfl := sj h
  refine Ae (sm [] [(4, pD (.val (.int .u8 v3)))] [] rfl rfl) (Ar ?_)
  exact ⟨⟨[_], tm, rfl⟩, tv⟩
theorem Kg (N : Nat) (p0 : Aa) (p1 : Ac) (r : Int) (h : FP N p0 p1 = some r) : Ao zA0 120 [.e (.agg (Ah p0)), .e (.agg (AI p1))] [] (iD r) := by
 unfold FP at h
 refine cw (n := 135) (rs := [.tmp 4]) Tryz.func120 fun w0 S0 => ?_
 refine wq rfl (qb rfl (qb rfl (qa rfl (Ab (wp rfl (qL CU BY rfl ?_))))))
 refine BP h fun v1 a1 h => Ax [] (E5 N p0 v1 a1) Xj rfl (qa rfl (Ab (wq rfl (qm rfl (Bp rfl (Ab ?_))))))
 refine A8 h (fun h => ?_) fun h => ?_
 ·refine wq rfl (qm rfl (qe rfl ?_))
  obtain rfl := sj h
  refine Ae (sm [] [(4, iD v1)] [] rfl rfl) (Ar ?_)
  exact ⟨⟨[_], tm, rfl⟩, tv⟩
 ·refine Ai (AN ?_)
  refine AR h (fun v3 => mk [(2, oD (.ptr 2 0)), (3, oD (.ptr 3 0)), (41, bD v3)] [(2, .box (Ah p0)), (3, .box (AI p1))]) (fun j3 h => ?_) (fun v3 h => ?_)
  ·refine Ag Av rfl (qf C4 rfl (ql A1 rfl (AJ As rfl (qf A6 rfl (ql A1 rfl (AJ As rfl (Bp rfl (qm rfl ?_))))))))
   refine Ey 24 h rfl (fun h => ?_) fun h => ?_
   ·refine qw 7 rfl (qp rfl (qw 8 rfl (qp rfl (Ab ?_))))
    exact sn [] h
   ·refine qf BI rfl (ql A1 rfl (AJ As rfl (qf A6 rfl (ql A1 rfl (AJ As rfl (Bp rfl (qp rfl (qm rfl ?_))))))))
    refine Ey 33 h rfl (fun h => ?_) fun h => ?_
    ·refine qw 7 rfl (qp rfl (Ab ?_))
     exact sn [] h
    ·refine qf C6 rfl (ql H7 rfl (AJ D9 rfl (qf Cc rfl (ql Hj rfl (AJ Dt rfl (Bp rfl (qp rfl (Ab ?_))))))))
     exact sn [] h
  ·refine A8 h (fun h => ?_) fun h => ?_
   ·refine wq rfl (qe rfl ?_)
    obtain rfl := sj h
    refine Ae (sm [] [(4, iD 6)] [] rfl rfl) (Ar ?_)
    exact ⟨⟨[_], tm, rfl⟩, tv⟩
   ·refine Ai (wp rfl (qf A6 rfl (ql A1 rfl (AJ As rfl (qm rfl (Ab ?_))))))
    refine AE (L := Ev N p0 p1) h (fun v7 => mk [(2, oD (.ptr 2 0)), (3, oD (.ptr 3 0)), (43, pD (.sl (p0.fa.map Ak))), (44, iD ((p0.fa.length : Int))), (45, iD v7)] [(2, .box (Ah p0)), (3, .box (AI p1))]) (fun v8 => mk [(2, oD (.ptr 2 0)), (3, oD (.ptr 3 0))] [(2, .box (Ah p0)), (3, .box (AI p1))]) (fun _ _ => rfl) (sm [] _ _ rfl rfl) (fun j7 n7 v7 h => ?_) (fun v8 s h hs => ?_)
    ·unfold Ev at h
     refine wq rfl (AV rfl (Ab (AN ?_)))
     refine A8 h (fun h => ?_) fun h => ?_
     ·refine Ai (AN (AH (wq rfl (qm rfl ?_))))
      refine BD h fun v10 a10 b10 h => qi As Cy a10 (Af b10) rfl (qk BV rfl (qa rfl (qa rfl (Ab (AN ?_)))))
      refine AR h (fun v11 => mk [(2, oD (.ptr 2 0)), (3, oD (.ptr 3 0)), (6, iD v7), (43, pD (.sl (p0.fa.map Ak))), (44, iD ((p0.fa.length : Int))), (45, iD v7), (81, bD v11)] [(2, .box (Ah p0)), (3, .box (AI p1))]) (fun j11 h => ?_) (fun v11 h => ?_)
      ·refine Ag Av rfl (qf C4 rfl (ql A1 rfl (qm rfl ?_)))
       refine BD h fun v12 a12 b12 h => qi As Cy a12 (Af b12) rfl (qk BV rfl (AV rfl (qm rfl ?_)))
       refine Ey 56 h rfl (fun h => ?_) fun h => ?_
       ·refine qw 7 rfl (qp rfl (qw 7 rfl (qp rfl (qw 8 rfl (qp rfl (Ab ?_))))))
        exact sn [] h
       ·refine qf C4 rfl (ql A1 rfl (qm rfl ?_))
        refine BD h fun v14 a14 b14 h => qi As Cy a14 (Af b14) rfl (qk BV rfl (qm rfl (EE rfl (qp rfl (qm rfl ?_)))))
        refine Ey 65 h rfl (fun h => ?_) fun h => ?_
        ·refine qw 6 rfl (qp rfl (qw 8 rfl (qp rfl (Ab ?_))))
         exact sn [] h
        ·refine qf BI rfl (ql A1 rfl (qm rfl ?_))
         refine BD h fun v16 a16 b16 h => qi As Cy a16 (Af b16) rfl (qk BV rfl (AV rfl (qp rfl (qm rfl ?_))))
         refine Ey 73 h rfl (fun h => ?_) fun h => ?_
         ·refine qw 7 rfl (qp rfl (Ab ?_))
          exact sn [] h
         ·refine qf BI rfl (ql A1 rfl (qm rfl ?_))
          refine BD h fun v18 a18 b18 h => qi As Cy a18 (Af b18) rfl (qk BV rfl (qm rfl (EE rfl (qp rfl (Ab ?_)))))
          exact sn [] h
      ·refine A8 h (fun h => ?_) fun h => ?_
       ·refine wq rfl (qe rfl ?_)
        obtain rfl := sj h
        refine Ae (sm [] [(4, iD 7)] [] rfl rfl) (Ar ?_)
        exact ⟨⟨[_], tm, rfl⟩, tv⟩
       ·refine Ai (wq rfl (qf C4 rfl (ql A1 rfl (qm rfl ?_))))
        refine BD h fun v20 a20 b20 h => qi As Cy a20 (Af b20) rfl (qk BV rfl (qf BI rfl (ql A1 rfl (qm rfl ?_))))
        refine BD h fun v21 a21 b21 h => qi As Cy a21 (Af b21) rfl (qk BV rfl (Cf rfl (AL (by kernel_rfl) ?_)))
        refine A8 h (fun h => ?_) fun h => ?_
        ·refine wq rfl (qe rfl ?_)
         obtain rfl := sj h
         refine Ae (sm [] [(4, iD 1)] [] rfl rfl) (Ar ?_)
         exact ⟨⟨[_], tm, rfl⟩, tv⟩
        ·refine Ai (Ag Av rfl (AX rfl (qm rfl (Ab ?_))))
         exact sn [] h
     ·refine AS ?_
      exact sn [] h
    ·refine Ae hs (wp rfl (qf Cc rfl (ql Hj rfl (AJ Dt rfl (qm rfl (Ab ?_))))))
     refine AE (L := D7 N p0 p1) h (fun v23 => mk [(2, oD (.ptr 2 0)), (3, oD (.ptr 3 0)), (95, pD (.sl (p0.fc.map AM))), (96, iD ((p0.fc.length : Int))), (97, iD v23)] [(2, .box (Ah p0)), (3, .box (AI p1))]) (fun v24 => mk [] []) (fun _ _ => rfl) (sm [] _ _ rfl rfl) (fun j23 n23 v23 h => ?_) (fun v24 s h hs => ?_)
     ·unfold D7 at h
      refine wq rfl (AV rfl (Ab (AN ?_)))
      refine A8 h (fun h => ?_) fun h => ?_
      ·refine Ai (AN (AH (wq rfl (qm rfl ?_))))
       refine BD h fun v26 a26 b26 h => qi Dt Dl a26 (Af b26) rfl (qK G1 Dl rfl (qz I7 rfl (qa rfl (qs Dl rfl (Ab (wq rfl (qa rfl (qe rfl ?_))))))))
       refine AR h (fun v27 => mk [(2, oD (.ptr 2 0)), (3, oD (.ptr 3 0)), (8, iD v23), (10, pD (.val (.int .u8 v27.1))), (11, pD (.val (.int .u8 v27.2))), (95, pD (.sl (p0.fc.map AM))), (96, iD ((p0.fc.length : Int))), (97, iD v23)] [(2, .box (Ah p0)), (3, .box (AI p1))]) (fun j27 h => ?_) (fun v27 h => ?_)
       ·refine wq rfl (qL G1 Dl rfl ?_)
        refine BP h fun v28 a28 h => Ax [] (K6 N v26 v28 a28) WL rfl (Ab ?_)
        refine A8 h (fun h => ?_) fun h => ?_
        ·refine Ag Av rfl (qL BZ A3 rfl (qf Dd rfl (ql BV rfl ?_)))
         refine BP h fun v30 a30 h => Ax [] (Kq N p1 v26.fg v30 a30) WF rfl (qf A6 rfl (ql A1 rfl (qf Dd rfl (ql BV rfl ?_))))
         refine BD h fun v31 a31 b31 h => qi As Cy a31 (Af b31) rfl (qk BV rfl ?_)
         refine FI h fun c32 h => Jj rfl c32 (Kh rfl (qa rfl (qa rfl (AL (by kernel_rfl) ?_))))
         exact sn [] h
        ·refine Ai ?_
         exact sn [] h
       ·refine AR h (fun v33 => mk [(2, oD (.ptr 2 0)), (3, oD (.ptr 3 0)), (95, pD (.sl (p0.fc.map AM))), (96, iD ((p0.fc.length : Int))), (97, iD v23), (133, bD v33)] [(2, .box (Ah p0)), (3, .box (AI p1))]) (fun j33 h => ?_) (fun v33 h => ?_)
        ·refine Ag Av rfl (qm rfl (qf C6 rfl (ql H7 rfl (qm rfl ?_))))
         refine BD h fun v34 a34 b34 h => qi D9 EQ a34 (Af b34) rfl (qk I1 rfl (Io rfl (Bp rfl (qm rfl ?_))))
         refine Ey 124 h rfl (fun h => ?_) fun h => ?_
         ·refine qw 8 rfl (qp rfl (Ab ?_))
          exact sn [] h
         ·refine qf C6 rfl (ql H7 rfl (qm rfl ?_))
          refine BD h fun v36 a36 b36 h => qi D9 EQ a36 (Af b36) rfl (qk I1 rfl (qm rfl (Io rfl (Bp rfl (qp rfl (Ab ?_))))))
          exact sn [] h
        ·refine A8 h (fun h => ?_) fun h => ?_
         ·refine wq rfl (qe rfl ?_)
          obtain rfl := sj h
          refine Ae (sm [] [(4, iD 1)] [] rfl rfl) (Ar ?_)
          exact ⟨⟨[_], tm, rfl⟩, tv⟩
         ·refine Ai (Ag Av rfl (AX rfl (qm rfl (Ab ?_))))
          exact sn [] h
      ·refine AS ?_
       exact sn [] h
     ·refine Ae hs (wq rfl (qe rfl ?_))
      obtain rfl := sj h
      refine Ae (sm [] [(4, iD 0)] [] rfl rfl) (Ar ?_)
      exact ⟨⟨[_], tm, rfl⟩, tv⟩
theorem Gk (N : Nat) (p0 : List Int) (r : (List Int)) (h : B0 N p0 = some r) : Ao zA0 174 [pD (.sl (p0.map D4))] [(1, r.map D4)] (oD (.own 0)) := by
 unfold B0 at h
 refine cw (n := 8) (rs := [.tmp 2]) Tryz.func174 fun w0 S0 => ?_
 refine wq rfl (qa rfl (Ab (wp rfl (qm rfl ?_))))
 refine Nq (.p rfl) rfl D9 ?_
 refine Ab ?_
 refine M6 rfl (fun c2 => ?_) ?_
 ·have c2 := zH3.1 c2
  rw [c2] at h
  have h : (some (([] : List Int))) = some r := h
  refine wq rfl (qe rfl ?_)
  obtain rfl := sj h
  refine Ae ((AU 2 2001 1 rfl rfl rfl).trans (sm [(1000, 2001)] [(2, oD (.own 1000))] [(1000, .vec 1 ((([] : List Int)).map D4))] rfl rfl)) (Ar ?_)
  exact ⟨⟨[_], tm, rfl⟩, ⟨rfl, tv⟩⟩
 ·refine Ai (wq rfl (Di D9 EQ NI rfl (qm rfl ?_)))
  refine FI h fun c1 h => I4 (f := D4) D9 D9 EQ PT NI (fun _ => rfl) c1 rfl (qe rfl ?_)
  obtain rfl := sj h
  refine Ae (sm [(1000, 7)] [(2, oD (.own 1000))] [(1000, .vec 1 (((([] : List Int)) ++ p0).map D4))] rfl rfl) (Ar ?_)
  exact ⟨⟨[_], tm, rfl⟩, ⟨rfl, tv⟩⟩
theorem RG (N : Nat) (p0 : Aa) (p1 : Ac) (r : (List Ac) × Int) (h : Hw N p0 p1 = some r) : Ao zA0 153 [.e (.agg (Ah p0)), .e (.agg (AI p1))] [(3, r.1.map Fc)] (.tup [.one (.own 0), .one (iC r.2)]) := by
 unfold Hw at h
 refine cw (n := 75) (rs := [.tmp 4, .tmp 5]) Tryz.func153 fun w0 S0 => ?_
 refine wq rfl (qb rfl (qb rfl (qa rfl (qa rfl (Ab (wp rfl (qL CU BY rfl (qL BZ A3 rfl ?_))))))))
 refine BP h fun v1 a1 h => Ax [] (Kg N p0 p1 v1 a1) UF rfl (qa rfl (Ab (wq rfl (qm rfl (Bp rfl (Ab ?_))))))
 refine A8 h (fun h => ?_) fun h => ?_
 ·refine wq rfl (qm rfl (qa rfl (qe rfl ?_)))
  obtain rfl := sj h
  refine Ae ((AU 4 2001 3 rfl rfl rfl).trans (sm [(1000, 2001)] [(4, oD (.own 1000)), (5, iD v1)] [(1000, .vec 3 ((([] : List Ac)).map Fc))] rfl rfl)) (Ar ?_)
  exact ⟨⟨[_, _], ⟨.tmp _ _ rfl, tm⟩, rfl⟩, ⟨rfl, tv⟩⟩
 ·refine Ai (wq rfl (qa rfl (Ab (wp rfl (qf BI rfl (ql A1 rfl (AJ As rfl (qm rfl (Ab ?_)))))))))
  refine AE (L := Ec N p1) h (fun v3 => mk [(3, oD (.ptr 3 0)), (7, oD (.own 2002)), (22, pD (.sl (p1.fb.map Ak))), (23, iD ((p1.fb.length : Int))), (24, iD v3.2)] [(3, .box (AI p1)), (2002, .vec 1 (v3.1.map Ak))]) (fun v4 => mk [(3, oD (.ptr 3 0)), (7, oD (.own 2003))] [(3, .box (AI p1)), (2003, .vec 1 (v4.map Ak))]) (fun _ _ => rfl) ((AU 7 2005 1 rfl rfl rfl).trans (sm [(2002, 2005)] _ _ rfl rfl)) (fun j3 n3 v3 h => ?_) (fun v4 s h hs => ?_)
  ·unfold Ec at h
   refine wq rfl (AV rfl (Ab (AN ?_)))
   refine A8 h (fun h => ?_) fun h => ?_
   ·refine Ai ?_
    refine AR h (fun v6 => mk [(3, oD (.ptr 3 0)), (7, oD (.own 2004)), (22, pD (.sl (p1.fb.map Ak))), (23, iD ((p1.fb.length : Int))), (24, iD v3.2)] [(3, .box (AI p1)), (2004, .vec 1 (v6.map Ak))]) (fun j6 h => ?_) (fun v6 h => ?_)
    ·refine AH (wq rfl (qm rfl ?_))
     refine BD h fun v7 a7 b7 h => qi As Cy a7 (Af b7) rfl (qk BV rfl (qa rfl (qa rfl (Ab (wq rfl (qm rfl (EE rfl (Ab ?_))))))))
     refine A8 h (fun h => ?_) fun h => ?_
     ·refine Ag Av rfl (qw 2 rfl (Di As Cy I3 rfl ?_))
      refine FI h fun c9 h => Ck (f := Ak) As As Cy J8 I3 c9 rfl (qe rfl ?_)
      exact sn [(2004, 34)] h
     ·refine Ai ?_
      exact sn [(2004, 2002)] h
    ·refine Ag Av rfl (AX rfl (qm rfl (Ab ?_)))
     exact sn [(2002, 2004)] h
   ·refine AS ?_
    exact sn [(2003, 2002)] h
  ·refine Ae hs (wq rfl (qa rfl (Ab (wp rfl (qm rfl (EL As rfl ?_))))))
   refine FI h fun c10 h => Jj rfl c10 (qm rfl (Ab ?_))
   refine AE (L := Dg N p1 v4) h (fun v11 => mk [(3, oD (.ptr 3 0)), (7, oD (.own 2006)), (10, oD (.own 2007)), (38, iD ((DX .i64 1 ((v4.length : Int))))), (39, iD v11.2)] [(3, .box (AI p1)), (2006, .vec 1 (v4.map Ak)), (2007, .vec 3 (v11.1.map Fc))]) (fun v12 => mk [(10, oD (.own 2008))] [(2008, .vec 3 (v12.map Fc))]) (fun _ _ => rfl) ((AU 10 2027 3 rfl rfl rfl).trans (sm [(2006, 2003), (2007, 2027)] _ _ rfl rfl)) (fun j11 n11 v11 h => ?_) (fun v12 s h hs => ?_)
   ·unfold Dg at h
    refine wq rfl (AV rfl (Ab (AN ?_)))
    refine A8 h (fun h => ?_) fun h => ?_
    ·refine Ai (AN (AH (wq rfl (qm rfl (qa rfl (Ab (wq rfl (qf C4 rfl (ql A1 rfl ?_)))))))))
     refine BP h fun v14 a14 h => Ax [2009] (Em N p1.fd v14 a14) Xc rfl (qf BI rfl (ql A1 rfl ?_))
     refine BP h fun v15 a15 h => Ax [2010] (Em N p1.fb v15 a15) Xc rfl (qf C6 rfl (ql H7 rfl ?_))
     refine BP h fun v16 a16 h => Ax [2011] (Gk N p1.fe v16 a16) Zj rfl (Bg EG Jm rfl (qz EG rfl (qs A3 rfl (AL (by kernel_rfl) (wp rfl (qm rfl (EL As rfl (qm rfl (Ab ?_)))))))))
     refine AE (L := Dh N v4 v11) h (fun v17 => mk [(3, oD (.ptr 3 0)), (7, oD (.own 2015)), (10, oD (.own 2016)), (11, iD v11.2), (12, oD (.ptr 12 0)), (38, iD ((DX .i64 1 ((v4.length : Int))))), (39, iD v11.2), (52, oD (.own 2015)), (53, iD ((v4.length : Int))), (54, iD v17.2)] [(3, .box (AI p1)), (12, .box [.own 2012, .own 2013, .own 2014]), (2012, .vec 1 (v14.map Ak)), (2013, .vec 1 (v17.1.map Ak)), (2014, .vec 1 (v16.map D4)), (2015, .vec 1 (v4.map Ak)), (2016, .vec 3 (v11.1.map Fc))]) (fun v18 => mk [(3, oD (.ptr 3 0)), (7, oD (.own 2020)), (10, oD (.own 2021)), (12, oD (.ptr 12 0)), (38, iD ((DX .i64 1 ((v4.length : Int))))), (39, iD v11.2)] [(3, .box (AI p1)), (12, .box [.own 2017, .own 2018, .own 2019]), (2017, .vec 1 (v14.map Ak)), (2018, .vec 1 (v18.map Ak)), (2019, .vec 1 (v16.map D4)), (2020, .vec 1 (v4.map Ak)), (2021, .vec 3 (v11.1.map Fc))]) (fun _ _ => rfl) (sm [(2012, 2009), (2013, 2010), (2014, 2011), (2015, 2006), (2016, 2007)] _ _ rfl rfl) (fun j17 n17 v17 h => ?_) (fun v18 s h hs => ?_)
     ·unfold Dh at h
      refine wq rfl (AV rfl (Ab (AN ?_)))
      refine A8 h (fun h => ?_) fun h => ?_
      ·refine Ai ?_
       refine AR h (fun v20 => mk [(3, oD (.ptr 3 0)), (7, oD (.own 2025)), (10, oD (.own 2026)), (11, iD v11.2), (12, oD (.ptr 12 0)), (38, iD ((DX .i64 1 ((v4.length : Int))))), (39, iD v11.2), (52, oD (.own 2025)), (53, iD ((v4.length : Int))), (54, iD v17.2)] [(3, .box (AI p1)), (12, .box [.own 2022, .own 2023, .own 2024]), (2022, .vec 1 (v14.map Ak)), (2023, .vec 1 (v20.map Ak)), (2024, .vec 1 (v16.map D4)), (2025, .vec 1 (v4.map Ak)), (2026, .vec 3 (v11.1.map Fc))]) (fun j20 h => ?_) (fun v20 h => ?_)
       ·refine AH (wq rfl (qm rfl ?_))
        refine BD h fun v21 a21 b21 h => qI As Cy a21 (Af b21) rfl (qj BV (Af b21) rfl (qa rfl (qa rfl (Ab (wq rfl (qw 2 rfl ?_))))))
        refine FI h fun c22 h => GU rfl c22 (Iu rfl (Cf rfl (Ab ?_)))
        refine A8 h (fun h => ?_) fun h => ?_
        ·refine Ag Av rfl (qf BI rfl (ql A1 rfl (qm rfl ?_)))
         refine BD h fun v24 a24 b24 h => qI As Cy a24 (Af b24) rfl ?_
         refine DG rfl rfl rfl rfl (Af b24) rfl Cy rfl (Jc rfl) (Dy Ak v17.1 _ ((-1))) ?_
         refine Ab ?_
         exact sn [(2022, 2012), (2023, 2013), (2024, 2014), (2025, 2015), (2026, 2016)] h
        ·refine Ai ?_
         exact sn [(2022, 2012), (2023, 2013), (2024, 2014), (2025, 2015), (2026, 2016)] h
       ·refine Ag Av rfl (AX rfl (qm rfl (Ab ?_)))
        exact sn [(2012, 2022), (2013, 2023), (2014, 2024), (2015, 2025), (2016, 2026)] h
      ·refine AS ?_
       exact sn [(2017, 2012), (2018, 2013), (2019, 2014), (2020, 2015), (2021, 2016)] h
     ·refine Ae hs (Ag Av rfl (qm rfl (qL BZ A3 rfl (CY (A9 2017 _ _ rfl rfl) (CY (A9 2018 _ _ rfl rfl) (CY (A9 2019 _ _ rfl rfl) (Di Mz A3 EG rfl ?_)))))))
      refine FI h fun c25 h => Ck (f := Fc) Mz Mz A3 Zn EG c25 rfl (qa rfl (Ab (Ag Av rfl (AX rfl (qm rfl (Ab ?_))))))
      exact sn [(2006, 2020), (2007, 72)] h
    ·refine AS ?_
     exact sn [(2008, 2007)] h
   ·refine Ae hs (wq rfl (qm rfl (qa rfl (qe rfl ?_))))
    obtain rfl := sj h
    refine Ae (sm [(1000, 2008)] [(4, oD (.own 1000)), (5, iD 0)] [(1000, .vec 3 (v12.map Fc))] rfl rfl) (Ar ?_)
    exact ⟨⟨[_, _], ⟨.tmp _ _ rfl, tm⟩, rfl⟩, ⟨rfl, tv⟩⟩
theorem OH (N : Nat) (p0 : Aa) (p1 : Ac) (r : (List Ap)) (h : Gb N p0 p1 = some r) : Ao zA0 154 [.e (.agg (Ah p0)), .e (.agg (AI p1))] [(3, r.map A2)] (oD (.own 0)) := by
 unfold Gb at h
 refine cw (n := 98) (rs := [.tmp 4]) Tryz.func154 fun w0 S0 => ?_
 refine wq rfl (qb rfl (qb rfl (qa rfl (Ab (wq rfl (qa rfl (Ab (wp rfl (qf Cc rfl (ql Hj rfl (AJ Dt rfl (qm rfl (Ab ?_)))))))))))))
 refine AE (L := DH N p0 p1) h (fun v1 => mk [(3, oD (.ptr 3 0)), (5, oD (.own 2001)), (15, pD (.sl (p0.fc.map AM))), (16, iD ((p0.fc.length : Int))), (17, iD v1.2)] [(3, .box (AI p1)), (2001, .vec 3 (v1.1.map A2))]) (fun v2 => mk [(5, oD (.own 2002))] [(2002, .vec 3 (v2.map A2))]) (fun _ _ => rfl) ((AU 5 2013 3 rfl rfl rfl).trans (sm [(2001, 2013)] _ _ rfl rfl)) (fun j1 n1 v1 h => ?_) (fun v2 s h hs => ?_)
 ·unfold DH at h
  refine wq rfl (AV rfl (Ab (AN ?_)))
  refine A8 h (fun h => ?_) fun h => ?_
  ·refine Ai (AN (AH (wq rfl (qm rfl ?_))))
   refine BD h fun v4 a4 b4 h => qi Dt Dl a4 (Af b4) rfl (qK G1 Dl rfl (qz I7 rfl (qa rfl (qs Dl rfl (Ab (wq rfl (qL BZ A3 rfl (qf Dd rfl (ql BV rfl ?_)))))))))
   refine BP h fun v5 a5 h => Ax [] (Kq N p1 v4.fg v5 a5) WF rfl (qL BZ A3 rfl (qf HK rfl (ql BV rfl ?_)))
   refine BP h fun v6 a6 h => Ax [] (Kq N p1 v4.fj v6 a6) WF rfl (qa rfl (qa rfl (AL (by kernel_rfl) ?_)))
   refine AR h (fun v7 => mk [(3, oD (.ptr 3 0)), (5, oD (.own 2003)), (6, iD v1.2), (7, oD (.ptr 7 0)), (8, pD (.val (.int .u8 v7))), (9, pD (.val (.int .u8 v6))), (15, pD (.sl (p0.fc.map AM))), (16, iD ((p0.fc.length : Int))), (17, iD v1.2)] [(3, .box (AI p1)), (7, .box (Ba v4)), (2003, .vec 3 (v1.1.map A2))]) (fun j7 h => ?_) (fun v7 h => ?_)
   ·refine wq rfl (qL G1 Dl rfl ?_)
    refine BP h fun v8 a8 h => Ax [] (K6 N v4 v8 a8) WL rfl (Ab ?_)
    refine A8 h (fun h => ?_) fun h => ?_
    ·refine Ag Av rfl (qf C6 rfl (ql H7 rfl (qm rfl ?_)))
     refine BD h fun v10 a10 b10 h => qi D9 EQ a10 (Af b10) rfl (qk I1 rfl (qe rfl ?_))
     exact sn [(2003, 2001)] h
    ·refine Ai ?_
     exact sn [(2003, 2001)] h
   ·refine wq rfl (qf Hl rfl (ql IG rfl (AJ EC rfl (qm rfl (Ab ?_)))))
    refine AE (L := Cw N v1 v4 v6 v7) h (fun v11 => mk [(3, oD (.ptr 3 0)), (5, oD (.own 2004)), (6, iD v1.2), (7, oD (.ptr 7 0)), (8, pD (.val (.int .u8 v7))), (9, pD (.val (.int .u8 v6))), (15, pD (.sl (p0.fc.map AM))), (16, iD ((p0.fc.length : Int))), (17, iD v1.2), (39, iD ((v4.fq.length : Int))), (40, iD v11.2)] [(3, .box (AI p1)), (7, .box (Ba v4)), (2004, .vec 3 (v11.1.map A2))]) (fun v12 => mk [(3, oD (.ptr 3 0)), (5, oD (.own 2005)), (15, pD (.sl (p0.fc.map AM))), (16, iD ((p0.fc.length : Int))), (17, iD v1.2)] [(3, .box (AI p1)), (2005, .vec 3 (v12.map A2))]) (fun _ _ => rfl) (sm [(2004, 2003)] _ _ rfl rfl) (fun j11 n11 v11 h => ?_) (fun v12 s h hs => ?_)
    ·unfold Cw at h
     refine wq rfl (AV rfl (Ab (AN ?_)))
     refine A8 h (fun h => ?_) fun h => ?_
     ·refine Ai ?_
      refine AR h (fun v14 => mk [(3, oD (.ptr 3 0)), (5, oD (.own 2006)), (6, iD v1.2), (7, oD (.ptr 7 0)), (8, pD (.val (.int .u8 v7))), (9, pD (.val (.int .u8 v6))), (15, pD (.sl (p0.fc.map AM))), (16, iD ((p0.fc.length : Int))), (17, iD v1.2), (39, iD ((v4.fq.length : Int))), (40, iD v11.2)] [(3, .box (AI p1)), (7, .box (Ba v4)), (2006, .vec 3 (v14.map A2))]) (fun j14 h => ?_) (fun v14 h => ?_)
      ·refine AH (wq rfl (qm rfl (qa rfl (Ab (wp rfl (qw 2 rfl ?_))))))
       refine FI h fun c15 h => GU rfl c15 (Iu rfl (Cf rfl (Ab ?_)))
       refine A8 h (fun h => ?_) fun h => ?_
       ·refine AS ?_
        exact sn [(2006, 2004)] h
       ·refine Ai (wq rfl (qa rfl (Ab (wp rfl (qf Hl rfl (ql IG rfl (qm rfl ?_)))))))
        refine BD h fun v17 a17 b17 h => qi EC JJ a17 (Af b17) rfl (qk OI rfl (AJ EN rfl (qm rfl (Ab ?_))))
        refine AE (L := B5 N v1 v4 v6 v11 v17) h (fun v18 => mk [(3, oD (.ptr 3 0)), (5, oD (.own 2007)), (6, iD v1.2), (7, oD (.ptr 7 0)), (8, pD (.val (.int .u8 v7))), (9, pD (.val (.int .u8 v6))), (10, iD v11.2), (11, bD v18.2.1), (15, pD (.sl (p0.fc.map AM))), (16, iD ((p0.fc.length : Int))), (17, iD v1.2), (39, iD ((v4.fq.length : Int))), (40, iD v11.2), (52, pD (.sl (v17.map eB))), (53, iD ((v17.length : Int))), (54, iD v18.2.2)] [(3, .box (AI p1)), (7, .box (Ba v4)), (2007, .vec 3 (v18.1.map A2))]) (fun v19 => mk [(3, oD (.ptr 3 0)), (5, oD (.own 2008)), (6, iD v1.2), (7, oD (.ptr 7 0)), (8, pD (.val (.int .u8 v7))), (9, pD (.val (.int .u8 v6))), (10, iD v11.2), (11, bD v19.2), (15, pD (.sl (p0.fc.map AM))), (16, iD ((p0.fc.length : Int))), (17, iD v1.2), (39, iD ((v4.fq.length : Int))), (40, iD v11.2)] [(3, .box (AI p1)), (7, .box (Ba v4)), (2008, .vec 3 (v19.1.map A2))]) (fun _ _ => rfl) (sm [(2007, 2004)] _ _ rfl rfl) (fun j18 n18 v18 h => ?_) (fun v19 s h hs => ?_)
        ·unfold B5 at h
         refine wq rfl (AV rfl (Ab (AN ?_)))
         refine A8 h (fun h => ?_) fun h => ?_
         ·refine Ai ?_
          refine AR h (fun v21 => mk [(3, oD (.ptr 3 0)), (5, oD (.own 2009)), (6, iD v1.2), (7, oD (.ptr 7 0)), (8, pD (.val (.int .u8 v7))), (9, pD (.val (.int .u8 v6))), (10, iD v11.2), (11, bD v21.2), (15, pD (.sl (p0.fc.map AM))), (16, iD ((p0.fc.length : Int))), (17, iD v1.2), (39, iD ((v4.fq.length : Int))), (40, iD v11.2), (52, pD (.sl (v17.map eB))), (53, iD ((v17.length : Int))), (54, iD v18.2.2)] [(3, .box (AI p1)), (7, .box (Ba v4)), (2009, .vec 3 (v21.1.map A2))]) (fun j21 h => ?_) (fun v21 h => ?_)
          ·refine AH (wq rfl (qm rfl ?_))
           refine BD h fun v22 a22 b22 h => qi EN N7 a22 (Af b22) rfl (qk Sf rfl (qa rfl (qa rfl (Ab (wp rfl (qw 2 rfl ?_))))))
           refine FI h fun c23 h => GU rfl c23 (Iu rfl (Cf rfl (Ab ?_)))
           refine A8 h (fun h => ?_) fun h => ?_
           ·refine AS ?_
            exact sn [(2009, 2007)] h
           ·refine Ai ?_
            refine AR h (fun v25 => mk [(3, oD (.ptr 3 0)), (5, oD (.own 2010)), (6, iD v1.2), (7, oD (.ptr 7 0)), (8, pD (.val (.int .u8 v7))), (9, pD (.val (.int .u8 v6))), (10, iD v11.2), (11, bD v25), (12, iD v18.2.2), (13, bD v22), (15, pD (.sl (p0.fc.map AM))), (16, iD ((p0.fc.length : Int))), (17, iD v1.2), (39, iD ((v4.fq.length : Int))), (40, iD v11.2), (52, pD (.sl (v17.map eB))), (53, iD ((v17.length : Int))), (54, iD v18.2.2)] [(3, .box (AI p1)), (7, .box (Ba v4)), (2010, .vec 3 (v18.1.map A2))]) (fun j25 h => ?_) (fun v25 h => ?_)
            ·refine Ag Av rfl (qw 2 rfl ?_)
             refine Ey 65 h rfl (fun h => ?_) fun h => ?_
             ·refine qn rfl (qp rfl (qe rfl ?_))
              exact sn [(2010, 2007)] h
             ·refine qm rfl (qp rfl (qe rfl ?_))
              exact sn [(2010, 2007)] h
            ·refine AR h (fun v27 => mk [(3, oD (.ptr 3 0)), (5, oD (.own 2011)), (6, iD v1.2), (7, oD (.ptr 7 0)), (8, pD (.val (.int .u8 v7))), (9, pD (.val (.int .u8 v6))), (10, iD v11.2), (11, bD v25), (12, iD v18.2.2), (15, pD (.sl (p0.fc.map AM))), (16, iD ((p0.fc.length : Int))), (17, iD v1.2), (39, iD ((v4.fq.length : Int))), (40, iD v11.2), (52, pD (.sl (v17.map eB))), (53, iD ((v17.length : Int))), (54, iD v18.2.2), (74, bD v27)] [(3, .box (AI p1)), (7, .box (Ba v4)), (2011, .vec 3 (v18.1.map A2))]) (fun j27 h => ?_) (fun v27 h => ?_)
             ·refine Ag Av rfl (qm rfl (Cm rfl (qm rfl ?_)))
              refine Ey 70 h rfl (fun h => ?_) fun h => ?_
              ·refine qf JB rfl (ql Sf rfl (Cm rfl (qp rfl (Ab ?_))))
               exact sn [(2011, 2010)] h
              ·refine qw 3 rfl (qp rfl (Ab ?_))
               exact sn [(2011, 2010)] h
             ·refine A8 h (fun h => ?_) fun h => ?_
              ·refine Ag Av rfl (qw 4 rfl (Bg Ji QV rfl (Di HS IY Ji rfl ?_)))
               refine FI h fun c30 h => Ck (f := A2) HS HS IY Rl Ji c30 rfl (qe rfl ?_)
               exact sn [(2009, 81)] h
              ·refine Ai ?_
               exact sn [(2009, 2011)] h
          ·refine Ag Av rfl (AX rfl (qm rfl (Ab ?_)))
           exact sn [(2007, 2009)] h
         ·refine AS ?_
          exact sn [(2008, 2007)] h
        ·refine Ae hs ?_
         refine AR h (fun v31 => mk [(3, oD (.ptr 3 0)), (5, oD (.own 2012)), (6, iD v1.2), (7, oD (.ptr 7 0)), (8, pD (.val (.int .u8 v7))), (9, pD (.val (.int .u8 v6))), (10, iD v11.2), (15, pD (.sl (p0.fc.map AM))), (16, iD ((p0.fc.length : Int))), (17, iD v1.2), (39, iD ((v4.fq.length : Int))), (40, iD v11.2), (88, bD v31)] [(3, .box (AI p1)), (7, .box (Ba v4)), (2012, .vec 3 (v19.1.map A2))]) (fun j31 h => ?_) (fun v31 h => ?_)
         ·refine Ag Av rfl (qf JB rfl (ql Sf rfl (qm rfl ?_)))
          refine Ey 85 h rfl (fun h => ?_) fun h => ?_
          ·refine qm rfl (Cm rfl (qp rfl (Ab ?_)))
           exact sn [(2012, 2008)] h
          ·refine qw 2 rfl (qp rfl (Ab ?_))
           exact sn [(2012, 2008)] h
         ·refine A8 h (fun h => ?_) fun h => ?_
          ·refine Ag Av rfl (qw 3 rfl (Bg Ji QV rfl (Di HS IY Ji rfl ?_)))
           refine FI h fun c34 h => Ck (f := A2) HS HS IY Rl Ji c34 rfl (qe rfl ?_)
           exact sn [(2006, 94)] h
          ·refine Ai ?_
           exact sn [(2006, 2012)] h
      ·refine Ag Av rfl (AX rfl (qm rfl (Ab ?_)))
       exact sn [(2004, 2006)] h
     ·refine AS ?_
      exact sn [(2005, 2004)] h
    ·refine Ae hs (Ag Av rfl (AX rfl (qm rfl (Ab ?_))))
     exact sn [(2001, 2005)] h
  ·refine AS ?_
   exact sn [(2002, 2001)] h
 ·refine Ae hs (wq rfl (qm rfl (qe rfl ?_)))
  obtain rfl := sj h
  refine Ae (sm [(1000, 2002)] [(4, oD (.own 1000))] [(1000, .vec 3 (v2.map A2))] rfl rfl) (Ar ?_)
  exact ⟨⟨[_], tm, rfl⟩, ⟨rfl, tv⟩⟩
theorem S6 (N : Nat) (p0 : Aa) (p1 : Ac) (r : Ac × Ap × Int) (h : If N p0 p1 = some r) : Ao zA0 117 [.e (.agg (Ah p0)), .e (.agg (AI p1))] [] (.tup [.agg (AI r.1), .agg (Nt r.2.1), .one (iC r.2.2)]) := by
 unfold If at h
 refine cw (n := 42) (rs := [.cell 4 49, .cell 5 149, .tmp 6]) Tryz.func117 fun w0 S0 => ?_
 refine wq rfl (qb rfl (qb rfl (qz EG rfl (qz Ji rfl (qa rfl (Ab (wq rfl (qL CU BY rfl (qL BZ A3 rfl ?_)))))))))
 refine BP h fun v1 a1 h => Ax [2001] (RG N p0 p1 v1 a1) cF rfl (qm rfl (qx rfl (qx rfl (qa rfl (qa rfl (Ab (wp rfl (qm rfl (Bp rfl (Ab ?_))))))))))
 refine A8 h (fun h => ?_) fun h => ?_
 ·refine wq rfl (Bg EG Jm rfl (Bg Ji QV rfl (qm rfl (qs A3 rfl (qs IY rfl (qe rfl ?_))))))
  obtain rfl := sj h
  refine Ae ((QI 4 _ rfl).trans (sm [] [(4, oD (.ptr 4 0)), (5, oD (.ptr 5 0)), (6, iD v1.2)] [(4, .box [sC ((([] : List Int)).map Ak), sC ((([] : List Int)).map Ak), sC ((([] : List Int)).map D4)]), (5, .box [iC 0, iC 0, iC 0])] rfl rfl)) (Ar ?_)
  exact ⟨⟨[_, _, _], ⟨.cellN _ _ _ _ _ _ _ rfl rfl BZ A3 rfl rfl (Jo rfl), ⟨.cellN _ _ _ _ _ _ _ rfl rfl UN IY rfl rfl (Jo rfl), tm⟩⟩, rfl⟩, tv⟩
 ·refine Ai (wp rfl (qm rfl (EL Mz rfl (qm rfl (Ab ?_)))))
  refine AE (L := Fg N p0 v1) h (fun v3 => mk [(2, oD (.ptr 2 0)), (4, oD (.ptr 4 0)), (5, oD (.ptr 5 0)), (23, oD (.own 2002)), (24, iD ((v1.1.length : Int))), (25, iD v3)] [(2, .box (Ah p0)), (4, .box [.pure (.nil0), .pure (.nil0), .pure (.nil0)]), (5, .box [iC 0, iC 0, iC 0]), (2002, .vec 3 (v1.1.map Fc))]) (fun v4 => mk [(4, oD (.ptr 4 0)), (5, oD (.ptr 5 0))] [(4, .box [.pure (.nil0), .pure (.nil0), .pure (.nil0)]), (5, .box [iC 0, iC 0, iC 0])]) (fun _ _ => rfl) (sm [(2002, 2001)] _ _ rfl rfl) (fun j3 n3 v3 h => ?_) (fun v4 s h hs => ?_)
  ·unfold Fg at h
   refine wq rfl (AV rfl (Ab (AN ?_)))
   refine A8 h (fun h => ?_) fun h => ?_
   ·refine Ai (AN (AH (wq rfl ?_)))
    refine BD h fun v6 a6 b6 h => qI Mz A3 a6 (Af b6) rfl (qJ BZ A3 (Af b6) rfl (qz EG rfl (qs A3 rfl (Ab (wq rfl (qL CU BY rfl (qL BZ A3 rfl ?_)))))))
    refine BP h fun v7 a7 h => Ax [2003] (OH N p0 v6 v7 a7) bA rfl (qa rfl (Ab (wq rfl (qm rfl (EL HS rfl (GM rfl (Ab ?_)))))))
    refine A8 h (fun h => ?_) fun h => ?_
    ·refine wq rfl (qL BZ A3 rfl (qm rfl ?_))
     refine BD h fun v9 a9 b9 h => qI HS IY a9 (Af b9) rfl (qJ UN IY (Af b9) rfl (qs A3 rfl (qs IY rfl (qa rfl (AL (by kernel_rfl) ?_)))))
     obtain rfl := sj h
     refine Ae (sm [] [(4, oD (.ptr 4 0)), (5, oD (.ptr 5 0)), (6, iD 0)] [(4, .box (AI v6)), (5, .box (Nt v9))] rfl rfl) (Ar ?_)
     exact ⟨⟨[_, _, _], ⟨.cellN _ _ _ _ _ _ _ rfl rfl BZ A3 rfl rfl (Jo rfl), ⟨.cellN _ _ _ _ _ _ _ rfl rfl UN IY rfl rfl (Jo rfl), tm⟩⟩, rfl⟩, tv⟩
    ·refine Ai (Ag Av rfl (AX rfl (qm rfl (Ab ?_))))
     exact sn [] h
   ·refine AS ?_
    exact sn [] h
  ·refine Ae hs (wq rfl (Bg EG Jm rfl (Bg Ji QV rfl (qs A3 rfl (qs IY rfl (qe rfl ?_))))))
   obtain rfl := sj h
   refine Ae ((QI 4 _ rfl).trans (sm [] [(4, oD (.ptr 4 0)), (5, oD (.ptr 5 0)), (6, iD 15)] [(4, .box [sC ((([] : List Int)).map Ak), sC ((([] : List Int)).map Ak), sC ((([] : List Int)).map D4)]), (5, .box [iC 0, iC 0, iC 0])] rfl rfl)) (Ar ?_)
   exact ⟨⟨[_, _, _], ⟨.cellN _ _ _ _ _ _ _ rfl rfl BZ A3 rfl rfl (Jo rfl), ⟨.cellN _ _ _ _ _ _ _ rfl rfl UN IY rfl rfl (Jo rfl), tm⟩⟩, rfl⟩, tv⟩
theorem Na (N : Nat) (p0 : Aa) (p1 : Ac) (r : Bool × Int) (h : GO N p0 p1 = some r) : Ao zA0 83 [.e (.agg (Ah p0)), .e (.agg (AI p1))] [] (.tup [.one (.pure (.val (.bool r.1))), .one (iC r.2)]) := by
 unfold GO at h
 refine cw (n := 22) (rs := [.tmp 4, .tmp 5]) Tryz.func83 fun w0 S0 => ?_
 refine wq rfl (qb rfl (qb rfl (qa rfl (qa rfl (Ab (wq rfl (qL CU BY rfl (qL BZ A3 rfl ?_))))))))
 refine BP h fun v1 a1 h => Ax [] (S6 N p0 p1 v1 a1) bE rfl (qm rfl (qx rfl (qx rfl (qx rfl (qz EG rfl (qz Ji rfl (qs A3 rfl (qs IY rfl (qa rfl (Ab (wq rfl (qm rfl (Ab (AH (wq rfl (Cf rfl (qe rfl ?_)))))))))))))))))
 refine A8 h (fun h => ?_) fun h => ?_
 ·refine wq rfl (qa rfl (qe rfl ?_))
  obtain rfl := sj h
  refine Ae (sm [] [(4, bD false), (5, iD 0)] [] rfl rfl) (Ar ?_)
  exact ⟨⟨[_, _], ⟨.tmp _ _ rfl, tm⟩, rfl⟩, tv⟩
 ·refine wq rfl (Cf rfl (qe rfl ?_))
  refine A8 h (fun h => ?_) fun h => ?_
  ·refine wq rfl (qa rfl (qe rfl ?_))
   obtain rfl := sj h
   refine Ae (sm [] [(4, bD true), (5, iD 0)] [] rfl rfl) (Ar ?_)
   exact ⟨⟨[_, _], ⟨.tmp _ _ rfl, tm⟩, rfl⟩, tv⟩
  ·refine wq rfl (qm rfl (qa rfl (qe rfl ?_)))
   obtain rfl := sj h
   refine Ae (sm [] [(4, bD false), (5, iD v1.2.2)] [] rfl rfl) (Ar ?_)
   exact ⟨⟨[_, _], ⟨.tmp _ _ rfl, tm⟩, rfl⟩, tv⟩
theorem PX (N : Nat) (p0 : Ac) (r : ByteArray) (h : H2 N p0 = some r) : Ao zA0 138 [.e (.agg (AI p0))] [] (pD (.val (.string r))) := by
 unfold H2 at h
 refine cw (n := 53) (rs := [.tmp 2]) Tryz.func138 fun w0 S0 => ?_
 refine wq rfl (qb rfl (qa rfl (Ab (wq rfl (qf C4 rfl (ql A1 rfl (AJ As rfl (Nv rfl (qf C6 rfl (ql H7 rfl (AJ D9 rfl (AX rfl ?_))))))))))))
 refine FI h fun c1 h => LF (.p rfl) rfl rfl rfl Lg aG ay (Jc rfl) cv rfl rfl rfl c1.1 c1.2.1 c1.2.2 (Rt D4 _ ((0 : Int))) ?_
 refine qa rfl (Ab (wp rfl (qf C4 rfl (ql A1 rfl (AJ As rfl (qm rfl (Ab ?_)))))))
 refine AE (L := EY N p0) h (fun v2 => mk [(1, oD (.ptr 1 0)), (3, oD (.own 2001)), (18, iD ((p0.fd.length : Int))), (19, iD v2.2)] [(1, .box (AI p0)), (2001, .vec 1 (v2.1.map D4))]) (fun v3 => mk [(1, oD (.ptr 1 0)), (3, oD (.own 2002))] [(1, .box (AI p0)), (2002, .vec 1 (v3.map D4))]) (fun _ _ => rfl) (sm [(2001, 15)] _ _ rfl rfl) (fun j2 n2 v2 h => ?_) (fun v3 s h hs => ?_)
 ·unfold EY at h
  refine wq rfl (AV rfl (Ab (AN ?_)))
  refine A8 h (fun h => ?_) fun h => ?_
  ·refine Ai (AN (AH (wq rfl (qm rfl (qa rfl (Ab (Ag Av rfl (qm rfl (qf C4 rfl (ql A1 rfl (qm rfl ?_)))))))))))
   refine BD h fun v5 a5 b5 h => qi As Cy a5 (Af b5) rfl (qk BV rfl (JP dm eO rfl (qf BI rfl (ql A1 rfl (qm rfl ?_)))))
   refine BD h fun v6 a6 b6 h => qi As Cy a6 (Af b6) rfl (qk BV rfl (AX rfl (JP dm eO rfl (Di Lg aG cv rfl ?_))))
   refine FI h fun c7 h => Ck (f := D4) Lg Lg aG ay cv c7 rfl (qa rfl (AL (by kernel_rfl) (Ag Av rfl (AX rfl (qm rfl (Ab ?_))))))
   exact sn [(2001, 37)] h
  ·refine AS ?_
   exact sn [(2002, 2001)] h
 ·refine Ae hs (wp rfl (qf C6 rfl (ql H7 rfl (AJ D9 rfl (qm rfl (Ab ?_))))))
  refine AE (L := DY N p0) h (fun v8 => mk [(3, oD (.own 2003)), (40, pD (.sl (p0.fe.map D4))), (41, iD ((p0.fe.length : Int))), (42, iD v8.2)] [(2003, .vec 1 (v8.1.map D4))]) (fun v9 => mk [(3, oD (.own 2004))] [(2004, .vec 1 (v9.map D4))]) (fun _ _ => rfl) (sm [(2003, 2002)] _ _ rfl rfl) (fun j8 n8 v8 h => ?_) (fun v9 s h hs => ?_)
  ·unfold DY at h
   refine wq rfl (AV rfl (Ab (AN ?_)))
   refine A8 h (fun h => ?_) fun h => ?_
   ·refine Ai (AN (AH (wq rfl ?_)))
    refine BD h fun v11 a11 b11 h => qi D9 EQ a11 (Af b11) rfl (qk I1 rfl (qa rfl (Ab (Ag Av rfl (qw 2 rfl (Di Lg aG cv rfl ?_))))))
    refine FI h fun c12 h => Ck (f := D4) Lg Lg aG ay cv c12 rfl (qa rfl (Ab (Ag Av rfl (AX rfl (qm rfl (Ab ?_))))))
    exact sn [(2003, 49)] h
   ·refine AS ?_
    exact sn [(2004, 2003)] h
  ·refine Ae hs (wq rfl (qm rfl ?_))
   refine Xs v9 (.p rfl) rfl (W0 D4 _ _ _) ⟨rfl, tv⟩ rfl bm VH ?_
   refine qa rfl (Ab ?_)
   obtain rfl := sj h
   refine Ae (sm [] [(2, pD (.val (.string ((CI v9)))))] [] rfl rfl) (Ar ?_)
   exact ⟨⟨[_], tm, rfl⟩, tv⟩
theorem Ug (N : Nat) (p0 : Aa) (r : (List Ad)) (h : IQ N p0 = some r) : Ao zA0 125 [.e (.agg (Ah p0))] [(3, r.map AA)] (oD (.own 0)) := by
 unfold IQ at h
 refine cw (n := 54) (rs := [.tmp 2]) Tryz.func125 fun w0 S0 => ?_
 refine wq rfl (qb rfl (qa rfl (Ab (wq rfl (qa rfl (Ab (wp rfl (qf A6 rfl (ql A1 rfl (AJ As rfl (qm rfl (Ab ?_))))))))))))
 refine AE (L := Dx N p0) h (fun v1 => mk [(1, oD (.ptr 1 0)), (3, oD (.own 2001)), (10, pD (.sl (p0.fa.map Ak))), (11, iD ((p0.fa.length : Int))), (12, iD v1.2)] [(1, .box (Ah p0)), (2001, .vec 3 (v1.1.map AA))]) (fun v2 => mk [(1, oD (.ptr 1 0)), (3, oD (.own 2002))] [(1, .box (Ah p0)), (2002, .vec 3 (v2.map AA))]) (fun _ _ => rfl) ((AU 3 2005 3 rfl rfl rfl).trans (sm [(2001, 2005)] _ _ rfl rfl)) (fun j1 n1 v1 h => ?_) (fun v2 s h hs => ?_)
 ·unfold Dx at h
  refine wq rfl (AV rfl (Ab (AN ?_)))
  refine A8 h (fun h => ?_) fun h => ?_
  ·refine Ai (AN (AH (wq rfl (qm rfl ?_))))
   refine BD h fun v4 a4 b4 h => qi As Cy a4 (Af b4) rfl (qk BV rfl (qa rfl (qa rfl (Ab (wq rfl (qw 2 rfl (Ab ?_)))))))
   refine AE (L := E4 N v1 v4) h (fun v5 => mk [(1, oD (.ptr 1 0)), (3, oD (.own 2003)), (4, iD v1.2), (10, pD (.sl (p0.fa.map Ak))), (11, iD ((p0.fa.length : Int))), (12, iD v1.2), (17, iD v4), (18, iD v5.2)] [(1, .box (Ah p0)), (2003, .vec 3 (v5.1.map AA))]) (fun v6 => mk [(1, oD (.ptr 1 0)), (3, oD (.own 2004)), (10, pD (.sl (p0.fa.map Ak))), (11, iD ((p0.fa.length : Int))), (12, iD v1.2)] [(1, .box (Ah p0)), (2004, .vec 3 (v6.map AA))]) (fun _ _ => rfl) (sm [(2003, 2001)] _ _ rfl rfl) (fun j5 n5 v5 h => ?_) (fun v6 s h hs => ?_)
   ·unfold E4 at h
    refine wq rfl (AV rfl (Ab (AN ?_)))
    refine A8 h (fun h => ?_) fun h => ?_
    ·refine Ai (AN (AH (wq rfl (qm rfl (qa rfl (Ab (Ag Av rfl (qw 3 rfl (Bg Ky YT rfl (Di EO EZ Ky rfl ?_))))))))))
     refine FI h fun c8 h => Ck (f := AA) EO EO EZ Qy Ky c8 rfl (qa rfl (Ab (Ag Av rfl (AX rfl (qm rfl (Ab ?_))))))
     exact sn [(2003, 26)] h
    ·refine AS ?_
     exact sn [(2004, 2003)] h
   ·refine Ae hs (Ag Av rfl (AX rfl (qm rfl (Ab ?_))))
    exact sn [(2001, 2004)] h
  ·refine AS ?_
   exact sn [(2002, 2001)] h
 ·refine Ae hs (wp rfl (qf A6 rfl (ql A1 rfl (AJ As rfl (qm rfl (Ab ?_))))))
  refine AE (L := Ct N p0) h (fun v9 => mk [(1, oD (.ptr 1 0)), (3, oD (.own 2006)), (31, iD ((p0.fa.length : Int))), (32, iD v9.2)] [(1, .box (Ah p0)), (2006, .vec 3 (v9.1.map AA))]) (fun v10 => mk [(1, oD (.ptr 1 0)), (3, oD (.own 2007))] [(1, .box (Ah p0)), (2007, .vec 3 (v10.map AA))]) (fun _ _ => rfl) (sm [(2006, 2002)] _ _ rfl rfl) (fun j9 n9 v9 h => ?_) (fun v10 s h hs => ?_)
  ·unfold Ct at h
   refine wq rfl (AV rfl (Ab (AN ?_)))
   refine A8 h (fun h => ?_) fun h => ?_
   ·refine Ai (AN (AH (wq rfl (qm rfl (qa rfl (Ab (Ag Av rfl (qw 2 rfl (Bg Ky YT rfl (Di EO EZ Ky rfl ?_))))))))))
    refine FI h fun c12 h => Ck (f := AA) EO EO EZ Qy Ky c12 rfl (qa rfl (Ab (Ag Av rfl (AX rfl (qm rfl (Ab ?_))))))
    exact sn [(2006, 39)] h
   ·refine AS ?_
    exact sn [(2007, 2006)] h
  ·refine Ae hs (wp rfl (qf Cc rfl (ql Hj rfl (AJ Dt rfl (qm rfl (Ab ?_))))))
   refine AE (L := Bw N p0) h (fun v13 => mk [(3, oD (.own 2008)), (43, iD ((p0.fc.length : Int))), (44, iD v13.2)] [(2008, .vec 3 (v13.1.map AA))]) (fun v14 => mk [(3, oD (.own 2009))] [(2009, .vec 3 (v14.map AA))]) (fun _ _ => rfl) (sm [(2008, 2007)] _ _ rfl rfl) (fun j13 n13 v13 h => ?_) (fun v14 s h hs => ?_)
   ·unfold Bw at h
    refine wq rfl (AV rfl (Ab (AN ?_)))
    refine A8 h (fun h => ?_) fun h => ?_
    ·refine Ai (AN (AH (wq rfl (qm rfl (qa rfl (Ab (Ag Av rfl (qw 2 rfl (Bg Ky YT rfl (Di EO EZ Ky rfl ?_))))))))))
     refine FI h fun c16 h => Ck (f := AA) EO EO EZ Qy Ky c16 rfl (qa rfl (Ab (Ag Av rfl (AX rfl (qm rfl (Ab ?_))))))
     exact sn [(2008, 51)] h
    ·refine AS ?_
     exact sn [(2009, 2008)] h
   ·refine Ae hs (wq rfl (qm rfl (qe rfl ?_)))
    obtain rfl := sj h
    refine Ae (sm [(1000, 2009)] [(2, oD (.own 1000))] [(1000, .vec 3 (v14.map AA))] rfl rfl) (Ar ?_)
    exact ⟨⟨[_], tm, rfl⟩, ⟨rfl, tv⟩⟩
theorem Qa (N : Nat) (p0 : Ac) (r : Ac) (h : G8 N p0 = some r) : Ao zA0 159 [.e (.agg (AI p0))] [(1, r.fd.map Ak), (1, r.fb.map Ak), (1, r.fe.map D4)] (.e (.agg [.own 0, .own 1, .own 2])) := by
 unfold G8 at h
 refine cw (n := 13) (rs := [.cell 2 49]) Tryz.func159 fun w0 S0 => ?_
 refine wq rfl (qb rfl (qz EG rfl (Ab (wq rfl (qf C4 rfl (ql A1 rfl ?_))))))
 refine BP h fun v1 a1 h => Ax [2001] (Em N p0.fd v1 a1) Xc rfl (qf BI rfl (ql A1 rfl ?_))
 refine BP h fun v2 a2 h => Ax [2002] (Em N p0.fb v2 a2) Xc rfl (qf C6 rfl (ql H7 rfl ?_))
 refine BP h fun v3 a3 h => Ax [2003] (Gk N p0.fe v3 a3) Zj rfl (Bg EG Jm rfl (qs A3 rfl (AL (by kernel_rfl) ?_)))
 obtain rfl := sj h
 refine Ae (sm [(1000, 2001), (1001, 2002), (1002, 2003)] [(2, oD (.ptr 2 0))] [(2, .box [.own 1000, .own 1001, .own 1002]), (1000, .vec 1 (v1.map Ak)), (1001, .vec 1 (v2.map Ak)), (1002, .vec 1 (v3.map D4))] rfl rfl) (Ar ?_)
 exact ⟨⟨[_], ⟨.cellN _ _ _ _ _ _ _ rfl rfl BZ A3 rfl rfl (Jo rfl), tv⟩, rfl⟩, ⟨rfl, rfl, rfl, tv⟩⟩
theorem Mx (N : Nat) (p0 : An) (r : Bool) (h : Gf N p0 = some r) : Ao zA0 176 [.e (.agg (Ba p0))] [] (bD r) := by
 unfold Gf at h
 refine cw (n := 11) (rs := [.tmp 2]) Tryz.func176 fun w0 S0 => ?_
 refine wq rfl (qb rfl (qe rfl ?_))
 refine AR h (fun v1 => mk [(2, bD v1)] []) (fun j1 h => ?_) (fun v1 h => ?_)
 ·refine Ag Av rfl (qf Gu rfl (ql BV rfl (Cf rfl (qm rfl ?_))))
  refine Ey 6 h rfl (fun h => ?_) fun h => ?_
  ·refine qw 3 rfl (qp rfl (qe rfl ?_))
   exact sn [] h
  ·refine qf Gu rfl (ql BV rfl (Cf rfl (qp rfl (qe rfl ?_))))
   exact sn [] h
 ·obtain rfl := sj h
  refine Ae (sm [] [(2, bD v1)] [] rfl rfl) (Ar ?_)
  exact ⟨⟨[_], tm, rfl⟩, tv⟩
theorem RE (N : Nat) (p0 : Aa) (p1 : Ac) (p2 : Ad) (r : Bool × (List Int) × (List Int)) (h : II N p0 p1 p2 = some r) : EK zA0 160 [.e (.agg (Ah p0)), oD (.ptr 90000 0), .e (.agg (Dv p2))] [(.box [.own 90001, .own 90002, .own 90003], .box [.own 90001, .own 90002, .own 90003]), (.vec 1 (p1.fd.map Ak), .vec 1 (p1.fd.map Ak)), (.vec 1 (p1.fb.map Ak), .vec 1 (r.2.1.map Ak)), (.vec 1 (p1.fe.map D4), .vec 1 (r.2.2.map D4))] [] (bD r.1) := by
 unfold II at h
 refine Hc (n := 70) (rs := [.tmp 6]) Tryz.func160 rfl rfl rfl (Jc rfl) (Jc rfl) rfl rfl (Jc rfl) rfl (Jc rfl) fun w0 S0 GL => ?_
 refine Ae (sm [] [(0, .e (.agg (Ah p0))), (1, oD (.ptr 90000 0)), (2, .e (.agg (Dv p2)))] [(90000, .box [.own 90001, .own 90002, .own 90003]), (90001, .vec 1 (p1.fd.map Ak)), (90002, .vec 1 (p1.fb.map Ak)), (90003, .vec 1 (p1.fe.map D4))] rfl rfl) (wq rfl (qb rfl (qb rfl (qa rfl (Ab (AN ?_))))))
 refine AR h (fun v1 => mk [(1, oD (.ptr 90000 0)), (3, oD (.ptr 3 0)), (5, oD (.ptr 5 0)), (30, bD v1)] [(3, .box (Ah p0)), (5, .box (Dv p2)), (90000, .box [.own 90001, .own 90002, .own 90003]), (90001, .vec 1 (p1.fd.map Ak)), (90002, .vec 1 (p1.fb.map Ak)), (90003, .vec 1 (p1.fe.map D4))]) (fun j1 h => ?_) (fun v1 h => ?_)
 ·refine Ag Av rfl (qm rfl (X6 rfl (qf BI rfl (ql A1 rfl (qf FB rfl (ql BV rfl ?_))))))
  refine BD h fun v2 a2 b2 h => qI As Cy a2 (Af b2) rfl (qj BV (Af b2) rfl (EE rfl (qm rfl ?_)))
  refine Ey 18 h rfl (fun h => ?_) fun h => ?_
  ·refine qw 11 rfl (qp rfl (AL (by kernel_rfl) ?_))
   exact sn [] h
  ·refine qm rfl (X6 rfl (qf C4 rfl (ql A1 rfl (qf FB rfl (ql BV rfl ?_)))))
   refine BD h fun v4 a4 b4 h => qI As Cy a4 (Af b4) rfl (qj BV (Af b4) rfl (qf HL rfl (ql BV rfl (Cf rfl (qp rfl (AL (by kernel_rfl) ?_))))))
   exact sn [] h
 ·refine A8 h (fun h => ?_) fun h => ?_
  ·refine wq rfl (qe rfl ?_)
   obtain rfl := sj h
   refine Ae (sm [] [(6, bD false)] [(90000, .box [.own 90001, .own 90002, .own 90003]), (90001, .vec 1 (p1.fd.map Ak)), (90002, .vec 1 (p1.fb.map Ak)), (90003, .vec 1 (p1.fe.map D4))] rfl rfl) (Ar ?_)
   exact ⟨⟨[_], tm, rfl⟩, ⟨rfl, rfl, rfl, rfl, tv⟩, tv⟩
  ·refine Ai (wq rfl (qm rfl (X6 rfl (qf BI rfl (ql A1 rfl (qf FB rfl (ql BV rfl (qf HL rfl (ql BV rfl ?_)))))))))
   refine BD h fun v6 a6 b6 h => qI As Cy a6 (Af b6) rfl ?_
   refine DG rfl rfl rfl rfl (Af b6) rfl Cy rfl (Jc rfl) (Dy Ak p1.fb _ p2.fo) ?_
   refine AL (by kernel_rfl) (wp rfl (qf Cc rfl (ql Hj rfl (AJ Dt rfl (qm rfl (Ab ?_))))))
   refine AE (L := Ea N p0 p2) h (fun v7 => mk [(1, oD (.ptr 90000 0)), (5, oD (.ptr 5 0)), (41, pD (.sl (p0.fc.map AM))), (42, iD ((p0.fc.length : Int))), (43, iD v7.2)] [(5, .box (Dv p2)), (90000, .box [.own 90001, .own 90002, .own 90003]), (90001, .vec 1 (p1.fd.map Ak)), (90002, .vec 1 ((p1.fb.set ((p2.fh).toNat) p2.fo).map Ak)), (90003, .vec 1 (v7.1.map D4))]) (fun v8 => mk [] [(90000, .box [.own 90001, .own 90002, .own 90003]), (90001, .vec 1 (p1.fd.map Ak)), (90002, .vec 1 ((p1.fb.set ((p2.fh).toNat) p2.fo).map Ak)), (90003, .vec 1 (v8.map D4))]) (fun _ _ => rfl) (sm [] _ _ rfl rfl) (fun j7 n7 v7 h => ?_) (fun v8 s h hs => ?_)
   ·unfold Ea at h
    refine wq rfl (AV rfl (Ab (AN ?_)))
    refine A8 h (fun h => ?_) fun h => ?_
    ·refine Ai ?_
     refine AR h (fun v10 => mk [(1, oD (.ptr 90000 0)), (5, oD (.ptr 5 0)), (41, pD (.sl (p0.fc.map AM))), (42, iD ((p0.fc.length : Int))), (43, iD v7.2)] [(5, .box (Dv p2)), (90000, .box [.own 90001, .own 90002, .own 90003]), (90001, .vec 1 (p1.fd.map Ak)), (90002, .vec 1 ((p1.fb.set ((p2.fh).toNat) p2.fo).map Ak)), (90003, .vec 1 (v10.map D4))]) (fun j10 h => ?_) (fun v10 h => ?_)
     ·refine AH (wq rfl (qm rfl ?_))
      refine BD h fun v11 a11 b11 h => qi Dt Dl a11 (Af b11) rfl (qK G1 Dl rfl (qz I7 rfl (qa rfl (qs Dl rfl (Ab ?_)))))
      refine AR h (fun v12 => mk [(1, oD (.ptr 90000 0)), (5, oD (.ptr 5 0)), (7, iD v7.2), (41, pD (.sl (p0.fc.map AM))), (42, iD ((p0.fc.length : Int))), (43, iD v7.2), (56, bD v12)] [(5, .box (Dv p2)), (90000, .box [.own 90001, .own 90002, .own 90003]), (90001, .vec 1 (p1.fd.map Ak)), (90002, .vec 1 ((p1.fb.set ((p2.fh).toNat) p2.fo).map Ak)), (90003, .vec 1 (v7.1.map D4))]) (fun j12 h => ?_) (fun v12 h => ?_)
      ·refine Ag Av rfl (qf Dd rfl (ql BV rfl (qf FB rfl (ql BV rfl (Cf rfl (qm rfl ?_))))))
       refine Ey 53 h rfl (fun h => ?_) fun h => ?_
       ·refine qL G1 Dl rfl ?_
        refine BP h fun v14 a14 h => Ax [] (Mx N v11 v14 a14) ZC rfl (qp rfl (Ab ?_))
        exact sn [] h
       ·refine qw 2 rfl (qp rfl (Ab ?_))
        exact sn [] h
      ·refine A8 h (fun h => ?_) fun h => ?_
       ·refine Ag Av rfl (qm rfl (X6 rfl (qf C6 rfl (ql H7 rfl (qm rfl ?_)))))
        refine BD h fun v16 a16 b16 h => qI D9 EQ a16 (Af b16) rfl (qj I1 (Af b16) rfl (qf HL rfl (ql BV rfl ?_)))
        refine FI h fun c17 h => Jj rfl c17 (WM rfl ?_)
        refine BD h fun v18 a18 b18 h => qI D9 EQ a18 (Af b18) rfl ?_
        refine DG rfl rfl rfl rfl (Af b18) rfl EQ rfl (Jc rfl) (Dy D4 v7.1 _ ((P0 .u8 v16 ((DX .u8 1 p2.fo))))) ?_
        refine AL (by kernel_rfl) ?_
        exact sn [] h
       ·refine Ai ?_
        exact sn [] h
     ·refine Ag Av rfl (AX rfl (qm rfl (Ab ?_)))
      exact sn [] h
    ·refine AS ?_
     exact sn [] h
   ·refine Ae hs (wq rfl (qe rfl ?_))
    obtain rfl := sj h
    refine Ae (sm [] [(6, bD true)] [(90000, .box [.own 90001, .own 90002, .own 90003]), (90001, .vec 1 (p1.fd.map Ak)), (90002, .vec 1 ((p1.fb.set ((p2.fh).toNat) p2.fo).map Ak)), (90003, .vec 1 (v8.map D4))] rfl rfl) (Ar ?_)
    exact ⟨⟨[_], tm, rfl⟩, ⟨rfl, rfl, rfl, rfl, tv⟩, tv⟩
theorem Pu (N : Nat) (p0 : Ac) (p1 : Int) (r : Int) (h : GG N p0 p1 = some r) : Ao zA0 177 [.e (.agg (AI p0)), iD p1] [] (pD (.val (.int .u8 r))) := by
 unfold GG at h
 refine cw (n := 27) (rs := [.tmp 4]) Tryz.func177 fun w0 S0 => ?_
 refine wq rfl (qb rfl (qa rfl (Ab (wq rfl (qf C4 rfl (ql A1 rfl (qm rfl ?_)))))))
 refine BD h fun v1 a1 b1 h => qi As Cy a1 (Af b1) rfl (qk BV rfl ?_)
 refine FI h fun c2 h => Jj rfl c2 (qe rfl ?_)
 refine AR h (fun v3 => mk [(5, pD (.val (.int .u8 v3)))] []) (fun j3 h => ?_) (fun v3 h => ?_)
 ·refine wq rfl (qf BI rfl (ql A1 rfl (qm rfl ?_)))
  refine BD h fun v4 a4 b4 h => qi As Cy a4 (Af b4) rfl (qk BV rfl (EE rfl (Ab ?_)))
  refine A8 h (fun h => ?_) fun h => ?_
  ·refine Ag Av rfl (qm rfl (qf BI rfl (ql A1 rfl (qm rfl ?_))))
   refine BD h fun v6 a6 b6 h => qi As Cy a6 (Af b6) rfl (qk BV rfl ?_)
   refine FI h fun c7 h => Jj rfl c7 (WM rfl (qe rfl ?_))
   exact sn [] h
  ·refine Ai ?_
   exact sn [] h
 ·refine wq rfl (qm rfl (qe rfl ?_))
  obtain rfl := sj h
  refine Ae (sm [] [(4, pD (.val (.int .u8 v3)))] [] rfl rfl) (Ar ?_)
  exact ⟨⟨[_], tm, rfl⟩, tv⟩
theorem J3 (N : Nat) (p0 : Int) (r : Int) (h : Dj N p0 = some r) : Ao zA0 180 [pD (.val (.int .u8 p0))] [] (iD r) := by
 unfold Dj at h
 refine cw (n := 6) (rs := [.tmp 2]) Tryz.func180 fun w0 S0 => ?_
 refine wq rfl (qa rfl (Ab (wq rfl (qm rfl ?_))))
 refine BP h fun v1 a1 h => Kw (.p rfl) rfl rfl VH a1 ?_
 refine JP Z0 XX rfl (qe rfl ?_)
 obtain rfl := sj h
 refine Ae (sm [] [(2, iD ((wI .i64 v1)))] [] rfl rfl) (Ar ?_)
 exact ⟨⟨[_], tm, rfl⟩, tv⟩
theorem Ng (N : Nat) (p0 : An) (p1 : Int) (p2 : Int) (r : Bool) (h : Gq N p0 p1 p2 = some r) : Ao zA0 178 [.e (.agg (Ba p0)), pD (.val (.int .u8 p1)), iD p2] [] (bD r) := by
 unfold Gq at h
 refine cw (n := 25) (rs := [.tmp 6]) Tryz.func178 fun w0 S0 => ?_
 refine wq rfl (qb rfl (qa rfl (Ab (wp rfl (qm rfl (qe rfl ?_))))))
 refine AE (L := DS N p0 p2) h (fun v1 => mk [(2, iD p2), (3, oD (.ptr 3 0)), (7, pD (.val (.int .u8 v1)))] [(3, .box (Ba p0))]) (fun v2 => mk [] []) (fun _ _ => rfl) (sm [] _ _ rfl rfl) (fun j1 n1 v1 h => ?_) (fun v2 s h hs => ?_)
 ·unfold DS at h
  refine wp rfl (qm rfl (Bp rfl (Ab ?_)))
  refine A8 h (fun h => ?_) fun h => ?_
  ·refine Ai (AN (AH (wq rfl (qf FD rfl (ql IG rfl (qm rfl ?_))))))
   refine BP h fun v4 a4 h => Ax [] (J3 N v1 v4 a4) cW rfl ?_
   refine BD h fun v5 a5 b5 h => qi EC JJ a5 (Af b5) rfl (qk OI rfl (qm rfl ?_))
   refine BD h fun v6 a6 b6 h => qi EN N7 a6 (Af b6) rfl (qk Sf rfl (Cm rfl (AL (by kernel_rfl) ?_)))
   refine A8 h (fun h => ?_) fun h => ?_
   ·refine wq rfl (qe rfl ?_)
    obtain rfl := sj h
    refine Ae (sm [] [(6, bD false)] [] rfl rfl) (Ar ?_)
    exact ⟨⟨[_], tm, rfl⟩, tv⟩
   ·refine Ai (Ag Av rfl (qw 2 rfl (Kh rfl (Iu rfl (qe rfl ?_)))))
    exact sn [] h
  ·refine AS ?_
   exact sn [] h
 ·refine Ae hs (wq rfl (qe rfl ?_))
  obtain rfl := sj h
  refine Ae (sm [] [(6, bD true)] [] rfl rfl) (Ar ?_)
  exact ⟨⟨[_], tm, rfl⟩, tv⟩
theorem RO (N : Nat) (p0 : Aa) (p1 : Ac) (p2 : Int) (r : Bool × (List Int)) (h : HH N p0 p1 p2 = some r) : EK zA0 161 [.e (.agg (Ah p0)), oD (.ptr 90000 0), iD p2] [(.box [.own 90001, .own 90002, .own 90003], .box [.own 90001, .own 90002, .own 90003]), (.vec 1 (p1.fd.map Ak), .vec 1 (p1.fd.map Ak)), (.vec 1 (p1.fb.map Ak), .vec 1 (p1.fb.map Ak)), (.vec 1 (p1.fe.map D4), .vec 1 (r.2.map D4))] [] (bD r.1) := by
 unfold HH at h
 refine Hc (n := 68) (rs := [.tmp 6]) Tryz.func161 rfl rfl rfl (Jc rfl) (Jc rfl) rfl rfl (Jc rfl) rfl (Jc rfl) fun w0 S0 GL => ?_
 refine Ae (sm [] [(0, .e (.agg (Ah p0))), (1, oD (.ptr 90000 0)), (2, iD p2)] [(90000, .box [.own 90001, .own 90002, .own 90003]), (90001, .vec 1 (p1.fd.map Ak)), (90002, .vec 1 (p1.fb.map Ak)), (90003, .vec 1 (p1.fe.map D4))] rfl rfl) (wq rfl (qb rfl (qa rfl (Ab (wq rfl (qf Cc rfl (ql Hj rfl (qm rfl ?_))))))))
 refine BD h fun v1 a1 b1 h => qi Dt Dl a1 (Af b1) rfl (qK G1 Dl rfl (qz I7 rfl (qs Dl rfl (Ab (wp rfl (qL G1 Dl rfl ?_))))))
 refine BP h fun v2 a2 h => Ax [] (Mx N v1 v2 a2) ZC rfl (Cm rfl (Ab ?_))
 refine A8 h (fun h => ?_) fun h => ?_
 ·refine wq rfl (qe rfl ?_)
  obtain rfl := sj h
  refine Ae (sm [] [(6, bD false)] [(90000, .box [.own 90001, .own 90002, .own 90003]), (90001, .vec 1 (p1.fd.map Ak)), (90002, .vec 1 (p1.fb.map Ak)), (90003, .vec 1 (p1.fe.map D4))] rfl rfl) (Ar ?_)
  exact ⟨⟨[_], tm, rfl⟩, ⟨rfl, rfl, rfl, rfl, tv⟩, tv⟩
 ·refine Ai (wq rfl (qm rfl (X6 rfl (qL BZ A3 rfl (qf Dd rfl (ql BV rfl ?_))))))
  refine BP h fun v4 a4 h => D0 [] [90001, 90002, 90003] (Pu N p1 v1.fg v4 a4) cy Cn rfl (qa rfl (AL (by kernel_rfl) (wq rfl (qm rfl (X6 rfl (qf C6 rfl (ql H7 rfl (qm rfl ?_))))))))
  refine BD h fun v5 a5 b5 h => qI D9 EQ a5 (Af b5) rfl (qj I1 (Af b5) rfl (qm rfl (Io rfl (qa rfl (Ab (AN ?_))))))
  refine AR h (fun v6 => mk [(1, oD (.ptr 90000 0)), (2, iD p2), (8, pD (.val (.int .u8 v4))), (60, bD v6)] [(90000, .box [.own 90001, .own 90002, .own 90003]), (90001, .vec 1 (p1.fd.map Ak)), (90002, .vec 1 (p1.fb.map Ak)), (90003, .vec 1 (p1.fe.map D4))]) (fun j6 h => ?_) (fun v6 h => ?_)
  ·refine Ag Av rfl (qm rfl (X6 rfl (qf C6 rfl (ql H7 rfl (qm rfl ?_)))))
   refine BD h fun v7 a7 b7 h => qI D9 EQ a7 (Af b7) rfl (qj I1 (Af b7) rfl (qm rfl (Cf rfl (qm rfl ?_))))
   refine Ey 42 h rfl (fun h => ?_) fun h => ?_
   ·refine qw 4 rfl (qu rfl (qu rfl (qu rfl (qu rfl (qu rfl (qu rfl (qu rfl (qu rfl (qu rfl (qu rfl (qu rfl (qu rfl (qn rfl (qp rfl (AL (by kernel_rfl) ?_)))))))))))))))
    exact sn [] h
   ·refine qf Gu rfl (ql BV rfl (Cf rfl (qm rfl ?_)))
    refine Ey 46 h rfl (fun h => ?_) fun h => ?_
    ·refine qL G1 Dl rfl (qw 2 rfl (X6 rfl (qf C4 rfl (ql A1 rfl (qf Dd rfl (ql BV rfl ?_))))))
     refine BD h fun v10 a10 b10 h => qI As Cy a10 (Af b10) rfl (qj BV (Af b10) rfl ?_)
     refine BP h fun v11 a11 h => Ax [] (Ng N v1 ((Dc .u8 v5 v4)) v10 v11 a11) bJ rfl (Cm rfl (qp rfl (qp rfl (AL (by kernel_rfl) ?_))))
     exact sn [] h
    ·refine qw 12 rfl (qp rfl (qp rfl (AL (by kernel_rfl) ?_)))
     exact sn [] h
  ·refine A8 h (fun h => ?_) fun h => ?_
   ·refine wq rfl (qe rfl ?_)
    obtain rfl := sj h
    refine Ae (sm [] [(6, bD false)] [(90000, .box [.own 90001, .own 90002, .own 90003]), (90001, .vec 1 (p1.fd.map Ak)), (90002, .vec 1 (p1.fb.map Ak)), (90003, .vec 1 (p1.fe.map D4))] rfl rfl) (Ar ?_)
    exact ⟨⟨[_], tm, rfl⟩, ⟨rfl, rfl, rfl, rfl, tv⟩, tv⟩
   ·refine Ai (wq rfl (qm rfl (X6 rfl (qf C6 rfl (ql H7 rfl (qw 2 rfl ?_))))))
    refine BD h fun v13 a13 b13 h => qI D9 EQ a13 (Af b13) rfl ?_
    refine DG rfl rfl rfl rfl (Af b13) rfl EQ rfl (Jc rfl) (Dy D4 p1.fe _ v4) ?_
    refine Ab (wq rfl (qe rfl ?_))
    obtain rfl := sj h
    refine Ae (sm [] [(6, bD true)] [(90000, .box [.own 90001, .own 90002, .own 90003]), (90001, .vec 1 (p1.fd.map Ak)), (90002, .vec 1 (p1.fb.map Ak)), (90003, .vec 1 ((p1.fe.set ((p2).toNat) v4).map D4))] rfl rfl) (Ar ?_)
    exact ⟨⟨[_], tm, rfl⟩, ⟨rfl, rfl, rfl, rfl, tv⟩, tv⟩
theorem Nh (N : Nat) (p0 : Aa) (p1 : Ac) (p2 : Ad) (r : Ac × Bool) (h : F0 N p0 p1 p2 = some r) : Ao zA0 127 [.e (.agg (Ah p0)), .e (.agg (AI p1)), .e (.agg (Dv p2))] [(1, r.1.fd.map Ak), (1, r.1.fb.map Ak), (1, r.1.fe.map D4)] (.tup [.agg [.own 0, .own 1, .own 2], .one (.pure (.val (.bool r.2)))]) := by
 unfold F0 at h
 refine cw (n := 51) (rs := [.cell 6 49, .tmp 7]) Tryz.func127 fun w0 S0 => ?_
 refine wq rfl (qb rfl (qb rfl (qb rfl (qz EG rfl (qa rfl (Ab (wq rfl (qL BZ A3 rfl ?_))))))))
 refine BP h fun v1 a1 h => Ax [2001, 2002, 2003] (Qa N p1 v1 a1) cU rfl (qz EG rfl (qs A3 rfl (Ab (wp rfl (qf Gv rfl (ql BV rfl (Ab (AH (wq rfl (Cf rfl (qe rfl ?_)))))))))))
 refine A8 h (fun h => ?_) fun h => ?_
 ·refine wq rfl (qL BZ A3 rfl (qL CU BY rfl (qL J4 EZ rfl ?_)))
  refine BP h fun v3 a3 h => L7 (ds0 := [_, _, _]) [8, 2001, 2002, 2003] [] [false, false, true, true] (RE N p0 v1 p2 v3 a3) (.p rfl) cM rfl ⟨rfl, rfl, rfl, tv⟩ rfl rfl (by decide) ⟨rfl, rfl, rfl, rfl, tv⟩ rfl (Gp rfl) tv ⟨(fun _ => rfl), (fun _ => rfl), (fun h => by cases h), (fun h => by cases h), tv⟩ rfl rfl rfl ?_
  refine qs A3 rfl (qa rfl (AL (by kernel_rfl) ?_))
  obtain rfl := sj h
  refine Ae (sm [(1000, 2001), (1001, 2002), (1002, 2003)] [(6, oD (.ptr 6 0)), (7, bD v3.1)] [(6, .box [.own 1000, .own 1001, .own 1002]), (1000, .vec 1 (v1.fd.map Ak)), (1001, .vec 1 (v3.2.1.map Ak)), (1002, .vec 1 (v3.2.2.map D4))] rfl rfl) (Ar ?_)
  exact ⟨⟨[_, _], ⟨.cellN _ _ _ _ _ _ _ rfl rfl BZ A3 rfl rfl (Jo rfl), tm⟩, rfl⟩, ⟨rfl, rfl, rfl, tv⟩⟩
 ·refine wq rfl (Cf rfl (qe rfl ?_))
  refine A8 h (fun h => ?_) fun h => ?_
  ·refine wq rfl (qL BZ A3 rfl (qL CU BY rfl (qf FB rfl (ql BV rfl ?_))))
   refine BP h fun v5 a5 h => L7 (ds0 := [_, _, _]) [8, 2001, 2002, 2003] [] [false, false, false, true] (RO N p0 v1 p2.fh v5 a5) (.p rfl) bY rfl ⟨rfl, rfl, rfl, tv⟩ rfl rfl (by decide) ⟨rfl, rfl, rfl, rfl, tv⟩ rfl (Gp rfl) tv ⟨(fun _ => rfl), (fun _ => rfl), (fun _ => rfl), (fun h => by cases h), tv⟩ rfl rfl rfl ?_
   refine qs A3 rfl (qa rfl (AL (by kernel_rfl) ?_))
   obtain rfl := sj h
   refine Ae (sm [(1000, 2001), (1001, 2002), (1002, 2003)] [(6, oD (.ptr 6 0)), (7, bD v5.1)] [(6, .box [.own 1000, .own 1001, .own 1002]), (1000, .vec 1 (v1.fd.map Ak)), (1001, .vec 1 (v1.fb.map Ak)), (1002, .vec 1 (v5.2.map D4))] rfl rfl) (Ar ?_)
   exact ⟨⟨[_, _], ⟨.cellN _ _ _ _ _ _ _ rfl rfl BZ A3 rfl rfl (Jo rfl), tm⟩, rfl⟩, ⟨rfl, rfl, rfl, tv⟩⟩
  ·refine Ai (wq rfl (qf BI rfl (ql A1 rfl (qf FB rfl (ql BV rfl ?_)))))
   refine BD h fun v6 a6 b6 h => qI As Cy a6 (Af b6) rfl (qj BV (Af b6) rfl (qa rfl (Ab (wp rfl (qm rfl (AV rfl (Ab ?_)))))))
   refine A8 h (fun h => ?_) fun h => ?_
   ·refine wq rfl (qL BZ A3 rfl (qs A3 rfl (qe rfl ?_)))
    obtain rfl := sj h
    refine Ae (sm [(1000, 2001), (1001, 2002), (1002, 2003)] [(6, oD (.ptr 6 0)), (7, bD false)] [(6, .box [.own 1000, .own 1001, .own 1002]), (1000, .vec 1 (v1.fd.map Ak)), (1001, .vec 1 (v1.fb.map Ak)), (1002, .vec 1 (v1.fe.map D4))] rfl rfl) (Ar ?_)
    exact ⟨⟨[_, _], ⟨.cellN _ _ _ _ _ _ _ rfl rfl BZ A3 rfl rfl (Jo rfl), tm⟩, rfl⟩, ⟨rfl, rfl, rfl, tv⟩⟩
   ·refine Ai (wq rfl (qf BI rfl (ql A1 rfl (qf FB rfl (ql BV rfl ?_)))))
    refine BD h fun v8 a8 b8 h => qI As Cy a8 (Af b8) rfl ?_
    refine DG rfl rfl rfl rfl (Af b8) rfl Cy rfl (Jc rfl) (Dy Ak v1.fb _ ((-1))) ?_
    refine Ab ?_
    refine AR h (fun v9 => mk [(6, oD (.ptr 6 0)), (8, oD (.ptr 8 0))] [(6, .box [.pure (.nil0), .pure (.nil0), .pure (.nil0)]), (8, .box [.own 2004, .own 2005, .own 2006]), (2004, .vec 1 (v9.map Ak)), (2005, .vec 1 ((v1.fb.set ((p2.fh).toNat) ((-1))).map Ak)), (2006, .vec 1 (v1.fe.map D4))]) (fun j9 h => ?_) (fun v9 h => ?_)
    ·refine wq rfl (qf Gv rfl (ql BV rfl (Cf rfl (Ab ?_))))
     refine A8 h (fun h => ?_) fun h => ?_
     ·refine Ag Av rfl (qf C4 rfl (ql A1 rfl (qf FB rfl (ql BV rfl (qm rfl ?_)))))
      refine BD h fun v11 a11 b11 h => qI As Cy a11 (Af b11) rfl ?_
      refine DG rfl rfl rfl rfl (Af b11) rfl Cy rfl (Jc rfl) (Dy Ak v1.fd _ v6) ?_
      refine Ab ?_
      exact sn [(2004, 2001), (2005, 2002), (2006, 2003)] h
     ·refine Ai ?_
      exact sn [(2004, 2001), (2005, 2002), (2006, 2003)] h
    ·refine wq rfl (qL BZ A3 rfl (qs A3 rfl (qe rfl ?_)))
     obtain rfl := sj h
     refine Ae (sm [(1000, 2004), (1001, 2005), (1002, 2006)] [(6, oD (.ptr 6 0)), (7, bD true)] [(6, .box [.own 1000, .own 1001, .own 1002]), (1000, .vec 1 (v9.map Ak)), (1001, .vec 1 ((v1.fb.set ((p2.fh).toNat) ((-1))).map Ak)), (1002, .vec 1 (v1.fe.map D4))] rfl rfl) (Ar ?_)
     exact ⟨⟨[_, _], ⟨.cellN _ _ _ _ _ _ _ rfl rfl BZ A3 rfl rfl (Jo rfl), tm⟩, rfl⟩, ⟨rfl, rfl, rfl, tv⟩⟩
theorem N0 (N : Nat) (p0 : Ad) (p1 : List Int) (p2 : List Int) (p3 : List Int) (p4 : List An) (p5 : List Int) (p6 : List Int) (p7 : List Int) (r : Bool) (h : DK N p0 p1 p2 p3 p4 p5 p6 p7 = some r) : Ao zA0 126 [.e (.agg (Dv p0)), oD (.rop [.sl (p1.map Ak), .sl (p2.map Ak), .sl (p3.map Ak), .sl (p4.map AM)]), oD (.rop [.sl (p5.map Ak), .sl (p6.map Ak), .sl (p7.map D4)])] [] (bD r) := by
 unfold DK at h
 refine cw (n := 16) (rs := [.tmp 4]) Tryz.func126 fun w0 S0 => ?_
 refine wq rfl (qb rfl (qa rfl (Ab (wq rfl (qK CU BY rfl (qK BZ A3 rfl (qL J4 EZ rfl ?_)))))))
 refine BP h fun v1 a1 h => Ax [2001, 2002, 2003] (Nh N ((Aa.mk p1 p2 p3 p4)) ((Ac.mk p5 p6 p7)) p0 v1 a1) ZE rfl (qm rfl (qx rfl (qx rfl (qz EG rfl (qs A3 rfl (qa rfl (Ab (wq rfl (qm rfl (Cm rfl (qe rfl ?_)))))))))))
 obtain rfl := sj h
 refine Ae (sm [] [(4, bD ((!v1.2)))] [] rfl rfl) (Ar ?_)
 exact ⟨⟨[_], tm, rfl⟩, tv⟩
theorem Ho (N : Nat) (p0 : List Ad) (p1 : Ad → Option Bool) (r : Int) (h : BT N p0 p1 = some r) : Ao zA0 158 [pD (.sl (p0.map AA)), oD (.clo (Hs (Lo true AA) tB p1))] [] (iD r) := by
 unfold BT at h
 refine cw (n := 19) (rs := [.tmp 4]) Tryz.func158 fun w0 S0 => ?_
 refine wq rfl (qa rfl (Ab (wp rfl (qm rfl (AJ EO rfl (qm rfl (Ab ?_)))))))
 refine AE (L := A4 N p0 p1) h (fun v1 => mk [(0, pD (.sl (p0.map AA))), (1, oD (.clo (Hs (Lo true AA) tB p1))), (7, iD ((p0.length : Int))), (8, iD v1)] []) (fun v2 => mk [] []) (fun _ _ => rfl) (sm [] _ _ rfl rfl) (fun j1 n1 v1 h => ?_) (fun v2 s h hs => ?_)
 ·unfold A4 at h
  refine wq rfl (AV rfl (Ab (AN ?_)))
  refine A8 h (fun h => ?_) fun h => ?_
  ·refine Ai (AN (AH (wq rfl (qm rfl (qa rfl (Ab (wq rfl (qw 3 rfl ?_))))))))
   refine BD h fun v4 a4 b4 h => qi EO EZ a4 (Af b4) rfl (qK J4 EZ rfl ?_)
   refine BP h fun v5 a5 h => KW (ds0 := [_]) (ar := (Lo true AA) v4) (.p rfl) rfl rfl ⟨rfl, tv⟩ rfl rfl rfl (Kk (K5 _ _ OZ) a5) ?_
   refine Ab ?_
   refine A8 h (fun h => ?_) fun h => ?_
   ·refine wq rfl (qm rfl (qe rfl ?_))
    obtain rfl := sj h
    refine Ae (sm [] [(4, iD v1)] [] rfl rfl) (Ar ?_)
    exact ⟨⟨[_], tm, rfl⟩, tv⟩
   ·refine Ai (Ag Av rfl (AX rfl (qm rfl (Ab ?_))))
    exact sn [] h
  ·refine AS ?_
   exact sn [] h
 ·refine Ae hs (wq rfl (qe rfl ?_))
  obtain rfl := sj h
  refine Ae (sm [] [(4, iD ((-1)))] [] rfl rfl) (Ar ?_)
  exact ⟨⟨[_], tm, rfl⟩, tv⟩
theorem Hh (N : Nat) (p0 : List Ad) (p1 : Ad → Option Bool) (r : Nat × (List Ad)) (h : BN N p0 p1 = some r) : EK zA0 124 [oD (.own 90000), oD (.clo (Hs (Lo true AA) tB p1))] [(.vec 3 (p0.map AA), .vec 3 (r.2.map AA))] [] (oD (.view 90000 3 0 r.1)) := by
 unfold BN at h
 refine Hc (n := 42) (rs := [.tmp 4]) Tryz.func124 rfl rfl rfl (Jc rfl) (Jc rfl) rfl rfl (Jc rfl) rfl (Jc rfl) fun w0 S0 GL => ?_
 refine Ae (sm [] [(0, oD (.own 90000)), (1, oD (.clo (Hs (Lo true AA) tB p1)))] [(90000, .vec 3 (p0.map AA))] rfl rfl) (wq rfl (qa rfl (Ab (wq rfl (qw 2 rfl ?_)))))
 refine BP h fun v1 a1 h => D0 [] [90000] (Ho N p0 p1 v1 a1) cg Cn rfl (qa rfl (Ab (wp rfl (qm rfl (Cf rfl (Ab ?_))))))
 refine A8 h (fun h => ?_) fun h => ?_
 ·refine wq rfl (qm rfl (qe rfl ?_))
  obtain rfl := sj h
  refine Ae ((U8 AA p0 4 90000 3 rfl rfl).trans (sm [] [(4, oD (.view 90000 3 0 p0.length))] [(90000, .vec 3 (p0.map AA))] rfl rfl)) (Ar ?_)
  exact ⟨⟨[_], tm, rfl⟩, ⟨rfl, tv⟩, tv⟩
 ·refine Ai (wp rfl (qm rfl (AX rfl (qe rfl ?_))))
  refine AE (L := AY N p1) h (fun v3 => mk [(0, oD (.own 90000)), (1, oD (.clo (Hs (Lo true AA) tB p1))), (5, iD v3.2.1), (6, iD v3.2.2)] [(90000, .vec 3 (v3.1.map AA))]) (fun v4 => mk [(0, oD (.own 90000)), (5, iD v4.2)] [(90000, .vec 3 (v4.1.map AA))]) (fun _ _ => rfl) (sm [] _ _ rfl rfl) (fun j3 n3 v3 h => ?_) (fun v4 s h hs => ?_)
  ·unfold AY at h
   refine wp rfl (qw 2 rfl (EL EO rfl (AV rfl (Ab ?_))))
   refine A8 h (fun h => ?_) fun h => ?_
   ·refine Ai ?_
    refine AR h (fun v6 => mk [(0, oD (.own 90000)), (1, oD (.clo (Hs (Lo true AA) tB p1))), (5, iD v6.2), (6, iD v3.2.2)] [(90000, .vec 3 (v6.1.map AA))]) (fun j6 h => ?_) (fun v6 h => ?_)
    ·refine AH (wq rfl (qw 2 rfl ?_))
     refine BD h fun v7 a7 b7 h => qI EO EZ a7 (Af b7) rfl (qJ J4 EZ (Af b7) rfl (qz Ky rfl (qs EZ rfl (Ab (wq rfl (qm rfl (qL J4 EZ rfl ?_)))))))
     refine BP h fun v8 a8 h => KW (ds0 := [_]) (ar := (Lo true AA) v7) (.p rfl) rfl rfl ⟨rfl, tv⟩ rfl rfl rfl (Kk (K5 _ _ OZ) a8) ?_
     refine Cm rfl (Ab ?_)
     refine A8 h (fun h => ?_) fun h => ?_
     ·refine wq rfl (qw 2 rfl (qL J4 EZ rfl ?_))
      refine BD h fun v10 a10 b10 h => qI EO EZ a10 (Af b10) rfl ?_
      refine DG rfl rfl rfl rfl (Af b10) rfl EZ rfl (Jc rfl) (Dy AA v3.1 _ v7) ?_
      refine Ab (Ag Av rfl (qm rfl (AX rfl (qe rfl ?_))))
      exact sn [] h
     ·refine Ai ?_
      exact sn [] h
    ·refine Ag Av rfl (qm rfl (AX rfl (qe rfl ?_)))
     exact sn [] h
   ·refine AS ?_
    exact sn [] h
  ·refine Ae hs (wq rfl (qw 2 rfl ?_))
   obtain ⟨c11, h⟩ := HI h
   have w12 : ((v4.2).toNat) + ((v4.1.length - (v4.2).toNat)) ≤ v4.1.length := by have := c11.2.1; have := c11.2.2; omega
   refine KJ AA v4.1 (.p rfl) rfl (JG AA _ _ v4.1) rfl EO EZ (.some _ _ _ _ c11.1) (.none _) ⟨rfl, tv⟩ tv c11.2.1 (by rw [zA1]; exact c11.2.2) (zA1 _) rfl ?_
   have w13 : (Jl v4.1 ((v4.2).toNat) (zA5 ((v4.1.length - (v4.2).toNat)) ((Ad.mk 0 0 0)))).length = v4.1.length := JX (by rw [List.length_replicate]; exact w12)
   refine Tm AA v4.1 ((Ad.mk 0 0 0)) rfl rfl (Og AA _ _ ((v4.2).toNat) ((v4.1.length - (v4.2).toNat)) v4.1 w12) rfl EO Ky rfl rfl rfl rfl ?_
   refine Ab (wq rfl (qw 2 rfl ?_))
   obtain ⟨c14, h⟩ := HI h
   have w15 : 0 + ((v4.2).toNat) ≤ (Jl v4.1 ((v4.2).toNat) (zA5 ((v4.1.length - (v4.2).toNat)) ((Ad.mk 0 0 0)))).length := by have := c14.2.1; have := c14.2.2; omega
   refine KJ AA (Jl v4.1 ((v4.2).toNat) (zA5 ((v4.1.length - (v4.2).toNat)) ((Ad.mk 0 0 0)))) (.p rfl) rfl (JG AA _ _ (Jl v4.1 ((v4.2).toNat) (zA5 ((v4.1.length - (v4.2).toNat)) ((Ad.mk 0 0 0))))) rfl EO EZ (.none _) (.some _ _ _ _ c14.1) tv ⟨rfl, tv⟩ c14.2.1 (by rw [zA1]; exact c14.2.2) (zA1 _) rfl ?_
   refine qa rfl (Ab ?_)
   obtain rfl := sj h
   refine Ae (sm [] [(4, oD (.view 90000 3 0 ((v4.2).toNat)))] [(90000, .vec 3 ((Jl v4.1 ((v4.2).toNat) (zA5 ((v4.1.length - (v4.2).toNat)) ((Ad.mk 0 0 0)))).map AA))] rfl rfl) (Ar ?_)
   exact ⟨⟨[_], tm, rfl⟩, ⟨rfl, tv⟩, tv⟩
theorem PP (N : Nat) (p0 : Aa) (p1 : Ac) (r : (List Ad) × Int) (h : GI N p0 p1 = some r) : Ao zA0 87 [.e (.agg (Ah p0)), .e (.agg (AI p1))] [(3, r.1.map AA)] (.tup [.one (.own 0), .one (iC r.2)]) := by
 unfold GI at h
 refine cw (n := 17) (rs := [.tmp 4, .tmp 5]) Tryz.func87 fun w0 S0 => ?_
 refine wq rfl (qb rfl (qb rfl (qa rfl (qa rfl (Ab (wp rfl (qL CU BY rfl (qL BZ A3 rfl ?_))))))))
 refine BP h fun v1 a1 h => Ax [] (Kg N p0 p1 v1 a1) UF rfl (qa rfl (Ab (wq rfl (qm rfl (Bp rfl (Ab ?_))))))
 refine A8 h (fun h => ?_) fun h => ?_
 ·refine wq rfl (qm rfl (qa rfl (qe rfl ?_)))
  obtain rfl := sj h
  refine Ae ((AU 4 2001 3 rfl rfl rfl).trans (sm [(1000, 2001)] [(4, oD (.own 1000)), (5, iD v1)] [(1000, .vec 3 ((([] : List Ad)).map AA))] rfl rfl)) (Ar ?_)
  exact ⟨⟨[_, _], ⟨.tmp _ _ rfl, tm⟩, rfl⟩, ⟨rfl, tv⟩⟩
 ·refine Ai (wq rfl (qL CU BY rfl ?_))
  refine BP h fun v3 a3 h => Ax [2002] (Ug N p0 v3 a3) bc rfl (CY (Il 2 [.sl (p0.fa.map Ak), .sl (p0.fi.map Ak), .sl (p0.fm.map Ak), .sl (p0.fc.map AM)] rfl rfl) (CY (Il 3 [.sl (p1.fd.map Ak), .sl (p1.fb.map Ak), .sl (p1.fe.map D4)] rfl rfl) ?_))
  refine IC (capD := [_, _]) (Hs (Lo true AA) tB ((fun (x : Ad) => DK N x p0.fa p0.fi p0.fm p0.fc p1.fd p1.fb p1.fe))) (.p rfl) bZ rfl ⟨rfl, rfl, tv⟩ rfl (fun ar t ht => by obtain ⟨x, r, rfl, hq, rfl⟩ := H3 ht; exact N0 N x p0.fa p0.fi p0.fm p0.fc p1.fd p1.fb p1.fe r hq) ?_
  obtain ⟨v4, a4, h⟩ := bind_some h
  obtain ⟨c5, h⟩ := HI h
  have w6 : 0 + v4.1 ≤ v4.2.length := by rw [zA1]; exact c5
  refine L7 (ds0 := [_, _]) [2002] [] [true] (Hh N v3 ((fun (x : Ad) => DK N x p0.fa p0.fi p0.fm p0.fc p1.fd p1.fb p1.fe)) v4 a4) (.p rfl) bg rfl ⟨rfl, rfl, tv⟩ rfl rfl (by decide) ⟨rfl, tv⟩ rfl (Gp rfl) tv ⟨(fun h => by cases h), tv⟩ rfl rfl rfl ?_
  refine CY (Xi AA v4.2 16 2002 2003 3 v4.1 rfl rfl rfl rfl rfl c5) (qa rfl (qe rfl ?_))
  obtain rfl := sj h
  refine Ae (sm [(1000, 2003)] [(4, oD (.own 1000)), (5, iD 0)] [(1000, .vec 3 ((v4.2.take v4.1).map AA))] rfl rfl) (Ar ?_)
  exact ⟨⟨[_, _], ⟨.tmp _ _ rfl, tm⟩, rfl⟩, ⟨rfl, tv⟩⟩
theorem Rk (N : Nat) (p0 : Ad) (r : Bool) (h : HF N p0 = some r) : Ao zA0 162 [.e (.agg (Dv p0))] [] (bD r) := by
 unfold HF at h
 refine cw (n := 27) (rs := [.tmp 2]) Tryz.func162 fun w0 S0 => ?_
 refine wq rfl (qb rfl (qa rfl (Ab (AN ?_))))
 refine AR h (fun v1 => mk [(1, oD (.ptr 1 0)), (18, bD v1)] [(1, .box (Dv p0))]) (fun j1 h => ?_) (fun v1 h => ?_)
 ·refine Ag Av rfl (qf FB rfl (ql BV rfl (qf HL rfl (ql BV rfl ?_))))
  refine cc (.p rfl) rfl rfl ?_
  refine AV rfl (qm rfl ?_)
  refine Ey 9 h rfl (fun h => ?_) fun h => ?_
  ·refine qw 3 rfl (qp rfl (qw 4 rfl (qp rfl (Ab ?_))))
   exact sn [] h
  ·refine qf Gv rfl (ql BV rfl (AV rfl (qp rfl (qm rfl ?_))))
   refine Ey 14 h rfl (fun h => ?_) fun h => ?_
   ·refine qw 3 rfl (qp rfl (Ab ?_))
    exact sn [] h
   ·refine qf Gv rfl (ql BV rfl (GM rfl (qp rfl (Ab ?_))))
    exact sn [] h
 ·refine A8 h (fun h => ?_) fun h => ?_
  ·refine wq rfl (qe rfl ?_)
   obtain rfl := sj h
   refine Ae (sm [] [(2, bD false)] [] rfl rfl) (Ar ?_)
   exact ⟨⟨[_], tm, rfl⟩, tv⟩
  ·refine Ai ?_
   refine AR h (fun v5 => mk [(2, bD v5)] []) (fun j5 h => ?_) (fun v5 h => ?_)
   ·refine Ag Av rfl (qf Gv rfl (ql BV rfl (Cf rfl (qm rfl ?_))))
    refine Ey 22 h rfl (fun h => ?_) fun h => ?_
    ·refine qw 3 rfl (qp rfl (qe rfl ?_))
     exact sn [] h
    ·refine qf HL rfl (ql BV rfl (Cf rfl (qp rfl (qe rfl ?_))))
     exact sn [] h
   ·obtain rfl := sj h
    refine Ae (sm [] [(2, bD v5)] [] rfl rfl) (Ar ?_)
    exact ⟨⟨[_], tm, rfl⟩, tv⟩
theorem Qj (N : Nat) (p0 : Aa) (p1 : Ad) (r : Bool) (h : Hb N p0 p1 = some r) : Ao zA0 163 [.e (.agg (Ah p0)), .e (.agg (Dv p1))] [] (bD r) := by
 unfold Hb at h
 refine cw (n := 36) (rs := [.tmp 4]) Tryz.func163 fun w0 S0 => ?_
 refine wq rfl (qb rfl (qb rfl (qa rfl (Ab (wp rfl (qf Gv rfl (ql BV rfl (Cf rfl (Ab ?_)))))))))
 refine A8 h (fun h => ?_) fun h => ?_
 ·refine wq rfl (qf FB rfl (ql BV rfl (qf Cc rfl (ql Hj rfl (AJ Dt rfl (AV rfl (qe rfl ?_)))))))
  obtain rfl := sj h
  refine Ae (sm [] [(4, bD ((decide (p1.fh < (p0.fc.length : Int)))))] [] rfl rfl) (Ar ?_)
  exact ⟨⟨[_], tm, rfl⟩, tv⟩
 ·refine Ai ?_
  refine AR h (fun v2 => mk [(4, bD v2)] []) (fun j2 h => ?_) (fun v2 h => ?_)
  ·refine Ag Av rfl (qf FB rfl (ql BV rfl (qf A6 rfl (ql A1 rfl (AJ As rfl (AV rfl (qm rfl ?_)))))))
   refine Ey 20 h rfl (fun h => ?_) fun h => ?_
   ·refine qf Gv rfl (ql BV rfl (Bp rfl (qm rfl ?_)))
    refine Ey 24 h rfl (fun h => ?_) fun h => ?_
    ·refine qw 9 rfl (qp rfl (qp rfl (qa rfl (AL (by kernel_rfl) ?_))))
     exact sn [] h
    ·refine qf HL rfl (ql BV rfl (qf A6 rfl (ql A1 rfl (qf FB rfl (ql BV rfl ?_)))))
     refine BD h fun v5 a5 b5 h => qi As Cy a5 (Af b5) rfl (qk BV rfl (AV rfl (qp rfl (qp rfl (qa rfl (AL (by kernel_rfl) ?_))))))
     exact sn [] h
   ·refine qw 4 rfl (qu rfl (qu rfl (qu rfl (qu rfl (qu rfl (qu rfl (qu rfl (qu rfl (qu rfl (qn rfl (qp rfl (qa rfl (AL (by kernel_rfl) ?_)))))))))))))
    exact sn [] h
  ·obtain rfl := sj h
   refine Ae (sm [] [(4, bD v2)] [] rfl rfl) (Ar ?_)
   exact ⟨⟨[_], tm, rfl⟩, tv⟩
theorem R1 (N : Nat) (p0 : Aa) (p1 : Ac) (p2 : Ad) (r : Ac × Int) (h : Hy N p0 p1 p2 = some r) : Ao zA0 128 [.e (.agg (Ah p0)), .e (.agg (AI p1)), .e (.agg (Dv p2))] [(1, r.1.fd.map Ak), (1, r.1.fb.map Ak), (1, r.1.fe.map D4)] (.tup [.agg [.own 0, .own 1, .own 2], .one (iC r.2)]) := by
 unfold Hy at h
 refine cw (n := 32) (rs := [.cell 6 49, .tmp 7]) Tryz.func128 fun w0 S0 => ?_
 refine wq rfl (qb rfl (qb rfl (qb rfl (qz EG rfl (qa rfl (Ab (AN (AH (wq rfl (qL J4 EZ rfl ?_))))))))))
 refine BP h fun v1 a1 h => Ax [] (Rk N p2 v1 a1) aT rfl (Cm rfl (qe rfl ?_))
 refine A8 h (fun h => ?_) fun h => ?_
 ·refine wq rfl (Bg EG Jm rfl (qs A3 rfl (qe rfl ?_)))
  obtain rfl := sj h
  refine Ae ((Aq 6 0 2001 1 _ rfl rfl rfl rfl).trans ((Aq 6 1 2002 1 _ rfl rfl rfl rfl).trans ((Aq 6 2 2003 1 _ rfl rfl rfl rfl).trans (sm [(1000, 2001), (1001, 2002), (1002, 2003)] [(6, oD (.ptr 6 0)), (7, iD 1)] [(6, .box [.own 1000, .own 1001, .own 1002]), (1000, .vec 1 ((([] : List Int)).map Ak)), (1001, .vec 1 ((([] : List Int)).map Ak)), (1002, .vec 1 ((([] : List Int)).map D4))] rfl rfl)))) (Ar ?_)
  exact ⟨⟨[_, _], ⟨.cellN _ _ _ _ _ _ _ rfl rfl BZ A3 rfl rfl (Jo rfl), tm⟩, rfl⟩, ⟨rfl, rfl, rfl, tv⟩⟩
 ·refine wq rfl (qL CU BY rfl (qL J4 EZ rfl ?_))
  refine BP h fun v3 a3 h => Ax [] (Qj N p0 p2 v3 a3) cH rfl (Cm rfl (qe rfl ?_))
  refine A8 h (fun h => ?_) fun h => ?_
  ·refine wq rfl (Bg EG Jm rfl (qs A3 rfl (qe rfl ?_)))
   obtain rfl := sj h
   refine Ae ((Aq 6 0 2004 1 _ rfl rfl rfl rfl).trans ((Aq 6 1 2005 1 _ rfl rfl rfl rfl).trans ((Aq 6 2 2006 1 _ rfl rfl rfl rfl).trans (sm [(1000, 2004), (1001, 2005), (1002, 2006)] [(6, oD (.ptr 6 0)), (7, iD 4)] [(6, .box [.own 1000, .own 1001, .own 1002]), (1000, .vec 1 ((([] : List Int)).map Ak)), (1001, .vec 1 ((([] : List Int)).map Ak)), (1002, .vec 1 ((([] : List Int)).map D4))] rfl rfl)))) (Ar ?_)
   exact ⟨⟨[_, _], ⟨.cellN _ _ _ _ _ _ _ rfl rfl BZ A3 rfl rfl (Jo rfl), tm⟩, rfl⟩, ⟨rfl, rfl, rfl, tv⟩⟩
  ·refine Ai (wq rfl (qL CU BY rfl (qL BZ A3 rfl (qL J4 EZ rfl ?_))))
   refine BP h fun v5 a5 h => Ax [2007, 2008, 2009] (Nh N p0 p1 p2 v5 a5) ZE rfl (qm rfl (qx rfl (qx rfl (qz EG rfl (qs A3 rfl (qa rfl (Ab (wp rfl (qm rfl (Cm rfl (Ab ?_)))))))))))
   refine A8 h (fun h => ?_) fun h => ?_
   ·refine wq rfl (Bg EG Jm rfl (qs A3 rfl (qe rfl ?_)))
    obtain rfl := sj h
    refine Ae ((Aq 6 0 2010 1 _ rfl rfl rfl rfl).trans ((Aq 6 1 2011 1 _ rfl rfl rfl rfl).trans ((Aq 6 2 2012 1 _ rfl rfl rfl rfl).trans (sm [(1000, 2010), (1001, 2011), (1002, 2012)] [(6, oD (.ptr 6 0)), (7, iD 11)] [(6, .box [.own 1000, .own 1001, .own 1002]), (1000, .vec 1 ((([] : List Int)).map Ak)), (1001, .vec 1 ((([] : List Int)).map Ak)), (1002, .vec 1 ((([] : List Int)).map D4))] rfl rfl)))) (Ar ?_)
    exact ⟨⟨[_, _], ⟨.cellN _ _ _ _ _ _ _ rfl rfl BZ A3 rfl rfl (Jo rfl), tm⟩, rfl⟩, ⟨rfl, rfl, rfl, tv⟩⟩
   ·refine Ai (wq rfl (qL BZ A3 rfl (qs A3 rfl (qe rfl ?_))))
    obtain rfl := sj h
    refine Ae (sm [(1000, 2007), (1001, 2008), (1002, 2009)] [(6, oD (.ptr 6 0)), (7, iD 0)] [(6, .box [.own 1000, .own 1001, .own 1002]), (1000, .vec 1 (v5.1.fd.map Ak)), (1001, .vec 1 (v5.1.fb.map Ak)), (1002, .vec 1 (v5.1.fe.map D4))] rfl rfl) (Ar ?_)
    exact ⟨⟨[_, _], ⟨.cellN _ _ _ _ _ _ _ rfl rfl BZ A3 rfl rfl (Jo rfl), tm⟩, rfl⟩, ⟨rfl, rfl, rfl, tv⟩⟩
theorem RS (N : Nat) (p0 : Aa) (p1 : Ac) (p2 : Ad) (r : Ac × Int) (h : HB N p0 p1 p2 = some r) : Ao zA0 88 [.e (.agg (Ah p0)), .e (.agg (AI p1)), .e (.agg (Dv p2))] [(1, r.1.fd.map Ak), (1, r.1.fb.map Ak), (1, r.1.fe.map D4)] (.tup [.agg [.own 0, .own 1, .own 2], .one (iC r.2)]) := by
 unfold HB at h
 refine cw (n := 22) (rs := [.cell 6 49, .tmp 7]) Tryz.func88 fun w0 S0 => ?_
 refine wq rfl (qb rfl (qb rfl (qb rfl (qz EG rfl (qa rfl (Ab (wp rfl (qL CU BY rfl (qL BZ A3 rfl ?_)))))))))
 refine BP h fun v1 a1 h => Ax [] (Kg N p0 p1 v1 a1) UF rfl (qa rfl (Ab (wq rfl (qm rfl (Bp rfl (Ab ?_))))))
 refine A8 h (fun h => ?_) fun h => ?_
 ·refine wq rfl (Bg EG Jm rfl (qm rfl (qs A3 rfl (qe rfl ?_))))
  obtain rfl := sj h
  refine Ae ((Aq 6 0 2001 1 _ rfl rfl rfl rfl).trans ((Aq 6 1 2002 1 _ rfl rfl rfl rfl).trans ((Aq 6 2 2003 1 _ rfl rfl rfl rfl).trans (sm [(1000, 2001), (1001, 2002), (1002, 2003)] [(6, oD (.ptr 6 0)), (7, iD v1)] [(6, .box [.own 1000, .own 1001, .own 1002]), (1000, .vec 1 ((([] : List Int)).map Ak)), (1001, .vec 1 ((([] : List Int)).map Ak)), (1002, .vec 1 ((([] : List Int)).map D4))] rfl rfl)))) (Ar ?_)
  exact ⟨⟨[_, _], ⟨.cellN _ _ _ _ _ _ _ rfl rfl BZ A3 rfl rfl (Jo rfl), tm⟩, rfl⟩, ⟨rfl, rfl, rfl, tv⟩⟩
 ·refine Ai (wq rfl (qL CU BY rfl (qL BZ A3 rfl (qL J4 EZ rfl ?_))))
  refine BP h fun v3 a3 h => Ax [2004, 2005, 2006] (R1 N p0 p1 p2 v3 a3) db rfl (qx rfl (qx rfl (qs A3 rfl (qe rfl ?_))))
  obtain rfl := sj h
  refine Ae (sm [(1000, 2004), (1001, 2005), (1002, 2006)] [(6, oD (.ptr 6 0)), (7, iD v3.2)] [(6, .box [.own 1000, .own 1001, .own 1002]), (1000, .vec 1 (v3.1.fd.map Ak)), (1001, .vec 1 (v3.1.fb.map Ak)), (1002, .vec 1 (v3.1.fe.map D4))] rfl rfl) (Ar ?_)
  exact ⟨⟨[_, _], ⟨.cellN _ _ _ _ _ _ _ rfl rfl BZ A3 rfl rfl (Jo rfl), tm⟩, rfl⟩, ⟨rfl, rfl, rfl, tv⟩⟩
theorem P2 (N : Nat) (p0 : Aa) (p1 : Ac) (r : (List AD) × Int) (h : G9 N p0 p1 = some r) : Ao zA0 106 [.e (.agg (Ah p0)), .e (.agg (AI p1))] [] (.tup [.one (sC (r.1.map Bf)), .one (iC r.2)]) := by
 unfold G9 at h
 refine cw (n := 119) (rs := [.tmp 4, .tmp 5]) Tryz.func106 fun w0 S0 => ?_
 refine wq rfl (qb rfl (qb rfl (qa rfl (qa rfl (Ab (wq rfl (qL BZ A3 rfl (Bg Tv Zr rfl ?_))))))))
 refine MC [(0, .tmp 21, _)] (.p rfl) rfl ⟨rfl, tv⟩ rfl Hp Lf Tv rfl rfl (Jc rfl) rfl rfl ?_
 refine CY (QA 22 8 [.s, .s, .s, .s, .s, .s, .s, .x 1 []] _ ((([(AD.mk p1 ((-1)) ((Ad.mk 0 0 0)) (([] : List Int)))] : List AD)).map Bf) rfl rfl) (qa rfl (Ab (wq rfl ?_)))
 refine VO (.p rfl) rfl ?_
 refine qL BZ A3 rfl ?_
 refine BP h fun v1 a1 h => Ax [] (PX N p1 v1 a1) Zy rfl ?_
 refine Pp (kv := Value.string) (vt := Ph) (m := ([] : List (ByteArray × Int))) (k := v1) (v := 0) rfl (.inr rfl) rfl rfl rfl rfl (Oc RD az) rfl ?_
 refine qm rfl (qa rfl (Ab (wp rfl (qe rfl ?_))))
 refine AE (L := DN N p0) h (fun v2 => mk [(2, oD (.ptr 2 0)), (6, oD (.own 2001)), (7, oD (.mref 2002)), (8, iD v2.2.2)] [(2, .box (Ah p0)), (2001, .dvec 8 [.s, .s, .s, .s, .s, .s, .s, .x 1 []] (v2.1.map Bf)), (2002, .mp (F6 Value.string Ph v2.2.1))]) (fun v3 => mk [(6, oD (.own 2003))] [(2003, .dvec 8 [.s, .s, .s, .s, .s, .s, .s, .x 1 []] (v3.map Bf))]) (fun _ _ => rfl) (sm [(2001, 22), (2002, 23)] _ _ rfl rfl) (fun j2 n2 v2 h => ?_) (fun v3 s h hs => ?_)
 ·unfold DN at h
  refine wp rfl (qw 2 rfl ?_)
  refine T0 (.p rfl) rfl rfl (L4 Bf v2.1 _ _) Hp ?_
  refine AV rfl (Ab ?_)
  refine A8 h (fun h => ?_) fun h => ?_
  ·refine Ai (AN (AH (wq rfl (qL CU BY rfl (qw 2 rfl ?_)))))
   refine BD h fun v5 a5 b5 h => Nf (.p rfl) rfl rfl rfl (L4 Bf v2.1 _ _) Hp Lf a5 (AG b5) ?_
   refine qh Pr rfl ?_
   refine TK (.p rfl) rfl BZ A3 rfl (Af b5) rfl rfl (by decide) rfl ?_
   refine BP h fun v6 a6 h => Ax [2004] (PP N p0 ((Ac.mk v5.fp.fd v5.fp.fb v5.fp.fe)) v6 a6) ec rfl (qm rfl (qx rfl (qx rfl (qa rfl (qa rfl (AL (by kernel_rfl) (wp rfl (qm rfl (Bp rfl (Ab ?_))))))))))
   refine A8 h (fun h => ?_) fun h => ?_
   ·refine wq rfl (qm rfl (qa rfl (qe rfl ?_)))
    obtain rfl := sj h
    refine Ae ((Pk 4 _ rfl).trans (sm [] [(4, pD (.sl ((([] : List AD)).map Bf))), (5, iD v6.2)] [] rfl rfl)) (Ar ?_)
    exact ⟨⟨[_, _], ⟨.tmp _ _ rfl, tm⟩, rfl⟩, tv⟩
   ·refine Ai (wq rfl (qm rfl (EL EO rfl (qm rfl (Ab ?_)))))
    refine AE (L := Cu N p0 v2 v6) h (fun v8 => mk [(2, oD (.ptr 2 0)), (6, oD (.own 2005)), (7, oD (.mref 2006)), (8, iD v2.2.2), (46, oD (.own 2007)), (47, iD ((v6.1.length : Int))), (48, iD v8.2.2)] [(2, .box (Ah p0)), (2005, .dvec 8 [.s, .s, .s, .s, .s, .s, .s, .x 1 []] (v8.1.map Bf)), (2006, .mp (F6 Value.string Ph v8.2.1)), (2007, .vec 3 (v6.1.map AA))]) (fun v9 => mk [(2, oD (.ptr 2 0)), (6, oD (.own 2008)), (7, oD (.mref 2009)), (8, iD v2.2.2)] [(2, .box (Ah p0)), (2008, .dvec 8 [.s, .s, .s, .s, .s, .s, .s, .x 1 []] (v9.1.map Bf)), (2009, .mp (F6 Value.string Ph v9.2))]) (fun _ _ => rfl) (sm [(2005, 2001), (2006, 2002), (2007, 2004)] _ _ rfl rfl) (fun j8 n8 v8 h => ?_) (fun v9 s h hs => ?_)
    ·unfold Cu at h
     refine wq rfl (AV rfl (Ab (AN ?_)))
     refine A8 h (fun h => ?_) fun h => ?_
     ·refine Ai (AN (AH (wq rfl ?_)))
      refine BD h fun v11 a11 b11 h => qI EO EZ a11 (Af b11) rfl (qJ J4 EZ (Af b11) rfl (qz Ky rfl (qs EZ rfl (Ab (wq rfl (qL CU BY rfl (qw 2 rfl ?_)))))))
      refine BD h fun v12 a12 b12 h => Nf (.p rfl) rfl rfl rfl (L4 Bf v8.1 _ _) Hp Lf a12 (AG b12) ?_
      refine qh Pr rfl ?_
      refine TK (.p rfl) rfl BZ A3 rfl (Af b12) rfl rfl (by decide) rfl ?_
      refine qL J4 EZ rfl ?_
      refine BP h fun v13 a13 h => Ax [2010, 2011, 2012] (RS N p0 ((Ac.mk v12.fp.fd v12.fp.fb v12.fp.fe)) v11 v13 a13) d8 rfl (qm rfl (qx rfl (qx rfl (qz EG rfl (qs A3 rfl (qa rfl (AL (by kernel_rfl) (wp rfl (qm rfl (Bp rfl (Ab ?_)))))))))))
      refine A8 h (fun h => ?_) fun h => ?_
      ·refine wq rfl (qm rfl (qa rfl (qe rfl ?_)))
       obtain rfl := sj h
       refine Ae ((Pk 4 _ rfl).trans (sm [] [(4, pD (.sl ((([] : List AD)).map Bf))), (5, iD v13.2)] [] rfl rfl)) (Ar ?_)
       exact ⟨⟨[_, _], ⟨.tmp _ _ rfl, tm⟩, rfl⟩, tv⟩
      ·refine Ai (wq rfl (qL BZ A3 rfl ?_))
       refine BP h fun v15 a15 h => D0 [] [2010, 2011, 2012] (PX N v13.1 v15 a15) Zy Cn rfl (qa rfl (Ab (wq rfl (qw 2 rfl ?_))))
       refine WU (kv := Value.string) (vt := Ph) (m := v8.2.1) (dv := 0) (.p rfl) rfl rfl rfl (Oc RD az) (by rw [RD]; rfl) I3 rfl rfl rfl ?_
       refine qm rfl (qx rfl (qx rfl (qa rfl (qe rfl ?_))))
       refine AR h (fun v16 => mk [(2, oD (.ptr 2 0)), (6, oD (.own 2013)), (7, oD (.mref 2014)), (8, iD v2.2.2), (16, iD v16.2.2), (46, oD (.own 2015)), (47, iD ((v6.1.length : Int))), (48, iD v8.2.2)] [(2, .box (Ah p0)), (2013, .dvec 8 [.s, .s, .s, .s, .s, .s, .s, .x 1 []] (v16.1.map Bf)), (2014, .mp (F6 Value.string Ph v16.2.1)), (2015, .vec 3 (v6.1.map AA))]) (fun j16 h => ?_) (fun v16 h => ?_)
       ·refine wq rfl (qm rfl (Cm rfl (Ab ?_)))
        refine A8 h (fun h => ?_) fun h => ?_
        ·refine AR h (fun v18 => mk [(2, oD (.ptr 2 0)), (6, oD (.own 2016)), (7, oD (.mref 2017)), (8, iD v2.2.2), (15, pD (.val (.string v15))), (16, iD v18.2), (46, oD (.own 2018)), (47, iD ((v6.1.length : Int))), (48, iD v8.2.2)] [(2, .box (Ah p0)), (2016, .dvec 8 [.s, .s, .s, .s, .s, .s, .s, .x 1 []] (v18.1.map Bf)), (2017, .mp (F6 Value.string Ph v8.2.1)), (2018, .vec 3 (v6.1.map AA))]) (fun j18 h => ?_) (fun v18 h => ?_)
         ·refine wq rfl (qL CU BY rfl (qL BZ A3 rfl ?_))
          refine BP h fun v19 a19 h => D0 [] [2010, 2011, 2012] (Na N p0 v13.1 v19 a19) bn Cn rfl (qm rfl (qx rfl (qx rfl (qa rfl (qe rfl ?_)))))
          refine AR h (fun v20 => mk [(2, oD (.ptr 2 0)), (6, oD (.own 2022)), (7, oD (.mref 2023)), (8, iD v2.2.2), (12, oD (.ptr 12 0)), (13, oD (.ptr 13 0)), (15, pD (.val (.string v15))), (46, oD (.own 2024)), (47, iD ((v6.1.length : Int))), (48, iD v8.2.2), (87, bD v20)] [(2, .box (Ah p0)), (12, .box (Dv v11)), (13, .box [.own 2019, .own 2020, .own 2021]), (2019, .vec 1 (v13.1.fd.map Ak)), (2020, .vec 1 (v13.1.fb.map Ak)), (2021, .vec 1 (v13.1.fe.map D4)), (2022, .dvec 8 [.s, .s, .s, .s, .s, .s, .s, .x 1 []] (v8.1.map Bf)), (2023, .mp (F6 Value.string Ph v8.2.1)), (2024, .vec 3 (v6.1.map AA))]) (fun j20 h => ?_) (fun v20 h => ?_)
          ·refine Ag Av rfl (qm rfl (Bp rfl (qm rfl ?_)))
           refine Ey 84 h rfl (fun h => ?_) fun h => ?_
           ·refine qw 2 rfl (qp rfl (Ab ?_))
            exact sn [(2019, 2010), (2020, 2011), (2021, 2012), (2022, 2005), (2023, 2006), (2024, 2007)] h
           ·refine qm rfl (Cm rfl (qp rfl (Ab ?_)))
            exact sn [(2019, 2010), (2020, 2011), (2021, 2012), (2022, 2005), (2023, 2006), (2024, 2007)] h
          ·refine A8 h (fun h => ?_) fun h => ?_
           ·refine Ag Av rfl (qe rfl ?_)
            exact sn [(2016, 2022), (2017, 2023), (2018, 2024)] h
           ·refine wq rfl (qm rfl ?_)
            refine T0 (.p rfl) rfl rfl (L4 Bf v8.1 _ _) Hp ?_
            refine qa rfl (Ab (Ag Av rfl (qm rfl (qL BZ A3 rfl (qm rfl (qL J4 EZ rfl (Bg Tv Zr rfl (CY (A9 2019 _ _ rfl rfl) (CY (A9 2020 _ _ rfl rfl) (CY (A9 2021 _ _ rfl rfl) ?_))))))))))
            refine MC [(0, .tmp 94, _)] (.p rfl) rfl ⟨rfl, tv⟩ rfl Hp Lf Tv rfl rfl (Jc rfl) rfl rfl ?_
            refine CY (QA 95 8 [.s, .s, .s, .s, .s, .s, .s, .x 1 []] _ ((([(AD.mk v13.1 v2.2.2 v11 (([] : List Int)))] : List AD)).map Bf) rfl rfl) ?_
            refine FI h fun c23 h => VN (.p rfl) rfl rfl rfl rfl rfl (by decide) Hp Hp Lf aH (Jc rfl) Tv rfl (Yt (f := Bf) (g := Bf) (xs := v8.1) (ys := (([(AD.mk v13.1 v2.2.2 v11 (([] : List Int)))] : List AD))) c23) (Y1 Bf v8.1 (([(AD.mk v13.1 v2.2.2 v11 (([] : List Int)))] : List AD))) rfl rfl ?_
            refine qa rfl (Ab ?_)
            exact sn [(2016, 96), (2017, 2023), (2018, 2024)] h
         ·refine Ag Av rfl (qw 3 rfl ?_)
          refine Pp (kv := Value.string) (vt := Ph) (m := v8.2.1) (k := v15) (v := v18.2) rfl (.inl rfl) rfl rfl rfl rfl (Oc RD az) rfl ?_
          refine Ab ?_
          exact sn [(2013, 2016), (2014, 2017), (2015, 2018)] h
        ·refine Ai ?_
         exact sn [(2013, 2005), (2014, 2006), (2015, 2007)] h
       ·refine AR h (fun v24 => mk [(2, oD (.ptr 2 0)), (6, oD (.own 2025)), (7, oD (.mref 2026)), (8, iD v2.2.2), (46, oD (.own 2027)), (47, iD ((v6.1.length : Int))), (48, iD v8.2.2)] [(2, .box (Ah p0)), (2025, .dvec 8 [.s, .s, .s, .s, .s, .s, .s, .x 1 []] (v24.map Bf)), (2026, .mp (F6 Value.string Ph v16.2.1)), (2027, .vec 3 (v6.1.map AA))]) (fun j24 h => ?_) (fun v24 h => ?_)
        ·refine wq rfl (qm rfl (EE rfl (Ab ?_)))
         refine A8 h (fun h => ?_) fun h => ?_
         ·refine Ag Av rfl (qw 4 rfl ?_)
          refine BD h fun v26 a26 b26 h => Nf (.p rfl) rfl rfl rfl (L4 Bf v16.1 _ _) Hp Lf a26 (AG b26) ?_
          refine qh SF rfl ?_
          refine aj (.p rfl) rfl A1 rfl (Af b26) rfl rfl rfl rfl ?_
          refine qm rfl (Di As Cy I3 rfl ?_)
          refine FI h fun c27 h => Ck (f := Ak) As As Cy J8 I3 c27 rfl ?_
          refine BD h fun v28 a28 b28 h => Nf (.p rfl) rfl rfl rfl (ZW Bf v16.1 _ _ _ _ _) Hp Lf a28 (AG b28) ?_
          refine qh SF rfl ?_
          refine Wo rfl rfl rfl rfl (rows2 := (v26.fb ++ (([v16.2.2] : List Int))).map Ak) (cols2 := []) rfl rfl (Af b28) (by decide) GZ rfl rfl (Dy Bf v16.1 _ ((AD.mk ((Ac.mk v28.fp.fd v28.fp.fb v28.fp.fe)) v28.fg ((Ad.mk v28.ft.ff v28.ft.fh v28.ft.fo)) (v26.fb ++ (([v16.2.2] : List Int)))))) ?_
          refine Ab ?_
          exact sn [(2025, 2013), (2026, 2014), (2027, 2015)] h
         ·refine Ai ?_
          exact sn [(2025, 2013), (2026, 2014), (2027, 2015)] h
        ·refine wq rfl (qm rfl ?_)
         refine T0 (.p rfl) rfl rfl (L4 Bf v24 _ _) Hp ?_
         refine GM rfl (Ab ?_)
         refine A8 h (fun h => ?_) fun h => ?_
         ·refine wq rfl (qa rfl (qe rfl ?_))
          obtain rfl := sj h
          refine Ae ((Pk 4 _ rfl).trans (sm [] [(4, pD (.sl ((([] : List AD)).map Bf))), (5, iD 3)] [] rfl rfl)) (Ar ?_)
          exact ⟨⟨[_, _], ⟨.tmp _ _ rfl, tm⟩, rfl⟩, tv⟩
         ·refine Ai (Ag Av rfl (AX rfl (qm rfl (Ab ?_))))
          exact sn [(2005, 2025), (2006, 2026), (2007, 2027)] h
     ·refine AS ?_
      exact sn [(2008, 2005), (2009, 2006)] h
    ·refine Ae hs (Ag Av rfl (qm rfl (AX rfl (qe rfl ?_))))
     exact sn [(2001, 2008), (2002, 2009)] h
  ·refine AS ?_
   exact sn [(2003, 2001)] h
 ·refine Ae hs (wq rfl (qm rfl (qa rfl (qe rfl ?_))))
  obtain rfl := sj h
  refine Ae ((VM 2003 _ _ _ rfl rfl).trans (sm [] [(4, pD (.sl (v3.map Bf))), (5, iD 0)] [] rfl rfl)) (Ar ?_)
  exact ⟨⟨[_, _], ⟨.tmp _ _ rfl, tm⟩, rfl⟩, tv⟩
theorem K8 (N : Nat) (p0 : List Int) (p1 : List Int) (r : Bool) (h : Ed N p0 p1 = some r) : Ao zA0 25 [pD (.sl (p0.map Ak)), pD (.sl (p1.map Ak))] [] (bD r) := by
 unfold Ed at h
 refine cw (n := 26) (rs := [.tmp 4]) Tryz.func25 fun w0 S0 => ?_
 refine wq rfl (qa rfl (Ab (wp rfl (qm rfl (AJ As rfl (qm rfl (AJ As rfl (Bp rfl (Ab ?_)))))))))
 refine A8 h (fun h => ?_) fun h => ?_
 ·refine wq rfl (qe rfl ?_)
  obtain rfl := sj h
  refine Ae (sm [] [(4, bD false)] [] rfl rfl) (Ar ?_)
  exact ⟨⟨[_], tm, rfl⟩, tv⟩
 ·refine Ai (wp rfl (qm rfl (AJ As rfl (qm rfl (Ab ?_)))))
  refine AE (L := Ca N p0 p1) h (fun v2 => mk [(0, pD (.sl (p0.map Ak))), (1, pD (.sl (p1.map Ak))), (12, iD ((p0.length : Int))), (13, iD v2)] []) (fun v3 => mk [] []) (fun _ _ => rfl) (sm [] _ _ rfl rfl) (fun j2 n2 v2 h => ?_) (fun v3 s h hs => ?_)
  ·unfold Ca at h
   refine wq rfl (AV rfl (Ab (AN ?_)))
   refine A8 h (fun h => ?_) fun h => ?_
   ·refine Ai (AN (AH (wq rfl (qm rfl (qa rfl (Ab (wq rfl (qw 2 rfl ?_))))))))
    refine BD h fun v5 a5 b5 h => qi As Cy a5 (Af b5) rfl (qk BV rfl (qw 2 rfl ?_))
    refine BD h fun v6 a6 b6 h => qi As Cy a6 (Af b6) rfl (qk BV rfl (Bp rfl (AL (by kernel_rfl) ?_)))
    refine A8 h (fun h => ?_) fun h => ?_
    ·refine wq rfl (qe rfl ?_)
     obtain rfl := sj h
     refine Ae (sm [] [(4, bD false)] [] rfl rfl) (Ar ?_)
     exact ⟨⟨[_], tm, rfl⟩, tv⟩
    ·refine Ai (Ag Av rfl (AX rfl (qm rfl (Ab ?_))))
     exact sn [] h
   ·refine AS ?_
    exact sn [] h
  ·refine Ae hs (wq rfl (qe rfl ?_))
   obtain rfl := sj h
   refine Ae (sm [] [(4, bD true)] [] rfl rfl) (Ar ?_)
   exact ⟨⟨[_], tm, rfl⟩, tv⟩
theorem J6 (N : Nat) (p0 : List Int) (p1 : Int → Option Bool) (r : Int) (h : Eg N p0 p1 = some r) : Ao zA0 157 [pD (.sl (p0.map Ak)), oD (.clo (Hs (Lo false Ak) tB p1))] [] (iD r) := by
 unfold Eg at h
 refine cw (n := 19) (rs := [.tmp 4]) Tryz.func157 fun w0 S0 => ?_
 refine wq rfl (qa rfl (Ab (wp rfl (qm rfl (AJ As rfl (qm rfl (Ab ?_)))))))
 refine AE (L := Bi N p0 p1) h (fun v1 => mk [(0, pD (.sl (p0.map Ak))), (1, oD (.clo (Hs (Lo false Ak) tB p1))), (7, iD ((p0.length : Int))), (8, iD v1)] []) (fun v2 => mk [] []) (fun _ _ => rfl) (sm [] _ _ rfl rfl) (fun j1 n1 v1 h => ?_) (fun v2 s h hs => ?_)
 ·unfold Bi at h
  refine wq rfl (AV rfl (Ab (AN ?_)))
  refine A8 h (fun h => ?_) fun h => ?_
  ·refine Ai (AN (AH (wq rfl (qm rfl (qa rfl (Ab (wq rfl (qw 3 rfl ?_))))))))
   refine BD h fun v4 a4 b4 h => qi As Cy a4 (Af b4) rfl (qk BV rfl ?_)
   refine BP h fun v5 a5 h => KW (ds0 := [_]) (ar := (Lo false Ak) v4) (.p rfl) rfl rfl ⟨rfl, tv⟩ rfl rfl rfl (Kk (K5 _ _ Sa) a5) ?_
   refine Ab ?_
   refine A8 h (fun h => ?_) fun h => ?_
   ·refine wq rfl (qm rfl (qe rfl ?_))
    obtain rfl := sj h
    refine Ae (sm [] [(4, iD v1)] [] rfl rfl) (Ar ?_)
    exact ⟨⟨[_], tm, rfl⟩, tv⟩
   ·refine Ai (Ag Av rfl (AX rfl (qm rfl (Ab ?_))))
    exact sn [] h
  ·refine AS ?_
   exact sn [] h
 ·refine Ae hs (wq rfl (qe rfl ?_))
  obtain rfl := sj h
  refine Ae (sm [] [(4, iD ((-1)))] [] rfl rfl) (Ar ?_)
  exact ⟨⟨[_], tm, rfl⟩, tv⟩
theorem IW (N : Nat) (p0 : List Int) (p1 : Int → Option Bool) (r : Bool) (h : CT N p0 p1 = some r) : Ao zA0 121 [pD (.sl (p0.map Ak)), oD (.clo (Hs (Lo false Ak) tB p1))] [] (bD r) := by
 unfold CT at h
 refine cw (n := 9) (rs := [.tmp 4]) Tryz.func121 fun w0 S0 => ?_
 refine wq rfl (qa rfl (Ab (wq rfl (qw 2 rfl ?_))))
 refine BP h fun v1 a1 h => Ax [] (J6 N p0 p1 v1 a1) bT rfl (EE rfl (qe rfl ?_))
 obtain rfl := sj h
 refine Ae (sm [] [(4, bD ((decide (0 ≤ v1))))] [] rfl rfl) (Ar ?_)
 exact ⟨⟨[_], tm, rfl⟩, tv⟩
theorem R0 (N : Nat) (p0 : Int) (r : Bool) (h : HD N p0 = some r) : Ao zA0 122 [iD p0] [] (bD r) := by
 unfold HD at h
 refine cw (n := 5) (rs := [.tmp 2]) Tryz.func122 fun w0 S0 => ?_
 refine wq rfl (qa rfl (Ab (wq rfl (qm rfl (EE rfl (qe rfl ?_))))))
 obtain rfl := sj h
 refine Ae (sm [] [(2, bD ((decide (0 ≤ p0))))] [] rfl rfl) (Ar ?_)
 exact ⟨⟨[_], tm, rfl⟩, tv⟩
theorem Us (N : Nat) (p0 : Aa) (p1 : Ac) (r : Bool) (h : IN N p0 p1 = some r) : Ao zA0 85 [.e (.agg (Ah p0)), .e (.agg (AI p1))] [] (bD r) := by
 unfold IN at h
 refine cw (n := 22) (rs := [.tmp 4]) Tryz.func85 fun w0 S0 => ?_
 refine wq rfl (qb rfl (qb rfl (qe rfl ?_)))
 refine AR h (fun v1 => mk [(4, bD v1)] []) (fun j1 h => ?_) (fun v1 h => ?_)
 ·refine Ag Av rfl (qL CU BY rfl (qL BZ A3 rfl ?_))
  refine BP h fun v2 a2 h => Ax [] (Kg N p0 p1 v2 a2) UF rfl (Cf rfl (qm rfl ?_))
  refine Ey 9 h rfl (fun h => ?_) fun h => ?_
  ·refine qf C4 rfl (ql A1 rfl (qf GB rfl (ql A1 rfl ?_)))
   refine BP h fun v4 a4 h => Ax [] (K8 N p1.fd p0.fm v4 a4) eN rfl (qp rfl (qm rfl ?_))
   refine Ey 16 h rfl (fun h => ?_) fun h => ?_
   ·refine qf BI rfl (ql A1 rfl ?_)
    refine BP h fun v6 a6 h => Ax [] (Ao.weak (ds' := [pD (.sl (p1.fb.map Ak)), oD (.fnc 122)]) (IW N p1.fb ((fun (x : Int) => HD N x)) v6 a6) ⟨(fun _ _ _ hh => hh), (fun _ _ _ hh => Ve bH (fun ar t ht => by obtain ⟨x, r, rfl, hq, rfl⟩ := H3 ht; exact R0 N x r hq) hh), tv⟩) bU rfl ?_
    refine Cm rfl (qp rfl (qe rfl ?_))
    exact sn [] h
   ·refine qw 4 rfl (qp rfl (qe rfl ?_))
    exact sn [] h
  ·refine qw 5 rfl (qp rfl (qw 5 rfl (qp rfl (qe rfl ?_))))
   exact sn [] h
 ·obtain rfl := sj h
  refine Ae (sm [] [(4, bD v1)] [] rfl rfl) (Ar ?_)
  exact ⟨⟨[_], tm, rfl⟩, tv⟩
theorem P4 (N : Nat) (p0 : AD) (p1 : List Int) (p2 : List Int) (p3 : List Int) (p4 : List An) (r : Bool) (h : E6 N p0 p1 p2 p3 p4 = some r) : Ao zA0 108 [.e (.agg (VW p0)), oD (.rop [.sl (p1.map Ak), .sl (p2.map Ak), .sl (p3.map Ak), .sl (p4.map AM)])] [] (bD r) := by
 unfold E6 at h
 refine cw (n := 8) (rs := [.tmp 3]) Tryz.func108 fun w0 S0 => ?_
 refine wq rfl (qb rfl (qa rfl (Ab (wq rfl (qK CU BY rfl (qf Pr rfl (qL BZ A3 rfl ?_)))))))
 refine BP h fun v1 a1 h => Ax [] (Us N ((Aa.mk p1 p2 p3 p4)) ((Ac.mk p0.fp.fd p0.fp.fb p0.fp.fe)) v1 a1) d9 rfl (qe rfl ?_)
 obtain rfl := sj h
 refine Ae (sm [] [(3, bD v1)] [] rfl rfl) (Ar ?_)
 exact ⟨⟨[_], tm, rfl⟩, tv⟩
theorem GY (N : Nat) (p0 : List AD) (p1 : AD → Option Bool) (r : Int) (h : Cl N p0 p1 = some r) : Ao zA0 107 [pD (.sl (p0.map Bf)), oD (.clo (Hs (Lo true Bf) tB p1))] [] (iD r) := by
 unfold Cl at h
 refine cw (n := 19) (rs := [.tmp 4]) Tryz.func107 fun w0 S0 => ?_
 refine wq rfl (qa rfl (Ab (wp rfl (qm rfl (AJ Hp rfl (qm rfl (Ab ?_)))))))
 refine AE (L := AW N p0 p1) h (fun v1 => mk [(0, pD (.sl (p0.map Bf))), (1, oD (.clo (Hs (Lo true Bf) tB p1))), (7, iD ((p0.length : Int))), (8, iD v1)] []) (fun v2 => mk [] []) (fun _ _ => rfl) (sm [] _ _ rfl rfl) (fun j1 n1 v1 h => ?_) (fun v2 s h hs => ?_)
 ·unfold AW at h
  refine wq rfl (AV rfl (Ab (AN ?_)))
  refine A8 h (fun h => ?_) fun h => ?_
  ·refine Ai (AN (AH (wq rfl (qm rfl (qa rfl (Ab (wq rfl (qw 3 rfl ?_))))))))
   refine BD h fun v4 a4 b4 h => qi Hp Lf a4 (Af b4) rfl (qK bC Lf rfl ?_)
   refine BP h fun v5 a5 h => KW (ds0 := [_]) (ar := (Lo true Bf) ((AD.mk ((Ac.mk v4.fp.fd v4.fp.fb v4.fp.fe)) v4.fg ((Ad.mk v4.ft.ff v4.ft.fh v4.ft.fo)) v4.fb))) (.p rfl) rfl rfl ⟨rfl, tv⟩ rfl rfl rfl (Kk (K5 _ _ SJ) a5) ?_
   refine Ab ?_
   refine A8 h (fun h => ?_) fun h => ?_
   ·refine wq rfl (qm rfl (qe rfl ?_))
    obtain rfl := sj h
    refine Ae (sm [] [(4, iD v1)] [] rfl rfl) (Ar ?_)
    exact ⟨⟨[_], tm, rfl⟩, tv⟩
   ·refine Ai (Ag Av rfl (AX rfl (qm rfl (Ab ?_))))
    exact sn [] h
  ·refine AS ?_
   exact sn [] h
 ·refine Ae hs (wq rfl (qe rfl ?_))
  obtain rfl := sj h
  refine Ae (sm [] [(4, iD ((-1)))] [] rfl rfl) (Ar ?_)
  exact ⟨⟨[_], tm, rfl⟩, tv⟩
theorem HQ (N : Nat) (p0 : List Ad) (r : (List Ad)) (h : Bz N p0 = some r) : EK zA0 139 [oD (.own 90000)] [(.vec 3 (p0.map AA), .vec 3 (r.map AA))] [] (.tup []) := by
 unfold Bz at h
 refine Hc (n := 28) (rs := []) Tryz.func139 rfl rfl rfl (Jc rfl) (Jc rfl) rfl rfl (Jc rfl) rfl (Jc rfl) fun w0 S0 GL => cp ?_
 refine Ae (sm [] [(0, oD (.own 90000))] [(90000, .vec 3 (p0.map AA))] rfl rfl) (wq rfl (qm rfl (EL EO rfl (Kh rfl (qa rfl (qe rfl ?_))))))
 refine AE (L := Bl N) h (fun v1 => mk [(0, oD (.own 90000)), (2, iD v1.2.1), (3, iD v1.2.2)] [(90000, .vec 3 (v1.1.map AA))]) (fun v2 => mk [] [(90000, .vec 3 (v2.map AA))]) (fun _ _ => rfl) (sm [] _ _ rfl rfl) (fun j1 n1 v1 h => ?_) (fun v2 s h hs => ?_)
 ·unfold Bl at h
  refine wp rfl (qw 2 rfl (AV rfl (Ab ?_)))
  refine A8 h (fun h => ?_) fun h => ?_
  ·refine Ai (AN (AH (Ag Av rfl (qw 6 rfl ?_))))
   refine BD h fun v4 a4 b4 h => qI EO EZ a4 (Af b4) rfl (qJ J4 EZ (Af b4) rfl (qw 2 rfl ?_))
   refine BD h fun v5 a5 b5 h => qI EO EZ a5 (Af b5) rfl (qJ J4 EZ (Af b5) rfl ?_)
   refine BD h fun v6 a6 b6 h => qI EO EZ a6 (Af b6) rfl ?_
   refine DG rfl rfl rfl rfl (Af b6) rfl EZ rfl (Jc rfl) (Dy AA v1.1 _ v4) ?_
   refine BD h fun v7 a7 b7 h => qI EO EZ a7 (Af b7) rfl ?_
   refine DG rfl rfl rfl rfl (Af b7) rfl EZ rfl (Jc rfl) (Dy AA (v1.1.set ((v1.2.1).toNat) v4) _ v5) ?_
   refine AL (by kernel_rfl) (Ag Av rfl (qm rfl (AX rfl (qm rfl (Kh rfl (qa rfl (qe rfl ?_)))))))
   exact sn [] h
  ·refine AS ?_
   exact sn [] h
 ·obtain rfl := sj h
  refine ⟨_, hs.trans (sm [] [] [(90000, .vec 3 (v2.map AA))] rfl rfl), ?_⟩
  exact ⟨⟨[], tv, rfl⟩, ⟨rfl, tv⟩, tv⟩
theorem Un (N : Nat) (p0 : List AD) (p1 : Int) (r : (List Ad)) (h : Kl N p0 p1 = some r) : Ao zA0 109 [pD (.sl (p0.map Bf)), iD p1] [(3, r.map AA)] (oD (.own 0)) := by
 unfold Kl at h
 refine cw (n := 28) (rs := [.tmp 4]) Tryz.func109 fun w0 S0 => ?_
 refine wq rfl (qa rfl (Ab (wq rfl (qa rfl (Ab (AN ?_))))))
 refine AE (L := Gg N p0) h (fun v1 => mk [(0, pD (.sl (p0.map Bf))), (1, iD v1.1), (5, oD (.own 2001))] [(2001, .vec 3 (v1.2.map AA))]) (fun v2 => mk [(5, oD (.own 2002))] [(2002, .vec 3 (v2.map AA))]) (fun _ _ => rfl) ((AU 5 2003 3 rfl rfl rfl).trans (sm [(2001, 2003)] _ _ rfl rfl)) (fun j1 n1 v1 h => ?_) (fun v2 s h hs => ?_)
 ·unfold Gg at h
  refine wp rfl (qw 2 rfl ?_)
  refine BD h fun v3 a3 b3 h => qi Hp Lf a3 (Af b3) rfl (qg Su rfl (qk BV rfl (EE rfl (Ab ?_))))
  refine A8 h (fun h => ?_) fun h => ?_
  ·refine Ai (AN (AH (Ag Av rfl (qw 3 rfl ?_))))
   refine BD h fun v5 a5 b5 h => qi Hp Lf a5 (Af b5) rfl (qg WH rfl (qK J4 EZ rfl (Di EO EZ Ky rfl ?_)))
   refine FI h fun c6 h => Ck (f := AA) EO EO EZ Qy Ky c6 rfl (qa rfl (Ab (Ag Av rfl (qw 2 rfl ?_))))
   refine BD h fun v7 a7 b7 h => qi Hp Lf a7 (Af b7) rfl (qg Su rfl (qk BV rfl (qe rfl ?_)))
   exact sn [(2001, 24)] h
  ·refine AS ?_
   exact sn [(2002, 2001)] h
 ·refine Ae hs (wq rfl (qm rfl ?_))
  refine BP h fun v8 a8 h => L7 (ds0 := [_]) [2002] [] [true] (HQ N v2 v8 a8) (.p rfl) bd rfl ⟨rfl, tv⟩ rfl rfl (by decide) ⟨rfl, tv⟩ rfl (Gp rfl) tv ⟨(fun h => by cases h), tv⟩ rfl rfl rfl ?_
  refine Ab (wq rfl (qm rfl (qe rfl ?_)))
  obtain rfl := sj h
  refine Ae (sm [(1000, 2002)] [(4, oD (.own 1000))] [(1000, .vec 3 (v8.map AA))] rfl rfl) (Ar ?_)
  exact ⟨⟨[_], tm, rfl⟩, ⟨rfl, tv⟩⟩
theorem TA (N : Nat) (p0 : Aa) (p1 : Ac) (r : (List Ad) × Int) (h : FU N p0 p1 = some r) : Ao zA0 75 [.e (.agg (Ah p0)), .e (.agg (AI p1))] [(3, r.1.map AA)] (.tup [.one (.own 0), .one (iC r.2)]) := by
 unfold FU at h
 refine cw (n := 38) (rs := [.tmp 4, .tmp 5]) Tryz.func75 fun w0 S0 => ?_
 refine wq rfl (qb rfl (qb rfl (qa rfl (qa rfl (Ab (wq rfl (qL CU BY rfl (qL BZ A3 rfl ?_))))))))
 refine BP h fun v1 a1 h => Ax [] (Na N p0 p1 v1 a1) bn rfl (qm rfl (qx rfl (qx rfl (qa rfl (qa rfl (Ab (wp rfl (qm rfl (Bp rfl (Ab ?_))))))))))
 refine A8 h (fun h => ?_) fun h => ?_
 ·refine wq rfl (qm rfl (qa rfl (qe rfl ?_)))
  obtain rfl := sj h
  refine Ae ((AU 4 2001 3 rfl rfl rfl).trans (sm [(1000, 2001)] [(4, oD (.own 1000)), (5, iD v1.2)] [(1000, .vec 3 ((([] : List Ad)).map AA))] rfl rfl)) (Ar ?_)
  exact ⟨⟨[_, _], ⟨.tmp _ _ rfl, tm⟩, rfl⟩, ⟨rfl, tv⟩⟩
 ·refine Ai (wp rfl (qm rfl (Cm rfl (Ab ?_))))
  refine A8 h (fun h => ?_) fun h => ?_
  ·refine wq rfl (qa rfl (qe rfl ?_))
   obtain rfl := sj h
   refine Ae ((AU 4 2002 3 rfl rfl rfl).trans (sm [(1000, 2002)] [(4, oD (.own 1000)), (5, iD 13)] [(1000, .vec 3 ((([] : List Ad)).map AA))] rfl rfl)) (Ar ?_)
   exact ⟨⟨[_, _], ⟨.tmp _ _ rfl, tm⟩, rfl⟩, ⟨rfl, tv⟩⟩
  ·refine Ai (wq rfl (qL CU BY rfl (qL BZ A3 rfl ?_)))
   refine BP h fun v4 a4 h => Ax [] (P2 N p0 p1 v4 a4) bk rfl (qm rfl (qx rfl (qx rfl (qa rfl (qa rfl (Ab (wp rfl (qm rfl (Bp rfl (Ab ?_))))))))))
   refine A8 h (fun h => ?_) fun h => ?_
   ·refine wq rfl (qm rfl (qa rfl (qe rfl ?_)))
    obtain rfl := sj h
    refine Ae ((AU 4 2003 3 rfl rfl rfl).trans (sm [(1000, 2003)] [(4, oD (.own 1000)), (5, iD v4.2)] [(1000, .vec 3 ((([] : List Ad)).map AA))] rfl rfl)) (Ar ?_)
    exact ⟨⟨[_, _], ⟨.tmp _ _ rfl, tm⟩, rfl⟩, ⟨rfl, tv⟩⟩
   ·refine Ai (wq rfl (qm rfl (CY (Il 2 [.sl (p0.fa.map Ak), .sl (p0.fi.map Ak), .sl (p0.fm.map Ak), .sl (p0.fc.map AM)] rfl rfl) ?_)))
    refine IC (capD := [_]) (Hs (Lo true Bf) tB ((fun (x : AD) => E6 N x p0.fa p0.fi p0.fm p0.fc))) (.p rfl) aV rfl ⟨rfl, tv⟩ rfl (fun ar t ht => by obtain ⟨x, r, rfl, hq, rfl⟩ := H3 ht; exact P4 N x p0.fa p0.fi p0.fm p0.fc r hq) ?_
    refine BP h fun v6 a6 h => Ax [] (GY N v4.1 ((fun (x : AD) => E6 N x p0.fa p0.fi p0.fm p0.fc)) v6 a6) cN rfl (qa rfl (Ab (wp rfl (qm rfl (AV rfl (Ab ?_))))))
    refine A8 h (fun h => ?_) fun h => ?_
    ·refine wq rfl (qa rfl (qe rfl ?_))
     obtain rfl := sj h
     refine Ae ((AU 4 2004 3 rfl rfl rfl).trans (sm [(1000, 2004)] [(4, oD (.own 1000)), (5, iD 14)] [(1000, .vec 3 ((([] : List Ad)).map AA))] rfl rfl)) (Ar ?_)
     exact ⟨⟨[_, _], ⟨.tmp _ _ rfl, tm⟩, rfl⟩, ⟨rfl, tv⟩⟩
    ·refine Ai (wq rfl (qw 2 rfl ?_))
     refine BP h fun v8 a8 h => Ax [2005] (Un N v4.1 v6 v8 a8) cn rfl (qa rfl (qe rfl ?_))
     obtain rfl := sj h
     refine Ae (sm [(1000, 2005)] [(4, oD (.own 1000)), (5, iD 0)] [(1000, .vec 3 (v8.map AA))] rfl rfl) (Ar ?_)
     exact ⟨⟨[_, _], ⟨.tmp _ _ rfl, tm⟩, rfl⟩, ⟨rfl, tv⟩⟩
theorem SN (N : Nat) (p0 : Aa) (r : (List Ad) × Int) (h : Gr N p0 = some r) : Ao zA0 40 [.e (.agg (Ah p0))] [(3, r.1.map AA)] (.tup [.one (.own 0), .one (iC r.2)]) := by
 unfold Gr at h
 refine cw (n := 19) (rs := [.tmp 2, .tmp 3]) Tryz.func40 fun w0 S0 => ?_
 refine wq rfl (qb rfl (qa rfl (qa rfl (Ab (wq rfl (qL CU BY rfl ?_))))))
 refine BP h fun v1 a1 h => Ax [2001, 2002, 2003] (SD N p0 v1 a1) eK rfl (qm rfl (qx rfl (qx rfl (qz EG rfl (qs A3 rfl (qa rfl (Ab (wp rfl (qm rfl (Bp rfl (Ab ?_)))))))))))
 refine A8 h (fun h => ?_) fun h => ?_
 ·refine wq rfl (qm rfl (qa rfl (qe rfl ?_)))
  obtain rfl := sj h
  refine Ae ((AU 2 2004 3 rfl rfl rfl).trans (sm [(1000, 2004)] [(2, oD (.own 1000)), (3, iD v1.2)] [(1000, .vec 3 ((([] : List Ad)).map AA))] rfl rfl)) (Ar ?_)
  exact ⟨⟨[_, _], ⟨.tmp _ _ rfl, tm⟩, rfl⟩, ⟨rfl, tv⟩⟩
 ·refine Ai (wq rfl (qL CU BY rfl (qL BZ A3 rfl ?_)))
  refine BP h fun v3 a3 h => D0 [2005] [2001, 2002, 2003] (TA N p0 v1.1 v3 a3) eI (HM (fun _ => rfl) Cn) rfl (qx rfl (qx rfl (qa rfl (qe rfl ?_))))
  obtain rfl := sj h
  refine Ae (sm [(1000, 2005)] [(2, oD (.own 1000)), (3, iD v3.2)] [(1000, .vec 3 (v3.1.map AA))] rfl rfl) (Ar ?_)
  exact ⟨⟨[_, _], ⟨.tmp _ _ rfl, tm⟩, rfl⟩, ⟨rfl, tv⟩⟩
theorem MA (N : Nat) (p0 : Aa) (p1 : List Int) (r : Bool × Int) (h : Fu N p0 p1 = some r) : Ao zA0 12 [.e (.agg (Ah p0)), pD (.sl (p1.map Ak))] [] (.tup [.one (.pure (.val (.bool r.1))), .one (iC r.2)]) := by
 unfold Fu at h
 refine cw (n := 36) (rs := [.tmp 4, .tmp 5]) Tryz.func12 fun w0 S0 => ?_
 refine wq rfl (qb rfl (qa rfl (qa rfl (Ab (wp rfl (qL CU BY rfl ?_))))))
 refine BP h fun v1 a1 h => Ax [] (E5 N p0 v1 a1) Xj rfl (qa rfl (Ab (wq rfl (qm rfl (Bp rfl (Ab ?_))))))
 refine A8 h (fun h => ?_) fun h => ?_
 ·refine wq rfl (qm rfl (qa rfl (qe rfl ?_)))
  obtain rfl := sj h
  refine Ae (sm [] [(4, bD false), (5, iD v1)] [] rfl rfl) (Ar ?_)
  exact ⟨⟨[_, _], ⟨.tmp _ _ rfl, tm⟩, rfl⟩, tv⟩
 ·refine Ai (wq rfl (qL CU BY rfl (qm rfl ?_)))
  refine BP h fun v3 a3 h => Ax [2001, 2002, 2003, 2004] (NX N p0 p1 v3 a3) dU rfl (qm rfl (qx rfl (qx rfl (qz Km rfl (qs BY rfl (qa rfl (Ab (wp rfl (qm rfl (Bp rfl (Ab ?_)))))))))))
  refine A8 h (fun h => ?_) fun h => ?_
  ·refine wq rfl (qm rfl (qa rfl (qe rfl ?_)))
   obtain rfl := sj h
   refine Ae (sm [] [(4, bD false), (5, iD v3.2)] [] rfl rfl) (Ar ?_)
   exact ⟨⟨[_, _], ⟨.tmp _ _ rfl, tm⟩, rfl⟩, tv⟩
  ·refine Ai (wp rfl (qL CU BY rfl ?_))
   refine BP h fun v5 a5 h => D0 [2005] [2001, 2002, 2003, 2004] (SN N v3.1 v5 a5) dN (HM (fun _ => rfl) Cn) rfl (qm rfl (qx rfl (qx rfl (qa rfl (qa rfl (Ab (wq rfl (qm rfl (Ab (AH (wq rfl (Cf rfl (qe rfl ?_)))))))))))))
   refine A8 h (fun h => ?_) fun h => ?_
   ·refine wq rfl (qa rfl (qe rfl ?_))
    obtain rfl := sj h
    refine Ae (sm [] [(4, bD false), (5, iD 0)] [] rfl rfl) (Ar ?_)
    exact ⟨⟨[_, _], ⟨.tmp _ _ rfl, tm⟩, rfl⟩, tv⟩
   ·refine wq rfl (Cf rfl (qe rfl ?_))
    refine A8 h (fun h => ?_) fun h => ?_
    ·refine wq rfl (qm rfl (qa rfl (qe rfl ?_)))
     obtain rfl := sj h
     refine Ae (sm [] [(4, bD false), (5, iD v5.2)] [] rfl rfl) (Ar ?_)
     exact ⟨⟨[_, _], ⟨.tmp _ _ rfl, tm⟩, rfl⟩, tv⟩
    ·refine Ai (wq rfl (qa rfl (qe rfl ?_)))
     obtain rfl := sj h
     refine Ae (sm [] [(4, bD true), (5, iD 0)] [] rfl rfl) (Ar ?_)
     exact ⟨⟨[_, _], ⟨.tmp _ _ rfl, tm⟩, rfl⟩, tv⟩
theorem P6 (N : Nat) (p0 : Aa) (p1 : Int) (r : Bool × Int) (h : In N p0 p1 = some r) : Ao zA0 79 [.e (.agg (Ah p0)), pD (.val (.int .u64 p1))] [] (.tup [.one (.pure (.val (.bool r.1))), .one (iC r.2)]) := by
 unfold In at h
 refine cw (n := 12) (rs := [.tmp 4, .tmp 5]) Tryz.func79 fun w0 S0 => ?_
 refine wq rfl (qb rfl (qa rfl (qa rfl (Ab (wq rfl (qL CU BY rfl (qm rfl ?_)))))))
 refine BP h fun v1 a1 h => Ax [2001] (Ih N p1 v1 a1) YV rfl ?_
 refine BP h fun v2 a2 h => D0 [] [2001] (MA N p0 v1 v2 a2) bP Cn rfl (qx rfl (qx rfl (qa rfl (qa rfl (AL (by kernel_rfl) ?_)))))
 obtain rfl := sj h
 refine Ae (sm [] [(4, bD v2.1), (5, iD v2.2)] [] rfl rfl) (Ar ?_)
 exact ⟨⟨[_, _], ⟨.tmp _ _ rfl, tm⟩, rfl⟩, tv⟩
theorem NT (N : Nat) (p0 : Aa) (r : (List Int) × (List (Int × Bool)) × Int) (h : FZ N p0 = some r) : Ao zA0 42 [.e (.agg (Ah p0))] [(1, r.1.map DI)] (.tup [.one (.own 0), .one (.pure (.mp (F6 (Value.int .u64) tB r.2.1))), .one (iC r.2.2)]) := by
 unfold FZ at h
 refine cw (n := 56) (rs := [.tmp 2, .tmp 3, .tmp 4]) Tryz.func42 fun w0 S0 => ?_
 refine wq rfl (qb rfl (qa rfl (qa rfl (qa rfl (Ab (wp rfl (qL CU BY rfl ?_)))))))
 refine BP h fun v1 a1 h => Ax [] (E5 N p0 v1 a1) Xj rfl (qa rfl (Ab (wq rfl (qm rfl (Bp rfl (Ab ?_))))))
 refine A8 h (fun h => ?_) fun h => ?_
 ·refine wq rfl (qm rfl (qa rfl (qa rfl (qe rfl ?_))))
  obtain rfl := sj h
  refine Ae ((AU 2 2001 1 rfl rfl rfl).trans (sm [(1000, 2001)] [(2, oD (.own 1000)), (3, pD (.mp (F6 (Value.int .u64) tB (([] : List (Int × Bool)))))), (4, iD v1)] [(1000, .vec 1 ((([] : List Int)).map DI))] rfl rfl)) (Ar ?_)
  exact ⟨⟨[_, _, _], ⟨.tmp _ _ rfl, ⟨.tmp _ _ rfl, tm⟩⟩, rfl⟩, ⟨rfl, tv⟩⟩
 ·refine Ai (wq rfl (qa rfl (Ab (wp rfl (qf A6 rfl (ql A1 rfl (AJ As rfl ?_)))))))
  refine FI h fun c3 h => Jj rfl c3 (qm rfl (Ab ?_))
  refine AE (L := Fr N p0) h (fun v4 => mk [(1, oD (.ptr 1 0)), (6, oD (.own 2002)), (21, pD (.val (.int .u64 ((DX .u64 1 ((p0.fa.length : Int))))))), (22, pD (.val (.int .u64 v4.2)))] [(1, .box (Ah p0)), (2002, .vec 1 (v4.1.map DI))]) (fun v5 => mk [(1, oD (.ptr 1 0)), (6, oD (.own 2003))] [(1, .box (Ah p0)), (2003, .vec 1 (v5.map DI))]) (fun _ _ => rfl) ((AU 6 2004 1 rfl rfl rfl).trans (sm [(2002, 2004)] _ _ rfl rfl)) (fun j4 n4 v4 h => ?_) (fun v5 s h hs => ?_)
  ·unfold Fr at h
   refine wq rfl (AV rfl (Ab (AN ?_)))
   refine A8 h (fun h => ?_) fun h => ?_
   ·refine Ai (AN (AH (wq rfl (qm rfl (qa rfl (Ab (Ag Av rfl (qw 2 rfl (Di GF Mc Sg rfl ?_)))))))))
    refine FI h fun c7 h => Ck (f := DI) GF GF Mc XH Sg c7 rfl (qa rfl (Ab (Ag Av rfl (AX rfl (qm rfl (Ab ?_))))))
    exact sn [(2002, 28)] h
   ·refine AS ?_
    exact sn [(2003, 2002)] h
  ·refine Ae hs (wq rfl (qm rfl ?_))
   refine BP h fun v8 a8 h => L7 (ds0 := [_, _]) [2003] [] [true] (EK.weak (ds' := [_, oD (.fnc 78)]) (JA N v5 ((fun (x : Int × Int) => DA N x.1 x.2)) v8 a8) ⟨(fun _ _ _ hh => hh), (fun _ _ _ hh => Xh ed (fun ar t ht => by obtain ⟨x, r, rfl, hq, rfl⟩ := H3 ht; exact PO N x.1 x.2 r hq) hh), tv⟩) (.p rfl) dA rfl ⟨rfl, rfl, tv⟩ rfl rfl (by decide) ⟨rfl, tv⟩ rfl (Gp rfl) tv ⟨(fun h => by cases h), tv⟩ rfl rfl rfl ?_
   refine Ab (wq rfl (qm rfl (EL GF rfl ?_)))
   refine Ut (.p rfl) rfl Om rfl ?_
   refine qa rfl (Ab (wp rfl (qm rfl (EL GF rfl (qm rfl (Ab ?_))))))
   refine AE (L := EI N p0 v8) h (fun v9 => mk [(1, oD (.ptr 1 0)), (6, oD (.own 2005)), (8, oD (.mref 2006)), (35, oD (.own 2005)), (36, iD ((v8.length : Int))), (37, iD v9.2)] [(1, .box (Ah p0)), (2005, .vec 1 (v8.map DI)), (2006, .mp (F6 (Value.int .u64) tB v9.1))]) (fun v10 => mk [(6, oD (.own 2007)), (8, oD (.mref 2008))] [(2007, .vec 1 (v8.map DI)), (2008, .mp (F6 (Value.int .u64) tB v10))]) (fun _ _ => rfl) (sm [(2005, 2003), (2006, 34)] _ _ rfl rfl) (fun j9 n9 v9 h => ?_) (fun v10 s h hs => ?_)
   ·unfold EI at h
    refine wq rfl (AV rfl (Ab (AN ?_)))
    refine A8 h (fun h => ?_) fun h => ?_
    ·refine Ai (AN (AH (wq rfl ?_)))
     refine BD h fun v12 a12 b12 h => qI GF Mc a12 (Af b12) rfl (qj O3 (Af b12) rfl (qa rfl (Ab (wq rfl (qL CU BY rfl (qm rfl ?_))))))
     refine BP h fun v13 a13 h => Ax [] (P6 N p0 v12 v13 a13) d3 rfl (qm rfl (qx rfl (qx rfl (qa rfl (qa rfl (Ab (wp rfl (qm rfl (Bp rfl (Ab ?_))))))))))
     refine A8 h (fun h => ?_) fun h => ?_
     ·refine wq rfl (qm rfl (qa rfl (qa rfl (qe rfl ?_))))
      obtain rfl := sj h
      refine Ae ((AU 2 2009 1 rfl rfl rfl).trans (sm [(1000, 2009)] [(2, oD (.own 1000)), (3, pD (.mp (F6 (Value.int .u64) tB (([] : List (Int × Bool)))))), (4, iD v13.2)] [(1000, .vec 1 ((([] : List Int)).map DI))] rfl rfl)) (Ar ?_)
      exact ⟨⟨[_, _, _], ⟨.tmp _ _ rfl, ⟨.tmp _ _ rfl, tm⟩⟩, rfl⟩, ⟨rfl, tv⟩⟩
     ·refine Ai (Ag Av rfl (qw 3 rfl ?_))
      refine Pp (kv := (Value.int .u64)) (vt := tB) (m := v9.1) (k := v12) (v := v13.1) rfl (.inl rfl) rfl rfl rfl rfl (Ma Om UY) rfl ?_
      refine Ab (Ag Av rfl (AX rfl (qm rfl (Ab ?_))))
      exact sn [] h
    ·refine AS ?_
     exact sn [(2007, 2005), (2008, 2006)] h
   ·refine Ae hs (wq rfl (qw 2 rfl (qa rfl (qa rfl (qe rfl ?_)))))
    obtain rfl := sj h
    refine Ae ((VL 2008 _ rfl rfl).trans (sm [(1000, 2007)] [(2, oD (.own 1000)), (3, pD (.mp (F6 (Value.int .u64) tB v10))), (4, iD 0)] [(1000, .vec 1 (v8.map DI))] rfl rfl)) (Ar ?_)
    exact ⟨⟨[_, _, _], ⟨.tmp _ _ rfl, ⟨.tmp _ _ rfl, tm⟩⟩, rfl⟩, ⟨rfl, tv⟩⟩
theorem NY (N : Nat) (p0 : Int) (p1 : Int) (r : Bool) (h : zFS N p0 p1 = some r) : Ao zA0 81 [pD (.val (.int .u64 p0)), oD (.rop [.val (.int .u64 p1)])] [] (bD r) := by
 unfold zFS at h
 refine cw (n := 8) (rs := [.tmp 3]) Tryz.func81 fun w0 S0 => ?_
 refine wq rfl (qa rfl (Ab (wq rfl (qm rfl (qk O3 rfl (Io rfl (Cf rfl (qe rfl ?_))))))))
 obtain rfl := sj h
 refine Ae (sm [] [(3, bD (((Dc .u64 p0 p1) == 0)))] [] rfl rfl) (Ar ?_)
 exact ⟨⟨[_], tm, rfl⟩, tv⟩
theorem GJ (N : Nat) (p0 : List Int) (p1 : Int → Option Bool) (r : Int) (h : DL N p0 p1 = some r) : Ao zA0 80 [pD (.sl (p0.map DI)), oD (.clo (Hs (Lo false DI) tB p1))] [] (iD r) := by
 unfold DL at h
 refine cw (n := 19) (rs := [.tmp 4]) Tryz.func80 fun w0 S0 => ?_
 refine wq rfl (qa rfl (Ab (wp rfl (qm rfl (AJ GF rfl (qm rfl (Ab ?_)))))))
 refine AE (L := Df N p0 p1) h (fun v1 => mk [(0, pD (.sl (p0.map DI))), (1, oD (.clo (Hs (Lo false DI) tB p1))), (7, iD ((p0.length : Int))), (8, iD v1)] []) (fun v2 => mk [] []) (fun _ _ => rfl) (sm [] _ _ rfl rfl) (fun j1 n1 v1 h => ?_) (fun v2 s h hs => ?_)
 ·unfold Df at h
  refine wq rfl (AV rfl (Ab (AN ?_)))
  refine A8 h (fun h => ?_) fun h => ?_
  ·refine Ai (AN (AH (wq rfl (qm rfl (qa rfl (Ab (wq rfl (qw 3 rfl ?_))))))))
   refine BD h fun v4 a4 b4 h => qi GF Mc a4 (Af b4) rfl (qk O3 rfl ?_)
   refine BP h fun v5 a5 h => KW (ds0 := [_]) (ar := (Lo false DI) v4) (.p rfl) rfl rfl ⟨rfl, tv⟩ rfl rfl rfl (Kk (K5 _ _ Uo) a5) ?_
   refine Ab ?_
   refine A8 h (fun h => ?_) fun h => ?_
   ·refine wq rfl (qm rfl (qe rfl ?_))
    obtain rfl := sj h
    refine Ae (sm [] [(4, iD v1)] [] rfl rfl) (Ar ?_)
    exact ⟨⟨[_], tm, rfl⟩, tv⟩
   ·refine Ai (Ag Av rfl (AX rfl (qm rfl (Ab ?_))))
    exact sn [] h
  ·refine AS ?_
   exact sn [] h
 ·refine Ae hs (wq rfl (qe rfl ?_))
  obtain rfl := sj h
  refine Ae (sm [] [(4, iD ((-1)))] [] rfl rfl) (Ar ?_)
  exact ⟨⟨[_], tm, rfl⟩, tv⟩
theorem F5 (N : Nat) (p0 : List Int) (p1 : Int → Option Bool) (r : Bool) (h : Dk N p0 p1 = some r) : Ao zA0 46 [pD (.sl (p0.map DI)), oD (.clo (Hs (Lo false DI) tB p1))] [] (bD r) := by
 unfold Dk at h
 refine cw (n := 9) (rs := [.tmp 4]) Tryz.func46 fun w0 S0 => ?_
 refine wq rfl (qa rfl (Ab (wq rfl (qw 2 rfl ?_))))
 refine BP h fun v1 a1 h => Ax [] (GJ N p0 p1 v1 a1) cP rfl (EE rfl (qe rfl ?_))
 obtain rfl := sj h
 refine Ae (sm [] [(4, bD ((decide (0 ≤ v1))))] [] rfl rfl) (Ar ?_)
 exact ⟨⟨[_], tm, rfl⟩, tv⟩
theorem PF (N : Nat) (p0 : List Int) (p1 : List (Int × Bool)) (r : (List Int)) (h : Fe N p0 p1 = some r) : Ao zA0 51 [pD (.sl (p0.map DI)), pD (.mp (F6 (Value.int .u64) tB p1))] [(1, r.map DI)] (oD (.own 0)) := by
 unfold Fe at h
 refine cw (n := 29) (rs := [.tmp 4]) Tryz.func51 fun w0 S0 => ?_
 refine wq rfl (qa rfl (Ab (wq rfl (qa rfl (Ab (wp rfl (qm rfl (AJ GF rfl (qm rfl (Ab ?_))))))))))
 refine AE (L := GA N p0 p1) h (fun v1 => mk [(1, pD (.mp (F6 (Value.int .u64) tB p1))), (5, oD (.own 2001)), (8, pD (.sl (p0.map DI))), (9, iD ((p0.length : Int))), (10, iD v1.2)] [(2001, .vec 1 (v1.1.map DI))]) (fun v2 => mk [(5, oD (.own 2002))] [(2002, .vec 1 (v2.map DI))]) (fun _ _ => rfl) ((AU 5 2005 1 rfl rfl rfl).trans (sm [(2001, 2005)] _ _ rfl rfl)) (fun j1 n1 v1 h => ?_) (fun v2 s h hs => ?_)
 ·unfold GA at h
  refine wq rfl (AV rfl (Ab (AN ?_)))
  refine A8 h (fun h => ?_) fun h => ?_
  ·refine Ai ?_
   refine AR h (fun v4 => mk [(1, pD (.mp (F6 (Value.int .u64) tB p1))), (5, oD (.own 2003)), (8, pD (.sl (p0.map DI))), (9, iD ((p0.length : Int))), (10, iD v1.2)] [(2003, .vec 1 (v4.map DI))]) (fun j4 h => ?_) (fun v4 h => ?_)
   ·refine AH (wq rfl ?_)
    refine BD h fun v5 a5 b5 h => qi GF Mc a5 (Af b5) rfl (qk O3 rfl (qz Sg rfl (qs Mc rfl (Ab ?_))))
    refine AR h (fun v6 => mk [(1, pD (.mp (F6 (Value.int .u64) tB p1))), (5, oD (.own 2004)), (7, oD (.rop [.val (.int .u64 v5)])), (8, pD (.sl (p0.map DI))), (9, iD ((p0.length : Int))), (10, iD v1.2), (22, bD v6)] [(2004, .vec 1 (v1.1.map DI))]) (fun j6 h => ?_) (fun v6 h => ?_)
    ·refine Ag Av rfl (qm rfl (ql O3 rfl ?_))
     refine N5 (kv := (Value.int .u64)) (vt := tB) (m := p1) (dv := false) (.p rfl) rfl rfl (Ma Om UY) (by rw [Om]; rfl) Sd rfl rfl rfl ?_
     refine qm rfl ?_
     refine Ey 17 h rfl (fun h => ?_) fun h => ?_
     ·refine qm rfl (CY (Il 7 [.val (.int .u64 v5)] rfl rfl) ?_)
      refine IC (capD := [_]) (Hs (Lo false DI) tB ((fun (x : Int) => zFS N x v5))) (.g rfl rfl) dO rfl ⟨rfl, tv⟩ rfl (fun ar t ht => by obtain ⟨x, r, rfl, hq, rfl⟩ := H3 ht; exact NY N x v5 r hq) ?_
      refine BP h fun v8 a8 h => D0 [] [2001] (F5 N v1.1 ((fun (x : Int) => zFS N x v5)) v8 a8) cm Cn rfl (Cm rfl (qp rfl (Ab ?_)))
      exact sn [(2004, 2001)] h
     ·refine qw 4 rfl (qp rfl (Ab ?_))
      exact aq _ h ((Il 7 [.val (.int .u64 v5)] rfl rfl).trans (sm [(2004, 2001)] _ _ rfl rfl))
    ·refine A8 h (fun h => ?_) fun h => ?_
     ·refine Ag Av rfl (qm rfl (qk O3 rfl (Di GF Mc Sg rfl ?_)))
      refine FI h fun c10 h => Ck (f := DI) GF GF Mc XH Sg c10 rfl (qe rfl ?_)
      exact sn [(2003, 26)] h
     ·refine Ai ?_
      exact sn [(2003, 2004)] h
   ·refine Ag Av rfl (AX rfl (qm rfl (Ab ?_)))
    exact sn [(2001, 2003)] h
  ·refine AS ?_
   exact sn [(2002, 2001)] h
 ·refine Ae hs (wq rfl (qm rfl (qe rfl ?_)))
  obtain rfl := sj h
  refine Ae (sm [(1000, 2002)] [(4, oD (.own 1000))] [(1000, .vec 1 (v2.map DI))] rfl rfl) (Ar ?_)
  exact ⟨⟨[_], tm, rfl⟩, ⟨rfl, tv⟩⟩
theorem NR (N : Nat) (p0 : List Int) (r : (List (List Int))) (h : GN N p0 = some r) : Ao zA0 48 [pD (.sl (p0.map DI))] [(1, r.map (EP Ak))] (oD (.own 0)) := by
 unfold GN at h
 refine cw (n := 19) (rs := [.tmp 2]) Tryz.func48 fun w0 S0 => ?_
 refine wq rfl (qa rfl (Ab (wq rfl (qa rfl (Ab (wp rfl (qm rfl (AJ GF rfl (qm rfl (Ab ?_))))))))))
 refine AE (L := Hm N p0) h (fun v1 => mk [(3, oD (.own 2001)), (6, pD (.sl (p0.map DI))), (7, iD ((p0.length : Int))), (8, iD v1.2)] [(2001, .vec 1 (v1.1.map (EP Ak)))]) (fun v2 => mk [(3, oD (.own 2002))] [(2002, .vec 1 (v2.map (EP Ak)))]) (fun _ _ => rfl) ((AU 3 2004 1 rfl rfl rfl).trans (sm [(2001, 2004)] _ _ rfl rfl)) (fun j1 n1 v1 h => ?_) (fun v2 s h hs => ?_)
 ·unfold Hm at h
  refine wq rfl (AV rfl (Ab (AN ?_)))
  refine A8 h (fun h => ?_) fun h => ?_
  ·refine Ai (AN (AH (wq rfl ?_)))
   refine BD h fun v4 a4 b4 h => qi GF Mc a4 (Af b4) rfl (qk O3 rfl (qa rfl (Ab (Ag Av rfl (qw 2 rfl ?_)))))
   refine BP h fun v5 a5 h => Ax [2003] (Ih N v4 v5 a5) YV rfl (CY (A9 2003 _ _ rfl rfl) (Di Fq GZ Tg rfl ?_))
   refine FI h fun c6 h => Ck (f := (EP Ak)) Fq Fq GZ Xt Tg c6 rfl (qa rfl (Ab (Ag Av rfl (AX rfl (qm rfl (Ab ?_))))))
   exact sn [(2001, 16)] h
  ·refine AS ?_
   exact sn [(2002, 2001)] h
 ·refine Ae hs (wq rfl (qm rfl (qe rfl ?_)))
  obtain rfl := sj h
  refine Ae (sm [(1000, 2002)] [(2, oD (.own 1000))] [(1000, .vec 1 (v2.map (EP Ak)))] rfl rfl) (Ar ?_)
  exact ⟨⟨[_], tm, rfl⟩, ⟨rfl, tv⟩⟩
theorem Ud (N : Nat) (p0 : Aa) (r : (List (List Int)) × Int) (h : IT N p0 = some r) : Ao zA0 18 [.e (.agg (Ah p0))] [(1, r.1.map (EP Ak))] (.tup [.one (.own 0), .one (iC r.2)]) := by
 unfold IT at h
 refine cw (n := 20) (rs := [.tmp 2, .tmp 3]) Tryz.func18 fun w0 S0 => ?_
 refine wq rfl (qb rfl (qa rfl (qa rfl (Ab (wq rfl (qL CU BY rfl ?_))))))
 refine BP h fun v1 a1 h => Ax [2001] (NT N p0 v1 a1) cA rfl (qm rfl (qx rfl (qx rfl (qx rfl (qa rfl (qa rfl (qa rfl (Ab (wp rfl (qm rfl (Bp rfl (Ab ?_))))))))))))
 refine A8 h (fun h => ?_) fun h => ?_
 ·refine wq rfl (qm rfl (qa rfl (qe rfl ?_)))
  obtain rfl := sj h
  refine Ae ((AU 2 2002 1 rfl rfl rfl).trans (sm [(1000, 2002)] [(2, oD (.own 1000)), (3, iD v1.2.2)] [(1000, .vec 1 ((([] : List (List Int))).map (EP Ak)))] rfl rfl)) (Ar ?_)
  exact ⟨⟨[_, _], ⟨.tmp _ _ rfl, tm⟩, rfl⟩, ⟨rfl, tv⟩⟩
 ·refine Ai (wq rfl (qw 2 rfl ?_))
  refine BP h fun v3 a3 h => D0 [2003] [2001] (PF N v1.1 v1.2.1 v3 a3) dp (HM (fun _ => rfl) Cn) rfl (CY (A9 2003 _ _ rfl rfl) ?_)
  refine BP h fun v4 a4 h => Ax [2004] (NR N v3 v4 a4) bp rfl (qa rfl (qe rfl ?_))
  obtain rfl := sj h
  refine Ae (sm [(1000, 2004)] [(2, oD (.own 1000)), (3, iD 0)] [(1000, .vec 1 (v4.map (EP Ak)))] rfl rfl) (Ar ?_)
  exact ⟨⟨[_, _], ⟨.tmp _ _ rfl, tm⟩, rfl⟩, ⟨rfl, tv⟩⟩
theorem Kt (N : Nat) (p0 : List Int) (r : (List Int)) (h : DE N p0 = some r) : Ao zA0 44 [pD (.sl (p0.map DI))] [(1, r.map DI)] (oD (.own 0)) := by
 unfold DE at h
 refine cw (n := 8) (rs := [.tmp 2]) Tryz.func44 fun w0 S0 => ?_
 refine wq rfl (qa rfl (Ab (wp rfl (qm rfl ?_))))
 refine Nq (.p rfl) rfl GF ?_
 refine Ab ?_
 refine M6 rfl (fun c2 => ?_) ?_
 ·have c2 := zH3.1 c2
  rw [c2] at h
  have h : (some (([] : List Int))) = some r := h
  refine wq rfl (qe rfl ?_)
  obtain rfl := sj h
  refine Ae ((AU 2 2001 1 rfl rfl rfl).trans (sm [(1000, 2001)] [(2, oD (.own 1000))] [(1000, .vec 1 ((([] : List Int)).map DI))] rfl rfl)) (Ar ?_)
  exact ⟨⟨[_], tm, rfl⟩, ⟨rfl, tv⟩⟩
 ·refine Ai (wq rfl (Di GF Mc Sg rfl (qm rfl ?_)))
  refine FI h fun c1 h => I4 (f := DI) GF GF Mc XH Sg (fun _ => rfl) c1 rfl (qe rfl ?_)
  obtain rfl := sj h
  refine Ae (sm [(1000, 7)] [(2, oD (.own 1000))] [(1000, .vec 1 (((([] : List Int)) ++ p0).map DI))] rfl rfl) (Ar ?_)
  exact ⟨⟨[_], tm, rfl⟩, ⟨rfl, tv⟩⟩
theorem OC (N : Nat) (p0 : Int) (p1 : List (Int × Bool)) (p2 : Int) (r : Bool) (h : Gi N p0 p1 p2 = some r) : Ao zA0 47 [pD (.val (.int .u64 p0)), oD (.rop [.mp (F6 (Value.int .u64) tB p1)]), oD (.rop [.val (.int .u64 p2)])] [] (bD r) := by
 unfold Gi at h
 refine cw (n := 20) (rs := [.tmp 4]) Tryz.func47 fun w0 S0 => ?_
 refine wq rfl (qe rfl ?_)
 refine AR h (fun v1 => mk [(4, bD v1)] []) (fun j1 h => ?_) (fun v1 h => ?_)
 ·refine Ag Av rfl (qk bo rfl (qm rfl ?_))
  refine N5 (kv := (Value.int .u64)) (vt := tB) (m := p1) (dv := false) (.p rfl) rfl rfl (Ma Om UY) (by rw [Om]; rfl) Sd rfl rfl rfl ?_
  refine Cm rfl (qm rfl ?_)
  refine Ey 9 h rfl (fun h => ?_) fun h => ?_
  ·refine qm rfl (qk O3 rfl (Bp rfl (qp rfl (qm rfl ?_))))
   refine Ey 14 h rfl (fun h => ?_) fun h => ?_
   ·refine qk O3 rfl (qm rfl (Io rfl (Cf rfl (qp rfl (qe rfl ?_)))))
    exact sn [] h
   ·refine qw 4 rfl (qp rfl (qe rfl ?_))
    exact sn [] h
  ·refine qw 3 rfl (qp rfl (qw 5 rfl (qp rfl (qe rfl ?_))))
   exact sn [] h
 ·obtain rfl := sj h
  refine Ae (sm [] [(4, bD v1)] [] rfl rfl) (Ar ?_)
  exact ⟨⟨[_], tm, rfl⟩, tv⟩
theorem P7 (N : Nat) (p0 : Int) (p1 : List (Int × Bool)) (p2 : List Int) (r : Bool) (h : Fs N p0 p1 p2 = some r) : Ao zA0 45 [pD (.val (.int .u64 p0)), oD (.rop [.mp (F6 (Value.int .u64) tB p1)]), oD (.rop [.sl (p2.map DI)])] [] (bD r) := by
 unfold Fs at h
 refine cw (n := 13) (rs := [.tmp 4]) Tryz.func45 fun w0 S0 => ?_
 refine wq rfl (qb rfl (qe rfl ?_))
 refine AR h (fun v1 => mk [(4, bD v1)] []) (fun j1 h => ?_) (fun v1 h => ?_)
 ·refine Ag Av rfl (qk bo rfl (ql O3 rfl ?_))
  refine N5 (kv := (Value.int .u64)) (vt := tB) (m := p1) (dv := false) (.p rfl) rfl rfl (Ma Om UY) (by rw [Om]; rfl) Sd rfl rfl rfl ?_
  refine qm rfl ?_
  refine Ey 8 h rfl (fun h => ?_) fun h => ?_
  ·refine qw 3 rfl (qp rfl (qe rfl ?_))
   exact sn [] h
  ·refine qk bj rfl (CY (Il 3 [.val (.int .u64 p0)] rfl rfl) ?_)
   refine IC (capD := [_, _]) (Hs (Lo false DI) tB ((fun (x : Int) => Gi N x p1 p0))) (.g rfl rfl) dK rfl ⟨rfl, rfl, tv⟩ rfl (fun ar t ht => by obtain ⟨x, r, rfl, hq, rfl⟩ := H3 ht; exact OC N x p1 p0 r hq) ?_
   refine BP h fun v3 a3 h => Ax [] (F5 N p2 ((fun (x : Int) => Gi N x p1 p0)) v3 a3) cm rfl (qp rfl (qe rfl ?_))
   exact sn [] h
 ·obtain rfl := sj h
  refine Ae (sm [] [(4, bD v1)] [] rfl rfl) (Ar ?_)
  exact ⟨⟨[_], tm, rfl⟩, tv⟩
theorem I2 (N : Nat) (p0 : List Int) (p1 : Int → Option Bool) (r : Nat × (List Int)) (h : CM N p0 p1 = some r) : EK zA0 43 [oD (.own 90000), oD (.clo (Hs (Lo false DI) tB p1))] [(.vec 1 (p0.map DI), .vec 1 (r.2.map DI))] [] (oD (.view 90000 1 0 r.1)) := by
 unfold CM at h
 refine Hc (n := 42) (rs := [.tmp 4]) Tryz.func43 rfl rfl rfl (Jc rfl) (Jc rfl) rfl rfl (Jc rfl) rfl (Jc rfl) fun w0 S0 GL => ?_
 refine Ae (sm [] [(0, oD (.own 90000)), (1, oD (.clo (Hs (Lo false DI) tB p1)))] [(90000, .vec 1 (p0.map DI))] rfl rfl) (wq rfl (qa rfl (Ab (wq rfl (qw 2 rfl ?_)))))
 refine BP h fun v1 a1 h => D0 [] [90000] (GJ N p0 p1 v1 a1) cP Cn rfl (qa rfl (Ab (wp rfl (qm rfl (Cf rfl (Ab ?_))))))
 refine A8 h (fun h => ?_) fun h => ?_
 ·refine wq rfl (qm rfl (qe rfl ?_))
  obtain rfl := sj h
  refine Ae ((U8 DI p0 4 90000 1 rfl rfl).trans (sm [] [(4, oD (.view 90000 1 0 p0.length))] [(90000, .vec 1 (p0.map DI))] rfl rfl)) (Ar ?_)
  exact ⟨⟨[_], tm, rfl⟩, ⟨rfl, tv⟩, tv⟩
 ·refine Ai (wp rfl (qm rfl (AX rfl (qe rfl ?_))))
  refine AE (L := Db N p1) h (fun v3 => mk [(0, oD (.own 90000)), (1, oD (.clo (Hs (Lo false DI) tB p1))), (5, iD v3.2.1), (6, iD v3.2.2)] [(90000, .vec 1 (v3.1.map DI))]) (fun v4 => mk [(0, oD (.own 90000)), (5, iD v4.2)] [(90000, .vec 1 (v4.1.map DI))]) (fun _ _ => rfl) (sm [] _ _ rfl rfl) (fun j3 n3 v3 h => ?_) (fun v4 s h hs => ?_)
  ·unfold Db at h
   refine wp rfl (qw 2 rfl (EL GF rfl (AV rfl (Ab ?_))))
   refine A8 h (fun h => ?_) fun h => ?_
   ·refine Ai ?_
    refine AR h (fun v6 => mk [(0, oD (.own 90000)), (1, oD (.clo (Hs (Lo false DI) tB p1))), (5, iD v6.2), (6, iD v3.2.2)] [(90000, .vec 1 (v6.1.map DI))]) (fun j6 h => ?_) (fun v6 h => ?_)
    ·refine AH (wq rfl (qw 2 rfl ?_))
     refine BD h fun v7 a7 b7 h => qI GF Mc a7 (Af b7) rfl (qj O3 (Af b7) rfl (qa rfl (Ab (wq rfl (qw 2 rfl ?_)))))
     refine BP h fun v8 a8 h => KW (ds0 := [_]) (ar := (Lo false DI) v7) (.p rfl) rfl rfl ⟨rfl, tv⟩ rfl rfl rfl (Kk (K5 _ _ Uo) a8) ?_
     refine Cm rfl (Ab ?_)
     refine A8 h (fun h => ?_) fun h => ?_
     ·refine wq rfl (qw 3 rfl ?_)
      refine BD h fun v10 a10 b10 h => qI GF Mc a10 (Af b10) rfl ?_
      refine DG rfl rfl rfl rfl (Af b10) rfl Mc rfl (Jc rfl) (Dy DI v3.1 _ v7) ?_
      refine Ab (Ag Av rfl (qm rfl (AX rfl (qe rfl ?_))))
      exact sn [] h
     ·refine Ai ?_
      exact sn [] h
    ·refine Ag Av rfl (qm rfl (AX rfl (qe rfl ?_)))
     exact sn [] h
   ·refine AS ?_
    exact sn [] h
  ·refine Ae hs (wq rfl (qw 2 rfl ?_))
   obtain ⟨c11, h⟩ := HI h
   have w12 : ((v4.2).toNat) + ((v4.1.length - (v4.2).toNat)) ≤ v4.1.length := by have := c11.2.1; have := c11.2.2; omega
   refine KJ DI v4.1 (.p rfl) rfl (JG DI _ _ v4.1) rfl GF Mc (.some _ _ _ _ c11.1) (.none _) ⟨rfl, tv⟩ tv c11.2.1 (by rw [zA1]; exact c11.2.2) (zA1 _) rfl ?_
   have w13 : (Jl v4.1 ((v4.2).toNat) (zA5 ((v4.1.length - (v4.2).toNat)) ((0 : Int)))).length = v4.1.length := JX (by rw [List.length_replicate]; exact w12)
   refine Tm DI v4.1 ((0 : Int)) rfl rfl (Og DI _ _ ((v4.2).toNat) ((v4.1.length - (v4.2).toNat)) v4.1 w12) rfl GF Sg rfl rfl rfl rfl ?_
   refine Ab (wq rfl (qw 2 rfl ?_))
   obtain ⟨c14, h⟩ := HI h
   have w15 : 0 + ((v4.2).toNat) ≤ (Jl v4.1 ((v4.2).toNat) (zA5 ((v4.1.length - (v4.2).toNat)) ((0 : Int)))).length := by have := c14.2.1; have := c14.2.2; omega
   refine KJ DI (Jl v4.1 ((v4.2).toNat) (zA5 ((v4.1.length - (v4.2).toNat)) ((0 : Int)))) (.p rfl) rfl (JG DI _ _ (Jl v4.1 ((v4.2).toNat) (zA5 ((v4.1.length - (v4.2).toNat)) ((0 : Int))))) rfl GF Mc (.none _) (.some _ _ _ _ c14.1) tv ⟨rfl, tv⟩ c14.2.1 (by rw [zA1]; exact c14.2.2) (zA1 _) rfl ?_
   refine qa rfl (Ab ?_)
   obtain rfl := sj h
   refine Ae (sm [] [(4, oD (.view 90000 1 0 ((v4.2).toNat)))] [(90000, .vec 1 ((Jl v4.1 ((v4.2).toNat) (zA5 ((v4.1.length - (v4.2).toNat)) ((0 : Int)))).map DI))] rfl rfl) (Ar ?_)
   exact ⟨⟨[_], tm, rfl⟩, ⟨rfl, tv⟩, tv⟩
theorem OB (N : Nat) (p0 : Aa) (r : (List (List Int)) × Int) (h : GE N p0 = some r) : Ao zA0 15 [.e (.agg (Ah p0))] [(1, r.1.map (EP Ak))] (.tup [.one (.own 0), .one (iC r.2)]) := by
 unfold GE at h
 refine cw (n := 23) (rs := [.tmp 2, .tmp 3]) Tryz.func15 fun w0 S0 => ?_
 refine wq rfl (qb rfl (qa rfl (qa rfl (Ab (wq rfl (qL CU BY rfl ?_))))))
 refine BP h fun v1 a1 h => Ax [2001] (NT N p0 v1 a1) cA rfl (qm rfl (qx rfl (qx rfl (qx rfl (qz dQ rfl (qz ej rfl (qs dD rfl (qs dE rfl (qa rfl (Ab (wp rfl (qm rfl (Bp rfl (Ab ?_))))))))))))))
 refine A8 h (fun h => ?_) fun h => ?_
 ·refine wq rfl (qm rfl (qa rfl (qe rfl ?_)))
  obtain rfl := sj h
  refine Ae ((AU 2 2002 1 rfl rfl rfl).trans (sm [(1000, 2002)] [(2, oD (.own 1000)), (3, iD v1.2.2)] [(1000, .vec 1 ((([] : List (List Int))).map (EP Ak)))] rfl rfl)) (Ar ?_)
  exact ⟨⟨[_, _], ⟨.tmp _ _ rfl, tm⟩, rfl⟩, ⟨rfl, tv⟩⟩
 ·refine Ai (AN (Ae (A9 2001 _ _ rfl rfl) (Ag Av rfl (ql bj rfl ?_))))
  refine BP h fun v3 a3 h => Ax [2003] (Kt N v1.1 v3 a3) d1 rfl (CY (Il 5 [.mp (F6 (Value.int .u64) tB v1.2.1)] rfl rfl) (CY (Il 4 [.sl (v1.1.map DI)] rfl rfl) ?_))
  refine IC (capD := [_, _]) (Hs (Lo false DI) tB ((fun (x : Int) => Fs N x v1.2.1 v1.1))) (.p rfl) dy rfl ⟨rfl, rfl, tv⟩ rfl (fun ar t ht => by obtain ⟨x, r, rfl, hq, rfl⟩ := H3 ht; exact P7 N x v1.2.1 v1.1 r hq) ?_
  obtain ⟨v4, a4, h⟩ := bind_some h
  obtain ⟨c5, h⟩ := HI h
  have w6 : 0 + v4.1 ≤ v4.2.length := by rw [zA1]; exact c5
  refine L7 (ds0 := [_, _]) [2003] [] [true] (I2 N v3 ((fun (x : Int) => Fs N x v1.2.1 v1.1)) v4 a4) (.p rfl) d5 rfl ⟨rfl, rfl, tv⟩ rfl rfl (by decide) ⟨rfl, tv⟩ rfl (Gp rfl) tv ⟨(fun h => by cases h), tv⟩ rfl rfl rfl ?_
  refine CY (Xi DI v4.2 20 2003 2004 1 v4.1 rfl rfl rfl rfl rfl c5) (qa rfl (Ab (wq rfl (qm rfl (CY (A9 2004 _ _ rfl rfl) ?_)))))
  refine BP h fun v7 a7 h => Ax [2005] (NR N (v4.2.take v4.1) v7 a7) bp rfl (qa rfl (qe rfl ?_))
  obtain rfl := sj h
  refine Ae (sm [(1000, 2005)] [(2, oD (.own 1000)), (3, iD 0)] [(1000, .vec 1 (v7.map (EP Ak)))] rfl rfl) (Ar ?_)
  exact ⟨⟨[_, _], ⟨.tmp _ _ rfl, tm⟩, rfl⟩, ⟨rfl, tv⟩⟩
theorem MV (N : Nat) (p0 : List Int) (p1 : List Int) (r : Bool) (h : Fi N p0 p1 = some r) : Ao zA0 50 [pD (.sl (p0.map Ak)), pD (.sl (p1.map Ak))] [] (bD r) := by
 unfold Fi at h
 refine cw (n := 26) (rs := [.tmp 4]) Tryz.func50 fun w0 S0 => ?_
 refine wq rfl (qa rfl (Ab (wp rfl (qm rfl (AJ As rfl (qm rfl (AJ As rfl (Bp rfl (Ab ?_)))))))))
 refine A8 h (fun h => ?_) fun h => ?_
 ·refine wq rfl (qe rfl ?_)
  obtain rfl := sj h
  refine Ae (sm [] [(4, bD false)] [] rfl rfl) (Ar ?_)
  exact ⟨⟨[_], tm, rfl⟩, tv⟩
 ·refine Ai (wp rfl (qe rfl ?_))
  refine AE (L := C7 N p0 p1) h (fun v2 => mk [(0, pD (.sl (p0.map Ak))), (1, pD (.sl (p1.map Ak))), (5, iD v2)] []) (fun v3 => mk [] []) (fun _ _ => rfl) (sm [] _ _ rfl rfl) (fun j2 n2 v2 h => ?_) (fun v3 s h hs => ?_)
  ·unfold C7 at h
   refine wp rfl (qw 2 rfl (AJ As rfl (AV rfl (Ab ?_))))
   refine A8 h (fun h => ?_) fun h => ?_
   ·refine Ai (AN (AH (wq rfl (qw 2 rfl ?_))))
    refine BD h fun v5 a5 b5 h => qi As Cy a5 (Af b5) rfl (qk BV rfl (qw 2 rfl ?_))
    refine BD h fun v6 a6 b6 h => qi As Cy a6 (Af b6) rfl (qk BV rfl (Bp rfl (AL (by kernel_rfl) ?_)))
    refine A8 h (fun h => ?_) fun h => ?_
    ·refine wq rfl (qe rfl ?_)
     obtain rfl := sj h
     refine Ae (sm [] [(4, bD false)] [] rfl rfl) (Ar ?_)
     exact ⟨⟨[_], tm, rfl⟩, tv⟩
    ·refine Ai (Ag Av rfl (qm rfl (AX rfl (qe rfl ?_))))
     exact sn [] h
   ·refine AS ?_
    exact sn [] h
  ·refine Ae hs (wq rfl (qe rfl ?_))
   obtain rfl := sj h
   refine Ae (sm [] [(4, bD true)] [] rfl rfl) (Ar ?_)
   exact ⟨⟨[_], tm, rfl⟩, tv⟩
theorem Hu (N : Nat) (p0 : List (List Int)) (p1 : List (List Int)) (r : Bool) (h : Cr N p0 p1 = some r) : Ao zA0 17 [pD (.sl (p0.map (EP Ak))), pD (.sl (p1.map (EP Ak)))] [] (bD r) := by
 unfold Cr at h
 refine cw (n := 27) (rs := [.tmp 4]) Tryz.func17 fun w0 S0 => ?_
 refine wq rfl (qa rfl (Ab (wp rfl (qm rfl (AJ Fq rfl (qm rfl (AJ Fq rfl (Bp rfl (Ab ?_)))))))))
 refine A8 h (fun h => ?_) fun h => ?_
 ·refine wq rfl (qe rfl ?_)
  obtain rfl := sj h
  refine Ae (sm [] [(4, bD false)] [] rfl rfl) (Ar ?_)
  exact ⟨⟨[_], tm, rfl⟩, tv⟩
 ·refine Ai (wp rfl (qe rfl ?_))
  refine AE (L := CQ N p0 p1) h (fun v2 => mk [(0, pD (.sl (p0.map (EP Ak)))), (1, pD (.sl (p1.map (EP Ak)))), (5, iD v2)] []) (fun v3 => mk [] []) (fun _ _ => rfl) (sm [] _ _ rfl rfl) (fun j2 n2 v2 h => ?_) (fun v3 s h hs => ?_)
  ·unfold CQ at h
   refine wp rfl (qw 2 rfl (AJ Fq rfl (AV rfl (Ab ?_))))
   refine A8 h (fun h => ?_) fun h => ?_
   ·refine Ai (AN (AH (wq rfl (qw 2 rfl ?_))))
    refine BD h fun v5 a5 b5 h => qi Fq GZ a5 (Af b5) rfl (qk A1 rfl (qw 2 rfl ?_))
    refine BD h fun v6 a6 b6 h => qi Fq GZ a6 (Af b6) rfl (qk A1 rfl ?_)
    refine BP h fun v7 a7 h => Ax [] (MV N v5 v6 v7 a7) ee rfl (Cm rfl (AL (by kernel_rfl) ?_))
    refine A8 h (fun h => ?_) fun h => ?_
    ·refine wq rfl (qe rfl ?_)
     obtain rfl := sj h
     refine Ae (sm [] [(4, bD false)] [] rfl rfl) (Ar ?_)
     exact ⟨⟨[_], tm, rfl⟩, tv⟩
    ·refine Ai (Ag Av rfl (qm rfl (AX rfl (qe rfl ?_))))
     exact sn [] h
   ·refine AS ?_
    exact sn [] h
  ·refine Ae hs (wq rfl (qe rfl ?_))
   obtain rfl := sj h
   refine Ae (sm [] [(4, bD true)] [] rfl rfl) (Ar ?_)
   exact ⟨⟨[_], tm, rfl⟩, tv⟩
theorem Jh (N : Nat) (r : Bool) (h : Fa N = some r) : Ao zA0 11 [] [] (bD r) := by
 unfold Fa at h
 refine cw (n := 63) (rs := [.tmp 0]) Tryz.func11 fun w0 S0 => ?_
 refine wq rfl (qa rfl (Ab (wp rfl (Di EN N7 Sd rfl ?_))))
 refine Wr (.p rfl) rfl (.own _ _ _) ⟨rfl, tv⟩ rfl EN ?_
 refine qm rfl (Ab ?_)
 refine AE (L := Fb N) h (fun v1 => mk [(9, oD (.own 2001)), (10, iD (((([false, true] : List Bool)).length : Int))), (11, iD v1)] [(2001, .vec 1 ((([false, true] : List Bool)).map eB))]) (fun v2 => mk [] []) (fun _ _ => rfl) (sm [(2001, 9)] _ _ rfl rfl) (fun j1 n1 v1 h => ?_) (fun v2 s h hs => ?_)
 ·unfold Fb at h
  refine wq rfl (AV rfl (Ab (AN ?_)))
  refine A8 h (fun h => ?_) fun h => ?_
  ·refine Ai (AN (AH (wq rfl ?_)))
   refine BD h fun v4 a4 b4 h => qI EN N7 a4 (Af b4) rfl (qj Sf (Af b4) rfl (qa rfl (Ab (wq rfl (qm rfl ?_)))))
   refine BP h fun v5 a5 h => Ax [2002, 2003, 2004, 2005] (GS N v4 v5 a5) aA rfl (CY (A9 2002 _ _ rfl rfl) (CY (A9 2003 _ _ rfl rfl) (CY (A9 2004 _ _ rfl rfl) (CY (A9 2005 _ _ rfl rfl) ?_))))
   refine BP h fun v6 a6 h => Ax [2006] (Ud N v5 v6 a6) d4 rfl (qm rfl (qx rfl (qx rfl (qa rfl (qa rfl (Ab (wq rfl (qm rfl ?_))))))))
   refine BP h fun v7 a7 h => Ax [2007, 2008, 2009, 2010] (GS N v4 v7 a7) aA rfl (CY (A9 2007 _ _ rfl rfl) (CY (A9 2008 _ _ rfl rfl) (CY (A9 2009 _ _ rfl rfl) (CY (A9 2010 _ _ rfl rfl) ?_))))
   refine BP h fun v8 a8 h => Ax [2011] (OB N v7 v8 a8) bI rfl (qm rfl (qx rfl (qx rfl (qa rfl (qa rfl (Ab (wq rfl (qm rfl ?_))))))))
   refine BP h fun v9 a9 h => Ax [2012, 2013, 2014, 2015] (GS N v4 v9 a9) aA rfl (Di As Cy I3 rfl ?_)
   refine BP h fun v10 a10 h => D0 [] [2012, 2013, 2014, 2015, 30] (MA N v9 (([0, 2] : List Int)) v10 a10) bP Cn rfl (qm rfl (qx rfl (qx rfl (qa rfl (qe rfl ?_)))))
   refine AR h (fun v11 => mk [(9, oD (.own 2016)), (10, iD (((([false, true] : List Bool)).length : Int))), (11, iD v1), (61, bD v11)] [(2016, .vec 1 ((([false, true] : List Bool)).map eB))]) (fun j11 h => ?_) (fun v11 h => ?_)
   ·refine Ag Av rfl (qm rfl (Bp rfl (qm rfl ?_)))
    refine Ey 36 h rfl (fun h => ?_) fun h => ?_
    ·refine qw 2 rfl (qp rfl (qw 3 rfl (qp rfl (qw 2 rfl (qp rfl (qw 6 rfl (qp rfl (qw 7 rfl (qp rfl (Ab ?_))))))))))
     exact sn [(2016, 2001)] h
    ·refine qm rfl (Bp rfl (qp rfl (qm rfl ?_)))
     refine Ey 40 h rfl (fun h => ?_) fun h => ?_
     ·refine qw 2 rfl (qp rfl (qw 2 rfl (qp rfl (qw 6 rfl (qp rfl (qw 7 rfl (qp rfl (Ab ?_))))))))
      exact sn [(2016, 2001)] h
     ·refine qm rfl (Bp rfl (qp rfl (qm rfl ?_)))
      refine Ey 44 h rfl (fun h => ?_) fun h => ?_
      ·refine qn rfl (qp rfl (qw 6 rfl (qp rfl (qw 7 rfl (qp rfl (Ab ?_))))))
       exact sn [(2016, 2001)] h
      ·refine qm rfl (qp rfl (qm rfl ?_))
       refine Ey 47 h rfl (fun h => ?_) fun h => ?_
       ·refine qw 5 rfl (qp rfl (qw 7 rfl (qp rfl (Ab ?_))))
        exact sn [(2016, 2001)] h
       ·refine qm rfl (Di As Cy I3 rfl (CY (A9 49 _ _ rfl rfl) (Di Fq GZ Tg rfl ?_)))
        refine BP h fun v16 a16 h => D0 [] [2006, 50] (Hu N v6.1 (([([0, 1] : List Int)] : List (List Int))) v16 a16) Z6 Cn rfl (Cm rfl (qp rfl (qm rfl ?_)))
        refine Ey 54 h rfl (fun h => ?_) fun h => ?_
        ·refine qw 6 rfl (qp rfl (Ab ?_))
         exact sn [(2016, 2001)] h
        ·refine qm rfl (Di As Cy I3 rfl (Di As Cy I3 rfl (CY (A9 56 _ _ rfl rfl) (CY (A9 57 _ _ rfl rfl) (Di Fq GZ Tg rfl ?_)))))
         refine BP h fun v18 a18 h => D0 [] [2011, 58] (Hu N v8.1 (([([0, 2] : List Int), ([1, 2] : List Int)] : List (List Int))) v18 a18) Z6 Cn rfl (Cm rfl (qp rfl (Ab ?_)))
         exact sn [(2016, 2001)] h
   ·refine A8 h (fun h => ?_) fun h => ?_
    ·refine wq rfl (qe rfl ?_)
     obtain rfl := sj h
     refine Ae (sm [] [(0, bD false)] [] rfl rfl) (Ar ?_)
     exact ⟨⟨[_], tm, rfl⟩, tv⟩
    ·refine Ai (Ag Av rfl (AX rfl (qm rfl (Ab ?_))))
     exact sn [(2001, 2016)] h
  ·refine AS ?_
   exact sn [] h
 ·refine Ae hs (wq rfl (qe rfl ?_))
  obtain rfl := sj h
  refine Ae (sm [] [(0, bD true)] [] rfl rfl) (Ar ?_)
  exact ⟨⟨[_], tm, rfl⟩, tv⟩
theorem ML (N : Nat) (p0 : Aa) (p1 : Ac) (r : Bool) (h : Fh N p0 p1 = some r) : Ao zA0 91 [.e (.agg (Ah p0)), .e (.agg (AI p1))] [] (bD r) := by
 unfold Fh at h
 refine cw (n := 36) (rs := [.tmp 4]) Tryz.func91 fun w0 S0 => ?_
 refine wq rfl (qb rfl (qb rfl (qa rfl (Ab (wp rfl (qL CU BY rfl (qL BZ A3 rfl ?_)))))))
 refine BP h fun v1 a1 h => Ax [] (Hn N p0 p1 v1 a1) ZI rfl (Bp rfl (Ab ?_))
 refine A8 h (fun h => ?_) fun h => ?_
 ·refine wq rfl (qe rfl ?_)
  obtain rfl := sj h
  refine Ae (sm [] [(4, bD false)] [] rfl rfl) (Ar ?_)
  exact ⟨⟨[_], tm, rfl⟩, tv⟩
 ·refine Ai (wp rfl (qe rfl ?_))
  refine AE (L := C9 N p0 p1) h (fun v3 => mk [(2, oD (.ptr 2 0)), (3, oD (.ptr 3 0)), (5, iD v3)] [(2, .box (Ah p0)), (3, .box (AI p1))]) (fun v4 => mk [] []) (fun _ _ => rfl) (sm [] _ _ rfl rfl) (fun j3 n3 v3 h => ?_) (fun v4 s h hs => ?_)
  ·unfold C9 at h
   refine wp rfl (qm rfl (qf C4 rfl (ql A1 rfl (AJ As rfl (AV rfl (Ab ?_))))))
   refine A8 h (fun h => ?_) fun h => ?_
   ·refine Ai (AN (AH ?_))
    refine AR h (fun v6 => mk [(2, oD (.ptr 2 0)), (3, oD (.ptr 3 0)), (5, iD v3), (35, bD v6)] [(2, .box (Ah p0)), (3, .box (AI p1))]) (fun j6 h => ?_) (fun v6 h => ?_)
    ·refine Ag Av rfl (qf BI rfl (ql A1 rfl (qm rfl ?_)))
     refine BD h fun v7 a7 b7 h => qi As Cy a7 (Af b7) rfl (qk BV rfl (EE rfl (qm rfl ?_)))
     refine Ey 23 h rfl (fun h => ?_) fun h => ?_
     ·refine qw 11 rfl (qp rfl (AL (by kernel_rfl) ?_))
      exact sn [] h
     ·refine qf C4 rfl (ql A1 rfl (qm rfl ?_))
      refine BD h fun v9 a9 b9 h => qi As Cy a9 (Af b9) rfl (qk BV rfl (qf GB rfl (ql A1 rfl (qm rfl ?_))))
      refine BD h fun v10 a10 b10 h => qi As Cy a10 (Af b10) rfl (qk BV rfl (Bp rfl (qp rfl (AL (by kernel_rfl) ?_))))
      exact sn [] h
    ·refine A8 h (fun h => ?_) fun h => ?_
     ·refine wq rfl (qe rfl ?_)
      obtain rfl := sj h
      refine Ae (sm [] [(4, bD false)] [] rfl rfl) (Ar ?_)
      exact ⟨⟨[_], tm, rfl⟩, tv⟩
     ·refine Ai (Ag Av rfl (qm rfl (AX rfl (qe rfl ?_))))
      exact sn [] h
   ·refine AS ?_
    exact sn [] h
  ·refine Ae hs (wq rfl (qe rfl ?_))
   obtain rfl := sj h
   refine Ae (sm [] [(4, bD true)] [] rfl rfl) (Ar ?_)
   exact ⟨⟨[_], tm, rfl⟩, tv⟩
theorem NL (N : Nat) (p0 : List AC) (p1 : Int) (r : (List Ad)) (h : Gw N p0 p1 = some r) : Ao zA0 110 [pD (.sl (p0.map BF)), iD p1] [(3, r.map AA)] (oD (.own 0)) := by
 unfold Gw at h
 refine cw (n := 26) (rs := [.tmp 4]) Tryz.func110 fun w0 S0 => ?_
 refine wq rfl (qa rfl (Ab (wq rfl (qa rfl (Ab (AN ?_))))))
 refine AE (L := DU N p0) h (fun v1 => mk [(0, pD (.sl (p0.map BF))), (1, iD v1.1), (5, oD (.own 2001))] [(2001, .vec 3 (v1.2.map AA))]) (fun v2 => mk [(5, oD (.own 2002))] [(2002, .vec 3 (v2.map AA))]) (fun _ _ => rfl) ((AU 5 2003 3 rfl rfl rfl).trans (sm [(2001, 2003)] _ _ rfl rfl)) (fun j1 n1 v1 h => ?_) (fun v2 s h hs => ?_)
 ·unfold DU at h
  refine wp rfl (qw 2 rfl ?_)
  refine BD h fun v3 a3 b3 h => qi HP Mq a3 (Af b3) rfl (qg SB rfl (qk BV rfl (EE rfl (Ab ?_))))
  refine A8 h (fun h => ?_) fun h => ?_
  ·refine Ai (AH (wq rfl (qw 2 rfl ?_)))
   refine BD h fun v5 a5 b5 h => qi HP Mq a5 (Af b5) rfl (qg XA rfl (qK J4 EZ rfl (Di EO EZ Ky rfl (qm rfl ?_))))
   refine FI h fun c6 h => Ck (f := AA) EO EO EZ Qy Ky c6 rfl (qa rfl (Ab (Ag Av rfl (qw 2 rfl ?_))))
   refine BD h fun v7 a7 b7 h => qi HP Mq a7 (Af b7) rfl (qg SB rfl (qk BV rfl (qe rfl ?_)))
   exact sn [(2001, 19)] h
  ·refine AS ?_
   exact sn [(2002, 2001)] h
 ·refine Ae hs (wq rfl (qm rfl (qe rfl ?_)))
  obtain rfl := sj h
  refine Ae (sm [(1000, 2002)] [(4, oD (.own 1000))] [(1000, .vec 3 (v2.map AA))] rfl rfl) (Ar ?_)
  exact ⟨⟨[_], tm, rfl⟩, ⟨rfl, tv⟩⟩
theorem MI (N : Nat) (p0 : Aa) (p1 : Ac) (r : (List Ad) × Int) (h : Er N p0 p1 = some r) : Ao zA0 76 [.e (.agg (Ah p0)), .e (.agg (AI p1))] [(3, r.1.map AA)] (.tup [.one (.own 0), .one (iC r.2)]) := by
 unfold Er at h
 refine cw (n := 44) (rs := [.tmp 4, .tmp 5]) Tryz.func76 fun w0 S0 => ?_
 refine wq rfl (qb rfl (qb rfl (qa rfl (qa rfl (Ab (wp rfl (qL CU BY rfl (qL BZ A3 rfl ?_))))))))
 refine BP h fun v1 a1 h => Ax [] (Hn N p0 p1 v1 a1) ZI rfl (qa rfl (Ab (wq rfl (qm rfl (Bp rfl (Ab ?_))))))
 refine A8 h (fun h => ?_) fun h => ?_
 ·refine wq rfl (qm rfl (qa rfl (qe rfl ?_)))
  obtain rfl := sj h
  refine Ae ((AU 4 2001 3 rfl rfl rfl).trans (sm [(1000, 2001)] [(4, oD (.own 1000)), (5, iD v1)] [(1000, .vec 3 ((([] : List Ad)).map AA))] rfl rfl)) (Ar ?_)
  exact ⟨⟨[_, _], ⟨.tmp _ _ rfl, tm⟩, rfl⟩, ⟨rfl, tv⟩⟩
 ·refine Ai (wp rfl (qL CU BY rfl (qL BZ A3 rfl ?_)))
  refine BP h fun v3 a3 h => Ax [] (Gy N p0 p1 v3 a3) aE rfl (Cm rfl (Ab ?_))
  refine A8 h (fun h => ?_) fun h => ?_
  ·refine wq rfl (qa rfl (qe rfl ?_))
   obtain rfl := sj h
   refine Ae ((AU 4 2002 3 rfl rfl rfl).trans (sm [(1000, 2002)] [(4, oD (.own 1000)), (5, iD 13)] [(1000, .vec 3 ((([] : List Ad)).map AA))] rfl rfl)) (Ar ?_)
   exact ⟨⟨[_, _], ⟨.tmp _ _ rfl, tm⟩, rfl⟩, ⟨rfl, tv⟩⟩
  ·refine Ai (wq rfl (qL CU BY rfl (qL BZ A3 rfl ?_)))
   refine BP h fun v5 a5 h => Ax [2003] (Je N p0 p1 20000 v5 a5) aR rfl (qm rfl (qx rfl (qx rfl (qa rfl (qa rfl (Ab (wp rfl (qm rfl (Cm rfl (Ab ?_))))))))))
   refine A8 h (fun h => ?_) fun h => ?_
   ·refine wq rfl (qa rfl (qe rfl ?_))
    obtain rfl := sj h
    refine Ae ((AU 4 2004 3 rfl rfl rfl).trans (sm [(1000, 2004)] [(4, oD (.own 1000)), (5, iD 3)] [(1000, .vec 3 ((([] : List Ad)).map AA))] rfl rfl)) (Ar ?_)
    exact ⟨⟨[_, _], ⟨.tmp _ _ rfl, tm⟩, rfl⟩, ⟨rfl, tv⟩⟩
   ·refine Ai (wp rfl (qe rfl ?_))
    refine AE (L := Cv N p0 v5) h (fun v7 => mk [(2, oD (.ptr 2 0)), (7, oD (.own 2005)), (9, iD v7)] [(2, .box (Ah p0)), (2005, .vec 7 (v5.1.map BF))]) (fun v8 => mk [] []) (fun _ _ => rfl) (sm [(2005, 2003)] _ _ rfl rfl) (fun j7 n7 v7 h => ?_) (fun v8 s h hs => ?_)
    ·unfold Cv at h
     refine wp rfl (qw 2 rfl (EL HP rfl (AV rfl (Ab ?_))))
     refine A8 h (fun h => ?_) fun h => ?_
     ·refine Ai (AN (AH (wq rfl (qL CU BY rfl (qw 2 rfl ?_)))))
      refine BD h fun v10 a10 b10 h => qI HP Mq a10 (Af b10) rfl (qh Nz rfl ?_)
      refine Pv (.p rfl) rfl BZ A3 rfl (Af b10) rfl rfl (by decide) ?_
      refine BP h fun v11 a11 h => Ax [] (ML N p0 ((Ac.mk v10.fu.fd v10.fu.fb v10.fu.fe)) v11 a11) eF rfl (AL (by kernel_rfl) ?_)
      refine A8 h (fun h => ?_) fun h => ?_
      ·refine wq rfl (qw 2 rfl ?_)
       refine BP h fun v13 a13 h => D0 [2006] [2005] (NL N v5.1 v7 v13 a13) df (HM (fun _ => rfl) Cn) rfl (qa rfl (qe rfl ?_))
       obtain rfl := sj h
       refine Ae (sm [(1000, 2006)] [(4, oD (.own 1000)), (5, iD 0)] [(1000, .vec 3 (v13.map AA))] rfl rfl) (Ar ?_)
       exact ⟨⟨[_, _], ⟨.tmp _ _ rfl, tm⟩, rfl⟩, ⟨rfl, tv⟩⟩
      ·refine Ai (Ag Av rfl (qm rfl (AX rfl (qe rfl ?_))))
       exact sn [] h
     ·refine AS ?_
      exact sn [] h
    ·refine Ae hs (wq rfl (qa rfl (qe rfl ?_)))
     obtain rfl := sj h
     refine Ae ((AU 4 2007 3 rfl rfl rfl).trans (sm [(1000, 2007)] [(4, oD (.own 1000)), (5, iD 14)] [(1000, .vec 3 ((([] : List Ad)).map AA))] rfl rfl)) (Ar ?_)
     exact ⟨⟨[_, _], ⟨.tmp _ _ rfl, tm⟩, rfl⟩, ⟨rfl, tv⟩⟩
theorem MW (N : Nat) (p0 : Aa) (r : (List Ad) × Int) (h : Fj N p0 = some r) : Ao zA0 41 [.e (.agg (Ah p0))] [(3, r.1.map AA)] (.tup [.one (.own 0), .one (iC r.2)]) := by
 unfold Fj at h
 refine cw (n := 19) (rs := [.tmp 2, .tmp 3]) Tryz.func41 fun w0 S0 => ?_
 refine wq rfl (qb rfl (qa rfl (qa rfl (Ab (wq rfl (qL CU BY rfl ?_))))))
 refine BP h fun v1 a1 h => Ax [2001, 2002, 2003] (Jf N p0 v1 a1) dg rfl (qm rfl (qx rfl (qx rfl (qz EG rfl (qs A3 rfl (qa rfl (Ab (wp rfl (qm rfl (Bp rfl (Ab ?_)))))))))))
 refine A8 h (fun h => ?_) fun h => ?_
 ·refine wq rfl (qm rfl (qa rfl (qe rfl ?_)))
  obtain rfl := sj h
  refine Ae ((AU 2 2004 3 rfl rfl rfl).trans (sm [(1000, 2004)] [(2, oD (.own 1000)), (3, iD v1.2)] [(1000, .vec 3 ((([] : List Ad)).map AA))] rfl rfl)) (Ar ?_)
  exact ⟨⟨[_, _], ⟨.tmp _ _ rfl, tm⟩, rfl⟩, ⟨rfl, tv⟩⟩
 ·refine Ai (wq rfl (qL CU BY rfl (qL BZ A3 rfl ?_)))
  refine BP h fun v3 a3 h => D0 [2005] [2001, 2002, 2003] (MI N p0 v1.1 v3 a3) dR (HM (fun _ => rfl) Cn) rfl (qx rfl (qx rfl (qa rfl (qe rfl ?_))))
  obtain rfl := sj h
  refine Ae (sm [(1000, 2005)] [(2, oD (.own 1000)), (3, iD v3.2)] [(1000, .vec 3 (v3.1.map AA))] rfl rfl) (Ar ?_)
  exact ⟨⟨[_, _], ⟨.tmp _ _ rfl, tm⟩, rfl⟩, ⟨rfl, tv⟩⟩
theorem LM (N : Nat) (p0 : Aa) (p1 : List Int) (r : Bool × Int) (h : DQ N p0 p1 = some r) : Ao zA0 14 [.e (.agg (Ah p0)), pD (.sl (p1.map Ak))] [] (.tup [.one (.pure (.val (.bool r.1))), .one (iC r.2)]) := by
 unfold DQ at h
 refine cw (n := 27) (rs := [.tmp 4, .tmp 5]) Tryz.func14 fun w0 S0 => ?_
 refine wq rfl (qb rfl (qa rfl (qa rfl (Ab (wq rfl (qL CU BY rfl (qm rfl ?_)))))))
 refine BP h fun v1 a1 h => Ax [2001, 2002, 2003, 2004] (Ip N p0 p1 v1 a1) cO rfl (qm rfl (qx rfl (qx rfl (qz Km rfl (qs BY rfl (qa rfl (Ab (wp rfl (qm rfl (Bp rfl (Ab ?_)))))))))))
 refine A8 h (fun h => ?_) fun h => ?_
 ·refine wq rfl (qm rfl (qa rfl (qe rfl ?_)))
  obtain rfl := sj h
  refine Ae (sm [] [(4, bD false), (5, iD v1.2)] [] rfl rfl) (Ar ?_)
  exact ⟨⟨[_, _], ⟨.tmp _ _ rfl, tm⟩, rfl⟩, tv⟩
 ·refine Ai (wq rfl (qL CU BY rfl ?_))
  refine BP h fun v3 a3 h => D0 [2005] [2001, 2002, 2003, 2004] (MW N v1.1 v3 a3) dV (HM (fun _ => rfl) Cn) rfl (qm rfl (qx rfl (qx rfl (qa rfl (Ab (wp rfl (qm rfl (Cf rfl (Ab ?_)))))))))
  refine A8 h (fun h => ?_) fun h => ?_
  ·refine wq rfl (qm rfl (qa rfl (qe rfl ?_)))
   obtain rfl := sj h
   refine Ae (sm [] [(4, bD false), (5, iD v3.2)] [] rfl rfl) (Ar ?_)
   exact ⟨⟨[_, _], ⟨.tmp _ _ rfl, tm⟩, rfl⟩, tv⟩
  ·refine Ai (wq rfl (qm rfl (Bp rfl (qa rfl (qe rfl ?_)))))
   obtain rfl := sj h
   refine Ae (sm [] [(4, bD ((v3.2 != 0))), (5, iD 0)] [] rfl rfl) (Ar ?_)
   exact ⟨⟨[_, _], ⟨.tmp _ _ rfl, tm⟩, rfl⟩, tv⟩
theorem KS (N : Nat) (p0 : Aa) (r : (List (List Int)) × (List Bool) × Int) (h : Do N p0 = some r) : Ao zA0 49 [.e (.agg (Ah p0))] [(1, r.1.map (EP Ak)), (1, r.2.1.map eB)] (.tup [.one (.own 0), .one (.own 1), .one (iC r.2.2)]) := by
 unfold Do at h
 refine cw (n := 44) (rs := [.tmp 2, .tmp 3, .tmp 4]) Tryz.func49 fun w0 S0 => ?_
 refine wq rfl (qb rfl (qa rfl (qa rfl (qa rfl (Ab (wp rfl (qL CU BY rfl ?_)))))))
 refine BP h fun v1 a1 h => Ax [] (Dr N p0 v1 a1) WZ rfl (qa rfl (Ab (wq rfl (qm rfl (Bp rfl (Ab ?_))))))
 refine A8 h (fun h => ?_) fun h => ?_
 ·refine wq rfl (qm rfl (qa rfl (qa rfl (qe rfl ?_))))
  obtain rfl := sj h
  refine Ae ((AU 2 2001 1 rfl rfl rfl).trans ((AU 3 2002 1 rfl rfl rfl).trans (sm [(1000, 2001), (1001, 2002)] [(2, oD (.own 1000)), (3, oD (.own 1001)), (4, iD v1)] [(1000, .vec 1 ((([] : List (List Int))).map (EP Ak))), (1001, .vec 1 ((([] : List Bool)).map eB))] rfl rfl))) (Ar ?_)
  exact ⟨⟨[_, _, _], ⟨.tmp _ _ rfl, ⟨.tmp _ _ rfl, tm⟩⟩, rfl⟩, ⟨rfl, rfl, tv⟩⟩
 ·refine Ai (wq rfl (qf A6 rfl (ql A1 rfl (AJ As rfl ?_))))
  refine BP h fun v3 a3 h => Ax [2003] (J5 N ((p0.fa.length : Int)) v3 a3) cD rfl (qa rfl (Ab (wq rfl (qa rfl (Ab (wp rfl (qe rfl ?_)))))))
  refine AE (L := CP N p0 v3) h (fun v4 => mk [(1, oD (.ptr 1 0)), (6, oD (.own 2004)), (7, oD (.own 2005)), (8, iD v4.2)] [(1, .box (Ah p0)), (2004, .vec 1 (v3.map (EP Ak))), (2005, .vec 1 (v4.1.map eB))]) (fun v5 => mk [(6, oD (.own 2006)), (7, oD (.own 2007))] [(2006, .vec 1 (v3.map (EP Ak))), (2007, .vec 1 (v5.map eB))]) (fun _ _ => rfl) ((AU 7 2010 1 rfl rfl rfl).trans (sm [(2004, 2003), (2005, 2010)] _ _ rfl rfl)) (fun j4 n4 v4 h => ?_) (fun v5 s h hs => ?_)
  ·unfold CP at h
   refine wp rfl (qw 2 rfl (EL Fq rfl (AV rfl (Ab ?_))))
   refine A8 h (fun h => ?_) fun h => ?_
   ·refine Ai (AN (AH (wq rfl (qL CU BY rfl (qw 2 rfl ?_)))))
    refine BD h fun v7 a7 b7 h => qI Fq GZ a7 (Af b7) rfl (qj A1 (Af b7) rfl ?_)
    refine BP h fun v8 a8 h => Ax [] (LM N p0 v7 v8 a8) dZ rfl (qm rfl (qx rfl (qx rfl (qa rfl (qa rfl (AL (by kernel_rfl) (wp rfl (qm rfl (Bp rfl (Ab ?_))))))))))
    refine A8 h (fun h => ?_) fun h => ?_
    ·refine wq rfl (qm rfl (qa rfl (qa rfl (qe rfl ?_))))
     obtain rfl := sj h
     refine Ae ((AU 2 2008 1 rfl rfl rfl).trans ((AU 3 2009 1 rfl rfl rfl).trans (sm [(1000, 2008), (1001, 2009)] [(2, oD (.own 1000)), (3, oD (.own 1001)), (4, iD v8.2)] [(1000, .vec 1 ((([] : List (List Int))).map (EP Ak))), (1001, .vec 1 ((([] : List Bool)).map eB))] rfl rfl))) (Ar ?_)
     exact ⟨⟨[_, _, _], ⟨.tmp _ _ rfl, ⟨.tmp _ _ rfl, tm⟩⟩, rfl⟩, ⟨rfl, rfl, tv⟩⟩
    ·refine Ai (Ag Av rfl (qw 2 rfl (Di EN N7 Sd rfl ?_)))
     refine FI h fun c10 h => Ck (f := eB) EN EN N7 VV Sd c10 rfl (qa rfl (Ab (Ag Av rfl (qm rfl (AX rfl (qe rfl ?_))))))
     exact sn [(2005, 41)] h
   ·refine AS ?_
    exact sn [(2006, 2004), (2007, 2005)] h
  ·refine Ae hs (wq rfl (qw 2 rfl (qa rfl (qa rfl (qe rfl ?_)))))
   obtain rfl := sj h
   refine Ae (sm [(1000, 2006), (1001, 2007)] [(2, oD (.own 1000)), (3, oD (.own 1001)), (4, iD 0)] [(1000, .vec 1 (v3.map (EP Ak))), (1001, .vec 1 (v5.map eB))] rfl rfl) (Ar ?_)
   exact ⟨⟨[_, _, _], ⟨.tmp _ _ rfl, ⟨.tmp _ _ rfl, tm⟩⟩, rfl⟩, ⟨rfl, rfl, tv⟩⟩
theorem LI (N : Nat) (p0 : List Int) (p1 : List Int) (r : Bool) (h : EB N p0 p1 = some r) : Ao zA0 19 [pD (.sl (p0.map Ak)), pD (.sl (p1.map Ak))] [] (bD r) := by
 unfold EB at h
 refine cw (n := 34) (rs := [.tmp 4]) Tryz.func19 fun w0 S0 => ?_
 refine wq rfl (qa rfl (Ab (wp rfl (qe rfl ?_))))
 refine AE (L := EU N p0 p1) h (fun v1 => mk [(0, pD (.sl (p0.map Ak))), (1, pD (.sl (p1.map Ak))), (5, iD v1)] []) (fun v2 => mk [] []) (fun _ _ => rfl) (sm [] _ _ rfl rfl) (fun j1 n1 v1 h => ?_) (fun v2 s h hs => ?_)
 ·unfold EU at h
  refine wp rfl (qw 2 rfl (AJ As rfl (AV rfl (Ab ?_))))
  refine A8 h (fun h => ?_) fun h => ?_
  ·refine Ai (AN (AH (wq rfl (qa rfl (Ab (wp rfl (qe rfl ?_)))))))
   refine AE (L := ES N p0 p1 v1) h (fun v4 => mk [(0, pD (.sl (p0.map Ak))), (1, pD (.sl (p1.map Ak))), (5, iD v1), (6, bD v4.1), (7, iD v4.2)] []) (fun v5 => mk [(0, pD (.sl (p0.map Ak))), (1, pD (.sl (p1.map Ak))), (5, iD v1), (6, bD v5)] []) (fun _ _ => rfl) (sm [] _ _ rfl rfl) (fun j4 n4 v4 h => ?_) (fun v5 s h hs => ?_)
   ·unfold ES at h
    refine wp rfl (qw 2 rfl (AJ As rfl (AV rfl (Ab ?_))))
    refine A8 h (fun h => ?_) fun h => ?_
    ·refine Ai ?_
     refine AR h (fun v7 => mk [(0, pD (.sl (p0.map Ak))), (1, pD (.sl (p1.map Ak))), (5, iD v1), (6, bD v7), (7, iD v4.2)] []) (fun j7 h => ?_) (fun v7 h => ?_)
     ·refine AH (Ag Av rfl (qw 2 rfl ?_))
      refine Ey 21 h rfl (fun h => ?_) fun h => ?_
      ·refine qw 9 rfl (qp rfl (qa rfl (AL (by kernel_rfl) ?_)))
       exact sn [] h
      ·refine qw 2 rfl ?_
       refine BD h fun v9 a9 b9 h => qi As Cy a9 (Af b9) rfl (qk BV rfl (qw 2 rfl ?_))
       refine BD h fun v10 a10 b10 h => qi As Cy a10 (Af b10) rfl (qk BV rfl (Cf rfl (qp rfl (qa rfl (AL (by kernel_rfl) ?_)))))
       exact sn [] h
     ·refine Ag Av rfl (qm rfl (AX rfl (qe rfl ?_)))
      exact sn [] h
    ·refine AS ?_
     exact sn [] h
   ·refine Ae hs (wq rfl (qm rfl (Cm rfl (Ab ?_))))
    refine A8 h (fun h => ?_) fun h => ?_
    ·refine wq rfl (qe rfl ?_)
     obtain rfl := sj h
     refine Ae (sm [] [(4, bD false)] [] rfl rfl) (Ar ?_)
     exact ⟨⟨[_], tm, rfl⟩, tv⟩
    ·refine Ai (Ag Av rfl (qm rfl (AX rfl (qe rfl ?_))))
     exact sn [] h
  ·refine AS ?_
   exact sn [] h
 ·refine Ae hs (wq rfl (qe rfl ?_))
  obtain rfl := sj h
  refine Ae (sm [] [(4, bD true)] [] rfl rfl) (Ar ?_)
  exact ⟨⟨[_], tm, rfl⟩, tv⟩
theorem MS (N : Nat) (p0 : Aa) (r : (List (List Int)) × Int) (h : Es N p0 = some r) : Ao zA0 16 [.e (.agg (Ah p0))] [(1, r.1.map (EP Ak))] (.tup [.one (.own 0), .one (iC r.2)]) := by
 unfold Es at h
 refine cw (n := 65) (rs := [.tmp 2, .tmp 3]) Tryz.func16 fun w0 S0 => ?_
 refine wq rfl (qb rfl (qa rfl (qa rfl (Ab (wq rfl (qL CU BY rfl ?_))))))
 refine BP h fun v1 a1 h => Ax [2001, 2002] (KS N p0 v1 a1) dq rfl (qm rfl (qx rfl (qx rfl (qx rfl (qa rfl (qa rfl (qa rfl (Ab (wq rfl (qa rfl (Ab (wp rfl (qe rfl ?_)))))))))))))
 refine AE (L := Eo N v1) h (fun v2 => mk [(4, oD (.own 2003)), (5, oD (.own 2004)), (6, iD v1.2.2), (7, oD (.own 2005)), (8, iD v2.2)] [(2003, .vec 1 (v1.1.map (EP Ak))), (2004, .vec 1 (v1.2.1.map eB)), (2005, .vec 1 (v2.1.map (EP Ak)))]) (fun v3 => mk [(6, iD v1.2.2), (7, oD (.own 2006))] [(2006, .vec 1 (v3.map (EP Ak)))]) (fun _ _ => rfl) ((AU 7 2022 1 rfl rfl rfl).trans (sm [(2003, 2001), (2004, 2002), (2005, 2022)] _ _ rfl rfl)) (fun j2 n2 v2 h => ?_) (fun v3 s h hs => ?_)
 ·unfold Eo at h
  refine wp rfl (qw 2 rfl (EL Fq rfl (AV rfl (Ab ?_))))
  refine A8 h (fun h => ?_) fun h => ?_
  ·refine Ai ?_
   refine AR h (fun v5 => mk [(4, oD (.own 2007)), (5, oD (.own 2008)), (6, iD v1.2.2), (7, oD (.own 2009)), (8, iD v2.2)] [(2007, .vec 1 (v1.1.map (EP Ak))), (2008, .vec 1 (v1.2.1.map eB)), (2009, .vec 1 (v5.map (EP Ak)))]) (fun j5 h => ?_) (fun v5 h => ?_)
   ·refine AH (wq rfl (qw 2 rfl ?_))
    refine BD h fun v6 a6 b6 h => qI EN N7 a6 (Af b6) rfl (qj Sf (Af b6) rfl (Cm rfl (qa rfl (Ab (wp rfl (qe rfl ?_))))))
    refine AE (L := Fk N v1 v2) h (fun v7 => mk [(4, oD (.own 2010)), (5, oD (.own 2011)), (6, iD v1.2.2), (7, oD (.own 2012)), (8, iD v2.2), (9, bD v7.1), (10, iD v7.2)] [(2010, .vec 1 (v1.1.map (EP Ak))), (2011, .vec 1 (v1.2.1.map eB)), (2012, .vec 1 (v2.1.map (EP Ak)))]) (fun v8 => mk [(4, oD (.own 2013)), (5, oD (.own 2014)), (6, iD v1.2.2), (7, oD (.own 2015)), (8, iD v2.2), (9, bD v8)] [(2013, .vec 1 (v1.1.map (EP Ak))), (2014, .vec 1 (v1.2.1.map eB)), (2015, .vec 1 (v2.1.map (EP Ak)))]) (fun _ _ => rfl) (sm [(2010, 2003), (2011, 2004), (2012, 2005)] _ _ rfl rfl) (fun j7 n7 v7 h => ?_) (fun v8 s h hs => ?_)
    ·unfold Fk at h
     refine wp rfl (qw 2 rfl (EL Fq rfl (AV rfl (Ab ?_))))
     refine A8 h (fun h => ?_) fun h => ?_
     ·refine Ai ?_
      refine AR h (fun v10 => mk [(4, oD (.own 2016)), (5, oD (.own 2017)), (6, iD v1.2.2), (7, oD (.own 2018)), (8, iD v2.2), (9, bD v10), (10, iD v7.2)] [(2016, .vec 1 (v1.1.map (EP Ak))), (2017, .vec 1 (v1.2.1.map eB)), (2018, .vec 1 (v2.1.map (EP Ak)))]) (fun j10 h => ?_) (fun v10 h => ?_)
      ·refine AH ?_
       refine AR h (fun v11 => mk [(4, oD (.own 2019)), (5, oD (.own 2020)), (6, iD v1.2.2), (7, oD (.own 2021)), (8, iD v2.2), (9, bD v7.1), (10, iD v7.2), (54, bD v11)] [(2019, .vec 1 (v1.1.map (EP Ak))), (2020, .vec 1 (v1.2.1.map eB)), (2021, .vec 1 (v2.1.map (EP Ak)))]) (fun j11 h => ?_) (fun v11 h => ?_)
       ·refine Ag Av rfl (qw 2 rfl ?_)
        refine BD h fun v12 a12 b12 h => qI EN N7 a12 (Af b12) rfl (qj Sf (Af b12) rfl (Cm rfl (qm rfl ?_)))
        refine Ey 39 h rfl (fun h => ?_) fun h => ?_
        ·refine qw 2 rfl (Bp rfl (qp rfl (qm rfl ?_)))
         refine Ey 44 h rfl (fun h => ?_) fun h => ?_
         ·refine qw 2 rfl ?_
          refine BD h fun v15 a15 b15 h => qI Fq GZ a15 (Af b15) rfl (qj A1 (Af b15) rfl (qw 2 rfl ?_))
          refine BD h fun v16 a16 b16 h => qI Fq GZ a16 (Af b16) rfl (qj A1 (Af b16) rfl ?_)
          refine BP h fun v17 a17 h => Ax [] (LI N v15 v16 v17 a17) dF rfl (qp rfl (AL (by kernel_rfl) ?_))
          exact sn [(2019, 2010), (2020, 2011), (2021, 2012)] h
         ·refine qw 9 rfl (qp rfl (AL (by kernel_rfl) ?_))
          exact sn [(2019, 2010), (2020, 2011), (2021, 2012)] h
        ·refine qw 3 rfl (qp rfl (qw 10 rfl (qp rfl (AL (by kernel_rfl) ?_))))
         exact sn [(2019, 2010), (2020, 2011), (2021, 2012)] h
       ·refine A8 h (fun h => ?_) fun h => ?_
        ·refine Ag Av rfl (qe rfl ?_)
         exact sn [(2016, 2019), (2017, 2020), (2018, 2021)] h
        ·refine Ai ?_
         exact sn [(2016, 2019), (2017, 2020), (2018, 2021)] h
      ·refine Ag Av rfl (qm rfl (AX rfl (qe rfl ?_)))
       exact sn [(2010, 2016), (2011, 2017), (2012, 2018)] h
     ·refine AS ?_
      exact sn [(2013, 2010), (2014, 2011), (2015, 2012)] h
    ·refine Ae hs (wq rfl (qm rfl (Ab ?_)))
     refine A8 h (fun h => ?_) fun h => ?_
     ·refine Ag Av rfl (qw 3 rfl ?_)
      refine BD h fun v20 a20 b20 h => qI Fq GZ a20 (Af b20) rfl (qj A1 (Af b20) rfl (Di Fq GZ Tg rfl ?_))
      refine FI h fun c21 h => Ck (f := (EP Ak)) Fq Fq GZ Xt Tg c21 rfl (qe rfl ?_)
      exact sn [(2007, 2013), (2008, 2014), (2009, 62)] h
     ·refine Ai ?_
      exact sn [(2007, 2013), (2008, 2014), (2009, 2015)] h
   ·refine Ag Av rfl (qm rfl (AX rfl (qe rfl ?_)))
    exact sn [(2003, 2007), (2004, 2008), (2005, 2009)] h
  ·refine AS ?_
   exact sn [(2006, 2005)] h
 ·refine Ae hs (wq rfl (qw 2 rfl (qa rfl (qe rfl ?_))))
  obtain rfl := sj h
  refine Ae (sm [(1000, 2006)] [(2, oD (.own 1000)), (3, iD v1.2.2)] [(1000, .vec 1 (v3.map (EP Ak)))] rfl rfl) (Ar ?_)
  exact ⟨⟨[_, _], ⟨.tmp _ _ rfl, tm⟩, rfl⟩, ⟨rfl, tv⟩⟩
theorem K9 (N : Nat) (p0 : BG) (r : Bool) (h : D6 N p0 = some r) : Ao zA0 4 [.e (.agg (CW p0))] [] (bD r) := by
 unfold D6 at h
 refine cw (n := 39) (rs := [.tmp 2]) Tryz.func4 fun w0 S0 => ?_
 refine wq rfl (qb rfl (qa rfl (Ab (wq rfl (qL bN cY rfl ?_)))))
 refine BP h fun v1 a1 h => Ax [2001, 2002, 2003, 2004] (Ob N p0 v1 a1) ez rfl (qm rfl (qx rfl (qx rfl (qz Km rfl (qs BY rfl (qa rfl (Ab (AN ?_))))))))
 refine AR h (fun v2 => mk [(3, oD (.ptr 3 0)), (19, bD v2)] [(3, .box [.own 2005, .own 2006, .own 2007, .own 2008]), (2005, .vec 1 (v1.1.fa.map Ak)), (2006, .vec 1 (v1.1.fi.map Ak)), (2007, .vec 1 (v1.1.fm.map Ak)), (2008, .vec 6 (v1.1.fc.map AM))]) (fun j2 h => ?_) (fun v2 h => ?_)
 ·refine Ag Av rfl ?_
  refine BP h fun v3 a3 h => Ax [] (Jh N v3 a3) cj rfl (Cm rfl (qm rfl ?_))
  refine Ey 16 h rfl (fun h => ?_) fun h => ?_
  ·refine qw 2 rfl (qp rfl (Ab ?_))
   exact sn [(2005, 2001), (2006, 2002), (2007, 2003), (2008, 2004)] h
  ·refine qm rfl (Cm rfl (qp rfl (Ab ?_)))
   exact sn [(2005, 2001), (2006, 2002), (2007, 2003), (2008, 2004)] h
 ·refine A8 h (fun h => ?_) fun h => ?_
  ·refine wq rfl ?_
   refine BP h fun v6 a6 h => Ax [] (Jh N v6 a6) cj rfl (qe rfl ?_)
   obtain rfl := sj h
   refine Ae (sm [] [(2, bD v6)] [] rfl rfl) (Ar ?_)
   exact ⟨⟨[_], tm, rfl⟩, tv⟩
  ·refine Ai (wq rfl (qL CU BY rfl (CY (A9 2005 _ _ rfl rfl) (CY (A9 2006 _ _ rfl rfl) (CY (A9 2007 _ _ rfl rfl) (CY (A9 2008 _ _ rfl rfl) ?_))))))
   refine BP h fun v7 a7 h => Ax [2009] (OB N v1.1 v7 a7) bI rfl (qm rfl (qx rfl (qx rfl (qa rfl (qa rfl (Ab (wq rfl (qL CU BY rfl ?_))))))))
   refine BP h fun v8 a8 h => Ax [2010] (MS N v1.1 v8 a8) d7 rfl (qm rfl (qx rfl (qx rfl (qa rfl (qe rfl ?_)))))
   refine AR h (fun v9 => mk [(2, bD v9)] []) (fun j9 h => ?_) (fun v9 h => ?_)
   ·refine Ag Av rfl (qw 2 rfl (Cf rfl (qm rfl ?_)))
    refine Ey 34 h rfl (fun h => ?_) fun h => ?_
    ·refine qw 2 rfl ?_
     refine BP h fun v11 a11 h => D0 [] [2009, 2010] (Hu N v7.1 v8.1 v11 a11) Z6 Cn rfl (qp rfl (qe rfl ?_))
     exact sn [] h
    ·refine qw 3 rfl (qp rfl (qe rfl ?_))
     exact sn [] h
   ·obtain rfl := sj h
    refine Ae (sm [] [(2, bD v9)] [] rfl rfl) (Ar ?_)
    exact ⟨⟨[_], tm, rfl⟩, tv⟩
end Go.Lift
