/- Lemmas for ReachWalkSaid, which YtfnobkfnohhmmaaGreatFinW5 proves. -/
import Derived.Test.YtfnobkfnohhmmaaGreatSh
import Derived.Test.YtfnobkfnohhmmaaGreatProg
import Derived.KernelRfl
/- That the code does what the shallow programs do, function by function. Written by a program (gen.py). -/
namespace Go.Lift
open Go.RowKit
open Go.Proofs
theorem Ac : Tryz.prog.follows .mixedOrders = true := by kernel_rfl
theorem K3 : E6 Tryz.prog 100 false = true := by kernel_rfl
theorem Qu : E6 Tryz.prog 113 true = true := by kernel_rfl
theorem M3 : E6 Tryz.prog 144 false = true := by kernel_rfl
theorem RB : E6 Tryz.prog 22 false = true := by kernel_rfl
theorem Un : E6 Tryz.prog 23 false = true := by kernel_rfl
theorem W5 : E6 Tryz.prog 25 true = true := by kernel_rfl
theorem Be : E6 Tryz.prog 27 false = true := by kernel_rfl
theorem GZ : E6 Tryz.prog 28 false = true := by kernel_rfl
theorem Cz : E6 Tryz.prog 3 false = true := by kernel_rfl
theorem D4 : E6 Tryz.prog 30 true = true := by kernel_rfl
theorem QS : E6 Tryz.prog 4 false = true := by kernel_rfl
theorem Ht : E6 Tryz.prog 40 true = true := by kernel_rfl
theorem G6 : E6 Tryz.prog 48 false = true := by kernel_rfl
theorem US : E6 Tryz.prog 5 false = true := by kernel_rfl
theorem A1 : E6 Tryz.prog 50 true = true := by kernel_rfl
theorem VO : E6 Tryz.prog 71 false = true := by kernel_rfl
theorem Wt : E6 Tryz.prog 73 true = true := by kernel_rfl
theorem JB : E6 Tryz.prog 74 false = true := by kernel_rfl
theorem Hj : E6 Tryz.prog 76 true = true := by kernel_rfl
theorem Ju : E6 Tryz.prog 97 false = true := by kernel_rfl
theorem Xa : Oa Tryz.prog 4 = true := by kernel_rfl
theorem Vu : OB Tryz.prog 22 = true := by kernel_rfl
theorem Ux : FV Tryz.prog 100 24 = true := by kernel_rfl
theorem Ov : FV Tryz.prog 113 24 = true := by kernel_rfl
theorem L2 : FV Tryz.prog 3 8 = true := by kernel_rfl
theorem Ui : FV Tryz.prog 4 1 = true := by kernel_rfl
theorem LI : FV Tryz.prog 40 24 = true := by kernel_rfl
theorem Ul : FV Tryz.prog 5 1 = true := by kernel_rfl
theorem NU : FV Tryz.prog 50 72 = true := by kernel_rfl
theorem V8 : FV Tryz.prog 76 80 = true := by kernel_rfl
theorem PM : FV Tryz.prog 97 1 = true := by kernel_rfl
theorem Ou : DA Tryz.prog 25 0 0 = true := by kernel_rfl
theorem Tb : DA Tryz.prog 25 1 1 = true := by kernel_rfl
theorem Tz : DA Tryz.prog 25 2 2 = true := by kernel_rfl
theorem On : DA Tryz.prog 25 3 3 = true := by kernel_rfl
theorem Bu : DA Tryz.prog 30 0 0 = true := by kernel_rfl
theorem Gy : DA Tryz.prog 30 1 1 = true := by kernel_rfl
theorem Ji : DA Tryz.prog 30 2 2 = true := by kernel_rfl
theorem CS : DA Tryz.prog 30 3 3 = true := by kernel_rfl
theorem Fr : DA Tryz.prog 40 0 0 = true := by kernel_rfl
theorem EU : DA Tryz.prog 40 1 1 = true := by kernel_rfl
theorem GB : DA Tryz.prog 40 2 2 = true := by kernel_rfl
theorem Db : DA Tryz.prog 50 0 0 = true := by kernel_rfl
theorem BG : DA Tryz.prog 50 1 1 = true := by kernel_rfl
theorem CT : DA Tryz.prog 50 2 2 = true := by kernel_rfl
theorem SZ : DA Tryz.prog 73 0 0 = true := by kernel_rfl
theorem SS : DA Tryz.prog 73 1 1 = true := by kernel_rfl
theorem SX : DA Tryz.prog 73 2 2 = true := by kernel_rfl
theorem Ty : DA Tryz.prog 73 3 3 = true := by kernel_rfl
theorem S7 : DA Tryz.prog 73 4 4 = true := by kernel_rfl
theorem TQ : DA Tryz.prog 73 5 5 = true := by kernel_rfl
theorem FK : DA Tryz.prog 76 0 0 = true := by kernel_rfl
theorem De : DA Tryz.prog 76 1 1 = true := by kernel_rfl
theorem HY : DA Tryz.prog 76 2 2 = true := by kernel_rfl
theorem Iz : DA Tryz.prog 76 3 3 = true := by kernel_rfl
theorem Ja : DA Tryz.prog 76 4 4 = true := by kernel_rfl
theorem GC : DA Tryz.prog 76 5 5 = true := by kernel_rfl
theorem Vg : AL Tryz.prog 10 = true := by kernel_rfl
theorem Qw : AL Tryz.prog 100 = true := by kernel_rfl
theorem V1 : AL Tryz.prog 101 = true := by kernel_rfl
theorem V2 : AL Tryz.prog 102 = true := by kernel_rfl
theorem Vo : AL Tryz.prog 103 = true := by kernel_rfl
theorem VV : AL Tryz.prog 104 = true := by kernel_rfl
theorem Ub : AL Tryz.prog 105 = true := by kernel_rfl
theorem V6 : AL Tryz.prog 106 = true := by kernel_rfl
theorem Vl : AL Tryz.prog 107 = true := by kernel_rfl
theorem R9 : AL Tryz.prog 108 = true := by kernel_rfl
theorem T9 : AL Tryz.prog 109 = true := by kernel_rfl
theorem Wh : AL Tryz.prog 11 = true := by kernel_rfl
theorem TV : AL Tryz.prog 110 = true := by kernel_rfl
theorem Uc : AL Tryz.prog 111 = true := by kernel_rfl
theorem V5 : AL Tryz.prog 112 = true := by kernel_rfl
theorem Vs : AL Tryz.prog 113 = true := by kernel_rfl
theorem Vp : AL Tryz.prog 114 = true := by kernel_rfl
theorem Vj : AL Tryz.prog 115 = true := by kernel_rfl
theorem TY : AL Tryz.prog 116 = true := by kernel_rfl
theorem VQ : AL Tryz.prog 117 = true := by kernel_rfl
theorem Vk : AL Tryz.prog 118 = true := by kernel_rfl
theorem Se : AL Tryz.prog 119 = true := by kernel_rfl
theorem T3 : AL Tryz.prog 120 = true := by kernel_rfl
theorem U6 : AL Tryz.prog 121 = true := by kernel_rfl
theorem VI : AL Tryz.prog 122 = true := by kernel_rfl
theorem Vf : AL Tryz.prog 123 = true := by kernel_rfl
theorem Vx : AL Tryz.prog 124 = true := by kernel_rfl
theorem Vz : AL Tryz.prog 125 = true := by kernel_rfl
theorem VK : AL Tryz.prog 126 = true := by kernel_rfl
theorem U0 : AL Tryz.prog 14 = true := by kernel_rfl
theorem VP : AL Tryz.prog 18 = true := by kernel_rfl
theorem Uh : AL Tryz.prog 19 = true := by kernel_rfl
theorem V4 : AL Tryz.prog 20 = true := by kernel_rfl
theorem Wm : AL Tryz.prog 21 = true := by kernel_rfl
theorem Wp : AL Tryz.prog 22 = true := by kernel_rfl
theorem WL : AL Tryz.prog 23 = true := by kernel_rfl
theorem VZ : AL Tryz.prog 24 = true := by kernel_rfl
theorem WZ : AL Tryz.prog 26 = true := by kernel_rfl
theorem Uv : AL Tryz.prog 27 = true := by kernel_rfl
theorem VF : AL Tryz.prog 32 = true := by kernel_rfl
theorem ON : AL Tryz.prog 33 = true := by kernel_rfl
theorem Vi : AL Tryz.prog 34 = true := by kernel_rfl
theorem Ru : AL Tryz.prog 35 = true := by kernel_rfl
theorem VL : AL Tryz.prog 36 = true := by kernel_rfl
theorem V3 : AL Tryz.prog 37 = true := by kernel_rfl
theorem Vc : AL Tryz.prog 38 = true := by kernel_rfl
theorem Us : AL Tryz.prog 39 = true := by kernel_rfl
theorem WD : AL Tryz.prog 40 = true := by kernel_rfl
theorem Wz : AL Tryz.prog 41 = true := by kernel_rfl
theorem W8 : AL Tryz.prog 43 = true := by kernel_rfl
theorem Uk : AL Tryz.prog 45 = true := by kernel_rfl
theorem WW : AL Tryz.prog 46 = true := by kernel_rfl
theorem VM : AL Tryz.prog 47 = true := by kernel_rfl
theorem Uz : AL Tryz.prog 48 = true := by kernel_rfl
theorem VB : AL Tryz.prog 49 = true := by kernel_rfl
theorem Vh : AL Tryz.prog 50 = true := by kernel_rfl
theorem WR : AL Tryz.prog 51 = true := by kernel_rfl
theorem RZ : AL Tryz.prog 52 = true := by kernel_rfl
theorem Tk : AL Tryz.prog 53 = true := by kernel_rfl
theorem VE : AL Tryz.prog 55 = true := by kernel_rfl
theorem WG : AL Tryz.prog 56 = true := by kernel_rfl
theorem TF : AL Tryz.prog 57 = true := by kernel_rfl
theorem Rm : AL Tryz.prog 58 = true := by kernel_rfl
theorem V7 : AL Tryz.prog 59 = true := by kernel_rfl
theorem Uu : AL Tryz.prog 60 = true := by kernel_rfl
theorem VU : AL Tryz.prog 61 = true := by kernel_rfl
theorem Wq : AL Tryz.prog 62 = true := by kernel_rfl
theorem Vd : AL Tryz.prog 63 = true := by kernel_rfl
theorem Wr : AL Tryz.prog 64 = true := by kernel_rfl
theorem Wi : AL Tryz.prog 65 = true := by kernel_rfl
theorem Wl : AL Tryz.prog 66 = true := by kernel_rfl
theorem WY : AL Tryz.prog 67 = true := by kernel_rfl
theorem WV : AL Tryz.prog 68 = true := by kernel_rfl
theorem WS : AL Tryz.prog 69 = true := by kernel_rfl
theorem W2 : AL Tryz.prog 70 = true := by kernel_rfl
theorem WK : AL Tryz.prog 71 = true := by kernel_rfl
theorem Wo : AL Tryz.prog 72 = true := by kernel_rfl
theorem VH : AL Tryz.prog 75 = true := by kernel_rfl
theorem Wj : AL Tryz.prog 76 = true := by kernel_rfl
theorem UO : AL Tryz.prog 77 = true := by kernel_rfl
theorem U8 : AL Tryz.prog 78 = true := by kernel_rfl
theorem U5 : AL Tryz.prog 79 = true := by kernel_rfl
theorem Up : AL Tryz.prog 80 = true := by kernel_rfl
theorem Ws : AL Tryz.prog 81 = true := by kernel_rfl
theorem WH : AL Tryz.prog 82 = true := by kernel_rfl
theorem W6 : AL Tryz.prog 83 = true := by kernel_rfl
theorem Wy : AL Tryz.prog 84 = true := by kernel_rfl
theorem Wv : AL Tryz.prog 85 = true := by kernel_rfl
theorem WM : AL Tryz.prog 86 = true := by kernel_rfl
theorem WE : AL Tryz.prog 87 = true := by kernel_rfl
theorem Wx : AL Tryz.prog 88 = true := by kernel_rfl
theorem WQ : AL Tryz.prog 89 = true := by kernel_rfl
theorem W9 : AL Tryz.prog 9 = true := by kernel_rfl
theorem WJ : AL Tryz.prog 90 = true := by kernel_rfl
theorem WO : AL Tryz.prog 91 = true := by kernel_rfl
theorem Wk : AL Tryz.prog 92 = true := by kernel_rfl
theorem W7 : AL Tryz.prog 93 = true := by kernel_rfl
theorem Ww : AL Tryz.prog 94 = true := by kernel_rfl
theorem WX : AL Tryz.prog 95 = true := by kernel_rfl
theorem WT : AL Tryz.prog 96 = true := by kernel_rfl
theorem Wu : AL Tryz.prog 97 = true := by kernel_rfl
theorem VG : AL Tryz.prog 98 = true := by kernel_rfl
theorem U4 : AL Tryz.prog 99 = true := by kernel_rfl
theorem N5 : MT Tryz.prog 106 .u64 = true := by kernel_rfl
theorem Pe : MT Tryz.prog 131 .u32 = true := by kernel_rfl
theorem T1 : MT Tryz.prog 133 .u64 = true := by kernel_rfl
theorem Vw : MT Tryz.prog 144 .u64 = true := by kernel_rfl
theorem Ri : MT Tryz.prog 3 .i64 = true := by kernel_rfl
theorem Wf : MT Tryz.prog 5 .u8 = true := by kernel_rfl
theorem Uj : Tryz.prog.underlying 9 = some .string := by kernel_rfl
theorem QB : Tryz.prog.underlying 93 = some (.map 9 4) := by kernel_rfl
theorem NR : Ix Tryz.prog 113 = some [(0, 1), (1, 1), (2, 1)] := by kernel_rfl
theorem U2 : Ix Tryz.prog 30 = some [(0, 1), (1, 1), (2, 1), (3, 1)] := by kernel_rfl
theorem RQ : Ix Tryz.prog 40 = some [(0, 1), (1, 1), (2, 1)] := by kernel_rfl
theorem HL : Ix Tryz.prog 50 = some [(0, 1), (1, 1), (2, 1)] := by kernel_rfl
theorem VT : Ix Tryz.prog 76 = some [(0, 1), (1, 1), (2, 1), (3, 1), (4, 1), (5, 1)] := by kernel_rfl
theorem U9 : Tv Tryz.prog 40 = some [0, 0, 0] := by kernel_rfl
theorem E5 : sliceB Tryz.prog 100 4 = true := by kernel_rfl
theorem GD : sliceB Tryz.prog 116 113 = true := by kernel_rfl
theorem Gw : sliceB Tryz.prog 22 5 = true := by kernel_rfl
theorem R7 : sliceB Tryz.prog 23 73 = true := by kernel_rfl
theorem CL : sliceB Tryz.prog 26 40 = true := by kernel_rfl
theorem AI : sliceB Tryz.prog 27 3 = true := by kernel_rfl
theorem D9 : sliceB Tryz.prog 28 76 = true := by kernel_rfl
theorem AP : sliceB Tryz.prog 34 50 = true := by kernel_rfl
theorem Dm : sliceB Tryz.prog 48 97 = true := by kernel_rfl
theorem Gf : sliceB Tryz.prog 74 100 = true := by kernel_rfl
theorem O8 : (Tryz.prog.underlying 106).isSome = true := by kernel_rfl
theorem Pj : (Tryz.prog.underlying 131).isSome = true := by kernel_rfl
theorem RS : (Tryz.prog.underlying 133).isSome = true := by kernel_rfl
theorem UR : (Tryz.prog.underlying 3).isSome = true := by kernel_rfl
theorem SP : (Tryz.prog.underlying 5).isSome = true := by kernel_rfl
theorem TJ : N7 Tryz.prog 9 = true := by kernel_rfl
theorem Jq : HE Tryz.prog 100 1 = true := by kernel_rfl
theorem HD : HE Tryz.prog 113 3 = true := by kernel_rfl
theorem QR : HE Tryz.prog 144 1 = true := by kernel_rfl
theorem W1 : HE Tryz.prog 25 4 = true := by kernel_rfl
theorem RW : HE Tryz.prog 27 1 = true := by kernel_rfl
theorem W4 : HE Tryz.prog 28 1 = true := by kernel_rfl
theorem DP : HE Tryz.prog 3 1 = true := by kernel_rfl
theorem DQ : HE Tryz.prog 30 4 = true := by kernel_rfl
theorem Ph : HE Tryz.prog 4 1 = true := by kernel_rfl
theorem DE : HE Tryz.prog 40 3 = true := by kernel_rfl
theorem Wn : HE Tryz.prog 48 1 = true := by kernel_rfl
theorem R2 : HE Tryz.prog 5 1 = true := by kernel_rfl
theorem Ax : HE Tryz.prog 50 3 = true := by kernel_rfl
theorem UH : HE Tryz.prog 73 6 = true := by kernel_rfl
theorem VA : HE Tryz.prog 74 1 = true := by kernel_rfl
theorem D8 : HE Tryz.prog 76 6 = true := by kernel_rfl
theorem FG : HE Tryz.prog 97 1 = true := by kernel_rfl
theorem SI : EQ Tryz.prog 100 = some (.slice none 0 0) := by kernel_rfl
theorem HP : EQ Tryz.prog 113 = some (.agg #[.int .i64 0, .int .i64 0, .int .i64 0]) := by kernel_rfl
theorem Vb : EQ Tryz.prog 144 = some (.int .u64 0) := by kernel_rfl
theorem KI : EQ Tryz.prog 3 = some (.int .i64 0) := by kernel_rfl
theorem Ra : EQ Tryz.prog 30 = some (.agg #[.slice none 0 0, .slice none 0 0, .slice none 0 0, .slice none 0 0]) := by kernel_rfl
theorem SW : EQ Tryz.prog 4 = some (.bool false) := by kernel_rfl
theorem Hi : EQ Tryz.prog 40 = some (.agg #[.int .i64 0, .int .i64 0, .int .i64 0]) := by kernel_rfl
theorem UE : EQ Tryz.prog 5 = some (.int .u8 0) := by kernel_rfl
theorem CX : EQ Tryz.prog 50 = some (.agg #[.slice none 0 0, .slice none 0 0, .slice none 0 0]) := by kernel_rfl
theorem WB : EQ Tryz.prog 73 = some (.agg #[.int .u8 0, .int .u8 0, .int .u8 0, .bool false, .int .u16 0, .int .u16 0]) := by kernel_rfl
theorem J4 : EQ Tryz.prog 76 = some (.agg #[.int .i64 0, .int .i64 0, .int .i64 0, .bool false, .slice none 0 0, .slice none 0 0]) := by kernel_rfl
theorem Oi : EQ Tryz.prog 97 = some (.int .u8 0) := by kernel_rfl
end Go.Lift

/- That the code does what the shallow programs do, function by function. Written by a program (gen.py). -/
namespace Go.Lift
open Go.RowKit
open Go.Proofs
set_option maxRecDepth 10000 in
theorem Ia (N : Nat) (p0 : List Int) (p1 : Int) (r : Int) (h : DW N p0 p1 = some r) : AC Tryz.prog 32 [.e (.one (.pure (.sl (p0.map Bb)))), .e (.one (.pure (.val (.int .i64 p1))))] [] (.e (.one (.pure (.val (.int .i64 r))))) := by
 unfold DW at h
 refine As (n := 14) (rs := [.tmp 4]) Tryz.func32 rfl rfl rfl (A5 rfl) (A5 rfl) rfl fun w0 S0 => ?_
 refine Ab (Aa Ac rfl (qa rfl (Ad (Ab (Ab (Aa Ac rfl (qm rfl (qm rfl (AZ Gw rfl (A2 rfl (Ad ?_)))))))))))
 refine Ap rfl (fun c1 => ?_) (fun c1 => ?_)
 ·have h := Am c1 h
  refine Ab (Aa Ac rfl (qm rfl (qm rfl ?_)))
  obtain ⟨v2, a2, b2, h⟩ := Aj h
  refine qi Gw R2 a2 (Ah b2) rfl (qk US rfl (GT SP Ri rfl (qa rfl (Ad ?_))))
  obtain rfl := sj h
  refine Al (sm [] [(4, .e (.one (.pure (.val (.int .i64 ((IntKind.wrap .i64 v2)))))))] [] rfl rfl) (Az ?_)
  exact ⟨⟨[_], ⟨.tmp _ _ rfl, trivial⟩, rfl⟩, trivial⟩
 ·have h := An c1 h
  refine Ar (Ab (Aa Ac rfl (qa rfl (Ad ?_))))
  obtain rfl := sj h
  refine Al (sm [] [(4, .e (.one (.pure (.val (.int .i64 0)))))] [] rfl rfl) (Az ?_)
  exact ⟨⟨[_], ⟨.tmp _ _ rfl, trivial⟩, rfl⟩, trivial⟩
set_option maxRecDepth 10000 in
theorem Cg (N : Nat) (p0 : AF) (r : Bool) (h : A6 N p0 = some r) : AC Tryz.prog 33 [.e (.agg [.pure (.val (.int .i64 p0.fKind)), .pure (.val (.int .i64 p0.fFrom)), .pure (.val (.int .i64 p0.fTo)), .pure (.val (.bool p0.fAware)), .pure (.sl (p0.fOK.map (ER eB))), .pure (.sl (p0.fRewrite.map (ER eB)))])] [] (.e (.one (.pure (.val (.bool r))))) := by
 unfold A6 at h
 refine As (n := 11) (rs := [.tmp 2]) Tryz.func33 rfl rfl rfl (A5 rfl) (A5 rfl) rfl fun w0 S0 => ?_
 refine Ab (Aa Ac rfl (qb rfl (qa rfl (Ad ?_))))
 refine AO h (fun v1 => mk [(2, .e (.one (.pure (.val (.bool v1)))))] []) (fun j1 h => ?_) (fun v1 h => ?_)
 ·refine Aa Ac rfl (qf FK rfl (ql Cz rfl (BK rfl (qm rfl ?_))))
  refine AE (t := 6) rfl (fun c2 => ?_) (fun c2 => ?_)
  ·have h := Am c2 h
   refine qn rfl (qn rfl (qn rfl (qp rfl (qa rfl (Ad ?_)))))
   exact Au _ h (sm [] _ _ rfl rfl)
  ·have h := An c2 h
   refine qf FK rfl (ql Cz rfl (BK rfl (qp rfl (qa rfl (Ad ?_)))))
   exact Au _ h (sm [] _ _ rfl rfl)
 ·obtain rfl := sj h
  refine Al (sm [] [(2, .e (.one (.pure (.val (.bool v1)))))] [] rfl rfl) (Az ?_)
  exact ⟨⟨[_], ⟨.tmp _ _ rfl, trivial⟩, rfl⟩, trivial⟩
set_option maxRecDepth 10000 in
theorem Io (N : Nat) (p0 : Int) (p1 : Int) (p2 : Int) (p3 : Bool) (r : (List (List Bool))) (h : DX N p0 p1 p2 p3 = some r) : AC Tryz.prog 34 [.e (.one (.pure (.val (.int .i64 p0)))), .e (.one (.pure (.val (.int .i64 p1)))), .e (.one (.pure (.val (.int .u16 p2)))), .e (.one (.pure (.val (.bool p3))))] [(1, r.map (ER eB))] (.e (.one (.own 0))) := by
 unfold DX at h
 refine As (n := 47) (rs := [.tmp 8]) Tryz.func34 rfl rfl rfl (A5 rfl) (A5 rfl) rfl fun w0 S0 => ?_
 refine Ab (Aa Ac rfl (qa rfl (Ad (Ab (Aa Ac rfl (qa rfl (Ad (Ab (Ab (Aa Ac rfl (qa rfl (Ad ?_))))))))))))
 refine AJ (L := Co N p0 p1 p2 p3) h (fun v1 => mk [(0, .e (.one (.pure (.val (.int .i64 p0))))), (1, .e (.one (.pure (.val (.int .i64 p1))))), (2, .e (.one (.pure (.val (.int .u16 p2))))), (3, .e (.one (.pure (.val (.bool p3))))), (9, .e (.one (.own 2001))), (10, .e (.one (.pure (.val (.int .i64 v1.2)))))] [(2001, .vec 1 (v1.1.map (ER eB)))]) (fun v2 => mk [(9, .e (.one (.own 2002)))] [(2002, .vec 1 (v2.map (ER eB)))]) (fun _ _ => rfl) ((Bf 9 2010 1 rfl rfl rfl).trans (sm [(2001, 2010)] _ _ rfl rfl)) (fun j1 n1 v1 h => ?_) (fun v2 s h hs => ?_)
 ·unfold Co at h
  refine Ab (Ab (Aa Ac rfl (qm rfl (qm rfl (A2 rfl (Ad ?_))))))
  refine Ap rfl (fun c3 => ?_) (fun c3 => ?_)
  ·have h := Am c3 h
   refine Ar (Ab (AN (Ab (Aa Ac rfl (qa rfl (Ad (Ab (Ab (Aa Ac rfl (qa rfl (Ad ?_)))))))))))
   refine AJ (L := Cj N p1 p2 p3 v1) h (fun v4 => mk [(0, .e (.one (.pure (.val (.int .i64 p0))))), (1, .e (.one (.pure (.val (.int .i64 p1))))), (2, .e (.one (.pure (.val (.int .u16 p2))))), (3, .e (.one (.pure (.val (.bool p3))))), (9, .e (.one (.own 2003))), (10, .e (.one (.pure (.val (.int .i64 v1.2))))), (11, .e (.one (.own 2004))), (12, .e (.one (.pure (.val (.int .i64 v4.2)))))] [(2003, .vec 1 (v1.1.map (ER eB))), (2004, .vec 1 (v4.1.map eB))]) (fun v5 => mk [(0, .e (.one (.pure (.val (.int .i64 p0))))), (1, .e (.one (.pure (.val (.int .i64 p1))))), (2, .e (.one (.pure (.val (.int .u16 p2))))), (3, .e (.one (.pure (.val (.bool p3))))), (9, .e (.one (.own 2005))), (10, .e (.one (.pure (.val (.int .i64 v1.2))))), (11, .e (.one (.own 2006)))] [(2005, .vec 1 (v1.1.map (ER eB))), (2006, .vec 1 (v5.map eB))]) (fun _ _ => rfl) ((Bf 11 2009 1 rfl rfl rfl).trans (sm [(2003, 2001), (2004, 2009)] _ _ rfl rfl)) (fun j4 n4 v4 h => ?_) (fun v5 s h hs => ?_)
   ·unfold Cj at h
    refine Ab (Ab (Aa Ac rfl (qm rfl (qm rfl (A2 rfl (Ad ?_))))))
    refine Ap rfl (fun c6 => ?_) (fun c6 => ?_)
    ·have h := Am c6 h
     refine Ar ?_
     refine AO h (fun v7 => mk [(0, .e (.one (.pure (.val (.int .i64 p0))))), (1, .e (.one (.pure (.val (.int .i64 p1))))), (2, .e (.one (.pure (.val (.int .u16 p2))))), (3, .e (.one (.pure (.val (.bool p3))))), (9, .e (.one (.own 2007))), (10, .e (.one (.pure (.val (.int .i64 v1.2))))), (11, .e (.one (.own 2008))), (12, .e (.one (.pure (.val (.int .i64 v4.2)))))] [(2007, .vec 1 (v1.1.map (ER eB))), (2008, .vec 1 (v7.map eB))]) (fun j7 h => ?_) (fun v7 h => ?_)
     ·refine AN (Aa Ac rfl (qm rfl (qm rfl (qm rfl ?_))))
      refine AE (t := 25) rfl (fun c8 => ?_) (fun c8 => ?_)
      ·have h := Am c8 h
       refine qm rfl (qm rfl (BK rfl (qp rfl (qm rfl ?_))))
       refine AE (t := 30) rfl (fun c9 => ?_) (fun c9 => ?_)
       ·have h := Am c9 h
        refine qn rfl (qn rfl (qn rfl (qn rfl (qn rfl (qn rfl (qn rfl (qn rfl (qp rfl (Ep E5 Ph SW rfl ?_)))))))))
        obtain ⟨c10, h⟩ := AK h
        refine Dw (f := eB) E5 E5 Ph Ui SW c10 rfl (qa rfl (Ad ?_))
        exact Au _ h (sm [(2007, 2003), (2008, 41)] _ _ rfl rfl)
       ·have h := An c9 h
        refine qm rfl (qm rfl (Iu rfl (qm rfl (AY rfl ?_))))
        obtain ⟨c11, h⟩ := AK h
        refine GX rfl c11 (JN rfl (by decide) (BK rfl (qp rfl (Ep E5 Ph SW rfl ?_))))
        obtain ⟨c12, h⟩ := AK h
        refine Dw (f := eB) E5 E5 Ph Ui SW c12 rfl (qa rfl (Ad ?_))
        exact Au _ h (sm [(2007, 2003), (2008, 41)] _ _ rfl rfl)
      ·have h := An c8 h
       refine qn rfl (qn rfl (qn rfl (qp rfl (qm rfl (qm rfl (qm rfl (Iu rfl (qm rfl (AY rfl ?_)))))))))
       obtain ⟨c13, h⟩ := AK h
       refine GX rfl c13 (JN rfl (by decide) (BK rfl (qp rfl (Ep E5 Ph SW rfl ?_))))
       obtain ⟨c14, h⟩ := AK h
       refine Dw (f := eB) E5 E5 Ph Ui SW c14 rfl (qa rfl (Ad ?_))
       exact Au _ h (sm [(2007, 2003), (2008, 41)] _ _ rfl rfl)
     ·refine Aa Ac rfl (qm rfl (AY rfl (qa rfl (Ad ?_))))
      exact Au _ h (sm [(2003, 2007), (2004, 2008)] _ _ rfl rfl)
    ·have h := An c6 h
     refine AX ?_
     exact Au _ h (sm [(2005, 2003), (2006, 2004)] _ _ rfl rfl)
   ·refine Al hs (Aa Ac rfl (qm rfl (qm rfl (DC (Bc 2006 _ _ rfl rfl) (Ep Gf Jq SI rfl ?_)))))
    obtain ⟨c15, h⟩ := AK h
    refine Dw (f := (ER eB)) Gf Gf Jq Ux SI c15 rfl (qa rfl (Ad (Aa Ac rfl (qm rfl (AY rfl (qa rfl (Ad ?_)))))))
    exact Au _ h (sm [(2001, 45)] _ _ rfl rfl)
  ·have h := An c3 h
   refine AX ?_
   exact Au _ h (sm [(2002, 2001)] _ _ rfl rfl)
 ·refine Al hs (Ab (Aa Ac rfl (qm rfl (qa rfl (Ad ?_)))))
  obtain rfl := sj h
  refine Al (sm [(1000, 2002)] [(8, .e (.one (.own 1000)))] [(1000, .vec 1 (v2.map (ER eB)))] rfl rfl) (Az ?_)
  exact ⟨⟨[_], ⟨.tmp _ _ rfl, trivial⟩, rfl⟩, ⟨rfl, trivial⟩⟩
set_option maxRecDepth 10000 in
theorem LC (N : Nat) (p0 : CI) (r : Ag × Bool) (h : EY N p0 = some r) : AC Tryz.prog 9 [.e (.agg [.pure (.sl (p0.fVersions.map Bb)), .pure (.sl (p0.fNow.map Bb)), .pure (.sl (p0.fTarget.map Bb)), .pure (.sl (p0.fLinks.map Cf))])] [(1, r.1.fVersions.map Ai), (1, r.1.fNow.map Ai), (1, r.1.fTarget.map Ai), (6, r.1.fTables.map Ao)] (.tup [.agg [.own 0, .own 1, .own 2, .own 3], .one (.pure (.val (.bool r.2)))]) := by
 unfold EY at h
 refine As (n := 152) (rs := [.cell 2 30, .tmp 3]) Tryz.func9 rfl rfl rfl (A5 rfl) (A5 rfl) rfl fun w0 S0 => ?_
 refine Ab (Aa Ac rfl (qb rfl (qz Ra rfl (qa rfl (Ad (Ab ?_))))))
 refine AO h (fun v1 => mk [(1, .e (.one (.ptr 1 0))), (2, .e (.one (.ptr 2 0))), (19, .e (.one (.pure (.val (.bool v1)))))] [(1, .box [.pure (.sl (p0.fVersions.map Bb)), .pure (.sl (p0.fNow.map Bb)), .pure (.sl (p0.fTarget.map Bb)), .pure (.sl (p0.fLinks.map Cf))]), (2, .box [.pure (.nil0), .pure (.nil0), .pure (.nil0), .pure (.nil0)])]) (fun j1 h => ?_) (fun v1 h => ?_)
 ·refine Aa Ac rfl (qf Ou rfl (ql RB rfl (AZ Gw rfl (Fw rfl (qm rfl ?_)))))
  refine AE (t := 14) rfl (fun c2 => ?_) (fun c2 => ?_)
  ·have h := Am c2 h
   refine qn rfl (qn rfl (qn rfl (qn rfl (qp rfl (Ad ?_)))))
   exact Au _ h (sm [] _ _ rfl rfl)
  ·have h := An c2 h
   refine qf On rfl (ql Un rfl (AZ R7 rfl (Fw rfl (qp rfl (Ad ?_)))))
   exact Au _ h (sm [] _ _ rfl rfl)
 ·refine Ap rfl (fun c3 => ?_) (fun c3 => ?_)
  ·have h := Am c3 h
   refine Ab (Aa Ac rfl (BM Ra U2 rfl (qs DQ rfl (qa rfl (Ad ?_)))))
   obtain rfl := sj h
   refine Al ((AB 2 0 2001 1 _ rfl rfl rfl rfl).trans ((AB 2 1 2002 1 _ rfl rfl rfl rfl).trans ((AB 2 2 2003 1 _ rfl rfl rfl rfl).trans ((AB 2 3 2004 6 _ rfl rfl rfl rfl).trans (sm [(1000, 2001), (1001, 2002), (1002, 2003), (1003, 2004)] [(2, .e (.one (.ptr 2 0))), (3, .e (.one (.pure (.val (.bool false)))))] [(2, .box [.own 1000, .own 1001, .own 1002, .own 1003]), (1000, .vec 1 ((([] : List Int)).map Ai)), (1001, .vec 1 ((([] : List Int)).map Ai)), (1002, .vec 1 ((([] : List Int)).map Ai)), (1003, .vec 6 ((([] : List AF)).map Ao))] rfl rfl))))) (Az ?_)
   exact ⟨⟨[_, _], ⟨.cellN _ _ _ _ _ _ _ rfl rfl D4 DQ rfl rfl (I7 rfl), ⟨.tmp _ _ rfl, trivial⟩⟩, rfl⟩, ⟨rfl, rfl, rfl, rfl, trivial⟩⟩
  ·have h := An c3 h
   refine Ar (Ab (Aa Ac rfl (qz Ra rfl (Ad (Ab (Ab (Aa Ac rfl (qa rfl (Ad ?_)))))))))
   refine AJ (L := CK N p0) h (fun v4 => mk [(1, .e (.one (.ptr 1 0))), (2, .e (.one (.ptr 2 0))), (4, .e (.one (.ptr 4 0))), (5, .e (.one (.pure (.val (.int .i64 v4.2.2.2)))))] [(1, .box [.pure (.sl (p0.fVersions.map Bb)), .pure (.sl (p0.fNow.map Bb)), .pure (.sl (p0.fTarget.map Bb)), .pure (.sl (p0.fLinks.map Cf))]), (2, .box [.pure (.nil0), .pure (.nil0), .pure (.nil0), .pure (.nil0)]), (4, .box [.own 2005, .own 2006, .own 2007, .pure (.nil0)]), (2005, .vec 1 (v4.1.map Ai)), (2006, .vec 1 (v4.2.1.map Ai)), (2007, .vec 1 (v4.2.2.1.map Ai))]) (fun v5 => mk [(1, .e (.one (.ptr 1 0))), (2, .e (.one (.ptr 2 0))), (4, .e (.one (.ptr 4 0)))] [(1, .box [.pure (.sl (p0.fVersions.map Bb)), .pure (.sl (p0.fNow.map Bb)), .pure (.sl (p0.fTarget.map Bb)), .pure (.sl (p0.fLinks.map Cf))]), (2, .box [.pure (.nil0), .pure (.nil0), .pure (.nil0), .pure (.nil0)]), (4, .box [.own 2008, .own 2009, .own 2010, .pure (.nil0)]), (2008, .vec 1 (v5.1.map Ai)), (2009, .vec 1 (v5.2.1.map Ai)), (2010, .vec 1 (v5.2.2.map Ai))]) (fun _ _ => rfl) ((AB 4 0 2011 1 _ rfl rfl rfl rfl).trans ((AB 4 1 2012 1 _ rfl rfl rfl rfl).trans ((AB 4 2 2013 1 _ rfl rfl rfl rfl).trans (sm [(2005, 2011), (2006, 2012), (2007, 2013)] _ _ rfl rfl)))) (fun j4 n4 v4 h => ?_) (fun v5 s h hs => ?_)
   ·unfold CK at h
    refine Ab (Ab (Aa Ac rfl (qm rfl (qf Ou rfl (ql RB rfl (AZ Gw rfl (A2 rfl (Ad ?_))))))))
    refine Ap rfl (fun c6 => ?_) (fun c6 => ?_)
    ·have h := Am c6 h
     refine Ar (Ab (AN (Ab (Aa Ac rfl (qf Ou rfl (ql RB rfl (qm rfl ?_)))))))
     obtain ⟨v7, a7, b7, h⟩ := Aj h
     refine qi Gw R2 a7 (Ah b7) rfl (qk US rfl (JN rfl (by decide) (GT SP Ri rfl (AY rfl (qa rfl (Ad (Ab (Aa Ac rfl (qf Bu rfl (ql Be rfl (qm rfl (Ep AI DP KI rfl ?_))))))))))))
     obtain ⟨c8, h⟩ := AK h
     refine Dw (f := Ai) AI AI DP L2 KI c8 rfl (qf Bu rfl (qs RW rfl (Ad (Ab (Aa Ac rfl (qf Gy rfl (ql Be rfl (qf Tb rfl (ql RB rfl (qm rfl ?_))))))))))
     obtain ⟨v9, a9, h⟩ := bind_some h
     refine AH [] (Ia N p0.fNow v4.2.2.2 v9 a9) VF rfl (qm rfl ?_)
     obtain ⟨c10, h⟩ := AK h
     refine JN rfl c10 (Ep AI DP KI rfl ?_)
     obtain ⟨c11, h⟩ := AK h
     refine Dw (f := Ai) AI AI DP L2 KI c11 rfl (qf Gy rfl (qs RW rfl (AM (by kernel_rfl) (Aa Ac rfl (qf Ji rfl (ql Be rfl (qf Tz rfl (ql RB rfl (qm rfl ?_)))))))))
     obtain ⟨v12, a12, h⟩ := bind_some h
     refine AH [] (Ia N p0.fTarget v4.2.2.2 v12 a12) VF rfl (qm rfl ?_)
     obtain ⟨c13, h⟩ := AK h
     refine JN rfl c13 (Ep AI DP KI rfl ?_)
     obtain ⟨c14, h⟩ := AK h
     refine Dw (f := Ai) AI AI DP L2 KI c14 rfl (qf Ji rfl (qs RW rfl (AM (by kernel_rfl) (Aa Ac rfl (qm rfl (AY rfl (qa rfl (Ad ?_))))))))
     exact Au _ h (sm [(2005, 40), (2006, 51), (2007, 62)] _ _ rfl rfl)
    ·have h := An c6 h
     refine AX ?_
     exact Au _ h (sm [(2008, 2005), (2009, 2006), (2010, 2007)] _ _ rfl rfl)
   ·refine Al hs (Ab (Ab (Aa Ac rfl (qa rfl (Ad ?_)))))
    refine AJ (L := By N p0 v5) h (fun v15 => mk [(1, .e (.one (.ptr 1 0))), (2, .e (.one (.ptr 2 0))), (4, .e (.one (.ptr 4 0))), (7, .e (.one (.pure (.val (.int .i64 v15.2)))))] [(1, .box [.pure (.sl (p0.fVersions.map Bb)), .pure (.sl (p0.fNow.map Bb)), .pure (.sl (p0.fTarget.map Bb)), .pure (.sl (p0.fLinks.map Cf))]), (2, .box [.pure (.nil0), .pure (.nil0), .pure (.nil0), .pure (.nil0)]), (4, .box [.own 2014, .own 2015, .own 2016, .own 2017]), (2014, .vec 1 (v5.1.map Ai)), (2015, .vec 1 (v5.2.1.map Ai)), (2016, .vec 1 (v5.2.2.map Ai)), (2017, .vec 6 (v15.1.map Ao))]) (fun v16 => mk [(2, .e (.one (.ptr 2 0))), (4, .e (.one (.ptr 4 0)))] [(2, .box [.pure (.nil0), .pure (.nil0), .pure (.nil0), .pure (.nil0)]), (4, .box [.own 2018, .own 2019, .own 2020, .own 2021]), (2018, .vec 1 (v5.1.map Ai)), (2019, .vec 1 (v5.2.1.map Ai)), (2020, .vec 1 (v5.2.2.map Ai)), (2021, .vec 6 (v16.map Ao))]) (fun _ _ => rfl) ((AB 4 3 2039 6 _ rfl rfl rfl rfl).trans (sm [(2014, 2008), (2015, 2009), (2016, 2010), (2017, 2039)] _ _ rfl rfl)) (fun j15 n15 v15 h => ?_) (fun v16 s h hs => ?_)
    ·unfold By at h
     refine Ab ?_
     refine AO h (fun v17 => mk [(1, .e (.one (.ptr 1 0))), (2, .e (.one (.ptr 2 0))), (4, .e (.one (.ptr 4 0))), (7, .e (.one (.pure (.val (.int .i64 v15.2))))), (74, .e (.one (.pure (.val (.bool v17)))))] [(1, .box [.pure (.sl (p0.fVersions.map Bb)), .pure (.sl (p0.fNow.map Bb)), .pure (.sl (p0.fTarget.map Bb)), .pure (.sl (p0.fLinks.map Cf))]), (2, .box [.pure (.nil0), .pure (.nil0), .pure (.nil0), .pure (.nil0)]), (4, .box [.own 2022, .own 2023, .own 2024, .own 2025]), (2022, .vec 1 (v5.1.map Ai)), (2023, .vec 1 (v5.2.1.map Ai)), (2024, .vec 1 (v5.2.2.map Ai)), (2025, .vec 6 (v15.1.map Ao))]) (fun j17 h => ?_) (fun v17 h => ?_)
     ·refine Aa Ac rfl (qm rfl (qf On rfl (ql Un rfl (AZ R7 rfl (A2 rfl (qm rfl ?_))))))
      refine AE (t := 69) rfl (fun c18 => ?_) (fun c18 => ?_)
      ·have h := Am c18 h
       refine qf Bu rfl (ql Be rfl (DU AI rfl (Fw rfl (qp rfl (Ad ?_)))))
       exact Au _ h (sm [(2022, 2014), (2023, 2015), (2024, 2016), (2025, 2017)] _ _ rfl rfl)
      ·have h := An c18 h
       refine qn rfl (qn rfl (qn rfl (qn rfl (qp rfl (Ad ?_)))))
       exact Au _ h (sm [(2022, 2014), (2023, 2015), (2024, 2016), (2025, 2017)] _ _ rfl rfl)
     ·refine Ap rfl (fun c19 => ?_) (fun c19 => ?_)
      ·have h := Am c19 h
       refine Ar (Ab (AN (Ab (Aa Ac rfl (qf On rfl (ql Un rfl (qm rfl ?_)))))))
       obtain ⟨v20, a20, b20, h⟩ := Aj h
       refine qi R7 UH a20 (Ah b20) rfl (qK Wt UH rfl (qz WB rfl (qs UH rfl (Ad (Ab (Aa Ac rfl (qf SZ rfl (ql US rfl (JN rfl (by decide) (GT SP Ri rfl (AY rfl (qf SS rfl (ql US rfl (GT SP Ri rfl (qf Bu rfl (ql Be rfl (DU AI rfl ?_)))))))))))))))))
       obtain ⟨c21, h⟩ := AK h
       refine JN rfl c21 (qf SX rfl (ql US rfl (GT SP Ri rfl (qf Bu rfl (ql Be rfl (DU AI rfl ?_))))))
       obtain ⟨c22, h⟩ := AK h
       refine JN rfl c22 (BM J4 VT rfl (qz J4 rfl (qs D8 rfl (AM (by kernel_rfl) ?_))))
       refine AO h (fun v23 => mk [(1, .e (.one (.ptr 1 0))), (2, .e (.one (.ptr 2 0))), (4, .e (.one (.ptr 4 0))), (7, .e (.one (.pure (.val (.int .i64 v15.2))))), (8, .e (.one (.ptr 8 0))), (9, .e (.one (.ptr 9 0)))] [(1, .box [.pure (.sl (p0.fVersions.map Bb)), .pure (.sl (p0.fNow.map Bb)), .pure (.sl (p0.fTarget.map Bb)), .pure (.sl (p0.fLinks.map Cf))]), (2, .box [.pure (.nil0), .pure (.nil0), .pure (.nil0), .pure (.nil0)]), (4, .box [.own 2026, .own 2027, .own 2028, .own 2029]), (8, .box [.pure (.val (.int .u8 v20.fKind)), .pure (.val (.int .u8 v20.fFrom)), .pure (.val (.int .u8 v20.fTo)), .pure (.val (.bool v20.fAware)), .pure (.val (.int .u16 v20.fBad)), .pure (.val (.int .u16 v20.fLost))]), (9, .box [.pure (.val (.int .i64 ((IntKind.wrap .i64 (1 + (IntKind.wrap .i64 ((Int.tmod v20.fKind 4)))))))), .pure (.val (.int .i64 ((Int.tmod ((IntKind.wrap .i64 v20.fFrom)) ((v5.1.length : Int)))))), .pure (.val (.int .i64 ((Int.tmod ((IntKind.wrap .i64 v20.fTo)) ((v5.1.length : Int)))))), .pure (.val (.bool v23)), .pure (.nil0), .pure (.nil0)]), (2026, .vec 1 (v5.1.map Ai)), (2027, .vec 1 (v5.2.1.map Ai)), (2028, .vec 1 (v5.2.2.map Ai)), (2029, .vec 6 (v15.1.map Ao))]) (fun j23 h => ?_) (fun v23 h => ?_)
       ·refine Aa Ac rfl (qf Ty rfl (ql QS rfl (qm rfl ?_)))
        refine AE (t := 104) rfl (fun c24 => ?_) (fun c24 => ?_)
        ·have h := Am c24 h
         refine qL Hj D8 rfl ?_
         obtain ⟨v25, a25, h⟩ := bind_some h
         refine AH [] (Cg N ((AF.mk ((IntKind.wrap .i64 (1 + (IntKind.wrap .i64 ((Int.tmod v20.fKind 4)))))) ((Int.tmod ((IntKind.wrap .i64 v20.fFrom)) ((v5.1.length : Int)))) ((Int.tmod ((IntKind.wrap .i64 v20.fTo)) ((v5.1.length : Int)))) false (([] : List (List Bool))) (([] : List (List Bool))))) v25 a25) ON rfl (Cp rfl (qp rfl (qf Iz rfl (qs Ph rfl (Ad ?_)))))
         exact Au _ h (sm [(2026, 2022), (2027, 2023), (2028, 2024), (2029, 2025)] _ _ rfl rfl)
        ·have h := An c24 h
         refine qn rfl (qn rfl (qn rfl (qp rfl (qf Iz rfl (qs Ph rfl (Ad ?_))))))
         exact Au _ h (sm [(2026, 2022), (2027, 2023), (2028, 2024), (2029, 2025)] _ _ rfl rfl)
       ·refine Ab (Aa Ac rfl (qf Bu rfl (ql Be rfl (qf De rfl (ql Cz rfl ?_)))))
        obtain ⟨v26, a26, b26, h⟩ := Aj h
        refine qI AI DP a26 (Ah b26) rfl (qj Cz (Ah b26) rfl (qf Bu rfl (ql Be rfl (qf HY rfl (ql Cz rfl ?_)))))
        obtain ⟨v27, a27, b27, h⟩ := Aj h
        refine qI AI DP a27 (Ah b27) rfl (qj Cz (Ah b27) rfl (qf S7 rfl (ql VO rfl ?_)))
        obtain ⟨v28, a28, h⟩ := bind_some h
        refine AH [2030] (Io N v26 v27 v20.fBad false v28 a28) Vi rfl (qf Ja rfl (qs VA rfl (AM (by kernel_rfl) ?_)))
        refine AO h (fun v29 => mk [(1, .e (.one (.ptr 1 0))), (2, .e (.one (.ptr 2 0))), (4, .e (.one (.ptr 4 0))), (7, .e (.one (.pure (.val (.int .i64 v15.2))))), (9, .e (.one (.ptr 9 0)))] [(1, .box [.pure (.sl (p0.fVersions.map Bb)), .pure (.sl (p0.fNow.map Bb)), .pure (.sl (p0.fTarget.map Bb)), .pure (.sl (p0.fLinks.map Cf))]), (2, .box [.pure (.nil0), .pure (.nil0), .pure (.nil0), .pure (.nil0)]), (4, .box [.own 2031, .own 2032, .own 2033, .own 2034]), (9, .box [.pure (.val (.int .i64 ((IntKind.wrap .i64 (1 + (IntKind.wrap .i64 ((Int.tmod v20.fKind 4)))))))), .pure (.val (.int .i64 ((Int.tmod ((IntKind.wrap .i64 v20.fFrom)) ((v5.1.length : Int)))))), .pure (.val (.int .i64 ((Int.tmod ((IntKind.wrap .i64 v20.fTo)) ((v5.1.length : Int)))))), .pure (.val (.bool v23)), .own 2035, .own 2036]), (2031, .vec 1 (v5.1.map Ai)), (2032, .vec 1 (v5.2.1.map Ai)), (2033, .vec 1 (v5.2.2.map Ai)), (2034, .vec 6 (v15.1.map Ao)), (2035, .vec 1 (v28.map (ER eB))), (2036, .vec 1 (v29.map (ER eB)))]) (fun j29 h => ?_) (fun v29 h => ?_)
        ·refine Ab (Aa Ac rfl (qf FK rfl (ql Cz rfl (BK rfl (Ad ?_)))))
         refine Ap rfl (fun c30 => ?_) (fun c30 => ?_)
         ·have h := Am c30 h
          refine Aa Ac rfl (qf Bu rfl (ql Be rfl (qf De rfl (ql Cz rfl ?_))))
          obtain ⟨v31, a31, b31, h⟩ := Aj h
          refine qI AI DP a31 (Ah b31) rfl (qj Cz (Ah b31) rfl (qf Bu rfl (ql Be rfl (qf De rfl (ql Cz rfl ?_)))))
          obtain ⟨v32, a32, b32, h⟩ := Aj h
          refine qI AI DP a32 (Ah b32) rfl (qj Cz (Ah b32) rfl (qf TQ rfl (ql VO rfl ?_)))
          obtain ⟨v33, a33, h⟩ := bind_some h
          refine AH [2037] (Io N v31 v32 v20.fLost true v33 a33) Vi rfl (qf GC rfl (qs VA rfl (AM (by kernel_rfl) ?_)))
          exact Au _ h (sm [(2031, 2026), (2032, 2027), (2033, 2028), (2034, 2029), (2035, 2030), (2036, 2037)] _ _ rfl rfl)
         ·have h := An c30 h
          refine Ar ?_
          exact Au _ h ((AB 9 5 2038 1 _ rfl rfl rfl rfl).trans (sm [(2031, 2026), (2032, 2027), (2033, 2028), (2034, 2029), (2035, 2030), (2036, 2038)] _ _ rfl rfl))
        ·refine Aa Ac rfl (qf CS rfl (ql GZ rfl (qL Hj D8 rfl (DC (Bc 2035 _ _ rfl rfl) (DC (Bc 2036 _ _ rfl rfl) (Ep D9 D8 J4 rfl ?_))))))
         obtain ⟨c34, h⟩ := AK h
         refine Dw (f := Ao) D9 D9 D8 V8 J4 c34 rfl (qf CS rfl (qs W4 rfl (Ad (Aa Ac rfl (qm rfl (AY rfl (qa rfl (Ad ?_))))))))
         exact Au _ h (sm [(2014, 2031), (2015, 2032), (2016, 2033), (2017, 149)] _ _ rfl rfl)
      ·have h := An c19 h
       refine AX ?_
       exact Au _ h (sm [(2018, 2022), (2019, 2023), (2020, 2024), (2021, 2025)] _ _ rfl rfl)
    ·refine Al hs (Ab (Aa Ac rfl (qL D4 DQ rfl (qs DQ rfl (qa rfl (Ad ?_))))))
     obtain rfl := sj h
     refine Al (sm [(1000, 2018), (1001, 2019), (1002, 2020), (1003, 2021)] [(2, .e (.one (.ptr 2 0))), (3, .e (.one (.pure (.val (.bool true)))))] [(2, .box [.own 1000, .own 1001, .own 1002, .own 1003]), (1000, .vec 1 (v5.1.map Ai)), (1001, .vec 1 (v5.2.1.map Ai)), (1002, .vec 1 (v5.2.2.map Ai)), (1003, .vec 6 (v16.map Ao))] rfl rfl) (Az ?_)
     exact ⟨⟨[_, _], ⟨.cellN _ _ _ _ _ _ _ rfl rfl D4 DQ rfl rfl (I7 rfl), ⟨.tmp _ _ rfl, trivial⟩⟩, rfl⟩, ⟨rfl, rfl, rfl, rfl, trivial⟩⟩
set_option maxRecDepth 10000 in
theorem D7 (N : Nat) (p0 : Bool) (r : Ag) (h : CO N p0 = some r) : AC Tryz.prog 35 [.e (.one (.pure (.val (.bool p0))))] [(1, r.fVersions.map Ai), (1, r.fNow.map Ai), (1, r.fTarget.map Ai), (6, r.fTables.map Ao)] (.e (.agg [.own 0, .own 1, .own 2, .own 3])) := by
 unfold CO at h
 refine As (n := 15) (rs := [.cell 2 30]) Tryz.func35 rfl rfl rfl (A5 rfl) (A5 rfl) rfl fun w0 S0 => ?_
 refine Ab (Aa Ac rfl (qz Ra rfl (Ad (Ab (Aa Ac rfl (Ep E5 Ph SW rfl (qm rfl (Ep E5 Ph SW rfl (DC (Bc 4 _ _ rfl rfl) (DC (Bc 6 _ _ rfl rfl) (Ep Gf Jq SI rfl (BM J4 VT rfl (qz J4 rfl (qs D8 rfl (Ad (Ab (Aa Ac rfl (Ep AI DP KI rfl (Ep AI DP KI rfl (Ep AI DP KI rfl (qL Hj D8 rfl (DC (Bc 7 _ _ rfl rfl) (Ep D9 D8 J4 rfl (BM Ra U2 rfl (qs DQ rfl (Ad ?_))))))))))))))))))))))))))
 obtain rfl := sj h
 refine Al (sm [(1000, 9), (1001, 10), (1002, 11), (1003, 13)] [(2, .e (.one (.ptr 2 0)))] [(2, .box [.own 1000, .own 1001, .own 1002, .own 1003]), (1000, .vec 1 ((([2] : List Int)).map Ai)), (1001, .vec 1 ((([0] : List Int)).map Ai)), (1002, .vec 1 ((([1] : List Int)).map Ai)), (1003, .vec 6 ((([(AF.mk 1 0 0 false (([([true, true] : List Bool), ([p0, true] : List Bool)] : List (List Bool))) (([] : List (List Bool))))] : List AF)).map Ao))] rfl rfl) (Az ?_)
 exact ⟨⟨[_], ⟨.cellN _ _ _ _ _ _ _ rfl rfl D4 DQ rfl rfl (I7 rfl), trivial⟩, rfl⟩, ⟨rfl, rfl, rfl, rfl, trivial⟩⟩
set_option maxRecDepth 10000 in
theorem Hb (N : Nat) (p0 : Int) (p1 : Int) (r : Bool) (h : DZ N p0 p1 = some r) : AC Tryz.prog 100 [.e (.one (.pure (.val (.int .i64 p0)))), .e (.one (.pure (.val (.int .i64 p1))))] [] (.e (.one (.pure (.val (.bool r))))) := by
 unfold DZ at h
 refine As (n := 12) (rs := [.tmp 4]) Tryz.func100 rfl rfl rfl (A5 rfl) (A5 rfl) rfl fun w0 S0 => ?_
 refine Ab (Aa Ac rfl (qa rfl (Ad ?_)))
 refine AO h (fun v1 => mk [(4, .e (.one (.pure (.val (.bool v1)))))] []) (fun j1 h => ?_) (fun v1 h => ?_)
 ·refine Aa Ac rfl (qm rfl (Dx rfl (qm rfl ?_)))
  refine AE (t := 7) rfl (fun c2 => ?_) (fun c2 => ?_)
  ·have h := Am c2 h
   refine qm rfl (qm rfl (A2 rfl (qp rfl (qa rfl (Ad ?_)))))
   exact Au _ h (sm [] _ _ rfl rfl)
  ·have h := An c2 h
   refine qn rfl (qn rfl (qn rfl (qp rfl (qa rfl (Ad ?_)))))
   exact Au _ h (sm [] _ _ rfl rfl)
 ·obtain rfl := sj h
  refine Al (sm [] [(4, .e (.one (.pure (.val (.bool v1)))))] [] rfl rfl) (Az ?_)
  exact ⟨⟨[_], ⟨.tmp _ _ rfl, trivial⟩, rfl⟩, trivial⟩
set_option maxRecDepth 10000 in
theorem Og (N : Nat) (p0 : Int) (p1 : Bool) (r : Bool) (h : Gp N p0 p1 = some r) : AC Tryz.prog 115 [.e (.one (.pure (.val (.int .i64 p0)))), .e (.one (.pure (.val (.bool p1))))] [] (.e (.one (.pure (.val (.bool r))))) := by
 unfold Gp at h
 refine As (n := 23) (rs := [.tmp 4]) Tryz.func115 rfl rfl rfl (A5 rfl) (A5 rfl) rfl fun w0 S0 => ?_
 refine Ab (Aa Ac rfl (qa rfl (Ad ?_)))
 refine AO h (fun v1 => mk [(4, .e (.one (.pure (.val (.bool v1)))))] []) (fun j1 h => ?_) (fun v1 h => ?_)
 ·refine Aa Ac rfl (qm rfl (BK rfl (qm rfl ?_)))
  refine AE (t := 7) rfl (fun c2 => ?_) (fun c2 => ?_)
  ·have h := Am c2 h
   refine qn rfl (qn rfl (qp rfl (qm rfl (qn rfl (qn rfl (qn rfl (qu rfl (qu rfl (qn rfl (qn rfl (qu rfl (qu rfl (qn rfl (qp rfl (qa rfl (Ad ?_))))))))))))))))
   exact Au _ h (sm [] _ _ rfl rfl)
  ·have h := An c2 h
   refine qm rfl (BK rfl (qp rfl (qm rfl ?_)))
   refine AE (t := 11) rfl (fun c3 => ?_) (fun c3 => ?_)
   ·have h := Am c3 h
    refine qn rfl (qn rfl (qn rfl (qu rfl (qu rfl (qn rfl (qn rfl (qu rfl (qu rfl (qn rfl (qp rfl (qa rfl (Ad ?_))))))))))))
    exact Au _ h (sm [] _ _ rfl rfl)
   ·have h := An c3 h
    refine qm rfl (BK rfl (qm rfl ?_))
    refine AE (t := 14) rfl (fun c4 => ?_) (fun c4 => ?_)
    ·have h := Am c4 h
     refine qn rfl (qn rfl (qp rfl (qm rfl (qm rfl (Cp rfl (qp rfl (qp rfl (qa rfl (Ad ?_)))))))))
     exact Au _ h (sm [] _ _ rfl rfl)
    ·have h := An c4 h
     refine qm rfl (BK rfl (qp rfl (qm rfl ?_)))
     refine AE (t := 18) rfl (fun c5 => ?_) (fun c5 => ?_)
     ·have h := Am c5 h
      refine qm rfl (Cp rfl (qp rfl (qp rfl (qa rfl (Ad ?_)))))
      exact Au _ h (sm [] _ _ rfl rfl)
     ·have h := An c5 h
      refine qn rfl (qn rfl (qp rfl (qp rfl (qa rfl (Ad ?_)))))
      exact Au _ h (sm [] _ _ rfl rfl)
 ·obtain rfl := sj h
  refine Al (sm [] [(4, .e (.one (.pure (.val (.bool v1)))))] [] rfl rfl) (Az ?_)
  exact ⟨⟨[_], ⟨.tmp _ _ rfl, trivial⟩, rfl⟩, trivial⟩
set_option maxRecDepth 10000 in
theorem Lu (N : Nat) (p0 : List Bool) (p1 : Int) (r : Bool) (h : DV N p0 p1 = some r) : AC Tryz.prog 124 [.e (.one (.pure (.sl (p0.map eB)))), .e (.one (.rop [.val (.int .i64 p1)]))] [] (.e (.one (.pure (.val (.bool r))))) := by
 unfold DV at h
 refine As (n := 8) (rs := [.tmp 3]) Tryz.func124 rfl rfl rfl (A5 rfl) (A5 rfl) rfl fun w0 S0 => ?_
 refine Ab (Aa Ac rfl (qa rfl (Ad (Ab (Aa Ac rfl (qm rfl (AZ E5 rfl (qk Cz rfl (Cw rfl (qa rfl (Ad ?_)))))))))))
 obtain rfl := sj h
 refine Al (sm [] [(3, .e (.one (.pure (.val (.bool (((p0.length : Int) != p1)))))))] [] rfl rfl) (Az ?_)
 exact ⟨⟨[_], ⟨.tmp _ _ rfl, trivial⟩, rfl⟩, trivial⟩
set_option maxRecDepth 10000 in
theorem HK (N : Nat) (p0 : List (List Bool)) (p1 : (List Bool) → Option Bool) (r : Int) (h : Do N p0 p1 = some r) : AC Tryz.prog 126 [.e (.one (.pure (.sl (p0.map (ER eB))))), .e (.one (.clo (B0 (PJ false (ER eB)) tB p1)))] [] (.e (.one (.pure (.val (.int .i64 r))))) := by
 unfold Do at h
 refine As (n := 19) (rs := [.tmp 4]) Tryz.func126 rfl rfl rfl (A5 rfl) (A5 rfl) rfl fun w0 S0 => ?_
 refine Ab (Aa Ac rfl (qa rfl (Ad (Ab (Ab (Aa Ac rfl (qm rfl (AZ Gf rfl (qm rfl (Ad ?_))))))))))
 refine AJ (L := Bk N p0 p1) h (fun v1 => mk [(0, .e (.one (.pure (.sl (p0.map (ER eB)))))), (1, .e (.one (.clo (B0 (PJ false (ER eB)) tB p1)))), (7, .e (.one (.pure (.val (.int .i64 ((p0.length : Int))))))), (8, .e (.one (.pure (.val (.int .i64 v1)))))] []) (fun v2 => mk [] []) (fun _ _ => rfl) (sm [] _ _ rfl rfl) (fun j1 n1 v1 h => ?_) (fun v2 s h hs => ?_)
 ·unfold Bk at h
  refine Ab (Aa Ac rfl (A2 rfl (Ad (Ab ?_))))
  refine Ap rfl (fun c3 => ?_) (fun c3 => ?_)
  ·have h := Am c3 h
   refine Ar (Ab (AN (Ab (Aa Ac rfl (qm rfl (qa rfl (Ad (Ab (Aa Ac rfl (qm rfl (qm rfl (qm rfl ?_))))))))))))
   obtain ⟨v4, a4, b4, h⟩ := Aj h
   refine qi Gf Jq a4 (Ah b4) rfl (qk K3 rfl ?_)
   obtain ⟨v5, a5, h⟩ := bind_some h
   refine EE (ds0 := [_]) (ar := (PJ false (ER eB)) v4) (.p rfl) rfl rfl ⟨rfl, trivial⟩ rfl rfl rfl (ED (OP _ _ (VW WI)) a5) ?_
   refine Ad ?_
   refine Ap rfl (fun c6 => ?_) (fun c6 => ?_)
   ·have h := Am c6 h
    refine Ab (Aa Ac rfl (qm rfl (qa rfl (Ad ?_))))
    obtain rfl := sj h
    refine Al (sm [] [(4, .e (.one (.pure (.val (.int .i64 v1)))))] [] rfl rfl) (Az ?_)
    exact ⟨⟨[_], ⟨.tmp _ _ rfl, trivial⟩, rfl⟩, trivial⟩
   ·have h := An c6 h
    refine Ar (Aa Ac rfl (AY rfl (qm rfl (Ad ?_))))
    exact Au _ h (sm [] _ _ rfl rfl)
  ·have h := An c3 h
   refine AX ?_
   exact Au _ h (sm [] _ _ rfl rfl)
 ·refine Al hs (Ab (Aa Ac rfl (qa rfl (Ad ?_))))
  obtain rfl := sj h
  refine Al (sm [] [(4, .e (.one (.pure (.val (.int .i64 ((-1)))))))] [] rfl rfl) (Az ?_)
  exact ⟨⟨[_], ⟨.tmp _ _ rfl, trivial⟩, rfl⟩, trivial⟩
set_option maxRecDepth 10000 in
theorem Hg (N : Nat) (p0 : List (List Bool)) (p1 : (List Bool) → Option Bool) (r : Bool) (h : CZ N p0 p1 = some r) : AC Tryz.prog 123 [.e (.one (.pure (.sl (p0.map (ER eB))))), .e (.one (.clo (B0 (PJ false (ER eB)) tB p1)))] [] (.e (.one (.pure (.val (.bool r))))) := by
 unfold CZ at h
 refine As (n := 9) (rs := [.tmp 4]) Tryz.func123 rfl rfl rfl (A5 rfl) (A5 rfl) rfl fun w0 S0 => ?_
 refine Ab (Aa Ac rfl (qa rfl (Ad (Ab (Aa Ac rfl (qm rfl (qm rfl ?_)))))))
 obtain ⟨v1, a1, h⟩ := bind_some h
 refine AH [] (HK N p0 p1 v1 a1) VK rfl (Dx rfl (qa rfl (Ad ?_)))
 obtain rfl := sj h
 refine Al (sm [] [(4, .e (.one (.pure (.val (.bool ((decide (0 ≤ v1))))))))] [] rfl rfl) (Az ?_)
 exact ⟨⟨[_], ⟨.tmp _ _ rfl, trivial⟩, rfl⟩, trivial⟩
set_option maxRecDepth 10000 in
theorem JY (N : Nat) (p0 : List (List Bool)) (p1 : Int) (p2 : Int) (r : Bool) (h : EX N p0 p1 p2 = some r) : AC Tryz.prog 116 [.e (.one (.pure (.sl (p0.map (ER eB))))), .e (.one (.pure (.val (.int .i64 p1)))), .e (.one (.pure (.val (.int .i64 p2))))] [] (.e (.one (.pure (.val (.bool r))))) := by
 unfold EX at h
 refine As (n := 17) (rs := [.tmp 6]) Tryz.func116 rfl rfl rfl (A5 rfl) (A5 rfl) rfl fun w0 S0 => ?_
 refine Ab (Aa Ac rfl (qb rfl (qa rfl (Ad ?_))))
 refine AO h (fun v1 => mk [(6, .e (.one (.pure (.val (.bool v1)))))] []) (fun j1 h => ?_) (fun v1 h => ?_)
 ·refine Aa Ac rfl (qm rfl (AZ Gf rfl (qm rfl (BK rfl (qm rfl ?_)))))
  refine AE (t := 11) rfl (fun c2 => ?_) (fun c2 => ?_)
  ·have h := Am c2 h
   refine qm rfl (DC (ML 5 [.val (.int .i64 p2)] rfl rfl) ?_)
   refine Mo (capD := [_]) (B0 (PJ false (ER eB)) tB ((fun (x : List Bool) => DV N x p2))) (.g rfl rfl) Vx rfl ⟨rfl, trivial⟩ rfl (fun ar t ht => by obtain ⟨x, r, rfl, hq, rfl⟩ := I4 ht; exact Lu N x p2 r hq) ?_
   obtain ⟨v3, a3, h⟩ := bind_some h
   refine AH [] (Hg N p0 ((fun (x : List Bool) => DV N x p2)) v3 a3) Vf rfl (Cp rfl (qp rfl (qa rfl (Ad ?_))))
   exact Au _ h (sm [] _ _ rfl rfl)
  ·have h := An c2 h
   refine qn rfl (qn rfl (qn rfl (qn rfl (qp rfl (qa rfl (Ad ?_))))))
   exact Au _ h (sm [] _ _ rfl rfl)
 ·obtain rfl := sj h
  refine Al (sm [] [(6, .e (.one (.pure (.val (.bool v1)))))] [] rfl rfl) (Az ?_)
  exact ⟨⟨[_], ⟨.tmp _ _ rfl, trivial⟩, rfl⟩, trivial⟩
set_option maxRecDepth 10000 in
theorem Nw (N : Nat) (p0 : Ag) (p1 : AF) (r : Int) (h : F0 N p0 p1 = some r) : AC Tryz.prog 101 [.e (.agg [.pure (.sl (p0.fVersions.map Ai)), .pure (.sl (p0.fNow.map Ai)), .pure (.sl (p0.fTarget.map Ai)), .pure (.sl (p0.fTables.map Ao))]), .e (.agg [.pure (.val (.int .i64 p1.fKind)), .pure (.val (.int .i64 p1.fFrom)), .pure (.val (.int .i64 p1.fTo)), .pure (.val (.bool p1.fAware)), .pure (.sl (p1.fOK.map (ER eB))), .pure (.sl (p1.fRewrite.map (ER eB)))])] [] (.e (.one (.pure (.val (.int .i64 r))))) := by
 unfold F0 at h
 refine As (n := 87) (rs := [.tmp 4]) Tryz.func101 rfl rfl rfl (A5 rfl) (A5 rfl) rfl fun w0 S0 => ?_
 refine Ab (Aa Ac rfl (qb rfl (qb rfl (qa rfl (Ad (Ab (Ab (Aa Ac rfl (qf FK rfl (ql Cz rfl (qf Iz rfl (ql QS rfl ?_))))))))))))
 obtain ⟨v1, a1, h⟩ := bind_some h
 refine AH [] (Og N p1.fKind p1.fAware v1 a1) Vj rfl (Cp rfl (Ad ?_))
 refine Ap rfl (fun c2 => ?_) (fun c2 => ?_)
 ·have h := Am c2 h
  refine Ab (Aa Ac rfl (qa rfl (Ad ?_)))
  obtain rfl := sj h
  refine Al (sm [] [(4, .e (.one (.pure (.val (.int .i64 1)))))] [] rfl rfl) (Az ?_)
  exact ⟨⟨[_], ⟨.tmp _ _ rfl, trivial⟩, rfl⟩, trivial⟩
 ·have h := An c2 h
  refine Ar (Ab ?_)
  refine AO h (fun v3 => mk [(2, .e (.one (.ptr 2 0))), (3, .e (.one (.ptr 3 0))), (29, .e (.one (.pure (.val (.bool v3)))))] [(2, .box [.pure (.sl (p0.fVersions.map Ai)), .pure (.sl (p0.fNow.map Ai)), .pure (.sl (p0.fTarget.map Ai)), .pure (.sl (p0.fTables.map Ao))]), (3, .box [.pure (.val (.int .i64 p1.fKind)), .pure (.val (.int .i64 p1.fFrom)), .pure (.val (.int .i64 p1.fTo)), .pure (.val (.bool p1.fAware)), .pure (.sl (p1.fOK.map (ER eB))), .pure (.sl (p1.fRewrite.map (ER eB)))])]) (fun j3 h => ?_) (fun v3 h => ?_)
  ·refine Aa Ac rfl (qf De rfl (ql Cz rfl (qf Bu rfl (ql Be rfl (AZ AI rfl ?_)))))
   obtain ⟨v4, a4, h⟩ := bind_some h
   refine AH [] (Hb N p1.fFrom ((p0.fVersions.length : Int)) v4 a4) Qw rfl (Cp rfl (qm rfl ?_))
   refine AE (t := 21) rfl (fun c5 => ?_) (fun c5 => ?_)
   ·have h := Am c5 h
    refine qn rfl (qn rfl (qn rfl (qn rfl (qn rfl (qn rfl (qn rfl (qp rfl (Ad ?_))))))))
    exact Au _ h (sm [] _ _ rfl rfl)
   ·have h := An c5 h
    refine qf HY rfl (ql Cz rfl (qf Bu rfl (ql Be rfl (AZ AI rfl ?_))))
    obtain ⟨v6, a6, h⟩ := bind_some h
    refine AH [] (Hb N p1.fTo ((p0.fVersions.length : Int)) v6 a6) Qw rfl (Cp rfl (qp rfl (Ad ?_)))
    exact Au _ h (sm [] _ _ rfl rfl)
  ·refine Ap rfl (fun c7 => ?_) (fun c7 => ?_)
   ·have h := Am c7 h
    refine Ab (Aa Ac rfl (qa rfl (Ad ?_)))
    obtain rfl := sj h
    refine Al (sm [] [(4, .e (.one (.pure (.val (.int .i64 4)))))] [] rfl rfl) (Az ?_)
    exact ⟨⟨[_], ⟨.tmp _ _ rfl, trivial⟩, rfl⟩, trivial⟩
   ·have h := An c7 h
    refine Ar (Ab (Aa Ac rfl (qf Bu rfl (ql Be rfl (qf De rfl (ql Cz rfl ?_))))))
    obtain ⟨v8, a8, b8, h⟩ := Aj h
    refine qi AI DP a8 (Ah b8) rfl (qk Cz rfl (qa rfl (Ad (Ab (Aa Ac rfl (qf FK rfl (ql Cz rfl (BK rfl (qa rfl (Ad (Ab ?_)))))))))))
    refine AO h (fun v9 => mk [(3, .e (.one (.ptr 3 0))), (70, .e (.one (.pure (.val (.bool v9)))))] [(3, .box [.pure (.val (.int .i64 p1.fKind)), .pure (.val (.int .i64 p1.fFrom)), .pure (.val (.int .i64 p1.fTo)), .pure (.val (.bool p1.fAware)), .pure (.sl (p1.fOK.map (ER eB))), .pure (.sl (p1.fRewrite.map (ER eB)))])]) (fun j9 h => ?_) (fun v9 h => ?_)
    ·refine Aa Ac rfl (qf Ja rfl (ql JB rfl (qm rfl (qf Bu rfl (ql Be rfl (qf HY rfl (ql Cz rfl ?_)))))))
     obtain ⟨v10, a10, b10, h⟩ := Aj h
     refine qi AI DP a10 (Ah b10) rfl (qk Cz rfl ?_)
     obtain ⟨v11, a11, h⟩ := bind_some h
     refine AH [] (JY N p1.fOK v8 v10 v11 a11) TY rfl (Cp rfl (qm rfl ?_))
     refine AE (t := 50) rfl (fun c12 => ?_) (fun c12 => ?_)
     ·have h := Am c12 h
      refine qn rfl (qn rfl (qu rfl (qu rfl (qu rfl (qu rfl (qu rfl (qu rfl (qn rfl (qp rfl (qm rfl (qn rfl (qn rfl (qn rfl (qu rfl (qu rfl (qu rfl (qu rfl (qn rfl (qp rfl (AM (by kernel_rfl) ?_))))))))))))))))))))
      exact Au _ h (sm [] _ _ rfl rfl)
     ·have h := An c12 h
      refine qm rfl (qm rfl ?_)
      refine AE (t := 52) rfl (fun c13 => ?_) (fun c13 => ?_)
      ·have h := Am c13 h
       refine qf GC rfl (ql JB rfl (qm rfl (qm rfl ?_)))
       obtain ⟨v14, a14, h⟩ := bind_some h
       refine AH [] (JY N p1.fRewrite v8 v8 v14 a14) TY rfl (Cp rfl (qp rfl (qp rfl (qm rfl ?_))))
       refine AE (t := 61) rfl (fun c15 => ?_) (fun c15 => ?_)
       ·have h := Am c15 h
        refine qn rfl (qn rfl (qn rfl (qu rfl (qu rfl (qu rfl (qu rfl (qn rfl (qp rfl (AM (by kernel_rfl) ?_)))))))))
        exact Au _ h (sm [] _ _ rfl rfl)
       ·have h := An c15 h
        refine qm rfl (Cp rfl (qm rfl ?_))
        refine AE (t := 64) rfl (fun c16 => ?_) (fun c16 => ?_)
        ·have h := Am c16 h
         refine qf GC rfl (ql JB rfl (AZ Gf rfl (Fw rfl (qp rfl (qp rfl (AM (by kernel_rfl) ?_))))))
         exact Au _ h (sm [] _ _ rfl rfl)
        ·have h := An c16 h
         refine qn rfl (qn rfl (qn rfl (qn rfl (qp rfl (qp rfl (AM (by kernel_rfl) ?_))))))
         exact Au _ h (sm [] _ _ rfl rfl)
      ·have h := An c13 h
       refine qn rfl (qn rfl (qn rfl (qn rfl (qn rfl (qn rfl (qp rfl (qp rfl (qm rfl (qm rfl (Cp rfl (qm rfl ?_)))))))))))
       refine AE (t := 64) rfl (fun c17 => ?_) (fun c17 => ?_)
       ·have h := Am c17 h
        refine qf GC rfl (ql JB rfl (AZ Gf rfl (Fw rfl (qp rfl (qp rfl (AM (by kernel_rfl) ?_))))))
        exact Au _ h (sm [] _ _ rfl rfl)
       ·have h := An c17 h
        refine qn rfl (qn rfl (qn rfl (qn rfl (qp rfl (qp rfl (AM (by kernel_rfl) ?_))))))
        exact Au _ h (sm [] _ _ rfl rfl)
    ·refine Ap rfl (fun c18 => ?_) (fun c18 => ?_)
     ·have h := Am c18 h
      refine Ab (Aa Ac rfl (qa rfl (Ad ?_)))
      obtain rfl := sj h
      refine Al (sm [] [(4, .e (.one (.pure (.val (.int .i64 6)))))] [] rfl rfl) (Az ?_)
      exact ⟨⟨[_], ⟨.tmp _ _ rfl, trivial⟩, rfl⟩, trivial⟩
     ·have h := An c18 h
      refine Ar (Ab (Ab (Aa Ac rfl (qf GC rfl (ql JB rfl (AZ Gf rfl (qm rfl (Ad ?_))))))))
      refine AJ (L := C3 N p1) h (fun v19 => mk [(3, .e (.one (.ptr 3 0))), (73, .e (.one (.pure (.val (.int .i64 ((p1.fRewrite.length : Int))))))), (74, .e (.one (.pure (.val (.int .i64 v19)))))] [(3, .box [.pure (.val (.int .i64 p1.fKind)), .pure (.val (.int .i64 p1.fFrom)), .pure (.val (.int .i64 p1.fTo)), .pure (.val (.bool p1.fAware)), .pure (.sl (p1.fOK.map (ER eB))), .pure (.sl (p1.fRewrite.map (ER eB)))])]) (fun v20 => mk [] []) (fun _ _ => rfl) (sm [] _ _ rfl rfl) (fun j19 n19 v19 h => ?_) (fun v20 s h hs => ?_)
      ·unfold C3 at h
       refine Ab (Aa Ac rfl (A2 rfl (Ad (Ab ?_))))
       refine Ap rfl (fun c21 => ?_) (fun c21 => ?_)
       ·have h := Am c21 h
        refine Ar (Ab (AN (Ab (Aa Ac rfl (qm rfl (qa rfl (Ad (Ab (Aa Ac rfl (qf GC rfl (ql JB rfl (qm rfl ?_))))))))))))
        obtain ⟨v22, a22, b22, h⟩ := Aj h
        refine qi Gf Jq a22 (Ah b22) rfl (qk K3 rfl (qm rfl ?_))
        obtain ⟨v23, a23, b23, h⟩ := Aj h
        refine qi E5 Ph a23 (Ah b23) rfl (qk QS rfl (Cp rfl (Ad ?_)))
        refine Ap rfl (fun c24 => ?_) (fun c24 => ?_)
        ·have h := Am c24 h
         refine Ab (Aa Ac rfl (qa rfl (Ad ?_)))
         obtain rfl := sj h
         refine Al (sm [] [(4, .e (.one (.pure (.val (.int .i64 1)))))] [] rfl rfl) (Az ?_)
         exact ⟨⟨[_], ⟨.tmp _ _ rfl, trivial⟩, rfl⟩, trivial⟩
        ·have h := An c24 h
         refine Ar (Aa Ac rfl (AY rfl (qm rfl (Ad ?_))))
         exact Au _ h (sm [] _ _ rfl rfl)
       ·have h := An c21 h
        refine AX ?_
        exact Au _ h (sm [] _ _ rfl rfl)
      ·refine Al hs (Ab (Aa Ac rfl (qa rfl (Ad ?_))))
       obtain rfl := sj h
       refine Al (sm [] [(4, .e (.one (.pure (.val (.int .i64 0)))))] [] rfl rfl) (Az ?_)
       exact ⟨⟨[_], ⟨.tmp _ _ rfl, trivial⟩, rfl⟩, trivial⟩
set_option maxRecDepth 10000 in
theorem Hx (N : Nat) (p0 : Ag) (r : Int) (h : Du N p0 = some r) : AC Tryz.prog 75 [.e (.agg [.pure (.sl (p0.fVersions.map Ai)), .pure (.sl (p0.fNow.map Ai)), .pure (.sl (p0.fTarget.map Ai)), .pure (.sl (p0.fTables.map Ao))])] [] (.e (.one (.pure (.val (.int .i64 r))))) := by
 unfold Du at h
 refine As (n := 81) (rs := [.tmp 2]) Tryz.func75 rfl rfl rfl (A5 rfl) (A5 rfl) rfl fun w0 S0 => ?_
 refine Ab (Aa Ac rfl (qb rfl (qa rfl (Ad (Ab (Aa Ac rfl (qf Bu rfl (ql Be rfl (AZ AI rfl (qa rfl (Ad (Ab ?_))))))))))))
 refine AO h (fun v1 => mk [(1, .e (.one (.ptr 1 0))), (3, .e (.one (.pure (.val (.int .i64 ((p0.fVersions.length : Int))))))), (19, .e (.one (.pure (.val (.bool v1)))))] [(1, .box [.pure (.sl (p0.fVersions.map Ai)), .pure (.sl (p0.fNow.map Ai)), .pure (.sl (p0.fTarget.map Ai)), .pure (.sl (p0.fTables.map Ao))])]) (fun j1 h => ?_) (fun v1 h => ?_)
 ·refine Aa Ac rfl (qm rfl (Fw rfl (qm rfl ?_)))
  refine AE (t := 14) rfl (fun c2 => ?_) (fun c2 => ?_)
  ·have h := Am c2 h
   refine qn rfl (qn rfl (qn rfl (qn rfl (qp rfl (Ad ?_)))))
   exact Au _ h (sm [] _ _ rfl rfl)
  ·have h := An c2 h
   refine qf CS rfl (ql GZ rfl (AZ D9 rfl (Fw rfl (qp rfl (Ad ?_)))))
   exact Au _ h (sm [] _ _ rfl rfl)
 ·refine Ap rfl (fun c3 => ?_) (fun c3 => ?_)
  ·have h := Am c3 h
   refine Ab (Aa Ac rfl (qa rfl (Ad ?_)))
   obtain rfl := sj h
   refine Al (sm [] [(2, .e (.one (.pure (.val (.int .i64 3)))))] [] rfl rfl) (Az ?_)
   exact ⟨⟨[_], ⟨.tmp _ _ rfl, trivial⟩, rfl⟩, trivial⟩
  ·have h := An c3 h
   refine Ar (Ab ?_)
   refine AO h (fun v4 => mk [(1, .e (.one (.ptr 1 0))), (31, .e (.one (.pure (.val (.bool v4)))))] [(1, .box [.pure (.sl (p0.fVersions.map Ai)), .pure (.sl (p0.fNow.map Ai)), .pure (.sl (p0.fTarget.map Ai)), .pure (.sl (p0.fTables.map Ao))])]) (fun j4 h => ?_) (fun v4 h => ?_)
   ·refine Aa Ac rfl (qf Gy rfl (ql Be rfl (AZ AI rfl (qm rfl (Cw rfl (qm rfl ?_))))))
    refine AE (t := 25) rfl (fun c5 => ?_) (fun c5 => ?_)
    ·have h := Am c5 h
     refine qn rfl (qn rfl (qn rfl (qn rfl (qn rfl (qp rfl (Ad ?_))))))
     exact Au _ h (sm [] _ _ rfl rfl)
    ·have h := An c5 h
     refine qf Ji rfl (ql Be rfl (AZ AI rfl (qm rfl (Cw rfl (qp rfl (Ad ?_))))))
     exact Au _ h (sm [] _ _ rfl rfl)
   ·refine Ap rfl (fun c6 => ?_) (fun c6 => ?_)
    ·have h := Am c6 h
     refine Ab (Aa Ac rfl (qa rfl (Ad ?_)))
     obtain rfl := sj h
     refine Al (sm [] [(2, .e (.one (.pure (.val (.int .i64 6)))))] [] rfl rfl) (Az ?_)
     exact ⟨⟨[_], ⟨.tmp _ _ rfl, trivial⟩, rfl⟩, trivial⟩
    ·have h := An c6 h
     refine Ar (Ab (Ab (Aa Ac rfl (qf Bu rfl (ql Be rfl (AZ AI rfl (qm rfl (Ad ?_))))))))
     refine AJ (L := BW N p0) h (fun v7 => mk [(1, .e (.one (.ptr 1 0))), (33, .e (.one (.pure (.sl (p0.fVersions.map Ai))))), (34, .e (.one (.pure (.val (.int .i64 ((p0.fVersions.length : Int))))))), (35, .e (.one (.pure (.val (.int .i64 v7)))))] [(1, .box [.pure (.sl (p0.fVersions.map Ai)), .pure (.sl (p0.fNow.map Ai)), .pure (.sl (p0.fTarget.map Ai)), .pure (.sl (p0.fTables.map Ao))])]) (fun v8 => mk [(1, .e (.one (.ptr 1 0)))] [(1, .box [.pure (.sl (p0.fVersions.map Ai)), .pure (.sl (p0.fNow.map Ai)), .pure (.sl (p0.fTarget.map Ai)), .pure (.sl (p0.fTables.map Ao))])]) (fun _ _ => rfl) (sm [] _ _ rfl rfl) (fun j7 n7 v7 h => ?_) (fun v8 s h hs => ?_)
     ·unfold BW at h
      refine Ab (Aa Ac rfl (A2 rfl (Ad (Ab ?_))))
      refine Ap rfl (fun c9 => ?_) (fun c9 => ?_)
      ·have h := Am c9 h
       refine Ar (Ab (AN (Ab (Aa Ac rfl (qm rfl ?_)))))
       obtain ⟨v10, a10, b10, h⟩ := Aj h
       refine qi AI DP a10 (Ah b10) rfl (qk Cz rfl (qa rfl (qa rfl (Ad ?_))))
       refine AO h (fun v11 => mk [(1, .e (.one (.ptr 1 0))), (33, .e (.one (.pure (.sl (p0.fVersions.map Ai))))), (34, .e (.one (.pure (.val (.int .i64 ((p0.fVersions.length : Int))))))), (35, .e (.one (.pure (.val (.int .i64 v7))))), (65, .e (.one (.pure (.val (.bool v11)))))] [(1, .box [.pure (.sl (p0.fVersions.map Ai)), .pure (.sl (p0.fNow.map Ai)), .pure (.sl (p0.fTarget.map Ai)), .pure (.sl (p0.fTables.map Ao))])]) (fun j11 h => ?_) (fun v11 h => ?_)
       ·refine Aa Ac rfl (qm rfl (A2 rfl (qm rfl ?_)))
        refine AE (t := 42) rfl (fun c12 => ?_) (fun c12 => ?_)
        ·have h := Am c12 h
         refine qn rfl (qn rfl (qp rfl (qm rfl (qn rfl (qn rfl (qn rfl (qn rfl (qn rfl (qn rfl (qn rfl (qn rfl (qp rfl (qm rfl (qn rfl (qn rfl (qn rfl (qn rfl (qn rfl (qn rfl (qn rfl (qn rfl (qp rfl (Ad ?_)))))))))))))))))))))))
         exact Au _ h (sm [] _ _ rfl rfl)
        ·have h := An c12 h
         refine qm rfl (Fw rfl (qp rfl (qm rfl ?_)))
         refine AE (t := 46) rfl (fun c13 => ?_) (fun c13 => ?_)
         ·have h := Am c13 h
          refine qn rfl (qn rfl (qn rfl (qn rfl (qn rfl (qn rfl (qn rfl (qn rfl (qp rfl (qm rfl (qn rfl (qn rfl (qn rfl (qn rfl (qn rfl (qn rfl (qn rfl (qn rfl (qp rfl (Ad ?_)))))))))))))))))))
          exact Au _ h (sm [] _ _ rfl rfl)
         ·have h := An c13 h
          refine qf Gy rfl (ql Be rfl (qm rfl ?_))
          obtain ⟨v14, a14, b14, h⟩ := Aj h
          refine qi AI DP a14 (Ah b14) rfl (qk Cz rfl (qm rfl ?_))
          obtain ⟨v15, a15, h⟩ := bind_some h
          refine AH [] (Hb N v14 v10 v15 a15) Qw rfl (Cp rfl (qp rfl (qm rfl ?_)))
          refine AE (t := 56) rfl (fun c16 => ?_) (fun c16 => ?_)
          ·have h := Am c16 h
           refine qn rfl (qn rfl (qn rfl (qn rfl (qn rfl (qn rfl (qn rfl (qn rfl (qp rfl (Ad ?_)))))))))
           exact Au _ h (sm [] _ _ rfl rfl)
          ·have h := An c16 h
           refine qf Ji rfl (ql Be rfl (qm rfl ?_))
           obtain ⟨v17, a17, b17, h⟩ := Aj h
           refine qi AI DP a17 (Ah b17) rfl (qk Cz rfl (qm rfl ?_))
           obtain ⟨v18, a18, h⟩ := bind_some h
           refine AH [] (Hb N v17 v10 v18 a18) Qw rfl (Cp rfl (qp rfl (Ad ?_)))
           exact Au _ h (sm [] _ _ rfl rfl)
       ·refine Ap rfl (fun c19 => ?_) (fun c19 => ?_)
        ·have h := Am c19 h
         refine Ab (Aa Ac rfl (qa rfl (Ad ?_)))
         obtain rfl := sj h
         refine Al (sm [] [(2, .e (.one (.pure (.val (.int .i64 7)))))] [] rfl rfl) (Az ?_)
         exact ⟨⟨[_], ⟨.tmp _ _ rfl, trivial⟩, rfl⟩, trivial⟩
        ·have h := An c19 h
         refine Ar (Aa Ac rfl (AY rfl (qm rfl (Ad ?_))))
         exact Au _ h (sm [] _ _ rfl rfl)
      ·have h := An c9 h
       refine AX ?_
       exact Au _ h (sm [] _ _ rfl rfl)
     ·refine Al hs (Ab (Ab (Aa Ac rfl (qf CS rfl (ql GZ rfl (AZ D9 rfl (qm rfl (Ad ?_))))))))
      refine AJ (L := BL N p0) h (fun v20 => mk [(1, .e (.one (.ptr 1 0))), (68, .e (.one (.pure (.sl (p0.fTables.map Ao))))), (69, .e (.one (.pure (.val (.int .i64 ((p0.fTables.length : Int))))))), (70, .e (.one (.pure (.val (.int .i64 v20)))))] [(1, .box [.pure (.sl (p0.fVersions.map Ai)), .pure (.sl (p0.fNow.map Ai)), .pure (.sl (p0.fTarget.map Ai)), .pure (.sl (p0.fTables.map Ao))])]) (fun v21 => mk [] []) (fun _ _ => rfl) (sm [] _ _ rfl rfl) (fun j20 n20 v20 h => ?_) (fun v21 s h hs => ?_)
      ·unfold BL at h
       refine Ab (Aa Ac rfl (A2 rfl (Ad (Ab ?_))))
       refine Ap rfl (fun c22 => ?_) (fun c22 => ?_)
       ·have h := Am c22 h
        refine Ar (Ab (AN (Ab (Aa Ac rfl ?_))))
        obtain ⟨v23, a23, b23, h⟩ := Aj h
        refine qi D9 D8 a23 (Ah b23) rfl (qK Hj D8 rfl (qz J4 rfl (qs D8 rfl (Ad (Ab (Aa Ac rfl (qL D4 DQ rfl (qL Hj D8 rfl ?_))))))))
        obtain ⟨v24, a24, h⟩ := bind_some h
        refine AH [] (Nw N p0 v23 v24 a24) V1 rfl (qa rfl (Ad (Ab (Aa Ac rfl (qm rfl (Cw rfl (Ad ?_)))))))
        refine Ap rfl (fun c25 => ?_) (fun c25 => ?_)
        ·have h := Am c25 h
         refine Ab (Aa Ac rfl (qm rfl (qa rfl (Ad ?_))))
         obtain rfl := sj h
         refine Al (sm [] [(2, .e (.one (.pure (.val (.int .i64 v24)))))] [] rfl rfl) (Az ?_)
         exact ⟨⟨[_], ⟨.tmp _ _ rfl, trivial⟩, rfl⟩, trivial⟩
        ·have h := An c25 h
         refine Ar (Aa Ac rfl (AY rfl (qm rfl (Ad ?_))))
         exact Au _ h (sm [] _ _ rfl rfl)
       ·have h := An c22 h
        refine AX ?_
        exact Au _ h (sm [] _ _ rfl rfl)
      ·refine Al hs (Ab (Aa Ac rfl (qa rfl (Ad ?_))))
       obtain rfl := sj h
       refine Al (sm [] [(2, .e (.one (.pure (.val (.int .i64 0)))))] [] rfl rfl) (Az ?_)
       exact ⟨⟨[_], ⟨.tmp _ _ rfl, trivial⟩, rfl⟩, trivial⟩
set_option maxRecDepth 10000 in
theorem DS (N : Nat) (p0 : List Int) (r : (List Int)) (h : BF N p0 = some r) : AC Tryz.prog 58 [.e (.one (.pure (.sl (p0.map Ai))))] [(1, r.map Ai)] (.e (.one (.own 0))) := by
 unfold BF at h
 refine As (n := 8) (rs := [.tmp 2]) Tryz.func58 rfl rfl rfl (A5 rfl) (A5 rfl) rfl fun w0 S0 => ?_
 refine Ab (Aa Ac rfl (qa rfl (Ad (Ab (Ab (Aa Ac rfl (qm rfl ?_)))))))
 refine OD (.p rfl) rfl AI ?_
 refine Ad ?_
 refine Of rfl (fun c2 => ?_) ?_
 ·have c2 := List.map_eq_nil_iff.1 c2
  rw [c2] at h
  have h : (some (([] : List Int))) = some r := h
  refine Ab (Aa Ac rfl (qa rfl (Ad ?_)))
  obtain rfl := sj h
  refine Al ((Bf 2 2001 1 rfl rfl rfl).trans (sm [(1000, 2001)] [(2, .e (.one (.own 1000)))] [(1000, .vec 1 ((([] : List Int)).map Ai))] rfl rfl)) (Az ?_)
  exact ⟨⟨[_], ⟨.tmp _ _ rfl, trivial⟩, rfl⟩, ⟨rfl, trivial⟩⟩
 ·refine Ar (Ab (Aa Ac rfl (Ep AI DP KI rfl (qm rfl ?_))))
  obtain ⟨c1, h⟩ := AK h
  refine Jf (f := Ai) AI AI DP L2 KI (fun _ => rfl) c1 rfl (qa rfl (Ad ?_))
  obtain rfl := sj h
  refine Al (sm [(1000, 7)] [(2, .e (.one (.own 1000)))] [(1000, .vec 1 (((([] : List Int)) ++ p0).map Ai))] rfl rfl) (Az ?_)
  exact ⟨⟨[_], ⟨.tmp _ _ rfl, trivial⟩, rfl⟩, ⟨rfl, trivial⟩⟩
set_option maxRecDepth 10000 in
theorem KL (N : Nat) (p0 : Int) (p1 : Int) (r : Int × Int) (h : GH N p0 p1 = some r) : AC Tryz.prog 117 [.e (.one (.pure (.val (.int .u32 p0)))), .e (.one (.pure (.val (.int .u32 p1))))] [] (.tup [.one (.pure (.val (.int .u32 r.1))), .one (.pure (.val (.int .u32 r.2)))]) := by
 unfold GH at h
 refine As (n := 17) (rs := [.tmp 4, .tmp 5]) Tryz.func117 rfl rfl rfl (A5 rfl) (A5 rfl) rfl fun w0 S0 => ?_
 refine Ab (Aa Ac rfl (qa rfl (qa rfl (Ad (Ab (Aa Ac rfl (qm rfl (GT Pj T1 rfl (qm rfl (GT Pj T1 rfl (Iu rfl (qa rfl (Ad (Ab (Aa Ac rfl (qm rfl (GX rfl (by decide) (GT RS Pe rfl (qm rfl (GT RS Pe rfl (qa rfl (qa rfl (Ad ?_)))))))))))))))))))))))
 obtain rfl := sj h
 refine Al (sm [] [(4, .e (.one (.pure (.val (.int .u32 ((IntKind.wrap .u32 ((En .u64 ((IntKind.wrap .u64 ((IntKind.wrap .u64 p0) * (IntKind.wrap .u64 p1)))) 32))))))))), (5, .e (.one (.pure (.val (.int .u32 ((IntKind.wrap .u32 ((IntKind.wrap .u64 ((IntKind.wrap .u64 p0) * (IntKind.wrap .u64 p1)))))))))))] [] rfl rfl) (Az ?_)
 exact ⟨⟨[_, _], ⟨.tmp _ _ rfl, ⟨.tmp _ _ rfl, trivial⟩⟩, rfl⟩, trivial⟩
set_option maxRecDepth 10000 in
theorem K9 (N : Nat) (p0 : Int) (p1 : Int) (r : Int × Int) (h : GK N p0 p1 = some r) : AC Tryz.prog 118 [.e (.one (.pure (.val (.int .u64 p0)))), .e (.one (.pure (.val (.int .u64 p1))))] [] (.tup [.one (.pure (.val (.int .u64 r.1))), .one (.pure (.val (.int .u64 r.2)))]) := by
 unfold GK at h
 refine As (n := 51) (rs := [.tmp 4, .tmp 5]) Tryz.func118 rfl rfl rfl (A5 rfl) (A5 rfl) rfl fun w0 S0 => ?_
 refine Ab (Aa Ac rfl (qa rfl (qa rfl (Ad (Ab (Aa Ac rfl (qm rfl (KE rfl (qa rfl (Ad (Ab (Aa Ac rfl (qm rfl (GX rfl (by decide) (qa rfl (Ad (Ab (Aa Ac rfl (qm rfl (KE rfl (qa rfl (Ad (Ab (Aa Ac rfl (qm rfl (GX rfl (by decide) (qa rfl (Ad (Ab (Aa Ac rfl (qm rfl (qm rfl (Iu rfl (qa rfl (Ad (Ab (Aa Ac rfl (qm rfl (qm rfl ?_)))))))))))))))))))))))))))))))))))))))
 refine Iu rfl (qm rfl (GX rfl (by decide) (AY rfl (qa rfl (Ad (Ab (Aa Ac rfl (qm rfl (KE rfl (qa rfl (Ad (Ab (Aa Ac rfl (qm rfl (GX rfl (by decide) (qa rfl (Ad (Ab (Aa Ac rfl (qm rfl (qm rfl (qm rfl (Iu rfl (AY rfl (qa rfl (Ad (Ab (Aa Ac rfl (qm rfl (qm rfl (Iu rfl (qm rfl (AY rfl (qm rfl (GX rfl (by decide) (AY rfl (qa rfl (Ad (Ab ?_)))))))))))))))))))))))))))))))))))))))
 refine Aa Ac rfl (qm rfl (qm rfl (Iu rfl (qa rfl (Ad ?_)))))
 obtain rfl := sj h
 refine Al (sm [] [(4, .e (.one (.pure (.val (.int .u64 ((IntKind.wrap .u64 ((IntKind.wrap .u64 ((IntKind.wrap .u64 ((En .u64 p0 32) * (En .u64 p1 32))) + (En .u64 ((IntKind.wrap .u64 ((IntKind.wrap .u64 ((En .u64 p0 32) * (FI .u64 p1 4294967295))) + (En .u64 ((IntKind.wrap .u64 ((FI .u64 p0 4294967295) * (FI .u64 p1 4294967295)))) 32)))) 32))) + (En .u64 ((IntKind.wrap .u64 ((FI .u64 ((IntKind.wrap .u64 ((IntKind.wrap .u64 ((En .u64 p0 32) * (FI .u64 p1 4294967295))) + (En .u64 ((IntKind.wrap .u64 ((FI .u64 p0 4294967295) * (FI .u64 p1 4294967295)))) 32)))) 4294967295) + (IntKind.wrap .u64 ((FI .u64 p0 4294967295) * (En .u64 p1 32)))))) 32))))))))), (5, .e (.one (.pure (.val (.int .u64 ((IntKind.wrap .u64 (p0 * p1))))))))] [] rfl rfl) (Az ?_)
 exact ⟨⟨[_, _], ⟨.tmp _ _ rfl, ⟨.tmp _ _ rfl, trivial⟩⟩, rfl⟩, trivial⟩
set_option maxRecDepth 10000 in
theorem L7 (N : Nat) (p0 : Int) (p1 : Int) (r : Int × Int) (h : Hs N p0 p1 = some r) : AC Tryz.prog 102 [.e (.one (.pure (.val (.int .u64 p0)))), .e (.one (.pure (.val (.int .u64 p1))))] [] (.tup [.one (.pure (.val (.int .u64 r.1))), .one (.pure (.val (.int .u64 r.2)))]) := by
 unfold Hs at h
 refine As (n := 30) (rs := [.tmp 4, .tmp 5]) Tryz.func102 rfl rfl rfl (A5 rfl) (A5 rfl) rfl fun w0 S0 => ?_
 refine Ab (Aa Ac rfl (qa rfl (qa rfl (Ad (Ab ?_)))))
 refine Ap rfl (fun c1 => ?_) (fun c1 => ?_)
 ·have h := Am c1 h
  refine Ab (Aa Ac rfl (qm rfl (GT O8 Pe rfl (qm rfl (GT O8 Pe rfl ?_)))))
  obtain ⟨v2, a2, h⟩ := bind_some h
  refine AH [] (KL N ((IntKind.wrap .u32 p0)) ((IntKind.wrap .u32 p1)) v2 a2) VQ rfl (qm rfl (qx rfl (qx rfl (qa rfl (qa rfl (Ad (Ab (Aa Ac rfl (qm rfl (GT Pj N5 rfl (qm rfl (GT Pj N5 rfl (qa rfl (qa rfl (Ad ?_)))))))))))))))
  obtain rfl := sj h
  refine Al (sm [] [(4, .e (.one (.pure (.val (.int .u64 ((IntKind.wrap .u64 v2.1))))))), (5, .e (.one (.pure (.val (.int .u64 ((IntKind.wrap .u64 v2.2)))))))] [] rfl rfl) (Az ?_)
  exact ⟨⟨[_, _], ⟨.tmp _ _ rfl, ⟨.tmp _ _ rfl, trivial⟩⟩, rfl⟩, trivial⟩
 ·have h := An c1 h
  refine Ar (Ab (Aa Ac rfl (qm rfl (qm rfl ?_))))
  obtain ⟨v3, a3, h⟩ := bind_some h
  refine AH [] (K9 N p0 p1 v3 a3) Vk rfl (qm rfl (qx rfl (qx rfl (qa rfl (qa rfl (Ad (Ab (Aa Ac rfl (qm rfl (qm rfl (qa rfl (qa rfl (Ad ?_)))))))))))))
  obtain rfl := sj h
  refine Al (sm [] [(4, .e (.one (.pure (.val (.int .u64 v3.1))))), (5, .e (.one (.pure (.val (.int .u64 v3.2)))))] [] rfl rfl) (Az ?_)
  exact ⟨⟨[_, _], ⟨.tmp _ _ rfl, ⟨.tmp _ _ rfl, trivial⟩⟩, rfl⟩, trivial⟩
set_option maxRecDepth 10000 in
theorem I6 (N : Nat) (p0 : List Int) (p1 : Int) (r : (List Int)) (h : Ej N p0 p1 = some r) : AC Tryz.prog 76 [.e (.one (.pure (.sl (p0.map Ai)))), .e (.one (.pure (.val (.int .i64 p1))))] [(1, r.map Ai)] (.e (.one (.own 0))) := by
 unfold Ej at h
 refine As (n := 48) (rs := [.tmp 4]) Tryz.func76 rfl rfl rfl (A5 rfl) (A5 rfl) rfl fun w0 S0 => ?_
 refine Ab (Aa Ac rfl (qa rfl (Ad ?_)))
 refine AO h (fun v1 => mk [(0, .e (.one (.pure (.sl (p0.map Ai))))), (1, .e (.one (.pure (.val (.int .i64 p1)))))] []) (fun j1 h => ?_) (fun v1 h => ?_)
 ·refine Ab (Aa Ac rfl (qm rfl (A2 rfl (Ad ?_))))
  refine Ap rfl (fun c2 => ?_) (fun c2 => ?_)
  ·have h := Am c2 h
   refine Aa Ac rfl ?_
   cases h
  ·have h := An c2 h
   refine Ar ?_
   exact Au _ h (sm [] _ _ rfl rfl)
 ·refine Ab (Aa Ac rfl (qm rfl (AZ AI rfl (GT UR N5 rfl (qm rfl (GT UR N5 rfl ?_))))))
  obtain ⟨v3, a3, h⟩ := bind_some h
  refine AH [] (L7 N ((IntKind.wrap .u64 ((p0.length : Int)))) ((IntKind.wrap .u64 p1)) v3 a3) V2 rfl (qm rfl (qx rfl (qx rfl (qa rfl (qa rfl (Ad ?_))))))
  refine AO h (fun v4 => mk [(0, .e (.one (.pure (.sl (p0.map Ai))))), (6, .e (.one (.pure (.val (.int .u64 v3.2)))))] []) (fun j4 h => ?_) (fun v4 h => ?_)
  ·refine AO h (fun v5 => mk [(0, .e (.one (.pure (.sl (p0.map Ai))))), (6, .e (.one (.pure (.val (.int .u64 v3.2))))), (26, .e (.one (.pure (.val (.bool v5)))))] []) (fun j5 h => ?_) (fun v5 h => ?_)
   ·refine Aa Ac rfl (qm rfl (Fw rfl (qm rfl ?_)))
    refine AE (t := 23) rfl (fun c6 => ?_) (fun c6 => ?_)
    ·have h := Am c6 h
     refine qn rfl (qn rfl (qp rfl (Ad ?_)))
     exact Au _ h (sm [] _ _ rfl rfl)
    ·have h := An c6 h
     refine qm rfl (Fw rfl (qp rfl (Ad ?_)))
     exact Au _ h (sm [] _ _ rfl rfl)
   ·refine Ap rfl (fun c7 => ?_) (fun c7 => ?_)
    ·have h := Am c7 h
     refine Aa Ac rfl ?_
     cases h
    ·have h := An c7 h
     refine Ar ?_
     exact Au _ h (sm [] _ _ rfl rfl)
  ·refine Ab (Aa Ac rfl (qm rfl (GT O8 Ri rfl ?_)))
   obtain ⟨c8, h⟩ := AK h
   refine LE (.p rfl) rfl rfl rfl AI DP L2 (A5 rfl) KI rfl rfl rfl c8.1 c8.2.1 c8.2.2 (Qy Ai _ ((0 : Int))) ?_
   refine qa rfl (Ad (Ab (Aa Ac rfl (qm rfl (qm rfl ?_)))))
   refine Qx Ai (List.replicate ((IntKind.wrap .i64 v3.2)).toNat ((0 : Int))) p0 (.p rfl) rfl (HB Ai _ _ (List.replicate ((IntKind.wrap .i64 v3.2)).toNat ((0 : Int)))) rfl rfl (Ti Ai _ _ (fun _ => rfl)) trivial AI DP ?_
   refine qa rfl (Ad (Ab ?_))
   refine AJ (L := DM N) h (fun v9 => mk [(7, .e (.one (.own 2001))), (8, .e (.one (.pure (.val (.int .i64 v9.2)))))] [(2001, .vec 1 (v9.1.map Ai))]) (fun v10 => mk [(7, .e (.one (.own 2002)))] [(2002, .vec 1 (v10.map Ai))]) (fun _ _ => rfl) (sm [(2001, 30)] _ _ rfl rfl) (fun j9 n9 v9 h => ?_) (fun v10 s h hs => ?_)
   ·unfold DM at h
    refine Ab (Ab (Aa Ac rfl (qm rfl (qm rfl (DU AI rfl (A2 rfl (Ad ?_)))))))
    refine Ap rfl (fun c11 => ?_) (fun c11 => ?_)
    ·have h := Am c11 h
     refine Ar (AN (Aa Ac rfl (qm rfl (qm rfl (qm rfl ?_)))))
     obtain ⟨c12, h⟩ := AK h
     have w13 : ((v9.2).toNat) + ((v9.1.length - (v9.2).toNat)) ≤ v9.1.length := by have := c12.2.1; have := c12.2.2; omega
     refine Ie Ai v9.1 (.p rfl) rfl (HB Ai _ _ v9.1) rfl AI DP (.some _ _ _ _ c12.1) (.none _) ⟨rfl, trivial⟩ trivial c12.2.1 (by rw [Nat.zero_add]; exact c12.2.2) (Nat.zero_add _) rfl ?_
     refine qm rfl (qm rfl ?_)
     obtain ⟨c14, h⟩ := AK h
     have w15 : 0 + ((v9.2).toNat) ≤ v9.1.length := by have := c14.2.1; have := c14.2.2; omega
     refine Ie Ai v9.1 (.p rfl) rfl (HB Ai _ _ v9.1) rfl AI DP (.none _) (.some _ _ _ _ c14.1) trivial ⟨rfl, trivial⟩ c14.2.1 (by rw [Nat.zero_add]; exact c14.2.2) (Nat.zero_add _) rfl ?_
     refine Qx Ai v9.1 (((v9.1.drop 0).take ((v9.2).toNat))) (.p rfl) rfl (Lo Ai _ _ ((v9.2).toNat) ((v9.1.length - (v9.2).toNat)) v9.1 w13) rfl rfl (QV Ai _ _ 0 ((v9.2).toNat) v9.1 w15) ⟨rfl, trivial⟩ AI DP ?_
     refine AY rfl (qa rfl (AM (by kernel_rfl) ?_))
     exact Au _ h (sm [] _ _ rfl rfl)
    ·have h := An c11 h
     refine AX ?_
     exact Au _ h (sm [(2002, 2001)] _ _ rfl rfl)
   ·refine Al hs (Ab (Aa Ac rfl (qm rfl (qa rfl (Ad ?_)))))
    obtain rfl := sj h
    refine Al (sm [(1000, 2002)] [(4, .e (.one (.own 1000)))] [(1000, .vec 1 (v10.map Ai))] rfl rfl) (Az ?_)
    exact ⟨⟨[_], ⟨.tmp _ _ rfl, trivial⟩, rfl⟩, ⟨rfl, trivial⟩⟩
set_option maxRecDepth 10000 in
theorem Jg (N : Nat) (p0 : AF) (r : Bool) (h : E9 N p0 = some r) : AC Tryz.prog 77 [.e (.agg [.pure (.val (.int .i64 p0.fKind)), .pure (.val (.int .i64 p0.fFrom)), .pure (.val (.int .i64 p0.fTo)), .pure (.val (.bool p0.fAware)), .pure (.sl (p0.fOK.map (ER eB))), .pure (.sl (p0.fRewrite.map (ER eB)))])] [] (.e (.one (.pure (.val (.bool r))))) := by
 unfold E9 at h
 refine As (n := 11) (rs := [.tmp 2]) Tryz.func77 rfl rfl rfl (A5 rfl) (A5 rfl) rfl fun w0 S0 => ?_
 refine Ab (Aa Ac rfl (qb rfl (qa rfl (Ad ?_))))
 refine AO h (fun v1 => mk [(2, .e (.one (.pure (.val (.bool v1)))))] []) (fun j1 h => ?_) (fun v1 h => ?_)
 ·refine Aa Ac rfl (qf FK rfl (ql Cz rfl (BK rfl (qm rfl ?_))))
  refine AE (t := 6) rfl (fun c2 => ?_) (fun c2 => ?_)
  ·have h := Am c2 h
   refine qn rfl (qn rfl (qn rfl (qp rfl (qa rfl (Ad ?_)))))
   exact Au _ h (sm [] _ _ rfl rfl)
  ·have h := An c2 h
   refine qf FK rfl (ql Cz rfl (BK rfl (qp rfl (qa rfl (Ad ?_)))))
   exact Au _ h (sm [] _ _ rfl rfl)
 ·obtain rfl := sj h
  refine Al (sm [] [(2, .e (.one (.pure (.val (.bool v1)))))] [] rfl rfl) (Az ?_)
  exact ⟨⟨[_], ⟨.tmp _ _ rfl, trivial⟩, rfl⟩, trivial⟩
set_option maxRecDepth 10000 in
theorem LO (N : Nat) (p0 : Ag) (r : Ae × Int) (h : F6 N p0 = some r) : AC Tryz.prog 55 [.e (.agg [.pure (.sl (p0.fVersions.map Ai)), .pure (.sl (p0.fNow.map Ai)), .pure (.sl (p0.fTarget.map Ai)), .pure (.sl (p0.fTables.map Ao))])] [(1, r.1.fBase.map Ai), (1, r.1.fNext.map Ai), (1, r.1.fHeld.map Bb)] (.tup [.agg [.own 0, .own 1, .own 2], .one (.pure (.val (.int .i64 r.2)))]) := by
 unfold F6 at h
 refine As (n := 50) (rs := [.cell 2 50, .tmp 3]) Tryz.func55 rfl rfl rfl (A5 rfl) (A5 rfl) rfl fun w0 S0 => ?_
 refine Ab (Aa Ac rfl (qb rfl (qz CX rfl (qa rfl (Ad (Ab (Ab (Aa Ac rfl (qL D4 DQ rfl ?_)))))))))
 obtain ⟨v1, a1, h⟩ := bind_some h
 refine AH [] (Hx N p0 v1 a1) VH rfl (qa rfl (Ad (Ab (Aa Ac rfl (qm rfl (Cw rfl (Ad ?_)))))))
 refine Ap rfl (fun c2 => ?_) (fun c2 => ?_)
 ·have h := Am c2 h
  refine Ab (Aa Ac rfl (BM CX HL rfl (qm rfl (qs Ax rfl (qa rfl (Ad ?_))))))
  obtain rfl := sj h
  refine Al ((AB 2 0 2001 1 _ rfl rfl rfl rfl).trans ((AB 2 1 2002 1 _ rfl rfl rfl rfl).trans ((AB 2 2 2003 1 _ rfl rfl rfl rfl).trans (sm [(1000, 2001), (1001, 2002), (1002, 2003)] [(2, .e (.one (.ptr 2 0))), (3, .e (.one (.pure (.val (.int .i64 v1)))))] [(2, .box [.own 1000, .own 1001, .own 1002]), (1000, .vec 1 ((([] : List Int)).map Ai)), (1001, .vec 1 ((([] : List Int)).map Ai)), (1002, .vec 1 ((([] : List Int)).map Bb))] rfl rfl)))) (Az ?_)
  exact ⟨⟨[_, _], ⟨.cellN _ _ _ _ _ _ _ rfl rfl A1 Ax rfl rfl (I7 rfl), ⟨.tmp _ _ rfl, trivial⟩⟩, rfl⟩, ⟨rfl, rfl, rfl, trivial⟩⟩
 ·have h := An c2 h
  refine Ar (Ab (Aa Ac rfl (qf Gy rfl (ql Be rfl ?_))))
  obtain ⟨v3, a3, h⟩ := bind_some h
  refine AH [2004] (DS N p0.fNow v3 a3) Rm rfl (Ep AI DP KI rfl (qf Gy rfl (ql Be rfl (AZ AI rfl ?_))))
  obtain ⟨v4, a4, h⟩ := bind_some h
  refine EF [2005] [17] (I6 N (([(-1)] : List Int)) ((p0.fNow.length : Int)) v4 a4) Wj (EO (fun _ => rfl) C8) rfl (qf CS rfl (ql GZ rfl (AZ D9 rfl ?_)))
  obtain ⟨c5, h⟩ := AK h
  refine LE (.p rfl) rfl rfl rfl Dm FG PM (A5 rfl) Oi rfl rfl rfl c5.1 c5.2.1 c5.2.2 (Qy Bb _ ((0 : Int))) ?_
  refine BM CX HL rfl (qz CX rfl (qs Ax rfl (AM (by kernel_rfl) (Ab (Ab (Aa Ac rfl (qf CS rfl (ql GZ rfl (AZ D9 rfl (qm rfl (Ad ?_)))))))))))
  refine AJ (L := D1 N p0) h (fun v6 => mk [(1, .e (.one (.ptr 1 0))), (2, .e (.one (.ptr 2 0))), (5, .e (.one (.ptr 5 0))), (28, .e (.one (.pure (.sl (p0.fTables.map Ao))))), (29, .e (.one (.pure (.val (.int .i64 ((p0.fTables.length : Int))))))), (30, .e (.one (.pure (.val (.int .i64 v6.2)))))] [(1, .box [.pure (.sl (p0.fVersions.map Ai)), .pure (.sl (p0.fNow.map Ai)), .pure (.sl (p0.fTarget.map Ai)), .pure (.sl (p0.fTables.map Ao))]), (2, .box [.pure (.nil0), .pure (.nil0), .pure (.nil0)]), (5, .box [.own 2006, .own 2007, .own 2008]), (2006, .vec 1 (v3.map Ai)), (2007, .vec 1 (v4.map Ai)), (2008, .vec 1 (v6.1.map Bb))]) (fun v7 => mk [(2, .e (.one (.ptr 2 0))), (5, .e (.one (.ptr 5 0)))] [(2, .box [.pure (.nil0), .pure (.nil0), .pure (.nil0)]), (5, .box [.own 2009, .own 2010, .own 2011]), (2009, .vec 1 (v3.map Ai)), (2010, .vec 1 (v4.map Ai)), (2011, .vec 1 (v7.map Bb))]) (fun _ _ => rfl) (sm [(2006, 2004), (2007, 2005), (2008, 25)] _ _ rfl rfl) (fun j6 n6 v6 h => ?_) (fun v7 s h hs => ?_)
  ·unfold D1 at h
   refine Ab (Aa Ac rfl (A2 rfl (Ad (Ab ?_))))
   refine Ap rfl (fun c8 => ?_) (fun c8 => ?_)
   ·have h := Am c8 h
    refine Ar ?_
    refine AO h (fun v9 => mk [(1, .e (.one (.ptr 1 0))), (2, .e (.one (.ptr 2 0))), (5, .e (.one (.ptr 5 0))), (28, .e (.one (.pure (.sl (p0.fTables.map Ao))))), (29, .e (.one (.pure (.val (.int .i64 ((p0.fTables.length : Int))))))), (30, .e (.one (.pure (.val (.int .i64 v6.2)))))] [(1, .box [.pure (.sl (p0.fVersions.map Ai)), .pure (.sl (p0.fNow.map Ai)), .pure (.sl (p0.fTarget.map Ai)), .pure (.sl (p0.fTables.map Ao))]), (2, .box [.pure (.nil0), .pure (.nil0), .pure (.nil0)]), (5, .box [.own 2012, .own 2013, .own 2014]), (2012, .vec 1 (v3.map Ai)), (2013, .vec 1 (v4.map Ai)), (2014, .vec 1 (v9.map Bb))]) (fun j9 h => ?_) (fun v9 h => ?_)
    ·refine AN (Ab (Aa Ac rfl (qm rfl ?_)))
     obtain ⟨v10, a10, b10, h⟩ := Aj h
     refine qi D9 D8 a10 (Ah b10) rfl (qK Hj D8 rfl (qz J4 rfl (qa rfl (qs D8 rfl (Ad (Ab (Aa Ac rfl (qL Hj D8 rfl ?_))))))))
     obtain ⟨v11, a11, h⟩ := bind_some h
     refine AH [] (Jg N v10 v11 a11) UO rfl (Ad ?_)
     refine Ap rfl (fun c12 => ?_) (fun c12 => ?_)
     ·have h := Am c12 h
      refine Aa Ac rfl (qf CT rfl (ql G6 rfl (qm rfl (qf Gy rfl (ql Be rfl (qf De rfl (ql Cz rfl ?_)))))))
      obtain ⟨v13, a13, b13, h⟩ := Aj h
      refine qi AI DP a13 (Ah b13) rfl (qk Cz rfl ?_)
      obtain ⟨c14, h⟩ := AK h
      refine HF rfl c14 ?_
      obtain ⟨v15, a15, b15, h⟩ := Aj h
      refine qI Dm FG a15 (Ah b15) rfl ?_
      refine A7 rfl rfl rfl rfl (Ah b15) rfl FG rfl (A5 rfl) (A8 Bb v6.1 _ ((CJ .u8 1 v13))) ?_
      refine AM (by kernel_rfl) ?_
      exact Au _ h (sm [(2012, 2006), (2013, 2007), (2014, 2008)] _ _ rfl rfl)
     ·have h := An c12 h
      refine Ar ?_
      exact Au _ h (sm [(2012, 2006), (2013, 2007), (2014, 2008)] _ _ rfl rfl)
    ·refine Aa Ac rfl (AY rfl (qm rfl (Ad ?_)))
     exact Au _ h (sm [(2006, 2012), (2007, 2013), (2008, 2014)] _ _ rfl rfl)
   ·have h := An c8 h
    refine AX ?_
    exact Au _ h (sm [(2009, 2006), (2010, 2007), (2011, 2008)] _ _ rfl rfl)
  ·refine Al hs (Ab (Aa Ac rfl (qL A1 Ax rfl (qs Ax rfl (qa rfl (Ad ?_))))))
   obtain rfl := sj h
   refine Al (sm [(1000, 2009), (1001, 2010), (1002, 2011)] [(2, .e (.one (.ptr 2 0))), (3, .e (.one (.pure (.val (.int .i64 0)))))] [(2, .box [.own 1000, .own 1001, .own 1002]), (1000, .vec 1 (v3.map Ai)), (1001, .vec 1 (v4.map Ai)), (1002, .vec 1 (v7.map Bb))] rfl rfl) (Az ?_)
   exact ⟨⟨[_, _], ⟨.cellN _ _ _ _ _ _ _ rfl rfl A1 Ax rfl rfl (I7 rfl), ⟨.tmp _ _ rfl, trivial⟩⟩, rfl⟩, ⟨rfl, rfl, rfl, trivial⟩⟩
set_option maxRecDepth 10000 in
theorem IM (N : Nat) (p0 : Ae) (p1 : Int) (r : Int) (h : ES N p0 p1 = some r) : AC Tryz.prog 80 [.e (.agg [.pure (.sl (p0.fBase.map Ai)), .pure (.sl (p0.fNext.map Ai)), .pure (.sl (p0.fHeld.map Bb))]), .e (.one (.pure (.val (.int .i64 p1))))] [] (.e (.one (.pure (.val (.int .u8 r))))) := by
 unfold ES at h
 refine As (n := 27) (rs := [.tmp 4]) Tryz.func80 rfl rfl rfl (A5 rfl) (A5 rfl) rfl fun w0 S0 => ?_
 refine Ab (Aa Ac rfl (qb rfl (qa rfl (Ad (Ab (Aa Ac rfl (qf Db rfl (ql Be rfl (qm rfl ?_)))))))))
 obtain ⟨v1, a1, b1, h⟩ := Aj h
 refine qi AI DP a1 (Ah b1) rfl (qk Cz rfl ?_)
 obtain ⟨c2, h⟩ := AK h
 refine HF rfl c2 (qa rfl (Ad ?_))
 refine AO h (fun v3 => mk [(5, .e (.one (.pure (.val (.int .u8 v3)))))] []) (fun j3 h => ?_) (fun v3 h => ?_)
 ·refine Ab (Aa Ac rfl (qf BG rfl (ql Be rfl (qm rfl ?_))))
  obtain ⟨v4, a4, b4, h⟩ := Aj h
  refine qi AI DP a4 (Ah b4) rfl (qk Cz rfl (Dx rfl (Ad ?_)))
  refine Ap rfl (fun c5 => ?_) (fun c5 => ?_)
  ·have h := Am c5 h
   refine Aa Ac rfl (qm rfl (qf BG rfl (ql Be rfl (qm rfl ?_))))
   obtain ⟨v6, a6, b6, h⟩ := Aj h
   refine qi AI DP a6 (Ah b6) rfl (qk Cz rfl ?_)
   obtain ⟨c7, h⟩ := AK h
   refine HF rfl c7 (SE rfl (qa rfl (Ad ?_)))
   exact Au _ h (sm [] _ _ rfl rfl)
  ·have h := An c5 h
   refine Ar ?_
   exact Au _ h (sm [] _ _ rfl rfl)
 ·refine Ab (Aa Ac rfl (qm rfl (qa rfl (Ad ?_))))
  obtain rfl := sj h
  refine Al (sm [] [(4, .e (.one (.pure (.val (.int .u8 v3)))))] [] rfl rfl) (Az ?_)
  exact ⟨⟨[_], ⟨.tmp _ _ rfl, trivial⟩, rfl⟩, trivial⟩
set_option maxRecDepth 10000 in
theorem Iq (N : Nat) (p0 : Ag) (p1 : Ae) (r : Int) (h : E3 N p0 p1 = some r) : AC Tryz.prog 57 [.e (.agg [.pure (.sl (p0.fVersions.map Ai)), .pure (.sl (p0.fNow.map Ai)), .pure (.sl (p0.fTarget.map Ai)), .pure (.sl (p0.fTables.map Ao))]), .e (.agg [.pure (.sl (p1.fBase.map Ai)), .pure (.sl (p1.fNext.map Ai)), .pure (.sl (p1.fHeld.map Bb))])] [] (.e (.one (.pure (.val (.int .i64 r))))) := by
 unfold E3 at h
 refine As (n := 135) (rs := [.tmp 4]) Tryz.func57 rfl rfl rfl (A5 rfl) (A5 rfl) rfl fun w0 S0 => ?_
 refine Ab (Aa Ac rfl (qb rfl (qb rfl (qa rfl (Ad (Ab (Ab (Aa Ac rfl (qL D4 DQ rfl ?_)))))))))
 obtain ⟨v1, a1, h⟩ := bind_some h
 refine AH [] (Hx N p0 v1 a1) VH rfl (qa rfl (Ad (Ab (Aa Ac rfl (qm rfl (Cw rfl (Ad ?_)))))))
 refine Ap rfl (fun c2 => ?_) (fun c2 => ?_)
 ·have h := Am c2 h
  refine Ab (Aa Ac rfl (qm rfl (qa rfl (Ad ?_))))
  obtain rfl := sj h
  refine Al (sm [] [(4, .e (.one (.pure (.val (.int .i64 v1)))))] [] rfl rfl) (Az ?_)
  exact ⟨⟨[_], ⟨.tmp _ _ rfl, trivial⟩, rfl⟩, trivial⟩
 ·have h := An c2 h
  refine Ar (Ab ?_)
  refine AO h (fun v3 => mk [(2, .e (.one (.ptr 2 0))), (3, .e (.one (.ptr 3 0))), (41, .e (.one (.pure (.val (.bool v3)))))] [(2, .box [.pure (.sl (p0.fVersions.map Ai)), .pure (.sl (p0.fNow.map Ai)), .pure (.sl (p0.fTarget.map Ai)), .pure (.sl (p0.fTables.map Ao))]), (3, .box [.pure (.sl (p1.fBase.map Ai)), .pure (.sl (p1.fNext.map Ai)), .pure (.sl (p1.fHeld.map Bb))])]) (fun j3 h => ?_) (fun v3 h => ?_)
  ·refine Aa Ac rfl (qf Db rfl (ql Be rfl (AZ AI rfl (qf Bu rfl (ql Be rfl (AZ AI rfl (Cw rfl (qm rfl ?_))))))))
   refine AE (t := 24) rfl (fun c4 => ?_) (fun c4 => ?_)
   ·have h := Am c4 h
    refine qn rfl (qn rfl (qn rfl (qn rfl (qn rfl (qn rfl (qn rfl (qp rfl (qm rfl (qn rfl (qn rfl (qn rfl (qn rfl (qn rfl (qn rfl (qn rfl (qp rfl (Ad ?_)))))))))))))))))
    exact Au _ h (sm [] _ _ rfl rfl)
   ·have h := An c4 h
    refine qf BG rfl (ql Be rfl (AZ AI rfl (qf Bu rfl (ql Be rfl (AZ AI rfl (Cw rfl (qp rfl (qm rfl ?_))))))))
    refine AE (t := 33) rfl (fun c5 => ?_) (fun c5 => ?_)
    ·have h := Am c5 h
     refine qn rfl (qn rfl (qn rfl (qn rfl (qn rfl (qn rfl (qn rfl (qp rfl (Ad ?_))))))))
     exact Au _ h (sm [] _ _ rfl rfl)
    ·have h := An c5 h
     refine qf CT rfl (ql G6 rfl (AZ Dm rfl (qf CS rfl (ql GZ rfl (AZ D9 rfl (Cw rfl (qp rfl (Ad ?_))))))))
     exact Au _ h (sm [] _ _ rfl rfl)
  ·refine Ap rfl (fun c6 => ?_) (fun c6 => ?_)
   ·have h := Am c6 h
    refine Ab (Aa Ac rfl (qa rfl (Ad ?_)))
    obtain rfl := sj h
    refine Al (sm [] [(4, .e (.one (.pure (.val (.int .i64 6)))))] [] rfl rfl) (Az ?_)
    exact ⟨⟨[_], ⟨.tmp _ _ rfl, trivial⟩, rfl⟩, trivial⟩
   ·have h := An c6 h
    refine Ar (Ab (Ab (Aa Ac rfl (qf Bu rfl (ql Be rfl (AZ AI rfl (qm rfl (Ad ?_))))))))
    refine AJ (L := D0 N p0 p1) h (fun v7 => mk [(2, .e (.one (.ptr 2 0))), (3, .e (.one (.ptr 3 0))), (43, .e (.one (.pure (.sl (p0.fVersions.map Ai))))), (44, .e (.one (.pure (.val (.int .i64 ((p0.fVersions.length : Int))))))), (45, .e (.one (.pure (.val (.int .i64 v7)))))] [(2, .box [.pure (.sl (p0.fVersions.map Ai)), .pure (.sl (p0.fNow.map Ai)), .pure (.sl (p0.fTarget.map Ai)), .pure (.sl (p0.fTables.map Ao))]), (3, .box [.pure (.sl (p1.fBase.map Ai)), .pure (.sl (p1.fNext.map Ai)), .pure (.sl (p1.fHeld.map Bb))])]) (fun v8 => mk [(2, .e (.one (.ptr 2 0))), (3, .e (.one (.ptr 3 0)))] [(2, .box [.pure (.sl (p0.fVersions.map Ai)), .pure (.sl (p0.fNow.map Ai)), .pure (.sl (p0.fTarget.map Ai)), .pure (.sl (p0.fTables.map Ao))]), (3, .box [.pure (.sl (p1.fBase.map Ai)), .pure (.sl (p1.fNext.map Ai)), .pure (.sl (p1.fHeld.map Bb))])]) (fun _ _ => rfl) (sm [] _ _ rfl rfl) (fun j7 n7 v7 h => ?_) (fun v8 s h hs => ?_)
    ·unfold D0 at h
     refine Ab (Aa Ac rfl (A2 rfl (Ad (Ab ?_))))
     refine Ap rfl (fun c9 => ?_) (fun c9 => ?_)
     ·have h := Am c9 h
      refine Ar (Ab (AN (Ab (Aa Ac rfl (qm rfl ?_)))))
      obtain ⟨v10, a10, b10, h⟩ := Aj h
      refine qi AI DP a10 (Ah b10) rfl (qk Cz rfl (qa rfl (qa rfl (Ad (Ab ?_)))))
      refine AO h (fun v11 => mk [(2, .e (.one (.ptr 2 0))), (3, .e (.one (.ptr 3 0))), (6, .e (.one (.pure (.val (.int .i64 v7))))), (43, .e (.one (.pure (.sl (p0.fVersions.map Ai))))), (44, .e (.one (.pure (.val (.int .i64 ((p0.fVersions.length : Int))))))), (45, .e (.one (.pure (.val (.int .i64 v7))))), (81, .e (.one (.pure (.val (.bool v11)))))] [(2, .box [.pure (.sl (p0.fVersions.map Ai)), .pure (.sl (p0.fNow.map Ai)), .pure (.sl (p0.fTarget.map Ai)), .pure (.sl (p0.fTables.map Ao))]), (3, .box [.pure (.sl (p1.fBase.map Ai)), .pure (.sl (p1.fNext.map Ai)), .pure (.sl (p1.fHeld.map Bb))])]) (fun j11 h => ?_) (fun v11 h => ?_)
      ·refine Aa Ac rfl (qf Db rfl (ql Be rfl (qm rfl ?_)))
       obtain ⟨v12, a12, b12, h⟩ := Aj h
       refine qi AI DP a12 (Ah b12) rfl (qk Cz rfl (A2 rfl (qm rfl ?_)))
       refine AE (t := 56) rfl (fun c13 => ?_) (fun c13 => ?_)
       ·have h := Am c13 h
        refine qn rfl (qn rfl (qn rfl (qn rfl (qn rfl (qn rfl (qn rfl (qp rfl (qm rfl (qn rfl (qn rfl (qn rfl (qn rfl (qn rfl (qn rfl (qp rfl (qm rfl (qn rfl (qn rfl (qn rfl (qn rfl (qn rfl (qn rfl (qn rfl (qp rfl (Ad ?_)))))))))))))))))))))))))
        exact Au _ h (sm [] _ _ rfl rfl)
       ·have h := An c13 h
        refine qf Db rfl (ql Be rfl (qm rfl ?_))
        obtain ⟨v14, a14, b14, h⟩ := Aj h
        refine qi AI DP a14 (Ah b14) rfl (qk Cz rfl (qm rfl (Dx rfl (qp rfl (qm rfl ?_)))))
        refine AE (t := 65) rfl (fun c15 => ?_) (fun c15 => ?_)
        ·have h := Am c15 h
         refine qn rfl (qn rfl (qn rfl (qn rfl (qn rfl (qn rfl (qp rfl (qm rfl (qn rfl (qn rfl (qn rfl (qn rfl (qn rfl (qn rfl (qn rfl (qp rfl (Ad ?_))))))))))))))))
         exact Au _ h (sm [] _ _ rfl rfl)
        ·have h := An c15 h
         refine qf BG rfl (ql Be rfl (qm rfl ?_))
         obtain ⟨v16, a16, b16, h⟩ := Aj h
         refine qi AI DP a16 (Ah b16) rfl (qk Cz rfl (A2 rfl (qp rfl (qm rfl ?_))))
         refine AE (t := 73) rfl (fun c17 => ?_) (fun c17 => ?_)
         ·have h := Am c17 h
          refine qn rfl (qn rfl (qn rfl (qn rfl (qn rfl (qn rfl (qn rfl (qp rfl (Ad ?_))))))))
          exact Au _ h (sm [] _ _ rfl rfl)
         ·have h := An c17 h
          refine qf BG rfl (ql Be rfl (qm rfl ?_))
          obtain ⟨v18, a18, b18, h⟩ := Aj h
          refine qi AI DP a18 (Ah b18) rfl (qk Cz rfl (qm rfl (Dx rfl (qp rfl (Ad ?_)))))
          exact Au _ h (sm [] _ _ rfl rfl)
      ·refine Ap rfl (fun c19 => ?_) (fun c19 => ?_)
       ·have h := Am c19 h
        refine Ab (Aa Ac rfl (qa rfl (Ad ?_)))
        obtain rfl := sj h
        refine Al (sm [] [(4, .e (.one (.pure (.val (.int .i64 7)))))] [] rfl rfl) (Az ?_)
        exact ⟨⟨[_], ⟨.tmp _ _ rfl, trivial⟩, rfl⟩, trivial⟩
       ·have h := An c19 h
        refine Ar (Ab (Aa Ac rfl (qf Db rfl (ql Be rfl (qm rfl ?_)))))
        obtain ⟨v20, a20, b20, h⟩ := Aj h
        refine qi AI DP a20 (Ah b20) rfl (qk Cz rfl (qf BG rfl (ql Be rfl (qm rfl ?_))))
        obtain ⟨v21, a21, b21, h⟩ := Aj h
        refine qi AI DP a21 (Ah b21) rfl (qk Cz rfl (BK rfl (AM (by kernel_rfl) ?_)))
        refine Ap rfl (fun c22 => ?_) (fun c22 => ?_)
        ·have h := Am c22 h
         refine Ab (Aa Ac rfl (qa rfl (Ad ?_)))
         obtain rfl := sj h
         refine Al (sm [] [(4, .e (.one (.pure (.val (.int .i64 1)))))] [] rfl rfl) (Az ?_)
         exact ⟨⟨[_], ⟨.tmp _ _ rfl, trivial⟩, rfl⟩, trivial⟩
        ·have h := An c22 h
         refine Ar (Aa Ac rfl (AY rfl (qm rfl (Ad ?_))))
         exact Au _ h (sm [] _ _ rfl rfl)
     ·have h := An c9 h
      refine AX ?_
      exact Au _ h (sm [] _ _ rfl rfl)
    ·refine Al hs (Ab (Ab (Aa Ac rfl (qf CS rfl (ql GZ rfl (AZ D9 rfl (qm rfl (Ad ?_))))))))
     refine AJ (L := DJ N p0 p1) h (fun v23 => mk [(2, .e (.one (.ptr 2 0))), (3, .e (.one (.ptr 3 0))), (95, .e (.one (.pure (.sl (p0.fTables.map Ao))))), (96, .e (.one (.pure (.val (.int .i64 ((p0.fTables.length : Int))))))), (97, .e (.one (.pure (.val (.int .i64 v23)))))] [(2, .box [.pure (.sl (p0.fVersions.map Ai)), .pure (.sl (p0.fNow.map Ai)), .pure (.sl (p0.fTarget.map Ai)), .pure (.sl (p0.fTables.map Ao))]), (3, .box [.pure (.sl (p1.fBase.map Ai)), .pure (.sl (p1.fNext.map Ai)), .pure (.sl (p1.fHeld.map Bb))])]) (fun v24 => mk [] []) (fun _ _ => rfl) (sm [] _ _ rfl rfl) (fun j23 n23 v23 h => ?_) (fun v24 s h hs => ?_)
     ·unfold DJ at h
      refine Ab (Aa Ac rfl (A2 rfl (Ad (Ab ?_))))
      refine Ap rfl (fun c25 => ?_) (fun c25 => ?_)
      ·have h := Am c25 h
       refine Ar (Ab (AN (Ab (Aa Ac rfl (qm rfl ?_)))))
       obtain ⟨v26, a26, b26, h⟩ := Aj h
       refine qi D9 D8 a26 (Ah b26) rfl (qK Hj D8 rfl (qz J4 rfl (qa rfl (qs D8 rfl (Ad (Ab (Aa Ac rfl (qa rfl (qa rfl (Ad ?_))))))))))
       refine AO h (fun v27 => mk [(2, .e (.one (.ptr 2 0))), (3, .e (.one (.ptr 3 0))), (8, .e (.one (.pure (.val (.int .i64 v23))))), (10, .e (.one (.pure (.val (.int .u8 v27.1))))), (11, .e (.one (.pure (.val (.int .u8 v27.2))))), (95, .e (.one (.pure (.sl (p0.fTables.map Ao))))), (96, .e (.one (.pure (.val (.int .i64 ((p0.fTables.length : Int))))))), (97, .e (.one (.pure (.val (.int .i64 v23)))))] [(2, .box [.pure (.sl (p0.fVersions.map Ai)), .pure (.sl (p0.fNow.map Ai)), .pure (.sl (p0.fTarget.map Ai)), .pure (.sl (p0.fTables.map Ao))]), (3, .box [.pure (.sl (p1.fBase.map Ai)), .pure (.sl (p1.fNext.map Ai)), .pure (.sl (p1.fHeld.map Bb))])]) (fun j27 h => ?_) (fun v27 h => ?_)
       ·refine Ab (Aa Ac rfl (qL Hj D8 rfl ?_))
        obtain ⟨v28, a28, h⟩ := bind_some h
        refine AH [] (Jg N v26 v28 a28) UO rfl (Ad ?_)
        refine Ap rfl (fun c29 => ?_) (fun c29 => ?_)
        ·have h := Am c29 h
         refine Aa Ac rfl (qL A1 Ax rfl (qf De rfl (ql Cz rfl ?_)))
         obtain ⟨v30, a30, h⟩ := bind_some h
         refine AH [] (IM N p1 v26.fFrom v30 a30) Up rfl (qf Bu rfl (ql Be rfl (qf De rfl (ql Cz rfl ?_))))
         obtain ⟨v31, a31, b31, h⟩ := Aj h
         refine qi AI DP a31 (Ah b31) rfl (qk Cz rfl ?_)
         obtain ⟨c32, h⟩ := AK h
         refine HF rfl c32 (CQ rfl (qa rfl (qa rfl (AM (by kernel_rfl) ?_))))
         exact Au _ h (sm [] _ _ rfl rfl)
        ·have h := An c29 h
         refine Ar ?_
         exact Au _ h (sm [] _ _ rfl rfl)
       ·refine AO h (fun v33 => mk [(2, .e (.one (.ptr 2 0))), (3, .e (.one (.ptr 3 0))), (95, .e (.one (.pure (.sl (p0.fTables.map Ao))))), (96, .e (.one (.pure (.val (.int .i64 ((p0.fTables.length : Int))))))), (97, .e (.one (.pure (.val (.int .i64 v23))))), (133, .e (.one (.pure (.val (.bool v33)))))] [(2, .box [.pure (.sl (p0.fVersions.map Ai)), .pure (.sl (p0.fNow.map Ai)), .pure (.sl (p0.fTarget.map Ai)), .pure (.sl (p0.fTables.map Ao))]), (3, .box [.pure (.sl (p1.fBase.map Ai)), .pure (.sl (p1.fNext.map Ai)), .pure (.sl (p1.fHeld.map Bb))])]) (fun j33 h => ?_) (fun v33 h => ?_)
        ·refine Aa Ac rfl (qm rfl (qf CT rfl (ql G6 rfl (qm rfl ?_))))
         obtain ⟨v34, a34, b34, h⟩ := Aj h
         refine qi Dm FG a34 (Ah b34) rfl (qk Ju rfl (Id rfl (Cw rfl (qm rfl ?_))))
         refine AE (t := 124) rfl (fun c35 => ?_) (fun c35 => ?_)
         ·have h := Am c35 h
          refine qn rfl (qn rfl (qn rfl (qn rfl (qn rfl (qn rfl (qn rfl (qn rfl (qp rfl (Ad ?_)))))))))
          exact Au _ h (sm [] _ _ rfl rfl)
         ·have h := An c35 h
          refine qf CT rfl (ql G6 rfl (qm rfl ?_))
          obtain ⟨v36, a36, b36, h⟩ := Aj h
          refine qi Dm FG a36 (Ah b36) rfl (qk Ju rfl (qm rfl (Id rfl (Cw rfl (qp rfl (Ad ?_))))))
          exact Au _ h (sm [] _ _ rfl rfl)
        ·refine Ap rfl (fun c37 => ?_) (fun c37 => ?_)
         ·have h := Am c37 h
          refine Ab (Aa Ac rfl (qa rfl (Ad ?_)))
          obtain rfl := sj h
          refine Al (sm [] [(4, .e (.one (.pure (.val (.int .i64 1)))))] [] rfl rfl) (Az ?_)
          exact ⟨⟨[_], ⟨.tmp _ _ rfl, trivial⟩, rfl⟩, trivial⟩
         ·have h := An c37 h
          refine Ar (Aa Ac rfl (AY rfl (qm rfl (Ad ?_))))
          exact Au _ h (sm [] _ _ rfl rfl)
      ·have h := An c25 h
       refine AX ?_
       exact Au _ h (sm [] _ _ rfl rfl)
     ·refine Al hs (Ab (Aa Ac rfl (qa rfl (Ad ?_))))
      obtain rfl := sj h
      refine Al (sm [] [(4, .e (.one (.pure (.val (.int .i64 0)))))] [] rfl rfl) (Az ?_)
      exact ⟨⟨[_], ⟨.tmp _ _ rfl, trivial⟩, rfl⟩, trivial⟩
set_option maxRecDepth 10000 in
theorem Fl (N : Nat) (p0 : List Int) (r : (List Int)) (h : BP N p0 = some r) : AC Tryz.prog 59 [.e (.one (.pure (.sl (p0.map Bb))))] [(1, r.map Bb)] (.e (.one (.own 0))) := by
 unfold BP at h
 refine As (n := 8) (rs := [.tmp 2]) Tryz.func59 rfl rfl rfl (A5 rfl) (A5 rfl) rfl fun w0 S0 => ?_
 refine Ab (Aa Ac rfl (qa rfl (Ad (Ab (Ab (Aa Ac rfl (qm rfl ?_)))))))
 refine OD (.p rfl) rfl Dm ?_
 refine Ad ?_
 refine Of rfl (fun c2 => ?_) ?_
 ·have c2 := List.map_eq_nil_iff.1 c2
  rw [c2] at h
  have h : (some (([] : List Int))) = some r := h
  refine Ab (Aa Ac rfl (qa rfl (Ad ?_)))
  obtain rfl := sj h
  refine Al ((Bf 2 2001 1 rfl rfl rfl).trans (sm [(1000, 2001)] [(2, .e (.one (.own 1000)))] [(1000, .vec 1 ((([] : List Int)).map Bb))] rfl rfl)) (Az ?_)
  exact ⟨⟨[_], ⟨.tmp _ _ rfl, trivial⟩, rfl⟩, ⟨rfl, trivial⟩⟩
 ·refine Ar (Ab (Aa Ac rfl (Ep Dm FG Oi rfl (qm rfl ?_))))
  obtain ⟨c1, h⟩ := AK h
  refine Jf (f := Bb) Dm Dm FG PM Oi (fun _ => rfl) c1 rfl (qa rfl (Ad ?_))
  obtain rfl := sj h
  refine Al (sm [(1000, 7)] [(2, .e (.one (.own 1000)))] [(1000, .vec 1 (((([] : List Int)) ++ p0).map Bb))] rfl rfl) (Az ?_)
  exact ⟨⟨[_], ⟨.tmp _ _ rfl, trivial⟩, rfl⟩, ⟨rfl, trivial⟩⟩
set_option maxRecDepth 10000 in
theorem KP (N : Nat) (p0 : Ag) (p1 : Ae) (r : (List Ae) × Int) (h : Fz N p0 p1 = some r) : AC Tryz.prog 37 [.e (.agg [.pure (.sl (p0.fVersions.map Ai)), .pure (.sl (p0.fNow.map Ai)), .pure (.sl (p0.fTarget.map Ai)), .pure (.sl (p0.fTables.map Ao))]), .e (.agg [.pure (.sl (p1.fBase.map Ai)), .pure (.sl (p1.fNext.map Ai)), .pure (.sl (p1.fHeld.map Bb))])] [(3, r.1.map Af)] (.tup [.one (.own 0), .one (.pure (.val (.int .i64 r.2)))]) := by
 unfold Fz at h
 refine As (n := 75) (rs := [.tmp 4, .tmp 5]) Tryz.func37 rfl rfl rfl (A5 rfl) (A5 rfl) rfl fun w0 S0 => ?_
 refine Ab (Aa Ac rfl (qb rfl (qb rfl (qa rfl (qa rfl (Ad (Ab (Ab (Aa Ac rfl (qL D4 DQ rfl (qL A1 Ax rfl ?_)))))))))))
 obtain ⟨v1, a1, h⟩ := bind_some h
 refine AH [] (Iq N p0 p1 v1 a1) TF rfl (qa rfl (Ad (Ab (Aa Ac rfl (qm rfl (Cw rfl (Ad ?_)))))))
 refine Ap rfl (fun c2 => ?_) (fun c2 => ?_)
 ·have h := Am c2 h
  refine Ab (Aa Ac rfl (qm rfl (qa rfl (qa rfl (Ad ?_)))))
  obtain rfl := sj h
  refine Al ((Bf 4 2001 3 rfl rfl rfl).trans (sm [(1000, 2001)] [(4, .e (.one (.own 1000))), (5, .e (.one (.pure (.val (.int .i64 v1)))))] [(1000, .vec 3 ((([] : List Ae)).map Af))] rfl rfl)) (Az ?_)
  exact ⟨⟨[_, _], ⟨.tmp _ _ rfl, ⟨.tmp _ _ rfl, trivial⟩⟩, rfl⟩, ⟨rfl, trivial⟩⟩
 ·have h := An c2 h
  refine Ar (Ab (Aa Ac rfl (qa rfl (Ad (Ab (Ab (Aa Ac rfl (qf BG rfl (ql Be rfl (AZ AI rfl (qm rfl (Ad ?_))))))))))))
  refine AJ (L := DH N p1) h (fun v3 => mk [(3, .e (.one (.ptr 3 0))), (7, .e (.one (.own 2002))), (22, .e (.one (.pure (.sl (p1.fNext.map Ai))))), (23, .e (.one (.pure (.val (.int .i64 ((p1.fNext.length : Int))))))), (24, .e (.one (.pure (.val (.int .i64 v3.2)))))] [(3, .box [.pure (.sl (p1.fBase.map Ai)), .pure (.sl (p1.fNext.map Ai)), .pure (.sl (p1.fHeld.map Bb))]), (2002, .vec 1 (v3.1.map Ai))]) (fun v4 => mk [(3, .e (.one (.ptr 3 0))), (7, .e (.one (.own 2003)))] [(3, .box [.pure (.sl (p1.fBase.map Ai)), .pure (.sl (p1.fNext.map Ai)), .pure (.sl (p1.fHeld.map Bb))]), (2003, .vec 1 (v4.map Ai))]) (fun _ _ => rfl) ((Bf 7 2005 1 rfl rfl rfl).trans (sm [(2002, 2005)] _ _ rfl rfl)) (fun j3 n3 v3 h => ?_) (fun v4 s h hs => ?_)
  ·unfold DH at h
   refine Ab (Aa Ac rfl (A2 rfl (Ad (Ab ?_))))
   refine Ap rfl (fun c5 => ?_) (fun c5 => ?_)
   ·have h := Am c5 h
    refine Ar ?_
    refine AO h (fun v6 => mk [(3, .e (.one (.ptr 3 0))), (7, .e (.one (.own 2004))), (22, .e (.one (.pure (.sl (p1.fNext.map Ai))))), (23, .e (.one (.pure (.val (.int .i64 ((p1.fNext.length : Int))))))), (24, .e (.one (.pure (.val (.int .i64 v3.2)))))] [(3, .box [.pure (.sl (p1.fBase.map Ai)), .pure (.sl (p1.fNext.map Ai)), .pure (.sl (p1.fHeld.map Bb))]), (2004, .vec 1 (v6.map Ai))]) (fun j6 h => ?_) (fun v6 h => ?_)
    ·refine AN (Ab (Aa Ac rfl (qm rfl ?_)))
     obtain ⟨v7, a7, b7, h⟩ := Aj h
     refine qi AI DP a7 (Ah b7) rfl (qk Cz rfl (qa rfl (qa rfl (Ad (Ab (Aa Ac rfl (qm rfl (Dx rfl (Ad ?_)))))))))
     refine Ap rfl (fun c8 => ?_) (fun c8 => ?_)
     ·have h := Am c8 h
      refine Aa Ac rfl (qm rfl (qm rfl (Ep AI DP KI rfl ?_)))
      obtain ⟨c9, h⟩ := AK h
      refine Dw (f := Ai) AI AI DP L2 KI c9 rfl (qa rfl (Ad ?_))
      exact Au _ h (sm [(2004, 34)] _ _ rfl rfl)
     ·have h := An c8 h
      refine Ar ?_
      exact Au _ h (sm [(2004, 2002)] _ _ rfl rfl)
    ·refine Aa Ac rfl (AY rfl (qm rfl (Ad ?_)))
     exact Au _ h (sm [(2002, 2004)] _ _ rfl rfl)
   ·have h := An c5 h
    refine AX ?_
    exact Au _ h (sm [(2003, 2002)] _ _ rfl rfl)
  ·refine Al hs (Ab (Aa Ac rfl (qa rfl (Ad (Ab (Ab (Aa Ac rfl (qm rfl (DU AI rfl ?_)))))))))
   obtain ⟨c10, h⟩ := AK h
   refine HF rfl c10 (qm rfl (Ad ?_))
   refine AJ (L := CY N p1 v4) h (fun v11 => mk [(3, .e (.one (.ptr 3 0))), (7, .e (.one (.own 2006))), (10, .e (.one (.own 2007))), (38, .e (.one (.pure (.val (.int .i64 ((CJ .i64 1 ((v4.length : Int))))))))), (39, .e (.one (.pure (.val (.int .i64 v11.2)))))] [(3, .box [.pure (.sl (p1.fBase.map Ai)), .pure (.sl (p1.fNext.map Ai)), .pure (.sl (p1.fHeld.map Bb))]), (2006, .vec 1 (v4.map Ai)), (2007, .vec 3 (v11.1.map Af))]) (fun v12 => mk [(10, .e (.one (.own 2008)))] [(2008, .vec 3 (v12.map Af))]) (fun _ _ => rfl) ((Bf 10 2027 3 rfl rfl rfl).trans (sm [(2006, 2003), (2007, 2027)] _ _ rfl rfl)) (fun j11 n11 v11 h => ?_) (fun v12 s h hs => ?_)
   ·unfold CY at h
    refine Ab (Aa Ac rfl (A2 rfl (Ad (Ab ?_))))
    refine Ap rfl (fun c13 => ?_) (fun c13 => ?_)
    ·have h := Am c13 h
     refine Ar (Ab (AN (Ab (Aa Ac rfl (qm rfl (qa rfl (Ad (Ab (Aa Ac rfl (qf Db rfl (ql Be rfl ?_)))))))))))
     obtain ⟨v14, a14, h⟩ := bind_some h
     refine AH [2009] (DS N p1.fBase v14 a14) Rm rfl (qf BG rfl (ql Be rfl ?_))
     obtain ⟨v15, a15, h⟩ := bind_some h
     refine AH [2010] (DS N p1.fNext v15 a15) Rm rfl (qf CT rfl (ql G6 rfl ?_))
     obtain ⟨v16, a16, h⟩ := bind_some h
     refine AH [2011] (Fl N p1.fHeld v16 a16) V7 rfl (BM CX HL rfl (qz CX rfl (qs Ax rfl (AM (by kernel_rfl) (Ab (Ab (Aa Ac rfl (qm rfl (DU AI rfl (qm rfl (Ad ?_)))))))))))
     refine AJ (L := CW N v4 v11) h (fun v17 => mk [(3, .e (.one (.ptr 3 0))), (7, .e (.one (.own 2015))), (10, .e (.one (.own 2016))), (11, .e (.one (.pure (.val (.int .i64 v11.2))))), (12, .e (.one (.ptr 12 0))), (38, .e (.one (.pure (.val (.int .i64 ((CJ .i64 1 ((v4.length : Int))))))))), (39, .e (.one (.pure (.val (.int .i64 v11.2))))), (52, .e (.one (.own 2015))), (53, .e (.one (.pure (.val (.int .i64 ((v4.length : Int))))))), (54, .e (.one (.pure (.val (.int .i64 v17.2)))))] [(3, .box [.pure (.sl (p1.fBase.map Ai)), .pure (.sl (p1.fNext.map Ai)), .pure (.sl (p1.fHeld.map Bb))]), (12, .box [.own 2012, .own 2013, .own 2014]), (2012, .vec 1 (v14.map Ai)), (2013, .vec 1 (v17.1.map Ai)), (2014, .vec 1 (v16.map Bb)), (2015, .vec 1 (v4.map Ai)), (2016, .vec 3 (v11.1.map Af))]) (fun v18 => mk [(3, .e (.one (.ptr 3 0))), (7, .e (.one (.own 2020))), (10, .e (.one (.own 2021))), (12, .e (.one (.ptr 12 0))), (38, .e (.one (.pure (.val (.int .i64 ((CJ .i64 1 ((v4.length : Int))))))))), (39, .e (.one (.pure (.val (.int .i64 v11.2)))))] [(3, .box [.pure (.sl (p1.fBase.map Ai)), .pure (.sl (p1.fNext.map Ai)), .pure (.sl (p1.fHeld.map Bb))]), (12, .box [.own 2017, .own 2018, .own 2019]), (2017, .vec 1 (v14.map Ai)), (2018, .vec 1 (v18.map Ai)), (2019, .vec 1 (v16.map Bb)), (2020, .vec 1 (v4.map Ai)), (2021, .vec 3 (v11.1.map Af))]) (fun _ _ => rfl) (sm [(2012, 2009), (2013, 2010), (2014, 2011), (2015, 2006), (2016, 2007)] _ _ rfl rfl) (fun j17 n17 v17 h => ?_) (fun v18 s h hs => ?_)
     ·unfold CW at h
      refine Ab (Aa Ac rfl (A2 rfl (Ad (Ab ?_))))
      refine Ap rfl (fun c19 => ?_) (fun c19 => ?_)
      ·have h := Am c19 h
       refine Ar ?_
       refine AO h (fun v20 => mk [(3, .e (.one (.ptr 3 0))), (7, .e (.one (.own 2025))), (10, .e (.one (.own 2026))), (11, .e (.one (.pure (.val (.int .i64 v11.2))))), (12, .e (.one (.ptr 12 0))), (38, .e (.one (.pure (.val (.int .i64 ((CJ .i64 1 ((v4.length : Int))))))))), (39, .e (.one (.pure (.val (.int .i64 v11.2))))), (52, .e (.one (.own 2025))), (53, .e (.one (.pure (.val (.int .i64 ((v4.length : Int))))))), (54, .e (.one (.pure (.val (.int .i64 v17.2)))))] [(3, .box [.pure (.sl (p1.fBase.map Ai)), .pure (.sl (p1.fNext.map Ai)), .pure (.sl (p1.fHeld.map Bb))]), (12, .box [.own 2022, .own 2023, .own 2024]), (2022, .vec 1 (v14.map Ai)), (2023, .vec 1 (v20.map Ai)), (2024, .vec 1 (v16.map Bb)), (2025, .vec 1 (v4.map Ai)), (2026, .vec 3 (v11.1.map Af))]) (fun j20 h => ?_) (fun v20 h => ?_)
       ·refine AN (Ab (Aa Ac rfl (qm rfl ?_)))
        obtain ⟨v21, a21, b21, h⟩ := Aj h
        refine qI AI DP a21 (Ah b21) rfl (qj Cz (Ah b21) rfl (qa rfl (qa rfl (Ad (Ab (Aa Ac rfl (qm rfl (qm rfl ?_))))))))
        obtain ⟨c22, h⟩ := AK h
        refine GX rfl c22 (KE rfl (BK rfl (Ad ?_)))
        refine Ap rfl (fun c23 => ?_) (fun c23 => ?_)
        ·have h := Am c23 h
         refine Aa Ac rfl (qf BG rfl (ql Be rfl (qm rfl ?_)))
         obtain ⟨v24, a24, b24, h⟩ := Aj h
         refine qI AI DP a24 (Ah b24) rfl ?_
         refine A7 rfl rfl rfl rfl (Ah b24) rfl DP rfl (A5 rfl) (A8 Ai v17.1 _ ((-1))) ?_
         refine Ad ?_
         exact Au _ h (sm [(2022, 2012), (2023, 2013), (2024, 2014), (2025, 2015), (2026, 2016)] _ _ rfl rfl)
        ·have h := An c23 h
         refine Ar ?_
         exact Au _ h (sm [(2022, 2012), (2023, 2013), (2024, 2014), (2025, 2015), (2026, 2016)] _ _ rfl rfl)
       ·refine Aa Ac rfl (AY rfl (qm rfl (Ad ?_)))
        exact Au _ h (sm [(2012, 2022), (2013, 2023), (2014, 2024), (2015, 2025), (2016, 2026)] _ _ rfl rfl)
      ·have h := An c19 h
       refine AX ?_
       exact Au _ h (sm [(2017, 2012), (2018, 2013), (2019, 2014), (2020, 2015), (2021, 2016)] _ _ rfl rfl)
     ·refine Al hs (Aa Ac rfl (qm rfl (qL A1 Ax rfl (DC (Bc 2017 _ _ rfl rfl) (DC (Bc 2018 _ _ rfl rfl) (DC (Bc 2019 _ _ rfl rfl) (Ep AP Ax CX rfl ?_)))))))
      obtain ⟨c25, h⟩ := AK h
      refine Dw (f := Af) AP AP Ax NU CX c25 rfl (qa rfl (Ad (Aa Ac rfl (AY rfl (qm rfl (Ad ?_))))))
      exact Au _ h (sm [(2006, 2020), (2007, 72)] _ _ rfl rfl)
    ·have h := An c13 h
     refine AX ?_
     exact Au _ h (sm [(2008, 2007)] _ _ rfl rfl)
   ·refine Al hs (Ab (Aa Ac rfl (qm rfl (qa rfl (qa rfl (Ad ?_))))))
    obtain rfl := sj h
    refine Al (sm [(1000, 2008)] [(4, .e (.one (.own 1000))), (5, .e (.one (.pure (.val (.int .i64 0)))))] [(1000, .vec 3 (v12.map Af))] rfl rfl) (Az ?_)
    exact ⟨⟨[_, _], ⟨.tmp _ _ rfl, ⟨.tmp _ _ rfl, trivial⟩⟩, rfl⟩, ⟨rfl, trivial⟩⟩
set_option maxRecDepth 10000 in
theorem L9 (N : Nat) (p0 : Ag) (p1 : Ae) (r : (List Av)) (h : Fk N p0 p1 = some r) : AC Tryz.prog 94 [.e (.agg [.pure (.sl (p0.fVersions.map Ai)), .pure (.sl (p0.fNow.map Ai)), .pure (.sl (p0.fTarget.map Ai)), .pure (.sl (p0.fTables.map Ao))]), .e (.agg [.pure (.sl (p1.fBase.map Ai)), .pure (.sl (p1.fNext.map Ai)), .pure (.sl (p1.fHeld.map Bb))])] [(3, r.map A3)] (.e (.one (.own 0))) := by
 unfold Fk at h
 refine As (n := 98) (rs := [.tmp 4]) Tryz.func94 rfl rfl rfl (A5 rfl) (A5 rfl) rfl fun w0 S0 => ?_
 refine Ab (Aa Ac rfl (qb rfl (qb rfl (qa rfl (Ad (Ab (Aa Ac rfl (qa rfl (Ad (Ab (Ab (Aa Ac rfl (qf CS rfl (ql GZ rfl (AZ D9 rfl (qm rfl (Ad ?_)))))))))))))))))
 refine AJ (L := Dl N p0 p1) h (fun v1 => mk [(3, .e (.one (.ptr 3 0))), (5, .e (.one (.own 2001))), (15, .e (.one (.pure (.sl (p0.fTables.map Ao))))), (16, .e (.one (.pure (.val (.int .i64 ((p0.fTables.length : Int))))))), (17, .e (.one (.pure (.val (.int .i64 v1.2)))))] [(3, .box [.pure (.sl (p1.fBase.map Ai)), .pure (.sl (p1.fNext.map Ai)), .pure (.sl (p1.fHeld.map Bb))]), (2001, .vec 3 (v1.1.map A3))]) (fun v2 => mk [(5, .e (.one (.own 2002)))] [(2002, .vec 3 (v2.map A3))]) (fun _ _ => rfl) ((Bf 5 2013 3 rfl rfl rfl).trans (sm [(2001, 2013)] _ _ rfl rfl)) (fun j1 n1 v1 h => ?_) (fun v2 s h hs => ?_)
 ·unfold Dl at h
  refine Ab (Aa Ac rfl (A2 rfl (Ad (Ab ?_))))
  refine Ap rfl (fun c3 => ?_) (fun c3 => ?_)
  ·have h := Am c3 h
   refine Ar (Ab (AN (Ab (Aa Ac rfl (qm rfl ?_)))))
   obtain ⟨v4, a4, b4, h⟩ := Aj h
   refine qi D9 D8 a4 (Ah b4) rfl (qK Hj D8 rfl (qz J4 rfl (qa rfl (qs D8 rfl (Ad (Ab (Aa Ac rfl (qL A1 Ax rfl (qf De rfl (ql Cz rfl ?_))))))))))
   obtain ⟨v5, a5, h⟩ := bind_some h
   refine AH [] (IM N p1 v4.fFrom v5 a5) Up rfl (qL A1 Ax rfl (qf HY rfl (ql Cz rfl ?_)))
   obtain ⟨v6, a6, h⟩ := bind_some h
   refine AH [] (IM N p1 v4.fTo v6 a6) Up rfl (qa rfl (qa rfl (AM (by kernel_rfl) ?_)))
   refine AO h (fun v7 => mk [(3, .e (.one (.ptr 3 0))), (5, .e (.one (.own 2003))), (6, .e (.one (.pure (.val (.int .i64 v1.2))))), (7, .e (.one (.ptr 7 0))), (8, .e (.one (.pure (.val (.int .u8 v7))))), (9, .e (.one (.pure (.val (.int .u8 v6))))), (15, .e (.one (.pure (.sl (p0.fTables.map Ao))))), (16, .e (.one (.pure (.val (.int .i64 ((p0.fTables.length : Int))))))), (17, .e (.one (.pure (.val (.int .i64 v1.2)))))] [(3, .box [.pure (.sl (p1.fBase.map Ai)), .pure (.sl (p1.fNext.map Ai)), .pure (.sl (p1.fHeld.map Bb))]), (7, .box [.pure (.val (.int .i64 v4.fKind)), .pure (.val (.int .i64 v4.fFrom)), .pure (.val (.int .i64 v4.fTo)), .pure (.val (.bool v4.fAware)), .pure (.sl (v4.fOK.map (ER eB))), .pure (.sl (v4.fRewrite.map (ER eB)))]), (2003, .vec 3 (v1.1.map A3))]) (fun j7 h => ?_) (fun v7 h => ?_)
   ·refine Ab (Aa Ac rfl (qL Hj D8 rfl ?_))
    obtain ⟨v8, a8, h⟩ := bind_some h
    refine AH [] (Jg N v4 v8 a8) UO rfl (Ad ?_)
    refine Ap rfl (fun c9 => ?_) (fun c9 => ?_)
    ·have h := Am c9 h
     refine Aa Ac rfl (qf CT rfl (ql G6 rfl (qm rfl ?_)))
     obtain ⟨v10, a10, b10, h⟩ := Aj h
     refine qi Dm FG a10 (Ah b10) rfl (qk Ju rfl (qa rfl (Ad ?_)))
     exact Au _ h (sm [(2003, 2001)] _ _ rfl rfl)
    ·have h := An c9 h
     refine Ar ?_
     exact Au _ h (sm [(2003, 2001)] _ _ rfl rfl)
   ·refine Ab (Aa Ac rfl (qf Ja rfl (ql JB rfl (AZ Gf rfl (qm rfl (Ad ?_))))))
    refine AJ (L := Ck N v1 v4 v6 v7) h (fun v11 => mk [(3, .e (.one (.ptr 3 0))), (5, .e (.one (.own 2004))), (6, .e (.one (.pure (.val (.int .i64 v1.2))))), (7, .e (.one (.ptr 7 0))), (8, .e (.one (.pure (.val (.int .u8 v7))))), (9, .e (.one (.pure (.val (.int .u8 v6))))), (15, .e (.one (.pure (.sl (p0.fTables.map Ao))))), (16, .e (.one (.pure (.val (.int .i64 ((p0.fTables.length : Int))))))), (17, .e (.one (.pure (.val (.int .i64 v1.2))))), (39, .e (.one (.pure (.val (.int .i64 ((v4.fOK.length : Int))))))), (40, .e (.one (.pure (.val (.int .i64 v11.2)))))] [(3, .box [.pure (.sl (p1.fBase.map Ai)), .pure (.sl (p1.fNext.map Ai)), .pure (.sl (p1.fHeld.map Bb))]), (7, .box [.pure (.val (.int .i64 v4.fKind)), .pure (.val (.int .i64 v4.fFrom)), .pure (.val (.int .i64 v4.fTo)), .pure (.val (.bool v4.fAware)), .pure (.sl (v4.fOK.map (ER eB))), .pure (.sl (v4.fRewrite.map (ER eB)))]), (2004, .vec 3 (v11.1.map A3))]) (fun v12 => mk [(3, .e (.one (.ptr 3 0))), (5, .e (.one (.own 2005))), (15, .e (.one (.pure (.sl (p0.fTables.map Ao))))), (16, .e (.one (.pure (.val (.int .i64 ((p0.fTables.length : Int))))))), (17, .e (.one (.pure (.val (.int .i64 v1.2)))))] [(3, .box [.pure (.sl (p1.fBase.map Ai)), .pure (.sl (p1.fNext.map Ai)), .pure (.sl (p1.fHeld.map Bb))]), (2005, .vec 3 (v12.map A3))]) (fun _ _ => rfl) (sm [(2004, 2003)] _ _ rfl rfl) (fun j11 n11 v11 h => ?_) (fun v12 s h hs => ?_)
    ·unfold Ck at h
     refine Ab (Aa Ac rfl (A2 rfl (Ad (Ab ?_))))
     refine Ap rfl (fun c13 => ?_) (fun c13 => ?_)
     ·have h := Am c13 h
      refine Ar ?_
      refine AO h (fun v14 => mk [(3, .e (.one (.ptr 3 0))), (5, .e (.one (.own 2006))), (6, .e (.one (.pure (.val (.int .i64 v1.2))))), (7, .e (.one (.ptr 7 0))), (8, .e (.one (.pure (.val (.int .u8 v7))))), (9, .e (.one (.pure (.val (.int .u8 v6))))), (15, .e (.one (.pure (.sl (p0.fTables.map Ao))))), (16, .e (.one (.pure (.val (.int .i64 ((p0.fTables.length : Int))))))), (17, .e (.one (.pure (.val (.int .i64 v1.2))))), (39, .e (.one (.pure (.val (.int .i64 ((v4.fOK.length : Int))))))), (40, .e (.one (.pure (.val (.int .i64 v11.2)))))] [(3, .box [.pure (.sl (p1.fBase.map Ai)), .pure (.sl (p1.fNext.map Ai)), .pure (.sl (p1.fHeld.map Bb))]), (7, .box [.pure (.val (.int .i64 v4.fKind)), .pure (.val (.int .i64 v4.fFrom)), .pure (.val (.int .i64 v4.fTo)), .pure (.val (.bool v4.fAware)), .pure (.sl (v4.fOK.map (ER eB))), .pure (.sl (v4.fRewrite.map (ER eB)))]), (2006, .vec 3 (v14.map A3))]) (fun j14 h => ?_) (fun v14 h => ?_)
      ·refine AN (Ab (Aa Ac rfl (qm rfl (qa rfl (Ad (Ab (Ab (Aa Ac rfl (qm rfl (qm rfl ?_))))))))))
       obtain ⟨c15, h⟩ := AK h
       refine GX rfl c15 (KE rfl (BK rfl (Ad ?_)))
       refine Ap rfl (fun c16 => ?_) (fun c16 => ?_)
       ·have h := Am c16 h
        refine AX ?_
        exact Au _ h (sm [(2006, 2004)] _ _ rfl rfl)
       ·have h := An c16 h
        refine Ar (Ab (Aa Ac rfl (qa rfl (Ad (Ab (Ab (Aa Ac rfl (qf Ja rfl (ql JB rfl (qm rfl ?_))))))))))
        obtain ⟨v17, a17, b17, h⟩ := Aj h
        refine qi Gf Jq a17 (Ah b17) rfl (qk K3 rfl (AZ E5 rfl (qm rfl (Ad ?_))))
        refine AJ (L := BV N v1 v4 v6 v11 v17) h (fun v18 => mk [(3, .e (.one (.ptr 3 0))), (5, .e (.one (.own 2007))), (6, .e (.one (.pure (.val (.int .i64 v1.2))))), (7, .e (.one (.ptr 7 0))), (8, .e (.one (.pure (.val (.int .u8 v7))))), (9, .e (.one (.pure (.val (.int .u8 v6))))), (10, .e (.one (.pure (.val (.int .i64 v11.2))))), (11, .e (.one (.pure (.val (.bool v18.2.1))))), (15, .e (.one (.pure (.sl (p0.fTables.map Ao))))), (16, .e (.one (.pure (.val (.int .i64 ((p0.fTables.length : Int))))))), (17, .e (.one (.pure (.val (.int .i64 v1.2))))), (39, .e (.one (.pure (.val (.int .i64 ((v4.fOK.length : Int))))))), (40, .e (.one (.pure (.val (.int .i64 v11.2))))), (52, .e (.one (.pure (.sl (v17.map eB))))), (53, .e (.one (.pure (.val (.int .i64 ((v17.length : Int))))))), (54, .e (.one (.pure (.val (.int .i64 v18.2.2)))))] [(3, .box [.pure (.sl (p1.fBase.map Ai)), .pure (.sl (p1.fNext.map Ai)), .pure (.sl (p1.fHeld.map Bb))]), (7, .box [.pure (.val (.int .i64 v4.fKind)), .pure (.val (.int .i64 v4.fFrom)), .pure (.val (.int .i64 v4.fTo)), .pure (.val (.bool v4.fAware)), .pure (.sl (v4.fOK.map (ER eB))), .pure (.sl (v4.fRewrite.map (ER eB)))]), (2007, .vec 3 (v18.1.map A3))]) (fun v19 => mk [(3, .e (.one (.ptr 3 0))), (5, .e (.one (.own 2008))), (6, .e (.one (.pure (.val (.int .i64 v1.2))))), (7, .e (.one (.ptr 7 0))), (8, .e (.one (.pure (.val (.int .u8 v7))))), (9, .e (.one (.pure (.val (.int .u8 v6))))), (10, .e (.one (.pure (.val (.int .i64 v11.2))))), (11, .e (.one (.pure (.val (.bool v19.2))))), (15, .e (.one (.pure (.sl (p0.fTables.map Ao))))), (16, .e (.one (.pure (.val (.int .i64 ((p0.fTables.length : Int))))))), (17, .e (.one (.pure (.val (.int .i64 v1.2))))), (39, .e (.one (.pure (.val (.int .i64 ((v4.fOK.length : Int))))))), (40, .e (.one (.pure (.val (.int .i64 v11.2)))))] [(3, .box [.pure (.sl (p1.fBase.map Ai)), .pure (.sl (p1.fNext.map Ai)), .pure (.sl (p1.fHeld.map Bb))]), (7, .box [.pure (.val (.int .i64 v4.fKind)), .pure (.val (.int .i64 v4.fFrom)), .pure (.val (.int .i64 v4.fTo)), .pure (.val (.bool v4.fAware)), .pure (.sl (v4.fOK.map (ER eB))), .pure (.sl (v4.fRewrite.map (ER eB)))]), (2008, .vec 3 (v19.1.map A3))]) (fun _ _ => rfl) (sm [(2007, 2004)] _ _ rfl rfl) (fun j18 n18 v18 h => ?_) (fun v19 s h hs => ?_)
        ·unfold BV at h
         refine Ab (Aa Ac rfl (A2 rfl (Ad (Ab ?_))))
         refine Ap rfl (fun c20 => ?_) (fun c20 => ?_)
         ·have h := Am c20 h
          refine Ar ?_
          refine AO h (fun v21 => mk [(3, .e (.one (.ptr 3 0))), (5, .e (.one (.own 2009))), (6, .e (.one (.pure (.val (.int .i64 v1.2))))), (7, .e (.one (.ptr 7 0))), (8, .e (.one (.pure (.val (.int .u8 v7))))), (9, .e (.one (.pure (.val (.int .u8 v6))))), (10, .e (.one (.pure (.val (.int .i64 v11.2))))), (11, .e (.one (.pure (.val (.bool v21.2))))), (15, .e (.one (.pure (.sl (p0.fTables.map Ao))))), (16, .e (.one (.pure (.val (.int .i64 ((p0.fTables.length : Int))))))), (17, .e (.one (.pure (.val (.int .i64 v1.2))))), (39, .e (.one (.pure (.val (.int .i64 ((v4.fOK.length : Int))))))), (40, .e (.one (.pure (.val (.int .i64 v11.2))))), (52, .e (.one (.pure (.sl (v17.map eB))))), (53, .e (.one (.pure (.val (.int .i64 ((v17.length : Int))))))), (54, .e (.one (.pure (.val (.int .i64 v18.2.2)))))] [(3, .box [.pure (.sl (p1.fBase.map Ai)), .pure (.sl (p1.fNext.map Ai)), .pure (.sl (p1.fHeld.map Bb))]), (7, .box [.pure (.val (.int .i64 v4.fKind)), .pure (.val (.int .i64 v4.fFrom)), .pure (.val (.int .i64 v4.fTo)), .pure (.val (.bool v4.fAware)), .pure (.sl (v4.fOK.map (ER eB))), .pure (.sl (v4.fRewrite.map (ER eB)))]), (2009, .vec 3 (v21.1.map A3))]) (fun j21 h => ?_) (fun v21 h => ?_)
          ·refine AN (Ab (Aa Ac rfl (qm rfl ?_)))
           obtain ⟨v22, a22, b22, h⟩ := Aj h
           refine qi E5 Ph a22 (Ah b22) rfl (qk QS rfl (qa rfl (qa rfl (Ad (Ab (Ab (Aa Ac rfl (qm rfl (qm rfl ?_)))))))))
           obtain ⟨c23, h⟩ := AK h
           refine GX rfl c23 (KE rfl (BK rfl (Ad ?_)))
           refine Ap rfl (fun c24 => ?_) (fun c24 => ?_)
           ·have h := Am c24 h
            refine AX ?_
            exact Au _ h (sm [(2009, 2007)] _ _ rfl rfl)
           ·have h := An c24 h
            refine Ar ?_
            refine AO h (fun v25 => mk [(3, .e (.one (.ptr 3 0))), (5, .e (.one (.own 2010))), (6, .e (.one (.pure (.val (.int .i64 v1.2))))), (7, .e (.one (.ptr 7 0))), (8, .e (.one (.pure (.val (.int .u8 v7))))), (9, .e (.one (.pure (.val (.int .u8 v6))))), (10, .e (.one (.pure (.val (.int .i64 v11.2))))), (11, .e (.one (.pure (.val (.bool v25))))), (12, .e (.one (.pure (.val (.int .i64 v18.2.2))))), (13, .e (.one (.pure (.val (.bool v22))))), (15, .e (.one (.pure (.sl (p0.fTables.map Ao))))), (16, .e (.one (.pure (.val (.int .i64 ((p0.fTables.length : Int))))))), (17, .e (.one (.pure (.val (.int .i64 v1.2))))), (39, .e (.one (.pure (.val (.int .i64 ((v4.fOK.length : Int))))))), (40, .e (.one (.pure (.val (.int .i64 v11.2))))), (52, .e (.one (.pure (.sl (v17.map eB))))), (53, .e (.one (.pure (.val (.int .i64 ((v17.length : Int))))))), (54, .e (.one (.pure (.val (.int .i64 v18.2.2)))))] [(3, .box [.pure (.sl (p1.fBase.map Ai)), .pure (.sl (p1.fNext.map Ai)), .pure (.sl (p1.fHeld.map Bb))]), (7, .box [.pure (.val (.int .i64 v4.fKind)), .pure (.val (.int .i64 v4.fFrom)), .pure (.val (.int .i64 v4.fTo)), .pure (.val (.bool v4.fAware)), .pure (.sl (v4.fOK.map (ER eB))), .pure (.sl (v4.fRewrite.map (ER eB)))]), (2010, .vec 3 (v18.1.map A3))]) (fun j25 h => ?_) (fun v25 h => ?_)
            ·refine Aa Ac rfl (qm rfl (qm rfl ?_))
             refine AE (t := 65) rfl (fun c26 => ?_) (fun c26 => ?_)
             ·have h := Am c26 h
              refine qn rfl (qp rfl (qa rfl (Ad ?_)))
              exact Au _ h (sm [(2010, 2007)] _ _ rfl rfl)
             ·have h := An c26 h
              refine qm rfl (qp rfl (qa rfl (Ad ?_)))
              exact Au _ h (sm [(2010, 2007)] _ _ rfl rfl)
            ·refine AO h (fun v27 => mk [(3, .e (.one (.ptr 3 0))), (5, .e (.one (.own 2011))), (6, .e (.one (.pure (.val (.int .i64 v1.2))))), (7, .e (.one (.ptr 7 0))), (8, .e (.one (.pure (.val (.int .u8 v7))))), (9, .e (.one (.pure (.val (.int .u8 v6))))), (10, .e (.one (.pure (.val (.int .i64 v11.2))))), (11, .e (.one (.pure (.val (.bool v25))))), (12, .e (.one (.pure (.val (.int .i64 v18.2.2))))), (15, .e (.one (.pure (.sl (p0.fTables.map Ao))))), (16, .e (.one (.pure (.val (.int .i64 ((p0.fTables.length : Int))))))), (17, .e (.one (.pure (.val (.int .i64 v1.2))))), (39, .e (.one (.pure (.val (.int .i64 ((v4.fOK.length : Int))))))), (40, .e (.one (.pure (.val (.int .i64 v11.2))))), (52, .e (.one (.pure (.sl (v17.map eB))))), (53, .e (.one (.pure (.val (.int .i64 ((v17.length : Int))))))), (54, .e (.one (.pure (.val (.int .i64 v18.2.2))))), (74, .e (.one (.pure (.val (.bool v27)))))] [(3, .box [.pure (.sl (p1.fBase.map Ai)), .pure (.sl (p1.fNext.map Ai)), .pure (.sl (p1.fHeld.map Bb))]), (7, .box [.pure (.val (.int .i64 v4.fKind)), .pure (.val (.int .i64 v4.fFrom)), .pure (.val (.int .i64 v4.fTo)), .pure (.val (.bool v4.fAware)), .pure (.sl (v4.fOK.map (ER eB))), .pure (.sl (v4.fRewrite.map (ER eB)))]), (2011, .vec 3 (v18.1.map A3))]) (fun j27 h => ?_) (fun v27 h => ?_)
             ·refine Aa Ac rfl (qm rfl (Cp rfl (qm rfl ?_)))
              refine AE (t := 70) rfl (fun c28 => ?_) (fun c28 => ?_)
              ·have h := Am c28 h
               refine qf Iz rfl (ql QS rfl (Cp rfl (qp rfl (Ad ?_))))
               exact Au _ h (sm [(2011, 2010)] _ _ rfl rfl)
              ·have h := An c28 h
               refine qn rfl (qn rfl (qn rfl (qp rfl (Ad ?_))))
               exact Au _ h (sm [(2011, 2010)] _ _ rfl rfl)
             ·refine Ap rfl (fun c29 => ?_) (fun c29 => ?_)
              ·have h := Am c29 h
               refine Aa Ac rfl (qm rfl (qm rfl (qm rfl (qm rfl (BM HP NR rfl (Ep GD HD HP rfl ?_))))))
               obtain ⟨c30, h⟩ := AK h
               refine Dw (f := A3) GD GD HD Ov HP c30 rfl (qa rfl (Ad ?_))
               exact Au _ h (sm [(2009, 81)] _ _ rfl rfl)
              ·have h := An c29 h
               refine Ar ?_
               exact Au _ h (sm [(2009, 2011)] _ _ rfl rfl)
          ·refine Aa Ac rfl (AY rfl (qm rfl (Ad ?_)))
           exact Au _ h (sm [(2007, 2009)] _ _ rfl rfl)
         ·have h := An c20 h
          refine AX ?_
          exact Au _ h (sm [(2008, 2007)] _ _ rfl rfl)
        ·refine Al hs ?_
         refine AO h (fun v31 => mk [(3, .e (.one (.ptr 3 0))), (5, .e (.one (.own 2012))), (6, .e (.one (.pure (.val (.int .i64 v1.2))))), (7, .e (.one (.ptr 7 0))), (8, .e (.one (.pure (.val (.int .u8 v7))))), (9, .e (.one (.pure (.val (.int .u8 v6))))), (10, .e (.one (.pure (.val (.int .i64 v11.2))))), (15, .e (.one (.pure (.sl (p0.fTables.map Ao))))), (16, .e (.one (.pure (.val (.int .i64 ((p0.fTables.length : Int))))))), (17, .e (.one (.pure (.val (.int .i64 v1.2))))), (39, .e (.one (.pure (.val (.int .i64 ((v4.fOK.length : Int))))))), (40, .e (.one (.pure (.val (.int .i64 v11.2))))), (88, .e (.one (.pure (.val (.bool v31)))))] [(3, .box [.pure (.sl (p1.fBase.map Ai)), .pure (.sl (p1.fNext.map Ai)), .pure (.sl (p1.fHeld.map Bb))]), (7, .box [.pure (.val (.int .i64 v4.fKind)), .pure (.val (.int .i64 v4.fFrom)), .pure (.val (.int .i64 v4.fTo)), .pure (.val (.bool v4.fAware)), .pure (.sl (v4.fOK.map (ER eB))), .pure (.sl (v4.fRewrite.map (ER eB)))]), (2012, .vec 3 (v19.1.map A3))]) (fun j31 h => ?_) (fun v31 h => ?_)
         ·refine Aa Ac rfl (qf Iz rfl (ql QS rfl (qm rfl ?_)))
          refine AE (t := 85) rfl (fun c32 => ?_) (fun c32 => ?_)
          ·have h := Am c32 h
           refine qm rfl (Cp rfl (qp rfl (Ad ?_)))
           exact Au _ h (sm [(2012, 2008)] _ _ rfl rfl)
          ·have h := An c32 h
           refine qn rfl (qn rfl (qp rfl (Ad ?_)))
           exact Au _ h (sm [(2012, 2008)] _ _ rfl rfl)
         ·refine Ap rfl (fun c33 => ?_) (fun c33 => ?_)
          ·have h := Am c33 h
           refine Aa Ac rfl (qm rfl (qm rfl (qm rfl (BM HP NR rfl (Ep GD HD HP rfl ?_)))))
           obtain ⟨c34, h⟩ := AK h
           refine Dw (f := A3) GD GD HD Ov HP c34 rfl (qa rfl (Ad ?_))
           exact Au _ h (sm [(2006, 94)] _ _ rfl rfl)
          ·have h := An c33 h
           refine Ar ?_
           exact Au _ h (sm [(2006, 2012)] _ _ rfl rfl)
      ·refine Aa Ac rfl (AY rfl (qm rfl (Ad ?_)))
       exact Au _ h (sm [(2004, 2006)] _ _ rfl rfl)
     ·have h := An c13 h
      refine AX ?_
      exact Au _ h (sm [(2005, 2004)] _ _ rfl rfl)
    ·refine Al hs (Aa Ac rfl (AY rfl (qm rfl (Ad ?_))))
     exact Au _ h (sm [(2001, 2005)] _ _ rfl rfl)
  ·have h := An c3 h
   refine AX ?_
   exact Au _ h (sm [(2002, 2001)] _ _ rfl rfl)
 ·refine Al hs (Ab (Aa Ac rfl (qm rfl (qa rfl (Ad ?_)))))
  obtain rfl := sj h
  refine Al (sm [(1000, 2002)] [(4, .e (.one (.own 1000)))] [(1000, .vec 3 (v2.map A3))] rfl rfl) (Az ?_)
  exact ⟨⟨[_], ⟨.tmp _ _ rfl, trivial⟩, rfl⟩, ⟨rfl, trivial⟩⟩
set_option maxRecDepth 10000 in
theorem Pi (N : Nat) (p0 : Ag) (p1 : Ae) (r : Ae × Av × Int) (h : G1 N p0 p1 = some r) : AC Tryz.prog 68 [.e (.agg [.pure (.sl (p0.fVersions.map Ai)), .pure (.sl (p0.fNow.map Ai)), .pure (.sl (p0.fTarget.map Ai)), .pure (.sl (p0.fTables.map Ao))]), .e (.agg [.pure (.sl (p1.fBase.map Ai)), .pure (.sl (p1.fNext.map Ai)), .pure (.sl (p1.fHeld.map Bb))])] [] (.tup [.agg [.pure (.sl (r.1.fBase.map Ai)), .pure (.sl (r.1.fNext.map Ai)), .pure (.sl (r.1.fHeld.map Bb))], .agg [.pure (.val (.int .i64 r.2.1.fTable)), .pure (.val (.int .i64 r.2.1.fWriter)), .pure (.val (.int .i64 r.2.1.fReader))], .one (.pure (.val (.int .i64 r.2.2)))]) := by
 unfold G1 at h
 refine As (n := 42) (rs := [.cell 4 50, .cell 5 113, .tmp 6]) Tryz.func68 rfl rfl rfl (A5 rfl) (A5 rfl) rfl fun w0 S0 => ?_
 refine Ab (Aa Ac rfl (qb rfl (qb rfl (qz CX rfl (qz HP rfl (qa rfl (Ad (Ab (Aa Ac rfl (qL D4 DQ rfl (qL A1 Ax rfl ?_)))))))))))
 obtain ⟨v1, a1, h⟩ := bind_some h
 refine AH [2001] (KP N p0 p1 v1 a1) V3 rfl (qm rfl (qx rfl (qx rfl (qa rfl (qa rfl (Ad (Ab (Ab (Aa Ac rfl (qm rfl (Cw rfl (Ad ?_))))))))))))
 refine Ap rfl (fun c2 => ?_) (fun c2 => ?_)
 ·have h := Am c2 h
  refine Ab (Aa Ac rfl (BM CX HL rfl (BM HP NR rfl (qm rfl (qs Ax rfl (qs HD rfl (qa rfl (Ad ?_))))))))
  obtain rfl := sj h
  refine Al ((N4 4 _ rfl).trans (sm [] [(4, .e (.one (.ptr 4 0))), (5, .e (.one (.ptr 5 0))), (6, .e (.one (.pure (.val (.int .i64 v1.2)))))] [(4, .box [.pure (.sl ((([] : List Int)).map Ai)), .pure (.sl ((([] : List Int)).map Ai)), .pure (.sl ((([] : List Int)).map Bb))]), (5, .box [.pure (.val (.int .i64 0)), .pure (.val (.int .i64 0)), .pure (.val (.int .i64 0))])] rfl rfl)) (Az ?_)
  exact ⟨⟨[_, _, _], ⟨.cellN _ _ _ _ _ _ _ rfl rfl A1 Ax rfl rfl (I7 rfl), ⟨.cellN _ _ _ _ _ _ _ rfl rfl Qu HD rfl rfl (I7 rfl), ⟨.tmp _ _ rfl, trivial⟩⟩⟩, rfl⟩, trivial⟩
 ·have h := An c2 h
  refine Ar (Ab (Ab (Aa Ac rfl (qm rfl (DU AP rfl (qm rfl (Ad ?_)))))))
  refine AJ (L := Ew N p0 v1) h (fun v3 => mk [(2, .e (.one (.ptr 2 0))), (4, .e (.one (.ptr 4 0))), (5, .e (.one (.ptr 5 0))), (23, .e (.one (.own 2002))), (24, .e (.one (.pure (.val (.int .i64 ((v1.1.length : Int))))))), (25, .e (.one (.pure (.val (.int .i64 v3)))))] [(2, .box [.pure (.sl (p0.fVersions.map Ai)), .pure (.sl (p0.fNow.map Ai)), .pure (.sl (p0.fTarget.map Ai)), .pure (.sl (p0.fTables.map Ao))]), (4, .box [.pure (.nil0), .pure (.nil0), .pure (.nil0)]), (5, .box [.pure (.val (.int .i64 0)), .pure (.val (.int .i64 0)), .pure (.val (.int .i64 0))]), (2002, .vec 3 (v1.1.map Af))]) (fun v4 => mk [(4, .e (.one (.ptr 4 0))), (5, .e (.one (.ptr 5 0)))] [(4, .box [.pure (.nil0), .pure (.nil0), .pure (.nil0)]), (5, .box [.pure (.val (.int .i64 0)), .pure (.val (.int .i64 0)), .pure (.val (.int .i64 0))])]) (fun _ _ => rfl) (sm [(2002, 2001)] _ _ rfl rfl) (fun j3 n3 v3 h => ?_) (fun v4 s h hs => ?_)
  ·unfold Ew at h
   refine Ab (Aa Ac rfl (A2 rfl (Ad (Ab ?_))))
   refine Ap rfl (fun c5 => ?_) (fun c5 => ?_)
   ·have h := Am c5 h
    refine Ar (Ab (AN (Ab (Aa Ac rfl ?_))))
    obtain ⟨v6, a6, b6, h⟩ := Aj h
    refine qI AP Ax a6 (Ah b6) rfl (qJ A1 Ax (Ah b6) rfl (qz CX rfl (qs Ax rfl (Ad (Ab (Aa Ac rfl (qL D4 DQ rfl (qL A1 Ax rfl ?_))))))))
    obtain ⟨v7, a7, h⟩ := bind_some h
    refine AH [2003] (L9 N p0 v6 v7 a7) Ww rfl (qa rfl (Ad (Ab (Aa Ac rfl (qm rfl (DU GD rfl (Fw rfl (Ad ?_))))))))
    refine Ap rfl (fun c8 => ?_) (fun c8 => ?_)
    ·have h := Am c8 h
     refine Ab (Aa Ac rfl (qL A1 Ax rfl (qm rfl ?_)))
     obtain ⟨v9, a9, b9, h⟩ := Aj h
     refine qI GD HD a9 (Ah b9) rfl (qJ Qu HD (Ah b9) rfl (qs Ax rfl (qs HD rfl (qa rfl (AM (by kernel_rfl) ?_)))))
     obtain rfl := sj h
     refine Al (sm [] [(4, .e (.one (.ptr 4 0))), (5, .e (.one (.ptr 5 0))), (6, .e (.one (.pure (.val (.int .i64 0)))))] [(4, .box [.pure (.sl (v6.fBase.map Ai)), .pure (.sl (v6.fNext.map Ai)), .pure (.sl (v6.fHeld.map Bb))]), (5, .box [.pure (.val (.int .i64 v9.fTable)), .pure (.val (.int .i64 v9.fWriter)), .pure (.val (.int .i64 v9.fReader))])] rfl rfl) (Az ?_)
     exact ⟨⟨[_, _, _], ⟨.cellN _ _ _ _ _ _ _ rfl rfl A1 Ax rfl rfl (I7 rfl), ⟨.cellN _ _ _ _ _ _ _ rfl rfl Qu HD rfl rfl (I7 rfl), ⟨.tmp _ _ rfl, trivial⟩⟩⟩, rfl⟩, trivial⟩
    ·have h := An c8 h
     refine Ar (Aa Ac rfl (AY rfl (qm rfl (Ad ?_))))
     exact Au _ h (sm [] _ _ rfl rfl)
   ·have h := An c5 h
    refine AX ?_
    exact Au _ h (sm [] _ _ rfl rfl)
  ·refine Al hs (Ab (Aa Ac rfl (BM CX HL rfl (BM HP NR rfl (qs Ax rfl (qs HD rfl (qa rfl (Ad ?_))))))))
   obtain rfl := sj h
   refine Al ((N4 4 _ rfl).trans (sm [] [(4, .e (.one (.ptr 4 0))), (5, .e (.one (.ptr 5 0))), (6, .e (.one (.pure (.val (.int .i64 15)))))] [(4, .box [.pure (.sl ((([] : List Int)).map Ai)), .pure (.sl ((([] : List Int)).map Ai)), .pure (.sl ((([] : List Int)).map Bb))]), (5, .box [.pure (.val (.int .i64 0)), .pure (.val (.int .i64 0)), .pure (.val (.int .i64 0))])] rfl rfl)) (Az ?_)
   exact ⟨⟨[_, _, _], ⟨.cellN _ _ _ _ _ _ _ rfl rfl A1 Ax rfl rfl (I7 rfl), ⟨.cellN _ _ _ _ _ _ _ rfl rfl Qu HD rfl rfl (I7 rfl), ⟨.tmp _ _ rfl, trivial⟩⟩⟩, rfl⟩, trivial⟩
set_option maxRecDepth 10000 in
theorem Jn (N : Nat) (p0 : Ag) (p1 : Ae) (r : Bool × Int) (h : Fa N p0 p1 = some r) : AC Tryz.prog 45 [.e (.agg [.pure (.sl (p0.fVersions.map Ai)), .pure (.sl (p0.fNow.map Ai)), .pure (.sl (p0.fTarget.map Ai)), .pure (.sl (p0.fTables.map Ao))]), .e (.agg [.pure (.sl (p1.fBase.map Ai)), .pure (.sl (p1.fNext.map Ai)), .pure (.sl (p1.fHeld.map Bb))])] [] (.tup [.one (.pure (.val (.bool r.1))), .one (.pure (.val (.int .i64 r.2)))]) := by
 unfold Fa at h
 refine As (n := 22) (rs := [.tmp 4, .tmp 5]) Tryz.func45 rfl rfl rfl (A5 rfl) (A5 rfl) rfl fun w0 S0 => ?_
 refine Ab (Aa Ac rfl (qb rfl (qb rfl (qa rfl (qa rfl (Ad (Ab (Aa Ac rfl (qL D4 DQ rfl (qL A1 Ax rfl ?_))))))))))
 obtain ⟨v1, a1, h⟩ := bind_some h
 refine AH [] (Pi N p0 p1 v1 a1) WV rfl (qm rfl (qx rfl (qx rfl (qx rfl (qz CX rfl (qz HP rfl (qs Ax rfl (qs HD rfl (qa rfl (Ad (Ab (Aa Ac rfl (qm rfl (Ad (AN (Ab (Aa Ac rfl (BK rfl (qa rfl (Ad ?_))))))))))))))))))))
 refine Ap rfl (fun c2 => ?_) (fun c2 => ?_)
 ·have h := Am c2 h
  refine Ab (Aa Ac rfl (qa rfl (qa rfl (Ad ?_))))
  obtain rfl := sj h
  refine Al (sm [] [(4, .e (.one (.pure (.val (.bool false))))), (5, .e (.one (.pure (.val (.int .i64 0)))))] [] rfl rfl) (Az ?_)
  exact ⟨⟨[_, _], ⟨.tmp _ _ rfl, ⟨.tmp _ _ rfl, trivial⟩⟩, rfl⟩, trivial⟩
 ·have h := An c2 h
  refine Ab (Aa Ac rfl (BK rfl (qa rfl (Ad ?_))))
  refine Ap rfl (fun c3 => ?_) (fun c3 => ?_)
  ·have h := Am c3 h
   refine Ab (Aa Ac rfl (qa rfl (qa rfl (Ad ?_))))
   obtain rfl := sj h
   refine Al (sm [] [(4, .e (.one (.pure (.val (.bool true))))), (5, .e (.one (.pure (.val (.int .i64 0)))))] [] rfl rfl) (Az ?_)
   exact ⟨⟨[_, _], ⟨.tmp _ _ rfl, ⟨.tmp _ _ rfl, trivial⟩⟩, rfl⟩, trivial⟩
  ·have h := An c3 h
   refine Ab (Aa Ac rfl (qm rfl (qa rfl (qa rfl (Ad ?_)))))
   obtain rfl := sj h
   refine Al (sm [] [(4, .e (.one (.pure (.val (.bool false))))), (5, .e (.one (.pure (.val (.int .i64 v1.2.2)))))] [] rfl rfl) (Az ?_)
   exact ⟨⟨[_, _], ⟨.tmp _ _ rfl, ⟨.tmp _ _ rfl, trivial⟩⟩, rfl⟩, trivial⟩
set_option maxRecDepth 10000 in
theorem Ki (N : Nat) (p0 : Ag) (r : Ae × Bool × Int) (h : zFS N p0 = some r) : AC Tryz.prog 47 [.e (.agg [.pure (.sl (p0.fVersions.map Ai)), .pure (.sl (p0.fNow.map Ai)), .pure (.sl (p0.fTarget.map Ai)), .pure (.sl (p0.fTables.map Ao))])] [(1, r.1.fBase.map Ai), (1, r.1.fNext.map Ai), (1, r.1.fHeld.map Bb)] (.tup [.agg [.own 0, .own 1, .own 2], .one (.pure (.val (.bool r.2.1))), .one (.pure (.val (.int .i64 r.2.2)))]) := by
 unfold zFS at h
 refine As (n := 26) (rs := [.cell 2 50, .tmp 3, .tmp 4]) Tryz.func47 rfl rfl rfl (A5 rfl) (A5 rfl) rfl fun w0 S0 => ?_
 refine Ab (Aa Ac rfl (qb rfl (qz CX rfl (qa rfl (qa rfl (Ad (Ab (Aa Ac rfl (qL D4 DQ rfl ?_)))))))))
 obtain ⟨v1, a1, h⟩ := bind_some h
 refine AH [2001, 2002, 2003] (LO N p0 v1 a1) VE rfl (qm rfl (qx rfl (qx rfl (qz CX rfl (qs Ax rfl (qa rfl (Ad (Ab (Ab (Aa Ac rfl (qm rfl (Cw rfl (Ad ?_)))))))))))))
 refine Ap rfl (fun c2 => ?_) (fun c2 => ?_)
 ·have h := Am c2 h
  refine Ab (Aa Ac rfl (BM CX HL rfl (qm rfl (qs Ax rfl (qa rfl (qa rfl (Ad ?_)))))))
  obtain rfl := sj h
  refine Al ((AB 2 0 2004 1 _ rfl rfl rfl rfl).trans ((AB 2 1 2005 1 _ rfl rfl rfl rfl).trans ((AB 2 2 2006 1 _ rfl rfl rfl rfl).trans (sm [(1000, 2004), (1001, 2005), (1002, 2006)] [(2, .e (.one (.ptr 2 0))), (3, .e (.one (.pure (.val (.bool false))))), (4, .e (.one (.pure (.val (.int .i64 v1.2)))))] [(2, .box [.own 1000, .own 1001, .own 1002]), (1000, .vec 1 ((([] : List Int)).map Ai)), (1001, .vec 1 ((([] : List Int)).map Ai)), (1002, .vec 1 ((([] : List Int)).map Bb))] rfl rfl)))) (Az ?_)
  exact ⟨⟨[_, _, _], ⟨.cellN _ _ _ _ _ _ _ rfl rfl A1 Ax rfl rfl (I7 rfl), ⟨.tmp _ _ rfl, ⟨.tmp _ _ rfl, trivial⟩⟩⟩, rfl⟩, ⟨rfl, rfl, rfl, trivial⟩⟩
 ·have h := An c2 h
  refine Ar (Ab (Aa Ac rfl (qL D4 DQ rfl (qL A1 Ax rfl ?_))))
  obtain ⟨v3, a3, h⟩ := bind_some h
  refine EF [] [2001, 2002, 2003] (Jn N p0 v1.1 v3 a3) Uk C8 rfl (qm rfl (qx rfl (qx rfl (qa rfl (qa rfl (Ad (Ab (Aa Ac rfl (qL A1 Ax rfl (qm rfl (qm rfl (qs Ax rfl (qa rfl (qa rfl (Ad ?_)))))))))))))))
  obtain rfl := sj h
  refine Al (sm [(1000, 2001), (1001, 2002), (1002, 2003)] [(2, .e (.one (.ptr 2 0))), (3, .e (.one (.pure (.val (.bool v3.1))))), (4, .e (.one (.pure (.val (.int .i64 v3.2)))))] [(2, .box [.own 1000, .own 1001, .own 1002]), (1000, .vec 1 (v1.1.fBase.map Ai)), (1001, .vec 1 (v1.1.fNext.map Ai)), (1002, .vec 1 (v1.1.fHeld.map Bb))] rfl rfl) (Az ?_)
  exact ⟨⟨[_, _, _], ⟨.cellN _ _ _ _ _ _ _ rfl rfl A1 Ax rfl rfl (I7 rfl), ⟨.tmp _ _ rfl, ⟨.tmp _ _ rfl, trivial⟩⟩⟩, rfl⟩, ⟨rfl, rfl, rfl, trivial⟩⟩
set_option maxRecDepth 10000 in
theorem JP (N : Nat) (p0 : Ae) (r : ByteArray) (h : G7 N p0 = some r) : AC Tryz.prog 48 [.e (.agg [.pure (.sl (p0.fBase.map Ai)), .pure (.sl (p0.fNext.map Ai)), .pure (.sl (p0.fHeld.map Bb))])] [] (.e (.one (.pure (.val (.string r))))) := by
 unfold G7 at h
 refine As (n := 44) (rs := [.tmp 2]) Tryz.func48 rfl rfl rfl (A5 rfl) (A5 rfl) rfl fun w0 S0 => ?_
 refine Ab (Aa Ac rfl (qb rfl (qa rfl (Ad (Ab (Aa Ac rfl (qa rfl (Ad (Ab (Ab (Aa Ac rfl (qf Db rfl (ql Be rfl (AZ AI rfl (qm rfl (Ad ?_))))))))))))))))
 refine AJ (L := Gz N p0) h (fun v1 => mk [(1, .e (.one (.ptr 1 0))), (3, .e (.one (.own 2001))), (9, .e (.one (.pure (.val (.int .i64 ((p0.fBase.length : Int))))))), (10, .e (.one (.pure (.val (.int .i64 v1.2)))))] [(1, .box [.pure (.sl (p0.fBase.map Ai)), .pure (.sl (p0.fNext.map Ai)), .pure (.sl (p0.fHeld.map Bb))]), (2001, .vec 1 (v1.1.map Bb))]) (fun v2 => mk [(1, .e (.one (.ptr 1 0))), (3, .e (.one (.own 2002)))] [(1, .box [.pure (.sl (p0.fBase.map Ai)), .pure (.sl (p0.fNext.map Ai)), .pure (.sl (p0.fHeld.map Bb))]), (2002, .vec 1 (v2.map Bb))]) (fun _ _ => rfl) ((Bf 3 2003 1 rfl rfl rfl).trans (sm [(2001, 2003)] _ _ rfl rfl)) (fun j1 n1 v1 h => ?_) (fun v2 s h hs => ?_)
 ·unfold Gz at h
  refine Ab (Aa Ac rfl (A2 rfl (Ad (Ab ?_))))
  refine Ap rfl (fun c3 => ?_) (fun c3 => ?_)
  ·have h := Am c3 h
   refine Ar (Ab (AN (Ab (Aa Ac rfl (qm rfl (qa rfl (Ad (Aa Ac rfl (qm rfl (qf Db rfl (ql Be rfl (qm rfl ?_))))))))))))
   obtain ⟨v4, a4, b4, h⟩ := Aj h
   refine qi AI DP a4 (Ah b4) rfl (qk Cz rfl (GT UR Wf rfl (qf BG rfl (ql Be rfl (qm rfl ?_)))))
   obtain ⟨v5, a5, b5, h⟩ := Aj h
   refine qi AI DP a5 (Ah b5) rfl (qk Cz rfl (AY rfl (GT UR Wf rfl (Ep Gw R2 UE rfl ?_))))
   obtain ⟨c6, h⟩ := AK h
   refine Dw (f := Bb) Gw Gw R2 Ul UE c6 rfl (qa rfl (AM (by kernel_rfl) (Aa Ac rfl (AY rfl (qm rfl (Ad ?_))))))
   exact Au _ h (sm [(2001, 28)] _ _ rfl rfl)
  ·have h := An c3 h
   refine AX ?_
   exact Au _ h (sm [(2002, 2001)] _ _ rfl rfl)
 ·refine Al hs (Ab (Ab (Aa Ac rfl (qf CT rfl (ql G6 rfl (AZ Dm rfl (qm rfl (Ad ?_))))))))
  refine AJ (L := GA N p0) h (fun v7 => mk [(3, .e (.one (.own 2004))), (31, .e (.one (.pure (.sl (p0.fHeld.map Bb))))), (32, .e (.one (.pure (.val (.int .i64 ((p0.fHeld.length : Int))))))), (33, .e (.one (.pure (.val (.int .i64 v7.2)))))] [(2004, .vec 1 (v7.1.map Bb))]) (fun v8 => mk [(3, .e (.one (.own 2005)))] [(2005, .vec 1 (v8.map Bb))]) (fun _ _ => rfl) (sm [(2004, 2002)] _ _ rfl rfl) (fun j7 n7 v7 h => ?_) (fun v8 s h hs => ?_)
  ·unfold GA at h
   refine Ab (Aa Ac rfl (A2 rfl (Ad (Ab ?_))))
   refine Ap rfl (fun c9 => ?_) (fun c9 => ?_)
   ·have h := Am c9 h
    refine Ar (Ab (AN (Ab (Aa Ac rfl ?_))))
    obtain ⟨v10, a10, b10, h⟩ := Aj h
    refine qi Dm FG a10 (Ah b10) rfl (qk Ju rfl (qa rfl (Ad (Aa Ac rfl (qm rfl (qm rfl (Ep Gw R2 UE rfl ?_)))))))
    obtain ⟨c11, h⟩ := AK h
    refine Dw (f := Bb) Gw Gw R2 Ul UE c11 rfl (qa rfl (Ad (Aa Ac rfl (AY rfl (qm rfl (Ad ?_))))))
    exact Au _ h (sm [(2004, 40)] _ _ rfl rfl)
   ·have h := An c9 h
    refine AX ?_
    exact Au _ h (sm [(2005, 2004)] _ _ rfl rfl)
  ·refine Al hs (Ab (Aa Ac rfl (qm rfl ?_)))
   refine Rx v8 (.p rfl) rfl (RM Bb _ _ _) ⟨rfl, trivial⟩ rfl Vu TJ ?_
   refine qa rfl (Ad ?_)
   obtain rfl := sj h
   refine Al (sm [] [(2, .e (.one (.pure (.val (.string ((Is v8)))))))] [] rfl rfl) (Az ?_)
   exact ⟨⟨[_], ⟨.tmp _ _ rfl, trivial⟩, rfl⟩, trivial⟩
end Go.Lift

/- That the code does what the shallow programs do, function by function. Written by a program (gen.py). -/
namespace Go.Lift
open Go.RowKit
open Go.Proofs
set_option maxRecDepth 10000 in
theorem Qd (N : Nat) (p0 : Ag) (r : (List Ak)) (h : HC N p0 = some r) : AC Tryz.prog 96 [.e (.agg [.pure (.sl (p0.fVersions.map Ai)), .pure (.sl (p0.fNow.map Ai)), .pure (.sl (p0.fTarget.map Ai)), .pure (.sl (p0.fTables.map Ao))])] [(3, r.map AD)] (.e (.one (.own 0))) := by
 unfold HC at h
 refine As (n := 54) (rs := [.tmp 2]) Tryz.func96 rfl rfl rfl (A5 rfl) (A5 rfl) rfl fun w0 S0 => ?_
 refine Ab (Aa Ac rfl (qb rfl (qa rfl (Ad (Ab (Aa Ac rfl (qa rfl (Ad (Ab (Ab (Aa Ac rfl (qf Bu rfl (ql Be rfl (AZ AI rfl (qm rfl (Ad ?_))))))))))))))))
 refine AJ (L := C6 N p0) h (fun v1 => mk [(1, .e (.one (.ptr 1 0))), (3, .e (.one (.own 2001))), (10, .e (.one (.pure (.sl (p0.fVersions.map Ai))))), (11, .e (.one (.pure (.val (.int .i64 ((p0.fVersions.length : Int))))))), (12, .e (.one (.pure (.val (.int .i64 v1.2)))))] [(1, .box [.pure (.sl (p0.fVersions.map Ai)), .pure (.sl (p0.fNow.map Ai)), .pure (.sl (p0.fTarget.map Ai)), .pure (.sl (p0.fTables.map Ao))]), (2001, .vec 3 (v1.1.map AD))]) (fun v2 => mk [(1, .e (.one (.ptr 1 0))), (3, .e (.one (.own 2002)))] [(1, .box [.pure (.sl (p0.fVersions.map Ai)), .pure (.sl (p0.fNow.map Ai)), .pure (.sl (p0.fTarget.map Ai)), .pure (.sl (p0.fTables.map Ao))]), (2002, .vec 3 (v2.map AD))]) (fun _ _ => rfl) ((Bf 3 2005 3 rfl rfl rfl).trans (sm [(2001, 2005)] _ _ rfl rfl)) (fun j1 n1 v1 h => ?_) (fun v2 s h hs => ?_)
 ·unfold C6 at h
  refine Ab (Aa Ac rfl (A2 rfl (Ad (Ab ?_))))
  refine Ap rfl (fun c3 => ?_) (fun c3 => ?_)
  ·have h := Am c3 h
   refine Ar (Ab (AN (Ab (Aa Ac rfl (qm rfl ?_)))))
   obtain ⟨v4, a4, b4, h⟩ := Aj h
   refine qi AI DP a4 (Ah b4) rfl (qk Cz rfl (qa rfl (qa rfl (Ad (Ab (Aa Ac rfl (qm rfl (qm rfl (Ad ?_)))))))))
   refine AJ (L := Es N v1 v4) h (fun v5 => mk [(1, .e (.one (.ptr 1 0))), (3, .e (.one (.own 2003))), (4, .e (.one (.pure (.val (.int .i64 v1.2))))), (10, .e (.one (.pure (.sl (p0.fVersions.map Ai))))), (11, .e (.one (.pure (.val (.int .i64 ((p0.fVersions.length : Int))))))), (12, .e (.one (.pure (.val (.int .i64 v1.2))))), (17, .e (.one (.pure (.val (.int .i64 v4))))), (18, .e (.one (.pure (.val (.int .i64 v5.2)))))] [(1, .box [.pure (.sl (p0.fVersions.map Ai)), .pure (.sl (p0.fNow.map Ai)), .pure (.sl (p0.fTarget.map Ai)), .pure (.sl (p0.fTables.map Ao))]), (2003, .vec 3 (v5.1.map AD))]) (fun v6 => mk [(1, .e (.one (.ptr 1 0))), (3, .e (.one (.own 2004))), (10, .e (.one (.pure (.sl (p0.fVersions.map Ai))))), (11, .e (.one (.pure (.val (.int .i64 ((p0.fVersions.length : Int))))))), (12, .e (.one (.pure (.val (.int .i64 v1.2)))))] [(1, .box [.pure (.sl (p0.fVersions.map Ai)), .pure (.sl (p0.fNow.map Ai)), .pure (.sl (p0.fTarget.map Ai)), .pure (.sl (p0.fTables.map Ao))]), (2004, .vec 3 (v6.map AD))]) (fun _ _ => rfl) (sm [(2003, 2001)] _ _ rfl rfl) (fun j5 n5 v5 h => ?_) (fun v6 s h hs => ?_)
   ·unfold Es at h
    refine Ab (Aa Ac rfl (A2 rfl (Ad (Ab ?_))))
    refine Ap rfl (fun c7 => ?_) (fun c7 => ?_)
    ·have h := Am c7 h
     refine Ar (Ab (AN (Ab (Aa Ac rfl (qm rfl (qa rfl (Ad (Aa Ac rfl (qm rfl (qm rfl (qm rfl (BM Hi RQ rfl (Ep CL DE Hi rfl ?_)))))))))))))
     obtain ⟨c8, h⟩ := AK h
     refine Dw (f := AD) CL CL DE LI Hi c8 rfl (qa rfl (Ad (Aa Ac rfl (AY rfl (qm rfl (Ad ?_))))))
     exact Au _ h (sm [(2003, 26)] _ _ rfl rfl)
    ·have h := An c7 h
     refine AX ?_
     exact Au _ h (sm [(2004, 2003)] _ _ rfl rfl)
   ·refine Al hs (Aa Ac rfl (AY rfl (qm rfl (Ad ?_))))
    exact Au _ h (sm [(2001, 2004)] _ _ rfl rfl)
  ·have h := An c3 h
   refine AX ?_
   exact Au _ h (sm [(2002, 2001)] _ _ rfl rfl)
 ·refine Al hs (Ab (Ab (Aa Ac rfl (qf Bu rfl (ql Be rfl (AZ AI rfl (qm rfl (Ad ?_))))))))
  refine AJ (L := Ch N p0) h (fun v9 => mk [(1, .e (.one (.ptr 1 0))), (3, .e (.one (.own 2006))), (31, .e (.one (.pure (.val (.int .i64 ((p0.fVersions.length : Int))))))), (32, .e (.one (.pure (.val (.int .i64 v9.2)))))] [(1, .box [.pure (.sl (p0.fVersions.map Ai)), .pure (.sl (p0.fNow.map Ai)), .pure (.sl (p0.fTarget.map Ai)), .pure (.sl (p0.fTables.map Ao))]), (2006, .vec 3 (v9.1.map AD))]) (fun v10 => mk [(1, .e (.one (.ptr 1 0))), (3, .e (.one (.own 2007)))] [(1, .box [.pure (.sl (p0.fVersions.map Ai)), .pure (.sl (p0.fNow.map Ai)), .pure (.sl (p0.fTarget.map Ai)), .pure (.sl (p0.fTables.map Ao))]), (2007, .vec 3 (v10.map AD))]) (fun _ _ => rfl) (sm [(2006, 2002)] _ _ rfl rfl) (fun j9 n9 v9 h => ?_) (fun v10 s h hs => ?_)
  ·unfold Ch at h
   refine Ab (Aa Ac rfl (A2 rfl (Ad (Ab ?_))))
   refine Ap rfl (fun c11 => ?_) (fun c11 => ?_)
   ·have h := Am c11 h
    refine Ar (Ab (AN (Ab (Aa Ac rfl (qm rfl (qa rfl (Ad (Aa Ac rfl (qm rfl (qm rfl (BM Hi RQ rfl (Ep CL DE Hi rfl ?_))))))))))))
    obtain ⟨c12, h⟩ := AK h
    refine Dw (f := AD) CL CL DE LI Hi c12 rfl (qa rfl (Ad (Aa Ac rfl (AY rfl (qm rfl (Ad ?_))))))
    exact Au _ h (sm [(2006, 39)] _ _ rfl rfl)
   ·have h := An c11 h
    refine AX ?_
    exact Au _ h (sm [(2007, 2006)] _ _ rfl rfl)
  ·refine Al hs (Ab (Ab (Aa Ac rfl (qf CS rfl (ql GZ rfl (AZ D9 rfl (qm rfl (Ad ?_))))))))
   refine AJ (L := Bp N p0) h (fun v13 => mk [(3, .e (.one (.own 2008))), (43, .e (.one (.pure (.val (.int .i64 ((p0.fTables.length : Int))))))), (44, .e (.one (.pure (.val (.int .i64 v13.2)))))] [(2008, .vec 3 (v13.1.map AD))]) (fun v14 => mk [(3, .e (.one (.own 2009)))] [(2009, .vec 3 (v14.map AD))]) (fun _ _ => rfl) (sm [(2008, 2007)] _ _ rfl rfl) (fun j13 n13 v13 h => ?_) (fun v14 s h hs => ?_)
   ·unfold Bp at h
    refine Ab (Aa Ac rfl (A2 rfl (Ad (Ab ?_))))
    refine Ap rfl (fun c15 => ?_) (fun c15 => ?_)
    ·have h := Am c15 h
     refine Ar (Ab (AN (Ab (Aa Ac rfl (qm rfl (qa rfl (Ad (Aa Ac rfl (qm rfl (qm rfl (BM Hi RQ rfl (Ep CL DE Hi rfl ?_))))))))))))
     obtain ⟨c16, h⟩ := AK h
     refine Dw (f := AD) CL CL DE LI Hi c16 rfl (qa rfl (Ad (Aa Ac rfl (AY rfl (qm rfl (Ad ?_))))))
     exact Au _ h (sm [(2008, 51)] _ _ rfl rfl)
    ·have h := An c15 h
     refine AX ?_
     exact Au _ h (sm [(2009, 2008)] _ _ rfl rfl)
   ·refine Al hs (Ab (Aa Ac rfl (qm rfl (qa rfl (Ad ?_)))))
    obtain rfl := sj h
    refine Al (sm [(1000, 2009)] [(2, .e (.one (.own 1000)))] [(1000, .vec 3 (v14.map AD))] rfl rfl) (Az ?_)
    exact ⟨⟨[_], ⟨.tmp _ _ rfl, trivial⟩, rfl⟩, ⟨rfl, trivial⟩⟩
set_option maxRecDepth 10000 in
theorem Ke (N : Nat) (p0 : Ae) (r : Ae) (h : Fd N p0 = some r) : AC Tryz.prog 78 [.e (.agg [.pure (.sl (p0.fBase.map Ai)), .pure (.sl (p0.fNext.map Ai)), .pure (.sl (p0.fHeld.map Bb))])] [(1, r.fBase.map Ai), (1, r.fNext.map Ai), (1, r.fHeld.map Bb)] (.e (.agg [.own 0, .own 1, .own 2])) := by
 unfold Fd at h
 refine As (n := 13) (rs := [.cell 2 50]) Tryz.func78 rfl rfl rfl (A5 rfl) (A5 rfl) rfl fun w0 S0 => ?_
 refine Ab (Aa Ac rfl (qb rfl (qz CX rfl (Ad (Ab (Aa Ac rfl (qf Db rfl (ql Be rfl ?_))))))))
 obtain ⟨v1, a1, h⟩ := bind_some h
 refine AH [2001] (DS N p0.fBase v1 a1) Rm rfl (qf BG rfl (ql Be rfl ?_))
 obtain ⟨v2, a2, h⟩ := bind_some h
 refine AH [2002] (DS N p0.fNext v2 a2) Rm rfl (qf CT rfl (ql G6 rfl ?_))
 obtain ⟨v3, a3, h⟩ := bind_some h
 refine AH [2003] (Fl N p0.fHeld v3 a3) V7 rfl (BM CX HL rfl (qs Ax rfl (AM (by kernel_rfl) ?_)))
 obtain rfl := sj h
 refine Al (sm [(1000, 2001), (1001, 2002), (1002, 2003)] [(2, .e (.one (.ptr 2 0)))] [(2, .box [.own 1000, .own 1001, .own 1002]), (1000, .vec 1 (v1.map Ai)), (1001, .vec 1 (v2.map Ai)), (1002, .vec 1 (v3.map Bb))] rfl rfl) (Az ?_)
 exact ⟨⟨[_], ⟨.cellN _ _ _ _ _ _ _ rfl rfl A1 Ax rfl rfl (I7 rfl), trivial⟩, rfl⟩, ⟨rfl, rfl, rfl, trivial⟩⟩
set_option maxRecDepth 10000 in
theorem Ka (N : Nat) (p0 : AF) (r : Bool) (h : Fe N p0 = some r) : AC Tryz.prog 120 [.e (.agg [.pure (.val (.int .i64 p0.fKind)), .pure (.val (.int .i64 p0.fFrom)), .pure (.val (.int .i64 p0.fTo)), .pure (.val (.bool p0.fAware)), .pure (.sl (p0.fOK.map (ER eB))), .pure (.sl (p0.fRewrite.map (ER eB)))])] [] (.e (.one (.pure (.val (.bool r))))) := by
 unfold Fe at h
 refine As (n := 11) (rs := [.tmp 2]) Tryz.func120 rfl rfl rfl (A5 rfl) (A5 rfl) rfl fun w0 S0 => ?_
 refine Ab (Aa Ac rfl (qb rfl (qa rfl (Ad ?_))))
 refine AO h (fun v1 => mk [(2, .e (.one (.pure (.val (.bool v1)))))] []) (fun j1 h => ?_) (fun v1 h => ?_)
 ·refine Aa Ac rfl (qf FK rfl (ql Cz rfl (BK rfl (qm rfl ?_))))
  refine AE (t := 6) rfl (fun c2 => ?_) (fun c2 => ?_)
  ·have h := Am c2 h
   refine qn rfl (qn rfl (qn rfl (qp rfl (qa rfl (Ad ?_)))))
   exact Au _ h (sm [] _ _ rfl rfl)
  ·have h := An c2 h
   refine qf FK rfl (ql Cz rfl (BK rfl (qp rfl (qa rfl (Ad ?_)))))
   exact Au _ h (sm [] _ _ rfl rfl)
 ·obtain rfl := sj h
  refine Al (sm [] [(2, .e (.one (.pure (.val (.bool v1)))))] [] rfl rfl) (Az ?_)
  exact ⟨⟨[_], ⟨.tmp _ _ rfl, trivial⟩, rfl⟩, trivial⟩
set_option maxRecDepth 10000 in
theorem OM (N : Nat) (p0 : Ag) (p1 : Ae) (p2 : Ak) (r : Bool × (List Int) × (List Int)) (h : Hv N p0 p1 p2 = some r) : BI Tryz.prog 113 [.e (.agg [.pure (.sl (p0.fVersions.map Ai)), .pure (.sl (p0.fNow.map Ai)), .pure (.sl (p0.fTarget.map Ai)), .pure (.sl (p0.fTables.map Ao))]), .e (.one (.ptr 90000 0)), .e (.agg [.pure (.val (.int .i64 p2.fKind)), .pure (.val (.int .i64 p2.fIndex)), .pure (.val (.int .i64 p2.fVersion))])] [(.box [.own 90001, .own 90002, .own 90003], .box [.own 90001, .own 90002, .own 90003]), (.vec 1 (p1.fBase.map Ai), .vec 1 (p1.fBase.map Ai)), (.vec 1 (p1.fNext.map Ai), .vec 1 (r.2.1.map Ai)), (.vec 1 (p1.fHeld.map Bb), .vec 1 (r.2.2.map Bb))] [] (.e (.one (.pure (.val (.bool r.1))))) := by
 unfold Hv at h
 refine Bx (n := 70) (rs := [.tmp 6]) Tryz.func113 rfl rfl rfl (A5 rfl) (A5 rfl) rfl rfl (A5 rfl) rfl (A5 rfl) fun w0 S0 GL => ?_
 refine Al (sm [] [(0, .e (.agg [.pure (.sl (p0.fVersions.map Ai)), .pure (.sl (p0.fNow.map Ai)), .pure (.sl (p0.fTarget.map Ai)), .pure (.sl (p0.fTables.map Ao))])), (1, .e (.one (.ptr 90000 0))), (2, .e (.agg [.pure (.val (.int .i64 p2.fKind)), .pure (.val (.int .i64 p2.fIndex)), .pure (.val (.int .i64 p2.fVersion))]))] [(90000, .box [.own 90001, .own 90002, .own 90003]), (90001, .vec 1 (p1.fBase.map Ai)), (90002, .vec 1 (p1.fNext.map Ai)), (90003, .vec 1 (p1.fHeld.map Bb))] rfl rfl) (Ab (Aa Ac rfl (qb rfl (qb rfl (qa rfl (Ad (Ab ?_)))))))
 refine AO h (fun v1 => mk [(1, .e (.one (.ptr 90000 0))), (3, .e (.one (.ptr 3 0))), (5, .e (.one (.ptr 5 0))), (30, .e (.one (.pure (.val (.bool v1)))))] [(3, .box [.pure (.sl (p0.fVersions.map Ai)), .pure (.sl (p0.fNow.map Ai)), .pure (.sl (p0.fTarget.map Ai)), .pure (.sl (p0.fTables.map Ao))]), (5, .box [.pure (.val (.int .i64 p2.fKind)), .pure (.val (.int .i64 p2.fIndex)), .pure (.val (.int .i64 p2.fVersion))]), (90000, .box [.own 90001, .own 90002, .own 90003]), (90001, .vec 1 (p1.fBase.map Ai)), (90002, .vec 1 (p1.fNext.map Ai)), (90003, .vec 1 (p1.fHeld.map Bb))]) (fun j1 h => ?_) (fun v1 h => ?_)
 ·refine Aa Ac rfl (qm rfl (Nh rfl (qf BG rfl (ql Be rfl (qf EU rfl (ql Cz rfl ?_))))))
  obtain ⟨v2, a2, b2, h⟩ := Aj h
  refine qI AI DP a2 (Ah b2) rfl (qj Cz (Ah b2) rfl (Dx rfl (qm rfl ?_)))
  refine AE (t := 18) rfl (fun c3 => ?_) (fun c3 => ?_)
  ·have h := Am c3 h
   refine qn rfl (qn rfl (qn rfl (qn rfl (qn rfl (qn rfl (qn rfl (qn rfl (qn rfl (qn rfl (qn rfl (qp rfl (AM (by kernel_rfl) ?_))))))))))))
   exact Au _ h (sm [] _ _ rfl rfl)
  ·have h := An c3 h
   refine qm rfl (Nh rfl (qf Db rfl (ql Be rfl (qf EU rfl (ql Cz rfl ?_)))))
   obtain ⟨v4, a4, b4, h⟩ := Aj h
   refine qI AI DP a4 (Ah b4) rfl (qj Cz (Ah b4) rfl (qf GB rfl (ql Cz rfl (BK rfl (qp rfl (AM (by kernel_rfl) ?_))))))
   exact Au _ h (sm [] _ _ rfl rfl)
 ·refine Ap rfl (fun c5 => ?_) (fun c5 => ?_)
  ·have h := Am c5 h
   refine Ab (Aa Ac rfl (qa rfl (Ad ?_)))
   obtain rfl := sj h
   refine Al (sm [] [(6, .e (.one (.pure (.val (.bool false)))))] [(90000, .box [.own 90001, .own 90002, .own 90003]), (90001, .vec 1 (p1.fBase.map Ai)), (90002, .vec 1 (p1.fNext.map Ai)), (90003, .vec 1 (p1.fHeld.map Bb))] rfl rfl) (Az ?_)
   exact ⟨⟨[_], ⟨.tmp _ _ rfl, trivial⟩, rfl⟩, ⟨rfl, rfl, rfl, rfl, trivial⟩, trivial⟩
  ·have h := An c5 h
   refine Ar (Ab (Aa Ac rfl (qm rfl (Nh rfl (qf BG rfl (ql Be rfl (qf EU rfl (ql Cz rfl (qf GB rfl (ql Cz rfl ?_))))))))))
   obtain ⟨v6, a6, b6, h⟩ := Aj h
   refine qI AI DP a6 (Ah b6) rfl ?_
   refine A7 rfl rfl rfl rfl (Ah b6) rfl DP rfl (A5 rfl) (A8 Ai p1.fNext _ p2.fVersion) ?_
   refine AM (by kernel_rfl) (Ab (Ab (Aa Ac rfl (qf CS rfl (ql GZ rfl (AZ D9 rfl (qm rfl (Ad ?_))))))))
   refine AJ (L := DL N p0 p2) h (fun v7 => mk [(1, .e (.one (.ptr 90000 0))), (5, .e (.one (.ptr 5 0))), (41, .e (.one (.pure (.sl (p0.fTables.map Ao))))), (42, .e (.one (.pure (.val (.int .i64 ((p0.fTables.length : Int))))))), (43, .e (.one (.pure (.val (.int .i64 v7.2)))))] [(5, .box [.pure (.val (.int .i64 p2.fKind)), .pure (.val (.int .i64 p2.fIndex)), .pure (.val (.int .i64 p2.fVersion))]), (90000, .box [.own 90001, .own 90002, .own 90003]), (90001, .vec 1 (p1.fBase.map Ai)), (90002, .vec 1 ((p1.fNext.set ((p2.fIndex).toNat) p2.fVersion).map Ai)), (90003, .vec 1 (v7.1.map Bb))]) (fun v8 => mk [] [(90000, .box [.own 90001, .own 90002, .own 90003]), (90001, .vec 1 (p1.fBase.map Ai)), (90002, .vec 1 ((p1.fNext.set ((p2.fIndex).toNat) p2.fVersion).map Ai)), (90003, .vec 1 (v8.map Bb))]) (fun _ _ => rfl) (sm [] _ _ rfl rfl) (fun j7 n7 v7 h => ?_) (fun v8 s h hs => ?_)
   ·unfold DL at h
    refine Ab (Aa Ac rfl (A2 rfl (Ad (Ab ?_))))
    refine Ap rfl (fun c9 => ?_) (fun c9 => ?_)
    ·have h := Am c9 h
     refine Ar ?_
     refine AO h (fun v10 => mk [(1, .e (.one (.ptr 90000 0))), (5, .e (.one (.ptr 5 0))), (41, .e (.one (.pure (.sl (p0.fTables.map Ao))))), (42, .e (.one (.pure (.val (.int .i64 ((p0.fTables.length : Int))))))), (43, .e (.one (.pure (.val (.int .i64 v7.2)))))] [(5, .box [.pure (.val (.int .i64 p2.fKind)), .pure (.val (.int .i64 p2.fIndex)), .pure (.val (.int .i64 p2.fVersion))]), (90000, .box [.own 90001, .own 90002, .own 90003]), (90001, .vec 1 (p1.fBase.map Ai)), (90002, .vec 1 ((p1.fNext.set ((p2.fIndex).toNat) p2.fVersion).map Ai)), (90003, .vec 1 (v10.map Bb))]) (fun j10 h => ?_) (fun v10 h => ?_)
     ·refine AN (Ab (Aa Ac rfl (qm rfl ?_)))
      obtain ⟨v11, a11, b11, h⟩ := Aj h
      refine qi D9 D8 a11 (Ah b11) rfl (qK Hj D8 rfl (qz J4 rfl (qa rfl (qs D8 rfl (Ad ?_)))))
      refine AO h (fun v12 => mk [(1, .e (.one (.ptr 90000 0))), (5, .e (.one (.ptr 5 0))), (7, .e (.one (.pure (.val (.int .i64 v7.2))))), (41, .e (.one (.pure (.sl (p0.fTables.map Ao))))), (42, .e (.one (.pure (.val (.int .i64 ((p0.fTables.length : Int))))))), (43, .e (.one (.pure (.val (.int .i64 v7.2))))), (56, .e (.one (.pure (.val (.bool v12)))))] [(5, .box [.pure (.val (.int .i64 p2.fKind)), .pure (.val (.int .i64 p2.fIndex)), .pure (.val (.int .i64 p2.fVersion))]), (90000, .box [.own 90001, .own 90002, .own 90003]), (90001, .vec 1 (p1.fBase.map Ai)), (90002, .vec 1 ((p1.fNext.set ((p2.fIndex).toNat) p2.fVersion).map Ai)), (90003, .vec 1 (v7.1.map Bb))]) (fun j12 h => ?_) (fun v12 h => ?_)
      ·refine Aa Ac rfl (qf De rfl (ql Cz rfl (qf EU rfl (ql Cz rfl (BK rfl (qm rfl ?_))))))
       refine AE (t := 53) rfl (fun c13 => ?_) (fun c13 => ?_)
       ·have h := Am c13 h
        refine qL Hj D8 rfl ?_
        obtain ⟨v14, a14, h⟩ := bind_some h
        refine AH [] (Ka N v11 v14 a14) T3 rfl (qp rfl (Ad ?_))
        exact Au _ h (sm [] _ _ rfl rfl)
       ·have h := An c13 h
        refine qn rfl (qn rfl (qp rfl (Ad ?_)))
        exact Au _ h (sm [] _ _ rfl rfl)
      ·refine Ap rfl (fun c15 => ?_) (fun c15 => ?_)
       ·have h := Am c15 h
        refine Aa Ac rfl (qm rfl (Nh rfl (qf CT rfl (ql G6 rfl (qm rfl ?_)))))
        obtain ⟨v16, a16, b16, h⟩ := Aj h
        refine qI Dm FG a16 (Ah b16) rfl (qj Ju (Ah b16) rfl (qf GB rfl (ql Cz rfl ?_)))
        obtain ⟨c17, h⟩ := AK h
        refine HF rfl c17 (SE rfl ?_)
        obtain ⟨v18, a18, b18, h⟩ := Aj h
        refine qI Dm FG a18 (Ah b18) rfl ?_
        refine A7 rfl rfl rfl rfl (Ah b18) rfl FG rfl (A5 rfl) (A8 Bb v7.1 _ ((Nf .u8 v16 ((CJ .u8 1 p2.fVersion))))) ?_
        refine AM (by kernel_rfl) ?_
        exact Au _ h (sm [] _ _ rfl rfl)
       ·have h := An c15 h
        refine Ar ?_
        exact Au _ h (sm [] _ _ rfl rfl)
     ·refine Aa Ac rfl (AY rfl (qm rfl (Ad ?_)))
      exact Au _ h (sm [] _ _ rfl rfl)
    ·have h := An c9 h
     refine AX ?_
     exact Au _ h (sm [] _ _ rfl rfl)
   ·refine Al hs (Ab (Aa Ac rfl (qa rfl (Ad ?_))))
    obtain rfl := sj h
    refine Al (sm [] [(6, .e (.one (.pure (.val (.bool true)))))] [(90000, .box [.own 90001, .own 90002, .own 90003]), (90001, .vec 1 (p1.fBase.map Ai)), (90002, .vec 1 ((p1.fNext.set ((p2.fIndex).toNat) p2.fVersion).map Ai)), (90003, .vec 1 (v8.map Bb))] rfl rfl) (Az ?_)
    exact ⟨⟨[_], ⟨.tmp _ _ rfl, trivial⟩, rfl⟩, ⟨rfl, rfl, rfl, rfl, trivial⟩, trivial⟩
set_option maxRecDepth 10000 in
theorem MV (N : Nat) (p0 : Ae) (p1 : Int) (r : Int) (h : Fx N p0 p1 = some r) : AC Tryz.prog 121 [.e (.agg [.pure (.sl (p0.fBase.map Ai)), .pure (.sl (p0.fNext.map Ai)), .pure (.sl (p0.fHeld.map Bb))]), .e (.one (.pure (.val (.int .i64 p1))))] [] (.e (.one (.pure (.val (.int .u8 r))))) := by
 unfold Fx at h
 refine As (n := 27) (rs := [.tmp 4]) Tryz.func121 rfl rfl rfl (A5 rfl) (A5 rfl) rfl fun w0 S0 => ?_
 refine Ab (Aa Ac rfl (qb rfl (qa rfl (Ad (Ab (Aa Ac rfl (qf Db rfl (ql Be rfl (qm rfl ?_)))))))))
 obtain ⟨v1, a1, b1, h⟩ := Aj h
 refine qi AI DP a1 (Ah b1) rfl (qk Cz rfl ?_)
 obtain ⟨c2, h⟩ := AK h
 refine HF rfl c2 (qa rfl (Ad ?_))
 refine AO h (fun v3 => mk [(5, .e (.one (.pure (.val (.int .u8 v3)))))] []) (fun j3 h => ?_) (fun v3 h => ?_)
 ·refine Ab (Aa Ac rfl (qf BG rfl (ql Be rfl (qm rfl ?_))))
  obtain ⟨v4, a4, b4, h⟩ := Aj h
  refine qi AI DP a4 (Ah b4) rfl (qk Cz rfl (Dx rfl (Ad ?_)))
  refine Ap rfl (fun c5 => ?_) (fun c5 => ?_)
  ·have h := Am c5 h
   refine Aa Ac rfl (qm rfl (qf BG rfl (ql Be rfl (qm rfl ?_))))
   obtain ⟨v6, a6, b6, h⟩ := Aj h
   refine qi AI DP a6 (Ah b6) rfl (qk Cz rfl ?_)
   obtain ⟨c7, h⟩ := AK h
   refine HF rfl c7 (SE rfl (qa rfl (Ad ?_)))
   exact Au _ h (sm [] _ _ rfl rfl)
  ·have h := An c5 h
   refine Ar ?_
   exact Au _ h (sm [] _ _ rfl rfl)
 ·refine Ab (Aa Ac rfl (qm rfl (qa rfl (Ad ?_))))
  obtain rfl := sj h
  refine Al (sm [] [(4, .e (.one (.pure (.val (.int .u8 v3)))))] [] rfl rfl) (Az ?_)
  exact ⟨⟨[_], ⟨.tmp _ _ rfl, trivial⟩, rfl⟩, trivial⟩
set_option maxRecDepth 10000 in
theorem H7 (N : Nat) (p0 : Int) (r : Int) (h : C0 N p0 = some r) : AC Tryz.prog 125 [.e (.one (.pure (.val (.int .u8 p0))))] [] (.e (.one (.pure (.val (.int .i64 r))))) := by
 unfold C0 at h
 refine As (n := 6) (rs := [.tmp 2]) Tryz.func125 rfl rfl rfl (A5 rfl) (A5 rfl) rfl fun w0 S0 => ?_
 refine Ab (Aa Ac rfl (qa rfl (Ad (Ab (Aa Ac rfl (qm rfl ?_))))))
 obtain ⟨v1, a1, h⟩ := bind_some h
 refine Ln (.p rfl) rfl rfl TJ a1 ?_
 refine GT SP Ri rfl (qa rfl (Ad ?_))
 obtain rfl := sj h
 refine Al (sm [] [(2, .e (.one (.pure (.val (.int .i64 ((IntKind.wrap .i64 v1)))))))] [] rfl rfl) (Az ?_)
 exact ⟨⟨[_], ⟨.tmp _ _ rfl, trivial⟩, rfl⟩, trivial⟩
set_option maxRecDepth 10000 in
theorem Lb (N : Nat) (p0 : AF) (p1 : Int) (p2 : Int) (r : Bool) (h : Fq N p0 p1 p2 = some r) : AC Tryz.prog 122 [.e (.agg [.pure (.val (.int .i64 p0.fKind)), .pure (.val (.int .i64 p0.fFrom)), .pure (.val (.int .i64 p0.fTo)), .pure (.val (.bool p0.fAware)), .pure (.sl (p0.fOK.map (ER eB))), .pure (.sl (p0.fRewrite.map (ER eB)))]), .e (.one (.pure (.val (.int .u8 p1)))), .e (.one (.pure (.val (.int .i64 p2))))] [] (.e (.one (.pure (.val (.bool r))))) := by
 unfold Fq at h
 refine As (n := 25) (rs := [.tmp 6]) Tryz.func122 rfl rfl rfl (A5 rfl) (A5 rfl) rfl fun w0 S0 => ?_
 refine Ab (Aa Ac rfl (qb rfl (qa rfl (Ad (Ab (Ab (Aa Ac rfl (qm rfl (qa rfl (Ad ?_))))))))))
 refine AJ (L := Dv N p0 p2) h (fun v1 => mk [(2, .e (.one (.pure (.val (.int .i64 p2))))), (3, .e (.one (.ptr 3 0))), (7, .e (.one (.pure (.val (.int .u8 v1)))))] [(3, .box [.pure (.val (.int .i64 p0.fKind)), .pure (.val (.int .i64 p0.fFrom)), .pure (.val (.int .i64 p0.fTo)), .pure (.val (.bool p0.fAware)), .pure (.sl (p0.fOK.map (ER eB))), .pure (.sl (p0.fRewrite.map (ER eB)))])]) (fun v2 => mk [] []) (fun _ _ => rfl) (sm [] _ _ rfl rfl) (fun j1 n1 v1 h => ?_) (fun v2 s h hs => ?_)
 ·unfold Dv at h
  refine Ab (Ab (Aa Ac rfl (qm rfl (Cw rfl (Ad ?_)))))
  refine Ap rfl (fun c3 => ?_) (fun c3 => ?_)
  ·have h := Am c3 h
   refine Ar (Ab (AN (Ab (Aa Ac rfl (qf GC rfl (ql JB rfl (qm rfl ?_)))))))
   obtain ⟨v4, a4, h⟩ := bind_some h
   refine AH [] (H7 N v1 v4 a4) Vz rfl ?_
   obtain ⟨v5, a5, b5, h⟩ := Aj h
   refine qi Gf Jq a5 (Ah b5) rfl (qk K3 rfl (qm rfl ?_))
   obtain ⟨v6, a6, b6, h⟩ := Aj h
   refine qi E5 Ph a6 (Ah b6) rfl (qk QS rfl (Cp rfl (AM (by kernel_rfl) ?_)))
   refine Ap rfl (fun c7 => ?_) (fun c7 => ?_)
   ·have h := Am c7 h
    refine Ab (Aa Ac rfl (qa rfl (Ad ?_)))
    obtain rfl := sj h
    refine Al (sm [] [(6, .e (.one (.pure (.val (.bool false)))))] [] rfl rfl) (Az ?_)
    exact ⟨⟨[_], ⟨.tmp _ _ rfl, trivial⟩, rfl⟩, trivial⟩
   ·have h := An c7 h
    refine Ar (Aa Ac rfl (qm rfl (qm rfl (CQ rfl (KE rfl (qa rfl (Ad ?_)))))))
    exact Au _ h (sm [] _ _ rfl rfl)
  ·have h := An c3 h
   refine AX ?_
   exact Au _ h (sm [] _ _ rfl rfl)
 ·refine Al hs (Ab (Aa Ac rfl (qa rfl (Ad ?_))))
  obtain rfl := sj h
  refine Al (sm [] [(6, .e (.one (.pure (.val (.bool true)))))] [] rfl rfl) (Az ?_)
  exact ⟨⟨[_], ⟨.tmp _ _ rfl, trivial⟩, rfl⟩, trivial⟩
set_option maxRecDepth 10000 in
theorem Or (N : Nat) (p0 : Ag) (p1 : Ae) (p2 : Int) (r : Bool × (List Int)) (h : Gn N p0 p1 p2 = some r) : BI Tryz.prog 114 [.e (.agg [.pure (.sl (p0.fVersions.map Ai)), .pure (.sl (p0.fNow.map Ai)), .pure (.sl (p0.fTarget.map Ai)), .pure (.sl (p0.fTables.map Ao))]), .e (.one (.ptr 90000 0)), .e (.one (.pure (.val (.int .i64 p2))))] [(.box [.own 90001, .own 90002, .own 90003], .box [.own 90001, .own 90002, .own 90003]), (.vec 1 (p1.fBase.map Ai), .vec 1 (p1.fBase.map Ai)), (.vec 1 (p1.fNext.map Ai), .vec 1 (p1.fNext.map Ai)), (.vec 1 (p1.fHeld.map Bb), .vec 1 (r.2.map Bb))] [] (.e (.one (.pure (.val (.bool r.1))))) := by
 unfold Gn at h
 refine Bx (n := 68) (rs := [.tmp 6]) Tryz.func114 rfl rfl rfl (A5 rfl) (A5 rfl) rfl rfl (A5 rfl) rfl (A5 rfl) fun w0 S0 GL => ?_
 refine Al (sm [] [(0, .e (.agg [.pure (.sl (p0.fVersions.map Ai)), .pure (.sl (p0.fNow.map Ai)), .pure (.sl (p0.fTarget.map Ai)), .pure (.sl (p0.fTables.map Ao))])), (1, .e (.one (.ptr 90000 0))), (2, .e (.one (.pure (.val (.int .i64 p2)))))] [(90000, .box [.own 90001, .own 90002, .own 90003]), (90001, .vec 1 (p1.fBase.map Ai)), (90002, .vec 1 (p1.fNext.map Ai)), (90003, .vec 1 (p1.fHeld.map Bb))] rfl rfl) (Ab (Aa Ac rfl (qb rfl (qa rfl (Ad (Ab (Aa Ac rfl (qf CS rfl (ql GZ rfl (qm rfl ?_))))))))))
 obtain ⟨v1, a1, b1, h⟩ := Aj h
 refine qi D9 D8 a1 (Ah b1) rfl (qK Hj D8 rfl (qz J4 rfl (qs D8 rfl (Ad (Ab (Ab (Aa Ac rfl (qL Hj D8 rfl ?_))))))))
 obtain ⟨v2, a2, h⟩ := bind_some h
 refine AH [] (Ka N v1 v2 a2) T3 rfl (Cp rfl (Ad ?_))
 refine Ap rfl (fun c3 => ?_) (fun c3 => ?_)
 ·have h := Am c3 h
  refine Ab (Aa Ac rfl (qa rfl (Ad ?_)))
  obtain rfl := sj h
  refine Al (sm [] [(6, .e (.one (.pure (.val (.bool false)))))] [(90000, .box [.own 90001, .own 90002, .own 90003]), (90001, .vec 1 (p1.fBase.map Ai)), (90002, .vec 1 (p1.fNext.map Ai)), (90003, .vec 1 (p1.fHeld.map Bb))] rfl rfl) (Az ?_)
  exact ⟨⟨[_], ⟨.tmp _ _ rfl, trivial⟩, rfl⟩, ⟨rfl, rfl, rfl, rfl, trivial⟩, trivial⟩
 ·have h := An c3 h
  refine Ar (Ab (Aa Ac rfl (qm rfl (Nh rfl (qL A1 Ax rfl (qf De rfl (ql Cz rfl ?_)))))))
  obtain ⟨v4, a4, h⟩ := bind_some h
  refine EF [] [90001, 90002, 90003] (MV N p1 v1.fFrom v4 a4) U6 C8 rfl (qa rfl (AM (by kernel_rfl) (Ab (Aa Ac rfl (qm rfl (Nh rfl (qf CT rfl (ql G6 rfl (qm rfl ?_)))))))))
  obtain ⟨v5, a5, b5, h⟩ := Aj h
  refine qI Dm FG a5 (Ah b5) rfl (qj Ju (Ah b5) rfl (qm rfl (Id rfl (qa rfl (Ad (Ab ?_))))))
  refine AO h (fun v6 => mk [(1, .e (.one (.ptr 90000 0))), (2, .e (.one (.pure (.val (.int .i64 p2))))), (8, .e (.one (.pure (.val (.int .u8 v4))))), (60, .e (.one (.pure (.val (.bool v6)))))] [(90000, .box [.own 90001, .own 90002, .own 90003]), (90001, .vec 1 (p1.fBase.map Ai)), (90002, .vec 1 (p1.fNext.map Ai)), (90003, .vec 1 (p1.fHeld.map Bb))]) (fun j6 h => ?_) (fun v6 h => ?_)
  ·refine Aa Ac rfl (qm rfl (Nh rfl (qf CT rfl (ql G6 rfl (qm rfl ?_)))))
   obtain ⟨v7, a7, b7, h⟩ := Aj h
   refine qI Dm FG a7 (Ah b7) rfl (qj Ju (Ah b7) rfl (qm rfl (BK rfl (qm rfl ?_))))
   refine AE (t := 42) rfl (fun c8 => ?_) (fun c8 => ?_)
   ·have h := Am c8 h
    refine qn rfl (qn rfl (qn rfl (qn rfl (qu rfl (qu rfl (qu rfl (qu rfl (qu rfl (qu rfl (qu rfl (qu rfl (qu rfl (qu rfl (qu rfl (qu rfl (qn rfl (qp rfl (AM (by kernel_rfl) ?_))))))))))))))))))
    exact Au _ h (sm [] _ _ rfl rfl)
   ·have h := An c8 h
    refine qf FK rfl (ql Cz rfl (BK rfl (qm rfl ?_)))
    refine AE (t := 46) rfl (fun c9 => ?_) (fun c9 => ?_)
    ·have h := Am c9 h
     refine qL Hj D8 rfl (qm rfl (qm rfl (Nh rfl (qf Db rfl (ql Be rfl (qf De rfl (ql Cz rfl ?_)))))))
     obtain ⟨v10, a10, b10, h⟩ := Aj h
     refine qI AI DP a10 (Ah b10) rfl (qj Cz (Ah b10) rfl ?_)
     obtain ⟨v11, a11, h⟩ := bind_some h
     refine AH [] (Lb N v1 ((Df .u8 v5 v4)) v10 v11 a11) VI rfl (Cp rfl (qp rfl (qp rfl (AM (by kernel_rfl) ?_))))
     exact Au _ h (sm [] _ _ rfl rfl)
    ·have h := An c9 h
     refine qn rfl (qn rfl (qn rfl (qn rfl (qn rfl (qn rfl (qn rfl (qn rfl (qn rfl (qn rfl (qn rfl (qn rfl (qp rfl (qp rfl (AM (by kernel_rfl) ?_))))))))))))))
     exact Au _ h (sm [] _ _ rfl rfl)
  ·refine Ap rfl (fun c12 => ?_) (fun c12 => ?_)
   ·have h := Am c12 h
    refine Ab (Aa Ac rfl (qa rfl (Ad ?_)))
    obtain rfl := sj h
    refine Al (sm [] [(6, .e (.one (.pure (.val (.bool false)))))] [(90000, .box [.own 90001, .own 90002, .own 90003]), (90001, .vec 1 (p1.fBase.map Ai)), (90002, .vec 1 (p1.fNext.map Ai)), (90003, .vec 1 (p1.fHeld.map Bb))] rfl rfl) (Az ?_)
    exact ⟨⟨[_], ⟨.tmp _ _ rfl, trivial⟩, rfl⟩, ⟨rfl, rfl, rfl, rfl, trivial⟩, trivial⟩
   ·have h := An c12 h
    refine Ar (Ab (Aa Ac rfl (qm rfl (Nh rfl (qf CT rfl (ql G6 rfl (qm rfl (qm rfl ?_))))))))
    obtain ⟨v13, a13, b13, h⟩ := Aj h
    refine qI Dm FG a13 (Ah b13) rfl ?_
    refine A7 rfl rfl rfl rfl (Ah b13) rfl FG rfl (A5 rfl) (A8 Bb p1.fHeld _ v4) ?_
    refine Ad (Ab (Aa Ac rfl (qa rfl (Ad ?_))))
    obtain rfl := sj h
    refine Al (sm [] [(6, .e (.one (.pure (.val (.bool true)))))] [(90000, .box [.own 90001, .own 90002, .own 90003]), (90001, .vec 1 (p1.fBase.map Ai)), (90002, .vec 1 (p1.fNext.map Ai)), (90003, .vec 1 ((p1.fHeld.set ((p2).toNat) v4).map Bb))] rfl rfl) (Az ?_)
    exact ⟨⟨[_], ⟨.tmp _ _ rfl, trivial⟩, rfl⟩, ⟨rfl, rfl, rfl, rfl, trivial⟩, trivial⟩
set_option maxRecDepth 10000 in
theorem KF (N : Nat) (p0 : Ag) (p1 : Ae) (p2 : Ak) (r : Ae × Bool) (h : E4 N p0 p1 p2 = some r) : AC Tryz.prog 98 [.e (.agg [.pure (.sl (p0.fVersions.map Ai)), .pure (.sl (p0.fNow.map Ai)), .pure (.sl (p0.fTarget.map Ai)), .pure (.sl (p0.fTables.map Ao))]), .e (.agg [.pure (.sl (p1.fBase.map Ai)), .pure (.sl (p1.fNext.map Ai)), .pure (.sl (p1.fHeld.map Bb))]), .e (.agg [.pure (.val (.int .i64 p2.fKind)), .pure (.val (.int .i64 p2.fIndex)), .pure (.val (.int .i64 p2.fVersion))])] [(1, r.1.fBase.map Ai), (1, r.1.fNext.map Ai), (1, r.1.fHeld.map Bb)] (.tup [.agg [.own 0, .own 1, .own 2], .one (.pure (.val (.bool r.2)))]) := by
 unfold E4 at h
 refine As (n := 51) (rs := [.cell 6 50, .tmp 7]) Tryz.func98 rfl rfl rfl (A5 rfl) (A5 rfl) rfl fun w0 S0 => ?_
 refine Ab (Aa Ac rfl (qb rfl (qb rfl (qb rfl (qz CX rfl (qa rfl (Ad (Ab (Aa Ac rfl (qL A1 Ax rfl ?_))))))))))
 obtain ⟨v1, a1, h⟩ := bind_some h
 refine AH [2001, 2002, 2003] (Ke N p1 v1 a1) U8 rfl (qz CX rfl (qs Ax rfl (Ad (Ab (Ab (Aa Ac rfl (qf Fr rfl (ql Cz rfl (Ad (AN (Ab (Aa Ac rfl (BK rfl (qa rfl (Ad ?_)))))))))))))))
 refine Ap rfl (fun c2 => ?_) (fun c2 => ?_)
 ·have h := Am c2 h
  refine Ab (Aa Ac rfl (qL A1 Ax rfl (qL D4 DQ rfl (qL Ht DE rfl ?_))))
  obtain ⟨v3, a3, h⟩ := bind_some h
  refine Dg (ds0 := [_, _, _]) [8, 2001, 2002, 2003] [] [false, false, true, true] (OM N p0 v1 p2 v3 a3) (.p rfl) Vs rfl ⟨rfl, rfl, rfl, trivial⟩ rfl rfl (by decide) ⟨rfl, rfl, rfl, rfl, trivial⟩ rfl (Bi rfl) trivial ⟨(fun _ => rfl), (fun _ => rfl), (fun h => by cases h), (fun h => by cases h), trivial⟩ rfl rfl rfl ?_
  refine qs Ax rfl (qa rfl (AM (by kernel_rfl) ?_))
  obtain rfl := sj h
  refine Al (sm [(1000, 2001), (1001, 2002), (1002, 2003)] [(6, .e (.one (.ptr 6 0))), (7, .e (.one (.pure (.val (.bool v3.1)))))] [(6, .box [.own 1000, .own 1001, .own 1002]), (1000, .vec 1 (v1.fBase.map Ai)), (1001, .vec 1 (v3.2.1.map Ai)), (1002, .vec 1 (v3.2.2.map Bb))] rfl rfl) (Az ?_)
  exact ⟨⟨[_, _], ⟨.cellN _ _ _ _ _ _ _ rfl rfl A1 Ax rfl rfl (I7 rfl), ⟨.tmp _ _ rfl, trivial⟩⟩, rfl⟩, ⟨rfl, rfl, rfl, trivial⟩⟩
 ·have h := An c2 h
  refine Ab (Aa Ac rfl (BK rfl (qa rfl (Ad ?_))))
  refine Ap rfl (fun c4 => ?_) (fun c4 => ?_)
  ·have h := Am c4 h
   refine Ab (Aa Ac rfl (qL A1 Ax rfl (qL D4 DQ rfl (qf EU rfl (ql Cz rfl ?_)))))
   obtain ⟨v5, a5, h⟩ := bind_some h
   refine Dg (ds0 := [_, _, _]) [8, 2001, 2002, 2003] [] [false, false, false, true] (Or N p0 v1 p2.fIndex v5 a5) (.p rfl) Vp rfl ⟨rfl, rfl, rfl, trivial⟩ rfl rfl (by decide) ⟨rfl, rfl, rfl, rfl, trivial⟩ rfl (Bi rfl) trivial ⟨(fun _ => rfl), (fun _ => rfl), (fun _ => rfl), (fun h => by cases h), trivial⟩ rfl rfl rfl ?_
   refine qs Ax rfl (qa rfl (AM (by kernel_rfl) ?_))
   obtain rfl := sj h
   refine Al (sm [(1000, 2001), (1001, 2002), (1002, 2003)] [(6, .e (.one (.ptr 6 0))), (7, .e (.one (.pure (.val (.bool v5.1)))))] [(6, .box [.own 1000, .own 1001, .own 1002]), (1000, .vec 1 (v1.fBase.map Ai)), (1001, .vec 1 (v1.fNext.map Ai)), (1002, .vec 1 (v5.2.map Bb))] rfl rfl) (Az ?_)
   exact ⟨⟨[_, _], ⟨.cellN _ _ _ _ _ _ _ rfl rfl A1 Ax rfl rfl (I7 rfl), ⟨.tmp _ _ rfl, trivial⟩⟩, rfl⟩, ⟨rfl, rfl, rfl, trivial⟩⟩
  ·have h := An c4 h
   refine Ar (Ab (Aa Ac rfl (qf BG rfl (ql Be rfl (qf EU rfl (ql Cz rfl ?_))))))
   obtain ⟨v6, a6, b6, h⟩ := Aj h
   refine qI AI DP a6 (Ah b6) rfl (qj Cz (Ah b6) rfl (qa rfl (Ad (Ab (Ab (Aa Ac rfl (qm rfl (A2 rfl (Ad ?_)))))))))
   refine Ap rfl (fun c7 => ?_) (fun c7 => ?_)
   ·have h := Am c7 h
    refine Ab (Aa Ac rfl (qL A1 Ax rfl (qs Ax rfl (qa rfl (Ad ?_)))))
    obtain rfl := sj h
    refine Al (sm [(1000, 2001), (1001, 2002), (1002, 2003)] [(6, .e (.one (.ptr 6 0))), (7, .e (.one (.pure (.val (.bool false)))))] [(6, .box [.own 1000, .own 1001, .own 1002]), (1000, .vec 1 (v1.fBase.map Ai)), (1001, .vec 1 (v1.fNext.map Ai)), (1002, .vec 1 (v1.fHeld.map Bb))] rfl rfl) (Az ?_)
    exact ⟨⟨[_, _], ⟨.cellN _ _ _ _ _ _ _ rfl rfl A1 Ax rfl rfl (I7 rfl), ⟨.tmp _ _ rfl, trivial⟩⟩, rfl⟩, ⟨rfl, rfl, rfl, trivial⟩⟩
   ·have h := An c7 h
    refine Ar (Ab (Aa Ac rfl (qf BG rfl (ql Be rfl (qf EU rfl (ql Cz rfl ?_))))))
    obtain ⟨v8, a8, b8, h⟩ := Aj h
    refine qI AI DP a8 (Ah b8) rfl ?_
    refine A7 rfl rfl rfl rfl (Ah b8) rfl DP rfl (A5 rfl) (A8 Ai v1.fNext _ ((-1))) ?_
    refine Ad ?_
    refine AO h (fun v9 => mk [(6, .e (.one (.ptr 6 0))), (8, .e (.one (.ptr 8 0)))] [(6, .box [.pure (.nil0), .pure (.nil0), .pure (.nil0)]), (8, .box [.own 2004, .own 2005, .own 2006]), (2004, .vec 1 (v9.map Ai)), (2005, .vec 1 ((v1.fNext.set ((p2.fIndex).toNat) ((-1))).map Ai)), (2006, .vec 1 (v1.fHeld.map Bb))]) (fun j9 h => ?_) (fun v9 h => ?_)
    ·refine Ab (Aa Ac rfl (qf Fr rfl (ql Cz rfl (BK rfl (Ad ?_)))))
     refine Ap rfl (fun c10 => ?_) (fun c10 => ?_)
     ·have h := Am c10 h
      refine Aa Ac rfl (qf Db rfl (ql Be rfl (qf EU rfl (ql Cz rfl (qm rfl ?_)))))
      obtain ⟨v11, a11, b11, h⟩ := Aj h
      refine qI AI DP a11 (Ah b11) rfl ?_
      refine A7 rfl rfl rfl rfl (Ah b11) rfl DP rfl (A5 rfl) (A8 Ai v1.fBase _ v6) ?_
      refine Ad ?_
      exact Au _ h (sm [(2004, 2001), (2005, 2002), (2006, 2003)] _ _ rfl rfl)
     ·have h := An c10 h
      refine Ar ?_
      exact Au _ h (sm [(2004, 2001), (2005, 2002), (2006, 2003)] _ _ rfl rfl)
    ·refine Ab (Aa Ac rfl (qL A1 Ax rfl (qs Ax rfl (qa rfl (Ad ?_)))))
     obtain rfl := sj h
     refine Al (sm [(1000, 2004), (1001, 2005), (1002, 2006)] [(6, .e (.one (.ptr 6 0))), (7, .e (.one (.pure (.val (.bool true)))))] [(6, .box [.own 1000, .own 1001, .own 1002]), (1000, .vec 1 (v9.map Ai)), (1001, .vec 1 ((v1.fNext.set ((p2.fIndex).toNat) ((-1))).map Ai)), (1002, .vec 1 (v1.fHeld.map Bb))] rfl rfl) (Az ?_)
     exact ⟨⟨[_, _], ⟨.cellN _ _ _ _ _ _ _ rfl rfl A1 Ax rfl rfl (I7 rfl), ⟨.tmp _ _ rfl, trivial⟩⟩, rfl⟩, ⟨rfl, rfl, rfl, trivial⟩⟩
set_option maxRecDepth 10000 in
theorem LA (N : Nat) (p0 : Ak) (p1 : List Int) (p2 : List Int) (p3 : List Int) (p4 : List AF) (p5 : List Int) (p6 : List Int) (p7 : List Int) (r : Bool) (h : Dq N p0 p1 p2 p3 p4 p5 p6 p7 = some r) : AC Tryz.prog 97 [.e (.agg [.pure (.val (.int .i64 p0.fKind)), .pure (.val (.int .i64 p0.fIndex)), .pure (.val (.int .i64 p0.fVersion))]), .e (.one (.rop [.sl (p1.map Ai), .sl (p2.map Ai), .sl (p3.map Ai), .sl (p4.map Ao)])), .e (.one (.rop [.sl (p5.map Ai), .sl (p6.map Ai), .sl (p7.map Bb)]))] [] (.e (.one (.pure (.val (.bool r))))) := by
 unfold Dq at h
 refine As (n := 16) (rs := [.tmp 4]) Tryz.func97 rfl rfl rfl (A5 rfl) (A5 rfl) rfl fun w0 S0 => ?_
 refine Ab (Aa Ac rfl (qb rfl (qa rfl (Ad (Ab (Aa Ac rfl (qK D4 DQ rfl (qK A1 Ax rfl (qL Ht DE rfl ?_)))))))))
 obtain ⟨v1, a1, h⟩ := bind_some h
 refine AH [2001, 2002, 2003] (KF N ((Ag.mk p1 p2 p3 p4)) ((Ae.mk p5 p6 p7)) p0 v1 a1) VG rfl (qm rfl (qx rfl (qx rfl (qz CX rfl (qs Ax rfl (qa rfl (Ad (Ab (Aa Ac rfl (qm rfl (Cp rfl (qa rfl (Ad ?_)))))))))))))
 obtain rfl := sj h
 refine Al (sm [] [(4, .e (.one (.pure (.val (.bool ((!v1.2)))))))] [] rfl rfl) (Az ?_)
 exact ⟨⟨[_], ⟨.tmp _ _ rfl, trivial⟩, rfl⟩, trivial⟩
set_option maxRecDepth 10000 in
theorem Gk (N : Nat) (p0 : List Ak) (p1 : Ak → Option Bool) (r : Int) (h : BH N p0 p1 = some r) : AC Tryz.prog 112 [.e (.one (.pure (.sl (p0.map AD)))), .e (.one (.clo (B0 (PJ true AD) tB p1)))] [] (.e (.one (.pure (.val (.int .i64 r))))) := by
 unfold BH at h
 refine As (n := 19) (rs := [.tmp 4]) Tryz.func112 rfl rfl rfl (A5 rfl) (A5 rfl) rfl fun w0 S0 => ?_
 refine Ab (Aa Ac rfl (qa rfl (Ad (Ab (Ab (Aa Ac rfl (qm rfl (AZ CL rfl (qm rfl (Ad ?_))))))))))
 refine AJ (L := A4 N p0 p1) h (fun v1 => mk [(0, .e (.one (.pure (.sl (p0.map AD))))), (1, .e (.one (.clo (B0 (PJ true AD) tB p1)))), (7, .e (.one (.pure (.val (.int .i64 ((p0.length : Int))))))), (8, .e (.one (.pure (.val (.int .i64 v1)))))] []) (fun v2 => mk [] []) (fun _ _ => rfl) (sm [] _ _ rfl rfl) (fun j1 n1 v1 h => ?_) (fun v2 s h hs => ?_)
 ·unfold A4 at h
  refine Ab (Aa Ac rfl (A2 rfl (Ad (Ab ?_))))
  refine Ap rfl (fun c3 => ?_) (fun c3 => ?_)
  ·have h := Am c3 h
   refine Ar (Ab (AN (Ab (Aa Ac rfl (qm rfl (qa rfl (Ad (Ab (Aa Ac rfl (qm rfl (qm rfl (qm rfl ?_))))))))))))
   obtain ⟨v4, a4, b4, h⟩ := Aj h
   refine qi CL DE a4 (Ah b4) rfl (qK Ht DE rfl ?_)
   obtain ⟨v5, a5, h⟩ := bind_some h
   refine EE (ds0 := [_]) (ar := (PJ true AD) v4) (.p rfl) rfl rfl ⟨rfl, trivial⟩ rfl rfl rfl (ED (OP _ _ M9) a5) ?_
   refine Ad ?_
   refine Ap rfl (fun c6 => ?_) (fun c6 => ?_)
   ·have h := Am c6 h
    refine Ab (Aa Ac rfl (qm rfl (qa rfl (Ad ?_))))
    obtain rfl := sj h
    refine Al (sm [] [(4, .e (.one (.pure (.val (.int .i64 v1)))))] [] rfl rfl) (Az ?_)
    exact ⟨⟨[_], ⟨.tmp _ _ rfl, trivial⟩, rfl⟩, trivial⟩
   ·have h := An c6 h
    refine Ar (Aa Ac rfl (AY rfl (qm rfl (Ad ?_))))
    exact Au _ h (sm [] _ _ rfl rfl)
  ·have h := An c3 h
   refine AX ?_
   exact Au _ h (sm [] _ _ rfl rfl)
 ·refine Al hs (Ab (Aa Ac rfl (qa rfl (Ad ?_))))
  obtain rfl := sj h
  refine Al (sm [] [(4, .e (.one (.pure (.val (.int .i64 ((-1)))))))] [] rfl rfl) (Az ?_)
  exact ⟨⟨[_], ⟨.tmp _ _ rfl, trivial⟩, rfl⟩, trivial⟩
set_option maxRecDepth 10000 in
theorem Ga (N : Nat) (p0 : List Ak) (p1 : Ak → Option Bool) (r : Nat × (List Ak)) (h : BE N p0 p1 = some r) : BI Tryz.prog 95 [.e (.one (.own 90000)), .e (.one (.clo (B0 (PJ true AD) tB p1)))] [(.vec 3 (p0.map AD), .vec 3 (r.2.map AD))] [] (.e (.one (.view 90000 3 0 r.1))) := by
 unfold BE at h
 refine Bx (n := 42) (rs := [.tmp 4]) Tryz.func95 rfl rfl rfl (A5 rfl) (A5 rfl) rfl rfl (A5 rfl) rfl (A5 rfl) fun w0 S0 GL => ?_
 refine Al (sm [] [(0, .e (.one (.own 90000))), (1, .e (.one (.clo (B0 (PJ true AD) tB p1))))] [(90000, .vec 3 (p0.map AD))] rfl rfl) (Ab (Aa Ac rfl (qa rfl (Ad (Ab (Aa Ac rfl (qm rfl (qm rfl ?_))))))))
 obtain ⟨v1, a1, h⟩ := bind_some h
 refine EF [] [90000] (Gk N p0 p1 v1 a1) V5 C8 rfl (qa rfl (Ad (Ab (Ab (Aa Ac rfl (qm rfl (BK rfl (Ad ?_))))))))
 refine Ap rfl (fun c2 => ?_) (fun c2 => ?_)
 ·have h := Am c2 h
  refine Ab (Aa Ac rfl (qm rfl (qa rfl (Ad ?_))))
  obtain rfl := sj h
  refine Al ((OR AD p0 4 90000 3 rfl rfl).trans (sm [] [(4, .e (.one (.view 90000 3 0 p0.length)))] [(90000, .vec 3 (p0.map AD))] rfl rfl)) (Az ?_)
  exact ⟨⟨[_], ⟨.tmp _ _ rfl, trivial⟩, rfl⟩, ⟨rfl, trivial⟩, trivial⟩
 ·have h := An c2 h
  refine Ar (Ab (Ab (Aa Ac rfl (qm rfl (AY rfl (qa rfl (Ad ?_)))))))
  refine AJ (L := A0 N p1) h (fun v3 => mk [(0, .e (.one (.own 90000))), (1, .e (.one (.clo (B0 (PJ true AD) tB p1)))), (5, .e (.one (.pure (.val (.int .i64 v3.2.1))))), (6, .e (.one (.pure (.val (.int .i64 v3.2.2)))))] [(90000, .vec 3 (v3.1.map AD))]) (fun v4 => mk [(0, .e (.one (.own 90000))), (5, .e (.one (.pure (.val (.int .i64 v4.2)))))] [(90000, .vec 3 (v4.1.map AD))]) (fun _ _ => rfl) (sm [] _ _ rfl rfl) (fun j3 n3 v3 h => ?_) (fun v4 s h hs => ?_)
  ·unfold A0 at h
   refine Ab (Ab (Aa Ac rfl (qm rfl (qm rfl (DU CL rfl (A2 rfl (Ad ?_)))))))
   refine Ap rfl (fun c5 => ?_) (fun c5 => ?_)
   ·have h := Am c5 h
    refine Ar ?_
    refine AO h (fun v6 => mk [(0, .e (.one (.own 90000))), (1, .e (.one (.clo (B0 (PJ true AD) tB p1)))), (5, .e (.one (.pure (.val (.int .i64 v6.2))))), (6, .e (.one (.pure (.val (.int .i64 v3.2.2)))))] [(90000, .vec 3 (v6.1.map AD))]) (fun j6 h => ?_) (fun v6 h => ?_)
    ·refine AN (Ab (Aa Ac rfl (qm rfl (qm rfl ?_))))
     obtain ⟨v7, a7, b7, h⟩ := Aj h
     refine qI CL DE a7 (Ah b7) rfl (qJ Ht DE (Ah b7) rfl (qz Hi rfl (qs DE rfl (Ad (Ab (Aa Ac rfl (qm rfl (qL Ht DE rfl ?_))))))))
     obtain ⟨v8, a8, h⟩ := bind_some h
     refine EE (ds0 := [_]) (ar := (PJ true AD) v7) (.p rfl) rfl rfl ⟨rfl, trivial⟩ rfl rfl rfl (ED (OP _ _ M9) a8) ?_
     refine Cp rfl (Ad ?_)
     refine Ap rfl (fun c9 => ?_) (fun c9 => ?_)
     ·have h := Am c9 h
      refine Ab (Aa Ac rfl (qm rfl (qm rfl (qL Ht DE rfl ?_))))
      obtain ⟨v10, a10, b10, h⟩ := Aj h
      refine qI CL DE a10 (Ah b10) rfl ?_
      refine A7 rfl rfl rfl rfl (Ah b10) rfl DE rfl (A5 rfl) (A8 AD v3.1 _ v7) ?_
      refine Ad (Aa Ac rfl (qm rfl (AY rfl (qa rfl (Ad ?_)))))
      exact Au _ h (sm [] _ _ rfl rfl)
     ·have h := An c9 h
      refine Ar ?_
      exact Au _ h (sm [] _ _ rfl rfl)
    ·refine Aa Ac rfl (qm rfl (AY rfl (qa rfl (Ad ?_))))
     exact Au _ h (sm [] _ _ rfl rfl)
   ·have h := An c5 h
    refine AX ?_
    exact Au _ h (sm [] _ _ rfl rfl)
  ·refine Al hs (Ab (Aa Ac rfl (qm rfl (qm rfl ?_))))
   obtain ⟨c11, h⟩ := AK h
   have w12 : ((v4.2).toNat) + ((v4.1.length - (v4.2).toNat)) ≤ v4.1.length := by have := c11.2.1; have := c11.2.2; omega
   refine Ie AD v4.1 (.p rfl) rfl (HB AD _ _ v4.1) rfl CL DE (.some _ _ _ _ c11.1) (.none _) ⟨rfl, trivial⟩ trivial c11.2.1 (by rw [Nat.zero_add]; exact c11.2.2) (Nat.zero_add _) rfl ?_
   have w13 : (HU v4.1 ((v4.2).toNat) (List.replicate ((v4.1.length - (v4.2).toNat)) ((Ak.mk 0 0 0)))).length = v4.1.length := Ib (by rw [List.length_replicate]; exact w12)
   refine O9 AD v4.1 ((Ak.mk 0 0 0)) rfl rfl (Lo AD _ _ ((v4.2).toNat) ((v4.1.length - (v4.2).toNat)) v4.1 w12) rfl CL Hi rfl rfl rfl rfl ?_
   refine Ad (Ab (Aa Ac rfl (qm rfl (qm rfl ?_))))
   obtain ⟨c14, h⟩ := AK h
   have w15 : 0 + ((v4.2).toNat) ≤ (HU v4.1 ((v4.2).toNat) (List.replicate ((v4.1.length - (v4.2).toNat)) ((Ak.mk 0 0 0)))).length := by have := c14.2.1; have := c14.2.2; omega
   refine Ie AD (HU v4.1 ((v4.2).toNat) (List.replicate ((v4.1.length - (v4.2).toNat)) ((Ak.mk 0 0 0)))) (.p rfl) rfl (HB AD _ _ (HU v4.1 ((v4.2).toNat) (List.replicate ((v4.1.length - (v4.2).toNat)) ((Ak.mk 0 0 0))))) rfl CL DE (.none _) (.some _ _ _ _ c14.1) trivial ⟨rfl, trivial⟩ c14.2.1 (by rw [Nat.zero_add]; exact c14.2.2) (Nat.zero_add _) rfl ?_
   refine qa rfl (Ad ?_)
   obtain rfl := sj h
   refine Al (sm [] [(4, .e (.one (.view 90000 3 0 ((v4.2).toNat))))] [(90000, .vec 3 ((HU v4.1 ((v4.2).toNat) (List.replicate ((v4.1.length - (v4.2).toNat)) ((Ak.mk 0 0 0)))).map AD))] rfl rfl) (Az ?_)
   exact ⟨⟨[_], ⟨.tmp _ _ rfl, trivial⟩, rfl⟩, ⟨rfl, trivial⟩, trivial⟩
set_option maxRecDepth 10000 in
theorem M1 (N : Nat) (p0 : Ag) (p1 : Ae) (r : (List Ak) × Int) (h : Fv N p0 p1 = some r) : AC Tryz.prog 70 [.e (.agg [.pure (.sl (p0.fVersions.map Ai)), .pure (.sl (p0.fNow.map Ai)), .pure (.sl (p0.fTarget.map Ai)), .pure (.sl (p0.fTables.map Ao))]), .e (.agg [.pure (.sl (p1.fBase.map Ai)), .pure (.sl (p1.fNext.map Ai)), .pure (.sl (p1.fHeld.map Bb))])] [(3, r.1.map AD)] (.tup [.one (.own 0), .one (.pure (.val (.int .i64 r.2)))]) := by
 unfold Fv at h
 refine As (n := 17) (rs := [.tmp 4, .tmp 5]) Tryz.func70 rfl rfl rfl (A5 rfl) (A5 rfl) rfl fun w0 S0 => ?_
 refine Ab (Aa Ac rfl (qb rfl (qb rfl (qa rfl (qa rfl (Ad (Ab (Ab (Aa Ac rfl (qL D4 DQ rfl (qL A1 Ax rfl ?_)))))))))))
 obtain ⟨v1, a1, h⟩ := bind_some h
 refine AH [] (Iq N p0 p1 v1 a1) TF rfl (qa rfl (Ad (Ab (Aa Ac rfl (qm rfl (Cw rfl (Ad ?_)))))))
 refine Ap rfl (fun c2 => ?_) (fun c2 => ?_)
 ·have h := Am c2 h
  refine Ab (Aa Ac rfl (qm rfl (qa rfl (qa rfl (Ad ?_)))))
  obtain rfl := sj h
  refine Al ((Bf 4 2001 3 rfl rfl rfl).trans (sm [(1000, 2001)] [(4, .e (.one (.own 1000))), (5, .e (.one (.pure (.val (.int .i64 v1)))))] [(1000, .vec 3 ((([] : List Ak)).map AD))] rfl rfl)) (Az ?_)
  exact ⟨⟨[_, _], ⟨.tmp _ _ rfl, ⟨.tmp _ _ rfl, trivial⟩⟩, rfl⟩, ⟨rfl, trivial⟩⟩
 ·have h := An c2 h
  refine Ar (Ab (Aa Ac rfl (qL D4 DQ rfl ?_)))
  obtain ⟨v3, a3, h⟩ := bind_some h
  refine AH [2002] (Qd N p0 v3 a3) WT rfl (DC (ML 2 [.sl (p0.fVersions.map Ai), .sl (p0.fNow.map Ai), .sl (p0.fTarget.map Ai), .sl (p0.fTables.map Ao)] rfl rfl) (DC (ML 3 [.sl (p1.fBase.map Ai), .sl (p1.fNext.map Ai), .sl (p1.fHeld.map Bb)] rfl rfl) ?_))
  refine Mo (capD := [_, _]) (B0 (PJ true AD) tB ((fun (x : Ak) => Dq N x p0.fVersions p0.fNow p0.fTarget p0.fTables p1.fBase p1.fNext p1.fHeld))) (.p rfl) Wu rfl ⟨rfl, rfl, trivial⟩ rfl (fun ar t ht => by obtain ⟨x, r, rfl, hq, rfl⟩ := I4 ht; exact LA N x p0.fVersions p0.fNow p0.fTarget p0.fTables p1.fBase p1.fNext p1.fHeld r hq) ?_
  obtain ⟨v4, a4, h⟩ := bind_some h
  obtain ⟨c5, h⟩ := AK h
  have w6 : 0 + v4.1 ≤ v4.2.length := by rw [Nat.zero_add]; exact c5
  refine Dg (ds0 := [_, _]) [2002] [] [true] (Ga N v3 ((fun (x : Ak) => Dq N x p0.fVersions p0.fNow p0.fTarget p0.fTables p1.fBase p1.fNext p1.fHeld)) v4 a4) (.p rfl) WX rfl ⟨rfl, rfl, trivial⟩ rfl rfl (by decide) ⟨rfl, trivial⟩ rfl (Bi rfl) trivial ⟨(fun h => by cases h), trivial⟩ rfl rfl rfl ?_
  refine DC (Si AD v4.2 16 2002 2003 3 v4.1 rfl rfl rfl rfl rfl c5) (qa rfl (qa rfl (Ad ?_)))
  obtain rfl := sj h
  refine Al (sm [(1000, 2003)] [(4, .e (.one (.own 1000))), (5, .e (.one (.pure (.val (.int .i64 0)))))] [(1000, .vec 3 ((v4.2.take v4.1).map AD))] rfl rfl) (Az ?_)
  exact ⟨⟨[_, _], ⟨.tmp _ _ rfl, ⟨.tmp _ _ rfl, trivial⟩⟩, rfl⟩, ⟨rfl, trivial⟩⟩
set_option maxRecDepth 10000 in
theorem OO (N : Nat) (p0 : Ak) (r : Bool) (h : Gq N p0 = some r) : AC Tryz.prog 103 [.e (.agg [.pure (.val (.int .i64 p0.fKind)), .pure (.val (.int .i64 p0.fIndex)), .pure (.val (.int .i64 p0.fVersion))])] [] (.e (.one (.pure (.val (.bool r))))) := by
 unfold Gq at h
 refine As (n := 27) (rs := [.tmp 2]) Tryz.func103 rfl rfl rfl (A5 rfl) (A5 rfl) rfl fun w0 S0 => ?_
 refine Ab (Aa Ac rfl (qb rfl (qa rfl (Ad (Ab ?_)))))
 refine AO h (fun v1 => mk [(1, .e (.one (.ptr 1 0))), (18, .e (.one (.pure (.val (.bool v1)))))] [(1, .box [.pure (.val (.int .i64 p0.fKind)), .pure (.val (.int .i64 p0.fIndex)), .pure (.val (.int .i64 p0.fVersion))])]) (fun j1 h => ?_) (fun v1 h => ?_)
 ·refine Aa Ac rfl (qf EU rfl (ql Cz rfl (qf GB rfl (ql Cz rfl ?_))))
  refine U7 (.p rfl) rfl rfl ?_
  refine A2 rfl (qm rfl ?_)
  refine AE (t := 9) rfl (fun c2 => ?_) (fun c2 => ?_)
  ·have h := Am c2 h
   refine qn rfl (qn rfl (qn rfl (qp rfl (qm rfl (qn rfl (qn rfl (qn rfl (qp rfl (Ad ?_)))))))))
   exact Au _ h (sm [] _ _ rfl rfl)
  ·have h := An c2 h
   refine qf Fr rfl (ql Cz rfl (A2 rfl (qp rfl (qm rfl ?_))))
   refine AE (t := 14) rfl (fun c3 => ?_) (fun c3 => ?_)
   ·have h := Am c3 h
    refine qn rfl (qn rfl (qn rfl (qp rfl (Ad ?_))))
    exact Au _ h (sm [] _ _ rfl rfl)
   ·have h := An c3 h
    refine qf Fr rfl (ql Cz rfl (Fw rfl (qp rfl (Ad ?_))))
    exact Au _ h (sm [] _ _ rfl rfl)
 ·refine Ap rfl (fun c4 => ?_) (fun c4 => ?_)
  ·have h := Am c4 h
   refine Ab (Aa Ac rfl (qa rfl (Ad ?_)))
   obtain rfl := sj h
   refine Al (sm [] [(2, .e (.one (.pure (.val (.bool false)))))] [] rfl rfl) (Az ?_)
   exact ⟨⟨[_], ⟨.tmp _ _ rfl, trivial⟩, rfl⟩, trivial⟩
  ·have h := An c4 h
   refine Ar ?_
   refine AO h (fun v5 => mk [(2, .e (.one (.pure (.val (.bool v5)))))] []) (fun j5 h => ?_) (fun v5 h => ?_)
   ·refine Aa Ac rfl (qf Fr rfl (ql Cz rfl (BK rfl (qm rfl ?_))))
    refine AE (t := 22) rfl (fun c6 => ?_) (fun c6 => ?_)
    ·have h := Am c6 h
     refine qn rfl (qn rfl (qn rfl (qp rfl (qa rfl (Ad ?_)))))
     exact Au _ h (sm [] _ _ rfl rfl)
    ·have h := An c6 h
     refine qf GB rfl (ql Cz rfl (BK rfl (qp rfl (qa rfl (Ad ?_)))))
     exact Au _ h (sm [] _ _ rfl rfl)
   ·obtain rfl := sj h
    refine Al (sm [] [(2, .e (.one (.pure (.val (.bool v5)))))] [] rfl rfl) (Az ?_)
    exact ⟨⟨[_], ⟨.tmp _ _ rfl, trivial⟩, rfl⟩, trivial⟩
set_option maxRecDepth 10000 in
theorem Nj (N : Nat) (p0 : Ag) (p1 : Ak) (r : Bool) (h : F1 N p0 p1 = some r) : AC Tryz.prog 104 [.e (.agg [.pure (.sl (p0.fVersions.map Ai)), .pure (.sl (p0.fNow.map Ai)), .pure (.sl (p0.fTarget.map Ai)), .pure (.sl (p0.fTables.map Ao))]), .e (.agg [.pure (.val (.int .i64 p1.fKind)), .pure (.val (.int .i64 p1.fIndex)), .pure (.val (.int .i64 p1.fVersion))])] [] (.e (.one (.pure (.val (.bool r))))) := by
 unfold F1 at h
 refine As (n := 36) (rs := [.tmp 4]) Tryz.func104 rfl rfl rfl (A5 rfl) (A5 rfl) rfl fun w0 S0 => ?_
 refine Ab (Aa Ac rfl (qb rfl (qb rfl (qa rfl (Ad (Ab (Ab (Aa Ac rfl (qf Fr rfl (ql Cz rfl (BK rfl (Ad ?_))))))))))))
 refine Ap rfl (fun c1 => ?_) (fun c1 => ?_)
 ·have h := Am c1 h
  refine Ab (Aa Ac rfl (qf EU rfl (ql Cz rfl (qf CS rfl (ql GZ rfl (AZ D9 rfl (A2 rfl (qa rfl (Ad ?_)))))))))
  obtain rfl := sj h
  refine Al (sm [] [(4, .e (.one (.pure (.val (.bool ((decide (p1.fIndex < (p0.fTables.length : Int)))))))))] [] rfl rfl) (Az ?_)
  exact ⟨⟨[_], ⟨.tmp _ _ rfl, trivial⟩, rfl⟩, trivial⟩
 ·have h := An c1 h
  refine Ar ?_
  refine AO h (fun v2 => mk [(4, .e (.one (.pure (.val (.bool v2)))))] []) (fun j2 h => ?_) (fun v2 h => ?_)
  ·refine Aa Ac rfl (qf EU rfl (ql Cz rfl (qf Bu rfl (ql Be rfl (AZ AI rfl (A2 rfl (qm rfl ?_)))))))
   refine AE (t := 20) rfl (fun c3 => ?_) (fun c3 => ?_)
   ·have h := Am c3 h
    refine qf Fr rfl (ql Cz rfl (Cw rfl (qm rfl ?_)))
    refine AE (t := 24) rfl (fun c4 => ?_) (fun c4 => ?_)
    ·have h := Am c4 h
     refine qn rfl (qn rfl (qn rfl (qn rfl (qn rfl (qn rfl (qn rfl (qn rfl (qn rfl (qp rfl (qp rfl (qa rfl (AM (by kernel_rfl) ?_))))))))))))
     exact Au _ h (sm [] _ _ rfl rfl)
    ·have h := An c4 h
     refine qf GB rfl (ql Cz rfl (qf Bu rfl (ql Be rfl (qf EU rfl (ql Cz rfl ?_)))))
     obtain ⟨v5, a5, b5, h⟩ := Aj h
     refine qi AI DP a5 (Ah b5) rfl (qk Cz rfl (A2 rfl (qp rfl (qp rfl (qa rfl (AM (by kernel_rfl) ?_))))))
     exact Au _ h (sm [] _ _ rfl rfl)
   ·have h := An c3 h
    refine qn rfl (qn rfl (qn rfl (qn rfl (qu rfl (qu rfl (qu rfl (qu rfl (qu rfl (qu rfl (qu rfl (qu rfl (qu rfl (qn rfl (qp rfl (qa rfl (AM (by kernel_rfl) ?_))))))))))))))))
    exact Au _ h (sm [] _ _ rfl rfl)
  ·obtain rfl := sj h
   refine Al (sm [] [(4, .e (.one (.pure (.val (.bool v2)))))] [] rfl rfl) (Az ?_)
   exact ⟨⟨[_], ⟨.tmp _ _ rfl, trivial⟩, rfl⟩, trivial⟩
set_option maxRecDepth 10000 in
theorem K8 (N : Nat) (p0 : Ag) (p1 : Ae) (p2 : Ak) (r : Ae × Int) (h : FD N p0 p1 p2 = some r) : AC Tryz.prog 79 [.e (.agg [.pure (.sl (p0.fVersions.map Ai)), .pure (.sl (p0.fNow.map Ai)), .pure (.sl (p0.fTarget.map Ai)), .pure (.sl (p0.fTables.map Ao))]), .e (.agg [.pure (.sl (p1.fBase.map Ai)), .pure (.sl (p1.fNext.map Ai)), .pure (.sl (p1.fHeld.map Bb))]), .e (.agg [.pure (.val (.int .i64 p2.fKind)), .pure (.val (.int .i64 p2.fIndex)), .pure (.val (.int .i64 p2.fVersion))])] [(1, r.1.fBase.map Ai), (1, r.1.fNext.map Ai), (1, r.1.fHeld.map Bb)] (.tup [.agg [.own 0, .own 1, .own 2], .one (.pure (.val (.int .i64 r.2)))]) := by
 unfold FD at h
 refine As (n := 32) (rs := [.cell 6 50, .tmp 7]) Tryz.func79 rfl rfl rfl (A5 rfl) (A5 rfl) rfl fun w0 S0 => ?_
 refine Ab (Aa Ac rfl (qb rfl (qb rfl (qb rfl (qz CX rfl (qa rfl (Ad (Ab (AN (Ab (Aa Ac rfl (qL Ht DE rfl ?_))))))))))))
 obtain ⟨v1, a1, h⟩ := bind_some h
 refine AH [] (OO N p2 v1 a1) Vo rfl (Cp rfl (qa rfl (Ad ?_)))
 refine Ap rfl (fun c2 => ?_) (fun c2 => ?_)
 ·have h := Am c2 h
  refine Ab (Aa Ac rfl (BM CX HL rfl (qs Ax rfl (qa rfl (Ad ?_)))))
  obtain rfl := sj h
  refine Al ((AB 6 0 2001 1 _ rfl rfl rfl rfl).trans ((AB 6 1 2002 1 _ rfl rfl rfl rfl).trans ((AB 6 2 2003 1 _ rfl rfl rfl rfl).trans (sm [(1000, 2001), (1001, 2002), (1002, 2003)] [(6, .e (.one (.ptr 6 0))), (7, .e (.one (.pure (.val (.int .i64 1)))))] [(6, .box [.own 1000, .own 1001, .own 1002]), (1000, .vec 1 ((([] : List Int)).map Ai)), (1001, .vec 1 ((([] : List Int)).map Ai)), (1002, .vec 1 ((([] : List Int)).map Bb))] rfl rfl)))) (Az ?_)
  exact ⟨⟨[_, _], ⟨.cellN _ _ _ _ _ _ _ rfl rfl A1 Ax rfl rfl (I7 rfl), ⟨.tmp _ _ rfl, trivial⟩⟩, rfl⟩, ⟨rfl, rfl, rfl, trivial⟩⟩
 ·have h := An c2 h
  refine Ab (Aa Ac rfl (qL D4 DQ rfl (qL Ht DE rfl ?_)))
  obtain ⟨v3, a3, h⟩ := bind_some h
  refine AH [] (Nj N p0 p2 v3 a3) VV rfl (Cp rfl (qa rfl (Ad ?_)))
  refine Ap rfl (fun c4 => ?_) (fun c4 => ?_)
  ·have h := Am c4 h
   refine Ab (Aa Ac rfl (BM CX HL rfl (qs Ax rfl (qa rfl (Ad ?_)))))
   obtain rfl := sj h
   refine Al ((AB 6 0 2004 1 _ rfl rfl rfl rfl).trans ((AB 6 1 2005 1 _ rfl rfl rfl rfl).trans ((AB 6 2 2006 1 _ rfl rfl rfl rfl).trans (sm [(1000, 2004), (1001, 2005), (1002, 2006)] [(6, .e (.one (.ptr 6 0))), (7, .e (.one (.pure (.val (.int .i64 4)))))] [(6, .box [.own 1000, .own 1001, .own 1002]), (1000, .vec 1 ((([] : List Int)).map Ai)), (1001, .vec 1 ((([] : List Int)).map Ai)), (1002, .vec 1 ((([] : List Int)).map Bb))] rfl rfl)))) (Az ?_)
   exact ⟨⟨[_, _], ⟨.cellN _ _ _ _ _ _ _ rfl rfl A1 Ax rfl rfl (I7 rfl), ⟨.tmp _ _ rfl, trivial⟩⟩, rfl⟩, ⟨rfl, rfl, rfl, trivial⟩⟩
  ·have h := An c4 h
   refine Ar (Ab (Aa Ac rfl (qL D4 DQ rfl (qL A1 Ax rfl (qL Ht DE rfl ?_)))))
   obtain ⟨v5, a5, h⟩ := bind_some h
   refine AH [2007, 2008, 2009] (KF N p0 p1 p2 v5 a5) VG rfl (qm rfl (qx rfl (qx rfl (qz CX rfl (qs Ax rfl (qa rfl (Ad (Ab (Ab (Aa Ac rfl (qm rfl (Cp rfl (Ad ?_)))))))))))))
   refine Ap rfl (fun c6 => ?_) (fun c6 => ?_)
   ·have h := Am c6 h
    refine Ab (Aa Ac rfl (BM CX HL rfl (qs Ax rfl (qa rfl (Ad ?_)))))
    obtain rfl := sj h
    refine Al ((AB 6 0 2010 1 _ rfl rfl rfl rfl).trans ((AB 6 1 2011 1 _ rfl rfl rfl rfl).trans ((AB 6 2 2012 1 _ rfl rfl rfl rfl).trans (sm [(1000, 2010), (1001, 2011), (1002, 2012)] [(6, .e (.one (.ptr 6 0))), (7, .e (.one (.pure (.val (.int .i64 11)))))] [(6, .box [.own 1000, .own 1001, .own 1002]), (1000, .vec 1 ((([] : List Int)).map Ai)), (1001, .vec 1 ((([] : List Int)).map Ai)), (1002, .vec 1 ((([] : List Int)).map Bb))] rfl rfl)))) (Az ?_)
    exact ⟨⟨[_, _], ⟨.cellN _ _ _ _ _ _ _ rfl rfl A1 Ax rfl rfl (I7 rfl), ⟨.tmp _ _ rfl, trivial⟩⟩, rfl⟩, ⟨rfl, rfl, rfl, trivial⟩⟩
   ·have h := An c6 h
    refine Ar (Ab (Aa Ac rfl (qL A1 Ax rfl (qs Ax rfl (qa rfl (Ad ?_))))))
    obtain rfl := sj h
    refine Al (sm [(1000, 2007), (1001, 2008), (1002, 2009)] [(6, .e (.one (.ptr 6 0))), (7, .e (.one (.pure (.val (.int .i64 0)))))] [(6, .box [.own 1000, .own 1001, .own 1002]), (1000, .vec 1 (v5.1.fBase.map Ai)), (1001, .vec 1 (v5.1.fNext.map Ai)), (1002, .vec 1 (v5.1.fHeld.map Bb))] rfl rfl) (Az ?_)
    exact ⟨⟨[_, _], ⟨.cellN _ _ _ _ _ _ _ rfl rfl A1 Ax rfl rfl (I7 rfl), ⟨.tmp _ _ rfl, trivial⟩⟩, rfl⟩, ⟨rfl, rfl, rfl, trivial⟩⟩
set_option maxRecDepth 10000 in
theorem Oe (N : Nat) (p0 : Ag) (p1 : Ae) (p2 : Ak) (r : Ae × Int) (h : Gl N p0 p1 p2 = some r) : AC Tryz.prog 71 [.e (.agg [.pure (.sl (p0.fVersions.map Ai)), .pure (.sl (p0.fNow.map Ai)), .pure (.sl (p0.fTarget.map Ai)), .pure (.sl (p0.fTables.map Ao))]), .e (.agg [.pure (.sl (p1.fBase.map Ai)), .pure (.sl (p1.fNext.map Ai)), .pure (.sl (p1.fHeld.map Bb))]), .e (.agg [.pure (.val (.int .i64 p2.fKind)), .pure (.val (.int .i64 p2.fIndex)), .pure (.val (.int .i64 p2.fVersion))])] [(1, r.1.fBase.map Ai), (1, r.1.fNext.map Ai), (1, r.1.fHeld.map Bb)] (.tup [.agg [.own 0, .own 1, .own 2], .one (.pure (.val (.int .i64 r.2)))]) := by
 unfold Gl at h
 refine As (n := 22) (rs := [.cell 6 50, .tmp 7]) Tryz.func71 rfl rfl rfl (A5 rfl) (A5 rfl) rfl fun w0 S0 => ?_
 refine Ab (Aa Ac rfl (qb rfl (qb rfl (qb rfl (qz CX rfl (qa rfl (Ad (Ab (Ab (Aa Ac rfl (qL D4 DQ rfl (qL A1 Ax rfl ?_))))))))))))
 obtain ⟨v1, a1, h⟩ := bind_some h
 refine AH [] (Iq N p0 p1 v1 a1) TF rfl (qa rfl (Ad (Ab (Aa Ac rfl (qm rfl (Cw rfl (Ad ?_)))))))
 refine Ap rfl (fun c2 => ?_) (fun c2 => ?_)
 ·have h := Am c2 h
  refine Ab (Aa Ac rfl (BM CX HL rfl (qm rfl (qs Ax rfl (qa rfl (Ad ?_))))))
  obtain rfl := sj h
  refine Al ((AB 6 0 2001 1 _ rfl rfl rfl rfl).trans ((AB 6 1 2002 1 _ rfl rfl rfl rfl).trans ((AB 6 2 2003 1 _ rfl rfl rfl rfl).trans (sm [(1000, 2001), (1001, 2002), (1002, 2003)] [(6, .e (.one (.ptr 6 0))), (7, .e (.one (.pure (.val (.int .i64 v1)))))] [(6, .box [.own 1000, .own 1001, .own 1002]), (1000, .vec 1 ((([] : List Int)).map Ai)), (1001, .vec 1 ((([] : List Int)).map Ai)), (1002, .vec 1 ((([] : List Int)).map Bb))] rfl rfl)))) (Az ?_)
  exact ⟨⟨[_, _], ⟨.cellN _ _ _ _ _ _ _ rfl rfl A1 Ax rfl rfl (I7 rfl), ⟨.tmp _ _ rfl, trivial⟩⟩, rfl⟩, ⟨rfl, rfl, rfl, trivial⟩⟩
 ·have h := An c2 h
  refine Ar (Ab (Aa Ac rfl (qL D4 DQ rfl (qL A1 Ax rfl (qL Ht DE rfl ?_)))))
  obtain ⟨v3, a3, h⟩ := bind_some h
  refine AH [2004, 2005, 2006] (K8 N p0 p1 p2 v3 a3) U5 rfl (qx rfl (qx rfl (qs Ax rfl (qa rfl (Ad ?_)))))
  obtain rfl := sj h
  refine Al (sm [(1000, 2004), (1001, 2005), (1002, 2006)] [(6, .e (.one (.ptr 6 0))), (7, .e (.one (.pure (.val (.int .i64 v3.2)))))] [(6, .box [.own 1000, .own 1001, .own 1002]), (1000, .vec 1 (v3.1.fBase.map Ai)), (1001, .vec 1 (v3.1.fNext.map Ai)), (1002, .vec 1 (v3.1.fHeld.map Bb))] rfl rfl) (Az ?_)
  exact ⟨⟨[_, _], ⟨.cellN _ _ _ _ _ _ _ rfl rfl A1 Ax rfl rfl (I7 rfl), ⟨.tmp _ _ rfl, trivial⟩⟩, rfl⟩, ⟨rfl, rfl, rfl, trivial⟩⟩
set_option maxRecDepth 10000 in
theorem KY (N : Nat) (p0 : Ag) (p1 : Ae) (r : (List Ak) × (List Ae)) (h : FE N p0 p1 = some r) : AC Tryz.prog 49 [.e (.agg [.pure (.sl (p0.fVersions.map Ai)), .pure (.sl (p0.fNow.map Ai)), .pure (.sl (p0.fTarget.map Ai)), .pure (.sl (p0.fTables.map Ao))]), .e (.agg [.pure (.sl (p1.fBase.map Ai)), .pure (.sl (p1.fNext.map Ai)), .pure (.sl (p1.fHeld.map Bb))])] [(3, r.1.map AD), (3, r.2.map Af)] (.tup [.one (.own 0), .one (.own 1)]) := by
 unfold FE at h
 refine As (n := 55) (rs := [.tmp 4, .tmp 5]) Tryz.func49 rfl rfl rfl (A5 rfl) (A5 rfl) rfl fun w0 S0 => ?_
 refine Ab (Aa Ac rfl (qb rfl (qb rfl (qa rfl (qa rfl (Ad (Ab (Aa Ac rfl (qa rfl (Ad (Ab (Aa Ac rfl (qa rfl (Ad (Ab (Aa Ac rfl (qL D4 DQ rfl (qL A1 Ax rfl ?_))))))))))))))))))
 obtain ⟨v1, a1, h⟩ := bind_some h
 refine AH [2001] (M1 N p0 p1 v1 a1) W2 rfl (qm rfl (qx rfl (qx rfl (qa rfl (qa rfl (Ad (Ab (Ab (Aa Ac rfl (qm rfl (DU CL rfl (qm rfl (Ad ?_)))))))))))))
 refine AJ (L := EK N p0 p1 v1) h (fun v2 => mk [(2, .e (.one (.ptr 2 0))), (3, .e (.one (.ptr 3 0))), (6, .e (.one (.own 2002))), (7, .e (.one (.own 2003))), (22, .e (.one (.own 2004))), (23, .e (.one (.pure (.val (.int .i64 ((v1.1.length : Int))))))), (24, .e (.one (.pure (.val (.int .i64 v2.2.2)))))] [(2, .box [.pure (.sl (p0.fVersions.map Ai)), .pure (.sl (p0.fNow.map Ai)), .pure (.sl (p0.fTarget.map Ai)), .pure (.sl (p0.fTables.map Ao))]), (3, .box [.pure (.sl (p1.fBase.map Ai)), .pure (.sl (p1.fNext.map Ai)), .pure (.sl (p1.fHeld.map Bb))]), (2002, .vec 3 (v2.1.map AD)), (2003, .vec 3 (v2.2.1.map Af)), (2004, .vec 3 (v1.1.map AD))]) (fun v3 => mk [(6, .e (.one (.own 2005))), (7, .e (.one (.own 2006)))] [(2005, .vec 3 (v3.1.map AD)), (2006, .vec 3 (v3.2.map Af))]) (fun _ _ => rfl) ((Bf 6 2013 3 rfl rfl rfl).trans ((Bf 7 2014 3 rfl rfl rfl).trans (sm [(2002, 2013), (2003, 2014), (2004, 2001)] _ _ rfl rfl))) (fun j2 n2 v2 h => ?_) (fun v3 s h hs => ?_)
 ·unfold EK at h
  refine Ab (Aa Ac rfl (A2 rfl (Ad (Ab ?_))))
  refine Ap rfl (fun c4 => ?_) (fun c4 => ?_)
  ·have h := Am c4 h
   refine Ar ?_
   refine AO h (fun v5 => mk [(2, .e (.one (.ptr 2 0))), (3, .e (.one (.ptr 3 0))), (6, .e (.one (.own 2007))), (7, .e (.one (.own 2008))), (22, .e (.one (.own 2009))), (23, .e (.one (.pure (.val (.int .i64 ((v1.1.length : Int))))))), (24, .e (.one (.pure (.val (.int .i64 v2.2.2)))))] [(2, .box [.pure (.sl (p0.fVersions.map Ai)), .pure (.sl (p0.fNow.map Ai)), .pure (.sl (p0.fTarget.map Ai)), .pure (.sl (p0.fTables.map Ao))]), (3, .box [.pure (.sl (p1.fBase.map Ai)), .pure (.sl (p1.fNext.map Ai)), .pure (.sl (p1.fHeld.map Bb))]), (2007, .vec 3 (v5.1.map AD)), (2008, .vec 3 (v5.2.map Af)), (2009, .vec 3 (v1.1.map AD))]) (fun j5 h => ?_) (fun v5 h => ?_)
   ·refine AN (Ab (Aa Ac rfl ?_))
    obtain ⟨v6, a6, b6, h⟩ := Aj h
    refine qI CL DE a6 (Ah b6) rfl (qJ Ht DE (Ah b6) rfl (qz Hi rfl (qs DE rfl (Ad (Ab (Aa Ac rfl (qL D4 DQ rfl (qL A1 Ax rfl (qL Ht DE rfl ?_)))))))))
    obtain ⟨v7, a7, h⟩ := bind_some h
    refine AH [2010, 2011, 2012] (Oe N p0 p1 v6 v7 a7) WK rfl (qm rfl (qx rfl (qx rfl (qz CX rfl (qs Ax rfl (qa rfl (Ad (Ab (Ab (Aa Ac rfl (qm rfl (Cw rfl (Ad ?_)))))))))))))
    refine Ap rfl (fun c8 => ?_) (fun c8 => ?_)
    ·have h := Am c8 h
     refine AX ?_
     exact Au _ h (sm [(2007, 2002), (2008, 2003), (2009, 2004)] _ _ rfl rfl)
    ·have h := An c8 h
     refine Ar (Ab (Aa Ac rfl (qL D4 DQ rfl (qL A1 Ax rfl ?_))))
     obtain ⟨v9, a9, h⟩ := bind_some h
     refine EF [] [2010, 2011, 2012] (Jn N p0 v7.1 v9 a9) Uk C8 rfl (qm rfl (qx rfl (qx rfl (qa rfl (qa rfl (Ad (Ab (Aa Ac rfl (qm rfl (Ad ?_))))))))))
     refine Ap rfl (fun c10 => ?_) (fun c10 => ?_)
     ·have h := Am c10 h
      refine Al (Bc 2010 _ _ rfl rfl) (Al (Bc 2011 _ _ rfl rfl) (Al (Bc 2012 _ _ rfl rfl) (Aa Ac rfl (qm rfl (qL Ht DE rfl (Ep CL DE Hi rfl ?_))))))
      obtain ⟨c11, h⟩ := AK h
      refine Dw (f := AD) CL CL DE LI Hi c11 rfl (qm rfl (qL A1 Ax rfl (Ep AP Ax CX rfl ?_)))
      obtain ⟨c12, h⟩ := AK h
      refine Dw (f := Af) AP AP Ax NU CX c12 rfl (qa rfl (qa rfl (AM (by kernel_rfl) ?_)))
      exact Au _ h (sm [(2007, 47), (2008, 51), (2009, 2004)] _ _ rfl rfl)
     ·have h := An c10 h
      refine Ar ?_
      exact Au _ h (sm [(2007, 2002), (2008, 2003), (2009, 2004)] _ _ rfl rfl)
   ·refine Aa Ac rfl (AY rfl (qm rfl (Ad ?_)))
    exact Au _ h (sm [(2002, 2007), (2003, 2008), (2004, 2009)] _ _ rfl rfl)
  ·have h := An c4 h
   refine AX ?_
   exact Au _ h (sm [(2005, 2002), (2006, 2003)] _ _ rfl rfl)
 ·refine Al hs (Ab (Aa Ac rfl (qm rfl (qm rfl (qa rfl (qa rfl (Ad ?_)))))))
  obtain rfl := sj h
  refine Al (sm [(1000, 2005), (1001, 2006)] [(4, .e (.one (.own 1000))), (5, .e (.one (.own 1001)))] [(1000, .vec 3 (v3.1.map AD)), (1001, .vec 3 (v3.2.map Af))] rfl rfl) (Az ?_)
  exact ⟨⟨[_, _], ⟨.tmp _ _ rfl, ⟨.tmp _ _ rfl, trivial⟩⟩, rfl⟩, ⟨rfl, rfl, trivial⟩⟩
set_option maxRecDepth 10000 in
theorem KO (N : Nat) (p0 : Int) (r : Int) (h : GE N p0 = some r) : AC Tryz.prog 89 [.e (.one (.pure (.val (.int .u32 p0))))] [] (.e (.one (.pure (.val (.int .i64 r))))) := by
 unfold GE at h
 refine As (n := 19) (rs := [.tmp 2]) Tryz.func89 rfl rfl rfl (A5 rfl) (A5 rfl) rfl fun w0 S0 => ?_
 refine Ab (Aa Ac rfl (qa rfl (Ad ?_)))
 refine AO h (fun v1 => mk [(0, .e (.one (.pure (.val (.int .u32 v1.1))))), (2, .e (.one (.pure (.val (.int .i64 v1.2)))))] []) (fun j1 h => ?_) (fun v1 h => ?_)
 ·refine Ab (Aa Ac rfl (qm rfl (Dx rfl (Ad ?_))))
  refine Ap rfl (fun c2 => ?_) (fun c2 => ?_)
  ·have h := Am c2 h
   refine Ab (Aa Ac rfl (qm rfl (GX rfl (by decide) (qa rfl (Ad (Aa Ac rfl (qa rfl (Ad ?_))))))))
   exact Au _ h (sm [] _ _ rfl rfl)
  ·have h := An c2 h
   refine Ar ?_
   exact Au _ h (sm [] _ _ rfl rfl)
 ·refine AO h (fun v3 => mk [(0, .e (.one (.pure (.val (.int .u32 v3.1))))), (2, .e (.one (.pure (.val (.int .i64 v3.2)))))] []) (fun j3 h => ?_) (fun v3 h => ?_)
  ·refine Ab (Aa Ac rfl (qm rfl (Dx rfl (Ad ?_))))
   refine Ap rfl (fun c4 => ?_) (fun c4 => ?_)
   ·have h := Am c4 h
    refine Ab (Aa Ac rfl (qm rfl (GX rfl (by decide) (qa rfl (Ad (Aa Ac rfl (qm rfl (AY rfl (qa rfl (Ad ?_))))))))))
    exact Au _ h (sm [] _ _ rfl rfl)
   ·have h := An c4 h
    refine Ar ?_
    exact Au _ h (sm [] _ _ rfl rfl)
  ·refine Ab (Aa Ac rfl (qm rfl (qm rfl (GT Pj Wf rfl ?_))))
   obtain ⟨v5, a5, h⟩ := bind_some h
   refine Ln (.p rfl) rfl rfl TJ a5 ?_
   refine GT SP Ri rfl (AY rfl (qa rfl (Ad ?_)))
   obtain rfl := sj h
   refine Al (sm [] [(2, .e (.one (.pure (.val (.int .i64 ((IntKind.wrap .i64 (v3.2 + (IntKind.wrap .i64 v5)))))))))] [] rfl rfl) (Az ?_)
   exact ⟨⟨[_], ⟨.tmp _ _ rfl, trivial⟩, rfl⟩, trivial⟩
set_option maxRecDepth 10000 in
theorem KT (N : Nat) (p0 : Int) (r : Int) (h : GN N p0 = some r) : AC Tryz.prog 90 [.e (.one (.pure (.val (.int .u64 p0))))] [] (.e (.one (.pure (.val (.int .i64 r))))) := by
 unfold GN at h
 refine As (n := 25) (rs := [.tmp 2]) Tryz.func90 rfl rfl rfl (A5 rfl) (A5 rfl) rfl fun w0 S0 => ?_
 refine Ab (Aa Ac rfl (qa rfl (Ad ?_)))
 refine AO h (fun v1 => mk [(0, .e (.one (.pure (.val (.int .u64 v1.1))))), (2, .e (.one (.pure (.val (.int .i64 v1.2)))))] []) (fun j1 h => ?_) (fun v1 h => ?_)
 ·refine Ab (Aa Ac rfl (qm rfl (Dx rfl (Ad ?_))))
  refine Ap rfl (fun c2 => ?_) (fun c2 => ?_)
  ·have h := Am c2 h
   refine Ab (Aa Ac rfl (qm rfl (GX rfl (by decide) (qa rfl (Ad (Aa Ac rfl (qa rfl (Ad ?_))))))))
   exact Au _ h (sm [] _ _ rfl rfl)
  ·have h := An c2 h
   refine Ar ?_
   exact Au _ h (sm [] _ _ rfl rfl)
 ·refine AO h (fun v3 => mk [(0, .e (.one (.pure (.val (.int .u64 v3.1))))), (2, .e (.one (.pure (.val (.int .i64 v3.2)))))] []) (fun j3 h => ?_) (fun v3 h => ?_)
  ·refine Ab (Aa Ac rfl (qm rfl (Dx rfl (Ad ?_))))
   refine Ap rfl (fun c4 => ?_) (fun c4 => ?_)
   ·have h := Am c4 h
    refine Ab (Aa Ac rfl (qm rfl (GX rfl (by decide) (qa rfl (Ad (Aa Ac rfl (qm rfl (AY rfl (qa rfl (Ad ?_))))))))))
    exact Au _ h (sm [] _ _ rfl rfl)
   ·have h := An c4 h
    refine Ar ?_
    exact Au _ h (sm [] _ _ rfl rfl)
  ·refine AO h (fun v5 => mk [(0, .e (.one (.pure (.val (.int .u64 v5.1))))), (2, .e (.one (.pure (.val (.int .i64 v5.2)))))] []) (fun j5 h => ?_) (fun v5 h => ?_)
   ·refine Ab (Aa Ac rfl (qm rfl (Dx rfl (Ad ?_))))
    refine Ap rfl (fun c6 => ?_) (fun c6 => ?_)
    ·have h := Am c6 h
     refine Ab (Aa Ac rfl (qm rfl (GX rfl (by decide) (qa rfl (Ad (Aa Ac rfl (qm rfl (AY rfl (qa rfl (Ad ?_))))))))))
     exact Au _ h (sm [] _ _ rfl rfl)
    ·have h := An c6 h
     refine Ar ?_
     exact Au _ h (sm [] _ _ rfl rfl)
   ·refine Ab (Aa Ac rfl (qm rfl (qm rfl (GT RS Wf rfl ?_))))
    obtain ⟨v7, a7, h⟩ := bind_some h
    refine Ln (.p rfl) rfl rfl TJ a7 ?_
    refine GT SP Ri rfl (AY rfl (qa rfl (Ad ?_)))
    obtain rfl := sj h
    refine Al (sm [] [(2, .e (.one (.pure (.val (.int .i64 ((IntKind.wrap .i64 (v5.2 + (IntKind.wrap .i64 v7)))))))))] [] rfl rfl) (Az ?_)
    exact ⟨⟨[_], ⟨.tmp _ _ rfl, trivial⟩, rfl⟩, trivial⟩
set_option maxRecDepth 10000 in
theorem Jr (N : Nat) (p0 : Int) (r : Int) (h : F3 N p0 = some r) : AC Tryz.prog 61 [.e (.one (.pure (.val (.int .u64 p0))))] [] (.e (.one (.pure (.val (.int .i64 r))))) := by
 unfold F3 at h
 refine As (n := 8) (rs := [.tmp 2]) Tryz.func61 rfl rfl rfl (A5 rfl) (A5 rfl) rfl fun w0 S0 => ?_
 refine Ab (Aa Ac rfl (qa rfl (Ad (Ab ?_))))
 refine Ap rfl (fun c1 => ?_) (fun c1 => ?_)
 ·have h := Am c1 h
  refine Ab (Aa Ac rfl (qm rfl (GT O8 Pe rfl ?_)))
  obtain ⟨v2, a2, h⟩ := bind_some h
  refine AH [] (KO N ((IntKind.wrap .u32 p0)) v2 a2) WQ rfl (qa rfl (Ad ?_))
  obtain rfl := sj h
  refine Al (sm [] [(2, .e (.one (.pure (.val (.int .i64 v2)))))] [] rfl rfl) (Az ?_)
  exact ⟨⟨[_], ⟨.tmp _ _ rfl, trivial⟩, rfl⟩, trivial⟩
 ·have h := An c1 h
  refine Ar (Ab (Aa Ac rfl (qm rfl ?_)))
  obtain ⟨v3, a3, h⟩ := bind_some h
  refine AH [] (KT N p0 v3 a3) WJ rfl (qa rfl (Ad ?_))
  obtain rfl := sj h
  refine Al (sm [] [(2, .e (.one (.pure (.val (.int .i64 v3)))))] [] rfl rfl) (Az ?_)
  exact ⟨⟨[_], ⟨.tmp _ _ rfl, trivial⟩, rfl⟩, trivial⟩
set_option maxRecDepth 10000 in
theorem F5 (N : Nat) (p0 : List Ae) (p1 : Int) (p2 : Int) (p3 : (Ae × Ae) → Option Int) (r : (List Ae)) (h : C5 N p0 p1 p2 p3 = some r) : BI Tryz.prog 81 [.e (.one (.own 90000)), .e (.one (.pure (.val (.int .i64 p1)))), .e (.one (.pure (.val (.int .i64 p2)))), .e (.one (.clo (B0 (EB true Af true Af) CR p3)))] [(.vec 3 (p0.map Af), .vec 3 (r.map Af))] [] (.tup []) := by
 unfold C5 at h
 refine Bx (n := 53) (rs := []) Tryz.func81 rfl rfl rfl (A5 rfl) (A5 rfl) rfl rfl (A5 rfl) rfl (A5 rfl) fun w0 S0 GL => Nb ?_
 refine Al (sm [] [(0, .e (.one (.own 90000))), (1, .e (.one (.pure (.val (.int .i64 p1))))), (2, .e (.one (.pure (.val (.int .i64 p2))))), (3, .e (.one (.clo (B0 (EB true Af true Af) CR p3))))] [(90000, .vec 3 (p0.map Af))] rfl rfl) (Ab (Aa Ac rfl (qm rfl (AY rfl (qa rfl (Ad ?_))))))
 refine AJ (L := B4 N p1 p2 p3) h (fun v1 => mk [(0, .e (.one (.own 90000))), (1, .e (.one (.pure (.val (.int .i64 p1))))), (2, .e (.one (.pure (.val (.int .i64 p2))))), (3, .e (.one (.clo (B0 (EB true Af true Af) CR p3)))), (8, .e (.one (.pure (.val (.int .i64 v1.2)))))] [(90000, .vec 3 (v1.1.map Af))]) (fun v2 => mk [] [(90000, .vec 3 (v2.map Af))]) (fun _ _ => rfl) (sm [] _ _ rfl rfl) (fun j1 n1 v1 h => ?_) (fun v2 s h hs => ?_)
 ·unfold B4 at h
  refine Ab (Ab (Aa Ac rfl (qm rfl (qm rfl (A2 rfl (Ad ?_))))))
  refine Ap rfl (fun c3 => ?_) (fun c3 => ?_)
  ·have h := Am c3 h
   refine Ar (Ab (AN (Ab (Aa Ac rfl (qm rfl (qa rfl (Ad ?_)))))))
   refine AJ (L := B2 N p1 p3) h (fun v4 => mk [(0, .e (.one (.own 90000))), (1, .e (.one (.pure (.val (.int .i64 p1))))), (2, .e (.one (.pure (.val (.int .i64 p2))))), (3, .e (.one (.clo (B0 (EB true Af true Af) CR p3)))), (8, .e (.one (.pure (.val (.int .i64 v1.2))))), (9, .e (.one (.pure (.val (.int .i64 v4.2)))))] [(90000, .vec 3 (v4.1.map Af))]) (fun v5 => mk [(0, .e (.one (.own 90000))), (1, .e (.one (.pure (.val (.int .i64 p1))))), (2, .e (.one (.pure (.val (.int .i64 p2))))), (3, .e (.one (.clo (B0 (EB true Af true Af) CR p3)))), (8, .e (.one (.pure (.val (.int .i64 v1.2)))))] [(90000, .vec 3 (v5.map Af))]) (fun _ _ => rfl) (sm [] _ _ rfl rfl) (fun j4 n4 v4 h => ?_) (fun v5 s h hs => ?_)
   ·unfold B2 at h
    refine Ab ?_
    refine AO h (fun v6 => mk [(0, .e (.one (.own 90000))), (1, .e (.one (.pure (.val (.int .i64 p1))))), (2, .e (.one (.pure (.val (.int .i64 p2))))), (3, .e (.one (.clo (B0 (EB true Af true Af) CR p3)))), (8, .e (.one (.pure (.val (.int .i64 v1.2))))), (9, .e (.one (.pure (.val (.int .i64 v4.2))))), (34, .e (.one (.pure (.val (.bool v6)))))] [(90000, .vec 3 (v4.1.map Af))]) (fun j6 h => ?_) (fun v6 h => ?_)
    ·refine Aa Ac rfl (qm rfl (qm rfl (Fw rfl (qm rfl ?_))))
     refine AE (t := 21) rfl (fun c7 => ?_) (fun c7 => ?_)
     ·have h := Am c7 h
      refine qm rfl (qm rfl (qm rfl ?_))
      obtain ⟨v8, a8, b8, h⟩ := Aj h
      refine qI AP Ax a8 (Ah b8) rfl (qJ A1 Ax (Ah b8) rfl (qm rfl (qm rfl (CQ rfl ?_))))
      obtain ⟨v9, a9, b9, h⟩ := Aj h
      refine qI AP Ax a9 (Ah b9) rfl (qJ A1 Ax (Ah b9) rfl ?_)
      obtain ⟨v10, a10, h⟩ := bind_some h
      refine EE (ds0 := [_, _]) (ar := (EB true Af true Af) ((v8, v9))) (.g rfl rfl) rfl rfl ⟨rfl, rfl, trivial⟩ rfl rfl rfl (ED (Fb _ _ _ _ Br Br) a10) ?_
      refine A2 rfl (qp rfl (AM (by kernel_rfl) ?_))
      exact Au _ h (sm [] _ _ rfl rfl)
     ·have h := An c7 h
      refine qn rfl (qn rfl (qn rfl (qn rfl (qn rfl (qn rfl (qn rfl (qn rfl (qn rfl (qn rfl (qn rfl (qn rfl (qp rfl (AM (by kernel_rfl) ?_)))))))))))))
      exact Au _ h (sm [] _ _ rfl rfl)
    ·refine Ap rfl (fun c11 => ?_) (fun c11 => ?_)
     ·have h := Am c11 h
      refine Ar (Ab (AN (Aa Ac rfl (qm rfl (qm rfl (qm rfl (qm rfl (CQ rfl (qm rfl (qm rfl (CQ rfl ?_)))))))))))
      obtain ⟨v12, a12, b12, h⟩ := Aj h
      refine qI AP Ax a12 (Ah b12) rfl (qJ A1 Ax (Ah b12) rfl (qm rfl (qm rfl ?_)))
      obtain ⟨v13, a13, b13, h⟩ := Aj h
      refine qI AP Ax a13 (Ah b13) rfl (qJ A1 Ax (Ah b13) rfl ?_)
      obtain ⟨v14, a14, b14, h⟩ := Aj h
      refine qI AP Ax a14 (Ah b14) rfl ?_
      refine A7 rfl rfl rfl rfl (Ah b14) rfl Ax rfl (A5 rfl) (A8 Af v4.1 _ v12) ?_
      obtain ⟨v15, a15, b15, h⟩ := Aj h
      refine qI AP Ax a15 (Ah b15) rfl ?_
      refine A7 rfl rfl rfl rfl (Ah b15) rfl Ax rfl (A5 rfl) (A8 Af (v4.1.set ((v4.2).toNat) v12) _ v13) ?_
      refine AM (by kernel_rfl) (Aa Ac rfl (qm rfl (CQ rfl (qa rfl (Ad ?_)))))
      exact Au _ h (sm [] _ _ rfl rfl)
     ·have h := An c11 h
      refine AX ?_
      exact Au _ h (sm [] _ _ rfl rfl)
   ·refine Al hs (Aa Ac rfl (qm rfl (AY rfl (qa rfl (Ad ?_)))))
    exact Au _ h (sm [] _ _ rfl rfl)
  ·have h := An c3 h
   refine AX ?_
   exact Au _ h (sm [] _ _ rfl rfl)
 ·obtain rfl := sj h
  refine ⟨_, hs.trans (sm [] [] [(90000, .vec 3 (v2.map Af))] rfl rfl), ?_⟩
  exact ⟨⟨[], trivial, rfl⟩, ⟨rfl, trivial⟩, trivial⟩
set_option maxRecDepth 10000 in
theorem E2 (N : Nat) (p0 : List Ae) (p1 : Int) (p2 : Int) (p3 : Int) (p4 : (Ae × Ae) → Option Int) (r : (List Ae)) (h : CU N p0 p1 p2 p3 p4 = some r) : BI Tryz.prog 105 [.e (.one (.own 90000)), .e (.one (.pure (.val (.int .i64 p1)))), .e (.one (.pure (.val (.int .i64 p2)))), .e (.one (.pure (.val (.int .i64 p3)))), .e (.one (.clo (B0 (EB true Af true Af) CR p4)))] [(.vec 3 (p0.map Af), .vec 3 (r.map Af))] [] (.tup []) := by
 unfold CU at h
 refine Bx (n := 82) (rs := []) Tryz.func105 rfl rfl rfl (A5 rfl) (A5 rfl) rfl rfl (A5 rfl) rfl (A5 rfl) fun w0 S0 GL => Nb ?_
 refine Al (sm [] [(0, .e (.one (.own 90000))), (1, .e (.one (.pure (.val (.int .i64 p1))))), (2, .e (.one (.pure (.val (.int .i64 p2))))), (3, .e (.one (.pure (.val (.int .i64 p3))))), (4, .e (.one (.clo (B0 (EB true Af true Af) CR p4))))] [(90000, .vec 3 (p0.map Af))] rfl rfl) (Ab (Aa Ac rfl (qm rfl (qa rfl (Ad ?_)))))
 refine AJ (L := CC N p2 p3 p4) h (fun v1 => mk [(0, .e (.one (.own 90000))), (2, .e (.one (.pure (.val (.int .i64 p2))))), (3, .e (.one (.pure (.val (.int .i64 p3))))), (4, .e (.one (.clo (B0 (EB true Af true Af) CR p4)))), (10, .e (.one (.pure (.val (.int .i64 v1.2)))))] [(90000, .vec 3 (v1.1.map Af))]) (fun v2 => mk [] [(90000, .vec 3 (v2.map Af))]) (fun _ _ => rfl) (sm [] _ _ rfl rfl) (fun j1 n1 v1 h => ?_) (fun v2 s h hs => ?_)
 ·unfold CC at h
  refine AN (Ab (Aa Ac rfl (qm rfl (Iu rfl (AY rfl (qa rfl (Ad (Ab (Ab (Aa Ac rfl (qm rfl (qm rfl (Dx rfl (Ad ?_))))))))))))))
  refine Ap rfl (fun c3 => ?_) (fun c3 => ?_)
  ·have h := Am c3 h
   refine AX ?_
   exact Au _ h (sm [] _ _ rfl rfl)
  ·have h := An c3 h
   refine Ar ?_
   refine AO h (fun v4 => mk [(0, .e (.one (.own 90000))), (2, .e (.one (.pure (.val (.int .i64 p2))))), (3, .e (.one (.pure (.val (.int .i64 p3))))), (4, .e (.one (.clo (B0 (EB true Af true Af) CR p4)))), (10, .e (.one (.pure (.val (.int .i64 v1.2))))), (11, .e (.one (.pure (.val (.int .i64 v4)))))] [(90000, .vec 3 (v1.1.map Af))]) (fun j4 h => ?_) (fun v4 h => ?_)
   ·refine AO h (fun v5 => mk [(0, .e (.one (.own 90000))), (2, .e (.one (.pure (.val (.int .i64 p2))))), (3, .e (.one (.pure (.val (.int .i64 p3))))), (4, .e (.one (.clo (B0 (EB true Af true Af) CR p4)))), (10, .e (.one (.pure (.val (.int .i64 v1.2))))), (11, .e (.one (.pure (.val (.int .i64 ((IntKind.wrap .i64 ((IntKind.wrap .i64 (2 * v1.2)) + 1)))))))), (40, .e (.one (.pure (.val (.bool v5)))))] [(90000, .vec 3 (v1.1.map Af))]) (fun j5 h => ?_) (fun v5 h => ?_)
    ·refine Aa Ac rfl (qm rfl (AY rfl (qm rfl (A2 rfl (qm rfl ?_)))))
     refine AE (t := 23) rfl (fun c6 => ?_) (fun c6 => ?_)
     ·have h := Am c6 h
      refine qm rfl (qm rfl (qm rfl (qm rfl (AY rfl ?_))))
      obtain ⟨v7, a7, b7, h⟩ := Aj h
      refine qI AP Ax a7 (Ah b7) rfl (qJ A1 Ax (Ah b7) rfl (qm rfl (qm rfl (qm rfl (AY rfl (AY rfl ?_))))))
      obtain ⟨v8, a8, b8, h⟩ := Aj h
      refine qI AP Ax a8 (Ah b8) rfl (qJ A1 Ax (Ah b8) rfl ?_)
      obtain ⟨v9, a9, h⟩ := bind_some h
      refine EE (ds0 := [_, _]) (ar := (EB true Af true Af) ((v7, v8))) (.g rfl rfl) rfl rfl ⟨rfl, rfl, trivial⟩ rfl rfl rfl (ED (Fb _ _ _ _ Br Br) a9) ?_
      refine A2 rfl (qp rfl (AM (by kernel_rfl) ?_))
      exact Au _ h (sm [] _ _ rfl rfl)
     ·have h := An c6 h
      refine qn rfl (qn rfl (qn rfl (qn rfl (qn rfl (qn rfl (qn rfl (qn rfl (qn rfl (qn rfl (qn rfl (qn rfl (qn rfl (qn rfl (qn rfl (qn rfl (qp rfl (AM (by kernel_rfl) ?_)))))))))))))))))
      exact Au _ h (sm [] _ _ rfl rfl)
    ·refine Ap rfl (fun c10 => ?_) (fun c10 => ?_)
     ·have h := Am c10 h
      refine Aa Ac rfl (qm rfl (AY rfl (qa rfl (Ad ?_))))
      exact Au _ h (sm [] _ _ rfl rfl)
     ·have h := An c10 h
      refine Ar ?_
      exact Au _ h (sm [] _ _ rfl rfl)
   ·refine Ab (Ab (Aa Ac rfl (qm rfl (qm rfl (qm rfl (qm rfl (AY rfl ?_)))))))
    obtain ⟨v11, a11, b11, h⟩ := Aj h
    refine qI AP Ax a11 (Ah b11) rfl (qJ A1 Ax (Ah b11) rfl (qm rfl (qm rfl (qm rfl (AY rfl ?_)))))
    obtain ⟨v12, a12, b12, h⟩ := Aj h
    refine qI AP Ax a12 (Ah b12) rfl (qJ A1 Ax (Ah b12) rfl ?_)
    obtain ⟨v13, a13, h⟩ := bind_some h
    refine EE (ds0 := [_, _]) (ar := (EB true Af true Af) ((v11, v12))) (.p rfl) rfl rfl ⟨rfl, rfl, trivial⟩ rfl rfl rfl (ED (Fb _ _ _ _ Br Br) a13) ?_
    refine A2 rfl (Cp rfl (AM (by kernel_rfl) ?_))
    refine Ap rfl (fun c14 => ?_) (fun c14 => ?_)
    ·have h := Am c14 h
     obtain rfl := sj h
     refine Az ⟨_, (sm [] [] [(90000, .vec 3 (v1.1.map Af))] rfl rfl), ?_⟩
     exact ⟨⟨[], trivial, rfl⟩, ⟨rfl, trivial⟩, trivial⟩
    ·have h := An c14 h
     refine Ar (Ab (Aa Ac rfl (qm rfl (qm rfl (qm rfl (AY rfl (qm rfl (qm rfl (qm rfl (AY rfl (qm rfl (qm rfl (qm rfl (AY rfl ?_))))))))))))))
     obtain ⟨v15, a15, b15, h⟩ := Aj h
     refine qI AP Ax a15 (Ah b15) rfl (qJ A1 Ax (Ah b15) rfl (qm rfl (qm rfl (qm rfl (AY rfl ?_)))))
     obtain ⟨v16, a16, b16, h⟩ := Aj h
     refine qI AP Ax a16 (Ah b16) rfl (qJ A1 Ax (Ah b16) rfl ?_)
     obtain ⟨v17, a17, b17, h⟩ := Aj h
     refine qI AP Ax a17 (Ah b17) rfl ?_
     refine A7 rfl rfl rfl rfl (Ah b17) rfl Ax rfl (A5 rfl) (A8 Af v1.1 _ v15) ?_
     obtain ⟨v18, a18, b18, h⟩ := Aj h
     refine qI AP Ax a18 (Ah b18) rfl ?_
     refine A7 rfl rfl rfl rfl (Ah b18) rfl Ax rfl (A5 rfl) (A8 Af (v1.1.set (((IntKind.wrap .i64 (p3 + v1.2))).toNat) v15) _ v16) ?_
     refine AM (by kernel_rfl) (Aa Ac rfl (qm rfl (qa rfl (Ad ?_))))
     exact Au _ h (sm [] _ _ rfl rfl)
 ·obtain rfl := sj h
  refine ⟨_, hs.trans (sm [] [] [(90000, .vec 3 (v2.map Af))] rfl rfl), ?_⟩
  exact ⟨⟨[], trivial, rfl⟩, ⟨rfl, trivial⟩, trivial⟩
set_option maxRecDepth 10000 in
theorem GY (N : Nat) (p0 : List Ae) (p1 : Int) (p2 : Int) (p3 : (Ae × Ae) → Option Int) (r : (List Ae)) (h : DO N p0 p1 p2 p3 = some r) : BI Tryz.prog 82 [.e (.one (.own 90000)), .e (.one (.pure (.val (.int .i64 p1)))), .e (.one (.pure (.val (.int .i64 p2)))), .e (.one (.clo (B0 (EB true Af true Af) CR p3)))] [(.vec 3 (p0.map Af), .vec 3 (r.map Af))] [] (.tup []) := by
 unfold DO at h
 refine Bx (n := 60) (rs := []) Tryz.func82 rfl rfl rfl (A5 rfl) (A5 rfl) rfl rfl (A5 rfl) rfl (A5 rfl) fun w0 S0 GL => Nb ?_
 refine Al (sm [] [(0, .e (.one (.own 90000))), (1, .e (.one (.pure (.val (.int .i64 p1))))), (2, .e (.one (.pure (.val (.int .i64 p2))))), (3, .e (.one (.clo (B0 (EB true Af true Af) CR p3))))] [(90000, .vec 3 (p0.map Af))] rfl rfl) (Ab (Aa Ac rfl (qm rfl (qa rfl (Ad (Ab (Aa Ac rfl (qa rfl (Ad (Ab (Aa Ac rfl (qm rfl (qm rfl (CQ rfl (qa rfl (Ad (Ab (Ab (Aa Ac rfl (qm rfl (CQ rfl (MR rfl (by decide) (qa rfl (Ad ?_))))))))))))))))))))))))
 refine AJ (L := CB N p1 p2 p3) h (fun v1 => mk [(0, .e (.one (.own 90000))), (3, .e (.one (.clo (B0 (EB true Af true Af) CR p3)))), (8, .e (.one (.pure (.val (.int .i64 p1))))), (9, .e (.one (.pure (.val (.int .i64 0))))), (10, .e (.one (.pure (.val (.int .i64 ((IntKind.wrap .i64 (p2 - p1)))))))), (11, .e (.one (.pure (.val (.int .i64 v1.2)))))] [(90000, .vec 3 (v1.1.map Af))]) (fun v2 => mk [(0, .e (.one (.own 90000))), (3, .e (.one (.clo (B0 (EB true Af true Af) CR p3)))), (8, .e (.one (.pure (.val (.int .i64 p1))))), (9, .e (.one (.pure (.val (.int .i64 0))))), (10, .e (.one (.pure (.val (.int .i64 ((IntKind.wrap .i64 (p2 - p1))))))))] [(90000, .vec 3 (v2.map Af))]) (fun _ _ => rfl) (sm [] _ _ rfl rfl) (fun j1 n1 v1 h => ?_) (fun v2 s h hs => ?_)
 ·unfold CB at h
  refine Ab (Ab (Aa Ac rfl (qm rfl (Dx rfl (Ad ?_)))))
  refine Ap rfl (fun c3 => ?_) (fun c3 => ?_)
  ·have h := Am c3 h
   refine Ar (Ab (AN (Aa Ac rfl (qm rfl (qm rfl (qm rfl (qm rfl (qm rfl ?_))))))))
   obtain ⟨v4, a4, h⟩ := bind_some h
   refine Dg (ds0 := [_, _, _, _, _]) [90000] [] [true] (E2 N v1.1 v1.2 ((IntKind.wrap .i64 (p2 - p1))) p1 p3 v4 a4) (.p rfl) Ub rfl ⟨rfl, rfl, rfl, rfl, rfl, trivial⟩ rfl rfl (by decide) ⟨rfl, trivial⟩ rfl (Bi rfl) trivial ⟨(fun h => by cases h), trivial⟩ rfl rfl rfl ?_
   refine Ad (Aa Ac rfl (qm rfl (CQ rfl (qa rfl (Ad ?_)))))
   exact Au _ h (sm [] _ _ rfl rfl)
  ·have h := An c3 h
   refine AX ?_
   exact Au _ h (sm [] _ _ rfl rfl)
 ·refine Al hs (Ab (Aa Ac rfl (qm rfl (CQ rfl (qa rfl (Ad ?_))))))
  refine AJ (L := CE N p1 p3) h (fun v5 => mk [(0, .e (.one (.own 90000))), (3, .e (.one (.clo (B0 (EB true Af true Af) CR p3)))), (8, .e (.one (.pure (.val (.int .i64 p1))))), (9, .e (.one (.pure (.val (.int .i64 0))))), (12, .e (.one (.pure (.val (.int .i64 v5.2)))))] [(90000, .vec 3 (v5.1.map Af))]) (fun v6 => mk [] [(90000, .vec 3 (v6.map Af))]) (fun _ _ => rfl) (sm [] _ _ rfl rfl) (fun j5 n5 v5 h => ?_) (fun v6 s h hs => ?_)
  ·unfold CE at h
   refine Ab (Ab (Aa Ac rfl (qm rfl (Dx rfl (Ad ?_)))))
   refine Ap rfl (fun c7 => ?_) (fun c7 => ?_)
   ·have h := Am c7 h
    refine Ar (Ab (AN (Ab (Aa Ac rfl (qm rfl (qm rfl (qm rfl (qm rfl (qm rfl (AY rfl (qm rfl (qm rfl (qm rfl (AY rfl ?_))))))))))))))
    obtain ⟨v8, a8, b8, h⟩ := Aj h
    refine qI AP Ax a8 (Ah b8) rfl (qJ A1 Ax (Ah b8) rfl (qm rfl (qm rfl ?_)))
    obtain ⟨v9, a9, b9, h⟩ := Aj h
    refine qI AP Ax a9 (Ah b9) rfl (qJ A1 Ax (Ah b9) rfl ?_)
    obtain ⟨v10, a10, b10, h⟩ := Aj h
    refine qI AP Ax a10 (Ah b10) rfl ?_
    refine A7 rfl rfl rfl rfl (Ah b10) rfl Ax rfl (A5 rfl) (A8 Af v5.1 _ v8) ?_
    obtain ⟨v11, a11, b11, h⟩ := Aj h
    refine qI AP Ax a11 (Ah b11) rfl ?_
    refine A7 rfl rfl rfl rfl (Ah b11) rfl Ax rfl (A5 rfl) (A8 Af (v5.1.set ((p1).toNat) v8) _ v9) ?_
    refine AM (by kernel_rfl) (Aa Ac rfl (qm rfl (qm rfl (qm rfl (qm rfl (qm rfl ?_))))))
    obtain ⟨v12, a12, h⟩ := bind_some h
    refine Dg (ds0 := [_, _, _, _, _]) [90000] [] [true] (E2 N ((v5.1.set ((p1).toNat) v8).set (((IntKind.wrap .i64 (p1 + v5.2))).toNat) v9) 0 v5.2 p1 p3 v12 a12) (.p rfl) Ub rfl ⟨rfl, rfl, rfl, rfl, rfl, trivial⟩ rfl rfl (by decide) ⟨rfl, trivial⟩ rfl (Bi rfl) trivial ⟨(fun h => by cases h), trivial⟩ rfl rfl rfl ?_
    refine Ad (Aa Ac rfl (qm rfl (CQ rfl (qa rfl (Ad ?_)))))
    exact Au _ h (sm [] _ _ rfl rfl)
   ·have h := An c7 h
    refine AX ?_
    exact Au _ h (sm [] _ _ rfl rfl)
  ·obtain rfl := sj h
   refine ⟨_, hs.trans (sm [] [] [(90000, .vec 3 (v6.map Af))] rfl rfl), ?_⟩
   exact ⟨⟨[], trivial, rfl⟩, ⟨rfl, trivial⟩, trivial⟩
set_option maxRecDepth 10000 in
theorem IU (N : Nat) (p0 : Int) (r : Int) (h : E8 N p0 = some r) : AC Tryz.prog 106 [.e (.one (.pure (.val (.int .i64 p0))))] [] (.e (.one (.pure (.val (.int .u64 r))))) := by
 unfold E8 at h
 refine As (n := 7) (rs := [.tmp 2]) Tryz.func106 rfl rfl rfl (A5 rfl) (A5 rfl) rfl fun w0 S0 => ?_
 refine Ab (Aa Ac rfl (qa rfl (Ad (Ab (Aa Ac rfl (qm rfl (GT UR N5 rfl ?_)))))))
 obtain ⟨v1, a1, h⟩ := bind_some h
 refine AH [] (Jr N ((IntKind.wrap .u64 p0)) v1 a1) VU rfl ?_
 obtain ⟨c2, h⟩ := AK h
 refine HF rfl c2 (qa rfl (Ad ?_))
 obtain rfl := sj h
 refine Al (sm [] [(2, .e (.one (.pure (.val (.int .u64 ((CJ .u64 1 v1)))))))] [] rfl rfl) (Az ?_)
 exact ⟨⟨[_], ⟨.tmp _ _ rfl, trivial⟩, rfl⟩, trivial⟩
set_option maxRecDepth 10000 in
theorem Jd (N : Nat) (p0 : Int) (r : Int × Int) (h : Fg N p0 = some r) : BI Tryz.prog 107 [.e (.one (.ptr 90000 0))] [(.box [.pure (.val (.int .u64 p0))], .box [.pure (.val (.int .u64 r.2))])] [] (.e (.one (.pure (.val (.int .u64 r.1))))) := by
 unfold Fg at h
 refine Bx (n := 33) (rs := [.tmp 2]) Tryz.func107 rfl rfl rfl (A5 rfl) (A5 rfl) rfl rfl (A5 rfl) rfl (A5 rfl) fun w0 S0 GL => ?_
 refine Al (sm [] [(0, .e (.one (.ptr 90000 0)))] [(90000, .box [.pure (.val (.int .u64 p0))])] rfl rfl) (Ab (Aa Ac rfl (qa rfl (Ad (Ab (Aa Ac rfl (qm rfl (Nh rfl (ql M3 rfl (qm rfl (Nh rfl (ql M3 rfl (HF rfl (by decide) (RN rfl (Nh rfl (qs QR rfl (AM (by kernel_rfl) (Ab (Aa Ac rfl (qm rfl (Nh rfl (ql M3 rfl (qm rfl (Nh rfl (ql M3 rfl (GX rfl (by decide) (RN rfl (Nh rfl (qs QR rfl (AM (by kernel_rfl) (Ab (Aa Ac rfl (qm rfl (Nh rfl (ql M3 rfl (qm rfl (Nh rfl (ql M3 rfl (HF rfl (by decide) ?_)))))))))))))))))))))))))))))))))))))))
 refine RN rfl (Nh rfl (qs QR rfl (AM (by kernel_rfl) (Ab (Aa Ac rfl (qm rfl (Nh rfl (ql M3 rfl (qa rfl (Ad ?_))))))))))
 obtain rfl := sj h
 refine Al (sm [] [(2, .e (.one (.pure (.val (.int .u64 ((GM .u64 ((GM .u64 ((GM .u64 p0 ((CJ .u64 p0 13)))) ((En .u64 ((GM .u64 p0 ((CJ .u64 p0 13)))) 7)))) ((CJ .u64 ((GM .u64 ((GM .u64 p0 ((CJ .u64 p0 13)))) ((En .u64 ((GM .u64 p0 ((CJ .u64 p0 13)))) 7)))) 17)))))))))] [(90000, .box [.pure (.val (.int .u64 ((GM .u64 ((GM .u64 ((GM .u64 p0 ((CJ .u64 p0 13)))) ((En .u64 ((GM .u64 p0 ((CJ .u64 p0 13)))) 7)))) ((CJ .u64 ((GM .u64 ((GM .u64 p0 ((CJ .u64 p0 13)))) ((En .u64 ((GM .u64 p0 ((CJ .u64 p0 13)))) 7)))) 17))))))])] rfl rfl) (Az ?_)
 exact ⟨⟨[_], ⟨.tmp _ _ rfl, trivial⟩, rfl⟩, ⟨rfl, trivial⟩, trivial⟩
set_option maxRecDepth 10000 in
theorem F9 (N : Nat) (p0 : List Ae) (p1 : Int) (p2 : Int) (p3 : (Ae × Ae) → Option Int) (r : (List Ae)) (h : C7 N p0 p1 p2 p3 = some r) : BI Tryz.prog 83 [.e (.one (.own 90000)), .e (.one (.pure (.val (.int .i64 p1)))), .e (.one (.pure (.val (.int .i64 p2)))), .e (.one (.clo (B0 (EB true Af true Af) CR p3)))] [(.vec 3 (p0.map Af), .vec 3 (r.map Af))] [] (.tup []) := by
 unfold C7 at h
 refine Bx (n := 67) (rs := []) Tryz.func83 rfl rfl rfl (A5 rfl) (A5 rfl) rfl rfl (A5 rfl) rfl (A5 rfl) fun w0 S0 GL => Nb ?_
 refine Al (sm [] [(0, .e (.one (.own 90000))), (1, .e (.one (.pure (.val (.int .i64 p1))))), (2, .e (.one (.pure (.val (.int .i64 p2))))), (3, .e (.one (.clo (B0 (EB true Af true Af) CR p3))))] [(90000, .vec 3 (p0.map Af))] rfl rfl) (Ab (Aa Ac rfl (qm rfl (qm rfl (CQ rfl (qa rfl (Ad (Ab (Aa Ac rfl (qm rfl (Dx rfl (Ad ?_))))))))))))
 refine Ap rfl (fun c1 => ?_) (fun c1 => ?_)
 ·have h := Am c1 h
  refine Ab (Aa Ac rfl (qm rfl (GT UR Vw rfl (qz Vb rfl (qs QR rfl (Ad (Ab (Aa Ac rfl (qm rfl ?_)))))))))
  obtain ⟨v2, a2, h⟩ := bind_some h
  refine AH [] (IU N ((IntKind.wrap .i64 (p2 - p1))) v2 a2) V6 rfl (qa rfl (Ad (Ab (Aa Ac rfl (qm rfl (qm rfl (MR rfl (by decide) (Iu rfl (AY rfl (CQ rfl (qa rfl (Ad ?_))))))))))))
  refine AJ (L := B3 N p1 p2 v2) h (fun v3 => mk [(0, .e (.one (.own 90000))), (1, .e (.one (.pure (.val (.int .i64 p1))))), (8, .e (.one (.pure (.val (.int .i64 ((IntKind.wrap .i64 (p2 - p1)))))))), (9, .e (.one (.ptr 9 0))), (10, .e (.one (.pure (.val (.int .u64 v2))))), (11, .e (.one (.pure (.val (.int .i64 v3.2.2)))))] [(9, .box [.pure (.val (.int .u64 v3.2.1))]), (90000, .vec 3 (v3.1.map Af))]) (fun v4 => mk [] [(90000, .vec 3 (v4.map Af))]) (fun _ _ => rfl) (sm [] _ _ rfl rfl) (fun j3 n3 v3 h => ?_) (fun v4 s h hs => ?_)
  ·unfold B3 at h
   refine Ab (Ab (Aa Ac rfl (qm rfl (qm rfl (qm rfl (MR rfl (by decide) (Iu rfl (AY rfl (AY rfl (Kg rfl (Ad ?_)))))))))))
   refine Ap rfl (fun c5 => ?_) (fun c5 => ?_)
   ·have h := Am c5 h
    refine Ar (Ab (AN (Ab (Aa Ac rfl ?_))))
    obtain ⟨v6, a6, h⟩ := bind_some h
    refine Dg (ds0 := [_]) [9] [] [true] (Jd N v3.2.1 v6 a6) (.p rfl) Vl rfl ⟨rfl, trivial⟩ rfl rfl (by decide) ⟨rfl, trivial⟩ rfl (Bi rfl) trivial ⟨(fun h => by cases h), trivial⟩ rfl rfl rfl ?_
    refine qm rfl (CQ rfl (KE rfl (GT O8 Ri rfl (qa rfl (Ad ?_)))))
    refine AO h (fun v7 => mk [(0, .e (.one (.own 90000))), (1, .e (.one (.pure (.val (.int .i64 p1))))), (8, .e (.one (.pure (.val (.int .i64 ((IntKind.wrap .i64 (p2 - p1)))))))), (9, .e (.one (.ptr 9 0))), (10, .e (.one (.pure (.val (.int .u64 v2))))), (11, .e (.one (.pure (.val (.int .i64 v3.2.2))))), (12, .e (.one (.pure (.val (.int .i64 v7)))))] [(9, .box [.pure (.val (.int .u64 v6.2))]), (90000, .vec 3 (v3.1.map Af))]) (fun j7 h => ?_) (fun v7 h => ?_)
    ·refine Ab (Aa Ac rfl (qm rfl (qm rfl (Dx rfl (Ad ?_)))))
     refine Ap rfl (fun c8 => ?_) (fun c8 => ?_)
     ·have h := Am c8 h
      refine Aa Ac rfl (qm rfl (qm rfl (CQ rfl (qa rfl (Ad ?_)))))
      exact Au _ h (sm [] _ _ rfl rfl)
     ·have h := An c8 h
      refine Ar ?_
      exact Au _ h (sm [] _ _ rfl rfl)
    ·refine Aa Ac rfl (qm rfl (qm rfl (qm rfl (qm rfl (qm rfl (AY rfl (qm rfl (qm rfl (qm rfl (AY rfl ?_))))))))))
     obtain ⟨v9, a9, b9, h⟩ := Aj h
     refine qI AP Ax a9 (Ah b9) rfl (qJ A1 Ax (Ah b9) rfl (qm rfl (qm rfl ?_)))
     obtain ⟨v10, a10, b10, h⟩ := Aj h
     refine qI AP Ax a10 (Ah b10) rfl (qJ A1 Ax (Ah b10) rfl ?_)
     obtain ⟨v11, a11, b11, h⟩ := Aj h
     refine qI AP Ax a11 (Ah b11) rfl ?_
     refine A7 rfl rfl rfl rfl (Ah b11) rfl Ax rfl (A5 rfl) (A8 Af v3.1 _ v9) ?_
     obtain ⟨v12, a12, b12, h⟩ := Aj h
     refine qI AP Ax a12 (Ah b12) rfl ?_
     refine A7 rfl rfl rfl rfl (Ah b12) rfl Ax rfl (A5 rfl) (A8 Af (v3.1.set ((v3.2.2).toNat) v9) _ v10) ?_
     refine AM (by kernel_rfl) (Aa Ac rfl (qm rfl (AY rfl (qa rfl (Ad ?_)))))
     exact Au _ h (sm [] _ _ rfl rfl)
   ·have h := An c5 h
    refine AX ?_
    exact Au _ h (sm [] _ _ rfl rfl)
  ·obtain rfl := sj h
   refine ⟨_, hs.trans (sm [] [] [(90000, .vec 3 (v4.map Af))] rfl rfl), ?_⟩
   exact ⟨⟨[], trivial, rfl⟩, ⟨rfl, trivial⟩, trivial⟩
 ·have h := An c1 h
  refine Ar ?_
  obtain rfl := sj h
  refine ⟨_, (sm [] [] [(90000, .vec 3 (p0.map Af))] rfl rfl), ?_⟩
  exact ⟨⟨[], trivial, rfl⟩, ⟨rfl, trivial⟩, trivial⟩
set_option maxRecDepth 10000 in
theorem Eg (N : Nat) (p0 : List Ae) (p1 : Int) (p2 : Int) (p3 : Int) (p4 : (Ae × Ae) → Option Int) (r : Int × Int × Int) (h : Cv N p0 p1 p2 p3 p4 = some r) : BI Tryz.prog 119 [.e (.one (.pure (.sl (p0.map Af)))), .e (.one (.pure (.val (.int .i64 p1)))), .e (.one (.pure (.val (.int .i64 p2)))), .e (.one (.ptr 90000 0)), .e (.one (.clo (B0 (EB true Af true Af) CR p4)))] [(.box [.pure (.val (.int .i64 p3))], .box [.pure (.val (.int .i64 r.2.2))])] [] (.tup [.one (.pure (.val (.int .i64 r.1))), .one (.pure (.val (.int .i64 r.2.1)))]) := by
 unfold Cv at h
 refine Bx (n := 32) (rs := [.tmp 10, .tmp 11]) Tryz.func119 rfl rfl rfl (A5 rfl) (A5 rfl) rfl rfl (A5 rfl) rfl (A5 rfl) fun w0 S0 GL => ?_
 refine Al (sm [] [(0, .e (.one (.pure (.sl (p0.map Af))))), (1, .e (.one (.pure (.val (.int .i64 p1))))), (2, .e (.one (.pure (.val (.int .i64 p2))))), (3, .e (.one (.ptr 90000 0))), (4, .e (.one (.clo (B0 (EB true Af true Af) CR p4))))] [(90000, .box [.pure (.val (.int .i64 p3))])] rfl rfl) (Ab (Aa Ac rfl (qa rfl (qa rfl (Ad (Ab (Ab (Aa Ac rfl (qm rfl (qm rfl (qm rfl ?_)))))))))))
 obtain ⟨v1, a1, b1, h⟩ := Aj h
 refine qi AP Ax a1 (Ah b1) rfl (qK A1 Ax rfl (qm rfl (qm rfl ?_)))
 obtain ⟨v2, a2, b2, h⟩ := Aj h
 refine qi AP Ax a2 (Ah b2) rfl (qK A1 Ax rfl ?_)
 obtain ⟨v3, a3, h⟩ := bind_some h
 refine EE (ds0 := [_, _]) (ar := (EB true Af true Af) ((v1, v2))) (.p rfl) rfl rfl ⟨rfl, rfl, trivial⟩ rfl rfl rfl (ED (Fb _ _ _ _ Br Br) a3) ?_
 refine A2 rfl (AM (by kernel_rfl) ?_)
 refine Ap rfl (fun c4 => ?_) (fun c4 => ?_)
 ·have h := Am c4 h
  refine Ab (Aa Ac rfl (qm rfl (Nh rfl (ql Cz rfl (AY rfl (Nh rfl (qs DP rfl (Ad (Ab (Aa Ac rfl (qm rfl (qm rfl (qa rfl (qa rfl (Ad ?_)))))))))))))))
  obtain rfl := sj h
  refine Al (sm [] [(10, .e (.one (.pure (.val (.int .i64 p2))))), (11, .e (.one (.pure (.val (.int .i64 p1)))))] [(90000, .box [.pure (.val (.int .i64 ((IntKind.wrap .i64 (p3 + 1)))))])] rfl rfl) (Az ?_)
  exact ⟨⟨[_, _], ⟨.tmp _ _ rfl, ⟨.tmp _ _ rfl, trivial⟩⟩, rfl⟩, ⟨rfl, trivial⟩, trivial⟩
 ·have h := An c4 h
  refine Ar (Ab (Aa Ac rfl (qm rfl (qm rfl (qa rfl (qa rfl (Ad ?_)))))))
  obtain rfl := sj h
  refine Al (sm [] [(10, .e (.one (.pure (.val (.int .i64 p1))))), (11, .e (.one (.pure (.val (.int .i64 p2)))))] [(90000, .box [.pure (.val (.int .i64 p3))])] rfl rfl) (Az ?_)
  exact ⟨⟨[_, _], ⟨.tmp _ _ rfl, ⟨.tmp _ _ rfl, trivial⟩⟩, rfl⟩, ⟨rfl, trivial⟩, trivial⟩
set_option maxRecDepth 10000 in
theorem Ff (N : Nat) (p0 : List Ae) (p1 : Int) (p2 : Int) (p3 : Int) (p4 : Int) (p5 : (Ae × Ae) → Option Int) (r : Int × Int) (h : C2 N p0 p1 p2 p3 p4 p5 = some r) : BI Tryz.prog 109 [.e (.one (.pure (.sl (p0.map Af)))), .e (.one (.pure (.val (.int .i64 p1)))), .e (.one (.pure (.val (.int .i64 p2)))), .e (.one (.pure (.val (.int .i64 p3)))), .e (.one (.ptr 90000 0)), .e (.one (.clo (B0 (EB true Af true Af) CR p5)))] [(.box [.pure (.val (.int .i64 p4))], .box [.pure (.val (.int .i64 r.2))])] [] (.e (.one (.pure (.val (.int .i64 r.1))))) := by
 unfold C2 at h
 refine Bx (n := 41) (rs := [.tmp 12]) Tryz.func109 rfl rfl rfl (A5 rfl) (A5 rfl) rfl rfl (A5 rfl) rfl (A5 rfl) fun w0 S0 GL => ?_
 refine Al (sm [] [(0, .e (.one (.pure (.sl (p0.map Af))))), (1, .e (.one (.pure (.val (.int .i64 p1))))), (2, .e (.one (.pure (.val (.int .i64 p2))))), (3, .e (.one (.pure (.val (.int .i64 p3))))), (4, .e (.one (.ptr 90000 0))), (5, .e (.one (.clo (B0 (EB true Af true Af) CR p5))))] [(90000, .box [.pure (.val (.int .i64 p4))])] rfl rfl) (Ab (Aa Ac rfl (qa rfl (Ad (Ab (Aa Ac rfl (qm rfl (qm rfl (qm rfl (qm rfl (qm rfl ?_)))))))))))
 obtain ⟨v1, a1, h⟩ := bind_some h
 refine Dg (ds0 := [_, _, _, _, _]) [90000] [] [true] (Eg N p0 p1 p2 p4 p5 v1 a1) (.p rfl) Se rfl ⟨rfl, rfl, rfl, rfl, rfl, trivial⟩ rfl rfl (by decide) ⟨rfl, trivial⟩ rfl (Bi rfl) trivial ⟨(fun h => by cases h), trivial⟩ rfl rfl rfl ?_
 refine qm rfl (qx rfl (qx rfl (qa rfl (qa rfl (Ad (Ab (Aa Ac rfl (qm rfl (qm rfl (qm rfl (qm rfl (qm rfl ?_))))))))))))
 obtain ⟨v2, a2, h⟩ := bind_some h
 refine Dg (ds0 := [_, _, _, _, _]) [90000] [] [true] (Eg N p0 v1.2.1 p3 v1.2.2 p5 v2 a2) (.p rfl) Se rfl ⟨rfl, rfl, rfl, rfl, rfl, trivial⟩ rfl rfl (by decide) ⟨rfl, trivial⟩ rfl (Bi rfl) trivial ⟨(fun h => by cases h), trivial⟩ rfl rfl rfl ?_
 refine qm rfl (qx rfl (qx rfl (qa rfl (qa rfl (Ad (Ab (Aa Ac rfl (qm rfl (qm rfl (qm rfl (qm rfl (qm rfl ?_))))))))))))
 obtain ⟨v3, a3, h⟩ := bind_some h
 refine Dg (ds0 := [_, _, _, _, _]) [90000] [] [true] (Eg N p0 v1.1 v2.1 v2.2.2 p5 v3 a3) (.p rfl) Se rfl ⟨rfl, rfl, rfl, rfl, rfl, trivial⟩ rfl rfl (by decide) ⟨rfl, trivial⟩ rfl (Bi rfl) trivial ⟨(fun h => by cases h), trivial⟩ rfl rfl rfl ?_
 refine qm rfl (qx rfl (qx rfl (qa rfl (qa rfl (Ad (Ab (Aa Ac rfl (qm rfl (qa rfl (Ad ?_))))))))))
 obtain rfl := sj h
 refine Al (sm [] [(12, .e (.one (.pure (.val (.int .i64 v3.2.1)))))] [(90000, .box [.pure (.val (.int .i64 v3.2.2))])] rfl rfl) (Az ?_)
 exact ⟨⟨[_], ⟨.tmp _ _ rfl, trivial⟩, rfl⟩, ⟨rfl, trivial⟩, trivial⟩
set_option maxRecDepth 10000 in
theorem C4 (N : Nat) (p0 : List Ae) (p1 : Int) (p2 : Int) (p3 : (Ae × Ae) → Option Int) (r : Int × Int) (h : BB N p0 p1 p2 p3 = some r) : BI Tryz.prog 108 [.e (.one (.pure (.sl (p0.map Af)))), .e (.one (.pure (.val (.int .i64 p1)))), .e (.one (.ptr 90000 0)), .e (.one (.clo (B0 (EB true Af true Af) CR p3)))] [(.box [.pure (.val (.int .i64 p2))], .box [.pure (.val (.int .i64 r.2))])] [] (.e (.one (.pure (.val (.int .i64 r.1))))) := by
 unfold BB at h
 refine Bx (n := 18) (rs := [.tmp 8]) Tryz.func108 rfl rfl rfl (A5 rfl) (A5 rfl) rfl rfl (A5 rfl) rfl (A5 rfl) fun w0 S0 GL => ?_
 refine Al (sm [] [(0, .e (.one (.pure (.sl (p0.map Af))))), (1, .e (.one (.pure (.val (.int .i64 p1))))), (2, .e (.one (.ptr 90000 0))), (3, .e (.one (.clo (B0 (EB true Af true Af) CR p3))))] [(90000, .box [.pure (.val (.int .i64 p2))])] rfl rfl) (Ab (Aa Ac rfl (qa rfl (Ad (Ab (Aa Ac rfl (qm rfl (qm rfl (CQ rfl (qm rfl (qm rfl (AY rfl (qm rfl (qm rfl ?_))))))))))))))
 obtain ⟨v1, a1, h⟩ := bind_some h
 refine Dg (ds0 := [_, _, _, _, _, _]) [90000] [] [true] (Ff N p0 ((IntKind.wrap .i64 (p1 - 1))) p1 ((IntKind.wrap .i64 (p1 + 1))) p2 p3 v1 a1) (.p rfl) T9 rfl ⟨rfl, rfl, rfl, rfl, rfl, rfl, trivial⟩ rfl rfl (by decide) ⟨rfl, trivial⟩ rfl (Bi rfl) trivial ⟨(fun h => by cases h), trivial⟩ rfl rfl rfl ?_
 refine qa rfl (Ad ?_)
 obtain rfl := sj h
 refine Al (sm [] [(8, .e (.one (.pure (.val (.int .i64 v1.1)))))] [(90000, .box [.pure (.val (.int .i64 v1.2))])] rfl rfl) (Az ?_)
 exact ⟨⟨[_], ⟨.tmp _ _ rfl, trivial⟩, rfl⟩, ⟨rfl, trivial⟩, trivial⟩
set_option maxRecDepth 10000 in
theorem Gr (N : Nat) (p0 : List Ae) (p1 : Int) (p2 : Int) (p3 : (Ae × Ae) → Option Int) (r : Int × Int) (h : Dk N p0 p1 p2 p3 = some r) : AC Tryz.prog 84 [.e (.one (.pure (.sl (p0.map Af)))), .e (.one (.pure (.val (.int .i64 p1)))), .e (.one (.pure (.val (.int .i64 p2)))), .e (.one (.clo (B0 (EB true Af true Af) CR p3)))] [] (.tup [.one (.pure (.val (.int .i64 r.1))), .one (.pure (.val (.int .i64 r.2)))]) := by
 unfold Dk at h
 refine As (n := 63) (rs := [.tmp 8, .tmp 9]) Tryz.func84 rfl rfl rfl (A5 rfl) (A5 rfl) rfl fun w0 S0 => ?_
 refine Ab (Aa Ac rfl (qa rfl (qa rfl (Ad (Ab (Aa Ac rfl (qm rfl (qm rfl (CQ rfl (qa rfl (Ad (Ab (Aa Ac rfl (qz KI rfl (Ad (Ab (Aa Ac rfl (qm rfl (qm rfl (MR rfl (by decide) (Iu rfl (AY rfl (qa rfl (Ad (Ab (Aa Ac rfl (qm rfl (qm rfl (MR rfl (by decide) (Iu rfl (AY rfl (qa rfl (Ad (Ab (Aa Ac rfl (qm rfl (qm rfl (MR rfl (by decide) (Iu rfl ?_)))))))))))))))))))))))))))))))))))))))
 refine AY rfl (qa rfl (Ad ?_))
 refine AO h (fun v1 => mk [(11, .e (.one (.ptr 11 0))), (13, .e (.one (.pure (.val (.int .i64 v1.2)))))] [(11, .box [.pure (.val (.int .i64 v1.1))])]) (fun j1 h => ?_) (fun v1 h => ?_)
 ·refine Ab (Aa Ac rfl (qm rfl (Dx rfl (Ad ?_))))
  refine Ap rfl (fun c2 => ?_) (fun c2 => ?_)
  ·have h := Am c2 h
   refine AO h (fun v3 => mk [(0, .e (.one (.pure (.sl (p0.map Af))))), (3, .e (.one (.clo (B0 (EB true Af true Af) CR p3)))), (11, .e (.one (.ptr 11 0))), (12, .e (.one (.pure (.val (.int .i64 v3.2.1))))), (13, .e (.one (.pure (.val (.int .i64 v3.2.2.1))))), (14, .e (.one (.pure (.val (.int .i64 v3.2.2.2)))))] [(11, .box [.pure (.val (.int .i64 v3.1))])]) (fun j3 h => ?_) (fun v3 h => ?_)
   ·refine Ab (Aa Ac rfl (qm rfl (Dx rfl (Ad ?_))))
    refine Ap rfl (fun c4 => ?_) (fun c4 => ?_)
    ·have h := Am c4 h
     refine Ab (Aa Ac rfl (qm rfl (qm rfl (qm rfl ?_))))
     obtain ⟨v5, a5, h⟩ := bind_some h
     refine Dg (ds0 := [_, _, _, _]) [11] [] [true] (C4 N p0 ((IntKind.wrap .i64 (p1 + (IntKind.wrap .i64 ((IntKind.wrap .i64 (Int.tdiv ((IntKind.wrap .i64 (p2 - p1))) 4)) * 1))))) 0 p3 v5 a5) (.p rfl) R9 rfl ⟨rfl, rfl, rfl, rfl, trivial⟩ rfl rfl (by decide) ⟨rfl, trivial⟩ rfl (Bi rfl) trivial ⟨(fun h => by cases h), trivial⟩ rfl rfl rfl ?_
     refine qa rfl (Ad (Ab (Aa Ac rfl (qm rfl (qm rfl (qm rfl ?_))))))
     obtain ⟨v6, a6, h⟩ := bind_some h
     refine Dg (ds0 := [_, _, _, _]) [11] [] [true] (C4 N p0 ((IntKind.wrap .i64 (p1 + (IntKind.wrap .i64 ((IntKind.wrap .i64 (Int.tdiv ((IntKind.wrap .i64 (p2 - p1))) 4)) * 2))))) v5.2 p3 v6 a6) (.p rfl) R9 rfl ⟨rfl, rfl, rfl, rfl, trivial⟩ rfl rfl (by decide) ⟨rfl, trivial⟩ rfl (Bi rfl) trivial ⟨(fun h => by cases h), trivial⟩ rfl rfl rfl ?_
     refine qa rfl (Ad (Aa Ac rfl (qm rfl (qm rfl (qm rfl ?_)))))
     obtain ⟨v7, a7, h⟩ := bind_some h
     refine Dg (ds0 := [_, _, _, _]) [11] [] [true] (C4 N p0 ((IntKind.wrap .i64 (p1 + (IntKind.wrap .i64 ((IntKind.wrap .i64 (Int.tdiv ((IntKind.wrap .i64 (p2 - p1))) 4)) * 3))))) v6.2 p3 v7 a7) (.p rfl) R9 rfl ⟨rfl, rfl, rfl, rfl, trivial⟩ rfl rfl (by decide) ⟨rfl, trivial⟩ rfl (Bi rfl) trivial ⟨(fun h => by cases h), trivial⟩ rfl rfl rfl ?_
     refine qa rfl (Ad ?_)
     exact Au _ h (sm [] _ _ rfl rfl)
    ·have h := An c4 h
     refine Ar ?_
     exact Au _ h (sm [] _ _ rfl rfl)
   ·refine Aa Ac rfl (qm rfl (qm rfl (qm rfl (qm rfl (qm rfl ?_)))))
    obtain ⟨v8, a8, h⟩ := bind_some h
    refine Dg (ds0 := [_, _, _, _, _, _]) [11] [] [true] (Ff N p0 v3.2.1 v3.2.2.1 v3.2.2.2 v3.1 p3 v8 a8) (.p rfl) T9 rfl ⟨rfl, rfl, rfl, rfl, rfl, rfl, trivial⟩ rfl rfl (by decide) ⟨rfl, trivial⟩ rfl (Bi rfl) trivial ⟨(fun h => by cases h), trivial⟩ rfl rfl rfl ?_
    refine qa rfl (Ad ?_)
    exact Au _ h (sm [] _ _ rfl rfl)
  ·have h := An c2 h
   refine Ar ?_
   exact Au _ h (sm [] _ _ rfl rfl)
 ·refine Ab (Aa Ac rfl (ql Cz rfl (Ad (AN (Ab (Aa Ac rfl (BK rfl (qa rfl (Ad ?_)))))))))
  refine Ap rfl (fun c9 => ?_) (fun c9 => ?_)
  ·have h := Am c9 h
   refine Ab (Aa Ac rfl (qm rfl (qa rfl (qa rfl (Ad ?_)))))
   obtain rfl := sj h
   refine Al (sm [] [(8, .e (.one (.pure (.val (.int .i64 v1.2))))), (9, .e (.one (.pure (.val (.int .i64 1)))))] [] rfl rfl) (Az ?_)
   exact ⟨⟨[_, _], ⟨.tmp _ _ rfl, ⟨.tmp _ _ rfl, trivial⟩⟩, rfl⟩, trivial⟩
  ·have h := An c9 h
   refine Ab (Aa Ac rfl (BK rfl (qa rfl (Ad ?_))))
   refine Ap rfl (fun c10 => ?_) (fun c10 => ?_)
   ·have h := Am c10 h
    refine Ab (Aa Ac rfl (qm rfl (qa rfl (qa rfl (Ad ?_)))))
    obtain rfl := sj h
    refine Al (sm [] [(8, .e (.one (.pure (.val (.int .i64 v1.2))))), (9, .e (.one (.pure (.val (.int .i64 2)))))] [] rfl rfl) (Az ?_)
    exact ⟨⟨[_, _], ⟨.tmp _ _ rfl, ⟨.tmp _ _ rfl, trivial⟩⟩, rfl⟩, trivial⟩
   ·have h := An c10 h
    refine Ab (Aa Ac rfl (qm rfl (qa rfl (qa rfl (Ad ?_)))))
    obtain rfl := sj h
    refine Al (sm [] [(8, .e (.one (.pure (.val (.int .i64 v1.2))))), (9, .e (.one (.pure (.val (.int .i64 0)))))] [] rfl rfl) (Az ?_)
    exact ⟨⟨[_, _], ⟨.tmp _ _ rfl, ⟨.tmp _ _ rfl, trivial⟩⟩, rfl⟩, trivial⟩
set_option maxRecDepth 10000 in
theorem Gi (N : Nat) (p0 : List Ae) (p1 : Int) (p2 : Int) (p3 : (Ae × Ae) → Option Int) (r : (List Ae)) (h : C9 N p0 p1 p2 p3 = some r) : BI Tryz.prog 85 [.e (.one (.own 90000)), .e (.one (.pure (.val (.int .i64 p1)))), .e (.one (.pure (.val (.int .i64 p2)))), .e (.one (.clo (B0 (EB true Af true Af) CR p3)))] [(.vec 3 (p0.map Af), .vec 3 (r.map Af))] [] (.tup []) := by
 unfold C9 at h
 refine Bx (n := 34) (rs := []) Tryz.func85 rfl rfl rfl (A5 rfl) (A5 rfl) rfl rfl (A5 rfl) rfl (A5 rfl) fun w0 S0 GL => Nb ?_
 refine Al (sm [] [(0, .e (.one (.own 90000))), (1, .e (.one (.pure (.val (.int .i64 p1))))), (2, .e (.one (.pure (.val (.int .i64 p2))))), (3, .e (.one (.clo (B0 (EB true Af true Af) CR p3))))] [(90000, .vec 3 (p0.map Af))] rfl rfl) (Ab (Aa Ac rfl (qm rfl (qa rfl (Ad (Ab (Aa Ac rfl (qm rfl (CQ rfl (qa rfl (Ad ?_)))))))))))
 refine AJ (L := B6 N) h (fun v1 => mk [(0, .e (.one (.own 90000))), (8, .e (.one (.pure (.val (.int .i64 v1.2.1))))), (9, .e (.one (.pure (.val (.int .i64 v1.2.2)))))] [(90000, .vec 3 (v1.1.map Af))]) (fun v2 => mk [] [(90000, .vec 3 (v2.map Af))]) (fun _ _ => rfl) (sm [] _ _ rfl rfl) (fun j1 n1 v1 h => ?_) (fun v2 s h hs => ?_)
 ·unfold B6 at h
  refine Ab (Ab (Aa Ac rfl (qm rfl (qm rfl (A2 rfl (Ad ?_))))))
  refine Ap rfl (fun c3 => ?_) (fun c3 => ?_)
  ·have h := Am c3 h
   refine Ar (AN (Ab (Aa Ac rfl (qm rfl (qm rfl (qm rfl (qm rfl (qm rfl (qm rfl ?_)))))))))
   obtain ⟨v4, a4, b4, h⟩ := Aj h
   refine qI AP Ax a4 (Ah b4) rfl (qJ A1 Ax (Ah b4) rfl (qm rfl (qm rfl ?_)))
   obtain ⟨v5, a5, b5, h⟩ := Aj h
   refine qI AP Ax a5 (Ah b5) rfl (qJ A1 Ax (Ah b5) rfl ?_)
   obtain ⟨v6, a6, b6, h⟩ := Aj h
   refine qI AP Ax a6 (Ah b6) rfl ?_
   refine A7 rfl rfl rfl rfl (Ah b6) rfl Ax rfl (A5 rfl) (A8 Af v1.1 _ v4) ?_
   obtain ⟨v7, a7, b7, h⟩ := Aj h
   refine qI AP Ax a7 (Ah b7) rfl ?_
   refine A7 rfl rfl rfl rfl (Ah b7) rfl Ax rfl (A5 rfl) (A8 Af (v1.1.set ((v1.2.1).toNat) v4) _ v5) ?_
   refine AM (by kernel_rfl) (Ab (Aa Ac rfl (qm rfl (AY rfl (qa rfl (Ad (Aa Ac rfl (qm rfl (CQ rfl (qa rfl (Ad ?_)))))))))))
   exact Au _ h (sm [] _ _ rfl rfl)
  ·have h := An c3 h
   refine AX ?_
   exact Au _ h (sm [] _ _ rfl rfl)
 ·obtain rfl := sj h
  refine ⟨_, hs.trans (sm [] [] [(90000, .vec 3 (v2.map Af))] rfl rfl), ?_⟩
  exact ⟨⟨[], trivial, rfl⟩, ⟨rfl, trivial⟩, trivial⟩
set_option maxRecDepth 10000 in
theorem Fh (N : Nat) (p0 : List Ae) (p1 : Int) (p2 : Int) (p3 : (Ae × Ae) → Option Int) (r : Bool × (List Ae)) (h : Cy N p0 p1 p2 p3 = some r) : BI Tryz.prog 86 [.e (.one (.own 90000)), .e (.one (.pure (.val (.int .i64 p1)))), .e (.one (.pure (.val (.int .i64 p2)))), .e (.one (.clo (B0 (EB true Af true Af) CR p3)))] [(.vec 3 (p0.map Af), .vec 3 (r.2.map Af))] [] (.e (.one (.pure (.val (.bool r.1))))) := by
 unfold Cy at h
 refine Bx (n := 141) (rs := [.tmp 8]) Tryz.func86 rfl rfl rfl (A5 rfl) (A5 rfl) rfl rfl (A5 rfl) rfl (A5 rfl) fun w0 S0 GL => ?_
 refine Al (sm [] [(0, .e (.one (.own 90000))), (1, .e (.one (.pure (.val (.int .i64 p1))))), (2, .e (.one (.pure (.val (.int .i64 p2))))), (3, .e (.one (.clo (B0 (EB true Af true Af) CR p3))))] [(90000, .vec 3 (p0.map Af))] rfl rfl) (Ab (Aa Ac rfl (qa rfl (Ad (Ab (Aa Ac rfl (qm rfl (AY rfl (qa rfl (Ad (Ab (Ab (Aa Ac rfl (qa rfl (Ad ?_)))))))))))))))
 refine AJ (L := Bv N p1 p2 p3) h (fun v1 => mk [(0, .e (.one (.own 90000))), (1, .e (.one (.pure (.val (.int .i64 p1))))), (2, .e (.one (.pure (.val (.int .i64 p2))))), (3, .e (.one (.clo (B0 (EB true Af true Af) CR p3)))), (9, .e (.one (.pure (.val (.int .i64 v1.2.1))))), (10, .e (.one (.pure (.val (.int .i64 v1.2.2)))))] [(90000, .vec 3 (v1.1.map Af))]) (fun v2 => mk [] [(90000, .vec 3 (v2.map Af))]) (fun _ _ => rfl) (sm [] _ _ rfl rfl) (fun j1 n1 v1 h => ?_) (fun v2 s h hs => ?_)
 ·unfold Bv at h
  refine Ab (Ab (Aa Ac rfl (qm rfl (A2 rfl (Ad ?_)))))
  refine Ap rfl (fun c3 => ?_) (fun c3 => ?_)
  ·have h := Am c3 h
   refine Ar ?_
   refine AO h (fun v4 => mk [(0, .e (.one (.own 90000))), (1, .e (.one (.pure (.val (.int .i64 p1))))), (2, .e (.one (.pure (.val (.int .i64 p2))))), (3, .e (.one (.clo (B0 (EB true Af true Af) CR p3)))), (9, .e (.one (.pure (.val (.int .i64 v4.2))))), (10, .e (.one (.pure (.val (.int .i64 v1.2.2)))))] [(90000, .vec 3 (v4.1.map Af))]) (fun j4 h => ?_) (fun v4 h => ?_)
   ·refine AN (Ab ?_)
    refine AJ (L := Bt N p2 p3 v1) h (fun v5 => mk [(0, .e (.one (.own 90000))), (1, .e (.one (.pure (.val (.int .i64 p1))))), (2, .e (.one (.pure (.val (.int .i64 p2))))), (3, .e (.one (.clo (B0 (EB true Af true Af) CR p3)))), (9, .e (.one (.pure (.val (.int .i64 v5))))), (10, .e (.one (.pure (.val (.int .i64 v1.2.2)))))] [(90000, .vec 3 (v1.1.map Af))]) (fun v6 => mk [(0, .e (.one (.own 90000))), (1, .e (.one (.pure (.val (.int .i64 p1))))), (2, .e (.one (.pure (.val (.int .i64 p2))))), (3, .e (.one (.clo (B0 (EB true Af true Af) CR p3)))), (9, .e (.one (.pure (.val (.int .i64 v6))))), (10, .e (.one (.pure (.val (.int .i64 v1.2.2)))))] [(90000, .vec 3 (v1.1.map Af))]) (fun _ _ => rfl) (sm [] _ _ rfl rfl) (fun j5 n5 v5 h => ?_) (fun v6 s h hs => ?_)
    ·unfold Bt at h
     refine Ab ?_
     refine AO h (fun v7 => mk [(0, .e (.one (.own 90000))), (1, .e (.one (.pure (.val (.int .i64 p1))))), (2, .e (.one (.pure (.val (.int .i64 p2))))), (3, .e (.one (.clo (B0 (EB true Af true Af) CR p3)))), (9, .e (.one (.pure (.val (.int .i64 v5))))), (10, .e (.one (.pure (.val (.int .i64 v1.2.2))))), (36, .e (.one (.pure (.val (.bool v7)))))] [(90000, .vec 3 (v1.1.map Af))]) (fun j7 h => ?_) (fun v7 h => ?_)
     ·refine Aa Ac rfl (qm rfl (qm rfl (A2 rfl (qm rfl ?_))))
      refine AE (t := 22) rfl (fun c8 => ?_) (fun c8 => ?_)
      ·have h := Am c8 h
       refine qm rfl (qm rfl (qm rfl ?_))
       obtain ⟨v9, a9, b9, h⟩ := Aj h
       refine qI AP Ax a9 (Ah b9) rfl (qJ A1 Ax (Ah b9) rfl (qm rfl (qm rfl (CQ rfl ?_))))
       obtain ⟨v10, a10, b10, h⟩ := Aj h
       refine qI AP Ax a10 (Ah b10) rfl (qJ A1 Ax (Ah b10) rfl ?_)
       obtain ⟨v11, a11, h⟩ := bind_some h
       refine EE (ds0 := [_, _]) (ar := (EB true Af true Af) ((v9, v10))) (.g rfl rfl) rfl rfl ⟨rfl, rfl, trivial⟩ rfl rfl rfl (ED (Fb _ _ _ _ Br Br) a11) ?_
       refine A2 rfl (Cp rfl (qp rfl (AM (by kernel_rfl) ?_)))
       exact Au _ h (sm [] _ _ rfl rfl)
      ·have h := An c8 h
       refine qn rfl (qn rfl (qn rfl (qn rfl (qn rfl (qn rfl (qn rfl (qn rfl (qn rfl (qn rfl (qn rfl (qn rfl (qn rfl (qp rfl (AM (by kernel_rfl) ?_))))))))))))))
       exact Au _ h (sm [] _ _ rfl rfl)
     ·refine Ap rfl (fun c12 => ?_) (fun c12 => ?_)
      ·have h := Am c12 h
       refine Ar (AN (Aa Ac rfl (qm rfl (AY rfl (qa rfl (Ad ?_))))))
       exact Au _ h (sm [] _ _ rfl rfl)
      ·have h := An c12 h
       refine AX ?_
       exact Au _ h (sm [] _ _ rfl rfl)
    ·refine Al hs (Ab (Ab (Aa Ac rfl (qm rfl (qm rfl (BK rfl (Ad ?_)))))))
     refine Ap rfl (fun c13 => ?_) (fun c13 => ?_)
     ·have h := Am c13 h
      refine Ab (Aa Ac rfl (qa rfl (Ad ?_)))
      obtain rfl := sj h
      refine Al (sm [] [(8, .e (.one (.pure (.val (.bool true)))))] [(90000, .vec 3 (v1.1.map Af))] rfl rfl) (Az ?_)
      exact ⟨⟨[_], ⟨.tmp _ _ rfl, trivial⟩, rfl⟩, ⟨rfl, trivial⟩, trivial⟩
     ·have h := An c13 h
      refine Ar (Ab (Ab (Aa Ac rfl (qm rfl (qm rfl (CQ rfl (A2 rfl (Ad ?_))))))))
      refine Ap rfl (fun c14 => ?_) (fun c14 => ?_)
      ·have h := Am c14 h
       refine Ab (Aa Ac rfl (qa rfl (Ad ?_)))
       obtain rfl := sj h
       refine Al (sm [] [(8, .e (.one (.pure (.val (.bool false)))))] [(90000, .vec 3 (v1.1.map Af))] rfl rfl) (Az ?_)
       exact ⟨⟨[_], ⟨.tmp _ _ rfl, trivial⟩, rfl⟩, ⟨rfl, trivial⟩, trivial⟩
      ·have h := An c14 h
       refine Ar (Ab (Aa Ac rfl (qm rfl (qm rfl (qm rfl (qm rfl (CQ rfl (qm rfl (qm rfl (CQ rfl ?_))))))))))
       obtain ⟨v15, a15, b15, h⟩ := Aj h
       refine qI AP Ax a15 (Ah b15) rfl (qJ A1 Ax (Ah b15) rfl (qm rfl (qm rfl ?_)))
       obtain ⟨v16, a16, b16, h⟩ := Aj h
       refine qI AP Ax a16 (Ah b16) rfl (qJ A1 Ax (Ah b16) rfl ?_)
       obtain ⟨v17, a17, b17, h⟩ := Aj h
       refine qI AP Ax a17 (Ah b17) rfl ?_
       refine A7 rfl rfl rfl rfl (Ah b17) rfl Ax rfl (A5 rfl) (A8 Af v1.1 _ v15) ?_
       obtain ⟨v18, a18, b18, h⟩ := Aj h
       refine qI AP Ax a18 (Ah b18) rfl ?_
       refine A7 rfl rfl rfl rfl (Ah b18) rfl Ax rfl (A5 rfl) (A8 Af (v1.1.set ((v6).toNat) v15) _ v16) ?_
       refine AM (by kernel_rfl) ?_
       refine AO h (fun v19 => mk [(0, .e (.one (.own 90000))), (1, .e (.one (.pure (.val (.int .i64 p1))))), (2, .e (.one (.pure (.val (.int .i64 p2))))), (3, .e (.one (.clo (B0 (EB true Af true Af) CR p3)))), (9, .e (.one (.pure (.val (.int .i64 v6))))), (10, .e (.one (.pure (.val (.int .i64 v1.2.2)))))] [(90000, .vec 3 (v19.map Af))]) (fun j19 h => ?_) (fun v19 h => ?_)
       ·refine Ab (Aa Ac rfl (qm rfl (qm rfl (CQ rfl (Dx rfl (Ad ?_))))))
        refine Ap rfl (fun c20 => ?_) (fun c20 => ?_)
        ·have h := Am c20 h
         refine Ab (Aa Ac rfl (qm rfl (CQ rfl (qa rfl (Ad ?_)))))
         refine AJ (L := Bo N p3) h (fun v21 => mk [(0, .e (.one (.own 90000))), (1, .e (.one (.pure (.val (.int .i64 p1))))), (2, .e (.one (.pure (.val (.int .i64 p2))))), (3, .e (.one (.clo (B0 (EB true Af true Af) CR p3)))), (9, .e (.one (.pure (.val (.int .i64 v6))))), (10, .e (.one (.pure (.val (.int .i64 v1.2.2))))), (11, .e (.one (.pure (.val (.int .i64 v21.2)))))] [(90000, .vec 3 (v21.1.map Af))]) (fun v22 => mk [(0, .e (.one (.own 90000))), (1, .e (.one (.pure (.val (.int .i64 p1))))), (2, .e (.one (.pure (.val (.int .i64 p2))))), (3, .e (.one (.clo (B0 (EB true Af true Af) CR p3)))), (9, .e (.one (.pure (.val (.int .i64 v6))))), (10, .e (.one (.pure (.val (.int .i64 v1.2.2)))))] [(90000, .vec 3 (v22.map Af))]) (fun _ _ => rfl) (sm [] _ _ rfl rfl) (fun j21 n21 v21 h => ?_) (fun v22 s h hs => ?_)
         ·unfold Bo at h
          refine Ab (Ab (Aa Ac rfl (qm rfl (Dx rfl (Ad ?_)))))
          refine Ap rfl (fun c23 => ?_) (fun c23 => ?_)
          ·have h := Am c23 h
           refine Ar (Ab (AN (Ab (Ab (Aa Ac rfl (qm rfl (qm rfl (qm rfl ?_))))))))
           obtain ⟨v24, a24, b24, h⟩ := Aj h
           refine qI AP Ax a24 (Ah b24) rfl (qJ A1 Ax (Ah b24) rfl (qm rfl (qm rfl (CQ rfl ?_))))
           obtain ⟨v25, a25, b25, h⟩ := Aj h
           refine qI AP Ax a25 (Ah b25) rfl (qJ A1 Ax (Ah b25) rfl ?_)
           obtain ⟨v26, a26, h⟩ := bind_some h
           refine EE (ds0 := [_, _]) (ar := (EB true Af true Af) ((v24, v25))) (.p rfl) rfl rfl ⟨rfl, rfl, trivial⟩ rfl rfl rfl (ED (Fb _ _ _ _ Br Br) a26) ?_
           refine A2 rfl (Cp rfl (AM (by kernel_rfl) ?_))
           refine Ap rfl (fun c27 => ?_) (fun c27 => ?_)
           ·have h := Am c27 h
            refine AX ?_
            exact Au _ h (sm [] _ _ rfl rfl)
           ·have h := An c27 h
            refine Ar (Aa Ac rfl (qm rfl (qm rfl (qm rfl (qm rfl (CQ rfl (qm rfl (qm rfl (CQ rfl ?_)))))))))
            obtain ⟨v28, a28, b28, h⟩ := Aj h
            refine qI AP Ax a28 (Ah b28) rfl (qJ A1 Ax (Ah b28) rfl (qm rfl (qm rfl ?_)))
            obtain ⟨v29, a29, b29, h⟩ := Aj h
            refine qI AP Ax a29 (Ah b29) rfl (qJ A1 Ax (Ah b29) rfl ?_)
            obtain ⟨v30, a30, b30, h⟩ := Aj h
            refine qI AP Ax a30 (Ah b30) rfl ?_
            refine A7 rfl rfl rfl rfl (Ah b30) rfl Ax rfl (A5 rfl) (A8 Af v21.1 _ v28) ?_
            obtain ⟨v31, a31, b31, h⟩ := Aj h
            refine qI AP Ax a31 (Ah b31) rfl ?_
            refine A7 rfl rfl rfl rfl (Ah b31) rfl Ax rfl (A5 rfl) (A8 Af (v21.1.set ((v21.2).toNat) v28) _ v29) ?_
            refine AM (by kernel_rfl) (Aa Ac rfl (qm rfl (CQ rfl (qa rfl (Ad ?_)))))
            exact Au _ h (sm [] _ _ rfl rfl)
          ·have h := An c23 h
           refine AX ?_
           exact Au _ h (sm [] _ _ rfl rfl)
         ·exact Au _ h (hs.trans (sm [] _ _ rfl rfl))
        ·have h := An c20 h
         refine Ar ?_
         exact Au _ h (sm [] _ _ rfl rfl)
       ·refine Ab (Aa Ac rfl (qm rfl (qm rfl (CQ rfl (Dx rfl (Ad ?_))))))
        refine Ap rfl (fun c32 => ?_) (fun c32 => ?_)
        ·have h := Am c32 h
         refine Ab (Aa Ac rfl (qm rfl (AY rfl (qa rfl (Ad ?_)))))
         refine AJ (L := Bn N p2 p3) h (fun v33 => mk [(0, .e (.one (.own 90000))), (1, .e (.one (.pure (.val (.int .i64 p1))))), (2, .e (.one (.pure (.val (.int .i64 p2))))), (3, .e (.one (.clo (B0 (EB true Af true Af) CR p3)))), (9, .e (.one (.pure (.val (.int .i64 v6))))), (10, .e (.one (.pure (.val (.int .i64 v1.2.2))))), (12, .e (.one (.pure (.val (.int .i64 v33.2)))))] [(90000, .vec 3 (v33.1.map Af))]) (fun v34 => mk [(0, .e (.one (.own 90000))), (1, .e (.one (.pure (.val (.int .i64 p1))))), (2, .e (.one (.pure (.val (.int .i64 p2))))), (3, .e (.one (.clo (B0 (EB true Af true Af) CR p3)))), (9, .e (.one (.pure (.val (.int .i64 v6))))), (10, .e (.one (.pure (.val (.int .i64 v1.2.2)))))] [(90000, .vec 3 (v34.map Af))]) (fun _ _ => rfl) (sm [] _ _ rfl rfl) (fun j33 n33 v33 h => ?_) (fun v34 s h hs => ?_)
         ·unfold Bn at h
          refine Ab (Ab (Aa Ac rfl (qm rfl (qm rfl (A2 rfl (Ad ?_))))))
          refine Ap rfl (fun c35 => ?_) (fun c35 => ?_)
          ·have h := Am c35 h
           refine Ar (Ab (AN (Ab (Ab (Aa Ac rfl (qm rfl (qm rfl (qm rfl ?_))))))))
           obtain ⟨v36, a36, b36, h⟩ := Aj h
           refine qI AP Ax a36 (Ah b36) rfl (qJ A1 Ax (Ah b36) rfl (qm rfl (qm rfl (CQ rfl ?_))))
           obtain ⟨v37, a37, b37, h⟩ := Aj h
           refine qI AP Ax a37 (Ah b37) rfl (qJ A1 Ax (Ah b37) rfl ?_)
           obtain ⟨v38, a38, h⟩ := bind_some h
           refine EE (ds0 := [_, _]) (ar := (EB true Af true Af) ((v36, v37))) (.p rfl) rfl rfl ⟨rfl, rfl, trivial⟩ rfl rfl rfl (ED (Fb _ _ _ _ Br Br) a38) ?_
           refine A2 rfl (Cp rfl (AM (by kernel_rfl) ?_))
           refine Ap rfl (fun c39 => ?_) (fun c39 => ?_)
           ·have h := Am c39 h
            refine AX ?_
            exact Au _ h (sm [] _ _ rfl rfl)
           ·have h := An c39 h
            refine Ar (Aa Ac rfl (qm rfl (qm rfl (qm rfl (qm rfl (CQ rfl (qm rfl (qm rfl (CQ rfl ?_)))))))))
            obtain ⟨v40, a40, b40, h⟩ := Aj h
            refine qI AP Ax a40 (Ah b40) rfl (qJ A1 Ax (Ah b40) rfl (qm rfl (qm rfl ?_)))
            obtain ⟨v41, a41, b41, h⟩ := Aj h
            refine qI AP Ax a41 (Ah b41) rfl (qJ A1 Ax (Ah b41) rfl ?_)
            obtain ⟨v42, a42, b42, h⟩ := Aj h
            refine qI AP Ax a42 (Ah b42) rfl ?_
            refine A7 rfl rfl rfl rfl (Ah b42) rfl Ax rfl (A5 rfl) (A8 Af v33.1 _ v40) ?_
            obtain ⟨v43, a43, b43, h⟩ := Aj h
            refine qI AP Ax a43 (Ah b43) rfl ?_
            refine A7 rfl rfl rfl rfl (Ah b43) rfl Ax rfl (A5 rfl) (A8 Af (v33.1.set ((v33.2).toNat) v40) _ v41) ?_
            refine AM (by kernel_rfl) (Aa Ac rfl (qm rfl (AY rfl (qa rfl (Ad ?_)))))
            exact Au _ h (sm [] _ _ rfl rfl)
          ·have h := An c35 h
           refine AX ?_
           exact Au _ h (sm [] _ _ rfl rfl)
         ·exact Au _ h (hs.trans (sm [] _ _ rfl rfl))
        ·have h := An c32 h
         refine Ar ?_
         exact Au _ h (sm [] _ _ rfl rfl)
   ·refine Aa Ac rfl (qm rfl (AY rfl (qa rfl (Ad ?_))))
    exact Au _ h (sm [] _ _ rfl rfl)
  ·have h := An c3 h
   refine AX ?_
   exact Au _ h (sm [] _ _ rfl rfl)
 ·refine Al hs (Ab (Aa Ac rfl (qa rfl (Ad ?_))))
  obtain rfl := sj h
  refine Al (sm [] [(8, .e (.one (.pure (.val (.bool false)))))] [(90000, .vec 3 (v2.map Af))] rfl rfl) (Az ?_)
  exact ⟨⟨[_], ⟨.tmp _ _ rfl, trivial⟩, rfl⟩, ⟨rfl, trivial⟩, trivial⟩
set_option maxRecDepth 10000 in
theorem FT (N : Nat) (p0 : List Ae) (p1 : Int) (p2 : Int) (p3 : Int) (p4 : (Ae × Ae) → Option Int) (r : Int × (List Ae)) (h : C1 N p0 p1 p2 p3 p4 = some r) : BI Tryz.prog 87 [.e (.one (.own 90000)), .e (.one (.pure (.val (.int .i64 p1)))), .e (.one (.pure (.val (.int .i64 p2)))), .e (.one (.pure (.val (.int .i64 p3)))), .e (.one (.clo (B0 (EB true Af true Af) CR p4)))] [(.vec 3 (p0.map Af), .vec 3 (r.2.map Af))] [] (.e (.one (.pure (.val (.int .i64 r.1))))) := by
 unfold C1 at h
 refine Bx (n := 90) (rs := [.tmp 10]) Tryz.func87 rfl rfl rfl (A5 rfl) (A5 rfl) rfl rfl (A5 rfl) rfl (A5 rfl) fun w0 S0 GL => ?_
 refine Al (sm [] [(0, .e (.one (.own 90000))), (1, .e (.one (.pure (.val (.int .i64 p1))))), (2, .e (.one (.pure (.val (.int .i64 p2))))), (3, .e (.one (.pure (.val (.int .i64 p3))))), (4, .e (.one (.clo (B0 (EB true Af true Af) CR p4))))] [(90000, .vec 3 (p0.map Af))] rfl rfl) (Ab (Aa Ac rfl (qa rfl (Ad (Ab (Aa Ac rfl (qm rfl (qm rfl (qm rfl (qm rfl (qm rfl (qm rfl ?_))))))))))))
 obtain ⟨v1, a1, b1, h⟩ := Aj h
 refine qI AP Ax a1 (Ah b1) rfl (qJ A1 Ax (Ah b1) rfl (qm rfl (qm rfl ?_)))
 obtain ⟨v2, a2, b2, h⟩ := Aj h
 refine qI AP Ax a2 (Ah b2) rfl (qJ A1 Ax (Ah b2) rfl ?_)
 obtain ⟨v3, a3, b3, h⟩ := Aj h
 refine qI AP Ax a3 (Ah b3) rfl ?_
 refine A7 rfl rfl rfl rfl (Ah b3) rfl Ax rfl (A5 rfl) (A8 Af p0 _ v1) ?_
 obtain ⟨v4, a4, b4, h⟩ := Aj h
 refine qI AP Ax a4 (Ah b4) rfl ?_
 refine A7 rfl rfl rfl rfl (Ah b4) rfl Ax rfl (A5 rfl) (A8 Af (p0.set ((p1).toNat) v1) _ v2) ?_
 refine AM (by kernel_rfl) (Ab (Aa Ac rfl (qm rfl (AY rfl (qm rfl (CQ rfl (qa rfl (qa rfl (Ad (Ab ?_))))))))))
 refine AJ (L := BR N p1 p4) h (fun v5 => mk [(0, .e (.one (.own 90000))), (1, .e (.one (.pure (.val (.int .i64 p1))))), (4, .e (.one (.clo (B0 (EB true Af true Af) CR p4)))), (11, .e (.one (.pure (.val (.int .i64 v5.2.1))))), (12, .e (.one (.pure (.val (.int .i64 v5.2.2)))))] [(90000, .vec 3 (v5.1.map Af))]) (fun v6 => mk [(11, .e (.one (.pure (.val (.int .i64 v6.2)))))] [(90000, .vec 3 (v6.1.map Af))]) (fun _ _ => rfl) (sm [] _ _ rfl rfl) (fun j5 n5 v5 h => ?_) (fun v6 s h hs => ?_)
 ·unfold BR at h
  refine AN (Ab ?_)
  refine AJ (L := BQ N p1 p4 v5) h (fun v7 => mk [(0, .e (.one (.own 90000))), (1, .e (.one (.pure (.val (.int .i64 p1))))), (4, .e (.one (.clo (B0 (EB true Af true Af) CR p4)))), (11, .e (.one (.pure (.val (.int .i64 v7))))), (12, .e (.one (.pure (.val (.int .i64 v5.2.2)))))] [(90000, .vec 3 (v5.1.map Af))]) (fun v8 => mk [(0, .e (.one (.own 90000))), (1, .e (.one (.pure (.val (.int .i64 p1))))), (4, .e (.one (.clo (B0 (EB true Af true Af) CR p4)))), (11, .e (.one (.pure (.val (.int .i64 v8))))), (12, .e (.one (.pure (.val (.int .i64 v5.2.2)))))] [(90000, .vec 3 (v5.1.map Af))]) (fun _ _ => rfl) (sm [] _ _ rfl rfl) (fun j7 n7 v7 h => ?_) (fun v8 s h hs => ?_)
  ·unfold BQ at h
   refine Ab ?_
   refine AO h (fun v9 => mk [(0, .e (.one (.own 90000))), (1, .e (.one (.pure (.val (.int .i64 p1))))), (4, .e (.one (.clo (B0 (EB true Af true Af) CR p4)))), (11, .e (.one (.pure (.val (.int .i64 v7))))), (12, .e (.one (.pure (.val (.int .i64 v5.2.2))))), (47, .e (.one (.pure (.val (.bool v9)))))] [(90000, .vec 3 (v5.1.map Af))]) (fun j9 h => ?_) (fun v9 h => ?_)
   ·refine Aa Ac rfl (qm rfl (qm rfl (Kg rfl (qm rfl ?_))))
    refine AE (t := 34) rfl (fun c10 => ?_) (fun c10 => ?_)
    ·have h := Am c10 h
     refine qm rfl (qm rfl (qm rfl ?_))
     obtain ⟨v11, a11, b11, h⟩ := Aj h
     refine qI AP Ax a11 (Ah b11) rfl (qJ A1 Ax (Ah b11) rfl (qm rfl (qm rfl ?_)))
     obtain ⟨v12, a12, b12, h⟩ := Aj h
     refine qI AP Ax a12 (Ah b12) rfl (qJ A1 Ax (Ah b12) rfl ?_)
     obtain ⟨v13, a13, h⟩ := bind_some h
     refine EE (ds0 := [_, _]) (ar := (EB true Af true Af) ((v11, v12))) (.g rfl rfl) rfl rfl ⟨rfl, rfl, trivial⟩ rfl rfl rfl (ED (Fb _ _ _ _ Br Br) a13) ?_
     refine A2 rfl (Cp rfl (qp rfl (AM (by kernel_rfl) ?_)))
     exact Au _ h (sm [] _ _ rfl rfl)
    ·have h := An c10 h
     refine qn rfl (qn rfl (qn rfl (qn rfl (qn rfl (qn rfl (qn rfl (qn rfl (qn rfl (qn rfl (qn rfl (qn rfl (qp rfl (AM (by kernel_rfl) ?_)))))))))))))
     exact Au _ h (sm [] _ _ rfl rfl)
   ·refine Ap rfl (fun c14 => ?_) (fun c14 => ?_)
    ·have h := Am c14 h
     refine Ar (AN (Aa Ac rfl (qm rfl (AY rfl (qa rfl (Ad ?_))))))
     exact Au _ h (sm [] _ _ rfl rfl)
    ·have h := An c14 h
     refine AX ?_
     exact Au _ h (sm [] _ _ rfl rfl)
  ·refine Al hs (Ab ?_)
   refine AJ (L := BN N p1 p4 v5 v8) h (fun v15 => mk [(0, .e (.one (.own 90000))), (1, .e (.one (.pure (.val (.int .i64 p1))))), (4, .e (.one (.clo (B0 (EB true Af true Af) CR p4)))), (11, .e (.one (.pure (.val (.int .i64 v8))))), (12, .e (.one (.pure (.val (.int .i64 v15)))))] [(90000, .vec 3 (v5.1.map Af))]) (fun v16 => mk [(0, .e (.one (.own 90000))), (1, .e (.one (.pure (.val (.int .i64 p1))))), (4, .e (.one (.clo (B0 (EB true Af true Af) CR p4)))), (11, .e (.one (.pure (.val (.int .i64 v8))))), (12, .e (.one (.pure (.val (.int .i64 v16)))))] [(90000, .vec 3 (v5.1.map Af))]) (fun _ _ => rfl) (sm [] _ _ rfl rfl) (fun j15 n15 v15 h => ?_) (fun v16 s h hs => ?_)
   ·unfold BN at h
    refine Ab ?_
    refine AO h (fun v17 => mk [(0, .e (.one (.own 90000))), (1, .e (.one (.pure (.val (.int .i64 p1))))), (4, .e (.one (.clo (B0 (EB true Af true Af) CR p4)))), (11, .e (.one (.pure (.val (.int .i64 v8))))), (12, .e (.one (.pure (.val (.int .i64 v15))))), (65, .e (.one (.pure (.val (.bool v17)))))] [(90000, .vec 3 (v5.1.map Af))]) (fun j17 h => ?_) (fun v17 h => ?_)
    ·refine Aa Ac rfl (qm rfl (qm rfl (Kg rfl (qm rfl ?_))))
     refine AE (t := 53) rfl (fun c18 => ?_) (fun c18 => ?_)
     ·have h := Am c18 h
      refine qm rfl (qm rfl (qm rfl ?_))
      obtain ⟨v19, a19, b19, h⟩ := Aj h
      refine qI AP Ax a19 (Ah b19) rfl (qJ A1 Ax (Ah b19) rfl (qm rfl (qm rfl ?_)))
      obtain ⟨v20, a20, b20, h⟩ := Aj h
      refine qI AP Ax a20 (Ah b20) rfl (qJ A1 Ax (Ah b20) rfl ?_)
      obtain ⟨v21, a21, h⟩ := bind_some h
      refine EE (ds0 := [_, _]) (ar := (EB true Af true Af) ((v19, v20))) (.g rfl rfl) rfl rfl ⟨rfl, rfl, trivial⟩ rfl rfl rfl (ED (Fb _ _ _ _ Br Br) a21) ?_
      refine A2 rfl (qp rfl (AM (by kernel_rfl) ?_))
      exact Au _ h (sm [] _ _ rfl rfl)
     ·have h := An c18 h
      refine qn rfl (qn rfl (qn rfl (qn rfl (qn rfl (qn rfl (qn rfl (qn rfl (qn rfl (qn rfl (qn rfl (qp rfl (AM (by kernel_rfl) ?_))))))))))))
      exact Au _ h (sm [] _ _ rfl rfl)
    ·refine Ap rfl (fun c22 => ?_) (fun c22 => ?_)
     ·have h := Am c22 h
      refine Ar (AN (Aa Ac rfl (qm rfl (CQ rfl (qa rfl (Ad ?_))))))
      exact Au _ h (sm [] _ _ rfl rfl)
     ·have h := An c22 h
      refine AX ?_
      exact Au _ h (sm [] _ _ rfl rfl)
   ·refine Al hs (Ab (Ab (Aa Ac rfl (qm rfl (qm rfl (Fw rfl (Ad ?_)))))))
    refine Ap rfl (fun c23 => ?_) (fun c23 => ?_)
    ·have h := Am c23 h
     refine AX ?_
     exact Au _ h (sm [] _ _ rfl rfl)
    ·have h := An c23 h
     refine Ar (Ab (Aa Ac rfl (qm rfl (qm rfl (qm rfl (qm rfl (qm rfl (qm rfl ?_))))))))
     obtain ⟨v24, a24, b24, h⟩ := Aj h
     refine qI AP Ax a24 (Ah b24) rfl (qJ A1 Ax (Ah b24) rfl (qm rfl (qm rfl ?_)))
     obtain ⟨v25, a25, b25, h⟩ := Aj h
     refine qI AP Ax a25 (Ah b25) rfl (qJ A1 Ax (Ah b25) rfl ?_)
     obtain ⟨v26, a26, b26, h⟩ := Aj h
     refine qI AP Ax a26 (Ah b26) rfl ?_
     refine A7 rfl rfl rfl rfl (Ah b26) rfl Ax rfl (A5 rfl) (A8 Af v5.1 _ v24) ?_
     obtain ⟨v27, a27, b27, h⟩ := Aj h
     refine qI AP Ax a27 (Ah b27) rfl ?_
     refine A7 rfl rfl rfl rfl (Ah b27) rfl Ax rfl (A5 rfl) (A8 Af (v5.1.set ((v8).toNat) v24) _ v25) ?_
     refine AM (by kernel_rfl) (Ab (Aa Ac rfl (qm rfl (AY rfl (qa rfl (Ad (Aa Ac rfl (qm rfl (CQ rfl (qa rfl (Ad ?_)))))))))))
     exact Au _ h (sm [] _ _ rfl rfl)
 ·refine Al hs (Ab (Aa Ac rfl (qm rfl (qa rfl (Ad ?_)))))
  obtain rfl := sj h
  refine Al (sm [] [(10, .e (.one (.pure (.val (.int .i64 v6.2)))))] [(90000, .vec 3 (v6.1.map Af))] rfl rfl) (Az ?_)
  exact ⟨⟨[_], ⟨.tmp _ _ rfl, trivial⟩, rfl⟩, ⟨rfl, trivial⟩, trivial⟩
end Go.Lift

