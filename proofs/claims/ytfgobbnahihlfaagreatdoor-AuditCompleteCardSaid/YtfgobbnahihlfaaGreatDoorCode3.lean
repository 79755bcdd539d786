/- Lemmas for AuditCompleteCardSaid, which YtfgobbnahihlfaaGreatDoorFinA8 proves. -/
import Derived.Test.YtfgobbnahihlfaaGreatDoorSh
import Derived.Test.YtfgobbnahihlfaaGreatDoorProg
import Derived.KernelRfl
open List renaming getElem?_map → zG, getElem_mem → yV, length_map → zY, map_eq_nil_iff → xB, replicate → zJ
open Nat renaming le_refl → yY, zero_add → zI, zero_le → zS
open Option renaming map → xU
open Go.Proofs.Tryz renaming prog → zA
namespace Go.Lift
open Go.RowKit
open Go.Proofs
abbrev CA (x : AL) : List C := [iC x.fa, iC x.fj, iC x.fA, .pure (.val (.bool x.fQ)), sC (x.fE.map (Lu eB)), sC (x.fy.map (Lu eB))]
abbrev Ak (x : Aa) : List C := [sC (x.fb.map As), sC (x.fk.map As), sC (x.fp.map As), sC (x.fe.map BG)]
abbrev BR (x : Al) : List C := [iC x.fa, iC x.fm, iC x.fq]
abbrev AO (x : Ab) : List C := [iC x.fi, iC x.fa, iC x.fv, iC x.fw, iC x.fC, iC x.fm, iC x.fu, iC x.fD, iC x.ft, iC x.fq, iC x.fN]
abbrev GQ (x : BZ) : List C := [sC (x.fc.fb.map As), sC (x.fc.fk.map As), sC (x.fc.fp.map As), sC (x.fc.fe.map BG), sC (x.fO.map As), sC (x.fr.map AN), sC (x.fM.map AD)]
abbrev Bi (x : Ae) : List C := [sC (x.fh.map As), sC (x.ff.map As), sC (x.fg.map Dq)]
abbrev AA (x : Ai) : List C := [sC (x.fc.fb.map As), sC (x.fc.fk.map As), sC (x.fc.fp.map As), sC (x.fc.fe.map BG), sC (x.fr.map AN), iC x.fi, iC x.fB, sC (x.fd.fh.map As), sC (x.fd.ff.map As), sC (x.fd.fg.map Dq)]
abbrev AM (x : Av) : List C := [iC x.fi, .pure (.val (.bool x.fJ)), .pure (.val (.bool x.fG)), sC (x.fd.fh.map As), sC (x.fd.ff.map As), sC (x.fd.fg.map Dq)]
theorem Ax : Tryz.prog.follows .mixedOrders = true := by kernel_rfl
theorem wq {X : GJ} {y : Code} {id : Nat} {ops : Array Oper} {dr : Bool} {Q : Exit → St → Prop} {st : St} {n : Nat} (hn : ops.size = n) (h : A7 zA X ops dr (fun st' => W zA X y Q st') n 0 st []) : W zA X (.seq (.region id ops dr) y) Q st := XQ Ax hn h
theorem wp {X : GJ} {y z : Code} {id : Nat} {ops : Array Oper} {dr : Bool} {Q : Exit → St → Prop} {st : St} {n : Nat} (hn : ops.size = n) (h : A7 zA X ops dr (fun st' => W zA X y (M0 (W zA X z Q) Q) st') n 0 st []) : W zA X (.seq (.seq (.region id ops dr) y) z) Q st := AS (XQ Ax hn h)
theorem Fd : Ef zA 110 false = true := by kernel_rfl
theorem Ey : Ef zA 112 true = true := by kernel_rfl
theorem Hu : Ef zA 113 false = true := by kernel_rfl
theorem JF : Ef zA 125 false = true := by kernel_rfl
theorem Uv : Ef zA 164 false = true := by kernel_rfl
theorem Hx : Ef zA 2 false = true := by kernel_rfl
theorem Bf : Ef zA 22 false = true := by kernel_rfl
theorem EU : Ef zA 23 false = true := by kernel_rfl
theorem Dg : Ef zA 25 true = true := by kernel_rfl
theorem Re : Ef zA 26 false = true := by kernel_rfl
theorem Vo : Ef zA 27 false = true := by kernel_rfl
theorem Xu : Ef zA 29 true = true := by kernel_rfl
theorem AX : Ef zA 3 false = true := by kernel_rfl
theorem E7 : Ef zA 37 true = true := by kernel_rfl
theorem G6 : Ef zA 38 false = true := by kernel_rfl
theorem Q2 : Ef zA 4 false = true := by kernel_rfl
theorem B1 : Ef zA 40 true = true := by kernel_rfl
theorem Iw : Ef zA 67 true = true := by kernel_rfl
theorem IA : Ef zA 73 true = true := by kernel_rfl
theorem XR : Ef zA 9 false = true := by kernel_rfl
theorem S1 : R2 zA 209 8 9 = true := by kernel_rfl
theorem XT : NA zA 4 = true := by kernel_rfl
theorem NK : Gu zA 113 1 = true := by kernel_rfl
theorem Ro : Gu zA 3 8 = true := by kernel_rfl
theorem V8 : Gu zA 37 88 = true := by kernel_rfl
theorem UE : Gu zA 40 72 = true := by kernel_rfl
theorem D1 : Bo zA 112 0 0 = true := by kernel_rfl
theorem Ce : Bo zA 112 1 1 = true := by kernel_rfl
theorem FV : Bo zA 112 2 2 = true := by kernel_rfl
theorem Pg : Bo zA 112 3 3 = true := by kernel_rfl
theorem GE : Bo zA 112 4 4 = true := by kernel_rfl
theorem D9 : Bo zA 112 5 5 = true := by kernel_rfl
theorem OO : Bo zA 166 0 0 = true := by kernel_rfl
theorem O6 : Bo zA 166 1 1 = true := by kernel_rfl
theorem OZ : Bo zA 166 2 2 = true := by kernel_rfl
theorem O0 : Bo zA 166 3 3 = true := by kernel_rfl
theorem BB : Bo zA 25 0 0 = true := by kernel_rfl
theorem FQ : Bo zA 25 1 1 = true := by kernel_rfl
theorem I9 : Bo zA 25 2 2 = true := by kernel_rfl
theorem BA : Bo zA 25 3 3 = true := by kernel_rfl
theorem NS : Bo zA 29 0 0 = true := by kernel_rfl
theorem Oa : Bo zA 29 1 4 = true := by kernel_rfl
theorem NI : Bo zA 29 2 5 = true := by kernel_rfl
theorem Oi : Bo zA 29 3 6 = true := by kernel_rfl
theorem G4 : Bo zA 37 0 0 = true := by kernel_rfl
theorem Ca : Bo zA 37 1 1 = true := by kernel_rfl
theorem Kn : Bo zA 37 10 10 = true := by kernel_rfl
theorem Fw : Bo zA 37 2 2 = true := by kernel_rfl
theorem Ft : Bo zA 37 3 3 = true := by kernel_rfl
theorem Gy : Bo zA 37 4 4 = true := by kernel_rfl
theorem Ja : Bo zA 37 5 5 = true := by kernel_rfl
theorem Ej : Bo zA 37 6 6 = true := by kernel_rfl
theorem HI : Bo zA 37 7 7 = true := by kernel_rfl
theorem Gw : Bo zA 37 8 8 = true := by kernel_rfl
theorem Ji : Bo zA 37 9 9 = true := by kernel_rfl
theorem C3 : Bo zA 40 0 0 = true := by kernel_rfl
theorem BU : Bo zA 40 1 1 = true := by kernel_rfl
theorem CI : Bo zA 40 2 2 = true := by kernel_rfl
theorem C5 : Bo zA 67 0 0 = true := by kernel_rfl
theorem DK : Bo zA 67 1 1 = true := by kernel_rfl
theorem Fv : Bo zA 67 2 2 = true := by kernel_rfl
theorem Jb : Bo zA 73 0 0 = true := by kernel_rfl
theorem Jd : Bo zA 73 1 1 = true := by kernel_rfl
theorem Lv : Bo zA 73 2 2 = true := by kernel_rfl
theorem Gx : Bo zA 73 3 3 = true := by kernel_rfl
theorem NF : Bo zA 81 0 0 = true := by kernel_rfl
theorem NZ : Bo zA 81 1 4 = true := by kernel_rfl
theorem Id : Bo zA 81 2 5 = true := by kernel_rfl
theorem HH : Bo zA 81 3 6 = true := by kernel_rfl
theorem Kr : Bo zA 81 4 7 = true := by kernel_rfl
theorem Wq : Ay zA 101 = true := by kernel_rfl
theorem Qq : Ay zA 102 = true := by kernel_rfl
theorem VK : Ay zA 103 = true := by kernel_rfl
theorem WQ : Ay zA 106 = true := by kernel_rfl
theorem WI : Ay zA 107 = true := by kernel_rfl
theorem WF : Ay zA 108 = true := by kernel_rfl
theorem WO : Ay zA 109 = true := by kernel_rfl
theorem VA : Ay zA 11 = true := by kernel_rfl
theorem Ws : Ay zA 110 = true := by kernel_rfl
theorem VO : Ay zA 111 = true := by kernel_rfl
theorem Wf : Ay zA 112 = true := by kernel_rfl
theorem Wy : Ay zA 113 = true := by kernel_rfl
theorem Vz : Ay zA 114 = true := by kernel_rfl
theorem So : Ay zA 115 = true := by kernel_rfl
theorem WG : Ay zA 116 = true := by kernel_rfl
theorem SR : Ay zA 117 = true := by kernel_rfl
theorem V1 : Ay zA 118 = true := by kernel_rfl
theorem Uq : Ay zA 119 = true := by kernel_rfl
theorem W4 : Ay zA 12 = true := by kernel_rfl
theorem Ud : Ay zA 120 = true := by kernel_rfl
theorem VH : Ay zA 121 = true := by kernel_rfl
theorem VD : Ay zA 122 = true := by kernel_rfl
theorem Wz : Ay zA 123 = true := by kernel_rfl
theorem UD : Ay zA 125 = true := by kernel_rfl
theorem VY : Ay zA 127 = true := by kernel_rfl
theorem VF : Ay zA 13 = true := by kernel_rfl
theorem XH : Ay zA 14 = true := by kernel_rfl
theorem UA : Ay zA 143 = true := by kernel_rfl
theorem WJ : Ay zA 144 = true := by kernel_rfl
theorem Up : Ay zA 145 = true := by kernel_rfl
theorem VZ : Ay zA 147 = true := by kernel_rfl
theorem VX : Ay zA 148 = true := by kernel_rfl
theorem SY : Ay zA 149 = true := by kernel_rfl
theorem Xw : Ay zA 15 = true := by kernel_rfl
theorem Wp : Ay zA 150 = true := by kernel_rfl
theorem Ui : Ay zA 151 = true := by kernel_rfl
theorem Ul : Ay zA 152 = true := by kernel_rfl
theorem Us : Ay zA 153 = true := by kernel_rfl
theorem UG : Ay zA 154 = true := by kernel_rfl
theorem Wn : Ay zA 155 = true := by kernel_rfl
theorem WL : Ay zA 156 = true := by kernel_rfl
theorem WW : Ay zA 157 = true := by kernel_rfl
theorem XI : Ay zA 16 = true := by kernel_rfl
theorem Wc : Ay zA 173 = true := by kernel_rfl
theorem WM : Ay zA 174 = true := by kernel_rfl
theorem V6 : Ay zA 175 = true := by kernel_rfl
theorem Wr : Ay zA 176 = true := by kernel_rfl
theorem VL : Ay zA 177 = true := by kernel_rfl
theorem VC : Ay zA 178 = true := by kernel_rfl
theorem VM : Ay zA 179 = true := by kernel_rfl
theorem V9 : Ay zA 180 = true := by kernel_rfl
theorem V4 : Ay zA 189 = true := by kernel_rfl
theorem Xe : Ay zA 19 = true := by kernel_rfl
theorem WP : Ay zA 190 = true := by kernel_rfl
theorem Wd : Ay zA 191 = true := by kernel_rfl
theorem V3 : Ay zA 192 = true := by kernel_rfl
theorem Wi : Ay zA 193 = true := by kernel_rfl
theorem Um : Ay zA 197 = true := by kernel_rfl
theorem VJ : Ay zA 198 = true := by kernel_rfl
theorem V5 : Ay zA 199 = true := by kernel_rfl
theorem WS : Ay zA 200 = true := by kernel_rfl
theorem Vy : Ay zA 22 = true := by kernel_rfl
theorem Xm : Ay zA 23 = true := by kernel_rfl
theorem Xi : Ay zA 24 = true := by kernel_rfl
theorem Xv : Ay zA 25 = true := by kernel_rfl
theorem XJ : Ay zA 33 = true := by kernel_rfl
theorem Xj : Ay zA 34 = true := by kernel_rfl
theorem VS : Ay zA 35 = true := by kernel_rfl
theorem Wj : Ay zA 36 = true := by kernel_rfl
theorem WD : Ay zA 37 = true := by kernel_rfl
theorem W5 : Ay zA 38 = true := by kernel_rfl
theorem XN : Ay zA 39 = true := by kernel_rfl
theorem W7 : Ay zA 40 = true := by kernel_rfl
theorem Xl : Ay zA 41 = true := by kernel_rfl
theorem UQ : Ay zA 43 = true := by kernel_rfl
theorem Xs : Ay zA 44 = true := by kernel_rfl
theorem XB : Ay zA 45 = true := by kernel_rfl
theorem XL : Ay zA 46 = true := by kernel_rfl
theorem Xy : Ay zA 47 = true := by kernel_rfl
theorem UI : Ay zA 55 = true := by kernel_rfl
theorem OL : Ay zA 56 = true := by kernel_rfl
theorem U4 : Ay zA 57 = true := by kernel_rfl
theorem Xk : Ay zA 58 = true := by kernel_rfl
theorem TV : Ay zA 59 = true := by kernel_rfl
theorem XK : Ay zA 62 = true := by kernel_rfl
theorem Xn : Ay zA 63 = true := by kernel_rfl
theorem Xo : Ay zA 64 = true := by kernel_rfl
theorem XE : Ay zA 66 = true := by kernel_rfl
theorem Xc : Ay zA 67 = true := by kernel_rfl
theorem Xd : Ay zA 70 = true := by kernel_rfl
theorem XD : Ay zA 71 = true := by kernel_rfl
theorem VN : Ay zA 72 = true := by kernel_rfl
theorem Xa : Ay zA 73 = true := by kernel_rfl
theorem VI : Ay zA 74 = true := by kernel_rfl
theorem UH : Ay zA 75 = true := by kernel_rfl
theorem Tm : Ay zA 76 = true := by kernel_rfl
theorem XA : Ay zA 77 = true := by kernel_rfl
theorem Vm : Ay zA 78 = true := by kernel_rfl
theorem UJ : Ay zA 79 = true := by kernel_rfl
theorem Tn : Ay zA 80 = true := by kernel_rfl
theorem VR : Ay zA 81 = true := by kernel_rfl
theorem Wm : Ay zA 82 = true := by kernel_rfl
theorem Xb : Ay zA 83 = true := by kernel_rfl
theorem XM : Ay zA 86 = true := by kernel_rfl
theorem XC : Ay zA 92 = true := by kernel_rfl
theorem UB : NY zA 214 .u64 = true := by kernel_rfl
theorem QR : NY zA 234 .u64 = true := by kernel_rfl
theorem QV : NY zA 242 .u32 = true := by kernel_rfl
theorem XP : NY zA 3 .i64 = true := by kernel_rfl
theorem VQ : Tryz.prog.underlying 3 = some (.int .i64) := by kernel_rfl
theorem P8 : Tryz.prog.underlying 164 = some (.map 3 3) := by kernel_rfl
theorem WA : Gz zA 166 = some [(0, 1), (1, 1), (2, 1), (3, 1)] := by kernel_rfl
theorem Xg : Gz zA 25 = some [(0, 1), (1, 1), (2, 1), (3, 1)] := by kernel_rfl
theorem RB : Gz zA 37 = some [(0, 1), (1, 1), (2, 1), (3, 1), (4, 1), (5, 1), (6, 1), (7, 1), (8, 1), (9, 1), (10, 1)] := by kernel_rfl
theorem G7 : Gz zA 40 = some [(0, 1), (1, 1), (2, 1)] := by kernel_rfl
theorem TD : Gz zA 67 = some [(0, 1), (1, 1), (2, 1)] := by kernel_rfl
theorem W9 : Gz zA 73 = some [(0, 1), (1, 1), (2, 1), (3, 3)] := by kernel_rfl
theorem WH : Gz zA 81 = some [(0, 4), (4, 1), (5, 1), (6, 1), (7, 3)] := by kernel_rfl
theorem Uo : S9 zA 37 = some [0, 0, 0, 0, 0, 0, 0, 0, 0, 0, 0] := by kernel_rfl
theorem D2 : sliceB zA 110 125 = true := by kernel_rfl
theorem HR : sliceB zA 125 4 = true := by kernel_rfl
theorem HJ : sliceB zA 135 40 = true := by kernel_rfl
theorem Cu : sliceB zA 167 2 = true := by kernel_rfl
theorem AB : sliceB zA 22 3 = true := by kernel_rfl
theorem CR : sliceB zA 23 112 = true := by kernel_rfl
theorem F4 : sliceB zA 26 67 = true := by kernel_rfl
theorem DV : sliceB zA 27 37 = true := by kernel_rfl
theorem DT : sliceB zA 38 113 = true := by kernel_rfl
theorem Ut : sliceB zA 89 9 = true := by kernel_rfl
theorem Uz : (Tryz.prog.underlying 214).isSome = true := by kernel_rfl
theorem R5 : (Tryz.prog.underlying 234).isSome = true := by kernel_rfl
theorem QX : (Tryz.prog.underlying 242).isSome = true := by kernel_rfl
theorem XO : (Tryz.prog.underlying 3).isSome = true := by kernel_rfl
theorem XU : (Tryz.prog.underlying 5).isSome = true := by kernel_rfl
theorem Ox : La zA 9 = true := by kernel_rfl
theorem BM : Gm zA 112 6 = true := by kernel_rfl
theorem DW : Gm zA 113 1 = true := by kernel_rfl
theorem JA : Gm zA 125 1 = true := by kernel_rfl
theorem IB : Gm zA 2 1 = true := by kernel_rfl
theorem Ww : Gm zA 209 8 = true := by kernel_rfl
theorem WT : Gm zA 22 1 = true := by kernel_rfl
theorem C8 : Gm zA 25 4 = true := by kernel_rfl
theorem XG : Gm zA 29 7 = true := by kernel_rfl
theorem CL : Gm zA 3 1 = true := by kernel_rfl
theorem CV : Gm zA 37 11 = true := by kernel_rfl
theorem Xp : Gm zA 38 1 = true := by kernel_rfl
theorem RH : Gm zA 4 1 = true := by kernel_rfl
theorem AV : Gm zA 40 3 = true := by kernel_rfl
theorem FR : Gm zA 67 3 = true := by kernel_rfl
theorem Fr : Gm zA 73 6 = true := by kernel_rfl
theorem W0 : Gm zA 9 1 = true := by kernel_rfl
theorem I6 : DH zA 112 = some (.agg #[.int .i64 0, .int .i64 0, .int .i64 0, .bool false, .slice none 0 0, .slice none 0 0]) := by kernel_rfl
theorem Ms : DH zA 113 = some (.int .u8 0) := by kernel_rfl
theorem VP : DH zA 166 = some (.agg #[.int .i64 0, .int .i64 0, .bool false, .map none]) := by kernel_rfl
theorem Ub : DH zA 2 = some (.int .i64 0) := by kernel_rfl
theorem Ux : DH zA 209 = some (.agg #[.string ⟨#[]⟩, .string ⟨#[]⟩, .string ⟨#[]⟩, .string ⟨#[]⟩, .string ⟨#[]⟩, .string ⟨#[]⟩, .string ⟨#[]⟩, .string ⟨#[]⟩]) := by kernel_rfl
theorem VW : DH zA 25 = some (.agg #[.slice none 0 0, .slice none 0 0, .slice none 0 0, .slice none 0 0]) := by kernel_rfl
theorem OC : DH zA 3 = some (.int .i64 0) := by kernel_rfl
theorem IF : DH zA 37 = some (.agg #[.int .i64 0, .int .i64 0, .int .i64 0, .int .i64 0, .int .i64 0, .int .i64 0, .int .i64 0, .int .i64 0, .int .i64 0, .int .i64 0, .int .i64 0]) := by kernel_rfl
theorem Do : DH zA 40 = some (.agg #[.slice none 0 0, .slice none 0 0, .slice none 0 0]) := by kernel_rfl
theorem Pz : DH zA 67 = some (.agg #[.int .i64 0, .int .i64 0, .int .i64 0]) := by kernel_rfl
theorem Ot : DH zA 73 = some (.agg #[.int .i64 0, .bool false, .bool false, .slice none 0 0, .slice none 0 0, .slice none 0 0]) := by kernel_rfl
theorem WE : DH zA 81 = some (.agg #[.slice none 0 0, .slice none 0 0, .slice none 0 0, .slice none 0 0, .slice none 0 0, .int .i64 0, .int .i64 0, .slice none 0 0, .slice none 0 0, .slice none 0 0]) := by kernel_rfl
theorem XY : DH zA 9 = some (.string ⟨#[]⟩) := by kernel_rfl
open IntKind renaming wrap → wI
set_option maxRecDepth 10000
theorem FT (N : Nat) (p0 : Int) (p1 : Int) (r : Bool) (h : Dc N p0 p1 = some r) : Ar zA 102 [iD p0, iD p1] [] (bD r) := by
 unfold Dc at h
 refine cw (n := 12) (rs := [.tmp 4]) Tryz.func102 fun w0 S0 => ?_
 refine wq rfl (qe rfl ?_)
 refine AI h (fun v1 => mk [(4, bD v1)] []) (fun j1 h => ?_) (fun v1 h => ?_)
 ·refine Aj Ax rfl (qm rfl (Da rfl (qm rfl ?_)))
  refine Cv 7 h rfl (fun h => ?_) fun h => ?_
  ·refine qw 2 rfl (A2 rfl (qp rfl (qe rfl ?_)))
   exact sn [] h
  ·refine qw 3 rfl (qp rfl (qe rfl ?_))
   exact sn [] h
 ·obtain rfl := sj h
  refine Af (sm [] [(4, bD v1)] [] rfl rfl) (Aq ?_)
  exact ⟨⟨[_], tm, rfl⟩, tv⟩
theorem NT (N : Nat) (p0 : Int) (p1 : Bool) (r : Bool) (h : Fk N p0 p1 = some r) : Ar zA 144 [iD p0, bD p1] [] (bD r) := by
 unfold Fk at h
 refine cw (n := 23) (rs := [.tmp 4]) Tryz.func144 fun w0 S0 => ?_
 refine wq rfl (qe rfl ?_)
 refine AI h (fun v1 => mk [(4, bD v1)] []) (fun j1 h => ?_) (fun v1 h => ?_)
 ·refine Aj Ax rfl (qm rfl (AP rfl (qm rfl ?_)))
  refine Cv 7 h rfl (fun h => ?_) fun h => ?_
  ·refine qw 2 rfl (qp rfl (qw 4 rfl (qu rfl (qu rfl (qw 2 rfl (qu rfl (qu rfl (qn rfl (qp rfl (qe rfl ?_))))))))))
   exact sn [] h
  ·refine qm rfl (AP rfl (qp rfl (qm rfl ?_)))
   refine Cv 11 h rfl (fun h => ?_) fun h => ?_
   ·refine qw 3 rfl (qu rfl (qu rfl (qw 2 rfl (qu rfl (qu rfl (qn rfl (qp rfl (qe rfl ?_))))))))
    exact sn [] h
   ·refine qm rfl (AP rfl (qm rfl ?_))
    refine Cv 14 h rfl (fun h => ?_) fun h => ?_
    ·refine qw 2 rfl (qp rfl (qw 2 rfl (Cb rfl (qp rfl (qp rfl (qe rfl ?_))))))
     exact sn [] h
    ·refine qm rfl (AP rfl (qp rfl (qm rfl ?_)))
     refine Cv 18 h rfl (fun h => ?_) fun h => ?_
     ·refine qm rfl (Cb rfl (qp rfl (qp rfl (qe rfl ?_))))
      exact sn [] h
     ·refine qw 2 rfl (qp rfl (qp rfl (qe rfl ?_)))
      exact sn [] h
 ·obtain rfl := sj h
  refine Af (sm [] [(4, bD v1)] [] rfl rfl) (Aq ?_)
  exact ⟨⟨[_], tm, rfl⟩, tv⟩
theorem KN (N : Nat) (p0 : List Bool) (p1 : Int) (r : Bool) (h : C1 N p0 p1 = some r) : Ar zA 174 [pD (.sl (p0.map eB)), oD (.rop [.val (.int .i64 p1)])] [] (bD r) := by
 unfold C1 at h
 refine cw (n := 8) (rs := [.tmp 3]) Tryz.func174 fun w0 S0 => ?_
 refine wq rfl (qa rfl (Ac (wq rfl (qm rfl (AH HR rfl (qk AX rfl (BE rfl (qe rfl ?_))))))))
 obtain rfl := sj h
 refine Af (sm [] [(3, bD (((p0.length : Int) != p1)))] [] rfl rfl) (Aq ?_)
 exact ⟨⟨[_], tm, rfl⟩, tv⟩
theorem GN (N : Nat) (p0 : List (List Bool)) (p1 : (List Bool) → Option Bool) (r : Int) (h : Cy N p0 p1 = some r) : Ar zA 189 [pD (.sl (p0.map (Lu eB))), oD (.clo (IK (M5 false (Lu eB)) tB p1))] [] (iD r) := by
 unfold Cy at h
 refine cw (n := 19) (rs := [.tmp 4]) Tryz.func189 fun w0 S0 => ?_
 refine wq rfl (qa rfl (Ac (wp rfl (qm rfl (AH D2 rfl (qm rfl (Ac ?_)))))))
 refine A5 (L := A6 N p0 p1) h (fun v1 => mk [(0, pD (.sl (p0.map (Lu eB)))), (1, oD (.clo (IK (M5 false (Lu eB)) tB p1))), (7, iD ((p0.length : Int))), (8, iD v1)] []) (fun v2 => mk [] []) (fun _ _ => rfl) (sm [] _ _ rfl rfl) (fun j1 n1 v1 h => ?_) (fun v2 s h hs => ?_)
 ·unfold A6 at h
  refine wq rfl (A2 rfl (Ac (AS ?_)))
  refine Bb h (fun h => ?_) fun h => ?_
  ·refine Ap (AS (AR (wq rfl (qm rfl (qa rfl (Ac (wq rfl (qw 3 rfl ?_))))))))
   refine BK h fun v4 a4 b4 h => qi D2 JA a4 (Ah b4) rfl (qk JF rfl ?_)
   refine B0 h fun v5 a5 h => LA (ds0 := [_]) (ar := (M5 false (Lu eB)) v4) (.p rfl) rfl rfl ⟨rfl, tv⟩ rfl rfl rfl (Lt (LD _ _ (V7 Xh)) a5) ?_
   refine Ac ?_
   refine Bb h (fun h => ?_) fun h => ?_
   ·refine wq rfl (qm rfl (qe rfl ?_))
    obtain rfl := sj h
    refine Af (sm [] [(4, iD v1)] [] rfl rfl) (Aq ?_)
    exact ⟨⟨[_], tm, rfl⟩, tv⟩
   ·refine Ap (Aj Ax rfl (Cl rfl (qm rfl (Ac ?_))))
    exact sn [] h
  ·refine BS ?_
   exact sn [] h
 ·refine Af hs (wq rfl (qe rfl ?_))
  obtain rfl := sj h
  refine Af (sm [] [(4, iD ((-1)))] [] rfl rfl) (Aq ?_)
  exact ⟨⟨[_], tm, rfl⟩, tv⟩
theorem Gj (N : Nat) (p0 : List (List Bool)) (p1 : (List Bool) → Option Bool) (r : Bool) (h : Cc N p0 p1 = some r) : Ar zA 173 [pD (.sl (p0.map (Lu eB))), oD (.clo (IK (M5 false (Lu eB)) tB p1))] [] (bD r) := by
 unfold Cc at h
 refine cw (n := 9) (rs := [.tmp 4]) Tryz.func173 fun w0 S0 => ?_
 refine wq rfl (qa rfl (Ac (wq rfl (qw 2 rfl ?_))))
 refine B0 h fun v1 a1 h => Aw [] (GN N p0 p1 v1 a1) V4 rfl (Da rfl (qe rfl ?_))
 obtain rfl := sj h
 refine Af (sm [] [(4, bD ((decide (0 ≤ v1))))] [] rfl rfl) (Aq ?_)
 exact ⟨⟨[_], tm, rfl⟩, tv⟩
theorem IS (N : Nat) (p0 : List (List Bool)) (p1 : Int) (p2 : Int) (r : Bool) (h : D7 N p0 p1 p2 = some r) : Ar zA 145 [pD (.sl (p0.map (Lu eB))), iD p1, iD p2] [] (bD r) := by
 unfold D7 at h
 refine cw (n := 17) (rs := [.tmp 6]) Tryz.func145 fun w0 S0 => ?_
 refine wq rfl (qb rfl (qe rfl ?_))
 refine AI h (fun v1 => mk [(6, bD v1)] []) (fun j1 h => ?_) (fun v1 h => ?_)
 ·refine Aj Ax rfl (qm rfl (AH D2 rfl (qm rfl (AP rfl (qm rfl ?_)))))
  refine Cv 11 h rfl (fun h => ?_) fun h => ?_
  ·refine qm rfl (FJ (IW 5 [.val (.int .i64 p2)] rfl rfl) ?_)
   refine PJ (capD := [_]) (IK (M5 false (Lu eB)) tB ((fun (x : List Bool) => C1 N x p2))) (.g rfl rfl) WM rfl ⟨rfl, tv⟩ rfl (fun ar t ht => by obtain ⟨x, r, rfl, hq, rfl⟩ := Jc ht; exact KN N x p2 r hq) ?_
   refine B0 h fun v3 a3 h => Aw [] (Gj N p0 ((fun (x : List Bool) => C1 N x p2)) v3 a3) Wc rfl (Cb rfl (qp rfl (qe rfl ?_)))
   exact sn [] h
  ·refine qw 4 rfl (qp rfl (qe rfl ?_))
   exact sn [] h
 ·obtain rfl := sj h
  refine Af (sm [] [(6, bD v1)] [] rfl rfl) (Aq ?_)
  exact ⟨⟨[_], tm, rfl⟩, tv⟩
theorem MK (N : Nat) (p0 : Aa) (p1 : AL) (r : Int) (h : E1 N p0 p1 = some r) : Ar zA 103 [.e (.agg (Ak p0)), .e (.agg (CA p1))] [] (iD r) := by
 unfold E1 at h
 refine cw (n := 87) (rs := [.tmp 4]) Tryz.func103 fun w0 S0 => ?_
 refine wq rfl (qb rfl (qb rfl (qa rfl (Ac (wp rfl (qf D1 rfl (ql AX rfl (qf Pg rfl (ql Q2 rfl ?_)))))))))
 refine B0 h fun v1 a1 h => Aw [] (NT N p1.fa p1.fQ v1 a1) WJ rfl (Cb rfl (Ac ?_))
 refine Bb h (fun h => ?_) fun h => ?_
 ·refine wq rfl (qe rfl ?_)
  obtain rfl := sj h
  refine Af (sm [] [(4, iD 1)] [] rfl rfl) (Aq ?_)
  exact ⟨⟨[_], tm, rfl⟩, tv⟩
 ·refine Ap (AS ?_)
  refine AI h (fun v3 => mk [(2, oD (.ptr 2 0)), (3, oD (.ptr 3 0)), (29, bD v3)] [(2, .box (Ak p0)), (3, .box (CA p1))]) (fun j3 h => ?_) (fun v3 h => ?_)
  ·refine Aj Ax rfl (qf Ce rfl (ql AX rfl (qf BB rfl (ql Bf rfl (AH AB rfl ?_)))))
   refine B0 h fun v4 a4 h => Aw [] (FT N p1.fj ((p0.fb.length : Int)) v4 a4) Qq rfl (Cb rfl (qm rfl ?_))
   refine Cv 21 h rfl (fun h => ?_) fun h => ?_
   ·refine qw 7 rfl (qp rfl (Ac ?_))
    exact sn [] h
   ·refine qf FV rfl (ql AX rfl (qf BB rfl (ql Bf rfl (AH AB rfl ?_))))
    refine B0 h fun v6 a6 h => Aw [] (FT N p1.fA ((p0.fb.length : Int)) v6 a6) Qq rfl (Cb rfl (qp rfl (Ac ?_)))
    exact sn [] h
  ·refine Bb h (fun h => ?_) fun h => ?_
   ·refine wq rfl (qe rfl ?_)
    obtain rfl := sj h
    refine Af (sm [] [(4, iD 4)] [] rfl rfl) (Aq ?_)
    exact ⟨⟨[_], tm, rfl⟩, tv⟩
   ·refine Ap (wq rfl (qf BB rfl (ql Bf rfl (qf Ce rfl (ql AX rfl ?_)))))
    refine BK h fun v8 a8 b8 h => qi AB CL a8 (Ah b8) rfl (qk AX rfl (qa rfl (Ac (wq rfl (qf D1 rfl (ql AX rfl (AP rfl (qa rfl (Ac (AS ?_))))))))))
    refine AI h (fun v9 => mk [(3, oD (.ptr 3 0)), (70, bD v9)] [(3, .box (CA p1))]) (fun j9 h => ?_) (fun v9 h => ?_)
    ·refine Aj Ax rfl (qf GE rfl (ql Fd rfl (qm rfl (qf BB rfl (ql Bf rfl (qf FV rfl (ql AX rfl ?_)))))))
     refine BK h fun v10 a10 b10 h => qi AB CL a10 (Ah b10) rfl (qk AX rfl ?_)
     refine B0 h fun v11 a11 h => Aw [] (IS N p1.fE v8 v10 v11 a11) Up rfl (Cb rfl (qm rfl ?_))
     refine Cv 50 h rfl (fun h => ?_) fun h => ?_
     ·refine qw 2 rfl (qu rfl (qu rfl (qu rfl (qu rfl (qu rfl (qu rfl (qn rfl (qp rfl (qw 4 rfl (qu rfl (qu rfl (qu rfl (qu rfl (qn rfl (qp rfl (AG (by kernel_rfl) ?_))))))))))))))))
      exact sn [] h
     ·refine qw 2 rfl ?_
      refine Cv 52 h rfl (fun h => ?_) fun h => ?_
      ·refine qf D9 rfl (ql Fd rfl (qw 2 rfl ?_))
       refine B0 h fun v14 a14 h => Aw [] (IS N p1.fy v8 v8 v14 a14) Up rfl (Cb rfl (qp rfl (qp rfl (qm rfl ?_))))
       refine Cv 61 h rfl (fun h => ?_) fun h => ?_
       ·refine qw 3 rfl (qu rfl (qu rfl (qu rfl (qu rfl (qn rfl (qp rfl (AG (by kernel_rfl) ?_)))))))
        exact sn [] h
       ·refine qm rfl (Cb rfl (qm rfl ?_))
        refine Cv 64 h rfl (fun h => ?_) fun h => ?_
        ·refine qf D9 rfl (ql Fd rfl (AH D2 rfl (Eh rfl (qp rfl (qp rfl (AG (by kernel_rfl) ?_))))))
         exact sn [] h
        ·refine qw 4 rfl (qp rfl (qp rfl (AG (by kernel_rfl) ?_)))
         exact sn [] h
      ·refine qw 6 rfl (qp rfl (qp rfl (qw 2 rfl (Cb rfl (qm rfl ?_)))))
       refine Cv 64 h rfl (fun h => ?_) fun h => ?_
       ·refine qf D9 rfl (ql Fd rfl (AH D2 rfl (Eh rfl (qp rfl (qp rfl (AG (by kernel_rfl) ?_))))))
        exact sn [] h
       ·refine qw 4 rfl (qp rfl (qp rfl (AG (by kernel_rfl) ?_)))
        exact sn [] h
    ·refine Bb h (fun h => ?_) fun h => ?_
     ·refine wq rfl (qe rfl ?_)
      obtain rfl := sj h
      refine Af (sm [] [(4, iD 6)] [] rfl rfl) (Aq ?_)
      exact ⟨⟨[_], tm, rfl⟩, tv⟩
     ·refine Ap (wp rfl (qf D9 rfl (ql Fd rfl (AH D2 rfl (qm rfl (Ac ?_))))))
      refine A5 (L := Co N p1) h (fun v19 => mk [(3, oD (.ptr 3 0)), (73, iD ((p1.fy.length : Int))), (74, iD v19)] [(3, .box (CA p1))]) (fun v20 => mk [] []) (fun _ _ => rfl) (sm [] _ _ rfl rfl) (fun j19 n19 v19 h => ?_) (fun v20 s h hs => ?_)
      ·unfold Co at h
       refine wq rfl (A2 rfl (Ac (AS ?_)))
       refine Bb h (fun h => ?_) fun h => ?_
       ·refine Ap (AS (AR (wq rfl (qm rfl (qa rfl (Ac (wq rfl (qf D9 rfl (ql Fd rfl (qm rfl ?_))))))))))
        refine BK h fun v22 a22 b22 h => qi D2 JA a22 (Ah b22) rfl (qk JF rfl (qm rfl ?_))
        refine BK h fun v23 a23 b23 h => qi HR RH a23 (Ah b23) rfl (qk Q2 rfl (Cb rfl (Ac ?_)))
        refine Bb h (fun h => ?_) fun h => ?_
        ·refine wq rfl (qe rfl ?_)
         obtain rfl := sj h
         refine Af (sm [] [(4, iD 1)] [] rfl rfl) (Aq ?_)
         exact ⟨⟨[_], tm, rfl⟩, tv⟩
        ·refine Ap (Aj Ax rfl (Cl rfl (qm rfl (Ac ?_))))
         exact sn [] h
       ·refine BS ?_
        exact sn [] h
      ·refine Af hs (wq rfl (qe rfl ?_))
       obtain rfl := sj h
       refine Af (sm [] [(4, iD 0)] [] rfl rfl) (Aq ?_)
       exact ⟨⟨[_], tm, rfl⟩, tv⟩
theorem Eb (N : Nat) (p0 : Aa) (r : Int) (h : BT N p0 = some r) : Ar zA 59 [.e (.agg (Ak p0))] [] (iD r) := by
 unfold BT at h
 refine cw (n := 81) (rs := [.tmp 2]) Tryz.func59 fun w0 S0 => ?_
 refine wq rfl (qb rfl (qa rfl (Ac (wq rfl (qf BB rfl (ql Bf rfl (AH AB rfl (qa rfl (Ac (AS ?_))))))))))
 refine AI h (fun v1 => mk [(1, oD (.ptr 1 0)), (3, iD ((p0.fb.length : Int))), (19, bD v1)] [(1, .box (Ak p0))]) (fun j1 h => ?_) (fun v1 h => ?_)
 ·refine Aj Ax rfl (qm rfl (Eh rfl (qm rfl ?_)))
  refine Cv 14 h rfl (fun h => ?_) fun h => ?_
  ·refine qw 4 rfl (qp rfl (Ac ?_))
   exact sn [] h
  ·refine qf BA rfl (ql EU rfl (AH CR rfl (Eh rfl (qp rfl (Ac ?_)))))
   exact sn [] h
 ·refine Bb h (fun h => ?_) fun h => ?_
  ·refine wq rfl (qe rfl ?_)
   obtain rfl := sj h
   refine Af (sm [] [(2, iD 3)] [] rfl rfl) (Aq ?_)
   exact ⟨⟨[_], tm, rfl⟩, tv⟩
  ·refine Ap (AS ?_)
   refine AI h (fun v4 => mk [(1, oD (.ptr 1 0)), (31, bD v4)] [(1, .box (Ak p0))]) (fun j4 h => ?_) (fun v4 h => ?_)
   ·refine Aj Ax rfl (qf FQ rfl (ql Bf rfl (AH AB rfl (qm rfl (BE rfl (qm rfl ?_))))))
    refine Cv 25 h rfl (fun h => ?_) fun h => ?_
    ·refine qw 5 rfl (qp rfl (Ac ?_))
     exact sn [] h
    ·refine qf I9 rfl (ql Bf rfl (AH AB rfl (qm rfl (BE rfl (qp rfl (Ac ?_))))))
     exact sn [] h
   ·refine Bb h (fun h => ?_) fun h => ?_
    ·refine wq rfl (qe rfl ?_)
     obtain rfl := sj h
     refine Af (sm [] [(2, iD 6)] [] rfl rfl) (Aq ?_)
     exact ⟨⟨[_], tm, rfl⟩, tv⟩
    ·refine Ap (wp rfl (qf BB rfl (ql Bf rfl (AH AB rfl (qm rfl (Ac ?_))))))
     refine A5 (L := Bt N p0) h (fun v7 => mk [(1, oD (.ptr 1 0)), (33, pD (.sl (p0.fb.map As))), (34, iD ((p0.fb.length : Int))), (35, iD v7)] [(1, .box (Ak p0))]) (fun v8 => mk [(1, oD (.ptr 1 0))] [(1, .box (Ak p0))]) (fun _ _ => rfl) (sm [] _ _ rfl rfl) (fun j7 n7 v7 h => ?_) (fun v8 s h hs => ?_)
     ·unfold Bt at h
      refine wq rfl (A2 rfl (Ac (AS ?_)))
      refine Bb h (fun h => ?_) fun h => ?_
      ·refine Ap (AS (AR (wq rfl (qm rfl ?_))))
       refine BK h fun v10 a10 b10 h => qi AB CL a10 (Ah b10) rfl (qk AX rfl (qa rfl (qe rfl ?_)))
       refine AI h (fun v11 => mk [(1, oD (.ptr 1 0)), (33, pD (.sl (p0.fb.map As))), (34, iD ((p0.fb.length : Int))), (35, iD v7), (65, bD v11)] [(1, .box (Ak p0))]) (fun j11 h => ?_) (fun v11 h => ?_)
       ·refine Aj Ax rfl (qm rfl (A2 rfl (qm rfl ?_)))
        refine Cv 42 h rfl (fun h => ?_) fun h => ?_
        ·refine qw 2 rfl (qp rfl (qw 9 rfl (qp rfl (qw 9 rfl (qp rfl (Ac ?_))))))
         exact sn [] h
        ·refine qm rfl (Eh rfl (qp rfl (qm rfl ?_)))
         refine Cv 46 h rfl (fun h => ?_) fun h => ?_
         ·refine qw 8 rfl (qp rfl (qw 9 rfl (qp rfl (Ac ?_))))
          exact sn [] h
         ·refine qf FQ rfl (ql Bf rfl (qm rfl ?_))
          refine BK h fun v14 a14 b14 h => qi AB CL a14 (Ah b14) rfl (qk AX rfl (qm rfl ?_))
          refine B0 h fun v15 a15 h => Aw [] (FT N v14 v10 v15 a15) Qq rfl (Cb rfl (qp rfl (qm rfl ?_)))
          refine Cv 56 h rfl (fun h => ?_) fun h => ?_
          ·refine qw 8 rfl (qp rfl (Ac ?_))
           exact sn [] h
          ·refine qf I9 rfl (ql Bf rfl (qm rfl ?_))
           refine BK h fun v17 a17 b17 h => qi AB CL a17 (Ah b17) rfl (qk AX rfl (qm rfl ?_))
           refine B0 h fun v18 a18 h => Aw [] (FT N v17 v10 v18 a18) Qq rfl (Cb rfl (qp rfl (Ac ?_)))
           exact sn [] h
       ·refine Bb h (fun h => ?_) fun h => ?_
        ·refine wq rfl (qe rfl ?_)
         obtain rfl := sj h
         refine Af (sm [] [(2, iD 7)] [] rfl rfl) (Aq ?_)
         exact ⟨⟨[_], tm, rfl⟩, tv⟩
        ·refine Ap (Aj Ax rfl (Cl rfl (qm rfl (Ac ?_))))
         exact sn [] h
      ·refine BS ?_
       exact sn [] h
     ·refine Af hs (wp rfl (qf BA rfl (ql EU rfl (AH CR rfl (qm rfl (Ac ?_))))))
      refine A5 (L := Bn N p0) h (fun v20 => mk [(1, oD (.ptr 1 0)), (68, pD (.sl (p0.fe.map BG))), (69, iD ((p0.fe.length : Int))), (70, iD v20)] [(1, .box (Ak p0))]) (fun v21 => mk [] []) (fun _ _ => rfl) (sm [] _ _ rfl rfl) (fun j20 n20 v20 h => ?_) (fun v21 s h hs => ?_)
      ·unfold Bn at h
       refine wq rfl (A2 rfl (Ac (AS ?_)))
       refine Bb h (fun h => ?_) fun h => ?_
       ·refine Ap (AS (AR (wq rfl ?_)))
        refine BK h fun v23 a23 b23 h => qi CR BM a23 (Ah b23) rfl (qK Ey BM rfl (qz I6 rfl (qs BM rfl (Ac (wq rfl (qL Dg C8 rfl (qL Ey BM rfl ?_)))))))
        refine B0 h fun v24 a24 h => Aw [] (MK N p0 v23 v24 a24) VK rfl (qa rfl (Ac (wq rfl (qm rfl (BE rfl (Ac ?_))))))
        refine Bb h (fun h => ?_) fun h => ?_
        ·refine wq rfl (qm rfl (qe rfl ?_))
         obtain rfl := sj h
         refine Af (sm [] [(2, iD v24)] [] rfl rfl) (Aq ?_)
         exact ⟨⟨[_], tm, rfl⟩, tv⟩
        ·refine Ap (Aj Ax rfl (Cl rfl (qm rfl (Ac ?_))))
         exact sn [] h
       ·refine BS ?_
        exact sn [] h
      ·refine Af hs (wq rfl (qe rfl ?_))
       obtain rfl := sj h
       refine Af (sm [] [(2, iD 0)] [] rfl rfl) (Aq ?_)
       exact ⟨⟨[_], tm, rfl⟩, tv⟩
theorem Hv (N : Nat) (p0 : List Int) (p1 : Int → Option Bool) (r : Int) (h : CY N p0 p1 = some r) : Ar zA 147 [pD (.sl (p0.map As)), oD (.clo (IK (M5 false As) tB p1))] [] (iD r) := by
 unfold CY at h
 refine cw (n := 19) (rs := [.tmp 4]) Tryz.func147 fun w0 S0 => ?_
 refine wq rfl (qa rfl (Ac (wp rfl (qm rfl (AH AB rfl (qm rfl (Ac ?_)))))))
 refine A5 (L := A3 N p0 p1) h (fun v1 => mk [(0, pD (.sl (p0.map As))), (1, oD (.clo (IK (M5 false As) tB p1))), (7, iD ((p0.length : Int))), (8, iD v1)] []) (fun v2 => mk [] []) (fun _ _ => rfl) (sm [] _ _ rfl rfl) (fun j1 n1 v1 h => ?_) (fun v2 s h hs => ?_)
 ·unfold A3 at h
  refine wq rfl (A2 rfl (Ac (AS ?_)))
  refine Bb h (fun h => ?_) fun h => ?_
  ·refine Ap (AS (AR (wq rfl (qm rfl (qa rfl (Ac (wq rfl (qw 3 rfl ?_))))))))
   refine BK h fun v4 a4 b4 h => qi AB CL a4 (Ah b4) rfl (qk AX rfl ?_)
   refine B0 h fun v5 a5 h => LA (ds0 := [_]) (ar := (M5 false As) v4) (.p rfl) rfl rfl ⟨rfl, tv⟩ rfl rfl rfl (Lt (LD _ _ SK) a5) ?_
   refine Ac ?_
   refine Bb h (fun h => ?_) fun h => ?_
   ·refine wq rfl (qm rfl (qe rfl ?_))
    obtain rfl := sj h
    refine Af (sm [] [(4, iD v1)] [] rfl rfl) (Aq ?_)
    exact ⟨⟨[_], tm, rfl⟩, tv⟩
   ·refine Ap (Aj Ax rfl (Cl rfl (qm rfl (Ac ?_))))
    exact sn [] h
  ·refine BS ?_
   exact sn [] h
 ·refine Af hs (wq rfl (qe rfl ?_))
  obtain rfl := sj h
  refine Af (sm [] [(4, iD ((-1)))] [] rfl rfl) (Aq ?_)
  exact ⟨⟨[_], tm, rfl⟩, tv⟩
theorem GD (N : Nat) (p0 : List Int) (p1 : Int → Option Bool) (r : Bool) (h : BY N p0 p1 = some r) : Ar zA 108 [pD (.sl (p0.map As)), oD (.clo (IK (M5 false As) tB p1))] [] (bD r) := by
 unfold BY at h
 refine cw (n := 9) (rs := [.tmp 4]) Tryz.func108 fun w0 S0 => ?_
 refine wq rfl (qa rfl (Ac (wq rfl (qw 2 rfl ?_))))
 refine B0 h fun v1 a1 h => Aw [] (Hv N p0 p1 v1 a1) VZ rfl (Da rfl (qe rfl ?_))
 obtain rfl := sj h
 refine Af (sm [] [(4, bD ((decide (0 ≤ v1))))] [] rfl rfl) (Aq ?_)
 exact ⟨⟨[_], tm, rfl⟩, tv⟩
theorem Kb (N : Nat) (p0 : Int) (r : Bool) (h : D3 N p0 = some r) : Ar zA 109 [iD p0] [] (bD r) := by
 unfold D3 at h
 refine cw (n := 9) (rs := [.tmp 2]) Tryz.func109 fun w0 S0 => ?_
 refine wq rfl (qe rfl ?_)
 refine AI h (fun v1 => mk [(2, bD v1)] []) (fun j1 h => ?_) (fun v1 h => ?_)
 ·refine Aj Ax rfl (qm rfl (A2 rfl (qm rfl ?_)))
  refine Cv 5 h rfl (fun h => ?_) fun h => ?_
  ·refine qw 2 rfl (qp rfl (qe rfl ?_))
   exact sn [] h
  ·refine qm rfl (Eh rfl (qp rfl (qe rfl ?_)))
   exact sn [] h
 ·obtain rfl := sj h
  refine Af (sm [] [(2, bD v1)] [] rfl rfl) (Aq ?_)
  exact ⟨⟨[_], tm, rfl⟩, tv⟩
theorem Ln (N : Nat) (p0 : Aa) (p1 : List Int) (r : Int) (h : Ev N p0 p1 = some r) : Ar zA 71 [.e (.agg (Ak p0)), pD (.sl (p1.map As))] [] (iD r) := by
 unfold Ev at h
 refine cw (n := 15) (rs := [.tmp 4]) Tryz.func71 fun w0 S0 => ?_
 refine wq rfl (qb rfl (qa rfl (Ac (AS (AR (wq rfl (qm rfl (AH AB rfl (qf BB rfl (ql Bf rfl (AH AB rfl (BE rfl (qe rfl ?_)))))))))))))
 refine Bb h (fun h => ?_) fun h => ?_
 ·refine wq rfl (qe rfl ?_)
  obtain rfl := sj h
  refine Af (sm [] [(4, iD 6)] [] rfl rfl) (Aq ?_)
  exact ⟨⟨[_], tm, rfl⟩, tv⟩
 ·refine wq rfl (qm rfl ?_)
  refine B0 h fun v2 a2 h => Aw [] (Ar.weak (ds' := [pD (.sl (p1.map As)), oD (.fnc 109)]) (GD N p1 ((fun (x : Int) => D3 N x)) v2 a2) ⟨(fun _ _ _ hh => hh), (fun _ _ _ hh => Om WO (fun ar t ht => by obtain ⟨x, r, rfl, hq, rfl⟩ := Jc ht; exact Kb N x r hq) hh), tv⟩) WF rfl ?_
  refine qa rfl (Ac ?_)
  refine Bb h (fun h => ?_) fun h => ?_
  ·refine wq rfl (qe rfl ?_)
   obtain rfl := sj h
   refine Af (sm [] [(4, iD 7)] [] rfl rfl) (Aq ?_)
   exact ⟨⟨[_], tm, rfl⟩, tv⟩
  ·refine Ap (wq rfl (qe rfl ?_))
   obtain rfl := sj h
   refine Af (sm [] [(4, iD 0)] [] rfl rfl) (Aq ?_)
   exact ⟨⟨[_], tm, rfl⟩, tv⟩
theorem Fh (N : Nat) (p0 : List Al) (p1 : Al → Option Bool) (r : Int) (h : Bl N p0 p1 = some r) : Ar zA 148 [pD (.sl (p0.map AN)), oD (.clo (IK (M5 true AN) tB p1))] [] (iD r) := by
 unfold Bl at h
 refine cw (n := 19) (rs := [.tmp 4]) Tryz.func148 fun w0 S0 => ?_
 refine wq rfl (qa rfl (Ac (wp rfl (qm rfl (AH F4 rfl (qm rfl (Ac ?_)))))))
 refine A5 (L := AQ N p0 p1) h (fun v1 => mk [(0, pD (.sl (p0.map AN))), (1, oD (.clo (IK (M5 true AN) tB p1))), (7, iD ((p0.length : Int))), (8, iD v1)] []) (fun v2 => mk [] []) (fun _ _ => rfl) (sm [] _ _ rfl rfl) (fun j1 n1 v1 h => ?_) (fun v2 s h hs => ?_)
 ·unfold AQ at h
  refine wq rfl (A2 rfl (Ac (AS ?_)))
  refine Bb h (fun h => ?_) fun h => ?_
  ·refine Ap (AS (AR (wq rfl (qm rfl (qa rfl (Ac (wq rfl (qw 3 rfl ?_))))))))
   refine BK h fun v4 a4 b4 h => qi F4 FR a4 (Ah b4) rfl (qK Iw FR rfl ?_)
   refine B0 h fun v5 a5 h => LA (ds0 := [_]) (ar := (M5 true AN) v4) (.p rfl) rfl rfl ⟨rfl, tv⟩ rfl rfl rfl (Lt (LD _ _ P5) a5) ?_
   refine Ac ?_
   refine Bb h (fun h => ?_) fun h => ?_
   ·refine wq rfl (qm rfl (qe rfl ?_))
    obtain rfl := sj h
    refine Af (sm [] [(4, iD v1)] [] rfl rfl) (Aq ?_)
    exact ⟨⟨[_], tm, rfl⟩, tv⟩
   ·refine Ap (Aj Ax rfl (Cl rfl (qm rfl (Ac ?_))))
    exact sn [] h
  ·refine BS ?_
   exact sn [] h
 ·refine Af hs (wq rfl (qe rfl ?_))
  obtain rfl := sj h
  refine Af (sm [] [(4, iD ((-1)))] [] rfl rfl) (Aq ?_)
  exact ⟨⟨[_], tm, rfl⟩, tv⟩
theorem E0 (N : Nat) (p0 : List Al) (p1 : Al → Option Bool) (r : Bool) (h : Bc N p0 p1 = some r) : Ar zA 110 [pD (.sl (p0.map AN)), oD (.clo (IK (M5 true AN) tB p1))] [] (bD r) := by
 unfold Bc at h
 refine cw (n := 9) (rs := [.tmp 4]) Tryz.func110 fun w0 S0 => ?_
 refine wq rfl (qa rfl (Ac (wq rfl (qw 2 rfl ?_))))
 refine B0 h fun v1 a1 h => Aw [] (Fh N p0 p1 v1 a1) VX rfl (Da rfl (qe rfl ?_))
 obtain rfl := sj h
 refine Af (sm [] [(4, bD ((decide (0 ≤ v1))))] [] rfl rfl) (Aq ?_)
 exact ⟨⟨[_], tm, rfl⟩, tv⟩
theorem Jv (N : Nat) (p0 : Al) (r : Bool) (h : DD N p0 = some r) : Ar zA 111 [.e (.agg (BR p0))] [] (bD r) := by
 unfold DD at h
 refine cw (n := 6) (rs := [.tmp 2]) Tryz.func111 fun w0 S0 => ?_
 refine wq rfl (qb rfl (qa rfl (Ac (wq rfl (qf C5 rfl (ql AX rfl (AP rfl (qe rfl ?_))))))))
 obtain rfl := sj h
 refine Af (sm [] [(2, bD ((p0.fa == 4)))] [] rfl rfl) (Aq ?_)
 exact ⟨⟨[_], tm, rfl⟩, tv⟩
theorem EB (N : Nat) (p0 : List Int) (r : (List Int)) (h : BW N p0 = some r) : Ar zA 149 [pD (.sl (p0.map As))] [(1, r.map As)] (oD (.own 0)) := by
 unfold BW at h
 refine cw (n := 8) (rs := [.tmp 2]) Tryz.func149 fun w0 S0 => ?_
 refine wq rfl (qa rfl (Ac (wp rfl (qm rfl ?_))))
 refine Ob (.p rfl) rfl AB ?_
 refine Ac ?_
 refine NM rfl (fun c2 => ?_) ?_
 ·have c2 := xB.1 c2
  rw [c2] at h
  have h : (some (([] : List Int))) = some r := h
  refine wq rfl (qe rfl ?_)
  obtain rfl := sj h
  refine Af ((Fx 2 2001 1 rfl rfl rfl).trans (sm [(1000, 2001)] [(2, oD (.own 1000))] [(1000, .vec 1 ((([] : List Int)).map As))] rfl rfl)) (Aq ?_)
  exact ⟨⟨[_], tm, rfl⟩, ⟨rfl, tv⟩⟩
 ·refine Ap (wq rfl (FO AB CL OC rfl (qm rfl ?_)))
  refine HS h fun c1 h => Kz (f := As) AB AB CL Ro OC (fun _ => rfl) c1 rfl (qe rfl ?_)
  obtain rfl := sj h
  refine Af (sm [(1000, 7)] [(2, oD (.own 1000))] [(1000, .vec 1 (((([] : List Int)) ++ p0).map As))] rfl rfl) (Aq ?_)
  exact ⟨⟨[_], tm, rfl⟩, ⟨rfl, tv⟩⟩
theorem Kc (N : Nat) (p0 : Int) (p1 : Int) (r : Int × Int) (h : FB N p0 p1 = some r) : Ar zA 190 [pD (.val (.int .u32 p0)), pD (.val (.int .u32 p1))] [] (.tup [.one (.pure (.val (.int .u32 r.1))), .one (.pure (.val (.int .u32 r.2)))]) := by
 unfold FB at h
 refine cw (n := 17) (rs := [.tmp 4, .tmp 5]) Tryz.func190 fun w0 S0 => ?_
 refine wq rfl (qa rfl (qa rfl (Ac (wq rfl (qm rfl (Ls QX UB rfl (qm rfl (Ls QX UB rfl (Ni rfl (qa rfl (Ac (wq rfl (qm rfl (K6 rfl (by decide) (Ls Uz QV rfl (qm rfl (Ls Uz QV rfl (qa rfl (qe rfl ?_)))))))))))))))))))
 obtain rfl := sj h
 refine Af (sm [] [(4, pD (.val (.int .u32 ((wI .u32 ((FP .u64 ((wI .u64 ((wI .u64 p0) * (wI .u64 p1)))) 32))))))), (5, pD (.val (.int .u32 ((wI .u32 ((wI .u64 ((wI .u64 p0) * (wI .u64 p1)))))))))] [] rfl rfl) (Aq ?_)
 exact ⟨⟨[_, _], ⟨.tmp _ _ rfl, tm⟩, rfl⟩, tv⟩
theorem J7 (N : Nat) (p0 : Int) (p1 : Int) (r : Int × Int) (h : Fy N p0 p1 = some r) : Ar zA 191 [pD (.val (.int .u64 p0)), pD (.val (.int .u64 p1))] [] (.tup [.one (.pure (.val (.int .u64 r.1))), .one (.pure (.val (.int .u64 r.2)))]) := by
 unfold Fy at h
 refine cw (n := 51) (rs := [.tmp 4, .tmp 5]) Tryz.func191 fun w0 S0 => ?_
 refine wq rfl (qa rfl (qa rfl (Ac (wq rfl (qm rfl (Nr rfl (qa rfl (Ac (wq rfl (qm rfl (K6 rfl (by decide) (qa rfl (Ac (wq rfl (qm rfl (Nr rfl (qa rfl (Ac (wq rfl (qm rfl (K6 rfl (by decide) (qa rfl (Ac (wq rfl (qw 2 rfl (Ni rfl (qa rfl (Ac (wq rfl (qw 2 rfl ?_))))))))))))))))))))))))))))))
 refine Ni rfl (qm rfl (K6 rfl (by decide) (Cl rfl (qa rfl (Ac (wq rfl (qm rfl (Nr rfl (qa rfl (Ac (wq rfl (qm rfl (K6 rfl (by decide) (qa rfl (Ac (wq rfl (qw 3 rfl (Ni rfl (Cl rfl (qa rfl (Ac (wq rfl (qw 2 rfl (Ni rfl (qm rfl (Cl rfl (qm rfl (K6 rfl (by decide) (Cl rfl (qa rfl (Ac (AS ?_))))))))))))))))))))))))))))))))
 refine Aj Ax rfl (qw 2 rfl (Ni rfl (qe rfl ?_)))
 obtain rfl := sj h
 refine Af (sm [] [(4, pD (.val (.int .u64 ((wI .u64 ((wI .u64 ((wI .u64 ((FP .u64 p0 32) * (FP .u64 p1 32))) + (FP .u64 ((wI .u64 ((wI .u64 ((FP .u64 p0 32) * (Fz .u64 p1 4294967295))) + (FP .u64 ((wI .u64 ((Fz .u64 p0 4294967295) * (Fz .u64 p1 4294967295)))) 32)))) 32))) + (FP .u64 ((wI .u64 ((Fz .u64 ((wI .u64 ((wI .u64 ((FP .u64 p0 32) * (Fz .u64 p1 4294967295))) + (FP .u64 ((wI .u64 ((Fz .u64 p0 4294967295) * (Fz .u64 p1 4294967295)))) 32)))) 4294967295) + (wI .u64 ((Fz .u64 p0 4294967295) * (FP .u64 p1 32)))))) 32))))))), (5, pD (.val (.int .u64 ((wI .u64 (p0 * p1))))))] [] rfl rfl) (Aq ?_)
 exact ⟨⟨[_, _], ⟨.tmp _ _ rfl, tm⟩, rfl⟩, tv⟩
theorem Lp (N : Nat) (p0 : Int) (p1 : Int) (r : Int × Int) (h : Gs N p0 p1 = some r) : Ar zA 175 [pD (.val (.int .u64 p0)), pD (.val (.int .u64 p1))] [] (.tup [.one (.pure (.val (.int .u64 r.1))), .one (.pure (.val (.int .u64 r.2)))]) := by
 unfold Gs at h
 refine cw (n := 30) (rs := [.tmp 4, .tmp 5]) Tryz.func175 fun w0 S0 => ?_
 refine wq rfl (qa rfl (qa rfl (Ac (AS ?_))))
 refine Bb h (fun h => ?_) fun h => ?_
 ·refine wq rfl (qm rfl (Ls R5 QV rfl (qm rfl (Ls R5 QV rfl ?_))))
  refine B0 h fun v2 a2 h => Aw [] (Kc N ((wI .u32 p0)) ((wI .u32 p1)) v2 a2) WP rfl (qm rfl (qx rfl (qx rfl (qa rfl (qa rfl (Ac (wq rfl (qm rfl (Ls QX QR rfl (qm rfl (Ls QX QR rfl (qa rfl (qe rfl ?_)))))))))))))
  obtain rfl := sj h
  refine Af (sm [] [(4, pD (.val (.int .u64 ((wI .u64 v2.1))))), (5, pD (.val (.int .u64 ((wI .u64 v2.2)))))] [] rfl rfl) (Aq ?_)
  exact ⟨⟨[_, _], ⟨.tmp _ _ rfl, tm⟩, rfl⟩, tv⟩
 ·refine Ap (wq rfl (qw 2 rfl ?_))
  refine B0 h fun v3 a3 h => Aw [] (J7 N p0 p1 v3 a3) Wd rfl (qm rfl (qx rfl (qx rfl (qa rfl (qa rfl (Ac (wq rfl (qw 2 rfl (qa rfl (qe rfl ?_))))))))))
  obtain rfl := sj h
  refine Af (sm [] [(4, pD (.val (.int .u64 v3.1))), (5, pD (.val (.int .u64 v3.2)))] [] rfl rfl) (Aq ?_)
  exact ⟨⟨[_, _], ⟨.tmp _ _ rfl, tm⟩, rfl⟩, tv⟩
theorem HW (N : Nat) (p0 : List Int) (p1 : Int) (r : (List Int)) (h : Dt N p0 p1 = some r) : Ar zA 150 [pD (.sl (p0.map As)), iD p1] [(1, r.map As)] (oD (.own 0)) := by
 unfold Dt at h
 refine cw (n := 48) (rs := [.tmp 4]) Tryz.func150 fun w0 S0 => ?_
 refine wq rfl (qe rfl ?_)
 refine AI h (fun v1 => mk [(0, pD (.sl (p0.map As))), (1, iD p1)] []) (fun j1 h => ?_) (fun v1 h => ?_)
 ·refine wq rfl (qm rfl (A2 rfl (Ac ?_)))
  refine Bb h (fun h => ?_) fun h => ?_
  ·refine Aj Ax rfl ?_
   cases h
  ·refine Ap ?_
   exact sn [] h
 ·refine wq rfl (qm rfl (AH AB rfl (Ls XO QR rfl (qm rfl (Ls XO QR rfl ?_)))))
  refine B0 h fun v3 a3 h => Aw [] (Lp N ((wI .u64 ((p0.length : Int)))) ((wI .u64 p1)) v3 a3) V6 rfl (qm rfl (qx rfl (qx rfl (qa rfl (qe rfl ?_)))))
  refine AI h (fun v4 => mk [(0, pD (.sl (p0.map As))), (6, pD (.val (.int .u64 v3.2)))] []) (fun j4 h => ?_) (fun v4 h => ?_)
  ·refine AI h (fun v5 => mk [(0, pD (.sl (p0.map As))), (6, pD (.val (.int .u64 v3.2))), (26, bD v5)] []) (fun j5 h => ?_) (fun v5 h => ?_)
   ·refine Aj Ax rfl (qm rfl (Eh rfl (qm rfl ?_)))
    refine Cv 23 h rfl (fun h => ?_) fun h => ?_
    ·refine qw 2 rfl (qp rfl (Ac ?_))
     exact sn [] h
    ·refine qm rfl (Eh rfl (qp rfl (Ac ?_)))
     exact sn [] h
   ·refine Bb h (fun h => ?_) fun h => ?_
    ·refine Aj Ax rfl ?_
     cases h
    ·refine Ap ?_
     exact sn [] h
  ·refine wq rfl (qm rfl (Ls R5 XP rfl ?_))
   refine HS h fun c8 h => K8 (.p rfl) rfl rfl rfl AB CL Ro (Hd rfl) OC rfl rfl rfl c8.1 c8.2.1 c8.2.2 (QN As _ ((0 : Int))) ?_
   refine qa rfl (Ac (wq rfl (qw 2 rfl ?_)))
   refine QU As (zJ ((wI .i64 v3.2)).toNat ((0 : Int))) p0 (.p rfl) rfl (LS As _ _ (zJ ((wI .i64 v3.2)).toNat ((0 : Int)))) rfl rfl (TB As _ _ (fun _ => rfl)) tv AB CL ?_
   refine qa rfl (Ac (AS ?_))
   refine A5 (L := CX N) h (fun v9 => mk [(7, oD (.own 2001)), (8, iD v9.2)] [(2001, .vec 1 (v9.1.map As))]) (fun v10 => mk [(7, oD (.own 2002))] [(2002, .vec 1 (v10.map As))]) (fun _ _ => rfl) (sm [(2001, 30)] _ _ rfl rfl) (fun j9 n9 v9 h => ?_) (fun v10 s h hs => ?_)
   ·unfold CX at h
    refine wp rfl (qw 2 rfl (Qa AB rfl (A2 rfl (Ac ?_))))
    refine Bb h (fun h => ?_) fun h => ?_
    ·refine Ap (AR (Aj Ax rfl (qw 3 rfl ?_)))
     obtain ⟨c12, h⟩ := Hn h
     have w13 : ((v9.2).toNat) + ((v9.1.length - (v9.2).toNat)) ≤ v9.1.length := by have := c12.2.1; have := c12.2.2; omega
     refine Pn As v9.1 (.p rfl) rfl (LS As _ _ v9.1) rfl AB CL (.some _ _ _ _ c12.1) (.none _) ⟨rfl, tv⟩ tv c12.2.1 (by rw [zI]; exact c12.2.2) (zI _) rfl ?_
     refine qw 2 rfl ?_
     obtain ⟨c14, h⟩ := Hn h
     have w15 : 0 + ((v9.2).toNat) ≤ v9.1.length := by have := c14.2.1; have := c14.2.2; omega
     refine Pn As v9.1 (.p rfl) rfl (LS As _ _ v9.1) rfl AB CL (.none _) (.some _ _ _ _ c14.1) tv ⟨rfl, tv⟩ c14.2.1 (by rw [zI]; exact c14.2.2) (zI _) rfl ?_
     refine QU As v9.1 (((v9.1.drop 0).take ((v9.2).toNat))) (.p rfl) rfl (Rt As _ _ ((v9.2).toNat) ((v9.1.length - (v9.2).toNat)) v9.1 w13) rfl rfl (Q5 As _ _ 0 ((v9.2).toNat) v9.1 w15) ⟨rfl, tv⟩ AB CL ?_
     refine Cl rfl (qa rfl (AG (by kernel_rfl) ?_))
     exact sn [] h
    ·refine BS ?_
     exact sn [(2002, 2001)] h
   ·refine Af hs (wq rfl (qm rfl (qe rfl ?_)))
    obtain rfl := sj h
    refine Af (sm [(1000, 2002)] [(4, oD (.own 1000))] [(1000, .vec 1 (v10.map As))] rfl rfl) (Aq ?_)
    exact ⟨⟨[_], tm, rfl⟩, ⟨rfl, tv⟩⟩
theorem Kk (N : Nat) (p0 : AL) (r : Bool) (h : EM N p0 = some r) : Ar zA 151 [.e (.agg (CA p0))] [] (bD r) := by
 unfold EM at h
 refine cw (n := 11) (rs := [.tmp 2]) Tryz.func151 fun w0 S0 => ?_
 refine wq rfl (qb rfl (qe rfl ?_))
 refine AI h (fun v1 => mk [(2, bD v1)] []) (fun j1 h => ?_) (fun v1 h => ?_)
 ·refine Aj Ax rfl (qf D1 rfl (ql AX rfl (AP rfl (qm rfl ?_))))
  refine Cv 6 h rfl (fun h => ?_) fun h => ?_
  ·refine qw 3 rfl (qp rfl (qe rfl ?_))
   exact sn [] h
  ·refine qf D1 rfl (ql AX rfl (AP rfl (qp rfl (qe rfl ?_))))
   exact sn [] h
 ·obtain rfl := sj h
  refine Af (sm [] [(2, bD v1)] [] rfl rfl) (Aq ?_)
  exact ⟨⟨[_], tm, rfl⟩, tv⟩
theorem OP (N : Nat) (p0 : Aa) (r : Ae × Int) (h : F9 N p0 = some r) : Ar zA 112 [.e (.agg (Ak p0))] [(1, r.1.fh.map As), (1, r.1.ff.map As), (1, r.1.fg.map Dq)] (.tup [.agg [.own 0, .own 1, .own 2], .one (iC r.2)]) := by
 unfold F9 at h
 refine cw (n := 50) (rs := [.cell 2 40, .tmp 3]) Tryz.func112 fun w0 S0 => ?_
 refine wq rfl (qb rfl (qz Do rfl (qa rfl (Ac (wp rfl (qL Dg C8 rfl ?_))))))
 refine B0 h fun v1 a1 h => Aw [] (Eb N p0 v1 a1) TV rfl (qa rfl (Ac (wq rfl (qm rfl (BE rfl (Ac ?_))))))
 refine Bb h (fun h => ?_) fun h => ?_
 ·refine wq rfl (Bs Do G7 rfl (qm rfl (qs AV rfl (qe rfl ?_))))
  obtain rfl := sj h
  refine Af ((Az 2 0 2001 1 _ rfl rfl rfl rfl).trans ((Az 2 1 2002 1 _ rfl rfl rfl rfl).trans ((Az 2 2 2003 1 _ rfl rfl rfl rfl).trans (sm [(1000, 2001), (1001, 2002), (1002, 2003)] [(2, oD (.ptr 2 0)), (3, iD v1)] [(2, .box [.own 1000, .own 1001, .own 1002]), (1000, .vec 1 ((([] : List Int)).map As)), (1001, .vec 1 ((([] : List Int)).map As)), (1002, .vec 1 ((([] : List Int)).map Dq))] rfl rfl)))) (Aq ?_)
  exact ⟨⟨[_, _], ⟨.cellN _ _ _ _ _ _ _ rfl rfl B1 AV rfl rfl (HL rfl), tm⟩, rfl⟩, ⟨rfl, rfl, rfl, tv⟩⟩
 ·refine Ap (wq rfl (qf FQ rfl (ql Bf rfl ?_)))
  refine B0 h fun v3 a3 h => Aw [2004] (EB N p0.fk v3 a3) SY rfl (FO AB CL OC rfl (qf FQ rfl (ql Bf rfl (AH AB rfl ?_))))
  refine B0 h fun v4 a4 h => HF [2005] [17] (HW N (([(-1)] : List Int)) ((p0.fk.length : Int)) v4 a4) Wp (P0 (fun _ => rfl) FI) rfl (qf BA rfl (ql EU rfl (AH CR rfl ?_)))
  refine HS h fun c5 h => K8 (.p rfl) rfl rfl rfl DT DW NK (Hd rfl) Ms rfl rfl rfl c5.1 c5.2.1 c5.2.2 (QN Dq _ ((0 : Int))) ?_
  refine Bs Do G7 rfl (qz Do rfl (qs AV rfl (AG (by kernel_rfl) (wp rfl (qf BA rfl (ql EU rfl (AH CR rfl (qm rfl (Ac ?_)))))))))
  refine A5 (L := Dd N p0) h (fun v6 => mk [(1, oD (.ptr 1 0)), (2, oD (.ptr 2 0)), (5, oD (.ptr 5 0)), (28, pD (.sl (p0.fe.map BG))), (29, iD ((p0.fe.length : Int))), (30, iD v6.2)] [(1, .box (Ak p0)), (2, .box [.pure (.nil0), .pure (.nil0), .pure (.nil0)]), (5, .box [.own 2006, .own 2007, .own 2008]), (2006, .vec 1 (v3.map As)), (2007, .vec 1 (v4.map As)), (2008, .vec 1 (v6.1.map Dq))]) (fun v7 => mk [(2, oD (.ptr 2 0)), (5, oD (.ptr 5 0))] [(2, .box [.pure (.nil0), .pure (.nil0), .pure (.nil0)]), (5, .box [.own 2009, .own 2010, .own 2011]), (2009, .vec 1 (v3.map As)), (2010, .vec 1 (v4.map As)), (2011, .vec 1 (v7.map Dq))]) (fun _ _ => rfl) (sm [(2006, 2004), (2007, 2005), (2008, 25)] _ _ rfl rfl) (fun j6 n6 v6 h => ?_) (fun v7 s h hs => ?_)
  ·unfold Dd at h
   refine wq rfl (A2 rfl (Ac (AS ?_)))
   refine Bb h (fun h => ?_) fun h => ?_
   ·refine Ap ?_
    refine AI h (fun v9 => mk [(1, oD (.ptr 1 0)), (2, oD (.ptr 2 0)), (5, oD (.ptr 5 0)), (28, pD (.sl (p0.fe.map BG))), (29, iD ((p0.fe.length : Int))), (30, iD v6.2)] [(1, .box (Ak p0)), (2, .box [.pure (.nil0), .pure (.nil0), .pure (.nil0)]), (5, .box [.own 2012, .own 2013, .own 2014]), (2012, .vec 1 (v3.map As)), (2013, .vec 1 (v4.map As)), (2014, .vec 1 (v9.map Dq))]) (fun j9 h => ?_) (fun v9 h => ?_)
    ·refine AR (wq rfl (qm rfl ?_))
     refine BK h fun v10 a10 b10 h => qi CR BM a10 (Ah b10) rfl (qK Ey BM rfl (qz I6 rfl (qa rfl (qs BM rfl (Ac (wq rfl (qL Ey BM rfl ?_)))))))
     refine B0 h fun v11 a11 h => Aw [] (Kk N v10 v11 a11) Ui rfl (Ac ?_)
     refine Bb h (fun h => ?_) fun h => ?_
     ·refine Aj Ax rfl (qf CI rfl (ql G6 rfl (qm rfl (qf FQ rfl (ql Bf rfl (qf Ce rfl (ql AX rfl ?_)))))))
      refine BK h fun v13 a13 b13 h => qi AB CL a13 (Ah b13) rfl (qk AX rfl ?_)
      refine HS h fun c14 h => It rfl c14 ?_
      refine BK h fun v15 a15 b15 h => qI DT DW a15 (Ah b15) rfl ?_
      refine EI rfl rfl rfl rfl (Ah b15) rfl DW rfl (Hd rfl) (EF Dq v6.1 _ ((DI .u8 1 v13))) ?_
      refine AG (by kernel_rfl) ?_
      exact sn [(2012, 2006), (2013, 2007), (2014, 2008)] h
     ·refine Ap ?_
      exact sn [(2012, 2006), (2013, 2007), (2014, 2008)] h
    ·refine Aj Ax rfl (Cl rfl (qm rfl (Ac ?_)))
     exact sn [(2006, 2012), (2007, 2013), (2008, 2014)] h
   ·refine BS ?_
    exact sn [(2009, 2006), (2010, 2007), (2011, 2008)] h
  ·refine Af hs (wq rfl (qL B1 AV rfl (qs AV rfl (qe rfl ?_))))
   obtain rfl := sj h
   refine Af (sm [(1000, 2009), (1001, 2010), (1002, 2011)] [(2, oD (.ptr 2 0)), (3, iD 0)] [(2, .box [.own 1000, .own 1001, .own 1002]), (1000, .vec 1 (v3.map As)), (1001, .vec 1 (v4.map As)), (1002, .vec 1 (v7.map Dq))] rfl rfl) (Aq ?_)
   exact ⟨⟨[_, _], ⟨.cellN _ _ _ _ _ _ _ rfl rfl B1 AV rfl rfl (HL rfl), tm⟩, rfl⟩, ⟨rfl, rfl, rfl, tv⟩⟩
theorem ML (N : Nat) (p0 : Ae) (p1 : Int) (r : Int) (h : E8 N p0 p1 = some r) : Ar zA 176 [.e (.agg (Bi p0)), iD p1] [] (pD (.val (.int .u8 r))) := by
 unfold E8 at h
 refine cw (n := 27) (rs := [.tmp 4]) Tryz.func176 fun w0 S0 => ?_
 refine wq rfl (qb rfl (qa rfl (Ac (wq rfl (qf C3 rfl (ql Bf rfl (qm rfl ?_)))))))
 refine BK h fun v1 a1 b1 h => qi AB CL a1 (Ah b1) rfl (qk AX rfl ?_)
 refine HS h fun c2 h => It rfl c2 (qe rfl ?_)
 refine AI h (fun v3 => mk [(5, pD (.val (.int .u8 v3)))] []) (fun j3 h => ?_) (fun v3 h => ?_)
 ·refine wq rfl (qf BU rfl (ql Bf rfl (qm rfl ?_)))
  refine BK h fun v4 a4 b4 h => qi AB CL a4 (Ah b4) rfl (qk AX rfl (Da rfl (Ac ?_)))
  refine Bb h (fun h => ?_) fun h => ?_
  ·refine Aj Ax rfl (qm rfl (qf BU rfl (ql Bf rfl (qm rfl ?_))))
   refine BK h fun v6 a6 b6 h => qi AB CL a6 (Ah b6) rfl (qk AX rfl ?_)
   refine HS h fun c7 h => It rfl c7 (S3 rfl (qe rfl ?_))
   exact sn [] h
  ·refine Ap ?_
   exact sn [] h
 ·refine wq rfl (qm rfl (qe rfl ?_))
  obtain rfl := sj h
  refine Af (sm [] [(4, pD (.val (.int .u8 v3)))] [] rfl rfl) (Aq ?_)
  exact ⟨⟨[_], tm, rfl⟩, tv⟩
theorem Lb (N : Nat) (p0 : Aa) (p1 : Ae) (r : Int) (h : Fc N p0 p1 = some r) : Ar zA 152 [.e (.agg (Ak p0)), .e (.agg (Bi p1))] [] (iD r) := by
 unfold Fc at h
 refine cw (n := 135) (rs := [.tmp 4]) Tryz.func152 fun w0 S0 => ?_
 refine wq rfl (qb rfl (qb rfl (qa rfl (Ac (wp rfl (qL Dg C8 rfl ?_))))))
 refine B0 h fun v1 a1 h => Aw [] (Eb N p0 v1 a1) TV rfl (qa rfl (Ac (wq rfl (qm rfl (BE rfl (Ac ?_))))))
 refine Bb h (fun h => ?_) fun h => ?_
 ·refine wq rfl (qm rfl (qe rfl ?_))
  obtain rfl := sj h
  refine Af (sm [] [(4, iD v1)] [] rfl rfl) (Aq ?_)
  exact ⟨⟨[_], tm, rfl⟩, tv⟩
 ·refine Ap (AS ?_)
  refine AI h (fun v3 => mk [(2, oD (.ptr 2 0)), (3, oD (.ptr 3 0)), (41, bD v3)] [(2, .box (Ak p0)), (3, .box (Bi p1))]) (fun j3 h => ?_) (fun v3 h => ?_)
  ·refine Aj Ax rfl (qf C3 rfl (ql Bf rfl (AH AB rfl (qf BB rfl (ql Bf rfl (AH AB rfl (BE rfl (qm rfl ?_))))))))
   refine Cv 24 h rfl (fun h => ?_) fun h => ?_
   ·refine qw 7 rfl (qp rfl (qw 8 rfl (qp rfl (Ac ?_))))
    exact sn [] h
   ·refine qf BU rfl (ql Bf rfl (AH AB rfl (qf BB rfl (ql Bf rfl (AH AB rfl (BE rfl (qp rfl (qm rfl ?_))))))))
    refine Cv 33 h rfl (fun h => ?_) fun h => ?_
    ·refine qw 7 rfl (qp rfl (Ac ?_))
     exact sn [] h
    ·refine qf CI rfl (ql G6 rfl (AH DT rfl (qf BA rfl (ql EU rfl (AH CR rfl (BE rfl (qp rfl (Ac ?_))))))))
     exact sn [] h
  ·refine Bb h (fun h => ?_) fun h => ?_
   ·refine wq rfl (qe rfl ?_)
    obtain rfl := sj h
    refine Af (sm [] [(4, iD 6)] [] rfl rfl) (Aq ?_)
    exact ⟨⟨[_], tm, rfl⟩, tv⟩
   ·refine Ap (wp rfl (qf BB rfl (ql Bf rfl (AH AB rfl (qm rfl (Ac ?_))))))
    refine A5 (L := C9 N p0 p1) h (fun v7 => mk [(2, oD (.ptr 2 0)), (3, oD (.ptr 3 0)), (43, pD (.sl (p0.fb.map As))), (44, iD ((p0.fb.length : Int))), (45, iD v7)] [(2, .box (Ak p0)), (3, .box (Bi p1))]) (fun v8 => mk [(2, oD (.ptr 2 0)), (3, oD (.ptr 3 0))] [(2, .box (Ak p0)), (3, .box (Bi p1))]) (fun _ _ => rfl) (sm [] _ _ rfl rfl) (fun j7 n7 v7 h => ?_) (fun v8 s h hs => ?_)
    ·unfold C9 at h
     refine wq rfl (A2 rfl (Ac (AS ?_)))
     refine Bb h (fun h => ?_) fun h => ?_
     ·refine Ap (AS (AR (wq rfl (qm rfl ?_))))
      refine BK h fun v10 a10 b10 h => qi AB CL a10 (Ah b10) rfl (qk AX rfl (qa rfl (qa rfl (Ac (AS ?_)))))
      refine AI h (fun v11 => mk [(2, oD (.ptr 2 0)), (3, oD (.ptr 3 0)), (6, iD v7), (43, pD (.sl (p0.fb.map As))), (44, iD ((p0.fb.length : Int))), (45, iD v7), (81, bD v11)] [(2, .box (Ak p0)), (3, .box (Bi p1))]) (fun j11 h => ?_) (fun v11 h => ?_)
      ·refine Aj Ax rfl (qf C3 rfl (ql Bf rfl (qm rfl ?_)))
       refine BK h fun v12 a12 b12 h => qi AB CL a12 (Ah b12) rfl (qk AX rfl (A2 rfl (qm rfl ?_)))
       refine Cv 56 h rfl (fun h => ?_) fun h => ?_
       ·refine qw 7 rfl (qp rfl (qw 7 rfl (qp rfl (qw 8 rfl (qp rfl (Ac ?_))))))
        exact sn [] h
       ·refine qf C3 rfl (ql Bf rfl (qm rfl ?_))
        refine BK h fun v14 a14 b14 h => qi AB CL a14 (Ah b14) rfl (qk AX rfl (qm rfl (Da rfl (qp rfl (qm rfl ?_)))))
        refine Cv 65 h rfl (fun h => ?_) fun h => ?_
        ·refine qw 6 rfl (qp rfl (qw 8 rfl (qp rfl (Ac ?_))))
         exact sn [] h
        ·refine qf BU rfl (ql Bf rfl (qm rfl ?_))
         refine BK h fun v16 a16 b16 h => qi AB CL a16 (Ah b16) rfl (qk AX rfl (A2 rfl (qp rfl (qm rfl ?_))))
         refine Cv 73 h rfl (fun h => ?_) fun h => ?_
         ·refine qw 7 rfl (qp rfl (Ac ?_))
          exact sn [] h
         ·refine qf BU rfl (ql Bf rfl (qm rfl ?_))
          refine BK h fun v18 a18 b18 h => qi AB CL a18 (Ah b18) rfl (qk AX rfl (qm rfl (Da rfl (qp rfl (Ac ?_)))))
          exact sn [] h
      ·refine Bb h (fun h => ?_) fun h => ?_
       ·refine wq rfl (qe rfl ?_)
        obtain rfl := sj h
        refine Af (sm [] [(4, iD 7)] [] rfl rfl) (Aq ?_)
        exact ⟨⟨[_], tm, rfl⟩, tv⟩
       ·refine Ap (wq rfl (qf C3 rfl (ql Bf rfl (qm rfl ?_))))
        refine BK h fun v20 a20 b20 h => qi AB CL a20 (Ah b20) rfl (qk AX rfl (qf BU rfl (ql Bf rfl (qm rfl ?_))))
        refine BK h fun v21 a21 b21 h => qi AB CL a21 (Ah b21) rfl (qk AX rfl (AP rfl (AG (by kernel_rfl) ?_)))
        refine Bb h (fun h => ?_) fun h => ?_
        ·refine wq rfl (qe rfl ?_)
         obtain rfl := sj h
         refine Af (sm [] [(4, iD 1)] [] rfl rfl) (Aq ?_)
         exact ⟨⟨[_], tm, rfl⟩, tv⟩
        ·refine Ap (Aj Ax rfl (Cl rfl (qm rfl (Ac ?_))))
         exact sn [] h
     ·refine BS ?_
      exact sn [] h
    ·refine Af hs (wp rfl (qf BA rfl (ql EU rfl (AH CR rfl (qm rfl (Ac ?_))))))
     refine A5 (L := CW N p0 p1) h (fun v23 => mk [(2, oD (.ptr 2 0)), (3, oD (.ptr 3 0)), (95, pD (.sl (p0.fe.map BG))), (96, iD ((p0.fe.length : Int))), (97, iD v23)] [(2, .box (Ak p0)), (3, .box (Bi p1))]) (fun v24 => mk [] []) (fun _ _ => rfl) (sm [] _ _ rfl rfl) (fun j23 n23 v23 h => ?_) (fun v24 s h hs => ?_)
     ·unfold CW at h
      refine wq rfl (A2 rfl (Ac (AS ?_)))
      refine Bb h (fun h => ?_) fun h => ?_
      ·refine Ap (AS (AR (wq rfl (qm rfl ?_))))
       refine BK h fun v26 a26 b26 h => qi CR BM a26 (Ah b26) rfl (qK Ey BM rfl (qz I6 rfl (qa rfl (qs BM rfl (Ac (wq rfl (qa rfl (qe rfl ?_))))))))
       refine AI h (fun v27 => mk [(2, oD (.ptr 2 0)), (3, oD (.ptr 3 0)), (8, iD v23), (10, pD (.val (.int .u8 v27.1))), (11, pD (.val (.int .u8 v27.2))), (95, pD (.sl (p0.fe.map BG))), (96, iD ((p0.fe.length : Int))), (97, iD v23)] [(2, .box (Ak p0)), (3, .box (Bi p1))]) (fun j27 h => ?_) (fun v27 h => ?_)
       ·refine wq rfl (qL Ey BM rfl ?_)
        refine B0 h fun v28 a28 h => Aw [] (Kk N v26 v28 a28) Ui rfl (Ac ?_)
        refine Bb h (fun h => ?_) fun h => ?_
        ·refine Aj Ax rfl (qL B1 AV rfl (qf Ce rfl (ql AX rfl ?_)))
         refine B0 h fun v30 a30 h => Aw [] (ML N p1 v26.fj v30 a30) Wr rfl (qf BB rfl (ql Bf rfl (qf Ce rfl (ql AX rfl ?_))))
         refine BK h fun v31 a31 b31 h => qi AB CL a31 (Ah b31) rfl (qk AX rfl ?_)
         refine HS h fun c32 h => It rfl c32 (J1 rfl (qa rfl (qa rfl (AG (by kernel_rfl) ?_))))
         exact sn [] h
        ·refine Ap ?_
         exact sn [] h
       ·refine AI h (fun v33 => mk [(2, oD (.ptr 2 0)), (3, oD (.ptr 3 0)), (95, pD (.sl (p0.fe.map BG))), (96, iD ((p0.fe.length : Int))), (97, iD v23), (133, bD v33)] [(2, .box (Ak p0)), (3, .box (Bi p1))]) (fun j33 h => ?_) (fun v33 h => ?_)
        ·refine Aj Ax rfl (qm rfl (qf CI rfl (ql G6 rfl (qm rfl ?_))))
         refine BK h fun v34 a34 b34 h => qi DT DW a34 (Ah b34) rfl (qk Hu rfl (Hl rfl (BE rfl (qm rfl ?_))))
         refine Cv 124 h rfl (fun h => ?_) fun h => ?_
         ·refine qw 8 rfl (qp rfl (Ac ?_))
          exact sn [] h
         ·refine qf CI rfl (ql G6 rfl (qm rfl ?_))
          refine BK h fun v36 a36 b36 h => qi DT DW a36 (Ah b36) rfl (qk Hu rfl (qm rfl (Hl rfl (BE rfl (qp rfl (Ac ?_))))))
          exact sn [] h
        ·refine Bb h (fun h => ?_) fun h => ?_
         ·refine wq rfl (qe rfl ?_)
          obtain rfl := sj h
          refine Af (sm [] [(4, iD 1)] [] rfl rfl) (Aq ?_)
          exact ⟨⟨[_], tm, rfl⟩, tv⟩
         ·refine Ap (Aj Ax rfl (Cl rfl (qm rfl (Ac ?_))))
          exact sn [] h
      ·refine BS ?_
       exact sn [] h
     ·refine Af hs (wq rfl (qe rfl ?_))
      obtain rfl := sj h
      refine Af (sm [] [(4, iD 0)] [] rfl rfl) (Aq ?_)
      exact ⟨⟨[_], tm, rfl⟩, tv⟩
theorem Gk (N : Nat) (p0 : List Int) (r : (List Int)) (h : BQ N p0 = some r) : Ar zA 177 [pD (.sl (p0.map Dq))] [(1, r.map Dq)] (oD (.own 0)) := by
 unfold BQ at h
 refine cw (n := 8) (rs := [.tmp 2]) Tryz.func177 fun w0 S0 => ?_
 refine wq rfl (qa rfl (Ac (wp rfl (qm rfl ?_))))
 refine Ob (.p rfl) rfl DT ?_
 refine Ac ?_
 refine NM rfl (fun c2 => ?_) ?_
 ·have c2 := xB.1 c2
  rw [c2] at h
  have h : (some (([] : List Int))) = some r := h
  refine wq rfl (qe rfl ?_)
  obtain rfl := sj h
  refine Af ((Fx 2 2001 1 rfl rfl rfl).trans (sm [(1000, 2001)] [(2, oD (.own 1000))] [(1000, .vec 1 ((([] : List Int)).map Dq))] rfl rfl)) (Aq ?_)
  exact ⟨⟨[_], tm, rfl⟩, ⟨rfl, tv⟩⟩
 ·refine Ap (wq rfl (FO DT DW Ms rfl (qm rfl ?_)))
  refine HS h fun c1 h => Kz (f := Dq) DT DT DW NK Ms (fun _ => rfl) c1 rfl (qe rfl ?_)
  obtain rfl := sj h
  refine Af (sm [(1000, 7)] [(2, oD (.own 1000))] [(1000, .vec 1 (((([] : List Int)) ++ p0).map Dq))] rfl rfl) (Aq ?_)
  exact ⟨⟨[_], tm, rfl⟩, ⟨rfl, tv⟩⟩
theorem JD (N : Nat) (p0 : Ae) (r : Ae) (h : Er N p0 = some r) : Ar zA 153 [.e (.agg (Bi p0))] [(1, r.fh.map As), (1, r.ff.map As), (1, r.fg.map Dq)] (.e (.agg [.own 0, .own 1, .own 2])) := by
 unfold Er at h
 refine cw (n := 13) (rs := [.cell 2 40]) Tryz.func153 fun w0 S0 => ?_
 refine wq rfl (qb rfl (qz Do rfl (Ac (wq rfl (qf C3 rfl (ql Bf rfl ?_))))))
 refine B0 h fun v1 a1 h => Aw [2001] (EB N p0.fh v1 a1) SY rfl (qf BU rfl (ql Bf rfl ?_))
 refine B0 h fun v2 a2 h => Aw [2002] (EB N p0.ff v2 a2) SY rfl (qf CI rfl (ql G6 rfl ?_))
 refine B0 h fun v3 a3 h => Aw [2003] (Gk N p0.fg v3 a3) VL rfl (Bs Do G7 rfl (qs AV rfl (AG (by kernel_rfl) ?_)))
 obtain rfl := sj h
 refine Af (sm [(1000, 2001), (1001, 2002), (1002, 2003)] [(2, oD (.ptr 2 0))] [(2, .box [.own 1000, .own 1001, .own 1002]), (1000, .vec 1 (v1.map As)), (1001, .vec 1 (v2.map As)), (1002, .vec 1 (v3.map Dq))] rfl rfl) (Aq ?_)
 exact ⟨⟨[_], ⟨.cellN _ _ _ _ _ _ _ rfl rfl B1 AV rfl rfl (HL rfl), tv⟩, rfl⟩, ⟨rfl, rfl, rfl, tv⟩⟩
theorem NH (N : Nat) (p0 : Al) (r : Bool) (h : Fm N p0 = some r) : Ar zA 178 [.e (.agg (BR p0))] [] (bD r) := by
 unfold Fm at h
 refine cw (n := 27) (rs := [.tmp 2]) Tryz.func178 fun w0 S0 => ?_
 refine wq rfl (qb rfl (qa rfl (Ac (AS ?_))))
 refine AI h (fun v1 => mk [(1, oD (.ptr 1 0)), (18, bD v1)] [(1, .box (BR p0))]) (fun j1 h => ?_) (fun v1 h => ?_)
 ·refine Aj Ax rfl (qf DK rfl (ql AX rfl (qf Fv rfl (ql AX rfl ?_))))
  refine WB (.p rfl) rfl rfl ?_
  refine A2 rfl (qm rfl ?_)
  refine Cv 9 h rfl (fun h => ?_) fun h => ?_
  ·refine qw 3 rfl (qp rfl (qw 4 rfl (qp rfl (Ac ?_))))
   exact sn [] h
  ·refine qf C5 rfl (ql AX rfl (A2 rfl (qp rfl (qm rfl ?_))))
   refine Cv 14 h rfl (fun h => ?_) fun h => ?_
   ·refine qw 3 rfl (qp rfl (Ac ?_))
    exact sn [] h
   ·refine qf C5 rfl (ql AX rfl (Eh rfl (qp rfl (Ac ?_))))
    exact sn [] h
 ·refine Bb h (fun h => ?_) fun h => ?_
  ·refine wq rfl (qe rfl ?_)
   obtain rfl := sj h
   refine Af (sm [] [(2, bD false)] [] rfl rfl) (Aq ?_)
   exact ⟨⟨[_], tm, rfl⟩, tv⟩
  ·refine Ap ?_
   refine AI h (fun v5 => mk [(2, bD v5)] []) (fun j5 h => ?_) (fun v5 h => ?_)
   ·refine Aj Ax rfl (qf C5 rfl (ql AX rfl (AP rfl (qm rfl ?_))))
    refine Cv 22 h rfl (fun h => ?_) fun h => ?_
    ·refine qw 3 rfl (qp rfl (qe rfl ?_))
     exact sn [] h
    ·refine qf Fv rfl (ql AX rfl (AP rfl (qp rfl (qe rfl ?_))))
     exact sn [] h
   ·obtain rfl := sj h
    refine Af (sm [] [(2, bD v5)] [] rfl rfl) (Aq ?_)
    exact ⟨⟨[_], tm, rfl⟩, tv⟩
theorem MR (N : Nat) (p0 : Aa) (p1 : Al) (r : Bool) (h : E6 N p0 p1 = some r) : Ar zA 179 [.e (.agg (Ak p0)), .e (.agg (BR p1))] [] (bD r) := by
 unfold E6 at h
 refine cw (n := 36) (rs := [.tmp 4]) Tryz.func179 fun w0 S0 => ?_
 refine wq rfl (qb rfl (qb rfl (qa rfl (Ac (wp rfl (qf C5 rfl (ql AX rfl (AP rfl (Ac ?_)))))))))
 refine Bb h (fun h => ?_) fun h => ?_
 ·refine wq rfl (qf DK rfl (ql AX rfl (qf BA rfl (ql EU rfl (AH CR rfl (A2 rfl (qe rfl ?_)))))))
  obtain rfl := sj h
  refine Af (sm [] [(4, bD ((decide (p1.fm < (p0.fe.length : Int)))))] [] rfl rfl) (Aq ?_)
  exact ⟨⟨[_], tm, rfl⟩, tv⟩
 ·refine Ap ?_
  refine AI h (fun v2 => mk [(4, bD v2)] []) (fun j2 h => ?_) (fun v2 h => ?_)
  ·refine Aj Ax rfl (qf DK rfl (ql AX rfl (qf BB rfl (ql Bf rfl (AH AB rfl (A2 rfl (qm rfl ?_)))))))
   refine Cv 20 h rfl (fun h => ?_) fun h => ?_
   ·refine qf C5 rfl (ql AX rfl (BE rfl (qm rfl ?_)))
    refine Cv 24 h rfl (fun h => ?_) fun h => ?_
    ·refine qw 9 rfl (qp rfl (qp rfl (qa rfl (AG (by kernel_rfl) ?_))))
     exact sn [] h
    ·refine qf Fv rfl (ql AX rfl (qf BB rfl (ql Bf rfl (qf DK rfl (ql AX rfl ?_)))))
     refine BK h fun v5 a5 b5 h => qi AB CL a5 (Ah b5) rfl (qk AX rfl (A2 rfl (qp rfl (qp rfl (qa rfl (AG (by kernel_rfl) ?_))))))
     exact sn [] h
   ·refine qw 4 rfl (qu rfl (qu rfl (qu rfl (qu rfl (qu rfl (qu rfl (qu rfl (qu rfl (qu rfl (qn rfl (qp rfl (qa rfl (AG (by kernel_rfl) ?_)))))))))))))
    exact sn [] h
  ·obtain rfl := sj h
   refine Af (sm [] [(4, bD v2)] [] rfl rfl) (Aq ?_)
   exact ⟨⟨[_], tm, rfl⟩, tv⟩
theorem JE (N : Nat) (p0 : AL) (r : Bool) (h : El N p0 = some r) : Ar zA 197 [.e (.agg (CA p0))] [] (bD r) := by
 unfold El at h
 refine cw (n := 11) (rs := [.tmp 2]) Tryz.func197 fun w0 S0 => ?_
 refine wq rfl (qb rfl (qe rfl ?_))
 refine AI h (fun v1 => mk [(2, bD v1)] []) (fun j1 h => ?_) (fun v1 h => ?_)
 ·refine Aj Ax rfl (qf D1 rfl (ql AX rfl (AP rfl (qm rfl ?_))))
  refine Cv 6 h rfl (fun h => ?_) fun h => ?_
  ·refine qw 3 rfl (qp rfl (qe rfl ?_))
   exact sn [] h
  ·refine qf D1 rfl (ql AX rfl (AP rfl (qp rfl (qe rfl ?_))))
   exact sn [] h
 ·obtain rfl := sj h
  refine Af (sm [] [(2, bD v1)] [] rfl rfl) (Aq ?_)
  exact ⟨⟨[_], tm, rfl⟩, tv⟩
theorem NJ (N : Nat) (p0 : Aa) (p1 : Ae) (p2 : Al) (r : Bool × (List Int) × (List Int)) (h : Gv N p0 p1 p2 = some r) : DO zA 192 [.e (.agg (Ak p0)), oD (.ptr 90000 0), .e (.agg (BR p2))] [(.box [.own 90001, .own 90002, .own 90003], .box [.own 90001, .own 90002, .own 90003]), (.vec 1 (p1.fh.map As), .vec 1 (p1.fh.map As)), (.vec 1 (p1.ff.map As), .vec 1 (r.2.1.map As)), (.vec 1 (p1.fg.map Dq), .vec 1 (r.2.2.map Dq))] [] (bD r.1) := by
 unfold Gv at h
 refine Du (n := 70) (rs := [.tmp 6]) Tryz.func192 rfl rfl rfl (Hd rfl) (Hd rfl) rfl rfl (Hd rfl) rfl (Hd rfl) fun w0 S0 GL => ?_
 refine Af (sm [] [(0, .e (.agg (Ak p0))), (1, oD (.ptr 90000 0)), (2, .e (.agg (BR p2)))] [(90000, .box [.own 90001, .own 90002, .own 90003]), (90001, .vec 1 (p1.fh.map As)), (90002, .vec 1 (p1.ff.map As)), (90003, .vec 1 (p1.fg.map Dq))] rfl rfl) (wq rfl (qb rfl (qb rfl (qa rfl (Ac (AS ?_))))))
 refine AI h (fun v1 => mk [(1, oD (.ptr 90000 0)), (3, oD (.ptr 3 0)), (5, oD (.ptr 5 0)), (30, bD v1)] [(3, .box (Ak p0)), (5, .box (BR p2)), (90000, .box [.own 90001, .own 90002, .own 90003]), (90001, .vec 1 (p1.fh.map As)), (90002, .vec 1 (p1.ff.map As)), (90003, .vec 1 (p1.fg.map Dq))]) (fun j1 h => ?_) (fun v1 h => ?_)
 ·refine Aj Ax rfl (qm rfl (HT rfl (qf BU rfl (ql Bf rfl (qf DK rfl (ql AX rfl ?_))))))
  refine BK h fun v2 a2 b2 h => qI AB CL a2 (Ah b2) rfl (qj AX (Ah b2) rfl (Da rfl (qm rfl ?_)))
  refine Cv 18 h rfl (fun h => ?_) fun h => ?_
  ·refine qw 11 rfl (qp rfl (AG (by kernel_rfl) ?_))
   exact sn [] h
  ·refine qm rfl (HT rfl (qf C3 rfl (ql Bf rfl (qf DK rfl (ql AX rfl ?_)))))
   refine BK h fun v4 a4 b4 h => qI AB CL a4 (Ah b4) rfl (qj AX (Ah b4) rfl (qf Fv rfl (ql AX rfl (AP rfl (qp rfl (AG (by kernel_rfl) ?_))))))
   exact sn [] h
 ·refine Bb h (fun h => ?_) fun h => ?_
  ·refine wq rfl (qe rfl ?_)
   obtain rfl := sj h
   refine Af (sm [] [(6, bD false)] [(90000, .box [.own 90001, .own 90002, .own 90003]), (90001, .vec 1 (p1.fh.map As)), (90002, .vec 1 (p1.ff.map As)), (90003, .vec 1 (p1.fg.map Dq))] rfl rfl) (Aq ?_)
   exact ⟨⟨[_], tm, rfl⟩, ⟨rfl, rfl, rfl, rfl, tv⟩, tv⟩
  ·refine Ap (wq rfl (qm rfl (HT rfl (qf BU rfl (ql Bf rfl (qf DK rfl (ql AX rfl (qf Fv rfl (ql AX rfl ?_)))))))))
   refine BK h fun v6 a6 b6 h => qI AB CL a6 (Ah b6) rfl ?_
   refine EI rfl rfl rfl rfl (Ah b6) rfl CL rfl (Hd rfl) (EF As p1.ff _ p2.fq) ?_
   refine AG (by kernel_rfl) (wp rfl (qf BA rfl (ql EU rfl (AH CR rfl (qm rfl (Ac ?_))))))
   refine A5 (L := CP N p0 p2) h (fun v7 => mk [(1, oD (.ptr 90000 0)), (5, oD (.ptr 5 0)), (41, pD (.sl (p0.fe.map BG))), (42, iD ((p0.fe.length : Int))), (43, iD v7.2)] [(5, .box (BR p2)), (90000, .box [.own 90001, .own 90002, .own 90003]), (90001, .vec 1 (p1.fh.map As)), (90002, .vec 1 ((p1.ff.set ((p2.fm).toNat) p2.fq).map As)), (90003, .vec 1 (v7.1.map Dq))]) (fun v8 => mk [] [(90000, .box [.own 90001, .own 90002, .own 90003]), (90001, .vec 1 (p1.fh.map As)), (90002, .vec 1 ((p1.ff.set ((p2.fm).toNat) p2.fq).map As)), (90003, .vec 1 (v8.map Dq))]) (fun _ _ => rfl) (sm [] _ _ rfl rfl) (fun j7 n7 v7 h => ?_) (fun v8 s h hs => ?_)
   ·unfold CP at h
    refine wq rfl (A2 rfl (Ac (AS ?_)))
    refine Bb h (fun h => ?_) fun h => ?_
    ·refine Ap ?_
     refine AI h (fun v10 => mk [(1, oD (.ptr 90000 0)), (5, oD (.ptr 5 0)), (41, pD (.sl (p0.fe.map BG))), (42, iD ((p0.fe.length : Int))), (43, iD v7.2)] [(5, .box (BR p2)), (90000, .box [.own 90001, .own 90002, .own 90003]), (90001, .vec 1 (p1.fh.map As)), (90002, .vec 1 ((p1.ff.set ((p2.fm).toNat) p2.fq).map As)), (90003, .vec 1 (v10.map Dq))]) (fun j10 h => ?_) (fun v10 h => ?_)
     ·refine AR (wq rfl (qm rfl ?_))
      refine BK h fun v11 a11 b11 h => qi CR BM a11 (Ah b11) rfl (qK Ey BM rfl (qz I6 rfl (qa rfl (qs BM rfl (Ac ?_)))))
      refine AI h (fun v12 => mk [(1, oD (.ptr 90000 0)), (5, oD (.ptr 5 0)), (7, iD v7.2), (41, pD (.sl (p0.fe.map BG))), (42, iD ((p0.fe.length : Int))), (43, iD v7.2), (56, bD v12)] [(5, .box (BR p2)), (90000, .box [.own 90001, .own 90002, .own 90003]), (90001, .vec 1 (p1.fh.map As)), (90002, .vec 1 ((p1.ff.set ((p2.fm).toNat) p2.fq).map As)), (90003, .vec 1 (v7.1.map Dq))]) (fun j12 h => ?_) (fun v12 h => ?_)
      ·refine Aj Ax rfl (qf Ce rfl (ql AX rfl (qf DK rfl (ql AX rfl (AP rfl (qm rfl ?_))))))
       refine Cv 53 h rfl (fun h => ?_) fun h => ?_
       ·refine qL Ey BM rfl ?_
        refine B0 h fun v14 a14 h => Aw [] (JE N v11 v14 a14) Um rfl (qp rfl (Ac ?_))
        exact sn [] h
       ·refine qw 2 rfl (qp rfl (Ac ?_))
        exact sn [] h
      ·refine Bb h (fun h => ?_) fun h => ?_
       ·refine Aj Ax rfl (qm rfl (HT rfl (qf CI rfl (ql G6 rfl (qm rfl ?_)))))
        refine BK h fun v16 a16 b16 h => qI DT DW a16 (Ah b16) rfl (qj Hu (Ah b16) rfl (qf Fv rfl (ql AX rfl ?_)))
        refine HS h fun c17 h => It rfl c17 (S3 rfl ?_)
        refine BK h fun v18 a18 b18 h => qI DT DW a18 (Ah b18) rfl ?_
        refine EI rfl rfl rfl rfl (Ah b18) rfl DW rfl (Hd rfl) (EF Dq v7.1 _ ((Lo .u8 v16 ((DI .u8 1 p2.fq))))) ?_
        refine AG (by kernel_rfl) ?_
        exact sn [] h
       ·refine Ap ?_
        exact sn [] h
     ·refine Aj Ax rfl (Cl rfl (qm rfl (Ac ?_)))
      exact sn [] h
    ·refine BS ?_
     exact sn [] h
   ·refine Af hs (wq rfl (qe rfl ?_))
    obtain rfl := sj h
    refine Af (sm [] [(6, bD true)] [(90000, .box [.own 90001, .own 90002, .own 90003]), (90001, .vec 1 (p1.fh.map As)), (90002, .vec 1 ((p1.ff.set ((p2.fm).toNat) p2.fq).map As)), (90003, .vec 1 (v8.map Dq))] rfl rfl) (Aq ?_)
    exact ⟨⟨[_], tm, rfl⟩, ⟨rfl, rfl, rfl, rfl, tv⟩, tv⟩
theorem LY (N : Nat) (p0 : Ae) (p1 : Int) (r : Int) (h : EG N p0 p1 = some r) : Ar zA 198 [.e (.agg (Bi p0)), iD p1] [] (pD (.val (.int .u8 r))) := by
 unfold EG at h
 refine cw (n := 27) (rs := [.tmp 4]) Tryz.func198 fun w0 S0 => ?_
 refine wq rfl (qb rfl (qa rfl (Ac (wq rfl (qf C3 rfl (ql Bf rfl (qm rfl ?_)))))))
 refine BK h fun v1 a1 b1 h => qi AB CL a1 (Ah b1) rfl (qk AX rfl ?_)
 refine HS h fun c2 h => It rfl c2 (qe rfl ?_)
 refine AI h (fun v3 => mk [(5, pD (.val (.int .u8 v3)))] []) (fun j3 h => ?_) (fun v3 h => ?_)
 ·refine wq rfl (qf BU rfl (ql Bf rfl (qm rfl ?_)))
  refine BK h fun v4 a4 b4 h => qi AB CL a4 (Ah b4) rfl (qk AX rfl (Da rfl (Ac ?_)))
  refine Bb h (fun h => ?_) fun h => ?_
  ·refine Aj Ax rfl (qm rfl (qf BU rfl (ql Bf rfl (qm rfl ?_))))
   refine BK h fun v6 a6 b6 h => qi AB CL a6 (Ah b6) rfl (qk AX rfl ?_)
   refine HS h fun c7 h => It rfl c7 (S3 rfl (qe rfl ?_))
   exact sn [] h
  ·refine Ap ?_
   exact sn [] h
 ·refine wq rfl (qm rfl (qe rfl ?_))
  obtain rfl := sj h
  refine Af (sm [] [(4, pD (.val (.int .u8 v3)))] [] rfl rfl) (Aq ?_)
  exact ⟨⟨[_], tm, rfl⟩, tv⟩
theorem Hp (N : Nat) (p0 : Int) (r : Int) (h : Cd N p0 = some r) : Ar zA 200 [pD (.val (.int .u8 p0))] [] (iD r) := by
 unfold Cd at h
 refine cw (n := 6) (rs := [.tmp 2]) Tryz.func200 fun w0 S0 => ?_
 refine wq rfl (qa rfl (Ac (wq rfl (qm rfl ?_))))
 refine B0 h fun v1 a1 h => Q9 (.p rfl) rfl rfl Ox a1 ?_
 refine Ls XU XP rfl (qe rfl ?_)
 obtain rfl := sj h
 refine Af (sm [] [(2, iD ((wI .i64 v1)))] [] rfl rfl) (Aq ?_)
 exact ⟨⟨[_], tm, rfl⟩, tv⟩
theorem Kx (N : Nat) (p0 : AL) (p1 : Int) (p2 : Int) (r : Bool) (h : EA N p0 p1 p2 = some r) : Ar zA 199 [.e (.agg (CA p0)), pD (.val (.int .u8 p1)), iD p2] [] (bD r) := by
 unfold EA at h
 refine cw (n := 25) (rs := [.tmp 6]) Tryz.func199 fun w0 S0 => ?_
 refine wq rfl (qb rfl (qa rfl (Ac (wp rfl (qm rfl (qe rfl ?_))))))
 refine A5 (L := CE N p0 p2) h (fun v1 => mk [(2, iD p2), (3, oD (.ptr 3 0)), (7, pD (.val (.int .u8 v1)))] [(3, .box (CA p0))]) (fun v2 => mk [] []) (fun _ _ => rfl) (sm [] _ _ rfl rfl) (fun j1 n1 v1 h => ?_) (fun v2 s h hs => ?_)
 ·unfold CE at h
  refine wp rfl (qm rfl (BE rfl (Ac ?_)))
  refine Bb h (fun h => ?_) fun h => ?_
  ·refine Ap (AS (AR (wq rfl (qf D9 rfl (ql Fd rfl (qm rfl ?_))))))
   refine B0 h fun v4 a4 h => Aw [] (Hp N v1 v4 a4) WS rfl ?_
   refine BK h fun v5 a5 b5 h => qi D2 JA a5 (Ah b5) rfl (qk JF rfl (qm rfl ?_))
   refine BK h fun v6 a6 b6 h => qi HR RH a6 (Ah b6) rfl (qk Q2 rfl (Cb rfl (AG (by kernel_rfl) ?_)))
   refine Bb h (fun h => ?_) fun h => ?_
   ·refine wq rfl (qe rfl ?_)
    obtain rfl := sj h
    refine Af (sm [] [(6, bD false)] [] rfl rfl) (Aq ?_)
    exact ⟨⟨[_], tm, rfl⟩, tv⟩
   ·refine Ap (Aj Ax rfl (qw 2 rfl (J1 rfl (Nr rfl (qe rfl ?_)))))
    exact sn [] h
  ·refine BS ?_
   exact sn [] h
 ·refine Af hs (wq rfl (qe rfl ?_))
  obtain rfl := sj h
  refine Af (sm [] [(6, bD true)] [] rfl rfl) (Aq ?_)
  exact ⟨⟨[_], tm, rfl⟩, tv⟩
theorem N9 (N : Nat) (p0 : Aa) (p1 : Ae) (p2 : Int) (r : Bool × (List Int)) (h : Fq N p0 p1 p2 = some r) : DO zA 193 [.e (.agg (Ak p0)), oD (.ptr 90000 0), iD p2] [(.box [.own 90001, .own 90002, .own 90003], .box [.own 90001, .own 90002, .own 90003]), (.vec 1 (p1.fh.map As), .vec 1 (p1.fh.map As)), (.vec 1 (p1.ff.map As), .vec 1 (p1.ff.map As)), (.vec 1 (p1.fg.map Dq), .vec 1 (r.2.map Dq))] [] (bD r.1) := by
 unfold Fq at h
 refine Du (n := 68) (rs := [.tmp 6]) Tryz.func193 rfl rfl rfl (Hd rfl) (Hd rfl) rfl rfl (Hd rfl) rfl (Hd rfl) fun w0 S0 GL => ?_
 refine Af (sm [] [(0, .e (.agg (Ak p0))), (1, oD (.ptr 90000 0)), (2, iD p2)] [(90000, .box [.own 90001, .own 90002, .own 90003]), (90001, .vec 1 (p1.fh.map As)), (90002, .vec 1 (p1.ff.map As)), (90003, .vec 1 (p1.fg.map Dq))] rfl rfl) (wq rfl (qb rfl (qa rfl (Ac (wq rfl (qf BA rfl (ql EU rfl (qm rfl ?_))))))))
 refine BK h fun v1 a1 b1 h => qi CR BM a1 (Ah b1) rfl (qK Ey BM rfl (qz I6 rfl (qs BM rfl (Ac (wp rfl (qL Ey BM rfl ?_))))))
 refine B0 h fun v2 a2 h => Aw [] (JE N v1 v2 a2) Um rfl (Cb rfl (Ac ?_))
 refine Bb h (fun h => ?_) fun h => ?_
 ·refine wq rfl (qe rfl ?_)
  obtain rfl := sj h
  refine Af (sm [] [(6, bD false)] [(90000, .box [.own 90001, .own 90002, .own 90003]), (90001, .vec 1 (p1.fh.map As)), (90002, .vec 1 (p1.ff.map As)), (90003, .vec 1 (p1.fg.map Dq))] rfl rfl) (Aq ?_)
  exact ⟨⟨[_], tm, rfl⟩, ⟨rfl, rfl, rfl, rfl, tv⟩, tv⟩
 ·refine Ap (wq rfl (qm rfl (HT rfl (qL B1 AV rfl (qf Ce rfl (ql AX rfl ?_))))))
  refine B0 h fun v4 a4 h => HF [] [90001, 90002, 90003] (LY N p1 v1.fj v4 a4) VJ FI rfl (qa rfl (AG (by kernel_rfl) (wq rfl (qm rfl (HT rfl (qf CI rfl (ql G6 rfl (qm rfl ?_))))))))
  refine BK h fun v5 a5 b5 h => qI DT DW a5 (Ah b5) rfl (qj Hu (Ah b5) rfl (qm rfl (Hl rfl (qa rfl (Ac (AS ?_))))))
  refine AI h (fun v6 => mk [(1, oD (.ptr 90000 0)), (2, iD p2), (8, pD (.val (.int .u8 v4))), (60, bD v6)] [(90000, .box [.own 90001, .own 90002, .own 90003]), (90001, .vec 1 (p1.fh.map As)), (90002, .vec 1 (p1.ff.map As)), (90003, .vec 1 (p1.fg.map Dq))]) (fun j6 h => ?_) (fun v6 h => ?_)
  ·refine Aj Ax rfl (qm rfl (HT rfl (qf CI rfl (ql G6 rfl (qm rfl ?_)))))
   refine BK h fun v7 a7 b7 h => qI DT DW a7 (Ah b7) rfl (qj Hu (Ah b7) rfl (qm rfl (AP rfl (qm rfl ?_))))
   refine Cv 42 h rfl (fun h => ?_) fun h => ?_
   ·refine qw 4 rfl (qu rfl (qu rfl (qu rfl (qu rfl (qu rfl (qu rfl (qu rfl (qu rfl (qu rfl (qu rfl (qu rfl (qu rfl (qn rfl (qp rfl (AG (by kernel_rfl) ?_)))))))))))))))
    exact sn [] h
   ·refine qf D1 rfl (ql AX rfl (AP rfl (qm rfl ?_)))
    refine Cv 46 h rfl (fun h => ?_) fun h => ?_
    ·refine qL Ey BM rfl (qw 2 rfl (HT rfl (qf C3 rfl (ql Bf rfl (qf Ce rfl (ql AX rfl ?_))))))
     refine BK h fun v10 a10 b10 h => qI AB CL a10 (Ah b10) rfl (qj AX (Ah b10) rfl ?_)
     refine B0 h fun v11 a11 h => Aw [] (Kx N v1 ((Cs .u8 v5 v4)) v10 v11 a11) V5 rfl (Cb rfl (qp rfl (qp rfl (AG (by kernel_rfl) ?_))))
     exact sn [] h
    ·refine qw 12 rfl (qp rfl (qp rfl (AG (by kernel_rfl) ?_)))
     exact sn [] h
  ·refine Bb h (fun h => ?_) fun h => ?_
   ·refine wq rfl (qe rfl ?_)
    obtain rfl := sj h
    refine Af (sm [] [(6, bD false)] [(90000, .box [.own 90001, .own 90002, .own 90003]), (90001, .vec 1 (p1.fh.map As)), (90002, .vec 1 (p1.ff.map As)), (90003, .vec 1 (p1.fg.map Dq))] rfl rfl) (Aq ?_)
    exact ⟨⟨[_], tm, rfl⟩, ⟨rfl, rfl, rfl, rfl, tv⟩, tv⟩
   ·refine Ap (wq rfl (qm rfl (HT rfl (qf CI rfl (ql G6 rfl (qw 2 rfl ?_))))))
    refine BK h fun v13 a13 b13 h => qI DT DW a13 (Ah b13) rfl ?_
    refine EI rfl rfl rfl rfl (Ah b13) rfl DW rfl (Hd rfl) (EF Dq p1.fg _ v4) ?_
    refine Ac (wq rfl (qe rfl ?_))
    obtain rfl := sj h
    refine Af (sm [] [(6, bD true)] [(90000, .box [.own 90001, .own 90002, .own 90003]), (90001, .vec 1 (p1.fh.map As)), (90002, .vec 1 (p1.ff.map As)), (90003, .vec 1 ((p1.fg.set ((p2).toNat) v4).map Dq))] rfl rfl) (Aq ?_)
    exact ⟨⟨[_], tm, rfl⟩, ⟨rfl, rfl, rfl, rfl, tv⟩, tv⟩
theorem On (N : Nat) (p0 : Aa) (p1 : Ae) (p2 : Al) (r : Ae × Bool) (h : Fn N p0 p1 p2 = some r) : Ar zA 180 [.e (.agg (Ak p0)), .e (.agg (Bi p1)), .e (.agg (BR p2))] [(1, r.1.fh.map As), (1, r.1.ff.map As), (1, r.1.fg.map Dq)] (.tup [.agg [.own 0, .own 1, .own 2], .one (.pure (.val (.bool r.2)))]) := by
 unfold Fn at h
 refine cw (n := 51) (rs := [.cell 6 40, .tmp 7]) Tryz.func180 fun w0 S0 => ?_
 refine wq rfl (qb rfl (qb rfl (qb rfl (qz Do rfl (qa rfl (Ac (wq rfl (qL B1 AV rfl ?_))))))))
 refine B0 h fun v1 a1 h => Aw [2001, 2002, 2003] (JD N p1 v1 a1) Us rfl (qz Do rfl (qs AV rfl (Ac (wp rfl (qf C5 rfl (ql AX rfl (Ac (AR (wq rfl (AP rfl (qe rfl ?_)))))))))))
 refine Bb h (fun h => ?_) fun h => ?_
 ·refine wq rfl (qL B1 AV rfl (qL Dg C8 rfl (qL Iw FR rfl ?_)))
  refine B0 h fun v3 a3 h => Fu (ds0 := [_, _, _]) [8, 2001, 2002, 2003] [] [false, false, true, true] (NJ N p0 v1 p2 v3 a3) (.p rfl) V3 rfl ⟨rfl, rfl, rfl, tv⟩ rfl rfl (Ew rfl) ⟨rfl, rfl, rfl, rfl, tv⟩ rfl (De rfl) tv ⟨(fun _ => rfl), (fun _ => rfl), (fun h => by cases h), (fun h => by cases h), tv⟩ rfl rfl rfl ?_
  refine qs AV rfl (qa rfl (AG (by kernel_rfl) ?_))
  obtain rfl := sj h
  refine Af (sm [(1000, 2001), (1001, 2002), (1002, 2003)] [(6, oD (.ptr 6 0)), (7, bD v3.1)] [(6, .box [.own 1000, .own 1001, .own 1002]), (1000, .vec 1 (v1.fh.map As)), (1001, .vec 1 (v3.2.1.map As)), (1002, .vec 1 (v3.2.2.map Dq))] rfl rfl) (Aq ?_)
  exact ⟨⟨[_, _], ⟨.cellN _ _ _ _ _ _ _ rfl rfl B1 AV rfl rfl (HL rfl), tm⟩, rfl⟩, ⟨rfl, rfl, rfl, tv⟩⟩
 ·refine wq rfl (AP rfl (qe rfl ?_))
  refine Bb h (fun h => ?_) fun h => ?_
  ·refine wq rfl (qL B1 AV rfl (qL Dg C8 rfl (qf DK rfl (ql AX rfl ?_))))
   refine B0 h fun v5 a5 h => Fu (ds0 := [_, _, _]) [8, 2001, 2002, 2003] [] [false, false, false, true] (N9 N p0 v1 p2.fm v5 a5) (.p rfl) Wi rfl ⟨rfl, rfl, rfl, tv⟩ rfl rfl (Ew rfl) ⟨rfl, rfl, rfl, rfl, tv⟩ rfl (De rfl) tv ⟨(fun _ => rfl), (fun _ => rfl), (fun _ => rfl), (fun h => by cases h), tv⟩ rfl rfl rfl ?_
   refine qs AV rfl (qa rfl (AG (by kernel_rfl) ?_))
   obtain rfl := sj h
   refine Af (sm [(1000, 2001), (1001, 2002), (1002, 2003)] [(6, oD (.ptr 6 0)), (7, bD v5.1)] [(6, .box [.own 1000, .own 1001, .own 1002]), (1000, .vec 1 (v1.fh.map As)), (1001, .vec 1 (v1.ff.map As)), (1002, .vec 1 (v5.2.map Dq))] rfl rfl) (Aq ?_)
   exact ⟨⟨[_, _], ⟨.cellN _ _ _ _ _ _ _ rfl rfl B1 AV rfl rfl (HL rfl), tm⟩, rfl⟩, ⟨rfl, rfl, rfl, tv⟩⟩
  ·refine Ap (wq rfl (qf BU rfl (ql Bf rfl (qf DK rfl (ql AX rfl ?_)))))
   refine BK h fun v6 a6 b6 h => qI AB CL a6 (Ah b6) rfl (qj AX (Ah b6) rfl (qa rfl (Ac (wp rfl (qm rfl (A2 rfl (Ac ?_)))))))
   refine Bb h (fun h => ?_) fun h => ?_
   ·refine wq rfl (qL B1 AV rfl (qs AV rfl (qe rfl ?_)))
    obtain rfl := sj h
    refine Af (sm [(1000, 2001), (1001, 2002), (1002, 2003)] [(6, oD (.ptr 6 0)), (7, bD false)] [(6, .box [.own 1000, .own 1001, .own 1002]), (1000, .vec 1 (v1.fh.map As)), (1001, .vec 1 (v1.ff.map As)), (1002, .vec 1 (v1.fg.map Dq))] rfl rfl) (Aq ?_)
    exact ⟨⟨[_, _], ⟨.cellN _ _ _ _ _ _ _ rfl rfl B1 AV rfl rfl (HL rfl), tm⟩, rfl⟩, ⟨rfl, rfl, rfl, tv⟩⟩
   ·refine Ap (wq rfl (qf BU rfl (ql Bf rfl (qf DK rfl (ql AX rfl ?_)))))
    refine BK h fun v8 a8 b8 h => qI AB CL a8 (Ah b8) rfl ?_
    refine EI rfl rfl rfl rfl (Ah b8) rfl CL rfl (Hd rfl) (EF As v1.ff _ ((-1))) ?_
    refine Ac ?_
    refine AI h (fun v9 => mk [(6, oD (.ptr 6 0)), (8, oD (.ptr 8 0))] [(6, .box [.pure (.nil0), .pure (.nil0), .pure (.nil0)]), (8, .box [.own 2004, .own 2005, .own 2006]), (2004, .vec 1 (v9.map As)), (2005, .vec 1 ((v1.ff.set ((p2.fm).toNat) ((-1))).map As)), (2006, .vec 1 (v1.fg.map Dq))]) (fun j9 h => ?_) (fun v9 h => ?_)
    ·refine wq rfl (qf C5 rfl (ql AX rfl (AP rfl (Ac ?_))))
     refine Bb h (fun h => ?_) fun h => ?_
     ·refine Aj Ax rfl (qf C3 rfl (ql Bf rfl (qf DK rfl (ql AX rfl (qm rfl ?_)))))
      refine BK h fun v11 a11 b11 h => qI AB CL a11 (Ah b11) rfl ?_
      refine EI rfl rfl rfl rfl (Ah b11) rfl CL rfl (Hd rfl) (EF As v1.fh _ v6) ?_
      refine Ac ?_
      exact sn [(2004, 2001), (2005, 2002), (2006, 2003)] h
     ·refine Ap ?_
      exact sn [(2004, 2001), (2005, 2002), (2006, 2003)] h
    ·refine wq rfl (qL B1 AV rfl (qs AV rfl (qe rfl ?_)))
     obtain rfl := sj h
     refine Af (sm [(1000, 2004), (1001, 2005), (1002, 2006)] [(6, oD (.ptr 6 0)), (7, bD true)] [(6, .box [.own 1000, .own 1001, .own 1002]), (1000, .vec 1 (v9.map As)), (1001, .vec 1 ((v1.ff.set ((p2.fm).toNat) ((-1))).map As)), (1002, .vec 1 (v1.fg.map Dq))] rfl rfl) (Aq ?_)
     exact ⟨⟨[_, _], ⟨.cellN _ _ _ _ _ _ _ rfl rfl B1 AV rfl rfl (HL rfl), tm⟩, rfl⟩, ⟨rfl, rfl, rfl, tv⟩⟩
theorem Kt (N : Nat) (p0 : Aa) (p1 : Ae) (p2 : Al) (r : Ae × Int) (h : EK N p0 p1 p2 = some r) : Ar zA 154 [.e (.agg (Ak p0)), .e (.agg (Bi p1)), .e (.agg (BR p2))] [(1, r.1.fh.map As), (1, r.1.ff.map As), (1, r.1.fg.map Dq)] (.tup [.agg [.own 0, .own 1, .own 2], .one (iC r.2)]) := by
 unfold EK at h
 refine cw (n := 32) (rs := [.cell 6 40, .tmp 7]) Tryz.func154 fun w0 S0 => ?_
 refine wq rfl (qb rfl (qb rfl (qb rfl (qz Do rfl (qa rfl (Ac (AS (AR (wq rfl (qL Iw FR rfl ?_))))))))))
 refine B0 h fun v1 a1 h => Aw [] (NH N p2 v1 a1) VC rfl (Cb rfl (qe rfl ?_))
 refine Bb h (fun h => ?_) fun h => ?_
 ·refine wq rfl (Bs Do G7 rfl (qs AV rfl (qe rfl ?_)))
  obtain rfl := sj h
  refine Af ((Az 6 0 2001 1 _ rfl rfl rfl rfl).trans ((Az 6 1 2002 1 _ rfl rfl rfl rfl).trans ((Az 6 2 2003 1 _ rfl rfl rfl rfl).trans (sm [(1000, 2001), (1001, 2002), (1002, 2003)] [(6, oD (.ptr 6 0)), (7, iD 1)] [(6, .box [.own 1000, .own 1001, .own 1002]), (1000, .vec 1 ((([] : List Int)).map As)), (1001, .vec 1 ((([] : List Int)).map As)), (1002, .vec 1 ((([] : List Int)).map Dq))] rfl rfl)))) (Aq ?_)
  exact ⟨⟨[_, _], ⟨.cellN _ _ _ _ _ _ _ rfl rfl B1 AV rfl rfl (HL rfl), tm⟩, rfl⟩, ⟨rfl, rfl, rfl, tv⟩⟩
 ·refine wq rfl (qL Dg C8 rfl (qL Iw FR rfl ?_))
  refine B0 h fun v3 a3 h => Aw [] (MR N p0 p2 v3 a3) VM rfl (Cb rfl (qe rfl ?_))
  refine Bb h (fun h => ?_) fun h => ?_
  ·refine wq rfl (Bs Do G7 rfl (qs AV rfl (qe rfl ?_)))
   obtain rfl := sj h
   refine Af ((Az 6 0 2004 1 _ rfl rfl rfl rfl).trans ((Az 6 1 2005 1 _ rfl rfl rfl rfl).trans ((Az 6 2 2006 1 _ rfl rfl rfl rfl).trans (sm [(1000, 2004), (1001, 2005), (1002, 2006)] [(6, oD (.ptr 6 0)), (7, iD 4)] [(6, .box [.own 1000, .own 1001, .own 1002]), (1000, .vec 1 ((([] : List Int)).map As)), (1001, .vec 1 ((([] : List Int)).map As)), (1002, .vec 1 ((([] : List Int)).map Dq))] rfl rfl)))) (Aq ?_)
   exact ⟨⟨[_, _], ⟨.cellN _ _ _ _ _ _ _ rfl rfl B1 AV rfl rfl (HL rfl), tm⟩, rfl⟩, ⟨rfl, rfl, rfl, tv⟩⟩
  ·refine Ap (wq rfl (qL Dg C8 rfl (qL B1 AV rfl (qL Iw FR rfl ?_))))
   refine B0 h fun v5 a5 h => Aw [2007, 2008, 2009] (On N p0 p1 p2 v5 a5) V9 rfl (qm rfl (qx rfl (qx rfl (qz Do rfl (qs AV rfl (qa rfl (Ac (wp rfl (qm rfl (Cb rfl (Ac ?_)))))))))))
   refine Bb h (fun h => ?_) fun h => ?_
   ·refine wq rfl (Bs Do G7 rfl (qs AV rfl (qe rfl ?_)))
    obtain rfl := sj h
    refine Af ((Az 6 0 2010 1 _ rfl rfl rfl rfl).trans ((Az 6 1 2011 1 _ rfl rfl rfl rfl).trans ((Az 6 2 2012 1 _ rfl rfl rfl rfl).trans (sm [(1000, 2010), (1001, 2011), (1002, 2012)] [(6, oD (.ptr 6 0)), (7, iD 11)] [(6, .box [.own 1000, .own 1001, .own 1002]), (1000, .vec 1 ((([] : List Int)).map As)), (1001, .vec 1 ((([] : List Int)).map As)), (1002, .vec 1 ((([] : List Int)).map Dq))] rfl rfl)))) (Aq ?_)
    exact ⟨⟨[_, _], ⟨.cellN _ _ _ _ _ _ _ rfl rfl B1 AV rfl rfl (HL rfl), tm⟩, rfl⟩, ⟨rfl, rfl, rfl, tv⟩⟩
   ·refine Ap (wq rfl (qL B1 AV rfl (qs AV rfl (qe rfl ?_))))
    obtain rfl := sj h
    refine Af (sm [(1000, 2007), (1001, 2008), (1002, 2009)] [(6, oD (.ptr 6 0)), (7, iD 0)] [(6, .box [.own 1000, .own 1001, .own 1002]), (1000, .vec 1 (v5.1.fh.map As)), (1001, .vec 1 (v5.1.ff.map As)), (1002, .vec 1 (v5.1.fg.map Dq))] rfl rfl) (Aq ?_)
    exact ⟨⟨[_, _], ⟨.cellN _ _ _ _ _ _ _ rfl rfl B1 AV rfl rfl (HL rfl), tm⟩, rfl⟩, ⟨rfl, rfl, rfl, tv⟩⟩
theorem PM (N : Nat) (p0 : Aa) (p1 : Ae) (p2 : List Al) (r : (List Ae) × Int × Int) (h : GF N p0 p1 p2 = some r) : Ar zA 113 [.e (.agg (Ak p0)), .e (.agg (Bi p1)), pD (.sl (p2.map AN))] [(3, r.1.map EY)] (.tup [.one (.own 0), .one (iC r.2.1), .one (iC r.2.2)]) := by
 unfold GF at h
 refine cw (n := 53) (rs := [.tmp 6, .tmp 7, .tmp 8]) Tryz.func113 fun w0 S0 => ?_
 refine wq rfl (qb rfl (qb rfl (qa rfl (qa rfl (qa rfl (Ac (wp rfl (qL Dg C8 rfl (qL B1 AV rfl ?_)))))))))
 refine B0 h fun v1 a1 h => Aw [] (Lb N p0 p1 v1 a1) Ul rfl (qa rfl (Ac (wq rfl (qm rfl (BE rfl (Ac ?_))))))
 refine Bb h (fun h => ?_) fun h => ?_
 ·refine wq rfl (qm rfl (qa rfl (qa rfl (qe rfl ?_))))
  obtain rfl := sj h
  refine Af ((Fx 6 2001 3 rfl rfl rfl).trans (sm [(1000, 2001)] [(6, oD (.own 1000)), (7, iD 0), (8, iD v1)] [(1000, .vec 3 ((([] : List Ae)).map EY))] rfl rfl)) (Aq ?_)
  exact ⟨⟨[_, _, _], ⟨.tmp _ _ rfl, ⟨.tmp _ _ rfl, tm⟩⟩, rfl⟩, ⟨rfl, tv⟩⟩
 ·refine Ap (wq rfl (qL B1 AV rfl ?_))
  refine B0 h fun v3 a3 h => Aw [2002, 2003, 2004] (JD N p1 v3 a3) Us rfl (FJ (A8 2002 _ _ rfl rfl) (FJ (A8 2003 _ _ rfl rfl) (FJ (A8 2004 _ _ rfl rfl) (FO HJ AV Do rfl (qa rfl (Ac (wp rfl (qm rfl (AH F4 rfl (qm rfl (Ac ?_)))))))))))
  refine A5 (L := En N p0 p2) h (fun v4 => mk [(2, pD (.sl (p2.map AN))), (3, oD (.ptr 3 0)), (10, oD (.own 2005)), (24, pD (.sl (p2.map AN))), (25, iD ((p2.length : Int))), (26, iD v4.2)] [(3, .box (Ak p0)), (2005, .vec 3 (v4.1.map EY))]) (fun v5 => mk [(2, pD (.sl (p2.map AN))), (10, oD (.own 2006))] [(2006, .vec 3 (v5.map EY))]) (fun _ _ => rfl) (sm [(2005, 23)] _ _ rfl rfl) (fun j4 n4 v4 h => ?_) (fun v5 s h hs => ?_)
  ·unfold En at h
   refine wq rfl (A2 rfl (Ac (AS ?_)))
   refine Bb h (fun h => ?_) fun h => ?_
   ·refine Ap (AS (AR (wq rfl (qm rfl ?_))))
    refine BK h fun v7 a7 b7 h => qi F4 FR a7 (Ah b7) rfl (qK Iw FR rfl (qz Pz rfl (qa rfl (qs FR rfl (Ac (wq rfl (qL Dg C8 rfl (qw 2 rfl ?_))))))))
    refine BK h fun v8 a8 b8 h => qI HJ AV a8 (Ah b8) rfl (qJ B1 AV (Ah b8) rfl (qL Iw FR rfl ?_))
    refine B0 h fun v9 a9 h => Aw [2007, 2008, 2009] (Kt N p0 v8 v7 v9 a9) UG rfl (qm rfl (qx rfl (qx rfl (qz Do rfl (qs AV rfl (qa rfl (AG (by kernel_rfl) (wp rfl (qm rfl (BE rfl (Ac ?_)))))))))))
    refine Bb h (fun h => ?_) fun h => ?_
    ·refine wq rfl (qw 2 rfl (qa rfl (qa rfl (qe rfl ?_))))
     obtain rfl := sj h
     refine Af ((Fx 6 2010 3 rfl rfl rfl).trans (sm [(1000, 2010)] [(6, oD (.own 1000)), (7, iD v4.2), (8, iD v9.2)] [(1000, .vec 3 ((([] : List Ae)).map EY))] rfl rfl)) (Aq ?_)
     exact ⟨⟨[_, _, _], ⟨.tmp _ _ rfl, ⟨.tmp _ _ rfl, tm⟩⟩, rfl⟩, ⟨rfl, tv⟩⟩
    ·refine Ap (Aj Ax rfl (qm rfl (qL B1 AV rfl (FJ (A8 2007 _ _ rfl rfl) (FJ (A8 2008 _ _ rfl rfl) (FJ (A8 2009 _ _ rfl rfl) (FO HJ AV Do rfl ?_)))))))
     refine HS h fun c11 h => LN (f := EY) HJ HJ AV UE Do c11 rfl (qa rfl (Ac (Aj Ax rfl (Cl rfl (qm rfl (Ac ?_))))))
     exact sn [(2005, 48)] h
   ·refine BS ?_
    exact sn [(2006, 2005)] h
  ·refine Af hs (wq rfl (qw 2 rfl (AH F4 rfl (qa rfl (qa rfl (qe rfl ?_))))))
   obtain rfl := sj h
   refine Af (sm [(1000, 2006)] [(6, oD (.own 1000)), (7, iD ((p2.length : Int))), (8, iD 0)] [(1000, .vec 3 (v5.map EY))] rfl rfl) (Aq ?_)
   exact ⟨⟨[_, _, _], ⟨.tmp _ _ rfl, ⟨.tmp _ _ rfl, tm⟩⟩, rfl⟩, ⟨rfl, tv⟩⟩
theorem HE (N : Nat) (p0 : Aa) (p1 : List Al) (r : Ae × Int) (h : Dp N p0 p1 = some r) : Ar zA 72 [.e (.agg (Ak p0)), pD (.sl (p1.map AN))] [] (.tup [.agg (Bi r.1), .one (iC r.2)]) := by
 unfold Dp at h
 refine cw (n := 30) (rs := [.cell 4 40, .tmp 5]) Tryz.func72 fun w0 S0 => ?_
 refine wq rfl (qb rfl (qz Do rfl (qa rfl (Ac (wp rfl (qm rfl ?_))))))
 refine B0 h fun v1 a1 h => Aw [] (Ar.weak (ds' := [pD (.sl (p1.map AN)), oD (.fnc 111)]) (E0 N p1 ((fun (x : Al) => DD N x)) v1 a1) ⟨(fun _ _ _ hh => hh), (fun _ _ _ hh => Om VO (fun ar t ht => by obtain ⟨x, r, rfl, hq, rfl⟩ := Jc ht; exact Jv N x r hq) hh), tv⟩) Ws rfl ?_
 refine Ac ?_
 refine Bb h (fun h => ?_) fun h => ?_
 ·refine wq rfl (Bs Do G7 rfl (qs AV rfl (qe rfl ?_)))
  obtain rfl := sj h
  refine Af ((Jg 4 _ rfl).trans (sm [] [(4, oD (.ptr 4 0)), (5, iD 1)] [(4, .box [sC ((([] : List Int)).map As), sC ((([] : List Int)).map As), sC ((([] : List Int)).map Dq)])] rfl rfl)) (Aq ?_)
  exact ⟨⟨[_, _], ⟨.cellN _ _ _ _ _ _ _ rfl rfl B1 AV rfl rfl (HL rfl), tm⟩, rfl⟩, tv⟩
 ·refine Ap (wq rfl (qL Dg C8 rfl ?_))
  refine B0 h fun v3 a3 h => Aw [2001, 2002, 2003] (OP N p0 v3 a3) Wf rfl (qm rfl (qx rfl (qx rfl (qz Do rfl (qs AV rfl (qa rfl (Ac (wp rfl (qm rfl (BE rfl (Ac ?_)))))))))))
  refine Bb h (fun h => ?_) fun h => ?_
  ·refine wq rfl (Bs Do G7 rfl (qm rfl (qs AV rfl (qe rfl ?_))))
   obtain rfl := sj h
   refine Af ((Jg 4 _ rfl).trans (sm [] [(4, oD (.ptr 4 0)), (5, iD v3.2)] [(4, .box [sC ((([] : List Int)).map As), sC ((([] : List Int)).map As), sC ((([] : List Int)).map Dq)])] rfl rfl)) (Aq ?_)
   exact ⟨⟨[_, _], ⟨.cellN _ _ _ _ _ _ _ rfl rfl B1 AV rfl rfl (HL rfl), tm⟩, rfl⟩, tv⟩
  ·refine Ap (wq rfl (qL Dg C8 rfl (qL B1 AV rfl (qm rfl (FJ (A8 2001 _ _ rfl rfl) (FJ (A8 2002 _ _ rfl rfl) (FJ (A8 2003 _ _ rfl rfl) ?_)))))))
   refine B0 h fun v5 a5 h => Aw [2004] (PM N p0 v3.1 p1 v5 a5) Wy rfl (qm rfl (qx rfl (qx rfl (qx rfl (qa rfl (Ac (wq rfl (qL B1 AV rfl (qm rfl (qs AV rfl (qe rfl ?_)))))))))))
   obtain rfl := sj h
   refine Af (sm [] [(4, oD (.ptr 4 0)), (5, iD v5.2.2)] [(4, .box (Bi v3.1))] rfl rfl) (Aq ?_)
   exact ⟨⟨[_, _], ⟨.cellN _ _ _ _ _ _ _ rfl rfl B1 AV rfl rfl (HL rfl), tm⟩, rfl⟩, tv⟩
theorem Kl (N : Nat) (p0 : Int) (r : ByteArray) (h : EJ N p0 = some r) : Ar zA 119 [iD p0] [] (pD (.val (.string r))) := by
 unfold EJ at h
 refine cw (n := 14) (rs := [.tmp 2]) Tryz.func119 fun w0 S0 => ?_
 refine wq rfl (qa rfl (Ac (wq rfl ?_)))
 refine R7 [(1, .const (.string ⟨#[114, 101, 97, 100]⟩), _), (2, .const (.string ⟨#[98, 101, 103, 105, 110]⟩), _), (3, .const (.string ⟨#[100, 111, 110, 101]⟩), _), (4, .const (.string ⟨#[97, 98, 111, 114, 116]⟩), _), (5, .const (.string ⟨#[114, 101, 115, 117, 109, 101]⟩), _), (6, .const (.string ⟨#[115, 119, 105, 116, 99, 104]⟩), _), (7, .const (.string ⟨#[108, 101, 97, 115, 101]⟩), _)] (.p rfl) rfl ⟨rfl, rfl, rfl, rfl, rfl, rfl, rfl, tv⟩ Ux rfl rfl S1 W0 rfl ?_
 refine qz Ux rfl (qs Ww rfl (Ac (AS ?_)))
 refine AI h (fun v1 => mk [(0, iD p0), (3, oD (.ptr 3 0)), (10, bD v1)] [(3, .box [.pure (.val (.string (⟨#[]⟩))), .pure (.val (.string ((⟨#[114, 101, 97, 100]⟩ : ByteArray)))), .pure (.val (.string ((⟨#[98, 101, 103, 105, 110]⟩ : ByteArray)))), .pure (.val (.string ((⟨#[100, 111, 110, 101]⟩ : ByteArray)))), .pure (.val (.string ((⟨#[97, 98, 111, 114, 116]⟩ : ByteArray)))), .pure (.val (.string ((⟨#[114, 101, 115, 117, 109, 101]⟩ : ByteArray)))), .pure (.val (.string ((⟨#[115, 119, 105, 116, 99, 104]⟩ : ByteArray)))), .pure (.val (.string ((⟨#[108, 101, 97, 115, 101]⟩ : ByteArray))))])]) (fun j1 h => ?_) (fun v1 h => ?_)
 ·refine Aj Ax rfl (qm rfl (A2 rfl (qm rfl ?_)))
  refine Cv 7 h rfl (fun h => ?_) fun h => ?_
  ·refine qw 2 rfl (qp rfl (Ac ?_))
   exact sn [] h
  ·refine qm rfl (Da rfl (qp rfl (Ac ?_)))
   exact sn [] h
 ·refine Bb h (fun h => ?_) fun h => ?_
  ·refine wq rfl (qe rfl ?_)
   obtain rfl := sj h
   refine Af (sm [] [(2, pD (.val (.string ((⟨#[]⟩ : ByteArray)))))] [] rfl rfl) (Aq ?_)
   exact ⟨⟨[_], tm, rfl⟩, tv⟩
  ·refine Ap (wq rfl (qm rfl (FJ (IW 3 [.val (.string (⟨#[]⟩)), .val (.string ((⟨#[114, 101, 97, 100]⟩ : ByteArray))), .val (.string ((⟨#[98, 101, 103, 105, 110]⟩ : ByteArray))), .val (.string ((⟨#[100, 111, 110, 101]⟩ : ByteArray))), .val (.string ((⟨#[97, 98, 111, 114, 116]⟩ : ByteArray))), .val (.string ((⟨#[114, 101, 115, 117, 109, 101]⟩ : ByteArray))), .val (.string ((⟨#[115, 119, 105, 116, 99, 104]⟩ : ByteArray))), .val (.string ((⟨#[108, 101, 97, 115, 101]⟩ : ByteArray)))] rfl rfl) ?_)))
   refine BK h fun v4 a4 b4 h => R9 (.p rfl) rfl rfl S1 W0 rfl a4 (Ah (f := fun q : ByteArray => T.val (.string q)) b4) ?_
   refine qk XR rfl (qe rfl ?_)
   obtain rfl := sj h
   refine Af (sm [] [(2, pD (.val (.string v4)))] [] rfl rfl) (Aq ?_)
   exact ⟨⟨[_], tm, rfl⟩, tv⟩
theorem IZ (N : Nat) (p0 : Ab) (r : (List Int)) (h : DR N p0 = some r) : Ar zA 120 [.e (.agg (AO p0))] [(1, r.map As)] (oD (.own 0)) := by
 unfold DR at h
 refine cw (n := 35) (rs := [.tmp 2]) Tryz.func120 fun w0 S0 => ?_
 refine wq rfl (qb rfl (qa rfl (Ac (wp rfl (qf Ca rfl (ql AX rfl (Ac (AR (wq rfl (AP rfl (qe rfl ?_)))))))))))
 refine Bb h (fun h => ?_) fun h => ?_
 ·refine wq rfl (qf Fw rfl (ql AX rfl (qf Ft rfl (ql AX rfl (qf Gy rfl (ql AX rfl (FO Cu IB Ub rfl (qe rfl ?_))))))))
  obtain rfl := sj h
  refine Af (sm [(1000, 13)] [(2, oD (.own 1000))] [(1000, .vec 1 ((([p0.fv, p0.fw, p0.fC] : List Int)).map As))] rfl rfl) (Aq ?_)
  exact ⟨⟨[_], tm, rfl⟩, ⟨rfl, tv⟩⟩
 ·refine wq rfl (AP rfl (qe rfl ?_))
  refine Bb h (fun h => ?_) fun h => ?_
  ·refine wq rfl (qf Gw rfl (ql AX rfl (qf Ji rfl (ql AX rfl (qf HI rfl (ql AX rfl (FO Cu IB Ub rfl (qe rfl ?_))))))))
   obtain rfl := sj h
   refine Af (sm [(1000, 22)] [(2, oD (.own 1000))] [(1000, .vec 1 ((([p0.ft, p0.fq, p0.fD] : List Int)).map As))] rfl rfl) (Aq ?_)
   exact ⟨⟨[_], tm, rfl⟩, ⟨rfl, tv⟩⟩
  ·refine wq rfl (AP rfl (qe rfl ?_))
   refine Bb h (fun h => ?_) fun h => ?_
   ·refine wq rfl (qf Kn rfl (ql AX rfl (qf Ej rfl (ql Hx rfl (FO Cu IB Ub rfl (qe rfl ?_))))))
    obtain rfl := sj h
    refine Af (sm [(1000, 29)] [(2, oD (.own 1000))] [(1000, .vec 1 ((([p0.fN, p0.fu] : List Int)).map As))] rfl rfl) (Aq ?_)
    exact ⟨⟨[_], tm, rfl⟩, ⟨rfl, tv⟩⟩
   ·refine Ap (wq rfl (qf Ja rfl (ql AX rfl (qf Ej rfl (ql Hx rfl (FO Cu IB Ub rfl (qe rfl ?_)))))))
    obtain rfl := sj h
    refine Af (sm [(1000, 34)] [(2, oD (.own 1000))] [(1000, .vec 1 ((([p0.fm, p0.fu] : List Int)).map As))] rfl rfl) (Aq ?_)
    exact ⟨⟨[_], tm, rfl⟩, ⟨rfl, tv⟩⟩
theorem MN (N : Nat) (p0 : Int) (p1 : Int) (p2 : List Int) (r : Ab) (h : Et N p0 p1 p2 = some r) : Ar zA 121 [iD p0, iD p1, pD (.sl (p2.map As))] [] (.e (.agg (AO r))) := by
 unfold Et at h
 refine cw (n := 59) (rs := [.cell 6 37]) Tryz.func121 fun w0 S0 => ?_
 refine wq rfl (qz IF rfl (Ac (wq rfl (qw 2 rfl (Bs IF RB rfl (qz IF rfl (qs CV rfl (Ac ?_))))))))
 refine AI h (fun v1 => mk [(6, oD (.ptr 6 0)), (7, oD (.ptr 7 0))] [(6, .box [iC 0, iC 0, iC 0, iC 0, iC 0, iC 0, iC 0, iC 0, iC 0, iC 0, iC 0]), (7, .box [iC p0, iC p1, iC v1.1, iC v1.2.1, iC v1.2.2.1, iC v1.2.2.2.1, iC v1.2.2.2.2.1, iC v1.2.2.2.2.2.1, iC v1.2.2.2.2.2.2.1, iC v1.2.2.2.2.2.2.2.1, iC v1.2.2.2.2.2.2.2.2])]) (fun j1 h => ?_) (fun v1 h => ?_)
 ·refine wq rfl (qm rfl (Ac (AR (wq rfl (AP rfl (qe rfl ?_))))))
  refine Bb h (fun h => ?_) fun h => ?_
  ·refine Aj Ax rfl (qm rfl ?_)
   refine BK h fun v3 a3 b3 h => qi Cu IB a3 (Ah b3) rfl (qk Hx rfl (qm rfl ?_))
   refine BK h fun v4 a4 b4 h => qi Cu IB a4 (Ah b4) rfl (qk Hx rfl (qm rfl ?_))
   refine BK h fun v5 a5 b5 h => qi Cu IB a5 (Ah b5) rfl (qk Hx rfl (qf Fw rfl (qs CL rfl (qf Ft rfl (qs CL rfl (qf Gy rfl (qs CL rfl (AG (by kernel_rfl) ?_))))))))
   exact sn [] h
  ·refine wq rfl (AP rfl (qe rfl ?_))
   refine Bb h (fun h => ?_) fun h => ?_
   ·refine Aj Ax rfl (qm rfl ?_)
    refine BK h fun v7 a7 b7 h => qi Cu IB a7 (Ah b7) rfl (qk Hx rfl (qm rfl ?_))
    refine BK h fun v8 a8 b8 h => qi Cu IB a8 (Ah b8) rfl (qk Hx rfl (qm rfl ?_))
    refine BK h fun v9 a9 b9 h => qi Cu IB a9 (Ah b9) rfl (qk Hx rfl (qf Gw rfl (qs CL rfl (qf Ji rfl (qs CL rfl (qf HI rfl (qs CL rfl (AG (by kernel_rfl) ?_))))))))
    exact sn [] h
   ·refine wq rfl (AP rfl (qe rfl ?_))
    refine Bb h (fun h => ?_) fun h => ?_
    ·refine Aj Ax rfl (qm rfl ?_)
     refine BK h fun v11 a11 b11 h => qi Cu IB a11 (Ah b11) rfl (qk Hx rfl (qm rfl ?_))
     refine BK h fun v12 a12 b12 h => qi Cu IB a12 (Ah b12) rfl (qk Hx rfl (qf Kn rfl (qs CL rfl (qf Ej rfl (qs IB rfl (AG (by kernel_rfl) ?_))))))
     exact sn [] h
    ·refine Aj Ax rfl (qm rfl ?_)
     refine BK h fun v13 a13 b13 h => qi Cu IB a13 (Ah b13) rfl (qk Hx rfl (qm rfl ?_))
     refine BK h fun v14 a14 b14 h => qi Cu IB a14 (Ah b14) rfl (qk Hx rfl (qf Ja rfl (qs CL rfl (qf Ej rfl (qs IB rfl (AG (by kernel_rfl) ?_))))))
     exact sn [] h
 ·refine wq rfl (qL E7 CV rfl (qs CV rfl (Ac ?_)))
  obtain rfl := sj h
  refine Af (sm [] [(6, oD (.ptr 6 0))] [(6, .box [iC p0, iC p1, iC v1.1, iC v1.2.1, iC v1.2.2.1, iC v1.2.2.2.1, iC v1.2.2.2.2.1, iC v1.2.2.2.2.2.1, iC v1.2.2.2.2.2.2.1, iC v1.2.2.2.2.2.2.2.1, iC v1.2.2.2.2.2.2.2.2])] rfl rfl) (Aq ?_)
  exact ⟨⟨[_], ⟨.cellN _ _ _ _ _ _ _ rfl rfl E7 CV rfl rfl (HL rfl), tv⟩, rfl⟩, tv⟩
theorem Gl (N : Nat) (p0 : List Int) (p1 : Int → Option Bool) (r : Int) (h : Ck N p0 p1 = some r) : Ar zA 157 [pD (.sl (p0.map As)), oD (.clo (IK (M5 false As) tB p1))] [] (iD r) := by
 unfold Ck at h
 refine cw (n := 19) (rs := [.tmp 4]) Tryz.func157 fun w0 S0 => ?_
 refine wq rfl (qa rfl (Ac (wp rfl (qm rfl (AH Cu rfl (qm rfl (Ac ?_)))))))
 refine A5 (L := A0 N p0 p1) h (fun v1 => mk [(0, pD (.sl (p0.map As))), (1, oD (.clo (IK (M5 false As) tB p1))), (7, iD ((p0.length : Int))), (8, iD v1)] []) (fun v2 => mk [] []) (fun _ _ => rfl) (sm [] _ _ rfl rfl) (fun j1 n1 v1 h => ?_) (fun v2 s h hs => ?_)
 ·unfold A0 at h
  refine wq rfl (A2 rfl (Ac (AS ?_)))
  refine Bb h (fun h => ?_) fun h => ?_
  ·refine Ap (AS (AR (wq rfl (qm rfl (qa rfl (Ac (wq rfl (qw 3 rfl ?_))))))))
   refine BK h fun v4 a4 b4 h => qi Cu IB a4 (Ah b4) rfl (qk Hx rfl ?_)
   refine B0 h fun v5 a5 h => LA (ds0 := [_]) (ar := (M5 false As) v4) (.p rfl) rfl rfl ⟨rfl, tv⟩ rfl rfl rfl (Lt (LD _ _ SK) a5) ?_
   refine Ac ?_
   refine Bb h (fun h => ?_) fun h => ?_
   ·refine wq rfl (qm rfl (qe rfl ?_))
    obtain rfl := sj h
    refine Af (sm [] [(4, iD v1)] [] rfl rfl) (Aq ?_)
    exact ⟨⟨[_], tm, rfl⟩, tv⟩
   ·refine Ap (Aj Ax rfl (Cl rfl (qm rfl (Ac ?_))))
    exact sn [] h
  ·refine BS ?_
   exact sn [] h
 ·refine Af hs (wq rfl (qe rfl ?_))
  obtain rfl := sj h
  refine Af (sm [] [(4, iD ((-1)))] [] rfl rfl) (Aq ?_)
  exact ⟨⟨[_], tm, rfl⟩, tv⟩
theorem FL (N : Nat) (p0 : List Int) (p1 : Int → Option Bool) (r : Bool) (h : Bd N p0 p1 = some r) : Ar zA 122 [pD (.sl (p0.map As)), oD (.clo (IK (M5 false As) tB p1))] [] (bD r) := by
 unfold Bd at h
 refine cw (n := 9) (rs := [.tmp 4]) Tryz.func122 fun w0 S0 => ?_
 refine wq rfl (qa rfl (Ac (wq rfl (qw 2 rfl ?_))))
 refine B0 h fun v1 a1 h => Aw [] (Gl N p0 p1 v1 a1) WW rfl (Da rfl (qe rfl ?_))
 obtain rfl := sj h
 refine Af (sm [] [(4, bD ((decide (0 ≤ v1))))] [] rfl rfl) (Aq ?_)
 exact ⟨⟨[_], tm, rfl⟩, tv⟩
theorem Lq (N : Nat) (p0 : Int) (r : Bool) (h : DZ N p0 = some r) : Ar zA 123 [iD p0] [] (bD r) := by
 unfold DZ at h
 refine cw (n := 5) (rs := [.tmp 2]) Tryz.func123 fun w0 S0 => ?_
 refine wq rfl (qa rfl (Ac (wq rfl (qm rfl (A2 rfl (qe rfl ?_))))))
 obtain rfl := sj h
 refine Af (sm [] [(2, bD ((decide (p0 < 0))))] [] rfl rfl) (Aq ?_)
 exact ⟨⟨[_], tm, rfl⟩, tv⟩
theorem MX (N : Nat) (p0 : Ab) (r : Bool) (h : E5 N p0 = some r) : Ar zA 86 [.e (.agg (AO p0))] [] (bD r) := by
 unfold E5 at h
 refine cw (n := 28) (rs := [.tmp 2]) Tryz.func86 fun w0 S0 => ?_
 refine wq rfl (qb rfl (qa rfl (Ac (AS ?_))))
 refine AI h (fun v1 => mk [(1, oD (.ptr 1 0)), (12, bD v1)] [(1, .box (AO p0))]) (fun j1 h => ?_) (fun v1 h => ?_)
 ·refine Aj Ax rfl (qf Ca rfl (ql AX rfl ?_))
  refine B0 h fun v2 a2 h => Aw [] (Kl N p0.fa v2 a2) Uq rfl ?_
  refine Es (.p rfl) rfl rfl (Mi _ _ _ _) rfl ?_
  refine qm rfl ?_
  refine Cv 8 h rfl (fun h => ?_) fun h => ?_
  ·refine qw 3 rfl (qp rfl (Ac ?_))
   exact sn [] h
  ·refine qf G4 rfl (ql Hx rfl (A2 rfl (qp rfl (Ac ?_))))
   exact sn [] h
 ·refine Bb h (fun h => ?_) fun h => ?_
  ·refine wq rfl (qe rfl ?_)
   obtain rfl := sj h
   refine Af (sm [] [(2, bD false)] [] rfl rfl) (Aq ?_)
   exact ⟨⟨[_], tm, rfl⟩, tv⟩
  ·refine Ap (wq rfl (qL E7 CV rfl ?_))
   refine B0 h fun v5 a5 h => Aw [2001] (IZ N p0 v5 a5) Ud rfl (qe rfl ?_)
   refine AI h (fun v6 => mk [(2, bD v6)] []) (fun j6 h => ?_) (fun v6 h => ?_)
   ·refine Aj Ax rfl (qL E7 CV rfl (qf G4 rfl (ql Hx rfl (qf Ca rfl (ql AX rfl (qm rfl ?_))))))
    refine B0 h fun v7 a7 h => HF [] [2001] (MN N p0.fi p0.fa v5 v7 a7) VH FI rfl ?_
    refine UF [.int .i64 p0.fi, .int .i64 p0.fa, .int .i64 p0.fv, .int .i64 p0.fw, .int .i64 p0.fC, .int .i64 p0.fm, .int .i64 p0.fu, .int .i64 p0.fD, .int .i64 p0.ft, .int .i64 p0.fq, .int .i64 p0.fN] [.int .i64 v7.fi, .int .i64 v7.fa, .int .i64 v7.fv, .int .i64 v7.fw, .int .i64 v7.fC, .int .i64 v7.fm, .int .i64 v7.fu, .int .i64 v7.fD, .int .i64 v7.ft, .int .i64 v7.fq, .int .i64 v7.fN] (.p rfl) rfl rfl Uo rfl ?_
    refine qm rfl ?_
    refine Cv 23 h rfl (fun h => ?_) fun h => ?_
    ·refine qm rfl ?_
     refine B0 h fun v9 a9 h => HF [] [2001] (Ar.weak (ds' := [pD (.sl (v5.map As)), oD (.fnc 123)]) (FL N v5 ((fun (x : Int) => DZ N x)) v9 a9) ⟨(fun _ _ _ hh => hh), (fun _ _ _ hh => Om Wz (fun ar t ht => by obtain ⟨x, r, rfl, hq, rfl⟩ := Jc ht; exact Lq N x r hq) hh), tv⟩) VD FI rfl ?_
     refine Cb rfl (qp rfl (qa rfl (AG (by kernel_rfl) ?_)))
     exact sn [] h
    ·refine qw 3 rfl (qp rfl (qa rfl (AG (by kernel_rfl) ?_)))
     exact sn [] h
   ·obtain rfl := sj h
    refine Af (sm [] [(2, bD v6)] [] rfl rfl) (Aq ?_)
    exact ⟨⟨[_], tm, rfl⟩, tv⟩
theorem GA (N : Nat) (p0 : List Ab) (r : Int) (h : DF N p0 = some r) : Ar zA 43 [pD (.sl (p0.map AD))] [] (iD r) := by
 unfold DF at h
 refine cw (n := 34) (rs := [.tmp 2]) Tryz.func43 fun w0 S0 => ?_
 refine wq rfl (qa rfl (Ac (wp rfl (qm rfl (AH DV rfl (Eh rfl (Ac ?_)))))))
 refine Bb h (fun h => ?_) fun h => ?_
 ·refine wq rfl (qe rfl ?_)
  obtain rfl := sj h
  refine Af (sm [] [(2, iD 3)] [] rfl rfl) (Aq ?_)
  exact ⟨⟨[_], tm, rfl⟩, tv⟩
 ·refine Ap (wp rfl (qm rfl (AH DV rfl (qm rfl (Ac ?_)))))
  refine A5 (L := DL N p0) h (fun v2 => mk [(0, pD (.sl (p0.map AD))), (8, pD (.sl (p0.map AD))), (9, iD ((p0.length : Int))), (10, iD v2)] []) (fun v3 => mk [] []) (fun _ _ => rfl) (sm [] _ _ rfl rfl) (fun j2 n2 v2 h => ?_) (fun v3 s h hs => ?_)
  ·unfold DL at h
   refine wq rfl (A2 rfl (Ac (AS ?_)))
   refine Bb h (fun h => ?_) fun h => ?_
   ·refine Ap (AS (AR (wq rfl (qm rfl ?_))))
    refine BK h fun v5 a5 b5 h => qi DV CV a5 (Ah b5) rfl (qK E7 CV rfl (qz IF rfl (qa rfl (qs CV rfl (Ac ?_)))))
    refine AI h (fun v6 => mk [(0, pD (.sl (p0.map AD))), (8, pD (.sl (p0.map AD))), (9, iD ((p0.length : Int))), (10, iD v2), (32, bD v6)] []) (fun j6 h => ?_) (fun v6 h => ?_)
    ·refine Aj Ax rfl (qL E7 CV rfl ?_)
     refine B0 h fun v7 a7 h => Aw [] (MX N v5 v7 a7) XM rfl (Cb rfl (qm rfl ?_))
     refine Cv 18 h rfl (fun h => ?_) fun h => ?_
     ·refine qw 3 rfl (qu rfl (qu rfl (qu rfl (qu rfl (qu rfl (qu rfl (qu rfl (qu rfl (qu rfl (qn rfl (qp rfl (AG (by kernel_rfl) ?_))))))))))))
      exact sn [] h
     ·refine qm rfl (Eh rfl (qm rfl ?_))
      refine Cv 21 h rfl (fun h => ?_) fun h => ?_
      ·refine qf G4 rfl (ql Hx rfl (qw 2 rfl (J1 rfl ?_)))
       refine BK h fun v10 a10 b10 h => qi DV CV a10 (Ah b10) rfl (qg G4 rfl (qk Hx rfl (A2 rfl (qp rfl (qp rfl (AG (by kernel_rfl) ?_))))))
       exact sn [] h
      ·refine qw 9 rfl (qp rfl (qp rfl (AG (by kernel_rfl) ?_)))
       exact sn [] h
    ·refine Bb h (fun h => ?_) fun h => ?_
     ·refine wq rfl (qe rfl ?_)
      obtain rfl := sj h
      refine Af (sm [] [(2, iD 1)] [] rfl rfl) (Aq ?_)
      exact ⟨⟨[_], tm, rfl⟩, tv⟩
     ·refine Ap (Aj Ax rfl (Cl rfl (qm rfl (Ac ?_))))
      exact sn [] h
   ·refine BS ?_
    exact sn [] h
  ·refine Af hs (wq rfl (qe rfl ?_))
   obtain rfl := sj h
   refine Af (sm [] [(2, iD 0)] [] rfl rfl) (Aq ?_)
   exact ⟨⟨[_], tm, rfl⟩, tv⟩
theorem Kq (N : Nat) (r : A9) (h : ED N = some r) : DO zA 64 [] [] [.box [iC r.fF, iC r.fH, .pure (.val (.bool r.fI)), .mref 1], .mp (D5 (Value.int .i64) Gi r.fK)] (oD (.ptr 0 0)) := by
 unfold ED at h
 refine Du (n := 4) (rs := [.tmp 0]) Tryz.func64 rfl rfl rfl (Hd rfl) (Hd rfl) rfl rfl (Hd rfl) rfl (Hd rfl) fun w0 S0 GL => ?_
 refine Af (sm [] [] [] rfl rfl) (wq rfl (qa rfl (Ac (wq rfl ?_))))
 refine Q7 (.p rfl) rfl ?_
 refine Bs VP WA rfl (qb rfl (qe rfl ?_))
 obtain rfl := sj h
 refine Af (sm [(1000, 3), (1001, 1)] [(0, oD (.ptr 1000 0))] [(1000, .box [iC 0, iC 0, .pure (.val (.bool false)), .mref 1001]), (1001, .mp (D5 (Value.int .i64) Gi (([] : List (Int × Int)))))] rfl rfl) (Aq ?_)
 exact ⟨⟨[_], tm, rfl⟩, tv, ⟨rfl, rfl, tv⟩⟩
theorem Oj (N : Nat) (p0 : Aa) (p1 : Ab) (r : Bool) (h : Ee N p0 p1 = some r) : Ar zA 62 [.e (.agg (Ak p0)), .e (.agg (AO p1))] [] (bD r) := by
 unfold Ee at h
 refine cw (n := 47) (rs := [.tmp 4]) Tryz.func62 fun w0 S0 => ?_
 refine wq rfl (qb rfl (qb rfl (qa rfl (Ac (wp rfl (qf Fw rfl (ql AX rfl (qf BA rfl (ql EU rfl (AH CR rfl (Da rfl (Ac ?_))))))))))))
 refine Bb h (fun h => ?_) fun h => ?_
 ·refine wq rfl (qe rfl ?_)
  obtain rfl := sj h
  refine Af (sm [] [(4, bD false)] [] rfl rfl) (Aq ?_)
  exact ⟨⟨[_], tm, rfl⟩, tv⟩
 ·refine Ap (wq rfl (qf BA rfl (ql EU rfl (qf Fw rfl (ql AX rfl ?_)))))
  refine BK h fun v2 a2 b2 h => qi CR BM a2 (Ah b2) rfl (qK Ey BM rfl (qz I6 rfl (qs BM rfl (Ac ?_))))
  refine AI h (fun v3 => mk [(4, bD v3)] []) (fun j3 h => ?_) (fun v3 h => ?_)
  ·refine Aj Ax rfl (qf Ft rfl (ql AX rfl (qf GE rfl (ql Fd rfl (AH D2 rfl (A2 rfl (qm rfl ?_)))))))
   refine Cv 24 h rfl (fun h => ?_) fun h => ?_
   ·refine qf Gy rfl (ql AX rfl (qf BB rfl (ql Bf rfl (qf FV rfl (ql AX rfl ?_)))))
    refine BK h fun v5 a5 b5 h => qi AB CL a5 (Ah b5) rfl (qk AX rfl (A2 rfl (qp rfl (qm rfl ?_))))
    refine Cv 35 h rfl (fun h => ?_) fun h => ?_
    ·refine qf GE rfl (ql Fd rfl (qf Ft rfl (ql AX rfl ?_)))
     refine BK h fun v7 a7 b7 h => qi D2 JA a7 (Ah b7) rfl (qk JF rfl (qf Gy rfl (ql AX rfl ?_)))
     refine BK h fun v8 a8 b8 h => qi HR RH a8 (Ah b8) rfl (qk Q2 rfl (qp rfl (qa rfl (AG (by kernel_rfl) ?_))))
     exact sn [] h
    ·refine qw 10 rfl (qp rfl (qa rfl (AG (by kernel_rfl) ?_)))
     exact sn [] h
   ·refine qw 9 rfl (qp rfl (qw 11 rfl (qp rfl (qa rfl (AG (by kernel_rfl) ?_)))))
    exact sn [] h
  ·obtain rfl := sj h
   refine Af (sm [] [(4, bD v3)] [] rfl rfl) (Aq ?_)
   exact ⟨⟨[_], tm, rfl⟩, tv⟩
theorem FW (N : Nat) (p0 : Ab) (r : Bool) (h : Db N p0 = some r) : Ar zA 80 [.e (.agg (AO p0))] [] (bD r) := by
 unfold Db at h
 refine cw (n := 11) (rs := [.tmp 2]) Tryz.func80 fun w0 S0 => ?_
 refine wq rfl (qb rfl (qe rfl ?_))
 refine AI h (fun v1 => mk [(2, bD v1)] []) (fun j1 h => ?_) (fun v1 h => ?_)
 ·refine Aj Ax rfl (qf Ca rfl (ql AX rfl (Da rfl (qm rfl ?_))))
  refine Cv 6 h rfl (fun h => ?_) fun h => ?_
  ·refine qf Ca rfl (ql AX rfl (Lf rfl (qp rfl (qe rfl ?_))))
   exact sn [] h
  ·refine qw 3 rfl (qp rfl (qe rfl ?_))
   exact sn [] h
 ·obtain rfl := sj h
  refine Af (sm [] [(2, bD v1)] [] rfl rfl) (Aq ?_)
  exact ⟨⟨[_], tm, rfl⟩, tv⟩
theorem FZ (N : Nat) (p0 : Ai) (p1 : Ab) (r : Bool) (h : BV N p0 p1 = some r) : DO zA 81 [oD (.ptr 90000 0), .e (.agg (AO p1))] [(.box (AA p0), .box (AA p0))] [] (bD r) := by
 unfold BV at h
 refine Du (n := 66) (rs := [.tmp 4]) Tryz.func81 rfl rfl rfl (Hd rfl) (Hd rfl) rfl rfl (Hd rfl) rfl (Hd rfl) fun w0 S0 GL => ?_
 refine Af (sm [] [(0, oD (.ptr 90000 0)), (1, .e (.agg (AO p1)))] [(90000, .box (AA p0))] rfl rfl) (wq rfl (qb rfl (qa rfl (Ac (AS ?_)))))
 refine AI h (fun v1 => mk [(0, oD (.ptr 90000 0)), (3, oD (.ptr 3 0)), (23, bD v1)] [(3, .box (AO p1)), (90000, .box (AA p0))]) (fun j1 h => ?_) (fun v1 h => ?_)
 ·refine Aj Ax rfl (qf Ja rfl (ql AX rfl (qm rfl (HT rfl (qf Id rfl (ql AX rfl (BE rfl (qm rfl ?_))))))))
  refine Cv 12 h rfl (fun h => ?_) fun h => ?_
  ·refine qw 10 rfl (qp rfl (AG (by kernel_rfl) ?_))
   exact sn [] h
  ·refine qm rfl (HT rfl (qf Id rfl (ql AX rfl (qm rfl (HT rfl (qf NZ rfl (ql Re rfl (AH F4 rfl (Da rfl (qp rfl (AG (by kernel_rfl) ?_)))))))))))
   exact sn [] h
 ·refine Bb h (fun h => ?_) fun h => ?_
  ·refine wq rfl (qe rfl ?_)
   obtain rfl := sj h
   refine Af (sm [] [(4, bD false)] [(90000, .box (AA p0))] rfl rfl) (Aq ?_)
   exact ⟨⟨[_], tm, rfl⟩, ⟨rfl, tv⟩, tv⟩
  ·refine Ap (wp rfl (qf Ca rfl (ql AX rfl (Ac (AR (wq rfl (AP rfl (qe rfl ?_))))))))
   refine Bb h (fun h => ?_) fun h => ?_
   ·refine wq rfl (qm rfl (HT rfl (qf HH rfl (ql AX rfl (AP rfl (qe rfl ?_))))))
    obtain rfl := sj h
    refine Af (sm [] [(4, bD ((p0.fB == 0)))] [(90000, .box (AA p0))] rfl rfl) (Aq ?_)
    exact ⟨⟨[_], tm, rfl⟩, ⟨rfl, tv⟩, tv⟩
   ·refine wq rfl (AP rfl (qe rfl ?_))
    refine Bb h (fun h => ?_) fun h => ?_
    ·refine wq rfl (qm rfl (HT rfl (qf HH rfl (ql AX rfl (AP rfl (qe rfl ?_))))))
     obtain rfl := sj h
     refine Af (sm [] [(4, bD ((p0.fB == 1)))] [(90000, .box (AA p0))] rfl rfl) (Aq ?_)
     exact ⟨⟨[_], tm, rfl⟩, ⟨rfl, tv⟩, tv⟩
    ·refine wq rfl (AP rfl (qe rfl ?_))
     refine Bb h (fun h => ?_) fun h => ?_
     ·refine AI h (fun v7 => mk [(4, bD v7)] [(90000, .box (AA p0))]) (fun j7 h => ?_) (fun v7 h => ?_)
      ·refine Aj Ax rfl (qm rfl (HT rfl (qf HH rfl (ql AX rfl (AP rfl (qm rfl ?_))))))
       refine Cv 47 h rfl (fun h => ?_) fun h => ?_
       ·refine qm rfl (HT rfl (qf NZ rfl (ql Re rfl (qm rfl (HT rfl (qf Id rfl (ql AX rfl ?_)))))))
        refine BK h fun v9 a9 b9 h => qi F4 FR a9 (Ah b9) rfl (qg C5 rfl (qk AX rfl (AP rfl (qp rfl (qa rfl (AG (by kernel_rfl) ?_))))))
        exact sn [] h
       ·refine qw 12 rfl (qp rfl (qa rfl (AG (by kernel_rfl) ?_)))
        exact sn [] h
      ·obtain rfl := sj h
       refine Af (sm [] [(4, bD v7)] [(90000, .box (AA p0))] rfl rfl) (Aq ?_)
       exact ⟨⟨[_], tm, rfl⟩, ⟨rfl, tv⟩, tv⟩
     ·refine Ap (wq rfl (qm rfl (HT rfl (qf HH rfl (ql AX rfl (AP rfl (qe rfl ?_)))))))
      obtain rfl := sj h
      refine Af (sm [] [(4, bD ((p0.fB == 2)))] [(90000, .box (AA p0))] rfl rfl) (Aq ?_)
      exact ⟨⟨[_], tm, rfl⟩, ⟨rfl, tv⟩, tv⟩
theorem IN (N : Nat) (p0 : A9) (p1 : Ab) (r : Bool × A9 × (List (Int × Int))) (h : Di N p0 p1 = some r) : DO zA 66 [oD (.ptr 90000 0), .e (.agg (AO p1))] [(.box [iC p0.fF, iC p0.fH, .pure (.val (.bool p0.fI)), .mref 90001], .box [iC r.2.1.fF, iC r.2.1.fH, .pure (.val (.bool r.2.1.fI)), .mref 90001]), (.mp (D5 (Value.int .i64) Gi p0.fK), .mp (D5 (Value.int .i64) Gi r.2.2))] [] (bD r.1) := by
 unfold Di at h
 refine Du (n := 67) (rs := [.tmp 4]) Tryz.func66 rfl rfl rfl (Hd rfl) (Hd rfl) rfl rfl (Hd rfl) rfl (Hd rfl) fun w0 S0 GL => ?_
 refine Af (sm [] [(0, oD (.ptr 90000 0)), (1, .e (.agg (AO p1)))] [(90000, .box [iC p0.fF, iC p0.fH, .pure (.val (.bool p0.fI)), .mref 90001]), (90001, .mp (D5 (Value.int .i64) Gi p0.fK))] rfl rfl) (wq rfl (qb rfl (qe rfl ?_)))
 refine AI h (fun v1 => mk [] [(90000, .box [iC v1.2.1, iC v1.2.2.1, .pure (.val (.bool v1.2.2.2)), .mref 90001]), (90001, .mp (D5 (Value.int .i64) Gi v1.1))]) (fun j1 h => ?_) (fun v1 h => ?_)
 ·refine AR (wq rfl (qL E7 CV rfl ?_))
  refine B0 h fun v2 a2 h => Aw [] (FW N p1 v2 a2) Tn rfl (qe rfl ?_)
  refine Bb h (fun h => ?_) fun h => ?_
  ·refine wp rfl (qf Ej rfl (ql Hx rfl (qm rfl (HT rfl (qf OO rfl (ql Hx rfl (A2 rfl (AG (by kernel_rfl) ?_))))))))
   refine Bb h (fun h => ?_) fun h => ?_
   ·refine wq rfl (qe rfl ?_)
    obtain rfl := sj h
    refine Af (sm [] [(4, bD false)] [(90000, .box [iC p0.fF, iC p0.fH, .pure (.val (.bool p0.fI)), .mref 90001]), (90001, .mp (D5 (Value.int .i64) Gi p0.fK))] rfl rfl) (Aq ?_)
    exact ⟨⟨[_], tm, rfl⟩, ⟨rfl, rfl, tv⟩, tv⟩
   ·refine Ap (Aj Ax rfl (qm rfl (qf Ej rfl (ql Hx rfl (HT rfl (qf OO rfl (qs IB rfl (Ac ?_))))))))
    exact sn [] h
  ·refine wq rfl (qf Ca rfl (ql AX rfl (AP rfl (qe rfl ?_))))
   refine Bb h (fun h => ?_) fun h => ?_
   ·refine wp rfl (qf HI rfl (ql AX rfl (qm rfl (HT rfl (qf O0 rfl (ql Uv rfl (qf Gw rfl (ql AX rfl ?_))))))))
    refine R1 (kv := (Value.int .i64)) (vt := Gi) (m := p0.fK) (dv := 0) (.p rfl) rfl rfl rfl (Nk P8 VQ) (by rw [P8]; rfl) OC rfl rfl rfl ?_
    refine A2 rfl (AG (by kernel_rfl) ?_)
    refine Bb h (fun h => ?_) fun h => ?_
    ·refine wq rfl (qe rfl ?_)
     obtain rfl := sj h
     refine Af (sm [] [(4, bD false)] [(90000, .box [iC p0.fF, iC p0.fH, .pure (.val (.bool p0.fI)), .mref 90001]), (90001, .mp (D5 (Value.int .i64) Gi p0.fK))] rfl rfl) (Aq ?_)
     exact ⟨⟨[_], tm, rfl⟩, ⟨rfl, rfl, tv⟩, tv⟩
    ·refine Ap (Aj Ax rfl (qm rfl (HT rfl (qf O0 rfl (ql Uv rfl (qf Gw rfl (ql AX rfl (qf HI rfl (ql AX rfl ?_)))))))))
     refine SU (kv := (Value.int .i64)) (vt := Gi) (m := p0.fK) (k := p1.ft) (v := p1.fD) rfl (.inl rfl) rfl rfl rfl rfl (Nk P8 VQ) rfl ?_
     refine AG (by kernel_rfl) ?_
     exact sn [] h
   ·refine wq rfl (qf Ca rfl (ql AX rfl (AP rfl (qe rfl ?_))))
    refine Bb h (fun h => ?_) fun h => ?_
    ·refine AS ?_
     refine AI h (fun v8 => mk [(0, oD (.ptr 90000 0)), (3, oD (.ptr 3 0)), (58, bD v8)] [(3, .box (AO p1)), (90000, .box [iC p0.fF, iC p0.fH, .pure (.val (.bool p0.fI)), .mref 90001]), (90001, .mp (D5 (Value.int .i64) Gi p0.fK))]) (fun j8 h => ?_) (fun v8 h => ?_)
     ·refine Aj Ax rfl (qm rfl (HT rfl (qf OZ rfl (ql Q2 rfl (qm rfl ?_)))))
      refine Cv 50 h rfl (fun h => ?_) fun h => ?_
      ·refine qf Ej rfl (ql Hx rfl (qm rfl (HT rfl (qf O6 rfl (ql Hx rfl (Lf rfl (qp rfl (AG (by kernel_rfl) ?_))))))))
       exact sn [] h
      ·refine qw 7 rfl (qp rfl (AG (by kernel_rfl) ?_))
       exact sn [] h
     ·refine Bb h (fun h => ?_) fun h => ?_
      ·refine wq rfl (qe rfl ?_)
       obtain rfl := sj h
       refine Af (sm [] [(4, bD false)] [(90000, .box [iC p0.fF, iC p0.fH, .pure (.val (.bool p0.fI)), .mref 90001]), (90001, .mp (D5 (Value.int .i64) Gi p0.fK))] rfl rfl) (Aq ?_)
       exact ⟨⟨[_], tm, rfl⟩, ⟨rfl, rfl, tv⟩, tv⟩
      ·refine Ap (Aj Ax rfl (qw 2 rfl (qf Ej rfl (ql Hx rfl (HT rfl (qf O6 rfl (qs IB rfl (HT rfl (qf OZ rfl (qs RH rfl (Ac ?_)))))))))))
       exact sn [] h
    ·refine Ap ?_
     exact sn [] h
 ·refine wq rfl (qe rfl ?_)
  obtain rfl := sj h
  refine Af (sm [] [(4, bD true)] [(90000, .box [iC v1.2.1, iC v1.2.2.1, .pure (.val (.bool v1.2.2.2)), .mref 90001]), (90001, .mp (D5 (Value.int .i64) Gi v1.1))] rfl rfl) (Aq ?_)
  exact ⟨⟨[_], tm, rfl⟩, ⟨rfl, rfl, tv⟩, tv⟩
theorem MJ (N : Nat) (p0 : List Int) (p1 : Int) (r : Int) (h : Em N p0 p1 = some r) : Ar zA 114 [pD (.sl (p0.map As)), iD p1] [] (iD r) := by
 unfold Em at h
 refine cw (n := 22) (rs := [.tmp 4]) Tryz.func114 fun w0 S0 => ?_
 refine wq rfl (qa rfl (Ac (wp rfl (qm rfl (AH AB rfl (qm rfl (Ac ?_)))))))
 refine A5 (L := DN N p0) h (fun v1 => mk [(1, iD v1.1), (7, pD (.sl (p0.map As))), (8, iD ((p0.length : Int))), (9, iD v1.2)] []) (fun v2 => mk [] []) (fun _ _ => rfl) (sm [] _ _ rfl rfl) (fun j1 n1 v1 h => ?_) (fun v2 s h hs => ?_)
 ·unfold DN at h
  refine wq rfl (A2 rfl (Ac (AS ?_)))
  refine Bb h (fun h => ?_) fun h => ?_
  ·refine Ap (AS (AR (wq rfl (qm rfl ?_))))
   refine BK h fun v4 a4 b4 h => qi AB CL a4 (Ah b4) rfl (qk AX rfl (qa rfl (qa rfl (Ac (wp rfl (qw 2 rfl (A2 rfl (Ac ?_))))))))
   refine Bb h (fun h => ?_) fun h => ?_
   ·refine wq rfl (qm rfl (qe rfl ?_))
    obtain rfl := sj h
    refine Af (sm [] [(4, iD v1.2)] [] rfl rfl) (Aq ?_)
    exact ⟨⟨[_], tm, rfl⟩, tv⟩
   ·refine Ap (Aj Ax rfl (qw 2 rfl (J1 rfl (qa rfl (Ac (Aj Ax rfl (Cl rfl (qm rfl (Ac ?_)))))))))
    exact sn [] h
  ·refine BS ?_
   exact sn [] h
 ·refine Af hs (wq rfl (qe rfl ?_))
  obtain rfl := sj h
  refine Af (sm [] [(4, iD ((-1)))] [] rfl rfl) (Aq ?_)
  exact ⟨⟨[_], tm, rfl⟩, tv⟩
theorem GP (N : Nat) (p0 : Ae) (p1 : Int) (p2 : Int) (r : Bool) (h : Cr N p0 p1 p2 = some r) : Ar zA 115 [.e (.agg (Bi p0)), iD p1, iD p2] [] (bD r) := by
 unfold Cr at h
 refine cw (n := 23) (rs := [.tmp 6]) Tryz.func115 fun w0 S0 => ?_
 refine wq rfl (qb rfl (qe rfl ?_))
 refine AI h (fun v1 => mk [(6, bD v1)] []) (fun j1 h => ?_) (fun v1 h => ?_)
 ·refine Aj Ax rfl (qf C3 rfl (ql Bf rfl (qm rfl ?_)))
  refine BK h fun v2 a2 b2 h => qi AB CL a2 (Ah b2) rfl (qk AX rfl (qm rfl (AP rfl (qm rfl ?_))))
  refine Cv 14 h rfl (fun h => ?_) fun h => ?_
  ·refine qw 7 rfl (qp rfl (qe rfl ?_))
   exact sn [] h
  ·refine qf BU rfl (ql Bf rfl (qm rfl ?_))
   refine BK h fun v4 a4 b4 h => qi AB CL a4 (Ah b4) rfl (qk AX rfl (qm rfl (AP rfl (qp rfl (qe rfl ?_)))))
   exact sn [] h
 ·obtain rfl := sj h
  refine Af (sm [] [(6, bD v1)] [] rfl rfl) (Aq ?_)
  exact ⟨⟨[_], tm, rfl⟩, tv⟩
theorem Ll (N : Nat) (p0 : Aa) (p1 : Ae) (p2 : Ab) (r : Bool) (h : DY N p0 p1 p2 = some r) : Ar zA 116 [.e (.agg (Ak p0)), .e (.agg (Bi p1)), .e (.agg (AO p2))] [] (bD r) := by
 unfold DY at h
 refine cw (n := 46) (rs := [.tmp 6]) Tryz.func116 fun w0 S0 => ?_
 refine wq rfl (qb rfl (qb rfl (qb rfl (qa rfl (Ac (wq rfl (qf BA rfl (ql EU rfl (qf Fw rfl (ql AX rfl ?_))))))))))
 refine BK h fun v1 a1 b1 h => qi CR BM a1 (Ah b1) rfl (qK Ey BM rfl (qz I6 rfl (qs BM rfl (Ac (wp rfl (qL B1 AV rfl (qf FV rfl (ql AX rfl (qf Gy rfl (ql AX rfl ?_))))))))))
 refine B0 h fun v2 a2 h => Aw [] (GP N p1 v1.fA p2.fC v2 a2) So rfl (Cb rfl (Ac ?_))
 refine Bb h (fun h => ?_) fun h => ?_
 ·refine wq rfl (qe rfl ?_)
  obtain rfl := sj h
  refine Af (sm [] [(6, bD false)] [] rfl rfl) (Aq ?_)
  exact ⟨⟨[_], tm, rfl⟩, tv⟩
 ·refine Ap (AS ?_)
  refine AI h (fun v4 => mk [(4, oD (.ptr 4 0)), (5, oD (.ptr 5 0)), (7, oD (.ptr 7 0)), (28, bD v4)] [(4, .box (Bi p1)), (5, .box (AO p2)), (7, .box (CA v1))]) (fun j4 h => ?_) (fun v4 h => ?_)
  ·refine Aj Ax rfl (qf D1 rfl (ql AX rfl (AP rfl (qm rfl ?_))))
   refine Cv 24 h rfl (fun h => ?_) fun h => ?_
   ·refine qw 3 rfl (qp rfl (Ac ?_))
    exact sn [] h
   ·refine qf D1 rfl (ql AX rfl (AP rfl (qp rfl (Ac ?_))))
    exact sn [] h
  ·refine Bb h (fun h => ?_) fun h => ?_
   ·refine wq rfl (qf CI rfl (ql G6 rfl (qf Fw rfl (ql AX rfl ?_))))
    refine BK h fun v7 a7 b7 h => qi DT DW a7 (Ah b7) rfl (qk Hu rfl (qf Ft rfl (ql AX rfl ?_)))
    refine HS h fun c8 h => K6 rfl c8 (Nr rfl (AP rfl (qa rfl (AG (by kernel_rfl) ?_))))
    obtain rfl := sj h
    refine Af (sm [] [(6, bD (((Fz .u8 ((FP .u8 v7 p2.fw)) 1) == 1)))] [] rfl rfl) (Aq ?_)
    exact ⟨⟨[_], tm, rfl⟩, tv⟩
   ·refine Ap (wq rfl (qL B1 AV rfl (qf Ce rfl (ql AX rfl (qf Ft rfl (ql AX rfl ?_))))))
    refine B0 h fun v9 a9 h => Aw [] (GP N p1 v1.fj p2.fw v9 a9) So rfl (qe rfl ?_)
    obtain rfl := sj h
    refine Af (sm [] [(6, bD v9)] [] rfl rfl) (Aq ?_)
    exact ⟨⟨[_], tm, rfl⟩, tv⟩
theorem N5 (N : Nat) (p0 : Aa) (p1 : Ae) (p2 : Al) (r : Ae × Int) (h : Fl N p0 p1 p2 = some r) : Ar zA 155 [.e (.agg (Ak p0)), .e (.agg (Bi p1)), .e (.agg (BR p2))] [(1, r.1.fh.map As), (1, r.1.ff.map As), (1, r.1.fg.map Dq)] (.tup [.agg [.own 0, .own 1, .own 2], .one (iC r.2)]) := by
 unfold Fl at h
 refine cw (n := 22) (rs := [.cell 6 40, .tmp 7]) Tryz.func155 fun w0 S0 => ?_
 refine wq rfl (qb rfl (qb rfl (qb rfl (qz Do rfl (qa rfl (Ac (wp rfl (qL Dg C8 rfl (qL B1 AV rfl ?_)))))))))
 refine B0 h fun v1 a1 h => Aw [] (Lb N p0 p1 v1 a1) Ul rfl (qa rfl (Ac (wq rfl (qm rfl (BE rfl (Ac ?_))))))
 refine Bb h (fun h => ?_) fun h => ?_
 ·refine wq rfl (Bs Do G7 rfl (qm rfl (qs AV rfl (qe rfl ?_))))
  obtain rfl := sj h
  refine Af ((Az 6 0 2001 1 _ rfl rfl rfl rfl).trans ((Az 6 1 2002 1 _ rfl rfl rfl rfl).trans ((Az 6 2 2003 1 _ rfl rfl rfl rfl).trans (sm [(1000, 2001), (1001, 2002), (1002, 2003)] [(6, oD (.ptr 6 0)), (7, iD v1)] [(6, .box [.own 1000, .own 1001, .own 1002]), (1000, .vec 1 ((([] : List Int)).map As)), (1001, .vec 1 ((([] : List Int)).map As)), (1002, .vec 1 ((([] : List Int)).map Dq))] rfl rfl)))) (Aq ?_)
  exact ⟨⟨[_, _], ⟨.cellN _ _ _ _ _ _ _ rfl rfl B1 AV rfl rfl (HL rfl), tm⟩, rfl⟩, ⟨rfl, rfl, rfl, tv⟩⟩
 ·refine Ap (wq rfl (qL Dg C8 rfl (qL B1 AV rfl (qL Iw FR rfl ?_))))
  refine B0 h fun v3 a3 h => Aw [2004, 2005, 2006] (Kt N p0 p1 p2 v3 a3) UG rfl (qx rfl (qx rfl (qs AV rfl (qe rfl ?_))))
  obtain rfl := sj h
  refine Af (sm [(1000, 2004), (1001, 2005), (1002, 2006)] [(6, oD (.ptr 6 0)), (7, iD v3.2)] [(6, .box [.own 1000, .own 1001, .own 1002]), (1000, .vec 1 (v3.1.fh.map As)), (1001, .vec 1 (v3.1.ff.map As)), (1002, .vec 1 (v3.1.fg.map Dq))] rfl rfl) (Aq ?_)
  exact ⟨⟨[_, _], ⟨.cellN _ _ _ _ _ _ _ rfl rfl B1 AV rfl rfl (HL rfl), tm⟩, rfl⟩, ⟨rfl, rfl, rfl, tv⟩⟩
theorem EO (N : Nat) (p0 : Ai) (p1 : Al) (r : Ai) (h : B6 N p0 p1 = some r) : DO zA 117 [oD (.ptr 90000 0), .e (.agg (BR p1))] [(.box (AA p0), .box (AA r))] [] (.tup []) := by
 unfold B6 at h
 refine Du (n := 25) (rs := []) Tryz.func117 rfl rfl rfl (Hd rfl) (Hd rfl) rfl rfl (Hd rfl) rfl (Hd rfl) fun w0 S0 GL => Uw ?_
 refine Af (sm [] [(0, oD (.ptr 90000 0)), (1, .e (.agg (BR p1)))] [(90000, .box (AA p0))] rfl rfl) (wq rfl (qb rfl (Ac (wq rfl (qm rfl (HT rfl (qf NF rfl (qL Dg C8 rfl (qm rfl (HT rfl (qf Kr rfl (qL B1 AV rfl (qL Iw FR rfl ?_)))))))))))))
 refine B0 h fun v1 a1 h => Aw [2001, 2002, 2003] (N5 N ((Aa.mk p0.fc.fb p0.fc.fk p0.fc.fp p0.fc.fe)) ((Ae.mk p0.fd.fh p0.fd.ff p0.fd.fg)) p1 v1 a1) Wn rfl (qm rfl (qx rfl (qx rfl (qz Do rfl (qs AV rfl (qa rfl (AG (by kernel_rfl) (wq rfl (qm rfl (AP rfl (Ac ?_)))))))))))
 refine Bb h (fun h => ?_) fun h => ?_
 ·refine Aj Ax rfl (qm rfl (qL B1 AV rfl (HT rfl (qf Kr rfl (qs AV rfl (Ac ?_))))))
  obtain rfl := sj h
  refine ⟨_, ((A8 2001 _ _ rfl rfl).trans ((A8 2002 _ _ rfl rfl).trans ((A8 2003 _ _ rfl rfl).trans (sm [] [] [(90000, .box [sC (p0.fc.fb.map As), sC (p0.fc.fk.map As), sC (p0.fc.fp.map As), sC (p0.fc.fe.map BG), sC (p0.fr.map AN), iC p0.fi, iC p0.fB, sC (v1.1.fh.map As), sC (v1.1.ff.map As), sC (v1.1.fg.map Dq)])] rfl rfl)))), ?_⟩
  exact ⟨⟨[], tv, rfl⟩, ⟨rfl, tv⟩, tv⟩
 ·refine Ap ?_
  obtain rfl := sj h
  refine ⟨_, (sm [] [] [(90000, .box (AA p0))] rfl rfl), ?_⟩
  exact ⟨⟨[], tv, rfl⟩, ⟨rfl, tv⟩, tv⟩
theorem FE (N : Nat) (p0 : Ai) (p1 : Ab) (r : Ai) (h : BO N p0 p1 = some r) : DO zA 82 [oD (.ptr 90000 0), .e (.agg (AO p1))] [(.box (AA p0), .box (AA r))] [] (.tup []) := by
 unfold BO at h
 refine Du (n := 62) (rs := []) Tryz.func82 rfl rfl rfl (Hd rfl) (Hd rfl) rfl rfl (Hd rfl) rfl (Hd rfl) fun w0 S0 GL => Uw ?_
 refine Af (sm [] [(0, oD (.ptr 90000 0)), (1, .e (.agg (AO p1)))] [(90000, .box (AA p0))] rfl rfl) (wq rfl (qb rfl (Ac (wq rfl (qm rfl (HT rfl (qf NZ rfl (ql Re rfl (qm rfl (HT rfl (qf Id rfl (ql AX rfl ?_))))))))))))
 refine BK h fun v1 a1 b1 h => qi F4 FR a1 (Ah b1) rfl (qK Iw FR rfl (qz Pz rfl (qs FR rfl (AG (by kernel_rfl) (wq rfl (qf Ca rfl (ql AX rfl (Ac (AR (wq rfl (AP rfl (qe rfl ?_))))))))))))
 refine Bb h (fun h => ?_) fun h => ?_
 ·refine wq rfl (qm rfl (HT rfl (qf HH rfl (qs CL rfl (Ac (wq rfl (qf C5 rfl (ql AX rfl (AP rfl (Ac ?_))))))))))
  refine Bb h (fun h => ?_) fun h => ?_
  ·refine Aj Ax rfl (qm rfl (qL Iw FR rfl ?_))
   refine B0 h fun v4 a4 h => Fu (ds0 := [_, _]) [90000] [] [true] (EO N ((Ai.mk ((Aa.mk p0.fc.fb p0.fc.fk p0.fc.fp p0.fc.fe)) p0.fr p0.fi 1 ((Ae.mk p0.fd.fh p0.fd.ff p0.fd.fg)))) v1 v4 a4) (.p rfl) SR rfl ⟨rfl, rfl, tv⟩ rfl rfl (by decide) ⟨rfl, tv⟩ rfl (De rfl) tv ⟨(fun h => by cases h), tv⟩ rfl rfl rfl ?_
   refine Ac ?_
   obtain rfl := sj h
   refine ⟨_, (sm [] [] [(90000, .box (AA v4))] rfl rfl), ?_⟩
   exact ⟨⟨[], tv, rfl⟩, ⟨rfl, tv⟩, tv⟩
  ·refine Ap ?_
   obtain rfl := sj h
   refine ⟨_, (sm [] [] [(90000, .box [sC (p0.fc.fb.map As), sC (p0.fc.fk.map As), sC (p0.fc.fp.map As), sC (p0.fc.fe.map BG), sC (p0.fr.map AN), iC p0.fi, iC 1, sC (p0.fd.fh.map As), sC (p0.fd.ff.map As), sC (p0.fd.fg.map Dq)])] rfl rfl), ?_⟩
   exact ⟨⟨[], tv, rfl⟩, ⟨rfl, tv⟩, tv⟩
 ·refine wq rfl (AP rfl (qe rfl ?_))
  refine Bb h (fun h => ?_) fun h => ?_
  ·refine AI h (fun v6 => mk [(0, oD (.ptr 90000 0))] [(90000, .box (AA v6))]) (fun j6 h => ?_) (fun v6 h => ?_)
   ·refine wq rfl (qf C5 rfl (ql AX rfl (BE rfl (Ac ?_))))
    refine Bb h (fun h => ?_) fun h => ?_
    ·refine Aj Ax rfl (qm rfl (qL Iw FR rfl ?_))
     refine B0 h fun v8 a8 h => Fu (ds0 := [_, _]) [90000] [] [true] (EO N ((Ai.mk ((Aa.mk p0.fc.fb p0.fc.fk p0.fc.fp p0.fc.fe)) p0.fr p0.fi p0.fB ((Ae.mk p0.fd.fh p0.fd.ff p0.fd.fg)))) v1 v8 a8) (.p rfl) SR rfl ⟨rfl, rfl, tv⟩ rfl rfl (by decide) ⟨rfl, tv⟩ rfl (De rfl) tv ⟨(fun h => by cases h), tv⟩ rfl rfl rfl ?_
     refine Ac ?_
     exact sn [] h
    ·refine Ap ?_
     exact sn [] h
   ·refine Aj Ax rfl (qw 3 rfl (HT rfl (qf Id rfl (ql AX rfl (Cl rfl (HT rfl (qf Id rfl (qs CL rfl (HT rfl (qf HH rfl (qs CL rfl (Ac ?_))))))))))))
    obtain rfl := sj h
    refine ⟨_, (sm [] [] [(90000, .box [sC (v6.fc.fb.map As), sC (v6.fc.fk.map As), sC (v6.fc.fp.map As), sC (v6.fc.fe.map BG), sC (v6.fr.map AN), iC ((wI .i64 (v6.fi + 1))), iC 0, sC (v6.fd.fh.map As), sC (v6.fd.ff.map As), sC (v6.fd.fg.map Dq)])] rfl rfl), ?_⟩
    exact ⟨⟨[], tv, rfl⟩, ⟨rfl, tv⟩, tv⟩
  ·refine wq rfl (AP rfl (qe rfl ?_))
   refine Bb h (fun h => ?_) fun h => ?_
   ·refine Aj Ax rfl (qm rfl (HT rfl (qf HH rfl (qs CL rfl (Ac ?_)))))
    obtain rfl := sj h
    refine ⟨_, (sm [] [] [(90000, .box [sC (p0.fc.fb.map As), sC (p0.fc.fk.map As), sC (p0.fc.fp.map As), sC (p0.fc.fe.map BG), sC (p0.fr.map AN), iC p0.fi, iC 2, sC (p0.fd.fh.map As), sC (p0.fd.ff.map As), sC (p0.fd.fg.map Dq)])] rfl rfl), ?_⟩
    exact ⟨⟨[], tv, rfl⟩, ⟨rfl, tv⟩, tv⟩
   ·refine wq rfl (AP rfl (qe rfl ?_))
    refine Bb h (fun h => ?_) fun h => ?_
    ·refine wq rfl (qm rfl (HT rfl (qf HH rfl (qs CL rfl (Ac (Aj Ax rfl (qm rfl (qf DK rfl (ql AX rfl (Bs Pz TD rfl ?_))))))))))
     refine B0 h fun v11 a11 h => Fu (ds0 := [_, _]) [90000] [] [true] (EO N ((Ai.mk ((Aa.mk p0.fc.fb p0.fc.fk p0.fc.fp p0.fc.fe)) p0.fr p0.fi 0 ((Ae.mk p0.fd.fh p0.fd.ff p0.fd.fg)))) ((Al.mk 4 v1.fm 0)) v11 a11) (.p rfl) SR rfl ⟨rfl, rfl, tv⟩ rfl rfl (by decide) ⟨rfl, tv⟩ rfl (De rfl) tv ⟨(fun h => by cases h), tv⟩ rfl rfl rfl ?_
     refine Ac ?_
     obtain rfl := sj h
     refine ⟨_, (sm [] [] [(90000, .box (AA v11))] rfl rfl), ?_⟩
     exact ⟨⟨[], tv, rfl⟩, ⟨rfl, tv⟩, tv⟩
    ·refine Ap ?_
     obtain rfl := sj h
     refine ⟨_, (sm [] [] [(90000, .box (AA p0))] rfl rfl), ?_⟩
     exact ⟨⟨[], tv, rfl⟩, ⟨rfl, tv⟩, tv⟩
theorem Kg (N : Nat) (p0 : Ai) (p1 : A9) (p2 : List Int) (p3 : Ab) (r : Int × Ai × A9 × (List (Int × Int))) (h : Dn N p0 p1 p2 p3 = some r) : DO zA 73 [oD (.ptr 90000 0), oD (.ptr 90001 0), pD (.sl (p2.map As)), .e (.agg (AO p3))] [(.box (AA p0), .box (AA r.2.1)), (.box [iC p1.fF, iC p1.fH, .pure (.val (.bool p1.fI)), .mref 90002], .box [iC r.2.2.1.fF, iC r.2.2.1.fH, .pure (.val (.bool r.2.2.1.fI)), .mref 90002]), (.mp (D5 (Value.int .i64) Gi p1.fK), .mp (D5 (Value.int .i64) Gi r.2.2.2))] [] (iD r.1) := by
 unfold Dn at h
 refine Du (n := 79) (rs := [.tmp 8]) Tryz.func73 rfl rfl rfl (Hd rfl) (Hd rfl) rfl rfl (Hd rfl) rfl (Hd rfl) fun w0 S0 GL => ?_
 refine Af (sm [] [(0, oD (.ptr 90000 0)), (1, oD (.ptr 90001 0)), (2, pD (.sl (p2.map As))), (3, .e (.agg (AO p3)))] [(90000, .box (AA p0)), (90001, .box [iC p1.fF, iC p1.fH, .pure (.val (.bool p1.fI)), .mref 90002]), (90002, .mp (D5 (Value.int .i64) Gi p1.fK))] rfl rfl) (wq rfl (qb rfl (qe rfl ?_)))
 refine AI h (fun v1 => mk [] [(90000, .box (AA v1.2.1)), (90001, .box [iC v1.2.2.1, iC v1.2.2.2.1, .pure (.val (.bool v1.2.2.2.2)), .mref 90002]), (90002, .mp (D5 (Value.int .i64) Gi v1.1))]) (fun j1 h => ?_) (fun v1 h => ?_)
 ·refine AR ?_
  refine AI h (fun v2 => mk [(0, oD (.ptr 90000 0)), (1, oD (.ptr 90001 0)), (2, pD (.sl (p2.map As))), (7, oD (.ptr 7 0)), (10, bD v2)] [(7, .box (AO p3)), (90000, .box (AA p0)), (90001, .box [iC p1.fF, iC p1.fH, .pure (.val (.bool p1.fI)), .mref 90002]), (90002, .mp (D5 (Value.int .i64) Gi p1.fK))]) (fun j2 h => ?_) (fun v2 h => ?_)
  ·refine Aj Ax rfl (qf Ca rfl (ql AX rfl (AP rfl (qm rfl ?_))))
   refine Cv 14 h rfl (fun h => ?_) fun h => ?_
   ·refine qm rfl (HT rfl (qf NF rfl (qL Dg C8 rfl (qL E7 CV rfl ?_))))
    refine B0 h fun v4 a4 h => Aw [] (Oj N ((Aa.mk p0.fc.fb p0.fc.fk p0.fc.fp p0.fc.fe)) p3 v4 a4) XK rfl (Cb rfl (qp rfl (qa rfl (AG (by kernel_rfl) ?_))))
    exact sn [] h
   ·refine qw 7 rfl (qp rfl (qa rfl (AG (by kernel_rfl) ?_)))
    exact sn [] h
  ·refine Bb h (fun h => ?_) fun h => ?_
   ·refine wq rfl (qe rfl ?_)
    obtain rfl := sj h
    refine Af (sm [] [(8, iD 1)] [(90000, .box (AA p0)), (90001, .box [iC p1.fF, iC p1.fH, .pure (.val (.bool p1.fI)), .mref 90002]), (90002, .mp (D5 (Value.int .i64) Gi p1.fK))] rfl rfl) (Aq ?_)
    exact ⟨⟨[_], tm, rfl⟩, ⟨rfl, rfl, rfl, tv⟩, tv⟩
   ·refine AI h (fun v6 => mk [(0, oD (.ptr 90000 0)), (1, oD (.ptr 90001 0)), (2, pD (.sl (p2.map As))), (7, oD (.ptr 7 0)), (23, bD v6)] [(7, .box (AO p3)), (90000, .box (AA p0)), (90001, .box [iC p1.fF, iC p1.fH, .pure (.val (.bool p1.fI)), .mref 90002]), (90002, .mp (D5 (Value.int .i64) Gi p1.fK))]) (fun j6 h => ?_) (fun v6 h => ?_)
    ·refine Aj Ax rfl (qL E7 CV rfl ?_)
     refine B0 h fun v7 a7 h => Aw [] (FW N p3 v7 a7) Tn rfl (qm rfl ?_)
     refine Cv 26 h rfl (fun h => ?_) fun h => ?_
     ·refine qm rfl (qL E7 CV rfl ?_)
      refine B0 h fun v9 a9 h => Fu (ds0 := [_, _]) [90000] [] [false] (FZ N ((Ai.mk ((Aa.mk p0.fc.fb p0.fc.fk p0.fc.fp p0.fc.fe)) p0.fr p0.fi p0.fB ((Ae.mk p0.fd.fh p0.fd.ff p0.fd.fg)))) p3 v9 a9) (.g rfl rfl) VR rfl ⟨rfl, rfl, tv⟩ rfl rfl (by decide) ⟨rfl, tv⟩ rfl (De rfl) tv ⟨(fun _ => rfl), tv⟩ rfl rfl rfl ?_
      refine Cb rfl (qp rfl (qe rfl ?_))
      exact sn [] h
     ·refine qw 4 rfl (qp rfl (qe rfl ?_))
      exact sn [] h
    ·refine Bb h (fun h => ?_) fun h => ?_
     ·refine wq rfl (qe rfl ?_)
      obtain rfl := sj h
      refine Af (sm [] [(8, iD 2)] [(90000, .box (AA p0)), (90001, .box [iC p1.fF, iC p1.fH, .pure (.val (.bool p1.fI)), .mref 90002]), (90002, .mp (D5 (Value.int .i64) Gi p1.fK))] rfl rfl) (Aq ?_)
      exact ⟨⟨[_], tm, rfl⟩, ⟨rfl, rfl, rfl, tv⟩, tv⟩
     ·refine wq rfl (qm rfl (qL E7 CV rfl ?_))
      refine B0 h fun v11 a11 h => Fu (ds0 := [_, _]) [90001, 90002] [] [true, true] (IN N p1 p3 v11 a11) (.p rfl) XE rfl ⟨rfl, rfl, tv⟩ rfl rfl (Ew rfl) ⟨rfl, rfl, tv⟩ rfl (De rfl) tv ⟨(fun h => by cases h), (fun h => by cases h), tv⟩ rfl rfl rfl ?_
      refine Cb rfl (qe rfl ?_)
      refine Bb h (fun h => ?_) fun h => ?_
      ·refine wq rfl (qe rfl ?_)
       obtain rfl := sj h
       refine Af (sm [] [(8, iD 3)] [(90000, .box (AA p0)), (90001, .box [iC v11.2.1.fF, iC v11.2.1.fH, .pure (.val (.bool v11.2.1.fI)), .mref 90002]), (90002, .mp (D5 (Value.int .i64) Gi v11.2.2))] rfl rfl) (Aq ?_)
       exact ⟨⟨[_], tm, rfl⟩, ⟨rfl, rfl, rfl, tv⟩, tv⟩
      ·refine wq rfl (qf Ca rfl (ql AX rfl (AP rfl (qe rfl ?_))))
       refine Bb h (fun h => ?_) fun h => ?_
       ·refine wq rfl (qm rfl (qf Gw rfl (ql AX rfl ?_)))
        refine B0 h fun v14 a14 h => Aw [] (MJ N p2 p3.ft v14 a14) Vz rfl (qe rfl ?_)
        refine AI h (fun v15 => mk [(57, bD v15)] [(90000, .box (AA p0)), (90001, .box [iC v11.2.1.fF, iC v11.2.1.fH, .pure (.val (.bool v11.2.1.fI)), .mref 90002]), (90002, .mp (D5 (Value.int .i64) Gi v11.2.2))]) (fun j15 h => ?_) (fun v15 h => ?_)
        ·refine Aj Ax rfl (qm rfl (A2 rfl (qm rfl ?_)))
         refine Cv 47 h rfl (fun h => ?_) fun h => ?_
         ·refine qw 9 rfl (qp rfl (AG (by kernel_rfl) ?_))
          exact sn [] h
         ·refine qm rfl (HT rfl (qf Kr rfl (qL B1 AV rfl (qm rfl (qf Ji rfl (ql AX rfl ?_))))))
          refine B0 h fun v17 a17 h => Aw [] (GP N ((Ae.mk p0.fd.fh p0.fd.ff p0.fd.fg)) v14 p3.fq v17 a17) So rfl (Cb rfl (qp rfl (AG (by kernel_rfl) ?_)))
          exact sn [] h
        ·refine Bb h (fun h => ?_) fun h => ?_
         ·refine wq rfl (qe rfl ?_)
          obtain rfl := sj h
          refine Af (sm [] [(8, iD 4)] [(90000, .box (AA p0)), (90001, .box [iC v11.2.1.fF, iC v11.2.1.fH, .pure (.val (.bool v11.2.1.fI)), .mref 90002]), (90002, .mp (D5 (Value.int .i64) Gi v11.2.2))] rfl rfl) (Aq ?_)
          exact ⟨⟨[_], tm, rfl⟩, ⟨rfl, rfl, rfl, tv⟩, tv⟩
         ·refine Ap ?_
          exact sn [] h
       ·refine wq rfl (qf Ca rfl (ql AX rfl (AP rfl (qe rfl ?_))))
        refine Bb h (fun h => ?_) fun h => ?_
        ·refine wq rfl (qm rfl (HT rfl (qf NF rfl (qL Dg C8 rfl (qm rfl (HT rfl (qf Kr rfl (qL B1 AV rfl (qL E7 CV rfl ?_)))))))))
         refine B0 h fun v20 a20 h => Aw [] (Ll N ((Aa.mk p0.fc.fb p0.fc.fk p0.fc.fp p0.fc.fe)) ((Ae.mk p0.fd.fh p0.fd.ff p0.fd.fg)) p3 v20 a20) WG rfl (Cb rfl (AG (by kernel_rfl) ?_))
         refine Bb h (fun h => ?_) fun h => ?_
         ·refine wq rfl (qe rfl ?_)
          obtain rfl := sj h
          refine Af (sm [] [(8, iD 5)] [(90000, .box (AA p0)), (90001, .box [iC v11.2.1.fF, iC v11.2.1.fH, .pure (.val (.bool v11.2.1.fI)), .mref 90002]), (90002, .mp (D5 (Value.int .i64) Gi v11.2.2))] rfl rfl) (Aq ?_)
          exact ⟨⟨[_], tm, rfl⟩, ⟨rfl, rfl, rfl, tv⟩, tv⟩
         ·refine Ap ?_
          exact sn [] h
        ·refine wq rfl (qL E7 CV rfl ?_)
         refine B0 h fun v22 a22 h => Aw [] (FW N p3 v22 a22) Tn rfl (qe rfl ?_)
         refine Bb h (fun h => ?_) fun h => ?_
         ·refine Aj Ax rfl (qm rfl (qL E7 CV rfl ?_))
          refine B0 h fun v24 a24 h => Fu (ds0 := [_, _]) [90000] [] [true] (FE N ((Ai.mk ((Aa.mk p0.fc.fb p0.fc.fk p0.fc.fp p0.fc.fe)) p0.fr p0.fi p0.fB ((Ae.mk p0.fd.fh p0.fd.ff p0.fd.fg)))) p3 v24 a24) (.p rfl) Wm rfl ⟨rfl, rfl, tv⟩ rfl rfl (by decide) ⟨rfl, tv⟩ rfl (De rfl) tv ⟨(fun h => by cases h), tv⟩ rfl rfl rfl ?_
          refine Ac ?_
          exact sn [] h
         ·refine Ap ?_
          exact sn [] h
 ·refine wq rfl (qe rfl ?_)
  obtain rfl := sj h
  refine Af (sm [] [(8, iD 0)] [(90000, .box (AA v1.2.1)), (90001, .box [iC v1.2.2.1, iC v1.2.2.2.1, .pure (.val (.bool v1.2.2.2.2)), .mref 90002]), (90002, .mp (D5 (Value.int .i64) Gi v1.1))] rfl rfl) (Aq ?_)
  exact ⟨⟨[_], tm, rfl⟩, ⟨rfl, rfl, rfl, tv⟩, tv⟩
theorem JC (N : Nat) (p0 : Aa) (p1 : List Int) (p2 : List Al) (p3 : List Ab) (r : Int × Int × (Option Ai) × Int) (h : Ep N p0 p1 p2 p3 = some r) : Ar zA 35 [.e (.agg (Ak p0)), pD (.sl (p1.map As)), pD (.sl (p2.map AN)), pD (.sl (p3.map AD))] [] (.tup [.one (iC r.1), .one (iC r.2.1), .one (.pure (.rp (xU E4 r.2.2.1))), .one (iC r.2.2.2)]) := by
 unfold Ep at h
 refine cw (n := 69) (rs := [.tmp 8, .tmp 9, .tmp 10, .tmp 11]) Tryz.func35 fun w0 S0 => ?_
 refine wq rfl (qb rfl (qa rfl (qa rfl (qa rfl (qa rfl (Ac (wp rfl (qL Dg C8 rfl ?_))))))))
 refine B0 h fun v1 a1 h => Aw [] (Eb N p0 v1 a1) TV rfl (qa rfl (Ac (wq rfl (qm rfl (BE rfl (Ac ?_))))))
 refine Bb h (fun h => ?_) fun h => ?_
 ·refine wq rfl (qm rfl (qa rfl (qa rfl (qa rfl (qe rfl ?_)))))
  obtain rfl := sj h
  refine Af (sm [] [(8, iD 0), (9, iD 0), (10, pD (.rp none)), (11, iD v1)] [] rfl rfl) (Aq ?_)
  exact ⟨⟨[_, _, _, _], ⟨.tmp _ _ rfl, ⟨.tmp _ _ rfl, ⟨.tmp _ _ rfl, tm⟩⟩⟩, rfl⟩, tv⟩
 ·refine Ap (wp rfl (qL Dg C8 rfl (qm rfl ?_)))
  refine B0 h fun v3 a3 h => Aw [] (Ln N p0 p1 v3 a3) XD rfl (qa rfl (Ac (wq rfl (qm rfl (BE rfl (Ac ?_))))))
  refine Bb h (fun h => ?_) fun h => ?_
  ·refine wq rfl (qm rfl (qa rfl (qa rfl (qa rfl (qe rfl ?_)))))
   obtain rfl := sj h
   refine Af (sm [] [(8, iD 0), (9, iD 0), (10, pD (.rp none)), (11, iD v3)] [] rfl rfl) (Aq ?_)
   exact ⟨⟨[_, _, _, _], ⟨.tmp _ _ rfl, ⟨.tmp _ _ rfl, ⟨.tmp _ _ rfl, tm⟩⟩⟩, rfl⟩, tv⟩
  ·refine Ap (wq rfl (qL Dg C8 rfl (qm rfl ?_)))
   refine B0 h fun v5 a5 h => Aw [] (HE N p0 p2 v5 a5) VN rfl (qm rfl (qx rfl (qx rfl (qz Do rfl (qs AV rfl (qe rfl ?_))))))
   refine AI h (fun v6 => mk [(1, pD (.sl (p1.map As))), (2, pD (.sl (p2.map AN))), (3, pD (.sl (p3.map AD))), (4, oD (.ptr 4 0)), (14, oD (.ptr 14 0)), (15, iD v6)] [(4, .box (Ak p0)), (14, .box (Bi v5.1))]) (fun j6 h => ?_) (fun v6 h => ?_)
   ·refine wq rfl (qm rfl (AP rfl (Ac ?_)))
    refine Bb h (fun h => ?_) fun h => ?_
    ·refine Aj Ax rfl (qm rfl ?_)
     refine B0 h fun v8 a8 h => Aw [] (GA N p3 v8 a8) UQ rfl (qe rfl ?_)
     exact sn [] h
    ·refine Ap ?_
     exact sn [] h
   ·refine wp rfl (qm rfl (BE rfl (Ac ?_)))
    refine Bb h (fun h => ?_) fun h => ?_
    ·refine wq rfl (qm rfl (qa rfl (qa rfl (qa rfl (qe rfl ?_)))))
     obtain rfl := sj h
     refine Af (sm [] [(8, iD 0), (9, iD 0), (10, pD (.rp none)), (11, iD v6)] [] rfl rfl) (Aq ?_)
     exact ⟨⟨[_, _, _, _], ⟨.tmp _ _ rfl, ⟨.tmp _ _ rfl, ⟨.tmp _ _ rfl, tm⟩⟩⟩, rfl⟩, tv⟩
    ·refine Ap (wq rfl (qL Dg C8 rfl (qm rfl (qL B1 AV rfl (Bs WE WH rfl (qb rfl (qa rfl (Ac (wq rfl ?_)))))))))
     refine B0 h fun v10 a10 h => Fu (ds0 := []) [] [2001, 2002] [] (Kq N v10 a10) (.p rfl) Xo rfl tv rfl rfl (by decide) tv rfl (De rfl) ⟨rfl, rfl, tv⟩ tv rfl rfl rfl ?_
     refine FJ (sm [] [(1, pD (.sl (p1.map As))), (2, pD (.sl (p2.map AN))), (3, pD (.sl (p3.map AD))), (4, oD (.ptr 4 0)), (14, oD (.ptr 14 0)), (15, iD v6), (16, oD (.ptr 49 0)), (42, iD v6), (43, bD ((v6 != 0))), (45, .e (.agg (Ak p0))), (46, pD (.sl (p2.map AN))), (47, .e (.agg (Bi v5.1))), (48, .e (.agg [sC (p0.fb.map As), sC (p0.fk.map As), sC (p0.fp.map As), sC (p0.fe.map BG), sC (p2.map AN), iC 0, iC 0, sC (v5.1.fh.map As), sC (v5.1.ff.map As), sC (v5.1.fg.map Dq)])), (49, oD (.ptr 49 0)), (50, oD (.ptr 2001 0))] [(4, .box (Ak p0)), (14, .box (Bi v5.1)), (49, .box [sC (p0.fb.map As), sC (p0.fk.map As), sC (p0.fp.map As), sC (p0.fe.map BG), sC (p2.map AN), iC 0, iC 0, sC (v5.1.fh.map As), sC (v5.1.ff.map As), sC (v5.1.fg.map Dq)]), (2001, .box [iC v10.fF, iC v10.fH, .pure (.val (.bool v10.fI)), .mref 2002]), (2002, .mp (D5 (Value.int .i64) Gi v10.fK))] rfl rfl) (qa rfl (Ac (wp rfl (qm rfl (AH DV rfl (qm rfl (Ac ?_)))))))
     refine A5 (L := Dk N p1 p3) h (fun v11 => mk [(1, pD (.sl (p1.map As))), (16, oD (.ptr 49 0)), (17, oD (.ptr 2001 0)), (51, pD (.sl (p3.map AD))), (52, iD ((p3.length : Int))), (53, iD v11.2.2.2.2.2)] [(49, .box (AA v11.1)), (2001, .box [iC v11.2.1, iC v11.2.2.1, .pure (.val (.bool v11.2.2.2.1)), .mref 2003]), (2003, .mp (D5 (Value.int .i64) Gi v11.2.2.2.2.1))]) (fun v12 => mk [(16, oD (.ptr 49 0))] [(49, .box (AA v12))]) (fun _ _ => rfl) (sm [(2003, 2002)] _ _ rfl rfl) (fun j11 n11 v11 h => ?_) (fun v12 s h hs => ?_)
     ·unfold Dk at h
      refine wq rfl (A2 rfl (Ac (AS ?_)))
      refine Bb h (fun h => ?_) fun h => ?_
      ·refine Ap (AS (AR (wq rfl (qm rfl ?_))))
       refine BK h fun v14 a14 b14 h => qi DV CV a14 (Ah b14) rfl (qK E7 CV rfl (qz IF rfl (qa rfl (qs CV rfl (Ac (wq rfl (qw 3 rfl (qL E7 CV rfl ?_))))))))
       refine B0 h fun v15 a15 h => Fu (ds0 := [_, _, _, _]) [49, 2001, 2003] [] [true, true, true] (Kg N ((Ai.mk ((Aa.mk v11.1.fc.fb v11.1.fc.fk v11.1.fc.fp v11.1.fc.fe)) v11.1.fr v11.1.fi v11.1.fB ((Ae.mk v11.1.fd.fh v11.1.fd.ff v11.1.fd.fg)))) ((A9.mk v11.2.1 v11.2.2.1 v11.2.2.2.1 v11.2.2.2.2.1)) p1 v14 v15 a15) (.p rfl) Xa rfl ⟨rfl, rfl, rfl, rfl, tv⟩ rfl rfl (Ew rfl) ⟨rfl, rfl, rfl, tv⟩ rfl (De rfl) tv ⟨(fun h => by cases h), (fun h => by cases h), (fun h => by cases h), tv⟩ rfl rfl rfl ?_
       refine qa rfl (Ac (wq rfl (qm rfl (BE rfl (Ac ?_)))))
       refine Bb h (fun h => ?_) fun h => ?_
       ·refine wq rfl (qw 2 rfl (qa rfl (qa rfl (qa rfl (qe rfl ?_)))))
        obtain rfl := sj h
        refine Af (sm [] [(8, iD v11.2.2.2.2.2), (9, iD v15.1), (10, pD (.rp none)), (11, iD 0)] [] rfl rfl) (Aq ?_)
        exact ⟨⟨[_, _, _, _], ⟨.tmp _ _ rfl, ⟨.tmp _ _ rfl, ⟨.tmp _ _ rfl, tm⟩⟩⟩, rfl⟩, tv⟩
       ·refine Ap (Aj Ax rfl (Cl rfl (qm rfl (Ac ?_))))
        exact sn [] h
      ·refine BS ?_
       exact sn [] h
     ·refine Af hs (wq rfl (qm rfl (qa rfl (qa rfl (qa rfl (qe rfl ?_))))))
      obtain rfl := sj h
      refine Af ((IW 49 [.sl (v12.fc.fb.map As), .sl (v12.fc.fk.map As), .sl (v12.fc.fp.map As), .sl (v12.fc.fe.map BG), .sl (v12.fr.map AN), .val (.int .i64 v12.fi), .val (.int .i64 v12.fB), .sl (v12.fd.fh.map As), .sl (v12.fd.ff.map As), .sl (v12.fd.fg.map Dq)] rfl rfl).trans ((N4 10 _ rfl).trans (sm [] [(8, iD 0), (9, iD 0), (10, pD (.rp (xU E4 ((some ((Ai.mk ((Aa.mk v12.fc.fb v12.fc.fk v12.fc.fp v12.fc.fe)) v12.fr v12.fi v12.fB ((Ae.mk v12.fd.fh v12.fd.ff v12.fd.fg))))))))), (11, iD 15)] [] rfl rfl))) (Aq ?_)
      exact ⟨⟨[_, _, _, _], ⟨.tmp _ _ rfl, ⟨.tmp _ _ rfl, ⟨.tmp _ _ rfl, tm⟩⟩⟩, rfl⟩, tv⟩
theorem JG (N : Nat) (p0 : Aa) (p1 : List Int) (p2 : List Al) (p3 : List Ab) (r : Int × Int × Int) (h : F0 N p0 p1 p2 p3 = some r) : Ar zA 13 [.e (.agg (Ak p0)), pD (.sl (p1.map As)), pD (.sl (p2.map AN)), pD (.sl (p3.map AD))] [] (.tup [.one (iC r.1), .one (iC r.2.1), .one (iC r.2.2)]) := by
 unfold F0 at h
 refine cw (n := 28) (rs := [.tmp 8, .tmp 9, .tmp 10]) Tryz.func13 fun w0 S0 => ?_
 refine wq rfl (qb rfl (qa rfl (qa rfl (qa rfl (Ac (wq rfl (qL Dg C8 rfl (qw 3 rfl ?_))))))))
 refine B0 h fun v1 a1 h => Aw [] (JC N p0 p1 p2 p3 v1 a1) VS rfl (qm rfl (qx rfl (qx rfl (qx rfl (qx rfl (qa rfl (qa rfl (qa rfl (qa rfl (Ac (wq rfl (qw 3 rfl (qa rfl (qa rfl (qe rfl ?_)))))))))))))))
 obtain rfl := sj h
 refine Af (sm [] [(8, iD v1.1), (9, iD v1.2.1), (10, iD v1.2.2.2)] [] rfl rfl) (Aq ?_)
 exact ⟨⟨[_, _, _], ⟨.tmp _ _ rfl, ⟨.tmp _ _ rfl, tm⟩⟩, rfl⟩, tv⟩
theorem KJ (N : Nat) (p0 : Aa) (p1 : List Al) (p2 : List Ab) (r : (Option Ai) × Int × Int) (h : FX N p0 p1 p2 = some r) : Ar zA 39 [.e (.agg (Ak p0)), pD (.sl (p1.map AN)), pD (.sl (p2.map AD))] [] (.tup [.one (.pure (.rp (xU E4 r.1))), .one (iC r.2.1), .one (iC r.2.2)]) := by
 unfold FX at h
 refine cw (n := 59) (rs := [.tmp 6, .tmp 7, .tmp 8]) Tryz.func39 fun w0 S0 => ?_
 refine wq rfl (qb rfl (qa rfl (qa rfl (qa rfl (Ac (wp rfl (qL Dg C8 rfl ?_)))))))
 refine B0 h fun v1 a1 h => Aw [] (Eb N p0 v1 a1) TV rfl (qa rfl (Ac (wq rfl (qm rfl (BE rfl (Ac ?_))))))
 refine Bb h (fun h => ?_) fun h => ?_
 ·refine wq rfl (qm rfl (qa rfl (qa rfl (qe rfl ?_))))
  obtain rfl := sj h
  refine Af (sm [] [(6, pD (.rp none)), (7, iD 0), (8, iD v1)] [] rfl rfl) (Aq ?_)
  exact ⟨⟨[_, _, _], ⟨.tmp _ _ rfl, ⟨.tmp _ _ rfl, tm⟩⟩, rfl⟩, tv⟩
 ·refine Ap (wq rfl (qL Dg C8 rfl (qm rfl ?_)))
  refine B0 h fun v3 a3 h => Aw [] (HE N p0 p1 v3 a3) VN rfl (qm rfl (qx rfl (qx rfl (qz Do rfl (qs AV rfl (qe rfl ?_))))))
  refine AI h (fun v4 => mk [(1, pD (.sl (p1.map AN))), (2, pD (.sl (p2.map AD))), (3, oD (.ptr 3 0)), (10, oD (.ptr 10 0)), (11, iD v4)] [(3, .box (Ak p0)), (10, .box (Bi v3.1))]) (fun j4 h => ?_) (fun v4 h => ?_)
  ·refine wq rfl (qm rfl (AP rfl (Ac ?_)))
   refine Bb h (fun h => ?_) fun h => ?_
   ·refine Aj Ax rfl (qm rfl ?_)
    refine B0 h fun v6 a6 h => Aw [] (GA N p2 v6 a6) UQ rfl (qe rfl ?_)
    exact sn [] h
   ·refine Ap ?_
    exact sn [] h
  ·refine wp rfl (qm rfl (BE rfl (Ac ?_)))
   refine Bb h (fun h => ?_) fun h => ?_
   ·refine wq rfl (qm rfl (qa rfl (qa rfl (qe rfl ?_))))
    obtain rfl := sj h
    refine Af (sm [] [(6, pD (.rp none)), (7, iD 0), (8, iD v4)] [] rfl rfl) (Aq ?_)
    exact ⟨⟨[_, _, _], ⟨.tmp _ _ rfl, ⟨.tmp _ _ rfl, tm⟩⟩, rfl⟩, tv⟩
   ·refine Ap (wq rfl (qL Dg C8 rfl (qm rfl (qL B1 AV rfl (Bs WE WH rfl (qb rfl (qa rfl (Ac (wp rfl (qm rfl (AH DV rfl (qm rfl (Ac ?_)))))))))))))
    refine A5 (L := D8 N p2) h (fun v8 => mk [(12, oD (.ptr 37 0)), (38, pD (.sl (p2.map AD))), (39, iD ((p2.length : Int))), (40, iD v8.2)] [(37, .box (AA v8.1))]) (fun v9 => mk [(12, oD (.ptr 37 0))] [(37, .box (AA v9))]) (fun _ _ => rfl) (sm [] _ _ rfl rfl) (fun j8 n8 v8 h => ?_) (fun v9 s h hs => ?_)
    ·unfold D8 at h
     refine wq rfl (A2 rfl (Ac (AS ?_)))
     refine Bb h (fun h => ?_) fun h => ?_
     ·refine Ap ?_
      refine AI h (fun v11 => mk [(12, oD (.ptr 37 0)), (38, pD (.sl (p2.map AD))), (39, iD ((p2.length : Int))), (40, iD v8.2)] [(37, .box (AA v11))]) (fun j11 h => ?_) (fun v11 h => ?_)
      ·refine AR (wq rfl (qm rfl ?_))
       refine BK h fun v12 a12 b12 h => qi DV CV a12 (Ah b12) rfl (qK E7 CV rfl (qz IF rfl (qa rfl (qs CV rfl (Ac (wp rfl (qL E7 CV rfl ?_)))))))
       refine B0 h fun v13 a13 h => Aw [] (FW N v12 v13 a13) Tn rfl (Cb rfl (Ac ?_))
       refine Bb h (fun h => ?_) fun h => ?_
       ·refine BS ?_
        exact sn [] h
       ·refine Ap (wp rfl (qm rfl (qL E7 CV rfl ?_)))
        refine B0 h fun v15 a15 h => Fu (ds0 := [_, _]) [37] [] [false] (FZ N ((Ai.mk ((Aa.mk v8.1.fc.fb v8.1.fc.fk v8.1.fc.fp v8.1.fc.fe)) v8.1.fr v8.1.fi v8.1.fB ((Ae.mk v8.1.fd.fh v8.1.fd.ff v8.1.fd.fg)))) v12 v15 a15) (.p rfl) VR rfl ⟨rfl, rfl, tv⟩ rfl rfl (by decide) ⟨rfl, tv⟩ rfl (De rfl) tv ⟨(fun _ => rfl), tv⟩ rfl rfl rfl ?_
        refine Cb rfl (Ac ?_)
        refine Bb h (fun h => ?_) fun h => ?_
        ·refine wq rfl (qw 2 rfl (qa rfl (qa rfl (qe rfl ?_))))
         obtain rfl := sj h
         refine Af ((IW 37 [.sl (v8.1.fc.fb.map As), .sl (v8.1.fc.fk.map As), .sl (v8.1.fc.fp.map As), .sl (v8.1.fc.fe.map BG), .sl (v8.1.fr.map AN), .val (.int .i64 v8.1.fi), .val (.int .i64 v8.1.fB), .sl (v8.1.fd.fh.map As), .sl (v8.1.fd.ff.map As), .sl (v8.1.fd.fg.map Dq)] rfl rfl).trans ((N4 6 _ rfl).trans (sm [] [(6, pD (.rp (xU E4 ((some ((Ai.mk ((Aa.mk v8.1.fc.fb v8.1.fc.fk v8.1.fc.fp v8.1.fc.fe)) v8.1.fr v8.1.fi v8.1.fB ((Ae.mk v8.1.fd.fh v8.1.fd.ff v8.1.fd.fg))))))))), (7, iD v8.2), (8, iD 0)] [] rfl rfl))) (Aq ?_)
         exact ⟨⟨[_, _, _], ⟨.tmp _ _ rfl, ⟨.tmp _ _ rfl, tm⟩⟩, rfl⟩, tv⟩
        ·refine Ap (Aj Ax rfl (qm rfl (qL E7 CV rfl ?_)))
         refine B0 h fun v17 a17 h => Fu (ds0 := [_, _]) [37] [] [true] (FE N ((Ai.mk ((Aa.mk v8.1.fc.fb v8.1.fc.fk v8.1.fc.fp v8.1.fc.fe)) v8.1.fr v8.1.fi v8.1.fB ((Ae.mk v8.1.fd.fh v8.1.fd.ff v8.1.fd.fg)))) v12 v17 a17) (.p rfl) Wm rfl ⟨rfl, rfl, tv⟩ rfl rfl (by decide) ⟨rfl, tv⟩ rfl (De rfl) tv ⟨(fun h => by cases h), tv⟩ rfl rfl rfl ?_
         refine Ac ?_
         exact sn [] h
      ·refine Aj Ax rfl (Cl rfl (qm rfl (Ac ?_)))
       exact sn [] h
     ·refine BS ?_
      exact sn [] h
    ·refine Af hs (wq rfl (qm rfl (qa rfl (qa rfl (qe rfl ?_)))))
     obtain rfl := sj h
     refine Af ((IW 37 [.sl (v9.fc.fb.map As), .sl (v9.fc.fk.map As), .sl (v9.fc.fp.map As), .sl (v9.fc.fe.map BG), .sl (v9.fr.map AN), .val (.int .i64 v9.fi), .val (.int .i64 v9.fB), .sl (v9.fd.fh.map As), .sl (v9.fd.ff.map As), .sl (v9.fd.fg.map Dq)] rfl rfl).trans ((N4 6 _ rfl).trans (sm [] [(6, pD (.rp (xU E4 ((some ((Ai.mk ((Aa.mk v9.fc.fb v9.fc.fk v9.fc.fp v9.fc.fe)) v9.fr v9.fi v9.fB ((Ae.mk v9.fd.fh v9.fd.ff v9.fd.fg))))))))), (7, iD ((-1))), (8, iD 0)] [] rfl rfl))) (Aq ?_)
     exact ⟨⟨[_, _, _], ⟨.tmp _ _ rfl, ⟨.tmp _ _ rfl, tm⟩⟩, rfl⟩, tv⟩
theorem Pq (N : Nat) (p0 : Aa) (p1 : List Al) (p2 : List Ab) (r : Ae × Int) (h : Il N p0 p1 p2 = some r) : Ar zA 16 [.e (.agg (Ak p0)), pD (.sl (p1.map AN)), pD (.sl (p2.map AD))] [] (.tup [.agg (Bi r.1), .one (iC r.2)]) := by
 unfold Il at h
 refine cw (n := 32) (rs := [.cell 6 40, .tmp 7]) Tryz.func16 fun w0 S0 => ?_
 refine wq rfl (qb rfl (qz Do rfl (qa rfl (Ac (wq rfl (qL Dg C8 rfl (qw 2 rfl ?_)))))))
 refine B0 h fun v1 a1 h => Aw [] (KJ N p0 p1 p2 v1 a1) XN rfl (qm rfl (qx rfl (qx rfl (qx rfl (qa rfl (qa rfl (qa rfl (Ac (AS (AR (wq rfl (qm rfl (BE rfl (qe rfl ?_))))))))))))))
 refine Bb h (fun h => ?_) fun h => ?_
 ·refine wq rfl (Bs Do G7 rfl (qm rfl (qs AV rfl (qe rfl ?_))))
  obtain rfl := sj h
  refine Af ((Jg 6 _ rfl).trans (sm [] [(6, oD (.ptr 6 0)), (7, iD v1.2.2)] [(6, .box [sC ((([] : List Int)).map As), sC ((([] : List Int)).map As), sC ((([] : List Int)).map Dq)])] rfl rfl)) (Aq ?_)
  exact ⟨⟨[_, _], ⟨.cellN _ _ _ _ _ _ _ rfl rfl B1 AV rfl rfl (HL rfl), tm⟩, rfl⟩, tv⟩
 ·refine wq rfl (qm rfl (Da rfl (qe rfl ?_)))
  refine Bb h (fun h => ?_) fun h => ?_
  ·refine wq rfl (Bs Do G7 rfl (qs AV rfl (qe rfl ?_)))
   obtain rfl := sj h
   refine Af ((Jg 6 _ rfl).trans (sm [] [(6, oD (.ptr 6 0)), (7, iD 11)] [(6, .box [sC ((([] : List Int)).map As), sC ((([] : List Int)).map As), sC ((([] : List Int)).map Dq)])] rfl rfl)) (Aq ?_)
   exact ⟨⟨[_, _], ⟨.cellN _ _ _ _ _ _ _ rfl rfl B1 AV rfl rfl (HL rfl), tm⟩, rfl⟩, tv⟩
  ·refine Ap (wq rfl (qm rfl ?_))
   refine B0 h fun v4 a4 h => FJ (Pw 28 _ _ rfl (by rw [a4]; rfl)) ?_
   refine Ld (.p rfl) rfl ?_
   refine qg Kr rfl (qK B1 AV rfl (qs AV rfl (qe rfl ?_)))
   obtain rfl := sj h
   refine Af (sm [] [(6, oD (.ptr 6 0)), (7, iD 0)] [(6, .box (Bi v4.fd))] rfl rfl) (Aq ?_)
   exact ⟨⟨[_, _], ⟨.cellN _ _ _ _ _ _ _ rfl rfl B1 AV rfl rfl (HL rfl), tm⟩, rfl⟩, tv⟩
def Qy : Go.Shelf.Ren := ⟨fun | 129 => 182 | 173 => 125 | 246 => 126 | 283 => 159 | 284 => 160 | 285 => 161 | 286 => 162 | 317 => 181 | 318 => 183 | 319 => 184 | 320 => 185 | 337 => 194 | 338 => 195 | n => n, fun | 0 => 0 | 2 => 2 | 3 => 3 | 4 => 4 | 5 => 5 | 9 => 9 | 20 => 20 | 37 => 47 | 46 => 234 | 51 => 242 | 53 => 214 | 171 => 213 | 173 => 217 | 212 => 241 | 213 => 243 | 232 => 261 | 233 => 262 | n => n, fun | 17 => 0 | 18 => 1 | 19 => 2 | n => n⟩
theorem Tt : LaysM.n173 zA Qy := { mixed := Ax, f129 := Tryz.func182.trans (congrArg some (by kernel_rfl)), f173 := Tryz.func125.trans (congrArg some (by kernel_rfl)), f246 := Tryz.func126.trans (congrArg some (by kernel_rfl)), f283 := Tryz.func159.trans (congrArg some (by kernel_rfl)), f284 := Tryz.func160.trans (congrArg some (by kernel_rfl)), f285 := Tryz.func161.trans (congrArg some (by kernel_rfl)), f286 := Tryz.func162.trans (congrArg some (by kernel_rfl)), f317 := Tryz.func181.trans (congrArg some (by kernel_rfl)), f318 := Tryz.func183.trans (congrArg some (by kernel_rfl)), f319 := Tryz.func184.trans (congrArg some (by kernel_rfl)), f320 := Tryz.func185.trans (congrArg some (by kernel_rfl)), f337 := Tryz.func194.trans (congrArg some (by kernel_rfl)), f338 := Tryz.func195.trans (congrArg some (by kernel_rfl)), t0 := Tryz.underlying0, a0 := Tryz.isAgg0, z0 := Tryz.sizeOf0, v0 := Tryz.zeroValue0, t2 := Tryz.underlying2, a2 := Tryz.isAgg2, z2 := Tryz.sizeOf2, v2 := Tryz.zeroValue2, t3 := Tryz.underlying3, a3 := Tryz.isAgg3, z3 := Tryz.sizeOf3, v3 := Tryz.zeroValue3, t4 := Tryz.underlying4, a4 := Tryz.isAgg4, z4 := Tryz.sizeOf4, v4 := Tryz.zeroValue4, t5 := Tryz.underlying5, a5 := Tryz.isAgg5, z5 := Tryz.sizeOf5, v5 := Tryz.zeroValue5, t9 := Tryz.underlying9, a9 := Tryz.isAgg9, z9 := Tryz.sizeOf9, v9 := Tryz.zeroValue9, t20 := Tryz.underlying20, a20 := Tryz.isAgg20, z20 := Tryz.sizeOf20, v20 := Tryz.zeroValue20, t37 := Tryz.underlying47, a37 := Tryz.isAgg47, z37 := Tryz.sizeOf47, v37 := Tryz.zeroValue47, t46 := Tryz.underlying234, a46 := Tryz.isAgg234, z46 := Tryz.sizeOf234, v46 := Tryz.zeroValue234, t51 := Tryz.underlying242, a51 := Tryz.isAgg242, z51 := Tryz.sizeOf242, v51 := Tryz.zeroValue242, t53 := Tryz.underlying214, a53 := Tryz.isAgg214, z53 := Tryz.sizeOf214, v53 := Tryz.zeroValue214, t171 := Tryz.underlying213, a171 := Tryz.isAgg213, z171 := Tryz.sizeOf213, v171 := Tryz.zeroValue213, t173 := Tryz.underlying217, a173 := Tryz.isAgg217, z173 := Tryz.sizeOf217, v173 := Tryz.zeroValue217, t212 := Tryz.underlying241, a212 := Tryz.isAgg241, z212 := Tryz.sizeOf241, v212 := Tryz.zeroValue241, t213 := Tryz.underlying243, a213 := Tryz.isAgg243, z213 := Tryz.sizeOf243, t232 := Tryz.underlying261, a232 := Tryz.isAgg261, z232 := Tryz.sizeOf261, v232 := Tryz.zeroValue261, t233 := Tryz.underlying262, a233 := Tryz.isAgg262, z233 := Tryz.sizeOf262, v233 := Tryz.zeroValue262, g17 := by kernel_rfl, g18 := by kernel_rfl, g19 := by kernel_rfl, i0 := by kernel_rfl, i2 := by kernel_rfl, i3 := by kernel_rfl, i4 := by kernel_rfl, i5 := by kernel_rfl, i9 := by kernel_rfl, i20 := by kernel_rfl, i37 := by kernel_rfl, i46 := by kernel_rfl, i51 := by kernel_rfl, i53 := by kernel_rfl, i171 := by kernel_rfl, i173 := by kernel_rfl, i212 := by kernel_rfl, i232 := by kernel_rfl, i233 := by kernel_rfl, m17 := by kernel_rfl, m18 := by kernel_rfl, m19 := by kernel_rfl }
theorem GV (N : Nat) (p0 p1 : Int) (r : ByteArray) (h : E3 N p0 p1 = some r) : Ar zA 125 [iD p0, iD p1] [] (pD (.val (.string r))) := by
 obtain ⟨h1, h⟩ := Hn h
 subst h1
 exact Ph Tt (g := Qy.g 17) (by kernel_rfl) h
theorem Od (N : Nat) (p0 : Ab) (r : ByteArray) (h : EN N p0 = some r) : Ar zA 88 [.e (.agg (AO p0))] [] (pD (.val (.string r))) := by
 unfold EN at h
 refine cw (n := 29) (rs := [.tmp 2]) Tryz.func88 fun w0 S0 => ?_
 refine wq rfl (qb rfl (qa rfl (Ac (wq rfl (qf G4 rfl (ql Hx rfl ?_))))))
 refine B0 h fun v1 a1 h => Aw [] (GV N p0.fi 10 v1 a1) UD rfl ?_
 refine HS h fun c2 h => Es (.p rfl) rfl rfl (zFS _ _ _ _ c2) rfl ?_
 refine qf Ca rfl (ql AX rfl ?_)
 refine B0 h fun v3 a3 h => Aw [] (Kl N p0.fa v3 a3) Uq rfl ?_
 refine HS h fun c4 h => Es (.p rfl) rfl rfl (zFS _ _ _ _ c4) rfl ?_
 refine qa rfl (AG (by kernel_rfl) (wp rfl (qL E7 CV rfl ?_)))
 refine B0 h fun v5 a5 h => Aw [2001] (IZ N p0 v5 a5) Ud rfl (Qa Cu rfl (qm rfl (Ac ?_)))
 refine A5 (L := Fa N v5) h (fun v6 => mk [(3, pD (.val (.string v6.1))), (15, oD (.own 2002)), (16, iD ((v5.length : Int))), (17, iD v6.2)] [(2002, .vec 1 (v5.map As))]) (fun v7 => mk [(3, pD (.val (.string v7)))] []) (fun _ _ => rfl) (sm [(2002, 2001)] _ _ rfl rfl) (fun j6 n6 v6 h => ?_) (fun v7 s h hs => ?_)
 ·unfold Fa at h
  refine wq rfl (A2 rfl (Ac (AS ?_)))
  refine Bb h (fun h => ?_) fun h => ?_
  ·refine Ap (AS (AR (wq rfl ?_)))
   refine BK h fun v9 a9 b9 h => qI Cu IB a9 (Ah b9) rfl (qj Hx (Ah b9) rfl (qa rfl (Ac (Aj Ax rfl (qw 2 rfl ?_)))))
   refine B0 h fun v10 a10 h => Aw [] (GV N v9 10 v10 a10) UD rfl ?_
   refine HS h fun c11 h => Es (.p rfl) rfl rfl (zFS _ _ _ _ c11) rfl ?_
   refine HS h fun c12 h => Es (.p rfl) rfl rfl (zFS _ _ _ _ c12) rfl ?_
   refine qa rfl (Ac (Aj Ax rfl (Cl rfl (qm rfl (Ac ?_)))))
   exact sn [] h
  ·refine BS ?_
   exact sn [] h
 ·refine Af hs (wq rfl (qm rfl ?_))
  refine HS h fun c13 h => Es (.p rfl) rfl rfl (zFS _ _ _ _ c13) rfl ?_
  refine qa rfl (Ac ?_)
  obtain rfl := sj h
  refine Af (sm [] [(2, pD (.val (.string ((v7 ++ (⟨#[10]⟩ : ByteArray))))))] [] rfl rfl) (Aq ?_)
  exact ⟨⟨[_], tm, rfl⟩, tv⟩
def Sm : Go.Shelf.Ren := ⟨fun | 166 => 87 | 240 => 124 | 276 => 158 | n => n, fun | 0 => 0 | 3 => 3 | 4 => 4 | 5 => 5 | 9 => 9 | 37 => 47 | 70 => 140 | 72 => 142 | 75 => 144 | 80 => 149 | 164 => 211 | n => n, fun n => n⟩
theorem UV : Lays.n166 zA Sm := { mixed := Ax, f166 := Tryz.func87.trans (congrArg some (by kernel_rfl)), f240 := Tryz.func124.trans (congrArg some (by kernel_rfl)), f276 := Tryz.func158.trans (congrArg some (by kernel_rfl)), t0 := Tryz.underlying0, a0 := Tryz.isAgg0, z0 := Tryz.sizeOf0, v0 := Tryz.zeroValue0, t3 := Tryz.underlying3, a3 := Tryz.isAgg3, z3 := Tryz.sizeOf3, v3 := Tryz.zeroValue3, t4 := Tryz.underlying4, a4 := Tryz.isAgg4, z4 := Tryz.sizeOf4, v4 := Tryz.zeroValue4, t9 := Tryz.underlying9, a9 := Tryz.isAgg9, z9 := Tryz.sizeOf9, v9 := Tryz.zeroValue9, t20 := Tryz.underlying20, a20 := Tryz.isAgg20, z20 := Tryz.sizeOf20, v20 := Tryz.zeroValue20, t37 := Tryz.underlying47, a37 := Tryz.isAgg47, z37 := Tryz.sizeOf47, v37 := Tryz.zeroValue47, t70 := Tryz.underlying140, a70 := Tryz.isAgg140, z70 := Tryz.sizeOf140, v70 := Tryz.zeroValue140, t72 := Tryz.underlying142, a72 := Tryz.isAgg142, z72 := Tryz.sizeOf142, v72 := Tryz.zeroValue142, t75 := Tryz.underlying144, a75 := Tryz.isAgg144, z75 := Tryz.sizeOf144, v75 := Tryz.zeroValue144, t164 := Tryz.underlying211, a164 := Tryz.isAgg211, z164 := Tryz.sizeOf211, v164 := Tryz.zeroValue211 }
def SA : Go.Shelf.Ren := ⟨fun | 169 => 90 | n => n, fun | 0 => 0 | 3 => 3 | 5 => 5 | 9 => 9 | 37 => 47 | 70 => 140 | 72 => 142 | 127 => 180 | n => n, fun n => n⟩
theorem U1 : Lays.n169 zA SA := { mixed := Ax, f169 := Tryz.func90.trans (congrArg some (by kernel_rfl)), t0 := Tryz.underlying0, a0 := Tryz.isAgg0, z0 := Tryz.sizeOf0, v0 := Tryz.zeroValue0, t3 := Tryz.underlying3, a3 := Tryz.isAgg3, z3 := Tryz.sizeOf3, v3 := Tryz.zeroValue3, t9 := Tryz.underlying9, a9 := Tryz.isAgg9, z9 := Tryz.sizeOf9, v9 := Tryz.zeroValue9, t37 := Tryz.underlying47, a37 := Tryz.isAgg47, z37 := Tryz.sizeOf47, v37 := Tryz.zeroValue47, t70 := Tryz.underlying140, a70 := Tryz.isAgg140, z70 := Tryz.sizeOf140, v70 := Tryz.zeroValue140, t72 := Tryz.underlying142, a72 := Tryz.isAgg142, z72 := Tryz.sizeOf142, v72 := Tryz.zeroValue142, t127 := Tryz.underlying180, a127 := Tryz.isAgg180, z127 := Tryz.sizeOf180, v127 := Tryz.zeroValue180 }
def UM : Go.Shelf.Ren := ⟨fun | 170 => 89 | n => n, fun | 0 => 0 | 3 => 3 | 5 => 5 | 37 => 47 | 70 => 140 | 72 => 142 | n => n, fun n => n⟩
theorem UU : Lays.n170 zA UM := { mixed := Ax, f170 := Tryz.func89.trans (congrArg some (by kernel_rfl)), t0 := Tryz.underlying0, a0 := Tryz.isAgg0, z0 := Tryz.sizeOf0, v0 := Tryz.zeroValue0, t3 := Tryz.underlying3, a3 := Tryz.isAgg3, z3 := Tryz.sizeOf3, v3 := Tryz.zeroValue3, t37 := Tryz.underlying47, a37 := Tryz.isAgg47, z37 := Tryz.sizeOf47, v37 := Tryz.zeroValue47, t70 := Tryz.underlying140, a70 := Tryz.isAgg140, z70 := Tryz.sizeOf140, v70 := Tryz.zeroValue140, t72 := Tryz.underlying142, a72 := Tryz.isAgg142, z72 := Tryz.sizeOf142, v72 := Tryz.zeroValue142 }
theorem WK : Builder.Extra zA Sm where
 sizeBuilder := by kernel_rfl
 liesBuilder := by kernel_rfl
 t5 := Tryz.underlying5
 a5 := Tryz.isAgg5
 z5 := Tryz.sizeOf5
 v5 := Tryz.zeroValue5
 infoByte := by kernel_rfl
 cellsByte := by kernel_rfl
 sizeByte := by kernel_rfl
 neB5 := by decide
theorem Wa : Builder.Extra zA SA where
 sizeBuilder := by kernel_rfl
 liesBuilder := by kernel_rfl
 t5 := Tryz.underlying5
 a5 := Tryz.isAgg5
 z5 := Tryz.sizeOf5
 v5 := Tryz.zeroValue5
 infoByte := by kernel_rfl
 cellsByte := by kernel_rfl
 sizeByte := by kernel_rfl
 neB5 := by decide
theorem XV (B b : Nat) (bs : List Value) (s : ByteArray) (w : World) (h : Lib.IsBuilder 142 5 B b bs w) (hlen : bs.length + s.size ≤ 140737488355328) (hBw : B ≤ w.heap.size) :
  Calls zA 87 #[.pointer (some ⟨b, 0, none⟩), .string s] w fun e w' => e = .returned (.tuple #[.int .i64 s.size, .nilIface]) ∧ (Lib.BuilderAt 142 5 B b (.pointer (some ⟨b, 0, none⟩)) (bs ++ Lib.strCells s) w' ∧ Below B w w') := Any.Builder_WriteString UV WK B b bs s w h hlen hBw
theorem W6 (B b : Nat) (bs : List Value) (w : World) (h : Lib.IsBuilder 142 5 B b bs w) : Calls zA 89 #[.pointer (some ⟨b, 0, none⟩)] w fun e w' => e = .returned (.int .i64 bs.length) ∧ w' = w := Any.Builder_Len UU B b bs w h
theorem XF (B b : Nat) (l : List UInt8) (w : World) (h : Lib.IsBuilder 142 5 B b (Lib.byteCells l) w) (hBw : B ≤ w.heap.size) :
  Calls zA 90 #[.pointer (some ⟨b, 0, none⟩)] w fun e w' => e = .returned (.string ⟨l.toArray⟩) ∧ Below B w w' := Any.Builder_String_any U1 Wa B b l w h hBw
def Th (x : Ab) : Array Value := #[.int .i64 x.fi, .int .i64 x.fa, .int .i64 x.fv, .int .i64 x.fw, .int .i64 x.fC, .int .i64 x.fm, .int .i64 x.fu, .int .i64 x.fD, .int .i64 x.ft, .int .i64 x.fq, .int .i64 x.fN]
set_option maxRecDepth 1000000 in
theorem Pa (n : Nat) (a : Option Addr) (cap : Nat) (ve : Int) (hve : ve ≠ 0) (w : World)
  (hval : Calls zA 43 #[.slice a n cap] w fun e w' => e = .returned (.int .i64 ve) ∧ Below w.heap.size w w') :
  Calls zA 44 #[.slice a n cap] w fun e w' => e = .returned (.tuple #[.string ⟨#[]⟩, .int .i64 ve]) ∧ Below w.heap.size w w' := by
 have e43 : ∀ args w, (callFunc 43 args).run zA w = .ok (.enter 43 args) w := fun _ _ => by kernel_rfl
 have hb : (ve != 0) = true := bne_iff_ne.2 hve
 go_enter Tryz.func44, Tryz.ntmps44
 go_wp2_with (go_at_fn 43; refine hval.mono ?_; rintro e w' ⟨rfl, hw⟩)
 go_ret2
 exact ⟨rfl, hw⟩
set_option maxHeartbeats 2000000 in
set_option maxRecDepth 1000000 in
theorem QF (ps : List Ab) (line : Ab → Option ByteArray) (a : Option Addr) (ab : Nat) (ao : Nat → Nat) (cap : Nat) (w : World) (r : ByteArray) (res : Value)
  (hval : Calls zA 43 #[.slice a ps.length cap] w fun e w' => e = .returned (.int .i64 0) ∧ Below w.heap.size w w')
  (hix : ∀ (i : Nat) x, ps[i]? = some x → ∀ W, Below w.heap.size w W → (Instr.indexAt 27 (.slice a ps.length cap) (.int .i64 (i : Int))).run zA W = .ok (.pointer (some ⟨ab, ao i, none⟩)) W ∧ ∀ (j : Nat) v, (Th x)[j]? = some v → W.cell? ⟨ab, ao i + j, none⟩ = some v)
  (hline : ∀ x s, x ∈ ps → line x = some s → ∀ W, Below w.heap.size w W → Calls zA 88 #[.agg (Th x)] W fun e w' => e = .returned (.string s) ∧ Below W.heap.size W w')
  (hn : ps.length ≤ 1000000) (hr : Ea line ps ⟨#[]⟩ = some r) (h1 : r.size ≤ 65536 → res = .tuple #[.string r, .int .i64 0]) (h2 : 65536 < r.size → res = .tuple #[.string ⟨#[]⟩, .int .i64 3]) :
  Calls zA 44 #[.slice a ps.length cap] w fun e w' => e = .returned res ∧ Below w.heap.size w w' := by
 have e43 : ∀ args w, (callFunc 43 args).run zA w = .ok (.enter 43 args) w := fun _ _ => by kernel_rfl
 have e88 : ∀ args w, (callFunc 88 args).run zA w = .ok (.enter 88 args) w := fun _ _ => by kernel_rfl
 have e87 : ∀ args w, (callFunc 87 args).run zA w = .ok (.enter 87 args) w := fun _ _ => by kernel_rfl
 have e89 : ∀ args w, (callFunc 89 args).run zA w = .ok (.enter 89 args) w := fun _ _ => by kernel_rfl
 have e90 : ∀ args w, (callFunc 90 args).run zA w = .ok (.enter 90 args) w := fun _ _ => by kernel_rfl
 go_enter Tryz.func44, Tryz.ntmps44
 go_wp2_with (go_at_fn 43; refine hval.mono ?_; rintro e w' ⟨rfl, hw⟩)
 clear hval
 go_loopg [15] ps.length (fun g s15 wx => ∃ (q : Nat) (c : ByteArray), q + g = ps.length ∧ s15 = .int .i64 (q : Int) ∧ Ea line (ps.drop q) c = some r ∧ Lib.IsBuilder 142 5 w.heap.size w'.heap.size (Lib.strCells c) wx ∧ Below w.heap.size w wx)
 case atStart =>
  refine ⟨0, ⟨#[]⟩, by omega, rfl, hr, ?_, ?_⟩
  ·obtain ⟨_, v, f1, f2, f3⟩ | ⟨_, v, f1, f2, f3⟩ := Lib.fresh_isBuilder 142 5 w'
   ·exact .inl ⟨hw.size, v, f1, f2.mono hw.size, f3⟩
   ·exact .inr ⟨hw.size, v, f1, f2.mono hw.size, f3⟩
  ·exact hw.alloc hw.size _
 case round =>
  obtain ⟨q, c, h3, rfl, h4, h5, h6⟩ := hrel
  cases gk with
  | zero =>
   have hq : q = ps.length := by omega
   subst hq
   rw [List.drop_length] at h4
   have h4 : c = r := sj h4
   subst h4
   have cLen := W6 _ _ _ wr h5
   rw [Lib.strCells_length] at cLen
   have cStr := XF w.heap.size w'.heap.size c.data.toList wr h5 h6.size
   have hnl : ¬ ((ps.length : Int) < (ps.length : Int)) := by omega
   by_cases hs : (65536 : Int) < (c.size : Int)
   ·go_wp2_with (go_at_fn 89; refine cLen.mono ?_; rintro e W1 ⟨rfl, hW⟩; rw [hW])
    go_ret2
    exact ⟨(congrArg Ending.returned (h2 (by omega))).symm, h6⟩
   ·go_wp2_with (first | (go_at_fn 89; refine cLen.mono ?_; rintro e W1 ⟨rfl, hW⟩; rw [hW]) | (go_at_fn 90; refine cStr.mono ?_; rintro e W2 ⟨rfl, b2⟩))
    go_ret2
    exact ⟨(congrArg Ending.returned (h1 (by omega))).symm, h6.trans b2⟩
  | succ g =>
   have hql : q < ps.length := by omega
   have hx : ps[q]? = some ps[q] := by simp [hql]
   obtain ⟨i1, i2⟩ := hix q _ hx wr h6
   rw [List.drop_eq_getElem_cons hql, Ea] at h4
   obtain ⟨s, hs, h4⟩ := bind_some h4
   obtain ⟨hc, h4⟩ := Hn h4
   have hnl : ((q : Int) < (ps.length : Int)) := by omega
   have c0 : wr.cell? ⟨ab, ao q, none⟩ = some (.int .i64 ps[q].fi) := i2 0 _ rfl
   have c1 : wr.cell? ⟨ab, ao q + 1, none⟩ = some (.int .i64 ps[q].fa) := i2 1 _ rfl
   have c2 : wr.cell? ⟨ab, ao q + 2, none⟩ = some (.int .i64 ps[q].fv) := i2 2 _ rfl
   have c3 : wr.cell? ⟨ab, ao q + 3, none⟩ = some (.int .i64 ps[q].fw) := i2 3 _ rfl
   have c4 : wr.cell? ⟨ab, ao q + 4, none⟩ = some (.int .i64 ps[q].fC) := i2 4 _ rfl
   have c5 : wr.cell? ⟨ab, ao q + 5, none⟩ = some (.int .i64 ps[q].fm) := i2 5 _ rfl
   have c6 : wr.cell? ⟨ab, ao q + 6, none⟩ = some (.int .i64 ps[q].fu) := i2 6 _ rfl
   have c7 : wr.cell? ⟨ab, ao q + 7, none⟩ = some (.int .i64 ps[q].fD) := i2 7 _ rfl
   have c8 : wr.cell? ⟨ab, ao q + 8, none⟩ = some (.int .i64 ps[q].ft) := i2 8 _ rfl
   have c9 : wr.cell? ⟨ab, ao q + 9, none⟩ = some (.int .i64 ps[q].fq) := i2 9 _ rfl
   have c10 : wr.cell? ⟨ab, ao q + 10, none⟩ = some (.int .i64 ps[q].fN) := i2 10 _ rfl
   clear i2 hix
   have bA : Below w.heap.size w (wr.alloc (.cells (Th ps[q]) 37)) := h6.alloc h6.size _
   have bW : Below wr.heap.size wr (wr.alloc (.cells (Th ps[q]) 37)) := (Below.refl _ _).alloc (yY _) _
   have cL := hline ps[q] s (yV hql) hs _ bA
   go_wp2_with (go_at_fn 88; refine cL.mono ?_; rintro e W1 ⟨rfl, b1⟩)
   have bB : Below wr.heap.size wr W1 := bW.trans (b1.mono bW.size)
   have bC : Below w.heap.size w W1 := bA.trans (b1.mono bA.size)
   have cW := XV w.heap.size w'.heap.size (Lib.strCells c) s W1 (RI h5 bB) (by rw [Lib.strCells_length]; exact hc) bC.size
   go_wp2_with (go_at_fn 87; refine cW.mono ?_; rintro e W2 ⟨rfl, h7, b2⟩)
   go_roundg g
   case measure => omega
   case rel =>
    refine ⟨q + 1, c ++ s, by omega, ?_, h4, .inr ?_, bC.trans b2⟩
    ·rfl
    ·have e : Lib.strCells (c ++ s) = Lib.strCells c ++ Lib.strCells s := by
      rw [Lib.strCells_eq, Lib.strCells_eq, Lib.strCells_eq, ← Lib.byteCells_append, ByteArray.data_append, Array.toList_append]
     rw [e]; exact h7
theorem TF {w : World} {S : Nat → Prop} (x : Ab) : F7 zA w (G0 S) (.agg (Th x)) (.e (.agg ((AD x).map C.pure))) := by
 refine ⟨Th x, rfl, rfl, fun j c hj => ?_⟩
 match j, hj with
 | 0, hj | 1, hj | 2, hj | 3, hj | 4, hj | 5, hj | 6, hj | 7, hj | 8, hj | 9, hj | 10, hj => cases hj; exact Cz.val _ rfl
 | j + 11, hj => simp [AD] at hj
theorem Mt (N : Nat) (p0 : List Ab) (r : ByteArray × Int) (h : Ir N p0 = some r) : Ar zA 44 [pD (.sl (p0.map AD))] [] (.tup [.one (.pure (.val (.string r.1))), .one (iC r.2)]) := by
 intro w S vs hS hgk hlen hrd
 have h0 : Cz w S (Au vs 0) (.sl (p0.map AD)) := hrd 0 _ rfl
 have hvs : vs = #[Au vs 0] := by
  have h2 : vs.size = 1 := hlen
  apply Array.ext (by simp [h2])
  intro i h1 _
  have : i = 0 := by omega
  subst this; simp [Au, h1]
 obtain ⟨hn, h⟩ := Hn h
 obtain ⟨ve, hve, h⟩ := bind_some h
 -- the result, from its two cells
 have fin : ∀ {e : Ending} {w' : World}, e = .returned (.tuple #[.string r.1, .int .i64 r.2]) ∧ Below w.heap.size w w' → ∃ v G', e = .returned v ∧ SD w.heap.size w w' ∧ (∀ β, S β → G'.S β) ∧ (∀ β, G'.S β → S β ∨ (w.heap.size ≤ β ∧ β < w'.heap.size)) ∧ F7 zA w' G' v (.tup [.one (.pure (.val (.string r.1))), .one (iC r.2)]) ∧
   (∀ (k : Nat) (x : Nat × List (List T)), ([] : List (Nat × List (List T)))[k]? = some x → Eg zA w' G' k (.vec x.1 x.2)) ∧
   (∀ k β, k < ([] : List (Nat × List (List T))).length → G'.has k β → w.heap.size ≤ β ∧ β < w'.heap.size ∧ ¬ G'.S β) ∧
   (∀ k l β, k < ([] : List (Nat × List (List T))).length → l < ([] : List (Nat × List (List T))).length → G'.has k β → G'.has l β → k = l) := by
  rintro e w' ⟨rfl, hb⟩
  refine ⟨_, G0 S, rfl, ⟨hb, fun h => by cases h⟩, fun _ h => h, fun _ h => .inl h, ⟨#[.string r.1, .int .i64 r.2], rfl, rfl, fun j x hj => ?_⟩, fun i x hi => by simp at hi, fun i β hi => by simp at hi, fun i l β hi => by simp at hi⟩
  match j, hj with
  | 0, hj => cases hj; exact Cz.val _ rfl
  | 1, hj => cases hj; exact Cz.val _ rfl
  | j + 2, hj => simp at hj
 rw [hvs]
 -- the call of Valid
 have cV : Calls zA 43 #[Au vs 0] w fun e w' => e = .returned (.int .i64 ve) ∧ Below w.heap.size w w' := by
  refine (GA N p0 ve hve w S #[Au vs 0] hS hgk rfl (fun j d hj => ?_)).mono ?_
  ·match j, hj with
   | 0, hj => cases hj; exact h0
   | j + 1, hj => simp at hj
  ·rintro e w' ⟨v, G', rfl, hb, _, _, hv, _⟩
   have : v = .int .i64 ve := CZ (hv : Cz w' G'.S v (.val _))
   exact ⟨by rw [this], hb.toBelow⟩
 have hl : ∀ x s, x ∈ p0 → EN N x = some s → ∀ W, Below w.heap.size w W → Calls zA 88 #[.agg (Th x)] W fun e w' => e = .returned (.string s) ∧ Below W.heap.size W w' := by
  intro x s _ hs W hW
  refine (Od N x s hs W S #[.agg (Th x)] (fun β hβ => Nat.lt_of_lt_of_le (hS β hβ) hW.size) (hgk.mono (fun β hβ => hW.block β (hS β hβ)) (fun _ h => h)) rfl (fun j d hj => ?_)).mono ?_
  ·match j, hj with
   | 0, hj => cases hj; exact TF x
   | j + 1, hj => simp at hj
  ·rintro e w' ⟨v, G', rfl, hb, _, _, hv, _⟩
   have : v = .string s := CZ (hv : Cz w' G'.S v (.val _))
   exact ⟨by rw [this], hb.toBelow⟩
 generalize hv0 : Au vs 0 = v0 at h0 cV
 obtain ⟨rows, hrows⟩ : ∃ rows, p0.map AD = rows := ⟨_, rfl⟩
 rw [hrows] at h0
 have hrl : rows.length = p0.length := by rw [← hrows, zY]
 by_cases hz : ve = 0
 ·subst hz
  have h := QJ rfl h
  obtain ⟨s, hs, h⟩ := bind_some h
  have r1 : s.size ≤ 65536 → (Value.tuple #[.string r.1, .int .i64 r.2] : Value) = .tuple #[.string s, .int .i64 0] := fun hq => by
   have h := QJ (decide_eq_false (by omega)) h; cases h; rfl
  have r2 : 65536 < s.size → (Value.tuple #[.string r.1, .int .i64 r.2] : Value) = .tuple #[.string ⟨#[]⟩, .int .i64 3] := fun hq => by
   have h := Qv (decide_eq_true hq) h; cases h; rfl
  cases h0 with
  | nil a cap =>
   obtain rfl := xB.1 hrows
   exact (QF [] (fun x => EN N x) a 0 (fun _ => 0) cap w s _ cV (fun i x hx => by simp at hx) (fun x s hx => by cases hx) (zS _) hs r1 r2).mono fun e w' hh => fin hh
  | sl β off cap e arr el fz rows k1 k2 k3 k4 k5 k6 =>
   rw [hrl] at cV ⊢
   refine (QF p0 (fun x => EN N x) (some ⟨β, off, none⟩) β (fun i => off + i * 11) cap w s _ cV (fun i x hx W hW => ?_) hl hn hs r1 r2).mono fun e w' hh => fin hh
   have hrow : rows[i]? = some (AD x) := by rw [← hrows, zG, hx]; rfl
   have he : e = 11 := (k5 i _ hrow).symm
   subst he
   have hil : i < p0.length := AE hx
   have hbnd : i * 11 + 11 ≤ p0.length * 11 := by omega
   rw [hrl] at k4
   refine ⟨IP DV CV (by omega) (by simpa using hil), fun j v hj => ?_⟩
   have hWb : W.heap[β]? = some (.cells arr el fz) := by rw [hW.block β (hS β k1)]; exact k2
   have hjt : (AD x)[j]? = some (.val v) ∧ j < 11 := by
    match j, hj with
    | 0, hj | 1, hj | 2, hj | 3, hj | 4, hj | 5, hj | 6, hj | 7, hj | 8, hj | 9, hj | 10, hj => cases hj; exact ⟨rfl, by decide⟩
    | j + 11, hj => simp [Th] at hj
   have hv : Au arr (off + i * 11 + j) = v := CZ (k6 i _ j _ hrow hjt.1)
   have hjl := hjt.2
   simp only [World.cell?, hWb]
   rw [HD (by omega), hv]; rfl
 ·have hb : (ve != 0) = true := bne_iff_ne.2 hz
  have h := Qv hb h
  cases h
  cases h0 with
  | nil a cap => exact (Pa _ a cap ve hz w cV).mono fun e w' hh => fin hh
  | sl β off cap e arr el fz rows k1 k2 k3 k4 k5 k6 => exact (Pa _ _ cap ve hz w cV).mono fun e w' hh => fin hh
theorem Oh (N : Nat) (p0 : Int) (r : ByteArray) (h : HP N p0 = some r) : Ar zA 45 [iD p0] [] (pD (.val (.string r))) := by
 unfold HP at h
 refine cw (n := 7) (rs := [.tmp 2]) Tryz.func45 fun w0 S0 => ?_
 refine wq rfl (qa rfl (Ac (wq rfl (FO Ut W0 XY rfl (qm rfl ?_)))))
 refine BK h fun v1 a1 b1 h => OX (.p rfl) rfl rfl rfl Ut W0 a1 (Ah (f := eS) b1) ?_
 refine O5 (.p rfl) rfl XR rfl (Ah (f := eS) b1) rfl ?_
 refine qa rfl (Ac ?_)
 obtain rfl := sj h
 refine Af (sm [] [(2, pD (.val (.string v1)))] [] rfl rfl) (Aq ?_)
 exact ⟨⟨[_], tm, rfl⟩, tv⟩
def SO : Go.Shelf.Ren := ⟨fun | 129 => 182 | 171 => 46 | 243 => 91 | 246 => 126 | 283 => 159 | 284 => 160 | 285 => 161 | 286 => 162 | 317 => 181 | 318 => 183 | 319 => 184 | 320 => 185 | 337 => 194 | 338 => 195 | n => n, fun | 0 => 0 | 2 => 2 | 3 => 3 | 4 => 4 | 5 => 5 | 9 => 9 | 20 => 20 | 37 => 47 | 46 => 234 | 51 => 242 | 53 => 214 | 171 => 213 | 173 => 217 | 212 => 241 | 213 => 243 | 232 => 261 | 233 => 262 | n => n, fun | 17 => 0 | 18 => 1 | 19 => 2 | n => n⟩
theorem Vf : LaysM.n171 zA SO := { mixed := Ax, f129 := Tryz.func182.trans (congrArg some (by kernel_rfl)), f171 := Tryz.func46.trans (congrArg some (by kernel_rfl)), f243 := Tryz.func91.trans (congrArg some (by kernel_rfl)), f246 := Tryz.func126.trans (congrArg some (by kernel_rfl)), f283 := Tryz.func159.trans (congrArg some (by kernel_rfl)), f284 := Tryz.func160.trans (congrArg some (by kernel_rfl)), f285 := Tryz.func161.trans (congrArg some (by kernel_rfl)), f286 := Tryz.func162.trans (congrArg some (by kernel_rfl)), f317 := Tryz.func181.trans (congrArg some (by kernel_rfl)), f318 := Tryz.func183.trans (congrArg some (by kernel_rfl)), f319 := Tryz.func184.trans (congrArg some (by kernel_rfl)), f320 := Tryz.func185.trans (congrArg some (by kernel_rfl)), f337 := Tryz.func194.trans (congrArg some (by kernel_rfl)), f338 := Tryz.func195.trans (congrArg some (by kernel_rfl)), t0 := Tryz.underlying0, a0 := Tryz.isAgg0, z0 := Tryz.sizeOf0, v0 := Tryz.zeroValue0, t2 := Tryz.underlying2, a2 := Tryz.isAgg2, z2 := Tryz.sizeOf2, v2 := Tryz.zeroValue2, t3 := Tryz.underlying3, a3 := Tryz.isAgg3, z3 := Tryz.sizeOf3, v3 := Tryz.zeroValue3, t4 := Tryz.underlying4, a4 := Tryz.isAgg4, z4 := Tryz.sizeOf4, v4 := Tryz.zeroValue4, t5 := Tryz.underlying5, a5 := Tryz.isAgg5, z5 := Tryz.sizeOf5, v5 := Tryz.zeroValue5, t9 := Tryz.underlying9, a9 := Tryz.isAgg9, z9 := Tryz.sizeOf9, v9 := Tryz.zeroValue9, t20 := Tryz.underlying20, a20 := Tryz.isAgg20, z20 := Tryz.sizeOf20, v20 := Tryz.zeroValue20, t37 := Tryz.underlying47, a37 := Tryz.isAgg47, z37 := Tryz.sizeOf47, v37 := Tryz.zeroValue47, t46 := Tryz.underlying234, a46 := Tryz.isAgg234, z46 := Tryz.sizeOf234, v46 := Tryz.zeroValue234, t51 := Tryz.underlying242, a51 := Tryz.isAgg242, z51 := Tryz.sizeOf242, v51 := Tryz.zeroValue242, t53 := Tryz.underlying214, a53 := Tryz.isAgg214, z53 := Tryz.sizeOf214, v53 := Tryz.zeroValue214, t171 := Tryz.underlying213, a171 := Tryz.isAgg213, z171 := Tryz.sizeOf213, v171 := Tryz.zeroValue213, t173 := Tryz.underlying217, a173 := Tryz.isAgg217, z173 := Tryz.sizeOf217, v173 := Tryz.zeroValue217, t212 := Tryz.underlying241, a212 := Tryz.isAgg241, z212 := Tryz.sizeOf241, v212 := Tryz.zeroValue241, t213 := Tryz.underlying243, a213 := Tryz.isAgg243, z213 := Tryz.sizeOf243, t232 := Tryz.underlying261, a232 := Tryz.isAgg261, z232 := Tryz.sizeOf261, v232 := Tryz.zeroValue261, t233 := Tryz.underlying262, a233 := Tryz.isAgg262, z233 := Tryz.sizeOf262, v233 := Tryz.zeroValue262, g17 := by kernel_rfl, g18 := by kernel_rfl, g19 := by kernel_rfl, i0 := by kernel_rfl, i2 := by kernel_rfl, i3 := by kernel_rfl, i4 := by kernel_rfl, i5 := by kernel_rfl, i9 := by kernel_rfl, i20 := by kernel_rfl, i37 := by kernel_rfl, i46 := by kernel_rfl, i51 := by kernel_rfl, i53 := by kernel_rfl, i171 := by kernel_rfl, i173 := by kernel_rfl, i212 := by kernel_rfl, i232 := by kernel_rfl, i233 := by kernel_rfl, m17 := by kernel_rfl, m18 := by kernel_rfl, m19 := by kernel_rfl }
theorem LM (N : Nat) (p0 : Int) (r : ByteArray) (h : Iu N p0 = some r) : Ar zA 46 [iD p0] [] (pD (.val (.string r))) := U5 Vf (g := SO.g 17) (by kernel_rfl) h
theorem Gf (N : Nat) (p0 : ByteArray) (p1 : ByteArray) (r : Bool) (h : C0 N p0 p1 = some r) : Ar zA 127 [pD (.val (.string p0)), pD (.val (.string p1))] [] (bD r) := by
 unfold C0 at h
 refine cw (n := 21) (rs := [.tmp 4]) Tryz.func127 fun w0 S0 => ?_
 refine wq rfl (qe rfl ?_)
 refine AI h (fun v1 => mk [(4, bD v1)] []) (fun j1 h => ?_) (fun v1 h => ?_)
 ·refine Aj Ax rfl (qm rfl ?_)
  refine KA (.p rfl) rfl Ox ?_
  refine qm rfl ?_
  refine KA (.p rfl) rfl Ox ?_
  refine Da rfl (qm rfl ?_)
  refine Cv 10 h rfl (fun h => ?_) fun h => ?_
  ·refine qw 2 rfl ?_
   refine KA (.g rfl rfl) rfl Ox ?_
   refine qm rfl ?_
   refine KA (.g rfl rfl) rfl Ox ?_
   refine J1 rfl ?_
   refine HS h fun c3 h => O3 (.g rfl rfl) rfl Ox (.some _ _ _ _ c3.1) (.none _) ⟨rfl, tv⟩ tv c3.2.1 c3.2.2 ?_
   refine qm rfl ?_
   refine Es (.g rfl rfl) rfl rfl (Mi _ _ _ _) rfl ?_
   refine qp rfl (qe rfl ?_)
   exact sn [] h
  ·refine qw 9 rfl (qp rfl (qe rfl ?_))
   exact sn [] h
 ·obtain rfl := sj h
  refine Af (sm [] [(4, bD v1)] [] rfl rfl) (Aq ?_)
  exact ⟨⟨[_], tm, rfl⟩, tv⟩
theorem FN (N : Nat) (p0 : ByteArray) (p1 : ByteArray) (r : ByteArray) (h : CJ N p0 p1 = some r) : Ar zA 92 [pD (.val (.string p0)), pD (.val (.string p1))] [] (pD (.val (.string r))) := by
 unfold CJ at h
 refine cw (n := 16) (rs := [.tmp 4]) Tryz.func92 fun w0 S0 => ?_
 refine wq rfl (qa rfl (Ac (wp rfl (qw 2 rfl ?_))))
 refine B0 h fun v1 a1 h => Aw [] (Gf N p0 p1 v1 a1) VY rfl (Ac ?_)
 refine Bb h (fun h => ?_) fun h => ?_
 ·refine wq rfl (qw 2 rfl ?_)
  refine KA (.p rfl) rfl Ox ?_
  refine qm rfl ?_
  refine KA (.p rfl) rfl Ox ?_
  refine J1 rfl ?_
  refine HS h fun c3 h => O3 (.p rfl) rfl Ox (.none _) (.some _ _ _ _ c3.1) tv ⟨rfl, tv⟩ c3.2.1 c3.2.2 ?_
  refine qa rfl (Ac ?_)
  obtain rfl := sj h
  refine Af (sm [] [(4, pD (.val (.string ((p0.extract 0 (((wI .i64 ((p0.size : Int) - (p1.size : Int)))).toNat))))))] [] rfl rfl) (Aq ?_)
  exact ⟨⟨[_], tm, rfl⟩, tv⟩
 ·refine Ap (wq rfl (qm rfl (qe rfl ?_)))
  obtain rfl := sj h
  refine Af (sm [] [(4, pD (.val (.string p0)))] [] rfl rfl) (Aq ?_)
  exact ⟨⟨[_], tm, rfl⟩, tv⟩
theorem IG (N : Nat) (p0 : ByteArray) (p1 : ByteArray) (r : ByteArray) (h : EW N p0 p1 = some r) : Ar zA 47 [pD (.val (.string p0)), pD (.val (.string p1))] [] (pD (.val (.string r))) := by
 unfold EW at h
 refine cw (n := 8) (rs := [.tmp 4]) Tryz.func47 fun w0 S0 => ?_
 refine wq rfl (qa rfl (Ac (wq rfl (qw 2 rfl ?_))))
 refine B0 h fun v1 a1 h => Aw [] (FN N p0 p1 v1 a1) XC rfl (qe rfl ?_)
 obtain rfl := sj h
 refine Af (sm [] [(4, pD (.val (.string v1)))] [] rfl rfl) (Aq ?_)
 exact ⟨⟨[_], tm, rfl⟩, tv⟩
theorem MB (N : Nat) (p0 : List Ab) (p1 : Int) (p2 : Int) (r : ByteArray × Int) (h : GR N p0 p1 p2 = some r) : Ar zA 19 [pD (.sl (p0.map AD)), iD p1, iD p2] [] (.tup [.one (.pure (.val (.string r.1))), .one (iC r.2)]) := by
 unfold GR at h
 refine cw (n := 54) (rs := [.tmp 6, .tmp 7]) Tryz.func19 fun w0 S0 => ?_
 refine wq rfl (qa rfl (qa rfl (Ac (wp rfl (qm rfl ?_)))))
 refine B0 h fun v1 a1 h => Aw [] (GA N p0 v1 a1) UQ rfl (qa rfl (Ac (wq rfl (qm rfl (BE rfl (Ac ?_))))))
 refine Bb h (fun h => ?_) fun h => ?_
 ·refine wq rfl (qm rfl (qa rfl (qe rfl ?_)))
  obtain rfl := sj h
  refine Af (sm [] [(6, pD (.val (.string ((⟨#[]⟩ : ByteArray))))), (7, iD v1)] [] rfl rfl) (Aq ?_)
  exact ⟨⟨[_, _], ⟨.tmp _ _ rfl, tm⟩, rfl⟩, tv⟩
 ·refine Ap (AS (AR ?_))
  refine AI h (fun v3 => mk [(0, pD (.sl (p0.map AD))), (1, iD p1), (2, iD p2), (16, bD v3)] []) (fun j3 h => ?_) (fun v3 h => ?_)
  ·refine Aj Ax rfl (qm rfl (A2 rfl (qm rfl ?_)))
   refine Cv 19 h rfl (fun h => ?_) fun h => ?_
   ·refine qw 4 rfl (qp rfl (qe rfl ?_))
    exact sn [] h
   ·refine qw 2 rfl (AH DV rfl (Da rfl (qp rfl (qe rfl ?_))))
    exact sn [] h
  ·refine Bb h (fun h => ?_) fun h => ?_
   ·refine wq rfl (qa rfl (qe rfl ?_))
    obtain rfl := sj h
    refine Af (sm [] [(6, pD (.val (.string ((⟨#[]⟩ : ByteArray))))), (7, iD 7)] [] rfl rfl) (Aq ?_)
    exact ⟨⟨[_, _], ⟨.tmp _ _ rfl, tm⟩, rfl⟩, tv⟩
   ·refine AI h (fun v6 => mk [(0, pD (.sl (p0.map AD))), (1, iD p1), (2, iD p2), (25, bD v6)] []) (fun j6 h => ?_) (fun v6 h => ?_)
    ·refine Aj Ax rfl (qm rfl (A2 rfl (qm rfl ?_)))
     refine Cv 28 h rfl (fun h => ?_) fun h => ?_
     ·refine qw 2 rfl (qp rfl (qe rfl ?_))
      exact sn [] h
     ·refine qm rfl (Eh rfl (qp rfl (qe rfl ?_)))
      exact sn [] h
    ·refine Bb h (fun h => ?_) fun h => ?_
     ·refine wq rfl (qa rfl (qe rfl ?_))
      obtain rfl := sj h
      refine Af (sm [] [(6, pD (.val (.string ((⟨#[]⟩ : ByteArray))))), (7, iD 1)] [] rfl rfl) (Aq ?_)
      exact ⟨⟨[_, _], ⟨.tmp _ _ rfl, tm⟩, rfl⟩, tv⟩
     ·refine Ap (wq rfl (qw 3 rfl (Cl rfl ?_)))
      refine HS h fun c9 h => Lx (.p rfl) rfl DV CV (H1 (f := AD) (n := 11) (fun _ => rfl) _) (.some _ _ _ _ c9.1) (.some _ _ _ _ c9.2.1) ⟨rfl, tv⟩ ⟨rfl, tv⟩ (by have := c9.2.2.1; (try simp only [zY]); omega) (by have := c9.2.2.2; (try simp only [zY]); omega) (Kw AD p0 _ _ (((wI .i64 (p1 + 1))).toNat - (p1).toNat) rfl) ?_
      refine B0 h fun v10 a10 h => Aw [] (Mt N (((p0.drop (p1).toNat).take (((wI .i64 (p1 + 1))).toNat - (p1).toNat))) v10 a10) Xs rfl (qm rfl (qx rfl (qx rfl (qa rfl (qa rfl (Ac (wp rfl (qm rfl (BE rfl (Ac ?_))))))))))
      refine Bb h (fun h => ?_) fun h => ?_
      ·refine wq rfl (qm rfl (qa rfl (qe rfl ?_)))
       obtain rfl := sj h
       refine Af (sm [] [(6, pD (.val (.string ((⟨#[]⟩ : ByteArray))))), (7, iD v10.2)] [] rfl rfl) (Aq ?_)
       exact ⟨⟨[_, _], ⟨.tmp _ _ rfl, tm⟩, rfl⟩, tv⟩
      ·refine Ap (wq rfl (qm rfl ?_))
       refine B0 h fun v12 a12 h => Aw [] (Oh N p2 v12 a12) XB rfl ?_
       refine HS h fun c13 h => Es (.p rfl) rfl rfl (zFS _ _ _ _ c13) rfl ?_
       refine qm rfl ?_
       refine B0 h fun v14 a14 h => Aw [] (LM N p1 v14 a14) XL rfl ?_
       refine HS h fun c15 h => Es (.p rfl) rfl rfl (zFS _ _ _ _ c15) rfl ?_
       refine HS h fun c16 h => Es (.p rfl) rfl rfl (zFS _ _ _ _ c16) rfl ?_
       refine qm rfl ?_
       refine B0 h fun v17 a17 h => Aw [] (IG N v10.1 ((⟨#[10]⟩ : ByteArray)) v17 a17) Xy rfl ?_
       refine HS h fun c18 h => Es (.p rfl) rfl rfl (zFS _ _ _ _ c18) rfl ?_
       refine qa rfl (qe rfl ?_)
       obtain rfl := sj h
       refine Af (sm [] [(6, pD (.val (.string (((((v12 ++ (⟨#[32]⟩ : ByteArray)) ++ v14) ++ (⟨#[58, 32]⟩ : ByteArray)) ++ v17))))), (7, iD 0)] [] rfl rfl) (Aq ?_)
       exact ⟨⟨[_, _], ⟨.tmp _ _ rfl, tm⟩, rfl⟩, tv⟩
theorem GU (N : Nat) (r : Bool) (h : Dz N = some r) : Ar zA 11 [] [] (bD r) := by
 unfold Dz at h
 refine cw (n := 97) (rs := [.tmp 0]) Tryz.func11 fun w0 S0 => ?_
 refine wq rfl (qa rfl (Ac (wq rfl (FO AB CL OC rfl (FO AB CL OC rfl (FO AB CL OC rfl (Bs VW Xg rfl (qz VW rfl (qs C8 rfl (Ac (wq rfl (Bs Pz TD rfl (Bs Pz TD rfl (FO F4 FR Pz rfl (qa rfl (Ac (wq rfl (Bs IF RB rfl (Bs IF RB rfl (Bs IF RB rfl (Bs IF RB rfl (FO DV CV IF rfl (qa rfl (Ac (AS (Af (A8 25 _ _ rfl rfl) (Aj Ax rfl (qL Dg C8 rfl (FO AB CL OC rfl (qw 2 rfl ?_))))))))))))))))))))))))))))))
 refine HS h fun c1 h => Lx (rows := (([(Ab.mk 0 7 0 0 0 0 1 0 0 0 0), (Ab.mk 0 2 0 0 0 0 1 0 0 0 0), (Ab.mk 1 6 0 0 0 0 0 1 0 1 0), (Ab.mk 2 3 0 0 0 1 1 0 0 0 0)] : List Ab)).map AD) (.p rfl) rfl DV CV (H1 (f := AD) (n := 11) (fun _ => rfl) _) (.none _) (.some _ _ _ _ c1.1) tv ⟨rfl, tv⟩ (by have := c1.2.1; (try simp only [zY]); omega) (by have := c1.2.2; (try simp only [zY]); omega) (Kw AD (([(Ab.mk 0 7 0 0 0 0 1 0 0 0 0), (Ab.mk 0 2 0 0 0 0 1 0 0 0 0), (Ab.mk 1 6 0 0 0 0 0 1 0 1 0), (Ab.mk 2 3 0 0 0 1 1 0 0 0 0)] : List Ab)) _ _ ((3 : Int).toNat - 0) rfl) ?_
 refine B0 h fun v2 a2 h => HF [] [14, 15, 16, 28, 20] (JG N ((Aa.mk (([2] : List Int)) (([0] : List Int)) (([1] : List Int)) (([] : List AL)))) (([1] : List Int)) (([(Al.mk 1 0 1), (Al.mk 2 0 0)] : List Al)) ((((([(Ab.mk 0 7 0 0 0 0 1 0 0 0 0), (Ab.mk 0 2 0 0 0 0 1 0 0 0 0), (Ab.mk 1 6 0 0 0 0 0 1 0 1 0), (Ab.mk 2 3 0 0 0 1 1 0 0 0 0)] : List Ab)).drop 0).take ((3 : Int).toNat - 0))) v2 a2) VF FI rfl (qm rfl (qx rfl (qx rfl (qx rfl (qa rfl (qa rfl (qa rfl (AG (by kernel_rfl) (AS (Af (A8 14 _ _ rfl rfl) (Af (A8 15 _ _ rfl rfl) (Af (A8 16 _ _ rfl rfl) (Af (A8 20 _ _ rfl rfl) (Aj Ax rfl (qL Dg C8 rfl (qw 2 rfl ?_))))))))))))))))
 refine HS h fun c3 h => Lx (rows := (([(Ab.mk 0 7 0 0 0 0 1 0 0 0 0), (Ab.mk 0 2 0 0 0 0 1 0 0 0 0), (Ab.mk 1 6 0 0 0 0 0 1 0 1 0), (Ab.mk 2 3 0 0 0 1 1 0 0 0 0)] : List Ab)).map AD) (.p rfl) rfl DV CV (H1 (f := AD) (n := 11) (fun _ => rfl) _) (.none _) (.some _ _ _ _ c3.1) tv ⟨rfl, tv⟩ (by have := c3.2.1; (try simp only [zY]); omega) (by have := c3.2.2; (try simp only [zY]); omega) (Kw AD (([(Ab.mk 0 7 0 0 0 0 1 0 0 0 0), (Ab.mk 0 2 0 0 0 0 1 0 0 0 0), (Ab.mk 1 6 0 0 0 0 0 1 0 1 0), (Ab.mk 2 3 0 0 0 1 1 0 0 0 0)] : List Ab)) _ _ ((3 : Int).toNat - 0) rfl) ?_
 refine B0 h fun v4 a4 h => Aw [] (Pq N ((Aa.mk (([2] : List Int)) (([0] : List Int)) (([1] : List Int)) (([] : List AL)))) (([(Al.mk 1 0 1), (Al.mk 2 0 0)] : List Al)) ((((([(Ab.mk 0 7 0 0 0 0 1 0 0 0 0), (Ab.mk 0 2 0 0 0 0 1 0 0 0 0), (Ab.mk 1 6 0 0 0 0 0 1 0 1 0), (Ab.mk 2 3 0 0 0 1 1 0 0 0 0)] : List Ab)).drop 0).take ((3 : Int).toNat - 0))) v4 a4) XI rfl (qm rfl (qx rfl (qx rfl (qz Do rfl (qs AV rfl (qa rfl (AG (by kernel_rfl) (wq rfl (qL Dg C8 rfl (FO AB CL OC rfl (qw 2 rfl ?_)))))))))))
 refine B0 h fun v5 a5 h => HF [] [46] (JG N ((Aa.mk (([2] : List Int)) (([0] : List Int)) (([1] : List Int)) (([] : List AL)))) (([1] : List Int)) (([(Al.mk 1 0 1), (Al.mk 2 0 0)] : List Al)) (([(Ab.mk 0 7 0 0 0 0 1 0 0 0 0), (Ab.mk 0 2 0 0 0 0 1 0 0 0 0), (Ab.mk 1 6 0 0 0 0 0 1 0 1 0), (Ab.mk 2 3 0 0 0 1 1 0 0 0 0)] : List Ab)) v5 a5) VF FI rfl (qm rfl (qx rfl (qx rfl (qx rfl (qa rfl (qa rfl (qa rfl (Ac (wq rfl (qm rfl ?_))))))))))
 refine B0 h fun v6 a6 h => Aw [] (MB N (([(Ab.mk 0 7 0 0 0 0 1 0 0 0 0), (Ab.mk 0 2 0 0 0 0 1 0 0 0 0), (Ab.mk 1 6 0 0 0 0 0 1 0 1 0), (Ab.mk 2 3 0 0 0 1 1 0 0 0 0)] : List Ab)) 3 2 v6 a6) Xe rfl (qm rfl (qx rfl (qx rfl (qa rfl (qe rfl ?_)))))
 refine AI h (fun v7 => mk [(0, bD v7)] []) (fun j7 h => ?_) (fun v7 h => ?_)
 ·refine Aj Ax rfl (qm rfl (AP rfl (qm rfl ?_)))
  refine Cv 60 h rfl (fun h => ?_) fun h => ?_
  ·refine qm rfl (AP rfl (qp rfl (qm rfl ?_)))
   refine Cv 64 h rfl (fun h => ?_) fun h => ?_
   ·refine qm rfl (AP rfl (qp rfl (qm rfl ?_)))
    refine Cv 68 h rfl (fun h => ?_) fun h => ?_
    ·refine qm rfl (AP rfl (qp rfl (qm rfl ?_)))
     refine Cv 72 h rfl (fun h => ?_) fun h => ?_
     ·refine qf BU rfl (ql Bf rfl (AH AB rfl (AP rfl (qp rfl (qm rfl ?_)))))
      refine Cv 78 h rfl (fun h => ?_) fun h => ?_
      ·refine qf BU rfl (ql Bf rfl ?_)
       refine BK h fun v13 a13 b13 h => qi AB CL a13 (Ah b13) rfl (qk AX rfl (AP rfl (qp rfl (qm rfl ?_))))
       refine Cv 85 h rfl (fun h => ?_) fun h => ?_
       ·refine qm rfl (AP rfl (qp rfl (qm rfl ?_)))
        refine Cv 89 h rfl (fun h => ?_) fun h => ?_
        ·refine qm rfl (AP rfl (qp rfl (qm rfl ?_)))
         refine Cv 93 h rfl (fun h => ?_) fun h => ?_
         ·refine qm rfl ?_
          refine Es (.g rfl rfl) rfl rfl (Mi _ _ _ _) rfl ?_
          refine qp rfl (qe rfl ?_)
          exact sn [] h
         ·refine qw 2 rfl (qp rfl (qe rfl ?_))
          exact sn [] h
        ·refine qw 2 rfl (qp rfl (qw 3 rfl (qp rfl (qe rfl ?_))))
         exact sn [] h
       ·refine qw 2 rfl (qp rfl (qw 3 rfl (qp rfl (qw 3 rfl (qp rfl (qe rfl ?_))))))
        exact sn [] h
      ·refine qw 5 rfl (qp rfl (qw 3 rfl (qp rfl (qw 3 rfl (qp rfl (qw 3 rfl (qp rfl (qe rfl ?_))))))))
       exact sn [] h
     ·refine qw 4 rfl (qp rfl (qw 6 rfl (qp rfl (qw 3 rfl (qp rfl (qw 3 rfl (qp rfl (qw 3 rfl (qp rfl (qe rfl ?_))))))))))
      exact sn [] h
    ·refine qw 2 rfl (qp rfl (qw 5 rfl (qp rfl (qw 6 rfl (qp rfl (qw 3 rfl (qp rfl (qw 3 rfl (qp rfl (qw 3 rfl (qp rfl (qe rfl ?_))))))))))))
     exact sn [] h
   ·refine qw 2 rfl (qp rfl (qw 3 rfl (qp rfl (qw 5 rfl (qp rfl (qw 6 rfl (qp rfl (qw 3 rfl (qp rfl (qw 3 rfl (qp rfl (qw 3 rfl (qp rfl (qe rfl ?_))))))))))))))
    exact sn [] h
  ·refine qw 2 rfl (qp rfl (qw 3 rfl (qp rfl (qw 3 rfl (qp rfl (qw 5 rfl (qp rfl (qw 6 rfl (qp rfl (qw 3 rfl (qp rfl (qw 3 rfl (qp rfl (qw 3 rfl (qp rfl (qe rfl ?_))))))))))))))))
   exact sn [] h
 ·obtain rfl := sj h
  refine Af (sm [] [(0, bD v7)] [] rfl rfl) (Aq ?_)
  exact ⟨⟨[_], tm, rfl⟩, tv⟩
theorem Ka (N : Nat) (p0 : Aa) (r : Bool) (h : Dm N p0 = some r) : Ar zA 34 [.e (.agg (Ak p0))] [] (bD r) := by
 unfold Dm at h
 refine cw (n := 97) (rs := [.tmp 2]) Tryz.func34 fun w0 S0 => ?_
 refine wq rfl (qb rfl (qa rfl (Ac (AS ?_))))
 refine AI h (fun v1 => mk [(1, oD (.ptr 1 0)), (27, bD v1)] [(1, .box (Ak p0))]) (fun j1 h => ?_) (fun v1 h => ?_)
 ·refine Aj Ax rfl (qf BB rfl (ql Bf rfl (AH AB rfl (Eh rfl (qm rfl ?_)))))
  refine Cv 10 h rfl (fun h => ?_) fun h => ?_
  ·refine qw 4 rfl (qp rfl (qw 5 rfl (qp rfl (qw 5 rfl (qp rfl (Ac ?_))))))
   exact sn [] h
  ·refine qf FQ rfl (ql Bf rfl (AH AB rfl (Eh rfl (qp rfl (qm rfl ?_)))))
   refine Cv 16 h rfl (fun h => ?_) fun h => ?_
   ·refine qw 4 rfl (qp rfl (qw 5 rfl (qp rfl (Ac ?_))))
    exact sn [] h
   ·refine qf I9 rfl (ql Bf rfl (AH AB rfl (Eh rfl (qp rfl (qm rfl ?_)))))
    refine Cv 22 h rfl (fun h => ?_) fun h => ?_
    ·refine qw 4 rfl (qp rfl (Ac ?_))
     exact sn [] h
    ·refine qf BA rfl (ql EU rfl (AH CR rfl (Eh rfl (qp rfl (Ac ?_)))))
     exact sn [] h
 ·refine Bb h (fun h => ?_) fun h => ?_
  ·refine wq rfl (qe rfl ?_)
   obtain rfl := sj h
   refine Af (sm [] [(2, bD false)] [] rfl rfl) (Aq ?_)
   exact ⟨⟨[_], tm, rfl⟩, tv⟩
  ·refine Ap (wp rfl (qe rfl ?_))
   refine A5 (L := CC N p0) h (fun v6 => mk [(1, oD (.ptr 1 0)), (3, iD v6)] [(1, .box (Ak p0))]) (fun v7 => mk [] []) (fun _ _ => rfl) (sm [] _ _ rfl rfl) (fun j6 n6 v6 h => ?_) (fun v7 s h hs => ?_)
   ·unfold CC at h
    refine wp rfl (qm rfl (qf BA rfl (ql EU rfl (AH CR rfl (A2 rfl (Ac ?_))))))
    refine Bb h (fun h => ?_) fun h => ?_
    ·refine Ap (AS (AR (AS ?_)))
     refine AI h (fun v9 => mk [(1, oD (.ptr 1 0)), (3, iD v6), (52, bD v9)] [(1, .box (Ak p0))]) (fun j9 h => ?_) (fun v9 h => ?_)
     ·refine Aj Ax rfl (qf BA rfl (ql EU rfl (qm rfl ?_)))
      refine BK h fun v10 a10 b10 h => qi CR BM a10 (Ah b10) rfl (qg GE rfl (qk Fd rfl (AH D2 rfl (Eh rfl (qm rfl ?_)))))
      refine Cv 43 h rfl (fun h => ?_) fun h => ?_
      ·refine qw 8 rfl (qp rfl (Ac ?_))
       exact sn [] h
      ·refine qf BA rfl (ql EU rfl (qm rfl ?_))
       refine BK h fun v12 a12 b12 h => qi CR BM a12 (Ah b12) rfl (qg D9 rfl (qk Fd rfl (AH D2 rfl (Eh rfl (qp rfl (Ac ?_))))))
       exact sn [] h
     ·refine Bb h (fun h => ?_) fun h => ?_
      ·refine wq rfl (qe rfl ?_)
       obtain rfl := sj h
       refine Af (sm [] [(2, bD false)] [] rfl rfl) (Aq ?_)
       exact ⟨⟨[_], tm, rfl⟩, tv⟩
      ·refine Ap (wp rfl (qe rfl ?_))
       refine A5 (L := BL N p0 v6) h (fun v14 => mk [(1, oD (.ptr 1 0)), (3, iD v6), (4, iD v14)] [(1, .box (Ak p0))]) (fun v15 => mk [(1, oD (.ptr 1 0)), (3, iD v6)] [(1, .box (Ak p0))]) (fun _ _ => rfl) (sm [] _ _ rfl rfl) (fun j14 n14 v14 h => ?_) (fun v15 s h hs => ?_)
       ·unfold BL at h
        refine wp rfl (qm rfl (qf BA rfl (ql EU rfl (qm rfl ?_))))
        refine BK h fun v16 a16 b16 h => qi CR BM a16 (Ah b16) rfl (qg GE rfl (qk Fd rfl (AH D2 rfl (A2 rfl (Ac ?_)))))
        refine Bb h (fun h => ?_) fun h => ?_
        ·refine Ap (AS (AR (wq rfl (qf BA rfl (ql EU rfl (qm rfl ?_))))))
         refine BK h fun v18 a18 b18 h => qi CR BM a18 (Ah b18) rfl (qg GE rfl (qk Fd rfl (qm rfl ?_)))
         refine BK h fun v19 a19 b19 h => qi D2 JA a19 (Ah b19) rfl (qk JF rfl (AH HR rfl (Eh rfl (Ac ?_))))
         refine Bb h (fun h => ?_) fun h => ?_
         ·refine wq rfl (qe rfl ?_)
          obtain rfl := sj h
          refine Af (sm [] [(2, bD false)] [] rfl rfl) (Aq ?_)
          exact ⟨⟨[_], tm, rfl⟩, tv⟩
         ·refine Ap (Aj Ax rfl (qm rfl (Cl rfl (qe rfl ?_))))
          exact sn [] h
        ·refine BS ?_
         exact sn [] h
       ·refine Af hs (wq rfl (qe rfl ?_))
        refine A5 (L := BN N p0 v6) h (fun v21 => mk [(1, oD (.ptr 1 0)), (3, iD v6), (5, iD v21)] [(1, .box (Ak p0))]) (fun v22 => mk [(1, oD (.ptr 1 0)), (3, iD v6)] [(1, .box (Ak p0))]) (fun _ _ => rfl) (sm [] _ _ rfl rfl) (fun j21 n21 v21 h => ?_) (fun v22 s h hs => ?_)
        ·unfold BN at h
         refine wp rfl (qm rfl (qf BA rfl (ql EU rfl (qm rfl ?_))))
         refine BK h fun v23 a23 b23 h => qi CR BM a23 (Ah b23) rfl (qg D9 rfl (qk Fd rfl (AH D2 rfl (A2 rfl (Ac ?_)))))
         refine Bb h (fun h => ?_) fun h => ?_
         ·refine Ap (AS (AR (wq rfl (qf BA rfl (ql EU rfl (qm rfl ?_))))))
          refine BK h fun v25 a25 b25 h => qi CR BM a25 (Ah b25) rfl (qg D9 rfl (qk Fd rfl (qm rfl ?_)))
          refine BK h fun v26 a26 b26 h => qi D2 JA a26 (Ah b26) rfl (qk JF rfl (AH HR rfl (Eh rfl (Ac ?_))))
          refine Bb h (fun h => ?_) fun h => ?_
          ·refine wq rfl (qe rfl ?_)
           obtain rfl := sj h
           refine Af (sm [] [(2, bD false)] [] rfl rfl) (Aq ?_)
           exact ⟨⟨[_], tm, rfl⟩, tv⟩
          ·refine Ap (Aj Ax rfl (qm rfl (Cl rfl (qe rfl ?_))))
           exact sn [] h
         ·refine BS ?_
          exact sn [] h
        ·refine Af hs (Aj Ax rfl (qm rfl (Cl rfl (qe rfl ?_))))
         exact sn [] h
    ·refine BS ?_
     exact sn [] h
   ·refine Af hs (wq rfl (qe rfl ?_))
    obtain rfl := sj h
    refine Af (sm [] [(2, bD true)] [] rfl rfl) (Aq ?_)
    exact ⟨⟨[_], tm, rfl⟩, tv⟩
theorem J8 (N : Nat) (p0 : BZ) (r : Bool) (h : Cn N p0 = some r) : Ar zA 12 [.e (.agg (GQ p0))] [] (bD r) := by
 unfold Cn at h
 refine cw (n := 24) (rs := [.tmp 2]) Tryz.func12 fun w0 S0 => ?_
 refine wq rfl (qb rfl (qe rfl ?_))
 refine AI h (fun v1 => mk [(2, bD v1)] []) (fun j1 h => ?_) (fun v1 h => ?_)
 ·refine Aj Ax rfl (qf NS rfl (qL Dg C8 rfl ?_))
  refine B0 h fun v2 a2 h => Aw [] (Ka N ((Aa.mk p0.fc.fb p0.fc.fk p0.fc.fp p0.fc.fe)) v2 a2) Xj rfl (qm rfl ?_)
  refine Cv 6 h rfl (fun h => ?_) fun h => ?_
  ·refine qf Oa rfl (ql Bf rfl (AH AB rfl (Lf rfl (qp rfl (qm rfl ?_)))))
   refine Cv 12 h rfl (fun h => ?_) fun h => ?_
   ·refine qf NI rfl (ql Re rfl (AH F4 rfl (Lf rfl (qp rfl (qm rfl ?_)))))
    refine Cv 18 h rfl (fun h => ?_) fun h => ?_
    ·refine qf Oi rfl (ql Vo rfl (AH DV rfl (Lf rfl (qp rfl (qe rfl ?_)))))
     exact sn [] h
    ·refine qw 4 rfl (qp rfl (qe rfl ?_))
     exact sn [] h
   ·refine qw 4 rfl (qp rfl (qw 5 rfl (qp rfl (qe rfl ?_))))
    exact sn [] h
  ·refine qw 4 rfl (qp rfl (qw 5 rfl (qp rfl (qw 5 rfl (qp rfl (qe rfl ?_))))))
   exact sn [] h
 ·obtain rfl := sj h
  refine Af (sm [] [(2, bD v1)] [] rfl rfl) (Aq ?_)
  exact ⟨⟨[_], tm, rfl⟩, tv⟩
theorem FC (N : Nat) (p0 : List Ab) (r : (List Ab)) (h : Bv N p0 = some r) : Ar zA 14 [pD (.sl (p0.map AD))] [(11, r.map AD)] (oD (.own 0)) := by
 unfold Bv at h
 refine cw (n := 8) (rs := [.tmp 2]) Tryz.func14 fun w0 S0 => ?_
 refine wq rfl (qa rfl (Ac (wp rfl (qm rfl ?_))))
 refine Ob (.p rfl) rfl DV ?_
 refine Ac ?_
 refine NM rfl (fun c2 => ?_) ?_
 ·have c2 := xB.1 c2
  rw [c2] at h
  have h : (some (([] : List Ab))) = some r := h
  refine wq rfl (qe rfl ?_)
  obtain rfl := sj h
  refine Af ((Fx 2 2001 11 rfl rfl rfl).trans (sm [(1000, 2001)] [(2, oD (.own 1000))] [(1000, .vec 11 ((([] : List Ab)).map AD))] rfl rfl)) (Aq ?_)
  exact ⟨⟨[_], tm, rfl⟩, ⟨rfl, tv⟩⟩
 ·refine Ap (wq rfl (FO DV CV IF rfl (qm rfl ?_)))
  refine HS h fun c1 h => Kz (f := AD) DV DV CV V8 IF (fun _ => rfl) c1 rfl (qe rfl ?_)
  obtain rfl := sj h
  refine Af (sm [(1000, 7)] [(2, oD (.own 1000))] [(1000, .vec 11 (((([] : List Ab)) ++ p0).map AD))] rfl rfl) (Aq ?_)
  exact ⟨⟨[_], tm, rfl⟩, ⟨rfl, tv⟩⟩
theorem KS (N : Nat) (p0 : Aa) (p1 : List Int) (p2 : List Al) (p3 : List Ab) (r : Bool) (h : DM N p0 p1 p2 p3 = some r) : Ar zA 24 [.e (.agg (Ak p0)), pD (.sl (p1.map As)), pD (.sl (p2.map AN)), pD (.sl (p3.map AD))] [] (bD r) := by
 unfold DM at h
 refine cw (n := 34) (rs := [.tmp 8]) Tryz.func24 fun w0 S0 => ?_
 refine wq rfl (qb rfl (qa rfl (Ac (wq rfl (qL Dg C8 rfl (qw 3 rfl ?_))))))
 refine B0 h fun v1 a1 h => Aw [] (JC N p0 p1 p2 p3 v1 a1) VS rfl (qm rfl (qx rfl (qx rfl (qx rfl (qx rfl (qa rfl (qa rfl (qa rfl (qe rfl ?_)))))))))
 refine AI h (fun v2 => mk [(8, bD v2)] []) (fun j2 h => ?_) (fun v2 h => ?_)
 ·refine Aj Ax rfl (qm rfl (AP rfl (qm rfl ?_)))
  refine Cv 25 h rfl (fun h => ?_) fun h => ?_
  ·refine qm rfl ?_
   refine B0 h fun v4 a4 h => FJ (Pw 26 _ _ rfl (by rw [a4]; rfl)) ?_
   refine Ld (.g rfl rfl) rfl ?_
   refine qg Id rfl (qk AX rfl (qm rfl (AH F4 rfl (AP rfl (qp rfl (qe rfl ?_))))))
   exact sn [] h
  ·refine qw 7 rfl (qp rfl (qe rfl ?_))
   exact sn [] h
 ·obtain rfl := sj h
  refine Af (sm [] [(8, bD v2)] [] rfl rfl) (Aq ?_)
  exact ⟨⟨[_], tm, rfl⟩, tv⟩
theorem B3 (N : Nat) (p0 : AL) (r : Bool) (h : AU N p0 = some r) : Ar zA 56 [.e (.agg (CA p0))] [] (bD r) := by
 unfold AU at h
 refine cw (n := 11) (rs := [.tmp 2]) Tryz.func56 fun w0 S0 => ?_
 refine wq rfl (qb rfl (qe rfl ?_))
 refine AI h (fun v1 => mk [(2, bD v1)] []) (fun j1 h => ?_) (fun v1 h => ?_)
 ·refine Aj Ax rfl (qf D1 rfl (ql AX rfl (AP rfl (qm rfl ?_))))
  refine Cv 6 h rfl (fun h => ?_) fun h => ?_
  ·refine qw 3 rfl (qp rfl (qe rfl ?_))
   exact sn [] h
  ·refine qf D1 rfl (ql AX rfl (AP rfl (qp rfl (qe rfl ?_))))
   exact sn [] h
 ·obtain rfl := sj h
  refine Af (sm [] [(2, bD v1)] [] rfl rfl) (Aq ?_)
  exact ⟨⟨[_], tm, rfl⟩, tv⟩
theorem GM (N : Nat) (p0 : List (List Bool)) (p1 : Int) (p2 : Int) (r : Bool) (h : CG N p0 p1 p2 = some r) : Ar zA 143 [pD (.sl (p0.map (Lu eB))), iD p1, iD p2] [] (bD r) := by
 unfold CG at h
 refine cw (n := 24) (rs := [.tmp 6]) Tryz.func143 fun w0 S0 => ?_
 refine wq rfl (qa rfl (Ac (wp rfl (qm rfl (AH D2 rfl (qm rfl (BE rfl (Ac ?_))))))))
 refine Bb h (fun h => ?_) fun h => ?_
 ·refine wq rfl (qe rfl ?_)
  obtain rfl := sj h
  refine Af (sm [] [(6, bD false)] [] rfl rfl) (Aq ?_)
  exact ⟨⟨[_], tm, rfl⟩, tv⟩
 ·refine Ap (wp rfl (qe rfl ?_))
  refine A5 (L := BP N p0 p1 p2) h (fun v2 => mk [(0, pD (.sl (p0.map (Lu eB)))), (1, iD p1), (2, iD p2), (7, iD v2)] []) (fun v3 => mk [] []) (fun _ _ => rfl) (sm [] _ _ rfl rfl) (fun j2 n2 v2 h => ?_) (fun v3 s h hs => ?_)
  ·unfold BP at h
   refine wp rfl (qw 2 rfl (A2 rfl (Ac ?_)))
   refine Bb h (fun h => ?_) fun h => ?_
   ·refine Ap (AS (AR (wq rfl (qw 2 rfl ?_))))
    refine BK h fun v5 a5 b5 h => qi D2 JA a5 (Ah b5) rfl (qk JF rfl (AH HR rfl (qm rfl (BE rfl (Ac ?_)))))
    refine Bb h (fun h => ?_) fun h => ?_
    ·refine wq rfl (qe rfl ?_)
     obtain rfl := sj h
     refine Af (sm [] [(6, bD false)] [] rfl rfl) (Aq ?_)
     exact ⟨⟨[_], tm, rfl⟩, tv⟩
    ·refine Ap (Aj Ax rfl (qm rfl (Cl rfl (qe rfl ?_))))
     exact sn [] h
   ·refine BS ?_
    exact sn [] h
  ·refine Af hs (wq rfl (qe rfl ?_))
   obtain rfl := sj h
   refine Af (sm [] [(6, bD true)] [] rfl rfl) (Aq ?_)
   exact ⟨⟨[_], tm, rfl⟩, tv⟩
theorem Js (N : Nat) (p0 : Aa) (p1 : AL) (r : Int) (h : Dx N p0 p1 = some r) : Ar zA 101 [.e (.agg (Ak p0)), .e (.agg (CA p1))] [] (iD r) := by
 unfold Dx at h
 refine cw (n := 101) (rs := [.tmp 4]) Tryz.func101 fun w0 S0 => ?_
 refine wq rfl (qb rfl (qb rfl (qa rfl (Ac (AS ?_)))))
 refine AI h (fun v1 => mk [(2, oD (.ptr 2 0)), (3, oD (.ptr 3 0)), (22, bD v1)] [(2, .box (Ak p0)), (3, .box (CA p1))]) (fun j1 h => ?_) (fun v1 h => ?_)
 ·refine Aj Ax rfl (qf D1 rfl (ql AX rfl (A2 rfl (qm rfl ?_))))
  refine Cv 10 h rfl (fun h => ?_) fun h => ?_
  ·refine qw 3 rfl (qp rfl (qw 4 rfl (qu rfl (qu rfl (qn rfl (qp rfl (Ac ?_)))))))
   exact sn [] h
  ·refine qf D1 rfl (ql AX rfl (Eh rfl (qp rfl (qm rfl ?_))))
   refine Cv 15 h rfl (fun h => ?_) fun h => ?_
   ·refine qw 3 rfl (qu rfl (qu rfl (qn rfl (qp rfl (Ac ?_)))))
    exact sn [] h
   ·refine qf Pg rfl (ql Q2 rfl (qm rfl ?_))
    refine Cv 18 h rfl (fun h => ?_) fun h => ?_
    ·refine qL Ey BM rfl ?_
     refine B0 h fun v5 a5 h => Aw [] (B3 N p1 v5 a5) OL rfl (qp rfl (qp rfl (Ac ?_)))
     exact sn [] h
    ·refine qw 2 rfl (qp rfl (qp rfl (Ac ?_)))
     exact sn [] h
 ·refine Bb h (fun h => ?_) fun h => ?_
  ·refine wq rfl (qe rfl ?_)
   obtain rfl := sj h
   refine Af (sm [] [(4, iD 1)] [] rfl rfl) (Aq ?_)
   exact ⟨⟨[_], tm, rfl⟩, tv⟩
  ·refine Ap (wq rfl (qf BB rfl (ql Bf rfl (AH AB rfl (qa rfl (Ac (AS ?_)))))))
   refine AI h (fun v7 => mk [(2, oD (.ptr 2 0)), (3, oD (.ptr 3 0)), (45, bD v7)] [(2, .box (Ak p0)), (3, .box (CA p1))]) (fun j7 h => ?_) (fun v7 h => ?_)
   ·refine Aj Ax rfl (qf Ce rfl (ql AX rfl (A2 rfl (qm rfl ?_))))
    refine Cv 29 h rfl (fun h => ?_) fun h => ?_
    ·refine qw 4 rfl (qp rfl (qw 4 rfl (qp rfl (qw 5 rfl (qp rfl (Ac ?_))))))
     exact sn [] h
    ·refine qf Ce rfl (ql AX rfl (qm rfl (Da rfl (qp rfl (qm rfl ?_)))))
     refine Cv 35 h rfl (fun h => ?_) fun h => ?_
     ·refine qw 3 rfl (qp rfl (qw 5 rfl (qp rfl (Ac ?_))))
      exact sn [] h
     ·refine qf FV rfl (ql AX rfl (A2 rfl (qp rfl (qm rfl ?_))))
      refine Cv 40 h rfl (fun h => ?_) fun h => ?_
      ·refine qw 4 rfl (qp rfl (Ac ?_))
       exact sn [] h
      ·refine qf FV rfl (ql AX rfl (qm rfl (Da rfl (qp rfl (Ac ?_)))))
       exact sn [] h
   ·refine Bb h (fun h => ?_) fun h => ?_
    ·refine wq rfl (qe rfl ?_)
     obtain rfl := sj h
     refine Af (sm [] [(4, iD 4)] [] rfl rfl) (Aq ?_)
     exact ⟨⟨[_], tm, rfl⟩, tv⟩
    ·refine Ap (wp rfl (qf GE rfl (ql Fd rfl (qf BB rfl (ql Bf rfl (qf Ce rfl (ql AX rfl ?_)))))))
     refine BK h fun v12 a12 b12 h => qi AB CL a12 (Ah b12) rfl (qk AX rfl (qf BB rfl (ql Bf rfl (qf FV rfl (ql AX rfl ?_)))))
     refine BK h fun v13 a13 b13 h => qi AB CL a13 (Ah b13) rfl (qk AX rfl ?_)
     refine B0 h fun v14 a14 h => Aw [] (GM N p1.fE v12 v13 v14 a14) UA rfl (Cb rfl (AG (by kernel_rfl) ?_))
     refine Bb h (fun h => ?_) fun h => ?_
     ·refine wq rfl (qe rfl ?_)
      obtain rfl := sj h
      refine Af (sm [] [(4, iD 6)] [] rfl rfl) (Aq ?_)
      exact ⟨⟨[_], tm, rfl⟩, tv⟩
     ·refine Ap (wp rfl (qf D1 rfl (ql AX rfl (BE rfl (Ac ?_)))))
      refine Bb h (fun h => ?_) fun h => ?_
      ·refine wp rfl (qf D9 rfl (ql Fd rfl (AH D2 rfl (BE rfl (Ac ?_)))))
       refine Bb h (fun h => ?_) fun h => ?_
       ·refine wq rfl (qe rfl ?_)
        obtain rfl := sj h
        refine Af (sm [] [(4, iD 6)] [] rfl rfl) (Aq ?_)
        exact ⟨⟨[_], tm, rfl⟩, tv⟩
       ·refine Ap (wq rfl (qe rfl ?_))
        obtain rfl := sj h
        refine Af (sm [] [(4, iD 0)] [] rfl rfl) (Aq ?_)
        exact ⟨⟨[_], tm, rfl⟩, tv⟩
      ·refine Ap (wp rfl (qf D9 rfl (ql Fd rfl (qf BB rfl (ql Bf rfl (qf Ce rfl (ql AX rfl ?_)))))))
       refine BK h fun v18 a18 b18 h => qi AB CL a18 (Ah b18) rfl (qk AX rfl (qf BB rfl (ql Bf rfl (qf Ce rfl (ql AX rfl ?_)))))
       refine BK h fun v19 a19 b19 h => qi AB CL a19 (Ah b19) rfl (qk AX rfl ?_)
       refine B0 h fun v20 a20 h => Aw [] (GM N p1.fy v18 v19 v20 a20) UA rfl (Cb rfl (AG (by kernel_rfl) ?_))
       refine Bb h (fun h => ?_) fun h => ?_
       ·refine wq rfl (qe rfl ?_)
        obtain rfl := sj h
        refine Af (sm [] [(4, iD 6)] [] rfl rfl) (Aq ?_)
        exact ⟨⟨[_], tm, rfl⟩, tv⟩
       ·refine Ap (wp rfl (qe rfl ?_))
        refine A5 (L := Bw N p1) h (fun v22 => mk [(3, oD (.ptr 3 0)), (6, iD v22)] [(3, .box (CA p1))]) (fun v23 => mk [] []) (fun _ _ => rfl) (sm [] _ _ rfl rfl) (fun j22 n22 v22 h => ?_) (fun v23 s h hs => ?_)
        ·unfold Bw at h
         refine wp rfl (qm rfl (qf D9 rfl (ql Fd rfl (AH D2 rfl (A2 rfl (Ac ?_))))))
         refine Bb h (fun h => ?_) fun h => ?_
         ·refine Ap (AS (AR (wq rfl (qf D9 rfl (ql Fd rfl (qm rfl ?_))))))
          refine BK h fun v25 a25 b25 h => qi D2 JA a25 (Ah b25) rfl (qk JF rfl (qm rfl ?_))
          refine BK h fun v26 a26 b26 h => qi HR RH a26 (Ah b26) rfl (qk Q2 rfl (Cb rfl (Ac ?_)))
          refine Bb h (fun h => ?_) fun h => ?_
          ·refine wq rfl (qe rfl ?_)
           obtain rfl := sj h
           refine Af (sm [] [(4, iD 1)] [] rfl rfl) (Aq ?_)
           exact ⟨⟨[_], tm, rfl⟩, tv⟩
          ·refine Ap (Aj Ax rfl (qm rfl (Cl rfl (qe rfl ?_))))
           exact sn [] h
         ·refine BS ?_
          exact sn [] h
        ·refine Af hs (wq rfl (qe rfl ?_))
         obtain rfl := sj h
         refine Af (sm [] [(4, iD 0)] [] rfl rfl) (Aq ?_)
         exact ⟨⟨[_], tm, rfl⟩, tv⟩
theorem D0 (N : Nat) (p0 : Aa) (r : Int) (h : Br N p0 = some r) : Ar zA 55 [.e (.agg (Ak p0))] [] (iD r) := by
 unfold Br at h
 refine cw (n := 102) (rs := [.tmp 2]) Tryz.func55 fun w0 S0 => ?_
 refine wq rfl (qb rfl (qa rfl (Ac (AS ?_))))
 refine AI h (fun v1 => mk [(1, oD (.ptr 1 0)), (16, bD v1)] [(1, .box (Ak p0))]) (fun j1 h => ?_) (fun v1 h => ?_)
 ·refine Aj Ax rfl (qf BB rfl (ql Bf rfl (AH AB rfl (Eh rfl (qm rfl ?_)))))
  refine Cv 11 h rfl (fun h => ?_) fun h => ?_
  ·refine qw 4 rfl (qp rfl (Ac ?_))
   exact sn [] h
  ·refine qf BA rfl (ql EU rfl (AH CR rfl (Eh rfl (qp rfl (Ac ?_)))))
   exact sn [] h
 ·refine Bb h (fun h => ?_) fun h => ?_
  ·refine wq rfl (qe rfl ?_)
   obtain rfl := sj h
   refine Af (sm [] [(2, iD 3)] [] rfl rfl) (Aq ?_)
   exact ⟨⟨[_], tm, rfl⟩, tv⟩
  ·refine Ap (AS ?_)
   refine AI h (fun v4 => mk [(1, oD (.ptr 1 0)), (32, bD v4)] [(1, .box (Ak p0))]) (fun j4 h => ?_) (fun v4 h => ?_)
   ·refine Aj Ax rfl (qf FQ rfl (ql Bf rfl (AH AB rfl (qf BB rfl (ql Bf rfl (AH AB rfl (BE rfl (qm rfl ?_))))))))
    refine Cv 24 h rfl (fun h => ?_) fun h => ?_
    ·refine qw 7 rfl (qp rfl (Ac ?_))
     exact sn [] h
    ·refine qf I9 rfl (ql Bf rfl (AH AB rfl (qf BB rfl (ql Bf rfl (AH AB rfl (BE rfl (qp rfl (Ac ?_))))))))
     exact sn [] h
   ·refine Bb h (fun h => ?_) fun h => ?_
    ·refine wq rfl (qe rfl ?_)
     obtain rfl := sj h
     refine Af (sm [] [(2, iD 6)] [] rfl rfl) (Aq ?_)
     exact ⟨⟨[_], tm, rfl⟩, tv⟩
    ·refine Ap (wp rfl (qe rfl ?_))
     refine A5 (L := A1 N p0) h (fun v7 => mk [(1, oD (.ptr 1 0)), (3, iD v7)] [(1, .box (Ak p0))]) (fun v8 => mk [(1, oD (.ptr 1 0))] [(1, .box (Ak p0))]) (fun _ _ => rfl) (sm [] _ _ rfl rfl) (fun j7 n7 v7 h => ?_) (fun v8 s h hs => ?_)
     ·unfold A1 at h
      refine wp rfl (qm rfl (qf BB rfl (ql Bf rfl (AH AB rfl (A2 rfl (Ac ?_))))))
      refine Bb h (fun h => ?_) fun h => ?_
      ·refine Ap (AS (AR (wq rfl (qf BB rfl (ql Bf rfl (qm rfl ?_))))))
       refine BK h fun v10 a10 b10 h => qi AB CL a10 (Ah b10) rfl (qk AX rfl (qe rfl ?_))
       refine AI h (fun v11 => mk [(1, oD (.ptr 1 0)), (3, iD v7), (84, bD v11)] [(1, .box (Ak p0))]) (fun j11 h => ?_) (fun v11 h => ?_)
       ·refine Aj Ax rfl (qm rfl (A2 rfl (qm rfl ?_)))
        refine Cv 47 h rfl (fun h => ?_) fun h => ?_
        ·refine qw 2 rfl (qp rfl (qw 7 rfl (qp rfl (qw 8 rfl (qp rfl (qw 7 rfl (qp rfl (qw 8 rfl (qp rfl (Ac ?_))))))))))
         exact sn [] h
        ·refine qm rfl (Eh rfl (qp rfl (qm rfl ?_)))
         refine Cv 51 h rfl (fun h => ?_) fun h => ?_
         ·refine qw 6 rfl (qp rfl (qw 8 rfl (qp rfl (qw 7 rfl (qp rfl (qw 8 rfl (qp rfl (Ac ?_))))))))
          exact sn [] h
         ·refine qf FQ rfl (ql Bf rfl (qm rfl ?_))
          refine BK h fun v14 a14 b14 h => qi AB CL a14 (Ah b14) rfl (qk AX rfl (A2 rfl (qp rfl (qm rfl ?_))))
          refine Cv 59 h rfl (fun h => ?_) fun h => ?_
          ·refine qw 7 rfl (qp rfl (qw 7 rfl (qp rfl (qw 8 rfl (qp rfl (Ac ?_))))))
           exact sn [] h
          ·refine qf FQ rfl (ql Bf rfl (qm rfl ?_))
           refine BK h fun v16 a16 b16 h => qi AB CL a16 (Ah b16) rfl (qk AX rfl (qm rfl (Da rfl (qp rfl (qm rfl ?_)))))
           refine Cv 68 h rfl (fun h => ?_) fun h => ?_
           ·refine qw 6 rfl (qp rfl (qw 8 rfl (qp rfl (Ac ?_))))
            exact sn [] h
           ·refine qf I9 rfl (ql Bf rfl (qm rfl ?_))
            refine BK h fun v18 a18 b18 h => qi AB CL a18 (Ah b18) rfl (qk AX rfl (A2 rfl (qp rfl (qm rfl ?_))))
            refine Cv 76 h rfl (fun h => ?_) fun h => ?_
            ·refine qw 7 rfl (qp rfl (Ac ?_))
             exact sn [] h
            ·refine qf I9 rfl (ql Bf rfl (qm rfl ?_))
             refine BK h fun v20 a20 b20 h => qi AB CL a20 (Ah b20) rfl (qk AX rfl (qm rfl (Da rfl (qp rfl (Ac ?_)))))
             exact sn [] h
       ·refine Bb h (fun h => ?_) fun h => ?_
        ·refine wq rfl (qe rfl ?_)
         obtain rfl := sj h
         refine Af (sm [] [(2, iD 7)] [] rfl rfl) (Aq ?_)
         exact ⟨⟨[_], tm, rfl⟩, tv⟩
        ·refine Ap (Aj Ax rfl (qm rfl (Cl rfl (qe rfl ?_))))
         exact sn [] h
      ·refine BS ?_
       exact sn [] h
     ·refine Af hs (wp rfl (qe rfl ?_))
      refine A5 (L := AY N p0) h (fun v22 => mk [(1, oD (.ptr 1 0)), (5, iD v22)] [(1, .box (Ak p0))]) (fun v23 => mk [] []) (fun _ _ => rfl) (sm [] _ _ rfl rfl) (fun j22 n22 v22 h => ?_) (fun v23 s h hs => ?_)
      ·unfold AY at h
       refine wp rfl (qm rfl (qf BA rfl (ql EU rfl (AH CR rfl (A2 rfl (Ac ?_))))))
       refine Bb h (fun h => ?_) fun h => ?_
       ·refine Ap (AS (AR (wq rfl (qL Dg C8 rfl (qf BA rfl (ql EU rfl (qm rfl ?_)))))))
        refine BK h fun v25 a25 b25 h => qi CR BM a25 (Ah b25) rfl (qK Ey BM rfl ?_)
        refine B0 h fun v26 a26 h => Aw [] (Js N p0 v25 v26 a26) Wq rfl (qa rfl (AG (by kernel_rfl) (wq rfl (qm rfl (BE rfl (Ac ?_))))))
        refine Bb h (fun h => ?_) fun h => ?_
        ·refine wq rfl (qm rfl (qe rfl ?_))
         obtain rfl := sj h
         refine Af (sm [] [(2, iD v26)] [] rfl rfl) (Aq ?_)
         exact ⟨⟨[_], tm, rfl⟩, tv⟩
        ·refine Ap (Aj Ax rfl (qm rfl (Cl rfl (qe rfl ?_))))
         exact sn [] h
       ·refine BS ?_
        exact sn [] h
      ·refine Af hs (wq rfl (qe rfl ?_))
       obtain rfl := sj h
       refine Af (sm [] [(2, iD 0)] [] rfl rfl) (Aq ?_)
       exact ⟨⟨[_], tm, rfl⟩, tv⟩
theorem IC (N : Nat) (p0 : Aa) (p1 : List Int) (r : Int) (h : C4 N p0 p1 = some r) : Ar zA 58 [.e (.agg (Ak p0)), pD (.sl (p1.map As))] [] (iD r) := by
 unfold C4 at h
 refine cw (n := 36) (rs := [.tmp 4]) Tryz.func58 fun w0 S0 => ?_
 refine wq rfl (qb rfl (qa rfl (Ac (wp rfl (qL Dg C8 rfl ?_)))))
 refine B0 h fun v1 a1 h => Aw [] (D0 N p0 v1 a1) UI rfl (qa rfl (Ac (wq rfl (qm rfl (BE rfl (Ac ?_))))))
 refine Bb h (fun h => ?_) fun h => ?_
 ·refine wq rfl (qm rfl (qe rfl ?_))
  obtain rfl := sj h
  refine Af (sm [] [(4, iD v1)] [] rfl rfl) (Aq ?_)
  exact ⟨⟨[_], tm, rfl⟩, tv⟩
 ·refine Ap (wp rfl (qm rfl (AH AB rfl (qf BB rfl (ql Bf rfl (AH AB rfl (BE rfl (Ac ?_))))))))
  refine Bb h (fun h => ?_) fun h => ?_
  ·refine wq rfl (qe rfl ?_)
   obtain rfl := sj h
   refine Af (sm [] [(4, iD 6)] [] rfl rfl) (Aq ?_)
   exact ⟨⟨[_], tm, rfl⟩, tv⟩
  ·refine Ap (wp rfl (qe rfl ?_))
   refine A5 (L := B4 N p1) h (fun v4 => mk [(1, pD (.sl (p1.map As))), (6, iD v4)] []) (fun v5 => mk [] []) (fun _ _ => rfl) (sm [] _ _ rfl rfl) (fun j4 n4 v4 h => ?_) (fun v5 s h hs => ?_)
   ·unfold B4 at h
    refine wp rfl (qw 2 rfl (AH AB rfl (A2 rfl (Ac ?_))))
    refine Bb h (fun h => ?_) fun h => ?_
    ·refine Ap (AS (AR ?_))
     refine AI h (fun v7 => mk [(1, pD (.sl (p1.map As))), (6, iD v4), (35, bD v7)] []) (fun j7 h => ?_) (fun v7 h => ?_)
     ·refine Aj Ax rfl (qw 2 rfl ?_)
      refine BK h fun v8 a8 b8 h => qi AB CL a8 (Ah b8) rfl (qk AX rfl (A2 rfl (qm rfl ?_)))
      refine Cv 29 h rfl (fun h => ?_) fun h => ?_
      ·refine qw 5 rfl (qp rfl (Ac ?_))
       exact sn [] h
      ·refine qw 2 rfl ?_
       refine BK h fun v10 a10 b10 h => qi AB CL a10 (Ah b10) rfl (qk AX rfl (Eh rfl (qp rfl (Ac ?_))))
       exact sn [] h
     ·refine Bb h (fun h => ?_) fun h => ?_
      ·refine wq rfl (qe rfl ?_)
       obtain rfl := sj h
       refine Af (sm [] [(4, iD 7)] [] rfl rfl) (Aq ?_)
       exact ⟨⟨[_], tm, rfl⟩, tv⟩
      ·refine Ap (Aj Ax rfl (qm rfl (Cl rfl (qe rfl ?_))))
       exact sn [] h
    ·refine BS ?_
     exact sn [] h
   ·refine Af hs (wq rfl (qe rfl ?_))
    obtain rfl := sj h
    refine Af (sm [] [(4, iD 0)] [] rfl rfl) (Aq ?_)
    exact ⟨⟨[_], tm, rfl⟩, tv⟩
theorem GY (N : Nat) (p0 : Aa) (r : Ae × Int) (h : CT N p0 = some r) : Ar zA 74 [.e (.agg (Ak p0))] [(1, r.1.fh.map As), (1, r.1.ff.map As), (1, r.1.fg.map Dq)] (.tup [.agg [.own 0, .own 1, .own 2], .one (iC r.2)]) := by
 unfold CT at h
 refine cw (n := 68) (rs := [.cell 2 40, .tmp 3]) Tryz.func74 fun w0 S0 => ?_
 refine wq rfl (qb rfl (qz Do rfl (qa rfl (Ac (wp rfl (qL Dg C8 rfl ?_))))))
 refine B0 h fun v1 a1 h => Aw [] (D0 N p0 v1 a1) UI rfl (qa rfl (Ac (wq rfl (qm rfl (BE rfl (Ac ?_))))))
 refine Bb h (fun h => ?_) fun h => ?_
 ·refine wq rfl (Bs Do G7 rfl (qm rfl (qs AV rfl (qe rfl ?_))))
  obtain rfl := sj h
  refine Af ((Az 2 0 2001 1 _ rfl rfl rfl rfl).trans ((Az 2 1 2002 1 _ rfl rfl rfl rfl).trans ((Az 2 2 2003 1 _ rfl rfl rfl rfl).trans (sm [(1000, 2001), (1001, 2002), (1002, 2003)] [(2, oD (.ptr 2 0)), (3, iD v1)] [(2, .box [.own 1000, .own 1001, .own 1002]), (1000, .vec 1 ((([] : List Int)).map As)), (1001, .vec 1 ((([] : List Int)).map As)), (1002, .vec 1 ((([] : List Int)).map Dq))] rfl rfl)))) (Aq ?_)
  exact ⟨⟨[_, _], ⟨.cellN _ _ _ _ _ _ _ rfl rfl B1 AV rfl rfl (HL rfl), tm⟩, rfl⟩, ⟨rfl, rfl, rfl, tv⟩⟩
 ·refine Ap (wq rfl (qz Do rfl (Ac (wp rfl (qe rfl ?_)))))
  refine A5 (L := BF N p0) h (fun v3 => mk [(1, oD (.ptr 1 0)), (2, oD (.ptr 2 0)), (5, oD (.ptr 5 0)), (6, iD v3.2.2)] [(1, .box (Ak p0)), (2, .box [.pure (.nil0), .pure (.nil0), .pure (.nil0)]), (5, .box [.own 2004, .own 2005, .pure (.nil0)]), (2004, .vec 1 (v3.1.map As)), (2005, .vec 1 (v3.2.1.map As))]) (fun v4 => mk [(1, oD (.ptr 1 0)), (2, oD (.ptr 2 0)), (5, oD (.ptr 5 0))] [(1, .box (Ak p0)), (2, .box [.pure (.nil0), .pure (.nil0), .pure (.nil0)]), (5, .box [.own 2006, .own 2007, .pure (.nil0)]), (2006, .vec 1 (v4.1.map As)), (2007, .vec 1 (v4.2.map As))]) (fun _ _ => rfl) ((Az 5 0 2008 1 _ rfl rfl rfl rfl).trans ((Az 5 1 2009 1 _ rfl rfl rfl rfl).trans (sm [(2004, 2008), (2005, 2009)] _ _ rfl rfl))) (fun j3 n3 v3 h => ?_) (fun v4 s h hs => ?_)
  ·unfold BF at h
   refine wp rfl (qm rfl (qf BB rfl (ql Bf rfl (AH AB rfl (A2 rfl (Ac ?_))))))
   refine Bb h (fun h => ?_) fun h => ?_
   ·refine Ap (AS (AR (wq rfl (qf C3 rfl (ql Bf rfl (qf FQ rfl (ql Bf rfl (qm rfl ?_))))))))
    refine BK h fun v6 a6 b6 h => qi AB CL a6 (Ah b6) rfl (qk AX rfl (FO AB CL OC rfl ?_))
    refine HS h fun c7 h => LN (f := As) AB AB CL Ro OC c7 rfl (qf C3 rfl (qs WT rfl (AG (by kernel_rfl) (Aj Ax rfl (qf BU rfl (ql Bf rfl (FO AB CL OC rfl ?_)))))))
    refine HS h fun c8 h => LN (f := As) AB AB CL Ro OC c8 rfl (qf BU rfl (qs WT rfl (Ac (Aj Ax rfl (qm rfl (Cl rfl (qe rfl ?_)))))))
    exact sn [(2004, 30), (2005, 35)] h
   ·refine BS ?_
    exact sn [(2006, 2004), (2007, 2005)] h
  ·refine Af hs (wp rfl (qe rfl ?_))
   refine A5 (L := A4 N p0) h (fun v9 => mk [(1, oD (.ptr 1 0)), (2, oD (.ptr 2 0)), (5, oD (.ptr 5 0)), (7, iD v9.2)] [(1, .box (Ak p0)), (2, .box [.pure (.nil0), .pure (.nil0), .pure (.nil0)]), (5, .box [.own 2010, .own 2011, .own 2012]), (2010, .vec 1 (v4.1.map As)), (2011, .vec 1 (v4.2.map As)), (2012, .vec 1 (v9.1.map Dq))]) (fun v10 => mk [(2, oD (.ptr 2 0)), (5, oD (.ptr 5 0))] [(2, .box [.pure (.nil0), .pure (.nil0), .pure (.nil0)]), (5, .box [.own 2013, .own 2014, .own 2015]), (2013, .vec 1 (v4.1.map As)), (2014, .vec 1 (v4.2.map As)), (2015, .vec 1 (v10.map Dq))]) (fun _ _ => rfl) ((Az 5 2 2019 1 _ rfl rfl rfl rfl).trans (sm [(2010, 2006), (2011, 2007), (2012, 2019)] _ _ rfl rfl)) (fun j9 n9 v9 h => ?_) (fun v10 s h hs => ?_)
   ·unfold A4 at h
    refine wp rfl (qm rfl (qf BA rfl (ql EU rfl (AH CR rfl (A2 rfl (Ac ?_))))))
    refine Bb h (fun h => ?_) fun h => ?_
    ·refine Ap (AS (AR (wq rfl (qe rfl ?_))))
     refine AI h (fun v12 => mk [(1, oD (.ptr 1 0)), (2, oD (.ptr 2 0)), (5, oD (.ptr 5 0)), (7, iD v9.2), (8, pD (.val (.int .u8 v12)))] [(1, .box (Ak p0)), (2, .box [.pure (.nil0), .pure (.nil0), .pure (.nil0)]), (5, .box [.own 2016, .own 2017, .own 2018]), (2016, .vec 1 (v4.1.map As)), (2017, .vec 1 (v4.2.map As)), (2018, .vec 1 (v9.1.map Dq))]) (fun j12 h => ?_) (fun v12 h => ?_)
     ·refine wq rfl (qf BA rfl (ql EU rfl (qm rfl ?_)))
      refine BK h fun v13 a13 b13 h => qi CR BM a13 (Ah b13) rfl (qK Ey BM rfl ?_)
      refine B0 h fun v14 a14 h => Aw [] (B3 N v13 v14 a14) OL rfl (Ac ?_)
      refine Bb h (fun h => ?_) fun h => ?_
      ·refine Aj Ax rfl (qf FQ rfl (ql Bf rfl (qf BA rfl (ql EU rfl (qm rfl ?_)))))
       refine BK h fun v16 a16 b16 h => qi CR BM a16 (Ah b16) rfl (qg Ce rfl (qk AX rfl ?_))
       refine BK h fun v17 a17 b17 h => qi AB CL a17 (Ah b17) rfl (qk AX rfl ?_)
       refine HS h fun c18 h => It rfl c18 (qa rfl (AG (by kernel_rfl) ?_))
       exact sn [(2016, 2010), (2017, 2011), (2018, 2012)] h
      ·refine Ap ?_
       exact sn [(2016, 2010), (2017, 2011), (2018, 2012)] h
     ·refine Aj Ax rfl (qf CI rfl (ql G6 rfl (qm rfl (FO DT DW Ms rfl ?_))))
      refine HS h fun c19 h => LN (f := Dq) DT DT DW NK Ms c19 rfl (qf CI rfl (qs Xp rfl (Ac (Aj Ax rfl (qm rfl (Cl rfl (qe rfl ?_)))))))
      exact sn [(2010, 2016), (2011, 2017), (2012, 65)] h
    ·refine BS ?_
     exact sn [(2013, 2010), (2014, 2011), (2015, 2012)] h
   ·refine Af hs (wq rfl (qL B1 AV rfl (qs AV rfl (qe rfl ?_))))
    obtain rfl := sj h
    refine Af (sm [(1000, 2013), (1001, 2014), (1002, 2015)] [(2, oD (.ptr 2 0)), (3, iD 0)] [(2, .box [.own 1000, .own 1001, .own 1002]), (1000, .vec 1 (v4.1.map As)), (1001, .vec 1 (v4.2.map As)), (1002, .vec 1 (v10.map Dq))] rfl rfl) (Aq ?_)
    exact ⟨⟨[_, _], ⟨.cellN _ _ _ _ _ _ _ rfl rfl B1 AV rfl rfl (HL rfl), tm⟩, rfl⟩, ⟨rfl, rfl, rfl, tv⟩⟩
theorem ES (N : Nat) (p0 : Ae) (p1 : Int) (r : Int) (h : B7 N p0 p1 = some r) : Ar zA 57 [.e (.agg (Bi p0)), iD p1] [] (pD (.val (.int .u8 r))) := by
 unfold B7 at h
 refine cw (n := 27) (rs := [.tmp 4]) Tryz.func57 fun w0 S0 => ?_
 refine wq rfl (qb rfl (qa rfl (Ac (wq rfl (qf C3 rfl (ql Bf rfl (qm rfl ?_)))))))
 refine BK h fun v1 a1 b1 h => qi AB CL a1 (Ah b1) rfl (qk AX rfl ?_)
 refine HS h fun c2 h => It rfl c2 (qe rfl ?_)
 refine AI h (fun v3 => mk [(5, pD (.val (.int .u8 v3)))] []) (fun j3 h => ?_) (fun v3 h => ?_)
 ·refine wq rfl (qf BU rfl (ql Bf rfl (qm rfl ?_)))
  refine BK h fun v4 a4 b4 h => qi AB CL a4 (Ah b4) rfl (qk AX rfl (Da rfl (Ac ?_)))
  refine Bb h (fun h => ?_) fun h => ?_
  ·refine Aj Ax rfl (qm rfl (qf BU rfl (ql Bf rfl (qm rfl ?_))))
   refine BK h fun v6 a6 b6 h => qi AB CL a6 (Ah b6) rfl (qk AX rfl ?_)
   refine HS h fun c7 h => It rfl c7 (S3 rfl (qe rfl ?_))
   exact sn [] h
  ·refine Ap ?_
   exact sn [] h
 ·refine wq rfl (qm rfl (qe rfl ?_))
  obtain rfl := sj h
  refine Af (sm [] [(4, pD (.val (.int .u8 v3)))] [] rfl rfl) (Aq ?_)
  exact ⟨⟨[_], tm, rfl⟩, tv⟩
theorem GT (N : Nat) (p0 : Aa) (p1 : Ae) (r : Int) (h : CQ N p0 p1 = some r) : Ar zA 22 [.e (.agg (Ak p0)), .e (.agg (Bi p1))] [] (iD r) := by
 unfold CQ at h
 refine cw (n := 154) (rs := [.tmp 4]) Tryz.func22 fun w0 S0 => ?_
 refine wq rfl (qb rfl (qb rfl (qa rfl (Ac (wp rfl (qL Dg C8 rfl ?_))))))
 refine B0 h fun v1 a1 h => Aw [] (D0 N p0 v1 a1) UI rfl (qa rfl (Ac (wq rfl (qm rfl (BE rfl (Ac ?_))))))
 refine Bb h (fun h => ?_) fun h => ?_
 ·refine wq rfl (qm rfl (qe rfl ?_))
  obtain rfl := sj h
  refine Af (sm [] [(4, iD v1)] [] rfl rfl) (Aq ?_)
  exact ⟨⟨[_], tm, rfl⟩, tv⟩
 ·refine Ap (wq rfl (qf BB rfl (ql Bf rfl (AH AB rfl (qa rfl (Ac (AS ?_)))))))
  refine AI h (fun v3 => mk [(2, oD (.ptr 2 0)), (3, oD (.ptr 3 0)), (6, iD ((p0.fb.length : Int))), (39, bD v3)] [(2, .box (Ak p0)), (3, .box (Bi p1))]) (fun j3 h => ?_) (fun v3 h => ?_)
  ·refine Aj Ax rfl (qf C3 rfl (ql Bf rfl (AH AB rfl (qm rfl (BE rfl (qm rfl ?_))))))
   refine Cv 24 h rfl (fun h => ?_) fun h => ?_
   ·refine qw 5 rfl (qp rfl (qw 8 rfl (qp rfl (Ac ?_))))
    exact sn [] h
   ·refine qf BU rfl (ql Bf rfl (AH AB rfl (qm rfl (BE rfl (qp rfl (qm rfl ?_))))))
    refine Cv 31 h rfl (fun h => ?_) fun h => ?_
    ·refine qw 7 rfl (qp rfl (Ac ?_))
     exact sn [] h
    ·refine qf CI rfl (ql G6 rfl (AH DT rfl (qf BA rfl (ql EU rfl (AH CR rfl (BE rfl (qp rfl (Ac ?_))))))))
     exact sn [] h
  ·refine Bb h (fun h => ?_) fun h => ?_
   ·refine wq rfl (qe rfl ?_)
    obtain rfl := sj h
    refine Af (sm [] [(4, iD 6)] [] rfl rfl) (Aq ?_)
    exact ⟨⟨[_], tm, rfl⟩, tv⟩
   ·refine Ap (wp rfl (qe rfl ?_))
    refine A5 (L := BD N p0 p1) h (fun v7 => mk [(2, oD (.ptr 2 0)), (3, oD (.ptr 3 0)), (6, iD ((p0.fb.length : Int))), (7, iD v7)] [(2, .box (Ak p0)), (3, .box (Bi p1))]) (fun v8 => mk [(2, oD (.ptr 2 0)), (3, oD (.ptr 3 0))] [(2, .box (Ak p0)), (3, .box (Bi p1))]) (fun _ _ => rfl) (sm [] _ _ rfl rfl) (fun j7 n7 v7 h => ?_) (fun v8 s h hs => ?_)
    ·unfold BD at h
     refine wp rfl (qw 2 rfl (A2 rfl (Ac ?_)))
     refine Bb h (fun h => ?_) fun h => ?_
     ·refine Ap (AS (AR (AS ?_)))
      refine AI h (fun v10 => mk [(2, oD (.ptr 2 0)), (3, oD (.ptr 3 0)), (6, iD ((p0.fb.length : Int))), (7, iD v7), (84, bD v10)] [(2, .box (Ak p0)), (3, .box (Bi p1))]) (fun j10 h => ?_) (fun v10 h => ?_)
      ·refine Aj Ax rfl (qf C3 rfl (ql Bf rfl (qm rfl ?_)))
       refine BK h fun v11 a11 b11 h => qi AB CL a11 (Ah b11) rfl (qk AX rfl (A2 rfl (qm rfl ?_)))
       refine Cv 51 h rfl (fun h => ?_) fun h => ?_
       ·refine qw 11 rfl (qp rfl (qw 7 rfl (qp rfl (qw 12 rfl (qp rfl (AG (by kernel_rfl) ?_))))))
        exact sn [] h
       ·refine qf C3 rfl (ql Bf rfl (qm rfl ?_))
        refine BK h fun v13 a13 b13 h => qi AB CL a13 (Ah b13) rfl (qk AX rfl (qf BB rfl (ql Bf rfl (qm rfl ?_))))
        refine BK h fun v14 a14 b14 h => qi AB CL a14 (Ah b14) rfl (qk AX rfl (Da rfl (qp rfl (qm rfl ?_))))
        refine Cv 64 h rfl (fun h => ?_) fun h => ?_
        ·refine qw 6 rfl (qp rfl (qw 12 rfl (qp rfl (AG (by kernel_rfl) ?_))))
         exact sn [] h
        ·refine qf BU rfl (ql Bf rfl (qm rfl ?_))
         refine BK h fun v16 a16 b16 h => qi AB CL a16 (Ah b16) rfl (qk AX rfl (A2 rfl (qp rfl (qm rfl ?_))))
         refine Cv 72 h rfl (fun h => ?_) fun h => ?_
         ·refine qw 11 rfl (qp rfl (AG (by kernel_rfl) ?_))
          exact sn [] h
         ·refine qf BU rfl (ql Bf rfl (qm rfl ?_))
          refine BK h fun v18 a18 b18 h => qi AB CL a18 (Ah b18) rfl (qk AX rfl (qf BB rfl (ql Bf rfl (qm rfl ?_))))
          refine BK h fun v19 a19 b19 h => qi AB CL a19 (Ah b19) rfl (qk AX rfl (Da rfl (qp rfl (AG (by kernel_rfl) ?_))))
          exact sn [] h
      ·refine Bb h (fun h => ?_) fun h => ?_
       ·refine wq rfl (qe rfl ?_)
        obtain rfl := sj h
        refine Af (sm [] [(4, iD 7)] [] rfl rfl) (Aq ?_)
        exact ⟨⟨[_], tm, rfl⟩, tv⟩
       ·refine Ap (wq rfl (qf C3 rfl (ql Bf rfl (qm rfl ?_))))
        refine BK h fun v21 a21 b21 h => qi AB CL a21 (Ah b21) rfl (qk AX rfl (qf BU rfl (ql Bf rfl (qm rfl ?_))))
        refine BK h fun v22 a22 b22 h => qi AB CL a22 (Ah b22) rfl (qk AX rfl (AP rfl (AG (by kernel_rfl) ?_)))
        refine Bb h (fun h => ?_) fun h => ?_
        ·refine wq rfl (qe rfl ?_)
         obtain rfl := sj h
         refine Af (sm [] [(4, iD 1)] [] rfl rfl) (Aq ?_)
         exact ⟨⟨[_], tm, rfl⟩, tv⟩
        ·refine Ap (Aj Ax rfl (qm rfl (Cl rfl (qe rfl ?_))))
         exact sn [] h
     ·refine BS ?_
      exact sn [] h
    ·refine Af hs (wp rfl (qe rfl ?_))
     refine A5 (L := By N p0 p1) h (fun v24 => mk [(2, oD (.ptr 2 0)), (3, oD (.ptr 3 0)), (8, iD v24)] [(2, .box (Ak p0)), (3, .box (Bi p1))]) (fun v25 => mk [] []) (fun _ _ => rfl) (sm [] _ _ rfl rfl) (fun j24 n24 v24 h => ?_) (fun v25 s h hs => ?_)
     ·unfold By at h
      refine wp rfl (qm rfl (qf BA rfl (ql EU rfl (AH CR rfl (A2 rfl (Ac ?_))))))
      refine Bb h (fun h => ?_) fun h => ?_
      ·refine Ap (AS (AR (wq rfl (qf BA rfl (ql EU rfl (qm rfl ?_))))))
       refine BK h fun v27 a27 b27 h => qi CR BM a27 (Ah b27) rfl (qK Ey BM rfl (qz I6 rfl (qs BM rfl (Ac (wq rfl (qf BB rfl (ql Bf rfl (qf Ce rfl (ql AX rfl ?_)))))))))
       refine BK h fun v28 a28 b28 h => qi AB CL a28 (Ah b28) rfl (qk AX rfl ?_)
       refine HS h fun c29 h => It rfl c29 (J1 rfl (qe rfl ?_))
       refine AI h (fun v30 => mk [(2, oD (.ptr 2 0)), (3, oD (.ptr 3 0)), (8, iD v24), (153, bD v30)] [(2, .box (Ak p0)), (3, .box (Bi p1))]) (fun j30 h => ?_) (fun v30 h => ?_)
       ·refine Aj Ax rfl (qL Ey BM rfl ?_)
        refine B0 h fun v31 a31 h => Aw [] (B3 N v27 v31 a31) OL rfl (Cb rfl (qm rfl ?_))
        refine Cv 119 h rfl (fun h => ?_) fun h => ?_
        ·refine qf CI rfl (ql G6 rfl (qm rfl ?_))
         refine BK h fun v33 a33 b33 h => qi DT DW a33 (Ah b33) rfl (qk Hu rfl (BE rfl (qp rfl (qm rfl ?_))))
         refine Cv 127 h rfl (fun h => ?_) fun h => ?_
         ·refine qw 3 rfl (qu rfl (qu rfl (qu rfl (qu rfl (qu rfl (qu rfl (qu rfl (qu rfl (qu rfl (qu rfl (qu rfl (qu rfl (qu rfl (qu rfl (qu rfl (qu rfl (qu rfl (qu rfl (qu rfl (qu rfl (qu rfl (qn rfl (qp rfl (AG (by kernel_rfl) ?_))))))))))))))))))))))))
          exact sn [] h
         ·refine qL Ey BM rfl ?_
          refine B0 h fun v35 a35 h => Aw [] (B3 N v27 v35 a35) OL rfl (qm rfl ?_)
          refine Cv 130 h rfl (fun h => ?_) fun h => ?_
          ·refine qf CI rfl (ql G6 rfl (qm rfl ?_))
           refine BK h fun v37 a37 b37 h => qi DT DW a37 (Ah b37) rfl (qk Hu rfl (qm rfl (Hl rfl (BE rfl (qm rfl ?_)))))
           refine Cv 139 h rfl (fun h => ?_) fun h => ?_
           ·refine qw 11 rfl (qp rfl (qp rfl (qp rfl (AG (by kernel_rfl) ?_))))
            exact sn [] h
           ·refine qL B1 AV rfl (qf Ce rfl (ql AX rfl ?_))
            refine B0 h fun v39 a39 h => Aw [] (ES N p1 v27.fj v39 a39) U4 rfl (qf CI rfl (ql G6 rfl (qm rfl ?_)))
            refine BK h fun v40 a40 b40 h => qi DT DW a40 (Ah b40) rfl (qk Hu rfl (Hl rfl (BE rfl (qp rfl (qp rfl (qp rfl (AG (by kernel_rfl) ?_)))))))
            exact sn [] h
          ·refine qw 9 rfl (qu rfl (qu rfl (qu rfl (qu rfl (qu rfl (qu rfl (qu rfl (qu rfl (qu rfl (qu rfl (qu rfl (qn rfl (qp rfl (qp rfl (AG (by kernel_rfl) ?_)))))))))))))))
           exact sn [] h
        ·refine qw 6 rfl (qp rfl (qm rfl (qL Ey BM rfl ?_)))
         refine B0 h fun v41 a41 h => Aw [] (B3 N v27 v41 a41) OL rfl (qm rfl ?_)
         refine Cv 130 h rfl (fun h => ?_) fun h => ?_
         ·refine qf CI rfl (ql G6 rfl (qm rfl ?_))
          refine BK h fun v43 a43 b43 h => qi DT DW a43 (Ah b43) rfl (qk Hu rfl (qm rfl (Hl rfl (BE rfl (qm rfl ?_)))))
          refine Cv 139 h rfl (fun h => ?_) fun h => ?_
          ·refine qw 11 rfl (qp rfl (qp rfl (qp rfl (AG (by kernel_rfl) ?_))))
           exact sn [] h
          ·refine qL B1 AV rfl (qf Ce rfl (ql AX rfl ?_))
           refine B0 h fun v45 a45 h => Aw [] (ES N p1 v27.fj v45 a45) U4 rfl (qf CI rfl (ql G6 rfl (qm rfl ?_)))
           refine BK h fun v46 a46 b46 h => qi DT DW a46 (Ah b46) rfl (qk Hu rfl (Hl rfl (BE rfl (qp rfl (qp rfl (qp rfl (AG (by kernel_rfl) ?_)))))))
           exact sn [] h
         ·refine qw 9 rfl (qu rfl (qu rfl (qu rfl (qu rfl (qu rfl (qu rfl (qu rfl (qu rfl (qu rfl (qu rfl (qu rfl (qn rfl (qp rfl (qp rfl (AG (by kernel_rfl) ?_)))))))))))))))
          exact sn [] h
       ·refine Bb h (fun h => ?_) fun h => ?_
        ·refine wq rfl (qe rfl ?_)
         obtain rfl := sj h
         refine Af (sm [] [(4, iD 1)] [] rfl rfl) (Aq ?_)
         exact ⟨⟨[_], tm, rfl⟩, tv⟩
        ·refine Ap (Aj Ax rfl (qm rfl (Cl rfl (qe rfl ?_))))
         exact sn [] h
      ·refine BS ?_
       exact sn [] h
     ·refine Af hs (wq rfl (qe rfl ?_))
      obtain rfl := sj h
      refine Af (sm [] [(4, iD 0)] [] rfl rfl) (Aq ?_)
      exact ⟨⟨[_], tm, rfl⟩, tv⟩
theorem Jm (N : Nat) (p0 : Al) (r : Bool) (h : DA N p0 = some r) : Ar zA 156 [.e (.agg (BR p0))] [] (bD r) := by
 unfold DA at h
 refine cw (n := 31) (rs := [.tmp 2]) Tryz.func156 fun w0 S0 => ?_
 refine wq rfl (qb rfl (qe rfl ?_))
 refine AI h (fun v1 => mk [(2, bD v1)] []) (fun j1 h => ?_) (fun v1 h => ?_)
 ·refine Aj Ax rfl (qf C5 rfl (ql AX rfl (Da rfl (qm rfl ?_))))
  refine Cv 6 h rfl (fun h => ?_) fun h => ?_
  ·refine qf C5 rfl (ql AX rfl (Lf rfl (qp rfl (qm rfl ?_))))
   refine Cv 11 h rfl (fun h => ?_) fun h => ?_
   ·refine qf DK rfl (ql AX rfl (Da rfl (qp rfl (qm rfl ?_))))
    refine Cv 16 h rfl (fun h => ?_) fun h => ?_
    ·refine qf Fv rfl (ql AX rfl (Da rfl (qp rfl (qm rfl ?_))))
     refine Cv 21 h rfl (fun h => ?_) fun h => ?_
     ·refine qf C5 rfl (ql AX rfl (AP rfl (qm rfl ?_)))
      refine Cv 25 h rfl (fun h => ?_) fun h => ?_
      ·refine qw 3 rfl (qp rfl (qp rfl (qe rfl ?_)))
       exact sn [] h
      ·refine qf Fv rfl (ql AX rfl (AP rfl (qp rfl (qp rfl (qe rfl ?_)))))
       exact sn [] h
     ·refine qw 4 rfl (qu rfl (qu rfl (qu rfl (qn rfl (qp rfl (qe rfl ?_))))))
      exact sn [] h
    ·refine qw 3 rfl (qp rfl (qw 5 rfl (qu rfl (qu rfl (qu rfl (qn rfl (qp rfl (qe rfl ?_))))))))
     exact sn [] h
   ·refine qw 3 rfl (qp rfl (qw 4 rfl (qp rfl (qw 5 rfl (qu rfl (qu rfl (qu rfl (qn rfl (qp rfl (qe rfl ?_))))))))))
    exact sn [] h
  ·refine qw 3 rfl (qp rfl (qw 4 rfl (qp rfl (qw 4 rfl (qp rfl (qw 5 rfl (qu rfl (qu rfl (qu rfl (qn rfl (qp rfl (qe rfl ?_))))))))))))
   exact sn [] h
 ·obtain rfl := sj h
  refine Af (sm [] [(2, bD v1)] [] rfl rfl) (Aq ?_)
  exact ⟨⟨[_], tm, rfl⟩, tv⟩
theorem Ga (N : Nat) (p0 : Int) (p1 : Int) (r : Bool) (h : Cm N p0 p1 = some r) : Ar zA 79 [pD (.val (.int .u8 p0)), iD p1] [] (bD r) := by
 unfold Cm at h
 refine cw (n := 10) (rs := [.tmp 4]) Tryz.func79 fun w0 S0 => ?_
 refine wq rfl (qa rfl (Ac (wq rfl (qw 2 rfl ?_))))
 refine HS h fun c1 h => K6 rfl c1 (Nr rfl (AP rfl (qe rfl ?_)))
 obtain rfl := sj h
 refine Af (sm [] [(4, bD (((Fz .u8 ((FP .u8 p0 p1)) 1) == 1)))] [] rfl rfl) (Aq ?_)
 exact ⟨⟨[_], tm, rfl⟩, tv⟩
theorem Ek (N : Nat) (p0 : Aa) (p1 : Ae) (p2 : Al) (r : Ae × Bool) (h : Bu N p0 p1 p2 = some r) : Ar zA 76 [.e (.agg (Ak p0)), .e (.agg (Bi p1)), .e (.agg (BR p2))] [(1, r.1.fh.map As), (1, r.1.ff.map As), (1, r.1.fg.map Dq)] (.tup [.agg [.own 0, .own 1, .own 2], .one (.pure (.val (.bool r.2)))]) := by
 unfold Bu at h
 refine cw (n := 201) (rs := [.cell 6 40, .tmp 7]) Tryz.func76 fun w0 S0 => ?_
 refine wq rfl (qb rfl (qb rfl (qb rfl (qz Do rfl (qa rfl (Ac (wq rfl (FO AB CL OC rfl (qf C3 rfl (ql Bf rfl ?_))))))))))
 refine HS h fun c1 h => Kz (f := As) AB AB CL Ro OC (fun _ => rfl) c1 rfl (FO AB CL OC rfl (qf BU rfl (ql Bf rfl ?_)))
 refine HS h fun c2 h => Kz (f := As) AB AB CL Ro OC (fun _ => rfl) c2 rfl (FO DT DW Ms rfl (qf CI rfl (ql G6 rfl ?_)))
 refine HS h fun c3 h => Kz (f := Dq) DT DT DW NK Ms (fun _ => rfl) c3 rfl (Bs Do G7 rfl (qz Do rfl (qs AV rfl (AG (by kernel_rfl) (wq rfl (qf DK rfl (ql AX rfl (qe rfl ?_))))))))
 refine AI h (fun v4 => mk [(6, oD (.ptr 6 0)), (8, oD (.ptr 8 0))] [(6, .box [.pure (.nil0), .pure (.nil0), .pure (.nil0)]), (8, .box [.own 2001, .own 2002, .own 2003]), (2001, .vec 1 (v4.1.map As)), (2002, .vec 1 (v4.2.1.map As)), (2003, .vec 1 (v4.2.2.map Dq))]) (fun j4 h => ?_) (fun v4 h => ?_)
 ·refine wq rfl (qf C5 rfl (ql AX rfl (Ac (AR (wq rfl (AP rfl (qe rfl ?_)))))))
  refine Bb h (fun h => ?_) fun h => ?_
  ·refine AS ?_
   refine AI h (fun v6 => mk [(3, oD (.ptr 3 0)), (5, oD (.ptr 5 0)), (6, oD (.ptr 6 0)), (8, oD (.ptr 8 0)), (9, iD p2.fm), (60, bD v6)] [(3, .box (Ak p0)), (5, .box (BR p2)), (6, .box [.pure (.nil0), .pure (.nil0), .pure (.nil0)]), (8, .box [.own 2004, .own 2005, .own 2006]), (2004, .vec 1 (((([] : List Int)) ++ p1.fh).map As)), (2005, .vec 1 (((([] : List Int)) ++ p1.ff).map As)), (2006, .vec 1 (((([] : List Int)) ++ p1.fg).map Dq))]) (fun j6 h => ?_) (fun v6 h => ?_)
   ·refine Aj Ax rfl (qf BU rfl (ql Bf rfl (qm rfl ?_)))
    refine BK h fun v7 a7 b7 h => qi AB CL a7 (Ah b7) rfl (qk AX rfl (Da rfl (qm rfl ?_)))
    refine Cv 51 h rfl (fun h => ?_) fun h => ?_
    ·refine qw 8 rfl (qp rfl (AG (by kernel_rfl) ?_))
     exact sn [(2004, 18), (2005, 22), (2006, 26)] h
    ·refine qf Fv rfl (ql AX rfl (qf C3 rfl (ql Bf rfl (qm rfl ?_))))
     refine BK h fun v9 a9 b9 h => qi AB CL a9 (Ah b9) rfl (qk AX rfl (AP rfl (qp rfl (AG (by kernel_rfl) ?_))))
     exact sn [(2004, 18), (2005, 22), (2006, 26)] h
   ·refine Bb h (fun h => ?_) fun h => ?_
    ·refine wq rfl (Bs Do G7 rfl (qs AV rfl (qe rfl ?_)))
     obtain rfl := sj h
     refine Af ((Az 6 0 2007 1 _ rfl rfl rfl rfl).trans ((Az 6 1 2008 1 _ rfl rfl rfl rfl).trans ((Az 6 2 2009 1 _ rfl rfl rfl rfl).trans (sm [(1000, 2007), (1001, 2008), (1002, 2009)] [(6, oD (.ptr 6 0)), (7, bD false)] [(6, .box [.own 1000, .own 1001, .own 1002]), (1000, .vec 1 ((([] : List Int)).map As)), (1001, .vec 1 ((([] : List Int)).map As)), (1002, .vec 1 ((([] : List Int)).map Dq))] rfl rfl)))) (Aq ?_)
     exact ⟨⟨[_, _], ⟨.cellN _ _ _ _ _ _ _ rfl rfl B1 AV rfl rfl (HL rfl), tm⟩, rfl⟩, ⟨rfl, rfl, rfl, tv⟩⟩
    ·refine Ap (wq rfl (qf BU rfl (ql Bf rfl (qm rfl (qf Fv rfl (ql AX rfl ?_))))))
     refine BK h fun v11 a11 b11 h => qI AB CL a11 (Ah b11) rfl ?_
     refine EI rfl rfl rfl rfl (Ah b11) rfl CL rfl (Hd rfl) (EF As ((([] : List Int)) ++ p1.ff) _ p2.fq) ?_
     refine Ac (wq rfl (qe rfl ?_))
     refine A5 (L := Bx N p0 p2) h (fun v12 => mk [(3, oD (.ptr 3 0)), (5, oD (.ptr 5 0)), (6, oD (.ptr 6 0)), (8, oD (.ptr 8 0)), (9, iD p2.fm), (10, iD v12.2)] [(3, .box (Ak p0)), (5, .box (BR p2)), (6, .box [.pure (.nil0), .pure (.nil0), .pure (.nil0)]), (8, .box [.own 2010, .own 2011, .own 2012]), (2010, .vec 1 (((([] : List Int)) ++ p1.fh).map As)), (2011, .vec 1 ((((([] : List Int)) ++ p1.ff).set ((p2.fm).toNat) p2.fq).map As)), (2012, .vec 1 (v12.1.map Dq))]) (fun v13 => mk [(6, oD (.ptr 6 0)), (8, oD (.ptr 8 0))] [(6, .box [.pure (.nil0), .pure (.nil0), .pure (.nil0)]), (8, .box [.own 2013, .own 2014, .own 2015]), (2013, .vec 1 (((([] : List Int)) ++ p1.fh).map As)), (2014, .vec 1 ((((([] : List Int)) ++ p1.ff).set ((p2.fm).toNat) p2.fq).map As)), (2015, .vec 1 (v13.map Dq))]) (fun _ _ => rfl) (sm [(2010, 2004), (2011, 2005), (2012, 2006)] _ _ rfl rfl) (fun j12 n12 v12 h => ?_) (fun v13 s h hs => ?_)
     ·unfold Bx at h
      refine wp rfl (qm rfl (qf BA rfl (ql EU rfl (AH CR rfl (A2 rfl (Ac ?_))))))
      refine Bb h (fun h => ?_) fun h => ?_
      ·refine Ap ?_
       refine AI h (fun v15 => mk [(3, oD (.ptr 3 0)), (5, oD (.ptr 5 0)), (6, oD (.ptr 6 0)), (8, oD (.ptr 8 0)), (9, iD p2.fm), (10, iD v12.2)] [(3, .box (Ak p0)), (5, .box (BR p2)), (6, .box [.pure (.nil0), .pure (.nil0), .pure (.nil0)]), (8, .box [.own 2016, .own 2017, .own 2018]), (2016, .vec 1 (((([] : List Int)) ++ p1.fh).map As)), (2017, .vec 1 ((((([] : List Int)) ++ p1.ff).set ((p2.fm).toNat) p2.fq).map As)), (2018, .vec 1 (v15.map Dq))]) (fun j15 h => ?_) (fun v15 h => ?_)
       ·refine AR ?_
        refine AI h (fun v16 => mk [(3, oD (.ptr 3 0)), (5, oD (.ptr 5 0)), (6, oD (.ptr 6 0)), (8, oD (.ptr 8 0)), (9, iD p2.fm), (10, iD v12.2), (90, bD v16)] [(3, .box (Ak p0)), (5, .box (BR p2)), (6, .box [.pure (.nil0), .pure (.nil0), .pure (.nil0)]), (8, .box [.own 2019, .own 2020, .own 2021]), (2019, .vec 1 (((([] : List Int)) ++ p1.fh).map As)), (2020, .vec 1 ((((([] : List Int)) ++ p1.ff).set ((p2.fm).toNat) p2.fq).map As)), (2021, .vec 1 (v12.1.map Dq))]) (fun j16 h => ?_) (fun v16 h => ?_)
        ·refine Aj Ax rfl (qf BA rfl (ql EU rfl (qm rfl ?_)))
         refine BK h fun v17 a17 b17 h => qi CR BM a17 (Ah b17) rfl (qg Ce rfl (qk AX rfl (qm rfl (AP rfl (qm rfl ?_)))))
         refine Cv 83 h rfl (fun h => ?_) fun h => ?_
         ·refine qf BA rfl (ql EU rfl (qm rfl ?_))
          refine BK h fun v19 a19 b19 h => qi CR BM a19 (Ah b19) rfl (qK Ey BM rfl ?_)
          refine B0 h fun v20 a20 h => Aw [] (B3 N v19 v20 a20) OL rfl (qp rfl (Ac ?_))
          exact sn [(2019, 2010), (2020, 2011), (2021, 2012)] h
         ·refine qw 6 rfl (qp rfl (Ac ?_))
          exact sn [(2019, 2010), (2020, 2011), (2021, 2012)] h
        ·refine Bb h (fun h => ?_) fun h => ?_
         ·refine Aj Ax rfl (qf CI rfl (ql G6 rfl (qm rfl (qf CI rfl (ql G6 rfl (qm rfl ?_))))))
          refine BK h fun v22 a22 b22 h => qI DT DW a22 (Ah b22) rfl (qj Hu (Ah b22) rfl (qf Fv rfl (ql AX rfl ?_)))
          refine HS h fun c23 h => It rfl c23 (S3 rfl ?_)
          refine BK h fun v24 a24 b24 h => qI DT DW a24 (Ah b24) rfl ?_
          refine EI rfl rfl rfl rfl (Ah b24) rfl DW rfl (Hd rfl) (EF Dq v12.1 _ ((Lo .u8 v22 ((DI .u8 1 p2.fq))))) ?_
          refine AG (by kernel_rfl) ?_
          exact sn [(2016, 2019), (2017, 2020), (2018, 2021)] h
         ·refine Ap ?_
          exact sn [(2016, 2019), (2017, 2020), (2018, 2021)] h
       ·refine Aj Ax rfl (qm rfl (Cl rfl (qe rfl ?_)))
        exact sn [(2010, 2016), (2011, 2017), (2012, 2018)] h
      ·refine BS ?_
       exact sn [(2013, 2010), (2014, 2011), (2015, 2012)] h
     ·exact Tr _ h (hs.trans (sm [(2001, 2013), (2002, 2014), (2003, 2015)] _ _ rfl rfl))
  ·refine wq rfl (AP rfl (qe rfl ?_))
   refine Bb h (fun h => ?_) fun h => ?_
   ·refine wp rfl (qf BU rfl (ql Bf rfl (qm rfl ?_)))
    refine BK h fun v26 a26 b26 h => qi AB CL a26 (Ah b26) rfl (qk AX rfl (A2 rfl (Ac ?_)))
    refine Bb h (fun h => ?_) fun h => ?_
    ·refine wq rfl (Bs Do G7 rfl (qs AV rfl (qe rfl ?_)))
     obtain rfl := sj h
     refine Af ((Az 6 0 2022 1 _ rfl rfl rfl rfl).trans ((Az 6 1 2023 1 _ rfl rfl rfl rfl).trans ((Az 6 2 2024 1 _ rfl rfl rfl rfl).trans (sm [(1000, 2022), (1001, 2023), (1002, 2024)] [(6, oD (.ptr 6 0)), (7, bD false)] [(6, .box [.own 1000, .own 1001, .own 1002]), (1000, .vec 1 ((([] : List Int)).map As)), (1001, .vec 1 ((([] : List Int)).map As)), (1002, .vec 1 ((([] : List Int)).map Dq))] rfl rfl)))) (Aq ?_)
     exact ⟨⟨[_, _], ⟨.cellN _ _ _ _ _ _ _ rfl rfl B1 AV rfl rfl (HL rfl), tm⟩, rfl⟩, ⟨rfl, rfl, rfl, tv⟩⟩
    ·refine Ap (Aj Ax rfl (qf C3 rfl (ql Bf rfl (qm rfl (qf BU rfl (ql Bf rfl (qm rfl (qf BU rfl (ql Bf rfl (qm rfl ?_))))))))))
     refine BK h fun v28 a28 b28 h => qi AB CL a28 (Ah b28) rfl (qk AX rfl ?_)
     refine BK h fun v29 a29 b29 h => qI AB CL a29 (Ah b29) rfl ?_
     refine EI rfl rfl rfl rfl (Ah b29) rfl CL rfl (Hd rfl) (EF As ((([] : List Int)) ++ p1.fh) _ v28) ?_
     refine BK h fun v30 a30 b30 h => qI AB CL a30 (Ah b30) rfl ?_
     refine EI rfl rfl rfl rfl (Ah b30) rfl CL rfl (Hd rfl) (EF As ((([] : List Int)) ++ p1.ff) _ ((-1))) ?_
     refine AG (by kernel_rfl) ?_
     exact sn [(2001, 18), (2002, 22), (2003, 26)] h
   ·refine wq rfl (AP rfl (qe rfl ?_))
    refine Bb h (fun h => ?_) fun h => ?_
    ·refine wq rfl (qf BA rfl (ql EU rfl (qm rfl ?_)))
     refine BK h fun v32 a32 b32 h => qi CR BM a32 (Ah b32) rfl (qK Ey BM rfl (qz I6 rfl (qs BM rfl (Ac (wp rfl (qL Ey BM rfl ?_))))))
     refine B0 h fun v33 a33 h => Aw [] (B3 N v32 v33 a33) OL rfl (Cb rfl (Ac ?_))
     refine Bb h (fun h => ?_) fun h => ?_
     ·refine wq rfl (Bs Do G7 rfl (qs AV rfl (qe rfl ?_)))
      obtain rfl := sj h
      refine Af ((Az 6 0 2025 1 _ rfl rfl rfl rfl).trans ((Az 6 1 2026 1 _ rfl rfl rfl rfl).trans ((Az 6 2 2027 1 _ rfl rfl rfl rfl).trans (sm [(1000, 2025), (1001, 2026), (1002, 2027)] [(6, oD (.ptr 6 0)), (7, bD false)] [(6, .box [.own 1000, .own 1001, .own 1002]), (1000, .vec 1 ((([] : List Int)).map As)), (1001, .vec 1 ((([] : List Int)).map As)), (1002, .vec 1 ((([] : List Int)).map Dq))] rfl rfl)))) (Aq ?_)
      exact ⟨⟨[_, _], ⟨.cellN _ _ _ _ _ _ _ rfl rfl B1 AV rfl rfl (HL rfl), tm⟩, rfl⟩, ⟨rfl, rfl, rfl, tv⟩⟩
     ·refine Ap (wq rfl (qL B1 AV rfl (qf Ce rfl (ql AX rfl ?_))))
      refine B0 h fun v35 a35 h => Aw [] (ES N p1 v32.fj v35 a35) U4 rfl (qa rfl (Ac (wp rfl (qf CI rfl (ql G6 rfl (qm rfl ?_))))))
      refine BK h fun v36 a36 b36 h => qi DT DW a36 (Ah b36) rfl (qk Hu rfl (qm rfl (AP rfl (Ac ?_))))
      refine Bb h (fun h => ?_) fun h => ?_
      ·refine wq rfl (Bs Do G7 rfl (qs AV rfl (qe rfl ?_)))
       obtain rfl := sj h
       refine Af ((Az 6 0 2028 1 _ rfl rfl rfl rfl).trans ((Az 6 1 2029 1 _ rfl rfl rfl rfl).trans ((Az 6 2 2030 1 _ rfl rfl rfl rfl).trans (sm [(1000, 2028), (1001, 2029), (1002, 2030)] [(6, oD (.ptr 6 0)), (7, bD false)] [(6, .box [.own 1000, .own 1001, .own 1002]), (1000, .vec 1 ((([] : List Int)).map As)), (1001, .vec 1 ((([] : List Int)).map As)), (1002, .vec 1 ((([] : List Int)).map Dq))] rfl rfl)))) (Aq ?_)
       exact ⟨⟨[_, _], ⟨.cellN _ _ _ _ _ _ _ rfl rfl B1 AV rfl rfl (HL rfl), tm⟩, rfl⟩, ⟨rfl, rfl, rfl, tv⟩⟩
      ·refine Ap (wp rfl (qe rfl ?_))
       refine A5 (L := Bg N p0 p1 p2 v32 v35) h (fun v38 => mk [(3, oD (.ptr 3 0)), (4, oD (.ptr 4 0)), (6, oD (.ptr 6 0)), (8, oD (.ptr 8 0)), (9, iD p2.fm), (11, oD (.ptr 11 0)), (12, pD (.val (.int .u8 v35))), (13, iD v38)] [(3, .box (Ak p0)), (4, .box (Bi p1)), (6, .box [.pure (.nil0), .pure (.nil0), .pure (.nil0)]), (8, .box [.own 2031, .own 2032, .own 2033]), (11, .box (CA v32)), (2031, .vec 1 (((([] : List Int)) ++ p1.fh).map As)), (2032, .vec 1 (((([] : List Int)) ++ p1.ff).map As)), (2033, .vec 1 (((([] : List Int)) ++ p1.fg).map Dq))]) (fun v39 => mk [(6, oD (.ptr 6 0)), (8, oD (.ptr 8 0)), (9, iD p2.fm), (12, pD (.val (.int .u8 v35)))] [(6, .box [.pure (.nil0), .pure (.nil0), .pure (.nil0)]), (8, .box [.own 2034, .own 2035, .own 2036]), (2034, .vec 1 (((([] : List Int)) ++ p1.fh).map As)), (2035, .vec 1 (((([] : List Int)) ++ p1.ff).map As)), (2036, .vec 1 (((([] : List Int)) ++ p1.fg).map Dq))]) (fun _ _ => rfl) (sm [(2031, 18), (2032, 22), (2033, 26)] _ _ rfl rfl) (fun j38 n38 v38 h => ?_) (fun v39 s h hs => ?_)
       ·unfold Bg at h
        refine wp rfl (qm rfl (qf BB rfl (ql Bf rfl (qf Ce rfl (ql AX rfl ?_)))))
        refine BK h fun v40 a40 b40 h => qi AB CL a40 (Ah b40) rfl (qk AX rfl (A2 rfl (Ac ?_)))
        refine Bb h (fun h => ?_) fun h => ?_
        ·refine Ap (AS (AR ?_))
         refine AI h (fun v42 => mk [(3, oD (.ptr 3 0)), (4, oD (.ptr 4 0)), (6, oD (.ptr 6 0)), (8, oD (.ptr 8 0)), (9, iD p2.fm), (11, oD (.ptr 11 0)), (12, pD (.val (.int .u8 v35))), (13, iD v38), (14, bD v42)] [(3, .box (Ak p0)), (4, .box (Bi p1)), (6, .box [.pure (.nil0), .pure (.nil0), .pure (.nil0)]), (8, .box [.own 2037, .own 2038, .own 2039]), (11, .box (CA v32)), (2037, .vec 1 (((([] : List Int)) ++ p1.fh).map As)), (2038, .vec 1 (((([] : List Int)) ++ p1.ff).map As)), (2039, .vec 1 (((([] : List Int)) ++ p1.fg).map Dq))]) (fun j42 h => ?_) (fun v42 h => ?_)
         ·refine Aj Ax rfl (qf CI rfl (ql G6 rfl (qm rfl ?_)))
          refine BK h fun v43 a43 b43 h => qi DT DW a43 (Ah b43) rfl (qk Hu rfl (qm rfl ?_))
          refine B0 h fun v44 a44 h => Aw [] (Ga N v43 v38 v44 a44) UJ rfl (qm rfl ?_)
          refine Cv 166 h rfl (fun h => ?_) fun h => ?_
          ·refine qw 2 rfl ?_
           refine B0 h fun v46 a46 h => Aw [] (Ga N v35 v38 v46 a46) UJ rfl (Cb rfl (qp rfl (qe rfl ?_)))
           exact sn [(2037, 2031), (2038, 2032), (2039, 2033)] h
          ·refine qw 4 rfl (qp rfl (qe rfl ?_))
           exact sn [(2037, 2031), (2038, 2032), (2039, 2033)] h
         ·refine AI h (fun v47 => mk [(3, oD (.ptr 3 0)), (4, oD (.ptr 4 0)), (6, oD (.ptr 6 0)), (8, oD (.ptr 8 0)), (9, iD p2.fm), (11, oD (.ptr 11 0)), (12, pD (.val (.int .u8 v35))), (13, iD v38), (193, bD v47)] [(3, .box (Ak p0)), (4, .box (Bi p1)), (6, .box [.pure (.nil0), .pure (.nil0), .pure (.nil0)]), (8, .box [.own 2040, .own 2041, .own 2042]), (11, .box (CA v32)), (2040, .vec 1 (((([] : List Int)) ++ p1.fh).map As)), (2041, .vec 1 (((([] : List Int)) ++ p1.ff).map As)), (2042, .vec 1 (((([] : List Int)) ++ p1.fg).map Dq))]) (fun j47 h => ?_) (fun v47 h => ?_)
          ·refine Aj Ax rfl (qw 2 rfl ?_)
           refine Cv 173 h rfl (fun h => ?_) fun h => ?_
           ·refine qf D1 rfl (ql AX rfl (AP rfl (qp rfl (qm rfl ?_))))
            refine Cv 178 h rfl (fun h => ?_) fun h => ?_
            ·refine qf D9 rfl (ql Fd rfl (qm rfl ?_))
             refine BK h fun v50 a50 b50 h => qi D2 JA a50 (Ah b50) rfl (qk JF rfl (qf C3 rfl (ql Bf rfl (qf Ce rfl (ql AX rfl ?_)))))
             refine BK h fun v51 a51 b51 h => qi AB CL a51 (Ah b51) rfl (qk AX rfl ?_)
             refine BK h fun v52 a52 b52 h => qi HR RH a52 (Ah b52) rfl (qk Q2 rfl (Cb rfl (qp rfl (AG (by kernel_rfl) ?_))))
             exact sn [(2040, 2037), (2041, 2038), (2042, 2039)] h
            ·refine qw 14 rfl (qp rfl (AG (by kernel_rfl) ?_))
             exact sn [(2040, 2037), (2041, 2038), (2042, 2039)] h
           ·refine qw 3 rfl (qp rfl (qw 15 rfl (qp rfl (AG (by kernel_rfl) ?_))))
            exact sn [(2040, 2037), (2041, 2038), (2042, 2039)] h
          ·refine Bb h (fun h => ?_) fun h => ?_
           ·refine wq rfl (Bs Do G7 rfl (qs AV rfl (qe rfl ?_)))
            obtain rfl := sj h
            refine Af ((Az 6 0 2043 1 _ rfl rfl rfl rfl).trans ((Az 6 1 2044 1 _ rfl rfl rfl rfl).trans ((Az 6 2 2045 1 _ rfl rfl rfl rfl).trans (sm [(1000, 2043), (1001, 2044), (1002, 2045)] [(6, oD (.ptr 6 0)), (7, bD false)] [(6, .box [.own 1000, .own 1001, .own 1002]), (1000, .vec 1 ((([] : List Int)).map As)), (1001, .vec 1 ((([] : List Int)).map As)), (1002, .vec 1 ((([] : List Int)).map Dq))] rfl rfl)))) (Aq ?_)
            exact ⟨⟨[_, _], ⟨.cellN _ _ _ _ _ _ _ rfl rfl B1 AV rfl rfl (HL rfl), tm⟩, rfl⟩, ⟨rfl, rfl, rfl, tv⟩⟩
           ·refine Ap (Aj Ax rfl (qm rfl (Cl rfl (qe rfl ?_))))
            exact sn [(2031, 2040), (2032, 2041), (2033, 2042)] h
        ·refine BS ?_
         exact sn [(2034, 2031), (2035, 2032), (2036, 2033)] h
       ·refine Af hs (Aj Ax rfl (qf CI rfl (ql G6 rfl (qw 2 rfl ?_))))
        refine BK h fun v54 a54 b54 h => qI DT DW a54 (Ah b54) rfl ?_
        refine EI rfl rfl rfl rfl (Ah b54) rfl DW rfl (Hd rfl) (EF Dq ((([] : List Int)) ++ p1.fg) _ v35) ?_
        refine Ac ?_
        exact sn [(2001, 2034), (2002, 2035), (2003, 2036)] h
    ·refine wp rfl (qf BU rfl (ql Bf rfl (qm rfl ?_)))
     refine BK h fun v55 a55 b55 h => qi AB CL a55 (Ah b55) rfl (qk AX rfl (A2 rfl (Ac ?_)))
     refine Bb h (fun h => ?_) fun h => ?_
     ·refine wq rfl (Bs Do G7 rfl (qs AV rfl (qe rfl ?_)))
      obtain rfl := sj h
      refine Af ((Az 6 0 2046 1 _ rfl rfl rfl rfl).trans ((Az 6 1 2047 1 _ rfl rfl rfl rfl).trans ((Az 6 2 2048 1 _ rfl rfl rfl rfl).trans (sm [(1000, 2046), (1001, 2047), (1002, 2048)] [(6, oD (.ptr 6 0)), (7, bD false)] [(6, .box [.own 1000, .own 1001, .own 1002]), (1000, .vec 1 ((([] : List Int)).map As)), (1001, .vec 1 ((([] : List Int)).map As)), (1002, .vec 1 ((([] : List Int)).map Dq))] rfl rfl)))) (Aq ?_)
      exact ⟨⟨[_, _], ⟨.cellN _ _ _ _ _ _ _ rfl rfl B1 AV rfl rfl (HL rfl), tm⟩, rfl⟩, ⟨rfl, rfl, rfl, tv⟩⟩
     ·refine Ap (Aj Ax rfl (qf BU rfl (ql Bf rfl (qm rfl ?_))))
      refine BK h fun v57 a57 b57 h => qI AB CL a57 (Ah b57) rfl ?_
      refine EI rfl rfl rfl rfl (Ah b57) rfl CL rfl (Hd rfl) (EF As ((([] : List Int)) ++ p1.ff) _ ((-1))) ?_
      refine Ac ?_
      exact sn [(2001, 18), (2002, 22), (2003, 26)] h
 ·refine wq rfl (qL B1 AV rfl (qs AV rfl (qe rfl ?_)))
  obtain rfl := sj h
  refine Af (sm [(1000, 2001), (1001, 2002), (1002, 2003)] [(6, oD (.ptr 6 0)), (7, bD true)] [(6, .box [.own 1000, .own 1001, .own 1002]), (1000, .vec 1 (v4.1.map As)), (1001, .vec 1 (v4.2.1.map As)), (1002, .vec 1 (v4.2.2.map Dq))] rfl rfl) (Aq ?_)
  exact ⟨⟨[_, _], ⟨.cellN _ _ _ _ _ _ _ rfl rfl B1 AV rfl rfl (HL rfl), tm⟩, rfl⟩, ⟨rfl, rfl, rfl, tv⟩⟩
theorem Jn (N : Nat) (p0 : Aa) (p1 : Ae) (p2 : Al) (r : Ae × Int) (h : DG N p0 p1 p2 = some r) : Ar zA 118 [.e (.agg (Ak p0)), .e (.agg (Bi p1)), .e (.agg (BR p2))] [(1, r.1.fh.map As), (1, r.1.ff.map As), (1, r.1.fg.map Dq)] (.tup [.agg [.own 0, .own 1, .own 2], .one (iC r.2)]) := by
 unfold DG at h
 refine cw (n := 73) (rs := [.cell 6 40, .tmp 7]) Tryz.func118 fun w0 S0 => ?_
 refine wq rfl (qb rfl (qb rfl (qb rfl (qz Do rfl (qa rfl (Ac (wp rfl (qL Dg C8 rfl (qL B1 AV rfl ?_)))))))))
 refine B0 h fun v1 a1 h => Aw [] (GT N p0 p1 v1 a1) Vy rfl (qa rfl (Ac (wq rfl (qm rfl (BE rfl (Ac ?_))))))
 refine Bb h (fun h => ?_) fun h => ?_
 ·refine wq rfl (Bs Do G7 rfl (qm rfl (qs AV rfl (qe rfl ?_))))
  obtain rfl := sj h
  refine Af ((Az 6 0 2001 1 _ rfl rfl rfl rfl).trans ((Az 6 1 2002 1 _ rfl rfl rfl rfl).trans ((Az 6 2 2003 1 _ rfl rfl rfl rfl).trans (sm [(1000, 2001), (1001, 2002), (1002, 2003)] [(6, oD (.ptr 6 0)), (7, iD v1)] [(6, .box [.own 1000, .own 1001, .own 1002]), (1000, .vec 1 ((([] : List Int)).map As)), (1001, .vec 1 ((([] : List Int)).map As)), (1002, .vec 1 ((([] : List Int)).map Dq))] rfl rfl)))) (Aq ?_)
  exact ⟨⟨[_, _], ⟨.cellN _ _ _ _ _ _ _ rfl rfl B1 AV rfl rfl (HL rfl), tm⟩, rfl⟩, ⟨rfl, rfl, rfl, tv⟩⟩
 ·refine Ap (wp rfl (qL Iw FR rfl ?_))
  refine B0 h fun v3 a3 h => Aw [] (Jm N p2 v3 a3) WL rfl (Cb rfl (Ac ?_))
  refine Bb h (fun h => ?_) fun h => ?_
  ·refine wq rfl (Bs Do G7 rfl (qs AV rfl (qe rfl ?_)))
   obtain rfl := sj h
   refine Af ((Az 6 0 2004 1 _ rfl rfl rfl rfl).trans ((Az 6 1 2005 1 _ rfl rfl rfl rfl).trans ((Az 6 2 2006 1 _ rfl rfl rfl rfl).trans (sm [(1000, 2004), (1001, 2005), (1002, 2006)] [(6, oD (.ptr 6 0)), (7, iD 1)] [(6, .box [.own 1000, .own 1001, .own 1002]), (1000, .vec 1 ((([] : List Int)).map As)), (1001, .vec 1 ((([] : List Int)).map As)), (1002, .vec 1 ((([] : List Int)).map Dq))] rfl rfl)))) (Aq ?_)
   exact ⟨⟨[_, _], ⟨.cellN _ _ _ _ _ _ _ rfl rfl B1 AV rfl rfl (HL rfl), tm⟩, rfl⟩, ⟨rfl, rfl, rfl, tv⟩⟩
  ·refine Ap (AS ?_)
   refine AI h (fun v5 => mk [(3, oD (.ptr 3 0)), (4, oD (.ptr 4 0)), (5, oD (.ptr 5 0)), (6, oD (.ptr 6 0)), (45, bD v5)] [(3, .box (Ak p0)), (4, .box (Bi p1)), (5, .box (BR p2)), (6, .box [.pure (.nil0), .pure (.nil0), .pure (.nil0)])]) (fun j5 h => ?_) (fun v5 h => ?_)
   ·refine Aj Ax rfl (qf C5 rfl (ql AX rfl (AP rfl (qm rfl ?_))))
    refine Cv 25 h rfl (fun h => ?_) fun h => ?_
    ·refine qf DK rfl (ql AX rfl (qf BA rfl (ql EU rfl (AH CR rfl (Da rfl (qp rfl (qm rfl ?_)))))))
     refine Cv 33 h rfl (fun h => ?_) fun h => ?_
     ·refine qw 4 rfl (qu rfl (qu rfl (qu rfl (qu rfl (qu rfl (qu rfl (qn rfl (qp rfl (Ac ?_)))))))))
      exact sn [] h
     ·refine qf C5 rfl (ql AX rfl (BE rfl (qm rfl ?_)))
      refine Cv 37 h rfl (fun h => ?_) fun h => ?_
      ·refine qf DK rfl (ql AX rfl (qf BB rfl (ql Bf rfl (AH AB rfl (Da rfl (qp rfl (qp rfl (Ac ?_))))))))
       exact sn [] h
      ·refine qw 6 rfl (qp rfl (qp rfl (Ac ?_)))
       exact sn [] h
    ·refine qw 6 rfl (qp rfl (qm rfl (qf C5 rfl (ql AX rfl (BE rfl (qm rfl ?_))))))
     refine Cv 37 h rfl (fun h => ?_) fun h => ?_
     ·refine qf DK rfl (ql AX rfl (qf BB rfl (ql Bf rfl (AH AB rfl (Da rfl (qp rfl (qp rfl (Ac ?_))))))))
      exact sn [] h
     ·refine qw 6 rfl (qp rfl (qp rfl (Ac ?_)))
      exact sn [] h
   ·refine Bb h (fun h => ?_) fun h => ?_
    ·refine wq rfl (Bs Do G7 rfl (qs AV rfl (qe rfl ?_)))
     obtain rfl := sj h
     refine Af ((Az 6 0 2007 1 _ rfl rfl rfl rfl).trans ((Az 6 1 2008 1 _ rfl rfl rfl rfl).trans ((Az 6 2 2009 1 _ rfl rfl rfl rfl).trans (sm [(1000, 2007), (1001, 2008), (1002, 2009)] [(6, oD (.ptr 6 0)), (7, iD 4)] [(6, .box [.own 1000, .own 1001, .own 1002]), (1000, .vec 1 ((([] : List Int)).map As)), (1001, .vec 1 ((([] : List Int)).map As)), (1002, .vec 1 ((([] : List Int)).map Dq))] rfl rfl)))) (Aq ?_)
     exact ⟨⟨[_, _], ⟨.cellN _ _ _ _ _ _ _ rfl rfl B1 AV rfl rfl (HL rfl), tm⟩, rfl⟩, ⟨rfl, rfl, rfl, tv⟩⟩
    ·refine Ap (AS ?_)
     refine AI h (fun v11 => mk [(3, oD (.ptr 3 0)), (4, oD (.ptr 4 0)), (5, oD (.ptr 5 0)), (6, oD (.ptr 6 0)), (60, bD v11)] [(3, .box (Ak p0)), (4, .box (Bi p1)), (5, .box (BR p2)), (6, .box [.pure (.nil0), .pure (.nil0), .pure (.nil0)])]) (fun j11 h => ?_) (fun v11 h => ?_)
     ·refine Aj Ax rfl (qf C5 rfl (ql AX rfl (AP rfl (qm rfl ?_))))
      refine Cv 50 h rfl (fun h => ?_) fun h => ?_
      ·refine qf Fv rfl (ql AX rfl (qf BB rfl (ql Bf rfl (qf DK rfl (ql AX rfl ?_)))))
       refine BK h fun v13 a13 b13 h => qi AB CL a13 (Ah b13) rfl (qk AX rfl (Da rfl (qp rfl (AG (by kernel_rfl) ?_))))
       exact sn [] h
      ·refine qw 9 rfl (qp rfl (AG (by kernel_rfl) ?_))
       exact sn [] h
     ·refine Bb h (fun h => ?_) fun h => ?_
      ·refine wq rfl (Bs Do G7 rfl (qs AV rfl (qe rfl ?_)))
       obtain rfl := sj h
       refine Af ((Az 6 0 2010 1 _ rfl rfl rfl rfl).trans ((Az 6 1 2011 1 _ rfl rfl rfl rfl).trans ((Az 6 2 2012 1 _ rfl rfl rfl rfl).trans (sm [(1000, 2010), (1001, 2011), (1002, 2012)] [(6, oD (.ptr 6 0)), (7, iD 4)] [(6, .box [.own 1000, .own 1001, .own 1002]), (1000, .vec 1 ((([] : List Int)).map As)), (1001, .vec 1 ((([] : List Int)).map As)), (1002, .vec 1 ((([] : List Int)).map Dq))] rfl rfl)))) (Aq ?_)
       exact ⟨⟨[_, _], ⟨.cellN _ _ _ _ _ _ _ rfl rfl B1 AV rfl rfl (HL rfl), tm⟩, rfl⟩, ⟨rfl, rfl, rfl, tv⟩⟩
      ·refine Ap (wq rfl (qL Dg C8 rfl (qL B1 AV rfl (qL Iw FR rfl ?_))))
       refine B0 h fun v15 a15 h => Aw [2013, 2014, 2015] (Ek N p0 p1 p2 v15 a15) Tm rfl (qm rfl (qx rfl (qx rfl (qz Do rfl (qs AV rfl (qa rfl (Ac (wp rfl (qm rfl (Cb rfl (Ac ?_)))))))))))
       refine Bb h (fun h => ?_) fun h => ?_
       ·refine wq rfl (Bs Do G7 rfl (qs AV rfl (qe rfl ?_)))
        obtain rfl := sj h
        refine Af ((Az 6 0 2016 1 _ rfl rfl rfl rfl).trans ((Az 6 1 2017 1 _ rfl rfl rfl rfl).trans ((Az 6 2 2018 1 _ rfl rfl rfl rfl).trans (sm [(1000, 2016), (1001, 2017), (1002, 2018)] [(6, oD (.ptr 6 0)), (7, iD 11)] [(6, .box [.own 1000, .own 1001, .own 1002]), (1000, .vec 1 ((([] : List Int)).map As)), (1001, .vec 1 ((([] : List Int)).map As)), (1002, .vec 1 ((([] : List Int)).map Dq))] rfl rfl)))) (Aq ?_)
        exact ⟨⟨[_, _], ⟨.cellN _ _ _ _ _ _ _ rfl rfl B1 AV rfl rfl (HL rfl), tm⟩, rfl⟩, ⟨rfl, rfl, rfl, tv⟩⟩
       ·refine Ap (wq rfl (qL B1 AV rfl (qs AV rfl (qe rfl ?_))))
        obtain rfl := sj h
        refine Af (sm [(1000, 2013), (1001, 2014), (1002, 2015)] [(6, oD (.ptr 6 0)), (7, iD 0)] [(6, .box [.own 1000, .own 1001, .own 1002]), (1000, .vec 1 (v15.1.fh.map As)), (1001, .vec 1 (v15.1.ff.map As)), (1002, .vec 1 (v15.1.fg.map Dq))] rfl rfl) (Aq ?_)
        exact ⟨⟨[_, _], ⟨.cellN _ _ _ _ _ _ _ rfl rfl B1 AV rfl rfl (HL rfl), tm⟩, rfl⟩, ⟨rfl, rfl, rfl, tv⟩⟩
theorem J4 (N : Nat) (p0 : Aa) (p1 : Ae) (p2 : List Al) (r : (List Ae) × Int × Int) (h : Dl N p0 p1 p2 = some r) : Ar zA 83 [.e (.agg (Ak p0)), .e (.agg (Bi p1)), pD (.sl (p2.map AN))] [(3, r.1.map EY)] (.tup [.one (.own 0), .one (iC r.2.1), .one (iC r.2.2)]) := by
 unfold Dl at h
 refine cw (n := 52) (rs := [.tmp 6, .tmp 7, .tmp 8]) Tryz.func83 fun w0 S0 => ?_
 refine wq rfl (qb rfl (qb rfl (qa rfl (qa rfl (qa rfl (Ac (wp rfl (qL Dg C8 rfl (qL B1 AV rfl ?_)))))))))
 refine B0 h fun v1 a1 h => Aw [] (GT N p0 p1 v1 a1) Vy rfl (qa rfl (Ac (wq rfl (qm rfl (BE rfl (Ac ?_))))))
 refine Bb h (fun h => ?_) fun h => ?_
 ·refine wq rfl (qm rfl (qa rfl (qa rfl (qe rfl ?_))))
  obtain rfl := sj h
  refine Af ((Fx 6 2001 3 rfl rfl rfl).trans (sm [(1000, 2001)] [(6, oD (.own 1000)), (7, iD 0), (8, iD v1)] [(1000, .vec 3 ((([] : List Ae)).map EY))] rfl rfl)) (Aq ?_)
  exact ⟨⟨[_, _, _], ⟨.tmp _ _ rfl, ⟨.tmp _ _ rfl, tm⟩⟩, rfl⟩, ⟨rfl, tv⟩⟩
 ·refine Ap (wq rfl (qL B1 AV rfl (FO HJ AV Do rfl (qa rfl (Ac (wp rfl (qe rfl ?_)))))))
  refine A5 (L := CB N p0 p2) h (fun v3 => mk [(2, pD (.sl (p2.map AN))), (3, oD (.ptr 3 0)), (10, oD (.own 2002)), (11, iD v3.2)] [(3, .box (Ak p0)), (2002, .vec 3 (v3.1.map EY))]) (fun v4 => mk [(2, pD (.sl (p2.map AN))), (10, oD (.own 2003))] [(2003, .vec 3 (v4.map EY))]) (fun _ _ => rfl) (sm [(2002, 21)] _ _ rfl rfl) (fun j3 n3 v3 h => ?_) (fun v4 s h hs => ?_)
  ·unfold CB at h
   refine wp rfl (qw 2 rfl (AH F4 rfl (A2 rfl (Ac ?_))))
   refine Bb h (fun h => ?_) fun h => ?_
   ·refine Ap (AS (AR (wq rfl (qL Dg C8 rfl (qw 2 rfl ?_)))))
    refine BK h fun v6 a6 b6 h => qI HJ AV a6 (Ah b6) rfl (qJ B1 AV (Ah b6) rfl (qw 2 rfl ?_))
    refine BK h fun v7 a7 b7 h => qi F4 FR a7 (Ah b7) rfl (qK Iw FR rfl ?_)
    refine B0 h fun v8 a8 h => Aw [2004, 2005, 2006] (Jn N p0 v6 v7 v8 a8) V1 rfl (qm rfl (qx rfl (qx rfl (qz Do rfl (qs AV rfl (qa rfl (AG (by kernel_rfl) (wp rfl (qm rfl (BE rfl (Ac ?_)))))))))))
    refine Bb h (fun h => ?_) fun h => ?_
    ·refine wq rfl (qw 2 rfl (qa rfl (qa rfl (qe rfl ?_))))
     obtain rfl := sj h
     refine Af ((Fx 6 2007 3 rfl rfl rfl).trans (sm [(1000, 2007)] [(6, oD (.own 1000)), (7, iD v3.2), (8, iD v8.2)] [(1000, .vec 3 ((([] : List Ae)).map EY))] rfl rfl)) (Aq ?_)
     exact ⟨⟨[_, _, _], ⟨.tmp _ _ rfl, ⟨.tmp _ _ rfl, tm⟩⟩, rfl⟩, ⟨rfl, tv⟩⟩
    ·refine Ap (Aj Ax rfl (qm rfl (qL B1 AV rfl (FJ (A8 2004 _ _ rfl rfl) (FJ (A8 2005 _ _ rfl rfl) (FJ (A8 2006 _ _ rfl rfl) (FO HJ AV Do rfl ?_)))))))
     refine HS h fun c10 h => LN (f := EY) HJ HJ AV UE Do c10 rfl (qa rfl (Ac (Aj Ax rfl (qm rfl (Cl rfl (qe rfl ?_))))))
     exact sn [(2002, 48)] h
   ·refine BS ?_
    exact sn [(2003, 2002)] h
  ·refine Af hs (wq rfl (qw 2 rfl (AH F4 rfl (qa rfl (qa rfl (qe rfl ?_))))))
   obtain rfl := sj h
   refine Af (sm [(1000, 2003)] [(6, oD (.own 1000)), (7, iD ((p2.length : Int))), (8, iD 0)] [(1000, .vec 3 (v4.map EY))] rfl rfl) (Aq ?_)
   exact ⟨⟨[_, _, _], ⟨.tmp _ _ rfl, ⟨.tmp _ _ rfl, tm⟩⟩, rfl⟩, ⟨rfl, tv⟩⟩
theorem Jp (N : Nat) (p0 : Aa) (p1 : List Al) (r : Int) (h : DE N p0 p1 = some r) : Ar zA 40 [.e (.agg (Ak p0)), pD (.sl (p1.map AN))] [] (iD r) := by
 unfold DE at h
 refine cw (n := 37) (rs := [.tmp 4]) Tryz.func40 fun w0 S0 => ?_
 refine wq rfl (qb rfl (qa rfl (Ac (wq rfl (qL Dg C8 rfl ?_)))))
 refine B0 h fun v1 a1 h => Aw [2001, 2002, 2003] (GY N p0 v1 a1) VI rfl (qm rfl (qx rfl (qx rfl (qz Do rfl (qs AV rfl (qa rfl (Ac (wp rfl (qm rfl (BE rfl (Ac ?_)))))))))))
 refine Bb h (fun h => ?_) fun h => ?_
 ·refine wq rfl (qm rfl (qe rfl ?_))
  obtain rfl := sj h
  refine Af (sm [] [(4, iD v1.2)] [] rfl rfl) (Aq ?_)
  exact ⟨⟨[_], tm, rfl⟩, tv⟩
 ·refine Ap (wp rfl (qe rfl ?_))
  refine A5 (L := Cg N p1) h (fun v3 => mk [(1, pD (.sl (p1.map AN))), (2, oD (.ptr 2 0)), (5, oD (.ptr 5 0)), (7, iD v3)] [(2, .box (Ak p0)), (5, .box [.own 2004, .own 2005, .own 2006]), (2004, .vec 1 (v1.1.fh.map As)), (2005, .vec 1 (v1.1.ff.map As)), (2006, .vec 1 (v1.1.fg.map Dq))]) (fun v4 => mk [(1, pD (.sl (p1.map AN))), (2, oD (.ptr 2 0)), (5, oD (.ptr 5 0))] [(2, .box (Ak p0)), (5, .box [.own 2007, .own 2008, .own 2009]), (2007, .vec 1 (v1.1.fh.map As)), (2008, .vec 1 (v1.1.ff.map As)), (2009, .vec 1 (v1.1.fg.map Dq))]) (fun _ _ => rfl) (sm [(2004, 2001), (2005, 2002), (2006, 2003)] _ _ rfl rfl) (fun j3 n3 v3 h => ?_) (fun v4 s h hs => ?_)
  ·unfold Cg at h
   refine wp rfl (qw 2 rfl (AH F4 rfl (A2 rfl (Ac ?_))))
   refine Bb h (fun h => ?_) fun h => ?_
   ·refine Ap (AS (AR (wq rfl (qw 2 rfl ?_))))
    refine BK h fun v6 a6 b6 h => qi F4 FR a6 (Ah b6) rfl (qg C5 rfl (qk AX rfl (AP rfl (Ac ?_))))
    refine Bb h (fun h => ?_) fun h => ?_
    ·refine wq rfl (qe rfl ?_)
     obtain rfl := sj h
     refine Af (sm [] [(4, iD 1)] [] rfl rfl) (Aq ?_)
     exact ⟨⟨[_], tm, rfl⟩, tv⟩
    ·refine Ap (Aj Ax rfl (qm rfl (Cl rfl (qe rfl ?_))))
     exact sn [] h
   ·refine BS ?_
    exact sn [(2007, 2004), (2008, 2005), (2009, 2006)] h
  ·refine Af hs (wq rfl (qL Dg C8 rfl (qL B1 AV rfl (qm rfl (FJ (A8 2007 _ _ rfl rfl) (FJ (A8 2008 _ _ rfl rfl) (FJ (A8 2009 _ _ rfl rfl) ?_)))))))
   refine B0 h fun v8 a8 h => Aw [2010] (J4 N p0 v1.1 p1 v8 a8) Xb rfl (qm rfl (qx rfl (qx rfl (qx rfl (qa rfl (Ac (wq rfl (qm rfl (qe rfl ?_)))))))))
   obtain rfl := sj h
   refine Af (sm [] [(4, iD v8.2.2)] [] rfl rfl) (Aq ?_)
   exact ⟨⟨[_], tm, rfl⟩, tv⟩
theorem I0 (N : Nat) (p0 : Ab) (r : (List Int)) (h : CD N p0 = some r) : Ar zA 106 [.e (.agg (AO p0))] [(1, r.map As)] (oD (.own 0)) := by
 unfold CD at h
 refine cw (n := 35) (rs := [.tmp 2]) Tryz.func106 fun w0 S0 => ?_
 refine wq rfl (qb rfl (qa rfl (Ac (wp rfl (qf Ca rfl (ql AX rfl (Ac (AR (wq rfl (AP rfl (qe rfl ?_)))))))))))
 refine Bb h (fun h => ?_) fun h => ?_
 ·refine wq rfl (qf Fw rfl (ql AX rfl (qf Ft rfl (ql AX rfl (qf Gy rfl (ql AX rfl (FO Cu IB Ub rfl (qe rfl ?_))))))))
  obtain rfl := sj h
  refine Af (sm [(1000, 13)] [(2, oD (.own 1000))] [(1000, .vec 1 ((([p0.fv, p0.fw, p0.fC] : List Int)).map As))] rfl rfl) (Aq ?_)
  exact ⟨⟨[_], tm, rfl⟩, ⟨rfl, tv⟩⟩
 ·refine wq rfl (AP rfl (qe rfl ?_))
  refine Bb h (fun h => ?_) fun h => ?_
  ·refine wq rfl (qf Gw rfl (ql AX rfl (qf Ji rfl (ql AX rfl (qf HI rfl (ql AX rfl (FO Cu IB Ub rfl (qe rfl ?_))))))))
   obtain rfl := sj h
   refine Af (sm [(1000, 22)] [(2, oD (.own 1000))] [(1000, .vec 1 ((([p0.ft, p0.fq, p0.fD] : List Int)).map As))] rfl rfl) (Aq ?_)
   exact ⟨⟨[_], tm, rfl⟩, ⟨rfl, tv⟩⟩
  ·refine wq rfl (AP rfl (qe rfl ?_))
   refine Bb h (fun h => ?_) fun h => ?_
   ·refine wq rfl (qf Kn rfl (ql AX rfl (qf Ej rfl (ql Hx rfl (FO Cu IB Ub rfl (qe rfl ?_))))))
    obtain rfl := sj h
    refine Af (sm [(1000, 29)] [(2, oD (.own 1000))] [(1000, .vec 1 ((([p0.fN, p0.fu] : List Int)).map As))] rfl rfl) (Aq ?_)
    exact ⟨⟨[_], tm, rfl⟩, ⟨rfl, tv⟩⟩
   ·refine Ap (wq rfl (qf Ja rfl (ql AX rfl (qf Ej rfl (ql Hx rfl (FO Cu IB Ub rfl (qe rfl ?_)))))))
    obtain rfl := sj h
    refine Af (sm [(1000, 34)] [(2, oD (.own 1000))] [(1000, .vec 1 ((([p0.fm, p0.fu] : List Int)).map As))] rfl rfl) (Aq ?_)
    exact ⟨⟨[_], tm, rfl⟩, ⟨rfl, tv⟩⟩
theorem JV (N : Nat) (p0 : Int) (p1 : Int) (p2 : List Int) (r : Ab) (h : Cx N p0 p1 p2 = some r) : Ar zA 107 [iD p0, iD p1, pD (.sl (p2.map As))] [] (.e (.agg (AO r))) := by
 unfold Cx at h
 refine cw (n := 59) (rs := [.cell 6 37]) Tryz.func107 fun w0 S0 => ?_
 refine wq rfl (qz IF rfl (Ac (wq rfl (qw 2 rfl (Bs IF RB rfl (qz IF rfl (qs CV rfl (Ac ?_))))))))
 refine AI h (fun v1 => mk [(6, oD (.ptr 6 0)), (7, oD (.ptr 7 0))] [(6, .box [iC 0, iC 0, iC 0, iC 0, iC 0, iC 0, iC 0, iC 0, iC 0, iC 0, iC 0]), (7, .box [iC p0, iC p1, iC v1.1, iC v1.2.1, iC v1.2.2.1, iC v1.2.2.2.1, iC v1.2.2.2.2.1, iC v1.2.2.2.2.2.1, iC v1.2.2.2.2.2.2.1, iC v1.2.2.2.2.2.2.2.1, iC v1.2.2.2.2.2.2.2.2])]) (fun j1 h => ?_) (fun v1 h => ?_)
 ·refine wq rfl (qm rfl (Ac (AR (wq rfl (AP rfl (qe rfl ?_))))))
  refine Bb h (fun h => ?_) fun h => ?_
  ·refine Aj Ax rfl (qm rfl ?_)
   refine BK h fun v3 a3 b3 h => qi Cu IB a3 (Ah b3) rfl (qk Hx rfl (qm rfl ?_))
   refine BK h fun v4 a4 b4 h => qi Cu IB a4 (Ah b4) rfl (qk Hx rfl (qm rfl ?_))
   refine BK h fun v5 a5 b5 h => qi Cu IB a5 (Ah b5) rfl (qk Hx rfl (qf Fw rfl (qs CL rfl (qf Ft rfl (qs CL rfl (qf Gy rfl (qs CL rfl (AG (by kernel_rfl) ?_))))))))
   exact sn [] h
  ·refine wq rfl (AP rfl (qe rfl ?_))
   refine Bb h (fun h => ?_) fun h => ?_
   ·refine Aj Ax rfl (qm rfl ?_)
    refine BK h fun v7 a7 b7 h => qi Cu IB a7 (Ah b7) rfl (qk Hx rfl (qm rfl ?_))
    refine BK h fun v8 a8 b8 h => qi Cu IB a8 (Ah b8) rfl (qk Hx rfl (qm rfl ?_))
    refine BK h fun v9 a9 b9 h => qi Cu IB a9 (Ah b9) rfl (qk Hx rfl (qf Gw rfl (qs CL rfl (qf Ji rfl (qs CL rfl (qf HI rfl (qs CL rfl (AG (by kernel_rfl) ?_))))))))
    exact sn [] h
   ·refine wq rfl (AP rfl (qe rfl ?_))
    refine Bb h (fun h => ?_) fun h => ?_
    ·refine Aj Ax rfl (qm rfl ?_)
     refine BK h fun v11 a11 b11 h => qi Cu IB a11 (Ah b11) rfl (qk Hx rfl (qm rfl ?_))
     refine BK h fun v12 a12 b12 h => qi Cu IB a12 (Ah b12) rfl (qk Hx rfl (qf Kn rfl (qs CL rfl (qf Ej rfl (qs IB rfl (AG (by kernel_rfl) ?_))))))
     exact sn [] h
    ·refine Aj Ax rfl (qm rfl ?_)
     refine BK h fun v13 a13 b13 h => qi Cu IB a13 (Ah b13) rfl (qk Hx rfl (qm rfl ?_))
     refine BK h fun v14 a14 b14 h => qi Cu IB a14 (Ah b14) rfl (qk Hx rfl (qf Ja rfl (qs CL rfl (qf Ej rfl (qs IB rfl (AG (by kernel_rfl) ?_))))))
     exact sn [] h
 ·refine wq rfl (qL E7 CV rfl (qs CV rfl (Ac ?_)))
  obtain rfl := sj h
  refine Af (sm [] [(6, oD (.ptr 6 0))] [(6, .box [iC p0, iC p1, iC v1.1, iC v1.2.1, iC v1.2.2.1, iC v1.2.2.2.1, iC v1.2.2.2.2.1, iC v1.2.2.2.2.2.1, iC v1.2.2.2.2.2.2.1, iC v1.2.2.2.2.2.2.2.1, iC v1.2.2.2.2.2.2.2.2])] rfl rfl) (Aq ?_)
  exact ⟨⟨[_], ⟨.cellN _ _ _ _ _ _ _ rfl rfl E7 CV rfl rfl (HL rfl), tv⟩, rfl⟩, tv⟩
theorem Jw (N : Nat) (p0 : Ab) (r : Bool) (h : Dw N p0 = some r) : Ar zA 70 [.e (.agg (AO p0))] [] (bD r) := by
 unfold Dw at h
 refine cw (n := 39) (rs := [.tmp 2]) Tryz.func70 fun w0 S0 => ?_
 refine wq rfl (qb rfl (qa rfl (Ac (AS ?_))))
 refine AI h (fun v1 => mk [(1, oD (.ptr 1 0)), (17, bD v1)] [(1, .box (AO p0))]) (fun j1 h => ?_) (fun v1 h => ?_)
 ·refine Aj Ax rfl (qf Ca rfl (ql AX rfl (A2 rfl (qm rfl ?_))))
  refine Cv 8 h rfl (fun h => ?_) fun h => ?_
  ·refine qw 3 rfl (qp rfl (qw 4 rfl (qp rfl (Ac ?_))))
   exact sn [] h
  ·refine qf Ca rfl (ql AX rfl (Eh rfl (qp rfl (qm rfl ?_))))
   refine Cv 13 h rfl (fun h => ?_) fun h => ?_
   ·refine qw 3 rfl (qp rfl (Ac ?_))
    exact sn [] h
   ·refine qf G4 rfl (ql Hx rfl (A2 rfl (qp rfl (Ac ?_))))
    exact sn [] h
 ·refine Bb h (fun h => ?_) fun h => ?_
  ·refine wq rfl (qe rfl ?_)
   obtain rfl := sj h
   refine Af (sm [] [(2, bD false)] [] rfl rfl) (Aq ?_)
   exact ⟨⟨[_], tm, rfl⟩, tv⟩
  ·refine Ap (wq rfl (qL E7 CV rfl ?_))
   refine B0 h fun v5 a5 h => Aw [2001] (I0 N p0 v5 a5) WQ rfl (qa rfl (Ac (wp rfl (qe rfl ?_))))
   refine A5 (L := BX N v5) h (fun v6 => mk [(1, oD (.ptr 1 0)), (3, oD (.own 2002)), (4, iD v6)] [(1, .box (AO p0)), (2002, .vec 1 (v5.map As))]) (fun v7 => mk [(1, oD (.ptr 1 0)), (3, oD (.own 2003))] [(1, .box (AO p0)), (2003, .vec 1 (v5.map As))]) (fun _ _ => rfl) (sm [(2002, 2001)] _ _ rfl rfl) (fun j6 n6 v6 h => ?_) (fun v7 s h hs => ?_)
   ·unfold BX at h
    refine wp rfl (qw 2 rfl (Qa Cu rfl (A2 rfl (Ac ?_))))
    refine Bb h (fun h => ?_) fun h => ?_
    ·refine Ap (AS (AR (wq rfl (qw 2 rfl ?_))))
     refine BK h fun v9 a9 b9 h => qI Cu IB a9 (Ah b9) rfl (qj Hx (Ah b9) rfl (A2 rfl (Ac ?_)))
     refine Bb h (fun h => ?_) fun h => ?_
     ·refine wq rfl (qe rfl ?_)
      obtain rfl := sj h
      refine Af (sm [] [(2, bD false)] [] rfl rfl) (Aq ?_)
      exact ⟨⟨[_], tm, rfl⟩, tv⟩
     ·refine Ap (Aj Ax rfl (qm rfl (Cl rfl (qe rfl ?_))))
      exact sn [] h
    ·refine BS ?_
     exact sn [(2003, 2002)] h
   ·refine Af hs (wq rfl (qf G4 rfl (ql Hx rfl (qf Ca rfl (ql AX rfl (qm rfl ?_))))))
    refine B0 h fun v11 a11 h => HF [] [2003] (JV N p0.fi p0.fa v5 v11 a11) WI FI rfl (qL E7 CV rfl ?_)
    refine UF [.int .i64 v11.fi, .int .i64 v11.fa, .int .i64 v11.fv, .int .i64 v11.fw, .int .i64 v11.fC, .int .i64 v11.fm, .int .i64 v11.fu, .int .i64 v11.fD, .int .i64 v11.ft, .int .i64 v11.fq, .int .i64 v11.fN] [.int .i64 p0.fi, .int .i64 p0.fa, .int .i64 p0.fv, .int .i64 p0.fw, .int .i64 p0.fC, .int .i64 p0.fm, .int .i64 p0.fu, .int .i64 p0.fD, .int .i64 p0.ft, .int .i64 p0.fq, .int .i64 p0.fN] (.p rfl) rfl rfl Uo rfl ?_
    refine qa rfl (AG (by kernel_rfl) ?_)
    obtain rfl := sj h
    refine Af (sm [] [(2, bD (((v11.fi == p0.fi) && ((v11.fa == p0.fa) && ((v11.fv == p0.fv) && ((v11.fw == p0.fw) && ((v11.fC == p0.fC) && ((v11.fm == p0.fm) && ((v11.fu == p0.fu) && ((v11.fD == p0.fD) && ((v11.ft == p0.ft) && ((v11.fq == p0.fq) && ((v11.fN == p0.fN) && true)))))))))))))] [] rfl rfl) (Aq ?_)
    exact ⟨⟨[_], tm, rfl⟩, tv⟩
theorem Jq (N : Nat) (p0 : List Ab) (r : Int) (h : DC N p0 = some r) : Ar zA 33 [pD (.sl (p0.map AD))] [] (iD r) := by
 unfold DC at h
 refine cw (n := 37) (rs := [.tmp 2]) Tryz.func33 fun w0 S0 => ?_
 refine wq rfl (qa rfl (Ac (wp rfl (qm rfl (AH DV rfl (Eh rfl (Ac ?_)))))))
 refine Bb h (fun h => ?_) fun h => ?_
 ·refine wq rfl (qe rfl ?_)
  obtain rfl := sj h
  refine Af (sm [] [(2, iD 3)] [] rfl rfl) (Aq ?_)
  exact ⟨⟨[_], tm, rfl⟩, tv⟩
 ·refine Ap (wp rfl (qe rfl ?_))
  refine A5 (L := Ch N p0) h (fun v2 => mk [(0, pD (.sl (p0.map AD))), (3, iD v2)] []) (fun v3 => mk [] []) (fun _ _ => rfl) (sm [] _ _ rfl rfl) (fun j2 n2 v2 h => ?_) (fun v3 s h hs => ?_)
  ·unfold Ch at h
   refine wp rfl (qw 2 rfl (AH DV rfl (A2 rfl (Ac ?_))))
   refine Bb h (fun h => ?_) fun h => ?_
   ·refine Ap (AS (AR ?_))
    refine AI h (fun v5 => mk [(0, pD (.sl (p0.map AD))), (3, iD v2), (36, bD v5)] []) (fun j5 h => ?_) (fun v5 h => ?_)
    ·refine Aj Ax rfl (qw 2 rfl ?_)
     refine BK h fun v6 a6 b6 h => qi DV CV a6 (Ah b6) rfl (qK E7 CV rfl ?_)
     refine B0 h fun v7 a7 h => Aw [] (Jw N v6 v7 a7) Xd rfl (Cb rfl (qm rfl ?_))
     refine Cv 19 h rfl (fun h => ?_) fun h => ?_
     ·refine qw 3 rfl (qu rfl (qu rfl (qu rfl (qu rfl (qu rfl (qu rfl (qu rfl (qu rfl (qu rfl (qu rfl (qu rfl (qu rfl (qn rfl (qp rfl (AG (by kernel_rfl) ?_)))))))))))))))
      exact sn [] h
     ·refine qm rfl (Eh rfl (qm rfl ?_))
      refine Cv 22 h rfl (fun h => ?_) fun h => ?_
      ·refine qw 2 rfl ?_
       refine BK h fun v10 a10 b10 h => qi DV CV a10 (Ah b10) rfl (qg G4 rfl (qk Hx rfl (qw 2 rfl (J1 rfl ?_))))
       refine BK h fun v11 a11 b11 h => qi DV CV a11 (Ah b11) rfl (qg G4 rfl (qk Hx rfl (A2 rfl (qp rfl (qp rfl (AG (by kernel_rfl) ?_))))))
       exact sn [] h
      ·refine qw 12 rfl (qp rfl (qp rfl (AG (by kernel_rfl) ?_)))
       exact sn [] h
    ·refine Bb h (fun h => ?_) fun h => ?_
     ·refine wq rfl (qe rfl ?_)
      obtain rfl := sj h
      refine Af (sm [] [(2, iD 1)] [] rfl rfl) (Aq ?_)
      exact ⟨⟨[_], tm, rfl⟩, tv⟩
     ·refine Ap (Aj Ax rfl (qm rfl (Cl rfl (qe rfl ?_))))
      exact sn [] h
   ·refine BS ?_
    exact sn [] h
  ·refine Af hs (wq rfl (qe rfl ?_))
   obtain rfl := sj h
   refine Af (sm [] [(2, iD 0)] [] rfl rfl) (Aq ?_)
   exact ⟨⟨[_], tm, rfl⟩, tv⟩
end Go.Lift
