/- Lemmas for ReachAbortsSaid, which YtfnobkfnohhmmaaGreatFinW8 proves. -/
import Derived.Test.YtfnobkfnohhmmaaGreatSh
import Derived.Test.YtfnobkfnohhmmaaGreatProg
import Derived.KernelRfl
namespace Go.Lift
open Go.RowKit
open Go.Proofs
theorem Ac : Tryz.prog.follows .mixedOrders = true := by kernel_rfl
theorem Mt : EN Tryz.prog 100 false = true := by kernel_rfl
theorem Qz : EN Tryz.prog 113 true = true := by kernel_rfl
theorem LN : EN Tryz.prog 144 false = true := by kernel_rfl
theorem SG : EN Tryz.prog 22 false = true := by kernel_rfl
theorem Va : EN Tryz.prog 23 false = true := by kernel_rfl
theorem Xl : EN Tryz.prog 25 true = true := by kernel_rfl
theorem Bg : EN Tryz.prog 27 false = true := by kernel_rfl
theorem Gu : EN Tryz.prog 28 false = true := by kernel_rfl
theorem Cc : EN Tryz.prog 3 false = true := by kernel_rfl
theorem DP : EN Tryz.prog 30 true = true := by kernel_rfl
theorem SN : EN Tryz.prog 4 false = true := by kernel_rfl
theorem GS : EN Tryz.prog 40 true = true := by kernel_rfl
theorem Ga : EN Tryz.prog 48 false = true := by kernel_rfl
theorem Un : EN Tryz.prog 5 false = true := by kernel_rfl
theorem A0 : EN Tryz.prog 50 true = true := by kernel_rfl
theorem Wz : EN Tryz.prog 71 false = true := by kernel_rfl
theorem Xi : EN Tryz.prog 73 true = true := by kernel_rfl
theorem JI : EN Tryz.prog 74 false = true := by kernel_rfl
theorem GI : EN Tryz.prog 76 true = true := by kernel_rfl
theorem IK : EN Tryz.prog 97 false = true := by kernel_rfl
theorem V7 : NW Tryz.prog 22 = true := by kernel_rfl
theorem UH : Fb Tryz.prog 100 24 = true := by kernel_rfl
theorem Se : Fb Tryz.prog 113 24 = true := by kernel_rfl
theorem LB : Fb Tryz.prog 3 8 = true := by kernel_rfl
theorem UZ : Fb Tryz.prog 4 1 = true := by kernel_rfl
theorem IC : Fb Tryz.prog 40 24 = true := by kernel_rfl
theorem V9 : Fb Tryz.prog 5 1 = true := by kernel_rfl
theorem OF : Fb Tryz.prog 50 72 = true := by kernel_rfl
theorem Wj : Fb Tryz.prog 76 80 = true := by kernel_rfl
theorem Qf : Fb Tryz.prog 97 1 = true := by kernel_rfl
theorem NV : C0 Tryz.prog 25 0 0 = true := by kernel_rfl
theorem Tn : C0 Tryz.prog 25 1 1 = true := by kernel_rfl
theorem S6 : C0 Tryz.prog 25 2 2 = true := by kernel_rfl
theorem N8 : C0 Tryz.prog 25 3 3 = true := by kernel_rfl
theorem Bt : C0 Tryz.prog 30 0 0 = true := by kernel_rfl
theorem FJ : C0 Tryz.prog 30 1 1 = true := by kernel_rfl
theorem Is : C0 Tryz.prog 30 2 2 = true := by kernel_rfl
theorem CA : C0 Tryz.prog 30 3 3 = true := by kernel_rfl
theorem EK : C0 Tryz.prog 40 0 0 = true := by kernel_rfl
theorem Eb : C0 Tryz.prog 40 1 1 = true := by kernel_rfl
theorem FH : C0 Tryz.prog 40 2 2 = true := by kernel_rfl
theorem Cz : C0 Tryz.prog 50 0 0 = true := by kernel_rfl
theorem BG : C0 Tryz.prog 50 1 1 = true := by kernel_rfl
theorem Cs : C0 Tryz.prog 50 2 2 = true := by kernel_rfl
theorem TL : C0 Tryz.prog 73 0 0 = true := by kernel_rfl
theorem T2 : C0 Tryz.prog 73 1 1 = true := by kernel_rfl
theorem Tm : C0 Tryz.prog 73 2 2 = true := by kernel_rfl
theorem Tt : C0 Tryz.prog 73 3 3 = true := by kernel_rfl
theorem TE : C0 Tryz.prog 73 4 4 = true := by kernel_rfl
theorem Tw : C0 Tryz.prog 73 5 5 = true := by kernel_rfl
theorem E3 : C0 Tryz.prog 76 0 0 = true := by kernel_rfl
theorem C2 : C0 Tryz.prog 76 1 1 = true := by kernel_rfl
theorem Ip : C0 Tryz.prog 76 2 2 = true := by kernel_rfl
theorem Ji : C0 Tryz.prog 76 3 3 = true := by kernel_rfl
theorem J1 : C0 Tryz.prog 76 4 4 = true := by kernel_rfl
theorem FK : C0 Tryz.prog 76 5 5 = true := by kernel_rfl
theorem VI : AN Tryz.prog 10 = true := by kernel_rfl
theorem QA : AN Tryz.prog 100 = true := by kernel_rfl
theorem Vo : AN Tryz.prog 101 = true := by kernel_rfl
theorem V6 : AN Tryz.prog 102 = true := by kernel_rfl
theorem Wt : AN Tryz.prog 103 = true := by kernel_rfl
theorem Vv : AN Tryz.prog 104 = true := by kernel_rfl
theorem T5 : AN Tryz.prog 105 = true := by kernel_rfl
theorem VF : AN Tryz.prog 106 = true := by kernel_rfl
theorem Wh : AN Tryz.prog 107 = true := by kernel_rfl
theorem Sx : AN Tryz.prog 108 = true := by kernel_rfl
theorem Us : AN Tryz.prog 109 = true := by kernel_rfl
theorem Wr : AN Tryz.prog 11 = true := by kernel_rfl
theorem T7 : AN Tryz.prog 110 = true := by kernel_rfl
theorem Um : AN Tryz.prog 111 = true := by kernel_rfl
theorem Vx : AN Tryz.prog 112 = true := by kernel_rfl
theorem Vn : AN Tryz.prog 113 = true := by kernel_rfl
theorem Vj : AN Tryz.prog 114 = true := by kernel_rfl
theorem Wc : AN Tryz.prog 115 = true := by kernel_rfl
theorem T9 : AN Tryz.prog 116 = true := by kernel_rfl
theorem We : AN Tryz.prog 117 = true := by kernel_rfl
theorem VR : AN Tryz.prog 118 = true := by kernel_rfl
theorem R6 : AN Tryz.prog 119 = true := by kernel_rfl
theorem Uh : AN Tryz.prog 120 = true := by kernel_rfl
theorem VV : AN Tryz.prog 121 = true := by kernel_rfl
theorem VG : AN Tryz.prog 122 = true := by kernel_rfl
theorem VS : AN Tryz.prog 123 = true := by kernel_rfl
theorem VX : AN Tryz.prog 124 = true := by kernel_rfl
theorem Vz : AN Tryz.prog 125 = true := by kernel_rfl
theorem VQ : AN Tryz.prog 126 = true := by kernel_rfl
theorem Xn : AN Tryz.prog 14 = true := by kernel_rfl
theorem Vq : AN Tryz.prog 18 = true := by kernel_rfl
theorem WV : AN Tryz.prog 20 = true := by kernel_rfl
theorem Xj : AN Tryz.prog 24 = true := by kernel_rfl
theorem WQ : AN Tryz.prog 25 = true := by kernel_rfl
theorem UY : AN Tryz.prog 27 = true := by kernel_rfl
theorem Wq : AN Tryz.prog 28 = true := by kernel_rfl
theorem VM : AN Tryz.prog 30 = true := by kernel_rfl
theorem Xy : AN Tryz.prog 31 = true := by kernel_rfl
theorem Wa : AN Tryz.prog 32 = true := by kernel_rfl
theorem Po : AN Tryz.prog 33 = true := by kernel_rfl
theorem Wf : AN Tryz.prog 34 = true := by kernel_rfl
theorem SB : AN Tryz.prog 35 = true := by kernel_rfl
theorem UP : AN Tryz.prog 36 = true := by kernel_rfl
theorem Wx : AN Tryz.prog 37 = true := by kernel_rfl
theorem Vr : AN Tryz.prog 38 = true := by kernel_rfl
theorem U1 : AN Tryz.prog 39 = true := by kernel_rfl
theorem WK : AN Tryz.prog 40 = true := by kernel_rfl
theorem Xc : AN Tryz.prog 41 = true := by kernel_rfl
theorem UU : AN Tryz.prog 45 = true := by kernel_rfl
theorem VA : AN Tryz.prog 47 = true := by kernel_rfl
theorem UX : AN Tryz.prog 48 = true := by kernel_rfl
theorem VU : AN Tryz.prog 49 = true := by kernel_rfl
theorem Ws : AN Tryz.prog 50 = true := by kernel_rfl
theorem Xa : AN Tryz.prog 51 = true := by kernel_rfl
theorem U4 : AN Tryz.prog 52 = true := by kernel_rfl
theorem VL : AN Tryz.prog 53 = true := by kernel_rfl
theorem W5 : AN Tryz.prog 54 = true := by kernel_rfl
theorem Vl : AN Tryz.prog 55 = true := by kernel_rfl
theorem WO : AN Tryz.prog 56 = true := by kernel_rfl
theorem To : AN Tryz.prog 57 = true := by kernel_rfl
theorem Sr : AN Tryz.prog 58 = true := by kernel_rfl
theorem V2 : AN Tryz.prog 59 = true := by kernel_rfl
theorem Uy : AN Tryz.prog 60 = true := by kernel_rfl
theorem Vs : AN Tryz.prog 61 = true := by kernel_rfl
theorem W0 : AN Tryz.prog 62 = true := by kernel_rfl
theorem Vk : AN Tryz.prog 63 = true := by kernel_rfl
theorem WL : AN Tryz.prog 64 = true := by kernel_rfl
theorem Xz : AN Tryz.prog 65 = true := by kernel_rfl
theorem XB : AN Tryz.prog 66 = true := by kernel_rfl
theorem Xr : AN Tryz.prog 68 = true := by kernel_rfl
theorem Xm : AN Tryz.prog 70 = true := by kernel_rfl
theorem W3 : AN Tryz.prog 71 = true := by kernel_rfl
theorem Xx : AN Tryz.prog 72 = true := by kernel_rfl
theorem Uv : AN Tryz.prog 73 = true := by kernel_rfl
theorem VZ : AN Tryz.prog 74 = true := by kernel_rfl
theorem Vt : AN Tryz.prog 75 = true := by kernel_rfl
theorem Xs : AN Tryz.prog 76 = true := by kernel_rfl
theorem UO : AN Tryz.prog 77 = true := by kernel_rfl
theorem Ww : AN Tryz.prog 78 = true := by kernel_rfl
theorem VK : AN Tryz.prog 79 = true := by kernel_rfl
theorem Ux : AN Tryz.prog 80 = true := by kernel_rfl
theorem W1 : AN Tryz.prog 81 = true := by kernel_rfl
theorem Xb : AN Tryz.prog 82 = true := by kernel_rfl
theorem Xh : AN Tryz.prog 83 = true := by kernel_rfl
theorem WW : AN Tryz.prog 84 = true := by kernel_rfl
theorem W2 : AN Tryz.prog 85 = true := by kernel_rfl
theorem W8 : AN Tryz.prog 86 = true := by kernel_rfl
theorem Xd : AN Tryz.prog 87 = true := by kernel_rfl
theorem Xo : AN Tryz.prog 88 = true := by kernel_rfl
theorem WM : AN Tryz.prog 89 = true := by kernel_rfl
theorem XF : AN Tryz.prog 9 = true := by kernel_rfl
theorem Xk : AN Tryz.prog 90 = true := by kernel_rfl
theorem Xu : AN Tryz.prog 91 = true := by kernel_rfl
theorem Xe : AN Tryz.prog 92 = true := by kernel_rfl
theorem Xw : AN Tryz.prog 93 = true := by kernel_rfl
theorem WT : AN Tryz.prog 94 = true := by kernel_rfl
theorem WR : AN Tryz.prog 95 = true := by kernel_rfl
theorem W7 : AN Tryz.prog 96 = true := by kernel_rfl
theorem Xq : AN Tryz.prog 97 = true := by kernel_rfl
theorem Wp : AN Tryz.prog 98 = true := by kernel_rfl
theorem VN : AN Tryz.prog 99 = true := by kernel_rfl
theorem M6 : Ly Tryz.prog 106 .u64 = true := by kernel_rfl
theorem Pa : Ly Tryz.prog 131 .u32 = true := by kernel_rfl
theorem Uk : Ly Tryz.prog 133 .u64 = true := by kernel_rfl
theorem VC : Ly Tryz.prog 144 .u64 = true := by kernel_rfl
theorem QU : Ly Tryz.prog 3 .i64 = true := by kernel_rfl
theorem WJ : Ly Tryz.prog 5 .u8 = true := by kernel_rfl
theorem UT : Tryz.prog.underlying 9 = some .string := by kernel_rfl
theorem Qh : Tryz.prog.underlying 93 = some (.map 9 4) := by kernel_rfl
theorem P8 : Hy Tryz.prog 113 = some [(0, 1), (1, 1), (2, 1)] := by kernel_rfl
theorem Wi : Hy Tryz.prog 30 = some [(0, 1), (1, 1), (2, 1), (3, 1)] := by kernel_rfl
theorem OO : Hy Tryz.prog 40 = some [(0, 1), (1, 1), (2, 1)] := by kernel_rfl
theorem GR : Hy Tryz.prog 50 = some [(0, 1), (1, 1), (2, 1)] := by kernel_rfl
theorem Wb : Hy Tryz.prog 76 = some [(0, 1), (1, 1), (2, 1), (3, 1), (4, 1), (5, 1)] := by kernel_rfl
theorem EI : sliceB Tryz.prog 100 4 = true := by kernel_rfl
theorem IW : sliceB Tryz.prog 116 113 = true := by kernel_rfl
theorem Gl : sliceB Tryz.prog 22 5 = true := by kernel_rfl
theorem R9 : sliceB Tryz.prog 23 73 = true := by kernel_rfl
theorem BX : sliceB Tryz.prog 26 40 = true := by kernel_rfl
theorem AH : sliceB Tryz.prog 27 3 = true := by kernel_rfl
theorem DN : sliceB Tryz.prog 28 76 = true := by kernel_rfl
theorem AR : sliceB Tryz.prog 34 50 = true := by kernel_rfl
theorem C3 : sliceB Tryz.prog 48 97 = true := by kernel_rfl
theorem FU : sliceB Tryz.prog 74 100 = true := by kernel_rfl
theorem OW : (Tryz.prog.underlying 106).isSome = true := by kernel_rfl
theorem O5 : (Tryz.prog.underlying 131).isSome = true := by kernel_rfl
theorem Sk : (Tryz.prog.underlying 133).isSome = true := by kernel_rfl
theorem UI : (Tryz.prog.underlying 3).isSome = true := by kernel_rfl
theorem SP : (Tryz.prog.underlying 5).isSome = true := by kernel_rfl
theorem Xv : (Tryz.prog.underlying 97).isSome = true := by kernel_rfl
theorem TK : Nt Tryz.prog 9 = true := by kernel_rfl
theorem Jz : GD Tryz.prog 100 1 = true := by kernel_rfl
theorem HU : GD Tryz.prog 113 3 = true := by kernel_rfl
theorem QB : GD Tryz.prog 144 1 = true := by kernel_rfl
theorem WU : GD Tryz.prog 25 4 = true := by kernel_rfl
theorem Rj : GD Tryz.prog 27 1 = true := by kernel_rfl
theorem Xp : GD Tryz.prog 28 1 = true := by kernel_rfl
theorem Df : GD Tryz.prog 3 1 = true := by kernel_rfl
theorem Dr : GD Tryz.prog 30 4 = true := by kernel_rfl
theorem PX : GD Tryz.prog 4 1 = true := by kernel_rfl
theorem CT : GD Tryz.prog 40 3 = true := by kernel_rfl
theorem WY : GD Tryz.prog 48 1 = true := by kernel_rfl
theorem SO : GD Tryz.prog 5 1 = true := by kernel_rfl
theorem Ax : GD Tryz.prog 50 3 = true := by kernel_rfl
theorem UM : GD Tryz.prog 73 6 = true := by kernel_rfl
theorem Wm : GD Tryz.prog 74 1 = true := by kernel_rfl
theorem DO : GD Tryz.prog 76 6 = true := by kernel_rfl
theorem Fa : GD Tryz.prog 97 1 = true := by kernel_rfl
theorem Sz : D8 Tryz.prog 100 = some (.slice none 0 0) := by kernel_rfl
theorem Jw : D8 Tryz.prog 113 = some (.agg #[.int .i64 0, .int .i64 0, .int .i64 0]) := by kernel_rfl
theorem Wd : D8 Tryz.prog 144 = some (.int .u64 0) := by kernel_rfl
theorem KT : D8 Tryz.prog 3 = some (.int .i64 0) := by kernel_rfl
theorem QZ : D8 Tryz.prog 30 = some (.agg #[.slice none 0 0, .slice none 0 0, .slice none 0 0, .slice none 0 0]) := by kernel_rfl
theorem TJ : D8 Tryz.prog 4 = some (.bool false) := by kernel_rfl
theorem EQ : D8 Tryz.prog 40 = some (.agg #[.int .i64 0, .int .i64 0, .int .i64 0]) := by kernel_rfl
theorem Vm : D8 Tryz.prog 5 = some (.int .u8 0) := by kernel_rfl
theorem Cv : D8 Tryz.prog 50 = some (.agg #[.slice none 0 0, .slice none 0 0, .slice none 0 0]) := by kernel_rfl
theorem XA : D8 Tryz.prog 73 = some (.agg #[.int .u8 0, .int .u8 0, .int .u8 0, .bool false, .int .u16 0, .int .u16 0]) := by kernel_rfl
theorem JU : D8 Tryz.prog 76 = some (.agg #[.int .i64 0, .int .i64 0, .int .i64 0, .bool false, .slice none 0 0, .slice none 0 0]) := by kernel_rfl
theorem PJ : D8 Tryz.prog 97 = some (.int .u8 0) := by kernel_rfl
open IntKind renaming wrap → wI
set_option maxRecDepth 10000
theorem Hp (N : Nat) (p0 : List Int) (p1 : Int) (r : Int) (h : Dl N p0 p1 = some r) : AB Tryz.prog 32 [pD (.sl (p0.map A9)), iD p1] [] (iD r) := by
 unfold Dl at h
 refine Au (n := 14) (rs := [.tmp 4]) Tryz.func32 rfl rfl rfl (A5 rfl) (A5 rfl) rfl fun w0 S0 => ?_
 refine Ab (Aa Ac rfl (qa rfl (Ad (Ab (Ab (Aa Ac rfl (qm rfl (qm rfl (AV Gl rfl (AZ rfl (Ad ?_)))))))))))
 refine Ap rfl (fun c1 => ?_) (fun c1 => ?_)
 ·have h := An c1 h
  refine Ab (Aa Ac rfl (qm rfl (qm rfl ?_)))
  obtain ⟨v2, a2, b2, h⟩ := Ak h
  refine qi Gl SO a2 (Ah b2) rfl (qk Un rfl (FO SP QU rfl (qa rfl (Ad ?_))))
  obtain rfl := sj h
  refine Al (sm [] [(4, iD ((wI .i64 v2)))] [] rfl rfl) (Az ?_)
  exact ⟨⟨[_], ⟨.tmp _ _ rfl, tv⟩, rfl⟩, tv⟩
 ·have h := Am c1 h
  refine Aq (Ab (Aa Ac rfl (qa rfl (Ad ?_))))
  obtain rfl := sj h
  refine Al (sm [] [(4, iD 0)] [] rfl rfl) (Az ?_)
  exact ⟨⟨[_], ⟨.tmp _ _ rfl, tv⟩, rfl⟩, tv⟩
theorem Ck (N : Nat) (p0 : AO) (r : Bool) (h : Ba N p0 = some r) : AB Tryz.prog 33 [.e (.agg [iC p0.fKind, iC p0.fFrom, iC p0.fTo, .pure (.val (.bool p0.fAware)), sC (p0.fOK.map (EP eB)), sC (p0.fRewrite.map (EP eB))])] [] (bD r) := by
 unfold Ba at h
 refine Au (n := 11) (rs := [.tmp 2]) Tryz.func33 rfl rfl rfl (A5 rfl) (A5 rfl) rfl fun w0 S0 => ?_
 refine Ab (Aa Ac rfl (qb rfl (qa rfl (Ad ?_))))
 refine AQ h (fun v1 => mk [(2, bD v1)] []) (fun j1 h => ?_) (fun v1 h => ?_)
 ·refine Aa Ac rfl (qf E3 rfl (ql Cc rfl (BD rfl (qm rfl ?_))))
  refine AC (t := 6) rfl (fun c2 => ?_) (fun c2 => ?_)
  ·have h := An c2 h
   refine qn rfl (qn rfl (qn rfl (qp rfl (qa rfl (Ad ?_)))))
   exact Av _ h (sm [] _ _ rfl rfl)
  ·have h := Am c2 h
   refine qf E3 rfl (ql Cc rfl (BD rfl (qp rfl (qa rfl (Ad ?_)))))
   exact Av _ h (sm [] _ _ rfl rfl)
 ·obtain rfl := sj h
  refine Al (sm [] [(2, bD v1)] [] rfl rfl) (Az ?_)
  exact ⟨⟨[_], ⟨.tmp _ _ rfl, tv⟩, rfl⟩, tv⟩
theorem Hk (N : Nat) (p0 : Int) (p1 : Int) (p2 : Int) (p3 : Bool) (r : (List (List Bool))) (h : Dm N p0 p1 p2 p3 = some r) : AB Tryz.prog 34 [iD p0, iD p1, pD (.val (.int .u16 p2)), bD p3] [(1, r.map (EP eB))] (oD (.own 0)) := by
 unfold Dm at h
 refine Au (n := 47) (rs := [.tmp 8]) Tryz.func34 rfl rfl rfl (A5 rfl) (A5 rfl) rfl fun w0 S0 => ?_
 refine Ab (Aa Ac rfl (qa rfl (Ad (Ab (Aa Ac rfl (qa rfl (Ad (Ab (Ab (Aa Ac rfl (qa rfl (Ad ?_))))))))))))
 refine AJ (L := B2 N p0 p1 p2 p3) h (fun v1 => mk [(0, iD p0), (1, iD p1), (2, pD (.val (.int .u16 p2))), (3, bD p3), (9, oD (.own 2001)), (10, iD v1.2)] [(2001, .vec 1 (v1.1.map (EP eB)))]) (fun v2 => mk [(9, oD (.own 2002))] [(2002, .vec 1 (v2.map (EP eB)))]) (fun _ _ => rfl) ((Bn 9 2010 1 rfl rfl rfl).trans (sm [(2001, 2010)] _ _ rfl rfl)) (fun j1 n1 v1 h => ?_) (fun v2 s h hs => ?_)
 ·unfold B2 at h
  refine Ab (Ab (Aa Ac rfl (qm rfl (qm rfl (AZ rfl (Ad ?_))))))
  refine Ap rfl (fun c3 => ?_) (fun c3 => ?_)
  ·have h := An c3 h
   refine Aq (Ab (AP (Ab (Aa Ac rfl (qa rfl (Ad (Ab (Ab (Aa Ac rfl (qa rfl (Ad ?_)))))))))))
   refine AJ (L := B5 N p1 p2 p3 v1) h (fun v4 => mk [(0, iD p0), (1, iD p1), (2, pD (.val (.int .u16 p2))), (3, bD p3), (9, oD (.own 2003)), (10, iD v1.2), (11, oD (.own 2004)), (12, iD v4.2)] [(2003, .vec 1 (v1.1.map (EP eB))), (2004, .vec 1 (v4.1.map eB))]) (fun v5 => mk [(0, iD p0), (1, iD p1), (2, pD (.val (.int .u16 p2))), (3, bD p3), (9, oD (.own 2005)), (10, iD v1.2), (11, oD (.own 2006))] [(2005, .vec 1 (v1.1.map (EP eB))), (2006, .vec 1 (v5.map eB))]) (fun _ _ => rfl) ((Bn 11 2009 1 rfl rfl rfl).trans (sm [(2003, 2001), (2004, 2009)] _ _ rfl rfl)) (fun j4 n4 v4 h => ?_) (fun v5 s h hs => ?_)
   ·unfold B5 at h
    refine Ab (Ab (Aa Ac rfl (qm rfl (qm rfl (AZ rfl (Ad ?_))))))
    refine Ap rfl (fun c6 => ?_) (fun c6 => ?_)
    ·have h := An c6 h
     refine Aq ?_
     refine AQ h (fun v7 => mk [(0, iD p0), (1, iD p1), (2, pD (.val (.int .u16 p2))), (3, bD p3), (9, oD (.own 2007)), (10, iD v1.2), (11, oD (.own 2008)), (12, iD v4.2)] [(2007, .vec 1 (v1.1.map (EP eB))), (2008, .vec 1 (v7.map eB))]) (fun j7 h => ?_) (fun v7 h => ?_)
     ·refine AP (Aa Ac rfl (qm rfl (qm rfl (qm rfl ?_))))
      refine AC (t := 25) rfl (fun c8 => ?_) (fun c8 => ?_)
      ·have h := An c8 h
       refine qm rfl (qm rfl (BD rfl (qp rfl (qm rfl ?_))))
       refine AC (t := 30) rfl (fun c9 => ?_) (fun c9 => ?_)
       ·have h := An c9 h
        refine qn rfl (qn rfl (qn rfl (qn rfl (qn rfl (qn rfl (qn rfl (qn rfl (qp rfl (DT EI PX TJ rfl ?_)))))))))
        obtain ⟨c10, h⟩ := AL h
        refine CQ (f := eB) EI EI PX UZ TJ c10 rfl (qa rfl (Ad ?_))
        exact Av _ h (sm [(2007, 2003), (2008, 41)] _ _ rfl rfl)
       ·have h := Am c9 h
        refine qm rfl (qm rfl (HA rfl (qm rfl (AX rfl ?_))))
        obtain ⟨c11, h⟩ := AL h
        refine Gb rfl c11 (Jv rfl (by decide) (BD rfl (qp rfl (DT EI PX TJ rfl ?_))))
        obtain ⟨c12, h⟩ := AL h
        refine CQ (f := eB) EI EI PX UZ TJ c12 rfl (qa rfl (Ad ?_))
        exact Av _ h (sm [(2007, 2003), (2008, 41)] _ _ rfl rfl)
      ·have h := Am c8 h
       refine qn rfl (qn rfl (qn rfl (qp rfl (qm rfl (qm rfl (qm rfl (HA rfl (qm rfl (AX rfl ?_)))))))))
       obtain ⟨c13, h⟩ := AL h
       refine Gb rfl c13 (Jv rfl (by decide) (BD rfl (qp rfl (DT EI PX TJ rfl ?_))))
       obtain ⟨c14, h⟩ := AL h
       refine CQ (f := eB) EI EI PX UZ TJ c14 rfl (qa rfl (Ad ?_))
       exact Av _ h (sm [(2007, 2003), (2008, 41)] _ _ rfl rfl)
     ·refine Aa Ac rfl (qm rfl (AX rfl (qa rfl (Ad ?_))))
      exact Av _ h (sm [(2003, 2007), (2004, 2008)] _ _ rfl rfl)
    ·have h := Am c6 h
     refine AY ?_
     exact Av _ h (sm [(2005, 2003), (2006, 2004)] _ _ rfl rfl)
   ·refine Al hs (Aa Ac rfl (qm rfl (qm rfl (CC (A1 2006 _ _ rfl rfl) (DT FU Jz Sz rfl ?_)))))
    obtain ⟨c15, h⟩ := AL h
    refine CQ (f := (EP eB)) FU FU Jz UH Sz c15 rfl (qa rfl (Ad (Aa Ac rfl (qm rfl (AX rfl (qa rfl (Ad ?_)))))))
    exact Av _ h (sm [(2001, 45)] _ _ rfl rfl)
  ·have h := Am c3 h
   refine AY ?_
   exact Av _ h (sm [(2002, 2001)] _ _ rfl rfl)
 ·refine Al hs (Ab (Aa Ac rfl (qm rfl (qa rfl (Ad ?_)))))
  obtain rfl := sj h
  refine Al (sm [(1000, 2002)] [(8, oD (.own 1000))] [(1000, .vec 1 (v2.map (EP eB)))] rfl rfl) (Az ?_)
  exact ⟨⟨[_], ⟨.tmp _ _ rfl, tv⟩, rfl⟩, ⟨rfl, tv⟩⟩
theorem KG (N : Nat) (p0 : Cd) (r : Ag × Bool) (h : Em N p0 = some r) : AB Tryz.prog 9 [.e (.agg [sC (p0.fVersions.map A9), sC (p0.fNow.map A9), sC (p0.fTarget.map A9), sC (p0.fLinks.map B0)])] [(1, r.1.fVersions.map Ai), (1, r.1.fNow.map Ai), (1, r.1.fTarget.map Ai), (6, r.1.fTables.map Ao)] (.tup [.agg [.own 0, .own 1, .own 2, .own 3], .one (.pure (.val (.bool r.2)))]) := by
 unfold Em at h
 refine Au (n := 152) (rs := [.cell 2 30, .tmp 3]) Tryz.func9 rfl rfl rfl (A5 rfl) (A5 rfl) rfl fun w0 S0 => ?_
 refine Ab (Aa Ac rfl (qb rfl (qz QZ rfl (qa rfl (Ad (Ab ?_))))))
 refine AQ h (fun v1 => mk [(1, oD (.ptr 1 0)), (2, oD (.ptr 2 0)), (19, bD v1)] [(1, .box [sC (p0.fVersions.map A9), sC (p0.fNow.map A9), sC (p0.fTarget.map A9), sC (p0.fLinks.map B0)]), (2, .box [.pure (.nil0), .pure (.nil0), .pure (.nil0), .pure (.nil0)])]) (fun j1 h => ?_) (fun v1 h => ?_)
 ·refine Aa Ac rfl (qf NV rfl (ql SG rfl (AV Gl rfl (Ey rfl (qm rfl ?_)))))
  refine AC (t := 14) rfl (fun c2 => ?_) (fun c2 => ?_)
  ·have h := An c2 h
   refine qn rfl (qn rfl (qn rfl (qn rfl (qp rfl (Ad ?_)))))
   exact Av _ h (sm [] _ _ rfl rfl)
  ·have h := Am c2 h
   refine qf N8 rfl (ql Va rfl (AV R9 rfl (Ey rfl (qp rfl (Ad ?_)))))
   exact Av _ h (sm [] _ _ rfl rfl)
 ·refine Ap rfl (fun c3 => ?_) (fun c3 => ?_)
  ·have h := An c3 h
   refine Ab (Aa Ac rfl (Bz QZ Wi rfl (qs Dr rfl (qa rfl (Ad ?_)))))
   obtain rfl := sj h
   refine Al ((AA 2 0 2001 1 _ rfl rfl rfl rfl).trans ((AA 2 1 2002 1 _ rfl rfl rfl rfl).trans ((AA 2 2 2003 1 _ rfl rfl rfl rfl).trans ((AA 2 3 2004 6 _ rfl rfl rfl rfl).trans (sm [(1000, 2001), (1001, 2002), (1002, 2003), (1003, 2004)] [(2, oD (.ptr 2 0)), (3, bD false)] [(2, .box [.own 1000, .own 1001, .own 1002, .own 1003]), (1000, .vec 1 ((([] : List Int)).map Ai)), (1001, .vec 1 ((([] : List Int)).map Ai)), (1002, .vec 1 ((([] : List Int)).map Ai)), (1003, .vec 6 ((([] : List AO)).map Ao))] rfl rfl))))) (Az ?_)
   exact ⟨⟨[_, _], ⟨.cellN _ _ _ _ _ _ _ rfl rfl DP Dr rfl rfl (HR rfl), ⟨.tmp _ _ rfl, tv⟩⟩, rfl⟩, ⟨rfl, rfl, rfl, rfl, tv⟩⟩
  ·have h := Am c3 h
   refine Aq (Ab (Aa Ac rfl (qz QZ rfl (Ad (Ab (Ab (Aa Ac rfl (qa rfl (Ad ?_)))))))))
   refine AJ (L := Cj N p0) h (fun v4 => mk [(1, oD (.ptr 1 0)), (2, oD (.ptr 2 0)), (4, oD (.ptr 4 0)), (5, iD v4.2.2.2)] [(1, .box [sC (p0.fVersions.map A9), sC (p0.fNow.map A9), sC (p0.fTarget.map A9), sC (p0.fLinks.map B0)]), (2, .box [.pure (.nil0), .pure (.nil0), .pure (.nil0), .pure (.nil0)]), (4, .box [.own 2005, .own 2006, .own 2007, .pure (.nil0)]), (2005, .vec 1 (v4.1.map Ai)), (2006, .vec 1 (v4.2.1.map Ai)), (2007, .vec 1 (v4.2.2.1.map Ai))]) (fun v5 => mk [(1, oD (.ptr 1 0)), (2, oD (.ptr 2 0)), (4, oD (.ptr 4 0))] [(1, .box [sC (p0.fVersions.map A9), sC (p0.fNow.map A9), sC (p0.fTarget.map A9), sC (p0.fLinks.map B0)]), (2, .box [.pure (.nil0), .pure (.nil0), .pure (.nil0), .pure (.nil0)]), (4, .box [.own 2008, .own 2009, .own 2010, .pure (.nil0)]), (2008, .vec 1 (v5.1.map Ai)), (2009, .vec 1 (v5.2.1.map Ai)), (2010, .vec 1 (v5.2.2.map Ai))]) (fun _ _ => rfl) ((AA 4 0 2011 1 _ rfl rfl rfl rfl).trans ((AA 4 1 2012 1 _ rfl rfl rfl rfl).trans ((AA 4 2 2013 1 _ rfl rfl rfl rfl).trans (sm [(2005, 2011), (2006, 2012), (2007, 2013)] _ _ rfl rfl)))) (fun j4 n4 v4 h => ?_) (fun v5 s h hs => ?_)
   ·unfold Cj at h
    refine Ab (Ab (Aa Ac rfl (qm rfl (qf NV rfl (ql SG rfl (AV Gl rfl (AZ rfl (Ad ?_))))))))
    refine Ap rfl (fun c6 => ?_) (fun c6 => ?_)
    ·have h := An c6 h
     refine Aq (Ab (AP (Ab (Aa Ac rfl (qf NV rfl (ql SG rfl (qm rfl ?_)))))))
     obtain ⟨v7, a7, b7, h⟩ := Ak h
     refine qi Gl SO a7 (Ah b7) rfl (qk Un rfl (Jv rfl (by decide) (FO SP QU rfl (AX rfl (qa rfl (Ad (Ab (Aa Ac rfl (qf Bt rfl (ql Bg rfl (qm rfl (DT AH Df KT rfl ?_))))))))))))
     obtain ⟨c8, h⟩ := AL h
     refine CQ (f := Ai) AH AH Df LB KT c8 rfl (qf Bt rfl (qs Rj rfl (Ad (Ab (Aa Ac rfl (qf FJ rfl (ql Bg rfl (qf Tn rfl (ql SG rfl (qm rfl ?_))))))))))
     obtain ⟨v9, a9, h⟩ := bind_some h
     refine AG [] (Hp N p0.fNow v4.2.2.2 v9 a9) Wa rfl (qm rfl ?_)
     obtain ⟨c10, h⟩ := AL h
     refine Jv rfl c10 (DT AH Df KT rfl ?_)
     obtain ⟨c11, h⟩ := AL h
     refine CQ (f := Ai) AH AH Df LB KT c11 rfl (qf FJ rfl (qs Rj rfl (AM (by kernel_rfl) (Aa Ac rfl (qf Is rfl (ql Bg rfl (qf S6 rfl (ql SG rfl (qm rfl ?_)))))))))
     obtain ⟨v12, a12, h⟩ := bind_some h
     refine AG [] (Hp N p0.fTarget v4.2.2.2 v12 a12) Wa rfl (qm rfl ?_)
     obtain ⟨c13, h⟩ := AL h
     refine Jv rfl c13 (DT AH Df KT rfl ?_)
     obtain ⟨c14, h⟩ := AL h
     refine CQ (f := Ai) AH AH Df LB KT c14 rfl (qf Is rfl (qs Rj rfl (AM (by kernel_rfl) (Aa Ac rfl (qm rfl (AX rfl (qa rfl (Ad ?_))))))))
     exact Av _ h (sm [(2005, 40), (2006, 51), (2007, 62)] _ _ rfl rfl)
    ·have h := Am c6 h
     refine AY ?_
     exact Av _ h (sm [(2008, 2005), (2009, 2006), (2010, 2007)] _ _ rfl rfl)
   ·refine Al hs (Ab (Ab (Aa Ac rfl (qa rfl (Ad ?_)))))
    refine AJ (L := Bq N p0 v5) h (fun v15 => mk [(1, oD (.ptr 1 0)), (2, oD (.ptr 2 0)), (4, oD (.ptr 4 0)), (7, iD v15.2)] [(1, .box [sC (p0.fVersions.map A9), sC (p0.fNow.map A9), sC (p0.fTarget.map A9), sC (p0.fLinks.map B0)]), (2, .box [.pure (.nil0), .pure (.nil0), .pure (.nil0), .pure (.nil0)]), (4, .box [.own 2014, .own 2015, .own 2016, .own 2017]), (2014, .vec 1 (v5.1.map Ai)), (2015, .vec 1 (v5.2.1.map Ai)), (2016, .vec 1 (v5.2.2.map Ai)), (2017, .vec 6 (v15.1.map Ao))]) (fun v16 => mk [(2, oD (.ptr 2 0)), (4, oD (.ptr 4 0))] [(2, .box [.pure (.nil0), .pure (.nil0), .pure (.nil0), .pure (.nil0)]), (4, .box [.own 2018, .own 2019, .own 2020, .own 2021]), (2018, .vec 1 (v5.1.map Ai)), (2019, .vec 1 (v5.2.1.map Ai)), (2020, .vec 1 (v5.2.2.map Ai)), (2021, .vec 6 (v16.map Ao))]) (fun _ _ => rfl) ((AA 4 3 2039 6 _ rfl rfl rfl rfl).trans (sm [(2014, 2008), (2015, 2009), (2016, 2010), (2017, 2039)] _ _ rfl rfl)) (fun j15 n15 v15 h => ?_) (fun v16 s h hs => ?_)
    ·unfold Bq at h
     refine Ab ?_
     refine AQ h (fun v17 => mk [(1, oD (.ptr 1 0)), (2, oD (.ptr 2 0)), (4, oD (.ptr 4 0)), (7, iD v15.2), (74, bD v17)] [(1, .box [sC (p0.fVersions.map A9), sC (p0.fNow.map A9), sC (p0.fTarget.map A9), sC (p0.fLinks.map B0)]), (2, .box [.pure (.nil0), .pure (.nil0), .pure (.nil0), .pure (.nil0)]), (4, .box [.own 2022, .own 2023, .own 2024, .own 2025]), (2022, .vec 1 (v5.1.map Ai)), (2023, .vec 1 (v5.2.1.map Ai)), (2024, .vec 1 (v5.2.2.map Ai)), (2025, .vec 6 (v15.1.map Ao))]) (fun j17 h => ?_) (fun v17 h => ?_)
     ·refine Aa Ac rfl (qm rfl (qf N8 rfl (ql Va rfl (AV R9 rfl (AZ rfl (qm rfl ?_))))))
      refine AC (t := 69) rfl (fun c18 => ?_) (fun c18 => ?_)
      ·have h := An c18 h
       refine qf Bt rfl (ql Bg rfl (Dz AH rfl (Ey rfl (qp rfl (Ad ?_)))))
       exact Av _ h (sm [(2022, 2014), (2023, 2015), (2024, 2016), (2025, 2017)] _ _ rfl rfl)
      ·have h := Am c18 h
       refine qn rfl (qn rfl (qn rfl (qn rfl (qp rfl (Ad ?_)))))
       exact Av _ h (sm [(2022, 2014), (2023, 2015), (2024, 2016), (2025, 2017)] _ _ rfl rfl)
     ·refine Ap rfl (fun c19 => ?_) (fun c19 => ?_)
      ·have h := An c19 h
       refine Aq (Ab (AP (Ab (Aa Ac rfl (qf N8 rfl (ql Va rfl (qm rfl ?_)))))))
       obtain ⟨v20, a20, b20, h⟩ := Ak h
       refine qi R9 UM a20 (Ah b20) rfl (qK Xi UM rfl (qz XA rfl (qs UM rfl (Ad (Ab (Aa Ac rfl (qf TL rfl (ql Un rfl (Jv rfl (by decide) (FO SP QU rfl (AX rfl (qf T2 rfl (ql Un rfl (FO SP QU rfl (qf Bt rfl (ql Bg rfl (Dz AH rfl ?_)))))))))))))))))
       obtain ⟨c21, h⟩ := AL h
       refine Jv rfl c21 (qf Tm rfl (ql Un rfl (FO SP QU rfl (qf Bt rfl (ql Bg rfl (Dz AH rfl ?_))))))
       obtain ⟨c22, h⟩ := AL h
       refine Jv rfl c22 (Bz JU Wb rfl (qz JU rfl (qs DO rfl (AM (by kernel_rfl) ?_))))
       refine AQ h (fun v23 => mk [(1, oD (.ptr 1 0)), (2, oD (.ptr 2 0)), (4, oD (.ptr 4 0)), (7, iD v15.2), (8, oD (.ptr 8 0)), (9, oD (.ptr 9 0))] [(1, .box [sC (p0.fVersions.map A9), sC (p0.fNow.map A9), sC (p0.fTarget.map A9), sC (p0.fLinks.map B0)]), (2, .box [.pure (.nil0), .pure (.nil0), .pure (.nil0), .pure (.nil0)]), (4, .box [.own 2026, .own 2027, .own 2028, .own 2029]), (8, .box [.pure (.val (.int .u8 v20.fKind)), .pure (.val (.int .u8 v20.fFrom)), .pure (.val (.int .u8 v20.fTo)), .pure (.val (.bool v20.fAware)), .pure (.val (.int .u16 v20.fBad)), .pure (.val (.int .u16 v20.fLost))]), (9, .box [iC ((wI .i64 (1 + (wI .i64 ((Int.tmod v20.fKind 4)))))), iC ((Int.tmod ((wI .i64 v20.fFrom)) ((v5.1.length : Int)))), iC ((Int.tmod ((wI .i64 v20.fTo)) ((v5.1.length : Int)))), .pure (.val (.bool v23)), .pure (.nil0), .pure (.nil0)]), (2026, .vec 1 (v5.1.map Ai)), (2027, .vec 1 (v5.2.1.map Ai)), (2028, .vec 1 (v5.2.2.map Ai)), (2029, .vec 6 (v15.1.map Ao))]) (fun j23 h => ?_) (fun v23 h => ?_)
       ·refine Aa Ac rfl (qf Tt rfl (ql SN rfl (qm rfl ?_)))
        refine AC (t := 104) rfl (fun c24 => ?_) (fun c24 => ?_)
        ·have h := An c24 h
         refine qL GI DO rfl ?_
         obtain ⟨v25, a25, h⟩ := bind_some h
         refine AG [] (Ck N ((AO.mk ((wI .i64 (1 + (wI .i64 ((Int.tmod v20.fKind 4)))))) ((Int.tmod ((wI .i64 v20.fFrom)) ((v5.1.length : Int)))) ((Int.tmod ((wI .i64 v20.fTo)) ((v5.1.length : Int)))) false (([] : List (List Bool))) (([] : List (List Bool))))) v25 a25) Po rfl (Cq rfl (qp rfl (qf Ji rfl (qs PX rfl (Ad ?_)))))
         exact Av _ h (sm [(2026, 2022), (2027, 2023), (2028, 2024), (2029, 2025)] _ _ rfl rfl)
        ·have h := Am c24 h
         refine qn rfl (qn rfl (qn rfl (qp rfl (qf Ji rfl (qs PX rfl (Ad ?_))))))
         exact Av _ h (sm [(2026, 2022), (2027, 2023), (2028, 2024), (2029, 2025)] _ _ rfl rfl)
       ·refine Ab (Aa Ac rfl (qf Bt rfl (ql Bg rfl (qf C2 rfl (ql Cc rfl ?_)))))
        obtain ⟨v26, a26, b26, h⟩ := Ak h
        refine qI AH Df a26 (Ah b26) rfl (qj Cc (Ah b26) rfl (qf Bt rfl (ql Bg rfl (qf Ip rfl (ql Cc rfl ?_)))))
        obtain ⟨v27, a27, b27, h⟩ := Ak h
        refine qI AH Df a27 (Ah b27) rfl (qj Cc (Ah b27) rfl (qf TE rfl (ql Wz rfl ?_)))
        obtain ⟨v28, a28, h⟩ := bind_some h
        refine AG [2030] (Hk N v26 v27 v20.fBad false v28 a28) Wf rfl (qf J1 rfl (qs Wm rfl (AM (by kernel_rfl) ?_)))
        refine AQ h (fun v29 => mk [(1, oD (.ptr 1 0)), (2, oD (.ptr 2 0)), (4, oD (.ptr 4 0)), (7, iD v15.2), (9, oD (.ptr 9 0))] [(1, .box [sC (p0.fVersions.map A9), sC (p0.fNow.map A9), sC (p0.fTarget.map A9), sC (p0.fLinks.map B0)]), (2, .box [.pure (.nil0), .pure (.nil0), .pure (.nil0), .pure (.nil0)]), (4, .box [.own 2031, .own 2032, .own 2033, .own 2034]), (9, .box [iC ((wI .i64 (1 + (wI .i64 ((Int.tmod v20.fKind 4)))))), iC ((Int.tmod ((wI .i64 v20.fFrom)) ((v5.1.length : Int)))), iC ((Int.tmod ((wI .i64 v20.fTo)) ((v5.1.length : Int)))), .pure (.val (.bool v23)), .own 2035, .own 2036]), (2031, .vec 1 (v5.1.map Ai)), (2032, .vec 1 (v5.2.1.map Ai)), (2033, .vec 1 (v5.2.2.map Ai)), (2034, .vec 6 (v15.1.map Ao)), (2035, .vec 1 (v28.map (EP eB))), (2036, .vec 1 (v29.map (EP eB)))]) (fun j29 h => ?_) (fun v29 h => ?_)
        ·refine Ab (Aa Ac rfl (qf E3 rfl (ql Cc rfl (BD rfl (Ad ?_)))))
         refine Ap rfl (fun c30 => ?_) (fun c30 => ?_)
         ·have h := An c30 h
          refine Aa Ac rfl (qf Bt rfl (ql Bg rfl (qf C2 rfl (ql Cc rfl ?_))))
          obtain ⟨v31, a31, b31, h⟩ := Ak h
          refine qI AH Df a31 (Ah b31) rfl (qj Cc (Ah b31) rfl (qf Bt rfl (ql Bg rfl (qf C2 rfl (ql Cc rfl ?_)))))
          obtain ⟨v32, a32, b32, h⟩ := Ak h
          refine qI AH Df a32 (Ah b32) rfl (qj Cc (Ah b32) rfl (qf Tw rfl (ql Wz rfl ?_)))
          obtain ⟨v33, a33, h⟩ := bind_some h
          refine AG [2037] (Hk N v31 v32 v20.fLost true v33 a33) Wf rfl (qf FK rfl (qs Wm rfl (AM (by kernel_rfl) ?_)))
          exact Av _ h (sm [(2031, 2026), (2032, 2027), (2033, 2028), (2034, 2029), (2035, 2030), (2036, 2037)] _ _ rfl rfl)
         ·have h := Am c30 h
          refine Aq ?_
          exact Av _ h ((AA 9 5 2038 1 _ rfl rfl rfl rfl).trans (sm [(2031, 2026), (2032, 2027), (2033, 2028), (2034, 2029), (2035, 2030), (2036, 2038)] _ _ rfl rfl))
        ·refine Aa Ac rfl (qf CA rfl (ql Gu rfl (qL GI DO rfl (CC (A1 2035 _ _ rfl rfl) (CC (A1 2036 _ _ rfl rfl) (DT DN DO JU rfl ?_))))))
         obtain ⟨c34, h⟩ := AL h
         refine CQ (f := Ao) DN DN DO Wj JU c34 rfl (qf CA rfl (qs Xp rfl (Ad (Aa Ac rfl (qm rfl (AX rfl (qa rfl (Ad ?_))))))))
         exact Av _ h (sm [(2014, 2031), (2015, 2032), (2016, 2033), (2017, 149)] _ _ rfl rfl)
      ·have h := Am c19 h
       refine AY ?_
       exact Av _ h (sm [(2018, 2022), (2019, 2023), (2020, 2024), (2021, 2025)] _ _ rfl rfl)
    ·refine Al hs (Ab (Aa Ac rfl (qL DP Dr rfl (qs Dr rfl (qa rfl (Ad ?_))))))
     obtain rfl := sj h
     refine Al (sm [(1000, 2018), (1001, 2019), (1002, 2020), (1003, 2021)] [(2, oD (.ptr 2 0)), (3, bD true)] [(2, .box [.own 1000, .own 1001, .own 1002, .own 1003]), (1000, .vec 1 (v5.1.map Ai)), (1001, .vec 1 (v5.2.1.map Ai)), (1002, .vec 1 (v5.2.2.map Ai)), (1003, .vec 6 (v16.map Ao))] rfl rfl) (Az ?_)
     exact ⟨⟨[_, _], ⟨.cellN _ _ _ _ _ _ _ rfl rfl DP Dr rfl rfl (HR rfl), ⟨.tmp _ _ rfl, tv⟩⟩, rfl⟩, ⟨rfl, rfl, rfl, rfl, tv⟩⟩
theorem Dt (N : Nat) (p0 : Bool) (r : Ag) (h : Co N p0 = some r) : AB Tryz.prog 35 [bD p0] [(1, r.fVersions.map Ai), (1, r.fNow.map Ai), (1, r.fTarget.map Ai), (6, r.fTables.map Ao)] (.e (.agg [.own 0, .own 1, .own 2, .own 3])) := by
 unfold Co at h
 refine Au (n := 15) (rs := [.cell 2 30]) Tryz.func35 rfl rfl rfl (A5 rfl) (A5 rfl) rfl fun w0 S0 => ?_
 refine Ab (Aa Ac rfl (qz QZ rfl (Ad (Ab (Aa Ac rfl (DT EI PX TJ rfl (qm rfl (DT EI PX TJ rfl (CC (A1 4 _ _ rfl rfl) (CC (A1 6 _ _ rfl rfl) (DT FU Jz Sz rfl (Bz JU Wb rfl (qz JU rfl (qs DO rfl (Ad (Ab (Aa Ac rfl (DT AH Df KT rfl (DT AH Df KT rfl (DT AH Df KT rfl (qL GI DO rfl (CC (A1 7 _ _ rfl rfl) (DT DN DO JU rfl (Bz QZ Wi rfl (qs Dr rfl (Ad ?_))))))))))))))))))))))))))
 obtain rfl := sj h
 refine Al (sm [(1000, 9), (1001, 10), (1002, 11), (1003, 13)] [(2, oD (.ptr 2 0))] [(2, .box [.own 1000, .own 1001, .own 1002, .own 1003]), (1000, .vec 1 ((([2] : List Int)).map Ai)), (1001, .vec 1 ((([0] : List Int)).map Ai)), (1002, .vec 1 ((([1] : List Int)).map Ai)), (1003, .vec 6 ((([(AO.mk 1 0 0 false (([([true, true] : List Bool), ([p0, true] : List Bool)] : List (List Bool))) (([] : List (List Bool))))] : List AO)).map Ao))] rfl rfl) (Az ?_)
 exact ⟨⟨[_], ⟨.cellN _ _ _ _ _ _ _ rfl rfl DP Dr rfl rfl (HR rfl), tv⟩, rfl⟩, ⟨rfl, rfl, rfl, rfl, tv⟩⟩
theorem Ge (N : Nat) (p0 : Int) (p1 : Int) (r : Bool) (h : Dp N p0 p1 = some r) : AB Tryz.prog 100 [iD p0, iD p1] [] (bD r) := by
 unfold Dp at h
 refine Au (n := 12) (rs := [.tmp 4]) Tryz.func100 rfl rfl rfl (A5 rfl) (A5 rfl) rfl fun w0 S0 => ?_
 refine Ab (Aa Ac rfl (qa rfl (Ad ?_)))
 refine AQ h (fun v1 => mk [(4, bD v1)] []) (fun j1 h => ?_) (fun v1 h => ?_)
 ·refine Aa Ac rfl (qm rfl (CW rfl (qm rfl ?_)))
  refine AC (t := 7) rfl (fun c2 => ?_) (fun c2 => ?_)
  ·have h := An c2 h
   refine qm rfl (qm rfl (AZ rfl (qp rfl (qa rfl (Ad ?_)))))
   exact Av _ h (sm [] _ _ rfl rfl)
  ·have h := Am c2 h
   refine qn rfl (qn rfl (qn rfl (qp rfl (qa rfl (Ad ?_)))))
   exact Av _ h (sm [] _ _ rfl rfl)
 ·obtain rfl := sj h
  refine Al (sm [] [(4, bD v1)] [] rfl rfl) (Az ?_)
  exact ⟨⟨[_], ⟨.tmp _ _ rfl, tv⟩, rfl⟩, tv⟩
theorem N1 (N : Nat) (p0 : Int) (p1 : Bool) (r : Bool) (h : FC N p0 p1 = some r) : AB Tryz.prog 115 [iD p0, bD p1] [] (bD r) := by
 unfold FC at h
 refine Au (n := 23) (rs := [.tmp 4]) Tryz.func115 rfl rfl rfl (A5 rfl) (A5 rfl) rfl fun w0 S0 => ?_
 refine Ab (Aa Ac rfl (qa rfl (Ad ?_)))
 refine AQ h (fun v1 => mk [(4, bD v1)] []) (fun j1 h => ?_) (fun v1 h => ?_)
 ·refine Aa Ac rfl (qm rfl (BD rfl (qm rfl ?_)))
  refine AC (t := 7) rfl (fun c2 => ?_) (fun c2 => ?_)
  ·have h := An c2 h
   refine qn rfl (qn rfl (qp rfl (qm rfl (qn rfl (qn rfl (qn rfl (qu rfl (qu rfl (qn rfl (qn rfl (qu rfl (qu rfl (qn rfl (qp rfl (qa rfl (Ad ?_))))))))))))))))
   exact Av _ h (sm [] _ _ rfl rfl)
  ·have h := Am c2 h
   refine qm rfl (BD rfl (qp rfl (qm rfl ?_)))
   refine AC (t := 11) rfl (fun c3 => ?_) (fun c3 => ?_)
   ·have h := An c3 h
    refine qn rfl (qn rfl (qn rfl (qu rfl (qu rfl (qn rfl (qn rfl (qu rfl (qu rfl (qn rfl (qp rfl (qa rfl (Ad ?_))))))))))))
    exact Av _ h (sm [] _ _ rfl rfl)
   ·have h := Am c3 h
    refine qm rfl (BD rfl (qm rfl ?_))
    refine AC (t := 14) rfl (fun c4 => ?_) (fun c4 => ?_)
    ·have h := An c4 h
     refine qn rfl (qn rfl (qp rfl (qm rfl (qm rfl (Cq rfl (qp rfl (qp rfl (qa rfl (Ad ?_)))))))))
     exact Av _ h (sm [] _ _ rfl rfl)
    ·have h := Am c4 h
     refine qm rfl (BD rfl (qp rfl (qm rfl ?_)))
     refine AC (t := 18) rfl (fun c5 => ?_) (fun c5 => ?_)
     ·have h := An c5 h
      refine qm rfl (Cq rfl (qp rfl (qp rfl (qa rfl (Ad ?_)))))
      exact Av _ h (sm [] _ _ rfl rfl)
     ·have h := Am c5 h
      refine qn rfl (qn rfl (qp rfl (qp rfl (qa rfl (Ad ?_)))))
      exact Av _ h (sm [] _ _ rfl rfl)
 ·obtain rfl := sj h
  refine Al (sm [] [(4, bD v1)] [] rfl rfl) (Az ?_)
  exact ⟨⟨[_], ⟨.tmp _ _ rfl, tv⟩, rfl⟩, tv⟩
theorem KB (N : Nat) (p0 : List Bool) (p1 : Int) (r : Bool) (h : Dj N p0 p1 = some r) : AB Tryz.prog 124 [pD (.sl (p0.map eB)), oD (.rop [.val (.int .i64 p1)])] [] (bD r) := by
 unfold Dj at h
 refine Au (n := 8) (rs := [.tmp 3]) Tryz.func124 rfl rfl rfl (A5 rfl) (A5 rfl) rfl fun w0 S0 => ?_
 refine Ab (Aa Ac rfl (qa rfl (Ad (Ab (Aa Ac rfl (qm rfl (AV EI rfl (qk Cc rfl (B6 rfl (qa rfl (Ad ?_)))))))))))
 obtain rfl := sj h
 refine Al (sm [] [(3, bD (((p0.length : Int) != p1)))] [] rfl rfl) (Az ?_)
 exact ⟨⟨[_], ⟨.tmp _ _ rfl, tv⟩, rfl⟩, tv⟩
theorem GT (N : Nat) (p0 : List (List Bool)) (p1 : (List Bool) → Option Bool) (r : Int) (h : CU N p0 p1 = some r) : AB Tryz.prog 126 [pD (.sl (p0.map (EP eB))), oD (.clo (BM (OQ false (EP eB)) tB p1))] [] (iD r) := by
 unfold CU at h
 refine Au (n := 19) (rs := [.tmp 4]) Tryz.func126 rfl rfl rfl (A5 rfl) (A5 rfl) rfl fun w0 S0 => ?_
 refine Ab (Aa Ac rfl (qa rfl (Ad (Ab (Ab (Aa Ac rfl (qm rfl (AV FU rfl (qm rfl (Ad ?_))))))))))
 refine AJ (L := Bk N p0 p1) h (fun v1 => mk [(0, pD (.sl (p0.map (EP eB)))), (1, oD (.clo (BM (OQ false (EP eB)) tB p1))), (7, iD ((p0.length : Int))), (8, iD v1)] []) (fun v2 => mk [] []) (fun _ _ => rfl) (sm [] _ _ rfl rfl) (fun j1 n1 v1 h => ?_) (fun v2 s h hs => ?_)
 ·unfold Bk at h
  refine Ab (Aa Ac rfl (AZ rfl (Ad (Ab ?_))))
  refine Ap rfl (fun c3 => ?_) (fun c3 => ?_)
  ·have h := An c3 h
   refine Aq (Ab (AP (Ab (Aa Ac rfl (qm rfl (qa rfl (Ad (Ab (Aa Ac rfl (qm rfl (qm rfl (qm rfl ?_))))))))))))
   obtain ⟨v4, a4, b4, h⟩ := Ak h
   refine qi FU Jz a4 (Ah b4) rfl (qk Mt rfl ?_)
   obtain ⟨v5, a5, h⟩ := bind_some h
   refine D0 (ds0 := [_]) (ar := (OQ false (EP eB)) v4) (.p rfl) rfl rfl ⟨rfl, tv⟩ rfl rfl rfl (DZ (Ob _ _ (Wg W6)) a5) ?_
   refine Ad ?_
   refine Ap rfl (fun c6 => ?_) (fun c6 => ?_)
   ·have h := An c6 h
    refine Ab (Aa Ac rfl (qm rfl (qa rfl (Ad ?_))))
    obtain rfl := sj h
    refine Al (sm [] [(4, iD v1)] [] rfl rfl) (Az ?_)
    exact ⟨⟨[_], ⟨.tmp _ _ rfl, tv⟩, rfl⟩, tv⟩
   ·have h := Am c6 h
    refine Aq (Aa Ac rfl (AX rfl (qm rfl (Ad ?_))))
    exact Av _ h (sm [] _ _ rfl rfl)
  ·have h := Am c3 h
   refine AY ?_
   exact Av _ h (sm [] _ _ rfl rfl)
 ·refine Al hs (Ab (Aa Ac rfl (qa rfl (Ad ?_))))
  obtain rfl := sj h
  refine Al (sm [] [(4, iD ((-1)))] [] rfl rfl) (Az ?_)
  exact ⟨⟨[_], ⟨.tmp _ _ rfl, tv⟩, rfl⟩, tv⟩
theorem Gp (N : Nat) (p0 : List (List Bool)) (p1 : (List Bool) → Option Bool) (r : Bool) (h : Ct N p0 p1 = some r) : AB Tryz.prog 123 [pD (.sl (p0.map (EP eB))), oD (.clo (BM (OQ false (EP eB)) tB p1))] [] (bD r) := by
 unfold Ct at h
 refine Au (n := 9) (rs := [.tmp 4]) Tryz.func123 rfl rfl rfl (A5 rfl) (A5 rfl) rfl fun w0 S0 => ?_
 refine Ab (Aa Ac rfl (qa rfl (Ad (Ab (Aa Ac rfl (qm rfl (qm rfl ?_)))))))
 obtain ⟨v1, a1, h⟩ := bind_some h
 refine AG [] (GT N p0 p1 v1 a1) VQ rfl (CW rfl (qa rfl (Ad ?_)))
 obtain rfl := sj h
 refine Al (sm [] [(4, bD ((decide (0 ≤ v1))))] [] rfl rfl) (Az ?_)
 exact ⟨⟨[_], ⟨.tmp _ _ rfl, tv⟩, rfl⟩, tv⟩
theorem I2 (N : Nat) (p0 : List (List Bool)) (p1 : Int) (p2 : Int) (r : Bool) (h : Eg N p0 p1 p2 = some r) : AB Tryz.prog 116 [pD (.sl (p0.map (EP eB))), iD p1, iD p2] [] (bD r) := by
 unfold Eg at h
 refine Au (n := 17) (rs := [.tmp 6]) Tryz.func116 rfl rfl rfl (A5 rfl) (A5 rfl) rfl fun w0 S0 => ?_
 refine Ab (Aa Ac rfl (qb rfl (qa rfl (Ad ?_))))
 refine AQ h (fun v1 => mk [(6, bD v1)] []) (fun j1 h => ?_) (fun v1 h => ?_)
 ·refine Aa Ac rfl (qm rfl (AV FU rfl (qm rfl (BD rfl (qm rfl ?_)))))
  refine AC (t := 11) rfl (fun c2 => ?_) (fun c2 => ?_)
  ·have h := An c2 h
   refine qm rfl (CC (LF 5 [.val (.int .i64 p2)] rfl rfl) ?_)
   refine Lx (capD := [_]) (BM (OQ false (EP eB)) tB ((fun (x : List Bool) => Dj N x p2))) (.g rfl rfl) VX rfl ⟨rfl, tv⟩ rfl (fun ar t ht => by obtain ⟨x, r, rfl, hq, rfl⟩ := H0 ht; exact KB N x p2 r hq) ?_
   obtain ⟨v3, a3, h⟩ := bind_some h
   refine AG [] (Gp N p0 ((fun (x : List Bool) => Dj N x p2)) v3 a3) VS rfl (Cq rfl (qp rfl (qa rfl (Ad ?_))))
   exact Av _ h (sm [] _ _ rfl rfl)
  ·have h := Am c2 h
   refine qn rfl (qn rfl (qn rfl (qn rfl (qp rfl (qa rfl (Ad ?_))))))
   exact Av _ h (sm [] _ _ rfl rfl)
 ·obtain rfl := sj h
  refine Al (sm [] [(6, bD v1)] [] rfl rfl) (Az ?_)
  exact ⟨⟨[_], ⟨.tmp _ _ rfl, tv⟩, rfl⟩, tv⟩
theorem MS (N : Nat) (p0 : Ag) (p1 : AO) (r : Int) (h : Ff N p0 p1 = some r) : AB Tryz.prog 101 [.e (.agg [sC (p0.fVersions.map Ai), sC (p0.fNow.map Ai), sC (p0.fTarget.map Ai), sC (p0.fTables.map Ao)]), .e (.agg [iC p1.fKind, iC p1.fFrom, iC p1.fTo, .pure (.val (.bool p1.fAware)), sC (p1.fOK.map (EP eB)), sC (p1.fRewrite.map (EP eB))])] [] (iD r) := by
 unfold Ff at h
 refine Au (n := 87) (rs := [.tmp 4]) Tryz.func101 rfl rfl rfl (A5 rfl) (A5 rfl) rfl fun w0 S0 => ?_
 refine Ab (Aa Ac rfl (qb rfl (qb rfl (qa rfl (Ad (Ab (Ab (Aa Ac rfl (qf E3 rfl (ql Cc rfl (qf Ji rfl (ql SN rfl ?_))))))))))))
 obtain ⟨v1, a1, h⟩ := bind_some h
 refine AG [] (N1 N p1.fKind p1.fAware v1 a1) Wc rfl (Cq rfl (Ad ?_))
 refine Ap rfl (fun c2 => ?_) (fun c2 => ?_)
 ·have h := An c2 h
  refine Ab (Aa Ac rfl (qa rfl (Ad ?_)))
  obtain rfl := sj h
  refine Al (sm [] [(4, iD 1)] [] rfl rfl) (Az ?_)
  exact ⟨⟨[_], ⟨.tmp _ _ rfl, tv⟩, rfl⟩, tv⟩
 ·have h := Am c2 h
  refine Aq (Ab ?_)
  refine AQ h (fun v3 => mk [(2, oD (.ptr 2 0)), (3, oD (.ptr 3 0)), (29, bD v3)] [(2, .box [sC (p0.fVersions.map Ai), sC (p0.fNow.map Ai), sC (p0.fTarget.map Ai), sC (p0.fTables.map Ao)]), (3, .box [iC p1.fKind, iC p1.fFrom, iC p1.fTo, .pure (.val (.bool p1.fAware)), sC (p1.fOK.map (EP eB)), sC (p1.fRewrite.map (EP eB))])]) (fun j3 h => ?_) (fun v3 h => ?_)
  ·refine Aa Ac rfl (qf C2 rfl (ql Cc rfl (qf Bt rfl (ql Bg rfl (AV AH rfl ?_)))))
   obtain ⟨v4, a4, h⟩ := bind_some h
   refine AG [] (Ge N p1.fFrom ((p0.fVersions.length : Int)) v4 a4) QA rfl (Cq rfl (qm rfl ?_))
   refine AC (t := 21) rfl (fun c5 => ?_) (fun c5 => ?_)
   ·have h := An c5 h
    refine qn rfl (qn rfl (qn rfl (qn rfl (qn rfl (qn rfl (qn rfl (qp rfl (Ad ?_))))))))
    exact Av _ h (sm [] _ _ rfl rfl)
   ·have h := Am c5 h
    refine qf Ip rfl (ql Cc rfl (qf Bt rfl (ql Bg rfl (AV AH rfl ?_))))
    obtain ⟨v6, a6, h⟩ := bind_some h
    refine AG [] (Ge N p1.fTo ((p0.fVersions.length : Int)) v6 a6) QA rfl (Cq rfl (qp rfl (Ad ?_)))
    exact Av _ h (sm [] _ _ rfl rfl)
  ·refine Ap rfl (fun c7 => ?_) (fun c7 => ?_)
   ·have h := An c7 h
    refine Ab (Aa Ac rfl (qa rfl (Ad ?_)))
    obtain rfl := sj h
    refine Al (sm [] [(4, iD 4)] [] rfl rfl) (Az ?_)
    exact ⟨⟨[_], ⟨.tmp _ _ rfl, tv⟩, rfl⟩, tv⟩
   ·have h := Am c7 h
    refine Aq (Ab (Aa Ac rfl (qf Bt rfl (ql Bg rfl (qf C2 rfl (ql Cc rfl ?_))))))
    obtain ⟨v8, a8, b8, h⟩ := Ak h
    refine qi AH Df a8 (Ah b8) rfl (qk Cc rfl (qa rfl (Ad (Ab (Aa Ac rfl (qf E3 rfl (ql Cc rfl (BD rfl (qa rfl (Ad (Ab ?_)))))))))))
    refine AQ h (fun v9 => mk [(3, oD (.ptr 3 0)), (70, bD v9)] [(3, .box [iC p1.fKind, iC p1.fFrom, iC p1.fTo, .pure (.val (.bool p1.fAware)), sC (p1.fOK.map (EP eB)), sC (p1.fRewrite.map (EP eB))])]) (fun j9 h => ?_) (fun v9 h => ?_)
    ·refine Aa Ac rfl (qf J1 rfl (ql JI rfl (qm rfl (qf Bt rfl (ql Bg rfl (qf Ip rfl (ql Cc rfl ?_)))))))
     obtain ⟨v10, a10, b10, h⟩ := Ak h
     refine qi AH Df a10 (Ah b10) rfl (qk Cc rfl ?_)
     obtain ⟨v11, a11, h⟩ := bind_some h
     refine AG [] (I2 N p1.fOK v8 v10 v11 a11) T9 rfl (Cq rfl (qm rfl ?_))
     refine AC (t := 50) rfl (fun c12 => ?_) (fun c12 => ?_)
     ·have h := An c12 h
      refine qn rfl (qn rfl (qu rfl (qu rfl (qu rfl (qu rfl (qu rfl (qu rfl (qn rfl (qp rfl (qm rfl (qn rfl (qn rfl (qn rfl (qu rfl (qu rfl (qu rfl (qu rfl (qn rfl (qp rfl (AM (by kernel_rfl) ?_))))))))))))))))))))
      exact Av _ h (sm [] _ _ rfl rfl)
     ·have h := Am c12 h
      refine qm rfl (qm rfl ?_)
      refine AC (t := 52) rfl (fun c13 => ?_) (fun c13 => ?_)
      ·have h := An c13 h
       refine qf FK rfl (ql JI rfl (qm rfl (qm rfl ?_)))
       obtain ⟨v14, a14, h⟩ := bind_some h
       refine AG [] (I2 N p1.fRewrite v8 v8 v14 a14) T9 rfl (Cq rfl (qp rfl (qp rfl (qm rfl ?_))))
       refine AC (t := 61) rfl (fun c15 => ?_) (fun c15 => ?_)
       ·have h := An c15 h
        refine qn rfl (qn rfl (qn rfl (qu rfl (qu rfl (qu rfl (qu rfl (qn rfl (qp rfl (AM (by kernel_rfl) ?_)))))))))
        exact Av _ h (sm [] _ _ rfl rfl)
       ·have h := Am c15 h
        refine qm rfl (Cq rfl (qm rfl ?_))
        refine AC (t := 64) rfl (fun c16 => ?_) (fun c16 => ?_)
        ·have h := An c16 h
         refine qf FK rfl (ql JI rfl (AV FU rfl (Ey rfl (qp rfl (qp rfl (AM (by kernel_rfl) ?_))))))
         exact Av _ h (sm [] _ _ rfl rfl)
        ·have h := Am c16 h
         refine qn rfl (qn rfl (qn rfl (qn rfl (qp rfl (qp rfl (AM (by kernel_rfl) ?_))))))
         exact Av _ h (sm [] _ _ rfl rfl)
      ·have h := Am c13 h
       refine qn rfl (qn rfl (qn rfl (qn rfl (qn rfl (qn rfl (qp rfl (qp rfl (qm rfl (qm rfl (Cq rfl (qm rfl ?_)))))))))))
       refine AC (t := 64) rfl (fun c17 => ?_) (fun c17 => ?_)
       ·have h := An c17 h
        refine qf FK rfl (ql JI rfl (AV FU rfl (Ey rfl (qp rfl (qp rfl (AM (by kernel_rfl) ?_))))))
        exact Av _ h (sm [] _ _ rfl rfl)
       ·have h := Am c17 h
        refine qn rfl (qn rfl (qn rfl (qn rfl (qp rfl (qp rfl (AM (by kernel_rfl) ?_))))))
        exact Av _ h (sm [] _ _ rfl rfl)
    ·refine Ap rfl (fun c18 => ?_) (fun c18 => ?_)
     ·have h := An c18 h
      refine Ab (Aa Ac rfl (qa rfl (Ad ?_)))
      obtain rfl := sj h
      refine Al (sm [] [(4, iD 6)] [] rfl rfl) (Az ?_)
      exact ⟨⟨[_], ⟨.tmp _ _ rfl, tv⟩, rfl⟩, tv⟩
     ·have h := Am c18 h
      refine Aq (Ab (Ab (Aa Ac rfl (qf FK rfl (ql JI rfl (AV FU rfl (qm rfl (Ad ?_))))))))
      refine AJ (L := CG N p1) h (fun v19 => mk [(3, oD (.ptr 3 0)), (73, iD ((p1.fRewrite.length : Int))), (74, iD v19)] [(3, .box [iC p1.fKind, iC p1.fFrom, iC p1.fTo, .pure (.val (.bool p1.fAware)), sC (p1.fOK.map (EP eB)), sC (p1.fRewrite.map (EP eB))])]) (fun v20 => mk [] []) (fun _ _ => rfl) (sm [] _ _ rfl rfl) (fun j19 n19 v19 h => ?_) (fun v20 s h hs => ?_)
      ·unfold CG at h
       refine Ab (Aa Ac rfl (AZ rfl (Ad (Ab ?_))))
       refine Ap rfl (fun c21 => ?_) (fun c21 => ?_)
       ·have h := An c21 h
        refine Aq (Ab (AP (Ab (Aa Ac rfl (qm rfl (qa rfl (Ad (Ab (Aa Ac rfl (qf FK rfl (ql JI rfl (qm rfl ?_))))))))))))
        obtain ⟨v22, a22, b22, h⟩ := Ak h
        refine qi FU Jz a22 (Ah b22) rfl (qk Mt rfl (qm rfl ?_))
        obtain ⟨v23, a23, b23, h⟩ := Ak h
        refine qi EI PX a23 (Ah b23) rfl (qk SN rfl (Cq rfl (Ad ?_)))
        refine Ap rfl (fun c24 => ?_) (fun c24 => ?_)
        ·have h := An c24 h
         refine Ab (Aa Ac rfl (qa rfl (Ad ?_)))
         obtain rfl := sj h
         refine Al (sm [] [(4, iD 1)] [] rfl rfl) (Az ?_)
         exact ⟨⟨[_], ⟨.tmp _ _ rfl, tv⟩, rfl⟩, tv⟩
        ·have h := Am c24 h
         refine Aq (Aa Ac rfl (AX rfl (qm rfl (Ad ?_))))
         exact Av _ h (sm [] _ _ rfl rfl)
       ·have h := Am c21 h
        refine AY ?_
        exact Av _ h (sm [] _ _ rfl rfl)
      ·refine Al hs (Ab (Aa Ac rfl (qa rfl (Ad ?_))))
       obtain rfl := sj h
       refine Al (sm [] [(4, iD 0)] [] rfl rfl) (Az ?_)
       exact ⟨⟨[_], ⟨.tmp _ _ rfl, tv⟩, rfl⟩, tv⟩
theorem GJ (N : Nat) (p0 : Ag) (r : Int) (h : CY N p0 = some r) : AB Tryz.prog 75 [.e (.agg [sC (p0.fVersions.map Ai), sC (p0.fNow.map Ai), sC (p0.fTarget.map Ai), sC (p0.fTables.map Ao)])] [] (iD r) := by
 unfold CY at h
 refine Au (n := 81) (rs := [.tmp 2]) Tryz.func75 rfl rfl rfl (A5 rfl) (A5 rfl) rfl fun w0 S0 => ?_
 refine Ab (Aa Ac rfl (qb rfl (qa rfl (Ad (Ab (Aa Ac rfl (qf Bt rfl (ql Bg rfl (AV AH rfl (qa rfl (Ad (Ab ?_))))))))))))
 refine AQ h (fun v1 => mk [(1, oD (.ptr 1 0)), (3, iD ((p0.fVersions.length : Int))), (19, bD v1)] [(1, .box [sC (p0.fVersions.map Ai), sC (p0.fNow.map Ai), sC (p0.fTarget.map Ai), sC (p0.fTables.map Ao)])]) (fun j1 h => ?_) (fun v1 h => ?_)
 ·refine Aa Ac rfl (qm rfl (Ey rfl (qm rfl ?_)))
  refine AC (t := 14) rfl (fun c2 => ?_) (fun c2 => ?_)
  ·have h := An c2 h
   refine qn rfl (qn rfl (qn rfl (qn rfl (qp rfl (Ad ?_)))))
   exact Av _ h (sm [] _ _ rfl rfl)
  ·have h := Am c2 h
   refine qf CA rfl (ql Gu rfl (AV DN rfl (Ey rfl (qp rfl (Ad ?_)))))
   exact Av _ h (sm [] _ _ rfl rfl)
 ·refine Ap rfl (fun c3 => ?_) (fun c3 => ?_)
  ·have h := An c3 h
   refine Ab (Aa Ac rfl (qa rfl (Ad ?_)))
   obtain rfl := sj h
   refine Al (sm [] [(2, iD 3)] [] rfl rfl) (Az ?_)
   exact ⟨⟨[_], ⟨.tmp _ _ rfl, tv⟩, rfl⟩, tv⟩
  ·have h := Am c3 h
   refine Aq (Ab ?_)
   refine AQ h (fun v4 => mk [(1, oD (.ptr 1 0)), (31, bD v4)] [(1, .box [sC (p0.fVersions.map Ai), sC (p0.fNow.map Ai), sC (p0.fTarget.map Ai), sC (p0.fTables.map Ao)])]) (fun j4 h => ?_) (fun v4 h => ?_)
   ·refine Aa Ac rfl (qf FJ rfl (ql Bg rfl (AV AH rfl (qm rfl (B6 rfl (qm rfl ?_))))))
    refine AC (t := 25) rfl (fun c5 => ?_) (fun c5 => ?_)
    ·have h := An c5 h
     refine qn rfl (qn rfl (qn rfl (qn rfl (qn rfl (qp rfl (Ad ?_))))))
     exact Av _ h (sm [] _ _ rfl rfl)
    ·have h := Am c5 h
     refine qf Is rfl (ql Bg rfl (AV AH rfl (qm rfl (B6 rfl (qp rfl (Ad ?_))))))
     exact Av _ h (sm [] _ _ rfl rfl)
   ·refine Ap rfl (fun c6 => ?_) (fun c6 => ?_)
    ·have h := An c6 h
     refine Ab (Aa Ac rfl (qa rfl (Ad ?_)))
     obtain rfl := sj h
     refine Al (sm [] [(2, iD 6)] [] rfl rfl) (Az ?_)
     exact ⟨⟨[_], ⟨.tmp _ _ rfl, tv⟩, rfl⟩, tv⟩
    ·have h := Am c6 h
     refine Aq (Ab (Ab (Aa Ac rfl (qf Bt rfl (ql Bg rfl (AV AH rfl (qm rfl (Ad ?_))))))))
     refine AJ (L := BI N p0) h (fun v7 => mk [(1, oD (.ptr 1 0)), (33, pD (.sl (p0.fVersions.map Ai))), (34, iD ((p0.fVersions.length : Int))), (35, iD v7)] [(1, .box [sC (p0.fVersions.map Ai), sC (p0.fNow.map Ai), sC (p0.fTarget.map Ai), sC (p0.fTables.map Ao)])]) (fun v8 => mk [(1, oD (.ptr 1 0))] [(1, .box [sC (p0.fVersions.map Ai), sC (p0.fNow.map Ai), sC (p0.fTarget.map Ai), sC (p0.fTables.map Ao)])]) (fun _ _ => rfl) (sm [] _ _ rfl rfl) (fun j7 n7 v7 h => ?_) (fun v8 s h hs => ?_)
     ·unfold BI at h
      refine Ab (Aa Ac rfl (AZ rfl (Ad (Ab ?_))))
      refine Ap rfl (fun c9 => ?_) (fun c9 => ?_)
      ·have h := An c9 h
       refine Aq (Ab (AP (Ab (Aa Ac rfl (qm rfl ?_)))))
       obtain ⟨v10, a10, b10, h⟩ := Ak h
       refine qi AH Df a10 (Ah b10) rfl (qk Cc rfl (qa rfl (qa rfl (Ad ?_))))
       refine AQ h (fun v11 => mk [(1, oD (.ptr 1 0)), (33, pD (.sl (p0.fVersions.map Ai))), (34, iD ((p0.fVersions.length : Int))), (35, iD v7), (65, bD v11)] [(1, .box [sC (p0.fVersions.map Ai), sC (p0.fNow.map Ai), sC (p0.fTarget.map Ai), sC (p0.fTables.map Ao)])]) (fun j11 h => ?_) (fun v11 h => ?_)
       ·refine Aa Ac rfl (qm rfl (AZ rfl (qm rfl ?_)))
        refine AC (t := 42) rfl (fun c12 => ?_) (fun c12 => ?_)
        ·have h := An c12 h
         refine qn rfl (qn rfl (qp rfl (qm rfl (qn rfl (qn rfl (qn rfl (qn rfl (qn rfl (qn rfl (qn rfl (qn rfl (qp rfl (qm rfl (qn rfl (qn rfl (qn rfl (qn rfl (qn rfl (qn rfl (qn rfl (qn rfl (qp rfl (Ad ?_)))))))))))))))))))))))
         exact Av _ h (sm [] _ _ rfl rfl)
        ·have h := Am c12 h
         refine qm rfl (Ey rfl (qp rfl (qm rfl ?_)))
         refine AC (t := 46) rfl (fun c13 => ?_) (fun c13 => ?_)
         ·have h := An c13 h
          refine qn rfl (qn rfl (qn rfl (qn rfl (qn rfl (qn rfl (qn rfl (qn rfl (qp rfl (qm rfl (qn rfl (qn rfl (qn rfl (qn rfl (qn rfl (qn rfl (qn rfl (qn rfl (qp rfl (Ad ?_)))))))))))))))))))
          exact Av _ h (sm [] _ _ rfl rfl)
         ·have h := Am c13 h
          refine qf FJ rfl (ql Bg rfl (qm rfl ?_))
          obtain ⟨v14, a14, b14, h⟩ := Ak h
          refine qi AH Df a14 (Ah b14) rfl (qk Cc rfl (qm rfl ?_))
          obtain ⟨v15, a15, h⟩ := bind_some h
          refine AG [] (Ge N v14 v10 v15 a15) QA rfl (Cq rfl (qp rfl (qm rfl ?_)))
          refine AC (t := 56) rfl (fun c16 => ?_) (fun c16 => ?_)
          ·have h := An c16 h
           refine qn rfl (qn rfl (qn rfl (qn rfl (qn rfl (qn rfl (qn rfl (qn rfl (qp rfl (Ad ?_)))))))))
           exact Av _ h (sm [] _ _ rfl rfl)
          ·have h := Am c16 h
           refine qf Is rfl (ql Bg rfl (qm rfl ?_))
           obtain ⟨v17, a17, b17, h⟩ := Ak h
           refine qi AH Df a17 (Ah b17) rfl (qk Cc rfl (qm rfl ?_))
           obtain ⟨v18, a18, h⟩ := bind_some h
           refine AG [] (Ge N v17 v10 v18 a18) QA rfl (Cq rfl (qp rfl (Ad ?_)))
           exact Av _ h (sm [] _ _ rfl rfl)
       ·refine Ap rfl (fun c19 => ?_) (fun c19 => ?_)
        ·have h := An c19 h
         refine Ab (Aa Ac rfl (qa rfl (Ad ?_)))
         obtain rfl := sj h
         refine Al (sm [] [(2, iD 7)] [] rfl rfl) (Az ?_)
         exact ⟨⟨[_], ⟨.tmp _ _ rfl, tv⟩, rfl⟩, tv⟩
        ·have h := Am c19 h
         refine Aq (Aa Ac rfl (AX rfl (qm rfl (Ad ?_))))
         exact Av _ h (sm [] _ _ rfl rfl)
      ·have h := Am c9 h
       refine AY ?_
       exact Av _ h (sm [] _ _ rfl rfl)
     ·refine Al hs (Ab (Ab (Aa Ac rfl (qf CA rfl (ql Gu rfl (AV DN rfl (qm rfl (Ad ?_))))))))
      refine AJ (L := BC N p0) h (fun v20 => mk [(1, oD (.ptr 1 0)), (68, pD (.sl (p0.fTables.map Ao))), (69, iD ((p0.fTables.length : Int))), (70, iD v20)] [(1, .box [sC (p0.fVersions.map Ai), sC (p0.fNow.map Ai), sC (p0.fTarget.map Ai), sC (p0.fTables.map Ao)])]) (fun v21 => mk [] []) (fun _ _ => rfl) (sm [] _ _ rfl rfl) (fun j20 n20 v20 h => ?_) (fun v21 s h hs => ?_)
      ·unfold BC at h
       refine Ab (Aa Ac rfl (AZ rfl (Ad (Ab ?_))))
       refine Ap rfl (fun c22 => ?_) (fun c22 => ?_)
       ·have h := An c22 h
        refine Aq (Ab (AP (Ab (Aa Ac rfl ?_))))
        obtain ⟨v23, a23, b23, h⟩ := Ak h
        refine qi DN DO a23 (Ah b23) rfl (qK GI DO rfl (qz JU rfl (qs DO rfl (Ad (Ab (Aa Ac rfl (qL DP Dr rfl (qL GI DO rfl ?_))))))))
        obtain ⟨v24, a24, h⟩ := bind_some h
        refine AG [] (MS N p0 v23 v24 a24) Vo rfl (qa rfl (Ad (Ab (Aa Ac rfl (qm rfl (B6 rfl (Ad ?_)))))))
        refine Ap rfl (fun c25 => ?_) (fun c25 => ?_)
        ·have h := An c25 h
         refine Ab (Aa Ac rfl (qm rfl (qa rfl (Ad ?_))))
         obtain rfl := sj h
         refine Al (sm [] [(2, iD v24)] [] rfl rfl) (Az ?_)
         exact ⟨⟨[_], ⟨.tmp _ _ rfl, tv⟩, rfl⟩, tv⟩
        ·have h := Am c25 h
         refine Aq (Aa Ac rfl (AX rfl (qm rfl (Ad ?_))))
         exact Av _ h (sm [] _ _ rfl rfl)
       ·have h := Am c22 h
        refine AY ?_
        exact Av _ h (sm [] _ _ rfl rfl)
      ·refine Al hs (Ab (Aa Ac rfl (qa rfl (Ad ?_))))
       obtain rfl := sj h
       refine Al (sm [] [(2, iD 0)] [] rfl rfl) (Az ?_)
       exact ⟨⟨[_], ⟨.tmp _ _ rfl, tv⟩, rfl⟩, tv⟩
theorem Dg (N : Nat) (p0 : List Int) (r : (List Int)) (h : BA N p0 = some r) : AB Tryz.prog 58 [pD (.sl (p0.map Ai))] [(1, r.map Ai)] (oD (.own 0)) := by
 unfold BA at h
 refine Au (n := 8) (rs := [.tmp 2]) Tryz.func58 rfl rfl rfl (A5 rfl) (A5 rfl) rfl fun w0 S0 => ?_
 refine Ab (Aa Ac rfl (qa rfl (Ad (Ab (Ab (Aa Ac rfl (qm rfl ?_)))))))
 refine Qj (.p rfl) rfl AH ?_
 refine Ad ?_
 refine P4 rfl (fun c2 => ?_) ?_
 ·have c2 := List.map_eq_nil_iff.1 c2
  rw [c2] at h
  have h : (some (([] : List Int))) = some r := h
  refine Ab (Aa Ac rfl (qa rfl (Ad ?_)))
  obtain rfl := sj h
  refine Al ((Bn 2 2001 1 rfl rfl rfl).trans (sm [(1000, 2001)] [(2, oD (.own 1000))] [(1000, .vec 1 ((([] : List Int)).map Ai))] rfl rfl)) (Az ?_)
  exact ⟨⟨[_], ⟨.tmp _ _ rfl, tv⟩, rfl⟩, ⟨rfl, tv⟩⟩
 ·refine Aq (Ab (Aa Ac rfl (DT AH Df KT rfl (qm rfl ?_))))
  obtain ⟨c1, h⟩ := AL h
  refine Mw (f := Ai) AH AH Df LB KT (fun _ => rfl) c1 rfl (qa rfl (Ad ?_))
  obtain rfl := sj h
  refine Al (sm [(1000, 7)] [(2, oD (.own 1000))] [(1000, .vec 1 (((([] : List Int)) ++ p0).map Ai))] rfl rfl) (Az ?_)
  exact ⟨⟨[_], ⟨.tmp _ _ rfl, tv⟩, rfl⟩, ⟨rfl, tv⟩⟩
theorem Ku (N : Nat) (p0 : Int) (p1 : Int) (r : Int × Int) (h : FQ N p0 p1 = some r) : AB Tryz.prog 117 [pD (.val (.int .u32 p0)), pD (.val (.int .u32 p1))] [] (.tup [.one (.pure (.val (.int .u32 r.1))), .one (.pure (.val (.int .u32 r.2)))]) := by
 unfold FQ at h
 refine Au (n := 17) (rs := [.tmp 4, .tmp 5]) Tryz.func117 rfl rfl rfl (A5 rfl) (A5 rfl) rfl fun w0 S0 => ?_
 refine Ab (Aa Ac rfl (qa rfl (qa rfl (Ad (Ab (Aa Ac rfl (qm rfl (FO O5 Uk rfl (qm rfl (FO O5 Uk rfl (HA rfl (qa rfl (Ad (Ab (Aa Ac rfl (qm rfl (Gb rfl (by decide) (FO Sk Pa rfl (qm rfl (FO Sk Pa rfl (qa rfl (qa rfl (Ad ?_)))))))))))))))))))))))
 obtain rfl := sj h
 refine Al (sm [] [(4, pD (.val (.int .u32 ((wI .u32 ((Dx .u64 ((wI .u64 ((wI .u64 p0) * (wI .u64 p1)))) 32))))))), (5, pD (.val (.int .u32 ((wI .u32 ((wI .u64 ((wI .u64 p0) * (wI .u64 p1)))))))))] [] rfl rfl) (Az ?_)
 exact ⟨⟨[_, _], ⟨.tmp _ _ rfl, ⟨.tmp _ _ rfl, tv⟩⟩, rfl⟩, tv⟩
theorem Kl (N : Nat) (p0 : Int) (p1 : Int) (r : Int × Int) (h : FT N p0 p1 = some r) : AB Tryz.prog 118 [pD (.val (.int .u64 p0)), pD (.val (.int .u64 p1))] [] (.tup [.one (.pure (.val (.int .u64 r.1))), .one (.pure (.val (.int .u64 r.2)))]) := by
 unfold FT at h
 refine Au (n := 51) (rs := [.tmp 4, .tmp 5]) Tryz.func118 rfl rfl rfl (A5 rfl) (A5 rfl) rfl fun w0 S0 => ?_
 refine Ab (Aa Ac rfl (qa rfl (qa rfl (Ad (Ab (Aa Ac rfl (qm rfl (Jx rfl (qa rfl (Ad (Ab (Aa Ac rfl (qm rfl (Gb rfl (by decide) (qa rfl (Ad (Ab (Aa Ac rfl (qm rfl (Jx rfl (qa rfl (Ad (Ab (Aa Ac rfl (qm rfl (Gb rfl (by decide) (qa rfl (Ad (Ab (Aa Ac rfl (qm rfl (qm rfl (HA rfl (qa rfl (Ad (Ab (Aa Ac rfl (qm rfl (qm rfl ?_)))))))))))))))))))))))))))))))))))))))
 refine HA rfl (qm rfl (Gb rfl (by decide) (AX rfl (qa rfl (Ad (Ab (Aa Ac rfl (qm rfl (Jx rfl (qa rfl (Ad (Ab (Aa Ac rfl (qm rfl (Gb rfl (by decide) (qa rfl (Ad (Ab (Aa Ac rfl (qm rfl (qm rfl (qm rfl (HA rfl (AX rfl (qa rfl (Ad (Ab (Aa Ac rfl (qm rfl (qm rfl (HA rfl (qm rfl (AX rfl (qm rfl (Gb rfl (by decide) (AX rfl (qa rfl (Ad (Ab ?_)))))))))))))))))))))))))))))))))))))))
 refine Aa Ac rfl (qm rfl (qm rfl (HA rfl (qa rfl (Ad ?_)))))
 obtain rfl := sj h
 refine Al (sm [] [(4, pD (.val (.int .u64 ((wI .u64 ((wI .u64 ((wI .u64 ((Dx .u64 p0 32) * (Dx .u64 p1 32))) + (Dx .u64 ((wI .u64 ((wI .u64 ((Dx .u64 p0 32) * (EC .u64 p1 4294967295))) + (Dx .u64 ((wI .u64 ((EC .u64 p0 4294967295) * (EC .u64 p1 4294967295)))) 32)))) 32))) + (Dx .u64 ((wI .u64 ((EC .u64 ((wI .u64 ((wI .u64 ((Dx .u64 p0 32) * (EC .u64 p1 4294967295))) + (Dx .u64 ((wI .u64 ((EC .u64 p0 4294967295) * (EC .u64 p1 4294967295)))) 32)))) 4294967295) + (wI .u64 ((EC .u64 p0 4294967295) * (Dx .u64 p1 32)))))) 32))))))), (5, pD (.val (.int .u64 ((wI .u64 (p0 * p1))))))] [] rfl rfl) (Az ?_)
 exact ⟨⟨[_, _], ⟨.tmp _ _ rfl, ⟨.tmp _ _ rfl, tv⟩⟩, rfl⟩, tv⟩
theorem Ll (N : Nat) (p0 : Int) (p1 : Int) (r : Int × Int) (h : GB N p0 p1 = some r) : AB Tryz.prog 102 [pD (.val (.int .u64 p0)), pD (.val (.int .u64 p1))] [] (.tup [.one (.pure (.val (.int .u64 r.1))), .one (.pure (.val (.int .u64 r.2)))]) := by
 unfold GB at h
 refine Au (n := 30) (rs := [.tmp 4, .tmp 5]) Tryz.func102 rfl rfl rfl (A5 rfl) (A5 rfl) rfl fun w0 S0 => ?_
 refine Ab (Aa Ac rfl (qa rfl (qa rfl (Ad (Ab ?_)))))
 refine Ap rfl (fun c1 => ?_) (fun c1 => ?_)
 ·have h := An c1 h
  refine Ab (Aa Ac rfl (qm rfl (FO OW Pa rfl (qm rfl (FO OW Pa rfl ?_)))))
  obtain ⟨v2, a2, h⟩ := bind_some h
  refine AG [] (Ku N ((wI .u32 p0)) ((wI .u32 p1)) v2 a2) We rfl (qm rfl (qx rfl (qx rfl (qa rfl (qa rfl (Ad (Ab (Aa Ac rfl (qm rfl (FO O5 M6 rfl (qm rfl (FO O5 M6 rfl (qa rfl (qa rfl (Ad ?_)))))))))))))))
  obtain rfl := sj h
  refine Al (sm [] [(4, pD (.val (.int .u64 ((wI .u64 v2.1))))), (5, pD (.val (.int .u64 ((wI .u64 v2.2)))))] [] rfl rfl) (Az ?_)
  exact ⟨⟨[_, _], ⟨.tmp _ _ rfl, ⟨.tmp _ _ rfl, tv⟩⟩, rfl⟩, tv⟩
 ·have h := Am c1 h
  refine Aq (Ab (Aa Ac rfl (qm rfl (qm rfl ?_))))
  obtain ⟨v3, a3, h⟩ := bind_some h
  refine AG [] (Kl N p0 p1 v3 a3) VR rfl (qm rfl (qx rfl (qx rfl (qa rfl (qa rfl (Ad (Ab (Aa Ac rfl (qm rfl (qm rfl (qa rfl (qa rfl (Ad ?_)))))))))))))
  obtain rfl := sj h
  refine Al (sm [] [(4, pD (.val (.int .u64 v3.1))), (5, pD (.val (.int .u64 v3.2)))] [] rfl rfl) (Az ?_)
  exact ⟨⟨[_, _], ⟨.tmp _ _ rfl, ⟨.tmp _ _ rfl, tv⟩⟩, rfl⟩, tv⟩
theorem Id (N : Nat) (p0 : List Int) (p1 : Int) (r : (List Int)) (h : DD N p0 p1 = some r) : AB Tryz.prog 76 [pD (.sl (p0.map Ai)), iD p1] [(1, r.map Ai)] (oD (.own 0)) := by
 unfold DD at h
 refine Au (n := 48) (rs := [.tmp 4]) Tryz.func76 rfl rfl rfl (A5 rfl) (A5 rfl) rfl fun w0 S0 => ?_
 refine Ab (Aa Ac rfl (qa rfl (Ad ?_)))
 refine AQ h (fun v1 => mk [(0, pD (.sl (p0.map Ai))), (1, iD p1)] []) (fun j1 h => ?_) (fun v1 h => ?_)
 ·refine Ab (Aa Ac rfl (qm rfl (AZ rfl (Ad ?_))))
  refine Ap rfl (fun c2 => ?_) (fun c2 => ?_)
  ·have h := An c2 h
   refine Aa Ac rfl ?_
   cases h
  ·have h := Am c2 h
   refine Aq ?_
   exact Av _ h (sm [] _ _ rfl rfl)
 ·refine Ab (Aa Ac rfl (qm rfl (AV AH rfl (FO UI M6 rfl (qm rfl (FO UI M6 rfl ?_))))))
  obtain ⟨v3, a3, h⟩ := bind_some h
  refine AG [] (Ll N ((wI .u64 ((p0.length : Int)))) ((wI .u64 p1)) v3 a3) V6 rfl (qm rfl (qx rfl (qx rfl (qa rfl (qa rfl (Ad ?_))))))
  refine AQ h (fun v4 => mk [(0, pD (.sl (p0.map Ai))), (6, pD (.val (.int .u64 v3.2)))] []) (fun j4 h => ?_) (fun v4 h => ?_)
  ·refine AQ h (fun v5 => mk [(0, pD (.sl (p0.map Ai))), (6, pD (.val (.int .u64 v3.2))), (26, bD v5)] []) (fun j5 h => ?_) (fun v5 h => ?_)
   ·refine Aa Ac rfl (qm rfl (Ey rfl (qm rfl ?_)))
    refine AC (t := 23) rfl (fun c6 => ?_) (fun c6 => ?_)
    ·have h := An c6 h
     refine qn rfl (qn rfl (qp rfl (Ad ?_)))
     exact Av _ h (sm [] _ _ rfl rfl)
    ·have h := Am c6 h
     refine qm rfl (Ey rfl (qp rfl (Ad ?_)))
     exact Av _ h (sm [] _ _ rfl rfl)
   ·refine Ap rfl (fun c7 => ?_) (fun c7 => ?_)
    ·have h := An c7 h
     refine Aa Ac rfl ?_
     cases h
    ·have h := Am c7 h
     refine Aq ?_
     exact Av _ h (sm [] _ _ rfl rfl)
  ·refine Ab (Aa Ac rfl (qm rfl (FO OW QU rfl ?_)))
   obtain ⟨c8, h⟩ := AL h
   refine La (.p rfl) rfl rfl rfl AH Df LB (A5 rfl) KT rfl rfl rfl c8.1 c8.2.1 c8.2.2 (P3 Ai _ ((0 : Int))) ?_
   refine qa rfl (Ad (Ab (Aa Ac rfl (qm rfl (qm rfl ?_)))))
   refine P9 Ai (List.replicate ((wI .i64 v3.2)).toNat ((0 : Int))) p0 (.p rfl) rfl (GM Ai _ _ (List.replicate ((wI .i64 v3.2)).toNat ((0 : Int)))) rfl rfl (Tx Ai _ _ (fun _ => rfl)) tv AH Df ?_
   refine qa rfl (Ad (Ab ?_))
   refine AJ (L := De N) h (fun v9 => mk [(7, oD (.own 2001)), (8, iD v9.2)] [(2001, .vec 1 (v9.1.map Ai))]) (fun v10 => mk [(7, oD (.own 2002))] [(2002, .vec 1 (v10.map Ai))]) (fun _ _ => rfl) (sm [(2001, 30)] _ _ rfl rfl) (fun j9 n9 v9 h => ?_) (fun v10 s h hs => ?_)
   ·unfold De at h
    refine Ab (Ab (Aa Ac rfl (qm rfl (qm rfl (Dz AH rfl (AZ rfl (Ad ?_)))))))
    refine Ap rfl (fun c11 => ?_) (fun c11 => ?_)
    ·have h := An c11 h
     refine Aq (AP (Aa Ac rfl (qm rfl (qm rfl (qm rfl ?_)))))
     obtain ⟨c12, h⟩ := AL h
     have w13 : ((v9.2).toNat) + ((v9.1.length - (v9.2).toNat)) ≤ v9.1.length := by have := c12.2.1; have := c12.2.2; omega
     refine Hv Ai v9.1 (.p rfl) rfl (GM Ai _ _ v9.1) rfl AH Df (.some _ _ _ _ c12.1) (.none _) ⟨rfl, tv⟩ tv c12.2.1 (by rw [Nat.zero_add]; exact c12.2.2) (Nat.zero_add _) rfl ?_
     refine qm rfl (qm rfl ?_)
     obtain ⟨c14, h⟩ := AL h
     have w15 : 0 + ((v9.2).toNat) ≤ v9.1.length := by have := c14.2.1; have := c14.2.2; omega
     refine Hv Ai v9.1 (.p rfl) rfl (GM Ai _ _ v9.1) rfl AH Df (.none _) (.some _ _ _ _ c14.1) tv ⟨rfl, tv⟩ c14.2.1 (by rw [Nat.zero_add]; exact c14.2.2) (Nat.zero_add _) rfl ?_
     refine P9 Ai v9.1 (((v9.1.drop 0).take ((v9.2).toNat))) (.p rfl) rfl (KS Ai _ _ ((v9.2).toNat) ((v9.1.length - (v9.2).toNat)) v9.1 w13) rfl rfl (Q0 Ai _ _ 0 ((v9.2).toNat) v9.1 w15) ⟨rfl, tv⟩ AH Df ?_
     refine AX rfl (qa rfl (AM (by kernel_rfl) ?_))
     exact Av _ h (sm [] _ _ rfl rfl)
    ·have h := Am c11 h
     refine AY ?_
     exact Av _ h (sm [(2002, 2001)] _ _ rfl rfl)
   ·refine Al hs (Ab (Aa Ac rfl (qm rfl (qa rfl (Ad ?_)))))
    obtain rfl := sj h
    refine Al (sm [(1000, 2002)] [(4, oD (.own 1000))] [(1000, .vec 1 (v10.map Ai))] rfl rfl) (Az ?_)
    exact ⟨⟨[_], ⟨.tmp _ _ rfl, tv⟩, rfl⟩, ⟨rfl, tv⟩⟩
theorem Im (N : Nat) (p0 : AO) (r : Bool) (h : Eo N p0 = some r) : AB Tryz.prog 77 [.e (.agg [iC p0.fKind, iC p0.fFrom, iC p0.fTo, .pure (.val (.bool p0.fAware)), sC (p0.fOK.map (EP eB)), sC (p0.fRewrite.map (EP eB))])] [] (bD r) := by
 unfold Eo at h
 refine Au (n := 11) (rs := [.tmp 2]) Tryz.func77 rfl rfl rfl (A5 rfl) (A5 rfl) rfl fun w0 S0 => ?_
 refine Ab (Aa Ac rfl (qb rfl (qa rfl (Ad ?_))))
 refine AQ h (fun v1 => mk [(2, bD v1)] []) (fun j1 h => ?_) (fun v1 h => ?_)
 ·refine Aa Ac rfl (qf E3 rfl (ql Cc rfl (BD rfl (qm rfl ?_))))
  refine AC (t := 6) rfl (fun c2 => ?_) (fun c2 => ?_)
  ·have h := An c2 h
   refine qn rfl (qn rfl (qn rfl (qp rfl (qa rfl (Ad ?_)))))
   exact Av _ h (sm [] _ _ rfl rfl)
  ·have h := Am c2 h
   refine qf E3 rfl (ql Cc rfl (BD rfl (qp rfl (qa rfl (Ad ?_)))))
   exact Av _ h (sm [] _ _ rfl rfl)
 ·obtain rfl := sj h
  refine Al (sm [] [(2, bD v1)] [] rfl rfl) (Az ?_)
  exact ⟨⟨[_], ⟨.tmp _ _ rfl, tv⟩, rfl⟩, tv⟩
theorem KY (N : Nat) (p0 : Ag) (r : Ae × Int) (h : Fi N p0 = some r) : AB Tryz.prog 55 [.e (.agg [sC (p0.fVersions.map Ai), sC (p0.fNow.map Ai), sC (p0.fTarget.map Ai), sC (p0.fTables.map Ao)])] [(1, r.1.fBase.map Ai), (1, r.1.fNext.map Ai), (1, r.1.fHeld.map A9)] (.tup [.agg [.own 0, .own 1, .own 2], .one (iC r.2)]) := by
 unfold Fi at h
 refine Au (n := 50) (rs := [.cell 2 50, .tmp 3]) Tryz.func55 rfl rfl rfl (A5 rfl) (A5 rfl) rfl fun w0 S0 => ?_
 refine Ab (Aa Ac rfl (qb rfl (qz Cv rfl (qa rfl (Ad (Ab (Ab (Aa Ac rfl (qL DP Dr rfl ?_)))))))))
 obtain ⟨v1, a1, h⟩ := bind_some h
 refine AG [] (GJ N p0 v1 a1) Vt rfl (qa rfl (Ad (Ab (Aa Ac rfl (qm rfl (B6 rfl (Ad ?_)))))))
 refine Ap rfl (fun c2 => ?_) (fun c2 => ?_)
 ·have h := An c2 h
  refine Ab (Aa Ac rfl (Bz Cv GR rfl (qm rfl (qs Ax rfl (qa rfl (Ad ?_))))))
  obtain rfl := sj h
  refine Al ((AA 2 0 2001 1 _ rfl rfl rfl rfl).trans ((AA 2 1 2002 1 _ rfl rfl rfl rfl).trans ((AA 2 2 2003 1 _ rfl rfl rfl rfl).trans (sm [(1000, 2001), (1001, 2002), (1002, 2003)] [(2, oD (.ptr 2 0)), (3, iD v1)] [(2, .box [.own 1000, .own 1001, .own 1002]), (1000, .vec 1 ((([] : List Int)).map Ai)), (1001, .vec 1 ((([] : List Int)).map Ai)), (1002, .vec 1 ((([] : List Int)).map A9))] rfl rfl)))) (Az ?_)
  exact ⟨⟨[_, _], ⟨.cellN _ _ _ _ _ _ _ rfl rfl A0 Ax rfl rfl (HR rfl), ⟨.tmp _ _ rfl, tv⟩⟩, rfl⟩, ⟨rfl, rfl, rfl, tv⟩⟩
 ·have h := Am c2 h
  refine Aq (Ab (Aa Ac rfl (qf FJ rfl (ql Bg rfl ?_))))
  obtain ⟨v3, a3, h⟩ := bind_some h
  refine AG [2004] (Dg N p0.fNow v3 a3) Sr rfl (DT AH Df KT rfl (qf FJ rfl (ql Bg rfl (AV AH rfl ?_))))
  obtain ⟨v4, a4, h⟩ := bind_some h
  refine FG [2005] [17] (Id N (([(-1)] : List Int)) ((p0.fNow.length : Int)) v4 a4) Xs (Hm (fun _ => rfl) Ef) rfl (qf CA rfl (ql Gu rfl (AV DN rfl ?_)))
  obtain ⟨c5, h⟩ := AL h
  refine La (.p rfl) rfl rfl rfl C3 Fa Qf (A5 rfl) PJ rfl rfl rfl c5.1 c5.2.1 c5.2.2 (P3 A9 _ ((0 : Int))) ?_
  refine Bz Cv GR rfl (qz Cv rfl (qs Ax rfl (AM (by kernel_rfl) (Ab (Ab (Aa Ac rfl (qf CA rfl (ql Gu rfl (AV DN rfl (qm rfl (Ad ?_)))))))))))
  refine AJ (L := Dn N p0) h (fun v6 => mk [(1, oD (.ptr 1 0)), (2, oD (.ptr 2 0)), (5, oD (.ptr 5 0)), (28, pD (.sl (p0.fTables.map Ao))), (29, iD ((p0.fTables.length : Int))), (30, iD v6.2)] [(1, .box [sC (p0.fVersions.map Ai), sC (p0.fNow.map Ai), sC (p0.fTarget.map Ai), sC (p0.fTables.map Ao)]), (2, .box [.pure (.nil0), .pure (.nil0), .pure (.nil0)]), (5, .box [.own 2006, .own 2007, .own 2008]), (2006, .vec 1 (v3.map Ai)), (2007, .vec 1 (v4.map Ai)), (2008, .vec 1 (v6.1.map A9))]) (fun v7 => mk [(2, oD (.ptr 2 0)), (5, oD (.ptr 5 0))] [(2, .box [.pure (.nil0), .pure (.nil0), .pure (.nil0)]), (5, .box [.own 2009, .own 2010, .own 2011]), (2009, .vec 1 (v3.map Ai)), (2010, .vec 1 (v4.map Ai)), (2011, .vec 1 (v7.map A9))]) (fun _ _ => rfl) (sm [(2006, 2004), (2007, 2005), (2008, 25)] _ _ rfl rfl) (fun j6 n6 v6 h => ?_) (fun v7 s h hs => ?_)
  ·unfold Dn at h
   refine Ab (Aa Ac rfl (AZ rfl (Ad (Ab ?_))))
   refine Ap rfl (fun c8 => ?_) (fun c8 => ?_)
   ·have h := An c8 h
    refine Aq ?_
    refine AQ h (fun v9 => mk [(1, oD (.ptr 1 0)), (2, oD (.ptr 2 0)), (5, oD (.ptr 5 0)), (28, pD (.sl (p0.fTables.map Ao))), (29, iD ((p0.fTables.length : Int))), (30, iD v6.2)] [(1, .box [sC (p0.fVersions.map Ai), sC (p0.fNow.map Ai), sC (p0.fTarget.map Ai), sC (p0.fTables.map Ao)]), (2, .box [.pure (.nil0), .pure (.nil0), .pure (.nil0)]), (5, .box [.own 2012, .own 2013, .own 2014]), (2012, .vec 1 (v3.map Ai)), (2013, .vec 1 (v4.map Ai)), (2014, .vec 1 (v9.map A9))]) (fun j9 h => ?_) (fun v9 h => ?_)
    ·refine AP (Ab (Aa Ac rfl (qm rfl ?_)))
     obtain ⟨v10, a10, b10, h⟩ := Ak h
     refine qi DN DO a10 (Ah b10) rfl (qK GI DO rfl (qz JU rfl (qa rfl (qs DO rfl (Ad (Ab (Aa Ac rfl (qL GI DO rfl ?_))))))))
     obtain ⟨v11, a11, h⟩ := bind_some h
     refine AG [] (Im N v10 v11 a11) UO rfl (Ad ?_)
     refine Ap rfl (fun c12 => ?_) (fun c12 => ?_)
     ·have h := An c12 h
      refine Aa Ac rfl (qf Cs rfl (ql Ga rfl (qm rfl (qf FJ rfl (ql Bg rfl (qf C2 rfl (ql Cc rfl ?_)))))))
      obtain ⟨v13, a13, b13, h⟩ := Ak h
      refine qi AH Df a13 (Ah b13) rfl (qk Cc rfl ?_)
      obtain ⟨c14, h⟩ := AL h
      refine G6 rfl c14 ?_
      obtain ⟨v15, a15, b15, h⟩ := Ak h
      refine qI C3 Fa a15 (Ah b15) rfl ?_
      refine A8 rfl rfl rfl rfl (Ah b15) rfl Fa rfl (A5 rfl) (A6 A9 v6.1 _ ((B3 .u8 1 v13))) ?_
      refine AM (by kernel_rfl) ?_
      exact Av _ h (sm [(2012, 2006), (2013, 2007), (2014, 2008)] _ _ rfl rfl)
     ·have h := Am c12 h
      refine Aq ?_
      exact Av _ h (sm [(2012, 2006), (2013, 2007), (2014, 2008)] _ _ rfl rfl)
    ·refine Aa Ac rfl (AX rfl (qm rfl (Ad ?_)))
     exact Av _ h (sm [(2006, 2012), (2007, 2013), (2008, 2014)] _ _ rfl rfl)
   ·have h := Am c8 h
    refine AY ?_
    exact Av _ h (sm [(2009, 2006), (2010, 2007), (2011, 2008)] _ _ rfl rfl)
  ·refine Al hs (Ab (Aa Ac rfl (qL A0 Ax rfl (qs Ax rfl (qa rfl (Ad ?_))))))
   obtain rfl := sj h
   refine Al (sm [(1000, 2009), (1001, 2010), (1002, 2011)] [(2, oD (.ptr 2 0)), (3, iD 0)] [(2, .box [.own 1000, .own 1001, .own 1002]), (1000, .vec 1 (v3.map Ai)), (1001, .vec 1 (v4.map Ai)), (1002, .vec 1 (v7.map A9))] rfl rfl) (Az ?_)
   exact ⟨⟨[_, _], ⟨.cellN _ _ _ _ _ _ _ rfl rfl A0 Ax rfl rfl (HR rfl), ⟨.tmp _ _ rfl, tv⟩⟩, rfl⟩, ⟨rfl, rfl, rfl, tv⟩⟩
theorem HO (N : Nat) (p0 : Ae) (p1 : Int) (r : Int) (h : D6 N p0 p1 = some r) : AB Tryz.prog 80 [.e (.agg [sC (p0.fBase.map Ai), sC (p0.fNext.map Ai), sC (p0.fHeld.map A9)]), iD p1] [] (pD (.val (.int .u8 r))) := by
 unfold D6 at h
 refine Au (n := 27) (rs := [.tmp 4]) Tryz.func80 rfl rfl rfl (A5 rfl) (A5 rfl) rfl fun w0 S0 => ?_
 refine Ab (Aa Ac rfl (qb rfl (qa rfl (Ad (Ab (Aa Ac rfl (qf Cz rfl (ql Bg rfl (qm rfl ?_)))))))))
 obtain ⟨v1, a1, b1, h⟩ := Ak h
 refine qi AH Df a1 (Ah b1) rfl (qk Cc rfl ?_)
 obtain ⟨c2, h⟩ := AL h
 refine G6 rfl c2 (qa rfl (Ad ?_))
 refine AQ h (fun v3 => mk [(5, pD (.val (.int .u8 v3)))] []) (fun j3 h => ?_) (fun v3 h => ?_)
 ·refine Ab (Aa Ac rfl (qf BG rfl (ql Bg rfl (qm rfl ?_))))
  obtain ⟨v4, a4, b4, h⟩ := Ak h
  refine qi AH Df a4 (Ah b4) rfl (qk Cc rfl (CW rfl (Ad ?_)))
  refine Ap rfl (fun c5 => ?_) (fun c5 => ?_)
  ·have h := An c5 h
   refine Aa Ac rfl (qm rfl (qf BG rfl (ql Bg rfl (qm rfl ?_))))
   obtain ⟨v6, a6, b6, h⟩ := Ak h
   refine qi AH Df a6 (Ah b6) rfl (qk Cc rfl ?_)
   obtain ⟨c7, h⟩ := AL h
   refine G6 rfl c7 (Ss rfl (qa rfl (Ad ?_)))
   exact Av _ h (sm [] _ _ rfl rfl)
  ·have h := Am c5 h
   refine Aq ?_
   exact Av _ h (sm [] _ _ rfl rfl)
 ·refine Ab (Aa Ac rfl (qm rfl (qa rfl (Ad ?_))))
  obtain rfl := sj h
  refine Al (sm [] [(4, pD (.val (.int .u8 v3)))] [] rfl rfl) (Az ?_)
  exact ⟨⟨[_], ⟨.tmp _ _ rfl, tv⟩, rfl⟩, tv⟩
theorem HE (N : Nat) (p0 : Ag) (p1 : Ae) (r : Int) (h : Ek N p0 p1 = some r) : AB Tryz.prog 57 [.e (.agg [sC (p0.fVersions.map Ai), sC (p0.fNow.map Ai), sC (p0.fTarget.map Ai), sC (p0.fTables.map Ao)]), .e (.agg [sC (p1.fBase.map Ai), sC (p1.fNext.map Ai), sC (p1.fHeld.map A9)])] [] (iD r) := by
 unfold Ek at h
 refine Au (n := 135) (rs := [.tmp 4]) Tryz.func57 rfl rfl rfl (A5 rfl) (A5 rfl) rfl fun w0 S0 => ?_
 refine Ab (Aa Ac rfl (qb rfl (qb rfl (qa rfl (Ad (Ab (Ab (Aa Ac rfl (qL DP Dr rfl ?_)))))))))
 obtain ⟨v1, a1, h⟩ := bind_some h
 refine AG [] (GJ N p0 v1 a1) Vt rfl (qa rfl (Ad (Ab (Aa Ac rfl (qm rfl (B6 rfl (Ad ?_)))))))
 refine Ap rfl (fun c2 => ?_) (fun c2 => ?_)
 ·have h := An c2 h
  refine Ab (Aa Ac rfl (qm rfl (qa rfl (Ad ?_))))
  obtain rfl := sj h
  refine Al (sm [] [(4, iD v1)] [] rfl rfl) (Az ?_)
  exact ⟨⟨[_], ⟨.tmp _ _ rfl, tv⟩, rfl⟩, tv⟩
 ·have h := Am c2 h
  refine Aq (Ab ?_)
  refine AQ h (fun v3 => mk [(2, oD (.ptr 2 0)), (3, oD (.ptr 3 0)), (41, bD v3)] [(2, .box [sC (p0.fVersions.map Ai), sC (p0.fNow.map Ai), sC (p0.fTarget.map Ai), sC (p0.fTables.map Ao)]), (3, .box [sC (p1.fBase.map Ai), sC (p1.fNext.map Ai), sC (p1.fHeld.map A9)])]) (fun j3 h => ?_) (fun v3 h => ?_)
  ·refine Aa Ac rfl (qf Cz rfl (ql Bg rfl (AV AH rfl (qf Bt rfl (ql Bg rfl (AV AH rfl (B6 rfl (qm rfl ?_))))))))
   refine AC (t := 24) rfl (fun c4 => ?_) (fun c4 => ?_)
   ·have h := An c4 h
    refine qn rfl (qn rfl (qn rfl (qn rfl (qn rfl (qn rfl (qn rfl (qp rfl (qm rfl (qn rfl (qn rfl (qn rfl (qn rfl (qn rfl (qn rfl (qn rfl (qp rfl (Ad ?_)))))))))))))))))
    exact Av _ h (sm [] _ _ rfl rfl)
   ·have h := Am c4 h
    refine qf BG rfl (ql Bg rfl (AV AH rfl (qf Bt rfl (ql Bg rfl (AV AH rfl (B6 rfl (qp rfl (qm rfl ?_))))))))
    refine AC (t := 33) rfl (fun c5 => ?_) (fun c5 => ?_)
    ·have h := An c5 h
     refine qn rfl (qn rfl (qn rfl (qn rfl (qn rfl (qn rfl (qn rfl (qp rfl (Ad ?_))))))))
     exact Av _ h (sm [] _ _ rfl rfl)
    ·have h := Am c5 h
     refine qf Cs rfl (ql Ga rfl (AV C3 rfl (qf CA rfl (ql Gu rfl (AV DN rfl (B6 rfl (qp rfl (Ad ?_))))))))
     exact Av _ h (sm [] _ _ rfl rfl)
  ·refine Ap rfl (fun c6 => ?_) (fun c6 => ?_)
   ·have h := An c6 h
    refine Ab (Aa Ac rfl (qa rfl (Ad ?_)))
    obtain rfl := sj h
    refine Al (sm [] [(4, iD 6)] [] rfl rfl) (Az ?_)
    exact ⟨⟨[_], ⟨.tmp _ _ rfl, tv⟩, rfl⟩, tv⟩
   ·have h := Am c6 h
    refine Aq (Ab (Ab (Aa Ac rfl (qf Bt rfl (ql Bg rfl (AV AH rfl (qm rfl (Ad ?_))))))))
    refine AJ (L := Do N p0 p1) h (fun v7 => mk [(2, oD (.ptr 2 0)), (3, oD (.ptr 3 0)), (43, pD (.sl (p0.fVersions.map Ai))), (44, iD ((p0.fVersions.length : Int))), (45, iD v7)] [(2, .box [sC (p0.fVersions.map Ai), sC (p0.fNow.map Ai), sC (p0.fTarget.map Ai), sC (p0.fTables.map Ao)]), (3, .box [sC (p1.fBase.map Ai), sC (p1.fNext.map Ai), sC (p1.fHeld.map A9)])]) (fun v8 => mk [(2, oD (.ptr 2 0)), (3, oD (.ptr 3 0))] [(2, .box [sC (p0.fVersions.map Ai), sC (p0.fNow.map Ai), sC (p0.fTarget.map Ai), sC (p0.fTables.map Ao)]), (3, .box [sC (p1.fBase.map Ai), sC (p1.fNext.map Ai), sC (p1.fHeld.map A9)])]) (fun _ _ => rfl) (sm [] _ _ rfl rfl) (fun j7 n7 v7 h => ?_) (fun v8 s h hs => ?_)
    ·unfold Do at h
     refine Ab (Aa Ac rfl (AZ rfl (Ad (Ab ?_))))
     refine Ap rfl (fun c9 => ?_) (fun c9 => ?_)
     ·have h := An c9 h
      refine Aq (Ab (AP (Ab (Aa Ac rfl (qm rfl ?_)))))
      obtain ⟨v10, a10, b10, h⟩ := Ak h
      refine qi AH Df a10 (Ah b10) rfl (qk Cc rfl (qa rfl (qa rfl (Ad (Ab ?_)))))
      refine AQ h (fun v11 => mk [(2, oD (.ptr 2 0)), (3, oD (.ptr 3 0)), (6, iD v7), (43, pD (.sl (p0.fVersions.map Ai))), (44, iD ((p0.fVersions.length : Int))), (45, iD v7), (81, bD v11)] [(2, .box [sC (p0.fVersions.map Ai), sC (p0.fNow.map Ai), sC (p0.fTarget.map Ai), sC (p0.fTables.map Ao)]), (3, .box [sC (p1.fBase.map Ai), sC (p1.fNext.map Ai), sC (p1.fHeld.map A9)])]) (fun j11 h => ?_) (fun v11 h => ?_)
      ·refine Aa Ac rfl (qf Cz rfl (ql Bg rfl (qm rfl ?_)))
       obtain ⟨v12, a12, b12, h⟩ := Ak h
       refine qi AH Df a12 (Ah b12) rfl (qk Cc rfl (AZ rfl (qm rfl ?_)))
       refine AC (t := 56) rfl (fun c13 => ?_) (fun c13 => ?_)
       ·have h := An c13 h
        refine qn rfl (qn rfl (qn rfl (qn rfl (qn rfl (qn rfl (qn rfl (qp rfl (qm rfl (qn rfl (qn rfl (qn rfl (qn rfl (qn rfl (qn rfl (qp rfl (qm rfl (qn rfl (qn rfl (qn rfl (qn rfl (qn rfl (qn rfl (qn rfl (qp rfl (Ad ?_)))))))))))))))))))))))))
        exact Av _ h (sm [] _ _ rfl rfl)
       ·have h := Am c13 h
        refine qf Cz rfl (ql Bg rfl (qm rfl ?_))
        obtain ⟨v14, a14, b14, h⟩ := Ak h
        refine qi AH Df a14 (Ah b14) rfl (qk Cc rfl (qm rfl (CW rfl (qp rfl (qm rfl ?_)))))
        refine AC (t := 65) rfl (fun c15 => ?_) (fun c15 => ?_)
        ·have h := An c15 h
         refine qn rfl (qn rfl (qn rfl (qn rfl (qn rfl (qn rfl (qp rfl (qm rfl (qn rfl (qn rfl (qn rfl (qn rfl (qn rfl (qn rfl (qn rfl (qp rfl (Ad ?_))))))))))))))))
         exact Av _ h (sm [] _ _ rfl rfl)
        ·have h := Am c15 h
         refine qf BG rfl (ql Bg rfl (qm rfl ?_))
         obtain ⟨v16, a16, b16, h⟩ := Ak h
         refine qi AH Df a16 (Ah b16) rfl (qk Cc rfl (AZ rfl (qp rfl (qm rfl ?_))))
         refine AC (t := 73) rfl (fun c17 => ?_) (fun c17 => ?_)
         ·have h := An c17 h
          refine qn rfl (qn rfl (qn rfl (qn rfl (qn rfl (qn rfl (qn rfl (qp rfl (Ad ?_))))))))
          exact Av _ h (sm [] _ _ rfl rfl)
         ·have h := Am c17 h
          refine qf BG rfl (ql Bg rfl (qm rfl ?_))
          obtain ⟨v18, a18, b18, h⟩ := Ak h
          refine qi AH Df a18 (Ah b18) rfl (qk Cc rfl (qm rfl (CW rfl (qp rfl (Ad ?_)))))
          exact Av _ h (sm [] _ _ rfl rfl)
      ·refine Ap rfl (fun c19 => ?_) (fun c19 => ?_)
       ·have h := An c19 h
        refine Ab (Aa Ac rfl (qa rfl (Ad ?_)))
        obtain rfl := sj h
        refine Al (sm [] [(4, iD 7)] [] rfl rfl) (Az ?_)
        exact ⟨⟨[_], ⟨.tmp _ _ rfl, tv⟩, rfl⟩, tv⟩
       ·have h := Am c19 h
        refine Aq (Ab (Aa Ac rfl (qf Cz rfl (ql Bg rfl (qm rfl ?_)))))
        obtain ⟨v20, a20, b20, h⟩ := Ak h
        refine qi AH Df a20 (Ah b20) rfl (qk Cc rfl (qf BG rfl (ql Bg rfl (qm rfl ?_))))
        obtain ⟨v21, a21, b21, h⟩ := Ak h
        refine qi AH Df a21 (Ah b21) rfl (qk Cc rfl (BD rfl (AM (by kernel_rfl) ?_)))
        refine Ap rfl (fun c22 => ?_) (fun c22 => ?_)
        ·have h := An c22 h
         refine Ab (Aa Ac rfl (qa rfl (Ad ?_)))
         obtain rfl := sj h
         refine Al (sm [] [(4, iD 1)] [] rfl rfl) (Az ?_)
         exact ⟨⟨[_], ⟨.tmp _ _ rfl, tv⟩, rfl⟩, tv⟩
        ·have h := Am c22 h
         refine Aq (Aa Ac rfl (AX rfl (qm rfl (Ad ?_))))
         exact Av _ h (sm [] _ _ rfl rfl)
     ·have h := Am c9 h
      refine AY ?_
      exact Av _ h (sm [] _ _ rfl rfl)
    ·refine Al hs (Ab (Ab (Aa Ac rfl (qf CA rfl (ql Gu rfl (AV DN rfl (qm rfl (Ad ?_))))))))
     refine AJ (L := Dd N p0 p1) h (fun v23 => mk [(2, oD (.ptr 2 0)), (3, oD (.ptr 3 0)), (95, pD (.sl (p0.fTables.map Ao))), (96, iD ((p0.fTables.length : Int))), (97, iD v23)] [(2, .box [sC (p0.fVersions.map Ai), sC (p0.fNow.map Ai), sC (p0.fTarget.map Ai), sC (p0.fTables.map Ao)]), (3, .box [sC (p1.fBase.map Ai), sC (p1.fNext.map Ai), sC (p1.fHeld.map A9)])]) (fun v24 => mk [] []) (fun _ _ => rfl) (sm [] _ _ rfl rfl) (fun j23 n23 v23 h => ?_) (fun v24 s h hs => ?_)
     ·unfold Dd at h
      refine Ab (Aa Ac rfl (AZ rfl (Ad (Ab ?_))))
      refine Ap rfl (fun c25 => ?_) (fun c25 => ?_)
      ·have h := An c25 h
       refine Aq (Ab (AP (Ab (Aa Ac rfl (qm rfl ?_)))))
       obtain ⟨v26, a26, b26, h⟩ := Ak h
       refine qi DN DO a26 (Ah b26) rfl (qK GI DO rfl (qz JU rfl (qa rfl (qs DO rfl (Ad (Ab (Aa Ac rfl (qa rfl (qa rfl (Ad ?_))))))))))
       refine AQ h (fun v27 => mk [(2, oD (.ptr 2 0)), (3, oD (.ptr 3 0)), (8, iD v23), (10, pD (.val (.int .u8 v27.1))), (11, pD (.val (.int .u8 v27.2))), (95, pD (.sl (p0.fTables.map Ao))), (96, iD ((p0.fTables.length : Int))), (97, iD v23)] [(2, .box [sC (p0.fVersions.map Ai), sC (p0.fNow.map Ai), sC (p0.fTarget.map Ai), sC (p0.fTables.map Ao)]), (3, .box [sC (p1.fBase.map Ai), sC (p1.fNext.map Ai), sC (p1.fHeld.map A9)])]) (fun j27 h => ?_) (fun v27 h => ?_)
       ·refine Ab (Aa Ac rfl (qL GI DO rfl ?_))
        obtain ⟨v28, a28, h⟩ := bind_some h
        refine AG [] (Im N v26 v28 a28) UO rfl (Ad ?_)
        refine Ap rfl (fun c29 => ?_) (fun c29 => ?_)
        ·have h := An c29 h
         refine Aa Ac rfl (qL A0 Ax rfl (qf C2 rfl (ql Cc rfl ?_)))
         obtain ⟨v30, a30, h⟩ := bind_some h
         refine AG [] (HO N p1 v26.fFrom v30 a30) Ux rfl (qf Bt rfl (ql Bg rfl (qf C2 rfl (ql Cc rfl ?_))))
         obtain ⟨v31, a31, b31, h⟩ := Ak h
         refine qi AH Df a31 (Ah b31) rfl (qk Cc rfl ?_)
         obtain ⟨c32, h⟩ := AL h
         refine G6 rfl c32 (Cp rfl (qa rfl (qa rfl (AM (by kernel_rfl) ?_))))
         exact Av _ h (sm [] _ _ rfl rfl)
        ·have h := Am c29 h
         refine Aq ?_
         exact Av _ h (sm [] _ _ rfl rfl)
       ·refine AQ h (fun v33 => mk [(2, oD (.ptr 2 0)), (3, oD (.ptr 3 0)), (95, pD (.sl (p0.fTables.map Ao))), (96, iD ((p0.fTables.length : Int))), (97, iD v23), (133, bD v33)] [(2, .box [sC (p0.fVersions.map Ai), sC (p0.fNow.map Ai), sC (p0.fTarget.map Ai), sC (p0.fTables.map Ao)]), (3, .box [sC (p1.fBase.map Ai), sC (p1.fNext.map Ai), sC (p1.fHeld.map A9)])]) (fun j33 h => ?_) (fun v33 h => ?_)
        ·refine Aa Ac rfl (qm rfl (qf Cs rfl (ql Ga rfl (qm rfl ?_))))
         obtain ⟨v34, a34, b34, h⟩ := Ak h
         refine qi C3 Fa a34 (Ah b34) rfl (qk IK rfl (Hw rfl (B6 rfl (qm rfl ?_))))
         refine AC (t := 124) rfl (fun c35 => ?_) (fun c35 => ?_)
         ·have h := An c35 h
          refine qn rfl (qn rfl (qn rfl (qn rfl (qn rfl (qn rfl (qn rfl (qn rfl (qp rfl (Ad ?_)))))))))
          exact Av _ h (sm [] _ _ rfl rfl)
         ·have h := Am c35 h
          refine qf Cs rfl (ql Ga rfl (qm rfl ?_))
          obtain ⟨v36, a36, b36, h⟩ := Ak h
          refine qi C3 Fa a36 (Ah b36) rfl (qk IK rfl (qm rfl (Hw rfl (B6 rfl (qp rfl (Ad ?_))))))
          exact Av _ h (sm [] _ _ rfl rfl)
        ·refine Ap rfl (fun c37 => ?_) (fun c37 => ?_)
         ·have h := An c37 h
          refine Ab (Aa Ac rfl (qa rfl (Ad ?_)))
          obtain rfl := sj h
          refine Al (sm [] [(4, iD 1)] [] rfl rfl) (Az ?_)
          exact ⟨⟨[_], ⟨.tmp _ _ rfl, tv⟩, rfl⟩, tv⟩
         ·have h := Am c37 h
          refine Aq (Aa Ac rfl (AX rfl (qm rfl (Ad ?_))))
          exact Av _ h (sm [] _ _ rfl rfl)
      ·have h := Am c25 h
       refine AY ?_
       exact Av _ h (sm [] _ _ rfl rfl)
     ·refine Al hs (Ab (Aa Ac rfl (qa rfl (Ad ?_))))
      obtain rfl := sj h
      refine Al (sm [] [(4, iD 0)] [] rfl rfl) (Az ?_)
      exact ⟨⟨[_], ⟨.tmp _ _ rfl, tv⟩, rfl⟩, tv⟩
theorem Ez (N : Nat) (p0 : List Int) (r : (List Int)) (h : BF N p0 = some r) : AB Tryz.prog 59 [pD (.sl (p0.map A9))] [(1, r.map A9)] (oD (.own 0)) := by
 unfold BF at h
 refine Au (n := 8) (rs := [.tmp 2]) Tryz.func59 rfl rfl rfl (A5 rfl) (A5 rfl) rfl fun w0 S0 => ?_
 refine Ab (Aa Ac rfl (qa rfl (Ad (Ab (Ab (Aa Ac rfl (qm rfl ?_)))))))
 refine Qj (.p rfl) rfl C3 ?_
 refine Ad ?_
 refine P4 rfl (fun c2 => ?_) ?_
 ·have c2 := List.map_eq_nil_iff.1 c2
  rw [c2] at h
  have h : (some (([] : List Int))) = some r := h
  refine Ab (Aa Ac rfl (qa rfl (Ad ?_)))
  obtain rfl := sj h
  refine Al ((Bn 2 2001 1 rfl rfl rfl).trans (sm [(1000, 2001)] [(2, oD (.own 1000))] [(1000, .vec 1 ((([] : List Int)).map A9))] rfl rfl)) (Az ?_)
  exact ⟨⟨[_], ⟨.tmp _ _ rfl, tv⟩, rfl⟩, ⟨rfl, tv⟩⟩
 ·refine Aq (Ab (Aa Ac rfl (DT C3 Fa PJ rfl (qm rfl ?_))))
  obtain ⟨c1, h⟩ := AL h
  refine Mw (f := A9) C3 C3 Fa Qf PJ (fun _ => rfl) c1 rfl (qa rfl (Ad ?_))
  obtain rfl := sj h
  refine Al (sm [(1000, 7)] [(2, oD (.own 1000))] [(1000, .vec 1 (((([] : List Int)) ++ p0).map A9))] rfl rfl) (Az ?_)
  exact ⟨⟨[_], ⟨.tmp _ _ rfl, tv⟩, rfl⟩, ⟨rfl, tv⟩⟩
theorem J9 (N : Nat) (p0 : Ag) (p1 : Ae) (r : (List Ae) × Int) (h : ET N p0 p1 = some r) : AB Tryz.prog 37 [.e (.agg [sC (p0.fVersions.map Ai), sC (p0.fNow.map Ai), sC (p0.fTarget.map Ai), sC (p0.fTables.map Ao)]), .e (.agg [sC (p1.fBase.map Ai), sC (p1.fNext.map Ai), sC (p1.fHeld.map A9)])] [(3, r.1.map Af)] (.tup [.one (.own 0), .one (iC r.2)]) := by
 unfold ET at h
 refine Au (n := 75) (rs := [.tmp 4, .tmp 5]) Tryz.func37 rfl rfl rfl (A5 rfl) (A5 rfl) rfl fun w0 S0 => ?_
 refine Ab (Aa Ac rfl (qb rfl (qb rfl (qa rfl (qa rfl (Ad (Ab (Ab (Aa Ac rfl (qL DP Dr rfl (qL A0 Ax rfl ?_)))))))))))
 obtain ⟨v1, a1, h⟩ := bind_some h
 refine AG [] (HE N p0 p1 v1 a1) To rfl (qa rfl (Ad (Ab (Aa Ac rfl (qm rfl (B6 rfl (Ad ?_)))))))
 refine Ap rfl (fun c2 => ?_) (fun c2 => ?_)
 ·have h := An c2 h
  refine Ab (Aa Ac rfl (qm rfl (qa rfl (qa rfl (Ad ?_)))))
  obtain rfl := sj h
  refine Al ((Bn 4 2001 3 rfl rfl rfl).trans (sm [(1000, 2001)] [(4, oD (.own 1000)), (5, iD v1)] [(1000, .vec 3 ((([] : List Ae)).map Af))] rfl rfl)) (Az ?_)
  exact ⟨⟨[_, _], ⟨.tmp _ _ rfl, ⟨.tmp _ _ rfl, tv⟩⟩, rfl⟩, ⟨rfl, tv⟩⟩
 ·have h := Am c2 h
  refine Aq (Ab (Aa Ac rfl (qa rfl (Ad (Ab (Ab (Aa Ac rfl (qf BG rfl (ql Bg rfl (AV AH rfl (qm rfl (Ad ?_))))))))))))
  refine AJ (L := Da N p1) h (fun v3 => mk [(3, oD (.ptr 3 0)), (7, oD (.own 2002)), (22, pD (.sl (p1.fNext.map Ai))), (23, iD ((p1.fNext.length : Int))), (24, iD v3.2)] [(3, .box [sC (p1.fBase.map Ai), sC (p1.fNext.map Ai), sC (p1.fHeld.map A9)]), (2002, .vec 1 (v3.1.map Ai))]) (fun v4 => mk [(3, oD (.ptr 3 0)), (7, oD (.own 2003))] [(3, .box [sC (p1.fBase.map Ai), sC (p1.fNext.map Ai), sC (p1.fHeld.map A9)]), (2003, .vec 1 (v4.map Ai))]) (fun _ _ => rfl) ((Bn 7 2005 1 rfl rfl rfl).trans (sm [(2002, 2005)] _ _ rfl rfl)) (fun j3 n3 v3 h => ?_) (fun v4 s h hs => ?_)
  ·unfold Da at h
   refine Ab (Aa Ac rfl (AZ rfl (Ad (Ab ?_))))
   refine Ap rfl (fun c5 => ?_) (fun c5 => ?_)
   ·have h := An c5 h
    refine Aq ?_
    refine AQ h (fun v6 => mk [(3, oD (.ptr 3 0)), (7, oD (.own 2004)), (22, pD (.sl (p1.fNext.map Ai))), (23, iD ((p1.fNext.length : Int))), (24, iD v3.2)] [(3, .box [sC (p1.fBase.map Ai), sC (p1.fNext.map Ai), sC (p1.fHeld.map A9)]), (2004, .vec 1 (v6.map Ai))]) (fun j6 h => ?_) (fun v6 h => ?_)
    ·refine AP (Ab (Aa Ac rfl (qm rfl ?_)))
     obtain ⟨v7, a7, b7, h⟩ := Ak h
     refine qi AH Df a7 (Ah b7) rfl (qk Cc rfl (qa rfl (qa rfl (Ad (Ab (Aa Ac rfl (qm rfl (CW rfl (Ad ?_)))))))))
     refine Ap rfl (fun c8 => ?_) (fun c8 => ?_)
     ·have h := An c8 h
      refine Aa Ac rfl (qm rfl (qm rfl (DT AH Df KT rfl ?_)))
      obtain ⟨c9, h⟩ := AL h
      refine CQ (f := Ai) AH AH Df LB KT c9 rfl (qa rfl (Ad ?_))
      exact Av _ h (sm [(2004, 34)] _ _ rfl rfl)
     ·have h := Am c8 h
      refine Aq ?_
      exact Av _ h (sm [(2004, 2002)] _ _ rfl rfl)
    ·refine Aa Ac rfl (AX rfl (qm rfl (Ad ?_)))
     exact Av _ h (sm [(2002, 2004)] _ _ rfl rfl)
   ·have h := Am c5 h
    refine AY ?_
    exact Av _ h (sm [(2003, 2002)] _ _ rfl rfl)
  ·refine Al hs (Ab (Aa Ac rfl (qa rfl (Ad (Ab (Ab (Aa Ac rfl (qm rfl (Dz AH rfl ?_)))))))))
   obtain ⟨c10, h⟩ := AL h
   refine G6 rfl c10 (qm rfl (Ad ?_))
   refine AJ (L := Cw N p1 v4) h (fun v11 => mk [(3, oD (.ptr 3 0)), (7, oD (.own 2006)), (10, oD (.own 2007)), (38, iD ((B3 .i64 1 ((v4.length : Int))))), (39, iD v11.2)] [(3, .box [sC (p1.fBase.map Ai), sC (p1.fNext.map Ai), sC (p1.fHeld.map A9)]), (2006, .vec 1 (v4.map Ai)), (2007, .vec 3 (v11.1.map Af))]) (fun v12 => mk [(10, oD (.own 2008))] [(2008, .vec 3 (v12.map Af))]) (fun _ _ => rfl) ((Bn 10 2027 3 rfl rfl rfl).trans (sm [(2006, 2003), (2007, 2027)] _ _ rfl rfl)) (fun j11 n11 v11 h => ?_) (fun v12 s h hs => ?_)
   ·unfold Cw at h
    refine Ab (Aa Ac rfl (AZ rfl (Ad (Ab ?_))))
    refine Ap rfl (fun c13 => ?_) (fun c13 => ?_)
    ·have h := An c13 h
     refine Aq (Ab (AP (Ab (Aa Ac rfl (qm rfl (qa rfl (Ad (Ab (Aa Ac rfl (qf Cz rfl (ql Bg rfl ?_)))))))))))
     obtain ⟨v14, a14, h⟩ := bind_some h
     refine AG [2009] (Dg N p1.fBase v14 a14) Sr rfl (qf BG rfl (ql Bg rfl ?_))
     obtain ⟨v15, a15, h⟩ := bind_some h
     refine AG [2010] (Dg N p1.fNext v15 a15) Sr rfl (qf Cs rfl (ql Ga rfl ?_))
     obtain ⟨v16, a16, h⟩ := bind_some h
     refine AG [2011] (Ez N p1.fHeld v16 a16) V2 rfl (Bz Cv GR rfl (qz Cv rfl (qs Ax rfl (AM (by kernel_rfl) (Ab (Ab (Aa Ac rfl (qm rfl (Dz AH rfl (qm rfl (Ad ?_)))))))))))
     refine AJ (L := Cy N v4 v11) h (fun v17 => mk [(3, oD (.ptr 3 0)), (7, oD (.own 2015)), (10, oD (.own 2016)), (11, iD v11.2), (12, oD (.ptr 12 0)), (38, iD ((B3 .i64 1 ((v4.length : Int))))), (39, iD v11.2), (52, oD (.own 2015)), (53, iD ((v4.length : Int))), (54, iD v17.2)] [(3, .box [sC (p1.fBase.map Ai), sC (p1.fNext.map Ai), sC (p1.fHeld.map A9)]), (12, .box [.own 2012, .own 2013, .own 2014]), (2012, .vec 1 (v14.map Ai)), (2013, .vec 1 (v17.1.map Ai)), (2014, .vec 1 (v16.map A9)), (2015, .vec 1 (v4.map Ai)), (2016, .vec 3 (v11.1.map Af))]) (fun v18 => mk [(3, oD (.ptr 3 0)), (7, oD (.own 2020)), (10, oD (.own 2021)), (12, oD (.ptr 12 0)), (38, iD ((B3 .i64 1 ((v4.length : Int))))), (39, iD v11.2)] [(3, .box [sC (p1.fBase.map Ai), sC (p1.fNext.map Ai), sC (p1.fHeld.map A9)]), (12, .box [.own 2017, .own 2018, .own 2019]), (2017, .vec 1 (v14.map Ai)), (2018, .vec 1 (v18.map Ai)), (2019, .vec 1 (v16.map A9)), (2020, .vec 1 (v4.map Ai)), (2021, .vec 3 (v11.1.map Af))]) (fun _ _ => rfl) (sm [(2012, 2009), (2013, 2010), (2014, 2011), (2015, 2006), (2016, 2007)] _ _ rfl rfl) (fun j17 n17 v17 h => ?_) (fun v18 s h hs => ?_)
     ·unfold Cy at h
      refine Ab (Aa Ac rfl (AZ rfl (Ad (Ab ?_))))
      refine Ap rfl (fun c19 => ?_) (fun c19 => ?_)
      ·have h := An c19 h
       refine Aq ?_
       refine AQ h (fun v20 => mk [(3, oD (.ptr 3 0)), (7, oD (.own 2025)), (10, oD (.own 2026)), (11, iD v11.2), (12, oD (.ptr 12 0)), (38, iD ((B3 .i64 1 ((v4.length : Int))))), (39, iD v11.2), (52, oD (.own 2025)), (53, iD ((v4.length : Int))), (54, iD v17.2)] [(3, .box [sC (p1.fBase.map Ai), sC (p1.fNext.map Ai), sC (p1.fHeld.map A9)]), (12, .box [.own 2022, .own 2023, .own 2024]), (2022, .vec 1 (v14.map Ai)), (2023, .vec 1 (v20.map Ai)), (2024, .vec 1 (v16.map A9)), (2025, .vec 1 (v4.map Ai)), (2026, .vec 3 (v11.1.map Af))]) (fun j20 h => ?_) (fun v20 h => ?_)
       ·refine AP (Ab (Aa Ac rfl (qm rfl ?_)))
        obtain ⟨v21, a21, b21, h⟩ := Ak h
        refine qI AH Df a21 (Ah b21) rfl (qj Cc (Ah b21) rfl (qa rfl (qa rfl (Ad (Ab (Aa Ac rfl (qm rfl (qm rfl ?_))))))))
        obtain ⟨c22, h⟩ := AL h
        refine Gb rfl c22 (Jx rfl (BD rfl (Ad ?_)))
        refine Ap rfl (fun c23 => ?_) (fun c23 => ?_)
        ·have h := An c23 h
         refine Aa Ac rfl (qf BG rfl (ql Bg rfl (qm rfl ?_)))
         obtain ⟨v24, a24, b24, h⟩ := Ak h
         refine qI AH Df a24 (Ah b24) rfl ?_
         refine A8 rfl rfl rfl rfl (Ah b24) rfl Df rfl (A5 rfl) (A6 Ai v17.1 _ ((-1))) ?_
         refine Ad ?_
         exact Av _ h (sm [(2022, 2012), (2023, 2013), (2024, 2014), (2025, 2015), (2026, 2016)] _ _ rfl rfl)
        ·have h := Am c23 h
         refine Aq ?_
         exact Av _ h (sm [(2022, 2012), (2023, 2013), (2024, 2014), (2025, 2015), (2026, 2016)] _ _ rfl rfl)
       ·refine Aa Ac rfl (AX rfl (qm rfl (Ad ?_)))
        exact Av _ h (sm [(2012, 2022), (2013, 2023), (2014, 2024), (2015, 2025), (2016, 2026)] _ _ rfl rfl)
      ·have h := Am c19 h
       refine AY ?_
       exact Av _ h (sm [(2017, 2012), (2018, 2013), (2019, 2014), (2020, 2015), (2021, 2016)] _ _ rfl rfl)
     ·refine Al hs (Aa Ac rfl (qm rfl (qL A0 Ax rfl (CC (A1 2017 _ _ rfl rfl) (CC (A1 2018 _ _ rfl rfl) (CC (A1 2019 _ _ rfl rfl) (DT AR Ax Cv rfl ?_)))))))
      obtain ⟨c25, h⟩ := AL h
      refine CQ (f := Af) AR AR Ax OF Cv c25 rfl (qa rfl (Ad (Aa Ac rfl (AX rfl (qm rfl (Ad ?_))))))
      exact Av _ h (sm [(2006, 2020), (2007, 72)] _ _ rfl rfl)
    ·have h := Am c13 h
     refine AY ?_
     exact Av _ h (sm [(2008, 2007)] _ _ rfl rfl)
   ·refine Al hs (Ab (Aa Ac rfl (qm rfl (qa rfl (qa rfl (Ad ?_))))))
    obtain rfl := sj h
    refine Al (sm [(1000, 2008)] [(4, oD (.own 1000)), (5, iD 0)] [(1000, .vec 3 (v12.map Af))] rfl rfl) (Az ?_)
    exact ⟨⟨[_, _], ⟨.tmp _ _ rfl, ⟨.tmp _ _ rfl, tv⟩⟩, rfl⟩, ⟨rfl, tv⟩⟩
theorem Lp (N : Nat) (p0 : Ag) (p1 : Ae) (r : (List AW)) (h : Gt N p0 p1 = some r) : AB Tryz.prog 94 [.e (.agg [sC (p0.fVersions.map Ai), sC (p0.fNow.map Ai), sC (p0.fTarget.map Ai), sC (p0.fTables.map Ao)]), .e (.agg [sC (p1.fBase.map Ai), sC (p1.fNext.map Ai), sC (p1.fHeld.map A9)])] [(3, r.map Cb)] (oD (.own 0)) := by
 unfold Gt at h
 refine Au (n := 98) (rs := [.tmp 4]) Tryz.func94 rfl rfl rfl (A5 rfl) (A5 rfl) rfl fun w0 S0 => ?_
 refine Ab (Aa Ac rfl (qb rfl (qb rfl (qa rfl (Ad (Ab (Aa Ac rfl (qa rfl (Ad (Ab (Ab (Aa Ac rfl (qf CA rfl (ql Gu rfl (AV DN rfl (qm rfl (Ad ?_)))))))))))))))))
 refine AJ (L := Er N p0 p1) h (fun v1 => mk [(3, oD (.ptr 3 0)), (5, oD (.own 2001)), (15, pD (.sl (p0.fTables.map Ao))), (16, iD ((p0.fTables.length : Int))), (17, iD v1.2)] [(3, .box [sC (p1.fBase.map Ai), sC (p1.fNext.map Ai), sC (p1.fHeld.map A9)]), (2001, .vec 3 (v1.1.map Cb))]) (fun v2 => mk [(5, oD (.own 2002))] [(2002, .vec 3 (v2.map Cb))]) (fun _ _ => rfl) ((Bn 5 2013 3 rfl rfl rfl).trans (sm [(2001, 2013)] _ _ rfl rfl)) (fun j1 n1 v1 h => ?_) (fun v2 s h hs => ?_)
 ·unfold Er at h
  refine Ab (Aa Ac rfl (AZ rfl (Ad (Ab ?_))))
  refine Ap rfl (fun c3 => ?_) (fun c3 => ?_)
  ·have h := An c3 h
   refine Aq (Ab (AP (Ab (Aa Ac rfl (qm rfl ?_)))))
   obtain ⟨v4, a4, b4, h⟩ := Ak h
   refine qi DN DO a4 (Ah b4) rfl (qK GI DO rfl (qz JU rfl (qa rfl (qs DO rfl (Ad (Ab (Aa Ac rfl (qL A0 Ax rfl (qf C2 rfl (ql Cc rfl ?_))))))))))
   obtain ⟨v5, a5, h⟩ := bind_some h
   refine AG [] (HO N p1 v4.fFrom v5 a5) Ux rfl (qL A0 Ax rfl (qf Ip rfl (ql Cc rfl ?_)))
   obtain ⟨v6, a6, h⟩ := bind_some h
   refine AG [] (HO N p1 v4.fTo v6 a6) Ux rfl (qa rfl (qa rfl (AM (by kernel_rfl) ?_)))
   refine AQ h (fun v7 => mk [(3, oD (.ptr 3 0)), (5, oD (.own 2003)), (6, iD v1.2), (7, oD (.ptr 7 0)), (8, pD (.val (.int .u8 v7))), (9, pD (.val (.int .u8 v6))), (15, pD (.sl (p0.fTables.map Ao))), (16, iD ((p0.fTables.length : Int))), (17, iD v1.2)] [(3, .box [sC (p1.fBase.map Ai), sC (p1.fNext.map Ai), sC (p1.fHeld.map A9)]), (7, .box [iC v4.fKind, iC v4.fFrom, iC v4.fTo, .pure (.val (.bool v4.fAware)), sC (v4.fOK.map (EP eB)), sC (v4.fRewrite.map (EP eB))]), (2003, .vec 3 (v1.1.map Cb))]) (fun j7 h => ?_) (fun v7 h => ?_)
   ·refine Ab (Aa Ac rfl (qL GI DO rfl ?_))
    obtain ⟨v8, a8, h⟩ := bind_some h
    refine AG [] (Im N v4 v8 a8) UO rfl (Ad ?_)
    refine Ap rfl (fun c9 => ?_) (fun c9 => ?_)
    ·have h := An c9 h
     refine Aa Ac rfl (qf Cs rfl (ql Ga rfl (qm rfl ?_)))
     obtain ⟨v10, a10, b10, h⟩ := Ak h
     refine qi C3 Fa a10 (Ah b10) rfl (qk IK rfl (qa rfl (Ad ?_)))
     exact Av _ h (sm [(2003, 2001)] _ _ rfl rfl)
    ·have h := Am c9 h
     refine Aq ?_
     exact Av _ h (sm [(2003, 2001)] _ _ rfl rfl)
   ·refine Ab (Aa Ac rfl (qf J1 rfl (ql JI rfl (AV FU rfl (qm rfl (Ad ?_))))))
    refine AJ (L := Ei N v1 v4 v6 v7) h (fun v11 => mk [(3, oD (.ptr 3 0)), (5, oD (.own 2004)), (6, iD v1.2), (7, oD (.ptr 7 0)), (8, pD (.val (.int .u8 v7))), (9, pD (.val (.int .u8 v6))), (15, pD (.sl (p0.fTables.map Ao))), (16, iD ((p0.fTables.length : Int))), (17, iD v1.2), (39, iD ((v4.fOK.length : Int))), (40, iD v11.2)] [(3, .box [sC (p1.fBase.map Ai), sC (p1.fNext.map Ai), sC (p1.fHeld.map A9)]), (7, .box [iC v4.fKind, iC v4.fFrom, iC v4.fTo, .pure (.val (.bool v4.fAware)), sC (v4.fOK.map (EP eB)), sC (v4.fRewrite.map (EP eB))]), (2004, .vec 3 (v11.1.map Cb))]) (fun v12 => mk [(3, oD (.ptr 3 0)), (5, oD (.own 2005)), (15, pD (.sl (p0.fTables.map Ao))), (16, iD ((p0.fTables.length : Int))), (17, iD v1.2)] [(3, .box [sC (p1.fBase.map Ai), sC (p1.fNext.map Ai), sC (p1.fHeld.map A9)]), (2005, .vec 3 (v12.map Cb))]) (fun _ _ => rfl) (sm [(2004, 2003)] _ _ rfl rfl) (fun j11 n11 v11 h => ?_) (fun v12 s h hs => ?_)
    ·unfold Ei at h
     refine Ab (Aa Ac rfl (AZ rfl (Ad (Ab ?_))))
     refine Ap rfl (fun c13 => ?_) (fun c13 => ?_)
     ·have h := An c13 h
      refine Aq ?_
      refine AQ h (fun v14 => mk [(3, oD (.ptr 3 0)), (5, oD (.own 2006)), (6, iD v1.2), (7, oD (.ptr 7 0)), (8, pD (.val (.int .u8 v7))), (9, pD (.val (.int .u8 v6))), (15, pD (.sl (p0.fTables.map Ao))), (16, iD ((p0.fTables.length : Int))), (17, iD v1.2), (39, iD ((v4.fOK.length : Int))), (40, iD v11.2)] [(3, .box [sC (p1.fBase.map Ai), sC (p1.fNext.map Ai), sC (p1.fHeld.map A9)]), (7, .box [iC v4.fKind, iC v4.fFrom, iC v4.fTo, .pure (.val (.bool v4.fAware)), sC (v4.fOK.map (EP eB)), sC (v4.fRewrite.map (EP eB))]), (2006, .vec 3 (v14.map Cb))]) (fun j14 h => ?_) (fun v14 h => ?_)
      ·refine AP (Ab (Aa Ac rfl (qm rfl (qa rfl (Ad (Ab (Ab (Aa Ac rfl (qm rfl (qm rfl ?_))))))))))
       obtain ⟨c15, h⟩ := AL h
       refine Gb rfl c15 (Jx rfl (BD rfl (Ad ?_)))
       refine Ap rfl (fun c16 => ?_) (fun c16 => ?_)
       ·have h := An c16 h
        refine AY ?_
        exact Av _ h (sm [(2006, 2004)] _ _ rfl rfl)
       ·have h := Am c16 h
        refine Aq (Ab (Aa Ac rfl (qa rfl (Ad (Ab (Ab (Aa Ac rfl (qf J1 rfl (ql JI rfl (qm rfl ?_))))))))))
        obtain ⟨v17, a17, b17, h⟩ := Ak h
        refine qi FU Jz a17 (Ah b17) rfl (qk Mt rfl (AV EI rfl (qm rfl (Ad ?_))))
        refine AJ (L := Ej N v1 v4 v6 v11 v17) h (fun v18 => mk [(3, oD (.ptr 3 0)), (5, oD (.own 2007)), (6, iD v1.2), (7, oD (.ptr 7 0)), (8, pD (.val (.int .u8 v7))), (9, pD (.val (.int .u8 v6))), (10, iD v11.2), (11, bD v18.2.1), (15, pD (.sl (p0.fTables.map Ao))), (16, iD ((p0.fTables.length : Int))), (17, iD v1.2), (39, iD ((v4.fOK.length : Int))), (40, iD v11.2), (52, pD (.sl (v17.map eB))), (53, iD ((v17.length : Int))), (54, iD v18.2.2)] [(3, .box [sC (p1.fBase.map Ai), sC (p1.fNext.map Ai), sC (p1.fHeld.map A9)]), (7, .box [iC v4.fKind, iC v4.fFrom, iC v4.fTo, .pure (.val (.bool v4.fAware)), sC (v4.fOK.map (EP eB)), sC (v4.fRewrite.map (EP eB))]), (2007, .vec 3 (v18.1.map Cb))]) (fun v19 => mk [(3, oD (.ptr 3 0)), (5, oD (.own 2008)), (6, iD v1.2), (7, oD (.ptr 7 0)), (8, pD (.val (.int .u8 v7))), (9, pD (.val (.int .u8 v6))), (10, iD v11.2), (11, bD v19.2), (15, pD (.sl (p0.fTables.map Ao))), (16, iD ((p0.fTables.length : Int))), (17, iD v1.2), (39, iD ((v4.fOK.length : Int))), (40, iD v11.2)] [(3, .box [sC (p1.fBase.map Ai), sC (p1.fNext.map Ai), sC (p1.fHeld.map A9)]), (7, .box [iC v4.fKind, iC v4.fFrom, iC v4.fTo, .pure (.val (.bool v4.fAware)), sC (v4.fOK.map (EP eB)), sC (v4.fRewrite.map (EP eB))]), (2008, .vec 3 (v19.1.map Cb))]) (fun _ _ => rfl) (sm [(2007, 2004)] _ _ rfl rfl) (fun j18 n18 v18 h => ?_) (fun v19 s h hs => ?_)
        ·unfold Ej at h
         refine Ab (Aa Ac rfl (AZ rfl (Ad (Ab ?_))))
         refine Ap rfl (fun c20 => ?_) (fun c20 => ?_)
         ·have h := An c20 h
          refine Aq ?_
          refine AQ h (fun v21 => mk [(3, oD (.ptr 3 0)), (5, oD (.own 2009)), (6, iD v1.2), (7, oD (.ptr 7 0)), (8, pD (.val (.int .u8 v7))), (9, pD (.val (.int .u8 v6))), (10, iD v11.2), (11, bD v21.2), (15, pD (.sl (p0.fTables.map Ao))), (16, iD ((p0.fTables.length : Int))), (17, iD v1.2), (39, iD ((v4.fOK.length : Int))), (40, iD v11.2), (52, pD (.sl (v17.map eB))), (53, iD ((v17.length : Int))), (54, iD v18.2.2)] [(3, .box [sC (p1.fBase.map Ai), sC (p1.fNext.map Ai), sC (p1.fHeld.map A9)]), (7, .box [iC v4.fKind, iC v4.fFrom, iC v4.fTo, .pure (.val (.bool v4.fAware)), sC (v4.fOK.map (EP eB)), sC (v4.fRewrite.map (EP eB))]), (2009, .vec 3 (v21.1.map Cb))]) (fun j21 h => ?_) (fun v21 h => ?_)
          ·refine AP (Ab (Aa Ac rfl (qm rfl ?_)))
           obtain ⟨v22, a22, b22, h⟩ := Ak h
           refine qi EI PX a22 (Ah b22) rfl (qk SN rfl (qa rfl (qa rfl (Ad (Ab (Ab (Aa Ac rfl (qm rfl (qm rfl ?_)))))))))
           obtain ⟨c23, h⟩ := AL h
           refine Gb rfl c23 (Jx rfl (BD rfl (Ad ?_)))
           refine Ap rfl (fun c24 => ?_) (fun c24 => ?_)
           ·have h := An c24 h
            refine AY ?_
            exact Av _ h (sm [(2009, 2007)] _ _ rfl rfl)
           ·have h := Am c24 h
            refine Aq ?_
            refine AQ h (fun v25 => mk [(3, oD (.ptr 3 0)), (5, oD (.own 2010)), (6, iD v1.2), (7, oD (.ptr 7 0)), (8, pD (.val (.int .u8 v7))), (9, pD (.val (.int .u8 v6))), (10, iD v11.2), (11, bD v25), (12, iD v18.2.2), (13, bD v22), (15, pD (.sl (p0.fTables.map Ao))), (16, iD ((p0.fTables.length : Int))), (17, iD v1.2), (39, iD ((v4.fOK.length : Int))), (40, iD v11.2), (52, pD (.sl (v17.map eB))), (53, iD ((v17.length : Int))), (54, iD v18.2.2)] [(3, .box [sC (p1.fBase.map Ai), sC (p1.fNext.map Ai), sC (p1.fHeld.map A9)]), (7, .box [iC v4.fKind, iC v4.fFrom, iC v4.fTo, .pure (.val (.bool v4.fAware)), sC (v4.fOK.map (EP eB)), sC (v4.fRewrite.map (EP eB))]), (2010, .vec 3 (v18.1.map Cb))]) (fun j25 h => ?_) (fun v25 h => ?_)
            ·refine Aa Ac rfl (qm rfl (qm rfl ?_))
             refine AC (t := 65) rfl (fun c26 => ?_) (fun c26 => ?_)
             ·have h := An c26 h
              refine qn rfl (qp rfl (qa rfl (Ad ?_)))
              exact Av _ h (sm [(2010, 2007)] _ _ rfl rfl)
             ·have h := Am c26 h
              refine qm rfl (qp rfl (qa rfl (Ad ?_)))
              exact Av _ h (sm [(2010, 2007)] _ _ rfl rfl)
            ·refine AQ h (fun v27 => mk [(3, oD (.ptr 3 0)), (5, oD (.own 2011)), (6, iD v1.2), (7, oD (.ptr 7 0)), (8, pD (.val (.int .u8 v7))), (9, pD (.val (.int .u8 v6))), (10, iD v11.2), (11, bD v25), (12, iD v18.2.2), (15, pD (.sl (p0.fTables.map Ao))), (16, iD ((p0.fTables.length : Int))), (17, iD v1.2), (39, iD ((v4.fOK.length : Int))), (40, iD v11.2), (52, pD (.sl (v17.map eB))), (53, iD ((v17.length : Int))), (54, iD v18.2.2), (74, bD v27)] [(3, .box [sC (p1.fBase.map Ai), sC (p1.fNext.map Ai), sC (p1.fHeld.map A9)]), (7, .box [iC v4.fKind, iC v4.fFrom, iC v4.fTo, .pure (.val (.bool v4.fAware)), sC (v4.fOK.map (EP eB)), sC (v4.fRewrite.map (EP eB))]), (2011, .vec 3 (v18.1.map Cb))]) (fun j27 h => ?_) (fun v27 h => ?_)
             ·refine Aa Ac rfl (qm rfl (Cq rfl (qm rfl ?_)))
              refine AC (t := 70) rfl (fun c28 => ?_) (fun c28 => ?_)
              ·have h := An c28 h
               refine qf Ji rfl (ql SN rfl (Cq rfl (qp rfl (Ad ?_))))
               exact Av _ h (sm [(2011, 2010)] _ _ rfl rfl)
              ·have h := Am c28 h
               refine qn rfl (qn rfl (qn rfl (qp rfl (Ad ?_))))
               exact Av _ h (sm [(2011, 2010)] _ _ rfl rfl)
             ·refine Ap rfl (fun c29 => ?_) (fun c29 => ?_)
              ·have h := An c29 h
               refine Aa Ac rfl (qm rfl (qm rfl (qm rfl (qm rfl (Bz Jw P8 rfl (DT IW HU Jw rfl ?_))))))
               obtain ⟨c30, h⟩ := AL h
               refine CQ (f := Cb) IW IW HU Se Jw c30 rfl (qa rfl (Ad ?_))
               exact Av _ h (sm [(2009, 81)] _ _ rfl rfl)
              ·have h := Am c29 h
               refine Aq ?_
               exact Av _ h (sm [(2009, 2011)] _ _ rfl rfl)
          ·refine Aa Ac rfl (AX rfl (qm rfl (Ad ?_)))
           exact Av _ h (sm [(2007, 2009)] _ _ rfl rfl)
         ·have h := Am c20 h
          refine AY ?_
          exact Av _ h (sm [(2008, 2007)] _ _ rfl rfl)
        ·refine Al hs ?_
         refine AQ h (fun v31 => mk [(3, oD (.ptr 3 0)), (5, oD (.own 2012)), (6, iD v1.2), (7, oD (.ptr 7 0)), (8, pD (.val (.int .u8 v7))), (9, pD (.val (.int .u8 v6))), (10, iD v11.2), (15, pD (.sl (p0.fTables.map Ao))), (16, iD ((p0.fTables.length : Int))), (17, iD v1.2), (39, iD ((v4.fOK.length : Int))), (40, iD v11.2), (88, bD v31)] [(3, .box [sC (p1.fBase.map Ai), sC (p1.fNext.map Ai), sC (p1.fHeld.map A9)]), (7, .box [iC v4.fKind, iC v4.fFrom, iC v4.fTo, .pure (.val (.bool v4.fAware)), sC (v4.fOK.map (EP eB)), sC (v4.fRewrite.map (EP eB))]), (2012, .vec 3 (v19.1.map Cb))]) (fun j31 h => ?_) (fun v31 h => ?_)
         ·refine Aa Ac rfl (qf Ji rfl (ql SN rfl (qm rfl ?_)))
          refine AC (t := 85) rfl (fun c32 => ?_) (fun c32 => ?_)
          ·have h := An c32 h
           refine qm rfl (Cq rfl (qp rfl (Ad ?_)))
           exact Av _ h (sm [(2012, 2008)] _ _ rfl rfl)
          ·have h := Am c32 h
           refine qn rfl (qn rfl (qp rfl (Ad ?_)))
           exact Av _ h (sm [(2012, 2008)] _ _ rfl rfl)
         ·refine Ap rfl (fun c33 => ?_) (fun c33 => ?_)
          ·have h := An c33 h
           refine Aa Ac rfl (qm rfl (qm rfl (qm rfl (Bz Jw P8 rfl (DT IW HU Jw rfl ?_)))))
           obtain ⟨c34, h⟩ := AL h
           refine CQ (f := Cb) IW IW HU Se Jw c34 rfl (qa rfl (Ad ?_))
           exact Av _ h (sm [(2006, 94)] _ _ rfl rfl)
          ·have h := Am c33 h
           refine Aq ?_
           exact Av _ h (sm [(2006, 2012)] _ _ rfl rfl)
      ·refine Aa Ac rfl (AX rfl (qm rfl (Ad ?_)))
       exact Av _ h (sm [(2004, 2006)] _ _ rfl rfl)
     ·have h := Am c13 h
      refine AY ?_
      exact Av _ h (sm [(2005, 2004)] _ _ rfl rfl)
    ·refine Al hs (Aa Ac rfl (AX rfl (qm rfl (Ad ?_))))
     exact Av _ h (sm [(2001, 2005)] _ _ rfl rfl)
  ·have h := Am c3 h
   refine AY ?_
   exact Av _ h (sm [(2002, 2001)] _ _ rfl rfl)
 ·refine Al hs (Ab (Aa Ac rfl (qm rfl (qa rfl (Ad ?_)))))
  obtain rfl := sj h
  refine Al (sm [(1000, 2002)] [(4, oD (.own 1000))] [(1000, .vec 3 (v2.map Cb))] rfl rfl) (Az ?_)
  exact ⟨⟨[_], ⟨.tmp _ _ rfl, tv⟩, rfl⟩, ⟨rfl, tv⟩⟩
theorem Pc (N : Nat) (p0 : Ag) (p1 : Ae) (r : Ae × AW × Int) (h : Iw N p0 p1 = some r) : AB Tryz.prog 68 [.e (.agg [sC (p0.fVersions.map Ai), sC (p0.fNow.map Ai), sC (p0.fTarget.map Ai), sC (p0.fTables.map Ao)]), .e (.agg [sC (p1.fBase.map Ai), sC (p1.fNext.map Ai), sC (p1.fHeld.map A9)])] [] (.tup [.agg [sC (r.1.fBase.map Ai), sC (r.1.fNext.map Ai), sC (r.1.fHeld.map A9)], .agg [iC r.2.1.fTable, iC r.2.1.fWriter, iC r.2.1.fReader], .one (iC r.2.2)]) := by
 unfold Iw at h
 refine Au (n := 42) (rs := [.cell 4 50, .cell 5 113, .tmp 6]) Tryz.func68 rfl rfl rfl (A5 rfl) (A5 rfl) rfl fun w0 S0 => ?_
 refine Ab (Aa Ac rfl (qb rfl (qb rfl (qz Cv rfl (qz Jw rfl (qa rfl (Ad (Ab (Aa Ac rfl (qL DP Dr rfl (qL A0 Ax rfl ?_)))))))))))
 obtain ⟨v1, a1, h⟩ := bind_some h
 refine AG [2001] (J9 N p0 p1 v1 a1) Wx rfl (qm rfl (qx rfl (qx rfl (qa rfl (qa rfl (Ad (Ab (Ab (Aa Ac rfl (qm rfl (B6 rfl (Ad ?_))))))))))))
 refine Ap rfl (fun c2 => ?_) (fun c2 => ?_)
 ·have h := An c2 h
  refine Ab (Aa Ac rfl (Bz Cv GR rfl (Bz Jw P8 rfl (qm rfl (qs Ax rfl (qs HU rfl (qa rfl (Ad ?_))))))))
  obtain rfl := sj h
  refine Al ((KA 4 _ rfl).trans (sm [] [(4, oD (.ptr 4 0)), (5, oD (.ptr 5 0)), (6, iD v1.2)] [(4, .box [sC ((([] : List Int)).map Ai), sC ((([] : List Int)).map Ai), sC ((([] : List Int)).map A9)]), (5, .box [iC 0, iC 0, iC 0])] rfl rfl)) (Az ?_)
  exact ⟨⟨[_, _, _], ⟨.cellN _ _ _ _ _ _ _ rfl rfl A0 Ax rfl rfl (HR rfl), ⟨.cellN _ _ _ _ _ _ _ rfl rfl Qz HU rfl rfl (HR rfl), ⟨.tmp _ _ rfl, tv⟩⟩⟩, rfl⟩, tv⟩
 ·have h := Am c2 h
  refine Aq (Ab (Ab (Aa Ac rfl (qm rfl (Dz AR rfl (qm rfl (Ad ?_)))))))
  refine AJ (L := FE N p0 v1) h (fun v3 => mk [(2, oD (.ptr 2 0)), (4, oD (.ptr 4 0)), (5, oD (.ptr 5 0)), (23, oD (.own 2002)), (24, iD ((v1.1.length : Int))), (25, iD v3)] [(2, .box [sC (p0.fVersions.map Ai), sC (p0.fNow.map Ai), sC (p0.fTarget.map Ai), sC (p0.fTables.map Ao)]), (4, .box [.pure (.nil0), .pure (.nil0), .pure (.nil0)]), (5, .box [iC 0, iC 0, iC 0]), (2002, .vec 3 (v1.1.map Af))]) (fun v4 => mk [(4, oD (.ptr 4 0)), (5, oD (.ptr 5 0))] [(4, .box [.pure (.nil0), .pure (.nil0), .pure (.nil0)]), (5, .box [iC 0, iC 0, iC 0])]) (fun _ _ => rfl) (sm [(2002, 2001)] _ _ rfl rfl) (fun j3 n3 v3 h => ?_) (fun v4 s h hs => ?_)
  ·unfold FE at h
   refine Ab (Aa Ac rfl (AZ rfl (Ad (Ab ?_))))
   refine Ap rfl (fun c5 => ?_) (fun c5 => ?_)
   ·have h := An c5 h
    refine Aq (Ab (AP (Ab (Aa Ac rfl ?_))))
    obtain ⟨v6, a6, b6, h⟩ := Ak h
    refine qI AR Ax a6 (Ah b6) rfl (qJ A0 Ax (Ah b6) rfl (qz Cv rfl (qs Ax rfl (Ad (Ab (Aa Ac rfl (qL DP Dr rfl (qL A0 Ax rfl ?_))))))))
    obtain ⟨v7, a7, h⟩ := bind_some h
    refine AG [2003] (Lp N p0 v6 v7 a7) WT rfl (qa rfl (Ad (Ab (Aa Ac rfl (qm rfl (Dz IW rfl (Ey rfl (Ad ?_))))))))
    refine Ap rfl (fun c8 => ?_) (fun c8 => ?_)
    ·have h := An c8 h
     refine Ab (Aa Ac rfl (qL A0 Ax rfl (qm rfl ?_)))
     obtain ⟨v9, a9, b9, h⟩ := Ak h
     refine qI IW HU a9 (Ah b9) rfl (qJ Qz HU (Ah b9) rfl (qs Ax rfl (qs HU rfl (qa rfl (AM (by kernel_rfl) ?_)))))
     obtain rfl := sj h
     refine Al (sm [] [(4, oD (.ptr 4 0)), (5, oD (.ptr 5 0)), (6, iD 0)] [(4, .box [sC (v6.fBase.map Ai), sC (v6.fNext.map Ai), sC (v6.fHeld.map A9)]), (5, .box [iC v9.fTable, iC v9.fWriter, iC v9.fReader])] rfl rfl) (Az ?_)
     exact ⟨⟨[_, _, _], ⟨.cellN _ _ _ _ _ _ _ rfl rfl A0 Ax rfl rfl (HR rfl), ⟨.cellN _ _ _ _ _ _ _ rfl rfl Qz HU rfl rfl (HR rfl), ⟨.tmp _ _ rfl, tv⟩⟩⟩, rfl⟩, tv⟩
    ·have h := Am c8 h
     refine Aq (Aa Ac rfl (AX rfl (qm rfl (Ad ?_))))
     exact Av _ h (sm [] _ _ rfl rfl)
   ·have h := Am c5 h
    refine AY ?_
    exact Av _ h (sm [] _ _ rfl rfl)
  ·refine Al hs (Ab (Aa Ac rfl (Bz Cv GR rfl (Bz Jw P8 rfl (qs Ax rfl (qs HU rfl (qa rfl (Ad ?_))))))))
   obtain rfl := sj h
   refine Al ((KA 4 _ rfl).trans (sm [] [(4, oD (.ptr 4 0)), (5, oD (.ptr 5 0)), (6, iD 15)] [(4, .box [sC ((([] : List Int)).map Ai), sC ((([] : List Int)).map Ai), sC ((([] : List Int)).map A9)]), (5, .box [iC 0, iC 0, iC 0])] rfl rfl)) (Az ?_)
   exact ⟨⟨[_, _, _], ⟨.cellN _ _ _ _ _ _ _ rfl rfl A0 Ax rfl rfl (HR rfl), ⟨.cellN _ _ _ _ _ _ _ rfl rfl Qz HU rfl rfl (HR rfl), ⟨.tmp _ _ rfl, tv⟩⟩⟩, rfl⟩, tv⟩
theorem Ih (N : Nat) (p0 : Ag) (p1 : Ae) (r : Bool × Int) (h : FB N p0 p1 = some r) : AB Tryz.prog 45 [.e (.agg [sC (p0.fVersions.map Ai), sC (p0.fNow.map Ai), sC (p0.fTarget.map Ai), sC (p0.fTables.map Ao)]), .e (.agg [sC (p1.fBase.map Ai), sC (p1.fNext.map Ai), sC (p1.fHeld.map A9)])] [] (.tup [.one (.pure (.val (.bool r.1))), .one (iC r.2)]) := by
 unfold FB at h
 refine Au (n := 22) (rs := [.tmp 4, .tmp 5]) Tryz.func45 rfl rfl rfl (A5 rfl) (A5 rfl) rfl fun w0 S0 => ?_
 refine Ab (Aa Ac rfl (qb rfl (qb rfl (qa rfl (qa rfl (Ad (Ab (Aa Ac rfl (qL DP Dr rfl (qL A0 Ax rfl ?_))))))))))
 obtain ⟨v1, a1, h⟩ := bind_some h
 refine AG [] (Pc N p0 p1 v1 a1) Xr rfl (qm rfl (qx rfl (qx rfl (qx rfl (qz Cv rfl (qz Jw rfl (qs Ax rfl (qs HU rfl (qa rfl (Ad (Ab (Aa Ac rfl (qm rfl (Ad (AP (Ab (Aa Ac rfl (BD rfl (qa rfl (Ad ?_))))))))))))))))))))
 refine Ap rfl (fun c2 => ?_) (fun c2 => ?_)
 ·have h := An c2 h
  refine Ab (Aa Ac rfl (qa rfl (qa rfl (Ad ?_))))
  obtain rfl := sj h
  refine Al (sm [] [(4, bD false), (5, iD 0)] [] rfl rfl) (Az ?_)
  exact ⟨⟨[_, _], ⟨.tmp _ _ rfl, ⟨.tmp _ _ rfl, tv⟩⟩, rfl⟩, tv⟩
 ·have h := Am c2 h
  refine Ab (Aa Ac rfl (BD rfl (qa rfl (Ad ?_))))
  refine Ap rfl (fun c3 => ?_) (fun c3 => ?_)
  ·have h := An c3 h
   refine Ab (Aa Ac rfl (qa rfl (qa rfl (Ad ?_))))
   obtain rfl := sj h
   refine Al (sm [] [(4, bD true), (5, iD 0)] [] rfl rfl) (Az ?_)
   exact ⟨⟨[_, _], ⟨.tmp _ _ rfl, ⟨.tmp _ _ rfl, tv⟩⟩, rfl⟩, tv⟩
  ·have h := Am c3 h
   refine Ab (Aa Ac rfl (qm rfl (qa rfl (qa rfl (Ad ?_)))))
   obtain rfl := sj h
   refine Al (sm [] [(4, bD false), (5, iD v1.2.2)] [] rfl rfl) (Az ?_)
   exact ⟨⟨[_, _], ⟨.tmp _ _ rfl, ⟨.tmp _ _ rfl, tv⟩⟩, rfl⟩, tv⟩
theorem JA (N : Nat) (p0 : Ag) (r : Ae × Bool × Int) (h : F5 N p0 = some r) : AB Tryz.prog 47 [.e (.agg [sC (p0.fVersions.map Ai), sC (p0.fNow.map Ai), sC (p0.fTarget.map Ai), sC (p0.fTables.map Ao)])] [(1, r.1.fBase.map Ai), (1, r.1.fNext.map Ai), (1, r.1.fHeld.map A9)] (.tup [.agg [.own 0, .own 1, .own 2], .one (.pure (.val (.bool r.2.1))), .one (iC r.2.2)]) := by
 unfold F5 at h
 refine Au (n := 26) (rs := [.cell 2 50, .tmp 3, .tmp 4]) Tryz.func47 rfl rfl rfl (A5 rfl) (A5 rfl) rfl fun w0 S0 => ?_
 refine Ab (Aa Ac rfl (qb rfl (qz Cv rfl (qa rfl (qa rfl (Ad (Ab (Aa Ac rfl (qL DP Dr rfl ?_)))))))))
 obtain ⟨v1, a1, h⟩ := bind_some h
 refine AG [2001, 2002, 2003] (KY N p0 v1 a1) Vl rfl (qm rfl (qx rfl (qx rfl (qz Cv rfl (qs Ax rfl (qa rfl (Ad (Ab (Ab (Aa Ac rfl (qm rfl (B6 rfl (Ad ?_)))))))))))))
 refine Ap rfl (fun c2 => ?_) (fun c2 => ?_)
 ·have h := An c2 h
  refine Ab (Aa Ac rfl (Bz Cv GR rfl (qm rfl (qs Ax rfl (qa rfl (qa rfl (Ad ?_)))))))
  obtain rfl := sj h
  refine Al ((AA 2 0 2004 1 _ rfl rfl rfl rfl).trans ((AA 2 1 2005 1 _ rfl rfl rfl rfl).trans ((AA 2 2 2006 1 _ rfl rfl rfl rfl).trans (sm [(1000, 2004), (1001, 2005), (1002, 2006)] [(2, oD (.ptr 2 0)), (3, bD false), (4, iD v1.2)] [(2, .box [.own 1000, .own 1001, .own 1002]), (1000, .vec 1 ((([] : List Int)).map Ai)), (1001, .vec 1 ((([] : List Int)).map Ai)), (1002, .vec 1 ((([] : List Int)).map A9))] rfl rfl)))) (Az ?_)
  exact ⟨⟨[_, _, _], ⟨.cellN _ _ _ _ _ _ _ rfl rfl A0 Ax rfl rfl (HR rfl), ⟨.tmp _ _ rfl, ⟨.tmp _ _ rfl, tv⟩⟩⟩, rfl⟩, ⟨rfl, rfl, rfl, tv⟩⟩
 ·have h := Am c2 h
  refine Aq (Ab (Aa Ac rfl (qL DP Dr rfl (qL A0 Ax rfl ?_))))
  obtain ⟨v3, a3, h⟩ := bind_some h
  refine FG [] [2001, 2002, 2003] (Ih N p0 v1.1 v3 a3) UU Ef rfl (qm rfl (qx rfl (qx rfl (qa rfl (qa rfl (Ad (Ab (Aa Ac rfl (qL A0 Ax rfl (qm rfl (qm rfl (qs Ax rfl (qa rfl (qa rfl (Ad ?_)))))))))))))))
  obtain rfl := sj h
  refine Al (sm [(1000, 2001), (1001, 2002), (1002, 2003)] [(2, oD (.ptr 2 0)), (3, bD v3.1), (4, iD v3.2)] [(2, .box [.own 1000, .own 1001, .own 1002]), (1000, .vec 1 (v1.1.fBase.map Ai)), (1001, .vec 1 (v1.1.fNext.map Ai)), (1002, .vec 1 (v1.1.fHeld.map A9))] rfl rfl) (Az ?_)
  exact ⟨⟨[_, _, _], ⟨.cellN _ _ _ _ _ _ _ rfl rfl A0 Ax rfl rfl (HR rfl), ⟨.tmp _ _ rfl, ⟨.tmp _ _ rfl, tv⟩⟩⟩, rfl⟩, ⟨rfl, rfl, rfl, tv⟩⟩
theorem I3 (N : Nat) (p0 : Ae) (r : ByteArray) (h : Gf N p0 = some r) : AB Tryz.prog 48 [.e (.agg [sC (p0.fBase.map Ai), sC (p0.fNext.map Ai), sC (p0.fHeld.map A9)])] [] (pD (.val (.string r))) := by
 unfold Gf at h
 refine Au (n := 44) (rs := [.tmp 2]) Tryz.func48 rfl rfl rfl (A5 rfl) (A5 rfl) rfl fun w0 S0 => ?_
 refine Ab (Aa Ac rfl (qb rfl (qa rfl (Ad (Ab (Aa Ac rfl (qa rfl (Ad (Ab (Ab (Aa Ac rfl (qf Cz rfl (ql Bg rfl (AV AH rfl (qm rfl (Ad ?_))))))))))))))))
 refine AJ (L := FI N p0) h (fun v1 => mk [(1, oD (.ptr 1 0)), (3, oD (.own 2001)), (9, iD ((p0.fBase.length : Int))), (10, iD v1.2)] [(1, .box [sC (p0.fBase.map Ai), sC (p0.fNext.map Ai), sC (p0.fHeld.map A9)]), (2001, .vec 1 (v1.1.map A9))]) (fun v2 => mk [(1, oD (.ptr 1 0)), (3, oD (.own 2002))] [(1, .box [sC (p0.fBase.map Ai), sC (p0.fNext.map Ai), sC (p0.fHeld.map A9)]), (2002, .vec 1 (v2.map A9))]) (fun _ _ => rfl) ((Bn 3 2003 1 rfl rfl rfl).trans (sm [(2001, 2003)] _ _ rfl rfl)) (fun j1 n1 v1 h => ?_) (fun v2 s h hs => ?_)
 ·unfold FI at h
  refine Ab (Aa Ac rfl (AZ rfl (Ad (Ab ?_))))
  refine Ap rfl (fun c3 => ?_) (fun c3 => ?_)
  ·have h := An c3 h
   refine Aq (Ab (AP (Ab (Aa Ac rfl (qm rfl (qa rfl (Ad (Aa Ac rfl (qm rfl (qf Cz rfl (ql Bg rfl (qm rfl ?_))))))))))))
   obtain ⟨v4, a4, b4, h⟩ := Ak h
   refine qi AH Df a4 (Ah b4) rfl (qk Cc rfl (FO UI WJ rfl (qf BG rfl (ql Bg rfl (qm rfl ?_)))))
   obtain ⟨v5, a5, b5, h⟩ := Ak h
   refine qi AH Df a5 (Ah b5) rfl (qk Cc rfl (AX rfl (FO UI WJ rfl (DT Gl SO Vm rfl ?_))))
   obtain ⟨c6, h⟩ := AL h
   refine CQ (f := A9) Gl Gl SO V9 Vm c6 rfl (qa rfl (AM (by kernel_rfl) (Aa Ac rfl (AX rfl (qm rfl (Ad ?_))))))
   exact Av _ h (sm [(2001, 28)] _ _ rfl rfl)
  ·have h := Am c3 h
   refine AY ?_
   exact Av _ h (sm [(2002, 2001)] _ _ rfl rfl)
 ·refine Al hs (Ab (Ab (Aa Ac rfl (qf Cs rfl (ql Ga rfl (AV C3 rfl (qm rfl (Ad ?_))))))))
  refine AJ (L := FL N p0) h (fun v7 => mk [(3, oD (.own 2004)), (31, pD (.sl (p0.fHeld.map A9))), (32, iD ((p0.fHeld.length : Int))), (33, iD v7.2)] [(2004, .vec 1 (v7.1.map A9))]) (fun v8 => mk [(3, oD (.own 2005))] [(2005, .vec 1 (v8.map A9))]) (fun _ _ => rfl) (sm [(2004, 2002)] _ _ rfl rfl) (fun j7 n7 v7 h => ?_) (fun v8 s h hs => ?_)
  ·unfold FL at h
   refine Ab (Aa Ac rfl (AZ rfl (Ad (Ab ?_))))
   refine Ap rfl (fun c9 => ?_) (fun c9 => ?_)
   ·have h := An c9 h
    refine Aq (Ab (AP (Ab (Aa Ac rfl ?_))))
    obtain ⟨v10, a10, b10, h⟩ := Ak h
    refine qi C3 Fa a10 (Ah b10) rfl (qk IK rfl (qa rfl (Ad (Aa Ac rfl (qm rfl (qm rfl (DT Gl SO Vm rfl ?_)))))))
    obtain ⟨c11, h⟩ := AL h
    refine CQ (f := A9) Gl Gl SO V9 Vm c11 rfl (qa rfl (Ad (Aa Ac rfl (AX rfl (qm rfl (Ad ?_))))))
    exact Av _ h (sm [(2004, 40)] _ _ rfl rfl)
   ·have h := Am c9 h
    refine AY ?_
    exact Av _ h (sm [(2005, 2004)] _ _ rfl rfl)
  ·refine Al hs (Ab (Aa Ac rfl (qm rfl ?_)))
   refine Sd v8 (.p rfl) rfl (Ro A9 _ _ _) ⟨rfl, tv⟩ rfl V7 TK ?_
   refine qa rfl (Ad ?_)
   obtain rfl := sj h
   refine Al (sm [] [(2, pD (.val (.string ((HD v8)))))] [] rfl rfl) (Az ?_)
   exact ⟨⟨[_], ⟨.tmp _ _ rfl, tv⟩, rfl⟩, tv⟩
theorem Pw (N : Nat) (p0 : Ag) (r : (List Aj)) (h : IU N p0 = some r) : AB Tryz.prog 96 [.e (.agg [sC (p0.fVersions.map Ai), sC (p0.fNow.map Ai), sC (p0.fTarget.map Ai), sC (p0.fTables.map Ao)])] [(3, r.map Ay)] (oD (.own 0)) := by
 unfold IU at h
 refine Au (n := 54) (rs := [.tmp 2]) Tryz.func96 rfl rfl rfl (A5 rfl) (A5 rfl) rfl fun w0 S0 => ?_
 refine Ab (Aa Ac rfl (qb rfl (qa rfl (Ad (Ab (Aa Ac rfl (qa rfl (Ad (Ab (Ab (Aa Ac rfl (qf Bt rfl (ql Bg rfl (AV AH rfl (qm rfl (Ad ?_))))))))))))))))
 refine AJ (L := Gk N p0) h (fun v1 => mk [(1, oD (.ptr 1 0)), (3, oD (.own 2001)), (10, pD (.sl (p0.fVersions.map Ai))), (11, iD ((p0.fVersions.length : Int))), (12, iD v1.2)] [(1, .box [sC (p0.fVersions.map Ai), sC (p0.fNow.map Ai), sC (p0.fTarget.map Ai), sC (p0.fTables.map Ao)]), (2001, .vec 3 (v1.1.map Ay))]) (fun v2 => mk [(1, oD (.ptr 1 0)), (3, oD (.own 2002))] [(1, .box [sC (p0.fVersions.map Ai), sC (p0.fNow.map Ai), sC (p0.fTarget.map Ai), sC (p0.fTables.map Ao)]), (2002, .vec 3 (v2.map Ay))]) (fun _ _ => rfl) ((Bn 3 2005 3 rfl rfl rfl).trans (sm [(2001, 2005)] _ _ rfl rfl)) (fun j1 n1 v1 h => ?_) (fun v2 s h hs => ?_)
 ·unfold Gk at h
  refine Ab (Aa Ac rfl (AZ rfl (Ad (Ab ?_))))
  refine Ap rfl (fun c3 => ?_) (fun c3 => ?_)
  ·have h := An c3 h
   refine Aq (Ab (AP (Ab (Aa Ac rfl (qm rfl ?_)))))
   obtain ⟨v4, a4, b4, h⟩ := Ak h
   refine qi AH Df a4 (Ah b4) rfl (qk Cc rfl (qa rfl (qa rfl (Ad (Ab (Aa Ac rfl (qm rfl (qm rfl (Ad ?_)))))))))
   refine AJ (L := F8 N v1 v4) h (fun v5 => mk [(1, oD (.ptr 1 0)), (3, oD (.own 2003)), (4, iD v1.2), (10, pD (.sl (p0.fVersions.map Ai))), (11, iD ((p0.fVersions.length : Int))), (12, iD v1.2), (17, iD v4), (18, iD v5.2)] [(1, .box [sC (p0.fVersions.map Ai), sC (p0.fNow.map Ai), sC (p0.fTarget.map Ai), sC (p0.fTables.map Ao)]), (2003, .vec 3 (v5.1.map Ay))]) (fun v6 => mk [(1, oD (.ptr 1 0)), (3, oD (.own 2004)), (10, pD (.sl (p0.fVersions.map Ai))), (11, iD ((p0.fVersions.length : Int))), (12, iD v1.2)] [(1, .box [sC (p0.fVersions.map Ai), sC (p0.fNow.map Ai), sC (p0.fTarget.map Ai), sC (p0.fTables.map Ao)]), (2004, .vec 3 (v6.map Ay))]) (fun _ _ => rfl) (sm [(2003, 2001)] _ _ rfl rfl) (fun j5 n5 v5 h => ?_) (fun v6 s h hs => ?_)
   ·unfold F8 at h
    refine Ab (Aa Ac rfl (AZ rfl (Ad (Ab ?_))))
    refine Ap rfl (fun c7 => ?_) (fun c7 => ?_)
    ·have h := An c7 h
     refine Aq (Ab (AP (Ab (Aa Ac rfl (qm rfl (qa rfl (Ad (Aa Ac rfl (qm rfl (qm rfl (qm rfl (Bz EQ OO rfl (DT BX CT EQ rfl ?_)))))))))))))
     obtain ⟨c8, h⟩ := AL h
     refine CQ (f := Ay) BX BX CT IC EQ c8 rfl (qa rfl (Ad (Aa Ac rfl (AX rfl (qm rfl (Ad ?_))))))
     exact Av _ h (sm [(2003, 26)] _ _ rfl rfl)
    ·have h := Am c7 h
     refine AY ?_
     exact Av _ h (sm [(2004, 2003)] _ _ rfl rfl)
   ·refine Al hs (Aa Ac rfl (AX rfl (qm rfl (Ad ?_))))
    exact Av _ h (sm [(2001, 2004)] _ _ rfl rfl)
  ·have h := Am c3 h
   refine AY ?_
   exact Av _ h (sm [(2002, 2001)] _ _ rfl rfl)
 ·refine Al hs (Ab (Ab (Aa Ac rfl (qf Bt rfl (ql Bg rfl (AV AH rfl (qm rfl (Ad ?_))))))))
  refine AJ (L := F1 N p0) h (fun v9 => mk [(1, oD (.ptr 1 0)), (3, oD (.own 2006)), (31, iD ((p0.fVersions.length : Int))), (32, iD v9.2)] [(1, .box [sC (p0.fVersions.map Ai), sC (p0.fNow.map Ai), sC (p0.fTarget.map Ai), sC (p0.fTables.map Ao)]), (2006, .vec 3 (v9.1.map Ay))]) (fun v10 => mk [(1, oD (.ptr 1 0)), (3, oD (.own 2007))] [(1, .box [sC (p0.fVersions.map Ai), sC (p0.fNow.map Ai), sC (p0.fTarget.map Ai), sC (p0.fTables.map Ao)]), (2007, .vec 3 (v10.map Ay))]) (fun _ _ => rfl) (sm [(2006, 2002)] _ _ rfl rfl) (fun j9 n9 v9 h => ?_) (fun v10 s h hs => ?_)
  ·unfold F1 at h
   refine Ab (Aa Ac rfl (AZ rfl (Ad (Ab ?_))))
   refine Ap rfl (fun c11 => ?_) (fun c11 => ?_)
   ·have h := An c11 h
    refine Aq (Ab (AP (Ab (Aa Ac rfl (qm rfl (qa rfl (Ad (Aa Ac rfl (qm rfl (qm rfl (Bz EQ OO rfl (DT BX CT EQ rfl ?_))))))))))))
    obtain ⟨c12, h⟩ := AL h
    refine CQ (f := Ay) BX BX CT IC EQ c12 rfl (qa rfl (Ad (Aa Ac rfl (AX rfl (qm rfl (Ad ?_))))))
    exact Av _ h (sm [(2006, 39)] _ _ rfl rfl)
   ·have h := Am c11 h
    refine AY ?_
    exact Av _ h (sm [(2007, 2006)] _ _ rfl rfl)
  ·refine Al hs (Ab (Ab (Aa Ac rfl (qf CA rfl (ql Gu rfl (AV DN rfl (qm rfl (Ad ?_))))))))
   refine AJ (L := FM N p0) h (fun v13 => mk [(3, oD (.own 2008)), (43, iD ((p0.fTables.length : Int))), (44, iD v13.2)] [(2008, .vec 3 (v13.1.map Ay))]) (fun v14 => mk [(3, oD (.own 2009))] [(2009, .vec 3 (v14.map Ay))]) (fun _ _ => rfl) (sm [(2008, 2007)] _ _ rfl rfl) (fun j13 n13 v13 h => ?_) (fun v14 s h hs => ?_)
   ·unfold FM at h
    refine Ab (Aa Ac rfl (AZ rfl (Ad (Ab ?_))))
    refine Ap rfl (fun c15 => ?_) (fun c15 => ?_)
    ·have h := An c15 h
     refine Aq (Ab (AP (Ab (Aa Ac rfl (qm rfl (qa rfl (Ad (Aa Ac rfl (qm rfl (qm rfl (Bz EQ OO rfl (DT BX CT EQ rfl ?_))))))))))))
     obtain ⟨c16, h⟩ := AL h
     refine CQ (f := Ay) BX BX CT IC EQ c16 rfl (qa rfl (Ad (Aa Ac rfl (AX rfl (qm rfl (Ad ?_))))))
     exact Av _ h (sm [(2008, 51)] _ _ rfl rfl)
    ·have h := Am c15 h
     refine AY ?_
     exact Av _ h (sm [(2009, 2008)] _ _ rfl rfl)
   ·refine Al hs (Ab (Aa Ac rfl (qm rfl (qa rfl (Ad ?_)))))
    obtain rfl := sj h
    refine Al (sm [(1000, 2009)] [(2, oD (.own 1000))] [(1000, .vec 3 (v14.map Ay))] rfl rfl) (Az ?_)
    exact ⟨⟨[_], ⟨.tmp _ _ rfl, tv⟩, rfl⟩, ⟨rfl, tv⟩⟩
theorem JE (N : Nat) (p0 : Ae) (r : Ae) (h : Et N p0 = some r) : AB Tryz.prog 78 [.e (.agg [sC (p0.fBase.map Ai), sC (p0.fNext.map Ai), sC (p0.fHeld.map A9)])] [(1, r.fBase.map Ai), (1, r.fNext.map Ai), (1, r.fHeld.map A9)] (.e (.agg [.own 0, .own 1, .own 2])) := by
 unfold Et at h
 refine Au (n := 13) (rs := [.cell 2 50]) Tryz.func78 rfl rfl rfl (A5 rfl) (A5 rfl) rfl fun w0 S0 => ?_
 refine Ab (Aa Ac rfl (qb rfl (qz Cv rfl (Ad (Ab (Aa Ac rfl (qf Cz rfl (ql Bg rfl ?_))))))))
 obtain ⟨v1, a1, h⟩ := bind_some h
 refine AG [2001] (Dg N p0.fBase v1 a1) Sr rfl (qf BG rfl (ql Bg rfl ?_))
 obtain ⟨v2, a2, h⟩ := bind_some h
 refine AG [2002] (Dg N p0.fNext v2 a2) Sr rfl (qf Cs rfl (ql Ga rfl ?_))
 obtain ⟨v3, a3, h⟩ := bind_some h
 refine AG [2003] (Ez N p0.fHeld v3 a3) V2 rfl (Bz Cv GR rfl (qs Ax rfl (AM (by kernel_rfl) ?_)))
 obtain rfl := sj h
 refine Al (sm [(1000, 2001), (1001, 2002), (1002, 2003)] [(2, oD (.ptr 2 0))] [(2, .box [.own 1000, .own 1001, .own 1002]), (1000, .vec 1 (v1.map Ai)), (1001, .vec 1 (v2.map Ai)), (1002, .vec 1 (v3.map A9))] rfl rfl) (Az ?_)
 exact ⟨⟨[_], ⟨.cellN _ _ _ _ _ _ _ rfl rfl A0 Ax rfl rfl (HR rfl), tv⟩, rfl⟩, ⟨rfl, rfl, rfl, tv⟩⟩
theorem JD (N : Nat) (p0 : AO) (r : Bool) (h : Ew N p0 = some r) : AB Tryz.prog 120 [.e (.agg [iC p0.fKind, iC p0.fFrom, iC p0.fTo, .pure (.val (.bool p0.fAware)), sC (p0.fOK.map (EP eB)), sC (p0.fRewrite.map (EP eB))])] [] (bD r) := by
 unfold Ew at h
 refine Au (n := 11) (rs := [.tmp 2]) Tryz.func120 rfl rfl rfl (A5 rfl) (A5 rfl) rfl fun w0 S0 => ?_
 refine Ab (Aa Ac rfl (qb rfl (qa rfl (Ad ?_))))
 refine AQ h (fun v1 => mk [(2, bD v1)] []) (fun j1 h => ?_) (fun v1 h => ?_)
 ·refine Aa Ac rfl (qf E3 rfl (ql Cc rfl (BD rfl (qm rfl ?_))))
  refine AC (t := 6) rfl (fun c2 => ?_) (fun c2 => ?_)
  ·have h := An c2 h
   refine qn rfl (qn rfl (qn rfl (qp rfl (qa rfl (Ad ?_)))))
   exact Av _ h (sm [] _ _ rfl rfl)
  ·have h := Am c2 h
   refine qf E3 rfl (ql Cc rfl (BD rfl (qp rfl (qa rfl (Ad ?_)))))
   exact Av _ h (sm [] _ _ rfl rfl)
 ·obtain rfl := sj h
  refine Al (sm [] [(2, bD v1)] [] rfl rfl) (Az ?_)
  exact ⟨⟨[_], ⟨.tmp _ _ rfl, tv⟩, rfl⟩, tv⟩
theorem Oc (N : Nat) (p0 : Ag) (p1 : Ae) (p2 : Aj) (r : Bool × (List Int) × (List Int)) (h : GF N p0 p1 p2 = some r) : By Tryz.prog 113 [.e (.agg [sC (p0.fVersions.map Ai), sC (p0.fNow.map Ai), sC (p0.fTarget.map Ai), sC (p0.fTables.map Ao)]), oD (.ptr 90000 0), .e (.agg [iC p2.fKind, iC p2.fIndex, iC p2.fVersion])] [(.box [.own 90001, .own 90002, .own 90003], .box [.own 90001, .own 90002, .own 90003]), (.vec 1 (p1.fBase.map Ai), .vec 1 (p1.fBase.map Ai)), (.vec 1 (p1.fNext.map Ai), .vec 1 (r.2.1.map Ai)), (.vec 1 (p1.fHeld.map A9), .vec 1 (r.2.2.map A9))] [] (bD r.1) := by
 unfold GF at h
 refine Br (n := 70) (rs := [.tmp 6]) Tryz.func113 rfl rfl rfl (A5 rfl) (A5 rfl) rfl rfl (A5 rfl) rfl (A5 rfl) fun w0 S0 GL => ?_
 refine Al (sm [] [(0, .e (.agg [sC (p0.fVersions.map Ai), sC (p0.fNow.map Ai), sC (p0.fTarget.map Ai), sC (p0.fTables.map Ao)])), (1, oD (.ptr 90000 0)), (2, .e (.agg [iC p2.fKind, iC p2.fIndex, iC p2.fVersion]))] [(90000, .box [.own 90001, .own 90002, .own 90003]), (90001, .vec 1 (p1.fBase.map Ai)), (90002, .vec 1 (p1.fNext.map Ai)), (90003, .vec 1 (p1.fHeld.map A9))] rfl rfl) (Ab (Aa Ac rfl (qb rfl (qb rfl (qa rfl (Ad (Ab ?_)))))))
 refine AQ h (fun v1 => mk [(1, oD (.ptr 90000 0)), (3, oD (.ptr 3 0)), (5, oD (.ptr 5 0)), (30, bD v1)] [(3, .box [sC (p0.fVersions.map Ai), sC (p0.fNow.map Ai), sC (p0.fTarget.map Ai), sC (p0.fTables.map Ao)]), (5, .box [iC p2.fKind, iC p2.fIndex, iC p2.fVersion]), (90000, .box [.own 90001, .own 90002, .own 90003]), (90001, .vec 1 (p1.fBase.map Ai)), (90002, .vec 1 (p1.fNext.map Ai)), (90003, .vec 1 (p1.fHeld.map A9))]) (fun j1 h => ?_) (fun v1 h => ?_)
 ·refine Aa Ac rfl (qm rfl (MH rfl (qf BG rfl (ql Bg rfl (qf Eb rfl (ql Cc rfl ?_))))))
  obtain ⟨v2, a2, b2, h⟩ := Ak h
  refine qI AH Df a2 (Ah b2) rfl (qj Cc (Ah b2) rfl (CW rfl (qm rfl ?_)))
  refine AC (t := 18) rfl (fun c3 => ?_) (fun c3 => ?_)
  ·have h := An c3 h
   refine qn rfl (qn rfl (qn rfl (qn rfl (qn rfl (qn rfl (qn rfl (qn rfl (qn rfl (qn rfl (qn rfl (qp rfl (AM (by kernel_rfl) ?_))))))))))))
   exact Av _ h (sm [] _ _ rfl rfl)
  ·have h := Am c3 h
   refine qm rfl (MH rfl (qf Cz rfl (ql Bg rfl (qf Eb rfl (ql Cc rfl ?_)))))
   obtain ⟨v4, a4, b4, h⟩ := Ak h
   refine qI AH Df a4 (Ah b4) rfl (qj Cc (Ah b4) rfl (qf FH rfl (ql Cc rfl (BD rfl (qp rfl (AM (by kernel_rfl) ?_))))))
   exact Av _ h (sm [] _ _ rfl rfl)
 ·refine Ap rfl (fun c5 => ?_) (fun c5 => ?_)
  ·have h := An c5 h
   refine Ab (Aa Ac rfl (qa rfl (Ad ?_)))
   obtain rfl := sj h
   refine Al (sm [] [(6, bD false)] [(90000, .box [.own 90001, .own 90002, .own 90003]), (90001, .vec 1 (p1.fBase.map Ai)), (90002, .vec 1 (p1.fNext.map Ai)), (90003, .vec 1 (p1.fHeld.map A9))] rfl rfl) (Az ?_)
   exact ⟨⟨[_], ⟨.tmp _ _ rfl, tv⟩, rfl⟩, ⟨rfl, rfl, rfl, rfl, tv⟩, tv⟩
  ·have h := Am c5 h
   refine Aq (Ab (Aa Ac rfl (qm rfl (MH rfl (qf BG rfl (ql Bg rfl (qf Eb rfl (ql Cc rfl (qf FH rfl (ql Cc rfl ?_))))))))))
   obtain ⟨v6, a6, b6, h⟩ := Ak h
   refine qI AH Df a6 (Ah b6) rfl ?_
   refine A8 rfl rfl rfl rfl (Ah b6) rfl Df rfl (A5 rfl) (A6 Ai p1.fNext _ p2.fVersion) ?_
   refine AM (by kernel_rfl) (Ab (Ab (Aa Ac rfl (qf CA rfl (ql Gu rfl (AV DN rfl (qm rfl (Ad ?_))))))))
   refine AJ (L := C7 N p0 p2) h (fun v7 => mk [(1, oD (.ptr 90000 0)), (5, oD (.ptr 5 0)), (41, pD (.sl (p0.fTables.map Ao))), (42, iD ((p0.fTables.length : Int))), (43, iD v7.2)] [(5, .box [iC p2.fKind, iC p2.fIndex, iC p2.fVersion]), (90000, .box [.own 90001, .own 90002, .own 90003]), (90001, .vec 1 (p1.fBase.map Ai)), (90002, .vec 1 ((p1.fNext.set ((p2.fIndex).toNat) p2.fVersion).map Ai)), (90003, .vec 1 (v7.1.map A9))]) (fun v8 => mk [] [(90000, .box [.own 90001, .own 90002, .own 90003]), (90001, .vec 1 (p1.fBase.map Ai)), (90002, .vec 1 ((p1.fNext.set ((p2.fIndex).toNat) p2.fVersion).map Ai)), (90003, .vec 1 (v8.map A9))]) (fun _ _ => rfl) (sm [] _ _ rfl rfl) (fun j7 n7 v7 h => ?_) (fun v8 s h hs => ?_)
   ·unfold C7 at h
    refine Ab (Aa Ac rfl (AZ rfl (Ad (Ab ?_))))
    refine Ap rfl (fun c9 => ?_) (fun c9 => ?_)
    ·have h := An c9 h
     refine Aq ?_
     refine AQ h (fun v10 => mk [(1, oD (.ptr 90000 0)), (5, oD (.ptr 5 0)), (41, pD (.sl (p0.fTables.map Ao))), (42, iD ((p0.fTables.length : Int))), (43, iD v7.2)] [(5, .box [iC p2.fKind, iC p2.fIndex, iC p2.fVersion]), (90000, .box [.own 90001, .own 90002, .own 90003]), (90001, .vec 1 (p1.fBase.map Ai)), (90002, .vec 1 ((p1.fNext.set ((p2.fIndex).toNat) p2.fVersion).map Ai)), (90003, .vec 1 (v10.map A9))]) (fun j10 h => ?_) (fun v10 h => ?_)
     ·refine AP (Ab (Aa Ac rfl (qm rfl ?_)))
      obtain ⟨v11, a11, b11, h⟩ := Ak h
      refine qi DN DO a11 (Ah b11) rfl (qK GI DO rfl (qz JU rfl (qa rfl (qs DO rfl (Ad ?_)))))
      refine AQ h (fun v12 => mk [(1, oD (.ptr 90000 0)), (5, oD (.ptr 5 0)), (7, iD v7.2), (41, pD (.sl (p0.fTables.map Ao))), (42, iD ((p0.fTables.length : Int))), (43, iD v7.2), (56, bD v12)] [(5, .box [iC p2.fKind, iC p2.fIndex, iC p2.fVersion]), (90000, .box [.own 90001, .own 90002, .own 90003]), (90001, .vec 1 (p1.fBase.map Ai)), (90002, .vec 1 ((p1.fNext.set ((p2.fIndex).toNat) p2.fVersion).map Ai)), (90003, .vec 1 (v7.1.map A9))]) (fun j12 h => ?_) (fun v12 h => ?_)
      ·refine Aa Ac rfl (qf C2 rfl (ql Cc rfl (qf Eb rfl (ql Cc rfl (BD rfl (qm rfl ?_))))))
       refine AC (t := 53) rfl (fun c13 => ?_) (fun c13 => ?_)
       ·have h := An c13 h
        refine qL GI DO rfl ?_
        obtain ⟨v14, a14, h⟩ := bind_some h
        refine AG [] (JD N v11 v14 a14) Uh rfl (qp rfl (Ad ?_))
        exact Av _ h (sm [] _ _ rfl rfl)
       ·have h := Am c13 h
        refine qn rfl (qn rfl (qp rfl (Ad ?_)))
        exact Av _ h (sm [] _ _ rfl rfl)
      ·refine Ap rfl (fun c15 => ?_) (fun c15 => ?_)
       ·have h := An c15 h
        refine Aa Ac rfl (qm rfl (MH rfl (qf Cs rfl (ql Ga rfl (qm rfl ?_)))))
        obtain ⟨v16, a16, b16, h⟩ := Ak h
        refine qI C3 Fa a16 (Ah b16) rfl (qj IK (Ah b16) rfl (qf FH rfl (ql Cc rfl ?_)))
        obtain ⟨c17, h⟩ := AL h
        refine G6 rfl c17 (Ss rfl ?_)
        obtain ⟨v18, a18, b18, h⟩ := Ak h
        refine qI C3 Fa a18 (Ah b18) rfl ?_
        refine A8 rfl rfl rfl rfl (Ah b18) rfl Fa rfl (A5 rfl) (A6 A9 v7.1 _ ((Ls .u8 v16 ((B3 .u8 1 p2.fVersion))))) ?_
        refine AM (by kernel_rfl) ?_
        exact Av _ h (sm [] _ _ rfl rfl)
       ·have h := Am c15 h
        refine Aq ?_
        exact Av _ h (sm [] _ _ rfl rfl)
     ·refine Aa Ac rfl (AX rfl (qm rfl (Ad ?_)))
      exact Av _ h (sm [] _ _ rfl rfl)
    ·have h := Am c9 h
     refine AY ?_
     exact Av _ h (sm [] _ _ rfl rfl)
   ·refine Al hs (Ab (Aa Ac rfl (qa rfl (Ad ?_))))
    obtain rfl := sj h
    refine Al (sm [] [(6, bD true)] [(90000, .box [.own 90001, .own 90002, .own 90003]), (90001, .vec 1 (p1.fBase.map Ai)), (90002, .vec 1 ((p1.fNext.set ((p2.fIndex).toNat) p2.fVersion).map Ai)), (90003, .vec 1 (v8.map A9))] rfl rfl) (Az ?_)
    exact ⟨⟨[_], ⟨.tmp _ _ rfl, tv⟩, rfl⟩, ⟨rfl, rfl, rfl, rfl, tv⟩, tv⟩
theorem MD (N : Nat) (p0 : Ae) (p1 : Int) (r : Int) (h : EM N p0 p1 = some r) : AB Tryz.prog 121 [.e (.agg [sC (p0.fBase.map Ai), sC (p0.fNext.map Ai), sC (p0.fHeld.map A9)]), iD p1] [] (pD (.val (.int .u8 r))) := by
 unfold EM at h
 refine Au (n := 27) (rs := [.tmp 4]) Tryz.func121 rfl rfl rfl (A5 rfl) (A5 rfl) rfl fun w0 S0 => ?_
 refine Ab (Aa Ac rfl (qb rfl (qa rfl (Ad (Ab (Aa Ac rfl (qf Cz rfl (ql Bg rfl (qm rfl ?_)))))))))
 obtain ⟨v1, a1, b1, h⟩ := Ak h
 refine qi AH Df a1 (Ah b1) rfl (qk Cc rfl ?_)
 obtain ⟨c2, h⟩ := AL h
 refine G6 rfl c2 (qa rfl (Ad ?_))
 refine AQ h (fun v3 => mk [(5, pD (.val (.int .u8 v3)))] []) (fun j3 h => ?_) (fun v3 h => ?_)
 ·refine Ab (Aa Ac rfl (qf BG rfl (ql Bg rfl (qm rfl ?_))))
  obtain ⟨v4, a4, b4, h⟩ := Ak h
  refine qi AH Df a4 (Ah b4) rfl (qk Cc rfl (CW rfl (Ad ?_)))
  refine Ap rfl (fun c5 => ?_) (fun c5 => ?_)
  ·have h := An c5 h
   refine Aa Ac rfl (qm rfl (qf BG rfl (ql Bg rfl (qm rfl ?_))))
   obtain ⟨v6, a6, b6, h⟩ := Ak h
   refine qi AH Df a6 (Ah b6) rfl (qk Cc rfl ?_)
   obtain ⟨c7, h⟩ := AL h
   refine G6 rfl c7 (Ss rfl (qa rfl (Ad ?_)))
   exact Av _ h (sm [] _ _ rfl rfl)
  ·have h := Am c5 h
   refine Aq ?_
   exact Av _ h (sm [] _ _ rfl rfl)
 ·refine Ab (Aa Ac rfl (qm rfl (qa rfl (Ad ?_))))
  obtain rfl := sj h
  refine Al (sm [] [(4, pD (.val (.int .u8 v3)))] [] rfl rfl) (Az ?_)
  exact ⟨⟨[_], ⟨.tmp _ _ rfl, tv⟩, rfl⟩, tv⟩
theorem Hl (N : Nat) (p0 : Int) (r : Int) (h : Cu N p0 = some r) : AB Tryz.prog 125 [pD (.val (.int .u8 p0))] [] (iD r) := by
 unfold Cu at h
 refine Au (n := 6) (rs := [.tmp 2]) Tryz.func125 rfl rfl rfl (A5 rfl) (A5 rfl) rfl fun w0 S0 => ?_
 refine Ab (Aa Ac rfl (qa rfl (Ad (Ab (Aa Ac rfl (qm rfl ?_))))))
 obtain ⟨v1, a1, h⟩ := bind_some h
 refine KI (.p rfl) rfl rfl TK a1 ?_
 refine FO SP QU rfl (qa rfl (Ad ?_))
 obtain rfl := sj h
 refine Al (sm [] [(2, iD ((wI .i64 v1)))] [] rfl rfl) (Az ?_)
 exact ⟨⟨[_], ⟨.tmp _ _ rfl, tv⟩, rfl⟩, tv⟩
theorem J8 (N : Nat) (p0 : AO) (p1 : Int) (p2 : Int) (r : Bool) (h : EG N p0 p1 p2 = some r) : AB Tryz.prog 122 [.e (.agg [iC p0.fKind, iC p0.fFrom, iC p0.fTo, .pure (.val (.bool p0.fAware)), sC (p0.fOK.map (EP eB)), sC (p0.fRewrite.map (EP eB))]), pD (.val (.int .u8 p1)), iD p2] [] (bD r) := by
 unfold EG at h
 refine Au (n := 25) (rs := [.tmp 6]) Tryz.func122 rfl rfl rfl (A5 rfl) (A5 rfl) rfl fun w0 S0 => ?_
 refine Ab (Aa Ac rfl (qb rfl (qa rfl (Ad (Ab (Ab (Aa Ac rfl (qm rfl (qa rfl (Ad ?_))))))))))
 refine AJ (L := CX N p0 p2) h (fun v1 => mk [(2, iD p2), (3, oD (.ptr 3 0)), (7, pD (.val (.int .u8 v1)))] [(3, .box [iC p0.fKind, iC p0.fFrom, iC p0.fTo, .pure (.val (.bool p0.fAware)), sC (p0.fOK.map (EP eB)), sC (p0.fRewrite.map (EP eB))])]) (fun v2 => mk [] []) (fun _ _ => rfl) (sm [] _ _ rfl rfl) (fun j1 n1 v1 h => ?_) (fun v2 s h hs => ?_)
 ·unfold CX at h
  refine Ab (Ab (Aa Ac rfl (qm rfl (B6 rfl (Ad ?_)))))
  refine Ap rfl (fun c3 => ?_) (fun c3 => ?_)
  ·have h := An c3 h
   refine Aq (Ab (AP (Ab (Aa Ac rfl (qf FK rfl (ql JI rfl (qm rfl ?_)))))))
   obtain ⟨v4, a4, h⟩ := bind_some h
   refine AG [] (Hl N v1 v4 a4) Vz rfl ?_
   obtain ⟨v5, a5, b5, h⟩ := Ak h
   refine qi FU Jz a5 (Ah b5) rfl (qk Mt rfl (qm rfl ?_))
   obtain ⟨v6, a6, b6, h⟩ := Ak h
   refine qi EI PX a6 (Ah b6) rfl (qk SN rfl (Cq rfl (AM (by kernel_rfl) ?_)))
   refine Ap rfl (fun c7 => ?_) (fun c7 => ?_)
   ·have h := An c7 h
    refine Ab (Aa Ac rfl (qa rfl (Ad ?_)))
    obtain rfl := sj h
    refine Al (sm [] [(6, bD false)] [] rfl rfl) (Az ?_)
    exact ⟨⟨[_], ⟨.tmp _ _ rfl, tv⟩, rfl⟩, tv⟩
   ·have h := Am c7 h
    refine Aq (Aa Ac rfl (qm rfl (qm rfl (Cp rfl (Jx rfl (qa rfl (Ad ?_)))))))
    exact Av _ h (sm [] _ _ rfl rfl)
  ·have h := Am c3 h
   refine AY ?_
   exact Av _ h (sm [] _ _ rfl rfl)
 ·refine Al hs (Ab (Aa Ac rfl (qa rfl (Ad ?_))))
  obtain rfl := sj h
  refine Al (sm [] [(6, bD true)] [] rfl rfl) (Az ?_)
  exact ⟨⟨[_], ⟨.tmp _ _ rfl, tv⟩, rfl⟩, tv⟩
theorem Ol (N : Nat) (p0 : Ag) (p1 : Ae) (p2 : Int) (r : Bool × (List Int)) (h : Fv N p0 p1 p2 = some r) : By Tryz.prog 114 [.e (.agg [sC (p0.fVersions.map Ai), sC (p0.fNow.map Ai), sC (p0.fTarget.map Ai), sC (p0.fTables.map Ao)]), oD (.ptr 90000 0), iD p2] [(.box [.own 90001, .own 90002, .own 90003], .box [.own 90001, .own 90002, .own 90003]), (.vec 1 (p1.fBase.map Ai), .vec 1 (p1.fBase.map Ai)), (.vec 1 (p1.fNext.map Ai), .vec 1 (p1.fNext.map Ai)), (.vec 1 (p1.fHeld.map A9), .vec 1 (r.2.map A9))] [] (bD r.1) := by
 unfold Fv at h
 refine Br (n := 68) (rs := [.tmp 6]) Tryz.func114 rfl rfl rfl (A5 rfl) (A5 rfl) rfl rfl (A5 rfl) rfl (A5 rfl) fun w0 S0 GL => ?_
 refine Al (sm [] [(0, .e (.agg [sC (p0.fVersions.map Ai), sC (p0.fNow.map Ai), sC (p0.fTarget.map Ai), sC (p0.fTables.map Ao)])), (1, oD (.ptr 90000 0)), (2, iD p2)] [(90000, .box [.own 90001, .own 90002, .own 90003]), (90001, .vec 1 (p1.fBase.map Ai)), (90002, .vec 1 (p1.fNext.map Ai)), (90003, .vec 1 (p1.fHeld.map A9))] rfl rfl) (Ab (Aa Ac rfl (qb rfl (qa rfl (Ad (Ab (Aa Ac rfl (qf CA rfl (ql Gu rfl (qm rfl ?_))))))))))
 obtain ⟨v1, a1, b1, h⟩ := Ak h
 refine qi DN DO a1 (Ah b1) rfl (qK GI DO rfl (qz JU rfl (qs DO rfl (Ad (Ab (Ab (Aa Ac rfl (qL GI DO rfl ?_))))))))
 obtain ⟨v2, a2, h⟩ := bind_some h
 refine AG [] (JD N v1 v2 a2) Uh rfl (Cq rfl (Ad ?_))
 refine Ap rfl (fun c3 => ?_) (fun c3 => ?_)
 ·have h := An c3 h
  refine Ab (Aa Ac rfl (qa rfl (Ad ?_)))
  obtain rfl := sj h
  refine Al (sm [] [(6, bD false)] [(90000, .box [.own 90001, .own 90002, .own 90003]), (90001, .vec 1 (p1.fBase.map Ai)), (90002, .vec 1 (p1.fNext.map Ai)), (90003, .vec 1 (p1.fHeld.map A9))] rfl rfl) (Az ?_)
  exact ⟨⟨[_], ⟨.tmp _ _ rfl, tv⟩, rfl⟩, ⟨rfl, rfl, rfl, rfl, tv⟩, tv⟩
 ·have h := Am c3 h
  refine Aq (Ab (Aa Ac rfl (qm rfl (MH rfl (qL A0 Ax rfl (qf C2 rfl (ql Cc rfl ?_)))))))
  obtain ⟨v4, a4, h⟩ := bind_some h
  refine FG [] [90001, 90002, 90003] (MD N p1 v1.fFrom v4 a4) VV Ef rfl (qa rfl (AM (by kernel_rfl) (Ab (Aa Ac rfl (qm rfl (MH rfl (qf Cs rfl (ql Ga rfl (qm rfl ?_)))))))))
  obtain ⟨v5, a5, b5, h⟩ := Ak h
  refine qI C3 Fa a5 (Ah b5) rfl (qj IK (Ah b5) rfl (qm rfl (Hw rfl (qa rfl (Ad (Ab ?_))))))
  refine AQ h (fun v6 => mk [(1, oD (.ptr 90000 0)), (2, iD p2), (8, pD (.val (.int .u8 v4))), (60, bD v6)] [(90000, .box [.own 90001, .own 90002, .own 90003]), (90001, .vec 1 (p1.fBase.map Ai)), (90002, .vec 1 (p1.fNext.map Ai)), (90003, .vec 1 (p1.fHeld.map A9))]) (fun j6 h => ?_) (fun v6 h => ?_)
  ·refine Aa Ac rfl (qm rfl (MH rfl (qf Cs rfl (ql Ga rfl (qm rfl ?_)))))
   obtain ⟨v7, a7, b7, h⟩ := Ak h
   refine qI C3 Fa a7 (Ah b7) rfl (qj IK (Ah b7) rfl (qm rfl (BD rfl (qm rfl ?_))))
   refine AC (t := 42) rfl (fun c8 => ?_) (fun c8 => ?_)
   ·have h := An c8 h
    refine qn rfl (qn rfl (qn rfl (qn rfl (qu rfl (qu rfl (qu rfl (qu rfl (qu rfl (qu rfl (qu rfl (qu rfl (qu rfl (qu rfl (qu rfl (qu rfl (qn rfl (qp rfl (AM (by kernel_rfl) ?_))))))))))))))))))
    exact Av _ h (sm [] _ _ rfl rfl)
   ·have h := Am c8 h
    refine qf E3 rfl (ql Cc rfl (BD rfl (qm rfl ?_)))
    refine AC (t := 46) rfl (fun c9 => ?_) (fun c9 => ?_)
    ·have h := An c9 h
     refine qL GI DO rfl (qm rfl (qm rfl (MH rfl (qf Cz rfl (ql Bg rfl (qf C2 rfl (ql Cc rfl ?_)))))))
     obtain ⟨v10, a10, b10, h⟩ := Ak h
     refine qI AH Df a10 (Ah b10) rfl (qj Cc (Ah b10) rfl ?_)
     obtain ⟨v11, a11, h⟩ := bind_some h
     refine AG [] (J8 N v1 ((CJ .u8 v5 v4)) v10 v11 a11) VG rfl (Cq rfl (qp rfl (qp rfl (AM (by kernel_rfl) ?_))))
     exact Av _ h (sm [] _ _ rfl rfl)
    ·have h := Am c9 h
     refine qn rfl (qn rfl (qn rfl (qn rfl (qn rfl (qn rfl (qn rfl (qn rfl (qn rfl (qn rfl (qn rfl (qn rfl (qp rfl (qp rfl (AM (by kernel_rfl) ?_))))))))))))))
     exact Av _ h (sm [] _ _ rfl rfl)
  ·refine Ap rfl (fun c12 => ?_) (fun c12 => ?_)
   ·have h := An c12 h
    refine Ab (Aa Ac rfl (qa rfl (Ad ?_)))
    obtain rfl := sj h
    refine Al (sm [] [(6, bD false)] [(90000, .box [.own 90001, .own 90002, .own 90003]), (90001, .vec 1 (p1.fBase.map Ai)), (90002, .vec 1 (p1.fNext.map Ai)), (90003, .vec 1 (p1.fHeld.map A9))] rfl rfl) (Az ?_)
    exact ⟨⟨[_], ⟨.tmp _ _ rfl, tv⟩, rfl⟩, ⟨rfl, rfl, rfl, rfl, tv⟩, tv⟩
   ·have h := Am c12 h
    refine Aq (Ab (Aa Ac rfl (qm rfl (MH rfl (qf Cs rfl (ql Ga rfl (qm rfl (qm rfl ?_))))))))
    obtain ⟨v13, a13, b13, h⟩ := Ak h
    refine qI C3 Fa a13 (Ah b13) rfl ?_
    refine A8 rfl rfl rfl rfl (Ah b13) rfl Fa rfl (A5 rfl) (A6 A9 p1.fHeld _ v4) ?_
    refine Ad (Ab (Aa Ac rfl (qa rfl (Ad ?_))))
    obtain rfl := sj h
    refine Al (sm [] [(6, bD true)] [(90000, .box [.own 90001, .own 90002, .own 90003]), (90001, .vec 1 (p1.fBase.map Ai)), (90002, .vec 1 (p1.fNext.map Ai)), (90003, .vec 1 ((p1.fHeld.set ((p2).toNat) v4).map A9))] rfl rfl) (Az ?_)
    exact ⟨⟨[_], ⟨.tmp _ _ rfl, tv⟩, rfl⟩, ⟨rfl, rfl, rfl, rfl, tv⟩, tv⟩
theorem Kx (N : Nat) (p0 : Ag) (p1 : Ae) (p2 : Aj) (r : Ae × Bool) (h : ES N p0 p1 p2 = some r) : AB Tryz.prog 98 [.e (.agg [sC (p0.fVersions.map Ai), sC (p0.fNow.map Ai), sC (p0.fTarget.map Ai), sC (p0.fTables.map Ao)]), .e (.agg [sC (p1.fBase.map Ai), sC (p1.fNext.map Ai), sC (p1.fHeld.map A9)]), .e (.agg [iC p2.fKind, iC p2.fIndex, iC p2.fVersion])] [(1, r.1.fBase.map Ai), (1, r.1.fNext.map Ai), (1, r.1.fHeld.map A9)] (.tup [.agg [.own 0, .own 1, .own 2], .one (.pure (.val (.bool r.2)))]) := by
 unfold ES at h
 refine Au (n := 51) (rs := [.cell 6 50, .tmp 7]) Tryz.func98 rfl rfl rfl (A5 rfl) (A5 rfl) rfl fun w0 S0 => ?_
 refine Ab (Aa Ac rfl (qb rfl (qb rfl (qb rfl (qz Cv rfl (qa rfl (Ad (Ab (Aa Ac rfl (qL A0 Ax rfl ?_))))))))))
 obtain ⟨v1, a1, h⟩ := bind_some h
 refine AG [2001, 2002, 2003] (JE N p1 v1 a1) Ww rfl (qz Cv rfl (qs Ax rfl (Ad (Ab (Ab (Aa Ac rfl (qf EK rfl (ql Cc rfl (Ad (AP (Ab (Aa Ac rfl (BD rfl (qa rfl (Ad ?_)))))))))))))))
 refine Ap rfl (fun c2 => ?_) (fun c2 => ?_)
 ·have h := An c2 h
  refine Ab (Aa Ac rfl (qL A0 Ax rfl (qL DP Dr rfl (qL GS CT rfl ?_))))
  obtain ⟨v3, a3, h⟩ := bind_some h
  refine CP (ds0 := [_, _, _]) [8, 2001, 2002, 2003] [] [false, false, true, true] (Oc N p0 v1 p2 v3 a3) (.p rfl) Vn rfl ⟨rfl, rfl, rfl, tv⟩ rfl rfl (by decide) ⟨rfl, rfl, rfl, rfl, tv⟩ rfl (Bf rfl) tv ⟨(fun _ => rfl), (fun _ => rfl), (fun h => by cases h), (fun h => by cases h), tv⟩ rfl rfl rfl ?_
  refine qs Ax rfl (qa rfl (AM (by kernel_rfl) ?_))
  obtain rfl := sj h
  refine Al (sm [(1000, 2001), (1001, 2002), (1002, 2003)] [(6, oD (.ptr 6 0)), (7, bD v3.1)] [(6, .box [.own 1000, .own 1001, .own 1002]), (1000, .vec 1 (v1.fBase.map Ai)), (1001, .vec 1 (v3.2.1.map Ai)), (1002, .vec 1 (v3.2.2.map A9))] rfl rfl) (Az ?_)
  exact ⟨⟨[_, _], ⟨.cellN _ _ _ _ _ _ _ rfl rfl A0 Ax rfl rfl (HR rfl), ⟨.tmp _ _ rfl, tv⟩⟩, rfl⟩, ⟨rfl, rfl, rfl, tv⟩⟩
 ·have h := Am c2 h
  refine Ab (Aa Ac rfl (BD rfl (qa rfl (Ad ?_))))
  refine Ap rfl (fun c4 => ?_) (fun c4 => ?_)
  ·have h := An c4 h
   refine Ab (Aa Ac rfl (qL A0 Ax rfl (qL DP Dr rfl (qf Eb rfl (ql Cc rfl ?_)))))
   obtain ⟨v5, a5, h⟩ := bind_some h
   refine CP (ds0 := [_, _, _]) [8, 2001, 2002, 2003] [] [false, false, false, true] (Ol N p0 v1 p2.fIndex v5 a5) (.p rfl) Vj rfl ⟨rfl, rfl, rfl, tv⟩ rfl rfl (by decide) ⟨rfl, rfl, rfl, rfl, tv⟩ rfl (Bf rfl) tv ⟨(fun _ => rfl), (fun _ => rfl), (fun _ => rfl), (fun h => by cases h), tv⟩ rfl rfl rfl ?_
   refine qs Ax rfl (qa rfl (AM (by kernel_rfl) ?_))
   obtain rfl := sj h
   refine Al (sm [(1000, 2001), (1001, 2002), (1002, 2003)] [(6, oD (.ptr 6 0)), (7, bD v5.1)] [(6, .box [.own 1000, .own 1001, .own 1002]), (1000, .vec 1 (v1.fBase.map Ai)), (1001, .vec 1 (v1.fNext.map Ai)), (1002, .vec 1 (v5.2.map A9))] rfl rfl) (Az ?_)
   exact ⟨⟨[_, _], ⟨.cellN _ _ _ _ _ _ _ rfl rfl A0 Ax rfl rfl (HR rfl), ⟨.tmp _ _ rfl, tv⟩⟩, rfl⟩, ⟨rfl, rfl, rfl, tv⟩⟩
  ·have h := Am c4 h
   refine Aq (Ab (Aa Ac rfl (qf BG rfl (ql Bg rfl (qf Eb rfl (ql Cc rfl ?_))))))
   obtain ⟨v6, a6, b6, h⟩ := Ak h
   refine qI AH Df a6 (Ah b6) rfl (qj Cc (Ah b6) rfl (qa rfl (Ad (Ab (Ab (Aa Ac rfl (qm rfl (AZ rfl (Ad ?_)))))))))
   refine Ap rfl (fun c7 => ?_) (fun c7 => ?_)
   ·have h := An c7 h
    refine Ab (Aa Ac rfl (qL A0 Ax rfl (qs Ax rfl (qa rfl (Ad ?_)))))
    obtain rfl := sj h
    refine Al (sm [(1000, 2001), (1001, 2002), (1002, 2003)] [(6, oD (.ptr 6 0)), (7, bD false)] [(6, .box [.own 1000, .own 1001, .own 1002]), (1000, .vec 1 (v1.fBase.map Ai)), (1001, .vec 1 (v1.fNext.map Ai)), (1002, .vec 1 (v1.fHeld.map A9))] rfl rfl) (Az ?_)
    exact ⟨⟨[_, _], ⟨.cellN _ _ _ _ _ _ _ rfl rfl A0 Ax rfl rfl (HR rfl), ⟨.tmp _ _ rfl, tv⟩⟩, rfl⟩, ⟨rfl, rfl, rfl, tv⟩⟩
   ·have h := Am c7 h
    refine Aq (Ab (Aa Ac rfl (qf BG rfl (ql Bg rfl (qf Eb rfl (ql Cc rfl ?_))))))
    obtain ⟨v8, a8, b8, h⟩ := Ak h
    refine qI AH Df a8 (Ah b8) rfl ?_
    refine A8 rfl rfl rfl rfl (Ah b8) rfl Df rfl (A5 rfl) (A6 Ai v1.fNext _ ((-1))) ?_
    refine Ad ?_
    refine AQ h (fun v9 => mk [(6, oD (.ptr 6 0)), (8, oD (.ptr 8 0))] [(6, .box [.pure (.nil0), .pure (.nil0), .pure (.nil0)]), (8, .box [.own 2004, .own 2005, .own 2006]), (2004, .vec 1 (v9.map Ai)), (2005, .vec 1 ((v1.fNext.set ((p2.fIndex).toNat) ((-1))).map Ai)), (2006, .vec 1 (v1.fHeld.map A9))]) (fun j9 h => ?_) (fun v9 h => ?_)
    ·refine Ab (Aa Ac rfl (qf EK rfl (ql Cc rfl (BD rfl (Ad ?_)))))
     refine Ap rfl (fun c10 => ?_) (fun c10 => ?_)
     ·have h := An c10 h
      refine Aa Ac rfl (qf Cz rfl (ql Bg rfl (qf Eb rfl (ql Cc rfl (qm rfl ?_)))))
      obtain ⟨v11, a11, b11, h⟩ := Ak h
      refine qI AH Df a11 (Ah b11) rfl ?_
      refine A8 rfl rfl rfl rfl (Ah b11) rfl Df rfl (A5 rfl) (A6 Ai v1.fBase _ v6) ?_
      refine Ad ?_
      exact Av _ h (sm [(2004, 2001), (2005, 2002), (2006, 2003)] _ _ rfl rfl)
     ·have h := Am c10 h
      refine Aq ?_
      exact Av _ h (sm [(2004, 2001), (2005, 2002), (2006, 2003)] _ _ rfl rfl)
    ·refine Ab (Aa Ac rfl (qL A0 Ax rfl (qs Ax rfl (qa rfl (Ad ?_)))))
     obtain rfl := sj h
     refine Al (sm [(1000, 2004), (1001, 2005), (1002, 2006)] [(6, oD (.ptr 6 0)), (7, bD true)] [(6, .box [.own 1000, .own 1001, .own 1002]), (1000, .vec 1 (v9.map Ai)), (1001, .vec 1 ((v1.fNext.set ((p2.fIndex).toNat) ((-1))).map Ai)), (1002, .vec 1 (v1.fHeld.map A9))] rfl rfl) (Az ?_)
     exact ⟨⟨[_, _], ⟨.cellN _ _ _ _ _ _ _ rfl rfl A0 Ax rfl rfl (HR rfl), ⟨.tmp _ _ rfl, tv⟩⟩, rfl⟩, ⟨rfl, rfl, rfl, tv⟩⟩
theorem KC (N : Nat) (p0 : Aj) (p1 : List Int) (p2 : List Int) (p3 : List Int) (p4 : List AO) (p5 : List Int) (p6 : List Int) (p7 : List Int) (r : Bool) (h : Eh N p0 p1 p2 p3 p4 p5 p6 p7 = some r) : AB Tryz.prog 97 [.e (.agg [iC p0.fKind, iC p0.fIndex, iC p0.fVersion]), oD (.rop [.sl (p1.map Ai), .sl (p2.map Ai), .sl (p3.map Ai), .sl (p4.map Ao)]), oD (.rop [.sl (p5.map Ai), .sl (p6.map Ai), .sl (p7.map A9)])] [] (bD r) := by
 unfold Eh at h
 refine Au (n := 16) (rs := [.tmp 4]) Tryz.func97 rfl rfl rfl (A5 rfl) (A5 rfl) rfl fun w0 S0 => ?_
 refine Ab (Aa Ac rfl (qb rfl (qa rfl (Ad (Ab (Aa Ac rfl (qK DP Dr rfl (qK A0 Ax rfl (qL GS CT rfl ?_)))))))))
 obtain ⟨v1, a1, h⟩ := bind_some h
 refine AG [2001, 2002, 2003] (Kx N ((Ag.mk p1 p2 p3 p4)) ((Ae.mk p5 p6 p7)) p0 v1 a1) Wp rfl (qm rfl (qx rfl (qx rfl (qz Cv rfl (qs Ax rfl (qa rfl (Ad (Ab (Aa Ac rfl (qm rfl (Cq rfl (qa rfl (Ad ?_)))))))))))))
 obtain rfl := sj h
 refine Al (sm [] [(4, bD ((!v1.2)))] [] rfl rfl) (Az ?_)
 exact ⟨⟨[_], ⟨.tmp _ _ rfl, tv⟩, rfl⟩, tv⟩
theorem Fq (N : Nat) (p0 : List Aj) (p1 : Aj → Option Bool) (r : Int) (h : CN N p0 p1 = some r) : AB Tryz.prog 112 [pD (.sl (p0.map Ay)), oD (.clo (BM (OQ true Ay) tB p1))] [] (iD r) := by
 unfold CN at h
 refine Au (n := 19) (rs := [.tmp 4]) Tryz.func112 rfl rfl rfl (A5 rfl) (A5 rfl) rfl fun w0 S0 => ?_
 refine Ab (Aa Ac rfl (qa rfl (Ad (Ab (Ab (Aa Ac rfl (qm rfl (AV BX rfl (qm rfl (Ad ?_))))))))))
 refine AJ (L := BR N p0 p1) h (fun v1 => mk [(0, pD (.sl (p0.map Ay))), (1, oD (.clo (BM (OQ true Ay) tB p1))), (7, iD ((p0.length : Int))), (8, iD v1)] []) (fun v2 => mk [] []) (fun _ _ => rfl) (sm [] _ _ rfl rfl) (fun j1 n1 v1 h => ?_) (fun v2 s h hs => ?_)
 ·unfold BR at h
  refine Ab (Aa Ac rfl (AZ rfl (Ad (Ab ?_))))
  refine Ap rfl (fun c3 => ?_) (fun c3 => ?_)
  ·have h := An c3 h
   refine Aq (Ab (AP (Ab (Aa Ac rfl (qm rfl (qa rfl (Ad (Ab (Aa Ac rfl (qm rfl (qm rfl (qm rfl ?_))))))))))))
   obtain ⟨v4, a4, b4, h⟩ := Ak h
   refine qi BX CT a4 (Ah b4) rfl (qK GS CT rfl ?_)
   obtain ⟨v5, a5, h⟩ := bind_some h
   refine D0 (ds0 := [_]) (ar := (OQ true Ay) v4) (.p rfl) rfl rfl ⟨rfl, tv⟩ rfl rfl rfl (DZ (Ob _ _ L1) a5) ?_
   refine Ad ?_
   refine Ap rfl (fun c6 => ?_) (fun c6 => ?_)
   ·have h := An c6 h
    refine Ab (Aa Ac rfl (qm rfl (qa rfl (Ad ?_))))
    obtain rfl := sj h
    refine Al (sm [] [(4, iD v1)] [] rfl rfl) (Az ?_)
    exact ⟨⟨[_], ⟨.tmp _ _ rfl, tv⟩, rfl⟩, tv⟩
   ·have h := Am c6 h
    refine Aq (Aa Ac rfl (AX rfl (qm rfl (Ad ?_))))
    exact Av _ h (sm [] _ _ rfl rfl)
  ·have h := Am c3 h
   refine AY ?_
   exact Av _ h (sm [] _ _ rfl rfl)
 ·refine Al hs (Ab (Aa Ac rfl (qa rfl (Ad ?_))))
  obtain rfl := sj h
  refine Al (sm [] [(4, iD ((-1)))] [] rfl rfl) (Az ?_)
  exact ⟨⟨[_], ⟨.tmp _ _ rfl, tv⟩, rfl⟩, tv⟩
theorem Fj (N : Nat) (p0 : List Aj) (p1 : Aj → Option Bool) (r : Nat × (List Aj)) (h : CB N p0 p1 = some r) : By Tryz.prog 95 [oD (.own 90000), oD (.clo (BM (OQ true Ay) tB p1))] [(.vec 3 (p0.map Ay), .vec 3 (r.2.map Ay))] [] (oD (.view 90000 3 0 r.1)) := by
 unfold CB at h
 refine Br (n := 42) (rs := [.tmp 4]) Tryz.func95 rfl rfl rfl (A5 rfl) (A5 rfl) rfl rfl (A5 rfl) rfl (A5 rfl) fun w0 S0 GL => ?_
 refine Al (sm [] [(0, oD (.own 90000)), (1, oD (.clo (BM (OQ true Ay) tB p1)))] [(90000, .vec 3 (p0.map Ay))] rfl rfl) (Ab (Aa Ac rfl (qa rfl (Ad (Ab (Aa Ac rfl (qm rfl (qm rfl ?_))))))))
 obtain ⟨v1, a1, h⟩ := bind_some h
 refine FG [] [90000] (Fq N p0 p1 v1 a1) Vx Ef rfl (qa rfl (Ad (Ab (Ab (Aa Ac rfl (qm rfl (BD rfl (Ad ?_))))))))
 refine Ap rfl (fun c2 => ?_) (fun c2 => ?_)
 ·have h := An c2 h
  refine Ab (Aa Ac rfl (qm rfl (qa rfl (Ad ?_))))
  obtain rfl := sj h
  refine Al ((NZ Ay p0 4 90000 3 rfl rfl).trans (sm [] [(4, oD (.view 90000 3 0 p0.length))] [(90000, .vec 3 (p0.map Ay))] rfl rfl)) (Az ?_)
  exact ⟨⟨[_], ⟨.tmp _ _ rfl, tv⟩, rfl⟩, ⟨rfl, tv⟩, tv⟩
 ·have h := Am c2 h
  refine Aq (Ab (Ab (Aa Ac rfl (qm rfl (AX rfl (qa rfl (Ad ?_)))))))
  refine AJ (L := BO N p1) h (fun v3 => mk [(0, oD (.own 90000)), (1, oD (.clo (BM (OQ true Ay) tB p1))), (5, iD v3.2.1), (6, iD v3.2.2)] [(90000, .vec 3 (v3.1.map Ay))]) (fun v4 => mk [(0, oD (.own 90000)), (5, iD v4.2)] [(90000, .vec 3 (v4.1.map Ay))]) (fun _ _ => rfl) (sm [] _ _ rfl rfl) (fun j3 n3 v3 h => ?_) (fun v4 s h hs => ?_)
  ·unfold BO at h
   refine Ab (Ab (Aa Ac rfl (qm rfl (qm rfl (Dz BX rfl (AZ rfl (Ad ?_)))))))
   refine Ap rfl (fun c5 => ?_) (fun c5 => ?_)
   ·have h := An c5 h
    refine Aq ?_
    refine AQ h (fun v6 => mk [(0, oD (.own 90000)), (1, oD (.clo (BM (OQ true Ay) tB p1))), (5, iD v6.2), (6, iD v3.2.2)] [(90000, .vec 3 (v6.1.map Ay))]) (fun j6 h => ?_) (fun v6 h => ?_)
    ·refine AP (Ab (Aa Ac rfl (qm rfl (qm rfl ?_))))
     obtain ⟨v7, a7, b7, h⟩ := Ak h
     refine qI BX CT a7 (Ah b7) rfl (qJ GS CT (Ah b7) rfl (qz EQ rfl (qs CT rfl (Ad (Ab (Aa Ac rfl (qm rfl (qL GS CT rfl ?_))))))))
     obtain ⟨v8, a8, h⟩ := bind_some h
     refine D0 (ds0 := [_]) (ar := (OQ true Ay) v7) (.p rfl) rfl rfl ⟨rfl, tv⟩ rfl rfl rfl (DZ (Ob _ _ L1) a8) ?_
     refine Cq rfl (Ad ?_)
     refine Ap rfl (fun c9 => ?_) (fun c9 => ?_)
     ·have h := An c9 h
      refine Ab (Aa Ac rfl (qm rfl (qm rfl (qL GS CT rfl ?_))))
      obtain ⟨v10, a10, b10, h⟩ := Ak h
      refine qI BX CT a10 (Ah b10) rfl ?_
      refine A8 rfl rfl rfl rfl (Ah b10) rfl CT rfl (A5 rfl) (A6 Ay v3.1 _ v7) ?_
      refine Ad (Aa Ac rfl (qm rfl (AX rfl (qa rfl (Ad ?_)))))
      exact Av _ h (sm [] _ _ rfl rfl)
     ·have h := Am c9 h
      refine Aq ?_
      exact Av _ h (sm [] _ _ rfl rfl)
    ·refine Aa Ac rfl (qm rfl (AX rfl (qa rfl (Ad ?_))))
     exact Av _ h (sm [] _ _ rfl rfl)
   ·have h := Am c5 h
    refine AY ?_
    exact Av _ h (sm [] _ _ rfl rfl)
  ·refine Al hs (Ab (Aa Ac rfl (qm rfl (qm rfl ?_))))
   obtain ⟨c11, h⟩ := AL h
   have w12 : ((v4.2).toNat) + ((v4.1.length - (v4.2).toNat)) ≤ v4.1.length := by have := c11.2.1; have := c11.2.2; omega
   refine Hv Ay v4.1 (.p rfl) rfl (GM Ay _ _ v4.1) rfl BX CT (.some _ _ _ _ c11.1) (.none _) ⟨rfl, tv⟩ tv c11.2.1 (by rw [Nat.zero_add]; exact c11.2.2) (Nat.zero_add _) rfl ?_
   have w13 : (Hb v4.1 ((v4.2).toNat) (List.replicate ((v4.1.length - (v4.2).toNat)) ((Aj.mk 0 0 0)))).length = v4.1.length := Ix (by rw [List.length_replicate]; exact w12)
   refine O4 Ay v4.1 ((Aj.mk 0 0 0)) rfl rfl (KS Ay _ _ ((v4.2).toNat) ((v4.1.length - (v4.2).toNat)) v4.1 w12) rfl BX EQ rfl rfl rfl rfl ?_
   refine Ad (Ab (Aa Ac rfl (qm rfl (qm rfl ?_))))
   obtain ⟨c14, h⟩ := AL h
   have w15 : 0 + ((v4.2).toNat) ≤ (Hb v4.1 ((v4.2).toNat) (List.replicate ((v4.1.length - (v4.2).toNat)) ((Aj.mk 0 0 0)))).length := by have := c14.2.1; have := c14.2.2; omega
   refine Hv Ay (Hb v4.1 ((v4.2).toNat) (List.replicate ((v4.1.length - (v4.2).toNat)) ((Aj.mk 0 0 0)))) (.p rfl) rfl (GM Ay _ _ (Hb v4.1 ((v4.2).toNat) (List.replicate ((v4.1.length - (v4.2).toNat)) ((Aj.mk 0 0 0))))) rfl BX CT (.none _) (.some _ _ _ _ c14.1) tv ⟨rfl, tv⟩ c14.2.1 (by rw [Nat.zero_add]; exact c14.2.2) (Nat.zero_add _) rfl ?_
   refine qa rfl (Ad ?_)
   obtain rfl := sj h
   refine Al (sm [] [(4, oD (.view 90000 3 0 ((v4.2).toNat)))] [(90000, .vec 3 ((Hb v4.1 ((v4.2).toNat) (List.replicate ((v4.1.length - (v4.2).toNat)) ((Aj.mk 0 0 0)))).map Ay))] rfl rfl) (Az ?_)
   exact ⟨⟨[_], ⟨.tmp _ _ rfl, tv⟩, rfl⟩, ⟨rfl, tv⟩, tv⟩
theorem LI (N : Nat) (p0 : Ag) (p1 : Ae) (r : (List Aj) × Int) (h : GW N p0 p1 = some r) : AB Tryz.prog 70 [.e (.agg [sC (p0.fVersions.map Ai), sC (p0.fNow.map Ai), sC (p0.fTarget.map Ai), sC (p0.fTables.map Ao)]), .e (.agg [sC (p1.fBase.map Ai), sC (p1.fNext.map Ai), sC (p1.fHeld.map A9)])] [(3, r.1.map Ay)] (.tup [.one (.own 0), .one (iC r.2)]) := by
 unfold GW at h
 refine Au (n := 17) (rs := [.tmp 4, .tmp 5]) Tryz.func70 rfl rfl rfl (A5 rfl) (A5 rfl) rfl fun w0 S0 => ?_
 refine Ab (Aa Ac rfl (qb rfl (qb rfl (qa rfl (qa rfl (Ad (Ab (Ab (Aa Ac rfl (qL DP Dr rfl (qL A0 Ax rfl ?_)))))))))))
 obtain ⟨v1, a1, h⟩ := bind_some h
 refine AG [] (HE N p0 p1 v1 a1) To rfl (qa rfl (Ad (Ab (Aa Ac rfl (qm rfl (B6 rfl (Ad ?_)))))))
 refine Ap rfl (fun c2 => ?_) (fun c2 => ?_)
 ·have h := An c2 h
  refine Ab (Aa Ac rfl (qm rfl (qa rfl (qa rfl (Ad ?_)))))
  obtain rfl := sj h
  refine Al ((Bn 4 2001 3 rfl rfl rfl).trans (sm [(1000, 2001)] [(4, oD (.own 1000)), (5, iD v1)] [(1000, .vec 3 ((([] : List Aj)).map Ay))] rfl rfl)) (Az ?_)
  exact ⟨⟨[_, _], ⟨.tmp _ _ rfl, ⟨.tmp _ _ rfl, tv⟩⟩, rfl⟩, ⟨rfl, tv⟩⟩
 ·have h := Am c2 h
  refine Aq (Ab (Aa Ac rfl (qL DP Dr rfl ?_)))
  obtain ⟨v3, a3, h⟩ := bind_some h
  refine AG [2002] (Pw N p0 v3 a3) W7 rfl (CC (LF 2 [.sl (p0.fVersions.map Ai), .sl (p0.fNow.map Ai), .sl (p0.fTarget.map Ai), .sl (p0.fTables.map Ao)] rfl rfl) (CC (LF 3 [.sl (p1.fBase.map Ai), .sl (p1.fNext.map Ai), .sl (p1.fHeld.map A9)] rfl rfl) ?_))
  refine Lx (capD := [_, _]) (BM (OQ true Ay) tB ((fun (x : Aj) => Eh N x p0.fVersions p0.fNow p0.fTarget p0.fTables p1.fBase p1.fNext p1.fHeld))) (.p rfl) Xq rfl ⟨rfl, rfl, tv⟩ rfl (fun ar t ht => by obtain ⟨x, r, rfl, hq, rfl⟩ := H0 ht; exact KC N x p0.fVersions p0.fNow p0.fTarget p0.fTables p1.fBase p1.fNext p1.fHeld r hq) ?_
  obtain ⟨v4, a4, h⟩ := bind_some h
  obtain ⟨c5, h⟩ := AL h
  have w6 : 0 + v4.1 ≤ v4.2.length := by rw [Nat.zero_add]; exact c5
  refine CP (ds0 := [_, _]) [2002] [] [true] (Fj N v3 ((fun (x : Aj) => Eh N x p0.fVersions p0.fNow p0.fTarget p0.fTables p1.fBase p1.fNext p1.fHeld)) v4 a4) (.p rfl) WR rfl ⟨rfl, rfl, tv⟩ rfl rfl (by decide) ⟨rfl, tv⟩ rfl (Bf rfl) tv ⟨(fun h => by cases h), tv⟩ rfl rfl rfl ?_
  refine CC (So Ay v4.2 16 2002 2003 3 v4.1 rfl rfl rfl rfl rfl c5) (qa rfl (qa rfl (Ad ?_)))
  obtain rfl := sj h
  refine Al (sm [(1000, 2003)] [(4, oD (.own 1000)), (5, iD 0)] [(1000, .vec 3 ((v4.2.take v4.1).map Ay))] rfl rfl) (Az ?_)
  exact ⟨⟨[_, _], ⟨.tmp _ _ rfl, ⟨.tmp _ _ rfl, tv⟩⟩, rfl⟩, ⟨rfl, tv⟩⟩
theorem Oa (N : Nat) (p0 : Aj) (r : Bool) (h : Ft N p0 = some r) : AB Tryz.prog 103 [.e (.agg [iC p0.fKind, iC p0.fIndex, iC p0.fVersion])] [] (bD r) := by
 unfold Ft at h
 refine Au (n := 27) (rs := [.tmp 2]) Tryz.func103 rfl rfl rfl (A5 rfl) (A5 rfl) rfl fun w0 S0 => ?_
 refine Ab (Aa Ac rfl (qb rfl (qa rfl (Ad (Ab ?_)))))
 refine AQ h (fun v1 => mk [(1, oD (.ptr 1 0)), (18, bD v1)] [(1, .box [iC p0.fKind, iC p0.fIndex, iC p0.fVersion])]) (fun j1 h => ?_) (fun v1 h => ?_)
 ·refine Aa Ac rfl (qf Eb rfl (ql Cc rfl (qf FH rfl (ql Cc rfl ?_))))
  refine VH (.p rfl) rfl rfl ?_
  refine AZ rfl (qm rfl ?_)
  refine AC (t := 9) rfl (fun c2 => ?_) (fun c2 => ?_)
  ·have h := An c2 h
   refine qn rfl (qn rfl (qn rfl (qp rfl (qm rfl (qn rfl (qn rfl (qn rfl (qp rfl (Ad ?_)))))))))
   exact Av _ h (sm [] _ _ rfl rfl)
  ·have h := Am c2 h
   refine qf EK rfl (ql Cc rfl (AZ rfl (qp rfl (qm rfl ?_))))
   refine AC (t := 14) rfl (fun c3 => ?_) (fun c3 => ?_)
   ·have h := An c3 h
    refine qn rfl (qn rfl (qn rfl (qp rfl (Ad ?_))))
    exact Av _ h (sm [] _ _ rfl rfl)
   ·have h := Am c3 h
    refine qf EK rfl (ql Cc rfl (Ey rfl (qp rfl (Ad ?_))))
    exact Av _ h (sm [] _ _ rfl rfl)
 ·refine Ap rfl (fun c4 => ?_) (fun c4 => ?_)
  ·have h := An c4 h
   refine Ab (Aa Ac rfl (qa rfl (Ad ?_)))
   obtain rfl := sj h
   refine Al (sm [] [(2, bD false)] [] rfl rfl) (Az ?_)
   exact ⟨⟨[_], ⟨.tmp _ _ rfl, tv⟩, rfl⟩, tv⟩
  ·have h := Am c4 h
   refine Aq ?_
   refine AQ h (fun v5 => mk [(2, bD v5)] []) (fun j5 h => ?_) (fun v5 h => ?_)
   ·refine Aa Ac rfl (qf EK rfl (ql Cc rfl (BD rfl (qm rfl ?_))))
    refine AC (t := 22) rfl (fun c6 => ?_) (fun c6 => ?_)
    ·have h := An c6 h
     refine qn rfl (qn rfl (qn rfl (qp rfl (qa rfl (Ad ?_)))))
     exact Av _ h (sm [] _ _ rfl rfl)
    ·have h := Am c6 h
     refine qf FH rfl (ql Cc rfl (BD rfl (qp rfl (qa rfl (Ad ?_)))))
     exact Av _ h (sm [] _ _ rfl rfl)
   ·obtain rfl := sj h
    refine Al (sm [] [(2, bD v5)] [] rfl rfl) (Az ?_)
    exact ⟨⟨[_], ⟨.tmp _ _ rfl, tv⟩, rfl⟩, tv⟩
theorem MT (N : Nat) (p0 : Ag) (p1 : Aj) (r : Bool) (h : Fd N p0 p1 = some r) : AB Tryz.prog 104 [.e (.agg [sC (p0.fVersions.map Ai), sC (p0.fNow.map Ai), sC (p0.fTarget.map Ai), sC (p0.fTables.map Ao)]), .e (.agg [iC p1.fKind, iC p1.fIndex, iC p1.fVersion])] [] (bD r) := by
 unfold Fd at h
 refine Au (n := 36) (rs := [.tmp 4]) Tryz.func104 rfl rfl rfl (A5 rfl) (A5 rfl) rfl fun w0 S0 => ?_
 refine Ab (Aa Ac rfl (qb rfl (qb rfl (qa rfl (Ad (Ab (Ab (Aa Ac rfl (qf EK rfl (ql Cc rfl (BD rfl (Ad ?_))))))))))))
 refine Ap rfl (fun c1 => ?_) (fun c1 => ?_)
 ·have h := An c1 h
  refine Ab (Aa Ac rfl (qf Eb rfl (ql Cc rfl (qf CA rfl (ql Gu rfl (AV DN rfl (AZ rfl (qa rfl (Ad ?_)))))))))
  obtain rfl := sj h
  refine Al (sm [] [(4, bD ((decide (p1.fIndex < (p0.fTables.length : Int)))))] [] rfl rfl) (Az ?_)
  exact ⟨⟨[_], ⟨.tmp _ _ rfl, tv⟩, rfl⟩, tv⟩
 ·have h := Am c1 h
  refine Aq ?_
  refine AQ h (fun v2 => mk [(4, bD v2)] []) (fun j2 h => ?_) (fun v2 h => ?_)
  ·refine Aa Ac rfl (qf Eb rfl (ql Cc rfl (qf Bt rfl (ql Bg rfl (AV AH rfl (AZ rfl (qm rfl ?_)))))))
   refine AC (t := 20) rfl (fun c3 => ?_) (fun c3 => ?_)
   ·have h := An c3 h
    refine qf EK rfl (ql Cc rfl (B6 rfl (qm rfl ?_)))
    refine AC (t := 24) rfl (fun c4 => ?_) (fun c4 => ?_)
    ·have h := An c4 h
     refine qn rfl (qn rfl (qn rfl (qn rfl (qn rfl (qn rfl (qn rfl (qn rfl (qn rfl (qp rfl (qp rfl (qa rfl (AM (by kernel_rfl) ?_))))))))))))
     exact Av _ h (sm [] _ _ rfl rfl)
    ·have h := Am c4 h
     refine qf FH rfl (ql Cc rfl (qf Bt rfl (ql Bg rfl (qf Eb rfl (ql Cc rfl ?_)))))
     obtain ⟨v5, a5, b5, h⟩ := Ak h
     refine qi AH Df a5 (Ah b5) rfl (qk Cc rfl (AZ rfl (qp rfl (qp rfl (qa rfl (AM (by kernel_rfl) ?_))))))
     exact Av _ h (sm [] _ _ rfl rfl)
   ·have h := Am c3 h
    refine qn rfl (qn rfl (qn rfl (qn rfl (qu rfl (qu rfl (qu rfl (qu rfl (qu rfl (qu rfl (qu rfl (qu rfl (qu rfl (qn rfl (qp rfl (qa rfl (AM (by kernel_rfl) ?_))))))))))))))))
    exact Av _ h (sm [] _ _ rfl rfl)
  ·obtain rfl := sj h
   refine Al (sm [] [(4, bD v2)] [] rfl rfl) (Az ?_)
   exact ⟨⟨[_], ⟨.tmp _ _ rfl, tv⟩, rfl⟩, tv⟩
theorem J0 (N : Nat) (p0 : Ag) (p1 : Ae) (p2 : Aj) (r : Ae × Int) (h : ER N p0 p1 p2 = some r) : AB Tryz.prog 79 [.e (.agg [sC (p0.fVersions.map Ai), sC (p0.fNow.map Ai), sC (p0.fTarget.map Ai), sC (p0.fTables.map Ao)]), .e (.agg [sC (p1.fBase.map Ai), sC (p1.fNext.map Ai), sC (p1.fHeld.map A9)]), .e (.agg [iC p2.fKind, iC p2.fIndex, iC p2.fVersion])] [(1, r.1.fBase.map Ai), (1, r.1.fNext.map Ai), (1, r.1.fHeld.map A9)] (.tup [.agg [.own 0, .own 1, .own 2], .one (iC r.2)]) := by
 unfold ER at h
 refine Au (n := 32) (rs := [.cell 6 50, .tmp 7]) Tryz.func79 rfl rfl rfl (A5 rfl) (A5 rfl) rfl fun w0 S0 => ?_
 refine Ab (Aa Ac rfl (qb rfl (qb rfl (qb rfl (qz Cv rfl (qa rfl (Ad (Ab (AP (Ab (Aa Ac rfl (qL GS CT rfl ?_))))))))))))
 obtain ⟨v1, a1, h⟩ := bind_some h
 refine AG [] (Oa N p2 v1 a1) Wt rfl (Cq rfl (qa rfl (Ad ?_)))
 refine Ap rfl (fun c2 => ?_) (fun c2 => ?_)
 ·have h := An c2 h
  refine Ab (Aa Ac rfl (Bz Cv GR rfl (qs Ax rfl (qa rfl (Ad ?_)))))
  obtain rfl := sj h
  refine Al ((AA 6 0 2001 1 _ rfl rfl rfl rfl).trans ((AA 6 1 2002 1 _ rfl rfl rfl rfl).trans ((AA 6 2 2003 1 _ rfl rfl rfl rfl).trans (sm [(1000, 2001), (1001, 2002), (1002, 2003)] [(6, oD (.ptr 6 0)), (7, iD 1)] [(6, .box [.own 1000, .own 1001, .own 1002]), (1000, .vec 1 ((([] : List Int)).map Ai)), (1001, .vec 1 ((([] : List Int)).map Ai)), (1002, .vec 1 ((([] : List Int)).map A9))] rfl rfl)))) (Az ?_)
  exact ⟨⟨[_, _], ⟨.cellN _ _ _ _ _ _ _ rfl rfl A0 Ax rfl rfl (HR rfl), ⟨.tmp _ _ rfl, tv⟩⟩, rfl⟩, ⟨rfl, rfl, rfl, tv⟩⟩
 ·have h := Am c2 h
  refine Ab (Aa Ac rfl (qL DP Dr rfl (qL GS CT rfl ?_)))
  obtain ⟨v3, a3, h⟩ := bind_some h
  refine AG [] (MT N p0 p2 v3 a3) Vv rfl (Cq rfl (qa rfl (Ad ?_)))
  refine Ap rfl (fun c4 => ?_) (fun c4 => ?_)
  ·have h := An c4 h
   refine Ab (Aa Ac rfl (Bz Cv GR rfl (qs Ax rfl (qa rfl (Ad ?_)))))
   obtain rfl := sj h
   refine Al ((AA 6 0 2004 1 _ rfl rfl rfl rfl).trans ((AA 6 1 2005 1 _ rfl rfl rfl rfl).trans ((AA 6 2 2006 1 _ rfl rfl rfl rfl).trans (sm [(1000, 2004), (1001, 2005), (1002, 2006)] [(6, oD (.ptr 6 0)), (7, iD 4)] [(6, .box [.own 1000, .own 1001, .own 1002]), (1000, .vec 1 ((([] : List Int)).map Ai)), (1001, .vec 1 ((([] : List Int)).map Ai)), (1002, .vec 1 ((([] : List Int)).map A9))] rfl rfl)))) (Az ?_)
   exact ⟨⟨[_, _], ⟨.cellN _ _ _ _ _ _ _ rfl rfl A0 Ax rfl rfl (HR rfl), ⟨.tmp _ _ rfl, tv⟩⟩, rfl⟩, ⟨rfl, rfl, rfl, tv⟩⟩
  ·have h := Am c4 h
   refine Aq (Ab (Aa Ac rfl (qL DP Dr rfl (qL A0 Ax rfl (qL GS CT rfl ?_)))))
   obtain ⟨v5, a5, h⟩ := bind_some h
   refine AG [2007, 2008, 2009] (Kx N p0 p1 p2 v5 a5) Wp rfl (qm rfl (qx rfl (qx rfl (qz Cv rfl (qs Ax rfl (qa rfl (Ad (Ab (Ab (Aa Ac rfl (qm rfl (Cq rfl (Ad ?_)))))))))))))
   refine Ap rfl (fun c6 => ?_) (fun c6 => ?_)
   ·have h := An c6 h
    refine Ab (Aa Ac rfl (Bz Cv GR rfl (qs Ax rfl (qa rfl (Ad ?_)))))
    obtain rfl := sj h
    refine Al ((AA 6 0 2010 1 _ rfl rfl rfl rfl).trans ((AA 6 1 2011 1 _ rfl rfl rfl rfl).trans ((AA 6 2 2012 1 _ rfl rfl rfl rfl).trans (sm [(1000, 2010), (1001, 2011), (1002, 2012)] [(6, oD (.ptr 6 0)), (7, iD 11)] [(6, .box [.own 1000, .own 1001, .own 1002]), (1000, .vec 1 ((([] : List Int)).map Ai)), (1001, .vec 1 ((([] : List Int)).map Ai)), (1002, .vec 1 ((([] : List Int)).map A9))] rfl rfl)))) (Az ?_)
    exact ⟨⟨[_, _], ⟨.cellN _ _ _ _ _ _ _ rfl rfl A0 Ax rfl rfl (HR rfl), ⟨.tmp _ _ rfl, tv⟩⟩, rfl⟩, ⟨rfl, rfl, rfl, tv⟩⟩
   ·have h := Am c6 h
    refine Aq (Ab (Aa Ac rfl (qL A0 Ax rfl (qs Ax rfl (qa rfl (Ad ?_))))))
    obtain rfl := sj h
    refine Al (sm [(1000, 2007), (1001, 2008), (1002, 2009)] [(6, oD (.ptr 6 0)), (7, iD 0)] [(6, .box [.own 1000, .own 1001, .own 1002]), (1000, .vec 1 (v5.1.fBase.map Ai)), (1001, .vec 1 (v5.1.fNext.map Ai)), (1002, .vec 1 (v5.1.fHeld.map A9))] rfl rfl) (Az ?_)
    exact ⟨⟨[_, _], ⟨.cellN _ _ _ _ _ _ _ rfl rfl A0 Ax rfl rfl (HR rfl), ⟨.tmp _ _ rfl, tv⟩⟩, rfl⟩, ⟨rfl, rfl, rfl, tv⟩⟩
theorem NX (N : Nat) (p0 : Ag) (p1 : Ae) (p2 : Aj) (r : Ae × Int) (h : HM N p0 p1 p2 = some r) : AB Tryz.prog 71 [.e (.agg [sC (p0.fVersions.map Ai), sC (p0.fNow.map Ai), sC (p0.fTarget.map Ai), sC (p0.fTables.map Ao)]), .e (.agg [sC (p1.fBase.map Ai), sC (p1.fNext.map Ai), sC (p1.fHeld.map A9)]), .e (.agg [iC p2.fKind, iC p2.fIndex, iC p2.fVersion])] [(1, r.1.fBase.map Ai), (1, r.1.fNext.map Ai), (1, r.1.fHeld.map A9)] (.tup [.agg [.own 0, .own 1, .own 2], .one (iC r.2)]) := by
 unfold HM at h
 refine Au (n := 22) (rs := [.cell 6 50, .tmp 7]) Tryz.func71 rfl rfl rfl (A5 rfl) (A5 rfl) rfl fun w0 S0 => ?_
 refine Ab (Aa Ac rfl (qb rfl (qb rfl (qb rfl (qz Cv rfl (qa rfl (Ad (Ab (Ab (Aa Ac rfl (qL DP Dr rfl (qL A0 Ax rfl ?_))))))))))))
 obtain ⟨v1, a1, h⟩ := bind_some h
 refine AG [] (HE N p0 p1 v1 a1) To rfl (qa rfl (Ad (Ab (Aa Ac rfl (qm rfl (B6 rfl (Ad ?_)))))))
 refine Ap rfl (fun c2 => ?_) (fun c2 => ?_)
 ·have h := An c2 h
  refine Ab (Aa Ac rfl (Bz Cv GR rfl (qm rfl (qs Ax rfl (qa rfl (Ad ?_))))))
  obtain rfl := sj h
  refine Al ((AA 6 0 2001 1 _ rfl rfl rfl rfl).trans ((AA 6 1 2002 1 _ rfl rfl rfl rfl).trans ((AA 6 2 2003 1 _ rfl rfl rfl rfl).trans (sm [(1000, 2001), (1001, 2002), (1002, 2003)] [(6, oD (.ptr 6 0)), (7, iD v1)] [(6, .box [.own 1000, .own 1001, .own 1002]), (1000, .vec 1 ((([] : List Int)).map Ai)), (1001, .vec 1 ((([] : List Int)).map Ai)), (1002, .vec 1 ((([] : List Int)).map A9))] rfl rfl)))) (Az ?_)
  exact ⟨⟨[_, _], ⟨.cellN _ _ _ _ _ _ _ rfl rfl A0 Ax rfl rfl (HR rfl), ⟨.tmp _ _ rfl, tv⟩⟩, rfl⟩, ⟨rfl, rfl, rfl, tv⟩⟩
 ·have h := Am c2 h
  refine Aq (Ab (Aa Ac rfl (qL DP Dr rfl (qL A0 Ax rfl (qL GS CT rfl ?_)))))
  obtain ⟨v3, a3, h⟩ := bind_some h
  refine AG [2004, 2005, 2006] (J0 N p0 p1 p2 v3 a3) VK rfl (qx rfl (qx rfl (qs Ax rfl (qa rfl (Ad ?_)))))
  obtain rfl := sj h
  refine Al (sm [(1000, 2004), (1001, 2005), (1002, 2006)] [(6, oD (.ptr 6 0)), (7, iD v3.2)] [(6, .box [.own 1000, .own 1001, .own 1002]), (1000, .vec 1 (v3.1.fBase.map Ai)), (1001, .vec 1 (v3.1.fNext.map Ai)), (1002, .vec 1 (v3.1.fHeld.map A9))] rfl rfl) (Az ?_)
  exact ⟨⟨[_, _], ⟨.cellN _ _ _ _ _ _ _ rfl rfl A0 Ax rfl rfl (HR rfl), ⟨.tmp _ _ rfl, tv⟩⟩, rfl⟩, ⟨rfl, rfl, rfl, tv⟩⟩
theorem JX (N : Nat) (p0 : Ag) (p1 : Ae) (r : (List Aj) × (List Ae)) (h : GG N p0 p1 = some r) : AB Tryz.prog 49 [.e (.agg [sC (p0.fVersions.map Ai), sC (p0.fNow.map Ai), sC (p0.fTarget.map Ai), sC (p0.fTables.map Ao)]), .e (.agg [sC (p1.fBase.map Ai), sC (p1.fNext.map Ai), sC (p1.fHeld.map A9)])] [(3, r.1.map Ay), (3, r.2.map Af)] (.tup [.one (.own 0), .one (.own 1)]) := by
 unfold GG at h
 refine Au (n := 55) (rs := [.tmp 4, .tmp 5]) Tryz.func49 rfl rfl rfl (A5 rfl) (A5 rfl) rfl fun w0 S0 => ?_
 refine Ab (Aa Ac rfl (qb rfl (qb rfl (qa rfl (qa rfl (Ad (Ab (Aa Ac rfl (qa rfl (Ad (Ab (Aa Ac rfl (qa rfl (Ad (Ab (Aa Ac rfl (qL DP Dr rfl (qL A0 Ax rfl ?_))))))))))))))))))
 obtain ⟨v1, a1, h⟩ := bind_some h
 refine AG [2001] (LI N p0 p1 v1 a1) Xm rfl (qm rfl (qx rfl (qx rfl (qa rfl (qa rfl (Ad (Ab (Ab (Aa Ac rfl (qm rfl (Dz BX rfl (qm rfl (Ad ?_)))))))))))))
 refine AJ (L := Fk N p0 p1 v1) h (fun v2 => mk [(2, oD (.ptr 2 0)), (3, oD (.ptr 3 0)), (6, oD (.own 2002)), (7, oD (.own 2003)), (22, oD (.own 2004)), (23, iD ((v1.1.length : Int))), (24, iD v2.2.2)] [(2, .box [sC (p0.fVersions.map Ai), sC (p0.fNow.map Ai), sC (p0.fTarget.map Ai), sC (p0.fTables.map Ao)]), (3, .box [sC (p1.fBase.map Ai), sC (p1.fNext.map Ai), sC (p1.fHeld.map A9)]), (2002, .vec 3 (v2.1.map Ay)), (2003, .vec 3 (v2.2.1.map Af)), (2004, .vec 3 (v1.1.map Ay))]) (fun v3 => mk [(6, oD (.own 2005)), (7, oD (.own 2006))] [(2005, .vec 3 (v3.1.map Ay)), (2006, .vec 3 (v3.2.map Af))]) (fun _ _ => rfl) ((Bn 6 2013 3 rfl rfl rfl).trans ((Bn 7 2014 3 rfl rfl rfl).trans (sm [(2002, 2013), (2003, 2014), (2004, 2001)] _ _ rfl rfl))) (fun j2 n2 v2 h => ?_) (fun v3 s h hs => ?_)
 ·unfold Fk at h
  refine Ab (Aa Ac rfl (AZ rfl (Ad (Ab ?_))))
  refine Ap rfl (fun c4 => ?_) (fun c4 => ?_)
  ·have h := An c4 h
   refine Aq ?_
   refine AQ h (fun v5 => mk [(2, oD (.ptr 2 0)), (3, oD (.ptr 3 0)), (6, oD (.own 2007)), (7, oD (.own 2008)), (22, oD (.own 2009)), (23, iD ((v1.1.length : Int))), (24, iD v2.2.2)] [(2, .box [sC (p0.fVersions.map Ai), sC (p0.fNow.map Ai), sC (p0.fTarget.map Ai), sC (p0.fTables.map Ao)]), (3, .box [sC (p1.fBase.map Ai), sC (p1.fNext.map Ai), sC (p1.fHeld.map A9)]), (2007, .vec 3 (v5.1.map Ay)), (2008, .vec 3 (v5.2.map Af)), (2009, .vec 3 (v1.1.map Ay))]) (fun j5 h => ?_) (fun v5 h => ?_)
   ·refine AP (Ab (Aa Ac rfl ?_))
    obtain ⟨v6, a6, b6, h⟩ := Ak h
    refine qI BX CT a6 (Ah b6) rfl (qJ GS CT (Ah b6) rfl (qz EQ rfl (qs CT rfl (Ad (Ab (Aa Ac rfl (qL DP Dr rfl (qL A0 Ax rfl (qL GS CT rfl ?_)))))))))
    obtain ⟨v7, a7, h⟩ := bind_some h
    refine AG [2010, 2011, 2012] (NX N p0 p1 v6 v7 a7) W3 rfl (qm rfl (qx rfl (qx rfl (qz Cv rfl (qs Ax rfl (qa rfl (Ad (Ab (Ab (Aa Ac rfl (qm rfl (B6 rfl (Ad ?_)))))))))))))
    refine Ap rfl (fun c8 => ?_) (fun c8 => ?_)
    ·have h := An c8 h
     refine AY ?_
     exact Av _ h (sm [(2007, 2002), (2008, 2003), (2009, 2004)] _ _ rfl rfl)
    ·have h := Am c8 h
     refine Aq (Ab (Aa Ac rfl (qL DP Dr rfl (qL A0 Ax rfl ?_))))
     obtain ⟨v9, a9, h⟩ := bind_some h
     refine FG [] [2010, 2011, 2012] (Ih N p0 v7.1 v9 a9) UU Ef rfl (qm rfl (qx rfl (qx rfl (qa rfl (qa rfl (Ad (Ab (Aa Ac rfl (qm rfl (Ad ?_))))))))))
     refine Ap rfl (fun c10 => ?_) (fun c10 => ?_)
     ·have h := An c10 h
      refine Al (A1 2010 _ _ rfl rfl) (Al (A1 2011 _ _ rfl rfl) (Al (A1 2012 _ _ rfl rfl) (Aa Ac rfl (qm rfl (qL GS CT rfl (DT BX CT EQ rfl ?_))))))
      obtain ⟨c11, h⟩ := AL h
      refine CQ (f := Ay) BX BX CT IC EQ c11 rfl (qm rfl (qL A0 Ax rfl (DT AR Ax Cv rfl ?_)))
      obtain ⟨c12, h⟩ := AL h
      refine CQ (f := Af) AR AR Ax OF Cv c12 rfl (qa rfl (qa rfl (AM (by kernel_rfl) ?_)))
      exact Av _ h (sm [(2007, 47), (2008, 51), (2009, 2004)] _ _ rfl rfl)
     ·have h := Am c10 h
      refine Aq ?_
      exact Av _ h (sm [(2007, 2002), (2008, 2003), (2009, 2004)] _ _ rfl rfl)
   ·refine Aa Ac rfl (AX rfl (qm rfl (Ad ?_)))
    exact Av _ h (sm [(2002, 2007), (2003, 2008), (2004, 2009)] _ _ rfl rfl)
  ·have h := Am c4 h
   refine AY ?_
   exact Av _ h (sm [(2005, 2002), (2006, 2003)] _ _ rfl rfl)
 ·refine Al hs (Ab (Aa Ac rfl (qm rfl (qm rfl (qa rfl (qa rfl (Ad ?_)))))))
  obtain rfl := sj h
  refine Al (sm [(1000, 2005), (1001, 2006)] [(4, oD (.own 1000)), (5, oD (.own 1001))] [(1000, .vec 3 (v3.1.map Ay)), (1001, .vec 3 (v3.2.map Af))] rfl rfl) (Az ?_)
  exact ⟨⟨[_, _], ⟨.tmp _ _ rfl, ⟨.tmp _ _ rfl, tv⟩⟩, rfl⟩, ⟨rfl, rfl, tv⟩⟩
theorem Kq (N : Nat) (p0 : Int) (r : Int) (h : zFS N p0 = some r) : AB Tryz.prog 89 [pD (.val (.int .u32 p0))] [] (iD r) := by
 unfold zFS at h
 refine Au (n := 19) (rs := [.tmp 2]) Tryz.func89 rfl rfl rfl (A5 rfl) (A5 rfl) rfl fun w0 S0 => ?_
 refine Ab (Aa Ac rfl (qa rfl (Ad ?_)))
 refine AQ h (fun v1 => mk [(0, pD (.val (.int .u32 v1.1))), (2, iD v1.2)] []) (fun j1 h => ?_) (fun v1 h => ?_)
 ·refine Ab (Aa Ac rfl (qm rfl (CW rfl (Ad ?_))))
  refine Ap rfl (fun c2 => ?_) (fun c2 => ?_)
  ·have h := An c2 h
   refine Ab (Aa Ac rfl (qm rfl (Gb rfl (by decide) (qa rfl (Ad (Aa Ac rfl (qa rfl (Ad ?_))))))))
   exact Av _ h (sm [] _ _ rfl rfl)
  ·have h := Am c2 h
   refine Aq ?_
   exact Av _ h (sm [] _ _ rfl rfl)
 ·refine AQ h (fun v3 => mk [(0, pD (.val (.int .u32 v3.1))), (2, iD v3.2)] []) (fun j3 h => ?_) (fun v3 h => ?_)
  ·refine Ab (Aa Ac rfl (qm rfl (CW rfl (Ad ?_))))
   refine Ap rfl (fun c4 => ?_) (fun c4 => ?_)
   ·have h := An c4 h
    refine Ab (Aa Ac rfl (qm rfl (Gb rfl (by decide) (qa rfl (Ad (Aa Ac rfl (qm rfl (AX rfl (qa rfl (Ad ?_))))))))))
    exact Av _ h (sm [] _ _ rfl rfl)
   ·have h := Am c4 h
    refine Aq ?_
    exact Av _ h (sm [] _ _ rfl rfl)
  ·refine Ab (Aa Ac rfl (qm rfl (qm rfl (FO O5 WJ rfl ?_))))
   obtain ⟨v5, a5, h⟩ := bind_some h
   refine KI (.p rfl) rfl rfl TK a5 ?_
   refine FO SP QU rfl (AX rfl (qa rfl (Ad ?_)))
   obtain rfl := sj h
   refine Al (sm [] [(2, iD ((wI .i64 (v3.2 + (wI .i64 v5)))))] [] rfl rfl) (Az ?_)
   exact ⟨⟨[_], ⟨.tmp _ _ rfl, tv⟩, rfl⟩, tv⟩
theorem J6 (N : Nat) (p0 : Int) (r : Int) (h : FN N p0 = some r) : AB Tryz.prog 90 [pD (.val (.int .u64 p0))] [] (iD r) := by
 unfold FN at h
 refine Au (n := 25) (rs := [.tmp 2]) Tryz.func90 rfl rfl rfl (A5 rfl) (A5 rfl) rfl fun w0 S0 => ?_
 refine Ab (Aa Ac rfl (qa rfl (Ad ?_)))
 refine AQ h (fun v1 => mk [(0, pD (.val (.int .u64 v1.1))), (2, iD v1.2)] []) (fun j1 h => ?_) (fun v1 h => ?_)
 ·refine Ab (Aa Ac rfl (qm rfl (CW rfl (Ad ?_))))
  refine Ap rfl (fun c2 => ?_) (fun c2 => ?_)
  ·have h := An c2 h
   refine Ab (Aa Ac rfl (qm rfl (Gb rfl (by decide) (qa rfl (Ad (Aa Ac rfl (qa rfl (Ad ?_))))))))
   exact Av _ h (sm [] _ _ rfl rfl)
  ·have h := Am c2 h
   refine Aq ?_
   exact Av _ h (sm [] _ _ rfl rfl)
 ·refine AQ h (fun v3 => mk [(0, pD (.val (.int .u64 v3.1))), (2, iD v3.2)] []) (fun j3 h => ?_) (fun v3 h => ?_)
  ·refine Ab (Aa Ac rfl (qm rfl (CW rfl (Ad ?_))))
   refine Ap rfl (fun c4 => ?_) (fun c4 => ?_)
   ·have h := An c4 h
    refine Ab (Aa Ac rfl (qm rfl (Gb rfl (by decide) (qa rfl (Ad (Aa Ac rfl (qm rfl (AX rfl (qa rfl (Ad ?_))))))))))
    exact Av _ h (sm [] _ _ rfl rfl)
   ·have h := Am c4 h
    refine Aq ?_
    exact Av _ h (sm [] _ _ rfl rfl)
  ·refine AQ h (fun v5 => mk [(0, pD (.val (.int .u64 v5.1))), (2, iD v5.2)] []) (fun j5 h => ?_) (fun v5 h => ?_)
   ·refine Ab (Aa Ac rfl (qm rfl (CW rfl (Ad ?_))))
    refine Ap rfl (fun c6 => ?_) (fun c6 => ?_)
    ·have h := An c6 h
     refine Ab (Aa Ac rfl (qm rfl (Gb rfl (by decide) (qa rfl (Ad (Aa Ac rfl (qm rfl (AX rfl (qa rfl (Ad ?_))))))))))
     exact Av _ h (sm [] _ _ rfl rfl)
    ·have h := Am c6 h
     refine Aq ?_
     exact Av _ h (sm [] _ _ rfl rfl)
   ·refine Ab (Aa Ac rfl (qm rfl (qm rfl (FO Sk WJ rfl ?_))))
    obtain ⟨v7, a7, h⟩ := bind_some h
    refine KI (.p rfl) rfl rfl TK a7 ?_
    refine FO SP QU rfl (AX rfl (qa rfl (Ad ?_)))
    obtain rfl := sj h
    refine Al (sm [] [(2, iD ((wI .i64 (v5.2 + (wI .i64 v7)))))] [] rfl rfl) (Az ?_)
    exact ⟨⟨[_], ⟨.tmp _ _ rfl, tv⟩, rfl⟩, tv⟩
theorem ID (N : Nat) (p0 : Int) (r : Int) (h : Db N p0 = some r) : AB Tryz.prog 61 [pD (.val (.int .u64 p0))] [] (iD r) := by
 unfold Db at h
 refine Au (n := 8) (rs := [.tmp 2]) Tryz.func61 rfl rfl rfl (A5 rfl) (A5 rfl) rfl fun w0 S0 => ?_
 refine Ab (Aa Ac rfl (qa rfl (Ad (Ab ?_))))
 refine Ap rfl (fun c1 => ?_) (fun c1 => ?_)
 ·have h := An c1 h
  refine Ab (Aa Ac rfl (qm rfl (FO OW Pa rfl ?_)))
  obtain ⟨v2, a2, h⟩ := bind_some h
  refine AG [] (Kq N ((wI .u32 p0)) v2 a2) WM rfl (qa rfl (Ad ?_))
  obtain rfl := sj h
  refine Al (sm [] [(2, iD v2)] [] rfl rfl) (Az ?_)
  exact ⟨⟨[_], ⟨.tmp _ _ rfl, tv⟩, rfl⟩, tv⟩
 ·have h := Am c1 h
  refine Aq (Ab (Aa Ac rfl (qm rfl ?_)))
  obtain ⟨v3, a3, h⟩ := bind_some h
  refine AG [] (J6 N p0 v3 a3) Xk rfl (qa rfl (Ad ?_))
  obtain rfl := sj h
  refine Al (sm [] [(2, iD v3)] [] rfl rfl) (Az ?_)
  exact ⟨⟨[_], ⟨.tmp _ _ rfl, tv⟩, rfl⟩, tv⟩
theorem Fl (N : Nat) (p0 : List Ae) (p1 : Int) (p2 : Int) (p3 : (Ae × Ae) → Option Int) (r : (List Ae)) (h : Gs.insertionSort N p0 p1 p2 p3 = some r) : By Tryz.prog 81 [oD (.own 90000), iD p1, iD p2, oD (.clo (BM (DW true Af true Af) Cr p3))] [(.vec 3 (p0.map Af), .vec 3 (r.map Af))] [] (.tup []) := by
 unfold Gs.insertionSort at h
 refine Br (n := 53) (rs := []) Tryz.func81 rfl rfl rfl (A5 rfl) (A5 rfl) rfl rfl (A5 rfl) rfl (A5 rfl) fun w0 S0 GL => ME ?_
 refine Al (sm [] [(0, oD (.own 90000)), (1, iD p1), (2, iD p2), (3, oD (.clo (BM (DW true Af true Af) Cr p3)))] [(90000, .vec 3 (p0.map Af))] rfl rfl) (Ab (Aa Ac rfl (qm rfl (AX rfl (qa rfl (Ad ?_))))))
 refine AJ (L := Gs.insertionSort_L1 N p1 p2 p3) h (fun v1 => mk [(0, oD (.own 90000)), (1, iD p1), (2, iD p2), (3, oD (.clo (BM (DW true Af true Af) Cr p3))), (8, iD v1.2)] [(90000, .vec 3 (v1.1.map Af))]) (fun v2 => mk [] [(90000, .vec 3 (v2.map Af))]) (fun _ _ => rfl) (sm [] _ _ rfl rfl) (fun j1 n1 v1 h => ?_) (fun v2 s h hs => ?_)
 ·unfold Gs.insertionSort_L1 at h
  refine Ab (Ab (Aa Ac rfl (qm rfl (qm rfl (AZ rfl (Ad ?_))))))
  refine Ap rfl (fun c3 => ?_) (fun c3 => ?_)
  ·have h := An c3 h
   refine Aq (Ab (AP (Ab (Aa Ac rfl (qm rfl (qa rfl (Ad ?_)))))))
   refine AJ (L := Gs.insertionSort_L4 N p1 p3) h (fun v4 => mk [(0, oD (.own 90000)), (1, iD p1), (2, iD p2), (3, oD (.clo (BM (DW true Af true Af) Cr p3))), (8, iD v1.2), (9, iD v4.2)] [(90000, .vec 3 (v4.1.map Af))]) (fun v5 => mk [(0, oD (.own 90000)), (1, iD p1), (2, iD p2), (3, oD (.clo (BM (DW true Af true Af) Cr p3))), (8, iD v1.2)] [(90000, .vec 3 (v5.map Af))]) (fun _ _ => rfl) (sm [] _ _ rfl rfl) (fun j4 n4 v4 h => ?_) (fun v5 s h hs => ?_)
   ·unfold Gs.insertionSort_L4 at h
    refine Ab ?_
    refine AQ h (fun v6 => mk [(0, oD (.own 90000)), (1, iD p1), (2, iD p2), (3, oD (.clo (BM (DW true Af true Af) Cr p3))), (8, iD v1.2), (9, iD v4.2), (34, bD v6)] [(90000, .vec 3 (v4.1.map Af))]) (fun j6 h => ?_) (fun v6 h => ?_)
    ·refine Aa Ac rfl (qm rfl (qm rfl (Ey rfl (qm rfl ?_))))
     refine AC (t := 21) rfl (fun c7 => ?_) (fun c7 => ?_)
     ·have h := An c7 h
      refine qm rfl (qm rfl (qm rfl ?_))
      obtain ⟨v8, a8, b8, h⟩ := Ak h
      refine qI AR Ax a8 (Ah b8) rfl (qJ A0 Ax (Ah b8) rfl (qm rfl (qm rfl (Cp rfl ?_))))
      obtain ⟨v9, a9, b9, h⟩ := Ak h
      refine qI AR Ax a9 (Ah b9) rfl (qJ A0 Ax (Ah b9) rfl ?_)
      obtain ⟨v10, a10, h⟩ := bind_some h
      refine D0 (ds0 := [_, _]) (ar := (DW true Af true Af) ((v8, v9))) (.g rfl rfl) rfl rfl ⟨rfl, rfl, tv⟩ rfl rfl rfl (DZ (Ep _ _ _ _ Bp Bp) a10) ?_
      refine AZ rfl (qp rfl (AM (by kernel_rfl) ?_))
      exact Av _ h (sm [] _ _ rfl rfl)
     ·have h := Am c7 h
      refine qn rfl (qn rfl (qn rfl (qn rfl (qn rfl (qn rfl (qn rfl (qn rfl (qn rfl (qn rfl (qn rfl (qn rfl (qp rfl (AM (by kernel_rfl) ?_)))))))))))))
      exact Av _ h (sm [] _ _ rfl rfl)
    ·refine Ap rfl (fun c11 => ?_) (fun c11 => ?_)
     ·have h := An c11 h
      refine Aq (Ab (AP (Aa Ac rfl (qm rfl (qm rfl (qm rfl (qm rfl (Cp rfl (qm rfl (qm rfl (Cp rfl ?_)))))))))))
      obtain ⟨v12, a12, b12, h⟩ := Ak h
      refine qI AR Ax a12 (Ah b12) rfl (qJ A0 Ax (Ah b12) rfl (qm rfl (qm rfl ?_)))
      obtain ⟨v13, a13, b13, h⟩ := Ak h
      refine qI AR Ax a13 (Ah b13) rfl (qJ A0 Ax (Ah b13) rfl ?_)
      obtain ⟨v14, a14, b14, h⟩ := Ak h
      refine qI AR Ax a14 (Ah b14) rfl ?_
      refine A8 rfl rfl rfl rfl (Ah b14) rfl Ax rfl (A5 rfl) (A6 Af v4.1 _ v12) ?_
      obtain ⟨v15, a15, b15, h⟩ := Ak h
      refine qI AR Ax a15 (Ah b15) rfl ?_
      refine A8 rfl rfl rfl rfl (Ah b15) rfl Ax rfl (A5 rfl) (A6 Af (v4.1.set ((v4.2).toNat) v12) _ v13) ?_
      refine AM (by kernel_rfl) (Aa Ac rfl (qm rfl (Cp rfl (qa rfl (Ad ?_)))))
      exact Av _ h (sm [] _ _ rfl rfl)
     ·have h := Am c11 h
      refine AY ?_
      exact Av _ h (sm [] _ _ rfl rfl)
   ·refine Al hs (Aa Ac rfl (qm rfl (AX rfl (qa rfl (Ad ?_)))))
    exact Av _ h (sm [] _ _ rfl rfl)
  ·have h := Am c3 h
   refine AY ?_
   exact Av _ h (sm [] _ _ rfl rfl)
 ·obtain rfl := sj h
  refine ⟨_, hs.trans (sm [] [] [(90000, .vec 3 (v2.map Af))] rfl rfl), ?_⟩
  exact ⟨⟨[], tv, rfl⟩, ⟨rfl, tv⟩, tv⟩
theorem El (N : Nat) (p0 : List Ae) (p1 : Int) (p2 : Int) (p3 : Int) (p4 : (Ae × Ae) → Option Int) (r : (List Ae)) (h : Gs.siftDown N p0 p1 p2 p3 p4 = some r) : By Tryz.prog 105 [oD (.own 90000), iD p1, iD p2, iD p3, oD (.clo (BM (DW true Af true Af) Cr p4))] [(.vec 3 (p0.map Af), .vec 3 (r.map Af))] [] (.tup []) := by
 unfold Gs.siftDown at h
 refine Br (n := 82) (rs := []) Tryz.func105 rfl rfl rfl (A5 rfl) (A5 rfl) rfl rfl (A5 rfl) rfl (A5 rfl) fun w0 S0 GL => ME ?_
 refine Al (sm [] [(0, oD (.own 90000)), (1, iD p1), (2, iD p2), (3, iD p3), (4, oD (.clo (BM (DW true Af true Af) Cr p4)))] [(90000, .vec 3 (p0.map Af))] rfl rfl) (Ab (Aa Ac rfl (qm rfl (qa rfl (Ad ?_)))))
 refine AJ (L := Gs.siftDown_L1 N p2 p3 p4) h (fun v1 => mk [(0, oD (.own 90000)), (2, iD p2), (3, iD p3), (4, oD (.clo (BM (DW true Af true Af) Cr p4))), (10, iD v1.2)] [(90000, .vec 3 (v1.1.map Af))]) (fun v2 => mk [] [(90000, .vec 3 (v2.map Af))]) (fun _ _ => rfl) (sm [] _ _ rfl rfl) (fun j1 n1 v1 h => ?_) (fun v2 s h hs => ?_)
 ·unfold Gs.siftDown_L1 at h
  refine AP (Ab (Aa Ac rfl (qm rfl (HA rfl (AX rfl (qa rfl (Ad (Ab (Ab (Aa Ac rfl (qm rfl (qm rfl (CW rfl (Ad ?_))))))))))))))
  refine Ap rfl (fun c3 => ?_) (fun c3 => ?_)
  ·have h := An c3 h
   refine AY ?_
   exact Av _ h (sm [] _ _ rfl rfl)
  ·have h := Am c3 h
   refine Aq ?_
   refine AQ h (fun v4 => mk [(0, oD (.own 90000)), (2, iD p2), (3, iD p3), (4, oD (.clo (BM (DW true Af true Af) Cr p4))), (10, iD v1.2), (11, iD v4)] [(90000, .vec 3 (v1.1.map Af))]) (fun j4 h => ?_) (fun v4 h => ?_)
   ·refine AQ h (fun v5 => mk [(0, oD (.own 90000)), (2, iD p2), (3, iD p3), (4, oD (.clo (BM (DW true Af true Af) Cr p4))), (10, iD v1.2), (11, iD ((wI .i64 ((wI .i64 (2 * v1.2)) + 1)))), (40, bD v5)] [(90000, .vec 3 (v1.1.map Af))]) (fun j5 h => ?_) (fun v5 h => ?_)
    ·refine Aa Ac rfl (qm rfl (AX rfl (qm rfl (AZ rfl (qm rfl ?_)))))
     refine AC (t := 23) rfl (fun c6 => ?_) (fun c6 => ?_)
     ·have h := An c6 h
      refine qm rfl (qm rfl (qm rfl (qm rfl (AX rfl ?_))))
      obtain ⟨v7, a7, b7, h⟩ := Ak h
      refine qI AR Ax a7 (Ah b7) rfl (qJ A0 Ax (Ah b7) rfl (qm rfl (qm rfl (qm rfl (AX rfl (AX rfl ?_))))))
      obtain ⟨v8, a8, b8, h⟩ := Ak h
      refine qI AR Ax a8 (Ah b8) rfl (qJ A0 Ax (Ah b8) rfl ?_)
      obtain ⟨v9, a9, h⟩ := bind_some h
      refine D0 (ds0 := [_, _]) (ar := (DW true Af true Af) ((v7, v8))) (.g rfl rfl) rfl rfl ⟨rfl, rfl, tv⟩ rfl rfl rfl (DZ (Ep _ _ _ _ Bp Bp) a9) ?_
      refine AZ rfl (qp rfl (AM (by kernel_rfl) ?_))
      exact Av _ h (sm [] _ _ rfl rfl)
     ·have h := Am c6 h
      refine qn rfl (qn rfl (qn rfl (qn rfl (qn rfl (qn rfl (qn rfl (qn rfl (qn rfl (qn rfl (qn rfl (qn rfl (qn rfl (qn rfl (qn rfl (qn rfl (qp rfl (AM (by kernel_rfl) ?_)))))))))))))))))
      exact Av _ h (sm [] _ _ rfl rfl)
    ·refine Ap rfl (fun c10 => ?_) (fun c10 => ?_)
     ·have h := An c10 h
      refine Aa Ac rfl (qm rfl (AX rfl (qa rfl (Ad ?_))))
      exact Av _ h (sm [] _ _ rfl rfl)
     ·have h := Am c10 h
      refine Aq ?_
      exact Av _ h (sm [] _ _ rfl rfl)
   ·refine Ab (Ab (Aa Ac rfl (qm rfl (qm rfl (qm rfl (qm rfl (AX rfl ?_)))))))
    obtain ⟨v11, a11, b11, h⟩ := Ak h
    refine qI AR Ax a11 (Ah b11) rfl (qJ A0 Ax (Ah b11) rfl (qm rfl (qm rfl (qm rfl (AX rfl ?_)))))
    obtain ⟨v12, a12, b12, h⟩ := Ak h
    refine qI AR Ax a12 (Ah b12) rfl (qJ A0 Ax (Ah b12) rfl ?_)
    obtain ⟨v13, a13, h⟩ := bind_some h
    refine D0 (ds0 := [_, _]) (ar := (DW true Af true Af) ((v11, v12))) (.p rfl) rfl rfl ⟨rfl, rfl, tv⟩ rfl rfl rfl (DZ (Ep _ _ _ _ Bp Bp) a13) ?_
    refine AZ rfl (Cq rfl (AM (by kernel_rfl) ?_))
    refine Ap rfl (fun c14 => ?_) (fun c14 => ?_)
    ·have h := An c14 h
     obtain rfl := sj h
     refine Az ⟨_, (sm [] [] [(90000, .vec 3 (v1.1.map Af))] rfl rfl), ?_⟩
     exact ⟨⟨[], tv, rfl⟩, ⟨rfl, tv⟩, tv⟩
    ·have h := Am c14 h
     refine Aq (Ab (Aa Ac rfl (qm rfl (qm rfl (qm rfl (AX rfl (qm rfl (qm rfl (qm rfl (AX rfl (qm rfl (qm rfl (qm rfl (AX rfl ?_))))))))))))))
     obtain ⟨v15, a15, b15, h⟩ := Ak h
     refine qI AR Ax a15 (Ah b15) rfl (qJ A0 Ax (Ah b15) rfl (qm rfl (qm rfl (qm rfl (AX rfl ?_)))))
     obtain ⟨v16, a16, b16, h⟩ := Ak h
     refine qI AR Ax a16 (Ah b16) rfl (qJ A0 Ax (Ah b16) rfl ?_)
     obtain ⟨v17, a17, b17, h⟩ := Ak h
     refine qI AR Ax a17 (Ah b17) rfl ?_
     refine A8 rfl rfl rfl rfl (Ah b17) rfl Ax rfl (A5 rfl) (A6 Af v1.1 _ v15) ?_
     obtain ⟨v18, a18, b18, h⟩ := Ak h
     refine qI AR Ax a18 (Ah b18) rfl ?_
     refine A8 rfl rfl rfl rfl (Ah b18) rfl Ax rfl (A5 rfl) (A6 Af (v1.1.set (((wI .i64 (p3 + v1.2))).toNat) v15) _ v16) ?_
     refine AM (by kernel_rfl) (Aa Ac rfl (qm rfl (qa rfl (Ad ?_))))
     exact Av _ h (sm [] _ _ rfl rfl)
 ·obtain rfl := sj h
  refine ⟨_, hs.trans (sm [] [] [(90000, .vec 3 (v2.map Af))] rfl rfl), ?_⟩
  exact ⟨⟨[], tv, rfl⟩, ⟨rfl, tv⟩, tv⟩
theorem Gj (N : Nat) (p0 : List Ae) (p1 : Int) (p2 : Int) (p3 : (Ae × Ae) → Option Int) (r : (List Ae)) (h : Gs.heapSort N p0 p1 p2 p3 = some r) : By Tryz.prog 82 [oD (.own 90000), iD p1, iD p2, oD (.clo (BM (DW true Af true Af) Cr p3))] [(.vec 3 (p0.map Af), .vec 3 (r.map Af))] [] (.tup []) := by
 unfold Gs.heapSort at h
 refine Br (n := 60) (rs := []) Tryz.func82 rfl rfl rfl (A5 rfl) (A5 rfl) rfl rfl (A5 rfl) rfl (A5 rfl) fun w0 S0 GL => ME ?_
 refine Al (sm [] [(0, oD (.own 90000)), (1, iD p1), (2, iD p2), (3, oD (.clo (BM (DW true Af true Af) Cr p3)))] [(90000, .vec 3 (p0.map Af))] rfl rfl) (Ab (Aa Ac rfl (qm rfl (qa rfl (Ad (Ab (Aa Ac rfl (qa rfl (Ad (Ab (Aa Ac rfl (qm rfl (qm rfl (Cp rfl (qa rfl (Ad (Ab (Ab (Aa Ac rfl (qm rfl (Cp rfl (L5 rfl (by decide) (qa rfl (Ad ?_))))))))))))))))))))))))
 refine AJ (L := Gs.heapSort_L1 N p1 p2 p3) h (fun v1 => mk [(0, oD (.own 90000)), (3, oD (.clo (BM (DW true Af true Af) Cr p3))), (8, iD p1), (9, iD 0), (10, iD ((wI .i64 (p2 - p1)))), (11, iD v1.2)] [(90000, .vec 3 (v1.1.map Af))]) (fun v2 => mk [(0, oD (.own 90000)), (3, oD (.clo (BM (DW true Af true Af) Cr p3))), (8, iD p1), (9, iD 0), (10, iD ((wI .i64 (p2 - p1))))] [(90000, .vec 3 (v2.map Af))]) (fun _ _ => rfl) (sm [] _ _ rfl rfl) (fun j1 n1 v1 h => ?_) (fun v2 s h hs => ?_)
 ·unfold Gs.heapSort_L1 at h
  refine Ab (Ab (Aa Ac rfl (qm rfl (CW rfl (Ad ?_)))))
  refine Ap rfl (fun c3 => ?_) (fun c3 => ?_)
  ·have h := An c3 h
   refine Aq (Ab (AP (Aa Ac rfl (qm rfl (qm rfl (qm rfl (qm rfl (qm rfl ?_))))))))
   obtain ⟨v4, a4, h⟩ := bind_some h
   refine CP (ds0 := [_, _, _, _, _]) [90000] [] [true] (El N v1.1 v1.2 ((wI .i64 (p2 - p1))) p1 p3 v4 a4) (.p rfl) T5 rfl ⟨rfl, rfl, rfl, rfl, rfl, tv⟩ rfl rfl (by decide) ⟨rfl, tv⟩ rfl (Bf rfl) tv ⟨(fun h => by cases h), tv⟩ rfl rfl rfl ?_
   refine Ad (Aa Ac rfl (qm rfl (Cp rfl (qa rfl (Ad ?_)))))
   exact Av _ h (sm [] _ _ rfl rfl)
  ·have h := Am c3 h
   refine AY ?_
   exact Av _ h (sm [] _ _ rfl rfl)
 ·refine Al hs (Ab (Aa Ac rfl (qm rfl (Cp rfl (qa rfl (Ad ?_))))))
  refine AJ (L := Gs.heapSort_L5 N p1 p3) h (fun v5 => mk [(0, oD (.own 90000)), (3, oD (.clo (BM (DW true Af true Af) Cr p3))), (8, iD p1), (9, iD 0), (12, iD v5.2)] [(90000, .vec 3 (v5.1.map Af))]) (fun v6 => mk [] [(90000, .vec 3 (v6.map Af))]) (fun _ _ => rfl) (sm [] _ _ rfl rfl) (fun j5 n5 v5 h => ?_) (fun v6 s h hs => ?_)
  ·unfold Gs.heapSort_L5 at h
   refine Ab (Ab (Aa Ac rfl (qm rfl (CW rfl (Ad ?_)))))
   refine Ap rfl (fun c7 => ?_) (fun c7 => ?_)
   ·have h := An c7 h
    refine Aq (Ab (AP (Ab (Aa Ac rfl (qm rfl (qm rfl (qm rfl (qm rfl (qm rfl (AX rfl (qm rfl (qm rfl (qm rfl (AX rfl ?_))))))))))))))
    obtain ⟨v8, a8, b8, h⟩ := Ak h
    refine qI AR Ax a8 (Ah b8) rfl (qJ A0 Ax (Ah b8) rfl (qm rfl (qm rfl ?_)))
    obtain ⟨v9, a9, b9, h⟩ := Ak h
    refine qI AR Ax a9 (Ah b9) rfl (qJ A0 Ax (Ah b9) rfl ?_)
    obtain ⟨v10, a10, b10, h⟩ := Ak h
    refine qI AR Ax a10 (Ah b10) rfl ?_
    refine A8 rfl rfl rfl rfl (Ah b10) rfl Ax rfl (A5 rfl) (A6 Af v5.1 _ v8) ?_
    obtain ⟨v11, a11, b11, h⟩ := Ak h
    refine qI AR Ax a11 (Ah b11) rfl ?_
    refine A8 rfl rfl rfl rfl (Ah b11) rfl Ax rfl (A5 rfl) (A6 Af (v5.1.set ((p1).toNat) v8) _ v9) ?_
    refine AM (by kernel_rfl) (Aa Ac rfl (qm rfl (qm rfl (qm rfl (qm rfl (qm rfl ?_))))))
    obtain ⟨v12, a12, h⟩ := bind_some h
    refine CP (ds0 := [_, _, _, _, _]) [90000] [] [true] (El N ((v5.1.set ((p1).toNat) v8).set (((wI .i64 (p1 + v5.2))).toNat) v9) 0 v5.2 p1 p3 v12 a12) (.p rfl) T5 rfl ⟨rfl, rfl, rfl, rfl, rfl, tv⟩ rfl rfl (by decide) ⟨rfl, tv⟩ rfl (Bf rfl) tv ⟨(fun h => by cases h), tv⟩ rfl rfl rfl ?_
    refine Ad (Aa Ac rfl (qm rfl (Cp rfl (qa rfl (Ad ?_)))))
    exact Av _ h (sm [] _ _ rfl rfl)
   ·have h := Am c7 h
    refine AY ?_
    exact Av _ h (sm [] _ _ rfl rfl)
  ·obtain rfl := sj h
   refine ⟨_, hs.trans (sm [] [] [(90000, .vec 3 (v6.map Af))] rfl rfl), ?_⟩
   exact ⟨⟨[], tv, rfl⟩, ⟨rfl, tv⟩, tv⟩
theorem Ib (N : Nat) (p0 : Int) (r : Int) (h : C1 N p0 = some r) : AB Tryz.prog 106 [iD p0] [] (pD (.val (.int .u64 r))) := by
 unfold C1 at h
 refine Au (n := 7) (rs := [.tmp 2]) Tryz.func106 rfl rfl rfl (A5 rfl) (A5 rfl) rfl fun w0 S0 => ?_
 refine Ab (Aa Ac rfl (qa rfl (Ad (Ab (Aa Ac rfl (qm rfl (FO UI M6 rfl ?_)))))))
 obtain ⟨v1, a1, h⟩ := bind_some h
 refine AG [] (ID N ((wI .u64 p0)) v1 a1) Vs rfl ?_
 obtain ⟨c2, h⟩ := AL h
 refine G6 rfl c2 (qa rfl (Ad ?_))
 obtain rfl := sj h
 refine Al (sm [] [(2, pD (.val (.int .u64 ((B3 .u64 1 v1)))))] [] rfl rfl) (Az ?_)
 exact ⟨⟨[_], ⟨.tmp _ _ rfl, tv⟩, rfl⟩, tv⟩
theorem Iv (N : Nat) (p0 : Int) (r : Int × Int) (h : C9 N p0 = some r) : By Tryz.prog 107 [oD (.ptr 90000 0)] [(.box [.pure (.val (.int .u64 p0))], .box [.pure (.val (.int .u64 r.2))])] [] (pD (.val (.int .u64 r.1))) := by
 unfold C9 at h
 refine Br (n := 33) (rs := [.tmp 2]) Tryz.func107 rfl rfl rfl (A5 rfl) (A5 rfl) rfl rfl (A5 rfl) rfl (A5 rfl) fun w0 S0 GL => ?_
 refine Al (sm [] [(0, oD (.ptr 90000 0))] [(90000, .box [.pure (.val (.int .u64 p0))])] rfl rfl) (Ab (Aa Ac rfl (qa rfl (Ad (Ab (Aa Ac rfl (qm rfl (MH rfl (ql LN rfl (qm rfl (MH rfl (ql LN rfl (G6 rfl (by decide) (Re rfl (MH rfl (qs QB rfl (AM (by kernel_rfl) (Ab (Aa Ac rfl (qm rfl (MH rfl (ql LN rfl (qm rfl (MH rfl (ql LN rfl (Gb rfl (by decide) (Re rfl (MH rfl (qs QB rfl (AM (by kernel_rfl) (Ab (Aa Ac rfl (qm rfl (MH rfl (ql LN rfl (qm rfl (MH rfl (ql LN rfl (G6 rfl (by decide) ?_)))))))))))))))))))))))))))))))))))))))
 refine Re rfl (MH rfl (qs QB rfl (AM (by kernel_rfl) (Ab (Aa Ac rfl (qm rfl (MH rfl (ql LN rfl (qa rfl (Ad ?_))))))))))
 obtain rfl := sj h
 refine Al (sm [] [(2, pD (.val (.int .u64 ((FD .u64 ((FD .u64 ((FD .u64 p0 ((B3 .u64 p0 13)))) ((Dx .u64 ((FD .u64 p0 ((B3 .u64 p0 13)))) 7)))) ((B3 .u64 ((FD .u64 ((FD .u64 p0 ((B3 .u64 p0 13)))) ((Dx .u64 ((FD .u64 p0 ((B3 .u64 p0 13)))) 7)))) 17)))))))] [(90000, .box [.pure (.val (.int .u64 ((FD .u64 ((FD .u64 ((FD .u64 p0 ((B3 .u64 p0 13)))) ((Dx .u64 ((FD .u64 p0 ((B3 .u64 p0 13)))) 7)))) ((B3 .u64 ((FD .u64 ((FD .u64 p0 ((B3 .u64 p0 13)))) ((Dx .u64 ((FD .u64 p0 ((B3 .u64 p0 13)))) 7)))) 17))))))])] rfl rfl) (Az ?_)
 exact ⟨⟨[_], ⟨.tmp _ _ rfl, tv⟩, rfl⟩, ⟨rfl, tv⟩, tv⟩
theorem Fg (N : Nat) (p0 : List Ae) (p1 : Int) (p2 : Int) (p3 : (Ae × Ae) → Option Int) (r : (List Ae)) (h : Gs.breakPatterns N p0 p1 p2 p3 = some r) : By Tryz.prog 83 [oD (.own 90000), iD p1, iD p2, oD (.clo (BM (DW true Af true Af) Cr p3))] [(.vec 3 (p0.map Af), .vec 3 (r.map Af))] [] (.tup []) := by
 unfold Gs.breakPatterns at h
 refine Br (n := 67) (rs := []) Tryz.func83 rfl rfl rfl (A5 rfl) (A5 rfl) rfl rfl (A5 rfl) rfl (A5 rfl) fun w0 S0 GL => ME ?_
 refine Al (sm [] [(0, oD (.own 90000)), (1, iD p1), (2, iD p2), (3, oD (.clo (BM (DW true Af true Af) Cr p3)))] [(90000, .vec 3 (p0.map Af))] rfl rfl) (Ab (Aa Ac rfl (qm rfl (qm rfl (Cp rfl (qa rfl (Ad (Ab (Aa Ac rfl (qm rfl (CW rfl (Ad ?_))))))))))))
 refine Ap rfl (fun c1 => ?_) (fun c1 => ?_)
 ·have h := An c1 h
  refine Ab (Aa Ac rfl (qm rfl (FO UI VC rfl (qz Wd rfl (qs QB rfl (Ad (Ab (Aa Ac rfl (qm rfl ?_)))))))))
  obtain ⟨v2, a2, h⟩ := bind_some h
  refine AG [] (Ib N ((wI .i64 (p2 - p1))) v2 a2) VF rfl (qa rfl (Ad (Ab (Aa Ac rfl (qm rfl (qm rfl (L5 rfl (by decide) (HA rfl (AX rfl (Cp rfl (qa rfl (Ad ?_))))))))))))
  refine AJ (L := Gs.breakPatterns_L3 N p1 p2 v2) h (fun v3 => mk [(0, oD (.own 90000)), (1, iD p1), (8, iD ((wI .i64 (p2 - p1)))), (9, oD (.ptr 9 0)), (10, pD (.val (.int .u64 v2))), (11, iD v3.2.2)] [(9, .box [.pure (.val (.int .u64 v3.2.1))]), (90000, .vec 3 (v3.1.map Af))]) (fun v4 => mk [] [(90000, .vec 3 (v4.map Af))]) (fun _ _ => rfl) (sm [] _ _ rfl rfl) (fun j3 n3 v3 h => ?_) (fun v4 s h hs => ?_)
  ·unfold Gs.breakPatterns_L3 at h
   refine Ab (Ab (Aa Ac rfl (qm rfl (qm rfl (qm rfl (L5 rfl (by decide) (HA rfl (AX rfl (AX rfl (JH rfl (Ad ?_)))))))))))
   refine Ap rfl (fun c5 => ?_) (fun c5 => ?_)
   ·have h := An c5 h
    refine Aq (Ab (AP (Ab (Aa Ac rfl ?_))))
    obtain ⟨v6, a6, h⟩ := bind_some h
    refine CP (ds0 := [_]) [9] [] [true] (Iv N v3.2.1 v6 a6) (.p rfl) Wh rfl ⟨rfl, tv⟩ rfl rfl (by decide) ⟨rfl, tv⟩ rfl (Bf rfl) tv ⟨(fun h => by cases h), tv⟩ rfl rfl rfl ?_
    refine qm rfl (Cp rfl (Jx rfl (FO OW QU rfl (qa rfl (Ad ?_)))))
    refine AQ h (fun v7 => mk [(0, oD (.own 90000)), (1, iD p1), (8, iD ((wI .i64 (p2 - p1)))), (9, oD (.ptr 9 0)), (10, pD (.val (.int .u64 v2))), (11, iD v3.2.2), (12, iD v7)] [(9, .box [.pure (.val (.int .u64 v6.2))]), (90000, .vec 3 (v3.1.map Af))]) (fun j7 h => ?_) (fun v7 h => ?_)
    ·refine Ab (Aa Ac rfl (qm rfl (qm rfl (CW rfl (Ad ?_)))))
     refine Ap rfl (fun c8 => ?_) (fun c8 => ?_)
     ·have h := An c8 h
      refine Aa Ac rfl (qm rfl (qm rfl (Cp rfl (qa rfl (Ad ?_)))))
      exact Av _ h (sm [] _ _ rfl rfl)
     ·have h := Am c8 h
      refine Aq ?_
      exact Av _ h (sm [] _ _ rfl rfl)
    ·refine Aa Ac rfl (qm rfl (qm rfl (qm rfl (qm rfl (qm rfl (AX rfl (qm rfl (qm rfl (qm rfl (AX rfl ?_))))))))))
     obtain ⟨v9, a9, b9, h⟩ := Ak h
     refine qI AR Ax a9 (Ah b9) rfl (qJ A0 Ax (Ah b9) rfl (qm rfl (qm rfl ?_)))
     obtain ⟨v10, a10, b10, h⟩ := Ak h
     refine qI AR Ax a10 (Ah b10) rfl (qJ A0 Ax (Ah b10) rfl ?_)
     obtain ⟨v11, a11, b11, h⟩ := Ak h
     refine qI AR Ax a11 (Ah b11) rfl ?_
     refine A8 rfl rfl rfl rfl (Ah b11) rfl Ax rfl (A5 rfl) (A6 Af v3.1 _ v9) ?_
     obtain ⟨v12, a12, b12, h⟩ := Ak h
     refine qI AR Ax a12 (Ah b12) rfl ?_
     refine A8 rfl rfl rfl rfl (Ah b12) rfl Ax rfl (A5 rfl) (A6 Af (v3.1.set ((v3.2.2).toNat) v9) _ v10) ?_
     refine AM (by kernel_rfl) (Aa Ac rfl (qm rfl (AX rfl (qa rfl (Ad ?_)))))
     exact Av _ h (sm [] _ _ rfl rfl)
   ·have h := Am c5 h
    refine AY ?_
    exact Av _ h (sm [] _ _ rfl rfl)
  ·obtain rfl := sj h
   refine ⟨_, hs.trans (sm [] [] [(90000, .vec 3 (v4.map Af))] rfl rfl), ?_⟩
   exact ⟨⟨[], tv, rfl⟩, ⟨rfl, tv⟩, tv⟩
 ·have h := Am c1 h
  refine Aq ?_
  obtain rfl := sj h
  refine ⟨_, (sm [] [] [(90000, .vec 3 (p0.map Af))] rfl rfl), ?_⟩
  exact ⟨⟨[], tv, rfl⟩, ⟨rfl, tv⟩, tv⟩
theorem Dy (N : Nat) (p0 : List Ae) (p1 : Int) (p2 : Int) (p3 : Int) (p4 : (Ae × Ae) → Option Int) (r : Int × Int × Int) (h : Gs.order2 N p0 p1 p2 p3 p4 = some r) : By Tryz.prog 119 [pD (.sl (p0.map Af)), iD p1, iD p2, oD (.ptr 90000 0), oD (.clo (BM (DW true Af true Af) Cr p4))] [(.box [iC p3], .box [iC r.2.2])] [] (.tup [.one (iC r.1), .one (iC r.2.1)]) := by
 unfold Gs.order2 at h
 refine Br (n := 32) (rs := [.tmp 10, .tmp 11]) Tryz.func119 rfl rfl rfl (A5 rfl) (A5 rfl) rfl rfl (A5 rfl) rfl (A5 rfl) fun w0 S0 GL => ?_
 refine Al (sm [] [(0, pD (.sl (p0.map Af))), (1, iD p1), (2, iD p2), (3, oD (.ptr 90000 0)), (4, oD (.clo (BM (DW true Af true Af) Cr p4)))] [(90000, .box [iC p3])] rfl rfl) (Ab (Aa Ac rfl (qa rfl (qa rfl (Ad (Ab (Ab (Aa Ac rfl (qm rfl (qm rfl (qm rfl ?_)))))))))))
 obtain ⟨v1, a1, b1, h⟩ := Ak h
 refine qi AR Ax a1 (Ah b1) rfl (qK A0 Ax rfl (qm rfl (qm rfl ?_)))
 obtain ⟨v2, a2, b2, h⟩ := Ak h
 refine qi AR Ax a2 (Ah b2) rfl (qK A0 Ax rfl ?_)
 obtain ⟨v3, a3, h⟩ := bind_some h
 refine D0 (ds0 := [_, _]) (ar := (DW true Af true Af) ((v1, v2))) (.p rfl) rfl rfl ⟨rfl, rfl, tv⟩ rfl rfl rfl (DZ (Ep _ _ _ _ Bp Bp) a3) ?_
 refine AZ rfl (AM (by kernel_rfl) ?_)
 refine Ap rfl (fun c4 => ?_) (fun c4 => ?_)
 ·have h := An c4 h
  refine Ab (Aa Ac rfl (qm rfl (MH rfl (ql Cc rfl (AX rfl (MH rfl (qs Df rfl (Ad (Ab (Aa Ac rfl (qm rfl (qm rfl (qa rfl (qa rfl (Ad ?_)))))))))))))))
  obtain rfl := sj h
  refine Al (sm [] [(10, iD p2), (11, iD p1)] [(90000, .box [iC ((wI .i64 (p3 + 1)))])] rfl rfl) (Az ?_)
  exact ⟨⟨[_, _], ⟨.tmp _ _ rfl, ⟨.tmp _ _ rfl, tv⟩⟩, rfl⟩, ⟨rfl, tv⟩, tv⟩
 ·have h := Am c4 h
  refine Aq (Ab (Aa Ac rfl (qm rfl (qm rfl (qa rfl (qa rfl (Ad ?_)))))))
  obtain rfl := sj h
  refine Al (sm [] [(10, iD p1), (11, iD p2)] [(90000, .box [iC p3])] rfl rfl) (Az ?_)
  exact ⟨⟨[_, _], ⟨.tmp _ _ rfl, ⟨.tmp _ _ rfl, tv⟩⟩, rfl⟩, ⟨rfl, tv⟩, tv⟩
theorem EB (N : Nat) (p0 : List Ae) (p1 : Int) (p2 : Int) (p3 : Int) (p4 : Int) (p5 : (Ae × Ae) → Option Int) (r : Int × Int) (h : Gs.median N p0 p1 p2 p3 p4 p5 = some r) : By Tryz.prog 109 [pD (.sl (p0.map Af)), iD p1, iD p2, iD p3, oD (.ptr 90000 0), oD (.clo (BM (DW true Af true Af) Cr p5))] [(.box [iC p4], .box [iC r.2])] [] (iD r.1) := by
 unfold Gs.median at h
 refine Br (n := 41) (rs := [.tmp 12]) Tryz.func109 rfl rfl rfl (A5 rfl) (A5 rfl) rfl rfl (A5 rfl) rfl (A5 rfl) fun w0 S0 GL => ?_
 refine Al (sm [] [(0, pD (.sl (p0.map Af))), (1, iD p1), (2, iD p2), (3, iD p3), (4, oD (.ptr 90000 0)), (5, oD (.clo (BM (DW true Af true Af) Cr p5)))] [(90000, .box [iC p4])] rfl rfl) (Ab (Aa Ac rfl (qa rfl (Ad (Ab (Aa Ac rfl (qm rfl (qm rfl (qm rfl (qm rfl (qm rfl ?_)))))))))))
 obtain ⟨v1, a1, h⟩ := bind_some h
 refine CP (ds0 := [_, _, _, _, _]) [90000] [] [true] (Dy N p0 p1 p2 p4 p5 v1 a1) (.p rfl) R6 rfl ⟨rfl, rfl, rfl, rfl, rfl, tv⟩ rfl rfl (by decide) ⟨rfl, tv⟩ rfl (Bf rfl) tv ⟨(fun h => by cases h), tv⟩ rfl rfl rfl ?_
 refine qm rfl (qx rfl (qx rfl (qa rfl (qa rfl (Ad (Ab (Aa Ac rfl (qm rfl (qm rfl (qm rfl (qm rfl (qm rfl ?_))))))))))))
 obtain ⟨v2, a2, h⟩ := bind_some h
 refine CP (ds0 := [_, _, _, _, _]) [90000] [] [true] (Dy N p0 v1.2.1 p3 v1.2.2 p5 v2 a2) (.p rfl) R6 rfl ⟨rfl, rfl, rfl, rfl, rfl, tv⟩ rfl rfl (by decide) ⟨rfl, tv⟩ rfl (Bf rfl) tv ⟨(fun h => by cases h), tv⟩ rfl rfl rfl ?_
 refine qm rfl (qx rfl (qx rfl (qa rfl (qa rfl (Ad (Ab (Aa Ac rfl (qm rfl (qm rfl (qm rfl (qm rfl (qm rfl ?_))))))))))))
 obtain ⟨v3, a3, h⟩ := bind_some h
 refine CP (ds0 := [_, _, _, _, _]) [90000] [] [true] (Dy N p0 v1.1 v2.1 v2.2.2 p5 v3 a3) (.p rfl) R6 rfl ⟨rfl, rfl, rfl, rfl, rfl, tv⟩ rfl rfl (by decide) ⟨rfl, tv⟩ rfl (Bf rfl) tv ⟨(fun h => by cases h), tv⟩ rfl rfl rfl ?_
 refine qm rfl (qx rfl (qx rfl (qa rfl (qa rfl (Ad (Ab (Aa Ac rfl (qm rfl (qa rfl (Ad ?_))))))))))
 obtain rfl := sj h
 refine Al (sm [] [(12, iD v3.2.1)] [(90000, .box [iC v3.2.2])] rfl rfl) (Az ?_)
 exact ⟨⟨[_], ⟨.tmp _ _ rfl, tv⟩, rfl⟩, ⟨rfl, tv⟩, tv⟩
theorem CE (N : Nat) (p0 : List Ae) (p1 : Int) (p2 : Int) (p3 : (Ae × Ae) → Option Int) (r : Int × Int) (h : Gs.medianAdjacent N p0 p1 p2 p3 = some r) : By Tryz.prog 108 [pD (.sl (p0.map Af)), iD p1, oD (.ptr 90000 0), oD (.clo (BM (DW true Af true Af) Cr p3))] [(.box [iC p2], .box [iC r.2])] [] (iD r.1) := by
 unfold Gs.medianAdjacent at h
 refine Br (n := 18) (rs := [.tmp 8]) Tryz.func108 rfl rfl rfl (A5 rfl) (A5 rfl) rfl rfl (A5 rfl) rfl (A5 rfl) fun w0 S0 GL => ?_
 refine Al (sm [] [(0, pD (.sl (p0.map Af))), (1, iD p1), (2, oD (.ptr 90000 0)), (3, oD (.clo (BM (DW true Af true Af) Cr p3)))] [(90000, .box [iC p2])] rfl rfl) (Ab (Aa Ac rfl (qa rfl (Ad (Ab (Aa Ac rfl (qm rfl (qm rfl (Cp rfl (qm rfl (qm rfl (AX rfl (qm rfl (qm rfl ?_))))))))))))))
 obtain ⟨v1, a1, h⟩ := bind_some h
 refine CP (ds0 := [_, _, _, _, _, _]) [90000] [] [true] (EB N p0 ((wI .i64 (p1 - 1))) p1 ((wI .i64 (p1 + 1))) p2 p3 v1 a1) (.p rfl) Us rfl ⟨rfl, rfl, rfl, rfl, rfl, rfl, tv⟩ rfl rfl (by decide) ⟨rfl, tv⟩ rfl (Bf rfl) tv ⟨(fun h => by cases h), tv⟩ rfl rfl rfl ?_
 refine qa rfl (Ad ?_)
 obtain rfl := sj h
 refine Al (sm [] [(8, iD v1.1)] [(90000, .box [iC v1.2])] rfl rfl) (Az ?_)
 exact ⟨⟨[_], ⟨.tmp _ _ rfl, tv⟩, rfl⟩, ⟨rfl, tv⟩, tv⟩
theorem FA (N : Nat) (p0 : List Ae) (p1 : Int) (p2 : Int) (p3 : (Ae × Ae) → Option Int) (r : Int × Int) (h : Gs.choosePivot N p0 p1 p2 p3 = some r) : AB Tryz.prog 84 [pD (.sl (p0.map Af)), iD p1, iD p2, oD (.clo (BM (DW true Af true Af) Cr p3))] [] (.tup [.one (iC r.1), .one (iC r.2)]) := by
 unfold Gs.choosePivot at h
 refine Au (n := 63) (rs := [.tmp 8, .tmp 9]) Tryz.func84 rfl rfl rfl (A5 rfl) (A5 rfl) rfl fun w0 S0 => ?_
 refine Ab (Aa Ac rfl (qa rfl (qa rfl (Ad (Ab (Aa Ac rfl (qm rfl (qm rfl (Cp rfl (qa rfl (Ad (Ab (Aa Ac rfl (qz KT rfl (Ad (Ab (Aa Ac rfl (qm rfl (qm rfl (L5 rfl (by decide) (HA rfl (AX rfl (qa rfl (Ad (Ab (Aa Ac rfl (qm rfl (qm rfl (L5 rfl (by decide) (HA rfl (AX rfl (qa rfl (Ad (Ab (Aa Ac rfl (qm rfl (qm rfl (L5 rfl (by decide) (HA rfl ?_)))))))))))))))))))))))))))))))))))))))
 refine AX rfl (qa rfl (Ad ?_))
 refine AQ h (fun v1 => mk [(11, oD (.ptr 11 0)), (13, iD v1.2)] [(11, .box [iC v1.1])]) (fun j1 h => ?_) (fun v1 h => ?_)
 ·refine Ab (Aa Ac rfl (qm rfl (CW rfl (Ad ?_))))
  refine Ap rfl (fun c2 => ?_) (fun c2 => ?_)
  ·have h := An c2 h
   refine AQ h (fun v3 => mk [(0, pD (.sl (p0.map Af))), (3, oD (.clo (BM (DW true Af true Af) Cr p3))), (11, oD (.ptr 11 0)), (12, iD v3.2.1), (13, iD v3.2.2.1), (14, iD v3.2.2.2)] [(11, .box [iC v3.1])]) (fun j3 h => ?_) (fun v3 h => ?_)
   ·refine Ab (Aa Ac rfl (qm rfl (CW rfl (Ad ?_))))
    refine Ap rfl (fun c4 => ?_) (fun c4 => ?_)
    ·have h := An c4 h
     refine Ab (Aa Ac rfl (qm rfl (qm rfl (qm rfl ?_))))
     obtain ⟨v5, a5, h⟩ := bind_some h
     refine CP (ds0 := [_, _, _, _]) [11] [] [true] (CE N p0 ((wI .i64 (p1 + (wI .i64 ((wI .i64 (Int.tdiv ((wI .i64 (p2 - p1))) 4)) * 1))))) 0 p3 v5 a5) (.p rfl) Sx rfl ⟨rfl, rfl, rfl, rfl, tv⟩ rfl rfl (by decide) ⟨rfl, tv⟩ rfl (Bf rfl) tv ⟨(fun h => by cases h), tv⟩ rfl rfl rfl ?_
     refine qa rfl (Ad (Ab (Aa Ac rfl (qm rfl (qm rfl (qm rfl ?_))))))
     obtain ⟨v6, a6, h⟩ := bind_some h
     refine CP (ds0 := [_, _, _, _]) [11] [] [true] (CE N p0 ((wI .i64 (p1 + (wI .i64 ((wI .i64 (Int.tdiv ((wI .i64 (p2 - p1))) 4)) * 2))))) v5.2 p3 v6 a6) (.p rfl) Sx rfl ⟨rfl, rfl, rfl, rfl, tv⟩ rfl rfl (by decide) ⟨rfl, tv⟩ rfl (Bf rfl) tv ⟨(fun h => by cases h), tv⟩ rfl rfl rfl ?_
     refine qa rfl (Ad (Aa Ac rfl (qm rfl (qm rfl (qm rfl ?_)))))
     obtain ⟨v7, a7, h⟩ := bind_some h
     refine CP (ds0 := [_, _, _, _]) [11] [] [true] (CE N p0 ((wI .i64 (p1 + (wI .i64 ((wI .i64 (Int.tdiv ((wI .i64 (p2 - p1))) 4)) * 3))))) v6.2 p3 v7 a7) (.p rfl) Sx rfl ⟨rfl, rfl, rfl, rfl, tv⟩ rfl rfl (by decide) ⟨rfl, tv⟩ rfl (Bf rfl) tv ⟨(fun h => by cases h), tv⟩ rfl rfl rfl ?_
     refine qa rfl (Ad ?_)
     exact Av _ h (sm [] _ _ rfl rfl)
    ·have h := Am c4 h
     refine Aq ?_
     exact Av _ h (sm [] _ _ rfl rfl)
   ·refine Aa Ac rfl (qm rfl (qm rfl (qm rfl (qm rfl (qm rfl ?_)))))
    obtain ⟨v8, a8, h⟩ := bind_some h
    refine CP (ds0 := [_, _, _, _, _, _]) [11] [] [true] (EB N p0 v3.2.1 v3.2.2.1 v3.2.2.2 v3.1 p3 v8 a8) (.p rfl) Us rfl ⟨rfl, rfl, rfl, rfl, rfl, rfl, tv⟩ rfl rfl (by decide) ⟨rfl, tv⟩ rfl (Bf rfl) tv ⟨(fun h => by cases h), tv⟩ rfl rfl rfl ?_
    refine qa rfl (Ad ?_)
    exact Av _ h (sm [] _ _ rfl rfl)
  ·have h := Am c2 h
   refine Aq ?_
   exact Av _ h (sm [] _ _ rfl rfl)
 ·refine Ab (Aa Ac rfl (ql Cc rfl (Ad (AP (Ab (Aa Ac rfl (BD rfl (qa rfl (Ad ?_)))))))))
  refine Ap rfl (fun c9 => ?_) (fun c9 => ?_)
  ·have h := An c9 h
   refine Ab (Aa Ac rfl (qm rfl (qa rfl (qa rfl (Ad ?_)))))
   obtain rfl := sj h
   refine Al (sm [] [(8, iD v1.2), (9, iD 1)] [] rfl rfl) (Az ?_)
   exact ⟨⟨[_, _], ⟨.tmp _ _ rfl, ⟨.tmp _ _ rfl, tv⟩⟩, rfl⟩, tv⟩
  ·have h := Am c9 h
   refine Ab (Aa Ac rfl (BD rfl (qa rfl (Ad ?_))))
   refine Ap rfl (fun c10 => ?_) (fun c10 => ?_)
   ·have h := An c10 h
    refine Ab (Aa Ac rfl (qm rfl (qa rfl (qa rfl (Ad ?_)))))
    obtain rfl := sj h
    refine Al (sm [] [(8, iD v1.2), (9, iD 2)] [] rfl rfl) (Az ?_)
    exact ⟨⟨[_, _], ⟨.tmp _ _ rfl, ⟨.tmp _ _ rfl, tv⟩⟩, rfl⟩, tv⟩
   ·have h := Am c10 h
    refine Ab (Aa Ac rfl (qm rfl (qa rfl (qa rfl (Ad ?_)))))
    obtain rfl := sj h
    refine Al (sm [] [(8, iD v1.2), (9, iD 0)] [] rfl rfl) (Az ?_)
    exact ⟨⟨[_, _], ⟨.tmp _ _ rfl, ⟨.tmp _ _ rfl, tv⟩⟩, rfl⟩, tv⟩
theorem Fp (N : Nat) (p0 : List Ae) (p1 : Int) (p2 : Int) (p3 : (Ae × Ae) → Option Int) (r : (List Ae)) (h : Gs.reverseRange N p0 p1 p2 p3 = some r) : By Tryz.prog 85 [oD (.own 90000), iD p1, iD p2, oD (.clo (BM (DW true Af true Af) Cr p3))] [(.vec 3 (p0.map Af), .vec 3 (r.map Af))] [] (.tup []) := by
 unfold Gs.reverseRange at h
 refine Br (n := 34) (rs := []) Tryz.func85 rfl rfl rfl (A5 rfl) (A5 rfl) rfl rfl (A5 rfl) rfl (A5 rfl) fun w0 S0 GL => ME ?_
 refine Al (sm [] [(0, oD (.own 90000)), (1, iD p1), (2, iD p2), (3, oD (.clo (BM (DW true Af true Af) Cr p3)))] [(90000, .vec 3 (p0.map Af))] rfl rfl) (Ab (Aa Ac rfl (qm rfl (qa rfl (Ad (Ab (Aa Ac rfl (qm rfl (Cp rfl (qa rfl (Ad ?_)))))))))))
 refine AJ (L := Gs.reverseRange_L1 N) h (fun v1 => mk [(0, oD (.own 90000)), (8, iD v1.2.1), (9, iD v1.2.2)] [(90000, .vec 3 (v1.1.map Af))]) (fun v2 => mk [] [(90000, .vec 3 (v2.map Af))]) (fun _ _ => rfl) (sm [] _ _ rfl rfl) (fun j1 n1 v1 h => ?_) (fun v2 s h hs => ?_)
 ·unfold Gs.reverseRange_L1 at h
  refine Ab (Ab (Aa Ac rfl (qm rfl (qm rfl (AZ rfl (Ad ?_))))))
  refine Ap rfl (fun c3 => ?_) (fun c3 => ?_)
  ·have h := An c3 h
   refine Aq (AP (Ab (Aa Ac rfl (qm rfl (qm rfl (qm rfl (qm rfl (qm rfl (qm rfl ?_)))))))))
   obtain ⟨v4, a4, b4, h⟩ := Ak h
   refine qI AR Ax a4 (Ah b4) rfl (qJ A0 Ax (Ah b4) rfl (qm rfl (qm rfl ?_)))
   obtain ⟨v5, a5, b5, h⟩ := Ak h
   refine qI AR Ax a5 (Ah b5) rfl (qJ A0 Ax (Ah b5) rfl ?_)
   obtain ⟨v6, a6, b6, h⟩ := Ak h
   refine qI AR Ax a6 (Ah b6) rfl ?_
   refine A8 rfl rfl rfl rfl (Ah b6) rfl Ax rfl (A5 rfl) (A6 Af v1.1 _ v4) ?_
   obtain ⟨v7, a7, b7, h⟩ := Ak h
   refine qI AR Ax a7 (Ah b7) rfl ?_
   refine A8 rfl rfl rfl rfl (Ah b7) rfl Ax rfl (A5 rfl) (A6 Af (v1.1.set ((v1.2.1).toNat) v4) _ v5) ?_
   refine AM (by kernel_rfl) (Ab (Aa Ac rfl (qm rfl (AX rfl (qa rfl (Ad (Aa Ac rfl (qm rfl (Cp rfl (qa rfl (Ad ?_)))))))))))
   exact Av _ h (sm [] _ _ rfl rfl)
  ·have h := Am c3 h
   refine AY ?_
   exact Av _ h (sm [] _ _ rfl rfl)
 ·obtain rfl := sj h
  refine ⟨_, hs.trans (sm [] [] [(90000, .vec 3 (v2.map Af))] rfl rfl), ?_⟩
  exact ⟨⟨[], tv, rfl⟩, ⟨rfl, tv⟩, tv⟩
theorem Eu (N : Nat) (p0 : List Ae) (p1 : Int) (p2 : Int) (p3 : (Ae × Ae) → Option Int) (r : Bool × (List Ae)) (h : Gs.partialInsertionSort N p0 p1 p2 p3 = some r) : By Tryz.prog 86 [oD (.own 90000), iD p1, iD p2, oD (.clo (BM (DW true Af true Af) Cr p3))] [(.vec 3 (p0.map Af), .vec 3 (r.2.map Af))] [] (bD r.1) := by
 unfold Gs.partialInsertionSort at h
 refine Br (n := 141) (rs := [.tmp 8]) Tryz.func86 rfl rfl rfl (A5 rfl) (A5 rfl) rfl rfl (A5 rfl) rfl (A5 rfl) fun w0 S0 GL => ?_
 refine Al (sm [] [(0, oD (.own 90000)), (1, iD p1), (2, iD p2), (3, oD (.clo (BM (DW true Af true Af) Cr p3)))] [(90000, .vec 3 (p0.map Af))] rfl rfl) (Ab (Aa Ac rfl (qa rfl (Ad (Ab (Aa Ac rfl (qm rfl (AX rfl (qa rfl (Ad (Ab (Ab (Aa Ac rfl (qa rfl (Ad ?_)))))))))))))))
 refine AJ (L := Gs.partialInsertionSort_L1 N p1 p2 p3) h (fun v1 => mk [(0, oD (.own 90000)), (1, iD p1), (2, iD p2), (3, oD (.clo (BM (DW true Af true Af) Cr p3))), (9, iD v1.2.1), (10, iD v1.2.2)] [(90000, .vec 3 (v1.1.map Af))]) (fun v2 => mk [] [(90000, .vec 3 (v2.map Af))]) (fun _ _ => rfl) (sm [] _ _ rfl rfl) (fun j1 n1 v1 h => ?_) (fun v2 s h hs => ?_)
 ·unfold Gs.partialInsertionSort_L1 at h
  refine Ab (Ab (Aa Ac rfl (qm rfl (AZ rfl (Ad ?_)))))
  refine Ap rfl (fun c3 => ?_) (fun c3 => ?_)
  ·have h := An c3 h
   refine Aq ?_
   refine AQ h (fun v4 => mk [(0, oD (.own 90000)), (1, iD p1), (2, iD p2), (3, oD (.clo (BM (DW true Af true Af) Cr p3))), (9, iD v4.2), (10, iD v1.2.2)] [(90000, .vec 3 (v4.1.map Af))]) (fun j4 h => ?_) (fun v4 h => ?_)
   ·refine AP (Ab ?_)
    refine AJ (L := Gs.partialInsertionSort_L5 N p2 p3 v1) h (fun v5 => mk [(0, oD (.own 90000)), (1, iD p1), (2, iD p2), (3, oD (.clo (BM (DW true Af true Af) Cr p3))), (9, iD v5), (10, iD v1.2.2)] [(90000, .vec 3 (v1.1.map Af))]) (fun v6 => mk [(0, oD (.own 90000)), (1, iD p1), (2, iD p2), (3, oD (.clo (BM (DW true Af true Af) Cr p3))), (9, iD v6), (10, iD v1.2.2)] [(90000, .vec 3 (v1.1.map Af))]) (fun _ _ => rfl) (sm [] _ _ rfl rfl) (fun j5 n5 v5 h => ?_) (fun v6 s h hs => ?_)
    ·unfold Gs.partialInsertionSort_L5 at h
     refine Ab ?_
     refine AQ h (fun v7 => mk [(0, oD (.own 90000)), (1, iD p1), (2, iD p2), (3, oD (.clo (BM (DW true Af true Af) Cr p3))), (9, iD v5), (10, iD v1.2.2), (36, bD v7)] [(90000, .vec 3 (v1.1.map Af))]) (fun j7 h => ?_) (fun v7 h => ?_)
     ·refine Aa Ac rfl (qm rfl (qm rfl (AZ rfl (qm rfl ?_))))
      refine AC (t := 22) rfl (fun c8 => ?_) (fun c8 => ?_)
      ·have h := An c8 h
       refine qm rfl (qm rfl (qm rfl ?_))
       obtain ⟨v9, a9, b9, h⟩ := Ak h
       refine qI AR Ax a9 (Ah b9) rfl (qJ A0 Ax (Ah b9) rfl (qm rfl (qm rfl (Cp rfl ?_))))
       obtain ⟨v10, a10, b10, h⟩ := Ak h
       refine qI AR Ax a10 (Ah b10) rfl (qJ A0 Ax (Ah b10) rfl ?_)
       obtain ⟨v11, a11, h⟩ := bind_some h
       refine D0 (ds0 := [_, _]) (ar := (DW true Af true Af) ((v9, v10))) (.g rfl rfl) rfl rfl ⟨rfl, rfl, tv⟩ rfl rfl rfl (DZ (Ep _ _ _ _ Bp Bp) a11) ?_
       refine AZ rfl (Cq rfl (qp rfl (AM (by kernel_rfl) ?_)))
       exact Av _ h (sm [] _ _ rfl rfl)
      ·have h := Am c8 h
       refine qn rfl (qn rfl (qn rfl (qn rfl (qn rfl (qn rfl (qn rfl (qn rfl (qn rfl (qn rfl (qn rfl (qn rfl (qn rfl (qp rfl (AM (by kernel_rfl) ?_))))))))))))))
       exact Av _ h (sm [] _ _ rfl rfl)
     ·refine Ap rfl (fun c12 => ?_) (fun c12 => ?_)
      ·have h := An c12 h
       refine Aq (AP (Aa Ac rfl (qm rfl (AX rfl (qa rfl (Ad ?_))))))
       exact Av _ h (sm [] _ _ rfl rfl)
      ·have h := Am c12 h
       refine AY ?_
       exact Av _ h (sm [] _ _ rfl rfl)
    ·refine Al hs (Ab (Ab (Aa Ac rfl (qm rfl (qm rfl (BD rfl (Ad ?_)))))))
     refine Ap rfl (fun c13 => ?_) (fun c13 => ?_)
     ·have h := An c13 h
      refine Ab (Aa Ac rfl (qa rfl (Ad ?_)))
      obtain rfl := sj h
      refine Al (sm [] [(8, bD true)] [(90000, .vec 3 (v1.1.map Af))] rfl rfl) (Az ?_)
      exact ⟨⟨[_], ⟨.tmp _ _ rfl, tv⟩, rfl⟩, ⟨rfl, tv⟩, tv⟩
     ·have h := Am c13 h
      refine Aq (Ab (Ab (Aa Ac rfl (qm rfl (qm rfl (Cp rfl (AZ rfl (Ad ?_))))))))
      refine Ap rfl (fun c14 => ?_) (fun c14 => ?_)
      ·have h := An c14 h
       refine Ab (Aa Ac rfl (qa rfl (Ad ?_)))
       obtain rfl := sj h
       refine Al (sm [] [(8, bD false)] [(90000, .vec 3 (v1.1.map Af))] rfl rfl) (Az ?_)
       exact ⟨⟨[_], ⟨.tmp _ _ rfl, tv⟩, rfl⟩, ⟨rfl, tv⟩, tv⟩
      ·have h := Am c14 h
       refine Aq (Ab (Aa Ac rfl (qm rfl (qm rfl (qm rfl (qm rfl (Cp rfl (qm rfl (qm rfl (Cp rfl ?_))))))))))
       obtain ⟨v15, a15, b15, h⟩ := Ak h
       refine qI AR Ax a15 (Ah b15) rfl (qJ A0 Ax (Ah b15) rfl (qm rfl (qm rfl ?_)))
       obtain ⟨v16, a16, b16, h⟩ := Ak h
       refine qI AR Ax a16 (Ah b16) rfl (qJ A0 Ax (Ah b16) rfl ?_)
       obtain ⟨v17, a17, b17, h⟩ := Ak h
       refine qI AR Ax a17 (Ah b17) rfl ?_
       refine A8 rfl rfl rfl rfl (Ah b17) rfl Ax rfl (A5 rfl) (A6 Af v1.1 _ v15) ?_
       obtain ⟨v18, a18, b18, h⟩ := Ak h
       refine qI AR Ax a18 (Ah b18) rfl ?_
       refine A8 rfl rfl rfl rfl (Ah b18) rfl Ax rfl (A5 rfl) (A6 Af (v1.1.set ((v6).toNat) v15) _ v16) ?_
       refine AM (by kernel_rfl) ?_
       refine AQ h (fun v19 => mk [(0, oD (.own 90000)), (1, iD p1), (2, iD p2), (3, oD (.clo (BM (DW true Af true Af) Cr p3))), (9, iD v6), (10, iD v1.2.2)] [(90000, .vec 3 (v19.map Af))]) (fun j19 h => ?_) (fun v19 h => ?_)
       ·refine Ab (Aa Ac rfl (qm rfl (qm rfl (Cp rfl (CW rfl (Ad ?_))))))
        refine Ap rfl (fun c20 => ?_) (fun c20 => ?_)
        ·have h := An c20 h
         refine Ab (Aa Ac rfl (qm rfl (Cp rfl (qa rfl (Ad ?_)))))
         refine AJ (L := Gs.partialInsertionSort_L21 N p3) h (fun v21 => mk [(0, oD (.own 90000)), (1, iD p1), (2, iD p2), (3, oD (.clo (BM (DW true Af true Af) Cr p3))), (9, iD v6), (10, iD v1.2.2), (11, iD v21.2)] [(90000, .vec 3 (v21.1.map Af))]) (fun v22 => mk [(0, oD (.own 90000)), (1, iD p1), (2, iD p2), (3, oD (.clo (BM (DW true Af true Af) Cr p3))), (9, iD v6), (10, iD v1.2.2)] [(90000, .vec 3 (v22.map Af))]) (fun _ _ => rfl) (sm [] _ _ rfl rfl) (fun j21 n21 v21 h => ?_) (fun v22 s h hs => ?_)
         ·unfold Gs.partialInsertionSort_L21 at h
          refine Ab (Ab (Aa Ac rfl (qm rfl (CW rfl (Ad ?_)))))
          refine Ap rfl (fun c23 => ?_) (fun c23 => ?_)
          ·have h := An c23 h
           refine Aq (Ab (AP (Ab (Ab (Aa Ac rfl (qm rfl (qm rfl (qm rfl ?_))))))))
           obtain ⟨v24, a24, b24, h⟩ := Ak h
           refine qI AR Ax a24 (Ah b24) rfl (qJ A0 Ax (Ah b24) rfl (qm rfl (qm rfl (Cp rfl ?_))))
           obtain ⟨v25, a25, b25, h⟩ := Ak h
           refine qI AR Ax a25 (Ah b25) rfl (qJ A0 Ax (Ah b25) rfl ?_)
           obtain ⟨v26, a26, h⟩ := bind_some h
           refine D0 (ds0 := [_, _]) (ar := (DW true Af true Af) ((v24, v25))) (.p rfl) rfl rfl ⟨rfl, rfl, tv⟩ rfl rfl rfl (DZ (Ep _ _ _ _ Bp Bp) a26) ?_
           refine AZ rfl (Cq rfl (AM (by kernel_rfl) ?_))
           refine Ap rfl (fun c27 => ?_) (fun c27 => ?_)
           ·have h := An c27 h
            refine AY ?_
            exact Av _ h (sm [] _ _ rfl rfl)
           ·have h := Am c27 h
            refine Aq (Aa Ac rfl (qm rfl (qm rfl (qm rfl (qm rfl (Cp rfl (qm rfl (qm rfl (Cp rfl ?_)))))))))
            obtain ⟨v28, a28, b28, h⟩ := Ak h
            refine qI AR Ax a28 (Ah b28) rfl (qJ A0 Ax (Ah b28) rfl (qm rfl (qm rfl ?_)))
            obtain ⟨v29, a29, b29, h⟩ := Ak h
            refine qI AR Ax a29 (Ah b29) rfl (qJ A0 Ax (Ah b29) rfl ?_)
            obtain ⟨v30, a30, b30, h⟩ := Ak h
            refine qI AR Ax a30 (Ah b30) rfl ?_
            refine A8 rfl rfl rfl rfl (Ah b30) rfl Ax rfl (A5 rfl) (A6 Af v21.1 _ v28) ?_
            obtain ⟨v31, a31, b31, h⟩ := Ak h
            refine qI AR Ax a31 (Ah b31) rfl ?_
            refine A8 rfl rfl rfl rfl (Ah b31) rfl Ax rfl (A5 rfl) (A6 Af (v21.1.set ((v21.2).toNat) v28) _ v29) ?_
            refine AM (by kernel_rfl) (Aa Ac rfl (qm rfl (Cp rfl (qa rfl (Ad ?_)))))
            exact Av _ h (sm [] _ _ rfl rfl)
          ·have h := Am c23 h
           refine AY ?_
           exact Av _ h (sm [] _ _ rfl rfl)
         ·exact Av _ h (hs.trans (sm [] _ _ rfl rfl))
        ·have h := Am c20 h
         refine Aq ?_
         exact Av _ h (sm [] _ _ rfl rfl)
       ·refine Ab (Aa Ac rfl (qm rfl (qm rfl (Cp rfl (CW rfl (Ad ?_))))))
        refine Ap rfl (fun c32 => ?_) (fun c32 => ?_)
        ·have h := An c32 h
         refine Ab (Aa Ac rfl (qm rfl (AX rfl (qa rfl (Ad ?_)))))
         refine AJ (L := Gs.partialInsertionSort_L33 N p2 p3) h (fun v33 => mk [(0, oD (.own 90000)), (1, iD p1), (2, iD p2), (3, oD (.clo (BM (DW true Af true Af) Cr p3))), (9, iD v6), (10, iD v1.2.2), (12, iD v33.2)] [(90000, .vec 3 (v33.1.map Af))]) (fun v34 => mk [(0, oD (.own 90000)), (1, iD p1), (2, iD p2), (3, oD (.clo (BM (DW true Af true Af) Cr p3))), (9, iD v6), (10, iD v1.2.2)] [(90000, .vec 3 (v34.map Af))]) (fun _ _ => rfl) (sm [] _ _ rfl rfl) (fun j33 n33 v33 h => ?_) (fun v34 s h hs => ?_)
         ·unfold Gs.partialInsertionSort_L33 at h
          refine Ab (Ab (Aa Ac rfl (qm rfl (qm rfl (AZ rfl (Ad ?_))))))
          refine Ap rfl (fun c35 => ?_) (fun c35 => ?_)
          ·have h := An c35 h
           refine Aq (Ab (AP (Ab (Ab (Aa Ac rfl (qm rfl (qm rfl (qm rfl ?_))))))))
           obtain ⟨v36, a36, b36, h⟩ := Ak h
           refine qI AR Ax a36 (Ah b36) rfl (qJ A0 Ax (Ah b36) rfl (qm rfl (qm rfl (Cp rfl ?_))))
           obtain ⟨v37, a37, b37, h⟩ := Ak h
           refine qI AR Ax a37 (Ah b37) rfl (qJ A0 Ax (Ah b37) rfl ?_)
           obtain ⟨v38, a38, h⟩ := bind_some h
           refine D0 (ds0 := [_, _]) (ar := (DW true Af true Af) ((v36, v37))) (.p rfl) rfl rfl ⟨rfl, rfl, tv⟩ rfl rfl rfl (DZ (Ep _ _ _ _ Bp Bp) a38) ?_
           refine AZ rfl (Cq rfl (AM (by kernel_rfl) ?_))
           refine Ap rfl (fun c39 => ?_) (fun c39 => ?_)
           ·have h := An c39 h
            refine AY ?_
            exact Av _ h (sm [] _ _ rfl rfl)
           ·have h := Am c39 h
            refine Aq (Aa Ac rfl (qm rfl (qm rfl (qm rfl (qm rfl (Cp rfl (qm rfl (qm rfl (Cp rfl ?_)))))))))
            obtain ⟨v40, a40, b40, h⟩ := Ak h
            refine qI AR Ax a40 (Ah b40) rfl (qJ A0 Ax (Ah b40) rfl (qm rfl (qm rfl ?_)))
            obtain ⟨v41, a41, b41, h⟩ := Ak h
            refine qI AR Ax a41 (Ah b41) rfl (qJ A0 Ax (Ah b41) rfl ?_)
            obtain ⟨v42, a42, b42, h⟩ := Ak h
            refine qI AR Ax a42 (Ah b42) rfl ?_
            refine A8 rfl rfl rfl rfl (Ah b42) rfl Ax rfl (A5 rfl) (A6 Af v33.1 _ v40) ?_
            obtain ⟨v43, a43, b43, h⟩ := Ak h
            refine qI AR Ax a43 (Ah b43) rfl ?_
            refine A8 rfl rfl rfl rfl (Ah b43) rfl Ax rfl (A5 rfl) (A6 Af (v33.1.set ((v33.2).toNat) v40) _ v41) ?_
            refine AM (by kernel_rfl) (Aa Ac rfl (qm rfl (AX rfl (qa rfl (Ad ?_)))))
            exact Av _ h (sm [] _ _ rfl rfl)
          ·have h := Am c35 h
           refine AY ?_
           exact Av _ h (sm [] _ _ rfl rfl)
         ·exact Av _ h (hs.trans (sm [] _ _ rfl rfl))
        ·have h := Am c32 h
         refine Aq ?_
         exact Av _ h (sm [] _ _ rfl rfl)
   ·refine Aa Ac rfl (qm rfl (AX rfl (qa rfl (Ad ?_))))
    exact Av _ h (sm [] _ _ rfl rfl)
  ·have h := Am c3 h
   refine AY ?_
   exact Av _ h (sm [] _ _ rfl rfl)
 ·refine Al hs (Ab (Aa Ac rfl (qa rfl (Ad ?_))))
  obtain rfl := sj h
  refine Al (sm [] [(8, bD false)] [(90000, .vec 3 (v2.map Af))] rfl rfl) (Az ?_)
  exact ⟨⟨[_], ⟨.tmp _ _ rfl, tv⟩, rfl⟩, ⟨rfl, tv⟩, tv⟩
theorem E8 (N : Nat) (p0 : List Ae) (p1 : Int) (p2 : Int) (p3 : Int) (p4 : (Ae × Ae) → Option Int) (r : Int × (List Ae)) (h : Gs.partitionEqual N p0 p1 p2 p3 p4 = some r) : By Tryz.prog 87 [oD (.own 90000), iD p1, iD p2, iD p3, oD (.clo (BM (DW true Af true Af) Cr p4))] [(.vec 3 (p0.map Af), .vec 3 (r.2.map Af))] [] (iD r.1) := by
 unfold Gs.partitionEqual at h
 refine Br (n := 90) (rs := [.tmp 10]) Tryz.func87 rfl rfl rfl (A5 rfl) (A5 rfl) rfl rfl (A5 rfl) rfl (A5 rfl) fun w0 S0 GL => ?_
 refine Al (sm [] [(0, oD (.own 90000)), (1, iD p1), (2, iD p2), (3, iD p3), (4, oD (.clo (BM (DW true Af true Af) Cr p4)))] [(90000, .vec 3 (p0.map Af))] rfl rfl) (Ab (Aa Ac rfl (qa rfl (Ad (Ab (Aa Ac rfl (qm rfl (qm rfl (qm rfl (qm rfl (qm rfl (qm rfl ?_))))))))))))
 obtain ⟨v1, a1, b1, h⟩ := Ak h
 refine qI AR Ax a1 (Ah b1) rfl (qJ A0 Ax (Ah b1) rfl (qm rfl (qm rfl ?_)))
 obtain ⟨v2, a2, b2, h⟩ := Ak h
 refine qI AR Ax a2 (Ah b2) rfl (qJ A0 Ax (Ah b2) rfl ?_)
 obtain ⟨v3, a3, b3, h⟩ := Ak h
 refine qI AR Ax a3 (Ah b3) rfl ?_
 refine A8 rfl rfl rfl rfl (Ah b3) rfl Ax rfl (A5 rfl) (A6 Af p0 _ v1) ?_
 obtain ⟨v4, a4, b4, h⟩ := Ak h
 refine qI AR Ax a4 (Ah b4) rfl ?_
 refine A8 rfl rfl rfl rfl (Ah b4) rfl Ax rfl (A5 rfl) (A6 Af (p0.set ((p1).toNat) v1) _ v2) ?_
 refine AM (by kernel_rfl) (Ab (Aa Ac rfl (qm rfl (AX rfl (qm rfl (Cp rfl (qa rfl (qa rfl (Ad (Ab ?_))))))))))
 refine AJ (L := Gs.partitionEqual_L5 N p1 p4) h (fun v5 => mk [(0, oD (.own 90000)), (1, iD p1), (4, oD (.clo (BM (DW true Af true Af) Cr p4))), (11, iD v5.2.1), (12, iD v5.2.2)] [(90000, .vec 3 (v5.1.map Af))]) (fun v6 => mk [(11, iD v6.2)] [(90000, .vec 3 (v6.1.map Af))]) (fun _ _ => rfl) (sm [] _ _ rfl rfl) (fun j5 n5 v5 h => ?_) (fun v6 s h hs => ?_)
 ·unfold Gs.partitionEqual_L5 at h
  refine AP (Ab ?_)
  refine AJ (L := Gs.partitionEqual_L7 N p1 p4 v5) h (fun v7 => mk [(0, oD (.own 90000)), (1, iD p1), (4, oD (.clo (BM (DW true Af true Af) Cr p4))), (11, iD v7), (12, iD v5.2.2)] [(90000, .vec 3 (v5.1.map Af))]) (fun v8 => mk [(0, oD (.own 90000)), (1, iD p1), (4, oD (.clo (BM (DW true Af true Af) Cr p4))), (11, iD v8), (12, iD v5.2.2)] [(90000, .vec 3 (v5.1.map Af))]) (fun _ _ => rfl) (sm [] _ _ rfl rfl) (fun j7 n7 v7 h => ?_) (fun v8 s h hs => ?_)
  ·unfold Gs.partitionEqual_L7 at h
   refine Ab ?_
   refine AQ h (fun v9 => mk [(0, oD (.own 90000)), (1, iD p1), (4, oD (.clo (BM (DW true Af true Af) Cr p4))), (11, iD v7), (12, iD v5.2.2), (47, bD v9)] [(90000, .vec 3 (v5.1.map Af))]) (fun j9 h => ?_) (fun v9 h => ?_)
   ·refine Aa Ac rfl (qm rfl (qm rfl (JH rfl (qm rfl ?_))))
    refine AC (t := 34) rfl (fun c10 => ?_) (fun c10 => ?_)
    ·have h := An c10 h
     refine qm rfl (qm rfl (qm rfl ?_))
     obtain ⟨v11, a11, b11, h⟩ := Ak h
     refine qI AR Ax a11 (Ah b11) rfl (qJ A0 Ax (Ah b11) rfl (qm rfl (qm rfl ?_)))
     obtain ⟨v12, a12, b12, h⟩ := Ak h
     refine qI AR Ax a12 (Ah b12) rfl (qJ A0 Ax (Ah b12) rfl ?_)
     obtain ⟨v13, a13, h⟩ := bind_some h
     refine D0 (ds0 := [_, _]) (ar := (DW true Af true Af) ((v11, v12))) (.g rfl rfl) rfl rfl ⟨rfl, rfl, tv⟩ rfl rfl rfl (DZ (Ep _ _ _ _ Bp Bp) a13) ?_
     refine AZ rfl (Cq rfl (qp rfl (AM (by kernel_rfl) ?_)))
     exact Av _ h (sm [] _ _ rfl rfl)
    ·have h := Am c10 h
     refine qn rfl (qn rfl (qn rfl (qn rfl (qn rfl (qn rfl (qn rfl (qn rfl (qn rfl (qn rfl (qn rfl (qn rfl (qp rfl (AM (by kernel_rfl) ?_)))))))))))))
     exact Av _ h (sm [] _ _ rfl rfl)
   ·refine Ap rfl (fun c14 => ?_) (fun c14 => ?_)
    ·have h := An c14 h
     refine Aq (AP (Aa Ac rfl (qm rfl (AX rfl (qa rfl (Ad ?_))))))
     exact Av _ h (sm [] _ _ rfl rfl)
    ·have h := Am c14 h
     refine AY ?_
     exact Av _ h (sm [] _ _ rfl rfl)
  ·refine Al hs (Ab ?_)
   refine AJ (L := Gs.partitionEqual_L15 N p1 p4 v5 v8) h (fun v15 => mk [(0, oD (.own 90000)), (1, iD p1), (4, oD (.clo (BM (DW true Af true Af) Cr p4))), (11, iD v8), (12, iD v15)] [(90000, .vec 3 (v5.1.map Af))]) (fun v16 => mk [(0, oD (.own 90000)), (1, iD p1), (4, oD (.clo (BM (DW true Af true Af) Cr p4))), (11, iD v8), (12, iD v16)] [(90000, .vec 3 (v5.1.map Af))]) (fun _ _ => rfl) (sm [] _ _ rfl rfl) (fun j15 n15 v15 h => ?_) (fun v16 s h hs => ?_)
   ·unfold Gs.partitionEqual_L15 at h
    refine Ab ?_
    refine AQ h (fun v17 => mk [(0, oD (.own 90000)), (1, iD p1), (4, oD (.clo (BM (DW true Af true Af) Cr p4))), (11, iD v8), (12, iD v15), (65, bD v17)] [(90000, .vec 3 (v5.1.map Af))]) (fun j17 h => ?_) (fun v17 h => ?_)
    ·refine Aa Ac rfl (qm rfl (qm rfl (JH rfl (qm rfl ?_))))
     refine AC (t := 53) rfl (fun c18 => ?_) (fun c18 => ?_)
     ·have h := An c18 h
      refine qm rfl (qm rfl (qm rfl ?_))
      obtain ⟨v19, a19, b19, h⟩ := Ak h
      refine qI AR Ax a19 (Ah b19) rfl (qJ A0 Ax (Ah b19) rfl (qm rfl (qm rfl ?_)))
      obtain ⟨v20, a20, b20, h⟩ := Ak h
      refine qI AR Ax a20 (Ah b20) rfl (qJ A0 Ax (Ah b20) rfl ?_)
      obtain ⟨v21, a21, h⟩ := bind_some h
      refine D0 (ds0 := [_, _]) (ar := (DW true Af true Af) ((v19, v20))) (.g rfl rfl) rfl rfl ⟨rfl, rfl, tv⟩ rfl rfl rfl (DZ (Ep _ _ _ _ Bp Bp) a21) ?_
      refine AZ rfl (qp rfl (AM (by kernel_rfl) ?_))
      exact Av _ h (sm [] _ _ rfl rfl)
     ·have h := Am c18 h
      refine qn rfl (qn rfl (qn rfl (qn rfl (qn rfl (qn rfl (qn rfl (qn rfl (qn rfl (qn rfl (qn rfl (qp rfl (AM (by kernel_rfl) ?_))))))))))))
      exact Av _ h (sm [] _ _ rfl rfl)
    ·refine Ap rfl (fun c22 => ?_) (fun c22 => ?_)
     ·have h := An c22 h
      refine Aq (AP (Aa Ac rfl (qm rfl (Cp rfl (qa rfl (Ad ?_))))))
      exact Av _ h (sm [] _ _ rfl rfl)
     ·have h := Am c22 h
      refine AY ?_
      exact Av _ h (sm [] _ _ rfl rfl)
   ·refine Al hs (Ab (Ab (Aa Ac rfl (qm rfl (qm rfl (Ey rfl (Ad ?_)))))))
    refine Ap rfl (fun c23 => ?_) (fun c23 => ?_)
    ·have h := An c23 h
     refine AY ?_
     exact Av _ h (sm [] _ _ rfl rfl)
    ·have h := Am c23 h
     refine Aq (Ab (Aa Ac rfl (qm rfl (qm rfl (qm rfl (qm rfl (qm rfl (qm rfl ?_))))))))
     obtain ⟨v24, a24, b24, h⟩ := Ak h
     refine qI AR Ax a24 (Ah b24) rfl (qJ A0 Ax (Ah b24) rfl (qm rfl (qm rfl ?_)))
     obtain ⟨v25, a25, b25, h⟩ := Ak h
     refine qI AR Ax a25 (Ah b25) rfl (qJ A0 Ax (Ah b25) rfl ?_)
     obtain ⟨v26, a26, b26, h⟩ := Ak h
     refine qI AR Ax a26 (Ah b26) rfl ?_
     refine A8 rfl rfl rfl rfl (Ah b26) rfl Ax rfl (A5 rfl) (A6 Af v5.1 _ v24) ?_
     obtain ⟨v27, a27, b27, h⟩ := Ak h
     refine qI AR Ax a27 (Ah b27) rfl ?_
     refine A8 rfl rfl rfl rfl (Ah b27) rfl Ax rfl (A5 rfl) (A6 Af (v5.1.set ((v8).toNat) v24) _ v25) ?_
     refine AM (by kernel_rfl) (Ab (Aa Ac rfl (qm rfl (AX rfl (qa rfl (Ad (Aa Ac rfl (qm rfl (Cp rfl (qa rfl (Ad ?_)))))))))))
     exact Av _ h (sm [] _ _ rfl rfl)
 ·refine Al hs (Ab (Aa Ac rfl (qm rfl (qa rfl (Ad ?_)))))
  obtain rfl := sj h
  refine Al (sm [] [(10, iD v6.2)] [(90000, .vec 3 (v6.1.map Af))] rfl rfl) (Az ?_)
  exact ⟨⟨[_], ⟨.tmp _ _ rfl, tv⟩, rfl⟩, ⟨rfl, tv⟩, tv⟩
end Go.Lift
