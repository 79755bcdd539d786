/- Lemmas for WavesErrorsCardSaid, which YtncnphcfgojgmaaDoorFinV6 proves. -/
import Derived.Test.YtncnphcfgojgmaaDoorSh
import Derived.Test.YtncnphcfgojgmaaDoorProg
import Derived.KernelRfl
namespace Go.Lift
open Go.RowKit
open Go.Proofs
abbrev Bc (x : Au) : List C := [iC x.fd, iC x.fg, iC x.fm, .pure (.val (.bool x.fq)), sC (x.fo.map (FP eB)), sC (x.fi.map (FP eB))]
abbrev Ai (x : Ab) : List C := [sC (x.fa.map An), sC (x.fh.map An), sC (x.fp.map An), sC (x.fb.map AI)]
abbrev Cn (x : Ac) : List C := [iC x.fd, iC x.fj, iC x.fk]
abbrev AA (x : Ah) : List C := [sC (x.fe.map An), sC (x.fc.map An), sC (x.ff.map Cl)]
abbrev Es (x : Ar) : List C := [iC x.fr, iC x.ft, iC x.fu]
theorem Ay : Tryd.prog.follows .mixedOrders = true := by kernel_rfl
theorem wq {X : Fb} {y : Code} {id : Nat} {ops : Array Oper} {dr : Bool} {Q : Exit → St → Prop} {st : St} {n : Nat} (hn : ops.size = n) (h : AK Tryd.prog X ops dr (fun st' => W Tryd.prog X y Q st') n 0 st []) : W Tryd.prog X (.seq (.region id ops dr) y) Q st := Rz Ay hn h
theorem wp {X : Fb} {y z : Code} {id : Nat} {ops : Array Oper} {dr : Bool} {Q : Exit → St → Prop} {st : St} {n : Nat} (hn : ops.size = n) (h : AK Tryd.prog X ops dr (fun st' => W Tryd.prog X y (JQ (W Tryd.prog X z Q) Q) st') n 0 st []) : W Tryd.prog X (.seq (.seq (.region id ops dr) y) z) Q st := AB (Rz Ay hn h)
theorem Mp : Dj Tryd.prog 28 false = true := by kernel_rfl
theorem Bg : Dj Tryd.prog 29 false = true := by kernel_rfl
theorem B9 : Dj Tryd.prog 3 false = true := by kernel_rfl
theorem E9 : Dj Tryd.prog 30 false = true := by kernel_rfl
theorem B5 : Dj Tryd.prog 32 true = true := by kernel_rfl
theorem HT : Dj Tryd.prog 36 false = true := by kernel_rfl
theorem Be : Dj Tryd.prog 38 true = true := by kernel_rfl
theorem OS : Dj Tryd.prog 4 false = true := by kernel_rfl
theorem Fe : Dj Tryd.prog 44 true = true := by kernel_rfl
theorem F5 : Dj Tryd.prog 64 false = true := by kernel_rfl
theorem Hc : Dj Tryd.prog 66 true = true := by kernel_rfl
theorem KQ : Dj Tryd.prog 75 false = true := by kernel_rfl
theorem KF : Dj Tryd.prog 79 false = true := by kernel_rfl
theorem RF : Dj Tryd.prog 9 false = true := by kernel_rfl
theorem IC : Dj Tryd.prog 93 true = true := by kernel_rfl
theorem P7 : DR Tryd.prog 28 24 = true := by kernel_rfl
theorem MH : DR Tryd.prog 3 8 = true := by kernel_rfl
theorem OA : DR Tryd.prog 38 72 = true := by kernel_rfl
theorem OF : DR Tryd.prog 44 24 = true := by kernel_rfl
theorem MR : DR Tryd.prog 75 1 = true := by kernel_rfl
theorem Oz : DR Tryd.prog 93 24 = true := by kernel_rfl
theorem BG : CC Tryd.prog 32 0 0 = true := by kernel_rfl
theorem Ej : CC Tryd.prog 32 1 1 = true := by kernel_rfl
theorem Gs : CC Tryd.prog 32 2 2 = true := by kernel_rfl
theorem BE : CC Tryd.prog 32 3 3 = true := by kernel_rfl
theorem CW : CC Tryd.prog 38 0 0 = true := by kernel_rfl
theorem B7 : CC Tryd.prog 38 1 1 = true := by kernel_rfl
theorem Dh : CC Tryd.prog 38 2 2 = true := by kernel_rfl
theorem Eq : CC Tryd.prog 44 0 0 = true := by kernel_rfl
theorem DJ : CC Tryd.prog 44 1 1 = true := by kernel_rfl
theorem Gk : CC Tryd.prog 44 2 2 = true := by kernel_rfl
theorem D2 : CC Tryd.prog 66 0 0 = true := by kernel_rfl
theorem Dd : CC Tryd.prog 66 1 1 = true := by kernel_rfl
theorem G9 : CC Tryd.prog 66 2 2 = true := by kernel_rfl
theorem IJ : CC Tryd.prog 66 3 3 = true := by kernel_rfl
theorem Gy : CC Tryd.prog 66 4 4 = true := by kernel_rfl
theorem DK : CC Tryd.prog 66 5 5 = true := by kernel_rfl
theorem PZ : Av Tryd.prog 10 = true := by kernel_rfl
theorem QK : Av Tryd.prog 11 = true := by kernel_rfl
theorem PW : Av Tryd.prog 12 = true := by kernel_rfl
theorem O6 : Av Tryd.prog 13 = true := by kernel_rfl
theorem Pe : Av Tryd.prog 14 = true := by kernel_rfl
theorem Qy : Av Tryd.prog 15 = true := by kernel_rfl
theorem Rt : Av Tryd.prog 16 = true := by kernel_rfl
theorem P0 : Av Tryd.prog 19 = true := by kernel_rfl
theorem Ri : Av Tryd.prog 21 = true := by kernel_rfl
theorem Q3 : Av Tryd.prog 22 = true := by kernel_rfl
theorem Ru : Av Tryd.prog 23 = true := by kernel_rfl
theorem PU : Av Tryd.prog 24 = true := by kernel_rfl
theorem NH : Av Tryd.prog 27 = true := by kernel_rfl
theorem Ra : Av Tryd.prog 28 = true := by kernel_rfl
theorem OW : Av Tryd.prog 29 = true := by kernel_rfl
theorem Q6 : Av Tryd.prog 30 = true := by kernel_rfl
theorem NN : Av Tryd.prog 31 = true := by kernel_rfl
theorem NL : Av Tryd.prog 32 = true := by kernel_rfl
theorem Pb : Av Tryd.prog 33 = true := by kernel_rfl
theorem QF : Av Tryd.prog 34 = true := by kernel_rfl
theorem PV : Av Tryd.prog 35 = true := by kernel_rfl
theorem QY : Av Tryd.prog 36 = true := by kernel_rfl
theorem QN : Av Tryd.prog 37 = true := by kernel_rfl
theorem Ph : Av Tryd.prog 38 = true := by kernel_rfl
theorem P4 : Av Tryd.prog 39 = true := by kernel_rfl
theorem O5 : Av Tryd.prog 40 = true := by kernel_rfl
theorem Pn : Av Tryd.prog 41 = true := by kernel_rfl
theorem Qc : Av Tryd.prog 42 = true := by kernel_rfl
theorem M8 : Av Tryd.prog 43 = true := by kernel_rfl
theorem Rv : Av Tryd.prog 44 = true := by kernel_rfl
theorem QU : Av Tryd.prog 45 = true := by kernel_rfl
theorem PO : Av Tryd.prog 46 = true := by kernel_rfl
theorem OY : Av Tryd.prog 47 = true := by kernel_rfl
theorem QZ : Av Tryd.prog 48 = true := by kernel_rfl
theorem Ro : Av Tryd.prog 49 = true := by kernel_rfl
theorem Rs : Av Tryd.prog 50 = true := by kernel_rfl
theorem QV : Av Tryd.prog 51 = true := by kernel_rfl
theorem P6 : Av Tryd.prog 52 = true := by kernel_rfl
theorem Rm : Av Tryd.prog 53 = true := by kernel_rfl
theorem Or : Av Tryd.prog 54 = true := by kernel_rfl
theorem Q5 : Av Tryd.prog 55 = true := by kernel_rfl
theorem Rw : Av Tryd.prog 56 = true := by kernel_rfl
theorem Rx : Av Tryd.prog 57 = true := by kernel_rfl
theorem Q9 : Av Tryd.prog 58 = true := by kernel_rfl
theorem QM : Av Tryd.prog 59 = true := by kernel_rfl
theorem QR : Av Tryd.prog 60 = true := by kernel_rfl
theorem QG : Av Tryd.prog 61 = true := by kernel_rfl
theorem Q2 : Av Tryd.prog 62 = true := by kernel_rfl
theorem Qm : Av Tryd.prog 63 = true := by kernel_rfl
theorem Rh : Av Tryd.prog 64 = true := by kernel_rfl
theorem Qr : Av Tryd.prog 65 = true := by kernel_rfl
theorem Q7 : Av Tryd.prog 66 = true := by kernel_rfl
theorem Q8 : Av Tryd.prog 67 = true := by kernel_rfl
theorem QX : Av Tryd.prog 68 = true := by kernel_rfl
theorem QD : Av Tryd.prog 69 = true := by kernel_rfl
theorem Ry : Av Tryd.prog 7 = true := by kernel_rfl
theorem PR : Av Tryd.prog 70 = true := by kernel_rfl
theorem QW : Av Tryd.prog 71 = true := by kernel_rfl
theorem Rl : Av Tryd.prog 72 = true := by kernel_rfl
theorem Rn : Av Tryd.prog 73 = true := by kernel_rfl
theorem Rr : Av Tryd.prog 74 = true := by kernel_rfl
theorem QO : Av Tryd.prog 75 = true := by kernel_rfl
theorem Qa : Av Tryd.prog 76 = true := by kernel_rfl
theorem Qv : Av Tryd.prog 78 = true := by kernel_rfl
theorem Qf : Av Tryd.prog 79 = true := by kernel_rfl
theorem QP : Av Tryd.prog 80 = true := by kernel_rfl
theorem QI : Av Tryd.prog 81 = true := by kernel_rfl
theorem Q4 : Av Tryd.prog 82 = true := by kernel_rfl
theorem Q1 : Av Tryd.prog 83 = true := by kernel_rfl
theorem Rj : Av Tryd.prog 84 = true := by kernel_rfl
theorem Rp : Av Tryd.prog 86 = true := by kernel_rfl
theorem PP : Av Tryd.prog 87 = true := by kernel_rfl
theorem Rq : Av Tryd.prog 88 = true := by kernel_rfl
theorem Re : Av Tryd.prog 89 = true := by kernel_rfl
theorem QB : Av Tryd.prog 9 = true := by kernel_rfl
theorem Rd : Av Tryd.prog 94 = true := by kernel_rfl
theorem LN : Kr Tryd.prog 110 .u64 = true := by kernel_rfl
theorem LZ : Kr Tryd.prog 123 .u32 = true := by kernel_rfl
theorem Oy : Kr Tryd.prog 126 .u64 = true := by kernel_rfl
theorem RA : Kr Tryd.prog 3 .i64 = true := by kernel_rfl
theorem Rk : Gl Tryd.prog 32 = some [(0, 1), (1, 1), (2, 1), (3, 1)] := by kernel_rfl
theorem Gf : Gl Tryd.prog 38 = some [(0, 1), (1, 1), (2, 1)] := by kernel_rfl
theorem Ot : Gl Tryd.prog 44 = some [(0, 1), (1, 1), (2, 1)] := by kernel_rfl
theorem K0 : Gl Tryd.prog 93 = some [(0, 1), (1, 1), (2, 1)] := by kernel_rfl
theorem OB : M6 Tryd.prog 44 = some [0, 0, 0] := by kernel_rfl
theorem G6 : sliceB Tryd.prog 114 93 = true := by kernel_rfl
theorem MZ : sliceB Tryd.prog 132 9 = true := by kernel_rfl
theorem A6 : sliceB Tryd.prog 28 44 = true := by kernel_rfl
theorem Az : sliceB Tryd.prog 29 3 = true := by kernel_rfl
theorem CI : sliceB Tryd.prog 30 66 = true := by kernel_rfl
theorem Do : sliceB Tryd.prog 36 75 = true := by kernel_rfl
theorem FE : sliceB Tryd.prog 48 28 = true := by kernel_rfl
theorem FH : sliceB Tryd.prog 53 38 = true := by kernel_rfl
theorem DY : sliceB Tryd.prog 64 79 = true := by kernel_rfl
theorem HW : sliceB Tryd.prog 79 4 = true := by kernel_rfl
theorem MK : (Tryd.prog.underlying 110).isSome = true := by kernel_rfl
theorem LP : (Tryd.prog.underlying 123).isSome = true := by kernel_rfl
theorem OO : (Tryd.prog.underlying 126).isSome = true := by kernel_rfl
theorem RC : (Tryd.prog.underlying 3).isSome = true := by kernel_rfl
theorem RI : (Tryd.prog.underlying 5).isSome = true := by kernel_rfl
theorem Rb : LU Tryd.prog 9 = true := by kernel_rfl
theorem Km : EQ Tryd.prog 28 1 = true := by kernel_rfl
theorem PS : EQ Tryd.prog 29 1 = true := by kernel_rfl
theorem DD : EQ Tryd.prog 3 1 = true := by kernel_rfl
theorem BU : EQ Tryd.prog 32 4 = true := by kernel_rfl
theorem QT : EQ Tryd.prog 36 1 = true := by kernel_rfl
theorem AD : EQ Tryd.prog 38 3 = true := by kernel_rfl
theorem QC : EQ Tryd.prog 4 1 = true := by kernel_rfl
theorem BT : EQ Tryd.prog 44 3 = true := by kernel_rfl
theorem Dm : EQ Tryd.prog 66 6 = true := by kernel_rfl
theorem Gq : EQ Tryd.prog 75 1 = true := by kernel_rfl
theorem KB : EQ Tryd.prog 79 1 = true := by kernel_rfl
theorem RD : EQ Tryd.prog 9 1 = true := by kernel_rfl
theorem Ef : EQ Tryd.prog 93 3 = true := by kernel_rfl
theorem Ny : CB Tryd.prog 28 = some (.slice none 0 0) := by kernel_rfl
theorem LY : CB Tryd.prog 3 = some (.int .i64 0) := by kernel_rfl
theorem NO : CB Tryd.prog 32 = some (.agg #[.slice none 0 0, .slice none 0 0, .slice none 0 0, .slice none 0 0]) := by kernel_rfl
theorem Cj : CB Tryd.prog 38 = some (.agg #[.slice none 0 0, .slice none 0 0, .slice none 0 0]) := by kernel_rfl
theorem Hs : CB Tryd.prog 44 = some (.agg #[.int .i64 0, .int .i64 0, .int .i64 0]) := by kernel_rfl
theorem Mh : CB Tryd.prog 66 = some (.agg #[.int .i64 0, .int .i64 0, .int .i64 0, .bool false, .slice none 0 0, .slice none 0 0]) := by kernel_rfl
theorem MO : CB Tryd.prog 75 = some (.int .u8 0) := by kernel_rfl
theorem RH : CB Tryd.prog 9 = some (.string ⟨#[]⟩) := by kernel_rfl
theorem GF : CB Tryd.prog 93 = some (.agg #[.int .i64 0, .int .i64 0, .int .i64 0]) := by kernel_rfl
open IntKind renaming wrap → wI
set_option maxRecDepth 10000
theorem EY (N : Nat) (p0 : Au) (r : Bool) (h : Bx N p0 = some r) : Ap Tryd.prog 19 [.e (.agg (Bc p0))] [] (bD r) := by
 unfold Bx at h
 refine cw (n := 11) (rs := [.tmp 2]) Tryd.func19 fun w0 S0 => ?_
 refine wq rfl (qb rfl (qe rfl ?_))
 refine AO h (fun v1 => mk [(2, bD v1)] []) (fun j1 h => ?_) (fun v1 h => ?_)
 ·refine Ak Ay rfl (qf D2 rfl (ql B9 rfl (Bf rfl (qm rfl ?_))))
  refine CR 6 h rfl (fun h => ?_) fun h => ?_
  ·refine qw 3 rfl (qp rfl (qe rfl ?_))
   exact sn [] h
  ·refine qf D2 rfl (ql B9 rfl (Bf rfl (qp rfl (qe rfl ?_))))
   exact sn [] h
 ·obtain rfl := sj h
  refine Ae (sm [] [(2, bD v1)] [] rfl rfl) (Ao ?_)
  exact ⟨⟨[_], tm, rfl⟩, tv⟩
theorem EP (N : Nat) (p0 : List (List Bool)) (p1 : Int) (p2 : Int) (r : Bool) (h : Bw N p0 p1 p2 = some r) : Ap Tryd.prog 42 [pD (.sl (p0.map (FP eB))), iD p1, iD p2] [] (bD r) := by
 unfold Bw at h
 refine cw (n := 24) (rs := [.tmp 6]) Tryd.func42 fun w0 S0 => ?_
 refine wq rfl (qa rfl (Aa (wp rfl (qm rfl (Aw DY rfl (qm rfl (Bo rfl (Aa ?_))))))))
 refine Ba h (fun h => ?_) fun h => ?_
 ·refine wq rfl (qe rfl ?_)
  obtain rfl := sj h
  refine Ae (sm [] [(6, bD false)] [] rfl rfl) (Ao ?_)
  exact ⟨⟨[_], tm, rfl⟩, tv⟩
 ·refine Al (wp rfl (qe rfl ?_))
  refine AE (L := A4 N p0 p1 p2) h (fun v2 => mk [(0, pD (.sl (p0.map (FP eB)))), (1, iD p1), (2, iD p2), (7, iD v2)] []) (fun v3 => mk [] []) (fun _ _ => rfl) (sm [] _ _ rfl rfl) (fun j2 n2 v2 h => ?_) (fun v3 s h hs => ?_)
  ·unfold A4 at h
   refine wp rfl (qw 2 rfl (AY rfl (Aa ?_)))
   refine Ba h (fun h => ?_) fun h => ?_
   ·refine Al (AB (AN (wq rfl (qw 2 rfl ?_))))
    refine Ce h fun v5 a5 b5 h => qi DY KB a5 (Aj b5) rfl (qk KF rfl (Aw HW rfl (qm rfl (Bo rfl (Aa ?_)))))
    refine Ba h (fun h => ?_) fun h => ?_
    ·refine wq rfl (qe rfl ?_)
     obtain rfl := sj h
     refine Ae (sm [] [(6, bD false)] [] rfl rfl) (Ao ?_)
     exact ⟨⟨[_], tm, rfl⟩, tv⟩
    ·refine Al (Ak Ay rfl (qm rfl (Bm rfl (qe rfl ?_))))
     exact sn [] h
   ·refine AZ ?_
    exact sn [] h
  ·refine Ae hs (wq rfl (qe rfl ?_))
   obtain rfl := sj h
   refine Ae (sm [] [(6, bD true)] [] rfl rfl) (Ao ?_)
   exact ⟨⟨[_], tm, rfl⟩, tv⟩
theorem He (N : Nat) (p0 : Ab) (p1 : Au) (r : Int) (h : Cc N p0 p1 = some r) : Ap Tryd.prog 28 [.e (.agg (Ai p0)), .e (.agg (Bc p1))] [] (iD r) := by
 unfold Cc at h
 refine cw (n := 101) (rs := [.tmp 4]) Tryd.func28 fun w0 S0 => ?_
 refine wq rfl (qb rfl (qb rfl (qa rfl (Aa (AB ?_)))))
 refine AO h (fun v1 => mk [(2, oD (.ptr 2 0)), (3, oD (.ptr 3 0)), (22, bD v1)] [(2, .box (Ai p0)), (3, .box (Bc p1))]) (fun j1 h => ?_) (fun v1 h => ?_)
 ·refine Ak Ay rfl (qf D2 rfl (ql B9 rfl (AY rfl (qm rfl ?_))))
  refine CR 10 h rfl (fun h => ?_) fun h => ?_
  ·refine qw 3 rfl (qp rfl (qw 4 rfl (qu rfl (qu rfl (qn rfl (qp rfl (Aa ?_)))))))
   exact sn [] h
  ·refine qf D2 rfl (ql B9 rfl (C0 rfl (qp rfl (qm rfl ?_))))
   refine CR 15 h rfl (fun h => ?_) fun h => ?_
   ·refine qw 3 rfl (qu rfl (qu rfl (qn rfl (qp rfl (Aa ?_)))))
    exact sn [] h
   ·refine qf IJ rfl (ql OS rfl (qm rfl ?_))
    refine CR 18 h rfl (fun h => ?_) fun h => ?_
    ·refine qL Hc Dm rfl ?_
     refine By h fun v5 a5 h => Aq [] (EY N p1 v5 a5) P0 rfl (qp rfl (qp rfl (Aa ?_)))
     exact sn [] h
    ·refine qw 2 rfl (qp rfl (qp rfl (Aa ?_)))
     exact sn [] h
 ·refine Ba h (fun h => ?_) fun h => ?_
  ·refine wq rfl (qe rfl ?_)
   obtain rfl := sj h
   refine Ae (sm [] [(4, iD 1)] [] rfl rfl) (Ao ?_)
   exact ⟨⟨[_], tm, rfl⟩, tv⟩
  ·refine Al (wq rfl (qf BG rfl (ql Bg rfl (Aw Az rfl (qa rfl (Aa (AB ?_)))))))
   refine AO h (fun v7 => mk [(2, oD (.ptr 2 0)), (3, oD (.ptr 3 0)), (45, bD v7)] [(2, .box (Ai p0)), (3, .box (Bc p1))]) (fun j7 h => ?_) (fun v7 h => ?_)
   ·refine Ak Ay rfl (qf Dd rfl (ql B9 rfl (AY rfl (qm rfl ?_))))
    refine CR 29 h rfl (fun h => ?_) fun h => ?_
    ·refine qw 4 rfl (qp rfl (qw 4 rfl (qp rfl (qw 5 rfl (qp rfl (Aa ?_))))))
     exact sn [] h
    ·refine qf Dd rfl (ql B9 rfl (qm rfl (ER rfl (qp rfl (qm rfl ?_)))))
     refine CR 35 h rfl (fun h => ?_) fun h => ?_
     ·refine qw 3 rfl (qp rfl (qw 5 rfl (qp rfl (Aa ?_))))
      exact sn [] h
     ·refine qf G9 rfl (ql B9 rfl (AY rfl (qp rfl (qm rfl ?_))))
      refine CR 40 h rfl (fun h => ?_) fun h => ?_
      ·refine qw 4 rfl (qp rfl (Aa ?_))
       exact sn [] h
      ·refine qf G9 rfl (ql B9 rfl (qm rfl (ER rfl (qp rfl (Aa ?_)))))
       exact sn [] h
   ·refine Ba h (fun h => ?_) fun h => ?_
    ·refine wq rfl (qe rfl ?_)
     obtain rfl := sj h
     refine Ae (sm [] [(4, iD 4)] [] rfl rfl) (Ao ?_)
     exact ⟨⟨[_], tm, rfl⟩, tv⟩
    ·refine Al (wp rfl (qf Gy rfl (ql F5 rfl (qf BG rfl (ql Bg rfl (qf Dd rfl (ql B9 rfl ?_)))))))
     refine Ce h fun v12 a12 b12 h => qi Az DD a12 (Aj b12) rfl (qk B9 rfl (qf BG rfl (ql Bg rfl (qf G9 rfl (ql B9 rfl ?_)))))
     refine Ce h fun v13 a13 b13 h => qi Az DD a13 (Aj b13) rfl (qk B9 rfl ?_)
     refine By h fun v14 a14 h => Aq [] (EP N p1.fo v12 v13 v14 a14) Qc rfl (BJ rfl (AH (by kernel_rfl) ?_))
     refine Ba h (fun h => ?_) fun h => ?_
     ·refine wq rfl (qe rfl ?_)
      obtain rfl := sj h
      refine Ae (sm [] [(4, iD 6)] [] rfl rfl) (Ao ?_)
      exact ⟨⟨[_], tm, rfl⟩, tv⟩
     ·refine Al (wp rfl (qf D2 rfl (ql B9 rfl (Bo rfl (Aa ?_)))))
      refine Ba h (fun h => ?_) fun h => ?_
      ·refine wp rfl (qf DK rfl (ql F5 rfl (Aw DY rfl (Bo rfl (Aa ?_)))))
       refine Ba h (fun h => ?_) fun h => ?_
       ·refine wq rfl (qe rfl ?_)
        obtain rfl := sj h
        refine Ae (sm [] [(4, iD 6)] [] rfl rfl) (Ao ?_)
        exact ⟨⟨[_], tm, rfl⟩, tv⟩
       ·refine Al (wq rfl (qe rfl ?_))
        obtain rfl := sj h
        refine Ae (sm [] [(4, iD 0)] [] rfl rfl) (Ao ?_)
        exact ⟨⟨[_], tm, rfl⟩, tv⟩
      ·refine Al (wp rfl (qf DK rfl (ql F5 rfl (qf BG rfl (ql Bg rfl (qf Dd rfl (ql B9 rfl ?_)))))))
       refine Ce h fun v18 a18 b18 h => qi Az DD a18 (Aj b18) rfl (qk B9 rfl (qf BG rfl (ql Bg rfl (qf Dd rfl (ql B9 rfl ?_)))))
       refine Ce h fun v19 a19 b19 h => qi Az DD a19 (Aj b19) rfl (qk B9 rfl ?_)
       refine By h fun v20 a20 h => Aq [] (EP N p1.fi v18 v19 v20 a20) Qc rfl (BJ rfl (AH (by kernel_rfl) ?_))
       refine Ba h (fun h => ?_) fun h => ?_
       ·refine wq rfl (qe rfl ?_)
        obtain rfl := sj h
        refine Ae (sm [] [(4, iD 6)] [] rfl rfl) (Ao ?_)
        exact ⟨⟨[_], tm, rfl⟩, tv⟩
       ·refine Al (wp rfl (qe rfl ?_))
        refine AE (L := AT N p1) h (fun v22 => mk [(3, oD (.ptr 3 0)), (6, iD v22)] [(3, .box (Bc p1))]) (fun v23 => mk [] []) (fun _ _ => rfl) (sm [] _ _ rfl rfl) (fun j22 n22 v22 h => ?_) (fun v23 s h hs => ?_)
        ·unfold AT at h
         refine wp rfl (qm rfl (qf DK rfl (ql F5 rfl (Aw DY rfl (AY rfl (Aa ?_))))))
         refine Ba h (fun h => ?_) fun h => ?_
         ·refine Al (AB (AN (wq rfl (qf DK rfl (ql F5 rfl (qm rfl ?_))))))
          refine Ce h fun v25 a25 b25 h => qi DY KB a25 (Aj b25) rfl (qk KF rfl (qm rfl ?_))
          refine Ce h fun v26 a26 b26 h => qi HW QC a26 (Aj b26) rfl (qk OS rfl (BJ rfl (Aa ?_)))
          refine Ba h (fun h => ?_) fun h => ?_
          ·refine wq rfl (qe rfl ?_)
           obtain rfl := sj h
           refine Ae (sm [] [(4, iD 1)] [] rfl rfl) (Ao ?_)
           exact ⟨⟨[_], tm, rfl⟩, tv⟩
          ·refine Al (Ak Ay rfl (qm rfl (Bm rfl (qe rfl ?_))))
           exact sn [] h
         ·refine AZ ?_
          exact sn [] h
        ·refine Ae hs (wq rfl (qe rfl ?_))
         obtain rfl := sj h
         refine Ae (sm [] [(4, iD 0)] [] rfl rfl) (Ao ?_)
         exact ⟨⟨[_], tm, rfl⟩, tv⟩
theorem Dx (N : Nat) (p0 : Ab) (r : Int) (h : A5 N p0 = some r) : Ap Tryd.prog 10 [.e (.agg (Ai p0))] [] (iD r) := by
 unfold A5 at h
 refine cw (n := 102) (rs := [.tmp 2]) Tryd.func10 fun w0 S0 => ?_
 refine wq rfl (qb rfl (qa rfl (Aa (AB ?_))))
 refine AO h (fun v1 => mk [(1, oD (.ptr 1 0)), (16, bD v1)] [(1, .box (Ai p0))]) (fun j1 h => ?_) (fun v1 h => ?_)
 ·refine Ak Ay rfl (qf BG rfl (ql Bg rfl (Aw Az rfl (C0 rfl (qm rfl ?_)))))
  refine CR 11 h rfl (fun h => ?_) fun h => ?_
  ·refine qw 4 rfl (qp rfl (Aa ?_))
   exact sn [] h
  ·refine qf BE rfl (ql E9 rfl (Aw CI rfl (C0 rfl (qp rfl (Aa ?_)))))
   exact sn [] h
 ·refine Ba h (fun h => ?_) fun h => ?_
  ·refine wq rfl (qe rfl ?_)
   obtain rfl := sj h
   refine Ae (sm [] [(2, iD 3)] [] rfl rfl) (Ao ?_)
   exact ⟨⟨[_], tm, rfl⟩, tv⟩
  ·refine Al (AB ?_)
   refine AO h (fun v4 => mk [(1, oD (.ptr 1 0)), (32, bD v4)] [(1, .box (Ai p0))]) (fun j4 h => ?_) (fun v4 h => ?_)
   ·refine Ak Ay rfl (qf Ej rfl (ql Bg rfl (Aw Az rfl (qf BG rfl (ql Bg rfl (Aw Az rfl (Bo rfl (qm rfl ?_))))))))
    refine CR 24 h rfl (fun h => ?_) fun h => ?_
    ·refine qw 7 rfl (qp rfl (Aa ?_))
     exact sn [] h
    ·refine qf Gs rfl (ql Bg rfl (Aw Az rfl (qf BG rfl (ql Bg rfl (Aw Az rfl (Bo rfl (qp rfl (Aa ?_))))))))
     exact sn [] h
   ·refine Ba h (fun h => ?_) fun h => ?_
    ·refine wq rfl (qe rfl ?_)
     obtain rfl := sj h
     refine Ae (sm [] [(2, iD 6)] [] rfl rfl) (Ao ?_)
     exact ⟨⟨[_], tm, rfl⟩, tv⟩
    ·refine Al (wp rfl (qe rfl ?_))
     refine AE (L := AJ N p0) h (fun v7 => mk [(1, oD (.ptr 1 0)), (3, iD v7)] [(1, .box (Ai p0))]) (fun v8 => mk [(1, oD (.ptr 1 0))] [(1, .box (Ai p0))]) (fun _ _ => rfl) (sm [] _ _ rfl rfl) (fun j7 n7 v7 h => ?_) (fun v8 s h hs => ?_)
     ·unfold AJ at h
      refine wp rfl (qm rfl (qf BG rfl (ql Bg rfl (Aw Az rfl (AY rfl (Aa ?_))))))
      refine Ba h (fun h => ?_) fun h => ?_
      ·refine Al (AB (AN (wq rfl (qf BG rfl (ql Bg rfl (qm rfl ?_))))))
       refine Ce h fun v10 a10 b10 h => qi Az DD a10 (Aj b10) rfl (qk B9 rfl (qe rfl ?_))
       refine AO h (fun v11 => mk [(1, oD (.ptr 1 0)), (3, iD v7), (84, bD v11)] [(1, .box (Ai p0))]) (fun j11 h => ?_) (fun v11 h => ?_)
       ·refine Ak Ay rfl (qm rfl (AY rfl (qm rfl ?_)))
        refine CR 47 h rfl (fun h => ?_) fun h => ?_
        ·refine qw 2 rfl (qp rfl (qw 7 rfl (qp rfl (qw 8 rfl (qp rfl (qw 7 rfl (qp rfl (qw 8 rfl (qp rfl (Aa ?_))))))))))
         exact sn [] h
        ·refine qm rfl (C0 rfl (qp rfl (qm rfl ?_)))
         refine CR 51 h rfl (fun h => ?_) fun h => ?_
         ·refine qw 6 rfl (qp rfl (qw 8 rfl (qp rfl (qw 7 rfl (qp rfl (qw 8 rfl (qp rfl (Aa ?_))))))))
          exact sn [] h
         ·refine qf Ej rfl (ql Bg rfl (qm rfl ?_))
          refine Ce h fun v14 a14 b14 h => qi Az DD a14 (Aj b14) rfl (qk B9 rfl (AY rfl (qp rfl (qm rfl ?_))))
          refine CR 59 h rfl (fun h => ?_) fun h => ?_
          ·refine qw 7 rfl (qp rfl (qw 7 rfl (qp rfl (qw 8 rfl (qp rfl (Aa ?_))))))
           exact sn [] h
          ·refine qf Ej rfl (ql Bg rfl (qm rfl ?_))
           refine Ce h fun v16 a16 b16 h => qi Az DD a16 (Aj b16) rfl (qk B9 rfl (qm rfl (ER rfl (qp rfl (qm rfl ?_)))))
           refine CR 68 h rfl (fun h => ?_) fun h => ?_
           ·refine qw 6 rfl (qp rfl (qw 8 rfl (qp rfl (Aa ?_))))
            exact sn [] h
           ·refine qf Gs rfl (ql Bg rfl (qm rfl ?_))
            refine Ce h fun v18 a18 b18 h => qi Az DD a18 (Aj b18) rfl (qk B9 rfl (AY rfl (qp rfl (qm rfl ?_))))
            refine CR 76 h rfl (fun h => ?_) fun h => ?_
            ·refine qw 7 rfl (qp rfl (Aa ?_))
             exact sn [] h
            ·refine qf Gs rfl (ql Bg rfl (qm rfl ?_))
             refine Ce h fun v20 a20 b20 h => qi Az DD a20 (Aj b20) rfl (qk B9 rfl (qm rfl (ER rfl (qp rfl (Aa ?_)))))
             exact sn [] h
       ·refine Ba h (fun h => ?_) fun h => ?_
        ·refine wq rfl (qe rfl ?_)
         obtain rfl := sj h
         refine Ae (sm [] [(2, iD 7)] [] rfl rfl) (Ao ?_)
         exact ⟨⟨[_], tm, rfl⟩, tv⟩
        ·refine Al (Ak Ay rfl (qm rfl (Bm rfl (qe rfl ?_))))
         exact sn [] h
      ·refine AZ ?_
       exact sn [] h
     ·refine Ae hs (wp rfl (qe rfl ?_))
      refine AE (L := AF N p0) h (fun v22 => mk [(1, oD (.ptr 1 0)), (5, iD v22)] [(1, .box (Ai p0))]) (fun v23 => mk [] []) (fun _ _ => rfl) (sm [] _ _ rfl rfl) (fun j22 n22 v22 h => ?_) (fun v23 s h hs => ?_)
      ·unfold AF at h
       refine wp rfl (qm rfl (qf BE rfl (ql E9 rfl (Aw CI rfl (AY rfl (Aa ?_))))))
       refine Ba h (fun h => ?_) fun h => ?_
       ·refine Al (AB (AN (wq rfl (qL B5 BU rfl (qf BE rfl (ql E9 rfl (qm rfl ?_)))))))
        refine Ce h fun v25 a25 b25 h => qi CI Dm a25 (Aj b25) rfl (qK Hc Dm rfl ?_)
        refine By h fun v26 a26 h => Aq [] (He N p0 v25 v26 a26) Ra rfl (qa rfl (AH (by kernel_rfl) (wq rfl (qm rfl (Bo rfl (Aa ?_))))))
        refine Ba h (fun h => ?_) fun h => ?_
        ·refine wq rfl (qm rfl (qe rfl ?_))
         obtain rfl := sj h
         refine Ae (sm [] [(2, iD v26)] [] rfl rfl) (Ao ?_)
         exact ⟨⟨[_], tm, rfl⟩, tv⟩
        ·refine Al (Ak Ay rfl (qm rfl (Bm rfl (qe rfl ?_))))
         exact sn [] h
       ·refine AZ ?_
        exact sn [] h
      ·refine Ae hs (wq rfl (qe rfl ?_))
       obtain rfl := sj h
       refine Ae (sm [] [(2, iD 0)] [] rfl rfl) (Ao ?_)
       exact ⟨⟨[_], tm, rfl⟩, tv⟩
theorem GC (N : Nat) (r : Ab × (List Ac)) (h : Dc N = some r) : Ap Tryd.prog 21 [] [(1, r.1.fa.map An), (1, r.1.fh.map An), (1, r.1.fp.map An), (3, r.2.map Ag)] (.tup [.agg [.own 0, .own 1, .own 2, sC (r.1.fb.map AI)], .one (.own 3)]) := by
 unfold Dc at h
 refine cw (n := 13) (rs := [.cell 0 32, .tmp 1]) Tryd.func21 fun w0 S0 => ?_
 refine wq rfl (qz NO rfl (qa rfl (Aa (wq rfl (Fa Az DD LY rfl (Fa Az DD LY rfl (Fa Az DD LY rfl (Bb NO Rk rfl (qz NO rfl (qs BU rfl (Aa (wq rfl (qL B5 BU rfl (Bb Hs Ot rfl (Bb Hs Ot rfl (Bb Hs Ot rfl (Bb Hs Ot rfl (Fa A6 BT Hs rfl (qs BU rfl (qe rfl ?_))))))))))))))))))))
 obtain rfl := sj h
 refine Ae ((DG 0 _ rfl).trans (sm [(1000, 3), (1001, 4), (1002, 5), (1003, 12)] [(0, oD (.ptr 0 0)), (1, oD (.own 1003))] [(0, .box [.own 1000, .own 1001, .own 1002, sC ((([] : List Au)).map AI)]), (1000, .vec 1 ((([2, 2] : List Int)).map An)), (1001, .vec 1 ((([0, 0] : List Int)).map An)), (1002, .vec 1 ((([1, 1] : List Int)).map An)), (1003, .vec 3 ((([(Ac.mk 1 0 1), (Ac.mk 1 1 1), (Ac.mk 2 0 0), (Ac.mk 2 1 0)] : List Ac)).map Ag))] rfl rfl)) (Ao ?_)
 exact ⟨⟨[_, _], ⟨.cellN _ _ _ _ _ _ _ rfl rfl B5 BU rfl rfl (GG rfl), tm⟩, rfl⟩, ⟨rfl, rfl, rfl, rfl, tv⟩⟩
theorem Ex (N : Nat) (p0 : Int) (p1 : Int) (r : Bool) (h : BX N p0 p1 = some r) : Ap Tryd.prog 54 [iD p0, iD p1] [] (bD r) := by
 unfold BX at h
 refine cw (n := 12) (rs := [.tmp 4]) Tryd.func54 fun w0 S0 => ?_
 refine wq rfl (qe rfl ?_)
 refine AO h (fun v1 => mk [(4, bD v1)] []) (fun j1 h => ?_) (fun v1 h => ?_)
 ·refine Ak Ay rfl (qm rfl (ER rfl (qm rfl ?_)))
  refine CR 7 h rfl (fun h => ?_) fun h => ?_
  ·refine qw 2 rfl (AY rfl (qp rfl (qe rfl ?_)))
   exact sn [] h
  ·refine qw 3 rfl (qp rfl (qe rfl ?_))
   exact sn [] h
 ·obtain rfl := sj h
  refine Ae (sm [] [(4, bD v1)] [] rfl rfl) (Ao ?_)
  exact ⟨⟨[_], tm, rfl⟩, tv⟩
theorem J9 (N : Nat) (p0 : Int) (p1 : Bool) (r : Bool) (h : DV N p0 p1 = some r) : Ap Tryd.prog 69 [iD p0, bD p1] [] (bD r) := by
 unfold DV at h
 refine cw (n := 23) (rs := [.tmp 4]) Tryd.func69 fun w0 S0 => ?_
 refine wq rfl (qe rfl ?_)
 refine AO h (fun v1 => mk [(4, bD v1)] []) (fun j1 h => ?_) (fun v1 h => ?_)
 ·refine Ak Ay rfl (qm rfl (Bf rfl (qm rfl ?_)))
  refine CR 7 h rfl (fun h => ?_) fun h => ?_
  ·refine qw 2 rfl (qp rfl (qw 4 rfl (qu rfl (qu rfl (qw 2 rfl (qu rfl (qu rfl (qn rfl (qp rfl (qe rfl ?_))))))))))
   exact sn [] h
  ·refine qm rfl (Bf rfl (qp rfl (qm rfl ?_)))
   refine CR 11 h rfl (fun h => ?_) fun h => ?_
   ·refine qw 3 rfl (qu rfl (qu rfl (qw 2 rfl (qu rfl (qu rfl (qn rfl (qp rfl (qe rfl ?_))))))))
    exact sn [] h
   ·refine qm rfl (Bf rfl (qm rfl ?_))
    refine CR 14 h rfl (fun h => ?_) fun h => ?_
    ·refine qw 2 rfl (qp rfl (qw 2 rfl (BJ rfl (qp rfl (qp rfl (qe rfl ?_))))))
     exact sn [] h
    ·refine qm rfl (Bf rfl (qp rfl (qm rfl ?_)))
     refine CR 18 h rfl (fun h => ?_) fun h => ?_
     ·refine qm rfl (BJ rfl (qp rfl (qp rfl (qe rfl ?_))))
      exact sn [] h
     ·refine qw 2 rfl (qp rfl (qp rfl (qe rfl ?_)))
      exact sn [] h
 ·obtain rfl := sj h
  refine Ae (sm [] [(4, bD v1)] [] rfl rfl) (Ao ?_)
  exact ⟨⟨[_], tm, rfl⟩, tv⟩
theorem Ib (N : Nat) (p0 : List Bool) (p1 : Int) (r : Bool) (h : BQ N p0 p1 = some r) : Ap Tryd.prog 81 [pD (.sl (p0.map eB)), oD (.rop [.val (.int .i64 p1)])] [] (bD r) := by
 unfold BQ at h
 refine cw (n := 8) (rs := [.tmp 3]) Tryd.func81 fun w0 S0 => ?_
 refine wq rfl (qa rfl (Aa (wq rfl (qm rfl (Aw HW rfl (qk B9 rfl (Bo rfl (qe rfl ?_))))))))
 obtain rfl := sj h
 refine Ae (sm [] [(3, bD (((p0.length : Int) != p1)))] [] rfl rfl) (Ao ?_)
 exact ⟨⟨[_], tm, rfl⟩, tv⟩
theorem E2 (N : Nat) (p0 : List (List Bool)) (p1 : (List Bool) → Option Bool) (r : Int) (h : Bu N p0 p1 = some r) : Ap Tryd.prog 86 [pD (.sl (p0.map (FP eB))), oD (.clo (I1 (Mw false (FP eB)) tB p1))] [] (iD r) := by
 unfold Bu at h
 refine cw (n := 19) (rs := [.tmp 4]) Tryd.func86 fun w0 S0 => ?_
 refine wq rfl (qa rfl (Aa (wp rfl (qm rfl (Aw DY rfl (qm rfl (Aa ?_)))))))
 refine AE (L := AM N p0 p1) h (fun v1 => mk [(0, pD (.sl (p0.map (FP eB)))), (1, oD (.clo (I1 (Mw false (FP eB)) tB p1))), (7, iD ((p0.length : Int))), (8, iD v1)] []) (fun v2 => mk [] []) (fun _ _ => rfl) (sm [] _ _ rfl rfl) (fun j1 n1 v1 h => ?_) (fun v2 s h hs => ?_)
 ·unfold AM at h
  refine wq rfl (AY rfl (Aa (AB ?_)))
  refine Ba h (fun h => ?_) fun h => ?_
  ·refine Al (AB (AN (wq rfl (qm rfl (qa rfl (Aa (wq rfl (qw 3 rfl ?_))))))))
   refine Ce h fun v4 a4 b4 h => qi DY KB a4 (Aj b4) rfl (qk KF rfl ?_)
   refine By h fun v5 a5 h => L3 (ds0 := [_]) (ar := (Mw false (FP eB)) v4) (.p rfl) rfl rfl ⟨rfl, tv⟩ rfl rfl rfl (LO (L1 _ _ (Qx Q0)) a5) ?_
   refine Aa ?_
   refine Ba h (fun h => ?_) fun h => ?_
   ·refine wq rfl (qm rfl (qe rfl ?_))
    obtain rfl := sj h
    refine Ae (sm [] [(4, iD v1)] [] rfl rfl) (Ao ?_)
    exact ⟨⟨[_], tm, rfl⟩, tv⟩
   ·refine Al (Ak Ay rfl (Bm rfl (qm rfl (Aa ?_))))
    exact sn [] h
  ·refine AZ ?_
   exact sn [] h
 ·refine Ae hs (wq rfl (qe rfl ?_))
  obtain rfl := sj h
  refine Ae (sm [] [(4, iD ((-1)))] [] rfl rfl) (Ao ?_)
  exact ⟨⟨[_], tm, rfl⟩, tv⟩
theorem EA (N : Nat) (p0 : List (List Bool)) (p1 : (List Bool) → Option Bool) (r : Bool) (h : Bk N p0 p1 = some r) : Ap Tryd.prog 80 [pD (.sl (p0.map (FP eB))), oD (.clo (I1 (Mw false (FP eB)) tB p1))] [] (bD r) := by
 unfold Bk at h
 refine cw (n := 9) (rs := [.tmp 4]) Tryd.func80 fun w0 S0 => ?_
 refine wq rfl (qa rfl (Aa (wq rfl (qw 2 rfl ?_))))
 refine By h fun v1 a1 h => Aq [] (E2 N p0 p1 v1 a1) Rp rfl (ER rfl (qe rfl ?_))
 obtain rfl := sj h
 refine Ae (sm [] [(4, bD ((decide (0 ≤ v1))))] [] rfl rfl) (Ao ?_)
 exact ⟨⟨[_], tm, rfl⟩, tv⟩
theorem GT (N : Nat) (p0 : List (List Bool)) (p1 : Int) (p2 : Int) (r : Bool) (h : CD N p0 p1 p2 = some r) : Ap Tryd.prog 70 [pD (.sl (p0.map (FP eB))), iD p1, iD p2] [] (bD r) := by
 unfold CD at h
 refine cw (n := 17) (rs := [.tmp 6]) Tryd.func70 fun w0 S0 => ?_
 refine wq rfl (qb rfl (qe rfl ?_))
 refine AO h (fun v1 => mk [(6, bD v1)] []) (fun j1 h => ?_) (fun v1 h => ?_)
 ·refine Ak Ay rfl (qm rfl (Aw DY rfl (qm rfl (Bf rfl (qm rfl ?_)))))
  refine CR 11 h rfl (fun h => ?_) fun h => ?_
  ·refine qm rfl (C4 (HY 5 [.val (.int .i64 p2)] rfl rfl) ?_)
   refine Lx (capD := [_]) (I1 (Mw false (FP eB)) tB ((fun (x : List Bool) => BQ N x p2))) (.g rfl rfl) QI rfl ⟨rfl, tv⟩ rfl (fun ar t ht => by obtain ⟨x, r, rfl, hq, rfl⟩ := JT ht; exact Ib N x p2 r hq) ?_
   refine By h fun v3 a3 h => Aq [] (EA N p0 ((fun (x : List Bool) => BQ N x p2)) v3 a3) QP rfl (BJ rfl (qp rfl (qe rfl ?_)))
   exact sn [] h
  ·refine qw 4 rfl (qp rfl (qe rfl ?_))
   exact sn [] h
 ·obtain rfl := sj h
  refine Ae (sm [] [(6, bD v1)] [] rfl rfl) (Ao ?_)
  exact ⟨⟨[_], tm, rfl⟩, tv⟩
theorem JB (N : Nat) (p0 : Ab) (p1 : Au) (r : Int) (h : DA N p0 p1 = some r) : Ap Tryd.prog 55 [.e (.agg (Ai p0)), .e (.agg (Bc p1))] [] (iD r) := by
 unfold DA at h
 refine cw (n := 87) (rs := [.tmp 4]) Tryd.func55 fun w0 S0 => ?_
 refine wq rfl (qb rfl (qb rfl (qa rfl (Aa (wp rfl (qf D2 rfl (ql B9 rfl (qf IJ rfl (ql OS rfl ?_)))))))))
 refine By h fun v1 a1 h => Aq [] (J9 N p1.fd p1.fq v1 a1) QD rfl (BJ rfl (Aa ?_))
 refine Ba h (fun h => ?_) fun h => ?_
 ·refine wq rfl (qe rfl ?_)
  obtain rfl := sj h
  refine Ae (sm [] [(4, iD 1)] [] rfl rfl) (Ao ?_)
  exact ⟨⟨[_], tm, rfl⟩, tv⟩
 ·refine Al (AB ?_)
  refine AO h (fun v3 => mk [(2, oD (.ptr 2 0)), (3, oD (.ptr 3 0)), (29, bD v3)] [(2, .box (Ai p0)), (3, .box (Bc p1))]) (fun j3 h => ?_) (fun v3 h => ?_)
  ·refine Ak Ay rfl (qf Dd rfl (ql B9 rfl (qf BG rfl (ql Bg rfl (Aw Az rfl ?_)))))
   refine By h fun v4 a4 h => Aq [] (Ex N p1.fg ((p0.fa.length : Int)) v4 a4) Or rfl (BJ rfl (qm rfl ?_))
   refine CR 21 h rfl (fun h => ?_) fun h => ?_
   ·refine qw 7 rfl (qp rfl (Aa ?_))
    exact sn [] h
   ·refine qf G9 rfl (ql B9 rfl (qf BG rfl (ql Bg rfl (Aw Az rfl ?_))))
    refine By h fun v6 a6 h => Aq [] (Ex N p1.fm ((p0.fa.length : Int)) v6 a6) Or rfl (BJ rfl (qp rfl (Aa ?_)))
    exact sn [] h
  ·refine Ba h (fun h => ?_) fun h => ?_
   ·refine wq rfl (qe rfl ?_)
    obtain rfl := sj h
    refine Ae (sm [] [(4, iD 4)] [] rfl rfl) (Ao ?_)
    exact ⟨⟨[_], tm, rfl⟩, tv⟩
   ·refine Al (wq rfl (qf BG rfl (ql Bg rfl (qf Dd rfl (ql B9 rfl ?_)))))
    refine Ce h fun v8 a8 b8 h => qi Az DD a8 (Aj b8) rfl (qk B9 rfl (qa rfl (Aa (wq rfl (qf D2 rfl (ql B9 rfl (Bf rfl (qa rfl (Aa (AB ?_))))))))))
    refine AO h (fun v9 => mk [(3, oD (.ptr 3 0)), (70, bD v9)] [(3, .box (Bc p1))]) (fun j9 h => ?_) (fun v9 h => ?_)
    ·refine Ak Ay rfl (qf Gy rfl (ql F5 rfl (qm rfl (qf BG rfl (ql Bg rfl (qf G9 rfl (ql B9 rfl ?_)))))))
     refine Ce h fun v10 a10 b10 h => qi Az DD a10 (Aj b10) rfl (qk B9 rfl ?_)
     refine By h fun v11 a11 h => Aq [] (GT N p1.fo v8 v10 v11 a11) PR rfl (BJ rfl (qm rfl ?_))
     refine CR 50 h rfl (fun h => ?_) fun h => ?_
     ·refine qw 2 rfl (qu rfl (qu rfl (qu rfl (qu rfl (qu rfl (qu rfl (qn rfl (qp rfl (qw 4 rfl (qu rfl (qu rfl (qu rfl (qu rfl (qn rfl (qp rfl (AH (by kernel_rfl) ?_))))))))))))))))
      exact sn [] h
     ·refine qw 2 rfl ?_
      refine CR 52 h rfl (fun h => ?_) fun h => ?_
      ·refine qf DK rfl (ql F5 rfl (qw 2 rfl ?_))
       refine By h fun v14 a14 h => Aq [] (GT N p1.fi v8 v8 v14 a14) PR rfl (BJ rfl (qp rfl (qp rfl (qm rfl ?_))))
       refine CR 61 h rfl (fun h => ?_) fun h => ?_
       ·refine qw 3 rfl (qu rfl (qu rfl (qu rfl (qu rfl (qn rfl (qp rfl (AH (by kernel_rfl) ?_)))))))
        exact sn [] h
       ·refine qm rfl (BJ rfl (qm rfl ?_))
        refine CR 64 h rfl (fun h => ?_) fun h => ?_
        ·refine qf DK rfl (ql F5 rfl (Aw DY rfl (C0 rfl (qp rfl (qp rfl (AH (by kernel_rfl) ?_))))))
         exact sn [] h
        ·refine qw 4 rfl (qp rfl (qp rfl (AH (by kernel_rfl) ?_)))
         exact sn [] h
      ·refine qw 6 rfl (qp rfl (qp rfl (qw 2 rfl (BJ rfl (qm rfl ?_)))))
       refine CR 64 h rfl (fun h => ?_) fun h => ?_
       ·refine qf DK rfl (ql F5 rfl (Aw DY rfl (C0 rfl (qp rfl (qp rfl (AH (by kernel_rfl) ?_))))))
        exact sn [] h
       ·refine qw 4 rfl (qp rfl (qp rfl (AH (by kernel_rfl) ?_)))
        exact sn [] h
    ·refine Ba h (fun h => ?_) fun h => ?_
     ·refine wq rfl (qe rfl ?_)
      obtain rfl := sj h
      refine Ae (sm [] [(4, iD 6)] [] rfl rfl) (Ao ?_)
      exact ⟨⟨[_], tm, rfl⟩, tv⟩
     ·refine Al (wp rfl (qf DK rfl (ql F5 rfl (Aw DY rfl (qm rfl (Aa ?_))))))
      refine AE (L := Bp N p1) h (fun v19 => mk [(3, oD (.ptr 3 0)), (73, iD ((p1.fi.length : Int))), (74, iD v19)] [(3, .box (Bc p1))]) (fun v20 => mk [] []) (fun _ _ => rfl) (sm [] _ _ rfl rfl) (fun j19 n19 v19 h => ?_) (fun v20 s h hs => ?_)
      ·unfold Bp at h
       refine wq rfl (AY rfl (Aa (AB ?_)))
       refine Ba h (fun h => ?_) fun h => ?_
       ·refine Al (AB (AN (wq rfl (qm rfl (qa rfl (Aa (wq rfl (qf DK rfl (ql F5 rfl (qm rfl ?_))))))))))
        refine Ce h fun v22 a22 b22 h => qi DY KB a22 (Aj b22) rfl (qk KF rfl (qm rfl ?_))
        refine Ce h fun v23 a23 b23 h => qi HW QC a23 (Aj b23) rfl (qk OS rfl (BJ rfl (Aa ?_)))
        refine Ba h (fun h => ?_) fun h => ?_
        ·refine wq rfl (qe rfl ?_)
         obtain rfl := sj h
         refine Ae (sm [] [(4, iD 1)] [] rfl rfl) (Ao ?_)
         exact ⟨⟨[_], tm, rfl⟩, tv⟩
        ·refine Al (Ak Ay rfl (Bm rfl (qm rfl (Aa ?_))))
         exact sn [] h
       ·refine AZ ?_
        exact sn [] h
      ·refine Ae hs (wq rfl (qe rfl ?_))
       obtain rfl := sj h
       refine Ae (sm [] [(4, iD 0)] [] rfl rfl) (Ao ?_)
       exact ⟨⟨[_], tm, rfl⟩, tv⟩
theorem Dv (N : Nat) (p0 : Ab) (r : Int) (h : Bi N p0 = some r) : Ap Tryd.prog 38 [.e (.agg (Ai p0))] [] (iD r) := by
 unfold Bi at h
 refine cw (n := 81) (rs := [.tmp 2]) Tryd.func38 fun w0 S0 => ?_
 refine wq rfl (qb rfl (qa rfl (Aa (wq rfl (qf BG rfl (ql Bg rfl (Aw Az rfl (qa rfl (Aa (AB ?_))))))))))
 refine AO h (fun v1 => mk [(1, oD (.ptr 1 0)), (3, iD ((p0.fa.length : Int))), (19, bD v1)] [(1, .box (Ai p0))]) (fun j1 h => ?_) (fun v1 h => ?_)
 ·refine Ak Ay rfl (qm rfl (C0 rfl (qm rfl ?_)))
  refine CR 14 h rfl (fun h => ?_) fun h => ?_
  ·refine qw 4 rfl (qp rfl (Aa ?_))
   exact sn [] h
  ·refine qf BE rfl (ql E9 rfl (Aw CI rfl (C0 rfl (qp rfl (Aa ?_)))))
   exact sn [] h
 ·refine Ba h (fun h => ?_) fun h => ?_
  ·refine wq rfl (qe rfl ?_)
   obtain rfl := sj h
   refine Ae (sm [] [(2, iD 3)] [] rfl rfl) (Ao ?_)
   exact ⟨⟨[_], tm, rfl⟩, tv⟩
  ·refine Al (AB ?_)
   refine AO h (fun v4 => mk [(1, oD (.ptr 1 0)), (31, bD v4)] [(1, .box (Ai p0))]) (fun j4 h => ?_) (fun v4 h => ?_)
   ·refine Ak Ay rfl (qf Ej rfl (ql Bg rfl (Aw Az rfl (qm rfl (Bo rfl (qm rfl ?_))))))
    refine CR 25 h rfl (fun h => ?_) fun h => ?_
    ·refine qw 5 rfl (qp rfl (Aa ?_))
     exact sn [] h
    ·refine qf Gs rfl (ql Bg rfl (Aw Az rfl (qm rfl (Bo rfl (qp rfl (Aa ?_))))))
     exact sn [] h
   ·refine Ba h (fun h => ?_) fun h => ?_
    ·refine wq rfl (qe rfl ?_)
     obtain rfl := sj h
     refine Ae (sm [] [(2, iD 6)] [] rfl rfl) (Ao ?_)
     exact ⟨⟨[_], tm, rfl⟩, tv⟩
    ·refine Al (wp rfl (qf BG rfl (ql Bg rfl (Aw Az rfl (qm rfl (Aa ?_))))))
     refine AE (L := AV N p0) h (fun v7 => mk [(1, oD (.ptr 1 0)), (33, pD (.sl (p0.fa.map An))), (34, iD ((p0.fa.length : Int))), (35, iD v7)] [(1, .box (Ai p0))]) (fun v8 => mk [(1, oD (.ptr 1 0))] [(1, .box (Ai p0))]) (fun _ _ => rfl) (sm [] _ _ rfl rfl) (fun j7 n7 v7 h => ?_) (fun v8 s h hs => ?_)
     ·unfold AV at h
      refine wq rfl (AY rfl (Aa (AB ?_)))
      refine Ba h (fun h => ?_) fun h => ?_
      ·refine Al (AB (AN (wq rfl (qm rfl ?_))))
       refine Ce h fun v10 a10 b10 h => qi Az DD a10 (Aj b10) rfl (qk B9 rfl (qa rfl (qe rfl ?_)))
       refine AO h (fun v11 => mk [(1, oD (.ptr 1 0)), (33, pD (.sl (p0.fa.map An))), (34, iD ((p0.fa.length : Int))), (35, iD v7), (65, bD v11)] [(1, .box (Ai p0))]) (fun j11 h => ?_) (fun v11 h => ?_)
       ·refine Ak Ay rfl (qm rfl (AY rfl (qm rfl ?_)))
        refine CR 42 h rfl (fun h => ?_) fun h => ?_
        ·refine qw 2 rfl (qp rfl (qw 9 rfl (qp rfl (qw 9 rfl (qp rfl (Aa ?_))))))
         exact sn [] h
        ·refine qm rfl (C0 rfl (qp rfl (qm rfl ?_)))
         refine CR 46 h rfl (fun h => ?_) fun h => ?_
         ·refine qw 8 rfl (qp rfl (qw 9 rfl (qp rfl (Aa ?_))))
          exact sn [] h
         ·refine qf Ej rfl (ql Bg rfl (qm rfl ?_))
          refine Ce h fun v14 a14 b14 h => qi Az DD a14 (Aj b14) rfl (qk B9 rfl (qm rfl ?_))
          refine By h fun v15 a15 h => Aq [] (Ex N v14 v10 v15 a15) Or rfl (BJ rfl (qp rfl (qm rfl ?_)))
          refine CR 56 h rfl (fun h => ?_) fun h => ?_
          ·refine qw 8 rfl (qp rfl (Aa ?_))
           exact sn [] h
          ·refine qf Gs rfl (ql Bg rfl (qm rfl ?_))
           refine Ce h fun v17 a17 b17 h => qi Az DD a17 (Aj b17) rfl (qk B9 rfl (qm rfl ?_))
           refine By h fun v18 a18 h => Aq [] (Ex N v17 v10 v18 a18) Or rfl (BJ rfl (qp rfl (Aa ?_)))
           exact sn [] h
       ·refine Ba h (fun h => ?_) fun h => ?_
        ·refine wq rfl (qe rfl ?_)
         obtain rfl := sj h
         refine Ae (sm [] [(2, iD 7)] [] rfl rfl) (Ao ?_)
         exact ⟨⟨[_], tm, rfl⟩, tv⟩
        ·refine Al (Ak Ay rfl (Bm rfl (qm rfl (Aa ?_))))
         exact sn [] h
      ·refine AZ ?_
       exact sn [] h
     ·refine Ae hs (wp rfl (qf BE rfl (ql E9 rfl (Aw CI rfl (qm rfl (Aa ?_))))))
      refine AE (L := AS N p0) h (fun v20 => mk [(1, oD (.ptr 1 0)), (68, pD (.sl (p0.fb.map AI))), (69, iD ((p0.fb.length : Int))), (70, iD v20)] [(1, .box (Ai p0))]) (fun v21 => mk [] []) (fun _ _ => rfl) (sm [] _ _ rfl rfl) (fun j20 n20 v20 h => ?_) (fun v21 s h hs => ?_)
      ·unfold AS at h
       refine wq rfl (AY rfl (Aa (AB ?_)))
       refine Ba h (fun h => ?_) fun h => ?_
       ·refine Al (AB (AN (wq rfl ?_)))
        refine Ce h fun v23 a23 b23 h => qi CI Dm a23 (Aj b23) rfl (qK Hc Dm rfl (qz Mh rfl (qs Dm rfl (Aa (wq rfl (qL B5 BU rfl (qL Hc Dm rfl ?_)))))))
        refine By h fun v24 a24 h => Aq [] (JB N p0 v23 v24 a24) Q5 rfl (qa rfl (Aa (wq rfl (qm rfl (Bo rfl (Aa ?_))))))
        refine Ba h (fun h => ?_) fun h => ?_
        ·refine wq rfl (qm rfl (qe rfl ?_))
         obtain rfl := sj h
         refine Ae (sm [] [(2, iD v24)] [] rfl rfl) (Ao ?_)
         exact ⟨⟨[_], tm, rfl⟩, tv⟩
        ·refine Al (Ak Ay rfl (Bm rfl (qm rfl (Aa ?_))))
         exact sn [] h
       ·refine AZ ?_
        exact sn [] h
      ·refine Ae hs (wq rfl (qe rfl ?_))
       obtain rfl := sj h
       refine Ae (sm [] [(2, iD 0)] [] rfl rfl) (Ao ?_)
       exact ⟨⟨[_], tm, rfl⟩, tv⟩
theorem BN (N : Nat) (p0 : List Int) (r : (List Int)) (h : AR N p0 = some r) : Ap Tryd.prog 43 [pD (.sl (p0.map An))] [(1, r.map An)] (oD (.own 0)) := by
 unfold AR at h
 refine cw (n := 8) (rs := [.tmp 2]) Tryd.func43 fun w0 S0 => ?_
 refine wq rfl (qa rfl (Aa (wp rfl (qm rfl ?_))))
 refine Kn (.p rfl) rfl Az ?_
 refine Aa ?_
 refine Kh rfl (fun c2 => ?_) ?_
 ·have c2 := List.map_eq_nil_iff.1 c2
  rw [c2] at h
  have h : (some (([] : List Int))) = some r := h
  refine wq rfl (qe rfl ?_)
  obtain rfl := sj h
  refine Ae ((B3 2 2001 1 rfl rfl rfl).trans (sm [(1000, 2001)] [(2, oD (.own 1000))] [(1000, .vec 1 ((([] : List Int)).map An))] rfl rfl)) (Ao ?_)
  exact ⟨⟨[_], tm, rfl⟩, ⟨rfl, tv⟩⟩
 ·refine Al (wq rfl (Fa Az DD LY rfl (qm rfl ?_)))
  refine Ge h fun c1 h => Lm (f := An) Az Az DD MH LY (fun _ => rfl) c1 rfl (qe rfl ?_)
  obtain rfl := sj h
  refine Ae (sm [(1000, 7)] [(2, oD (.own 1000))] [(1000, .vec 1 (((([] : List Int)) ++ p0).map An))] rfl rfl) (Ao ?_)
  exact ⟨⟨[_], tm, rfl⟩, ⟨rfl, tv⟩⟩
theorem HP (N : Nat) (p0 : Int) (p1 : Int) (r : Int × Int) (h : D5 N p0 p1 = some r) : Ap Tryd.prog 72 [pD (.val (.int .u32 p0)), pD (.val (.int .u32 p1))] [] (.tup [.one (.pure (.val (.int .u32 r.1))), .one (.pure (.val (.int .u32 r.2)))]) := by
 unfold D5 at h
 refine cw (n := 17) (rs := [.tmp 4, .tmp 5]) Tryd.func72 fun w0 S0 => ?_
 refine wq rfl (qa rfl (qa rfl (Aa (wq rfl (qm rfl (IG LP Oy rfl (qm rfl (IG LP Oy rfl (I8 rfl (qa rfl (Aa (wq rfl (qm rfl (HS rfl (by decide) (IG OO LZ rfl (qm rfl (IG OO LZ rfl (qa rfl (qe rfl ?_)))))))))))))))))))
 obtain rfl := sj h
 refine Ae (sm [] [(4, pD (.val (.int .u32 ((wI .u32 ((EM .u64 ((wI .u64 ((wI .u64 p0) * (wI .u64 p1)))) 32))))))), (5, pD (.val (.int .u32 ((wI .u32 ((wI .u64 ((wI .u64 p0) * (wI .u64 p1)))))))))] [] rfl rfl) (Ao ?_)
 exact ⟨⟨[_, _], ⟨.tmp _ _ rfl, tm⟩, rfl⟩, tv⟩
theorem HV (N : Nat) (p0 : Int) (p1 : Int) (r : Int × Int) (h : D4 N p0 p1 = some r) : Ap Tryd.prog 73 [pD (.val (.int .u64 p0)), pD (.val (.int .u64 p1))] [] (.tup [.one (.pure (.val (.int .u64 r.1))), .one (.pure (.val (.int .u64 r.2)))]) := by
 unfold D4 at h
 refine cw (n := 51) (rs := [.tmp 4, .tmp 5]) Tryd.func73 fun w0 S0 => ?_
 refine wq rfl (qa rfl (qa rfl (Aa (wq rfl (qm rfl (IT rfl (qa rfl (Aa (wq rfl (qm rfl (HS rfl (by decide) (qa rfl (Aa (wq rfl (qm rfl (IT rfl (qa rfl (Aa (wq rfl (qm rfl (HS rfl (by decide) (qa rfl (Aa (wq rfl (qw 2 rfl (I8 rfl (qa rfl (Aa (wq rfl (qw 2 rfl ?_))))))))))))))))))))))))))))))
 refine I8 rfl (qm rfl (HS rfl (by decide) (Bm rfl (qa rfl (Aa (wq rfl (qm rfl (IT rfl (qa rfl (Aa (wq rfl (qm rfl (HS rfl (by decide) (qa rfl (Aa (wq rfl (qw 3 rfl (I8 rfl (Bm rfl (qa rfl (Aa (wq rfl (qw 2 rfl (I8 rfl (qm rfl (Bm rfl (qm rfl (HS rfl (by decide) (Bm rfl (qa rfl (Aa (AB ?_))))))))))))))))))))))))))))))))
 refine Ak Ay rfl (qw 2 rfl (I8 rfl (qe rfl ?_)))
 obtain rfl := sj h
 refine Ae (sm [] [(4, pD (.val (.int .u64 ((wI .u64 ((wI .u64 ((wI .u64 ((EM .u64 p0 32) * (EM .u64 p1 32))) + (EM .u64 ((wI .u64 ((wI .u64 ((EM .u64 p0 32) * (Fk .u64 p1 4294967295))) + (EM .u64 ((wI .u64 ((Fk .u64 p0 4294967295) * (Fk .u64 p1 4294967295)))) 32)))) 32))) + (EM .u64 ((wI .u64 ((Fk .u64 ((wI .u64 ((wI .u64 ((EM .u64 p0 32) * (Fk .u64 p1 4294967295))) + (EM .u64 ((wI .u64 ((Fk .u64 p0 4294967295) * (Fk .u64 p1 4294967295)))) 32)))) 4294967295) + (wI .u64 ((Fk .u64 p0 4294967295) * (EM .u64 p1 32)))))) 32))))))), (5, pD (.val (.int .u64 ((wI .u64 (p0 * p1))))))] [] rfl rfl) (Ao ?_)
 exact ⟨⟨[_, _], ⟨.tmp _ _ rfl, tm⟩, rfl⟩, tv⟩
theorem IB (N : Nat) (p0 : Int) (p1 : Int) (r : Int × Int) (h : EG N p0 p1 = some r) : Ap Tryd.prog 59 [pD (.val (.int .u64 p0)), pD (.val (.int .u64 p1))] [] (.tup [.one (.pure (.val (.int .u64 r.1))), .one (.pure (.val (.int .u64 r.2)))]) := by
 unfold EG at h
 refine cw (n := 30) (rs := [.tmp 4, .tmp 5]) Tryd.func59 fun w0 S0 => ?_
 refine wq rfl (qa rfl (qa rfl (Aa (AB ?_))))
 refine Ba h (fun h => ?_) fun h => ?_
 ·refine wq rfl (qm rfl (IG MK LZ rfl (qm rfl (IG MK LZ rfl ?_))))
  refine By h fun v2 a2 h => Aq [] (HP N ((wI .u32 p0)) ((wI .u32 p1)) v2 a2) Rl rfl (qm rfl (qx rfl (qx rfl (qa rfl (qa rfl (Aa (wq rfl (qm rfl (IG LP LN rfl (qm rfl (IG LP LN rfl (qa rfl (qe rfl ?_)))))))))))))
  obtain rfl := sj h
  refine Ae (sm [] [(4, pD (.val (.int .u64 ((wI .u64 v2.1))))), (5, pD (.val (.int .u64 ((wI .u64 v2.2)))))] [] rfl rfl) (Ao ?_)
  exact ⟨⟨[_, _], ⟨.tmp _ _ rfl, tm⟩, rfl⟩, tv⟩
 ·refine Al (wq rfl (qw 2 rfl ?_))
  refine By h fun v3 a3 h => Aq [] (HV N p0 p1 v3 a3) Rn rfl (qm rfl (qx rfl (qx rfl (qa rfl (qa rfl (Aa (wq rfl (qw 2 rfl (qa rfl (qe rfl ?_))))))))))
  obtain rfl := sj h
  refine Ae (sm [] [(4, pD (.val (.int .u64 v3.1))), (5, pD (.val (.int .u64 v3.2)))] [] rfl rfl) (Ao ?_)
  exact ⟨⟨[_, _], ⟨.tmp _ _ rfl, tm⟩, rfl⟩, tv⟩
theorem Ga (N : Nat) (p0 : List Int) (p1 : Int) (r : (List Int)) (h : B8 N p0 p1 = some r) : Ap Tryd.prog 44 [pD (.sl (p0.map An)), iD p1] [(1, r.map An)] (oD (.own 0)) := by
 unfold B8 at h
 refine cw (n := 48) (rs := [.tmp 4]) Tryd.func44 fun w0 S0 => ?_
 refine wq rfl (qe rfl ?_)
 refine AO h (fun v1 => mk [(0, pD (.sl (p0.map An))), (1, iD p1)] []) (fun j1 h => ?_) (fun v1 h => ?_)
 ·refine wq rfl (qm rfl (AY rfl (Aa ?_)))
  refine Ba h (fun h => ?_) fun h => ?_
  ·refine Ak Ay rfl ?_
   cases h
  ·refine Al ?_
   exact sn [] h
 ·refine wq rfl (qm rfl (Aw Az rfl (IG RC LN rfl (qm rfl (IG RC LN rfl ?_)))))
  refine By h fun v3 a3 h => Aq [] (IB N ((wI .u64 ((p0.length : Int)))) ((wI .u64 p1)) v3 a3) QM rfl (qm rfl (qx rfl (qx rfl (qa rfl (qe rfl ?_)))))
  refine AO h (fun v4 => mk [(0, pD (.sl (p0.map An))), (6, pD (.val (.int .u64 v3.2)))] []) (fun j4 h => ?_) (fun v4 h => ?_)
  ·refine AO h (fun v5 => mk [(0, pD (.sl (p0.map An))), (6, pD (.val (.int .u64 v3.2))), (26, bD v5)] []) (fun j5 h => ?_) (fun v5 h => ?_)
   ·refine Ak Ay rfl (qm rfl (C0 rfl (qm rfl ?_)))
    refine CR 23 h rfl (fun h => ?_) fun h => ?_
    ·refine qw 2 rfl (qp rfl (Aa ?_))
     exact sn [] h
    ·refine qm rfl (C0 rfl (qp rfl (Aa ?_)))
     exact sn [] h
   ·refine Ba h (fun h => ?_) fun h => ?_
    ·refine Ak Ay rfl ?_
     cases h
    ·refine Al ?_
     exact sn [] h
  ·refine wq rfl (qm rfl (IG MK RA rfl ?_))
   refine Ge h fun c8 h => Iz (.p rfl) rfl rfl rfl Az DD MH (Hl rfl) LY rfl rfl rfl c8.1 c8.2.1 c8.2.2 (LM An _ ((0 : Int))) ?_
   refine qa rfl (Aa (wq rfl (qw 2 rfl ?_)))
   refine L4 An (List.replicate ((wI .i64 v3.2)).toNat ((0 : Int))) p0 (.p rfl) rfl (GO An _ _ (List.replicate ((wI .i64 v3.2)).toNat ((0 : Int)))) rfl rfl (N2 An _ _ (fun _ => rfl)) tv Az DD ?_
   refine qa rfl (Aa (AB ?_))
   refine AE (L := BF N) h (fun v9 => mk [(7, oD (.own 2001)), (8, iD v9.2)] [(2001, .vec 1 (v9.1.map An))]) (fun v10 => mk [(7, oD (.own 2002))] [(2002, .vec 1 (v10.map An))]) (fun _ _ => rfl) (sm [(2001, 30)] _ _ rfl rfl) (fun j9 n9 v9 h => ?_) (fun v10 s h hs => ?_)
   ·unfold BF at h
    refine wp rfl (qw 2 rfl (Fz Az rfl (AY rfl (Aa ?_))))
    refine Ba h (fun h => ?_) fun h => ?_
    ·refine Al (AN (Ak Ay rfl (qw 3 rfl ?_)))
     obtain ⟨c12, h⟩ := Et h
     have w13 : ((v9.2).toNat) + ((v9.1.length - (v9.2).toNat)) ≤ v9.1.length := by have := c12.2.1; have := c12.2.2; omega
     refine GX An v9.1 (.p rfl) rfl (GO An _ _ v9.1) rfl Az DD (.some _ _ _ _ c12.1) (.none _) ⟨rfl, tv⟩ tv c12.2.1 (by rw [Nat.zero_add]; exact c12.2.2) (Nat.zero_add _) rfl ?_
     refine qw 2 rfl ?_
     obtain ⟨c14, h⟩ := Et h
     have w15 : 0 + ((v9.2).toNat) ≤ v9.1.length := by have := c14.2.1; have := c14.2.2; omega
     refine GX An v9.1 (.p rfl) rfl (GO An _ _ v9.1) rfl Az DD (.none _) (.some _ _ _ _ c14.1) tv ⟨rfl, tv⟩ c14.2.1 (by rw [Nat.zero_add]; exact c14.2.2) (Nat.zero_add _) rfl ?_
     refine L4 An v9.1 (((v9.1.drop 0).take ((v9.2).toNat))) (.p rfl) rfl (G8 An _ _ ((v9.2).toNat) ((v9.1.length - (v9.2).toNat)) v9.1 w13) rfl rfl (J1 An _ _ 0 ((v9.2).toNat) v9.1 w15) ⟨rfl, tv⟩ Az DD ?_
     refine Bm rfl (qa rfl (AH (by kernel_rfl) ?_))
     exact sn [] h
    ·refine AZ ?_
     exact sn [(2002, 2001)] h
   ·refine Ae hs (wq rfl (qm rfl (qe rfl ?_)))
    obtain rfl := sj h
    refine Ae (sm [(1000, 2002)] [(4, oD (.own 1000))] [(1000, .vec 1 (v10.map An))] rfl rfl) (Ao ?_)
    exact ⟨⟨[_], tm, rfl⟩, ⟨rfl, tv⟩⟩
theorem Gw (N : Nat) (p0 : Au) (r : Bool) (h : CL N p0 = some r) : Ap Tryd.prog 40 [.e (.agg (Bc p0))] [] (bD r) := by
 unfold CL at h
 refine cw (n := 11) (rs := [.tmp 2]) Tryd.func40 fun w0 S0 => ?_
 refine wq rfl (qb rfl (qe rfl ?_))
 refine AO h (fun v1 => mk [(2, bD v1)] []) (fun j1 h => ?_) (fun v1 h => ?_)
 ·refine Ak Ay rfl (qf D2 rfl (ql B9 rfl (Bf rfl (qm rfl ?_))))
  refine CR 6 h rfl (fun h => ?_) fun h => ?_
  ·refine qw 3 rfl (qp rfl (qe rfl ?_))
   exact sn [] h
  ·refine qf D2 rfl (ql B9 rfl (Bf rfl (qp rfl (qe rfl ?_))))
   exact sn [] h
 ·obtain rfl := sj h
  refine Ae (sm [] [(2, bD v1)] [] rfl rfl) (Ao ?_)
  exact ⟨⟨[_], tm, rfl⟩, tv⟩
theorem GI (N : Nat) (p0 : Ab) (r : Ah × Int) (h : Dg N p0 = some r) : Ap Tryd.prog 29 [.e (.agg (Ai p0))] [(1, r.1.fe.map An), (1, r.1.fc.map An), (1, r.1.ff.map Cl)] (.tup [.agg [.own 0, .own 1, .own 2], .one (iC r.2)]) := by
 unfold Dg at h
 refine cw (n := 50) (rs := [.cell 2 38, .tmp 3]) Tryd.func29 fun w0 S0 => ?_
 refine wq rfl (qb rfl (qz Cj rfl (qa rfl (Aa (wp rfl (qL B5 BU rfl ?_))))))
 refine By h fun v1 a1 h => Aq [] (Dv N p0 v1 a1) Ph rfl (qa rfl (Aa (wq rfl (qm rfl (Bo rfl (Aa ?_))))))
 refine Ba h (fun h => ?_) fun h => ?_
 ·refine wq rfl (Bb Cj Gf rfl (qm rfl (qs AD rfl (qe rfl ?_))))
  obtain rfl := sj h
  refine Ae ((AU 2 0 2001 1 _ rfl rfl rfl rfl).trans ((AU 2 1 2002 1 _ rfl rfl rfl rfl).trans ((AU 2 2 2003 1 _ rfl rfl rfl rfl).trans (sm [(1000, 2001), (1001, 2002), (1002, 2003)] [(2, oD (.ptr 2 0)), (3, iD v1)] [(2, .box [.own 1000, .own 1001, .own 1002]), (1000, .vec 1 ((([] : List Int)).map An)), (1001, .vec 1 ((([] : List Int)).map An)), (1002, .vec 1 ((([] : List Int)).map Cl))] rfl rfl)))) (Ao ?_)
  exact ⟨⟨[_, _], ⟨.cellN _ _ _ _ _ _ _ rfl rfl Be AD rfl rfl (GG rfl), tm⟩, rfl⟩, ⟨rfl, rfl, rfl, tv⟩⟩
 ·refine Al (wq rfl (qf Ej rfl (ql Bg rfl ?_)))
  refine By h fun v3 a3 h => Aq [2004] (BN N p0.fh v3 a3) M8 rfl (Fa Az DD LY rfl (qf Ej rfl (ql Bg rfl (Aw Az rfl ?_))))
  refine By h fun v4 a4 h => Hb [2005] [17] (Ga N (([(-1)] : List Int)) ((p0.fh.length : Int)) v4 a4) Rv (Lg (fun _ => rfl) Fg) rfl (qf BE rfl (ql E9 rfl (Aw CI rfl ?_)))
  refine Ge h fun c5 h => Iz (.p rfl) rfl rfl rfl Do Gq MR (Hl rfl) MO rfl rfl rfl c5.1 c5.2.1 c5.2.2 (LM Cl _ ((0 : Int))) ?_
  refine Bb Cj Gf rfl (qz Cj rfl (qs AD rfl (AH (by kernel_rfl) (wp rfl (qf BE rfl (ql E9 rfl (Aw CI rfl (qm rfl (Aa ?_)))))))))
  refine AE (L := BV N p0) h (fun v6 => mk [(1, oD (.ptr 1 0)), (2, oD (.ptr 2 0)), (5, oD (.ptr 5 0)), (28, pD (.sl (p0.fb.map AI))), (29, iD ((p0.fb.length : Int))), (30, iD v6.2)] [(1, .box (Ai p0)), (2, .box [.pure (.nil0), .pure (.nil0), .pure (.nil0)]), (5, .box [.own 2006, .own 2007, .own 2008]), (2006, .vec 1 (v3.map An)), (2007, .vec 1 (v4.map An)), (2008, .vec 1 (v6.1.map Cl))]) (fun v7 => mk [(2, oD (.ptr 2 0)), (5, oD (.ptr 5 0))] [(2, .box [.pure (.nil0), .pure (.nil0), .pure (.nil0)]), (5, .box [.own 2009, .own 2010, .own 2011]), (2009, .vec 1 (v3.map An)), (2010, .vec 1 (v4.map An)), (2011, .vec 1 (v7.map Cl))]) (fun _ _ => rfl) (sm [(2006, 2004), (2007, 2005), (2008, 25)] _ _ rfl rfl) (fun j6 n6 v6 h => ?_) (fun v7 s h hs => ?_)
  ·unfold BV at h
   refine wq rfl (AY rfl (Aa (AB ?_)))
   refine Ba h (fun h => ?_) fun h => ?_
   ·refine Al ?_
    refine AO h (fun v9 => mk [(1, oD (.ptr 1 0)), (2, oD (.ptr 2 0)), (5, oD (.ptr 5 0)), (28, pD (.sl (p0.fb.map AI))), (29, iD ((p0.fb.length : Int))), (30, iD v6.2)] [(1, .box (Ai p0)), (2, .box [.pure (.nil0), .pure (.nil0), .pure (.nil0)]), (5, .box [.own 2012, .own 2013, .own 2014]), (2012, .vec 1 (v3.map An)), (2013, .vec 1 (v4.map An)), (2014, .vec 1 (v9.map Cl))]) (fun j9 h => ?_) (fun v9 h => ?_)
    ·refine AN (wq rfl (qm rfl ?_))
     refine Ce h fun v10 a10 b10 h => qi CI Dm a10 (Aj b10) rfl (qK Hc Dm rfl (qz Mh rfl (qa rfl (qs Dm rfl (Aa (wq rfl (qL Hc Dm rfl ?_)))))))
     refine By h fun v11 a11 h => Aq [] (Gw N v10 v11 a11) O5 rfl (Aa ?_)
     refine Ba h (fun h => ?_) fun h => ?_
     ·refine Ak Ay rfl (qf Dh rfl (ql HT rfl (qm rfl (qf Ej rfl (ql Bg rfl (qf Dd rfl (ql B9 rfl ?_)))))))
      refine Ce h fun v13 a13 b13 h => qi Az DD a13 (Aj b13) rfl (qk B9 rfl ?_)
      refine Ge h fun c14 h => H0 rfl c14 ?_
      refine Ce h fun v15 a15 b15 h => qI Do Gq a15 (Aj b15) rfl ?_
      refine Fr rfl rfl rfl rfl (Aj b15) rfl Gq rfl (Hl rfl) (Fw Cl v6.1 _ ((EF .u8 1 v13))) ?_
      refine AH (by kernel_rfl) ?_
      exact sn [(2012, 2006), (2013, 2007), (2014, 2008)] h
     ·refine Al ?_
      exact sn [(2012, 2006), (2013, 2007), (2014, 2008)] h
    ·refine Ak Ay rfl (Bm rfl (qm rfl (Aa ?_)))
     exact sn [(2006, 2012), (2007, 2013), (2008, 2014)] h
   ·refine AZ ?_
    exact sn [(2009, 2006), (2010, 2007), (2011, 2008)] h
  ·refine Ae hs (wq rfl (qL Be AD rfl (qs AD rfl (qe rfl ?_))))
   obtain rfl := sj h
   refine Ae (sm [(1000, 2009), (1001, 2010), (1002, 2011)] [(2, oD (.ptr 2 0)), (3, iD 0)] [(2, .box [.own 1000, .own 1001, .own 1002]), (1000, .vec 1 (v3.map An)), (1001, .vec 1 (v4.map An)), (1002, .vec 1 (v7.map Cl))] rfl rfl) (Ao ?_)
   exact ⟨⟨[_, _], ⟨.cellN _ _ _ _ _ _ _ rfl rfl Be AD rfl rfl (GG rfl), tm⟩, rfl⟩, ⟨rfl, rfl, rfl, tv⟩⟩
theorem FY (N : Nat) (p0 : Ah) (p1 : Int) (r : Int) (h : Cw N p0 p1 = some r) : Ap Tryd.prog 41 [.e (.agg (AA p0)), iD p1] [] (pD (.val (.int .u8 r))) := by
 unfold Cw at h
 refine cw (n := 27) (rs := [.tmp 4]) Tryd.func41 fun w0 S0 => ?_
 refine wq rfl (qb rfl (qa rfl (Aa (wq rfl (qf CW rfl (ql Bg rfl (qm rfl ?_)))))))
 refine Ce h fun v1 a1 b1 h => qi Az DD a1 (Aj b1) rfl (qk B9 rfl ?_)
 refine Ge h fun c2 h => H0 rfl c2 (qe rfl ?_)
 refine AO h (fun v3 => mk [(5, pD (.val (.int .u8 v3)))] []) (fun j3 h => ?_) (fun v3 h => ?_)
 ·refine wq rfl (qf B7 rfl (ql Bg rfl (qm rfl ?_)))
  refine Ce h fun v4 a4 b4 h => qi Az DD a4 (Aj b4) rfl (qk B9 rfl (ER rfl (Aa ?_)))
  refine Ba h (fun h => ?_) fun h => ?_
  ·refine Ak Ay rfl (qm rfl (qf B7 rfl (ql Bg rfl (qm rfl ?_))))
   refine Ce h fun v6 a6 b6 h => qi Az DD a6 (Aj b6) rfl (qk B9 rfl ?_)
   refine Ge h fun c7 h => H0 rfl c7 (PC rfl (qe rfl ?_))
   exact sn [] h
  ·refine Al ?_
   exact sn [] h
 ·refine wq rfl (qm rfl (qe rfl ?_))
  obtain rfl := sj h
  refine Ae (sm [] [(4, pD (.val (.int .u8 v3)))] [] rfl rfl) (Ao ?_)
  exact ⟨⟨[_], tm, rfl⟩, tv⟩
theorem FM (N : Nat) (p0 : Ab) (p1 : Ah) (r : Int) (h : CK N p0 p1 = some r) : Ap Tryd.prog 27 [.e (.agg (Ai p0)), .e (.agg (AA p1))] [] (iD r) := by
 unfold CK at h
 refine cw (n := 135) (rs := [.tmp 4]) Tryd.func27 fun w0 S0 => ?_
 refine wq rfl (qb rfl (qb rfl (qa rfl (Aa (wp rfl (qL B5 BU rfl ?_))))))
 refine By h fun v1 a1 h => Aq [] (Dv N p0 v1 a1) Ph rfl (qa rfl (Aa (wq rfl (qm rfl (Bo rfl (Aa ?_))))))
 refine Ba h (fun h => ?_) fun h => ?_
 ·refine wq rfl (qm rfl (qe rfl ?_))
  obtain rfl := sj h
  refine Ae (sm [] [(4, iD v1)] [] rfl rfl) (Ao ?_)
  exact ⟨⟨[_], tm, rfl⟩, tv⟩
 ·refine Al (AB ?_)
  refine AO h (fun v3 => mk [(2, oD (.ptr 2 0)), (3, oD (.ptr 3 0)), (41, bD v3)] [(2, .box (Ai p0)), (3, .box (AA p1))]) (fun j3 h => ?_) (fun v3 h => ?_)
  ·refine Ak Ay rfl (qf CW rfl (ql Bg rfl (Aw Az rfl (qf BG rfl (ql Bg rfl (Aw Az rfl (Bo rfl (qm rfl ?_))))))))
   refine CR 24 h rfl (fun h => ?_) fun h => ?_
   ·refine qw 7 rfl (qp rfl (qw 8 rfl (qp rfl (Aa ?_))))
    exact sn [] h
   ·refine qf B7 rfl (ql Bg rfl (Aw Az rfl (qf BG rfl (ql Bg rfl (Aw Az rfl (Bo rfl (qp rfl (qm rfl ?_))))))))
    refine CR 33 h rfl (fun h => ?_) fun h => ?_
    ·refine qw 7 rfl (qp rfl (Aa ?_))
     exact sn [] h
    ·refine qf Dh rfl (ql HT rfl (Aw Do rfl (qf BE rfl (ql E9 rfl (Aw CI rfl (Bo rfl (qp rfl (Aa ?_))))))))
     exact sn [] h
  ·refine Ba h (fun h => ?_) fun h => ?_
   ·refine wq rfl (qe rfl ?_)
    obtain rfl := sj h
    refine Ae (sm [] [(4, iD 6)] [] rfl rfl) (Ao ?_)
    exact ⟨⟨[_], tm, rfl⟩, tv⟩
   ·refine Al (wp rfl (qf BG rfl (ql Bg rfl (Aw Az rfl (qm rfl (Aa ?_))))))
    refine AE (L := BW N p0 p1) h (fun v7 => mk [(2, oD (.ptr 2 0)), (3, oD (.ptr 3 0)), (43, pD (.sl (p0.fa.map An))), (44, iD ((p0.fa.length : Int))), (45, iD v7)] [(2, .box (Ai p0)), (3, .box (AA p1))]) (fun v8 => mk [(2, oD (.ptr 2 0)), (3, oD (.ptr 3 0))] [(2, .box (Ai p0)), (3, .box (AA p1))]) (fun _ _ => rfl) (sm [] _ _ rfl rfl) (fun j7 n7 v7 h => ?_) (fun v8 s h hs => ?_)
    ·unfold BW at h
     refine wq rfl (AY rfl (Aa (AB ?_)))
     refine Ba h (fun h => ?_) fun h => ?_
     ·refine Al (AB (AN (wq rfl (qm rfl ?_))))
      refine Ce h fun v10 a10 b10 h => qi Az DD a10 (Aj b10) rfl (qk B9 rfl (qa rfl (qa rfl (Aa (AB ?_)))))
      refine AO h (fun v11 => mk [(2, oD (.ptr 2 0)), (3, oD (.ptr 3 0)), (6, iD v7), (43, pD (.sl (p0.fa.map An))), (44, iD ((p0.fa.length : Int))), (45, iD v7), (81, bD v11)] [(2, .box (Ai p0)), (3, .box (AA p1))]) (fun j11 h => ?_) (fun v11 h => ?_)
      ·refine Ak Ay rfl (qf CW rfl (ql Bg rfl (qm rfl ?_)))
       refine Ce h fun v12 a12 b12 h => qi Az DD a12 (Aj b12) rfl (qk B9 rfl (AY rfl (qm rfl ?_)))
       refine CR 56 h rfl (fun h => ?_) fun h => ?_
       ·refine qw 7 rfl (qp rfl (qw 7 rfl (qp rfl (qw 8 rfl (qp rfl (Aa ?_))))))
        exact sn [] h
       ·refine qf CW rfl (ql Bg rfl (qm rfl ?_))
        refine Ce h fun v14 a14 b14 h => qi Az DD a14 (Aj b14) rfl (qk B9 rfl (qm rfl (ER rfl (qp rfl (qm rfl ?_)))))
        refine CR 65 h rfl (fun h => ?_) fun h => ?_
        ·refine qw 6 rfl (qp rfl (qw 8 rfl (qp rfl (Aa ?_))))
         exact sn [] h
        ·refine qf B7 rfl (ql Bg rfl (qm rfl ?_))
         refine Ce h fun v16 a16 b16 h => qi Az DD a16 (Aj b16) rfl (qk B9 rfl (AY rfl (qp rfl (qm rfl ?_))))
         refine CR 73 h rfl (fun h => ?_) fun h => ?_
         ·refine qw 7 rfl (qp rfl (Aa ?_))
          exact sn [] h
         ·refine qf B7 rfl (ql Bg rfl (qm rfl ?_))
          refine Ce h fun v18 a18 b18 h => qi Az DD a18 (Aj b18) rfl (qk B9 rfl (qm rfl (ER rfl (qp rfl (Aa ?_)))))
          exact sn [] h
      ·refine Ba h (fun h => ?_) fun h => ?_
       ·refine wq rfl (qe rfl ?_)
        obtain rfl := sj h
        refine Ae (sm [] [(4, iD 7)] [] rfl rfl) (Ao ?_)
        exact ⟨⟨[_], tm, rfl⟩, tv⟩
       ·refine Al (wq rfl (qf CW rfl (ql Bg rfl (qm rfl ?_))))
        refine Ce h fun v20 a20 b20 h => qi Az DD a20 (Aj b20) rfl (qk B9 rfl (qf B7 rfl (ql Bg rfl (qm rfl ?_))))
        refine Ce h fun v21 a21 b21 h => qi Az DD a21 (Aj b21) rfl (qk B9 rfl (Bf rfl (AH (by kernel_rfl) ?_)))
        refine Ba h (fun h => ?_) fun h => ?_
        ·refine wq rfl (qe rfl ?_)
         obtain rfl := sj h
         refine Ae (sm [] [(4, iD 1)] [] rfl rfl) (Ao ?_)
         exact ⟨⟨[_], tm, rfl⟩, tv⟩
        ·refine Al (Ak Ay rfl (Bm rfl (qm rfl (Aa ?_))))
         exact sn [] h
     ·refine AZ ?_
      exact sn [] h
    ·refine Ae hs (wp rfl (qf BE rfl (ql E9 rfl (Aw CI rfl (qm rfl (Aa ?_))))))
     refine AE (L := BC N p0 p1) h (fun v23 => mk [(2, oD (.ptr 2 0)), (3, oD (.ptr 3 0)), (95, pD (.sl (p0.fb.map AI))), (96, iD ((p0.fb.length : Int))), (97, iD v23)] [(2, .box (Ai p0)), (3, .box (AA p1))]) (fun v24 => mk [] []) (fun _ _ => rfl) (sm [] _ _ rfl rfl) (fun j23 n23 v23 h => ?_) (fun v24 s h hs => ?_)
     ·unfold BC at h
      refine wq rfl (AY rfl (Aa (AB ?_)))
      refine Ba h (fun h => ?_) fun h => ?_
      ·refine Al (AB (AN (wq rfl (qm rfl ?_))))
       refine Ce h fun v26 a26 b26 h => qi CI Dm a26 (Aj b26) rfl (qK Hc Dm rfl (qz Mh rfl (qa rfl (qs Dm rfl (Aa (wq rfl (qa rfl (qe rfl ?_))))))))
       refine AO h (fun v27 => mk [(2, oD (.ptr 2 0)), (3, oD (.ptr 3 0)), (8, iD v23), (10, pD (.val (.int .u8 v27.1))), (11, pD (.val (.int .u8 v27.2))), (95, pD (.sl (p0.fb.map AI))), (96, iD ((p0.fb.length : Int))), (97, iD v23)] [(2, .box (Ai p0)), (3, .box (AA p1))]) (fun j27 h => ?_) (fun v27 h => ?_)
       ·refine wq rfl (qL Hc Dm rfl ?_)
        refine By h fun v28 a28 h => Aq [] (Gw N v26 v28 a28) O5 rfl (Aa ?_)
        refine Ba h (fun h => ?_) fun h => ?_
        ·refine Ak Ay rfl (qL Be AD rfl (qf Dd rfl (ql B9 rfl ?_)))
         refine By h fun v30 a30 h => Aq [] (FY N p1 v26.fg v30 a30) Pn rfl (qf BG rfl (ql Bg rfl (qf Dd rfl (ql B9 rfl ?_))))
         refine Ce h fun v31 a31 b31 h => qi Az DD a31 (Aj b31) rfl (qk B9 rfl ?_)
         refine Ge h fun c32 h => H0 rfl c32 (L0 rfl (qa rfl (qa rfl (AH (by kernel_rfl) ?_))))
         exact sn [] h
        ·refine Al ?_
         exact sn [] h
       ·refine AO h (fun v33 => mk [(2, oD (.ptr 2 0)), (3, oD (.ptr 3 0)), (95, pD (.sl (p0.fb.map AI))), (96, iD ((p0.fb.length : Int))), (97, iD v23), (133, bD v33)] [(2, .box (Ai p0)), (3, .box (AA p1))]) (fun j33 h => ?_) (fun v33 h => ?_)
        ·refine Ak Ay rfl (qm rfl (qf Dh rfl (ql HT rfl (qm rfl ?_))))
         refine Ce h fun v34 a34 b34 h => qi Do Gq a34 (Aj b34) rfl (qk KQ rfl (IU rfl (Bo rfl (qm rfl ?_))))
         refine CR 124 h rfl (fun h => ?_) fun h => ?_
         ·refine qw 8 rfl (qp rfl (Aa ?_))
          exact sn [] h
         ·refine qf Dh rfl (ql HT rfl (qm rfl ?_))
          refine Ce h fun v36 a36 b36 h => qi Do Gq a36 (Aj b36) rfl (qk KQ rfl (qm rfl (IU rfl (Bo rfl (qp rfl (Aa ?_))))))
          exact sn [] h
        ·refine Ba h (fun h => ?_) fun h => ?_
         ·refine wq rfl (qe rfl ?_)
          obtain rfl := sj h
          refine Ae (sm [] [(4, iD 1)] [] rfl rfl) (Ao ?_)
          exact ⟨⟨[_], tm, rfl⟩, tv⟩
         ·refine Al (Ak Ay rfl (Bm rfl (qm rfl (Aa ?_))))
          exact sn [] h
      ·refine AZ ?_
       exact sn [] h
     ·refine Ae hs (wq rfl (qe rfl ?_))
      obtain rfl := sj h
      refine Ae (sm [] [(4, iD 0)] [] rfl rfl) (Ao ?_)
      exact ⟨⟨[_], tm, rfl⟩, tv⟩
theorem CZ (N : Nat) (p0 : List Int) (r : (List Int)) (h : Bn N p0 = some r) : Ap Tryd.prog 76 [pD (.sl (p0.map Cl))] [(1, r.map Cl)] (oD (.own 0)) := by
 unfold Bn at h
 refine cw (n := 8) (rs := [.tmp 2]) Tryd.func76 fun w0 S0 => ?_
 refine wq rfl (qa rfl (Aa (wp rfl (qm rfl ?_))))
 refine Kn (.p rfl) rfl Do ?_
 refine Aa ?_
 refine Kh rfl (fun c2 => ?_) ?_
 ·have c2 := List.map_eq_nil_iff.1 c2
  rw [c2] at h
  have h : (some (([] : List Int))) = some r := h
  refine wq rfl (qe rfl ?_)
  obtain rfl := sj h
  refine Ae ((B3 2 2001 1 rfl rfl rfl).trans (sm [(1000, 2001)] [(2, oD (.own 1000))] [(1000, .vec 1 ((([] : List Int)).map Cl))] rfl rfl)) (Ao ?_)
  exact ⟨⟨[_], tm, rfl⟩, ⟨rfl, tv⟩⟩
 ·refine Al (wq rfl (Fa Do Gq MO rfl (qm rfl ?_)))
  refine Ge h fun c1 h => Lm (f := Cl) Do Do Gq MR MO (fun _ => rfl) c1 rfl (qe rfl ?_)
  obtain rfl := sj h
  refine Ae (sm [(1000, 7)] [(2, oD (.own 1000))] [(1000, .vec 1 (((([] : List Int)) ++ p0).map Cl))] rfl rfl) (Ao ?_)
  exact ⟨⟨[_], tm, rfl⟩, ⟨rfl, tv⟩⟩
theorem Kg (N : Nat) (p0 : Ab) (p1 : Ah) (r : (List Ah) × Int) (h : DX N p0 p1 = some r) : Ap Tryd.prog 61 [.e (.agg (Ai p0)), .e (.agg (AA p1))] [(3, r.1.map Cr)] (.tup [.one (.own 0), .one (iC r.2)]) := by
 unfold DX at h
 refine cw (n := 75) (rs := [.tmp 4, .tmp 5]) Tryd.func61 fun w0 S0 => ?_
 refine wq rfl (qb rfl (qb rfl (qa rfl (qa rfl (Aa (wp rfl (qL B5 BU rfl (qL Be AD rfl ?_))))))))
 refine By h fun v1 a1 h => Aq [] (FM N p0 p1 v1 a1) NH rfl (qa rfl (Aa (wq rfl (qm rfl (Bo rfl (Aa ?_))))))
 refine Ba h (fun h => ?_) fun h => ?_
 ·refine wq rfl (qm rfl (qa rfl (qe rfl ?_)))
  obtain rfl := sj h
  refine Ae ((B3 4 2001 3 rfl rfl rfl).trans (sm [(1000, 2001)] [(4, oD (.own 1000)), (5, iD v1)] [(1000, .vec 3 ((([] : List Ah)).map Cr))] rfl rfl)) (Ao ?_)
  exact ⟨⟨[_, _], ⟨.tmp _ _ rfl, tm⟩, rfl⟩, ⟨rfl, tv⟩⟩
 ·refine Al (wq rfl (qa rfl (Aa (wp rfl (qf B7 rfl (ql Bg rfl (Aw Az rfl (qm rfl (Aa ?_)))))))))
  refine AE (L := DH N p1) h (fun v3 => mk [(3, oD (.ptr 3 0)), (7, oD (.own 2002)), (22, pD (.sl (p1.fc.map An))), (23, iD ((p1.fc.length : Int))), (24, iD v3.2)] [(3, .box (AA p1)), (2002, .vec 1 (v3.1.map An))]) (fun v4 => mk [(3, oD (.ptr 3 0)), (7, oD (.own 2003))] [(3, .box (AA p1)), (2003, .vec 1 (v4.map An))]) (fun _ _ => rfl) ((B3 7 2005 1 rfl rfl rfl).trans (sm [(2002, 2005)] _ _ rfl rfl)) (fun j3 n3 v3 h => ?_) (fun v4 s h hs => ?_)
  ·unfold DH at h
   refine wq rfl (AY rfl (Aa (AB ?_)))
   refine Ba h (fun h => ?_) fun h => ?_
   ·refine Al ?_
    refine AO h (fun v6 => mk [(3, oD (.ptr 3 0)), (7, oD (.own 2004)), (22, pD (.sl (p1.fc.map An))), (23, iD ((p1.fc.length : Int))), (24, iD v3.2)] [(3, .box (AA p1)), (2004, .vec 1 (v6.map An))]) (fun j6 h => ?_) (fun v6 h => ?_)
    ·refine AN (wq rfl (qm rfl ?_))
     refine Ce h fun v7 a7 b7 h => qi Az DD a7 (Aj b7) rfl (qk B9 rfl (qa rfl (qa rfl (Aa (wq rfl (qm rfl (ER rfl (Aa ?_))))))))
     refine Ba h (fun h => ?_) fun h => ?_
     ·refine Ak Ay rfl (qw 2 rfl (Fa Az DD LY rfl ?_))
      refine Ge h fun c9 h => Gv (f := An) Az Az DD MH LY c9 rfl (qe rfl ?_)
      exact sn [(2004, 34)] h
     ·refine Al ?_
      exact sn [(2004, 2002)] h
    ·refine Ak Ay rfl (Bm rfl (qm rfl (Aa ?_)))
     exact sn [(2002, 2004)] h
   ·refine AZ ?_
    exact sn [(2003, 2002)] h
  ·refine Ae hs (wq rfl (qa rfl (Aa (wp rfl (qm rfl (Fz Az rfl ?_))))))
   refine Ge h fun c10 h => H0 rfl c10 (qm rfl (Aa ?_))
   refine AE (L := Dr N p1 v4) h (fun v11 => mk [(3, oD (.ptr 3 0)), (7, oD (.own 2006)), (10, oD (.own 2007)), (38, iD ((EF .i64 1 ((v4.length : Int))))), (39, iD v11.2)] [(3, .box (AA p1)), (2006, .vec 1 (v4.map An)), (2007, .vec 3 (v11.1.map Cr))]) (fun v12 => mk [(10, oD (.own 2008))] [(2008, .vec 3 (v12.map Cr))]) (fun _ _ => rfl) ((B3 10 2027 3 rfl rfl rfl).trans (sm [(2006, 2003), (2007, 2027)] _ _ rfl rfl)) (fun j11 n11 v11 h => ?_) (fun v12 s h hs => ?_)
   ·unfold Dr at h
    refine wq rfl (AY rfl (Aa (AB ?_)))
    refine Ba h (fun h => ?_) fun h => ?_
    ·refine Al (AB (AN (wq rfl (qm rfl (qa rfl (Aa (wq rfl (qf CW rfl (ql Bg rfl ?_)))))))))
     refine By h fun v14 a14 h => Aq [2009] (BN N p1.fe v14 a14) M8 rfl (qf B7 rfl (ql Bg rfl ?_))
     refine By h fun v15 a15 h => Aq [2010] (BN N p1.fc v15 a15) M8 rfl (qf Dh rfl (ql HT rfl ?_))
     refine By h fun v16 a16 h => Aq [2011] (CZ N p1.ff v16 a16) Qa rfl (Bb Cj Gf rfl (qz Cj rfl (qs AD rfl (AH (by kernel_rfl) (wp rfl (qm rfl (Fz Az rfl (qm rfl (Aa ?_)))))))))
     refine AE (L := Dp N v4 v11) h (fun v17 => mk [(3, oD (.ptr 3 0)), (7, oD (.own 2015)), (10, oD (.own 2016)), (11, iD v11.2), (12, oD (.ptr 12 0)), (38, iD ((EF .i64 1 ((v4.length : Int))))), (39, iD v11.2), (52, oD (.own 2015)), (53, iD ((v4.length : Int))), (54, iD v17.2)] [(3, .box (AA p1)), (12, .box [.own 2012, .own 2013, .own 2014]), (2012, .vec 1 (v14.map An)), (2013, .vec 1 (v17.1.map An)), (2014, .vec 1 (v16.map Cl)), (2015, .vec 1 (v4.map An)), (2016, .vec 3 (v11.1.map Cr))]) (fun v18 => mk [(3, oD (.ptr 3 0)), (7, oD (.own 2020)), (10, oD (.own 2021)), (12, oD (.ptr 12 0)), (38, iD ((EF .i64 1 ((v4.length : Int))))), (39, iD v11.2)] [(3, .box (AA p1)), (12, .box [.own 2017, .own 2018, .own 2019]), (2017, .vec 1 (v14.map An)), (2018, .vec 1 (v18.map An)), (2019, .vec 1 (v16.map Cl)), (2020, .vec 1 (v4.map An)), (2021, .vec 3 (v11.1.map Cr))]) (fun _ _ => rfl) (sm [(2012, 2009), (2013, 2010), (2014, 2011), (2015, 2006), (2016, 2007)] _ _ rfl rfl) (fun j17 n17 v17 h => ?_) (fun v18 s h hs => ?_)
     ·unfold Dp at h
      refine wq rfl (AY rfl (Aa (AB ?_)))
      refine Ba h (fun h => ?_) fun h => ?_
      ·refine Al ?_
       refine AO h (fun v20 => mk [(3, oD (.ptr 3 0)), (7, oD (.own 2025)), (10, oD (.own 2026)), (11, iD v11.2), (12, oD (.ptr 12 0)), (38, iD ((EF .i64 1 ((v4.length : Int))))), (39, iD v11.2), (52, oD (.own 2025)), (53, iD ((v4.length : Int))), (54, iD v17.2)] [(3, .box (AA p1)), (12, .box [.own 2022, .own 2023, .own 2024]), (2022, .vec 1 (v14.map An)), (2023, .vec 1 (v20.map An)), (2024, .vec 1 (v16.map Cl)), (2025, .vec 1 (v4.map An)), (2026, .vec 3 (v11.1.map Cr))]) (fun j20 h => ?_) (fun v20 h => ?_)
       ·refine AN (wq rfl (qm rfl ?_))
        refine Ce h fun v21 a21 b21 h => qI Az DD a21 (Aj b21) rfl (qj B9 (Aj b21) rfl (qa rfl (qa rfl (Aa (wq rfl (qw 2 rfl ?_))))))
        refine Ge h fun c22 h => HS rfl c22 (IT rfl (Bf rfl (Aa ?_)))
        refine Ba h (fun h => ?_) fun h => ?_
        ·refine Ak Ay rfl (qf B7 rfl (ql Bg rfl (qm rfl ?_)))
         refine Ce h fun v24 a24 b24 h => qI Az DD a24 (Aj b24) rfl ?_
         refine Fr rfl rfl rfl rfl (Aj b24) rfl DD rfl (Hl rfl) (Fw An v17.1 _ ((-1))) ?_
         refine Aa ?_
         exact sn [(2022, 2012), (2023, 2013), (2024, 2014), (2025, 2015), (2026, 2016)] h
        ·refine Al ?_
         exact sn [(2022, 2012), (2023, 2013), (2024, 2014), (2025, 2015), (2026, 2016)] h
       ·refine Ak Ay rfl (Bm rfl (qm rfl (Aa ?_)))
        exact sn [(2012, 2022), (2013, 2023), (2014, 2024), (2015, 2025), (2016, 2026)] h
      ·refine AZ ?_
       exact sn [(2017, 2012), (2018, 2013), (2019, 2014), (2020, 2015), (2021, 2016)] h
     ·refine Ae hs (Ak Ay rfl (qm rfl (qL Be AD rfl (C4 (A0 2017 _ _ rfl rfl) (C4 (A0 2018 _ _ rfl rfl) (C4 (A0 2019 _ _ rfl rfl) (Fa FH AD Cj rfl ?_)))))))
      refine Ge h fun c25 h => Gv (f := Cr) FH FH AD OA Cj c25 rfl (qa rfl (Aa (Ak Ay rfl (Bm rfl (qm rfl (Aa ?_))))))
      exact sn [(2006, 2020), (2007, 72)] h
    ·refine AZ ?_
     exact sn [(2008, 2007)] h
   ·refine Ae hs (wq rfl (qm rfl (qa rfl (qe rfl ?_))))
    obtain rfl := sj h
    refine Ae (sm [(1000, 2008)] [(4, oD (.own 1000)), (5, iD 0)] [(1000, .vec 3 (v12.map Cr))] rfl rfl) (Ao ?_)
    exact ⟨⟨[_, _], ⟨.tmp _ _ rfl, tm⟩, rfl⟩, ⟨rfl, tv⟩⟩
theorem IE (N : Nat) (p0 : Ab) (p1 : Ah) (r : (List Ar)) (h : EH N p0 p1 = some r) : Ap Tryd.prog 62 [.e (.agg (Ai p0)), .e (.agg (AA p1))] [(3, r.map A8)] (oD (.own 0)) := by
 unfold EH at h
 refine cw (n := 98) (rs := [.tmp 4]) Tryd.func62 fun w0 S0 => ?_
 refine wq rfl (qb rfl (qb rfl (qa rfl (Aa (wq rfl (qa rfl (Aa (wp rfl (qf BE rfl (ql E9 rfl (Aw CI rfl (qm rfl (Aa ?_)))))))))))))
 refine AE (L := CS N p0 p1) h (fun v1 => mk [(3, oD (.ptr 3 0)), (5, oD (.own 2001)), (15, pD (.sl (p0.fb.map AI))), (16, iD ((p0.fb.length : Int))), (17, iD v1.2)] [(3, .box (AA p1)), (2001, .vec 3 (v1.1.map A8))]) (fun v2 => mk [(5, oD (.own 2002))] [(2002, .vec 3 (v2.map A8))]) (fun _ _ => rfl) ((B3 5 2013 3 rfl rfl rfl).trans (sm [(2001, 2013)] _ _ rfl rfl)) (fun j1 n1 v1 h => ?_) (fun v2 s h hs => ?_)
 ·unfold CS at h
  refine wq rfl (AY rfl (Aa (AB ?_)))
  refine Ba h (fun h => ?_) fun h => ?_
  ·refine Al (AB (AN (wq rfl (qm rfl ?_))))
   refine Ce h fun v4 a4 b4 h => qi CI Dm a4 (Aj b4) rfl (qK Hc Dm rfl (qz Mh rfl (qa rfl (qs Dm rfl (Aa (wq rfl (qL Be AD rfl (qf Dd rfl (ql B9 rfl ?_)))))))))
   refine By h fun v5 a5 h => Aq [] (FY N p1 v4.fg v5 a5) Pn rfl (qL Be AD rfl (qf G9 rfl (ql B9 rfl ?_)))
   refine By h fun v6 a6 h => Aq [] (FY N p1 v4.fm v6 a6) Pn rfl (qa rfl (qa rfl (AH (by kernel_rfl) ?_)))
   refine AO h (fun v7 => mk [(3, oD (.ptr 3 0)), (5, oD (.own 2003)), (6, iD v1.2), (7, oD (.ptr 7 0)), (8, pD (.val (.int .u8 v7))), (9, pD (.val (.int .u8 v6))), (15, pD (.sl (p0.fb.map AI))), (16, iD ((p0.fb.length : Int))), (17, iD v1.2)] [(3, .box (AA p1)), (7, .box (Bc v4)), (2003, .vec 3 (v1.1.map A8))]) (fun j7 h => ?_) (fun v7 h => ?_)
   ·refine wq rfl (qL Hc Dm rfl ?_)
    refine By h fun v8 a8 h => Aq [] (Gw N v4 v8 a8) O5 rfl (Aa ?_)
    refine Ba h (fun h => ?_) fun h => ?_
    ·refine Ak Ay rfl (qf Dh rfl (ql HT rfl (qm rfl ?_)))
     refine Ce h fun v10 a10 b10 h => qi Do Gq a10 (Aj b10) rfl (qk KQ rfl (qe rfl ?_))
     exact sn [(2003, 2001)] h
    ·refine Al ?_
     exact sn [(2003, 2001)] h
   ·refine wq rfl (qf Gy rfl (ql F5 rfl (Aw DY rfl (qm rfl (Aa ?_)))))
    refine AE (L := CJ N v1 v4 v6 v7) h (fun v11 => mk [(3, oD (.ptr 3 0)), (5, oD (.own 2004)), (6, iD v1.2), (7, oD (.ptr 7 0)), (8, pD (.val (.int .u8 v7))), (9, pD (.val (.int .u8 v6))), (15, pD (.sl (p0.fb.map AI))), (16, iD ((p0.fb.length : Int))), (17, iD v1.2), (39, iD ((v4.fo.length : Int))), (40, iD v11.2)] [(3, .box (AA p1)), (7, .box (Bc v4)), (2004, .vec 3 (v11.1.map A8))]) (fun v12 => mk [(3, oD (.ptr 3 0)), (5, oD (.own 2005)), (15, pD (.sl (p0.fb.map AI))), (16, iD ((p0.fb.length : Int))), (17, iD v1.2)] [(3, .box (AA p1)), (2005, .vec 3 (v12.map A8))]) (fun _ _ => rfl) (sm [(2004, 2003)] _ _ rfl rfl) (fun j11 n11 v11 h => ?_) (fun v12 s h hs => ?_)
    ·unfold CJ at h
     refine wq rfl (AY rfl (Aa (AB ?_)))
     refine Ba h (fun h => ?_) fun h => ?_
     ·refine Al ?_
      refine AO h (fun v14 => mk [(3, oD (.ptr 3 0)), (5, oD (.own 2006)), (6, iD v1.2), (7, oD (.ptr 7 0)), (8, pD (.val (.int .u8 v7))), (9, pD (.val (.int .u8 v6))), (15, pD (.sl (p0.fb.map AI))), (16, iD ((p0.fb.length : Int))), (17, iD v1.2), (39, iD ((v4.fo.length : Int))), (40, iD v11.2)] [(3, .box (AA p1)), (7, .box (Bc v4)), (2006, .vec 3 (v14.map A8))]) (fun j14 h => ?_) (fun v14 h => ?_)
      ·refine AN (wq rfl (qm rfl (qa rfl (Aa (wp rfl (qw 2 rfl ?_))))))
       refine Ge h fun c15 h => HS rfl c15 (IT rfl (Bf rfl (Aa ?_)))
       refine Ba h (fun h => ?_) fun h => ?_
       ·refine AZ ?_
        exact sn [(2006, 2004)] h
       ·refine Al (wq rfl (qa rfl (Aa (wp rfl (qf Gy rfl (ql F5 rfl (qm rfl ?_)))))))
        refine Ce h fun v17 a17 b17 h => qi DY KB a17 (Aj b17) rfl (qk KF rfl (Aw HW rfl (qm rfl (Aa ?_))))
        refine AE (L := CF N v1 v4 v6 v11 v17) h (fun v18 => mk [(3, oD (.ptr 3 0)), (5, oD (.own 2007)), (6, iD v1.2), (7, oD (.ptr 7 0)), (8, pD (.val (.int .u8 v7))), (9, pD (.val (.int .u8 v6))), (10, iD v11.2), (11, bD v18.2.1), (15, pD (.sl (p0.fb.map AI))), (16, iD ((p0.fb.length : Int))), (17, iD v1.2), (39, iD ((v4.fo.length : Int))), (40, iD v11.2), (52, pD (.sl (v17.map eB))), (53, iD ((v17.length : Int))), (54, iD v18.2.2)] [(3, .box (AA p1)), (7, .box (Bc v4)), (2007, .vec 3 (v18.1.map A8))]) (fun v19 => mk [(3, oD (.ptr 3 0)), (5, oD (.own 2008)), (6, iD v1.2), (7, oD (.ptr 7 0)), (8, pD (.val (.int .u8 v7))), (9, pD (.val (.int .u8 v6))), (10, iD v11.2), (11, bD v19.2), (15, pD (.sl (p0.fb.map AI))), (16, iD ((p0.fb.length : Int))), (17, iD v1.2), (39, iD ((v4.fo.length : Int))), (40, iD v11.2)] [(3, .box (AA p1)), (7, .box (Bc v4)), (2008, .vec 3 (v19.1.map A8))]) (fun _ _ => rfl) (sm [(2007, 2004)] _ _ rfl rfl) (fun j18 n18 v18 h => ?_) (fun v19 s h hs => ?_)
        ·unfold CF at h
         refine wq rfl (AY rfl (Aa (AB ?_)))
         refine Ba h (fun h => ?_) fun h => ?_
         ·refine Al ?_
          refine AO h (fun v21 => mk [(3, oD (.ptr 3 0)), (5, oD (.own 2009)), (6, iD v1.2), (7, oD (.ptr 7 0)), (8, pD (.val (.int .u8 v7))), (9, pD (.val (.int .u8 v6))), (10, iD v11.2), (11, bD v21.2), (15, pD (.sl (p0.fb.map AI))), (16, iD ((p0.fb.length : Int))), (17, iD v1.2), (39, iD ((v4.fo.length : Int))), (40, iD v11.2), (52, pD (.sl (v17.map eB))), (53, iD ((v17.length : Int))), (54, iD v18.2.2)] [(3, .box (AA p1)), (7, .box (Bc v4)), (2009, .vec 3 (v21.1.map A8))]) (fun j21 h => ?_) (fun v21 h => ?_)
          ·refine AN (wq rfl (qm rfl ?_))
           refine Ce h fun v22 a22 b22 h => qi HW QC a22 (Aj b22) rfl (qk OS rfl (qa rfl (qa rfl (Aa (wp rfl (qw 2 rfl ?_))))))
           refine Ge h fun c23 h => HS rfl c23 (IT rfl (Bf rfl (Aa ?_)))
           refine Ba h (fun h => ?_) fun h => ?_
           ·refine AZ ?_
            exact sn [(2009, 2007)] h
           ·refine Al ?_
            refine AO h (fun v25 => mk [(3, oD (.ptr 3 0)), (5, oD (.own 2010)), (6, iD v1.2), (7, oD (.ptr 7 0)), (8, pD (.val (.int .u8 v7))), (9, pD (.val (.int .u8 v6))), (10, iD v11.2), (11, bD v25), (12, iD v18.2.2), (13, bD v22), (15, pD (.sl (p0.fb.map AI))), (16, iD ((p0.fb.length : Int))), (17, iD v1.2), (39, iD ((v4.fo.length : Int))), (40, iD v11.2), (52, pD (.sl (v17.map eB))), (53, iD ((v17.length : Int))), (54, iD v18.2.2)] [(3, .box (AA p1)), (7, .box (Bc v4)), (2010, .vec 3 (v18.1.map A8))]) (fun j25 h => ?_) (fun v25 h => ?_)
            ·refine Ak Ay rfl (qw 2 rfl ?_)
             refine CR 65 h rfl (fun h => ?_) fun h => ?_
             ·refine qn rfl (qp rfl (qe rfl ?_))
              exact sn [(2010, 2007)] h
             ·refine qm rfl (qp rfl (qe rfl ?_))
              exact sn [(2010, 2007)] h
            ·refine AO h (fun v27 => mk [(3, oD (.ptr 3 0)), (5, oD (.own 2011)), (6, iD v1.2), (7, oD (.ptr 7 0)), (8, pD (.val (.int .u8 v7))), (9, pD (.val (.int .u8 v6))), (10, iD v11.2), (11, bD v25), (12, iD v18.2.2), (15, pD (.sl (p0.fb.map AI))), (16, iD ((p0.fb.length : Int))), (17, iD v1.2), (39, iD ((v4.fo.length : Int))), (40, iD v11.2), (52, pD (.sl (v17.map eB))), (53, iD ((v17.length : Int))), (54, iD v18.2.2), (74, bD v27)] [(3, .box (AA p1)), (7, .box (Bc v4)), (2011, .vec 3 (v18.1.map A8))]) (fun j27 h => ?_) (fun v27 h => ?_)
             ·refine Ak Ay rfl (qm rfl (BJ rfl (qm rfl ?_)))
              refine CR 70 h rfl (fun h => ?_) fun h => ?_
              ·refine qf IJ rfl (ql OS rfl (BJ rfl (qp rfl (Aa ?_))))
               exact sn [(2011, 2010)] h
              ·refine qw 3 rfl (qp rfl (Aa ?_))
               exact sn [(2011, 2010)] h
             ·refine Ba h (fun h => ?_) fun h => ?_
              ·refine Ak Ay rfl (qw 4 rfl (Bb GF K0 rfl (Fa G6 Ef GF rfl ?_)))
               refine Ge h fun c30 h => Gv (f := A8) G6 G6 Ef Oz GF c30 rfl (qe rfl ?_)
               exact sn [(2009, 81)] h
              ·refine Al ?_
               exact sn [(2009, 2011)] h
          ·refine Ak Ay rfl (Bm rfl (qm rfl (Aa ?_)))
           exact sn [(2007, 2009)] h
         ·refine AZ ?_
          exact sn [(2008, 2007)] h
        ·refine Ae hs ?_
         refine AO h (fun v31 => mk [(3, oD (.ptr 3 0)), (5, oD (.own 2012)), (6, iD v1.2), (7, oD (.ptr 7 0)), (8, pD (.val (.int .u8 v7))), (9, pD (.val (.int .u8 v6))), (10, iD v11.2), (15, pD (.sl (p0.fb.map AI))), (16, iD ((p0.fb.length : Int))), (17, iD v1.2), (39, iD ((v4.fo.length : Int))), (40, iD v11.2), (88, bD v31)] [(3, .box (AA p1)), (7, .box (Bc v4)), (2012, .vec 3 (v19.1.map A8))]) (fun j31 h => ?_) (fun v31 h => ?_)
         ·refine Ak Ay rfl (qf IJ rfl (ql OS rfl (qm rfl ?_)))
          refine CR 85 h rfl (fun h => ?_) fun h => ?_
          ·refine qm rfl (BJ rfl (qp rfl (Aa ?_)))
           exact sn [(2012, 2008)] h
          ·refine qw 2 rfl (qp rfl (Aa ?_))
           exact sn [(2012, 2008)] h
         ·refine Ba h (fun h => ?_) fun h => ?_
          ·refine Ak Ay rfl (qw 3 rfl (Bb GF K0 rfl (Fa G6 Ef GF rfl ?_)))
           refine Ge h fun c34 h => Gv (f := A8) G6 G6 Ef Oz GF c34 rfl (qe rfl ?_)
           exact sn [(2006, 94)] h
          ·refine Al ?_
           exact sn [(2006, 2012)] h
      ·refine Ak Ay rfl (Bm rfl (qm rfl (Aa ?_)))
       exact sn [(2004, 2006)] h
     ·refine AZ ?_
      exact sn [(2005, 2004)] h
    ·refine Ae hs (Ak Ay rfl (Bm rfl (qm rfl (Aa ?_))))
     exact sn [(2001, 2005)] h
  ·refine AZ ?_
   exact sn [(2002, 2001)] h
 ·refine Ae hs (wq rfl (qm rfl (qe rfl ?_)))
  obtain rfl := sj h
  refine Ae (sm [(1000, 2002)] [(4, oD (.own 1000))] [(1000, .vec 3 (v2.map A8))] rfl rfl) (Ao ?_)
  exact ⟨⟨[_], tm, rfl⟩, ⟨rfl, tv⟩⟩
theorem GU (N : Nat) (p0 : Ab) (p1 : Ah) (r : Ah × Ar × Int) (h : Db N p0 p1 = some r) : Ap Tryd.prog 47 [.e (.agg (Ai p0)), .e (.agg (AA p1))] [] (.tup [.agg (AA r.1), .agg (Es r.2.1), .one (iC r.2.2)]) := by
 unfold Db at h
 refine cw (n := 42) (rs := [.cell 4 38, .cell 5 93, .tmp 6]) Tryd.func47 fun w0 S0 => ?_
 refine wq rfl (qb rfl (qb rfl (qz Cj rfl (qz GF rfl (qa rfl (Aa (wq rfl (qL B5 BU rfl (qL Be AD rfl ?_)))))))))
 refine By h fun v1 a1 h => Aq [2001] (Kg N p0 p1 v1 a1) QG rfl (qm rfl (qx rfl (qx rfl (qa rfl (qa rfl (Aa (wp rfl (qm rfl (Bo rfl (Aa ?_))))))))))
 refine Ba h (fun h => ?_) fun h => ?_
 ·refine wq rfl (Bb Cj Gf rfl (Bb GF K0 rfl (qm rfl (qs AD rfl (qs Ef rfl (qe rfl ?_))))))
  obtain rfl := sj h
  refine Ae ((DG 4 _ rfl).trans (sm [] [(4, oD (.ptr 4 0)), (5, oD (.ptr 5 0)), (6, iD v1.2)] [(4, .box [sC ((([] : List Int)).map An), sC ((([] : List Int)).map An), sC ((([] : List Int)).map Cl)]), (5, .box [iC 0, iC 0, iC 0])] rfl rfl)) (Ao ?_)
  exact ⟨⟨[_, _, _], ⟨.cellN _ _ _ _ _ _ _ rfl rfl Be AD rfl rfl (GG rfl), ⟨.cellN _ _ _ _ _ _ _ rfl rfl IC Ef rfl rfl (GG rfl), tm⟩⟩, rfl⟩, tv⟩
 ·refine Al (wp rfl (qm rfl (Fz FH rfl (qm rfl (Aa ?_)))))
  refine AE (L := D3 N p0 v1) h (fun v3 => mk [(2, oD (.ptr 2 0)), (4, oD (.ptr 4 0)), (5, oD (.ptr 5 0)), (23, oD (.own 2002)), (24, iD ((v1.1.length : Int))), (25, iD v3)] [(2, .box (Ai p0)), (4, .box [.pure (.nil0), .pure (.nil0), .pure (.nil0)]), (5, .box [iC 0, iC 0, iC 0]), (2002, .vec 3 (v1.1.map Cr))]) (fun v4 => mk [(4, oD (.ptr 4 0)), (5, oD (.ptr 5 0))] [(4, .box [.pure (.nil0), .pure (.nil0), .pure (.nil0)]), (5, .box [iC 0, iC 0, iC 0])]) (fun _ _ => rfl) (sm [(2002, 2001)] _ _ rfl rfl) (fun j3 n3 v3 h => ?_) (fun v4 s h hs => ?_)
  ·unfold D3 at h
   refine wq rfl (AY rfl (Aa (AB ?_)))
   refine Ba h (fun h => ?_) fun h => ?_
   ·refine Al (AB (AN (wq rfl ?_)))
    refine Ce h fun v6 a6 b6 h => qI FH AD a6 (Aj b6) rfl (qJ Be AD (Aj b6) rfl (qz Cj rfl (qs AD rfl (Aa (wq rfl (qL B5 BU rfl (qL Be AD rfl ?_)))))))
    refine By h fun v7 a7 h => Aq [2003] (IE N p0 v6 v7 a7) Q2 rfl (qa rfl (Aa (wq rfl (qm rfl (Fz G6 rfl (C0 rfl (Aa ?_)))))))
    refine Ba h (fun h => ?_) fun h => ?_
    ·refine wq rfl (qL Be AD rfl (qm rfl ?_))
     refine Ce h fun v9 a9 b9 h => qI G6 Ef a9 (Aj b9) rfl (qJ IC Ef (Aj b9) rfl (qs AD rfl (qs Ef rfl (qa rfl (AH (by kernel_rfl) ?_)))))
     obtain rfl := sj h
     refine Ae (sm [] [(4, oD (.ptr 4 0)), (5, oD (.ptr 5 0)), (6, iD 0)] [(4, .box (AA v6)), (5, .box (Es v9))] rfl rfl) (Ao ?_)
     exact ⟨⟨[_, _, _], ⟨.cellN _ _ _ _ _ _ _ rfl rfl Be AD rfl rfl (GG rfl), ⟨.cellN _ _ _ _ _ _ _ rfl rfl IC Ef rfl rfl (GG rfl), tm⟩⟩, rfl⟩, tv⟩
    ·refine Al (Ak Ay rfl (Bm rfl (qm rfl (Aa ?_))))
     exact sn [] h
   ·refine AZ ?_
    exact sn [] h
  ·refine Ae hs (wq rfl (Bb Cj Gf rfl (Bb GF K0 rfl (qs AD rfl (qs Ef rfl (qe rfl ?_))))))
   obtain rfl := sj h
   refine Ae ((DG 4 _ rfl).trans (sm [] [(4, oD (.ptr 4 0)), (5, oD (.ptr 5 0)), (6, iD 15)] [(4, .box [sC ((([] : List Int)).map An), sC ((([] : List Int)).map An), sC ((([] : List Int)).map Cl)]), (5, .box [iC 0, iC 0, iC 0])] rfl rfl)) (Ao ?_)
   exact ⟨⟨[_, _, _], ⟨.cellN _ _ _ _ _ _ _ rfl rfl Be AD rfl rfl (GG rfl), ⟨.cellN _ _ _ _ _ _ _ rfl rfl IC Ef rfl rfl (GG rfl), tm⟩⟩, rfl⟩, tv⟩
theorem HZ (N : Nat) (p0 : Ac) (r : Bool) (h : EJ N p0 = some r) : Ap Tryd.prog 63 [.e (.agg (Cn p0))] [] (bD r) := by
 unfold EJ at h
 refine cw (n := 27) (rs := [.tmp 2]) Tryd.func63 fun w0 S0 => ?_
 refine wq rfl (qb rfl (qa rfl (Aa (AB ?_))))
 refine AO h (fun v1 => mk [(1, oD (.ptr 1 0)), (18, bD v1)] [(1, .box (Cn p0))]) (fun j1 h => ?_) (fun v1 h => ?_)
 ·refine Ak Ay rfl (qf DJ rfl (ql B9 rfl (qf Gk rfl (ql B9 rfl ?_))))
  refine LW (.p rfl) rfl rfl ?_
  refine AY rfl (qm rfl ?_)
  refine CR 9 h rfl (fun h => ?_) fun h => ?_
  ·refine qw 3 rfl (qp rfl (qw 4 rfl (qp rfl (Aa ?_))))
   exact sn [] h
  ·refine qf Eq rfl (ql B9 rfl (AY rfl (qp rfl (qm rfl ?_))))
   refine CR 14 h rfl (fun h => ?_) fun h => ?_
   ·refine qw 3 rfl (qp rfl (Aa ?_))
    exact sn [] h
   ·refine qf Eq rfl (ql B9 rfl (C0 rfl (qp rfl (Aa ?_))))
    exact sn [] h
 ·refine Ba h (fun h => ?_) fun h => ?_
  ·refine wq rfl (qe rfl ?_)
   obtain rfl := sj h
   refine Ae (sm [] [(2, bD false)] [] rfl rfl) (Ao ?_)
   exact ⟨⟨[_], tm, rfl⟩, tv⟩
  ·refine Al ?_
   refine AO h (fun v5 => mk [(2, bD v5)] []) (fun j5 h => ?_) (fun v5 h => ?_)
   ·refine Ak Ay rfl (qf Eq rfl (ql B9 rfl (Bf rfl (qm rfl ?_))))
    refine CR 22 h rfl (fun h => ?_) fun h => ?_
    ·refine qw 3 rfl (qp rfl (qe rfl ?_))
     exact sn [] h
    ·refine qf Gk rfl (ql B9 rfl (Bf rfl (qp rfl (qe rfl ?_))))
     exact sn [] h
   ·obtain rfl := sj h
    refine Ae (sm [] [(2, bD v5)] [] rfl rfl) (Ao ?_)
    exact ⟨⟨[_], tm, rfl⟩, tv⟩
theorem Js (N : Nat) (p0 : Ab) (p1 : Ac) (r : Bool) (h : FF N p0 p1 = some r) : Ap Tryd.prog 74 [.e (.agg (Ai p0)), .e (.agg (Cn p1))] [] (bD r) := by
 unfold FF at h
 refine cw (n := 36) (rs := [.tmp 4]) Tryd.func74 fun w0 S0 => ?_
 refine wq rfl (qb rfl (qb rfl (qa rfl (Aa (wp rfl (qf Eq rfl (ql B9 rfl (Bf rfl (Aa ?_)))))))))
 refine Ba h (fun h => ?_) fun h => ?_
 ·refine wq rfl (qf DJ rfl (ql B9 rfl (qf BE rfl (ql E9 rfl (Aw CI rfl (AY rfl (qe rfl ?_)))))))
  obtain rfl := sj h
  refine Ae (sm [] [(4, bD ((decide (p1.fj < (p0.fb.length : Int)))))] [] rfl rfl) (Ao ?_)
  exact ⟨⟨[_], tm, rfl⟩, tv⟩
 ·refine Al ?_
  refine AO h (fun v2 => mk [(4, bD v2)] []) (fun j2 h => ?_) (fun v2 h => ?_)
  ·refine Ak Ay rfl (qf DJ rfl (ql B9 rfl (qf BG rfl (ql Bg rfl (Aw Az rfl (AY rfl (qm rfl ?_)))))))
   refine CR 20 h rfl (fun h => ?_) fun h => ?_
   ·refine qf Eq rfl (ql B9 rfl (Bo rfl (qm rfl ?_)))
    refine CR 24 h rfl (fun h => ?_) fun h => ?_
    ·refine qw 9 rfl (qp rfl (qp rfl (qa rfl (AH (by kernel_rfl) ?_))))
     exact sn [] h
    ·refine qf Gk rfl (ql B9 rfl (qf BG rfl (ql Bg rfl (qf DJ rfl (ql B9 rfl ?_)))))
     refine Ce h fun v5 a5 b5 h => qi Az DD a5 (Aj b5) rfl (qk B9 rfl (AY rfl (qp rfl (qp rfl (qa rfl (AH (by kernel_rfl) ?_))))))
     exact sn [] h
   ·refine qw 4 rfl (qu rfl (qu rfl (qu rfl (qu rfl (qu rfl (qu rfl (qu rfl (qu rfl (qu rfl (qn rfl (qp rfl (qa rfl (AH (by kernel_rfl) ?_)))))))))))))
    exact sn [] h
  ·obtain rfl := sj h
   refine Ae (sm [] [(4, bD v2)] [] rfl rfl) (Ao ?_)
   exact ⟨⟨[_], tm, rfl⟩, tv⟩
theorem Jp (N : Nat) (p0 : Ah) (r : Ah) (h : Fo N p0 = some r) : Ap Tryd.prog 82 [.e (.agg (AA p0))] [(1, r.fe.map An), (1, r.fc.map An), (1, r.ff.map Cl)] (.e (.agg [.own 0, .own 1, .own 2])) := by
 unfold Fo at h
 refine cw (n := 13) (rs := [.cell 2 38]) Tryd.func82 fun w0 S0 => ?_
 refine wq rfl (qb rfl (qz Cj rfl (Aa (wq rfl (qf CW rfl (ql Bg rfl ?_))))))
 refine By h fun v1 a1 h => Aq [2001] (BN N p0.fe v1 a1) M8 rfl (qf B7 rfl (ql Bg rfl ?_))
 refine By h fun v2 a2 h => Aq [2002] (BN N p0.fc v2 a2) M8 rfl (qf Dh rfl (ql HT rfl ?_))
 refine By h fun v3 a3 h => Aq [2003] (CZ N p0.ff v3 a3) Qa rfl (Bb Cj Gf rfl (qs AD rfl (AH (by kernel_rfl) ?_)))
 obtain rfl := sj h
 refine Ae (sm [(1000, 2001), (1001, 2002), (1002, 2003)] [(2, oD (.ptr 2 0))] [(2, .box [.own 1000, .own 1001, .own 1002]), (1000, .vec 1 (v1.map An)), (1001, .vec 1 (v2.map An)), (1002, .vec 1 (v3.map Cl))] rfl rfl) (Ao ?_)
 exact ⟨⟨[_], ⟨.cellN _ _ _ _ _ _ _ rfl rfl Be AD rfl rfl (GG rfl), tv⟩, rfl⟩, ⟨rfl, rfl, rfl, tv⟩⟩
theorem Hj (N : Nat) (p0 : Au) (r : Bool) (h : Em N p0 = some r) : Ap Tryd.prog 87 [.e (.agg (Bc p0))] [] (bD r) := by
 unfold Em at h
 refine cw (n := 11) (rs := [.tmp 2]) Tryd.func87 fun w0 S0 => ?_
 refine wq rfl (qb rfl (qe rfl ?_))
 refine AO h (fun v1 => mk [(2, bD v1)] []) (fun j1 h => ?_) (fun v1 h => ?_)
 ·refine Ak Ay rfl (qf D2 rfl (ql B9 rfl (Bf rfl (qm rfl ?_))))
  refine CR 6 h rfl (fun h => ?_) fun h => ?_
  ·refine qw 3 rfl (qp rfl (qe rfl ?_))
   exact sn [] h
  ·refine qf D2 rfl (ql B9 rfl (Bf rfl (qp rfl (qe rfl ?_))))
   exact sn [] h
 ·obtain rfl := sj h
  refine Ae (sm [] [(2, bD v1)] [] rfl rfl) (Ao ?_)
  exact ⟨⟨[_], tm, rfl⟩, tv⟩
theorem J7 (N : Nat) (p0 : Ab) (p1 : Ah) (p2 : Ac) (r : Bool × (List Int) × (List Int)) (h : F0 N p0 p1 p2 = some r) : BS Tryd.prog 83 [.e (.agg (Ai p0)), oD (.ptr 90000 0), .e (.agg (Cn p2))] [(.box [.own 90001, .own 90002, .own 90003], .box [.own 90001, .own 90002, .own 90003]), (.vec 1 (p1.fe.map An), .vec 1 (p1.fe.map An)), (.vec 1 (p1.fc.map An), .vec 1 (r.2.1.map An)), (.vec 1 (p1.ff.map Cl), .vec 1 (r.2.2.map Cl))] [] (bD r.1) := by
 unfold F0 at h
 refine Dy (n := 70) (rs := [.tmp 6]) Tryd.func83 rfl rfl rfl (Hl rfl) (Hl rfl) rfl rfl (Hl rfl) rfl (Hl rfl) fun w0 S0 GL => ?_
 refine Ae (sm [] [(0, .e (.agg (Ai p0))), (1, oD (.ptr 90000 0)), (2, .e (.agg (Cn p2)))] [(90000, .box [.own 90001, .own 90002, .own 90003]), (90001, .vec 1 (p1.fe.map An)), (90002, .vec 1 (p1.fc.map An)), (90003, .vec 1 (p1.ff.map Cl))] rfl rfl) (wq rfl (qb rfl (qb rfl (qa rfl (Aa (AB ?_))))))
 refine AO h (fun v1 => mk [(1, oD (.ptr 90000 0)), (3, oD (.ptr 3 0)), (5, oD (.ptr 5 0)), (30, bD v1)] [(3, .box (Ai p0)), (5, .box (Cn p2)), (90000, .box [.own 90001, .own 90002, .own 90003]), (90001, .vec 1 (p1.fe.map An)), (90002, .vec 1 (p1.fc.map An)), (90003, .vec 1 (p1.ff.map Cl))]) (fun j1 h => ?_) (fun v1 h => ?_)
 ·refine Ak Ay rfl (qm rfl (NW rfl (qf B7 rfl (ql Bg rfl (qf DJ rfl (ql B9 rfl ?_))))))
  refine Ce h fun v2 a2 b2 h => qI Az DD a2 (Aj b2) rfl (qj B9 (Aj b2) rfl (ER rfl (qm rfl ?_)))
  refine CR 18 h rfl (fun h => ?_) fun h => ?_
  ·refine qw 11 rfl (qp rfl (AH (by kernel_rfl) ?_))
   exact sn [] h
  ·refine qm rfl (NW rfl (qf CW rfl (ql Bg rfl (qf DJ rfl (ql B9 rfl ?_)))))
   refine Ce h fun v4 a4 b4 h => qI Az DD a4 (Aj b4) rfl (qj B9 (Aj b4) rfl (qf Gk rfl (ql B9 rfl (Bf rfl (qp rfl (AH (by kernel_rfl) ?_))))))
   exact sn [] h
 ·refine Ba h (fun h => ?_) fun h => ?_
  ·refine wq rfl (qe rfl ?_)
   obtain rfl := sj h
   refine Ae (sm [] [(6, bD false)] [(90000, .box [.own 90001, .own 90002, .own 90003]), (90001, .vec 1 (p1.fe.map An)), (90002, .vec 1 (p1.fc.map An)), (90003, .vec 1 (p1.ff.map Cl))] rfl rfl) (Ao ?_)
   exact ⟨⟨[_], tm, rfl⟩, ⟨rfl, rfl, rfl, rfl, tv⟩, tv⟩
  ·refine Al (wq rfl (qm rfl (NW rfl (qf B7 rfl (ql Bg rfl (qf DJ rfl (ql B9 rfl (qf Gk rfl (ql B9 rfl ?_)))))))))
   refine Ce h fun v6 a6 b6 h => qI Az DD a6 (Aj b6) rfl ?_
   refine Fr rfl rfl rfl rfl (Aj b6) rfl DD rfl (Hl rfl) (Fw An p1.fc _ p2.fk) ?_
   refine AH (by kernel_rfl) (wp rfl (qf BE rfl (ql E9 rfl (Aw CI rfl (qm rfl (Aa ?_))))))
   refine AE (L := DE N p0 p2) h (fun v7 => mk [(1, oD (.ptr 90000 0)), (5, oD (.ptr 5 0)), (41, pD (.sl (p0.fb.map AI))), (42, iD ((p0.fb.length : Int))), (43, iD v7.2)] [(5, .box (Cn p2)), (90000, .box [.own 90001, .own 90002, .own 90003]), (90001, .vec 1 (p1.fe.map An)), (90002, .vec 1 ((p1.fc.set ((p2.fj).toNat) p2.fk).map An)), (90003, .vec 1 (v7.1.map Cl))]) (fun v8 => mk [] [(90000, .box [.own 90001, .own 90002, .own 90003]), (90001, .vec 1 (p1.fe.map An)), (90002, .vec 1 ((p1.fc.set ((p2.fj).toNat) p2.fk).map An)), (90003, .vec 1 (v8.map Cl))]) (fun _ _ => rfl) (sm [] _ _ rfl rfl) (fun j7 n7 v7 h => ?_) (fun v8 s h hs => ?_)
   ·unfold DE at h
    refine wq rfl (AY rfl (Aa (AB ?_)))
    refine Ba h (fun h => ?_) fun h => ?_
    ·refine Al ?_
     refine AO h (fun v10 => mk [(1, oD (.ptr 90000 0)), (5, oD (.ptr 5 0)), (41, pD (.sl (p0.fb.map AI))), (42, iD ((p0.fb.length : Int))), (43, iD v7.2)] [(5, .box (Cn p2)), (90000, .box [.own 90001, .own 90002, .own 90003]), (90001, .vec 1 (p1.fe.map An)), (90002, .vec 1 ((p1.fc.set ((p2.fj).toNat) p2.fk).map An)), (90003, .vec 1 (v10.map Cl))]) (fun j10 h => ?_) (fun v10 h => ?_)
     ·refine AN (wq rfl (qm rfl ?_))
      refine Ce h fun v11 a11 b11 h => qi CI Dm a11 (Aj b11) rfl (qK Hc Dm rfl (qz Mh rfl (qa rfl (qs Dm rfl (Aa ?_)))))
      refine AO h (fun v12 => mk [(1, oD (.ptr 90000 0)), (5, oD (.ptr 5 0)), (7, iD v7.2), (41, pD (.sl (p0.fb.map AI))), (42, iD ((p0.fb.length : Int))), (43, iD v7.2), (56, bD v12)] [(5, .box (Cn p2)), (90000, .box [.own 90001, .own 90002, .own 90003]), (90001, .vec 1 (p1.fe.map An)), (90002, .vec 1 ((p1.fc.set ((p2.fj).toNat) p2.fk).map An)), (90003, .vec 1 (v7.1.map Cl))]) (fun j12 h => ?_) (fun v12 h => ?_)
      ·refine Ak Ay rfl (qf Dd rfl (ql B9 rfl (qf DJ rfl (ql B9 rfl (Bf rfl (qm rfl ?_))))))
       refine CR 53 h rfl (fun h => ?_) fun h => ?_
       ·refine qL Hc Dm rfl ?_
        refine By h fun v14 a14 h => Aq [] (Hj N v11 v14 a14) PP rfl (qp rfl (Aa ?_))
        exact sn [] h
       ·refine qw 2 rfl (qp rfl (Aa ?_))
        exact sn [] h
      ·refine Ba h (fun h => ?_) fun h => ?_
       ·refine Ak Ay rfl (qm rfl (NW rfl (qf Dh rfl (ql HT rfl (qm rfl ?_)))))
        refine Ce h fun v16 a16 b16 h => qI Do Gq a16 (Aj b16) rfl (qj KQ (Aj b16) rfl (qf Gk rfl (ql B9 rfl ?_)))
        refine Ge h fun c17 h => H0 rfl c17 (PC rfl ?_)
        refine Ce h fun v18 a18 b18 h => qI Do Gq a18 (Aj b18) rfl ?_
        refine Fr rfl rfl rfl rfl (Aj b18) rfl Gq rfl (Hl rfl) (Fw Cl v7.1 _ ((Oe .u8 v16 ((EF .u8 1 p2.fk))))) ?_
        refine AH (by kernel_rfl) ?_
        exact sn [] h
       ·refine Al ?_
        exact sn [] h
     ·refine Ak Ay rfl (Bm rfl (qm rfl (Aa ?_)))
      exact sn [] h
    ·refine AZ ?_
     exact sn [] h
   ·refine Ae hs (wq rfl (qe rfl ?_))
    obtain rfl := sj h
    refine Ae (sm [] [(6, bD true)] [(90000, .box [.own 90001, .own 90002, .own 90003]), (90001, .vec 1 (p1.fe.map An)), (90002, .vec 1 ((p1.fc.set ((p2.fj).toNat) p2.fk).map An)), (90003, .vec 1 (v8.map Cl))] rfl rfl) (Ao ?_)
    exact ⟨⟨[_], tm, rfl⟩, ⟨rfl, rfl, rfl, rfl, tv⟩, tv⟩
theorem Jc (N : Nat) (p0 : Ah) (p1 : Int) (r : Int) (h : E4 N p0 p1 = some r) : Ap Tryd.prog 88 [.e (.agg (AA p0)), iD p1] [] (pD (.val (.int .u8 r))) := by
 unfold E4 at h
 refine cw (n := 27) (rs := [.tmp 4]) Tryd.func88 fun w0 S0 => ?_
 refine wq rfl (qb rfl (qa rfl (Aa (wq rfl (qf CW rfl (ql Bg rfl (qm rfl ?_)))))))
 refine Ce h fun v1 a1 b1 h => qi Az DD a1 (Aj b1) rfl (qk B9 rfl ?_)
 refine Ge h fun c2 h => H0 rfl c2 (qe rfl ?_)
 refine AO h (fun v3 => mk [(5, pD (.val (.int .u8 v3)))] []) (fun j3 h => ?_) (fun v3 h => ?_)
 ·refine wq rfl (qf B7 rfl (ql Bg rfl (qm rfl ?_)))
  refine Ce h fun v4 a4 b4 h => qi Az DD a4 (Aj b4) rfl (qk B9 rfl (ER rfl (Aa ?_)))
  refine Ba h (fun h => ?_) fun h => ?_
  ·refine Ak Ay rfl (qm rfl (qf B7 rfl (ql Bg rfl (qm rfl ?_))))
   refine Ce h fun v6 a6 b6 h => qi Az DD a6 (Aj b6) rfl (qk B9 rfl ?_)
   refine Ge h fun c7 h => H0 rfl c7 (PC rfl (qe rfl ?_))
   exact sn [] h
  ·refine Al ?_
   exact sn [] h
 ·refine wq rfl (qm rfl (qe rfl ?_))
  obtain rfl := sj h
  refine Ae (sm [] [(4, pD (.val (.int .u8 v3)))] [] rfl rfl) (Ao ?_)
  exact ⟨⟨[_], tm, rfl⟩, tv⟩
theorem Fs (N : Nat) (p0 : Int) (r : Int) (h : Cp N p0 = some r) : Ap Tryd.prog 94 [pD (.val (.int .u8 p0))] [] (iD r) := by
 unfold Cp at h
 refine cw (n := 6) (rs := [.tmp 2]) Tryd.func94 fun w0 S0 => ?_
 refine wq rfl (qa rfl (Aa (wq rfl (qm rfl ?_))))
 refine By h fun v1 a1 h => Mf (.p rfl) rfl rfl Rb a1 ?_
 refine IG RI RA rfl (qe rfl ?_)
 obtain rfl := sj h
 refine Ae (sm [] [(2, iD ((wI .i64 v1)))] [] rfl rfl) (Ao ?_)
 exact ⟨⟨[_], tm, rfl⟩, tv⟩
theorem H2 (N : Nat) (p0 : Au) (p1 : Int) (p2 : Int) (r : Bool) (h : D8 N p0 p1 p2 = some r) : Ap Tryd.prog 89 [.e (.agg (Bc p0)), pD (.val (.int .u8 p1)), iD p2] [] (bD r) := by
 unfold D8 at h
 refine cw (n := 25) (rs := [.tmp 6]) Tryd.func89 fun w0 S0 => ?_
 refine wq rfl (qb rfl (qa rfl (Aa (wp rfl (qm rfl (qe rfl ?_))))))
 refine AE (L := CA N p0 p2) h (fun v1 => mk [(2, iD p2), (3, oD (.ptr 3 0)), (7, pD (.val (.int .u8 v1)))] [(3, .box (Bc p0))]) (fun v2 => mk [] []) (fun _ _ => rfl) (sm [] _ _ rfl rfl) (fun j1 n1 v1 h => ?_) (fun v2 s h hs => ?_)
 ·unfold CA at h
  refine wp rfl (qm rfl (Bo rfl (Aa ?_)))
  refine Ba h (fun h => ?_) fun h => ?_
  ·refine Al (AB (AN (wq rfl (qf DK rfl (ql F5 rfl (qm rfl ?_))))))
   refine By h fun v4 a4 h => Aq [] (Fs N v1 v4 a4) Rd rfl ?_
   refine Ce h fun v5 a5 b5 h => qi DY KB a5 (Aj b5) rfl (qk KF rfl (qm rfl ?_))
   refine Ce h fun v6 a6 b6 h => qi HW QC a6 (Aj b6) rfl (qk OS rfl (BJ rfl (AH (by kernel_rfl) ?_)))
   refine Ba h (fun h => ?_) fun h => ?_
   ·refine wq rfl (qe rfl ?_)
    obtain rfl := sj h
    refine Ae (sm [] [(6, bD false)] [] rfl rfl) (Ao ?_)
    exact ⟨⟨[_], tm, rfl⟩, tv⟩
   ·refine Al (Ak Ay rfl (qw 2 rfl (L0 rfl (IT rfl (qe rfl ?_)))))
    exact sn [] h
  ·refine AZ ?_
   exact sn [] h
 ·refine Ae hs (wq rfl (qe rfl ?_))
  obtain rfl := sj h
  refine Ae (sm [] [(6, bD true)] [] rfl rfl) (Ao ?_)
  exact ⟨⟨[_], tm, rfl⟩, tv⟩
theorem Ky (N : Nat) (p0 : Ab) (p1 : Ah) (p2 : Int) (r : Bool × (List Int)) (h : FW N p0 p1 p2 = some r) : BS Tryd.prog 84 [.e (.agg (Ai p0)), oD (.ptr 90000 0), iD p2] [(.box [.own 90001, .own 90002, .own 90003], .box [.own 90001, .own 90002, .own 90003]), (.vec 1 (p1.fe.map An), .vec 1 (p1.fe.map An)), (.vec 1 (p1.fc.map An), .vec 1 (p1.fc.map An)), (.vec 1 (p1.ff.map Cl), .vec 1 (r.2.map Cl))] [] (bD r.1) := by
 unfold FW at h
 refine Dy (n := 68) (rs := [.tmp 6]) Tryd.func84 rfl rfl rfl (Hl rfl) (Hl rfl) rfl rfl (Hl rfl) rfl (Hl rfl) fun w0 S0 GL => ?_
 refine Ae (sm [] [(0, .e (.agg (Ai p0))), (1, oD (.ptr 90000 0)), (2, iD p2)] [(90000, .box [.own 90001, .own 90002, .own 90003]), (90001, .vec 1 (p1.fe.map An)), (90002, .vec 1 (p1.fc.map An)), (90003, .vec 1 (p1.ff.map Cl))] rfl rfl) (wq rfl (qb rfl (qa rfl (Aa (wq rfl (qf BE rfl (ql E9 rfl (qm rfl ?_))))))))
 refine Ce h fun v1 a1 b1 h => qi CI Dm a1 (Aj b1) rfl (qK Hc Dm rfl (qz Mh rfl (qs Dm rfl (Aa (wp rfl (qL Hc Dm rfl ?_))))))
 refine By h fun v2 a2 h => Aq [] (Hj N v1 v2 a2) PP rfl (BJ rfl (Aa ?_))
 refine Ba h (fun h => ?_) fun h => ?_
 ·refine wq rfl (qe rfl ?_)
  obtain rfl := sj h
  refine Ae (sm [] [(6, bD false)] [(90000, .box [.own 90001, .own 90002, .own 90003]), (90001, .vec 1 (p1.fe.map An)), (90002, .vec 1 (p1.fc.map An)), (90003, .vec 1 (p1.ff.map Cl))] rfl rfl) (Ao ?_)
  exact ⟨⟨[_], tm, rfl⟩, ⟨rfl, rfl, rfl, rfl, tv⟩, tv⟩
 ·refine Al (wq rfl (qm rfl (NW rfl (qL Be AD rfl (qf Dd rfl (ql B9 rfl ?_))))))
  refine By h fun v4 a4 h => Hb [] [90001, 90002, 90003] (Jc N p1 v1.fg v4 a4) Rq Fg rfl (qa rfl (AH (by kernel_rfl) (wq rfl (qm rfl (NW rfl (qf Dh rfl (ql HT rfl (qm rfl ?_))))))))
  refine Ce h fun v5 a5 b5 h => qI Do Gq a5 (Aj b5) rfl (qj KQ (Aj b5) rfl (qm rfl (IU rfl (qa rfl (Aa (AB ?_))))))
  refine AO h (fun v6 => mk [(1, oD (.ptr 90000 0)), (2, iD p2), (8, pD (.val (.int .u8 v4))), (60, bD v6)] [(90000, .box [.own 90001, .own 90002, .own 90003]), (90001, .vec 1 (p1.fe.map An)), (90002, .vec 1 (p1.fc.map An)), (90003, .vec 1 (p1.ff.map Cl))]) (fun j6 h => ?_) (fun v6 h => ?_)
  ·refine Ak Ay rfl (qm rfl (NW rfl (qf Dh rfl (ql HT rfl (qm rfl ?_)))))
   refine Ce h fun v7 a7 b7 h => qI Do Gq a7 (Aj b7) rfl (qj KQ (Aj b7) rfl (qm rfl (Bf rfl (qm rfl ?_))))
   refine CR 42 h rfl (fun h => ?_) fun h => ?_
   ·refine qw 4 rfl (qu rfl (qu rfl (qu rfl (qu rfl (qu rfl (qu rfl (qu rfl (qu rfl (qu rfl (qu rfl (qu rfl (qu rfl (qn rfl (qp rfl (AH (by kernel_rfl) ?_)))))))))))))))
    exact sn [] h
   ·refine qf D2 rfl (ql B9 rfl (Bf rfl (qm rfl ?_)))
    refine CR 46 h rfl (fun h => ?_) fun h => ?_
    ·refine qL Hc Dm rfl (qw 2 rfl (NW rfl (qf CW rfl (ql Bg rfl (qf Dd rfl (ql B9 rfl ?_))))))
     refine Ce h fun v10 a10 b10 h => qI Az DD a10 (Aj b10) rfl (qj B9 (Aj b10) rfl ?_)
     refine By h fun v11 a11 h => Aq [] (H2 N v1 ((C9 .u8 v5 v4)) v10 v11 a11) Re rfl (BJ rfl (qp rfl (qp rfl (AH (by kernel_rfl) ?_))))
     exact sn [] h
    ·refine qw 12 rfl (qp rfl (qp rfl (AH (by kernel_rfl) ?_)))
     exact sn [] h
  ·refine Ba h (fun h => ?_) fun h => ?_
   ·refine wq rfl (qe rfl ?_)
    obtain rfl := sj h
    refine Ae (sm [] [(6, bD false)] [(90000, .box [.own 90001, .own 90002, .own 90003]), (90001, .vec 1 (p1.fe.map An)), (90002, .vec 1 (p1.fc.map An)), (90003, .vec 1 (p1.ff.map Cl))] rfl rfl) (Ao ?_)
    exact ⟨⟨[_], tm, rfl⟩, ⟨rfl, rfl, rfl, rfl, tv⟩, tv⟩
   ·refine Al (wq rfl (qm rfl (NW rfl (qf Dh rfl (ql HT rfl (qw 2 rfl ?_))))))
    refine Ce h fun v13 a13 b13 h => qI Do Gq a13 (Aj b13) rfl ?_
    refine Fr rfl rfl rfl rfl (Aj b13) rfl Gq rfl (Hl rfl) (Fw Cl p1.ff _ v4) ?_
    refine Aa (wq rfl (qe rfl ?_))
    obtain rfl := sj h
    refine Ae (sm [] [(6, bD true)] [(90000, .box [.own 90001, .own 90002, .own 90003]), (90001, .vec 1 (p1.fe.map An)), (90002, .vec 1 (p1.fc.map An)), (90003, .vec 1 ((p1.ff.set ((p2).toNat) v4).map Cl))] rfl rfl) (Ao ?_)
    exact ⟨⟨[_], tm, rfl⟩, ⟨rfl, rfl, rfl, rfl, tv⟩, tv⟩
theorem Kd (N : Nat) (p0 : Ab) (p1 : Ah) (p2 : Ac) (r : Ah × Bool) (h : F2 N p0 p1 p2 = some r) : Ap Tryd.prog 75 [.e (.agg (Ai p0)), .e (.agg (AA p1)), .e (.agg (Cn p2))] [(1, r.1.fe.map An), (1, r.1.fc.map An), (1, r.1.ff.map Cl)] (.tup [.agg [.own 0, .own 1, .own 2], .one (.pure (.val (.bool r.2)))]) := by
 unfold F2 at h
 refine cw (n := 51) (rs := [.cell 6 38, .tmp 7]) Tryd.func75 fun w0 S0 => ?_
 refine wq rfl (qb rfl (qb rfl (qb rfl (qz Cj rfl (qa rfl (Aa (wq rfl (qL Be AD rfl ?_))))))))
 refine By h fun v1 a1 h => Aq [2001, 2002, 2003] (Jp N p1 v1 a1) Q4 rfl (qz Cj rfl (qs AD rfl (Aa (wp rfl (qf Eq rfl (ql B9 rfl (Aa (AN (wq rfl (Bf rfl (qe rfl ?_)))))))))))
 refine Ba h (fun h => ?_) fun h => ?_
 ·refine wq rfl (qL Be AD rfl (qL B5 BU rfl (qL Fe BT rfl ?_)))
  refine By h fun v3 a3 h => II (ds0 := [_, _, _]) [8, 2001, 2002, 2003] [] [false, false, true, true] (J7 N p0 v1 p2 v3 a3) (.p rfl) Q1 rfl ⟨rfl, rfl, rfl, tv⟩ rfl rfl (by decide) ⟨rfl, rfl, rfl, rfl, tv⟩ rfl (EN rfl) tv ⟨(fun _ => rfl), (fun _ => rfl), (fun h => by cases h), (fun h => by cases h), tv⟩ rfl rfl rfl ?_
  refine qs AD rfl (qa rfl (AH (by kernel_rfl) ?_))
  obtain rfl := sj h
  refine Ae (sm [(1000, 2001), (1001, 2002), (1002, 2003)] [(6, oD (.ptr 6 0)), (7, bD v3.1)] [(6, .box [.own 1000, .own 1001, .own 1002]), (1000, .vec 1 (v1.fe.map An)), (1001, .vec 1 (v3.2.1.map An)), (1002, .vec 1 (v3.2.2.map Cl))] rfl rfl) (Ao ?_)
  exact ⟨⟨[_, _], ⟨.cellN _ _ _ _ _ _ _ rfl rfl Be AD rfl rfl (GG rfl), tm⟩, rfl⟩, ⟨rfl, rfl, rfl, tv⟩⟩
 ·refine wq rfl (Bf rfl (qe rfl ?_))
  refine Ba h (fun h => ?_) fun h => ?_
  ·refine wq rfl (qL Be AD rfl (qL B5 BU rfl (qf DJ rfl (ql B9 rfl ?_))))
   refine By h fun v5 a5 h => II (ds0 := [_, _, _]) [8, 2001, 2002, 2003] [] [false, false, false, true] (Ky N p0 v1 p2.fj v5 a5) (.p rfl) Rj rfl ⟨rfl, rfl, rfl, tv⟩ rfl rfl (by decide) ⟨rfl, rfl, rfl, rfl, tv⟩ rfl (EN rfl) tv ⟨(fun _ => rfl), (fun _ => rfl), (fun _ => rfl), (fun h => by cases h), tv⟩ rfl rfl rfl ?_
   refine qs AD rfl (qa rfl (AH (by kernel_rfl) ?_))
   obtain rfl := sj h
   refine Ae (sm [(1000, 2001), (1001, 2002), (1002, 2003)] [(6, oD (.ptr 6 0)), (7, bD v5.1)] [(6, .box [.own 1000, .own 1001, .own 1002]), (1000, .vec 1 (v1.fe.map An)), (1001, .vec 1 (v1.fc.map An)), (1002, .vec 1 (v5.2.map Cl))] rfl rfl) (Ao ?_)
   exact ⟨⟨[_, _], ⟨.cellN _ _ _ _ _ _ _ rfl rfl Be AD rfl rfl (GG rfl), tm⟩, rfl⟩, ⟨rfl, rfl, rfl, tv⟩⟩
  ·refine Al (wq rfl (qf B7 rfl (ql Bg rfl (qf DJ rfl (ql B9 rfl ?_)))))
   refine Ce h fun v6 a6 b6 h => qI Az DD a6 (Aj b6) rfl (qj B9 (Aj b6) rfl (qa rfl (Aa (wp rfl (qm rfl (AY rfl (Aa ?_)))))))
   refine Ba h (fun h => ?_) fun h => ?_
   ·refine wq rfl (qL Be AD rfl (qs AD rfl (qe rfl ?_)))
    obtain rfl := sj h
    refine Ae (sm [(1000, 2001), (1001, 2002), (1002, 2003)] [(6, oD (.ptr 6 0)), (7, bD false)] [(6, .box [.own 1000, .own 1001, .own 1002]), (1000, .vec 1 (v1.fe.map An)), (1001, .vec 1 (v1.fc.map An)), (1002, .vec 1 (v1.ff.map Cl))] rfl rfl) (Ao ?_)
    exact ⟨⟨[_, _], ⟨.cellN _ _ _ _ _ _ _ rfl rfl Be AD rfl rfl (GG rfl), tm⟩, rfl⟩, ⟨rfl, rfl, rfl, tv⟩⟩
   ·refine Al (wq rfl (qf B7 rfl (ql Bg rfl (qf DJ rfl (ql B9 rfl ?_)))))
    refine Ce h fun v8 a8 b8 h => qI Az DD a8 (Aj b8) rfl ?_
    refine Fr rfl rfl rfl rfl (Aj b8) rfl DD rfl (Hl rfl) (Fw An v1.fc _ ((-1))) ?_
    refine Aa ?_
    refine AO h (fun v9 => mk [(6, oD (.ptr 6 0)), (8, oD (.ptr 8 0))] [(6, .box [.pure (.nil0), .pure (.nil0), .pure (.nil0)]), (8, .box [.own 2004, .own 2005, .own 2006]), (2004, .vec 1 (v9.map An)), (2005, .vec 1 ((v1.fc.set ((p2.fj).toNat) ((-1))).map An)), (2006, .vec 1 (v1.ff.map Cl))]) (fun j9 h => ?_) (fun v9 h => ?_)
    ·refine wq rfl (qf Eq rfl (ql B9 rfl (Bf rfl (Aa ?_))))
     refine Ba h (fun h => ?_) fun h => ?_
     ·refine Ak Ay rfl (qf CW rfl (ql Bg rfl (qf DJ rfl (ql B9 rfl (qm rfl ?_)))))
      refine Ce h fun v11 a11 b11 h => qI Az DD a11 (Aj b11) rfl ?_
      refine Fr rfl rfl rfl rfl (Aj b11) rfl DD rfl (Hl rfl) (Fw An v1.fe _ v6) ?_
      refine Aa ?_
      exact sn [(2004, 2001), (2005, 2002), (2006, 2003)] h
     ·refine Al ?_
      exact sn [(2004, 2001), (2005, 2002), (2006, 2003)] h
    ·refine wq rfl (qL Be AD rfl (qs AD rfl (qe rfl ?_)))
     obtain rfl := sj h
     refine Ae (sm [(1000, 2004), (1001, 2005), (1002, 2006)] [(6, oD (.ptr 6 0)), (7, bD true)] [(6, .box [.own 1000, .own 1001, .own 1002]), (1000, .vec 1 (v9.map An)), (1001, .vec 1 ((v1.fc.set ((p2.fj).toNat) ((-1))).map An)), (1002, .vec 1 (v1.ff.map Cl))] rfl rfl) (Ao ?_)
     exact ⟨⟨[_, _], ⟨.cellN _ _ _ _ _ _ _ rfl rfl Be AD rfl rfl (GG rfl), tm⟩, rfl⟩, ⟨rfl, rfl, rfl, tv⟩⟩
theorem Ki (N : Nat) (p0 : Ab) (p1 : Ah) (p2 : Ac) (r : Ah × Int) (h : F4 N p0 p1 p2 = some r) : Ap Tryd.prog 60 [.e (.agg (Ai p0)), .e (.agg (AA p1)), .e (.agg (Cn p2))] [(1, r.1.fe.map An), (1, r.1.fc.map An), (1, r.1.ff.map Cl)] (.tup [.agg [.own 0, .own 1, .own 2], .one (iC r.2)]) := by
 unfold F4 at h
 refine cw (n := 32) (rs := [.cell 6 38, .tmp 7]) Tryd.func60 fun w0 S0 => ?_
 refine wq rfl (qb rfl (qb rfl (qb rfl (qz Cj rfl (qa rfl (Aa (AB (AN (wq rfl (qL Fe BT rfl ?_))))))))))
 refine By h fun v1 a1 h => Aq [] (HZ N p2 v1 a1) Qm rfl (BJ rfl (qe rfl ?_))
 refine Ba h (fun h => ?_) fun h => ?_
 ·refine wq rfl (Bb Cj Gf rfl (qs AD rfl (qe rfl ?_)))
  obtain rfl := sj h
  refine Ae ((AU 6 0 2001 1 _ rfl rfl rfl rfl).trans ((AU 6 1 2002 1 _ rfl rfl rfl rfl).trans ((AU 6 2 2003 1 _ rfl rfl rfl rfl).trans (sm [(1000, 2001), (1001, 2002), (1002, 2003)] [(6, oD (.ptr 6 0)), (7, iD 1)] [(6, .box [.own 1000, .own 1001, .own 1002]), (1000, .vec 1 ((([] : List Int)).map An)), (1001, .vec 1 ((([] : List Int)).map An)), (1002, .vec 1 ((([] : List Int)).map Cl))] rfl rfl)))) (Ao ?_)
  exact ⟨⟨[_, _], ⟨.cellN _ _ _ _ _ _ _ rfl rfl Be AD rfl rfl (GG rfl), tm⟩, rfl⟩, ⟨rfl, rfl, rfl, tv⟩⟩
 ·refine wq rfl (qL B5 BU rfl (qL Fe BT rfl ?_))
  refine By h fun v3 a3 h => Aq [] (Js N p0 p2 v3 a3) Rr rfl (BJ rfl (qe rfl ?_))
  refine Ba h (fun h => ?_) fun h => ?_
  ·refine wq rfl (Bb Cj Gf rfl (qs AD rfl (qe rfl ?_)))
   obtain rfl := sj h
   refine Ae ((AU 6 0 2004 1 _ rfl rfl rfl rfl).trans ((AU 6 1 2005 1 _ rfl rfl rfl rfl).trans ((AU 6 2 2006 1 _ rfl rfl rfl rfl).trans (sm [(1000, 2004), (1001, 2005), (1002, 2006)] [(6, oD (.ptr 6 0)), (7, iD 4)] [(6, .box [.own 1000, .own 1001, .own 1002]), (1000, .vec 1 ((([] : List Int)).map An)), (1001, .vec 1 ((([] : List Int)).map An)), (1002, .vec 1 ((([] : List Int)).map Cl))] rfl rfl)))) (Ao ?_)
   exact ⟨⟨[_, _], ⟨.cellN _ _ _ _ _ _ _ rfl rfl Be AD rfl rfl (GG rfl), tm⟩, rfl⟩, ⟨rfl, rfl, rfl, tv⟩⟩
  ·refine Al (wq rfl (qL B5 BU rfl (qL Be AD rfl (qL Fe BT rfl ?_))))
   refine By h fun v5 a5 h => Aq [2007, 2008, 2009] (Kd N p0 p1 p2 v5 a5) QO rfl (qm rfl (qx rfl (qx rfl (qz Cj rfl (qs AD rfl (qa rfl (Aa (wp rfl (qm rfl (BJ rfl (Aa ?_)))))))))))
   refine Ba h (fun h => ?_) fun h => ?_
   ·refine wq rfl (Bb Cj Gf rfl (qs AD rfl (qe rfl ?_)))
    obtain rfl := sj h
    refine Ae ((AU 6 0 2010 1 _ rfl rfl rfl rfl).trans ((AU 6 1 2011 1 _ rfl rfl rfl rfl).trans ((AU 6 2 2012 1 _ rfl rfl rfl rfl).trans (sm [(1000, 2010), (1001, 2011), (1002, 2012)] [(6, oD (.ptr 6 0)), (7, iD 11)] [(6, .box [.own 1000, .own 1001, .own 1002]), (1000, .vec 1 ((([] : List Int)).map An)), (1001, .vec 1 ((([] : List Int)).map An)), (1002, .vec 1 ((([] : List Int)).map Cl))] rfl rfl)))) (Ao ?_)
    exact ⟨⟨[_, _], ⟨.cellN _ _ _ _ _ _ _ rfl rfl Be AD rfl rfl (GG rfl), tm⟩, rfl⟩, ⟨rfl, rfl, rfl, tv⟩⟩
   ·refine Al (wq rfl (qL Be AD rfl (qs AD rfl (qe rfl ?_))))
    obtain rfl := sj h
    refine Ae (sm [(1000, 2007), (1001, 2008), (1002, 2009)] [(6, oD (.ptr 6 0)), (7, iD 0)] [(6, .box [.own 1000, .own 1001, .own 1002]), (1000, .vec 1 (v5.1.fe.map An)), (1001, .vec 1 (v5.1.fc.map An)), (1002, .vec 1 (v5.1.ff.map Cl))] rfl rfl) (Ao ?_)
    exact ⟨⟨[_, _], ⟨.cellN _ _ _ _ _ _ _ rfl rfl Be AD rfl rfl (GG rfl), tm⟩, rfl⟩, ⟨rfl, rfl, rfl, tv⟩⟩
theorem HL (N : Nat) (p0 : Ab) (p1 : Ah) (p2 : Ac) (r : Ah × Int) (h : EK N p0 p1 p2 = some r) : Ap Tryd.prog 46 [.e (.agg (Ai p0)), .e (.agg (AA p1)), .e (.agg (Cn p2))] [(1, r.1.fe.map An), (1, r.1.fc.map An), (1, r.1.ff.map Cl)] (.tup [.agg [.own 0, .own 1, .own 2], .one (iC r.2)]) := by
 unfold EK at h
 refine cw (n := 22) (rs := [.cell 6 38, .tmp 7]) Tryd.func46 fun w0 S0 => ?_
 refine wq rfl (qb rfl (qb rfl (qb rfl (qz Cj rfl (qa rfl (Aa (wp rfl (qL B5 BU rfl (qL Be AD rfl ?_)))))))))
 refine By h fun v1 a1 h => Aq [] (FM N p0 p1 v1 a1) NH rfl (qa rfl (Aa (wq rfl (qm rfl (Bo rfl (Aa ?_))))))
 refine Ba h (fun h => ?_) fun h => ?_
 ·refine wq rfl (Bb Cj Gf rfl (qm rfl (qs AD rfl (qe rfl ?_))))
  obtain rfl := sj h
  refine Ae ((AU 6 0 2001 1 _ rfl rfl rfl rfl).trans ((AU 6 1 2002 1 _ rfl rfl rfl rfl).trans ((AU 6 2 2003 1 _ rfl rfl rfl rfl).trans (sm [(1000, 2001), (1001, 2002), (1002, 2003)] [(6, oD (.ptr 6 0)), (7, iD v1)] [(6, .box [.own 1000, .own 1001, .own 1002]), (1000, .vec 1 ((([] : List Int)).map An)), (1001, .vec 1 ((([] : List Int)).map An)), (1002, .vec 1 ((([] : List Int)).map Cl))] rfl rfl)))) (Ao ?_)
  exact ⟨⟨[_, _], ⟨.cellN _ _ _ _ _ _ _ rfl rfl Be AD rfl rfl (GG rfl), tm⟩, rfl⟩, ⟨rfl, rfl, rfl, tv⟩⟩
 ·refine Al (wq rfl (qL B5 BU rfl (qL Be AD rfl (qL Fe BT rfl ?_))))
  refine By h fun v3 a3 h => Aq [2004, 2005, 2006] (Ki N p0 p1 p2 v3 a3) QR rfl (qx rfl (qx rfl (qs AD rfl (qe rfl ?_))))
  obtain rfl := sj h
  refine Ae (sm [(1000, 2004), (1001, 2005), (1002, 2006)] [(6, oD (.ptr 6 0)), (7, iD v3.2)] [(6, .box [.own 1000, .own 1001, .own 1002]), (1000, .vec 1 (v3.1.fe.map An)), (1001, .vec 1 (v3.1.fc.map An)), (1002, .vec 1 (v3.1.ff.map Cl))] rfl rfl) (Ao ?_)
  exact ⟨⟨[_, _], ⟨.cellN _ _ _ _ _ _ _ rfl rfl Be AD rfl rfl (GG rfl), tm⟩, rfl⟩, ⟨rfl, rfl, rfl, tv⟩⟩
theorem Gp (N : Nat) (p0 : List Int) (p1 : List Int) (r : Bool) (h : CY N p0 p1 = some r) : Ap Tryd.prog 56 [pD (.sl (p0.map An)), pD (.sl (p1.map An))] [] (bD r) := by
 unfold CY at h
 refine cw (n := 26) (rs := [.tmp 4]) Tryd.func56 fun w0 S0 => ?_
 refine wq rfl (qa rfl (Aa (wp rfl (qm rfl (Aw Az rfl (qm rfl (Aw Az rfl (Bo rfl (Aa ?_)))))))))
 refine Ba h (fun h => ?_) fun h => ?_
 ·refine wq rfl (qe rfl ?_)
  obtain rfl := sj h
  refine Ae (sm [] [(4, bD false)] [] rfl rfl) (Ao ?_)
  exact ⟨⟨[_], tm, rfl⟩, tv⟩
 ·refine Al (wp rfl (qm rfl (Aw Az rfl (qm rfl (Aa ?_)))))
  refine AE (L := BR N p0 p1) h (fun v2 => mk [(0, pD (.sl (p0.map An))), (1, pD (.sl (p1.map An))), (12, iD ((p0.length : Int))), (13, iD v2)] []) (fun v3 => mk [] []) (fun _ _ => rfl) (sm [] _ _ rfl rfl) (fun j2 n2 v2 h => ?_) (fun v3 s h hs => ?_)
  ·unfold BR at h
   refine wq rfl (AY rfl (Aa (AB ?_)))
   refine Ba h (fun h => ?_) fun h => ?_
   ·refine Al (AB (AN (wq rfl (qm rfl (qa rfl (Aa (wq rfl (qw 2 rfl ?_))))))))
    refine Ce h fun v5 a5 b5 h => qi Az DD a5 (Aj b5) rfl (qk B9 rfl (qw 2 rfl ?_))
    refine Ce h fun v6 a6 b6 h => qi Az DD a6 (Aj b6) rfl (qk B9 rfl (Bo rfl (AH (by kernel_rfl) ?_)))
    refine Ba h (fun h => ?_) fun h => ?_
    ·refine wq rfl (qe rfl ?_)
     obtain rfl := sj h
     refine Ae (sm [] [(4, bD false)] [] rfl rfl) (Ao ?_)
     exact ⟨⟨[_], tm, rfl⟩, tv⟩
    ·refine Al (Ak Ay rfl (Bm rfl (qm rfl (Aa ?_))))
     exact sn [] h
   ·refine AZ ?_
    exact sn [] h
  ·refine Ae hs (wq rfl (qe rfl ?_))
   obtain rfl := sj h
   refine Ae (sm [] [(4, bD true)] [] rfl rfl) (Ao ?_)
   exact ⟨⟨[_], tm, rfl⟩, tv⟩
theorem Fl (N : Nat) (p0 : List Int) (p1 : Int → Option Bool) (r : Int) (h : Cs N p0 p1 = some r) : Ap Tryd.prog 71 [pD (.sl (p0.map An)), oD (.clo (I1 (Mw false An) tB p1))] [] (iD r) := by
 unfold Cs at h
 refine cw (n := 19) (rs := [.tmp 4]) Tryd.func71 fun w0 S0 => ?_
 refine wq rfl (qa rfl (Aa (wp rfl (qm rfl (Aw Az rfl (qm rfl (Aa ?_)))))))
 refine AE (L := Bs N p0 p1) h (fun v1 => mk [(0, pD (.sl (p0.map An))), (1, oD (.clo (I1 (Mw false An) tB p1))), (7, iD ((p0.length : Int))), (8, iD v1)] []) (fun v2 => mk [] []) (fun _ _ => rfl) (sm [] _ _ rfl rfl) (fun j1 n1 v1 h => ?_) (fun v2 s h hs => ?_)
 ·unfold Bs at h
  refine wq rfl (AY rfl (Aa (AB ?_)))
  refine Ba h (fun h => ?_) fun h => ?_
  ·refine Al (AB (AN (wq rfl (qm rfl (qa rfl (Aa (wq rfl (qw 3 rfl ?_))))))))
   refine Ce h fun v4 a4 b4 h => qi Az DD a4 (Aj b4) rfl (qk B9 rfl ?_)
   refine By h fun v5 a5 h => L3 (ds0 := [_]) (ar := (Mw false An) v4) (.p rfl) rfl rfl ⟨rfl, tv⟩ rfl rfl rfl (LO (L1 _ _ Pr) a5) ?_
   refine Aa ?_
   refine Ba h (fun h => ?_) fun h => ?_
   ·refine wq rfl (qm rfl (qe rfl ?_))
    obtain rfl := sj h
    refine Ae (sm [] [(4, iD v1)] [] rfl rfl) (Ao ?_)
    exact ⟨⟨[_], tm, rfl⟩, tv⟩
   ·refine Al (Ak Ay rfl (Bm rfl (qm rfl (Aa ?_))))
    exact sn [] h
  ·refine AZ ?_
   exact sn [] h
 ·refine Ae hs (wq rfl (qe rfl ?_))
  obtain rfl := sj h
  refine Ae (sm [] [(4, iD ((-1)))] [] rfl rfl) (Ao ?_)
  exact ⟨⟨[_], tm, rfl⟩, tv⟩
theorem EU (N : Nat) (p0 : List Int) (p1 : Int → Option Bool) (r : Bool) (h : B6 N p0 p1 = some r) : Ap Tryd.prog 57 [pD (.sl (p0.map An)), oD (.clo (I1 (Mw false An) tB p1))] [] (bD r) := by
 unfold B6 at h
 refine cw (n := 9) (rs := [.tmp 4]) Tryd.func57 fun w0 S0 => ?_
 refine wq rfl (qa rfl (Aa (wq rfl (qw 2 rfl ?_))))
 refine By h fun v1 a1 h => Aq [] (Fl N p0 p1 v1 a1) QW rfl (ER rfl (qe rfl ?_))
 obtain rfl := sj h
 refine Ae (sm [] [(4, bD ((decide (0 ≤ v1))))] [] rfl rfl) (Ao ?_)
 exact ⟨⟨[_], tm, rfl⟩, tv⟩
theorem J6 (N : Nat) (p0 : Int) (r : Bool) (h : EL N p0 = some r) : Ap Tryd.prog 58 [iD p0] [] (bD r) := by
 unfold EL at h
 refine cw (n := 5) (rs := [.tmp 2]) Tryd.func58 fun w0 S0 => ?_
 refine wq rfl (qa rfl (Aa (wq rfl (qm rfl (ER rfl (qe rfl ?_))))))
 obtain rfl := sj h
 refine Ae (sm [] [(2, bD ((decide (0 ≤ p0))))] [] rfl rfl) (Ao ?_)
 exact ⟨⟨[_], tm, rfl⟩, tv⟩
theorem IV (N : Nat) (p0 : Ab) (p1 : Ah) (r : Bool) (h : FK N p0 p1 = some r) : Ap Tryd.prog 39 [.e (.agg (Ai p0)), .e (.agg (AA p1))] [] (bD r) := by
 unfold FK at h
 refine cw (n := 22) (rs := [.tmp 4]) Tryd.func39 fun w0 S0 => ?_
 refine wq rfl (qb rfl (qb rfl (qe rfl ?_)))
 refine AO h (fun v1 => mk [(4, bD v1)] []) (fun j1 h => ?_) (fun v1 h => ?_)
 ·refine Ak Ay rfl (qL B5 BU rfl (qL Be AD rfl ?_))
  refine By h fun v2 a2 h => Aq [] (FM N p0 p1 v2 a2) NH rfl (Bf rfl (qm rfl ?_))
  refine CR 9 h rfl (fun h => ?_) fun h => ?_
  ·refine qf CW rfl (ql Bg rfl (qf Gs rfl (ql Bg rfl ?_)))
   refine By h fun v4 a4 h => Aq [] (Gp N p1.fe p0.fp v4 a4) Rw rfl (qp rfl (qm rfl ?_))
   refine CR 16 h rfl (fun h => ?_) fun h => ?_
   ·refine qf B7 rfl (ql Bg rfl ?_)
    refine By h fun v6 a6 h => Aq [] (Ap.weak (ds' := [pD (.sl (p1.fc.map An)), oD (.fnc 58)]) (EU N p1.fc ((fun (x : Int) => EL N x)) v6 a6) ⟨(fun _ _ _ hh => hh), (fun _ _ _ hh => NE Q9 (fun ar t ht => by obtain ⟨x, r, rfl, hq, rfl⟩ := JT ht; exact J6 N x r hq) hh), tv⟩) Rx rfl ?_
    refine BJ rfl (qp rfl (qe rfl ?_))
    exact sn [] h
   ·refine qw 4 rfl (qp rfl (qe rfl ?_))
    exact sn [] h
  ·refine qw 5 rfl (qp rfl (qw 5 rfl (qp rfl (qe rfl ?_))))
   exact sn [] h
 ·obtain rfl := sj h
  refine Ae (sm [] [(4, bD v1)] [] rfl rfl) (Ao ?_)
  exact ⟨⟨[_], tm, rfl⟩, tv⟩
theorem Jl (N : Nat) (p0 : Ab) (p1 : List Ac) (r : Int × Ah × Ar × Int) (h : E0 N p0 p1 = some r) : Ap Tryd.prog 45 [.e (.agg (Ai p0)), pD (.sl (p1.map Ag))] [] (.tup [.one (iC r.1), .agg (AA r.2.1), .agg (Es r.2.2.1), .one (iC r.2.2.2)]) := by
 unfold E0 at h
 refine cw (n := 89) (rs := [.tmp 4, .cell 5 38, .cell 6 93, .tmp 7]) Tryd.func45 fun w0 S0 => ?_
 refine wq rfl (qb rfl (qa rfl (qz Cj rfl (qz GF rfl (qa rfl (Aa (wq rfl (qL B5 BU rfl ?_))))))))
 refine By h fun v1 a1 h => Aq [2001, 2002, 2003] (GI N p0 v1 a1) OW rfl (qm rfl (qx rfl (qx rfl (qz Cj rfl (qs AD rfl (qa rfl (Aa (wp rfl (qm rfl (Bo rfl (Aa ?_)))))))))))
 refine Ba h (fun h => ?_) fun h => ?_
 ·refine wq rfl (Bb Cj Gf rfl (Bb GF K0 rfl (qm rfl (qa rfl (qs AD rfl (qs Ef rfl (qe rfl ?_)))))))
  obtain rfl := sj h
  refine Ae ((DG 5 _ rfl).trans (sm [] [(4, iD 0), (5, oD (.ptr 5 0)), (6, oD (.ptr 6 0)), (7, iD v1.2)] [(5, .box [sC ((([] : List Int)).map An), sC ((([] : List Int)).map An), sC ((([] : List Int)).map Cl)]), (6, .box [iC 0, iC 0, iC 0])] rfl rfl)) (Ao ?_)
  exact ⟨⟨[_, _, _, _], ⟨.tmp _ _ rfl, ⟨.cellN _ _ _ _ _ _ _ rfl rfl Be AD rfl rfl (GG rfl), ⟨.cellN _ _ _ _ _ _ _ rfl rfl IC Ef rfl rfl (GG rfl), tm⟩⟩⟩, rfl⟩, tv⟩
 ·refine Al (wp rfl (qL B5 BU rfl (qL Be AD rfl (C4 (A0 2001 _ _ rfl rfl) (C4 (A0 2002 _ _ rfl rfl) (C4 (A0 2003 _ _ rfl rfl) ?_))))))
  refine By h fun v3 a3 h => Aq [] (GU N p0 v1.1 v3 a3) OY rfl (qm rfl (qx rfl (qx rfl (qx rfl (qz Cj rfl (qz GF rfl (qs AD rfl (qs Ef rfl (qa rfl (Aa (wq rfl (qm rfl (Bf rfl (Aa ?_))))))))))))))
  refine Ba h (fun h => ?_) fun h => ?_
  ·refine wq rfl (qL Be AD rfl (qL IC Ef rfl (qa rfl (qs AD rfl (qs Ef rfl (qa rfl (AH (by kernel_rfl) ?_)))))))
   obtain rfl := sj h
   refine Ae (sm [] [(4, iD ((-1))), (5, oD (.ptr 5 0)), (6, oD (.ptr 6 0)), (7, iD 0)] [(5, .box (AA v3.1)), (6, .box (Es v3.2.1))] rfl rfl) (Ao ?_)
   exact ⟨⟨[_, _, _, _], ⟨.tmp _ _ rfl, ⟨.cellN _ _ _ _ _ _ _ rfl rfl Be AD rfl rfl (GG rfl), ⟨.cellN _ _ _ _ _ _ _ rfl rfl IC Ef rfl rfl (GG rfl), tm⟩⟩⟩, rfl⟩, tv⟩
  ·refine Al (wp rfl (qm rfl (Aw A6 rfl (qm rfl (Aa ?_)))))
   refine AE (L := De N p0 p1) h (fun v5 => mk [(1, pD (.sl (p1.map Ag))), (2, oD (.ptr 2 0)), (5, oD (.ptr 5 0)), (6, oD (.ptr 6 0)), (8, oD (.ptr 8 0)), (41, pD (.sl (p1.map Ag))), (42, iD ((p1.length : Int))), (43, iD v5.2)] [(2, .box (Ai p0)), (5, .box [.pure (.nil0), .pure (.nil0), .pure (.nil0)]), (6, .box [iC 0, iC 0, iC 0]), (8, .box (AA v5.1))]) (fun v6 => mk [(1, pD (.sl (p1.map Ag))), (2, oD (.ptr 2 0)), (5, oD (.ptr 5 0)), (6, oD (.ptr 6 0)), (8, oD (.ptr 8 0))] [(2, .box (Ai p0)), (5, .box [.pure (.nil0), .pure (.nil0), .pure (.nil0)]), (6, .box [iC 0, iC 0, iC 0]), (8, .box (AA v6))]) (fun _ _ => rfl) (sm [] _ _ rfl rfl) (fun j5 n5 v5 h => ?_) (fun v6 s h hs => ?_)
   ·unfold De at h
    refine wq rfl (AY rfl (Aa (AB ?_)))
    refine Ba h (fun h => ?_) fun h => ?_
    ·refine Al (AB (AN (wq rfl (qm rfl ?_))))
     refine Ce h fun v8 a8 b8 h => qi A6 BT a8 (Aj b8) rfl (qK Fe BT rfl (qz Hs rfl (qa rfl (qs BT rfl (Aa (wq rfl (qL B5 BU rfl (qL Be AD rfl (qL Fe BT rfl ?_)))))))))
     refine By h fun v9 a9 h => Aq [2004, 2005, 2006] (HL N p0 v5.1 v8 v9 a9) PO rfl (qm rfl (qx rfl (qx rfl (qz Cj rfl (qs AD rfl (qa rfl (Aa (AB ?_))))))))
     refine AO h (fun v10 => mk [(1, pD (.sl (p1.map Ag))), (2, oD (.ptr 2 0)), (5, oD (.ptr 5 0)), (6, oD (.ptr 6 0)), (8, oD (.ptr 8 0)), (13, iD v5.2), (15, oD (.ptr 15 0)), (41, pD (.sl (p1.map Ag))), (42, iD ((p1.length : Int))), (43, iD v5.2), (61, bD v10)] [(2, .box (Ai p0)), (5, .box [.pure (.nil0), .pure (.nil0), .pure (.nil0)]), (6, .box [iC 0, iC 0, iC 0]), (8, .box (AA v5.1)), (15, .box [.own 2007, .own 2008, .own 2009]), (2007, .vec 1 (v9.1.fe.map An)), (2008, .vec 1 (v9.1.fc.map An)), (2009, .vec 1 (v9.1.ff.map Cl))]) (fun j10 h => ?_) (fun v10 h => ?_)
     ·refine Ak Ay rfl (qm rfl (Bo rfl (qm rfl ?_)))
      refine CR 57 h rfl (fun h => ?_) fun h => ?_
      ·refine qw 3 rfl (qp rfl (Aa ?_))
       exact sn [(2007, 2004), (2008, 2005), (2009, 2006)] h
      ·refine qf Eq rfl (ql B9 rfl (Bf rfl (qp rfl (Aa ?_))))
       exact sn [(2007, 2004), (2008, 2005), (2009, 2006)] h
     ·refine Ba h (fun h => ?_) fun h => ?_
      ·refine wq rfl (qm rfl (Bb Cj Gf rfl (Bb GF K0 rfl (qa rfl (qs AD rfl (qs Ef rfl (qe rfl ?_)))))))
       obtain rfl := sj h
       refine Ae ((DG 5 _ rfl).trans (sm [] [(4, iD v5.2), (5, oD (.ptr 5 0)), (6, oD (.ptr 6 0)), (7, iD 0)] [(5, .box [sC ((([] : List Int)).map An), sC ((([] : List Int)).map An), sC ((([] : List Int)).map Cl)]), (6, .box [iC 0, iC 0, iC 0])] rfl rfl)) (Ao ?_)
       exact ⟨⟨[_, _, _, _], ⟨.tmp _ _ rfl, ⟨.cellN _ _ _ _ _ _ _ rfl rfl Be AD rfl rfl (GG rfl), ⟨.cellN _ _ _ _ _ _ _ rfl rfl IC Ef rfl rfl (GG rfl), tm⟩⟩⟩, rfl⟩, tv⟩
      ·refine Al (wp rfl (qL B5 BU rfl (qL Be AD rfl (C4 (A0 2007 _ _ rfl rfl) (C4 (A0 2008 _ _ rfl rfl) (C4 (A0 2009 _ _ rfl rfl) ?_))))))
       refine By h fun v13 a13 h => Aq [] (GU N p0 v9.1 v13 a13) OY rfl (qm rfl (qx rfl (qx rfl (qx rfl (qz Cj rfl (qz GF rfl (qs AD rfl (qs Ef rfl (qa rfl (Aa (wq rfl (qm rfl (Bf rfl (Aa ?_))))))))))))))
       refine Ba h (fun h => ?_) fun h => ?_
       ·refine wq rfl (qm rfl (qL Be AD rfl (qL IC Ef rfl (qa rfl (qs AD rfl (qs Ef rfl (qa rfl (AH (by kernel_rfl) ?_))))))))
        obtain rfl := sj h
        refine Ae (sm [] [(4, iD v5.2), (5, oD (.ptr 5 0)), (6, oD (.ptr 6 0)), (7, iD 0)] [(5, .box (AA v13.1)), (6, .box (Es v13.2.1))] rfl rfl) (Ao ?_)
        exact ⟨⟨[_, _, _, _], ⟨.tmp _ _ rfl, ⟨.cellN _ _ _ _ _ _ _ rfl rfl Be AD rfl rfl (GG rfl), ⟨.cellN _ _ _ _ _ _ _ rfl rfl IC Ef rfl rfl (GG rfl), tm⟩⟩⟩, rfl⟩, tv⟩
       ·refine Al (Ak Ay rfl (qL Be AD rfl (qs AD rfl (Aa (Ak Ay rfl (Bm rfl (qm rfl (Aa ?_))))))))
        exact sn [] h
    ·refine AZ ?_
     exact sn [] h
   ·refine Ae hs (wp rfl (qL B5 BU rfl (qL Be AD rfl ?_)))
    refine By h fun v15 a15 h => Aq [] (IV N p0 v6 v15 a15) P4 rfl (BJ rfl (Aa ?_))
    refine Ba h (fun h => ?_) fun h => ?_
    ·refine wq rfl (qm rfl (Aw A6 rfl (Bb Cj Gf rfl (Bb GF K0 rfl (qa rfl (qs AD rfl (qs Ef rfl (qe rfl ?_))))))))
     obtain rfl := sj h
     refine Ae ((DG 5 _ rfl).trans (sm [] [(4, iD ((p1.length : Int))), (5, oD (.ptr 5 0)), (6, oD (.ptr 6 0)), (7, iD 14)] [(5, .box [sC ((([] : List Int)).map An), sC ((([] : List Int)).map An), sC ((([] : List Int)).map Cl)]), (6, .box [iC 0, iC 0, iC 0])] rfl rfl)) (Ao ?_)
     exact ⟨⟨[_, _, _, _], ⟨.tmp _ _ rfl, ⟨.cellN _ _ _ _ _ _ _ rfl rfl Be AD rfl rfl (GG rfl), ⟨.cellN _ _ _ _ _ _ _ rfl rfl IC Ef rfl rfl (GG rfl), tm⟩⟩⟩, rfl⟩, tv⟩
    ·refine Al (wq rfl (Bb Cj Gf rfl (Bb GF K0 rfl (qa rfl (qs AD rfl (qs Ef rfl (qe rfl ?_)))))))
     obtain rfl := sj h
     refine Ae ((DG 5 _ rfl).trans (sm [] [(4, iD 0), (5, oD (.ptr 5 0)), (6, oD (.ptr 6 0)), (7, iD 15)] [(5, .box [sC ((([] : List Int)).map An), sC ((([] : List Int)).map An), sC ((([] : List Int)).map Cl)]), (6, .box [iC 0, iC 0, iC 0])] rfl rfl)) (Ao ?_)
     exact ⟨⟨[_, _, _, _], ⟨.tmp _ _ rfl, ⟨.cellN _ _ _ _ _ _ _ rfl rfl Be AD rfl rfl (GG rfl), ⟨.cellN _ _ _ _ _ _ _ rfl rfl IC Ef rfl rfl (GG rfl), tm⟩⟩⟩, rfl⟩, tv⟩
theorem J3 (N : Nat) (p0 : Ab) (p1 : List Ac) (r : Bool) (h : FU N p0 p1 = some r) : Ap Tryd.prog 30 [.e (.agg (Ai p0)), pD (.sl (p1.map Ag))] [] (bD r) := by
 unfold FU at h
 refine cw (n := 19) (rs := [.tmp 4]) Tryd.func30 fun w0 S0 => ?_
 refine wq rfl (qb rfl (qa rfl (Aa (wq rfl (qL B5 BU rfl (qm rfl ?_))))))
 refine By h fun v1 a1 h => Aq [] (Jl N p0 p1 v1 a1) QU rfl (qm rfl (qx rfl (qx rfl (qx rfl (qx rfl (qz Cj rfl (qz GF rfl (qa rfl (qs AD rfl (qs Ef rfl (qa rfl (Aa (wq rfl (qm rfl (Bf rfl (qe rfl ?_))))))))))))))))
 obtain rfl := sj h
 refine Ae (sm [] [(4, bD ((v1.2.2.2 == 15)))] [] rfl rfl) (Ao ?_)
 exact ⟨⟨[_], tm, rfl⟩, tv⟩
theorem Gn (N : Nat) (p0 : Ab) (p1 : Ah) (r : Bool × Int) (h : CN N p0 p1 = some r) : Ap Tryd.prog 33 [.e (.agg (Ai p0)), .e (.agg (AA p1))] [] (.tup [.one (.pure (.val (.bool r.1))), .one (iC r.2)]) := by
 unfold CN at h
 refine cw (n := 22) (rs := [.tmp 4, .tmp 5]) Tryd.func33 fun w0 S0 => ?_
 refine wq rfl (qb rfl (qb rfl (qa rfl (qa rfl (Aa (wq rfl (qL B5 BU rfl (qL Be AD rfl ?_))))))))
 refine By h fun v1 a1 h => Aq [] (GU N p0 p1 v1 a1) OY rfl (qm rfl (qx rfl (qx rfl (qx rfl (qz Cj rfl (qz GF rfl (qs AD rfl (qs Ef rfl (qa rfl (Aa (wq rfl (qm rfl (Aa (AN (wq rfl (Bf rfl (qe rfl ?_)))))))))))))))))
 refine Ba h (fun h => ?_) fun h => ?_
 ·refine wq rfl (qa rfl (qe rfl ?_))
  obtain rfl := sj h
  refine Ae (sm [] [(4, bD false), (5, iD 0)] [] rfl rfl) (Ao ?_)
  exact ⟨⟨[_, _], ⟨.tmp _ _ rfl, tm⟩, rfl⟩, tv⟩
 ·refine wq rfl (Bf rfl (qe rfl ?_))
  refine Ba h (fun h => ?_) fun h => ?_
  ·refine wq rfl (qa rfl (qe rfl ?_))
   obtain rfl := sj h
   refine Ae (sm [] [(4, bD true), (5, iD 0)] [] rfl rfl) (Ao ?_)
   exact ⟨⟨[_, _], ⟨.tmp _ _ rfl, tm⟩, rfl⟩, tv⟩
  ·refine wq rfl (qm rfl (qa rfl (qe rfl ?_)))
   obtain rfl := sj h
   refine Ae (sm [] [(4, bD false), (5, iD v1.2.2)] [] rfl rfl) (Ao ?_)
   exact ⟨⟨[_, _], ⟨.tmp _ _ rfl, tm⟩, rfl⟩, tv⟩
theorem KJ (N : Nat) (p0 : Int) (r : ByteArray) (h : Gr N p0 = some r) : Ap Tryd.prog 64 [iD p0] [] (pD (.val (.string r))) := by
 unfold Gr at h
 refine cw (n := 7) (rs := [.tmp 2]) Tryd.func64 fun w0 S0 => ?_
 refine wq rfl (qa rfl (Aa (wq rfl (Fa MZ RD RH rfl (qm rfl ?_)))))
 refine Ce h fun v1 a1 b1 h => KY (.p rfl) rfl rfl rfl MZ RD a1 (Aj (f := eS) b1) ?_
 refine KM (.p rfl) rfl RF rfl (Aj (f := eS) b1) rfl ?_
 refine qa rfl (Aa ?_)
 obtain rfl := sj h
 refine Ae (sm [] [(2, pD (.val (.string v1)))] [] rfl rfl) (Ao ?_)
 exact ⟨⟨[_], tm, rfl⟩, tv⟩
def Nt : Go.Shelf.Ren := ⟨fun | 129 => 96 | 171 => 65 | 243 => 77 | 246 => 85 | 283 => 90 | 284 => 91 | 285 => 92 | 286 => 93 | 317 => 95 | 318 => 97 | 319 => 98 | 320 => 99 | 337 => 100 | 338 => 101 | n => n, fun | 0 => 0 | 2 => 2 | 3 => 3 | 4 => 4 | 5 => 5 | 9 => 9 | 20 => 20 | 37 => 22 | 46 => 110 | 51 => 123 | 53 => 126 | 171 => 143 | 173 => 146 | 212 => 151 | 213 => 152 | 232 => 155 | 233 => 156 | n => n, fun | 17 => 0 | 18 => 1 | 19 => 2 | n => n⟩
theorem PF : LaysM.n171 Tryd.prog Nt := { mixed := Ay, f129 := Tryd.func96.trans (congrArg some (by kernel_rfl)), f171 := Tryd.func65.trans (congrArg some (by kernel_rfl)), f243 := Tryd.func77.trans (congrArg some (by kernel_rfl)), f246 := Tryd.func85.trans (congrArg some (by kernel_rfl)), f283 := Tryd.func90.trans (congrArg some (by kernel_rfl)), f284 := Tryd.func91.trans (congrArg some (by kernel_rfl)), f285 := Tryd.func92.trans (congrArg some (by kernel_rfl)), f286 := Tryd.func93.trans (congrArg some (by kernel_rfl)), f317 := Tryd.func95.trans (congrArg some (by kernel_rfl)), f318 := Tryd.func97.trans (congrArg some (by kernel_rfl)), f319 := Tryd.func98.trans (congrArg some (by kernel_rfl)), f320 := Tryd.func99.trans (congrArg some (by kernel_rfl)), f337 := Tryd.func100.trans (congrArg some (by kernel_rfl)), f338 := Tryd.func101.trans (congrArg some (by kernel_rfl)), t0 := Tryd.underlying0, a0 := Tryd.isAgg0, z0 := Tryd.sizeOf0, v0 := Tryd.zeroValue0, t2 := Tryd.underlying2, a2 := Tryd.isAgg2, z2 := Tryd.sizeOf2, v2 := Tryd.zeroValue2, t3 := Tryd.underlying3, a3 := Tryd.isAgg3, z3 := Tryd.sizeOf3, v3 := Tryd.zeroValue3, t4 := Tryd.underlying4, a4 := Tryd.isAgg4, z4 := Tryd.sizeOf4, v4 := Tryd.zeroValue4, t5 := Tryd.underlying5, a5 := Tryd.isAgg5, z5 := Tryd.sizeOf5, v5 := Tryd.zeroValue5, t9 := Tryd.underlying9, a9 := Tryd.isAgg9, z9 := Tryd.sizeOf9, v9 := Tryd.zeroValue9, t20 := Tryd.underlying20, a20 := Tryd.isAgg20, z20 := Tryd.sizeOf20, v20 := Tryd.zeroValue20, t37 := Tryd.underlying22, a37 := Tryd.isAgg22, z37 := Tryd.sizeOf22, v37 := Tryd.zeroValue22, t46 := Tryd.underlying110, a46 := Tryd.isAgg110, z46 := Tryd.sizeOf110, v46 := Tryd.zeroValue110, t51 := Tryd.underlying123, a51 := Tryd.isAgg123, z51 := Tryd.sizeOf123, v51 := Tryd.zeroValue123, t53 := Tryd.underlying126, a53 := Tryd.isAgg126, z53 := Tryd.sizeOf126, v53 := Tryd.zeroValue126, t171 := Tryd.underlying143, a171 := Tryd.isAgg143, z171 := Tryd.sizeOf143, v171 := Tryd.zeroValue143, t173 := Tryd.underlying146, a173 := Tryd.isAgg146, z173 := Tryd.sizeOf146, v173 := Tryd.zeroValue146, t212 := Tryd.underlying151, a212 := Tryd.isAgg151, z212 := Tryd.sizeOf151, v212 := Tryd.zeroValue151, t213 := Tryd.underlying152, a213 := Tryd.isAgg152, z213 := Tryd.sizeOf152, t232 := Tryd.underlying155, a232 := Tryd.isAgg155, z232 := Tryd.sizeOf155, v232 := Tryd.zeroValue155, t233 := Tryd.underlying156, a233 := Tryd.isAgg156, z233 := Tryd.sizeOf156, v233 := Tryd.zeroValue156, g17 := by kernel_rfl, g18 := by kernel_rfl, g19 := by kernel_rfl, i0 := by kernel_rfl, i2 := by kernel_rfl, i3 := by kernel_rfl, i4 := by kernel_rfl, i5 := by kernel_rfl, i9 := by kernel_rfl, i20 := by kernel_rfl, i37 := by kernel_rfl, i46 := by kernel_rfl, i51 := by kernel_rfl, i53 := by kernel_rfl, i171 := by kernel_rfl, i173 := by kernel_rfl, i212 := by kernel_rfl, i232 := by kernel_rfl, i233 := by kernel_rfl, m17 := by kernel_rfl, m18 := by kernel_rfl, m19 := by kernel_rfl }
theorem GN (N : Nat) (p0 : Int) (r : ByteArray) (h : E1 N p0 = some r) : Ap Tryd.prog 65 [iD p0] [] (pD (.val (.string r))) := Pz PF (g := Nt.g 17) (by kernel_rfl) h
theorem Jt (N : Nat) (p0 : Ac) (r : ByteArray × Int) (h : FC N p0 = some r) : Ap Tryd.prog 48 [.e (.agg (Cn p0))] [] (.tup [.one (.pure (.val (.string r.1))), .one (iC r.2)]) := by
 unfold FC at h
 refine cw (n := 26) (rs := [.tmp 2, .tmp 3]) Tryd.func48 fun w0 S0 => ?_
 refine wq rfl (qb rfl (qa rfl (qa rfl (Aa (wp rfl (qL Fe BT rfl ?_))))))
 refine By h fun v1 a1 h => Aq [] (HZ N p0 v1 a1) Qm rfl (BJ rfl (Aa ?_))
 refine Ba h (fun h => ?_) fun h => ?_
 ·refine wq rfl (qa rfl (qe rfl ?_))
  obtain rfl := sj h
  refine Ae (sm [] [(2, pD (.val (.string ((⟨#[]⟩ : ByteArray))))), (3, iD 1)] [] rfl rfl) (Ao ?_)
  exact ⟨⟨[_, _], ⟨.tmp _ _ rfl, tm⟩, rfl⟩, tv⟩
 ·refine Al (wq rfl (qf Eq rfl (ql B9 rfl ?_)))
  refine By h fun v3 a3 h => Aq [] (KJ N p0.fd v3 a3) Rh rfl ?_
  refine Ge h fun c4 h => ET (.p rfl) rfl rfl (HX _ _ _ _ c4) rfl ?_
  refine qf DJ rfl (ql B9 rfl ?_)
  refine By h fun v5 a5 h => Aq [] (GN N p0.fj v5 a5) Qr rfl ?_
  refine Ge h fun c6 h => ET (.p rfl) rfl rfl (HX _ _ _ _ c6) rfl ?_
  refine qa rfl (AH (by kernel_rfl) ?_)
  refine AO h (fun v7 => mk [(4, pD (.val (.string v7)))] []) (fun j7 h => ?_) (fun v7 h => ?_)
  ·refine wq rfl (qf Eq rfl (ql B9 rfl (Bf rfl (Aa ?_))))
   refine Ba h (fun h => ?_) fun h => ?_
   ·refine Ak Ay rfl (qm rfl (qf Gk rfl (ql B9 rfl ?_)))
    refine By h fun v9 a9 h => Aq [] (GN N p0.fk v9 a9) Qr rfl ?_
    refine Ge h fun c10 h => ET (.p rfl) rfl rfl (HX _ _ _ _ c10) rfl ?_
    refine Ge h fun c11 h => ET (.p rfl) rfl rfl (HX _ _ _ _ c11) rfl ?_
    refine qa rfl (Aa ?_)
    exact sn [] h
   ·refine Al ?_
    exact sn [] h
  ·refine wq rfl (qm rfl (qa rfl (qe rfl ?_)))
   obtain rfl := sj h
   refine Ae (sm [] [(2, pD (.val (.string v7))), (3, iD 0)] [] rfl rfl) (Ao ?_)
   exact ⟨⟨[_, _], ⟨.tmp _ _ rfl, tm⟩, rfl⟩, tv⟩
theorem El (N : Nat) (p0 : List Ac) (p1 : Ac) (r : Int) (h : BI N p0 p1 = some r) : Ap Tryd.prog 66 [pD (.sl (p0.map Ag)), .e (.agg (Cn p1))] [] (iD r) := by
 unfold BI at h
 refine cw (n := 19) (rs := [.tmp 4]) Tryd.func66 fun w0 S0 => ?_
 refine wq rfl (qb rfl (qa rfl (Aa (wp rfl (qm rfl (Aw A6 rfl (qm rfl (Aa ?_))))))))
 refine AE (L := A7 N p0 p1) h (fun v1 => mk [(0, pD (.sl (p0.map Ag))), (3, oD (.ptr 3 0)), (7, iD ((p0.length : Int))), (8, iD v1)] [(3, .box (Cn p1))]) (fun v2 => mk [] []) (fun _ _ => rfl) (sm [] _ _ rfl rfl) (fun j1 n1 v1 h => ?_) (fun v2 s h hs => ?_)
 ·unfold A7 at h
  refine wq rfl (AY rfl (Aa (AB ?_)))
  refine Ba h (fun h => ?_) fun h => ?_
  ·refine Al (AB (AN (wq rfl (qm rfl (qa rfl (Aa (wq rfl (qL Fe BT rfl (qw 2 rfl ?_)))))))))
   refine Ce h fun v4 a4 b4 h => qi A6 BT a4 (Aj b4) rfl (qK Fe BT rfl ?_)
   refine Qi [.int .i64 p1.fd, .int .i64 p1.fj, .int .i64 p1.fk] [.int .i64 v4.fd, .int .i64 v4.fj, .int .i64 v4.fk] (.p rfl) rfl rfl OB rfl ?_
   refine AH (by kernel_rfl) ?_
   refine Ba h (fun h => ?_) fun h => ?_
   ·refine wq rfl (qm rfl (qe rfl ?_))
    obtain rfl := sj h
    refine Ae (sm [] [(4, iD v1)] [] rfl rfl) (Ao ?_)
    exact ⟨⟨[_], tm, rfl⟩, tv⟩
   ·refine Al (Ak Ay rfl (Bm rfl (qm rfl (Aa ?_))))
    exact sn [] h
  ·refine AZ ?_
   exact sn [] h
 ·refine Ae hs (wq rfl (qe rfl ?_))
  obtain rfl := sj h
  refine Ae (sm [] [(4, iD ((-1)))] [] rfl rfl) (Ao ?_)
  exact ⟨⟨[_], tm, rfl⟩, tv⟩
theorem DW (N : Nat) (p0 : List Ac) (p1 : Ac) (r : Bool) (h : Bt N p0 p1 = some r) : Ap Tryd.prog 49 [pD (.sl (p0.map Ag)), .e (.agg (Cn p1))] [] (bD r) := by
 unfold Bt at h
 refine cw (n := 9) (rs := [.tmp 4]) Tryd.func49 fun w0 S0 => ?_
 refine wq rfl (qb rfl (qa rfl (Aa (wq rfl (qm rfl (qL Fe BT rfl ?_))))))
 refine By h fun v1 a1 h => Aq [] (El N p0 p1 v1 a1) Q7 rfl (ER rfl (qe rfl ?_))
 obtain rfl := sj h
 refine Ae (sm [] [(4, bD ((decide (0 ≤ v1))))] [] rfl rfl) (Ao ?_)
 exact ⟨⟨[_], tm, rfl⟩, tv⟩
theorem Kx (N : Nat) (p0 : List Ac) (r : Int) (h : FZ N p0 = some r) : Ap Tryd.prog 34 [pD (.sl (p0.map Ag))] [] (iD r) := by
 unfold FZ at h
 refine cw (n := 42) (rs := [.tmp 2]) Tryd.func34 fun w0 S0 => ?_
 refine wq rfl (qa rfl (Aa (AB ?_)))
 refine AO h (fun v1 => mk [(0, pD (.sl (p0.map Ag))), (14, bD v1)] []) (fun j1 h => ?_) (fun v1 h => ?_)
 ·refine Ak Ay rfl (qm rfl (Aw A6 rfl (AY rfl (qm rfl ?_))))
  refine CR 10 h rfl (fun h => ?_) fun h => ?_
  ·refine qw 3 rfl (qp rfl (Aa ?_))
   exact sn [] h
  ·refine qm rfl (Aw A6 rfl (C0 rfl (qp rfl (Aa ?_))))
   exact sn [] h
 ·refine Ba h (fun h => ?_) fun h => ?_
  ·refine wq rfl (qe rfl ?_)
   obtain rfl := sj h
   refine Ae (sm [] [(2, iD 6)] [] rfl rfl) (Ao ?_)
   exact ⟨⟨[_], tm, rfl⟩, tv⟩
  ·refine Al (wp rfl (qm rfl (Aw A6 rfl (qm rfl (Aa ?_)))))
   refine AE (L := DF N p0) h (fun v4 => mk [(0, pD (.sl (p0.map Ag))), (15, pD (.sl (p0.map Ag))), (16, iD ((p0.length : Int))), (17, iD v4)] []) (fun v5 => mk [] []) (fun _ _ => rfl) (sm [] _ _ rfl rfl) (fun j4 n4 v4 h => ?_) (fun v5 s h hs => ?_)
   ·unfold DF at h
    refine wq rfl (AY rfl (Aa (AB ?_)))
    refine Ba h (fun h => ?_) fun h => ?_
    ·refine Al (AB (AN (wq rfl (qm rfl ?_))))
     refine Ce h fun v7 a7 b7 h => qi A6 BT a7 (Aj b7) rfl (qK Fe BT rfl (qz Hs rfl (qa rfl (qs BT rfl (Aa (wq rfl (qL Fe BT rfl ?_)))))))
     refine By h fun v8 a8 h => Aq [] (Jt N v7 v8 a8) QZ rfl (qm rfl (qx rfl (qx rfl (qa rfl (qe rfl ?_)))))
     refine AO h (fun v9 => mk [(0, pD (.sl (p0.map Ag))), (15, pD (.sl (p0.map Ag))), (16, iD ((p0.length : Int))), (17, iD v4), (40, bD v9)] []) (fun j9 h => ?_) (fun v9 h => ?_)
     ·refine Ak Ay rfl (qm rfl (Bo rfl (qm rfl ?_)))
      refine CR 29 h rfl (fun h => ?_) fun h => ?_
      ·refine qw 3 rfl (qp rfl (qw 6 rfl (qp rfl (AH (by kernel_rfl) ?_))))
       exact sn [] h
      ·refine qf Eq rfl (ql B9 rfl (Bf rfl (qp rfl (qm rfl ?_))))
       refine CR 34 h rfl (fun h => ?_) fun h => ?_
       ·refine qw 5 rfl (qp rfl (AH (by kernel_rfl) ?_))
        exact sn [] h
       ·refine qw 2 rfl ?_
        refine Ge h fun c12 h => FJ (.g rfl rfl) rfl A6 BT (DT (f := Ag) (n := 3) (fun _ => rfl) _) (.none _) (.some _ _ _ _ c12.1) tv ⟨rfl, tv⟩ (by have := c12.2.1; (try simp only [List.length_map]); omega) (by have := c12.2.2; (try simp only [List.length_map]); omega) (EX Ag p0 _ _ ((v4).toNat - 0) rfl) ?_
        refine qL Fe BT rfl ?_
        refine By h fun v13 a13 h => Aq [] (DW N (((p0.drop 0).take ((v4).toNat - 0))) v7 v13 a13) Ro rfl (qp rfl (AH (by kernel_rfl) ?_))
        exact sn [] h
     ·refine Ba h (fun h => ?_) fun h => ?_
      ·refine wq rfl (qe rfl ?_)
       obtain rfl := sj h
       refine Ae (sm [] [(2, iD 1)] [] rfl rfl) (Ao ?_)
       exact ⟨⟨[_], tm, rfl⟩, tv⟩
      ·refine Al (Ak Ay rfl (Bm rfl (qm rfl (Aa ?_))))
       exact sn [] h
    ·refine AZ ?_
     exact sn [] h
   ·refine Ae hs (wq rfl (qe rfl ?_))
    obtain rfl := sj h
    refine Ae (sm [] [(2, iD 0)] [] rfl rfl) (Ao ?_)
    exact ⟨⟨[_], tm, rfl⟩, tv⟩
theorem D1 (N : Nat) (p0 : Ab) (p1 : Ah) (p2 : List Ac) (r : Ah × Bool) (h : Cu N p0 p1 p2 = some r) : Ap Tryd.prog 32 [.e (.agg (Ai p0)), .e (.agg (AA p1)), pD (.sl (p2.map Ag))] [] (.tup [.agg (AA r.1), .one (.pure (.val (.bool r.2)))]) := by
 unfold Cu at h
 refine cw (n := 46) (rs := [.cell 6 38, .tmp 7]) Tryd.func32 fun w0 S0 => ?_
 refine wq rfl (qb rfl (qb rfl (qz Cj rfl (qa rfl (Aa (wp rfl (qm rfl (Aw A6 rfl (qm rfl (Aa ?_))))))))))
 refine AE (L := CT N p0 p2) h (fun v1 => mk [(3, oD (.ptr 3 0)), (4, oD (.ptr 4 0)), (6, oD (.ptr 6 0)), (14, pD (.sl (p2.map Ag))), (15, iD ((p2.length : Int))), (16, iD v1.2.2.2)] [(3, .box (Ai p0)), (4, .box [sC (v1.1.map An), sC (v1.2.1.map An), sC (v1.2.2.1.map Cl)]), (6, .box [.pure (.nil0), .pure (.nil0), .pure (.nil0)])]) (fun v2 => mk [(4, oD (.ptr 4 0)), (6, oD (.ptr 6 0))] [(4, .box (AA v2)), (6, .box [.pure (.nil0), .pure (.nil0), .pure (.nil0)])]) (fun _ _ => rfl) (sm [] _ _ rfl rfl) (fun j1 n1 v1 h => ?_) (fun v2 s h hs => ?_)
 ·unfold CT at h
  refine wq rfl (AY rfl (Aa (AB ?_)))
  refine Ba h (fun h => ?_) fun h => ?_
  ·refine Al (AB (AN (wq rfl ?_)))
   refine Ce h fun v4 a4 b4 h => qi A6 BT a4 (Aj b4) rfl (qK Fe BT rfl (qz Hs rfl (qs BT rfl (Aa (wq rfl (qL B5 BU rfl (qL Be AD rfl (qL Fe BT rfl ?_))))))))
   refine By h fun v5 a5 h => Aq [2001, 2002, 2003] (HL N p0 ((Ah.mk v1.1 v1.2.1 v1.2.2.1)) v4 v5 a5) PO rfl (qm rfl (qx rfl (qx rfl (qz Cj rfl (qs AD rfl (qa rfl (Aa (wp rfl (qm rfl (Bo rfl (Aa ?_)))))))))))
   refine Ba h (fun h => ?_) fun h => ?_
   ·refine wq rfl (Bb Cj Gf rfl (qs AD rfl (qe rfl ?_)))
    obtain rfl := sj h
    refine Ae ((DG 6 _ rfl).trans (sm [] [(6, oD (.ptr 6 0)), (7, bD false)] [(6, .box [sC ((([] : List Int)).map An), sC ((([] : List Int)).map An), sC ((([] : List Int)).map Cl)])] rfl rfl)) (Ao ?_)
    exact ⟨⟨[_, _], ⟨.cellN _ _ _ _ _ _ _ rfl rfl Be AD rfl rfl (GG rfl), tm⟩, rfl⟩, tv⟩
   ·refine Al (wp rfl (qL B5 BU rfl (qL Be AD rfl ?_)))
    refine By h fun v7 a7 h => Hb [] [2001, 2002, 2003] (Gn N p0 v5.1 v7 a7) Pb Fg rfl (qm rfl (qx rfl (qx rfl (qa rfl (qe rfl ?_)))))
    refine AO h (fun v8 => mk [(3, oD (.ptr 3 0)), (4, oD (.ptr 4 0)), (6, oD (.ptr 6 0)), (10, oD (.ptr 10 0)), (14, pD (.sl (p2.map Ag))), (15, iD ((p2.length : Int))), (16, iD v1.2.2.2), (41, bD v8)] [(3, .box (Ai p0)), (4, .box [sC (v1.1.map An), sC (v1.2.1.map An), sC (v1.2.2.1.map Cl)]), (6, .box [.pure (.nil0), .pure (.nil0), .pure (.nil0)]), (10, .box [.own 2004, .own 2005, .own 2006]), (2004, .vec 1 (v5.1.fe.map An)), (2005, .vec 1 (v5.1.fc.map An)), (2006, .vec 1 (v5.1.ff.map Cl))]) (fun j8 h => ?_) (fun v8 h => ?_)
    ·refine Ak Ay rfl (qm rfl (Bo rfl (qm rfl ?_)))
     refine CR 38 h rfl (fun h => ?_) fun h => ?_
     ·refine qw 2 rfl (qp rfl (Aa ?_))
      exact sn [(2004, 2001), (2005, 2002), (2006, 2003)] h
     ·refine qm rfl (BJ rfl (qp rfl (Aa ?_)))
      exact sn [(2004, 2001), (2005, 2002), (2006, 2003)] h
    ·refine Ba h (fun h => ?_) fun h => ?_
     ·refine wq rfl (Bb Cj Gf rfl (qs AD rfl (qe rfl ?_)))
      obtain rfl := sj h
      refine Ae ((DG 6 _ rfl).trans (sm [] [(6, oD (.ptr 6 0)), (7, bD false)] [(6, .box [sC ((([] : List Int)).map An), sC ((([] : List Int)).map An), sC ((([] : List Int)).map Cl)])] rfl rfl)) (Ao ?_)
      exact ⟨⟨[_, _], ⟨.cellN _ _ _ _ _ _ _ rfl rfl Be AD rfl rfl (GG rfl), tm⟩, rfl⟩, tv⟩
     ·refine Al (Ak Ay rfl (qL Be AD rfl (qs AD rfl (Aa (Ak Ay rfl (Bm rfl (qm rfl (Aa ?_))))))))
      exact QL _ h ((A0 2004 _ _ rfl rfl).trans ((A0 2005 _ _ rfl rfl).trans ((A0 2006 _ _ rfl rfl).trans (sm [] _ _ rfl rfl))))
  ·refine AZ ?_
   exact sn [] h
 ·refine Ae hs (wq rfl (qL Be AD rfl (qs AD rfl (qe rfl ?_))))
  obtain rfl := sj h
  refine Ae (sm [] [(6, oD (.ptr 6 0)), (7, bD true)] [(6, .box (AA v2))] rfl rfl) (Ao ?_)
  exact ⟨⟨[_, _], ⟨.cellN _ _ _ _ _ _ _ rfl rfl Be AD rfl rfl (GG rfl), tm⟩, rfl⟩, tv⟩
theorem Bl (N : Nat) (p0 : List Ac) (r : (List Ac)) (h : AQ N p0 = some r) : Ap Tryd.prog 31 [pD (.sl (p0.map Ag))] [(3, r.map Ag)] (oD (.own 0)) := by
 unfold AQ at h
 refine cw (n := 8) (rs := [.tmp 2]) Tryd.func31 fun w0 S0 => ?_
 refine wq rfl (qa rfl (Aa (wp rfl (qm rfl ?_))))
 refine Kn (.p rfl) rfl A6 ?_
 refine Aa ?_
 refine Kh rfl (fun c2 => ?_) ?_
 ·have c2 := List.map_eq_nil_iff.1 c2
  rw [c2] at h
  have h : (some (([] : List Ac))) = some r := h
  refine wq rfl (qe rfl ?_)
  obtain rfl := sj h
  refine Ae ((B3 2 2001 3 rfl rfl rfl).trans (sm [(1000, 2001)] [(2, oD (.own 1000))] [(1000, .vec 3 ((([] : List Ac)).map Ag))] rfl rfl)) (Ao ?_)
  exact ⟨⟨[_], tm, rfl⟩, ⟨rfl, tv⟩⟩
 ·refine Al (wq rfl (Fa A6 BT Hs rfl (qm rfl ?_)))
  refine Ge h fun c1 h => Lm (f := Ag) A6 A6 BT OF Hs (fun _ => rfl) c1 rfl (qe rfl ?_)
  obtain rfl := sj h
  refine Ae (sm [(1000, 7)] [(2, oD (.own 1000))] [(1000, .vec 3 (((([] : List Ac)) ++ p0).map Ag))] rfl rfl) (Ao ?_)
  exact ⟨⟨[_], tm, rfl⟩, ⟨rfl, tv⟩⟩
theorem GB (N : Nat) (p0 : Int) (r : Bool) (h : DI N p0 = some r) : Ap Tryd.prog 78 [iD p0] [] (bD r) := by
 unfold DI at h
 refine cw (n := 6) (rs := [.tmp 2]) Tryd.func78 fun w0 S0 => ?_
 refine wq rfl (qa rfl (Aa (wq rfl (qw 2 rfl (Bo rfl (qe rfl ?_))))))
 obtain rfl := sj h
 refine Ae (sm [] [(2, bD ((p0 != p0)))] [] rfl rfl) (Ao ?_)
 exact ⟨⟨[_], tm, rfl⟩, tv⟩
theorem HB (N : Nat) (p0 : Int) (p1 : Int) (r : Int) (h : D9 N p0 p1 = some r) : Ap Tryd.prog 67 [iD p0, iD p1] [] (iD r) := by
 unfold D9 at h
 refine cw (n := 20) (rs := [.tmp 4]) Tryd.func67 fun w0 S0 => ?_
 refine wq rfl (qa rfl (Aa (wq rfl (qm rfl ?_))))
 refine By h fun v1 a1 h => Aq [] (GB N p0 v1 a1) Qv rfl (qa rfl (Aa (wq rfl (qm rfl ?_))))
 refine By h fun v2 a2 h => Aq [] (GB N p1 v2 a2) Qv rfl (qa rfl (Aa (wp rfl (qm rfl (Aa ?_)))))
 refine Ba h (fun h => ?_) fun h => ?_
 ·refine wp rfl (qm rfl (Aa ?_))
  refine Ba h (fun h => ?_) fun h => ?_
  ·refine wq rfl (qe rfl ?_)
   obtain rfl := sj h
   refine Ae (sm [] [(4, iD 0)] [] rfl rfl) (Ao ?_)
   exact ⟨⟨[_], tm, rfl⟩, tv⟩
  ·refine Al (wq rfl (qe rfl ?_))
   obtain rfl := sj h
   refine Ae (sm [] [(4, iD ((-1)))] [] rfl rfl) (Ao ?_)
   exact ⟨⟨[_], tm, rfl⟩, tv⟩
 ·refine Al (wp rfl (qm rfl (Aa ?_)))
  refine Ba h (fun h => ?_) fun h => ?_
  ·refine wq rfl (qe rfl ?_)
   obtain rfl := sj h
   refine Ae (sm [] [(4, iD 1)] [] rfl rfl) (Ao ?_)
   exact ⟨⟨[_], tm, rfl⟩, tv⟩
  ·refine Al (wp rfl (qw 2 rfl (AY rfl (Aa ?_))))
   refine Ba h (fun h => ?_) fun h => ?_
   ·refine wq rfl (qe rfl ?_)
    obtain rfl := sj h
    refine Ae (sm [] [(4, iD ((-1)))] [] rfl rfl) (Ao ?_)
    exact ⟨⟨[_], tm, rfl⟩, tv⟩
   ·refine Al (wp rfl (qw 2 rfl (C0 rfl (Aa ?_))))
    refine Ba h (fun h => ?_) fun h => ?_
    ·refine wq rfl (qe rfl ?_)
     obtain rfl := sj h
     refine Ae (sm [] [(4, iD 1)] [] rfl rfl) (Ao ?_)
     exact ⟨⟨[_], tm, rfl⟩, tv⟩
    ·refine Al (wq rfl (qe rfl ?_))
     obtain rfl := sj h
     refine Ae (sm [] [(4, iD 0)] [] rfl rfl) (Ao ?_)
     exact ⟨⟨[_], tm, rfl⟩, tv⟩
theorem DU (N : Nat) (p0 : List Int) (p1 : List Int) (r : Int) (h : B2 N p0 p1 = some r) : Ap Tryd.prog 52 [pD (.sl (p0.map An)), pD (.sl (p1.map An))] [] (iD r) := by
 unfold B2 at h
 refine cw (n := 36) (rs := [.tmp 4]) Tryd.func52 fun w0 S0 => ?_
 refine wq rfl (qa rfl (Aa (wp rfl (qm rfl (Aw Az rfl (qm rfl (Aa ?_)))))))
 refine AE (L := Bz N p0 p1) h (fun v1 => mk [(0, pD (.sl (p0.map An))), (1, pD (.sl (p1.map An))), (9, pD (.sl (p0.map An))), (10, iD ((p0.length : Int))), (11, iD v1)] []) (fun v2 => mk [(0, pD (.sl (p0.map An))), (1, pD (.sl (p1.map An)))] []) (fun _ _ => rfl) (sm [] _ _ rfl rfl) (fun j1 n1 v1 h => ?_) (fun v2 s h hs => ?_)
 ·unfold Bz at h
  refine wq rfl (AY rfl (Aa (AB ?_)))
  refine Ba h (fun h => ?_) fun h => ?_
  ·refine Al (AB (AN (wq rfl (qm rfl ?_))))
   refine Ce h fun v4 a4 b4 h => qi Az DD a4 (Aj b4) rfl (qk B9 rfl (qa rfl (qa rfl (Aa (wp rfl (qw 2 rfl (Aw Az rfl (ER rfl (Aa ?_)))))))))
   refine Ba h (fun h => ?_) fun h => ?_
   ·refine wq rfl (qe rfl ?_)
    obtain rfl := sj h
    refine Ae (sm [] [(4, iD 1)] [] rfl rfl) (Ao ?_)
    exact ⟨⟨[_], tm, rfl⟩, tv⟩
   ·refine Al (wq rfl (qw 2 rfl ?_))
    refine Ce h fun v6 a6 b6 h => qi Az DD a6 (Aj b6) rfl (qk B9 rfl (qa rfl (Aa (wq rfl (qw 2 rfl ?_)))))
    refine By h fun v7 a7 h => Aq [] (HB N v4 v6 v7 a7) Q8 rfl (qa rfl (Aa (wq rfl (qm rfl (Bo rfl (Aa ?_))))))
    refine Ba h (fun h => ?_) fun h => ?_
    ·refine wq rfl (qm rfl (qe rfl ?_))
     obtain rfl := sj h
     refine Ae (sm [] [(4, iD v7)] [] rfl rfl) (Ao ?_)
     exact ⟨⟨[_], tm, rfl⟩, tv⟩
    ·refine Al (Ak Ay rfl (Bm rfl (qm rfl (Aa ?_))))
     exact sn [] h
  ·refine AZ ?_
   exact sn [] h
 ·refine Ae hs (wp rfl (qm rfl (Aw Az rfl (qm rfl (Aw Az rfl (AY rfl (Aa ?_)))))))
  refine Ba h (fun h => ?_) fun h => ?_
  ·refine wq rfl (qe rfl ?_)
   obtain rfl := sj h
   refine Ae (sm [] [(4, iD ((-1)))] [] rfl rfl) (Ao ?_)
   exact ⟨⟨[_], tm, rfl⟩, tv⟩
  ·refine Al (wq rfl (qe rfl ?_))
   obtain rfl := sj h
   refine Ae (sm [] [(4, iD 0)] [] rfl rfl) (Ao ?_)
   exact ⟨⟨[_], tm, rfl⟩, tv⟩
theorem E7 (N : Nat) (p0 : Int) (r : Bool) (h : CG N p0 = some r) : Ap Tryd.prog 79 [pD (.val (.int .u8 p0))] [] (bD r) := by
 unfold CG at h
 refine cw (n := 6) (rs := [.tmp 2]) Tryd.func79 fun w0 S0 => ?_
 refine wq rfl (qa rfl (Aa (wq rfl (qw 2 rfl (Bo rfl (qe rfl ?_))))))
 obtain rfl := sj h
 refine Ae (sm [] [(2, bD ((p0 != p0)))] [] rfl rfl) (Ao ?_)
 exact ⟨⟨[_], tm, rfl⟩, tv⟩
theorem GH (N : Nat) (p0 : Int) (p1 : Int) (r : Int) (h : C5 N p0 p1 = some r) : Ap Tryd.prog 68 [pD (.val (.int .u8 p0)), pD (.val (.int .u8 p1))] [] (iD r) := by
 unfold C5 at h
 refine cw (n := 20) (rs := [.tmp 4]) Tryd.func68 fun w0 S0 => ?_
 refine wq rfl (qa rfl (Aa (wq rfl (qm rfl ?_))))
 refine By h fun v1 a1 h => Aq [] (E7 N p0 v1 a1) Qf rfl (qa rfl (Aa (wq rfl (qm rfl ?_))))
 refine By h fun v2 a2 h => Aq [] (E7 N p1 v2 a2) Qf rfl (qa rfl (Aa (wp rfl (qm rfl (Aa ?_)))))
 refine Ba h (fun h => ?_) fun h => ?_
 ·refine wp rfl (qm rfl (Aa ?_))
  refine Ba h (fun h => ?_) fun h => ?_
  ·refine wq rfl (qe rfl ?_)
   obtain rfl := sj h
   refine Ae (sm [] [(4, iD 0)] [] rfl rfl) (Ao ?_)
   exact ⟨⟨[_], tm, rfl⟩, tv⟩
  ·refine Al (wq rfl (qe rfl ?_))
   obtain rfl := sj h
   refine Ae (sm [] [(4, iD ((-1)))] [] rfl rfl) (Ao ?_)
   exact ⟨⟨[_], tm, rfl⟩, tv⟩
 ·refine Al (wp rfl (qm rfl (Aa ?_)))
  refine Ba h (fun h => ?_) fun h => ?_
  ·refine wq rfl (qe rfl ?_)
   obtain rfl := sj h
   refine Ae (sm [] [(4, iD 1)] [] rfl rfl) (Ao ?_)
   exact ⟨⟨[_], tm, rfl⟩, tv⟩
  ·refine Al (wp rfl (qw 2 rfl (AY rfl (Aa ?_))))
   refine Ba h (fun h => ?_) fun h => ?_
   ·refine wq rfl (qe rfl ?_)
    obtain rfl := sj h
    refine Ae (sm [] [(4, iD ((-1)))] [] rfl rfl) (Ao ?_)
    exact ⟨⟨[_], tm, rfl⟩, tv⟩
   ·refine Al (wp rfl (qw 2 rfl (C0 rfl (Aa ?_))))
    refine Ba h (fun h => ?_) fun h => ?_
    ·refine wq rfl (qe rfl ?_)
     obtain rfl := sj h
     refine Ae (sm [] [(4, iD 1)] [] rfl rfl) (Ao ?_)
     exact ⟨⟨[_], tm, rfl⟩, tv⟩
    ·refine Al (wq rfl (qe rfl ?_))
     obtain rfl := sj h
     refine Ae (sm [] [(4, iD 0)] [] rfl rfl) (Ao ?_)
     exact ⟨⟨[_], tm, rfl⟩, tv⟩
theorem Er (N : Nat) (p0 : List Int) (p1 : List Int) (r : Int) (h : BH N p0 p1 = some r) : Ap Tryd.prog 53 [pD (.sl (p0.map Cl)), pD (.sl (p1.map Cl))] [] (iD r) := by
 unfold BH at h
 refine cw (n := 36) (rs := [.tmp 4]) Tryd.func53 fun w0 S0 => ?_
 refine wq rfl (qa rfl (Aa (wp rfl (qm rfl (Aw Do rfl (qm rfl (Aa ?_)))))))
 refine AE (L := A9 N p0 p1) h (fun v1 => mk [(0, pD (.sl (p0.map Cl))), (1, pD (.sl (p1.map Cl))), (9, pD (.sl (p0.map Cl))), (10, iD ((p0.length : Int))), (11, iD v1)] []) (fun v2 => mk [(0, pD (.sl (p0.map Cl))), (1, pD (.sl (p1.map Cl)))] []) (fun _ _ => rfl) (sm [] _ _ rfl rfl) (fun j1 n1 v1 h => ?_) (fun v2 s h hs => ?_)
 ·unfold A9 at h
  refine wq rfl (AY rfl (Aa (AB ?_)))
  refine Ba h (fun h => ?_) fun h => ?_
  ·refine Al (AB (AN (wq rfl (qm rfl ?_))))
   refine Ce h fun v4 a4 b4 h => qi Do Gq a4 (Aj b4) rfl (qk KQ rfl (qa rfl (qa rfl (Aa (wp rfl (qw 2 rfl (Aw Do rfl (ER rfl (Aa ?_)))))))))
   refine Ba h (fun h => ?_) fun h => ?_
   ·refine wq rfl (qe rfl ?_)
    obtain rfl := sj h
    refine Ae (sm [] [(4, iD 1)] [] rfl rfl) (Ao ?_)
    exact ⟨⟨[_], tm, rfl⟩, tv⟩
   ·refine Al (wq rfl (qw 2 rfl ?_))
    refine Ce h fun v6 a6 b6 h => qi Do Gq a6 (Aj b6) rfl (qk KQ rfl (qa rfl (Aa (wq rfl (qw 2 rfl ?_)))))
    refine By h fun v7 a7 h => Aq [] (GH N v4 v6 v7 a7) QX rfl (qa rfl (Aa (wq rfl (qm rfl (Bo rfl (Aa ?_))))))
    refine Ba h (fun h => ?_) fun h => ?_
    ·refine wq rfl (qm rfl (qe rfl ?_))
     obtain rfl := sj h
     refine Ae (sm [] [(4, iD v7)] [] rfl rfl) (Ao ?_)
     exact ⟨⟨[_], tm, rfl⟩, tv⟩
    ·refine Al (Ak Ay rfl (Bm rfl (qm rfl (Aa ?_))))
     exact sn [] h
  ·refine AZ ?_
   exact sn [] h
 ·refine Ae hs (wp rfl (qm rfl (Aw Do rfl (qm rfl (Aw Do rfl (AY rfl (Aa ?_)))))))
  refine Ba h (fun h => ?_) fun h => ?_
  ·refine wq rfl (qe rfl ?_)
   obtain rfl := sj h
   refine Ae (sm [] [(4, iD ((-1)))] [] rfl rfl) (Ao ?_)
   exact ⟨⟨[_], tm, rfl⟩, tv⟩
  ·refine Al (wq rfl (qe rfl ?_))
   obtain rfl := sj h
   refine Ae (sm [] [(4, iD 0)] [] rfl rfl) (Ao ?_)
   exact ⟨⟨[_], tm, rfl⟩, tv⟩
theorem Ko (N : Nat) (p0 : List Int) (r : Int) (h : zFS N p0 = some r) : Ap Tryd.prog 51 [pD (.sl (p0.map An))] [] (iD r) := by
 unfold zFS at h
 refine cw (n := 18) (rs := [.tmp 2]) Tryd.func51 fun w0 S0 => ?_
 refine wq rfl (qa rfl (Aa (wq rfl (qa rfl (Aa (wp rfl (qm rfl (Aw Az rfl (qm rfl (Aa ?_))))))))))
 refine AE (L := DL N p0) h (fun v1 => mk [(3, iD 0), (6, pD (.sl (p0.map An))), (7, iD ((p0.length : Int))), (8, iD v1)] []) (fun v2 => mk [(3, iD 0)] []) (fun _ _ => rfl) (sm [] _ _ rfl rfl) (fun j1 n1 v1 h => ?_) (fun v2 s h hs => ?_)
 ·unfold DL at h
  refine wq rfl (AY rfl (Aa (AB ?_)))
  refine Ba h (fun h => ?_) fun h => ?_
  ·refine Al (AB (AN (wq rfl ?_)))
   refine Ce h fun v4 a4 b4 h => qi Az DD a4 (Aj b4) rfl (qk B9 rfl (qa rfl (Aa (wq rfl (qw 2 rfl (Bo rfl (Aa ?_)))))))
   refine Ba h (fun h => ?_) fun h => ?_
   ·refine wq rfl (qm rfl (qe rfl ?_))
    obtain rfl := sj h
    refine Ae (sm [] [(2, iD v4)] [] rfl rfl) (Ao ?_)
    exact ⟨⟨[_], tm, rfl⟩, tv⟩
   ·refine Al (Ak Ay rfl (Bm rfl (qm rfl (Aa ?_))))
    exact sn [] h
  ·refine AZ ?_
   exact sn [] h
 ·refine Ae hs (wq rfl (qm rfl (qe rfl ?_)))
  obtain rfl := sj h
  refine Ae (sm [] [(2, iD 0)] [] rfl rfl) (Ao ?_)
  exact ⟨⟨[_], tm, rfl⟩, tv⟩
theorem Jw (N : Nat) (p0 : Ah) (p1 : Ah) (r : Int) (h : Fx N p0 p1 = some r) : Ap Tryd.prog 37 [.e (.agg (AA p0)), .e (.agg (AA p1))] [] (iD r) := by
 unfold Fx at h
 refine cw (n := 22) (rs := [.tmp 4]) Tryd.func37 fun w0 S0 => ?_
 refine wq rfl (qb rfl (qb rfl (qa rfl (Aa (wq rfl (qf CW rfl (ql Bg rfl (qf CW rfl (ql Bg rfl ?_)))))))))
 refine By h fun v1 a1 h => Aq [] (DU N p0.fe p1.fe v1 a1) P6 rfl (qf B7 rfl (ql Bg rfl (qf B7 rfl (ql Bg rfl ?_))))
 refine By h fun v2 a2 h => Aq [] (DU N p0.fc p1.fc v2 a2) P6 rfl (qf Dh rfl (ql HT rfl (qf Dh rfl (ql HT rfl ?_))))
 refine By h fun v3 a3 h => Aq [] (Er N p0.ff p1.ff v3 a3) Rm rfl (Fa Az DD LY rfl ?_)
 refine By h fun v4 a4 h => Hb [] [20] (Ko N (([v1, v2, v3] : List Int)) v4 a4) QV Fg rfl (qa rfl (AH (by kernel_rfl) ?_))
 obtain rfl := sj h
 refine Ae (sm [] [(4, iD v4)] [] rfl rfl) (Ao ?_)
 exact ⟨⟨[_], tm, rfl⟩, tv⟩
theorem Jz (N : Nat) (p0 : List Ac) (p1 : List Int) (p2 : List Int) (p3 : List Int) (p4 : List Au) (p5 : List Int) (p6 : List Int) (p7 : List Int) (p8 : List Int) (p9 : List Int) (p10 : List Int) (p11 : Option (List Ac)) (r : Bool × (Option (List Ac))) (h : Fq N p0 p1 p2 p3 p4 p5 p6 p7 p8 p9 p10 p11 = some r) : BS Tryd.prog 36 [pD (.sl (p0.map Ag)), oD (.rop [.sl (p1.map An), .sl (p2.map An), .sl (p3.map An), .sl (p4.map AI)]), oD (.rop [.sl (p5.map An), .sl (p6.map An), .sl (p7.map Cl)]), oD (.rop [.sl (p8.map An), .sl (p9.map An), .sl (p10.map Cl)]), oD (.ptr 90000 0)] [(.box [.pure (H9 Ag p11)], .box [.pure (H9 Ag r.2)])] [] (bD r.1) := by
 unfold Fq at h
 refine Dy (n := 25) (rs := [.tmp 6]) Tryd.func36 rfl rfl rfl (Hl rfl) (Hl rfl) rfl rfl (Hl rfl) rfl (Hl rfl) fun w0 S0 GL => ?_
 refine Ae (sm [] [(0, pD (.sl (p0.map Ag))), (1, oD (.rop [.sl (p1.map An), .sl (p2.map An), .sl (p3.map An), .sl (p4.map AI)])), (2, oD (.rop [.sl (p5.map An), .sl (p6.map An), .sl (p7.map Cl)])), (3, oD (.rop [.sl (p8.map An), .sl (p9.map An), .sl (p10.map Cl)])), (4, oD (.ptr 90000 0))] [(90000, .box [.pure (H9 Ag p11)])] rfl rfl) (wq rfl (qa rfl (Aa (wp rfl (qK B5 BU rfl (qK Be AD rfl (qm rfl ?_)))))))
 refine By h fun v1 a1 h => Aq [] (D1 N ((Ab.mk p1 p2 p3 p4)) ((Ah.mk p5 p6 p7)) p0 v1 a1) NL rfl (qm rfl (qx rfl (qx rfl (qz Cj rfl (qs AD rfl (qe rfl ?_))))))
 refine AO h (fun v2 => mk [(0, pD (.sl (p0.map Ag))), (4, oD (.ptr 90000 0)), (23, bD v2)] [(90000, .box [.pure (H9 Ag p11)])]) (fun j2 h => ?_) (fun v2 h => ?_)
 ·refine Ak Ay rfl (qm rfl (BJ rfl (qm rfl ?_)))
  refine CR 18 h rfl (fun h => ?_) fun h => ?_
  ·refine qw 4 rfl (qp rfl (Aa ?_))
   exact sn [] h
  ·refine qL Be AD rfl (qK Be AD rfl ?_)
   refine By h fun v4 a4 h => Aq [] (Jw N v1.1 ((Ah.mk p8 p9 p10)) v4 a4) QN rfl (Bo rfl (qp rfl (Aa ?_)))
   exact sn [] h
 ·refine Ba h (fun h => ?_) fun h => ?_
  ·refine wq rfl (qm rfl (qs Km rfl (Aa (wq rfl (qe rfl ?_)))))
   obtain rfl := sj h
   refine Ae (sm [] [(6, bD false)] [(90000, .box [.pure (H9 Ag ((some p0)))])] rfl rfl) (Ao ?_)
   exact ⟨⟨[_], tm, rfl⟩, ⟨rfl, tv⟩, tv⟩
  ·refine Al (wq rfl (qe rfl ?_))
   obtain rfl := sj h
   refine Ae (sm [] [(6, bD true)] [(90000, .box [.pure (H9 Ag p11)])] rfl rfl) (Ao ?_)
   exact ⟨⟨[_], tm, rfl⟩, ⟨rfl, tv⟩, tv⟩
theorem Eh (N : Nat) (p0 : List Ac) (p1 : Int) (p2 : Int) (r : Nat × (List Ac)) (h : BB N p0 p1 p2 = some r) : BS Tryd.prog 50 [oD (.own 90000), iD p1, iD p2] [(.vec 3 (p0.map Ag), .vec 3 (r.2.map Ag))] [] (oD (.view 90000 3 0 r.1)) := by
 unfold BB at h
 refine Dy (n := 33) (rs := [.tmp 6]) Tryd.func50 rfl rfl rfl (Hl rfl) (Hl rfl) rfl rfl (Hl rfl) rfl (Hl rfl) fun w0 S0 GL => ?_
 refine Ae (sm [] [(0, oD (.own 90000)), (1, iD p1), (2, iD p2)] [(90000, .vec 3 (p0.map Ag))] rfl rfl) (wq rfl (qa rfl (Aa (wq rfl (qw 4 rfl (Fz A6 rfl ?_))))))
 refine Ge h fun c1 h => Ng (.p rfl) rfl rfl A6 BT rfl rfl rfl c1.1 c1.2.1 c1.2.2.1 c1.2.2.2.1 c1.2.2.2.2.1 (by rw [List.length_map]; exact c1.2.2.2.2.2) ?_
 refine Aa (wp rfl (qw 2 rfl (Bf rfl (Aa ?_))))
 refine Ba h (fun h => ?_) fun h => ?_
 ·refine wq rfl (qm rfl (qe rfl ?_))
  obtain rfl := sj h
  refine Ae ((Og Ag p0 6 90000 3 rfl rfl).trans (sm [] [(6, oD (.view 90000 3 0 p0.length))] [(90000, .vec 3 (p0.map Ag))] rfl rfl)) (Ao ?_)
  exact ⟨⟨[_], tm, rfl⟩, ⟨rfl, tv⟩, tv⟩
 ·refine Al (wq rfl (qm rfl (Fz A6 rfl (qa rfl (Aa (wq rfl (qw 2 rfl ?_)))))))
  obtain ⟨c3, h⟩ := Et h
  have w4 : 0 + ((p1).toNat) ≤ p0.length := by have := c3.2.1; have := c3.2.2; omega
  refine GX Ag p0 (.p rfl) rfl (GO Ag _ _ p0) rfl A6 BT (.none _) (.some _ _ _ _ c3.1) tv ⟨rfl, tv⟩ c3.2.1 (by rw [Nat.zero_add]; exact c3.2.2) (Nat.zero_add _) rfl ?_
  refine qw 2 rfl ?_
  obtain ⟨c5, h⟩ := Et h
  have w6 : ((p2).toNat) + ((p0.length - (p2).toNat)) ≤ p0.length := by have := c5.2.1; have := c5.2.2; omega
  refine GX Ag p0 (.p rfl) rfl (GO Ag _ _ p0) rfl A6 BT (.some _ _ _ _ c5.1) (.none _) ⟨rfl, tv⟩ tv c5.2.1 (by rw [Nat.zero_add]; exact c5.2.2) (Nat.zero_add _) rfl ?_
  obtain ⟨c7, h⟩ := Et h
  have w9f : 0 + ((p1).toNat) + (((p0.drop ((p2).toNat)).take ((p0.length - (p2).toNat)))).length ≤ p0.length := by have := c7; omega
  have w8 : (E5 p0 (0 + ((p1).toNat)) (((p0.drop ((p2).toNat)).take ((p0.length - (p2).toNat))))).length = p0.length := Gm w9f
  have w9 : 0 + ((p1).toNat + (((p0.drop ((p2).toNat)).take ((p0.length - (p2).toNat)))).length) ≤ (E5 p0 (0 + ((p1).toNat)) (((p0.drop ((p2).toNat)).take ((p0.length - (p2).toNat))))).length := by rw [w8]; have := c7; omega
  refine Ly Ag p0 (((p0.drop ((p2).toNat)).take ((p0.length - (p2).toNat)))) (.p rfl) rfl (G8 Ag _ _ 0 ((p1).toNat) p0 w4) rfl rfl (J1 Ag _ _ ((p2).toNat) ((p0.length - (p2).toNat)) p0 w6) ⟨rfl, tv⟩ A6 A6 BT w9f rfl ?_
  refine qa rfl (AH (by kernel_rfl) (wq rfl (qw 2 rfl ?_)))
  refine NQ (.p rfl) rfl A6 ?_
  refine qm rfl ?_
  obtain ⟨c10, h⟩ := Et h
  have w11 : (((((((p1).toNat + (((p0.drop ((p2).toNat)).take ((p0.length - (p2).toNat)))).length)) : Nat) : Int)).toNat) + ((((p0.length : Int)).toNat - ((((((p1).toNat + (((p0.drop ((p2).toNat)).take ((p0.length - (p2).toNat)))).length)) : Nat) : Int)).toNat)) ≤ (E5 p0 (0 + ((p1).toNat)) (((p0.drop ((p2).toNat)).take ((p0.length - (p2).toNat))))).length := by have := c10.2.2.1; have := c10.2.2.2; omega
  refine GX Ag (E5 p0 (0 + ((p1).toNat)) (((p0.drop ((p2).toNat)).take ((p0.length - (p2).toNat))))) (.p rfl) rfl (G8 Ag _ _ 0 (((p1).toNat + (((p0.drop ((p2).toNat)).take ((p0.length - (p2).toNat)))).length)) (E5 p0 (0 + ((p1).toNat)) (((p0.drop ((p2).toNat)).take ((p0.length - (p2).toNat))))) w9) rfl A6 BT (.some _ _ _ _ c10.1) (.some _ _ _ _ c10.2.1) ⟨rfl, tv⟩ ⟨rfl, tv⟩ c10.2.2.1 (by rw [Nat.zero_add]; exact c10.2.2.2) (Nat.zero_add _) rfl ?_
  have w12 : (E5 (E5 p0 (0 + ((p1).toNat)) (((p0.drop ((p2).toNat)).take ((p0.length - (p2).toNat))))) (((((((p1).toNat + (((p0.drop ((p2).toNat)).take ((p0.length - (p2).toNat)))).length)) : Nat) : Int)).toNat) (List.replicate ((((p0.length : Int)).toNat - ((((((p1).toNat + (((p0.drop ((p2).toNat)).take ((p0.length - (p2).toNat)))).length)) : Nat) : Int)).toNat)) ((Ac.mk 0 0 0)))).length = (E5 p0 (0 + ((p1).toNat)) (((p0.drop ((p2).toNat)).take ((p0.length - (p2).toNat))))).length := Gm (by rw [List.length_replicate]; exact w11)
  refine MF Ag (E5 p0 (0 + ((p1).toNat)) (((p0.drop ((p2).toNat)).take ((p0.length - (p2).toNat))))) ((Ac.mk 0 0 0)) rfl rfl (G8 Ag _ _ (((((((p1).toNat + (((p0.drop ((p2).toNat)).take ((p0.length - (p2).toNat)))).length)) : Nat) : Int)).toNat) ((((p0.length : Int)).toNat - ((((((p1).toNat + (((p0.drop ((p2).toNat)).take ((p0.length - (p2).toNat)))).length)) : Nat) : Int)).toNat)) (E5 p0 (0 + ((p1).toNat)) (((p0.drop ((p2).toNat)).take ((p0.length - (p2).toNat))))) w11) rfl A6 Hs rfl rfl rfl rfl ?_
  refine Aa (wq rfl (qm rfl (qe rfl ?_)))
  obtain rfl := sj h
  refine Ae (sm [] [(6, oD (.view 90000 3 0 (((p1).toNat + (((p0.drop ((p2).toNat)).take ((p0.length - (p2).toNat)))).length))))] [(90000, .vec 3 ((E5 (E5 p0 (0 + ((p1).toNat)) (((p0.drop ((p2).toNat)).take ((p0.length - (p2).toNat))))) (((((((p1).toNat + (((p0.drop ((p2).toNat)).take ((p0.length - (p2).toNat)))).length)) : Nat) : Int)).toNat) (List.replicate ((((p0.length : Int)).toNat - ((((((p1).toNat + (((p0.drop ((p2).toNat)).take ((p0.length - (p2).toNat)))).length)) : Nat) : Int)).toNat)) ((Ac.mk 0 0 0)))).map Ag))] rfl rfl) (Ao ?_)
  exact ⟨⟨[_], tm, rfl⟩, ⟨rfl, tv⟩, tv⟩
theorem Ht (N : Nat) (rc : (List Ac) → (List Ac) → (List Int) → (List Int) → (List Int) → (List Au) → (List Int) → (List Int) → (List Int) → (List Int) → (List Int) → (List Int) → (Option (List Ac)) → Option (Bool × (Option (List Ac)))) (hrc : ∀ (p0 : List Ac) (p1 : List Ac) (p2 : List Int) (p3 : List Int) (p4 : List Int) (p5 : List Au) (p6 : List Int) (p7 : List Int) (p8 : List Int) (p9 : List Int) (p10 : List Int) (p11 : List Int) (p12 : Option (List Ac)) (r : Bool × (Option (List Ac))), rc p0 p1 p2 p3 p4 p5 p6 p7 p8 p9 p10 p11 p12 = some r → BS Tryd.prog 35 [pD (.sl (p0.map Ag)), pD (.sl (p1.map Ag)), oD (.cls 36 [.rop [.sl (p2.map An), .sl (p3.map An), .sl (p4.map An), .sl (p5.map AI)], .rop [.sl (p6.map An), .sl (p7.map An), .sl (p8.map Cl)], .rop [.sl (p9.map An), .sl (p10.map An), .sl (p11.map Cl)], .ptr 90000 0])] [(.box [.pure (H9 Ag p12)], .box [.pure (H9 Ag r.2)])] [] (bD r.1)) (p0 : List Ac) (p1 : List Ac) (p2 : List Int) (p3 : List Int) (p4 : List Int) (p5 : List Au) (p6 : List Int) (p7 : List Int) (p8 : List Int) (p9 : List Int) (p10 : List Int) (p11 : List Int) (p12 : Option (List Ac)) (r : Bool × (Option (List Ac))) (h : DQ N rc p0 p1 p2 p3 p4 p5 p6 p7 p8 p9 p10 p11 p12 = some r) : BS Tryd.prog 35 [pD (.sl (p0.map Ag)), pD (.sl (p1.map Ag)), oD (.cls 36 [.rop [.sl (p2.map An), .sl (p3.map An), .sl (p4.map An), .sl (p5.map AI)], .rop [.sl (p6.map An), .sl (p7.map An), .sl (p8.map Cl)], .rop [.sl (p9.map An), .sl (p10.map An), .sl (p11.map Cl)], .ptr 90000 0])] [(.box [.pure (H9 Ag p12)], .box [.pure (H9 Ag r.2)])] [] (bD r.1) := by
 unfold DQ at h
 refine Dy (n := 37) (rs := [.tmp 6]) Tryd.func35 rfl rfl rfl (Hl rfl) (Hl rfl) rfl rfl (Hl rfl) rfl (Hl rfl) fun w0 S0 GL => ?_
 refine Ae (sm [] [(0, pD (.sl (p0.map Ag))), (1, pD (.sl (p1.map Ag))), (2, oD (.cls 36 [.rop [.sl (p2.map An), .sl (p3.map An), .sl (p4.map An), .sl (p5.map AI)], .rop [.sl (p6.map An), .sl (p7.map An), .sl (p8.map Cl)], .rop [.sl (p9.map An), .sl (p10.map An), .sl (p11.map Cl)], .ptr 90000 0]))] [(90000, .box [.pure (H9 Ag p12)])] rfl rfl) (wq rfl (qa rfl (Aa (wp rfl (qm rfl (Aw A6 rfl (Bf rfl (Aa ?_))))))))
 refine Ba h (fun h => ?_) fun h => ?_
 ·refine wq rfl (qw 2 rfl ?_)
  refine By h fun v2 a2 h => Oq (ds0 := [_]) [90000] [] [true] (Jz N p0 p2 p3 p4 p5 p6 p7 p8 p9 p10 p11 p12 v2 a2) (.p rfl) rfl QY rfl ⟨rfl, tv⟩ rfl rfl (by decide) ⟨rfl, tv⟩ rfl (EN rfl) tv ⟨(fun h => by cases h), tv⟩ rfl rfl rfl ?_
  refine qa rfl (Aa ?_)
  obtain rfl := sj h
  refine Ae (sm [] [(6, bD v2.1)] [(90000, .box [.pure (H9 Ag v2.2)])] rfl rfl) (Ao ?_)
  exact ⟨⟨[_], tm, rfl⟩, ⟨rfl, tv⟩, tv⟩
 ·refine Al (wp rfl (qm rfl (Aw A6 rfl (qm rfl (Aa ?_)))))
  refine AE (L := CE N p0 p1 p2 p3 p4 p5 p6 p7 p8 p9 p10 p11 rc) h (fun v3 => mk [(0, pD (.sl (p0.map Ag))), (1, pD (.sl (p1.map Ag))), (2, oD (.cls 36 [.rop [.sl (p2.map An), .sl (p3.map An), .sl (p4.map An), .sl (p5.map AI)], .rop [.sl (p6.map An), .sl (p7.map An), .sl (p8.map Cl)], .rop [.sl (p9.map An), .sl (p10.map An), .sl (p11.map Cl)], .ptr 90000 0])), (15, pD (.sl (p1.map Ag))), (16, iD ((p1.length : Int))), (17, iD v3.2)] [(90000, .box [.pure (H9 Ag v3.1)])]) (fun v4 => mk [] [(90000, .box [.pure (H9 Ag v4)])]) (fun _ _ => rfl) (sm [] _ _ rfl rfl) (fun j3 n3 v3 h => ?_) (fun v4 s h hs => ?_)
  ·unfold CE at h
   refine wq rfl (AY rfl (Aa (AB ?_)))
   refine Ba h (fun h => ?_) fun h => ?_
   ·refine Al (AB (AN (wq rfl (qm rfl ?_))))
    refine Ce h fun v6 a6 b6 h => qi A6 BT a6 (Aj b6) rfl (qK Fe BT rfl (qz Hs rfl (qa rfl (qs BT rfl (Aa (wq rfl (qm rfl ?_)))))))
    refine By h fun v7 a7 h => Aq [2001] (Bl N p0 v7 a7) NN rfl (qL Fe BT rfl (Fa A6 BT Hs rfl ?_))
    refine Ge h fun c8 h => Mq (.p rfl) rfl (.own _ _ _) ⟨rfl, tv⟩ rfl (.own _ _ _) ⟨rfl, tv⟩ rfl A6 A6 BT OF (Hl rfl) Hs rfl (Oa (f := Ag) (g := Ag) (xs := v7) (ys := (([v6] : List Ac))) c8) (Oo Ag v7 (([v6] : List Ac))) rfl ?_
    refine qm rfl ?_
    refine By h fun v9 a9 h => Aq [2002] (Bl N p1 v9 a9) NN rfl (qw 2 rfl (Bm rfl ?_))
    obtain ⟨v10, a10, h⟩ := bind_some h
    obtain ⟨c11, h⟩ := Et h
    have w12 : 0 + v10.1 ≤ v10.2.length := by rw [Nat.zero_add]; exact c11
    refine MX (ds0 := [_, _, _]) (b := 2002) (Eh N v9 v3.2 ((wI .i64 (v3.2 + 1))) v10 a10) (.p rfl) Rs rfl ⟨rfl, rfl, rfl, tv⟩ rfl ⟨rfl, tv⟩ rfl rfl (by rw [List.length_map]; exact c11) (List.map_take).symm ?_
    refine qm rfl ?_
    refine By h fun v13 a13 h => II (ds0 := [_, _, _]) [90000] [] [true] (hrc ((v7 ++ (([v6] : List Ac)))) ((v10.2.take v10.1)) p2 p3 p4 p5 p6 p7 p8 p9 p10 p11 v3.1 v13 a13) (.p rfl) PV rfl ⟨rfl, rfl, rfl, tv⟩ rfl rfl (by decide) ⟨rfl, tv⟩ rfl (EN rfl) tv ⟨(fun h => by cases h), tv⟩ rfl rfl rfl ?_
    refine BJ rfl (AH (by kernel_rfl) ?_)
    refine Ba h (fun h => ?_) fun h => ?_
    ·refine wq rfl (qe rfl ?_)
     obtain rfl := sj h
     refine Ae (sm [] [(6, bD false)] [(90000, .box [.pure (H9 Ag v13.2)])] rfl rfl) (Ao ?_)
     exact ⟨⟨[_], tm, rfl⟩, ⟨rfl, tv⟩, tv⟩
    ·refine Al (Ak Ay rfl (Bm rfl (qm rfl (Aa ?_))))
     exact sn [] h
   ·refine AZ ?_
    exact sn [] h
  ·refine Ae hs (wq rfl (qe rfl ?_))
   obtain rfl := sj h
   refine Ae (sm [] [(6, bD true)] [(90000, .box [.pure (H9 Ag v4)])] rfl rfl) (Ao ?_)
   exact ⟨⟨[_], tm, rfl⟩, ⟨rfl, tv⟩, tv⟩
theorem Fv (N : Nat) : ∀ (k : Nat) (p0 : List Ac) (p1 : List Ac) (p2 : List Int) (p3 : List Int) (p4 : List Int) (p5 : List Au) (p6 : List Int) (p7 : List Int) (p8 : List Int) (p9 : List Int) (p10 : List Int) (p11 : List Int) (p12 : Option (List Ac)) (r : Bool × (Option (List Ac))), CV N k p0 p1 p2 p3 p4 p5 p6 p7 p8 p9 p10 p11 p12 = some r → BS Tryd.prog 35 [pD (.sl (p0.map Ag)), pD (.sl (p1.map Ag)), oD (.cls 36 [.rop [.sl (p2.map An), .sl (p3.map An), .sl (p4.map An), .sl (p5.map AI)], .rop [.sl (p6.map An), .sl (p7.map An), .sl (p8.map Cl)], .rop [.sl (p9.map An), .sl (p10.map An), .sl (p11.map Cl)], .ptr 90000 0])] [(.box [.pure (H9 Ag p12)], .box [.pure (H9 Ag r.2)])] [] (bD r.1)
 | 0, _, _, _, _, _, _, _, _, _, _, _, _, _, _, h => by cases h
 | k + 1, p0, p1, p2, p3, p4, p5, p6, p7, p8, p9, p10, p11, p12, r, h => Ht N (CV N k) (Fv N k) p0 p1 p2 p3 p4 p5 p6 p7 p8 p9 p10 p11 p12 r h
theorem Ih (N : Nat) (p0 : List Ac) (p1 : List Ac) (p2 : List Int) (p3 : List Int) (p4 : List Int) (p5 : List Au) (p6 : List Int) (p7 : List Int) (p8 : List Int) (p9 : List Int) (p10 : List Int) (p11 : List Int) (p12 : Option (List Ac)) (r : Bool × (Option (List Ac))) (h : FR N p0 p1 p2 p3 p4 p5 p6 p7 p8 p9 p10 p11 p12 = some r) : BS Tryd.prog 35 [pD (.sl (p0.map Ag)), pD (.sl (p1.map Ag)), oD (.cls 36 [.rop [.sl (p2.map An), .sl (p3.map An), .sl (p4.map An), .sl (p5.map AI)], .rop [.sl (p6.map An), .sl (p7.map An), .sl (p8.map Cl)], .rop [.sl (p9.map An), .sl (p10.map An), .sl (p11.map Cl)], .ptr 90000 0])] [(.box [.pure (H9 Ag p12)], .box [.pure (H9 Ag r.2)])] [] (bD r.1) := Fv N N p0 p1 p2 p3 p4 p5 p6 p7 p8 p9 p10 p11 p12 r h
theorem G5 (N : Nat) (p0 : Ab) (p1 : Ah) (p2 : List Ac) (r : (List Ac) × Int) (h : CH N p0 p1 p2 = some r) : Ap Tryd.prog 13 [.e (.agg (Ai p0)), .e (.agg (AA p1)), pD (.sl (p2.map Ag))] [] (.tup [.one (sC (r.1.map Ag)), .one (iC r.2)]) := by
 unfold CH at h
 refine cw (n := 49) (rs := [.tmp 6, .tmp 7]) Tryd.func13 fun w0 S0 => ?_
 refine wq rfl (qb rfl (qb rfl (qa rfl (qa rfl (Aa (wq rfl (qL B5 BU rfl (qL Be AD rfl ?_))))))))
 refine By h fun v1 a1 h => Aq [] (Gn N p0 p1 v1 a1) Pb rfl (qm rfl (qx rfl (qx rfl (qa rfl (qa rfl (Aa (wp rfl (qm rfl (Bo rfl (Aa ?_))))))))))
 refine Ba h (fun h => ?_) fun h => ?_
 ·refine wq rfl (qm rfl (qa rfl (qe rfl ?_)))
  obtain rfl := sj h
  refine Ae ((Jd 6 _ rfl).trans (sm [] [(6, pD (.sl ((([] : List Ac)).map Ag))), (7, iD v1.2)] [] rfl rfl)) (Ao ?_)
  exact ⟨⟨[_, _], ⟨.tmp _ _ rfl, tm⟩, rfl⟩, tv⟩
 ·refine Al (wp rfl (qm rfl ?_))
  refine By h fun v3 a3 h => Aq [] (Kx N p2 v3 a3) QF rfl (qa rfl (Aa (wq rfl (qm rfl (Bo rfl (Aa ?_))))))
  refine Ba h (fun h => ?_) fun h => ?_
  ·refine wq rfl (qm rfl (qa rfl (qe rfl ?_)))
   obtain rfl := sj h
   refine Ae ((Jd 6 _ rfl).trans (sm [] [(6, pD (.sl ((([] : List Ac)).map Ag))), (7, iD v3)] [] rfl rfl)) (Ao ?_)
   exact ⟨⟨[_, _], ⟨.tmp _ _ rfl, tm⟩, rfl⟩, tv⟩
  ·refine Al (wq rfl (qL B5 BU rfl (qL Be AD rfl (qm rfl ?_))))
   refine By h fun v5 a5 h => Aq [] (D1 N p0 p1 p2 v5 a5) NL rfl (qm rfl (qx rfl (qx rfl (qz Cj rfl (qs AD rfl (qa rfl (Aa (AB ?_))))))))
   refine AO h (fun v6 => mk [(2, pD (.sl (p2.map Ag))), (3, oD (.ptr 3 0)), (4, oD (.ptr 4 0)), (11, oD (.ptr 11 0)), (40, bD v6)] [(3, .box (Ai p0)), (4, .box (AA p1)), (11, .box (AA v5.1))]) (fun j6 h => ?_) (fun v6 h => ?_)
   ·refine Ak Ay rfl (qm rfl (BJ rfl (qm rfl ?_)))
    refine CR 37 h rfl (fun h => ?_) fun h => ?_
    ·refine qw 2 rfl (qp rfl (Aa ?_))
     exact sn [] h
    ·refine qm rfl (BJ rfl (qp rfl (Aa ?_)))
     exact sn [] h
   ·refine Ba h (fun h => ?_) fun h => ?_
    ·refine wq rfl (qm rfl ?_)
     refine By h fun v9 a9 h => Aq [2001] (Bl N p2 v9 a9) NN rfl (qa rfl (qe rfl ?_))
     obtain rfl := sj h
     refine Ae ((A0 2001 _ _ rfl rfl).trans (sm [] [(6, pD (.sl (v9.map Ag))), (7, iD 0)] [] rfl rfl)) (Ao ?_)
     exact ⟨⟨[_, _], ⟨.tmp _ _ rfl, tm⟩, rfl⟩, tv⟩
    ·refine Al (wq rfl ?_)
     refine MU (.p rfl) Ny rfl ?_
     refine Aa (wq rfl (qm rfl (C4 (HY 3 [.sl (p0.fa.map An), .sl (p0.fh.map An), .sl (p0.fp.map An), .sl (p0.fb.map AI)] rfl rfl) (C4 (HY 4 [.sl (p1.fe.map An), .sl (p1.fc.map An), .sl (p1.ff.map Cl)] rfl rfl) (C4 (HY 11 [.sl (v5.1.fe.map An), .sl (v5.1.fc.map An), .sl (v5.1.ff.map Cl)] rfl rfl) ?_)))))
     refine K5 [.rop [.sl (p0.fa.map An), .sl (p0.fh.map An), .sl (p0.fp.map An), .sl (p0.fb.map AI)], .rop [.sl (p1.fe.map An), .sl (p1.fc.map An), .sl (p1.ff.map Cl)], .rop [.sl (v5.1.fe.map An), .sl (v5.1.fc.map An), .sl (v5.1.ff.map Cl)], .ptr 13 0] (.p rfl) rfl ⟨rfl, rfl, rfl, rfl, tv⟩ ?_
     refine By h fun v10 a10 h => II (ds0 := [_, _, _]) [13] [] [true] (Ih N (([] : List Ac)) p2 p0.fa p0.fh p0.fp p0.fb p1.fe p1.fc p1.ff v5.1.fe v5.1.fc v5.1.ff ((none : Option (List Ac))) v10 a10) (.p rfl) PV rfl ⟨rfl, rfl, rfl, tv⟩ rfl rfl (by decide) ⟨rfl, tv⟩ rfl (EN rfl) tv ⟨(fun h => by cases h), tv⟩ rfl rfl rfl ?_
     refine Aa (wp rfl (ql Mp rfl ?_))
     refine Ge h fun c11 h => MJ (.p rfl) rfl A6 c11 ?_
     refine Aa ?_
     refine Ba h (fun h => ?_) fun h => ?_
     ·refine wq rfl (qa rfl (qe rfl ?_))
      obtain rfl := sj h
      refine Ae ((Jd 6 _ rfl).trans (sm [] [(6, pD (.sl ((([] : List Ac)).map Ag))), (7, iD 15)] [] rfl rfl)) (Ao ?_)
      exact ⟨⟨[_, _], ⟨.tmp _ _ rfl, tm⟩, rfl⟩, tv⟩
     ·refine Al (wq rfl (ql Mp rfl (qa rfl (qe rfl ?_))))
      obtain rfl := sj h
      refine Ae ((Oc 6 v10.2 rfl).trans (sm [] [(6, pD (.sl (((v10.2.getD [])).map Ag))), (7, iD 0)] [] rfl rfl)) (Ao ?_)
      exact ⟨⟨[_, _], ⟨.tmp _ _ rfl, tm⟩, rfl⟩, tv⟩
theorem Ff (N : Nat) (p0 : Ab) (p1 : Ah) (p2 : List Ac) (r : Bool × Int) (h : Ca N p0 p1 p2 = some r) : Ap Tryd.prog 9 [.e (.agg (Ai p0)), .e (.agg (AA p1)), pD (.sl (p2.map Ag))] [] (.tup [.one (.pure (.val (.bool r.1))), .one (iC r.2)]) := by
 unfold Ca at h
 refine cw (n := 26) (rs := [.tmp 6, .tmp 7]) Tryd.func9 fun w0 S0 => ?_
 refine wq rfl (qb rfl (qb rfl (qa rfl (qa rfl (Aa (wp rfl (qL B5 BU rfl (qL Be AD rfl ?_))))))))
 refine By h fun v1 a1 h => Aq [] (FM N p0 p1 v1 a1) NH rfl (qa rfl (Aa (wq rfl (qm rfl (Bo rfl (Aa ?_))))))
 refine Ba h (fun h => ?_) fun h => ?_
 ·refine wq rfl (qm rfl (qa rfl (qe rfl ?_)))
  obtain rfl := sj h
  refine Ae (sm [] [(6, bD false), (7, iD v1)] [] rfl rfl) (Ao ?_)
  exact ⟨⟨[_, _], ⟨.tmp _ _ rfl, tm⟩, rfl⟩, tv⟩
 ·refine Al (wq rfl (qL B5 BU rfl (qL Be AD rfl (qm rfl ?_))))
  refine By h fun v3 a3 h => Aq [] (G5 N p0 p1 p2 v3 a3) O6 rfl (qm rfl (qx rfl (qx rfl (qa rfl (qa rfl (Aa (wq rfl (qm rfl (Bf rfl (qa rfl (qe rfl ?_)))))))))))
  obtain rfl := sj h
  refine Ae (sm [] [(6, bD ((v3.2 == 15))), (7, iD 0)] [] rfl rfl) (Ao ?_)
  exact ⟨⟨[_, _], ⟨.tmp _ _ rfl, tm⟩, rfl⟩, tv⟩
theorem Jm (N : Nat) (p0 : Ab) (p1 : List Ac) (r : (List (List Ac)) × Int) (h : Ea N p0 p1 = some r) : Ap Tryd.prog 12 [.e (.agg (Ai p0)), pD (.sl (p1.map Ag))] [(1, r.1.map (FP Ag))] (.tup [.one (.own 0), .one (iC r.2)]) := by
 unfold Ea at h
 refine cw (n := 64) (rs := [.tmp 4, .tmp 5]) Tryd.func12 fun w0 S0 => ?_
 refine wq rfl (qb rfl (qa rfl (qa rfl (Aa (wq rfl (qL B5 BU rfl ?_))))))
 refine By h fun v1 a1 h => Aq [2001, 2002, 2003] (GI N p0 v1 a1) OW rfl (qm rfl (qx rfl (qx rfl (qz Cj rfl (qs AD rfl (qa rfl (Aa (wp rfl (qm rfl (Bo rfl (Aa ?_)))))))))))
 refine Ba h (fun h => ?_) fun h => ?_
 ·refine wq rfl (qm rfl (qa rfl (qe rfl ?_)))
  obtain rfl := sj h
  refine Ae ((B3 4 2004 1 rfl rfl rfl).trans (sm [(1000, 2004)] [(4, oD (.own 1000)), (5, iD v1.2)] [(1000, .vec 1 ((([] : List (List Ac))).map (FP Ag)))] rfl rfl)) (Ao ?_)
  exact ⟨⟨[_, _], ⟨.tmp _ _ rfl, tm⟩, rfl⟩, ⟨rfl, tv⟩⟩
 ·refine Al (wp rfl (qL B5 BU rfl (qm rfl ?_)))
  refine By h fun v3 a3 h => Aq [] (J3 N p0 p1 v3 a3) Q6 rfl (BJ rfl (Aa ?_))
  refine Ba h (fun h => ?_) fun h => ?_
  ·refine wq rfl (qa rfl (qe rfl ?_))
   obtain rfl := sj h
   refine Ae ((B3 4 2005 1 rfl rfl rfl).trans (sm [(1000, 2005)] [(4, oD (.own 1000)), (5, iD 13)] [(1000, .vec 1 ((([] : List (List Ac))).map (FP Ag)))] rfl rfl)) (Ao ?_)
   exact ⟨⟨[_, _], ⟨.tmp _ _ rfl, tm⟩, rfl⟩, ⟨rfl, tv⟩⟩
  ·refine Al (wq rfl (qa rfl (Aa (AB ?_))))
   refine AE (L := Eo N p0) h (fun v5 => mk [(1, pD (.sl (v5.2.2.2.1.map Ag))), (2, oD (.ptr 2 0)), (6, oD (.ptr 6 0)), (8, oD (.own 2006))] [(2, .box (Ai p0)), (6, .box [sC (v5.1.map An), sC (v5.2.1.map An), sC (v5.2.2.1.map Cl)]), (2006, .vec 1 (v5.2.2.2.2.map (FP Ag)))]) (fun v6 => mk [(8, oD (.own 2007))] [(2007, .vec 1 (v6.map (FP Ag)))]) (fun _ _ => rfl) ((B3 8 2011 1 rfl rfl rfl).trans ((A0 2001 _ _ rfl rfl).trans ((A0 2002 _ _ rfl rfl).trans ((A0 2003 _ _ rfl rfl).trans (sm [(2006, 2011)] _ _ rfl rfl))))) (fun j5 n5 v5 h => ?_) (fun v6 s h hs => ?_)
   ·unfold Eo at h
    refine wp rfl (qm rfl (Aw A6 rfl (C0 rfl (Aa ?_))))
    refine Ba h (fun h => ?_) fun h => ?_
    ·refine Al (AN (wq rfl (qm rfl (Aw A6 rfl ?_))))
     refine LW (.p rfl) rfl rfl ?_
     refine qa rfl (Aa (AB ?_))
     refine AE (L := Eu N p0 v5) h (fun v8 => mk [(1, pD (.sl (v5.2.2.2.1.map Ag))), (2, oD (.ptr 2 0)), (6, oD (.ptr 6 0)), (8, oD (.own 2008)), (9, iD v8)] [(2, .box (Ai p0)), (6, .box [sC (v5.1.map An), sC (v5.2.1.map An), sC (v5.2.2.1.map Cl)]), (2008, .vec 1 (v5.2.2.2.2.map (FP Ag)))]) (fun v9 => mk [(1, pD (.sl (v5.2.2.2.1.map Ag))), (2, oD (.ptr 2 0)), (6, oD (.ptr 6 0)), (8, oD (.own 2009)), (9, iD v9)] [(2, .box (Ai p0)), (6, .box [sC (v5.1.map An), sC (v5.2.1.map An), sC (v5.2.2.1.map Cl)]), (2009, .vec 1 (v5.2.2.2.2.map (FP Ag)))]) (fun _ _ => rfl) (sm [(2008, 2006)] _ _ rfl rfl) (fun j8 n8 v8 h => ?_) (fun v9 s h hs => ?_)
     ·unfold Eu at h
      refine wp rfl (qm rfl (C0 rfl (Aa ?_)))
      refine Ba h (fun h => ?_) fun h => ?_
      ·refine Al (AN (wp rfl (qL B5 BU rfl (qL Be AD rfl (qw 2 rfl ?_)))))
       refine Ge h fun c11 h => FJ (.p rfl) rfl A6 BT (DT (f := Ag) (n := 3) (fun _ => rfl) _) (.none _) (.some _ _ _ _ c11.1) tv ⟨rfl, tv⟩ (by have := c11.2.1; (try simp only [List.length_map]); omega) (by have := c11.2.2; (try simp only [List.length_map]); omega) (EX Ag v5.2.2.2.1 _ _ ((v8).toNat - 0) rfl) ?_
       refine By h fun v12 a12 h => Aq [] (Ff N p0 ((Ah.mk v5.1 v5.2.1 v5.2.2.1)) (((v5.2.2.2.1.drop 0).take ((v8).toNat - 0))) v12 a12) QB rfl (qm rfl (qx rfl (qx rfl (qa rfl (qa rfl (AH (by kernel_rfl) (wq rfl (qm rfl (Aa ?_)))))))))
       refine Ba h (fun h => ?_) fun h => ?_
       ·refine AZ ?_
        exact sn [(2009, 2008)] h
       ·refine Al (Ak Ay rfl (qm rfl (L0 rfl (qe rfl ?_))))
        exact sn [] h
      ·refine AZ ?_
       exact sn [(2009, 2008)] h
     ·refine Ae hs (wq rfl (qw 3 rfl ?_))
      refine Ge h fun c14 h => FJ (.p rfl) rfl A6 BT (DT (f := Ag) (n := 3) (fun _ => rfl) _) (.none _) (.some _ _ _ _ c14.1) tv ⟨rfl, tv⟩ (by have := c14.2.1; (try simp only [List.length_map]); omega) (by have := c14.2.2; (try simp only [List.length_map]); omega) (EX Ag v5.2.2.2.1 _ _ ((v9).toNat - 0) rfl) ?_
      refine By h fun v15 a15 h => Aq [2010] (Bl N (((v5.2.2.2.1.drop 0).take ((v9).toNat - 0))) v15 a15) NN rfl (C4 (A0 2010 _ _ rfl rfl) (Fa FE Km Ny rfl ?_))
      refine Ge h fun c16 h => Gv (f := (FP Ag)) FE FE Km P7 Ny c16 rfl (qa rfl (Aa (wq rfl (qL B5 BU rfl (qL Be AD rfl (qw 2 rfl ?_))))))
      refine Ge h fun c17 h => FJ (.p rfl) rfl A6 BT (DT (f := Ag) (n := 3) (fun _ => rfl) _) (.none _) (.some _ _ _ _ c17.1) tv ⟨rfl, tv⟩ (by have := c17.2.1; (try simp only [List.length_map]); omega) (by have := c17.2.2; (try simp only [List.length_map]); omega) (EX Ag v5.2.2.2.1 _ _ ((v9).toNat - 0) rfl) ?_
      refine By h fun v18 a18 h => Aq [] (D1 N p0 ((Ah.mk v5.1 v5.2.1 v5.2.2.1)) (((v5.2.2.2.1.drop 0).take ((v9).toNat - 0))) v18 a18) NL rfl (qm rfl (qx rfl (qx rfl (qs AD rfl (AH (by kernel_rfl) (Ak Ay rfl (qw 2 rfl ?_)))))))
      refine Ge h fun c19 h => FJ (.p rfl) rfl A6 BT (DT (f := Ag) (n := 3) (fun _ => rfl) _) (.some _ _ _ _ c19.1) (.none _) ⟨rfl, tv⟩ tv (by have := c19.2.1; (try simp only [List.length_map]); omega) (by have := c19.2.2; (try simp only [List.length_map]); omega) (EX Ag v5.2.2.2.1 _ _ (v5.2.2.2.1.length - (v9).toNat) (by rw [List.length_map])) ?_
      refine qa rfl (Aa ?_)
      exact sn [(2006, 50)] h
    ·refine AZ ?_
     exact sn [(2007, 2006)] h
   ·refine Ae hs (wq rfl (qm rfl (qa rfl (qe rfl ?_))))
    obtain rfl := sj h
    refine Ae (sm [(1000, 2007)] [(4, oD (.own 1000)), (5, iD 0)] [(1000, .vec 1 (v6.map (FP Ag)))] rfl rfl) (Ao ?_)
    exact ⟨⟨[_, _], ⟨.tmp _ _ rfl, tm⟩, rfl⟩, ⟨rfl, tv⟩⟩
theorem Hf (N : Nat) (p0 : Ab) (r : Ah × Int) (h : DC N p0 = some r) : Ap Tryd.prog 22 [.e (.agg (Ai p0))] [(1, r.1.fe.map An), (1, r.1.fc.map An), (1, r.1.ff.map Cl)] (.tup [.agg [.own 0, .own 1, .own 2], .one (iC r.2)]) := by
 unfold DC at h
 refine cw (n := 68) (rs := [.cell 2 38, .tmp 3]) Tryd.func22 fun w0 S0 => ?_
 refine wq rfl (qb rfl (qz Cj rfl (qa rfl (Aa (wp rfl (qL B5 BU rfl ?_))))))
 refine By h fun v1 a1 h => Aq [] (Dx N p0 v1 a1) PZ rfl (qa rfl (Aa (wq rfl (qm rfl (Bo rfl (Aa ?_))))))
 refine Ba h (fun h => ?_) fun h => ?_
 ·refine wq rfl (Bb Cj Gf rfl (qm rfl (qs AD rfl (qe rfl ?_))))
  obtain rfl := sj h
  refine Ae ((AU 2 0 2001 1 _ rfl rfl rfl rfl).trans ((AU 2 1 2002 1 _ rfl rfl rfl rfl).trans ((AU 2 2 2003 1 _ rfl rfl rfl rfl).trans (sm [(1000, 2001), (1001, 2002), (1002, 2003)] [(2, oD (.ptr 2 0)), (3, iD v1)] [(2, .box [.own 1000, .own 1001, .own 1002]), (1000, .vec 1 ((([] : List Int)).map An)), (1001, .vec 1 ((([] : List Int)).map An)), (1002, .vec 1 ((([] : List Int)).map Cl))] rfl rfl)))) (Ao ?_)
  exact ⟨⟨[_, _], ⟨.cellN _ _ _ _ _ _ _ rfl rfl Be AD rfl rfl (GG rfl), tm⟩, rfl⟩, ⟨rfl, rfl, rfl, tv⟩⟩
 ·refine Al (wq rfl (qz Cj rfl (Aa (wp rfl (qe rfl ?_)))))
  refine AE (L := Cf N p0) h (fun v3 => mk [(1, oD (.ptr 1 0)), (2, oD (.ptr 2 0)), (5, oD (.ptr 5 0)), (6, iD v3.2.2)] [(1, .box (Ai p0)), (2, .box [.pure (.nil0), .pure (.nil0), .pure (.nil0)]), (5, .box [.own 2004, .own 2005, .pure (.nil0)]), (2004, .vec 1 (v3.1.map An)), (2005, .vec 1 (v3.2.1.map An))]) (fun v4 => mk [(1, oD (.ptr 1 0)), (2, oD (.ptr 2 0)), (5, oD (.ptr 5 0))] [(1, .box (Ai p0)), (2, .box [.pure (.nil0), .pure (.nil0), .pure (.nil0)]), (5, .box [.own 2006, .own 2007, .pure (.nil0)]), (2006, .vec 1 (v4.1.map An)), (2007, .vec 1 (v4.2.map An))]) (fun _ _ => rfl) ((AU 5 0 2008 1 _ rfl rfl rfl rfl).trans ((AU 5 1 2009 1 _ rfl rfl rfl rfl).trans (sm [(2004, 2008), (2005, 2009)] _ _ rfl rfl))) (fun j3 n3 v3 h => ?_) (fun v4 s h hs => ?_)
  ·unfold Cf at h
   refine wp rfl (qm rfl (qf BG rfl (ql Bg rfl (Aw Az rfl (AY rfl (Aa ?_))))))
   refine Ba h (fun h => ?_) fun h => ?_
   ·refine Al (AB (AN (wq rfl (qf CW rfl (ql Bg rfl (qf Ej rfl (ql Bg rfl (qm rfl ?_))))))))
    refine Ce h fun v6 a6 b6 h => qi Az DD a6 (Aj b6) rfl (qk B9 rfl (Fa Az DD LY rfl ?_))
    refine Ge h fun c7 h => Gv (f := An) Az Az DD MH LY c7 rfl (qf CW rfl (qs PS rfl (AH (by kernel_rfl) (Ak Ay rfl (qf B7 rfl (ql Bg rfl (Fa Az DD LY rfl ?_)))))))
    refine Ge h fun c8 h => Gv (f := An) Az Az DD MH LY c8 rfl (qf B7 rfl (qs PS rfl (Aa (Ak Ay rfl (qm rfl (Bm rfl (qe rfl ?_)))))))
    exact sn [(2004, 30), (2005, 35)] h
   ·refine AZ ?_
    exact sn [(2006, 2004), (2007, 2005)] h
  ·refine Ae hs (wp rfl (qe rfl ?_))
   refine AE (L := Cg N p0) h (fun v9 => mk [(1, oD (.ptr 1 0)), (2, oD (.ptr 2 0)), (5, oD (.ptr 5 0)), (7, iD v9.2)] [(1, .box (Ai p0)), (2, .box [.pure (.nil0), .pure (.nil0), .pure (.nil0)]), (5, .box [.own 2010, .own 2011, .own 2012]), (2010, .vec 1 (v4.1.map An)), (2011, .vec 1 (v4.2.map An)), (2012, .vec 1 (v9.1.map Cl))]) (fun v10 => mk [(2, oD (.ptr 2 0)), (5, oD (.ptr 5 0))] [(2, .box [.pure (.nil0), .pure (.nil0), .pure (.nil0)]), (5, .box [.own 2013, .own 2014, .own 2015]), (2013, .vec 1 (v4.1.map An)), (2014, .vec 1 (v4.2.map An)), (2015, .vec 1 (v10.map Cl))]) (fun _ _ => rfl) ((AU 5 2 2019 1 _ rfl rfl rfl rfl).trans (sm [(2010, 2006), (2011, 2007), (2012, 2019)] _ _ rfl rfl)) (fun j9 n9 v9 h => ?_) (fun v10 s h hs => ?_)
   ·unfold Cg at h
    refine wp rfl (qm rfl (qf BE rfl (ql E9 rfl (Aw CI rfl (AY rfl (Aa ?_))))))
    refine Ba h (fun h => ?_) fun h => ?_
    ·refine Al (AB (AN (wq rfl (qe rfl ?_))))
     refine AO h (fun v12 => mk [(1, oD (.ptr 1 0)), (2, oD (.ptr 2 0)), (5, oD (.ptr 5 0)), (7, iD v9.2), (8, pD (.val (.int .u8 v12)))] [(1, .box (Ai p0)), (2, .box [.pure (.nil0), .pure (.nil0), .pure (.nil0)]), (5, .box [.own 2016, .own 2017, .own 2018]), (2016, .vec 1 (v4.1.map An)), (2017, .vec 1 (v4.2.map An)), (2018, .vec 1 (v9.1.map Cl))]) (fun j12 h => ?_) (fun v12 h => ?_)
     ·refine wq rfl (qf BE rfl (ql E9 rfl (qm rfl ?_)))
      refine Ce h fun v13 a13 b13 h => qi CI Dm a13 (Aj b13) rfl (qK Hc Dm rfl ?_)
      refine By h fun v14 a14 h => Aq [] (EY N v13 v14 a14) P0 rfl (Aa ?_)
      refine Ba h (fun h => ?_) fun h => ?_
      ·refine Ak Ay rfl (qf Ej rfl (ql Bg rfl (qf BE rfl (ql E9 rfl (qm rfl ?_)))))
       refine Ce h fun v16 a16 b16 h => qi CI Dm a16 (Aj b16) rfl (qg Dd rfl (qk B9 rfl ?_))
       refine Ce h fun v17 a17 b17 h => qi Az DD a17 (Aj b17) rfl (qk B9 rfl ?_)
       refine Ge h fun c18 h => H0 rfl c18 (qa rfl (AH (by kernel_rfl) ?_))
       exact sn [(2016, 2010), (2017, 2011), (2018, 2012)] h
      ·refine Al ?_
       exact sn [(2016, 2010), (2017, 2011), (2018, 2012)] h
     ·refine Ak Ay rfl (qf Dh rfl (ql HT rfl (qm rfl (Fa Do Gq MO rfl ?_))))
      refine Ge h fun c19 h => Gv (f := Cl) Do Do Gq MR MO c19 rfl (qf Dh rfl (qs QT rfl (Aa (Ak Ay rfl (qm rfl (Bm rfl (qe rfl ?_)))))))
      exact sn [(2010, 2016), (2011, 2017), (2012, 65)] h
    ·refine AZ ?_
     exact sn [(2013, 2010), (2014, 2011), (2015, 2012)] h
   ·refine Ae hs (wq rfl (qL Be AD rfl (qs AD rfl (qe rfl ?_))))
    obtain rfl := sj h
    refine Ae (sm [(1000, 2013), (1001, 2014), (1002, 2015)] [(2, oD (.ptr 2 0)), (3, iD 0)] [(2, .box [.own 1000, .own 1001, .own 1002]), (1000, .vec 1 (v4.1.map An)), (1001, .vec 1 (v4.2.map An)), (1002, .vec 1 (v10.map Cl))] rfl rfl) (Ao ?_)
    exact ⟨⟨[_, _], ⟨.cellN _ _ _ _ _ _ _ rfl rfl Be AD rfl rfl (GG rfl), tm⟩, rfl⟩, ⟨rfl, rfl, rfl, tv⟩⟩
theorem FX (N : Nat) (p0 : Ab) (p1 : List (List Ac)) (r : (List Ah) × Int) (h : Cv N p0 p1 = some r) : Ap Tryd.prog 14 [.e (.agg (Ai p0)), pD (.sl (p1.map (FP Ag)))] [(3, r.1.map Cr)] (.tup [.one (.own 0), .one (iC r.2)]) := by
 unfold Cv at h
 refine cw (n := 61) (rs := [.tmp 4, .tmp 5]) Tryd.func14 fun w0 S0 => ?_
 refine wq rfl (qb rfl (qa rfl (qa rfl (Aa (wp rfl (qL B5 BU rfl ?_))))))
 refine By h fun v1 a1 h => Aq [] (Dv N p0 v1 a1) Ph rfl (qa rfl (Aa (wq rfl (qm rfl (Bo rfl (Aa ?_))))))
 refine Ba h (fun h => ?_) fun h => ?_
 ·refine wq rfl (qm rfl (qa rfl (qe rfl ?_)))
  obtain rfl := sj h
  refine Ae ((B3 4 2001 3 rfl rfl rfl).trans (sm [(1000, 2001)] [(4, oD (.own 1000)), (5, iD v1)] [(1000, .vec 3 ((([] : List Ah)).map Cr))] rfl rfl)) (Ao ?_)
  exact ⟨⟨[_, _], ⟨.tmp _ _ rfl, tm⟩, rfl⟩, ⟨rfl, tv⟩⟩
 ·refine Al (wq rfl (qL B5 BU rfl ?_))
  refine By h fun v3 a3 h => Aq [2002, 2003, 2004] (GI N p0 v3 a3) OW rfl (qm rfl (qx rfl (qx rfl (qz Cj rfl (qs AD rfl (qa rfl (Aa (wp rfl (qm rfl (Bo rfl (Aa ?_)))))))))))
  refine Ba h (fun h => ?_) fun h => ?_
  ·refine wq rfl (qm rfl (qa rfl (qe rfl ?_)))
   obtain rfl := sj h
   refine Ae ((B3 4 2005 3 rfl rfl rfl).trans (sm [(1000, 2005)] [(4, oD (.own 1000)), (5, iD v3.2)] [(1000, .vec 3 ((([] : List Ah)).map Cr))] rfl rfl)) (Ao ?_)
   exact ⟨⟨[_, _], ⟨.tmp _ _ rfl, tm⟩, rfl⟩, ⟨rfl, tv⟩⟩
  ·refine Al (wq rfl (qL Be AD rfl (C4 (A0 2002 _ _ rfl rfl) (C4 (A0 2003 _ _ rfl rfl) (C4 (A0 2004 _ _ rfl rfl) (Fa FH AD Cj rfl (qa rfl (Aa (wp rfl (qm rfl (Aw FE rfl (qm rfl (Aa ?_)))))))))))))
   refine AE (L := Dt N p0 p1) h (fun v5 => mk [(2, oD (.ptr 2 0)), (7, oD (.ptr 7 0)), (9, oD (.own 2006)), (29, pD (.sl (p1.map (FP Ag)))), (30, iD ((p1.length : Int))), (31, iD v5.2.2)] [(2, .box (Ai p0)), (7, .box (AA v5.1)), (2006, .vec 3 (v5.2.1.map Cr))]) (fun v6 => mk [(9, oD (.own 2007))] [(2007, .vec 3 (v6.map Cr))]) (fun _ _ => rfl) (sm [(2006, 28)] _ _ rfl rfl) (fun j5 n5 v5 h => ?_) (fun v6 s h hs => ?_)
   ·unfold Dt at h
    refine wq rfl (AY rfl (Aa (AB ?_)))
    refine Ba h (fun h => ?_) fun h => ?_
    ·refine Al (AB (AN (wq rfl ?_)))
     refine Ce h fun v8 a8 b8 h => qi FE Km a8 (Aj b8) rfl (qk Mp rfl (qa rfl (Aa (wp rfl (qL B5 BU rfl (qL Be AD rfl (qm rfl ?_)))))))
     refine By h fun v9 a9 h => Aq [] (Ff N p0 v5.1 v8 v9 a9) QB rfl (qm rfl (qx rfl (qx rfl (qa rfl (qe rfl ?_)))))
     refine AO h (fun v10 => mk [(2, oD (.ptr 2 0)), (7, oD (.ptr 7 0)), (9, oD (.own 2008)), (11, pD (.sl (v8.map Ag))), (29, pD (.sl (p1.map (FP Ag)))), (30, iD ((p1.length : Int))), (31, iD v5.2.2), (47, bD v10)] [(2, .box (Ai p0)), (7, .box (AA v5.1)), (2008, .vec 3 (v5.2.1.map Cr))]) (fun j10 h => ?_) (fun v10 h => ?_)
     ·refine Ak Ay rfl (qm rfl (Bo rfl (qm rfl ?_)))
      refine CR 44 h rfl (fun h => ?_) fun h => ?_
      ·refine qw 2 rfl (qp rfl (Aa ?_))
       exact sn [(2008, 2006)] h
      ·refine qm rfl (BJ rfl (qp rfl (Aa ?_)))
       exact sn [(2008, 2006)] h
     ·refine Ba h (fun h => ?_) fun h => ?_
      ·refine wq rfl (qa rfl (qe rfl ?_))
       obtain rfl := sj h
       refine Ae ((B3 4 2009 3 rfl rfl rfl).trans (sm [(1000, 2009)] [(4, oD (.own 1000)), (5, iD 13)] [(1000, .vec 3 ((([] : List Ah)).map Cr))] rfl rfl)) (Ao ?_)
       exact ⟨⟨[_, _], ⟨.tmp _ _ rfl, tm⟩, rfl⟩, ⟨rfl, tv⟩⟩
      ·refine Al (wq rfl (qL B5 BU rfl (qL Be AD rfl (qm rfl ?_))))
       refine By h fun v13 a13 h => Aq [] (D1 N p0 v5.1 v8 v13 a13) NL rfl (qm rfl (qx rfl (qx rfl (qs AD rfl (Aa (Ak Ay rfl (qm rfl (qL Be AD rfl (Fa FH AD Cj rfl ?_)))))))))
       refine Ge h fun c14 h => Gv (f := Cr) FH FH AD OA Cj c14 rfl (qa rfl (Aa (Ak Ay rfl (Bm rfl (qm rfl (Aa ?_))))))
       exact sn [(2006, 58)] h
    ·refine AZ ?_
     exact sn [(2007, 2006)] h
   ·refine Ae hs (wq rfl (qm rfl (qa rfl (qe rfl ?_))))
    obtain rfl := sj h
    refine Ae (sm [(1000, 2007)] [(4, oD (.own 1000)), (5, iD 0)] [(1000, .vec 3 (v6.map Cr))] rfl rfl) (Ao ?_)
    exact ⟨⟨[_, _], ⟨.tmp _ _ rfl, tm⟩, rfl⟩, ⟨rfl, tv⟩⟩
theorem Fy (N : Nat) (p0 : List Ac) (p1 : List Ac) (r : Bool) (h : CU N p0 p1 = some r) : Ap Tryd.prog 24 [pD (.sl (p0.map Ag)), pD (.sl (p1.map Ag))] [] (bD r) := by
 unfold CU at h
 refine cw (n := 26) (rs := [.tmp 4]) Tryd.func24 fun w0 S0 => ?_
 refine wq rfl (qa rfl (Aa (wp rfl (qm rfl (Aw A6 rfl (qm rfl (Aw A6 rfl (Bo rfl (Aa ?_)))))))))
 refine Ba h (fun h => ?_) fun h => ?_
 ·refine wq rfl (qe rfl ?_)
  obtain rfl := sj h
  refine Ae (sm [] [(4, bD false)] [] rfl rfl) (Ao ?_)
  exact ⟨⟨[_], tm, rfl⟩, tv⟩
 ·refine Al (wp rfl (qe rfl ?_))
  refine AE (L := Co N p0 p1) h (fun v2 => mk [(0, pD (.sl (p0.map Ag))), (1, pD (.sl (p1.map Ag))), (5, iD v2)] []) (fun v3 => mk [] []) (fun _ _ => rfl) (sm [] _ _ rfl rfl) (fun j2 n2 v2 h => ?_) (fun v3 s h hs => ?_)
  ·unfold Co at h
   refine wp rfl (qw 2 rfl (Aw A6 rfl (AY rfl (Aa ?_))))
   refine Ba h (fun h => ?_) fun h => ?_
   ·refine Al (AB (AN (wq rfl (qw 2 rfl ?_))))
    refine Ce h fun v5 a5 b5 h => qi A6 BT a5 (Aj b5) rfl (qK Fe BT rfl (qw 2 rfl ?_))
    refine Ce h fun v6 a6 b6 h => qi A6 BT a6 (Aj b6) rfl (qK Fe BT rfl ?_)
    refine PY [.int .i64 v5.fd, .int .i64 v5.fj, .int .i64 v5.fk] [.int .i64 v6.fd, .int .i64 v6.fj, .int .i64 v6.fk] (.p rfl) rfl rfl OB rfl ?_
    refine AH (by kernel_rfl) ?_
    refine Ba h (fun h => ?_) fun h => ?_
    ·refine wq rfl (qe rfl ?_)
     obtain rfl := sj h
     refine Ae (sm [] [(4, bD false)] [] rfl rfl) (Ao ?_)
     exact ⟨⟨[_], tm, rfl⟩, tv⟩
    ·refine Al (Ak Ay rfl (qm rfl (Bm rfl (qe rfl ?_))))
     exact sn [] h
   ·refine AZ ?_
    exact sn [] h
  ·refine Ae hs (wq rfl (qe rfl ?_))
   obtain rfl := sj h
   refine Ae (sm [] [(4, bD true)] [] rfl rfl) (Ao ?_)
   exact ⟨⟨[_], tm, rfl⟩, tv⟩
theorem Ho (N : Nat) (p0 : List (List Ac)) (p1 : List (List Ac)) (r : Bool) (h : DN N p0 p1 = some r) : Ap Tryd.prog 23 [pD (.sl (p0.map (FP Ag))), pD (.sl (p1.map (FP Ag)))] [] (bD r) := by
 unfold DN at h
 refine cw (n := 27) (rs := [.tmp 4]) Tryd.func23 fun w0 S0 => ?_
 refine wq rfl (qa rfl (Aa (wp rfl (qm rfl (Aw FE rfl (qm rfl (Aw FE rfl (Bo rfl (Aa ?_)))))))))
 refine Ba h (fun h => ?_) fun h => ?_
 ·refine wq rfl (qe rfl ?_)
  obtain rfl := sj h
  refine Ae (sm [] [(4, bD false)] [] rfl rfl) (Ao ?_)
  exact ⟨⟨[_], tm, rfl⟩, tv⟩
 ·refine Al (wp rfl (qe rfl ?_))
  refine AE (L := Cq N p0 p1) h (fun v2 => mk [(0, pD (.sl (p0.map (FP Ag)))), (1, pD (.sl (p1.map (FP Ag)))), (5, iD v2)] []) (fun v3 => mk [] []) (fun _ _ => rfl) (sm [] _ _ rfl rfl) (fun j2 n2 v2 h => ?_) (fun v3 s h hs => ?_)
  ·unfold Cq at h
   refine wp rfl (qw 2 rfl (Aw FE rfl (AY rfl (Aa ?_))))
   refine Ba h (fun h => ?_) fun h => ?_
   ·refine Al (AB (AN (wq rfl (qw 2 rfl ?_))))
    refine Ce h fun v5 a5 b5 h => qi FE Km a5 (Aj b5) rfl (qk Mp rfl (qw 2 rfl ?_))
    refine Ce h fun v6 a6 b6 h => qi FE Km a6 (Aj b6) rfl (qk Mp rfl ?_)
    refine By h fun v7 a7 h => Aq [] (Fy N v5 v6 v7 a7) PU rfl (BJ rfl (AH (by kernel_rfl) ?_))
    refine Ba h (fun h => ?_) fun h => ?_
    ·refine wq rfl (qe rfl ?_)
     obtain rfl := sj h
     refine Ae (sm [] [(4, bD false)] [] rfl rfl) (Ao ?_)
     exact ⟨⟨[_], tm, rfl⟩, tv⟩
    ·refine Al (Ak Ay rfl (qm rfl (Bm rfl (qe rfl ?_))))
     exact sn [] h
   ·refine AZ ?_
    exact sn [] h
  ·refine Ae hs (wq rfl (qe rfl ?_))
   obtain rfl := sj h
   refine Ae (sm [] [(4, bD true)] [] rfl rfl) (Ao ?_)
   exact ⟨⟨[_], tm, rfl⟩, tv⟩
theorem Hi (N : Nat) (p0 : Ab) (p1 : List (List Ac)) (r : Bool) (h : CX N p0 p1 = some r) : Ap Tryd.prog 15 [.e (.agg (Ai p0)), pD (.sl (p1.map (FP Ag)))] [] (bD r) := by
 unfold CX at h
 refine cw (n := 40) (rs := [.tmp 4]) Tryd.func15 fun w0 S0 => ?_
 refine wq rfl (qb rfl (qa rfl (Aa (wq rfl (qL B5 BU rfl (qm rfl ?_))))))
 refine By h fun v1 a1 h => Aq [2001] (FX N p0 p1 v1 a1) Pe rfl (qm rfl (qx rfl (qx rfl (qa rfl (qa rfl (Aa (wp rfl (qm rfl (Bo rfl (Aa ?_))))))))))
 refine Ba h (fun h => ?_) fun h => ?_
 ·refine wq rfl (qe rfl ?_)
  obtain rfl := sj h
  refine Ae (sm [] [(4, bD false)] [] rfl rfl) (Ao ?_)
  exact ⟨⟨[_], tm, rfl⟩, tv⟩
 ·refine Al (wq rfl (qL B5 BU rfl (qm rfl ?_)))
  refine Ce h fun v3 a3 b3 h => qI FH AD a3 (Aj b3) rfl (qJ Be AD (Aj b3) rfl ?_)
  refine By h fun v4 a4 h => Aq [] (Gn N p0 v3 v4 a4) Pb rfl (qm rfl (qx rfl (qx rfl (qa rfl (qa rfl (AH (by kernel_rfl) ?_))))))
  refine AO h (fun v5 => mk [(4, bD v5)] []) (fun j5 h => ?_) (fun v5 h => ?_)
  ·refine Ak Ay rfl (qm rfl (Bf rfl (qm rfl ?_)))
   refine CR 27 h rfl (fun h => ?_) fun h => ?_
   ·refine qm rfl (qp rfl (qm rfl ?_))
    refine CR 30 h rfl (fun h => ?_) fun h => ?_
    ·refine qL B5 BU rfl (qw 2 rfl (Fz FH rfl (L0 rfl ?_)))
     refine Ce h fun v8 a8 b8 h => qI FH AD a8 (Aj b8) rfl (qJ Be AD (Aj b8) rfl ?_)
     refine By h fun v9 a9 h => Aq [] (IV N p0 v8 v9 a9) P4 rfl (qp rfl (qa rfl (AH (by kernel_rfl) ?_)))
     exact sn [] h
    ·refine qw 8 rfl (qp rfl (qa rfl (AH (by kernel_rfl) ?_)))
     exact sn [] h
   ·refine qn rfl (qp rfl (qw 9 rfl (qp rfl (qa rfl (AH (by kernel_rfl) ?_)))))
    exact sn [] h
  ·obtain rfl := sj h
   refine Ae (sm [] [(4, bD v5)] [] rfl rfl) (Ao ?_)
   exact ⟨⟨[_], tm, rfl⟩, tv⟩
theorem Jj (N : Nat) (p0 : List (List Ac)) (r : Int) (h : EZ N p0 = some r) : Ap Tryd.prog 16 [pD (.sl (p0.map (FP Ag)))] [] (iD r) := by
 unfold EZ at h
 refine cw (n := 27) (rs := [.tmp 2]) Tryd.func16 fun w0 S0 => ?_
 refine wq rfl (qa rfl (Aa (wq rfl (qa rfl (Aa (wp rfl (qm rfl (Aw FE rfl (qm rfl (Aa ?_))))))))))
 refine AE (L := C7 N p0) h (fun v1 => mk [(3, iD v1.1), (7, pD (.sl (p0.map (FP Ag)))), (8, iD ((p0.length : Int))), (9, iD v1.2)] []) (fun v2 => mk [(3, iD v2)] []) (fun _ _ => rfl) (sm [] _ _ rfl rfl) (fun j1 n1 v1 h => ?_) (fun v2 s h hs => ?_)
 ·unfold C7 at h
  refine wq rfl (AY rfl (Aa (AB ?_)))
  refine Ba h (fun h => ?_) fun h => ?_
  ·refine Al (AB (AN (wq rfl ?_)))
   refine Ce h fun v4 a4 b4 h => qi FE Km a4 (Aj b4) rfl (qk Mp rfl (qa rfl (Aa (wq rfl (qm rfl (Aw A6 rfl (qm rfl (Aa ?_))))))))
   refine AE (L := C8 N v4) h (fun v5 => mk [(3, iD v5.1), (7, pD (.sl (p0.map (FP Ag)))), (8, iD ((p0.length : Int))), (9, iD v1.2), (14, iD ((v4.length : Int))), (15, iD v5.2)] []) (fun v6 => mk [(3, iD v6), (7, pD (.sl (p0.map (FP Ag)))), (8, iD ((p0.length : Int))), (9, iD v1.2)] []) (fun _ _ => rfl) (sm [] _ _ rfl rfl) (fun j5 n5 v5 h => ?_) (fun v6 s h hs => ?_)
   ·unfold C8 at h
    refine wq rfl (AY rfl (Aa (AB ?_)))
    refine Ba h (fun h => ?_) fun h => ?_
    ·refine Al (AB (AN (wq rfl (qm rfl (qa rfl (Aa (Ak Ay rfl (qw 2 rfl (Bm rfl ?_)))))))))
     refine LW (.p rfl) rfl rfl ?_
     refine I8 rfl ?_
     refine LW (.p rfl) rfl rfl ?_
     refine qa rfl (Aa (Ak Ay rfl (Bm rfl (qm rfl (Aa ?_)))))
     exact sn [] h
    ·refine AZ ?_
     exact sn [] h
   ·refine Ae hs (Ak Ay rfl (Bm rfl (qm rfl (Aa ?_))))
    exact sn [] h
  ·refine AZ ?_
   exact sn [] h
 ·refine Ae hs (wq rfl (qm rfl (qe rfl ?_)))
  obtain rfl := sj h
  refine Ae (sm [] [(2, iD v2)] [] rfl rfl) (Ao ?_)
  exact ⟨⟨[_], tm, rfl⟩, tv⟩
theorem E8 (N : Nat) (r : Bool) (h : Cd N = some r) : Ap Tryd.prog 7 [] [] (bD r) := by
 unfold Cd at h
 refine cw (n := 107) (rs := [.tmp 0]) Tryd.func7 fun w0 S0 => ?_
 refine wq rfl (qa rfl (Aa (wq rfl ?_)))
 refine By h fun v1 a1 h => Aq [2001, 2002, 2003, 2004] (GC N v1 a1) Ri rfl (qm rfl (qx rfl (qx rfl (qz NO rfl (qs BU rfl (qa rfl (Aa (wq rfl (qL B5 BU rfl (qm rfl (C4 (A0 2001 _ _ rfl rfl) (C4 (A0 2002 _ _ rfl rfl) (C4 (A0 2003 _ _ rfl rfl) (C4 (A0 2004 _ _ rfl rfl) ?_))))))))))))))
 refine By h fun v2 a2 h => Aq [2005] (Jm N v1.1 v1.2 v2 a2) PW rfl (qm rfl (qx rfl (qx rfl (qa rfl (qa rfl (Aa (wq rfl (qL B5 BU rfl ?_))))))))
 refine By h fun v3 a3 h => Aq [2006, 2007, 2008] (Hf N v1.1 v3 a3) Q3 rfl (qm rfl (qx rfl (qx rfl (qz Cj rfl (qs AD rfl (qa rfl (Aa (wq rfl (qL B5 BU rfl (qL Be AD rfl (qm rfl (C4 (A0 2006 _ _ rfl rfl) (C4 (A0 2007 _ _ rfl rfl) (C4 (A0 2008 _ _ rfl rfl) ?_))))))))))))))
 refine By h fun v4 a4 h => Aq [] (G5 N v1.1 v3.1 v1.2 v4 a4) O6 rfl (qm rfl (qx rfl (qx rfl (qa rfl (qa rfl (Aa (wq rfl (qL B5 BU rfl (qL Be AD rfl (qm rfl ?_))))))))))
 refine Ge h fun c5 h => FJ (.p rfl) rfl A6 BT (DT (f := Ag) (n := 3) (fun _ => rfl) _) (.none _) (.some _ _ _ _ c5.1) tv ⟨rfl, tv⟩ (by have := c5.2.1; (try simp only [List.length_map]); omega) (by have := c5.2.2; (try simp only [List.length_map]); omega) (EX Ag v1.2 _ _ ((2 : Int).toNat - 0) rfl) ?_
 refine By h fun v6 a6 h => Aq [] (Ff N v1.1 v3.1 (((v1.2.drop 0).take ((2 : Int).toNat - 0))) v6 a6) QB rfl (qm rfl (qx rfl (qx rfl (qa rfl (qa rfl (AH (by kernel_rfl) (wq rfl (qL B5 BU rfl (qm rfl (C4 (A0 2005 _ _ rfl rfl) ?_))))))))))
 refine By h fun v7 a7 h => Aq [2009] (FX N v1.1 v2.1 v7 a7) Pe rfl (qm rfl (qx rfl (qx rfl (qa rfl (qe rfl ?_)))))
 refine AO h (fun v8 => mk [(0, bD v8)] []) (fun j8 h => ?_) (fun v8 h => ?_)
 ·refine Ak Ay rfl (qm rfl (Bf rfl (qm rfl ?_)))
  refine CR 51 h rfl (fun h => ?_) fun h => ?_
  ·refine qw 2 rfl ?_
   refine Ge h fun c10 h => FJ (.g rfl rfl) rfl A6 BT (DT (f := Ag) (n := 3) (fun _ => rfl) _) (.none _) (.some _ _ _ _ c10.1) tv ⟨rfl, tv⟩ (by have := c10.2.1; (try simp only [List.length_map]); omega) (by have := c10.2.2; (try simp only [List.length_map]); omega) (EX Ag v1.2 _ _ ((2 : Int).toNat - 0) rfl) ?_
   refine qm rfl ?_
   refine Ge h fun c11 h => FJ (.g rfl rfl) rfl A6 BT (DT (f := Ag) (n := 3) (fun _ => rfl) _) (.some _ _ _ _ c11.1) (.none _) ⟨rfl, tv⟩ tv (by have := c11.2.1; (try simp only [List.length_map]); omega) (by have := c11.2.2; (try simp only [List.length_map]); omega) (EX Ag v1.2 _ _ (v1.2.length - (2 : Int).toNat) (by rw [List.length_map])) ?_
   refine Fa FE Km Ny rfl ?_
   refine By h fun v12 a12 h => Hb [] [57] (Ho N v2.1 (([((v1.2.drop 0).take ((2 : Int).toNat - 0)), ((v1.2.drop (2 : Int).toNat).take (v1.2.length - (2 : Int).toNat))] : List (List Ac))) v12 a12) Ru Fg rfl (qp rfl (qm rfl ?_))
   refine CR 60 h rfl (fun h => ?_) fun h => ?_
   ·refine qm rfl (Bf rfl (qp rfl (qm rfl ?_)))
    refine CR 64 h rfl (fun h => ?_) fun h => ?_
    ·refine qw 2 rfl ?_
     refine Ce h fun v15 a15 b15 h => qi A6 BT a15 (Aj b15) rfl (qK Fe BT rfl (qm rfl ?_))
     refine Ce h fun v16 a16 b16 h => qi A6 BT a16 (Aj b16) rfl (qK Fe BT rfl (qm rfl ?_))
     refine Ce h fun v17 a17 b17 h => qi A6 BT a17 (Aj b17) rfl (qK Fe BT rfl (qm rfl ?_))
     refine Ce h fun v18 a18 b18 h => qi A6 BT a18 (Aj b18) rfl (qK Fe BT rfl (Fa A6 BT Hs rfl ?_))
     refine By h fun v19 a19 h => Hb [] [78] (Fy N v4.1 (([v15, v16, v17, v18] : List Ac)) v19 a19) PU Fg rfl (qp rfl (qm rfl ?_))
     refine CR 81 h rfl (fun h => ?_) fun h => ?_
     ·refine qm rfl (qp rfl (qm rfl ?_))
      refine CR 84 h rfl (fun h => ?_) fun h => ?_
      ·refine qm rfl (Bf rfl (qp rfl (qm rfl ?_)))
       refine CR 88 h rfl (fun h => ?_) fun h => ?_
       ·refine qm rfl (Bf rfl (qp rfl (qm rfl ?_)))
        refine CR 92 h rfl (fun h => ?_) fun h => ?_
        ·refine qm rfl (Fz FH rfl (Bf rfl (qp rfl (qm rfl ?_))))
         refine CR 97 h rfl (fun h => ?_) fun h => ?_
         ·refine qL B5 BU rfl (qm rfl ?_)
          refine By h fun v25 a25 h => Aq [] (Hi N v1.1 v2.1 v25 a25) Qy rfl (qp rfl (qm rfl ?_))
          refine CR 102 h rfl (fun h => ?_) fun h => ?_
          ·refine qm rfl ?_
           refine By h fun v27 a27 h => Aq [] (Jj N v2.1 v27 a27) Rt rfl (Bf rfl (qp rfl (qa rfl (AH (by kernel_rfl) ?_))))
           exact sn [] h
          ·refine qw 3 rfl (qp rfl (qa rfl (AH (by kernel_rfl) ?_)))
           exact sn [] h
         ·refine qw 3 rfl (qp rfl (qw 4 rfl (qp rfl (qa rfl (AH (by kernel_rfl) ?_)))))
          exact sn [] h
        ·refine qw 3 rfl (qp rfl (qw 4 rfl (qp rfl (qw 4 rfl (qp rfl (qa rfl (AH (by kernel_rfl) ?_)))))))
         exact sn [] h
       ·refine qw 2 rfl (qp rfl (qw 4 rfl (qp rfl (qw 4 rfl (qp rfl (qw 4 rfl (qp rfl (qa rfl (AH (by kernel_rfl) ?_)))))))))
        exact sn [] h
      ·refine qw 2 rfl (qp rfl (qw 3 rfl (qp rfl (qw 4 rfl (qp rfl (qw 4 rfl (qp rfl (qw 4 rfl (qp rfl (qa rfl (AH (by kernel_rfl) ?_)))))))))))
       exact sn [] h
     ·refine qn rfl (qp rfl (qw 3 rfl (qp rfl (qw 3 rfl (qp rfl (qw 4 rfl (qp rfl (qw 4 rfl (qp rfl (qw 4 rfl (qp rfl (qa rfl (AH (by kernel_rfl) ?_)))))))))))))
      exact sn [] h
    ·refine qw 15 rfl (qp rfl (qw 2 rfl (qp rfl (qw 3 rfl (qp rfl (qw 3 rfl (qp rfl (qw 4 rfl (qp rfl (qw 4 rfl (qp rfl (qw 3 rfl ?_))))))))))))
     refine qn rfl (qp rfl (qa rfl (AH (by kernel_rfl) ?_)))
     exact sn [] h
   ·refine qw 2 rfl (qp rfl (qw 16 rfl (qp rfl (qw 2 rfl (qp rfl (qw 3 rfl (qp rfl (qw 3 rfl (qp rfl (qw 4 rfl (qp rfl (qw 4 rfl ?_))))))))))))
    refine qp rfl (qw 4 rfl (qp rfl (qa rfl (AH (by kernel_rfl) ?_))))
    exact sn [] h
  ·refine qw 7 rfl (qp rfl (qw 3 rfl (qp rfl (qw 16 rfl (qp rfl (qw 2 rfl (qp rfl (qw 3 rfl (qp rfl (qw 3 rfl (qp rfl ?_)))))))))))
   refine qw 4 rfl (qp rfl (qw 4 rfl (qp rfl (qw 4 rfl (qp rfl (qa rfl (AH (by kernel_rfl) ?_)))))))
   exact sn [] h
 ·obtain rfl := sj h
  refine Ae (sm [] [(0, bD v8)] [] rfl rfl) (Ao ?_)
  exact ⟨⟨[_], tm, rfl⟩, tv⟩
theorem HF (N : Nat) (p0 : Ab) (r : Bool) (h : Cz N p0 = some r) : Ap Tryd.prog 11 [.e (.agg (Ai p0))] [] (bD r) := by
 unfold Cz at h
 refine cw (n := 97) (rs := [.tmp 2]) Tryd.func11 fun w0 S0 => ?_
 refine wq rfl (qb rfl (qa rfl (Aa (AB ?_))))
 refine AO h (fun v1 => mk [(1, oD (.ptr 1 0)), (27, bD v1)] [(1, .box (Ai p0))]) (fun j1 h => ?_) (fun v1 h => ?_)
 ·refine Ak Ay rfl (qf BG rfl (ql Bg rfl (Aw Az rfl (C0 rfl (qm rfl ?_)))))
  refine CR 10 h rfl (fun h => ?_) fun h => ?_
  ·refine qw 4 rfl (qp rfl (qw 5 rfl (qp rfl (qw 5 rfl (qp rfl (Aa ?_))))))
   exact sn [] h
  ·refine qf Ej rfl (ql Bg rfl (Aw Az rfl (C0 rfl (qp rfl (qm rfl ?_)))))
   refine CR 16 h rfl (fun h => ?_) fun h => ?_
   ·refine qw 4 rfl (qp rfl (qw 5 rfl (qp rfl (Aa ?_))))
    exact sn [] h
   ·refine qf Gs rfl (ql Bg rfl (Aw Az rfl (C0 rfl (qp rfl (qm rfl ?_)))))
    refine CR 22 h rfl (fun h => ?_) fun h => ?_
    ·refine qw 4 rfl (qp rfl (Aa ?_))
     exact sn [] h
    ·refine qf BE rfl (ql E9 rfl (Aw CI rfl (C0 rfl (qp rfl (Aa ?_)))))
     exact sn [] h
 ·refine Ba h (fun h => ?_) fun h => ?_
  ·refine wq rfl (qe rfl ?_)
   obtain rfl := sj h
   refine Ae (sm [] [(2, bD false)] [] rfl rfl) (Ao ?_)
   exact ⟨⟨[_], tm, rfl⟩, tv⟩
  ·refine Al (wp rfl (qe rfl ?_))
   refine AE (L := Bv N p0) h (fun v6 => mk [(1, oD (.ptr 1 0)), (3, iD v6)] [(1, .box (Ai p0))]) (fun v7 => mk [] []) (fun _ _ => rfl) (sm [] _ _ rfl rfl) (fun j6 n6 v6 h => ?_) (fun v7 s h hs => ?_)
   ·unfold Bv at h
    refine wp rfl (qm rfl (qf BE rfl (ql E9 rfl (Aw CI rfl (AY rfl (Aa ?_))))))
    refine Ba h (fun h => ?_) fun h => ?_
    ·refine Al (AB (AN (AB ?_)))
     refine AO h (fun v9 => mk [(1, oD (.ptr 1 0)), (3, iD v6), (52, bD v9)] [(1, .box (Ai p0))]) (fun j9 h => ?_) (fun v9 h => ?_)
     ·refine Ak Ay rfl (qf BE rfl (ql E9 rfl (qm rfl ?_)))
      refine Ce h fun v10 a10 b10 h => qi CI Dm a10 (Aj b10) rfl (qg Gy rfl (qk F5 rfl (Aw DY rfl (C0 rfl (qm rfl ?_)))))
      refine CR 43 h rfl (fun h => ?_) fun h => ?_
      ·refine qw 8 rfl (qp rfl (Aa ?_))
       exact sn [] h
      ·refine qf BE rfl (ql E9 rfl (qm rfl ?_))
       refine Ce h fun v12 a12 b12 h => qi CI Dm a12 (Aj b12) rfl (qg DK rfl (qk F5 rfl (Aw DY rfl (C0 rfl (qp rfl (Aa ?_))))))
       exact sn [] h
     ·refine Ba h (fun h => ?_) fun h => ?_
      ·refine wq rfl (qe rfl ?_)
       obtain rfl := sj h
       refine Ae (sm [] [(2, bD false)] [] rfl rfl) (Ao ?_)
       exact ⟨⟨[_], tm, rfl⟩, tv⟩
      ·refine Al (wp rfl (qe rfl ?_))
       refine AE (L := A2 N p0 v6) h (fun v14 => mk [(1, oD (.ptr 1 0)), (3, iD v6), (4, iD v14)] [(1, .box (Ai p0))]) (fun v15 => mk [(1, oD (.ptr 1 0)), (3, iD v6)] [(1, .box (Ai p0))]) (fun _ _ => rfl) (sm [] _ _ rfl rfl) (fun j14 n14 v14 h => ?_) (fun v15 s h hs => ?_)
       ·unfold A2 at h
        refine wp rfl (qm rfl (qf BE rfl (ql E9 rfl (qm rfl ?_))))
        refine Ce h fun v16 a16 b16 h => qi CI Dm a16 (Aj b16) rfl (qg Gy rfl (qk F5 rfl (Aw DY rfl (AY rfl (Aa ?_)))))
        refine Ba h (fun h => ?_) fun h => ?_
        ·refine Al (AB (AN (wq rfl (qf BE rfl (ql E9 rfl (qm rfl ?_))))))
         refine Ce h fun v18 a18 b18 h => qi CI Dm a18 (Aj b18) rfl (qg Gy rfl (qk F5 rfl (qm rfl ?_)))
         refine Ce h fun v19 a19 b19 h => qi DY KB a19 (Aj b19) rfl (qk KF rfl (Aw HW rfl (C0 rfl (Aa ?_))))
         refine Ba h (fun h => ?_) fun h => ?_
         ·refine wq rfl (qe rfl ?_)
          obtain rfl := sj h
          refine Ae (sm [] [(2, bD false)] [] rfl rfl) (Ao ?_)
          exact ⟨⟨[_], tm, rfl⟩, tv⟩
         ·refine Al (Ak Ay rfl (qm rfl (Bm rfl (qe rfl ?_))))
          exact sn [] h
        ·refine AZ ?_
         exact sn [] h
       ·refine Ae hs (wq rfl (qe rfl ?_))
        refine AE (L := A3 N p0 v6) h (fun v21 => mk [(1, oD (.ptr 1 0)), (3, iD v6), (5, iD v21)] [(1, .box (Ai p0))]) (fun v22 => mk [(1, oD (.ptr 1 0)), (3, iD v6)] [(1, .box (Ai p0))]) (fun _ _ => rfl) (sm [] _ _ rfl rfl) (fun j21 n21 v21 h => ?_) (fun v22 s h hs => ?_)
        ·unfold A3 at h
         refine wp rfl (qm rfl (qf BE rfl (ql E9 rfl (qm rfl ?_))))
         refine Ce h fun v23 a23 b23 h => qi CI Dm a23 (Aj b23) rfl (qg DK rfl (qk F5 rfl (Aw DY rfl (AY rfl (Aa ?_)))))
         refine Ba h (fun h => ?_) fun h => ?_
         ·refine Al (AB (AN (wq rfl (qf BE rfl (ql E9 rfl (qm rfl ?_))))))
          refine Ce h fun v25 a25 b25 h => qi CI Dm a25 (Aj b25) rfl (qg DK rfl (qk F5 rfl (qm rfl ?_)))
          refine Ce h fun v26 a26 b26 h => qi DY KB a26 (Aj b26) rfl (qk KF rfl (Aw HW rfl (C0 rfl (Aa ?_))))
          refine Ba h (fun h => ?_) fun h => ?_
          ·refine wq rfl (qe rfl ?_)
           obtain rfl := sj h
           refine Ae (sm [] [(2, bD false)] [] rfl rfl) (Ao ?_)
           exact ⟨⟨[_], tm, rfl⟩, tv⟩
          ·refine Al (Ak Ay rfl (qm rfl (Bm rfl (qe rfl ?_))))
           exact sn [] h
         ·refine AZ ?_
          exact sn [] h
        ·refine Ae hs (Ak Ay rfl (qm rfl (Bm rfl (qe rfl ?_))))
         exact sn [] h
    ·refine AZ ?_
     exact sn [] h
   ·refine Ae hs (wq rfl (qe rfl ?_))
    obtain rfl := sj h
    refine Ae (sm [] [(2, bD true)] [] rfl rfl) (Ao ?_)
    exact ⟨⟨[_], tm, rfl⟩, tv⟩
theorem FG (N : Nat) (p0 : Ab) (p1 : List Ac) (r : Bool) (h : Bq N p0 p1 = some r) : Ap Tryd.prog 4 [.e (.agg (Ai p0)), pD (.sl (p1.map Ag))] [] (bD r) := by
 unfold Bq at h
 refine cw (n := 98) (rs := [.tmp 4]) Tryd.func4 fun w0 S0 => ?_
 refine wq rfl (qb rfl (qa rfl (Aa (wq rfl (qL B5 BU rfl ?_)))))
 refine By h fun v1 a1 h => Aq [] (Dx N p0 v1 a1) PZ rfl (qa rfl (Aa (AB ?_)))
 refine AO h (fun v2 => mk [(1, pD (.sl (p1.map Ag))), (2, oD (.ptr 2 0)), (5, iD v1), (31, bD v2)] [(2, .box (Ai p0))]) (fun j2 h => ?_) (fun v2 h => ?_)
 ·refine Ak Ay rfl ?_
  refine By h fun v3 a3 h => Aq [] (E8 N v3 a3) Ry rfl (BJ rfl (qm rfl ?_))
  refine CR 18 h rfl (fun h => ?_) fun h => ?_
  ·refine qw 3 rfl (qp rfl (qw 4 rfl (qp rfl (qw 3 rfl (qp rfl (Aa ?_))))))
   exact sn [] h
  ·refine qL B5 BU rfl ?_
   refine By h fun v5 a5 h => Aq [] (HF N p0 v5 a5) QK rfl (BJ rfl (qp rfl (qm rfl ?_)))
   refine CR 23 h rfl (fun h => ?_) fun h => ?_
   ·refine qw 3 rfl (qp rfl (qw 3 rfl (qp rfl (Aa ?_))))
    exact sn [] h
   ·refine qm rfl (Aw A6 rfl (C0 rfl (qp rfl (qm rfl ?_))))
    refine CR 28 h rfl (fun h => ?_) fun h => ?_
    ·refine qw 2 rfl (qp rfl (Aa ?_))
     exact sn [] h
    ·refine qm rfl (Bf rfl (qp rfl (Aa ?_)))
     exact sn [] h
 ·refine Ba h (fun h => ?_) fun h => ?_
  ·refine wq rfl ?_
   refine By h fun v9 a9 h => Aq [] (E8 N v9 a9) Ry rfl (qe rfl ?_)
   obtain rfl := sj h
   refine Ae (sm [] [(4, bD v9)] [] rfl rfl) (Ao ?_)
   exact ⟨⟨[_], tm, rfl⟩, tv⟩
  ·refine Al (wq rfl (qL B5 BU rfl (Bb Cj Gf rfl (qm rfl ?_))))
   refine By h fun v10 a10 h => Aq [] (Ff N p0 ((Ah.mk (([] : List Int)) (([] : List Int)) (([] : List Int)))) p1 v10 a10) QB rfl (qm rfl (qx rfl (qx rfl (qa rfl (qa rfl (Aa (wq rfl (qL B5 BU rfl (qm rfl ?_)))))))))
   refine By h fun v11 a11 h => Aq [2001] (Jm N p0 p1 v11 a11) PW rfl (qm rfl (qx rfl (qx rfl (qa rfl (qa rfl (Aa (wq rfl (qL B5 BU rfl (Bb Cj Gf rfl (qm rfl ?_))))))))))
   refine By h fun v12 a12 h => Aq [] (G5 N p0 ((Ah.mk (([] : List Int)) (([] : List Int)) (([] : List Int)))) p1 v12 a12) O6 rfl (qm rfl (qx rfl (qx rfl (qa rfl (qa rfl (Aa (wq rfl (qL B5 BU rfl (qm rfl (Fa FE Km Ny rfl (C4 (A0 56 _ _ rfl rfl) ?_)))))))))))
   refine By h fun v13 a13 h => Aq [2002] (FX N p0 (([p1] : List (List Ac))) v13 a13) Pe rfl (qm rfl (qx rfl (qx rfl (qa rfl (qe rfl ?_)))))
   refine AO h (fun v14 => mk [(4, bD v14)] []) (fun j14 h => ?_) (fun v14 h => ?_)
   ·refine Ak Ay rfl (qw 2 rfl (Bf rfl (qm rfl ?_)))
    refine CR 63 h rfl (fun h => ?_) fun h => ?_
    ·refine qw 2 rfl (Bf rfl (qp rfl (qm rfl ?_)))
     refine CR 68 h rfl (fun h => ?_) fun h => ?_
     ·refine qw 2 rfl (Bf rfl (qp rfl (qm rfl ?_)))
      refine CR 73 h rfl (fun h => ?_) fun h => ?_
      ·refine qw 2 rfl (Bf rfl (qp rfl (qm rfl ?_)))
       refine CR 78 h rfl (fun h => ?_) fun h => ?_
       ·refine qm rfl (BJ rfl (qp rfl (qm rfl ?_)))
        refine CR 82 h rfl (fun h => ?_) fun h => ?_
        ·refine qm rfl (Fz FE rfl (qm rfl (Aw A6 rfl (Bm rfl (qm rfl (Fz FH rfl (Bm rfl (Bf rfl (qp rfl (qm rfl ?_))))))))))
         refine CR 93 h rfl (fun h => ?_) fun h => ?_
         ·refine qL B5 BU rfl ?_
          refine By h fun v21 a21 h => Aq [] (Hi N p0 (([] : List (List Ac))) v21 a21) Qy rfl (BJ rfl (qp rfl (qe rfl ?_)))
          exact sn [] h
         ·refine qw 3 rfl (qp rfl (qe rfl ?_))
          exact sn [] h
        ·refine qw 9 rfl (qp rfl (qw 4 rfl (qp rfl (qe rfl ?_))))
         exact sn [] h
       ·refine qw 2 rfl (qp rfl (qw 10 rfl (qp rfl (qw 4 rfl (qp rfl (qe rfl ?_))))))
        exact sn [] h
      ·refine qw 3 rfl (qp rfl (qw 3 rfl (qp rfl (qw 10 rfl (qp rfl (qw 4 rfl (qp rfl (qe rfl ?_))))))))
       exact sn [] h
     ·refine qw 3 rfl (qp rfl (qw 4 rfl (qp rfl (qw 3 rfl (qp rfl (qw 10 rfl (qp rfl (qw 4 rfl (qp rfl (qe rfl ?_))))))))))
      exact sn [] h
    ·refine qw 3 rfl (qp rfl (qw 4 rfl (qp rfl (qw 4 rfl (qp rfl (qw 3 rfl (qp rfl (qw 10 rfl (qp rfl (qw 4 rfl (qp rfl (qe rfl ?_))))))))))))
     exact sn [] h
   ·obtain rfl := sj h
    refine Ae (sm [] [(4, bD v14)] [] rfl rfl) (Ao ?_)
    exact ⟨⟨[_], tm, rfl⟩, tv⟩
end Go.Lift
