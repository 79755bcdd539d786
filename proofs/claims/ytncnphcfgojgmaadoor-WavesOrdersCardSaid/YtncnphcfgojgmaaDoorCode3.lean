/- Lemmas for WavesOrdersCardSaid, which YtncnphcfgojgmaaDoorFinV7 proves. -/
import Derived.Test.YtncnphcfgojgmaaDoorSh
import Derived.Test.YtncnphcfgojgmaaDoorProg
import Derived.KernelRfl
namespace Go.Lift
open Go.RowKit
open Go.Proofs
abbrev B5 (x : Ab) : List C := [iC x.fe, iC x.fg, iC x.fh]
abbrev A1 (x : AA) : List C := [iC x.fe, iC x.fi, iC x.fo, .pure (.val (.bool x.fq)), sC (x.fj.map (Fl eB)), sC (x.fk.map (Fl eB))]
abbrev Al (x : Ag) : List C := [sC (x.ff.map An), sC (x.fm.map An), sC (x.fp.map An), sC (x.fc.map AK)]
abbrev Az (x : Ah) : List C := [sC (x.fb.map An), sC (x.fa.map An), sC (x.fd.map BW)]
abbrev D2 (x : Ar) : List C := [iC x.fr, iC x.ft, iC x.fu]
theorem Ax : Tryd.prog.follows .mixedOrders = true := by kernel_rfl
theorem wq {X : ER} {y : Code} {id : Nat} {ops : Array Oper} {dr : Bool} {Q : Exit → St → Prop} {st : St} {n : Nat} (hn : ops.size = n) (h : AG Tryd.prog X ops dr (fun st' => W Tryd.prog X y Q st') n 0 st []) : W Tryd.prog X (.seq (.region id ops dr) y) Q st := Qm Ax hn h
theorem wp {X : ER} {y z : Code} {id : Nat} {ops : Array Oper} {dr : Bool} {Q : Exit → St → Prop} {st : St} {n : Nat} (hn : ops.size = n) (h : AG Tryd.prog X ops dr (fun st' => W Tryd.prog X y (Ji (W Tryd.prog X z Q) Q) st') n 0 st []) : W Tryd.prog X (.seq (.seq (.region id ops dr) y) z) Q st := AC (Qm Ax hn h)
theorem KH : CL Tryd.prog 28 false = true := by kernel_rfl
theorem A8 : CL Tryd.prog 29 false = true := by kernel_rfl
theorem BR : CL Tryd.prog 3 false = true := by kernel_rfl
theorem GT : CL Tryd.prog 30 false = true := by kernel_rfl
theorem Cf : CL Tryd.prog 32 true = true := by kernel_rfl
theorem Hq : CL Tryd.prog 36 false = true := by kernel_rfl
theorem A3 : CL Tryd.prog 38 true = true := by kernel_rfl
theorem Nk : CL Tryd.prog 4 false = true := by kernel_rfl
theorem EN : CL Tryd.prog 44 true = true := by kernel_rfl
theorem Qw : CL Tryd.prog 5 false = true := by kernel_rfl
theorem Ho : CL Tryd.prog 64 false = true := by kernel_rfl
theorem GR : CL Tryd.prog 66 true = true := by kernel_rfl
theorem Kt : CL Tryd.prog 75 false = true := by kernel_rfl
theorem Lj : CL Tryd.prog 79 false = true := by kernel_rfl
theorem Qy : CL Tryd.prog 9 false = true := by kernel_rfl
theorem Id : CL Tryd.prog 93 true = true := by kernel_rfl
theorem NA : Dl Tryd.prog 28 24 = true := by kernel_rfl
theorem Mk : Dl Tryd.prog 3 8 = true := by kernel_rfl
theorem Nz : Dl Tryd.prog 38 72 = true := by kernel_rfl
theorem Ma : Dl Tryd.prog 44 24 = true := by kernel_rfl
theorem LQ : Dl Tryd.prog 75 1 = true := by kernel_rfl
theorem Nw : Dl Tryd.prog 93 24 = true := by kernel_rfl
theorem Bz : Cl Tryd.prog 32 0 0 = true := by kernel_rfl
theorem Es : Cl Tryd.prog 32 1 1 = true := by kernel_rfl
theorem GK : Cl Tryd.prog 32 2 2 = true := by kernel_rfl
theorem Cx : Cl Tryd.prog 32 3 3 = true := by kernel_rfl
theorem Cz : Cl Tryd.prog 38 0 0 = true := by kernel_rfl
theorem BQ : Cl Tryd.prog 38 1 1 = true := by kernel_rfl
theorem CK : Cl Tryd.prog 38 2 2 = true := by kernel_rfl
theorem D8 : Cl Tryd.prog 44 0 0 = true := by kernel_rfl
theorem Dg : Cl Tryd.prog 44 1 1 = true := by kernel_rfl
theorem FW : Cl Tryd.prog 44 2 2 = true := by kernel_rfl
theorem DD : Cl Tryd.prog 66 0 0 = true := by kernel_rfl
theorem CP : Cl Tryd.prog 66 1 1 = true := by kernel_rfl
theorem GM : Cl Tryd.prog 66 2 2 = true := by kernel_rfl
theorem Ig : Cl Tryd.prog 66 3 3 = true := by kernel_rfl
theorem Ih : Cl Tryd.prog 66 4 4 = true := by kernel_rfl
theorem Er : Cl Tryd.prog 66 5 5 = true := by kernel_rfl
theorem PF : Au Tryd.prog 10 = true := by kernel_rfl
theorem P1 : Au Tryd.prog 12 = true := by kernel_rfl
theorem OZ : Au Tryd.prog 13 = true := by kernel_rfl
theorem Pd : Au Tryd.prog 14 = true := by kernel_rfl
theorem PA : Au Tryd.prog 15 = true := by kernel_rfl
theorem OS : Au Tryd.prog 16 = true := by kernel_rfl
theorem P7 : Au Tryd.prog 17 = true := by kernel_rfl
theorem Ov : Au Tryd.prog 19 = true := by kernel_rfl
theorem PK : Au Tryd.prog 21 = true := by kernel_rfl
theorem Pz : Au Tryd.prog 22 = true := by kernel_rfl
theorem PZ : Au Tryd.prog 23 = true := by kernel_rfl
theorem O5 : Au Tryd.prog 24 = true := by kernel_rfl
theorem M4 : Au Tryd.prog 27 = true := by kernel_rfl
theorem PT : Au Tryd.prog 28 = true := by kernel_rfl
theorem NP : Au Tryd.prog 29 = true := by kernel_rfl
theorem Qg : Au Tryd.prog 30 = true := by kernel_rfl
theorem MJ : Au Tryd.prog 31 = true := by kernel_rfl
theorem M2 : Au Tryd.prog 32 = true := by kernel_rfl
theorem NQ : Au Tryd.prog 33 = true := by kernel_rfl
theorem Qj : Au Tryd.prog 34 = true := by kernel_rfl
theorem OT : Au Tryd.prog 35 = true := by kernel_rfl
theorem P5 : Au Tryd.prog 36 = true := by kernel_rfl
theorem PW : Au Tryd.prog 37 = true := by kernel_rfl
theorem Oe : Au Tryd.prog 38 = true := by kernel_rfl
theorem O8 : Au Tryd.prog 39 = true := by kernel_rfl
theorem N4 : Au Tryd.prog 40 = true := by kernel_rfl
theorem NM : Au Tryd.prog 41 = true := by kernel_rfl
theorem O9 : Au Tryd.prog 42 = true := by kernel_rfl
theorem LP : Au Tryd.prog 43 = true := by kernel_rfl
theorem P3 : Au Tryd.prog 44 = true := by kernel_rfl
theorem Qc : Au Tryd.prog 45 = true := by kernel_rfl
theorem OP : Au Tryd.prog 46 = true := by kernel_rfl
theorem NS : Au Tryd.prog 47 = true := by kernel_rfl
theorem PP : Au Tryd.prog 48 = true := by kernel_rfl
theorem PE : Au Tryd.prog 49 = true := by kernel_rfl
theorem PV : Au Tryd.prog 50 = true := by kernel_rfl
theorem PG : Au Tryd.prog 51 = true := by kernel_rfl
theorem OD : Au Tryd.prog 52 = true := by kernel_rfl
theorem Pt : Au Tryd.prog 53 = true := by kernel_rfl
theorem MS : Au Tryd.prog 54 = true := by kernel_rfl
theorem Qf : Au Tryd.prog 55 = true := by kernel_rfl
theorem PC : Au Tryd.prog 56 = true := by kernel_rfl
theorem PY : Au Tryd.prog 57 = true := by kernel_rfl
theorem PS : Au Tryd.prog 58 = true := by kernel_rfl
theorem Pq : Au Tryd.prog 59 = true := by kernel_rfl
theorem PD : Au Tryd.prog 60 = true := by kernel_rfl
theorem PH : Au Tryd.prog 61 = true := by kernel_rfl
theorem Qh : Au Tryd.prog 62 = true := by kernel_rfl
theorem O0 : Au Tryd.prog 63 = true := by kernel_rfl
theorem Ps : Au Tryd.prog 64 = true := by kernel_rfl
theorem Pj : Au Tryd.prog 65 = true := by kernel_rfl
theorem P0 : Au Tryd.prog 66 = true := by kernel_rfl
theorem PO : Au Tryd.prog 67 = true := by kernel_rfl
theorem PR : Au Tryd.prog 68 = true := by kernel_rfl
theorem Pn : Au Tryd.prog 69 = true := by kernel_rfl
theorem Qk : Au Tryd.prog 7 = true := by kernel_rfl
theorem Pb : Au Tryd.prog 70 = true := by kernel_rfl
theorem PM : Au Tryd.prog 71 = true := by kernel_rfl
theorem PJ : Au Tryd.prog 72 = true := by kernel_rfl
theorem Qe : Au Tryd.prog 73 = true := by kernel_rfl
theorem PN : Au Tryd.prog 74 = true := by kernel_rfl
theorem P8 : Au Tryd.prog 75 = true := by kernel_rfl
theorem Oy : Au Tryd.prog 76 = true := by kernel_rfl
theorem Ph : Au Tryd.prog 78 = true := by kernel_rfl
theorem Pe : Au Tryd.prog 79 = true := by kernel_rfl
theorem P9 : Au Tryd.prog 80 = true := by kernel_rfl
theorem PQ : Au Tryd.prog 81 = true := by kernel_rfl
theorem Po : Au Tryd.prog 82 = true := by kernel_rfl
theorem Pp : Au Tryd.prog 83 = true := by kernel_rfl
theorem Qd : Au Tryd.prog 84 = true := by kernel_rfl
theorem Pr : Au Tryd.prog 86 = true := by kernel_rfl
theorem Oz : Au Tryd.prog 87 = true := by kernel_rfl
theorem Py : Au Tryd.prog 88 = true := by kernel_rfl
theorem Pu : Au Tryd.prog 89 = true := by kernel_rfl
theorem P2 : Au Tryd.prog 9 = true := by kernel_rfl
theorem Qi : Au Tryd.prog 94 = true := by kernel_rfl
theorem KO : JA Tryd.prog 110 .u64 = true := by kernel_rfl
theorem K4 : JA Tryd.prog 123 .u32 = true := by kernel_rfl
theorem Nv : JA Tryd.prog 126 .u64 = true := by kernel_rfl
theorem Qn : JA Tryd.prog 3 .i64 = true := by kernel_rfl
theorem P4 : FU Tryd.prog 32 = some [(0, 1), (1, 1), (2, 1), (3, 1)] := by kernel_rfl
theorem GB : FU Tryd.prog 38 = some [(0, 1), (1, 1), (2, 1)] := by kernel_rfl
theorem Nh : FU Tryd.prog 44 = some [(0, 1), (1, 1), (2, 1)] := by kernel_rfl
theorem Kn : FU Tryd.prog 93 = some [(0, 1), (1, 1), (2, 1)] := by kernel_rfl
theorem NE : LI Tryd.prog 44 = some [0, 0, 0] := by kernel_rfl
theorem GF : sliceB Tryd.prog 114 93 = true := by kernel_rfl
theorem Lz : sliceB Tryd.prog 132 9 = true := by kernel_rfl
theorem LE : sliceB Tryd.prog 22 5 = true := by kernel_rfl
theorem AV : sliceB Tryd.prog 28 44 = true := by kernel_rfl
theorem Ay : sliceB Tryd.prog 29 3 = true := by kernel_rfl
theorem Dz : sliceB Tryd.prog 30 66 = true := by kernel_rfl
theorem C0 : sliceB Tryd.prog 36 75 = true := by kernel_rfl
theorem Ef : sliceB Tryd.prog 48 28 = true := by kernel_rfl
theorem FT : sliceB Tryd.prog 53 38 = true := by kernel_rfl
theorem E9 : sliceB Tryd.prog 64 79 = true := by kernel_rfl
theorem IG : sliceB Tryd.prog 79 4 = true := by kernel_rfl
theorem LL : (Tryd.prog.underlying 110).isSome = true := by kernel_rfl
theorem KQ : (Tryd.prog.underlying 123).isSome = true := by kernel_rfl
theorem Nr : (Tryd.prog.underlying 126).isSome = true := by kernel_rfl
theorem Ql : (Tryd.prog.underlying 3).isSome = true := by kernel_rfl
theorem Qs : (Tryd.prog.underlying 5).isSome = true := by kernel_rfl
theorem Qa : KZ Tryd.prog 9 = true := by kernel_rfl
theorem IL : Ep Tryd.prog 28 1 = true := by kernel_rfl
theorem OU : Ep Tryd.prog 29 1 = true := by kernel_rfl
theorem Db : Ep Tryd.prog 3 1 = true := by kernel_rfl
theorem B0 : Ep Tryd.prog 32 4 = true := by kernel_rfl
theorem P6 : Ep Tryd.prog 36 1 = true := by kernel_rfl
theorem AD : Ep Tryd.prog 38 3 = true := by kernel_rfl
theorem Pl : Ep Tryd.prog 4 1 = true := by kernel_rfl
theorem BB : Ep Tryd.prog 44 3 = true := by kernel_rfl
theorem Qq : Ep Tryd.prog 5 1 = true := by kernel_rfl
theorem DJ : Ep Tryd.prog 66 6 = true := by kernel_rfl
theorem FX : Ep Tryd.prog 75 1 = true := by kernel_rfl
theorem Li : Ep Tryd.prog 79 1 = true := by kernel_rfl
theorem Qo : Ep Tryd.prog 9 1 = true := by kernel_rfl
theorem DT : Ep Tryd.prog 93 3 = true := by kernel_rfl
theorem K8 : Ck Tryd.prog 28 = some (.slice none 0 0) := by kernel_rfl
theorem K6 : Ck Tryd.prog 3 = some (.int .i64 0) := by kernel_rfl
theorem Mt : Ck Tryd.prog 32 = some (.agg #[.slice none 0 0, .slice none 0 0, .slice none 0 0, .slice none 0 0]) := by kernel_rfl
theorem Cc : Ck Tryd.prog 38 = some (.agg #[.slice none 0 0, .slice none 0 0, .slice none 0 0]) := by kernel_rfl
theorem GQ : Ck Tryd.prog 44 = some (.agg #[.int .i64 0, .int .i64 0, .int .i64 0]) := by kernel_rfl
theorem Lf : Ck Tryd.prog 66 = some (.agg #[.int .i64 0, .int .i64 0, .int .i64 0, .bool false, .slice none 0 0, .slice none 0 0]) := by kernel_rfl
theorem L8 : Ck Tryd.prog 75 = some (.int .u8 0) := by kernel_rfl
theorem Qr : Ck Tryd.prog 9 = some (.string ⟨#[]⟩) := by kernel_rfl
theorem Ge : Ck Tryd.prog 93 = some (.agg #[.int .i64 0, .int .i64 0, .int .i64 0]) := by kernel_rfl
open IntKind renaming wrap → wI
set_option maxRecDepth 10000
theorem Gj (N : Nat) (r : Ag × (List Ab)) (h : CM N = some r) : Ap Tryd.prog 21 [] [(1, r.1.ff.map An), (1, r.1.fm.map An), (1, r.1.fp.map An), (3, r.2.map Af)] (.tup [.agg [.own 0, .own 1, .own 2, sC (r.1.fc.map AK)], .one (.own 3)]) := by
 unfold CM at h
 refine cw (n := 13) (rs := [.cell 0 32, .tmp 1]) Tryd.func21 fun w0 S0 => ?_
 refine wq rfl (qz Mt rfl (qa rfl (Aa (wq rfl (EO Ay Db K6 rfl (EO Ay Db K6 rfl (EO Ay Db K6 rfl (A4 Mt P4 rfl (qz Mt rfl (qs B0 rfl (Aa (wq rfl (qL Cf B0 rfl (A4 GQ Nh rfl (A4 GQ Nh rfl (A4 GQ Nh rfl (A4 GQ Nh rfl (EO AV BB GQ rfl (qs B0 rfl (qe rfl ?_))))))))))))))))))))
 obtain rfl := sj h
 refine Ad ((Dh 0 _ rfl).trans (sm [(1000, 3), (1001, 4), (1002, 5), (1003, 12)] [(0, oD (.ptr 0 0)), (1, oD (.own 1003))] [(0, .box [.own 1000, .own 1001, .own 1002, sC ((([] : List AA)).map AK)]), (1000, .vec 1 ((([2, 2] : List Int)).map An)), (1001, .vec 1 ((([0, 0] : List Int)).map An)), (1002, .vec 1 ((([1, 1] : List Int)).map An)), (1003, .vec 3 ((([(Ab.mk 1 0 1), (Ab.mk 1 1 1), (Ab.mk 2 0 0), (Ab.mk 2 1 0)] : List Ab)).map Af))] rfl rfl)) (Ao ?_)
 exact ⟨⟨[_, _], ⟨.cellN _ _ _ _ _ _ _ rfl rfl Cf B0 rfl rfl (Gf rfl), tm⟩, rfl⟩, ⟨rfl, rfl, rfl, rfl, tv⟩⟩
theorem DY (N : Nat) (p0 : Int) (p1 : Int) (r : Bool) (h : Cm N p0 p1 = some r) : Ap Tryd.prog 54 [iD p0, iD p1] [] (bD r) := by
 unfold Cm at h
 refine cw (n := 12) (rs := [.tmp 4]) Tryd.func54 fun w0 S0 => ?_
 refine wq rfl (qe rfl ?_)
 refine AM h (fun v1 => mk [(4, bD v1)] []) (fun j1 h => ?_) (fun v1 h => ?_)
 ·refine Ai Ax rfl (qm rfl (EC rfl (qm rfl ?_)))
  refine CV 7 h rfl (fun h => ?_) fun h => ?_
  ·refine qw 2 rfl (AS rfl (qp rfl (qe rfl ?_)))
   exact sn [] h
  ·refine qw 3 rfl (qp rfl (qe rfl ?_))
   exact sn [] h
 ·obtain rfl := sj h
  refine Ad (sm [] [(4, bD v1)] [] rfl rfl) (Ao ?_)
  exact ⟨⟨[_], tm, rfl⟩, tv⟩
theorem Jr (N : Nat) (p0 : Int) (p1 : Bool) (r : Bool) (h : FE N p0 p1 = some r) : Ap Tryd.prog 69 [iD p0, bD p1] [] (bD r) := by
 unfold FE at h
 refine cw (n := 23) (rs := [.tmp 4]) Tryd.func69 fun w0 S0 => ?_
 refine wq rfl (qe rfl ?_)
 refine AM h (fun v1 => mk [(4, bD v1)] []) (fun j1 h => ?_) (fun v1 h => ?_)
 ·refine Ai Ax rfl (qm rfl (Be rfl (qm rfl ?_)))
  refine CV 7 h rfl (fun h => ?_) fun h => ?_
  ·refine qw 2 rfl (qp rfl (qw 4 rfl (qu rfl (qu rfl (qw 2 rfl (qu rfl (qu rfl (qn rfl (qp rfl (qe rfl ?_))))))))))
   exact sn [] h
  ·refine qm rfl (Be rfl (qp rfl (qm rfl ?_)))
   refine CV 11 h rfl (fun h => ?_) fun h => ?_
   ·refine qw 3 rfl (qu rfl (qu rfl (qw 2 rfl (qu rfl (qu rfl (qn rfl (qp rfl (qe rfl ?_))))))))
    exact sn [] h
   ·refine qm rfl (Be rfl (qm rfl ?_))
    refine CV 14 h rfl (fun h => ?_) fun h => ?_
    ·refine qw 2 rfl (qp rfl (qw 2 rfl (BJ rfl (qp rfl (qp rfl (qe rfl ?_))))))
     exact sn [] h
    ·refine qm rfl (Be rfl (qp rfl (qm rfl ?_)))
     refine CV 18 h rfl (fun h => ?_) fun h => ?_
     ·refine qm rfl (BJ rfl (qp rfl (qp rfl (qe rfl ?_))))
      exact sn [] h
     ·refine qw 2 rfl (qp rfl (qp rfl (qe rfl ?_)))
      exact sn [] h
 ·obtain rfl := sj h
  refine Ad (sm [] [(4, bD v1)] [] rfl rfl) (Ao ?_)
  exact ⟨⟨[_], tm, rfl⟩, tv⟩
theorem HF (N : Nat) (p0 : List Bool) (p1 : Int) (r : Bool) (h : Cq N p0 p1 = some r) : Ap Tryd.prog 81 [pD (.sl (p0.map eB)), oD (.rop [.val (.int .i64 p1)])] [] (bD r) := by
 unfold Cq at h
 refine cw (n := 8) (rs := [.tmp 3]) Tryd.func81 fun w0 S0 => ?_
 refine wq rfl (qa rfl (Aa (wq rfl (qm rfl (Aw IG rfl (qk BR rfl (Bb rfl (qe rfl ?_))))))))
 obtain rfl := sj h
 refine Ad (sm [] [(3, bD (((p0.length : Int) != p1)))] [] rfl rfl) (Ao ?_)
 exact ⟨⟨[_], tm, rfl⟩, tv⟩
theorem EH (N : Nat) (p0 : List (List Bool)) (p1 : (List Bool) → Option Bool) (r : Int) (h : BV N p0 p1 = some r) : Ap Tryd.prog 86 [pD (.sl (p0.map (Fl eB))), oD (.clo (IC (Lu false (Fl eB)) tB p1))] [] (iD r) := by
 unfold BV at h
 refine cw (n := 19) (rs := [.tmp 4]) Tryd.func86 fun w0 S0 => ?_
 refine wq rfl (qa rfl (Aa (wp rfl (qm rfl (Aw E9 rfl (qm rfl (Aa ?_)))))))
 refine AE (L := A6 N p0 p1) h (fun v1 => mk [(0, pD (.sl (p0.map (Fl eB)))), (1, oD (.clo (IC (Lu false (Fl eB)) tB p1))), (7, iD ((p0.length : Int))), (8, iD v1)] []) (fun v2 => mk [] []) (fun _ _ => rfl) (sm [] _ _ rfl rfl) (fun j1 n1 v1 h => ?_) (fun v2 s h hs => ?_)
 ·unfold A6 at h
  refine wq rfl (AS rfl (Aa (AC ?_)))
  refine A0 h (fun h => ?_) fun h => ?_
  ·refine Aj (AC (AJ (wq rfl (qm rfl (qa rfl (Aa (wq rfl (qw 3 rfl ?_))))))))
   refine B6 h fun v4 a4 b4 h => qi E9 Li a4 (Ak b4) rfl (qk Lj rfl ?_)
   refine Bp h fun v5 a5 h => K0 (ds0 := [_]) (ar := (Lu false (Fl eB)) v4) (.p rfl) rfl rfl ⟨rfl, tv⟩ rfl rfl rfl (KY (K7 _ _ (O4 Qb)) a5) ?_
   refine Aa ?_
   refine A0 h (fun h => ?_) fun h => ?_
   ·refine wq rfl (qm rfl (qe rfl ?_))
    obtain rfl := sj h
    refine Ad (sm [] [(4, iD v1)] [] rfl rfl) (Ao ?_)
    exact ⟨⟨[_], tm, rfl⟩, tv⟩
   ·refine Aj (Ai Ax rfl (Bf rfl (qm rfl (Aa ?_))))
    exact sn [] h
  ·refine AR ?_
   exact sn [] h
 ·refine Ad hs (wq rfl (qe rfl ?_))
  obtain rfl := sj h
  refine Ad (sm [] [(4, iD ((-1)))] [] rfl rfl) (Ao ?_)
  exact ⟨⟨[_], tm, rfl⟩, tv⟩
theorem Eb (N : Nat) (p0 : List (List Bool)) (p1 : (List Bool) → Option Bool) (r : Bool) (h : By N p0 p1 = some r) : Ap Tryd.prog 80 [pD (.sl (p0.map (Fl eB))), oD (.clo (IC (Lu false (Fl eB)) tB p1))] [] (bD r) := by
 unfold By at h
 refine cw (n := 9) (rs := [.tmp 4]) Tryd.func80 fun w0 S0 => ?_
 refine wq rfl (qa rfl (Aa (wq rfl (qw 2 rfl ?_))))
 refine Bp h fun v1 a1 h => Aq [] (EH N p0 p1 v1 a1) Pr rfl (EC rfl (qe rfl ?_))
 obtain rfl := sj h
 refine Ad (sm [] [(4, bD ((decide (0 ≤ v1))))] [] rfl rfl) (Ao ?_)
 exact ⟨⟨[_], tm, rfl⟩, tv⟩
theorem Gt (N : Nat) (p0 : List (List Bool)) (p1 : Int) (p2 : Int) (r : Bool) (h : DA N p0 p1 p2 = some r) : Ap Tryd.prog 70 [pD (.sl (p0.map (Fl eB))), iD p1, iD p2] [] (bD r) := by
 unfold DA at h
 refine cw (n := 17) (rs := [.tmp 6]) Tryd.func70 fun w0 S0 => ?_
 refine wq rfl (qb rfl (qe rfl ?_))
 refine AM h (fun v1 => mk [(6, bD v1)] []) (fun j1 h => ?_) (fun v1 h => ?_)
 ·refine Ai Ax rfl (qm rfl (Aw E9 rfl (qm rfl (Be rfl (qm rfl ?_)))))
  refine CV 11 h rfl (fun h => ?_) fun h => ?_
  ·refine qm rfl (CI (Hj 5 [.val (.int .i64 p2)] rfl rfl) ?_)
   refine Kx (capD := [_]) (IC (Lu false (Fl eB)) tB ((fun (x : List Bool) => Cq N x p2))) (.g rfl rfl) PQ rfl ⟨rfl, tv⟩ rfl (fun ar t ht => by obtain ⟨x, r, rfl, hq, rfl⟩ := Jb ht; exact HF N x p2 r hq) ?_
   refine Bp h fun v3 a3 h => Aq [] (Eb N p0 ((fun (x : List Bool) => Cq N x p2)) v3 a3) P9 rfl (BJ rfl (qp rfl (qe rfl ?_)))
   exact sn [] h
  ·refine qw 4 rfl (qp rfl (qe rfl ?_))
   exact sn [] h
 ·obtain rfl := sj h
  refine Ad (sm [] [(6, bD v1)] [] rfl rfl) (Ao ?_)
  exact ⟨⟨[_], tm, rfl⟩, tv⟩
theorem IT (N : Nat) (p0 : Ag) (p1 : AA) (r : Int) (h : Fc N p0 p1 = some r) : Ap Tryd.prog 55 [.e (.agg (Al p0)), .e (.agg (A1 p1))] [] (iD r) := by
 unfold Fc at h
 refine cw (n := 87) (rs := [.tmp 4]) Tryd.func55 fun w0 S0 => ?_
 refine wq rfl (qb rfl (qb rfl (qa rfl (Aa (wp rfl (qf DD rfl (ql BR rfl (qf Ig rfl (ql Nk rfl ?_)))))))))
 refine Bp h fun v1 a1 h => Aq [] (Jr N p1.fe p1.fq v1 a1) Pn rfl (BJ rfl (Aa ?_))
 refine A0 h (fun h => ?_) fun h => ?_
 ·refine wq rfl (qe rfl ?_)
  obtain rfl := sj h
  refine Ad (sm [] [(4, iD 1)] [] rfl rfl) (Ao ?_)
  exact ⟨⟨[_], tm, rfl⟩, tv⟩
 ·refine Aj (AC ?_)
  refine AM h (fun v3 => mk [(2, oD (.ptr 2 0)), (3, oD (.ptr 3 0)), (29, bD v3)] [(2, .box (Al p0)), (3, .box (A1 p1))]) (fun j3 h => ?_) (fun v3 h => ?_)
  ·refine Ai Ax rfl (qf CP rfl (ql BR rfl (qf Bz rfl (ql A8 rfl (Aw Ay rfl ?_)))))
   refine Bp h fun v4 a4 h => Aq [] (DY N p1.fi ((p0.ff.length : Int)) v4 a4) MS rfl (BJ rfl (qm rfl ?_))
   refine CV 21 h rfl (fun h => ?_) fun h => ?_
   ·refine qw 7 rfl (qp rfl (Aa ?_))
    exact sn [] h
   ·refine qf GM rfl (ql BR rfl (qf Bz rfl (ql A8 rfl (Aw Ay rfl ?_))))
    refine Bp h fun v6 a6 h => Aq [] (DY N p1.fo ((p0.ff.length : Int)) v6 a6) MS rfl (BJ rfl (qp rfl (Aa ?_)))
    exact sn [] h
  ·refine A0 h (fun h => ?_) fun h => ?_
   ·refine wq rfl (qe rfl ?_)
    obtain rfl := sj h
    refine Ad (sm [] [(4, iD 4)] [] rfl rfl) (Ao ?_)
    exact ⟨⟨[_], tm, rfl⟩, tv⟩
   ·refine Aj (wq rfl (qf Bz rfl (ql A8 rfl (qf CP rfl (ql BR rfl ?_)))))
    refine B6 h fun v8 a8 b8 h => qi Ay Db a8 (Ak b8) rfl (qk BR rfl (qa rfl (Aa (wq rfl (qf DD rfl (ql BR rfl (Be rfl (qa rfl (Aa (AC ?_))))))))))
    refine AM h (fun v9 => mk [(3, oD (.ptr 3 0)), (70, bD v9)] [(3, .box (A1 p1))]) (fun j9 h => ?_) (fun v9 h => ?_)
    ·refine Ai Ax rfl (qf Ih rfl (ql Ho rfl (qm rfl (qf Bz rfl (ql A8 rfl (qf GM rfl (ql BR rfl ?_)))))))
     refine B6 h fun v10 a10 b10 h => qi Ay Db a10 (Ak b10) rfl (qk BR rfl ?_)
     refine Bp h fun v11 a11 h => Aq [] (Gt N p1.fj v8 v10 v11 a11) Pb rfl (BJ rfl (qm rfl ?_))
     refine CV 50 h rfl (fun h => ?_) fun h => ?_
     ·refine qw 2 rfl (qu rfl (qu rfl (qu rfl (qu rfl (qu rfl (qu rfl (qn rfl (qp rfl (qw 4 rfl (qu rfl (qu rfl (qu rfl (qu rfl (qn rfl (qp rfl (AF (by kernel_rfl) ?_))))))))))))))))
      exact sn [] h
     ·refine qw 2 rfl ?_
      refine CV 52 h rfl (fun h => ?_) fun h => ?_
      ·refine qf Er rfl (ql Ho rfl (qw 2 rfl ?_))
       refine Bp h fun v14 a14 h => Aq [] (Gt N p1.fk v8 v8 v14 a14) Pb rfl (BJ rfl (qp rfl (qp rfl (qm rfl ?_))))
       refine CV 61 h rfl (fun h => ?_) fun h => ?_
       ·refine qw 3 rfl (qu rfl (qu rfl (qu rfl (qu rfl (qn rfl (qp rfl (AF (by kernel_rfl) ?_)))))))
        exact sn [] h
       ·refine qm rfl (BJ rfl (qm rfl ?_))
        refine CV 64 h rfl (fun h => ?_) fun h => ?_
        ·refine qf Er rfl (ql Ho rfl (Aw E9 rfl (DR rfl (qp rfl (qp rfl (AF (by kernel_rfl) ?_))))))
         exact sn [] h
        ·refine qw 4 rfl (qp rfl (qp rfl (AF (by kernel_rfl) ?_)))
         exact sn [] h
      ·refine qw 6 rfl (qp rfl (qp rfl (qw 2 rfl (BJ rfl (qm rfl ?_)))))
       refine CV 64 h rfl (fun h => ?_) fun h => ?_
       ·refine qf Er rfl (ql Ho rfl (Aw E9 rfl (DR rfl (qp rfl (qp rfl (AF (by kernel_rfl) ?_))))))
        exact sn [] h
       ·refine qw 4 rfl (qp rfl (qp rfl (AF (by kernel_rfl) ?_)))
        exact sn [] h
    ·refine A0 h (fun h => ?_) fun h => ?_
     ·refine wq rfl (qe rfl ?_)
      obtain rfl := sj h
      refine Ad (sm [] [(4, iD 6)] [] rfl rfl) (Ao ?_)
      exact ⟨⟨[_], tm, rfl⟩, tv⟩
     ·refine Aj (wp rfl (qf Er rfl (ql Ho rfl (Aw E9 rfl (qm rfl (Aa ?_))))))
      refine AE (L := CR N p1) h (fun v19 => mk [(3, oD (.ptr 3 0)), (73, iD ((p1.fk.length : Int))), (74, iD v19)] [(3, .box (A1 p1))]) (fun v20 => mk [] []) (fun _ _ => rfl) (sm [] _ _ rfl rfl) (fun j19 n19 v19 h => ?_) (fun v20 s h hs => ?_)
      ·unfold CR at h
       refine wq rfl (AS rfl (Aa (AC ?_)))
       refine A0 h (fun h => ?_) fun h => ?_
       ·refine Aj (AC (AJ (wq rfl (qm rfl (qa rfl (Aa (wq rfl (qf Er rfl (ql Ho rfl (qm rfl ?_))))))))))
        refine B6 h fun v22 a22 b22 h => qi E9 Li a22 (Ak b22) rfl (qk Lj rfl (qm rfl ?_))
        refine B6 h fun v23 a23 b23 h => qi IG Pl a23 (Ak b23) rfl (qk Nk rfl (BJ rfl (Aa ?_)))
        refine A0 h (fun h => ?_) fun h => ?_
        ·refine wq rfl (qe rfl ?_)
         obtain rfl := sj h
         refine Ad (sm [] [(4, iD 1)] [] rfl rfl) (Ao ?_)
         exact ⟨⟨[_], tm, rfl⟩, tv⟩
        ·refine Aj (Ai Ax rfl (Bf rfl (qm rfl (Aa ?_))))
         exact sn [] h
       ·refine AR ?_
        exact sn [] h
      ·refine Ad hs (wq rfl (qe rfl ?_))
       obtain rfl := sj h
       refine Ad (sm [] [(4, iD 0)] [] rfl rfl) (Ao ?_)
       exact ⟨⟨[_], tm, rfl⟩, tv⟩
theorem C7 (N : Nat) (p0 : Ag) (r : Int) (h : BL N p0 = some r) : Ap Tryd.prog 38 [.e (.agg (Al p0))] [] (iD r) := by
 unfold BL at h
 refine cw (n := 81) (rs := [.tmp 2]) Tryd.func38 fun w0 S0 => ?_
 refine wq rfl (qb rfl (qa rfl (Aa (wq rfl (qf Bz rfl (ql A8 rfl (Aw Ay rfl (qa rfl (Aa (AC ?_))))))))))
 refine AM h (fun v1 => mk [(1, oD (.ptr 1 0)), (3, iD ((p0.ff.length : Int))), (19, bD v1)] [(1, .box (Al p0))]) (fun j1 h => ?_) (fun v1 h => ?_)
 ·refine Ai Ax rfl (qm rfl (DR rfl (qm rfl ?_)))
  refine CV 14 h rfl (fun h => ?_) fun h => ?_
  ·refine qw 4 rfl (qp rfl (Aa ?_))
   exact sn [] h
  ·refine qf Cx rfl (ql GT rfl (Aw Dz rfl (DR rfl (qp rfl (Aa ?_)))))
   exact sn [] h
 ·refine A0 h (fun h => ?_) fun h => ?_
  ·refine wq rfl (qe rfl ?_)
   obtain rfl := sj h
   refine Ad (sm [] [(2, iD 3)] [] rfl rfl) (Ao ?_)
   exact ⟨⟨[_], tm, rfl⟩, tv⟩
  ·refine Aj (AC ?_)
   refine AM h (fun v4 => mk [(1, oD (.ptr 1 0)), (31, bD v4)] [(1, .box (Al p0))]) (fun j4 h => ?_) (fun v4 h => ?_)
   ·refine Ai Ax rfl (qf Es rfl (ql A8 rfl (Aw Ay rfl (qm rfl (Bb rfl (qm rfl ?_))))))
    refine CV 25 h rfl (fun h => ?_) fun h => ?_
    ·refine qw 5 rfl (qp rfl (Aa ?_))
     exact sn [] h
    ·refine qf GK rfl (ql A8 rfl (Aw Ay rfl (qm rfl (Bb rfl (qp rfl (Aa ?_))))))
     exact sn [] h
   ·refine A0 h (fun h => ?_) fun h => ?_
    ·refine wq rfl (qe rfl ?_)
     obtain rfl := sj h
     refine Ad (sm [] [(2, iD 6)] [] rfl rfl) (Ao ?_)
     exact ⟨⟨[_], tm, rfl⟩, tv⟩
    ·refine Aj (wp rfl (qf Bz rfl (ql A8 rfl (Aw Ay rfl (qm rfl (Aa ?_))))))
     refine AE (L := BS N p0) h (fun v7 => mk [(1, oD (.ptr 1 0)), (33, pD (.sl (p0.ff.map An))), (34, iD ((p0.ff.length : Int))), (35, iD v7)] [(1, .box (Al p0))]) (fun v8 => mk [(1, oD (.ptr 1 0))] [(1, .box (Al p0))]) (fun _ _ => rfl) (sm [] _ _ rfl rfl) (fun j7 n7 v7 h => ?_) (fun v8 s h hs => ?_)
     ·unfold BS at h
      refine wq rfl (AS rfl (Aa (AC ?_)))
      refine A0 h (fun h => ?_) fun h => ?_
      ·refine Aj (AC (AJ (wq rfl (qm rfl ?_))))
       refine B6 h fun v10 a10 b10 h => qi Ay Db a10 (Ak b10) rfl (qk BR rfl (qa rfl (qe rfl ?_)))
       refine AM h (fun v11 => mk [(1, oD (.ptr 1 0)), (33, pD (.sl (p0.ff.map An))), (34, iD ((p0.ff.length : Int))), (35, iD v7), (65, bD v11)] [(1, .box (Al p0))]) (fun j11 h => ?_) (fun v11 h => ?_)
       ·refine Ai Ax rfl (qm rfl (AS rfl (qm rfl ?_)))
        refine CV 42 h rfl (fun h => ?_) fun h => ?_
        ·refine qw 2 rfl (qp rfl (qw 9 rfl (qp rfl (qw 9 rfl (qp rfl (Aa ?_))))))
         exact sn [] h
        ·refine qm rfl (DR rfl (qp rfl (qm rfl ?_)))
         refine CV 46 h rfl (fun h => ?_) fun h => ?_
         ·refine qw 8 rfl (qp rfl (qw 9 rfl (qp rfl (Aa ?_))))
          exact sn [] h
         ·refine qf Es rfl (ql A8 rfl (qm rfl ?_))
          refine B6 h fun v14 a14 b14 h => qi Ay Db a14 (Ak b14) rfl (qk BR rfl (qm rfl ?_))
          refine Bp h fun v15 a15 h => Aq [] (DY N v14 v10 v15 a15) MS rfl (BJ rfl (qp rfl (qm rfl ?_)))
          refine CV 56 h rfl (fun h => ?_) fun h => ?_
          ·refine qw 8 rfl (qp rfl (Aa ?_))
           exact sn [] h
          ·refine qf GK rfl (ql A8 rfl (qm rfl ?_))
           refine B6 h fun v17 a17 b17 h => qi Ay Db a17 (Ak b17) rfl (qk BR rfl (qm rfl ?_))
           refine Bp h fun v18 a18 h => Aq [] (DY N v17 v10 v18 a18) MS rfl (BJ rfl (qp rfl (Aa ?_)))
           exact sn [] h
       ·refine A0 h (fun h => ?_) fun h => ?_
        ·refine wq rfl (qe rfl ?_)
         obtain rfl := sj h
         refine Ad (sm [] [(2, iD 7)] [] rfl rfl) (Ao ?_)
         exact ⟨⟨[_], tm, rfl⟩, tv⟩
        ·refine Aj (Ai Ax rfl (Bf rfl (qm rfl (Aa ?_))))
         exact sn [] h
      ·refine AR ?_
       exact sn [] h
     ·refine Ad hs (wp rfl (qf Cx rfl (ql GT rfl (Aw Dz rfl (qm rfl (Aa ?_))))))
      refine AE (L := BH N p0) h (fun v20 => mk [(1, oD (.ptr 1 0)), (68, pD (.sl (p0.fc.map AK))), (69, iD ((p0.fc.length : Int))), (70, iD v20)] [(1, .box (Al p0))]) (fun v21 => mk [] []) (fun _ _ => rfl) (sm [] _ _ rfl rfl) (fun j20 n20 v20 h => ?_) (fun v21 s h hs => ?_)
      ·unfold BH at h
       refine wq rfl (AS rfl (Aa (AC ?_)))
       refine A0 h (fun h => ?_) fun h => ?_
       ·refine Aj (AC (AJ (wq rfl ?_)))
        refine B6 h fun v23 a23 b23 h => qi Dz DJ a23 (Ak b23) rfl (qK GR DJ rfl (qz Lf rfl (qs DJ rfl (Aa (wq rfl (qL Cf B0 rfl (qL GR DJ rfl ?_)))))))
        refine Bp h fun v24 a24 h => Aq [] (IT N p0 v23 v24 a24) Qf rfl (qa rfl (Aa (wq rfl (qm rfl (Bb rfl (Aa ?_))))))
        refine A0 h (fun h => ?_) fun h => ?_
        ·refine wq rfl (qm rfl (qe rfl ?_))
         obtain rfl := sj h
         refine Ad (sm [] [(2, iD v24)] [] rfl rfl) (Ao ?_)
         exact ⟨⟨[_], tm, rfl⟩, tv⟩
        ·refine Aj (Ai Ax rfl (Bf rfl (qm rfl (Aa ?_))))
         exact sn [] h
       ·refine AR ?_
        exact sn [] h
      ·refine Ad hs (wq rfl (qe rfl ?_))
       obtain rfl := sj h
       refine Ad (sm [] [(2, iD 0)] [] rfl rfl) (Ao ?_)
       exact ⟨⟨[_], tm, rfl⟩, tv⟩
theorem BA (N : Nat) (p0 : List Int) (r : (List Int)) (h : AZ N p0 = some r) : Ap Tryd.prog 43 [pD (.sl (p0.map An))] [(1, r.map An)] (oD (.own 0)) := by
 unfold AZ at h
 refine cw (n := 8) (rs := [.tmp 2]) Tryd.func43 fun w0 S0 => ?_
 refine wq rfl (qa rfl (Aa (wp rfl (qm rfl ?_))))
 refine Jt (.p rfl) rfl Ay ?_
 refine Aa ?_
 refine JQ rfl (fun c2 => ?_) ?_
 ·have c2 := List.map_eq_nil_iff.1 c2
  rw [c2] at h
  have h : (some (([] : List Int))) = some r := h
  refine wq rfl (qe rfl ?_)
  obtain rfl := sj h
  refine Ad ((Bx 2 2001 1 rfl rfl rfl).trans (sm [(1000, 2001)] [(2, oD (.own 1000))] [(1000, .vec 1 ((([] : List Int)).map An))] rfl rfl)) (Ao ?_)
  exact ⟨⟨[_], tm, rfl⟩, ⟨rfl, tv⟩⟩
 ·refine Aj (wq rfl (EO Ay Db K6 rfl (qm rfl ?_)))
  refine Fu h fun c1 h => KG (f := An) Ay Ay Db Mk K6 (fun _ => rfl) c1 rfl (qe rfl ?_)
  obtain rfl := sj h
  refine Ad (sm [(1000, 7)] [(2, oD (.own 1000))] [(1000, .vec 1 (((([] : List Int)) ++ p0).map An))] rfl rfl) (Ao ?_)
  exact ⟨⟨[_], tm, rfl⟩, ⟨rfl, tv⟩⟩
theorem Hz (N : Nat) (p0 : Int) (p1 : Int) (r : Int × Int) (h : DK N p0 p1 = some r) : Ap Tryd.prog 72 [pD (.val (.int .u32 p0)), pD (.val (.int .u32 p1))] [] (.tup [.one (.pure (.val (.int .u32 r.1))), .one (.pure (.val (.int .u32 r.2)))]) := by
 unfold DK at h
 refine cw (n := 17) (rs := [.tmp 4, .tmp 5]) Tryd.func72 fun w0 S0 => ?_
 refine wq rfl (qa rfl (qa rfl (Aa (wq rfl (qm rfl (Ib KQ Nv rfl (qm rfl (Ib KQ Nv rfl (HZ rfl (qa rfl (Aa (wq rfl (qm rfl (Hn rfl (by decide) (Ib Nr K4 rfl (qm rfl (Ib Nr K4 rfl (qa rfl (qe rfl ?_)))))))))))))))))))
 obtain rfl := sj h
 refine Ad (sm [] [(4, pD (.val (.int .u32 ((wI .u32 ((Ez .u64 ((wI .u64 ((wI .u64 p0) * (wI .u64 p1)))) 32))))))), (5, pD (.val (.int .u32 ((wI .u32 ((wI .u64 ((wI .u64 p0) * (wI .u64 p1)))))))))] [] rfl rfl) (Ao ?_)
 exact ⟨⟨[_, _], ⟨.tmp _ _ rfl, tm⟩, rfl⟩, tv⟩
theorem Hm (N : Nat) (p0 : Int) (p1 : Int) (r : Int × Int) (h : DL N p0 p1 = some r) : Ap Tryd.prog 73 [pD (.val (.int .u64 p0)), pD (.val (.int .u64 p1))] [] (.tup [.one (.pure (.val (.int .u64 r.1))), .one (.pure (.val (.int .u64 r.2)))]) := by
 unfold DL at h
 refine cw (n := 51) (rs := [.tmp 4, .tmp 5]) Tryd.func73 fun w0 S0 => ?_
 refine wq rfl (qa rfl (qa rfl (Aa (wq rfl (qm rfl (Is rfl (qa rfl (Aa (wq rfl (qm rfl (Hn rfl (by decide) (qa rfl (Aa (wq rfl (qm rfl (Is rfl (qa rfl (Aa (wq rfl (qm rfl (Hn rfl (by decide) (qa rfl (Aa (wq rfl (qw 2 rfl (HZ rfl (qa rfl (Aa (wq rfl (qw 2 rfl ?_))))))))))))))))))))))))))))))
 refine HZ rfl (qm rfl (Hn rfl (by decide) (Bf rfl (qa rfl (Aa (wq rfl (qm rfl (Is rfl (qa rfl (Aa (wq rfl (qm rfl (Hn rfl (by decide) (qa rfl (Aa (wq rfl (qw 3 rfl (HZ rfl (Bf rfl (qa rfl (Aa (wq rfl (qw 2 rfl (HZ rfl (qm rfl (Bf rfl (qm rfl (Hn rfl (by decide) (Bf rfl (qa rfl (Aa (AC ?_))))))))))))))))))))))))))))))))
 refine Ai Ax rfl (qw 2 rfl (HZ rfl (qe rfl ?_)))
 obtain rfl := sj h
 refine Ad (sm [] [(4, pD (.val (.int .u64 ((wI .u64 ((wI .u64 ((wI .u64 ((Ez .u64 p0 32) * (Ez .u64 p1 32))) + (Ez .u64 ((wI .u64 ((wI .u64 ((Ez .u64 p0 32) * (EY .u64 p1 4294967295))) + (Ez .u64 ((wI .u64 ((EY .u64 p0 4294967295) * (EY .u64 p1 4294967295)))) 32)))) 32))) + (Ez .u64 ((wI .u64 ((EY .u64 ((wI .u64 ((wI .u64 ((Ez .u64 p0 32) * (EY .u64 p1 4294967295))) + (Ez .u64 ((wI .u64 ((EY .u64 p0 4294967295) * (EY .u64 p1 4294967295)))) 32)))) 4294967295) + (wI .u64 ((EY .u64 p0 4294967295) * (Ez .u64 p1 32)))))) 32))))))), (5, pD (.val (.int .u64 ((wI .u64 (p0 * p1))))))] [] rfl rfl) (Ao ?_)
 exact ⟨⟨[_, _], ⟨.tmp _ _ rfl, tm⟩, rfl⟩, tv⟩
theorem Ic (N : Nat) (p0 : Int) (p1 : Int) (r : Int × Int) (h : Ek N p0 p1 = some r) : Ap Tryd.prog 59 [pD (.val (.int .u64 p0)), pD (.val (.int .u64 p1))] [] (.tup [.one (.pure (.val (.int .u64 r.1))), .one (.pure (.val (.int .u64 r.2)))]) := by
 unfold Ek at h
 refine cw (n := 30) (rs := [.tmp 4, .tmp 5]) Tryd.func59 fun w0 S0 => ?_
 refine wq rfl (qa rfl (qa rfl (Aa (AC ?_))))
 refine A0 h (fun h => ?_) fun h => ?_
 ·refine wq rfl (qm rfl (Ib LL K4 rfl (qm rfl (Ib LL K4 rfl ?_))))
  refine Bp h fun v2 a2 h => Aq [] (Hz N ((wI .u32 p0)) ((wI .u32 p1)) v2 a2) PJ rfl (qm rfl (qx rfl (qx rfl (qa rfl (qa rfl (Aa (wq rfl (qm rfl (Ib KQ KO rfl (qm rfl (Ib KQ KO rfl (qa rfl (qe rfl ?_)))))))))))))
  obtain rfl := sj h
  refine Ad (sm [] [(4, pD (.val (.int .u64 ((wI .u64 v2.1))))), (5, pD (.val (.int .u64 ((wI .u64 v2.2)))))] [] rfl rfl) (Ao ?_)
  exact ⟨⟨[_, _], ⟨.tmp _ _ rfl, tm⟩, rfl⟩, tv⟩
 ·refine Aj (wq rfl (qw 2 rfl ?_))
  refine Bp h fun v3 a3 h => Aq [] (Hm N p0 p1 v3 a3) Qe rfl (qm rfl (qx rfl (qx rfl (qa rfl (qa rfl (Aa (wq rfl (qw 2 rfl (qa rfl (qe rfl ?_))))))))))
  obtain rfl := sj h
  refine Ad (sm [] [(4, pD (.val (.int .u64 v3.1))), (5, pD (.val (.int .u64 v3.2)))] [] rfl rfl) (Ao ?_)
  exact ⟨⟨[_, _], ⟨.tmp _ _ rfl, tm⟩, rfl⟩, tv⟩
theorem FO (N : Nat) (p0 : List Int) (p1 : Int) (r : (List Int)) (h : Ct N p0 p1 = some r) : Ap Tryd.prog 44 [pD (.sl (p0.map An)), iD p1] [(1, r.map An)] (oD (.own 0)) := by
 unfold Ct at h
 refine cw (n := 48) (rs := [.tmp 4]) Tryd.func44 fun w0 S0 => ?_
 refine wq rfl (qe rfl ?_)
 refine AM h (fun v1 => mk [(0, pD (.sl (p0.map An))), (1, iD p1)] []) (fun j1 h => ?_) (fun v1 h => ?_)
 ·refine wq rfl (qm rfl (AS rfl (Aa ?_)))
  refine A0 h (fun h => ?_) fun h => ?_
  ·refine Ai Ax rfl ?_
   cases h
  ·refine Aj ?_
   exact sn [] h
 ·refine wq rfl (qm rfl (Aw Ay rfl (Ib Ql KO rfl (qm rfl (Ib Ql KO rfl ?_)))))
  refine Bp h fun v3 a3 h => Aq [] (Ic N ((wI .u64 ((p0.length : Int)))) ((wI .u64 p1)) v3 a3) Pq rfl (qm rfl (qx rfl (qx rfl (qa rfl (qe rfl ?_)))))
  refine AM h (fun v4 => mk [(0, pD (.sl (p0.map An))), (6, pD (.val (.int .u64 v3.2)))] []) (fun j4 h => ?_) (fun v4 h => ?_)
  ·refine AM h (fun v5 => mk [(0, pD (.sl (p0.map An))), (6, pD (.val (.int .u64 v3.2))), (26, bD v5)] []) (fun j5 h => ?_) (fun v5 h => ?_)
   ·refine Ai Ax rfl (qm rfl (DR rfl (qm rfl ?_)))
    refine CV 23 h rfl (fun h => ?_) fun h => ?_
    ·refine qw 2 rfl (qp rfl (Aa ?_))
     exact sn [] h
    ·refine qm rfl (DR rfl (qp rfl (Aa ?_)))
     exact sn [] h
   ·refine A0 h (fun h => ?_) fun h => ?_
    ·refine Ai Ax rfl ?_
     cases h
    ·refine Aj ?_
     exact sn [] h
  ·refine wq rfl (qm rfl (Ib LL Qn rfl ?_))
   refine Fu h fun c8 h => Gu (.p rfl) rfl rfl rfl Ay Db Mk (GS rfl) K6 rfl rfl rfl c8.1 c8.2.1 c8.2.2 (Jz An _ ((0 : Int))) ?_
   refine qa rfl (Aa (wq rfl (qw 2 rfl ?_)))
   refine KW An (List.replicate ((wI .i64 v3.2)).toNat ((0 : Int))) p0 (.p rfl) rfl (Gm An _ _ (List.replicate ((wI .i64 v3.2)).toNat ((0 : Int)))) rfl rfl (M3 An _ _ (fun _ => rfl)) tv Ay Db ?_
   refine qa rfl (Aa (AC ?_))
   refine AE (L := Bq N) h (fun v9 => mk [(7, oD (.own 2001)), (8, iD v9.2)] [(2001, .vec 1 (v9.1.map An))]) (fun v10 => mk [(7, oD (.own 2002))] [(2002, .vec 1 (v10.map An))]) (fun _ _ => rfl) (sm [(2001, 30)] _ _ rfl rfl) (fun j9 n9 v9 h => ?_) (fun v10 s h hs => ?_)
   ·unfold Bq at h
    refine wp rfl (qw 2 rfl (F2 Ay rfl (AS rfl (Aa ?_))))
    refine A0 h (fun h => ?_) fun h => ?_
    ·refine Aj (AJ (Ai Ax rfl (qw 3 rfl ?_)))
     obtain ⟨c12, h⟩ := DZ h
     have w13 : ((v9.2).toNat) + ((v9.1.length - (v9.2).toNat)) ≤ v9.1.length := by have := c12.2.1; have := c12.2.2; omega
     refine Gl An v9.1 (.p rfl) rfl (Gm An _ _ v9.1) rfl Ay Db (.some _ _ _ _ c12.1) (.none _) ⟨rfl, tv⟩ tv c12.2.1 (by rw [Nat.zero_add]; exact c12.2.2) (Nat.zero_add _) rfl ?_
     refine qw 2 rfl ?_
     obtain ⟨c14, h⟩ := DZ h
     have w15 : 0 + ((v9.2).toNat) ≤ v9.1.length := by have := c14.2.1; have := c14.2.2; omega
     refine Gl An v9.1 (.p rfl) rfl (Gm An _ _ v9.1) rfl Ay Db (.none _) (.some _ _ _ _ c14.1) tv ⟨rfl, tv⟩ c14.2.1 (by rw [Nat.zero_add]; exact c14.2.2) (Nat.zero_add _) rfl ?_
     refine KW An v9.1 (((v9.1.drop 0).take ((v9.2).toNat))) (.p rfl) rfl (GH An _ _ ((v9.2).toNat) ((v9.1.length - (v9.2).toNat)) v9.1 w13) rfl rfl (I6 An _ _ 0 ((v9.2).toNat) v9.1 w15) ⟨rfl, tv⟩ Ay Db ?_
     refine Bf rfl (qa rfl (AF (by kernel_rfl) ?_))
     exact sn [] h
    ·refine AR ?_
     exact sn [(2002, 2001)] h
   ·refine Ad hs (wq rfl (qm rfl (qe rfl ?_)))
    obtain rfl := sj h
    refine Ad (sm [(1000, 2002)] [(4, oD (.own 1000))] [(1000, .vec 1 (v10.map An))] rfl rfl) (Ao ?_)
    exact ⟨⟨[_], tm, rfl⟩, ⟨rfl, tv⟩⟩
theorem FV (N : Nat) (p0 : AA) (r : Bool) (h : Dv N p0 = some r) : Ap Tryd.prog 40 [.e (.agg (A1 p0))] [] (bD r) := by
 unfold Dv at h
 refine cw (n := 11) (rs := [.tmp 2]) Tryd.func40 fun w0 S0 => ?_
 refine wq rfl (qb rfl (qe rfl ?_))
 refine AM h (fun v1 => mk [(2, bD v1)] []) (fun j1 h => ?_) (fun v1 h => ?_)
 ·refine Ai Ax rfl (qf DD rfl (ql BR rfl (Be rfl (qm rfl ?_))))
  refine CV 6 h rfl (fun h => ?_) fun h => ?_
  ·refine qw 3 rfl (qp rfl (qe rfl ?_))
   exact sn [] h
  ·refine qf DD rfl (ql BR rfl (Be rfl (qp rfl (qe rfl ?_))))
   exact sn [] h
 ·obtain rfl := sj h
  refine Ad (sm [] [(2, bD v1)] [] rfl rfl) (Ao ?_)
  exact ⟨⟨[_], tm, rfl⟩, tv⟩
theorem Gk (N : Nat) (p0 : Ag) (r : Ah × Int) (h : D1 N p0 = some r) : Ap Tryd.prog 29 [.e (.agg (Al p0))] [(1, r.1.fb.map An), (1, r.1.fa.map An), (1, r.1.fd.map BW)] (.tup [.agg [.own 0, .own 1, .own 2], .one (iC r.2)]) := by
 unfold D1 at h
 refine cw (n := 50) (rs := [.cell 2 38, .tmp 3]) Tryd.func29 fun w0 S0 => ?_
 refine wq rfl (qb rfl (qz Cc rfl (qa rfl (Aa (wp rfl (qL Cf B0 rfl ?_))))))
 refine Bp h fun v1 a1 h => Aq [] (C7 N p0 v1 a1) Oe rfl (qa rfl (Aa (wq rfl (qm rfl (Bb rfl (Aa ?_))))))
 refine A0 h (fun h => ?_) fun h => ?_
 ·refine wq rfl (A4 Cc GB rfl (qm rfl (qs AD rfl (qe rfl ?_))))
  obtain rfl := sj h
  refine Ad ((AO 2 0 2001 1 _ rfl rfl rfl rfl).trans ((AO 2 1 2002 1 _ rfl rfl rfl rfl).trans ((AO 2 2 2003 1 _ rfl rfl rfl rfl).trans (sm [(1000, 2001), (1001, 2002), (1002, 2003)] [(2, oD (.ptr 2 0)), (3, iD v1)] [(2, .box [.own 1000, .own 1001, .own 1002]), (1000, .vec 1 ((([] : List Int)).map An)), (1001, .vec 1 ((([] : List Int)).map An)), (1002, .vec 1 ((([] : List Int)).map BW))] rfl rfl)))) (Ao ?_)
  exact ⟨⟨[_, _], ⟨.cellN _ _ _ _ _ _ _ rfl rfl A3 AD rfl rfl (Gf rfl), tm⟩, rfl⟩, ⟨rfl, rfl, rfl, tv⟩⟩
 ·refine Aj (wq rfl (qf Es rfl (ql A8 rfl ?_)))
  refine Bp h fun v3 a3 h => Aq [2004] (BA N p0.fm v3 a3) LP rfl (EO Ay Db K6 rfl (qf Es rfl (ql A8 rfl (Aw Ay rfl ?_))))
  refine Bp h fun v4 a4 h => Fq [2005] [17] (FO N (([(-1)] : List Int)) ((p0.fm.length : Int)) v4 a4) P3 (KA (fun _ => rfl) DO) rfl (qf Cx rfl (ql GT rfl (Aw Dz rfl ?_)))
  refine Fu h fun c5 h => Gu (.p rfl) rfl rfl rfl C0 FX LQ (GS rfl) L8 rfl rfl rfl c5.1 c5.2.1 c5.2.2 (Jz BW _ ((0 : Int))) ?_
  refine A4 Cc GB rfl (qz Cc rfl (qs AD rfl (AF (by kernel_rfl) (wp rfl (qf Cx rfl (ql GT rfl (Aw Dz rfl (qm rfl (Aa ?_)))))))))
  refine AE (L := DB N p0) h (fun v6 => mk [(1, oD (.ptr 1 0)), (2, oD (.ptr 2 0)), (5, oD (.ptr 5 0)), (28, pD (.sl (p0.fc.map AK))), (29, iD ((p0.fc.length : Int))), (30, iD v6.2)] [(1, .box (Al p0)), (2, .box [.pure (.nil0), .pure (.nil0), .pure (.nil0)]), (5, .box [.own 2006, .own 2007, .own 2008]), (2006, .vec 1 (v3.map An)), (2007, .vec 1 (v4.map An)), (2008, .vec 1 (v6.1.map BW))]) (fun v7 => mk [(2, oD (.ptr 2 0)), (5, oD (.ptr 5 0))] [(2, .box [.pure (.nil0), .pure (.nil0), .pure (.nil0)]), (5, .box [.own 2009, .own 2010, .own 2011]), (2009, .vec 1 (v3.map An)), (2010, .vec 1 (v4.map An)), (2011, .vec 1 (v7.map BW))]) (fun _ _ => rfl) (sm [(2006, 2004), (2007, 2005), (2008, 25)] _ _ rfl rfl) (fun j6 n6 v6 h => ?_) (fun v7 s h hs => ?_)
  ·unfold DB at h
   refine wq rfl (AS rfl (Aa (AC ?_)))
   refine A0 h (fun h => ?_) fun h => ?_
   ·refine Aj ?_
    refine AM h (fun v9 => mk [(1, oD (.ptr 1 0)), (2, oD (.ptr 2 0)), (5, oD (.ptr 5 0)), (28, pD (.sl (p0.fc.map AK))), (29, iD ((p0.fc.length : Int))), (30, iD v6.2)] [(1, .box (Al p0)), (2, .box [.pure (.nil0), .pure (.nil0), .pure (.nil0)]), (5, .box [.own 2012, .own 2013, .own 2014]), (2012, .vec 1 (v3.map An)), (2013, .vec 1 (v4.map An)), (2014, .vec 1 (v9.map BW))]) (fun j9 h => ?_) (fun v9 h => ?_)
    ·refine AJ (wq rfl (qm rfl ?_))
     refine B6 h fun v10 a10 b10 h => qi Dz DJ a10 (Ak b10) rfl (qK GR DJ rfl (qz Lf rfl (qa rfl (qs DJ rfl (Aa (wq rfl (qL GR DJ rfl ?_)))))))
     refine Bp h fun v11 a11 h => Aq [] (FV N v10 v11 a11) N4 rfl (Aa ?_)
     refine A0 h (fun h => ?_) fun h => ?_
     ·refine Ai Ax rfl (qf CK rfl (ql Hq rfl (qm rfl (qf Es rfl (ql A8 rfl (qf CP rfl (ql BR rfl ?_)))))))
      refine B6 h fun v13 a13 b13 h => qi Ay Db a13 (Ak b13) rfl (qk BR rfl ?_)
      refine Fu h fun c14 h => Hs rfl c14 ?_
      refine B6 h fun v15 a15 b15 h => qI C0 FX a15 (Ak b15) rfl ?_
      refine Fe rfl rfl rfl rfl (Ak b15) rfl FX rfl (GS rfl) (Fb BW v6.1 _ ((ET .u8 1 v13))) ?_
      refine AF (by kernel_rfl) ?_
      exact sn [(2012, 2006), (2013, 2007), (2014, 2008)] h
     ·refine Aj ?_
      exact sn [(2012, 2006), (2013, 2007), (2014, 2008)] h
    ·refine Ai Ax rfl (Bf rfl (qm rfl (Aa ?_)))
     exact sn [(2006, 2012), (2007, 2013), (2008, 2014)] h
   ·refine AR ?_
    exact sn [(2009, 2006), (2010, 2007), (2011, 2008)] h
  ·refine Ad hs (wq rfl (qL A3 AD rfl (qs AD rfl (qe rfl ?_))))
   obtain rfl := sj h
   refine Ad (sm [(1000, 2009), (1001, 2010), (1002, 2011)] [(2, oD (.ptr 2 0)), (3, iD 0)] [(2, .box [.own 1000, .own 1001, .own 1002]), (1000, .vec 1 (v3.map An)), (1001, .vec 1 (v4.map An)), (1002, .vec 1 (v7.map BW))] rfl rfl) (Ao ?_)
   exact ⟨⟨[_, _], ⟨.cellN _ _ _ _ _ _ _ rfl rfl A3 AD rfl rfl (Gf rfl), tm⟩, rfl⟩, ⟨rfl, rfl, rfl, tv⟩⟩
theorem Fy (N : Nat) (p0 : Ah) (p1 : Int) (r : Int) (h : Da N p0 p1 = some r) : Ap Tryd.prog 41 [.e (.agg (Az p0)), iD p1] [] (pD (.val (.int .u8 r))) := by
 unfold Da at h
 refine cw (n := 27) (rs := [.tmp 4]) Tryd.func41 fun w0 S0 => ?_
 refine wq rfl (qb rfl (qa rfl (Aa (wq rfl (qf Cz rfl (ql A8 rfl (qm rfl ?_)))))))
 refine B6 h fun v1 a1 b1 h => qi Ay Db a1 (Ak b1) rfl (qk BR rfl ?_)
 refine Fu h fun c2 h => Hs rfl c2 (qe rfl ?_)
 refine AM h (fun v3 => mk [(5, pD (.val (.int .u8 v3)))] []) (fun j3 h => ?_) (fun v3 h => ?_)
 ·refine wq rfl (qf BQ rfl (ql A8 rfl (qm rfl ?_)))
  refine B6 h fun v4 a4 b4 h => qi Ay Db a4 (Ak b4) rfl (qk BR rfl (EC rfl (Aa ?_)))
  refine A0 h (fun h => ?_) fun h => ?_
  ·refine Ai Ax rfl (qm rfl (qf BQ rfl (ql A8 rfl (qm rfl ?_))))
   refine B6 h fun v6 a6 b6 h => qi Ay Db a6 (Ak b6) rfl (qk BR rfl ?_)
   refine Fu h fun c7 h => Hs rfl c7 (N2 rfl (qe rfl ?_))
   exact sn [] h
  ·refine Aj ?_
   exact sn [] h
 ·refine wq rfl (qm rfl (qe rfl ?_))
  obtain rfl := sj h
  refine Ad (sm [] [(4, pD (.val (.int .u8 v3)))] [] rfl rfl) (Ao ?_)
  exact ⟨⟨[_], tm, rfl⟩, tv⟩
theorem Ft (N : Nat) (p0 : Ag) (p1 : Ah) (r : Int) (h : Dj N p0 p1 = some r) : Ap Tryd.prog 27 [.e (.agg (Al p0)), .e (.agg (Az p1))] [] (iD r) := by
 unfold Dj at h
 refine cw (n := 135) (rs := [.tmp 4]) Tryd.func27 fun w0 S0 => ?_
 refine wq rfl (qb rfl (qb rfl (qa rfl (Aa (wp rfl (qL Cf B0 rfl ?_))))))
 refine Bp h fun v1 a1 h => Aq [] (C7 N p0 v1 a1) Oe rfl (qa rfl (Aa (wq rfl (qm rfl (Bb rfl (Aa ?_))))))
 refine A0 h (fun h => ?_) fun h => ?_
 ·refine wq rfl (qm rfl (qe rfl ?_))
  obtain rfl := sj h
  refine Ad (sm [] [(4, iD v1)] [] rfl rfl) (Ao ?_)
  exact ⟨⟨[_], tm, rfl⟩, tv⟩
 ·refine Aj (AC ?_)
  refine AM h (fun v3 => mk [(2, oD (.ptr 2 0)), (3, oD (.ptr 3 0)), (41, bD v3)] [(2, .box (Al p0)), (3, .box (Az p1))]) (fun j3 h => ?_) (fun v3 h => ?_)
  ·refine Ai Ax rfl (qf Cz rfl (ql A8 rfl (Aw Ay rfl (qf Bz rfl (ql A8 rfl (Aw Ay rfl (Bb rfl (qm rfl ?_))))))))
   refine CV 24 h rfl (fun h => ?_) fun h => ?_
   ·refine qw 7 rfl (qp rfl (qw 8 rfl (qp rfl (Aa ?_))))
    exact sn [] h
   ·refine qf BQ rfl (ql A8 rfl (Aw Ay rfl (qf Bz rfl (ql A8 rfl (Aw Ay rfl (Bb rfl (qp rfl (qm rfl ?_))))))))
    refine CV 33 h rfl (fun h => ?_) fun h => ?_
    ·refine qw 7 rfl (qp rfl (Aa ?_))
     exact sn [] h
    ·refine qf CK rfl (ql Hq rfl (Aw C0 rfl (qf Cx rfl (ql GT rfl (Aw Dz rfl (Bb rfl (qp rfl (Aa ?_))))))))
     exact sn [] h
  ·refine A0 h (fun h => ?_) fun h => ?_
   ·refine wq rfl (qe rfl ?_)
    obtain rfl := sj h
    refine Ad (sm [] [(4, iD 6)] [] rfl rfl) (Ao ?_)
    exact ⟨⟨[_], tm, rfl⟩, tv⟩
   ·refine Aj (wp rfl (qf Bz rfl (ql A8 rfl (Aw Ay rfl (qm rfl (Aa ?_))))))
    refine AE (L := DF N p0 p1) h (fun v7 => mk [(2, oD (.ptr 2 0)), (3, oD (.ptr 3 0)), (43, pD (.sl (p0.ff.map An))), (44, iD ((p0.ff.length : Int))), (45, iD v7)] [(2, .box (Al p0)), (3, .box (Az p1))]) (fun v8 => mk [(2, oD (.ptr 2 0)), (3, oD (.ptr 3 0))] [(2, .box (Al p0)), (3, .box (Az p1))]) (fun _ _ => rfl) (sm [] _ _ rfl rfl) (fun j7 n7 v7 h => ?_) (fun v8 s h hs => ?_)
    ·unfold DF at h
     refine wq rfl (AS rfl (Aa (AC ?_)))
     refine A0 h (fun h => ?_) fun h => ?_
     ·refine Aj (AC (AJ (wq rfl (qm rfl ?_))))
      refine B6 h fun v10 a10 b10 h => qi Ay Db a10 (Ak b10) rfl (qk BR rfl (qa rfl (qa rfl (Aa (AC ?_)))))
      refine AM h (fun v11 => mk [(2, oD (.ptr 2 0)), (3, oD (.ptr 3 0)), (6, iD v7), (43, pD (.sl (p0.ff.map An))), (44, iD ((p0.ff.length : Int))), (45, iD v7), (81, bD v11)] [(2, .box (Al p0)), (3, .box (Az p1))]) (fun j11 h => ?_) (fun v11 h => ?_)
      ·refine Ai Ax rfl (qf Cz rfl (ql A8 rfl (qm rfl ?_)))
       refine B6 h fun v12 a12 b12 h => qi Ay Db a12 (Ak b12) rfl (qk BR rfl (AS rfl (qm rfl ?_)))
       refine CV 56 h rfl (fun h => ?_) fun h => ?_
       ·refine qw 7 rfl (qp rfl (qw 7 rfl (qp rfl (qw 8 rfl (qp rfl (Aa ?_))))))
        exact sn [] h
       ·refine qf Cz rfl (ql A8 rfl (qm rfl ?_))
        refine B6 h fun v14 a14 b14 h => qi Ay Db a14 (Ak b14) rfl (qk BR rfl (qm rfl (EC rfl (qp rfl (qm rfl ?_)))))
        refine CV 65 h rfl (fun h => ?_) fun h => ?_
        ·refine qw 6 rfl (qp rfl (qw 8 rfl (qp rfl (Aa ?_))))
         exact sn [] h
        ·refine qf BQ rfl (ql A8 rfl (qm rfl ?_))
         refine B6 h fun v16 a16 b16 h => qi Ay Db a16 (Ak b16) rfl (qk BR rfl (AS rfl (qp rfl (qm rfl ?_))))
         refine CV 73 h rfl (fun h => ?_) fun h => ?_
         ·refine qw 7 rfl (qp rfl (Aa ?_))
          exact sn [] h
         ·refine qf BQ rfl (ql A8 rfl (qm rfl ?_))
          refine B6 h fun v18 a18 b18 h => qi Ay Db a18 (Ak b18) rfl (qk BR rfl (qm rfl (EC rfl (qp rfl (Aa ?_)))))
          exact sn [] h
      ·refine A0 h (fun h => ?_) fun h => ?_
       ·refine wq rfl (qe rfl ?_)
        obtain rfl := sj h
        refine Ad (sm [] [(4, iD 7)] [] rfl rfl) (Ao ?_)
        exact ⟨⟨[_], tm, rfl⟩, tv⟩
       ·refine Aj (wq rfl (qf Cz rfl (ql A8 rfl (qm rfl ?_))))
        refine B6 h fun v20 a20 b20 h => qi Ay Db a20 (Ak b20) rfl (qk BR rfl (qf BQ rfl (ql A8 rfl (qm rfl ?_))))
        refine B6 h fun v21 a21 b21 h => qi Ay Db a21 (Ak b21) rfl (qk BR rfl (Be rfl (AF (by kernel_rfl) ?_)))
        refine A0 h (fun h => ?_) fun h => ?_
        ·refine wq rfl (qe rfl ?_)
         obtain rfl := sj h
         refine Ad (sm [] [(4, iD 1)] [] rfl rfl) (Ao ?_)
         exact ⟨⟨[_], tm, rfl⟩, tv⟩
        ·refine Aj (Ai Ax rfl (Bf rfl (qm rfl (Aa ?_))))
         exact sn [] h
     ·refine AR ?_
      exact sn [] h
    ·refine Ad hs (wp rfl (qf Cx rfl (ql GT rfl (Aw Dz rfl (qm rfl (Aa ?_))))))
     refine AE (L := De N p0 p1) h (fun v23 => mk [(2, oD (.ptr 2 0)), (3, oD (.ptr 3 0)), (95, pD (.sl (p0.fc.map AK))), (96, iD ((p0.fc.length : Int))), (97, iD v23)] [(2, .box (Al p0)), (3, .box (Az p1))]) (fun v24 => mk [] []) (fun _ _ => rfl) (sm [] _ _ rfl rfl) (fun j23 n23 v23 h => ?_) (fun v24 s h hs => ?_)
     ·unfold De at h
      refine wq rfl (AS rfl (Aa (AC ?_)))
      refine A0 h (fun h => ?_) fun h => ?_
      ·refine Aj (AC (AJ (wq rfl (qm rfl ?_))))
       refine B6 h fun v26 a26 b26 h => qi Dz DJ a26 (Ak b26) rfl (qK GR DJ rfl (qz Lf rfl (qa rfl (qs DJ rfl (Aa (wq rfl (qa rfl (qe rfl ?_))))))))
       refine AM h (fun v27 => mk [(2, oD (.ptr 2 0)), (3, oD (.ptr 3 0)), (8, iD v23), (10, pD (.val (.int .u8 v27.1))), (11, pD (.val (.int .u8 v27.2))), (95, pD (.sl (p0.fc.map AK))), (96, iD ((p0.fc.length : Int))), (97, iD v23)] [(2, .box (Al p0)), (3, .box (Az p1))]) (fun j27 h => ?_) (fun v27 h => ?_)
       ·refine wq rfl (qL GR DJ rfl ?_)
        refine Bp h fun v28 a28 h => Aq [] (FV N v26 v28 a28) N4 rfl (Aa ?_)
        refine A0 h (fun h => ?_) fun h => ?_
        ·refine Ai Ax rfl (qL A3 AD rfl (qf CP rfl (ql BR rfl ?_)))
         refine Bp h fun v30 a30 h => Aq [] (Fy N p1 v26.fi v30 a30) NM rfl (qf Bz rfl (ql A8 rfl (qf CP rfl (ql BR rfl ?_))))
         refine B6 h fun v31 a31 b31 h => qi Ay Db a31 (Ak b31) rfl (qk BR rfl ?_)
         refine Fu h fun c32 h => Hs rfl c32 (KM rfl (qa rfl (qa rfl (AF (by kernel_rfl) ?_))))
         exact sn [] h
        ·refine Aj ?_
         exact sn [] h
       ·refine AM h (fun v33 => mk [(2, oD (.ptr 2 0)), (3, oD (.ptr 3 0)), (95, pD (.sl (p0.fc.map AK))), (96, iD ((p0.fc.length : Int))), (97, iD v23), (133, bD v33)] [(2, .box (Al p0)), (3, .box (Az p1))]) (fun j33 h => ?_) (fun v33 h => ?_)
        ·refine Ai Ax rfl (qm rfl (qf CK rfl (ql Hq rfl (qm rfl ?_))))
         refine B6 h fun v34 a34 b34 h => qi C0 FX a34 (Ak b34) rfl (qk Kt rfl (IN rfl (Bb rfl (qm rfl ?_))))
         refine CV 124 h rfl (fun h => ?_) fun h => ?_
         ·refine qw 8 rfl (qp rfl (Aa ?_))
          exact sn [] h
         ·refine qf CK rfl (ql Hq rfl (qm rfl ?_))
          refine B6 h fun v36 a36 b36 h => qi C0 FX a36 (Ak b36) rfl (qk Kt rfl (qm rfl (IN rfl (Bb rfl (qp rfl (Aa ?_))))))
          exact sn [] h
        ·refine A0 h (fun h => ?_) fun h => ?_
         ·refine wq rfl (qe rfl ?_)
          obtain rfl := sj h
          refine Ad (sm [] [(4, iD 1)] [] rfl rfl) (Ao ?_)
          exact ⟨⟨[_], tm, rfl⟩, tv⟩
         ·refine Aj (Ai Ax rfl (Bf rfl (qm rfl (Aa ?_))))
          exact sn [] h
      ·refine AR ?_
       exact sn [] h
     ·refine Ad hs (wq rfl (qe rfl ?_))
      obtain rfl := sj h
      refine Ad (sm [] [(4, iD 0)] [] rfl rfl) (Ao ?_)
      exact ⟨⟨[_], tm, rfl⟩, tv⟩
theorem CF (N : Nat) (p0 : List Int) (r : (List Int)) (h : Ba N p0 = some r) : Ap Tryd.prog 76 [pD (.sl (p0.map BW))] [(1, r.map BW)] (oD (.own 0)) := by
 unfold Ba at h
 refine cw (n := 8) (rs := [.tmp 2]) Tryd.func76 fun w0 S0 => ?_
 refine wq rfl (qa rfl (Aa (wp rfl (qm rfl ?_))))
 refine Jt (.p rfl) rfl C0 ?_
 refine Aa ?_
 refine JQ rfl (fun c2 => ?_) ?_
 ·have c2 := List.map_eq_nil_iff.1 c2
  rw [c2] at h
  have h : (some (([] : List Int))) = some r := h
  refine wq rfl (qe rfl ?_)
  obtain rfl := sj h
  refine Ad ((Bx 2 2001 1 rfl rfl rfl).trans (sm [(1000, 2001)] [(2, oD (.own 1000))] [(1000, .vec 1 ((([] : List Int)).map BW))] rfl rfl)) (Ao ?_)
  exact ⟨⟨[_], tm, rfl⟩, ⟨rfl, tv⟩⟩
 ·refine Aj (wq rfl (EO C0 FX L8 rfl (qm rfl ?_)))
  refine Fu h fun c1 h => KG (f := BW) C0 C0 FX LQ L8 (fun _ => rfl) c1 rfl (qe rfl ?_)
  obtain rfl := sj h
  refine Ad (sm [(1000, 7)] [(2, oD (.own 1000))] [(1000, .vec 1 (((([] : List Int)) ++ p0).map BW))] rfl rfl) (Ao ?_)
  exact ⟨⟨[_], tm, rfl⟩, ⟨rfl, tv⟩⟩
theorem JK (N : Nat) (p0 : Ag) (p1 : Ah) (r : (List Ah) × Int) (h : FD N p0 p1 = some r) : Ap Tryd.prog 61 [.e (.agg (Al p0)), .e (.agg (Az p1))] [(3, r.1.map B8)] (.tup [.one (.own 0), .one (iC r.2)]) := by
 unfold FD at h
 refine cw (n := 75) (rs := [.tmp 4, .tmp 5]) Tryd.func61 fun w0 S0 => ?_
 refine wq rfl (qb rfl (qb rfl (qa rfl (qa rfl (Aa (wp rfl (qL Cf B0 rfl (qL A3 AD rfl ?_))))))))
 refine Bp h fun v1 a1 h => Aq [] (Ft N p0 p1 v1 a1) M4 rfl (qa rfl (Aa (wq rfl (qm rfl (Bb rfl (Aa ?_))))))
 refine A0 h (fun h => ?_) fun h => ?_
 ·refine wq rfl (qm rfl (qa rfl (qe rfl ?_)))
  obtain rfl := sj h
  refine Ad ((Bx 4 2001 3 rfl rfl rfl).trans (sm [(1000, 2001)] [(4, oD (.own 1000)), (5, iD v1)] [(1000, .vec 3 ((([] : List Ah)).map B8))] rfl rfl)) (Ao ?_)
  exact ⟨⟨[_, _], ⟨.tmp _ _ rfl, tm⟩, rfl⟩, ⟨rfl, tv⟩⟩
 ·refine Aj (wq rfl (qa rfl (Aa (wp rfl (qf BQ rfl (ql A8 rfl (Aw Ay rfl (qm rfl (Aa ?_)))))))))
  refine AE (L := Df N p1) h (fun v3 => mk [(3, oD (.ptr 3 0)), (7, oD (.own 2002)), (22, pD (.sl (p1.fa.map An))), (23, iD ((p1.fa.length : Int))), (24, iD v3.2)] [(3, .box (Az p1)), (2002, .vec 1 (v3.1.map An))]) (fun v4 => mk [(3, oD (.ptr 3 0)), (7, oD (.own 2003))] [(3, .box (Az p1)), (2003, .vec 1 (v4.map An))]) (fun _ _ => rfl) ((Bx 7 2005 1 rfl rfl rfl).trans (sm [(2002, 2005)] _ _ rfl rfl)) (fun j3 n3 v3 h => ?_) (fun v4 s h hs => ?_)
  ·unfold Df at h
   refine wq rfl (AS rfl (Aa (AC ?_)))
   refine A0 h (fun h => ?_) fun h => ?_
   ·refine Aj ?_
    refine AM h (fun v6 => mk [(3, oD (.ptr 3 0)), (7, oD (.own 2004)), (22, pD (.sl (p1.fa.map An))), (23, iD ((p1.fa.length : Int))), (24, iD v3.2)] [(3, .box (Az p1)), (2004, .vec 1 (v6.map An))]) (fun j6 h => ?_) (fun v6 h => ?_)
    ·refine AJ (wq rfl (qm rfl ?_))
     refine B6 h fun v7 a7 b7 h => qi Ay Db a7 (Ak b7) rfl (qk BR rfl (qa rfl (qa rfl (Aa (wq rfl (qm rfl (EC rfl (Aa ?_))))))))
     refine A0 h (fun h => ?_) fun h => ?_
     ·refine Ai Ax rfl (qw 2 rfl (EO Ay Db K6 rfl ?_))
      refine Fu h fun c9 h => FG (f := An) Ay Ay Db Mk K6 c9 rfl (qe rfl ?_)
      exact sn [(2004, 34)] h
     ·refine Aj ?_
      exact sn [(2004, 2002)] h
    ·refine Ai Ax rfl (Bf rfl (qm rfl (Aa ?_)))
     exact sn [(2002, 2004)] h
   ·refine AR ?_
    exact sn [(2003, 2002)] h
  ·refine Ad hs (wq rfl (qa rfl (Aa (wp rfl (qm rfl (F2 Ay rfl ?_))))))
   refine Fu h fun c10 h => Hs rfl c10 (qm rfl (Aa ?_))
   refine AE (L := CW N p1 v4) h (fun v11 => mk [(3, oD (.ptr 3 0)), (7, oD (.own 2006)), (10, oD (.own 2007)), (38, iD ((ET .i64 1 ((v4.length : Int))))), (39, iD v11.2)] [(3, .box (Az p1)), (2006, .vec 1 (v4.map An)), (2007, .vec 3 (v11.1.map B8))]) (fun v12 => mk [(10, oD (.own 2008))] [(2008, .vec 3 (v12.map B8))]) (fun _ _ => rfl) ((Bx 10 2027 3 rfl rfl rfl).trans (sm [(2006, 2003), (2007, 2027)] _ _ rfl rfl)) (fun j11 n11 v11 h => ?_) (fun v12 s h hs => ?_)
   ·unfold CW at h
    refine wq rfl (AS rfl (Aa (AC ?_)))
    refine A0 h (fun h => ?_) fun h => ?_
    ·refine Aj (AC (AJ (wq rfl (qm rfl (qa rfl (Aa (wq rfl (qf Cz rfl (ql A8 rfl ?_)))))))))
     refine Bp h fun v14 a14 h => Aq [2009] (BA N p1.fb v14 a14) LP rfl (qf BQ rfl (ql A8 rfl ?_))
     refine Bp h fun v15 a15 h => Aq [2010] (BA N p1.fa v15 a15) LP rfl (qf CK rfl (ql Hq rfl ?_))
     refine Bp h fun v16 a16 h => Aq [2011] (CF N p1.fd v16 a16) Oy rfl (A4 Cc GB rfl (qz Cc rfl (qs AD rfl (AF (by kernel_rfl) (wp rfl (qm rfl (F2 Ay rfl (qm rfl (Aa ?_)))))))))
     refine AE (L := CZ N v4 v11) h (fun v17 => mk [(3, oD (.ptr 3 0)), (7, oD (.own 2015)), (10, oD (.own 2016)), (11, iD v11.2), (12, oD (.ptr 12 0)), (38, iD ((ET .i64 1 ((v4.length : Int))))), (39, iD v11.2), (52, oD (.own 2015)), (53, iD ((v4.length : Int))), (54, iD v17.2)] [(3, .box (Az p1)), (12, .box [.own 2012, .own 2013, .own 2014]), (2012, .vec 1 (v14.map An)), (2013, .vec 1 (v17.1.map An)), (2014, .vec 1 (v16.map BW)), (2015, .vec 1 (v4.map An)), (2016, .vec 3 (v11.1.map B8))]) (fun v18 => mk [(3, oD (.ptr 3 0)), (7, oD (.own 2020)), (10, oD (.own 2021)), (12, oD (.ptr 12 0)), (38, iD ((ET .i64 1 ((v4.length : Int))))), (39, iD v11.2)] [(3, .box (Az p1)), (12, .box [.own 2017, .own 2018, .own 2019]), (2017, .vec 1 (v14.map An)), (2018, .vec 1 (v18.map An)), (2019, .vec 1 (v16.map BW)), (2020, .vec 1 (v4.map An)), (2021, .vec 3 (v11.1.map B8))]) (fun _ _ => rfl) (sm [(2012, 2009), (2013, 2010), (2014, 2011), (2015, 2006), (2016, 2007)] _ _ rfl rfl) (fun j17 n17 v17 h => ?_) (fun v18 s h hs => ?_)
     ·unfold CZ at h
      refine wq rfl (AS rfl (Aa (AC ?_)))
      refine A0 h (fun h => ?_) fun h => ?_
      ·refine Aj ?_
       refine AM h (fun v20 => mk [(3, oD (.ptr 3 0)), (7, oD (.own 2025)), (10, oD (.own 2026)), (11, iD v11.2), (12, oD (.ptr 12 0)), (38, iD ((ET .i64 1 ((v4.length : Int))))), (39, iD v11.2), (52, oD (.own 2025)), (53, iD ((v4.length : Int))), (54, iD v17.2)] [(3, .box (Az p1)), (12, .box [.own 2022, .own 2023, .own 2024]), (2022, .vec 1 (v14.map An)), (2023, .vec 1 (v20.map An)), (2024, .vec 1 (v16.map BW)), (2025, .vec 1 (v4.map An)), (2026, .vec 3 (v11.1.map B8))]) (fun j20 h => ?_) (fun v20 h => ?_)
       ·refine AJ (wq rfl (qm rfl ?_))
        refine B6 h fun v21 a21 b21 h => qI Ay Db a21 (Ak b21) rfl (qj BR (Ak b21) rfl (qa rfl (qa rfl (Aa (wq rfl (qw 2 rfl ?_))))))
        refine Fu h fun c22 h => Hn rfl c22 (Is rfl (Be rfl (Aa ?_)))
        refine A0 h (fun h => ?_) fun h => ?_
        ·refine Ai Ax rfl (qf BQ rfl (ql A8 rfl (qm rfl ?_)))
         refine B6 h fun v24 a24 b24 h => qI Ay Db a24 (Ak b24) rfl ?_
         refine Fe rfl rfl rfl rfl (Ak b24) rfl Db rfl (GS rfl) (Fb An v17.1 _ ((-1))) ?_
         refine Aa ?_
         exact sn [(2022, 2012), (2023, 2013), (2024, 2014), (2025, 2015), (2026, 2016)] h
        ·refine Aj ?_
         exact sn [(2022, 2012), (2023, 2013), (2024, 2014), (2025, 2015), (2026, 2016)] h
       ·refine Ai Ax rfl (Bf rfl (qm rfl (Aa ?_)))
        exact sn [(2012, 2022), (2013, 2023), (2014, 2024), (2015, 2025), (2016, 2026)] h
      ·refine AR ?_
       exact sn [(2017, 2012), (2018, 2013), (2019, 2014), (2020, 2015), (2021, 2016)] h
     ·refine Ad hs (Ai Ax rfl (qm rfl (qL A3 AD rfl (CI (AT 2017 _ _ rfl rfl) (CI (AT 2018 _ _ rfl rfl) (CI (AT 2019 _ _ rfl rfl) (EO FT AD Cc rfl ?_)))))))
      refine Fu h fun c25 h => FG (f := B8) FT FT AD Nz Cc c25 rfl (qa rfl (Aa (Ai Ax rfl (Bf rfl (qm rfl (Aa ?_))))))
      exact sn [(2006, 2020), (2007, 72)] h
    ·refine AR ?_
     exact sn [(2008, 2007)] h
   ·refine Ad hs (wq rfl (qm rfl (qa rfl (qe rfl ?_))))
    obtain rfl := sj h
    refine Ad (sm [(1000, 2008)] [(4, oD (.own 1000)), (5, iD 0)] [(1000, .vec 3 (v12.map B8))] rfl rfl) (Ao ?_)
    exact ⟨⟨[_, _], ⟨.tmp _ _ rfl, tm⟩, rfl⟩, ⟨rfl, tv⟩⟩
theorem Ia (N : Nat) (p0 : Ag) (p1 : Ah) (r : (List Ar)) (h : Ej N p0 p1 = some r) : Ap Tryd.prog 62 [.e (.agg (Al p0)), .e (.agg (Az p1))] [(3, r.map AX)] (oD (.own 0)) := by
 unfold Ej at h
 refine cw (n := 98) (rs := [.tmp 4]) Tryd.func62 fun w0 S0 => ?_
 refine wq rfl (qb rfl (qb rfl (qa rfl (Aa (wq rfl (qa rfl (Aa (wp rfl (qf Cx rfl (ql GT rfl (Aw Dz rfl (qm rfl (Aa ?_)))))))))))))
 refine AE (L := CB N p0 p1) h (fun v1 => mk [(3, oD (.ptr 3 0)), (5, oD (.own 2001)), (15, pD (.sl (p0.fc.map AK))), (16, iD ((p0.fc.length : Int))), (17, iD v1.2)] [(3, .box (Az p1)), (2001, .vec 3 (v1.1.map AX))]) (fun v2 => mk [(5, oD (.own 2002))] [(2002, .vec 3 (v2.map AX))]) (fun _ _ => rfl) ((Bx 5 2013 3 rfl rfl rfl).trans (sm [(2001, 2013)] _ _ rfl rfl)) (fun j1 n1 v1 h => ?_) (fun v2 s h hs => ?_)
 ·unfold CB at h
  refine wq rfl (AS rfl (Aa (AC ?_)))
  refine A0 h (fun h => ?_) fun h => ?_
  ·refine Aj (AC (AJ (wq rfl (qm rfl ?_))))
   refine B6 h fun v4 a4 b4 h => qi Dz DJ a4 (Ak b4) rfl (qK GR DJ rfl (qz Lf rfl (qa rfl (qs DJ rfl (Aa (wq rfl (qL A3 AD rfl (qf CP rfl (ql BR rfl ?_)))))))))
   refine Bp h fun v5 a5 h => Aq [] (Fy N p1 v4.fi v5 a5) NM rfl (qL A3 AD rfl (qf GM rfl (ql BR rfl ?_)))
   refine Bp h fun v6 a6 h => Aq [] (Fy N p1 v4.fo v6 a6) NM rfl (qa rfl (qa rfl (AF (by kernel_rfl) ?_)))
   refine AM h (fun v7 => mk [(3, oD (.ptr 3 0)), (5, oD (.own 2003)), (6, iD v1.2), (7, oD (.ptr 7 0)), (8, pD (.val (.int .u8 v7))), (9, pD (.val (.int .u8 v6))), (15, pD (.sl (p0.fc.map AK))), (16, iD ((p0.fc.length : Int))), (17, iD v1.2)] [(3, .box (Az p1)), (7, .box (A1 v4)), (2003, .vec 3 (v1.1.map AX))]) (fun j7 h => ?_) (fun v7 h => ?_)
   ·refine wq rfl (qL GR DJ rfl ?_)
    refine Bp h fun v8 a8 h => Aq [] (FV N v4 v8 a8) N4 rfl (Aa ?_)
    refine A0 h (fun h => ?_) fun h => ?_
    ·refine Ai Ax rfl (qf CK rfl (ql Hq rfl (qm rfl ?_)))
     refine B6 h fun v10 a10 b10 h => qi C0 FX a10 (Ak b10) rfl (qk Kt rfl (qe rfl ?_))
     exact sn [(2003, 2001)] h
    ·refine Aj ?_
     exact sn [(2003, 2001)] h
   ·refine wq rfl (qf Ih rfl (ql Ho rfl (Aw E9 rfl (qm rfl (Aa ?_)))))
    refine AE (L := Cr N v1 v4 v6 v7) h (fun v11 => mk [(3, oD (.ptr 3 0)), (5, oD (.own 2004)), (6, iD v1.2), (7, oD (.ptr 7 0)), (8, pD (.val (.int .u8 v7))), (9, pD (.val (.int .u8 v6))), (15, pD (.sl (p0.fc.map AK))), (16, iD ((p0.fc.length : Int))), (17, iD v1.2), (39, iD ((v4.fj.length : Int))), (40, iD v11.2)] [(3, .box (Az p1)), (7, .box (A1 v4)), (2004, .vec 3 (v11.1.map AX))]) (fun v12 => mk [(3, oD (.ptr 3 0)), (5, oD (.own 2005)), (15, pD (.sl (p0.fc.map AK))), (16, iD ((p0.fc.length : Int))), (17, iD v1.2)] [(3, .box (Az p1)), (2005, .vec 3 (v12.map AX))]) (fun _ _ => rfl) (sm [(2004, 2003)] _ _ rfl rfl) (fun j11 n11 v11 h => ?_) (fun v12 s h hs => ?_)
    ·unfold Cr at h
     refine wq rfl (AS rfl (Aa (AC ?_)))
     refine A0 h (fun h => ?_) fun h => ?_
     ·refine Aj ?_
      refine AM h (fun v14 => mk [(3, oD (.ptr 3 0)), (5, oD (.own 2006)), (6, iD v1.2), (7, oD (.ptr 7 0)), (8, pD (.val (.int .u8 v7))), (9, pD (.val (.int .u8 v6))), (15, pD (.sl (p0.fc.map AK))), (16, iD ((p0.fc.length : Int))), (17, iD v1.2), (39, iD ((v4.fj.length : Int))), (40, iD v11.2)] [(3, .box (Az p1)), (7, .box (A1 v4)), (2006, .vec 3 (v14.map AX))]) (fun j14 h => ?_) (fun v14 h => ?_)
      ·refine AJ (wq rfl (qm rfl (qa rfl (Aa (wp rfl (qw 2 rfl ?_))))))
       refine Fu h fun c15 h => Hn rfl c15 (Is rfl (Be rfl (Aa ?_)))
       refine A0 h (fun h => ?_) fun h => ?_
       ·refine AR ?_
        exact sn [(2006, 2004)] h
       ·refine Aj (wq rfl (qa rfl (Aa (wp rfl (qf Ih rfl (ql Ho rfl (qm rfl ?_)))))))
        refine B6 h fun v17 a17 b17 h => qi E9 Li a17 (Ak b17) rfl (qk Lj rfl (Aw IG rfl (qm rfl (Aa ?_))))
        refine AE (L := Cn N v1 v4 v6 v11 v17) h (fun v18 => mk [(3, oD (.ptr 3 0)), (5, oD (.own 2007)), (6, iD v1.2), (7, oD (.ptr 7 0)), (8, pD (.val (.int .u8 v7))), (9, pD (.val (.int .u8 v6))), (10, iD v11.2), (11, bD v18.2.1), (15, pD (.sl (p0.fc.map AK))), (16, iD ((p0.fc.length : Int))), (17, iD v1.2), (39, iD ((v4.fj.length : Int))), (40, iD v11.2), (52, pD (.sl (v17.map eB))), (53, iD ((v17.length : Int))), (54, iD v18.2.2)] [(3, .box (Az p1)), (7, .box (A1 v4)), (2007, .vec 3 (v18.1.map AX))]) (fun v19 => mk [(3, oD (.ptr 3 0)), (5, oD (.own 2008)), (6, iD v1.2), (7, oD (.ptr 7 0)), (8, pD (.val (.int .u8 v7))), (9, pD (.val (.int .u8 v6))), (10, iD v11.2), (11, bD v19.2), (15, pD (.sl (p0.fc.map AK))), (16, iD ((p0.fc.length : Int))), (17, iD v1.2), (39, iD ((v4.fj.length : Int))), (40, iD v11.2)] [(3, .box (Az p1)), (7, .box (A1 v4)), (2008, .vec 3 (v19.1.map AX))]) (fun _ _ => rfl) (sm [(2007, 2004)] _ _ rfl rfl) (fun j18 n18 v18 h => ?_) (fun v19 s h hs => ?_)
        ·unfold Cn at h
         refine wq rfl (AS rfl (Aa (AC ?_)))
         refine A0 h (fun h => ?_) fun h => ?_
         ·refine Aj ?_
          refine AM h (fun v21 => mk [(3, oD (.ptr 3 0)), (5, oD (.own 2009)), (6, iD v1.2), (7, oD (.ptr 7 0)), (8, pD (.val (.int .u8 v7))), (9, pD (.val (.int .u8 v6))), (10, iD v11.2), (11, bD v21.2), (15, pD (.sl (p0.fc.map AK))), (16, iD ((p0.fc.length : Int))), (17, iD v1.2), (39, iD ((v4.fj.length : Int))), (40, iD v11.2), (52, pD (.sl (v17.map eB))), (53, iD ((v17.length : Int))), (54, iD v18.2.2)] [(3, .box (Az p1)), (7, .box (A1 v4)), (2009, .vec 3 (v21.1.map AX))]) (fun j21 h => ?_) (fun v21 h => ?_)
          ·refine AJ (wq rfl (qm rfl ?_))
           refine B6 h fun v22 a22 b22 h => qi IG Pl a22 (Ak b22) rfl (qk Nk rfl (qa rfl (qa rfl (Aa (wp rfl (qw 2 rfl ?_))))))
           refine Fu h fun c23 h => Hn rfl c23 (Is rfl (Be rfl (Aa ?_)))
           refine A0 h (fun h => ?_) fun h => ?_
           ·refine AR ?_
            exact sn [(2009, 2007)] h
           ·refine Aj ?_
            refine AM h (fun v25 => mk [(3, oD (.ptr 3 0)), (5, oD (.own 2010)), (6, iD v1.2), (7, oD (.ptr 7 0)), (8, pD (.val (.int .u8 v7))), (9, pD (.val (.int .u8 v6))), (10, iD v11.2), (11, bD v25), (12, iD v18.2.2), (13, bD v22), (15, pD (.sl (p0.fc.map AK))), (16, iD ((p0.fc.length : Int))), (17, iD v1.2), (39, iD ((v4.fj.length : Int))), (40, iD v11.2), (52, pD (.sl (v17.map eB))), (53, iD ((v17.length : Int))), (54, iD v18.2.2)] [(3, .box (Az p1)), (7, .box (A1 v4)), (2010, .vec 3 (v18.1.map AX))]) (fun j25 h => ?_) (fun v25 h => ?_)
            ·refine Ai Ax rfl (qw 2 rfl ?_)
             refine CV 65 h rfl (fun h => ?_) fun h => ?_
             ·refine qn rfl (qp rfl (qe rfl ?_))
              exact sn [(2010, 2007)] h
             ·refine qm rfl (qp rfl (qe rfl ?_))
              exact sn [(2010, 2007)] h
            ·refine AM h (fun v27 => mk [(3, oD (.ptr 3 0)), (5, oD (.own 2011)), (6, iD v1.2), (7, oD (.ptr 7 0)), (8, pD (.val (.int .u8 v7))), (9, pD (.val (.int .u8 v6))), (10, iD v11.2), (11, bD v25), (12, iD v18.2.2), (15, pD (.sl (p0.fc.map AK))), (16, iD ((p0.fc.length : Int))), (17, iD v1.2), (39, iD ((v4.fj.length : Int))), (40, iD v11.2), (52, pD (.sl (v17.map eB))), (53, iD ((v17.length : Int))), (54, iD v18.2.2), (74, bD v27)] [(3, .box (Az p1)), (7, .box (A1 v4)), (2011, .vec 3 (v18.1.map AX))]) (fun j27 h => ?_) (fun v27 h => ?_)
             ·refine Ai Ax rfl (qm rfl (BJ rfl (qm rfl ?_)))
              refine CV 70 h rfl (fun h => ?_) fun h => ?_
              ·refine qf Ig rfl (ql Nk rfl (BJ rfl (qp rfl (Aa ?_))))
               exact sn [(2011, 2010)] h
              ·refine qw 3 rfl (qp rfl (Aa ?_))
               exact sn [(2011, 2010)] h
             ·refine A0 h (fun h => ?_) fun h => ?_
              ·refine Ai Ax rfl (qw 4 rfl (A4 Ge Kn rfl (EO GF DT Ge rfl ?_)))
               refine Fu h fun c30 h => FG (f := AX) GF GF DT Nw Ge c30 rfl (qe rfl ?_)
               exact sn [(2009, 81)] h
              ·refine Aj ?_
               exact sn [(2009, 2011)] h
          ·refine Ai Ax rfl (Bf rfl (qm rfl (Aa ?_)))
           exact sn [(2007, 2009)] h
         ·refine AR ?_
          exact sn [(2008, 2007)] h
        ·refine Ad hs ?_
         refine AM h (fun v31 => mk [(3, oD (.ptr 3 0)), (5, oD (.own 2012)), (6, iD v1.2), (7, oD (.ptr 7 0)), (8, pD (.val (.int .u8 v7))), (9, pD (.val (.int .u8 v6))), (10, iD v11.2), (15, pD (.sl (p0.fc.map AK))), (16, iD ((p0.fc.length : Int))), (17, iD v1.2), (39, iD ((v4.fj.length : Int))), (40, iD v11.2), (88, bD v31)] [(3, .box (Az p1)), (7, .box (A1 v4)), (2012, .vec 3 (v19.1.map AX))]) (fun j31 h => ?_) (fun v31 h => ?_)
         ·refine Ai Ax rfl (qf Ig rfl (ql Nk rfl (qm rfl ?_)))
          refine CV 85 h rfl (fun h => ?_) fun h => ?_
          ·refine qm rfl (BJ rfl (qp rfl (Aa ?_)))
           exact sn [(2012, 2008)] h
          ·refine qw 2 rfl (qp rfl (Aa ?_))
           exact sn [(2012, 2008)] h
         ·refine A0 h (fun h => ?_) fun h => ?_
          ·refine Ai Ax rfl (qw 3 rfl (A4 Ge Kn rfl (EO GF DT Ge rfl ?_)))
           refine Fu h fun c34 h => FG (f := AX) GF GF DT Nw Ge c34 rfl (qe rfl ?_)
           exact sn [(2006, 94)] h
          ·refine Aj ?_
           exact sn [(2006, 2012)] h
      ·refine Ai Ax rfl (Bf rfl (qm rfl (Aa ?_)))
       exact sn [(2004, 2006)] h
     ·refine AR ?_
      exact sn [(2005, 2004)] h
    ·refine Ad hs (Ai Ax rfl (Bf rfl (qm rfl (Aa ?_))))
     exact sn [(2001, 2005)] h
  ·refine AR ?_
   exact sn [(2002, 2001)] h
 ·refine Ad hs (wq rfl (qm rfl (qe rfl ?_)))
  obtain rfl := sj h
  refine Ad (sm [(1000, 2002)] [(4, oD (.own 1000))] [(1000, .vec 3 (v2.map AX))] rfl rfl) (Ao ?_)
  exact ⟨⟨[_], tm, rfl⟩, ⟨rfl, tv⟩⟩
theorem GD (N : Nat) (p0 : Ag) (p1 : Ah) (r : Ah × Ar × Int) (h : Ea N p0 p1 = some r) : Ap Tryd.prog 47 [.e (.agg (Al p0)), .e (.agg (Az p1))] [] (.tup [.agg (Az r.1), .agg (D2 r.2.1), .one (iC r.2.2)]) := by
 unfold Ea at h
 refine cw (n := 42) (rs := [.cell 4 38, .cell 5 93, .tmp 6]) Tryd.func47 fun w0 S0 => ?_
 refine wq rfl (qb rfl (qb rfl (qz Cc rfl (qz Ge rfl (qa rfl (Aa (wq rfl (qL Cf B0 rfl (qL A3 AD rfl ?_)))))))))
 refine Bp h fun v1 a1 h => Aq [2001] (JK N p0 p1 v1 a1) PH rfl (qm rfl (qx rfl (qx rfl (qa rfl (qa rfl (Aa (wp rfl (qm rfl (Bb rfl (Aa ?_))))))))))
 refine A0 h (fun h => ?_) fun h => ?_
 ·refine wq rfl (A4 Cc GB rfl (A4 Ge Kn rfl (qm rfl (qs AD rfl (qs DT rfl (qe rfl ?_))))))
  obtain rfl := sj h
  refine Ad ((Dh 4 _ rfl).trans (sm [] [(4, oD (.ptr 4 0)), (5, oD (.ptr 5 0)), (6, iD v1.2)] [(4, .box [sC ((([] : List Int)).map An), sC ((([] : List Int)).map An), sC ((([] : List Int)).map BW)]), (5, .box [iC 0, iC 0, iC 0])] rfl rfl)) (Ao ?_)
  exact ⟨⟨[_, _, _], ⟨.cellN _ _ _ _ _ _ _ rfl rfl A3 AD rfl rfl (Gf rfl), ⟨.cellN _ _ _ _ _ _ _ rfl rfl Id DT rfl rfl (Gf rfl), tm⟩⟩, rfl⟩, tv⟩
 ·refine Aj (wp rfl (qm rfl (F2 FT rfl (qm rfl (Aa ?_)))))
  refine AE (L := DC N p0 v1) h (fun v3 => mk [(2, oD (.ptr 2 0)), (4, oD (.ptr 4 0)), (5, oD (.ptr 5 0)), (23, oD (.own 2002)), (24, iD ((v1.1.length : Int))), (25, iD v3)] [(2, .box (Al p0)), (4, .box [.pure (.nil0), .pure (.nil0), .pure (.nil0)]), (5, .box [iC 0, iC 0, iC 0]), (2002, .vec 3 (v1.1.map B8))]) (fun v4 => mk [(4, oD (.ptr 4 0)), (5, oD (.ptr 5 0))] [(4, .box [.pure (.nil0), .pure (.nil0), .pure (.nil0)]), (5, .box [iC 0, iC 0, iC 0])]) (fun _ _ => rfl) (sm [(2002, 2001)] _ _ rfl rfl) (fun j3 n3 v3 h => ?_) (fun v4 s h hs => ?_)
  ·unfold DC at h
   refine wq rfl (AS rfl (Aa (AC ?_)))
   refine A0 h (fun h => ?_) fun h => ?_
   ·refine Aj (AC (AJ (wq rfl ?_)))
    refine B6 h fun v6 a6 b6 h => qI FT AD a6 (Ak b6) rfl (qJ A3 AD (Ak b6) rfl (qz Cc rfl (qs AD rfl (Aa (wq rfl (qL Cf B0 rfl (qL A3 AD rfl ?_)))))))
    refine Bp h fun v7 a7 h => Aq [2003] (Ia N p0 v6 v7 a7) Qh rfl (qa rfl (Aa (wq rfl (qm rfl (F2 GF rfl (DR rfl (Aa ?_)))))))
    refine A0 h (fun h => ?_) fun h => ?_
    ·refine wq rfl (qL A3 AD rfl (qm rfl ?_))
     refine B6 h fun v9 a9 b9 h => qI GF DT a9 (Ak b9) rfl (qJ Id DT (Ak b9) rfl (qs AD rfl (qs DT rfl (qa rfl (AF (by kernel_rfl) ?_)))))
     obtain rfl := sj h
     refine Ad (sm [] [(4, oD (.ptr 4 0)), (5, oD (.ptr 5 0)), (6, iD 0)] [(4, .box (Az v6)), (5, .box (D2 v9))] rfl rfl) (Ao ?_)
     exact ⟨⟨[_, _, _], ⟨.cellN _ _ _ _ _ _ _ rfl rfl A3 AD rfl rfl (Gf rfl), ⟨.cellN _ _ _ _ _ _ _ rfl rfl Id DT rfl rfl (Gf rfl), tm⟩⟩, rfl⟩, tv⟩
    ·refine Aj (Ai Ax rfl (Bf rfl (qm rfl (Aa ?_))))
     exact sn [] h
   ·refine AR ?_
    exact sn [] h
  ·refine Ad hs (wq rfl (A4 Cc GB rfl (A4 Ge Kn rfl (qs AD rfl (qs DT rfl (qe rfl ?_))))))
   obtain rfl := sj h
   refine Ad ((Dh 4 _ rfl).trans (sm [] [(4, oD (.ptr 4 0)), (5, oD (.ptr 5 0)), (6, iD 15)] [(4, .box [sC ((([] : List Int)).map An), sC ((([] : List Int)).map An), sC ((([] : List Int)).map BW)]), (5, .box [iC 0, iC 0, iC 0])] rfl rfl)) (Ao ?_)
   exact ⟨⟨[_, _, _], ⟨.cellN _ _ _ _ _ _ _ rfl rfl A3 AD rfl rfl (Gf rfl), ⟨.cellN _ _ _ _ _ _ _ rfl rfl Id DT rfl rfl (Gf rfl), tm⟩⟩, rfl⟩, tv⟩
theorem He (N : Nat) (p0 : Ab) (r : Bool) (h : Em N p0 = some r) : Ap Tryd.prog 63 [.e (.agg (B5 p0))] [] (bD r) := by
 unfold Em at h
 refine cw (n := 27) (rs := [.tmp 2]) Tryd.func63 fun w0 S0 => ?_
 refine wq rfl (qb rfl (qa rfl (Aa (AC ?_))))
 refine AM h (fun v1 => mk [(1, oD (.ptr 1 0)), (18, bD v1)] [(1, .box (B5 p0))]) (fun j1 h => ?_) (fun v1 h => ?_)
 ·refine Ai Ax rfl (qf Dg rfl (ql BR rfl (qf FW rfl (ql BR rfl ?_))))
  refine KS (.p rfl) rfl rfl ?_
  refine AS rfl (qm rfl ?_)
  refine CV 9 h rfl (fun h => ?_) fun h => ?_
  ·refine qw 3 rfl (qp rfl (qw 4 rfl (qp rfl (Aa ?_))))
   exact sn [] h
  ·refine qf D8 rfl (ql BR rfl (AS rfl (qp rfl (qm rfl ?_))))
   refine CV 14 h rfl (fun h => ?_) fun h => ?_
   ·refine qw 3 rfl (qp rfl (Aa ?_))
    exact sn [] h
   ·refine qf D8 rfl (ql BR rfl (DR rfl (qp rfl (Aa ?_))))
    exact sn [] h
 ·refine A0 h (fun h => ?_) fun h => ?_
  ·refine wq rfl (qe rfl ?_)
   obtain rfl := sj h
   refine Ad (sm [] [(2, bD false)] [] rfl rfl) (Ao ?_)
   exact ⟨⟨[_], tm, rfl⟩, tv⟩
  ·refine Aj ?_
   refine AM h (fun v5 => mk [(2, bD v5)] []) (fun j5 h => ?_) (fun v5 h => ?_)
   ·refine Ai Ax rfl (qf D8 rfl (ql BR rfl (Be rfl (qm rfl ?_))))
    refine CV 22 h rfl (fun h => ?_) fun h => ?_
    ·refine qw 3 rfl (qp rfl (qe rfl ?_))
     exact sn [] h
    ·refine qf FW rfl (ql BR rfl (Be rfl (qp rfl (qe rfl ?_))))
     exact sn [] h
   ·obtain rfl := sj h
    refine Ad (sm [] [(2, bD v5)] [] rfl rfl) (Ao ?_)
    exact ⟨⟨[_], tm, rfl⟩, tv⟩
theorem IQ (N : Nat) (p0 : Ag) (p1 : Ab) (r : Bool) (h : E8 N p0 p1 = some r) : Ap Tryd.prog 74 [.e (.agg (Al p0)), .e (.agg (B5 p1))] [] (bD r) := by
 unfold E8 at h
 refine cw (n := 36) (rs := [.tmp 4]) Tryd.func74 fun w0 S0 => ?_
 refine wq rfl (qb rfl (qb rfl (qa rfl (Aa (wp rfl (qf D8 rfl (ql BR rfl (Be rfl (Aa ?_)))))))))
 refine A0 h (fun h => ?_) fun h => ?_
 ·refine wq rfl (qf Dg rfl (ql BR rfl (qf Cx rfl (ql GT rfl (Aw Dz rfl (AS rfl (qe rfl ?_)))))))
  obtain rfl := sj h
  refine Ad (sm [] [(4, bD ((decide (p1.fg < (p0.fc.length : Int)))))] [] rfl rfl) (Ao ?_)
  exact ⟨⟨[_], tm, rfl⟩, tv⟩
 ·refine Aj ?_
  refine AM h (fun v2 => mk [(4, bD v2)] []) (fun j2 h => ?_) (fun v2 h => ?_)
  ·refine Ai Ax rfl (qf Dg rfl (ql BR rfl (qf Bz rfl (ql A8 rfl (Aw Ay rfl (AS rfl (qm rfl ?_)))))))
   refine CV 20 h rfl (fun h => ?_) fun h => ?_
   ·refine qf D8 rfl (ql BR rfl (Bb rfl (qm rfl ?_)))
    refine CV 24 h rfl (fun h => ?_) fun h => ?_
    ·refine qw 9 rfl (qp rfl (qp rfl (qa rfl (AF (by kernel_rfl) ?_))))
     exact sn [] h
    ·refine qf FW rfl (ql BR rfl (qf Bz rfl (ql A8 rfl (qf Dg rfl (ql BR rfl ?_)))))
     refine B6 h fun v5 a5 b5 h => qi Ay Db a5 (Ak b5) rfl (qk BR rfl (AS rfl (qp rfl (qp rfl (qa rfl (AF (by kernel_rfl) ?_))))))
     exact sn [] h
   ·refine qw 4 rfl (qu rfl (qu rfl (qu rfl (qu rfl (qu rfl (qu rfl (qu rfl (qu rfl (qu rfl (qn rfl (qp rfl (qa rfl (AF (by kernel_rfl) ?_)))))))))))))
    exact sn [] h
  ·obtain rfl := sj h
   refine Ad (sm [] [(4, bD v2)] [] rfl rfl) (Ao ?_)
   exact ⟨⟨[_], tm, rfl⟩, tv⟩
theorem IS (N : Nat) (p0 : Ah) (r : Ah) (h : E3 N p0 = some r) : Ap Tryd.prog 82 [.e (.agg (Az p0))] [(1, r.fb.map An), (1, r.fa.map An), (1, r.fd.map BW)] (.e (.agg [.own 0, .own 1, .own 2])) := by
 unfold E3 at h
 refine cw (n := 13) (rs := [.cell 2 38]) Tryd.func82 fun w0 S0 => ?_
 refine wq rfl (qb rfl (qz Cc rfl (Aa (wq rfl (qf Cz rfl (ql A8 rfl ?_))))))
 refine Bp h fun v1 a1 h => Aq [2001] (BA N p0.fb v1 a1) LP rfl (qf BQ rfl (ql A8 rfl ?_))
 refine Bp h fun v2 a2 h => Aq [2002] (BA N p0.fa v2 a2) LP rfl (qf CK rfl (ql Hq rfl ?_))
 refine Bp h fun v3 a3 h => Aq [2003] (CF N p0.fd v3 a3) Oy rfl (A4 Cc GB rfl (qs AD rfl (AF (by kernel_rfl) ?_)))
 obtain rfl := sj h
 refine Ad (sm [(1000, 2001), (1001, 2002), (1002, 2003)] [(2, oD (.ptr 2 0))] [(2, .box [.own 1000, .own 1001, .own 1002]), (1000, .vec 1 (v1.map An)), (1001, .vec 1 (v2.map An)), (1002, .vec 1 (v3.map BW))] rfl rfl) (Ao ?_)
 exact ⟨⟨[_], ⟨.cellN _ _ _ _ _ _ _ rfl rfl A3 AD rfl rfl (Gf rfl), tv⟩, rfl⟩, ⟨rfl, rfl, rfl, tv⟩⟩
theorem GU (N : Nat) (p0 : AA) (r : Bool) (h : D6 N p0 = some r) : Ap Tryd.prog 87 [.e (.agg (A1 p0))] [] (bD r) := by
 unfold D6 at h
 refine cw (n := 11) (rs := [.tmp 2]) Tryd.func87 fun w0 S0 => ?_
 refine wq rfl (qb rfl (qe rfl ?_))
 refine AM h (fun v1 => mk [(2, bD v1)] []) (fun j1 h => ?_) (fun v1 h => ?_)
 ·refine Ai Ax rfl (qf DD rfl (ql BR rfl (Be rfl (qm rfl ?_))))
  refine CV 6 h rfl (fun h => ?_) fun h => ?_
  ·refine qw 3 rfl (qp rfl (qe rfl ?_))
   exact sn [] h
  ·refine qf DD rfl (ql BR rfl (Be rfl (qp rfl (qe rfl ?_))))
   exact sn [] h
 ·obtain rfl := sj h
  refine Ad (sm [] [(2, bD v1)] [] rfl rfl) (Ao ?_)
  exact ⟨⟨[_], tm, rfl⟩, tv⟩
theorem JP (N : Nat) (p0 : Ag) (p1 : Ah) (p2 : Ab) (r : Bool × (List Int) × (List Int)) (h : FL N p0 p1 p2 = some r) : BC Tryd.prog 83 [.e (.agg (Al p0)), oD (.ptr 90000 0), .e (.agg (B5 p2))] [(.box [.own 90001, .own 90002, .own 90003], .box [.own 90001, .own 90002, .own 90003]), (.vec 1 (p1.fb.map An), .vec 1 (p1.fb.map An)), (.vec 1 (p1.fa.map An), .vec 1 (r.2.1.map An)), (.vec 1 (p1.fd.map BW), .vec 1 (r.2.2.map BW))] [] (bD r.1) := by
 unfold FL at h
 refine C9 (n := 70) (rs := [.tmp 6]) Tryd.func83 rfl rfl rfl (GS rfl) (GS rfl) rfl rfl (GS rfl) rfl (GS rfl) fun w0 S0 GL => ?_
 refine Ad (sm [] [(0, .e (.agg (Al p0))), (1, oD (.ptr 90000 0)), (2, .e (.agg (B5 p2)))] [(90000, .box [.own 90001, .own 90002, .own 90003]), (90001, .vec 1 (p1.fb.map An)), (90002, .vec 1 (p1.fa.map An)), (90003, .vec 1 (p1.fd.map BW))] rfl rfl) (wq rfl (qb rfl (qb rfl (qa rfl (Aa (AC ?_))))))
 refine AM h (fun v1 => mk [(1, oD (.ptr 90000 0)), (3, oD (.ptr 3 0)), (5, oD (.ptr 5 0)), (30, bD v1)] [(3, .box (Al p0)), (5, .box (B5 p2)), (90000, .box [.own 90001, .own 90002, .own 90003]), (90001, .vec 1 (p1.fb.map An)), (90002, .vec 1 (p1.fa.map An)), (90003, .vec 1 (p1.fd.map BW))]) (fun j1 h => ?_) (fun v1 h => ?_)
 ·refine Ai Ax rfl (qm rfl (Mr rfl (qf BQ rfl (ql A8 rfl (qf Dg rfl (ql BR rfl ?_))))))
  refine B6 h fun v2 a2 b2 h => qI Ay Db a2 (Ak b2) rfl (qj BR (Ak b2) rfl (EC rfl (qm rfl ?_)))
  refine CV 18 h rfl (fun h => ?_) fun h => ?_
  ·refine qw 11 rfl (qp rfl (AF (by kernel_rfl) ?_))
   exact sn [] h
  ·refine qm rfl (Mr rfl (qf Cz rfl (ql A8 rfl (qf Dg rfl (ql BR rfl ?_)))))
   refine B6 h fun v4 a4 b4 h => qI Ay Db a4 (Ak b4) rfl (qj BR (Ak b4) rfl (qf FW rfl (ql BR rfl (Be rfl (qp rfl (AF (by kernel_rfl) ?_))))))
   exact sn [] h
 ·refine A0 h (fun h => ?_) fun h => ?_
  ·refine wq rfl (qe rfl ?_)
   obtain rfl := sj h
   refine Ad (sm [] [(6, bD false)] [(90000, .box [.own 90001, .own 90002, .own 90003]), (90001, .vec 1 (p1.fb.map An)), (90002, .vec 1 (p1.fa.map An)), (90003, .vec 1 (p1.fd.map BW))] rfl rfl) (Ao ?_)
   exact ⟨⟨[_], tm, rfl⟩, ⟨rfl, rfl, rfl, rfl, tv⟩, tv⟩
  ·refine Aj (wq rfl (qm rfl (Mr rfl (qf BQ rfl (ql A8 rfl (qf Dg rfl (ql BR rfl (qf FW rfl (ql BR rfl ?_)))))))))
   refine B6 h fun v6 a6 b6 h => qI Ay Db a6 (Ak b6) rfl ?_
   refine Fe rfl rfl rfl rfl (Ak b6) rfl Db rfl (GS rfl) (Fb An p1.fa _ p2.fh) ?_
   refine AF (by kernel_rfl) (wp rfl (qf Cx rfl (ql GT rfl (Aw Dz rfl (qm rfl (Aa ?_))))))
   refine AE (L := Dk N p0 p2) h (fun v7 => mk [(1, oD (.ptr 90000 0)), (5, oD (.ptr 5 0)), (41, pD (.sl (p0.fc.map AK))), (42, iD ((p0.fc.length : Int))), (43, iD v7.2)] [(5, .box (B5 p2)), (90000, .box [.own 90001, .own 90002, .own 90003]), (90001, .vec 1 (p1.fb.map An)), (90002, .vec 1 ((p1.fa.set ((p2.fg).toNat) p2.fh).map An)), (90003, .vec 1 (v7.1.map BW))]) (fun v8 => mk [] [(90000, .box [.own 90001, .own 90002, .own 90003]), (90001, .vec 1 (p1.fb.map An)), (90002, .vec 1 ((p1.fa.set ((p2.fg).toNat) p2.fh).map An)), (90003, .vec 1 (v8.map BW))]) (fun _ _ => rfl) (sm [] _ _ rfl rfl) (fun j7 n7 v7 h => ?_) (fun v8 s h hs => ?_)
   ·unfold Dk at h
    refine wq rfl (AS rfl (Aa (AC ?_)))
    refine A0 h (fun h => ?_) fun h => ?_
    ·refine Aj ?_
     refine AM h (fun v10 => mk [(1, oD (.ptr 90000 0)), (5, oD (.ptr 5 0)), (41, pD (.sl (p0.fc.map AK))), (42, iD ((p0.fc.length : Int))), (43, iD v7.2)] [(5, .box (B5 p2)), (90000, .box [.own 90001, .own 90002, .own 90003]), (90001, .vec 1 (p1.fb.map An)), (90002, .vec 1 ((p1.fa.set ((p2.fg).toNat) p2.fh).map An)), (90003, .vec 1 (v10.map BW))]) (fun j10 h => ?_) (fun v10 h => ?_)
     ·refine AJ (wq rfl (qm rfl ?_))
      refine B6 h fun v11 a11 b11 h => qi Dz DJ a11 (Ak b11) rfl (qK GR DJ rfl (qz Lf rfl (qa rfl (qs DJ rfl (Aa ?_)))))
      refine AM h (fun v12 => mk [(1, oD (.ptr 90000 0)), (5, oD (.ptr 5 0)), (7, iD v7.2), (41, pD (.sl (p0.fc.map AK))), (42, iD ((p0.fc.length : Int))), (43, iD v7.2), (56, bD v12)] [(5, .box (B5 p2)), (90000, .box [.own 90001, .own 90002, .own 90003]), (90001, .vec 1 (p1.fb.map An)), (90002, .vec 1 ((p1.fa.set ((p2.fg).toNat) p2.fh).map An)), (90003, .vec 1 (v7.1.map BW))]) (fun j12 h => ?_) (fun v12 h => ?_)
      ·refine Ai Ax rfl (qf CP rfl (ql BR rfl (qf Dg rfl (ql BR rfl (Be rfl (qm rfl ?_))))))
       refine CV 53 h rfl (fun h => ?_) fun h => ?_
       ·refine qL GR DJ rfl ?_
        refine Bp h fun v14 a14 h => Aq [] (GU N v11 v14 a14) Oz rfl (qp rfl (Aa ?_))
        exact sn [] h
       ·refine qw 2 rfl (qp rfl (Aa ?_))
        exact sn [] h
      ·refine A0 h (fun h => ?_) fun h => ?_
       ·refine Ai Ax rfl (qm rfl (Mr rfl (qf CK rfl (ql Hq rfl (qm rfl ?_)))))
        refine B6 h fun v16 a16 b16 h => qI C0 FX a16 (Ak b16) rfl (qj Kt (Ak b16) rfl (qf FW rfl (ql BR rfl ?_)))
        refine Fu h fun c17 h => Hs rfl c17 (N2 rfl ?_)
        refine B6 h fun v18 a18 b18 h => qI C0 FX a18 (Ak b18) rfl ?_
        refine Fe rfl rfl rfl rfl (Ak b18) rfl FX rfl (GS rfl) (Fb BW v7.1 _ ((M0 .u8 v16 ((ET .u8 1 p2.fh))))) ?_
        refine AF (by kernel_rfl) ?_
        exact sn [] h
       ·refine Aj ?_
        exact sn [] h
     ·refine Ai Ax rfl (Bf rfl (qm rfl (Aa ?_)))
      exact sn [] h
    ·refine AR ?_
     exact sn [] h
   ·refine Ad hs (wq rfl (qe rfl ?_))
    obtain rfl := sj h
    refine Ad (sm [] [(6, bD true)] [(90000, .box [.own 90001, .own 90002, .own 90003]), (90001, .vec 1 (p1.fb.map An)), (90002, .vec 1 ((p1.fa.set ((p2.fg).toNat) p2.fh).map An)), (90003, .vec 1 (v8.map BW))] rfl rfl) (Ao ?_)
    exact ⟨⟨[_], tm, rfl⟩, ⟨rfl, rfl, rfl, rfl, tv⟩, tv⟩
theorem Io (N : Nat) (p0 : Ah) (p1 : Int) (r : Int) (h : EG N p0 p1 = some r) : Ap Tryd.prog 88 [.e (.agg (Az p0)), iD p1] [] (pD (.val (.int .u8 r))) := by
 unfold EG at h
 refine cw (n := 27) (rs := [.tmp 4]) Tryd.func88 fun w0 S0 => ?_
 refine wq rfl (qb rfl (qa rfl (Aa (wq rfl (qf Cz rfl (ql A8 rfl (qm rfl ?_)))))))
 refine B6 h fun v1 a1 b1 h => qi Ay Db a1 (Ak b1) rfl (qk BR rfl ?_)
 refine Fu h fun c2 h => Hs rfl c2 (qe rfl ?_)
 refine AM h (fun v3 => mk [(5, pD (.val (.int .u8 v3)))] []) (fun j3 h => ?_) (fun v3 h => ?_)
 ·refine wq rfl (qf BQ rfl (ql A8 rfl (qm rfl ?_)))
  refine B6 h fun v4 a4 b4 h => qi Ay Db a4 (Ak b4) rfl (qk BR rfl (EC rfl (Aa ?_)))
  refine A0 h (fun h => ?_) fun h => ?_
  ·refine Ai Ax rfl (qm rfl (qf BQ rfl (ql A8 rfl (qm rfl ?_))))
   refine B6 h fun v6 a6 b6 h => qi Ay Db a6 (Ak b6) rfl (qk BR rfl ?_)
   refine Fu h fun c7 h => Hs rfl c7 (N2 rfl (qe rfl ?_))
   exact sn [] h
  ·refine Aj ?_
   exact sn [] h
 ·refine wq rfl (qm rfl (qe rfl ?_))
  obtain rfl := sj h
  refine Ad (sm [] [(4, pD (.val (.int .u8 v3)))] [] rfl rfl) (Ao ?_)
  exact ⟨⟨[_], tm, rfl⟩, tv⟩
theorem E4 (N : Nat) (p0 : Int) (r : Int) (h : Ca N p0 = some r) : Ap Tryd.prog 94 [pD (.val (.int .u8 p0))] [] (iD r) := by
 unfold Ca at h
 refine cw (n := 6) (rs := [.tmp 2]) Tryd.func94 fun w0 S0 => ?_
 refine wq rfl (qa rfl (Aa (wq rfl (qm rfl ?_))))
 refine Bp h fun v1 a1 h => Ld (.p rfl) rfl rfl Qa a1 ?_
 refine Ib Qs Qn rfl (qe rfl ?_)
 obtain rfl := sj h
 refine Ad (sm [] [(2, iD ((wI .i64 v1)))] [] rfl rfl) (Ao ?_)
 exact ⟨⟨[_], tm, rfl⟩, tv⟩
theorem Hu (N : Nat) (p0 : AA) (p1 : Int) (p2 : Int) (r : Bool) (h : DG N p0 p1 p2 = some r) : Ap Tryd.prog 89 [.e (.agg (A1 p0)), pD (.val (.int .u8 p1)), iD p2] [] (bD r) := by
 unfold DG at h
 refine cw (n := 25) (rs := [.tmp 6]) Tryd.func89 fun w0 S0 => ?_
 refine wq rfl (qb rfl (qa rfl (Aa (wp rfl (qm rfl (qe rfl ?_))))))
 refine AE (L := Ch N p0 p2) h (fun v1 => mk [(2, iD p2), (3, oD (.ptr 3 0)), (7, pD (.val (.int .u8 v1)))] [(3, .box (A1 p0))]) (fun v2 => mk [] []) (fun _ _ => rfl) (sm [] _ _ rfl rfl) (fun j1 n1 v1 h => ?_) (fun v2 s h hs => ?_)
 ·unfold Ch at h
  refine wp rfl (qm rfl (Bb rfl (Aa ?_)))
  refine A0 h (fun h => ?_) fun h => ?_
  ·refine Aj (AC (AJ (wq rfl (qf Er rfl (ql Ho rfl (qm rfl ?_))))))
   refine Bp h fun v4 a4 h => Aq [] (E4 N v1 v4 a4) Qi rfl ?_
   refine B6 h fun v5 a5 b5 h => qi E9 Li a5 (Ak b5) rfl (qk Lj rfl (qm rfl ?_))
   refine B6 h fun v6 a6 b6 h => qi IG Pl a6 (Ak b6) rfl (qk Nk rfl (BJ rfl (AF (by kernel_rfl) ?_)))
   refine A0 h (fun h => ?_) fun h => ?_
   ·refine wq rfl (qe rfl ?_)
    obtain rfl := sj h
    refine Ad (sm [] [(6, bD false)] [] rfl rfl) (Ao ?_)
    exact ⟨⟨[_], tm, rfl⟩, tv⟩
   ·refine Aj (Ai Ax rfl (qw 2 rfl (KM rfl (Is rfl (qe rfl ?_)))))
    exact sn [] h
  ·refine AR ?_
   exact sn [] h
 ·refine Ad hs (wq rfl (qe rfl ?_))
  obtain rfl := sj h
  refine Ad (sm [] [(6, bD true)] [] rfl rfl) (Ao ?_)
  exact ⟨⟨[_], tm, rfl⟩, tv⟩
theorem JH (N : Nat) (p0 : Ag) (p1 : Ah) (p2 : Int) (r : Bool × (List Int)) (h : FK N p0 p1 p2 = some r) : BC Tryd.prog 84 [.e (.agg (Al p0)), oD (.ptr 90000 0), iD p2] [(.box [.own 90001, .own 90002, .own 90003], .box [.own 90001, .own 90002, .own 90003]), (.vec 1 (p1.fb.map An), .vec 1 (p1.fb.map An)), (.vec 1 (p1.fa.map An), .vec 1 (p1.fa.map An)), (.vec 1 (p1.fd.map BW), .vec 1 (r.2.map BW))] [] (bD r.1) := by
 unfold FK at h
 refine C9 (n := 68) (rs := [.tmp 6]) Tryd.func84 rfl rfl rfl (GS rfl) (GS rfl) rfl rfl (GS rfl) rfl (GS rfl) fun w0 S0 GL => ?_
 refine Ad (sm [] [(0, .e (.agg (Al p0))), (1, oD (.ptr 90000 0)), (2, iD p2)] [(90000, .box [.own 90001, .own 90002, .own 90003]), (90001, .vec 1 (p1.fb.map An)), (90002, .vec 1 (p1.fa.map An)), (90003, .vec 1 (p1.fd.map BW))] rfl rfl) (wq rfl (qb rfl (qa rfl (Aa (wq rfl (qf Cx rfl (ql GT rfl (qm rfl ?_))))))))
 refine B6 h fun v1 a1 b1 h => qi Dz DJ a1 (Ak b1) rfl (qK GR DJ rfl (qz Lf rfl (qs DJ rfl (Aa (wp rfl (qL GR DJ rfl ?_))))))
 refine Bp h fun v2 a2 h => Aq [] (GU N v1 v2 a2) Oz rfl (BJ rfl (Aa ?_))
 refine A0 h (fun h => ?_) fun h => ?_
 ·refine wq rfl (qe rfl ?_)
  obtain rfl := sj h
  refine Ad (sm [] [(6, bD false)] [(90000, .box [.own 90001, .own 90002, .own 90003]), (90001, .vec 1 (p1.fb.map An)), (90002, .vec 1 (p1.fa.map An)), (90003, .vec 1 (p1.fd.map BW))] rfl rfl) (Ao ?_)
  exact ⟨⟨[_], tm, rfl⟩, ⟨rfl, rfl, rfl, rfl, tv⟩, tv⟩
 ·refine Aj (wq rfl (qm rfl (Mr rfl (qL A3 AD rfl (qf CP rfl (ql BR rfl ?_))))))
  refine Bp h fun v4 a4 h => Fq [] [90001, 90002, 90003] (Io N p1 v1.fi v4 a4) Py DO rfl (qa rfl (AF (by kernel_rfl) (wq rfl (qm rfl (Mr rfl (qf CK rfl (ql Hq rfl (qm rfl ?_))))))))
  refine B6 h fun v5 a5 b5 h => qI C0 FX a5 (Ak b5) rfl (qj Kt (Ak b5) rfl (qm rfl (IN rfl (qa rfl (Aa (AC ?_))))))
  refine AM h (fun v6 => mk [(1, oD (.ptr 90000 0)), (2, iD p2), (8, pD (.val (.int .u8 v4))), (60, bD v6)] [(90000, .box [.own 90001, .own 90002, .own 90003]), (90001, .vec 1 (p1.fb.map An)), (90002, .vec 1 (p1.fa.map An)), (90003, .vec 1 (p1.fd.map BW))]) (fun j6 h => ?_) (fun v6 h => ?_)
  ·refine Ai Ax rfl (qm rfl (Mr rfl (qf CK rfl (ql Hq rfl (qm rfl ?_)))))
   refine B6 h fun v7 a7 b7 h => qI C0 FX a7 (Ak b7) rfl (qj Kt (Ak b7) rfl (qm rfl (Be rfl (qm rfl ?_))))
   refine CV 42 h rfl (fun h => ?_) fun h => ?_
   ·refine qw 4 rfl (qu rfl (qu rfl (qu rfl (qu rfl (qu rfl (qu rfl (qu rfl (qu rfl (qu rfl (qu rfl (qu rfl (qu rfl (qn rfl (qp rfl (AF (by kernel_rfl) ?_)))))))))))))))
    exact sn [] h
   ·refine qf DD rfl (ql BR rfl (Be rfl (qm rfl ?_)))
    refine CV 46 h rfl (fun h => ?_) fun h => ?_
    ·refine qL GR DJ rfl (qw 2 rfl (Mr rfl (qf Cz rfl (ql A8 rfl (qf CP rfl (ql BR rfl ?_))))))
     refine B6 h fun v10 a10 b10 h => qI Ay Db a10 (Ak b10) rfl (qj BR (Ak b10) rfl ?_)
     refine Bp h fun v11 a11 h => Aq [] (Hu N v1 ((FZ .u8 v5 v4)) v10 v11 a11) Pu rfl (BJ rfl (qp rfl (qp rfl (AF (by kernel_rfl) ?_))))
     exact sn [] h
    ·refine qw 12 rfl (qp rfl (qp rfl (AF (by kernel_rfl) ?_)))
     exact sn [] h
  ·refine A0 h (fun h => ?_) fun h => ?_
   ·refine wq rfl (qe rfl ?_)
    obtain rfl := sj h
    refine Ad (sm [] [(6, bD false)] [(90000, .box [.own 90001, .own 90002, .own 90003]), (90001, .vec 1 (p1.fb.map An)), (90002, .vec 1 (p1.fa.map An)), (90003, .vec 1 (p1.fd.map BW))] rfl rfl) (Ao ?_)
    exact ⟨⟨[_], tm, rfl⟩, ⟨rfl, rfl, rfl, rfl, tv⟩, tv⟩
   ·refine Aj (wq rfl (qm rfl (Mr rfl (qf CK rfl (ql Hq rfl (qw 2 rfl ?_))))))
    refine B6 h fun v13 a13 b13 h => qI C0 FX a13 (Ak b13) rfl ?_
    refine Fe rfl rfl rfl rfl (Ak b13) rfl FX rfl (GS rfl) (Fb BW p1.fd _ v4) ?_
    refine Aa (wq rfl (qe rfl ?_))
    obtain rfl := sj h
    refine Ad (sm [] [(6, bD true)] [(90000, .box [.own 90001, .own 90002, .own 90003]), (90001, .vec 1 (p1.fb.map An)), (90002, .vec 1 (p1.fa.map An)), (90003, .vec 1 ((p1.fd.set ((p2).toNat) v4).map BW))] rfl rfl) (Ao ?_)
    exact ⟨⟨[_], tm, rfl⟩, ⟨rfl, rfl, rfl, rfl, tv⟩, tv⟩
theorem Jy (N : Nat) (p0 : Ag) (p1 : Ah) (p2 : Ab) (r : Ah × Bool) (h : FB N p0 p1 p2 = some r) : Ap Tryd.prog 75 [.e (.agg (Al p0)), .e (.agg (Az p1)), .e (.agg (B5 p2))] [(1, r.1.fb.map An), (1, r.1.fa.map An), (1, r.1.fd.map BW)] (.tup [.agg [.own 0, .own 1, .own 2], .one (.pure (.val (.bool r.2)))]) := by
 unfold FB at h
 refine cw (n := 51) (rs := [.cell 6 38, .tmp 7]) Tryd.func75 fun w0 S0 => ?_
 refine wq rfl (qb rfl (qb rfl (qb rfl (qz Cc rfl (qa rfl (Aa (wq rfl (qL A3 AD rfl ?_))))))))
 refine Bp h fun v1 a1 h => Aq [2001, 2002, 2003] (IS N p1 v1 a1) Po rfl (qz Cc rfl (qs AD rfl (Aa (wp rfl (qf D8 rfl (ql BR rfl (Aa (AJ (wq rfl (Be rfl (qe rfl ?_)))))))))))
 refine A0 h (fun h => ?_) fun h => ?_
 ·refine wq rfl (qL A3 AD rfl (qL Cf B0 rfl (qL EN BB rfl ?_)))
  refine Bp h fun v3 a3 h => Ii (ds0 := [_, _, _]) [8, 2001, 2002, 2003] [] [false, false, true, true] (JP N p0 v1 p2 v3 a3) (.p rfl) Pp rfl ⟨rfl, rfl, rfl, tv⟩ rfl rfl (by decide) ⟨rfl, rfl, rfl, rfl, tv⟩ rfl (Ey rfl) tv ⟨(fun _ => rfl), (fun _ => rfl), (fun h => by cases h), (fun h => by cases h), tv⟩ rfl rfl rfl ?_
  refine qs AD rfl (qa rfl (AF (by kernel_rfl) ?_))
  obtain rfl := sj h
  refine Ad (sm [(1000, 2001), (1001, 2002), (1002, 2003)] [(6, oD (.ptr 6 0)), (7, bD v3.1)] [(6, .box [.own 1000, .own 1001, .own 1002]), (1000, .vec 1 (v1.fb.map An)), (1001, .vec 1 (v3.2.1.map An)), (1002, .vec 1 (v3.2.2.map BW))] rfl rfl) (Ao ?_)
  exact ⟨⟨[_, _], ⟨.cellN _ _ _ _ _ _ _ rfl rfl A3 AD rfl rfl (Gf rfl), tm⟩, rfl⟩, ⟨rfl, rfl, rfl, tv⟩⟩
 ·refine wq rfl (Be rfl (qe rfl ?_))
  refine A0 h (fun h => ?_) fun h => ?_
  ·refine wq rfl (qL A3 AD rfl (qL Cf B0 rfl (qf Dg rfl (ql BR rfl ?_))))
   refine Bp h fun v5 a5 h => Ii (ds0 := [_, _, _]) [8, 2001, 2002, 2003] [] [false, false, false, true] (JH N p0 v1 p2.fg v5 a5) (.p rfl) Qd rfl ⟨rfl, rfl, rfl, tv⟩ rfl rfl (by decide) ⟨rfl, rfl, rfl, rfl, tv⟩ rfl (Ey rfl) tv ⟨(fun _ => rfl), (fun _ => rfl), (fun _ => rfl), (fun h => by cases h), tv⟩ rfl rfl rfl ?_
   refine qs AD rfl (qa rfl (AF (by kernel_rfl) ?_))
   obtain rfl := sj h
   refine Ad (sm [(1000, 2001), (1001, 2002), (1002, 2003)] [(6, oD (.ptr 6 0)), (7, bD v5.1)] [(6, .box [.own 1000, .own 1001, .own 1002]), (1000, .vec 1 (v1.fb.map An)), (1001, .vec 1 (v1.fa.map An)), (1002, .vec 1 (v5.2.map BW))] rfl rfl) (Ao ?_)
   exact ⟨⟨[_, _], ⟨.cellN _ _ _ _ _ _ _ rfl rfl A3 AD rfl rfl (Gf rfl), tm⟩, rfl⟩, ⟨rfl, rfl, rfl, tv⟩⟩
  ·refine Aj (wq rfl (qf BQ rfl (ql A8 rfl (qf Dg rfl (ql BR rfl ?_)))))
   refine B6 h fun v6 a6 b6 h => qI Ay Db a6 (Ak b6) rfl (qj BR (Ak b6) rfl (qa rfl (Aa (wp rfl (qm rfl (AS rfl (Aa ?_)))))))
   refine A0 h (fun h => ?_) fun h => ?_
   ·refine wq rfl (qL A3 AD rfl (qs AD rfl (qe rfl ?_)))
    obtain rfl := sj h
    refine Ad (sm [(1000, 2001), (1001, 2002), (1002, 2003)] [(6, oD (.ptr 6 0)), (7, bD false)] [(6, .box [.own 1000, .own 1001, .own 1002]), (1000, .vec 1 (v1.fb.map An)), (1001, .vec 1 (v1.fa.map An)), (1002, .vec 1 (v1.fd.map BW))] rfl rfl) (Ao ?_)
    exact ⟨⟨[_, _], ⟨.cellN _ _ _ _ _ _ _ rfl rfl A3 AD rfl rfl (Gf rfl), tm⟩, rfl⟩, ⟨rfl, rfl, rfl, tv⟩⟩
   ·refine Aj (wq rfl (qf BQ rfl (ql A8 rfl (qf Dg rfl (ql BR rfl ?_)))))
    refine B6 h fun v8 a8 b8 h => qI Ay Db a8 (Ak b8) rfl ?_
    refine Fe rfl rfl rfl rfl (Ak b8) rfl Db rfl (GS rfl) (Fb An v1.fa _ ((-1))) ?_
    refine Aa ?_
    refine AM h (fun v9 => mk [(6, oD (.ptr 6 0)), (8, oD (.ptr 8 0))] [(6, .box [.pure (.nil0), .pure (.nil0), .pure (.nil0)]), (8, .box [.own 2004, .own 2005, .own 2006]), (2004, .vec 1 (v9.map An)), (2005, .vec 1 ((v1.fa.set ((p2.fg).toNat) ((-1))).map An)), (2006, .vec 1 (v1.fd.map BW))]) (fun j9 h => ?_) (fun v9 h => ?_)
    ·refine wq rfl (qf D8 rfl (ql BR rfl (Be rfl (Aa ?_))))
     refine A0 h (fun h => ?_) fun h => ?_
     ·refine Ai Ax rfl (qf Cz rfl (ql A8 rfl (qf Dg rfl (ql BR rfl (qm rfl ?_)))))
      refine B6 h fun v11 a11 b11 h => qI Ay Db a11 (Ak b11) rfl ?_
      refine Fe rfl rfl rfl rfl (Ak b11) rfl Db rfl (GS rfl) (Fb An v1.fb _ v6) ?_
      refine Aa ?_
      exact sn [(2004, 2001), (2005, 2002), (2006, 2003)] h
     ·refine Aj ?_
      exact sn [(2004, 2001), (2005, 2002), (2006, 2003)] h
    ·refine wq rfl (qL A3 AD rfl (qs AD rfl (qe rfl ?_)))
     obtain rfl := sj h
     refine Ad (sm [(1000, 2004), (1001, 2005), (1002, 2006)] [(6, oD (.ptr 6 0)), (7, bD true)] [(6, .box [.own 1000, .own 1001, .own 1002]), (1000, .vec 1 (v9.map An)), (1001, .vec 1 ((v1.fa.set ((p2.fg).toNat) ((-1))).map An)), (1002, .vec 1 (v1.fd.map BW))] rfl rfl) (Ao ?_)
     exact ⟨⟨[_, _], ⟨.cellN _ _ _ _ _ _ _ rfl rfl A3 AD rfl rfl (Gf rfl), tm⟩, rfl⟩, ⟨rfl, rfl, rfl, tv⟩⟩
theorem Jw (N : Nat) (p0 : Ag) (p1 : Ah) (p2 : Ab) (r : Ah × Int) (h : FJ N p0 p1 p2 = some r) : Ap Tryd.prog 60 [.e (.agg (Al p0)), .e (.agg (Az p1)), .e (.agg (B5 p2))] [(1, r.1.fb.map An), (1, r.1.fa.map An), (1, r.1.fd.map BW)] (.tup [.agg [.own 0, .own 1, .own 2], .one (iC r.2)]) := by
 unfold FJ at h
 refine cw (n := 32) (rs := [.cell 6 38, .tmp 7]) Tryd.func60 fun w0 S0 => ?_
 refine wq rfl (qb rfl (qb rfl (qb rfl (qz Cc rfl (qa rfl (Aa (AC (AJ (wq rfl (qL EN BB rfl ?_))))))))))
 refine Bp h fun v1 a1 h => Aq [] (He N p2 v1 a1) O0 rfl (BJ rfl (qe rfl ?_))
 refine A0 h (fun h => ?_) fun h => ?_
 ·refine wq rfl (A4 Cc GB rfl (qs AD rfl (qe rfl ?_)))
  obtain rfl := sj h
  refine Ad ((AO 6 0 2001 1 _ rfl rfl rfl rfl).trans ((AO 6 1 2002 1 _ rfl rfl rfl rfl).trans ((AO 6 2 2003 1 _ rfl rfl rfl rfl).trans (sm [(1000, 2001), (1001, 2002), (1002, 2003)] [(6, oD (.ptr 6 0)), (7, iD 1)] [(6, .box [.own 1000, .own 1001, .own 1002]), (1000, .vec 1 ((([] : List Int)).map An)), (1001, .vec 1 ((([] : List Int)).map An)), (1002, .vec 1 ((([] : List Int)).map BW))] rfl rfl)))) (Ao ?_)
  exact ⟨⟨[_, _], ⟨.cellN _ _ _ _ _ _ _ rfl rfl A3 AD rfl rfl (Gf rfl), tm⟩, rfl⟩, ⟨rfl, rfl, rfl, tv⟩⟩
 ·refine wq rfl (qL Cf B0 rfl (qL EN BB rfl ?_))
  refine Bp h fun v3 a3 h => Aq [] (IQ N p0 p2 v3 a3) PN rfl (BJ rfl (qe rfl ?_))
  refine A0 h (fun h => ?_) fun h => ?_
  ·refine wq rfl (A4 Cc GB rfl (qs AD rfl (qe rfl ?_)))
   obtain rfl := sj h
   refine Ad ((AO 6 0 2004 1 _ rfl rfl rfl rfl).trans ((AO 6 1 2005 1 _ rfl rfl rfl rfl).trans ((AO 6 2 2006 1 _ rfl rfl rfl rfl).trans (sm [(1000, 2004), (1001, 2005), (1002, 2006)] [(6, oD (.ptr 6 0)), (7, iD 4)] [(6, .box [.own 1000, .own 1001, .own 1002]), (1000, .vec 1 ((([] : List Int)).map An)), (1001, .vec 1 ((([] : List Int)).map An)), (1002, .vec 1 ((([] : List Int)).map BW))] rfl rfl)))) (Ao ?_)
   exact ⟨⟨[_, _], ⟨.cellN _ _ _ _ _ _ _ rfl rfl A3 AD rfl rfl (Gf rfl), tm⟩, rfl⟩, ⟨rfl, rfl, rfl, tv⟩⟩
  ·refine Aj (wq rfl (qL Cf B0 rfl (qL A3 AD rfl (qL EN BB rfl ?_))))
   refine Bp h fun v5 a5 h => Aq [2007, 2008, 2009] (Jy N p0 p1 p2 v5 a5) P8 rfl (qm rfl (qx rfl (qx rfl (qz Cc rfl (qs AD rfl (qa rfl (Aa (wp rfl (qm rfl (BJ rfl (Aa ?_)))))))))))
   refine A0 h (fun h => ?_) fun h => ?_
   ·refine wq rfl (A4 Cc GB rfl (qs AD rfl (qe rfl ?_)))
    obtain rfl := sj h
    refine Ad ((AO 6 0 2010 1 _ rfl rfl rfl rfl).trans ((AO 6 1 2011 1 _ rfl rfl rfl rfl).trans ((AO 6 2 2012 1 _ rfl rfl rfl rfl).trans (sm [(1000, 2010), (1001, 2011), (1002, 2012)] [(6, oD (.ptr 6 0)), (7, iD 11)] [(6, .box [.own 1000, .own 1001, .own 1002]), (1000, .vec 1 ((([] : List Int)).map An)), (1001, .vec 1 ((([] : List Int)).map An)), (1002, .vec 1 ((([] : List Int)).map BW))] rfl rfl)))) (Ao ?_)
    exact ⟨⟨[_, _], ⟨.cellN _ _ _ _ _ _ _ rfl rfl A3 AD rfl rfl (Gf rfl), tm⟩, rfl⟩, ⟨rfl, rfl, rfl, tv⟩⟩
   ·refine Aj (wq rfl (qL A3 AD rfl (qs AD rfl (qe rfl ?_))))
    obtain rfl := sj h
    refine Ad (sm [(1000, 2007), (1001, 2008), (1002, 2009)] [(6, oD (.ptr 6 0)), (7, iD 0)] [(6, .box [.own 1000, .own 1001, .own 1002]), (1000, .vec 1 (v5.1.fb.map An)), (1001, .vec 1 (v5.1.fa.map An)), (1002, .vec 1 (v5.1.fd.map BW))] rfl rfl) (Ao ?_)
    exact ⟨⟨[_, _], ⟨.cellN _ _ _ _ _ _ _ rfl rfl A3 AD rfl rfl (Gf rfl), tm⟩, rfl⟩, ⟨rfl, rfl, rfl, tv⟩⟩
theorem Hb (N : Nat) (p0 : Ag) (p1 : Ah) (p2 : Ab) (r : Ah × Int) (h : Eo N p0 p1 p2 = some r) : Ap Tryd.prog 46 [.e (.agg (Al p0)), .e (.agg (Az p1)), .e (.agg (B5 p2))] [(1, r.1.fb.map An), (1, r.1.fa.map An), (1, r.1.fd.map BW)] (.tup [.agg [.own 0, .own 1, .own 2], .one (iC r.2)]) := by
 unfold Eo at h
 refine cw (n := 22) (rs := [.cell 6 38, .tmp 7]) Tryd.func46 fun w0 S0 => ?_
 refine wq rfl (qb rfl (qb rfl (qb rfl (qz Cc rfl (qa rfl (Aa (wp rfl (qL Cf B0 rfl (qL A3 AD rfl ?_)))))))))
 refine Bp h fun v1 a1 h => Aq [] (Ft N p0 p1 v1 a1) M4 rfl (qa rfl (Aa (wq rfl (qm rfl (Bb rfl (Aa ?_))))))
 refine A0 h (fun h => ?_) fun h => ?_
 ·refine wq rfl (A4 Cc GB rfl (qm rfl (qs AD rfl (qe rfl ?_))))
  obtain rfl := sj h
  refine Ad ((AO 6 0 2001 1 _ rfl rfl rfl rfl).trans ((AO 6 1 2002 1 _ rfl rfl rfl rfl).trans ((AO 6 2 2003 1 _ rfl rfl rfl rfl).trans (sm [(1000, 2001), (1001, 2002), (1002, 2003)] [(6, oD (.ptr 6 0)), (7, iD v1)] [(6, .box [.own 1000, .own 1001, .own 1002]), (1000, .vec 1 ((([] : List Int)).map An)), (1001, .vec 1 ((([] : List Int)).map An)), (1002, .vec 1 ((([] : List Int)).map BW))] rfl rfl)))) (Ao ?_)
  exact ⟨⟨[_, _], ⟨.cellN _ _ _ _ _ _ _ rfl rfl A3 AD rfl rfl (Gf rfl), tm⟩, rfl⟩, ⟨rfl, rfl, rfl, tv⟩⟩
 ·refine Aj (wq rfl (qL Cf B0 rfl (qL A3 AD rfl (qL EN BB rfl ?_))))
  refine Bp h fun v3 a3 h => Aq [2004, 2005, 2006] (Jw N p0 p1 p2 v3 a3) PD rfl (qx rfl (qx rfl (qs AD rfl (qe rfl ?_))))
  obtain rfl := sj h
  refine Ad (sm [(1000, 2004), (1001, 2005), (1002, 2006)] [(6, oD (.ptr 6 0)), (7, iD v3.2)] [(6, .box [.own 1000, .own 1001, .own 1002]), (1000, .vec 1 (v3.1.fb.map An)), (1001, .vec 1 (v3.1.fa.map An)), (1002, .vec 1 (v3.1.fd.map BW))] rfl rfl) (Ao ?_)
  exact ⟨⟨[_, _], ⟨.cellN _ _ _ _ _ _ _ rfl rfl A3 AD rfl rfl (Gf rfl), tm⟩, rfl⟩, ⟨rfl, rfl, rfl, tv⟩⟩
theorem F7 (N : Nat) (p0 : List Int) (p1 : List Int) (r : Bool) (h : CD N p0 p1 = some r) : Ap Tryd.prog 56 [pD (.sl (p0.map An)), pD (.sl (p1.map An))] [] (bD r) := by
 unfold CD at h
 refine cw (n := 26) (rs := [.tmp 4]) Tryd.func56 fun w0 S0 => ?_
 refine wq rfl (qa rfl (Aa (wp rfl (qm rfl (Aw Ay rfl (qm rfl (Aw Ay rfl (Bb rfl (Aa ?_)))))))))
 refine A0 h (fun h => ?_) fun h => ?_
 ·refine wq rfl (qe rfl ?_)
  obtain rfl := sj h
  refine Ad (sm [] [(4, bD false)] [] rfl rfl) (Ao ?_)
  exact ⟨⟨[_], tm, rfl⟩, tv⟩
 ·refine Aj (wp rfl (qm rfl (Aw Ay rfl (qm rfl (Aa ?_)))))
  refine AE (L := Bv N p0 p1) h (fun v2 => mk [(0, pD (.sl (p0.map An))), (1, pD (.sl (p1.map An))), (12, iD ((p0.length : Int))), (13, iD v2)] []) (fun v3 => mk [] []) (fun _ _ => rfl) (sm [] _ _ rfl rfl) (fun j2 n2 v2 h => ?_) (fun v3 s h hs => ?_)
  ·unfold Bv at h
   refine wq rfl (AS rfl (Aa (AC ?_)))
   refine A0 h (fun h => ?_) fun h => ?_
   ·refine Aj (AC (AJ (wq rfl (qm rfl (qa rfl (Aa (wq rfl (qw 2 rfl ?_))))))))
    refine B6 h fun v5 a5 b5 h => qi Ay Db a5 (Ak b5) rfl (qk BR rfl (qw 2 rfl ?_))
    refine B6 h fun v6 a6 b6 h => qi Ay Db a6 (Ak b6) rfl (qk BR rfl (Bb rfl (AF (by kernel_rfl) ?_)))
    refine A0 h (fun h => ?_) fun h => ?_
    ·refine wq rfl (qe rfl ?_)
     obtain rfl := sj h
     refine Ad (sm [] [(4, bD false)] [] rfl rfl) (Ao ?_)
     exact ⟨⟨[_], tm, rfl⟩, tv⟩
    ·refine Aj (Ai Ax rfl (Bf rfl (qm rfl (Aa ?_))))
     exact sn [] h
   ·refine AR ?_
    exact sn [] h
  ·refine Ad hs (wq rfl (qe rfl ?_))
   obtain rfl := sj h
   refine Ad (sm [] [(4, bD true)] [] rfl rfl) (Ao ?_)
   exact ⟨⟨[_], tm, rfl⟩, tv⟩
theorem E6 (N : Nat) (p0 : List Int) (p1 : Int → Option Bool) (r : Int) (h : B7 N p0 p1 = some r) : Ap Tryd.prog 71 [pD (.sl (p0.map An)), oD (.clo (IC (Lu false An) tB p1))] [] (iD r) := by
 unfold B7 at h
 refine cw (n := 19) (rs := [.tmp 4]) Tryd.func71 fun w0 S0 => ?_
 refine wq rfl (qa rfl (Aa (wp rfl (qm rfl (Aw Ay rfl (qm rfl (Aa ?_)))))))
 refine AE (L := Bh N p0 p1) h (fun v1 => mk [(0, pD (.sl (p0.map An))), (1, oD (.clo (IC (Lu false An) tB p1))), (7, iD ((p0.length : Int))), (8, iD v1)] []) (fun v2 => mk [] []) (fun _ _ => rfl) (sm [] _ _ rfl rfl) (fun j1 n1 v1 h => ?_) (fun v2 s h hs => ?_)
 ·unfold Bh at h
  refine wq rfl (AS rfl (Aa (AC ?_)))
  refine A0 h (fun h => ?_) fun h => ?_
  ·refine Aj (AC (AJ (wq rfl (qm rfl (qa rfl (Aa (wq rfl (qw 3 rfl ?_))))))))
   refine B6 h fun v4 a4 b4 h => qi Ay Db a4 (Ak b4) rfl (qk BR rfl ?_)
   refine Bp h fun v5 a5 h => K0 (ds0 := [_]) (ar := (Lu false An) v4) (.p rfl) rfl rfl ⟨rfl, tv⟩ rfl rfl rfl (KY (K7 _ _ NY) a5) ?_
   refine Aa ?_
   refine A0 h (fun h => ?_) fun h => ?_
   ·refine wq rfl (qm rfl (qe rfl ?_))
    obtain rfl := sj h
    refine Ad (sm [] [(4, iD v1)] [] rfl rfl) (Ao ?_)
    exact ⟨⟨[_], tm, rfl⟩, tv⟩
   ·refine Aj (Ai Ax rfl (Bf rfl (qm rfl (Aa ?_))))
    exact sn [] h
  ·refine AR ?_
   exact sn [] h
 ·refine Ad hs (wq rfl (qe rfl ?_))
  obtain rfl := sj h
  refine Ad (sm [] [(4, iD ((-1)))] [] rfl rfl) (Ao ?_)
  exact ⟨⟨[_], tm, rfl⟩, tv⟩
theorem Ex (N : Nat) (p0 : List Int) (p1 : Int → Option Bool) (r : Bool) (h : BM N p0 p1 = some r) : Ap Tryd.prog 57 [pD (.sl (p0.map An)), oD (.clo (IC (Lu false An) tB p1))] [] (bD r) := by
 unfold BM at h
 refine cw (n := 9) (rs := [.tmp 4]) Tryd.func57 fun w0 S0 => ?_
 refine wq rfl (qa rfl (Aa (wq rfl (qw 2 rfl ?_))))
 refine Bp h fun v1 a1 h => Aq [] (E6 N p0 p1 v1 a1) PM rfl (EC rfl (qe rfl ?_))
 obtain rfl := sj h
 refine Ad (sm [] [(4, bD ((decide (0 ≤ v1))))] [] rfl rfl) (Ao ?_)
 exact ⟨⟨[_], tm, rfl⟩, tv⟩
theorem JS (N : Nat) (p0 : Int) (r : Bool) (h : En N p0 = some r) : Ap Tryd.prog 58 [iD p0] [] (bD r) := by
 unfold En at h
 refine cw (n := 5) (rs := [.tmp 2]) Tryd.func58 fun w0 S0 => ?_
 refine wq rfl (qa rfl (Aa (wq rfl (qm rfl (EC rfl (qe rfl ?_))))))
 obtain rfl := sj h
 refine Ad (sm [] [(2, bD ((decide (0 ≤ p0))))] [] rfl rfl) (Ao ?_)
 exact ⟨⟨[_], tm, rfl⟩, tv⟩
theorem Ip (N : Nat) (p0 : Ag) (p1 : Ah) (r : Bool) (h : Fr N p0 p1 = some r) : Ap Tryd.prog 39 [.e (.agg (Al p0)), .e (.agg (Az p1))] [] (bD r) := by
 unfold Fr at h
 refine cw (n := 22) (rs := [.tmp 4]) Tryd.func39 fun w0 S0 => ?_
 refine wq rfl (qb rfl (qb rfl (qe rfl ?_)))
 refine AM h (fun v1 => mk [(4, bD v1)] []) (fun j1 h => ?_) (fun v1 h => ?_)
 ·refine Ai Ax rfl (qL Cf B0 rfl (qL A3 AD rfl ?_))
  refine Bp h fun v2 a2 h => Aq [] (Ft N p0 p1 v2 a2) M4 rfl (Be rfl (qm rfl ?_))
  refine CV 9 h rfl (fun h => ?_) fun h => ?_
  ·refine qf Cz rfl (ql A8 rfl (qf GK rfl (ql A8 rfl ?_)))
   refine Bp h fun v4 a4 h => Aq [] (F7 N p1.fb p0.fp v4 a4) PC rfl (qp rfl (qm rfl ?_))
   refine CV 16 h rfl (fun h => ?_) fun h => ?_
   ·refine qf BQ rfl (ql A8 rfl ?_)
    refine Bp h fun v6 a6 h => Aq [] (Ap.weak (ds' := [pD (.sl (p1.fa.map An)), oD (.fnc 58)]) (Ex N p1.fa ((fun (x : Int) => En N x)) v6 a6) ⟨(fun _ _ _ hh => hh), (fun _ _ _ hh => MO PS (fun ar t ht => by obtain ⟨x, r, rfl, hq, rfl⟩ := Jb ht; exact JS N x r hq) hh), tv⟩) PY rfl ?_
    refine BJ rfl (qp rfl (qe rfl ?_))
    exact sn [] h
   ·refine qw 4 rfl (qp rfl (qe rfl ?_))
    exact sn [] h
  ·refine qw 5 rfl (qp rfl (qw 5 rfl (qp rfl (qe rfl ?_))))
   exact sn [] h
 ·obtain rfl := sj h
  refine Ad (sm [] [(4, bD v1)] [] rfl rfl) (Ao ?_)
  exact ⟨⟨[_], tm, rfl⟩, tv⟩
theorem IK (N : Nat) (p0 : Ag) (p1 : List Ab) (r : Int × Ah × Ar × Int) (h : EE N p0 p1 = some r) : Ap Tryd.prog 45 [.e (.agg (Al p0)), pD (.sl (p1.map Af))] [] (.tup [.one (iC r.1), .agg (Az r.2.1), .agg (D2 r.2.2.1), .one (iC r.2.2.2)]) := by
 unfold EE at h
 refine cw (n := 89) (rs := [.tmp 4, .cell 5 38, .cell 6 93, .tmp 7]) Tryd.func45 fun w0 S0 => ?_
 refine wq rfl (qb rfl (qa rfl (qz Cc rfl (qz Ge rfl (qa rfl (Aa (wq rfl (qL Cf B0 rfl ?_))))))))
 refine Bp h fun v1 a1 h => Aq [2001, 2002, 2003] (Gk N p0 v1 a1) NP rfl (qm rfl (qx rfl (qx rfl (qz Cc rfl (qs AD rfl (qa rfl (Aa (wp rfl (qm rfl (Bb rfl (Aa ?_)))))))))))
 refine A0 h (fun h => ?_) fun h => ?_
 ·refine wq rfl (A4 Cc GB rfl (A4 Ge Kn rfl (qm rfl (qa rfl (qs AD rfl (qs DT rfl (qe rfl ?_)))))))
  obtain rfl := sj h
  refine Ad ((Dh 5 _ rfl).trans (sm [] [(4, iD 0), (5, oD (.ptr 5 0)), (6, oD (.ptr 6 0)), (7, iD v1.2)] [(5, .box [sC ((([] : List Int)).map An), sC ((([] : List Int)).map An), sC ((([] : List Int)).map BW)]), (6, .box [iC 0, iC 0, iC 0])] rfl rfl)) (Ao ?_)
  exact ⟨⟨[_, _, _, _], ⟨.tmp _ _ rfl, ⟨.cellN _ _ _ _ _ _ _ rfl rfl A3 AD rfl rfl (Gf rfl), ⟨.cellN _ _ _ _ _ _ _ rfl rfl Id DT rfl rfl (Gf rfl), tm⟩⟩⟩, rfl⟩, tv⟩
 ·refine Aj (wp rfl (qL Cf B0 rfl (qL A3 AD rfl (CI (AT 2001 _ _ rfl rfl) (CI (AT 2002 _ _ rfl rfl) (CI (AT 2003 _ _ rfl rfl) ?_))))))
  refine Bp h fun v3 a3 h => Aq [] (GD N p0 v1.1 v3 a3) NS rfl (qm rfl (qx rfl (qx rfl (qx rfl (qz Cc rfl (qz Ge rfl (qs AD rfl (qs DT rfl (qa rfl (Aa (wq rfl (qm rfl (Be rfl (Aa ?_))))))))))))))
  refine A0 h (fun h => ?_) fun h => ?_
  ·refine wq rfl (qL A3 AD rfl (qL Id DT rfl (qa rfl (qs AD rfl (qs DT rfl (qa rfl (AF (by kernel_rfl) ?_)))))))
   obtain rfl := sj h
   refine Ad (sm [] [(4, iD ((-1))), (5, oD (.ptr 5 0)), (6, oD (.ptr 6 0)), (7, iD 0)] [(5, .box (Az v3.1)), (6, .box (D2 v3.2.1))] rfl rfl) (Ao ?_)
   exact ⟨⟨[_, _, _, _], ⟨.tmp _ _ rfl, ⟨.cellN _ _ _ _ _ _ _ rfl rfl A3 AD rfl rfl (Gf rfl), ⟨.cellN _ _ _ _ _ _ _ rfl rfl Id DT rfl rfl (Gf rfl), tm⟩⟩⟩, rfl⟩, tv⟩
  ·refine Aj (wp rfl (qm rfl (Aw AV rfl (qm rfl (Aa ?_)))))
   refine AE (L := CO N p0 p1) h (fun v5 => mk [(1, pD (.sl (p1.map Af))), (2, oD (.ptr 2 0)), (5, oD (.ptr 5 0)), (6, oD (.ptr 6 0)), (8, oD (.ptr 8 0)), (41, pD (.sl (p1.map Af))), (42, iD ((p1.length : Int))), (43, iD v5.2)] [(2, .box (Al p0)), (5, .box [.pure (.nil0), .pure (.nil0), .pure (.nil0)]), (6, .box [iC 0, iC 0, iC 0]), (8, .box (Az v5.1))]) (fun v6 => mk [(1, pD (.sl (p1.map Af))), (2, oD (.ptr 2 0)), (5, oD (.ptr 5 0)), (6, oD (.ptr 6 0)), (8, oD (.ptr 8 0))] [(2, .box (Al p0)), (5, .box [.pure (.nil0), .pure (.nil0), .pure (.nil0)]), (6, .box [iC 0, iC 0, iC 0]), (8, .box (Az v6))]) (fun _ _ => rfl) (sm [] _ _ rfl rfl) (fun j5 n5 v5 h => ?_) (fun v6 s h hs => ?_)
   ·unfold CO at h
    refine wq rfl (AS rfl (Aa (AC ?_)))
    refine A0 h (fun h => ?_) fun h => ?_
    ·refine Aj (AC (AJ (wq rfl (qm rfl ?_))))
     refine B6 h fun v8 a8 b8 h => qi AV BB a8 (Ak b8) rfl (qK EN BB rfl (qz GQ rfl (qa rfl (qs BB rfl (Aa (wq rfl (qL Cf B0 rfl (qL A3 AD rfl (qL EN BB rfl ?_)))))))))
     refine Bp h fun v9 a9 h => Aq [2004, 2005, 2006] (Hb N p0 v5.1 v8 v9 a9) OP rfl (qm rfl (qx rfl (qx rfl (qz Cc rfl (qs AD rfl (qa rfl (Aa (AC ?_))))))))
     refine AM h (fun v10 => mk [(1, pD (.sl (p1.map Af))), (2, oD (.ptr 2 0)), (5, oD (.ptr 5 0)), (6, oD (.ptr 6 0)), (8, oD (.ptr 8 0)), (13, iD v5.2), (15, oD (.ptr 15 0)), (41, pD (.sl (p1.map Af))), (42, iD ((p1.length : Int))), (43, iD v5.2), (61, bD v10)] [(2, .box (Al p0)), (5, .box [.pure (.nil0), .pure (.nil0), .pure (.nil0)]), (6, .box [iC 0, iC 0, iC 0]), (8, .box (Az v5.1)), (15, .box [.own 2007, .own 2008, .own 2009]), (2007, .vec 1 (v9.1.fb.map An)), (2008, .vec 1 (v9.1.fa.map An)), (2009, .vec 1 (v9.1.fd.map BW))]) (fun j10 h => ?_) (fun v10 h => ?_)
     ·refine Ai Ax rfl (qm rfl (Bb rfl (qm rfl ?_)))
      refine CV 57 h rfl (fun h => ?_) fun h => ?_
      ·refine qw 3 rfl (qp rfl (Aa ?_))
       exact sn [(2007, 2004), (2008, 2005), (2009, 2006)] h
      ·refine qf D8 rfl (ql BR rfl (Be rfl (qp rfl (Aa ?_))))
       exact sn [(2007, 2004), (2008, 2005), (2009, 2006)] h
     ·refine A0 h (fun h => ?_) fun h => ?_
      ·refine wq rfl (qm rfl (A4 Cc GB rfl (A4 Ge Kn rfl (qa rfl (qs AD rfl (qs DT rfl (qe rfl ?_)))))))
       obtain rfl := sj h
       refine Ad ((Dh 5 _ rfl).trans (sm [] [(4, iD v5.2), (5, oD (.ptr 5 0)), (6, oD (.ptr 6 0)), (7, iD 0)] [(5, .box [sC ((([] : List Int)).map An), sC ((([] : List Int)).map An), sC ((([] : List Int)).map BW)]), (6, .box [iC 0, iC 0, iC 0])] rfl rfl)) (Ao ?_)
       exact ⟨⟨[_, _, _, _], ⟨.tmp _ _ rfl, ⟨.cellN _ _ _ _ _ _ _ rfl rfl A3 AD rfl rfl (Gf rfl), ⟨.cellN _ _ _ _ _ _ _ rfl rfl Id DT rfl rfl (Gf rfl), tm⟩⟩⟩, rfl⟩, tv⟩
      ·refine Aj (wp rfl (qL Cf B0 rfl (qL A3 AD rfl (CI (AT 2007 _ _ rfl rfl) (CI (AT 2008 _ _ rfl rfl) (CI (AT 2009 _ _ rfl rfl) ?_))))))
       refine Bp h fun v13 a13 h => Aq [] (GD N p0 v9.1 v13 a13) NS rfl (qm rfl (qx rfl (qx rfl (qx rfl (qz Cc rfl (qz Ge rfl (qs AD rfl (qs DT rfl (qa rfl (Aa (wq rfl (qm rfl (Be rfl (Aa ?_))))))))))))))
       refine A0 h (fun h => ?_) fun h => ?_
       ·refine wq rfl (qm rfl (qL A3 AD rfl (qL Id DT rfl (qa rfl (qs AD rfl (qs DT rfl (qa rfl (AF (by kernel_rfl) ?_))))))))
        obtain rfl := sj h
        refine Ad (sm [] [(4, iD v5.2), (5, oD (.ptr 5 0)), (6, oD (.ptr 6 0)), (7, iD 0)] [(5, .box (Az v13.1)), (6, .box (D2 v13.2.1))] rfl rfl) (Ao ?_)
        exact ⟨⟨[_, _, _, _], ⟨.tmp _ _ rfl, ⟨.cellN _ _ _ _ _ _ _ rfl rfl A3 AD rfl rfl (Gf rfl), ⟨.cellN _ _ _ _ _ _ _ rfl rfl Id DT rfl rfl (Gf rfl), tm⟩⟩⟩, rfl⟩, tv⟩
       ·refine Aj (Ai Ax rfl (qL A3 AD rfl (qs AD rfl (Aa (Ai Ax rfl (Bf rfl (qm rfl (Aa ?_))))))))
        exact sn [] h
    ·refine AR ?_
     exact sn [] h
   ·refine Ad hs (wp rfl (qL Cf B0 rfl (qL A3 AD rfl ?_)))
    refine Bp h fun v15 a15 h => Aq [] (Ip N p0 v6 v15 a15) O8 rfl (BJ rfl (Aa ?_))
    refine A0 h (fun h => ?_) fun h => ?_
    ·refine wq rfl (qm rfl (Aw AV rfl (A4 Cc GB rfl (A4 Ge Kn rfl (qa rfl (qs AD rfl (qs DT rfl (qe rfl ?_))))))))
     obtain rfl := sj h
     refine Ad ((Dh 5 _ rfl).trans (sm [] [(4, iD ((p1.length : Int))), (5, oD (.ptr 5 0)), (6, oD (.ptr 6 0)), (7, iD 14)] [(5, .box [sC ((([] : List Int)).map An), sC ((([] : List Int)).map An), sC ((([] : List Int)).map BW)]), (6, .box [iC 0, iC 0, iC 0])] rfl rfl)) (Ao ?_)
     exact ⟨⟨[_, _, _, _], ⟨.tmp _ _ rfl, ⟨.cellN _ _ _ _ _ _ _ rfl rfl A3 AD rfl rfl (Gf rfl), ⟨.cellN _ _ _ _ _ _ _ rfl rfl Id DT rfl rfl (Gf rfl), tm⟩⟩⟩, rfl⟩, tv⟩
    ·refine Aj (wq rfl (A4 Cc GB rfl (A4 Ge Kn rfl (qa rfl (qs AD rfl (qs DT rfl (qe rfl ?_)))))))
     obtain rfl := sj h
     refine Ad ((Dh 5 _ rfl).trans (sm [] [(4, iD 0), (5, oD (.ptr 5 0)), (6, oD (.ptr 6 0)), (7, iD 15)] [(5, .box [sC ((([] : List Int)).map An), sC ((([] : List Int)).map An), sC ((([] : List Int)).map BW)]), (6, .box [iC 0, iC 0, iC 0])] rfl rfl)) (Ao ?_)
     exact ⟨⟨[_, _, _, _], ⟨.tmp _ _ rfl, ⟨.cellN _ _ _ _ _ _ _ rfl rfl A3 AD rfl rfl (Gf rfl), ⟨.cellN _ _ _ _ _ _ _ rfl rfl Id DT rfl rfl (Gf rfl), tm⟩⟩⟩, rfl⟩, tv⟩
theorem JJ (N : Nat) (p0 : Ag) (p1 : List Ab) (r : Bool) (h : FA N p0 p1 = some r) : Ap Tryd.prog 30 [.e (.agg (Al p0)), pD (.sl (p1.map Af))] [] (bD r) := by
 unfold FA at h
 refine cw (n := 19) (rs := [.tmp 4]) Tryd.func30 fun w0 S0 => ?_
 refine wq rfl (qb rfl (qa rfl (Aa (wq rfl (qL Cf B0 rfl (qm rfl ?_))))))
 refine Bp h fun v1 a1 h => Aq [] (IK N p0 p1 v1 a1) Qc rfl (qm rfl (qx rfl (qx rfl (qx rfl (qx rfl (qz Cc rfl (qz Ge rfl (qa rfl (qs AD rfl (qs DT rfl (qa rfl (Aa (wq rfl (qm rfl (Be rfl (qe rfl ?_))))))))))))))))
 obtain rfl := sj h
 refine Ad (sm [] [(4, bD ((v1.2.2.2 == 15)))] [] rfl rfl) (Ao ?_)
 exact ⟨⟨[_], tm, rfl⟩, tv⟩
theorem F4 (N : Nat) (p0 : Ag) (p1 : Ah) (r : Bool × Int) (h : Dx N p0 p1 = some r) : Ap Tryd.prog 33 [.e (.agg (Al p0)), .e (.agg (Az p1))] [] (.tup [.one (.pure (.val (.bool r.1))), .one (iC r.2)]) := by
 unfold Dx at h
 refine cw (n := 22) (rs := [.tmp 4, .tmp 5]) Tryd.func33 fun w0 S0 => ?_
 refine wq rfl (qb rfl (qb rfl (qa rfl (qa rfl (Aa (wq rfl (qL Cf B0 rfl (qL A3 AD rfl ?_))))))))
 refine Bp h fun v1 a1 h => Aq [] (GD N p0 p1 v1 a1) NS rfl (qm rfl (qx rfl (qx rfl (qx rfl (qz Cc rfl (qz Ge rfl (qs AD rfl (qs DT rfl (qa rfl (Aa (wq rfl (qm rfl (Aa (AJ (wq rfl (Be rfl (qe rfl ?_)))))))))))))))))
 refine A0 h (fun h => ?_) fun h => ?_
 ·refine wq rfl (qa rfl (qe rfl ?_))
  obtain rfl := sj h
  refine Ad (sm [] [(4, bD false), (5, iD 0)] [] rfl rfl) (Ao ?_)
  exact ⟨⟨[_, _], ⟨.tmp _ _ rfl, tm⟩, rfl⟩, tv⟩
 ·refine wq rfl (Be rfl (qe rfl ?_))
  refine A0 h (fun h => ?_) fun h => ?_
  ·refine wq rfl (qa rfl (qe rfl ?_))
   obtain rfl := sj h
   refine Ad (sm [] [(4, bD true), (5, iD 0)] [] rfl rfl) (Ao ?_)
   exact ⟨⟨[_, _], ⟨.tmp _ _ rfl, tm⟩, rfl⟩, tv⟩
  ·refine wq rfl (qm rfl (qa rfl (qe rfl ?_)))
   obtain rfl := sj h
   refine Ad (sm [] [(4, bD false), (5, iD v1.2.2)] [] rfl rfl) (Ao ?_)
   exact ⟨⟨[_, _], ⟨.tmp _ _ rfl, tm⟩, rfl⟩, tv⟩
theorem JU (N : Nat) (p0 : Int) (r : ByteArray) (h : F5 N p0 = some r) : Ap Tryd.prog 64 [iD p0] [] (pD (.val (.string r))) := by
 unfold F5 at h
 refine cw (n := 7) (rs := [.tmp 2]) Tryd.func64 fun w0 S0 => ?_
 refine wq rfl (qa rfl (Aa (wq rfl (EO Lz Qo Qr rfl (qm rfl ?_)))))
 refine B6 h fun v1 a1 b1 h => Kc (.p rfl) rfl rfl rfl Lz Qo a1 (Ak (f := eS) b1) ?_
 refine JV (.p rfl) rfl Qy rfl (Ak (f := eS) b1) rfl ?_
 refine qa rfl (Aa ?_)
 obtain rfl := sj h
 refine Ad (sm [] [(2, pD (.val (.string v1)))] [] rfl rfl) (Ao ?_)
 exact ⟨⟨[_], tm, rfl⟩, tv⟩
def Mj : Go.Shelf.Ren := ⟨fun | 129 => 96 | 171 => 65 | 243 => 77 | 246 => 85 | 283 => 90 | 284 => 91 | 285 => 92 | 286 => 93 | 317 => 95 | 318 => 97 | 319 => 98 | 320 => 99 | 337 => 100 | 338 => 101 | n => n, fun | 0 => 0 | 2 => 2 | 3 => 3 | 4 => 4 | 5 => 5 | 9 => 9 | 20 => 20 | 37 => 22 | 46 => 110 | 51 => 123 | 53 => 126 | 171 => 143 | 173 => 146 | 212 => 151 | 213 => 152 | 232 => 155 | 233 => 156 | n => n, fun | 17 => 0 | 18 => 1 | 19 => 2 | n => n⟩
theorem N9 : LaysM.n171 Tryd.prog Mj := { mixed := Ax, f129 := Tryd.func96.trans (congrArg some (by kernel_rfl)), f171 := Tryd.func65.trans (congrArg some (by kernel_rfl)), f243 := Tryd.func77.trans (congrArg some (by kernel_rfl)), f246 := Tryd.func85.trans (congrArg some (by kernel_rfl)), f283 := Tryd.func90.trans (congrArg some (by kernel_rfl)), f284 := Tryd.func91.trans (congrArg some (by kernel_rfl)), f285 := Tryd.func92.trans (congrArg some (by kernel_rfl)), f286 := Tryd.func93.trans (congrArg some (by kernel_rfl)), f317 := Tryd.func95.trans (congrArg some (by kernel_rfl)), f318 := Tryd.func97.trans (congrArg some (by kernel_rfl)), f319 := Tryd.func98.trans (congrArg some (by kernel_rfl)), f320 := Tryd.func99.trans (congrArg some (by kernel_rfl)), f337 := Tryd.func100.trans (congrArg some (by kernel_rfl)), f338 := Tryd.func101.trans (congrArg some (by kernel_rfl)), t0 := Tryd.underlying0, a0 := Tryd.isAgg0, z0 := Tryd.sizeOf0, v0 := Tryd.zeroValue0, t2 := Tryd.underlying2, a2 := Tryd.isAgg2, z2 := Tryd.sizeOf2, v2 := Tryd.zeroValue2, t3 := Tryd.underlying3, a3 := Tryd.isAgg3, z3 := Tryd.sizeOf3, v3 := Tryd.zeroValue3, t4 := Tryd.underlying4, a4 := Tryd.isAgg4, z4 := Tryd.sizeOf4, v4 := Tryd.zeroValue4, t5 := Tryd.underlying5, a5 := Tryd.isAgg5, z5 := Tryd.sizeOf5, v5 := Tryd.zeroValue5, t9 := Tryd.underlying9, a9 := Tryd.isAgg9, z9 := Tryd.sizeOf9, v9 := Tryd.zeroValue9, t20 := Tryd.underlying20, a20 := Tryd.isAgg20, z20 := Tryd.sizeOf20, v20 := Tryd.zeroValue20, t37 := Tryd.underlying22, a37 := Tryd.isAgg22, z37 := Tryd.sizeOf22, v37 := Tryd.zeroValue22, t46 := Tryd.underlying110, a46 := Tryd.isAgg110, z46 := Tryd.sizeOf110, v46 := Tryd.zeroValue110, t51 := Tryd.underlying123, a51 := Tryd.isAgg123, z51 := Tryd.sizeOf123, v51 := Tryd.zeroValue123, t53 := Tryd.underlying126, a53 := Tryd.isAgg126, z53 := Tryd.sizeOf126, v53 := Tryd.zeroValue126, t171 := Tryd.underlying143, a171 := Tryd.isAgg143, z171 := Tryd.sizeOf143, v171 := Tryd.zeroValue143, t173 := Tryd.underlying146, a173 := Tryd.isAgg146, z173 := Tryd.sizeOf146, v173 := Tryd.zeroValue146, t212 := Tryd.underlying151, a212 := Tryd.isAgg151, z212 := Tryd.sizeOf151, v212 := Tryd.zeroValue151, t213 := Tryd.underlying152, a213 := Tryd.isAgg152, z213 := Tryd.sizeOf152, t232 := Tryd.underlying155, a232 := Tryd.isAgg155, z232 := Tryd.sizeOf155, v232 := Tryd.zeroValue155, t233 := Tryd.underlying156, a233 := Tryd.isAgg156, z233 := Tryd.sizeOf156, v233 := Tryd.zeroValue156, g17 := by kernel_rfl, g18 := by kernel_rfl, g19 := by kernel_rfl, i0 := by kernel_rfl, i2 := by kernel_rfl, i3 := by kernel_rfl, i4 := by kernel_rfl, i5 := by kernel_rfl, i9 := by kernel_rfl, i20 := by kernel_rfl, i37 := by kernel_rfl, i46 := by kernel_rfl, i51 := by kernel_rfl, i53 := by kernel_rfl, i171 := by kernel_rfl, i173 := by kernel_rfl, i212 := by kernel_rfl, i232 := by kernel_rfl, i233 := by kernel_rfl, m17 := by kernel_rfl, m18 := by kernel_rfl, m19 := by kernel_rfl }
theorem Gw (N : Nat) (p0 : Int) (r : ByteArray) (h : EF N p0 = some r) : Ap Tryd.prog 65 [iD p0] [] (pD (.val (.string r))) := NO N9 (g := Mj.g 17) (by kernel_rfl) h
theorem I0 (N : Nat) (p0 : Ab) (r : ByteArray × Int) (h : Fg N p0 = some r) : Ap Tryd.prog 48 [.e (.agg (B5 p0))] [] (.tup [.one (.pure (.val (.string r.1))), .one (iC r.2)]) := by
 unfold Fg at h
 refine cw (n := 26) (rs := [.tmp 2, .tmp 3]) Tryd.func48 fun w0 S0 => ?_
 refine wq rfl (qb rfl (qa rfl (qa rfl (Aa (wp rfl (qL EN BB rfl ?_))))))
 refine Bp h fun v1 a1 h => Aq [] (He N p0 v1 a1) O0 rfl (BJ rfl (Aa ?_))
 refine A0 h (fun h => ?_) fun h => ?_
 ·refine wq rfl (qa rfl (qe rfl ?_))
  obtain rfl := sj h
  refine Ad (sm [] [(2, pD (.val (.string ((⟨#[]⟩ : ByteArray))))), (3, iD 1)] [] rfl rfl) (Ao ?_)
  exact ⟨⟨[_, _], ⟨.tmp _ _ rfl, tm⟩, rfl⟩, tv⟩
 ·refine Aj (wq rfl (qf D8 rfl (ql BR rfl ?_)))
  refine Bp h fun v3 a3 h => Aq [] (JU N p0.fe v3 a3) Ps rfl ?_
  refine Fu h fun c4 h => DM (.p rfl) rfl rfl (Hy _ _ _ _ c4) rfl ?_
  refine qf Dg rfl (ql BR rfl ?_)
  refine Bp h fun v5 a5 h => Aq [] (Gw N p0.fg v5 a5) Pj rfl ?_
  refine Fu h fun c6 h => DM (.p rfl) rfl rfl (Hy _ _ _ _ c6) rfl ?_
  refine qa rfl (AF (by kernel_rfl) ?_)
  refine AM h (fun v7 => mk [(4, pD (.val (.string v7)))] []) (fun j7 h => ?_) (fun v7 h => ?_)
  ·refine wq rfl (qf D8 rfl (ql BR rfl (Be rfl (Aa ?_))))
   refine A0 h (fun h => ?_) fun h => ?_
   ·refine Ai Ax rfl (qm rfl (qf FW rfl (ql BR rfl ?_)))
    refine Bp h fun v9 a9 h => Aq [] (Gw N p0.fh v9 a9) Pj rfl ?_
    refine Fu h fun c10 h => DM (.p rfl) rfl rfl (Hy _ _ _ _ c10) rfl ?_
    refine Fu h fun c11 h => DM (.p rfl) rfl rfl (Hy _ _ _ _ c11) rfl ?_
    refine qa rfl (Aa ?_)
    exact sn [] h
   ·refine Aj ?_
    exact sn [] h
  ·refine wq rfl (qm rfl (qa rfl (qe rfl ?_)))
   obtain rfl := sj h
   refine Ad (sm [] [(2, pD (.val (.string v7))), (3, iD 0)] [] rfl rfl) (Ao ?_)
   exact ⟨⟨[_, _], ⟨.tmp _ _ rfl, tm⟩, rfl⟩, tv⟩
theorem D5 (N : Nat) (p0 : List Ab) (p1 : Ab) (r : Int) (h : Br N p0 p1 = some r) : Ap Tryd.prog 66 [pD (.sl (p0.map Af)), .e (.agg (B5 p1))] [] (iD r) := by
 unfold Br at h
 refine cw (n := 19) (rs := [.tmp 4]) Tryd.func66 fun w0 S0 => ?_
 refine wq rfl (qb rfl (qa rfl (Aa (wp rfl (qm rfl (Aw AV rfl (qm rfl (Aa ?_))))))))
 refine AE (L := AY N p0 p1) h (fun v1 => mk [(0, pD (.sl (p0.map Af))), (3, oD (.ptr 3 0)), (7, iD ((p0.length : Int))), (8, iD v1)] [(3, .box (B5 p1))]) (fun v2 => mk [] []) (fun _ _ => rfl) (sm [] _ _ rfl rfl) (fun j1 n1 v1 h => ?_) (fun v2 s h hs => ?_)
 ·unfold AY at h
  refine wq rfl (AS rfl (Aa (AC ?_)))
  refine A0 h (fun h => ?_) fun h => ?_
  ·refine Aj (AC (AJ (wq rfl (qm rfl (qa rfl (Aa (wq rfl (qL EN BB rfl (qw 2 rfl ?_)))))))))
   refine B6 h fun v4 a4 b4 h => qi AV BB a4 (Ak b4) rfl (qK EN BB rfl ?_)
   refine OA [.int .i64 p1.fe, .int .i64 p1.fg, .int .i64 p1.fh] [.int .i64 v4.fe, .int .i64 v4.fg, .int .i64 v4.fh] (.p rfl) rfl rfl NE rfl ?_
   refine AF (by kernel_rfl) ?_
   refine A0 h (fun h => ?_) fun h => ?_
   ·refine wq rfl (qm rfl (qe rfl ?_))
    obtain rfl := sj h
    refine Ad (sm [] [(4, iD v1)] [] rfl rfl) (Ao ?_)
    exact ⟨⟨[_], tm, rfl⟩, tv⟩
   ·refine Aj (Ai Ax rfl (Bf rfl (qm rfl (Aa ?_))))
    exact sn [] h
  ·refine AR ?_
   exact sn [] h
 ·refine Ad hs (wq rfl (qe rfl ?_))
  obtain rfl := sj h
  refine Ad (sm [] [(4, iD ((-1)))] [] rfl rfl) (Ao ?_)
  exact ⟨⟨[_], tm, rfl⟩, tv⟩
theorem Du (N : Nat) (p0 : List Ab) (p1 : Ab) (r : Bool) (h : Bi N p0 p1 = some r) : Ap Tryd.prog 49 [pD (.sl (p0.map Af)), .e (.agg (B5 p1))] [] (bD r) := by
 unfold Bi at h
 refine cw (n := 9) (rs := [.tmp 4]) Tryd.func49 fun w0 S0 => ?_
 refine wq rfl (qb rfl (qa rfl (Aa (wq rfl (qm rfl (qL EN BB rfl ?_))))))
 refine Bp h fun v1 a1 h => Aq [] (D5 N p0 p1 v1 a1) P0 rfl (EC rfl (qe rfl ?_))
 obtain rfl := sj h
 refine Ad (sm [] [(4, bD ((decide (0 ≤ v1))))] [] rfl rfl) (Ao ?_)
 exact ⟨⟨[_], tm, rfl⟩, tv⟩
theorem Jx (N : Nat) (p0 : List Ab) (r : Int) (h : FM N p0 = some r) : Ap Tryd.prog 34 [pD (.sl (p0.map Af))] [] (iD r) := by
 unfold FM at h
 refine cw (n := 42) (rs := [.tmp 2]) Tryd.func34 fun w0 S0 => ?_
 refine wq rfl (qa rfl (Aa (AC ?_)))
 refine AM h (fun v1 => mk [(0, pD (.sl (p0.map Af))), (14, bD v1)] []) (fun j1 h => ?_) (fun v1 h => ?_)
 ·refine Ai Ax rfl (qm rfl (Aw AV rfl (AS rfl (qm rfl ?_))))
  refine CV 10 h rfl (fun h => ?_) fun h => ?_
  ·refine qw 3 rfl (qp rfl (Aa ?_))
   exact sn [] h
  ·refine qm rfl (Aw AV rfl (DR rfl (qp rfl (Aa ?_))))
   exact sn [] h
 ·refine A0 h (fun h => ?_) fun h => ?_
  ·refine wq rfl (qe rfl ?_)
   obtain rfl := sj h
   refine Ad (sm [] [(2, iD 6)] [] rfl rfl) (Ao ?_)
   exact ⟨⟨[_], tm, rfl⟩, tv⟩
  ·refine Aj (wp rfl (qm rfl (Aw AV rfl (qm rfl (Aa ?_)))))
   refine AE (L := Dc N p0) h (fun v4 => mk [(0, pD (.sl (p0.map Af))), (15, pD (.sl (p0.map Af))), (16, iD ((p0.length : Int))), (17, iD v4)] []) (fun v5 => mk [] []) (fun _ _ => rfl) (sm [] _ _ rfl rfl) (fun j4 n4 v4 h => ?_) (fun v5 s h hs => ?_)
   ·unfold Dc at h
    refine wq rfl (AS rfl (Aa (AC ?_)))
    refine A0 h (fun h => ?_) fun h => ?_
    ·refine Aj (AC (AJ (wq rfl (qm rfl ?_))))
     refine B6 h fun v7 a7 b7 h => qi AV BB a7 (Ak b7) rfl (qK EN BB rfl (qz GQ rfl (qa rfl (qs BB rfl (Aa (wq rfl (qL EN BB rfl ?_)))))))
     refine Bp h fun v8 a8 h => Aq [] (I0 N v7 v8 a8) PP rfl (qm rfl (qx rfl (qx rfl (qa rfl (qe rfl ?_)))))
     refine AM h (fun v9 => mk [(0, pD (.sl (p0.map Af))), (15, pD (.sl (p0.map Af))), (16, iD ((p0.length : Int))), (17, iD v4), (40, bD v9)] []) (fun j9 h => ?_) (fun v9 h => ?_)
     ·refine Ai Ax rfl (qm rfl (Bb rfl (qm rfl ?_)))
      refine CV 29 h rfl (fun h => ?_) fun h => ?_
      ·refine qw 3 rfl (qp rfl (qw 6 rfl (qp rfl (AF (by kernel_rfl) ?_))))
       exact sn [] h
      ·refine qf D8 rfl (ql BR rfl (Be rfl (qp rfl (qm rfl ?_))))
       refine CV 34 h rfl (fun h => ?_) fun h => ?_
       ·refine qw 5 rfl (qp rfl (AF (by kernel_rfl) ?_))
        exact sn [] h
       ·refine qw 2 rfl ?_
        refine Fu h fun c12 h => Fn (.g rfl rfl) rfl AV BB (Dq (f := Af) (n := 3) (fun _ => rfl) _) (.none _) (.some _ _ _ _ c12.1) tv ⟨rfl, tv⟩ (by have := c12.2.1; (try simp only [List.length_map]); omega) (by have := c12.2.2; (try simp only [List.length_map]); omega) (Eu Af p0 _ _ ((v4).toNat - 0) rfl) ?_
        refine qL EN BB rfl ?_
        refine Bp h fun v13 a13 h => Aq [] (Du N (((p0.drop 0).take ((v4).toNat - 0))) v7 v13 a13) PE rfl (qp rfl (AF (by kernel_rfl) ?_))
        exact sn [] h
     ·refine A0 h (fun h => ?_) fun h => ?_
      ·refine wq rfl (qe rfl ?_)
       obtain rfl := sj h
       refine Ad (sm [] [(2, iD 1)] [] rfl rfl) (Ao ?_)
       exact ⟨⟨[_], tm, rfl⟩, tv⟩
      ·refine Aj (Ai Ax rfl (Bf rfl (qm rfl (Aa ?_))))
       exact sn [] h
    ·refine AR ?_
     exact sn [] h
   ·refine Ad hs (wq rfl (qe rfl ?_))
    obtain rfl := sj h
    refine Ad (sm [] [(2, iD 0)] [] rfl rfl) (Ao ?_)
    exact ⟨⟨[_], tm, rfl⟩, tv⟩
theorem DE (N : Nat) (p0 : Ag) (p1 : Ah) (p2 : List Ab) (r : Ah × Bool) (h : Ce N p0 p1 p2 = some r) : Ap Tryd.prog 32 [.e (.agg (Al p0)), .e (.agg (Az p1)), pD (.sl (p2.map Af))] [] (.tup [.agg (Az r.1), .one (.pure (.val (.bool r.2)))]) := by
 unfold Ce at h
 refine cw (n := 46) (rs := [.cell 6 38, .tmp 7]) Tryd.func32 fun w0 S0 => ?_
 refine wq rfl (qb rfl (qb rfl (qz Cc rfl (qa rfl (Aa (wp rfl (qm rfl (Aw AV rfl (qm rfl (Aa ?_))))))))))
 refine AE (L := Cy N p0 p2) h (fun v1 => mk [(3, oD (.ptr 3 0)), (4, oD (.ptr 4 0)), (6, oD (.ptr 6 0)), (14, pD (.sl (p2.map Af))), (15, iD ((p2.length : Int))), (16, iD v1.2.2.2)] [(3, .box (Al p0)), (4, .box [sC (v1.1.map An), sC (v1.2.1.map An), sC (v1.2.2.1.map BW)]), (6, .box [.pure (.nil0), .pure (.nil0), .pure (.nil0)])]) (fun v2 => mk [(4, oD (.ptr 4 0)), (6, oD (.ptr 6 0))] [(4, .box (Az v2)), (6, .box [.pure (.nil0), .pure (.nil0), .pure (.nil0)])]) (fun _ _ => rfl) (sm [] _ _ rfl rfl) (fun j1 n1 v1 h => ?_) (fun v2 s h hs => ?_)
 ·unfold Cy at h
  refine wq rfl (AS rfl (Aa (AC ?_)))
  refine A0 h (fun h => ?_) fun h => ?_
  ·refine Aj (AC (AJ (wq rfl ?_)))
   refine B6 h fun v4 a4 b4 h => qi AV BB a4 (Ak b4) rfl (qK EN BB rfl (qz GQ rfl (qs BB rfl (Aa (wq rfl (qL Cf B0 rfl (qL A3 AD rfl (qL EN BB rfl ?_))))))))
   refine Bp h fun v5 a5 h => Aq [2001, 2002, 2003] (Hb N p0 ((Ah.mk v1.1 v1.2.1 v1.2.2.1)) v4 v5 a5) OP rfl (qm rfl (qx rfl (qx rfl (qz Cc rfl (qs AD rfl (qa rfl (Aa (wp rfl (qm rfl (Bb rfl (Aa ?_)))))))))))
   refine A0 h (fun h => ?_) fun h => ?_
   ·refine wq rfl (A4 Cc GB rfl (qs AD rfl (qe rfl ?_)))
    obtain rfl := sj h
    refine Ad ((Dh 6 _ rfl).trans (sm [] [(6, oD (.ptr 6 0)), (7, bD false)] [(6, .box [sC ((([] : List Int)).map An), sC ((([] : List Int)).map An), sC ((([] : List Int)).map BW)])] rfl rfl)) (Ao ?_)
    exact ⟨⟨[_, _], ⟨.cellN _ _ _ _ _ _ _ rfl rfl A3 AD rfl rfl (Gf rfl), tm⟩, rfl⟩, tv⟩
   ·refine Aj (wp rfl (qL Cf B0 rfl (qL A3 AD rfl ?_)))
    refine Bp h fun v7 a7 h => Fq [] [2001, 2002, 2003] (F4 N p0 v5.1 v7 a7) NQ DO rfl (qm rfl (qx rfl (qx rfl (qa rfl (qe rfl ?_)))))
    refine AM h (fun v8 => mk [(3, oD (.ptr 3 0)), (4, oD (.ptr 4 0)), (6, oD (.ptr 6 0)), (10, oD (.ptr 10 0)), (14, pD (.sl (p2.map Af))), (15, iD ((p2.length : Int))), (16, iD v1.2.2.2), (41, bD v8)] [(3, .box (Al p0)), (4, .box [sC (v1.1.map An), sC (v1.2.1.map An), sC (v1.2.2.1.map BW)]), (6, .box [.pure (.nil0), .pure (.nil0), .pure (.nil0)]), (10, .box [.own 2004, .own 2005, .own 2006]), (2004, .vec 1 (v5.1.fb.map An)), (2005, .vec 1 (v5.1.fa.map An)), (2006, .vec 1 (v5.1.fd.map BW))]) (fun j8 h => ?_) (fun v8 h => ?_)
    ·refine Ai Ax rfl (qm rfl (Bb rfl (qm rfl ?_)))
     refine CV 38 h rfl (fun h => ?_) fun h => ?_
     ·refine qw 2 rfl (qp rfl (Aa ?_))
      exact sn [(2004, 2001), (2005, 2002), (2006, 2003)] h
     ·refine qm rfl (BJ rfl (qp rfl (Aa ?_)))
      exact sn [(2004, 2001), (2005, 2002), (2006, 2003)] h
    ·refine A0 h (fun h => ?_) fun h => ?_
     ·refine wq rfl (A4 Cc GB rfl (qs AD rfl (qe rfl ?_)))
      obtain rfl := sj h
      refine Ad ((Dh 6 _ rfl).trans (sm [] [(6, oD (.ptr 6 0)), (7, bD false)] [(6, .box [sC ((([] : List Int)).map An), sC ((([] : List Int)).map An), sC ((([] : List Int)).map BW)])] rfl rfl)) (Ao ?_)
      exact ⟨⟨[_, _], ⟨.cellN _ _ _ _ _ _ _ rfl rfl A3 AD rfl rfl (Gf rfl), tm⟩, rfl⟩, tv⟩
     ·refine Aj (Ai Ax rfl (qL A3 AD rfl (qs AD rfl (Aa (Ai Ax rfl (Bf rfl (qm rfl (Aa ?_))))))))
      exact Px _ h ((AT 2004 _ _ rfl rfl).trans ((AT 2005 _ _ rfl rfl).trans ((AT 2006 _ _ rfl rfl).trans (sm [] _ _ rfl rfl))))
  ·refine AR ?_
   exact sn [] h
 ·refine Ad hs (wq rfl (qL A3 AD rfl (qs AD rfl (qe rfl ?_))))
  obtain rfl := sj h
  refine Ad (sm [] [(6, oD (.ptr 6 0)), (7, bD true)] [(6, .box (Az v2))] rfl rfl) (Ao ?_)
  exact ⟨⟨[_, _], ⟨.cellN _ _ _ _ _ _ _ rfl rfl A3 AD rfl rfl (Gf rfl), tm⟩, rfl⟩, tv⟩
theorem A7 (N : Nat) (p0 : List Ab) (r : (List Ab)) (h : AN N p0 = some r) : Ap Tryd.prog 31 [pD (.sl (p0.map Af))] [(3, r.map Af)] (oD (.own 0)) := by
 unfold AN at h
 refine cw (n := 8) (rs := [.tmp 2]) Tryd.func31 fun w0 S0 => ?_
 refine wq rfl (qa rfl (Aa (wp rfl (qm rfl ?_))))
 refine Jt (.p rfl) rfl AV ?_
 refine Aa ?_
 refine JQ rfl (fun c2 => ?_) ?_
 ·have c2 := List.map_eq_nil_iff.1 c2
  rw [c2] at h
  have h : (some (([] : List Ab))) = some r := h
  refine wq rfl (qe rfl ?_)
  obtain rfl := sj h
  refine Ad ((Bx 2 2001 3 rfl rfl rfl).trans (sm [(1000, 2001)] [(2, oD (.own 1000))] [(1000, .vec 3 ((([] : List Ab)).map Af))] rfl rfl)) (Ao ?_)
  exact ⟨⟨[_], tm, rfl⟩, ⟨rfl, tv⟩⟩
 ·refine Aj (wq rfl (EO AV BB GQ rfl (qm rfl ?_)))
  refine Fu h fun c1 h => KG (f := Af) AV AV BB Ma GQ (fun _ => rfl) c1 rfl (qe rfl ?_)
  obtain rfl := sj h
  refine Ad (sm [(1000, 7)] [(2, oD (.own 1000))] [(1000, .vec 3 (((([] : List Ab)) ++ p0).map Af))] rfl rfl) (Ao ?_)
  exact ⟨⟨[_], tm, rfl⟩, ⟨rfl, tv⟩⟩
theorem Ga (N : Nat) (p0 : Int) (r : Bool) (h : Dd N p0 = some r) : Ap Tryd.prog 78 [iD p0] [] (bD r) := by
 unfold Dd at h
 refine cw (n := 6) (rs := [.tmp 2]) Tryd.func78 fun w0 S0 => ?_
 refine wq rfl (qa rfl (Aa (wq rfl (qw 2 rfl (Bb rfl (qe rfl ?_))))))
 obtain rfl := sj h
 refine Ad (sm [] [(2, bD ((p0 != p0)))] [] rfl rfl) (Ao ?_)
 exact ⟨⟨[_], tm, rfl⟩, tv⟩
theorem Hx (N : Nat) (p0 : Int) (p1 : Int) (r : Int) (h : DH N p0 p1 = some r) : Ap Tryd.prog 67 [iD p0, iD p1] [] (iD r) := by
 unfold DH at h
 refine cw (n := 20) (rs := [.tmp 4]) Tryd.func67 fun w0 S0 => ?_
 refine wq rfl (qa rfl (Aa (wq rfl (qm rfl ?_))))
 refine Bp h fun v1 a1 h => Aq [] (Ga N p0 v1 a1) Ph rfl (qa rfl (Aa (wq rfl (qm rfl ?_))))
 refine Bp h fun v2 a2 h => Aq [] (Ga N p1 v2 a2) Ph rfl (qa rfl (Aa (wp rfl (qm rfl (Aa ?_)))))
 refine A0 h (fun h => ?_) fun h => ?_
 ·refine wp rfl (qm rfl (Aa ?_))
  refine A0 h (fun h => ?_) fun h => ?_
  ·refine wq rfl (qe rfl ?_)
   obtain rfl := sj h
   refine Ad (sm [] [(4, iD 0)] [] rfl rfl) (Ao ?_)
   exact ⟨⟨[_], tm, rfl⟩, tv⟩
  ·refine Aj (wq rfl (qe rfl ?_))
   obtain rfl := sj h
   refine Ad (sm [] [(4, iD ((-1)))] [] rfl rfl) (Ao ?_)
   exact ⟨⟨[_], tm, rfl⟩, tv⟩
 ·refine Aj (wp rfl (qm rfl (Aa ?_)))
  refine A0 h (fun h => ?_) fun h => ?_
  ·refine wq rfl (qe rfl ?_)
   obtain rfl := sj h
   refine Ad (sm [] [(4, iD 1)] [] rfl rfl) (Ao ?_)
   exact ⟨⟨[_], tm, rfl⟩, tv⟩
  ·refine Aj (wp rfl (qw 2 rfl (AS rfl (Aa ?_))))
   refine A0 h (fun h => ?_) fun h => ?_
   ·refine wq rfl (qe rfl ?_)
    obtain rfl := sj h
    refine Ad (sm [] [(4, iD ((-1)))] [] rfl rfl) (Ao ?_)
    exact ⟨⟨[_], tm, rfl⟩, tv⟩
   ·refine Aj (wp rfl (qw 2 rfl (DR rfl (Aa ?_))))
    refine A0 h (fun h => ?_) fun h => ?_
    ·refine wq rfl (qe rfl ?_)
     obtain rfl := sj h
     refine Ad (sm [] [(4, iD 1)] [] rfl rfl) (Ao ?_)
     exact ⟨⟨[_], tm, rfl⟩, tv⟩
    ·refine Aj (wq rfl (qe rfl ?_))
     obtain rfl := sj h
     refine Ad (sm [] [(4, iD 0)] [] rfl rfl) (Ao ?_)
     exact ⟨⟨[_], tm, rfl⟩, tv⟩
theorem Dt (N : Nat) (p0 : List Int) (p1 : List Int) (r : Int) (h : BI N p0 p1 = some r) : Ap Tryd.prog 52 [pD (.sl (p0.map An)), pD (.sl (p1.map An))] [] (iD r) := by
 unfold BI at h
 refine cw (n := 36) (rs := [.tmp 4]) Tryd.func52 fun w0 S0 => ?_
 refine wq rfl (qa rfl (Aa (wp rfl (qm rfl (Aw Ay rfl (qm rfl (Aa ?_)))))))
 refine AE (L := Bk N p0 p1) h (fun v1 => mk [(0, pD (.sl (p0.map An))), (1, pD (.sl (p1.map An))), (9, pD (.sl (p0.map An))), (10, iD ((p0.length : Int))), (11, iD v1)] []) (fun v2 => mk [(0, pD (.sl (p0.map An))), (1, pD (.sl (p1.map An)))] []) (fun _ _ => rfl) (sm [] _ _ rfl rfl) (fun j1 n1 v1 h => ?_) (fun v2 s h hs => ?_)
 ·unfold Bk at h
  refine wq rfl (AS rfl (Aa (AC ?_)))
  refine A0 h (fun h => ?_) fun h => ?_
  ·refine Aj (AC (AJ (wq rfl (qm rfl ?_))))
   refine B6 h fun v4 a4 b4 h => qi Ay Db a4 (Ak b4) rfl (qk BR rfl (qa rfl (qa rfl (Aa (wp rfl (qw 2 rfl (Aw Ay rfl (EC rfl (Aa ?_)))))))))
   refine A0 h (fun h => ?_) fun h => ?_
   ·refine wq rfl (qe rfl ?_)
    obtain rfl := sj h
    refine Ad (sm [] [(4, iD 1)] [] rfl rfl) (Ao ?_)
    exact ⟨⟨[_], tm, rfl⟩, tv⟩
   ·refine Aj (wq rfl (qw 2 rfl ?_))
    refine B6 h fun v6 a6 b6 h => qi Ay Db a6 (Ak b6) rfl (qk BR rfl (qa rfl (Aa (wq rfl (qw 2 rfl ?_)))))
    refine Bp h fun v7 a7 h => Aq [] (Hx N v4 v6 v7 a7) PO rfl (qa rfl (Aa (wq rfl (qm rfl (Bb rfl (Aa ?_))))))
    refine A0 h (fun h => ?_) fun h => ?_
    ·refine wq rfl (qm rfl (qe rfl ?_))
     obtain rfl := sj h
     refine Ad (sm [] [(4, iD v7)] [] rfl rfl) (Ao ?_)
     exact ⟨⟨[_], tm, rfl⟩, tv⟩
    ·refine Aj (Ai Ax rfl (Bf rfl (qm rfl (Aa ?_))))
     exact sn [] h
  ·refine AR ?_
   exact sn [] h
 ·refine Ad hs (wp rfl (qm rfl (Aw Ay rfl (qm rfl (Aw Ay rfl (AS rfl (Aa ?_)))))))
  refine A0 h (fun h => ?_) fun h => ?_
  ·refine wq rfl (qe rfl ?_)
   obtain rfl := sj h
   refine Ad (sm [] [(4, iD ((-1)))] [] rfl rfl) (Ao ?_)
   exact ⟨⟨[_], tm, rfl⟩, tv⟩
  ·refine Aj (wq rfl (qe rfl ?_))
   obtain rfl := sj h
   refine Ad (sm [] [(4, iD 0)] [] rfl rfl) (Ao ?_)
   exact ⟨⟨[_], tm, rfl⟩, tv⟩
theorem EJ (N : Nat) (p0 : Int) (r : Bool) (h : Cp N p0 = some r) : Ap Tryd.prog 79 [pD (.val (.int .u8 p0))] [] (bD r) := by
 unfold Cp at h
 refine cw (n := 6) (rs := [.tmp 2]) Tryd.func79 fun w0 S0 => ?_
 refine wq rfl (qa rfl (Aa (wq rfl (qw 2 rfl (Bb rfl (qe rfl ?_))))))
 obtain rfl := sj h
 refine Ad (sm [] [(2, bD ((p0 != p0)))] [] rfl rfl) (Ao ?_)
 exact ⟨⟨[_], tm, rfl⟩, tv⟩
theorem Gg (N : Nat) (p0 : Int) (p1 : Int) (r : Int) (h : CQ N p0 p1 = some r) : Ap Tryd.prog 68 [pD (.val (.int .u8 p0)), pD (.val (.int .u8 p1))] [] (iD r) := by
 unfold CQ at h
 refine cw (n := 20) (rs := [.tmp 4]) Tryd.func68 fun w0 S0 => ?_
 refine wq rfl (qa rfl (Aa (wq rfl (qm rfl ?_))))
 refine Bp h fun v1 a1 h => Aq [] (EJ N p0 v1 a1) Pe rfl (qa rfl (Aa (wq rfl (qm rfl ?_))))
 refine Bp h fun v2 a2 h => Aq [] (EJ N p1 v2 a2) Pe rfl (qa rfl (Aa (wp rfl (qm rfl (Aa ?_)))))
 refine A0 h (fun h => ?_) fun h => ?_
 ·refine wp rfl (qm rfl (Aa ?_))
  refine A0 h (fun h => ?_) fun h => ?_
  ·refine wq rfl (qe rfl ?_)
   obtain rfl := sj h
   refine Ad (sm [] [(4, iD 0)] [] rfl rfl) (Ao ?_)
   exact ⟨⟨[_], tm, rfl⟩, tv⟩
  ·refine Aj (wq rfl (qe rfl ?_))
   obtain rfl := sj h
   refine Ad (sm [] [(4, iD ((-1)))] [] rfl rfl) (Ao ?_)
   exact ⟨⟨[_], tm, rfl⟩, tv⟩
 ·refine Aj (wp rfl (qm rfl (Aa ?_)))
  refine A0 h (fun h => ?_) fun h => ?_
  ·refine wq rfl (qe rfl ?_)
   obtain rfl := sj h
   refine Ad (sm [] [(4, iD 1)] [] rfl rfl) (Ao ?_)
   exact ⟨⟨[_], tm, rfl⟩, tv⟩
  ·refine Aj (wp rfl (qw 2 rfl (AS rfl (Aa ?_))))
   refine A0 h (fun h => ?_) fun h => ?_
   ·refine wq rfl (qe rfl ?_)
    obtain rfl := sj h
    refine Ad (sm [] [(4, iD ((-1)))] [] rfl rfl) (Ao ?_)
    exact ⟨⟨[_], tm, rfl⟩, tv⟩
   ·refine Aj (wp rfl (qw 2 rfl (DR rfl (Aa ?_))))
    refine A0 h (fun h => ?_) fun h => ?_
    ·refine wq rfl (qe rfl ?_)
     obtain rfl := sj h
     refine Ad (sm [] [(4, iD 1)] [] rfl rfl) (Ao ?_)
     exact ⟨⟨[_], tm, rfl⟩, tv⟩
    ·refine Aj (wq rfl (qe rfl ?_))
     obtain rfl := sj h
     refine Ad (sm [] [(4, iD 0)] [] rfl rfl) (Ao ?_)
     exact ⟨⟨[_], tm, rfl⟩, tv⟩
theorem DX (N : Nat) (p0 : List Int) (p1 : List Int) (r : Int) (h : Bs N p0 p1 = some r) : Ap Tryd.prog 53 [pD (.sl (p0.map BW)), pD (.sl (p1.map BW))] [] (iD r) := by
 unfold Bs at h
 refine cw (n := 36) (rs := [.tmp 4]) Tryd.func53 fun w0 S0 => ?_
 refine wq rfl (qa rfl (Aa (wp rfl (qm rfl (Aw C0 rfl (qm rfl (Aa ?_)))))))
 refine AE (L := AW N p0 p1) h (fun v1 => mk [(0, pD (.sl (p0.map BW))), (1, pD (.sl (p1.map BW))), (9, pD (.sl (p0.map BW))), (10, iD ((p0.length : Int))), (11, iD v1)] []) (fun v2 => mk [(0, pD (.sl (p0.map BW))), (1, pD (.sl (p1.map BW)))] []) (fun _ _ => rfl) (sm [] _ _ rfl rfl) (fun j1 n1 v1 h => ?_) (fun v2 s h hs => ?_)
 ·unfold AW at h
  refine wq rfl (AS rfl (Aa (AC ?_)))
  refine A0 h (fun h => ?_) fun h => ?_
  ·refine Aj (AC (AJ (wq rfl (qm rfl ?_))))
   refine B6 h fun v4 a4 b4 h => qi C0 FX a4 (Ak b4) rfl (qk Kt rfl (qa rfl (qa rfl (Aa (wp rfl (qw 2 rfl (Aw C0 rfl (EC rfl (Aa ?_)))))))))
   refine A0 h (fun h => ?_) fun h => ?_
   ·refine wq rfl (qe rfl ?_)
    obtain rfl := sj h
    refine Ad (sm [] [(4, iD 1)] [] rfl rfl) (Ao ?_)
    exact ⟨⟨[_], tm, rfl⟩, tv⟩
   ·refine Aj (wq rfl (qw 2 rfl ?_))
    refine B6 h fun v6 a6 b6 h => qi C0 FX a6 (Ak b6) rfl (qk Kt rfl (qa rfl (Aa (wq rfl (qw 2 rfl ?_)))))
    refine Bp h fun v7 a7 h => Aq [] (Gg N v4 v6 v7 a7) PR rfl (qa rfl (Aa (wq rfl (qm rfl (Bb rfl (Aa ?_))))))
    refine A0 h (fun h => ?_) fun h => ?_
    ·refine wq rfl (qm rfl (qe rfl ?_))
     obtain rfl := sj h
     refine Ad (sm [] [(4, iD v7)] [] rfl rfl) (Ao ?_)
     exact ⟨⟨[_], tm, rfl⟩, tv⟩
    ·refine Aj (Ai Ax rfl (Bf rfl (qm rfl (Aa ?_))))
     exact sn [] h
  ·refine AR ?_
   exact sn [] h
 ·refine Ad hs (wp rfl (qm rfl (Aw C0 rfl (qm rfl (Aw C0 rfl (AS rfl (Aa ?_)))))))
  refine A0 h (fun h => ?_) fun h => ?_
  ·refine wq rfl (qe rfl ?_)
   obtain rfl := sj h
   refine Ad (sm [] [(4, iD ((-1)))] [] rfl rfl) (Ao ?_)
   exact ⟨⟨[_], tm, rfl⟩, tv⟩
  ·refine Aj (wq rfl (qe rfl ?_))
   obtain rfl := sj h
   refine Ad (sm [] [(4, iD 0)] [] rfl rfl) (Ao ?_)
   exact ⟨⟨[_], tm, rfl⟩, tv⟩
theorem JR (N : Nat) (p0 : List Int) (r : Int) (h : FH N p0 = some r) : Ap Tryd.prog 51 [pD (.sl (p0.map An))] [] (iD r) := by
 unfold FH at h
 refine cw (n := 18) (rs := [.tmp 2]) Tryd.func51 fun w0 S0 => ?_
 refine wq rfl (qa rfl (Aa (wq rfl (qa rfl (Aa (wp rfl (qm rfl (Aw Ay rfl (qm rfl (Aa ?_))))))))))
 refine AE (L := Di N p0) h (fun v1 => mk [(3, iD 0), (6, pD (.sl (p0.map An))), (7, iD ((p0.length : Int))), (8, iD v1)] []) (fun v2 => mk [(3, iD 0)] []) (fun _ _ => rfl) (sm [] _ _ rfl rfl) (fun j1 n1 v1 h => ?_) (fun v2 s h hs => ?_)
 ·unfold Di at h
  refine wq rfl (AS rfl (Aa (AC ?_)))
  refine A0 h (fun h => ?_) fun h => ?_
  ·refine Aj (AC (AJ (wq rfl ?_)))
   refine B6 h fun v4 a4 b4 h => qi Ay Db a4 (Ak b4) rfl (qk BR rfl (qa rfl (Aa (wq rfl (qw 2 rfl (Bb rfl (Aa ?_)))))))
   refine A0 h (fun h => ?_) fun h => ?_
   ·refine wq rfl (qm rfl (qe rfl ?_))
    obtain rfl := sj h
    refine Ad (sm [] [(2, iD v4)] [] rfl rfl) (Ao ?_)
    exact ⟨⟨[_], tm, rfl⟩, tv⟩
   ·refine Aj (Ai Ax rfl (Bf rfl (qm rfl (Aa ?_))))
    exact sn [] h
  ·refine AR ?_
   exact sn [] h
 ·refine Ad hs (wq rfl (qm rfl (qe rfl ?_)))
  obtain rfl := sj h
  refine Ad (sm [] [(2, iD 0)] [] rfl rfl) (Ao ?_)
  exact ⟨⟨[_], tm, rfl⟩, tv⟩
theorem IV (N : Nat) (p0 : Ah) (p1 : Ah) (r : Int) (h : Fk N p0 p1 = some r) : Ap Tryd.prog 37 [.e (.agg (Az p0)), .e (.agg (Az p1))] [] (iD r) := by
 unfold Fk at h
 refine cw (n := 22) (rs := [.tmp 4]) Tryd.func37 fun w0 S0 => ?_
 refine wq rfl (qb rfl (qb rfl (qa rfl (Aa (wq rfl (qf Cz rfl (ql A8 rfl (qf Cz rfl (ql A8 rfl ?_)))))))))
 refine Bp h fun v1 a1 h => Aq [] (Dt N p0.fb p1.fb v1 a1) OD rfl (qf BQ rfl (ql A8 rfl (qf BQ rfl (ql A8 rfl ?_))))
 refine Bp h fun v2 a2 h => Aq [] (Dt N p0.fa p1.fa v2 a2) OD rfl (qf CK rfl (ql Hq rfl (qf CK rfl (ql Hq rfl ?_))))
 refine Bp h fun v3 a3 h => Aq [] (DX N p0.fd p1.fd v3 a3) Pt rfl (EO Ay Db K6 rfl ?_)
 refine Bp h fun v4 a4 h => Fq [] [20] (JR N (([v1, v2, v3] : List Int)) v4 a4) PG DO rfl (qa rfl (AF (by kernel_rfl) ?_))
 obtain rfl := sj h
 refine Ad (sm [] [(4, iD v4)] [] rfl rfl) (Ao ?_)
 exact ⟨⟨[_], tm, rfl⟩, tv⟩
theorem IZ (N : Nat) (p0 : List Ab) (p1 : List Int) (p2 : List Int) (p3 : List Int) (p4 : List AA) (p5 : List Int) (p6 : List Int) (p7 : List Int) (p8 : List Int) (p9 : List Int) (p10 : List Int) (p11 : Option (List Ab)) (r : Bool × (Option (List Ab))) (h : E5 N p0 p1 p2 p3 p4 p5 p6 p7 p8 p9 p10 p11 = some r) : BC Tryd.prog 36 [pD (.sl (p0.map Af)), oD (.rop [.sl (p1.map An), .sl (p2.map An), .sl (p3.map An), .sl (p4.map AK)]), oD (.rop [.sl (p5.map An), .sl (p6.map An), .sl (p7.map BW)]), oD (.rop [.sl (p8.map An), .sl (p9.map An), .sl (p10.map BW)]), oD (.ptr 90000 0)] [(.box [.pure (HC Af p11)], .box [.pure (HC Af r.2)])] [] (bD r.1) := by
 unfold E5 at h
 refine C9 (n := 25) (rs := [.tmp 6]) Tryd.func36 rfl rfl rfl (GS rfl) (GS rfl) rfl rfl (GS rfl) rfl (GS rfl) fun w0 S0 GL => ?_
 refine Ad (sm [] [(0, pD (.sl (p0.map Af))), (1, oD (.rop [.sl (p1.map An), .sl (p2.map An), .sl (p3.map An), .sl (p4.map AK)])), (2, oD (.rop [.sl (p5.map An), .sl (p6.map An), .sl (p7.map BW)])), (3, oD (.rop [.sl (p8.map An), .sl (p9.map An), .sl (p10.map BW)])), (4, oD (.ptr 90000 0))] [(90000, .box [.pure (HC Af p11)])] rfl rfl) (wq rfl (qa rfl (Aa (wp rfl (qK Cf B0 rfl (qK A3 AD rfl (qm rfl ?_)))))))
 refine Bp h fun v1 a1 h => Aq [] (DE N ((Ag.mk p1 p2 p3 p4)) ((Ah.mk p5 p6 p7)) p0 v1 a1) M2 rfl (qm rfl (qx rfl (qx rfl (qz Cc rfl (qs AD rfl (qe rfl ?_))))))
 refine AM h (fun v2 => mk [(0, pD (.sl (p0.map Af))), (4, oD (.ptr 90000 0)), (23, bD v2)] [(90000, .box [.pure (HC Af p11)])]) (fun j2 h => ?_) (fun v2 h => ?_)
 ·refine Ai Ax rfl (qm rfl (BJ rfl (qm rfl ?_)))
  refine CV 18 h rfl (fun h => ?_) fun h => ?_
  ·refine qw 4 rfl (qp rfl (Aa ?_))
   exact sn [] h
  ·refine qL A3 AD rfl (qK A3 AD rfl ?_)
   refine Bp h fun v4 a4 h => Aq [] (IV N v1.1 ((Ah.mk p8 p9 p10)) v4 a4) PW rfl (Bb rfl (qp rfl (Aa ?_)))
   exact sn [] h
 ·refine A0 h (fun h => ?_) fun h => ?_
  ·refine wq rfl (qm rfl (qs IL rfl (Aa (wq rfl (qe rfl ?_)))))
   obtain rfl := sj h
   refine Ad (sm [] [(6, bD false)] [(90000, .box [.pure (HC Af ((some p0)))])] rfl rfl) (Ao ?_)
   exact ⟨⟨[_], tm, rfl⟩, ⟨rfl, tv⟩, tv⟩
  ·refine Aj (wq rfl (qe rfl ?_))
   obtain rfl := sj h
   refine Ad (sm [] [(6, bD true)] [(90000, .box [.pure (HC Af p11)])] rfl rfl) (Ao ?_)
   exact ⟨⟨[_], tm, rfl⟩, ⟨rfl, tv⟩, tv⟩
theorem DV (N : Nat) (p0 : List Ab) (p1 : Int) (p2 : Int) (r : Nat × (List Ab)) (h : Bo N p0 p1 p2 = some r) : BC Tryd.prog 50 [oD (.own 90000), iD p1, iD p2] [(.vec 3 (p0.map Af), .vec 3 (r.2.map Af))] [] (oD (.view 90000 3 0 r.1)) := by
 unfold Bo at h
 refine C9 (n := 33) (rs := [.tmp 6]) Tryd.func50 rfl rfl rfl (GS rfl) (GS rfl) rfl rfl (GS rfl) rfl (GS rfl) fun w0 S0 GL => ?_
 refine Ad (sm [] [(0, oD (.own 90000)), (1, iD p1), (2, iD p2)] [(90000, .vec 3 (p0.map Af))] rfl rfl) (wq rfl (qa rfl (Aa (wq rfl (qw 4 rfl (F2 AV rfl ?_))))))
 refine Fu h fun c1 h => LJ (.p rfl) rfl rfl AV BB rfl rfl rfl c1.1 c1.2.1 c1.2.2.1 c1.2.2.2.1 c1.2.2.2.2.1 (by rw [List.length_map]; exact c1.2.2.2.2.2) ?_
 refine Aa (wp rfl (qw 2 rfl (Be rfl (Aa ?_))))
 refine A0 h (fun h => ?_) fun h => ?_
 ·refine wq rfl (qm rfl (qe rfl ?_))
  obtain rfl := sj h
  refine Ad ((MC Af p0 6 90000 3 rfl rfl).trans (sm [] [(6, oD (.view 90000 3 0 p0.length))] [(90000, .vec 3 (p0.map Af))] rfl rfl)) (Ao ?_)
  exact ⟨⟨[_], tm, rfl⟩, ⟨rfl, tv⟩, tv⟩
 ·refine Aj (wq rfl (qm rfl (F2 AV rfl (qa rfl (Aa (wq rfl (qw 2 rfl ?_)))))))
  obtain ⟨c3, h⟩ := DZ h
  have w4 : 0 + ((p1).toNat) ≤ p0.length := by have := c3.2.1; have := c3.2.2; omega
  refine Gl Af p0 (.p rfl) rfl (Gm Af _ _ p0) rfl AV BB (.none _) (.some _ _ _ _ c3.1) tv ⟨rfl, tv⟩ c3.2.1 (by rw [Nat.zero_add]; exact c3.2.2) (Nat.zero_add _) rfl ?_
  refine qw 2 rfl ?_
  obtain ⟨c5, h⟩ := DZ h
  have w6 : ((p2).toNat) + ((p0.length - (p2).toNat)) ≤ p0.length := by have := c5.2.1; have := c5.2.2; omega
  refine Gl Af p0 (.p rfl) rfl (Gm Af _ _ p0) rfl AV BB (.some _ _ _ _ c5.1) (.none _) ⟨rfl, tv⟩ tv c5.2.1 (by rw [Nat.zero_add]; exact c5.2.2) (Nat.zero_add _) rfl ?_
  obtain ⟨c7, h⟩ := DZ h
  have w9f : 0 + ((p1).toNat) + (((p0.drop ((p2).toNat)).take ((p0.length - (p2).toNat)))).length ≤ p0.length := by have := c7; omega
  have w8 : (EL p0 (0 + ((p1).toNat)) (((p0.drop ((p2).toNat)).take ((p0.length - (p2).toNat))))).length = p0.length := F0 w9f
  have w9 : 0 + ((p1).toNat + (((p0.drop ((p2).toNat)).take ((p0.length - (p2).toNat)))).length) ≤ (EL p0 (0 + ((p1).toNat)) (((p0.drop ((p2).toNat)).take ((p0.length - (p2).toNat))))).length := by rw [w8]; have := c7; omega
  refine Ky Af p0 (((p0.drop ((p2).toNat)).take ((p0.length - (p2).toNat)))) (.p rfl) rfl (GH Af _ _ 0 ((p1).toNat) p0 w4) rfl rfl (I6 Af _ _ ((p2).toNat) ((p0.length - (p2).toNat)) p0 w6) ⟨rfl, tv⟩ AV AV BB w9f rfl ?_
  refine qa rfl (AF (by kernel_rfl) (wq rfl (qw 2 rfl ?_)))
  refine Mv (.p rfl) rfl AV ?_
  refine qm rfl ?_
  obtain ⟨c10, h⟩ := DZ h
  have w11 : (((((((p1).toNat + (((p0.drop ((p2).toNat)).take ((p0.length - (p2).toNat)))).length)) : Nat) : Int)).toNat) + ((((p0.length : Int)).toNat - ((((((p1).toNat + (((p0.drop ((p2).toNat)).take ((p0.length - (p2).toNat)))).length)) : Nat) : Int)).toNat)) ≤ (EL p0 (0 + ((p1).toNat)) (((p0.drop ((p2).toNat)).take ((p0.length - (p2).toNat))))).length := by have := c10.2.2.1; have := c10.2.2.2; omega
  refine Gl Af (EL p0 (0 + ((p1).toNat)) (((p0.drop ((p2).toNat)).take ((p0.length - (p2).toNat))))) (.p rfl) rfl (GH Af _ _ 0 (((p1).toNat + (((p0.drop ((p2).toNat)).take ((p0.length - (p2).toNat)))).length)) (EL p0 (0 + ((p1).toNat)) (((p0.drop ((p2).toNat)).take ((p0.length - (p2).toNat))))) w9) rfl AV BB (.some _ _ _ _ c10.1) (.some _ _ _ _ c10.2.1) ⟨rfl, tv⟩ ⟨rfl, tv⟩ c10.2.2.1 (by rw [Nat.zero_add]; exact c10.2.2.2) (Nat.zero_add _) rfl ?_
  have w12 : (EL (EL p0 (0 + ((p1).toNat)) (((p0.drop ((p2).toNat)).take ((p0.length - (p2).toNat))))) (((((((p1).toNat + (((p0.drop ((p2).toNat)).take ((p0.length - (p2).toNat)))).length)) : Nat) : Int)).toNat) (List.replicate ((((p0.length : Int)).toNat - ((((((p1).toNat + (((p0.drop ((p2).toNat)).take ((p0.length - (p2).toNat)))).length)) : Nat) : Int)).toNat)) ((Ab.mk 0 0 0)))).length = (EL p0 (0 + ((p1).toNat)) (((p0.drop ((p2).toNat)).take ((p0.length - (p2).toNat))))).length := F0 (by rw [List.length_replicate]; exact w11)
  refine Lx Af (EL p0 (0 + ((p1).toNat)) (((p0.drop ((p2).toNat)).take ((p0.length - (p2).toNat))))) ((Ab.mk 0 0 0)) rfl rfl (GH Af _ _ (((((((p1).toNat + (((p0.drop ((p2).toNat)).take ((p0.length - (p2).toNat)))).length)) : Nat) : Int)).toNat) ((((p0.length : Int)).toNat - ((((((p1).toNat + (((p0.drop ((p2).toNat)).take ((p0.length - (p2).toNat)))).length)) : Nat) : Int)).toNat)) (EL p0 (0 + ((p1).toNat)) (((p0.drop ((p2).toNat)).take ((p0.length - (p2).toNat))))) w11) rfl AV GQ rfl rfl rfl rfl ?_
  refine Aa (wq rfl (qm rfl (qe rfl ?_)))
  obtain rfl := sj h
  refine Ad (sm [] [(6, oD (.view 90000 3 0 (((p1).toNat + (((p0.drop ((p2).toNat)).take ((p0.length - (p2).toNat)))).length))))] [(90000, .vec 3 ((EL (EL p0 (0 + ((p1).toNat)) (((p0.drop ((p2).toNat)).take ((p0.length - (p2).toNat))))) (((((((p1).toNat + (((p0.drop ((p2).toNat)).take ((p0.length - (p2).toNat)))).length)) : Nat) : Int)).toNat) (List.replicate ((((p0.length : Int)).toNat - ((((((p1).toNat + (((p0.drop ((p2).toNat)).take ((p0.length - (p2).toNat)))).length)) : Nat) : Int)).toNat)) ((Ab.mk 0 0 0)))).map Af))] rfl rfl) (Ao ?_)
  exact ⟨⟨[_], tm, rfl⟩, ⟨rfl, tv⟩, tv⟩
theorem G9 (N : Nat) (rc : (List Ab) → (List Ab) → (List Int) → (List Int) → (List Int) → (List AA) → (List Int) → (List Int) → (List Int) → (List Int) → (List Int) → (List Int) → (Option (List Ab)) → Option (Bool × (Option (List Ab)))) (hrc : ∀ (p0 : List Ab) (p1 : List Ab) (p2 : List Int) (p3 : List Int) (p4 : List Int) (p5 : List AA) (p6 : List Int) (p7 : List Int) (p8 : List Int) (p9 : List Int) (p10 : List Int) (p11 : List Int) (p12 : Option (List Ab)) (r : Bool × (Option (List Ab))), rc p0 p1 p2 p3 p4 p5 p6 p7 p8 p9 p10 p11 p12 = some r → BC Tryd.prog 35 [pD (.sl (p0.map Af)), pD (.sl (p1.map Af)), oD (.cls 36 [.rop [.sl (p2.map An), .sl (p3.map An), .sl (p4.map An), .sl (p5.map AK)], .rop [.sl (p6.map An), .sl (p7.map An), .sl (p8.map BW)], .rop [.sl (p9.map An), .sl (p10.map An), .sl (p11.map BW)], .ptr 90000 0])] [(.box [.pure (HC Af p12)], .box [.pure (HC Af r.2)])] [] (bD r.1)) (p0 : List Ab) (p1 : List Ab) (p2 : List Int) (p3 : List Int) (p4 : List Int) (p5 : List AA) (p6 : List Int) (p7 : List Int) (p8 : List Int) (p9 : List Int) (p10 : List Int) (p11 : List Int) (p12 : Option (List Ab)) (r : Bool × (Option (List Ab))) (h : Do N rc p0 p1 p2 p3 p4 p5 p6 p7 p8 p9 p10 p11 p12 = some r) : BC Tryd.prog 35 [pD (.sl (p0.map Af)), pD (.sl (p1.map Af)), oD (.cls 36 [.rop [.sl (p2.map An), .sl (p3.map An), .sl (p4.map An), .sl (p5.map AK)], .rop [.sl (p6.map An), .sl (p7.map An), .sl (p8.map BW)], .rop [.sl (p9.map An), .sl (p10.map An), .sl (p11.map BW)], .ptr 90000 0])] [(.box [.pure (HC Af p12)], .box [.pure (HC Af r.2)])] [] (bD r.1) := by
 unfold Do at h
 refine C9 (n := 37) (rs := [.tmp 6]) Tryd.func35 rfl rfl rfl (GS rfl) (GS rfl) rfl rfl (GS rfl) rfl (GS rfl) fun w0 S0 GL => ?_
 refine Ad (sm [] [(0, pD (.sl (p0.map Af))), (1, pD (.sl (p1.map Af))), (2, oD (.cls 36 [.rop [.sl (p2.map An), .sl (p3.map An), .sl (p4.map An), .sl (p5.map AK)], .rop [.sl (p6.map An), .sl (p7.map An), .sl (p8.map BW)], .rop [.sl (p9.map An), .sl (p10.map An), .sl (p11.map BW)], .ptr 90000 0]))] [(90000, .box [.pure (HC Af p12)])] rfl rfl) (wq rfl (qa rfl (Aa (wp rfl (qm rfl (Aw AV rfl (Be rfl (Aa ?_))))))))
 refine A0 h (fun h => ?_) fun h => ?_
 ·refine wq rfl (qw 2 rfl ?_)
  refine Bp h fun v2 a2 h => Nb (ds0 := [_]) [90000] [] [true] (IZ N p0 p2 p3 p4 p5 p6 p7 p8 p9 p10 p11 p12 v2 a2) (.p rfl) rfl P5 rfl ⟨rfl, tv⟩ rfl rfl (by decide) ⟨rfl, tv⟩ rfl (Ey rfl) tv ⟨(fun h => by cases h), tv⟩ rfl rfl rfl ?_
  refine qa rfl (Aa ?_)
  obtain rfl := sj h
  refine Ad (sm [] [(6, bD v2.1)] [(90000, .box [.pure (HC Af v2.2)])] rfl rfl) (Ao ?_)
  exact ⟨⟨[_], tm, rfl⟩, ⟨rfl, tv⟩, tv⟩
 ·refine Aj (wp rfl (qm rfl (Aw AV rfl (qm rfl (Aa ?_)))))
  refine AE (L := Co N p0 p1 p2 p3 p4 p5 p6 p7 p8 p9 p10 p11 rc) h (fun v3 => mk [(0, pD (.sl (p0.map Af))), (1, pD (.sl (p1.map Af))), (2, oD (.cls 36 [.rop [.sl (p2.map An), .sl (p3.map An), .sl (p4.map An), .sl (p5.map AK)], .rop [.sl (p6.map An), .sl (p7.map An), .sl (p8.map BW)], .rop [.sl (p9.map An), .sl (p10.map An), .sl (p11.map BW)], .ptr 90000 0])), (15, pD (.sl (p1.map Af))), (16, iD ((p1.length : Int))), (17, iD v3.2)] [(90000, .box [.pure (HC Af v3.1)])]) (fun v4 => mk [] [(90000, .box [.pure (HC Af v4)])]) (fun _ _ => rfl) (sm [] _ _ rfl rfl) (fun j3 n3 v3 h => ?_) (fun v4 s h hs => ?_)
  ·unfold Co at h
   refine wq rfl (AS rfl (Aa (AC ?_)))
   refine A0 h (fun h => ?_) fun h => ?_
   ·refine Aj (AC (AJ (wq rfl (qm rfl ?_))))
    refine B6 h fun v6 a6 b6 h => qi AV BB a6 (Ak b6) rfl (qK EN BB rfl (qz GQ rfl (qa rfl (qs BB rfl (Aa (wq rfl (qm rfl ?_)))))))
    refine Bp h fun v7 a7 h => Aq [2001] (A7 N p0 v7 a7) MJ rfl (qL EN BB rfl (EO AV BB GQ rfl ?_))
    refine Fu h fun c8 h => Lg (.p rfl) rfl (.own _ _ _) ⟨rfl, tv⟩ rfl (.own _ _ _) ⟨rfl, tv⟩ rfl AV AV BB Ma (GS rfl) GQ rfl (MB (f := Af) (g := Af) (xs := v7) (ys := (([v6] : List Ab))) c8) (Mw Af v7 (([v6] : List Ab))) rfl ?_
    refine qm rfl ?_
    refine Bp h fun v9 a9 h => Aq [2002] (A7 N p1 v9 a9) MJ rfl (qw 2 rfl (Bf rfl ?_))
    obtain ⟨v10, a10, h⟩ := bind_some h
    obtain ⟨c11, h⟩ := DZ h
    have w12 : 0 + v10.1 ≤ v10.2.length := by rw [Nat.zero_add]; exact c11
    refine LY (ds0 := [_, _, _]) (b := 2002) (DV N v9 v3.2 ((wI .i64 (v3.2 + 1))) v10 a10) (.p rfl) PV rfl ⟨rfl, rfl, rfl, tv⟩ rfl ⟨rfl, tv⟩ rfl rfl (by rw [List.length_map]; exact c11) (List.map_take).symm ?_
    refine qm rfl ?_
    refine Bp h fun v13 a13 h => Ii (ds0 := [_, _, _]) [90000] [] [true] (hrc ((v7 ++ (([v6] : List Ab)))) ((v10.2.take v10.1)) p2 p3 p4 p5 p6 p7 p8 p9 p10 p11 v3.1 v13 a13) (.p rfl) OT rfl ⟨rfl, rfl, rfl, tv⟩ rfl rfl (by decide) ⟨rfl, tv⟩ rfl (Ey rfl) tv ⟨(fun h => by cases h), tv⟩ rfl rfl rfl ?_
    refine BJ rfl (AF (by kernel_rfl) ?_)
    refine A0 h (fun h => ?_) fun h => ?_
    ·refine wq rfl (qe rfl ?_)
     obtain rfl := sj h
     refine Ad (sm [] [(6, bD false)] [(90000, .box [.pure (HC Af v13.2)])] rfl rfl) (Ao ?_)
     exact ⟨⟨[_], tm, rfl⟩, ⟨rfl, tv⟩, tv⟩
    ·refine Aj (Ai Ax rfl (Bf rfl (qm rfl (Aa ?_))))
     exact sn [] h
   ·refine AR ?_
    exact sn [] h
  ·refine Ad hs (wq rfl (qe rfl ?_))
   obtain rfl := sj h
   refine Ad (sm [] [(6, bD true)] [(90000, .box [.pure (HC Af v4)])] rfl rfl) (Ao ?_)
   exact ⟨⟨[_], tm, rfl⟩, ⟨rfl, tv⟩, tv⟩
theorem Fh (N : Nat) : ∀ (k : Nat) (p0 : List Ab) (p1 : List Ab) (p2 : List Int) (p3 : List Int) (p4 : List Int) (p5 : List AA) (p6 : List Int) (p7 : List Int) (p8 : List Int) (p9 : List Int) (p10 : List Int) (p11 : List Int) (p12 : Option (List Ab)) (r : Bool × (Option (List Ab))), CA N k p0 p1 p2 p3 p4 p5 p6 p7 p8 p9 p10 p11 p12 = some r → BC Tryd.prog 35 [pD (.sl (p0.map Af)), pD (.sl (p1.map Af)), oD (.cls 36 [.rop [.sl (p2.map An), .sl (p3.map An), .sl (p4.map An), .sl (p5.map AK)], .rop [.sl (p6.map An), .sl (p7.map An), .sl (p8.map BW)], .rop [.sl (p9.map An), .sl (p10.map An), .sl (p11.map BW)], .ptr 90000 0])] [(.box [.pure (HC Af p12)], .box [.pure (HC Af r.2)])] [] (bD r.1)
 | 0, _, _, _, _, _, _, _, _, _, _, _, _, _, _, h => by cases h
 | k + 1, p0, p1, p2, p3, p4, p5, p6, p7, p8, p9, p10, p11, p12, r, h => G9 N (CA N k) (Fh N k) p0 p1 p2 p3 p4 p5 p6 p7 p8 p9 p10 p11 p12 r h
theorem HE (N : Nat) (p0 : List Ab) (p1 : List Ab) (p2 : List Int) (p3 : List Int) (p4 : List Int) (p5 : List AA) (p6 : List Int) (p7 : List Int) (p8 : List Int) (p9 : List Int) (p10 : List Int) (p11 : List Int) (p12 : Option (List Ab)) (r : Bool × (Option (List Ab))) (h : Fv N p0 p1 p2 p3 p4 p5 p6 p7 p8 p9 p10 p11 p12 = some r) : BC Tryd.prog 35 [pD (.sl (p0.map Af)), pD (.sl (p1.map Af)), oD (.cls 36 [.rop [.sl (p2.map An), .sl (p3.map An), .sl (p4.map An), .sl (p5.map AK)], .rop [.sl (p6.map An), .sl (p7.map An), .sl (p8.map BW)], .rop [.sl (p9.map An), .sl (p10.map An), .sl (p11.map BW)], .ptr 90000 0])] [(.box [.pure (HC Af p12)], .box [.pure (HC Af r.2)])] [] (bD r.1) := Fh N N p0 p1 p2 p3 p4 p5 p6 p7 p8 p9 p10 p11 p12 r h
theorem H2 (N : Nat) (p0 : Ag) (p1 : Ah) (p2 : List Ab) (r : (List Ab) × Int) (h : ES N p0 p1 p2 = some r) : Ap Tryd.prog 13 [.e (.agg (Al p0)), .e (.agg (Az p1)), pD (.sl (p2.map Af))] [] (.tup [.one (sC (r.1.map Af)), .one (iC r.2)]) := by
 unfold ES at h
 refine cw (n := 49) (rs := [.tmp 6, .tmp 7]) Tryd.func13 fun w0 S0 => ?_
 refine wq rfl (qb rfl (qb rfl (qa rfl (qa rfl (Aa (wq rfl (qL Cf B0 rfl (qL A3 AD rfl ?_))))))))
 refine Bp h fun v1 a1 h => Aq [] (F4 N p0 p1 v1 a1) NQ rfl (qm rfl (qx rfl (qx rfl (qa rfl (qa rfl (Aa (wp rfl (qm rfl (Bb rfl (Aa ?_))))))))))
 refine A0 h (fun h => ?_) fun h => ?_
 ·refine wq rfl (qm rfl (qa rfl (qe rfl ?_)))
  obtain rfl := sj h
  refine Ad ((It 6 _ rfl).trans (sm [] [(6, pD (.sl ((([] : List Ab)).map Af))), (7, iD v1.2)] [] rfl rfl)) (Ao ?_)
  exact ⟨⟨[_, _], ⟨.tmp _ _ rfl, tm⟩, rfl⟩, tv⟩
 ·refine Aj (wp rfl (qm rfl ?_))
  refine Bp h fun v3 a3 h => Aq [] (Jx N p2 v3 a3) Qj rfl (qa rfl (Aa (wq rfl (qm rfl (Bb rfl (Aa ?_))))))
  refine A0 h (fun h => ?_) fun h => ?_
  ·refine wq rfl (qm rfl (qa rfl (qe rfl ?_)))
   obtain rfl := sj h
   refine Ad ((It 6 _ rfl).trans (sm [] [(6, pD (.sl ((([] : List Ab)).map Af))), (7, iD v3)] [] rfl rfl)) (Ao ?_)
   exact ⟨⟨[_, _], ⟨.tmp _ _ rfl, tm⟩, rfl⟩, tv⟩
  ·refine Aj (wq rfl (qL Cf B0 rfl (qL A3 AD rfl (qm rfl ?_))))
   refine Bp h fun v5 a5 h => Aq [] (DE N p0 p1 p2 v5 a5) M2 rfl (qm rfl (qx rfl (qx rfl (qz Cc rfl (qs AD rfl (qa rfl (Aa (AC ?_))))))))
   refine AM h (fun v6 => mk [(2, pD (.sl (p2.map Af))), (3, oD (.ptr 3 0)), (4, oD (.ptr 4 0)), (11, oD (.ptr 11 0)), (40, bD v6)] [(3, .box (Al p0)), (4, .box (Az p1)), (11, .box (Az v5.1))]) (fun j6 h => ?_) (fun v6 h => ?_)
   ·refine Ai Ax rfl (qm rfl (BJ rfl (qm rfl ?_)))
    refine CV 37 h rfl (fun h => ?_) fun h => ?_
    ·refine qw 2 rfl (qp rfl (Aa ?_))
     exact sn [] h
    ·refine qm rfl (BJ rfl (qp rfl (Aa ?_)))
     exact sn [] h
   ·refine A0 h (fun h => ?_) fun h => ?_
    ·refine wq rfl (qm rfl ?_)
     refine Bp h fun v9 a9 h => Aq [2001] (A7 N p2 v9 a9) MJ rfl (qa rfl (qe rfl ?_))
     obtain rfl := sj h
     refine Ad ((AT 2001 _ _ rfl rfl).trans (sm [] [(6, pD (.sl (v9.map Af))), (7, iD 0)] [] rfl rfl)) (Ao ?_)
     exact ⟨⟨[_, _], ⟨.tmp _ _ rfl, tm⟩, rfl⟩, tv⟩
    ·refine Aj (wq rfl ?_)
     refine L1 (.p rfl) K8 rfl ?_
     refine Aa (wq rfl (qm rfl (CI (Hj 3 [.sl (p0.ff.map An), .sl (p0.fm.map An), .sl (p0.fp.map An), .sl (p0.fc.map AK)] rfl rfl) (CI (Hj 4 [.sl (p1.fb.map An), .sl (p1.fa.map An), .sl (p1.fd.map BW)] rfl rfl) (CI (Hj 11 [.sl (v5.1.fb.map An), .sl (v5.1.fa.map An), .sl (v5.1.fd.map BW)] rfl rfl) ?_)))))
     refine J4 [.rop [.sl (p0.ff.map An), .sl (p0.fm.map An), .sl (p0.fp.map An), .sl (p0.fc.map AK)], .rop [.sl (p1.fb.map An), .sl (p1.fa.map An), .sl (p1.fd.map BW)], .rop [.sl (v5.1.fb.map An), .sl (v5.1.fa.map An), .sl (v5.1.fd.map BW)], .ptr 13 0] (.p rfl) rfl ⟨rfl, rfl, rfl, rfl, tv⟩ ?_
     refine Bp h fun v10 a10 h => Ii (ds0 := [_, _, _]) [13] [] [true] (HE N (([] : List Ab)) p2 p0.ff p0.fm p0.fp p0.fc p1.fb p1.fa p1.fd v5.1.fb v5.1.fa v5.1.fd ((none : Option (List Ab))) v10 a10) (.p rfl) OT rfl ⟨rfl, rfl, rfl, tv⟩ rfl rfl (by decide) ⟨rfl, tv⟩ rfl (Ey rfl) tv ⟨(fun h => by cases h), tv⟩ rfl rfl rfl ?_
     refine Aa (wp rfl (ql KH rfl ?_))
     refine Fu h fun c11 h => Mh (.p rfl) rfl AV c11 ?_
     refine Aa ?_
     refine A0 h (fun h => ?_) fun h => ?_
     ·refine wq rfl (qa rfl (qe rfl ?_))
      obtain rfl := sj h
      refine Ad ((It 6 _ rfl).trans (sm [] [(6, pD (.sl ((([] : List Ab)).map Af))), (7, iD 15)] [] rfl rfl)) (Ao ?_)
      exact ⟨⟨[_, _], ⟨.tmp _ _ rfl, tm⟩, rfl⟩, tv⟩
     ·refine Aj (wq rfl (ql KH rfl (qa rfl (qe rfl ?_))))
      obtain rfl := sj h
      refine Ad ((M8 6 v10.2 rfl).trans (sm [] [(6, pD (.sl (((v10.2.getD [])).map Af))), (7, iD 0)] [] rfl rfl)) (Ao ?_)
      exact ⟨⟨[_, _], ⟨.tmp _ _ rfl, tm⟩, rfl⟩, tv⟩
theorem F9 (N : Nat) (p0 : Ag) (p1 : Ah) (p2 : List Ab) (r : Bool × Int) (h : Dr N p0 p1 p2 = some r) : Ap Tryd.prog 9 [.e (.agg (Al p0)), .e (.agg (Az p1)), pD (.sl (p2.map Af))] [] (.tup [.one (.pure (.val (.bool r.1))), .one (iC r.2)]) := by
 unfold Dr at h
 refine cw (n := 26) (rs := [.tmp 6, .tmp 7]) Tryd.func9 fun w0 S0 => ?_
 refine wq rfl (qb rfl (qb rfl (qa rfl (qa rfl (Aa (wp rfl (qL Cf B0 rfl (qL A3 AD rfl ?_))))))))
 refine Bp h fun v1 a1 h => Aq [] (Ft N p0 p1 v1 a1) M4 rfl (qa rfl (Aa (wq rfl (qm rfl (Bb rfl (Aa ?_))))))
 refine A0 h (fun h => ?_) fun h => ?_
 ·refine wq rfl (qm rfl (qa rfl (qe rfl ?_)))
  obtain rfl := sj h
  refine Ad (sm [] [(6, bD false), (7, iD v1)] [] rfl rfl) (Ao ?_)
  exact ⟨⟨[_, _], ⟨.tmp _ _ rfl, tm⟩, rfl⟩, tv⟩
 ·refine Aj (wq rfl (qL Cf B0 rfl (qL A3 AD rfl (qm rfl ?_))))
  refine Bp h fun v3 a3 h => Aq [] (H2 N p0 p1 p2 v3 a3) OZ rfl (qm rfl (qx rfl (qx rfl (qa rfl (qa rfl (Aa (wq rfl (qm rfl (Be rfl (qa rfl (qe rfl ?_)))))))))))
  obtain rfl := sj h
  refine Ad (sm [] [(6, bD ((v3.2 == 15))), (7, iD 0)] [] rfl rfl) (Ao ?_)
  exact ⟨⟨[_, _], ⟨.tmp _ _ rfl, tm⟩, rfl⟩, tv⟩
theorem Kv (N : Nat) (p0 : Ag) (p1 : List Ab) (r : (List (List Ab)) × Int) (h : Gr N p0 p1 = some r) : Ap Tryd.prog 12 [.e (.agg (Al p0)), pD (.sl (p1.map Af))] [(1, r.1.map (Fl Af))] (.tup [.one (.own 0), .one (iC r.2)]) := by
 unfold Gr at h
 refine cw (n := 64) (rs := [.tmp 4, .tmp 5]) Tryd.func12 fun w0 S0 => ?_
 refine wq rfl (qb rfl (qa rfl (qa rfl (Aa (wq rfl (qL Cf B0 rfl ?_))))))
 refine Bp h fun v1 a1 h => Aq [2001, 2002, 2003] (Gk N p0 v1 a1) NP rfl (qm rfl (qx rfl (qx rfl (qz Cc rfl (qs AD rfl (qa rfl (Aa (wp rfl (qm rfl (Bb rfl (Aa ?_)))))))))))
 refine A0 h (fun h => ?_) fun h => ?_
 ·refine wq rfl (qm rfl (qa rfl (qe rfl ?_)))
  obtain rfl := sj h
  refine Ad ((Bx 4 2004 1 rfl rfl rfl).trans (sm [(1000, 2004)] [(4, oD (.own 1000)), (5, iD v1.2)] [(1000, .vec 1 ((([] : List (List Ab))).map (Fl Af)))] rfl rfl)) (Ao ?_)
  exact ⟨⟨[_, _], ⟨.tmp _ _ rfl, tm⟩, rfl⟩, ⟨rfl, tv⟩⟩
 ·refine Aj (wp rfl (qL Cf B0 rfl (qm rfl ?_)))
  refine Bp h fun v3 a3 h => Aq [] (JJ N p0 p1 v3 a3) Qg rfl (BJ rfl (Aa ?_))
  refine A0 h (fun h => ?_) fun h => ?_
  ·refine wq rfl (qa rfl (qe rfl ?_))
   obtain rfl := sj h
   refine Ad ((Bx 4 2005 1 rfl rfl rfl).trans (sm [(1000, 2005)] [(4, oD (.own 1000)), (5, iD 13)] [(1000, .vec 1 ((([] : List (List Ab))).map (Fl Af)))] rfl rfl)) (Ao ?_)
   exact ⟨⟨[_, _], ⟨.tmp _ _ rfl, tm⟩, rfl⟩, ⟨rfl, tv⟩⟩
  ·refine Aj (wq rfl (qa rfl (Aa (AC ?_))))
   refine AE (L := DW N p0) h (fun v5 => mk [(1, pD (.sl (v5.2.2.2.1.map Af))), (2, oD (.ptr 2 0)), (6, oD (.ptr 6 0)), (8, oD (.own 2006))] [(2, .box (Al p0)), (6, .box [sC (v5.1.map An), sC (v5.2.1.map An), sC (v5.2.2.1.map BW)]), (2006, .vec 1 (v5.2.2.2.2.map (Fl Af)))]) (fun v6 => mk [(8, oD (.own 2007))] [(2007, .vec 1 (v6.map (Fl Af)))]) (fun _ _ => rfl) ((Bx 8 2011 1 rfl rfl rfl).trans ((AT 2001 _ _ rfl rfl).trans ((AT 2002 _ _ rfl rfl).trans ((AT 2003 _ _ rfl rfl).trans (sm [(2006, 2011)] _ _ rfl rfl))))) (fun j5 n5 v5 h => ?_) (fun v6 s h hs => ?_)
   ·unfold DW at h
    refine wp rfl (qm rfl (Aw AV rfl (DR rfl (Aa ?_))))
    refine A0 h (fun h => ?_) fun h => ?_
    ·refine Aj (AJ (wq rfl (qm rfl (Aw AV rfl ?_))))
     refine KS (.p rfl) rfl rfl ?_
     refine qa rfl (Aa (AC ?_))
     refine AE (L := D4 N p0 v5) h (fun v8 => mk [(1, pD (.sl (v5.2.2.2.1.map Af))), (2, oD (.ptr 2 0)), (6, oD (.ptr 6 0)), (8, oD (.own 2008)), (9, iD v8)] [(2, .box (Al p0)), (6, .box [sC (v5.1.map An), sC (v5.2.1.map An), sC (v5.2.2.1.map BW)]), (2008, .vec 1 (v5.2.2.2.2.map (Fl Af)))]) (fun v9 => mk [(1, pD (.sl (v5.2.2.2.1.map Af))), (2, oD (.ptr 2 0)), (6, oD (.ptr 6 0)), (8, oD (.own 2009)), (9, iD v9)] [(2, .box (Al p0)), (6, .box [sC (v5.1.map An), sC (v5.2.1.map An), sC (v5.2.2.1.map BW)]), (2009, .vec 1 (v5.2.2.2.2.map (Fl Af)))]) (fun _ _ => rfl) (sm [(2008, 2006)] _ _ rfl rfl) (fun j8 n8 v8 h => ?_) (fun v9 s h hs => ?_)
     ·unfold D4 at h
      refine wp rfl (qm rfl (DR rfl (Aa ?_)))
      refine A0 h (fun h => ?_) fun h => ?_
      ·refine Aj (AJ (wp rfl (qL Cf B0 rfl (qL A3 AD rfl (qw 2 rfl ?_)))))
       refine Fu h fun c11 h => Fn (.p rfl) rfl AV BB (Dq (f := Af) (n := 3) (fun _ => rfl) _) (.none _) (.some _ _ _ _ c11.1) tv ⟨rfl, tv⟩ (by have := c11.2.1; (try simp only [List.length_map]); omega) (by have := c11.2.2; (try simp only [List.length_map]); omega) (Eu Af v5.2.2.2.1 _ _ ((v8).toNat - 0) rfl) ?_
       refine Bp h fun v12 a12 h => Aq [] (F9 N p0 ((Ah.mk v5.1 v5.2.1 v5.2.2.1)) (((v5.2.2.2.1.drop 0).take ((v8).toNat - 0))) v12 a12) P2 rfl (qm rfl (qx rfl (qx rfl (qa rfl (qa rfl (AF (by kernel_rfl) (wq rfl (qm rfl (Aa ?_)))))))))
       refine A0 h (fun h => ?_) fun h => ?_
       ·refine AR ?_
        exact sn [(2009, 2008)] h
       ·refine Aj (Ai Ax rfl (qm rfl (KM rfl (qe rfl ?_))))
        exact sn [] h
      ·refine AR ?_
       exact sn [(2009, 2008)] h
     ·refine Ad hs (wq rfl (qw 3 rfl ?_))
      refine Fu h fun c14 h => Fn (.p rfl) rfl AV BB (Dq (f := Af) (n := 3) (fun _ => rfl) _) (.none _) (.some _ _ _ _ c14.1) tv ⟨rfl, tv⟩ (by have := c14.2.1; (try simp only [List.length_map]); omega) (by have := c14.2.2; (try simp only [List.length_map]); omega) (Eu Af v5.2.2.2.1 _ _ ((v9).toNat - 0) rfl) ?_
      refine Bp h fun v15 a15 h => Aq [2010] (A7 N (((v5.2.2.2.1.drop 0).take ((v9).toNat - 0))) v15 a15) MJ rfl (CI (AT 2010 _ _ rfl rfl) (EO Ef IL K8 rfl ?_))
      refine Fu h fun c16 h => FG (f := (Fl Af)) Ef Ef IL NA K8 c16 rfl (qa rfl (Aa (wq rfl (qL Cf B0 rfl (qL A3 AD rfl (qw 2 rfl ?_))))))
      refine Fu h fun c17 h => Fn (.p rfl) rfl AV BB (Dq (f := Af) (n := 3) (fun _ => rfl) _) (.none _) (.some _ _ _ _ c17.1) tv ⟨rfl, tv⟩ (by have := c17.2.1; (try simp only [List.length_map]); omega) (by have := c17.2.2; (try simp only [List.length_map]); omega) (Eu Af v5.2.2.2.1 _ _ ((v9).toNat - 0) rfl) ?_
      refine Bp h fun v18 a18 h => Aq [] (DE N p0 ((Ah.mk v5.1 v5.2.1 v5.2.2.1)) (((v5.2.2.2.1.drop 0).take ((v9).toNat - 0))) v18 a18) M2 rfl (qm rfl (qx rfl (qx rfl (qs AD rfl (AF (by kernel_rfl) (Ai Ax rfl (qw 2 rfl ?_)))))))
      refine Fu h fun c19 h => Fn (.p rfl) rfl AV BB (Dq (f := Af) (n := 3) (fun _ => rfl) _) (.some _ _ _ _ c19.1) (.none _) ⟨rfl, tv⟩ tv (by have := c19.2.1; (try simp only [List.length_map]); omega) (by have := c19.2.2; (try simp only [List.length_map]); omega) (Eu Af v5.2.2.2.1 _ _ (v5.2.2.2.1.length - (v9).toNat) (by rw [List.length_map])) ?_
      refine qa rfl (Aa ?_)
      exact sn [(2006, 50)] h
    ·refine AR ?_
     exact sn [(2007, 2006)] h
   ·refine Ad hs (wq rfl (qm rfl (qa rfl (qe rfl ?_))))
    obtain rfl := sj h
    refine Ad (sm [(1000, 2007)] [(4, oD (.own 1000)), (5, iD 0)] [(1000, .vec 1 (v6.map (Fl Af)))] rfl rfl) (Ao ?_)
    exact ⟨⟨[_, _], ⟨.tmp _ _ rfl, tm⟩, rfl⟩, ⟨rfl, tv⟩⟩
theorem Et (N : Nat) (p0 : AA) (r : Bool) (h : Ci N p0 = some r) : Ap Tryd.prog 19 [.e (.agg (A1 p0))] [] (bD r) := by
 unfold Ci at h
 refine cw (n := 11) (rs := [.tmp 2]) Tryd.func19 fun w0 S0 => ?_
 refine wq rfl (qb rfl (qe rfl ?_))
 refine AM h (fun v1 => mk [(2, bD v1)] []) (fun j1 h => ?_) (fun v1 h => ?_)
 ·refine Ai Ax rfl (qf DD rfl (ql BR rfl (Be rfl (qm rfl ?_))))
  refine CV 6 h rfl (fun h => ?_) fun h => ?_
  ·refine qw 3 rfl (qp rfl (qe rfl ?_))
   exact sn [] h
  ·refine qf DD rfl (ql BR rfl (Be rfl (qp rfl (qe rfl ?_))))
   exact sn [] h
 ·obtain rfl := sj h
  refine Ad (sm [] [(2, bD v1)] [] rfl rfl) (Ao ?_)
  exact ⟨⟨[_], tm, rfl⟩, tv⟩
theorem EB (N : Nat) (p0 : List (List Bool)) (p1 : Int) (p2 : Int) (r : Bool) (h : Cj N p0 p1 p2 = some r) : Ap Tryd.prog 42 [pD (.sl (p0.map (Fl eB))), iD p1, iD p2] [] (bD r) := by
 unfold Cj at h
 refine cw (n := 24) (rs := [.tmp 6]) Tryd.func42 fun w0 S0 => ?_
 refine wq rfl (qa rfl (Aa (wp rfl (qm rfl (Aw E9 rfl (qm rfl (Bb rfl (Aa ?_))))))))
 refine A0 h (fun h => ?_) fun h => ?_
 ·refine wq rfl (qe rfl ?_)
  obtain rfl := sj h
  refine Ad (sm [] [(6, bD false)] [] rfl rfl) (Ao ?_)
  exact ⟨⟨[_], tm, rfl⟩, tv⟩
 ·refine Aj (wp rfl (qe rfl ?_))
  refine AE (L := BP N p0 p1 p2) h (fun v2 => mk [(0, pD (.sl (p0.map (Fl eB)))), (1, iD p1), (2, iD p2), (7, iD v2)] []) (fun v3 => mk [] []) (fun _ _ => rfl) (sm [] _ _ rfl rfl) (fun j2 n2 v2 h => ?_) (fun v3 s h hs => ?_)
  ·unfold BP at h
   refine wp rfl (qw 2 rfl (AS rfl (Aa ?_)))
   refine A0 h (fun h => ?_) fun h => ?_
   ·refine Aj (AC (AJ (wq rfl (qw 2 rfl ?_))))
    refine B6 h fun v5 a5 b5 h => qi E9 Li a5 (Ak b5) rfl (qk Lj rfl (Aw IG rfl (qm rfl (Bb rfl (Aa ?_)))))
    refine A0 h (fun h => ?_) fun h => ?_
    ·refine wq rfl (qe rfl ?_)
     obtain rfl := sj h
     refine Ad (sm [] [(6, bD false)] [] rfl rfl) (Ao ?_)
     exact ⟨⟨[_], tm, rfl⟩, tv⟩
    ·refine Aj (Ai Ax rfl (qm rfl (Bf rfl (qe rfl ?_))))
     exact sn [] h
   ·refine AR ?_
    exact sn [] h
  ·refine Ad hs (wq rfl (qe rfl ?_))
   obtain rfl := sj h
   refine Ad (sm [] [(6, bD true)] [] rfl rfl) (Ao ?_)
   exact ⟨⟨[_], tm, rfl⟩, tv⟩
theorem GN (N : Nat) (p0 : Ag) (p1 : AA) (r : Int) (h : C6 N p0 p1 = some r) : Ap Tryd.prog 28 [.e (.agg (Al p0)), .e (.agg (A1 p1))] [] (iD r) := by
 unfold C6 at h
 refine cw (n := 101) (rs := [.tmp 4]) Tryd.func28 fun w0 S0 => ?_
 refine wq rfl (qb rfl (qb rfl (qa rfl (Aa (AC ?_)))))
 refine AM h (fun v1 => mk [(2, oD (.ptr 2 0)), (3, oD (.ptr 3 0)), (22, bD v1)] [(2, .box (Al p0)), (3, .box (A1 p1))]) (fun j1 h => ?_) (fun v1 h => ?_)
 ·refine Ai Ax rfl (qf DD rfl (ql BR rfl (AS rfl (qm rfl ?_))))
  refine CV 10 h rfl (fun h => ?_) fun h => ?_
  ·refine qw 3 rfl (qp rfl (qw 4 rfl (qu rfl (qu rfl (qn rfl (qp rfl (Aa ?_)))))))
   exact sn [] h
  ·refine qf DD rfl (ql BR rfl (DR rfl (qp rfl (qm rfl ?_))))
   refine CV 15 h rfl (fun h => ?_) fun h => ?_
   ·refine qw 3 rfl (qu rfl (qu rfl (qn rfl (qp rfl (Aa ?_)))))
    exact sn [] h
   ·refine qf Ig rfl (ql Nk rfl (qm rfl ?_))
    refine CV 18 h rfl (fun h => ?_) fun h => ?_
    ·refine qL GR DJ rfl ?_
     refine Bp h fun v5 a5 h => Aq [] (Et N p1 v5 a5) Ov rfl (qp rfl (qp rfl (Aa ?_)))
     exact sn [] h
    ·refine qw 2 rfl (qp rfl (qp rfl (Aa ?_)))
     exact sn [] h
 ·refine A0 h (fun h => ?_) fun h => ?_
  ·refine wq rfl (qe rfl ?_)
   obtain rfl := sj h
   refine Ad (sm [] [(4, iD 1)] [] rfl rfl) (Ao ?_)
   exact ⟨⟨[_], tm, rfl⟩, tv⟩
  ·refine Aj (wq rfl (qf Bz rfl (ql A8 rfl (Aw Ay rfl (qa rfl (Aa (AC ?_)))))))
   refine AM h (fun v7 => mk [(2, oD (.ptr 2 0)), (3, oD (.ptr 3 0)), (45, bD v7)] [(2, .box (Al p0)), (3, .box (A1 p1))]) (fun j7 h => ?_) (fun v7 h => ?_)
   ·refine Ai Ax rfl (qf CP rfl (ql BR rfl (AS rfl (qm rfl ?_))))
    refine CV 29 h rfl (fun h => ?_) fun h => ?_
    ·refine qw 4 rfl (qp rfl (qw 4 rfl (qp rfl (qw 5 rfl (qp rfl (Aa ?_))))))
     exact sn [] h
    ·refine qf CP rfl (ql BR rfl (qm rfl (EC rfl (qp rfl (qm rfl ?_)))))
     refine CV 35 h rfl (fun h => ?_) fun h => ?_
     ·refine qw 3 rfl (qp rfl (qw 5 rfl (qp rfl (Aa ?_))))
      exact sn [] h
     ·refine qf GM rfl (ql BR rfl (AS rfl (qp rfl (qm rfl ?_))))
      refine CV 40 h rfl (fun h => ?_) fun h => ?_
      ·refine qw 4 rfl (qp rfl (Aa ?_))
       exact sn [] h
      ·refine qf GM rfl (ql BR rfl (qm rfl (EC rfl (qp rfl (Aa ?_)))))
       exact sn [] h
   ·refine A0 h (fun h => ?_) fun h => ?_
    ·refine wq rfl (qe rfl ?_)
     obtain rfl := sj h
     refine Ad (sm [] [(4, iD 4)] [] rfl rfl) (Ao ?_)
     exact ⟨⟨[_], tm, rfl⟩, tv⟩
    ·refine Aj (wp rfl (qf Ih rfl (ql Ho rfl (qf Bz rfl (ql A8 rfl (qf CP rfl (ql BR rfl ?_)))))))
     refine B6 h fun v12 a12 b12 h => qi Ay Db a12 (Ak b12) rfl (qk BR rfl (qf Bz rfl (ql A8 rfl (qf GM rfl (ql BR rfl ?_)))))
     refine B6 h fun v13 a13 b13 h => qi Ay Db a13 (Ak b13) rfl (qk BR rfl ?_)
     refine Bp h fun v14 a14 h => Aq [] (EB N p1.fj v12 v13 v14 a14) O9 rfl (BJ rfl (AF (by kernel_rfl) ?_))
     refine A0 h (fun h => ?_) fun h => ?_
     ·refine wq rfl (qe rfl ?_)
      obtain rfl := sj h
      refine Ad (sm [] [(4, iD 6)] [] rfl rfl) (Ao ?_)
      exact ⟨⟨[_], tm, rfl⟩, tv⟩
     ·refine Aj (wp rfl (qf DD rfl (ql BR rfl (Bb rfl (Aa ?_)))))
      refine A0 h (fun h => ?_) fun h => ?_
      ·refine wp rfl (qf Er rfl (ql Ho rfl (Aw E9 rfl (Bb rfl (Aa ?_)))))
       refine A0 h (fun h => ?_) fun h => ?_
       ·refine wq rfl (qe rfl ?_)
        obtain rfl := sj h
        refine Ad (sm [] [(4, iD 6)] [] rfl rfl) (Ao ?_)
        exact ⟨⟨[_], tm, rfl⟩, tv⟩
       ·refine Aj (wq rfl (qe rfl ?_))
        obtain rfl := sj h
        refine Ad (sm [] [(4, iD 0)] [] rfl rfl) (Ao ?_)
        exact ⟨⟨[_], tm, rfl⟩, tv⟩
      ·refine Aj (wp rfl (qf Er rfl (ql Ho rfl (qf Bz rfl (ql A8 rfl (qf CP rfl (ql BR rfl ?_)))))))
       refine B6 h fun v18 a18 b18 h => qi Ay Db a18 (Ak b18) rfl (qk BR rfl (qf Bz rfl (ql A8 rfl (qf CP rfl (ql BR rfl ?_)))))
       refine B6 h fun v19 a19 b19 h => qi Ay Db a19 (Ak b19) rfl (qk BR rfl ?_)
       refine Bp h fun v20 a20 h => Aq [] (EB N p1.fk v18 v19 v20 a20) O9 rfl (BJ rfl (AF (by kernel_rfl) ?_))
       refine A0 h (fun h => ?_) fun h => ?_
       ·refine wq rfl (qe rfl ?_)
        obtain rfl := sj h
        refine Ad (sm [] [(4, iD 6)] [] rfl rfl) (Ao ?_)
        exact ⟨⟨[_], tm, rfl⟩, tv⟩
       ·refine Aj (wp rfl (qe rfl ?_))
        refine AE (L := BO N p1) h (fun v22 => mk [(3, oD (.ptr 3 0)), (6, iD v22)] [(3, .box (A1 p1))]) (fun v23 => mk [] []) (fun _ _ => rfl) (sm [] _ _ rfl rfl) (fun j22 n22 v22 h => ?_) (fun v23 s h hs => ?_)
        ·unfold BO at h
         refine wp rfl (qm rfl (qf Er rfl (ql Ho rfl (Aw E9 rfl (AS rfl (Aa ?_))))))
         refine A0 h (fun h => ?_) fun h => ?_
         ·refine Aj (AC (AJ (wq rfl (qf Er rfl (ql Ho rfl (qm rfl ?_))))))
          refine B6 h fun v25 a25 b25 h => qi E9 Li a25 (Ak b25) rfl (qk Lj rfl (qm rfl ?_))
          refine B6 h fun v26 a26 b26 h => qi IG Pl a26 (Ak b26) rfl (qk Nk rfl (BJ rfl (Aa ?_)))
          refine A0 h (fun h => ?_) fun h => ?_
          ·refine wq rfl (qe rfl ?_)
           obtain rfl := sj h
           refine Ad (sm [] [(4, iD 1)] [] rfl rfl) (Ao ?_)
           exact ⟨⟨[_], tm, rfl⟩, tv⟩
          ·refine Aj (Ai Ax rfl (qm rfl (Bf rfl (qe rfl ?_))))
           exact sn [] h
         ·refine AR ?_
          exact sn [] h
        ·refine Ad hs (wq rfl (qe rfl ?_))
         obtain rfl := sj h
         refine Ad (sm [] [(4, iD 0)] [] rfl rfl) (Ao ?_)
         exact ⟨⟨[_], tm, rfl⟩, tv⟩
theorem EX (N : Nat) (p0 : Ag) (r : Int) (h : Cb N p0 = some r) : Ap Tryd.prog 10 [.e (.agg (Al p0))] [] (iD r) := by
 unfold Cb at h
 refine cw (n := 102) (rs := [.tmp 2]) Tryd.func10 fun w0 S0 => ?_
 refine wq rfl (qb rfl (qa rfl (Aa (AC ?_))))
 refine AM h (fun v1 => mk [(1, oD (.ptr 1 0)), (16, bD v1)] [(1, .box (Al p0))]) (fun j1 h => ?_) (fun v1 h => ?_)
 ·refine Ai Ax rfl (qf Bz rfl (ql A8 rfl (Aw Ay rfl (DR rfl (qm rfl ?_)))))
  refine CV 11 h rfl (fun h => ?_) fun h => ?_
  ·refine qw 4 rfl (qp rfl (Aa ?_))
   exact sn [] h
  ·refine qf Cx rfl (ql GT rfl (Aw Dz rfl (DR rfl (qp rfl (Aa ?_)))))
   exact sn [] h
 ·refine A0 h (fun h => ?_) fun h => ?_
  ·refine wq rfl (qe rfl ?_)
   obtain rfl := sj h
   refine Ad (sm [] [(2, iD 3)] [] rfl rfl) (Ao ?_)
   exact ⟨⟨[_], tm, rfl⟩, tv⟩
  ·refine Aj (AC ?_)
   refine AM h (fun v4 => mk [(1, oD (.ptr 1 0)), (32, bD v4)] [(1, .box (Al p0))]) (fun j4 h => ?_) (fun v4 h => ?_)
   ·refine Ai Ax rfl (qf Es rfl (ql A8 rfl (Aw Ay rfl (qf Bz rfl (ql A8 rfl (Aw Ay rfl (Bb rfl (qm rfl ?_))))))))
    refine CV 24 h rfl (fun h => ?_) fun h => ?_
    ·refine qw 7 rfl (qp rfl (Aa ?_))
     exact sn [] h
    ·refine qf GK rfl (ql A8 rfl (Aw Ay rfl (qf Bz rfl (ql A8 rfl (Aw Ay rfl (Bb rfl (qp rfl (Aa ?_))))))))
     exact sn [] h
   ·refine A0 h (fun h => ?_) fun h => ?_
    ·refine wq rfl (qe rfl ?_)
     obtain rfl := sj h
     refine Ad (sm [] [(2, iD 6)] [] rfl rfl) (Ao ?_)
     exact ⟨⟨[_], tm, rfl⟩, tv⟩
    ·refine Aj (wp rfl (qe rfl ?_))
     refine AE (L := Bg N p0) h (fun v7 => mk [(1, oD (.ptr 1 0)), (3, iD v7)] [(1, .box (Al p0))]) (fun v8 => mk [(1, oD (.ptr 1 0))] [(1, .box (Al p0))]) (fun _ _ => rfl) (sm [] _ _ rfl rfl) (fun j7 n7 v7 h => ?_) (fun v8 s h hs => ?_)
     ·unfold Bg at h
      refine wp rfl (qm rfl (qf Bz rfl (ql A8 rfl (Aw Ay rfl (AS rfl (Aa ?_))))))
      refine A0 h (fun h => ?_) fun h => ?_
      ·refine Aj (AC (AJ (wq rfl (qf Bz rfl (ql A8 rfl (qm rfl ?_))))))
       refine B6 h fun v10 a10 b10 h => qi Ay Db a10 (Ak b10) rfl (qk BR rfl (qe rfl ?_))
       refine AM h (fun v11 => mk [(1, oD (.ptr 1 0)), (3, iD v7), (84, bD v11)] [(1, .box (Al p0))]) (fun j11 h => ?_) (fun v11 h => ?_)
       ·refine Ai Ax rfl (qm rfl (AS rfl (qm rfl ?_)))
        refine CV 47 h rfl (fun h => ?_) fun h => ?_
        ·refine qw 2 rfl (qp rfl (qw 7 rfl (qp rfl (qw 8 rfl (qp rfl (qw 7 rfl (qp rfl (qw 8 rfl (qp rfl (Aa ?_))))))))))
         exact sn [] h
        ·refine qm rfl (DR rfl (qp rfl (qm rfl ?_)))
         refine CV 51 h rfl (fun h => ?_) fun h => ?_
         ·refine qw 6 rfl (qp rfl (qw 8 rfl (qp rfl (qw 7 rfl (qp rfl (qw 8 rfl (qp rfl (Aa ?_))))))))
          exact sn [] h
         ·refine qf Es rfl (ql A8 rfl (qm rfl ?_))
          refine B6 h fun v14 a14 b14 h => qi Ay Db a14 (Ak b14) rfl (qk BR rfl (AS rfl (qp rfl (qm rfl ?_))))
          refine CV 59 h rfl (fun h => ?_) fun h => ?_
          ·refine qw 7 rfl (qp rfl (qw 7 rfl (qp rfl (qw 8 rfl (qp rfl (Aa ?_))))))
           exact sn [] h
          ·refine qf Es rfl (ql A8 rfl (qm rfl ?_))
           refine B6 h fun v16 a16 b16 h => qi Ay Db a16 (Ak b16) rfl (qk BR rfl (qm rfl (EC rfl (qp rfl (qm rfl ?_)))))
           refine CV 68 h rfl (fun h => ?_) fun h => ?_
           ·refine qw 6 rfl (qp rfl (qw 8 rfl (qp rfl (Aa ?_))))
            exact sn [] h
           ·refine qf GK rfl (ql A8 rfl (qm rfl ?_))
            refine B6 h fun v18 a18 b18 h => qi Ay Db a18 (Ak b18) rfl (qk BR rfl (AS rfl (qp rfl (qm rfl ?_))))
            refine CV 76 h rfl (fun h => ?_) fun h => ?_
            ·refine qw 7 rfl (qp rfl (Aa ?_))
             exact sn [] h
            ·refine qf GK rfl (ql A8 rfl (qm rfl ?_))
             refine B6 h fun v20 a20 b20 h => qi Ay Db a20 (Ak b20) rfl (qk BR rfl (qm rfl (EC rfl (qp rfl (Aa ?_)))))
             exact sn [] h
       ·refine A0 h (fun h => ?_) fun h => ?_
        ·refine wq rfl (qe rfl ?_)
         obtain rfl := sj h
         refine Ad (sm [] [(2, iD 7)] [] rfl rfl) (Ao ?_)
         exact ⟨⟨[_], tm, rfl⟩, tv⟩
        ·refine Aj (Ai Ax rfl (qm rfl (Bf rfl (qe rfl ?_))))
         exact sn [] h
      ·refine AR ?_
       exact sn [] h
     ·refine Ad hs (wp rfl (qe rfl ?_))
      refine AE (L := A9 N p0) h (fun v22 => mk [(1, oD (.ptr 1 0)), (5, iD v22)] [(1, .box (Al p0))]) (fun v23 => mk [] []) (fun _ _ => rfl) (sm [] _ _ rfl rfl) (fun j22 n22 v22 h => ?_) (fun v23 s h hs => ?_)
      ·unfold A9 at h
       refine wp rfl (qm rfl (qf Cx rfl (ql GT rfl (Aw Dz rfl (AS rfl (Aa ?_))))))
       refine A0 h (fun h => ?_) fun h => ?_
       ·refine Aj (AC (AJ (wq rfl (qL Cf B0 rfl (qf Cx rfl (ql GT rfl (qm rfl ?_)))))))
        refine B6 h fun v25 a25 b25 h => qi Dz DJ a25 (Ak b25) rfl (qK GR DJ rfl ?_)
        refine Bp h fun v26 a26 h => Aq [] (GN N p0 v25 v26 a26) PT rfl (qa rfl (AF (by kernel_rfl) (wq rfl (qm rfl (Bb rfl (Aa ?_))))))
        refine A0 h (fun h => ?_) fun h => ?_
        ·refine wq rfl (qm rfl (qe rfl ?_))
         obtain rfl := sj h
         refine Ad (sm [] [(2, iD v26)] [] rfl rfl) (Ao ?_)
         exact ⟨⟨[_], tm, rfl⟩, tv⟩
        ·refine Aj (Ai Ax rfl (qm rfl (Bf rfl (qe rfl ?_))))
         exact sn [] h
       ·refine AR ?_
        exact sn [] h
      ·refine Ad hs (wq rfl (qe rfl ?_))
       obtain rfl := sj h
       refine Ad (sm [] [(2, iD 0)] [] rfl rfl) (Ao ?_)
       exact ⟨⟨[_], tm, rfl⟩, tv⟩
theorem GP (N : Nat) (p0 : Ag) (r : Ah × Int) (h : C8 N p0 = some r) : Ap Tryd.prog 22 [.e (.agg (Al p0))] [(1, r.1.fb.map An), (1, r.1.fa.map An), (1, r.1.fd.map BW)] (.tup [.agg [.own 0, .own 1, .own 2], .one (iC r.2)]) := by
 unfold C8 at h
 refine cw (n := 68) (rs := [.cell 2 38, .tmp 3]) Tryd.func22 fun w0 S0 => ?_
 refine wq rfl (qb rfl (qz Cc rfl (qa rfl (Aa (wp rfl (qL Cf B0 rfl ?_))))))
 refine Bp h fun v1 a1 h => Aq [] (EX N p0 v1 a1) PF rfl (qa rfl (Aa (wq rfl (qm rfl (Bb rfl (Aa ?_))))))
 refine A0 h (fun h => ?_) fun h => ?_
 ·refine wq rfl (A4 Cc GB rfl (qm rfl (qs AD rfl (qe rfl ?_))))
  obtain rfl := sj h
  refine Ad ((AO 2 0 2001 1 _ rfl rfl rfl rfl).trans ((AO 2 1 2002 1 _ rfl rfl rfl rfl).trans ((AO 2 2 2003 1 _ rfl rfl rfl rfl).trans (sm [(1000, 2001), (1001, 2002), (1002, 2003)] [(2, oD (.ptr 2 0)), (3, iD v1)] [(2, .box [.own 1000, .own 1001, .own 1002]), (1000, .vec 1 ((([] : List Int)).map An)), (1001, .vec 1 ((([] : List Int)).map An)), (1002, .vec 1 ((([] : List Int)).map BW))] rfl rfl)))) (Ao ?_)
  exact ⟨⟨[_, _], ⟨.cellN _ _ _ _ _ _ _ rfl rfl A3 AD rfl rfl (Gf rfl), tm⟩, rfl⟩, ⟨rfl, rfl, rfl, tv⟩⟩
 ·refine Aj (wq rfl (qz Cc rfl (Aa (wp rfl (qe rfl ?_)))))
  refine AE (L := BY N p0) h (fun v3 => mk [(1, oD (.ptr 1 0)), (2, oD (.ptr 2 0)), (5, oD (.ptr 5 0)), (6, iD v3.2.2)] [(1, .box (Al p0)), (2, .box [.pure (.nil0), .pure (.nil0), .pure (.nil0)]), (5, .box [.own 2004, .own 2005, .pure (.nil0)]), (2004, .vec 1 (v3.1.map An)), (2005, .vec 1 (v3.2.1.map An))]) (fun v4 => mk [(1, oD (.ptr 1 0)), (2, oD (.ptr 2 0)), (5, oD (.ptr 5 0))] [(1, .box (Al p0)), (2, .box [.pure (.nil0), .pure (.nil0), .pure (.nil0)]), (5, .box [.own 2006, .own 2007, .pure (.nil0)]), (2006, .vec 1 (v4.1.map An)), (2007, .vec 1 (v4.2.map An))]) (fun _ _ => rfl) ((AO 5 0 2008 1 _ rfl rfl rfl rfl).trans ((AO 5 1 2009 1 _ rfl rfl rfl rfl).trans (sm [(2004, 2008), (2005, 2009)] _ _ rfl rfl))) (fun j3 n3 v3 h => ?_) (fun v4 s h hs => ?_)
  ·unfold BY at h
   refine wp rfl (qm rfl (qf Bz rfl (ql A8 rfl (Aw Ay rfl (AS rfl (Aa ?_))))))
   refine A0 h (fun h => ?_) fun h => ?_
   ·refine Aj (AC (AJ (wq rfl (qf Cz rfl (ql A8 rfl (qf Es rfl (ql A8 rfl (qm rfl ?_))))))))
    refine B6 h fun v6 a6 b6 h => qi Ay Db a6 (Ak b6) rfl (qk BR rfl (EO Ay Db K6 rfl ?_))
    refine Fu h fun c7 h => FG (f := An) Ay Ay Db Mk K6 c7 rfl (qf Cz rfl (qs OU rfl (AF (by kernel_rfl) (Ai Ax rfl (qf BQ rfl (ql A8 rfl (EO Ay Db K6 rfl ?_)))))))
    refine Fu h fun c8 h => FG (f := An) Ay Ay Db Mk K6 c8 rfl (qf BQ rfl (qs OU rfl (Aa (Ai Ax rfl (qm rfl (Bf rfl (qe rfl ?_)))))))
    exact sn [(2004, 30), (2005, 35)] h
   ·refine AR ?_
    exact sn [(2006, 2004), (2007, 2005)] h
  ·refine Ad hs (wp rfl (qe rfl ?_))
   refine AE (L := BZ N p0) h (fun v9 => mk [(1, oD (.ptr 1 0)), (2, oD (.ptr 2 0)), (5, oD (.ptr 5 0)), (7, iD v9.2)] [(1, .box (Al p0)), (2, .box [.pure (.nil0), .pure (.nil0), .pure (.nil0)]), (5, .box [.own 2010, .own 2011, .own 2012]), (2010, .vec 1 (v4.1.map An)), (2011, .vec 1 (v4.2.map An)), (2012, .vec 1 (v9.1.map BW))]) (fun v10 => mk [(2, oD (.ptr 2 0)), (5, oD (.ptr 5 0))] [(2, .box [.pure (.nil0), .pure (.nil0), .pure (.nil0)]), (5, .box [.own 2013, .own 2014, .own 2015]), (2013, .vec 1 (v4.1.map An)), (2014, .vec 1 (v4.2.map An)), (2015, .vec 1 (v10.map BW))]) (fun _ _ => rfl) ((AO 5 2 2019 1 _ rfl rfl rfl rfl).trans (sm [(2010, 2006), (2011, 2007), (2012, 2019)] _ _ rfl rfl)) (fun j9 n9 v9 h => ?_) (fun v10 s h hs => ?_)
   ·unfold BZ at h
    refine wp rfl (qm rfl (qf Cx rfl (ql GT rfl (Aw Dz rfl (AS rfl (Aa ?_))))))
    refine A0 h (fun h => ?_) fun h => ?_
    ·refine Aj (AC (AJ (wq rfl (qe rfl ?_))))
     refine AM h (fun v12 => mk [(1, oD (.ptr 1 0)), (2, oD (.ptr 2 0)), (5, oD (.ptr 5 0)), (7, iD v9.2), (8, pD (.val (.int .u8 v12)))] [(1, .box (Al p0)), (2, .box [.pure (.nil0), .pure (.nil0), .pure (.nil0)]), (5, .box [.own 2016, .own 2017, .own 2018]), (2016, .vec 1 (v4.1.map An)), (2017, .vec 1 (v4.2.map An)), (2018, .vec 1 (v9.1.map BW))]) (fun j12 h => ?_) (fun v12 h => ?_)
     ·refine wq rfl (qf Cx rfl (ql GT rfl (qm rfl ?_)))
      refine B6 h fun v13 a13 b13 h => qi Dz DJ a13 (Ak b13) rfl (qK GR DJ rfl ?_)
      refine Bp h fun v14 a14 h => Aq [] (Et N v13 v14 a14) Ov rfl (Aa ?_)
      refine A0 h (fun h => ?_) fun h => ?_
      ·refine Ai Ax rfl (qf Es rfl (ql A8 rfl (qf Cx rfl (ql GT rfl (qm rfl ?_)))))
       refine B6 h fun v16 a16 b16 h => qi Dz DJ a16 (Ak b16) rfl (qg CP rfl (qk BR rfl ?_))
       refine B6 h fun v17 a17 b17 h => qi Ay Db a17 (Ak b17) rfl (qk BR rfl ?_)
       refine Fu h fun c18 h => Hs rfl c18 (qa rfl (AF (by kernel_rfl) ?_))
       exact sn [(2016, 2010), (2017, 2011), (2018, 2012)] h
      ·refine Aj ?_
       exact sn [(2016, 2010), (2017, 2011), (2018, 2012)] h
     ·refine Ai Ax rfl (qf CK rfl (ql Hq rfl (qm rfl (EO C0 FX L8 rfl ?_))))
      refine Fu h fun c19 h => FG (f := BW) C0 C0 FX LQ L8 c19 rfl (qf CK rfl (qs P6 rfl (Aa (Ai Ax rfl (qm rfl (Bf rfl (qe rfl ?_)))))))
      exact sn [(2010, 2016), (2011, 2017), (2012, 65)] h
    ·refine AR ?_
     exact sn [(2013, 2010), (2014, 2011), (2015, 2012)] h
   ·refine Ad hs (wq rfl (qL A3 AD rfl (qs AD rfl (qe rfl ?_))))
    obtain rfl := sj h
    refine Ad (sm [(1000, 2013), (1001, 2014), (1002, 2015)] [(2, oD (.ptr 2 0)), (3, iD 0)] [(2, .box [.own 1000, .own 1001, .own 1002]), (1000, .vec 1 (v4.1.map An)), (1001, .vec 1 (v4.2.map An)), (1002, .vec 1 (v10.map BW))] rfl rfl) (Ao ?_)
    exact ⟨⟨[_, _], ⟨.cellN _ _ _ _ _ _ _ rfl rfl A3 AD rfl rfl (Gf rfl), tm⟩, rfl⟩, ⟨rfl, rfl, rfl, tv⟩⟩
theorem GX (N : Nat) (p0 : Ag) (p1 : List (List Ab)) (r : (List Ah) × Int) (h : D9 N p0 p1 = some r) : Ap Tryd.prog 14 [.e (.agg (Al p0)), pD (.sl (p1.map (Fl Af)))] [(3, r.1.map B8)] (.tup [.one (.own 0), .one (iC r.2)]) := by
 unfold D9 at h
 refine cw (n := 61) (rs := [.tmp 4, .tmp 5]) Tryd.func14 fun w0 S0 => ?_
 refine wq rfl (qb rfl (qa rfl (qa rfl (Aa (wp rfl (qL Cf B0 rfl ?_))))))
 refine Bp h fun v1 a1 h => Aq [] (C7 N p0 v1 a1) Oe rfl (qa rfl (Aa (wq rfl (qm rfl (Bb rfl (Aa ?_))))))
 refine A0 h (fun h => ?_) fun h => ?_
 ·refine wq rfl (qm rfl (qa rfl (qe rfl ?_)))
  obtain rfl := sj h
  refine Ad ((Bx 4 2001 3 rfl rfl rfl).trans (sm [(1000, 2001)] [(4, oD (.own 1000)), (5, iD v1)] [(1000, .vec 3 ((([] : List Ah)).map B8))] rfl rfl)) (Ao ?_)
  exact ⟨⟨[_, _], ⟨.tmp _ _ rfl, tm⟩, rfl⟩, ⟨rfl, tv⟩⟩
 ·refine Aj (wq rfl (qL Cf B0 rfl ?_))
  refine Bp h fun v3 a3 h => Aq [2002, 2003, 2004] (Gk N p0 v3 a3) NP rfl (qm rfl (qx rfl (qx rfl (qz Cc rfl (qs AD rfl (qa rfl (Aa (wp rfl (qm rfl (Bb rfl (Aa ?_)))))))))))
  refine A0 h (fun h => ?_) fun h => ?_
  ·refine wq rfl (qm rfl (qa rfl (qe rfl ?_)))
   obtain rfl := sj h
   refine Ad ((Bx 4 2005 3 rfl rfl rfl).trans (sm [(1000, 2005)] [(4, oD (.own 1000)), (5, iD v3.2)] [(1000, .vec 3 ((([] : List Ah)).map B8))] rfl rfl)) (Ao ?_)
   exact ⟨⟨[_, _], ⟨.tmp _ _ rfl, tm⟩, rfl⟩, ⟨rfl, tv⟩⟩
  ·refine Aj (wq rfl (qL A3 AD rfl (CI (AT 2002 _ _ rfl rfl) (CI (AT 2003 _ _ rfl rfl) (CI (AT 2004 _ _ rfl rfl) (EO FT AD Cc rfl (qa rfl (Aa (wp rfl (qm rfl (Aw Ef rfl (qm rfl (Aa ?_)))))))))))))
   refine AE (L := CY N p0 p1) h (fun v5 => mk [(2, oD (.ptr 2 0)), (7, oD (.ptr 7 0)), (9, oD (.own 2006)), (29, pD (.sl (p1.map (Fl Af)))), (30, iD ((p1.length : Int))), (31, iD v5.2.2)] [(2, .box (Al p0)), (7, .box (Az v5.1)), (2006, .vec 3 (v5.2.1.map B8))]) (fun v6 => mk [(9, oD (.own 2007))] [(2007, .vec 3 (v6.map B8))]) (fun _ _ => rfl) (sm [(2006, 28)] _ _ rfl rfl) (fun j5 n5 v5 h => ?_) (fun v6 s h hs => ?_)
   ·unfold CY at h
    refine wq rfl (AS rfl (Aa (AC ?_)))
    refine A0 h (fun h => ?_) fun h => ?_
    ·refine Aj (AC (AJ (wq rfl ?_)))
     refine B6 h fun v8 a8 b8 h => qi Ef IL a8 (Ak b8) rfl (qk KH rfl (qa rfl (Aa (wp rfl (qL Cf B0 rfl (qL A3 AD rfl (qm rfl ?_)))))))
     refine Bp h fun v9 a9 h => Aq [] (F9 N p0 v5.1 v8 v9 a9) P2 rfl (qm rfl (qx rfl (qx rfl (qa rfl (qe rfl ?_)))))
     refine AM h (fun v10 => mk [(2, oD (.ptr 2 0)), (7, oD (.ptr 7 0)), (9, oD (.own 2008)), (11, pD (.sl (v8.map Af))), (29, pD (.sl (p1.map (Fl Af)))), (30, iD ((p1.length : Int))), (31, iD v5.2.2), (47, bD v10)] [(2, .box (Al p0)), (7, .box (Az v5.1)), (2008, .vec 3 (v5.2.1.map B8))]) (fun j10 h => ?_) (fun v10 h => ?_)
     ·refine Ai Ax rfl (qm rfl (Bb rfl (qm rfl ?_)))
      refine CV 44 h rfl (fun h => ?_) fun h => ?_
      ·refine qw 2 rfl (qp rfl (Aa ?_))
       exact sn [(2008, 2006)] h
      ·refine qm rfl (BJ rfl (qp rfl (Aa ?_)))
       exact sn [(2008, 2006)] h
     ·refine A0 h (fun h => ?_) fun h => ?_
      ·refine wq rfl (qa rfl (qe rfl ?_))
       obtain rfl := sj h
       refine Ad ((Bx 4 2009 3 rfl rfl rfl).trans (sm [(1000, 2009)] [(4, oD (.own 1000)), (5, iD 13)] [(1000, .vec 3 ((([] : List Ah)).map B8))] rfl rfl)) (Ao ?_)
       exact ⟨⟨[_, _], ⟨.tmp _ _ rfl, tm⟩, rfl⟩, ⟨rfl, tv⟩⟩
      ·refine Aj (wq rfl (qL Cf B0 rfl (qL A3 AD rfl (qm rfl ?_))))
       refine Bp h fun v13 a13 h => Aq [] (DE N p0 v5.1 v8 v13 a13) M2 rfl (qm rfl (qx rfl (qx rfl (qs AD rfl (Aa (Ai Ax rfl (qm rfl (qL A3 AD rfl (EO FT AD Cc rfl ?_)))))))))
       refine Fu h fun c14 h => FG (f := B8) FT FT AD Nz Cc c14 rfl (qa rfl (Aa (Ai Ax rfl (Bf rfl (qm rfl (Aa ?_))))))
       exact sn [(2006, 58)] h
    ·refine AR ?_
     exact sn [(2007, 2006)] h
   ·refine Ad hs (wq rfl (qm rfl (qa rfl (qe rfl ?_))))
    obtain rfl := sj h
    refine Ad (sm [(1000, 2007)] [(4, oD (.own 1000)), (5, iD 0)] [(1000, .vec 3 (v6.map B8))] rfl rfl) (Ao ?_)
    exact ⟨⟨[_, _], ⟨.tmp _ _ rfl, tm⟩, rfl⟩, ⟨rfl, tv⟩⟩
theorem Ff (N : Nat) (p0 : List Ab) (p1 : List Ab) (r : Bool) (h : CC N p0 p1 = some r) : Ap Tryd.prog 24 [pD (.sl (p0.map Af)), pD (.sl (p1.map Af))] [] (bD r) := by
 unfold CC at h
 refine cw (n := 26) (rs := [.tmp 4]) Tryd.func24 fun w0 S0 => ?_
 refine wq rfl (qa rfl (Aa (wp rfl (qm rfl (Aw AV rfl (qm rfl (Aw AV rfl (Bb rfl (Aa ?_)))))))))
 refine A0 h (fun h => ?_) fun h => ?_
 ·refine wq rfl (qe rfl ?_)
  obtain rfl := sj h
  refine Ad (sm [] [(4, bD false)] [] rfl rfl) (Ao ?_)
  exact ⟨⟨[_], tm, rfl⟩, tv⟩
 ·refine Aj (wp rfl (qe rfl ?_))
  refine AE (L := Cd N p0 p1) h (fun v2 => mk [(0, pD (.sl (p0.map Af))), (1, pD (.sl (p1.map Af))), (5, iD v2)] []) (fun v3 => mk [] []) (fun _ _ => rfl) (sm [] _ _ rfl rfl) (fun j2 n2 v2 h => ?_) (fun v3 s h hs => ?_)
  ·unfold Cd at h
   refine wp rfl (qw 2 rfl (Aw AV rfl (AS rfl (Aa ?_))))
   refine A0 h (fun h => ?_) fun h => ?_
   ·refine Aj (AC (AJ (wq rfl (qw 2 rfl ?_))))
    refine B6 h fun v5 a5 b5 h => qi AV BB a5 (Ak b5) rfl (qK EN BB rfl (qw 2 rfl ?_))
    refine B6 h fun v6 a6 b6 h => qi AV BB a6 (Ak b6) rfl (qK EN BB rfl ?_)
    refine Pf [.int .i64 v5.fe, .int .i64 v5.fg, .int .i64 v5.fh] [.int .i64 v6.fe, .int .i64 v6.fg, .int .i64 v6.fh] (.p rfl) rfl rfl NE rfl ?_
    refine AF (by kernel_rfl) ?_
    refine A0 h (fun h => ?_) fun h => ?_
    ·refine wq rfl (qe rfl ?_)
     obtain rfl := sj h
     refine Ad (sm [] [(4, bD false)] [] rfl rfl) (Ao ?_)
     exact ⟨⟨[_], tm, rfl⟩, tv⟩
    ·refine Aj (Ai Ax rfl (qm rfl (Bf rfl (qe rfl ?_))))
     exact sn [] h
   ·refine AR ?_
    exact sn [] h
  ·refine Ad hs (wq rfl (qe rfl ?_))
   obtain rfl := sj h
   refine Ad (sm [] [(4, bD true)] [] rfl rfl) (Ao ?_)
   exact ⟨⟨[_], tm, rfl⟩, tv⟩
theorem G5 (N : Nat) (p0 : List (List Ab)) (p1 : List (List Ab)) (r : Bool) (h : Dm N p0 p1 = some r) : Ap Tryd.prog 23 [pD (.sl (p0.map (Fl Af))), pD (.sl (p1.map (Fl Af)))] [] (bD r) := by
 unfold Dm at h
 refine cw (n := 27) (rs := [.tmp 4]) Tryd.func23 fun w0 S0 => ?_
 refine wq rfl (qa rfl (Aa (wp rfl (qm rfl (Aw Ef rfl (qm rfl (Aw Ef rfl (Bb rfl (Aa ?_)))))))))
 refine A0 h (fun h => ?_) fun h => ?_
 ·refine wq rfl (qe rfl ?_)
  obtain rfl := sj h
  refine Ad (sm [] [(4, bD false)] [] rfl rfl) (Ao ?_)
  exact ⟨⟨[_], tm, rfl⟩, tv⟩
 ·refine Aj (wp rfl (qe rfl ?_))
  refine AE (L := B9 N p0 p1) h (fun v2 => mk [(0, pD (.sl (p0.map (Fl Af)))), (1, pD (.sl (p1.map (Fl Af)))), (5, iD v2)] []) (fun v3 => mk [] []) (fun _ _ => rfl) (sm [] _ _ rfl rfl) (fun j2 n2 v2 h => ?_) (fun v3 s h hs => ?_)
  ·unfold B9 at h
   refine wp rfl (qw 2 rfl (Aw Ef rfl (AS rfl (Aa ?_))))
   refine A0 h (fun h => ?_) fun h => ?_
   ·refine Aj (AC (AJ (wq rfl (qw 2 rfl ?_))))
    refine B6 h fun v5 a5 b5 h => qi Ef IL a5 (Ak b5) rfl (qk KH rfl (qw 2 rfl ?_))
    refine B6 h fun v6 a6 b6 h => qi Ef IL a6 (Ak b6) rfl (qk KH rfl ?_)
    refine Bp h fun v7 a7 h => Aq [] (Ff N v5 v6 v7 a7) O5 rfl (BJ rfl (AF (by kernel_rfl) ?_))
    refine A0 h (fun h => ?_) fun h => ?_
    ·refine wq rfl (qe rfl ?_)
     obtain rfl := sj h
     refine Ad (sm [] [(4, bD false)] [] rfl rfl) (Ao ?_)
     exact ⟨⟨[_], tm, rfl⟩, tv⟩
    ·refine Aj (Ai Ax rfl (qm rfl (Bf rfl (qe rfl ?_))))
     exact sn [] h
   ·refine AR ?_
    exact sn [] h
  ·refine Ad hs (wq rfl (qe rfl ?_))
   obtain rfl := sj h
   refine Ad (sm [] [(4, bD true)] [] rfl rfl) (Ao ?_)
   exact ⟨⟨[_], tm, rfl⟩, tv⟩
theorem IR (N : Nat) (p0 : Ag) (p1 : List (List Ab)) (r : Bool) (h : Fd N p0 p1 = some r) : Ap Tryd.prog 15 [.e (.agg (Al p0)), pD (.sl (p1.map (Fl Af)))] [] (bD r) := by
 unfold Fd at h
 refine cw (n := 40) (rs := [.tmp 4]) Tryd.func15 fun w0 S0 => ?_
 refine wq rfl (qb rfl (qa rfl (Aa (wq rfl (qL Cf B0 rfl (qm rfl ?_))))))
 refine Bp h fun v1 a1 h => Aq [2001] (GX N p0 p1 v1 a1) Pd rfl (qm rfl (qx rfl (qx rfl (qa rfl (qa rfl (Aa (wp rfl (qm rfl (Bb rfl (Aa ?_))))))))))
 refine A0 h (fun h => ?_) fun h => ?_
 ·refine wq rfl (qe rfl ?_)
  obtain rfl := sj h
  refine Ad (sm [] [(4, bD false)] [] rfl rfl) (Ao ?_)
  exact ⟨⟨[_], tm, rfl⟩, tv⟩
 ·refine Aj (wq rfl (qL Cf B0 rfl (qm rfl ?_)))
  refine B6 h fun v3 a3 b3 h => qI FT AD a3 (Ak b3) rfl (qJ A3 AD (Ak b3) rfl ?_)
  refine Bp h fun v4 a4 h => Aq [] (F4 N p0 v3 v4 a4) NQ rfl (qm rfl (qx rfl (qx rfl (qa rfl (qa rfl (AF (by kernel_rfl) ?_))))))
  refine AM h (fun v5 => mk [(4, bD v5)] []) (fun j5 h => ?_) (fun v5 h => ?_)
  ·refine Ai Ax rfl (qm rfl (Be rfl (qm rfl ?_)))
   refine CV 27 h rfl (fun h => ?_) fun h => ?_
   ·refine qm rfl (qp rfl (qm rfl ?_))
    refine CV 30 h rfl (fun h => ?_) fun h => ?_
    ·refine qL Cf B0 rfl (qw 2 rfl (F2 FT rfl (KM rfl ?_)))
     refine B6 h fun v8 a8 b8 h => qI FT AD a8 (Ak b8) rfl (qJ A3 AD (Ak b8) rfl ?_)
     refine Bp h fun v9 a9 h => Aq [] (Ip N p0 v8 v9 a9) O8 rfl (qp rfl (qa rfl (AF (by kernel_rfl) ?_)))
     exact sn [] h
    ·refine qw 8 rfl (qp rfl (qa rfl (AF (by kernel_rfl) ?_)))
     exact sn [] h
   ·refine qn rfl (qp rfl (qw 9 rfl (qp rfl (qa rfl (AF (by kernel_rfl) ?_)))))
    exact sn [] h
  ·obtain rfl := sj h
   refine Ad (sm [] [(4, bD v5)] [] rfl rfl) (Ao ?_)
   exact ⟨⟨[_], tm, rfl⟩, tv⟩
theorem Gy (N : Nat) (p0 : List (List Ab)) (r : Int) (h : B1 N p0 = some r) : Ap Tryd.prog 16 [pD (.sl (p0.map (Fl Af)))] [] (iD r) := by
 unfold B1 at h
 refine cw (n := 27) (rs := [.tmp 2]) Tryd.func16 fun w0 S0 => ?_
 refine wq rfl (qa rfl (Aa (wq rfl (qa rfl (Aa (wp rfl (qm rfl (Aw Ef rfl (qm rfl (Aa ?_))))))))))
 refine AE (L := Bn N p0) h (fun v1 => mk [(3, iD v1.1), (7, pD (.sl (p0.map (Fl Af)))), (8, iD ((p0.length : Int))), (9, iD v1.2)] []) (fun v2 => mk [(3, iD v2)] []) (fun _ _ => rfl) (sm [] _ _ rfl rfl) (fun j1 n1 v1 h => ?_) (fun v2 s h hs => ?_)
 ·unfold Bn at h
  refine wq rfl (AS rfl (Aa (AC ?_)))
  refine A0 h (fun h => ?_) fun h => ?_
  ·refine Aj (AC (AJ (wq rfl ?_)))
   refine B6 h fun v4 a4 b4 h => qi Ef IL a4 (Ak b4) rfl (qk KH rfl (qa rfl (Aa (wq rfl (qm rfl (Aw AV rfl (qm rfl (Aa ?_))))))))
   refine AE (L := Bl N v4) h (fun v5 => mk [(3, iD v5.1), (7, pD (.sl (p0.map (Fl Af)))), (8, iD ((p0.length : Int))), (9, iD v1.2), (14, iD ((v4.length : Int))), (15, iD v5.2)] []) (fun v6 => mk [(3, iD v6), (7, pD (.sl (p0.map (Fl Af)))), (8, iD ((p0.length : Int))), (9, iD v1.2)] []) (fun _ _ => rfl) (sm [] _ _ rfl rfl) (fun j5 n5 v5 h => ?_) (fun v6 s h hs => ?_)
   ·unfold Bl at h
    refine wq rfl (AS rfl (Aa (AC ?_)))
    refine A0 h (fun h => ?_) fun h => ?_
    ·refine Aj (AC (AJ (wq rfl (qm rfl (qa rfl (Aa (Ai Ax rfl (qw 2 rfl (Bf rfl ?_)))))))))
     refine KS (.p rfl) rfl rfl ?_
     refine HZ rfl ?_
     refine KS (.p rfl) rfl rfl ?_
     refine qa rfl (Aa (Ai Ax rfl (Bf rfl (qm rfl (Aa ?_)))))
     exact sn [] h
    ·refine AR ?_
     exact sn [] h
   ·refine Ad hs (Ai Ax rfl (Bf rfl (qm rfl (Aa ?_))))
    exact sn [] h
  ·refine AR ?_
   exact sn [] h
 ·refine Ad hs (wq rfl (qm rfl (qe rfl ?_)))
  obtain rfl := sj h
  refine Ad (sm [] [(2, iD v2)] [] rfl rfl) (Ao ?_)
  exact ⟨⟨[_], tm, rfl⟩, tv⟩
theorem EM (N : Nat) (r : Bool) (h : BT N = some r) : Ap Tryd.prog 7 [] [] (bD r) := by
 unfold BT at h
 refine cw (n := 107) (rs := [.tmp 0]) Tryd.func7 fun w0 S0 => ?_
 refine wq rfl (qa rfl (Aa (wq rfl ?_)))
 refine Bp h fun v1 a1 h => Aq [2001, 2002, 2003, 2004] (Gj N v1 a1) PK rfl (qm rfl (qx rfl (qx rfl (qz Mt rfl (qs B0 rfl (qa rfl (Aa (wq rfl (qL Cf B0 rfl (qm rfl (CI (AT 2001 _ _ rfl rfl) (CI (AT 2002 _ _ rfl rfl) (CI (AT 2003 _ _ rfl rfl) (CI (AT 2004 _ _ rfl rfl) ?_))))))))))))))
 refine Bp h fun v2 a2 h => Aq [2005] (Kv N v1.1 v1.2 v2 a2) P1 rfl (qm rfl (qx rfl (qx rfl (qa rfl (qa rfl (Aa (wq rfl (qL Cf B0 rfl ?_))))))))
 refine Bp h fun v3 a3 h => Aq [2006, 2007, 2008] (GP N v1.1 v3 a3) Pz rfl (qm rfl (qx rfl (qx rfl (qz Cc rfl (qs AD rfl (qa rfl (Aa (wq rfl (qL Cf B0 rfl (qL A3 AD rfl (qm rfl (CI (AT 2006 _ _ rfl rfl) (CI (AT 2007 _ _ rfl rfl) (CI (AT 2008 _ _ rfl rfl) ?_))))))))))))))
 refine Bp h fun v4 a4 h => Aq [] (H2 N v1.1 v3.1 v1.2 v4 a4) OZ rfl (qm rfl (qx rfl (qx rfl (qa rfl (qa rfl (Aa (wq rfl (qL Cf B0 rfl (qL A3 AD rfl (qm rfl ?_))))))))))
 refine Fu h fun c5 h => Fn (.p rfl) rfl AV BB (Dq (f := Af) (n := 3) (fun _ => rfl) _) (.none _) (.some _ _ _ _ c5.1) tv ⟨rfl, tv⟩ (by have := c5.2.1; (try simp only [List.length_map]); omega) (by have := c5.2.2; (try simp only [List.length_map]); omega) (Eu Af v1.2 _ _ ((2 : Int).toNat - 0) rfl) ?_
 refine Bp h fun v6 a6 h => Aq [] (F9 N v1.1 v3.1 (((v1.2.drop 0).take ((2 : Int).toNat - 0))) v6 a6) P2 rfl (qm rfl (qx rfl (qx rfl (qa rfl (qa rfl (AF (by kernel_rfl) (wq rfl (qL Cf B0 rfl (qm rfl (CI (AT 2005 _ _ rfl rfl) ?_))))))))))
 refine Bp h fun v7 a7 h => Aq [2009] (GX N v1.1 v2.1 v7 a7) Pd rfl (qm rfl (qx rfl (qx rfl (qa rfl (qe rfl ?_)))))
 refine AM h (fun v8 => mk [(0, bD v8)] []) (fun j8 h => ?_) (fun v8 h => ?_)
 ·refine Ai Ax rfl (qm rfl (Be rfl (qm rfl ?_)))
  refine CV 51 h rfl (fun h => ?_) fun h => ?_
  ·refine qw 2 rfl ?_
   refine Fu h fun c10 h => Fn (.g rfl rfl) rfl AV BB (Dq (f := Af) (n := 3) (fun _ => rfl) _) (.none _) (.some _ _ _ _ c10.1) tv ⟨rfl, tv⟩ (by have := c10.2.1; (try simp only [List.length_map]); omega) (by have := c10.2.2; (try simp only [List.length_map]); omega) (Eu Af v1.2 _ _ ((2 : Int).toNat - 0) rfl) ?_
   refine qm rfl ?_
   refine Fu h fun c11 h => Fn (.g rfl rfl) rfl AV BB (Dq (f := Af) (n := 3) (fun _ => rfl) _) (.some _ _ _ _ c11.1) (.none _) ⟨rfl, tv⟩ tv (by have := c11.2.1; (try simp only [List.length_map]); omega) (by have := c11.2.2; (try simp only [List.length_map]); omega) (Eu Af v1.2 _ _ (v1.2.length - (2 : Int).toNat) (by rw [List.length_map])) ?_
   refine EO Ef IL K8 rfl ?_
   refine Bp h fun v12 a12 h => Fq [] [57] (G5 N v2.1 (([((v1.2.drop 0).take ((2 : Int).toNat - 0)), ((v1.2.drop (2 : Int).toNat).take (v1.2.length - (2 : Int).toNat))] : List (List Ab))) v12 a12) PZ DO rfl (qp rfl (qm rfl ?_))
   refine CV 60 h rfl (fun h => ?_) fun h => ?_
   ·refine qm rfl (Be rfl (qp rfl (qm rfl ?_)))
    refine CV 64 h rfl (fun h => ?_) fun h => ?_
    ·refine qw 2 rfl ?_
     refine B6 h fun v15 a15 b15 h => qi AV BB a15 (Ak b15) rfl (qK EN BB rfl (qm rfl ?_))
     refine B6 h fun v16 a16 b16 h => qi AV BB a16 (Ak b16) rfl (qK EN BB rfl (qm rfl ?_))
     refine B6 h fun v17 a17 b17 h => qi AV BB a17 (Ak b17) rfl (qK EN BB rfl (qm rfl ?_))
     refine B6 h fun v18 a18 b18 h => qi AV BB a18 (Ak b18) rfl (qK EN BB rfl (EO AV BB GQ rfl ?_))
     refine Bp h fun v19 a19 h => Fq [] [78] (Ff N v4.1 (([v15, v16, v17, v18] : List Ab)) v19 a19) O5 DO rfl (qp rfl (qm rfl ?_))
     refine CV 81 h rfl (fun h => ?_) fun h => ?_
     ·refine qm rfl (qp rfl (qm rfl ?_))
      refine CV 84 h rfl (fun h => ?_) fun h => ?_
      ·refine qm rfl (Be rfl (qp rfl (qm rfl ?_)))
       refine CV 88 h rfl (fun h => ?_) fun h => ?_
       ·refine qm rfl (Be rfl (qp rfl (qm rfl ?_)))
        refine CV 92 h rfl (fun h => ?_) fun h => ?_
        ·refine qm rfl (F2 FT rfl (Be rfl (qp rfl (qm rfl ?_))))
         refine CV 97 h rfl (fun h => ?_) fun h => ?_
         ·refine qL Cf B0 rfl (qm rfl ?_)
          refine Bp h fun v25 a25 h => Aq [] (IR N v1.1 v2.1 v25 a25) PA rfl (qp rfl (qm rfl ?_))
          refine CV 102 h rfl (fun h => ?_) fun h => ?_
          ·refine qm rfl ?_
           refine Bp h fun v27 a27 h => Aq [] (Gy N v2.1 v27 a27) OS rfl (Be rfl (qp rfl (qa rfl (AF (by kernel_rfl) ?_))))
           exact sn [] h
          ·refine qw 3 rfl (qp rfl (qa rfl (AF (by kernel_rfl) ?_)))
           exact sn [] h
         ·refine qw 3 rfl (qp rfl (qw 4 rfl (qp rfl (qa rfl (AF (by kernel_rfl) ?_)))))
          exact sn [] h
        ·refine qw 3 rfl (qp rfl (qw 4 rfl (qp rfl (qw 4 rfl (qp rfl (qa rfl (AF (by kernel_rfl) ?_)))))))
         exact sn [] h
       ·refine qw 2 rfl (qp rfl (qw 4 rfl (qp rfl (qw 4 rfl (qp rfl (qw 4 rfl (qp rfl (qa rfl (AF (by kernel_rfl) ?_)))))))))
        exact sn [] h
      ·refine qw 2 rfl (qp rfl (qw 3 rfl (qp rfl (qw 4 rfl (qp rfl (qw 4 rfl (qp rfl (qw 4 rfl (qp rfl (qa rfl (AF (by kernel_rfl) ?_)))))))))))
       exact sn [] h
     ·refine qn rfl (qp rfl (qw 3 rfl (qp rfl (qw 3 rfl (qp rfl (qw 4 rfl (qp rfl (qw 4 rfl (qp rfl (qw 4 rfl (qp rfl (qa rfl (AF (by kernel_rfl) ?_)))))))))))))
      exact sn [] h
    ·refine qw 15 rfl (qp rfl (qw 2 rfl (qp rfl (qw 3 rfl (qp rfl (qw 3 rfl (qp rfl (qw 4 rfl (qp rfl (qw 4 rfl (qp rfl (qw 3 rfl ?_))))))))))))
     refine qn rfl (qp rfl (qa rfl (AF (by kernel_rfl) ?_)))
     exact sn [] h
   ·refine qw 2 rfl (qp rfl (qw 16 rfl (qp rfl (qw 2 rfl (qp rfl (qw 3 rfl (qp rfl (qw 3 rfl (qp rfl (qw 4 rfl (qp rfl (qw 4 rfl ?_))))))))))))
    refine qp rfl (qw 4 rfl (qp rfl (qa rfl (AF (by kernel_rfl) ?_))))
    exact sn [] h
  ·refine qw 7 rfl (qp rfl (qw 3 rfl (qp rfl (qw 16 rfl (qp rfl (qw 2 rfl (qp rfl (qw 3 rfl (qp rfl (qw 3 rfl (qp rfl ?_)))))))))))
   refine qw 4 rfl (qp rfl (qw 4 rfl (qp rfl (qw 4 rfl (qp rfl (qa rfl (AF (by kernel_rfl) ?_)))))))
   exact sn [] h
 ·obtain rfl := sj h
  refine Ad (sm [] [(0, bD v8)] [] rfl rfl) (Ao ?_)
  exact ⟨⟨[_], tm, rfl⟩, tv⟩
theorem Gn (N : Nat) (p0 : List (List Ab)) (r : Int) (h : BK N p0 = some r) : Ap Tryd.prog 17 [pD (.sl (p0.map (Fl Af)))] [] (iD r) := by
 unfold BK at h
 refine cw (n := 29) (rs := [.tmp 2]) Tryd.func17 fun w0 S0 => ?_
 refine wq rfl (qa rfl (Aa (wq rfl (qa rfl (Aa (wp rfl (qe rfl ?_)))))))
 refine AE (L := AU N p0) h (fun v1 => mk [(0, pD (.sl (p0.map (Fl Af)))), (3, iD v1.1), (4, iD v1.2)] []) (fun v2 => mk [(3, iD v2)] []) (fun _ _ => rfl) (sm [] _ _ rfl rfl) (fun j1 n1 v1 h => ?_) (fun v2 s h hs => ?_)
 ·unfold AU at h
  refine wp rfl (qw 2 rfl (Aw Ef rfl (AS rfl (Aa ?_))))
  refine A0 h (fun h => ?_) fun h => ?_
  ·refine Aj (AC (AJ (wq rfl (qe rfl ?_))))
   refine AE (L := A5 N p0 v1) h (fun v4 => mk [(0, pD (.sl (p0.map (Fl Af)))), (3, iD v4.1), (4, iD v1.2), (5, iD v4.2)] []) (fun v5 => mk [(0, pD (.sl (p0.map (Fl Af)))), (3, iD v5), (4, iD v1.2)] []) (fun _ _ => rfl) (sm [] _ _ rfl rfl) (fun j4 n4 v4 h => ?_) (fun v5 s h hs => ?_)
   ·unfold A5 at h
    refine wp rfl (qw 3 rfl ?_)
    refine B6 h fun v6 a6 b6 h => qi Ef IL a6 (Ak b6) rfl (qk KH rfl (Aw AV rfl (O3 rfl (Aa ?_))))
    refine A0 h (fun h => ?_) fun h => ?_
    ·refine Aj (AC (AJ (wp rfl (qw 2 rfl ?_))))
     refine Fu h fun c8 h => OW rfl c8 (DR rfl (Aa ?_))
     refine A0 h (fun h => ?_) fun h => ?_
     ·refine wq rfl (qe rfl ?_)
      obtain rfl := sj h
      refine Ad (sm [] [(2, iD 1000000000000000)] [] rfl rfl) (Ao ?_)
      exact ⟨⟨[_], tm, rfl⟩, tv⟩
     ·refine Aj (Ai Ax rfl (qw 2 rfl (HZ rfl (qa rfl (Aa (Ai Ax rfl (qm rfl (Bf rfl (qe rfl ?_)))))))))
      exact sn [] h
    ·refine AR ?_
     exact sn [] h
   ·refine Ad hs (Ai Ax rfl (qm rfl (Bf rfl (qe rfl ?_))))
    exact sn [] h
  ·refine AR ?_
   exact sn [] h
 ·refine Ad hs (wq rfl (qm rfl (qe rfl ?_)))
  obtain rfl := sj h
  refine Ad (sm [] [(2, iD v2)] [] rfl rfl) (Ao ?_)
  exact ⟨⟨[_], tm, rfl⟩, tv⟩
theorem Fm (N : Nat) (p0 : List Int) (r : Bool) (h : Bd N p0 = some r) : Ap Tryd.prog 5 [pD (.sl (p0.map BW))] [] (bD r) := by
 unfold Bd at h
 refine cw (n := 32) (rs := [.tmp 2]) Tryd.func5 fun w0 S0 => ?_
 refine wq rfl (qa rfl (Aa (AC ?_)))
 refine AM h (fun v1 => mk [(0, pD (.sl (p0.map BW))), (12, bD v1)] []) (fun j1 h => ?_) (fun v1 h => ?_)
 ·refine Ai Ax rfl ?_
  refine Bp h fun v2 a2 h => Aq [] (EM N v2 a2) Qk rfl (BJ rfl (qm rfl ?_))
  refine CV 8 h rfl (fun h => ?_) fun h => ?_
  ·refine qw 3 rfl (qp rfl (Aa ?_))
   exact sn [] h
  ·refine qm rfl (Aw LE rfl (DR rfl (qp rfl (Aa ?_))))
   exact sn [] h
 ·refine A0 h (fun h => ?_) fun h => ?_
  ·refine wq rfl ?_
   refine Bp h fun v5 a5 h => Aq [] (EM N v5 a5) Qk rfl (qe rfl ?_)
   obtain rfl := sj h
   refine Ad (sm [] [(2, bD v5)] [] rfl rfl) (Ao ?_)
   exact ⟨⟨[_], tm, rfl⟩, tv⟩
  ·refine Aj (wq rfl (qa rfl (Aa (wp rfl (qm rfl (Aw LE rfl (qm rfl (Aa ?_))))))))
   refine AE (L := AQ N p0) h (fun v6 => mk [(3, oD (.own 2001)), (14, pD (.sl (p0.map BW))), (15, iD ((p0.length : Int))), (16, iD v6.2)] [(2001, .vec 1 (v6.1.map (Fl Af)))]) (fun v7 => mk [(3, oD (.own 2002))] [(2002, .vec 1 (v7.map (Fl Af)))]) (fun _ _ => rfl) ((Bx 3 2003 1 rfl rfl rfl).trans (sm [(2001, 2003)] _ _ rfl rfl)) (fun j6 n6 v6 h => ?_) (fun v7 s h hs => ?_)
   ·unfold AQ at h
    refine wq rfl (AS rfl (Aa (AC ?_)))
    refine A0 h (fun h => ?_) fun h => ?_
    ·refine Aj (AC (AJ (wq rfl ?_)))
     refine B6 h fun v9 a9 b9 h => qi LE Qq a9 (Ak b9) rfl (qk Qw rfl (qa rfl (Aa (Ai Ax rfl (qw 2 rfl (OG rfl (by decide) ?_))))))
     refine Fu h fun c10 h => Gu (.p rfl) rfl rfl rfl AV BB Ma (GS rfl) GQ rfl rfl rfl c10.1 c10.2.1 c10.2.2 (Jz Af _ ((Ab.mk 0 0 0))) ?_
     refine CI (AT 23 _ _ rfl rfl) (EO Ef IL K8 rfl ?_)
     refine Fu h fun c11 h => FG (f := (Fl Af)) Ef Ef IL NA K8 c11 rfl (qa rfl (Aa (Ai Ax rfl (Bf rfl (qm rfl (Aa ?_))))))
     exact sn [(2001, 25)] h
    ·refine AR ?_
     exact sn [(2002, 2001)] h
   ·refine Ad hs (wq rfl (qm rfl ?_))
    refine Bp h fun v12 a12 h => Fq [] [2002] (Gy N v7 v12 a12) OS DO rfl (qm rfl ?_)
    refine Bp h fun v13 a13 h => Fq [] [2002] (Gn N v7 v13 a13) P7 DO rfl (Be rfl (qe rfl ?_))
    obtain rfl := sj h
    refine Ad (sm [] [(2, bD ((v12 == v13)))] [] rfl rfl) (Ao ?_)
    exact ⟨⟨[_], tm, rfl⟩, tv⟩
end Go.Lift
