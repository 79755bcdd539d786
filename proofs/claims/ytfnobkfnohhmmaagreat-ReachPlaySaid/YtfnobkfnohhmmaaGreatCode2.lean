/- Lemmas for ReachPlaySaid, which YtfnobkfnohhmmaaGreatFinW7 proves. -/
import Derived.Test.YtfnobkfnohhmmaaGreatSh
import Derived.Test.YtfnobkfnohhmmaaGreatProg
import Derived.KernelRfl
/- That the code does what the shallow programs do, function by function. Written by a program (gen.py). -/
namespace Go.Lift
open Go.RowKit
open Go.Proofs
theorem Ac : Tryz.prog.follows .mixedOrders = true := by kernel_rfl
theorem Li : ET Tryz.prog 100 false = true := by kernel_rfl
theorem OR : ET Tryz.prog 113 true = true := by kernel_rfl
theorem LQ : ET Tryz.prog 144 false = true := by kernel_rfl
theorem Pz : ET Tryz.prog 22 false = true := by kernel_rfl
theorem Sr : ET Tryz.prog 23 false = true := by kernel_rfl
theorem Ux : ET Tryz.prog 25 true = true := by kernel_rfl
theorem Bc : ET Tryz.prog 27 false = true := by kernel_rfl
theorem GV : ET Tryz.prog 28 false = true := by kernel_rfl
theorem Ci : ET Tryz.prog 3 false = true := by kernel_rfl
theorem DY : ET Tryz.prog 30 true = true := by kernel_rfl
theorem QE : ET Tryz.prog 4 false = true := by kernel_rfl
theorem Iq : ET Tryz.prog 40 true = true := by kernel_rfl
theorem Gq : ET Tryz.prog 48 false = true := by kernel_rfl
theorem SM : ET Tryz.prog 5 false = true := by kernel_rfl
theorem AV : ET Tryz.prog 50 true = true := by kernel_rfl
theorem TC : ET Tryz.prog 71 false = true := by kernel_rfl
theorem UN : ET Tryz.prog 73 true = true := by kernel_rfl
theorem Js : ET Tryz.prog 74 false = true := by kernel_rfl
theorem GT : ET Tryz.prog 76 true = true := by kernel_rfl
theorem IF : ET Tryz.prog 97 false = true := by kernel_rfl
theorem Tq : MR Tryz.prog 22 = true := by kernel_rfl
theorem SE : Fb Tryz.prog 100 24 = true := by kernel_rfl
theorem Qq : Fb Tryz.prog 113 24 = true := by kernel_rfl
theorem Lg : Fb Tryz.prog 3 8 = true := by kernel_rfl
theorem So : Fb Tryz.prog 4 1 = true := by kernel_rfl
theorem MD : Fb Tryz.prog 40 24 = true := by kernel_rfl
theorem Tx : Fb Tryz.prog 5 1 = true := by kernel_rfl
theorem Mq : Fb Tryz.prog 50 72 = true := by kernel_rfl
theorem T3 : Fb Tryz.prog 76 80 = true := by kernel_rfl
theorem OY : Fb Tryz.prog 97 1 = true := by kernel_rfl
theorem M2 : C2 Tryz.prog 25 0 0 = true := by kernel_rfl
theorem Rg : C2 Tryz.prog 25 1 1 = true := by kernel_rfl
theorem RE : C2 Tryz.prog 25 2 2 = true := by kernel_rfl
theorem Nf : C2 Tryz.prog 25 3 3 = true := by kernel_rfl
theorem Bs : C2 Tryz.prog 30 0 0 = true := by kernel_rfl
theorem FM : C2 Tryz.prog 30 1 1 = true := by kernel_rfl
theorem Iu : C2 Tryz.prog 30 2 2 = true := by kernel_rfl
theorem CO : C2 Tryz.prog 30 3 3 = true := by kernel_rfl
theorem EM : C2 Tryz.prog 40 0 0 = true := by kernel_rfl
theorem Eb : C2 Tryz.prog 40 1 1 = true := by kernel_rfl
theorem FN : C2 Tryz.prog 40 2 2 = true := by kernel_rfl
theorem CB : C2 Tryz.prog 50 0 0 = true := by kernel_rfl
theorem BR : C2 Tryz.prog 50 1 1 = true := by kernel_rfl
theorem Cx : C2 Tryz.prog 50 2 2 = true := by kernel_rfl
theorem Q4 : C2 Tryz.prog 73 0 0 = true := by kernel_rfl
theorem QY : C2 Tryz.prog 73 1 1 = true := by kernel_rfl
theorem QH : C2 Tryz.prog 73 2 2 = true := by kernel_rfl
theorem Rn : C2 Tryz.prog 73 3 3 = true := by kernel_rfl
theorem Ri : C2 Tryz.prog 73 4 4 = true := by kernel_rfl
theorem Rj : C2 Tryz.prog 73 5 5 = true := by kernel_rfl
theorem E3 : C2 Tryz.prog 76 0 0 = true := by kernel_rfl
theorem C3 : C2 Tryz.prog 76 1 1 = true := by kernel_rfl
theorem Iv : C2 Tryz.prog 76 2 2 = true := by kernel_rfl
theorem I5 : C2 Tryz.prog 76 3 3 = true := by kernel_rfl
theorem J4 : C2 Tryz.prog 76 4 4 = true := by kernel_rfl
theorem FO : C2 Tryz.prog 76 5 5 = true := by kernel_rfl
theorem TR : AG Tryz.prog 10 = true := by kernel_rfl
theorem OX : AG Tryz.prog 100 = true := by kernel_rfl
theorem S3 : AG Tryz.prog 101 = true := by kernel_rfl
theorem S9 : AG Tryz.prog 102 = true := by kernel_rfl
theorem SX : AG Tryz.prog 103 = true := by kernel_rfl
theorem Tm : AG Tryz.prog 104 = true := by kernel_rfl
theorem RP : AG Tryz.prog 105 = true := by kernel_rfl
theorem Tn : AG Tryz.prog 106 = true := by kernel_rfl
theorem TQ : AG Tryz.prog 107 = true := by kernel_rfl
theorem PZ : AG Tryz.prog 108 = true := by kernel_rfl
theorem RT : AG Tryz.prog 109 = true := by kernel_rfl
theorem US : AG Tryz.prog 11 = true := by kernel_rfl
theorem R2 : AG Tryz.prog 110 = true := by kernel_rfl
theorem RU : AG Tryz.prog 111 = true := by kernel_rfl
theorem Tl : AG Tryz.prog 112 = true := by kernel_rfl
theorem Tt : AG Tryz.prog 113 = true := by kernel_rfl
theorem TD : AG Tryz.prog 114 = true := by kernel_rfl
theorem Ts : AG Tryz.prog 115 = true := by kernel_rfl
theorem RH : AG Tryz.prog 116 = true := by kernel_rfl
theorem S1 : AG Tryz.prog 117 = true := by kernel_rfl
theorem Ti : AG Tryz.prog 118 = true := by kernel_rfl
theorem PK : AG Tryz.prog 119 = true := by kernel_rfl
theorem Uq : AG Tryz.prog 12 = true := by kernel_rfl
theorem RO : AG Tryz.prog 120 = true := by kernel_rfl
theorem S4 : AG Tryz.prog 121 = true := by kernel_rfl
theorem Te : AG Tryz.prog 122 = true := by kernel_rfl
theorem T2 : AG Tryz.prog 123 = true := by kernel_rfl
theorem TN : AG Tryz.prog 124 = true := by kernel_rfl
theorem TT : AG Tryz.prog 125 = true := by kernel_rfl
theorem TV : AG Tryz.prog 126 = true := by kernel_rfl
theorem UG : AG Tryz.prog 14 = true := by kernel_rfl
theorem Td : AG Tryz.prog 18 = true := by kernel_rfl
theorem UU : AG Tryz.prog 20 = true := by kernel_rfl
theorem UB : AG Tryz.prog 24 = true := by kernel_rfl
theorem U1 : AG Tryz.prog 27 = true := by kernel_rfl
theorem UX : AG Tryz.prog 28 = true := by kernel_rfl
theorem Uy : AG Tryz.prog 29 = true := by kernel_rfl
theorem Uo : AG Tryz.prog 30 = true := by kernel_rfl
theorem Tb : AG Tryz.prog 32 = true := by kernel_rfl
theorem Nq : AG Tryz.prog 33 = true := by kernel_rfl
theorem S6 : AG Tryz.prog 34 = true := by kernel_rfl
theorem Qn : AG Tryz.prog 35 = true := by kernel_rfl
theorem R6 : AG Tryz.prog 36 = true := by kernel_rfl
theorem Ty : AG Tryz.prog 37 = true := by kernel_rfl
theorem TE : AG Tryz.prog 38 = true := by kernel_rfl
theorem SB : AG Tryz.prog 39 = true := by kernel_rfl
theorem Uc : AG Tryz.prog 40 = true := by kernel_rfl
theorem UE : AG Tryz.prog 41 = true := by kernel_rfl
theorem UH : AG Tryz.prog 42 = true := by kernel_rfl
theorem SF : AG Tryz.prog 45 = true := by kernel_rfl
theorem SV : AG Tryz.prog 47 = true := by kernel_rfl
theorem Sb : AG Tryz.prog 48 = true := by kernel_rfl
theorem SY : AG Tryz.prog 49 = true := by kernel_rfl
theorem Tj : AG Tryz.prog 50 = true := by kernel_rfl
theorem SG : AG Tryz.prog 52 = true := by kernel_rfl
theorem Tv : AG Tryz.prog 53 = true := by kernel_rfl
theorem UT : AG Tryz.prog 54 = true := by kernel_rfl
theorem TU : AG Tryz.prog 55 = true := by kernel_rfl
theorem Uk : AG Tryz.prog 56 = true := by kernel_rfl
theorem Rr : AG Tryz.prog 57 = true := by kernel_rfl
theorem Qk : AG Tryz.prog 58 = true := by kernel_rfl
theorem TI : AG Tryz.prog 59 = true := by kernel_rfl
theorem Sw : AG Tryz.prog 60 = true := by kernel_rfl
theorem SZ : AG Tryz.prog 61 = true := by kernel_rfl
theorem UC : AG Tryz.prog 62 = true := by kernel_rfl
theorem S7 : AG Tryz.prog 63 = true := by kernel_rfl
theorem Ur : AG Tryz.prog 64 = true := by kernel_rfl
theorem Tw : AG Tryz.prog 65 = true := by kernel_rfl
theorem UV : AG Tryz.prog 66 = true := by kernel_rfl
theorem UL : AG Tryz.prog 68 = true := by kernel_rfl
theorem UY : AG Tryz.prog 70 = true := by kernel_rfl
theorem UM : AG Tryz.prog 71 = true := by kernel_rfl
theorem Um : AG Tryz.prog 72 = true := by kernel_rfl
theorem Sg : AG Tryz.prog 73 = true := by kernel_rfl
theorem Tp : AG Tryz.prog 74 = true := by kernel_rfl
theorem Tr : AG Tryz.prog 75 = true := by kernel_rfl
theorem Uv : AG Tryz.prog 76 = true := by kernel_rfl
theorem Sp : AG Tryz.prog 77 = true := by kernel_rfl
theorem TS : AG Tryz.prog 78 = true := by kernel_rfl
theorem TP : AG Tryz.prog 79 = true := by kernel_rfl
theorem Sq : AG Tryz.prog 80 = true := by kernel_rfl
theorem UF : AG Tryz.prog 81 = true := by kernel_rfl
theorem Us : AG Tryz.prog 82 = true := by kernel_rfl
theorem UJ : AG Tryz.prog 83 = true := by kernel_rfl
theorem UK : AG Tryz.prog 84 = true := by kernel_rfl
theorem UR : AG Tryz.prog 85 = true := by kernel_rfl
theorem Uw : AG Tryz.prog 86 = true := by kernel_rfl
theorem Uz : AG Tryz.prog 87 = true := by kernel_rfl
theorem Ui : AG Tryz.prog 88 = true := by kernel_rfl
theorem U3 : AG Tryz.prog 89 = true := by kernel_rfl
theorem U4 : AG Tryz.prog 9 = true := by kernel_rfl
theorem Uf : AG Tryz.prog 90 = true := by kernel_rfl
theorem UD : AG Tryz.prog 91 = true := by kernel_rfl
theorem Ul : AG Tryz.prog 92 = true := by kernel_rfl
theorem Ug : AG Tryz.prog 93 = true := by kernel_rfl
theorem Ud : AG Tryz.prog 94 = true := by kernel_rfl
theorem UA : AG Tryz.prog 95 = true := by kernel_rfl
theorem UQ : AG Tryz.prog 96 = true := by kernel_rfl
theorem Uu : AG Tryz.prog 97 = true := by kernel_rfl
theorem TX : AG Tryz.prog 98 = true := by kernel_rfl
theorem TW : AG Tryz.prog 99 = true := by kernel_rfl
theorem Me : Lw Tryz.prog 106 .u64 = true := by kernel_rfl
theorem N0 : Lw Tryz.prog 131 .u32 = true := by kernel_rfl
theorem RY : Lw Tryz.prog 133 .u64 = true := by kernel_rfl
theorem TK : Lw Tryz.prog 144 .u64 = true := by kernel_rfl
theorem Pu : Lw Tryz.prog 3 .i64 = true := by kernel_rfl
theorem T5 : Lw Tryz.prog 5 .u8 = true := by kernel_rfl
theorem SJ : Tryz.prog.underlying 9 = some .string := by kernel_rfl
theorem OS : Tryz.prog.underlying 93 = some (.map 9 4) := by kernel_rfl
theorem OI : HO Tryz.prog 113 = some [(0, 1), (1, 1), (2, 1)] := by kernel_rfl
theorem Tc : HO Tryz.prog 30 = some [(0, 1), (1, 1), (2, 1), (3, 1)] := by kernel_rfl
theorem Rz : HO Tryz.prog 40 = some [(0, 1), (1, 1), (2, 1)] := by kernel_rfl
theorem GE : HO Tryz.prog 50 = some [(0, 1), (1, 1), (2, 1)] := by kernel_rfl
theorem Tu : HO Tryz.prog 76 = some [(0, 1), (1, 1), (2, 1), (3, 1), (4, 1), (5, 1)] := by kernel_rfl
theorem EO : sliceB Tryz.prog 100 4 = true := by kernel_rfl
theorem I4 : sliceB Tryz.prog 116 113 = true := by kernel_rfl
theorem HM : sliceB Tryz.prog 22 5 = true := by kernel_rfl
theorem Qu : sliceB Tryz.prog 23 73 = true := by kernel_rfl
theorem Db : sliceB Tryz.prog 26 40 = true := by kernel_rfl
theorem AE : sliceB Tryz.prog 27 3 = true := by kernel_rfl
theorem DR : sliceB Tryz.prog 28 76 = true := by kernel_rfl
theorem AL : sliceB Tryz.prog 34 50 = true := by kernel_rfl
theorem C5 : sliceB Tryz.prog 48 97 = true := by kernel_rfl
theorem F3 : sliceB Tryz.prog 74 100 = true := by kernel_rfl
theorem NY : (Tryz.prog.underlying 106).isSome = true := by kernel_rfl
theorem NV : (Tryz.prog.underlying 131).isSome = true := by kernel_rfl
theorem Qa : (Tryz.prog.underlying 133).isSome = true := by kernel_rfl
theorem Su : (Tryz.prog.underlying 3).isSome = true := by kernel_rfl
theorem Rw : (Tryz.prog.underlying 5).isSome = true := by kernel_rfl
theorem Up : (Tryz.prog.underlying 97).isSome = true := by kernel_rfl
theorem Rp : Mb Tryz.prog 9 = true := by kernel_rfl
theorem Ji : GW Tryz.prog 100 1 = true := by kernel_rfl
theorem H2 : GW Tryz.prog 113 3 = true := by kernel_rfl
theorem OW : GW Tryz.prog 144 1 = true := by kernel_rfl
theorem U0 : GW Tryz.prog 25 4 = true := by kernel_rfl
theorem PW : GW Tryz.prog 27 1 = true := by kernel_rfl
theorem UO : GW Tryz.prog 28 1 = true := by kernel_rfl
theorem Dm : GW Tryz.prog 3 1 = true := by kernel_rfl
theorem DI : GW Tryz.prog 30 4 = true := by kernel_rfl
theorem Oj : GW Tryz.prog 4 1 = true := by kernel_rfl
theorem Ee : GW Tryz.prog 40 3 = true := by kernel_rfl
theorem Uh : GW Tryz.prog 48 1 = true := by kernel_rfl
theorem RM : GW Tryz.prog 5 1 = true := by kernel_rfl
theorem Av : GW Tryz.prog 50 3 = true := by kernel_rfl
theorem Sv : GW Tryz.prog 73 6 = true := by kernel_rfl
theorem TB : GW Tryz.prog 74 1 = true := by kernel_rfl
theorem DP : GW Tryz.prog 76 6 = true := by kernel_rfl
theorem Fa : GW Tryz.prog 97 1 = true := by kernel_rfl
theorem Qj : D9 Tryz.prog 100 = some (.slice none 0 0) := by kernel_rfl
theorem Jj : D9 Tryz.prog 113 = some (.agg #[.int .i64 0, .int .i64 0, .int .i64 0]) := by kernel_rfl
theorem TM : D9 Tryz.prog 144 = some (.int .u64 0) := by kernel_rfl
theorem Kj : D9 Tryz.prog 3 = some (.int .i64 0) := by kernel_rfl
theorem Pl : D9 Tryz.prog 30 = some (.agg #[.slice none 0 0, .slice none 0 0, .slice none 0 0, .slice none 0 0]) := by kernel_rfl
theorem Q7 : D9 Tryz.prog 4 = some (.bool false) := by kernel_rfl
theorem HW : D9 Tryz.prog 40 = some (.agg #[.int .i64 0, .int .i64 0, .int .i64 0]) := by kernel_rfl
theorem T1 : D9 Tryz.prog 5 = some (.int .u8 0) := by kernel_rfl
theorem Ct : D9 Tryz.prog 50 = some (.agg #[.slice none 0 0, .slice none 0 0, .slice none 0 0]) := by kernel_rfl
theorem Un : D9 Tryz.prog 73 = some (.agg #[.int .u8 0, .int .u8 0, .int .u8 0, .bool false, .int .u16 0, .int .u16 0]) := by kernel_rfl
theorem JA : D9 Tryz.prog 76 = some (.agg #[.int .i64 0, .int .i64 0, .int .i64 0, .bool false, .slice none 0 0, .slice none 0 0]) := by kernel_rfl
theorem Ol : D9 Tryz.prog 97 = some (.int .u8 0) := by kernel_rfl
end Go.Lift

/- That the code does what the shallow programs do, function by function. Written by a program (gen.py). -/
namespace Go.Lift
open Go.RowKit
open Go.Proofs
set_option maxRecDepth 10000 in
theorem Hs (N : Nat) (p0 : List Int) (p1 : Int) (r : Int) (h : Dp N p0 p1 = some r) : Az Tryz.prog 32 [.e (.one (.pure (.sl (p0.map Bk)))), .e (.one (.pure (.val (.int .i64 p1))))] [] (.e (.one (.pure (.val (.int .i64 r))))) := by
 unfold Dp at h
 refine As (n := 14) (rs := [.tmp 4]) Tryz.func32 rfl rfl rfl (A1 rfl) (A1 rfl) rfl fun w0 S0 => ?_
 refine Ab (Aa Ac rfl (qa rfl (Ad (Ab (Ab (Aa Ac rfl (qm rfl (qm rfl (AR HM rfl (AY rfl (Ad ?_)))))))))))
 refine Ao rfl (fun c1 => ?_) (fun c1 => ?_)
 ·have h := Am c1 h
  refine Ab (Aa Ac rfl (qm rfl (qm rfl ?_)))
  obtain ⟨v2, a2, b2, h⟩ := Aj h
  refine qi HM RM a2 (Ag b2) rfl (qk SM rfl (F8 Rw Pu rfl (qa rfl (Ad ?_))))
  obtain rfl := sj h
  refine Ak (sm [] [(4, .e (.one (.pure (.val (.int .i64 ((IntKind.wrap .i64 v2)))))))] [] rfl rfl) (Ax ?_)
  exact ⟨⟨[_], ⟨.tmp _ _ rfl, trivial⟩, rfl⟩, trivial⟩
 ·have h := Al c1 h
  refine Ar (Ab (Aa Ac rfl (qa rfl (Ad ?_))))
  obtain rfl := sj h
  refine Ak (sm [] [(4, .e (.one (.pure (.val (.int .i64 0)))))] [] rfl rfl) (Ax ?_)
  exact ⟨⟨[_], ⟨.tmp _ _ rfl, trivial⟩, rfl⟩, trivial⟩
set_option maxRecDepth 10000 in
theorem Cl (N : Nat) (p0 : AH) (r : Bool) (h : A4 N p0 = some r) : Az Tryz.prog 33 [.e (.agg [.pure (.val (.int .i64 p0.fKind)), .pure (.val (.int .i64 p0.fFrom)), .pure (.val (.int .i64 p0.fTo)), .pure (.val (.bool p0.fAware)), .pure (.sl (p0.fOK.map (EQ eB))), .pure (.sl (p0.fRewrite.map (EQ eB)))])] [] (.e (.one (.pure (.val (.bool r))))) := by
 unfold A4 at h
 refine As (n := 11) (rs := [.tmp 2]) Tryz.func33 rfl rfl rfl (A1 rfl) (A1 rfl) rfl fun w0 S0 => ?_
 refine Ab (Aa Ac rfl (qb rfl (qa rfl (Ad ?_))))
 refine AP h (fun v1 => mk [(2, .e (.one (.pure (.val (.bool v1)))))] []) (fun j1 h => ?_) (fun v1 h => ?_)
 ·refine Aa Ac rfl (qf E3 rfl (ql Ci rfl (BA rfl (qm rfl ?_))))
  refine AB (t := 6) rfl (fun c2 => ?_) (fun c2 => ?_)
  ·have h := Am c2 h
   refine qn rfl (qn rfl (qn rfl (qp rfl (qa rfl (Ad ?_)))))
   exact Au _ h (sm [] _ _ rfl rfl)
  ·have h := Al c2 h
   refine qf E3 rfl (ql Ci rfl (BA rfl (qp rfl (qa rfl (Ad ?_)))))
   exact Au _ h (sm [] _ _ rfl rfl)
 ·obtain rfl := sj h
  refine Ak (sm [] [(2, .e (.one (.pure (.val (.bool v1)))))] [] rfl rfl) (Ax ?_)
  exact ⟨⟨[_], ⟨.tmp _ _ rfl, trivial⟩, rfl⟩, trivial⟩
set_option maxRecDepth 10000 in
theorem Hr (N : Nat) (p0 : Int) (p1 : Int) (p2 : Int) (p3 : Bool) (r : (List (List Bool))) (h : Dq N p0 p1 p2 p3 = some r) : Az Tryz.prog 34 [.e (.one (.pure (.val (.int .i64 p0)))), .e (.one (.pure (.val (.int .i64 p1)))), .e (.one (.pure (.val (.int .u16 p2)))), .e (.one (.pure (.val (.bool p3))))] [(1, r.map (EQ eB))] (.e (.one (.own 0))) := by
 unfold Dq at h
 refine As (n := 47) (rs := [.tmp 8]) Tryz.func34 rfl rfl rfl (A1 rfl) (A1 rfl) rfl fun w0 S0 => ?_
 refine Ab (Aa Ac rfl (qa rfl (Ad (Ab (Aa Ac rfl (qa rfl (Ad (Ab (Ab (Aa Ac rfl (qa rfl (Ad ?_))))))))))))
 refine AJ (L := B4 N p0 p1 p2 p3) h (fun v1 => mk [(0, .e (.one (.pure (.val (.int .i64 p0))))), (1, .e (.one (.pure (.val (.int .i64 p1))))), (2, .e (.one (.pure (.val (.int .u16 p2))))), (3, .e (.one (.pure (.val (.bool p3))))), (9, .e (.one (.own 2001))), (10, .e (.one (.pure (.val (.int .i64 v1.2)))))] [(2001, .vec 1 (v1.1.map (EQ eB)))]) (fun v2 => mk [(9, .e (.one (.own 2002)))] [(2002, .vec 1 (v2.map (EQ eB)))]) (fun _ _ => rfl) ((Bo 9 2010 1 rfl rfl rfl).trans (sm [(2001, 2010)] _ _ rfl rfl)) (fun j1 n1 v1 h => ?_) (fun v2 s h hs => ?_)
 ·unfold B4 at h
  refine Ab (Ab (Aa Ac rfl (qm rfl (qm rfl (AY rfl (Ad ?_))))))
  refine Ao rfl (fun c3 => ?_) (fun c3 => ?_)
  ·have h := Am c3 h
   refine Ar (Ab (AN (Ab (Aa Ac rfl (qa rfl (Ad (Ab (Ab (Aa Ac rfl (qa rfl (Ad ?_)))))))))))
   refine AJ (L := B1 N p1 p2 p3 v1) h (fun v4 => mk [(0, .e (.one (.pure (.val (.int .i64 p0))))), (1, .e (.one (.pure (.val (.int .i64 p1))))), (2, .e (.one (.pure (.val (.int .u16 p2))))), (3, .e (.one (.pure (.val (.bool p3))))), (9, .e (.one (.own 2003))), (10, .e (.one (.pure (.val (.int .i64 v1.2))))), (11, .e (.one (.own 2004))), (12, .e (.one (.pure (.val (.int .i64 v4.2)))))] [(2003, .vec 1 (v1.1.map (EQ eB))), (2004, .vec 1 (v4.1.map eB))]) (fun v5 => mk [(0, .e (.one (.pure (.val (.int .i64 p0))))), (1, .e (.one (.pure (.val (.int .i64 p1))))), (2, .e (.one (.pure (.val (.int .u16 p2))))), (3, .e (.one (.pure (.val (.bool p3))))), (9, .e (.one (.own 2005))), (10, .e (.one (.pure (.val (.int .i64 v1.2))))), (11, .e (.one (.own 2006)))] [(2005, .vec 1 (v1.1.map (EQ eB))), (2006, .vec 1 (v5.map eB))]) (fun _ _ => rfl) ((Bo 11 2009 1 rfl rfl rfl).trans (sm [(2003, 2001), (2004, 2009)] _ _ rfl rfl)) (fun j4 n4 v4 h => ?_) (fun v5 s h hs => ?_)
   ·unfold B1 at h
    refine Ab (Ab (Aa Ac rfl (qm rfl (qm rfl (AY rfl (Ad ?_))))))
    refine Ao rfl (fun c6 => ?_) (fun c6 => ?_)
    ·have h := Am c6 h
     refine Ar ?_
     refine AP h (fun v7 => mk [(0, .e (.one (.pure (.val (.int .i64 p0))))), (1, .e (.one (.pure (.val (.int .i64 p1))))), (2, .e (.one (.pure (.val (.int .u16 p2))))), (3, .e (.one (.pure (.val (.bool p3))))), (9, .e (.one (.own 2007))), (10, .e (.one (.pure (.val (.int .i64 v1.2))))), (11, .e (.one (.own 2008))), (12, .e (.one (.pure (.val (.int .i64 v4.2)))))] [(2007, .vec 1 (v1.1.map (EQ eB))), (2008, .vec 1 (v7.map eB))]) (fun j7 h => ?_) (fun v7 h => ?_)
     ·refine AN (Aa Ac rfl (qm rfl (qm rfl (qm rfl ?_))))
      refine AB (t := 25) rfl (fun c8 => ?_) (fun c8 => ?_)
      ·have h := Am c8 h
       refine qm rfl (qm rfl (BA rfl (qp rfl (qm rfl ?_))))
       refine AB (t := 30) rfl (fun c9 => ?_) (fun c9 => ?_)
       ·have h := Am c9 h
        refine qn rfl (qn rfl (qn rfl (qn rfl (qn rfl (qn rfl (qn rfl (qn rfl (qp rfl (D4 EO Oj Q7 rfl ?_)))))))))
        obtain ⟨c10, h⟩ := AK h
        refine Dx (f := eB) EO EO Oj So Q7 c10 rfl (qa rfl (Ad ?_))
        exact Au _ h (sm [(2007, 2003), (2008, 41)] _ _ rfl rfl)
       ·have h := Al c9 h
        refine qm rfl (qm rfl (HH rfl (qm rfl (AU rfl ?_))))
        obtain ⟨c11, h⟩ := AK h
        refine Gz rfl c11 (J7 rfl (by decide) (BA rfl (qp rfl (D4 EO Oj Q7 rfl ?_))))
        obtain ⟨c12, h⟩ := AK h
        refine Dx (f := eB) EO EO Oj So Q7 c12 rfl (qa rfl (Ad ?_))
        exact Au _ h (sm [(2007, 2003), (2008, 41)] _ _ rfl rfl)
      ·have h := Al c8 h
       refine qn rfl (qn rfl (qn rfl (qp rfl (qm rfl (qm rfl (qm rfl (HH rfl (qm rfl (AU rfl ?_)))))))))
       obtain ⟨c13, h⟩ := AK h
       refine Gz rfl c13 (J7 rfl (by decide) (BA rfl (qp rfl (D4 EO Oj Q7 rfl ?_))))
       obtain ⟨c14, h⟩ := AK h
       refine Dx (f := eB) EO EO Oj So Q7 c14 rfl (qa rfl (Ad ?_))
       exact Au _ h (sm [(2007, 2003), (2008, 41)] _ _ rfl rfl)
     ·refine Aa Ac rfl (qm rfl (AU rfl (qa rfl (Ad ?_))))
      exact Au _ h (sm [(2003, 2007), (2004, 2008)] _ _ rfl rfl)
    ·have h := Al c6 h
     refine AW ?_
     exact Au _ h (sm [(2005, 2003), (2006, 2004)] _ _ rfl rfl)
   ·refine Ak hs (Aa Ac rfl (qm rfl (qm rfl (CQ (AZ 2006 _ _ rfl rfl) (D4 F3 Ji Qj rfl ?_)))))
    obtain ⟨c15, h⟩ := AK h
    refine Dx (f := (EQ eB)) F3 F3 Ji SE Qj c15 rfl (qa rfl (Ad (Aa Ac rfl (qm rfl (AU rfl (qa rfl (Ad ?_)))))))
    exact Au _ h (sm [(2001, 45)] _ _ rfl rfl)
  ·have h := Al c3 h
   refine AW ?_
   exact Au _ h (sm [(2002, 2001)] _ _ rfl rfl)
 ·refine Ak hs (Ab (Aa Ac rfl (qm rfl (qa rfl (Ad ?_)))))
  obtain rfl := sj h
  refine Ak (sm [(1000, 2002)] [(8, .e (.one (.own 1000)))] [(1000, .vec 1 (v2.map (EQ eB)))] rfl rfl) (Ax ?_)
  exact ⟨⟨[_], ⟨.tmp _ _ rfl, trivial⟩, rfl⟩, ⟨rfl, trivial⟩⟩
set_option maxRecDepth 10000 in
theorem Kn (N : Nat) (p0 : Ch) (r : Ah × Bool) (h : Ei N p0 = some r) : Az Tryz.prog 9 [.e (.agg [.pure (.sl (p0.fVersions.map Bk)), .pure (.sl (p0.fNow.map Bk)), .pure (.sl (p0.fTarget.map Bk)), .pure (.sl (p0.fLinks.map BZ))])] [(1, r.1.fVersions.map Ai), (1, r.1.fNow.map Ai), (1, r.1.fTarget.map Ai), (6, r.1.fTables.map Aq)] (.tup [.agg [.own 0, .own 1, .own 2, .own 3], .one (.pure (.val (.bool r.2)))]) := by
 unfold Ei at h
 refine As (n := 152) (rs := [.cell 2 30, .tmp 3]) Tryz.func9 rfl rfl rfl (A1 rfl) (A1 rfl) rfl fun w0 S0 => ?_
 refine Ab (Aa Ac rfl (qb rfl (qz Pl rfl (qa rfl (Ad (Ab ?_))))))
 refine AP h (fun v1 => mk [(1, .e (.one (.ptr 1 0))), (2, .e (.one (.ptr 2 0))), (19, .e (.one (.pure (.val (.bool v1)))))] [(1, .box [.pure (.sl (p0.fVersions.map Bk)), .pure (.sl (p0.fNow.map Bk)), .pure (.sl (p0.fTarget.map Bk)), .pure (.sl (p0.fLinks.map BZ))]), (2, .box [.pure (.nil0), .pure (.nil0), .pure (.nil0), .pure (.nil0)])]) (fun j1 h => ?_) (fun v1 h => ?_)
 ·refine Aa Ac rfl (qf M2 rfl (ql Pz rfl (AR HM rfl (Ew rfl (qm rfl ?_)))))
  refine AB (t := 14) rfl (fun c2 => ?_) (fun c2 => ?_)
  ·have h := Am c2 h
   refine qn rfl (qn rfl (qn rfl (qn rfl (qp rfl (Ad ?_)))))
   exact Au _ h (sm [] _ _ rfl rfl)
  ·have h := Al c2 h
   refine qf Nf rfl (ql Sr rfl (AR Qu rfl (Ew rfl (qp rfl (Ad ?_)))))
   exact Au _ h (sm [] _ _ rfl rfl)
 ·refine Ao rfl (fun c3 => ?_) (fun c3 => ?_)
  ·have h := Am c3 h
   refine Ab (Aa Ac rfl (BE Pl Tc rfl (qs DI rfl (qa rfl (Ad ?_)))))
   obtain rfl := sj h
   refine Ak ((AA 2 0 2001 1 _ rfl rfl rfl rfl).trans ((AA 2 1 2002 1 _ rfl rfl rfl rfl).trans ((AA 2 2 2003 1 _ rfl rfl rfl rfl).trans ((AA 2 3 2004 6 _ rfl rfl rfl rfl).trans (sm [(1000, 2001), (1001, 2002), (1002, 2003), (1003, 2004)] [(2, .e (.one (.ptr 2 0))), (3, .e (.one (.pure (.val (.bool false)))))] [(2, .box [.own 1000, .own 1001, .own 1002, .own 1003]), (1000, .vec 1 ((([] : List Int)).map Ai)), (1001, .vec 1 ((([] : List Int)).map Ai)), (1002, .vec 1 ((([] : List Int)).map Ai)), (1003, .vec 6 ((([] : List AH)).map Aq))] rfl rfl))))) (Ax ?_)
   exact ⟨⟨[_, _], ⟨.cellN _ _ _ _ _ _ _ rfl rfl DY DI rfl rfl (HC rfl), ⟨.tmp _ _ rfl, trivial⟩⟩, rfl⟩, ⟨rfl, rfl, rfl, rfl, trivial⟩⟩
  ·have h := Al c3 h
   refine Ar (Ab (Aa Ac rfl (qz Pl rfl (Ad (Ab (Ab (Aa Ac rfl (qa rfl (Ad ?_)))))))))
   refine AJ (L := Ck N p0) h (fun v4 => mk [(1, .e (.one (.ptr 1 0))), (2, .e (.one (.ptr 2 0))), (4, .e (.one (.ptr 4 0))), (5, .e (.one (.pure (.val (.int .i64 v4.2.2.2)))))] [(1, .box [.pure (.sl (p0.fVersions.map Bk)), .pure (.sl (p0.fNow.map Bk)), .pure (.sl (p0.fTarget.map Bk)), .pure (.sl (p0.fLinks.map BZ))]), (2, .box [.pure (.nil0), .pure (.nil0), .pure (.nil0), .pure (.nil0)]), (4, .box [.own 2005, .own 2006, .own 2007, .pure (.nil0)]), (2005, .vec 1 (v4.1.map Ai)), (2006, .vec 1 (v4.2.1.map Ai)), (2007, .vec 1 (v4.2.2.1.map Ai))]) (fun v5 => mk [(1, .e (.one (.ptr 1 0))), (2, .e (.one (.ptr 2 0))), (4, .e (.one (.ptr 4 0)))] [(1, .box [.pure (.sl (p0.fVersions.map Bk)), .pure (.sl (p0.fNow.map Bk)), .pure (.sl (p0.fTarget.map Bk)), .pure (.sl (p0.fLinks.map BZ))]), (2, .box [.pure (.nil0), .pure (.nil0), .pure (.nil0), .pure (.nil0)]), (4, .box [.own 2008, .own 2009, .own 2010, .pure (.nil0)]), (2008, .vec 1 (v5.1.map Ai)), (2009, .vec 1 (v5.2.1.map Ai)), (2010, .vec 1 (v5.2.2.map Ai))]) (fun _ _ => rfl) ((AA 4 0 2011 1 _ rfl rfl rfl rfl).trans ((AA 4 1 2012 1 _ rfl rfl rfl rfl).trans ((AA 4 2 2013 1 _ rfl rfl rfl rfl).trans (sm [(2005, 2011), (2006, 2012), (2007, 2013)] _ _ rfl rfl)))) (fun j4 n4 v4 h => ?_) (fun v5 s h hs => ?_)
   ·unfold Ck at h
    refine Ab (Ab (Aa Ac rfl (qm rfl (qf M2 rfl (ql Pz rfl (AR HM rfl (AY rfl (Ad ?_))))))))
    refine Ao rfl (fun c6 => ?_) (fun c6 => ?_)
    ·have h := Am c6 h
     refine Ar (Ab (AN (Ab (Aa Ac rfl (qf M2 rfl (ql Pz rfl (qm rfl ?_)))))))
     obtain ⟨v7, a7, b7, h⟩ := Aj h
     refine qi HM RM a7 (Ag b7) rfl (qk SM rfl (J7 rfl (by decide) (F8 Rw Pu rfl (AU rfl (qa rfl (Ad (Ab (Aa Ac rfl (qf Bs rfl (ql Bc rfl (qm rfl (D4 AE Dm Kj rfl ?_))))))))))))
     obtain ⟨c8, h⟩ := AK h
     refine Dx (f := Ai) AE AE Dm Lg Kj c8 rfl (qf Bs rfl (qs PW rfl (Ad (Ab (Aa Ac rfl (qf FM rfl (ql Bc rfl (qf Rg rfl (ql Pz rfl (qm rfl ?_))))))))))
     obtain ⟨v9, a9, h⟩ := bind_some h
     refine AD [] (Hs N p0.fNow v4.2.2.2 v9 a9) Tb rfl (qm rfl ?_)
     obtain ⟨c10, h⟩ := AK h
     refine J7 rfl c10 (D4 AE Dm Kj rfl ?_)
     obtain ⟨c11, h⟩ := AK h
     refine Dx (f := Ai) AE AE Dm Lg Kj c11 rfl (qf FM rfl (qs PW rfl (AI (by kernel_rfl) (Aa Ac rfl (qf Iu rfl (ql Bc rfl (qf RE rfl (ql Pz rfl (qm rfl ?_)))))))))
     obtain ⟨v12, a12, h⟩ := bind_some h
     refine AD [] (Hs N p0.fTarget v4.2.2.2 v12 a12) Tb rfl (qm rfl ?_)
     obtain ⟨c13, h⟩ := AK h
     refine J7 rfl c13 (D4 AE Dm Kj rfl ?_)
     obtain ⟨c14, h⟩ := AK h
     refine Dx (f := Ai) AE AE Dm Lg Kj c14 rfl (qf Iu rfl (qs PW rfl (AI (by kernel_rfl) (Aa Ac rfl (qm rfl (AU rfl (qa rfl (Ad ?_))))))))
     exact Au _ h (sm [(2005, 40), (2006, 51), (2007, 62)] _ _ rfl rfl)
    ·have h := Al c6 h
     refine AW ?_
     exact Au _ h (sm [(2008, 2005), (2009, 2006), (2010, 2007)] _ _ rfl rfl)
   ·refine Ak hs (Ab (Ab (Aa Ac rfl (qa rfl (Ad ?_)))))
    refine AJ (L := Bm N p0 v5) h (fun v15 => mk [(1, .e (.one (.ptr 1 0))), (2, .e (.one (.ptr 2 0))), (4, .e (.one (.ptr 4 0))), (7, .e (.one (.pure (.val (.int .i64 v15.2)))))] [(1, .box [.pure (.sl (p0.fVersions.map Bk)), .pure (.sl (p0.fNow.map Bk)), .pure (.sl (p0.fTarget.map Bk)), .pure (.sl (p0.fLinks.map BZ))]), (2, .box [.pure (.nil0), .pure (.nil0), .pure (.nil0), .pure (.nil0)]), (4, .box [.own 2014, .own 2015, .own 2016, .own 2017]), (2014, .vec 1 (v5.1.map Ai)), (2015, .vec 1 (v5.2.1.map Ai)), (2016, .vec 1 (v5.2.2.map Ai)), (2017, .vec 6 (v15.1.map Aq))]) (fun v16 => mk [(2, .e (.one (.ptr 2 0))), (4, .e (.one (.ptr 4 0)))] [(2, .box [.pure (.nil0), .pure (.nil0), .pure (.nil0), .pure (.nil0)]), (4, .box [.own 2018, .own 2019, .own 2020, .own 2021]), (2018, .vec 1 (v5.1.map Ai)), (2019, .vec 1 (v5.2.1.map Ai)), (2020, .vec 1 (v5.2.2.map Ai)), (2021, .vec 6 (v16.map Aq))]) (fun _ _ => rfl) ((AA 4 3 2039 6 _ rfl rfl rfl rfl).trans (sm [(2014, 2008), (2015, 2009), (2016, 2010), (2017, 2039)] _ _ rfl rfl)) (fun j15 n15 v15 h => ?_) (fun v16 s h hs => ?_)
    ·unfold Bm at h
     refine Ab ?_
     refine AP h (fun v17 => mk [(1, .e (.one (.ptr 1 0))), (2, .e (.one (.ptr 2 0))), (4, .e (.one (.ptr 4 0))), (7, .e (.one (.pure (.val (.int .i64 v15.2))))), (74, .e (.one (.pure (.val (.bool v17)))))] [(1, .box [.pure (.sl (p0.fVersions.map Bk)), .pure (.sl (p0.fNow.map Bk)), .pure (.sl (p0.fTarget.map Bk)), .pure (.sl (p0.fLinks.map BZ))]), (2, .box [.pure (.nil0), .pure (.nil0), .pure (.nil0), .pure (.nil0)]), (4, .box [.own 2022, .own 2023, .own 2024, .own 2025]), (2022, .vec 1 (v5.1.map Ai)), (2023, .vec 1 (v5.2.1.map Ai)), (2024, .vec 1 (v5.2.2.map Ai)), (2025, .vec 6 (v15.1.map Aq))]) (fun j17 h => ?_) (fun v17 h => ?_)
     ·refine Aa Ac rfl (qm rfl (qf Nf rfl (ql Sr rfl (AR Qu rfl (AY rfl (qm rfl ?_))))))
      refine AB (t := 69) rfl (fun c18 => ?_) (fun c18 => ?_)
      ·have h := Am c18 h
       refine qf Bs rfl (ql Bc rfl (DZ AE rfl (Ew rfl (qp rfl (Ad ?_)))))
       exact Au _ h (sm [(2022, 2014), (2023, 2015), (2024, 2016), (2025, 2017)] _ _ rfl rfl)
      ·have h := Al c18 h
       refine qn rfl (qn rfl (qn rfl (qn rfl (qp rfl (Ad ?_)))))
       exact Au _ h (sm [(2022, 2014), (2023, 2015), (2024, 2016), (2025, 2017)] _ _ rfl rfl)
     ·refine Ao rfl (fun c19 => ?_) (fun c19 => ?_)
      ·have h := Am c19 h
       refine Ar (Ab (AN (Ab (Aa Ac rfl (qf Nf rfl (ql Sr rfl (qm rfl ?_)))))))
       obtain ⟨v20, a20, b20, h⟩ := Aj h
       refine qi Qu Sv a20 (Ag b20) rfl (qK UN Sv rfl (qz Un rfl (qs Sv rfl (Ad (Ab (Aa Ac rfl (qf Q4 rfl (ql SM rfl (J7 rfl (by decide) (F8 Rw Pu rfl (AU rfl (qf QY rfl (ql SM rfl (F8 Rw Pu rfl (qf Bs rfl (ql Bc rfl (DZ AE rfl ?_)))))))))))))))))
       obtain ⟨c21, h⟩ := AK h
       refine J7 rfl c21 (qf QH rfl (ql SM rfl (F8 Rw Pu rfl (qf Bs rfl (ql Bc rfl (DZ AE rfl ?_))))))
       obtain ⟨c22, h⟩ := AK h
       refine J7 rfl c22 (BE JA Tu rfl (qz JA rfl (qs DP rfl (AI (by kernel_rfl) ?_))))
       refine AP h (fun v23 => mk [(1, .e (.one (.ptr 1 0))), (2, .e (.one (.ptr 2 0))), (4, .e (.one (.ptr 4 0))), (7, .e (.one (.pure (.val (.int .i64 v15.2))))), (8, .e (.one (.ptr 8 0))), (9, .e (.one (.ptr 9 0)))] [(1, .box [.pure (.sl (p0.fVersions.map Bk)), .pure (.sl (p0.fNow.map Bk)), .pure (.sl (p0.fTarget.map Bk)), .pure (.sl (p0.fLinks.map BZ))]), (2, .box [.pure (.nil0), .pure (.nil0), .pure (.nil0), .pure (.nil0)]), (4, .box [.own 2026, .own 2027, .own 2028, .own 2029]), (8, .box [.pure (.val (.int .u8 v20.fKind)), .pure (.val (.int .u8 v20.fFrom)), .pure (.val (.int .u8 v20.fTo)), .pure (.val (.bool v20.fAware)), .pure (.val (.int .u16 v20.fBad)), .pure (.val (.int .u16 v20.fLost))]), (9, .box [.pure (.val (.int .i64 ((IntKind.wrap .i64 (1 + (IntKind.wrap .i64 ((Int.tmod v20.fKind 4)))))))), .pure (.val (.int .i64 ((Int.tmod ((IntKind.wrap .i64 v20.fFrom)) ((v5.1.length : Int)))))), .pure (.val (.int .i64 ((Int.tmod ((IntKind.wrap .i64 v20.fTo)) ((v5.1.length : Int)))))), .pure (.val (.bool v23)), .pure (.nil0), .pure (.nil0)]), (2026, .vec 1 (v5.1.map Ai)), (2027, .vec 1 (v5.2.1.map Ai)), (2028, .vec 1 (v5.2.2.map Ai)), (2029, .vec 6 (v15.1.map Aq))]) (fun j23 h => ?_) (fun v23 h => ?_)
       ·refine Aa Ac rfl (qf Rn rfl (ql QE rfl (qm rfl ?_)))
        refine AB (t := 104) rfl (fun c24 => ?_) (fun c24 => ?_)
        ·have h := Am c24 h
         refine qL GT DP rfl ?_
         obtain ⟨v25, a25, h⟩ := bind_some h
         refine AD [] (Cl N ((AH.mk ((IntKind.wrap .i64 (1 + (IntKind.wrap .i64 ((Int.tmod v20.fKind 4)))))) ((Int.tmod ((IntKind.wrap .i64 v20.fFrom)) ((v5.1.length : Int)))) ((Int.tmod ((IntKind.wrap .i64 v20.fTo)) ((v5.1.length : Int)))) false (([] : List (List Bool))) (([] : List (List Bool))))) v25 a25) Nq rfl (Cu rfl (qp rfl (qf I5 rfl (qs Oj rfl (Ad ?_)))))
         exact Au _ h (sm [(2026, 2022), (2027, 2023), (2028, 2024), (2029, 2025)] _ _ rfl rfl)
        ·have h := Al c24 h
         refine qn rfl (qn rfl (qn rfl (qp rfl (qf I5 rfl (qs Oj rfl (Ad ?_))))))
         exact Au _ h (sm [(2026, 2022), (2027, 2023), (2028, 2024), (2029, 2025)] _ _ rfl rfl)
       ·refine Ab (Aa Ac rfl (qf Bs rfl (ql Bc rfl (qf C3 rfl (ql Ci rfl ?_)))))
        obtain ⟨v26, a26, b26, h⟩ := Aj h
        refine qI AE Dm a26 (Ag b26) rfl (qj Ci (Ag b26) rfl (qf Bs rfl (ql Bc rfl (qf Iv rfl (ql Ci rfl ?_)))))
        obtain ⟨v27, a27, b27, h⟩ := Aj h
        refine qI AE Dm a27 (Ag b27) rfl (qj Ci (Ag b27) rfl (qf Ri rfl (ql TC rfl ?_)))
        obtain ⟨v28, a28, h⟩ := bind_some h
        refine AD [2030] (Hr N v26 v27 v20.fBad false v28 a28) S6 rfl (qf J4 rfl (qs TB rfl (AI (by kernel_rfl) ?_)))
        refine AP h (fun v29 => mk [(1, .e (.one (.ptr 1 0))), (2, .e (.one (.ptr 2 0))), (4, .e (.one (.ptr 4 0))), (7, .e (.one (.pure (.val (.int .i64 v15.2))))), (9, .e (.one (.ptr 9 0)))] [(1, .box [.pure (.sl (p0.fVersions.map Bk)), .pure (.sl (p0.fNow.map Bk)), .pure (.sl (p0.fTarget.map Bk)), .pure (.sl (p0.fLinks.map BZ))]), (2, .box [.pure (.nil0), .pure (.nil0), .pure (.nil0), .pure (.nil0)]), (4, .box [.own 2031, .own 2032, .own 2033, .own 2034]), (9, .box [.pure (.val (.int .i64 ((IntKind.wrap .i64 (1 + (IntKind.wrap .i64 ((Int.tmod v20.fKind 4)))))))), .pure (.val (.int .i64 ((Int.tmod ((IntKind.wrap .i64 v20.fFrom)) ((v5.1.length : Int)))))), .pure (.val (.int .i64 ((Int.tmod ((IntKind.wrap .i64 v20.fTo)) ((v5.1.length : Int)))))), .pure (.val (.bool v23)), .own 2035, .own 2036]), (2031, .vec 1 (v5.1.map Ai)), (2032, .vec 1 (v5.2.1.map Ai)), (2033, .vec 1 (v5.2.2.map Ai)), (2034, .vec 6 (v15.1.map Aq)), (2035, .vec 1 (v28.map (EQ eB))), (2036, .vec 1 (v29.map (EQ eB)))]) (fun j29 h => ?_) (fun v29 h => ?_)
        ·refine Ab (Aa Ac rfl (qf E3 rfl (ql Ci rfl (BA rfl (Ad ?_)))))
         refine Ao rfl (fun c30 => ?_) (fun c30 => ?_)
         ·have h := Am c30 h
          refine Aa Ac rfl (qf Bs rfl (ql Bc rfl (qf C3 rfl (ql Ci rfl ?_))))
          obtain ⟨v31, a31, b31, h⟩ := Aj h
          refine qI AE Dm a31 (Ag b31) rfl (qj Ci (Ag b31) rfl (qf Bs rfl (ql Bc rfl (qf C3 rfl (ql Ci rfl ?_)))))
          obtain ⟨v32, a32, b32, h⟩ := Aj h
          refine qI AE Dm a32 (Ag b32) rfl (qj Ci (Ag b32) rfl (qf Rj rfl (ql TC rfl ?_)))
          obtain ⟨v33, a33, h⟩ := bind_some h
          refine AD [2037] (Hr N v31 v32 v20.fLost true v33 a33) S6 rfl (qf FO rfl (qs TB rfl (AI (by kernel_rfl) ?_)))
          exact Au _ h (sm [(2031, 2026), (2032, 2027), (2033, 2028), (2034, 2029), (2035, 2030), (2036, 2037)] _ _ rfl rfl)
         ·have h := Al c30 h
          refine Ar ?_
          exact Au _ h ((AA 9 5 2038 1 _ rfl rfl rfl rfl).trans (sm [(2031, 2026), (2032, 2027), (2033, 2028), (2034, 2029), (2035, 2030), (2036, 2038)] _ _ rfl rfl))
        ·refine Aa Ac rfl (qf CO rfl (ql GV rfl (qL GT DP rfl (CQ (AZ 2035 _ _ rfl rfl) (CQ (AZ 2036 _ _ rfl rfl) (D4 DR DP JA rfl ?_))))))
         obtain ⟨c34, h⟩ := AK h
         refine Dx (f := Aq) DR DR DP T3 JA c34 rfl (qf CO rfl (qs UO rfl (Ad (Aa Ac rfl (qm rfl (AU rfl (qa rfl (Ad ?_))))))))
         exact Au _ h (sm [(2014, 2031), (2015, 2032), (2016, 2033), (2017, 149)] _ _ rfl rfl)
      ·have h := Al c19 h
       refine AW ?_
       exact Au _ h (sm [(2018, 2022), (2019, 2023), (2020, 2024), (2021, 2025)] _ _ rfl rfl)
    ·refine Ak hs (Ab (Aa Ac rfl (qL DY DI rfl (qs DI rfl (qa rfl (Ad ?_))))))
     obtain rfl := sj h
     refine Ak (sm [(1000, 2018), (1001, 2019), (1002, 2020), (1003, 2021)] [(2, .e (.one (.ptr 2 0))), (3, .e (.one (.pure (.val (.bool true)))))] [(2, .box [.own 1000, .own 1001, .own 1002, .own 1003]), (1000, .vec 1 (v5.1.map Ai)), (1001, .vec 1 (v5.2.1.map Ai)), (1002, .vec 1 (v5.2.2.map Ai)), (1003, .vec 6 (v16.map Aq))] rfl rfl) (Ax ?_)
     exact ⟨⟨[_, _], ⟨.cellN _ _ _ _ _ _ _ rfl rfl DY DI rfl rfl (HC rfl), ⟨.tmp _ _ rfl, trivial⟩⟩, rfl⟩, ⟨rfl, rfl, rfl, rfl, trivial⟩⟩
set_option maxRecDepth 10000 in
theorem Dz (N : Nat) (p0 : Bool) (r : Ah) (h : Cn N p0 = some r) : Az Tryz.prog 35 [.e (.one (.pure (.val (.bool p0))))] [(1, r.fVersions.map Ai), (1, r.fNow.map Ai), (1, r.fTarget.map Ai), (6, r.fTables.map Aq)] (.e (.agg [.own 0, .own 1, .own 2, .own 3])) := by
 unfold Cn at h
 refine As (n := 15) (rs := [.cell 2 30]) Tryz.func35 rfl rfl rfl (A1 rfl) (A1 rfl) rfl fun w0 S0 => ?_
 refine Ab (Aa Ac rfl (qz Pl rfl (Ad (Ab (Aa Ac rfl (D4 EO Oj Q7 rfl (qm rfl (D4 EO Oj Q7 rfl (CQ (AZ 4 _ _ rfl rfl) (CQ (AZ 6 _ _ rfl rfl) (D4 F3 Ji Qj rfl (BE JA Tu rfl (qz JA rfl (qs DP rfl (Ad (Ab (Aa Ac rfl (D4 AE Dm Kj rfl (D4 AE Dm Kj rfl (D4 AE Dm Kj rfl (qL GT DP rfl (CQ (AZ 7 _ _ rfl rfl) (D4 DR DP JA rfl (BE Pl Tc rfl (qs DI rfl (Ad ?_))))))))))))))))))))))))))
 obtain rfl := sj h
 refine Ak (sm [(1000, 9), (1001, 10), (1002, 11), (1003, 13)] [(2, .e (.one (.ptr 2 0)))] [(2, .box [.own 1000, .own 1001, .own 1002, .own 1003]), (1000, .vec 1 ((([2] : List Int)).map Ai)), (1001, .vec 1 ((([0] : List Int)).map Ai)), (1002, .vec 1 ((([1] : List Int)).map Ai)), (1003, .vec 6 ((([(AH.mk 1 0 0 false (([([true, true] : List Bool), ([p0, true] : List Bool)] : List (List Bool))) (([] : List (List Bool))))] : List AH)).map Aq))] rfl rfl) (Ax ?_)
 exact ⟨⟨[_], ⟨.cellN _ _ _ _ _ _ _ rfl rfl DY DI rfl rfl (HC rfl), trivial⟩, rfl⟩, ⟨rfl, rfl, rfl, rfl, trivial⟩⟩
set_option maxRecDepth 10000 in
theorem Gk (N : Nat) (p0 : Int) (p1 : Int) (r : Bool) (h : Dv N p0 p1 = some r) : Az Tryz.prog 100 [.e (.one (.pure (.val (.int .i64 p0)))), .e (.one (.pure (.val (.int .i64 p1))))] [] (.e (.one (.pure (.val (.bool r))))) := by
 unfold Dv at h
 refine As (n := 12) (rs := [.tmp 4]) Tryz.func100 rfl rfl rfl (A1 rfl) (A1 rfl) rfl fun w0 S0 => ?_
 refine Ab (Aa Ac rfl (qa rfl (Ad ?_)))
 refine AP h (fun v1 => mk [(4, .e (.one (.pure (.val (.bool v1)))))] []) (fun j1 h => ?_) (fun v1 h => ?_)
 ·refine Aa Ac rfl (qm rfl (C6 rfl (qm rfl ?_)))
  refine AB (t := 7) rfl (fun c2 => ?_) (fun c2 => ?_)
  ·have h := Am c2 h
   refine qm rfl (qm rfl (AY rfl (qp rfl (qa rfl (Ad ?_)))))
   exact Au _ h (sm [] _ _ rfl rfl)
  ·have h := Al c2 h
   refine qn rfl (qn rfl (qn rfl (qp rfl (qa rfl (Ad ?_)))))
   exact Au _ h (sm [] _ _ rfl rfl)
 ·obtain rfl := sj h
  refine Ak (sm [] [(4, .e (.one (.pure (.val (.bool v1)))))] [] rfl rfl) (Ax ?_)
  exact ⟨⟨[_], ⟨.tmp _ _ rfl, trivial⟩, rfl⟩, trivial⟩
set_option maxRecDepth 10000 in
theorem Ng (N : Nat) (p0 : Int) (p1 : Bool) (r : Bool) (h : FC N p0 p1 = some r) : Az Tryz.prog 115 [.e (.one (.pure (.val (.int .i64 p0)))), .e (.one (.pure (.val (.bool p1))))] [] (.e (.one (.pure (.val (.bool r))))) := by
 unfold FC at h
 refine As (n := 23) (rs := [.tmp 4]) Tryz.func115 rfl rfl rfl (A1 rfl) (A1 rfl) rfl fun w0 S0 => ?_
 refine Ab (Aa Ac rfl (qa rfl (Ad ?_)))
 refine AP h (fun v1 => mk [(4, .e (.one (.pure (.val (.bool v1)))))] []) (fun j1 h => ?_) (fun v1 h => ?_)
 ·refine Aa Ac rfl (qm rfl (BA rfl (qm rfl ?_)))
  refine AB (t := 7) rfl (fun c2 => ?_) (fun c2 => ?_)
  ·have h := Am c2 h
   refine qn rfl (qn rfl (qp rfl (qm rfl (qn rfl (qn rfl (qn rfl (qu rfl (qu rfl (qn rfl (qn rfl (qu rfl (qu rfl (qn rfl (qp rfl (qa rfl (Ad ?_))))))))))))))))
   exact Au _ h (sm [] _ _ rfl rfl)
  ·have h := Al c2 h
   refine qm rfl (BA rfl (qp rfl (qm rfl ?_)))
   refine AB (t := 11) rfl (fun c3 => ?_) (fun c3 => ?_)
   ·have h := Am c3 h
    refine qn rfl (qn rfl (qn rfl (qu rfl (qu rfl (qn rfl (qn rfl (qu rfl (qu rfl (qn rfl (qp rfl (qa rfl (Ad ?_))))))))))))
    exact Au _ h (sm [] _ _ rfl rfl)
   ·have h := Al c3 h
    refine qm rfl (BA rfl (qm rfl ?_))
    refine AB (t := 14) rfl (fun c4 => ?_) (fun c4 => ?_)
    ·have h := Am c4 h
     refine qn rfl (qn rfl (qp rfl (qm rfl (qm rfl (Cu rfl (qp rfl (qp rfl (qa rfl (Ad ?_)))))))))
     exact Au _ h (sm [] _ _ rfl rfl)
    ·have h := Al c4 h
     refine qm rfl (BA rfl (qp rfl (qm rfl ?_)))
     refine AB (t := 18) rfl (fun c5 => ?_) (fun c5 => ?_)
     ·have h := Am c5 h
      refine qm rfl (Cu rfl (qp rfl (qp rfl (qa rfl (Ad ?_)))))
      exact Au _ h (sm [] _ _ rfl rfl)
     ·have h := Al c5 h
      refine qn rfl (qn rfl (qp rfl (qp rfl (qa rfl (Ad ?_)))))
      exact Au _ h (sm [] _ _ rfl rfl)
 ·obtain rfl := sj h
  refine Ak (sm [] [(4, .e (.one (.pure (.val (.bool v1)))))] [] rfl rfl) (Ax ?_)
  exact ⟨⟨[_], ⟨.tmp _ _ rfl, trivial⟩, rfl⟩, trivial⟩
set_option maxRecDepth 10000 in
theorem Kv (N : Nat) (p0 : List Bool) (p1 : Int) (r : Bool) (h : Do N p0 p1 = some r) : Az Tryz.prog 124 [.e (.one (.pure (.sl (p0.map eB)))), .e (.one (.rop [.val (.int .i64 p1)]))] [] (.e (.one (.pure (.val (.bool r))))) := by
 unfold Do at h
 refine As (n := 8) (rs := [.tmp 3]) Tryz.func124 rfl rfl rfl (A1 rfl) (A1 rfl) rfl fun w0 S0 => ?_
 refine Ab (Aa Ac rfl (qa rfl (Ad (Ab (Aa Ac rfl (qm rfl (AR EO rfl (qk Ci rfl (BX rfl (qa rfl (Ad ?_)))))))))))
 obtain rfl := sj h
 refine Ak (sm [] [(3, .e (.one (.pure (.val (.bool (((p0.length : Int) != p1)))))))] [] rfl rfl) (Ax ?_)
 exact ⟨⟨[_], ⟨.tmp _ _ rfl, trivial⟩, rfl⟩, trivial⟩
set_option maxRecDepth 10000 in
theorem G6 (N : Nat) (p0 : List (List Bool)) (p1 : (List Bool) → Option Bool) (r : Int) (h : CV N p0 p1 = some r) : Az Tryz.prog 126 [.e (.one (.pure (.sl (p0.map (EQ eB))))), .e (.one (.clo (BJ (NQ false (EQ eB)) tB p1)))] [] (.e (.one (.pure (.val (.int .i64 r))))) := by
 unfold CV at h
 refine As (n := 19) (rs := [.tmp 4]) Tryz.func126 rfl rfl rfl (A1 rfl) (A1 rfl) rfl fun w0 S0 => ?_
 refine Ab (Aa Ac rfl (qa rfl (Ad (Ab (Ab (Aa Ac rfl (qm rfl (AR F3 rfl (qm rfl (Ad ?_))))))))))
 refine AJ (L := Bd N p0 p1) h (fun v1 => mk [(0, .e (.one (.pure (.sl (p0.map (EQ eB)))))), (1, .e (.one (.clo (BJ (NQ false (EQ eB)) tB p1)))), (7, .e (.one (.pure (.val (.int .i64 ((p0.length : Int))))))), (8, .e (.one (.pure (.val (.int .i64 v1)))))] []) (fun v2 => mk [] []) (fun _ _ => rfl) (sm [] _ _ rfl rfl) (fun j1 n1 v1 h => ?_) (fun v2 s h hs => ?_)
 ·unfold Bd at h
  refine Ab (Aa Ac rfl (AY rfl (Ad (Ab ?_))))
  refine Ao rfl (fun c3 => ?_) (fun c3 => ?_)
  ·have h := Am c3 h
   refine Ar (Ab (AN (Ab (Aa Ac rfl (qm rfl (qa rfl (Ad (Ab (Aa Ac rfl (qm rfl (qm rfl (qm rfl ?_))))))))))))
   obtain ⟨v4, a4, b4, h⟩ := Aj h
   refine qi F3 Ji a4 (Ag b4) rfl (qk Li rfl ?_)
   obtain ⟨v5, a5, h⟩ := bind_some h
   refine DW (ds0 := [_]) (ar := (NQ false (EQ eB)) v4) (.p rfl) rfl rfl ⟨rfl, trivial⟩ rfl rfl rfl (DV (M3 _ _ (Tk Ub)) a5) ?_
   refine Ad ?_
   refine Ao rfl (fun c6 => ?_) (fun c6 => ?_)
   ·have h := Am c6 h
    refine Ab (Aa Ac rfl (qm rfl (qa rfl (Ad ?_))))
    obtain rfl := sj h
    refine Ak (sm [] [(4, .e (.one (.pure (.val (.int .i64 v1)))))] [] rfl rfl) (Ax ?_)
    exact ⟨⟨[_], ⟨.tmp _ _ rfl, trivial⟩, rfl⟩, trivial⟩
   ·have h := Al c6 h
    refine Ar (Aa Ac rfl (AU rfl (qm rfl (Ad ?_))))
    exact Au _ h (sm [] _ _ rfl rfl)
  ·have h := Al c3 h
   refine AW ?_
   exact Au _ h (sm [] _ _ rfl rfl)
 ·refine Ak hs (Ab (Aa Ac rfl (qa rfl (Ad ?_))))
  obtain rfl := sj h
  refine Ak (sm [] [(4, .e (.one (.pure (.val (.int .i64 ((-1)))))))] [] rfl rfl) (Ax ?_)
  exact ⟨⟨[_], ⟨.tmp _ _ rfl, trivial⟩, rfl⟩, trivial⟩
set_option maxRecDepth 10000 in
theorem Gu (N : Nat) (p0 : List (List Bool)) (p1 : (List Bool) → Option Bool) (r : Bool) (h : Cz N p0 p1 = some r) : Az Tryz.prog 123 [.e (.one (.pure (.sl (p0.map (EQ eB))))), .e (.one (.clo (BJ (NQ false (EQ eB)) tB p1)))] [] (.e (.one (.pure (.val (.bool r))))) := by
 unfold Cz at h
 refine As (n := 9) (rs := [.tmp 4]) Tryz.func123 rfl rfl rfl (A1 rfl) (A1 rfl) rfl fun w0 S0 => ?_
 refine Ab (Aa Ac rfl (qa rfl (Ad (Ab (Aa Ac rfl (qm rfl (qm rfl ?_)))))))
 obtain ⟨v1, a1, h⟩ := bind_some h
 refine AD [] (G6 N p0 p1 v1 a1) TV rfl (C6 rfl (qa rfl (Ad ?_)))
 obtain rfl := sj h
 refine Ak (sm [] [(4, .e (.one (.pure (.val (.bool ((decide (0 ≤ v1))))))))] [] rfl rfl) (Ax ?_)
 exact ⟨⟨[_], ⟨.tmp _ _ rfl, trivial⟩, rfl⟩, trivial⟩
set_option maxRecDepth 10000 in
theorem IL (N : Nat) (p0 : List (List Bool)) (p1 : Int) (p2 : Int) (r : Bool) (h : Ef N p0 p1 p2 = some r) : Az Tryz.prog 116 [.e (.one (.pure (.sl (p0.map (EQ eB))))), .e (.one (.pure (.val (.int .i64 p1)))), .e (.one (.pure (.val (.int .i64 p2))))] [] (.e (.one (.pure (.val (.bool r))))) := by
 unfold Ef at h
 refine As (n := 17) (rs := [.tmp 6]) Tryz.func116 rfl rfl rfl (A1 rfl) (A1 rfl) rfl fun w0 S0 => ?_
 refine Ab (Aa Ac rfl (qb rfl (qa rfl (Ad ?_))))
 refine AP h (fun v1 => mk [(6, .e (.one (.pure (.val (.bool v1)))))] []) (fun j1 h => ?_) (fun v1 h => ?_)
 ·refine Aa Ac rfl (qm rfl (AR F3 rfl (qm rfl (BA rfl (qm rfl ?_)))))
  refine AB (t := 11) rfl (fun c2 => ?_) (fun c2 => ?_)
  ·have h := Am c2 h
   refine qm rfl (CQ (Lc 5 [.val (.int .i64 p2)] rfl rfl) ?_)
   refine Lx (capD := [_]) (BJ (NQ false (EQ eB)) tB ((fun (x : List Bool) => Do N x p2))) (.g rfl rfl) TN rfl ⟨rfl, trivial⟩ rfl (fun ar t ht => by obtain ⟨x, r, rfl, hq, rfl⟩ := Ib ht; exact Kv N x p2 r hq) ?_
   obtain ⟨v3, a3, h⟩ := bind_some h
   refine AD [] (Gu N p0 ((fun (x : List Bool) => Do N x p2)) v3 a3) T2 rfl (Cu rfl (qp rfl (qa rfl (Ad ?_))))
   exact Au _ h (sm [] _ _ rfl rfl)
  ·have h := Al c2 h
   refine qn rfl (qn rfl (qn rfl (qn rfl (qp rfl (qa rfl (Ad ?_))))))
   exact Au _ h (sm [] _ _ rfl rfl)
 ·obtain rfl := sj h
  refine Ak (sm [] [(6, .e (.one (.pure (.val (.bool v1)))))] [] rfl rfl) (Ax ?_)
  exact ⟨⟨[_], ⟨.tmp _ _ rfl, trivial⟩, rfl⟩, trivial⟩
set_option maxRecDepth 10000 in
theorem L4 (N : Nat) (p0 : Ah) (p1 : AH) (r : Int) (h : Ff N p0 p1 = some r) : Az Tryz.prog 101 [.e (.agg [.pure (.sl (p0.fVersions.map Ai)), .pure (.sl (p0.fNow.map Ai)), .pure (.sl (p0.fTarget.map Ai)), .pure (.sl (p0.fTables.map Aq))]), .e (.agg [.pure (.val (.int .i64 p1.fKind)), .pure (.val (.int .i64 p1.fFrom)), .pure (.val (.int .i64 p1.fTo)), .pure (.val (.bool p1.fAware)), .pure (.sl (p1.fOK.map (EQ eB))), .pure (.sl (p1.fRewrite.map (EQ eB)))])] [] (.e (.one (.pure (.val (.int .i64 r))))) := by
 unfold Ff at h
 refine As (n := 87) (rs := [.tmp 4]) Tryz.func101 rfl rfl rfl (A1 rfl) (A1 rfl) rfl fun w0 S0 => ?_
 refine Ab (Aa Ac rfl (qb rfl (qb rfl (qa rfl (Ad (Ab (Ab (Aa Ac rfl (qf E3 rfl (ql Ci rfl (qf I5 rfl (ql QE rfl ?_))))))))))))
 obtain ⟨v1, a1, h⟩ := bind_some h
 refine AD [] (Ng N p1.fKind p1.fAware v1 a1) Ts rfl (Cu rfl (Ad ?_))
 refine Ao rfl (fun c2 => ?_) (fun c2 => ?_)
 ·have h := Am c2 h
  refine Ab (Aa Ac rfl (qa rfl (Ad ?_)))
  obtain rfl := sj h
  refine Ak (sm [] [(4, .e (.one (.pure (.val (.int .i64 1)))))] [] rfl rfl) (Ax ?_)
  exact ⟨⟨[_], ⟨.tmp _ _ rfl, trivial⟩, rfl⟩, trivial⟩
 ·have h := Al c2 h
  refine Ar (Ab ?_)
  refine AP h (fun v3 => mk [(2, .e (.one (.ptr 2 0))), (3, .e (.one (.ptr 3 0))), (29, .e (.one (.pure (.val (.bool v3)))))] [(2, .box [.pure (.sl (p0.fVersions.map Ai)), .pure (.sl (p0.fNow.map Ai)), .pure (.sl (p0.fTarget.map Ai)), .pure (.sl (p0.fTables.map Aq))]), (3, .box [.pure (.val (.int .i64 p1.fKind)), .pure (.val (.int .i64 p1.fFrom)), .pure (.val (.int .i64 p1.fTo)), .pure (.val (.bool p1.fAware)), .pure (.sl (p1.fOK.map (EQ eB))), .pure (.sl (p1.fRewrite.map (EQ eB)))])]) (fun j3 h => ?_) (fun v3 h => ?_)
  ·refine Aa Ac rfl (qf C3 rfl (ql Ci rfl (qf Bs rfl (ql Bc rfl (AR AE rfl ?_)))))
   obtain ⟨v4, a4, h⟩ := bind_some h
   refine AD [] (Gk N p1.fFrom ((p0.fVersions.length : Int)) v4 a4) OX rfl (Cu rfl (qm rfl ?_))
   refine AB (t := 21) rfl (fun c5 => ?_) (fun c5 => ?_)
   ·have h := Am c5 h
    refine qn rfl (qn rfl (qn rfl (qn rfl (qn rfl (qn rfl (qn rfl (qp rfl (Ad ?_))))))))
    exact Au _ h (sm [] _ _ rfl rfl)
   ·have h := Al c5 h
    refine qf Iv rfl (ql Ci rfl (qf Bs rfl (ql Bc rfl (AR AE rfl ?_))))
    obtain ⟨v6, a6, h⟩ := bind_some h
    refine AD [] (Gk N p1.fTo ((p0.fVersions.length : Int)) v6 a6) OX rfl (Cu rfl (qp rfl (Ad ?_)))
    exact Au _ h (sm [] _ _ rfl rfl)
  ·refine Ao rfl (fun c7 => ?_) (fun c7 => ?_)
   ·have h := Am c7 h
    refine Ab (Aa Ac rfl (qa rfl (Ad ?_)))
    obtain rfl := sj h
    refine Ak (sm [] [(4, .e (.one (.pure (.val (.int .i64 4)))))] [] rfl rfl) (Ax ?_)
    exact ⟨⟨[_], ⟨.tmp _ _ rfl, trivial⟩, rfl⟩, trivial⟩
   ·have h := Al c7 h
    refine Ar (Ab (Aa Ac rfl (qf Bs rfl (ql Bc rfl (qf C3 rfl (ql Ci rfl ?_))))))
    obtain ⟨v8, a8, b8, h⟩ := Aj h
    refine qi AE Dm a8 (Ag b8) rfl (qk Ci rfl (qa rfl (Ad (Ab (Aa Ac rfl (qf E3 rfl (ql Ci rfl (BA rfl (qa rfl (Ad (Ab ?_)))))))))))
    refine AP h (fun v9 => mk [(3, .e (.one (.ptr 3 0))), (70, .e (.one (.pure (.val (.bool v9)))))] [(3, .box [.pure (.val (.int .i64 p1.fKind)), .pure (.val (.int .i64 p1.fFrom)), .pure (.val (.int .i64 p1.fTo)), .pure (.val (.bool p1.fAware)), .pure (.sl (p1.fOK.map (EQ eB))), .pure (.sl (p1.fRewrite.map (EQ eB)))])]) (fun j9 h => ?_) (fun v9 h => ?_)
    ·refine Aa Ac rfl (qf J4 rfl (ql Js rfl (qm rfl (qf Bs rfl (ql Bc rfl (qf Iv rfl (ql Ci rfl ?_)))))))
     obtain ⟨v10, a10, b10, h⟩ := Aj h
     refine qi AE Dm a10 (Ag b10) rfl (qk Ci rfl ?_)
     obtain ⟨v11, a11, h⟩ := bind_some h
     refine AD [] (IL N p1.fOK v8 v10 v11 a11) RH rfl (Cu rfl (qm rfl ?_))
     refine AB (t := 50) rfl (fun c12 => ?_) (fun c12 => ?_)
     ·have h := Am c12 h
      refine qn rfl (qn rfl (qu rfl (qu rfl (qu rfl (qu rfl (qu rfl (qu rfl (qn rfl (qp rfl (qm rfl (qn rfl (qn rfl (qn rfl (qu rfl (qu rfl (qu rfl (qu rfl (qn rfl (qp rfl (AI (by kernel_rfl) ?_))))))))))))))))))))
      exact Au _ h (sm [] _ _ rfl rfl)
     ·have h := Al c12 h
      refine qm rfl (qm rfl ?_)
      refine AB (t := 52) rfl (fun c13 => ?_) (fun c13 => ?_)
      ·have h := Am c13 h
       refine qf FO rfl (ql Js rfl (qm rfl (qm rfl ?_)))
       obtain ⟨v14, a14, h⟩ := bind_some h
       refine AD [] (IL N p1.fRewrite v8 v8 v14 a14) RH rfl (Cu rfl (qp rfl (qp rfl (qm rfl ?_))))
       refine AB (t := 61) rfl (fun c15 => ?_) (fun c15 => ?_)
       ·have h := Am c15 h
        refine qn rfl (qn rfl (qn rfl (qu rfl (qu rfl (qu rfl (qu rfl (qn rfl (qp rfl (AI (by kernel_rfl) ?_)))))))))
        exact Au _ h (sm [] _ _ rfl rfl)
       ·have h := Al c15 h
        refine qm rfl (Cu rfl (qm rfl ?_))
        refine AB (t := 64) rfl (fun c16 => ?_) (fun c16 => ?_)
        ·have h := Am c16 h
         refine qf FO rfl (ql Js rfl (AR F3 rfl (Ew rfl (qp rfl (qp rfl (AI (by kernel_rfl) ?_))))))
         exact Au _ h (sm [] _ _ rfl rfl)
        ·have h := Al c16 h
         refine qn rfl (qn rfl (qn rfl (qn rfl (qp rfl (qp rfl (AI (by kernel_rfl) ?_))))))
         exact Au _ h (sm [] _ _ rfl rfl)
      ·have h := Al c13 h
       refine qn rfl (qn rfl (qn rfl (qn rfl (qn rfl (qn rfl (qp rfl (qp rfl (qm rfl (qm rfl (Cu rfl (qm rfl ?_)))))))))))
       refine AB (t := 64) rfl (fun c17 => ?_) (fun c17 => ?_)
       ·have h := Am c17 h
        refine qf FO rfl (ql Js rfl (AR F3 rfl (Ew rfl (qp rfl (qp rfl (AI (by kernel_rfl) ?_))))))
        exact Au _ h (sm [] _ _ rfl rfl)
       ·have h := Al c17 h
        refine qn rfl (qn rfl (qn rfl (qn rfl (qp rfl (qp rfl (AI (by kernel_rfl) ?_))))))
        exact Au _ h (sm [] _ _ rfl rfl)
    ·refine Ao rfl (fun c18 => ?_) (fun c18 => ?_)
     ·have h := Am c18 h
      refine Ab (Aa Ac rfl (qa rfl (Ad ?_)))
      obtain rfl := sj h
      refine Ak (sm [] [(4, .e (.one (.pure (.val (.int .i64 6)))))] [] rfl rfl) (Ax ?_)
      exact ⟨⟨[_], ⟨.tmp _ _ rfl, trivial⟩, rfl⟩, trivial⟩
     ·have h := Al c18 h
      refine Ar (Ab (Ab (Aa Ac rfl (qf FO rfl (ql Js rfl (AR F3 rfl (qm rfl (Ad ?_))))))))
      refine AJ (L := CG N p1) h (fun v19 => mk [(3, .e (.one (.ptr 3 0))), (73, .e (.one (.pure (.val (.int .i64 ((p1.fRewrite.length : Int))))))), (74, .e (.one (.pure (.val (.int .i64 v19)))))] [(3, .box [.pure (.val (.int .i64 p1.fKind)), .pure (.val (.int .i64 p1.fFrom)), .pure (.val (.int .i64 p1.fTo)), .pure (.val (.bool p1.fAware)), .pure (.sl (p1.fOK.map (EQ eB))), .pure (.sl (p1.fRewrite.map (EQ eB)))])]) (fun v20 => mk [] []) (fun _ _ => rfl) (sm [] _ _ rfl rfl) (fun j19 n19 v19 h => ?_) (fun v20 s h hs => ?_)
      ·unfold CG at h
       refine Ab (Aa Ac rfl (AY rfl (Ad (Ab ?_))))
       refine Ao rfl (fun c21 => ?_) (fun c21 => ?_)
       ·have h := Am c21 h
        refine Ar (Ab (AN (Ab (Aa Ac rfl (qm rfl (qa rfl (Ad (Ab (Aa Ac rfl (qf FO rfl (ql Js rfl (qm rfl ?_))))))))))))
        obtain ⟨v22, a22, b22, h⟩ := Aj h
        refine qi F3 Ji a22 (Ag b22) rfl (qk Li rfl (qm rfl ?_))
        obtain ⟨v23, a23, b23, h⟩ := Aj h
        refine qi EO Oj a23 (Ag b23) rfl (qk QE rfl (Cu rfl (Ad ?_)))
        refine Ao rfl (fun c24 => ?_) (fun c24 => ?_)
        ·have h := Am c24 h
         refine Ab (Aa Ac rfl (qa rfl (Ad ?_)))
         obtain rfl := sj h
         refine Ak (sm [] [(4, .e (.one (.pure (.val (.int .i64 1)))))] [] rfl rfl) (Ax ?_)
         exact ⟨⟨[_], ⟨.tmp _ _ rfl, trivial⟩, rfl⟩, trivial⟩
        ·have h := Al c24 h
         refine Ar (Aa Ac rfl (AU rfl (qm rfl (Ad ?_))))
         exact Au _ h (sm [] _ _ rfl rfl)
       ·have h := Al c21 h
        refine AW ?_
        exact Au _ h (sm [] _ _ rfl rfl)
      ·refine Ak hs (Ab (Aa Ac rfl (qa rfl (Ad ?_))))
       obtain rfl := sj h
       refine Ak (sm [] [(4, .e (.one (.pure (.val (.int .i64 0)))))] [] rfl rfl) (Ax ?_)
       exact ⟨⟨[_], ⟨.tmp _ _ rfl, trivial⟩, rfl⟩, trivial⟩
set_option maxRecDepth 10000 in
theorem GS (N : Nat) (p0 : Ah) (r : Int) (h : C0 N p0 = some r) : Az Tryz.prog 75 [.e (.agg [.pure (.sl (p0.fVersions.map Ai)), .pure (.sl (p0.fNow.map Ai)), .pure (.sl (p0.fTarget.map Ai)), .pure (.sl (p0.fTables.map Aq))])] [] (.e (.one (.pure (.val (.int .i64 r))))) := by
 unfold C0 at h
 refine As (n := 81) (rs := [.tmp 2]) Tryz.func75 rfl rfl rfl (A1 rfl) (A1 rfl) rfl fun w0 S0 => ?_
 refine Ab (Aa Ac rfl (qb rfl (qa rfl (Ad (Ab (Aa Ac rfl (qf Bs rfl (ql Bc rfl (AR AE rfl (qa rfl (Ad (Ab ?_))))))))))))
 refine AP h (fun v1 => mk [(1, .e (.one (.ptr 1 0))), (3, .e (.one (.pure (.val (.int .i64 ((p0.fVersions.length : Int))))))), (19, .e (.one (.pure (.val (.bool v1)))))] [(1, .box [.pure (.sl (p0.fVersions.map Ai)), .pure (.sl (p0.fNow.map Ai)), .pure (.sl (p0.fTarget.map Ai)), .pure (.sl (p0.fTables.map Aq))])]) (fun j1 h => ?_) (fun v1 h => ?_)
 ·refine Aa Ac rfl (qm rfl (Ew rfl (qm rfl ?_)))
  refine AB (t := 14) rfl (fun c2 => ?_) (fun c2 => ?_)
  ·have h := Am c2 h
   refine qn rfl (qn rfl (qn rfl (qn rfl (qp rfl (Ad ?_)))))
   exact Au _ h (sm [] _ _ rfl rfl)
  ·have h := Al c2 h
   refine qf CO rfl (ql GV rfl (AR DR rfl (Ew rfl (qp rfl (Ad ?_)))))
   exact Au _ h (sm [] _ _ rfl rfl)
 ·refine Ao rfl (fun c3 => ?_) (fun c3 => ?_)
  ·have h := Am c3 h
   refine Ab (Aa Ac rfl (qa rfl (Ad ?_)))
   obtain rfl := sj h
   refine Ak (sm [] [(2, .e (.one (.pure (.val (.int .i64 3)))))] [] rfl rfl) (Ax ?_)
   exact ⟨⟨[_], ⟨.tmp _ _ rfl, trivial⟩, rfl⟩, trivial⟩
  ·have h := Al c3 h
   refine Ar (Ab ?_)
   refine AP h (fun v4 => mk [(1, .e (.one (.ptr 1 0))), (31, .e (.one (.pure (.val (.bool v4)))))] [(1, .box [.pure (.sl (p0.fVersions.map Ai)), .pure (.sl (p0.fNow.map Ai)), .pure (.sl (p0.fTarget.map Ai)), .pure (.sl (p0.fTables.map Aq))])]) (fun j4 h => ?_) (fun v4 h => ?_)
   ·refine Aa Ac rfl (qf FM rfl (ql Bc rfl (AR AE rfl (qm rfl (BX rfl (qm rfl ?_))))))
    refine AB (t := 25) rfl (fun c5 => ?_) (fun c5 => ?_)
    ·have h := Am c5 h
     refine qn rfl (qn rfl (qn rfl (qn rfl (qn rfl (qp rfl (Ad ?_))))))
     exact Au _ h (sm [] _ _ rfl rfl)
    ·have h := Al c5 h
     refine qf Iu rfl (ql Bc rfl (AR AE rfl (qm rfl (BX rfl (qp rfl (Ad ?_))))))
     exact Au _ h (sm [] _ _ rfl rfl)
   ·refine Ao rfl (fun c6 => ?_) (fun c6 => ?_)
    ·have h := Am c6 h
     refine Ab (Aa Ac rfl (qa rfl (Ad ?_)))
     obtain rfl := sj h
     refine Ak (sm [] [(2, .e (.one (.pure (.val (.int .i64 6)))))] [] rfl rfl) (Ax ?_)
     exact ⟨⟨[_], ⟨.tmp _ _ rfl, trivial⟩, rfl⟩, trivial⟩
    ·have h := Al c6 h
     refine Ar (Ab (Ab (Aa Ac rfl (qf Bs rfl (ql Bc rfl (AR AE rfl (qm rfl (Ad ?_))))))))
     refine AJ (L := BI N p0) h (fun v7 => mk [(1, .e (.one (.ptr 1 0))), (33, .e (.one (.pure (.sl (p0.fVersions.map Ai))))), (34, .e (.one (.pure (.val (.int .i64 ((p0.fVersions.length : Int))))))), (35, .e (.one (.pure (.val (.int .i64 v7)))))] [(1, .box [.pure (.sl (p0.fVersions.map Ai)), .pure (.sl (p0.fNow.map Ai)), .pure (.sl (p0.fTarget.map Ai)), .pure (.sl (p0.fTables.map Aq))])]) (fun v8 => mk [(1, .e (.one (.ptr 1 0)))] [(1, .box [.pure (.sl (p0.fVersions.map Ai)), .pure (.sl (p0.fNow.map Ai)), .pure (.sl (p0.fTarget.map Ai)), .pure (.sl (p0.fTables.map Aq))])]) (fun _ _ => rfl) (sm [] _ _ rfl rfl) (fun j7 n7 v7 h => ?_) (fun v8 s h hs => ?_)
     ·unfold BI at h
      refine Ab (Aa Ac rfl (AY rfl (Ad (Ab ?_))))
      refine Ao rfl (fun c9 => ?_) (fun c9 => ?_)
      ·have h := Am c9 h
       refine Ar (Ab (AN (Ab (Aa Ac rfl (qm rfl ?_)))))
       obtain ⟨v10, a10, b10, h⟩ := Aj h
       refine qi AE Dm a10 (Ag b10) rfl (qk Ci rfl (qa rfl (qa rfl (Ad ?_))))
       refine AP h (fun v11 => mk [(1, .e (.one (.ptr 1 0))), (33, .e (.one (.pure (.sl (p0.fVersions.map Ai))))), (34, .e (.one (.pure (.val (.int .i64 ((p0.fVersions.length : Int))))))), (35, .e (.one (.pure (.val (.int .i64 v7))))), (65, .e (.one (.pure (.val (.bool v11)))))] [(1, .box [.pure (.sl (p0.fVersions.map Ai)), .pure (.sl (p0.fNow.map Ai)), .pure (.sl (p0.fTarget.map Ai)), .pure (.sl (p0.fTables.map Aq))])]) (fun j11 h => ?_) (fun v11 h => ?_)
       ·refine Aa Ac rfl (qm rfl (AY rfl (qm rfl ?_)))
        refine AB (t := 42) rfl (fun c12 => ?_) (fun c12 => ?_)
        ·have h := Am c12 h
         refine qn rfl (qn rfl (qp rfl (qm rfl (qn rfl (qn rfl (qn rfl (qn rfl (qn rfl (qn rfl (qn rfl (qn rfl (qp rfl (qm rfl (qn rfl (qn rfl (qn rfl (qn rfl (qn rfl (qn rfl (qn rfl (qn rfl (qp rfl (Ad ?_)))))))))))))))))))))))
         exact Au _ h (sm [] _ _ rfl rfl)
        ·have h := Al c12 h
         refine qm rfl (Ew rfl (qp rfl (qm rfl ?_)))
         refine AB (t := 46) rfl (fun c13 => ?_) (fun c13 => ?_)
         ·have h := Am c13 h
          refine qn rfl (qn rfl (qn rfl (qn rfl (qn rfl (qn rfl (qn rfl (qn rfl (qp rfl (qm rfl (qn rfl (qn rfl (qn rfl (qn rfl (qn rfl (qn rfl (qn rfl (qn rfl (qp rfl (Ad ?_)))))))))))))))))))
          exact Au _ h (sm [] _ _ rfl rfl)
         ·have h := Al c13 h
          refine qf FM rfl (ql Bc rfl (qm rfl ?_))
          obtain ⟨v14, a14, b14, h⟩ := Aj h
          refine qi AE Dm a14 (Ag b14) rfl (qk Ci rfl (qm rfl ?_))
          obtain ⟨v15, a15, h⟩ := bind_some h
          refine AD [] (Gk N v14 v10 v15 a15) OX rfl (Cu rfl (qp rfl (qm rfl ?_)))
          refine AB (t := 56) rfl (fun c16 => ?_) (fun c16 => ?_)
          ·have h := Am c16 h
           refine qn rfl (qn rfl (qn rfl (qn rfl (qn rfl (qn rfl (qn rfl (qn rfl (qp rfl (Ad ?_)))))))))
           exact Au _ h (sm [] _ _ rfl rfl)
          ·have h := Al c16 h
           refine qf Iu rfl (ql Bc rfl (qm rfl ?_))
           obtain ⟨v17, a17, b17, h⟩ := Aj h
           refine qi AE Dm a17 (Ag b17) rfl (qk Ci rfl (qm rfl ?_))
           obtain ⟨v18, a18, h⟩ := bind_some h
           refine AD [] (Gk N v17 v10 v18 a18) OX rfl (Cu rfl (qp rfl (Ad ?_)))
           exact Au _ h (sm [] _ _ rfl rfl)
       ·refine Ao rfl (fun c19 => ?_) (fun c19 => ?_)
        ·have h := Am c19 h
         refine Ab (Aa Ac rfl (qa rfl (Ad ?_)))
         obtain rfl := sj h
         refine Ak (sm [] [(2, .e (.one (.pure (.val (.int .i64 7)))))] [] rfl rfl) (Ax ?_)
         exact ⟨⟨[_], ⟨.tmp _ _ rfl, trivial⟩, rfl⟩, trivial⟩
        ·have h := Al c19 h
         refine Ar (Aa Ac rfl (AU rfl (qm rfl (Ad ?_))))
         exact Au _ h (sm [] _ _ rfl rfl)
      ·have h := Al c9 h
       refine AW ?_
       exact Au _ h (sm [] _ _ rfl rfl)
     ·refine Ak hs (Ab (Ab (Aa Ac rfl (qf CO rfl (ql GV rfl (AR DR rfl (qm rfl (Ad ?_))))))))
      refine AJ (L := Bw N p0) h (fun v20 => mk [(1, .e (.one (.ptr 1 0))), (68, .e (.one (.pure (.sl (p0.fTables.map Aq))))), (69, .e (.one (.pure (.val (.int .i64 ((p0.fTables.length : Int))))))), (70, .e (.one (.pure (.val (.int .i64 v20)))))] [(1, .box [.pure (.sl (p0.fVersions.map Ai)), .pure (.sl (p0.fNow.map Ai)), .pure (.sl (p0.fTarget.map Ai)), .pure (.sl (p0.fTables.map Aq))])]) (fun v21 => mk [] []) (fun _ _ => rfl) (sm [] _ _ rfl rfl) (fun j20 n20 v20 h => ?_) (fun v21 s h hs => ?_)
      ·unfold Bw at h
       refine Ab (Aa Ac rfl (AY rfl (Ad (Ab ?_))))
       refine Ao rfl (fun c22 => ?_) (fun c22 => ?_)
       ·have h := Am c22 h
        refine Ar (Ab (AN (Ab (Aa Ac rfl ?_))))
        obtain ⟨v23, a23, b23, h⟩ := Aj h
        refine qi DR DP a23 (Ag b23) rfl (qK GT DP rfl (qz JA rfl (qs DP rfl (Ad (Ab (Aa Ac rfl (qL DY DI rfl (qL GT DP rfl ?_))))))))
        obtain ⟨v24, a24, h⟩ := bind_some h
        refine AD [] (L4 N p0 v23 v24 a24) S3 rfl (qa rfl (Ad (Ab (Aa Ac rfl (qm rfl (BX rfl (Ad ?_)))))))
        refine Ao rfl (fun c25 => ?_) (fun c25 => ?_)
        ·have h := Am c25 h
         refine Ab (Aa Ac rfl (qm rfl (qa rfl (Ad ?_))))
         obtain rfl := sj h
         refine Ak (sm [] [(2, .e (.one (.pure (.val (.int .i64 v24)))))] [] rfl rfl) (Ax ?_)
         exact ⟨⟨[_], ⟨.tmp _ _ rfl, trivial⟩, rfl⟩, trivial⟩
        ·have h := Al c25 h
         refine Ar (Aa Ac rfl (AU rfl (qm rfl (Ad ?_))))
         exact Au _ h (sm [] _ _ rfl rfl)
       ·have h := Al c22 h
        refine AW ?_
        exact Au _ h (sm [] _ _ rfl rfl)
      ·refine Ak hs (Ab (Aa Ac rfl (qa rfl (Ad ?_))))
       obtain rfl := sj h
       refine Ak (sm [] [(2, .e (.one (.pure (.val (.int .i64 0)))))] [] rfl rfl) (Ax ?_)
       exact ⟨⟨[_], ⟨.tmp _ _ rfl, trivial⟩, rfl⟩, trivial⟩
set_option maxRecDepth 10000 in
theorem Dl (N : Nat) (p0 : List Int) (r : (List Int)) (h : Bu N p0 = some r) : Az Tryz.prog 58 [.e (.one (.pure (.sl (p0.map Ai))))] [(1, r.map Ai)] (.e (.one (.own 0))) := by
 unfold Bu at h
 refine As (n := 8) (rs := [.tmp 2]) Tryz.func58 rfl rfl rfl (A1 rfl) (A1 rfl) rfl fun w0 S0 => ?_
 refine Ab (Aa Ac rfl (qa rfl (Ad (Ab (Ab (Aa Ac rfl (qm rfl ?_)))))))
 refine M5 (.p rfl) rfl AE ?_
 refine Ad ?_
 refine MP rfl (fun c2 => ?_) ?_
 ·have c2 := List.map_eq_nil_iff.1 c2
  rw [c2] at h
  have h : (some (([] : List Int))) = some r := h
  refine Ab (Aa Ac rfl (qa rfl (Ad ?_)))
  obtain rfl := sj h
  refine Ak ((Bo 2 2001 1 rfl rfl rfl).trans (sm [(1000, 2001)] [(2, .e (.one (.own 1000)))] [(1000, .vec 1 ((([] : List Int)).map Ai))] rfl rfl)) (Ax ?_)
  exact ⟨⟨[_], ⟨.tmp _ _ rfl, trivial⟩, rfl⟩, ⟨rfl, trivial⟩⟩
 ·refine Ar (Ab (Aa Ac rfl (D4 AE Dm Kj rfl (qm rfl ?_))))
  obtain ⟨c1, h⟩ := AK h
  refine Kk (f := Ai) AE AE Dm Lg Kj (fun _ => rfl) c1 rfl (qa rfl (Ad ?_))
  obtain rfl := sj h
  refine Ak (sm [(1000, 7)] [(2, .e (.one (.own 1000)))] [(1000, .vec 1 (((([] : List Int)) ++ p0).map Ai))] rfl rfl) (Ax ?_)
  exact ⟨⟨[_], ⟨.tmp _ _ rfl, trivial⟩, rfl⟩, ⟨rfl, trivial⟩⟩
set_option maxRecDepth 10000 in
theorem Kb (N : Nat) (p0 : Int) (p1 : Int) (r : Int × Int) (h : FT N p0 p1 = some r) : Az Tryz.prog 117 [.e (.one (.pure (.val (.int .u32 p0)))), .e (.one (.pure (.val (.int .u32 p1))))] [] (.tup [.one (.pure (.val (.int .u32 r.1))), .one (.pure (.val (.int .u32 r.2)))]) := by
 unfold FT at h
 refine As (n := 17) (rs := [.tmp 4, .tmp 5]) Tryz.func117 rfl rfl rfl (A1 rfl) (A1 rfl) rfl fun w0 S0 => ?_
 refine Ab (Aa Ac rfl (qa rfl (qa rfl (Ad (Ab (Aa Ac rfl (qm rfl (F8 NV RY rfl (qm rfl (F8 NV RY rfl (HH rfl (qa rfl (Ad (Ab (Aa Ac rfl (qm rfl (Gz rfl (by decide) (F8 Qa N0 rfl (qm rfl (F8 Qa N0 rfl (qa rfl (qa rfl (Ad ?_)))))))))))))))))))))))
 obtain rfl := sj h
 refine Ak (sm [] [(4, .e (.one (.pure (.val (.int .u32 ((IntKind.wrap .u32 ((D0 .u64 ((IntKind.wrap .u64 ((IntKind.wrap .u64 p0) * (IntKind.wrap .u64 p1)))) 32))))))))), (5, .e (.one (.pure (.val (.int .u32 ((IntKind.wrap .u32 ((IntKind.wrap .u64 ((IntKind.wrap .u64 p0) * (IntKind.wrap .u64 p1)))))))))))] [] rfl rfl) (Ax ?_)
 exact ⟨⟨[_, _], ⟨.tmp _ _ rfl, ⟨.tmp _ _ rfl, trivial⟩⟩, rfl⟩, trivial⟩
set_option maxRecDepth 10000 in
theorem J0 (N : Nat) (p0 : Int) (p1 : Int) (r : Int × Int) (h : FY N p0 p1 = some r) : Az Tryz.prog 118 [.e (.one (.pure (.val (.int .u64 p0)))), .e (.one (.pure (.val (.int .u64 p1))))] [] (.tup [.one (.pure (.val (.int .u64 r.1))), .one (.pure (.val (.int .u64 r.2)))]) := by
 unfold FY at h
 refine As (n := 51) (rs := [.tmp 4, .tmp 5]) Tryz.func118 rfl rfl rfl (A1 rfl) (A1 rfl) rfl fun w0 S0 => ?_
 refine Ab (Aa Ac rfl (qa rfl (qa rfl (Ad (Ab (Aa Ac rfl (qm rfl (J1 rfl (qa rfl (Ad (Ab (Aa Ac rfl (qm rfl (Gz rfl (by decide) (qa rfl (Ad (Ab (Aa Ac rfl (qm rfl (J1 rfl (qa rfl (Ad (Ab (Aa Ac rfl (qm rfl (Gz rfl (by decide) (qa rfl (Ad (Ab (Aa Ac rfl (qm rfl (qm rfl (HH rfl (qa rfl (Ad (Ab (Aa Ac rfl (qm rfl (qm rfl ?_)))))))))))))))))))))))))))))))))))))))
 refine HH rfl (qm rfl (Gz rfl (by decide) (AU rfl (qa rfl (Ad (Ab (Aa Ac rfl (qm rfl (J1 rfl (qa rfl (Ad (Ab (Aa Ac rfl (qm rfl (Gz rfl (by decide) (qa rfl (Ad (Ab (Aa Ac rfl (qm rfl (qm rfl (qm rfl (HH rfl (AU rfl (qa rfl (Ad (Ab (Aa Ac rfl (qm rfl (qm rfl (HH rfl (qm rfl (AU rfl (qm rfl (Gz rfl (by decide) (AU rfl (qa rfl (Ad (Ab ?_)))))))))))))))))))))))))))))))))))))))
 refine Aa Ac rfl (qm rfl (qm rfl (HH rfl (qa rfl (Ad ?_)))))
 obtain rfl := sj h
 refine Ak (sm [] [(4, .e (.one (.pure (.val (.int .u64 ((IntKind.wrap .u64 ((IntKind.wrap .u64 ((IntKind.wrap .u64 ((D0 .u64 p0 32) * (D0 .u64 p1 32))) + (D0 .u64 ((IntKind.wrap .u64 ((IntKind.wrap .u64 ((D0 .u64 p0 32) * (Fm .u64 p1 4294967295))) + (D0 .u64 ((IntKind.wrap .u64 ((Fm .u64 p0 4294967295) * (Fm .u64 p1 4294967295)))) 32)))) 32))) + (D0 .u64 ((IntKind.wrap .u64 ((Fm .u64 ((IntKind.wrap .u64 ((IntKind.wrap .u64 ((D0 .u64 p0 32) * (Fm .u64 p1 4294967295))) + (D0 .u64 ((IntKind.wrap .u64 ((Fm .u64 p0 4294967295) * (Fm .u64 p1 4294967295)))) 32)))) 4294967295) + (IntKind.wrap .u64 ((Fm .u64 p0 4294967295) * (D0 .u64 p1 32)))))) 32))))))))), (5, .e (.one (.pure (.val (.int .u64 ((IntKind.wrap .u64 (p0 * p1))))))))] [] rfl rfl) (Ax ?_)
 exact ⟨⟨[_, _], ⟨.tmp _ _ rfl, ⟨.tmp _ _ rfl, trivial⟩⟩, rfl⟩, trivial⟩
set_option maxRecDepth 10000 in
theorem KY (N : Nat) (p0 : Int) (p1 : Int) (r : Int × Int) (h : GH N p0 p1 = some r) : Az Tryz.prog 102 [.e (.one (.pure (.val (.int .u64 p0)))), .e (.one (.pure (.val (.int .u64 p1))))] [] (.tup [.one (.pure (.val (.int .u64 r.1))), .one (.pure (.val (.int .u64 r.2)))]) := by
 unfold GH at h
 refine As (n := 30) (rs := [.tmp 4, .tmp 5]) Tryz.func102 rfl rfl rfl (A1 rfl) (A1 rfl) rfl fun w0 S0 => ?_
 refine Ab (Aa Ac rfl (qa rfl (qa rfl (Ad (Ab ?_)))))
 refine Ao rfl (fun c1 => ?_) (fun c1 => ?_)
 ·have h := Am c1 h
  refine Ab (Aa Ac rfl (qm rfl (F8 NY N0 rfl (qm rfl (F8 NY N0 rfl ?_)))))
  obtain ⟨v2, a2, h⟩ := bind_some h
  refine AD [] (Kb N ((IntKind.wrap .u32 p0)) ((IntKind.wrap .u32 p1)) v2 a2) S1 rfl (qm rfl (qx rfl (qx rfl (qa rfl (qa rfl (Ad (Ab (Aa Ac rfl (qm rfl (F8 NV Me rfl (qm rfl (F8 NV Me rfl (qa rfl (qa rfl (Ad ?_)))))))))))))))
  obtain rfl := sj h
  refine Ak (sm [] [(4, .e (.one (.pure (.val (.int .u64 ((IntKind.wrap .u64 v2.1))))))), (5, .e (.one (.pure (.val (.int .u64 ((IntKind.wrap .u64 v2.2)))))))] [] rfl rfl) (Ax ?_)
  exact ⟨⟨[_, _], ⟨.tmp _ _ rfl, ⟨.tmp _ _ rfl, trivial⟩⟩, rfl⟩, trivial⟩
 ·have h := Al c1 h
  refine Ar (Ab (Aa Ac rfl (qm rfl (qm rfl ?_))))
  obtain ⟨v3, a3, h⟩ := bind_some h
  refine AD [] (J0 N p0 p1 v3 a3) Ti rfl (qm rfl (qx rfl (qx rfl (qa rfl (qa rfl (Ad (Ab (Aa Ac rfl (qm rfl (qm rfl (qa rfl (qa rfl (Ad ?_)))))))))))))
  obtain rfl := sj h
  refine Ak (sm [] [(4, .e (.one (.pure (.val (.int .u64 v3.1))))), (5, .e (.one (.pure (.val (.int .u64 v3.2)))))] [] rfl rfl) (Ax ?_)
  exact ⟨⟨[_, _], ⟨.tmp _ _ rfl, ⟨.tmp _ _ rfl, trivial⟩⟩, rfl⟩, trivial⟩
set_option maxRecDepth 10000 in
theorem Ig (N : Nat) (p0 : List Int) (p1 : Int) (r : (List Int)) (h : DE N p0 p1 = some r) : Az Tryz.prog 76 [.e (.one (.pure (.sl (p0.map Ai)))), .e (.one (.pure (.val (.int .i64 p1))))] [(1, r.map Ai)] (.e (.one (.own 0))) := by
 unfold DE at h
 refine As (n := 48) (rs := [.tmp 4]) Tryz.func76 rfl rfl rfl (A1 rfl) (A1 rfl) rfl fun w0 S0 => ?_
 refine Ab (Aa Ac rfl (qa rfl (Ad ?_)))
 refine AP h (fun v1 => mk [(0, .e (.one (.pure (.sl (p0.map Ai))))), (1, .e (.one (.pure (.val (.int .i64 p1)))))] []) (fun j1 h => ?_) (fun v1 h => ?_)
 ·refine Ab (Aa Ac rfl (qm rfl (AY rfl (Ad ?_))))
  refine Ao rfl (fun c2 => ?_) (fun c2 => ?_)
  ·have h := Am c2 h
   refine Aa Ac rfl ?_
   cases h
  ·have h := Al c2 h
   refine Ar ?_
   exact Au _ h (sm [] _ _ rfl rfl)
 ·refine Ab (Aa Ac rfl (qm rfl (AR AE rfl (F8 Su Me rfl (qm rfl (F8 Su Me rfl ?_))))))
  obtain ⟨v3, a3, h⟩ := bind_some h
  refine AD [] (KY N ((IntKind.wrap .u64 ((p0.length : Int)))) ((IntKind.wrap .u64 p1)) v3 a3) S9 rfl (qm rfl (qx rfl (qx rfl (qa rfl (qa rfl (Ad ?_))))))
  refine AP h (fun v4 => mk [(0, .e (.one (.pure (.sl (p0.map Ai))))), (6, .e (.one (.pure (.val (.int .u64 v3.2)))))] []) (fun j4 h => ?_) (fun v4 h => ?_)
  ·refine AP h (fun v5 => mk [(0, .e (.one (.pure (.sl (p0.map Ai))))), (6, .e (.one (.pure (.val (.int .u64 v3.2))))), (26, .e (.one (.pure (.val (.bool v5)))))] []) (fun j5 h => ?_) (fun v5 h => ?_)
   ·refine Aa Ac rfl (qm rfl (Ew rfl (qm rfl ?_)))
    refine AB (t := 23) rfl (fun c6 => ?_) (fun c6 => ?_)
    ·have h := Am c6 h
     refine qn rfl (qn rfl (qp rfl (Ad ?_)))
     exact Au _ h (sm [] _ _ rfl rfl)
    ·have h := Al c6 h
     refine qm rfl (Ew rfl (qp rfl (Ad ?_)))
     exact Au _ h (sm [] _ _ rfl rfl)
   ·refine Ao rfl (fun c7 => ?_) (fun c7 => ?_)
    ·have h := Am c7 h
     refine Aa Ac rfl ?_
     cases h
    ·have h := Al c7 h
     refine Ar ?_
     exact Au _ h (sm [] _ _ rfl rfl)
  ·refine Ab (Aa Ac rfl (qm rfl (F8 NY Pu rfl ?_)))
   obtain ⟨c8, h⟩ := AK h
   refine KA (.p rfl) rfl rfl rfl AE Dm Lg (A1 rfl) Kj rfl rfl rfl c8.1 c8.2.1 c8.2.2 (OV Ai _ ((0 : Int))) ?_
   refine qa rfl (Ad (Ab (Aa Ac rfl (qm rfl (qm rfl ?_)))))
   refine O1 Ai (List.replicate ((IntKind.wrap .i64 v3.2)).toNat ((0 : Int))) p0 (.p rfl) rfl (GU Ai _ _ (List.replicate ((IntKind.wrap .i64 v3.2)).toNat ((0 : Int)))) rfl rfl (Rq Ai _ _ (fun _ => rfl)) trivial AE Dm ?_
   refine qa rfl (Ad (Ab ?_))
   refine AJ (L := Dg N) h (fun v9 => mk [(7, .e (.one (.own 2001))), (8, .e (.one (.pure (.val (.int .i64 v9.2)))))] [(2001, .vec 1 (v9.1.map Ai))]) (fun v10 => mk [(7, .e (.one (.own 2002)))] [(2002, .vec 1 (v10.map Ai))]) (fun _ _ => rfl) (sm [(2001, 30)] _ _ rfl rfl) (fun j9 n9 v9 h => ?_) (fun v10 s h hs => ?_)
   ·unfold Dg at h
    refine Ab (Ab (Aa Ac rfl (qm rfl (qm rfl (DZ AE rfl (AY rfl (Ad ?_)))))))
    refine Ao rfl (fun c11 => ?_) (fun c11 => ?_)
    ·have h := Am c11 h
     refine Ar (AN (Aa Ac rfl (qm rfl (qm rfl (qm rfl ?_)))))
     obtain ⟨c12, h⟩ := AK h
     have w13 : ((v9.2).toNat) + ((v9.1.length - (v9.2).toNat)) ≤ v9.1.length := by have := c12.2.1; have := c12.2.2; omega
     refine Hx Ai v9.1 (.p rfl) rfl (GU Ai _ _ v9.1) rfl AE Dm (.some _ _ _ _ c12.1) (.none _) ⟨rfl, trivial⟩ trivial c12.2.1 (by rw [Nat.zero_add]; exact c12.2.2) (Nat.zero_add _) rfl ?_
     refine qm rfl (qm rfl ?_)
     obtain ⟨c14, h⟩ := AK h
     have w15 : 0 + ((v9.2).toNat) ≤ v9.1.length := by have := c14.2.1; have := c14.2.2; omega
     refine Hx Ai v9.1 (.p rfl) rfl (GU Ai _ _ v9.1) rfl AE Dm (.none _) (.some _ _ _ _ c14.1) trivial ⟨rfl, trivial⟩ c14.2.1 (by rw [Nat.zero_add]; exact c14.2.2) (Nat.zero_add _) rfl ?_
     refine O1 Ai v9.1 (((v9.1.drop 0).take ((v9.2).toNat))) (.p rfl) rfl (Ks Ai _ _ ((v9.2).toNat) ((v9.1.length - (v9.2).toNat)) v9.1 w13) rfl rfl (O8 Ai _ _ 0 ((v9.2).toNat) v9.1 w15) ⟨rfl, trivial⟩ AE Dm ?_
     refine AU rfl (qa rfl (AI (by kernel_rfl) ?_))
     exact Au _ h (sm [] _ _ rfl rfl)
    ·have h := Al c11 h
     refine AW ?_
     exact Au _ h (sm [(2002, 2001)] _ _ rfl rfl)
   ·refine Ak hs (Ab (Aa Ac rfl (qm rfl (qa rfl (Ad ?_)))))
    obtain rfl := sj h
    refine Ak (sm [(1000, 2002)] [(4, .e (.one (.own 1000)))] [(1000, .vec 1 (v10.map Ai))] rfl rfl) (Ax ?_)
    exact ⟨⟨[_], ⟨.tmp _ _ rfl, trivial⟩, rfl⟩, ⟨rfl, trivial⟩⟩
set_option maxRecDepth 10000 in
theorem Ix (N : Nat) (p0 : AH) (r : Bool) (h : Eq N p0 = some r) : Az Tryz.prog 77 [.e (.agg [.pure (.val (.int .i64 p0.fKind)), .pure (.val (.int .i64 p0.fFrom)), .pure (.val (.int .i64 p0.fTo)), .pure (.val (.bool p0.fAware)), .pure (.sl (p0.fOK.map (EQ eB))), .pure (.sl (p0.fRewrite.map (EQ eB)))])] [] (.e (.one (.pure (.val (.bool r))))) := by
 unfold Eq at h
 refine As (n := 11) (rs := [.tmp 2]) Tryz.func77 rfl rfl rfl (A1 rfl) (A1 rfl) rfl fun w0 S0 => ?_
 refine Ab (Aa Ac rfl (qb rfl (qa rfl (Ad ?_))))
 refine AP h (fun v1 => mk [(2, .e (.one (.pure (.val (.bool v1)))))] []) (fun j1 h => ?_) (fun v1 h => ?_)
 ·refine Aa Ac rfl (qf E3 rfl (ql Ci rfl (BA rfl (qm rfl ?_))))
  refine AB (t := 6) rfl (fun c2 => ?_) (fun c2 => ?_)
  ·have h := Am c2 h
   refine qn rfl (qn rfl (qn rfl (qp rfl (qa rfl (Ad ?_)))))
   exact Au _ h (sm [] _ _ rfl rfl)
  ·have h := Al c2 h
   refine qf E3 rfl (ql Ci rfl (BA rfl (qp rfl (qa rfl (Ad ?_)))))
   exact Au _ h (sm [] _ _ rfl rfl)
 ·obtain rfl := sj h
  refine Ak (sm [] [(2, .e (.one (.pure (.val (.bool v1)))))] [] rfl rfl) (Ax ?_)
  exact ⟨⟨[_], ⟨.tmp _ _ rfl, trivial⟩, rfl⟩, trivial⟩
set_option maxRecDepth 10000 in
theorem KI (N : Nat) (p0 : Ah) (r : Ae × Int) (h : Fl N p0 = some r) : Az Tryz.prog 55 [.e (.agg [.pure (.sl (p0.fVersions.map Ai)), .pure (.sl (p0.fNow.map Ai)), .pure (.sl (p0.fTarget.map Ai)), .pure (.sl (p0.fTables.map Aq))])] [(1, r.1.fBase.map Ai), (1, r.1.fNext.map Ai), (1, r.1.fHeld.map Bk)] (.tup [.agg [.own 0, .own 1, .own 2], .one (.pure (.val (.int .i64 r.2)))]) := by
 unfold Fl at h
 refine As (n := 50) (rs := [.cell 2 50, .tmp 3]) Tryz.func55 rfl rfl rfl (A1 rfl) (A1 rfl) rfl fun w0 S0 => ?_
 refine Ab (Aa Ac rfl (qb rfl (qz Ct rfl (qa rfl (Ad (Ab (Ab (Aa Ac rfl (qL DY DI rfl ?_)))))))))
 obtain ⟨v1, a1, h⟩ := bind_some h
 refine AD [] (GS N p0 v1 a1) Tr rfl (qa rfl (Ad (Ab (Aa Ac rfl (qm rfl (BX rfl (Ad ?_)))))))
 refine Ao rfl (fun c2 => ?_) (fun c2 => ?_)
 ·have h := Am c2 h
  refine Ab (Aa Ac rfl (BE Ct GE rfl (qm rfl (qs Av rfl (qa rfl (Ad ?_))))))
  obtain rfl := sj h
  refine Ak ((AA 2 0 2001 1 _ rfl rfl rfl rfl).trans ((AA 2 1 2002 1 _ rfl rfl rfl rfl).trans ((AA 2 2 2003 1 _ rfl rfl rfl rfl).trans (sm [(1000, 2001), (1001, 2002), (1002, 2003)] [(2, .e (.one (.ptr 2 0))), (3, .e (.one (.pure (.val (.int .i64 v1)))))] [(2, .box [.own 1000, .own 1001, .own 1002]), (1000, .vec 1 ((([] : List Int)).map Ai)), (1001, .vec 1 ((([] : List Int)).map Ai)), (1002, .vec 1 ((([] : List Int)).map Bk))] rfl rfl)))) (Ax ?_)
  exact ⟨⟨[_, _], ⟨.cellN _ _ _ _ _ _ _ rfl rfl AV Av rfl rfl (HC rfl), ⟨.tmp _ _ rfl, trivial⟩⟩, rfl⟩, ⟨rfl, rfl, rfl, trivial⟩⟩
 ·have h := Al c2 h
  refine Ar (Ab (Aa Ac rfl (qf FM rfl (ql Bc rfl ?_))))
  obtain ⟨v3, a3, h⟩ := bind_some h
  refine AD [2004] (Dl N p0.fNow v3 a3) Qk rfl (D4 AE Dm Kj rfl (qf FM rfl (ql Bc rfl (AR AE rfl ?_))))
  obtain ⟨v4, a4, h⟩ := bind_some h
  refine GN [2005] [17] (Ig N (([(-1)] : List Int)) ((p0.fNow.length : Int)) v4 a4) Uv (LL (fun _ => rfl) EY) rfl (qf CO rfl (ql GV rfl (AR DR rfl ?_)))
  obtain ⟨c5, h⟩ := AK h
  refine KA (.p rfl) rfl rfl rfl C5 Fa OY (A1 rfl) Ol rfl rfl rfl c5.1 c5.2.1 c5.2.2 (OV Bk _ ((0 : Int))) ?_
  refine BE Ct GE rfl (qz Ct rfl (qs Av rfl (AI (by kernel_rfl) (Ab (Ab (Aa Ac rfl (qf CO rfl (ql GV rfl (AR DR rfl (qm rfl (Ad ?_)))))))))))
  refine AJ (L := Dt N p0) h (fun v6 => mk [(1, .e (.one (.ptr 1 0))), (2, .e (.one (.ptr 2 0))), (5, .e (.one (.ptr 5 0))), (28, .e (.one (.pure (.sl (p0.fTables.map Aq))))), (29, .e (.one (.pure (.val (.int .i64 ((p0.fTables.length : Int))))))), (30, .e (.one (.pure (.val (.int .i64 v6.2)))))] [(1, .box [.pure (.sl (p0.fVersions.map Ai)), .pure (.sl (p0.fNow.map Ai)), .pure (.sl (p0.fTarget.map Ai)), .pure (.sl (p0.fTables.map Aq))]), (2, .box [.pure (.nil0), .pure (.nil0), .pure (.nil0)]), (5, .box [.own 2006, .own 2007, .own 2008]), (2006, .vec 1 (v3.map Ai)), (2007, .vec 1 (v4.map Ai)), (2008, .vec 1 (v6.1.map Bk))]) (fun v7 => mk [(2, .e (.one (.ptr 2 0))), (5, .e (.one (.ptr 5 0)))] [(2, .box [.pure (.nil0), .pure (.nil0), .pure (.nil0)]), (5, .box [.own 2009, .own 2010, .own 2011]), (2009, .vec 1 (v3.map Ai)), (2010, .vec 1 (v4.map Ai)), (2011, .vec 1 (v7.map Bk))]) (fun _ _ => rfl) (sm [(2006, 2004), (2007, 2005), (2008, 25)] _ _ rfl rfl) (fun j6 n6 v6 h => ?_) (fun v7 s h hs => ?_)
  ·unfold Dt at h
   refine Ab (Aa Ac rfl (AY rfl (Ad (Ab ?_))))
   refine Ao rfl (fun c8 => ?_) (fun c8 => ?_)
   ·have h := Am c8 h
    refine Ar ?_
    refine AP h (fun v9 => mk [(1, .e (.one (.ptr 1 0))), (2, .e (.one (.ptr 2 0))), (5, .e (.one (.ptr 5 0))), (28, .e (.one (.pure (.sl (p0.fTables.map Aq))))), (29, .e (.one (.pure (.val (.int .i64 ((p0.fTables.length : Int))))))), (30, .e (.one (.pure (.val (.int .i64 v6.2)))))] [(1, .box [.pure (.sl (p0.fVersions.map Ai)), .pure (.sl (p0.fNow.map Ai)), .pure (.sl (p0.fTarget.map Ai)), .pure (.sl (p0.fTables.map Aq))]), (2, .box [.pure (.nil0), .pure (.nil0), .pure (.nil0)]), (5, .box [.own 2012, .own 2013, .own 2014]), (2012, .vec 1 (v3.map Ai)), (2013, .vec 1 (v4.map Ai)), (2014, .vec 1 (v9.map Bk))]) (fun j9 h => ?_) (fun v9 h => ?_)
    ·refine AN (Ab (Aa Ac rfl (qm rfl ?_)))
     obtain ⟨v10, a10, b10, h⟩ := Aj h
     refine qi DR DP a10 (Ag b10) rfl (qK GT DP rfl (qz JA rfl (qa rfl (qs DP rfl (Ad (Ab (Aa Ac rfl (qL GT DP rfl ?_))))))))
     obtain ⟨v11, a11, h⟩ := bind_some h
     refine AD [] (Ix N v10 v11 a11) Sp rfl (Ad ?_)
     refine Ao rfl (fun c12 => ?_) (fun c12 => ?_)
     ·have h := Am c12 h
      refine Aa Ac rfl (qf Cx rfl (ql Gq rfl (qm rfl (qf FM rfl (ql Bc rfl (qf C3 rfl (ql Ci rfl ?_)))))))
      obtain ⟨v13, a13, b13, h⟩ := Aj h
      refine qi AE Dm a13 (Ag b13) rfl (qk Ci rfl ?_)
      obtain ⟨c14, h⟩ := AK h
      refine G8 rfl c14 ?_
      obtain ⟨v15, a15, b15, h⟩ := Aj h
      refine qI C5 Fa a15 (Ag b15) rfl ?_
      refine A2 rfl rfl rfl rfl (Ag b15) rfl Fa rfl (A1 rfl) (A3 Bk v6.1 _ ((Co .u8 1 v13))) ?_
      refine AI (by kernel_rfl) ?_
      exact Au _ h (sm [(2012, 2006), (2013, 2007), (2014, 2008)] _ _ rfl rfl)
     ·have h := Al c12 h
      refine Ar ?_
      exact Au _ h (sm [(2012, 2006), (2013, 2007), (2014, 2008)] _ _ rfl rfl)
    ·refine Aa Ac rfl (AU rfl (qm rfl (Ad ?_)))
     exact Au _ h (sm [(2006, 2012), (2007, 2013), (2008, 2014)] _ _ rfl rfl)
   ·have h := Al c8 h
    refine AW ?_
    exact Au _ h (sm [(2009, 2006), (2010, 2007), (2011, 2008)] _ _ rfl rfl)
  ·refine Ak hs (Ab (Aa Ac rfl (qL AV Av rfl (qs Av rfl (qa rfl (Ad ?_))))))
   obtain rfl := sj h
   refine Ak (sm [(1000, 2009), (1001, 2010), (1002, 2011)] [(2, .e (.one (.ptr 2 0))), (3, .e (.one (.pure (.val (.int .i64 0)))))] [(2, .box [.own 1000, .own 1001, .own 1002]), (1000, .vec 1 (v3.map Ai)), (1001, .vec 1 (v4.map Ai)), (1002, .vec 1 (v7.map Bk))] rfl rfl) (Ax ?_)
   exact ⟨⟨[_, _], ⟨.cellN _ _ _ _ _ _ _ rfl rfl AV Av rfl rfl (HC rfl), ⟨.tmp _ _ rfl, trivial⟩⟩, rfl⟩, ⟨rfl, rfl, rfl, trivial⟩⟩
set_option maxRecDepth 10000 in
theorem HY (N : Nat) (p0 : Ae) (p1 : Int) (r : Int) (h : D6 N p0 p1 = some r) : Az Tryz.prog 80 [.e (.agg [.pure (.sl (p0.fBase.map Ai)), .pure (.sl (p0.fNext.map Ai)), .pure (.sl (p0.fHeld.map Bk))]), .e (.one (.pure (.val (.int .i64 p1))))] [] (.e (.one (.pure (.val (.int .u8 r))))) := by
 unfold D6 at h
 refine As (n := 27) (rs := [.tmp 4]) Tryz.func80 rfl rfl rfl (A1 rfl) (A1 rfl) rfl fun w0 S0 => ?_
 refine Ab (Aa Ac rfl (qb rfl (qa rfl (Ad (Ab (Aa Ac rfl (qf CB rfl (ql Bc rfl (qm rfl ?_)))))))))
 obtain ⟨v1, a1, b1, h⟩ := Aj h
 refine qi AE Dm a1 (Ag b1) rfl (qk Ci rfl ?_)
 obtain ⟨c2, h⟩ := AK h
 refine G8 rfl c2 (qa rfl (Ad ?_))
 refine AP h (fun v3 => mk [(5, .e (.one (.pure (.val (.int .u8 v3)))))] []) (fun j3 h => ?_) (fun v3 h => ?_)
 ·refine Ab (Aa Ac rfl (qf BR rfl (ql Bc rfl (qm rfl ?_))))
  obtain ⟨v4, a4, b4, h⟩ := Aj h
  refine qi AE Dm a4 (Ag b4) rfl (qk Ci rfl (C6 rfl (Ad ?_)))
  refine Ao rfl (fun c5 => ?_) (fun c5 => ?_)
  ·have h := Am c5 h
   refine Aa Ac rfl (qm rfl (qf BR rfl (ql Bc rfl (qm rfl ?_))))
   obtain ⟨v6, a6, b6, h⟩ := Aj h
   refine qi AE Dm a6 (Ag b6) rfl (qk Ci rfl ?_)
   obtain ⟨c7, h⟩ := AK h
   refine G8 rfl c7 (PO rfl (qa rfl (Ad ?_)))
   exact Au _ h (sm [] _ _ rfl rfl)
  ·have h := Al c5 h
   refine Ar ?_
   exact Au _ h (sm [] _ _ rfl rfl)
 ·refine Ab (Aa Ac rfl (qm rfl (qa rfl (Ad ?_))))
  obtain rfl := sj h
  refine Ak (sm [] [(4, .e (.one (.pure (.val (.int .u8 v3)))))] [] rfl rfl) (Ax ?_)
  exact ⟨⟨[_], ⟨.tmp _ _ rfl, trivial⟩, rfl⟩, trivial⟩
set_option maxRecDepth 10000 in
theorem HL (N : Nat) (p0 : Ah) (p1 : Ae) (r : Int) (h : Ek N p0 p1 = some r) : Az Tryz.prog 57 [.e (.agg [.pure (.sl (p0.fVersions.map Ai)), .pure (.sl (p0.fNow.map Ai)), .pure (.sl (p0.fTarget.map Ai)), .pure (.sl (p0.fTables.map Aq))]), .e (.agg [.pure (.sl (p1.fBase.map Ai)), .pure (.sl (p1.fNext.map Ai)), .pure (.sl (p1.fHeld.map Bk))])] [] (.e (.one (.pure (.val (.int .i64 r))))) := by
 unfold Ek at h
 refine As (n := 135) (rs := [.tmp 4]) Tryz.func57 rfl rfl rfl (A1 rfl) (A1 rfl) rfl fun w0 S0 => ?_
 refine Ab (Aa Ac rfl (qb rfl (qb rfl (qa rfl (Ad (Ab (Ab (Aa Ac rfl (qL DY DI rfl ?_)))))))))
 obtain ⟨v1, a1, h⟩ := bind_some h
 refine AD [] (GS N p0 v1 a1) Tr rfl (qa rfl (Ad (Ab (Aa Ac rfl (qm rfl (BX rfl (Ad ?_)))))))
 refine Ao rfl (fun c2 => ?_) (fun c2 => ?_)
 ·have h := Am c2 h
  refine Ab (Aa Ac rfl (qm rfl (qa rfl (Ad ?_))))
  obtain rfl := sj h
  refine Ak (sm [] [(4, .e (.one (.pure (.val (.int .i64 v1)))))] [] rfl rfl) (Ax ?_)
  exact ⟨⟨[_], ⟨.tmp _ _ rfl, trivial⟩, rfl⟩, trivial⟩
 ·have h := Al c2 h
  refine Ar (Ab ?_)
  refine AP h (fun v3 => mk [(2, .e (.one (.ptr 2 0))), (3, .e (.one (.ptr 3 0))), (41, .e (.one (.pure (.val (.bool v3)))))] [(2, .box [.pure (.sl (p0.fVersions.map Ai)), .pure (.sl (p0.fNow.map Ai)), .pure (.sl (p0.fTarget.map Ai)), .pure (.sl (p0.fTables.map Aq))]), (3, .box [.pure (.sl (p1.fBase.map Ai)), .pure (.sl (p1.fNext.map Ai)), .pure (.sl (p1.fHeld.map Bk))])]) (fun j3 h => ?_) (fun v3 h => ?_)
  ·refine Aa Ac rfl (qf CB rfl (ql Bc rfl (AR AE rfl (qf Bs rfl (ql Bc rfl (AR AE rfl (BX rfl (qm rfl ?_))))))))
   refine AB (t := 24) rfl (fun c4 => ?_) (fun c4 => ?_)
   ·have h := Am c4 h
    refine qn rfl (qn rfl (qn rfl (qn rfl (qn rfl (qn rfl (qn rfl (qp rfl (qm rfl (qn rfl (qn rfl (qn rfl (qn rfl (qn rfl (qn rfl (qn rfl (qp rfl (Ad ?_)))))))))))))))))
    exact Au _ h (sm [] _ _ rfl rfl)
   ·have h := Al c4 h
    refine qf BR rfl (ql Bc rfl (AR AE rfl (qf Bs rfl (ql Bc rfl (AR AE rfl (BX rfl (qp rfl (qm rfl ?_))))))))
    refine AB (t := 33) rfl (fun c5 => ?_) (fun c5 => ?_)
    ·have h := Am c5 h
     refine qn rfl (qn rfl (qn rfl (qn rfl (qn rfl (qn rfl (qn rfl (qp rfl (Ad ?_))))))))
     exact Au _ h (sm [] _ _ rfl rfl)
    ·have h := Al c5 h
     refine qf Cx rfl (ql Gq rfl (AR C5 rfl (qf CO rfl (ql GV rfl (AR DR rfl (BX rfl (qp rfl (Ad ?_))))))))
     exact Au _ h (sm [] _ _ rfl rfl)
  ·refine Ao rfl (fun c6 => ?_) (fun c6 => ?_)
   ·have h := Am c6 h
    refine Ab (Aa Ac rfl (qa rfl (Ad ?_)))
    obtain rfl := sj h
    refine Ak (sm [] [(4, .e (.one (.pure (.val (.int .i64 6)))))] [] rfl rfl) (Ax ?_)
    exact ⟨⟨[_], ⟨.tmp _ _ rfl, trivial⟩, rfl⟩, trivial⟩
   ·have h := Al c6 h
    refine Ar (Ab (Ab (Aa Ac rfl (qf Bs rfl (ql Bc rfl (AR AE rfl (qm rfl (Ad ?_))))))))
    refine AJ (L := Du N p0 p1) h (fun v7 => mk [(2, .e (.one (.ptr 2 0))), (3, .e (.one (.ptr 3 0))), (43, .e (.one (.pure (.sl (p0.fVersions.map Ai))))), (44, .e (.one (.pure (.val (.int .i64 ((p0.fVersions.length : Int))))))), (45, .e (.one (.pure (.val (.int .i64 v7)))))] [(2, .box [.pure (.sl (p0.fVersions.map Ai)), .pure (.sl (p0.fNow.map Ai)), .pure (.sl (p0.fTarget.map Ai)), .pure (.sl (p0.fTables.map Aq))]), (3, .box [.pure (.sl (p1.fBase.map Ai)), .pure (.sl (p1.fNext.map Ai)), .pure (.sl (p1.fHeld.map Bk))])]) (fun v8 => mk [(2, .e (.one (.ptr 2 0))), (3, .e (.one (.ptr 3 0)))] [(2, .box [.pure (.sl (p0.fVersions.map Ai)), .pure (.sl (p0.fNow.map Ai)), .pure (.sl (p0.fTarget.map Ai)), .pure (.sl (p0.fTables.map Aq))]), (3, .box [.pure (.sl (p1.fBase.map Ai)), .pure (.sl (p1.fNext.map Ai)), .pure (.sl (p1.fHeld.map Bk))])]) (fun _ _ => rfl) (sm [] _ _ rfl rfl) (fun j7 n7 v7 h => ?_) (fun v8 s h hs => ?_)
    ·unfold Du at h
     refine Ab (Aa Ac rfl (AY rfl (Ad (Ab ?_))))
     refine Ao rfl (fun c9 => ?_) (fun c9 => ?_)
     ·have h := Am c9 h
      refine Ar (Ab (AN (Ab (Aa Ac rfl (qm rfl ?_)))))
      obtain ⟨v10, a10, b10, h⟩ := Aj h
      refine qi AE Dm a10 (Ag b10) rfl (qk Ci rfl (qa rfl (qa rfl (Ad (Ab ?_)))))
      refine AP h (fun v11 => mk [(2, .e (.one (.ptr 2 0))), (3, .e (.one (.ptr 3 0))), (6, .e (.one (.pure (.val (.int .i64 v7))))), (43, .e (.one (.pure (.sl (p0.fVersions.map Ai))))), (44, .e (.one (.pure (.val (.int .i64 ((p0.fVersions.length : Int))))))), (45, .e (.one (.pure (.val (.int .i64 v7))))), (81, .e (.one (.pure (.val (.bool v11)))))] [(2, .box [.pure (.sl (p0.fVersions.map Ai)), .pure (.sl (p0.fNow.map Ai)), .pure (.sl (p0.fTarget.map Ai)), .pure (.sl (p0.fTables.map Aq))]), (3, .box [.pure (.sl (p1.fBase.map Ai)), .pure (.sl (p1.fNext.map Ai)), .pure (.sl (p1.fHeld.map Bk))])]) (fun j11 h => ?_) (fun v11 h => ?_)
      ·refine Aa Ac rfl (qf CB rfl (ql Bc rfl (qm rfl ?_)))
       obtain ⟨v12, a12, b12, h⟩ := Aj h
       refine qi AE Dm a12 (Ag b12) rfl (qk Ci rfl (AY rfl (qm rfl ?_)))
       refine AB (t := 56) rfl (fun c13 => ?_) (fun c13 => ?_)
       ·have h := Am c13 h
        refine qn rfl (qn rfl (qn rfl (qn rfl (qn rfl (qn rfl (qn rfl (qp rfl (qm rfl (qn rfl (qn rfl (qn rfl (qn rfl (qn rfl (qn rfl (qp rfl (qm rfl (qn rfl (qn rfl (qn rfl (qn rfl (qn rfl (qn rfl (qn rfl (qp rfl (Ad ?_)))))))))))))))))))))))))
        exact Au _ h (sm [] _ _ rfl rfl)
       ·have h := Al c13 h
        refine qf CB rfl (ql Bc rfl (qm rfl ?_))
        obtain ⟨v14, a14, b14, h⟩ := Aj h
        refine qi AE Dm a14 (Ag b14) rfl (qk Ci rfl (qm rfl (C6 rfl (qp rfl (qm rfl ?_)))))
        refine AB (t := 65) rfl (fun c15 => ?_) (fun c15 => ?_)
        ·have h := Am c15 h
         refine qn rfl (qn rfl (qn rfl (qn rfl (qn rfl (qn rfl (qp rfl (qm rfl (qn rfl (qn rfl (qn rfl (qn rfl (qn rfl (qn rfl (qn rfl (qp rfl (Ad ?_))))))))))))))))
         exact Au _ h (sm [] _ _ rfl rfl)
        ·have h := Al c15 h
         refine qf BR rfl (ql Bc rfl (qm rfl ?_))
         obtain ⟨v16, a16, b16, h⟩ := Aj h
         refine qi AE Dm a16 (Ag b16) rfl (qk Ci rfl (AY rfl (qp rfl (qm rfl ?_))))
         refine AB (t := 73) rfl (fun c17 => ?_) (fun c17 => ?_)
         ·have h := Am c17 h
          refine qn rfl (qn rfl (qn rfl (qn rfl (qn rfl (qn rfl (qn rfl (qp rfl (Ad ?_))))))))
          exact Au _ h (sm [] _ _ rfl rfl)
         ·have h := Al c17 h
          refine qf BR rfl (ql Bc rfl (qm rfl ?_))
          obtain ⟨v18, a18, b18, h⟩ := Aj h
          refine qi AE Dm a18 (Ag b18) rfl (qk Ci rfl (qm rfl (C6 rfl (qp rfl (Ad ?_)))))
          exact Au _ h (sm [] _ _ rfl rfl)
      ·refine Ao rfl (fun c19 => ?_) (fun c19 => ?_)
       ·have h := Am c19 h
        refine Ab (Aa Ac rfl (qa rfl (Ad ?_)))
        obtain rfl := sj h
        refine Ak (sm [] [(4, .e (.one (.pure (.val (.int .i64 7)))))] [] rfl rfl) (Ax ?_)
        exact ⟨⟨[_], ⟨.tmp _ _ rfl, trivial⟩, rfl⟩, trivial⟩
       ·have h := Al c19 h
        refine Ar (Ab (Aa Ac rfl (qf CB rfl (ql Bc rfl (qm rfl ?_)))))
        obtain ⟨v20, a20, b20, h⟩ := Aj h
        refine qi AE Dm a20 (Ag b20) rfl (qk Ci rfl (qf BR rfl (ql Bc rfl (qm rfl ?_))))
        obtain ⟨v21, a21, b21, h⟩ := Aj h
        refine qi AE Dm a21 (Ag b21) rfl (qk Ci rfl (BA rfl (AI (by kernel_rfl) ?_)))
        refine Ao rfl (fun c22 => ?_) (fun c22 => ?_)
        ·have h := Am c22 h
         refine Ab (Aa Ac rfl (qa rfl (Ad ?_)))
         obtain rfl := sj h
         refine Ak (sm [] [(4, .e (.one (.pure (.val (.int .i64 1)))))] [] rfl rfl) (Ax ?_)
         exact ⟨⟨[_], ⟨.tmp _ _ rfl, trivial⟩, rfl⟩, trivial⟩
        ·have h := Al c22 h
         refine Ar (Aa Ac rfl (AU rfl (qm rfl (Ad ?_))))
         exact Au _ h (sm [] _ _ rfl rfl)
     ·have h := Al c9 h
      refine AW ?_
      exact Au _ h (sm [] _ _ rfl rfl)
    ·refine Ak hs (Ab (Ab (Aa Ac rfl (qf CO rfl (ql GV rfl (AR DR rfl (qm rfl (Ad ?_))))))))
     refine AJ (L := Da N p0 p1) h (fun v23 => mk [(2, .e (.one (.ptr 2 0))), (3, .e (.one (.ptr 3 0))), (95, .e (.one (.pure (.sl (p0.fTables.map Aq))))), (96, .e (.one (.pure (.val (.int .i64 ((p0.fTables.length : Int))))))), (97, .e (.one (.pure (.val (.int .i64 v23)))))] [(2, .box [.pure (.sl (p0.fVersions.map Ai)), .pure (.sl (p0.fNow.map Ai)), .pure (.sl (p0.fTarget.map Ai)), .pure (.sl (p0.fTables.map Aq))]), (3, .box [.pure (.sl (p1.fBase.map Ai)), .pure (.sl (p1.fNext.map Ai)), .pure (.sl (p1.fHeld.map Bk))])]) (fun v24 => mk [] []) (fun _ _ => rfl) (sm [] _ _ rfl rfl) (fun j23 n23 v23 h => ?_) (fun v24 s h hs => ?_)
     ·unfold Da at h
      refine Ab (Aa Ac rfl (AY rfl (Ad (Ab ?_))))
      refine Ao rfl (fun c25 => ?_) (fun c25 => ?_)
      ·have h := Am c25 h
       refine Ar (Ab (AN (Ab (Aa Ac rfl (qm rfl ?_)))))
       obtain ⟨v26, a26, b26, h⟩ := Aj h
       refine qi DR DP a26 (Ag b26) rfl (qK GT DP rfl (qz JA rfl (qa rfl (qs DP rfl (Ad (Ab (Aa Ac rfl (qa rfl (qa rfl (Ad ?_))))))))))
       refine AP h (fun v27 => mk [(2, .e (.one (.ptr 2 0))), (3, .e (.one (.ptr 3 0))), (8, .e (.one (.pure (.val (.int .i64 v23))))), (10, .e (.one (.pure (.val (.int .u8 v27.1))))), (11, .e (.one (.pure (.val (.int .u8 v27.2))))), (95, .e (.one (.pure (.sl (p0.fTables.map Aq))))), (96, .e (.one (.pure (.val (.int .i64 ((p0.fTables.length : Int))))))), (97, .e (.one (.pure (.val (.int .i64 v23)))))] [(2, .box [.pure (.sl (p0.fVersions.map Ai)), .pure (.sl (p0.fNow.map Ai)), .pure (.sl (p0.fTarget.map Ai)), .pure (.sl (p0.fTables.map Aq))]), (3, .box [.pure (.sl (p1.fBase.map Ai)), .pure (.sl (p1.fNext.map Ai)), .pure (.sl (p1.fHeld.map Bk))])]) (fun j27 h => ?_) (fun v27 h => ?_)
       ·refine Ab (Aa Ac rfl (qL GT DP rfl ?_))
        obtain ⟨v28, a28, h⟩ := bind_some h
        refine AD [] (Ix N v26 v28 a28) Sp rfl (Ad ?_)
        refine Ao rfl (fun c29 => ?_) (fun c29 => ?_)
        ·have h := Am c29 h
         refine Aa Ac rfl (qL AV Av rfl (qf C3 rfl (ql Ci rfl ?_)))
         obtain ⟨v30, a30, h⟩ := bind_some h
         refine AD [] (HY N p1 v26.fFrom v30 a30) Sq rfl (qf Bs rfl (ql Bc rfl (qf C3 rfl (ql Ci rfl ?_))))
         obtain ⟨v31, a31, b31, h⟩ := Aj h
         refine qi AE Dm a31 (Ag b31) rfl (qk Ci rfl ?_)
         obtain ⟨c32, h⟩ := AK h
         refine G8 rfl c32 (Cs rfl (qa rfl (qa rfl (AI (by kernel_rfl) ?_))))
         exact Au _ h (sm [] _ _ rfl rfl)
        ·have h := Al c29 h
         refine Ar ?_
         exact Au _ h (sm [] _ _ rfl rfl)
       ·refine AP h (fun v33 => mk [(2, .e (.one (.ptr 2 0))), (3, .e (.one (.ptr 3 0))), (95, .e (.one (.pure (.sl (p0.fTables.map Aq))))), (96, .e (.one (.pure (.val (.int .i64 ((p0.fTables.length : Int))))))), (97, .e (.one (.pure (.val (.int .i64 v23))))), (133, .e (.one (.pure (.val (.bool v33)))))] [(2, .box [.pure (.sl (p0.fVersions.map Ai)), .pure (.sl (p0.fNow.map Ai)), .pure (.sl (p0.fTarget.map Ai)), .pure (.sl (p0.fTables.map Aq))]), (3, .box [.pure (.sl (p1.fBase.map Ai)), .pure (.sl (p1.fNext.map Ai)), .pure (.sl (p1.fHeld.map Bk))])]) (fun j33 h => ?_) (fun v33 h => ?_)
        ·refine Aa Ac rfl (qm rfl (qf Cx rfl (ql Gq rfl (qm rfl ?_))))
         obtain ⟨v34, a34, b34, h⟩ := Aj h
         refine qi C5 Fa a34 (Ag b34) rfl (qk IF rfl (Hv rfl (BX rfl (qm rfl ?_))))
         refine AB (t := 124) rfl (fun c35 => ?_) (fun c35 => ?_)
         ·have h := Am c35 h
          refine qn rfl (qn rfl (qn rfl (qn rfl (qn rfl (qn rfl (qn rfl (qn rfl (qp rfl (Ad ?_)))))))))
          exact Au _ h (sm [] _ _ rfl rfl)
         ·have h := Al c35 h
          refine qf Cx rfl (ql Gq rfl (qm rfl ?_))
          obtain ⟨v36, a36, b36, h⟩ := Aj h
          refine qi C5 Fa a36 (Ag b36) rfl (qk IF rfl (qm rfl (Hv rfl (BX rfl (qp rfl (Ad ?_))))))
          exact Au _ h (sm [] _ _ rfl rfl)
        ·refine Ao rfl (fun c37 => ?_) (fun c37 => ?_)
         ·have h := Am c37 h
          refine Ab (Aa Ac rfl (qa rfl (Ad ?_)))
          obtain rfl := sj h
          refine Ak (sm [] [(4, .e (.one (.pure (.val (.int .i64 1)))))] [] rfl rfl) (Ax ?_)
          exact ⟨⟨[_], ⟨.tmp _ _ rfl, trivial⟩, rfl⟩, trivial⟩
         ·have h := Al c37 h
          refine Ar (Aa Ac rfl (AU rfl (qm rfl (Ad ?_))))
          exact Au _ h (sm [] _ _ rfl rfl)
      ·have h := Al c25 h
       refine AW ?_
       exact Au _ h (sm [] _ _ rfl rfl)
     ·refine Ak hs (Ab (Aa Ac rfl (qa rfl (Ad ?_))))
      obtain rfl := sj h
      refine Ak (sm [] [(4, .e (.one (.pure (.val (.int .i64 0)))))] [] rfl rfl) (Ax ?_)
      exact ⟨⟨[_], ⟨.tmp _ _ rfl, trivial⟩, rfl⟩, trivial⟩
set_option maxRecDepth 10000 in
theorem ED (N : Nat) (p0 : List Int) (r : (List Int)) (h : Bz N p0 = some r) : Az Tryz.prog 59 [.e (.one (.pure (.sl (p0.map Bk))))] [(1, r.map Bk)] (.e (.one (.own 0))) := by
 unfold Bz at h
 refine As (n := 8) (rs := [.tmp 2]) Tryz.func59 rfl rfl rfl (A1 rfl) (A1 rfl) rfl fun w0 S0 => ?_
 refine Ab (Aa Ac rfl (qa rfl (Ad (Ab (Ab (Aa Ac rfl (qm rfl ?_)))))))
 refine M5 (.p rfl) rfl C5 ?_
 refine Ad ?_
 refine MP rfl (fun c2 => ?_) ?_
 ·have c2 := List.map_eq_nil_iff.1 c2
  rw [c2] at h
  have h : (some (([] : List Int))) = some r := h
  refine Ab (Aa Ac rfl (qa rfl (Ad ?_)))
  obtain rfl := sj h
  refine Ak ((Bo 2 2001 1 rfl rfl rfl).trans (sm [(1000, 2001)] [(2, .e (.one (.own 1000)))] [(1000, .vec 1 ((([] : List Int)).map Bk))] rfl rfl)) (Ax ?_)
  exact ⟨⟨[_], ⟨.tmp _ _ rfl, trivial⟩, rfl⟩, ⟨rfl, trivial⟩⟩
 ·refine Ar (Ab (Aa Ac rfl (D4 C5 Fa Ol rfl (qm rfl ?_))))
  obtain ⟨c1, h⟩ := AK h
  refine Kk (f := Bk) C5 C5 Fa OY Ol (fun _ => rfl) c1 rfl (qa rfl (Ad ?_))
  obtain rfl := sj h
  refine Ak (sm [(1000, 7)] [(2, .e (.one (.own 1000)))] [(1000, .vec 1 (((([] : List Int)) ++ p0).map Bk))] rfl rfl) (Ax ?_)
  exact ⟨⟨[_], ⟨.tmp _ _ rfl, trivial⟩, rfl⟩, ⟨rfl, trivial⟩⟩
set_option maxRecDepth 10000 in
theorem JF (N : Nat) (p0 : Ah) (p1 : Ae) (r : (List Ae) × Int) (h : GK N p0 p1 = some r) : Az Tryz.prog 37 [.e (.agg [.pure (.sl (p0.fVersions.map Ai)), .pure (.sl (p0.fNow.map Ai)), .pure (.sl (p0.fTarget.map Ai)), .pure (.sl (p0.fTables.map Aq))]), .e (.agg [.pure (.sl (p1.fBase.map Ai)), .pure (.sl (p1.fNext.map Ai)), .pure (.sl (p1.fHeld.map Bk))])] [(3, r.1.map Af)] (.tup [.one (.own 0), .one (.pure (.val (.int .i64 r.2)))]) := by
 unfold GK at h
 refine As (n := 75) (rs := [.tmp 4, .tmp 5]) Tryz.func37 rfl rfl rfl (A1 rfl) (A1 rfl) rfl fun w0 S0 => ?_
 refine Ab (Aa Ac rfl (qb rfl (qb rfl (qa rfl (qa rfl (Ad (Ab (Ab (Aa Ac rfl (qL DY DI rfl (qL AV Av rfl ?_)))))))))))
 obtain ⟨v1, a1, h⟩ := bind_some h
 refine AD [] (HL N p0 p1 v1 a1) Rr rfl (qa rfl (Ad (Ab (Aa Ac rfl (qm rfl (BX rfl (Ad ?_)))))))
 refine Ao rfl (fun c2 => ?_) (fun c2 => ?_)
 ·have h := Am c2 h
  refine Ab (Aa Ac rfl (qm rfl (qa rfl (qa rfl (Ad ?_)))))
  obtain rfl := sj h
  refine Ak ((Bo 4 2001 3 rfl rfl rfl).trans (sm [(1000, 2001)] [(4, .e (.one (.own 1000))), (5, .e (.one (.pure (.val (.int .i64 v1)))))] [(1000, .vec 3 ((([] : List Ae)).map Af))] rfl rfl)) (Ax ?_)
  exact ⟨⟨[_, _], ⟨.tmp _ _ rfl, ⟨.tmp _ _ rfl, trivial⟩⟩, rfl⟩, ⟨rfl, trivial⟩⟩
 ·have h := Al c2 h
  refine Ar (Ab (Aa Ac rfl (qa rfl (Ad (Ab (Ab (Aa Ac rfl (qf BR rfl (ql Bc rfl (AR AE rfl (qm rfl (Ad ?_))))))))))))
  refine AJ (L := Fp N p1) h (fun v3 => mk [(3, .e (.one (.ptr 3 0))), (7, .e (.one (.own 2002))), (22, .e (.one (.pure (.sl (p1.fNext.map Ai))))), (23, .e (.one (.pure (.val (.int .i64 ((p1.fNext.length : Int))))))), (24, .e (.one (.pure (.val (.int .i64 v3.2)))))] [(3, .box [.pure (.sl (p1.fBase.map Ai)), .pure (.sl (p1.fNext.map Ai)), .pure (.sl (p1.fHeld.map Bk))]), (2002, .vec 1 (v3.1.map Ai))]) (fun v4 => mk [(3, .e (.one (.ptr 3 0))), (7, .e (.one (.own 2003)))] [(3, .box [.pure (.sl (p1.fBase.map Ai)), .pure (.sl (p1.fNext.map Ai)), .pure (.sl (p1.fHeld.map Bk))]), (2003, .vec 1 (v4.map Ai))]) (fun _ _ => rfl) ((Bo 7 2005 1 rfl rfl rfl).trans (sm [(2002, 2005)] _ _ rfl rfl)) (fun j3 n3 v3 h => ?_) (fun v4 s h hs => ?_)
  ·unfold Fp at h
   refine Ab (Aa Ac rfl (AY rfl (Ad (Ab ?_))))
   refine Ao rfl (fun c5 => ?_) (fun c5 => ?_)
   ·have h := Am c5 h
    refine Ar ?_
    refine AP h (fun v6 => mk [(3, .e (.one (.ptr 3 0))), (7, .e (.one (.own 2004))), (22, .e (.one (.pure (.sl (p1.fNext.map Ai))))), (23, .e (.one (.pure (.val (.int .i64 ((p1.fNext.length : Int))))))), (24, .e (.one (.pure (.val (.int .i64 v3.2)))))] [(3, .box [.pure (.sl (p1.fBase.map Ai)), .pure (.sl (p1.fNext.map Ai)), .pure (.sl (p1.fHeld.map Bk))]), (2004, .vec 1 (v6.map Ai))]) (fun j6 h => ?_) (fun v6 h => ?_)
    ·refine AN (Ab (Aa Ac rfl (qm rfl ?_)))
     obtain ⟨v7, a7, b7, h⟩ := Aj h
     refine qi AE Dm a7 (Ag b7) rfl (qk Ci rfl (qa rfl (qa rfl (Ad (Ab (Aa Ac rfl (qm rfl (C6 rfl (Ad ?_)))))))))
     refine Ao rfl (fun c8 => ?_) (fun c8 => ?_)
     ·have h := Am c8 h
      refine Aa Ac rfl (qm rfl (qm rfl (D4 AE Dm Kj rfl ?_)))
      obtain ⟨c9, h⟩ := AK h
      refine Dx (f := Ai) AE AE Dm Lg Kj c9 rfl (qa rfl (Ad ?_))
      exact Au _ h (sm [(2004, 34)] _ _ rfl rfl)
     ·have h := Al c8 h
      refine Ar ?_
      exact Au _ h (sm [(2004, 2002)] _ _ rfl rfl)
    ·refine Aa Ac rfl (AU rfl (qm rfl (Ad ?_)))
     exact Au _ h (sm [(2002, 2004)] _ _ rfl rfl)
   ·have h := Al c5 h
    refine AW ?_
    exact Au _ h (sm [(2003, 2002)] _ _ rfl rfl)
  ·refine Ak hs (Ab (Aa Ac rfl (qa rfl (Ad (Ab (Ab (Aa Ac rfl (qm rfl (DZ AE rfl ?_)))))))))
   obtain ⟨c10, h⟩ := AK h
   refine G8 rfl c10 (qm rfl (Ad ?_))
   refine AJ (L := E2 N p1 v4) h (fun v11 => mk [(3, .e (.one (.ptr 3 0))), (7, .e (.one (.own 2006))), (10, .e (.one (.own 2007))), (38, .e (.one (.pure (.val (.int .i64 ((Co .i64 1 ((v4.length : Int))))))))), (39, .e (.one (.pure (.val (.int .i64 v11.2)))))] [(3, .box [.pure (.sl (p1.fBase.map Ai)), .pure (.sl (p1.fNext.map Ai)), .pure (.sl (p1.fHeld.map Bk))]), (2006, .vec 1 (v4.map Ai)), (2007, .vec 3 (v11.1.map Af))]) (fun v12 => mk [(10, .e (.one (.own 2008)))] [(2008, .vec 3 (v12.map Af))]) (fun _ _ => rfl) ((Bo 10 2027 3 rfl rfl rfl).trans (sm [(2006, 2003), (2007, 2027)] _ _ rfl rfl)) (fun j11 n11 v11 h => ?_) (fun v12 s h hs => ?_)
   ·unfold E2 at h
    refine Ab (Aa Ac rfl (AY rfl (Ad (Ab ?_))))
    refine Ao rfl (fun c13 => ?_) (fun c13 => ?_)
    ·have h := Am c13 h
     refine Ar (Ab (AN (Ab (Aa Ac rfl (qm rfl (qa rfl (Ad (Ab (Aa Ac rfl (qf CB rfl (ql Bc rfl ?_)))))))))))
     obtain ⟨v14, a14, h⟩ := bind_some h
     refine AD [2009] (Dl N p1.fBase v14 a14) Qk rfl (qf BR rfl (ql Bc rfl ?_))
     obtain ⟨v15, a15, h⟩ := bind_some h
     refine AD [2010] (Dl N p1.fNext v15 a15) Qk rfl (qf Cx rfl (ql Gq rfl ?_))
     obtain ⟨v16, a16, h⟩ := bind_some h
     refine AD [2011] (ED N p1.fHeld v16 a16) TI rfl (BE Ct GE rfl (qz Ct rfl (qs Av rfl (AI (by kernel_rfl) (Ab (Ab (Aa Ac rfl (qm rfl (DZ AE rfl (qm rfl (Ad ?_)))))))))))
     refine AJ (L := E7 N v4 v11) h (fun v17 => mk [(3, .e (.one (.ptr 3 0))), (7, .e (.one (.own 2015))), (10, .e (.one (.own 2016))), (11, .e (.one (.pure (.val (.int .i64 v11.2))))), (12, .e (.one (.ptr 12 0))), (38, .e (.one (.pure (.val (.int .i64 ((Co .i64 1 ((v4.length : Int))))))))), (39, .e (.one (.pure (.val (.int .i64 v11.2))))), (52, .e (.one (.own 2015))), (53, .e (.one (.pure (.val (.int .i64 ((v4.length : Int))))))), (54, .e (.one (.pure (.val (.int .i64 v17.2)))))] [(3, .box [.pure (.sl (p1.fBase.map Ai)), .pure (.sl (p1.fNext.map Ai)), .pure (.sl (p1.fHeld.map Bk))]), (12, .box [.own 2012, .own 2013, .own 2014]), (2012, .vec 1 (v14.map Ai)), (2013, .vec 1 (v17.1.map Ai)), (2014, .vec 1 (v16.map Bk)), (2015, .vec 1 (v4.map Ai)), (2016, .vec 3 (v11.1.map Af))]) (fun v18 => mk [(3, .e (.one (.ptr 3 0))), (7, .e (.one (.own 2020))), (10, .e (.one (.own 2021))), (12, .e (.one (.ptr 12 0))), (38, .e (.one (.pure (.val (.int .i64 ((Co .i64 1 ((v4.length : Int))))))))), (39, .e (.one (.pure (.val (.int .i64 v11.2)))))] [(3, .box [.pure (.sl (p1.fBase.map Ai)), .pure (.sl (p1.fNext.map Ai)), .pure (.sl (p1.fHeld.map Bk))]), (12, .box [.own 2017, .own 2018, .own 2019]), (2017, .vec 1 (v14.map Ai)), (2018, .vec 1 (v18.map Ai)), (2019, .vec 1 (v16.map Bk)), (2020, .vec 1 (v4.map Ai)), (2021, .vec 3 (v11.1.map Af))]) (fun _ _ => rfl) (sm [(2012, 2009), (2013, 2010), (2014, 2011), (2015, 2006), (2016, 2007)] _ _ rfl rfl) (fun j17 n17 v17 h => ?_) (fun v18 s h hs => ?_)
     ·unfold E7 at h
      refine Ab (Aa Ac rfl (AY rfl (Ad (Ab ?_))))
      refine Ao rfl (fun c19 => ?_) (fun c19 => ?_)
      ·have h := Am c19 h
       refine Ar ?_
       refine AP h (fun v20 => mk [(3, .e (.one (.ptr 3 0))), (7, .e (.one (.own 2025))), (10, .e (.one (.own 2026))), (11, .e (.one (.pure (.val (.int .i64 v11.2))))), (12, .e (.one (.ptr 12 0))), (38, .e (.one (.pure (.val (.int .i64 ((Co .i64 1 ((v4.length : Int))))))))), (39, .e (.one (.pure (.val (.int .i64 v11.2))))), (52, .e (.one (.own 2025))), (53, .e (.one (.pure (.val (.int .i64 ((v4.length : Int))))))), (54, .e (.one (.pure (.val (.int .i64 v17.2)))))] [(3, .box [.pure (.sl (p1.fBase.map Ai)), .pure (.sl (p1.fNext.map Ai)), .pure (.sl (p1.fHeld.map Bk))]), (12, .box [.own 2022, .own 2023, .own 2024]), (2022, .vec 1 (v14.map Ai)), (2023, .vec 1 (v20.map Ai)), (2024, .vec 1 (v16.map Bk)), (2025, .vec 1 (v4.map Ai)), (2026, .vec 3 (v11.1.map Af))]) (fun j20 h => ?_) (fun v20 h => ?_)
       ·refine AN (Ab (Aa Ac rfl (qm rfl ?_)))
        obtain ⟨v21, a21, b21, h⟩ := Aj h
        refine qI AE Dm a21 (Ag b21) rfl (qj Ci (Ag b21) rfl (qa rfl (qa rfl (Ad (Ab (Aa Ac rfl (qm rfl (qm rfl ?_))))))))
        obtain ⟨c22, h⟩ := AK h
        refine Gz rfl c22 (J1 rfl (BA rfl (Ad ?_)))
        refine Ao rfl (fun c23 => ?_) (fun c23 => ?_)
        ·have h := Am c23 h
         refine Aa Ac rfl (qf BR rfl (ql Bc rfl (qm rfl ?_)))
         obtain ⟨v24, a24, b24, h⟩ := Aj h
         refine qI AE Dm a24 (Ag b24) rfl ?_
         refine A2 rfl rfl rfl rfl (Ag b24) rfl Dm rfl (A1 rfl) (A3 Ai v17.1 _ ((-1))) ?_
         refine Ad ?_
         exact Au _ h (sm [(2022, 2012), (2023, 2013), (2024, 2014), (2025, 2015), (2026, 2016)] _ _ rfl rfl)
        ·have h := Al c23 h
         refine Ar ?_
         exact Au _ h (sm [(2022, 2012), (2023, 2013), (2024, 2014), (2025, 2015), (2026, 2016)] _ _ rfl rfl)
       ·refine Aa Ac rfl (AU rfl (qm rfl (Ad ?_)))
        exact Au _ h (sm [(2012, 2022), (2013, 2023), (2014, 2024), (2015, 2025), (2016, 2026)] _ _ rfl rfl)
      ·have h := Al c19 h
       refine AW ?_
       exact Au _ h (sm [(2017, 2012), (2018, 2013), (2019, 2014), (2020, 2015), (2021, 2016)] _ _ rfl rfl)
     ·refine Ak hs (Aa Ac rfl (qm rfl (qL AV Av rfl (CQ (AZ 2017 _ _ rfl rfl) (CQ (AZ 2018 _ _ rfl rfl) (CQ (AZ 2019 _ _ rfl rfl) (D4 AL Av Ct rfl ?_)))))))
      obtain ⟨c25, h⟩ := AK h
      refine Dx (f := Af) AL AL Av Mq Ct c25 rfl (qa rfl (Ad (Aa Ac rfl (AU rfl (qm rfl (Ad ?_))))))
      exact Au _ h (sm [(2006, 2020), (2007, 72)] _ _ rfl rfl)
    ·have h := Al c13 h
     refine AW ?_
     exact Au _ h (sm [(2008, 2007)] _ _ rfl rfl)
   ·refine Ak hs (Ab (Aa Ac rfl (qm rfl (qa rfl (qa rfl (Ad ?_))))))
    obtain rfl := sj h
    refine Ak (sm [(1000, 2008)] [(4, .e (.one (.own 1000))), (5, .e (.one (.pure (.val (.int .i64 0)))))] [(1000, .vec 3 (v12.map Af))] rfl rfl) (Ax ?_)
    exact ⟨⟨[_, _], ⟨.tmp _ _ rfl, ⟨.tmp _ _ rfl, trivial⟩⟩, rfl⟩, ⟨rfl, trivial⟩⟩
set_option maxRecDepth 10000 in
theorem KS (N : Nat) (p0 : Ah) (p1 : Ae) (r : (List AT)) (h : GI N p0 p1 = some r) : Az Tryz.prog 94 [.e (.agg [.pure (.sl (p0.fVersions.map Ai)), .pure (.sl (p0.fNow.map Ai)), .pure (.sl (p0.fTarget.map Ai)), .pure (.sl (p0.fTables.map Aq))]), .e (.agg [.pure (.sl (p1.fBase.map Ai)), .pure (.sl (p1.fNext.map Ai)), .pure (.sl (p1.fHeld.map Bk))])] [(3, r.map Cc)] (.e (.one (.own 0))) := by
 unfold GI at h
 refine As (n := 98) (rs := [.tmp 4]) Tryz.func94 rfl rfl rfl (A1 rfl) (A1 rfl) rfl fun w0 S0 => ?_
 refine Ab (Aa Ac rfl (qb rfl (qb rfl (qa rfl (Ad (Ab (Aa Ac rfl (qa rfl (Ad (Ab (Ab (Aa Ac rfl (qf CO rfl (ql GV rfl (AR DR rfl (qm rfl (Ad ?_)))))))))))))))))
 refine AJ (L := Eu N p0 p1) h (fun v1 => mk [(3, .e (.one (.ptr 3 0))), (5, .e (.one (.own 2001))), (15, .e (.one (.pure (.sl (p0.fTables.map Aq))))), (16, .e (.one (.pure (.val (.int .i64 ((p0.fTables.length : Int))))))), (17, .e (.one (.pure (.val (.int .i64 v1.2)))))] [(3, .box [.pure (.sl (p1.fBase.map Ai)), .pure (.sl (p1.fNext.map Ai)), .pure (.sl (p1.fHeld.map Bk))]), (2001, .vec 3 (v1.1.map Cc))]) (fun v2 => mk [(5, .e (.one (.own 2002)))] [(2002, .vec 3 (v2.map Cc))]) (fun _ _ => rfl) ((Bo 5 2013 3 rfl rfl rfl).trans (sm [(2001, 2013)] _ _ rfl rfl)) (fun j1 n1 v1 h => ?_) (fun v2 s h hs => ?_)
 ·unfold Eu at h
  refine Ab (Aa Ac rfl (AY rfl (Ad (Ab ?_))))
  refine Ao rfl (fun c3 => ?_) (fun c3 => ?_)
  ·have h := Am c3 h
   refine Ar (Ab (AN (Ab (Aa Ac rfl (qm rfl ?_)))))
   obtain ⟨v4, a4, b4, h⟩ := Aj h
   refine qi DR DP a4 (Ag b4) rfl (qK GT DP rfl (qz JA rfl (qa rfl (qs DP rfl (Ad (Ab (Aa Ac rfl (qL AV Av rfl (qf C3 rfl (ql Ci rfl ?_))))))))))
   obtain ⟨v5, a5, h⟩ := bind_some h
   refine AD [] (HY N p1 v4.fFrom v5 a5) Sq rfl (qL AV Av rfl (qf Iv rfl (ql Ci rfl ?_)))
   obtain ⟨v6, a6, h⟩ := bind_some h
   refine AD [] (HY N p1 v4.fTo v6 a6) Sq rfl (qa rfl (qa rfl (AI (by kernel_rfl) ?_)))
   refine AP h (fun v7 => mk [(3, .e (.one (.ptr 3 0))), (5, .e (.one (.own 2003))), (6, .e (.one (.pure (.val (.int .i64 v1.2))))), (7, .e (.one (.ptr 7 0))), (8, .e (.one (.pure (.val (.int .u8 v7))))), (9, .e (.one (.pure (.val (.int .u8 v6))))), (15, .e (.one (.pure (.sl (p0.fTables.map Aq))))), (16, .e (.one (.pure (.val (.int .i64 ((p0.fTables.length : Int))))))), (17, .e (.one (.pure (.val (.int .i64 v1.2)))))] [(3, .box [.pure (.sl (p1.fBase.map Ai)), .pure (.sl (p1.fNext.map Ai)), .pure (.sl (p1.fHeld.map Bk))]), (7, .box [.pure (.val (.int .i64 v4.fKind)), .pure (.val (.int .i64 v4.fFrom)), .pure (.val (.int .i64 v4.fTo)), .pure (.val (.bool v4.fAware)), .pure (.sl (v4.fOK.map (EQ eB))), .pure (.sl (v4.fRewrite.map (EQ eB)))]), (2003, .vec 3 (v1.1.map Cc))]) (fun j7 h => ?_) (fun v7 h => ?_)
   ·refine Ab (Aa Ac rfl (qL GT DP rfl ?_))
    obtain ⟨v8, a8, h⟩ := bind_some h
    refine AD [] (Ix N v4 v8 a8) Sp rfl (Ad ?_)
    refine Ao rfl (fun c9 => ?_) (fun c9 => ?_)
    ·have h := Am c9 h
     refine Aa Ac rfl (qf Cx rfl (ql Gq rfl (qm rfl ?_)))
     obtain ⟨v10, a10, b10, h⟩ := Aj h
     refine qi C5 Fa a10 (Ag b10) rfl (qk IF rfl (qa rfl (Ad ?_)))
     exact Au _ h (sm [(2003, 2001)] _ _ rfl rfl)
    ·have h := Al c9 h
     refine Ar ?_
     exact Au _ h (sm [(2003, 2001)] _ _ rfl rfl)
   ·refine Ab (Aa Ac rfl (qf J4 rfl (ql Js rfl (AR F3 rfl (qm rfl (Ad ?_))))))
    refine AJ (L := Em N v1 v4 v6 v7) h (fun v11 => mk [(3, .e (.one (.ptr 3 0))), (5, .e (.one (.own 2004))), (6, .e (.one (.pure (.val (.int .i64 v1.2))))), (7, .e (.one (.ptr 7 0))), (8, .e (.one (.pure (.val (.int .u8 v7))))), (9, .e (.one (.pure (.val (.int .u8 v6))))), (15, .e (.one (.pure (.sl (p0.fTables.map Aq))))), (16, .e (.one (.pure (.val (.int .i64 ((p0.fTables.length : Int))))))), (17, .e (.one (.pure (.val (.int .i64 v1.2))))), (39, .e (.one (.pure (.val (.int .i64 ((v4.fOK.length : Int))))))), (40, .e (.one (.pure (.val (.int .i64 v11.2)))))] [(3, .box [.pure (.sl (p1.fBase.map Ai)), .pure (.sl (p1.fNext.map Ai)), .pure (.sl (p1.fHeld.map Bk))]), (7, .box [.pure (.val (.int .i64 v4.fKind)), .pure (.val (.int .i64 v4.fFrom)), .pure (.val (.int .i64 v4.fTo)), .pure (.val (.bool v4.fAware)), .pure (.sl (v4.fOK.map (EQ eB))), .pure (.sl (v4.fRewrite.map (EQ eB)))]), (2004, .vec 3 (v11.1.map Cc))]) (fun v12 => mk [(3, .e (.one (.ptr 3 0))), (5, .e (.one (.own 2005))), (15, .e (.one (.pure (.sl (p0.fTables.map Aq))))), (16, .e (.one (.pure (.val (.int .i64 ((p0.fTables.length : Int))))))), (17, .e (.one (.pure (.val (.int .i64 v1.2)))))] [(3, .box [.pure (.sl (p1.fBase.map Ai)), .pure (.sl (p1.fNext.map Ai)), .pure (.sl (p1.fHeld.map Bk))]), (2005, .vec 3 (v12.map Cc))]) (fun _ _ => rfl) (sm [(2004, 2003)] _ _ rfl rfl) (fun j11 n11 v11 h => ?_) (fun v12 s h hs => ?_)
    ·unfold Em at h
     refine Ab (Aa Ac rfl (AY rfl (Ad (Ab ?_))))
     refine Ao rfl (fun c13 => ?_) (fun c13 => ?_)
     ·have h := Am c13 h
      refine Ar ?_
      refine AP h (fun v14 => mk [(3, .e (.one (.ptr 3 0))), (5, .e (.one (.own 2006))), (6, .e (.one (.pure (.val (.int .i64 v1.2))))), (7, .e (.one (.ptr 7 0))), (8, .e (.one (.pure (.val (.int .u8 v7))))), (9, .e (.one (.pure (.val (.int .u8 v6))))), (15, .e (.one (.pure (.sl (p0.fTables.map Aq))))), (16, .e (.one (.pure (.val (.int .i64 ((p0.fTables.length : Int))))))), (17, .e (.one (.pure (.val (.int .i64 v1.2))))), (39, .e (.one (.pure (.val (.int .i64 ((v4.fOK.length : Int))))))), (40, .e (.one (.pure (.val (.int .i64 v11.2)))))] [(3, .box [.pure (.sl (p1.fBase.map Ai)), .pure (.sl (p1.fNext.map Ai)), .pure (.sl (p1.fHeld.map Bk))]), (7, .box [.pure (.val (.int .i64 v4.fKind)), .pure (.val (.int .i64 v4.fFrom)), .pure (.val (.int .i64 v4.fTo)), .pure (.val (.bool v4.fAware)), .pure (.sl (v4.fOK.map (EQ eB))), .pure (.sl (v4.fRewrite.map (EQ eB)))]), (2006, .vec 3 (v14.map Cc))]) (fun j14 h => ?_) (fun v14 h => ?_)
      ·refine AN (Ab (Aa Ac rfl (qm rfl (qa rfl (Ad (Ab (Ab (Aa Ac rfl (qm rfl (qm rfl ?_))))))))))
       obtain ⟨c15, h⟩ := AK h
       refine Gz rfl c15 (J1 rfl (BA rfl (Ad ?_)))
       refine Ao rfl (fun c16 => ?_) (fun c16 => ?_)
       ·have h := Am c16 h
        refine AW ?_
        exact Au _ h (sm [(2006, 2004)] _ _ rfl rfl)
       ·have h := Al c16 h
        refine Ar (Ab (Aa Ac rfl (qa rfl (Ad (Ab (Ab (Aa Ac rfl (qf J4 rfl (ql Js rfl (qm rfl ?_))))))))))
        obtain ⟨v17, a17, b17, h⟩ := Aj h
        refine qi F3 Ji a17 (Ag b17) rfl (qk Li rfl (AR EO rfl (qm rfl (Ad ?_))))
        refine AJ (L := Ej N v1 v4 v6 v11 v17) h (fun v18 => mk [(3, .e (.one (.ptr 3 0))), (5, .e (.one (.own 2007))), (6, .e (.one (.pure (.val (.int .i64 v1.2))))), (7, .e (.one (.ptr 7 0))), (8, .e (.one (.pure (.val (.int .u8 v7))))), (9, .e (.one (.pure (.val (.int .u8 v6))))), (10, .e (.one (.pure (.val (.int .i64 v11.2))))), (11, .e (.one (.pure (.val (.bool v18.2.1))))), (15, .e (.one (.pure (.sl (p0.fTables.map Aq))))), (16, .e (.one (.pure (.val (.int .i64 ((p0.fTables.length : Int))))))), (17, .e (.one (.pure (.val (.int .i64 v1.2))))), (39, .e (.one (.pure (.val (.int .i64 ((v4.fOK.length : Int))))))), (40, .e (.one (.pure (.val (.int .i64 v11.2))))), (52, .e (.one (.pure (.sl (v17.map eB))))), (53, .e (.one (.pure (.val (.int .i64 ((v17.length : Int))))))), (54, .e (.one (.pure (.val (.int .i64 v18.2.2)))))] [(3, .box [.pure (.sl (p1.fBase.map Ai)), .pure (.sl (p1.fNext.map Ai)), .pure (.sl (p1.fHeld.map Bk))]), (7, .box [.pure (.val (.int .i64 v4.fKind)), .pure (.val (.int .i64 v4.fFrom)), .pure (.val (.int .i64 v4.fTo)), .pure (.val (.bool v4.fAware)), .pure (.sl (v4.fOK.map (EQ eB))), .pure (.sl (v4.fRewrite.map (EQ eB)))]), (2007, .vec 3 (v18.1.map Cc))]) (fun v19 => mk [(3, .e (.one (.ptr 3 0))), (5, .e (.one (.own 2008))), (6, .e (.one (.pure (.val (.int .i64 v1.2))))), (7, .e (.one (.ptr 7 0))), (8, .e (.one (.pure (.val (.int .u8 v7))))), (9, .e (.one (.pure (.val (.int .u8 v6))))), (10, .e (.one (.pure (.val (.int .i64 v11.2))))), (11, .e (.one (.pure (.val (.bool v19.2))))), (15, .e (.one (.pure (.sl (p0.fTables.map Aq))))), (16, .e (.one (.pure (.val (.int .i64 ((p0.fTables.length : Int))))))), (17, .e (.one (.pure (.val (.int .i64 v1.2))))), (39, .e (.one (.pure (.val (.int .i64 ((v4.fOK.length : Int))))))), (40, .e (.one (.pure (.val (.int .i64 v11.2)))))] [(3, .box [.pure (.sl (p1.fBase.map Ai)), .pure (.sl (p1.fNext.map Ai)), .pure (.sl (p1.fHeld.map Bk))]), (7, .box [.pure (.val (.int .i64 v4.fKind)), .pure (.val (.int .i64 v4.fFrom)), .pure (.val (.int .i64 v4.fTo)), .pure (.val (.bool v4.fAware)), .pure (.sl (v4.fOK.map (EQ eB))), .pure (.sl (v4.fRewrite.map (EQ eB)))]), (2008, .vec 3 (v19.1.map Cc))]) (fun _ _ => rfl) (sm [(2007, 2004)] _ _ rfl rfl) (fun j18 n18 v18 h => ?_) (fun v19 s h hs => ?_)
        ·unfold Ej at h
         refine Ab (Aa Ac rfl (AY rfl (Ad (Ab ?_))))
         refine Ao rfl (fun c20 => ?_) (fun c20 => ?_)
         ·have h := Am c20 h
          refine Ar ?_
          refine AP h (fun v21 => mk [(3, .e (.one (.ptr 3 0))), (5, .e (.one (.own 2009))), (6, .e (.one (.pure (.val (.int .i64 v1.2))))), (7, .e (.one (.ptr 7 0))), (8, .e (.one (.pure (.val (.int .u8 v7))))), (9, .e (.one (.pure (.val (.int .u8 v6))))), (10, .e (.one (.pure (.val (.int .i64 v11.2))))), (11, .e (.one (.pure (.val (.bool v21.2))))), (15, .e (.one (.pure (.sl (p0.fTables.map Aq))))), (16, .e (.one (.pure (.val (.int .i64 ((p0.fTables.length : Int))))))), (17, .e (.one (.pure (.val (.int .i64 v1.2))))), (39, .e (.one (.pure (.val (.int .i64 ((v4.fOK.length : Int))))))), (40, .e (.one (.pure (.val (.int .i64 v11.2))))), (52, .e (.one (.pure (.sl (v17.map eB))))), (53, .e (.one (.pure (.val (.int .i64 ((v17.length : Int))))))), (54, .e (.one (.pure (.val (.int .i64 v18.2.2)))))] [(3, .box [.pure (.sl (p1.fBase.map Ai)), .pure (.sl (p1.fNext.map Ai)), .pure (.sl (p1.fHeld.map Bk))]), (7, .box [.pure (.val (.int .i64 v4.fKind)), .pure (.val (.int .i64 v4.fFrom)), .pure (.val (.int .i64 v4.fTo)), .pure (.val (.bool v4.fAware)), .pure (.sl (v4.fOK.map (EQ eB))), .pure (.sl (v4.fRewrite.map (EQ eB)))]), (2009, .vec 3 (v21.1.map Cc))]) (fun j21 h => ?_) (fun v21 h => ?_)
          ·refine AN (Ab (Aa Ac rfl (qm rfl ?_)))
           obtain ⟨v22, a22, b22, h⟩ := Aj h
           refine qi EO Oj a22 (Ag b22) rfl (qk QE rfl (qa rfl (qa rfl (Ad (Ab (Ab (Aa Ac rfl (qm rfl (qm rfl ?_)))))))))
           obtain ⟨c23, h⟩ := AK h
           refine Gz rfl c23 (J1 rfl (BA rfl (Ad ?_)))
           refine Ao rfl (fun c24 => ?_) (fun c24 => ?_)
           ·have h := Am c24 h
            refine AW ?_
            exact Au _ h (sm [(2009, 2007)] _ _ rfl rfl)
           ·have h := Al c24 h
            refine Ar ?_
            refine AP h (fun v25 => mk [(3, .e (.one (.ptr 3 0))), (5, .e (.one (.own 2010))), (6, .e (.one (.pure (.val (.int .i64 v1.2))))), (7, .e (.one (.ptr 7 0))), (8, .e (.one (.pure (.val (.int .u8 v7))))), (9, .e (.one (.pure (.val (.int .u8 v6))))), (10, .e (.one (.pure (.val (.int .i64 v11.2))))), (11, .e (.one (.pure (.val (.bool v25))))), (12, .e (.one (.pure (.val (.int .i64 v18.2.2))))), (13, .e (.one (.pure (.val (.bool v22))))), (15, .e (.one (.pure (.sl (p0.fTables.map Aq))))), (16, .e (.one (.pure (.val (.int .i64 ((p0.fTables.length : Int))))))), (17, .e (.one (.pure (.val (.int .i64 v1.2))))), (39, .e (.one (.pure (.val (.int .i64 ((v4.fOK.length : Int))))))), (40, .e (.one (.pure (.val (.int .i64 v11.2))))), (52, .e (.one (.pure (.sl (v17.map eB))))), (53, .e (.one (.pure (.val (.int .i64 ((v17.length : Int))))))), (54, .e (.one (.pure (.val (.int .i64 v18.2.2)))))] [(3, .box [.pure (.sl (p1.fBase.map Ai)), .pure (.sl (p1.fNext.map Ai)), .pure (.sl (p1.fHeld.map Bk))]), (7, .box [.pure (.val (.int .i64 v4.fKind)), .pure (.val (.int .i64 v4.fFrom)), .pure (.val (.int .i64 v4.fTo)), .pure (.val (.bool v4.fAware)), .pure (.sl (v4.fOK.map (EQ eB))), .pure (.sl (v4.fRewrite.map (EQ eB)))]), (2010, .vec 3 (v18.1.map Cc))]) (fun j25 h => ?_) (fun v25 h => ?_)
            ·refine Aa Ac rfl (qm rfl (qm rfl ?_))
             refine AB (t := 65) rfl (fun c26 => ?_) (fun c26 => ?_)
             ·have h := Am c26 h
              refine qn rfl (qp rfl (qa rfl (Ad ?_)))
              exact Au _ h (sm [(2010, 2007)] _ _ rfl rfl)
             ·have h := Al c26 h
              refine qm rfl (qp rfl (qa rfl (Ad ?_)))
              exact Au _ h (sm [(2010, 2007)] _ _ rfl rfl)
            ·refine AP h (fun v27 => mk [(3, .e (.one (.ptr 3 0))), (5, .e (.one (.own 2011))), (6, .e (.one (.pure (.val (.int .i64 v1.2))))), (7, .e (.one (.ptr 7 0))), (8, .e (.one (.pure (.val (.int .u8 v7))))), (9, .e (.one (.pure (.val (.int .u8 v6))))), (10, .e (.one (.pure (.val (.int .i64 v11.2))))), (11, .e (.one (.pure (.val (.bool v25))))), (12, .e (.one (.pure (.val (.int .i64 v18.2.2))))), (15, .e (.one (.pure (.sl (p0.fTables.map Aq))))), (16, .e (.one (.pure (.val (.int .i64 ((p0.fTables.length : Int))))))), (17, .e (.one (.pure (.val (.int .i64 v1.2))))), (39, .e (.one (.pure (.val (.int .i64 ((v4.fOK.length : Int))))))), (40, .e (.one (.pure (.val (.int .i64 v11.2))))), (52, .e (.one (.pure (.sl (v17.map eB))))), (53, .e (.one (.pure (.val (.int .i64 ((v17.length : Int))))))), (54, .e (.one (.pure (.val (.int .i64 v18.2.2))))), (74, .e (.one (.pure (.val (.bool v27)))))] [(3, .box [.pure (.sl (p1.fBase.map Ai)), .pure (.sl (p1.fNext.map Ai)), .pure (.sl (p1.fHeld.map Bk))]), (7, .box [.pure (.val (.int .i64 v4.fKind)), .pure (.val (.int .i64 v4.fFrom)), .pure (.val (.int .i64 v4.fTo)), .pure (.val (.bool v4.fAware)), .pure (.sl (v4.fOK.map (EQ eB))), .pure (.sl (v4.fRewrite.map (EQ eB)))]), (2011, .vec 3 (v18.1.map Cc))]) (fun j27 h => ?_) (fun v27 h => ?_)
             ·refine Aa Ac rfl (qm rfl (Cu rfl (qm rfl ?_)))
              refine AB (t := 70) rfl (fun c28 => ?_) (fun c28 => ?_)
              ·have h := Am c28 h
               refine qf I5 rfl (ql QE rfl (Cu rfl (qp rfl (Ad ?_))))
               exact Au _ h (sm [(2011, 2010)] _ _ rfl rfl)
              ·have h := Al c28 h
               refine qn rfl (qn rfl (qn rfl (qp rfl (Ad ?_))))
               exact Au _ h (sm [(2011, 2010)] _ _ rfl rfl)
             ·refine Ao rfl (fun c29 => ?_) (fun c29 => ?_)
              ·have h := Am c29 h
               refine Aa Ac rfl (qm rfl (qm rfl (qm rfl (qm rfl (BE Jj OI rfl (D4 I4 H2 Jj rfl ?_))))))
               obtain ⟨c30, h⟩ := AK h
               refine Dx (f := Cc) I4 I4 H2 Qq Jj c30 rfl (qa rfl (Ad ?_))
               exact Au _ h (sm [(2009, 81)] _ _ rfl rfl)
              ·have h := Al c29 h
               refine Ar ?_
               exact Au _ h (sm [(2009, 2011)] _ _ rfl rfl)
          ·refine Aa Ac rfl (AU rfl (qm rfl (Ad ?_)))
           exact Au _ h (sm [(2007, 2009)] _ _ rfl rfl)
         ·have h := Al c20 h
          refine AW ?_
          exact Au _ h (sm [(2008, 2007)] _ _ rfl rfl)
        ·refine Ak hs ?_
         refine AP h (fun v31 => mk [(3, .e (.one (.ptr 3 0))), (5, .e (.one (.own 2012))), (6, .e (.one (.pure (.val (.int .i64 v1.2))))), (7, .e (.one (.ptr 7 0))), (8, .e (.one (.pure (.val (.int .u8 v7))))), (9, .e (.one (.pure (.val (.int .u8 v6))))), (10, .e (.one (.pure (.val (.int .i64 v11.2))))), (15, .e (.one (.pure (.sl (p0.fTables.map Aq))))), (16, .e (.one (.pure (.val (.int .i64 ((p0.fTables.length : Int))))))), (17, .e (.one (.pure (.val (.int .i64 v1.2))))), (39, .e (.one (.pure (.val (.int .i64 ((v4.fOK.length : Int))))))), (40, .e (.one (.pure (.val (.int .i64 v11.2))))), (88, .e (.one (.pure (.val (.bool v31)))))] [(3, .box [.pure (.sl (p1.fBase.map Ai)), .pure (.sl (p1.fNext.map Ai)), .pure (.sl (p1.fHeld.map Bk))]), (7, .box [.pure (.val (.int .i64 v4.fKind)), .pure (.val (.int .i64 v4.fFrom)), .pure (.val (.int .i64 v4.fTo)), .pure (.val (.bool v4.fAware)), .pure (.sl (v4.fOK.map (EQ eB))), .pure (.sl (v4.fRewrite.map (EQ eB)))]), (2012, .vec 3 (v19.1.map Cc))]) (fun j31 h => ?_) (fun v31 h => ?_)
         ·refine Aa Ac rfl (qf I5 rfl (ql QE rfl (qm rfl ?_)))
          refine AB (t := 85) rfl (fun c32 => ?_) (fun c32 => ?_)
          ·have h := Am c32 h
           refine qm rfl (Cu rfl (qp rfl (Ad ?_)))
           exact Au _ h (sm [(2012, 2008)] _ _ rfl rfl)
          ·have h := Al c32 h
           refine qn rfl (qn rfl (qp rfl (Ad ?_)))
           exact Au _ h (sm [(2012, 2008)] _ _ rfl rfl)
         ·refine Ao rfl (fun c33 => ?_) (fun c33 => ?_)
          ·have h := Am c33 h
           refine Aa Ac rfl (qm rfl (qm rfl (qm rfl (BE Jj OI rfl (D4 I4 H2 Jj rfl ?_)))))
           obtain ⟨c34, h⟩ := AK h
           refine Dx (f := Cc) I4 I4 H2 Qq Jj c34 rfl (qa rfl (Ad ?_))
           exact Au _ h (sm [(2006, 94)] _ _ rfl rfl)
          ·have h := Al c33 h
           refine Ar ?_
           exact Au _ h (sm [(2006, 2012)] _ _ rfl rfl)
      ·refine Aa Ac rfl (AU rfl (qm rfl (Ad ?_)))
       exact Au _ h (sm [(2004, 2006)] _ _ rfl rfl)
     ·have h := Al c13 h
      refine AW ?_
      exact Au _ h (sm [(2005, 2004)] _ _ rfl rfl)
    ·refine Ak hs (Aa Ac rfl (AU rfl (qm rfl (Ad ?_))))
     exact Au _ h (sm [(2001, 2005)] _ _ rfl rfl)
  ·have h := Al c3 h
   refine AW ?_
   exact Au _ h (sm [(2002, 2001)] _ _ rfl rfl)
 ·refine Ak hs (Ab (Aa Ac rfl (qm rfl (qa rfl (Ad ?_)))))
  obtain rfl := sj h
  refine Ak (sm [(1000, 2002)] [(4, .e (.one (.own 1000)))] [(1000, .vec 3 (v2.map Cc))] rfl rfl) (Ax ?_)
  exact ⟨⟨[_], ⟨.tmp _ _ rfl, trivial⟩, rfl⟩, ⟨rfl, trivial⟩⟩
set_option maxRecDepth 10000 in
theorem Nr (N : Nat) (p0 : Ah) (p1 : Ae) (r : Ae × AT × Int) (h : Ii N p0 p1 = some r) : Az Tryz.prog 68 [.e (.agg [.pure (.sl (p0.fVersions.map Ai)), .pure (.sl (p0.fNow.map Ai)), .pure (.sl (p0.fTarget.map Ai)), .pure (.sl (p0.fTables.map Aq))]), .e (.agg [.pure (.sl (p1.fBase.map Ai)), .pure (.sl (p1.fNext.map Ai)), .pure (.sl (p1.fHeld.map Bk))])] [] (.tup [.agg [.pure (.sl (r.1.fBase.map Ai)), .pure (.sl (r.1.fNext.map Ai)), .pure (.sl (r.1.fHeld.map Bk))], .agg [.pure (.val (.int .i64 r.2.1.fTable)), .pure (.val (.int .i64 r.2.1.fWriter)), .pure (.val (.int .i64 r.2.1.fReader))], .one (.pure (.val (.int .i64 r.2.2)))]) := by
 unfold Ii at h
 refine As (n := 42) (rs := [.cell 4 50, .cell 5 113, .tmp 6]) Tryz.func68 rfl rfl rfl (A1 rfl) (A1 rfl) rfl fun w0 S0 => ?_
 refine Ab (Aa Ac rfl (qb rfl (qb rfl (qz Ct rfl (qz Jj rfl (qa rfl (Ad (Ab (Aa Ac rfl (qL DY DI rfl (qL AV Av rfl ?_)))))))))))
 obtain ⟨v1, a1, h⟩ := bind_some h
 refine AD [2001] (JF N p0 p1 v1 a1) Ty rfl (qm rfl (qx rfl (qx rfl (qa rfl (qa rfl (Ad (Ab (Ab (Aa Ac rfl (qm rfl (BX rfl (Ad ?_))))))))))))
 refine Ao rfl (fun c2 => ?_) (fun c2 => ?_)
 ·have h := Am c2 h
  refine Ab (Aa Ac rfl (BE Ct GE rfl (BE Jj OI rfl (qm rfl (qs Av rfl (qs H2 rfl (qa rfl (Ad ?_))))))))
  obtain rfl := sj h
  refine Ak ((H6 4 _ rfl).trans (sm [] [(4, .e (.one (.ptr 4 0))), (5, .e (.one (.ptr 5 0))), (6, .e (.one (.pure (.val (.int .i64 v1.2)))))] [(4, .box [.pure (.sl ((([] : List Int)).map Ai)), .pure (.sl ((([] : List Int)).map Ai)), .pure (.sl ((([] : List Int)).map Bk))]), (5, .box [.pure (.val (.int .i64 0)), .pure (.val (.int .i64 0)), .pure (.val (.int .i64 0))])] rfl rfl)) (Ax ?_)
  exact ⟨⟨[_, _, _], ⟨.cellN _ _ _ _ _ _ _ rfl rfl AV Av rfl rfl (HC rfl), ⟨.cellN _ _ _ _ _ _ _ rfl rfl OR H2 rfl rfl (HC rfl), ⟨.tmp _ _ rfl, trivial⟩⟩⟩, rfl⟩, trivial⟩
 ·have h := Al c2 h
  refine Ar (Ab (Ab (Aa Ac rfl (qm rfl (DZ AL rfl (qm rfl (Ad ?_)))))))
  refine AJ (L := FR N p0 v1) h (fun v3 => mk [(2, .e (.one (.ptr 2 0))), (4, .e (.one (.ptr 4 0))), (5, .e (.one (.ptr 5 0))), (23, .e (.one (.own 2002))), (24, .e (.one (.pure (.val (.int .i64 ((v1.1.length : Int))))))), (25, .e (.one (.pure (.val (.int .i64 v3)))))] [(2, .box [.pure (.sl (p0.fVersions.map Ai)), .pure (.sl (p0.fNow.map Ai)), .pure (.sl (p0.fTarget.map Ai)), .pure (.sl (p0.fTables.map Aq))]), (4, .box [.pure (.nil0), .pure (.nil0), .pure (.nil0)]), (5, .box [.pure (.val (.int .i64 0)), .pure (.val (.int .i64 0)), .pure (.val (.int .i64 0))]), (2002, .vec 3 (v1.1.map Af))]) (fun v4 => mk [(4, .e (.one (.ptr 4 0))), (5, .e (.one (.ptr 5 0)))] [(4, .box [.pure (.nil0), .pure (.nil0), .pure (.nil0)]), (5, .box [.pure (.val (.int .i64 0)), .pure (.val (.int .i64 0)), .pure (.val (.int .i64 0))])]) (fun _ _ => rfl) (sm [(2002, 2001)] _ _ rfl rfl) (fun j3 n3 v3 h => ?_) (fun v4 s h hs => ?_)
  ·unfold FR at h
   refine Ab (Aa Ac rfl (AY rfl (Ad (Ab ?_))))
   refine Ao rfl (fun c5 => ?_) (fun c5 => ?_)
   ·have h := Am c5 h
    refine Ar (Ab (AN (Ab (Aa Ac rfl ?_))))
    obtain ⟨v6, a6, b6, h⟩ := Aj h
    refine qI AL Av a6 (Ag b6) rfl (qJ AV Av (Ag b6) rfl (qz Ct rfl (qs Av rfl (Ad (Ab (Aa Ac rfl (qL DY DI rfl (qL AV Av rfl ?_))))))))
    obtain ⟨v7, a7, h⟩ := bind_some h
    refine AD [2003] (KS N p0 v6 v7 a7) Ud rfl (qa rfl (Ad (Ab (Aa Ac rfl (qm rfl (DZ I4 rfl (Ew rfl (Ad ?_))))))))
    refine Ao rfl (fun c8 => ?_) (fun c8 => ?_)
    ·have h := Am c8 h
     refine Ab (Aa Ac rfl (qL AV Av rfl (qm rfl ?_)))
     obtain ⟨v9, a9, b9, h⟩ := Aj h
     refine qI I4 H2 a9 (Ag b9) rfl (qJ OR H2 (Ag b9) rfl (qs Av rfl (qs H2 rfl (qa rfl (AI (by kernel_rfl) ?_)))))
     obtain rfl := sj h
     refine Ak (sm [] [(4, .e (.one (.ptr 4 0))), (5, .e (.one (.ptr 5 0))), (6, .e (.one (.pure (.val (.int .i64 0)))))] [(4, .box [.pure (.sl (v6.fBase.map Ai)), .pure (.sl (v6.fNext.map Ai)), .pure (.sl (v6.fHeld.map Bk))]), (5, .box [.pure (.val (.int .i64 v9.fTable)), .pure (.val (.int .i64 v9.fWriter)), .pure (.val (.int .i64 v9.fReader))])] rfl rfl) (Ax ?_)
     exact ⟨⟨[_, _, _], ⟨.cellN _ _ _ _ _ _ _ rfl rfl AV Av rfl rfl (HC rfl), ⟨.cellN _ _ _ _ _ _ _ rfl rfl OR H2 rfl rfl (HC rfl), ⟨.tmp _ _ rfl, trivial⟩⟩⟩, rfl⟩, trivial⟩
    ·have h := Al c8 h
     refine Ar (Aa Ac rfl (AU rfl (qm rfl (Ad ?_))))
     exact Au _ h (sm [] _ _ rfl rfl)
   ·have h := Al c5 h
    refine AW ?_
    exact Au _ h (sm [] _ _ rfl rfl)
  ·refine Ak hs (Ab (Aa Ac rfl (BE Ct GE rfl (BE Jj OI rfl (qs Av rfl (qs H2 rfl (qa rfl (Ad ?_))))))))
   obtain rfl := sj h
   refine Ak ((H6 4 _ rfl).trans (sm [] [(4, .e (.one (.ptr 4 0))), (5, .e (.one (.ptr 5 0))), (6, .e (.one (.pure (.val (.int .i64 15)))))] [(4, .box [.pure (.sl ((([] : List Int)).map Ai)), .pure (.sl ((([] : List Int)).map Ai)), .pure (.sl ((([] : List Int)).map Bk))]), (5, .box [.pure (.val (.int .i64 0)), .pure (.val (.int .i64 0)), .pure (.val (.int .i64 0))])] rfl rfl)) (Ax ?_)
   exact ⟨⟨[_, _, _], ⟨.cellN _ _ _ _ _ _ _ rfl rfl AV Av rfl rfl (HC rfl), ⟨.cellN _ _ _ _ _ _ _ rfl rfl OR H2 rfl rfl (HC rfl), ⟨.tmp _ _ rfl, trivial⟩⟩⟩, rfl⟩, trivial⟩
set_option maxRecDepth 10000 in
theorem Iy (N : Nat) (p0 : Ah) (p1 : Ae) (r : Bool × Int) (h : FJ N p0 p1 = some r) : Az Tryz.prog 45 [.e (.agg [.pure (.sl (p0.fVersions.map Ai)), .pure (.sl (p0.fNow.map Ai)), .pure (.sl (p0.fTarget.map Ai)), .pure (.sl (p0.fTables.map Aq))]), .e (.agg [.pure (.sl (p1.fBase.map Ai)), .pure (.sl (p1.fNext.map Ai)), .pure (.sl (p1.fHeld.map Bk))])] [] (.tup [.one (.pure (.val (.bool r.1))), .one (.pure (.val (.int .i64 r.2)))]) := by
 unfold FJ at h
 refine As (n := 22) (rs := [.tmp 4, .tmp 5]) Tryz.func45 rfl rfl rfl (A1 rfl) (A1 rfl) rfl fun w0 S0 => ?_
 refine Ab (Aa Ac rfl (qb rfl (qb rfl (qa rfl (qa rfl (Ad (Ab (Aa Ac rfl (qL DY DI rfl (qL AV Av rfl ?_))))))))))
 obtain ⟨v1, a1, h⟩ := bind_some h
 refine AD [] (Nr N p0 p1 v1 a1) UL rfl (qm rfl (qx rfl (qx rfl (qx rfl (qz Ct rfl (qz Jj rfl (qs Av rfl (qs H2 rfl (qa rfl (Ad (Ab (Aa Ac rfl (qm rfl (Ad (AN (Ab (Aa Ac rfl (BA rfl (qa rfl (Ad ?_))))))))))))))))))))
 refine Ao rfl (fun c2 => ?_) (fun c2 => ?_)
 ·have h := Am c2 h
  refine Ab (Aa Ac rfl (qa rfl (qa rfl (Ad ?_))))
  obtain rfl := sj h
  refine Ak (sm [] [(4, .e (.one (.pure (.val (.bool false))))), (5, .e (.one (.pure (.val (.int .i64 0)))))] [] rfl rfl) (Ax ?_)
  exact ⟨⟨[_, _], ⟨.tmp _ _ rfl, ⟨.tmp _ _ rfl, trivial⟩⟩, rfl⟩, trivial⟩
 ·have h := Al c2 h
  refine Ab (Aa Ac rfl (BA rfl (qa rfl (Ad ?_))))
  refine Ao rfl (fun c3 => ?_) (fun c3 => ?_)
  ·have h := Am c3 h
   refine Ab (Aa Ac rfl (qa rfl (qa rfl (Ad ?_))))
   obtain rfl := sj h
   refine Ak (sm [] [(4, .e (.one (.pure (.val (.bool true))))), (5, .e (.one (.pure (.val (.int .i64 0)))))] [] rfl rfl) (Ax ?_)
   exact ⟨⟨[_, _], ⟨.tmp _ _ rfl, ⟨.tmp _ _ rfl, trivial⟩⟩, rfl⟩, trivial⟩
  ·have h := Al c3 h
   refine Ab (Aa Ac rfl (qm rfl (qa rfl (qa rfl (Ad ?_)))))
   obtain rfl := sj h
   refine Ak (sm [] [(4, .e (.one (.pure (.val (.bool false))))), (5, .e (.one (.pure (.val (.int .i64 v1.2.2)))))] [] rfl rfl) (Ax ?_)
   exact ⟨⟨[_, _], ⟨.tmp _ _ rfl, ⟨.tmp _ _ rfl, trivial⟩⟩, rfl⟩, trivial⟩
set_option maxRecDepth 10000 in
theorem Jg (N : Nat) (p0 : Ah) (r : Ae × Bool × Int) (h : Gj N p0 = some r) : Az Tryz.prog 47 [.e (.agg [.pure (.sl (p0.fVersions.map Ai)), .pure (.sl (p0.fNow.map Ai)), .pure (.sl (p0.fTarget.map Ai)), .pure (.sl (p0.fTables.map Aq))])] [(1, r.1.fBase.map Ai), (1, r.1.fNext.map Ai), (1, r.1.fHeld.map Bk)] (.tup [.agg [.own 0, .own 1, .own 2], .one (.pure (.val (.bool r.2.1))), .one (.pure (.val (.int .i64 r.2.2)))]) := by
 unfold Gj at h
 refine As (n := 26) (rs := [.cell 2 50, .tmp 3, .tmp 4]) Tryz.func47 rfl rfl rfl (A1 rfl) (A1 rfl) rfl fun w0 S0 => ?_
 refine Ab (Aa Ac rfl (qb rfl (qz Ct rfl (qa rfl (qa rfl (Ad (Ab (Aa Ac rfl (qL DY DI rfl ?_)))))))))
 obtain ⟨v1, a1, h⟩ := bind_some h
 refine AD [2001, 2002, 2003] (KI N p0 v1 a1) TU rfl (qm rfl (qx rfl (qx rfl (qz Ct rfl (qs Av rfl (qa rfl (Ad (Ab (Ab (Aa Ac rfl (qm rfl (BX rfl (Ad ?_)))))))))))))
 refine Ao rfl (fun c2 => ?_) (fun c2 => ?_)
 ·have h := Am c2 h
  refine Ab (Aa Ac rfl (BE Ct GE rfl (qm rfl (qs Av rfl (qa rfl (qa rfl (Ad ?_)))))))
  obtain rfl := sj h
  refine Ak ((AA 2 0 2004 1 _ rfl rfl rfl rfl).trans ((AA 2 1 2005 1 _ rfl rfl rfl rfl).trans ((AA 2 2 2006 1 _ rfl rfl rfl rfl).trans (sm [(1000, 2004), (1001, 2005), (1002, 2006)] [(2, .e (.one (.ptr 2 0))), (3, .e (.one (.pure (.val (.bool false))))), (4, .e (.one (.pure (.val (.int .i64 v1.2)))))] [(2, .box [.own 1000, .own 1001, .own 1002]), (1000, .vec 1 ((([] : List Int)).map Ai)), (1001, .vec 1 ((([] : List Int)).map Ai)), (1002, .vec 1 ((([] : List Int)).map Bk))] rfl rfl)))) (Ax ?_)
  exact ⟨⟨[_, _, _], ⟨.cellN _ _ _ _ _ _ _ rfl rfl AV Av rfl rfl (HC rfl), ⟨.tmp _ _ rfl, ⟨.tmp _ _ rfl, trivial⟩⟩⟩, rfl⟩, ⟨rfl, rfl, rfl, trivial⟩⟩
 ·have h := Al c2 h
  refine Ar (Ab (Aa Ac rfl (qL DY DI rfl (qL AV Av rfl ?_))))
  obtain ⟨v3, a3, h⟩ := bind_some h
  refine GN [] [2001, 2002, 2003] (Iy N p0 v1.1 v3 a3) SF EY rfl (qm rfl (qx rfl (qx rfl (qa rfl (qa rfl (Ad (Ab (Aa Ac rfl (qL AV Av rfl (qm rfl (qm rfl (qs Av rfl (qa rfl (qa rfl (Ad ?_)))))))))))))))
  obtain rfl := sj h
  refine Ak (sm [(1000, 2001), (1001, 2002), (1002, 2003)] [(2, .e (.one (.ptr 2 0))), (3, .e (.one (.pure (.val (.bool v3.1))))), (4, .e (.one (.pure (.val (.int .i64 v3.2)))))] [(2, .box [.own 1000, .own 1001, .own 1002]), (1000, .vec 1 (v1.1.fBase.map Ai)), (1001, .vec 1 (v1.1.fNext.map Ai)), (1002, .vec 1 (v1.1.fHeld.map Bk))] rfl rfl) (Ax ?_)
  exact ⟨⟨[_, _, _], ⟨.cellN _ _ _ _ _ _ _ rfl rfl AV Av rfl rfl (HC rfl), ⟨.tmp _ _ rfl, ⟨.tmp _ _ rfl, trivial⟩⟩⟩, rfl⟩, ⟨rfl, rfl, rfl, trivial⟩⟩
set_option maxRecDepth 10000 in
theorem I0 (N : Nat) (p0 : Ae) (r : ByteArray) (h : Gs N p0 = some r) : Az Tryz.prog 48 [.e (.agg [.pure (.sl (p0.fBase.map Ai)), .pure (.sl (p0.fNext.map Ai)), .pure (.sl (p0.fHeld.map Bk))])] [] (.e (.one (.pure (.val (.string r))))) := by
 unfold Gs at h
 refine As (n := 44) (rs := [.tmp 2]) Tryz.func48 rfl rfl rfl (A1 rfl) (A1 rfl) rfl fun w0 S0 => ?_
 refine Ab (Aa Ac rfl (qb rfl (qa rfl (Ad (Ab (Aa Ac rfl (qa rfl (Ad (Ab (Ab (Aa Ac rfl (qf CB rfl (ql Bc rfl (AR AE rfl (qm rfl (Ad ?_))))))))))))))))
 refine AJ (L := FL N p0) h (fun v1 => mk [(1, .e (.one (.ptr 1 0))), (3, .e (.one (.own 2001))), (9, .e (.one (.pure (.val (.int .i64 ((p0.fBase.length : Int))))))), (10, .e (.one (.pure (.val (.int .i64 v1.2)))))] [(1, .box [.pure (.sl (p0.fBase.map Ai)), .pure (.sl (p0.fNext.map Ai)), .pure (.sl (p0.fHeld.map Bk))]), (2001, .vec 1 (v1.1.map Bk))]) (fun v2 => mk [(1, .e (.one (.ptr 1 0))), (3, .e (.one (.own 2002)))] [(1, .box [.pure (.sl (p0.fBase.map Ai)), .pure (.sl (p0.fNext.map Ai)), .pure (.sl (p0.fHeld.map Bk))]), (2002, .vec 1 (v2.map Bk))]) (fun _ _ => rfl) ((Bo 3 2003 1 rfl rfl rfl).trans (sm [(2001, 2003)] _ _ rfl rfl)) (fun j1 n1 v1 h => ?_) (fun v2 s h hs => ?_)
 ·unfold FL at h
  refine Ab (Aa Ac rfl (AY rfl (Ad (Ab ?_))))
  refine Ao rfl (fun c3 => ?_) (fun c3 => ?_)
  ·have h := Am c3 h
   refine Ar (Ab (AN (Ab (Aa Ac rfl (qm rfl (qa rfl (Ad (Aa Ac rfl (qm rfl (qf CB rfl (ql Bc rfl (qm rfl ?_))))))))))))
   obtain ⟨v4, a4, b4, h⟩ := Aj h
   refine qi AE Dm a4 (Ag b4) rfl (qk Ci rfl (F8 Su T5 rfl (qf BR rfl (ql Bc rfl (qm rfl ?_)))))
   obtain ⟨v5, a5, b5, h⟩ := Aj h
   refine qi AE Dm a5 (Ag b5) rfl (qk Ci rfl (AU rfl (F8 Su T5 rfl (D4 HM RM T1 rfl ?_))))
   obtain ⟨c6, h⟩ := AK h
   refine Dx (f := Bk) HM HM RM Tx T1 c6 rfl (qa rfl (AI (by kernel_rfl) (Aa Ac rfl (AU rfl (qm rfl (Ad ?_))))))
   exact Au _ h (sm [(2001, 28)] _ _ rfl rfl)
  ·have h := Al c3 h
   refine AW ?_
   exact Au _ h (sm [(2002, 2001)] _ _ rfl rfl)
 ·refine Ak hs (Ab (Ab (Aa Ac rfl (qf Cx rfl (ql Gq rfl (AR C5 rfl (qm rfl (Ad ?_))))))))
  refine AJ (L := FQ N p0) h (fun v7 => mk [(3, .e (.one (.own 2004))), (31, .e (.one (.pure (.sl (p0.fHeld.map Bk))))), (32, .e (.one (.pure (.val (.int .i64 ((p0.fHeld.length : Int))))))), (33, .e (.one (.pure (.val (.int .i64 v7.2)))))] [(2004, .vec 1 (v7.1.map Bk))]) (fun v8 => mk [(3, .e (.one (.own 2005)))] [(2005, .vec 1 (v8.map Bk))]) (fun _ _ => rfl) (sm [(2004, 2002)] _ _ rfl rfl) (fun j7 n7 v7 h => ?_) (fun v8 s h hs => ?_)
  ·unfold FQ at h
   refine Ab (Aa Ac rfl (AY rfl (Ad (Ab ?_))))
   refine Ao rfl (fun c9 => ?_) (fun c9 => ?_)
   ·have h := Am c9 h
    refine Ar (Ab (AN (Ab (Aa Ac rfl ?_))))
    obtain ⟨v10, a10, b10, h⟩ := Aj h
    refine qi C5 Fa a10 (Ag b10) rfl (qk IF rfl (qa rfl (Ad (Aa Ac rfl (qm rfl (qm rfl (D4 HM RM T1 rfl ?_)))))))
    obtain ⟨c11, h⟩ := AK h
    refine Dx (f := Bk) HM HM RM Tx T1 c11 rfl (qa rfl (Ad (Aa Ac rfl (AU rfl (qm rfl (Ad ?_))))))
    exact Au _ h (sm [(2004, 40)] _ _ rfl rfl)
   ·have h := Al c9 h
    refine AW ?_
    exact Au _ h (sm [(2005, 2004)] _ _ rfl rfl)
  ·refine Ak hs (Ab (Aa Ac rfl (qm rfl ?_)))
   refine P8 v8 (.p rfl) rfl (PQ Bk _ _ _) ⟨rfl, trivial⟩ rfl Tq Rp ?_
   refine qa rfl (Ad ?_)
   obtain rfl := sj h
   refine Ak (sm [] [(2, .e (.one (.pure (.val (.string ((HP v8)))))))] [] rfl rfl) (Ax ?_)
   exact ⟨⟨[_], ⟨.tmp _ _ rfl, trivial⟩, rfl⟩, trivial⟩
end Go.Lift

/- That the code does what the shallow programs do, function by function. Written by a program (gen.py). -/
namespace Go.Lift
open Go.RowKit
open Go.Proofs
set_option maxRecDepth 10000 in
theorem Ox (N : Nat) (p0 : Ah) (r : (List Ap)) (h : IJ N p0 = some r) : Az Tryz.prog 96 [.e (.agg [.pure (.sl (p0.fVersions.map Ai)), .pure (.sl (p0.fNow.map Ai)), .pure (.sl (p0.fTarget.map Ai)), .pure (.sl (p0.fTables.map Aq))])] [(3, r.map AF)] (.e (.one (.own 0))) := by
 unfold IJ at h
 refine As (n := 54) (rs := [.tmp 2]) Tryz.func96 rfl rfl rfl (A1 rfl) (A1 rfl) rfl fun w0 S0 => ?_
 refine Ab (Aa Ac rfl (qb rfl (qa rfl (Ad (Ab (Aa Ac rfl (qa rfl (Ad (Ab (Ab (Aa Ac rfl (qf Bs rfl (ql Bc rfl (AR AE rfl (qm rfl (Ad ?_))))))))))))))))
 refine AJ (L := Gr N p0) h (fun v1 => mk [(1, .e (.one (.ptr 1 0))), (3, .e (.one (.own 2001))), (10, .e (.one (.pure (.sl (p0.fVersions.map Ai))))), (11, .e (.one (.pure (.val (.int .i64 ((p0.fVersions.length : Int))))))), (12, .e (.one (.pure (.val (.int .i64 v1.2)))))] [(1, .box [.pure (.sl (p0.fVersions.map Ai)), .pure (.sl (p0.fNow.map Ai)), .pure (.sl (p0.fTarget.map Ai)), .pure (.sl (p0.fTables.map Aq))]), (2001, .vec 3 (v1.1.map AF))]) (fun v2 => mk [(1, .e (.one (.ptr 1 0))), (3, .e (.one (.own 2002)))] [(1, .box [.pure (.sl (p0.fVersions.map Ai)), .pure (.sl (p0.fNow.map Ai)), .pure (.sl (p0.fTarget.map Ai)), .pure (.sl (p0.fTables.map Aq))]), (2002, .vec 3 (v2.map AF))]) (fun _ _ => rfl) ((Bo 3 2005 3 rfl rfl rfl).trans (sm [(2001, 2005)] _ _ rfl rfl)) (fun j1 n1 v1 h => ?_) (fun v2 s h hs => ?_)
 ·unfold Gr at h
  refine Ab (Aa Ac rfl (AY rfl (Ad (Ab ?_))))
  refine Ao rfl (fun c3 => ?_) (fun c3 => ?_)
  ·have h := Am c3 h
   refine Ar (Ab (AN (Ab (Aa Ac rfl (qm rfl ?_)))))
   obtain ⟨v4, a4, b4, h⟩ := Aj h
   refine qi AE Dm a4 (Ag b4) rfl (qk Ci rfl (qa rfl (qa rfl (Ad (Ab (Aa Ac rfl (qm rfl (qm rfl (Ad ?_)))))))))
   refine AJ (L := Gi N v1 v4) h (fun v5 => mk [(1, .e (.one (.ptr 1 0))), (3, .e (.one (.own 2003))), (4, .e (.one (.pure (.val (.int .i64 v1.2))))), (10, .e (.one (.pure (.sl (p0.fVersions.map Ai))))), (11, .e (.one (.pure (.val (.int .i64 ((p0.fVersions.length : Int))))))), (12, .e (.one (.pure (.val (.int .i64 v1.2))))), (17, .e (.one (.pure (.val (.int .i64 v4))))), (18, .e (.one (.pure (.val (.int .i64 v5.2)))))] [(1, .box [.pure (.sl (p0.fVersions.map Ai)), .pure (.sl (p0.fNow.map Ai)), .pure (.sl (p0.fTarget.map Ai)), .pure (.sl (p0.fTables.map Aq))]), (2003, .vec 3 (v5.1.map AF))]) (fun v6 => mk [(1, .e (.one (.ptr 1 0))), (3, .e (.one (.own 2004))), (10, .e (.one (.pure (.sl (p0.fVersions.map Ai))))), (11, .e (.one (.pure (.val (.int .i64 ((p0.fVersions.length : Int))))))), (12, .e (.one (.pure (.val (.int .i64 v1.2)))))] [(1, .box [.pure (.sl (p0.fVersions.map Ai)), .pure (.sl (p0.fNow.map Ai)), .pure (.sl (p0.fTarget.map Ai)), .pure (.sl (p0.fTables.map Aq))]), (2004, .vec 3 (v6.map AF))]) (fun _ _ => rfl) (sm [(2003, 2001)] _ _ rfl rfl) (fun j5 n5 v5 h => ?_) (fun v6 s h hs => ?_)
   ·unfold Gi at h
    refine Ab (Aa Ac rfl (AY rfl (Ad (Ab ?_))))
    refine Ao rfl (fun c7 => ?_) (fun c7 => ?_)
    ·have h := Am c7 h
     refine Ar (Ab (AN (Ab (Aa Ac rfl (qm rfl (qa rfl (Ad (Aa Ac rfl (qm rfl (qm rfl (qm rfl (BE HW Rz rfl (D4 Db Ee HW rfl ?_)))))))))))))
     obtain ⟨c8, h⟩ := AK h
     refine Dx (f := AF) Db Db Ee MD HW c8 rfl (qa rfl (Ad (Aa Ac rfl (AU rfl (qm rfl (Ad ?_))))))
     exact Au _ h (sm [(2003, 26)] _ _ rfl rfl)
    ·have h := Al c7 h
     refine AW ?_
     exact Au _ h (sm [(2004, 2003)] _ _ rfl rfl)
   ·refine Ak hs (Aa Ac rfl (AU rfl (qm rfl (Ad ?_))))
    exact Au _ h (sm [(2001, 2004)] _ _ rfl rfl)
  ·have h := Al c3 h
   refine AW ?_
   exact Au _ h (sm [(2002, 2001)] _ _ rfl rfl)
 ·refine Ak hs (Ab (Ab (Aa Ac rfl (qf Bs rfl (ql Bc rfl (AR AE rfl (qm rfl (Ad ?_))))))))
  refine AJ (L := Gl N p0) h (fun v9 => mk [(1, .e (.one (.ptr 1 0))), (3, .e (.one (.own 2006))), (31, .e (.one (.pure (.val (.int .i64 ((p0.fVersions.length : Int))))))), (32, .e (.one (.pure (.val (.int .i64 v9.2)))))] [(1, .box [.pure (.sl (p0.fVersions.map Ai)), .pure (.sl (p0.fNow.map Ai)), .pure (.sl (p0.fTarget.map Ai)), .pure (.sl (p0.fTables.map Aq))]), (2006, .vec 3 (v9.1.map AF))]) (fun v10 => mk [(1, .e (.one (.ptr 1 0))), (3, .e (.one (.own 2007)))] [(1, .box [.pure (.sl (p0.fVersions.map Ai)), .pure (.sl (p0.fNow.map Ai)), .pure (.sl (p0.fTarget.map Ai)), .pure (.sl (p0.fTables.map Aq))]), (2007, .vec 3 (v10.map AF))]) (fun _ _ => rfl) (sm [(2006, 2002)] _ _ rfl rfl) (fun j9 n9 v9 h => ?_) (fun v10 s h hs => ?_)
  ·unfold Gl at h
   refine Ab (Aa Ac rfl (AY rfl (Ad (Ab ?_))))
   refine Ao rfl (fun c11 => ?_) (fun c11 => ?_)
   ·have h := Am c11 h
    refine Ar (Ab (AN (Ab (Aa Ac rfl (qm rfl (qa rfl (Ad (Aa Ac rfl (qm rfl (qm rfl (BE HW Rz rfl (D4 Db Ee HW rfl ?_))))))))))))
    obtain ⟨c12, h⟩ := AK h
    refine Dx (f := AF) Db Db Ee MD HW c12 rfl (qa rfl (Ad (Aa Ac rfl (AU rfl (qm rfl (Ad ?_))))))
    exact Au _ h (sm [(2006, 39)] _ _ rfl rfl)
   ·have h := Al c11 h
    refine AW ?_
    exact Au _ h (sm [(2007, 2006)] _ _ rfl rfl)
  ·refine Ak hs (Ab (Ab (Aa Ac rfl (qf CO rfl (ql GV rfl (AR DR rfl (qm rfl (Ad ?_))))))))
   refine AJ (L := FK N p0) h (fun v13 => mk [(3, .e (.one (.own 2008))), (43, .e (.one (.pure (.val (.int .i64 ((p0.fTables.length : Int))))))), (44, .e (.one (.pure (.val (.int .i64 v13.2)))))] [(2008, .vec 3 (v13.1.map AF))]) (fun v14 => mk [(3, .e (.one (.own 2009)))] [(2009, .vec 3 (v14.map AF))]) (fun _ _ => rfl) (sm [(2008, 2007)] _ _ rfl rfl) (fun j13 n13 v13 h => ?_) (fun v14 s h hs => ?_)
   ·unfold FK at h
    refine Ab (Aa Ac rfl (AY rfl (Ad (Ab ?_))))
    refine Ao rfl (fun c15 => ?_) (fun c15 => ?_)
    ·have h := Am c15 h
     refine Ar (Ab (AN (Ab (Aa Ac rfl (qm rfl (qa rfl (Ad (Aa Ac rfl (qm rfl (qm rfl (BE HW Rz rfl (D4 Db Ee HW rfl ?_))))))))))))
     obtain ⟨c16, h⟩ := AK h
     refine Dx (f := AF) Db Db Ee MD HW c16 rfl (qa rfl (Ad (Aa Ac rfl (AU rfl (qm rfl (Ad ?_))))))
     exact Au _ h (sm [(2008, 51)] _ _ rfl rfl)
    ·have h := Al c15 h
     refine AW ?_
     exact Au _ h (sm [(2009, 2008)] _ _ rfl rfl)
   ·refine Ak hs (Ab (Aa Ac rfl (qm rfl (qa rfl (Ad ?_)))))
    obtain rfl := sj h
    refine Ak (sm [(1000, 2009)] [(2, .e (.one (.own 1000)))] [(1000, .vec 3 (v14.map AF))] rfl rfl) (Ax ?_)
    exact ⟨⟨[_], ⟨.tmp _ _ rfl, trivial⟩, rfl⟩, ⟨rfl, trivial⟩⟩
set_option maxRecDepth 10000 in
theorem Jf (N : Nat) (p0 : Ae) (r : Ae) (h : Ez N p0 = some r) : Az Tryz.prog 78 [.e (.agg [.pure (.sl (p0.fBase.map Ai)), .pure (.sl (p0.fNext.map Ai)), .pure (.sl (p0.fHeld.map Bk))])] [(1, r.fBase.map Ai), (1, r.fNext.map Ai), (1, r.fHeld.map Bk)] (.e (.agg [.own 0, .own 1, .own 2])) := by
 unfold Ez at h
 refine As (n := 13) (rs := [.cell 2 50]) Tryz.func78 rfl rfl rfl (A1 rfl) (A1 rfl) rfl fun w0 S0 => ?_
 refine Ab (Aa Ac rfl (qb rfl (qz Ct rfl (Ad (Ab (Aa Ac rfl (qf CB rfl (ql Bc rfl ?_))))))))
 obtain ⟨v1, a1, h⟩ := bind_some h
 refine AD [2001] (Dl N p0.fBase v1 a1) Qk rfl (qf BR rfl (ql Bc rfl ?_))
 obtain ⟨v2, a2, h⟩ := bind_some h
 refine AD [2002] (Dl N p0.fNext v2 a2) Qk rfl (qf Cx rfl (ql Gq rfl ?_))
 obtain ⟨v3, a3, h⟩ := bind_some h
 refine AD [2003] (ED N p0.fHeld v3 a3) TI rfl (BE Ct GE rfl (qs Av rfl (AI (by kernel_rfl) ?_)))
 obtain rfl := sj h
 refine Ak (sm [(1000, 2001), (1001, 2002), (1002, 2003)] [(2, .e (.one (.ptr 2 0)))] [(2, .box [.own 1000, .own 1001, .own 1002]), (1000, .vec 1 (v1.map Ai)), (1001, .vec 1 (v2.map Ai)), (1002, .vec 1 (v3.map Bk))] rfl rfl) (Ax ?_)
 exact ⟨⟨[_], ⟨.cellN _ _ _ _ _ _ _ rfl rfl AV Av rfl rfl (HC rfl), trivial⟩, rfl⟩, ⟨rfl, rfl, rfl, trivial⟩⟩
set_option maxRecDepth 10000 in
theorem Jm (N : Nat) (p0 : AH) (r : Bool) (h : EB N p0 = some r) : Az Tryz.prog 120 [.e (.agg [.pure (.val (.int .i64 p0.fKind)), .pure (.val (.int .i64 p0.fFrom)), .pure (.val (.int .i64 p0.fTo)), .pure (.val (.bool p0.fAware)), .pure (.sl (p0.fOK.map (EQ eB))), .pure (.sl (p0.fRewrite.map (EQ eB)))])] [] (.e (.one (.pure (.val (.bool r))))) := by
 unfold EB at h
 refine As (n := 11) (rs := [.tmp 2]) Tryz.func120 rfl rfl rfl (A1 rfl) (A1 rfl) rfl fun w0 S0 => ?_
 refine Ab (Aa Ac rfl (qb rfl (qa rfl (Ad ?_))))
 refine AP h (fun v1 => mk [(2, .e (.one (.pure (.val (.bool v1)))))] []) (fun j1 h => ?_) (fun v1 h => ?_)
 ·refine Aa Ac rfl (qf E3 rfl (ql Ci rfl (BA rfl (qm rfl ?_))))
  refine AB (t := 6) rfl (fun c2 => ?_) (fun c2 => ?_)
  ·have h := Am c2 h
   refine qn rfl (qn rfl (qn rfl (qp rfl (qa rfl (Ad ?_)))))
   exact Au _ h (sm [] _ _ rfl rfl)
  ·have h := Al c2 h
   refine qf E3 rfl (ql Ci rfl (BA rfl (qp rfl (qa rfl (Ad ?_)))))
   exact Au _ h (sm [] _ _ rfl rfl)
 ·obtain rfl := sj h
  refine Ak (sm [] [(2, .e (.one (.pure (.val (.bool v1)))))] [] rfl rfl) (Ax ?_)
  exact ⟨⟨[_], ⟨.tmp _ _ rfl, trivial⟩, rfl⟩, trivial⟩
set_option maxRecDepth 10000 in
theorem MV (N : Nat) (p0 : Ah) (p1 : Ae) (p2 : Ap) (r : Bool × (List Int) × (List Int)) (h : GO N p0 p1 p2 = some r) : Bv Tryz.prog 113 [.e (.agg [.pure (.sl (p0.fVersions.map Ai)), .pure (.sl (p0.fNow.map Ai)), .pure (.sl (p0.fTarget.map Ai)), .pure (.sl (p0.fTables.map Aq))]), .e (.one (.ptr 90000 0)), .e (.agg [.pure (.val (.int .i64 p2.fKind)), .pure (.val (.int .i64 p2.fIndex)), .pure (.val (.int .i64 p2.fVersion))])] [(.box [.own 90001, .own 90002, .own 90003], .box [.own 90001, .own 90002, .own 90003]), (.vec 1 (p1.fBase.map Ai), .vec 1 (p1.fBase.map Ai)), (.vec 1 (p1.fNext.map Ai), .vec 1 (r.2.1.map Ai)), (.vec 1 (p1.fHeld.map Bk), .vec 1 (r.2.2.map Bk))] [] (.e (.one (.pure (.val (.bool r.1))))) := by
 unfold GO at h
 refine Bn (n := 70) (rs := [.tmp 6]) Tryz.func113 rfl rfl rfl (A1 rfl) (A1 rfl) rfl rfl (A1 rfl) rfl (A1 rfl) fun w0 S0 GL => ?_
 refine Ak (sm [] [(0, .e (.agg [.pure (.sl (p0.fVersions.map Ai)), .pure (.sl (p0.fNow.map Ai)), .pure (.sl (p0.fTarget.map Ai)), .pure (.sl (p0.fTables.map Aq))])), (1, .e (.one (.ptr 90000 0))), (2, .e (.agg [.pure (.val (.int .i64 p2.fKind)), .pure (.val (.int .i64 p2.fIndex)), .pure (.val (.int .i64 p2.fVersion))]))] [(90000, .box [.own 90001, .own 90002, .own 90003]), (90001, .vec 1 (p1.fBase.map Ai)), (90002, .vec 1 (p1.fNext.map Ai)), (90003, .vec 1 (p1.fHeld.map Bk))] rfl rfl) (Ab (Aa Ac rfl (qb rfl (qb rfl (qa rfl (Ad (Ab ?_)))))))
 refine AP h (fun v1 => mk [(1, .e (.one (.ptr 90000 0))), (3, .e (.one (.ptr 3 0))), (5, .e (.one (.ptr 5 0))), (30, .e (.one (.pure (.val (.bool v1)))))] [(3, .box [.pure (.sl (p0.fVersions.map Ai)), .pure (.sl (p0.fNow.map Ai)), .pure (.sl (p0.fTarget.map Ai)), .pure (.sl (p0.fTables.map Aq))]), (5, .box [.pure (.val (.int .i64 p2.fKind)), .pure (.val (.int .i64 p2.fIndex)), .pure (.val (.int .i64 p2.fVersion))]), (90000, .box [.own 90001, .own 90002, .own 90003]), (90001, .vec 1 (p1.fBase.map Ai)), (90002, .vec 1 (p1.fNext.map Ai)), (90003, .vec 1 (p1.fHeld.map Bk))]) (fun j1 h => ?_) (fun v1 h => ?_)
 ·refine Aa Ac rfl (qm rfl (LY rfl (qf BR rfl (ql Bc rfl (qf Eb rfl (ql Ci rfl ?_))))))
  obtain ⟨v2, a2, b2, h⟩ := Aj h
  refine qI AE Dm a2 (Ag b2) rfl (qj Ci (Ag b2) rfl (C6 rfl (qm rfl ?_)))
  refine AB (t := 18) rfl (fun c3 => ?_) (fun c3 => ?_)
  ·have h := Am c3 h
   refine qn rfl (qn rfl (qn rfl (qn rfl (qn rfl (qn rfl (qn rfl (qn rfl (qn rfl (qn rfl (qn rfl (qp rfl (AI (by kernel_rfl) ?_))))))))))))
   exact Au _ h (sm [] _ _ rfl rfl)
  ·have h := Al c3 h
   refine qm rfl (LY rfl (qf CB rfl (ql Bc rfl (qf Eb rfl (ql Ci rfl ?_)))))
   obtain ⟨v4, a4, b4, h⟩ := Aj h
   refine qI AE Dm a4 (Ag b4) rfl (qj Ci (Ag b4) rfl (qf FN rfl (ql Ci rfl (BA rfl (qp rfl (AI (by kernel_rfl) ?_))))))
   exact Au _ h (sm [] _ _ rfl rfl)
 ·refine Ao rfl (fun c5 => ?_) (fun c5 => ?_)
  ·have h := Am c5 h
   refine Ab (Aa Ac rfl (qa rfl (Ad ?_)))
   obtain rfl := sj h
   refine Ak (sm [] [(6, .e (.one (.pure (.val (.bool false)))))] [(90000, .box [.own 90001, .own 90002, .own 90003]), (90001, .vec 1 (p1.fBase.map Ai)), (90002, .vec 1 (p1.fNext.map Ai)), (90003, .vec 1 (p1.fHeld.map Bk))] rfl rfl) (Ax ?_)
   exact ⟨⟨[_], ⟨.tmp _ _ rfl, trivial⟩, rfl⟩, ⟨rfl, rfl, rfl, rfl, trivial⟩, trivial⟩
  ·have h := Al c5 h
   refine Ar (Ab (Aa Ac rfl (qm rfl (LY rfl (qf BR rfl (ql Bc rfl (qf Eb rfl (ql Ci rfl (qf FN rfl (ql Ci rfl ?_))))))))))
   obtain ⟨v6, a6, b6, h⟩ := Aj h
   refine qI AE Dm a6 (Ag b6) rfl ?_
   refine A2 rfl rfl rfl rfl (Ag b6) rfl Dm rfl (A1 rfl) (A3 Ai p1.fNext _ p2.fVersion) ?_
   refine AI (by kernel_rfl) (Ab (Ab (Aa Ac rfl (qf CO rfl (ql GV rfl (AR DR rfl (qm rfl (Ad ?_))))))))
   refine AJ (L := Dd N p0 p2) h (fun v7 => mk [(1, .e (.one (.ptr 90000 0))), (5, .e (.one (.ptr 5 0))), (41, .e (.one (.pure (.sl (p0.fTables.map Aq))))), (42, .e (.one (.pure (.val (.int .i64 ((p0.fTables.length : Int))))))), (43, .e (.one (.pure (.val (.int .i64 v7.2)))))] [(5, .box [.pure (.val (.int .i64 p2.fKind)), .pure (.val (.int .i64 p2.fIndex)), .pure (.val (.int .i64 p2.fVersion))]), (90000, .box [.own 90001, .own 90002, .own 90003]), (90001, .vec 1 (p1.fBase.map Ai)), (90002, .vec 1 ((p1.fNext.set ((p2.fIndex).toNat) p2.fVersion).map Ai)), (90003, .vec 1 (v7.1.map Bk))]) (fun v8 => mk [] [(90000, .box [.own 90001, .own 90002, .own 90003]), (90001, .vec 1 (p1.fBase.map Ai)), (90002, .vec 1 ((p1.fNext.set ((p2.fIndex).toNat) p2.fVersion).map Ai)), (90003, .vec 1 (v8.map Bk))]) (fun _ _ => rfl) (sm [] _ _ rfl rfl) (fun j7 n7 v7 h => ?_) (fun v8 s h hs => ?_)
   ·unfold Dd at h
    refine Ab (Aa Ac rfl (AY rfl (Ad (Ab ?_))))
    refine Ao rfl (fun c9 => ?_) (fun c9 => ?_)
    ·have h := Am c9 h
     refine Ar ?_
     refine AP h (fun v10 => mk [(1, .e (.one (.ptr 90000 0))), (5, .e (.one (.ptr 5 0))), (41, .e (.one (.pure (.sl (p0.fTables.map Aq))))), (42, .e (.one (.pure (.val (.int .i64 ((p0.fTables.length : Int))))))), (43, .e (.one (.pure (.val (.int .i64 v7.2)))))] [(5, .box [.pure (.val (.int .i64 p2.fKind)), .pure (.val (.int .i64 p2.fIndex)), .pure (.val (.int .i64 p2.fVersion))]), (90000, .box [.own 90001, .own 90002, .own 90003]), (90001, .vec 1 (p1.fBase.map Ai)), (90002, .vec 1 ((p1.fNext.set ((p2.fIndex).toNat) p2.fVersion).map Ai)), (90003, .vec 1 (v10.map Bk))]) (fun j10 h => ?_) (fun v10 h => ?_)
     ·refine AN (Ab (Aa Ac rfl (qm rfl ?_)))
      obtain ⟨v11, a11, b11, h⟩ := Aj h
      refine qi DR DP a11 (Ag b11) rfl (qK GT DP rfl (qz JA rfl (qa rfl (qs DP rfl (Ad ?_)))))
      refine AP h (fun v12 => mk [(1, .e (.one (.ptr 90000 0))), (5, .e (.one (.ptr 5 0))), (7, .e (.one (.pure (.val (.int .i64 v7.2))))), (41, .e (.one (.pure (.sl (p0.fTables.map Aq))))), (42, .e (.one (.pure (.val (.int .i64 ((p0.fTables.length : Int))))))), (43, .e (.one (.pure (.val (.int .i64 v7.2))))), (56, .e (.one (.pure (.val (.bool v12)))))] [(5, .box [.pure (.val (.int .i64 p2.fKind)), .pure (.val (.int .i64 p2.fIndex)), .pure (.val (.int .i64 p2.fVersion))]), (90000, .box [.own 90001, .own 90002, .own 90003]), (90001, .vec 1 (p1.fBase.map Ai)), (90002, .vec 1 ((p1.fNext.set ((p2.fIndex).toNat) p2.fVersion).map Ai)), (90003, .vec 1 (v7.1.map Bk))]) (fun j12 h => ?_) (fun v12 h => ?_)
      ·refine Aa Ac rfl (qf C3 rfl (ql Ci rfl (qf Eb rfl (ql Ci rfl (BA rfl (qm rfl ?_))))))
       refine AB (t := 53) rfl (fun c13 => ?_) (fun c13 => ?_)
       ·have h := Am c13 h
        refine qL GT DP rfl ?_
        obtain ⟨v14, a14, h⟩ := bind_some h
        refine AD [] (Jm N v11 v14 a14) RO rfl (qp rfl (Ad ?_))
        exact Au _ h (sm [] _ _ rfl rfl)
       ·have h := Al c13 h
        refine qn rfl (qn rfl (qp rfl (Ad ?_)))
        exact Au _ h (sm [] _ _ rfl rfl)
      ·refine Ao rfl (fun c15 => ?_) (fun c15 => ?_)
       ·have h := Am c15 h
        refine Aa Ac rfl (qm rfl (LY rfl (qf Cx rfl (ql Gq rfl (qm rfl ?_)))))
        obtain ⟨v16, a16, b16, h⟩ := Aj h
        refine qI C5 Fa a16 (Ag b16) rfl (qj IF (Ag b16) rfl (qf FN rfl (ql Ci rfl ?_)))
        obtain ⟨c17, h⟩ := AK h
        refine G8 rfl c17 (PO rfl ?_)
        obtain ⟨v18, a18, b18, h⟩ := Aj h
        refine qI C5 Fa a18 (Ag b18) rfl ?_
        refine A2 rfl rfl rfl rfl (Ag b18) rfl Fa rfl (A1 rfl) (A3 Bk v7.1 _ ((LU .u8 v16 ((Co .u8 1 p2.fVersion))))) ?_
        refine AI (by kernel_rfl) ?_
        exact Au _ h (sm [] _ _ rfl rfl)
       ·have h := Al c15 h
        refine Ar ?_
        exact Au _ h (sm [] _ _ rfl rfl)
     ·refine Aa Ac rfl (AU rfl (qm rfl (Ad ?_)))
      exact Au _ h (sm [] _ _ rfl rfl)
    ·have h := Al c9 h
     refine AW ?_
     exact Au _ h (sm [] _ _ rfl rfl)
   ·refine Ak hs (Ab (Aa Ac rfl (qa rfl (Ad ?_))))
    obtain rfl := sj h
    refine Ak (sm [] [(6, .e (.one (.pure (.val (.bool true)))))] [(90000, .box [.own 90001, .own 90002, .own 90003]), (90001, .vec 1 (p1.fBase.map Ai)), (90002, .vec 1 ((p1.fNext.set ((p2.fIndex).toNat) p2.fVersion).map Ai)), (90003, .vec 1 (v8.map Bk))] rfl rfl) (Ax ?_)
    exact ⟨⟨[_], ⟨.tmp _ _ rfl, trivial⟩, rfl⟩, ⟨rfl, rfl, rfl, rfl, trivial⟩, trivial⟩
set_option maxRecDepth 10000 in
theorem Lt (N : Nat) (p0 : Ae) (p1 : Int) (r : Int) (h : ES N p0 p1 = some r) : Az Tryz.prog 121 [.e (.agg [.pure (.sl (p0.fBase.map Ai)), .pure (.sl (p0.fNext.map Ai)), .pure (.sl (p0.fHeld.map Bk))]), .e (.one (.pure (.val (.int .i64 p1))))] [] (.e (.one (.pure (.val (.int .u8 r))))) := by
 unfold ES at h
 refine As (n := 27) (rs := [.tmp 4]) Tryz.func121 rfl rfl rfl (A1 rfl) (A1 rfl) rfl fun w0 S0 => ?_
 refine Ab (Aa Ac rfl (qb rfl (qa rfl (Ad (Ab (Aa Ac rfl (qf CB rfl (ql Bc rfl (qm rfl ?_)))))))))
 obtain ⟨v1, a1, b1, h⟩ := Aj h
 refine qi AE Dm a1 (Ag b1) rfl (qk Ci rfl ?_)
 obtain ⟨c2, h⟩ := AK h
 refine G8 rfl c2 (qa rfl (Ad ?_))
 refine AP h (fun v3 => mk [(5, .e (.one (.pure (.val (.int .u8 v3)))))] []) (fun j3 h => ?_) (fun v3 h => ?_)
 ·refine Ab (Aa Ac rfl (qf BR rfl (ql Bc rfl (qm rfl ?_))))
  obtain ⟨v4, a4, b4, h⟩ := Aj h
  refine qi AE Dm a4 (Ag b4) rfl (qk Ci rfl (C6 rfl (Ad ?_)))
  refine Ao rfl (fun c5 => ?_) (fun c5 => ?_)
  ·have h := Am c5 h
   refine Aa Ac rfl (qm rfl (qf BR rfl (ql Bc rfl (qm rfl ?_))))
   obtain ⟨v6, a6, b6, h⟩ := Aj h
   refine qi AE Dm a6 (Ag b6) rfl (qk Ci rfl ?_)
   obtain ⟨c7, h⟩ := AK h
   refine G8 rfl c7 (PO rfl (qa rfl (Ad ?_)))
   exact Au _ h (sm [] _ _ rfl rfl)
  ·have h := Al c5 h
   refine Ar ?_
   exact Au _ h (sm [] _ _ rfl rfl)
 ·refine Ab (Aa Ac rfl (qm rfl (qa rfl (Ad ?_))))
  obtain rfl := sj h
  refine Ak (sm [] [(4, .e (.one (.pure (.val (.int .u8 v3)))))] [] rfl rfl) (Ax ?_)
  exact ⟨⟨[_], ⟨.tmp _ _ rfl, trivial⟩, rfl⟩, trivial⟩
set_option maxRecDepth 10000 in
theorem Hq (N : Nat) (p0 : Int) (r : Int) (h : Cy N p0 = some r) : Az Tryz.prog 125 [.e (.one (.pure (.val (.int .u8 p0))))] [] (.e (.one (.pure (.val (.int .i64 r))))) := by
 unfold Cy at h
 refine As (n := 6) (rs := [.tmp 2]) Tryz.func125 rfl rfl rfl (A1 rfl) (A1 rfl) rfl fun w0 S0 => ?_
 refine Ab (Aa Ac rfl (qa rfl (Ad (Ab (Aa Ac rfl (qm rfl ?_))))))
 obtain ⟨v1, a1, h⟩ := bind_some h
 refine Kp (.p rfl) rfl rfl Rp a1 ?_
 refine F8 Rw Pu rfl (qa rfl (Ad ?_))
 obtain rfl := sj h
 refine Ak (sm [] [(2, .e (.one (.pure (.val (.int .i64 ((IntKind.wrap .i64 v1)))))))] [] rfl rfl) (Ax ?_)
 exact ⟨⟨[_], ⟨.tmp _ _ rfl, trivial⟩, rfl⟩, trivial⟩
set_option maxRecDepth 10000 in
theorem JX (N : Nat) (p0 : AH) (p1 : Int) (p2 : Int) (r : Bool) (h : EH N p0 p1 p2 = some r) : Az Tryz.prog 122 [.e (.agg [.pure (.val (.int .i64 p0.fKind)), .pure (.val (.int .i64 p0.fFrom)), .pure (.val (.int .i64 p0.fTo)), .pure (.val (.bool p0.fAware)), .pure (.sl (p0.fOK.map (EQ eB))), .pure (.sl (p0.fRewrite.map (EQ eB)))]), .e (.one (.pure (.val (.int .u8 p1)))), .e (.one (.pure (.val (.int .i64 p2))))] [] (.e (.one (.pure (.val (.bool r))))) := by
 unfold EH at h
 refine As (n := 25) (rs := [.tmp 6]) Tryz.func122 rfl rfl rfl (A1 rfl) (A1 rfl) rfl fun w0 S0 => ?_
 refine Ab (Aa Ac rfl (qb rfl (qa rfl (Ad (Ab (Ab (Aa Ac rfl (qm rfl (qa rfl (Ad ?_))))))))))
 refine AJ (L := CZ N p0 p2) h (fun v1 => mk [(2, .e (.one (.pure (.val (.int .i64 p2))))), (3, .e (.one (.ptr 3 0))), (7, .e (.one (.pure (.val (.int .u8 v1)))))] [(3, .box [.pure (.val (.int .i64 p0.fKind)), .pure (.val (.int .i64 p0.fFrom)), .pure (.val (.int .i64 p0.fTo)), .pure (.val (.bool p0.fAware)), .pure (.sl (p0.fOK.map (EQ eB))), .pure (.sl (p0.fRewrite.map (EQ eB)))])]) (fun v2 => mk [] []) (fun _ _ => rfl) (sm [] _ _ rfl rfl) (fun j1 n1 v1 h => ?_) (fun v2 s h hs => ?_)
 ·unfold CZ at h
  refine Ab (Ab (Aa Ac rfl (qm rfl (BX rfl (Ad ?_)))))
  refine Ao rfl (fun c3 => ?_) (fun c3 => ?_)
  ·have h := Am c3 h
   refine Ar (Ab (AN (Ab (Aa Ac rfl (qf FO rfl (ql Js rfl (qm rfl ?_)))))))
   obtain ⟨v4, a4, h⟩ := bind_some h
   refine AD [] (Hq N v1 v4 a4) TT rfl ?_
   obtain ⟨v5, a5, b5, h⟩ := Aj h
   refine qi F3 Ji a5 (Ag b5) rfl (qk Li rfl (qm rfl ?_))
   obtain ⟨v6, a6, b6, h⟩ := Aj h
   refine qi EO Oj a6 (Ag b6) rfl (qk QE rfl (Cu rfl (AI (by kernel_rfl) ?_)))
   refine Ao rfl (fun c7 => ?_) (fun c7 => ?_)
   ·have h := Am c7 h
    refine Ab (Aa Ac rfl (qa rfl (Ad ?_)))
    obtain rfl := sj h
    refine Ak (sm [] [(6, .e (.one (.pure (.val (.bool false)))))] [] rfl rfl) (Ax ?_)
    exact ⟨⟨[_], ⟨.tmp _ _ rfl, trivial⟩, rfl⟩, trivial⟩
   ·have h := Al c7 h
    refine Ar (Aa Ac rfl (qm rfl (qm rfl (Cs rfl (J1 rfl (qa rfl (Ad ?_)))))))
    exact Au _ h (sm [] _ _ rfl rfl)
  ·have h := Al c3 h
   refine AW ?_
   exact Au _ h (sm [] _ _ rfl rfl)
 ·refine Ak hs (Ab (Aa Ac rfl (qa rfl (Ad ?_))))
  obtain rfl := sj h
  refine Ak (sm [] [(6, .e (.one (.pure (.val (.bool true)))))] [] rfl rfl) (Ax ?_)
  exact ⟨⟨[_], ⟨.tmp _ _ rfl, trivial⟩, rfl⟩, trivial⟩
set_option maxRecDepth 10000 in
theorem MZ (N : Nat) (p0 : Ah) (p1 : Ae) (p2 : Int) (r : Bool × (List Int)) (h : FD N p0 p1 p2 = some r) : Bv Tryz.prog 114 [.e (.agg [.pure (.sl (p0.fVersions.map Ai)), .pure (.sl (p0.fNow.map Ai)), .pure (.sl (p0.fTarget.map Ai)), .pure (.sl (p0.fTables.map Aq))]), .e (.one (.ptr 90000 0)), .e (.one (.pure (.val (.int .i64 p2))))] [(.box [.own 90001, .own 90002, .own 90003], .box [.own 90001, .own 90002, .own 90003]), (.vec 1 (p1.fBase.map Ai), .vec 1 (p1.fBase.map Ai)), (.vec 1 (p1.fNext.map Ai), .vec 1 (p1.fNext.map Ai)), (.vec 1 (p1.fHeld.map Bk), .vec 1 (r.2.map Bk))] [] (.e (.one (.pure (.val (.bool r.1))))) := by
 unfold FD at h
 refine Bn (n := 68) (rs := [.tmp 6]) Tryz.func114 rfl rfl rfl (A1 rfl) (A1 rfl) rfl rfl (A1 rfl) rfl (A1 rfl) fun w0 S0 GL => ?_
 refine Ak (sm [] [(0, .e (.agg [.pure (.sl (p0.fVersions.map Ai)), .pure (.sl (p0.fNow.map Ai)), .pure (.sl (p0.fTarget.map Ai)), .pure (.sl (p0.fTables.map Aq))])), (1, .e (.one (.ptr 90000 0))), (2, .e (.one (.pure (.val (.int .i64 p2)))))] [(90000, .box [.own 90001, .own 90002, .own 90003]), (90001, .vec 1 (p1.fBase.map Ai)), (90002, .vec 1 (p1.fNext.map Ai)), (90003, .vec 1 (p1.fHeld.map Bk))] rfl rfl) (Ab (Aa Ac rfl (qb rfl (qa rfl (Ad (Ab (Aa Ac rfl (qf CO rfl (ql GV rfl (qm rfl ?_))))))))))
 obtain ⟨v1, a1, b1, h⟩ := Aj h
 refine qi DR DP a1 (Ag b1) rfl (qK GT DP rfl (qz JA rfl (qs DP rfl (Ad (Ab (Ab (Aa Ac rfl (qL GT DP rfl ?_))))))))
 obtain ⟨v2, a2, h⟩ := bind_some h
 refine AD [] (Jm N v1 v2 a2) RO rfl (Cu rfl (Ad ?_))
 refine Ao rfl (fun c3 => ?_) (fun c3 => ?_)
 ·have h := Am c3 h
  refine Ab (Aa Ac rfl (qa rfl (Ad ?_)))
  obtain rfl := sj h
  refine Ak (sm [] [(6, .e (.one (.pure (.val (.bool false)))))] [(90000, .box [.own 90001, .own 90002, .own 90003]), (90001, .vec 1 (p1.fBase.map Ai)), (90002, .vec 1 (p1.fNext.map Ai)), (90003, .vec 1 (p1.fHeld.map Bk))] rfl rfl) (Ax ?_)
  exact ⟨⟨[_], ⟨.tmp _ _ rfl, trivial⟩, rfl⟩, ⟨rfl, rfl, rfl, rfl, trivial⟩, trivial⟩
 ·have h := Al c3 h
  refine Ar (Ab (Aa Ac rfl (qm rfl (LY rfl (qL AV Av rfl (qf C3 rfl (ql Ci rfl ?_)))))))
  obtain ⟨v4, a4, h⟩ := bind_some h
  refine GN [] [90001, 90002, 90003] (Lt N p1 v1.fFrom v4 a4) S4 EY rfl (qa rfl (AI (by kernel_rfl) (Ab (Aa Ac rfl (qm rfl (LY rfl (qf Cx rfl (ql Gq rfl (qm rfl ?_)))))))))
  obtain ⟨v5, a5, b5, h⟩ := Aj h
  refine qI C5 Fa a5 (Ag b5) rfl (qj IF (Ag b5) rfl (qm rfl (Hv rfl (qa rfl (Ad (Ab ?_))))))
  refine AP h (fun v6 => mk [(1, .e (.one (.ptr 90000 0))), (2, .e (.one (.pure (.val (.int .i64 p2))))), (8, .e (.one (.pure (.val (.int .u8 v4))))), (60, .e (.one (.pure (.val (.bool v6)))))] [(90000, .box [.own 90001, .own 90002, .own 90003]), (90001, .vec 1 (p1.fBase.map Ai)), (90002, .vec 1 (p1.fNext.map Ai)), (90003, .vec 1 (p1.fHeld.map Bk))]) (fun j6 h => ?_) (fun v6 h => ?_)
  ·refine Aa Ac rfl (qm rfl (LY rfl (qf Cx rfl (ql Gq rfl (qm rfl ?_)))))
   obtain ⟨v7, a7, b7, h⟩ := Aj h
   refine qI C5 Fa a7 (Ag b7) rfl (qj IF (Ag b7) rfl (qm rfl (BA rfl (qm rfl ?_))))
   refine AB (t := 42) rfl (fun c8 => ?_) (fun c8 => ?_)
   ·have h := Am c8 h
    refine qn rfl (qn rfl (qn rfl (qn rfl (qu rfl (qu rfl (qu rfl (qu rfl (qu rfl (qu rfl (qu rfl (qu rfl (qu rfl (qu rfl (qu rfl (qu rfl (qn rfl (qp rfl (AI (by kernel_rfl) ?_))))))))))))))))))
    exact Au _ h (sm [] _ _ rfl rfl)
   ·have h := Al c8 h
    refine qf E3 rfl (ql Ci rfl (BA rfl (qm rfl ?_)))
    refine AB (t := 46) rfl (fun c9 => ?_) (fun c9 => ?_)
    ·have h := Am c9 h
     refine qL GT DP rfl (qm rfl (qm rfl (LY rfl (qf CB rfl (ql Bc rfl (qf C3 rfl (ql Ci rfl ?_)))))))
     obtain ⟨v10, a10, b10, h⟩ := Aj h
     refine qI AE Dm a10 (Ag b10) rfl (qj Ci (Ag b10) rfl ?_)
     obtain ⟨v11, a11, h⟩ := bind_some h
     refine AD [] (JX N v1 ((CK .u8 v5 v4)) v10 v11 a11) Te rfl (Cu rfl (qp rfl (qp rfl (AI (by kernel_rfl) ?_))))
     exact Au _ h (sm [] _ _ rfl rfl)
    ·have h := Al c9 h
     refine qn rfl (qn rfl (qn rfl (qn rfl (qn rfl (qn rfl (qn rfl (qn rfl (qn rfl (qn rfl (qn rfl (qn rfl (qp rfl (qp rfl (AI (by kernel_rfl) ?_))))))))))))))
     exact Au _ h (sm [] _ _ rfl rfl)
  ·refine Ao rfl (fun c12 => ?_) (fun c12 => ?_)
   ·have h := Am c12 h
    refine Ab (Aa Ac rfl (qa rfl (Ad ?_)))
    obtain rfl := sj h
    refine Ak (sm [] [(6, .e (.one (.pure (.val (.bool false)))))] [(90000, .box [.own 90001, .own 90002, .own 90003]), (90001, .vec 1 (p1.fBase.map Ai)), (90002, .vec 1 (p1.fNext.map Ai)), (90003, .vec 1 (p1.fHeld.map Bk))] rfl rfl) (Ax ?_)
    exact ⟨⟨[_], ⟨.tmp _ _ rfl, trivial⟩, rfl⟩, ⟨rfl, rfl, rfl, rfl, trivial⟩, trivial⟩
   ·have h := Al c12 h
    refine Ar (Ab (Aa Ac rfl (qm rfl (LY rfl (qf Cx rfl (ql Gq rfl (qm rfl (qm rfl ?_))))))))
    obtain ⟨v13, a13, b13, h⟩ := Aj h
    refine qI C5 Fa a13 (Ag b13) rfl ?_
    refine A2 rfl rfl rfl rfl (Ag b13) rfl Fa rfl (A1 rfl) (A3 Bk p1.fHeld _ v4) ?_
    refine Ad (Ab (Aa Ac rfl (qa rfl (Ad ?_))))
    obtain rfl := sj h
    refine Ak (sm [] [(6, .e (.one (.pure (.val (.bool true)))))] [(90000, .box [.own 90001, .own 90002, .own 90003]), (90001, .vec 1 (p1.fBase.map Ai)), (90002, .vec 1 (p1.fNext.map Ai)), (90003, .vec 1 ((p1.fHeld.set ((p2).toNat) v4).map Bk))] rfl rfl) (Ax ?_)
    exact ⟨⟨[_], ⟨.tmp _ _ rfl, trivial⟩, rfl⟩, ⟨rfl, rfl, rfl, rfl, trivial⟩, trivial⟩
set_option maxRecDepth 10000 in
theorem JQ (N : Nat) (p0 : Ah) (p1 : Ae) (p2 : Ap) (r : Ae × Bool) (h : EV N p0 p1 p2 = some r) : Az Tryz.prog 98 [.e (.agg [.pure (.sl (p0.fVersions.map Ai)), .pure (.sl (p0.fNow.map Ai)), .pure (.sl (p0.fTarget.map Ai)), .pure (.sl (p0.fTables.map Aq))]), .e (.agg [.pure (.sl (p1.fBase.map Ai)), .pure (.sl (p1.fNext.map Ai)), .pure (.sl (p1.fHeld.map Bk))]), .e (.agg [.pure (.val (.int .i64 p2.fKind)), .pure (.val (.int .i64 p2.fIndex)), .pure (.val (.int .i64 p2.fVersion))])] [(1, r.1.fBase.map Ai), (1, r.1.fNext.map Ai), (1, r.1.fHeld.map Bk)] (.tup [.agg [.own 0, .own 1, .own 2], .one (.pure (.val (.bool r.2)))]) := by
 unfold EV at h
 refine As (n := 51) (rs := [.cell 6 50, .tmp 7]) Tryz.func98 rfl rfl rfl (A1 rfl) (A1 rfl) rfl fun w0 S0 => ?_
 refine Ab (Aa Ac rfl (qb rfl (qb rfl (qb rfl (qz Ct rfl (qa rfl (Ad (Ab (Aa Ac rfl (qL AV Av rfl ?_))))))))))
 obtain ⟨v1, a1, h⟩ := bind_some h
 refine AD [2001, 2002, 2003] (Jf N p1 v1 a1) TS rfl (qz Ct rfl (qs Av rfl (Ad (Ab (Ab (Aa Ac rfl (qf EM rfl (ql Ci rfl (Ad (AN (Ab (Aa Ac rfl (BA rfl (qa rfl (Ad ?_)))))))))))))))
 refine Ao rfl (fun c2 => ?_) (fun c2 => ?_)
 ·have h := Am c2 h
  refine Ab (Aa Ac rfl (qL AV Av rfl (qL DY DI rfl (qL Iq Ee rfl ?_))))
  obtain ⟨v3, a3, h⟩ := bind_some h
  refine CM (ds0 := [_, _, _]) [8, 2001, 2002, 2003] [] [false, false, true, true] (MV N p0 v1 p2 v3 a3) (.p rfl) Tt rfl ⟨rfl, rfl, rfl, trivial⟩ rfl rfl (by decide) ⟨rfl, rfl, rfl, rfl, trivial⟩ rfl (A9 rfl) trivial ⟨(fun _ => rfl), (fun _ => rfl), (fun h => by cases h), (fun h => by cases h), trivial⟩ rfl rfl rfl ?_
  refine qs Av rfl (qa rfl (AI (by kernel_rfl) ?_))
  obtain rfl := sj h
  refine Ak (sm [(1000, 2001), (1001, 2002), (1002, 2003)] [(6, .e (.one (.ptr 6 0))), (7, .e (.one (.pure (.val (.bool v3.1)))))] [(6, .box [.own 1000, .own 1001, .own 1002]), (1000, .vec 1 (v1.fBase.map Ai)), (1001, .vec 1 (v3.2.1.map Ai)), (1002, .vec 1 (v3.2.2.map Bk))] rfl rfl) (Ax ?_)
  exact ⟨⟨[_, _], ⟨.cellN _ _ _ _ _ _ _ rfl rfl AV Av rfl rfl (HC rfl), ⟨.tmp _ _ rfl, trivial⟩⟩, rfl⟩, ⟨rfl, rfl, rfl, trivial⟩⟩
 ·have h := Al c2 h
  refine Ab (Aa Ac rfl (BA rfl (qa rfl (Ad ?_))))
  refine Ao rfl (fun c4 => ?_) (fun c4 => ?_)
  ·have h := Am c4 h
   refine Ab (Aa Ac rfl (qL AV Av rfl (qL DY DI rfl (qf Eb rfl (ql Ci rfl ?_)))))
   obtain ⟨v5, a5, h⟩ := bind_some h
   refine CM (ds0 := [_, _, _]) [8, 2001, 2002, 2003] [] [false, false, false, true] (MZ N p0 v1 p2.fIndex v5 a5) (.p rfl) TD rfl ⟨rfl, rfl, rfl, trivial⟩ rfl rfl (by decide) ⟨rfl, rfl, rfl, rfl, trivial⟩ rfl (A9 rfl) trivial ⟨(fun _ => rfl), (fun _ => rfl), (fun _ => rfl), (fun h => by cases h), trivial⟩ rfl rfl rfl ?_
   refine qs Av rfl (qa rfl (AI (by kernel_rfl) ?_))
   obtain rfl := sj h
   refine Ak (sm [(1000, 2001), (1001, 2002), (1002, 2003)] [(6, .e (.one (.ptr 6 0))), (7, .e (.one (.pure (.val (.bool v5.1)))))] [(6, .box [.own 1000, .own 1001, .own 1002]), (1000, .vec 1 (v1.fBase.map Ai)), (1001, .vec 1 (v1.fNext.map Ai)), (1002, .vec 1 (v5.2.map Bk))] rfl rfl) (Ax ?_)
   exact ⟨⟨[_, _], ⟨.cellN _ _ _ _ _ _ _ rfl rfl AV Av rfl rfl (HC rfl), ⟨.tmp _ _ rfl, trivial⟩⟩, rfl⟩, ⟨rfl, rfl, rfl, trivial⟩⟩
  ·have h := Al c4 h
   refine Ar (Ab (Aa Ac rfl (qf BR rfl (ql Bc rfl (qf Eb rfl (ql Ci rfl ?_))))))
   obtain ⟨v6, a6, b6, h⟩ := Aj h
   refine qI AE Dm a6 (Ag b6) rfl (qj Ci (Ag b6) rfl (qa rfl (Ad (Ab (Ab (Aa Ac rfl (qm rfl (AY rfl (Ad ?_)))))))))
   refine Ao rfl (fun c7 => ?_) (fun c7 => ?_)
   ·have h := Am c7 h
    refine Ab (Aa Ac rfl (qL AV Av rfl (qs Av rfl (qa rfl (Ad ?_)))))
    obtain rfl := sj h
    refine Ak (sm [(1000, 2001), (1001, 2002), (1002, 2003)] [(6, .e (.one (.ptr 6 0))), (7, .e (.one (.pure (.val (.bool false)))))] [(6, .box [.own 1000, .own 1001, .own 1002]), (1000, .vec 1 (v1.fBase.map Ai)), (1001, .vec 1 (v1.fNext.map Ai)), (1002, .vec 1 (v1.fHeld.map Bk))] rfl rfl) (Ax ?_)
    exact ⟨⟨[_, _], ⟨.cellN _ _ _ _ _ _ _ rfl rfl AV Av rfl rfl (HC rfl), ⟨.tmp _ _ rfl, trivial⟩⟩, rfl⟩, ⟨rfl, rfl, rfl, trivial⟩⟩
   ·have h := Al c7 h
    refine Ar (Ab (Aa Ac rfl (qf BR rfl (ql Bc rfl (qf Eb rfl (ql Ci rfl ?_))))))
    obtain ⟨v8, a8, b8, h⟩ := Aj h
    refine qI AE Dm a8 (Ag b8) rfl ?_
    refine A2 rfl rfl rfl rfl (Ag b8) rfl Dm rfl (A1 rfl) (A3 Ai v1.fNext _ ((-1))) ?_
    refine Ad ?_
    refine AP h (fun v9 => mk [(6, .e (.one (.ptr 6 0))), (8, .e (.one (.ptr 8 0)))] [(6, .box [.pure (.nil0), .pure (.nil0), .pure (.nil0)]), (8, .box [.own 2004, .own 2005, .own 2006]), (2004, .vec 1 (v9.map Ai)), (2005, .vec 1 ((v1.fNext.set ((p2.fIndex).toNat) ((-1))).map Ai)), (2006, .vec 1 (v1.fHeld.map Bk))]) (fun j9 h => ?_) (fun v9 h => ?_)
    ·refine Ab (Aa Ac rfl (qf EM rfl (ql Ci rfl (BA rfl (Ad ?_)))))
     refine Ao rfl (fun c10 => ?_) (fun c10 => ?_)
     ·have h := Am c10 h
      refine Aa Ac rfl (qf CB rfl (ql Bc rfl (qf Eb rfl (ql Ci rfl (qm rfl ?_)))))
      obtain ⟨v11, a11, b11, h⟩ := Aj h
      refine qI AE Dm a11 (Ag b11) rfl ?_
      refine A2 rfl rfl rfl rfl (Ag b11) rfl Dm rfl (A1 rfl) (A3 Ai v1.fBase _ v6) ?_
      refine Ad ?_
      exact Au _ h (sm [(2004, 2001), (2005, 2002), (2006, 2003)] _ _ rfl rfl)
     ·have h := Al c10 h
      refine Ar ?_
      exact Au _ h (sm [(2004, 2001), (2005, 2002), (2006, 2003)] _ _ rfl rfl)
    ·refine Ab (Aa Ac rfl (qL AV Av rfl (qs Av rfl (qa rfl (Ad ?_)))))
     obtain rfl := sj h
     refine Ak (sm [(1000, 2004), (1001, 2005), (1002, 2006)] [(6, .e (.one (.ptr 6 0))), (7, .e (.one (.pure (.val (.bool true)))))] [(6, .box [.own 1000, .own 1001, .own 1002]), (1000, .vec 1 (v9.map Ai)), (1001, .vec 1 ((v1.fNext.set ((p2.fIndex).toNat) ((-1))).map Ai)), (1002, .vec 1 (v1.fHeld.map Bk))] rfl rfl) (Ax ?_)
     exact ⟨⟨[_, _], ⟨.cellN _ _ _ _ _ _ _ rfl rfl AV Av rfl rfl (HC rfl), ⟨.tmp _ _ rfl, trivial⟩⟩, rfl⟩, ⟨rfl, rfl, rfl, trivial⟩⟩
set_option maxRecDepth 10000 in
theorem Ku (N : Nat) (p0 : Ap) (p1 : List Int) (p2 : List Int) (p3 : List Int) (p4 : List AH) (p5 : List Int) (p6 : List Int) (p7 : List Int) (r : Bool) (h : En N p0 p1 p2 p3 p4 p5 p6 p7 = some r) : Az Tryz.prog 97 [.e (.agg [.pure (.val (.int .i64 p0.fKind)), .pure (.val (.int .i64 p0.fIndex)), .pure (.val (.int .i64 p0.fVersion))]), .e (.one (.rop [.sl (p1.map Ai), .sl (p2.map Ai), .sl (p3.map Ai), .sl (p4.map Aq)])), .e (.one (.rop [.sl (p5.map Ai), .sl (p6.map Ai), .sl (p7.map Bk)]))] [] (.e (.one (.pure (.val (.bool r))))) := by
 unfold En at h
 refine As (n := 16) (rs := [.tmp 4]) Tryz.func97 rfl rfl rfl (A1 rfl) (A1 rfl) rfl fun w0 S0 => ?_
 refine Ab (Aa Ac rfl (qb rfl (qa rfl (Ad (Ab (Aa Ac rfl (qK DY DI rfl (qK AV Av rfl (qL Iq Ee rfl ?_)))))))))
 obtain ⟨v1, a1, h⟩ := bind_some h
 refine AD [2001, 2002, 2003] (JQ N ((Ah.mk p1 p2 p3 p4)) ((Ae.mk p5 p6 p7)) p0 v1 a1) TX rfl (qm rfl (qx rfl (qx rfl (qz Ct rfl (qs Av rfl (qa rfl (Ad (Ab (Aa Ac rfl (qm rfl (Cu rfl (qa rfl (Ad ?_)))))))))))))
 obtain rfl := sj h
 refine Ak (sm [] [(4, .e (.one (.pure (.val (.bool ((!v1.2)))))))] [] rfl rfl) (Ax ?_)
 exact ⟨⟨[_], ⟨.tmp _ _ rfl, trivial⟩, rfl⟩, trivial⟩
set_option maxRecDepth 10000 in
theorem Fz (N : Nat) (p0 : List Ap) (p1 : Ap → Option Bool) (r : Int) (h : CJ N p0 p1 = some r) : Az Tryz.prog 112 [.e (.one (.pure (.sl (p0.map AF)))), .e (.one (.clo (BJ (NQ true AF) tB p1)))] [] (.e (.one (.pure (.val (.int .i64 r))))) := by
 unfold CJ at h
 refine As (n := 19) (rs := [.tmp 4]) Tryz.func112 rfl rfl rfl (A1 rfl) (A1 rfl) rfl fun w0 S0 => ?_
 refine Ab (Aa Ac rfl (qa rfl (Ad (Ab (Ab (Aa Ac rfl (qm rfl (AR Db rfl (qm rfl (Ad ?_))))))))))
 refine AJ (L := BS N p0 p1) h (fun v1 => mk [(0, .e (.one (.pure (.sl (p0.map AF))))), (1, .e (.one (.clo (BJ (NQ true AF) tB p1)))), (7, .e (.one (.pure (.val (.int .i64 ((p0.length : Int))))))), (8, .e (.one (.pure (.val (.int .i64 v1)))))] []) (fun v2 => mk [] []) (fun _ _ => rfl) (sm [] _ _ rfl rfl) (fun j1 n1 v1 h => ?_) (fun v2 s h hs => ?_)
 ·unfold BS at h
  refine Ab (Aa Ac rfl (AY rfl (Ad (Ab ?_))))
  refine Ao rfl (fun c3 => ?_) (fun c3 => ?_)
  ·have h := Am c3 h
   refine Ar (Ab (AN (Ab (Aa Ac rfl (qm rfl (qa rfl (Ad (Ab (Aa Ac rfl (qm rfl (qm rfl (qm rfl ?_))))))))))))
   obtain ⟨v4, a4, b4, h⟩ := Aj h
   refine qi Db Ee a4 (Ag b4) rfl (qK Iq Ee rfl ?_)
   obtain ⟨v5, a5, h⟩ := bind_some h
   refine DW (ds0 := [_]) (ar := (NQ true AF) v4) (.p rfl) rfl rfl ⟨rfl, trivial⟩ rfl rfl rfl (DV (M3 _ _ Lk) a5) ?_
   refine Ad ?_
   refine Ao rfl (fun c6 => ?_) (fun c6 => ?_)
   ·have h := Am c6 h
    refine Ab (Aa Ac rfl (qm rfl (qa rfl (Ad ?_))))
    obtain rfl := sj h
    refine Ak (sm [] [(4, .e (.one (.pure (.val (.int .i64 v1)))))] [] rfl rfl) (Ax ?_)
    exact ⟨⟨[_], ⟨.tmp _ _ rfl, trivial⟩, rfl⟩, trivial⟩
   ·have h := Al c6 h
    refine Ar (Aa Ac rfl (AU rfl (qm rfl (Ad ?_))))
    exact Au _ h (sm [] _ _ rfl rfl)
  ·have h := Al c3 h
   refine AW ?_
   exact Au _ h (sm [] _ _ rfl rfl)
 ·refine Ak hs (Ab (Aa Ac rfl (qa rfl (Ad ?_))))
  obtain rfl := sj h
  refine Ak (sm [] [(4, .e (.one (.pure (.val (.int .i64 ((-1)))))))] [] rfl rfl) (Ax ?_)
  exact ⟨⟨[_], ⟨.tmp _ _ rfl, trivial⟩, rfl⟩, trivial⟩
set_option maxRecDepth 10000 in
theorem Fn (N : Nat) (p0 : List Ap) (p1 : Ap → Option Bool) (r : Nat × (List Ap)) (h : CF N p0 p1 = some r) : Bv Tryz.prog 95 [.e (.one (.own 90000)), .e (.one (.clo (BJ (NQ true AF) tB p1)))] [(.vec 3 (p0.map AF), .vec 3 (r.2.map AF))] [] (.e (.one (.view 90000 3 0 r.1))) := by
 unfold CF at h
 refine Bn (n := 42) (rs := [.tmp 4]) Tryz.func95 rfl rfl rfl (A1 rfl) (A1 rfl) rfl rfl (A1 rfl) rfl (A1 rfl) fun w0 S0 GL => ?_
 refine Ak (sm [] [(0, .e (.one (.own 90000))), (1, .e (.one (.clo (BJ (NQ true AF) tB p1))))] [(90000, .vec 3 (p0.map AF))] rfl rfl) (Ab (Aa Ac rfl (qa rfl (Ad (Ab (Aa Ac rfl (qm rfl (qm rfl ?_))))))))
 obtain ⟨v1, a1, h⟩ := bind_some h
 refine GN [] [90000] (Fz N p0 p1 v1 a1) Tl EY rfl (qa rfl (Ad (Ab (Ab (Aa Ac rfl (qm rfl (BA rfl (Ad ?_))))))))
 refine Ao rfl (fun c2 => ?_) (fun c2 => ?_)
 ·have h := Am c2 h
  refine Ab (Aa Ac rfl (qm rfl (qa rfl (Ad ?_))))
  obtain rfl := sj h
  refine Ak ((Na AF p0 4 90000 3 rfl rfl).trans (sm [] [(4, .e (.one (.view 90000 3 0 p0.length)))] [(90000, .vec 3 (p0.map AF))] rfl rfl)) (Ax ?_)
  exact ⟨⟨[_], ⟨.tmp _ _ rfl, trivial⟩, rfl⟩, ⟨rfl, trivial⟩, trivial⟩
 ·have h := Al c2 h
  refine Ar (Ab (Ab (Aa Ac rfl (qm rfl (AU rfl (qa rfl (Ad ?_)))))))
  refine AJ (L := BO N p1) h (fun v3 => mk [(0, .e (.one (.own 90000))), (1, .e (.one (.clo (BJ (NQ true AF) tB p1)))), (5, .e (.one (.pure (.val (.int .i64 v3.2.1))))), (6, .e (.one (.pure (.val (.int .i64 v3.2.2)))))] [(90000, .vec 3 (v3.1.map AF))]) (fun v4 => mk [(0, .e (.one (.own 90000))), (5, .e (.one (.pure (.val (.int .i64 v4.2)))))] [(90000, .vec 3 (v4.1.map AF))]) (fun _ _ => rfl) (sm [] _ _ rfl rfl) (fun j3 n3 v3 h => ?_) (fun v4 s h hs => ?_)
  ·unfold BO at h
   refine Ab (Ab (Aa Ac rfl (qm rfl (qm rfl (DZ Db rfl (AY rfl (Ad ?_)))))))
   refine Ao rfl (fun c5 => ?_) (fun c5 => ?_)
   ·have h := Am c5 h
    refine Ar ?_
    refine AP h (fun v6 => mk [(0, .e (.one (.own 90000))), (1, .e (.one (.clo (BJ (NQ true AF) tB p1)))), (5, .e (.one (.pure (.val (.int .i64 v6.2))))), (6, .e (.one (.pure (.val (.int .i64 v3.2.2)))))] [(90000, .vec 3 (v6.1.map AF))]) (fun j6 h => ?_) (fun v6 h => ?_)
    ·refine AN (Ab (Aa Ac rfl (qm rfl (qm rfl ?_))))
     obtain ⟨v7, a7, b7, h⟩ := Aj h
     refine qI Db Ee a7 (Ag b7) rfl (qJ Iq Ee (Ag b7) rfl (qz HW rfl (qs Ee rfl (Ad (Ab (Aa Ac rfl (qm rfl (qL Iq Ee rfl ?_))))))))
     obtain ⟨v8, a8, h⟩ := bind_some h
     refine DW (ds0 := [_]) (ar := (NQ true AF) v7) (.p rfl) rfl rfl ⟨rfl, trivial⟩ rfl rfl rfl (DV (M3 _ _ Lk) a8) ?_
     refine Cu rfl (Ad ?_)
     refine Ao rfl (fun c9 => ?_) (fun c9 => ?_)
     ·have h := Am c9 h
      refine Ab (Aa Ac rfl (qm rfl (qm rfl (qL Iq Ee rfl ?_))))
      obtain ⟨v10, a10, b10, h⟩ := Aj h
      refine qI Db Ee a10 (Ag b10) rfl ?_
      refine A2 rfl rfl rfl rfl (Ag b10) rfl Ee rfl (A1 rfl) (A3 AF v3.1 _ v7) ?_
      refine Ad (Aa Ac rfl (qm rfl (AU rfl (qa rfl (Ad ?_)))))
      exact Au _ h (sm [] _ _ rfl rfl)
     ·have h := Al c9 h
      refine Ar ?_
      exact Au _ h (sm [] _ _ rfl rfl)
    ·refine Aa Ac rfl (qm rfl (AU rfl (qa rfl (Ad ?_))))
     exact Au _ h (sm [] _ _ rfl rfl)
   ·have h := Al c5 h
    refine AW ?_
    exact Au _ h (sm [] _ _ rfl rfl)
  ·refine Ak hs (Ab (Aa Ac rfl (qm rfl (qm rfl ?_))))
   obtain ⟨c11, h⟩ := AK h
   have w12 : ((v4.2).toNat) + ((v4.1.length - (v4.2).toNat)) ≤ v4.1.length := by have := c11.2.1; have := c11.2.2; omega
   refine Hx AF v4.1 (.p rfl) rfl (GU AF _ _ v4.1) rfl Db Ee (.some _ _ _ _ c11.1) (.none _) ⟨rfl, trivial⟩ trivial c11.2.1 (by rw [Nat.zero_add]; exact c11.2.2) (Nat.zero_add _) rfl ?_
   have w13 : (H1 v4.1 ((v4.2).toNat) (List.replicate ((v4.1.length - (v4.2).toNat)) ((Ap.mk 0 0 0)))).length = v4.1.length := Ir (by rw [List.length_replicate]; exact w12)
   refine N1 AF v4.1 ((Ap.mk 0 0 0)) rfl rfl (Ks AF _ _ ((v4.2).toNat) ((v4.1.length - (v4.2).toNat)) v4.1 w12) rfl Db HW rfl rfl rfl rfl ?_
   refine Ad (Ab (Aa Ac rfl (qm rfl (qm rfl ?_))))
   obtain ⟨c14, h⟩ := AK h
   have w15 : 0 + ((v4.2).toNat) ≤ (H1 v4.1 ((v4.2).toNat) (List.replicate ((v4.1.length - (v4.2).toNat)) ((Ap.mk 0 0 0)))).length := by have := c14.2.1; have := c14.2.2; omega
   refine Hx AF (H1 v4.1 ((v4.2).toNat) (List.replicate ((v4.1.length - (v4.2).toNat)) ((Ap.mk 0 0 0)))) (.p rfl) rfl (GU AF _ _ (H1 v4.1 ((v4.2).toNat) (List.replicate ((v4.1.length - (v4.2).toNat)) ((Ap.mk 0 0 0))))) rfl Db Ee (.none _) (.some _ _ _ _ c14.1) trivial ⟨rfl, trivial⟩ c14.2.1 (by rw [Nat.zero_add]; exact c14.2.2) (Nat.zero_add _) rfl ?_
   refine qa rfl (Ad ?_)
   obtain rfl := sj h
   refine Ak (sm [] [(4, .e (.one (.view 90000 3 0 ((v4.2).toNat))))] [(90000, .vec 3 ((H1 v4.1 ((v4.2).toNat) (List.replicate ((v4.1.length - (v4.2).toNat)) ((Ap.mk 0 0 0)))).map AF))] rfl rfl) (Ax ?_)
   exact ⟨⟨[_], ⟨.tmp _ _ rfl, trivial⟩, rfl⟩, ⟨rfl, trivial⟩, trivial⟩
set_option maxRecDepth 10000 in
theorem LJ (N : Nat) (p0 : Ah) (p1 : Ae) (r : (List Ap) × Int) (h : G4 N p0 p1 = some r) : Az Tryz.prog 70 [.e (.agg [.pure (.sl (p0.fVersions.map Ai)), .pure (.sl (p0.fNow.map Ai)), .pure (.sl (p0.fTarget.map Ai)), .pure (.sl (p0.fTables.map Aq))]), .e (.agg [.pure (.sl (p1.fBase.map Ai)), .pure (.sl (p1.fNext.map Ai)), .pure (.sl (p1.fHeld.map Bk))])] [(3, r.1.map AF)] (.tup [.one (.own 0), .one (.pure (.val (.int .i64 r.2)))]) := by
 unfold G4 at h
 refine As (n := 17) (rs := [.tmp 4, .tmp 5]) Tryz.func70 rfl rfl rfl (A1 rfl) (A1 rfl) rfl fun w0 S0 => ?_
 refine Ab (Aa Ac rfl (qb rfl (qb rfl (qa rfl (qa rfl (Ad (Ab (Ab (Aa Ac rfl (qL DY DI rfl (qL AV Av rfl ?_)))))))))))
 obtain ⟨v1, a1, h⟩ := bind_some h
 refine AD [] (HL N p0 p1 v1 a1) Rr rfl (qa rfl (Ad (Ab (Aa Ac rfl (qm rfl (BX rfl (Ad ?_)))))))
 refine Ao rfl (fun c2 => ?_) (fun c2 => ?_)
 ·have h := Am c2 h
  refine Ab (Aa Ac rfl (qm rfl (qa rfl (qa rfl (Ad ?_)))))
  obtain rfl := sj h
  refine Ak ((Bo 4 2001 3 rfl rfl rfl).trans (sm [(1000, 2001)] [(4, .e (.one (.own 1000))), (5, .e (.one (.pure (.val (.int .i64 v1)))))] [(1000, .vec 3 ((([] : List Ap)).map AF))] rfl rfl)) (Ax ?_)
  exact ⟨⟨[_, _], ⟨.tmp _ _ rfl, ⟨.tmp _ _ rfl, trivial⟩⟩, rfl⟩, ⟨rfl, trivial⟩⟩
 ·have h := Al c2 h
  refine Ar (Ab (Aa Ac rfl (qL DY DI rfl ?_)))
  obtain ⟨v3, a3, h⟩ := bind_some h
  refine AD [2002] (Ox N p0 v3 a3) UQ rfl (CQ (Lc 2 [.sl (p0.fVersions.map Ai), .sl (p0.fNow.map Ai), .sl (p0.fTarget.map Ai), .sl (p0.fTables.map Aq)] rfl rfl) (CQ (Lc 3 [.sl (p1.fBase.map Ai), .sl (p1.fNext.map Ai), .sl (p1.fHeld.map Bk)] rfl rfl) ?_))
  refine Lx (capD := [_, _]) (BJ (NQ true AF) tB ((fun (x : Ap) => En N x p0.fVersions p0.fNow p0.fTarget p0.fTables p1.fBase p1.fNext p1.fHeld))) (.p rfl) Uu rfl ⟨rfl, rfl, trivial⟩ rfl (fun ar t ht => by obtain ⟨x, r, rfl, hq, rfl⟩ := Ib ht; exact Ku N x p0.fVersions p0.fNow p0.fTarget p0.fTables p1.fBase p1.fNext p1.fHeld r hq) ?_
  obtain ⟨v4, a4, h⟩ := bind_some h
  obtain ⟨c5, h⟩ := AK h
  have w6 : 0 + v4.1 ≤ v4.2.length := by rw [Nat.zero_add]; exact c5
  refine CM (ds0 := [_, _]) [2002] [] [true] (Fn N v3 ((fun (x : Ap) => En N x p0.fVersions p0.fNow p0.fTarget p0.fTables p1.fBase p1.fNext p1.fHeld)) v4 a4) (.p rfl) UA rfl ⟨rfl, rfl, trivial⟩ rfl rfl (by decide) ⟨rfl, trivial⟩ rfl (A9 rfl) trivial ⟨(fun h => by cases h), trivial⟩ rfl rfl rfl ?_
  refine CQ (PI AF v4.2 16 2002 2003 3 v4.1 rfl rfl rfl rfl rfl c5) (qa rfl (qa rfl (Ad ?_)))
  obtain rfl := sj h
  refine Ak (sm [(1000, 2003)] [(4, .e (.one (.own 1000))), (5, .e (.one (.pure (.val (.int .i64 0)))))] [(1000, .vec 3 ((v4.2.take v4.1).map AF))] rfl rfl) (Ax ?_)
  exact ⟨⟨[_, _], ⟨.tmp _ _ rfl, ⟨.tmp _ _ rfl, trivial⟩⟩, rfl⟩, ⟨rfl, trivial⟩⟩
set_option maxRecDepth 10000 in
theorem MK (N : Nat) (p0 : Ap) (r : Bool) (h : FI N p0 = some r) : Az Tryz.prog 103 [.e (.agg [.pure (.val (.int .i64 p0.fKind)), .pure (.val (.int .i64 p0.fIndex)), .pure (.val (.int .i64 p0.fVersion))])] [] (.e (.one (.pure (.val (.bool r))))) := by
 unfold FI at h
 refine As (n := 27) (rs := [.tmp 2]) Tryz.func103 rfl rfl rfl (A1 rfl) (A1 rfl) rfl fun w0 S0 => ?_
 refine Ab (Aa Ac rfl (qb rfl (qa rfl (Ad (Ab ?_)))))
 refine AP h (fun v1 => mk [(1, .e (.one (.ptr 1 0))), (18, .e (.one (.pure (.val (.bool v1)))))] [(1, .box [.pure (.val (.int .i64 p0.fKind)), .pure (.val (.int .i64 p0.fIndex)), .pure (.val (.int .i64 p0.fVersion))])]) (fun j1 h => ?_) (fun v1 h => ?_)
 ·refine Aa Ac rfl (qf Eb rfl (ql Ci rfl (qf FN rfl (ql Ci rfl ?_))))
  refine TO (.p rfl) rfl rfl ?_
  refine AY rfl (qm rfl ?_)
  refine AB (t := 9) rfl (fun c2 => ?_) (fun c2 => ?_)
  ·have h := Am c2 h
   refine qn rfl (qn rfl (qn rfl (qp rfl (qm rfl (qn rfl (qn rfl (qn rfl (qp rfl (Ad ?_)))))))))
   exact Au _ h (sm [] _ _ rfl rfl)
  ·have h := Al c2 h
   refine qf EM rfl (ql Ci rfl (AY rfl (qp rfl (qm rfl ?_))))
   refine AB (t := 14) rfl (fun c3 => ?_) (fun c3 => ?_)
   ·have h := Am c3 h
    refine qn rfl (qn rfl (qn rfl (qp rfl (Ad ?_))))
    exact Au _ h (sm [] _ _ rfl rfl)
   ·have h := Al c3 h
    refine qf EM rfl (ql Ci rfl (Ew rfl (qp rfl (Ad ?_))))
    exact Au _ h (sm [] _ _ rfl rfl)
 ·refine Ao rfl (fun c4 => ?_) (fun c4 => ?_)
  ·have h := Am c4 h
   refine Ab (Aa Ac rfl (qa rfl (Ad ?_)))
   obtain rfl := sj h
   refine Ak (sm [] [(2, .e (.one (.pure (.val (.bool false)))))] [] rfl rfl) (Ax ?_)
   exact ⟨⟨[_], ⟨.tmp _ _ rfl, trivial⟩, rfl⟩, trivial⟩
  ·have h := Al c4 h
   refine Ar ?_
   refine AP h (fun v5 => mk [(2, .e (.one (.pure (.val (.bool v5)))))] []) (fun j5 h => ?_) (fun v5 h => ?_)
   ·refine Aa Ac rfl (qf EM rfl (ql Ci rfl (BA rfl (qm rfl ?_))))
    refine AB (t := 22) rfl (fun c6 => ?_) (fun c6 => ?_)
    ·have h := Am c6 h
     refine qn rfl (qn rfl (qn rfl (qp rfl (qa rfl (Ad ?_)))))
     exact Au _ h (sm [] _ _ rfl rfl)
    ·have h := Al c6 h
     refine qf FN rfl (ql Ci rfl (BA rfl (qp rfl (qa rfl (Ad ?_)))))
     exact Au _ h (sm [] _ _ rfl rfl)
   ·obtain rfl := sj h
    refine Ak (sm [] [(2, .e (.one (.pure (.val (.bool v5)))))] [] rfl rfl) (Ax ?_)
    exact ⟨⟨[_], ⟨.tmp _ _ rfl, trivial⟩, rfl⟩, trivial⟩
set_option maxRecDepth 10000 in
theorem L6 (N : Nat) (p0 : Ah) (p1 : Ap) (r : Bool) (h : Fg N p0 p1 = some r) : Az Tryz.prog 104 [.e (.agg [.pure (.sl (p0.fVersions.map Ai)), .pure (.sl (p0.fNow.map Ai)), .pure (.sl (p0.fTarget.map Ai)), .pure (.sl (p0.fTables.map Aq))]), .e (.agg [.pure (.val (.int .i64 p1.fKind)), .pure (.val (.int .i64 p1.fIndex)), .pure (.val (.int .i64 p1.fVersion))])] [] (.e (.one (.pure (.val (.bool r))))) := by
 unfold Fg at h
 refine As (n := 36) (rs := [.tmp 4]) Tryz.func104 rfl rfl rfl (A1 rfl) (A1 rfl) rfl fun w0 S0 => ?_
 refine Ab (Aa Ac rfl (qb rfl (qb rfl (qa rfl (Ad (Ab (Ab (Aa Ac rfl (qf EM rfl (ql Ci rfl (BA rfl (Ad ?_))))))))))))
 refine Ao rfl (fun c1 => ?_) (fun c1 => ?_)
 ·have h := Am c1 h
  refine Ab (Aa Ac rfl (qf Eb rfl (ql Ci rfl (qf CO rfl (ql GV rfl (AR DR rfl (AY rfl (qa rfl (Ad ?_)))))))))
  obtain rfl := sj h
  refine Ak (sm [] [(4, .e (.one (.pure (.val (.bool ((decide (p1.fIndex < (p0.fTables.length : Int)))))))))] [] rfl rfl) (Ax ?_)
  exact ⟨⟨[_], ⟨.tmp _ _ rfl, trivial⟩, rfl⟩, trivial⟩
 ·have h := Al c1 h
  refine Ar ?_
  refine AP h (fun v2 => mk [(4, .e (.one (.pure (.val (.bool v2)))))] []) (fun j2 h => ?_) (fun v2 h => ?_)
  ·refine Aa Ac rfl (qf Eb rfl (ql Ci rfl (qf Bs rfl (ql Bc rfl (AR AE rfl (AY rfl (qm rfl ?_)))))))
   refine AB (t := 20) rfl (fun c3 => ?_) (fun c3 => ?_)
   ·have h := Am c3 h
    refine qf EM rfl (ql Ci rfl (BX rfl (qm rfl ?_)))
    refine AB (t := 24) rfl (fun c4 => ?_) (fun c4 => ?_)
    ·have h := Am c4 h
     refine qn rfl (qn rfl (qn rfl (qn rfl (qn rfl (qn rfl (qn rfl (qn rfl (qn rfl (qp rfl (qp rfl (qa rfl (AI (by kernel_rfl) ?_))))))))))))
     exact Au _ h (sm [] _ _ rfl rfl)
    ·have h := Al c4 h
     refine qf FN rfl (ql Ci rfl (qf Bs rfl (ql Bc rfl (qf Eb rfl (ql Ci rfl ?_)))))
     obtain ⟨v5, a5, b5, h⟩ := Aj h
     refine qi AE Dm a5 (Ag b5) rfl (qk Ci rfl (AY rfl (qp rfl (qp rfl (qa rfl (AI (by kernel_rfl) ?_))))))
     exact Au _ h (sm [] _ _ rfl rfl)
   ·have h := Al c3 h
    refine qn rfl (qn rfl (qn rfl (qn rfl (qu rfl (qu rfl (qu rfl (qu rfl (qu rfl (qu rfl (qu rfl (qu rfl (qu rfl (qn rfl (qp rfl (qa rfl (AI (by kernel_rfl) ?_))))))))))))))))
    exact Au _ h (sm [] _ _ rfl rfl)
  ·obtain rfl := sj h
   refine Ak (sm [] [(4, .e (.one (.pure (.val (.bool v2)))))] [] rfl rfl) (Ax ?_)
   exact ⟨⟨[_], ⟨.tmp _ _ rfl, trivial⟩, rfl⟩, trivial⟩
set_option maxRecDepth 10000 in
theorem JW (N : Nat) (p0 : Ah) (p1 : Ae) (p2 : Ap) (r : Ae × Int) (h : EW N p0 p1 p2 = some r) : Az Tryz.prog 79 [.e (.agg [.pure (.sl (p0.fVersions.map Ai)), .pure (.sl (p0.fNow.map Ai)), .pure (.sl (p0.fTarget.map Ai)), .pure (.sl (p0.fTables.map Aq))]), .e (.agg [.pure (.sl (p1.fBase.map Ai)), .pure (.sl (p1.fNext.map Ai)), .pure (.sl (p1.fHeld.map Bk))]), .e (.agg [.pure (.val (.int .i64 p2.fKind)), .pure (.val (.int .i64 p2.fIndex)), .pure (.val (.int .i64 p2.fVersion))])] [(1, r.1.fBase.map Ai), (1, r.1.fNext.map Ai), (1, r.1.fHeld.map Bk)] (.tup [.agg [.own 0, .own 1, .own 2], .one (.pure (.val (.int .i64 r.2)))]) := by
 unfold EW at h
 refine As (n := 32) (rs := [.cell 6 50, .tmp 7]) Tryz.func79 rfl rfl rfl (A1 rfl) (A1 rfl) rfl fun w0 S0 => ?_
 refine Ab (Aa Ac rfl (qb rfl (qb rfl (qb rfl (qz Ct rfl (qa rfl (Ad (Ab (AN (Ab (Aa Ac rfl (qL Iq Ee rfl ?_))))))))))))
 obtain ⟨v1, a1, h⟩ := bind_some h
 refine AD [] (MK N p2 v1 a1) SX rfl (Cu rfl (qa rfl (Ad ?_)))
 refine Ao rfl (fun c2 => ?_) (fun c2 => ?_)
 ·have h := Am c2 h
  refine Ab (Aa Ac rfl (BE Ct GE rfl (qs Av rfl (qa rfl (Ad ?_)))))
  obtain rfl := sj h
  refine Ak ((AA 6 0 2001 1 _ rfl rfl rfl rfl).trans ((AA 6 1 2002 1 _ rfl rfl rfl rfl).trans ((AA 6 2 2003 1 _ rfl rfl rfl rfl).trans (sm [(1000, 2001), (1001, 2002), (1002, 2003)] [(6, .e (.one (.ptr 6 0))), (7, .e (.one (.pure (.val (.int .i64 1)))))] [(6, .box [.own 1000, .own 1001, .own 1002]), (1000, .vec 1 ((([] : List Int)).map Ai)), (1001, .vec 1 ((([] : List Int)).map Ai)), (1002, .vec 1 ((([] : List Int)).map Bk))] rfl rfl)))) (Ax ?_)
  exact ⟨⟨[_, _], ⟨.cellN _ _ _ _ _ _ _ rfl rfl AV Av rfl rfl (HC rfl), ⟨.tmp _ _ rfl, trivial⟩⟩, rfl⟩, ⟨rfl, rfl, rfl, trivial⟩⟩
 ·have h := Al c2 h
  refine Ab (Aa Ac rfl (qL DY DI rfl (qL Iq Ee rfl ?_)))
  obtain ⟨v3, a3, h⟩ := bind_some h
  refine AD [] (L6 N p0 p2 v3 a3) Tm rfl (Cu rfl (qa rfl (Ad ?_)))
  refine Ao rfl (fun c4 => ?_) (fun c4 => ?_)
  ·have h := Am c4 h
   refine Ab (Aa Ac rfl (BE Ct GE rfl (qs Av rfl (qa rfl (Ad ?_)))))
   obtain rfl := sj h
   refine Ak ((AA 6 0 2004 1 _ rfl rfl rfl rfl).trans ((AA 6 1 2005 1 _ rfl rfl rfl rfl).trans ((AA 6 2 2006 1 _ rfl rfl rfl rfl).trans (sm [(1000, 2004), (1001, 2005), (1002, 2006)] [(6, .e (.one (.ptr 6 0))), (7, .e (.one (.pure (.val (.int .i64 4)))))] [(6, .box [.own 1000, .own 1001, .own 1002]), (1000, .vec 1 ((([] : List Int)).map Ai)), (1001, .vec 1 ((([] : List Int)).map Ai)), (1002, .vec 1 ((([] : List Int)).map Bk))] rfl rfl)))) (Ax ?_)
   exact ⟨⟨[_, _], ⟨.cellN _ _ _ _ _ _ _ rfl rfl AV Av rfl rfl (HC rfl), ⟨.tmp _ _ rfl, trivial⟩⟩, rfl⟩, ⟨rfl, rfl, rfl, trivial⟩⟩
  ·have h := Al c4 h
   refine Ar (Ab (Aa Ac rfl (qL DY DI rfl (qL AV Av rfl (qL Iq Ee rfl ?_)))))
   obtain ⟨v5, a5, h⟩ := bind_some h
   refine AD [2007, 2008, 2009] (JQ N p0 p1 p2 v5 a5) TX rfl (qm rfl (qx rfl (qx rfl (qz Ct rfl (qs Av rfl (qa rfl (Ad (Ab (Ab (Aa Ac rfl (qm rfl (Cu rfl (Ad ?_)))))))))))))
   refine Ao rfl (fun c6 => ?_) (fun c6 => ?_)
   ·have h := Am c6 h
    refine Ab (Aa Ac rfl (BE Ct GE rfl (qs Av rfl (qa rfl (Ad ?_)))))
    obtain rfl := sj h
    refine Ak ((AA 6 0 2010 1 _ rfl rfl rfl rfl).trans ((AA 6 1 2011 1 _ rfl rfl rfl rfl).trans ((AA 6 2 2012 1 _ rfl rfl rfl rfl).trans (sm [(1000, 2010), (1001, 2011), (1002, 2012)] [(6, .e (.one (.ptr 6 0))), (7, .e (.one (.pure (.val (.int .i64 11)))))] [(6, .box [.own 1000, .own 1001, .own 1002]), (1000, .vec 1 ((([] : List Int)).map Ai)), (1001, .vec 1 ((([] : List Int)).map Ai)), (1002, .vec 1 ((([] : List Int)).map Bk))] rfl rfl)))) (Ax ?_)
    exact ⟨⟨[_, _], ⟨.cellN _ _ _ _ _ _ _ rfl rfl AV Av rfl rfl (HC rfl), ⟨.tmp _ _ rfl, trivial⟩⟩, rfl⟩, ⟨rfl, rfl, rfl, trivial⟩⟩
   ·have h := Al c6 h
    refine Ar (Ab (Aa Ac rfl (qL AV Av rfl (qs Av rfl (qa rfl (Ad ?_))))))
    obtain rfl := sj h
    refine Ak (sm [(1000, 2007), (1001, 2008), (1002, 2009)] [(6, .e (.one (.ptr 6 0))), (7, .e (.one (.pure (.val (.int .i64 0)))))] [(6, .box [.own 1000, .own 1001, .own 1002]), (1000, .vec 1 (v5.1.fBase.map Ai)), (1001, .vec 1 (v5.1.fNext.map Ai)), (1002, .vec 1 (v5.1.fHeld.map Bk))] rfl rfl) (Ax ?_)
    exact ⟨⟨[_, _], ⟨.cellN _ _ _ _ _ _ _ rfl rfl AV Av rfl rfl (HC rfl), ⟨.tmp _ _ rfl, trivial⟩⟩, rfl⟩, ⟨rfl, rfl, rfl, trivial⟩⟩
set_option maxRecDepth 10000 in
theorem M7 (N : Nat) (p0 : Ah) (p1 : Ae) (p2 : Ap) (r : Ae × Int) (h : HR N p0 p1 p2 = some r) : Az Tryz.prog 71 [.e (.agg [.pure (.sl (p0.fVersions.map Ai)), .pure (.sl (p0.fNow.map Ai)), .pure (.sl (p0.fTarget.map Ai)), .pure (.sl (p0.fTables.map Aq))]), .e (.agg [.pure (.sl (p1.fBase.map Ai)), .pure (.sl (p1.fNext.map Ai)), .pure (.sl (p1.fHeld.map Bk))]), .e (.agg [.pure (.val (.int .i64 p2.fKind)), .pure (.val (.int .i64 p2.fIndex)), .pure (.val (.int .i64 p2.fVersion))])] [(1, r.1.fBase.map Ai), (1, r.1.fNext.map Ai), (1, r.1.fHeld.map Bk)] (.tup [.agg [.own 0, .own 1, .own 2], .one (.pure (.val (.int .i64 r.2)))]) := by
 unfold HR at h
 refine As (n := 22) (rs := [.cell 6 50, .tmp 7]) Tryz.func71 rfl rfl rfl (A1 rfl) (A1 rfl) rfl fun w0 S0 => ?_
 refine Ab (Aa Ac rfl (qb rfl (qb rfl (qb rfl (qz Ct rfl (qa rfl (Ad (Ab (Ab (Aa Ac rfl (qL DY DI rfl (qL AV Av rfl ?_))))))))))))
 obtain ⟨v1, a1, h⟩ := bind_some h
 refine AD [] (HL N p0 p1 v1 a1) Rr rfl (qa rfl (Ad (Ab (Aa Ac rfl (qm rfl (BX rfl (Ad ?_)))))))
 refine Ao rfl (fun c2 => ?_) (fun c2 => ?_)
 ·have h := Am c2 h
  refine Ab (Aa Ac rfl (BE Ct GE rfl (qm rfl (qs Av rfl (qa rfl (Ad ?_))))))
  obtain rfl := sj h
  refine Ak ((AA 6 0 2001 1 _ rfl rfl rfl rfl).trans ((AA 6 1 2002 1 _ rfl rfl rfl rfl).trans ((AA 6 2 2003 1 _ rfl rfl rfl rfl).trans (sm [(1000, 2001), (1001, 2002), (1002, 2003)] [(6, .e (.one (.ptr 6 0))), (7, .e (.one (.pure (.val (.int .i64 v1)))))] [(6, .box [.own 1000, .own 1001, .own 1002]), (1000, .vec 1 ((([] : List Int)).map Ai)), (1001, .vec 1 ((([] : List Int)).map Ai)), (1002, .vec 1 ((([] : List Int)).map Bk))] rfl rfl)))) (Ax ?_)
  exact ⟨⟨[_, _], ⟨.cellN _ _ _ _ _ _ _ rfl rfl AV Av rfl rfl (HC rfl), ⟨.tmp _ _ rfl, trivial⟩⟩, rfl⟩, ⟨rfl, rfl, rfl, trivial⟩⟩
 ·have h := Al c2 h
  refine Ar (Ab (Aa Ac rfl (qL DY DI rfl (qL AV Av rfl (qL Iq Ee rfl ?_)))))
  obtain ⟨v3, a3, h⟩ := bind_some h
  refine AD [2004, 2005, 2006] (JW N p0 p1 p2 v3 a3) TP rfl (qx rfl (qx rfl (qs Av rfl (qa rfl (Ad ?_)))))
  obtain rfl := sj h
  refine Ak (sm [(1000, 2004), (1001, 2005), (1002, 2006)] [(6, .e (.one (.ptr 6 0))), (7, .e (.one (.pure (.val (.int .i64 v3.2)))))] [(6, .box [.own 1000, .own 1001, .own 1002]), (1000, .vec 1 (v3.1.fBase.map Ai)), (1001, .vec 1 (v3.1.fNext.map Ai)), (1002, .vec 1 (v3.1.fHeld.map Bk))] rfl rfl) (Ax ?_)
  exact ⟨⟨[_, _], ⟨.cellN _ _ _ _ _ _ _ rfl rfl AV Av rfl rfl (HC rfl), ⟨.tmp _ _ rfl, trivial⟩⟩, rfl⟩, ⟨rfl, rfl, rfl, trivial⟩⟩
set_option maxRecDepth 10000 in
theorem JY (N : Nat) (p0 : Ah) (p1 : Ae) (r : (List Ap) × (List Ae)) (h : GM N p0 p1 = some r) : Az Tryz.prog 49 [.e (.agg [.pure (.sl (p0.fVersions.map Ai)), .pure (.sl (p0.fNow.map Ai)), .pure (.sl (p0.fTarget.map Ai)), .pure (.sl (p0.fTables.map Aq))]), .e (.agg [.pure (.sl (p1.fBase.map Ai)), .pure (.sl (p1.fNext.map Ai)), .pure (.sl (p1.fHeld.map Bk))])] [(3, r.1.map AF), (3, r.2.map Af)] (.tup [.one (.own 0), .one (.own 1)]) := by
 unfold GM at h
 refine As (n := 55) (rs := [.tmp 4, .tmp 5]) Tryz.func49 rfl rfl rfl (A1 rfl) (A1 rfl) rfl fun w0 S0 => ?_
 refine Ab (Aa Ac rfl (qb rfl (qb rfl (qa rfl (qa rfl (Ad (Ab (Aa Ac rfl (qa rfl (Ad (Ab (Aa Ac rfl (qa rfl (Ad (Ab (Aa Ac rfl (qL DY DI rfl (qL AV Av rfl ?_))))))))))))))))))
 obtain ⟨v1, a1, h⟩ := bind_some h
 refine AD [2001] (LJ N p0 p1 v1 a1) UY rfl (qm rfl (qx rfl (qx rfl (qa rfl (qa rfl (Ad (Ab (Ab (Aa Ac rfl (qm rfl (DZ Db rfl (qm rfl (Ad ?_)))))))))))))
 refine AJ (L := Fr N p0 p1 v1) h (fun v2 => mk [(2, .e (.one (.ptr 2 0))), (3, .e (.one (.ptr 3 0))), (6, .e (.one (.own 2002))), (7, .e (.one (.own 2003))), (22, .e (.one (.own 2004))), (23, .e (.one (.pure (.val (.int .i64 ((v1.1.length : Int))))))), (24, .e (.one (.pure (.val (.int .i64 v2.2.2)))))] [(2, .box [.pure (.sl (p0.fVersions.map Ai)), .pure (.sl (p0.fNow.map Ai)), .pure (.sl (p0.fTarget.map Ai)), .pure (.sl (p0.fTables.map Aq))]), (3, .box [.pure (.sl (p1.fBase.map Ai)), .pure (.sl (p1.fNext.map Ai)), .pure (.sl (p1.fHeld.map Bk))]), (2002, .vec 3 (v2.1.map AF)), (2003, .vec 3 (v2.2.1.map Af)), (2004, .vec 3 (v1.1.map AF))]) (fun v3 => mk [(6, .e (.one (.own 2005))), (7, .e (.one (.own 2006)))] [(2005, .vec 3 (v3.1.map AF)), (2006, .vec 3 (v3.2.map Af))]) (fun _ _ => rfl) ((Bo 6 2013 3 rfl rfl rfl).trans ((Bo 7 2014 3 rfl rfl rfl).trans (sm [(2002, 2013), (2003, 2014), (2004, 2001)] _ _ rfl rfl))) (fun j2 n2 v2 h => ?_) (fun v3 s h hs => ?_)
 ·unfold Fr at h
  refine Ab (Aa Ac rfl (AY rfl (Ad (Ab ?_))))
  refine Ao rfl (fun c4 => ?_) (fun c4 => ?_)
  ·have h := Am c4 h
   refine Ar ?_
   refine AP h (fun v5 => mk [(2, .e (.one (.ptr 2 0))), (3, .e (.one (.ptr 3 0))), (6, .e (.one (.own 2007))), (7, .e (.one (.own 2008))), (22, .e (.one (.own 2009))), (23, .e (.one (.pure (.val (.int .i64 ((v1.1.length : Int))))))), (24, .e (.one (.pure (.val (.int .i64 v2.2.2)))))] [(2, .box [.pure (.sl (p0.fVersions.map Ai)), .pure (.sl (p0.fNow.map Ai)), .pure (.sl (p0.fTarget.map Ai)), .pure (.sl (p0.fTables.map Aq))]), (3, .box [.pure (.sl (p1.fBase.map Ai)), .pure (.sl (p1.fNext.map Ai)), .pure (.sl (p1.fHeld.map Bk))]), (2007, .vec 3 (v5.1.map AF)), (2008, .vec 3 (v5.2.map Af)), (2009, .vec 3 (v1.1.map AF))]) (fun j5 h => ?_) (fun v5 h => ?_)
   ·refine AN (Ab (Aa Ac rfl ?_))
    obtain ⟨v6, a6, b6, h⟩ := Aj h
    refine qI Db Ee a6 (Ag b6) rfl (qJ Iq Ee (Ag b6) rfl (qz HW rfl (qs Ee rfl (Ad (Ab (Aa Ac rfl (qL DY DI rfl (qL AV Av rfl (qL Iq Ee rfl ?_)))))))))
    obtain ⟨v7, a7, h⟩ := bind_some h
    refine AD [2010, 2011, 2012] (M7 N p0 p1 v6 v7 a7) UM rfl (qm rfl (qx rfl (qx rfl (qz Ct rfl (qs Av rfl (qa rfl (Ad (Ab (Ab (Aa Ac rfl (qm rfl (BX rfl (Ad ?_)))))))))))))
    refine Ao rfl (fun c8 => ?_) (fun c8 => ?_)
    ·have h := Am c8 h
     refine AW ?_
     exact Au _ h (sm [(2007, 2002), (2008, 2003), (2009, 2004)] _ _ rfl rfl)
    ·have h := Al c8 h
     refine Ar (Ab (Aa Ac rfl (qL DY DI rfl (qL AV Av rfl ?_))))
     obtain ⟨v9, a9, h⟩ := bind_some h
     refine GN [] [2010, 2011, 2012] (Iy N p0 v7.1 v9 a9) SF EY rfl (qm rfl (qx rfl (qx rfl (qa rfl (qa rfl (Ad (Ab (Aa Ac rfl (qm rfl (Ad ?_))))))))))
     refine Ao rfl (fun c10 => ?_) (fun c10 => ?_)
     ·have h := Am c10 h
      refine Ak (AZ 2010 _ _ rfl rfl) (Ak (AZ 2011 _ _ rfl rfl) (Ak (AZ 2012 _ _ rfl rfl) (Aa Ac rfl (qm rfl (qL Iq Ee rfl (D4 Db Ee HW rfl ?_))))))
      obtain ⟨c11, h⟩ := AK h
      refine Dx (f := AF) Db Db Ee MD HW c11 rfl (qm rfl (qL AV Av rfl (D4 AL Av Ct rfl ?_)))
      obtain ⟨c12, h⟩ := AK h
      refine Dx (f := Af) AL AL Av Mq Ct c12 rfl (qa rfl (qa rfl (AI (by kernel_rfl) ?_)))
      exact Au _ h (sm [(2007, 47), (2008, 51), (2009, 2004)] _ _ rfl rfl)
     ·have h := Al c10 h
      refine Ar ?_
      exact Au _ h (sm [(2007, 2002), (2008, 2003), (2009, 2004)] _ _ rfl rfl)
   ·refine Aa Ac rfl (AU rfl (qm rfl (Ad ?_)))
    exact Au _ h (sm [(2002, 2007), (2003, 2008), (2004, 2009)] _ _ rfl rfl)
  ·have h := Al c4 h
   refine AW ?_
   exact Au _ h (sm [(2005, 2002), (2006, 2003)] _ _ rfl rfl)
 ·refine Ak hs (Ab (Aa Ac rfl (qm rfl (qm rfl (qa rfl (qa rfl (Ad ?_)))))))
  obtain rfl := sj h
  refine Ak (sm [(1000, 2005), (1001, 2006)] [(4, .e (.one (.own 1000))), (5, .e (.one (.own 1001)))] [(1000, .vec 3 (v3.1.map AF)), (1001, .vec 3 (v3.2.map Af))] rfl rfl) (Ax ?_)
  exact ⟨⟨[_, _], ⟨.tmp _ _ rfl, ⟨.tmp _ _ rfl, trivial⟩⟩, rfl⟩, ⟨rfl, rfl, trivial⟩⟩
set_option maxRecDepth 10000 in
theorem JT (N : Nat) (p0 : Int) (r : Int) (h : FX N p0 = some r) : Az Tryz.prog 89 [.e (.one (.pure (.val (.int .u32 p0))))] [] (.e (.one (.pure (.val (.int .i64 r))))) := by
 unfold FX at h
 refine As (n := 19) (rs := [.tmp 2]) Tryz.func89 rfl rfl rfl (A1 rfl) (A1 rfl) rfl fun w0 S0 => ?_
 refine Ab (Aa Ac rfl (qa rfl (Ad ?_)))
 refine AP h (fun v1 => mk [(0, .e (.one (.pure (.val (.int .u32 v1.1))))), (2, .e (.one (.pure (.val (.int .i64 v1.2)))))] []) (fun j1 h => ?_) (fun v1 h => ?_)
 ·refine Ab (Aa Ac rfl (qm rfl (C6 rfl (Ad ?_))))
  refine Ao rfl (fun c2 => ?_) (fun c2 => ?_)
  ·have h := Am c2 h
   refine Ab (Aa Ac rfl (qm rfl (Gz rfl (by decide) (qa rfl (Ad (Aa Ac rfl (qa rfl (Ad ?_))))))))
   exact Au _ h (sm [] _ _ rfl rfl)
  ·have h := Al c2 h
   refine Ar ?_
   exact Au _ h (sm [] _ _ rfl rfl)
 ·refine AP h (fun v3 => mk [(0, .e (.one (.pure (.val (.int .u32 v3.1))))), (2, .e (.one (.pure (.val (.int .i64 v3.2)))))] []) (fun j3 h => ?_) (fun v3 h => ?_)
  ·refine Ab (Aa Ac rfl (qm rfl (C6 rfl (Ad ?_))))
   refine Ao rfl (fun c4 => ?_) (fun c4 => ?_)
   ·have h := Am c4 h
    refine Ab (Aa Ac rfl (qm rfl (Gz rfl (by decide) (qa rfl (Ad (Aa Ac rfl (qm rfl (AU rfl (qa rfl (Ad ?_))))))))))
    exact Au _ h (sm [] _ _ rfl rfl)
   ·have h := Al c4 h
    refine Ar ?_
    exact Au _ h (sm [] _ _ rfl rfl)
  ·refine Ab (Aa Ac rfl (qm rfl (qm rfl (F8 NV T5 rfl ?_))))
   obtain ⟨v5, a5, h⟩ := bind_some h
   refine Kp (.p rfl) rfl rfl Rp a5 ?_
   refine F8 Rw Pu rfl (AU rfl (qa rfl (Ad ?_)))
   obtain rfl := sj h
   refine Ak (sm [] [(2, .e (.one (.pure (.val (.int .i64 ((IntKind.wrap .i64 (v3.2 + (IntKind.wrap .i64 v5)))))))))] [] rfl rfl) (Ax ?_)
   exact ⟨⟨[_], ⟨.tmp _ _ rfl, trivial⟩, rfl⟩, trivial⟩
set_option maxRecDepth 10000 in
theorem J3 (N : Nat) (p0 : Int) (r : Int) (h : FW N p0 = some r) : Az Tryz.prog 90 [.e (.one (.pure (.val (.int .u64 p0))))] [] (.e (.one (.pure (.val (.int .i64 r))))) := by
 unfold FW at h
 refine As (n := 25) (rs := [.tmp 2]) Tryz.func90 rfl rfl rfl (A1 rfl) (A1 rfl) rfl fun w0 S0 => ?_
 refine Ab (Aa Ac rfl (qa rfl (Ad ?_)))
 refine AP h (fun v1 => mk [(0, .e (.one (.pure (.val (.int .u64 v1.1))))), (2, .e (.one (.pure (.val (.int .i64 v1.2)))))] []) (fun j1 h => ?_) (fun v1 h => ?_)
 ·refine Ab (Aa Ac rfl (qm rfl (C6 rfl (Ad ?_))))
  refine Ao rfl (fun c2 => ?_) (fun c2 => ?_)
  ·have h := Am c2 h
   refine Ab (Aa Ac rfl (qm rfl (Gz rfl (by decide) (qa rfl (Ad (Aa Ac rfl (qa rfl (Ad ?_))))))))
   exact Au _ h (sm [] _ _ rfl rfl)
  ·have h := Al c2 h
   refine Ar ?_
   exact Au _ h (sm [] _ _ rfl rfl)
 ·refine AP h (fun v3 => mk [(0, .e (.one (.pure (.val (.int .u64 v3.1))))), (2, .e (.one (.pure (.val (.int .i64 v3.2)))))] []) (fun j3 h => ?_) (fun v3 h => ?_)
  ·refine Ab (Aa Ac rfl (qm rfl (C6 rfl (Ad ?_))))
   refine Ao rfl (fun c4 => ?_) (fun c4 => ?_)
   ·have h := Am c4 h
    refine Ab (Aa Ac rfl (qm rfl (Gz rfl (by decide) (qa rfl (Ad (Aa Ac rfl (qm rfl (AU rfl (qa rfl (Ad ?_))))))))))
    exact Au _ h (sm [] _ _ rfl rfl)
   ·have h := Al c4 h
    refine Ar ?_
    exact Au _ h (sm [] _ _ rfl rfl)
  ·refine AP h (fun v5 => mk [(0, .e (.one (.pure (.val (.int .u64 v5.1))))), (2, .e (.one (.pure (.val (.int .i64 v5.2)))))] []) (fun j5 h => ?_) (fun v5 h => ?_)
   ·refine Ab (Aa Ac rfl (qm rfl (C6 rfl (Ad ?_))))
    refine Ao rfl (fun c6 => ?_) (fun c6 => ?_)
    ·have h := Am c6 h
     refine Ab (Aa Ac rfl (qm rfl (Gz rfl (by decide) (qa rfl (Ad (Aa Ac rfl (qm rfl (AU rfl (qa rfl (Ad ?_))))))))))
     exact Au _ h (sm [] _ _ rfl rfl)
    ·have h := Al c6 h
     refine Ar ?_
     exact Au _ h (sm [] _ _ rfl rfl)
   ·refine Ab (Aa Ac rfl (qm rfl (qm rfl (F8 Qa T5 rfl ?_))))
    obtain ⟨v7, a7, h⟩ := bind_some h
    refine Kp (.p rfl) rfl rfl Rp a7 ?_
    refine F8 Rw Pu rfl (AU rfl (qa rfl (Ad ?_)))
    obtain rfl := sj h
    refine Ak (sm [] [(2, .e (.one (.pure (.val (.int .i64 ((IntKind.wrap .i64 (v5.2 + (IntKind.wrap .i64 v7)))))))))] [] rfl rfl) (Ax ?_)
    exact ⟨⟨[_], ⟨.tmp _ _ rfl, trivial⟩, rfl⟩, trivial⟩
set_option maxRecDepth 10000 in
theorem IA (N : Nat) (p0 : Int) (r : Int) (h : Fo N p0 = some r) : Az Tryz.prog 61 [.e (.one (.pure (.val (.int .u64 p0))))] [] (.e (.one (.pure (.val (.int .i64 r))))) := by
 unfold Fo at h
 refine As (n := 8) (rs := [.tmp 2]) Tryz.func61 rfl rfl rfl (A1 rfl) (A1 rfl) rfl fun w0 S0 => ?_
 refine Ab (Aa Ac rfl (qa rfl (Ad (Ab ?_))))
 refine Ao rfl (fun c1 => ?_) (fun c1 => ?_)
 ·have h := Am c1 h
  refine Ab (Aa Ac rfl (qm rfl (F8 NY N0 rfl ?_)))
  obtain ⟨v2, a2, h⟩ := bind_some h
  refine AD [] (JT N ((IntKind.wrap .u32 p0)) v2 a2) U3 rfl (qa rfl (Ad ?_))
  obtain rfl := sj h
  refine Ak (sm [] [(2, .e (.one (.pure (.val (.int .i64 v2)))))] [] rfl rfl) (Ax ?_)
  exact ⟨⟨[_], ⟨.tmp _ _ rfl, trivial⟩, rfl⟩, trivial⟩
 ·have h := Al c1 h
  refine Ar (Ab (Aa Ac rfl (qm rfl ?_)))
  obtain ⟨v3, a3, h⟩ := bind_some h
  refine AD [] (J3 N p0 v3 a3) Uf rfl (qa rfl (Ad ?_))
  obtain rfl := sj h
  refine Ak (sm [] [(2, .e (.one (.pure (.val (.int .i64 v3)))))] [] rfl rfl) (Ax ?_)
  exact ⟨⟨[_], ⟨.tmp _ _ rfl, trivial⟩, rfl⟩, trivial⟩
set_option maxRecDepth 10000 in
theorem Fx (N : Nat) (p0 : List Ae) (p1 : Int) (p2 : Int) (p3 : (Ae × Ae) → Option Int) (r : (List Ae)) (h : CE N p0 p1 p2 p3 = some r) : Bv Tryz.prog 81 [.e (.one (.own 90000)), .e (.one (.pure (.val (.int .i64 p1)))), .e (.one (.pure (.val (.int .i64 p2)))), .e (.one (.clo (BJ (DU true Af true Af) Cv p3)))] [(.vec 3 (p0.map Af), .vec 3 (r.map Af))] [] (.tup []) := by
 unfold CE at h
 refine Bn (n := 53) (rs := []) Tryz.func81 rfl rfl rfl (A1 rfl) (A1 rfl) rfl rfl (A1 rfl) rfl (A1 rfl) fun w0 S0 GL => Lb ?_
 refine Ak (sm [] [(0, .e (.one (.own 90000))), (1, .e (.one (.pure (.val (.int .i64 p1))))), (2, .e (.one (.pure (.val (.int .i64 p2))))), (3, .e (.one (.clo (BJ (DU true Af true Af) Cv p3))))] [(90000, .vec 3 (p0.map Af))] rfl rfl) (Ab (Aa Ac rfl (qm rfl (AU rfl (qa rfl (Ad ?_))))))
 refine AJ (L := BL N p1 p2 p3) h (fun v1 => mk [(0, .e (.one (.own 90000))), (1, .e (.one (.pure (.val (.int .i64 p1))))), (2, .e (.one (.pure (.val (.int .i64 p2))))), (3, .e (.one (.clo (BJ (DU true Af true Af) Cv p3)))), (8, .e (.one (.pure (.val (.int .i64 v1.2)))))] [(90000, .vec 3 (v1.1.map Af))]) (fun v2 => mk [] [(90000, .vec 3 (v2.map Af))]) (fun _ _ => rfl) (sm [] _ _ rfl rfl) (fun j1 n1 v1 h => ?_) (fun v2 s h hs => ?_)
 ·unfold BL at h
  refine Ab (Ab (Aa Ac rfl (qm rfl (qm rfl (AY rfl (Ad ?_))))))
  refine Ao rfl (fun c3 => ?_) (fun c3 => ?_)
  ·have h := Am c3 h
   refine Ar (Ab (AN (Ab (Aa Ac rfl (qm rfl (qa rfl (Ad ?_)))))))
   refine AJ (L := BM N p1 p3) h (fun v4 => mk [(0, .e (.one (.own 90000))), (1, .e (.one (.pure (.val (.int .i64 p1))))), (2, .e (.one (.pure (.val (.int .i64 p2))))), (3, .e (.one (.clo (BJ (DU true Af true Af) Cv p3)))), (8, .e (.one (.pure (.val (.int .i64 v1.2))))), (9, .e (.one (.pure (.val (.int .i64 v4.2)))))] [(90000, .vec 3 (v4.1.map Af))]) (fun v5 => mk [(0, .e (.one (.own 90000))), (1, .e (.one (.pure (.val (.int .i64 p1))))), (2, .e (.one (.pure (.val (.int .i64 p2))))), (3, .e (.one (.clo (BJ (DU true Af true Af) Cv p3)))), (8, .e (.one (.pure (.val (.int .i64 v1.2)))))] [(90000, .vec 3 (v5.map Af))]) (fun _ _ => rfl) (sm [] _ _ rfl rfl) (fun j4 n4 v4 h => ?_) (fun v5 s h hs => ?_)
   ·unfold BM at h
    refine Ab ?_
    refine AP h (fun v6 => mk [(0, .e (.one (.own 90000))), (1, .e (.one (.pure (.val (.int .i64 p1))))), (2, .e (.one (.pure (.val (.int .i64 p2))))), (3, .e (.one (.clo (BJ (DU true Af true Af) Cv p3)))), (8, .e (.one (.pure (.val (.int .i64 v1.2))))), (9, .e (.one (.pure (.val (.int .i64 v4.2))))), (34, .e (.one (.pure (.val (.bool v6)))))] [(90000, .vec 3 (v4.1.map Af))]) (fun j6 h => ?_) (fun v6 h => ?_)
    ·refine Aa Ac rfl (qm rfl (qm rfl (Ew rfl (qm rfl ?_))))
     refine AB (t := 21) rfl (fun c7 => ?_) (fun c7 => ?_)
     ·have h := Am c7 h
      refine qm rfl (qm rfl (qm rfl ?_))
      obtain ⟨v8, a8, b8, h⟩ := Aj h
      refine qI AL Av a8 (Ag b8) rfl (qJ AV Av (Ag b8) rfl (qm rfl (qm rfl (Cs rfl ?_))))
      obtain ⟨v9, a9, b9, h⟩ := Aj h
      refine qI AL Av a9 (Ag b9) rfl (qJ AV Av (Ag b9) rfl ?_)
      obtain ⟨v10, a10, h⟩ := bind_some h
      refine DW (ds0 := [_, _]) (ar := (DU true Af true Af) ((v8, v9))) (.g rfl rfl) rfl rfl ⟨rfl, rfl, trivial⟩ rfl rfl rfl (DV (Es _ _ _ _ Bh Bh) a10) ?_
      refine AY rfl (qp rfl (AI (by kernel_rfl) ?_))
      exact Au _ h (sm [] _ _ rfl rfl)
     ·have h := Al c7 h
      refine qn rfl (qn rfl (qn rfl (qn rfl (qn rfl (qn rfl (qn rfl (qn rfl (qn rfl (qn rfl (qn rfl (qn rfl (qp rfl (AI (by kernel_rfl) ?_)))))))))))))
      exact Au _ h (sm [] _ _ rfl rfl)
    ·refine Ao rfl (fun c11 => ?_) (fun c11 => ?_)
     ·have h := Am c11 h
      refine Ar (Ab (AN (Aa Ac rfl (qm rfl (qm rfl (qm rfl (qm rfl (Cs rfl (qm rfl (qm rfl (Cs rfl ?_)))))))))))
      obtain ⟨v12, a12, b12, h⟩ := Aj h
      refine qI AL Av a12 (Ag b12) rfl (qJ AV Av (Ag b12) rfl (qm rfl (qm rfl ?_)))
      obtain ⟨v13, a13, b13, h⟩ := Aj h
      refine qI AL Av a13 (Ag b13) rfl (qJ AV Av (Ag b13) rfl ?_)
      obtain ⟨v14, a14, b14, h⟩ := Aj h
      refine qI AL Av a14 (Ag b14) rfl ?_
      refine A2 rfl rfl rfl rfl (Ag b14) rfl Av rfl (A1 rfl) (A3 Af v4.1 _ v12) ?_
      obtain ⟨v15, a15, b15, h⟩ := Aj h
      refine qI AL Av a15 (Ag b15) rfl ?_
      refine A2 rfl rfl rfl rfl (Ag b15) rfl Av rfl (A1 rfl) (A3 Af (v4.1.set ((v4.2).toNat) v12) _ v13) ?_
      refine AI (by kernel_rfl) (Aa Ac rfl (qm rfl (Cs rfl (qa rfl (Ad ?_)))))
      exact Au _ h (sm [] _ _ rfl rfl)
     ·have h := Al c11 h
      refine AW ?_
      exact Au _ h (sm [] _ _ rfl rfl)
   ·refine Ak hs (Aa Ac rfl (qm rfl (AU rfl (qa rfl (Ad ?_)))))
    exact Au _ h (sm [] _ _ rfl rfl)
  ·have h := Al c3 h
   refine AW ?_
   exact Au _ h (sm [] _ _ rfl rfl)
 ·obtain rfl := sj h
  refine ⟨_, hs.trans (sm [] [] [(90000, .vec 3 (v2.map Af))] rfl rfl), ?_⟩
  exact ⟨⟨[], trivial, rfl⟩, ⟨rfl, trivial⟩, trivial⟩
set_option maxRecDepth 10000 in
theorem El (N : Nat) (p0 : List Ae) (p1 : Int) (p2 : Int) (p3 : Int) (p4 : (Ae × Ae) → Option Int) (r : (List Ae)) (h : Cw N p0 p1 p2 p3 p4 = some r) : Bv Tryz.prog 105 [.e (.one (.own 90000)), .e (.one (.pure (.val (.int .i64 p1)))), .e (.one (.pure (.val (.int .i64 p2)))), .e (.one (.pure (.val (.int .i64 p3)))), .e (.one (.clo (BJ (DU true Af true Af) Cv p4)))] [(.vec 3 (p0.map Af), .vec 3 (r.map Af))] [] (.tup []) := by
 unfold Cw at h
 refine Bn (n := 82) (rs := []) Tryz.func105 rfl rfl rfl (A1 rfl) (A1 rfl) rfl rfl (A1 rfl) rfl (A1 rfl) fun w0 S0 GL => Lb ?_
 refine Ak (sm [] [(0, .e (.one (.own 90000))), (1, .e (.one (.pure (.val (.int .i64 p1))))), (2, .e (.one (.pure (.val (.int .i64 p2))))), (3, .e (.one (.pure (.val (.int .i64 p3))))), (4, .e (.one (.clo (BJ (DU true Af true Af) Cv p4))))] [(90000, .vec 3 (p0.map Af))] rfl rfl) (Ab (Aa Ac rfl (qm rfl (qa rfl (Ad ?_)))))
 refine AJ (L := Cf N p2 p3 p4) h (fun v1 => mk [(0, .e (.one (.own 90000))), (2, .e (.one (.pure (.val (.int .i64 p2))))), (3, .e (.one (.pure (.val (.int .i64 p3))))), (4, .e (.one (.clo (BJ (DU true Af true Af) Cv p4)))), (10, .e (.one (.pure (.val (.int .i64 v1.2)))))] [(90000, .vec 3 (v1.1.map Af))]) (fun v2 => mk [] [(90000, .vec 3 (v2.map Af))]) (fun _ _ => rfl) (sm [] _ _ rfl rfl) (fun j1 n1 v1 h => ?_) (fun v2 s h hs => ?_)
 ·unfold Cf at h
  refine AN (Ab (Aa Ac rfl (qm rfl (HH rfl (AU rfl (qa rfl (Ad (Ab (Ab (Aa Ac rfl (qm rfl (qm rfl (C6 rfl (Ad ?_))))))))))))))
  refine Ao rfl (fun c3 => ?_) (fun c3 => ?_)
  ·have h := Am c3 h
   refine AW ?_
   exact Au _ h (sm [] _ _ rfl rfl)
  ·have h := Al c3 h
   refine Ar ?_
   refine AP h (fun v4 => mk [(0, .e (.one (.own 90000))), (2, .e (.one (.pure (.val (.int .i64 p2))))), (3, .e (.one (.pure (.val (.int .i64 p3))))), (4, .e (.one (.clo (BJ (DU true Af true Af) Cv p4)))), (10, .e (.one (.pure (.val (.int .i64 v1.2))))), (11, .e (.one (.pure (.val (.int .i64 v4)))))] [(90000, .vec 3 (v1.1.map Af))]) (fun j4 h => ?_) (fun v4 h => ?_)
   ·refine AP h (fun v5 => mk [(0, .e (.one (.own 90000))), (2, .e (.one (.pure (.val (.int .i64 p2))))), (3, .e (.one (.pure (.val (.int .i64 p3))))), (4, .e (.one (.clo (BJ (DU true Af true Af) Cv p4)))), (10, .e (.one (.pure (.val (.int .i64 v1.2))))), (11, .e (.one (.pure (.val (.int .i64 ((IntKind.wrap .i64 ((IntKind.wrap .i64 (2 * v1.2)) + 1)))))))), (40, .e (.one (.pure (.val (.bool v5)))))] [(90000, .vec 3 (v1.1.map Af))]) (fun j5 h => ?_) (fun v5 h => ?_)
    ·refine Aa Ac rfl (qm rfl (AU rfl (qm rfl (AY rfl (qm rfl ?_)))))
     refine AB (t := 23) rfl (fun c6 => ?_) (fun c6 => ?_)
     ·have h := Am c6 h
      refine qm rfl (qm rfl (qm rfl (qm rfl (AU rfl ?_))))
      obtain ⟨v7, a7, b7, h⟩ := Aj h
      refine qI AL Av a7 (Ag b7) rfl (qJ AV Av (Ag b7) rfl (qm rfl (qm rfl (qm rfl (AU rfl (AU rfl ?_))))))
      obtain ⟨v8, a8, b8, h⟩ := Aj h
      refine qI AL Av a8 (Ag b8) rfl (qJ AV Av (Ag b8) rfl ?_)
      obtain ⟨v9, a9, h⟩ := bind_some h
      refine DW (ds0 := [_, _]) (ar := (DU true Af true Af) ((v7, v8))) (.g rfl rfl) rfl rfl ⟨rfl, rfl, trivial⟩ rfl rfl rfl (DV (Es _ _ _ _ Bh Bh) a9) ?_
      refine AY rfl (qp rfl (AI (by kernel_rfl) ?_))
      exact Au _ h (sm [] _ _ rfl rfl)
     ·have h := Al c6 h
      refine qn rfl (qn rfl (qn rfl (qn rfl (qn rfl (qn rfl (qn rfl (qn rfl (qn rfl (qn rfl (qn rfl (qn rfl (qn rfl (qn rfl (qn rfl (qn rfl (qp rfl (AI (by kernel_rfl) ?_)))))))))))))))))
      exact Au _ h (sm [] _ _ rfl rfl)
    ·refine Ao rfl (fun c10 => ?_) (fun c10 => ?_)
     ·have h := Am c10 h
      refine Aa Ac rfl (qm rfl (AU rfl (qa rfl (Ad ?_))))
      exact Au _ h (sm [] _ _ rfl rfl)
     ·have h := Al c10 h
      refine Ar ?_
      exact Au _ h (sm [] _ _ rfl rfl)
   ·refine Ab (Ab (Aa Ac rfl (qm rfl (qm rfl (qm rfl (qm rfl (AU rfl ?_)))))))
    obtain ⟨v11, a11, b11, h⟩ := Aj h
    refine qI AL Av a11 (Ag b11) rfl (qJ AV Av (Ag b11) rfl (qm rfl (qm rfl (qm rfl (AU rfl ?_)))))
    obtain ⟨v12, a12, b12, h⟩ := Aj h
    refine qI AL Av a12 (Ag b12) rfl (qJ AV Av (Ag b12) rfl ?_)
    obtain ⟨v13, a13, h⟩ := bind_some h
    refine DW (ds0 := [_, _]) (ar := (DU true Af true Af) ((v11, v12))) (.p rfl) rfl rfl ⟨rfl, rfl, trivial⟩ rfl rfl rfl (DV (Es _ _ _ _ Bh Bh) a13) ?_
    refine AY rfl (Cu rfl (AI (by kernel_rfl) ?_))
    refine Ao rfl (fun c14 => ?_) (fun c14 => ?_)
    ·have h := Am c14 h
     obtain rfl := sj h
     refine Ax ⟨_, (sm [] [] [(90000, .vec 3 (v1.1.map Af))] rfl rfl), ?_⟩
     exact ⟨⟨[], trivial, rfl⟩, ⟨rfl, trivial⟩, trivial⟩
    ·have h := Al c14 h
     refine Ar (Ab (Aa Ac rfl (qm rfl (qm rfl (qm rfl (AU rfl (qm rfl (qm rfl (qm rfl (AU rfl (qm rfl (qm rfl (qm rfl (AU rfl ?_))))))))))))))
     obtain ⟨v15, a15, b15, h⟩ := Aj h
     refine qI AL Av a15 (Ag b15) rfl (qJ AV Av (Ag b15) rfl (qm rfl (qm rfl (qm rfl (AU rfl ?_)))))
     obtain ⟨v16, a16, b16, h⟩ := Aj h
     refine qI AL Av a16 (Ag b16) rfl (qJ AV Av (Ag b16) rfl ?_)
     obtain ⟨v17, a17, b17, h⟩ := Aj h
     refine qI AL Av a17 (Ag b17) rfl ?_
     refine A2 rfl rfl rfl rfl (Ag b17) rfl Av rfl (A1 rfl) (A3 Af v1.1 _ v15) ?_
     obtain ⟨v18, a18, b18, h⟩ := Aj h
     refine qI AL Av a18 (Ag b18) rfl ?_
     refine A2 rfl rfl rfl rfl (Ag b18) rfl Av rfl (A1 rfl) (A3 Af (v1.1.set (((IntKind.wrap .i64 (p3 + v1.2))).toNat) v15) _ v16) ?_
     refine AI (by kernel_rfl) (Aa Ac rfl (qm rfl (qa rfl (Ad ?_))))
     exact Au _ h (sm [] _ _ rfl rfl)
 ·obtain rfl := sj h
  refine ⟨_, hs.trans (sm [] [] [(90000, .vec 3 (v2.map Af))] rfl rfl), ?_⟩
  exact ⟨⟨[], trivial, rfl⟩, ⟨rfl, trivial⟩, trivial⟩
set_option maxRecDepth 10000 in
theorem Gf (N : Nat) (p0 : List Ae) (p1 : Int) (p2 : Int) (p3 : (Ae × Ae) → Option Int) (r : (List Ae)) (h : Di N p0 p1 p2 p3 = some r) : Bv Tryz.prog 82 [.e (.one (.own 90000)), .e (.one (.pure (.val (.int .i64 p1)))), .e (.one (.pure (.val (.int .i64 p2)))), .e (.one (.clo (BJ (DU true Af true Af) Cv p3)))] [(.vec 3 (p0.map Af), .vec 3 (r.map Af))] [] (.tup []) := by
 unfold Di at h
 refine Bn (n := 60) (rs := []) Tryz.func82 rfl rfl rfl (A1 rfl) (A1 rfl) rfl rfl (A1 rfl) rfl (A1 rfl) fun w0 S0 GL => Lb ?_
 refine Ak (sm [] [(0, .e (.one (.own 90000))), (1, .e (.one (.pure (.val (.int .i64 p1))))), (2, .e (.one (.pure (.val (.int .i64 p2))))), (3, .e (.one (.clo (BJ (DU true Af true Af) Cv p3))))] [(90000, .vec 3 (p0.map Af))] rfl rfl) (Ab (Aa Ac rfl (qm rfl (qa rfl (Ad (Ab (Aa Ac rfl (qa rfl (Ad (Ab (Aa Ac rfl (qm rfl (qm rfl (Cs rfl (qa rfl (Ad (Ab (Ab (Aa Ac rfl (qm rfl (Cs rfl (Ld rfl (by decide) (qa rfl (Ad ?_))))))))))))))))))))))))
 refine AJ (L := Cd N p1 p2 p3) h (fun v1 => mk [(0, .e (.one (.own 90000))), (3, .e (.one (.clo (BJ (DU true Af true Af) Cv p3)))), (8, .e (.one (.pure (.val (.int .i64 p1))))), (9, .e (.one (.pure (.val (.int .i64 0))))), (10, .e (.one (.pure (.val (.int .i64 ((IntKind.wrap .i64 (p2 - p1)))))))), (11, .e (.one (.pure (.val (.int .i64 v1.2)))))] [(90000, .vec 3 (v1.1.map Af))]) (fun v2 => mk [(0, .e (.one (.own 90000))), (3, .e (.one (.clo (BJ (DU true Af true Af) Cv p3)))), (8, .e (.one (.pure (.val (.int .i64 p1))))), (9, .e (.one (.pure (.val (.int .i64 0))))), (10, .e (.one (.pure (.val (.int .i64 ((IntKind.wrap .i64 (p2 - p1))))))))] [(90000, .vec 3 (v2.map Af))]) (fun _ _ => rfl) (sm [] _ _ rfl rfl) (fun j1 n1 v1 h => ?_) (fun v2 s h hs => ?_)
 ·unfold Cd at h
  refine Ab (Ab (Aa Ac rfl (qm rfl (C6 rfl (Ad ?_)))))
  refine Ao rfl (fun c3 => ?_) (fun c3 => ?_)
  ·have h := Am c3 h
   refine Ar (Ab (AN (Aa Ac rfl (qm rfl (qm rfl (qm rfl (qm rfl (qm rfl ?_))))))))
   obtain ⟨v4, a4, h⟩ := bind_some h
   refine CM (ds0 := [_, _, _, _, _]) [90000] [] [true] (El N v1.1 v1.2 ((IntKind.wrap .i64 (p2 - p1))) p1 p3 v4 a4) (.p rfl) RP rfl ⟨rfl, rfl, rfl, rfl, rfl, trivial⟩ rfl rfl (by decide) ⟨rfl, trivial⟩ rfl (A9 rfl) trivial ⟨(fun h => by cases h), trivial⟩ rfl rfl rfl ?_
   refine Ad (Aa Ac rfl (qm rfl (Cs rfl (qa rfl (Ad ?_)))))
   exact Au _ h (sm [] _ _ rfl rfl)
  ·have h := Al c3 h
   refine AW ?_
   exact Au _ h (sm [] _ _ rfl rfl)
 ·refine Ak hs (Ab (Aa Ac rfl (qm rfl (Cs rfl (qa rfl (Ad ?_))))))
  refine AJ (L := Ce N p1 p3) h (fun v5 => mk [(0, .e (.one (.own 90000))), (3, .e (.one (.clo (BJ (DU true Af true Af) Cv p3)))), (8, .e (.one (.pure (.val (.int .i64 p1))))), (9, .e (.one (.pure (.val (.int .i64 0))))), (12, .e (.one (.pure (.val (.int .i64 v5.2)))))] [(90000, .vec 3 (v5.1.map Af))]) (fun v6 => mk [] [(90000, .vec 3 (v6.map Af))]) (fun _ _ => rfl) (sm [] _ _ rfl rfl) (fun j5 n5 v5 h => ?_) (fun v6 s h hs => ?_)
  ·unfold Ce at h
   refine Ab (Ab (Aa Ac rfl (qm rfl (C6 rfl (Ad ?_)))))
   refine Ao rfl (fun c7 => ?_) (fun c7 => ?_)
   ·have h := Am c7 h
    refine Ar (Ab (AN (Ab (Aa Ac rfl (qm rfl (qm rfl (qm rfl (qm rfl (qm rfl (AU rfl (qm rfl (qm rfl (qm rfl (AU rfl ?_))))))))))))))
    obtain ⟨v8, a8, b8, h⟩ := Aj h
    refine qI AL Av a8 (Ag b8) rfl (qJ AV Av (Ag b8) rfl (qm rfl (qm rfl ?_)))
    obtain ⟨v9, a9, b9, h⟩ := Aj h
    refine qI AL Av a9 (Ag b9) rfl (qJ AV Av (Ag b9) rfl ?_)
    obtain ⟨v10, a10, b10, h⟩ := Aj h
    refine qI AL Av a10 (Ag b10) rfl ?_
    refine A2 rfl rfl rfl rfl (Ag b10) rfl Av rfl (A1 rfl) (A3 Af v5.1 _ v8) ?_
    obtain ⟨v11, a11, b11, h⟩ := Aj h
    refine qI AL Av a11 (Ag b11) rfl ?_
    refine A2 rfl rfl rfl rfl (Ag b11) rfl Av rfl (A1 rfl) (A3 Af (v5.1.set ((p1).toNat) v8) _ v9) ?_
    refine AI (by kernel_rfl) (Aa Ac rfl (qm rfl (qm rfl (qm rfl (qm rfl (qm rfl ?_))))))
    obtain ⟨v12, a12, h⟩ := bind_some h
    refine CM (ds0 := [_, _, _, _, _]) [90000] [] [true] (El N ((v5.1.set ((p1).toNat) v8).set (((IntKind.wrap .i64 (p1 + v5.2))).toNat) v9) 0 v5.2 p1 p3 v12 a12) (.p rfl) RP rfl ⟨rfl, rfl, rfl, rfl, rfl, trivial⟩ rfl rfl (by decide) ⟨rfl, trivial⟩ rfl (A9 rfl) trivial ⟨(fun h => by cases h), trivial⟩ rfl rfl rfl ?_
    refine Ad (Aa Ac rfl (qm rfl (Cs rfl (qa rfl (Ad ?_)))))
    exact Au _ h (sm [] _ _ rfl rfl)
   ·have h := Al c7 h
    refine AW ?_
    exact Au _ h (sm [] _ _ rfl rfl)
  ·obtain rfl := sj h
   refine ⟨_, hs.trans (sm [] [] [(90000, .vec 3 (v6.map Af))] rfl rfl), ?_⟩
   exact ⟨⟨[], trivial, rfl⟩, ⟨rfl, trivial⟩, trivial⟩
set_option maxRecDepth 10000 in
theorem Ic (N : Nat) (p0 : Int) (r : Int) (h : Ep N p0 = some r) : Az Tryz.prog 106 [.e (.one (.pure (.val (.int .i64 p0))))] [] (.e (.one (.pure (.val (.int .u64 r))))) := by
 unfold Ep at h
 refine As (n := 7) (rs := [.tmp 2]) Tryz.func106 rfl rfl rfl (A1 rfl) (A1 rfl) rfl fun w0 S0 => ?_
 refine Ab (Aa Ac rfl (qa rfl (Ad (Ab (Aa Ac rfl (qm rfl (F8 Su Me rfl ?_)))))))
 obtain ⟨v1, a1, h⟩ := bind_some h
 refine AD [] (IA N ((IntKind.wrap .u64 p0)) v1 a1) SZ rfl ?_
 obtain ⟨c2, h⟩ := AK h
 refine G8 rfl c2 (qa rfl (Ad ?_))
 obtain rfl := sj h
 refine Ak (sm [] [(2, .e (.one (.pure (.val (.int .u64 ((Co .u64 1 v1)))))))] [] rfl rfl) (Ax ?_)
 exact ⟨⟨[_], ⟨.tmp _ _ rfl, trivial⟩, rfl⟩, trivial⟩
set_option maxRecDepth 10000 in
theorem Iw (N : Nat) (p0 : Int) (r : Int × Int) (h : Ex N p0 = some r) : Bv Tryz.prog 107 [.e (.one (.ptr 90000 0))] [(.box [.pure (.val (.int .u64 p0))], .box [.pure (.val (.int .u64 r.2))])] [] (.e (.one (.pure (.val (.int .u64 r.1))))) := by
 unfold Ex at h
 refine Bn (n := 33) (rs := [.tmp 2]) Tryz.func107 rfl rfl rfl (A1 rfl) (A1 rfl) rfl rfl (A1 rfl) rfl (A1 rfl) fun w0 S0 GL => ?_
 refine Ak (sm [] [(0, .e (.one (.ptr 90000 0)))] [(90000, .box [.pure (.val (.int .u64 p0))])] rfl rfl) (Ab (Aa Ac rfl (qa rfl (Ad (Ab (Aa Ac rfl (qm rfl (LY rfl (ql LQ rfl (qm rfl (LY rfl (ql LQ rfl (G8 rfl (by decide) (Qt rfl (LY rfl (qs OW rfl (AI (by kernel_rfl) (Ab (Aa Ac rfl (qm rfl (LY rfl (ql LQ rfl (qm rfl (LY rfl (ql LQ rfl (Gz rfl (by decide) (Qt rfl (LY rfl (qs OW rfl (AI (by kernel_rfl) (Ab (Aa Ac rfl (qm rfl (LY rfl (ql LQ rfl (qm rfl (LY rfl (ql LQ rfl (G8 rfl (by decide) ?_)))))))))))))))))))))))))))))))))))))))
 refine Qt rfl (LY rfl (qs OW rfl (AI (by kernel_rfl) (Ab (Aa Ac rfl (qm rfl (LY rfl (ql LQ rfl (qa rfl (Ad ?_))))))))))
 obtain rfl := sj h
 refine Ak (sm [] [(2, .e (.one (.pure (.val (.int .u64 ((FZ .u64 ((FZ .u64 ((FZ .u64 p0 ((Co .u64 p0 13)))) ((D0 .u64 ((FZ .u64 p0 ((Co .u64 p0 13)))) 7)))) ((Co .u64 ((FZ .u64 ((FZ .u64 p0 ((Co .u64 p0 13)))) ((D0 .u64 ((FZ .u64 p0 ((Co .u64 p0 13)))) 7)))) 17)))))))))] [(90000, .box [.pure (.val (.int .u64 ((FZ .u64 ((FZ .u64 ((FZ .u64 p0 ((Co .u64 p0 13)))) ((D0 .u64 ((FZ .u64 p0 ((Co .u64 p0 13)))) 7)))) ((Co .u64 ((FZ .u64 ((FZ .u64 p0 ((Co .u64 p0 13)))) ((D0 .u64 ((FZ .u64 p0 ((Co .u64 p0 13)))) 7)))) 17))))))])] rfl rfl) (Ax ?_)
 exact ⟨⟨[_], ⟨.tmp _ _ rfl, trivial⟩, rfl⟩, ⟨rfl, trivial⟩, trivial⟩
set_option maxRecDepth 10000 in
theorem Fs (N : Nat) (p0 : List Ae) (p1 : Int) (p2 : Int) (p3 : (Ae × Ae) → Option Int) (r : (List Ae)) (h : CD N p0 p1 p2 p3 = some r) : Bv Tryz.prog 83 [.e (.one (.own 90000)), .e (.one (.pure (.val (.int .i64 p1)))), .e (.one (.pure (.val (.int .i64 p2)))), .e (.one (.clo (BJ (DU true Af true Af) Cv p3)))] [(.vec 3 (p0.map Af), .vec 3 (r.map Af))] [] (.tup []) := by
 unfold CD at h
 refine Bn (n := 67) (rs := []) Tryz.func83 rfl rfl rfl (A1 rfl) (A1 rfl) rfl rfl (A1 rfl) rfl (A1 rfl) fun w0 S0 GL => Lb ?_
 refine Ak (sm [] [(0, .e (.one (.own 90000))), (1, .e (.one (.pure (.val (.int .i64 p1))))), (2, .e (.one (.pure (.val (.int .i64 p2))))), (3, .e (.one (.clo (BJ (DU true Af true Af) Cv p3))))] [(90000, .vec 3 (p0.map Af))] rfl rfl) (Ab (Aa Ac rfl (qm rfl (qm rfl (Cs rfl (qa rfl (Ad (Ab (Aa Ac rfl (qm rfl (C6 rfl (Ad ?_))))))))))))
 refine Ao rfl (fun c1 => ?_) (fun c1 => ?_)
 ·have h := Am c1 h
  refine Ab (Aa Ac rfl (qm rfl (F8 Su TK rfl (qz TM rfl (qs OW rfl (Ad (Ab (Aa Ac rfl (qm rfl ?_)))))))))
  obtain ⟨v2, a2, h⟩ := bind_some h
  refine AD [] (Ic N ((IntKind.wrap .i64 (p2 - p1))) v2 a2) Tn rfl (qa rfl (Ad (Ab (Aa Ac rfl (qm rfl (qm rfl (Ld rfl (by decide) (HH rfl (AU rfl (Cs rfl (qa rfl (Ad ?_))))))))))))
  refine AJ (L := BK N p1 p2 v2) h (fun v3 => mk [(0, .e (.one (.own 90000))), (1, .e (.one (.pure (.val (.int .i64 p1))))), (8, .e (.one (.pure (.val (.int .i64 ((IntKind.wrap .i64 (p2 - p1)))))))), (9, .e (.one (.ptr 9 0))), (10, .e (.one (.pure (.val (.int .u64 v2))))), (11, .e (.one (.pure (.val (.int .i64 v3.2.2)))))] [(9, .box [.pure (.val (.int .u64 v3.2.1))]), (90000, .vec 3 (v3.1.map Af))]) (fun v4 => mk [] [(90000, .vec 3 (v4.map Af))]) (fun _ _ => rfl) (sm [] _ _ rfl rfl) (fun j3 n3 v3 h => ?_) (fun v4 s h hs => ?_)
  ·unfold BK at h
   refine Ab (Ab (Aa Ac rfl (qm rfl (qm rfl (qm rfl (Ld rfl (by decide) (HH rfl (AU rfl (AU rfl (JH rfl (Ad ?_)))))))))))
   refine Ao rfl (fun c5 => ?_) (fun c5 => ?_)
   ·have h := Am c5 h
    refine Ar (Ab (AN (Ab (Aa Ac rfl ?_))))
    obtain ⟨v6, a6, h⟩ := bind_some h
    refine CM (ds0 := [_]) [9] [] [true] (Iw N v3.2.1 v6 a6) (.p rfl) TQ rfl ⟨rfl, trivial⟩ rfl rfl (by decide) ⟨rfl, trivial⟩ rfl (A9 rfl) trivial ⟨(fun h => by cases h), trivial⟩ rfl rfl rfl ?_
    refine qm rfl (Cs rfl (J1 rfl (F8 NY Pu rfl (qa rfl (Ad ?_)))))
    refine AP h (fun v7 => mk [(0, .e (.one (.own 90000))), (1, .e (.one (.pure (.val (.int .i64 p1))))), (8, .e (.one (.pure (.val (.int .i64 ((IntKind.wrap .i64 (p2 - p1)))))))), (9, .e (.one (.ptr 9 0))), (10, .e (.one (.pure (.val (.int .u64 v2))))), (11, .e (.one (.pure (.val (.int .i64 v3.2.2))))), (12, .e (.one (.pure (.val (.int .i64 v7)))))] [(9, .box [.pure (.val (.int .u64 v6.2))]), (90000, .vec 3 (v3.1.map Af))]) (fun j7 h => ?_) (fun v7 h => ?_)
    ·refine Ab (Aa Ac rfl (qm rfl (qm rfl (C6 rfl (Ad ?_)))))
     refine Ao rfl (fun c8 => ?_) (fun c8 => ?_)
     ·have h := Am c8 h
      refine Aa Ac rfl (qm rfl (qm rfl (Cs rfl (qa rfl (Ad ?_)))))
      exact Au _ h (sm [] _ _ rfl rfl)
     ·have h := Al c8 h
      refine Ar ?_
      exact Au _ h (sm [] _ _ rfl rfl)
    ·refine Aa Ac rfl (qm rfl (qm rfl (qm rfl (qm rfl (qm rfl (AU rfl (qm rfl (qm rfl (qm rfl (AU rfl ?_))))))))))
     obtain ⟨v9, a9, b9, h⟩ := Aj h
     refine qI AL Av a9 (Ag b9) rfl (qJ AV Av (Ag b9) rfl (qm rfl (qm rfl ?_)))
     obtain ⟨v10, a10, b10, h⟩ := Aj h
     refine qI AL Av a10 (Ag b10) rfl (qJ AV Av (Ag b10) rfl ?_)
     obtain ⟨v11, a11, b11, h⟩ := Aj h
     refine qI AL Av a11 (Ag b11) rfl ?_
     refine A2 rfl rfl rfl rfl (Ag b11) rfl Av rfl (A1 rfl) (A3 Af v3.1 _ v9) ?_
     obtain ⟨v12, a12, b12, h⟩ := Aj h
     refine qI AL Av a12 (Ag b12) rfl ?_
     refine A2 rfl rfl rfl rfl (Ag b12) rfl Av rfl (A1 rfl) (A3 Af (v3.1.set ((v3.2.2).toNat) v9) _ v10) ?_
     refine AI (by kernel_rfl) (Aa Ac rfl (qm rfl (AU rfl (qa rfl (Ad ?_)))))
     exact Au _ h (sm [] _ _ rfl rfl)
   ·have h := Al c5 h
    refine AW ?_
    exact Au _ h (sm [] _ _ rfl rfl)
  ·obtain rfl := sj h
   refine ⟨_, hs.trans (sm [] [] [(90000, .vec 3 (v4.map Af))] rfl rfl), ?_⟩
   exact ⟨⟨[], trivial, rfl⟩, ⟨rfl, trivial⟩, trivial⟩
 ·have h := Al c1 h
  refine Ar ?_
  obtain rfl := sj h
  refine ⟨_, (sm [] [] [(90000, .vec 3 (p0.map Af))] rfl rfl), ?_⟩
  exact ⟨⟨[], trivial, rfl⟩, ⟨rfl, trivial⟩, trivial⟩
set_option maxRecDepth 10000 in
theorem DC (N : Nat) (p0 : List Ae) (p1 : Int) (p2 : Int) (p3 : Int) (p4 : (Ae × Ae) → Option Int) (r : Int × Int × Int) (h : B9 N p0 p1 p2 p3 p4 = some r) : Bv Tryz.prog 119 [.e (.one (.pure (.sl (p0.map Af)))), .e (.one (.pure (.val (.int .i64 p1)))), .e (.one (.pure (.val (.int .i64 p2)))), .e (.one (.ptr 90000 0)), .e (.one (.clo (BJ (DU true Af true Af) Cv p4)))] [(.box [.pure (.val (.int .i64 p3))], .box [.pure (.val (.int .i64 r.2.2))])] [] (.tup [.one (.pure (.val (.int .i64 r.1))), .one (.pure (.val (.int .i64 r.2.1)))]) := by
 unfold B9 at h
 refine Bn (n := 32) (rs := [.tmp 10, .tmp 11]) Tryz.func119 rfl rfl rfl (A1 rfl) (A1 rfl) rfl rfl (A1 rfl) rfl (A1 rfl) fun w0 S0 GL => ?_
 refine Ak (sm [] [(0, .e (.one (.pure (.sl (p0.map Af))))), (1, .e (.one (.pure (.val (.int .i64 p1))))), (2, .e (.one (.pure (.val (.int .i64 p2))))), (3, .e (.one (.ptr 90000 0))), (4, .e (.one (.clo (BJ (DU true Af true Af) Cv p4))))] [(90000, .box [.pure (.val (.int .i64 p3))])] rfl rfl) (Ab (Aa Ac rfl (qa rfl (qa rfl (Ad (Ab (Ab (Aa Ac rfl (qm rfl (qm rfl (qm rfl ?_)))))))))))
 obtain ⟨v1, a1, b1, h⟩ := Aj h
 refine qi AL Av a1 (Ag b1) rfl (qK AV Av rfl (qm rfl (qm rfl ?_)))
 obtain ⟨v2, a2, b2, h⟩ := Aj h
 refine qi AL Av a2 (Ag b2) rfl (qK AV Av rfl ?_)
 obtain ⟨v3, a3, h⟩ := bind_some h
 refine DW (ds0 := [_, _]) (ar := (DU true Af true Af) ((v1, v2))) (.p rfl) rfl rfl ⟨rfl, rfl, trivial⟩ rfl rfl rfl (DV (Es _ _ _ _ Bh Bh) a3) ?_
 refine AY rfl (AI (by kernel_rfl) ?_)
 refine Ao rfl (fun c4 => ?_) (fun c4 => ?_)
 ·have h := Am c4 h
  refine Ab (Aa Ac rfl (qm rfl (LY rfl (ql Ci rfl (AU rfl (LY rfl (qs Dm rfl (Ad (Ab (Aa Ac rfl (qm rfl (qm rfl (qa rfl (qa rfl (Ad ?_)))))))))))))))
  obtain rfl := sj h
  refine Ak (sm [] [(10, .e (.one (.pure (.val (.int .i64 p2))))), (11, .e (.one (.pure (.val (.int .i64 p1)))))] [(90000, .box [.pure (.val (.int .i64 ((IntKind.wrap .i64 (p3 + 1)))))])] rfl rfl) (Ax ?_)
  exact ⟨⟨[_, _], ⟨.tmp _ _ rfl, ⟨.tmp _ _ rfl, trivial⟩⟩, rfl⟩, ⟨rfl, trivial⟩, trivial⟩
 ·have h := Al c4 h
  refine Ar (Ab (Aa Ac rfl (qm rfl (qm rfl (qa rfl (qa rfl (Ad ?_)))))))
  obtain rfl := sj h
  refine Ak (sm [] [(10, .e (.one (.pure (.val (.int .i64 p1))))), (11, .e (.one (.pure (.val (.int .i64 p2)))))] [(90000, .box [.pure (.val (.int .i64 p3))])] rfl rfl) (Ax ?_)
  exact ⟨⟨[_, _], ⟨.tmp _ _ rfl, ⟨.tmp _ _ rfl, trivial⟩⟩, rfl⟩, ⟨rfl, trivial⟩, trivial⟩
set_option maxRecDepth 10000 in
theorem Ey (N : Nat) (p0 : List Ae) (p1 : Int) (p2 : Int) (p3 : Int) (p4 : Int) (p5 : (Ae × Ae) → Option Int) (r : Int × Int) (h : CC N p0 p1 p2 p3 p4 p5 = some r) : Bv Tryz.prog 109 [.e (.one (.pure (.sl (p0.map Af)))), .e (.one (.pure (.val (.int .i64 p1)))), .e (.one (.pure (.val (.int .i64 p2)))), .e (.one (.pure (.val (.int .i64 p3)))), .e (.one (.ptr 90000 0)), .e (.one (.clo (BJ (DU true Af true Af) Cv p5)))] [(.box [.pure (.val (.int .i64 p4))], .box [.pure (.val (.int .i64 r.2))])] [] (.e (.one (.pure (.val (.int .i64 r.1))))) := by
 unfold CC at h
 refine Bn (n := 41) (rs := [.tmp 12]) Tryz.func109 rfl rfl rfl (A1 rfl) (A1 rfl) rfl rfl (A1 rfl) rfl (A1 rfl) fun w0 S0 GL => ?_
 refine Ak (sm [] [(0, .e (.one (.pure (.sl (p0.map Af))))), (1, .e (.one (.pure (.val (.int .i64 p1))))), (2, .e (.one (.pure (.val (.int .i64 p2))))), (3, .e (.one (.pure (.val (.int .i64 p3))))), (4, .e (.one (.ptr 90000 0))), (5, .e (.one (.clo (BJ (DU true Af true Af) Cv p5))))] [(90000, .box [.pure (.val (.int .i64 p4))])] rfl rfl) (Ab (Aa Ac rfl (qa rfl (Ad (Ab (Aa Ac rfl (qm rfl (qm rfl (qm rfl (qm rfl (qm rfl ?_)))))))))))
 obtain ⟨v1, a1, h⟩ := bind_some h
 refine CM (ds0 := [_, _, _, _, _]) [90000] [] [true] (DC N p0 p1 p2 p4 p5 v1 a1) (.p rfl) PK rfl ⟨rfl, rfl, rfl, rfl, rfl, trivial⟩ rfl rfl (by decide) ⟨rfl, trivial⟩ rfl (A9 rfl) trivial ⟨(fun h => by cases h), trivial⟩ rfl rfl rfl ?_
 refine qm rfl (qx rfl (qx rfl (qa rfl (qa rfl (Ad (Ab (Aa Ac rfl (qm rfl (qm rfl (qm rfl (qm rfl (qm rfl ?_))))))))))))
 obtain ⟨v2, a2, h⟩ := bind_some h
 refine CM (ds0 := [_, _, _, _, _]) [90000] [] [true] (DC N p0 v1.2.1 p3 v1.2.2 p5 v2 a2) (.p rfl) PK rfl ⟨rfl, rfl, rfl, rfl, rfl, trivial⟩ rfl rfl (by decide) ⟨rfl, trivial⟩ rfl (A9 rfl) trivial ⟨(fun h => by cases h), trivial⟩ rfl rfl rfl ?_
 refine qm rfl (qx rfl (qx rfl (qa rfl (qa rfl (Ad (Ab (Aa Ac rfl (qm rfl (qm rfl (qm rfl (qm rfl (qm rfl ?_))))))))))))
 obtain ⟨v3, a3, h⟩ := bind_some h
 refine CM (ds0 := [_, _, _, _, _]) [90000] [] [true] (DC N p0 v1.1 v2.1 v2.2.2 p5 v3 a3) (.p rfl) PK rfl ⟨rfl, rfl, rfl, rfl, rfl, trivial⟩ rfl rfl (by decide) ⟨rfl, trivial⟩ rfl (A9 rfl) trivial ⟨(fun h => by cases h), trivial⟩ rfl rfl rfl ?_
 refine qm rfl (qx rfl (qx rfl (qa rfl (qa rfl (Ad (Ab (Aa Ac rfl (qm rfl (qa rfl (Ad ?_))))))))))
 obtain rfl := sj h
 refine Ak (sm [] [(12, .e (.one (.pure (.val (.int .i64 v3.2.1)))))] [(90000, .box [.pure (.val (.int .i64 v3.2.2))])] rfl rfl) (Ax ?_)
 exact ⟨⟨[_], ⟨.tmp _ _ rfl, trivial⟩, rfl⟩, ⟨rfl, trivial⟩, trivial⟩
set_option maxRecDepth 10000 in
theorem CH (N : Nat) (p0 : List Ae) (p1 : Int) (p2 : Int) (p3 : (Ae × Ae) → Option Int) (r : Int × Int) (h : Bp N p0 p1 p2 p3 = some r) : Bv Tryz.prog 108 [.e (.one (.pure (.sl (p0.map Af)))), .e (.one (.pure (.val (.int .i64 p1)))), .e (.one (.ptr 90000 0)), .e (.one (.clo (BJ (DU true Af true Af) Cv p3)))] [(.box [.pure (.val (.int .i64 p2))], .box [.pure (.val (.int .i64 r.2))])] [] (.e (.one (.pure (.val (.int .i64 r.1))))) := by
 unfold Bp at h
 refine Bn (n := 18) (rs := [.tmp 8]) Tryz.func108 rfl rfl rfl (A1 rfl) (A1 rfl) rfl rfl (A1 rfl) rfl (A1 rfl) fun w0 S0 GL => ?_
 refine Ak (sm [] [(0, .e (.one (.pure (.sl (p0.map Af))))), (1, .e (.one (.pure (.val (.int .i64 p1))))), (2, .e (.one (.ptr 90000 0))), (3, .e (.one (.clo (BJ (DU true Af true Af) Cv p3))))] [(90000, .box [.pure (.val (.int .i64 p2))])] rfl rfl) (Ab (Aa Ac rfl (qa rfl (Ad (Ab (Aa Ac rfl (qm rfl (qm rfl (Cs rfl (qm rfl (qm rfl (AU rfl (qm rfl (qm rfl ?_))))))))))))))
 obtain ⟨v1, a1, h⟩ := bind_some h
 refine CM (ds0 := [_, _, _, _, _, _]) [90000] [] [true] (Ey N p0 ((IntKind.wrap .i64 (p1 - 1))) p1 ((IntKind.wrap .i64 (p1 + 1))) p2 p3 v1 a1) (.p rfl) RT rfl ⟨rfl, rfl, rfl, rfl, rfl, rfl, trivial⟩ rfl rfl (by decide) ⟨rfl, trivial⟩ rfl (A9 rfl) trivial ⟨(fun h => by cases h), trivial⟩ rfl rfl rfl ?_
 refine qa rfl (Ad ?_)
 obtain rfl := sj h
 refine Ak (sm [] [(8, .e (.one (.pure (.val (.int .i64 v1.1)))))] [(90000, .box [.pure (.val (.int .i64 v1.2))])] rfl rfl) (Ax ?_)
 exact ⟨⟨[_], ⟨.tmp _ _ rfl, trivial⟩, rfl⟩, ⟨rfl, trivial⟩, trivial⟩
set_option maxRecDepth 10000 in
theorem FE (N : Nat) (p0 : List Ae) (p1 : Int) (p2 : Int) (p3 : (Ae × Ae) → Option Int) (r : Int × Int) (h : CR N p0 p1 p2 p3 = some r) : Az Tryz.prog 84 [.e (.one (.pure (.sl (p0.map Af)))), .e (.one (.pure (.val (.int .i64 p1)))), .e (.one (.pure (.val (.int .i64 p2)))), .e (.one (.clo (BJ (DU true Af true Af) Cv p3)))] [] (.tup [.one (.pure (.val (.int .i64 r.1))), .one (.pure (.val (.int .i64 r.2)))]) := by
 unfold CR at h
 refine As (n := 63) (rs := [.tmp 8, .tmp 9]) Tryz.func84 rfl rfl rfl (A1 rfl) (A1 rfl) rfl fun w0 S0 => ?_
 refine Ab (Aa Ac rfl (qa rfl (qa rfl (Ad (Ab (Aa Ac rfl (qm rfl (qm rfl (Cs rfl (qa rfl (Ad (Ab (Aa Ac rfl (qz Kj rfl (Ad (Ab (Aa Ac rfl (qm rfl (qm rfl (Ld rfl (by decide) (HH rfl (AU rfl (qa rfl (Ad (Ab (Aa Ac rfl (qm rfl (qm rfl (Ld rfl (by decide) (HH rfl (AU rfl (qa rfl (Ad (Ab (Aa Ac rfl (qm rfl (qm rfl (Ld rfl (by decide) (HH rfl ?_)))))))))))))))))))))))))))))))))))))))
 refine AU rfl (qa rfl (Ad ?_))
 refine AP h (fun v1 => mk [(11, .e (.one (.ptr 11 0))), (13, .e (.one (.pure (.val (.int .i64 v1.2)))))] [(11, .box [.pure (.val (.int .i64 v1.1))])]) (fun j1 h => ?_) (fun v1 h => ?_)
 ·refine Ab (Aa Ac rfl (qm rfl (C6 rfl (Ad ?_))))
  refine Ao rfl (fun c2 => ?_) (fun c2 => ?_)
  ·have h := Am c2 h
   refine AP h (fun v3 => mk [(0, .e (.one (.pure (.sl (p0.map Af))))), (3, .e (.one (.clo (BJ (DU true Af true Af) Cv p3)))), (11, .e (.one (.ptr 11 0))), (12, .e (.one (.pure (.val (.int .i64 v3.2.1))))), (13, .e (.one (.pure (.val (.int .i64 v3.2.2.1))))), (14, .e (.one (.pure (.val (.int .i64 v3.2.2.2)))))] [(11, .box [.pure (.val (.int .i64 v3.1))])]) (fun j3 h => ?_) (fun v3 h => ?_)
   ·refine Ab (Aa Ac rfl (qm rfl (C6 rfl (Ad ?_))))
    refine Ao rfl (fun c4 => ?_) (fun c4 => ?_)
    ·have h := Am c4 h
     refine Ab (Aa Ac rfl (qm rfl (qm rfl (qm rfl ?_))))
     obtain ⟨v5, a5, h⟩ := bind_some h
     refine CM (ds0 := [_, _, _, _]) [11] [] [true] (CH N p0 ((IntKind.wrap .i64 (p1 + (IntKind.wrap .i64 ((IntKind.wrap .i64 (Int.tdiv ((IntKind.wrap .i64 (p2 - p1))) 4)) * 1))))) 0 p3 v5 a5) (.p rfl) PZ rfl ⟨rfl, rfl, rfl, rfl, trivial⟩ rfl rfl (by decide) ⟨rfl, trivial⟩ rfl (A9 rfl) trivial ⟨(fun h => by cases h), trivial⟩ rfl rfl rfl ?_
     refine qa rfl (Ad (Ab (Aa Ac rfl (qm rfl (qm rfl (qm rfl ?_))))))
     obtain ⟨v6, a6, h⟩ := bind_some h
     refine CM (ds0 := [_, _, _, _]) [11] [] [true] (CH N p0 ((IntKind.wrap .i64 (p1 + (IntKind.wrap .i64 ((IntKind.wrap .i64 (Int.tdiv ((IntKind.wrap .i64 (p2 - p1))) 4)) * 2))))) v5.2 p3 v6 a6) (.p rfl) PZ rfl ⟨rfl, rfl, rfl, rfl, trivial⟩ rfl rfl (by decide) ⟨rfl, trivial⟩ rfl (A9 rfl) trivial ⟨(fun h => by cases h), trivial⟩ rfl rfl rfl ?_
     refine qa rfl (Ad (Aa Ac rfl (qm rfl (qm rfl (qm rfl ?_)))))
     obtain ⟨v7, a7, h⟩ := bind_some h
     refine CM (ds0 := [_, _, _, _]) [11] [] [true] (CH N p0 ((IntKind.wrap .i64 (p1 + (IntKind.wrap .i64 ((IntKind.wrap .i64 (Int.tdiv ((IntKind.wrap .i64 (p2 - p1))) 4)) * 3))))) v6.2 p3 v7 a7) (.p rfl) PZ rfl ⟨rfl, rfl, rfl, rfl, trivial⟩ rfl rfl (by decide) ⟨rfl, trivial⟩ rfl (A9 rfl) trivial ⟨(fun h => by cases h), trivial⟩ rfl rfl rfl ?_
     refine qa rfl (Ad ?_)
     exact Au _ h (sm [] _ _ rfl rfl)
    ·have h := Al c4 h
     refine Ar ?_
     exact Au _ h (sm [] _ _ rfl rfl)
   ·refine Aa Ac rfl (qm rfl (qm rfl (qm rfl (qm rfl (qm rfl ?_)))))
    obtain ⟨v8, a8, h⟩ := bind_some h
    refine CM (ds0 := [_, _, _, _, _, _]) [11] [] [true] (Ey N p0 v3.2.1 v3.2.2.1 v3.2.2.2 v3.1 p3 v8 a8) (.p rfl) RT rfl ⟨rfl, rfl, rfl, rfl, rfl, rfl, trivial⟩ rfl rfl (by decide) ⟨rfl, trivial⟩ rfl (A9 rfl) trivial ⟨(fun h => by cases h), trivial⟩ rfl rfl rfl ?_
    refine qa rfl (Ad ?_)
    exact Au _ h (sm [] _ _ rfl rfl)
  ·have h := Al c2 h
   refine Ar ?_
   exact Au _ h (sm [] _ _ rfl rfl)
 ·refine Ab (Aa Ac rfl (ql Ci rfl (Ad (AN (Ab (Aa Ac rfl (BA rfl (qa rfl (Ad ?_)))))))))
  refine Ao rfl (fun c9 => ?_) (fun c9 => ?_)
  ·have h := Am c9 h
   refine Ab (Aa Ac rfl (qm rfl (qa rfl (qa rfl (Ad ?_)))))
   obtain rfl := sj h
   refine Ak (sm [] [(8, .e (.one (.pure (.val (.int .i64 v1.2))))), (9, .e (.one (.pure (.val (.int .i64 1)))))] [] rfl rfl) (Ax ?_)
   exact ⟨⟨[_, _], ⟨.tmp _ _ rfl, ⟨.tmp _ _ rfl, trivial⟩⟩, rfl⟩, trivial⟩
  ·have h := Al c9 h
   refine Ab (Aa Ac rfl (BA rfl (qa rfl (Ad ?_))))
   refine Ao rfl (fun c10 => ?_) (fun c10 => ?_)
   ·have h := Am c10 h
    refine Ab (Aa Ac rfl (qm rfl (qa rfl (qa rfl (Ad ?_)))))
    obtain rfl := sj h
    refine Ak (sm [] [(8, .e (.one (.pure (.val (.int .i64 v1.2))))), (9, .e (.one (.pure (.val (.int .i64 2)))))] [] rfl rfl) (Ax ?_)
    exact ⟨⟨[_, _], ⟨.tmp _ _ rfl, ⟨.tmp _ _ rfl, trivial⟩⟩, rfl⟩, trivial⟩
   ·have h := Al c10 h
    refine Ab (Aa Ac rfl (qm rfl (qa rfl (qa rfl (Ad ?_)))))
    obtain rfl := sj h
    refine Ak (sm [] [(8, .e (.one (.pure (.val (.int .i64 v1.2))))), (9, .e (.one (.pure (.val (.int .i64 0)))))] [] rfl rfl) (Ax ?_)
    exact ⟨⟨[_, _], ⟨.tmp _ _ rfl, ⟨.tmp _ _ rfl, trivial⟩⟩, rfl⟩, trivial⟩
set_option maxRecDepth 10000 in
theorem FA (N : Nat) (p0 : List Ae) (p1 : Int) (p2 : Int) (p3 : (Ae × Ae) → Option Int) (r : (List Ae)) (h : CN N p0 p1 p2 p3 = some r) : Bv Tryz.prog 85 [.e (.one (.own 90000)), .e (.one (.pure (.val (.int .i64 p1)))), .e (.one (.pure (.val (.int .i64 p2)))), .e (.one (.clo (BJ (DU true Af true Af) Cv p3)))] [(.vec 3 (p0.map Af), .vec 3 (r.map Af))] [] (.tup []) := by
 unfold CN at h
 refine Bn (n := 34) (rs := []) Tryz.func85 rfl rfl rfl (A1 rfl) (A1 rfl) rfl rfl (A1 rfl) rfl (A1 rfl) fun w0 S0 GL => Lb ?_
 refine Ak (sm [] [(0, .e (.one (.own 90000))), (1, .e (.one (.pure (.val (.int .i64 p1))))), (2, .e (.one (.pure (.val (.int .i64 p2))))), (3, .e (.one (.clo (BJ (DU true Af true Af) Cv p3))))] [(90000, .vec 3 (p0.map Af))] rfl rfl) (Ab (Aa Ac rfl (qm rfl (qa rfl (Ad (Ab (Aa Ac rfl (qm rfl (Cs rfl (qa rfl (Ad ?_)))))))))))
 refine AJ (L := BQ N) h (fun v1 => mk [(0, .e (.one (.own 90000))), (8, .e (.one (.pure (.val (.int .i64 v1.2.1))))), (9, .e (.one (.pure (.val (.int .i64 v1.2.2)))))] [(90000, .vec 3 (v1.1.map Af))]) (fun v2 => mk [] [(90000, .vec 3 (v2.map Af))]) (fun _ _ => rfl) (sm [] _ _ rfl rfl) (fun j1 n1 v1 h => ?_) (fun v2 s h hs => ?_)
 ·unfold BQ at h
  refine Ab (Ab (Aa Ac rfl (qm rfl (qm rfl (AY rfl (Ad ?_))))))
  refine Ao rfl (fun c3 => ?_) (fun c3 => ?_)
  ·have h := Am c3 h
   refine Ar (AN (Ab (Aa Ac rfl (qm rfl (qm rfl (qm rfl (qm rfl (qm rfl (qm rfl ?_)))))))))
   obtain ⟨v4, a4, b4, h⟩ := Aj h
   refine qI AL Av a4 (Ag b4) rfl (qJ AV Av (Ag b4) rfl (qm rfl (qm rfl ?_)))
   obtain ⟨v5, a5, b5, h⟩ := Aj h
   refine qI AL Av a5 (Ag b5) rfl (qJ AV Av (Ag b5) rfl ?_)
   obtain ⟨v6, a6, b6, h⟩ := Aj h
   refine qI AL Av a6 (Ag b6) rfl ?_
   refine A2 rfl rfl rfl rfl (Ag b6) rfl Av rfl (A1 rfl) (A3 Af v1.1 _ v4) ?_
   obtain ⟨v7, a7, b7, h⟩ := Aj h
   refine qI AL Av a7 (Ag b7) rfl ?_
   refine A2 rfl rfl rfl rfl (Ag b7) rfl Av rfl (A1 rfl) (A3 Af (v1.1.set ((v1.2.1).toNat) v4) _ v5) ?_
   refine AI (by kernel_rfl) (Ab (Aa Ac rfl (qm rfl (AU rfl (qa rfl (Ad (Aa Ac rfl (qm rfl (Cs rfl (qa rfl (Ad ?_)))))))))))
   exact Au _ h (sm [] _ _ rfl rfl)
  ·have h := Al c3 h
   refine AW ?_
   exact Au _ h (sm [] _ _ rfl rfl)
 ·obtain rfl := sj h
  refine ⟨_, hs.trans (sm [] [] [(90000, .vec 3 (v2.map Af))] rfl rfl), ?_⟩
  exact ⟨⟨[], trivial, rfl⟩, ⟨rfl, trivial⟩, trivial⟩
set_option maxRecDepth 10000 in
theorem Ev (N : Nat) (p0 : List Ae) (p1 : Int) (p2 : Int) (p3 : (Ae × Ae) → Option Int) (r : Bool × (List Ae)) (h : Ca N p0 p1 p2 p3 = some r) : Bv Tryz.prog 86 [.e (.one (.own 90000)), .e (.one (.pure (.val (.int .i64 p1)))), .e (.one (.pure (.val (.int .i64 p2)))), .e (.one (.clo (BJ (DU true Af true Af) Cv p3)))] [(.vec 3 (p0.map Af), .vec 3 (r.2.map Af))] [] (.e (.one (.pure (.val (.bool r.1))))) := by
 unfold Ca at h
 refine Bn (n := 141) (rs := [.tmp 8]) Tryz.func86 rfl rfl rfl (A1 rfl) (A1 rfl) rfl rfl (A1 rfl) rfl (A1 rfl) fun w0 S0 GL => ?_
 refine Ak (sm [] [(0, .e (.one (.own 90000))), (1, .e (.one (.pure (.val (.int .i64 p1))))), (2, .e (.one (.pure (.val (.int .i64 p2))))), (3, .e (.one (.clo (BJ (DU true Af true Af) Cv p3))))] [(90000, .vec 3 (p0.map Af))] rfl rfl) (Ab (Aa Ac rfl (qa rfl (Ad (Ab (Aa Ac rfl (qm rfl (AU rfl (qa rfl (Ad (Ab (Ab (Aa Ac rfl (qa rfl (Ad ?_)))))))))))))))
 refine AJ (L := Bl N p1 p2 p3) h (fun v1 => mk [(0, .e (.one (.own 90000))), (1, .e (.one (.pure (.val (.int .i64 p1))))), (2, .e (.one (.pure (.val (.int .i64 p2))))), (3, .e (.one (.clo (BJ (DU true Af true Af) Cv p3)))), (9, .e (.one (.pure (.val (.int .i64 v1.2.1))))), (10, .e (.one (.pure (.val (.int .i64 v1.2.2)))))] [(90000, .vec 3 (v1.1.map Af))]) (fun v2 => mk [] [(90000, .vec 3 (v2.map Af))]) (fun _ _ => rfl) (sm [] _ _ rfl rfl) (fun j1 n1 v1 h => ?_) (fun v2 s h hs => ?_)
 ·unfold Bl at h
  refine Ab (Ab (Aa Ac rfl (qm rfl (AY rfl (Ad ?_)))))
  refine Ao rfl (fun c3 => ?_) (fun c3 => ?_)
  ·have h := Am c3 h
   refine Ar ?_
   refine AP h (fun v4 => mk [(0, .e (.one (.own 90000))), (1, .e (.one (.pure (.val (.int .i64 p1))))), (2, .e (.one (.pure (.val (.int .i64 p2))))), (3, .e (.one (.clo (BJ (DU true Af true Af) Cv p3)))), (9, .e (.one (.pure (.val (.int .i64 v4.2))))), (10, .e (.one (.pure (.val (.int .i64 v1.2.2)))))] [(90000, .vec 3 (v4.1.map Af))]) (fun j4 h => ?_) (fun v4 h => ?_)
   ·refine AN (Ab ?_)
    refine AJ (L := Bj N p2 p3 v1) h (fun v5 => mk [(0, .e (.one (.own 90000))), (1, .e (.one (.pure (.val (.int .i64 p1))))), (2, .e (.one (.pure (.val (.int .i64 p2))))), (3, .e (.one (.clo (BJ (DU true Af true Af) Cv p3)))), (9, .e (.one (.pure (.val (.int .i64 v5))))), (10, .e (.one (.pure (.val (.int .i64 v1.2.2)))))] [(90000, .vec 3 (v1.1.map Af))]) (fun v6 => mk [(0, .e (.one (.own 90000))), (1, .e (.one (.pure (.val (.int .i64 p1))))), (2, .e (.one (.pure (.val (.int .i64 p2))))), (3, .e (.one (.clo (BJ (DU true Af true Af) Cv p3)))), (9, .e (.one (.pure (.val (.int .i64 v6))))), (10, .e (.one (.pure (.val (.int .i64 v1.2.2)))))] [(90000, .vec 3 (v1.1.map Af))]) (fun _ _ => rfl) (sm [] _ _ rfl rfl) (fun j5 n5 v5 h => ?_) (fun v6 s h hs => ?_)
    ·unfold Bj at h
     refine Ab ?_
     refine AP h (fun v7 => mk [(0, .e (.one (.own 90000))), (1, .e (.one (.pure (.val (.int .i64 p1))))), (2, .e (.one (.pure (.val (.int .i64 p2))))), (3, .e (.one (.clo (BJ (DU true Af true Af) Cv p3)))), (9, .e (.one (.pure (.val (.int .i64 v5))))), (10, .e (.one (.pure (.val (.int .i64 v1.2.2))))), (36, .e (.one (.pure (.val (.bool v7)))))] [(90000, .vec 3 (v1.1.map Af))]) (fun j7 h => ?_) (fun v7 h => ?_)
     ·refine Aa Ac rfl (qm rfl (qm rfl (AY rfl (qm rfl ?_))))
      refine AB (t := 22) rfl (fun c8 => ?_) (fun c8 => ?_)
      ·have h := Am c8 h
       refine qm rfl (qm rfl (qm rfl ?_))
       obtain ⟨v9, a9, b9, h⟩ := Aj h
       refine qI AL Av a9 (Ag b9) rfl (qJ AV Av (Ag b9) rfl (qm rfl (qm rfl (Cs rfl ?_))))
       obtain ⟨v10, a10, b10, h⟩ := Aj h
       refine qI AL Av a10 (Ag b10) rfl (qJ AV Av (Ag b10) rfl ?_)
       obtain ⟨v11, a11, h⟩ := bind_some h
       refine DW (ds0 := [_, _]) (ar := (DU true Af true Af) ((v9, v10))) (.g rfl rfl) rfl rfl ⟨rfl, rfl, trivial⟩ rfl rfl rfl (DV (Es _ _ _ _ Bh Bh) a11) ?_
       refine AY rfl (Cu rfl (qp rfl (AI (by kernel_rfl) ?_)))
       exact Au _ h (sm [] _ _ rfl rfl)
      ·have h := Al c8 h
       refine qn rfl (qn rfl (qn rfl (qn rfl (qn rfl (qn rfl (qn rfl (qn rfl (qn rfl (qn rfl (qn rfl (qn rfl (qn rfl (qp rfl (AI (by kernel_rfl) ?_))))))))))))))
       exact Au _ h (sm [] _ _ rfl rfl)
     ·refine Ao rfl (fun c12 => ?_) (fun c12 => ?_)
      ·have h := Am c12 h
       refine Ar (AN (Aa Ac rfl (qm rfl (AU rfl (qa rfl (Ad ?_))))))
       exact Au _ h (sm [] _ _ rfl rfl)
      ·have h := Al c12 h
       refine AW ?_
       exact Au _ h (sm [] _ _ rfl rfl)
    ·refine Ak hs (Ab (Ab (Aa Ac rfl (qm rfl (qm rfl (BA rfl (Ad ?_)))))))
     refine Ao rfl (fun c13 => ?_) (fun c13 => ?_)
     ·have h := Am c13 h
      refine Ab (Aa Ac rfl (qa rfl (Ad ?_)))
      obtain rfl := sj h
      refine Ak (sm [] [(8, .e (.one (.pure (.val (.bool true)))))] [(90000, .vec 3 (v1.1.map Af))] rfl rfl) (Ax ?_)
      exact ⟨⟨[_], ⟨.tmp _ _ rfl, trivial⟩, rfl⟩, ⟨rfl, trivial⟩, trivial⟩
     ·have h := Al c13 h
      refine Ar (Ab (Ab (Aa Ac rfl (qm rfl (qm rfl (Cs rfl (AY rfl (Ad ?_))))))))
      refine Ao rfl (fun c14 => ?_) (fun c14 => ?_)
      ·have h := Am c14 h
       refine Ab (Aa Ac rfl (qa rfl (Ad ?_)))
       obtain rfl := sj h
       refine Ak (sm [] [(8, .e (.one (.pure (.val (.bool false)))))] [(90000, .vec 3 (v1.1.map Af))] rfl rfl) (Ax ?_)
       exact ⟨⟨[_], ⟨.tmp _ _ rfl, trivial⟩, rfl⟩, ⟨rfl, trivial⟩, trivial⟩
      ·have h := Al c14 h
       refine Ar (Ab (Aa Ac rfl (qm rfl (qm rfl (qm rfl (qm rfl (Cs rfl (qm rfl (qm rfl (Cs rfl ?_))))))))))
       obtain ⟨v15, a15, b15, h⟩ := Aj h
       refine qI AL Av a15 (Ag b15) rfl (qJ AV Av (Ag b15) rfl (qm rfl (qm rfl ?_)))
       obtain ⟨v16, a16, b16, h⟩ := Aj h
       refine qI AL Av a16 (Ag b16) rfl (qJ AV Av (Ag b16) rfl ?_)
       obtain ⟨v17, a17, b17, h⟩ := Aj h
       refine qI AL Av a17 (Ag b17) rfl ?_
       refine A2 rfl rfl rfl rfl (Ag b17) rfl Av rfl (A1 rfl) (A3 Af v1.1 _ v15) ?_
       obtain ⟨v18, a18, b18, h⟩ := Aj h
       refine qI AL Av a18 (Ag b18) rfl ?_
       refine A2 rfl rfl rfl rfl (Ag b18) rfl Av rfl (A1 rfl) (A3 Af (v1.1.set ((v6).toNat) v15) _ v16) ?_
       refine AI (by kernel_rfl) ?_
       refine AP h (fun v19 => mk [(0, .e (.one (.own 90000))), (1, .e (.one (.pure (.val (.int .i64 p1))))), (2, .e (.one (.pure (.val (.int .i64 p2))))), (3, .e (.one (.clo (BJ (DU true Af true Af) Cv p3)))), (9, .e (.one (.pure (.val (.int .i64 v6))))), (10, .e (.one (.pure (.val (.int .i64 v1.2.2)))))] [(90000, .vec 3 (v19.map Af))]) (fun j19 h => ?_) (fun v19 h => ?_)
       ·refine Ab (Aa Ac rfl (qm rfl (qm rfl (Cs rfl (C6 rfl (Ad ?_))))))
        refine Ao rfl (fun c20 => ?_) (fun c20 => ?_)
        ·have h := Am c20 h
         refine Ab (Aa Ac rfl (qm rfl (Cs rfl (qa rfl (Ad ?_)))))
         refine AJ (L := Bg N p3) h (fun v21 => mk [(0, .e (.one (.own 90000))), (1, .e (.one (.pure (.val (.int .i64 p1))))), (2, .e (.one (.pure (.val (.int .i64 p2))))), (3, .e (.one (.clo (BJ (DU true Af true Af) Cv p3)))), (9, .e (.one (.pure (.val (.int .i64 v6))))), (10, .e (.one (.pure (.val (.int .i64 v1.2.2))))), (11, .e (.one (.pure (.val (.int .i64 v21.2)))))] [(90000, .vec 3 (v21.1.map Af))]) (fun v22 => mk [(0, .e (.one (.own 90000))), (1, .e (.one (.pure (.val (.int .i64 p1))))), (2, .e (.one (.pure (.val (.int .i64 p2))))), (3, .e (.one (.clo (BJ (DU true Af true Af) Cv p3)))), (9, .e (.one (.pure (.val (.int .i64 v6))))), (10, .e (.one (.pure (.val (.int .i64 v1.2.2)))))] [(90000, .vec 3 (v22.map Af))]) (fun _ _ => rfl) (sm [] _ _ rfl rfl) (fun j21 n21 v21 h => ?_) (fun v22 s h hs => ?_)
         ·unfold Bg at h
          refine Ab (Ab (Aa Ac rfl (qm rfl (C6 rfl (Ad ?_)))))
          refine Ao rfl (fun c23 => ?_) (fun c23 => ?_)
          ·have h := Am c23 h
           refine Ar (Ab (AN (Ab (Ab (Aa Ac rfl (qm rfl (qm rfl (qm rfl ?_))))))))
           obtain ⟨v24, a24, b24, h⟩ := Aj h
           refine qI AL Av a24 (Ag b24) rfl (qJ AV Av (Ag b24) rfl (qm rfl (qm rfl (Cs rfl ?_))))
           obtain ⟨v25, a25, b25, h⟩ := Aj h
           refine qI AL Av a25 (Ag b25) rfl (qJ AV Av (Ag b25) rfl ?_)
           obtain ⟨v26, a26, h⟩ := bind_some h
           refine DW (ds0 := [_, _]) (ar := (DU true Af true Af) ((v24, v25))) (.p rfl) rfl rfl ⟨rfl, rfl, trivial⟩ rfl rfl rfl (DV (Es _ _ _ _ Bh Bh) a26) ?_
           refine AY rfl (Cu rfl (AI (by kernel_rfl) ?_))
           refine Ao rfl (fun c27 => ?_) (fun c27 => ?_)
           ·have h := Am c27 h
            refine AW ?_
            exact Au _ h (sm [] _ _ rfl rfl)
           ·have h := Al c27 h
            refine Ar (Aa Ac rfl (qm rfl (qm rfl (qm rfl (qm rfl (Cs rfl (qm rfl (qm rfl (Cs rfl ?_)))))))))
            obtain ⟨v28, a28, b28, h⟩ := Aj h
            refine qI AL Av a28 (Ag b28) rfl (qJ AV Av (Ag b28) rfl (qm rfl (qm rfl ?_)))
            obtain ⟨v29, a29, b29, h⟩ := Aj h
            refine qI AL Av a29 (Ag b29) rfl (qJ AV Av (Ag b29) rfl ?_)
            obtain ⟨v30, a30, b30, h⟩ := Aj h
            refine qI AL Av a30 (Ag b30) rfl ?_
            refine A2 rfl rfl rfl rfl (Ag b30) rfl Av rfl (A1 rfl) (A3 Af v21.1 _ v28) ?_
            obtain ⟨v31, a31, b31, h⟩ := Aj h
            refine qI AL Av a31 (Ag b31) rfl ?_
            refine A2 rfl rfl rfl rfl (Ag b31) rfl Av rfl (A1 rfl) (A3 Af (v21.1.set ((v21.2).toNat) v28) _ v29) ?_
            refine AI (by kernel_rfl) (Aa Ac rfl (qm rfl (Cs rfl (qa rfl (Ad ?_)))))
            exact Au _ h (sm [] _ _ rfl rfl)
          ·have h := Al c23 h
           refine AW ?_
           exact Au _ h (sm [] _ _ rfl rfl)
         ·exact Au _ h (hs.trans (sm [] _ _ rfl rfl))
        ·have h := Al c20 h
         refine Ar ?_
         exact Au _ h (sm [] _ _ rfl rfl)
       ·refine Ab (Aa Ac rfl (qm rfl (qm rfl (Cs rfl (C6 rfl (Ad ?_))))))
        refine Ao rfl (fun c32 => ?_) (fun c32 => ?_)
        ·have h := Am c32 h
         refine Ab (Aa Ac rfl (qm rfl (AU rfl (qa rfl (Ad ?_)))))
         refine AJ (L := Bf N p2 p3) h (fun v33 => mk [(0, .e (.one (.own 90000))), (1, .e (.one (.pure (.val (.int .i64 p1))))), (2, .e (.one (.pure (.val (.int .i64 p2))))), (3, .e (.one (.clo (BJ (DU true Af true Af) Cv p3)))), (9, .e (.one (.pure (.val (.int .i64 v6))))), (10, .e (.one (.pure (.val (.int .i64 v1.2.2))))), (12, .e (.one (.pure (.val (.int .i64 v33.2)))))] [(90000, .vec 3 (v33.1.map Af))]) (fun v34 => mk [(0, .e (.one (.own 90000))), (1, .e (.one (.pure (.val (.int .i64 p1))))), (2, .e (.one (.pure (.val (.int .i64 p2))))), (3, .e (.one (.clo (BJ (DU true Af true Af) Cv p3)))), (9, .e (.one (.pure (.val (.int .i64 v6))))), (10, .e (.one (.pure (.val (.int .i64 v1.2.2)))))] [(90000, .vec 3 (v34.map Af))]) (fun _ _ => rfl) (sm [] _ _ rfl rfl) (fun j33 n33 v33 h => ?_) (fun v34 s h hs => ?_)
         ·unfold Bf at h
          refine Ab (Ab (Aa Ac rfl (qm rfl (qm rfl (AY rfl (Ad ?_))))))
          refine Ao rfl (fun c35 => ?_) (fun c35 => ?_)
          ·have h := Am c35 h
           refine Ar (Ab (AN (Ab (Ab (Aa Ac rfl (qm rfl (qm rfl (qm rfl ?_))))))))
           obtain ⟨v36, a36, b36, h⟩ := Aj h
           refine qI AL Av a36 (Ag b36) rfl (qJ AV Av (Ag b36) rfl (qm rfl (qm rfl (Cs rfl ?_))))
           obtain ⟨v37, a37, b37, h⟩ := Aj h
           refine qI AL Av a37 (Ag b37) rfl (qJ AV Av (Ag b37) rfl ?_)
           obtain ⟨v38, a38, h⟩ := bind_some h
           refine DW (ds0 := [_, _]) (ar := (DU true Af true Af) ((v36, v37))) (.p rfl) rfl rfl ⟨rfl, rfl, trivial⟩ rfl rfl rfl (DV (Es _ _ _ _ Bh Bh) a38) ?_
           refine AY rfl (Cu rfl (AI (by kernel_rfl) ?_))
           refine Ao rfl (fun c39 => ?_) (fun c39 => ?_)
           ·have h := Am c39 h
            refine AW ?_
            exact Au _ h (sm [] _ _ rfl rfl)
           ·have h := Al c39 h
            refine Ar (Aa Ac rfl (qm rfl (qm rfl (qm rfl (qm rfl (Cs rfl (qm rfl (qm rfl (Cs rfl ?_)))))))))
            obtain ⟨v40, a40, b40, h⟩ := Aj h
            refine qI AL Av a40 (Ag b40) rfl (qJ AV Av (Ag b40) rfl (qm rfl (qm rfl ?_)))
            obtain ⟨v41, a41, b41, h⟩ := Aj h
            refine qI AL Av a41 (Ag b41) rfl (qJ AV Av (Ag b41) rfl ?_)
            obtain ⟨v42, a42, b42, h⟩ := Aj h
            refine qI AL Av a42 (Ag b42) rfl ?_
            refine A2 rfl rfl rfl rfl (Ag b42) rfl Av rfl (A1 rfl) (A3 Af v33.1 _ v40) ?_
            obtain ⟨v43, a43, b43, h⟩ := Aj h
            refine qI AL Av a43 (Ag b43) rfl ?_
            refine A2 rfl rfl rfl rfl (Ag b43) rfl Av rfl (A1 rfl) (A3 Af (v33.1.set ((v33.2).toNat) v40) _ v41) ?_
            refine AI (by kernel_rfl) (Aa Ac rfl (qm rfl (AU rfl (qa rfl (Ad ?_)))))
            exact Au _ h (sm [] _ _ rfl rfl)
          ·have h := Al c35 h
           refine AW ?_
           exact Au _ h (sm [] _ _ rfl rfl)
         ·exact Au _ h (hs.trans (sm [] _ _ rfl rfl))
        ·have h := Al c32 h
         refine Ar ?_
         exact Au _ h (sm [] _ _ rfl rfl)
   ·refine Aa Ac rfl (qm rfl (AU rfl (qa rfl (Ad ?_))))
    exact Au _ h (sm [] _ _ rfl rfl)
  ·have h := Al c3 h
   refine AW ?_
   exact Au _ h (sm [] _ _ rfl rfl)
 ·refine Ak hs (Ab (Aa Ac rfl (qa rfl (Ad ?_))))
  obtain rfl := sj h
  refine Ak (sm [] [(8, .e (.one (.pure (.val (.bool false)))))] [(90000, .vec 3 (v2.map Af))] rfl rfl) (Ax ?_)
  exact ⟨⟨[_], ⟨.tmp _ _ rfl, trivial⟩, rfl⟩, ⟨rfl, trivial⟩, trivial⟩
set_option maxRecDepth 10000 in
theorem Fi (N : Nat) (p0 : List Ae) (p1 : Int) (p2 : Int) (p3 : Int) (p4 : (Ae × Ae) → Option Int) (r : Int × (List Ae)) (h : CA N p0 p1 p2 p3 p4 = some r) : Bv Tryz.prog 87 [.e (.one (.own 90000)), .e (.one (.pure (.val (.int .i64 p1)))), .e (.one (.pure (.val (.int .i64 p2)))), .e (.one (.pure (.val (.int .i64 p3)))), .e (.one (.clo (BJ (DU true Af true Af) Cv p4)))] [(.vec 3 (p0.map Af), .vec 3 (r.2.map Af))] [] (.e (.one (.pure (.val (.int .i64 r.1))))) := by
 unfold CA at h
 refine Bn (n := 90) (rs := [.tmp 10]) Tryz.func87 rfl rfl rfl (A1 rfl) (A1 rfl) rfl rfl (A1 rfl) rfl (A1 rfl) fun w0 S0 GL => ?_
 refine Ak (sm [] [(0, .e (.one (.own 90000))), (1, .e (.one (.pure (.val (.int .i64 p1))))), (2, .e (.one (.pure (.val (.int .i64 p2))))), (3, .e (.one (.pure (.val (.int .i64 p3))))), (4, .e (.one (.clo (BJ (DU true Af true Af) Cv p4))))] [(90000, .vec 3 (p0.map Af))] rfl rfl) (Ab (Aa Ac rfl (qa rfl (Ad (Ab (Aa Ac rfl (qm rfl (qm rfl (qm rfl (qm rfl (qm rfl (qm rfl ?_))))))))))))
 obtain ⟨v1, a1, b1, h⟩ := Aj h
 refine qI AL Av a1 (Ag b1) rfl (qJ AV Av (Ag b1) rfl (qm rfl (qm rfl ?_)))
 obtain ⟨v2, a2, b2, h⟩ := Aj h
 refine qI AL Av a2 (Ag b2) rfl (qJ AV Av (Ag b2) rfl ?_)
 obtain ⟨v3, a3, b3, h⟩ := Aj h
 refine qI AL Av a3 (Ag b3) rfl ?_
 refine A2 rfl rfl rfl rfl (Ag b3) rfl Av rfl (A1 rfl) (A3 Af p0 _ v1) ?_
 obtain ⟨v4, a4, b4, h⟩ := Aj h
 refine qI AL Av a4 (Ag b4) rfl ?_
 refine A2 rfl rfl rfl rfl (Ag b4) rfl Av rfl (A1 rfl) (A3 Af (p0.set ((p1).toNat) v1) _ v2) ?_
 refine AI (by kernel_rfl) (Ab (Aa Ac rfl (qm rfl (AU rfl (qm rfl (Cs rfl (qa rfl (qa rfl (Ad (Ab ?_))))))))))
 refine AJ (L := BC N p1 p4) h (fun v5 => mk [(0, .e (.one (.own 90000))), (1, .e (.one (.pure (.val (.int .i64 p1))))), (4, .e (.one (.clo (BJ (DU true Af true Af) Cv p4)))), (11, .e (.one (.pure (.val (.int .i64 v5.2.1))))), (12, .e (.one (.pure (.val (.int .i64 v5.2.2)))))] [(90000, .vec 3 (v5.1.map Af))]) (fun v6 => mk [(11, .e (.one (.pure (.val (.int .i64 v6.2)))))] [(90000, .vec 3 (v6.1.map Af))]) (fun _ _ => rfl) (sm [] _ _ rfl rfl) (fun j5 n5 v5 h => ?_) (fun v6 s h hs => ?_)
 ·unfold BC at h
  refine AN (Ab ?_)
  refine AJ (L := BB N p1 p4 v5) h (fun v7 => mk [(0, .e (.one (.own 90000))), (1, .e (.one (.pure (.val (.int .i64 p1))))), (4, .e (.one (.clo (BJ (DU true Af true Af) Cv p4)))), (11, .e (.one (.pure (.val (.int .i64 v7))))), (12, .e (.one (.pure (.val (.int .i64 v5.2.2)))))] [(90000, .vec 3 (v5.1.map Af))]) (fun v8 => mk [(0, .e (.one (.own 90000))), (1, .e (.one (.pure (.val (.int .i64 p1))))), (4, .e (.one (.clo (BJ (DU true Af true Af) Cv p4)))), (11, .e (.one (.pure (.val (.int .i64 v8))))), (12, .e (.one (.pure (.val (.int .i64 v5.2.2)))))] [(90000, .vec 3 (v5.1.map Af))]) (fun _ _ => rfl) (sm [] _ _ rfl rfl) (fun j7 n7 v7 h => ?_) (fun v8 s h hs => ?_)
  ·unfold BB at h
   refine Ab ?_
   refine AP h (fun v9 => mk [(0, .e (.one (.own 90000))), (1, .e (.one (.pure (.val (.int .i64 p1))))), (4, .e (.one (.clo (BJ (DU true Af true Af) Cv p4)))), (11, .e (.one (.pure (.val (.int .i64 v7))))), (12, .e (.one (.pure (.val (.int .i64 v5.2.2))))), (47, .e (.one (.pure (.val (.bool v9)))))] [(90000, .vec 3 (v5.1.map Af))]) (fun j9 h => ?_) (fun v9 h => ?_)
   ·refine Aa Ac rfl (qm rfl (qm rfl (JH rfl (qm rfl ?_))))
    refine AB (t := 34) rfl (fun c10 => ?_) (fun c10 => ?_)
    ·have h := Am c10 h
     refine qm rfl (qm rfl (qm rfl ?_))
     obtain ⟨v11, a11, b11, h⟩ := Aj h
     refine qI AL Av a11 (Ag b11) rfl (qJ AV Av (Ag b11) rfl (qm rfl (qm rfl ?_)))
     obtain ⟨v12, a12, b12, h⟩ := Aj h
     refine qI AL Av a12 (Ag b12) rfl (qJ AV Av (Ag b12) rfl ?_)
     obtain ⟨v13, a13, h⟩ := bind_some h
     refine DW (ds0 := [_, _]) (ar := (DU true Af true Af) ((v11, v12))) (.g rfl rfl) rfl rfl ⟨rfl, rfl, trivial⟩ rfl rfl rfl (DV (Es _ _ _ _ Bh Bh) a13) ?_
     refine AY rfl (Cu rfl (qp rfl (AI (by kernel_rfl) ?_)))
     exact Au _ h (sm [] _ _ rfl rfl)
    ·have h := Al c10 h
     refine qn rfl (qn rfl (qn rfl (qn rfl (qn rfl (qn rfl (qn rfl (qn rfl (qn rfl (qn rfl (qn rfl (qn rfl (qp rfl (AI (by kernel_rfl) ?_)))))))))))))
     exact Au _ h (sm [] _ _ rfl rfl)
   ·refine Ao rfl (fun c14 => ?_) (fun c14 => ?_)
    ·have h := Am c14 h
     refine Ar (AN (Aa Ac rfl (qm rfl (AU rfl (qa rfl (Ad ?_))))))
     exact Au _ h (sm [] _ _ rfl rfl)
    ·have h := Al c14 h
     refine AW ?_
     exact Au _ h (sm [] _ _ rfl rfl)
  ·refine Ak hs (Ab ?_)
   refine AJ (L := Bx N p1 p4 v5 v8) h (fun v15 => mk [(0, .e (.one (.own 90000))), (1, .e (.one (.pure (.val (.int .i64 p1))))), (4, .e (.one (.clo (BJ (DU true Af true Af) Cv p4)))), (11, .e (.one (.pure (.val (.int .i64 v8))))), (12, .e (.one (.pure (.val (.int .i64 v15)))))] [(90000, .vec 3 (v5.1.map Af))]) (fun v16 => mk [(0, .e (.one (.own 90000))), (1, .e (.one (.pure (.val (.int .i64 p1))))), (4, .e (.one (.clo (BJ (DU true Af true Af) Cv p4)))), (11, .e (.one (.pure (.val (.int .i64 v8))))), (12, .e (.one (.pure (.val (.int .i64 v16)))))] [(90000, .vec 3 (v5.1.map Af))]) (fun _ _ => rfl) (sm [] _ _ rfl rfl) (fun j15 n15 v15 h => ?_) (fun v16 s h hs => ?_)
   ·unfold Bx at h
    refine Ab ?_
    refine AP h (fun v17 => mk [(0, .e (.one (.own 90000))), (1, .e (.one (.pure (.val (.int .i64 p1))))), (4, .e (.one (.clo (BJ (DU true Af true Af) Cv p4)))), (11, .e (.one (.pure (.val (.int .i64 v8))))), (12, .e (.one (.pure (.val (.int .i64 v15))))), (65, .e (.one (.pure (.val (.bool v17)))))] [(90000, .vec 3 (v5.1.map Af))]) (fun j17 h => ?_) (fun v17 h => ?_)
    ·refine Aa Ac rfl (qm rfl (qm rfl (JH rfl (qm rfl ?_))))
     refine AB (t := 53) rfl (fun c18 => ?_) (fun c18 => ?_)
     ·have h := Am c18 h
      refine qm rfl (qm rfl (qm rfl ?_))
      obtain ⟨v19, a19, b19, h⟩ := Aj h
      refine qI AL Av a19 (Ag b19) rfl (qJ AV Av (Ag b19) rfl (qm rfl (qm rfl ?_)))
      obtain ⟨v20, a20, b20, h⟩ := Aj h
      refine qI AL Av a20 (Ag b20) rfl (qJ AV Av (Ag b20) rfl ?_)
      obtain ⟨v21, a21, h⟩ := bind_some h
      refine DW (ds0 := [_, _]) (ar := (DU true Af true Af) ((v19, v20))) (.g rfl rfl) rfl rfl ⟨rfl, rfl, trivial⟩ rfl rfl rfl (DV (Es _ _ _ _ Bh Bh) a21) ?_
      refine AY rfl (qp rfl (AI (by kernel_rfl) ?_))
      exact Au _ h (sm [] _ _ rfl rfl)
     ·have h := Al c18 h
      refine qn rfl (qn rfl (qn rfl (qn rfl (qn rfl (qn rfl (qn rfl (qn rfl (qn rfl (qn rfl (qn rfl (qp rfl (AI (by kernel_rfl) ?_))))))))))))
      exact Au _ h (sm [] _ _ rfl rfl)
    ·refine Ao rfl (fun c22 => ?_) (fun c22 => ?_)
     ·have h := Am c22 h
      refine Ar (AN (Aa Ac rfl (qm rfl (Cs rfl (qa rfl (Ad ?_))))))
      exact Au _ h (sm [] _ _ rfl rfl)
     ·have h := Al c22 h
      refine AW ?_
      exact Au _ h (sm [] _ _ rfl rfl)
   ·refine Ak hs (Ab (Ab (Aa Ac rfl (qm rfl (qm rfl (Ew rfl (Ad ?_)))))))
    refine Ao rfl (fun c23 => ?_) (fun c23 => ?_)
    ·have h := Am c23 h
     refine AW ?_
     exact Au _ h (sm [] _ _ rfl rfl)
    ·have h := Al c23 h
     refine Ar (Ab (Aa Ac rfl (qm rfl (qm rfl (qm rfl (qm rfl (qm rfl (qm rfl ?_))))))))
     obtain ⟨v24, a24, b24, h⟩ := Aj h
     refine qI AL Av a24 (Ag b24) rfl (qJ AV Av (Ag b24) rfl (qm rfl (qm rfl ?_)))
     obtain ⟨v25, a25, b25, h⟩ := Aj h
     refine qI AL Av a25 (Ag b25) rfl (qJ AV Av (Ag b25) rfl ?_)
     obtain ⟨v26, a26, b26, h⟩ := Aj h
     refine qI AL Av a26 (Ag b26) rfl ?_
     refine A2 rfl rfl rfl rfl (Ag b26) rfl Av rfl (A1 rfl) (A3 Af v5.1 _ v24) ?_
     obtain ⟨v27, a27, b27, h⟩ := Aj h
     refine qI AL Av a27 (Ag b27) rfl ?_
     refine A2 rfl rfl rfl rfl (Ag b27) rfl Av rfl (A1 rfl) (A3 Af (v5.1.set ((v8).toNat) v24) _ v25) ?_
     refine AI (by kernel_rfl) (Ab (Aa Ac rfl (qm rfl (AU rfl (qa rfl (Ad (Aa Ac rfl (qm rfl (Cs rfl (qa rfl (Ad ?_)))))))))))
     exact Au _ h (sm [] _ _ rfl rfl)
 ·refine Ak hs (Ab (Aa Ac rfl (qm rfl (qa rfl (Ad ?_)))))
  obtain rfl := sj h
  refine Ak (sm [] [(10, .e (.one (.pure (.val (.int .i64 v6.2)))))] [(90000, .vec 3 (v6.1.map Af))] rfl rfl) (Ax ?_)
  exact ⟨⟨[_], ⟨.tmp _ _ rfl, trivial⟩, rfl⟩, ⟨rfl, trivial⟩, trivial⟩
end Go.Lift

