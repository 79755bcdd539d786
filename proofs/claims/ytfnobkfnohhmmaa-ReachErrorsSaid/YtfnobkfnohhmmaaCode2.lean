/- Lemmas for ReachErrorsSaid, which YtfnobkfnohhmmaaFinW3 proves. -/
import Derived.Test.YtfnobkfnohhmmaaCode
/- That the code does what the shallow programs do, function by function. Written by a program (gen.py). -/
namespace Go.Lift
open Go.RowKit
open Go.Proofs
set_option maxRecDepth 10000 in
theorem Hy (N : Nat) (p0 : AQ) (r : Bool) (h : CM N p0 = some r) : Az Try.prog 36 [.e (.agg [.pure (.val (.int .i64 p0.fKind)), .pure (.val (.int .i64 p0.fFrom)), .pure (.val (.int .i64 p0.fTo)), .pure (.val (.bool p0.fAware)), .pure (.sl (p0.fOK.map (EM eB))), .pure (.sl (p0.fRewrite.map (EM eB)))])] [] (.e (.one (.pure (.val (.bool r))))) := by
 unfold CM at h
 refine Aq (n := 11) (rs := [.tmp 2]) Try.func36 rfl rfl rfl (AV rfl) (AV rfl) rfl fun w0 S0 => ?_
 refine Ab (Aa Ad rfl (qb rfl (qa rfl (Ac ?_))))
 refine AN h (fun v1 => mk [(2, .e (.one (.pure (.val (.bool v1)))))] []) (fun j1 h => ?_) (fun v1 h => ?_)
 ·refine Aa Ad rfl (qf EY rfl (ql CQ rfl (BR rfl (qm rfl ?_))))
  refine AA (t := 6) rfl (fun c2 => ?_) (fun c2 => ?_)
  ·have h := An c2 h
   refine qn rfl (qn rfl (qn rfl (qp rfl (qa rfl (Ac ?_)))))
   exact Av _ h (sm [] _ _ rfl rfl)
  ·have h := Am c2 h
   refine qf EY rfl (ql CQ rfl (BR rfl (qp rfl (qa rfl (Ac ?_)))))
   exact Av _ h (sm [] _ _ rfl rfl)
 ·obtain rfl := sj h
  refine Aj (sm [] [(2, .e (.one (.pure (.val (.bool v1)))))] [] rfl rfl) (Ax ?_)
  exact ⟨⟨[_], ⟨.tmp _ _ rfl, trivial⟩, rfl⟩, trivial⟩
set_option maxRecDepth 10000 in
theorem FQ (N : Nat) (p0 : List (List Bool)) (p1 : Int) (p2 : Int) (r : Bool) (h : Cp N p0 p1 p2 = some r) : Az Try.prog 40 [.e (.one (.pure (.sl (p0.map (EM eB))))), .e (.one (.pure (.val (.int .i64 p1)))), .e (.one (.pure (.val (.int .i64 p2))))] [] (.e (.one (.pure (.val (.bool r))))) := by
 unfold Cp at h
 refine Aq (n := 24) (rs := [.tmp 6]) Try.func40 rfl rfl rfl (AV rfl) (AV rfl) rfl fun w0 S0 => ?_
 refine Ab (Aa Ad rfl (qa rfl (Ac (Ab (Ab (Aa Ad rfl (qm rfl (AM EE rfl (qm rfl (Ch rfl (Ac ?_)))))))))))
 refine Ao rfl (fun c1 => ?_) (fun c1 => ?_)
 ·have h := An c1 h
  refine Ab (Aa Ad rfl (qa rfl (Ac ?_)))
  obtain rfl := sj h
  refine Aj (sm [] [(6, .e (.one (.pure (.val (.bool false)))))] [] rfl rfl) (Ax ?_)
  exact ⟨⟨[_], ⟨.tmp _ _ rfl, trivial⟩, rfl⟩, trivial⟩
 ·have h := Am c1 h
  refine Ap (Ab (Ab (Aa Ad rfl (qa rfl (Ac ?_)))))
  refine AF (L := BG N p0 p1 p2) h (fun v2 => mk [(0, .e (.one (.pure (.sl (p0.map (EM eB)))))), (1, .e (.one (.pure (.val (.int .i64 p1))))), (2, .e (.one (.pure (.val (.int .i64 p2))))), (7, .e (.one (.pure (.val (.int .i64 v2)))))] []) (fun v3 => mk [] []) (fun _ _ => rfl) (sm [] _ _ rfl rfl) (fun j2 n2 v2 h => ?_) (fun v3 s h hs => ?_)
  ·unfold BG at h
   refine Ab (Ab (Aa Ad rfl (qm rfl (qm rfl (AS rfl (Ac ?_))))))
   refine Ao rfl (fun c4 => ?_) (fun c4 => ?_)
   ·have h := An c4 h
    refine Ap (Ab (AI (Ab (Aa Ad rfl (qm rfl (qm rfl ?_))))))
    obtain ⟨v5, a5, b5, h⟩ := Ah h
    refine qi EE Lg a5 (Ag b5) rfl (qk Lm rfl (AM HL rfl (qm rfl (Ch rfl (Ac ?_)))))
    refine Ao rfl (fun c6 => ?_) (fun c6 => ?_)
    ·have h := An c6 h
     refine Ab (Aa Ad rfl (qa rfl (Ac ?_)))
     obtain rfl := sj h
     refine Aj (sm [] [(6, .e (.one (.pure (.val (.bool false)))))] [] rfl rfl) (Ax ?_)
     exact ⟨⟨[_], ⟨.tmp _ _ rfl, trivial⟩, rfl⟩, trivial⟩
    ·have h := Am c6 h
     refine Ap (Aa Ad rfl (qm rfl (AO rfl (qa rfl (Ac ?_)))))
     exact Av _ h (sm [] _ _ rfl rfl)
   ·have h := Am c4 h
    refine AR ?_
    exact Av _ h (sm [] _ _ rfl rfl)
  ·refine Aj hs (Ab (Aa Ad rfl (qa rfl (Ac ?_))))
   obtain rfl := sj h
   refine Aj (sm [] [(6, .e (.one (.pure (.val (.bool true)))))] [] rfl rfl) (Ax ?_)
   exact ⟨⟨[_], ⟨.tmp _ _ rfl, trivial⟩, rfl⟩, trivial⟩
set_option maxRecDepth 10000 in
theorem H2 (N : Nat) (p0 : Ak) (p1 : AQ) (r : Int) (h : CW N p0 p1 = some r) : Az Try.prog 20 [.e (.agg [.pure (.sl (p0.fVersions.map Ai)), .pure (.sl (p0.fNow.map Ai)), .pure (.sl (p0.fTarget.map Ai)), .pure (.sl (p0.fTables.map Ar))]), .e (.agg [.pure (.val (.int .i64 p1.fKind)), .pure (.val (.int .i64 p1.fFrom)), .pure (.val (.int .i64 p1.fTo)), .pure (.val (.bool p1.fAware)), .pure (.sl (p1.fOK.map (EM eB))), .pure (.sl (p1.fRewrite.map (EM eB)))])] [] (.e (.one (.pure (.val (.int .i64 r))))) := by
 unfold CW at h
 refine Aq (n := 101) (rs := [.tmp 4]) Try.func20 rfl rfl rfl (AV rfl) (AV rfl) rfl fun w0 S0 => ?_
 refine Ab (Aa Ad rfl (qb rfl (qb rfl (qa rfl (Ac (Ab ?_))))))
 refine AN h (fun v1 => mk [(2, .e (.one (.ptr 2 0))), (3, .e (.one (.ptr 3 0))), (22, .e (.one (.pure (.val (.bool v1)))))] [(2, .box [.pure (.sl (p0.fVersions.map Ai)), .pure (.sl (p0.fNow.map Ai)), .pure (.sl (p0.fTarget.map Ai)), .pure (.sl (p0.fTables.map Ar))]), (3, .box [.pure (.val (.int .i64 p1.fKind)), .pure (.val (.int .i64 p1.fFrom)), .pure (.val (.int .i64 p1.fTo)), .pure (.val (.bool p1.fAware)), .pure (.sl (p1.fOK.map (EM eB))), .pure (.sl (p1.fRewrite.map (EM eB)))])]) (fun j1 h => ?_) (fun v1 h => ?_)
 ·refine Aa Ad rfl (qf EY rfl (ql CQ rfl (AS rfl (qm rfl ?_))))
  refine AA (t := 10) rfl (fun c2 => ?_) (fun c2 => ?_)
  ·have h := An c2 h
   refine qn rfl (qn rfl (qn rfl (qp rfl (qm rfl (qn rfl (qn rfl (qn rfl (qu rfl (qu rfl (qn rfl (qp rfl (Ac ?_))))))))))))
   exact Av _ h (sm [] _ _ rfl rfl)
  ·have h := Am c2 h
   refine qf EY rfl (ql CQ rfl (Dd rfl (qp rfl (qm rfl ?_))))
   refine AA (t := 15) rfl (fun c3 => ?_) (fun c3 => ?_)
   ·have h := An c3 h
    refine qn rfl (qn rfl (qn rfl (qu rfl (qu rfl (qn rfl (qp rfl (Ac ?_)))))))
    exact Av _ h (sm [] _ _ rfl rfl)
   ·have h := Am c3 h
    refine qf JD rfl (ql O5 rfl (qm rfl ?_))
    refine AA (t := 18) rfl (fun c4 => ?_) (fun c4 => ?_)
    ·have h := An c4 h
     refine qL H0 D9 rfl ?_
     obtain ⟨v5, a5, h⟩ := bind_some h
     refine AB [] (Hy N p1 v5 a5) Rj rfl (qp rfl (qp rfl (Ac ?_)))
     exact Av _ h (sm [] _ _ rfl rfl)
    ·have h := Am c4 h
     refine qn rfl (qn rfl (qp rfl (qp rfl (Ac ?_))))
     exact Av _ h (sm [] _ _ rfl rfl)
 ·refine Ao rfl (fun c6 => ?_) (fun c6 => ?_)
  ·have h := An c6 h
   refine Ab (Aa Ad rfl (qa rfl (Ac ?_)))
   obtain rfl := sj h
   refine Aj (sm [] [(4, .e (.one (.pure (.val (.int .i64 1)))))] [] rfl rfl) (Ax ?_)
   exact ⟨⟨[_], ⟨.tmp _ _ rfl, trivial⟩, rfl⟩, trivial⟩
  ·have h := Am c6 h
   refine Ap (Ab (Aa Ad rfl (qf Ck rfl (ql BS rfl (AM AK rfl (qa rfl (Ac (Ab ?_))))))))
   refine AN h (fun v7 => mk [(2, .e (.one (.ptr 2 0))), (3, .e (.one (.ptr 3 0))), (45, .e (.one (.pure (.val (.bool v7)))))] [(2, .box [.pure (.sl (p0.fVersions.map Ai)), .pure (.sl (p0.fNow.map Ai)), .pure (.sl (p0.fTarget.map Ai)), .pure (.sl (p0.fTables.map Ar))]), (3, .box [.pure (.val (.int .i64 p1.fKind)), .pure (.val (.int .i64 p1.fFrom)), .pure (.val (.int .i64 p1.fTo)), .pure (.val (.bool p1.fAware)), .pure (.sl (p1.fOK.map (EM eB))), .pure (.sl (p1.fRewrite.map (EM eB)))])]) (fun j7 h => ?_) (fun v7 h => ?_)
   ·refine Aa Ad rfl (qf Eg rfl (ql CQ rfl (AS rfl (qm rfl ?_))))
    refine AA (t := 29) rfl (fun c8 => ?_) (fun c8 => ?_)
    ·have h := An c8 h
     refine qn rfl (qn rfl (qn rfl (qn rfl (qp rfl (qm rfl (qn rfl (qn rfl (qn rfl (qp rfl (qm rfl (qn rfl (qn rfl (qn rfl (qn rfl (qp rfl (Ac ?_))))))))))))))))
     exact Av _ h (sm [] _ _ rfl rfl)
    ·have h := Am c8 h
     refine qf Eg rfl (ql CQ rfl (qm rfl (Dc rfl (qp rfl (qm rfl ?_)))))
     refine AA (t := 35) rfl (fun c9 => ?_) (fun c9 => ?_)
     ·have h := An c9 h
      refine qn rfl (qn rfl (qn rfl (qp rfl (qm rfl (qn rfl (qn rfl (qn rfl (qn rfl (qp rfl (Ac ?_))))))))))
      exact Av _ h (sm [] _ _ rfl rfl)
     ·have h := Am c9 h
      refine qf HU rfl (ql CQ rfl (AS rfl (qp rfl (qm rfl ?_))))
      refine AA (t := 40) rfl (fun c10 => ?_) (fun c10 => ?_)
      ·have h := An c10 h
       refine qn rfl (qn rfl (qn rfl (qn rfl (qp rfl (Ac ?_)))))
       exact Av _ h (sm [] _ _ rfl rfl)
      ·have h := Am c10 h
       refine qf HU rfl (ql CQ rfl (qm rfl (Dc rfl (qp rfl (Ac ?_)))))
       exact Av _ h (sm [] _ _ rfl rfl)
   ·refine Ao rfl (fun c11 => ?_) (fun c11 => ?_)
    ·have h := An c11 h
     refine Ab (Aa Ad rfl (qa rfl (Ac ?_)))
     obtain rfl := sj h
     refine Aj (sm [] [(4, .e (.one (.pure (.val (.int .i64 4)))))] [] rfl rfl) (Ax ?_)
     exact ⟨⟨[_], ⟨.tmp _ _ rfl, trivial⟩, rfl⟩, trivial⟩
    ·have h := Am c11 h
     refine Ap (Ab (Ab (Aa Ad rfl (qf Hd rfl (ql GR rfl (qf Ck rfl (ql BS rfl (qf Eg rfl (ql CQ rfl ?_)))))))))
     obtain ⟨v12, a12, b12, h⟩ := Ah h
     refine qi AK Ee a12 (Ag b12) rfl (qk CQ rfl (qf Ck rfl (ql BS rfl (qf HU rfl (ql CQ rfl ?_)))))
     obtain ⟨v13, a13, b13, h⟩ := Ah h
     refine qi AK Ee a13 (Ag b13) rfl (qk CQ rfl ?_)
     obtain ⟨v14, a14, h⟩ := bind_some h
     refine AB [] (FQ N p1.fOK v12 v13 v14 a14) Qy rfl (Cg rfl (AJ (by kernel_rfl) ?_))
     refine Ao rfl (fun c15 => ?_) (fun c15 => ?_)
     ·have h := An c15 h
      refine Ab (Aa Ad rfl (qa rfl (Ac ?_)))
      obtain rfl := sj h
      refine Aj (sm [] [(4, .e (.one (.pure (.val (.int .i64 6)))))] [] rfl rfl) (Ax ?_)
      exact ⟨⟨[_], ⟨.tmp _ _ rfl, trivial⟩, rfl⟩, trivial⟩
     ·have h := Am c15 h
      refine Ap (Ab (Ab (Aa Ad rfl (qf EY rfl (ql CQ rfl (Ch rfl (Ac ?_)))))))
      refine Ao rfl (fun c16 => ?_) (fun c16 => ?_)
      ·have h := An c16 h
       refine Ab (Ab (Aa Ad rfl (qf Ez rfl (ql GR rfl (AM EE rfl (Ch rfl (Ac ?_)))))))
       refine Ao rfl (fun c17 => ?_) (fun c17 => ?_)
       ·have h := An c17 h
        refine Ab (Aa Ad rfl (qa rfl (Ac ?_)))
        obtain rfl := sj h
        refine Aj (sm [] [(4, .e (.one (.pure (.val (.int .i64 6)))))] [] rfl rfl) (Ax ?_)
        exact ⟨⟨[_], ⟨.tmp _ _ rfl, trivial⟩, rfl⟩, trivial⟩
       ·have h := Am c17 h
        refine Ap (Ab (Aa Ad rfl (qa rfl (Ac ?_))))
        obtain rfl := sj h
        refine Aj (sm [] [(4, .e (.one (.pure (.val (.int .i64 0)))))] [] rfl rfl) (Ax ?_)
        exact ⟨⟨[_], ⟨.tmp _ _ rfl, trivial⟩, rfl⟩, trivial⟩
      ·have h := Am c16 h
       refine Ap (Ab (Ab (Aa Ad rfl (qf Ez rfl (ql GR rfl (qf Ck rfl (ql BS rfl (qf Eg rfl (ql CQ rfl ?_)))))))))
       obtain ⟨v18, a18, b18, h⟩ := Ah h
       refine qi AK Ee a18 (Ag b18) rfl (qk CQ rfl (qf Ck rfl (ql BS rfl (qf Eg rfl (ql CQ rfl ?_)))))
       obtain ⟨v19, a19, b19, h⟩ := Ah h
       refine qi AK Ee a19 (Ag b19) rfl (qk CQ rfl ?_)
       obtain ⟨v20, a20, h⟩ := bind_some h
       refine AB [] (FQ N p1.fRewrite v18 v19 v20 a20) Qy rfl (Cg rfl (AJ (by kernel_rfl) ?_))
       refine Ao rfl (fun c21 => ?_) (fun c21 => ?_)
       ·have h := An c21 h
        refine Ab (Aa Ad rfl (qa rfl (Ac ?_)))
        obtain rfl := sj h
        refine Aj (sm [] [(4, .e (.one (.pure (.val (.int .i64 6)))))] [] rfl rfl) (Ax ?_)
        exact ⟨⟨[_], ⟨.tmp _ _ rfl, trivial⟩, rfl⟩, trivial⟩
       ·have h := Am c21 h
        refine Ap (Ab (Ab (Aa Ad rfl (qa rfl (Ac ?_)))))
        refine AF (L := Bn N p1) h (fun v22 => mk [(3, .e (.one (.ptr 3 0))), (6, .e (.one (.pure (.val (.int .i64 v22)))))] [(3, .box [.pure (.val (.int .i64 p1.fKind)), .pure (.val (.int .i64 p1.fFrom)), .pure (.val (.int .i64 p1.fTo)), .pure (.val (.bool p1.fAware)), .pure (.sl (p1.fOK.map (EM eB))), .pure (.sl (p1.fRewrite.map (EM eB)))])]) (fun v23 => mk [] []) (fun _ _ => rfl) (sm [] _ _ rfl rfl) (fun j22 n22 v22 h => ?_) (fun v23 s h hs => ?_)
        ·unfold Bn at h
         refine Ab (Ab (Aa Ad rfl (qm rfl (qf Ez rfl (ql GR rfl (AM EE rfl (AS rfl (Ac ?_))))))))
         refine Ao rfl (fun c24 => ?_) (fun c24 => ?_)
         ·have h := An c24 h
          refine Ap (Ab (AI (Ab (Aa Ad rfl (qf Ez rfl (ql GR rfl (qm rfl ?_)))))))
          obtain ⟨v25, a25, b25, h⟩ := Ah h
          refine qi EE Lg a25 (Ag b25) rfl (qk Lm rfl (qm rfl ?_))
          obtain ⟨v26, a26, b26, h⟩ := Ah h
          refine qi HL PX a26 (Ag b26) rfl (qk O5 rfl (Cg rfl (Ac ?_)))
          refine Ao rfl (fun c27 => ?_) (fun c27 => ?_)
          ·have h := An c27 h
           refine Ab (Aa Ad rfl (qa rfl (Ac ?_)))
           obtain rfl := sj h
           refine Aj (sm [] [(4, .e (.one (.pure (.val (.int .i64 1)))))] [] rfl rfl) (Ax ?_)
           exact ⟨⟨[_], ⟨.tmp _ _ rfl, trivial⟩, rfl⟩, trivial⟩
          ·have h := Am c27 h
           refine Ap (Aa Ad rfl (qm rfl (AO rfl (qa rfl (Ac ?_)))))
           exact Av _ h (sm [] _ _ rfl rfl)
         ·have h := Am c24 h
          refine AR ?_
          exact Av _ h (sm [] _ _ rfl rfl)
        ·refine Aj hs (Ab (Aa Ad rfl (qa rfl (Ac ?_))))
         obtain rfl := sj h
         refine Aj (sm [] [(4, .e (.one (.pure (.val (.int .i64 0)))))] [] rfl rfl) (Ax ?_)
         exact ⟨⟨[_], ⟨.tmp _ _ rfl, trivial⟩, rfl⟩, trivial⟩
set_option maxRecDepth 10000 in
theorem Gd (N : Nat) (p0 : Ak) (r : Int) (h : B2 N p0 = some r) : Az Try.prog 5 [.e (.agg [.pure (.sl (p0.fVersions.map Ai)), .pure (.sl (p0.fNow.map Ai)), .pure (.sl (p0.fTarget.map Ai)), .pure (.sl (p0.fTables.map Ar))])] [] (.e (.one (.pure (.val (.int .i64 r))))) := by
 unfold B2 at h
 refine Aq (n := 102) (rs := [.tmp 2]) Try.func5 rfl rfl rfl (AV rfl) (AV rfl) rfl fun w0 S0 => ?_
 refine Ab (Aa Ad rfl (qb rfl (qa rfl (Ac (Ab ?_)))))
 refine AN h (fun v1 => mk [(1, .e (.one (.ptr 1 0))), (16, .e (.one (.pure (.val (.bool v1)))))] [(1, .box [.pure (.sl (p0.fVersions.map Ai)), .pure (.sl (p0.fNow.map Ai)), .pure (.sl (p0.fTarget.map Ai)), .pure (.sl (p0.fTables.map Ar))])]) (fun j1 h => ?_) (fun v1 h => ?_)
 ·refine Aa Ad rfl (qf Ck rfl (ql BS rfl (AM AK rfl (Dd rfl (qm rfl ?_)))))
  refine AA (t := 11) rfl (fun c2 => ?_) (fun c2 => ?_)
  ·have h := An c2 h
   refine qn rfl (qn rfl (qn rfl (qn rfl (qp rfl (Ac ?_)))))
   exact Av _ h (sm [] _ _ rfl rfl)
  ·have h := Am c2 h
   refine qf CI rfl (ql Gp rfl (AM DH rfl (Dd rfl (qp rfl (Ac ?_)))))
   exact Av _ h (sm [] _ _ rfl rfl)
 ·refine Ao rfl (fun c3 => ?_) (fun c3 => ?_)
  ·have h := An c3 h
   refine Ab (Aa Ad rfl (qa rfl (Ac ?_)))
   obtain rfl := sj h
   refine Aj (sm [] [(2, .e (.one (.pure (.val (.int .i64 3)))))] [] rfl rfl) (Ax ?_)
   exact ⟨⟨[_], ⟨.tmp _ _ rfl, trivial⟩, rfl⟩, trivial⟩
  ·have h := Am c3 h
   refine Ap (Ab ?_)
   refine AN h (fun v4 => mk [(1, .e (.one (.ptr 1 0))), (32, .e (.one (.pure (.val (.bool v4)))))] [(1, .box [.pure (.sl (p0.fVersions.map Ai)), .pure (.sl (p0.fNow.map Ai)), .pure (.sl (p0.fTarget.map Ai)), .pure (.sl (p0.fTables.map Ar))])]) (fun j4 h => ?_) (fun v4 h => ?_)
   ·refine Aa Ad rfl (qf F6 rfl (ql BS rfl (AM AK rfl (qf Ck rfl (ql BS rfl (AM AK rfl (Ch rfl (qm rfl ?_))))))))
    refine AA (t := 24) rfl (fun c5 => ?_) (fun c5 => ?_)
    ·have h := An c5 h
     refine qn rfl (qn rfl (qn rfl (qn rfl (qn rfl (qn rfl (qn rfl (qp rfl (Ac ?_))))))))
     exact Av _ h (sm [] _ _ rfl rfl)
    ·have h := Am c5 h
     refine qf HS rfl (ql BS rfl (AM AK rfl (qf Ck rfl (ql BS rfl (AM AK rfl (Ch rfl (qp rfl (Ac ?_))))))))
     exact Av _ h (sm [] _ _ rfl rfl)
   ·refine Ao rfl (fun c6 => ?_) (fun c6 => ?_)
    ·have h := An c6 h
     refine Ab (Aa Ad rfl (qa rfl (Ac ?_)))
     obtain rfl := sj h
     refine Aj (sm [] [(2, .e (.one (.pure (.val (.int .i64 6)))))] [] rfl rfl) (Ax ?_)
     exact ⟨⟨[_], ⟨.tmp _ _ rfl, trivial⟩, rfl⟩, trivial⟩
    ·have h := Am c6 h
     refine Ap (Ab (Ab (Aa Ad rfl (qa rfl (Ac ?_)))))
     refine AF (L := AY N p0) h (fun v7 => mk [(1, .e (.one (.ptr 1 0))), (3, .e (.one (.pure (.val (.int .i64 v7)))))] [(1, .box [.pure (.sl (p0.fVersions.map Ai)), .pure (.sl (p0.fNow.map Ai)), .pure (.sl (p0.fTarget.map Ai)), .pure (.sl (p0.fTables.map Ar))])]) (fun v8 => mk [(1, .e (.one (.ptr 1 0)))] [(1, .box [.pure (.sl (p0.fVersions.map Ai)), .pure (.sl (p0.fNow.map Ai)), .pure (.sl (p0.fTarget.map Ai)), .pure (.sl (p0.fTables.map Ar))])]) (fun _ _ => rfl) (sm [] _ _ rfl rfl) (fun j7 n7 v7 h => ?_) (fun v8 s h hs => ?_)
     ·unfold AY at h
      refine Ab (Ab (Aa Ad rfl (qm rfl (qf Ck rfl (ql BS rfl (AM AK rfl (AS rfl (Ac ?_))))))))
      refine Ao rfl (fun c9 => ?_) (fun c9 => ?_)
      ·have h := An c9 h
       refine Ap (Ab (AI (Ab (Aa Ad rfl (qf Ck rfl (ql BS rfl (qm rfl ?_)))))))
       obtain ⟨v10, a10, b10, h⟩ := Ah h
       refine qi AK Ee a10 (Ag b10) rfl (qk CQ rfl (qa rfl (Ac ?_)))
       refine AN h (fun v11 => mk [(1, .e (.one (.ptr 1 0))), (3, .e (.one (.pure (.val (.int .i64 v7))))), (84, .e (.one (.pure (.val (.bool v11)))))] [(1, .box [.pure (.sl (p0.fVersions.map Ai)), .pure (.sl (p0.fNow.map Ai)), .pure (.sl (p0.fTarget.map Ai)), .pure (.sl (p0.fTables.map Ar))])]) (fun j11 h => ?_) (fun v11 h => ?_)
       ·refine Aa Ad rfl (qm rfl (AS rfl (qm rfl ?_)))
        refine AA (t := 47) rfl (fun c12 => ?_) (fun c12 => ?_)
        ·have h := An c12 h
         refine qn rfl (qn rfl (qp rfl (qm rfl (qn rfl (qn rfl (qn rfl (qn rfl (qn rfl (qn rfl (qp rfl (qm rfl (qn rfl (qn rfl (qn rfl (qn rfl (qn rfl (qn rfl (qn rfl (qp rfl (qm rfl (qn rfl (qn rfl (qn rfl (qn rfl (qn rfl (qn rfl (qp rfl (qm rfl (qn rfl (qn rfl (qn rfl (qn rfl (qn rfl (qn rfl (qn rfl (qp rfl (Ac ?_)))))))))))))))))))))))))))))))))))))
         exact Av _ h (sm [] _ _ rfl rfl)
        ·have h := Am c12 h
         refine qm rfl (Dd rfl (qp rfl (qm rfl ?_)))
         refine AA (t := 51) rfl (fun c13 => ?_) (fun c13 => ?_)
         ·have h := An c13 h
          refine qn rfl (qn rfl (qn rfl (qn rfl (qn rfl (qn rfl (qp rfl (qm rfl (qn rfl (qn rfl (qn rfl (qn rfl (qn rfl (qn rfl (qn rfl (qp rfl (qm rfl (qn rfl (qn rfl (qn rfl (qn rfl (qn rfl (qn rfl (qp rfl (qm rfl (qn rfl (qn rfl (qn rfl (qn rfl (qn rfl (qn rfl (qn rfl (qp rfl (Ac ?_)))))))))))))))))))))))))))))))))
          exact Av _ h (sm [] _ _ rfl rfl)
         ·have h := Am c13 h
          refine qf F6 rfl (ql BS rfl (qm rfl ?_))
          obtain ⟨v14, a14, b14, h⟩ := Ah h
          refine qi AK Ee a14 (Ag b14) rfl (qk CQ rfl (AS rfl (qp rfl (qm rfl ?_))))
          refine AA (t := 59) rfl (fun c15 => ?_) (fun c15 => ?_)
          ·have h := An c15 h
           refine qn rfl (qn rfl (qn rfl (qn rfl (qn rfl (qn rfl (qn rfl (qp rfl (qm rfl (qn rfl (qn rfl (qn rfl (qn rfl (qn rfl (qn rfl (qp rfl (qm rfl (qn rfl (qn rfl (qn rfl (qn rfl (qn rfl (qn rfl (qn rfl (qp rfl (Ac ?_)))))))))))))))))))))))))
           exact Av _ h (sm [] _ _ rfl rfl)
          ·have h := Am c15 h
           refine qf F6 rfl (ql BS rfl (qm rfl ?_))
           obtain ⟨v16, a16, b16, h⟩ := Ah h
           refine qi AK Ee a16 (Ag b16) rfl (qk CQ rfl (qm rfl (Dc rfl (qp rfl (qm rfl ?_)))))
           refine AA (t := 68) rfl (fun c17 => ?_) (fun c17 => ?_)
           ·have h := An c17 h
            refine qn rfl (qn rfl (qn rfl (qn rfl (qn rfl (qn rfl (qp rfl (qm rfl (qn rfl (qn rfl (qn rfl (qn rfl (qn rfl (qn rfl (qn rfl (qp rfl (Ac ?_))))))))))))))))
            exact Av _ h (sm [] _ _ rfl rfl)
           ·have h := Am c17 h
            refine qf HS rfl (ql BS rfl (qm rfl ?_))
            obtain ⟨v18, a18, b18, h⟩ := Ah h
            refine qi AK Ee a18 (Ag b18) rfl (qk CQ rfl (AS rfl (qp rfl (qm rfl ?_))))
            refine AA (t := 76) rfl (fun c19 => ?_) (fun c19 => ?_)
            ·have h := An c19 h
             refine qn rfl (qn rfl (qn rfl (qn rfl (qn rfl (qn rfl (qn rfl (qp rfl (Ac ?_))))))))
             exact Av _ h (sm [] _ _ rfl rfl)
            ·have h := Am c19 h
             refine qf HS rfl (ql BS rfl (qm rfl ?_))
             obtain ⟨v20, a20, b20, h⟩ := Ah h
             refine qi AK Ee a20 (Ag b20) rfl (qk CQ rfl (qm rfl (Dc rfl (qp rfl (Ac ?_)))))
             exact Av _ h (sm [] _ _ rfl rfl)
       ·refine Ao rfl (fun c21 => ?_) (fun c21 => ?_)
        ·have h := An c21 h
         refine Ab (Aa Ad rfl (qa rfl (Ac ?_)))
         obtain rfl := sj h
         refine Aj (sm [] [(2, .e (.one (.pure (.val (.int .i64 7)))))] [] rfl rfl) (Ax ?_)
         exact ⟨⟨[_], ⟨.tmp _ _ rfl, trivial⟩, rfl⟩, trivial⟩
        ·have h := Am c21 h
         refine Ap (Aa Ad rfl (qm rfl (AO rfl (qa rfl (Ac ?_)))))
         exact Av _ h (sm [] _ _ rfl rfl)
      ·have h := Am c9 h
       refine AR ?_
       exact Av _ h (sm [] _ _ rfl rfl)
     ·refine Aj hs (Ab (Ab (Aa Ad rfl (qa rfl (Ac ?_)))))
      refine AF (L := AW N p0) h (fun v22 => mk [(1, .e (.one (.ptr 1 0))), (5, .e (.one (.pure (.val (.int .i64 v22)))))] [(1, .box [.pure (.sl (p0.fVersions.map Ai)), .pure (.sl (p0.fNow.map Ai)), .pure (.sl (p0.fTarget.map Ai)), .pure (.sl (p0.fTables.map Ar))])]) (fun v23 => mk [] []) (fun _ _ => rfl) (sm [] _ _ rfl rfl) (fun j22 n22 v22 h => ?_) (fun v23 s h hs => ?_)
      ·unfold AW at h
       refine Ab (Ab (Aa Ad rfl (qm rfl (qf CI rfl (ql Gp rfl (AM DH rfl (AS rfl (Ac ?_))))))))
       refine Ao rfl (fun c24 => ?_) (fun c24 => ?_)
       ·have h := An c24 h
        refine Ap (Ab (AI (Ab (Aa Ad rfl (qL Do Dh rfl (qf CI rfl (ql Gp rfl (qm rfl ?_))))))))
        obtain ⟨v25, a25, b25, h⟩ := Ah h
        refine qi DH D9 a25 (Ag b25) rfl (qK H0 D9 rfl ?_)
        obtain ⟨v26, a26, h⟩ := bind_some h
        refine AB [] (H2 N p0 v25 v26 a26) Rc rfl (qa rfl (AJ (by kernel_rfl) (Ab (Aa Ad rfl (qm rfl (Ch rfl (Ac ?_)))))))
        refine Ao rfl (fun c27 => ?_) (fun c27 => ?_)
        ·have h := An c27 h
         refine Ab (Aa Ad rfl (qm rfl (qa rfl (Ac ?_))))
         obtain rfl := sj h
         refine Aj (sm [] [(2, .e (.one (.pure (.val (.int .i64 v26)))))] [] rfl rfl) (Ax ?_)
         exact ⟨⟨[_], ⟨.tmp _ _ rfl, trivial⟩, rfl⟩, trivial⟩
        ·have h := Am c27 h
         refine Ap (Aa Ad rfl (qm rfl (AO rfl (qa rfl (Ac ?_)))))
         exact Av _ h (sm [] _ _ rfl rfl)
       ·have h := Am c24 h
        refine AR ?_
        exact Av _ h (sm [] _ _ rfl rfl)
      ·refine Aj hs (Ab (Aa Ad rfl (qa rfl (Ac ?_))))
       obtain rfl := sj h
       refine Aj (sm [] [(2, .e (.one (.pure (.val (.int .i64 0)))))] [] rfl rfl) (Ax ?_)
       exact ⟨⟨[_], ⟨.tmp _ _ rfl, trivial⟩, rfl⟩, trivial⟩
set_option maxRecDepth 10000 in
theorem CK (N : Nat) (p0 : Bool) (r : Ak) (h : BU N p0 = some r) : Az Try.prog 21 [.e (.one (.pure (.val (.bool p0))))] [(1, r.fVersions.map Ai), (1, r.fNow.map Ai), (1, r.fTarget.map Ai), (6, r.fTables.map Ar)] (.e (.agg [.own 0, .own 1, .own 2, .own 3])) := by
 unfold BU at h
 refine Aq (n := 15) (rs := [.cell 2 25]) Try.func21 rfl rfl rfl (AV rfl) (AV rfl) rfl fun w0 S0 => ?_
 refine Ab (Aa Ad rfl (qz P4 rfl (Ac (Ab (Aa Ad rfl (E4 HL PX Q0 rfl (qm rfl (E4 HL PX Q0 rfl (CP (Ba 4 _ _ rfl rfl) (CP (Ba 6 _ _ rfl rfl) (E4 EE Lg Rr rfl (Cy KU Rs rfl (qz KU rfl (qs D9 rfl (Ac (Ab (Aa Ad rfl (E4 AK Ee M5 rfl (E4 AK Ee M5 rfl (E4 AK Ee M5 rfl (qL H0 D9 rfl (CP (Ba 7 _ _ rfl rfl) (E4 DH D9 KU rfl (Cy P4 Rb rfl (qs Dh rfl (Ac ?_))))))))))))))))))))))))))
 obtain rfl := sj h
 refine Aj (sm [(1000, 9), (1001, 10), (1002, 11), (1003, 13)] [(2, .e (.one (.ptr 2 0)))] [(2, .box [.own 1000, .own 1001, .own 1002, .own 1003]), (1000, .vec 1 ((([2] : List Int)).map Ai)), (1001, .vec 1 ((([0] : List Int)).map Ai)), (1002, .vec 1 ((([1] : List Int)).map Ai)), (1003, .vec 6 ((([(AQ.mk 1 0 0 false (([([true, true] : List Bool), ([p0, true] : List Bool)] : List (List Bool))) (([] : List (List Bool))))] : List AQ)).map Ar))] rfl rfl) (Ax ?_)
 exact ⟨⟨[_], ⟨.cellN _ _ _ _ _ _ _ rfl rfl Do Dh rfl rfl (JB rfl), trivial⟩, rfl⟩, ⟨rfl, rfl, rfl, rfl, trivial⟩⟩
set_option maxRecDepth 10000 in
theorem Fl (N : Nat) (p0 : Int) (p1 : Int) (r : Bool) (h : CD N p0 p1 = some r) : Az Try.prog 53 [.e (.one (.pure (.val (.int .i64 p0)))), .e (.one (.pure (.val (.int .i64 p1))))] [] (.e (.one (.pure (.val (.bool r))))) := by
 unfold CD at h
 refine Aq (n := 12) (rs := [.tmp 4]) Try.func53 rfl rfl rfl (AV rfl) (AV rfl) rfl fun w0 S0 => ?_
 refine Ab (Aa Ad rfl (qa rfl (Ac ?_)))
 refine AN h (fun v1 => mk [(4, .e (.one (.pure (.val (.bool v1)))))] []) (fun j1 h => ?_) (fun v1 h => ?_)
 ·refine Aa Ad rfl (qm rfl (Dc rfl (qm rfl ?_)))
  refine AA (t := 7) rfl (fun c2 => ?_) (fun c2 => ?_)
  ·have h := An c2 h
   refine qm rfl (qm rfl (AS rfl (qp rfl (qa rfl (Ac ?_)))))
   exact Av _ h (sm [] _ _ rfl rfl)
  ·have h := Am c2 h
   refine qn rfl (qn rfl (qn rfl (qp rfl (qa rfl (Ac ?_)))))
   exact Av _ h (sm [] _ _ rfl rfl)
 ·obtain rfl := sj h
  refine Aj (sm [] [(4, .e (.one (.pure (.val (.bool v1)))))] [] rfl rfl) (Ax ?_)
  exact ⟨⟨[_], ⟨.tmp _ _ rfl, trivial⟩, rfl⟩, trivial⟩
set_option maxRecDepth 10000 in
theorem K2 (N : Nat) (p0 : Int) (p1 : Bool) (r : Bool) (h : EN N p0 p1 = some r) : Az Try.prog 79 [.e (.one (.pure (.val (.int .i64 p0)))), .e (.one (.pure (.val (.bool p1))))] [] (.e (.one (.pure (.val (.bool r))))) := by
 unfold EN at h
 refine Aq (n := 23) (rs := [.tmp 4]) Try.func79 rfl rfl rfl (AV rfl) (AV rfl) rfl fun w0 S0 => ?_
 refine Ab (Aa Ad rfl (qa rfl (Ac ?_)))
 refine AN h (fun v1 => mk [(4, .e (.one (.pure (.val (.bool v1)))))] []) (fun j1 h => ?_) (fun v1 h => ?_)
 ·refine Aa Ad rfl (qm rfl (BR rfl (qm rfl ?_)))
  refine AA (t := 7) rfl (fun c2 => ?_) (fun c2 => ?_)
  ·have h := An c2 h
   refine qn rfl (qn rfl (qp rfl (qm rfl (qn rfl (qn rfl (qn rfl (qu rfl (qu rfl (qn rfl (qn rfl (qu rfl (qu rfl (qn rfl (qp rfl (qa rfl (Ac ?_))))))))))))))))
   exact Av _ h (sm [] _ _ rfl rfl)
  ·have h := Am c2 h
   refine qm rfl (BR rfl (qp rfl (qm rfl ?_)))
   refine AA (t := 11) rfl (fun c3 => ?_) (fun c3 => ?_)
   ·have h := An c3 h
    refine qn rfl (qn rfl (qn rfl (qu rfl (qu rfl (qn rfl (qn rfl (qu rfl (qu rfl (qn rfl (qp rfl (qa rfl (Ac ?_))))))))))))
    exact Av _ h (sm [] _ _ rfl rfl)
   ·have h := Am c3 h
    refine qm rfl (BR rfl (qm rfl ?_))
    refine AA (t := 14) rfl (fun c4 => ?_) (fun c4 => ?_)
    ·have h := An c4 h
     refine qn rfl (qn rfl (qp rfl (qm rfl (qm rfl (Cg rfl (qp rfl (qp rfl (qa rfl (Ac ?_)))))))))
     exact Av _ h (sm [] _ _ rfl rfl)
    ·have h := Am c4 h
     refine qm rfl (BR rfl (qp rfl (qm rfl ?_)))
     refine AA (t := 18) rfl (fun c5 => ?_) (fun c5 => ?_)
     ·have h := An c5 h
      refine qm rfl (Cg rfl (qp rfl (qp rfl (qa rfl (Ac ?_)))))
      exact Av _ h (sm [] _ _ rfl rfl)
     ·have h := Am c5 h
      refine qn rfl (qn rfl (qp rfl (qp rfl (qa rfl (Ac ?_)))))
      exact Av _ h (sm [] _ _ rfl rfl)
 ·obtain rfl := sj h
  refine Aj (sm [] [(4, .e (.one (.pure (.val (.bool v1)))))] [] rfl rfl) (Ax ?_)
  exact ⟨⟨[_], ⟨.tmp _ _ rfl, trivial⟩, rfl⟩, trivial⟩
set_option maxRecDepth 10000 in
theorem I1 (N : Nat) (p0 : List Bool) (p1 : Int) (r : Bool) (h : CA N p0 p1 = some r) : Az Try.prog 95 [.e (.one (.pure (.sl (p0.map eB)))), .e (.one (.rop [.val (.int .i64 p1)]))] [] (.e (.one (.pure (.val (.bool r))))) := by
 unfold CA at h
 refine Aq (n := 8) (rs := [.tmp 3]) Try.func95 rfl rfl rfl (AV rfl) (AV rfl) rfl fun w0 S0 => ?_
 refine Ab (Aa Ad rfl (qa rfl (Ac (Ab (Aa Ad rfl (qm rfl (AM HL rfl (qk CQ rfl (Ch rfl (qa rfl (Ac ?_)))))))))))
 obtain rfl := sj h
 refine Aj (sm [] [(3, .e (.one (.pure (.val (.bool (((p0.length : Int) != p1)))))))] [] rfl rfl) (Ax ?_)
 exact ⟨⟨[_], ⟨.tmp _ _ rfl, trivial⟩, rfl⟩, trivial⟩
set_option maxRecDepth 10000 in
theorem F0 (N : Nat) (p0 : List (List Bool)) (p1 : (List Bool) → Option Bool) (r : Int) (h : Cj N p0 p1 = some r) : Az Try.prog 102 [.e (.one (.pure (.sl (p0.map (EM eB))))), .e (.one (.clo (Bp (LB false (EM eB)) tB p1)))] [] (.e (.one (.pure (.val (.int .i64 r))))) := by
 unfold Cj at h
 refine Aq (n := 19) (rs := [.tmp 4]) Try.func102 rfl rfl rfl (AV rfl) (AV rfl) rfl fun w0 S0 => ?_
 refine Ab (Aa Ad rfl (qa rfl (Ac (Ab (Ab (Aa Ad rfl (qm rfl (AM EE rfl (qm rfl (Ac ?_))))))))))
 refine AF (L := A2 N p0 p1) h (fun v1 => mk [(0, .e (.one (.pure (.sl (p0.map (EM eB)))))), (1, .e (.one (.clo (Bp (LB false (EM eB)) tB p1)))), (7, .e (.one (.pure (.val (.int .i64 ((p0.length : Int))))))), (8, .e (.one (.pure (.val (.int .i64 v1)))))] []) (fun v2 => mk [] []) (fun _ _ => rfl) (sm [] _ _ rfl rfl) (fun j1 n1 v1 h => ?_) (fun v2 s h hs => ?_)
 ·unfold A2 at h
  refine Ab (Aa Ad rfl (AS rfl (Ac (Ab ?_))))
  refine Ao rfl (fun c3 => ?_) (fun c3 => ?_)
  ·have h := An c3 h
   refine Ap (Ab (AI (Ab (Aa Ad rfl (qm rfl (qa rfl (Ac (Ab (Aa Ad rfl (qm rfl (qm rfl (qm rfl ?_))))))))))))
   obtain ⟨v4, a4, b4, h⟩ := Ah h
   refine qi EE Lg a4 (Ag b4) rfl (qk Lm rfl ?_)
   obtain ⟨v5, a5, h⟩ := bind_some h
   refine C9 (ds0 := [_]) (ar := (LB false (EM eB)) v4) (.p rfl) rfl rfl ⟨rfl, trivial⟩ rfl rfl rfl (C6 (K9 _ _ (PZ RE)) a5) ?_
   refine Ac ?_
   refine Ao rfl (fun c6 => ?_) (fun c6 => ?_)
   ·have h := An c6 h
    refine Ab (Aa Ad rfl (qm rfl (qa rfl (Ac ?_))))
    obtain rfl := sj h
    refine Aj (sm [] [(4, .e (.one (.pure (.val (.int .i64 v1)))))] [] rfl rfl) (Ax ?_)
    exact ⟨⟨[_], ⟨.tmp _ _ rfl, trivial⟩, rfl⟩, trivial⟩
   ·have h := Am c6 h
    refine Ap (Aa Ad rfl (AO rfl (qm rfl (Ac ?_))))
    exact Av _ h (sm [] _ _ rfl rfl)
  ·have h := Am c3 h
   refine AR ?_
   exact Av _ h (sm [] _ _ rfl rfl)
 ·refine Aj hs (Ab (Aa Ad rfl (qa rfl (Ac ?_))))
  obtain rfl := sj h
  refine Aj (sm [] [(4, .e (.one (.pure (.val (.int .i64 ((-1)))))))] [] rfl rfl) (Ax ?_)
  exact ⟨⟨[_], ⟨.tmp _ _ rfl, trivial⟩, rfl⟩, trivial⟩
set_option maxRecDepth 10000 in
theorem FB (N : Nat) (p0 : List (List Bool)) (p1 : (List Bool) → Option Bool) (r : Bool) (h : B1 N p0 p1 = some r) : Az Try.prog 94 [.e (.one (.pure (.sl (p0.map (EM eB))))), .e (.one (.clo (Bp (LB false (EM eB)) tB p1)))] [] (.e (.one (.pure (.val (.bool r))))) := by
 unfold B1 at h
 refine Aq (n := 9) (rs := [.tmp 4]) Try.func94 rfl rfl rfl (AV rfl) (AV rfl) rfl fun w0 S0 => ?_
 refine Ab (Aa Ad rfl (qa rfl (Ac (Ab (Aa Ad rfl (qm rfl (qm rfl ?_)))))))
 obtain ⟨v1, a1, h⟩ := bind_some h
 refine AB [] (F0 N p0 p1 v1 a1) P2 rfl (Dc rfl (qa rfl (Ac ?_)))
 obtain rfl := sj h
 refine Aj (sm [] [(4, .e (.one (.pure (.val (.bool ((decide (0 ≤ v1))))))))] [] rfl rfl) (Ax ?_)
 exact ⟨⟨[_], ⟨.tmp _ _ rfl, trivial⟩, rfl⟩, trivial⟩
set_option maxRecDepth 10000 in
theorem Hx (N : Nat) (p0 : List (List Bool)) (p1 : Int) (p2 : Int) (r : Bool) (h : Dv N p0 p1 p2 = some r) : Az Try.prog 80 [.e (.one (.pure (.sl (p0.map (EM eB))))), .e (.one (.pure (.val (.int .i64 p1)))), .e (.one (.pure (.val (.int .i64 p2))))] [] (.e (.one (.pure (.val (.bool r))))) := by
 unfold Dv at h
 refine Aq (n := 17) (rs := [.tmp 6]) Try.func80 rfl rfl rfl (AV rfl) (AV rfl) rfl fun w0 S0 => ?_
 refine Ab (Aa Ad rfl (qb rfl (qa rfl (Ac ?_))))
 refine AN h (fun v1 => mk [(6, .e (.one (.pure (.val (.bool v1)))))] []) (fun j1 h => ?_) (fun v1 h => ?_)
 ·refine Aa Ad rfl (qm rfl (AM EE rfl (qm rfl (BR rfl (qm rfl ?_)))))
  refine AA (t := 11) rfl (fun c2 => ?_) (fun c2 => ?_)
  ·have h := An c2 h
   refine qm rfl (CP (Kk 5 [.val (.int .i64 p2)] rfl rfl) ?_)
   refine J9 (capD := [_]) (Bp (LB false (EM eB)) tB ((fun (x : List Bool) => CA N x p2))) (.g rfl rfl) RJ rfl ⟨rfl, trivial⟩ rfl (fun ar t ht => by obtain ⟨x, r, rfl, hq, rfl⟩ := GH ht; exact I1 N x p2 r hq) ?_
   obtain ⟨v3, a3, h⟩ := bind_some h
   refine AB [] (FB N p0 ((fun (x : List Bool) => CA N x p2)) v3 a3) Q1 rfl (Cg rfl (qp rfl (qa rfl (Ac ?_))))
   exact Av _ h (sm [] _ _ rfl rfl)
  ·have h := Am c2 h
   refine qn rfl (qn rfl (qn rfl (qn rfl (qp rfl (qa rfl (Ac ?_))))))
   exact Av _ h (sm [] _ _ rfl rfl)
 ·obtain rfl := sj h
  refine Aj (sm [] [(6, .e (.one (.pure (.val (.bool v1)))))] [] rfl rfl) (Ax ?_)
  exact ⟨⟨[_], ⟨.tmp _ _ rfl, trivial⟩, rfl⟩, trivial⟩
set_option maxRecDepth 10000 in
theorem Ks (N : Nat) (p0 : Ak) (p1 : AQ) (r : Int) (h : Ek N p0 p1 = some r) : Az Try.prog 54 [.e (.agg [.pure (.sl (p0.fVersions.map Ai)), .pure (.sl (p0.fNow.map Ai)), .pure (.sl (p0.fTarget.map Ai)), .pure (.sl (p0.fTables.map Ar))]), .e (.agg [.pure (.val (.int .i64 p1.fKind)), .pure (.val (.int .i64 p1.fFrom)), .pure (.val (.int .i64 p1.fTo)), .pure (.val (.bool p1.fAware)), .pure (.sl (p1.fOK.map (EM eB))), .pure (.sl (p1.fRewrite.map (EM eB)))])] [] (.e (.one (.pure (.val (.int .i64 r))))) := by
 unfold Ek at h
 refine Aq (n := 87) (rs := [.tmp 4]) Try.func54 rfl rfl rfl (AV rfl) (AV rfl) rfl fun w0 S0 => ?_
 refine Ab (Aa Ad rfl (qb rfl (qb rfl (qa rfl (Ac (Ab (Ab (Aa Ad rfl (qf EY rfl (ql CQ rfl (qf JD rfl (ql O5 rfl ?_))))))))))))
 obtain ⟨v1, a1, h⟩ := bind_some h
 refine AB [] (K2 N p1.fKind p1.fAware v1 a1) RG rfl (Cg rfl (Ac ?_))
 refine Ao rfl (fun c2 => ?_) (fun c2 => ?_)
 ·have h := An c2 h
  refine Ab (Aa Ad rfl (qa rfl (Ac ?_)))
  obtain rfl := sj h
  refine Aj (sm [] [(4, .e (.one (.pure (.val (.int .i64 1)))))] [] rfl rfl) (Ax ?_)
  exact ⟨⟨[_], ⟨.tmp _ _ rfl, trivial⟩, rfl⟩, trivial⟩
 ·have h := Am c2 h
  refine Ap (Ab ?_)
  refine AN h (fun v3 => mk [(2, .e (.one (.ptr 2 0))), (3, .e (.one (.ptr 3 0))), (29, .e (.one (.pure (.val (.bool v3)))))] [(2, .box [.pure (.sl (p0.fVersions.map Ai)), .pure (.sl (p0.fNow.map Ai)), .pure (.sl (p0.fTarget.map Ai)), .pure (.sl (p0.fTables.map Ar))]), (3, .box [.pure (.val (.int .i64 p1.fKind)), .pure (.val (.int .i64 p1.fFrom)), .pure (.val (.int .i64 p1.fTo)), .pure (.val (.bool p1.fAware)), .pure (.sl (p1.fOK.map (EM eB))), .pure (.sl (p1.fRewrite.map (EM eB)))])]) (fun j3 h => ?_) (fun v3 h => ?_)
  ·refine Aa Ad rfl (qf Eg rfl (ql CQ rfl (qf Ck rfl (ql BS rfl (AM AK rfl ?_)))))
   obtain ⟨v4, a4, h⟩ := bind_some h
   refine AB [] (Fl N p1.fFrom ((p0.fVersions.length : Int)) v4 a4) N9 rfl (Cg rfl (qm rfl ?_))
   refine AA (t := 21) rfl (fun c5 => ?_) (fun c5 => ?_)
   ·have h := An c5 h
    refine qn rfl (qn rfl (qn rfl (qn rfl (qn rfl (qn rfl (qn rfl (qp rfl (Ac ?_))))))))
    exact Av _ h (sm [] _ _ rfl rfl)
   ·have h := Am c5 h
    refine qf HU rfl (ql CQ rfl (qf Ck rfl (ql BS rfl (AM AK rfl ?_))))
    obtain ⟨v6, a6, h⟩ := bind_some h
    refine AB [] (Fl N p1.fTo ((p0.fVersions.length : Int)) v6 a6) N9 rfl (Cg rfl (qp rfl (Ac ?_)))
    exact Av _ h (sm [] _ _ rfl rfl)
  ·refine Ao rfl (fun c7 => ?_) (fun c7 => ?_)
   ·have h := An c7 h
    refine Ab (Aa Ad rfl (qa rfl (Ac ?_)))
    obtain rfl := sj h
    refine Aj (sm [] [(4, .e (.one (.pure (.val (.int .i64 4)))))] [] rfl rfl) (Ax ?_)
    exact ⟨⟨[_], ⟨.tmp _ _ rfl, trivial⟩, rfl⟩, trivial⟩
   ·have h := Am c7 h
    refine Ap (Ab (Aa Ad rfl (qf Ck rfl (ql BS rfl (qf Eg rfl (ql CQ rfl ?_))))))
    obtain ⟨v8, a8, b8, h⟩ := Ah h
    refine qi AK Ee a8 (Ag b8) rfl (qk CQ rfl (qa rfl (Ac (Ab (Aa Ad rfl (qf EY rfl (ql CQ rfl (BR rfl (qa rfl (Ac (Ab ?_)))))))))))
    refine AN h (fun v9 => mk [(3, .e (.one (.ptr 3 0))), (70, .e (.one (.pure (.val (.bool v9)))))] [(3, .box [.pure (.val (.int .i64 p1.fKind)), .pure (.val (.int .i64 p1.fFrom)), .pure (.val (.int .i64 p1.fTo)), .pure (.val (.bool p1.fAware)), .pure (.sl (p1.fOK.map (EM eB))), .pure (.sl (p1.fRewrite.map (EM eB)))])]) (fun j9 h => ?_) (fun v9 h => ?_)
    ·refine Aa Ad rfl (qf Hd rfl (ql GR rfl (qm rfl (qf Ck rfl (ql BS rfl (qf HU rfl (ql CQ rfl ?_)))))))
     obtain ⟨v10, a10, b10, h⟩ := Ah h
     refine qi AK Ee a10 (Ag b10) rfl (qk CQ rfl ?_)
     obtain ⟨v11, a11, h⟩ := bind_some h
     refine AB [] (Hx N p1.fOK v8 v10 v11 a11) QB rfl (Cg rfl (qm rfl ?_))
     refine AA (t := 50) rfl (fun c12 => ?_) (fun c12 => ?_)
     ·have h := An c12 h
      refine qn rfl (qn rfl (qu rfl (qu rfl (qu rfl (qu rfl (qu rfl (qu rfl (qn rfl (qp rfl (qm rfl (qn rfl (qn rfl (qn rfl (qu rfl (qu rfl (qu rfl (qu rfl (qn rfl (qp rfl (AJ (by kernel_rfl) ?_))))))))))))))))))))
      exact Av _ h (sm [] _ _ rfl rfl)
     ·have h := Am c12 h
      refine qm rfl (qm rfl ?_)
      refine AA (t := 52) rfl (fun c13 => ?_) (fun c13 => ?_)
      ·have h := An c13 h
       refine qf Ez rfl (ql GR rfl (qm rfl (qm rfl ?_)))
       obtain ⟨v14, a14, h⟩ := bind_some h
       refine AB [] (Hx N p1.fRewrite v8 v8 v14 a14) QB rfl (Cg rfl (qp rfl (qp rfl (qm rfl ?_))))
       refine AA (t := 61) rfl (fun c15 => ?_) (fun c15 => ?_)
       ·have h := An c15 h
        refine qn rfl (qn rfl (qn rfl (qu rfl (qu rfl (qu rfl (qu rfl (qn rfl (qp rfl (AJ (by kernel_rfl) ?_)))))))))
        exact Av _ h (sm [] _ _ rfl rfl)
       ·have h := Am c15 h
        refine qm rfl (Cg rfl (qm rfl ?_))
        refine AA (t := 64) rfl (fun c16 => ?_) (fun c16 => ?_)
        ·have h := An c16 h
         refine qf Ez rfl (ql GR rfl (AM EE rfl (Dd rfl (qp rfl (qp rfl (AJ (by kernel_rfl) ?_))))))
         exact Av _ h (sm [] _ _ rfl rfl)
        ·have h := Am c16 h
         refine qn rfl (qn rfl (qn rfl (qn rfl (qp rfl (qp rfl (AJ (by kernel_rfl) ?_))))))
         exact Av _ h (sm [] _ _ rfl rfl)
      ·have h := Am c13 h
       refine qn rfl (qn rfl (qn rfl (qn rfl (qn rfl (qn rfl (qp rfl (qp rfl (qm rfl (qm rfl (Cg rfl (qm rfl ?_)))))))))))
       refine AA (t := 64) rfl (fun c17 => ?_) (fun c17 => ?_)
       ·have h := An c17 h
        refine qf Ez rfl (ql GR rfl (AM EE rfl (Dd rfl (qp rfl (qp rfl (AJ (by kernel_rfl) ?_))))))
        exact Av _ h (sm [] _ _ rfl rfl)
       ·have h := Am c17 h
        refine qn rfl (qn rfl (qn rfl (qn rfl (qp rfl (qp rfl (AJ (by kernel_rfl) ?_))))))
        exact Av _ h (sm [] _ _ rfl rfl)
    ·refine Ao rfl (fun c18 => ?_) (fun c18 => ?_)
     ·have h := An c18 h
      refine Ab (Aa Ad rfl (qa rfl (Ac ?_)))
      obtain rfl := sj h
      refine Aj (sm [] [(4, .e (.one (.pure (.val (.int .i64 6)))))] [] rfl rfl) (Ax ?_)
      exact ⟨⟨[_], ⟨.tmp _ _ rfl, trivial⟩, rfl⟩, trivial⟩
     ·have h := Am c18 h
      refine Ap (Ab (Ab (Aa Ad rfl (qf Ez rfl (ql GR rfl (AM EE rfl (qm rfl (Ac ?_))))))))
      refine AF (L := B7 N p1) h (fun v19 => mk [(3, .e (.one (.ptr 3 0))), (73, .e (.one (.pure (.val (.int .i64 ((p1.fRewrite.length : Int))))))), (74, .e (.one (.pure (.val (.int .i64 v19)))))] [(3, .box [.pure (.val (.int .i64 p1.fKind)), .pure (.val (.int .i64 p1.fFrom)), .pure (.val (.int .i64 p1.fTo)), .pure (.val (.bool p1.fAware)), .pure (.sl (p1.fOK.map (EM eB))), .pure (.sl (p1.fRewrite.map (EM eB)))])]) (fun v20 => mk [] []) (fun _ _ => rfl) (sm [] _ _ rfl rfl) (fun j19 n19 v19 h => ?_) (fun v20 s h hs => ?_)
      ·unfold B7 at h
       refine Ab (Aa Ad rfl (AS rfl (Ac (Ab ?_))))
       refine Ao rfl (fun c21 => ?_) (fun c21 => ?_)
       ·have h := An c21 h
        refine Ap (Ab (AI (Ab (Aa Ad rfl (qm rfl (qa rfl (Ac (Ab (Aa Ad rfl (qf Ez rfl (ql GR rfl (qm rfl ?_))))))))))))
        obtain ⟨v22, a22, b22, h⟩ := Ah h
        refine qi EE Lg a22 (Ag b22) rfl (qk Lm rfl (qm rfl ?_))
        obtain ⟨v23, a23, b23, h⟩ := Ah h
        refine qi HL PX a23 (Ag b23) rfl (qk O5 rfl (Cg rfl (Ac ?_)))
        refine Ao rfl (fun c24 => ?_) (fun c24 => ?_)
        ·have h := An c24 h
         refine Ab (Aa Ad rfl (qa rfl (Ac ?_)))
         obtain rfl := sj h
         refine Aj (sm [] [(4, .e (.one (.pure (.val (.int .i64 1)))))] [] rfl rfl) (Ax ?_)
         exact ⟨⟨[_], ⟨.tmp _ _ rfl, trivial⟩, rfl⟩, trivial⟩
        ·have h := Am c24 h
         refine Ap (Aa Ad rfl (AO rfl (qm rfl (Ac ?_))))
         exact Av _ h (sm [] _ _ rfl rfl)
       ·have h := Am c21 h
        refine AR ?_
        exact Av _ h (sm [] _ _ rfl rfl)
      ·refine Aj hs (Ab (Aa Ad rfl (qa rfl (Ac ?_))))
       obtain rfl := sj h
       refine Aj (sm [] [(4, .e (.one (.pure (.val (.int .i64 0)))))] [] rfl rfl) (Ax ?_)
       exact ⟨⟨[_], ⟨.tmp _ _ rfl, trivial⟩, rfl⟩, trivial⟩
set_option maxRecDepth 10000 in
theorem Eh (N : Nat) (p0 : Ak) (r : Int) (h : B0 N p0 = some r) : Az Try.prog 32 [.e (.agg [.pure (.sl (p0.fVersions.map Ai)), .pure (.sl (p0.fNow.map Ai)), .pure (.sl (p0.fTarget.map Ai)), .pure (.sl (p0.fTables.map Ar))])] [] (.e (.one (.pure (.val (.int .i64 r))))) := by
 unfold B0 at h
 refine Aq (n := 81) (rs := [.tmp 2]) Try.func32 rfl rfl rfl (AV rfl) (AV rfl) rfl fun w0 S0 => ?_
 refine Ab (Aa Ad rfl (qb rfl (qa rfl (Ac (Ab (Aa Ad rfl (qf Ck rfl (ql BS rfl (AM AK rfl (qa rfl (Ac (Ab ?_))))))))))))
 refine AN h (fun v1 => mk [(1, .e (.one (.ptr 1 0))), (3, .e (.one (.pure (.val (.int .i64 ((p0.fVersions.length : Int))))))), (19, .e (.one (.pure (.val (.bool v1)))))] [(1, .box [.pure (.sl (p0.fVersions.map Ai)), .pure (.sl (p0.fNow.map Ai)), .pure (.sl (p0.fTarget.map Ai)), .pure (.sl (p0.fTables.map Ar))])]) (fun j1 h => ?_) (fun v1 h => ?_)
 ·refine Aa Ad rfl (qm rfl (Dd rfl (qm rfl ?_)))
  refine AA (t := 14) rfl (fun c2 => ?_) (fun c2 => ?_)
  ·have h := An c2 h
   refine qn rfl (qn rfl (qn rfl (qn rfl (qp rfl (Ac ?_)))))
   exact Av _ h (sm [] _ _ rfl rfl)
  ·have h := Am c2 h
   refine qf CI rfl (ql Gp rfl (AM DH rfl (Dd rfl (qp rfl (Ac ?_)))))
   exact Av _ h (sm [] _ _ rfl rfl)
 ·refine Ao rfl (fun c3 => ?_) (fun c3 => ?_)
  ·have h := An c3 h
   refine Ab (Aa Ad rfl (qa rfl (Ac ?_)))
   obtain rfl := sj h
   refine Aj (sm [] [(2, .e (.one (.pure (.val (.int .i64 3)))))] [] rfl rfl) (Ax ?_)
   exact ⟨⟨[_], ⟨.tmp _ _ rfl, trivial⟩, rfl⟩, trivial⟩
  ·have h := Am c3 h
   refine Ap (Ab ?_)
   refine AN h (fun v4 => mk [(1, .e (.one (.ptr 1 0))), (31, .e (.one (.pure (.val (.bool v4)))))] [(1, .box [.pure (.sl (p0.fVersions.map Ai)), .pure (.sl (p0.fNow.map Ai)), .pure (.sl (p0.fTarget.map Ai)), .pure (.sl (p0.fTables.map Ar))])]) (fun j4 h => ?_) (fun v4 h => ?_)
   ·refine Aa Ad rfl (qf F6 rfl (ql BS rfl (AM AK rfl (qm rfl (Ch rfl (qm rfl ?_))))))
    refine AA (t := 25) rfl (fun c5 => ?_) (fun c5 => ?_)
    ·have h := An c5 h
     refine qn rfl (qn rfl (qn rfl (qn rfl (qn rfl (qp rfl (Ac ?_))))))
     exact Av _ h (sm [] _ _ rfl rfl)
    ·have h := Am c5 h
     refine qf HS rfl (ql BS rfl (AM AK rfl (qm rfl (Ch rfl (qp rfl (Ac ?_))))))
     exact Av _ h (sm [] _ _ rfl rfl)
   ·refine Ao rfl (fun c6 => ?_) (fun c6 => ?_)
    ·have h := An c6 h
     refine Ab (Aa Ad rfl (qa rfl (Ac ?_)))
     obtain rfl := sj h
     refine Aj (sm [] [(2, .e (.one (.pure (.val (.int .i64 6)))))] [] rfl rfl) (Ax ?_)
     exact ⟨⟨[_], ⟨.tmp _ _ rfl, trivial⟩, rfl⟩, trivial⟩
    ·have h := Am c6 h
     refine Ap (Ab (Ab (Aa Ad rfl (qf Ck rfl (ql BS rfl (AM AK rfl (qm rfl (Ac ?_))))))))
     refine AF (L := Bo N p0) h (fun v7 => mk [(1, .e (.one (.ptr 1 0))), (33, .e (.one (.pure (.sl (p0.fVersions.map Ai))))), (34, .e (.one (.pure (.val (.int .i64 ((p0.fVersions.length : Int))))))), (35, .e (.one (.pure (.val (.int .i64 v7)))))] [(1, .box [.pure (.sl (p0.fVersions.map Ai)), .pure (.sl (p0.fNow.map Ai)), .pure (.sl (p0.fTarget.map Ai)), .pure (.sl (p0.fTables.map Ar))])]) (fun v8 => mk [(1, .e (.one (.ptr 1 0)))] [(1, .box [.pure (.sl (p0.fVersions.map Ai)), .pure (.sl (p0.fNow.map Ai)), .pure (.sl (p0.fTarget.map Ai)), .pure (.sl (p0.fTables.map Ar))])]) (fun _ _ => rfl) (sm [] _ _ rfl rfl) (fun j7 n7 v7 h => ?_) (fun v8 s h hs => ?_)
     ·unfold Bo at h
      refine Ab (Aa Ad rfl (AS rfl (Ac (Ab ?_))))
      refine Ao rfl (fun c9 => ?_) (fun c9 => ?_)
      ·have h := An c9 h
       refine Ap (Ab (AI (Ab (Aa Ad rfl (qm rfl ?_)))))
       obtain ⟨v10, a10, b10, h⟩ := Ah h
       refine qi AK Ee a10 (Ag b10) rfl (qk CQ rfl (qa rfl (qa rfl (Ac ?_))))
       refine AN h (fun v11 => mk [(1, .e (.one (.ptr 1 0))), (33, .e (.one (.pure (.sl (p0.fVersions.map Ai))))), (34, .e (.one (.pure (.val (.int .i64 ((p0.fVersions.length : Int))))))), (35, .e (.one (.pure (.val (.int .i64 v7))))), (65, .e (.one (.pure (.val (.bool v11)))))] [(1, .box [.pure (.sl (p0.fVersions.map Ai)), .pure (.sl (p0.fNow.map Ai)), .pure (.sl (p0.fTarget.map Ai)), .pure (.sl (p0.fTables.map Ar))])]) (fun j11 h => ?_) (fun v11 h => ?_)
       ·refine Aa Ad rfl (qm rfl (AS rfl (qm rfl ?_)))
        refine AA (t := 42) rfl (fun c12 => ?_) (fun c12 => ?_)
        ·have h := An c12 h
         refine qn rfl (qn rfl (qp rfl (qm rfl (qn rfl (qn rfl (qn rfl (qn rfl (qn rfl (qn rfl (qn rfl (qn rfl (qp rfl (qm rfl (qn rfl (qn rfl (qn rfl (qn rfl (qn rfl (qn rfl (qn rfl (qn rfl (qp rfl (Ac ?_)))))))))))))))))))))))
         exact Av _ h (sm [] _ _ rfl rfl)
        ·have h := Am c12 h
         refine qm rfl (Dd rfl (qp rfl (qm rfl ?_)))
         refine AA (t := 46) rfl (fun c13 => ?_) (fun c13 => ?_)
         ·have h := An c13 h
          refine qn rfl (qn rfl (qn rfl (qn rfl (qn rfl (qn rfl (qn rfl (qn rfl (qp rfl (qm rfl (qn rfl (qn rfl (qn rfl (qn rfl (qn rfl (qn rfl (qn rfl (qn rfl (qp rfl (Ac ?_)))))))))))))))))))
          exact Av _ h (sm [] _ _ rfl rfl)
         ·have h := Am c13 h
          refine qf F6 rfl (ql BS rfl (qm rfl ?_))
          obtain ⟨v14, a14, b14, h⟩ := Ah h
          refine qi AK Ee a14 (Ag b14) rfl (qk CQ rfl (qm rfl ?_))
          obtain ⟨v15, a15, h⟩ := bind_some h
          refine AB [] (Fl N v14 v10 v15 a15) N9 rfl (Cg rfl (qp rfl (qm rfl ?_)))
          refine AA (t := 56) rfl (fun c16 => ?_) (fun c16 => ?_)
          ·have h := An c16 h
           refine qn rfl (qn rfl (qn rfl (qn rfl (qn rfl (qn rfl (qn rfl (qn rfl (qp rfl (Ac ?_)))))))))
           exact Av _ h (sm [] _ _ rfl rfl)
          ·have h := Am c16 h
           refine qf HS rfl (ql BS rfl (qm rfl ?_))
           obtain ⟨v17, a17, b17, h⟩ := Ah h
           refine qi AK Ee a17 (Ag b17) rfl (qk CQ rfl (qm rfl ?_))
           obtain ⟨v18, a18, h⟩ := bind_some h
           refine AB [] (Fl N v17 v10 v18 a18) N9 rfl (Cg rfl (qp rfl (Ac ?_)))
           exact Av _ h (sm [] _ _ rfl rfl)
       ·refine Ao rfl (fun c19 => ?_) (fun c19 => ?_)
        ·have h := An c19 h
         refine Ab (Aa Ad rfl (qa rfl (Ac ?_)))
         obtain rfl := sj h
         refine Aj (sm [] [(2, .e (.one (.pure (.val (.int .i64 7)))))] [] rfl rfl) (Ax ?_)
         exact ⟨⟨[_], ⟨.tmp _ _ rfl, trivial⟩, rfl⟩, trivial⟩
        ·have h := Am c19 h
         refine Ap (Aa Ad rfl (AO rfl (qm rfl (Ac ?_))))
         exact Av _ h (sm [] _ _ rfl rfl)
      ·have h := Am c9 h
       refine AR ?_
       exact Av _ h (sm [] _ _ rfl rfl)
     ·refine Aj hs (Ab (Ab (Aa Ad rfl (qf CI rfl (ql Gp rfl (AM DH rfl (qm rfl (Ac ?_))))))))
      refine AF (L := Bh N p0) h (fun v20 => mk [(1, .e (.one (.ptr 1 0))), (68, .e (.one (.pure (.sl (p0.fTables.map Ar))))), (69, .e (.one (.pure (.val (.int .i64 ((p0.fTables.length : Int))))))), (70, .e (.one (.pure (.val (.int .i64 v20)))))] [(1, .box [.pure (.sl (p0.fVersions.map Ai)), .pure (.sl (p0.fNow.map Ai)), .pure (.sl (p0.fTarget.map Ai)), .pure (.sl (p0.fTables.map Ar))])]) (fun v21 => mk [] []) (fun _ _ => rfl) (sm [] _ _ rfl rfl) (fun j20 n20 v20 h => ?_) (fun v21 s h hs => ?_)
      ·unfold Bh at h
       refine Ab (Aa Ad rfl (AS rfl (Ac (Ab ?_))))
       refine Ao rfl (fun c22 => ?_) (fun c22 => ?_)
       ·have h := An c22 h
        refine Ap (Ab (AI (Ab (Aa Ad rfl ?_))))
        obtain ⟨v23, a23, b23, h⟩ := Ah h
        refine qi DH D9 a23 (Ag b23) rfl (qK H0 D9 rfl (qz KU rfl (qs D9 rfl (Ac (Ab (Aa Ad rfl (qL Do Dh rfl (qL H0 D9 rfl ?_))))))))
        obtain ⟨v24, a24, h⟩ := bind_some h
        refine AB [] (Ks N p0 v23 v24 a24) Q5 rfl (qa rfl (Ac (Ab (Aa Ad rfl (qm rfl (Ch rfl (Ac ?_)))))))
        refine Ao rfl (fun c25 => ?_) (fun c25 => ?_)
        ·have h := An c25 h
         refine Ab (Aa Ad rfl (qm rfl (qa rfl (Ac ?_))))
         obtain rfl := sj h
         refine Aj (sm [] [(2, .e (.one (.pure (.val (.int .i64 v24)))))] [] rfl rfl) (Ax ?_)
         exact ⟨⟨[_], ⟨.tmp _ _ rfl, trivial⟩, rfl⟩, trivial⟩
        ·have h := Am c25 h
         refine Ap (Aa Ad rfl (AO rfl (qm rfl (Ac ?_))))
         exact Av _ h (sm [] _ _ rfl rfl)
       ·have h := Am c22 h
        refine AR ?_
        exact Av _ h (sm [] _ _ rfl rfl)
      ·refine Aj hs (Ab (Aa Ad rfl (qa rfl (Ac ?_))))
       obtain rfl := sj h
       refine Aj (sm [] [(2, .e (.one (.pure (.val (.int .i64 0)))))] [] rfl rfl) (Ax ?_)
       exact ⟨⟨[_], ⟨.tmp _ _ rfl, trivial⟩, rfl⟩, trivial⟩
set_option maxRecDepth 10000 in
theorem CC (N : Nat) (p0 : List Int) (r : (List Int)) (h : Bf N p0 = some r) : Az Try.prog 43 [.e (.one (.pure (.sl (p0.map Ai))))] [(1, r.map Ai)] (.e (.one (.own 0))) := by
 unfold Bf at h
 refine Aq (n := 8) (rs := [.tmp 2]) Try.func43 rfl rfl rfl (AV rfl) (AV rfl) rfl fun w0 S0 => ?_
 refine Ab (Aa Ad rfl (qa rfl (Ac (Ab (Ab (Aa Ad rfl (qm rfl ?_)))))))
 refine MC (.p rfl) rfl AK ?_
 refine Ac ?_
 refine Mu rfl (fun c2 => ?_) ?_
 ·have c2 := List.map_eq_nil_iff.1 c2
  rw [c2] at h
  have h : (some (([] : List Int))) = some r := h
  refine Ab (Aa Ad rfl (qa rfl (Ac ?_)))
  obtain rfl := sj h
  refine Aj ((Bk 2 2001 1 rfl rfl rfl).trans (sm [(1000, 2001)] [(2, .e (.one (.own 1000)))] [(1000, .vec 1 ((([] : List Int)).map Ai))] rfl rfl)) (Ax ?_)
  exact ⟨⟨[_], ⟨.tmp _ _ rfl, trivial⟩, rfl⟩, ⟨rfl, trivial⟩⟩
 ·refine Ap (Ab (Aa Ad rfl (E4 AK Ee M5 rfl (qm rfl ?_))))
  obtain ⟨c1, h⟩ := AT h
  refine NZ (f := Ai) AK AK Ee Ob M5 (fun _ => rfl) c1 rfl (qa rfl (Ac ?_))
  obtain rfl := sj h
  refine Aj (sm [(1000, 7)] [(2, .e (.one (.own 1000)))] [(1000, .vec 1 (((([] : List Int)) ++ p0).map Ai))] rfl rfl) (Ax ?_)
  exact ⟨⟨[_], ⟨.tmp _ _ rfl, trivial⟩, rfl⟩, ⟨rfl, trivial⟩⟩
set_option maxRecDepth 10000 in
theorem Iz (N : Nat) (p0 : Int) (p1 : Int) (r : Int × Int) (h : E5 N p0 p1 = some r) : Az Try.prog 96 [.e (.one (.pure (.val (.int .u32 p0)))), .e (.one (.pure (.val (.int .u32 p1))))] [] (.tup [.one (.pure (.val (.int .u32 r.1))), .one (.pure (.val (.int .u32 r.2)))]) := by
 unfold E5 at h
 refine Aq (n := 17) (rs := [.tmp 4, .tmp 5]) Try.func96 rfl rfl rfl (AV rfl) (AV rfl) rfl fun w0 S0 => ?_
 refine Ab (Aa Ad rfl (qa rfl (qa rfl (Ac (Ab (Aa Ad rfl (qm rfl (FY Lw OT rfl (qm rfl (FY Lw OT rfl (Hp rfl (qa rfl (Ac (Ab (Aa Ad rfl (qm rfl (Gl rfl (by decide) (FY NI Lq rfl (qm rfl (FY NI Lq rfl (qa rfl (qa rfl (Ac ?_)))))))))))))))))))))))
 obtain rfl := sj h
 refine Aj (sm [] [(4, .e (.one (.pure (.val (.int .u32 ((IntKind.wrap .u32 ((DV .u64 ((IntKind.wrap .u64 ((IntKind.wrap .u64 p0) * (IntKind.wrap .u64 p1)))) 32))))))))), (5, .e (.one (.pure (.val (.int .u32 ((IntKind.wrap .u32 ((IntKind.wrap .u64 ((IntKind.wrap .u64 p0) * (IntKind.wrap .u64 p1)))))))))))] [] rfl rfl) (Ax ?_)
 exact ⟨⟨[_, _], ⟨.tmp _ _ rfl, ⟨.tmp _ _ rfl, trivial⟩⟩, rfl⟩, trivial⟩
set_option maxRecDepth 10000 in
theorem IM (N : Nat) (p0 : Int) (p1 : Int) (r : Int × Int) (h : E8 N p0 p1 = some r) : Az Try.prog 97 [.e (.one (.pure (.val (.int .u64 p0)))), .e (.one (.pure (.val (.int .u64 p1))))] [] (.tup [.one (.pure (.val (.int .u64 r.1))), .one (.pure (.val (.int .u64 r.2)))]) := by
 unfold E8 at h
 refine Aq (n := 51) (rs := [.tmp 4, .tmp 5]) Try.func97 rfl rfl rfl (AV rfl) (AV rfl) rfl fun w0 S0 => ?_
 refine Ab (Aa Ad rfl (qa rfl (qa rfl (Ac (Ab (Aa Ad rfl (qm rfl (Jb rfl (qa rfl (Ac (Ab (Aa Ad rfl (qm rfl (Gl rfl (by decide) (qa rfl (Ac (Ab (Aa Ad rfl (qm rfl (Jb rfl (qa rfl (Ac (Ab (Aa Ad rfl (qm rfl (Gl rfl (by decide) (qa rfl (Ac (Ab (Aa Ad rfl (qm rfl (qm rfl (Hp rfl (qa rfl (Ac (Ab (Aa Ad rfl (qm rfl (qm rfl ?_)))))))))))))))))))))))))))))))))))))))
 refine Hp rfl (qm rfl (Gl rfl (by decide) (AO rfl (qa rfl (Ac (Ab (Aa Ad rfl (qm rfl (Jb rfl (qa rfl (Ac (Ab (Aa Ad rfl (qm rfl (Gl rfl (by decide) (qa rfl (Ac (Ab (Aa Ad rfl (qm rfl (qm rfl (qm rfl (Hp rfl (AO rfl (qa rfl (Ac (Ab (Aa Ad rfl (qm rfl (qm rfl (Hp rfl (qm rfl (AO rfl (qm rfl (Gl rfl (by decide) (AO rfl (qa rfl (Ac (Ab ?_)))))))))))))))))))))))))))))))))))))))
 refine Aa Ad rfl (qm rfl (qm rfl (Hp rfl (qa rfl (Ac ?_)))))
 obtain rfl := sj h
 refine Aj (sm [] [(4, .e (.one (.pure (.val (.int .u64 ((IntKind.wrap .u64 ((IntKind.wrap .u64 ((IntKind.wrap .u64 ((DV .u64 p0 32) * (DV .u64 p1 32))) + (DV .u64 ((IntKind.wrap .u64 ((IntKind.wrap .u64 ((DV .u64 p0 32) * (FU .u64 p1 4294967295))) + (DV .u64 ((IntKind.wrap .u64 ((FU .u64 p0 4294967295) * (FU .u64 p1 4294967295)))) 32)))) 32))) + (DV .u64 ((IntKind.wrap .u64 ((FU .u64 ((IntKind.wrap .u64 ((IntKind.wrap .u64 ((DV .u64 p0 32) * (FU .u64 p1 4294967295))) + (DV .u64 ((IntKind.wrap .u64 ((FU .u64 p0 4294967295) * (FU .u64 p1 4294967295)))) 32)))) 4294967295) + (IntKind.wrap .u64 ((FU .u64 p0 4294967295) * (DV .u64 p1 32)))))) 32))))))))), (5, .e (.one (.pure (.val (.int .u64 ((IntKind.wrap .u64 (p0 * p1))))))))] [] rfl rfl) (Ax ?_)
 exact ⟨⟨[_, _], ⟨.tmp _ _ rfl, ⟨.tmp _ _ rfl, trivial⟩⟩, rfl⟩, trivial⟩
set_option maxRecDepth 10000 in
theorem Ju (N : Nat) (p0 : Int) (p1 : Int) (r : Int × Int) (h : FF N p0 p1 = some r) : Az Try.prog 81 [.e (.one (.pure (.val (.int .u64 p0)))), .e (.one (.pure (.val (.int .u64 p1))))] [] (.tup [.one (.pure (.val (.int .u64 r.1))), .one (.pure (.val (.int .u64 r.2)))]) := by
 unfold FF at h
 refine Aq (n := 30) (rs := [.tmp 4, .tmp 5]) Try.func81 rfl rfl rfl (AV rfl) (AV rfl) rfl fun w0 S0 => ?_
 refine Ab (Aa Ad rfl (qa rfl (qa rfl (Ac (Ab ?_)))))
 refine Ao rfl (fun c1 => ?_) (fun c1 => ?_)
 ·have h := An c1 h
  refine Ab (Aa Ad rfl (qm rfl (FY Nj Lq rfl (qm rfl (FY Nj Lq rfl ?_)))))
  obtain ⟨v2, a2, h⟩ := bind_some h
  refine AB [] (Iz N ((IntKind.wrap .u32 p0)) ((IntKind.wrap .u32 p1)) v2 a2) Q4 rfl (qm rfl (qx rfl (qx rfl (qa rfl (qa rfl (Ac (Ab (Aa Ad rfl (qm rfl (FY Lw MZ rfl (qm rfl (FY Lw MZ rfl (qa rfl (qa rfl (Ac ?_)))))))))))))))
  obtain rfl := sj h
  refine Aj (sm [] [(4, .e (.one (.pure (.val (.int .u64 ((IntKind.wrap .u64 v2.1))))))), (5, .e (.one (.pure (.val (.int .u64 ((IntKind.wrap .u64 v2.2)))))))] [] rfl rfl) (Ax ?_)
  exact ⟨⟨[_, _], ⟨.tmp _ _ rfl, ⟨.tmp _ _ rfl, trivial⟩⟩, rfl⟩, trivial⟩
 ·have h := Am c1 h
  refine Ap (Ab (Aa Ad rfl (qm rfl (qm rfl ?_))))
  obtain ⟨v3, a3, h⟩ := bind_some h
  refine AB [] (IM N p0 p1 v3 a3) RS rfl (qm rfl (qx rfl (qx rfl (qa rfl (qa rfl (Ac (Ab (Aa Ad rfl (qm rfl (qm rfl (qa rfl (qa rfl (Ac ?_)))))))))))))
  obtain rfl := sj h
  refine Aj (sm [] [(4, .e (.one (.pure (.val (.int .u64 v3.1))))), (5, .e (.one (.pure (.val (.int .u64 v3.2)))))] [] rfl rfl) (Ax ?_)
  exact ⟨⟨[_, _], ⟨.tmp _ _ rfl, ⟨.tmp _ _ rfl, trivial⟩⟩, rfl⟩, trivial⟩
set_option maxRecDepth 10000 in
theorem GS (N : Nat) (p0 : List Int) (p1 : Int) (r : (List Int)) (h : CR N p0 p1 = some r) : Az Try.prog 59 [.e (.one (.pure (.sl (p0.map Ai)))), .e (.one (.pure (.val (.int .i64 p1))))] [(1, r.map Ai)] (.e (.one (.own 0))) := by
 unfold CR at h
 refine Aq (n := 48) (rs := [.tmp 4]) Try.func59 rfl rfl rfl (AV rfl) (AV rfl) rfl fun w0 S0 => ?_
 refine Ab (Aa Ad rfl (qa rfl (Ac ?_)))
 refine AN h (fun v1 => mk [(0, .e (.one (.pure (.sl (p0.map Ai))))), (1, .e (.one (.pure (.val (.int .i64 p1)))))] []) (fun j1 h => ?_) (fun v1 h => ?_)
 ·refine Ab (Aa Ad rfl (qm rfl (AS rfl (Ac ?_))))
  refine Ao rfl (fun c2 => ?_) (fun c2 => ?_)
  ·have h := An c2 h
   refine Aa Ad rfl ?_
   cases h
  ·have h := Am c2 h
   refine Ap ?_
   exact Av _ h (sm [] _ _ rfl rfl)
 ·refine Ab (Aa Ad rfl (qm rfl (AM AK rfl (FY PD MZ rfl (qm rfl (FY PD MZ rfl ?_))))))
  obtain ⟨v3, a3, h⟩ := bind_some h
  refine AB [] (Ju N ((IntKind.wrap .u64 ((p0.length : Int)))) ((IntKind.wrap .u64 p1)) v3 a3) QY rfl (qm rfl (qx rfl (qx rfl (qa rfl (qa rfl (Ac ?_))))))
  refine AN h (fun v4 => mk [(0, .e (.one (.pure (.sl (p0.map Ai))))), (6, .e (.one (.pure (.val (.int .u64 v3.2)))))] []) (fun j4 h => ?_) (fun v4 h => ?_)
  ·refine AN h (fun v5 => mk [(0, .e (.one (.pure (.sl (p0.map Ai))))), (6, .e (.one (.pure (.val (.int .u64 v3.2))))), (26, .e (.one (.pure (.val (.bool v5)))))] []) (fun j5 h => ?_) (fun v5 h => ?_)
   ·refine Aa Ad rfl (qm rfl (Dd rfl (qm rfl ?_)))
    refine AA (t := 23) rfl (fun c6 => ?_) (fun c6 => ?_)
    ·have h := An c6 h
     refine qn rfl (qn rfl (qp rfl (Ac ?_)))
     exact Av _ h (sm [] _ _ rfl rfl)
    ·have h := Am c6 h
     refine qm rfl (Dd rfl (qp rfl (Ac ?_)))
     exact Av _ h (sm [] _ _ rfl rfl)
   ·refine Ao rfl (fun c7 => ?_) (fun c7 => ?_)
    ·have h := An c7 h
     refine Aa Ad rfl ?_
     cases h
    ·have h := Am c7 h
     refine Ap ?_
     exact Av _ h (sm [] _ _ rfl rfl)
  ·refine Ab (Aa Ad rfl (qm rfl (FY Nj Py rfl ?_)))
   obtain ⟨c8, h⟩ := AT h
   refine HD (.p rfl) rfl rfl rfl AK Ee Ob (AV rfl) M5 rfl rfl rfl c8.1 c8.2.1 c8.2.2 (K0 Ai _ ((0 : Int))) ?_
   refine qa rfl (Ac (Ab (Aa Ad rfl (qm rfl (qm rfl ?_)))))
   refine My Ai (List.replicate ((IntKind.wrap .i64 v3.2)).toNat ((0 : Int))) p0 (.p rfl) rfl (FT Ai _ _ (List.replicate ((IntKind.wrap .i64 v3.2)).toNat ((0 : Int)))) rfl rfl (Oe Ai _ _ (fun _ => rfl)) trivial AK Ee ?_
   refine qa rfl (Ac (Ab ?_))
   refine AF (L := Cu N) h (fun v9 => mk [(7, .e (.one (.own 2001))), (8, .e (.one (.pure (.val (.int .i64 v9.2)))))] [(2001, .vec 1 (v9.1.map Ai))]) (fun v10 => mk [(7, .e (.one (.own 2002)))] [(2002, .vec 1 (v10.map Ai))]) (fun _ _ => rfl) (sm [(2001, 30)] _ _ rfl rfl) (fun j9 n9 v9 h => ?_) (fun v10 s h hs => ?_)
   ·unfold Cu at h
    refine Ab (Ab (Aa Ad rfl (qm rfl (qm rfl (CU AK rfl (AS rfl (Ac ?_)))))))
    refine Ao rfl (fun c11 => ?_) (fun c11 => ?_)
    ·have h := An c11 h
     refine Ap (AI (Aa Ad rfl (qm rfl (qm rfl (qm rfl ?_)))))
     obtain ⟨c12, h⟩ := AT h
     have w13 : ((v9.2).toNat) + ((v9.1.length - (v9.2).toNat)) ≤ v9.1.length := by have := c12.2.1; have := c12.2.2; omega
     refine Gn Ai v9.1 (.p rfl) rfl (FT Ai _ _ v9.1) rfl AK Ee (.some _ _ _ _ c12.1) (.none _) ⟨rfl, trivial⟩ trivial c12.2.1 (by rw [Nat.zero_add]; exact c12.2.2) (Nat.zero_add _) rfl ?_
     refine qm rfl (qm rfl ?_)
     obtain ⟨c14, h⟩ := AT h
     have w15 : 0 + ((v9.2).toNat) ≤ v9.1.length := by have := c14.2.1; have := c14.2.2; omega
     refine Gn Ai v9.1 (.p rfl) rfl (FT Ai _ _ v9.1) rfl AK Ee (.none _) (.some _ _ _ _ c14.1) trivial ⟨rfl, trivial⟩ c14.2.1 (by rw [Nat.zero_add]; exact c14.2.2) (Nat.zero_add _) rfl ?_
     refine My Ai v9.1 (((v9.1.drop 0).take ((v9.2).toNat))) (.p rfl) rfl (IY Ai _ _ ((v9.2).toNat) ((v9.1.length - (v9.2).toNat)) v9.1 w13) rfl rfl (MN Ai _ _ 0 ((v9.2).toNat) v9.1 w15) ⟨rfl, trivial⟩ AK Ee ?_
     refine AO rfl (qa rfl (AJ (by kernel_rfl) ?_))
     exact Av _ h (sm [] _ _ rfl rfl)
    ·have h := Am c11 h
     refine AR ?_
     exact Av _ h (sm [(2002, 2001)] _ _ rfl rfl)
   ·refine Aj hs (Ab (Aa Ad rfl (qm rfl (qa rfl (Ac ?_)))))
    obtain rfl := sj h
    refine Aj (sm [(1000, 2002)] [(4, .e (.one (.own 1000)))] [(1000, .vec 1 (v10.map Ai))] rfl rfl) (Ax ?_)
    exact ⟨⟨[_], ⟨.tmp _ _ rfl, trivial⟩, rfl⟩, ⟨rfl, trivial⟩⟩
set_option maxRecDepth 10000 in
theorem G6 (N : Nat) (p0 : AQ) (r : Bool) (h : DF N p0 = some r) : Az Try.prog 55 [.e (.agg [.pure (.val (.int .i64 p0.fKind)), .pure (.val (.int .i64 p0.fFrom)), .pure (.val (.int .i64 p0.fTo)), .pure (.val (.bool p0.fAware)), .pure (.sl (p0.fOK.map (EM eB))), .pure (.sl (p0.fRewrite.map (EM eB)))])] [] (.e (.one (.pure (.val (.bool r))))) := by
 unfold DF at h
 refine Aq (n := 11) (rs := [.tmp 2]) Try.func55 rfl rfl rfl (AV rfl) (AV rfl) rfl fun w0 S0 => ?_
 refine Ab (Aa Ad rfl (qb rfl (qa rfl (Ac ?_))))
 refine AN h (fun v1 => mk [(2, .e (.one (.pure (.val (.bool v1)))))] []) (fun j1 h => ?_) (fun v1 h => ?_)
 ·refine Aa Ad rfl (qf EY rfl (ql CQ rfl (BR rfl (qm rfl ?_))))
  refine AA (t := 6) rfl (fun c2 => ?_) (fun c2 => ?_)
  ·have h := An c2 h
   refine qn rfl (qn rfl (qn rfl (qp rfl (qa rfl (Ac ?_)))))
   exact Av _ h (sm [] _ _ rfl rfl)
  ·have h := Am c2 h
   refine qf EY rfl (ql CQ rfl (BR rfl (qp rfl (qa rfl (Ac ?_)))))
   exact Av _ h (sm [] _ _ rfl rfl)
 ·obtain rfl := sj h
  refine Aj (sm [] [(2, .e (.one (.pure (.val (.bool v1)))))] [] rfl rfl) (Ax ?_)
  exact ⟨⟨[_], ⟨.tmp _ _ rfl, trivial⟩, rfl⟩, trivial⟩
set_option maxRecDepth 10000 in
theorem Ja (N : Nat) (p0 : Ak) (r : Af × Int) (h : D0 N p0 = some r) : Az Try.prog 41 [.e (.agg [.pure (.sl (p0.fVersions.map Ai)), .pure (.sl (p0.fNow.map Ai)), .pure (.sl (p0.fTarget.map Ai)), .pure (.sl (p0.fTables.map Ar))])] [(1, r.1.fBase.map Ai), (1, r.1.fNext.map Ai), (1, r.1.fHeld.map BX)] (.tup [.agg [.own 0, .own 1, .own 2], .one (.pure (.val (.int .i64 r.2)))]) := by
 unfold D0 at h
 refine Aq (n := 50) (rs := [.cell 2 42, .tmp 3]) Try.func41 rfl rfl rfl (AV rfl) (AV rfl) rfl fun w0 S0 => ?_
 refine Ab (Aa Ad rfl (qb rfl (qz CZ rfl (qa rfl (Ac (Ab (Ab (Aa Ad rfl (qL Do Dh rfl ?_)))))))))
 obtain ⟨v1, a1, h⟩ := bind_some h
 refine AB [] (Eh N p0 v1 a1) Ph rfl (qa rfl (Ac (Ab (Aa Ad rfl (qm rfl (Ch rfl (Ac ?_)))))))
 refine Ao rfl (fun c2 => ?_) (fun c2 => ?_)
 ·have h := An c2 h
  refine Ab (Aa Ad rfl (Cy CZ IT rfl (qm rfl (qs Aw rfl (qa rfl (Ac ?_))))))
  obtain rfl := sj h
  refine Aj ((BK 2 0 2001 1 _ rfl rfl rfl rfl).trans ((BK 2 1 2002 1 _ rfl rfl rfl rfl).trans ((BK 2 2 2003 1 _ rfl rfl rfl rfl).trans (sm [(1000, 2001), (1001, 2002), (1002, 2003)] [(2, .e (.one (.ptr 2 0))), (3, .e (.one (.pure (.val (.int .i64 v1)))))] [(2, .box [.own 1000, .own 1001, .own 1002]), (1000, .vec 1 ((([] : List Int)).map Ai)), (1001, .vec 1 ((([] : List Int)).map Ai)), (1002, .vec 1 ((([] : List Int)).map BX))] rfl rfl)))) (Ax ?_)
  exact ⟨⟨[_, _], ⟨.cellN _ _ _ _ _ _ _ rfl rfl AU Aw rfl rfl (JB rfl), ⟨.tmp _ _ rfl, trivial⟩⟩, rfl⟩, ⟨rfl, rfl, rfl, trivial⟩⟩
 ·have h := Am c2 h
  refine Ap (Ab (Aa Ad rfl (qf F6 rfl (ql BS rfl ?_))))
  obtain ⟨v3, a3, h⟩ := bind_some h
  refine AB [2004] (CC N p0.fNow v3 a3) NY rfl (E4 AK Ee M5 rfl (qf F6 rfl (ql BS rfl (AM AK rfl ?_))))
  obtain ⟨v4, a4, h⟩ := bind_some h
  refine Fr [2005] [17] (GS N (([(-1)] : List Int)) ((p0.fNow.length : Int)) v4 a4) RB (Im (fun _ => rfl) DQ) rfl (qf CI rfl (ql Gp rfl (AM DH rfl ?_)))
  obtain ⟨c5, h⟩ := AT h
  refine HD (.p rfl) rfl rfl rfl Db FP Nw (AV rfl) Oz rfl rfl rfl c5.1 c5.2.1 c5.2.2 (K0 BX _ ((0 : Int))) ?_
  refine Cy CZ IT rfl (qz CZ rfl (qs Aw rfl (AJ (by kernel_rfl) (Ab (Ab (Aa Ad rfl (qf CI rfl (ql Gp rfl (AM DH rfl (qm rfl (Ac ?_)))))))))))
  refine AF (L := CE N p0) h (fun v6 => mk [(1, .e (.one (.ptr 1 0))), (2, .e (.one (.ptr 2 0))), (5, .e (.one (.ptr 5 0))), (28, .e (.one (.pure (.sl (p0.fTables.map Ar))))), (29, .e (.one (.pure (.val (.int .i64 ((p0.fTables.length : Int))))))), (30, .e (.one (.pure (.val (.int .i64 v6.2)))))] [(1, .box [.pure (.sl (p0.fVersions.map Ai)), .pure (.sl (p0.fNow.map Ai)), .pure (.sl (p0.fTarget.map Ai)), .pure (.sl (p0.fTables.map Ar))]), (2, .box [.pure (.nil0), .pure (.nil0), .pure (.nil0)]), (5, .box [.own 2006, .own 2007, .own 2008]), (2006, .vec 1 (v3.map Ai)), (2007, .vec 1 (v4.map Ai)), (2008, .vec 1 (v6.1.map BX))]) (fun v7 => mk [(2, .e (.one (.ptr 2 0))), (5, .e (.one (.ptr 5 0)))] [(2, .box [.pure (.nil0), .pure (.nil0), .pure (.nil0)]), (5, .box [.own 2009, .own 2010, .own 2011]), (2009, .vec 1 (v3.map Ai)), (2010, .vec 1 (v4.map Ai)), (2011, .vec 1 (v7.map BX))]) (fun _ _ => rfl) (sm [(2006, 2004), (2007, 2005), (2008, 25)] _ _ rfl rfl) (fun j6 n6 v6 h => ?_) (fun v7 s h hs => ?_)
  ·unfold CE at h
   refine Ab (Aa Ad rfl (AS rfl (Ac (Ab ?_))))
   refine Ao rfl (fun c8 => ?_) (fun c8 => ?_)
   ·have h := An c8 h
    refine Ap ?_
    refine AN h (fun v9 => mk [(1, .e (.one (.ptr 1 0))), (2, .e (.one (.ptr 2 0))), (5, .e (.one (.ptr 5 0))), (28, .e (.one (.pure (.sl (p0.fTables.map Ar))))), (29, .e (.one (.pure (.val (.int .i64 ((p0.fTables.length : Int))))))), (30, .e (.one (.pure (.val (.int .i64 v6.2)))))] [(1, .box [.pure (.sl (p0.fVersions.map Ai)), .pure (.sl (p0.fNow.map Ai)), .pure (.sl (p0.fTarget.map Ai)), .pure (.sl (p0.fTables.map Ar))]), (2, .box [.pure (.nil0), .pure (.nil0), .pure (.nil0)]), (5, .box [.own 2012, .own 2013, .own 2014]), (2012, .vec 1 (v3.map Ai)), (2013, .vec 1 (v4.map Ai)), (2014, .vec 1 (v9.map BX))]) (fun j9 h => ?_) (fun v9 h => ?_)
    ·refine AI (Ab (Aa Ad rfl (qm rfl ?_)))
     obtain ⟨v10, a10, b10, h⟩ := Ah h
     refine qi DH D9 a10 (Ag b10) rfl (qK H0 D9 rfl (qz KU rfl (qa rfl (qs D9 rfl (Ac (Ab (Aa Ad rfl (qL H0 D9 rfl ?_))))))))
     obtain ⟨v11, a11, h⟩ := bind_some h
     refine AB [] (G6 N v10 v11 a11) PH rfl (Ac ?_)
     refine Ao rfl (fun c12 => ?_) (fun c12 => ?_)
     ·have h := An c12 h
      refine Aa Ad rfl (qf DL rfl (ql HZ rfl (qm rfl (qf F6 rfl (ql BS rfl (qf Eg rfl (ql CQ rfl ?_)))))))
      obtain ⟨v13, a13, b13, h⟩ := Ah h
      refine qi AK Ee a13 (Ag b13) rfl (qk CQ rfl ?_)
      obtain ⟨c14, h⟩ := AT h
      refine GX rfl c14 ?_
      obtain ⟨v15, a15, b15, h⟩ := Ah h
      refine qI Db FP a15 (Ag b15) rfl ?_
      refine AZ rfl rfl rfl rfl (Ag b15) rfl FP rfl (AV rfl) (A0 BX v6.1 _ ((CS .u8 1 v13))) ?_
      refine AJ (by kernel_rfl) ?_
      exact Av _ h (sm [(2012, 2006), (2013, 2007), (2014, 2008)] _ _ rfl rfl)
     ·have h := Am c12 h
      refine Ap ?_
      exact Av _ h (sm [(2012, 2006), (2013, 2007), (2014, 2008)] _ _ rfl rfl)
    ·refine Aa Ad rfl (AO rfl (qm rfl (Ac ?_)))
     exact Av _ h (sm [(2006, 2012), (2007, 2013), (2008, 2014)] _ _ rfl rfl)
   ·have h := Am c8 h
    refine AR ?_
    exact Av _ h (sm [(2009, 2006), (2010, 2007), (2011, 2008)] _ _ rfl rfl)
  ·refine Aj hs (Ab (Aa Ad rfl (qL AU Aw rfl (qs Aw rfl (qa rfl (Ac ?_))))))
   obtain rfl := sj h
   refine Aj (sm [(1000, 2009), (1001, 2010), (1002, 2011)] [(2, .e (.one (.ptr 2 0))), (3, .e (.one (.pure (.val (.int .i64 0)))))] [(2, .box [.own 1000, .own 1001, .own 1002]), (1000, .vec 1 (v3.map Ai)), (1001, .vec 1 (v4.map Ai)), (1002, .vec 1 (v7.map BX))] rfl rfl) (Ax ?_)
   exact ⟨⟨[_, _], ⟨.cellN _ _ _ _ _ _ _ rfl rfl AU Aw rfl rfl (JB rfl), ⟨.tmp _ _ rfl, trivial⟩⟩, rfl⟩, ⟨rfl, rfl, rfl, trivial⟩⟩
set_option maxRecDepth 10000 in
theorem GB (N : Nat) (p0 : Af) (p1 : Int) (r : Int) (h : Em N p0 p1 = some r) : Az Try.prog 56 [.e (.agg [.pure (.sl (p0.fBase.map Ai)), .pure (.sl (p0.fNext.map Ai)), .pure (.sl (p0.fHeld.map BX))]), .e (.one (.pure (.val (.int .i64 p1))))] [] (.e (.one (.pure (.val (.int .u8 r))))) := by
 unfold Em at h
 refine Aq (n := 27) (rs := [.tmp 4]) Try.func56 rfl rfl rfl (AV rfl) (AV rfl) rfl fun w0 S0 => ?_
 refine Ab (Aa Ad rfl (qb rfl (qa rfl (Ac (Ab (Aa Ad rfl (qf Dn rfl (ql BS rfl (qm rfl ?_)))))))))
 obtain ⟨v1, a1, b1, h⟩ := Ah h
 refine qi AK Ee a1 (Ag b1) rfl (qk CQ rfl ?_)
 obtain ⟨c2, h⟩ := AT h
 refine GX rfl c2 (qa rfl (Ac ?_))
 refine AN h (fun v3 => mk [(5, .e (.one (.pure (.val (.int .u8 v3)))))] []) (fun j3 h => ?_) (fun v3 h => ?_)
 ·refine Ab (Aa Ad rfl (qf Cz rfl (ql BS rfl (qm rfl ?_))))
  obtain ⟨v4, a4, b4, h⟩ := Ah h
  refine qi AK Ee a4 (Ag b4) rfl (qk CQ rfl (Dc rfl (Ac ?_)))
  refine Ao rfl (fun c5 => ?_) (fun c5 => ?_)
  ·have h := An c5 h
   refine Aa Ad rfl (qm rfl (qf Cz rfl (ql BS rfl (qm rfl ?_))))
   obtain ⟨v6, a6, b6, h⟩ := Ah h
   refine qi AK Ee a6 (Ag b6) rfl (qk CQ rfl ?_)
   obtain ⟨c7, h⟩ := AT h
   refine GX rfl c7 (NB rfl (qa rfl (Ac ?_)))
   exact Av _ h (sm [] _ _ rfl rfl)
  ·have h := Am c5 h
   refine Ap ?_
   exact Av _ h (sm [] _ _ rfl rfl)
 ·refine Ab (Aa Ad rfl (qm rfl (qa rfl (Ac ?_))))
  obtain rfl := sj h
  refine Aj (sm [] [(4, .e (.one (.pure (.val (.int .u8 v3)))))] [] rfl rfl) (Ax ?_)
  exact ⟨⟨[_], ⟨.tmp _ _ rfl, trivial⟩, rfl⟩, trivial⟩
set_option maxRecDepth 10000 in
theorem zFS (N : Nat) (p0 : Ak) (p1 : Af) (r : Int) (h : DZ N p0 p1 = some r) : Az Try.prog 33 [.e (.agg [.pure (.sl (p0.fVersions.map Ai)), .pure (.sl (p0.fNow.map Ai)), .pure (.sl (p0.fTarget.map Ai)), .pure (.sl (p0.fTables.map Ar))]), .e (.agg [.pure (.sl (p1.fBase.map Ai)), .pure (.sl (p1.fNext.map Ai)), .pure (.sl (p1.fHeld.map BX))])] [] (.e (.one (.pure (.val (.int .i64 r))))) := by
 unfold DZ at h
 refine Aq (n := 135) (rs := [.tmp 4]) Try.func33 rfl rfl rfl (AV rfl) (AV rfl) rfl fun w0 S0 => ?_
 refine Ab (Aa Ad rfl (qb rfl (qb rfl (qa rfl (Ac (Ab (Ab (Aa Ad rfl (qL Do Dh rfl ?_)))))))))
 obtain ⟨v1, a1, h⟩ := bind_some h
 refine AB [] (Eh N p0 v1 a1) Ph rfl (qa rfl (Ac (Ab (Aa Ad rfl (qm rfl (Ch rfl (Ac ?_)))))))
 refine Ao rfl (fun c2 => ?_) (fun c2 => ?_)
 ·have h := An c2 h
  refine Ab (Aa Ad rfl (qm rfl (qa rfl (Ac ?_))))
  obtain rfl := sj h
  refine Aj (sm [] [(4, .e (.one (.pure (.val (.int .i64 v1)))))] [] rfl rfl) (Ax ?_)
  exact ⟨⟨[_], ⟨.tmp _ _ rfl, trivial⟩, rfl⟩, trivial⟩
 ·have h := Am c2 h
  refine Ap (Ab ?_)
  refine AN h (fun v3 => mk [(2, .e (.one (.ptr 2 0))), (3, .e (.one (.ptr 3 0))), (41, .e (.one (.pure (.val (.bool v3)))))] [(2, .box [.pure (.sl (p0.fVersions.map Ai)), .pure (.sl (p0.fNow.map Ai)), .pure (.sl (p0.fTarget.map Ai)), .pure (.sl (p0.fTables.map Ar))]), (3, .box [.pure (.sl (p1.fBase.map Ai)), .pure (.sl (p1.fNext.map Ai)), .pure (.sl (p1.fHeld.map BX))])]) (fun j3 h => ?_) (fun v3 h => ?_)
  ·refine Aa Ad rfl (qf Dn rfl (ql BS rfl (AM AK rfl (qf Ck rfl (ql BS rfl (AM AK rfl (Ch rfl (qm rfl ?_))))))))
   refine AA (t := 24) rfl (fun c4 => ?_) (fun c4 => ?_)
   ·have h := An c4 h
    refine qn rfl (qn rfl (qn rfl (qn rfl (qn rfl (qn rfl (qn rfl (qp rfl (qm rfl (qn rfl (qn rfl (qn rfl (qn rfl (qn rfl (qn rfl (qn rfl (qp rfl (Ac ?_)))))))))))))))))
    exact Av _ h (sm [] _ _ rfl rfl)
   ·have h := Am c4 h
    refine qf Cz rfl (ql BS rfl (AM AK rfl (qf Ck rfl (ql BS rfl (AM AK rfl (Ch rfl (qp rfl (qm rfl ?_))))))))
    refine AA (t := 33) rfl (fun c5 => ?_) (fun c5 => ?_)
    ·have h := An c5 h
     refine qn rfl (qn rfl (qn rfl (qn rfl (qn rfl (qn rfl (qn rfl (qp rfl (Ac ?_))))))))
     exact Av _ h (sm [] _ _ rfl rfl)
    ·have h := Am c5 h
     refine qf DL rfl (ql HZ rfl (AM Db rfl (qf CI rfl (ql Gp rfl (AM DH rfl (Ch rfl (qp rfl (Ac ?_))))))))
     exact Av _ h (sm [] _ _ rfl rfl)
  ·refine Ao rfl (fun c6 => ?_) (fun c6 => ?_)
   ·have h := An c6 h
    refine Ab (Aa Ad rfl (qa rfl (Ac ?_)))
    obtain rfl := sj h
    refine Aj (sm [] [(4, .e (.one (.pure (.val (.int .i64 6)))))] [] rfl rfl) (Ax ?_)
    exact ⟨⟨[_], ⟨.tmp _ _ rfl, trivial⟩, rfl⟩, trivial⟩
   ·have h := Am c6 h
    refine Ap (Ab (Ab (Aa Ad rfl (qf Ck rfl (ql BS rfl (AM AK rfl (qm rfl (Ac ?_))))))))
    refine AF (L := EZ N p0 p1) h (fun v7 => mk [(2, .e (.one (.ptr 2 0))), (3, .e (.one (.ptr 3 0))), (43, .e (.one (.pure (.sl (p0.fVersions.map Ai))))), (44, .e (.one (.pure (.val (.int .i64 ((p0.fVersions.length : Int))))))), (45, .e (.one (.pure (.val (.int .i64 v7)))))] [(2, .box [.pure (.sl (p0.fVersions.map Ai)), .pure (.sl (p0.fNow.map Ai)), .pure (.sl (p0.fTarget.map Ai)), .pure (.sl (p0.fTables.map Ar))]), (3, .box [.pure (.sl (p1.fBase.map Ai)), .pure (.sl (p1.fNext.map Ai)), .pure (.sl (p1.fHeld.map BX))])]) (fun v8 => mk [(2, .e (.one (.ptr 2 0))), (3, .e (.one (.ptr 3 0)))] [(2, .box [.pure (.sl (p0.fVersions.map Ai)), .pure (.sl (p0.fNow.map Ai)), .pure (.sl (p0.fTarget.map Ai)), .pure (.sl (p0.fTables.map Ar))]), (3, .box [.pure (.sl (p1.fBase.map Ai)), .pure (.sl (p1.fNext.map Ai)), .pure (.sl (p1.fHeld.map BX))])]) (fun _ _ => rfl) (sm [] _ _ rfl rfl) (fun j7 n7 v7 h => ?_) (fun v8 s h hs => ?_)
    ·unfold EZ at h
     refine Ab (Aa Ad rfl (AS rfl (Ac (Ab ?_))))
     refine Ao rfl (fun c9 => ?_) (fun c9 => ?_)
     ·have h := An c9 h
      refine Ap (Ab (AI (Ab (Aa Ad rfl (qm rfl ?_)))))
      obtain ⟨v10, a10, b10, h⟩ := Ah h
      refine qi AK Ee a10 (Ag b10) rfl (qk CQ rfl (qa rfl (qa rfl (Ac (Ab ?_)))))
      refine AN h (fun v11 => mk [(2, .e (.one (.ptr 2 0))), (3, .e (.one (.ptr 3 0))), (6, .e (.one (.pure (.val (.int .i64 v7))))), (43, .e (.one (.pure (.sl (p0.fVersions.map Ai))))), (44, .e (.one (.pure (.val (.int .i64 ((p0.fVersions.length : Int))))))), (45, .e (.one (.pure (.val (.int .i64 v7))))), (81, .e (.one (.pure (.val (.bool v11)))))] [(2, .box [.pure (.sl (p0.fVersions.map Ai)), .pure (.sl (p0.fNow.map Ai)), .pure (.sl (p0.fTarget.map Ai)), .pure (.sl (p0.fTables.map Ar))]), (3, .box [.pure (.sl (p1.fBase.map Ai)), .pure (.sl (p1.fNext.map Ai)), .pure (.sl (p1.fHeld.map BX))])]) (fun j11 h => ?_) (fun v11 h => ?_)
      ·refine Aa Ad rfl (qf Dn rfl (ql BS rfl (qm rfl ?_)))
       obtain ⟨v12, a12, b12, h⟩ := Ah h
       refine qi AK Ee a12 (Ag b12) rfl (qk CQ rfl (AS rfl (qm rfl ?_)))
       refine AA (t := 56) rfl (fun c13 => ?_) (fun c13 => ?_)
       ·have h := An c13 h
        refine qn rfl (qn rfl (qn rfl (qn rfl (qn rfl (qn rfl (qn rfl (qp rfl (qm rfl (qn rfl (qn rfl (qn rfl (qn rfl (qn rfl (qn rfl (qp rfl (qm rfl (qn rfl (qn rfl (qn rfl (qn rfl (qn rfl (qn rfl (qn rfl (qp rfl (Ac ?_)))))))))))))))))))))))))
        exact Av _ h (sm [] _ _ rfl rfl)
       ·have h := Am c13 h
        refine qf Dn rfl (ql BS rfl (qm rfl ?_))
        obtain ⟨v14, a14, b14, h⟩ := Ah h
        refine qi AK Ee a14 (Ag b14) rfl (qk CQ rfl (qm rfl (Dc rfl (qp rfl (qm rfl ?_)))))
        refine AA (t := 65) rfl (fun c15 => ?_) (fun c15 => ?_)
        ·have h := An c15 h
         refine qn rfl (qn rfl (qn rfl (qn rfl (qn rfl (qn rfl (qp rfl (qm rfl (qn rfl (qn rfl (qn rfl (qn rfl (qn rfl (qn rfl (qn rfl (qp rfl (Ac ?_))))))))))))))))
         exact Av _ h (sm [] _ _ rfl rfl)
        ·have h := Am c15 h
         refine qf Cz rfl (ql BS rfl (qm rfl ?_))
         obtain ⟨v16, a16, b16, h⟩ := Ah h
         refine qi AK Ee a16 (Ag b16) rfl (qk CQ rfl (AS rfl (qp rfl (qm rfl ?_))))
         refine AA (t := 73) rfl (fun c17 => ?_) (fun c17 => ?_)
         ·have h := An c17 h
          refine qn rfl (qn rfl (qn rfl (qn rfl (qn rfl (qn rfl (qn rfl (qp rfl (Ac ?_))))))))
          exact Av _ h (sm [] _ _ rfl rfl)
         ·have h := Am c17 h
          refine qf Cz rfl (ql BS rfl (qm rfl ?_))
          obtain ⟨v18, a18, b18, h⟩ := Ah h
          refine qi AK Ee a18 (Ag b18) rfl (qk CQ rfl (qm rfl (Dc rfl (qp rfl (Ac ?_)))))
          exact Av _ h (sm [] _ _ rfl rfl)
      ·refine Ao rfl (fun c19 => ?_) (fun c19 => ?_)
       ·have h := An c19 h
        refine Ab (Aa Ad rfl (qa rfl (Ac ?_)))
        obtain rfl := sj h
        refine Aj (sm [] [(4, .e (.one (.pure (.val (.int .i64 7)))))] [] rfl rfl) (Ax ?_)
        exact ⟨⟨[_], ⟨.tmp _ _ rfl, trivial⟩, rfl⟩, trivial⟩
       ·have h := Am c19 h
        refine Ap (Ab (Aa Ad rfl (qf Dn rfl (ql BS rfl (qm rfl ?_)))))
        obtain ⟨v20, a20, b20, h⟩ := Ah h
        refine qi AK Ee a20 (Ag b20) rfl (qk CQ rfl (qf Cz rfl (ql BS rfl (qm rfl ?_))))
        obtain ⟨v21, a21, b21, h⟩ := Ah h
        refine qi AK Ee a21 (Ag b21) rfl (qk CQ rfl (BR rfl (AJ (by kernel_rfl) ?_)))
        refine Ao rfl (fun c22 => ?_) (fun c22 => ?_)
        ·have h := An c22 h
         refine Ab (Aa Ad rfl (qa rfl (Ac ?_)))
         obtain rfl := sj h
         refine Aj (sm [] [(4, .e (.one (.pure (.val (.int .i64 1)))))] [] rfl rfl) (Ax ?_)
         exact ⟨⟨[_], ⟨.tmp _ _ rfl, trivial⟩, rfl⟩, trivial⟩
        ·have h := Am c22 h
         refine Ap (Aa Ad rfl (AO rfl (qm rfl (Ac ?_))))
         exact Av _ h (sm [] _ _ rfl rfl)
     ·have h := Am c9 h
      refine AR ?_
      exact Av _ h (sm [] _ _ rfl rfl)
    ·refine Aj hs (Ab (Ab (Aa Ad rfl (qf CI rfl (ql Gp rfl (AM DH rfl (qm rfl (Ac ?_))))))))
     refine AF (L := Ex N p0 p1) h (fun v23 => mk [(2, .e (.one (.ptr 2 0))), (3, .e (.one (.ptr 3 0))), (95, .e (.one (.pure (.sl (p0.fTables.map Ar))))), (96, .e (.one (.pure (.val (.int .i64 ((p0.fTables.length : Int))))))), (97, .e (.one (.pure (.val (.int .i64 v23)))))] [(2, .box [.pure (.sl (p0.fVersions.map Ai)), .pure (.sl (p0.fNow.map Ai)), .pure (.sl (p0.fTarget.map Ai)), .pure (.sl (p0.fTables.map Ar))]), (3, .box [.pure (.sl (p1.fBase.map Ai)), .pure (.sl (p1.fNext.map Ai)), .pure (.sl (p1.fHeld.map BX))])]) (fun v24 => mk [] []) (fun _ _ => rfl) (sm [] _ _ rfl rfl) (fun j23 n23 v23 h => ?_) (fun v24 s h hs => ?_)
     ·unfold Ex at h
      refine Ab (Aa Ad rfl (AS rfl (Ac (Ab ?_))))
      refine Ao rfl (fun c25 => ?_) (fun c25 => ?_)
      ·have h := An c25 h
       refine Ap (Ab (AI (Ab (Aa Ad rfl (qm rfl ?_)))))
       obtain ⟨v26, a26, b26, h⟩ := Ah h
       refine qi DH D9 a26 (Ag b26) rfl (qK H0 D9 rfl (qz KU rfl (qa rfl (qs D9 rfl (Ac (Ab (Aa Ad rfl (qa rfl (qa rfl (Ac ?_))))))))))
       refine AN h (fun v27 => mk [(2, .e (.one (.ptr 2 0))), (3, .e (.one (.ptr 3 0))), (8, .e (.one (.pure (.val (.int .i64 v23))))), (10, .e (.one (.pure (.val (.int .u8 v27.1))))), (11, .e (.one (.pure (.val (.int .u8 v27.2))))), (95, .e (.one (.pure (.sl (p0.fTables.map Ar))))), (96, .e (.one (.pure (.val (.int .i64 ((p0.fTables.length : Int))))))), (97, .e (.one (.pure (.val (.int .i64 v23)))))] [(2, .box [.pure (.sl (p0.fVersions.map Ai)), .pure (.sl (p0.fNow.map Ai)), .pure (.sl (p0.fTarget.map Ai)), .pure (.sl (p0.fTables.map Ar))]), (3, .box [.pure (.sl (p1.fBase.map Ai)), .pure (.sl (p1.fNext.map Ai)), .pure (.sl (p1.fHeld.map BX))])]) (fun j27 h => ?_) (fun v27 h => ?_)
       ·refine Ab (Aa Ad rfl (qL H0 D9 rfl ?_))
        obtain ⟨v28, a28, h⟩ := bind_some h
        refine AB [] (G6 N v26 v28 a28) PH rfl (Ac ?_)
        refine Ao rfl (fun c29 => ?_) (fun c29 => ?_)
        ·have h := An c29 h
         refine Aa Ad rfl (qL AU Aw rfl (qf Eg rfl (ql CQ rfl ?_)))
         obtain ⟨v30, a30, h⟩ := bind_some h
         refine AB [] (GB N p1 v26.fFrom v30 a30) Pv rfl (qf Ck rfl (ql BS rfl (qf Eg rfl (ql CQ rfl ?_))))
         obtain ⟨v31, a31, b31, h⟩ := Ah h
         refine qi AK Ee a31 (Ag b31) rfl (qk CQ rfl ?_)
         obtain ⟨c32, h⟩ := AT h
         refine GX rfl c32 (BY rfl (qa rfl (qa rfl (AJ (by kernel_rfl) ?_))))
         exact Av _ h (sm [] _ _ rfl rfl)
        ·have h := Am c29 h
         refine Ap ?_
         exact Av _ h (sm [] _ _ rfl rfl)
       ·refine AN h (fun v33 => mk [(2, .e (.one (.ptr 2 0))), (3, .e (.one (.ptr 3 0))), (95, .e (.one (.pure (.sl (p0.fTables.map Ar))))), (96, .e (.one (.pure (.val (.int .i64 ((p0.fTables.length : Int))))))), (97, .e (.one (.pure (.val (.int .i64 v23))))), (133, .e (.one (.pure (.val (.bool v33)))))] [(2, .box [.pure (.sl (p0.fVersions.map Ai)), .pure (.sl (p0.fNow.map Ai)), .pure (.sl (p0.fTarget.map Ai)), .pure (.sl (p0.fTables.map Ar))]), (3, .box [.pure (.sl (p1.fBase.map Ai)), .pure (.sl (p1.fNext.map Ai)), .pure (.sl (p1.fHeld.map BX))])]) (fun j33 h => ?_) (fun v33 h => ?_)
        ·refine Aa Ad rfl (qm rfl (qf DL rfl (ql HZ rfl (qm rfl ?_))))
         obtain ⟨v34, a34, b34, h⟩ := Ah h
         refine qi Db FP a34 (Ag b34) rfl (qk Jy rfl (Kg rfl (Ch rfl (qm rfl ?_))))
         refine AA (t := 124) rfl (fun c35 => ?_) (fun c35 => ?_)
         ·have h := An c35 h
          refine qn rfl (qn rfl (qn rfl (qn rfl (qn rfl (qn rfl (qn rfl (qn rfl (qp rfl (Ac ?_)))))))))
          exact Av _ h (sm [] _ _ rfl rfl)
         ·have h := Am c35 h
          refine qf DL rfl (ql HZ rfl (qm rfl ?_))
          obtain ⟨v36, a36, b36, h⟩ := Ah h
          refine qi Db FP a36 (Ag b36) rfl (qk Jy rfl (qm rfl (Kg rfl (Ch rfl (qp rfl (Ac ?_))))))
          exact Av _ h (sm [] _ _ rfl rfl)
        ·refine Ao rfl (fun c37 => ?_) (fun c37 => ?_)
         ·have h := An c37 h
          refine Ab (Aa Ad rfl (qa rfl (Ac ?_)))
          obtain rfl := sj h
          refine Aj (sm [] [(4, .e (.one (.pure (.val (.int .i64 1)))))] [] rfl rfl) (Ax ?_)
          exact ⟨⟨[_], ⟨.tmp _ _ rfl, trivial⟩, rfl⟩, trivial⟩
         ·have h := Am c37 h
          refine Ap (Aa Ad rfl (AO rfl (qm rfl (Ac ?_))))
          exact Av _ h (sm [] _ _ rfl rfl)
      ·have h := Am c25 h
       refine AR ?_
       exact Av _ h (sm [] _ _ rfl rfl)
     ·refine Aj hs (Ab (Aa Ad rfl (qa rfl (Ac ?_))))
      obtain rfl := sj h
      refine Aj (sm [] [(4, .e (.one (.pure (.val (.int .i64 0)))))] [] rfl rfl) (Ax ?_)
      exact ⟨⟨[_], ⟨.tmp _ _ rfl, trivial⟩, rfl⟩, trivial⟩
set_option maxRecDepth 10000 in
theorem DR (N : Nat) (p0 : List Int) (r : (List Int)) (h : B5 N p0 = some r) : Az Try.prog 44 [.e (.one (.pure (.sl (p0.map BX))))] [(1, r.map BX)] (.e (.one (.own 0))) := by
 unfold B5 at h
 refine Aq (n := 8) (rs := [.tmp 2]) Try.func44 rfl rfl rfl (AV rfl) (AV rfl) rfl fun w0 S0 => ?_
 refine Ab (Aa Ad rfl (qa rfl (Ac (Ab (Ab (Aa Ad rfl (qm rfl ?_)))))))
 refine MC (.p rfl) rfl Db ?_
 refine Ac ?_
 refine Mu rfl (fun c2 => ?_) ?_
 ·have c2 := List.map_eq_nil_iff.1 c2
  rw [c2] at h
  have h : (some (([] : List Int))) = some r := h
  refine Ab (Aa Ad rfl (qa rfl (Ac ?_)))
  obtain rfl := sj h
  refine Aj ((Bk 2 2001 1 rfl rfl rfl).trans (sm [(1000, 2001)] [(2, .e (.one (.own 1000)))] [(1000, .vec 1 ((([] : List Int)).map BX))] rfl rfl)) (Ax ?_)
  exact ⟨⟨[_], ⟨.tmp _ _ rfl, trivial⟩, rfl⟩, ⟨rfl, trivial⟩⟩
 ·refine Ap (Ab (Aa Ad rfl (E4 Db FP Oz rfl (qm rfl ?_))))
  obtain ⟨c1, h⟩ := AT h
  refine NZ (f := BX) Db Db FP Nw Oz (fun _ => rfl) c1 rfl (qa rfl (Ac ?_))
  obtain rfl := sj h
  refine Aj (sm [(1000, 7)] [(2, .e (.one (.own 1000)))] [(1000, .vec 1 (((([] : List Int)) ++ p0).map BX))] rfl rfl) (Ax ?_)
  exact ⟨⟨[_], ⟨.tmp _ _ rfl, trivial⟩, rfl⟩, ⟨rfl, trivial⟩⟩
set_option maxRecDepth 10000 in
theorem IQ (N : Nat) (p0 : Ak) (p1 : Af) (r : (List Af) × Int) (h : FL N p0 p1 = some r) : Az Try.prog 23 [.e (.agg [.pure (.sl (p0.fVersions.map Ai)), .pure (.sl (p0.fNow.map Ai)), .pure (.sl (p0.fTarget.map Ai)), .pure (.sl (p0.fTables.map Ar))]), .e (.agg [.pure (.sl (p1.fBase.map Ai)), .pure (.sl (p1.fNext.map Ai)), .pure (.sl (p1.fHeld.map BX))])] [(3, r.1.map Ae)] (.tup [.one (.own 0), .one (.pure (.val (.int .i64 r.2)))]) := by
 unfold FL at h
 refine Aq (n := 75) (rs := [.tmp 4, .tmp 5]) Try.func23 rfl rfl rfl (AV rfl) (AV rfl) rfl fun w0 S0 => ?_
 refine Ab (Aa Ad rfl (qb rfl (qb rfl (qa rfl (qa rfl (Ac (Ab (Ab (Aa Ad rfl (qL Do Dh rfl (qL AU Aw rfl ?_)))))))))))
 obtain ⟨v1, a1, h⟩ := bind_some h
 refine AB [] (zFS N p0 p1 v1 a1) Ng rfl (qa rfl (Ac (Ab (Aa Ad rfl (qm rfl (Ch rfl (Ac ?_)))))))
 refine Ao rfl (fun c2 => ?_) (fun c2 => ?_)
 ·have h := An c2 h
  refine Ab (Aa Ad rfl (qm rfl (qa rfl (qa rfl (Ac ?_)))))
  obtain rfl := sj h
  refine Aj ((Bk 4 2001 3 rfl rfl rfl).trans (sm [(1000, 2001)] [(4, .e (.one (.own 1000))), (5, .e (.one (.pure (.val (.int .i64 v1)))))] [(1000, .vec 3 ((([] : List Af)).map Ae))] rfl rfl)) (Ax ?_)
  exact ⟨⟨[_, _], ⟨.tmp _ _ rfl, ⟨.tmp _ _ rfl, trivial⟩⟩, rfl⟩, ⟨rfl, trivial⟩⟩
 ·have h := Am c2 h
  refine Ap (Ab (Aa Ad rfl (qa rfl (Ac (Ab (Ab (Aa Ad rfl (qf Cz rfl (ql BS rfl (AM AK rfl (qm rfl (Ac ?_))))))))))))
  refine AF (L := Ep N p1) h (fun v3 => mk [(3, .e (.one (.ptr 3 0))), (7, .e (.one (.own 2002))), (22, .e (.one (.pure (.sl (p1.fNext.map Ai))))), (23, .e (.one (.pure (.val (.int .i64 ((p1.fNext.length : Int))))))), (24, .e (.one (.pure (.val (.int .i64 v3.2)))))] [(3, .box [.pure (.sl (p1.fBase.map Ai)), .pure (.sl (p1.fNext.map Ai)), .pure (.sl (p1.fHeld.map BX))]), (2002, .vec 1 (v3.1.map Ai))]) (fun v4 => mk [(3, .e (.one (.ptr 3 0))), (7, .e (.one (.own 2003)))] [(3, .box [.pure (.sl (p1.fBase.map Ai)), .pure (.sl (p1.fNext.map Ai)), .pure (.sl (p1.fHeld.map BX))]), (2003, .vec 1 (v4.map Ai))]) (fun _ _ => rfl) ((Bk 7 2005 1 rfl rfl rfl).trans (sm [(2002, 2005)] _ _ rfl rfl)) (fun j3 n3 v3 h => ?_) (fun v4 s h hs => ?_)
  ·unfold Ep at h
   refine Ab (Aa Ad rfl (AS rfl (Ac (Ab ?_))))
   refine Ao rfl (fun c5 => ?_) (fun c5 => ?_)
   ·have h := An c5 h
    refine Ap ?_
    refine AN h (fun v6 => mk [(3, .e (.one (.ptr 3 0))), (7, .e (.one (.own 2004))), (22, .e (.one (.pure (.sl (p1.fNext.map Ai))))), (23, .e (.one (.pure (.val (.int .i64 ((p1.fNext.length : Int))))))), (24, .e (.one (.pure (.val (.int .i64 v3.2)))))] [(3, .box [.pure (.sl (p1.fBase.map Ai)), .pure (.sl (p1.fNext.map Ai)), .pure (.sl (p1.fHeld.map BX))]), (2004, .vec 1 (v6.map Ai))]) (fun j6 h => ?_) (fun v6 h => ?_)
    ·refine AI (Ab (Aa Ad rfl (qm rfl ?_)))
     obtain ⟨v7, a7, b7, h⟩ := Ah h
     refine qi AK Ee a7 (Ag b7) rfl (qk CQ rfl (qa rfl (qa rfl (Ac (Ab (Aa Ad rfl (qm rfl (Dc rfl (Ac ?_)))))))))
     refine Ao rfl (fun c8 => ?_) (fun c8 => ?_)
     ·have h := An c8 h
      refine Aa Ad rfl (qm rfl (qm rfl (E4 AK Ee M5 rfl ?_)))
      obtain ⟨c9, h⟩ := AT h
      refine EK (f := Ai) AK AK Ee Ob M5 c9 rfl (qa rfl (Ac ?_))
      exact Av _ h (sm [(2004, 34)] _ _ rfl rfl)
     ·have h := Am c8 h
      refine Ap ?_
      exact Av _ h (sm [(2004, 2002)] _ _ rfl rfl)
    ·refine Aa Ad rfl (AO rfl (qm rfl (Ac ?_)))
     exact Av _ h (sm [(2002, 2004)] _ _ rfl rfl)
   ·have h := Am c5 h
    refine AR ?_
    exact Av _ h (sm [(2003, 2002)] _ _ rfl rfl)
  ·refine Aj hs (Ab (Aa Ad rfl (qa rfl (Ac (Ab (Ab (Aa Ad rfl (qm rfl (CU AK rfl ?_)))))))))
   obtain ⟨c10, h⟩ := AT h
   refine GX rfl c10 (qm rfl (Ac ?_))
   refine AF (L := Ed N p1 v4) h (fun v11 => mk [(3, .e (.one (.ptr 3 0))), (7, .e (.one (.own 2006))), (10, .e (.one (.own 2007))), (38, .e (.one (.pure (.val (.int .i64 ((CS .i64 1 ((v4.length : Int))))))))), (39, .e (.one (.pure (.val (.int .i64 v11.2)))))] [(3, .box [.pure (.sl (p1.fBase.map Ai)), .pure (.sl (p1.fNext.map Ai)), .pure (.sl (p1.fHeld.map BX))]), (2006, .vec 1 (v4.map Ai)), (2007, .vec 3 (v11.1.map Ae))]) (fun v12 => mk [(10, .e (.one (.own 2008)))] [(2008, .vec 3 (v12.map Ae))]) (fun _ _ => rfl) ((Bk 10 2027 3 rfl rfl rfl).trans (sm [(2006, 2003), (2007, 2027)] _ _ rfl rfl)) (fun j11 n11 v11 h => ?_) (fun v12 s h hs => ?_)
   ·unfold Ed at h
    refine Ab (Aa Ad rfl (AS rfl (Ac (Ab ?_))))
    refine Ao rfl (fun c13 => ?_) (fun c13 => ?_)
    ·have h := An c13 h
     refine Ap (Ab (AI (Ab (Aa Ad rfl (qm rfl (qa rfl (Ac (Ab (Aa Ad rfl (qf Dn rfl (ql BS rfl ?_)))))))))))
     obtain ⟨v14, a14, h⟩ := bind_some h
     refine AB [2009] (CC N p1.fBase v14 a14) NY rfl (qf Cz rfl (ql BS rfl ?_))
     obtain ⟨v15, a15, h⟩ := bind_some h
     refine AB [2010] (CC N p1.fNext v15 a15) NY rfl (qf DL rfl (ql HZ rfl ?_))
     obtain ⟨v16, a16, h⟩ := bind_some h
     refine AB [2011] (DR N p1.fHeld v16 a16) Qm rfl (Cy CZ IT rfl (qz CZ rfl (qs Aw rfl (AJ (by kernel_rfl) (Ab (Ab (Aa Ad rfl (qm rfl (CU AK rfl (qm rfl (Ac ?_)))))))))))
     refine AF (L := Eb N v4 v11) h (fun v17 => mk [(3, .e (.one (.ptr 3 0))), (7, .e (.one (.own 2015))), (10, .e (.one (.own 2016))), (11, .e (.one (.pure (.val (.int .i64 v11.2))))), (12, .e (.one (.ptr 12 0))), (38, .e (.one (.pure (.val (.int .i64 ((CS .i64 1 ((v4.length : Int))))))))), (39, .e (.one (.pure (.val (.int .i64 v11.2))))), (52, .e (.one (.own 2015))), (53, .e (.one (.pure (.val (.int .i64 ((v4.length : Int))))))), (54, .e (.one (.pure (.val (.int .i64 v17.2)))))] [(3, .box [.pure (.sl (p1.fBase.map Ai)), .pure (.sl (p1.fNext.map Ai)), .pure (.sl (p1.fHeld.map BX))]), (12, .box [.own 2012, .own 2013, .own 2014]), (2012, .vec 1 (v14.map Ai)), (2013, .vec 1 (v17.1.map Ai)), (2014, .vec 1 (v16.map BX)), (2015, .vec 1 (v4.map Ai)), (2016, .vec 3 (v11.1.map Ae))]) (fun v18 => mk [(3, .e (.one (.ptr 3 0))), (7, .e (.one (.own 2020))), (10, .e (.one (.own 2021))), (12, .e (.one (.ptr 12 0))), (38, .e (.one (.pure (.val (.int .i64 ((CS .i64 1 ((v4.length : Int))))))))), (39, .e (.one (.pure (.val (.int .i64 v11.2)))))] [(3, .box [.pure (.sl (p1.fBase.map Ai)), .pure (.sl (p1.fNext.map Ai)), .pure (.sl (p1.fHeld.map BX))]), (12, .box [.own 2017, .own 2018, .own 2019]), (2017, .vec 1 (v14.map Ai)), (2018, .vec 1 (v18.map Ai)), (2019, .vec 1 (v16.map BX)), (2020, .vec 1 (v4.map Ai)), (2021, .vec 3 (v11.1.map Ae))]) (fun _ _ => rfl) (sm [(2012, 2009), (2013, 2010), (2014, 2011), (2015, 2006), (2016, 2007)] _ _ rfl rfl) (fun j17 n17 v17 h => ?_) (fun v18 s h hs => ?_)
     ·unfold Eb at h
      refine Ab (Aa Ad rfl (AS rfl (Ac (Ab ?_))))
      refine Ao rfl (fun c19 => ?_) (fun c19 => ?_)
      ·have h := An c19 h
       refine Ap ?_
       refine AN h (fun v20 => mk [(3, .e (.one (.ptr 3 0))), (7, .e (.one (.own 2025))), (10, .e (.one (.own 2026))), (11, .e (.one (.pure (.val (.int .i64 v11.2))))), (12, .e (.one (.ptr 12 0))), (38, .e (.one (.pure (.val (.int .i64 ((CS .i64 1 ((v4.length : Int))))))))), (39, .e (.one (.pure (.val (.int .i64 v11.2))))), (52, .e (.one (.own 2025))), (53, .e (.one (.pure (.val (.int .i64 ((v4.length : Int))))))), (54, .e (.one (.pure (.val (.int .i64 v17.2)))))] [(3, .box [.pure (.sl (p1.fBase.map Ai)), .pure (.sl (p1.fNext.map Ai)), .pure (.sl (p1.fHeld.map BX))]), (12, .box [.own 2022, .own 2023, .own 2024]), (2022, .vec 1 (v14.map Ai)), (2023, .vec 1 (v20.map Ai)), (2024, .vec 1 (v16.map BX)), (2025, .vec 1 (v4.map Ai)), (2026, .vec 3 (v11.1.map Ae))]) (fun j20 h => ?_) (fun v20 h => ?_)
       ·refine AI (Ab (Aa Ad rfl (qm rfl ?_)))
        obtain ⟨v21, a21, b21, h⟩ := Ah h
        refine qI AK Ee a21 (Ag b21) rfl (qj CQ (Ag b21) rfl (qa rfl (qa rfl (Ac (Ab (Aa Ad rfl (qm rfl (qm rfl ?_))))))))
        obtain ⟨c22, h⟩ := AT h
        refine Gl rfl c22 (Jb rfl (BR rfl (Ac ?_)))
        refine Ao rfl (fun c23 => ?_) (fun c23 => ?_)
        ·have h := An c23 h
         refine Aa Ad rfl (qf Cz rfl (ql BS rfl (qm rfl ?_)))
         obtain ⟨v24, a24, b24, h⟩ := Ah h
         refine qI AK Ee a24 (Ag b24) rfl ?_
         refine AZ rfl rfl rfl rfl (Ag b24) rfl Ee rfl (AV rfl) (A0 Ai v17.1 _ ((-1))) ?_
         refine Ac ?_
         exact Av _ h (sm [(2022, 2012), (2023, 2013), (2024, 2014), (2025, 2015), (2026, 2016)] _ _ rfl rfl)
        ·have h := Am c23 h
         refine Ap ?_
         exact Av _ h (sm [(2022, 2012), (2023, 2013), (2024, 2014), (2025, 2015), (2026, 2016)] _ _ rfl rfl)
       ·refine Aa Ad rfl (AO rfl (qm rfl (Ac ?_)))
        exact Av _ h (sm [(2012, 2022), (2013, 2023), (2014, 2024), (2015, 2025), (2016, 2026)] _ _ rfl rfl)
      ·have h := Am c19 h
       refine AR ?_
       exact Av _ h (sm [(2017, 2012), (2018, 2013), (2019, 2014), (2020, 2015), (2021, 2016)] _ _ rfl rfl)
     ·refine Aj hs (Aa Ad rfl (qm rfl (qL AU Aw rfl (CP (Ba 2017 _ _ rfl rfl) (CP (Ba 2018 _ _ rfl rfl) (CP (Ba 2019 _ _ rfl rfl) (E4 AE Aw CZ rfl ?_)))))))
      obtain ⟨c25, h⟩ := AT h
      refine EK (f := Ae) AE AE Aw LU CZ c25 rfl (qa rfl (Ac (Aa Ad rfl (AO rfl (qm rfl (Ac ?_))))))
      exact Av _ h (sm [(2006, 2020), (2007, 72)] _ _ rfl rfl)
    ·have h := Am c13 h
     refine AR ?_
     exact Av _ h (sm [(2008, 2007)] _ _ rfl rfl)
   ·refine Aj hs (Ab (Aa Ad rfl (qm rfl (qa rfl (qa rfl (Ac ?_))))))
    obtain rfl := sj h
    refine Aj (sm [(1000, 2008)] [(4, .e (.one (.own 1000))), (5, .e (.one (.pure (.val (.int .i64 0)))))] [(1000, .vec 3 (v12.map Ae))] rfl rfl) (Ax ?_)
    exact ⟨⟨[_, _], ⟨.tmp _ _ rfl, ⟨.tmp _ _ rfl, trivial⟩⟩, rfl⟩, ⟨rfl, trivial⟩⟩
set_option maxRecDepth 10000 in
theorem Js (N : Nat) (p0 : Ak) (p1 : Af) (r : (List AL)) (h : FJ N p0 p1 = some r) : Az Try.prog 74 [.e (.agg [.pure (.sl (p0.fVersions.map Ai)), .pure (.sl (p0.fNow.map Ai)), .pure (.sl (p0.fTarget.map Ai)), .pure (.sl (p0.fTables.map Ar))]), .e (.agg [.pure (.sl (p1.fBase.map Ai)), .pure (.sl (p1.fNext.map Ai)), .pure (.sl (p1.fHeld.map BX))])] [(3, r.map BP)] (.e (.one (.own 0))) := by
 unfold FJ at h
 refine Aq (n := 98) (rs := [.tmp 4]) Try.func74 rfl rfl rfl (AV rfl) (AV rfl) rfl fun w0 S0 => ?_
 refine Ab (Aa Ad rfl (qb rfl (qb rfl (qa rfl (Ac (Ab (Aa Ad rfl (qa rfl (Ac (Ab (Ab (Aa Ad rfl (qf CI rfl (ql Gp rfl (AM DH rfl (qm rfl (Ac ?_)))))))))))))))))
 refine AF (L := DK N p0 p1) h (fun v1 => mk [(3, .e (.one (.ptr 3 0))), (5, .e (.one (.own 2001))), (15, .e (.one (.pure (.sl (p0.fTables.map Ar))))), (16, .e (.one (.pure (.val (.int .i64 ((p0.fTables.length : Int))))))), (17, .e (.one (.pure (.val (.int .i64 v1.2)))))] [(3, .box [.pure (.sl (p1.fBase.map Ai)), .pure (.sl (p1.fNext.map Ai)), .pure (.sl (p1.fHeld.map BX))]), (2001, .vec 3 (v1.1.map BP))]) (fun v2 => mk [(5, .e (.one (.own 2002)))] [(2002, .vec 3 (v2.map BP))]) (fun _ _ => rfl) ((Bk 5 2013 3 rfl rfl rfl).trans (sm [(2001, 2013)] _ _ rfl rfl)) (fun j1 n1 v1 h => ?_) (fun v2 s h hs => ?_)
 ·unfold DK at h
  refine Ab (Aa Ad rfl (AS rfl (Ac (Ab ?_))))
  refine Ao rfl (fun c3 => ?_) (fun c3 => ?_)
  ·have h := An c3 h
   refine Ap (Ab (AI (Ab (Aa Ad rfl (qm rfl ?_)))))
   obtain ⟨v4, a4, b4, h⟩ := Ah h
   refine qi DH D9 a4 (Ag b4) rfl (qK H0 D9 rfl (qz KU rfl (qa rfl (qs D9 rfl (Ac (Ab (Aa Ad rfl (qL AU Aw rfl (qf Eg rfl (ql CQ rfl ?_))))))))))
   obtain ⟨v5, a5, h⟩ := bind_some h
   refine AB [] (GB N p1 v4.fFrom v5 a5) Pv rfl (qL AU Aw rfl (qf HU rfl (ql CQ rfl ?_)))
   obtain ⟨v6, a6, h⟩ := bind_some h
   refine AB [] (GB N p1 v4.fTo v6 a6) Pv rfl (qa rfl (qa rfl (AJ (by kernel_rfl) ?_)))
   refine AN h (fun v7 => mk [(3, .e (.one (.ptr 3 0))), (5, .e (.one (.own 2003))), (6, .e (.one (.pure (.val (.int .i64 v1.2))))), (7, .e (.one (.ptr 7 0))), (8, .e (.one (.pure (.val (.int .u8 v7))))), (9, .e (.one (.pure (.val (.int .u8 v6))))), (15, .e (.one (.pure (.sl (p0.fTables.map Ar))))), (16, .e (.one (.pure (.val (.int .i64 ((p0.fTables.length : Int))))))), (17, .e (.one (.pure (.val (.int .i64 v1.2)))))] [(3, .box [.pure (.sl (p1.fBase.map Ai)), .pure (.sl (p1.fNext.map Ai)), .pure (.sl (p1.fHeld.map BX))]), (7, .box [.pure (.val (.int .i64 v4.fKind)), .pure (.val (.int .i64 v4.fFrom)), .pure (.val (.int .i64 v4.fTo)), .pure (.val (.bool v4.fAware)), .pure (.sl (v4.fOK.map (EM eB))), .pure (.sl (v4.fRewrite.map (EM eB)))]), (2003, .vec 3 (v1.1.map BP))]) (fun j7 h => ?_) (fun v7 h => ?_)
   ·refine Ab (Aa Ad rfl (qL H0 D9 rfl ?_))
    obtain ⟨v8, a8, h⟩ := bind_some h
    refine AB [] (G6 N v4 v8 a8) PH rfl (Ac ?_)
    refine Ao rfl (fun c9 => ?_) (fun c9 => ?_)
    ·have h := An c9 h
     refine Aa Ad rfl (qf DL rfl (ql HZ rfl (qm rfl ?_)))
     obtain ⟨v10, a10, b10, h⟩ := Ah h
     refine qi Db FP a10 (Ag b10) rfl (qk Jy rfl (qa rfl (Ac ?_)))
     exact Av _ h (sm [(2003, 2001)] _ _ rfl rfl)
    ·have h := Am c9 h
     refine Ap ?_
     exact Av _ h (sm [(2003, 2001)] _ _ rfl rfl)
   ·refine Ab (Aa Ad rfl (qf Hd rfl (ql GR rfl (AM EE rfl (qm rfl (Ac ?_))))))
    refine AF (L := DA N v1 v4 v6 v7) h (fun v11 => mk [(3, .e (.one (.ptr 3 0))), (5, .e (.one (.own 2004))), (6, .e (.one (.pure (.val (.int .i64 v1.2))))), (7, .e (.one (.ptr 7 0))), (8, .e (.one (.pure (.val (.int .u8 v7))))), (9, .e (.one (.pure (.val (.int .u8 v6))))), (15, .e (.one (.pure (.sl (p0.fTables.map Ar))))), (16, .e (.one (.pure (.val (.int .i64 ((p0.fTables.length : Int))))))), (17, .e (.one (.pure (.val (.int .i64 v1.2))))), (39, .e (.one (.pure (.val (.int .i64 ((v4.fOK.length : Int))))))), (40, .e (.one (.pure (.val (.int .i64 v11.2)))))] [(3, .box [.pure (.sl (p1.fBase.map Ai)), .pure (.sl (p1.fNext.map Ai)), .pure (.sl (p1.fHeld.map BX))]), (7, .box [.pure (.val (.int .i64 v4.fKind)), .pure (.val (.int .i64 v4.fFrom)), .pure (.val (.int .i64 v4.fTo)), .pure (.val (.bool v4.fAware)), .pure (.sl (v4.fOK.map (EM eB))), .pure (.sl (v4.fRewrite.map (EM eB)))]), (2004, .vec 3 (v11.1.map BP))]) (fun v12 => mk [(3, .e (.one (.ptr 3 0))), (5, .e (.one (.own 2005))), (15, .e (.one (.pure (.sl (p0.fTables.map Ar))))), (16, .e (.one (.pure (.val (.int .i64 ((p0.fTables.length : Int))))))), (17, .e (.one (.pure (.val (.int .i64 v1.2)))))] [(3, .box [.pure (.sl (p1.fBase.map Ai)), .pure (.sl (p1.fNext.map Ai)), .pure (.sl (p1.fHeld.map BX))]), (2005, .vec 3 (v12.map BP))]) (fun _ _ => rfl) (sm [(2004, 2003)] _ _ rfl rfl) (fun j11 n11 v11 h => ?_) (fun v12 s h hs => ?_)
    ·unfold DA at h
     refine Ab (Aa Ad rfl (AS rfl (Ac (Ab ?_))))
     refine Ao rfl (fun c13 => ?_) (fun c13 => ?_)
     ·have h := An c13 h
      refine Ap ?_
      refine AN h (fun v14 => mk [(3, .e (.one (.ptr 3 0))), (5, .e (.one (.own 2006))), (6, .e (.one (.pure (.val (.int .i64 v1.2))))), (7, .e (.one (.ptr 7 0))), (8, .e (.one (.pure (.val (.int .u8 v7))))), (9, .e (.one (.pure (.val (.int .u8 v6))))), (15, .e (.one (.pure (.sl (p0.fTables.map Ar))))), (16, .e (.one (.pure (.val (.int .i64 ((p0.fTables.length : Int))))))), (17, .e (.one (.pure (.val (.int .i64 v1.2))))), (39, .e (.one (.pure (.val (.int .i64 ((v4.fOK.length : Int))))))), (40, .e (.one (.pure (.val (.int .i64 v11.2)))))] [(3, .box [.pure (.sl (p1.fBase.map Ai)), .pure (.sl (p1.fNext.map Ai)), .pure (.sl (p1.fHeld.map BX))]), (7, .box [.pure (.val (.int .i64 v4.fKind)), .pure (.val (.int .i64 v4.fFrom)), .pure (.val (.int .i64 v4.fTo)), .pure (.val (.bool v4.fAware)), .pure (.sl (v4.fOK.map (EM eB))), .pure (.sl (v4.fRewrite.map (EM eB)))]), (2006, .vec 3 (v14.map BP))]) (fun j14 h => ?_) (fun v14 h => ?_)
      ·refine AI (Ab (Aa Ad rfl (qm rfl (qa rfl (Ac (Ab (Ab (Aa Ad rfl (qm rfl (qm rfl ?_))))))))))
       obtain ⟨c15, h⟩ := AT h
       refine Gl rfl c15 (Jb rfl (BR rfl (Ac ?_)))
       refine Ao rfl (fun c16 => ?_) (fun c16 => ?_)
       ·have h := An c16 h
        refine AR ?_
        exact Av _ h (sm [(2006, 2004)] _ _ rfl rfl)
       ·have h := Am c16 h
        refine Ap (Ab (Aa Ad rfl (qa rfl (Ac (Ab (Ab (Aa Ad rfl (qf Hd rfl (ql GR rfl (qm rfl ?_))))))))))
        obtain ⟨v17, a17, b17, h⟩ := Ah h
        refine qi EE Lg a17 (Ag b17) rfl (qk Lm rfl (AM HL rfl (qm rfl (Ac ?_))))
        refine AF (L := Dx N v1 v4 v6 v11 v17) h (fun v18 => mk [(3, .e (.one (.ptr 3 0))), (5, .e (.one (.own 2007))), (6, .e (.one (.pure (.val (.int .i64 v1.2))))), (7, .e (.one (.ptr 7 0))), (8, .e (.one (.pure (.val (.int .u8 v7))))), (9, .e (.one (.pure (.val (.int .u8 v6))))), (10, .e (.one (.pure (.val (.int .i64 v11.2))))), (11, .e (.one (.pure (.val (.bool v18.2.1))))), (15, .e (.one (.pure (.sl (p0.fTables.map Ar))))), (16, .e (.one (.pure (.val (.int .i64 ((p0.fTables.length : Int))))))), (17, .e (.one (.pure (.val (.int .i64 v1.2))))), (39, .e (.one (.pure (.val (.int .i64 ((v4.fOK.length : Int))))))), (40, .e (.one (.pure (.val (.int .i64 v11.2))))), (52, .e (.one (.pure (.sl (v17.map eB))))), (53, .e (.one (.pure (.val (.int .i64 ((v17.length : Int))))))), (54, .e (.one (.pure (.val (.int .i64 v18.2.2)))))] [(3, .box [.pure (.sl (p1.fBase.map Ai)), .pure (.sl (p1.fNext.map Ai)), .pure (.sl (p1.fHeld.map BX))]), (7, .box [.pure (.val (.int .i64 v4.fKind)), .pure (.val (.int .i64 v4.fFrom)), .pure (.val (.int .i64 v4.fTo)), .pure (.val (.bool v4.fAware)), .pure (.sl (v4.fOK.map (EM eB))), .pure (.sl (v4.fRewrite.map (EM eB)))]), (2007, .vec 3 (v18.1.map BP))]) (fun v19 => mk [(3, .e (.one (.ptr 3 0))), (5, .e (.one (.own 2008))), (6, .e (.one (.pure (.val (.int .i64 v1.2))))), (7, .e (.one (.ptr 7 0))), (8, .e (.one (.pure (.val (.int .u8 v7))))), (9, .e (.one (.pure (.val (.int .u8 v6))))), (10, .e (.one (.pure (.val (.int .i64 v11.2))))), (11, .e (.one (.pure (.val (.bool v19.2))))), (15, .e (.one (.pure (.sl (p0.fTables.map Ar))))), (16, .e (.one (.pure (.val (.int .i64 ((p0.fTables.length : Int))))))), (17, .e (.one (.pure (.val (.int .i64 v1.2))))), (39, .e (.one (.pure (.val (.int .i64 ((v4.fOK.length : Int))))))), (40, .e (.one (.pure (.val (.int .i64 v11.2)))))] [(3, .box [.pure (.sl (p1.fBase.map Ai)), .pure (.sl (p1.fNext.map Ai)), .pure (.sl (p1.fHeld.map BX))]), (7, .box [.pure (.val (.int .i64 v4.fKind)), .pure (.val (.int .i64 v4.fFrom)), .pure (.val (.int .i64 v4.fTo)), .pure (.val (.bool v4.fAware)), .pure (.sl (v4.fOK.map (EM eB))), .pure (.sl (v4.fRewrite.map (EM eB)))]), (2008, .vec 3 (v19.1.map BP))]) (fun _ _ => rfl) (sm [(2007, 2004)] _ _ rfl rfl) (fun j18 n18 v18 h => ?_) (fun v19 s h hs => ?_)
        ·unfold Dx at h
         refine Ab (Aa Ad rfl (AS rfl (Ac (Ab ?_))))
         refine Ao rfl (fun c20 => ?_) (fun c20 => ?_)
         ·have h := An c20 h
          refine Ap ?_
          refine AN h (fun v21 => mk [(3, .e (.one (.ptr 3 0))), (5, .e (.one (.own 2009))), (6, .e (.one (.pure (.val (.int .i64 v1.2))))), (7, .e (.one (.ptr 7 0))), (8, .e (.one (.pure (.val (.int .u8 v7))))), (9, .e (.one (.pure (.val (.int .u8 v6))))), (10, .e (.one (.pure (.val (.int .i64 v11.2))))), (11, .e (.one (.pure (.val (.bool v21.2))))), (15, .e (.one (.pure (.sl (p0.fTables.map Ar))))), (16, .e (.one (.pure (.val (.int .i64 ((p0.fTables.length : Int))))))), (17, .e (.one (.pure (.val (.int .i64 v1.2))))), (39, .e (.one (.pure (.val (.int .i64 ((v4.fOK.length : Int))))))), (40, .e (.one (.pure (.val (.int .i64 v11.2))))), (52, .e (.one (.pure (.sl (v17.map eB))))), (53, .e (.one (.pure (.val (.int .i64 ((v17.length : Int))))))), (54, .e (.one (.pure (.val (.int .i64 v18.2.2)))))] [(3, .box [.pure (.sl (p1.fBase.map Ai)), .pure (.sl (p1.fNext.map Ai)), .pure (.sl (p1.fHeld.map BX))]), (7, .box [.pure (.val (.int .i64 v4.fKind)), .pure (.val (.int .i64 v4.fFrom)), .pure (.val (.int .i64 v4.fTo)), .pure (.val (.bool v4.fAware)), .pure (.sl (v4.fOK.map (EM eB))), .pure (.sl (v4.fRewrite.map (EM eB)))]), (2009, .vec 3 (v21.1.map BP))]) (fun j21 h => ?_) (fun v21 h => ?_)
          ·refine AI (Ab (Aa Ad rfl (qm rfl ?_)))
           obtain ⟨v22, a22, b22, h⟩ := Ah h
           refine qi HL PX a22 (Ag b22) rfl (qk O5 rfl (qa rfl (qa rfl (Ac (Ab (Ab (Aa Ad rfl (qm rfl (qm rfl ?_)))))))))
           obtain ⟨c23, h⟩ := AT h
           refine Gl rfl c23 (Jb rfl (BR rfl (Ac ?_)))
           refine Ao rfl (fun c24 => ?_) (fun c24 => ?_)
           ·have h := An c24 h
            refine AR ?_
            exact Av _ h (sm [(2009, 2007)] _ _ rfl rfl)
           ·have h := Am c24 h
            refine Ap ?_
            refine AN h (fun v25 => mk [(3, .e (.one (.ptr 3 0))), (5, .e (.one (.own 2010))), (6, .e (.one (.pure (.val (.int .i64 v1.2))))), (7, .e (.one (.ptr 7 0))), (8, .e (.one (.pure (.val (.int .u8 v7))))), (9, .e (.one (.pure (.val (.int .u8 v6))))), (10, .e (.one (.pure (.val (.int .i64 v11.2))))), (11, .e (.one (.pure (.val (.bool v25))))), (12, .e (.one (.pure (.val (.int .i64 v18.2.2))))), (13, .e (.one (.pure (.val (.bool v22))))), (15, .e (.one (.pure (.sl (p0.fTables.map Ar))))), (16, .e (.one (.pure (.val (.int .i64 ((p0.fTables.length : Int))))))), (17, .e (.one (.pure (.val (.int .i64 v1.2))))), (39, .e (.one (.pure (.val (.int .i64 ((v4.fOK.length : Int))))))), (40, .e (.one (.pure (.val (.int .i64 v11.2))))), (52, .e (.one (.pure (.sl (v17.map eB))))), (53, .e (.one (.pure (.val (.int .i64 ((v17.length : Int))))))), (54, .e (.one (.pure (.val (.int .i64 v18.2.2)))))] [(3, .box [.pure (.sl (p1.fBase.map Ai)), .pure (.sl (p1.fNext.map Ai)), .pure (.sl (p1.fHeld.map BX))]), (7, .box [.pure (.val (.int .i64 v4.fKind)), .pure (.val (.int .i64 v4.fFrom)), .pure (.val (.int .i64 v4.fTo)), .pure (.val (.bool v4.fAware)), .pure (.sl (v4.fOK.map (EM eB))), .pure (.sl (v4.fRewrite.map (EM eB)))]), (2010, .vec 3 (v18.1.map BP))]) (fun j25 h => ?_) (fun v25 h => ?_)
            ·refine Aa Ad rfl (qm rfl (qm rfl ?_))
             refine AA (t := 65) rfl (fun c26 => ?_) (fun c26 => ?_)
             ·have h := An c26 h
              refine qn rfl (qp rfl (qa rfl (Ac ?_)))
              exact Av _ h (sm [(2010, 2007)] _ _ rfl rfl)
             ·have h := Am c26 h
              refine qm rfl (qp rfl (qa rfl (Ac ?_)))
              exact Av _ h (sm [(2010, 2007)] _ _ rfl rfl)
            ·refine AN h (fun v27 => mk [(3, .e (.one (.ptr 3 0))), (5, .e (.one (.own 2011))), (6, .e (.one (.pure (.val (.int .i64 v1.2))))), (7, .e (.one (.ptr 7 0))), (8, .e (.one (.pure (.val (.int .u8 v7))))), (9, .e (.one (.pure (.val (.int .u8 v6))))), (10, .e (.one (.pure (.val (.int .i64 v11.2))))), (11, .e (.one (.pure (.val (.bool v25))))), (12, .e (.one (.pure (.val (.int .i64 v18.2.2))))), (15, .e (.one (.pure (.sl (p0.fTables.map Ar))))), (16, .e (.one (.pure (.val (.int .i64 ((p0.fTables.length : Int))))))), (17, .e (.one (.pure (.val (.int .i64 v1.2))))), (39, .e (.one (.pure (.val (.int .i64 ((v4.fOK.length : Int))))))), (40, .e (.one (.pure (.val (.int .i64 v11.2))))), (52, .e (.one (.pure (.sl (v17.map eB))))), (53, .e (.one (.pure (.val (.int .i64 ((v17.length : Int))))))), (54, .e (.one (.pure (.val (.int .i64 v18.2.2))))), (74, .e (.one (.pure (.val (.bool v27)))))] [(3, .box [.pure (.sl (p1.fBase.map Ai)), .pure (.sl (p1.fNext.map Ai)), .pure (.sl (p1.fHeld.map BX))]), (7, .box [.pure (.val (.int .i64 v4.fKind)), .pure (.val (.int .i64 v4.fFrom)), .pure (.val (.int .i64 v4.fTo)), .pure (.val (.bool v4.fAware)), .pure (.sl (v4.fOK.map (EM eB))), .pure (.sl (v4.fRewrite.map (EM eB)))]), (2011, .vec 3 (v18.1.map BP))]) (fun j27 h => ?_) (fun v27 h => ?_)
             ·refine Aa Ad rfl (qm rfl (Cg rfl (qm rfl ?_)))
              refine AA (t := 70) rfl (fun c28 => ?_) (fun c28 => ?_)
              ·have h := An c28 h
               refine qf JD rfl (ql O5 rfl (Cg rfl (qp rfl (Ac ?_))))
               exact Av _ h (sm [(2011, 2010)] _ _ rfl rfl)
              ·have h := Am c28 h
               refine qn rfl (qn rfl (qn rfl (qp rfl (Ac ?_))))
               exact Av _ h (sm [(2011, 2010)] _ _ rfl rfl)
             ·refine Ao rfl (fun c29 => ?_) (fun c29 => ?_)
              ·have h := An c29 h
               refine Aa Ad rfl (qm rfl (qm rfl (qm rfl (qm rfl (Cy Ia Mz rfl (E4 HB GI Ia rfl ?_))))))
               obtain ⟨c30, h⟩ := AT h
               refine EK (f := BP) HB HB GI Nb Ia c30 rfl (qa rfl (Ac ?_))
               exact Av _ h (sm [(2009, 81)] _ _ rfl rfl)
              ·have h := Am c29 h
               refine Ap ?_
               exact Av _ h (sm [(2009, 2011)] _ _ rfl rfl)
          ·refine Aa Ad rfl (AO rfl (qm rfl (Ac ?_)))
           exact Av _ h (sm [(2007, 2009)] _ _ rfl rfl)
         ·have h := Am c20 h
          refine AR ?_
          exact Av _ h (sm [(2008, 2007)] _ _ rfl rfl)
        ·refine Aj hs ?_
         refine AN h (fun v31 => mk [(3, .e (.one (.ptr 3 0))), (5, .e (.one (.own 2012))), (6, .e (.one (.pure (.val (.int .i64 v1.2))))), (7, .e (.one (.ptr 7 0))), (8, .e (.one (.pure (.val (.int .u8 v7))))), (9, .e (.one (.pure (.val (.int .u8 v6))))), (10, .e (.one (.pure (.val (.int .i64 v11.2))))), (15, .e (.one (.pure (.sl (p0.fTables.map Ar))))), (16, .e (.one (.pure (.val (.int .i64 ((p0.fTables.length : Int))))))), (17, .e (.one (.pure (.val (.int .i64 v1.2))))), (39, .e (.one (.pure (.val (.int .i64 ((v4.fOK.length : Int))))))), (40, .e (.one (.pure (.val (.int .i64 v11.2))))), (88, .e (.one (.pure (.val (.bool v31)))))] [(3, .box [.pure (.sl (p1.fBase.map Ai)), .pure (.sl (p1.fNext.map Ai)), .pure (.sl (p1.fHeld.map BX))]), (7, .box [.pure (.val (.int .i64 v4.fKind)), .pure (.val (.int .i64 v4.fFrom)), .pure (.val (.int .i64 v4.fTo)), .pure (.val (.bool v4.fAware)), .pure (.sl (v4.fOK.map (EM eB))), .pure (.sl (v4.fRewrite.map (EM eB)))]), (2012, .vec 3 (v19.1.map BP))]) (fun j31 h => ?_) (fun v31 h => ?_)
         ·refine Aa Ad rfl (qf JD rfl (ql O5 rfl (qm rfl ?_)))
          refine AA (t := 85) rfl (fun c32 => ?_) (fun c32 => ?_)
          ·have h := An c32 h
           refine qm rfl (Cg rfl (qp rfl (Ac ?_)))
           exact Av _ h (sm [(2012, 2008)] _ _ rfl rfl)
          ·have h := Am c32 h
           refine qn rfl (qn rfl (qp rfl (Ac ?_)))
           exact Av _ h (sm [(2012, 2008)] _ _ rfl rfl)
         ·refine Ao rfl (fun c33 => ?_) (fun c33 => ?_)
          ·have h := An c33 h
           refine Aa Ad rfl (qm rfl (qm rfl (qm rfl (Cy Ia Mz rfl (E4 HB GI Ia rfl ?_)))))
           obtain ⟨c34, h⟩ := AT h
           refine EK (f := BP) HB HB GI Nb Ia c34 rfl (qa rfl (Ac ?_))
           exact Av _ h (sm [(2006, 94)] _ _ rfl rfl)
          ·have h := Am c33 h
           refine Ap ?_
           exact Av _ h (sm [(2006, 2012)] _ _ rfl rfl)
      ·refine Aa Ad rfl (AO rfl (qm rfl (Ac ?_)))
       exact Av _ h (sm [(2004, 2006)] _ _ rfl rfl)
     ·have h := Am c13 h
      refine AR ?_
      exact Av _ h (sm [(2005, 2004)] _ _ rfl rfl)
    ·refine Aj hs (Aa Ad rfl (AO rfl (qm rfl (Ac ?_))))
     exact Av _ h (sm [(2001, 2005)] _ _ rfl rfl)
  ·have h := Am c3 h
   refine AR ?_
   exact Av _ h (sm [(2002, 2001)] _ _ rfl rfl)
 ·refine Aj hs (Ab (Aa Ad rfl (qm rfl (qa rfl (Ac ?_)))))
  obtain rfl := sj h
  refine Aj (sm [(1000, 2002)] [(4, .e (.one (.own 1000)))] [(1000, .vec 3 (v2.map BP))] rfl rfl) (Ax ?_)
  exact ⟨⟨[_], ⟨.tmp _ _ rfl, trivial⟩, rfl⟩, ⟨rfl, trivial⟩⟩
set_option maxRecDepth 10000 in
theorem LW (N : Nat) (p0 : Ak) (p1 : Af) (r : Af × AL × Int) (h : Hh N p0 p1 = some r) : Az Try.prog 50 [.e (.agg [.pure (.sl (p0.fVersions.map Ai)), .pure (.sl (p0.fNow.map Ai)), .pure (.sl (p0.fTarget.map Ai)), .pure (.sl (p0.fTables.map Ar))]), .e (.agg [.pure (.sl (p1.fBase.map Ai)), .pure (.sl (p1.fNext.map Ai)), .pure (.sl (p1.fHeld.map BX))])] [] (.tup [.agg [.pure (.sl (r.1.fBase.map Ai)), .pure (.sl (r.1.fNext.map Ai)), .pure (.sl (r.1.fHeld.map BX))], .agg [.pure (.val (.int .i64 r.2.1.fTable)), .pure (.val (.int .i64 r.2.1.fWriter)), .pure (.val (.int .i64 r.2.1.fReader))], .one (.pure (.val (.int .i64 r.2.2)))]) := by
 unfold Hh at h
 refine Aq (n := 42) (rs := [.cell 4 42, .cell 5 101, .tmp 6]) Try.func50 rfl rfl rfl (AV rfl) (AV rfl) rfl fun w0 S0 => ?_
 refine Ab (Aa Ad rfl (qb rfl (qb rfl (qz CZ rfl (qz Ia rfl (qa rfl (Ac (Ab (Aa Ad rfl (qL Do Dh rfl (qL AU Aw rfl ?_)))))))))))
 obtain ⟨v1, a1, h⟩ := bind_some h
 refine AB [2001] (IQ N p0 p1 v1 a1) Qr rfl (qm rfl (qx rfl (qx rfl (qa rfl (qa rfl (Ac (Ab (Ab (Aa Ad rfl (qm rfl (Ch rfl (Ac ?_))))))))))))
 refine Ao rfl (fun c2 => ?_) (fun c2 => ?_)
 ·have h := An c2 h
  refine Ab (Aa Ad rfl (Cy CZ IT rfl (Cy Ia Mz rfl (qm rfl (qs Aw rfl (qs GI rfl (qa rfl (Ac ?_))))))))
  obtain rfl := sj h
  refine Aj ((IV 4 _ rfl).trans (sm [] [(4, .e (.one (.ptr 4 0))), (5, .e (.one (.ptr 5 0))), (6, .e (.one (.pure (.val (.int .i64 v1.2)))))] [(4, .box [.pure (.sl ((([] : List Int)).map Ai)), .pure (.sl ((([] : List Int)).map Ai)), .pure (.sl ((([] : List Int)).map BX))]), (5, .box [.pure (.val (.int .i64 0)), .pure (.val (.int .i64 0)), .pure (.val (.int .i64 0))])] rfl rfl)) (Ax ?_)
  exact ⟨⟨[_, _, _], ⟨.cellN _ _ _ _ _ _ _ rfl rfl AU Aw rfl rfl (JB rfl), ⟨.cellN _ _ _ _ _ _ _ rfl rfl MB GI rfl rfl (JB rfl), ⟨.tmp _ _ rfl, trivial⟩⟩⟩, rfl⟩, trivial⟩
 ·have h := Am c2 h
  refine Ap (Ab (Ab (Aa Ad rfl (qm rfl (CU AE rfl (qm rfl (Ac ?_)))))))
  refine AF (L := EV N p0 v1) h (fun v3 => mk [(2, .e (.one (.ptr 2 0))), (4, .e (.one (.ptr 4 0))), (5, .e (.one (.ptr 5 0))), (23, .e (.one (.own 2002))), (24, .e (.one (.pure (.val (.int .i64 ((v1.1.length : Int))))))), (25, .e (.one (.pure (.val (.int .i64 v3)))))] [(2, .box [.pure (.sl (p0.fVersions.map Ai)), .pure (.sl (p0.fNow.map Ai)), .pure (.sl (p0.fTarget.map Ai)), .pure (.sl (p0.fTables.map Ar))]), (4, .box [.pure (.nil0), .pure (.nil0), .pure (.nil0)]), (5, .box [.pure (.val (.int .i64 0)), .pure (.val (.int .i64 0)), .pure (.val (.int .i64 0))]), (2002, .vec 3 (v1.1.map Ae))]) (fun v4 => mk [(4, .e (.one (.ptr 4 0))), (5, .e (.one (.ptr 5 0)))] [(4, .box [.pure (.nil0), .pure (.nil0), .pure (.nil0)]), (5, .box [.pure (.val (.int .i64 0)), .pure (.val (.int .i64 0)), .pure (.val (.int .i64 0))])]) (fun _ _ => rfl) (sm [(2002, 2001)] _ _ rfl rfl) (fun j3 n3 v3 h => ?_) (fun v4 s h hs => ?_)
  ·unfold EV at h
   refine Ab (Aa Ad rfl (AS rfl (Ac (Ab ?_))))
   refine Ao rfl (fun c5 => ?_) (fun c5 => ?_)
   ·have h := An c5 h
    refine Ap (Ab (AI (Ab (Aa Ad rfl ?_))))
    obtain ⟨v6, a6, b6, h⟩ := Ah h
    refine qI AE Aw a6 (Ag b6) rfl (qJ AU Aw (Ag b6) rfl (qz CZ rfl (qs Aw rfl (Ac (Ab (Aa Ad rfl (qL Do Dh rfl (qL AU Aw rfl ?_))))))))
    obtain ⟨v7, a7, h⟩ := bind_some h
    refine AB [2003] (Js N p0 v6 v7 a7) QX rfl (qa rfl (Ac (Ab (Aa Ad rfl (qm rfl (CU HB rfl (Dd rfl (Ac ?_))))))))
    refine Ao rfl (fun c8 => ?_) (fun c8 => ?_)
    ·have h := An c8 h
     refine Ab (Aa Ad rfl (qL AU Aw rfl (qm rfl ?_)))
     obtain ⟨v9, a9, b9, h⟩ := Ah h
     refine qI HB GI a9 (Ag b9) rfl (qJ MB GI (Ag b9) rfl (qs Aw rfl (qs GI rfl (qa rfl (AJ (by kernel_rfl) ?_)))))
     obtain rfl := sj h
     refine Aj (sm [] [(4, .e (.one (.ptr 4 0))), (5, .e (.one (.ptr 5 0))), (6, .e (.one (.pure (.val (.int .i64 0)))))] [(4, .box [.pure (.sl (v6.fBase.map Ai)), .pure (.sl (v6.fNext.map Ai)), .pure (.sl (v6.fHeld.map BX))]), (5, .box [.pure (.val (.int .i64 v9.fTable)), .pure (.val (.int .i64 v9.fWriter)), .pure (.val (.int .i64 v9.fReader))])] rfl rfl) (Ax ?_)
     exact ⟨⟨[_, _, _], ⟨.cellN _ _ _ _ _ _ _ rfl rfl AU Aw rfl rfl (JB rfl), ⟨.cellN _ _ _ _ _ _ _ rfl rfl MB GI rfl rfl (JB rfl), ⟨.tmp _ _ rfl, trivial⟩⟩⟩, rfl⟩, trivial⟩
    ·have h := Am c8 h
     refine Ap (Aa Ad rfl (AO rfl (qm rfl (Ac ?_))))
     exact Av _ h (sm [] _ _ rfl rfl)
   ·have h := Am c5 h
    refine AR ?_
    exact Av _ h (sm [] _ _ rfl rfl)
  ·refine Aj hs (Ab (Aa Ad rfl (Cy CZ IT rfl (Cy Ia Mz rfl (qs Aw rfl (qs GI rfl (qa rfl (Ac ?_))))))))
   obtain rfl := sj h
   refine Aj ((IV 4 _ rfl).trans (sm [] [(4, .e (.one (.ptr 4 0))), (5, .e (.one (.ptr 5 0))), (6, .e (.one (.pure (.val (.int .i64 15)))))] [(4, .box [.pure (.sl ((([] : List Int)).map Ai)), .pure (.sl ((([] : List Int)).map Ai)), .pure (.sl ((([] : List Int)).map BX))]), (5, .box [.pure (.val (.int .i64 0)), .pure (.val (.int .i64 0)), .pure (.val (.int .i64 0))])] rfl rfl)) (Ax ?_)
   exact ⟨⟨[_, _, _], ⟨.cellN _ _ _ _ _ _ _ rfl rfl AU Aw rfl rfl (JB rfl), ⟨.cellN _ _ _ _ _ _ _ rfl rfl MB GI rfl rfl (JB rfl), ⟨.tmp _ _ rfl, trivial⟩⟩⟩, rfl⟩, trivial⟩
set_option maxRecDepth 10000 in
theorem G5 (N : Nat) (p0 : Ak) (p1 : Af) (r : Bool × Int) (h : ER N p0 p1 = some r) : Az Try.prog 28 [.e (.agg [.pure (.sl (p0.fVersions.map Ai)), .pure (.sl (p0.fNow.map Ai)), .pure (.sl (p0.fTarget.map Ai)), .pure (.sl (p0.fTables.map Ar))]), .e (.agg [.pure (.sl (p1.fBase.map Ai)), .pure (.sl (p1.fNext.map Ai)), .pure (.sl (p1.fHeld.map BX))])] [] (.tup [.one (.pure (.val (.bool r.1))), .one (.pure (.val (.int .i64 r.2)))]) := by
 unfold ER at h
 refine Aq (n := 22) (rs := [.tmp 4, .tmp 5]) Try.func28 rfl rfl rfl (AV rfl) (AV rfl) rfl fun w0 S0 => ?_
 refine Ab (Aa Ad rfl (qb rfl (qb rfl (qa rfl (qa rfl (Ac (Ab (Aa Ad rfl (qL Do Dh rfl (qL AU Aw rfl ?_))))))))))
 obtain ⟨v1, a1, h⟩ := bind_some h
 refine AB [] (LW N p0 p1 v1 a1) Q9 rfl (qm rfl (qx rfl (qx rfl (qx rfl (qz CZ rfl (qz Ia rfl (qs Aw rfl (qs GI rfl (qa rfl (Ac (Ab (Aa Ad rfl (qm rfl (Ac (AI (Ab (Aa Ad rfl (BR rfl (qa rfl (Ac ?_))))))))))))))))))))
 refine Ao rfl (fun c2 => ?_) (fun c2 => ?_)
 ·have h := An c2 h
  refine Ab (Aa Ad rfl (qa rfl (qa rfl (Ac ?_))))
  obtain rfl := sj h
  refine Aj (sm [] [(4, .e (.one (.pure (.val (.bool false))))), (5, .e (.one (.pure (.val (.int .i64 0)))))] [] rfl rfl) (Ax ?_)
  exact ⟨⟨[_, _], ⟨.tmp _ _ rfl, ⟨.tmp _ _ rfl, trivial⟩⟩, rfl⟩, trivial⟩
 ·have h := Am c2 h
  refine Ab (Aa Ad rfl (BR rfl (qa rfl (Ac ?_))))
  refine Ao rfl (fun c3 => ?_) (fun c3 => ?_)
  ·have h := An c3 h
   refine Ab (Aa Ad rfl (qa rfl (qa rfl (Ac ?_))))
   obtain rfl := sj h
   refine Aj (sm [] [(4, .e (.one (.pure (.val (.bool true))))), (5, .e (.one (.pure (.val (.int .i64 0)))))] [] rfl rfl) (Ax ?_)
   exact ⟨⟨[_, _], ⟨.tmp _ _ rfl, ⟨.tmp _ _ rfl, trivial⟩⟩, rfl⟩, trivial⟩
  ·have h := Am c3 h
   refine Ab (Aa Ad rfl (qm rfl (qa rfl (qa rfl (Ac ?_)))))
   obtain rfl := sj h
   refine Aj (sm [] [(4, .e (.one (.pure (.val (.bool false))))), (5, .e (.one (.pure (.val (.int .i64 v1.2.2)))))] [] rfl rfl) (Ax ?_)
   exact ⟨⟨[_, _], ⟨.tmp _ _ rfl, ⟨.tmp _ _ rfl, trivial⟩⟩, rfl⟩, trivial⟩
set_option maxRecDepth 10000 in
theorem H9 (N : Nat) (p0 : Ak) (r : Af × Bool × Int) (h : DP N p0 = some r) : Az Try.prog 29 [.e (.agg [.pure (.sl (p0.fVersions.map Ai)), .pure (.sl (p0.fNow.map Ai)), .pure (.sl (p0.fTarget.map Ai)), .pure (.sl (p0.fTables.map Ar))])] [(1, r.1.fBase.map Ai), (1, r.1.fNext.map Ai), (1, r.1.fHeld.map BX)] (.tup [.agg [.own 0, .own 1, .own 2], .one (.pure (.val (.bool r.2.1))), .one (.pure (.val (.int .i64 r.2.2)))]) := by
 unfold DP at h
 refine Aq (n := 26) (rs := [.cell 2 42, .tmp 3, .tmp 4]) Try.func29 rfl rfl rfl (AV rfl) (AV rfl) rfl fun w0 S0 => ?_
 refine Ab (Aa Ad rfl (qb rfl (qz CZ rfl (qa rfl (qa rfl (Ac (Ab (Aa Ad rfl (qL Do Dh rfl ?_)))))))))
 obtain ⟨v1, a1, h⟩ := bind_some h
 refine AB [2001, 2002, 2003] (Ja N p0 v1 a1) Qg rfl (qm rfl (qx rfl (qx rfl (qz CZ rfl (qs Aw rfl (qa rfl (Ac (Ab (Ab (Aa Ad rfl (qm rfl (Ch rfl (Ac ?_)))))))))))))
 refine Ao rfl (fun c2 => ?_) (fun c2 => ?_)
 ·have h := An c2 h
  refine Ab (Aa Ad rfl (Cy CZ IT rfl (qm rfl (qs Aw rfl (qa rfl (qa rfl (Ac ?_)))))))
  obtain rfl := sj h
  refine Aj ((BK 2 0 2004 1 _ rfl rfl rfl rfl).trans ((BK 2 1 2005 1 _ rfl rfl rfl rfl).trans ((BK 2 2 2006 1 _ rfl rfl rfl rfl).trans (sm [(1000, 2004), (1001, 2005), (1002, 2006)] [(2, .e (.one (.ptr 2 0))), (3, .e (.one (.pure (.val (.bool false))))), (4, .e (.one (.pure (.val (.int .i64 v1.2)))))] [(2, .box [.own 1000, .own 1001, .own 1002]), (1000, .vec 1 ((([] : List Int)).map Ai)), (1001, .vec 1 ((([] : List Int)).map Ai)), (1002, .vec 1 ((([] : List Int)).map BX))] rfl rfl)))) (Ax ?_)
  exact ⟨⟨[_, _, _], ⟨.cellN _ _ _ _ _ _ _ rfl rfl AU Aw rfl rfl (JB rfl), ⟨.tmp _ _ rfl, ⟨.tmp _ _ rfl, trivial⟩⟩⟩, rfl⟩, ⟨rfl, rfl, rfl, trivial⟩⟩
 ·have h := Am c2 h
  refine Ap (Ab (Aa Ad rfl (qL Do Dh rfl (qL AU Aw rfl ?_))))
  obtain ⟨v3, a3, h⟩ := bind_some h
  refine Fr [] [2001, 2002, 2003] (G5 N p0 v1.1 v3 a3) Pi DQ rfl (qm rfl (qx rfl (qx rfl (qa rfl (qa rfl (Ac (Ab (Aa Ad rfl (qL AU Aw rfl (qm rfl (qm rfl (qs Aw rfl (qa rfl (qa rfl (Ac ?_)))))))))))))))
  obtain rfl := sj h
  refine Aj (sm [(1000, 2001), (1001, 2002), (1002, 2003)] [(2, .e (.one (.ptr 2 0))), (3, .e (.one (.pure (.val (.bool v3.1))))), (4, .e (.one (.pure (.val (.int .i64 v3.2)))))] [(2, .box [.own 1000, .own 1001, .own 1002]), (1000, .vec 1 (v1.1.fBase.map Ai)), (1001, .vec 1 (v1.1.fNext.map Ai)), (1002, .vec 1 (v1.1.fHeld.map BX))] rfl rfl) (Ax ?_)
  exact ⟨⟨[_, _, _], ⟨.cellN _ _ _ _ _ _ _ rfl rfl AU Aw rfl rfl (JB rfl), ⟨.tmp _ _ rfl, ⟨.tmp _ _ rfl, trivial⟩⟩⟩, rfl⟩, ⟨rfl, rfl, rfl, trivial⟩⟩
end Go.Lift

/- That the code does what the shallow programs do, function by function. Written by a program (gen.py). -/
namespace Go.Lift
open Go.RowKit
open Go.Proofs
set_option maxRecDepth 10000 in
theorem Hv (N : Nat) (p0 : Af) (r : ByteArray) (h : Fh N p0 = some r) : Az Try.prog 30 [.e (.agg [.pure (.sl (p0.fBase.map Ai)), .pure (.sl (p0.fNext.map Ai)), .pure (.sl (p0.fHeld.map BX))])] [] (.e (.one (.pure (.val (.string r))))) := by
 unfold Fh at h
 refine Aq (n := 44) (rs := [.tmp 2]) Try.func30 rfl rfl rfl (AV rfl) (AV rfl) rfl fun w0 S0 => ?_
 refine Ab (Aa Ad rfl (qb rfl (qa rfl (Ac (Ab (Aa Ad rfl (qa rfl (Ac (Ab (Ab (Aa Ad rfl (qf Dn rfl (ql BS rfl (AM AK rfl (qm rfl (Ac ?_))))))))))))))))
 refine AF (L := EW N p0) h (fun v1 => mk [(1, .e (.one (.ptr 1 0))), (3, .e (.one (.own 2001))), (9, .e (.one (.pure (.val (.int .i64 ((p0.fBase.length : Int))))))), (10, .e (.one (.pure (.val (.int .i64 v1.2)))))] [(1, .box [.pure (.sl (p0.fBase.map Ai)), .pure (.sl (p0.fNext.map Ai)), .pure (.sl (p0.fHeld.map BX))]), (2001, .vec 1 (v1.1.map BX))]) (fun v2 => mk [(1, .e (.one (.ptr 1 0))), (3, .e (.one (.own 2002)))] [(1, .box [.pure (.sl (p0.fBase.map Ai)), .pure (.sl (p0.fNext.map Ai)), .pure (.sl (p0.fHeld.map BX))]), (2002, .vec 1 (v2.map BX))]) (fun _ _ => rfl) ((Bk 3 2003 1 rfl rfl rfl).trans (sm [(2001, 2003)] _ _ rfl rfl)) (fun j1 n1 v1 h => ?_) (fun v2 s h hs => ?_)
 ·unfold EW at h
  refine Ab (Aa Ad rfl (AS rfl (Ac (Ab ?_))))
  refine Ao rfl (fun c3 => ?_) (fun c3 => ?_)
  ·have h := An c3 h
   refine Ap (Ab (AI (Ab (Aa Ad rfl (qm rfl (qa rfl (Ac (Aa Ad rfl (qm rfl (qf Dn rfl (ql BS rfl (qm rfl ?_))))))))))))
   obtain ⟨v4, a4, b4, h⟩ := Ah h
   refine qi AK Ee a4 (Ag b4) rfl (qk CQ rfl (FY PD QR rfl (qf Cz rfl (ql BS rfl (qm rfl ?_)))))
   obtain ⟨v5, a5, b5, h⟩ := Ah h
   refine qi AK Ee a5 (Ag b5) rfl (qk CQ rfl (AO rfl (FY PD QR rfl (E4 H6 PQ PR rfl ?_))))
   obtain ⟨c6, h⟩ := AT h
   refine EK (f := BX) H6 H6 PQ PY PR c6 rfl (qa rfl (AJ (by kernel_rfl) (Aa Ad rfl (AO rfl (qm rfl (Ac ?_))))))
   exact Av _ h (sm [(2001, 28)] _ _ rfl rfl)
  ·have h := Am c3 h
   refine AR ?_
   exact Av _ h (sm [(2002, 2001)] _ _ rfl rfl)
 ·refine Aj hs (Ab (Ab (Aa Ad rfl (qf DL rfl (ql HZ rfl (AM Db rfl (qm rfl (Ac ?_))))))))
  refine AF (L := ET N p0) h (fun v7 => mk [(3, .e (.one (.own 2004))), (31, .e (.one (.pure (.sl (p0.fHeld.map BX))))), (32, .e (.one (.pure (.val (.int .i64 ((p0.fHeld.length : Int))))))), (33, .e (.one (.pure (.val (.int .i64 v7.2)))))] [(2004, .vec 1 (v7.1.map BX))]) (fun v8 => mk [(3, .e (.one (.own 2005)))] [(2005, .vec 1 (v8.map BX))]) (fun _ _ => rfl) (sm [(2004, 2002)] _ _ rfl rfl) (fun j7 n7 v7 h => ?_) (fun v8 s h hs => ?_)
  ·unfold ET at h
   refine Ab (Aa Ad rfl (AS rfl (Ac (Ab ?_))))
   refine Ao rfl (fun c9 => ?_) (fun c9 => ?_)
   ·have h := An c9 h
    refine Ap (Ab (AI (Ab (Aa Ad rfl ?_))))
    obtain ⟨v10, a10, b10, h⟩ := Ah h
    refine qi Db FP a10 (Ag b10) rfl (qk Jy rfl (qa rfl (Ac (Aa Ad rfl (qm rfl (qm rfl (E4 H6 PQ PR rfl ?_)))))))
    obtain ⟨c11, h⟩ := AT h
    refine EK (f := BX) H6 H6 PQ PY PR c11 rfl (qa rfl (Ac (Aa Ad rfl (AO rfl (qm rfl (Ac ?_))))))
    exact Av _ h (sm [(2004, 40)] _ _ rfl rfl)
   ·have h := Am c9 h
    refine AR ?_
    exact Av _ h (sm [(2005, 2004)] _ _ rfl rfl)
  ·refine Aj hs (Ab (Aa Ad rfl (qm rfl ?_)))
   refine NM v8 (.p rfl) rfl (NH BX _ _ _) ⟨rfl, trivial⟩ rfl Qf OP ?_
   refine qa rfl (Ac ?_)
   obtain rfl := sj h
   refine Aj (sm [] [(2, .e (.one (.pure (.val (.string ((Gv v8)))))))] [] rfl rfl) (Ax ?_)
   exact ⟨⟨[_], ⟨.tmp _ _ rfl, trivial⟩, rfl⟩, trivial⟩
set_option maxRecDepth 10000 in
theorem Mj (N : Nat) (p0 : Ak) (r : (List Au)) (h : HM N p0 = some r) : Az Try.prog 76 [.e (.agg [.pure (.sl (p0.fVersions.map Ai)), .pure (.sl (p0.fNow.map Ai)), .pure (.sl (p0.fTarget.map Ai)), .pure (.sl (p0.fTables.map Ar))])] [(3, r.map AC)] (.e (.one (.own 0))) := by
 unfold HM at h
 refine Aq (n := 54) (rs := [.tmp 2]) Try.func76 rfl rfl rfl (AV rfl) (AV rfl) rfl fun w0 S0 => ?_
 refine Ab (Aa Ad rfl (qb rfl (qa rfl (Ac (Ab (Aa Ad rfl (qa rfl (Ac (Ab (Ab (Aa Ad rfl (qf Ck rfl (ql BS rfl (AM AK rfl (qm rfl (Ac ?_))))))))))))))))
 refine AF (L := Fy N p0) h (fun v1 => mk [(1, .e (.one (.ptr 1 0))), (3, .e (.one (.own 2001))), (10, .e (.one (.pure (.sl (p0.fVersions.map Ai))))), (11, .e (.one (.pure (.val (.int .i64 ((p0.fVersions.length : Int))))))), (12, .e (.one (.pure (.val (.int .i64 v1.2)))))] [(1, .box [.pure (.sl (p0.fVersions.map Ai)), .pure (.sl (p0.fNow.map Ai)), .pure (.sl (p0.fTarget.map Ai)), .pure (.sl (p0.fTables.map Ar))]), (2001, .vec 3 (v1.1.map AC))]) (fun v2 => mk [(1, .e (.one (.ptr 1 0))), (3, .e (.one (.own 2002)))] [(1, .box [.pure (.sl (p0.fVersions.map Ai)), .pure (.sl (p0.fNow.map Ai)), .pure (.sl (p0.fTarget.map Ai)), .pure (.sl (p0.fTables.map Ar))]), (2002, .vec 3 (v2.map AC))]) (fun _ _ => rfl) ((Bk 3 2005 3 rfl rfl rfl).trans (sm [(2001, 2005)] _ _ rfl rfl)) (fun j1 n1 v1 h => ?_) (fun v2 s h hs => ?_)
 ·unfold Fy at h
  refine Ab (Aa Ad rfl (AS rfl (Ac (Ab ?_))))
  refine Ao rfl (fun c3 => ?_) (fun c3 => ?_)
  ·have h := An c3 h
   refine Ap (Ab (AI (Ab (Aa Ad rfl (qm rfl ?_)))))
   obtain ⟨v4, a4, b4, h⟩ := Ah h
   refine qi AK Ee a4 (Ag b4) rfl (qk CQ rfl (qa rfl (qa rfl (Ac (Ab (Aa Ad rfl (qm rfl (qm rfl (Ac ?_)))))))))
   refine AF (L := Fz N v1 v4) h (fun v5 => mk [(1, .e (.one (.ptr 1 0))), (3, .e (.one (.own 2003))), (4, .e (.one (.pure (.val (.int .i64 v1.2))))), (10, .e (.one (.pure (.sl (p0.fVersions.map Ai))))), (11, .e (.one (.pure (.val (.int .i64 ((p0.fVersions.length : Int))))))), (12, .e (.one (.pure (.val (.int .i64 v1.2))))), (17, .e (.one (.pure (.val (.int .i64 v4))))), (18, .e (.one (.pure (.val (.int .i64 v5.2)))))] [(1, .box [.pure (.sl (p0.fVersions.map Ai)), .pure (.sl (p0.fNow.map Ai)), .pure (.sl (p0.fTarget.map Ai)), .pure (.sl (p0.fTables.map Ar))]), (2003, .vec 3 (v5.1.map AC))]) (fun v6 => mk [(1, .e (.one (.ptr 1 0))), (3, .e (.one (.own 2004))), (10, .e (.one (.pure (.sl (p0.fVersions.map Ai))))), (11, .e (.one (.pure (.val (.int .i64 ((p0.fVersions.length : Int))))))), (12, .e (.one (.pure (.val (.int .i64 v1.2)))))] [(1, .box [.pure (.sl (p0.fVersions.map Ai)), .pure (.sl (p0.fNow.map Ai)), .pure (.sl (p0.fTarget.map Ai)), .pure (.sl (p0.fTables.map Ar))]), (2004, .vec 3 (v6.map AC))]) (fun _ _ => rfl) (sm [(2003, 2001)] _ _ rfl rfl) (fun j5 n5 v5 h => ?_) (fun v6 s h hs => ?_)
   ·unfold Fz at h
    refine Ab (Aa Ad rfl (AS rfl (Ac (Ab ?_))))
    refine Ao rfl (fun c7 => ?_) (fun c7 => ?_)
    ·have h := An c7 h
     refine Ap (Ab (AI (Ab (Aa Ad rfl (qm rfl (qa rfl (Ac (Aa Ad rfl (qm rfl (qm rfl (qm rfl (Cy G8 Ov rfl (E4 CY DW G8 rfl ?_)))))))))))))
     obtain ⟨c8, h⟩ := AT h
     refine EK (f := AC) CY CY DW Lo G8 c8 rfl (qa rfl (Ac (Aa Ad rfl (AO rfl (qm rfl (Ac ?_))))))
     exact Av _ h (sm [(2003, 26)] _ _ rfl rfl)
    ·have h := Am c7 h
     refine AR ?_
     exact Av _ h (sm [(2004, 2003)] _ _ rfl rfl)
   ·refine Aj hs (Aa Ad rfl (AO rfl (qm rfl (Ac ?_))))
    exact Av _ h (sm [(2001, 2004)] _ _ rfl rfl)
  ·have h := Am c3 h
   refine AR ?_
   exact Av _ h (sm [(2002, 2001)] _ _ rfl rfl)
 ·refine Aj hs (Ab (Ab (Aa Ad rfl (qf Ck rfl (ql BS rfl (AM AK rfl (qm rfl (Ac ?_))))))))
  refine AF (L := Fo N p0) h (fun v9 => mk [(1, .e (.one (.ptr 1 0))), (3, .e (.one (.own 2006))), (31, .e (.one (.pure (.val (.int .i64 ((p0.fVersions.length : Int))))))), (32, .e (.one (.pure (.val (.int .i64 v9.2)))))] [(1, .box [.pure (.sl (p0.fVersions.map Ai)), .pure (.sl (p0.fNow.map Ai)), .pure (.sl (p0.fTarget.map Ai)), .pure (.sl (p0.fTables.map Ar))]), (2006, .vec 3 (v9.1.map AC))]) (fun v10 => mk [(1, .e (.one (.ptr 1 0))), (3, .e (.one (.own 2007)))] [(1, .box [.pure (.sl (p0.fVersions.map Ai)), .pure (.sl (p0.fNow.map Ai)), .pure (.sl (p0.fTarget.map Ai)), .pure (.sl (p0.fTables.map Ar))]), (2007, .vec 3 (v10.map AC))]) (fun _ _ => rfl) (sm [(2006, 2002)] _ _ rfl rfl) (fun j9 n9 v9 h => ?_) (fun v10 s h hs => ?_)
  ·unfold Fo at h
   refine Ab (Aa Ad rfl (AS rfl (Ac (Ab ?_))))
   refine Ao rfl (fun c11 => ?_) (fun c11 => ?_)
   ·have h := An c11 h
    refine Ap (Ab (AI (Ab (Aa Ad rfl (qm rfl (qa rfl (Ac (Aa Ad rfl (qm rfl (qm rfl (Cy G8 Ov rfl (E4 CY DW G8 rfl ?_))))))))))))
    obtain ⟨c12, h⟩ := AT h
    refine EK (f := AC) CY CY DW Lo G8 c12 rfl (qa rfl (Ac (Aa Ad rfl (AO rfl (qm rfl (Ac ?_))))))
    exact Av _ h (sm [(2006, 39)] _ _ rfl rfl)
   ·have h := Am c11 h
    refine AR ?_
    exact Av _ h (sm [(2007, 2006)] _ _ rfl rfl)
  ·refine Aj hs (Ab (Ab (Aa Ad rfl (qf CI rfl (ql Gp rfl (AM DH rfl (qm rfl (Ac ?_))))))))
   refine AF (L := EU N p0) h (fun v13 => mk [(3, .e (.one (.own 2008))), (43, .e (.one (.pure (.val (.int .i64 ((p0.fTables.length : Int))))))), (44, .e (.one (.pure (.val (.int .i64 v13.2)))))] [(2008, .vec 3 (v13.1.map AC))]) (fun v14 => mk [(3, .e (.one (.own 2009)))] [(2009, .vec 3 (v14.map AC))]) (fun _ _ => rfl) (sm [(2008, 2007)] _ _ rfl rfl) (fun j13 n13 v13 h => ?_) (fun v14 s h hs => ?_)
   ·unfold EU at h
    refine Ab (Aa Ad rfl (AS rfl (Ac (Ab ?_))))
    refine Ao rfl (fun c15 => ?_) (fun c15 => ?_)
    ·have h := An c15 h
     refine Ap (Ab (AI (Ab (Aa Ad rfl (qm rfl (qa rfl (Ac (Aa Ad rfl (qm rfl (qm rfl (Cy G8 Ov rfl (E4 CY DW G8 rfl ?_))))))))))))
     obtain ⟨c16, h⟩ := AT h
     refine EK (f := AC) CY CY DW Lo G8 c16 rfl (qa rfl (Ac (Aa Ad rfl (AO rfl (qm rfl (Ac ?_))))))
     exact Av _ h (sm [(2008, 51)] _ _ rfl rfl)
    ·have h := Am c15 h
     refine AR ?_
     exact Av _ h (sm [(2009, 2008)] _ _ rfl rfl)
   ·refine Aj hs (Ab (Aa Ad rfl (qm rfl (qa rfl (Ac ?_)))))
    obtain rfl := sj h
    refine Aj (sm [(1000, 2009)] [(2, .e (.one (.own 1000)))] [(1000, .vec 3 (v14.map AC))] rfl rfl) (Ax ?_)
    exact ⟨⟨[_], ⟨.tmp _ _ rfl, trivial⟩, rfl⟩, ⟨rfl, trivial⟩⟩
set_option maxRecDepth 10000 in
theorem Id (N : Nat) (p0 : Af) (r : Af) (h : Fw N p0 = some r) : Az Try.prog 60 [.e (.agg [.pure (.sl (p0.fBase.map Ai)), .pure (.sl (p0.fNext.map Ai)), .pure (.sl (p0.fHeld.map BX))])] [(1, r.fBase.map Ai), (1, r.fNext.map Ai), (1, r.fHeld.map BX)] (.e (.agg [.own 0, .own 1, .own 2])) := by
 unfold Fw at h
 refine Aq (n := 13) (rs := [.cell 2 42]) Try.func60 rfl rfl rfl (AV rfl) (AV rfl) rfl fun w0 S0 => ?_
 refine Ab (Aa Ad rfl (qb rfl (qz CZ rfl (Ac (Ab (Aa Ad rfl (qf Dn rfl (ql BS rfl ?_))))))))
 obtain ⟨v1, a1, h⟩ := bind_some h
 refine AB [2001] (CC N p0.fBase v1 a1) NY rfl (qf Cz rfl (ql BS rfl ?_))
 obtain ⟨v2, a2, h⟩ := bind_some h
 refine AB [2002] (CC N p0.fNext v2 a2) NY rfl (qf DL rfl (ql HZ rfl ?_))
 obtain ⟨v3, a3, h⟩ := bind_some h
 refine AB [2003] (DR N p0.fHeld v3 a3) Qm rfl (Cy CZ IT rfl (qs Aw rfl (AJ (by kernel_rfl) ?_)))
 obtain rfl := sj h
 refine Aj (sm [(1000, 2001), (1001, 2002), (1002, 2003)] [(2, .e (.one (.ptr 2 0)))] [(2, .box [.own 1000, .own 1001, .own 1002]), (1000, .vec 1 (v1.map Ai)), (1001, .vec 1 (v2.map Ai)), (1002, .vec 1 (v3.map BX))] rfl rfl) (Ax ?_)
 exact ⟨⟨[_], ⟨.cellN _ _ _ _ _ _ _ rfl rfl AU Aw rfl rfl (JB rfl), trivial⟩, rfl⟩, ⟨rfl, rfl, rfl, trivial⟩⟩
set_option maxRecDepth 10000 in
theorem Ib (N : Nat) (p0 : AQ) (r : Bool) (h : Ft N p0 = some r) : Az Try.prog 99 [.e (.agg [.pure (.val (.int .i64 p0.fKind)), .pure (.val (.int .i64 p0.fFrom)), .pure (.val (.int .i64 p0.fTo)), .pure (.val (.bool p0.fAware)), .pure (.sl (p0.fOK.map (EM eB))), .pure (.sl (p0.fRewrite.map (EM eB)))])] [] (.e (.one (.pure (.val (.bool r))))) := by
 unfold Ft at h
 refine Aq (n := 11) (rs := [.tmp 2]) Try.func99 rfl rfl rfl (AV rfl) (AV rfl) rfl fun w0 S0 => ?_
 refine Ab (Aa Ad rfl (qb rfl (qa rfl (Ac ?_))))
 refine AN h (fun v1 => mk [(2, .e (.one (.pure (.val (.bool v1)))))] []) (fun j1 h => ?_) (fun v1 h => ?_)
 ·refine Aa Ad rfl (qf EY rfl (ql CQ rfl (BR rfl (qm rfl ?_))))
  refine AA (t := 6) rfl (fun c2 => ?_) (fun c2 => ?_)
  ·have h := An c2 h
   refine qn rfl (qn rfl (qn rfl (qp rfl (qa rfl (Ac ?_)))))
   exact Av _ h (sm [] _ _ rfl rfl)
  ·have h := Am c2 h
   refine qf EY rfl (ql CQ rfl (BR rfl (qp rfl (qa rfl (Ac ?_)))))
   exact Av _ h (sm [] _ _ rfl rfl)
 ·obtain rfl := sj h
  refine Aj (sm [] [(2, .e (.one (.pure (.val (.bool v1)))))] [] rfl rfl) (Ax ?_)
  exact ⟨⟨[_], ⟨.tmp _ _ rfl, trivial⟩, rfl⟩, trivial⟩
set_option maxRecDepth 10000 in
theorem KQ (N : Nat) (p0 : Ak) (p1 : Af) (p2 : Au) (r : Bool × (List Int) × (List Int)) (h : Gx N p0 p1 p2 = some r) : Bg Try.prog 92 [.e (.agg [.pure (.sl (p0.fVersions.map Ai)), .pure (.sl (p0.fNow.map Ai)), .pure (.sl (p0.fTarget.map Ai)), .pure (.sl (p0.fTables.map Ar))]), .e (.one (.ptr 90000 0)), .e (.agg [.pure (.val (.int .i64 p2.fKind)), .pure (.val (.int .i64 p2.fIndex)), .pure (.val (.int .i64 p2.fVersion))])] [(.box [.own 90001, .own 90002, .own 90003], .box [.own 90001, .own 90002, .own 90003]), (.vec 1 (p1.fBase.map Ai), .vec 1 (p1.fBase.map Ai)), (.vec 1 (p1.fNext.map Ai), .vec 1 (r.2.1.map Ai)), (.vec 1 (p1.fHeld.map BX), .vec 1 (r.2.2.map BX))] [] (.e (.one (.pure (.val (.bool r.1))))) := by
 unfold Gx at h
 refine A9 (n := 70) (rs := [.tmp 6]) Try.func92 rfl rfl rfl (AV rfl) (AV rfl) rfl rfl (AV rfl) rfl (AV rfl) fun w0 S0 GL => ?_
 refine Aj (sm [] [(0, .e (.agg [.pure (.sl (p0.fVersions.map Ai)), .pure (.sl (p0.fNow.map Ai)), .pure (.sl (p0.fTarget.map Ai)), .pure (.sl (p0.fTables.map Ar))])), (1, .e (.one (.ptr 90000 0))), (2, .e (.agg [.pure (.val (.int .i64 p2.fKind)), .pure (.val (.int .i64 p2.fIndex)), .pure (.val (.int .i64 p2.fVersion))]))] [(90000, .box [.own 90001, .own 90002, .own 90003]), (90001, .vec 1 (p1.fBase.map Ai)), (90002, .vec 1 (p1.fNext.map Ai)), (90003, .vec 1 (p1.fHeld.map BX))] rfl rfl) (Ab (Aa Ad rfl (qb rfl (qb rfl (qa rfl (Ac (Ab ?_)))))))
 refine AN h (fun v1 => mk [(1, .e (.one (.ptr 90000 0))), (3, .e (.one (.ptr 3 0))), (5, .e (.one (.ptr 5 0))), (30, .e (.one (.pure (.val (.bool v1)))))] [(3, .box [.pure (.sl (p0.fVersions.map Ai)), .pure (.sl (p0.fNow.map Ai)), .pure (.sl (p0.fTarget.map Ai)), .pure (.sl (p0.fTables.map Ar))]), (5, .box [.pure (.val (.int .i64 p2.fKind)), .pure (.val (.int .i64 p2.fIndex)), .pure (.val (.int .i64 p2.fVersion))]), (90000, .box [.own 90001, .own 90002, .own 90003]), (90001, .vec 1 (p1.fBase.map Ai)), (90002, .vec 1 (p1.fNext.map Ai)), (90003, .vec 1 (p1.fHeld.map BX))]) (fun j1 h => ?_) (fun v1 h => ?_)
 ·refine Aa Ad rfl (qm rfl (Kq rfl (qf Cz rfl (ql BS rfl (qf EX rfl (ql CQ rfl ?_))))))
  obtain ⟨v2, a2, b2, h⟩ := Ah h
  refine qI AK Ee a2 (Ag b2) rfl (qj CQ (Ag b2) rfl (Dc rfl (qm rfl ?_)))
  refine AA (t := 18) rfl (fun c3 => ?_) (fun c3 => ?_)
  ·have h := An c3 h
   refine qn rfl (qn rfl (qn rfl (qn rfl (qn rfl (qn rfl (qn rfl (qn rfl (qn rfl (qn rfl (qn rfl (qp rfl (AJ (by kernel_rfl) ?_))))))))))))
   exact Av _ h (sm [] _ _ rfl rfl)
  ·have h := Am c3 h
   refine qm rfl (Kq rfl (qf Dn rfl (ql BS rfl (qf EX rfl (ql CQ rfl ?_)))))
   obtain ⟨v4, a4, b4, h⟩ := Ah h
   refine qI AK Ee a4 (Ag b4) rfl (qj CQ (Ag b4) rfl (qf HX rfl (ql CQ rfl (BR rfl (qp rfl (AJ (by kernel_rfl) ?_))))))
   exact Av _ h (sm [] _ _ rfl rfl)
 ·refine Ao rfl (fun c5 => ?_) (fun c5 => ?_)
  ·have h := An c5 h
   refine Ab (Aa Ad rfl (qa rfl (Ac ?_)))
   obtain rfl := sj h
   refine Aj (sm [] [(6, .e (.one (.pure (.val (.bool false)))))] [(90000, .box [.own 90001, .own 90002, .own 90003]), (90001, .vec 1 (p1.fBase.map Ai)), (90002, .vec 1 (p1.fNext.map Ai)), (90003, .vec 1 (p1.fHeld.map BX))] rfl rfl) (Ax ?_)
   exact ⟨⟨[_], ⟨.tmp _ _ rfl, trivial⟩, rfl⟩, ⟨rfl, rfl, rfl, rfl, trivial⟩, trivial⟩
  ·have h := Am c5 h
   refine Ap (Ab (Aa Ad rfl (qm rfl (Kq rfl (qf Cz rfl (ql BS rfl (qf EX rfl (ql CQ rfl (qf HX rfl (ql CQ rfl ?_))))))))))
   obtain ⟨v6, a6, b6, h⟩ := Ah h
   refine qI AK Ee a6 (Ag b6) rfl ?_
   refine AZ rfl rfl rfl rfl (Ag b6) rfl Ee rfl (AV rfl) (A0 Ai p1.fNext _ p2.fVersion) ?_
   refine AJ (by kernel_rfl) (Ab (Ab (Aa Ad rfl (qf CI rfl (ql Gp rfl (AM DH rfl (qm rfl (Ac ?_))))))))
   refine AF (L := EA N p0 p2) h (fun v7 => mk [(1, .e (.one (.ptr 90000 0))), (5, .e (.one (.ptr 5 0))), (41, .e (.one (.pure (.sl (p0.fTables.map Ar))))), (42, .e (.one (.pure (.val (.int .i64 ((p0.fTables.length : Int))))))), (43, .e (.one (.pure (.val (.int .i64 v7.2)))))] [(5, .box [.pure (.val (.int .i64 p2.fKind)), .pure (.val (.int .i64 p2.fIndex)), .pure (.val (.int .i64 p2.fVersion))]), (90000, .box [.own 90001, .own 90002, .own 90003]), (90001, .vec 1 (p1.fBase.map Ai)), (90002, .vec 1 ((p1.fNext.set ((p2.fIndex).toNat) p2.fVersion).map Ai)), (90003, .vec 1 (v7.1.map BX))]) (fun v8 => mk [] [(90000, .box [.own 90001, .own 90002, .own 90003]), (90001, .vec 1 (p1.fBase.map Ai)), (90002, .vec 1 ((p1.fNext.set ((p2.fIndex).toNat) p2.fVersion).map Ai)), (90003, .vec 1 (v8.map BX))]) (fun _ _ => rfl) (sm [] _ _ rfl rfl) (fun j7 n7 v7 h => ?_) (fun v8 s h hs => ?_)
   ·unfold EA at h
    refine Ab (Aa Ad rfl (AS rfl (Ac (Ab ?_))))
    refine Ao rfl (fun c9 => ?_) (fun c9 => ?_)
    ·have h := An c9 h
     refine Ap ?_
     refine AN h (fun v10 => mk [(1, .e (.one (.ptr 90000 0))), (5, .e (.one (.ptr 5 0))), (41, .e (.one (.pure (.sl (p0.fTables.map Ar))))), (42, .e (.one (.pure (.val (.int .i64 ((p0.fTables.length : Int))))))), (43, .e (.one (.pure (.val (.int .i64 v7.2)))))] [(5, .box [.pure (.val (.int .i64 p2.fKind)), .pure (.val (.int .i64 p2.fIndex)), .pure (.val (.int .i64 p2.fVersion))]), (90000, .box [.own 90001, .own 90002, .own 90003]), (90001, .vec 1 (p1.fBase.map Ai)), (90002, .vec 1 ((p1.fNext.set ((p2.fIndex).toNat) p2.fVersion).map Ai)), (90003, .vec 1 (v10.map BX))]) (fun j10 h => ?_) (fun v10 h => ?_)
     ·refine AI (Ab (Aa Ad rfl (qm rfl ?_)))
      obtain ⟨v11, a11, b11, h⟩ := Ah h
      refine qi DH D9 a11 (Ag b11) rfl (qK H0 D9 rfl (qz KU rfl (qa rfl (qs D9 rfl (Ac ?_)))))
      refine AN h (fun v12 => mk [(1, .e (.one (.ptr 90000 0))), (5, .e (.one (.ptr 5 0))), (7, .e (.one (.pure (.val (.int .i64 v7.2))))), (41, .e (.one (.pure (.sl (p0.fTables.map Ar))))), (42, .e (.one (.pure (.val (.int .i64 ((p0.fTables.length : Int))))))), (43, .e (.one (.pure (.val (.int .i64 v7.2))))), (56, .e (.one (.pure (.val (.bool v12)))))] [(5, .box [.pure (.val (.int .i64 p2.fKind)), .pure (.val (.int .i64 p2.fIndex)), .pure (.val (.int .i64 p2.fVersion))]), (90000, .box [.own 90001, .own 90002, .own 90003]), (90001, .vec 1 (p1.fBase.map Ai)), (90002, .vec 1 ((p1.fNext.set ((p2.fIndex).toNat) p2.fVersion).map Ai)), (90003, .vec 1 (v7.1.map BX))]) (fun j12 h => ?_) (fun v12 h => ?_)
      ·refine Aa Ad rfl (qf Eg rfl (ql CQ rfl (qf EX rfl (ql CQ rfl (BR rfl (qm rfl ?_))))))
       refine AA (t := 53) rfl (fun c13 => ?_) (fun c13 => ?_)
       ·have h := An c13 h
        refine qL H0 D9 rfl ?_
        obtain ⟨v14, a14, h⟩ := bind_some h
        refine AB [] (Ib N v11 v14 a14) Qn rfl (qp rfl (Ac ?_))
        exact Av _ h (sm [] _ _ rfl rfl)
       ·have h := Am c13 h
        refine qn rfl (qn rfl (qp rfl (Ac ?_)))
        exact Av _ h (sm [] _ _ rfl rfl)
      ·refine Ao rfl (fun c15 => ?_) (fun c15 => ?_)
       ·have h := An c15 h
        refine Aa Ad rfl (qm rfl (Kq rfl (qf DL rfl (ql HZ rfl (qm rfl ?_)))))
        obtain ⟨v16, a16, b16, h⟩ := Ah h
        refine qI Db FP a16 (Ag b16) rfl (qj Jy (Ag b16) rfl (qf HX rfl (ql CQ rfl ?_)))
        obtain ⟨c17, h⟩ := AT h
        refine GX rfl c17 (NB rfl ?_)
        obtain ⟨v18, a18, b18, h⟩ := Ah h
        refine qI Db FP a18 (Ag b18) rfl ?_
        refine AZ rfl rfl rfl rfl (Ag b18) rfl FP rfl (AV rfl) (A0 BX v7.1 _ ((LL .u8 v16 ((CS .u8 1 p2.fVersion))))) ?_
        refine AJ (by kernel_rfl) ?_
        exact Av _ h (sm [] _ _ rfl rfl)
       ·have h := Am c15 h
        refine Ap ?_
        exact Av _ h (sm [] _ _ rfl rfl)
     ·refine Aa Ad rfl (AO rfl (qm rfl (Ac ?_)))
      exact Av _ h (sm [] _ _ rfl rfl)
    ·have h := Am c9 h
     refine AR ?_
     exact Av _ h (sm [] _ _ rfl rfl)
   ·refine Aj hs (Ab (Aa Ad rfl (qa rfl (Ac ?_))))
    obtain rfl := sj h
    refine Aj (sm [] [(6, .e (.one (.pure (.val (.bool true)))))] [(90000, .box [.own 90001, .own 90002, .own 90003]), (90001, .vec 1 (p1.fBase.map Ai)), (90002, .vec 1 ((p1.fNext.set ((p2.fIndex).toNat) p2.fVersion).map Ai)), (90003, .vec 1 (v8.map BX))] rfl rfl) (Ax ?_)
    exact ⟨⟨[_], ⟨.tmp _ _ rfl, trivial⟩, rfl⟩, ⟨rfl, rfl, rfl, rfl, trivial⟩, trivial⟩
set_option maxRecDepth 10000 in
theorem JM (N : Nat) (p0 : Af) (p1 : Int) (r : Int) (h : FZ N p0 p1 = some r) : Az Try.prog 100 [.e (.agg [.pure (.sl (p0.fBase.map Ai)), .pure (.sl (p0.fNext.map Ai)), .pure (.sl (p0.fHeld.map BX))]), .e (.one (.pure (.val (.int .i64 p1))))] [] (.e (.one (.pure (.val (.int .u8 r))))) := by
 unfold FZ at h
 refine Aq (n := 27) (rs := [.tmp 4]) Try.func100 rfl rfl rfl (AV rfl) (AV rfl) rfl fun w0 S0 => ?_
 refine Ab (Aa Ad rfl (qb rfl (qa rfl (Ac (Ab (Aa Ad rfl (qf Dn rfl (ql BS rfl (qm rfl ?_)))))))))
 obtain ⟨v1, a1, b1, h⟩ := Ah h
 refine qi AK Ee a1 (Ag b1) rfl (qk CQ rfl ?_)
 obtain ⟨c2, h⟩ := AT h
 refine GX rfl c2 (qa rfl (Ac ?_))
 refine AN h (fun v3 => mk [(5, .e (.one (.pure (.val (.int .u8 v3)))))] []) (fun j3 h => ?_) (fun v3 h => ?_)
 ·refine Ab (Aa Ad rfl (qf Cz rfl (ql BS rfl (qm rfl ?_))))
  obtain ⟨v4, a4, b4, h⟩ := Ah h
  refine qi AK Ee a4 (Ag b4) rfl (qk CQ rfl (Dc rfl (Ac ?_)))
  refine Ao rfl (fun c5 => ?_) (fun c5 => ?_)
  ·have h := An c5 h
   refine Aa Ad rfl (qm rfl (qf Cz rfl (ql BS rfl (qm rfl ?_))))
   obtain ⟨v6, a6, b6, h⟩ := Ah h
   refine qi AK Ee a6 (Ag b6) rfl (qk CQ rfl ?_)
   obtain ⟨c7, h⟩ := AT h
   refine GX rfl c7 (NB rfl (qa rfl (Ac ?_)))
   exact Av _ h (sm [] _ _ rfl rfl)
  ·have h := Am c5 h
   refine Ap ?_
   exact Av _ h (sm [] _ _ rfl rfl)
 ·refine Ab (Aa Ad rfl (qm rfl (qa rfl (Ac ?_))))
  obtain rfl := sj h
  refine Aj (sm [] [(4, .e (.one (.pure (.val (.int .u8 v3)))))] [] rfl rfl) (Ax ?_)
  exact ⟨⟨[_], ⟨.tmp _ _ rfl, trivial⟩, rfl⟩, trivial⟩
set_option maxRecDepth 10000 in
theorem Gb (N : Nat) (p0 : Int) (r : Int) (h : C5 N p0 = some r) : Az Try.prog 103 [.e (.one (.pure (.val (.int .u8 p0))))] [] (.e (.one (.pure (.val (.int .i64 r))))) := by
 unfold C5 at h
 refine Aq (n := 6) (rs := [.tmp 2]) Try.func103 rfl rfl rfl (AV rfl) (AV rfl) rfl fun w0 S0 => ?_
 refine Ab (Aa Ad rfl (qa rfl (Ac (Ab (Aa Ad rfl (qm rfl ?_))))))
 obtain ⟨v1, a1, h⟩ := bind_some h
 refine I5 (.p rfl) rfl rfl OP a1 ?_
 refine FY QW Py rfl (qa rfl (Ac ?_))
 obtain rfl := sj h
 refine Aj (sm [] [(2, .e (.one (.pure (.val (.int .i64 ((IntKind.wrap .i64 v1)))))))] [] rfl rfl) (Ax ?_)
 exact ⟨⟨[_], ⟨.tmp _ _ rfl, trivial⟩, rfl⟩, trivial⟩
set_option maxRecDepth 10000 in
theorem IF (N : Nat) (p0 : AQ) (p1 : Int) (p2 : Int) (r : Bool) (h : Fa N p0 p1 p2 = some r) : Az Try.prog 101 [.e (.agg [.pure (.val (.int .i64 p0.fKind)), .pure (.val (.int .i64 p0.fFrom)), .pure (.val (.int .i64 p0.fTo)), .pure (.val (.bool p0.fAware)), .pure (.sl (p0.fOK.map (EM eB))), .pure (.sl (p0.fRewrite.map (EM eB)))]), .e (.one (.pure (.val (.int .u8 p1)))), .e (.one (.pure (.val (.int .i64 p2))))] [] (.e (.one (.pure (.val (.bool r))))) := by
 unfold Fa at h
 refine Aq (n := 25) (rs := [.tmp 6]) Try.func101 rfl rfl rfl (AV rfl) (AV rfl) rfl fun w0 S0 => ?_
 refine Ab (Aa Ad rfl (qb rfl (qa rfl (Ac (Ab (Ab (Aa Ad rfl (qm rfl (qa rfl (Ac ?_))))))))))
 refine AF (L := Dk N p0 p2) h (fun v1 => mk [(2, .e (.one (.pure (.val (.int .i64 p2))))), (3, .e (.one (.ptr 3 0))), (7, .e (.one (.pure (.val (.int .u8 v1)))))] [(3, .box [.pure (.val (.int .i64 p0.fKind)), .pure (.val (.int .i64 p0.fFrom)), .pure (.val (.int .i64 p0.fTo)), .pure (.val (.bool p0.fAware)), .pure (.sl (p0.fOK.map (EM eB))), .pure (.sl (p0.fRewrite.map (EM eB)))])]) (fun v2 => mk [] []) (fun _ _ => rfl) (sm [] _ _ rfl rfl) (fun j1 n1 v1 h => ?_) (fun v2 s h hs => ?_)
 ·unfold Dk at h
  refine Ab (Ab (Aa Ad rfl (qm rfl (Ch rfl (Ac ?_)))))
  refine Ao rfl (fun c3 => ?_) (fun c3 => ?_)
  ·have h := An c3 h
   refine Ap (Ab (AI (Ab (Aa Ad rfl (qf Ez rfl (ql GR rfl (qm rfl ?_)))))))
   obtain ⟨v4, a4, h⟩ := bind_some h
   refine AB [] (Gb N v1 v4 a4) P8 rfl ?_
   obtain ⟨v5, a5, b5, h⟩ := Ah h
   refine qi EE Lg a5 (Ag b5) rfl (qk Lm rfl (qm rfl ?_))
   obtain ⟨v6, a6, b6, h⟩ := Ah h
   refine qi HL PX a6 (Ag b6) rfl (qk O5 rfl (Cg rfl (AJ (by kernel_rfl) ?_)))
   refine Ao rfl (fun c7 => ?_) (fun c7 => ?_)
   ·have h := An c7 h
    refine Ab (Aa Ad rfl (qa rfl (Ac ?_)))
    obtain rfl := sj h
    refine Aj (sm [] [(6, .e (.one (.pure (.val (.bool false)))))] [] rfl rfl) (Ax ?_)
    exact ⟨⟨[_], ⟨.tmp _ _ rfl, trivial⟩, rfl⟩, trivial⟩
   ·have h := Am c7 h
    refine Ap (Aa Ad rfl (qm rfl (qm rfl (BY rfl (Jb rfl (qa rfl (Ac ?_)))))))
    exact Av _ h (sm [] _ _ rfl rfl)
  ·have h := Am c3 h
   refine AR ?_
   exact Av _ h (sm [] _ _ rfl rfl)
 ·refine Aj hs (Ab (Aa Ad rfl (qa rfl (Ac ?_))))
  obtain rfl := sj h
  refine Aj (sm [] [(6, .e (.one (.pure (.val (.bool true)))))] [] rfl rfl) (Ax ?_)
  exact ⟨⟨[_], ⟨.tmp _ _ rfl, trivial⟩, rfl⟩, trivial⟩
set_option maxRecDepth 10000 in
theorem Lf (N : Nat) (p0 : Ak) (p1 : Af) (p2 : Int) (r : Bool × (List Int)) (h : GC N p0 p1 p2 = some r) : Bg Try.prog 93 [.e (.agg [.pure (.sl (p0.fVersions.map Ai)), .pure (.sl (p0.fNow.map Ai)), .pure (.sl (p0.fTarget.map Ai)), .pure (.sl (p0.fTables.map Ar))]), .e (.one (.ptr 90000 0)), .e (.one (.pure (.val (.int .i64 p2))))] [(.box [.own 90001, .own 90002, .own 90003], .box [.own 90001, .own 90002, .own 90003]), (.vec 1 (p1.fBase.map Ai), .vec 1 (p1.fBase.map Ai)), (.vec 1 (p1.fNext.map Ai), .vec 1 (p1.fNext.map Ai)), (.vec 1 (p1.fHeld.map BX), .vec 1 (r.2.map BX))] [] (.e (.one (.pure (.val (.bool r.1))))) := by
 unfold GC at h
 refine A9 (n := 68) (rs := [.tmp 6]) Try.func93 rfl rfl rfl (AV rfl) (AV rfl) rfl rfl (AV rfl) rfl (AV rfl) fun w0 S0 GL => ?_
 refine Aj (sm [] [(0, .e (.agg [.pure (.sl (p0.fVersions.map Ai)), .pure (.sl (p0.fNow.map Ai)), .pure (.sl (p0.fTarget.map Ai)), .pure (.sl (p0.fTables.map Ar))])), (1, .e (.one (.ptr 90000 0))), (2, .e (.one (.pure (.val (.int .i64 p2)))))] [(90000, .box [.own 90001, .own 90002, .own 90003]), (90001, .vec 1 (p1.fBase.map Ai)), (90002, .vec 1 (p1.fNext.map Ai)), (90003, .vec 1 (p1.fHeld.map BX))] rfl rfl) (Ab (Aa Ad rfl (qb rfl (qa rfl (Ac (Ab (Aa Ad rfl (qf CI rfl (ql Gp rfl (qm rfl ?_))))))))))
 obtain ⟨v1, a1, b1, h⟩ := Ah h
 refine qi DH D9 a1 (Ag b1) rfl (qK H0 D9 rfl (qz KU rfl (qs D9 rfl (Ac (Ab (Ab (Aa Ad rfl (qL H0 D9 rfl ?_))))))))
 obtain ⟨v2, a2, h⟩ := bind_some h
 refine AB [] (Ib N v1 v2 a2) Qn rfl (Cg rfl (Ac ?_))
 refine Ao rfl (fun c3 => ?_) (fun c3 => ?_)
 ·have h := An c3 h
  refine Ab (Aa Ad rfl (qa rfl (Ac ?_)))
  obtain rfl := sj h
  refine Aj (sm [] [(6, .e (.one (.pure (.val (.bool false)))))] [(90000, .box [.own 90001, .own 90002, .own 90003]), (90001, .vec 1 (p1.fBase.map Ai)), (90002, .vec 1 (p1.fNext.map Ai)), (90003, .vec 1 (p1.fHeld.map BX))] rfl rfl) (Ax ?_)
  exact ⟨⟨[_], ⟨.tmp _ _ rfl, trivial⟩, rfl⟩, ⟨rfl, rfl, rfl, rfl, trivial⟩, trivial⟩
 ·have h := Am c3 h
  refine Ap (Ab (Aa Ad rfl (qm rfl (Kq rfl (qL AU Aw rfl (qf Eg rfl (ql CQ rfl ?_)))))))
  obtain ⟨v4, a4, h⟩ := bind_some h
  refine Fr [] [90001, 90002, 90003] (JM N p1 v1.fFrom v4 a4) Qu DQ rfl (qa rfl (AJ (by kernel_rfl) (Ab (Aa Ad rfl (qm rfl (Kq rfl (qf DL rfl (ql HZ rfl (qm rfl ?_)))))))))
  obtain ⟨v5, a5, b5, h⟩ := Ah h
  refine qI Db FP a5 (Ag b5) rfl (qj Jy (Ag b5) rfl (qm rfl (Kg rfl (qa rfl (Ac (Ab ?_))))))
  refine AN h (fun v6 => mk [(1, .e (.one (.ptr 90000 0))), (2, .e (.one (.pure (.val (.int .i64 p2))))), (8, .e (.one (.pure (.val (.int .u8 v4))))), (60, .e (.one (.pure (.val (.bool v6)))))] [(90000, .box [.own 90001, .own 90002, .own 90003]), (90001, .vec 1 (p1.fBase.map Ai)), (90002, .vec 1 (p1.fNext.map Ai)), (90003, .vec 1 (p1.fHeld.map BX))]) (fun j6 h => ?_) (fun v6 h => ?_)
  ·refine Aa Ad rfl (qm rfl (Kq rfl (qf DL rfl (ql HZ rfl (qm rfl ?_)))))
   obtain ⟨v7, a7, b7, h⟩ := Ah h
   refine qI Db FP a7 (Ag b7) rfl (qj Jy (Ag b7) rfl (qm rfl (BR rfl (qm rfl ?_))))
   refine AA (t := 42) rfl (fun c8 => ?_) (fun c8 => ?_)
   ·have h := An c8 h
    refine qn rfl (qn rfl (qn rfl (qn rfl (qu rfl (qu rfl (qu rfl (qu rfl (qu rfl (qu rfl (qu rfl (qu rfl (qu rfl (qu rfl (qu rfl (qu rfl (qn rfl (qp rfl (AJ (by kernel_rfl) ?_))))))))))))))))))
    exact Av _ h (sm [] _ _ rfl rfl)
   ·have h := Am c8 h
    refine qf EY rfl (ql CQ rfl (BR rfl (qm rfl ?_)))
    refine AA (t := 46) rfl (fun c9 => ?_) (fun c9 => ?_)
    ·have h := An c9 h
     refine qL H0 D9 rfl (qm rfl (qm rfl (Kq rfl (qf Dn rfl (ql BS rfl (qf Eg rfl (ql CQ rfl ?_)))))))
     obtain ⟨v10, a10, b10, h⟩ := Ah h
     refine qI AK Ee a10 (Ag b10) rfl (qj CQ (Ag b10) rfl ?_)
     obtain ⟨v11, a11, h⟩ := bind_some h
     refine AB [] (IF N v1 ((Hl .u8 v5 v4)) v10 v11 a11) P5 rfl (Cg rfl (qp rfl (qp rfl (AJ (by kernel_rfl) ?_))))
     exact Av _ h (sm [] _ _ rfl rfl)
    ·have h := Am c9 h
     refine qn rfl (qn rfl (qn rfl (qn rfl (qn rfl (qn rfl (qn rfl (qn rfl (qn rfl (qn rfl (qn rfl (qn rfl (qp rfl (qp rfl (AJ (by kernel_rfl) ?_))))))))))))))
     exact Av _ h (sm [] _ _ rfl rfl)
  ·refine Ao rfl (fun c12 => ?_) (fun c12 => ?_)
   ·have h := An c12 h
    refine Ab (Aa Ad rfl (qa rfl (Ac ?_)))
    obtain rfl := sj h
    refine Aj (sm [] [(6, .e (.one (.pure (.val (.bool false)))))] [(90000, .box [.own 90001, .own 90002, .own 90003]), (90001, .vec 1 (p1.fBase.map Ai)), (90002, .vec 1 (p1.fNext.map Ai)), (90003, .vec 1 (p1.fHeld.map BX))] rfl rfl) (Ax ?_)
    exact ⟨⟨[_], ⟨.tmp _ _ rfl, trivial⟩, rfl⟩, ⟨rfl, rfl, rfl, rfl, trivial⟩, trivial⟩
   ·have h := Am c12 h
    refine Ap (Ab (Aa Ad rfl (qm rfl (Kq rfl (qf DL rfl (ql HZ rfl (qm rfl (qm rfl ?_))))))))
    obtain ⟨v13, a13, b13, h⟩ := Ah h
    refine qI Db FP a13 (Ag b13) rfl ?_
    refine AZ rfl rfl rfl rfl (Ag b13) rfl FP rfl (AV rfl) (A0 BX p1.fHeld _ v4) ?_
    refine Ac (Ab (Aa Ad rfl (qa rfl (Ac ?_))))
    obtain rfl := sj h
    refine Aj (sm [] [(6, .e (.one (.pure (.val (.bool true)))))] [(90000, .box [.own 90001, .own 90002, .own 90003]), (90001, .vec 1 (p1.fBase.map Ai)), (90002, .vec 1 (p1.fNext.map Ai)), (90003, .vec 1 ((p1.fHeld.set ((p2).toNat) v4).map BX))] rfl rfl) (Ax ?_)
    exact ⟨⟨[_], ⟨.tmp _ _ rfl, trivial⟩, rfl⟩, ⟨rfl, rfl, rfl, rfl, trivial⟩, trivial⟩
set_option maxRecDepth 10000 in
theorem It (N : Nat) (p0 : Ak) (p1 : Af) (p2 : Au) (r : Af × Bool) (h : FN N p0 p1 p2 = some r) : Az Try.prog 78 [.e (.agg [.pure (.sl (p0.fVersions.map Ai)), .pure (.sl (p0.fNow.map Ai)), .pure (.sl (p0.fTarget.map Ai)), .pure (.sl (p0.fTables.map Ar))]), .e (.agg [.pure (.sl (p1.fBase.map Ai)), .pure (.sl (p1.fNext.map Ai)), .pure (.sl (p1.fHeld.map BX))]), .e (.agg [.pure (.val (.int .i64 p2.fKind)), .pure (.val (.int .i64 p2.fIndex)), .pure (.val (.int .i64 p2.fVersion))])] [(1, r.1.fBase.map Ai), (1, r.1.fNext.map Ai), (1, r.1.fHeld.map BX)] (.tup [.agg [.own 0, .own 1, .own 2], .one (.pure (.val (.bool r.2)))]) := by
 unfold FN at h
 refine Aq (n := 51) (rs := [.cell 6 42, .tmp 7]) Try.func78 rfl rfl rfl (AV rfl) (AV rfl) rfl fun w0 S0 => ?_
 refine Ab (Aa Ad rfl (qb rfl (qb rfl (qb rfl (qz CZ rfl (qa rfl (Ac (Ab (Aa Ad rfl (qL AU Aw rfl ?_))))))))))
 obtain ⟨v1, a1, h⟩ := bind_some h
 refine AB [2001, 2002, 2003] (Id N p1 v1 a1) Qc rfl (qz CZ rfl (qs Aw rfl (Ac (Ab (Ab (Aa Ad rfl (qf G4 rfl (ql CQ rfl (Ac (AI (Ab (Aa Ad rfl (BR rfl (qa rfl (Ac ?_)))))))))))))))
 refine Ao rfl (fun c2 => ?_) (fun c2 => ?_)
 ·have h := An c2 h
  refine Ab (Aa Ad rfl (qL AU Aw rfl (qL Do Dh rfl (qL H1 DW rfl ?_))))
  obtain ⟨v3, a3, h⟩ := bind_some h
  refine Ce (ds0 := [_, _, _]) [8, 2001, 2002, 2003] [] [false, false, true, true] (KQ N p0 v1 p2 v3 a3) (.p rfl) Rg rfl ⟨rfl, rfl, rfl, trivial⟩ rfl rfl (by decide) ⟨rfl, rfl, rfl, rfl, trivial⟩ rfl (AX rfl) trivial ⟨(fun _ => rfl), (fun _ => rfl), (fun h => by cases h), (fun h => by cases h), trivial⟩ rfl rfl rfl ?_
  refine qs Aw rfl (qa rfl (AJ (by kernel_rfl) ?_))
  obtain rfl := sj h
  refine Aj (sm [(1000, 2001), (1001, 2002), (1002, 2003)] [(6, .e (.one (.ptr 6 0))), (7, .e (.one (.pure (.val (.bool v3.1)))))] [(6, .box [.own 1000, .own 1001, .own 1002]), (1000, .vec 1 (v1.fBase.map Ai)), (1001, .vec 1 (v3.2.1.map Ai)), (1002, .vec 1 (v3.2.2.map BX))] rfl rfl) (Ax ?_)
  exact ⟨⟨[_, _], ⟨.cellN _ _ _ _ _ _ _ rfl rfl AU Aw rfl rfl (JB rfl), ⟨.tmp _ _ rfl, trivial⟩⟩, rfl⟩, ⟨rfl, rfl, rfl, trivial⟩⟩
 ·have h := Am c2 h
  refine Ab (Aa Ad rfl (BR rfl (qa rfl (Ac ?_))))
  refine Ao rfl (fun c4 => ?_) (fun c4 => ?_)
  ·have h := An c4 h
   refine Ab (Aa Ad rfl (qL AU Aw rfl (qL Do Dh rfl (qf EX rfl (ql CQ rfl ?_)))))
   obtain ⟨v5, a5, h⟩ := bind_some h
   refine Ce (ds0 := [_, _, _]) [8, 2001, 2002, 2003] [] [false, false, false, true] (Lf N p0 v1 p2.fIndex v5 a5) (.p rfl) RF rfl ⟨rfl, rfl, rfl, trivial⟩ rfl rfl (by decide) ⟨rfl, rfl, rfl, rfl, trivial⟩ rfl (AX rfl) trivial ⟨(fun _ => rfl), (fun _ => rfl), (fun _ => rfl), (fun h => by cases h), trivial⟩ rfl rfl rfl ?_
   refine qs Aw rfl (qa rfl (AJ (by kernel_rfl) ?_))
   obtain rfl := sj h
   refine Aj (sm [(1000, 2001), (1001, 2002), (1002, 2003)] [(6, .e (.one (.ptr 6 0))), (7, .e (.one (.pure (.val (.bool v5.1)))))] [(6, .box [.own 1000, .own 1001, .own 1002]), (1000, .vec 1 (v1.fBase.map Ai)), (1001, .vec 1 (v1.fNext.map Ai)), (1002, .vec 1 (v5.2.map BX))] rfl rfl) (Ax ?_)
   exact ⟨⟨[_, _], ⟨.cellN _ _ _ _ _ _ _ rfl rfl AU Aw rfl rfl (JB rfl), ⟨.tmp _ _ rfl, trivial⟩⟩, rfl⟩, ⟨rfl, rfl, rfl, trivial⟩⟩
  ·have h := Am c4 h
   refine Ap (Ab (Aa Ad rfl (qf Cz rfl (ql BS rfl (qf EX rfl (ql CQ rfl ?_))))))
   obtain ⟨v6, a6, b6, h⟩ := Ah h
   refine qI AK Ee a6 (Ag b6) rfl (qj CQ (Ag b6) rfl (qa rfl (Ac (Ab (Ab (Aa Ad rfl (qm rfl (AS rfl (Ac ?_)))))))))
   refine Ao rfl (fun c7 => ?_) (fun c7 => ?_)
   ·have h := An c7 h
    refine Ab (Aa Ad rfl (qL AU Aw rfl (qs Aw rfl (qa rfl (Ac ?_)))))
    obtain rfl := sj h
    refine Aj (sm [(1000, 2001), (1001, 2002), (1002, 2003)] [(6, .e (.one (.ptr 6 0))), (7, .e (.one (.pure (.val (.bool false)))))] [(6, .box [.own 1000, .own 1001, .own 1002]), (1000, .vec 1 (v1.fBase.map Ai)), (1001, .vec 1 (v1.fNext.map Ai)), (1002, .vec 1 (v1.fHeld.map BX))] rfl rfl) (Ax ?_)
    exact ⟨⟨[_, _], ⟨.cellN _ _ _ _ _ _ _ rfl rfl AU Aw rfl rfl (JB rfl), ⟨.tmp _ _ rfl, trivial⟩⟩, rfl⟩, ⟨rfl, rfl, rfl, trivial⟩⟩
   ·have h := Am c7 h
    refine Ap (Ab (Aa Ad rfl (qf Cz rfl (ql BS rfl (qf EX rfl (ql CQ rfl ?_))))))
    obtain ⟨v8, a8, b8, h⟩ := Ah h
    refine qI AK Ee a8 (Ag b8) rfl ?_
    refine AZ rfl rfl rfl rfl (Ag b8) rfl Ee rfl (AV rfl) (A0 Ai v1.fNext _ ((-1))) ?_
    refine Ac ?_
    refine AN h (fun v9 => mk [(6, .e (.one (.ptr 6 0))), (8, .e (.one (.ptr 8 0)))] [(6, .box [.pure (.nil0), .pure (.nil0), .pure (.nil0)]), (8, .box [.own 2004, .own 2005, .own 2006]), (2004, .vec 1 (v9.map Ai)), (2005, .vec 1 ((v1.fNext.set ((p2.fIndex).toNat) ((-1))).map Ai)), (2006, .vec 1 (v1.fHeld.map BX))]) (fun j9 h => ?_) (fun v9 h => ?_)
    ·refine Ab (Aa Ad rfl (qf G4 rfl (ql CQ rfl (BR rfl (Ac ?_)))))
     refine Ao rfl (fun c10 => ?_) (fun c10 => ?_)
     ·have h := An c10 h
      refine Aa Ad rfl (qf Dn rfl (ql BS rfl (qf EX rfl (ql CQ rfl (qm rfl ?_)))))
      obtain ⟨v11, a11, b11, h⟩ := Ah h
      refine qI AK Ee a11 (Ag b11) rfl ?_
      refine AZ rfl rfl rfl rfl (Ag b11) rfl Ee rfl (AV rfl) (A0 Ai v1.fBase _ v6) ?_
      refine Ac ?_
      exact Av _ h (sm [(2004, 2001), (2005, 2002), (2006, 2003)] _ _ rfl rfl)
     ·have h := Am c10 h
      refine Ap ?_
      exact Av _ h (sm [(2004, 2001), (2005, 2002), (2006, 2003)] _ _ rfl rfl)
    ·refine Ab (Aa Ad rfl (qL AU Aw rfl (qs Aw rfl (qa rfl (Ac ?_)))))
     obtain rfl := sj h
     refine Aj (sm [(1000, 2004), (1001, 2005), (1002, 2006)] [(6, .e (.one (.ptr 6 0))), (7, .e (.one (.pure (.val (.bool true)))))] [(6, .box [.own 1000, .own 1001, .own 1002]), (1000, .vec 1 (v9.map Ai)), (1001, .vec 1 ((v1.fNext.set ((p2.fIndex).toNat) ((-1))).map Ai)), (1002, .vec 1 (v1.fHeld.map BX))] rfl rfl) (Ax ?_)
     exact ⟨⟨[_, _], ⟨.cellN _ _ _ _ _ _ _ rfl rfl AU Aw rfl rfl (JB rfl), ⟨.tmp _ _ rfl, trivial⟩⟩, rfl⟩, ⟨rfl, rfl, rfl, trivial⟩⟩
set_option maxRecDepth 10000 in
theorem I3 (N : Nat) (p0 : Au) (p1 : List Int) (p2 : List Int) (p3 : List Int) (p4 : List AQ) (p5 : List Int) (p6 : List Int) (p7 : List Int) (r : Bool) (h : Dy N p0 p1 p2 p3 p4 p5 p6 p7 = some r) : Az Try.prog 77 [.e (.agg [.pure (.val (.int .i64 p0.fKind)), .pure (.val (.int .i64 p0.fIndex)), .pure (.val (.int .i64 p0.fVersion))]), .e (.one (.rop [.sl (p1.map Ai), .sl (p2.map Ai), .sl (p3.map Ai), .sl (p4.map Ar)])), .e (.one (.rop [.sl (p5.map Ai), .sl (p6.map Ai), .sl (p7.map BX)]))] [] (.e (.one (.pure (.val (.bool r))))) := by
 unfold Dy at h
 refine Aq (n := 16) (rs := [.tmp 4]) Try.func77 rfl rfl rfl (AV rfl) (AV rfl) rfl fun w0 S0 => ?_
 refine Ab (Aa Ad rfl (qb rfl (qa rfl (Ac (Ab (Aa Ad rfl (qK Do Dh rfl (qK AU Aw rfl (qL H1 DW rfl ?_)))))))))
 obtain ⟨v1, a1, h⟩ := bind_some h
 refine AB [2001, 2002, 2003] (It N ((Ak.mk p1 p2 p3 p4)) ((Af.mk p5 p6 p7)) p0 v1 a1) QL rfl (qm rfl (qx rfl (qx rfl (qz CZ rfl (qs Aw rfl (qa rfl (Ac (Ab (Aa Ad rfl (qm rfl (Cg rfl (qa rfl (Ac ?_)))))))))))))
 obtain rfl := sj h
 refine Aj (sm [] [(4, .e (.one (.pure (.val (.bool ((!v1.2)))))))] [] rfl rfl) (Ax ?_)
 exact ⟨⟨[_], ⟨.tmp _ _ rfl, trivial⟩, rfl⟩, trivial⟩
set_option maxRecDepth 10000 in
theorem EL (N : Nat) (p0 : List Au) (p1 : Au → Option Bool) (r : Int) (h : Cc N p0 p1 = some r) : Az Try.prog 91 [.e (.one (.pure (.sl (p0.map AC)))), .e (.one (.clo (Bp (LB true AC) tB p1)))] [] (.e (.one (.pure (.val (.int .i64 r))))) := by
 unfold Cc at h
 refine Aq (n := 19) (rs := [.tmp 4]) Try.func91 rfl rfl rfl (AV rfl) (AV rfl) rfl fun w0 S0 => ?_
 refine Ab (Aa Ad rfl (qa rfl (Ac (Ab (Ab (Aa Ad rfl (qm rfl (AM CY rfl (qm rfl (Ac ?_))))))))))
 refine AF (L := Bx N p0 p1) h (fun v1 => mk [(0, .e (.one (.pure (.sl (p0.map AC))))), (1, .e (.one (.clo (Bp (LB true AC) tB p1)))), (7, .e (.one (.pure (.val (.int .i64 ((p0.length : Int))))))), (8, .e (.one (.pure (.val (.int .i64 v1)))))] []) (fun v2 => mk [] []) (fun _ _ => rfl) (sm [] _ _ rfl rfl) (fun j1 n1 v1 h => ?_) (fun v2 s h hs => ?_)
 ·unfold Bx at h
  refine Ab (Aa Ad rfl (AS rfl (Ac (Ab ?_))))
  refine Ao rfl (fun c3 => ?_) (fun c3 => ?_)
  ·have h := An c3 h
   refine Ap (Ab (AI (Ab (Aa Ad rfl (qm rfl (qa rfl (Ac (Ab (Aa Ad rfl (qm rfl (qm rfl (qm rfl ?_))))))))))))
   obtain ⟨v4, a4, b4, h⟩ := Ah h
   refine qi CY DW a4 (Ag b4) rfl (qK H1 DW rfl ?_)
   obtain ⟨v5, a5, h⟩ := bind_some h
   refine C9 (ds0 := [_]) (ar := (LB true AC) v4) (.p rfl) rfl rfl ⟨rfl, trivial⟩ rfl rfl rfl (C6 (K9 _ _ J5) a5) ?_
   refine Ac ?_
   refine Ao rfl (fun c6 => ?_) (fun c6 => ?_)
   ·have h := An c6 h
    refine Ab (Aa Ad rfl (qm rfl (qa rfl (Ac ?_))))
    obtain rfl := sj h
    refine Aj (sm [] [(4, .e (.one (.pure (.val (.int .i64 v1)))))] [] rfl rfl) (Ax ?_)
    exact ⟨⟨[_], ⟨.tmp _ _ rfl, trivial⟩, rfl⟩, trivial⟩
   ·have h := Am c6 h
    refine Ap (Aa Ad rfl (AO rfl (qm rfl (Ac ?_))))
    exact Av _ h (sm [] _ _ rfl rfl)
  ·have h := Am c3 h
   refine AR ?_
   exact Av _ h (sm [] _ _ rfl rfl)
 ·refine Aj hs (Ab (Aa Ad rfl (qa rfl (Ac ?_))))
  obtain rfl := sj h
  refine Aj (sm [] [(4, .e (.one (.pure (.val (.int .i64 ((-1)))))))] [] rfl rfl) (Ax ?_)
  exact ⟨⟨[_], ⟨.tmp _ _ rfl, trivial⟩, rfl⟩, trivial⟩
set_option maxRecDepth 10000 in
theorem Er (N : Nat) (p0 : List Au) (p1 : Au → Option Bool) (r : Nat × (List Au)) (h : Ca N p0 p1 = some r) : Bg Try.prog 75 [.e (.one (.own 90000)), .e (.one (.clo (Bp (LB true AC) tB p1)))] [(.vec 3 (p0.map AC), .vec 3 (r.2.map AC))] [] (.e (.one (.view 90000 3 0 r.1))) := by
 unfold Ca at h
 refine A9 (n := 42) (rs := [.tmp 4]) Try.func75 rfl rfl rfl (AV rfl) (AV rfl) rfl rfl (AV rfl) rfl (AV rfl) fun w0 S0 GL => ?_
 refine Aj (sm [] [(0, .e (.one (.own 90000))), (1, .e (.one (.clo (Bp (LB true AC) tB p1))))] [(90000, .vec 3 (p0.map AC))] rfl rfl) (Ab (Aa Ad rfl (qa rfl (Ac (Ab (Aa Ad rfl (qm rfl (qm rfl ?_))))))))
 obtain ⟨v1, a1, h⟩ := bind_some h
 refine Fr [] [90000] (EL N p0 p1 v1 a1) RQ DQ rfl (qa rfl (Ac (Ab (Ab (Aa Ad rfl (qm rfl (BR rfl (Ac ?_))))))))
 refine Ao rfl (fun c2 => ?_) (fun c2 => ?_)
 ·have h := An c2 h
  refine Ab (Aa Ad rfl (qm rfl (qa rfl (Ac ?_))))
  obtain rfl := sj h
  refine Aj ((KX AC p0 4 90000 3 rfl rfl).trans (sm [] [(4, .e (.one (.view 90000 3 0 p0.length)))] [(90000, .vec 3 (p0.map AC))] rfl rfl)) (Ax ?_)
  exact ⟨⟨[_], ⟨.tmp _ _ rfl, trivial⟩, rfl⟩, ⟨rfl, trivial⟩, trivial⟩
 ·have h := Am c2 h
  refine Ap (Ab (Ab (Aa Ad rfl (qm rfl (AO rfl (qa rfl (Ac ?_)))))))
  refine AF (L := Br N p1) h (fun v3 => mk [(0, .e (.one (.own 90000))), (1, .e (.one (.clo (Bp (LB true AC) tB p1)))), (5, .e (.one (.pure (.val (.int .i64 v3.2.1))))), (6, .e (.one (.pure (.val (.int .i64 v3.2.2)))))] [(90000, .vec 3 (v3.1.map AC))]) (fun v4 => mk [(0, .e (.one (.own 90000))), (5, .e (.one (.pure (.val (.int .i64 v4.2)))))] [(90000, .vec 3 (v4.1.map AC))]) (fun _ _ => rfl) (sm [] _ _ rfl rfl) (fun j3 n3 v3 h => ?_) (fun v4 s h hs => ?_)
  ·unfold Br at h
   refine Ab (Ab (Aa Ad rfl (qm rfl (qm rfl (CU CY rfl (AS rfl (Ac ?_)))))))
   refine Ao rfl (fun c5 => ?_) (fun c5 => ?_)
   ·have h := An c5 h
    refine Ap ?_
    refine AN h (fun v6 => mk [(0, .e (.one (.own 90000))), (1, .e (.one (.clo (Bp (LB true AC) tB p1)))), (5, .e (.one (.pure (.val (.int .i64 v6.2))))), (6, .e (.one (.pure (.val (.int .i64 v3.2.2)))))] [(90000, .vec 3 (v6.1.map AC))]) (fun j6 h => ?_) (fun v6 h => ?_)
    ·refine AI (Ab (Aa Ad rfl (qm rfl (qm rfl ?_))))
     obtain ⟨v7, a7, b7, h⟩ := Ah h
     refine qI CY DW a7 (Ag b7) rfl (qJ H1 DW (Ag b7) rfl (qz G8 rfl (qs DW rfl (Ac (Ab (Aa Ad rfl (qm rfl (qL H1 DW rfl ?_))))))))
     obtain ⟨v8, a8, h⟩ := bind_some h
     refine C9 (ds0 := [_]) (ar := (LB true AC) v7) (.p rfl) rfl rfl ⟨rfl, trivial⟩ rfl rfl rfl (C6 (K9 _ _ J5) a8) ?_
     refine Cg rfl (Ac ?_)
     refine Ao rfl (fun c9 => ?_) (fun c9 => ?_)
     ·have h := An c9 h
      refine Ab (Aa Ad rfl (qm rfl (qm rfl (qL H1 DW rfl ?_))))
      obtain ⟨v10, a10, b10, h⟩ := Ah h
      refine qI CY DW a10 (Ag b10) rfl ?_
      refine AZ rfl rfl rfl rfl (Ag b10) rfl DW rfl (AV rfl) (A0 AC v3.1 _ v7) ?_
      refine Ac (Aa Ad rfl (qm rfl (AO rfl (qa rfl (Ac ?_)))))
      exact Av _ h (sm [] _ _ rfl rfl)
     ·have h := Am c9 h
      refine Ap ?_
      exact Av _ h (sm [] _ _ rfl rfl)
    ·refine Aa Ad rfl (qm rfl (AO rfl (qa rfl (Ac ?_))))
     exact Av _ h (sm [] _ _ rfl rfl)
   ·have h := Am c5 h
    refine AR ?_
    exact Av _ h (sm [] _ _ rfl rfl)
  ·refine Aj hs (Ab (Aa Ad rfl (qm rfl (qm rfl ?_))))
   obtain ⟨c11, h⟩ := AT h
   have w12 : ((v4.2).toNat) + ((v4.1.length - (v4.2).toNat)) ≤ v4.1.length := by have := c11.2.1; have := c11.2.2; omega
   refine Gn AC v4.1 (.p rfl) rfl (FT AC _ _ v4.1) rfl CY DW (.some _ _ _ _ c11.1) (.none _) ⟨rfl, trivial⟩ trivial c11.2.1 (by rw [Nat.zero_add]; exact c11.2.2) (Nat.zero_add _) rfl ?_
   have w13 : (GZ v4.1 ((v4.2).toNat) (List.replicate ((v4.1.length - (v4.2).toNat)) ((Au.mk 0 0 0)))).length = v4.1.length := Ha (by rw [List.length_replicate]; exact w12)
   refine LK AC v4.1 ((Au.mk 0 0 0)) rfl rfl (IY AC _ _ ((v4.2).toNat) ((v4.1.length - (v4.2).toNat)) v4.1 w12) rfl CY G8 rfl rfl rfl rfl ?_
   refine Ac (Ab (Aa Ad rfl (qm rfl (qm rfl ?_))))
   obtain ⟨c14, h⟩ := AT h
   have w15 : 0 + ((v4.2).toNat) ≤ (GZ v4.1 ((v4.2).toNat) (List.replicate ((v4.1.length - (v4.2).toNat)) ((Au.mk 0 0 0)))).length := by have := c14.2.1; have := c14.2.2; omega
   refine Gn AC (GZ v4.1 ((v4.2).toNat) (List.replicate ((v4.1.length - (v4.2).toNat)) ((Au.mk 0 0 0)))) (.p rfl) rfl (FT AC _ _ (GZ v4.1 ((v4.2).toNat) (List.replicate ((v4.1.length - (v4.2).toNat)) ((Au.mk 0 0 0))))) rfl CY DW (.none _) (.some _ _ _ _ c14.1) trivial ⟨rfl, trivial⟩ c14.2.1 (by rw [Nat.zero_add]; exact c14.2.2) (Nat.zero_add _) rfl ?_
   refine qa rfl (Ac ?_)
   obtain rfl := sj h
   refine Aj (sm [] [(4, .e (.one (.view 90000 3 0 ((v4.2).toNat))))] [(90000, .vec 3 ((GZ v4.1 ((v4.2).toNat) (List.replicate ((v4.1.length - (v4.2).toNat)) ((Au.mk 0 0 0)))).map AC))] rfl rfl) (Ax ?_)
   exact ⟨⟨[_], ⟨.tmp _ _ rfl, trivial⟩, rfl⟩, ⟨rfl, trivial⟩, trivial⟩
set_option maxRecDepth 10000 in
theorem JY (N : Nat) (p0 : Ak) (p1 : Af) (r : (List Au) × Int) (h : FW N p0 p1 = some r) : Az Try.prog 51 [.e (.agg [.pure (.sl (p0.fVersions.map Ai)), .pure (.sl (p0.fNow.map Ai)), .pure (.sl (p0.fTarget.map Ai)), .pure (.sl (p0.fTables.map Ar))]), .e (.agg [.pure (.sl (p1.fBase.map Ai)), .pure (.sl (p1.fNext.map Ai)), .pure (.sl (p1.fHeld.map BX))])] [(3, r.1.map AC)] (.tup [.one (.own 0), .one (.pure (.val (.int .i64 r.2)))]) := by
 unfold FW at h
 refine Aq (n := 17) (rs := [.tmp 4, .tmp 5]) Try.func51 rfl rfl rfl (AV rfl) (AV rfl) rfl fun w0 S0 => ?_
 refine Ab (Aa Ad rfl (qb rfl (qb rfl (qa rfl (qa rfl (Ac (Ab (Ab (Aa Ad rfl (qL Do Dh rfl (qL AU Aw rfl ?_)))))))))))
 obtain ⟨v1, a1, h⟩ := bind_some h
 refine AB [] (zFS N p0 p1 v1 a1) Ng rfl (qa rfl (Ac (Ab (Aa Ad rfl (qm rfl (Ch rfl (Ac ?_)))))))
 refine Ao rfl (fun c2 => ?_) (fun c2 => ?_)
 ·have h := An c2 h
  refine Ab (Aa Ad rfl (qm rfl (qa rfl (qa rfl (Ac ?_)))))
  obtain rfl := sj h
  refine Aj ((Bk 4 2001 3 rfl rfl rfl).trans (sm [(1000, 2001)] [(4, .e (.one (.own 1000))), (5, .e (.one (.pure (.val (.int .i64 v1)))))] [(1000, .vec 3 ((([] : List Au)).map AC))] rfl rfl)) (Ax ?_)
  exact ⟨⟨[_, _], ⟨.tmp _ _ rfl, ⟨.tmp _ _ rfl, trivial⟩⟩, rfl⟩, ⟨rfl, trivial⟩⟩
 ·have h := Am c2 h
  refine Ap (Ab (Aa Ad rfl (qL Do Dh rfl ?_)))
  obtain ⟨v3, a3, h⟩ := bind_some h
  refine AB [2002] (Mj N p0 v3 a3) RM rfl (CP (Kk 2 [.sl (p0.fVersions.map Ai), .sl (p0.fNow.map Ai), .sl (p0.fTarget.map Ai), .sl (p0.fTables.map Ar)] rfl rfl) (CP (Kk 3 [.sl (p1.fBase.map Ai), .sl (p1.fNext.map Ai), .sl (p1.fHeld.map BX)] rfl rfl) ?_))
  refine J9 (capD := [_, _]) (Bp (LB true AC) tB ((fun (x : Au) => Dy N x p0.fVersions p0.fNow p0.fTarget p0.fTables p1.fBase p1.fNext p1.fHeld))) (.p rfl) Rk rfl ⟨rfl, rfl, trivial⟩ rfl (fun ar t ht => by obtain ⟨x, r, rfl, hq, rfl⟩ := GH ht; exact I3 N x p0.fVersions p0.fNow p0.fTarget p0.fTables p1.fBase p1.fNext p1.fHeld r hq) ?_
  obtain ⟨v4, a4, h⟩ := bind_some h
  obtain ⟨c5, h⟩ := AT h
  have w6 : 0 + v4.1 ≤ v4.2.length := by rw [Nat.zero_add]; exact c5
  refine Ce (ds0 := [_, _]) [2002] [] [true] (Er N v3 ((fun (x : Au) => Dy N x p0.fVersions p0.fNow p0.fTarget p0.fTables p1.fBase p1.fNext p1.fHeld)) v4 a4) (.p rfl) RC rfl ⟨rfl, rfl, trivial⟩ rfl rfl (by decide) ⟨rfl, trivial⟩ rfl (AX rfl) trivial ⟨(fun h => by cases h), trivial⟩ rfl rfl rfl ?_
  refine CP (NT AC v4.2 16 2002 2003 3 v4.1 rfl rfl rfl rfl rfl c5) (qa rfl (qa rfl (Ac ?_)))
  obtain rfl := sj h
  refine Aj (sm [(1000, 2003)] [(4, .e (.one (.own 1000))), (5, .e (.one (.pure (.val (.int .i64 0)))))] [(1000, .vec 3 ((v4.2.take v4.1).map AC))] rfl rfl) (Ax ?_)
  exact ⟨⟨[_, _], ⟨.tmp _ _ rfl, ⟨.tmp _ _ rfl, trivial⟩⟩, rfl⟩, ⟨rfl, trivial⟩⟩
set_option maxRecDepth 10000 in
theorem KY (N : Nat) (p0 : Au) (r : Bool) (h : GD N p0 = some r) : Az Try.prog 82 [.e (.agg [.pure (.val (.int .i64 p0.fKind)), .pure (.val (.int .i64 p0.fIndex)), .pure (.val (.int .i64 p0.fVersion))])] [] (.e (.one (.pure (.val (.bool r))))) := by
 unfold GD at h
 refine Aq (n := 27) (rs := [.tmp 2]) Try.func82 rfl rfl rfl (AV rfl) (AV rfl) rfl fun w0 S0 => ?_
 refine Ab (Aa Ad rfl (qb rfl (qa rfl (Ac (Ab ?_)))))
 refine AN h (fun v1 => mk [(1, .e (.one (.ptr 1 0))), (18, .e (.one (.pure (.val (.bool v1)))))] [(1, .box [.pure (.val (.int .i64 p0.fKind)), .pure (.val (.int .i64 p0.fIndex)), .pure (.val (.int .i64 p0.fVersion))])]) (fun j1 h => ?_) (fun v1 h => ?_)
 ·refine Aa Ad rfl (qf EX rfl (ql CQ rfl (qf HX rfl (ql CQ rfl ?_))))
  refine P1 (.p rfl) rfl rfl ?_
  refine AS rfl (qm rfl ?_)
  refine AA (t := 9) rfl (fun c2 => ?_) (fun c2 => ?_)
  ·have h := An c2 h
   refine qn rfl (qn rfl (qn rfl (qp rfl (qm rfl (qn rfl (qn rfl (qn rfl (qp rfl (Ac ?_)))))))))
   exact Av _ h (sm [] _ _ rfl rfl)
  ·have h := Am c2 h
   refine qf G4 rfl (ql CQ rfl (AS rfl (qp rfl (qm rfl ?_))))
   refine AA (t := 14) rfl (fun c3 => ?_) (fun c3 => ?_)
   ·have h := An c3 h
    refine qn rfl (qn rfl (qn rfl (qp rfl (Ac ?_))))
    exact Av _ h (sm [] _ _ rfl rfl)
   ·have h := Am c3 h
    refine qf G4 rfl (ql CQ rfl (Dd rfl (qp rfl (Ac ?_))))
    exact Av _ h (sm [] _ _ rfl rfl)
 ·refine Ao rfl (fun c4 => ?_) (fun c4 => ?_)
  ·have h := An c4 h
   refine Ab (Aa Ad rfl (qa rfl (Ac ?_)))
   obtain rfl := sj h
   refine Aj (sm [] [(2, .e (.one (.pure (.val (.bool false)))))] [] rfl rfl) (Ax ?_)
   exact ⟨⟨[_], ⟨.tmp _ _ rfl, trivial⟩, rfl⟩, trivial⟩
  ·have h := Am c4 h
   refine Ap ?_
   refine AN h (fun v5 => mk [(2, .e (.one (.pure (.val (.bool v5)))))] []) (fun j5 h => ?_) (fun v5 h => ?_)
   ·refine Aa Ad rfl (qf G4 rfl (ql CQ rfl (BR rfl (qm rfl ?_))))
    refine AA (t := 22) rfl (fun c6 => ?_) (fun c6 => ?_)
    ·have h := An c6 h
     refine qn rfl (qn rfl (qn rfl (qp rfl (qa rfl (Ac ?_)))))
     exact Av _ h (sm [] _ _ rfl rfl)
    ·have h := Am c6 h
     refine qf HX rfl (ql CQ rfl (BR rfl (qp rfl (qa rfl (Ac ?_)))))
     exact Av _ h (sm [] _ _ rfl rfl)
   ·obtain rfl := sj h
    refine Aj (sm [] [(2, .e (.one (.pure (.val (.bool v5)))))] [] rfl rfl) (Ax ?_)
    exact ⟨⟨[_], ⟨.tmp _ _ rfl, trivial⟩, rfl⟩, trivial⟩
set_option maxRecDepth 10000 in
theorem Kl (N : Nat) (p0 : Ak) (p1 : Au) (r : Bool) (h : F9 N p0 p1 = some r) : Az Try.prog 83 [.e (.agg [.pure (.sl (p0.fVersions.map Ai)), .pure (.sl (p0.fNow.map Ai)), .pure (.sl (p0.fTarget.map Ai)), .pure (.sl (p0.fTables.map Ar))]), .e (.agg [.pure (.val (.int .i64 p1.fKind)), .pure (.val (.int .i64 p1.fIndex)), .pure (.val (.int .i64 p1.fVersion))])] [] (.e (.one (.pure (.val (.bool r))))) := by
 unfold F9 at h
 refine Aq (n := 36) (rs := [.tmp 4]) Try.func83 rfl rfl rfl (AV rfl) (AV rfl) rfl fun w0 S0 => ?_
 refine Ab (Aa Ad rfl (qb rfl (qb rfl (qa rfl (Ac (Ab (Ab (Aa Ad rfl (qf G4 rfl (ql CQ rfl (BR rfl (Ac ?_))))))))))))
 refine Ao rfl (fun c1 => ?_) (fun c1 => ?_)
 ·have h := An c1 h
  refine Ab (Aa Ad rfl (qf EX rfl (ql CQ rfl (qf CI rfl (ql Gp rfl (AM DH rfl (AS rfl (qa rfl (Ac ?_)))))))))
  obtain rfl := sj h
  refine Aj (sm [] [(4, .e (.one (.pure (.val (.bool ((decide (p1.fIndex < (p0.fTables.length : Int)))))))))] [] rfl rfl) (Ax ?_)
  exact ⟨⟨[_], ⟨.tmp _ _ rfl, trivial⟩, rfl⟩, trivial⟩
 ·have h := Am c1 h
  refine Ap ?_
  refine AN h (fun v2 => mk [(4, .e (.one (.pure (.val (.bool v2)))))] []) (fun j2 h => ?_) (fun v2 h => ?_)
  ·refine Aa Ad rfl (qf EX rfl (ql CQ rfl (qf Ck rfl (ql BS rfl (AM AK rfl (AS rfl (qm rfl ?_)))))))
   refine AA (t := 20) rfl (fun c3 => ?_) (fun c3 => ?_)
   ·have h := An c3 h
    refine qf G4 rfl (ql CQ rfl (Ch rfl (qm rfl ?_)))
    refine AA (t := 24) rfl (fun c4 => ?_) (fun c4 => ?_)
    ·have h := An c4 h
     refine qn rfl (qn rfl (qn rfl (qn rfl (qn rfl (qn rfl (qn rfl (qn rfl (qn rfl (qp rfl (qp rfl (qa rfl (AJ (by kernel_rfl) ?_))))))))))))
     exact Av _ h (sm [] _ _ rfl rfl)
    ·have h := Am c4 h
     refine qf HX rfl (ql CQ rfl (qf Ck rfl (ql BS rfl (qf EX rfl (ql CQ rfl ?_)))))
     obtain ⟨v5, a5, b5, h⟩ := Ah h
     refine qi AK Ee a5 (Ag b5) rfl (qk CQ rfl (AS rfl (qp rfl (qp rfl (qa rfl (AJ (by kernel_rfl) ?_))))))
     exact Av _ h (sm [] _ _ rfl rfl)
   ·have h := Am c3 h
    refine qn rfl (qn rfl (qn rfl (qn rfl (qu rfl (qu rfl (qu rfl (qu rfl (qu rfl (qu rfl (qu rfl (qu rfl (qu rfl (qn rfl (qp rfl (qa rfl (AJ (by kernel_rfl) ?_))))))))))))))))
    exact Av _ h (sm [] _ _ rfl rfl)
  ·obtain rfl := sj h
   refine Aj (sm [] [(4, .e (.one (.pure (.val (.bool v2)))))] [] rfl rfl) (Ax ?_)
   exact ⟨⟨[_], ⟨.tmp _ _ rfl, trivial⟩, rfl⟩, trivial⟩
set_option maxRecDepth 10000 in
theorem IN (N : Nat) (p0 : Ak) (p1 : Af) (p2 : Au) (r : Af × Int) (h : FO N p0 p1 p2 = some r) : Az Try.prog 61 [.e (.agg [.pure (.sl (p0.fVersions.map Ai)), .pure (.sl (p0.fNow.map Ai)), .pure (.sl (p0.fTarget.map Ai)), .pure (.sl (p0.fTables.map Ar))]), .e (.agg [.pure (.sl (p1.fBase.map Ai)), .pure (.sl (p1.fNext.map Ai)), .pure (.sl (p1.fHeld.map BX))]), .e (.agg [.pure (.val (.int .i64 p2.fKind)), .pure (.val (.int .i64 p2.fIndex)), .pure (.val (.int .i64 p2.fVersion))])] [(1, r.1.fBase.map Ai), (1, r.1.fNext.map Ai), (1, r.1.fHeld.map BX)] (.tup [.agg [.own 0, .own 1, .own 2], .one (.pure (.val (.int .i64 r.2)))]) := by
 unfold FO at h
 refine Aq (n := 32) (rs := [.cell 6 42, .tmp 7]) Try.func61 rfl rfl rfl (AV rfl) (AV rfl) rfl fun w0 S0 => ?_
 refine Ab (Aa Ad rfl (qb rfl (qb rfl (qb rfl (qz CZ rfl (qa rfl (Ac (Ab (AI (Ab (Aa Ad rfl (qL H1 DW rfl ?_))))))))))))
 obtain ⟨v1, a1, h⟩ := bind_some h
 refine AB [] (KY N p2 v1 a1) Q8 rfl (Cg rfl (qa rfl (Ac ?_)))
 refine Ao rfl (fun c2 => ?_) (fun c2 => ?_)
 ·have h := An c2 h
  refine Ab (Aa Ad rfl (Cy CZ IT rfl (qs Aw rfl (qa rfl (Ac ?_)))))
  obtain rfl := sj h
  refine Aj ((BK 6 0 2001 1 _ rfl rfl rfl rfl).trans ((BK 6 1 2002 1 _ rfl rfl rfl rfl).trans ((BK 6 2 2003 1 _ rfl rfl rfl rfl).trans (sm [(1000, 2001), (1001, 2002), (1002, 2003)] [(6, .e (.one (.ptr 6 0))), (7, .e (.one (.pure (.val (.int .i64 1)))))] [(6, .box [.own 1000, .own 1001, .own 1002]), (1000, .vec 1 ((([] : List Int)).map Ai)), (1001, .vec 1 ((([] : List Int)).map Ai)), (1002, .vec 1 ((([] : List Int)).map BX))] rfl rfl)))) (Ax ?_)
  exact ⟨⟨[_, _], ⟨.cellN _ _ _ _ _ _ _ rfl rfl AU Aw rfl rfl (JB rfl), ⟨.tmp _ _ rfl, trivial⟩⟩, rfl⟩, ⟨rfl, rfl, rfl, trivial⟩⟩
 ·have h := Am c2 h
  refine Ab (Aa Ad rfl (qL Do Dh rfl (qL H1 DW rfl ?_)))
  obtain ⟨v3, a3, h⟩ := bind_some h
  refine AB [] (Kl N p0 p2 v3 a3) Rq rfl (Cg rfl (qa rfl (Ac ?_)))
  refine Ao rfl (fun c4 => ?_) (fun c4 => ?_)
  ·have h := An c4 h
   refine Ab (Aa Ad rfl (Cy CZ IT rfl (qs Aw rfl (qa rfl (Ac ?_)))))
   obtain rfl := sj h
   refine Aj ((BK 6 0 2004 1 _ rfl rfl rfl rfl).trans ((BK 6 1 2005 1 _ rfl rfl rfl rfl).trans ((BK 6 2 2006 1 _ rfl rfl rfl rfl).trans (sm [(1000, 2004), (1001, 2005), (1002, 2006)] [(6, .e (.one (.ptr 6 0))), (7, .e (.one (.pure (.val (.int .i64 4)))))] [(6, .box [.own 1000, .own 1001, .own 1002]), (1000, .vec 1 ((([] : List Int)).map Ai)), (1001, .vec 1 ((([] : List Int)).map Ai)), (1002, .vec 1 ((([] : List Int)).map BX))] rfl rfl)))) (Ax ?_)
   exact ⟨⟨[_, _], ⟨.cellN _ _ _ _ _ _ _ rfl rfl AU Aw rfl rfl (JB rfl), ⟨.tmp _ _ rfl, trivial⟩⟩, rfl⟩, ⟨rfl, rfl, rfl, trivial⟩⟩
  ·have h := Am c4 h
   refine Ap (Ab (Aa Ad rfl (qL Do Dh rfl (qL AU Aw rfl (qL H1 DW rfl ?_)))))
   obtain ⟨v5, a5, h⟩ := bind_some h
   refine AB [2007, 2008, 2009] (It N p0 p1 p2 v5 a5) QL rfl (qm rfl (qx rfl (qx rfl (qz CZ rfl (qs Aw rfl (qa rfl (Ac (Ab (Ab (Aa Ad rfl (qm rfl (Cg rfl (Ac ?_)))))))))))))
   refine Ao rfl (fun c6 => ?_) (fun c6 => ?_)
   ·have h := An c6 h
    refine Ab (Aa Ad rfl (Cy CZ IT rfl (qs Aw rfl (qa rfl (Ac ?_)))))
    obtain rfl := sj h
    refine Aj ((BK 6 0 2010 1 _ rfl rfl rfl rfl).trans ((BK 6 1 2011 1 _ rfl rfl rfl rfl).trans ((BK 6 2 2012 1 _ rfl rfl rfl rfl).trans (sm [(1000, 2010), (1001, 2011), (1002, 2012)] [(6, .e (.one (.ptr 6 0))), (7, .e (.one (.pure (.val (.int .i64 11)))))] [(6, .box [.own 1000, .own 1001, .own 1002]), (1000, .vec 1 ((([] : List Int)).map Ai)), (1001, .vec 1 ((([] : List Int)).map Ai)), (1002, .vec 1 ((([] : List Int)).map BX))] rfl rfl)))) (Ax ?_)
    exact ⟨⟨[_, _], ⟨.cellN _ _ _ _ _ _ _ rfl rfl AU Aw rfl rfl (JB rfl), ⟨.tmp _ _ rfl, trivial⟩⟩, rfl⟩, ⟨rfl, rfl, rfl, trivial⟩⟩
   ·have h := Am c6 h
    refine Ap (Ab (Aa Ad rfl (qL AU Aw rfl (qs Aw rfl (qa rfl (Ac ?_))))))
    obtain rfl := sj h
    refine Aj (sm [(1000, 2007), (1001, 2008), (1002, 2009)] [(6, .e (.one (.ptr 6 0))), (7, .e (.one (.pure (.val (.int .i64 0)))))] [(6, .box [.own 1000, .own 1001, .own 1002]), (1000, .vec 1 (v5.1.fBase.map Ai)), (1001, .vec 1 (v5.1.fNext.map Ai)), (1002, .vec 1 (v5.1.fHeld.map BX))] rfl rfl) (Ax ?_)
    exact ⟨⟨[_, _], ⟨.cellN _ _ _ _ _ _ _ rfl rfl AU Aw rfl rfl (JB rfl), ⟨.tmp _ _ rfl, trivial⟩⟩, rfl⟩, ⟨rfl, rfl, rfl, trivial⟩⟩
set_option maxRecDepth 10000 in
theorem KV (N : Nat) (p0 : Ak) (p1 : Af) (p2 : Au) (r : Af × Int) (h : Gz N p0 p1 p2 = some r) : Az Try.prog 52 [.e (.agg [.pure (.sl (p0.fVersions.map Ai)), .pure (.sl (p0.fNow.map Ai)), .pure (.sl (p0.fTarget.map Ai)), .pure (.sl (p0.fTables.map Ar))]), .e (.agg [.pure (.sl (p1.fBase.map Ai)), .pure (.sl (p1.fNext.map Ai)), .pure (.sl (p1.fHeld.map BX))]), .e (.agg [.pure (.val (.int .i64 p2.fKind)), .pure (.val (.int .i64 p2.fIndex)), .pure (.val (.int .i64 p2.fVersion))])] [(1, r.1.fBase.map Ai), (1, r.1.fNext.map Ai), (1, r.1.fHeld.map BX)] (.tup [.agg [.own 0, .own 1, .own 2], .one (.pure (.val (.int .i64 r.2)))]) := by
 unfold Gz at h
 refine Aq (n := 22) (rs := [.cell 6 42, .tmp 7]) Try.func52 rfl rfl rfl (AV rfl) (AV rfl) rfl fun w0 S0 => ?_
 refine Ab (Aa Ad rfl (qb rfl (qb rfl (qb rfl (qz CZ rfl (qa rfl (Ac (Ab (Ab (Aa Ad rfl (qL Do Dh rfl (qL AU Aw rfl ?_))))))))))))
 obtain ⟨v1, a1, h⟩ := bind_some h
 refine AB [] (zFS N p0 p1 v1 a1) Ng rfl (qa rfl (Ac (Ab (Aa Ad rfl (qm rfl (Ch rfl (Ac ?_)))))))
 refine Ao rfl (fun c2 => ?_) (fun c2 => ?_)
 ·have h := An c2 h
  refine Ab (Aa Ad rfl (Cy CZ IT rfl (qm rfl (qs Aw rfl (qa rfl (Ac ?_))))))
  obtain rfl := sj h
  refine Aj ((BK 6 0 2001 1 _ rfl rfl rfl rfl).trans ((BK 6 1 2002 1 _ rfl rfl rfl rfl).trans ((BK 6 2 2003 1 _ rfl rfl rfl rfl).trans (sm [(1000, 2001), (1001, 2002), (1002, 2003)] [(6, .e (.one (.ptr 6 0))), (7, .e (.one (.pure (.val (.int .i64 v1)))))] [(6, .box [.own 1000, .own 1001, .own 1002]), (1000, .vec 1 ((([] : List Int)).map Ai)), (1001, .vec 1 ((([] : List Int)).map Ai)), (1002, .vec 1 ((([] : List Int)).map BX))] rfl rfl)))) (Ax ?_)
  exact ⟨⟨[_, _], ⟨.cellN _ _ _ _ _ _ _ rfl rfl AU Aw rfl rfl (JB rfl), ⟨.tmp _ _ rfl, trivial⟩⟩, rfl⟩, ⟨rfl, rfl, rfl, trivial⟩⟩
 ·have h := Am c2 h
  refine Ap (Ab (Aa Ad rfl (qL Do Dh rfl (qL AU Aw rfl (qL H1 DW rfl ?_)))))
  obtain ⟨v3, a3, h⟩ := bind_some h
  refine AB [2004, 2005, 2006] (IN N p0 p1 p2 v3 a3) Qz rfl (qx rfl (qx rfl (qs Aw rfl (qa rfl (Ac ?_)))))
  obtain rfl := sj h
  refine Aj (sm [(1000, 2004), (1001, 2005), (1002, 2006)] [(6, .e (.one (.ptr 6 0))), (7, .e (.one (.pure (.val (.int .i64 v3.2)))))] [(6, .box [.own 1000, .own 1001, .own 1002]), (1000, .vec 1 (v3.1.fBase.map Ai)), (1001, .vec 1 (v3.1.fNext.map Ai)), (1002, .vec 1 (v3.1.fHeld.map BX))] rfl rfl) (Ax ?_)
  exact ⟨⟨[_, _], ⟨.cellN _ _ _ _ _ _ _ rfl rfl AU Aw rfl rfl (JB rfl), ⟨.tmp _ _ rfl, trivial⟩⟩, rfl⟩, ⟨rfl, rfl, rfl, trivial⟩⟩
set_option maxRecDepth 10000 in
theorem II (N : Nat) (p0 : Ak) (p1 : Af) (r : (List Au) × (List Af)) (h : FK N p0 p1 = some r) : Az Try.prog 31 [.e (.agg [.pure (.sl (p0.fVersions.map Ai)), .pure (.sl (p0.fNow.map Ai)), .pure (.sl (p0.fTarget.map Ai)), .pure (.sl (p0.fTables.map Ar))]), .e (.agg [.pure (.sl (p1.fBase.map Ai)), .pure (.sl (p1.fNext.map Ai)), .pure (.sl (p1.fHeld.map BX))])] [(3, r.1.map AC), (3, r.2.map Ae)] (.tup [.one (.own 0), .one (.own 1)]) := by
 unfold FK at h
 refine Aq (n := 55) (rs := [.tmp 4, .tmp 5]) Try.func31 rfl rfl rfl (AV rfl) (AV rfl) rfl fun w0 S0 => ?_
 refine Ab (Aa Ad rfl (qb rfl (qb rfl (qa rfl (qa rfl (Ac (Ab (Aa Ad rfl (qa rfl (Ac (Ab (Aa Ad rfl (qa rfl (Ac (Ab (Aa Ad rfl (qL Do Dh rfl (qL AU Aw rfl ?_))))))))))))))))))
 obtain ⟨v1, a1, h⟩ := bind_some h
 refine AB [2001] (JY N p0 p1 v1 a1) QZ rfl (qm rfl (qx rfl (qx rfl (qa rfl (qa rfl (Ac (Ab (Ab (Aa Ad rfl (qm rfl (CU CY rfl (qm rfl (Ac ?_)))))))))))))
 refine AF (L := ED N p0 p1 v1) h (fun v2 => mk [(2, .e (.one (.ptr 2 0))), (3, .e (.one (.ptr 3 0))), (6, .e (.one (.own 2002))), (7, .e (.one (.own 2003))), (22, .e (.one (.own 2004))), (23, .e (.one (.pure (.val (.int .i64 ((v1.1.length : Int))))))), (24, .e (.one (.pure (.val (.int .i64 v2.2.2)))))] [(2, .box [.pure (.sl (p0.fVersions.map Ai)), .pure (.sl (p0.fNow.map Ai)), .pure (.sl (p0.fTarget.map Ai)), .pure (.sl (p0.fTables.map Ar))]), (3, .box [.pure (.sl (p1.fBase.map Ai)), .pure (.sl (p1.fNext.map Ai)), .pure (.sl (p1.fHeld.map BX))]), (2002, .vec 3 (v2.1.map AC)), (2003, .vec 3 (v2.2.1.map Ae)), (2004, .vec 3 (v1.1.map AC))]) (fun v3 => mk [(6, .e (.one (.own 2005))), (7, .e (.one (.own 2006)))] [(2005, .vec 3 (v3.1.map AC)), (2006, .vec 3 (v3.2.map Ae))]) (fun _ _ => rfl) ((Bk 6 2013 3 rfl rfl rfl).trans ((Bk 7 2014 3 rfl rfl rfl).trans (sm [(2002, 2013), (2003, 2014), (2004, 2001)] _ _ rfl rfl))) (fun j2 n2 v2 h => ?_) (fun v3 s h hs => ?_)
 ·unfold ED at h
  refine Ab (Aa Ad rfl (AS rfl (Ac (Ab ?_))))
  refine Ao rfl (fun c4 => ?_) (fun c4 => ?_)
  ·have h := An c4 h
   refine Ap ?_
   refine AN h (fun v5 => mk [(2, .e (.one (.ptr 2 0))), (3, .e (.one (.ptr 3 0))), (6, .e (.one (.own 2007))), (7, .e (.one (.own 2008))), (22, .e (.one (.own 2009))), (23, .e (.one (.pure (.val (.int .i64 ((v1.1.length : Int))))))), (24, .e (.one (.pure (.val (.int .i64 v2.2.2)))))] [(2, .box [.pure (.sl (p0.fVersions.map Ai)), .pure (.sl (p0.fNow.map Ai)), .pure (.sl (p0.fTarget.map Ai)), .pure (.sl (p0.fTables.map Ar))]), (3, .box [.pure (.sl (p1.fBase.map Ai)), .pure (.sl (p1.fNext.map Ai)), .pure (.sl (p1.fHeld.map BX))]), (2007, .vec 3 (v5.1.map AC)), (2008, .vec 3 (v5.2.map Ae)), (2009, .vec 3 (v1.1.map AC))]) (fun j5 h => ?_) (fun v5 h => ?_)
   ·refine AI (Ab (Aa Ad rfl ?_))
    obtain ⟨v6, a6, b6, h⟩ := Ah h
    refine qI CY DW a6 (Ag b6) rfl (qJ H1 DW (Ag b6) rfl (qz G8 rfl (qs DW rfl (Ac (Ab (Aa Ad rfl (qL Do Dh rfl (qL AU Aw rfl (qL H1 DW rfl ?_)))))))))
    obtain ⟨v7, a7, h⟩ := bind_some h
    refine AB [2010, 2011, 2012] (KV N p0 p1 v6 v7 a7) Q2 rfl (qm rfl (qx rfl (qx rfl (qz CZ rfl (qs Aw rfl (qa rfl (Ac (Ab (Ab (Aa Ad rfl (qm rfl (Ch rfl (Ac ?_)))))))))))))
    refine Ao rfl (fun c8 => ?_) (fun c8 => ?_)
    ·have h := An c8 h
     refine AR ?_
     exact Av _ h (sm [(2007, 2002), (2008, 2003), (2009, 2004)] _ _ rfl rfl)
    ·have h := Am c8 h
     refine Ap (Ab (Aa Ad rfl (qL Do Dh rfl (qL AU Aw rfl ?_))))
     obtain ⟨v9, a9, h⟩ := bind_some h
     refine Fr [] [2010, 2011, 2012] (G5 N p0 v7.1 v9 a9) Pi DQ rfl (qm rfl (qx rfl (qx rfl (qa rfl (qa rfl (Ac (Ab (Aa Ad rfl (qm rfl (Ac ?_))))))))))
     refine Ao rfl (fun c10 => ?_) (fun c10 => ?_)
     ·have h := An c10 h
      refine Aj (Ba 2010 _ _ rfl rfl) (Aj (Ba 2011 _ _ rfl rfl) (Aj (Ba 2012 _ _ rfl rfl) (Aa Ad rfl (qm rfl (qL H1 DW rfl (E4 CY DW G8 rfl ?_))))))
      obtain ⟨c11, h⟩ := AT h
      refine EK (f := AC) CY CY DW Lo G8 c11 rfl (qm rfl (qL AU Aw rfl (E4 AE Aw CZ rfl ?_)))
      obtain ⟨c12, h⟩ := AT h
      refine EK (f := Ae) AE AE Aw LU CZ c12 rfl (qa rfl (qa rfl (AJ (by kernel_rfl) ?_)))
      exact Av _ h (sm [(2007, 47), (2008, 51), (2009, 2004)] _ _ rfl rfl)
     ·have h := Am c10 h
      refine Ap ?_
      exact Av _ h (sm [(2007, 2002), (2008, 2003), (2009, 2004)] _ _ rfl rfl)
   ·refine Aa Ad rfl (AO rfl (qm rfl (Ac ?_)))
    exact Av _ h (sm [(2002, 2007), (2003, 2008), (2004, 2009)] _ _ rfl rfl)
  ·have h := Am c4 h
   refine AR ?_
   exact Av _ h (sm [(2005, 2002), (2006, 2003)] _ _ rfl rfl)
 ·refine Aj hs (Ab (Aa Ad rfl (qm rfl (qm rfl (qa rfl (qa rfl (Ac ?_)))))))
  obtain rfl := sj h
  refine Aj (sm [(1000, 2005), (1001, 2006)] [(4, .e (.one (.own 1000))), (5, .e (.one (.own 1001)))] [(1000, .vec 3 (v3.1.map AC)), (1001, .vec 3 (v3.2.map Ae))] rfl rfl) (Ax ?_)
  exact ⟨⟨[_, _], ⟨.tmp _ _ rfl, ⟨.tmp _ _ rfl, trivial⟩⟩, rfl⟩, ⟨rfl, rfl, trivial⟩⟩
set_option maxRecDepth 10000 in
theorem IA (N : Nat) (p0 : Int) (r : Int) (h : E1 N p0 = some r) : Az Try.prog 70 [.e (.one (.pure (.val (.int .u32 p0))))] [] (.e (.one (.pure (.val (.int .i64 r))))) := by
 unfold E1 at h
 refine Aq (n := 19) (rs := [.tmp 2]) Try.func70 rfl rfl rfl (AV rfl) (AV rfl) rfl fun w0 S0 => ?_
 refine Ab (Aa Ad rfl (qa rfl (Ac ?_)))
 refine AN h (fun v1 => mk [(0, .e (.one (.pure (.val (.int .u32 v1.1))))), (2, .e (.one (.pure (.val (.int .i64 v1.2)))))] []) (fun j1 h => ?_) (fun v1 h => ?_)
 ·refine Ab (Aa Ad rfl (qm rfl (Dc rfl (Ac ?_))))
  refine Ao rfl (fun c2 => ?_) (fun c2 => ?_)
  ·have h := An c2 h
   refine Ab (Aa Ad rfl (qm rfl (Gl rfl (by decide) (qa rfl (Ac (Aa Ad rfl (qa rfl (Ac ?_))))))))
   exact Av _ h (sm [] _ _ rfl rfl)
  ·have h := Am c2 h
   refine Ap ?_
   exact Av _ h (sm [] _ _ rfl rfl)
 ·refine AN h (fun v3 => mk [(0, .e (.one (.pure (.val (.int .u32 v3.1))))), (2, .e (.one (.pure (.val (.int .i64 v3.2)))))] []) (fun j3 h => ?_) (fun v3 h => ?_)
  ·refine Ab (Aa Ad rfl (qm rfl (Dc rfl (Ac ?_))))
   refine Ao rfl (fun c4 => ?_) (fun c4 => ?_)
   ·have h := An c4 h
    refine Ab (Aa Ad rfl (qm rfl (Gl rfl (by decide) (qa rfl (Ac (Aa Ad rfl (qm rfl (AO rfl (qa rfl (Ac ?_))))))))))
    exact Av _ h (sm [] _ _ rfl rfl)
   ·have h := Am c4 h
    refine Ap ?_
    exact Av _ h (sm [] _ _ rfl rfl)
  ·refine Ab (Aa Ad rfl (qm rfl (qm rfl (FY Lw QR rfl ?_))))
   obtain ⟨v5, a5, h⟩ := bind_some h
   refine I5 (.p rfl) rfl rfl OP a5 ?_
   refine FY QW Py rfl (AO rfl (qa rfl (Ac ?_)))
   obtain rfl := sj h
   refine Aj (sm [] [(2, .e (.one (.pure (.val (.int .i64 ((IntKind.wrap .i64 (v3.2 + (IntKind.wrap .i64 v5)))))))))] [] rfl rfl) (Ax ?_)
   exact ⟨⟨[_], ⟨.tmp _ _ rfl, trivial⟩, rfl⟩, trivial⟩
set_option maxRecDepth 10000 in
theorem Iy (N : Nat) (p0 : Int) (r : Int) (h : E7 N p0 = some r) : Az Try.prog 71 [.e (.one (.pure (.val (.int .u64 p0))))] [] (.e (.one (.pure (.val (.int .i64 r))))) := by
 unfold E7 at h
 refine Aq (n := 25) (rs := [.tmp 2]) Try.func71 rfl rfl rfl (AV rfl) (AV rfl) rfl fun w0 S0 => ?_
 refine Ab (Aa Ad rfl (qa rfl (Ac ?_)))
 refine AN h (fun v1 => mk [(0, .e (.one (.pure (.val (.int .u64 v1.1))))), (2, .e (.one (.pure (.val (.int .i64 v1.2)))))] []) (fun j1 h => ?_) (fun v1 h => ?_)
 ·refine Ab (Aa Ad rfl (qm rfl (Dc rfl (Ac ?_))))
  refine Ao rfl (fun c2 => ?_) (fun c2 => ?_)
  ·have h := An c2 h
   refine Ab (Aa Ad rfl (qm rfl (Gl rfl (by decide) (qa rfl (Ac (Aa Ad rfl (qa rfl (Ac ?_))))))))
   exact Av _ h (sm [] _ _ rfl rfl)
  ·have h := Am c2 h
   refine Ap ?_
   exact Av _ h (sm [] _ _ rfl rfl)
 ·refine AN h (fun v3 => mk [(0, .e (.one (.pure (.val (.int .u64 v3.1))))), (2, .e (.one (.pure (.val (.int .i64 v3.2)))))] []) (fun j3 h => ?_) (fun v3 h => ?_)
  ·refine Ab (Aa Ad rfl (qm rfl (Dc rfl (Ac ?_))))
   refine Ao rfl (fun c4 => ?_) (fun c4 => ?_)
   ·have h := An c4 h
    refine Ab (Aa Ad rfl (qm rfl (Gl rfl (by decide) (qa rfl (Ac (Aa Ad rfl (qm rfl (AO rfl (qa rfl (Ac ?_))))))))))
    exact Av _ h (sm [] _ _ rfl rfl)
   ·have h := Am c4 h
    refine Ap ?_
    exact Av _ h (sm [] _ _ rfl rfl)
  ·refine AN h (fun v5 => mk [(0, .e (.one (.pure (.val (.int .u64 v5.1))))), (2, .e (.one (.pure (.val (.int .i64 v5.2)))))] []) (fun j5 h => ?_) (fun v5 h => ?_)
   ·refine Ab (Aa Ad rfl (qm rfl (Dc rfl (Ac ?_))))
    refine Ao rfl (fun c6 => ?_) (fun c6 => ?_)
    ·have h := An c6 h
     refine Ab (Aa Ad rfl (qm rfl (Gl rfl (by decide) (qa rfl (Ac (Aa Ad rfl (qm rfl (AO rfl (qa rfl (Ac ?_))))))))))
     exact Av _ h (sm [] _ _ rfl rfl)
    ·have h := Am c6 h
     refine Ap ?_
     exact Av _ h (sm [] _ _ rfl rfl)
   ·refine Ab (Aa Ad rfl (qm rfl (qm rfl (FY NI QR rfl ?_))))
    obtain ⟨v7, a7, h⟩ := bind_some h
    refine I5 (.p rfl) rfl rfl OP a7 ?_
    refine FY QW Py rfl (AO rfl (qa rfl (Ac ?_)))
    obtain rfl := sj h
    refine Aj (sm [] [(2, .e (.one (.pure (.val (.int .i64 ((IntKind.wrap .i64 (v5.2 + (IntKind.wrap .i64 v7)))))))))] [] rfl rfl) (Ax ?_)
    exact ⟨⟨[_], ⟨.tmp _ _ rfl, trivial⟩, rfl⟩, trivial⟩
set_option maxRecDepth 10000 in
theorem Hn (N : Nat) (p0 : Int) (r : Int) (h : Et N p0 = some r) : Az Try.prog 46 [.e (.one (.pure (.val (.int .u64 p0))))] [] (.e (.one (.pure (.val (.int .i64 r))))) := by
 unfold Et at h
 refine Aq (n := 8) (rs := [.tmp 2]) Try.func46 rfl rfl rfl (AV rfl) (AV rfl) rfl fun w0 S0 => ?_
 refine Ab (Aa Ad rfl (qa rfl (Ac (Ab ?_))))
 refine Ao rfl (fun c1 => ?_) (fun c1 => ?_)
 ·have h := An c1 h
  refine Ab (Aa Ad rfl (qm rfl (FY Nj Lq rfl ?_)))
  obtain ⟨v2, a2, h⟩ := bind_some h
  refine AB [] (IA N ((IntKind.wrap .u32 p0)) v2 a2) Rm rfl (qa rfl (Ac ?_))
  obtain rfl := sj h
  refine Aj (sm [] [(2, .e (.one (.pure (.val (.int .i64 v2)))))] [] rfl rfl) (Ax ?_)
  exact ⟨⟨[_], ⟨.tmp _ _ rfl, trivial⟩, rfl⟩, trivial⟩
 ·have h := Am c1 h
  refine Ap (Ab (Aa Ad rfl (qm rfl ?_)))
  obtain ⟨v3, a3, h⟩ := bind_some h
  refine AB [] (Iy N p0 v3 a3) RI rfl (qa rfl (Ac ?_))
  obtain rfl := sj h
  refine Aj (sm [] [(2, .e (.one (.pure (.val (.int .i64 v3)))))] [] rfl rfl) (Ax ?_)
  exact ⟨⟨[_], ⟨.tmp _ _ rfl, trivial⟩, rfl⟩, trivial⟩
set_option maxRecDepth 10000 in
theorem Eq (N : Nat) (p0 : List Af) (p1 : Int) (p2 : Int) (p3 : (Af × Af) → Option Int) (r : (List Af)) (h : B6 N p0 p1 p2 p3 = some r) : Bg Try.prog 62 [.e (.one (.own 90000)), .e (.one (.pure (.val (.int .i64 p1)))), .e (.one (.pure (.val (.int .i64 p2)))), .e (.one (.clo (Bp (C4 true Ae true Ae) BW p3)))] [(.vec 3 (p0.map Ae), .vec 3 (r.map Ae))] [] (.tup []) := by
 unfold B6 at h
 refine A9 (n := 53) (rs := []) Try.func62 rfl rfl rfl (AV rfl) (AV rfl) rfl rfl (AV rfl) rfl (AV rfl) fun w0 S0 GL => JT ?_
 refine Aj (sm [] [(0, .e (.one (.own 90000))), (1, .e (.one (.pure (.val (.int .i64 p1))))), (2, .e (.one (.pure (.val (.int .i64 p2))))), (3, .e (.one (.clo (Bp (C4 true Ae true Ae) BW p3))))] [(90000, .vec 3 (p0.map Ae))] rfl rfl) (Ab (Aa Ad rfl (qm rfl (AO rfl (qa rfl (Ac ?_))))))
 refine AF (L := Bs N p1 p2 p3) h (fun v1 => mk [(0, .e (.one (.own 90000))), (1, .e (.one (.pure (.val (.int .i64 p1))))), (2, .e (.one (.pure (.val (.int .i64 p2))))), (3, .e (.one (.clo (Bp (C4 true Ae true Ae) BW p3)))), (8, .e (.one (.pure (.val (.int .i64 v1.2)))))] [(90000, .vec 3 (v1.1.map Ae))]) (fun v2 => mk [] [(90000, .vec 3 (v2.map Ae))]) (fun _ _ => rfl) (sm [] _ _ rfl rfl) (fun j1 n1 v1 h => ?_) (fun v2 s h hs => ?_)
 ·unfold Bs at h
  refine Ab (Ab (Aa Ad rfl (qm rfl (qm rfl (AS rfl (Ac ?_))))))
  refine Ao rfl (fun c3 => ?_) (fun c3 => ?_)
  ·have h := An c3 h
   refine Ap (Ab (AI (Ab (Aa Ad rfl (qm rfl (qa rfl (Ac ?_)))))))
   refine AF (L := Bu N p1 p3) h (fun v4 => mk [(0, .e (.one (.own 90000))), (1, .e (.one (.pure (.val (.int .i64 p1))))), (2, .e (.one (.pure (.val (.int .i64 p2))))), (3, .e (.one (.clo (Bp (C4 true Ae true Ae) BW p3)))), (8, .e (.one (.pure (.val (.int .i64 v1.2))))), (9, .e (.one (.pure (.val (.int .i64 v4.2)))))] [(90000, .vec 3 (v4.1.map Ae))]) (fun v5 => mk [(0, .e (.one (.own 90000))), (1, .e (.one (.pure (.val (.int .i64 p1))))), (2, .e (.one (.pure (.val (.int .i64 p2))))), (3, .e (.one (.clo (Bp (C4 true Ae true Ae) BW p3)))), (8, .e (.one (.pure (.val (.int .i64 v1.2)))))] [(90000, .vec 3 (v5.map Ae))]) (fun _ _ => rfl) (sm [] _ _ rfl rfl) (fun j4 n4 v4 h => ?_) (fun v5 s h hs => ?_)
   ·unfold Bu at h
    refine Ab ?_
    refine AN h (fun v6 => mk [(0, .e (.one (.own 90000))), (1, .e (.one (.pure (.val (.int .i64 p1))))), (2, .e (.one (.pure (.val (.int .i64 p2))))), (3, .e (.one (.clo (Bp (C4 true Ae true Ae) BW p3)))), (8, .e (.one (.pure (.val (.int .i64 v1.2))))), (9, .e (.one (.pure (.val (.int .i64 v4.2))))), (34, .e (.one (.pure (.val (.bool v6)))))] [(90000, .vec 3 (v4.1.map Ae))]) (fun j6 h => ?_) (fun v6 h => ?_)
    ·refine Aa Ad rfl (qm rfl (qm rfl (Dd rfl (qm rfl ?_))))
     refine AA (t := 21) rfl (fun c7 => ?_) (fun c7 => ?_)
     ·have h := An c7 h
      refine qm rfl (qm rfl (qm rfl ?_))
      obtain ⟨v8, a8, b8, h⟩ := Ah h
      refine qI AE Aw a8 (Ag b8) rfl (qJ AU Aw (Ag b8) rfl (qm rfl (qm rfl (BY rfl ?_))))
      obtain ⟨v9, a9, b9, h⟩ := Ah h
      refine qI AE Aw a9 (Ag b9) rfl (qJ AU Aw (Ag b9) rfl ?_)
      obtain ⟨v10, a10, h⟩ := bind_some h
      refine C9 (ds0 := [_, _]) (ar := (C4 true Ae true Ae) ((v8, v9))) (.g rfl rfl) rfl rfl ⟨rfl, rfl, trivial⟩ rfl rfl rfl (C6 (DI _ _ _ _ A5 A5) a10) ?_
      refine AS rfl (qp rfl (AJ (by kernel_rfl) ?_))
      exact Av _ h (sm [] _ _ rfl rfl)
     ·have h := Am c7 h
      refine qn rfl (qn rfl (qn rfl (qn rfl (qn rfl (qn rfl (qn rfl (qn rfl (qn rfl (qn rfl (qn rfl (qn rfl (qp rfl (AJ (by kernel_rfl) ?_)))))))))))))
      exact Av _ h (sm [] _ _ rfl rfl)
    ·refine Ao rfl (fun c11 => ?_) (fun c11 => ?_)
     ·have h := An c11 h
      refine Ap (Ab (AI (Aa Ad rfl (qm rfl (qm rfl (qm rfl (qm rfl (BY rfl (qm rfl (qm rfl (BY rfl ?_)))))))))))
      obtain ⟨v12, a12, b12, h⟩ := Ah h
      refine qI AE Aw a12 (Ag b12) rfl (qJ AU Aw (Ag b12) rfl (qm rfl (qm rfl ?_)))
      obtain ⟨v13, a13, b13, h⟩ := Ah h
      refine qI AE Aw a13 (Ag b13) rfl (qJ AU Aw (Ag b13) rfl ?_)
      obtain ⟨v14, a14, b14, h⟩ := Ah h
      refine qI AE Aw a14 (Ag b14) rfl ?_
      refine AZ rfl rfl rfl rfl (Ag b14) rfl Aw rfl (AV rfl) (A0 Ae v4.1 _ v12) ?_
      obtain ⟨v15, a15, b15, h⟩ := Ah h
      refine qI AE Aw a15 (Ag b15) rfl ?_
      refine AZ rfl rfl rfl rfl (Ag b15) rfl Aw rfl (AV rfl) (A0 Ae (v4.1.set ((v4.2).toNat) v12) _ v13) ?_
      refine AJ (by kernel_rfl) (Aa Ad rfl (qm rfl (BY rfl (qa rfl (Ac ?_)))))
      exact Av _ h (sm [] _ _ rfl rfl)
     ·have h := Am c11 h
      refine AR ?_
      exact Av _ h (sm [] _ _ rfl rfl)
   ·refine Aj hs (Aa Ad rfl (qm rfl (AO rfl (qa rfl (Ac ?_)))))
    exact Av _ h (sm [] _ _ rfl rfl)
  ·have h := Am c3 h
   refine AR ?_
   exact Av _ h (sm [] _ _ rfl rfl)
 ·obtain rfl := sj h
  refine ⟨_, hs.trans (sm [] [] [(90000, .vec 3 (v2.map Ae))] rfl rfl), ?_⟩
  exact ⟨⟨[], trivial, rfl⟩, ⟨rfl, trivial⟩, trivial⟩
set_option maxRecDepth 10000 in
theorem DD (N : Nat) (p0 : List Af) (p1 : Int) (p2 : Int) (p3 : Int) (p4 : (Af × Af) → Option Int) (r : (List Af)) (h : BZ N p0 p1 p2 p3 p4 = some r) : Bg Try.prog 84 [.e (.one (.own 90000)), .e (.one (.pure (.val (.int .i64 p1)))), .e (.one (.pure (.val (.int .i64 p2)))), .e (.one (.pure (.val (.int .i64 p3)))), .e (.one (.clo (Bp (C4 true Ae true Ae) BW p4)))] [(.vec 3 (p0.map Ae), .vec 3 (r.map Ae))] [] (.tup []) := by
 unfold BZ at h
 refine A9 (n := 82) (rs := []) Try.func84 rfl rfl rfl (AV rfl) (AV rfl) rfl rfl (AV rfl) rfl (AV rfl) fun w0 S0 GL => JT ?_
 refine Aj (sm [] [(0, .e (.one (.own 90000))), (1, .e (.one (.pure (.val (.int .i64 p1))))), (2, .e (.one (.pure (.val (.int .i64 p2))))), (3, .e (.one (.pure (.val (.int .i64 p3))))), (4, .e (.one (.clo (Bp (C4 true Ae true Ae) BW p4))))] [(90000, .vec 3 (p0.map Ae))] rfl rfl) (Ab (Aa Ad rfl (qm rfl (qa rfl (Ac ?_)))))
 refine AF (L := BM N p2 p3 p4) h (fun v1 => mk [(0, .e (.one (.own 90000))), (2, .e (.one (.pure (.val (.int .i64 p2))))), (3, .e (.one (.pure (.val (.int .i64 p3))))), (4, .e (.one (.clo (Bp (C4 true Ae true Ae) BW p4)))), (10, .e (.one (.pure (.val (.int .i64 v1.2)))))] [(90000, .vec 3 (v1.1.map Ae))]) (fun v2 => mk [] [(90000, .vec 3 (v2.map Ae))]) (fun _ _ => rfl) (sm [] _ _ rfl rfl) (fun j1 n1 v1 h => ?_) (fun v2 s h hs => ?_)
 ·unfold BM at h
  refine AI (Ab (Aa Ad rfl (qm rfl (Hp rfl (AO rfl (qa rfl (Ac (Ab (Ab (Aa Ad rfl (qm rfl (qm rfl (Dc rfl (Ac ?_))))))))))))))
  refine Ao rfl (fun c3 => ?_) (fun c3 => ?_)
  ·have h := An c3 h
   refine AR ?_
   exact Av _ h (sm [] _ _ rfl rfl)
  ·have h := Am c3 h
   refine Ap ?_
   refine AN h (fun v4 => mk [(0, .e (.one (.own 90000))), (2, .e (.one (.pure (.val (.int .i64 p2))))), (3, .e (.one (.pure (.val (.int .i64 p3))))), (4, .e (.one (.clo (Bp (C4 true Ae true Ae) BW p4)))), (10, .e (.one (.pure (.val (.int .i64 v1.2))))), (11, .e (.one (.pure (.val (.int .i64 v4)))))] [(90000, .vec 3 (v1.1.map Ae))]) (fun j4 h => ?_) (fun v4 h => ?_)
   ·refine AN h (fun v5 => mk [(0, .e (.one (.own 90000))), (2, .e (.one (.pure (.val (.int .i64 p2))))), (3, .e (.one (.pure (.val (.int .i64 p3))))), (4, .e (.one (.clo (Bp (C4 true Ae true Ae) BW p4)))), (10, .e (.one (.pure (.val (.int .i64 v1.2))))), (11, .e (.one (.pure (.val (.int .i64 ((IntKind.wrap .i64 ((IntKind.wrap .i64 (2 * v1.2)) + 1)))))))), (40, .e (.one (.pure (.val (.bool v5)))))] [(90000, .vec 3 (v1.1.map Ae))]) (fun j5 h => ?_) (fun v5 h => ?_)
    ·refine Aa Ad rfl (qm rfl (AO rfl (qm rfl (AS rfl (qm rfl ?_)))))
     refine AA (t := 23) rfl (fun c6 => ?_) (fun c6 => ?_)
     ·have h := An c6 h
      refine qm rfl (qm rfl (qm rfl (qm rfl (AO rfl ?_))))
      obtain ⟨v7, a7, b7, h⟩ := Ah h
      refine qI AE Aw a7 (Ag b7) rfl (qJ AU Aw (Ag b7) rfl (qm rfl (qm rfl (qm rfl (AO rfl (AO rfl ?_))))))
      obtain ⟨v8, a8, b8, h⟩ := Ah h
      refine qI AE Aw a8 (Ag b8) rfl (qJ AU Aw (Ag b8) rfl ?_)
      obtain ⟨v9, a9, h⟩ := bind_some h
      refine C9 (ds0 := [_, _]) (ar := (C4 true Ae true Ae) ((v7, v8))) (.g rfl rfl) rfl rfl ⟨rfl, rfl, trivial⟩ rfl rfl rfl (C6 (DI _ _ _ _ A5 A5) a9) ?_
      refine AS rfl (qp rfl (AJ (by kernel_rfl) ?_))
      exact Av _ h (sm [] _ _ rfl rfl)
     ·have h := Am c6 h
      refine qn rfl (qn rfl (qn rfl (qn rfl (qn rfl (qn rfl (qn rfl (qn rfl (qn rfl (qn rfl (qn rfl (qn rfl (qn rfl (qn rfl (qn rfl (qn rfl (qp rfl (AJ (by kernel_rfl) ?_)))))))))))))))))
      exact Av _ h (sm [] _ _ rfl rfl)
    ·refine Ao rfl (fun c10 => ?_) (fun c10 => ?_)
     ·have h := An c10 h
      refine Aa Ad rfl (qm rfl (AO rfl (qa rfl (Ac ?_))))
      exact Av _ h (sm [] _ _ rfl rfl)
     ·have h := Am c10 h
      refine Ap ?_
      exact Av _ h (sm [] _ _ rfl rfl)
   ·refine Ab (Ab (Aa Ad rfl (qm rfl (qm rfl (qm rfl (qm rfl (AO rfl ?_)))))))
    obtain ⟨v11, a11, b11, h⟩ := Ah h
    refine qI AE Aw a11 (Ag b11) rfl (qJ AU Aw (Ag b11) rfl (qm rfl (qm rfl (qm rfl (AO rfl ?_)))))
    obtain ⟨v12, a12, b12, h⟩ := Ah h
    refine qI AE Aw a12 (Ag b12) rfl (qJ AU Aw (Ag b12) rfl ?_)
    obtain ⟨v13, a13, h⟩ := bind_some h
    refine C9 (ds0 := [_, _]) (ar := (C4 true Ae true Ae) ((v11, v12))) (.p rfl) rfl rfl ⟨rfl, rfl, trivial⟩ rfl rfl rfl (C6 (DI _ _ _ _ A5 A5) a13) ?_
    refine AS rfl (Cg rfl (AJ (by kernel_rfl) ?_))
    refine Ao rfl (fun c14 => ?_) (fun c14 => ?_)
    ·have h := An c14 h
     obtain rfl := sj h
     refine Ax ⟨_, (sm [] [] [(90000, .vec 3 (v1.1.map Ae))] rfl rfl), ?_⟩
     exact ⟨⟨[], trivial, rfl⟩, ⟨rfl, trivial⟩, trivial⟩
    ·have h := Am c14 h
     refine Ap (Ab (Aa Ad rfl (qm rfl (qm rfl (qm rfl (AO rfl (qm rfl (qm rfl (qm rfl (AO rfl (qm rfl (qm rfl (qm rfl (AO rfl ?_))))))))))))))
     obtain ⟨v15, a15, b15, h⟩ := Ah h
     refine qI AE Aw a15 (Ag b15) rfl (qJ AU Aw (Ag b15) rfl (qm rfl (qm rfl (qm rfl (AO rfl ?_)))))
     obtain ⟨v16, a16, b16, h⟩ := Ah h
     refine qI AE Aw a16 (Ag b16) rfl (qJ AU Aw (Ag b16) rfl ?_)
     obtain ⟨v17, a17, b17, h⟩ := Ah h
     refine qI AE Aw a17 (Ag b17) rfl ?_
     refine AZ rfl rfl rfl rfl (Ag b17) rfl Aw rfl (AV rfl) (A0 Ae v1.1 _ v15) ?_
     obtain ⟨v18, a18, b18, h⟩ := Ah h
     refine qI AE Aw a18 (Ag b18) rfl ?_
     refine AZ rfl rfl rfl rfl (Ag b18) rfl Aw rfl (AV rfl) (A0 Ae (v1.1.set (((IntKind.wrap .i64 (p3 + v1.2))).toNat) v15) _ v16) ?_
     refine AJ (by kernel_rfl) (Aa Ad rfl (qm rfl (qa rfl (Ac ?_))))
     exact Av _ h (sm [] _ _ rfl rfl)
 ·obtain rfl := sj h
  refine ⟨_, hs.trans (sm [] [] [(90000, .vec 3 (v2.map Ae))] rfl rfl), ?_⟩
  exact ⟨⟨[], trivial, rfl⟩, ⟨rfl, trivial⟩, trivial⟩
set_option maxRecDepth 10000 in
theorem Fv (N : Nat) (p0 : List Af) (p1 : Int) (p2 : Int) (p3 : (Af × Af) → Option Int) (r : (List Af)) (h : Cv N p0 p1 p2 p3 = some r) : Bg Try.prog 63 [.e (.one (.own 90000)), .e (.one (.pure (.val (.int .i64 p1)))), .e (.one (.pure (.val (.int .i64 p2)))), .e (.one (.clo (Bp (C4 true Ae true Ae) BW p3)))] [(.vec 3 (p0.map Ae), .vec 3 (r.map Ae))] [] (.tup []) := by
 unfold Cv at h
 refine A9 (n := 60) (rs := []) Try.func63 rfl rfl rfl (AV rfl) (AV rfl) rfl rfl (AV rfl) rfl (AV rfl) fun w0 S0 GL => JT ?_
 refine Aj (sm [] [(0, .e (.one (.own 90000))), (1, .e (.one (.pure (.val (.int .i64 p1))))), (2, .e (.one (.pure (.val (.int .i64 p2))))), (3, .e (.one (.clo (Bp (C4 true Ae true Ae) BW p3))))] [(90000, .vec 3 (p0.map Ae))] rfl rfl) (Ab (Aa Ad rfl (qm rfl (qa rfl (Ac (Ab (Aa Ad rfl (qa rfl (Ac (Ab (Aa Ad rfl (qm rfl (qm rfl (BY rfl (qa rfl (Ac (Ab (Ab (Aa Ad rfl (qm rfl (BY rfl (J1 rfl (by decide) (qa rfl (Ac ?_))))))))))))))))))))))))
 refine AF (L := BO N p1 p2 p3) h (fun v1 => mk [(0, .e (.one (.own 90000))), (3, .e (.one (.clo (Bp (C4 true Ae true Ae) BW p3)))), (8, .e (.one (.pure (.val (.int .i64 p1))))), (9, .e (.one (.pure (.val (.int .i64 0))))), (10, .e (.one (.pure (.val (.int .i64 ((IntKind.wrap .i64 (p2 - p1)))))))), (11, .e (.one (.pure (.val (.int .i64 v1.2)))))] [(90000, .vec 3 (v1.1.map Ae))]) (fun v2 => mk [(0, .e (.one (.own 90000))), (3, .e (.one (.clo (Bp (C4 true Ae true Ae) BW p3)))), (8, .e (.one (.pure (.val (.int .i64 p1))))), (9, .e (.one (.pure (.val (.int .i64 0))))), (10, .e (.one (.pure (.val (.int .i64 ((IntKind.wrap .i64 (p2 - p1))))))))] [(90000, .vec 3 (v2.map Ae))]) (fun _ _ => rfl) (sm [] _ _ rfl rfl) (fun j1 n1 v1 h => ?_) (fun v2 s h hs => ?_)
 ·unfold BO at h
  refine Ab (Ab (Aa Ad rfl (qm rfl (Dc rfl (Ac ?_)))))
  refine Ao rfl (fun c3 => ?_) (fun c3 => ?_)
  ·have h := An c3 h
   refine Ap (Ab (AI (Aa Ad rfl (qm rfl (qm rfl (qm rfl (qm rfl (qm rfl ?_))))))))
   obtain ⟨v4, a4, h⟩ := bind_some h
   refine Ce (ds0 := [_, _, _, _, _]) [90000] [] [true] (DD N v1.1 v1.2 ((IntKind.wrap .i64 (p2 - p1))) p1 p3 v4 a4) (.p rfl) QH rfl ⟨rfl, rfl, rfl, rfl, rfl, trivial⟩ rfl rfl (by decide) ⟨rfl, trivial⟩ rfl (AX rfl) trivial ⟨(fun h => by cases h), trivial⟩ rfl rfl rfl ?_
   refine Ac (Aa Ad rfl (qm rfl (BY rfl (qa rfl (Ac ?_)))))
   exact Av _ h (sm [] _ _ rfl rfl)
  ·have h := Am c3 h
   refine AR ?_
   exact Av _ h (sm [] _ _ rfl rfl)
 ·refine Aj hs (Ab (Aa Ad rfl (qm rfl (BY rfl (qa rfl (Ac ?_))))))
  refine AF (L := BL N p1 p3) h (fun v5 => mk [(0, .e (.one (.own 90000))), (3, .e (.one (.clo (Bp (C4 true Ae true Ae) BW p3)))), (8, .e (.one (.pure (.val (.int .i64 p1))))), (9, .e (.one (.pure (.val (.int .i64 0))))), (12, .e (.one (.pure (.val (.int .i64 v5.2)))))] [(90000, .vec 3 (v5.1.map Ae))]) (fun v6 => mk [] [(90000, .vec 3 (v6.map Ae))]) (fun _ _ => rfl) (sm [] _ _ rfl rfl) (fun j5 n5 v5 h => ?_) (fun v6 s h hs => ?_)
  ·unfold BL at h
   refine Ab (Ab (Aa Ad rfl (qm rfl (Dc rfl (Ac ?_)))))
   refine Ao rfl (fun c7 => ?_) (fun c7 => ?_)
   ·have h := An c7 h
    refine Ap (Ab (AI (Ab (Aa Ad rfl (qm rfl (qm rfl (qm rfl (qm rfl (qm rfl (AO rfl (qm rfl (qm rfl (qm rfl (AO rfl ?_))))))))))))))
    obtain ⟨v8, a8, b8, h⟩ := Ah h
    refine qI AE Aw a8 (Ag b8) rfl (qJ AU Aw (Ag b8) rfl (qm rfl (qm rfl ?_)))
    obtain ⟨v9, a9, b9, h⟩ := Ah h
    refine qI AE Aw a9 (Ag b9) rfl (qJ AU Aw (Ag b9) rfl ?_)
    obtain ⟨v10, a10, b10, h⟩ := Ah h
    refine qI AE Aw a10 (Ag b10) rfl ?_
    refine AZ rfl rfl rfl rfl (Ag b10) rfl Aw rfl (AV rfl) (A0 Ae v5.1 _ v8) ?_
    obtain ⟨v11, a11, b11, h⟩ := Ah h
    refine qI AE Aw a11 (Ag b11) rfl ?_
    refine AZ rfl rfl rfl rfl (Ag b11) rfl Aw rfl (AV rfl) (A0 Ae (v5.1.set ((p1).toNat) v8) _ v9) ?_
    refine AJ (by kernel_rfl) (Aa Ad rfl (qm rfl (qm rfl (qm rfl (qm rfl (qm rfl ?_))))))
    obtain ⟨v12, a12, h⟩ := bind_some h
    refine Ce (ds0 := [_, _, _, _, _]) [90000] [] [true] (DD N ((v5.1.set ((p1).toNat) v8).set (((IntKind.wrap .i64 (p1 + v5.2))).toNat) v9) 0 v5.2 p1 p3 v12 a12) (.p rfl) QH rfl ⟨rfl, rfl, rfl, rfl, rfl, trivial⟩ rfl rfl (by decide) ⟨rfl, trivial⟩ rfl (AX rfl) trivial ⟨(fun h => by cases h), trivial⟩ rfl rfl rfl ?_
    refine Ac (Aa Ad rfl (qm rfl (BY rfl (qa rfl (Ac ?_)))))
    exact Av _ h (sm [] _ _ rfl rfl)
   ·have h := Am c7 h
    refine AR ?_
    exact Av _ h (sm [] _ _ rfl rfl)
  ·obtain rfl := sj h
   refine ⟨_, hs.trans (sm [] [] [(90000, .vec 3 (v6.map Ae))] rfl rfl), ?_⟩
   exact ⟨⟨[], trivial, rfl⟩, ⟨rfl, trivial⟩, trivial⟩
set_option maxRecDepth 10000 in
theorem GU (N : Nat) (p0 : Int) (r : Int) (h : DG N p0 = some r) : Az Try.prog 85 [.e (.one (.pure (.val (.int .i64 p0))))] [] (.e (.one (.pure (.val (.int .u64 r))))) := by
 unfold DG at h
 refine Aq (n := 7) (rs := [.tmp 2]) Try.func85 rfl rfl rfl (AV rfl) (AV rfl) rfl fun w0 S0 => ?_
 refine Ab (Aa Ad rfl (qa rfl (Ac (Ab (Aa Ad rfl (qm rfl (FY PD MZ rfl ?_)))))))
 obtain ⟨v1, a1, h⟩ := bind_some h
 refine AB [] (Hn N ((IntKind.wrap .u64 p0)) v1 a1) P6 rfl ?_
 obtain ⟨c2, h⟩ := AT h
 refine GX rfl c2 (qa rfl (Ac ?_))
 obtain rfl := sj h
 refine Aj (sm [] [(2, .e (.one (.pure (.val (.int .u64 ((CS .u64 1 v1)))))))] [] rfl rfl) (Ax ?_)
 exact ⟨⟨[_], ⟨.tmp _ _ rfl, trivial⟩, rfl⟩, trivial⟩
set_option maxRecDepth 10000 in
theorem Hg (N : Nat) (p0 : Int) (r : Int × Int) (h : DU N p0 = some r) : Bg Try.prog 86 [.e (.one (.ptr 90000 0))] [(.box [.pure (.val (.int .u64 p0))], .box [.pure (.val (.int .u64 r.2))])] [] (.e (.one (.pure (.val (.int .u64 r.1))))) := by
 unfold DU at h
 refine A9 (n := 33) (rs := [.tmp 2]) Try.func86 rfl rfl rfl (AV rfl) (AV rfl) rfl rfl (AV rfl) rfl (AV rfl) fun w0 S0 GL => ?_
 refine Aj (sm [] [(0, .e (.one (.ptr 90000 0)))] [(90000, .box [.pure (.val (.int .u64 p0))])] rfl rfl) (Ab (Aa Ad rfl (qa rfl (Ac (Ab (Aa Ad rfl (qm rfl (Kq rfl (ql Ke rfl (qm rfl (Kq rfl (ql Ke rfl (GX rfl (by decide) (Nr rfl (Kq rfl (qs Mq rfl (AJ (by kernel_rfl) (Ab (Aa Ad rfl (qm rfl (Kq rfl (ql Ke rfl (qm rfl (Kq rfl (ql Ke rfl (Gl rfl (by decide) (Nr rfl (Kq rfl (qs Mq rfl (AJ (by kernel_rfl) (Ab (Aa Ad rfl (qm rfl (Kq rfl (ql Ke rfl (qm rfl (Kq rfl (ql Ke rfl (GX rfl (by decide) ?_)))))))))))))))))))))))))))))))))))))))
 refine Nr rfl (Kq rfl (qs Mq rfl (AJ (by kernel_rfl) (Ab (Aa Ad rfl (qm rfl (Kq rfl (ql Ke rfl (qa rfl (Ac ?_))))))))))
 obtain rfl := sj h
 refine Aj (sm [] [(2, .e (.one (.pure (.val (.int .u64 ((E2 .u64 ((E2 .u64 ((E2 .u64 p0 ((CS .u64 p0 13)))) ((DV .u64 ((E2 .u64 p0 ((CS .u64 p0 13)))) 7)))) ((CS .u64 ((E2 .u64 ((E2 .u64 p0 ((CS .u64 p0 13)))) ((DV .u64 ((E2 .u64 p0 ((CS .u64 p0 13)))) 7)))) 17)))))))))] [(90000, .box [.pure (.val (.int .u64 ((E2 .u64 ((E2 .u64 ((E2 .u64 p0 ((CS .u64 p0 13)))) ((DV .u64 ((E2 .u64 p0 ((CS .u64 p0 13)))) 7)))) ((CS .u64 ((E2 .u64 ((E2 .u64 p0 ((CS .u64 p0 13)))) ((DV .u64 ((E2 .u64 p0 ((CS .u64 p0 13)))) 7)))) 17))))))])] rfl rfl) (Ax ?_)
 exact ⟨⟨[_], ⟨.tmp _ _ rfl, trivial⟩, rfl⟩, ⟨rfl, trivial⟩, trivial⟩
set_option maxRecDepth 10000 in
theorem EC (N : Nat) (p0 : List Af) (p1 : Int) (p2 : Int) (p3 : (Af × Af) → Option Int) (r : (List Af)) (h : B8 N p0 p1 p2 p3 = some r) : Bg Try.prog 64 [.e (.one (.own 90000)), .e (.one (.pure (.val (.int .i64 p1)))), .e (.one (.pure (.val (.int .i64 p2)))), .e (.one (.clo (Bp (C4 true Ae true Ae) BW p3)))] [(.vec 3 (p0.map Ae), .vec 3 (r.map Ae))] [] (.tup []) := by
 unfold B8 at h
 refine A9 (n := 67) (rs := []) Try.func64 rfl rfl rfl (AV rfl) (AV rfl) rfl rfl (AV rfl) rfl (AV rfl) fun w0 S0 GL => JT ?_
 refine Aj (sm [] [(0, .e (.one (.own 90000))), (1, .e (.one (.pure (.val (.int .i64 p1))))), (2, .e (.one (.pure (.val (.int .i64 p2))))), (3, .e (.one (.clo (Bp (C4 true Ae true Ae) BW p3))))] [(90000, .vec 3 (p0.map Ae))] rfl rfl) (Ab (Aa Ad rfl (qm rfl (qm rfl (BY rfl (qa rfl (Ac (Ab (Aa Ad rfl (qm rfl (Dc rfl (Ac ?_))))))))))))
 refine Ao rfl (fun c1 => ?_) (fun c1 => ?_)
 ·have h := An c1 h
  refine Ab (Aa Ad rfl (qm rfl (FY PD Qq rfl (qz P7 rfl (qs Mq rfl (Ac (Ab (Aa Ad rfl (qm rfl ?_)))))))))
  obtain ⟨v2, a2, h⟩ := bind_some h
  refine AB [] (GU N ((IntKind.wrap .i64 (p2 - p1))) v2 a2) RT rfl (qa rfl (Ac (Ab (Aa Ad rfl (qm rfl (qm rfl (J1 rfl (by decide) (Hp rfl (AO rfl (BY rfl (qa rfl (Ac ?_))))))))))))
  refine AF (L := Bt N p1 p2 v2) h (fun v3 => mk [(0, .e (.one (.own 90000))), (1, .e (.one (.pure (.val (.int .i64 p1))))), (8, .e (.one (.pure (.val (.int .i64 ((IntKind.wrap .i64 (p2 - p1)))))))), (9, .e (.one (.ptr 9 0))), (10, .e (.one (.pure (.val (.int .u64 v2))))), (11, .e (.one (.pure (.val (.int .i64 v3.2.2)))))] [(9, .box [.pure (.val (.int .u64 v3.2.1))]), (90000, .vec 3 (v3.1.map Ae))]) (fun v4 => mk [] [(90000, .vec 3 (v4.map Ae))]) (fun _ _ => rfl) (sm [] _ _ rfl rfl) (fun j3 n3 v3 h => ?_) (fun v4 s h hs => ?_)
  ·unfold Bt at h
   refine Ab (Ab (Aa Ad rfl (qm rfl (qm rfl (qm rfl (J1 rfl (by decide) (Hp rfl (AO rfl (AO rfl (Jn rfl (Ac ?_)))))))))))
   refine Ao rfl (fun c5 => ?_) (fun c5 => ?_)
   ·have h := An c5 h
    refine Ap (Ab (AI (Ab (Aa Ad rfl ?_))))
    obtain ⟨v6, a6, h⟩ := bind_some h
    refine Ce (ds0 := [_]) [9] [] [true] (Hg N v3.2.1 v6 a6) (.p rfl) Q6 rfl ⟨rfl, trivial⟩ rfl rfl (by decide) ⟨rfl, trivial⟩ rfl (AX rfl) trivial ⟨(fun h => by cases h), trivial⟩ rfl rfl rfl ?_
    refine qm rfl (BY rfl (Jb rfl (FY Nj Py rfl (qa rfl (Ac ?_)))))
    refine AN h (fun v7 => mk [(0, .e (.one (.own 90000))), (1, .e (.one (.pure (.val (.int .i64 p1))))), (8, .e (.one (.pure (.val (.int .i64 ((IntKind.wrap .i64 (p2 - p1)))))))), (9, .e (.one (.ptr 9 0))), (10, .e (.one (.pure (.val (.int .u64 v2))))), (11, .e (.one (.pure (.val (.int .i64 v3.2.2))))), (12, .e (.one (.pure (.val (.int .i64 v7)))))] [(9, .box [.pure (.val (.int .u64 v6.2))]), (90000, .vec 3 (v3.1.map Ae))]) (fun j7 h => ?_) (fun v7 h => ?_)
    ·refine Ab (Aa Ad rfl (qm rfl (qm rfl (Dc rfl (Ac ?_)))))
     refine Ao rfl (fun c8 => ?_) (fun c8 => ?_)
     ·have h := An c8 h
      refine Aa Ad rfl (qm rfl (qm rfl (BY rfl (qa rfl (Ac ?_)))))
      exact Av _ h (sm [] _ _ rfl rfl)
     ·have h := Am c8 h
      refine Ap ?_
      exact Av _ h (sm [] _ _ rfl rfl)
    ·refine Aa Ad rfl (qm rfl (qm rfl (qm rfl (qm rfl (qm rfl (AO rfl (qm rfl (qm rfl (qm rfl (AO rfl ?_))))))))))
     obtain ⟨v9, a9, b9, h⟩ := Ah h
     refine qI AE Aw a9 (Ag b9) rfl (qJ AU Aw (Ag b9) rfl (qm rfl (qm rfl ?_)))
     obtain ⟨v10, a10, b10, h⟩ := Ah h
     refine qI AE Aw a10 (Ag b10) rfl (qJ AU Aw (Ag b10) rfl ?_)
     obtain ⟨v11, a11, b11, h⟩ := Ah h
     refine qI AE Aw a11 (Ag b11) rfl ?_
     refine AZ rfl rfl rfl rfl (Ag b11) rfl Aw rfl (AV rfl) (A0 Ae v3.1 _ v9) ?_
     obtain ⟨v12, a12, b12, h⟩ := Ah h
     refine qI AE Aw a12 (Ag b12) rfl ?_
     refine AZ rfl rfl rfl rfl (Ag b12) rfl Aw rfl (AV rfl) (A0 Ae (v3.1.set ((v3.2.2).toNat) v9) _ v10) ?_
     refine AJ (by kernel_rfl) (Aa Ad rfl (qm rfl (AO rfl (qa rfl (Ac ?_)))))
     exact Av _ h (sm [] _ _ rfl rfl)
   ·have h := Am c5 h
    refine AR ?_
    exact Av _ h (sm [] _ _ rfl rfl)
  ·obtain rfl := sj h
   refine ⟨_, hs.trans (sm [] [] [(90000, .vec 3 (v4.map Ae))] rfl rfl), ?_⟩
   exact ⟨⟨[], trivial, rfl⟩, ⟨rfl, trivial⟩, trivial⟩
 ·have h := Am c1 h
  refine Ap ?_
  obtain rfl := sj h
  refine ⟨_, (sm [] [] [(90000, .vec 3 (p0.map Ae))] rfl rfl), ?_⟩
  exact ⟨⟨[], trivial, rfl⟩, ⟨rfl, trivial⟩, trivial⟩
set_option maxRecDepth 10000 in
theorem CO (N : Nat) (p0 : List Af) (p1 : Int) (p2 : Int) (p3 : Int) (p4 : (Af × Af) → Option Int) (r : Int × Int × Int) (h : BI N p0 p1 p2 p3 p4 = some r) : Bg Try.prog 98 [.e (.one (.pure (.sl (p0.map Ae)))), .e (.one (.pure (.val (.int .i64 p1)))), .e (.one (.pure (.val (.int .i64 p2)))), .e (.one (.ptr 90000 0)), .e (.one (.clo (Bp (C4 true Ae true Ae) BW p4)))] [(.box [.pure (.val (.int .i64 p3))], .box [.pure (.val (.int .i64 r.2.2))])] [] (.tup [.one (.pure (.val (.int .i64 r.1))), .one (.pure (.val (.int .i64 r.2.1)))]) := by
 unfold BI at h
 refine A9 (n := 32) (rs := [.tmp 10, .tmp 11]) Try.func98 rfl rfl rfl (AV rfl) (AV rfl) rfl rfl (AV rfl) rfl (AV rfl) fun w0 S0 GL => ?_
 refine Aj (sm [] [(0, .e (.one (.pure (.sl (p0.map Ae))))), (1, .e (.one (.pure (.val (.int .i64 p1))))), (2, .e (.one (.pure (.val (.int .i64 p2))))), (3, .e (.one (.ptr 90000 0))), (4, .e (.one (.clo (Bp (C4 true Ae true Ae) BW p4))))] [(90000, .box [.pure (.val (.int .i64 p3))])] rfl rfl) (Ab (Aa Ad rfl (qa rfl (qa rfl (Ac (Ab (Ab (Aa Ad rfl (qm rfl (qm rfl (qm rfl ?_)))))))))))
 obtain ⟨v1, a1, b1, h⟩ := Ah h
 refine qi AE Aw a1 (Ag b1) rfl (qK AU Aw rfl (qm rfl (qm rfl ?_)))
 obtain ⟨v2, a2, b2, h⟩ := Ah h
 refine qi AE Aw a2 (Ag b2) rfl (qK AU Aw rfl ?_)
 obtain ⟨v3, a3, h⟩ := bind_some h
 refine C9 (ds0 := [_, _]) (ar := (C4 true Ae true Ae) ((v1, v2))) (.p rfl) rfl rfl ⟨rfl, rfl, trivial⟩ rfl rfl rfl (C6 (DI _ _ _ _ A5 A5) a3) ?_
 refine AS rfl (AJ (by kernel_rfl) ?_)
 refine Ao rfl (fun c4 => ?_) (fun c4 => ?_)
 ·have h := An c4 h
  refine Ab (Aa Ad rfl (qm rfl (Kq rfl (ql CQ rfl (AO rfl (Kq rfl (qs Ee rfl (Ac (Ab (Aa Ad rfl (qm rfl (qm rfl (qa rfl (qa rfl (Ac ?_)))))))))))))))
  obtain rfl := sj h
  refine Aj (sm [] [(10, .e (.one (.pure (.val (.int .i64 p2))))), (11, .e (.one (.pure (.val (.int .i64 p1)))))] [(90000, .box [.pure (.val (.int .i64 ((IntKind.wrap .i64 (p3 + 1)))))])] rfl rfl) (Ax ?_)
  exact ⟨⟨[_, _], ⟨.tmp _ _ rfl, ⟨.tmp _ _ rfl, trivial⟩⟩, rfl⟩, ⟨rfl, trivial⟩, trivial⟩
 ·have h := Am c4 h
  refine Ap (Ab (Aa Ad rfl (qm rfl (qm rfl (qa rfl (qa rfl (Ac ?_)))))))
  obtain rfl := sj h
  refine Aj (sm [] [(10, .e (.one (.pure (.val (.int .i64 p1))))), (11, .e (.one (.pure (.val (.int .i64 p2)))))] [(90000, .box [.pure (.val (.int .i64 p3))])] rfl rfl) (Ax ?_)
  exact ⟨⟨[_, _], ⟨.tmp _ _ rfl, ⟨.tmp _ _ rfl, trivial⟩⟩, rfl⟩, ⟨rfl, trivial⟩, trivial⟩
set_option maxRecDepth 10000 in
theorem DT (N : Nat) (p0 : List Af) (p1 : Int) (p2 : Int) (p3 : Int) (p4 : Int) (p5 : (Af × Af) → Option Int) (r : Int × Int) (h : B4 N p0 p1 p2 p3 p4 p5 = some r) : Bg Try.prog 88 [.e (.one (.pure (.sl (p0.map Ae)))), .e (.one (.pure (.val (.int .i64 p1)))), .e (.one (.pure (.val (.int .i64 p2)))), .e (.one (.pure (.val (.int .i64 p3)))), .e (.one (.ptr 90000 0)), .e (.one (.clo (Bp (C4 true Ae true Ae) BW p5)))] [(.box [.pure (.val (.int .i64 p4))], .box [.pure (.val (.int .i64 r.2))])] [] (.e (.one (.pure (.val (.int .i64 r.1))))) := by
 unfold B4 at h
 refine A9 (n := 41) (rs := [.tmp 12]) Try.func88 rfl rfl rfl (AV rfl) (AV rfl) rfl rfl (AV rfl) rfl (AV rfl) fun w0 S0 GL => ?_
 refine Aj (sm [] [(0, .e (.one (.pure (.sl (p0.map Ae))))), (1, .e (.one (.pure (.val (.int .i64 p1))))), (2, .e (.one (.pure (.val (.int .i64 p2))))), (3, .e (.one (.pure (.val (.int .i64 p3))))), (4, .e (.one (.ptr 90000 0))), (5, .e (.one (.clo (Bp (C4 true Ae true Ae) BW p5))))] [(90000, .box [.pure (.val (.int .i64 p4))])] rfl rfl) (Ab (Aa Ad rfl (qa rfl (Ac (Ab (Aa Ad rfl (qm rfl (qm rfl (qm rfl (qm rfl (qm rfl ?_)))))))))))
 obtain ⟨v1, a1, h⟩ := bind_some h
 refine Ce (ds0 := [_, _, _, _, _]) [90000] [] [true] (CO N p0 p1 p2 p4 p5 v1 a1) (.p rfl) PL rfl ⟨rfl, rfl, rfl, rfl, rfl, trivial⟩ rfl rfl (by decide) ⟨rfl, trivial⟩ rfl (AX rfl) trivial ⟨(fun h => by cases h), trivial⟩ rfl rfl rfl ?_
 refine qm rfl (qx rfl (qx rfl (qa rfl (qa rfl (Ac (Ab (Aa Ad rfl (qm rfl (qm rfl (qm rfl (qm rfl (qm rfl ?_))))))))))))
 obtain ⟨v2, a2, h⟩ := bind_some h
 refine Ce (ds0 := [_, _, _, _, _]) [90000] [] [true] (CO N p0 v1.2.1 p3 v1.2.2 p5 v2 a2) (.p rfl) PL rfl ⟨rfl, rfl, rfl, rfl, rfl, trivial⟩ rfl rfl (by decide) ⟨rfl, trivial⟩ rfl (AX rfl) trivial ⟨(fun h => by cases h), trivial⟩ rfl rfl rfl ?_
 refine qm rfl (qx rfl (qx rfl (qa rfl (qa rfl (Ac (Ab (Aa Ad rfl (qm rfl (qm rfl (qm rfl (qm rfl (qm rfl ?_))))))))))))
 obtain ⟨v3, a3, h⟩ := bind_some h
 refine Ce (ds0 := [_, _, _, _, _]) [90000] [] [true] (CO N p0 v1.1 v2.1 v2.2.2 p5 v3 a3) (.p rfl) PL rfl ⟨rfl, rfl, rfl, rfl, rfl, trivial⟩ rfl rfl (by decide) ⟨rfl, trivial⟩ rfl (AX rfl) trivial ⟨(fun h => by cases h), trivial⟩ rfl rfl rfl ?_
 refine qm rfl (qx rfl (qx rfl (qa rfl (qa rfl (Ac (Ab (Aa Ad rfl (qm rfl (qa rfl (Ac ?_))))))))))
 obtain rfl := sj h
 refine Aj (sm [] [(12, .e (.one (.pure (.val (.int .i64 v3.2.1)))))] [(90000, .box [.pure (.val (.int .i64 v3.2.2))])] rfl rfl) (Ax ?_)
 exact ⟨⟨[_], ⟨.tmp _ _ rfl, trivial⟩, rfl⟩, ⟨rfl, trivial⟩, trivial⟩
set_option maxRecDepth 10000 in
theorem Cb (N : Nat) (p0 : List Af) (p1 : Int) (p2 : Int) (p3 : (Af × Af) → Option Int) (r : Int × Int) (h : Bb N p0 p1 p2 p3 = some r) : Bg Try.prog 87 [.e (.one (.pure (.sl (p0.map Ae)))), .e (.one (.pure (.val (.int .i64 p1)))), .e (.one (.ptr 90000 0)), .e (.one (.clo (Bp (C4 true Ae true Ae) BW p3)))] [(.box [.pure (.val (.int .i64 p2))], .box [.pure (.val (.int .i64 r.2))])] [] (.e (.one (.pure (.val (.int .i64 r.1))))) := by
 unfold Bb at h
 refine A9 (n := 18) (rs := [.tmp 8]) Try.func87 rfl rfl rfl (AV rfl) (AV rfl) rfl rfl (AV rfl) rfl (AV rfl) fun w0 S0 GL => ?_
 refine Aj (sm [] [(0, .e (.one (.pure (.sl (p0.map Ae))))), (1, .e (.one (.pure (.val (.int .i64 p1))))), (2, .e (.one (.ptr 90000 0))), (3, .e (.one (.clo (Bp (C4 true Ae true Ae) BW p3))))] [(90000, .box [.pure (.val (.int .i64 p2))])] rfl rfl) (Ab (Aa Ad rfl (qa rfl (Ac (Ab (Aa Ad rfl (qm rfl (qm rfl (BY rfl (qm rfl (qm rfl (AO rfl (qm rfl (qm rfl ?_))))))))))))))
 obtain ⟨v1, a1, h⟩ := bind_some h
 refine Ce (ds0 := [_, _, _, _, _, _]) [90000] [] [true] (DT N p0 ((IntKind.wrap .i64 (p1 - 1))) p1 ((IntKind.wrap .i64 (p1 + 1))) p2 p3 v1 a1) (.p rfl) Qj rfl ⟨rfl, rfl, rfl, rfl, rfl, rfl, trivial⟩ rfl rfl (by decide) ⟨rfl, trivial⟩ rfl (AX rfl) trivial ⟨(fun h => by cases h), trivial⟩ rfl rfl rfl ?_
 refine qa rfl (Ac ?_)
 obtain rfl := sj h
 refine Aj (sm [] [(8, .e (.one (.pure (.val (.int .i64 v1.1)))))] [(90000, .box [.pure (.val (.int .i64 v1.2))])] rfl rfl) (Ax ?_)
 exact ⟨⟨[_], ⟨.tmp _ _ rfl, trivial⟩, rfl⟩, ⟨rfl, trivial⟩, trivial⟩
set_option maxRecDepth 10000 in
theorem EP (N : Nat) (p0 : List Af) (p1 : Int) (p2 : Int) (p3 : (Af × Af) → Option Int) (r : Int × Int) (h : Ci N p0 p1 p2 p3 = some r) : Az Try.prog 65 [.e (.one (.pure (.sl (p0.map Ae)))), .e (.one (.pure (.val (.int .i64 p1)))), .e (.one (.pure (.val (.int .i64 p2)))), .e (.one (.clo (Bp (C4 true Ae true Ae) BW p3)))] [] (.tup [.one (.pure (.val (.int .i64 r.1))), .one (.pure (.val (.int .i64 r.2)))]) := by
 unfold Ci at h
 refine Aq (n := 63) (rs := [.tmp 8, .tmp 9]) Try.func65 rfl rfl rfl (AV rfl) (AV rfl) rfl fun w0 S0 => ?_
 refine Ab (Aa Ad rfl (qa rfl (qa rfl (Ac (Ab (Aa Ad rfl (qm rfl (qm rfl (BY rfl (qa rfl (Ac (Ab (Aa Ad rfl (qz M5 rfl (Ac (Ab (Aa Ad rfl (qm rfl (qm rfl (J1 rfl (by decide) (Hp rfl (AO rfl (qa rfl (Ac (Ab (Aa Ad rfl (qm rfl (qm rfl (J1 rfl (by decide) (Hp rfl (AO rfl (qa rfl (Ac (Ab (Aa Ad rfl (qm rfl (qm rfl (J1 rfl (by decide) (Hp rfl ?_)))))))))))))))))))))))))))))))))))))))
 refine AO rfl (qa rfl (Ac ?_))
 refine AN h (fun v1 => mk [(11, .e (.one (.ptr 11 0))), (13, .e (.one (.pure (.val (.int .i64 v1.2)))))] [(11, .box [.pure (.val (.int .i64 v1.1))])]) (fun j1 h => ?_) (fun v1 h => ?_)
 ·refine Ab (Aa Ad rfl (qm rfl (Dc rfl (Ac ?_))))
  refine Ao rfl (fun c2 => ?_) (fun c2 => ?_)
  ·have h := An c2 h
   refine AN h (fun v3 => mk [(0, .e (.one (.pure (.sl (p0.map Ae))))), (3, .e (.one (.clo (Bp (C4 true Ae true Ae) BW p3)))), (11, .e (.one (.ptr 11 0))), (12, .e (.one (.pure (.val (.int .i64 v3.2.1))))), (13, .e (.one (.pure (.val (.int .i64 v3.2.2.1))))), (14, .e (.one (.pure (.val (.int .i64 v3.2.2.2)))))] [(11, .box [.pure (.val (.int .i64 v3.1))])]) (fun j3 h => ?_) (fun v3 h => ?_)
   ·refine Ab (Aa Ad rfl (qm rfl (Dc rfl (Ac ?_))))
    refine Ao rfl (fun c4 => ?_) (fun c4 => ?_)
    ·have h := An c4 h
     refine Ab (Aa Ad rfl (qm rfl (qm rfl (qm rfl ?_))))
     obtain ⟨v5, a5, h⟩ := bind_some h
     refine Ce (ds0 := [_, _, _, _]) [11] [] [true] (Cb N p0 ((IntKind.wrap .i64 (p1 + (IntKind.wrap .i64 ((IntKind.wrap .i64 (Int.tdiv ((IntKind.wrap .i64 (p2 - p1))) 4)) * 1))))) 0 p3 v5 a5) (.p rfl) Pa rfl ⟨rfl, rfl, rfl, rfl, trivial⟩ rfl rfl (by decide) ⟨rfl, trivial⟩ rfl (AX rfl) trivial ⟨(fun h => by cases h), trivial⟩ rfl rfl rfl ?_
     refine qa rfl (Ac (Ab (Aa Ad rfl (qm rfl (qm rfl (qm rfl ?_))))))
     obtain ⟨v6, a6, h⟩ := bind_some h
     refine Ce (ds0 := [_, _, _, _]) [11] [] [true] (Cb N p0 ((IntKind.wrap .i64 (p1 + (IntKind.wrap .i64 ((IntKind.wrap .i64 (Int.tdiv ((IntKind.wrap .i64 (p2 - p1))) 4)) * 2))))) v5.2 p3 v6 a6) (.p rfl) Pa rfl ⟨rfl, rfl, rfl, rfl, trivial⟩ rfl rfl (by decide) ⟨rfl, trivial⟩ rfl (AX rfl) trivial ⟨(fun h => by cases h), trivial⟩ rfl rfl rfl ?_
     refine qa rfl (Ac (Aa Ad rfl (qm rfl (qm rfl (qm rfl ?_)))))
     obtain ⟨v7, a7, h⟩ := bind_some h
     refine Ce (ds0 := [_, _, _, _]) [11] [] [true] (Cb N p0 ((IntKind.wrap .i64 (p1 + (IntKind.wrap .i64 ((IntKind.wrap .i64 (Int.tdiv ((IntKind.wrap .i64 (p2 - p1))) 4)) * 3))))) v6.2 p3 v7 a7) (.p rfl) Pa rfl ⟨rfl, rfl, rfl, rfl, trivial⟩ rfl rfl (by decide) ⟨rfl, trivial⟩ rfl (AX rfl) trivial ⟨(fun h => by cases h), trivial⟩ rfl rfl rfl ?_
     refine qa rfl (Ac ?_)
     exact Av _ h (sm [] _ _ rfl rfl)
    ·have h := Am c4 h
     refine Ap ?_
     exact Av _ h (sm [] _ _ rfl rfl)
   ·refine Aa Ad rfl (qm rfl (qm rfl (qm rfl (qm rfl (qm rfl ?_)))))
    obtain ⟨v8, a8, h⟩ := bind_some h
    refine Ce (ds0 := [_, _, _, _, _, _]) [11] [] [true] (DT N p0 v3.2.1 v3.2.2.1 v3.2.2.2 v3.1 p3 v8 a8) (.p rfl) Qj rfl ⟨rfl, rfl, rfl, rfl, rfl, rfl, trivial⟩ rfl rfl (by decide) ⟨rfl, trivial⟩ rfl (AX rfl) trivial ⟨(fun h => by cases h), trivial⟩ rfl rfl rfl ?_
    refine qa rfl (Ac ?_)
    exact Av _ h (sm [] _ _ rfl rfl)
  ·have h := Am c2 h
   refine Ap ?_
   exact Av _ h (sm [] _ _ rfl rfl)
 ·refine Ab (Aa Ad rfl (ql CQ rfl (Ac (AI (Ab (Aa Ad rfl (BR rfl (qa rfl (Ac ?_)))))))))
  refine Ao rfl (fun c9 => ?_) (fun c9 => ?_)
  ·have h := An c9 h
   refine Ab (Aa Ad rfl (qm rfl (qa rfl (qa rfl (Ac ?_)))))
   obtain rfl := sj h
   refine Aj (sm [] [(8, .e (.one (.pure (.val (.int .i64 v1.2))))), (9, .e (.one (.pure (.val (.int .i64 1)))))] [] rfl rfl) (Ax ?_)
   exact ⟨⟨[_, _], ⟨.tmp _ _ rfl, ⟨.tmp _ _ rfl, trivial⟩⟩, rfl⟩, trivial⟩
  ·have h := Am c9 h
   refine Ab (Aa Ad rfl (BR rfl (qa rfl (Ac ?_))))
   refine Ao rfl (fun c10 => ?_) (fun c10 => ?_)
   ·have h := An c10 h
    refine Ab (Aa Ad rfl (qm rfl (qa rfl (qa rfl (Ac ?_)))))
    obtain rfl := sj h
    refine Aj (sm [] [(8, .e (.one (.pure (.val (.int .i64 v1.2))))), (9, .e (.one (.pure (.val (.int .i64 2)))))] [] rfl rfl) (Ax ?_)
    exact ⟨⟨[_, _], ⟨.tmp _ _ rfl, ⟨.tmp _ _ rfl, trivial⟩⟩, rfl⟩, trivial⟩
   ·have h := Am c10 h
    refine Ab (Aa Ad rfl (qm rfl (qa rfl (qa rfl (Ac ?_)))))
    obtain rfl := sj h
    refine Aj (sm [] [(8, .e (.one (.pure (.val (.int .i64 v1.2))))), (9, .e (.one (.pure (.val (.int .i64 0)))))] [] rfl rfl) (Ax ?_)
    exact ⟨⟨[_, _], ⟨.tmp _ _ rfl, ⟨.tmp _ _ rfl, trivial⟩⟩, rfl⟩, trivial⟩
set_option maxRecDepth 10000 in
theorem EG (N : Nat) (p0 : List Af) (p1 : Int) (p2 : Int) (p3 : (Af × Af) → Option Int) (r : (List Af)) (h : Cf N p0 p1 p2 p3 = some r) : Bg Try.prog 66 [.e (.one (.own 90000)), .e (.one (.pure (.val (.int .i64 p1)))), .e (.one (.pure (.val (.int .i64 p2)))), .e (.one (.clo (Bp (C4 true Ae true Ae) BW p3)))] [(.vec 3 (p0.map Ae), .vec 3 (r.map Ae))] [] (.tup []) := by
 unfold Cf at h
 refine A9 (n := 34) (rs := []) Try.func66 rfl rfl rfl (AV rfl) (AV rfl) rfl rfl (AV rfl) rfl (AV rfl) fun w0 S0 GL => JT ?_
 refine Aj (sm [] [(0, .e (.one (.own 90000))), (1, .e (.one (.pure (.val (.int .i64 p1))))), (2, .e (.one (.pure (.val (.int .i64 p2))))), (3, .e (.one (.clo (Bp (C4 true Ae true Ae) BW p3))))] [(90000, .vec 3 (p0.map Ae))] rfl rfl) (Ab (Aa Ad rfl (qm rfl (qa rfl (Ac (Ab (Aa Ad rfl (qm rfl (BY rfl (qa rfl (Ac ?_)))))))))))
 refine AF (L := Bw N) h (fun v1 => mk [(0, .e (.one (.own 90000))), (8, .e (.one (.pure (.val (.int .i64 v1.2.1))))), (9, .e (.one (.pure (.val (.int .i64 v1.2.2)))))] [(90000, .vec 3 (v1.1.map Ae))]) (fun v2 => mk [] [(90000, .vec 3 (v2.map Ae))]) (fun _ _ => rfl) (sm [] _ _ rfl rfl) (fun j1 n1 v1 h => ?_) (fun v2 s h hs => ?_)
 ·unfold Bw at h
  refine Ab (Ab (Aa Ad rfl (qm rfl (qm rfl (AS rfl (Ac ?_))))))
  refine Ao rfl (fun c3 => ?_) (fun c3 => ?_)
  ·have h := An c3 h
   refine Ap (AI (Ab (Aa Ad rfl (qm rfl (qm rfl (qm rfl (qm rfl (qm rfl (qm rfl ?_)))))))))
   obtain ⟨v4, a4, b4, h⟩ := Ah h
   refine qI AE Aw a4 (Ag b4) rfl (qJ AU Aw (Ag b4) rfl (qm rfl (qm rfl ?_)))
   obtain ⟨v5, a5, b5, h⟩ := Ah h
   refine qI AE Aw a5 (Ag b5) rfl (qJ AU Aw (Ag b5) rfl ?_)
   obtain ⟨v6, a6, b6, h⟩ := Ah h
   refine qI AE Aw a6 (Ag b6) rfl ?_
   refine AZ rfl rfl rfl rfl (Ag b6) rfl Aw rfl (AV rfl) (A0 Ae v1.1 _ v4) ?_
   obtain ⟨v7, a7, b7, h⟩ := Ah h
   refine qI AE Aw a7 (Ag b7) rfl ?_
   refine AZ rfl rfl rfl rfl (Ag b7) rfl Aw rfl (AV rfl) (A0 Ae (v1.1.set ((v1.2.1).toNat) v4) _ v5) ?_
   refine AJ (by kernel_rfl) (Ab (Aa Ad rfl (qm rfl (AO rfl (qa rfl (Ac (Aa Ad rfl (qm rfl (BY rfl (qa rfl (Ac ?_)))))))))))
   exact Av _ h (sm [] _ _ rfl rfl)
  ·have h := Am c3 h
   refine AR ?_
   exact Av _ h (sm [] _ _ rfl rfl)
 ·obtain rfl := sj h
  refine ⟨_, hs.trans (sm [] [] [(90000, .vec 3 (v2.map Ae))] rfl rfl), ?_⟩
  exact ⟨⟨[], trivial, rfl⟩, ⟨rfl, trivial⟩, trivial⟩
set_option maxRecDepth 10000 in
theorem DM (N : Nat) (p0 : List Af) (p1 : Int) (p2 : Int) (p3 : (Af × Af) → Option Int) (r : Bool × (List Af)) (h : BJ N p0 p1 p2 p3 = some r) : Bg Try.prog 67 [.e (.one (.own 90000)), .e (.one (.pure (.val (.int .i64 p1)))), .e (.one (.pure (.val (.int .i64 p2)))), .e (.one (.clo (Bp (C4 true Ae true Ae) BW p3)))] [(.vec 3 (p0.map Ae), .vec 3 (r.2.map Ae))] [] (.e (.one (.pure (.val (.bool r.1))))) := by
 unfold BJ at h
 refine A9 (n := 141) (rs := [.tmp 8]) Try.func67 rfl rfl rfl (AV rfl) (AV rfl) rfl rfl (AV rfl) rfl (AV rfl) fun w0 S0 GL => ?_
 refine Aj (sm [] [(0, .e (.one (.own 90000))), (1, .e (.one (.pure (.val (.int .i64 p1))))), (2, .e (.one (.pure (.val (.int .i64 p2))))), (3, .e (.one (.clo (Bp (C4 true Ae true Ae) BW p3))))] [(90000, .vec 3 (p0.map Ae))] rfl rfl) (Ab (Aa Ad rfl (qa rfl (Ac (Ab (Aa Ad rfl (qm rfl (AO rfl (qa rfl (Ac (Ab (Ab (Aa Ad rfl (qa rfl (Ac ?_)))))))))))))))
 refine AF (L := A8 N p1 p2 p3) h (fun v1 => mk [(0, .e (.one (.own 90000))), (1, .e (.one (.pure (.val (.int .i64 p1))))), (2, .e (.one (.pure (.val (.int .i64 p2))))), (3, .e (.one (.clo (Bp (C4 true Ae true Ae) BW p3)))), (9, .e (.one (.pure (.val (.int .i64 v1.2.1))))), (10, .e (.one (.pure (.val (.int .i64 v1.2.2)))))] [(90000, .vec 3 (v1.1.map Ae))]) (fun v2 => mk [] [(90000, .vec 3 (v2.map Ae))]) (fun _ _ => rfl) (sm [] _ _ rfl rfl) (fun j1 n1 v1 h => ?_) (fun v2 s h hs => ?_)
 ·unfold A8 at h
  refine Ab (Ab (Aa Ad rfl (qm rfl (AS rfl (Ac ?_)))))
  refine Ao rfl (fun c3 => ?_) (fun c3 => ?_)
  ·have h := An c3 h
   refine Ap ?_
   refine AN h (fun v4 => mk [(0, .e (.one (.own 90000))), (1, .e (.one (.pure (.val (.int .i64 p1))))), (2, .e (.one (.pure (.val (.int .i64 p2))))), (3, .e (.one (.clo (Bp (C4 true Ae true Ae) BW p3)))), (9, .e (.one (.pure (.val (.int .i64 v4.2))))), (10, .e (.one (.pure (.val (.int .i64 v1.2.2)))))] [(90000, .vec 3 (v4.1.map Ae))]) (fun j4 h => ?_) (fun v4 h => ?_)
   ·refine AI (Ab ?_)
    refine AF (L := A7 N p2 p3 v1) h (fun v5 => mk [(0, .e (.one (.own 90000))), (1, .e (.one (.pure (.val (.int .i64 p1))))), (2, .e (.one (.pure (.val (.int .i64 p2))))), (3, .e (.one (.clo (Bp (C4 true Ae true Ae) BW p3)))), (9, .e (.one (.pure (.val (.int .i64 v5))))), (10, .e (.one (.pure (.val (.int .i64 v1.2.2)))))] [(90000, .vec 3 (v1.1.map Ae))]) (fun v6 => mk [(0, .e (.one (.own 90000))), (1, .e (.one (.pure (.val (.int .i64 p1))))), (2, .e (.one (.pure (.val (.int .i64 p2))))), (3, .e (.one (.clo (Bp (C4 true Ae true Ae) BW p3)))), (9, .e (.one (.pure (.val (.int .i64 v6))))), (10, .e (.one (.pure (.val (.int .i64 v1.2.2)))))] [(90000, .vec 3 (v1.1.map Ae))]) (fun _ _ => rfl) (sm [] _ _ rfl rfl) (fun j5 n5 v5 h => ?_) (fun v6 s h hs => ?_)
    ·unfold A7 at h
     refine Ab ?_
     refine AN h (fun v7 => mk [(0, .e (.one (.own 90000))), (1, .e (.one (.pure (.val (.int .i64 p1))))), (2, .e (.one (.pure (.val (.int .i64 p2))))), (3, .e (.one (.clo (Bp (C4 true Ae true Ae) BW p3)))), (9, .e (.one (.pure (.val (.int .i64 v5))))), (10, .e (.one (.pure (.val (.int .i64 v1.2.2))))), (36, .e (.one (.pure (.val (.bool v7)))))] [(90000, .vec 3 (v1.1.map Ae))]) (fun j7 h => ?_) (fun v7 h => ?_)
     ·refine Aa Ad rfl (qm rfl (qm rfl (AS rfl (qm rfl ?_))))
      refine AA (t := 22) rfl (fun c8 => ?_) (fun c8 => ?_)
      ·have h := An c8 h
       refine qm rfl (qm rfl (qm rfl ?_))
       obtain ⟨v9, a9, b9, h⟩ := Ah h
       refine qI AE Aw a9 (Ag b9) rfl (qJ AU Aw (Ag b9) rfl (qm rfl (qm rfl (BY rfl ?_))))
       obtain ⟨v10, a10, b10, h⟩ := Ah h
       refine qI AE Aw a10 (Ag b10) rfl (qJ AU Aw (Ag b10) rfl ?_)
       obtain ⟨v11, a11, h⟩ := bind_some h
       refine C9 (ds0 := [_, _]) (ar := (C4 true Ae true Ae) ((v9, v10))) (.g rfl rfl) rfl rfl ⟨rfl, rfl, trivial⟩ rfl rfl rfl (C6 (DI _ _ _ _ A5 A5) a11) ?_
       refine AS rfl (Cg rfl (qp rfl (AJ (by kernel_rfl) ?_)))
       exact Av _ h (sm [] _ _ rfl rfl)
      ·have h := Am c8 h
       refine qn rfl (qn rfl (qn rfl (qn rfl (qn rfl (qn rfl (qn rfl (qn rfl (qn rfl (qn rfl (qn rfl (qn rfl (qn rfl (qp rfl (AJ (by kernel_rfl) ?_))))))))))))))
       exact Av _ h (sm [] _ _ rfl rfl)
     ·refine Ao rfl (fun c12 => ?_) (fun c12 => ?_)
      ·have h := An c12 h
       refine Ap (AI (Aa Ad rfl (qm rfl (AO rfl (qa rfl (Ac ?_))))))
       exact Av _ h (sm [] _ _ rfl rfl)
      ·have h := Am c12 h
       refine AR ?_
       exact Av _ h (sm [] _ _ rfl rfl)
    ·refine Aj hs (Ab (Ab (Aa Ad rfl (qm rfl (qm rfl (BR rfl (Ac ?_)))))))
     refine Ao rfl (fun c13 => ?_) (fun c13 => ?_)
     ·have h := An c13 h
      refine Ab (Aa Ad rfl (qa rfl (Ac ?_)))
      obtain rfl := sj h
      refine Aj (sm [] [(8, .e (.one (.pure (.val (.bool true)))))] [(90000, .vec 3 (v1.1.map Ae))] rfl rfl) (Ax ?_)
      exact ⟨⟨[_], ⟨.tmp _ _ rfl, trivial⟩, rfl⟩, ⟨rfl, trivial⟩, trivial⟩
     ·have h := Am c13 h
      refine Ap (Ab (Ab (Aa Ad rfl (qm rfl (qm rfl (BY rfl (AS rfl (Ac ?_))))))))
      refine Ao rfl (fun c14 => ?_) (fun c14 => ?_)
      ·have h := An c14 h
       refine Ab (Aa Ad rfl (qa rfl (Ac ?_)))
       obtain rfl := sj h
       refine Aj (sm [] [(8, .e (.one (.pure (.val (.bool false)))))] [(90000, .vec 3 (v1.1.map Ae))] rfl rfl) (Ax ?_)
       exact ⟨⟨[_], ⟨.tmp _ _ rfl, trivial⟩, rfl⟩, ⟨rfl, trivial⟩, trivial⟩
      ·have h := Am c14 h
       refine Ap (Ab (Aa Ad rfl (qm rfl (qm rfl (qm rfl (qm rfl (BY rfl (qm rfl (qm rfl (BY rfl ?_))))))))))
       obtain ⟨v15, a15, b15, h⟩ := Ah h
       refine qI AE Aw a15 (Ag b15) rfl (qJ AU Aw (Ag b15) rfl (qm rfl (qm rfl ?_)))
       obtain ⟨v16, a16, b16, h⟩ := Ah h
       refine qI AE Aw a16 (Ag b16) rfl (qJ AU Aw (Ag b16) rfl ?_)
       obtain ⟨v17, a17, b17, h⟩ := Ah h
       refine qI AE Aw a17 (Ag b17) rfl ?_
       refine AZ rfl rfl rfl rfl (Ag b17) rfl Aw rfl (AV rfl) (A0 Ae v1.1 _ v15) ?_
       obtain ⟨v18, a18, b18, h⟩ := Ah h
       refine qI AE Aw a18 (Ag b18) rfl ?_
       refine AZ rfl rfl rfl rfl (Ag b18) rfl Aw rfl (AV rfl) (A0 Ae (v1.1.set ((v6).toNat) v15) _ v16) ?_
       refine AJ (by kernel_rfl) ?_
       refine AN h (fun v19 => mk [(0, .e (.one (.own 90000))), (1, .e (.one (.pure (.val (.int .i64 p1))))), (2, .e (.one (.pure (.val (.int .i64 p2))))), (3, .e (.one (.clo (Bp (C4 true Ae true Ae) BW p3)))), (9, .e (.one (.pure (.val (.int .i64 v6))))), (10, .e (.one (.pure (.val (.int .i64 v1.2.2)))))] [(90000, .vec 3 (v19.map Ae))]) (fun j19 h => ?_) (fun v19 h => ?_)
       ·refine Ab (Aa Ad rfl (qm rfl (qm rfl (BY rfl (Dc rfl (Ac ?_))))))
        refine Ao rfl (fun c20 => ?_) (fun c20 => ?_)
        ·have h := An c20 h
         refine Ab (Aa Ad rfl (qm rfl (BY rfl (qa rfl (Ac ?_)))))
         refine AF (L := A3 N p3) h (fun v21 => mk [(0, .e (.one (.own 90000))), (1, .e (.one (.pure (.val (.int .i64 p1))))), (2, .e (.one (.pure (.val (.int .i64 p2))))), (3, .e (.one (.clo (Bp (C4 true Ae true Ae) BW p3)))), (9, .e (.one (.pure (.val (.int .i64 v6))))), (10, .e (.one (.pure (.val (.int .i64 v1.2.2))))), (11, .e (.one (.pure (.val (.int .i64 v21.2)))))] [(90000, .vec 3 (v21.1.map Ae))]) (fun v22 => mk [(0, .e (.one (.own 90000))), (1, .e (.one (.pure (.val (.int .i64 p1))))), (2, .e (.one (.pure (.val (.int .i64 p2))))), (3, .e (.one (.clo (Bp (C4 true Ae true Ae) BW p3)))), (9, .e (.one (.pure (.val (.int .i64 v6))))), (10, .e (.one (.pure (.val (.int .i64 v1.2.2)))))] [(90000, .vec 3 (v22.map Ae))]) (fun _ _ => rfl) (sm [] _ _ rfl rfl) (fun j21 n21 v21 h => ?_) (fun v22 s h hs => ?_)
         ·unfold A3 at h
          refine Ab (Ab (Aa Ad rfl (qm rfl (Dc rfl (Ac ?_)))))
          refine Ao rfl (fun c23 => ?_) (fun c23 => ?_)
          ·have h := An c23 h
           refine Ap (Ab (AI (Ab (Ab (Aa Ad rfl (qm rfl (qm rfl (qm rfl ?_))))))))
           obtain ⟨v24, a24, b24, h⟩ := Ah h
           refine qI AE Aw a24 (Ag b24) rfl (qJ AU Aw (Ag b24) rfl (qm rfl (qm rfl (BY rfl ?_))))
           obtain ⟨v25, a25, b25, h⟩ := Ah h
           refine qI AE Aw a25 (Ag b25) rfl (qJ AU Aw (Ag b25) rfl ?_)
           obtain ⟨v26, a26, h⟩ := bind_some h
           refine C9 (ds0 := [_, _]) (ar := (C4 true Ae true Ae) ((v24, v25))) (.p rfl) rfl rfl ⟨rfl, rfl, trivial⟩ rfl rfl rfl (C6 (DI _ _ _ _ A5 A5) a26) ?_
           refine AS rfl (Cg rfl (AJ (by kernel_rfl) ?_))
           refine Ao rfl (fun c27 => ?_) (fun c27 => ?_)
           ·have h := An c27 h
            refine AR ?_
            exact Av _ h (sm [] _ _ rfl rfl)
           ·have h := Am c27 h
            refine Ap (Aa Ad rfl (qm rfl (qm rfl (qm rfl (qm rfl (BY rfl (qm rfl (qm rfl (BY rfl ?_)))))))))
            obtain ⟨v28, a28, b28, h⟩ := Ah h
            refine qI AE Aw a28 (Ag b28) rfl (qJ AU Aw (Ag b28) rfl (qm rfl (qm rfl ?_)))
            obtain ⟨v29, a29, b29, h⟩ := Ah h
            refine qI AE Aw a29 (Ag b29) rfl (qJ AU Aw (Ag b29) rfl ?_)
            obtain ⟨v30, a30, b30, h⟩ := Ah h
            refine qI AE Aw a30 (Ag b30) rfl ?_
            refine AZ rfl rfl rfl rfl (Ag b30) rfl Aw rfl (AV rfl) (A0 Ae v21.1 _ v28) ?_
            obtain ⟨v31, a31, b31, h⟩ := Ah h
            refine qI AE Aw a31 (Ag b31) rfl ?_
            refine AZ rfl rfl rfl rfl (Ag b31) rfl Aw rfl (AV rfl) (A0 Ae (v21.1.set ((v21.2).toNat) v28) _ v29) ?_
            refine AJ (by kernel_rfl) (Aa Ad rfl (qm rfl (BY rfl (qa rfl (Ac ?_)))))
            exact Av _ h (sm [] _ _ rfl rfl)
          ·have h := Am c23 h
           refine AR ?_
           exact Av _ h (sm [] _ _ rfl rfl)
         ·exact Av _ h (hs.trans (sm [] _ _ rfl rfl))
        ·have h := Am c20 h
         refine Ap ?_
         exact Av _ h (sm [] _ _ rfl rfl)
       ·refine Ab (Aa Ad rfl (qm rfl (qm rfl (BY rfl (Dc rfl (Ac ?_))))))
        refine Ao rfl (fun c32 => ?_) (fun c32 => ?_)
        ·have h := An c32 h
         refine Ab (Aa Ad rfl (qm rfl (AO rfl (qa rfl (Ac ?_)))))
         refine AF (L := A4 N p2 p3) h (fun v33 => mk [(0, .e (.one (.own 90000))), (1, .e (.one (.pure (.val (.int .i64 p1))))), (2, .e (.one (.pure (.val (.int .i64 p2))))), (3, .e (.one (.clo (Bp (C4 true Ae true Ae) BW p3)))), (9, .e (.one (.pure (.val (.int .i64 v6))))), (10, .e (.one (.pure (.val (.int .i64 v1.2.2))))), (12, .e (.one (.pure (.val (.int .i64 v33.2)))))] [(90000, .vec 3 (v33.1.map Ae))]) (fun v34 => mk [(0, .e (.one (.own 90000))), (1, .e (.one (.pure (.val (.int .i64 p1))))), (2, .e (.one (.pure (.val (.int .i64 p2))))), (3, .e (.one (.clo (Bp (C4 true Ae true Ae) BW p3)))), (9, .e (.one (.pure (.val (.int .i64 v6))))), (10, .e (.one (.pure (.val (.int .i64 v1.2.2)))))] [(90000, .vec 3 (v34.map Ae))]) (fun _ _ => rfl) (sm [] _ _ rfl rfl) (fun j33 n33 v33 h => ?_) (fun v34 s h hs => ?_)
         ·unfold A4 at h
          refine Ab (Ab (Aa Ad rfl (qm rfl (qm rfl (AS rfl (Ac ?_))))))
          refine Ao rfl (fun c35 => ?_) (fun c35 => ?_)
          ·have h := An c35 h
           refine Ap (Ab (AI (Ab (Ab (Aa Ad rfl (qm rfl (qm rfl (qm rfl ?_))))))))
           obtain ⟨v36, a36, b36, h⟩ := Ah h
           refine qI AE Aw a36 (Ag b36) rfl (qJ AU Aw (Ag b36) rfl (qm rfl (qm rfl (BY rfl ?_))))
           obtain ⟨v37, a37, b37, h⟩ := Ah h
           refine qI AE Aw a37 (Ag b37) rfl (qJ AU Aw (Ag b37) rfl ?_)
           obtain ⟨v38, a38, h⟩ := bind_some h
           refine C9 (ds0 := [_, _]) (ar := (C4 true Ae true Ae) ((v36, v37))) (.p rfl) rfl rfl ⟨rfl, rfl, trivial⟩ rfl rfl rfl (C6 (DI _ _ _ _ A5 A5) a38) ?_
           refine AS rfl (Cg rfl (AJ (by kernel_rfl) ?_))
           refine Ao rfl (fun c39 => ?_) (fun c39 => ?_)
           ·have h := An c39 h
            refine AR ?_
            exact Av _ h (sm [] _ _ rfl rfl)
           ·have h := Am c39 h
            refine Ap (Aa Ad rfl (qm rfl (qm rfl (qm rfl (qm rfl (BY rfl (qm rfl (qm rfl (BY rfl ?_)))))))))
            obtain ⟨v40, a40, b40, h⟩ := Ah h
            refine qI AE Aw a40 (Ag b40) rfl (qJ AU Aw (Ag b40) rfl (qm rfl (qm rfl ?_)))
            obtain ⟨v41, a41, b41, h⟩ := Ah h
            refine qI AE Aw a41 (Ag b41) rfl (qJ AU Aw (Ag b41) rfl ?_)
            obtain ⟨v42, a42, b42, h⟩ := Ah h
            refine qI AE Aw a42 (Ag b42) rfl ?_
            refine AZ rfl rfl rfl rfl (Ag b42) rfl Aw rfl (AV rfl) (A0 Ae v33.1 _ v40) ?_
            obtain ⟨v43, a43, b43, h⟩ := Ah h
            refine qI AE Aw a43 (Ag b43) rfl ?_
            refine AZ rfl rfl rfl rfl (Ag b43) rfl Aw rfl (AV rfl) (A0 Ae (v33.1.set ((v33.2).toNat) v40) _ v41) ?_
            refine AJ (by kernel_rfl) (Aa Ad rfl (qm rfl (AO rfl (qa rfl (Ac ?_)))))
            exact Av _ h (sm [] _ _ rfl rfl)
          ·have h := Am c35 h
           refine AR ?_
           exact Av _ h (sm [] _ _ rfl rfl)
         ·exact Av _ h (hs.trans (sm [] _ _ rfl rfl))
        ·have h := Am c32 h
         refine Ap ?_
         exact Av _ h (sm [] _ _ rfl rfl)
   ·refine Aa Ad rfl (qm rfl (AO rfl (qa rfl (Ac ?_))))
    exact Av _ h (sm [] _ _ rfl rfl)
  ·have h := Am c3 h
   refine AR ?_
   exact Av _ h (sm [] _ _ rfl rfl)
 ·refine Aj hs (Ab (Aa Ad rfl (qa rfl (Ac ?_))))
  obtain rfl := sj h
  refine Aj (sm [] [(8, .e (.one (.pure (.val (.bool false)))))] [(90000, .vec 3 (v2.map Ae))] rfl rfl) (Ax ?_)
  exact ⟨⟨[_], ⟨.tmp _ _ rfl, trivial⟩, rfl⟩, ⟨rfl, trivial⟩, trivial⟩
set_option maxRecDepth 10000 in
theorem Ei (N : Nat) (p0 : List Af) (p1 : Int) (p2 : Int) (p3 : Int) (p4 : (Af × Af) → Option Int) (r : Int × (List Af)) (h : B3 N p0 p1 p2 p3 p4 = some r) : Bg Try.prog 68 [.e (.one (.own 90000)), .e (.one (.pure (.val (.int .i64 p1)))), .e (.one (.pure (.val (.int .i64 p2)))), .e (.one (.pure (.val (.int .i64 p3)))), .e (.one (.clo (Bp (C4 true Ae true Ae) BW p4)))] [(.vec 3 (p0.map Ae), .vec 3 (r.2.map Ae))] [] (.e (.one (.pure (.val (.int .i64 r.1))))) := by
 unfold B3 at h
 refine A9 (n := 90) (rs := [.tmp 10]) Try.func68 rfl rfl rfl (AV rfl) (AV rfl) rfl rfl (AV rfl) rfl (AV rfl) fun w0 S0 GL => ?_
 refine Aj (sm [] [(0, .e (.one (.own 90000))), (1, .e (.one (.pure (.val (.int .i64 p1))))), (2, .e (.one (.pure (.val (.int .i64 p2))))), (3, .e (.one (.pure (.val (.int .i64 p3))))), (4, .e (.one (.clo (Bp (C4 true Ae true Ae) BW p4))))] [(90000, .vec 3 (p0.map Ae))] rfl rfl) (Ab (Aa Ad rfl (qa rfl (Ac (Ab (Aa Ad rfl (qm rfl (qm rfl (qm rfl (qm rfl (qm rfl (qm rfl ?_))))))))))))
 obtain ⟨v1, a1, b1, h⟩ := Ah h
 refine qI AE Aw a1 (Ag b1) rfl (qJ AU Aw (Ag b1) rfl (qm rfl (qm rfl ?_)))
 obtain ⟨v2, a2, b2, h⟩ := Ah h
 refine qI AE Aw a2 (Ag b2) rfl (qJ AU Aw (Ag b2) rfl ?_)
 obtain ⟨v3, a3, b3, h⟩ := Ah h
 refine qI AE Aw a3 (Ag b3) rfl ?_
 refine AZ rfl rfl rfl rfl (Ag b3) rfl Aw rfl (AV rfl) (A0 Ae p0 _ v1) ?_
 obtain ⟨v4, a4, b4, h⟩ := Ah h
 refine qI AE Aw a4 (Ag b4) rfl ?_
 refine AZ rfl rfl rfl rfl (Ag b4) rfl Aw rfl (AV rfl) (A0 Ae (p0.set ((p1).toNat) v1) _ v2) ?_
 refine AJ (by kernel_rfl) (Ab (Aa Ad rfl (qm rfl (AO rfl (qm rfl (BY rfl (qa rfl (qa rfl (Ac (Ab ?_))))))))))
 refine AF (L := Bl N p1 p4) h (fun v5 => mk [(0, .e (.one (.own 90000))), (1, .e (.one (.pure (.val (.int .i64 p1))))), (4, .e (.one (.clo (Bp (C4 true Ae true Ae) BW p4)))), (11, .e (.one (.pure (.val (.int .i64 v5.2.1))))), (12, .e (.one (.pure (.val (.int .i64 v5.2.2)))))] [(90000, .vec 3 (v5.1.map Ae))]) (fun v6 => mk [(11, .e (.one (.pure (.val (.int .i64 v6.2)))))] [(90000, .vec 3 (v6.1.map Ae))]) (fun _ _ => rfl) (sm [] _ _ rfl rfl) (fun j5 n5 v5 h => ?_) (fun v6 s h hs => ?_)
 ·unfold Bl at h
  refine AI (Ab ?_)
  refine AF (L := Bm N p1 p4 v5) h (fun v7 => mk [(0, .e (.one (.own 90000))), (1, .e (.one (.pure (.val (.int .i64 p1))))), (4, .e (.one (.clo (Bp (C4 true Ae true Ae) BW p4)))), (11, .e (.one (.pure (.val (.int .i64 v7))))), (12, .e (.one (.pure (.val (.int .i64 v5.2.2)))))] [(90000, .vec 3 (v5.1.map Ae))]) (fun v8 => mk [(0, .e (.one (.own 90000))), (1, .e (.one (.pure (.val (.int .i64 p1))))), (4, .e (.one (.clo (Bp (C4 true Ae true Ae) BW p4)))), (11, .e (.one (.pure (.val (.int .i64 v8))))), (12, .e (.one (.pure (.val (.int .i64 v5.2.2)))))] [(90000, .vec 3 (v5.1.map Ae))]) (fun _ _ => rfl) (sm [] _ _ rfl rfl) (fun j7 n7 v7 h => ?_) (fun v8 s h hs => ?_)
  ·unfold Bm at h
   refine Ab ?_
   refine AN h (fun v9 => mk [(0, .e (.one (.own 90000))), (1, .e (.one (.pure (.val (.int .i64 p1))))), (4, .e (.one (.clo (Bp (C4 true Ae true Ae) BW p4)))), (11, .e (.one (.pure (.val (.int .i64 v7))))), (12, .e (.one (.pure (.val (.int .i64 v5.2.2))))), (47, .e (.one (.pure (.val (.bool v9)))))] [(90000, .vec 3 (v5.1.map Ae))]) (fun j9 h => ?_) (fun v9 h => ?_)
   ·refine Aa Ad rfl (qm rfl (qm rfl (Jn rfl (qm rfl ?_))))
    refine AA (t := 34) rfl (fun c10 => ?_) (fun c10 => ?_)
    ·have h := An c10 h
     refine qm rfl (qm rfl (qm rfl ?_))
     obtain ⟨v11, a11, b11, h⟩ := Ah h
     refine qI AE Aw a11 (Ag b11) rfl (qJ AU Aw (Ag b11) rfl (qm rfl (qm rfl ?_)))
     obtain ⟨v12, a12, b12, h⟩ := Ah h
     refine qI AE Aw a12 (Ag b12) rfl (qJ AU Aw (Ag b12) rfl ?_)
     obtain ⟨v13, a13, h⟩ := bind_some h
     refine C9 (ds0 := [_, _]) (ar := (C4 true Ae true Ae) ((v11, v12))) (.g rfl rfl) rfl rfl ⟨rfl, rfl, trivial⟩ rfl rfl rfl (C6 (DI _ _ _ _ A5 A5) a13) ?_
     refine AS rfl (Cg rfl (qp rfl (AJ (by kernel_rfl) ?_)))
     exact Av _ h (sm [] _ _ rfl rfl)
    ·have h := Am c10 h
     refine qn rfl (qn rfl (qn rfl (qn rfl (qn rfl (qn rfl (qn rfl (qn rfl (qn rfl (qn rfl (qn rfl (qn rfl (qp rfl (AJ (by kernel_rfl) ?_)))))))))))))
     exact Av _ h (sm [] _ _ rfl rfl)
   ·refine Ao rfl (fun c14 => ?_) (fun c14 => ?_)
    ·have h := An c14 h
     refine Ap (AI (Aa Ad rfl (qm rfl (AO rfl (qa rfl (Ac ?_))))))
     exact Av _ h (sm [] _ _ rfl rfl)
    ·have h := Am c14 h
     refine AR ?_
     exact Av _ h (sm [] _ _ rfl rfl)
  ·refine Aj hs (Ab ?_)
   refine AF (L := Bi N p1 p4 v5 v8) h (fun v15 => mk [(0, .e (.one (.own 90000))), (1, .e (.one (.pure (.val (.int .i64 p1))))), (4, .e (.one (.clo (Bp (C4 true Ae true Ae) BW p4)))), (11, .e (.one (.pure (.val (.int .i64 v8))))), (12, .e (.one (.pure (.val (.int .i64 v15)))))] [(90000, .vec 3 (v5.1.map Ae))]) (fun v16 => mk [(0, .e (.one (.own 90000))), (1, .e (.one (.pure (.val (.int .i64 p1))))), (4, .e (.one (.clo (Bp (C4 true Ae true Ae) BW p4)))), (11, .e (.one (.pure (.val (.int .i64 v8))))), (12, .e (.one (.pure (.val (.int .i64 v16)))))] [(90000, .vec 3 (v5.1.map Ae))]) (fun _ _ => rfl) (sm [] _ _ rfl rfl) (fun j15 n15 v15 h => ?_) (fun v16 s h hs => ?_)
   ·unfold Bi at h
    refine Ab ?_
    refine AN h (fun v17 => mk [(0, .e (.one (.own 90000))), (1, .e (.one (.pure (.val (.int .i64 p1))))), (4, .e (.one (.clo (Bp (C4 true Ae true Ae) BW p4)))), (11, .e (.one (.pure (.val (.int .i64 v8))))), (12, .e (.one (.pure (.val (.int .i64 v15))))), (65, .e (.one (.pure (.val (.bool v17)))))] [(90000, .vec 3 (v5.1.map Ae))]) (fun j17 h => ?_) (fun v17 h => ?_)
    ·refine Aa Ad rfl (qm rfl (qm rfl (Jn rfl (qm rfl ?_))))
     refine AA (t := 53) rfl (fun c18 => ?_) (fun c18 => ?_)
     ·have h := An c18 h
      refine qm rfl (qm rfl (qm rfl ?_))
      obtain ⟨v19, a19, b19, h⟩ := Ah h
      refine qI AE Aw a19 (Ag b19) rfl (qJ AU Aw (Ag b19) rfl (qm rfl (qm rfl ?_)))
      obtain ⟨v20, a20, b20, h⟩ := Ah h
      refine qI AE Aw a20 (Ag b20) rfl (qJ AU Aw (Ag b20) rfl ?_)
      obtain ⟨v21, a21, h⟩ := bind_some h
      refine C9 (ds0 := [_, _]) (ar := (C4 true Ae true Ae) ((v19, v20))) (.g rfl rfl) rfl rfl ⟨rfl, rfl, trivial⟩ rfl rfl rfl (C6 (DI _ _ _ _ A5 A5) a21) ?_
      refine AS rfl (qp rfl (AJ (by kernel_rfl) ?_))
      exact Av _ h (sm [] _ _ rfl rfl)
     ·have h := Am c18 h
      refine qn rfl (qn rfl (qn rfl (qn rfl (qn rfl (qn rfl (qn rfl (qn rfl (qn rfl (qn rfl (qn rfl (qp rfl (AJ (by kernel_rfl) ?_))))))))))))
      exact Av _ h (sm [] _ _ rfl rfl)
    ·refine Ao rfl (fun c22 => ?_) (fun c22 => ?_)
     ·have h := An c22 h
      refine Ap (AI (Aa Ad rfl (qm rfl (BY rfl (qa rfl (Ac ?_))))))
      exact Av _ h (sm [] _ _ rfl rfl)
     ·have h := Am c22 h
      refine AR ?_
      exact Av _ h (sm [] _ _ rfl rfl)
   ·refine Aj hs (Ab (Ab (Aa Ad rfl (qm rfl (qm rfl (Dd rfl (Ac ?_)))))))
    refine Ao rfl (fun c23 => ?_) (fun c23 => ?_)
    ·have h := An c23 h
     refine AR ?_
     exact Av _ h (sm [] _ _ rfl rfl)
    ·have h := Am c23 h
     refine Ap (Ab (Aa Ad rfl (qm rfl (qm rfl (qm rfl (qm rfl (qm rfl (qm rfl ?_))))))))
     obtain ⟨v24, a24, b24, h⟩ := Ah h
     refine qI AE Aw a24 (Ag b24) rfl (qJ AU Aw (Ag b24) rfl (qm rfl (qm rfl ?_)))
     obtain ⟨v25, a25, b25, h⟩ := Ah h
     refine qI AE Aw a25 (Ag b25) rfl (qJ AU Aw (Ag b25) rfl ?_)
     obtain ⟨v26, a26, b26, h⟩ := Ah h
     refine qI AE Aw a26 (Ag b26) rfl ?_
     refine AZ rfl rfl rfl rfl (Ag b26) rfl Aw rfl (AV rfl) (A0 Ae v5.1 _ v24) ?_
     obtain ⟨v27, a27, b27, h⟩ := Ah h
     refine qI AE Aw a27 (Ag b27) rfl ?_
     refine AZ rfl rfl rfl rfl (Ag b27) rfl Aw rfl (AV rfl) (A0 Ae (v5.1.set ((v8).toNat) v24) _ v25) ?_
     refine AJ (by kernel_rfl) (Ab (Aa Ad rfl (qm rfl (AO rfl (qa rfl (Ac (Aa Ad rfl (qm rfl (BY rfl (qa rfl (Ac ?_)))))))))))
     exact Av _ h (sm [] _ _ rfl rfl)
 ·refine Aj hs (Ab (Aa Ad rfl (qm rfl (qa rfl (Ac ?_)))))
  obtain rfl := sj h
  refine Aj (sm [] [(10, .e (.one (.pure (.val (.int .i64 v6.2)))))] [(90000, .vec 3 (v6.1.map Ae))] rfl rfl) (Ax ?_)
  exact ⟨⟨[_], ⟨.tmp _ _ rfl, trivial⟩, rfl⟩, ⟨rfl, trivial⟩, trivial⟩
end Go.Lift

