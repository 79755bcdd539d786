/- Lemmas for UnblockWithSaid, which YtjpgllmfenogoaaGreatFinU6 proves. -/
import Derived.Test.YtjpgllmfenogoaaGreatCode3
namespace Go.Lift
set_option maxRecDepth 10000
open Go.RowKit
open Go.Proofs
theorem KZ (N : Nat) (p0 : Ah) (r : Bool) (h : Eo N p0 = some r) : Az Tryz.prog 19 [.e (.agg [sC (p0.fb.map Aj), sC (p0.fc.map Aj), sC (p0.fd.map Aj), sC (p0.fa.map Ak)])] [] (bD r) := by
 unfold Eo at h
 refine Ar (n := 97) (rs := [.tmp 2]) Tryz.func19 rfl rfl rfl (AY rfl) (AY rfl) rfl fun w0 S0 => ?_
 refine Ad (Aa Ae rfl (qb rfl (qa rfl (Af (Ad ?_)))))
 refine AS h (fun v1 => mk [(1, oD (.ptr 1 0)), (27, bD v1)] [(1, .box [sC (p0.fb.map Aj), sC (p0.fc.map Aj), sC (p0.fd.map Aj), sC (p0.fa.map Ak)])]) (fun j1 h => ?_) (fun v1 h => ?_)
 ·refine Aa Ae rfl (qf CT rfl (ql Ch rfl (AM AQ rfl (Ea rfl (qm rfl ?_)))))
  refine AH (t := 10) rfl (fun c2 => ?_) (fun c2 => ?_)
  ·have h := Ao c2 h
   refine qn rfl (qn rfl (qn rfl (qn rfl (qp rfl (qm rfl (qn rfl (qn rfl (qn rfl (qn rfl (qp rfl (qm rfl (qn rfl (qn rfl (qn rfl (qn rfl (qp rfl (Af ?_)))))))))))))))))
   exact Au _ h (sm [] _ _ rfl rfl)
  ·have h := An c2 h
   refine qf FT rfl (ql Ch rfl (AM AQ rfl (Ea rfl (qp rfl (qm rfl ?_)))))
   refine AH (t := 16) rfl (fun c3 => ?_) (fun c3 => ?_)
   ·have h := Ao c3 h
    refine qn rfl (qn rfl (qn rfl (qn rfl (qp rfl (qm rfl (qn rfl (qn rfl (qn rfl (qn rfl (qp rfl (Af ?_)))))))))))
    exact Au _ h (sm [] _ _ rfl rfl)
   ·have h := An c3 h
    refine qf G1 rfl (ql Ch rfl (AM AQ rfl (Ea rfl (qp rfl (qm rfl ?_)))))
    refine AH (t := 22) rfl (fun c4 => ?_) (fun c4 => ?_)
    ·have h := Ao c4 h
     refine qn rfl (qn rfl (qn rfl (qn rfl (qp rfl (Af ?_)))))
     exact Au _ h (sm [] _ _ rfl rfl)
    ·have h := An c4 h
     refine qf Bt rfl (ql EP rfl (AM Cw rfl (Ea rfl (qp rfl (Af ?_)))))
     exact Au _ h (sm [] _ _ rfl rfl)
 ·refine Aq rfl (fun c5 => ?_) (fun c5 => ?_)
  ·have h := Ao c5 h
   refine Ad (Aa Ae rfl (qa rfl (Af ?_)))
   obtain rfl := sj h
   refine Al (sm [] [(2, bD false)] [] rfl rfl) (Ay ?_)
   exact ⟨⟨[_], ⟨.tmp _ _ rfl, tv⟩, rfl⟩, tv⟩
  ·have h := An c5 h
   refine As (Ad (Ad (Aa Ae rfl (qa rfl (Af ?_)))))
   refine AB (L := Dk N p0) h (fun v6 => mk [(1, oD (.ptr 1 0)), (3, iD v6)] [(1, .box [sC (p0.fb.map Aj), sC (p0.fc.map Aj), sC (p0.fd.map Aj), sC (p0.fa.map Ak)])]) (fun v7 => mk [] []) (fun _ _ => rfl) (sm [] _ _ rfl rfl) (fun j6 n6 v6 h => ?_) (fun v7 s h hs => ?_)
   ·unfold Dk at h
    refine Ad (Ad (Aa Ae rfl (qm rfl (qf Bt rfl (ql EP rfl (AM Cw rfl (AX rfl (Af ?_))))))))
    refine Aq rfl (fun c8 => ?_) (fun c8 => ?_)
    ·have h := Ao c8 h
     refine As (Ad (AJ (Ad ?_)))
     refine AS h (fun v9 => mk [(1, oD (.ptr 1 0)), (3, iD v6), (52, bD v9)] [(1, .box [sC (p0.fb.map Aj), sC (p0.fc.map Aj), sC (p0.fd.map Aj), sC (p0.fa.map Ak)])]) (fun j9 h => ?_) (fun v9 h => ?_)
     ·refine Aa Ae rfl (qf Bt rfl (ql EP rfl (qm rfl ?_)))
      obtain ⟨v10, a10, b10, h⟩ := Ai h
      refine qi Cw Dc a10 (Ag b10) rfl (qg Dz rfl (qk EO rfl (AM Cn rfl (Ea rfl (qm rfl ?_)))))
      refine AH (t := 43) rfl (fun c11 => ?_) (fun c11 => ?_)
      ·have h := Ao c11 h
       refine qn rfl (qn rfl (qn rfl (qn rfl (qn rfl (qn rfl (qn rfl (qn rfl (qp rfl (Af ?_)))))))))
       exact Au _ h (sm [] _ _ rfl rfl)
      ·have h := An c11 h
       refine qf Bt rfl (ql EP rfl (qm rfl ?_))
       obtain ⟨v12, a12, b12, h⟩ := Ai h
       refine qi Cw Dc a12 (Ag b12) rfl (qg Dp rfl (qk EO rfl (AM Cn rfl (Ea rfl (qp rfl (Af ?_))))))
       exact Au _ h (sm [] _ _ rfl rfl)
     ·refine Aq rfl (fun c13 => ?_) (fun c13 => ?_)
      ·have h := Ao c13 h
       refine Ad (Aa Ae rfl (qa rfl (Af ?_)))
       obtain rfl := sj h
       refine Al (sm [] [(2, bD false)] [] rfl rfl) (Ay ?_)
       exact ⟨⟨[_], ⟨.tmp _ _ rfl, tv⟩, rfl⟩, tv⟩
      ·have h := An c13 h
       refine As (Ad (Ad (Aa Ae rfl (qa rfl (Af ?_)))))
       refine AB (L := Cb N p0 v6) h (fun v14 => mk [(1, oD (.ptr 1 0)), (3, iD v6), (4, iD v14)] [(1, .box [sC (p0.fb.map Aj), sC (p0.fc.map Aj), sC (p0.fd.map Aj), sC (p0.fa.map Ak)])]) (fun v15 => mk [(1, oD (.ptr 1 0)), (3, iD v6)] [(1, .box [sC (p0.fb.map Aj), sC (p0.fc.map Aj), sC (p0.fd.map Aj), sC (p0.fa.map Ak)])]) (fun _ _ => rfl) (sm [] _ _ rfl rfl) (fun j14 n14 v14 h => ?_) (fun v15 s h hs => ?_)
       ·unfold Cb at h
        refine Ad (Ad (Aa Ae rfl (qm rfl (qf Bt rfl (ql EP rfl (qm rfl ?_))))))
        obtain ⟨v16, a16, b16, h⟩ := Ai h
        refine qi Cw Dc a16 (Ag b16) rfl (qg Dz rfl (qk EO rfl (AM Cn rfl (AX rfl (Af ?_)))))
        refine Aq rfl (fun c17 => ?_) (fun c17 => ?_)
        ·have h := Ao c17 h
         refine As (Ad (AJ (Ad (Aa Ae rfl (qf Bt rfl (ql EP rfl (qm rfl ?_)))))))
         obtain ⟨v18, a18, b18, h⟩ := Ai h
         refine qi Cw Dc a18 (Ag b18) rfl (qg Dz rfl (qk EO rfl (qm rfl ?_)))
         obtain ⟨v19, a19, b19, h⟩ := Ai h
         refine qi Cn F7 a19 (Ag b19) rfl (qk Il rfl (AM DV rfl (Ea rfl (Af ?_))))
         refine Aq rfl (fun c20 => ?_) (fun c20 => ?_)
         ·have h := Ao c20 h
          refine Ad (Aa Ae rfl (qa rfl (Af ?_)))
          obtain rfl := sj h
          refine Al (sm [] [(2, bD false)] [] rfl rfl) (Ay ?_)
          exact ⟨⟨[_], ⟨.tmp _ _ rfl, tv⟩, rfl⟩, tv⟩
         ·have h := An c20 h
          refine As (Aa Ae rfl (qm rfl (AO rfl (qa rfl (Af ?_)))))
          exact Au _ h (sm [] _ _ rfl rfl)
        ·have h := An c17 h
         refine AP ?_
         exact Au _ h (sm [] _ _ rfl rfl)
       ·refine Al hs (Ad (Aa Ae rfl (qa rfl (Af ?_))))
        refine AB (L := Cc N p0 v6) h (fun v21 => mk [(1, oD (.ptr 1 0)), (3, iD v6), (5, iD v21)] [(1, .box [sC (p0.fb.map Aj), sC (p0.fc.map Aj), sC (p0.fd.map Aj), sC (p0.fa.map Ak)])]) (fun v22 => mk [(1, oD (.ptr 1 0)), (3, iD v6)] [(1, .box [sC (p0.fb.map Aj), sC (p0.fc.map Aj), sC (p0.fd.map Aj), sC (p0.fa.map Ak)])]) (fun _ _ => rfl) (sm [] _ _ rfl rfl) (fun j21 n21 v21 h => ?_) (fun v22 s h hs => ?_)
        ·unfold Cc at h
         refine Ad (Ad (Aa Ae rfl (qm rfl (qf Bt rfl (ql EP rfl (qm rfl ?_))))))
         obtain ⟨v23, a23, b23, h⟩ := Ai h
         refine qi Cw Dc a23 (Ag b23) rfl (qg Dp rfl (qk EO rfl (AM Cn rfl (AX rfl (Af ?_)))))
         refine Aq rfl (fun c24 => ?_) (fun c24 => ?_)
         ·have h := Ao c24 h
          refine As (Ad (AJ (Ad (Aa Ae rfl (qf Bt rfl (ql EP rfl (qm rfl ?_)))))))
          obtain ⟨v25, a25, b25, h⟩ := Ai h
          refine qi Cw Dc a25 (Ag b25) rfl (qg Dp rfl (qk EO rfl (qm rfl ?_)))
          obtain ⟨v26, a26, b26, h⟩ := Ai h
          refine qi Cn F7 a26 (Ag b26) rfl (qk Il rfl (AM DV rfl (Ea rfl (Af ?_))))
          refine Aq rfl (fun c27 => ?_) (fun c27 => ?_)
          ·have h := Ao c27 h
           refine Ad (Aa Ae rfl (qa rfl (Af ?_)))
           obtain rfl := sj h
           refine Al (sm [] [(2, bD false)] [] rfl rfl) (Ay ?_)
           exact ⟨⟨[_], ⟨.tmp _ _ rfl, tv⟩, rfl⟩, tv⟩
          ·have h := An c27 h
           refine As (Aa Ae rfl (qm rfl (AO rfl (qa rfl (Af ?_)))))
           exact Au _ h (sm [] _ _ rfl rfl)
         ·have h := An c24 h
          refine AP ?_
          exact Au _ h (sm [] _ _ rfl rfl)
        ·refine Al hs (Aa Ae rfl (qm rfl (AO rfl (qa rfl (Af ?_)))))
         exact Au _ h (sm [] _ _ rfl rfl)
    ·have h := An c8 h
     refine AP ?_
     exact Au _ h (sm [] _ _ rfl rfl)
   ·refine Al hs (Ad (Aa Ae rfl (qa rfl (Af ?_))))
    obtain rfl := sj h
    refine Al (sm [] [(2, bD true)] [] rfl rfl) (Ay ?_)
    exact ⟨⟨[_], ⟨.tmp _ _ rfl, tv⟩, rfl⟩, tv⟩
theorem Ml (N : Nat) (p0 : Ah) (p1 : List Ab) (r : Ah × Int) (h : Ff N p0 p1 = some r) : Az Tryz.prog 20 [.e (.agg [sC (p0.fb.map Aj), sC (p0.fc.map Aj), sC (p0.fd.map Aj), sC (p0.fa.map Ak)]), pD (.sl (p1.map Ac))] [(1, r.1.fb.map Aj), (1, r.1.fc.map Aj), (1, r.1.fd.map Aj)] (.tup [.agg [.own 0, .own 1, .own 2, sC (r.1.fa.map Ak)], .one (iC r.2)]) := by
 unfold Ff at h
 refine Ar (n := 17) (rs := [.cell 4 29, .tmp 5]) Tryz.func20 rfl rfl rfl (AY rfl) (AY rfl) rfl fun w0 S0 => ?_
 refine Ad (Aa Ae rfl (qb rfl (qz IQ rfl (qa rfl (Af (Ad (Ad (Aa Ae rfl (qL C9 Ck rfl (qm rfl ?_))))))))))
 obtain ⟨v1, a1, h⟩ := bind_some h
 refine AG [] (Ji N p0 p1 v1 a1) T5 rfl (qa rfl (Af (Ad (Aa Ae rfl (qm rfl (Cl rfl (Af ?_)))))))
 refine Aq rfl (fun c2 => ?_) (fun c2 => ?_)
 ·have h := Ao c2 h
  refine Ad (Aa Ae rfl (Cu IQ ON rfl (qm rfl (qs Ck rfl (qa rfl (Af ?_))))))
  obtain rfl := sj h
  refine Al ((AW 4 0 2001 1 _ rfl rfl rfl rfl).trans ((AW 4 1 2002 1 _ rfl rfl rfl rfl).trans ((AW 4 2 2003 1 _ rfl rfl rfl rfl).trans ((Ix 4 _ rfl).trans (sm [(1000, 2001), (1001, 2002), (1002, 2003)] [(4, oD (.ptr 4 0)), (5, iD v1)] [(4, .box [.own 1000, .own 1001, .own 1002, sC ((([] : List Av)).map Ak)]), (1000, .vec 1 ((([] : List Int)).map Aj)), (1001, .vec 1 ((([] : List Int)).map Aj)), (1002, .vec 1 ((([] : List Int)).map Aj))] rfl rfl))))) (Ay ?_)
  exact ⟨⟨[_, _], ⟨.cellN _ _ _ _ _ _ _ rfl rfl C9 Ck rfl rfl (Kt rfl), ⟨.tmp _ _ rfl, tv⟩⟩, rfl⟩, ⟨rfl, rfl, rfl, tv⟩⟩
 ·have h := An c2 h
  refine As (Ad (Aa Ae rfl (qL C9 Ck rfl (qm rfl ?_))))
  obtain ⟨v3, a3, h⟩ := bind_some h
  refine AG [2004, 2005, 2006] (JI N p0 p1 v3 a3) T1 rfl (qs Ck rfl (qa rfl (Af ?_)))
  obtain rfl := sj h
  refine Al (sm [(1000, 2004), (1001, 2005), (1002, 2006)] [(4, oD (.ptr 4 0)), (5, iD 0)] [(4, .box [.own 1000, .own 1001, .own 1002, sC (v3.fa.map Ak)]), (1000, .vec 1 (v3.fb.map Aj)), (1001, .vec 1 (v3.fc.map Aj)), (1002, .vec 1 (v3.fd.map Aj))] rfl rfl) (Ay ?_)
  exact ⟨⟨[_, _], ⟨.cellN _ _ _ _ _ _ _ rfl rfl C9 Ck rfl rfl (Kt rfl), ⟨.tmp _ _ rfl, tv⟩⟩, rfl⟩, ⟨rfl, rfl, rfl, tv⟩⟩
theorem Jx (N : Nat) (p0 : Av) (r : Bool) (h : DR N p0 = some r) : Az Tryz.prog 57 [.e (.agg [iC p0.fe, iC p0.fh, iC p0.fm, .pure (.val (.bool p0.fo)), sC (p0.fj.map (CL eB)), sC (p0.fk.map (CL eB))])] [] (bD r) := by
 unfold DR at h
 refine Ar (n := 11) (rs := [.tmp 2]) Tryz.func57 rfl rfl rfl (AY rfl) (AY rfl) rfl fun w0 S0 => ?_
 refine Ad (Aa Ae rfl (qb rfl (qa rfl (Af ?_))))
 refine AS h (fun v1 => mk [(2, bD v1)] []) (fun j1 h => ?_) (fun v1 h => ?_)
 ·refine Aa Ae rfl (qf Fr rfl (ql DA rfl (CR rfl (qm rfl ?_))))
  refine AH (t := 6) rfl (fun c2 => ?_) (fun c2 => ?_)
  ·have h := Ao c2 h
   refine qn rfl (qn rfl (qn rfl (qp rfl (qa rfl (Af ?_)))))
   exact Au _ h (sm [] _ _ rfl rfl)
  ·have h := An c2 h
   refine qf Fr rfl (ql DA rfl (CR rfl (qp rfl (qa rfl (Af ?_)))))
   exact Au _ h (sm [] _ _ rfl rfl)
 ·obtain rfl := sj h
  refine Al (sm [] [(2, bD v1)] [] rfl rfl) (Ay ?_)
  exact ⟨⟨[_], ⟨.tmp _ _ rfl, tv⟩, rfl⟩, tv⟩
theorem Ho (N : Nat) (p0 : List (List Bool)) (p1 : Int) (p2 : Int) (r : Bool) (h : Dl N p0 p1 p2 = some r) : Az Tryz.prog 83 [pD (.sl (p0.map (CL eB))), iD p1, iD p2] [] (bD r) := by
 unfold Dl at h
 refine Ar (n := 24) (rs := [.tmp 6]) Tryz.func83 rfl rfl rfl (AY rfl) (AY rfl) rfl fun w0 S0 => ?_
 refine Ad (Aa Ae rfl (qa rfl (Af (Ad (Ad (Aa Ae rfl (qm rfl (AM Cn rfl (qm rfl (Cl rfl (Af ?_)))))))))))
 refine Aq rfl (fun c1 => ?_) (fun c1 => ?_)
 ·have h := Ao c1 h
  refine Ad (Aa Ae rfl (qa rfl (Af ?_)))
  obtain rfl := sj h
  refine Al (sm [] [(6, bD false)] [] rfl rfl) (Ay ?_)
  exact ⟨⟨[_], ⟨.tmp _ _ rfl, tv⟩, rfl⟩, tv⟩
 ·have h := An c1 h
  refine As (Ad (Ad (Aa Ae rfl (qa rfl (Af ?_)))))
  refine AB (L := Cf N p0 p1 p2) h (fun v2 => mk [(0, pD (.sl (p0.map (CL eB)))), (1, iD p1), (2, iD p2), (7, iD v2)] []) (fun v3 => mk [] []) (fun _ _ => rfl) (sm [] _ _ rfl rfl) (fun j2 n2 v2 h => ?_) (fun v3 s h hs => ?_)
  ·unfold Cf at h
   refine Ad (Ad (Aa Ae rfl (qm rfl (qm rfl (AX rfl (Af ?_))))))
   refine Aq rfl (fun c4 => ?_) (fun c4 => ?_)
   ·have h := Ao c4 h
    refine As (Ad (AJ (Ad (Aa Ae rfl (qm rfl (qm rfl ?_))))))
    obtain ⟨v5, a5, b5, h⟩ := Ai h
    refine qi Cn F7 a5 (Ag b5) rfl (qk Il rfl (AM DV rfl (qm rfl (Cl rfl (Af ?_)))))
    refine Aq rfl (fun c6 => ?_) (fun c6 => ?_)
    ·have h := Ao c6 h
     refine Ad (Aa Ae rfl (qa rfl (Af ?_)))
     obtain rfl := sj h
     refine Al (sm [] [(6, bD false)] [] rfl rfl) (Ay ?_)
     exact ⟨⟨[_], ⟨.tmp _ _ rfl, tv⟩, rfl⟩, tv⟩
    ·have h := An c6 h
     refine As (Aa Ae rfl (qm rfl (AO rfl (qa rfl (Af ?_)))))
     exact Au _ h (sm [] _ _ rfl rfl)
   ·have h := An c4 h
    refine AP ?_
    exact Au _ h (sm [] _ _ rfl rfl)
  ·refine Al hs (Ad (Aa Ae rfl (qa rfl (Af ?_))))
   obtain rfl := sj h
   refine Al (sm [] [(6, bD true)] [] rfl rfl) (Ay ?_)
   exact ⟨⟨[_], ⟨.tmp _ _ rfl, tv⟩, rfl⟩, tv⟩
theorem J1 (N : Nat) (p0 : Ah) (p1 : Av) (r : Int) (h : DY N p0 p1 = some r) : Az Tryz.prog 55 [.e (.agg [sC (p0.fb.map Aj), sC (p0.fc.map Aj), sC (p0.fd.map Aj), sC (p0.fa.map Ak)]), .e (.agg [iC p1.fe, iC p1.fh, iC p1.fm, .pure (.val (.bool p1.fo)), sC (p1.fj.map (CL eB)), sC (p1.fk.map (CL eB))])] [] (iD r) := by
 unfold DY at h
 refine Ar (n := 101) (rs := [.tmp 4]) Tryz.func55 rfl rfl rfl (AY rfl) (AY rfl) rfl fun w0 S0 => ?_
 refine Ad (Aa Ae rfl (qb rfl (qb rfl (qa rfl (Af (Ad ?_))))))
 refine AS h (fun v1 => mk [(2, oD (.ptr 2 0)), (3, oD (.ptr 3 0)), (22, bD v1)] [(2, .box [sC (p0.fb.map Aj), sC (p0.fc.map Aj), sC (p0.fd.map Aj), sC (p0.fa.map Ak)]), (3, .box [iC p1.fe, iC p1.fh, iC p1.fm, .pure (.val (.bool p1.fo)), sC (p1.fj.map (CL eB)), sC (p1.fk.map (CL eB))])]) (fun j1 h => ?_) (fun v1 h => ?_)
 ·refine Aa Ae rfl (qf Fr rfl (ql DA rfl (AX rfl (qm rfl ?_))))
  refine AH (t := 10) rfl (fun c2 => ?_) (fun c2 => ?_)
  ·have h := Ao c2 h
   refine qn rfl (qn rfl (qn rfl (qp rfl (qm rfl (qn rfl (qn rfl (qn rfl (qu rfl (qu rfl (qn rfl (qp rfl (Af ?_))))))))))))
   exact Au _ h (sm [] _ _ rfl rfl)
  ·have h := An c2 h
   refine qf Fr rfl (ql DA rfl (Ea rfl (qp rfl (qm rfl ?_))))
   refine AH (t := 15) rfl (fun c3 => ?_) (fun c3 => ?_)
   ·have h := Ao c3 h
    refine qn rfl (qn rfl (qn rfl (qu rfl (qu rfl (qn rfl (qp rfl (Af ?_)))))))
    exact Au _ h (sm [] _ _ rfl rfl)
   ·have h := An c3 h
    refine qf JU rfl (ql Pv rfl (qm rfl ?_))
    refine AH (t := 18) rfl (fun c4 => ?_) (fun c4 => ?_)
    ·have h := Ao c4 h
     refine qL Hw Dc rfl ?_
     obtain ⟨v5, a5, h⟩ := bind_some h
     refine AG [] (Jx N p1 v5 a5) VK rfl (qp rfl (qp rfl (Af ?_)))
     exact Au _ h (sm [] _ _ rfl rfl)
    ·have h := An c4 h
     refine qn rfl (qn rfl (qp rfl (qp rfl (Af ?_))))
     exact Au _ h (sm [] _ _ rfl rfl)
 ·refine Aq rfl (fun c6 => ?_) (fun c6 => ?_)
  ·have h := Ao c6 h
   refine Ad (Aa Ae rfl (qa rfl (Af ?_)))
   obtain rfl := sj h
   refine Al (sm [] [(4, iD 1)] [] rfl rfl) (Ay ?_)
   exact ⟨⟨[_], ⟨.tmp _ _ rfl, tv⟩, rfl⟩, tv⟩
  ·have h := An c6 h
   refine As (Ad (Aa Ae rfl (qf CT rfl (ql Ch rfl (AM AQ rfl (qa rfl (Af (Ad ?_))))))))
   refine AS h (fun v7 => mk [(2, oD (.ptr 2 0)), (3, oD (.ptr 3 0)), (45, bD v7)] [(2, .box [sC (p0.fb.map Aj), sC (p0.fc.map Aj), sC (p0.fd.map Aj), sC (p0.fa.map Ak)]), (3, .box [iC p1.fe, iC p1.fh, iC p1.fm, .pure (.val (.bool p1.fo)), sC (p1.fj.map (CL eB)), sC (p1.fk.map (CL eB))])]) (fun j7 h => ?_) (fun v7 h => ?_)
   ·refine Aa Ae rfl (qf ES rfl (ql DA rfl (AX rfl (qm rfl ?_))))
    refine AH (t := 29) rfl (fun c8 => ?_) (fun c8 => ?_)
    ·have h := Ao c8 h
     refine qn rfl (qn rfl (qn rfl (qn rfl (qp rfl (qm rfl (qn rfl (qn rfl (qn rfl (qp rfl (qm rfl (qn rfl (qn rfl (qn rfl (qn rfl (qp rfl (Af ?_))))))))))))))))
     exact Au _ h (sm [] _ _ rfl rfl)
    ·have h := An c8 h
     refine qf ES rfl (ql DA rfl (qm rfl (D4 rfl (qp rfl (qm rfl ?_)))))
     refine AH (t := 35) rfl (fun c9 => ?_) (fun c9 => ?_)
     ·have h := Ao c9 h
      refine qn rfl (qn rfl (qn rfl (qp rfl (qm rfl (qn rfl (qn rfl (qn rfl (qn rfl (qp rfl (Af ?_))))))))))
      exact Au _ h (sm [] _ _ rfl rfl)
     ·have h := An c9 h
      refine qf H9 rfl (ql DA rfl (AX rfl (qp rfl (qm rfl ?_))))
      refine AH (t := 40) rfl (fun c10 => ?_) (fun c10 => ?_)
      ·have h := Ao c10 h
       refine qn rfl (qn rfl (qn rfl (qn rfl (qp rfl (Af ?_)))))
       exact Au _ h (sm [] _ _ rfl rfl)
      ·have h := An c10 h
       refine qf H9 rfl (ql DA rfl (qm rfl (D4 rfl (qp rfl (Af ?_)))))
       exact Au _ h (sm [] _ _ rfl rfl)
   ·refine Aq rfl (fun c11 => ?_) (fun c11 => ?_)
    ·have h := Ao c11 h
     refine Ad (Aa Ae rfl (qa rfl (Af ?_)))
     obtain rfl := sj h
     refine Al (sm [] [(4, iD 4)] [] rfl rfl) (Ay ?_)
     exact ⟨⟨[_], ⟨.tmp _ _ rfl, tv⟩, rfl⟩, tv⟩
    ·have h := An c11 h
     refine As (Ad (Ad (Aa Ae rfl (qf Dz rfl (ql EO rfl (qf CT rfl (ql Ch rfl (qf ES rfl (ql DA rfl ?_)))))))))
     obtain ⟨v12, a12, b12, h⟩ := Ai h
     refine qi AQ Fh a12 (Ag b12) rfl (qk DA rfl (qf CT rfl (ql Ch rfl (qf H9 rfl (ql DA rfl ?_)))))
     obtain ⟨v13, a13, b13, h⟩ := Ai h
     refine qi AQ Fh a13 (Ag b13) rfl (qk DA rfl ?_)
     obtain ⟨v14, a14, h⟩ := bind_some h
     refine AG [] (Ho N p1.fj v12 v13 v14 a14) UJ rfl (CB rfl (AL (by kernel_rfl) ?_))
     refine Aq rfl (fun c15 => ?_) (fun c15 => ?_)
     ·have h := Ao c15 h
      refine Ad (Aa Ae rfl (qa rfl (Af ?_)))
      obtain rfl := sj h
      refine Al (sm [] [(4, iD 6)] [] rfl rfl) (Ay ?_)
      exact ⟨⟨[_], ⟨.tmp _ _ rfl, tv⟩, rfl⟩, tv⟩
     ·have h := An c15 h
      refine As (Ad (Ad (Aa Ae rfl (qf Fr rfl (ql DA rfl (Cl rfl (Af ?_)))))))
      refine Aq rfl (fun c16 => ?_) (fun c16 => ?_)
      ·have h := Ao c16 h
       refine Ad (Ad (Aa Ae rfl (qf Dp rfl (ql EO rfl (AM Cn rfl (Cl rfl (Af ?_)))))))
       refine Aq rfl (fun c17 => ?_) (fun c17 => ?_)
       ·have h := Ao c17 h
        refine Ad (Aa Ae rfl (qa rfl (Af ?_)))
        obtain rfl := sj h
        refine Al (sm [] [(4, iD 6)] [] rfl rfl) (Ay ?_)
        exact ⟨⟨[_], ⟨.tmp _ _ rfl, tv⟩, rfl⟩, tv⟩
       ·have h := An c17 h
        refine As (Ad (Aa Ae rfl (qa rfl (Af ?_))))
        obtain rfl := sj h
        refine Al (sm [] [(4, iD 0)] [] rfl rfl) (Ay ?_)
        exact ⟨⟨[_], ⟨.tmp _ _ rfl, tv⟩, rfl⟩, tv⟩
      ·have h := An c16 h
       refine As (Ad (Ad (Aa Ae rfl (qf Dp rfl (ql EO rfl (qf CT rfl (ql Ch rfl (qf ES rfl (ql DA rfl ?_)))))))))
       obtain ⟨v18, a18, b18, h⟩ := Ai h
       refine qi AQ Fh a18 (Ag b18) rfl (qk DA rfl (qf CT rfl (ql Ch rfl (qf ES rfl (ql DA rfl ?_)))))
       obtain ⟨v19, a19, b19, h⟩ := Ai h
       refine qi AQ Fh a19 (Ag b19) rfl (qk DA rfl ?_)
       obtain ⟨v20, a20, h⟩ := bind_some h
       refine AG [] (Ho N p1.fk v18 v19 v20 a20) UJ rfl (CB rfl (AL (by kernel_rfl) ?_))
       refine Aq rfl (fun c21 => ?_) (fun c21 => ?_)
       ·have h := Ao c21 h
        refine Ad (Aa Ae rfl (qa rfl (Af ?_)))
        obtain rfl := sj h
        refine Al (sm [] [(4, iD 6)] [] rfl rfl) (Ay ?_)
        exact ⟨⟨[_], ⟨.tmp _ _ rfl, tv⟩, rfl⟩, tv⟩
       ·have h := An c21 h
        refine As (Ad (Ad (Aa Ae rfl (qa rfl (Af ?_)))))
        refine AB (L := BU N p1) h (fun v22 => mk [(3, oD (.ptr 3 0)), (6, iD v22)] [(3, .box [iC p1.fe, iC p1.fh, iC p1.fm, .pure (.val (.bool p1.fo)), sC (p1.fj.map (CL eB)), sC (p1.fk.map (CL eB))])]) (fun v23 => mk [] []) (fun _ _ => rfl) (sm [] _ _ rfl rfl) (fun j22 n22 v22 h => ?_) (fun v23 s h hs => ?_)
        ·unfold BU at h
         refine Ad (Ad (Aa Ae rfl (qm rfl (qf Dp rfl (ql EO rfl (AM Cn rfl (AX rfl (Af ?_))))))))
         refine Aq rfl (fun c24 => ?_) (fun c24 => ?_)
         ·have h := Ao c24 h
          refine As (Ad (AJ (Ad (Aa Ae rfl (qf Dp rfl (ql EO rfl (qm rfl ?_)))))))
          obtain ⟨v25, a25, b25, h⟩ := Ai h
          refine qi Cn F7 a25 (Ag b25) rfl (qk Il rfl (qm rfl ?_))
          obtain ⟨v26, a26, b26, h⟩ := Ai h
          refine qi DV L1 a26 (Ag b26) rfl (qk Pv rfl (CB rfl (Af ?_)))
          refine Aq rfl (fun c27 => ?_) (fun c27 => ?_)
          ·have h := Ao c27 h
           refine Ad (Aa Ae rfl (qa rfl (Af ?_)))
           obtain rfl := sj h
           refine Al (sm [] [(4, iD 1)] [] rfl rfl) (Ay ?_)
           exact ⟨⟨[_], ⟨.tmp _ _ rfl, tv⟩, rfl⟩, tv⟩
          ·have h := An c27 h
           refine As (Aa Ae rfl (qm rfl (AO rfl (qa rfl (Af ?_)))))
           exact Au _ h (sm [] _ _ rfl rfl)
         ·have h := An c24 h
          refine AP ?_
          exact Au _ h (sm [] _ _ rfl rfl)
        ·refine Al hs (Ad (Aa Ae rfl (qa rfl (Af ?_))))
         obtain rfl := sj h
         refine Al (sm [] [(4, iD 0)] [] rfl rfl) (Ay ?_)
         exact ⟨⟨[_], ⟨.tmp _ _ rfl, tv⟩, rfl⟩, tv⟩
theorem FH (N : Nat) (p0 : Ah) (r : Int) (h : Cj N p0 = some r) : Az Tryz.prog 31 [.e (.agg [sC (p0.fb.map Aj), sC (p0.fc.map Aj), sC (p0.fd.map Aj), sC (p0.fa.map Ak)])] [] (iD r) := by
 unfold Cj at h
 refine Ar (n := 102) (rs := [.tmp 2]) Tryz.func31 rfl rfl rfl (AY rfl) (AY rfl) rfl fun w0 S0 => ?_
 refine Ad (Aa Ae rfl (qb rfl (qa rfl (Af (Ad ?_)))))
 refine AS h (fun v1 => mk [(1, oD (.ptr 1 0)), (16, bD v1)] [(1, .box [sC (p0.fb.map Aj), sC (p0.fc.map Aj), sC (p0.fd.map Aj), sC (p0.fa.map Ak)])]) (fun j1 h => ?_) (fun v1 h => ?_)
 ·refine Aa Ae rfl (qf CT rfl (ql Ch rfl (AM AQ rfl (Ea rfl (qm rfl ?_)))))
  refine AH (t := 11) rfl (fun c2 => ?_) (fun c2 => ?_)
  ·have h := Ao c2 h
   refine qn rfl (qn rfl (qn rfl (qn rfl (qp rfl (Af ?_)))))
   exact Au _ h (sm [] _ _ rfl rfl)
  ·have h := An c2 h
   refine qf Bt rfl (ql EP rfl (AM Cw rfl (Ea rfl (qp rfl (Af ?_)))))
   exact Au _ h (sm [] _ _ rfl rfl)
 ·refine Aq rfl (fun c3 => ?_) (fun c3 => ?_)
  ·have h := Ao c3 h
   refine Ad (Aa Ae rfl (qa rfl (Af ?_)))
   obtain rfl := sj h
   refine Al (sm [] [(2, iD 3)] [] rfl rfl) (Ay ?_)
   exact ⟨⟨[_], ⟨.tmp _ _ rfl, tv⟩, rfl⟩, tv⟩
  ·have h := An c3 h
   refine As (Ad ?_)
   refine AS h (fun v4 => mk [(1, oD (.ptr 1 0)), (32, bD v4)] [(1, .box [sC (p0.fb.map Aj), sC (p0.fc.map Aj), sC (p0.fd.map Aj), sC (p0.fa.map Ak)])]) (fun j4 h => ?_) (fun v4 h => ?_)
   ·refine Aa Ae rfl (qf FT rfl (ql Ch rfl (AM AQ rfl (qf CT rfl (ql Ch rfl (AM AQ rfl (Cl rfl (qm rfl ?_))))))))
    refine AH (t := 24) rfl (fun c5 => ?_) (fun c5 => ?_)
    ·have h := Ao c5 h
     refine qn rfl (qn rfl (qn rfl (qn rfl (qn rfl (qn rfl (qn rfl (qp rfl (Af ?_))))))))
     exact Au _ h (sm [] _ _ rfl rfl)
    ·have h := An c5 h
     refine qf G1 rfl (ql Ch rfl (AM AQ rfl (qf CT rfl (ql Ch rfl (AM AQ rfl (Cl rfl (qp rfl (Af ?_))))))))
     exact Au _ h (sm [] _ _ rfl rfl)
   ·refine Aq rfl (fun c6 => ?_) (fun c6 => ?_)
    ·have h := Ao c6 h
     refine Ad (Aa Ae rfl (qa rfl (Af ?_)))
     obtain rfl := sj h
     refine Al (sm [] [(2, iD 6)] [] rfl rfl) (Ay ?_)
     exact ⟨⟨[_], ⟨.tmp _ _ rfl, tv⟩, rfl⟩, tv⟩
    ·have h := An c6 h
     refine As (Ad (Ad (Aa Ae rfl (qa rfl (Af ?_)))))
     refine AB (L := Bi N p0) h (fun v7 => mk [(1, oD (.ptr 1 0)), (3, iD v7)] [(1, .box [sC (p0.fb.map Aj), sC (p0.fc.map Aj), sC (p0.fd.map Aj), sC (p0.fa.map Ak)])]) (fun v8 => mk [(1, oD (.ptr 1 0))] [(1, .box [sC (p0.fb.map Aj), sC (p0.fc.map Aj), sC (p0.fd.map Aj), sC (p0.fa.map Ak)])]) (fun _ _ => rfl) (sm [] _ _ rfl rfl) (fun j7 n7 v7 h => ?_) (fun v8 s h hs => ?_)
     ·unfold Bi at h
      refine Ad (Ad (Aa Ae rfl (qm rfl (qf CT rfl (ql Ch rfl (AM AQ rfl (AX rfl (Af ?_))))))))
      refine Aq rfl (fun c9 => ?_) (fun c9 => ?_)
      ·have h := Ao c9 h
       refine As (Ad (AJ (Ad (Aa Ae rfl (qf CT rfl (ql Ch rfl (qm rfl ?_)))))))
       obtain ⟨v10, a10, b10, h⟩ := Ai h
       refine qi AQ Fh a10 (Ag b10) rfl (qk DA rfl (qa rfl (Af ?_)))
       refine AS h (fun v11 => mk [(1, oD (.ptr 1 0)), (3, iD v7), (84, bD v11)] [(1, .box [sC (p0.fb.map Aj), sC (p0.fc.map Aj), sC (p0.fd.map Aj), sC (p0.fa.map Ak)])]) (fun j11 h => ?_) (fun v11 h => ?_)
       ·refine Aa Ae rfl (qm rfl (AX rfl (qm rfl ?_)))
        refine AH (t := 47) rfl (fun c12 => ?_) (fun c12 => ?_)
        ·have h := Ao c12 h
         refine qn rfl (qn rfl (qp rfl (qm rfl (qn rfl (qn rfl (qn rfl (qn rfl (qn rfl (qn rfl (qp rfl (qm rfl (qn rfl (qn rfl (qn rfl (qn rfl (qn rfl (qn rfl (qn rfl (qp rfl (qm rfl (qn rfl (qn rfl (qn rfl (qn rfl (qn rfl (qn rfl (qp rfl (qm rfl (qn rfl (qn rfl (qn rfl (qn rfl (qn rfl (qn rfl (qn rfl (qp rfl (Af ?_)))))))))))))))))))))))))))))))))))))
         exact Au _ h (sm [] _ _ rfl rfl)
        ·have h := An c12 h
         refine qm rfl (Ea rfl (qp rfl (qm rfl ?_)))
         refine AH (t := 51) rfl (fun c13 => ?_) (fun c13 => ?_)
         ·have h := Ao c13 h
          refine qn rfl (qn rfl (qn rfl (qn rfl (qn rfl (qn rfl (qp rfl (qm rfl (qn rfl (qn rfl (qn rfl (qn rfl (qn rfl (qn rfl (qn rfl (qp rfl (qm rfl (qn rfl (qn rfl (qn rfl (qn rfl (qn rfl (qn rfl (qp rfl (qm rfl (qn rfl (qn rfl (qn rfl (qn rfl (qn rfl (qn rfl (qn rfl (qp rfl (Af ?_)))))))))))))))))))))))))))))))))
          exact Au _ h (sm [] _ _ rfl rfl)
         ·have h := An c13 h
          refine qf FT rfl (ql Ch rfl (qm rfl ?_))
          obtain ⟨v14, a14, b14, h⟩ := Ai h
          refine qi AQ Fh a14 (Ag b14) rfl (qk DA rfl (AX rfl (qp rfl (qm rfl ?_))))
          refine AH (t := 59) rfl (fun c15 => ?_) (fun c15 => ?_)
          ·have h := Ao c15 h
           refine qn rfl (qn rfl (qn rfl (qn rfl (qn rfl (qn rfl (qn rfl (qp rfl (qm rfl (qn rfl (qn rfl (qn rfl (qn rfl (qn rfl (qn rfl (qp rfl (qm rfl (qn rfl (qn rfl (qn rfl (qn rfl (qn rfl (qn rfl (qn rfl (qp rfl (Af ?_)))))))))))))))))))))))))
           exact Au _ h (sm [] _ _ rfl rfl)
          ·have h := An c15 h
           refine qf FT rfl (ql Ch rfl (qm rfl ?_))
           obtain ⟨v16, a16, b16, h⟩ := Ai h
           refine qi AQ Fh a16 (Ag b16) rfl (qk DA rfl (qm rfl (D4 rfl (qp rfl (qm rfl ?_)))))
           refine AH (t := 68) rfl (fun c17 => ?_) (fun c17 => ?_)
           ·have h := Ao c17 h
            refine qn rfl (qn rfl (qn rfl (qn rfl (qn rfl (qn rfl (qp rfl (qm rfl (qn rfl (qn rfl (qn rfl (qn rfl (qn rfl (qn rfl (qn rfl (qp rfl (Af ?_))))))))))))))))
            exact Au _ h (sm [] _ _ rfl rfl)
           ·have h := An c17 h
            refine qf G1 rfl (ql Ch rfl (qm rfl ?_))
            obtain ⟨v18, a18, b18, h⟩ := Ai h
            refine qi AQ Fh a18 (Ag b18) rfl (qk DA rfl (AX rfl (qp rfl (qm rfl ?_))))
            refine AH (t := 76) rfl (fun c19 => ?_) (fun c19 => ?_)
            ·have h := Ao c19 h
             refine qn rfl (qn rfl (qn rfl (qn rfl (qn rfl (qn rfl (qn rfl (qp rfl (Af ?_))))))))
             exact Au _ h (sm [] _ _ rfl rfl)
            ·have h := An c19 h
             refine qf G1 rfl (ql Ch rfl (qm rfl ?_))
             obtain ⟨v20, a20, b20, h⟩ := Ai h
             refine qi AQ Fh a20 (Ag b20) rfl (qk DA rfl (qm rfl (D4 rfl (qp rfl (Af ?_)))))
             exact Au _ h (sm [] _ _ rfl rfl)
       ·refine Aq rfl (fun c21 => ?_) (fun c21 => ?_)
        ·have h := Ao c21 h
         refine Ad (Aa Ae rfl (qa rfl (Af ?_)))
         obtain rfl := sj h
         refine Al (sm [] [(2, iD 7)] [] rfl rfl) (Ay ?_)
         exact ⟨⟨[_], ⟨.tmp _ _ rfl, tv⟩, rfl⟩, tv⟩
        ·have h := An c21 h
         refine As (Aa Ae rfl (qm rfl (AO rfl (qa rfl (Af ?_)))))
         exact Au _ h (sm [] _ _ rfl rfl)
      ·have h := An c9 h
       refine AP ?_
       exact Au _ h (sm [] _ _ rfl rfl)
     ·refine Al hs (Ad (Ad (Aa Ae rfl (qa rfl (Af ?_)))))
      refine AB (L := A9 N p0) h (fun v22 => mk [(1, oD (.ptr 1 0)), (5, iD v22)] [(1, .box [sC (p0.fb.map Aj), sC (p0.fc.map Aj), sC (p0.fd.map Aj), sC (p0.fa.map Ak)])]) (fun v23 => mk [] []) (fun _ _ => rfl) (sm [] _ _ rfl rfl) (fun j22 n22 v22 h => ?_) (fun v23 s h hs => ?_)
      ·unfold A9 at h
       refine Ad (Ad (Aa Ae rfl (qm rfl (qf Bt rfl (ql EP rfl (AM Cw rfl (AX rfl (Af ?_))))))))
       refine Aq rfl (fun c24 => ?_) (fun c24 => ?_)
       ·have h := Ao c24 h
        refine As (Ad (AJ (Ad (Aa Ae rfl (qL C9 Ck rfl (qf Bt rfl (ql EP rfl (qm rfl ?_))))))))
        obtain ⟨v25, a25, b25, h⟩ := Ai h
        refine qi Cw Dc a25 (Ag b25) rfl (qK Hw Dc rfl ?_)
        obtain ⟨v26, a26, h⟩ := bind_some h
        refine AG [] (J1 N p0 v25 v26 a26) Vp rfl (qa rfl (AL (by kernel_rfl) (Ad (Aa Ae rfl (qm rfl (Cl rfl (Af ?_)))))))
        refine Aq rfl (fun c27 => ?_) (fun c27 => ?_)
        ·have h := Ao c27 h
         refine Ad (Aa Ae rfl (qm rfl (qa rfl (Af ?_))))
         obtain rfl := sj h
         refine Al (sm [] [(2, iD v26)] [] rfl rfl) (Ay ?_)
         exact ⟨⟨[_], ⟨.tmp _ _ rfl, tv⟩, rfl⟩, tv⟩
        ·have h := An c27 h
         refine As (Aa Ae rfl (qm rfl (AO rfl (qa rfl (Af ?_)))))
         exact Au _ h (sm [] _ _ rfl rfl)
       ·have h := An c24 h
        refine AP ?_
        exact Au _ h (sm [] _ _ rfl rfl)
      ·refine Al hs (Ad (Aa Ae rfl (qa rfl (Af ?_))))
       obtain rfl := sj h
       refine Al (sm [] [(2, iD 0)] [] rfl rfl) (Ay ?_)
       exact ⟨⟨[_], ⟨.tmp _ _ rfl, tv⟩, rfl⟩, tv⟩
theorem Ha (N : Nat) (p0 : Ah) (r : (List Ab)) (h : C4 N p0 = some r) : Az Tryz.prog 44 [.e (.agg [sC (p0.fb.map Aj), sC (p0.fc.map Aj), sC (p0.fd.map Aj), sC (p0.fa.map Ak)])] [(3, r.map Ac)] (oD (.own 0)) := by
 unfold C4 at h
 refine Ar (n := 60) (rs := [.tmp 2]) Tryz.func44 rfl rfl rfl (AY rfl) (AY rfl) rfl fun w0 S0 => ?_
 refine Ad (Aa Ae rfl (qb rfl (qa rfl (Af (Ad (Aa Ae rfl (qa rfl (Af (Ad (Ad (Aa Ae rfl (qa rfl (Af ?_)))))))))))))
 refine AB (L := Bq N p0) h (fun v1 => mk [(1, oD (.ptr 1 0)), (3, oD (.own 2001)), (4, iD v1.2)] [(1, .box [sC (p0.fb.map Aj), sC (p0.fc.map Aj), sC (p0.fd.map Aj), sC (p0.fa.map Ak)]), (2001, .vec 3 (v1.1.map Ac))]) (fun v2 => mk [(3, oD (.own 2002))] [(2002, .vec 3 (v2.map Ac))]) (fun _ _ => rfl) ((Bx 3 2008 3 rfl rfl rfl).trans (sm [(2001, 2008)] _ _ rfl rfl)) (fun j1 n1 v1 h => ?_) (fun v2 s h hs => ?_)
 ·unfold Bq at h
  refine Ad (Ad (Aa Ae rfl (qm rfl (qf Bt rfl (ql EP rfl (AM Cw rfl (AX rfl (Af ?_))))))))
  refine Aq rfl (fun c3 => ?_) (fun c3 => ?_)
  ·have h := Ao c3 h
   refine As (Ad (AJ (Ad (Aa Ae rfl (qa rfl (Af ?_))))))
   refine AB (L := BH N p0 v1) h (fun v4 => mk [(1, oD (.ptr 1 0)), (3, oD (.own 2003)), (4, iD v1.2), (5, iD v4.2)] [(1, .box [sC (p0.fb.map Aj), sC (p0.fc.map Aj), sC (p0.fd.map Aj), sC (p0.fa.map Ak)]), (2003, .vec 3 (v4.1.map Ac))]) (fun v5 => mk [(1, oD (.ptr 1 0)), (3, oD (.own 2004)), (4, iD v1.2)] [(1, .box [sC (p0.fb.map Aj), sC (p0.fc.map Aj), sC (p0.fd.map Aj), sC (p0.fa.map Ak)]), (2004, .vec 3 (v5.map Ac))]) (fun _ _ => rfl) (sm [(2003, 2001)] _ _ rfl rfl) (fun j4 n4 v4 h => ?_) (fun v5 s h hs => ?_)
   ·unfold BH at h
    refine Ad (Ad (Aa Ae rfl (qm rfl (qf Bt rfl (ql EP rfl (qm rfl ?_))))))
    obtain ⟨v6, a6, b6, h⟩ := Ai h
    refine qi Cw Dc a6 (Ag b6) rfl (qg Dz rfl (qk EO rfl (AM Cn rfl (AX rfl (Af ?_)))))
    refine Aq rfl (fun c7 => ?_) (fun c7 => ?_)
    ·have h := Ao c7 h
     refine As (Ad (AJ (Ad (Aa Ae rfl (qa rfl (Af ?_))))))
     refine AB (L := B6 N p0 v1 v4) h (fun v8 => mk [(1, oD (.ptr 1 0)), (3, oD (.own 2005)), (4, iD v1.2), (5, iD v4.2), (6, iD v8.2)] [(1, .box [sC (p0.fb.map Aj), sC (p0.fc.map Aj), sC (p0.fd.map Aj), sC (p0.fa.map Ak)]), (2005, .vec 3 (v8.1.map Ac))]) (fun v9 => mk [(1, oD (.ptr 1 0)), (3, oD (.own 2006)), (4, iD v1.2), (5, iD v4.2)] [(1, .box [sC (p0.fb.map Aj), sC (p0.fc.map Aj), sC (p0.fd.map Aj), sC (p0.fa.map Ak)]), (2006, .vec 3 (v9.map Ac))]) (fun _ _ => rfl) (sm [(2005, 2003)] _ _ rfl rfl) (fun j8 n8 v8 h => ?_) (fun v9 s h hs => ?_)
     ·unfold B6 at h
      refine Ad (Ad (Aa Ae rfl (qm rfl (qf Bt rfl (ql EP rfl (qm rfl ?_))))))
      obtain ⟨v10, a10, b10, h⟩ := Ai h
      refine qi Cw Dc a10 (Ag b10) rfl (qg Dz rfl (qk EO rfl (qm rfl ?_)))
      obtain ⟨v11, a11, b11, h⟩ := Ai h
      refine qi Cn F7 a11 (Ag b11) rfl (qk Il rfl (AM DV rfl (AX rfl (Af ?_))))
      refine Aq rfl (fun c12 => ?_) (fun c12 => ?_)
      ·have h := Ao c12 h
       refine As ?_
       refine AS h (fun v13 => mk [(1, oD (.ptr 1 0)), (3, oD (.own 2007)), (4, iD v1.2), (5, iD v4.2), (6, iD v8.2)] [(1, .box [sC (p0.fb.map Aj), sC (p0.fc.map Aj), sC (p0.fd.map Aj), sC (p0.fa.map Ak)]), (2007, .vec 3 (v13.map Ac))]) (fun j13 h => ?_) (fun v13 h => ?_)
       ·refine AJ (Ad (Aa Ae rfl (qf Bt rfl (ql EP rfl (qm rfl ?_)))))
        obtain ⟨v14, a14, b14, h⟩ := Ai h
        refine qi Cw Dc a14 (Ag b14) rfl (qg Dz rfl (qk EO rfl (qm rfl ?_)))
        obtain ⟨v15, a15, b15, h⟩ := Ai h
        refine qi Cn F7 a15 (Ag b15) rfl (qk Il rfl (qm rfl ?_))
        obtain ⟨v16, a16, b16, h⟩ := Ai h
        refine qi DV L1 a16 (Ag b16) rfl (qk Pv rfl (CB rfl (Af ?_)))
        refine Aq rfl (fun c17 => ?_) (fun c17 => ?_)
        ·have h := Ao c17 h
         refine Aa Ae rfl (qm rfl (qm rfl (qm rfl (qm rfl (Cu G8 Ou rfl (Fx AI AE G8 rfl ?_))))))
         obtain ⟨c18, h⟩ := AN h
         refine Gr (f := Ac) AI AI AE Nr G8 c18 rfl (qa rfl (Af ?_))
         exact Au _ h (sm [(2007, 58)] _ _ rfl rfl)
        ·have h := An c17 h
         refine As ?_
         exact Au _ h (sm [(2007, 2005)] _ _ rfl rfl)
       ·refine Aa Ae rfl (qm rfl (AO rfl (qa rfl (Af ?_))))
        exact Au _ h (sm [(2005, 2007)] _ _ rfl rfl)
      ·have h := An c12 h
       refine AP ?_
       exact Au _ h (sm [(2006, 2005)] _ _ rfl rfl)
     ·refine Al hs (Aa Ae rfl (qm rfl (AO rfl (qa rfl (Af ?_)))))
      exact Au _ h (sm [(2003, 2006)] _ _ rfl rfl)
    ·have h := An c7 h
     refine AP ?_
     exact Au _ h (sm [(2004, 2003)] _ _ rfl rfl)
   ·refine Al hs (Aa Ae rfl (qm rfl (AO rfl (qa rfl (Af ?_)))))
    exact Au _ h (sm [(2001, 2004)] _ _ rfl rfl)
  ·have h := An c3 h
   refine AP ?_
   exact Au _ h (sm [(2002, 2001)] _ _ rfl rfl)
 ·refine Al hs (Ad (Aa Ae rfl (qm rfl (qa rfl (Af ?_)))))
  obtain rfl := sj h
  refine Al (sm [(1000, 2002)] [(2, oD (.own 1000))] [(1000, .vec 3 (v2.map Ac))] rfl rfl) (Ay ?_)
  exact ⟨⟨[_], ⟨.tmp _ _ rfl, tv⟩, rfl⟩, ⟨rfl, tv⟩⟩
theorem IH (N : Nat) (p0 : List Ab) (p1 : Ab) (r : Bool) (h : D2 N p0 p1 = some r) : Az Tryz.prog 43 [pD (.sl (p0.map Ac)), .e (.agg [iC p1.ft, iC p1.fr, iC p1.fq])] [] (bD r) := by
 unfold D2 at h
 refine Ar (n := 18) (rs := [.tmp 4]) Tryz.func43 rfl rfl rfl (AY rfl) (AY rfl) rfl fun w0 S0 => ?_
 refine Ad (Aa Ae rfl (qb rfl (qa rfl (Af (Ad (Ad (Aa Ae rfl (qa rfl (Af ?_)))))))))
 refine AB (L := Dw N p0 p1) h (fun v1 => mk [(0, pD (.sl (p0.map Ac))), (3, oD (.ptr 3 0)), (5, iD v1)] [(3, .box [iC p1.ft, iC p1.fr, iC p1.fq])]) (fun v2 => mk [] []) (fun _ _ => rfl) (sm [] _ _ rfl rfl) (fun j1 n1 v1 h => ?_) (fun v2 s h hs => ?_)
 ·unfold Dw at h
  refine Ad (Ad (Aa Ae rfl (qm rfl (qm rfl (AM AI rfl (AX rfl (Af ?_)))))))
  refine Aq rfl (fun c3 => ?_) (fun c3 => ?_)
  ·have h := Ao c3 h
   refine As (Ad (AJ (Ad (Aa Ae rfl (qm rfl (qm rfl ?_))))))
   obtain ⟨v4, a4, b4, h⟩ := Ai h
   refine qi AI AE a4 (Ag b4) rfl (qK Co AE rfl (qL Co AE rfl ?_))
   refine Pl [.int .i64 v4.ft, .int .i64 v4.fr, .int .i64 v4.fq] [.int .i64 p1.ft, .int .i64 p1.fr, .int .i64 p1.fq] (.p rfl) rfl rfl Mm rfl ?_
   refine AL (by kernel_rfl) ?_
   refine Aq rfl (fun c5 => ?_) (fun c5 => ?_)
   ·have h := Ao c5 h
    refine Ad (Aa Ae rfl (qa rfl (Af ?_)))
    obtain rfl := sj h
    refine Al (sm [] [(4, bD true)] [] rfl rfl) (Ay ?_)
    exact ⟨⟨[_], ⟨.tmp _ _ rfl, tv⟩, rfl⟩, tv⟩
   ·have h := An c5 h
    refine As (Aa Ae rfl (qm rfl (AO rfl (qa rfl (Af ?_)))))
    exact Au _ h (sm [] _ _ rfl rfl)
  ·have h := An c3 h
   refine AP ?_
   exact Au _ h (sm [] _ _ rfl rfl)
 ·refine Al hs (Ad (Aa Ae rfl (qa rfl (Af ?_))))
  obtain rfl := sj h
  refine Al (sm [] [(4, bD false)] [] rfl rfl) (Ay ?_)
  exact ⟨⟨[_], ⟨.tmp _ _ rfl, tv⟩, rfl⟩, tv⟩
theorem Kg (N : Nat) (p0 : Ah) (p1 : List Ab) (r : Ah) (h : DJ N p0 p1 = some r) : Az Tryz.prog 46 [.e (.agg [sC (p0.fb.map Aj), sC (p0.fc.map Aj), sC (p0.fd.map Aj), sC (p0.fa.map Ak)]), pD (.sl (p1.map Ac))] [(1, r.fb.map Aj), (1, r.fc.map Aj), (1, r.fd.map Aj)] (.e (.agg [.own 0, .own 1, .own 2, sC (r.fa.map Ak)])) := by
 unfold DJ at h
 refine Ar (n := 122) (rs := [.cell 4 29]) Tryz.func46 rfl rfl rfl (AY rfl) (AY rfl) rfl fun w0 S0 => ?_
 refine Ad (Aa Ae rfl (qb rfl (qz IQ rfl (Af (Ad (Aa Ae rfl (Fx AQ Fh Np rfl (qf CT rfl (ql Ch rfl ?_)))))))))
 obtain ⟨c1, h⟩ := AN h
 refine HN (f := Aj) AQ AQ Fh PC Np (fun _ => rfl) c1 rfl (Fx AQ Fh Np rfl (qf FT rfl (ql Ch rfl ?_)))
 obtain ⟨c2, h⟩ := AN h
 refine HN (f := Aj) AQ AQ Fh PC Np (fun _ => rfl) c2 rfl (Fx AQ Fh Np rfl (qf G1 rfl (ql Ch rfl ?_)))
 obtain ⟨c3, h⟩ := AN h
 refine HN (f := Aj) AQ AQ Fh PC Np (fun _ => rfl) c3 rfl (Cu IQ ON rfl (qz IQ rfl (qs Ck rfl (AL (by kernel_rfl) (Ad (Ad (Aa Ae rfl (qa rfl (Af ?_)))))))))
 refine AB (L := BO N p0 p1) h (fun v4 => mk [(1, pD (.sl (p1.map Ac))), (2, oD (.ptr 2 0)), (4, oD (.ptr 4 0)), (5, oD (.ptr 5 0)), (6, iD v4.2)] [(2, .box [sC (p0.fb.map Aj), sC (p0.fc.map Aj), sC (p0.fd.map Aj), sC (p0.fa.map Ak)]), (4, .box [.pure (.nil0), .pure (.nil0), .pure (.nil0), .pure (.nil0)]), (5, .box [.own 2001, .own 2002, .own 2003, .own 2004]), (2001, .vec 1 (((([] : List Int)) ++ p0.fb).map Aj)), (2002, .vec 1 (((([] : List Int)) ++ p0.fc).map Aj)), (2003, .vec 1 (((([] : List Int)) ++ p0.fd).map Aj)), (2004, .dvec 6 [.s, .s, .s, .s, .x 1 [.x 1 []], .x 1 [.x 1 []]] (v4.1.map Ak))]) (fun v5 => mk [(4, oD (.ptr 4 0)), (5, oD (.ptr 5 0))] [(4, .box [.pure (.nil0), .pure (.nil0), .pure (.nil0), .pure (.nil0)]), (5, .box [.own 2005, .own 2006, .own 2007, .own 2008]), (2005, .vec 1 (((([] : List Int)) ++ p0.fb).map Aj)), (2006, .vec 1 (((([] : List Int)) ++ p0.fc).map Aj)), (2007, .vec 1 (((([] : List Int)) ++ p0.fd).map Aj)), (2008, .dvec 6 [.s, .s, .s, .s, .x 1 [.x 1 []], .x 1 [.x 1 []]] (v5.map Ak))]) (fun _ _ => rfl) ((AW 5 3 2051 6 _ rfl rfl rfl rfl).trans ((GC 2051 6 [.s, .s, .s, .s, .x 1 [.x 1 []], .x 1 [.x 1 []]] [] [] rfl rfl).trans (sm [(2001, 15), (2002, 19), (2003, 23), (2004, 2051)] _ _ rfl rfl))) (fun j4 n4 v4 h => ?_) (fun v5 s h hs => ?_)
 ·unfold BO at h
  refine Ad (Ad (Aa Ae rfl (qm rfl (qf Bt rfl (ql EP rfl (AM Cw rfl (AX rfl (Af ?_))))))))
  refine Aq rfl (fun c6 => ?_) (fun c6 => ?_)
  ·have h := Ao c6 h
   refine As (Ad (AJ (Ad (Aa Ae rfl (qf Bt rfl (ql EP rfl (qm rfl ?_)))))))
   obtain ⟨v7, a7, b7, h⟩ := Ai h
   refine qi Cw Dc a7 (Ag b7) rfl (qK Hw Dc rfl (qz IS rfl (qs Dc rfl (Af (Ad (Aa Ae rfl (qf Dz rfl (qs QI rfl (qf Dp rfl (qs QI rfl (Af (Ad (Ad (Aa Ae rfl (qa rfl (Af ?_))))))))))))))))
   refine AB (L := CH N p0 p1 v4) h (fun v8 => mk [(1, pD (.sl (p1.map Ac))), (2, oD (.ptr 2 0)), (4, oD (.ptr 4 0)), (5, oD (.ptr 5 0)), (6, iD v4.2), (7, oD (.ptr 7 0)), (8, iD v8.2)] [(2, .box [sC (p0.fb.map Aj), sC (p0.fc.map Aj), sC (p0.fd.map Aj), sC (p0.fa.map Ak)]), (4, .box [.pure (.nil0), .pure (.nil0), .pure (.nil0), .pure (.nil0)]), (5, .box [.own 2009, .own 2010, .own 2011, .own 2012]), (7, .box [iC v7.fe, iC v7.fh, iC v7.fm, .pure (.val (.bool v7.fo)), .own 2013, .pure (.nil0)]), (2009, .vec 1 (((([] : List Int)) ++ p0.fb).map Aj)), (2010, .vec 1 (((([] : List Int)) ++ p0.fc).map Aj)), (2011, .vec 1 (((([] : List Int)) ++ p0.fd).map Aj)), (2012, .dvec 6 [.s, .s, .s, .s, .x 1 [.x 1 []], .x 1 [.x 1 []]] (v4.1.map Ak)), (2013, .dvec 1 [.x 1 []] (v8.1.map (CL eB)))]) (fun v9 => mk [(1, pD (.sl (p1.map Ac))), (2, oD (.ptr 2 0)), (4, oD (.ptr 4 0)), (5, oD (.ptr 5 0)), (6, iD v4.2), (7, oD (.ptr 7 0))] [(2, .box [sC (p0.fb.map Aj), sC (p0.fc.map Aj), sC (p0.fd.map Aj), sC (p0.fa.map Ak)]), (4, .box [.pure (.nil0), .pure (.nil0), .pure (.nil0), .pure (.nil0)]), (5, .box [.own 2014, .own 2015, .own 2016, .own 2017]), (7, .box [iC v7.fe, iC v7.fh, iC v7.fm, .pure (.val (.bool v7.fo)), .own 2018, .pure (.nil0)]), (2014, .vec 1 (((([] : List Int)) ++ p0.fb).map Aj)), (2015, .vec 1 (((([] : List Int)) ++ p0.fc).map Aj)), (2016, .vec 1 (((([] : List Int)) ++ p0.fd).map Aj)), (2017, .dvec 6 [.s, .s, .s, .s, .x 1 [.x 1 []], .x 1 [.x 1 []]] (v4.1.map Ak)), (2018, .dvec 1 [.x 1 []] (v9.map (CL eB)))]) (fun _ _ => rfl) ((AW 7 4 2037 1 _ rfl rfl rfl rfl).trans ((GC 2037 1 [.x 1 []] [] [] rfl rfl).trans (sm [(2009, 2001), (2010, 2002), (2011, 2003), (2012, 2004), (2013, 2037)] _ _ rfl rfl))) (fun j8 n8 v8 h => ?_) (fun v9 s h hs => ?_)
   ·unfold CH at h
    refine Ad (Ad (Aa Ae rfl (qm rfl (qf Bt rfl (ql EP rfl (qm rfl ?_))))))
    obtain ⟨v10, a10, b10, h⟩ := Ai h
    refine qi Cw Dc a10 (Ag b10) rfl (qg Dz rfl (qk EO rfl (AM Cn rfl (AX rfl (Af ?_)))))
    refine Aq rfl (fun c11 => ?_) (fun c11 => ?_)
    ·have h := Ao c11 h
     refine As (Ad (AJ (Ad (Aa Ae rfl (Fx DV L1 SH rfl (qf Bt rfl (ql EP rfl (qm rfl ?_))))))))
     obtain ⟨v12, a12, b12, h⟩ := Ai h
     refine qi Cw Dc a12 (Ag b12) rfl (qg Dz rfl (qk EO rfl (qm rfl ?_)))
     obtain ⟨v13, a13, b13, h⟩ := Ai h
     refine qi Cn F7 a13 (Ag b13) rfl (qk Il rfl ?_)
     obtain ⟨c14, h⟩ := AN h
     refine HN (f := eB) DV DV L1 TR SH (fun _ => rfl) c14 rfl (qa rfl (Af (Ad (Ad (Aa Ae rfl (qa rfl (Af ?_)))))))
     refine AB (L := B3 N p1 v4 v8) h (fun v15 => mk [(1, pD (.sl (p1.map Ac))), (2, oD (.ptr 2 0)), (4, oD (.ptr 4 0)), (5, oD (.ptr 5 0)), (6, iD v4.2), (7, oD (.ptr 7 0)), (8, iD v8.2), (9, oD (.own 2024)), (10, iD v15.2)] [(2, .box [sC (p0.fb.map Aj), sC (p0.fc.map Aj), sC (p0.fd.map Aj), sC (p0.fa.map Ak)]), (4, .box [.pure (.nil0), .pure (.nil0), .pure (.nil0), .pure (.nil0)]), (5, .box [.own 2019, .own 2020, .own 2021, .own 2022]), (7, .box [iC v7.fe, iC v7.fh, iC v7.fm, .pure (.val (.bool v7.fo)), .own 2023, .pure (.nil0)]), (2019, .vec 1 (((([] : List Int)) ++ p0.fb).map Aj)), (2020, .vec 1 (((([] : List Int)) ++ p0.fc).map Aj)), (2021, .vec 1 (((([] : List Int)) ++ p0.fd).map Aj)), (2022, .dvec 6 [.s, .s, .s, .s, .x 1 [.x 1 []], .x 1 [.x 1 []]] (v4.1.map Ak)), (2023, .dvec 1 [.x 1 []] (v8.1.map (CL eB))), (2024, .vec 1 (v15.1.map eB))]) (fun v16 => mk [(1, pD (.sl (p1.map Ac))), (2, oD (.ptr 2 0)), (4, oD (.ptr 4 0)), (5, oD (.ptr 5 0)), (6, iD v4.2), (7, oD (.ptr 7 0)), (8, iD v8.2), (9, oD (.own 2030))] [(2, .box [sC (p0.fb.map Aj), sC (p0.fc.map Aj), sC (p0.fd.map Aj), sC (p0.fa.map Ak)]), (4, .box [.pure (.nil0), .pure (.nil0), .pure (.nil0), .pure (.nil0)]), (5, .box [.own 2025, .own 2026, .own 2027, .own 2028]), (7, .box [iC v7.fe, iC v7.fh, iC v7.fm, .pure (.val (.bool v7.fo)), .own 2029, .pure (.nil0)]), (2025, .vec 1 (((([] : List Int)) ++ p0.fb).map Aj)), (2026, .vec 1 (((([] : List Int)) ++ p0.fc).map Aj)), (2027, .vec 1 (((([] : List Int)) ++ p0.fd).map Aj)), (2028, .dvec 6 [.s, .s, .s, .s, .x 1 [.x 1 []], .x 1 [.x 1 []]] (v4.1.map Ak)), (2029, .dvec 1 [.x 1 []] (v8.1.map (CL eB))), (2030, .vec 1 (v16.map eB))]) (fun _ _ => rfl) (sm [(2019, 2009), (2020, 2010), (2021, 2011), (2022, 2012), (2023, 2013), (2024, 60)] _ _ rfl rfl) (fun j15 n15 v15 h => ?_) (fun v16 s h hs => ?_)
     ·unfold B3 at h
      refine Ad (Ad (Aa Ae rfl (qm rfl (qm rfl (D8 DV rfl (AX rfl (Af ?_)))))))
      refine Aq rfl (fun c17 => ?_) (fun c17 => ?_)
      ·have h := Ao c17 h
       refine As ?_
       refine AS h (fun v18 => mk [(1, pD (.sl (p1.map Ac))), (2, oD (.ptr 2 0)), (4, oD (.ptr 4 0)), (5, oD (.ptr 5 0)), (6, iD v4.2), (7, oD (.ptr 7 0)), (8, iD v8.2), (9, oD (.own 2036)), (10, iD v15.2)] [(2, .box [sC (p0.fb.map Aj), sC (p0.fc.map Aj), sC (p0.fd.map Aj), sC (p0.fa.map Ak)]), (4, .box [.pure (.nil0), .pure (.nil0), .pure (.nil0), .pure (.nil0)]), (5, .box [.own 2031, .own 2032, .own 2033, .own 2034]), (7, .box [iC v7.fe, iC v7.fh, iC v7.fm, .pure (.val (.bool v7.fo)), .own 2035, .pure (.nil0)]), (2031, .vec 1 (((([] : List Int)) ++ p0.fb).map Aj)), (2032, .vec 1 (((([] : List Int)) ++ p0.fc).map Aj)), (2033, .vec 1 (((([] : List Int)) ++ p0.fd).map Aj)), (2034, .dvec 6 [.s, .s, .s, .s, .x 1 [.x 1 []], .x 1 [.x 1 []]] (v4.1.map Ak)), (2035, .dvec 1 [.x 1 []] (v8.1.map (CL eB))), (2036, .vec 1 (v18.map eB))]) (fun j18 h => ?_) (fun v18 h => ?_)
       ·refine AJ (Aa Ae rfl (qm rfl (qm rfl (qm rfl (qm rfl ?_)))))
        obtain ⟨v19, a19, b19, h⟩ := Ai h
        refine qI DV L1 a19 (Ag b19) rfl (qj Pv (Ag b19) rfl (qm rfl ?_))
        refine AH (t := 73) rfl (fun c20 => ?_) (fun c20 => ?_)
        ·have h := Ao c20 h
         refine qn rfl (qn rfl (qn rfl (qn rfl (qn rfl (qn rfl (qp rfl ?_))))))
         obtain ⟨v21, a21, b21, h⟩ := Ai h
         refine qI DV L1 a21 (Ag b21) rfl ?_
         refine A7 rfl rfl rfl rfl (Ag b21) rfl L1 rfl (AY rfl) (A0 eB v15.1 _ true) ?_
         refine Af ?_
         exact Au _ h (sm [(2031, 2019), (2032, 2020), (2033, 2021), (2034, 2022), (2035, 2023), (2036, 2024)] _ _ rfl rfl)
        ·have h := An c20 h
         refine qm rfl (qm rfl (qm rfl (qm rfl (Cu G8 Ou rfl ?_))))
         obtain ⟨v22, a22, h⟩ := bind_some h
         refine AG [] (IH N p1 ((Ab.mk v4.2 v8.2 v15.2)) v22 a22) Uu rfl (qp rfl ?_)
         obtain ⟨v23, a23, b23, h⟩ := Ai h
         refine qI DV L1 a23 (Ag b23) rfl ?_
         refine A7 rfl rfl rfl rfl (Ag b23) rfl L1 rfl (AY rfl) (A0 eB v15.1 _ v22) ?_
         refine Af ?_
         exact Au _ h (sm [(2031, 2019), (2032, 2020), (2033, 2021), (2034, 2022), (2035, 2023), (2036, 2024)] _ _ rfl rfl)
       ·refine Aa Ae rfl (qm rfl (AO rfl (qa rfl (Af ?_))))
        exact Au _ h (sm [(2019, 2031), (2020, 2032), (2021, 2033), (2022, 2034), (2023, 2035), (2024, 2036)] _ _ rfl rfl)
      ·have h := An c17 h
       refine AP ?_
       exact Au _ h (sm [(2025, 2019), (2026, 2020), (2027, 2021), (2028, 2022), (2029, 2023), (2030, 2024)] _ _ rfl rfl)
     ·refine Al hs (Aa Ae rfl (qf Dz rfl (ql EO rfl (qm rfl ?_))))
      refine Hn (x := .one (.own 2030)) (cs := [.own 2030]) (ts := [.sl (v16.map eB)]) [.x 1 []] [(2030, .vec 1 (v16.map eB))] (.p rfl) rfl rfl rfl rfl rfl ⟨rfl, tv⟩ ⟨rfl, tv⟩ rfl rfl rfl Cn F7 PP (AY rfl) ?_
      obtain ⟨c24, h⟩ := AN h
      refine IG (.p rfl) rfl rfl rfl rfl rfl (by decide) Cn Cn F7 Q4 (AY rfl) PP rfl (KW (f := (CL eB)) (g := (CL eB)) (xs := v8.1) (ys := (([v16] : List (List Bool)))) c24) (KJ (CL eB) v8.1 (([v16] : List (List Bool)))) rfl rfl ?_
      refine qf Dz rfl (qs QI rfl (Af (Aa Ae rfl (qm rfl (AO rfl (qa rfl (Af ?_)))))))
      exact Au _ h (sm [(2009, 2025), (2010, 2026), (2011, 2027), (2012, 2028), (2013, 86)] _ _ rfl rfl)
    ·have h := An c11 h
     refine AP ?_
     exact Au _ h (sm [(2014, 2009), (2015, 2010), (2016, 2011), (2017, 2012), (2018, 2013)] _ _ rfl rfl)
   ·refine Al hs (Ad (Ad (Aa Ae rfl (qa rfl (Af ?_)))))
    refine AB (L := B4 N p0 v4) h (fun v25 => mk [(1, pD (.sl (p1.map Ac))), (2, oD (.ptr 2 0)), (4, oD (.ptr 4 0)), (5, oD (.ptr 5 0)), (6, iD v4.2), (7, oD (.ptr 7 0)), (11, iD v25.2)] [(2, .box [sC (p0.fb.map Aj), sC (p0.fc.map Aj), sC (p0.fd.map Aj), sC (p0.fa.map Ak)]), (4, .box [.pure (.nil0), .pure (.nil0), .pure (.nil0), .pure (.nil0)]), (5, .box [.own 2038, .own 2039, .own 2040, .own 2041]), (7, .box [iC v7.fe, iC v7.fh, iC v7.fm, .pure (.val (.bool v7.fo)), .own 2042, .own 2043]), (2038, .vec 1 (((([] : List Int)) ++ p0.fb).map Aj)), (2039, .vec 1 (((([] : List Int)) ++ p0.fc).map Aj)), (2040, .vec 1 (((([] : List Int)) ++ p0.fd).map Aj)), (2041, .dvec 6 [.s, .s, .s, .s, .x 1 [.x 1 []], .x 1 [.x 1 []]] (v4.1.map Ak)), (2042, .dvec 1 [.x 1 []] (v9.map (CL eB))), (2043, .dvec 1 [.x 1 []] (v25.1.map (CL eB)))]) (fun v26 => mk [(1, pD (.sl (p1.map Ac))), (2, oD (.ptr 2 0)), (4, oD (.ptr 4 0)), (5, oD (.ptr 5 0)), (6, iD v4.2), (7, oD (.ptr 7 0))] [(2, .box [sC (p0.fb.map Aj), sC (p0.fc.map Aj), sC (p0.fd.map Aj), sC (p0.fa.map Ak)]), (4, .box [.pure (.nil0), .pure (.nil0), .pure (.nil0), .pure (.nil0)]), (5, .box [.own 2044, .own 2045, .own 2046, .own 2047]), (7, .box [iC v7.fe, iC v7.fh, iC v7.fm, .pure (.val (.bool v7.fo)), .own 2048, .own 2049]), (2044, .vec 1 (((([] : List Int)) ++ p0.fb).map Aj)), (2045, .vec 1 (((([] : List Int)) ++ p0.fc).map Aj)), (2046, .vec 1 (((([] : List Int)) ++ p0.fd).map Aj)), (2047, .dvec 6 [.s, .s, .s, .s, .x 1 [.x 1 []], .x 1 [.x 1 []]] (v4.1.map Ak)), (2048, .dvec 1 [.x 1 []] (v9.map (CL eB))), (2049, .dvec 1 [.x 1 []] (v26.map (CL eB)))]) (fun _ _ => rfl) ((AW 7 5 2050 1 _ rfl rfl rfl rfl).trans ((GC 2050 1 [.x 1 []] [] [] rfl rfl).trans (sm [(2038, 2014), (2039, 2015), (2040, 2016), (2041, 2017), (2042, 2018), (2043, 2050)] _ _ rfl rfl))) (fun j25 n25 v25 h => ?_) (fun v26 s h hs => ?_)
    ·unfold B4 at h
     refine Ad (Ad (Aa Ae rfl (qm rfl (qf Bt rfl (ql EP rfl (qm rfl ?_))))))
     obtain ⟨v27, a27, b27, h⟩ := Ai h
     refine qi Cw Dc a27 (Ag b27) rfl (qg Dp rfl (qk EO rfl (AM Cn rfl (AX rfl (Af ?_)))))
     refine Aq rfl (fun c28 => ?_) (fun c28 => ?_)
     ·have h := Ao c28 h
      refine As (Ad (AJ (Aa Ae rfl (qf Dp rfl (ql EO rfl (Fx DV L1 SH rfl (qf Bt rfl (ql EP rfl (qm rfl ?_)))))))))
      obtain ⟨v29, a29, b29, h⟩ := Ai h
      refine qi Cw Dc a29 (Ag b29) rfl (qg Dp rfl (qk EO rfl (qm rfl ?_)))
      obtain ⟨v30, a30, b30, h⟩ := Ai h
      refine qi Cn F7 a30 (Ag b30) rfl (qk Il rfl ?_)
      obtain ⟨c31, h⟩ := AN h
      refine HN (f := eB) DV DV L1 TR SH (fun _ => rfl) c31 rfl ?_
      refine Hn (x := .one (.own 111)) (cs := [.own 111]) (ts := [.sl (((([] : List Bool)) ++ v30).map eB)]) [.x 1 []] [(111, .vec 1 (((([] : List Bool)) ++ v30).map eB))] (.p rfl) rfl rfl rfl rfl rfl ⟨rfl, tv⟩ ⟨rfl, tv⟩ rfl rfl rfl Cn F7 PP (AY rfl) ?_
      obtain ⟨c32, h⟩ := AN h
      refine IG (.p rfl) rfl rfl rfl rfl rfl (by decide) Cn Cn F7 Q4 (AY rfl) PP rfl (KW (f := (CL eB)) (g := (CL eB)) (xs := v25.1) (ys := (([(([] : List Bool)) ++ v30] : List (List Bool)))) c32) (KJ (CL eB) v25.1 (([(([] : List Bool)) ++ v30] : List (List Bool)))) rfl rfl ?_
      refine qf Dp rfl (qs QI rfl (AL (by kernel_rfl) (Aa Ae rfl (qm rfl (AO rfl (qa rfl (Af ?_)))))))
      exact Au _ h (sm [(2043, 113)] _ _ rfl rfl)
     ·have h := An c28 h
      refine AP ?_
      exact Au _ h (sm [(2044, 2038), (2045, 2039), (2046, 2040), (2047, 2041), (2048, 2042), (2049, 2043)] _ _ rfl rfl)
    ·refine Al hs (Aa Ae rfl (qf Bt rfl (ql EP rfl (qL Hw Dc rfl ?_))))
     refine Hn (x := .agg [iC v7.fe, iC v7.fh, iC v7.fm, .pure (.val (.bool v7.fo)), .own 2048, .own 2049]) (cs := [iC v7.fe, iC v7.fh, iC v7.fm, .pure (.val (.bool v7.fo)), .own 2048, .own 2049]) (ts := [.val (.int .i64 v7.fe), .val (.int .i64 v7.fh), .val (.int .i64 v7.fm), .val (.bool v7.fo), .sl (v9.map (CL eB)), .sl (v26.map (CL eB))]) [.s, .s, .s, .s, .x 1 [.x 1 []], .x 1 [.x 1 []]] [(2048, .dvec 1 [.x 1 []] (v9.map (CL eB))), (2049, .dvec 1 [.x 1 []] (v26.map (CL eB)))] (.p rfl) rfl rfl rfl rfl rfl ⟨rfl, rfl, tv⟩ ⟨rfl, rfl, rfl, rfl, rfl, rfl, tv⟩ rfl rfl rfl Cw Dc IS (AY rfl) ?_
     obtain ⟨c33, h⟩ := AN h
     refine IG (.p rfl) rfl rfl rfl rfl rfl (by decide) Cw Cw Dc SM (AY rfl) IS rfl (KW (f := Ak) (g := Ak) (xs := v4.1) (ys := (([(Av.mk v7.fe v7.fh v7.fm v7.fo v9 v26)] : List Av))) c33) (KJ Ak v4.1 (([(Av.mk v7.fe v7.fh v7.fm v7.fo v9 v26)] : List Av))) rfl rfl ?_
     refine qf Bt rfl (qs T9 rfl (Af (Aa Ae rfl (qm rfl (AO rfl (qa rfl (Af ?_)))))))
     exact Au _ h (sm [(2001, 2044), (2002, 2045), (2003, 2046), (2004, 119)] _ _ rfl rfl)
  ·have h := An c6 h
   refine AP ?_
   exact Au _ h (sm [(2005, 2001), (2006, 2002), (2007, 2003), (2008, 2004)] _ _ rfl rfl)
 ·refine Al hs (Ad (Aa Ae rfl (qL C9 Ck rfl (qs Ck rfl (Af ?_)))))
  obtain rfl := sj h
  refine Al ((Lf 2008 _ _ _ rfl rfl).trans (sm [(1000, 2005), (1001, 2006), (1002, 2007)] [(4, oD (.ptr 4 0))] [(4, .box [.own 1000, .own 1001, .own 1002, sC (v5.map Ak)]), (1000, .vec 1 (((([] : List Int)) ++ p0.fb).map Aj)), (1001, .vec 1 (((([] : List Int)) ++ p0.fc).map Aj)), (1002, .vec 1 (((([] : List Int)) ++ p0.fd).map Aj))] rfl rfl)) (Ay ?_)
  exact ⟨⟨[_], ⟨.cellN _ _ _ _ _ _ _ rfl rfl C9 Ck rfl rfl (Kt rfl), tv⟩, rfl⟩, ⟨rfl, rfl, rfl, tv⟩⟩
theorem Kd (N : Nat) (p0 : Ah) (p1 : List Ab) (r : Ah × Int) (h : Eb N p0 p1 = some r) : Az Tryz.prog 18 [.e (.agg [sC (p0.fb.map Aj), sC (p0.fc.map Aj), sC (p0.fd.map Aj), sC (p0.fa.map Ak)]), pD (.sl (p1.map Ac))] [(1, r.1.fb.map Aj), (1, r.1.fc.map Aj), (1, r.1.fd.map Aj)] (.tup [.agg [.own 0, .own 1, .own 2, sC (r.1.fa.map Ak)], .one (iC r.2)]) := by
 unfold Eb at h
 refine Ar (n := 34) (rs := [.cell 4 29, .tmp 5]) Tryz.func18 rfl rfl rfl (AY rfl) (AY rfl) rfl fun w0 S0 => ?_
 refine Ad (Aa Ae rfl (qb rfl (qz IQ rfl (qa rfl (Af (Ad (Ad (Aa Ae rfl (qL C9 Ck rfl ?_)))))))))
 obtain ⟨v1, a1, h⟩ := bind_some h
 refine AG [] (FH N p0 v1 a1) Ui rfl (qa rfl (Af (Ad (Aa Ae rfl (qm rfl (Cl rfl (Af ?_)))))))
 refine Aq rfl (fun c2 => ?_) (fun c2 => ?_)
 ·have h := Ao c2 h
  refine Ad (Aa Ae rfl (Cu IQ ON rfl (qm rfl (qs Ck rfl (qa rfl (Af ?_))))))
  obtain rfl := sj h
  refine Al ((AW 4 0 2001 1 _ rfl rfl rfl rfl).trans ((AW 4 1 2002 1 _ rfl rfl rfl rfl).trans ((AW 4 2 2003 1 _ rfl rfl rfl rfl).trans ((Ix 4 _ rfl).trans (sm [(1000, 2001), (1001, 2002), (1002, 2003)] [(4, oD (.ptr 4 0)), (5, iD v1)] [(4, .box [.own 1000, .own 1001, .own 1002, sC ((([] : List Av)).map Ak)]), (1000, .vec 1 ((([] : List Int)).map Aj)), (1001, .vec 1 ((([] : List Int)).map Aj)), (1002, .vec 1 ((([] : List Int)).map Aj))] rfl rfl))))) (Ay ?_)
  exact ⟨⟨[_, _], ⟨.cellN _ _ _ _ _ _ _ rfl rfl C9 Ck rfl rfl (Kt rfl), ⟨.tmp _ _ rfl, tv⟩⟩, rfl⟩, ⟨rfl, rfl, rfl, tv⟩⟩
 ·have h := An c2 h
  refine As (Ad (Aa Ae rfl (qL C9 Ck rfl ?_)))
  obtain ⟨v3, a3, h⟩ := bind_some h
  refine AG [2004] (Ha N p0 v3 a3) U4 rfl (qa rfl (Af (Ad (Ad (Aa Ae rfl (qa rfl (Af ?_)))))))
  refine AB (L := Db N p1 v3) h (fun v4 => mk [(1, pD (.sl (p1.map Ac))), (2, oD (.ptr 2 0)), (4, oD (.ptr 4 0)), (7, oD (.own 2005)), (8, iD v4)] [(2, .box [sC (p0.fb.map Aj), sC (p0.fc.map Aj), sC (p0.fd.map Aj), sC (p0.fa.map Ak)]), (4, .box [.pure (.nil0), .pure (.nil0), .pure (.nil0), .pure (.nil0)]), (2005, .vec 3 (v3.map Ac))]) (fun v5 => mk [(1, pD (.sl (p1.map Ac))), (2, oD (.ptr 2 0)), (4, oD (.ptr 4 0))] [(2, .box [sC (p0.fb.map Aj), sC (p0.fc.map Aj), sC (p0.fd.map Aj), sC (p0.fa.map Ak)]), (4, .box [.pure (.nil0), .pure (.nil0), .pure (.nil0), .pure (.nil0)])]) (fun _ _ => rfl) (sm [(2005, 2004)] _ _ rfl rfl) (fun j4 n4 v4 h => ?_) (fun v5 s h hs => ?_)
  ·unfold Db at h
   refine Ad (Ad (Aa Ae rfl (qm rfl (qm rfl (AM AI rfl (AX rfl (Af ?_)))))))
   refine Aq rfl (fun c6 => ?_) (fun c6 => ?_)
   ·have h := Ao c6 h
    refine As (Ad (AJ (Ad (Aa Ae rfl (qm rfl (qm rfl (qm rfl ?_)))))))
    obtain ⟨v7, a7, b7, h⟩ := Ai h
    refine qi AI AE a7 (Ag b7) rfl (qK Co AE rfl ?_)
    obtain ⟨v8, a8, h⟩ := bind_some h
    refine Ew [] [2005] (IH N v3 v7 v8 a8) Uu De rfl (CB rfl (Af ?_))
    refine Aq rfl (fun c9 => ?_) (fun c9 => ?_)
    ·have h := Ao c9 h
     refine Ad (Aa Ae rfl (Cu IQ ON rfl (qs Ck rfl (qa rfl (Af ?_)))))
     obtain rfl := sj h
     refine Al ((AW 4 0 2006 1 _ rfl rfl rfl rfl).trans ((AW 4 1 2007 1 _ rfl rfl rfl rfl).trans ((AW 4 2 2008 1 _ rfl rfl rfl rfl).trans ((Ix 4 _ rfl).trans (sm [(1000, 2006), (1001, 2007), (1002, 2008)] [(4, oD (.ptr 4 0)), (5, iD 4)] [(4, .box [.own 1000, .own 1001, .own 1002, sC ((([] : List Av)).map Ak)]), (1000, .vec 1 ((([] : List Int)).map Aj)), (1001, .vec 1 ((([] : List Int)).map Aj)), (1002, .vec 1 ((([] : List Int)).map Aj))] rfl rfl))))) (Ay ?_)
     exact ⟨⟨[_, _], ⟨.cellN _ _ _ _ _ _ _ rfl rfl C9 Ck rfl rfl (Kt rfl), ⟨.tmp _ _ rfl, tv⟩⟩, rfl⟩, ⟨rfl, rfl, rfl, tv⟩⟩
    ·have h := An c9 h
     refine As (Aa Ae rfl (qm rfl (AO rfl (qa rfl (Af ?_)))))
     exact Au _ h (sm [] _ _ rfl rfl)
   ·have h := An c6 h
    refine AP ?_
    exact Au _ h (sm [] _ _ rfl rfl)
  ·refine Al hs (Ad (Aa Ae rfl (qL C9 Ck rfl (qm rfl ?_))))
   obtain ⟨v10, a10, h⟩ := bind_some h
   refine AG [2009, 2010, 2011] (Kg N p0 p1 v10 a10) VO rfl (qs Ck rfl (qa rfl (Af ?_)))
   obtain rfl := sj h
   refine Al (sm [(1000, 2009), (1001, 2010), (1002, 2011)] [(4, oD (.ptr 4 0)), (5, iD 0)] [(4, .box [.own 1000, .own 1001, .own 1002, sC (v10.fa.map Ak)]), (1000, .vec 1 (v10.fb.map Aj)), (1001, .vec 1 (v10.fc.map Aj)), (1002, .vec 1 (v10.fd.map Aj))] rfl rfl) (Ay ?_)
   exact ⟨⟨[_, _], ⟨.cellN _ _ _ _ _ _ _ rfl rfl C9 Ck rfl rfl (Kt rfl), ⟨.tmp _ _ rfl, tv⟩⟩, rfl⟩, ⟨rfl, rfl, rfl, tv⟩⟩
theorem Jk (N : Nat) (p0 : Ah) (r : (List Ab) × Int) (h : DG N p0 = some r) : Az Tryz.prog 17 [.e (.agg [sC (p0.fb.map Aj), sC (p0.fc.map Aj), sC (p0.fd.map Aj), sC (p0.fa.map Ak)])] [(3, r.1.map Ac)] (.tup [.one (.own 0), .one (iC r.2)]) := by
 unfold DG at h
 refine Ar (n := 12) (rs := [.tmp 2, .tmp 3]) Tryz.func17 rfl rfl rfl (AY rfl) (AY rfl) rfl fun w0 S0 => ?_
 refine Ad (Aa Ae rfl (qb rfl (qa rfl (qa rfl (Af (Ad (Ad (Aa Ae rfl (qL C9 Ck rfl ?_)))))))))
 obtain ⟨v1, a1, h⟩ := bind_some h
 refine AG [] (FH N p0 v1 a1) Ui rfl (qa rfl (Af (Ad (Aa Ae rfl (qm rfl (Cl rfl (Af ?_)))))))
 refine Aq rfl (fun c2 => ?_) (fun c2 => ?_)
 ·have h := Ao c2 h
  refine Ad (Aa Ae rfl (qm rfl (qa rfl (qa rfl (Af ?_)))))
  obtain rfl := sj h
  refine Al ((Bx 2 2001 3 rfl rfl rfl).trans (sm [(1000, 2001)] [(2, oD (.own 1000)), (3, iD v1)] [(1000, .vec 3 ((([] : List Ab)).map Ac))] rfl rfl)) (Ay ?_)
  exact ⟨⟨[_, _], ⟨.tmp _ _ rfl, ⟨.tmp _ _ rfl, tv⟩⟩, rfl⟩, ⟨rfl, tv⟩⟩
 ·have h := An c2 h
  refine As (Ad (Aa Ae rfl (qL C9 Ck rfl ?_)))
  obtain ⟨v3, a3, h⟩ := bind_some h
  refine AG [2002] (Ha N p0 v3 a3) U4 rfl (qa rfl (qa rfl (Af ?_)))
  obtain rfl := sj h
  refine Al (sm [(1000, 2002)] [(2, oD (.own 1000)), (3, iD 0)] [(1000, .vec 3 (v3.map Ac))] rfl rfl) (Ay ?_)
  exact ⟨⟨[_, _], ⟨.tmp _ _ rfl, ⟨.tmp _ _ rfl, tv⟩⟩, rfl⟩, ⟨rfl, tv⟩⟩
theorem Gp (N : Nat) (p0 : List Int) (p1 : List Int) (r : Bool) (h : Dg N p0 p1 = some r) : Az Tryz.prog 49 [pD (.sl (p0.map Aj)), pD (.sl (p1.map Aj))] [] (bD r) := by
 unfold Dg at h
 refine Ar (n := 26) (rs := [.tmp 4]) Tryz.func49 rfl rfl rfl (AY rfl) (AY rfl) rfl fun w0 S0 => ?_
 refine Ad (Aa Ae rfl (qa rfl (Af (Ad (Ad (Aa Ae rfl (qm rfl (AM AQ rfl (qm rfl (AM AQ rfl (Cl rfl (Af ?_))))))))))))
 refine Aq rfl (fun c1 => ?_) (fun c1 => ?_)
 ·have h := Ao c1 h
  refine Ad (Aa Ae rfl (qa rfl (Af ?_)))
  obtain rfl := sj h
  refine Al (sm [] [(4, bD false)] [] rfl rfl) (Ay ?_)
  exact ⟨⟨[_], ⟨.tmp _ _ rfl, tv⟩, rfl⟩, tv⟩
 ·have h := An c1 h
  refine As (Ad (Ad (Aa Ae rfl (qa rfl (Af ?_)))))
  refine AB (L := C6 N p0 p1) h (fun v2 => mk [(0, pD (.sl (p0.map Aj))), (1, pD (.sl (p1.map Aj))), (5, iD v2)] []) (fun v3 => mk [] []) (fun _ _ => rfl) (sm [] _ _ rfl rfl) (fun j2 n2 v2 h => ?_) (fun v3 s h hs => ?_)
  ·unfold C6 at h
   refine Ad (Ad (Aa Ae rfl (qm rfl (qm rfl (AM AQ rfl (AX rfl (Af ?_)))))))
   refine Aq rfl (fun c4 => ?_) (fun c4 => ?_)
   ·have h := Ao c4 h
    refine As (Ad (AJ (Ad (Aa Ae rfl (qm rfl (qm rfl ?_))))))
    obtain ⟨v5, a5, b5, h⟩ := Ai h
    refine qi AQ Fh a5 (Ag b5) rfl (qk DA rfl (qm rfl (qm rfl ?_)))
    obtain ⟨v6, a6, b6, h⟩ := Ai h
    refine qi AQ Fh a6 (Ag b6) rfl (qk DA rfl (Cl rfl (AL (by kernel_rfl) ?_)))
    refine Aq rfl (fun c7 => ?_) (fun c7 => ?_)
    ·have h := Ao c7 h
     refine Ad (Aa Ae rfl (qa rfl (Af ?_)))
     obtain rfl := sj h
     refine Al (sm [] [(4, bD false)] [] rfl rfl) (Ay ?_)
     exact ⟨⟨[_], ⟨.tmp _ _ rfl, tv⟩, rfl⟩, tv⟩
    ·have h := An c7 h
     refine As (Aa Ae rfl (qm rfl (AO rfl (qa rfl (Af ?_)))))
     exact Au _ h (sm [] _ _ rfl rfl)
   ·have h := An c4 h
    refine AP ?_
    exact Au _ h (sm [] _ _ rfl rfl)
  ·refine Al hs (Ad (Aa Ae rfl (qa rfl (Af ?_))))
   obtain rfl := sj h
   refine Al (sm [] [(4, bD true)] [] rfl rfl) (Ay ?_)
   exact ⟨⟨[_], ⟨.tmp _ _ rfl, tv⟩, rfl⟩, tv⟩
theorem Gd (N : Nat) (p0 : List (List Bool)) (p1 : List (List Bool)) (r : Bool) (h : CD N p0 p1 = some r) : Az Tryz.prog 50 [pD (.sl (p0.map (CL eB))), pD (.sl (p1.map (CL eB)))] [] (bD r) := by
 unfold CD at h
 refine Ar (n := 53) (rs := [.tmp 4]) Tryz.func50 rfl rfl rfl (AY rfl) (AY rfl) rfl fun w0 S0 => ?_
 refine Ad (Aa Ae rfl (qa rfl (Af (Ad (Ad (Aa Ae rfl (qm rfl (AM Cn rfl (qm rfl (AM Cn rfl (Cl rfl (Af ?_))))))))))))
 refine Aq rfl (fun c1 => ?_) (fun c1 => ?_)
 ·have h := Ao c1 h
  refine Ad (Aa Ae rfl (qa rfl (Af ?_)))
  obtain rfl := sj h
  refine Al (sm [] [(4, bD false)] [] rfl rfl) (Ay ?_)
  exact ⟨⟨[_], ⟨.tmp _ _ rfl, tv⟩, rfl⟩, tv⟩
 ·have h := An c1 h
  refine As (Ad (Ad (Aa Ae rfl (qa rfl (Af ?_)))))
  refine AB (L := B8 N p0 p1) h (fun v2 => mk [(0, pD (.sl (p0.map (CL eB)))), (1, pD (.sl (p1.map (CL eB)))), (5, iD v2)] []) (fun v3 => mk [] []) (fun _ _ => rfl) (sm [] _ _ rfl rfl) (fun j2 n2 v2 h => ?_) (fun v3 s h hs => ?_)
  ·unfold B8 at h
   refine Ad (Ad (Aa Ae rfl (qm rfl (qm rfl (AM Cn rfl (AX rfl (Af ?_)))))))
   refine Aq rfl (fun c4 => ?_) (fun c4 => ?_)
   ·have h := Ao c4 h
    refine As (Ad (AJ (Ad (Ad (Aa Ae rfl (qm rfl (qm rfl ?_)))))))
    obtain ⟨v5, a5, b5, h⟩ := Ai h
    refine qi Cn F7 a5 (Ag b5) rfl (qk Il rfl (AM DV rfl (qm rfl (qm rfl ?_))))
    obtain ⟨v6, a6, b6, h⟩ := Ai h
    refine qi Cn F7 a6 (Ag b6) rfl (qk Il rfl (AM DV rfl (Cl rfl (AL (by kernel_rfl) ?_))))
    refine Aq rfl (fun c7 => ?_) (fun c7 => ?_)
    ·have h := Ao c7 h
     refine Ad (Aa Ae rfl (qa rfl (Af ?_)))
     obtain rfl := sj h
     refine Al (sm [] [(4, bD false)] [] rfl rfl) (Ay ?_)
     exact ⟨⟨[_], ⟨.tmp _ _ rfl, tv⟩, rfl⟩, tv⟩
    ·have h := An c7 h
     refine As (Ad (Aa Ae rfl (qa rfl (Af ?_))))
     refine AB (L := B7 N p0 p1 v2) h (fun v8 => mk [(0, pD (.sl (p0.map (CL eB)))), (1, pD (.sl (p1.map (CL eB)))), (5, iD v2), (6, iD v8)] []) (fun v9 => mk [(0, pD (.sl (p0.map (CL eB)))), (1, pD (.sl (p1.map (CL eB)))), (5, iD v2)] []) (fun _ _ => rfl) (sm [] _ _ rfl rfl) (fun j8 n8 v8 h => ?_) (fun v9 s h hs => ?_)
     ·unfold B7 at h
      refine Ad (Ad (Aa Ae rfl (qm rfl (qm rfl (qm rfl ?_)))))
      obtain ⟨v10, a10, b10, h⟩ := Ai h
      refine qi Cn F7 a10 (Ag b10) rfl (qk Il rfl (AM DV rfl (AX rfl (Af ?_))))
      refine Aq rfl (fun c11 => ?_) (fun c11 => ?_)
      ·have h := Ao c11 h
       refine As (Ad (AJ (Ad (Aa Ae rfl (qm rfl (qm rfl ?_))))))
       obtain ⟨v12, a12, b12, h⟩ := Ai h
       refine qi Cn F7 a12 (Ag b12) rfl (qk Il rfl (qm rfl ?_))
       obtain ⟨v13, a13, b13, h⟩ := Ai h
       refine qi DV L1 a13 (Ag b13) rfl (qk Pv rfl (qm rfl (qm rfl ?_)))
       obtain ⟨v14, a14, b14, h⟩ := Ai h
       refine qi Cn F7 a14 (Ag b14) rfl (qk Il rfl (qm rfl ?_))
       obtain ⟨v15, a15, b15, h⟩ := Ai h
       refine qi DV L1 a15 (Ag b15) rfl (qk Pv rfl ?_)
       refine Hb (.p rfl) rfl rfl (OF _ _ _ _ Wb) rfl ?_
       refine AL (by kernel_rfl) ?_
       refine Aq rfl (fun c16 => ?_) (fun c16 => ?_)
       ·have h := Ao c16 h
        refine Ad (Aa Ae rfl (qa rfl (Af ?_)))
        obtain rfl := sj h
        refine Al (sm [] [(4, bD false)] [] rfl rfl) (Ay ?_)
        exact ⟨⟨[_], ⟨.tmp _ _ rfl, tv⟩, rfl⟩, tv⟩
       ·have h := An c16 h
        refine As (Aa Ae rfl (qm rfl (AO rfl (qa rfl (Af ?_)))))
        exact Au _ h (sm [] _ _ rfl rfl)
      ·have h := An c11 h
       refine AP ?_
       exact Au _ h (sm [] _ _ rfl rfl)
     ·refine Al hs (Aa Ae rfl (qm rfl (AO rfl (qa rfl (Af ?_)))))
      exact Au _ h (sm [] _ _ rfl rfl)
   ·have h := An c4 h
    refine AP ?_
    exact Au _ h (sm [] _ _ rfl rfl)
  ·refine Al hs (Ad (Aa Ae rfl (qa rfl (Af ?_))))
   obtain rfl := sj h
   refine Al (sm [] [(4, bD true)] [] rfl rfl) (Ay ?_)
   exact ⟨⟨[_], ⟨.tmp _ _ rfl, tv⟩, rfl⟩, tv⟩
theorem J2 (N : Nat) (p0 : Ah) (p1 : Ah) (r : Bool) (h : DW N p0 p1 = some r) : Az Tryz.prog 22 [.e (.agg [sC (p0.fb.map Aj), sC (p0.fc.map Aj), sC (p0.fd.map Aj), sC (p0.fa.map Ak)]), .e (.agg [sC (p1.fb.map Aj), sC (p1.fc.map Aj), sC (p1.fd.map Aj), sC (p1.fa.map Ak)])] [] (bD r) := by
 unfold DW at h
 refine Ar (n := 98) (rs := [.tmp 4]) Tryz.func22 rfl rfl rfl (AY rfl) (AY rfl) rfl fun w0 S0 => ?_
 refine Ad (Aa Ae rfl (qb rfl (qb rfl (qa rfl (Af (Ad ?_))))))
 refine AS h (fun v1 => mk [(2, oD (.ptr 2 0)), (3, oD (.ptr 3 0)), (38, bD v1)] [(2, .box [sC (p0.fb.map Aj), sC (p0.fc.map Aj), sC (p0.fd.map Aj), sC (p0.fa.map Ak)]), (3, .box [sC (p1.fb.map Aj), sC (p1.fc.map Aj), sC (p1.fd.map Aj), sC (p1.fa.map Ak)])]) (fun j1 h => ?_) (fun v1 h => ?_)
 ·refine Aa Ae rfl (qf CT rfl (ql Ch rfl (qf CT rfl (ql Ch rfl ?_))))
  obtain ⟨v2, a2, h⟩ := bind_some h
  refine AG [] (Gp N p0.fb p1.fb v2 a2) Td rfl (CB rfl (qm rfl ?_))
  refine AH (t := 14) rfl (fun c3 => ?_) (fun c3 => ?_)
  ·have h := Ao c3 h
   refine qn rfl (qn rfl (qn rfl (qn rfl (qn rfl (qn rfl (qp rfl (qm rfl (qn rfl (qn rfl (qn rfl (qn rfl (qn rfl (qn rfl (qp rfl (qm rfl (qn rfl (qn rfl (qn rfl (qn rfl (qn rfl (qn rfl (qn rfl (qp rfl (Af ?_))))))))))))))))))))))))
   exact Au _ h (sm [] _ _ rfl rfl)
  ·have h := An c3 h
   refine qf FT rfl (ql Ch rfl (qf FT rfl (ql Ch rfl ?_)))
   obtain ⟨v4, a4, h⟩ := bind_some h
   refine AG [] (Gp N p0.fc p1.fc v4 a4) Td rfl (CB rfl (qp rfl (qm rfl ?_)))
   refine AH (t := 22) rfl (fun c5 => ?_) (fun c5 => ?_)
   ·have h := Ao c5 h
    refine qn rfl (qn rfl (qn rfl (qn rfl (qn rfl (qn rfl (qp rfl (qm rfl (qn rfl (qn rfl (qn rfl (qn rfl (qn rfl (qn rfl (qn rfl (qp rfl (Af ?_))))))))))))))))
    exact Au _ h (sm [] _ _ rfl rfl)
   ·have h := An c5 h
    refine qf G1 rfl (ql Ch rfl (qf G1 rfl (ql Ch rfl ?_)))
    obtain ⟨v6, a6, h⟩ := bind_some h
    refine AG [] (Gp N p0.fd p1.fd v6 a6) Td rfl (CB rfl (qp rfl (qm rfl ?_)))
    refine AH (t := 30) rfl (fun c7 => ?_) (fun c7 => ?_)
    ·have h := Ao c7 h
     refine qn rfl (qn rfl (qn rfl (qn rfl (qn rfl (qn rfl (qn rfl (qp rfl (Af ?_))))))))
     exact Au _ h (sm [] _ _ rfl rfl)
    ·have h := An c7 h
     refine qf Bt rfl (ql EP rfl (AM Cw rfl (qf Bt rfl (ql EP rfl (AM Cw rfl (Cl rfl (qp rfl (Af ?_))))))))
     exact Au _ h (sm [] _ _ rfl rfl)
 ·refine Aq rfl (fun c8 => ?_) (fun c8 => ?_)
  ·have h := Ao c8 h
   refine Ad (Aa Ae rfl (qa rfl (Af ?_)))
   obtain rfl := sj h
   refine Al (sm [] [(4, bD false)] [] rfl rfl) (Ay ?_)
   exact ⟨⟨[_], ⟨.tmp _ _ rfl, tv⟩, rfl⟩, tv⟩
  ·have h := An c8 h
   refine As (Ad (Ad (Aa Ae rfl (qa rfl (Af ?_)))))
   refine AB (L := CX N p0 p1) h (fun v9 => mk [(2, oD (.ptr 2 0)), (3, oD (.ptr 3 0)), (5, iD v9)] [(2, .box [sC (p0.fb.map Aj), sC (p0.fc.map Aj), sC (p0.fd.map Aj), sC (p0.fa.map Ak)]), (3, .box [sC (p1.fb.map Aj), sC (p1.fc.map Aj), sC (p1.fd.map Aj), sC (p1.fa.map Ak)])]) (fun v10 => mk [] []) (fun _ _ => rfl) (sm [] _ _ rfl rfl) (fun j9 n9 v9 h => ?_) (fun v10 s h hs => ?_)
   ·unfold CX at h
    refine Ad (Ad (Aa Ae rfl (qm rfl (qf Bt rfl (ql EP rfl (AM Cw rfl (AX rfl (Af ?_))))))))
    refine Aq rfl (fun c11 => ?_) (fun c11 => ?_)
    ·have h := Ao c11 h
     refine As (Ad (AJ (Ad (Aa Ae rfl (qf Bt rfl (ql EP rfl (qm rfl ?_)))))))
     obtain ⟨v12, a12, b12, h⟩ := Ai h
     refine qi Cw Dc a12 (Ag b12) rfl (qK Hw Dc rfl (qf Bt rfl (ql EP rfl (qm rfl ?_))))
     obtain ⟨v13, a13, b13, h⟩ := Ai h
     refine qi Cw Dc a13 (Ag b13) rfl (qK Hw Dc rfl (qz IS rfl (qz IS rfl (qs Dc rfl (qs Dc rfl (AL (by kernel_rfl) ?_))))))
     refine AS h (fun v14 => mk [(2, oD (.ptr 2 0)), (3, oD (.ptr 3 0)), (5, iD v9), (97, bD v14)] [(2, .box [sC (p0.fb.map Aj), sC (p0.fc.map Aj), sC (p0.fd.map Aj), sC (p0.fa.map Ak)]), (3, .box [sC (p1.fb.map Aj), sC (p1.fc.map Aj), sC (p1.fd.map Aj), sC (p1.fa.map Ak)])]) (fun j14 h => ?_) (fun v14 h => ?_)
     ·refine Aa Ae rfl (qf Fr rfl (ql DA rfl (qf Fr rfl (ql DA rfl (Cl rfl (qm rfl ?_))))))
      refine AH (t := 61) rfl (fun c15 => ?_) (fun c15 => ?_)
      ·have h := Ao c15 h
       refine qn rfl (qn rfl (qn rfl (qn rfl (qn rfl (qp rfl (qm rfl (qn rfl (qn rfl (qn rfl (qn rfl (qn rfl (qp rfl (qm rfl (qn rfl (qn rfl (qn rfl (qn rfl (qn rfl (qp rfl (qm rfl (qn rfl (qn rfl (qn rfl (qn rfl (qn rfl (qn rfl (qp rfl (qm rfl (qn rfl (qn rfl (qn rfl (qn rfl (qn rfl (qn rfl (qp rfl (Af ?_))))))))))))))))))))))))))))))))))))
       exact Au _ h (sm [] _ _ rfl rfl)
      ·have h := An c15 h
       refine qf ES rfl (ql DA rfl (qf ES rfl (ql DA rfl (Cl rfl (qp rfl (qm rfl ?_))))))
       refine AH (t := 68) rfl (fun c16 => ?_) (fun c16 => ?_)
       ·have h := Ao c16 h
        refine qn rfl (qn rfl (qn rfl (qn rfl (qn rfl (qp rfl (qm rfl (qn rfl (qn rfl (qn rfl (qn rfl (qn rfl (qp rfl (qm rfl (qn rfl (qn rfl (qn rfl (qn rfl (qn rfl (qn rfl (qp rfl (qm rfl (qn rfl (qn rfl (qn rfl (qn rfl (qn rfl (qn rfl (qp rfl (Af ?_)))))))))))))))))))))))))))))
        exact Au _ h (sm [] _ _ rfl rfl)
       ·have h := An c16 h
        refine qf H9 rfl (ql DA rfl (qf H9 rfl (ql DA rfl (Cl rfl (qp rfl (qm rfl ?_))))))
        refine AH (t := 75) rfl (fun c17 => ?_) (fun c17 => ?_)
        ·have h := Ao c17 h
         refine qn rfl (qn rfl (qn rfl (qn rfl (qn rfl (qp rfl (qm rfl (qn rfl (qn rfl (qn rfl (qn rfl (qn rfl (qn rfl (qp rfl (qm rfl (qn rfl (qn rfl (qn rfl (qn rfl (qn rfl (qn rfl (qp rfl (Af ?_))))))))))))))))))))))
         exact Au _ h (sm [] _ _ rfl rfl)
        ·have h := An c17 h
         refine qf JU rfl (ql Pv rfl (qf JU rfl (ql Pv rfl ?_)))
         refine Hb (.g rfl rfl) rfl rfl (OF _ _ _ _ Wb) rfl ?_
         refine qp rfl (qm rfl ?_)
         refine AH (t := 82) rfl (fun c18 => ?_) (fun c18 => ?_)
         ·have h := Ao c18 h
          refine qn rfl (qn rfl (qn rfl (qn rfl (qn rfl (qn rfl (qp rfl (qm rfl (qn rfl (qn rfl (qn rfl (qn rfl (qn rfl (qn rfl (qp rfl (Af ?_)))))))))))))))
          exact Au _ h (sm [] _ _ rfl rfl)
         ·have h := An c18 h
          refine qf Dz rfl (ql EO rfl (qf Dz rfl (ql EO rfl ?_)))
          obtain ⟨v19, a19, h⟩ := bind_some h
          refine AG [] (Gd N v12.fj v13.fj v19 a19) Uq rfl (CB rfl (qp rfl (qm rfl ?_)))
          refine AH (t := 90) rfl (fun c20 => ?_) (fun c20 => ?_)
          ·have h := Ao c20 h
           refine qn rfl (qn rfl (qn rfl (qn rfl (qn rfl (qn rfl (qp rfl (Af ?_)))))))
           exact Au _ h (sm [] _ _ rfl rfl)
          ·have h := An c20 h
           refine qf Dp rfl (ql EO rfl (qf Dp rfl (ql EO rfl ?_)))
           obtain ⟨v21, a21, h⟩ := bind_some h
           refine AG [] (Gd N v12.fk v13.fk v21 a21) Uq rfl (CB rfl (qp rfl (Af ?_)))
           exact Au _ h (sm [] _ _ rfl rfl)
     ·refine Aq rfl (fun c22 => ?_) (fun c22 => ?_)
      ·have h := Ao c22 h
       refine Ad (Aa Ae rfl (qa rfl (Af ?_)))
       obtain rfl := sj h
       refine Al (sm [] [(4, bD false)] [] rfl rfl) (Ay ?_)
       exact ⟨⟨[_], ⟨.tmp _ _ rfl, tv⟩, rfl⟩, tv⟩
      ·have h := An c22 h
       refine As (Aa Ae rfl (qm rfl (AO rfl (qa rfl (Af ?_)))))
       exact Au _ h (sm [] _ _ rfl rfl)
    ·have h := An c11 h
     refine AP ?_
     exact Au _ h (sm [] _ _ rfl rfl)
   ·refine Al hs (Ad (Aa Ae rfl (qa rfl (Af ?_))))
    obtain rfl := sj h
    refine Al (sm [] [(4, bD true)] [] rfl rfl) (Ay ?_)
    exact ⟨⟨[_], ⟨.tmp _ _ rfl, tv⟩, rfl⟩, tv⟩
theorem Ks (N : Nat) (p0 : List Ab) (p1 : List Ab) (r : Bool) (h : D9 N p0 p1 = some r) : Az Tryz.prog 23 [pD (.sl (p0.map Ac)), pD (.sl (p1.map Ac))] [] (bD r) := by
 unfold D9 at h
 refine Ar (n := 26) (rs := [.tmp 4]) Tryz.func23 rfl rfl rfl (AY rfl) (AY rfl) rfl fun w0 S0 => ?_
 refine Ad (Aa Ae rfl (qa rfl (Af (Ad (Ad (Aa Ae rfl (qm rfl (AM AI rfl (qm rfl (AM AI rfl (Cl rfl (Af ?_))))))))))))
 refine Aq rfl (fun c1 => ?_) (fun c1 => ?_)
 ·have h := Ao c1 h
  refine Ad (Aa Ae rfl (qa rfl (Af ?_)))
  obtain rfl := sj h
  refine Al (sm [] [(4, bD false)] [] rfl rfl) (Ay ?_)
  exact ⟨⟨[_], ⟨.tmp _ _ rfl, tv⟩, rfl⟩, tv⟩
 ·have h := An c1 h
  refine As (Ad (Ad (Aa Ae rfl (qa rfl (Af ?_)))))
  refine AB (L := Da N p0 p1) h (fun v2 => mk [(0, pD (.sl (p0.map Ac))), (1, pD (.sl (p1.map Ac))), (5, iD v2)] []) (fun v3 => mk [] []) (fun _ _ => rfl) (sm [] _ _ rfl rfl) (fun j2 n2 v2 h => ?_) (fun v3 s h hs => ?_)
  ·unfold Da at h
   refine Ad (Ad (Aa Ae rfl (qm rfl (qm rfl (AM AI rfl (AX rfl (Af ?_)))))))
   refine Aq rfl (fun c4 => ?_) (fun c4 => ?_)
   ·have h := Ao c4 h
    refine As (Ad (AJ (Ad (Aa Ae rfl (qm rfl (qm rfl ?_))))))
    obtain ⟨v5, a5, b5, h⟩ := Ai h
    refine qi AI AE a5 (Ag b5) rfl (qK Co AE rfl (qm rfl (qm rfl ?_)))
    obtain ⟨v6, a6, b6, h⟩ := Ai h
    refine qi AI AE a6 (Ag b6) rfl (qK Co AE rfl ?_)
    refine Ta [.int .i64 v5.ft, .int .i64 v5.fr, .int .i64 v5.fq] [.int .i64 v6.ft, .int .i64 v6.fr, .int .i64 v6.fq] (.p rfl) rfl rfl Mm rfl ?_
    refine AL (by kernel_rfl) ?_
    refine Aq rfl (fun c7 => ?_) (fun c7 => ?_)
    ·have h := Ao c7 h
     refine Ad (Aa Ae rfl (qa rfl (Af ?_)))
     obtain rfl := sj h
     refine Al (sm [] [(4, bD false)] [] rfl rfl) (Ay ?_)
     exact ⟨⟨[_], ⟨.tmp _ _ rfl, tv⟩, rfl⟩, tv⟩
    ·have h := An c7 h
     refine As (Aa Ae rfl (qm rfl (AO rfl (qa rfl (Af ?_)))))
     exact Au _ h (sm [] _ _ rfl rfl)
   ·have h := An c4 h
    refine AP ?_
    exact Au _ h (sm [] _ _ rfl rfl)
  ·refine Al hs (Ad (Aa Ae rfl (qa rfl (Af ?_))))
   obtain rfl := sj h
   refine Al (sm [] [(4, bD true)] [] rfl rfl) (Ay ?_)
   exact ⟨⟨[_], ⟨.tmp _ _ rfl, tv⟩, rfl⟩, tv⟩
theorem H4 (N : Nat) (p0 : Ah) (p1 : List Ab) (r : Bool) (h : Ct N p0 p1 = some r) : Az Tryz.prog 6 [.e (.agg [sC (p0.fb.map Aj), sC (p0.fc.map Aj), sC (p0.fd.map Aj), sC (p0.fa.map Ak)]), pD (.sl (p1.map Ac))] [] (bD r) := by
 unfold Ct at h
 refine Ar (n := 67) (rs := [.tmp 4]) Tryz.func6 rfl rfl rfl (AY rfl) (AY rfl) rfl fun w0 S0 => ?_
 refine Ad (Aa Ae rfl (qb rfl (qa rfl (Af (Ad ?_)))))
 refine AS h (fun v1 => mk [(1, pD (.sl (p1.map Ac))), (2, oD (.ptr 2 0)), (24, bD v1)] [(2, .box [sC (p0.fb.map Aj), sC (p0.fc.map Aj), sC (p0.fd.map Aj), sC (p0.fa.map Ak)])]) (fun j1 h => ?_) (fun v1 h => ?_)
 ·refine Aa Ae rfl ?_
  obtain ⟨v2, a2, h⟩ := bind_some h
  refine AG [] (HA N v2 a2) UL rfl (CB rfl (qm rfl ?_))
  refine AH (t := 15) rfl (fun c3 => ?_) (fun c3 => ?_)
  ·have h := Ao c3 h
   refine qn rfl (qn rfl (qn rfl (qp rfl (qm rfl (qn rfl (qn rfl (qn rfl (qp rfl (Af ?_)))))))))
   exact Au _ h (sm [] _ _ rfl rfl)
  ·have h := An c3 h
   refine qL C9 Ck rfl ?_
   obtain ⟨v4, a4, h⟩ := bind_some h
   refine AG [] (KZ N p0 v4 a4) VH rfl (CB rfl (qp rfl (qm rfl ?_)))
   refine AH (t := 20) rfl (fun c5 => ?_) (fun c5 => ?_)
   ·have h := Ao c5 h
    refine qn rfl (qn rfl (qn rfl (qp rfl (Af ?_))))
    exact Au _ h (sm [] _ _ rfl rfl)
   ·have h := An c5 h
    refine qm rfl (AM AI rfl (Ea rfl (qp rfl (Af ?_))))
    exact Au _ h (sm [] _ _ rfl rfl)
 ·refine Aq rfl (fun c6 => ?_) (fun c6 => ?_)
  ·have h := Ao c6 h
   refine Ad (Aa Ae rfl ?_)
   obtain ⟨v7, a7, h⟩ := bind_some h
   refine AG [] (HA N v7 a7) UL rfl (qa rfl (Af ?_))
   obtain rfl := sj h
   refine Al (sm [] [(4, bD v7)] [] rfl rfl) (Ay ?_)
   exact ⟨⟨[_], ⟨.tmp _ _ rfl, tv⟩, rfl⟩, tv⟩
  ·have h := An c6 h
   refine As (Ad (Aa Ae rfl (qL C9 Ck rfl (qm rfl ?_))))
   obtain ⟨v8, a8, h⟩ := bind_some h
   refine AG [] ((CN N p1 v8 a8).share rfl) TS rfl ?_
   obtain ⟨v9, a9, h⟩ := bind_some h
   refine AG [] ((Ml N p0 v8 v9 a9).share rfl) VI rfl (qm rfl (qx rfl (qx rfl (qz IQ rfl (qs Ck rfl (qa rfl (AL (by kernel_rfl) (Ad (Aa Ae rfl (qL C9 Ck rfl (qm rfl ?_)))))))))))
   obtain ⟨v10, a10, h⟩ := bind_some h
   refine AG [2001, 2002, 2003] (Kd N p0 p1 v10 a10) Vx rfl (qm rfl (qx rfl (qx rfl (qz IQ rfl (qs Ck rfl (qa rfl (Af (Ad (Aa Ae rfl (qL C9 Ck rfl ?_))))))))))
   obtain ⟨v11, a11, h⟩ := bind_some h
   refine AG [2004] (GN N p0 v11 a11) Tw rfl (qm rfl (qx rfl (qx rfl (qa rfl (qa rfl (Af (Ad (Aa Ae rfl (qL C9 Ck rfl ?_)))))))))
   obtain ⟨v12, a12, h⟩ := bind_some h
   refine AG [2005] (Jk N p0 v12 a12) VY rfl (qm rfl (qx rfl (qx rfl (qa rfl (qa rfl (Af ?_))))))
   refine AS h (fun v13 => mk [(4, bD v13)] []) (fun j13 h => ?_) (fun v13 h => ?_)
   ·refine Aa Ae rfl (qm rfl (qm rfl (CR rfl (qm rfl ?_))))
    refine AH (t := 52) rfl (fun c14 => ?_) (fun c14 => ?_)
    ·have h := Ao c14 h
     refine qm rfl (qm rfl (CR rfl (qp rfl (qm rfl ?_))))
     refine AH (t := 57) rfl (fun c15 => ?_) (fun c15 => ?_)
     ·have h := Ao c15 h
      refine qL C9 Ck rfl (qL C9 Ck rfl ?_)
      obtain ⟨v16, a16, h⟩ := bind_some h
      refine Ew [] [2001, 2002, 2003] (J2 N v9.1 v10.1 v16 a16) VV De rfl (qp rfl (qm rfl ?_))
      refine AH (t := 62) rfl (fun c17 => ?_) (fun c17 => ?_)
      ·have h := Ao c17 h
       refine qm rfl (qm rfl ?_)
       obtain ⟨v18, a18, h⟩ := bind_some h
       refine Ew [] [2004, 2005] (Ks N v11.1 v12.1 v18 a18) V9 De rfl (qp rfl (qa rfl (Af ?_)))
       exact Au _ h (sm [] _ _ rfl rfl)
      ·have h := An c17 h
       refine qn rfl (qn rfl (qn rfl (qp rfl (qa rfl (Af ?_)))))
       exact Au _ h (sm [] _ _ rfl rfl)
     ·have h := An c15 h
      refine qn rfl (qn rfl (qn rfl (qp rfl (qm rfl (qn rfl (qn rfl (qn rfl (qp rfl (qa rfl (Af ?_))))))))))
      exact Au _ h (sm [] _ _ rfl rfl)
    ·have h := An c14 h
     refine qn rfl (qn rfl (qn rfl (qp rfl (qm rfl (qn rfl (qn rfl (qn rfl (qp rfl (qm rfl (qn rfl (qn rfl (qn rfl (qp rfl (qa rfl (Af ?_)))))))))))))))
     exact Au _ h (sm [] _ _ rfl rfl)
   ·obtain rfl := sj h
    refine Al (sm [] [(4, bD v13)] [] rfl rfl) (Ay ?_)
    exact ⟨⟨[_], ⟨.tmp _ _ rfl, tv⟩, rfl⟩, tv⟩
end Go.Lift
