/- Lemmas for ReachVersionsSaid, which YtfnobkfnohhmmaaFinW4 proves. -/
import Derived.Test.YtfnobkfnohhmmaaCode2
/- That the code does what the shallow programs do, function by function. Written by a program (gen.py). -/
namespace Go.Lift
open Go.RowKit
open Go.Proofs
set_option maxRecDepth 10000 in
theorem Fx (N : Nat) (p0 : List Ae) (p1 : Int) (p2 : Int) (p3 : Int) (p4 : (Ae × Ae) → Option Int) (r : Int × Bool × (List Ae)) (h : CQ N p0 p1 p2 p3 p4 = some r) : Bn Try.prog 69 [.e (.one (.own 90000)), .e (.one (.pure (.val (.int .i64 p1)))), .e (.one (.pure (.val (.int .i64 p2)))), .e (.one (.pure (.val (.int .i64 p3)))), .e (.one (.clo (BD (Dv true Af true Af) Co p4)))] [(.vec 3 (p0.map Af), .vec 3 (r.2.2.map Af))] [] (.tup [.one (.pure (.val (.int .i64 r.1))), .one (.pure (.val (.bool r.2.1)))]) := by
 unfold CQ at h
 refine Bf (n := 178) (rs := [.tmp 10, .tmp 11]) Try.func69 rfl rfl rfl (AV rfl) (AV rfl) rfl rfl (AV rfl) rfl (AV rfl) fun w0 S0 GL => ?_
 refine Ak (sm [] [(0, .e (.one (.own 90000))), (1, .e (.one (.pure (.val (.int .i64 p1))))), (2, .e (.one (.pure (.val (.int .i64 p2))))), (3, .e (.one (.pure (.val (.int .i64 p3))))), (4, .e (.one (.clo (BD (Dv true Af true Af) Co p4))))] [(90000, .vec 3 (p0.map Af))] rfl rfl) (Ab (Aa Ac rfl (qa rfl (qa rfl (Ad (Ab (Aa Ac rfl (qm rfl (qm rfl (qm rfl (qm rfl (qm rfl (qm rfl ?_)))))))))))))
 obtain ⟨v1, a1, b1, h⟩ := Ah h
 refine qI AD Aw a1 (Ag b1) rfl (qJ AU Aw (Ag b1) rfl (qm rfl (qm rfl ?_)))
 obtain ⟨v2, a2, b2, h⟩ := Ah h
 refine qI AD Aw a2 (Ag b2) rfl (qJ AU Aw (Ag b2) rfl ?_)
 obtain ⟨v3, a3, b3, h⟩ := Ah h
 refine qI AD Aw a3 (Ag b3) rfl ?_
 refine AX rfl rfl rfl rfl (Ag b3) rfl Aw rfl (AV rfl) (AY Af p0 _ v1) ?_
 obtain ⟨v4, a4, b4, h⟩ := Ah h
 refine qI AD Aw a4 (Ag b4) rfl ?_
 refine AX rfl rfl rfl rfl (Ag b4) rfl Aw rfl (AV rfl) (AY Af (p0.set ((p1).toNat) v1) _ v2) ?_
 refine AF (by kernel_rfl) (Ab (Aa Ac rfl (qm rfl (AQ rfl (qm rfl (Cl rfl (qa rfl (qa rfl (Ad (Ab ?_))))))))))
 refine AB (L := BZ N p0 p1 p2 p3 p4 v1 v2) h (fun v5 => mk [(0, .e (.one (.own 90000))), (1, .e (.one (.pure (.val (.int .i64 p1))))), (4, .e (.one (.clo (BD (Dv true Af true Af) Co p4)))), (12, .e (.one (.pure (.val (.int .i64 v5))))), (13, .e (.one (.pure (.val (.int .i64 ((IntKind.wrap .i64 (p2 - 1))))))))] [(90000, .vec 3 (((p0.set ((p1).toNat) v1).set ((p3).toNat) v2).map Af))]) (fun v6 => mk [(0, .e (.one (.own 90000))), (1, .e (.one (.pure (.val (.int .i64 p1))))), (4, .e (.one (.clo (BD (Dv true Af true Af) Co p4)))), (12, .e (.one (.pure (.val (.int .i64 v6))))), (13, .e (.one (.pure (.val (.int .i64 ((IntKind.wrap .i64 (p2 - 1))))))))] [(90000, .vec 3 (((p0.set ((p1).toNat) v1).set ((p3).toNat) v2).map Af))]) (fun _ _ => rfl) (sm [] _ _ rfl rfl) (fun j5 n5 v5 h => ?_) (fun v6 s h hs => ?_)
 ·unfold BZ at h
  refine Ab ?_
  refine AO h (fun v7 => mk [(0, .e (.one (.own 90000))), (1, .e (.one (.pure (.val (.int .i64 p1))))), (4, .e (.one (.clo (BD (Dv true Af true Af) Co p4)))), (12, .e (.one (.pure (.val (.int .i64 v5))))), (13, .e (.one (.pure (.val (.int .i64 ((IntKind.wrap .i64 (p2 - 1)))))))), (47, .e (.one (.pure (.val (.bool v7)))))] [(90000, .vec 3 (((p0.set ((p1).toNat) v1).set ((p3).toNat) v2).map Af))]) (fun j7 h => ?_) (fun v7 h => ?_)
  ·refine Aa Ac rfl (qm rfl (qm rfl (Id rfl (qm rfl ?_))))
   refine AA (t := 35) rfl (fun c8 => ?_) (fun c8 => ?_)
   ·have h := Am c8 h
    refine qm rfl (qm rfl (qm rfl ?_))
    obtain ⟨v9, a9, b9, h⟩ := Ah h
    refine qI AD Aw a9 (Ag b9) rfl (qJ AU Aw (Ag b9) rfl (qm rfl (qm rfl ?_)))
    obtain ⟨v10, a10, b10, h⟩ := Ah h
    refine qI AD Aw a10 (Ag b10) rfl (qJ AU Aw (Ag b10) rfl ?_)
    obtain ⟨v11, a11, h⟩ := bind_some h
    refine Dy (ds0 := [_, _]) (ar := (Dv true Af true Af) ((v9, v10))) (.g rfl rfl) rfl rfl ⟨rfl, rfl, trivial⟩ rfl rfl rfl (DA (Eb _ _ _ _ Bc Bc) a11) ?_
    refine AT rfl (qp rfl (AF (by kernel_rfl) ?_))
    exact As _ h (sm [] _ _ rfl rfl)
   ·have h := An c8 h
    refine qn rfl (qn rfl (qn rfl (qn rfl (qn rfl (qn rfl (qn rfl (qn rfl (qn rfl (qn rfl (qn rfl (qp rfl (AF (by kernel_rfl) ?_))))))))))))
    exact As _ h (sm [] _ _ rfl rfl)
  ·refine Ao rfl (fun c12 => ?_) (fun c12 => ?_)
   ·have h := Am c12 h
    refine Ap (AI (Aa Ac rfl (qm rfl (AQ rfl (qa rfl (Ad ?_))))))
    exact As _ h (sm [] _ _ rfl rfl)
   ·have h := An c12 h
    refine AS ?_
    exact As _ h (sm [] _ _ rfl rfl)
 ·refine Ak hs (Ab ?_)
  refine AB (L := BU N p0 p1 p3 p4 v1 v2 v6) h (fun v13 => mk [(0, .e (.one (.own 90000))), (1, .e (.one (.pure (.val (.int .i64 p1))))), (4, .e (.one (.clo (BD (Dv true Af true Af) Co p4)))), (12, .e (.one (.pure (.val (.int .i64 v6))))), (13, .e (.one (.pure (.val (.int .i64 v13)))))] [(90000, .vec 3 (((p0.set ((p1).toNat) v1).set ((p3).toNat) v2).map Af))]) (fun v14 => mk [(0, .e (.one (.own 90000))), (1, .e (.one (.pure (.val (.int .i64 p1))))), (4, .e (.one (.clo (BD (Dv true Af true Af) Co p4)))), (12, .e (.one (.pure (.val (.int .i64 v6))))), (13, .e (.one (.pure (.val (.int .i64 v14)))))] [(90000, .vec 3 (((p0.set ((p1).toNat) v1).set ((p3).toNat) v2).map Af))]) (fun _ _ => rfl) (sm [] _ _ rfl rfl) (fun j13 n13 v13 h => ?_) (fun v14 s h hs => ?_)
  ·unfold BU at h
   refine Ab ?_
   refine AO h (fun v15 => mk [(0, .e (.one (.own 90000))), (1, .e (.one (.pure (.val (.int .i64 p1))))), (4, .e (.one (.clo (BD (Dv true Af true Af) Co p4)))), (12, .e (.one (.pure (.val (.int .i64 v6))))), (13, .e (.one (.pure (.val (.int .i64 v13))))), (66, .e (.one (.pure (.val (.bool v15)))))] [(90000, .vec 3 (((p0.set ((p1).toNat) v1).set ((p3).toNat) v2).map Af))]) (fun j15 h => ?_) (fun v15 h => ?_)
   ·refine Aa Ac rfl (qm rfl (qm rfl (Id rfl (qm rfl ?_))))
    refine AA (t := 53) rfl (fun c16 => ?_) (fun c16 => ?_)
    ·have h := Am c16 h
     refine qm rfl (qm rfl (qm rfl ?_))
     obtain ⟨v17, a17, b17, h⟩ := Ah h
     refine qI AD Aw a17 (Ag b17) rfl (qJ AU Aw (Ag b17) rfl (qm rfl (qm rfl ?_)))
     obtain ⟨v18, a18, b18, h⟩ := Ah h
     refine qI AD Aw a18 (Ag b18) rfl (qJ AU Aw (Ag b18) rfl ?_)
     obtain ⟨v19, a19, h⟩ := bind_some h
     refine Dy (ds0 := [_, _]) (ar := (Dv true Af true Af) ((v17, v18))) (.g rfl rfl) rfl rfl ⟨rfl, rfl, trivial⟩ rfl rfl rfl (DA (Eb _ _ _ _ Bc Bc) a19) ?_
     refine AT rfl (Cy rfl (qp rfl (AF (by kernel_rfl) ?_)))
     exact As _ h (sm [] _ _ rfl rfl)
    ·have h := An c16 h
     refine qn rfl (qn rfl (qn rfl (qn rfl (qn rfl (qn rfl (qn rfl (qn rfl (qn rfl (qn rfl (qn rfl (qn rfl (qp rfl (AF (by kernel_rfl) ?_)))))))))))))
     exact As _ h (sm [] _ _ rfl rfl)
   ·refine Ao rfl (fun c20 => ?_) (fun c20 => ?_)
    ·have h := Am c20 h
     refine Ap (AI (Aa Ac rfl (qm rfl (Cl rfl (qa rfl (Ad ?_))))))
     exact As _ h (sm [] _ _ rfl rfl)
    ·have h := An c20 h
     refine AS ?_
     exact As _ h (sm [] _ _ rfl rfl)
  ·refine Ak hs (Ab (Ab (Aa Ac rfl (qm rfl (qm rfl (Es rfl (Ad ?_)))))))
   refine Ao rfl (fun c21 => ?_) (fun c21 => ?_)
   ·have h := Am c21 h
    refine Ab (Aa Ac rfl (qm rfl (qm rfl (qm rfl (qm rfl (qm rfl (qm rfl ?_)))))))
    obtain ⟨v22, a22, b22, h⟩ := Ah h
    refine qI AD Aw a22 (Ag b22) rfl (qJ AU Aw (Ag b22) rfl (qm rfl (qm rfl ?_)))
    obtain ⟨v23, a23, b23, h⟩ := Ah h
    refine qI AD Aw a23 (Ag b23) rfl (qJ AU Aw (Ag b23) rfl ?_)
    obtain ⟨v24, a24, b24, h⟩ := Ah h
    refine qI AD Aw a24 (Ag b24) rfl ?_
    refine AX rfl rfl rfl rfl (Ag b24) rfl Aw rfl (AV rfl) (AY Af ((p0.set ((p1).toNat) v1).set ((p3).toNat) v2) _ v22) ?_
    obtain ⟨v25, a25, b25, h⟩ := Ah h
    refine qI AD Aw a25 (Ag b25) rfl ?_
    refine AX rfl rfl rfl rfl (Ag b25) rfl Aw rfl (AV rfl) (AY Af (((p0.set ((p1).toNat) v1).set ((p3).toNat) v2).set ((v14).toNat) v22) _ v23) ?_
    refine AF (by kernel_rfl) (Ab (Aa Ac rfl (qm rfl (qa rfl (qa rfl (Ad ?_))))))
    obtain rfl := sj h
    refine Ak (sm [] [(10, .e (.one (.pure (.val (.int .i64 v14))))), (11, .e (.one (.pure (.val (.bool true)))))] [(90000, .vec 3 (((((p0.set ((p1).toNat) v1).set ((p3).toNat) v2).set ((v14).toNat) v22).set ((p1).toNat) v23).map Af))] rfl rfl) (Ax ?_)
    exact ⟨⟨[_, _], ⟨.tmp _ _ rfl, ⟨.tmp _ _ rfl, trivial⟩⟩, rfl⟩, ⟨rfl, trivial⟩, trivial⟩
   ·have h := An c21 h
    refine Ap (Ab (Aa Ac rfl (qm rfl (qm rfl (qm rfl (qm rfl (qm rfl (qm rfl ?_))))))))
    obtain ⟨v26, a26, b26, h⟩ := Ah h
    refine qI AD Aw a26 (Ag b26) rfl (qJ AU Aw (Ag b26) rfl (qm rfl (qm rfl ?_)))
    obtain ⟨v27, a27, b27, h⟩ := Ah h
    refine qI AD Aw a27 (Ag b27) rfl (qJ AU Aw (Ag b27) rfl ?_)
    obtain ⟨v28, a28, b28, h⟩ := Ah h
    refine qI AD Aw a28 (Ag b28) rfl ?_
    refine AX rfl rfl rfl rfl (Ag b28) rfl Aw rfl (AV rfl) (AY Af ((p0.set ((p1).toNat) v1).set ((p3).toNat) v2) _ v26) ?_
    obtain ⟨v29, a29, b29, h⟩ := Ah h
    refine qI AD Aw a29 (Ag b29) rfl ?_
    refine AX rfl rfl rfl rfl (Ag b29) rfl Aw rfl (AV rfl) (AY Af (((p0.set ((p1).toNat) v1).set ((p3).toNat) v2).set ((v6).toNat) v26) _ v27) ?_
    refine AF (by kernel_rfl) (Ab (Aa Ac rfl (qm rfl (AQ rfl (qa rfl (Ad (Ab (Aa Ac rfl (qm rfl (Cl rfl (qa rfl (Ad (Ab ?_)))))))))))))
    refine AB (L := BS N p1 p4) h (fun v30 => mk [(0, .e (.one (.own 90000))), (1, .e (.one (.pure (.val (.int .i64 p1))))), (4, .e (.one (.clo (BD (Dv true Af true Af) Co p4)))), (12, .e (.one (.pure (.val (.int .i64 v30.2.1))))), (13, .e (.one (.pure (.val (.int .i64 v30.2.2)))))] [(90000, .vec 3 (v30.1.map Af))]) (fun v31 => mk [(0, .e (.one (.own 90000))), (1, .e (.one (.pure (.val (.int .i64 p1))))), (13, .e (.one (.pure (.val (.int .i64 v31.2)))))] [(90000, .vec 3 (v31.1.map Af))]) (fun _ _ => rfl) (sm [] _ _ rfl rfl) (fun j30 n30 v30 h => ?_) (fun v31 s h hs => ?_)
    ·unfold BS at h
     refine AI (Ab ?_)
     refine AB (L := BV N p1 p4 v30) h (fun v32 => mk [(0, .e (.one (.own 90000))), (1, .e (.one (.pure (.val (.int .i64 p1))))), (4, .e (.one (.clo (BD (Dv true Af true Af) Co p4)))), (12, .e (.one (.pure (.val (.int .i64 v32))))), (13, .e (.one (.pure (.val (.int .i64 v30.2.2)))))] [(90000, .vec 3 (v30.1.map Af))]) (fun v33 => mk [(0, .e (.one (.own 90000))), (1, .e (.one (.pure (.val (.int .i64 p1))))), (4, .e (.one (.clo (BD (Dv true Af true Af) Co p4)))), (12, .e (.one (.pure (.val (.int .i64 v33))))), (13, .e (.one (.pure (.val (.int .i64 v30.2.2)))))] [(90000, .vec 3 (v30.1.map Af))]) (fun _ _ => rfl) (sm [] _ _ rfl rfl) (fun j32 n32 v32 h => ?_) (fun v33 s h hs => ?_)
     ·unfold BV at h
      refine Ab ?_
      refine AO h (fun v34 => mk [(0, .e (.one (.own 90000))), (1, .e (.one (.pure (.val (.int .i64 p1))))), (4, .e (.one (.clo (BD (Dv true Af true Af) Co p4)))), (12, .e (.one (.pure (.val (.int .i64 v32))))), (13, .e (.one (.pure (.val (.int .i64 v30.2.2))))), (120, .e (.one (.pure (.val (.bool v34)))))] [(90000, .vec 3 (v30.1.map Af))]) (fun j34 h => ?_) (fun v34 h => ?_)
      ·refine Aa Ac rfl (qm rfl (qm rfl (Id rfl (qm rfl ?_))))
       refine AA (t := 108) rfl (fun c35 => ?_) (fun c35 => ?_)
       ·have h := Am c35 h
        refine qm rfl (qm rfl (qm rfl ?_))
        obtain ⟨v36, a36, b36, h⟩ := Ah h
        refine qI AD Aw a36 (Ag b36) rfl (qJ AU Aw (Ag b36) rfl (qm rfl (qm rfl ?_)))
        obtain ⟨v37, a37, b37, h⟩ := Ah h
        refine qI AD Aw a37 (Ag b37) rfl (qJ AU Aw (Ag b37) rfl ?_)
        obtain ⟨v38, a38, h⟩ := bind_some h
        refine Dy (ds0 := [_, _]) (ar := (Dv true Af true Af) ((v36, v37))) (.g rfl rfl) rfl rfl ⟨rfl, rfl, trivial⟩ rfl rfl rfl (DA (Eb _ _ _ _ Bc Bc) a38) ?_
        refine AT rfl (qp rfl (AF (by kernel_rfl) ?_))
        exact As _ h (sm [] _ _ rfl rfl)
       ·have h := An c35 h
        refine qn rfl (qn rfl (qn rfl (qn rfl (qn rfl (qn rfl (qn rfl (qn rfl (qn rfl (qn rfl (qn rfl (qp rfl (AF (by kernel_rfl) ?_))))))))))))
        exact As _ h (sm [] _ _ rfl rfl)
      ·refine Ao rfl (fun c39 => ?_) (fun c39 => ?_)
       ·have h := Am c39 h
        refine Ap (AI (Aa Ac rfl (qm rfl (AQ rfl (qa rfl (Ad ?_))))))
        exact As _ h (sm [] _ _ rfl rfl)
       ·have h := An c39 h
        refine AS ?_
        exact As _ h (sm [] _ _ rfl rfl)
     ·refine Ak hs (Ab ?_)
      refine AB (L := BR N p1 p4 v30 v33) h (fun v40 => mk [(0, .e (.one (.own 90000))), (1, .e (.one (.pure (.val (.int .i64 p1))))), (4, .e (.one (.clo (BD (Dv true Af true Af) Co p4)))), (12, .e (.one (.pure (.val (.int .i64 v33))))), (13, .e (.one (.pure (.val (.int .i64 v40)))))] [(90000, .vec 3 (v30.1.map Af))]) (fun v41 => mk [(0, .e (.one (.own 90000))), (1, .e (.one (.pure (.val (.int .i64 p1))))), (4, .e (.one (.clo (BD (Dv true Af true Af) Co p4)))), (12, .e (.one (.pure (.val (.int .i64 v33))))), (13, .e (.one (.pure (.val (.int .i64 v41)))))] [(90000, .vec 3 (v30.1.map Af))]) (fun _ _ => rfl) (sm [] _ _ rfl rfl) (fun j40 n40 v40 h => ?_) (fun v41 s h hs => ?_)
      ·unfold BR at h
       refine Ab ?_
       refine AO h (fun v42 => mk [(0, .e (.one (.own 90000))), (1, .e (.one (.pure (.val (.int .i64 p1))))), (4, .e (.one (.clo (BD (Dv true Af true Af) Co p4)))), (12, .e (.one (.pure (.val (.int .i64 v33))))), (13, .e (.one (.pure (.val (.int .i64 v40))))), (139, .e (.one (.pure (.val (.bool v42)))))] [(90000, .vec 3 (v30.1.map Af))]) (fun j42 h => ?_) (fun v42 h => ?_)
       ·refine Aa Ac rfl (qm rfl (qm rfl (Id rfl (qm rfl ?_))))
        refine AA (t := 126) rfl (fun c43 => ?_) (fun c43 => ?_)
        ·have h := Am c43 h
         refine qm rfl (qm rfl (qm rfl ?_))
         obtain ⟨v44, a44, b44, h⟩ := Ah h
         refine qI AD Aw a44 (Ag b44) rfl (qJ AU Aw (Ag b44) rfl (qm rfl (qm rfl ?_)))
         obtain ⟨v45, a45, b45, h⟩ := Ah h
         refine qI AD Aw a45 (Ag b45) rfl (qJ AU Aw (Ag b45) rfl ?_)
         obtain ⟨v46, a46, h⟩ := bind_some h
         refine Dy (ds0 := [_, _]) (ar := (Dv true Af true Af) ((v44, v45))) (.g rfl rfl) rfl rfl ⟨rfl, rfl, trivial⟩ rfl rfl rfl (DA (Eb _ _ _ _ Bc Bc) a46) ?_
         refine AT rfl (Cy rfl (qp rfl (AF (by kernel_rfl) ?_)))
         exact As _ h (sm [] _ _ rfl rfl)
        ·have h := An c43 h
         refine qn rfl (qn rfl (qn rfl (qn rfl (qn rfl (qn rfl (qn rfl (qn rfl (qn rfl (qn rfl (qn rfl (qn rfl (qp rfl (AF (by kernel_rfl) ?_)))))))))))))
         exact As _ h (sm [] _ _ rfl rfl)
       ·refine Ao rfl (fun c47 => ?_) (fun c47 => ?_)
        ·have h := Am c47 h
         refine Ap (AI (Aa Ac rfl (qm rfl (Cl rfl (qa rfl (Ad ?_))))))
         exact As _ h (sm [] _ _ rfl rfl)
        ·have h := An c47 h
         refine AS ?_
         exact As _ h (sm [] _ _ rfl rfl)
      ·refine Ak hs (Ab (Ab (Aa Ac rfl (qm rfl (qm rfl (Es rfl (Ad ?_)))))))
       refine Ao rfl (fun c48 => ?_) (fun c48 => ?_)
       ·have h := Am c48 h
        refine AS ?_
        exact As _ h (sm [] _ _ rfl rfl)
       ·have h := An c48 h
        refine Ap (Ab (Aa Ac rfl (qm rfl (qm rfl (qm rfl (qm rfl (qm rfl (qm rfl ?_))))))))
        obtain ⟨v49, a49, b49, h⟩ := Ah h
        refine qI AD Aw a49 (Ag b49) rfl (qJ AU Aw (Ag b49) rfl (qm rfl (qm rfl ?_)))
        obtain ⟨v50, a50, b50, h⟩ := Ah h
        refine qI AD Aw a50 (Ag b50) rfl (qJ AU Aw (Ag b50) rfl ?_)
        obtain ⟨v51, a51, b51, h⟩ := Ah h
        refine qI AD Aw a51 (Ag b51) rfl ?_
        refine AX rfl rfl rfl rfl (Ag b51) rfl Aw rfl (AV rfl) (AY Af v30.1 _ v49) ?_
        obtain ⟨v52, a52, b52, h⟩ := Ah h
        refine qI AD Aw a52 (Ag b52) rfl ?_
        refine AX rfl rfl rfl rfl (Ag b52) rfl Aw rfl (AV rfl) (AY Af (v30.1.set ((v33).toNat) v49) _ v50) ?_
        refine AF (by kernel_rfl) (Ab (Aa Ac rfl (qm rfl (AQ rfl (qa rfl (Ad (Aa Ac rfl (qm rfl (Cl rfl (qa rfl (Ad ?_)))))))))))
        exact As _ h (sm [] _ _ rfl rfl)
    ·refine Ak hs (Ab (Aa Ac rfl (qm rfl (qm rfl (qm rfl (qm rfl (qm rfl (qm rfl ?_))))))))
     obtain ⟨v53, a53, b53, h⟩ := Ah h
     refine qI AD Aw a53 (Ag b53) rfl (qJ AU Aw (Ag b53) rfl (qm rfl (qm rfl ?_)))
     obtain ⟨v54, a54, b54, h⟩ := Ah h
     refine qI AD Aw a54 (Ag b54) rfl (qJ AU Aw (Ag b54) rfl ?_)
     obtain ⟨v55, a55, b55, h⟩ := Ah h
     refine qI AD Aw a55 (Ag b55) rfl ?_
     refine AX rfl rfl rfl rfl (Ag b55) rfl Aw rfl (AV rfl) (AY Af v31.1 _ v53) ?_
     obtain ⟨v56, a56, b56, h⟩ := Ah h
     refine qI AD Aw a56 (Ag b56) rfl ?_
     refine AX rfl rfl rfl rfl (Ag b56) rfl Aw rfl (AV rfl) (AY Af (v31.1.set ((v31.2).toNat) v53) _ v54) ?_
     refine AF (by kernel_rfl) (Ab (Aa Ac rfl (qm rfl (qa rfl (qa rfl (Ad ?_))))))
     obtain rfl := sj h
     refine Ak (sm [] [(10, .e (.one (.pure (.val (.int .i64 v31.2))))), (11, .e (.one (.pure (.val (.bool false)))))] [(90000, .vec 3 (((v31.1.set ((v31.2).toNat) v53).set ((p1).toNat) v54).map Af))] rfl rfl) (Ax ?_)
     exact ⟨⟨[_, _], ⟨.tmp _ _ rfl, ⟨.tmp _ _ rfl, trivial⟩⟩, rfl⟩, ⟨rfl, trivial⟩, trivial⟩
set_option maxRecDepth 10000 in
theorem Fy (N : Nat) (rc : (List Ae) → Int → Int → Int → ((Ae × Ae) → Option Int) → Option ((List Ae))) (hrc : ∀ (p0 : List Ae) (p1 : Int) (p2 : Int) (p3 : Int) (p4 : (Ae × Ae) → Option Int) (r : (List Ae)), rc p0 p1 p2 p3 p4 = some r → Bn Try.prog 45 [.e (.one (.own 90000)), .e (.one (.pure (.val (.int .i64 p1)))), .e (.one (.pure (.val (.int .i64 p2)))), .e (.one (.pure (.val (.int .i64 p3)))), .e (.one (.clo (BD (Dv true Af true Af) Co p4)))] [(.vec 3 (p0.map Af), .vec 3 (r.map Af))] [] (.tup [])) (p0 : List Ae) (p1 : Int) (p2 : Int) (p3 : Int) (p4 : (Ae × Ae) → Option Int) (r : (List Ae)) (h : CS N rc p0 p1 p2 p3 p4 = some r) : Bn Try.prog 45 [.e (.one (.own 90000)), .e (.one (.pure (.val (.int .i64 p1)))), .e (.one (.pure (.val (.int .i64 p2)))), .e (.one (.pure (.val (.int .i64 p3)))), .e (.one (.clo (BD (Dv true Af true Af) Co p4)))] [(.vec 3 (p0.map Af), .vec 3 (r.map Af))] [] (.tup []) := by
 unfold CS at h
 refine Bf (n := 148) (rs := []) Try.func45 rfl rfl rfl (AV rfl) (AV rfl) rfl rfl (AV rfl) rfl (AV rfl) fun w0 S0 GL => KV ?_
 refine Ak (sm [] [(0, .e (.one (.own 90000))), (1, .e (.one (.pure (.val (.int .i64 p1))))), (2, .e (.one (.pure (.val (.int .i64 p2))))), (3, .e (.one (.pure (.val (.int .i64 p3))))), (4, .e (.one (.clo (BD (Dv true Af true Af) Co p4))))] [(90000, .vec 3 (p0.map Af))] rfl rfl) (Ab (Aa Ac rfl (qa rfl (Ad (Ab (Aa Ac rfl (qa rfl (Ad ?_))))))))
 refine AB (L := Bb N p4 rc) h (fun v1 => mk [(0, .e (.one (.own 90000))), (1, .e (.one (.pure (.val (.int .i64 v1.2.1))))), (2, .e (.one (.pure (.val (.int .i64 v1.2.2.1))))), (3, .e (.one (.pure (.val (.int .i64 v1.2.2.2.1))))), (4, .e (.one (.clo (BD (Dv true Af true Af) Co p4)))), (10, .e (.one (.pure (.val (.bool v1.2.2.2.2.1))))), (11, .e (.one (.pure (.val (.bool v1.2.2.2.2.2)))))] [(90000, .vec 3 (v1.1.map Af))]) (fun v2 => mk [] []) (fun _ _ => rfl) (sm [] _ _ rfl rfl) (fun j1 n1 v1 h => ?_) (fun v2 s h hs => ?_)
 ·unfold Bb at h
  refine AI (Ab (Aa Ac rfl (qm rfl (qm rfl (Cl rfl (qa rfl (Ad (Ab (Ab (Aa Ac rfl (qm rfl (Id rfl (Ad ?_)))))))))))))
  refine Ao rfl (fun c3 => ?_) (fun c3 => ?_)
  ·have h := Am c3 h
   refine Ab (Aa Ac rfl (qm rfl (qm rfl (qm rfl (qm rfl ?_)))))
   obtain ⟨v4, a4, h⟩ := bind_some h
   refine CH (ds0 := [_, _, _, _]) [90000] [] [true] (EW N v1.1 v1.2.1 v1.2.2.1 p4 v4 a4) (.p rfl) S6 rfl ⟨rfl, rfl, rfl, rfl, trivial⟩ rfl rfl (by decide) ⟨rfl, trivial⟩ rfl (A2 rfl) trivial ⟨(fun h => by cases h), trivial⟩ rfl rfl rfl ?_
   refine Ad ?_
   obtain rfl := sj h
   refine Ax ⟨_, (sm [] [] [(90000, .vec 3 (v4.map Af))] rfl rfl), ?_⟩
   exact ⟨⟨[], trivial, rfl⟩, ⟨rfl, trivial⟩, trivial⟩
  ·have h := An c3 h
   refine Ap (Ab (Ab (Aa Ac rfl (qm rfl (Cm rfl (Ad ?_))))))
   refine Ao rfl (fun c5 => ?_) (fun c5 => ?_)
   ·have h := Am c5 h
    refine Ab (Aa Ac rfl (qm rfl (qm rfl (qm rfl (qm rfl ?_)))))
    obtain ⟨v6, a6, h⟩ := bind_some h
    refine CH (ds0 := [_, _, _, _]) [90000] [] [true] (FP N v1.1 v1.2.1 v1.2.2.1 p4 v6 a6) (.p rfl) Tr rfl ⟨rfl, rfl, rfl, rfl, trivial⟩ rfl rfl (by decide) ⟨rfl, trivial⟩ rfl (A2 rfl) trivial ⟨(fun h => by cases h), trivial⟩ rfl rfl rfl ?_
    refine Ad ?_
    obtain rfl := sj h
    refine Ax ⟨_, (sm [] [] [(90000, .vec 3 (v6.map Af))] rfl rfl), ?_⟩
    exact ⟨⟨[], trivial, rfl⟩, ⟨rfl, trivial⟩, trivial⟩
   ·have h := An c5 h
    refine Ap ?_
    refine AO h (fun v7 => mk [(0, .e (.one (.own 90000))), (1, .e (.one (.pure (.val (.int .i64 v1.2.1))))), (2, .e (.one (.pure (.val (.int .i64 v1.2.2.1))))), (3, .e (.one (.pure (.val (.int .i64 v7.2))))), (4, .e (.one (.clo (BD (Dv true Af true Af) Co p4)))), (10, .e (.one (.pure (.val (.bool v1.2.2.2.2.1))))), (11, .e (.one (.pure (.val (.bool v1.2.2.2.2.2))))), (12, .e (.one (.pure (.val (.int .i64 ((IntKind.wrap .i64 (v1.2.2.1 - v1.2.1))))))))] [(90000, .vec 3 (v7.1.map Af))]) (fun j7 h => ?_) (fun v7 h => ?_)
    ·refine Ab (Aa Ac rfl (qm rfl (Cy rfl (Ad ?_))))
     refine Ao rfl (fun c8 => ?_) (fun c8 => ?_)
     ·have h := Am c8 h
      refine Ab (Aa Ac rfl (qm rfl (qm rfl (qm rfl (qm rfl ?_)))))
      obtain ⟨v9, a9, h⟩ := bind_some h
      refine CH (ds0 := [_, _, _, _]) [90000] [] [true] (E1 N v1.1 v1.2.1 v1.2.2.1 p4 v9 a9) (.p rfl) Sy rfl ⟨rfl, rfl, rfl, rfl, trivial⟩ rfl rfl (by decide) ⟨rfl, trivial⟩ rfl (A2 rfl) trivial ⟨(fun h => by cases h), trivial⟩ rfl rfl rfl ?_
      refine Ad (Aa Ac rfl (qm rfl (Cl rfl (qa rfl (Ad ?_)))))
      exact As _ h (sm [] _ _ rfl rfl)
     ·have h := An c8 h
      refine Ap ?_
      exact As _ h (sm [] _ _ rfl rfl)
    ·refine Ab (Aa Ac rfl (qm rfl (qm rfl (qm rfl (qm rfl ?_)))))
     obtain ⟨v10, a10, h⟩ := bind_some h
     refine Fb [] [90000] (E9 N v7.1 v1.2.1 v1.2.2.1 p4 v10 a10) Tz DR rfl (qm rfl (qx rfl (qx rfl (qa rfl (qa rfl (Ad ?_))))))
     refine AO h (fun v11 => mk [(0, .e (.one (.own 90000))), (1, .e (.one (.pure (.val (.int .i64 v1.2.1))))), (2, .e (.one (.pure (.val (.int .i64 v1.2.2.1))))), (3, .e (.one (.pure (.val (.int .i64 v7.2))))), (4, .e (.one (.clo (BD (Dv true Af true Af) Co p4)))), (10, .e (.one (.pure (.val (.bool v1.2.2.2.2.1))))), (11, .e (.one (.pure (.val (.bool v1.2.2.2.2.2))))), (12, .e (.one (.pure (.val (.int .i64 ((IntKind.wrap .i64 (v1.2.2.1 - v1.2.1)))))))), (13, .e (.one (.pure (.val (.int .i64 v11.2.1))))), (14, .e (.one (.pure (.val (.int .i64 v11.2.2)))))] [(90000, .vec 3 (v11.1.map Af))]) (fun j11 h => ?_) (fun v11 h => ?_)
     ·refine Ab (Aa Ac rfl (qm rfl (Cm rfl (Ad ?_))))
      refine Ao rfl (fun c12 => ?_) (fun c12 => ?_)
      ·have h := Am c12 h
       refine Ab (Aa Ac rfl (qm rfl (qm rfl (qm rfl (qm rfl ?_)))))
       obtain ⟨v13, a13, h⟩ := bind_some h
       refine CH (ds0 := [_, _, _, _]) [90000] [] [true] (E3 N v7.1 v1.2.1 v1.2.2.1 p4 v13 a13) (.p rfl) Tj rfl ⟨rfl, rfl, rfl, rfl, trivial⟩ rfl rfl (by decide) ⟨rfl, trivial⟩ rfl (A2 rfl) trivial ⟨(fun h => by cases h), trivial⟩ rfl rfl rfl ?_
       refine Ad (Ab (Aa Ac rfl (qm rfl (Cl rfl (qm rfl (qm rfl (Cl rfl (Cl rfl (qa rfl (Ad (Aa Ac rfl (qa rfl (Ad ?_)))))))))))))
       exact As _ h (sm [] _ _ rfl rfl)
      ·have h := An c12 h
       refine Ap ?_
       exact As _ h (sm [] _ _ rfl rfl)
     ·refine AO h (fun v14 => mk [(0, .e (.one (.own 90000))), (1, .e (.one (.pure (.val (.int .i64 v1.2.1))))), (2, .e (.one (.pure (.val (.int .i64 v1.2.2.1))))), (3, .e (.one (.pure (.val (.int .i64 v7.2))))), (4, .e (.one (.clo (BD (Dv true Af true Af) Co p4)))), (10, .e (.one (.pure (.val (.bool v1.2.2.2.2.1))))), (11, .e (.one (.pure (.val (.bool v1.2.2.2.2.2))))), (12, .e (.one (.pure (.val (.int .i64 ((IntKind.wrap .i64 (v1.2.2.1 - v1.2.1)))))))), (13, .e (.one (.pure (.val (.int .i64 v11.2.1)))))] [(90000, .vec 3 (v14.map Af))]) (fun j14 h => ?_) (fun v14 h => ?_)
      ·refine AO h (fun v15 => mk [(0, .e (.one (.own 90000))), (1, .e (.one (.pure (.val (.int .i64 v1.2.1))))), (2, .e (.one (.pure (.val (.int .i64 v1.2.2.1))))), (3, .e (.one (.pure (.val (.int .i64 v7.2))))), (4, .e (.one (.clo (BD (Dv true Af true Af) Co p4)))), (10, .e (.one (.pure (.val (.bool v1.2.2.2.2.1))))), (11, .e (.one (.pure (.val (.bool v1.2.2.2.2.2))))), (12, .e (.one (.pure (.val (.int .i64 ((IntKind.wrap .i64 (v1.2.2.1 - v1.2.1)))))))), (13, .e (.one (.pure (.val (.int .i64 v11.2.1))))), (75, .e (.one (.pure (.val (.bool v15)))))] [(90000, .vec 3 (v11.1.map Af))]) (fun j15 h => ?_) (fun v15 h => ?_)
       ·refine Aa Ac rfl (qm rfl (qm rfl ?_))
        refine AA (t := 69) rfl (fun c16 => ?_) (fun c16 => ?_)
        ·have h := Am c16 h
         refine qm rfl (qp rfl (qm rfl ?_))
         refine AA (t := 72) rfl (fun c17 => ?_) (fun c17 => ?_)
         ·have h := Am c17 h
          refine qm rfl (Cm rfl (qp rfl (Ad ?_)))
          exact As _ h (sm [] _ _ rfl rfl)
         ·have h := An c17 h
          refine qn rfl (qn rfl (qp rfl (Ad ?_)))
          exact As _ h (sm [] _ _ rfl rfl)
        ·have h := An c16 h
         refine qn rfl (qp rfl (qm rfl (qn rfl (qn rfl (qp rfl (Ad ?_))))))
         exact As _ h (sm [] _ _ rfl rfl)
       ·refine Ao rfl (fun c18 => ?_) (fun c18 => ?_)
        ·have h := Am c18 h
         refine Ab (Aa Ac rfl (qm rfl (qm rfl (qm rfl (qm rfl ?_)))))
         obtain ⟨v19, a19, h⟩ := bind_some h
         refine CH (ds0 := [_, _, _, _]) [90000] [] [true] (Ee N v11.1 v1.2.1 v1.2.2.1 p4 v19 a19) (.p rfl) TB rfl ⟨rfl, rfl, rfl, rfl, trivial⟩ rfl rfl (by decide) ⟨rfl, trivial⟩ rfl (A2 rfl) trivial ⟨(fun h => by cases h), trivial⟩ rfl rfl rfl ?_
         refine Ad ?_
         refine Ao rfl (fun c20 => ?_) (fun c20 => ?_)
         ·have h := Am c20 h
          obtain rfl := sj h
          refine Ax ⟨_, (sm [] [] [(90000, .vec 3 (v19.2.map Af))] rfl rfl), ?_⟩
          exact ⟨⟨[], trivial, rfl⟩, ⟨rfl, trivial⟩, trivial⟩
         ·have h := An c20 h
          refine Ap ?_
          exact As _ h (sm [] _ _ rfl rfl)
        ·have h := An c18 h
         refine Ap ?_
         exact As _ h (sm [] _ _ rfl rfl)
      ·refine Ab ?_
       refine AO h (fun v21 => mk [(0, .e (.one (.own 90000))), (1, .e (.one (.pure (.val (.int .i64 v1.2.1))))), (2, .e (.one (.pure (.val (.int .i64 v1.2.2.1))))), (3, .e (.one (.pure (.val (.int .i64 v7.2))))), (4, .e (.one (.clo (BD (Dv true Af true Af) Co p4)))), (10, .e (.one (.pure (.val (.bool v1.2.2.2.2.1))))), (11, .e (.one (.pure (.val (.bool v1.2.2.2.2.2))))), (12, .e (.one (.pure (.val (.int .i64 ((IntKind.wrap .i64 (v1.2.2.1 - v1.2.1)))))))), (13, .e (.one (.pure (.val (.int .i64 v11.2.1))))), (97, .e (.one (.pure (.val (.bool v21)))))] [(90000, .vec 3 (v14.map Af))]) (fun j21 h => ?_) (fun v21 h => ?_)
       ·refine Aa Ac rfl (qm rfl (Es rfl (qm rfl ?_)))
        refine AA (t := 83) rfl (fun c22 => ?_) (fun c22 => ?_)
        ·have h := Am c22 h
         refine qm rfl (qm rfl (qm rfl (Cl rfl ?_)))
         obtain ⟨v23, a23, b23, h⟩ := Ah h
         refine qI AD Aw a23 (Ag b23) rfl (qJ AU Aw (Ag b23) rfl (qm rfl (qm rfl ?_)))
         obtain ⟨v24, a24, b24, h⟩ := Ah h
         refine qI AD Aw a24 (Ag b24) rfl (qJ AU Aw (Ag b24) rfl ?_)
         obtain ⟨v25, a25, h⟩ := bind_some h
         refine Dy (ds0 := [_, _]) (ar := (Dv true Af true Af) ((v23, v24))) (.g rfl rfl) rfl rfl ⟨rfl, rfl, trivial⟩ rfl rfl rfl (DA (Eb _ _ _ _ Bc Bc) a25) ?_
         refine AT rfl (Cy rfl (qp rfl (AF (by kernel_rfl) ?_)))
         exact As _ h (sm [] _ _ rfl rfl)
        ·have h := An c22 h
         refine qn rfl (qn rfl (qn rfl (qn rfl (qn rfl (qn rfl (qn rfl (qn rfl (qn rfl (qn rfl (qn rfl (qn rfl (qn rfl (qp rfl (AF (by kernel_rfl) ?_))))))))))))))
         exact As _ h (sm [] _ _ rfl rfl)
       ·refine Ao rfl (fun c26 => ?_) (fun c26 => ?_)
        ·have h := Am c26 h
         refine Ab (Aa Ac rfl (qm rfl (qm rfl (qm rfl (qm rfl (qm rfl ?_))))))
         obtain ⟨v27, a27, h⟩ := bind_some h
         refine CH (ds0 := [_, _, _, _, _]) [90000] [] [true] (EO N v14 v1.2.1 v1.2.2.1 v11.2.1 p4 v27 a27) (.p rfl) SK rfl ⟨rfl, rfl, rfl, rfl, rfl, trivial⟩ rfl rfl (by decide) ⟨rfl, trivial⟩ rfl (A2 rfl) trivial ⟨(fun h => by cases h), trivial⟩ rfl rfl rfl ?_
         refine qa rfl (Ad (Ab (Aa Ac rfl (qm rfl (qa rfl (Ad (AS ?_)))))))
         exact As _ h (sm [] _ _ rfl rfl)
        ·have h := An c26 h
         refine Ap (Ab (Aa Ac rfl (qm rfl (qm rfl (qm rfl (qm rfl (qm rfl ?_)))))))
         obtain ⟨v28, a28, h⟩ := bind_some h
         refine CH (ds0 := [_, _, _, _, _]) [90000] [] [true] (Fx N v14 v1.2.1 v1.2.2.1 v11.2.1 p4 v28 a28) (.p rfl) SB rfl ⟨rfl, rfl, rfl, rfl, rfl, trivial⟩ rfl rfl (by decide) ⟨rfl, trivial⟩ rfl (A2 rfl) trivial ⟨(fun h => by cases h), trivial⟩ rfl rfl rfl ?_
         refine qm rfl (qx rfl (qx rfl (qa rfl (qa rfl (Ad (Ab (Aa Ac rfl (qm rfl (qa rfl (Ad (Ab (Aa Ac rfl (qm rfl (qm rfl (Cl rfl (qm rfl (qm rfl (Cl rfl (qa rfl (qa rfl (Ad (Ab (Aa Ac rfl (qm rfl (KU rfl (by decide) (qa rfl (Ad (Ab (Aa Ac rfl (qm rfl (qm rfl (AT rfl (Ad ?_)))))))))))))))))))))))))))))))))
         refine Ao rfl (fun c29 => ?_) (fun c29 => ?_)
         ·have h := Am c29 h
          refine Ab (Aa Ac rfl (qm rfl (qm rfl (Dl rfl (qa rfl (Ad (Ab (Aa Ac rfl (qm rfl (qm rfl (qm rfl (qm rfl (qm rfl ?_)))))))))))))
          obtain ⟨v30, a30, h⟩ := bind_some h
          refine CH (ds0 := [_, _, _, _, _]) [90000] [] [true] (hrc v28.2.2 v1.2.1 v28.1 v7.2 p4 v30 a30) (.p rfl) QO rfl ⟨rfl, rfl, rfl, rfl, rfl, trivial⟩ rfl rfl (by decide) ⟨rfl, trivial⟩ rfl (A2 rfl) trivial ⟨(fun h => by cases h), trivial⟩ rfl rfl rfl ?_
          refine Ad (Aa Ac rfl (qm rfl (AQ rfl (qa rfl (Ad ?_)))))
          exact As _ h (sm [] _ _ rfl rfl)
         ·have h := An c29 h
          refine Ab (Aa Ac rfl (qm rfl (qm rfl (Dl rfl (qa rfl (Ad (Ab (Aa Ac rfl (qm rfl (qm rfl (AQ rfl (qm rfl (qm rfl (qm rfl ?_))))))))))))))
          obtain ⟨v31, a31, h⟩ := bind_some h
          refine CH (ds0 := [_, _, _, _, _]) [90000] [] [true] (hrc v28.2.2 ((IntKind.wrap .i64 (v28.1 + 1))) v1.2.2.1 v7.2 p4 v31 a31) (.p rfl) QO rfl ⟨rfl, rfl, rfl, rfl, rfl, trivial⟩ rfl rfl (by decide) ⟨rfl, trivial⟩ rfl (A2 rfl) trivial ⟨(fun h => by cases h), trivial⟩ rfl rfl rfl ?_
          refine Ad (Aa Ac rfl (qm rfl (qa rfl (Ad ?_))))
          exact As _ h (sm [] _ _ rfl rfl)
 ·cases h
theorem DM (N : Nat) : ∀ (k : Nat) (p0 : List Ae) (p1 : Int) (p2 : Int) (p3 : Int) (p4 : (Ae × Ae) → Option Int) (r : (List Ae)), Ck N k p0 p1 p2 p3 p4 = some r → Bn Try.prog 45 [.e (.one (.own 90000)), .e (.one (.pure (.val (.int .i64 p1)))), .e (.one (.pure (.val (.int .i64 p2)))), .e (.one (.pure (.val (.int .i64 p3)))), .e (.one (.clo (BD (Dv true Af true Af) Co p4)))] [(.vec 3 (p0.map Af), .vec 3 (r.map Af))] [] (.tup [])
 | 0, _, _, _, _, _, _, h => by cases h
 | k + 1, p0, p1, p2, p3, p4, r, h => Fy N (Ck N k) (DM N k) p0 p1 p2 p3 p4 r h
theorem FW (N : Nat) (p0 : List Ae) (p1 : Int) (p2 : Int) (p3 : Int) (p4 : (Ae × Ae) → Option Int) (r : (List Ae)) (h : D1 N p0 p1 p2 p3 p4 = some r) : Bn Try.prog 45 [.e (.one (.own 90000)), .e (.one (.pure (.val (.int .i64 p1)))), .e (.one (.pure (.val (.int .i64 p2)))), .e (.one (.pure (.val (.int .i64 p3)))), .e (.one (.clo (BD (Dv true Af true Af) Co p4)))] [(.vec 3 (p0.map Af), .vec 3 (r.map Af))] [] (.tup []) := DM N N p0 p1 p2 p3 p4 r h
set_option maxRecDepth 10000 in
theorem DN (N : Nat) (p0 : List Ae) (p1 : (Ae × Ae) → Option Int) (r : (List Ae)) (h : Ci N p0 p1 = some r) : Bn Try.prog 24 [.e (.one (.own 90000)), .e (.one (.clo (BD (Dv true Af true Af) Co p1)))] [(.vec 3 (p0.map Af), .vec 3 (r.map Af))] [] (.tup []) := by
 unfold Ci at h
 refine Bf (n := 14) (rs := []) Try.func24 rfl rfl rfl (AV rfl) (AV rfl) rfl rfl (AV rfl) rfl (AV rfl) fun w0 S0 GL => KV ?_
 refine Ak (sm [] [(0, .e (.one (.own 90000))), (1, .e (.one (.clo (BD (Dv true Af true Af) Co p1))))] [(90000, .vec 3 (p0.map Af))] rfl rfl) (Ab (Aa Ac rfl (qm rfl (Dj AD rfl (qa rfl (Ad (Aa Ac rfl (qm rfl (qm rfl (qm rfl (FH Q6 NT rfl ?_)))))))))))
 obtain ⟨v1, a1, h⟩ := bind_some h
 refine AC [] (H4 N ((IntKind.wrap .u64 ((p0.length : Int)))) v1 a1) So rfl (qm rfl ?_)
 obtain ⟨v2, a2, h⟩ := bind_some h
 refine CH (ds0 := [_, _, _, _, _]) [90000] [] [true] (FW N p0 0 ((p0.length : Int)) v1 p1 v2 a2) (.p rfl) QO rfl ⟨rfl, rfl, rfl, rfl, rfl, trivial⟩ rfl rfl (by decide) ⟨rfl, trivial⟩ rfl (A2 rfl) trivial ⟨(fun h => by cases h), trivial⟩ rfl rfl rfl ?_
 refine Ad ?_
 obtain rfl := sj h
 refine ⟨_, (sm [] [] [(90000, .vec 3 (v2.map Af))] rfl rfl), ?_⟩
 exact ⟨⟨[], trivial, rfl⟩, ⟨rfl, trivial⟩, trivial⟩
set_option maxRecDepth 10000 in
theorem H5 (N : Nat) (p0 : Int) (r : Bool) (h : EU N p0 = some r) : Az Try.prog 89 [.e (.one (.pure (.val (.int .i64 p0))))] [] (.e (.one (.pure (.val (.bool r))))) := by
 unfold EU at h
 refine Ar (n := 6) (rs := [.tmp 2]) Try.func89 rfl rfl rfl (AV rfl) (AV rfl) rfl fun w0 S0 => ?_
 refine Ab (Aa Ac rfl (qa rfl (Ad (Ab (Aa Ac rfl (qm rfl (qm rfl (Cd rfl (qa rfl (Ad ?_))))))))))
 obtain rfl := sj h
 refine Ak (sm [] [(2, .e (.one (.pure (.val (.bool ((p0 != p0)))))))] [] rfl rfl) (Ax ?_)
 exact ⟨⟨[_], ⟨.tmp _ _ rfl, trivial⟩, rfl⟩, trivial⟩
set_option maxRecDepth 10000 in
theorem Jb (N : Nat) (p0 : Int) (p1 : Int) (r : Int) (h : Fn N p0 p1 = some r) : Az Try.prog 72 [.e (.one (.pure (.val (.int .i64 p0)))), .e (.one (.pure (.val (.int .i64 p1))))] [] (.e (.one (.pure (.val (.int .i64 r))))) := by
 unfold Fn at h
 refine Ar (n := 20) (rs := [.tmp 4]) Try.func72 rfl rfl rfl (AV rfl) (AV rfl) rfl fun w0 S0 => ?_
 refine Ab (Aa Ac rfl (qa rfl (Ad (Ab (Aa Ac rfl (qm rfl ?_))))))
 obtain ⟨v1, a1, h⟩ := bind_some h
 refine AC [] (H5 N p0 v1 a1) RV rfl (qa rfl (Ad (Ab (Aa Ac rfl (qm rfl ?_)))))
 obtain ⟨v2, a2, h⟩ := bind_some h
 refine AC [] (H5 N p1 v2 a2) RV rfl (qa rfl (Ad (Ab (Ab (Aa Ac rfl (qm rfl (Ad ?_)))))))
 refine Ao rfl (fun c3 => ?_) (fun c3 => ?_)
 ·have h := Am c3 h
  refine Ab (Ab (Aa Ac rfl (qm rfl (Ad ?_))))
  refine Ao rfl (fun c4 => ?_) (fun c4 => ?_)
  ·have h := Am c4 h
   refine Ab (Aa Ac rfl (qa rfl (Ad ?_)))
   obtain rfl := sj h
   refine Ak (sm [] [(4, .e (.one (.pure (.val (.int .i64 0)))))] [] rfl rfl) (Ax ?_)
   exact ⟨⟨[_], ⟨.tmp _ _ rfl, trivial⟩, rfl⟩, trivial⟩
  ·have h := An c4 h
   refine Ap (Ab (Aa Ac rfl (qa rfl (Ad ?_))))
   obtain rfl := sj h
   refine Ak (sm [] [(4, .e (.one (.pure (.val (.int .i64 ((-1)))))))] [] rfl rfl) (Ax ?_)
   exact ⟨⟨[_], ⟨.tmp _ _ rfl, trivial⟩, rfl⟩, trivial⟩
 ·have h := An c3 h
  refine Ap (Ab (Ab (Aa Ac rfl (qm rfl (Ad ?_)))))
  refine Ao rfl (fun c5 => ?_) (fun c5 => ?_)
  ·have h := Am c5 h
   refine Ab (Aa Ac rfl (qa rfl (Ad ?_)))
   obtain rfl := sj h
   refine Ak (sm [] [(4, .e (.one (.pure (.val (.int .i64 1)))))] [] rfl rfl) (Ax ?_)
   exact ⟨⟨[_], ⟨.tmp _ _ rfl, trivial⟩, rfl⟩, trivial⟩
  ·have h := An c5 h
   refine Ap (Ab (Ab (Aa Ac rfl (qm rfl (qm rfl (AT rfl (Ad ?_)))))))
   refine Ao rfl (fun c6 => ?_) (fun c6 => ?_)
   ·have h := Am c6 h
    refine Ab (Aa Ac rfl (qa rfl (Ad ?_)))
    obtain rfl := sj h
    refine Ak (sm [] [(4, .e (.one (.pure (.val (.int .i64 ((-1)))))))] [] rfl rfl) (Ax ?_)
    exact ⟨⟨[_], ⟨.tmp _ _ rfl, trivial⟩, rfl⟩, trivial⟩
   ·have h := An c6 h
    refine Ap (Ab (Ab (Aa Ac rfl (qm rfl (qm rfl (Es rfl (Ad ?_)))))))
    refine Ao rfl (fun c7 => ?_) (fun c7 => ?_)
    ·have h := Am c7 h
     refine Ab (Aa Ac rfl (qa rfl (Ad ?_)))
     obtain rfl := sj h
     refine Ak (sm [] [(4, .e (.one (.pure (.val (.int .i64 1)))))] [] rfl rfl) (Ax ?_)
     exact ⟨⟨[_], ⟨.tmp _ _ rfl, trivial⟩, rfl⟩, trivial⟩
    ·have h := An c7 h
     refine Ap (Ab (Aa Ac rfl (qa rfl (Ad ?_))))
     obtain rfl := sj h
     refine Ak (sm [] [(4, .e (.one (.pure (.val (.int .i64 0)))))] [] rfl rfl) (Ax ?_)
     exact ⟨⟨[_], ⟨.tmp _ _ rfl, trivial⟩, rfl⟩, trivial⟩
set_option maxRecDepth 10000 in
theorem Fa (N : Nat) (p0 : List Int) (p1 : List Int) (r : Int) (h : Db N p0 p1 = some r) : Az Try.prog 48 [.e (.one (.pure (.sl (p0.map Aj)))), .e (.one (.pure (.sl (p1.map Aj))))] [] (.e (.one (.pure (.val (.int .i64 r))))) := by
 unfold Db at h
 refine Ar (n := 36) (rs := [.tmp 4]) Try.func48 rfl rfl rfl (AV rfl) (AV rfl) rfl fun w0 S0 => ?_
 refine Ab (Aa Ac rfl (qa rfl (Ad (Ab (Ab (Aa Ac rfl (qm rfl (AN AJ rfl (qm rfl (Ad ?_))))))))))
 refine AB (L := CP N p0 p1) h (fun v1 => mk [(0, .e (.one (.pure (.sl (p0.map Aj))))), (1, .e (.one (.pure (.sl (p1.map Aj))))), (9, .e (.one (.pure (.sl (p0.map Aj))))), (10, .e (.one (.pure (.val (.int .i64 ((p0.length : Int))))))), (11, .e (.one (.pure (.val (.int .i64 v1)))))] []) (fun v2 => mk [(0, .e (.one (.pure (.sl (p0.map Aj))))), (1, .e (.one (.pure (.sl (p1.map Aj)))))] []) (fun _ _ => rfl) (sm [] _ _ rfl rfl) (fun j1 n1 v1 h => ?_) (fun v2 s h hs => ?_)
 ·unfold CP at h
  refine Ab (Aa Ac rfl (AT rfl (Ad (Ab ?_))))
  refine Ao rfl (fun c3 => ?_) (fun c3 => ?_)
  ·have h := Am c3 h
   refine Ap (Ab (AI (Ab (Aa Ac rfl (qm rfl ?_)))))
   obtain ⟨v4, a4, b4, h⟩ := Ah h
   refine qi AJ DS a4 (Ag b4) rfl (qk CO rfl (qa rfl (qa rfl (Ad (Ab (Ab (Aa Ac rfl (qm rfl (qm rfl (AN AJ rfl (Dl rfl (Ad ?_))))))))))))
   refine Ao rfl (fun c5 => ?_) (fun c5 => ?_)
   ·have h := Am c5 h
    refine Ab (Aa Ac rfl (qa rfl (Ad ?_)))
    obtain rfl := sj h
    refine Ak (sm [] [(4, .e (.one (.pure (.val (.int .i64 1)))))] [] rfl rfl) (Ax ?_)
    exact ⟨⟨[_], ⟨.tmp _ _ rfl, trivial⟩, rfl⟩, trivial⟩
   ·have h := An c5 h
    refine Ap (Ab (Aa Ac rfl (qm rfl (qm rfl ?_))))
    obtain ⟨v6, a6, b6, h⟩ := Ah h
    refine qi AJ DS a6 (Ag b6) rfl (qk CO rfl (qa rfl (Ad (Ab (Aa Ac rfl (qm rfl (qm rfl ?_)))))))
    obtain ⟨v7, a7, h⟩ := bind_some h
    refine AC [] (Jb N v4 v6 v7 a7) S5 rfl (qa rfl (Ad (Ab (Aa Ac rfl (qm rfl (Cd rfl (Ad ?_)))))))
    refine Ao rfl (fun c8 => ?_) (fun c8 => ?_)
    ·have h := Am c8 h
     refine Ab (Aa Ac rfl (qm rfl (qa rfl (Ad ?_))))
     obtain rfl := sj h
     refine Ak (sm [] [(4, .e (.one (.pure (.val (.int .i64 v7)))))] [] rfl rfl) (Ax ?_)
     exact ⟨⟨[_], ⟨.tmp _ _ rfl, trivial⟩, rfl⟩, trivial⟩
    ·have h := An c8 h
     refine Ap (Aa Ac rfl (AQ rfl (qm rfl (Ad ?_))))
     exact As _ h (sm [] _ _ rfl rfl)
  ·have h := An c3 h
   refine AS ?_
   exact As _ h (sm [] _ _ rfl rfl)
 ·refine Ak hs (Ab (Ab (Aa Ac rfl (qm rfl (AN AJ rfl (qm rfl (AN AJ rfl (AT rfl (Ad ?_)))))))))
  refine Ao rfl (fun c9 => ?_) (fun c9 => ?_)
  ·have h := Am c9 h
   refine Ab (Aa Ac rfl (qa rfl (Ad ?_)))
   obtain rfl := sj h
   refine Ak (sm [] [(4, .e (.one (.pure (.val (.int .i64 ((-1)))))))] [] rfl rfl) (Ax ?_)
   exact ⟨⟨[_], ⟨.tmp _ _ rfl, trivial⟩, rfl⟩, trivial⟩
  ·have h := An c9 h
   refine Ap (Ab (Aa Ac rfl (qa rfl (Ad ?_))))
   obtain rfl := sj h
   refine Ak (sm [] [(4, .e (.one (.pure (.val (.int .i64 0)))))] [] rfl rfl) (Ax ?_)
   exact ⟨⟨[_], ⟨.tmp _ _ rfl, trivial⟩, rfl⟩, trivial⟩
set_option maxRecDepth 10000 in
theorem Gy (N : Nat) (p0 : Int) (r : Bool) (h : DW N p0 = some r) : Az Try.prog 90 [.e (.one (.pure (.val (.int .u8 p0))))] [] (.e (.one (.pure (.val (.bool r))))) := by
 unfold DW at h
 refine Ar (n := 6) (rs := [.tmp 2]) Try.func90 rfl rfl rfl (AV rfl) (AV rfl) rfl fun w0 S0 => ?_
 refine Ab (Aa Ac rfl (qa rfl (Ad (Ab (Aa Ac rfl (qm rfl (qm rfl (Cd rfl (qa rfl (Ad ?_))))))))))
 obtain rfl := sj h
 refine Ak (sm [] [(2, .e (.one (.pure (.val (.bool ((p0 != p0)))))))] [] rfl rfl) (Ax ?_)
 exact ⟨⟨[_], ⟨.tmp _ _ rfl, trivial⟩, rfl⟩, trivial⟩
set_option maxRecDepth 10000 in
theorem H7 (N : Nat) (p0 : Int) (p1 : Int) (r : Int) (h : Eo N p0 p1 = some r) : Az Try.prog 73 [.e (.one (.pure (.val (.int .u8 p0)))), .e (.one (.pure (.val (.int .u8 p1))))] [] (.e (.one (.pure (.val (.int .i64 r))))) := by
 unfold Eo at h
 refine Ar (n := 20) (rs := [.tmp 4]) Try.func73 rfl rfl rfl (AV rfl) (AV rfl) rfl fun w0 S0 => ?_
 refine Ab (Aa Ac rfl (qa rfl (Ad (Ab (Aa Ac rfl (qm rfl ?_))))))
 obtain ⟨v1, a1, h⟩ := bind_some h
 refine AC [] (Gy N p0 v1 a1) Sm rfl (qa rfl (Ad (Ab (Aa Ac rfl (qm rfl ?_)))))
 obtain ⟨v2, a2, h⟩ := bind_some h
 refine AC [] (Gy N p1 v2 a2) Sm rfl (qa rfl (Ad (Ab (Ab (Aa Ac rfl (qm rfl (Ad ?_)))))))
 refine Ao rfl (fun c3 => ?_) (fun c3 => ?_)
 ·have h := Am c3 h
  refine Ab (Ab (Aa Ac rfl (qm rfl (Ad ?_))))
  refine Ao rfl (fun c4 => ?_) (fun c4 => ?_)
  ·have h := Am c4 h
   refine Ab (Aa Ac rfl (qa rfl (Ad ?_)))
   obtain rfl := sj h
   refine Ak (sm [] [(4, .e (.one (.pure (.val (.int .i64 0)))))] [] rfl rfl) (Ax ?_)
   exact ⟨⟨[_], ⟨.tmp _ _ rfl, trivial⟩, rfl⟩, trivial⟩
  ·have h := An c4 h
   refine Ap (Ab (Aa Ac rfl (qa rfl (Ad ?_))))
   obtain rfl := sj h
   refine Ak (sm [] [(4, .e (.one (.pure (.val (.int .i64 ((-1)))))))] [] rfl rfl) (Ax ?_)
   exact ⟨⟨[_], ⟨.tmp _ _ rfl, trivial⟩, rfl⟩, trivial⟩
 ·have h := An c3 h
  refine Ap (Ab (Ab (Aa Ac rfl (qm rfl (Ad ?_)))))
  refine Ao rfl (fun c5 => ?_) (fun c5 => ?_)
  ·have h := Am c5 h
   refine Ab (Aa Ac rfl (qa rfl (Ad ?_)))
   obtain rfl := sj h
   refine Ak (sm [] [(4, .e (.one (.pure (.val (.int .i64 1)))))] [] rfl rfl) (Ax ?_)
   exact ⟨⟨[_], ⟨.tmp _ _ rfl, trivial⟩, rfl⟩, trivial⟩
  ·have h := An c5 h
   refine Ap (Ab (Ab (Aa Ac rfl (qm rfl (qm rfl (AT rfl (Ad ?_)))))))
   refine Ao rfl (fun c6 => ?_) (fun c6 => ?_)
   ·have h := Am c6 h
    refine Ab (Aa Ac rfl (qa rfl (Ad ?_)))
    obtain rfl := sj h
    refine Ak (sm [] [(4, .e (.one (.pure (.val (.int .i64 ((-1)))))))] [] rfl rfl) (Ax ?_)
    exact ⟨⟨[_], ⟨.tmp _ _ rfl, trivial⟩, rfl⟩, trivial⟩
   ·have h := An c6 h
    refine Ap (Ab (Ab (Aa Ac rfl (qm rfl (qm rfl (Es rfl (Ad ?_)))))))
    refine Ao rfl (fun c7 => ?_) (fun c7 => ?_)
    ·have h := Am c7 h
     refine Ab (Aa Ac rfl (qa rfl (Ad ?_)))
     obtain rfl := sj h
     refine Ak (sm [] [(4, .e (.one (.pure (.val (.int .i64 1)))))] [] rfl rfl) (Ax ?_)
     exact ⟨⟨[_], ⟨.tmp _ _ rfl, trivial⟩, rfl⟩, trivial⟩
    ·have h := An c7 h
     refine Ap (Ab (Aa Ac rfl (qa rfl (Ad ?_))))
     obtain rfl := sj h
     refine Ak (sm [] [(4, .e (.one (.pure (.val (.int .i64 0)))))] [] rfl rfl) (Ax ?_)
     exact ⟨⟨[_], ⟨.tmp _ _ rfl, trivial⟩, rfl⟩, trivial⟩
set_option maxRecDepth 10000 in
theorem FQ (N : Nat) (p0 : List Int) (p1 : List Int) (r : Int) (h : CY N p0 p1 = some r) : Az Try.prog 49 [.e (.one (.pure (.sl (p0.map Bs)))), .e (.one (.pure (.sl (p1.map Bs))))] [] (.e (.one (.pure (.val (.int .i64 r))))) := by
 unfold CY at h
 refine Ar (n := 36) (rs := [.tmp 4]) Try.func49 rfl rfl rfl (AV rfl) (AV rfl) rfl fun w0 S0 => ?_
 refine Ab (Aa Ac rfl (qa rfl (Ad (Ab (Ab (Aa Ac rfl (qm rfl (AN CI rfl (qm rfl (Ad ?_))))))))))
 refine AB (L := B9 N p0 p1) h (fun v1 => mk [(0, .e (.one (.pure (.sl (p0.map Bs))))), (1, .e (.one (.pure (.sl (p1.map Bs))))), (9, .e (.one (.pure (.sl (p0.map Bs))))), (10, .e (.one (.pure (.val (.int .i64 ((p0.length : Int))))))), (11, .e (.one (.pure (.val (.int .i64 v1)))))] []) (fun v2 => mk [(0, .e (.one (.pure (.sl (p0.map Bs))))), (1, .e (.one (.pure (.sl (p1.map Bs)))))] []) (fun _ _ => rfl) (sm [] _ _ rfl rfl) (fun j1 n1 v1 h => ?_) (fun v2 s h hs => ?_)
 ·unfold B9 at h
  refine Ab (Aa Ac rfl (AT rfl (Ad (Ab ?_))))
  refine Ao rfl (fun c3 => ?_) (fun c3 => ?_)
  ·have h := Am c3 h
   refine Ap (Ab (AI (Ab (Aa Ac rfl (qm rfl ?_)))))
   obtain ⟨v4, a4, b4, h⟩ := Ah h
   refine qi CI EE a4 (Ag b4) rfl (qk HM rfl (qa rfl (qa rfl (Ad (Ab (Ab (Aa Ac rfl (qm rfl (qm rfl (AN CI rfl (Dl rfl (Ad ?_))))))))))))
   refine Ao rfl (fun c5 => ?_) (fun c5 => ?_)
   ·have h := Am c5 h
    refine Ab (Aa Ac rfl (qa rfl (Ad ?_)))
    obtain rfl := sj h
    refine Ak (sm [] [(4, .e (.one (.pure (.val (.int .i64 1)))))] [] rfl rfl) (Ax ?_)
    exact ⟨⟨[_], ⟨.tmp _ _ rfl, trivial⟩, rfl⟩, trivial⟩
   ·have h := An c5 h
    refine Ap (Ab (Aa Ac rfl (qm rfl (qm rfl ?_))))
    obtain ⟨v6, a6, b6, h⟩ := Ah h
    refine qi CI EE a6 (Ag b6) rfl (qk HM rfl (qa rfl (Ad (Ab (Aa Ac rfl (qm rfl (qm rfl ?_)))))))
    obtain ⟨v7, a7, h⟩ := bind_some h
    refine AC [] (H7 N v4 v6 v7 a7) S8 rfl (qa rfl (Ad (Ab (Aa Ac rfl (qm rfl (Cd rfl (Ad ?_)))))))
    refine Ao rfl (fun c8 => ?_) (fun c8 => ?_)
    ·have h := Am c8 h
     refine Ab (Aa Ac rfl (qm rfl (qa rfl (Ad ?_))))
     obtain rfl := sj h
     refine Ak (sm [] [(4, .e (.one (.pure (.val (.int .i64 v7)))))] [] rfl rfl) (Ax ?_)
     exact ⟨⟨[_], ⟨.tmp _ _ rfl, trivial⟩, rfl⟩, trivial⟩
    ·have h := An c8 h
     refine Ap (Aa Ac rfl (AQ rfl (qm rfl (Ad ?_))))
     exact As _ h (sm [] _ _ rfl rfl)
  ·have h := An c3 h
   refine AS ?_
   exact As _ h (sm [] _ _ rfl rfl)
 ·refine Ak hs (Ab (Ab (Aa Ac rfl (qm rfl (AN CI rfl (qm rfl (AN CI rfl (AT rfl (Ad ?_)))))))))
  refine Ao rfl (fun c9 => ?_) (fun c9 => ?_)
  ·have h := Am c9 h
   refine Ab (Aa Ac rfl (qa rfl (Ad ?_)))
   obtain rfl := sj h
   refine Ak (sm [] [(4, .e (.one (.pure (.val (.int .i64 ((-1)))))))] [] rfl rfl) (Ax ?_)
   exact ⟨⟨[_], ⟨.tmp _ _ rfl, trivial⟩, rfl⟩, trivial⟩
  ·have h := An c9 h
   refine Ap (Ab (Aa Ac rfl (qa rfl (Ad ?_))))
   obtain rfl := sj h
   refine Ak (sm [] [(4, .e (.one (.pure (.val (.int .i64 0)))))] [] rfl rfl) (Ax ?_)
   exact ⟨⟨[_], ⟨.tmp _ _ rfl, trivial⟩, rfl⟩, trivial⟩
set_option maxRecDepth 10000 in
theorem LZ (N : Nat) (p0 : List Int) (r : Int) (h : He N p0 = some r) : Az Try.prog 47 [.e (.one (.pure (.sl (p0.map Aj))))] [] (.e (.one (.pure (.val (.int .i64 r))))) := by
 unfold He at h
 refine Ar (n := 18) (rs := [.tmp 2]) Try.func47 rfl rfl rfl (AV rfl) (AV rfl) rfl fun w0 S0 => ?_
 refine Ab (Aa Ac rfl (qa rfl (Ad (Ab (Aa Ac rfl (qa rfl (Ad (Ab (Ab (Aa Ac rfl (qm rfl (AN AJ rfl (qm rfl (Ad ?_))))))))))))))
 refine AB (L := EX N p0) h (fun v1 => mk [(3, .e (.one (.pure (.val (.int .i64 0))))), (6, .e (.one (.pure (.sl (p0.map Aj))))), (7, .e (.one (.pure (.val (.int .i64 ((p0.length : Int))))))), (8, .e (.one (.pure (.val (.int .i64 v1)))))] []) (fun v2 => mk [(3, .e (.one (.pure (.val (.int .i64 0)))))] []) (fun _ _ => rfl) (sm [] _ _ rfl rfl) (fun j1 n1 v1 h => ?_) (fun v2 s h hs => ?_)
 ·unfold EX at h
  refine Ab (Aa Ac rfl (AT rfl (Ad (Ab ?_))))
  refine Ao rfl (fun c3 => ?_) (fun c3 => ?_)
  ·have h := Am c3 h
   refine Ap (Ab (AI (Ab (Aa Ac rfl ?_))))
   obtain ⟨v4, a4, b4, h⟩ := Ah h
   refine qi AJ DS a4 (Ag b4) rfl (qk CO rfl (qa rfl (Ad (Ab (Aa Ac rfl (qm rfl (qm rfl (Cd rfl (Ad ?_)))))))))
   refine Ao rfl (fun c5 => ?_) (fun c5 => ?_)
   ·have h := Am c5 h
    refine Ab (Aa Ac rfl (qm rfl (qa rfl (Ad ?_))))
    obtain rfl := sj h
    refine Ak (sm [] [(2, .e (.one (.pure (.val (.int .i64 v4)))))] [] rfl rfl) (Ax ?_)
    exact ⟨⟨[_], ⟨.tmp _ _ rfl, trivial⟩, rfl⟩, trivial⟩
   ·have h := An c5 h
    refine Ap (Aa Ac rfl (AQ rfl (qm rfl (Ad ?_))))
    exact As _ h (sm [] _ _ rfl rfl)
  ·have h := An c3 h
   refine AS ?_
   exact As _ h (sm [] _ _ rfl rfl)
 ·refine Ak hs (Ab (Aa Ac rfl (qm rfl (qa rfl (Ad ?_)))))
  obtain rfl := sj h
  refine Ak (sm [] [(2, .e (.one (.pure (.val (.int .i64 0)))))] [] rfl rfl) (Ax ?_)
  exact ⟨⟨[_], ⟨.tmp _ _ rfl, trivial⟩, rfl⟩, trivial⟩
set_option maxRecDepth 10000 in
theorem Hp (N : Nat) (p0 : Ae) (p1 : Ae) (r : Int) (h : DI N p0 p1 = some r) : Az Try.prog 25 [.e (.agg [.pure (.sl (p0.fBase.map Aj)), .pure (.sl (p0.fNext.map Aj)), .pure (.sl (p0.fHeld.map Bs))]), .e (.agg [.pure (.sl (p1.fBase.map Aj)), .pure (.sl (p1.fNext.map Aj)), .pure (.sl (p1.fHeld.map Bs))])] [] (.e (.one (.pure (.val (.int .i64 r))))) := by
 unfold DI at h
 refine Ar (n := 22) (rs := [.tmp 4]) Try.func25 rfl rfl rfl (AV rfl) (AV rfl) rfl fun w0 S0 => ?_
 refine Ab (Aa Ac rfl (qb rfl (qb rfl (qa rfl (Ad (Ab (Aa Ac rfl (qf Da rfl (ql Bp rfl (qf Da rfl (ql Bp rfl ?_)))))))))))
 obtain ⟨v1, a1, h⟩ := bind_some h
 refine AC [] (Fa N p0.fBase p1.fBase v1 a1) Sg rfl (qf Cu rfl (ql Bp rfl (qf Cu rfl (ql Bp rfl ?_))))
 obtain ⟨v2, a2, h⟩ := bind_some h
 refine AC [] (Fa N p0.fNext p1.fNext v2 a2) Sg rfl (qf Df rfl (ql Hk rfl (qf Df rfl (ql Hk rfl ?_))))
 obtain ⟨v3, a3, h⟩ := bind_some h
 refine AC [] (FQ N p0.fHeld p1.fHeld v3 a3) SJ rfl (Er AJ DS Mm rfl ?_)
 obtain ⟨v4, a4, h⟩ := bind_some h
 refine Fb [] [20] (LZ N (([v1, v2, v3] : List Int)) v4 a4) Tt DR rfl (qa rfl (AF (by kernel_rfl) ?_))
 obtain rfl := sj h
 refine Ak (sm [] [(4, .e (.one (.pure (.val (.int .i64 v4)))))] [] rfl rfl) (Ax ?_)
 exact ⟨⟨[_], ⟨.tmp _ _ rfl, trivial⟩, rfl⟩, trivial⟩
set_option maxRecDepth 10000 in
theorem Ic (N : Nat) (p0 : Ai) (r : (List Ae) × Int) (h : Fj N p0 = some r) : Az Try.prog 10 [.e (.agg [.pure (.sl (p0.fVersions.map Aj)), .pure (.sl (p0.fNow.map Aj)), .pure (.sl (p0.fTarget.map Aj)), .pure (.sl (p0.fTables.map Aq))])] [(3, r.1.map Af)] (.tup [.one (.own 0), .one (.pure (.val (.int .i64 r.2)))]) := by
 unfold Fj at h
 refine Ar (n := 73) (rs := [.tmp 2, .tmp 3]) Try.func10 rfl rfl rfl (AV rfl) (AV rfl) rfl fun w0 S0 => ?_
 refine Ab (Aa Ac rfl (qb rfl (qa rfl (qa rfl (Ad (Ab (Aa Ac rfl (qL DO Dz rfl ?_))))))))
 obtain ⟨v1, a1, h⟩ := bind_some h
 refine AC [2001, 2002, 2003] (IG N p0 v1 a1) Rz rfl (qm rfl (qx rfl (qx rfl (qx rfl (qz Du rfl (qs Aw rfl (qa rfl (qa rfl (Ad (Ab ?_))))))))))
 refine AO h (fun v2 => mk [(1, .e (.one (.ptr 1 0))), (4, .e (.one (.ptr 4 0))), (6, .e (.one (.pure (.val (.int .i64 v1.2.2))))), (25, .e (.one (.pure (.val (.bool v2)))))] [(1, .box [.pure (.sl (p0.fVersions.map Aj)), .pure (.sl (p0.fNow.map Aj)), .pure (.sl (p0.fTarget.map Aj)), .pure (.sl (p0.fTables.map Aq))]), (4, .box [.own 2004, .own 2005, .own 2006]), (2004, .vec 1 (v1.1.fBase.map Aj)), (2005, .vec 1 (v1.1.fNext.map Aj)), (2006, .vec 1 (v1.1.fHeld.map Bs))]) (fun j2 h => ?_) (fun v2 h => ?_)
 ·refine Aa Ac rfl (qm rfl (Cd rfl (qm rfl ?_)))
  refine AA (t := 22) rfl (fun c3 => ?_) (fun c3 => ?_)
  ·have h := Am c3 h
   refine qn rfl (qn rfl (qp rfl (Ad ?_)))
   exact As _ h (sm [(2004, 2001), (2005, 2002), (2006, 2003)] _ _ rfl rfl)
  ·have h := An c3 h
   refine qm rfl (Cy rfl (qp rfl (Ad ?_)))
   exact As _ h (sm [(2004, 2001), (2005, 2002), (2006, 2003)] _ _ rfl rfl)
 ·refine Ao rfl (fun c4 => ?_) (fun c4 => ?_)
  ·have h := Am c4 h
   refine Ab (Aa Ac rfl (qm rfl (qa rfl (qa rfl (Ad ?_)))))
   obtain rfl := sj h
   refine Ak ((Ba 2 2007 3 rfl rfl rfl).trans (sm [(1000, 2007)] [(2, .e (.one (.own 1000))), (3, .e (.one (.pure (.val (.int .i64 v1.2.2)))))] [(1000, .vec 3 ((([] : List Ae)).map Af))] rfl rfl)) (Ax ?_)
   exact ⟨⟨[_, _], ⟨.tmp _ _ rfl, ⟨.tmp _ _ rfl, trivial⟩⟩, rfl⟩, ⟨rfl, trivial⟩⟩
  ·have h := An c4 h
   refine Ap (Ab (Aa Ac rfl (qL AU Aw rfl (C2 (A3 2004 _ _ rfl rfl) (C2 (A3 2005 _ _ rfl rfl) (C2 (A3 2006 _ _ rfl rfl) (Er AD Aw Du rfl (qa rfl (Ad (Ab (Aa Ac rfl ?_)))))))))))
   refine NX (.p rfl) rfl ?_
   refine qL AU Aw rfl ?_
   obtain ⟨v5, a5, h⟩ := bind_some h
   refine AC [] (Ih N v1.1 v5 a5) QH rfl ?_
   refine ML (kv := Value.string) (vt := tB) (m := ([] : List (ByteArray × Bool))) (k := v5) (v := true) rfl (.inr rfl) rfl rfl rfl rfl (JG NB Ra) rfl ?_
   refine qm rfl (qa rfl (Ad (Ab (Ab (Aa Ac rfl (qa rfl (Ad ?_)))))))
   refine AB (L := El N p0) h (fun v6 => mk [(1, .e (.one (.ptr 1 0))), (7, .e (.one (.own 2008))), (8, .e (.one (.mref 2009))), (9, .e (.one (.pure (.val (.int .i64 v6.2.2)))))] [(1, .box [.pure (.sl (p0.fVersions.map Aj)), .pure (.sl (p0.fNow.map Aj)), .pure (.sl (p0.fTarget.map Aj)), .pure (.sl (p0.fTables.map Aq))]), (2008, .vec 3 (v6.1.map Af)), (2009, .mp (HF Value.string tB v6.2.1))]) (fun v7 => mk [(7, .e (.one (.own 2010)))] [(2010, .vec 3 (v7.map Af))]) (fun _ _ => rfl) (sm [(2008, 28), (2009, 29)] _ _ rfl rfl) (fun j6 n6 v6 h => ?_) (fun v7 s h hs => ?_)
   ·unfold El at h
    refine Ab (Ab (Aa Ac rfl (qm rfl (qm rfl (Dj AD rfl (AT rfl (Ad ?_)))))))
    refine Ao rfl (fun c8 => ?_) (fun c8 => ?_)
    ·have h := Am c8 h
     refine Ap (Ab (AI (Ab (Aa Ac rfl (qL DO Dz rfl (qm rfl (qm rfl ?_)))))))
     obtain ⟨v9, a9, b9, h⟩ := Ah h
     refine qI AD Aw a9 (Ag b9) rfl (qJ AU Aw (Ag b9) rfl ?_)
     obtain ⟨v10, a10, h⟩ := bind_some h
     refine AC [2011, 2012] (IU N p0 v9 v10 a10) Sl rfl (qm rfl (qx rfl (qx rfl (qa rfl (qa rfl (AF (by kernel_rfl) (Ab (Ab (Aa Ac rfl (qm rfl (Dj AD rfl (qm rfl (Ad ?_)))))))))))))
     refine AB (L := D9 N v10) h (fun v11 => mk [(1, .e (.one (.ptr 1 0))), (7, .e (.one (.own 2013))), (8, .e (.one (.mref 2014))), (9, .e (.one (.pure (.val (.int .i64 v6.2.2))))), (48, .e (.one (.own 2015))), (49, .e (.one (.pure (.val (.int .i64 ((v10.2.length : Int))))))), (50, .e (.one (.pure (.val (.int .i64 v11.2.2)))))] [(1, .box [.pure (.sl (p0.fVersions.map Aj)), .pure (.sl (p0.fNow.map Aj)), .pure (.sl (p0.fTarget.map Aj)), .pure (.sl (p0.fTables.map Aq))]), (2013, .vec 3 (v11.1.map Af)), (2014, .mp (HF Value.string tB v11.2.1)), (2015, .vec 3 (v10.2.map Af))]) (fun v12 => mk [(1, .e (.one (.ptr 1 0))), (7, .e (.one (.own 2016))), (8, .e (.one (.mref 2017))), (9, .e (.one (.pure (.val (.int .i64 v6.2.2)))))] [(1, .box [.pure (.sl (p0.fVersions.map Aj)), .pure (.sl (p0.fNow.map Aj)), .pure (.sl (p0.fTarget.map Aj)), .pure (.sl (p0.fTables.map Aq))]), (2016, .vec 3 (v12.1.map Af)), (2017, .mp (HF Value.string tB v12.2))]) (fun _ _ => rfl) (sm [(2013, 2008), (2014, 2009), (2015, 2012)] _ _ rfl rfl) (fun j11 n11 v11 h => ?_) (fun v12 s h hs => ?_)
     ·unfold D9 at h
      refine Ab (Aa Ac rfl (AT rfl (Ad (Ab ?_))))
      refine Ao rfl (fun c13 => ?_) (fun c13 => ?_)
      ·have h := Am c13 h
       refine Ap ?_
       refine AO h (fun v14 => mk [(1, .e (.one (.ptr 1 0))), (7, .e (.one (.own 2018))), (8, .e (.one (.mref 2019))), (9, .e (.one (.pure (.val (.int .i64 v6.2.2))))), (48, .e (.one (.own 2020))), (49, .e (.one (.pure (.val (.int .i64 ((v10.2.length : Int))))))), (50, .e (.one (.pure (.val (.int .i64 v11.2.2)))))] [(1, .box [.pure (.sl (p0.fVersions.map Aj)), .pure (.sl (p0.fNow.map Aj)), .pure (.sl (p0.fTarget.map Aj)), .pure (.sl (p0.fTables.map Aq))]), (2018, .vec 3 (v14.1.map Af)), (2019, .mp (HF Value.string tB v14.2)), (2020, .vec 3 (v10.2.map Af))]) (fun j14 h => ?_) (fun v14 h => ?_)
       ·refine AI (Ab (Aa Ac rfl ?_))
        obtain ⟨v15, a15, b15, h⟩ := Ah h
        refine qI AD Aw a15 (Ag b15) rfl (qJ AU Aw (Ag b15) rfl (qz Du rfl (qs Aw rfl (Ad (Ab (Aa Ac rfl (qm rfl (qL AU Aw rfl ?_))))))))
        obtain ⟨v16, a16, h⟩ := bind_some h
        refine AC [] (Ih N v15 v16 a16) QH rfl ?_
        refine Pd (kv := Value.string) (vt := tB) (m := v11.2.1) (dv := false) (.p rfl) rfl rfl rfl (JG NB Ra) (by rw [NB]; rfl) PF rfl rfl rfl ?_
        refine Cy rfl (Ad ?_)
        refine Ao rfl (fun c17 => ?_) (fun c17 => ?_)
        ·have h := Am c17 h
         refine Ab (Aa Ac rfl (qm rfl (qL AU Aw rfl ?_)))
         obtain ⟨v18, a18, h⟩ := bind_some h
         refine AC [] (Ih N v15 v18 a18) QH rfl ?_
         refine ML (kv := Value.string) (vt := tB) (m := v11.2.1) (k := v18) (v := true) rfl (.inl rfl) rfl rfl rfl rfl (JG NB Ra) rfl ?_
         refine Ad (Aa Ac rfl (qm rfl (qL AU Aw rfl (Er AD Aw Du rfl ?_))))
         obtain ⟨c19, h⟩ := AM h
         refine DE (f := Af) AD AD Aw Lc Du c19 rfl (qa rfl (Ad ?_))
         exact As _ h (sm [(2018, 65), (2019, 2014), (2020, 2015)] _ _ rfl rfl)
        ·have h := An c17 h
         refine Ap ?_
         exact As _ h (sm [(2018, 2013), (2019, 2014), (2020, 2015)] _ _ rfl rfl)
       ·refine Aa Ac rfl (AQ rfl (qm rfl (Ad ?_)))
        exact As _ h (sm [(2013, 2018), (2014, 2019), (2015, 2020)] _ _ rfl rfl)
      ·have h := An c13 h
       refine AS ?_
       exact As _ h (sm [(2016, 2013), (2017, 2014)] _ _ rfl rfl)
     ·refine Ak hs (Ab (Aa Ac rfl (qm rfl (Dj AD rfl (Es rfl (Ad ?_))))))
      refine Ao rfl (fun c20 => ?_) (fun c20 => ?_)
      ·have h := Am c20 h
       refine Ab (Aa Ac rfl (qa rfl (qa rfl (Ad ?_))))
       obtain rfl := sj h
       refine Ak ((Ba 2 2021 3 rfl rfl rfl).trans (sm [(1000, 2021)] [(2, .e (.one (.own 1000))), (3, .e (.one (.pure (.val (.int .i64 3)))))] [(1000, .vec 3 ((([] : List Ae)).map Af))] rfl rfl)) (Ax ?_)
       exact ⟨⟨[_, _], ⟨.tmp _ _ rfl, ⟨.tmp _ _ rfl, trivial⟩⟩, rfl⟩, ⟨rfl, trivial⟩⟩
      ·have h := An c20 h
       refine Ap (Aa Ac rfl (qm rfl (AQ rfl (qa rfl (Ad ?_)))))
       exact As _ h (sm [(2008, 2016), (2009, 2017)] _ _ rfl rfl)
    ·have h := An c8 h
     refine AS ?_
     exact As _ h (sm [(2010, 2008)] _ _ rfl rfl)
   ·refine Ak hs (Ab (Aa Ac rfl (qm rfl ?_)))
    obtain ⟨v21, a21, h⟩ := bind_some h
    refine CH (ds0 := [_, _]) [2010] [] [true] (Bn.weak (ds' := [_, .e (.one (.fnc 25))]) (DN N v7 ((fun (x : Ae × Ae) => DI N x.1 x.2)) v21 a21) ⟨(fun _ _ _ hh => hh), (fun _ _ _ hh => Kx Qz (fun ar t ht => by obtain ⟨x, r, rfl, hq, rfl⟩ := HG ht; exact Hp N x.1 x.2 r hq) hh), trivial⟩) (.p rfl) R9 rfl ⟨rfl, rfl, trivial⟩ rfl rfl (by decide) ⟨rfl, trivial⟩ rfl (A2 rfl) trivial ⟨(fun h => by cases h), trivial⟩ rfl rfl rfl ?_
    refine Ad (Ab (Aa Ac rfl (qm rfl (qa rfl (qa rfl (Ad ?_))))))
    obtain rfl := sj h
    refine Ak (sm [(1000, 2010)] [(2, .e (.one (.own 1000))), (3, .e (.one (.pure (.val (.int .i64 0)))))] [(1000, .vec 3 (v21.map Af))] rfl rfl) (Ax ?_)
    exact ⟨⟨[_, _], ⟨.tmp _ _ rfl, ⟨.tmp _ _ rfl, trivial⟩⟩, rfl⟩, ⟨rfl, trivial⟩⟩
set_option maxRecDepth 10000 in
theorem LI (N : Nat) (p0 : Ai) (p1 : List Int) (r : (List Av) × Int) (h : Hn N p0 p1 = some r) : Az Try.prog 11 [.e (.agg [.pure (.sl (p0.fVersions.map Aj)), .pure (.sl (p0.fNow.map Aj)), .pure (.sl (p0.fTarget.map Aj)), .pure (.sl (p0.fTables.map Aq))]), .e (.one (.pure (.sl (p1.map Bs))))] [(3, r.1.map AH)] (.tup [.one (.own 0), .one (.pure (.val (.int .i64 r.2)))]) := by
 unfold Hn at h
 refine Ar (n := 61) (rs := [.tmp 4, .tmp 5]) Try.func11 rfl rfl rfl (AV rfl) (AV rfl) rfl fun w0 S0 => ?_
 refine Ab (Aa Ac rfl (qb rfl (qa rfl (qa rfl (Ad (Ab (Aa Ac rfl (qL DO Dz rfl ?_))))))))
 obtain ⟨v1, a1, h⟩ := bind_some h
 refine AC [2001, 2002, 2003] (IG N p0 v1 a1) Rz rfl (qm rfl (qx rfl (qx rfl (qx rfl (qz Du rfl (qs Aw rfl (qa rfl (qa rfl (Ad (Ab ?_))))))))))
 refine AO h (fun v2 => mk [(1, .e (.one (.pure (.sl (p1.map Bs))))), (2, .e (.one (.ptr 2 0))), (6, .e (.one (.ptr 6 0))), (8, .e (.one (.pure (.val (.int .i64 v1.2.2))))), (26, .e (.one (.pure (.val (.bool v2)))))] [(2, .box [.pure (.sl (p0.fVersions.map Aj)), .pure (.sl (p0.fNow.map Aj)), .pure (.sl (p0.fTarget.map Aj)), .pure (.sl (p0.fTables.map Aq))]), (6, .box [.own 2004, .own 2005, .own 2006]), (2004, .vec 1 (v1.1.fBase.map Aj)), (2005, .vec 1 (v1.1.fNext.map Aj)), (2006, .vec 1 (v1.1.fHeld.map Bs))]) (fun j2 h => ?_) (fun v2 h => ?_)
 ·refine Aa Ac rfl (qm rfl (Cd rfl (qm rfl ?_)))
  refine AA (t := 23) rfl (fun c3 => ?_) (fun c3 => ?_)
  ·have h := Am c3 h
   refine qn rfl (qn rfl (qp rfl (Ad ?_)))
   exact As _ h (sm [(2004, 2001), (2005, 2002), (2006, 2003)] _ _ rfl rfl)
  ·have h := An c3 h
   refine qm rfl (Cy rfl (qp rfl (Ad ?_)))
   exact As _ h (sm [(2004, 2001), (2005, 2002), (2006, 2003)] _ _ rfl rfl)
 ·refine Ao rfl (fun c4 => ?_) (fun c4 => ?_)
  ·have h := Am c4 h
   refine Ab (Aa Ac rfl (qm rfl (qa rfl (qa rfl (Ad ?_)))))
   obtain rfl := sj h
   refine Ak ((Ba 4 2007 3 rfl rfl rfl).trans (sm [(1000, 2007)] [(4, .e (.one (.own 1000))), (5, .e (.one (.pure (.val (.int .i64 v1.2.2)))))] [(1000, .vec 3 ((([] : List Av)).map AH))] rfl rfl)) (Ax ?_)
   exact ⟨⟨[_, _], ⟨.tmp _ _ rfl, ⟨.tmp _ _ rfl, trivial⟩⟩, rfl⟩, ⟨rfl, trivial⟩⟩
  ·have h := An c4 h
   refine Ap (Ab (Aa Ac rfl (qa rfl (Ad (Ab (Ab (Aa Ac rfl (qm rfl (AN Hc rfl (qm rfl (Ad ?_)))))))))))
   refine AB (L := ET N p0 p1) h (fun v5 => mk [(2, .e (.one (.ptr 2 0))), (6, .e (.one (.ptr 6 0))), (9, .e (.one (.own 2008))), (28, .e (.one (.pure (.sl (p1.map Bs))))), (29, .e (.one (.pure (.val (.int .i64 ((p1.length : Int))))))), (30, .e (.one (.pure (.val (.int .i64 v5.2.2.2.2)))))] [(2, .box [.pure (.sl (p0.fVersions.map Aj)), .pure (.sl (p0.fNow.map Aj)), .pure (.sl (p0.fTarget.map Aj)), .pure (.sl (p0.fTables.map Aq))]), (6, .box [.pure (.sl (v5.1.map Aj)), .pure (.sl (v5.2.1.map Aj)), .pure (.sl (v5.2.2.1.map Bs))]), (2008, .vec 3 (v5.2.2.2.1.map AH))]) (fun v6 => mk [(9, .e (.one (.own 2009)))] [(2009, .vec 3 (v6.map AH))]) (fun _ _ => rfl) ((Ba 9 2012 3 rfl rfl rfl).trans ((A3 2004 _ _ rfl rfl).trans ((A3 2005 _ _ rfl rfl).trans ((A3 2006 _ _ rfl rfl).trans (sm [(2008, 2012)] _ _ rfl rfl))))) (fun j5 n5 v5 h => ?_) (fun v6 s h hs => ?_)
   ·unfold ET at h
    refine Ab (Aa Ac rfl (AT rfl (Ad (Ab ?_))))
    refine Ao rfl (fun c7 => ?_) (fun c7 => ?_)
    ·have h := Am c7 h
     refine Ap (Ab (AI (Ab (Aa Ac rfl ?_))))
     obtain ⟨v8, a8, b8, h⟩ := Ah h
     refine qi Hc Qm a8 (Ag b8) rfl (qk Ro rfl (qa rfl (Ad (Ab (Aa Ac rfl (qL DO Dz rfl (qL AU Aw rfl ?_)))))))
     obtain ⟨v9, a9, h⟩ := bind_some h
     refine AC [2010, 2011] (IU N p0 ((Ae.mk v5.1 v5.2.1 v5.2.2.1)) v9 a9) Sl rfl (qm rfl (qx rfl (qx rfl (qa rfl (qa rfl (Ad (Ab (Ab (Aa Ac rfl (qm rfl (Dj Dw rfl (Cm rfl (Ad ?_)))))))))))))
     refine Ao rfl (fun c10 => ?_) (fun c10 => ?_)
     ·have h := Am c10 h
      refine AS ?_
      exact As _ h (sm [(2009, 2008)] _ _ rfl rfl)
     ·have h := An c10 h
      refine Ap (Ab (Aa Ac rfl (qm rfl (FH PT O1 rfl (qm rfl (Dj Dw rfl ?_))))))
      obtain ⟨c11, h⟩ := AM h
      refine Jd rfl c11 (qa rfl (Ad (Aa Ac rfl (qm rfl (qm rfl (qm rfl ?_))))))
      obtain ⟨v12, a12, b12, h⟩ := Ah h
      refine qI Dw Em a12 (Ag b12) rfl (qJ IA Em (Ag b12) rfl (Er Dw Em HK rfl ?_))
      obtain ⟨c13, h⟩ := AM h
      refine DE (f := AH) Dw Dw Em Mj HK c13 rfl (qm rfl (qm rfl ?_))
      obtain ⟨v14, a14, b14, h⟩ := Ah h
      refine qI AD Aw a14 (Ag b14) rfl (qJ AU Aw (Ag b14) rfl (qa rfl (qs Aw rfl (AF (by kernel_rfl) (Aa Ac rfl (AQ rfl (qm rfl (Ad ?_))))))))
      exact As _ h (sm [(2008, 54)] _ _ rfl rfl)
    ·have h := An c7 h
     refine AS ?_
     exact As _ h (sm [(2009, 2008)] _ _ rfl rfl)
   ·refine Ak hs (Ab (Aa Ac rfl (qm rfl (qa rfl (qa rfl (Ad ?_))))))
    obtain rfl := sj h
    refine Ak (sm [(1000, 2009)] [(4, .e (.one (.own 1000))), (5, .e (.one (.pure (.val (.int .i64 0)))))] [(1000, .vec 3 (v6.map AH))] rfl rfl) (Ax ?_)
    exact ⟨⟨[_, _], ⟨.tmp _ _ rfl, ⟨.tmp _ _ rfl, trivial⟩⟩, rfl⟩, ⟨rfl, trivial⟩⟩
set_option maxRecDepth 10000 in
theorem M1 (N : Nat) (p0 : Ai) (p1 : Ae) (p2 : List Av) (r : (List Ae) × Int × Int) (h : Ia N p0 p1 p2 = some r) : Az Try.prog 42 [.e (.agg [.pure (.sl (p0.fVersions.map Aj)), .pure (.sl (p0.fNow.map Aj)), .pure (.sl (p0.fTarget.map Aj)), .pure (.sl (p0.fTables.map Aq))]), .e (.agg [.pure (.sl (p1.fBase.map Aj)), .pure (.sl (p1.fNext.map Aj)), .pure (.sl (p1.fHeld.map Bs))]), .e (.one (.pure (.sl (p2.map AH))))] [(3, r.1.map Af)] (.tup [.one (.own 0), .one (.pure (.val (.int .i64 r.2.1))), .one (.pure (.val (.int .i64 r.2.2)))]) := by
 unfold Ia at h
 refine Ar (n := 53) (rs := [.tmp 6, .tmp 7, .tmp 8]) Try.func42 rfl rfl rfl (AV rfl) (AV rfl) rfl fun w0 S0 => ?_
 refine Ab (Aa Ac rfl (qb rfl (qb rfl (qa rfl (qa rfl (qa rfl (Ad (Ab (Ab (Aa Ac rfl (qL DO Dz rfl (qL AU Aw rfl ?_))))))))))))
 obtain ⟨v1, a1, h⟩ := bind_some h
 refine AC [] (Gn N p0 p1 v1 a1) OV rfl (qa rfl (Ad (Ab (Aa Ac rfl (qm rfl (Cd rfl (Ad ?_)))))))
 refine Ao rfl (fun c2 => ?_) (fun c2 => ?_)
 ·have h := Am c2 h
  refine Ab (Aa Ac rfl (qm rfl (qa rfl (qa rfl (qa rfl (Ad ?_))))))
  obtain rfl := sj h
  refine Ak ((Ba 6 2001 3 rfl rfl rfl).trans (sm [(1000, 2001)] [(6, .e (.one (.own 1000))), (7, .e (.one (.pure (.val (.int .i64 0))))), (8, .e (.one (.pure (.val (.int .i64 v1)))))] [(1000, .vec 3 ((([] : List Ae)).map Af))] rfl rfl)) (Ax ?_)
  exact ⟨⟨[_, _, _], ⟨.tmp _ _ rfl, ⟨.tmp _ _ rfl, ⟨.tmp _ _ rfl, trivial⟩⟩⟩, rfl⟩, ⟨rfl, trivial⟩⟩
 ·have h := An c2 h
  refine Ap (Ab (Aa Ac rfl (qL AU Aw rfl ?_)))
  obtain ⟨v3, a3, h⟩ := bind_some h
  refine AC [2002, 2003, 2004] (IF N p1 v3 a3) Rw rfl (C2 (A3 2002 _ _ rfl rfl) (C2 (A3 2003 _ _ rfl rfl) (C2 (A3 2004 _ _ rfl rfl) (Er AD Aw Du rfl (qa rfl (Ad (Ab (Ab (Aa Ac rfl (qm rfl (AN Dw rfl (qm rfl (Ad ?_)))))))))))))
  refine AB (L := FG N p0 p2) h (fun v4 => mk [(2, .e (.one (.pure (.sl (p2.map AH))))), (3, .e (.one (.ptr 3 0))), (10, .e (.one (.own 2005))), (24, .e (.one (.pure (.sl (p2.map AH))))), (25, .e (.one (.pure (.val (.int .i64 ((p2.length : Int))))))), (26, .e (.one (.pure (.val (.int .i64 v4.2)))))] [(3, .box [.pure (.sl (p0.fVersions.map Aj)), .pure (.sl (p0.fNow.map Aj)), .pure (.sl (p0.fTarget.map Aj)), .pure (.sl (p0.fTables.map Aq))]), (2005, .vec 3 (v4.1.map Af))]) (fun v5 => mk [(2, .e (.one (.pure (.sl (p2.map AH))))), (10, .e (.one (.own 2006)))] [(2006, .vec 3 (v5.map Af))]) (fun _ _ => rfl) (sm [(2005, 23)] _ _ rfl rfl) (fun j4 n4 v4 h => ?_) (fun v5 s h hs => ?_)
  ·unfold FG at h
   refine Ab (Aa Ac rfl (AT rfl (Ad (Ab ?_))))
   refine Ao rfl (fun c6 => ?_) (fun c6 => ?_)
   ·have h := Am c6 h
    refine Ap (Ab (AI (Ab (Aa Ac rfl (qm rfl ?_)))))
    obtain ⟨v7, a7, b7, h⟩ := Ah h
    refine qi Dw Em a7 (Ag b7) rfl (qK IA Em rfl (qz HK rfl (qa rfl (qs Em rfl (Ad (Ab (Aa Ac rfl (qL DO Dz rfl (qm rfl (qm rfl ?_))))))))))
    obtain ⟨v8, a8, b8, h⟩ := Ah h
    refine qI AD Aw a8 (Ag b8) rfl (qJ AU Aw (Ag b8) rfl (qL IA Em rfl ?_))
    obtain ⟨v9, a9, h⟩ := bind_some h
    refine AC [2007, 2008, 2009] (I4 N p0 v8 v7 v9 a9) RQ rfl (qm rfl (qx rfl (qx rfl (qz Du rfl (qs Aw rfl (qa rfl (AF (by kernel_rfl) (Ab (Ab (Aa Ac rfl (qm rfl (Cd rfl (Ad ?_)))))))))))))
    refine Ao rfl (fun c10 => ?_) (fun c10 => ?_)
    ·have h := Am c10 h
     refine Ab (Aa Ac rfl (qm rfl (qm rfl (qa rfl (qa rfl (qa rfl (Ad ?_)))))))
     obtain rfl := sj h
     refine Ak ((Ba 6 2010 3 rfl rfl rfl).trans (sm [(1000, 2010)] [(6, .e (.one (.own 1000))), (7, .e (.one (.pure (.val (.int .i64 v4.2))))), (8, .e (.one (.pure (.val (.int .i64 v9.2)))))] [(1000, .vec 3 ((([] : List Ae)).map Af))] rfl rfl)) (Ax ?_)
     exact ⟨⟨[_, _, _], ⟨.tmp _ _ rfl, ⟨.tmp _ _ rfl, ⟨.tmp _ _ rfl, trivial⟩⟩⟩, rfl⟩, ⟨rfl, trivial⟩⟩
    ·have h := An c10 h
     refine Ap (Aa Ac rfl (qm rfl (qL AU Aw rfl (C2 (A3 2007 _ _ rfl rfl) (C2 (A3 2008 _ _ rfl rfl) (C2 (A3 2009 _ _ rfl rfl) (Er AD Aw Du rfl ?_)))))))
     obtain ⟨c11, h⟩ := AM h
     refine DE (f := Af) AD AD Aw Lc Du c11 rfl (qa rfl (Ad (Aa Ac rfl (AQ rfl (qm rfl (Ad ?_))))))
     exact As _ h (sm [(2005, 48)] _ _ rfl rfl)
   ·have h := An c6 h
    refine AS ?_
    exact As _ h (sm [(2006, 2005)] _ _ rfl rfl)
  ·refine Ak hs (Ab (Aa Ac rfl (qm rfl (qm rfl (AN Dw rfl (qa rfl (qa rfl (qa rfl (Ad ?_)))))))))
   obtain rfl := sj h
   refine Ak (sm [(1000, 2006)] [(6, .e (.one (.own 1000))), (7, .e (.one (.pure (.val (.int .i64 ((p2.length : Int))))))), (8, .e (.one (.pure (.val (.int .i64 0)))))] [(1000, .vec 3 (v5.map Af))] rfl rfl) (Ax ?_)
   exact ⟨⟨[_, _, _], ⟨.tmp _ _ rfl, ⟨.tmp _ _ rfl, ⟨.tmp _ _ rfl, trivial⟩⟩⟩, rfl⟩, ⟨rfl, trivial⟩⟩
set_option maxRecDepth 10000 in
theorem JO (N : Nat) (p0 : Ai) (p1 : List Av) (r : (List Ae) × Int × Int) (h : GB N p0 p1 = some r) : Az Try.prog 22 [.e (.agg [.pure (.sl (p0.fVersions.map Aj)), .pure (.sl (p0.fNow.map Aj)), .pure (.sl (p0.fTarget.map Aj)), .pure (.sl (p0.fTables.map Aq))]), .e (.one (.pure (.sl (p1.map AH))))] [(3, r.1.map Af)] (.tup [.one (.own 0), .one (.pure (.val (.int .i64 r.2.1))), .one (.pure (.val (.int .i64 r.2.2)))]) := by
 unfold GB at h
 refine Ar (n := 24) (rs := [.tmp 4, .tmp 5, .tmp 6]) Try.func22 rfl rfl rfl (AV rfl) (AV rfl) rfl fun w0 S0 => ?_
 refine Ab (Aa Ac rfl (qb rfl (qa rfl (qa rfl (qa rfl (Ad (Ab (Aa Ac rfl (qL DO Dz rfl ?_)))))))))
 obtain ⟨v1, a1, h⟩ := bind_some h
 refine AC [2001, 2002, 2003] (J0 N p0 v1 a1) RI rfl (qm rfl (qx rfl (qx rfl (qz Du rfl (qs Aw rfl (qa rfl (Ad (Ab (Ab (Aa Ac rfl (qm rfl (Cd rfl (Ad ?_)))))))))))))
 refine Ao rfl (fun c2 => ?_) (fun c2 => ?_)
 ·have h := Am c2 h
  refine Ab (Aa Ac rfl (qm rfl (qa rfl (qa rfl (qa rfl (Ad ?_))))))
  obtain rfl := sj h
  refine Ak ((Ba 4 2004 3 rfl rfl rfl).trans (sm [(1000, 2004)] [(4, .e (.one (.own 1000))), (5, .e (.one (.pure (.val (.int .i64 0))))), (6, .e (.one (.pure (.val (.int .i64 v1.2)))))] [(1000, .vec 3 ((([] : List Ae)).map Af))] rfl rfl)) (Ax ?_)
  exact ⟨⟨[_, _, _], ⟨.tmp _ _ rfl, ⟨.tmp _ _ rfl, ⟨.tmp _ _ rfl, trivial⟩⟩⟩, rfl⟩, ⟨rfl, trivial⟩⟩
 ·have h := An c2 h
  refine Ap (Ab (Aa Ac rfl (qL DO Dz rfl (qL AU Aw rfl (qm rfl (C2 (A3 2001 _ _ rfl rfl) (C2 (A3 2002 _ _ rfl rfl) (C2 (A3 2003 _ _ rfl rfl) ?_))))))))
  obtain ⟨v3, a3, h⟩ := bind_some h
  refine AC [2005] (M1 N p0 v1.1 p1 v3 a3) ST rfl (qx rfl (qx rfl (qx rfl (qa rfl (qa rfl (qa rfl (Ad ?_)))))))
  obtain rfl := sj h
  refine Ak (sm [(1000, 2005)] [(4, .e (.one (.own 1000))), (5, .e (.one (.pure (.val (.int .i64 v3.2.1))))), (6, .e (.one (.pure (.val (.int .i64 v3.2.2)))))] [(1000, .vec 3 (v3.1.map Af))] rfl rfl) (Ax ?_)
  exact ⟨⟨[_, _, _], ⟨.tmp _ _ rfl, ⟨.tmp _ _ rfl, ⟨.tmp _ _ rfl, trivial⟩⟩⟩, rfl⟩, ⟨rfl, trivial⟩⟩
set_option maxRecDepth 10000 in
theorem E5 (N : Nat) (p0 : List Ae) (p1 : (Ae × Ae) → Option Bool) (r : Nat × (List Ae)) (h : CG N p0 p1 = some r) : Bn Try.prog 26 [.e (.one (.own 90000)), .e (.one (.clo (BD (Dv true Af true Af) tB p1)))] [(.vec 3 (p0.map Af), .vec 3 (r.2.map Af))] [] (.e (.one (.view 90000 3 0 r.1))) := by
 unfold CG at h
 refine Bf (n := 66) (rs := [.tmp 4]) Try.func26 rfl rfl rfl (AV rfl) (AV rfl) rfl rfl (AV rfl) rfl (AV rfl) fun w0 S0 GL => ?_
 refine Ak (sm [] [(0, .e (.one (.own 90000))), (1, .e (.one (.clo (BD (Dv true Af true Af) tB p1))))] [(90000, .vec 3 (p0.map Af))] rfl rfl) (Ab (Aa Ac rfl (qa rfl (Ad (Ab (Ab (Aa Ac rfl (qm rfl (Dj AD rfl (AT rfl (Ad ?_)))))))))))
 refine Ao rfl (fun c1 => ?_) (fun c1 => ?_)
 ·have h := Am c1 h
  refine Ab (Aa Ac rfl (qm rfl (qa rfl (Ad ?_))))
  obtain rfl := sj h
  refine Ak ((L0 Af p0 4 90000 3 rfl rfl).trans (sm [] [(4, .e (.one (.view 90000 3 0 p0.length)))] [(90000, .vec 3 (p0.map Af))] rfl rfl)) (Ax ?_)
  exact ⟨⟨[_], ⟨.tmp _ _ rfl, trivial⟩, rfl⟩, ⟨rfl, trivial⟩, trivial⟩
 ·have h := An c1 h
  refine Ap (Ab (Ab (Aa Ac rfl (qa rfl (Ad ?_)))))
  refine AB (L := BK N p0 p1) h (fun v2 => mk [(0, .e (.one (.own 90000))), (1, .e (.one (.clo (BD (Dv true Af true Af) tB p1)))), (5, .e (.one (.pure (.val (.int .i64 v2)))))] [(90000, .vec 3 (p0.map Af))]) (fun v3 => mk [(0, .e (.one (.own 90000)))] [(90000, .vec 3 (p0.map Af))]) (fun _ _ => rfl) (sm [] _ _ rfl rfl) (fun j2 n2 v2 h => ?_) (fun v3 s h hs => ?_)
  ·unfold BK at h
   refine Ab (Ab (Aa Ac rfl (qm rfl (qm rfl (Dj AD rfl (AT rfl (Ad ?_)))))))
   refine Ao rfl (fun c4 => ?_) (fun c4 => ?_)
   ·have h := Am c4 h
    refine Ap (Ab (AI (Ab (Aa Ac rfl (qm rfl (qm rfl (qm rfl ?_)))))))
    obtain ⟨v5, a5, b5, h⟩ := Ah h
    refine qI AD Aw a5 (Ag b5) rfl (qJ AU Aw (Ag b5) rfl (qm rfl (qm rfl (Cl rfl ?_))))
    obtain ⟨v6, a6, b6, h⟩ := Ah h
    refine qI AD Aw a6 (Ag b6) rfl (qJ AU Aw (Ag b6) rfl ?_)
    obtain ⟨v7, a7, h⟩ := bind_some h
    refine Dy (ds0 := [_, _]) (ar := (Dv true Af true Af) ((v5, v6))) (.p rfl) rfl rfl ⟨rfl, rfl, trivial⟩ rfl rfl rfl (DA (Eb _ _ _ _ Bc Bc) a7) ?_
    refine AF (by kernel_rfl) ?_
    refine Ao rfl (fun c8 => ?_) (fun c8 => ?_)
    ·have h := Am c8 h
     refine Ab (Aa Ac rfl (qm rfl (qm rfl ?_)))
     obtain ⟨c9, h⟩ := AM h
     have w10 : ((v2).toNat) + ((p0.length - (v2).toNat)) ≤ p0.length := by have := c9.2.1; have := c9.2.2; omega
     refine GV Af p0 (.p rfl) rfl (Gp Af _ _ p0) rfl AD Aw (.some _ _ _ _ c9.1) (.none _) ⟨rfl, trivial⟩ trivial c9.2.1 (by rw [Nat.zero_add]; exact c9.2.2) (Nat.zero_add _) rfl ?_
     refine qa rfl (Ad (Ab (Ab (Aa Ac rfl (qa rfl (Ad ?_))))))
     refine AB (L := BF N p0 p1 v2) h (fun v11 => mk [(0, .e (.one (.own 90000))), (1, .e (.one (.clo (BD (Dv true Af true Af) tB p1)))), (5, .e (.one (.pure (.val (.int .i64 v11.2.1))))), (6, .e (.one (.view 90000 3 ((v2).toNat) ((p0.length - (v2).toNat))))), (7, .e (.one (.pure (.val (.int .i64 v11.2.2)))))] [(90000, .vec 3 (v11.1.map Af))]) (fun v12 => mk [(0, .e (.one (.own 90000))), (5, .e (.one (.pure (.val (.int .i64 v12.2)))))] [(90000, .vec 3 (v12.1.map Af))]) (fun _ _ => rfl) (sm [] _ _ rfl rfl) (fun j11 n11 v11 h => ?_) (fun v12 s h hs => ?_)
     ·unfold BF at h
      refine Ab (Ab (Aa Ac rfl (qm rfl (qm rfl ?_))))
      refine PJ (.p rfl) rfl AD ?_
      refine AT rfl (Ad ?_)
      refine Ao rfl (fun c13 => ?_) (fun c13 => ?_)
      ·have h := Am c13 h
       refine Ap ?_
       refine AO h (fun v14 => mk [(0, .e (.one (.own 90000))), (1, .e (.one (.clo (BD (Dv true Af true Af) tB p1)))), (5, .e (.one (.pure (.val (.int .i64 v14.2))))), (6, .e (.one (.view 90000 3 ((v2).toNat) ((p0.length - (v2).toNat))))), (7, .e (.one (.pure (.val (.int .i64 v11.2.2)))))] [(90000, .vec 3 (v14.1.map Af))]) (fun j14 h => ?_) (fun v14 h => ?_)
       ·refine AI (Ab (Aa Ac rfl (qm rfl (qm rfl (qm rfl ?_)))))
        obtain ⟨c16, h⟩ := AM h
        obtain ⟨v15, a15, b15, h⟩ := Ah h
        refine Js Af v11.1 (.p rfl) rfl c16 rfl rfl AD Aw a15 (HB b15).1 rfl ?_
        refine Jj (.p rfl) rfl AU Aw rfl (Ag (HB b15).2) ?_
        refine qm rfl (qm rfl (Cl rfl ?_))
        obtain ⟨v17, a17, b17, h⟩ := Ah h
        refine Js Af v11.1 (.p rfl) rfl c16 rfl rfl AD Aw a17 (HB b17).1 rfl ?_
        refine Jj (.p rfl) rfl AU Aw rfl (Ag (HB b17).2) ?_
        obtain ⟨v18, a18, h⟩ := bind_some h
        refine Dy (ds0 := [_, _]) (ar := (Dv true Af true Af) ((v15, v17))) (.p rfl) rfl rfl ⟨rfl, rfl, trivial⟩ rfl rfl rfl (DA (Eb _ _ _ _ Bc Bc) a18) ?_
        refine Cy rfl (AF (by kernel_rfl) ?_)
        refine Ao rfl (fun c19 => ?_) (fun c19 => ?_)
        ·have h := Am c19 h
         refine Ab (Aa Ac rfl (qm rfl (qm rfl (qm rfl (qm rfl ?_)))))
         obtain ⟨v20, a20, b20, h⟩ := Ah h
         refine Js Af v11.1 (.p rfl) rfl c16 rfl rfl AD Aw a20 (HB b20).1 rfl ?_
         refine Jj (.p rfl) rfl AU Aw rfl (Ag (HB b20).2) ?_
         obtain ⟨v21, a21, b21, h⟩ := Ah h
         refine qI AD Aw a21 (Ag b21) rfl ?_
         refine AX rfl rfl rfl rfl (Ag b21) rfl Aw rfl (AV rfl) (AY Af v11.1 _ v20) ?_
         refine Ad (Aa Ac rfl (qm rfl (AQ rfl (qa rfl (Ad ?_)))))
         exact As _ h (sm [] _ _ rfl rfl)
        ·have h := An c19 h
         refine Ap ?_
         exact As _ h (sm [] _ _ rfl rfl)
       ·refine Aa Ac rfl (qm rfl (AQ rfl (qa rfl (Ad ?_))))
        exact As _ h (sm [] _ _ rfl rfl)
      ·have h := An c13 h
       refine AS ?_
       exact As _ h (sm [] _ _ rfl rfl)
     ·refine Ak hs (Ab (Aa Ac rfl (qm rfl (qm rfl ?_))))
      obtain ⟨c22, h⟩ := AM h
      have w23 : ((v12.2).toNat) + ((v12.1.length - (v12.2).toNat)) ≤ v12.1.length := by have := c22.2.1; have := c22.2.2; omega
      refine GV Af v12.1 (.p rfl) rfl (Gp Af _ _ v12.1) rfl AD Aw (.some _ _ _ _ c22.1) (.none _) ⟨rfl, trivial⟩ trivial c22.2.1 (by rw [Nat.zero_add]; exact c22.2.2) (Nat.zero_add _) rfl ?_
      have w24 : (Hz v12.1 ((v12.2).toNat) (List.replicate ((v12.1.length - (v12.2).toNat)) ((Ae.mk (([] : List Int)) (([] : List Int)) (([] : List Int)))))).length = v12.1.length := HS (by rw [List.length_replicate]; exact w23)
      refine MS Af v12.1 ((Ae.mk (([] : List Int)) (([] : List Int)) (([] : List Int)))) rfl rfl (JC Af _ _ ((v12.2).toNat) ((v12.1.length - (v12.2).toNat)) v12.1 w23) rfl AD Du rfl rfl rfl rfl ?_
      refine Ad (Ab (Aa Ac rfl (qm rfl (qm rfl ?_))))
      obtain ⟨c25, h⟩ := AM h
      have w26 : 0 + ((v12.2).toNat) ≤ (Hz v12.1 ((v12.2).toNat) (List.replicate ((v12.1.length - (v12.2).toNat)) ((Ae.mk (([] : List Int)) (([] : List Int)) (([] : List Int)))))).length := by have := c25.2.1; have := c25.2.2; omega
      refine GV Af (Hz v12.1 ((v12.2).toNat) (List.replicate ((v12.1.length - (v12.2).toNat)) ((Ae.mk (([] : List Int)) (([] : List Int)) (([] : List Int)))))) (.p rfl) rfl (Gp Af _ _ (Hz v12.1 ((v12.2).toNat) (List.replicate ((v12.1.length - (v12.2).toNat)) ((Ae.mk (([] : List Int)) (([] : List Int)) (([] : List Int))))))) rfl AD Aw (.none _) (.some _ _ _ _ c25.1) trivial ⟨rfl, trivial⟩ c25.2.1 (by rw [Nat.zero_add]; exact c25.2.2) (Nat.zero_add _) rfl ?_
      refine qa rfl (Ad ?_)
      obtain rfl := sj h
      refine Ak (sm [] [(4, .e (.one (.view 90000 3 0 ((v12.2).toNat))))] [(90000, .vec 3 ((Hz v12.1 ((v12.2).toNat) (List.replicate ((v12.1.length - (v12.2).toNat)) ((Ae.mk (([] : List Int)) (([] : List Int)) (([] : List Int)))))).map Af))] rfl rfl) (Ax ?_)
      exact ⟨⟨[_], ⟨.tmp _ _ rfl, trivial⟩, rfl⟩, ⟨rfl, trivial⟩, trivial⟩
    ·have h := An c8 h
     refine Ap (Aa Ac rfl (qm rfl (AQ rfl (qa rfl (Ad ?_)))))
     exact As _ h (sm [] _ _ rfl rfl)
   ·have h := An c4 h
    refine AS ?_
    exact As _ h (sm [] _ _ rfl rfl)
  ·refine Ak hs (Ab (Aa Ac rfl (qm rfl (qa rfl (Ad ?_)))))
   obtain rfl := sj h
   refine Ak ((L0 Af p0 4 90000 3 rfl rfl).trans (sm [] [(4, .e (.one (.view 90000 3 0 p0.length)))] [(90000, .vec 3 (p0.map Af))] rfl rfl)) (Ax ?_)
   exact ⟨⟨[_], ⟨.tmp _ _ rfl, trivial⟩, rfl⟩, ⟨rfl, trivial⟩, trivial⟩
set_option maxRecDepth 10000 in
theorem J5 (N : Nat) (p0 : Ae) (p1 : Ae) (r : Bool) (h : E2 N p0 p1 = some r) : Az Try.prog 27 [.e (.agg [.pure (.sl (p0.fBase.map Aj)), .pure (.sl (p0.fNext.map Aj)), .pure (.sl (p0.fHeld.map Bs))]), .e (.agg [.pure (.sl (p1.fBase.map Aj)), .pure (.sl (p1.fNext.map Aj)), .pure (.sl (p1.fHeld.map Bs))])] [] (.e (.one (.pure (.val (.bool r))))) := by
 unfold E2 at h
 refine Ar (n := 9) (rs := [.tmp 4]) Try.func27 rfl rfl rfl (AV rfl) (AV rfl) rfl fun w0 S0 => ?_
 refine Ab (Aa Ac rfl (qb rfl (qb rfl (qa rfl (Ad (Ab (Aa Ac rfl (qL AU Aw rfl (qL AU Aw rfl ?_)))))))))
 obtain ⟨v1, a1, h⟩ := bind_some h
 refine AC [] (Hp N p0 p1 v1 a1) Qz rfl (Cm rfl (qa rfl (Ad ?_)))
 obtain rfl := sj h
 refine Ak (sm [] [(4, .e (.one (.pure (.val (.bool ((v1 == 0)))))))] [] rfl rfl) (Ax ?_)
 exact ⟨⟨[_], ⟨.tmp _ _ rfl, trivial⟩, rfl⟩, trivial⟩
set_option maxRecDepth 10000 in
theorem Lb (N : Nat) (p0 : Ai) (p1 : List Av) (r : (List Ae) × Int) (h : GW N p0 p1 = some r) : Az Try.prog 8 [.e (.agg [.pure (.sl (p0.fVersions.map Aj)), .pure (.sl (p0.fNow.map Aj)), .pure (.sl (p0.fTarget.map Aj)), .pure (.sl (p0.fTables.map Aq))]), .e (.one (.pure (.sl (p1.map AH))))] [(3, r.1.map Af)] (.tup [.one (.own 0), .one (.pure (.val (.int .i64 r.2)))]) := by
 unfold GW at h
 refine Ar (n := 47) (rs := [.tmp 4, .tmp 5]) Try.func8 rfl rfl rfl (AV rfl) (AV rfl) rfl fun w0 S0 => ?_
 refine Ab (Aa Ac rfl (qb rfl (qa rfl (qa rfl (Ad (Ab (Aa Ac rfl (qL DO Dz rfl (qm rfl ?_)))))))))
 obtain ⟨v1, a1, h⟩ := bind_some h
 refine AC [2001] (JO N p0 p1 v1 a1) Ru rfl (qm rfl (qx rfl (qx rfl (qx rfl (qa rfl (qa rfl (qa rfl (Ad (Ab (Ab (Aa Ac rfl (qm rfl (Cd rfl (Ad ?_))))))))))))))
 refine Ao rfl (fun c2 => ?_) (fun c2 => ?_)
 ·have h := Am c2 h
  refine Ab (Aa Ac rfl (qm rfl (qa rfl (qa rfl (Ad ?_)))))
  obtain rfl := sj h
  refine Ak ((Ba 4 2002 3 rfl rfl rfl).trans (sm [(1000, 2002)] [(4, .e (.one (.own 1000))), (5, .e (.one (.pure (.val (.int .i64 v1.2.2)))))] [(1000, .vec 3 ((([] : List Ae)).map Af))] rfl rfl)) (Ax ?_)
  exact ⟨⟨[_, _], ⟨.tmp _ _ rfl, ⟨.tmp _ _ rfl, trivial⟩⟩, rfl⟩, ⟨rfl, trivial⟩⟩
 ·have h := An c2 h
  refine Ap (Ab (Aa Ac rfl (qa rfl (Ad (Ab (Ab (Aa Ac rfl (qm rfl (Dj AD rfl (qm rfl (Ad ?_)))))))))))
  refine AB (L := ED N p0 v1) h (fun v3 => mk [(2, .e (.one (.ptr 2 0))), (9, .e (.one (.own 2003))), (24, .e (.one (.own 2004))), (25, .e (.one (.pure (.val (.int .i64 ((v1.1.length : Int))))))), (26, .e (.one (.pure (.val (.int .i64 v3.2)))))] [(2, .box [.pure (.sl (p0.fVersions.map Aj)), .pure (.sl (p0.fNow.map Aj)), .pure (.sl (p0.fTarget.map Aj)), .pure (.sl (p0.fTables.map Aq))]), (2003, .vec 3 (v3.1.map Af)), (2004, .vec 3 (v1.1.map Af))]) (fun v4 => mk [(9, .e (.one (.own 2005)))] [(2005, .vec 3 (v4.map Af))]) (fun _ _ => rfl) ((Ba 9 2008 3 rfl rfl rfl).trans (sm [(2003, 2008), (2004, 2001)] _ _ rfl rfl)) (fun j3 n3 v3 h => ?_) (fun v4 s h hs => ?_)
  ·unfold ED at h
   refine Ab (Aa Ac rfl (AT rfl (Ad (Ab ?_))))
   refine Ao rfl (fun c5 => ?_) (fun c5 => ?_)
   ·have h := Am c5 h
    refine Ap (Ab (AI (Ab (Aa Ac rfl ?_))))
    obtain ⟨v6, a6, b6, h⟩ := Ah h
    refine qI AD Aw a6 (Ag b6) rfl (qJ AU Aw (Ag b6) rfl (qz Du rfl (qs Aw rfl (Ad (Ab (Aa Ac rfl (qL DO Dz rfl (qL AU Aw rfl ?_))))))))
    obtain ⟨v7, a7, h⟩ := bind_some h
    refine AC [2006] (I3 N p0 v6 v7 a7) Rv rfl (qm rfl (qx rfl (qx rfl (qa rfl (qa rfl (Ad (Ab (Ab (Aa Ac rfl (qm rfl (Cd rfl (Ad ?_))))))))))))
    refine Ao rfl (fun c8 => ?_) (fun c8 => ?_)
    ·have h := Am c8 h
     refine Ab (Aa Ac rfl (qm rfl (qa rfl (qa rfl (Ad ?_)))))
     obtain rfl := sj h
     refine Ak ((Ba 4 2007 3 rfl rfl rfl).trans (sm [(1000, 2007)] [(4, .e (.one (.own 1000))), (5, .e (.one (.pure (.val (.int .i64 v7.2)))))] [(1000, .vec 3 ((([] : List Ae)).map Af))] rfl rfl)) (Ax ?_)
     exact ⟨⟨[_, _], ⟨.tmp _ _ rfl, ⟨.tmp _ _ rfl, trivial⟩⟩, rfl⟩, ⟨rfl, trivial⟩⟩
    ·have h := An c8 h
     refine Ap (Aa Ac rfl (qm rfl (qm rfl ?_)))
     obtain ⟨c9, h⟩ := AM h
     refine DE (f := Af) AD AD Aw Lc Du c9 rfl (qa rfl (Ad (Aa Ac rfl (AQ rfl (qm rfl (Ad ?_))))))
     exact As _ h (sm [(2003, 41)] _ _ rfl rfl)
   ·have h := An c5 h
    refine AS ?_
    exact As _ h (sm [(2005, 2003)] _ _ rfl rfl)
  ·refine Ak hs (Ab (Aa Ac rfl (qm rfl ?_)))
   obtain ⟨v10, a10, h⟩ := bind_some h
   refine CH (ds0 := [_, _]) [2005] [] [true] (Bn.weak (ds' := [_, .e (.one (.fnc 25))]) (DN N v4 ((fun (x : Ae × Ae) => DI N x.1 x.2)) v10 a10) ⟨(fun _ _ _ hh => hh), (fun _ _ _ hh => Kx Qz (fun ar t ht => by obtain ⟨x, r, rfl, hq, rfl⟩ := HG ht; exact Hp N x.1 x.2 r hq) hh), trivial⟩) (.p rfl) R9 rfl ⟨rfl, rfl, trivial⟩ rfl rfl (by decide) ⟨rfl, trivial⟩ rfl (A2 rfl) trivial ⟨(fun h => by cases h), trivial⟩ rfl rfl rfl ?_
   refine Ad (Ab (Aa Ac rfl (qm rfl ?_)))
   obtain ⟨v11, a11, h⟩ := bind_some h
   obtain ⟨c12, h⟩ := AM h
   have w13 : 0 + v11.1 ≤ v11.2.length := by rw [Nat.zero_add]; exact c12
   refine CH (ds0 := [_, _]) [2005] [] [true] (Bn.weak (ds' := [_, .e (.one (.fnc 27))]) (E5 N v10 ((fun (x : Ae × Ae) => E2 N x.1 x.2)) v11 a11) ⟨(fun _ _ _ hh => hh), (fun _ _ _ hh => Kx S7 (fun ar t ht => by obtain ⟨x, r, rfl, hq, rfl⟩ := HG ht; exact J5 N x.1 x.2 r hq) hh), trivial⟩) (.p rfl) SR rfl ⟨rfl, rfl, trivial⟩ rfl rfl (by decide) ⟨rfl, trivial⟩ rfl (A2 rfl) trivial ⟨(fun h => by cases h), trivial⟩ rfl rfl rfl ?_
   refine C2 (O0 Af v11.2 46 2005 2009 3 v11.1 rfl rfl rfl rfl rfl c12) (qa rfl (qa rfl (Ad ?_)))
   obtain rfl := sj h
   refine Ak (sm [(1000, 2009)] [(4, .e (.one (.own 1000))), (5, .e (.one (.pure (.val (.int .i64 0)))))] [(1000, .vec 3 ((v11.2.take v11.1).map Af))] rfl rfl) (Ax ?_)
   exact ⟨⟨[_, _], ⟨.tmp _ _ rfl, ⟨.tmp _ _ rfl, trivial⟩⟩, rfl⟩, ⟨rfl, trivial⟩⟩
set_option maxRecDepth 10000 in
theorem LJ (N : Nat) (p0 : Ai) (p1 : List Av) (r : Bool × Int) (h : Hh N p0 p1 = some r) : Az Try.prog 9 [.e (.agg [.pure (.sl (p0.fVersions.map Aj)), .pure (.sl (p0.fNow.map Aj)), .pure (.sl (p0.fTarget.map Aj)), .pure (.sl (p0.fTables.map Aq))]), .e (.one (.pure (.sl (p1.map AH))))] [] (.tup [.one (.pure (.val (.bool r.1))), .one (.pure (.val (.int .i64 r.2)))]) := by
 unfold Hh at h
 refine Ar (n := 43) (rs := [.tmp 4, .tmp 5]) Try.func9 rfl rfl rfl (AV rfl) (AV rfl) rfl fun w0 S0 => ?_
 refine Ab (Aa Ac rfl (qb rfl (qa rfl (qa rfl (Ad (Ab (Aa Ac rfl (qL DO Dz rfl (qm rfl ?_)))))))))
 obtain ⟨v1, a1, h⟩ := bind_some h
 refine AC [2001] (JO N p0 p1 v1 a1) Ru rfl (qm rfl (qx rfl (qx rfl (qx rfl (qa rfl (qa rfl (qa rfl (Ad (Ab (Ab (Aa Ac rfl (qm rfl (Cd rfl (Ad ?_))))))))))))))
 refine Ao rfl (fun c2 => ?_) (fun c2 => ?_)
 ·have h := Am c2 h
  refine Ab (Aa Ac rfl (qm rfl (qa rfl (qa rfl (Ad ?_)))))
  obtain rfl := sj h
  refine Ak (sm [] [(4, .e (.one (.pure (.val (.bool false))))), (5, .e (.one (.pure (.val (.int .i64 v1.2.2)))))] [] rfl rfl) (Ax ?_)
  exact ⟨⟨[_, _], ⟨.tmp _ _ rfl, ⟨.tmp _ _ rfl, trivial⟩⟩, rfl⟩, trivial⟩
 ·have h := An c2 h
  refine Ap (Ab (Ab (Aa Ac rfl (qm rfl (Dj AD rfl (qm rfl (Ad ?_)))))))
  refine AB (L := E0 N p0 v1) h (fun v3 => mk [(2, .e (.one (.ptr 2 0))), (23, .e (.one (.own 2002))), (24, .e (.one (.pure (.val (.int .i64 ((v1.1.length : Int))))))), (25, .e (.one (.pure (.val (.int .i64 v3)))))] [(2, .box [.pure (.sl (p0.fVersions.map Aj)), .pure (.sl (p0.fNow.map Aj)), .pure (.sl (p0.fTarget.map Aj)), .pure (.sl (p0.fTables.map Aq))]), (2002, .vec 3 (v1.1.map Af))]) (fun v4 => mk [] []) (fun _ _ => rfl) (sm [(2002, 2001)] _ _ rfl rfl) (fun j3 n3 v3 h => ?_) (fun v4 s h hs => ?_)
  ·unfold E0 at h
   refine Ab (Aa Ac rfl (AT rfl (Ad (Ab ?_))))
   refine Ao rfl (fun c5 => ?_) (fun c5 => ?_)
   ·have h := Am c5 h
    refine Ap (Ab (AI (Ab (Aa Ac rfl ?_))))
    obtain ⟨v6, a6, b6, h⟩ := Ah h
    refine qI AD Aw a6 (Ag b6) rfl (qJ AU Aw (Ag b6) rfl (qz Du rfl (qs Aw rfl (Ad (Ab (Aa Ac rfl (qL DO Dz rfl (qL AU Aw rfl ?_))))))))
    obtain ⟨v7, a7, h⟩ := bind_some h
    refine AC [] (HT N p0 v6 v7 a7) QB rfl (qm rfl (qx rfl (qx rfl (qa rfl (qa rfl (Ad ?_))))))
    refine AO h (fun v8 => mk [(2, .e (.one (.ptr 2 0))), (12, .e (.one (.pure (.val (.int .i64 v7.2))))), (23, .e (.one (.own 2003))), (24, .e (.one (.pure (.val (.int .i64 ((v1.1.length : Int))))))), (25, .e (.one (.pure (.val (.int .i64 v3))))), (40, .e (.one (.pure (.val (.bool v8)))))] [(2, .box [.pure (.sl (p0.fVersions.map Aj)), .pure (.sl (p0.fNow.map Aj)), .pure (.sl (p0.fTarget.map Aj)), .pure (.sl (p0.fTables.map Aq))]), (2003, .vec 3 (v1.1.map Af))]) (fun j8 h => ?_) (fun v8 h => ?_)
    ·refine Aa Ac rfl (qm rfl (Cd rfl (qm rfl ?_)))
     refine AA (t := 37) rfl (fun c9 => ?_) (fun c9 => ?_)
     ·have h := Am c9 h
      refine qn rfl (qn rfl (qp rfl (Ad ?_)))
      exact As _ h (sm [(2003, 2002)] _ _ rfl rfl)
     ·have h := An c9 h
      refine qm rfl (Cy rfl (qp rfl (Ad ?_)))
      exact As _ h (sm [(2003, 2002)] _ _ rfl rfl)
    ·refine Ao rfl (fun c10 => ?_) (fun c10 => ?_)
     ·have h := Am c10 h
      refine Ab (Aa Ac rfl (qm rfl (qa rfl (qa rfl (Ad ?_)))))
      obtain rfl := sj h
      refine Ak (sm [] [(4, .e (.one (.pure (.val (.bool false))))), (5, .e (.one (.pure (.val (.int .i64 v7.2)))))] [] rfl rfl) (Ax ?_)
      exact ⟨⟨[_, _], ⟨.tmp _ _ rfl, ⟨.tmp _ _ rfl, trivial⟩⟩, rfl⟩, trivial⟩
     ·have h := An c10 h
      refine Ap (Aa Ac rfl (AQ rfl (qm rfl (Ad ?_))))
      exact As _ h (sm [(2002, 2003)] _ _ rfl rfl)
   ·have h := An c5 h
    refine AS ?_
    exact As _ h (sm [] _ _ rfl rfl)
  ·refine Ak hs (Ab (Aa Ac rfl (qa rfl (qa rfl (Ad ?_)))))
   obtain rfl := sj h
   refine Ak (sm [] [(4, .e (.one (.pure (.val (.bool true))))), (5, .e (.one (.pure (.val (.int .i64 0)))))] [] rfl rfl) (Ax ?_)
   exact ⟨⟨[_, _], ⟨.tmp _ _ rfl, ⟨.tmp _ _ rfl, trivial⟩⟩, rfl⟩, trivial⟩
set_option maxRecDepth 10000 in
theorem GA (N : Nat) (r : Bool) (h : Dk N = some r) : Az Try.prog 6 [] [] (.e (.one (.pure (.val (.bool r))))) := by
 unfold Dk at h
 refine Ar (n := 84) (rs := [.tmp 0]) Try.func6 rfl rfl rfl (AV rfl) (AV rfl) rfl fun w0 S0 => ?_
 refine Ab (Aa Ac rfl (qa rfl (Ad (Ab (Aa Ac rfl ?_)))))
 obtain ⟨v1, a1, h⟩ := bind_some h
 refine AC [2001, 2002, 2003, 2004] (Dc N false v1 a1) OE rfl (C2 (A3 2001 _ _ rfl rfl) (C2 (A3 2002 _ _ rfl rfl) (C2 (A3 2003 _ _ rfl rfl) (C2 (A3 2004 _ _ rfl rfl) ?_))))
 obtain ⟨v2, a2, h⟩ := bind_some h
 refine AC [2005] (Ic N v1 v2 a2) RA rfl (qm rfl (qx rfl (qx rfl (qa rfl (qa rfl (Ad (Ab (Aa Ac rfl ?_))))))))
 obtain ⟨v3, a3, h⟩ := bind_some h
 refine AC [2006, 2007, 2008, 2009] (Dc N true v3 a3) OE rfl (C2 (A3 2006 _ _ rfl rfl) (C2 (A3 2007 _ _ rfl rfl) (C2 (A3 2008 _ _ rfl rfl) (C2 (A3 2009 _ _ rfl rfl) ?_))))
 obtain ⟨v4, a4, h⟩ := bind_some h
 refine AC [2010] (Ic N v3 v4 a4) RA rfl (qm rfl (qx rfl (qx rfl (qa rfl (qa rfl (Ad (Ab (Aa Ac rfl ?_))))))))
 obtain ⟨v5, a5, h⟩ := bind_some h
 refine AC [2011, 2012, 2013, 2014] (Dc N false v5 a5) OE rfl (Er Hc Qm Sk rfl ?_)
 obtain ⟨v6, a6, h⟩ := bind_some h
 refine Fb [2015] [2011, 2012, 2013, 2014, 24] (LI N v5 (([1, 2, 3] : List Int)) v6 a6) Tq (HV (fun _ => rfl) DR) rfl (qm rfl (qx rfl (qx rfl (qa rfl (qa rfl (Ad (Ab (Aa Ac rfl (C4 HK Qf rfl (Er Dw Em HK rfl (qa rfl (Ad (Ab (Aa Ac rfl ?_))))))))))))))
 obtain ⟨v7, a7, h⟩ := bind_some h
 refine AC [2016, 2017, 2018, 2019] (Dc N false v7 a7) OE rfl (qm rfl (C2 (A3 2016 _ _ rfl rfl) (C2 (A3 2017 _ _ rfl rfl) (C2 (A3 2018 _ _ rfl rfl) (C2 (A3 2019 _ _ rfl rfl) (C2 (A3 29 _ _ rfl rfl) ?_))))))
 obtain ⟨v8, a8, h⟩ := bind_some h
 refine AC [2020] (Lb N v7 (([(Av.mk 1 0 1)] : List Av)) v8 a8) TI rfl (qm rfl (qx rfl (qx rfl (qa rfl (qa rfl (Ad (Ab (Aa Ac rfl ?_))))))))
 obtain ⟨v9, a9, h⟩ := bind_some h
 refine AC [2021, 2022, 2023, 2024] (Dc N false v9 a9) OE rfl (qm rfl ?_)
 obtain ⟨v10, a10, h⟩ := bind_some h
 refine Fb [] [2021, 2022, 2023, 2024] (LJ N v9 (([(Av.mk 1 0 1)] : List Av)) v10 a10) TG DR rfl (qm rfl (qx rfl (qx rfl (qa rfl (qa rfl (Ad ?_))))))
 refine AO h (fun v11 => mk [(0, .e (.one (.pure (.val (.bool v11)))))] []) (fun j11 h => ?_) (fun v11 h => ?_)
 ·refine Aa Ac rfl (qm rfl (Cm rfl (qm rfl ?_)))
  refine AA (t := 44) rfl (fun c12 => ?_) (fun c12 => ?_)
  ·have h := Am c12 h
   refine qm rfl (Cm rfl (qp rfl (qm rfl ?_)))
   refine AA (t := 48) rfl (fun c13 => ?_) (fun c13 => ?_)
   ·have h := Am c13 h
    refine qm rfl (Cm rfl (qp rfl (qm rfl ?_)))
    refine AA (t := 52) rfl (fun c14 => ?_) (fun c14 => ?_)
    ·have h := Am c14 h
     refine qm rfl (Cm rfl (qp rfl (qm rfl ?_)))
     refine AA (t := 56) rfl (fun c15 => ?_) (fun c15 => ?_)
     ·have h := Am c15 h
      refine qm rfl (Cm rfl (qp rfl (qm rfl ?_)))
      refine AA (t := 60) rfl (fun c16 => ?_) (fun c16 => ?_)
      ·have h := Am c16 h
       refine qm rfl (Dj AD rfl (Cm rfl (qp rfl (qm rfl ?_))))
       refine AA (t := 65) rfl (fun c17 => ?_) (fun c17 => ?_)
       ·have h := Am c17 h
        refine qm rfl (Dj AD rfl (Cm rfl (qp rfl (qm rfl ?_))))
        refine AA (t := 70) rfl (fun c18 => ?_) (fun c18 => ?_)
        ·have h := Am c18 h
         refine qm rfl (Dj Dw rfl (Cm rfl (qp rfl (qm rfl ?_))))
         refine AA (t := 75) rfl (fun c19 => ?_) (fun c19 => ?_)
         ·have h := Am c19 h
          refine qm rfl (Dj AD rfl (Cm rfl (qp rfl (qm rfl ?_))))
          refine AA (t := 80) rfl (fun c20 => ?_) (fun c20 => ?_)
          ·have h := Am c20 h
           refine qm rfl (Cy rfl (qp rfl (qa rfl (Ad ?_))))
           exact As _ h (sm [] _ _ rfl rfl)
          ·have h := An c20 h
           refine qn rfl (qn rfl (qp rfl (qa rfl (Ad ?_))))
           exact As _ h (sm [] _ _ rfl rfl)
         ·have h := An c19 h
          refine qn rfl (qn rfl (qn rfl (qp rfl (qm rfl (qn rfl (qn rfl (qp rfl (qa rfl (Ad ?_)))))))))
          exact As _ h (sm [] _ _ rfl rfl)
        ·have h := An c18 h
         refine qn rfl (qn rfl (qn rfl (qp rfl (qm rfl (qn rfl (qn rfl (qn rfl (qp rfl (qm rfl (qn rfl (qn rfl (qp rfl (qa rfl (Ad ?_))))))))))))))
         exact As _ h (sm [] _ _ rfl rfl)
       ·have h := An c17 h
        refine qn rfl (qn rfl (qn rfl (qp rfl (qm rfl (qn rfl (qn rfl (qn rfl (qp rfl (qm rfl (qn rfl (qn rfl (qn rfl (qp rfl (qm rfl (qn rfl (qn rfl (qp rfl (qa rfl (Ad ?_)))))))))))))))))))
        exact As _ h (sm [] _ _ rfl rfl)
      ·have h := An c16 h
       refine qn rfl (qn rfl (qn rfl (qp rfl (qm rfl (qn rfl (qn rfl (qn rfl (qp rfl (qm rfl (qn rfl (qn rfl (qn rfl (qp rfl (qm rfl (qn rfl (qn rfl (qn rfl (qp rfl (qm rfl (qn rfl (qn rfl (qp rfl (qa rfl (Ad ?_))))))))))))))))))))))))
       exact As _ h (sm [] _ _ rfl rfl)
     ·have h := An c15 h
      refine qn rfl (qn rfl (qp rfl (qm rfl (qn rfl (qn rfl (qn rfl (qp rfl (qm rfl (qn rfl (qn rfl (qn rfl (qp rfl (qm rfl (qn rfl (qn rfl (qn rfl (qp rfl (qm rfl (qn rfl (qn rfl (qn rfl (qp rfl (qm rfl (qn rfl (qn rfl (qp rfl (qa rfl (Ad ?_))))))))))))))))))))))))))))
      exact As _ h (sm [] _ _ rfl rfl)
    ·have h := An c14 h
     refine qn rfl (qn rfl (qp rfl (qm rfl (qn rfl (qn rfl (qp rfl (qm rfl (qn rfl (qn rfl (qn rfl (qp rfl (qm rfl (qn rfl (qn rfl (qn rfl (qp rfl (qm rfl (qn rfl (qn rfl (qn rfl (qp rfl (qm rfl (qn rfl (qn rfl (qn rfl (qp rfl (qm rfl (qn rfl (qn rfl (qp rfl (qa rfl (Ad ?_))))))))))))))))))))))))))))))))
     exact As _ h (sm [] _ _ rfl rfl)
   ·have h := An c13 h
    refine qn rfl (qn rfl (qp rfl (qm rfl (qn rfl (qn rfl (qp rfl (qm rfl (qn rfl (qn rfl (qp rfl (qm rfl (qn rfl (qn rfl (qn rfl (qp rfl (qm rfl (qn rfl (qn rfl (qn rfl (qp rfl (qm rfl (qn rfl (qn rfl (qn rfl (qp rfl (qm rfl (qn rfl (qn rfl (qn rfl (qp rfl (qm rfl (qn rfl (qn rfl (qp rfl (qa rfl (Ad ?_))))))))))))))))))))))))))))))))))))
    exact As _ h (sm [] _ _ rfl rfl)
  ·have h := An c12 h
   refine qn rfl (qn rfl (qp rfl (qm rfl (qn rfl (qn rfl (qp rfl (qm rfl (qn rfl (qn rfl (qp rfl (qm rfl (qn rfl (qn rfl (qp rfl (qm rfl (qn rfl (qn rfl (qn rfl (qp rfl (qm rfl (qn rfl (qn rfl (qn rfl (qp rfl (qm rfl (qn rfl (qn rfl (qn rfl (qp rfl (qm rfl (qn rfl (qn rfl (qn rfl (qp rfl (qm rfl (qn rfl (qn rfl (qp rfl (qa rfl ?_)))))))))))))))))))))))))))))))))))))))
   refine Ad ?_
   exact As _ h (sm [] _ _ rfl rfl)
 ·obtain rfl := sj h
  refine Ak (sm [] [(0, .e (.one (.pure (.val (.bool v11)))))] [] rfl rfl) (Ax ?_)
  exact ⟨⟨[_], ⟨.tmp _ _ rfl, trivial⟩, rfl⟩, trivial⟩
set_option maxRecDepth 10000 in
theorem Jr (N : Nat) (p0 : Ae) (r : Bool) (h : DJ N p0 = some r) : Az Try.prog 16 [.e (.agg [.pure (.sl (p0.fBase.map Aj)), .pure (.sl (p0.fNext.map Aj)), .pure (.sl (p0.fHeld.map Bs))])] [] (.e (.one (.pure (.val (.bool r))))) := by
 unfold DJ at h
 refine Ar (n := 19) (rs := [.tmp 2]) Try.func16 rfl rfl rfl (AV rfl) (AV rfl) rfl fun w0 S0 => ?_
 refine Ab (Aa Ac rfl (qb rfl (qa rfl (Ad ?_))))
 refine AO h (fun v1 => mk [(2, .e (.one (.pure (.val (.bool v1)))))] []) (fun j1 h => ?_) (fun v1 h => ?_)
 ·refine Aa Ac rfl (qf Da rfl (ql Bp rfl (AN AJ rfl (Id rfl (qm rfl ?_)))))
  refine AA (t := 7) rfl (fun c2 => ?_) (fun c2 => ?_)
  ·have h := Am c2 h
   refine qf Cu rfl (ql Bp rfl (AN AJ rfl (Id rfl (qp rfl (qm rfl ?_)))))
   refine AA (t := 13) rfl (fun c3 => ?_) (fun c3 => ?_)
   ·have h := Am c3 h
    refine qf Df rfl (ql Hk rfl (AN CI rfl (Id rfl (qp rfl (qa rfl (Ad ?_))))))
    exact As _ h (sm [] _ _ rfl rfl)
   ·have h := An c3 h
    refine qn rfl (qn rfl (qn rfl (qn rfl (qp rfl (qa rfl (Ad ?_))))))
    exact As _ h (sm [] _ _ rfl rfl)
  ·have h := An c2 h
   refine qn rfl (qn rfl (qn rfl (qn rfl (qp rfl (qm rfl (qn rfl (qn rfl (qn rfl (qn rfl (qp rfl (qa rfl (Ad ?_))))))))))))
   exact As _ h (sm [] _ _ rfl rfl)
 ·obtain rfl := sj h
  refine Ak (sm [] [(2, .e (.one (.pure (.val (.bool v1)))))] [] rfl rfl) (Ax ?_)
  exact ⟨⟨[_], ⟨.tmp _ _ rfl, trivial⟩, rfl⟩, trivial⟩
set_option maxRecDepth 10000 in
theorem F7 (N : Nat) (p0 : List Ae) (r : (List Ae)) (h : B2 N p0 = some r) : Az Try.prog 17 [.e (.one (.pure (.sl (p0.map Af))))] [(3, r.map Af)] (.e (.one (.own 0))) := by
 unfold B2 at h
 refine Ar (n := 8) (rs := [.tmp 2]) Try.func17 rfl rfl rfl (AV rfl) (AV rfl) rfl fun w0 S0 => ?_
 refine Ab (Aa Ac rfl (qa rfl (Ad (Ab (Ab (Aa Ac rfl (qm rfl ?_)))))))
 refine LT (.p rfl) rfl AD ?_
 refine Ad ?_
 refine LG rfl (fun c2 => ?_) ?_
 ·have c2 := List.map_eq_nil_iff.1 c2
  rw [c2] at h
  have h : (some (([] : List Ae))) = some r := h
  refine Ab (Aa Ac rfl (qa rfl (Ad ?_)))
  obtain rfl := sj h
  refine Ak ((Ba 2 2001 3 rfl rfl rfl).trans (sm [(1000, 2001)] [(2, .e (.one (.own 1000)))] [(1000, .vec 3 ((([] : List Ae)).map Af))] rfl rfl)) (Ax ?_)
  exact ⟨⟨[_], ⟨.tmp _ _ rfl, trivial⟩, rfl⟩, ⟨rfl, trivial⟩⟩
 ·refine Ap (Ab (Aa Ac rfl (Er AD Aw Du rfl (qm rfl ?_))))
  obtain ⟨c1, h⟩ := AM h
  refine MZ (f := Af) AD AD Aw Lc Du (fun _ => rfl) c1 rfl (qa rfl (Ad ?_))
  obtain rfl := sj h
  refine Ak (sm [(1000, 7)] [(2, .e (.one (.own 1000)))] [(1000, .vec 3 (((([] : List Ae)) ++ p0).map Af))] rfl rfl) (Ax ?_)
  exact ⟨⟨[_], ⟨.tmp _ _ rfl, trivial⟩, rfl⟩, ⟨rfl, trivial⟩⟩
set_option maxRecDepth 10000 in
theorem JF (N : Nat) (p0 : Ai) (p1 : List Ae) (r : (List Int) × Int) (h : D0 N p0 p1 = some r) : Az Try.prog 13 [.e (.agg [.pure (.sl (p0.fVersions.map Aj)), .pure (.sl (p0.fNow.map Aj)), .pure (.sl (p0.fTarget.map Aj)), .pure (.sl (p0.fTables.map Aq))]), .e (.one (.pure (.sl (p1.map Af))))] [(1, r.1.map Bs)] (.tup [.one (.own 0), .one (.pure (.val (.int .i64 r.2)))]) := by
 unfold D0 at h
 refine Ar (n := 80) (rs := [.tmp 4, .tmp 5]) Try.func13 rfl rfl rfl (AV rfl) (AV rfl) rfl fun w0 S0 => ?_
 refine Ab (Aa Ac rfl (qb rfl (qa rfl (qa rfl (Ad (Ab (Ab (Aa Ac rfl (qL DO Dz rfl ?_)))))))))
 obtain ⟨v1, a1, h⟩ := bind_some h
 refine AC [] (EH N p0 v1 a1) QQ rfl (qa rfl (Ad (Ab (Aa Ac rfl (qm rfl (Cd rfl (Ad ?_)))))))
 refine Ao rfl (fun c2 => ?_) (fun c2 => ?_)
 ·have h := Am c2 h
  refine Ab (Aa Ac rfl (qm rfl (qa rfl (qa rfl (Ad ?_)))))
  obtain rfl := sj h
  refine Ak ((Ba 4 2001 1 rfl rfl rfl).trans (sm [(1000, 2001)] [(4, .e (.one (.own 1000))), (5, .e (.one (.pure (.val (.int .i64 v1)))))] [(1000, .vec 1 ((([] : List Int)).map Bs))] rfl rfl)) (Ax ?_)
  exact ⟨⟨[_, _], ⟨.tmp _ _ rfl, ⟨.tmp _ _ rfl, trivial⟩⟩, rfl⟩, ⟨rfl, trivial⟩⟩
 ·have h := An c2 h
  refine Ap (Ab (Ab (Aa Ac rfl (qm rfl (AN AD rfl (qm rfl (Ad ?_)))))))
  refine AB (L := CB N p0 p1) h (fun v3 => mk [(1, .e (.one (.pure (.sl (p1.map Af))))), (2, .e (.one (.ptr 2 0))), (19, .e (.one (.pure (.sl (p1.map Af))))), (20, .e (.one (.pure (.val (.int .i64 ((p1.length : Int))))))), (21, .e (.one (.pure (.val (.int .i64 v3)))))] [(2, .box [.pure (.sl (p0.fVersions.map Aj)), .pure (.sl (p0.fNow.map Aj)), .pure (.sl (p0.fTarget.map Aj)), .pure (.sl (p0.fTables.map Aq))])]) (fun v4 => mk [(1, .e (.one (.pure (.sl (p1.map Af))))), (2, .e (.one (.ptr 2 0)))] [(2, .box [.pure (.sl (p0.fVersions.map Aj)), .pure (.sl (p0.fNow.map Aj)), .pure (.sl (p0.fTarget.map Aj)), .pure (.sl (p0.fTables.map Aq))])]) (fun _ _ => rfl) (sm [] _ _ rfl rfl) (fun j3 n3 v3 h => ?_) (fun v4 s h hs => ?_)
  ·unfold CB at h
   refine Ab (Aa Ac rfl (AT rfl (Ad (Ab ?_))))
   refine Ao rfl (fun c5 => ?_) (fun c5 => ?_)
   ·have h := Am c5 h
    refine Ap (Ab (AI (Ab (Aa Ac rfl ?_))))
    obtain ⟨v6, a6, b6, h⟩ := Ah h
    refine qi AD Aw a6 (Ag b6) rfl (qK AU Aw rfl (qz Du rfl (qs Aw rfl (Ad (Ab (Aa Ac rfl (qL DO Dz rfl (qL AU Aw rfl ?_))))))))
    obtain ⟨v7, a7, h⟩ := bind_some h
    refine AC [] (Gn N p0 v6 v7 a7) OV rfl (qa rfl (Ad (Ab (Aa Ac rfl (qm rfl (Cd rfl (Ad ?_)))))))
    refine Ao rfl (fun c8 => ?_) (fun c8 => ?_)
    ·have h := Am c8 h
     refine Ab (Aa Ac rfl (qm rfl (qa rfl (qa rfl (Ad ?_)))))
     obtain rfl := sj h
     refine Ak ((Ba 4 2002 1 rfl rfl rfl).trans (sm [(1000, 2002)] [(4, .e (.one (.own 1000))), (5, .e (.one (.pure (.val (.int .i64 v7)))))] [(1000, .vec 1 ((([] : List Int)).map Bs))] rfl rfl)) (Ax ?_)
     exact ⟨⟨[_, _], ⟨.tmp _ _ rfl, ⟨.tmp _ _ rfl, trivial⟩⟩, rfl⟩, ⟨rfl, trivial⟩⟩
    ·have h := An c8 h
     refine Ap (Aa Ac rfl (AQ rfl (qm rfl (Ad ?_))))
     exact As _ h (sm [] _ _ rfl rfl)
   ·have h := An c5 h
    refine AS ?_
    exact As _ h (sm [] _ _ rfl rfl)
  ·refine Ak hs (Ab (Aa Ac rfl (qf Bv rfl (ql Bp rfl (AN AJ rfl ?_)))))
   obtain ⟨c9, h⟩ := AM h
   refine G8 (.p rfl) rfl rfl rfl CI EE NC (AV rfl) Om rfl rfl rfl c9.1 c9.2.1 c9.2.2 (Kg Bs _ ((0 : Int))) ?_
   refine qa rfl (Ad (Ab (Ab (Aa Ac rfl (qm rfl (AN AD rfl (qm rfl (Ad ?_))))))))
   refine AB (L := B6 N p1) h (fun v10 => mk [(10, .e (.one (.own 2003))), (36, .e (.one (.pure (.sl (p1.map Af))))), (37, .e (.one (.pure (.val (.int .i64 ((p1.length : Int))))))), (38, .e (.one (.pure (.val (.int .i64 v10.2)))))] [(2003, .vec 1 (v10.1.map Bs))]) (fun v11 => mk [(10, .e (.one (.own 2004)))] [(2004, .vec 1 (v11.map Bs))]) (fun _ _ => rfl) (sm [(2003, 35)] _ _ rfl rfl) (fun j10 n10 v10 h => ?_) (fun v11 s h hs => ?_)
   ·unfold B6 at h
    refine Ab (Aa Ac rfl (AT rfl (Ad (Ab ?_))))
    refine Ao rfl (fun c12 => ?_) (fun c12 => ?_)
    ·have h := Am c12 h
     refine Ap (Ab (AI (Ab (Aa Ac rfl ?_))))
     obtain ⟨v13, a13, b13, h⟩ := Ah h
     refine qi AD Aw a13 (Ag b13) rfl (qK AU Aw rfl (qz Du rfl (qs Aw rfl (Ad (Ab (Aa Ac rfl (qm rfl (Dj CI rfl (qm rfl (Ad ?_))))))))))
     refine AB (L := B5 N v10 v13) h (fun v14 => mk [(10, .e (.one (.own 2005))), (12, .e (.one (.ptr 12 0))), (36, .e (.one (.pure (.sl (p1.map Af))))), (37, .e (.one (.pure (.val (.int .i64 ((p1.length : Int))))))), (38, .e (.one (.pure (.val (.int .i64 v10.2))))), (43, .e (.one (.pure (.val (.int .i64 ((v10.1.length : Int))))))), (44, .e (.one (.pure (.val (.int .i64 v14.2)))))] [(12, .box [.pure (.sl (v13.fBase.map Aj)), .pure (.sl (v13.fNext.map Aj)), .pure (.sl (v13.fHeld.map Bs))]), (2005, .vec 1 (v14.1.map Bs))]) (fun v15 => mk [(10, .e (.one (.own 2006))), (36, .e (.one (.pure (.sl (p1.map Af))))), (37, .e (.one (.pure (.val (.int .i64 ((p1.length : Int))))))), (38, .e (.one (.pure (.val (.int .i64 v10.2)))))] [(2006, .vec 1 (v15.map Bs))]) (fun _ _ => rfl) (sm [(2005, 2003)] _ _ rfl rfl) (fun j14 n14 v14 h => ?_) (fun v15 s h hs => ?_)
     ·unfold B5 at h
      refine Ab (Aa Ac rfl (AT rfl (Ad (Ab ?_))))
      refine Ao rfl (fun c16 => ?_) (fun c16 => ?_)
      ·have h := Am c16 h
       refine Ap ?_
       refine AO h (fun v17 => mk [(10, .e (.one (.own 2007))), (12, .e (.one (.ptr 12 0))), (36, .e (.one (.pure (.sl (p1.map Af))))), (37, .e (.one (.pure (.val (.int .i64 ((p1.length : Int))))))), (38, .e (.one (.pure (.val (.int .i64 v10.2))))), (43, .e (.one (.pure (.val (.int .i64 ((v10.1.length : Int))))))), (44, .e (.one (.pure (.val (.int .i64 v14.2)))))] [(12, .box [.pure (.sl (v13.fBase.map Aj)), .pure (.sl (v13.fNext.map Aj)), .pure (.sl (v13.fHeld.map Bs))]), (2007, .vec 1 (v17.map Bs))]) (fun j17 h => ?_) (fun v17 h => ?_)
       ·refine AI (Ab (Aa Ac rfl (qm rfl (qa rfl (Ad (Ab (Aa Ac rfl (qm rfl (qm rfl ?_)))))))))
        obtain ⟨v18, a18, b18, h⟩ := Ah h
        refine qI CI EE a18 (Ag b18) rfl (qj HM (Ag b18) rfl (qf Da rfl (ql Bp rfl (qm rfl ?_))))
        obtain ⟨v19, a19, b19, h⟩ := Ah h
        refine qi AJ DS a19 (Ag b19) rfl (qk CO rfl ?_)
        obtain ⟨c20, h⟩ := AM h
        refine Gz rfl c20 (Nk rfl ?_)
        obtain ⟨v21, a21, b21, h⟩ := Ah h
        refine qI CI EE a21 (Ag b21) rfl ?_
        refine AX rfl rfl rfl rfl (Ag b21) rfl EE rfl (AV rfl) (AY Bs v14.1 _ ((IT .u8 v18 ((Cn .u8 1 v19))))) ?_
        refine AF (by kernel_rfl) (Ab (Aa Ac rfl (qf Cu rfl (ql Bp rfl (qm rfl ?_)))))
        obtain ⟨v22, a22, b22, h⟩ := Ah h
        refine qi AJ DS a22 (Ag b22) rfl (qk CO rfl (Dl rfl (Ad ?_)))
        refine Ao rfl (fun c23 => ?_) (fun c23 => ?_)
        ·have h := Am c23 h
         refine Aa Ac rfl (qm rfl (qm rfl ?_))
         obtain ⟨v24, a24, b24, h⟩ := Ah h
         refine qI CI EE a24 (Ag b24) rfl (qj HM (Ag b24) rfl (qf Cu rfl (ql Bp rfl (qm rfl ?_))))
         obtain ⟨v25, a25, b25, h⟩ := Ah h
         refine qi AJ DS a25 (Ag b25) rfl (qk CO rfl ?_)
         obtain ⟨c26, h⟩ := AM h
         refine Gz rfl c26 (Nk rfl ?_)
         obtain ⟨v27, a27, b27, h⟩ := Ah h
         refine qI CI EE a27 (Ag b27) rfl ?_
         refine AX rfl rfl rfl rfl (Ag b27) rfl EE rfl (AV rfl) (AY Bs (v14.1.set ((v14.2).toNat) ((IT .u8 v18 ((Cn .u8 1 v19))))) _ ((IT .u8 v24 ((Cn .u8 1 v25))))) ?_
         refine AF (by kernel_rfl) ?_
         exact As _ h (sm [(2007, 2005)] _ _ rfl rfl)
        ·have h := An c23 h
         refine Ap ?_
         exact As _ h (sm [(2007, 2005)] _ _ rfl rfl)
       ·refine Aa Ac rfl (AQ rfl (qm rfl (Ad ?_)))
        exact As _ h (sm [(2005, 2007)] _ _ rfl rfl)
      ·have h := An c16 h
       refine AS ?_
       exact As _ h (sm [(2006, 2005)] _ _ rfl rfl)
     ·refine Ak hs (Aa Ac rfl (AQ rfl (qm rfl (Ad ?_))))
      exact As _ h (sm [(2003, 2006)] _ _ rfl rfl)
    ·have h := An c12 h
     refine AS ?_
     exact As _ h (sm [(2004, 2003)] _ _ rfl rfl)
   ·refine Ak hs (Ab (Aa Ac rfl (qm rfl (qa rfl (qa rfl (Ad ?_))))))
    obtain rfl := sj h
    refine Ak (sm [(1000, 2004)] [(4, .e (.one (.own 1000))), (5, .e (.one (.pure (.val (.int .i64 0)))))] [(1000, .vec 1 (v11.map Bs))] rfl rfl) (Ax ?_)
    exact ⟨⟨[_, _], ⟨.tmp _ _ rfl, ⟨.tmp _ _ rfl, trivial⟩⟩, rfl⟩, ⟨rfl, trivial⟩⟩
set_option maxRecDepth 10000 in
theorem Gl (N : Nat) (p0 : List (List Bool)) (p1 : Int) (p2 : Int) (r : Bool) (h : CM N p0 p1 p2 = some r) : Az Try.prog 40 [.e (.one (.pure (.sl (p0.map (EB eB))))), .e (.one (.pure (.val (.int .i64 p1)))), .e (.one (.pure (.val (.int .i64 p2))))] [] (.e (.one (.pure (.val (.bool r))))) := by
 unfold CM at h
 refine Ar (n := 24) (rs := [.tmp 6]) Try.func40 rfl rfl rfl (AV rfl) (AV rfl) rfl fun w0 S0 => ?_
 refine Ab (Aa Ac rfl (qa rfl (Ad (Ab (Ab (Aa Ac rfl (qm rfl (AN FF rfl (qm rfl (Cd rfl (Ad ?_)))))))))))
 refine Ao rfl (fun c1 => ?_) (fun c1 => ?_)
 ·have h := Am c1 h
  refine Ab (Aa Ac rfl (qa rfl (Ad ?_)))
  obtain rfl := sj h
  refine Ak (sm [] [(6, .e (.one (.pure (.val (.bool false)))))] [] rfl rfl) (Ax ?_)
  exact ⟨⟨[_], ⟨.tmp _ _ rfl, trivial⟩, rfl⟩, trivial⟩
 ·have h := An c1 h
  refine Ap (Ab (Ab (Aa Ac rfl (qa rfl (Ad ?_)))))
  refine AB (L := BX N p0 p1 p2) h (fun v2 => mk [(0, .e (.one (.pure (.sl (p0.map (EB eB)))))), (1, .e (.one (.pure (.val (.int .i64 p1))))), (2, .e (.one (.pure (.val (.int .i64 p2))))), (7, .e (.one (.pure (.val (.int .i64 v2)))))] []) (fun v3 => mk [] []) (fun _ _ => rfl) (sm [] _ _ rfl rfl) (fun j2 n2 v2 h => ?_) (fun v3 s h hs => ?_)
  ·unfold BX at h
   refine Ab (Ab (Aa Ac rfl (qm rfl (qm rfl (AT rfl (Ad ?_))))))
   refine Ao rfl (fun c4 => ?_) (fun c4 => ?_)
   ·have h := Am c4 h
    refine Ap (Ab (AI (Ab (Aa Ac rfl (qm rfl (qm rfl ?_))))))
    obtain ⟨v5, a5, b5, h⟩ := Ah h
    refine qi FF LN a5 (Ag b5) rfl (qk N6 rfl (AN FY rfl (qm rfl (Cd rfl (Ad ?_)))))
    refine Ao rfl (fun c6 => ?_) (fun c6 => ?_)
    ·have h := Am c6 h
     refine Ab (Aa Ac rfl (qa rfl (Ad ?_)))
     obtain rfl := sj h
     refine Ak (sm [] [(6, .e (.one (.pure (.val (.bool false)))))] [] rfl rfl) (Ax ?_)
     exact ⟨⟨[_], ⟨.tmp _ _ rfl, trivial⟩, rfl⟩, trivial⟩
    ·have h := An c6 h
     refine Ap (Aa Ac rfl (qm rfl (AQ rfl (qa rfl (Ad ?_)))))
     exact As _ h (sm [] _ _ rfl rfl)
   ·have h := An c4 h
    refine AS ?_
    exact As _ h (sm [] _ _ rfl rfl)
  ·refine Ak hs (Ab (Aa Ac rfl (qa rfl (Ad ?_))))
   obtain rfl := sj h
   refine Ak (sm [] [(6, .e (.one (.pure (.val (.bool true)))))] [] rfl rfl) (Ax ?_)
   exact ⟨⟨[_], ⟨.tmp _ _ rfl, trivial⟩, rfl⟩, trivial⟩
set_option maxRecDepth 10000 in
theorem ID (N : Nat) (p0 : Ai) (p1 : AG) (r : Int) (h : Di N p0 p1 = some r) : Az Try.prog 20 [.e (.agg [.pure (.sl (p0.fVersions.map Aj)), .pure (.sl (p0.fNow.map Aj)), .pure (.sl (p0.fTarget.map Aj)), .pure (.sl (p0.fTables.map Aq))]), .e (.agg [.pure (.val (.int .i64 p1.fKind)), .pure (.val (.int .i64 p1.fFrom)), .pure (.val (.int .i64 p1.fTo)), .pure (.val (.bool p1.fAware)), .pure (.sl (p1.fOK.map (EB eB))), .pure (.sl (p1.fRewrite.map (EB eB)))])] [] (.e (.one (.pure (.val (.int .i64 r))))) := by
 unfold Di at h
 refine Ar (n := 101) (rs := [.tmp 4]) Try.func20 rfl rfl rfl (AV rfl) (AV rfl) rfl fun w0 S0 => ?_
 refine Ab (Aa Ac rfl (qb rfl (qb rfl (qa rfl (Ad (Ab ?_))))))
 refine AO h (fun v1 => mk [(2, .e (.one (.ptr 2 0))), (3, .e (.one (.ptr 3 0))), (22, .e (.one (.pure (.val (.bool v1)))))] [(2, .box [.pure (.sl (p0.fVersions.map Aj)), .pure (.sl (p0.fNow.map Aj)), .pure (.sl (p0.fTarget.map Aj)), .pure (.sl (p0.fTables.map Aq))]), (3, .box [.pure (.val (.int .i64 p1.fKind)), .pure (.val (.int .i64 p1.fFrom)), .pure (.val (.int .i64 p1.fTo)), .pure (.val (.bool p1.fAware)), .pure (.sl (p1.fOK.map (EB eB))), .pure (.sl (p1.fRewrite.map (EB eB)))])]) (fun j1 h => ?_) (fun v1 h => ?_)
 ·refine Aa Ac rfl (qf ES rfl (ql CO rfl (AT rfl (qm rfl ?_))))
  refine AA (t := 10) rfl (fun c2 => ?_) (fun c2 => ?_)
  ·have h := Am c2 h
   refine qn rfl (qn rfl (qn rfl (qp rfl (qm rfl (qn rfl (qn rfl (qn rfl (qu rfl (qu rfl (qn rfl (qp rfl (Ad ?_))))))))))))
   exact As _ h (sm [] _ _ rfl rfl)
  ·have h := An c2 h
   refine qf ES rfl (ql CO rfl (Es rfl (qp rfl (qm rfl ?_))))
   refine AA (t := 15) rfl (fun c3 => ?_) (fun c3 => ?_)
   ·have h := Am c3 h
    refine qn rfl (qn rfl (qn rfl (qu rfl (qu rfl (qn rfl (qp rfl (Ad ?_)))))))
    exact As _ h (sm [] _ _ rfl rfl)
   ·have h := An c3 h
    refine qf Iw rfl (ql P7 rfl (qm rfl ?_))
    refine AA (t := 18) rfl (fun c4 => ?_) (fun c4 => ?_)
    ·have h := Am c4 h
     refine qL GY D8 rfl ?_
     obtain ⟨v5, a5, h⟩ := bind_some h
     refine AC [] (Dm N p1 v5 a5) OR rfl (qp rfl (qp rfl (Ad ?_)))
     exact As _ h (sm [] _ _ rfl rfl)
    ·have h := An c4 h
     refine qn rfl (qn rfl (qp rfl (qp rfl (Ad ?_))))
     exact As _ h (sm [] _ _ rfl rfl)
 ·refine Ao rfl (fun c6 => ?_) (fun c6 => ?_)
  ·have h := Am c6 h
   refine Ab (Aa Ac rfl (qa rfl (Ad ?_)))
   obtain rfl := sj h
   refine Ak (sm [] [(4, .e (.one (.pure (.val (.int .i64 1)))))] [] rfl rfl) (Ax ?_)
   exact ⟨⟨[_], ⟨.tmp _ _ rfl, trivial⟩, rfl⟩, trivial⟩
  ·have h := An c6 h
   refine Ap (Ab (Aa Ac rfl (qf Bv rfl (ql Bp rfl (AN AJ rfl (qa rfl (Ad (Ab ?_))))))))
   refine AO h (fun v7 => mk [(2, .e (.one (.ptr 2 0))), (3, .e (.one (.ptr 3 0))), (45, .e (.one (.pure (.val (.bool v7)))))] [(2, .box [.pure (.sl (p0.fVersions.map Aj)), .pure (.sl (p0.fNow.map Aj)), .pure (.sl (p0.fTarget.map Aj)), .pure (.sl (p0.fTables.map Aq))]), (3, .box [.pure (.val (.int .i64 p1.fKind)), .pure (.val (.int .i64 p1.fFrom)), .pure (.val (.int .i64 p1.fTo)), .pure (.val (.bool p1.fAware)), .pure (.sl (p1.fOK.map (EB eB))), .pure (.sl (p1.fRewrite.map (EB eB)))])]) (fun j7 h => ?_) (fun v7 h => ?_)
   ·refine Aa Ac rfl (qf Dq rfl (ql CO rfl (AT rfl (qm rfl ?_))))
    refine AA (t := 29) rfl (fun c8 => ?_) (fun c8 => ?_)
    ·have h := Am c8 h
     refine qn rfl (qn rfl (qn rfl (qn rfl (qp rfl (qm rfl (qn rfl (qn rfl (qn rfl (qp rfl (qm rfl (qn rfl (qn rfl (qn rfl (qn rfl (qp rfl (Ad ?_))))))))))))))))
     exact As _ h (sm [] _ _ rfl rfl)
    ·have h := An c8 h
     refine qf Dq rfl (ql CO rfl (qm rfl (Dl rfl (qp rfl (qm rfl ?_)))))
     refine AA (t := 35) rfl (fun c9 => ?_) (fun c9 => ?_)
     ·have h := Am c9 h
      refine qn rfl (qn rfl (qn rfl (qp rfl (qm rfl (qn rfl (qn rfl (qn rfl (qn rfl (qp rfl (Ad ?_))))))))))
      exact As _ h (sm [] _ _ rfl rfl)
     ·have h := An c9 h
      refine qf H2 rfl (ql CO rfl (AT rfl (qp rfl (qm rfl ?_))))
      refine AA (t := 40) rfl (fun c10 => ?_) (fun c10 => ?_)
      ·have h := Am c10 h
       refine qn rfl (qn rfl (qn rfl (qn rfl (qp rfl (Ad ?_)))))
       exact As _ h (sm [] _ _ rfl rfl)
      ·have h := An c10 h
       refine qf H2 rfl (ql CO rfl (qm rfl (Dl rfl (qp rfl (Ad ?_)))))
       exact As _ h (sm [] _ _ rfl rfl)
   ·refine Ao rfl (fun c11 => ?_) (fun c11 => ?_)
    ·have h := Am c11 h
     refine Ab (Aa Ac rfl (qa rfl (Ad ?_)))
     obtain rfl := sj h
     refine Ak (sm [] [(4, .e (.one (.pure (.val (.int .i64 4)))))] [] rfl rfl) (Ax ?_)
     exact ⟨⟨[_], ⟨.tmp _ _ rfl, trivial⟩, rfl⟩, trivial⟩
    ·have h := An c11 h
     refine Ap (Ab (Ab (Aa Ac rfl (qf I6 rfl (ql Jg rfl (qf Bv rfl (ql Bp rfl (qf Dq rfl (ql CO rfl ?_)))))))))
     obtain ⟨v12, a12, b12, h⟩ := Ah h
     refine qi AJ DS a12 (Ag b12) rfl (qk CO rfl (qf Bv rfl (ql Bp rfl (qf H2 rfl (ql CO rfl ?_)))))
     obtain ⟨v13, a13, b13, h⟩ := Ah h
     refine qi AJ DS a13 (Ag b13) rfl (qk CO rfl ?_)
     obtain ⟨v14, a14, h⟩ := bind_some h
     refine AC [] (Gl N p1.fOK v12 v13 v14 a14) R4 rfl (Cy rfl (AF (by kernel_rfl) ?_))
     refine Ao rfl (fun c15 => ?_) (fun c15 => ?_)
     ·have h := Am c15 h
      refine Ab (Aa Ac rfl (qa rfl (Ad ?_)))
      obtain rfl := sj h
      refine Ak (sm [] [(4, .e (.one (.pure (.val (.int .i64 6)))))] [] rfl rfl) (Ax ?_)
      exact ⟨⟨[_], ⟨.tmp _ _ rfl, trivial⟩, rfl⟩, trivial⟩
     ·have h := An c15 h
      refine Ap (Ab (Ab (Aa Ac rfl (qf ES rfl (ql CO rfl (Cd rfl (Ad ?_)))))))
      refine Ao rfl (fun c16 => ?_) (fun c16 => ?_)
      ·have h := Am c16 h
       refine Ab (Ab (Aa Ac rfl (qf FD rfl (ql Jg rfl (AN FF rfl (Cd rfl (Ad ?_)))))))
       refine Ao rfl (fun c17 => ?_) (fun c17 => ?_)
       ·have h := Am c17 h
        refine Ab (Aa Ac rfl (qa rfl (Ad ?_)))
        obtain rfl := sj h
        refine Ak (sm [] [(4, .e (.one (.pure (.val (.int .i64 6)))))] [] rfl rfl) (Ax ?_)
        exact ⟨⟨[_], ⟨.tmp _ _ rfl, trivial⟩, rfl⟩, trivial⟩
       ·have h := An c17 h
        refine Ap (Ab (Aa Ac rfl (qa rfl (Ad ?_))))
        obtain rfl := sj h
        refine Ak (sm [] [(4, .e (.one (.pure (.val (.int .i64 0)))))] [] rfl rfl) (Ax ?_)
        exact ⟨⟨[_], ⟨.tmp _ _ rfl, trivial⟩, rfl⟩, trivial⟩
      ·have h := An c16 h
       refine Ap (Ab (Ab (Aa Ac rfl (qf FD rfl (ql Jg rfl (qf Bv rfl (ql Bp rfl (qf Dq rfl (ql CO rfl ?_)))))))))
       obtain ⟨v18, a18, b18, h⟩ := Ah h
       refine qi AJ DS a18 (Ag b18) rfl (qk CO rfl (qf Bv rfl (ql Bp rfl (qf Dq rfl (ql CO rfl ?_)))))
       obtain ⟨v19, a19, b19, h⟩ := Ah h
       refine qi AJ DS a19 (Ag b19) rfl (qk CO rfl ?_)
       obtain ⟨v20, a20, h⟩ := bind_some h
       refine AC [] (Gl N p1.fRewrite v18 v19 v20 a20) R4 rfl (Cy rfl (AF (by kernel_rfl) ?_))
       refine Ao rfl (fun c21 => ?_) (fun c21 => ?_)
       ·have h := Am c21 h
        refine Ab (Aa Ac rfl (qa rfl (Ad ?_)))
        obtain rfl := sj h
        refine Ak (sm [] [(4, .e (.one (.pure (.val (.int .i64 6)))))] [] rfl rfl) (Ax ?_)
        exact ⟨⟨[_], ⟨.tmp _ _ rfl, trivial⟩, rfl⟩, trivial⟩
       ·have h := An c21 h
        refine Ap (Ab (Ab (Aa Ac rfl (qa rfl (Ad ?_)))))
        refine AB (L := BC N p1) h (fun v22 => mk [(3, .e (.one (.ptr 3 0))), (6, .e (.one (.pure (.val (.int .i64 v22)))))] [(3, .box [.pure (.val (.int .i64 p1.fKind)), .pure (.val (.int .i64 p1.fFrom)), .pure (.val (.int .i64 p1.fTo)), .pure (.val (.bool p1.fAware)), .pure (.sl (p1.fOK.map (EB eB))), .pure (.sl (p1.fRewrite.map (EB eB)))])]) (fun v23 => mk [] []) (fun _ _ => rfl) (sm [] _ _ rfl rfl) (fun j22 n22 v22 h => ?_) (fun v23 s h hs => ?_)
        ·unfold BC at h
         refine Ab (Ab (Aa Ac rfl (qm rfl (qf FD rfl (ql Jg rfl (AN FF rfl (AT rfl (Ad ?_))))))))
         refine Ao rfl (fun c24 => ?_) (fun c24 => ?_)
         ·have h := Am c24 h
          refine Ap (Ab (AI (Ab (Aa Ac rfl (qf FD rfl (ql Jg rfl (qm rfl ?_)))))))
          obtain ⟨v25, a25, b25, h⟩ := Ah h
          refine qi FF LN a25 (Ag b25) rfl (qk N6 rfl (qm rfl ?_))
          obtain ⟨v26, a26, b26, h⟩ := Ah h
          refine qi FY Ny a26 (Ag b26) rfl (qk P7 rfl (Cy rfl (Ad ?_)))
          refine Ao rfl (fun c27 => ?_) (fun c27 => ?_)
          ·have h := Am c27 h
           refine Ab (Aa Ac rfl (qa rfl (Ad ?_)))
           obtain rfl := sj h
           refine Ak (sm [] [(4, .e (.one (.pure (.val (.int .i64 1)))))] [] rfl rfl) (Ax ?_)
           exact ⟨⟨[_], ⟨.tmp _ _ rfl, trivial⟩, rfl⟩, trivial⟩
          ·have h := An c27 h
           refine Ap (Aa Ac rfl (qm rfl (AQ rfl (qa rfl (Ad ?_)))))
           exact As _ h (sm [] _ _ rfl rfl)
         ·have h := An c24 h
          refine AS ?_
          exact As _ h (sm [] _ _ rfl rfl)
        ·refine Ak hs (Ab (Aa Ac rfl (qa rfl (Ad ?_))))
         obtain rfl := sj h
         refine Ak (sm [] [(4, .e (.one (.pure (.val (.int .i64 0)))))] [] rfl rfl) (Ax ?_)
         exact ⟨⟨[_], ⟨.tmp _ _ rfl, trivial⟩, rfl⟩, trivial⟩
end Go.Lift

/- That the code does what the shallow programs do, function by function. Written by a program (gen.py). -/
namespace Go.Lift
open Go.RowKit
open Go.Proofs
set_option maxRecDepth 10000 in
theorem EG (N : Nat) (p0 : Ai) (r : Int) (h : B0 N p0 = some r) : Az Try.prog 5 [.e (.agg [.pure (.sl (p0.fVersions.map Aj)), .pure (.sl (p0.fNow.map Aj)), .pure (.sl (p0.fTarget.map Aj)), .pure (.sl (p0.fTables.map Aq))])] [] (.e (.one (.pure (.val (.int .i64 r))))) := by
 unfold B0 at h
 refine Ar (n := 102) (rs := [.tmp 2]) Try.func5 rfl rfl rfl (AV rfl) (AV rfl) rfl fun w0 S0 => ?_
 refine Ab (Aa Ac rfl (qb rfl (qa rfl (Ad (Ab ?_)))))
 refine AO h (fun v1 => mk [(1, .e (.one (.ptr 1 0))), (16, .e (.one (.pure (.val (.bool v1)))))] [(1, .box [.pure (.sl (p0.fVersions.map Aj)), .pure (.sl (p0.fNow.map Aj)), .pure (.sl (p0.fTarget.map Aj)), .pure (.sl (p0.fTables.map Aq))])]) (fun j1 h => ?_) (fun v1 h => ?_)
 ·refine Aa Ac rfl (qf Bv rfl (ql Bp rfl (AN AJ rfl (Es rfl (qm rfl ?_)))))
  refine AA (t := 11) rfl (fun c2 => ?_) (fun c2 => ?_)
  ·have h := Am c2 h
   refine qn rfl (qn rfl (qn rfl (qn rfl (qp rfl (Ad ?_)))))
   exact As _ h (sm [] _ _ rfl rfl)
  ·have h := An c2 h
   refine qf Dx rfl (ql H9 rfl (AN Ek rfl (Es rfl (qp rfl (Ad ?_)))))
   exact As _ h (sm [] _ _ rfl rfl)
 ·refine Ao rfl (fun c3 => ?_) (fun c3 => ?_)
  ·have h := Am c3 h
   refine Ab (Aa Ac rfl (qa rfl (Ad ?_)))
   obtain rfl := sj h
   refine Ak (sm [] [(2, .e (.one (.pure (.val (.int .i64 3)))))] [] rfl rfl) (Ax ?_)
   exact ⟨⟨[_], ⟨.tmp _ _ rfl, trivial⟩, rfl⟩, trivial⟩
  ·have h := An c3 h
   refine Ap (Ab ?_)
   refine AO h (fun v4 => mk [(1, .e (.one (.ptr 1 0))), (32, .e (.one (.pure (.val (.bool v4)))))] [(1, .box [.pure (.sl (p0.fVersions.map Aj)), .pure (.sl (p0.fNow.map Aj)), .pure (.sl (p0.fTarget.map Aj)), .pure (.sl (p0.fTables.map Aq))])]) (fun j4 h => ?_) (fun v4 h => ?_)
   ·refine Aa Ac rfl (qf Gg rfl (ql Bp rfl (AN AJ rfl (qf Bv rfl (ql Bp rfl (AN AJ rfl (Cd rfl (qm rfl ?_))))))))
    refine AA (t := 24) rfl (fun c5 => ?_) (fun c5 => ?_)
    ·have h := Am c5 h
     refine qn rfl (qn rfl (qn rfl (qn rfl (qn rfl (qn rfl (qn rfl (qp rfl (Ad ?_))))))))
     exact As _ h (sm [] _ _ rfl rfl)
    ·have h := An c5 h
     refine qf HJ rfl (ql Bp rfl (AN AJ rfl (qf Bv rfl (ql Bp rfl (AN AJ rfl (Cd rfl (qp rfl (Ad ?_))))))))
     exact As _ h (sm [] _ _ rfl rfl)
   ·refine Ao rfl (fun c6 => ?_) (fun c6 => ?_)
    ·have h := Am c6 h
     refine Ab (Aa Ac rfl (qa rfl (Ad ?_)))
     obtain rfl := sj h
     refine Ak (sm [] [(2, .e (.one (.pure (.val (.int .i64 6)))))] [] rfl rfl) (Ax ?_)
     exact ⟨⟨[_], ⟨.tmp _ _ rfl, trivial⟩, rfl⟩, trivial⟩
    ·have h := An c6 h
     refine Ap (Ab (Ab (Aa Ac rfl (qa rfl (Ad ?_)))))
     refine AB (L := A0 N p0) h (fun v7 => mk [(1, .e (.one (.ptr 1 0))), (3, .e (.one (.pure (.val (.int .i64 v7)))))] [(1, .box [.pure (.sl (p0.fVersions.map Aj)), .pure (.sl (p0.fNow.map Aj)), .pure (.sl (p0.fTarget.map Aj)), .pure (.sl (p0.fTables.map Aq))])]) (fun v8 => mk [(1, .e (.one (.ptr 1 0)))] [(1, .box [.pure (.sl (p0.fVersions.map Aj)), .pure (.sl (p0.fNow.map Aj)), .pure (.sl (p0.fTarget.map Aj)), .pure (.sl (p0.fTables.map Aq))])]) (fun _ _ => rfl) (sm [] _ _ rfl rfl) (fun j7 n7 v7 h => ?_) (fun v8 s h hs => ?_)
     ·unfold A0 at h
      refine Ab (Ab (Aa Ac rfl (qm rfl (qf Bv rfl (ql Bp rfl (AN AJ rfl (AT rfl (Ad ?_))))))))
      refine Ao rfl (fun c9 => ?_) (fun c9 => ?_)
      ·have h := Am c9 h
       refine Ap (Ab (AI (Ab (Aa Ac rfl (qf Bv rfl (ql Bp rfl (qm rfl ?_)))))))
       obtain ⟨v10, a10, b10, h⟩ := Ah h
       refine qi AJ DS a10 (Ag b10) rfl (qk CO rfl (qa rfl (Ad ?_)))
       refine AO h (fun v11 => mk [(1, .e (.one (.ptr 1 0))), (3, .e (.one (.pure (.val (.int .i64 v7))))), (84, .e (.one (.pure (.val (.bool v11)))))] [(1, .box [.pure (.sl (p0.fVersions.map Aj)), .pure (.sl (p0.fNow.map Aj)), .pure (.sl (p0.fTarget.map Aj)), .pure (.sl (p0.fTables.map Aq))])]) (fun j11 h => ?_) (fun v11 h => ?_)
       ·refine Aa Ac rfl (qm rfl (AT rfl (qm rfl ?_)))
        refine AA (t := 47) rfl (fun c12 => ?_) (fun c12 => ?_)
        ·have h := Am c12 h
         refine qn rfl (qn rfl (qp rfl (qm rfl (qn rfl (qn rfl (qn rfl (qn rfl (qn rfl (qn rfl (qp rfl (qm rfl (qn rfl (qn rfl (qn rfl (qn rfl (qn rfl (qn rfl (qn rfl (qp rfl (qm rfl (qn rfl (qn rfl (qn rfl (qn rfl (qn rfl (qn rfl (qp rfl (qm rfl (qn rfl (qn rfl (qn rfl (qn rfl (qn rfl (qn rfl (qn rfl (qp rfl (Ad ?_)))))))))))))))))))))))))))))))))))))
         exact As _ h (sm [] _ _ rfl rfl)
        ·have h := An c12 h
         refine qm rfl (Es rfl (qp rfl (qm rfl ?_)))
         refine AA (t := 51) rfl (fun c13 => ?_) (fun c13 => ?_)
         ·have h := Am c13 h
          refine qn rfl (qn rfl (qn rfl (qn rfl (qn rfl (qn rfl (qp rfl (qm rfl (qn rfl (qn rfl (qn rfl (qn rfl (qn rfl (qn rfl (qn rfl (qp rfl (qm rfl (qn rfl (qn rfl (qn rfl (qn rfl (qn rfl (qn rfl (qp rfl (qm rfl (qn rfl (qn rfl (qn rfl (qn rfl (qn rfl (qn rfl (qn rfl (qp rfl (Ad ?_)))))))))))))))))))))))))))))))))
          exact As _ h (sm [] _ _ rfl rfl)
         ·have h := An c13 h
          refine qf Gg rfl (ql Bp rfl (qm rfl ?_))
          obtain ⟨v14, a14, b14, h⟩ := Ah h
          refine qi AJ DS a14 (Ag b14) rfl (qk CO rfl (AT rfl (qp rfl (qm rfl ?_))))
          refine AA (t := 59) rfl (fun c15 => ?_) (fun c15 => ?_)
          ·have h := Am c15 h
           refine qn rfl (qn rfl (qn rfl (qn rfl (qn rfl (qn rfl (qn rfl (qp rfl (qm rfl (qn rfl (qn rfl (qn rfl (qn rfl (qn rfl (qn rfl (qp rfl (qm rfl (qn rfl (qn rfl (qn rfl (qn rfl (qn rfl (qn rfl (qn rfl (qp rfl (Ad ?_)))))))))))))))))))))))))
           exact As _ h (sm [] _ _ rfl rfl)
          ·have h := An c15 h
           refine qf Gg rfl (ql Bp rfl (qm rfl ?_))
           obtain ⟨v16, a16, b16, h⟩ := Ah h
           refine qi AJ DS a16 (Ag b16) rfl (qk CO rfl (qm rfl (Dl rfl (qp rfl (qm rfl ?_)))))
           refine AA (t := 68) rfl (fun c17 => ?_) (fun c17 => ?_)
           ·have h := Am c17 h
            refine qn rfl (qn rfl (qn rfl (qn rfl (qn rfl (qn rfl (qp rfl (qm rfl (qn rfl (qn rfl (qn rfl (qn rfl (qn rfl (qn rfl (qn rfl (qp rfl (Ad ?_))))))))))))))))
            exact As _ h (sm [] _ _ rfl rfl)
           ·have h := An c17 h
            refine qf HJ rfl (ql Bp rfl (qm rfl ?_))
            obtain ⟨v18, a18, b18, h⟩ := Ah h
            refine qi AJ DS a18 (Ag b18) rfl (qk CO rfl (AT rfl (qp rfl (qm rfl ?_))))
            refine AA (t := 76) rfl (fun c19 => ?_) (fun c19 => ?_)
            ·have h := Am c19 h
             refine qn rfl (qn rfl (qn rfl (qn rfl (qn rfl (qn rfl (qn rfl (qp rfl (Ad ?_))))))))
             exact As _ h (sm [] _ _ rfl rfl)
            ·have h := An c19 h
             refine qf HJ rfl (ql Bp rfl (qm rfl ?_))
             obtain ⟨v20, a20, b20, h⟩ := Ah h
             refine qi AJ DS a20 (Ag b20) rfl (qk CO rfl (qm rfl (Dl rfl (qp rfl (Ad ?_)))))
             exact As _ h (sm [] _ _ rfl rfl)
       ·refine Ao rfl (fun c21 => ?_) (fun c21 => ?_)
        ·have h := Am c21 h
         refine Ab (Aa Ac rfl (qa rfl (Ad ?_)))
         obtain rfl := sj h
         refine Ak (sm [] [(2, .e (.one (.pure (.val (.int .i64 7)))))] [] rfl rfl) (Ax ?_)
         exact ⟨⟨[_], ⟨.tmp _ _ rfl, trivial⟩, rfl⟩, trivial⟩
        ·have h := An c21 h
         refine Ap (Aa Ac rfl (qm rfl (AQ rfl (qa rfl (Ad ?_)))))
         exact As _ h (sm [] _ _ rfl rfl)
      ·have h := An c9 h
       refine AS ?_
       exact As _ h (sm [] _ _ rfl rfl)
     ·refine Ak hs (Ab (Ab (Aa Ac rfl (qa rfl (Ad ?_)))))
      refine AB (L := AW N p0) h (fun v22 => mk [(1, .e (.one (.ptr 1 0))), (5, .e (.one (.pure (.val (.int .i64 v22)))))] [(1, .box [.pure (.sl (p0.fVersions.map Aj)), .pure (.sl (p0.fNow.map Aj)), .pure (.sl (p0.fTarget.map Aj)), .pure (.sl (p0.fTables.map Aq))])]) (fun v23 => mk [] []) (fun _ _ => rfl) (sm [] _ _ rfl rfl) (fun j22 n22 v22 h => ?_) (fun v23 s h hs => ?_)
      ·unfold AW at h
       refine Ab (Ab (Aa Ac rfl (qm rfl (qf Dx rfl (ql H9 rfl (AN Ek rfl (AT rfl (Ad ?_))))))))
       refine Ao rfl (fun c24 => ?_) (fun c24 => ?_)
       ·have h := Am c24 h
        refine Ap (Ab (AI (Ab (Aa Ac rfl (qL DO Dz rfl (qf Dx rfl (ql H9 rfl (qm rfl ?_))))))))
        obtain ⟨v25, a25, b25, h⟩ := Ah h
        refine qi Ek D8 a25 (Ag b25) rfl (qK GY D8 rfl ?_)
        obtain ⟨v26, a26, h⟩ := bind_some h
        refine AC [] (ID N p0 v25 v26 a26) Ty rfl (qa rfl (AF (by kernel_rfl) (Ab (Aa Ac rfl (qm rfl (Cd rfl (Ad ?_)))))))
        refine Ao rfl (fun c27 => ?_) (fun c27 => ?_)
        ·have h := Am c27 h
         refine Ab (Aa Ac rfl (qm rfl (qa rfl (Ad ?_))))
         obtain rfl := sj h
         refine Ak (sm [] [(2, .e (.one (.pure (.val (.int .i64 v26)))))] [] rfl rfl) (Ax ?_)
         exact ⟨⟨[_], ⟨.tmp _ _ rfl, trivial⟩, rfl⟩, trivial⟩
        ·have h := An c27 h
         refine Ap (Aa Ac rfl (qm rfl (AQ rfl (qa rfl (Ad ?_)))))
         exact As _ h (sm [] _ _ rfl rfl)
       ·have h := An c24 h
        refine AS ?_
        exact As _ h (sm [] _ _ rfl rfl)
      ·refine Ak hs (Ab (Aa Ac rfl (qa rfl (Ad ?_))))
       obtain rfl := sj h
       refine Ak (sm [] [(2, .e (.one (.pure (.val (.int .i64 0)))))] [] rfl rfl) (Ax ?_)
       exact ⟨⟨[_], ⟨.tmp _ _ rfl, trivial⟩, rfl⟩, trivial⟩
set_option maxRecDepth 10000 in
theorem Ex (N : Nat) (p0 : Ae) (p1 : Int) (r : Int) (h : Cj N p0 p1 = some r) : Az Try.prog 39 [.e (.agg [.pure (.sl (p0.fBase.map Aj)), .pure (.sl (p0.fNext.map Aj)), .pure (.sl (p0.fHeld.map Bs))]), .e (.one (.pure (.val (.int .i64 p1))))] [] (.e (.one (.pure (.val (.int .u8 r))))) := by
 unfold Cj at h
 refine Ar (n := 27) (rs := [.tmp 4]) Try.func39 rfl rfl rfl (AV rfl) (AV rfl) rfl fun w0 S0 => ?_
 refine Ab (Aa Ac rfl (qb rfl (qa rfl (Ad (Ab (Aa Ac rfl (qf Da rfl (ql Bp rfl (qm rfl ?_)))))))))
 obtain ⟨v1, a1, b1, h⟩ := Ah h
 refine qi AJ DS a1 (Ag b1) rfl (qk CO rfl ?_)
 obtain ⟨c2, h⟩ := AM h
 refine Gz rfl c2 (qa rfl (Ad ?_))
 refine AO h (fun v3 => mk [(5, .e (.one (.pure (.val (.int .u8 v3)))))] []) (fun j3 h => ?_) (fun v3 h => ?_)
 ·refine Ab (Aa Ac rfl (qf Cu rfl (ql Bp rfl (qm rfl ?_))))
  obtain ⟨v4, a4, b4, h⟩ := Ah h
  refine qi AJ DS a4 (Ag b4) rfl (qk CO rfl (Dl rfl (Ad ?_)))
  refine Ao rfl (fun c5 => ?_) (fun c5 => ?_)
  ·have h := Am c5 h
   refine Aa Ac rfl (qm rfl (qf Cu rfl (ql Bp rfl (qm rfl ?_))))
   obtain ⟨v6, a6, b6, h⟩ := Ah h
   refine qi AJ DS a6 (Ag b6) rfl (qk CO rfl ?_)
   obtain ⟨c7, h⟩ := AM h
   refine Gz rfl c7 (Nk rfl (qa rfl (Ad ?_)))
   exact As _ h (sm [] _ _ rfl rfl)
  ·have h := An c5 h
   refine Ap ?_
   exact As _ h (sm [] _ _ rfl rfl)
 ·refine Ab (Aa Ac rfl (qm rfl (qa rfl (Ad ?_))))
  obtain rfl := sj h
  refine Ak (sm [] [(4, .e (.one (.pure (.val (.int .u8 v3)))))] [] rfl rfl) (Ax ?_)
  exact ⟨⟨[_], ⟨.tmp _ _ rfl, trivial⟩, rfl⟩, trivial⟩
set_option maxRecDepth 10000 in
theorem IC (N : Nat) (p0 : Ai) (p1 : Ae) (r : Int) (h : Dn N p0 p1 = some r) : Az Try.prog 38 [.e (.agg [.pure (.sl (p0.fVersions.map Aj)), .pure (.sl (p0.fNow.map Aj)), .pure (.sl (p0.fTarget.map Aj)), .pure (.sl (p0.fTables.map Aq))]), .e (.agg [.pure (.sl (p1.fBase.map Aj)), .pure (.sl (p1.fNext.map Aj)), .pure (.sl (p1.fHeld.map Bs))])] [] (.e (.one (.pure (.val (.int .i64 r))))) := by
 unfold Dn at h
 refine Ar (n := 154) (rs := [.tmp 4]) Try.func38 rfl rfl rfl (AV rfl) (AV rfl) rfl fun w0 S0 => ?_
 refine Ab (Aa Ac rfl (qb rfl (qb rfl (qa rfl (Ad (Ab (Ab (Aa Ac rfl (qL DO Dz rfl ?_)))))))))
 obtain ⟨v1, a1, h⟩ := bind_some h
 refine AC [] (EG N p0 v1 a1) TC rfl (qa rfl (Ad (Ab (Aa Ac rfl (qm rfl (Cd rfl (Ad ?_)))))))
 refine Ao rfl (fun c2 => ?_) (fun c2 => ?_)
 ·have h := Am c2 h
  refine Ab (Aa Ac rfl (qm rfl (qa rfl (Ad ?_))))
  obtain rfl := sj h
  refine Ak (sm [] [(4, .e (.one (.pure (.val (.int .i64 v1)))))] [] rfl rfl) (Ax ?_)
  exact ⟨⟨[_], ⟨.tmp _ _ rfl, trivial⟩, rfl⟩, trivial⟩
 ·have h := An c2 h
  refine Ap (Ab (Aa Ac rfl (qf Bv rfl (ql Bp rfl (AN AJ rfl (qa rfl (Ad (Ab ?_))))))))
  refine AO h (fun v3 => mk [(2, .e (.one (.ptr 2 0))), (3, .e (.one (.ptr 3 0))), (6, .e (.one (.pure (.val (.int .i64 ((p0.fVersions.length : Int))))))), (39, .e (.one (.pure (.val (.bool v3)))))] [(2, .box [.pure (.sl (p0.fVersions.map Aj)), .pure (.sl (p0.fNow.map Aj)), .pure (.sl (p0.fTarget.map Aj)), .pure (.sl (p0.fTables.map Aq))]), (3, .box [.pure (.sl (p1.fBase.map Aj)), .pure (.sl (p1.fNext.map Aj)), .pure (.sl (p1.fHeld.map Bs))])]) (fun j3 h => ?_) (fun v3 h => ?_)
  ·refine Aa Ac rfl (qf Da rfl (ql Bp rfl (AN AJ rfl (qm rfl (Cd rfl (qm rfl ?_))))))
   refine AA (t := 24) rfl (fun c4 => ?_) (fun c4 => ?_)
   ·have h := Am c4 h
    refine qn rfl (qn rfl (qn rfl (qn rfl (qn rfl (qp rfl (qm rfl (qn rfl (qn rfl (qn rfl (qn rfl (qn rfl (qn rfl (qn rfl (qp rfl (Ad ?_)))))))))))))))
    exact As _ h (sm [] _ _ rfl rfl)
   ·have h := An c4 h
    refine qf Cu rfl (ql Bp rfl (AN AJ rfl (qm rfl (Cd rfl (qp rfl (qm rfl ?_))))))
    refine AA (t := 31) rfl (fun c5 => ?_) (fun c5 => ?_)
    ·have h := Am c5 h
     refine qn rfl (qn rfl (qn rfl (qn rfl (qn rfl (qn rfl (qn rfl (qp rfl (Ad ?_))))))))
     exact As _ h (sm [] _ _ rfl rfl)
    ·have h := An c5 h
     refine qf Df rfl (ql Hk rfl (AN CI rfl (qf Dx rfl (ql H9 rfl (AN Ek rfl (Cd rfl (qp rfl (Ad ?_))))))))
     exact As _ h (sm [] _ _ rfl rfl)
  ·refine Ao rfl (fun c6 => ?_) (fun c6 => ?_)
   ·have h := Am c6 h
    refine Ab (Aa Ac rfl (qa rfl (Ad ?_)))
    obtain rfl := sj h
    refine Ak (sm [] [(4, .e (.one (.pure (.val (.int .i64 6)))))] [] rfl rfl) (Ax ?_)
    exact ⟨⟨[_], ⟨.tmp _ _ rfl, trivial⟩, rfl⟩, trivial⟩
   ·have h := An c6 h
    refine Ap (Ab (Ab (Aa Ac rfl (qa rfl (Ad ?_)))))
    refine AB (L := BN N p0 p1) h (fun v7 => mk [(2, .e (.one (.ptr 2 0))), (3, .e (.one (.ptr 3 0))), (6, .e (.one (.pure (.val (.int .i64 ((p0.fVersions.length : Int))))))), (7, .e (.one (.pure (.val (.int .i64 v7)))))] [(2, .box [.pure (.sl (p0.fVersions.map Aj)), .pure (.sl (p0.fNow.map Aj)), .pure (.sl (p0.fTarget.map Aj)), .pure (.sl (p0.fTables.map Aq))]), (3, .box [.pure (.sl (p1.fBase.map Aj)), .pure (.sl (p1.fNext.map Aj)), .pure (.sl (p1.fHeld.map Bs))])]) (fun v8 => mk [(2, .e (.one (.ptr 2 0))), (3, .e (.one (.ptr 3 0)))] [(2, .box [.pure (.sl (p0.fVersions.map Aj)), .pure (.sl (p0.fNow.map Aj)), .pure (.sl (p0.fTarget.map Aj)), .pure (.sl (p0.fTables.map Aq))]), (3, .box [.pure (.sl (p1.fBase.map Aj)), .pure (.sl (p1.fNext.map Aj)), .pure (.sl (p1.fHeld.map Bs))])]) (fun _ _ => rfl) (sm [] _ _ rfl rfl) (fun j7 n7 v7 h => ?_) (fun v8 s h hs => ?_)
    ·unfold BN at h
     refine Ab (Ab (Aa Ac rfl (qm rfl (qm rfl (AT rfl (Ad ?_))))))
     refine Ao rfl (fun c9 => ?_) (fun c9 => ?_)
     ·have h := Am c9 h
      refine Ap (Ab (AI (Ab ?_)))
      refine AO h (fun v10 => mk [(2, .e (.one (.ptr 2 0))), (3, .e (.one (.ptr 3 0))), (6, .e (.one (.pure (.val (.int .i64 ((p0.fVersions.length : Int))))))), (7, .e (.one (.pure (.val (.int .i64 v7))))), (84, .e (.one (.pure (.val (.bool v10)))))] [(2, .box [.pure (.sl (p0.fVersions.map Aj)), .pure (.sl (p0.fNow.map Aj)), .pure (.sl (p0.fTarget.map Aj)), .pure (.sl (p0.fTables.map Aq))]), (3, .box [.pure (.sl (p1.fBase.map Aj)), .pure (.sl (p1.fNext.map Aj)), .pure (.sl (p1.fHeld.map Bs))])]) (fun j10 h => ?_) (fun v10 h => ?_)
      ·refine Aa Ac rfl (qf Da rfl (ql Bp rfl (qm rfl ?_)))
       obtain ⟨v11, a11, b11, h⟩ := Ah h
       refine qi AJ DS a11 (Ag b11) rfl (qk CO rfl (AT rfl (qm rfl ?_)))
       refine AA (t := 51) rfl (fun c12 => ?_) (fun c12 => ?_)
       ·have h := Am c12 h
        refine qn rfl (qn rfl (qn rfl (qn rfl (qn rfl (qn rfl (qn rfl (qn rfl (qn rfl (qn rfl (qn rfl (qp rfl (qm rfl (qn rfl (qn rfl (qn rfl (qn rfl (qn rfl (qn rfl (qp rfl (qm rfl (qn rfl (qn rfl (qn rfl (qn rfl (qn rfl (qn rfl (qn rfl (qn rfl (qn rfl (qn rfl (qn rfl (qp rfl (AF (by kernel_rfl) ?_)))))))))))))))))))))))))))))))))
        exact As _ h (sm [] _ _ rfl rfl)
       ·have h := An c12 h
        refine qf Da rfl (ql Bp rfl (qm rfl ?_))
        obtain ⟨v13, a13, b13, h⟩ := Ah h
        refine qi AJ DS a13 (Ag b13) rfl (qk CO rfl (qf Bv rfl (ql Bp rfl (qm rfl ?_))))
        obtain ⟨v14, a14, b14, h⟩ := Ah h
        refine qi AJ DS a14 (Ag b14) rfl (qk CO rfl (Dl rfl (qp rfl (qm rfl ?_))))
        refine AA (t := 64) rfl (fun c15 => ?_) (fun c15 => ?_)
        ·have h := Am c15 h
         refine qn rfl (qn rfl (qn rfl (qn rfl (qn rfl (qn rfl (qp rfl (qm rfl (qn rfl (qn rfl (qn rfl (qn rfl (qn rfl (qn rfl (qn rfl (qn rfl (qn rfl (qn rfl (qn rfl (qp rfl (AF (by kernel_rfl) ?_))))))))))))))))))))
         exact As _ h (sm [] _ _ rfl rfl)
        ·have h := An c15 h
         refine qf Cu rfl (ql Bp rfl (qm rfl ?_))
         obtain ⟨v16, a16, b16, h⟩ := Ah h
         refine qi AJ DS a16 (Ag b16) rfl (qk CO rfl (AT rfl (qp rfl (qm rfl ?_))))
         refine AA (t := 72) rfl (fun c17 => ?_) (fun c17 => ?_)
         ·have h := Am c17 h
          refine qn rfl (qn rfl (qn rfl (qn rfl (qn rfl (qn rfl (qn rfl (qn rfl (qn rfl (qn rfl (qn rfl (qp rfl (AF (by kernel_rfl) ?_))))))))))))
          exact As _ h (sm [] _ _ rfl rfl)
         ·have h := An c17 h
          refine qf Cu rfl (ql Bp rfl (qm rfl ?_))
          obtain ⟨v18, a18, b18, h⟩ := Ah h
          refine qi AJ DS a18 (Ag b18) rfl (qk CO rfl (qf Bv rfl (ql Bp rfl (qm rfl ?_))))
          obtain ⟨v19, a19, b19, h⟩ := Ah h
          refine qi AJ DS a19 (Ag b19) rfl (qk CO rfl (Dl rfl (qp rfl (AF (by kernel_rfl) ?_))))
          exact As _ h (sm [] _ _ rfl rfl)
      ·refine Ao rfl (fun c20 => ?_) (fun c20 => ?_)
       ·have h := Am c20 h
        refine Ab (Aa Ac rfl (qa rfl (Ad ?_)))
        obtain rfl := sj h
        refine Ak (sm [] [(4, .e (.one (.pure (.val (.int .i64 7)))))] [] rfl rfl) (Ax ?_)
        exact ⟨⟨[_], ⟨.tmp _ _ rfl, trivial⟩, rfl⟩, trivial⟩
       ·have h := An c20 h
        refine Ap (Ab (Aa Ac rfl (qf Da rfl (ql Bp rfl (qm rfl ?_)))))
        obtain ⟨v21, a21, b21, h⟩ := Ah h
        refine qi AJ DS a21 (Ag b21) rfl (qk CO rfl (qf Cu rfl (ql Bp rfl (qm rfl ?_))))
        obtain ⟨v22, a22, b22, h⟩ := Ah h
        refine qi AJ DS a22 (Ag b22) rfl (qk CO rfl (Cm rfl (AF (by kernel_rfl) ?_)))
        refine Ao rfl (fun c23 => ?_) (fun c23 => ?_)
        ·have h := Am c23 h
         refine Ab (Aa Ac rfl (qa rfl (Ad ?_)))
         obtain rfl := sj h
         refine Ak (sm [] [(4, .e (.one (.pure (.val (.int .i64 1)))))] [] rfl rfl) (Ax ?_)
         exact ⟨⟨[_], ⟨.tmp _ _ rfl, trivial⟩, rfl⟩, trivial⟩
        ·have h := An c23 h
         refine Ap (Aa Ac rfl (qm rfl (AQ rfl (qa rfl (Ad ?_)))))
         exact As _ h (sm [] _ _ rfl rfl)
     ·have h := An c9 h
      refine AS ?_
      exact As _ h (sm [] _ _ rfl rfl)
    ·refine Ak hs (Ab (Ab (Aa Ac rfl (qa rfl (Ad ?_)))))
     refine AB (L := BB N p0 p1) h (fun v24 => mk [(2, .e (.one (.ptr 2 0))), (3, .e (.one (.ptr 3 0))), (8, .e (.one (.pure (.val (.int .i64 v24)))))] [(2, .box [.pure (.sl (p0.fVersions.map Aj)), .pure (.sl (p0.fNow.map Aj)), .pure (.sl (p0.fTarget.map Aj)), .pure (.sl (p0.fTables.map Aq))]), (3, .box [.pure (.sl (p1.fBase.map Aj)), .pure (.sl (p1.fNext.map Aj)), .pure (.sl (p1.fHeld.map Bs))])]) (fun v25 => mk [] []) (fun _ _ => rfl) (sm [] _ _ rfl rfl) (fun j24 n24 v24 h => ?_) (fun v25 s h hs => ?_)
     ·unfold BB at h
      refine Ab (Ab (Aa Ac rfl (qm rfl (qf Dx rfl (ql H9 rfl (AN Ek rfl (AT rfl (Ad ?_))))))))
      refine Ao rfl (fun c26 => ?_) (fun c26 => ?_)
      ·have h := Am c26 h
       refine Ap (Ab (AI (Ab (Aa Ac rfl (qf Dx rfl (ql H9 rfl (qm rfl ?_)))))))
       obtain ⟨v27, a27, b27, h⟩ := Ah h
       refine qi Ek D8 a27 (Ag b27) rfl (qK GY D8 rfl (qz Jq rfl (qs D8 rfl (Ad (Ab (Aa Ac rfl (qf Bv rfl (ql Bp rfl (qf Dq rfl (ql CO rfl ?_))))))))))
       obtain ⟨v28, a28, b28, h⟩ := Ah h
       refine qi AJ DS a28 (Ag b28) rfl (qk CO rfl ?_)
       obtain ⟨c29, h⟩ := AM h
       refine Gz rfl c29 (Cl rfl (qa rfl (Ad ?_)))
       refine AO h (fun v30 => mk [(2, .e (.one (.ptr 2 0))), (3, .e (.one (.ptr 3 0))), (8, .e (.one (.pure (.val (.int .i64 v24))))), (153, .e (.one (.pure (.val (.bool v30)))))] [(2, .box [.pure (.sl (p0.fVersions.map Aj)), .pure (.sl (p0.fNow.map Aj)), .pure (.sl (p0.fTarget.map Aj)), .pure (.sl (p0.fTables.map Aq))]), (3, .box [.pure (.sl (p1.fBase.map Aj)), .pure (.sl (p1.fNext.map Aj)), .pure (.sl (p1.fHeld.map Bs))])]) (fun j30 h => ?_) (fun v30 h => ?_)
       ·refine Aa Ac rfl (qL GY D8 rfl ?_)
        obtain ⟨v31, a31, h⟩ := bind_some h
        refine AC [] (Dm N v27 v31 a31) OR rfl (Cy rfl (qm rfl ?_))
        refine AA (t := 119) rfl (fun c32 => ?_) (fun c32 => ?_)
        ·have h := Am c32 h
         refine qf Df rfl (ql Hk rfl (qm rfl ?_))
         obtain ⟨v33, a33, b33, h⟩ := Ah h
         refine qi CI EE a33 (Ag b33) rfl (qk HM rfl (Cd rfl (qp rfl (qm rfl ?_))))
         refine AA (t := 127) rfl (fun c34 => ?_) (fun c34 => ?_)
         ·have h := Am c34 h
          refine qn rfl (qn rfl (qn rfl (qu rfl (qu rfl (qu rfl (qu rfl (qu rfl (qu rfl (qu rfl (qu rfl (qu rfl (qu rfl (qu rfl (qu rfl (qu rfl (qu rfl (qu rfl (qu rfl (qu rfl (qu rfl (qu rfl (qu rfl (qu rfl (qn rfl (qp rfl (AF (by kernel_rfl) ?_))))))))))))))))))))))))))
          exact As _ h (sm [] _ _ rfl rfl)
         ·have h := An c34 h
          refine qL GY D8 rfl ?_
          obtain ⟨v35, a35, h⟩ := bind_some h
          refine AC [] (Dm N v27 v35 a35) OR rfl (qm rfl ?_)
          refine AA (t := 130) rfl (fun c36 => ?_) (fun c36 => ?_)
          ·have h := Am c36 h
           refine qf Df rfl (ql Hk rfl (qm rfl ?_))
           obtain ⟨v37, a37, b37, h⟩ := Ah h
           refine qi CI EE a37 (Ag b37) rfl (qk HM rfl (qm rfl (GJ rfl (Cd rfl (qm rfl ?_)))))
           refine AA (t := 139) rfl (fun c38 => ?_) (fun c38 => ?_)
           ·have h := Am c38 h
            refine qn rfl (qn rfl (qn rfl (qn rfl (qn rfl (qn rfl (qn rfl (qn rfl (qn rfl (qn rfl (qn rfl (qp rfl (qp rfl (qp rfl (AF (by kernel_rfl) ?_))))))))))))))
            exact As _ h (sm [] _ _ rfl rfl)
           ·have h := An c38 h
            refine qL AU Aw rfl (qf Dq rfl (ql CO rfl ?_))
            obtain ⟨v39, a39, h⟩ := bind_some h
            refine AC [] (Ex N p1 v27.fFrom v39 a39) Q2 rfl (qf Df rfl (ql Hk rfl (qm rfl ?_)))
            obtain ⟨v40, a40, b40, h⟩ := Ah h
            refine qi CI EE a40 (Ag b40) rfl (qk HM rfl (GJ rfl (Cd rfl (qp rfl (qp rfl (qp rfl (AF (by kernel_rfl) ?_)))))))
            exact As _ h (sm [] _ _ rfl rfl)
          ·have h := An c36 h
           refine qn rfl (qn rfl (qn rfl (qn rfl (qn rfl (qn rfl (qn rfl (qn rfl (qn rfl (qu rfl (qu rfl (qu rfl (qu rfl (qu rfl (qu rfl (qu rfl (qu rfl (qu rfl (qu rfl (qu rfl (qn rfl (qp rfl (qp rfl (AF (by kernel_rfl) ?_)))))))))))))))))))))))
           exact As _ h (sm [] _ _ rfl rfl)
        ·have h := An c32 h
         refine qn rfl (qn rfl (qn rfl (qn rfl (qn rfl (qn rfl (qp rfl (qm rfl (qL GY D8 rfl ?_))))))))
         obtain ⟨v41, a41, h⟩ := bind_some h
         refine AC [] (Dm N v27 v41 a41) OR rfl (qm rfl ?_)
         refine AA (t := 130) rfl (fun c42 => ?_) (fun c42 => ?_)
         ·have h := Am c42 h
          refine qf Df rfl (ql Hk rfl (qm rfl ?_))
          obtain ⟨v43, a43, b43, h⟩ := Ah h
          refine qi CI EE a43 (Ag b43) rfl (qk HM rfl (qm rfl (GJ rfl (Cd rfl (qm rfl ?_)))))
          refine AA (t := 139) rfl (fun c44 => ?_) (fun c44 => ?_)
          ·have h := Am c44 h
           refine qn rfl (qn rfl (qn rfl (qn rfl (qn rfl (qn rfl (qn rfl (qn rfl (qn rfl (qn rfl (qn rfl (qp rfl (qp rfl (qp rfl (AF (by kernel_rfl) ?_))))))))))))))
           exact As _ h (sm [] _ _ rfl rfl)
          ·have h := An c44 h
           refine qL AU Aw rfl (qf Dq rfl (ql CO rfl ?_))
           obtain ⟨v45, a45, h⟩ := bind_some h
           refine AC [] (Ex N p1 v27.fFrom v45 a45) Q2 rfl (qf Df rfl (ql Hk rfl (qm rfl ?_)))
           obtain ⟨v46, a46, b46, h⟩ := Ah h
           refine qi CI EE a46 (Ag b46) rfl (qk HM rfl (GJ rfl (Cd rfl (qp rfl (qp rfl (qp rfl (AF (by kernel_rfl) ?_)))))))
           exact As _ h (sm [] _ _ rfl rfl)
         ·have h := An c42 h
          refine qn rfl (qn rfl (qn rfl (qn rfl (qn rfl (qn rfl (qn rfl (qn rfl (qn rfl (qu rfl (qu rfl (qu rfl (qu rfl (qu rfl (qu rfl (qu rfl (qu rfl (qu rfl (qu rfl (qu rfl (qn rfl (qp rfl (qp rfl (AF (by kernel_rfl) ?_)))))))))))))))))))))))
          exact As _ h (sm [] _ _ rfl rfl)
       ·refine Ao rfl (fun c47 => ?_) (fun c47 => ?_)
        ·have h := Am c47 h
         refine Ab (Aa Ac rfl (qa rfl (Ad ?_)))
         obtain rfl := sj h
         refine Ak (sm [] [(4, .e (.one (.pure (.val (.int .i64 1)))))] [] rfl rfl) (Ax ?_)
         exact ⟨⟨[_], ⟨.tmp _ _ rfl, trivial⟩, rfl⟩, trivial⟩
        ·have h := An c47 h
         refine Ap (Aa Ac rfl (qm rfl (AQ rfl (qa rfl (Ad ?_)))))
         exact As _ h (sm [] _ _ rfl rfl)
      ·have h := An c26 h
       refine AS ?_
       exact As _ h (sm [] _ _ rfl rfl)
     ·refine Ak hs (Ab (Aa Ac rfl (qa rfl (Ad ?_))))
      obtain rfl := sj h
      refine Ak (sm [] [(4, .e (.one (.pure (.val (.int .i64 0)))))] [] rfl rfl) (Ax ?_)
      exact ⟨⟨[_], ⟨.tmp _ _ rfl, trivial⟩, rfl⟩, trivial⟩
set_option maxRecDepth 10000 in
theorem HQ (N : Nat) (p0 : Ai) (p1 : List Ae) (r : (List Int) × Int) (h : CU N p0 p1 = some r) : Az Try.prog 18 [.e (.agg [.pure (.sl (p0.fVersions.map Aj)), .pure (.sl (p0.fNow.map Aj)), .pure (.sl (p0.fTarget.map Aj)), .pure (.sl (p0.fTables.map Aq))]), .e (.one (.pure (.sl (p1.map Af))))] [(1, r.1.map Bs)] (.tup [.one (.own 0), .one (.pure (.val (.int .i64 r.2)))]) := by
 unfold CU at h
 refine Ar (n := 63) (rs := [.tmp 4, .tmp 5]) Try.func18 rfl rfl rfl (AV rfl) (AV rfl) rfl fun w0 S0 => ?_
 refine Ab (Aa Ac rfl (qb rfl (qa rfl (qa rfl (Ad (Ab (Ab (Aa Ac rfl (qL DO Dz rfl ?_)))))))))
 obtain ⟨v1, a1, h⟩ := bind_some h
 refine AC [] (EG N p0 v1 a1) TC rfl (qa rfl (Ad (Ab (Aa Ac rfl (qm rfl (Cd rfl (Ad ?_)))))))
 refine Ao rfl (fun c2 => ?_) (fun c2 => ?_)
 ·have h := Am c2 h
  refine Ab (Aa Ac rfl (qm rfl (qa rfl (qa rfl (Ad ?_)))))
  obtain rfl := sj h
  refine Ak ((Ba 4 2001 1 rfl rfl rfl).trans (sm [(1000, 2001)] [(4, .e (.one (.own 1000))), (5, .e (.one (.pure (.val (.int .i64 v1)))))] [(1000, .vec 1 ((([] : List Int)).map Bs))] rfl rfl)) (Ax ?_)
  exact ⟨⟨[_, _], ⟨.tmp _ _ rfl, ⟨.tmp _ _ rfl, trivial⟩⟩, rfl⟩, ⟨rfl, trivial⟩⟩
 ·have h := An c2 h
  refine Ap (Ab (Ab (Aa Ac rfl (qa rfl (Ad ?_)))))
  refine AB (L := BJ N p0 p1) h (fun v3 => mk [(1, .e (.one (.pure (.sl (p1.map Af))))), (2, .e (.one (.ptr 2 0))), (7, .e (.one (.pure (.val (.int .i64 v3)))))] [(2, .box [.pure (.sl (p0.fVersions.map Aj)), .pure (.sl (p0.fNow.map Aj)), .pure (.sl (p0.fTarget.map Aj)), .pure (.sl (p0.fTables.map Aq))])]) (fun v4 => mk [(1, .e (.one (.pure (.sl (p1.map Af))))), (2, .e (.one (.ptr 2 0)))] [(2, .box [.pure (.sl (p0.fVersions.map Aj)), .pure (.sl (p0.fNow.map Aj)), .pure (.sl (p0.fTarget.map Aj)), .pure (.sl (p0.fTables.map Aq))])]) (fun _ _ => rfl) (sm [] _ _ rfl rfl) (fun j3 n3 v3 h => ?_) (fun v4 s h hs => ?_)
  ·unfold BJ at h
   refine Ab (Ab (Aa Ac rfl (qm rfl (qm rfl (AN AD rfl (AT rfl (Ad ?_)))))))
   refine Ao rfl (fun c5 => ?_) (fun c5 => ?_)
   ·have h := Am c5 h
    refine Ap (Ab (AI (Ab (Aa Ac rfl (qL DO Dz rfl (qm rfl (qm rfl ?_)))))))
    obtain ⟨v6, a6, b6, h⟩ := Ah h
    refine qi AD Aw a6 (Ag b6) rfl (qK AU Aw rfl ?_)
    obtain ⟨v7, a7, h⟩ := bind_some h
    refine AC [] (IC N p0 v6 v7 a7) SM rfl (qa rfl (AF (by kernel_rfl) (Ab (Aa Ac rfl (qm rfl (Cd rfl (Ad ?_)))))))
    refine Ao rfl (fun c8 => ?_) (fun c8 => ?_)
    ·have h := Am c8 h
     refine Ab (Aa Ac rfl (qm rfl (qa rfl (qa rfl (Ad ?_)))))
     obtain rfl := sj h
     refine Ak ((Ba 4 2002 1 rfl rfl rfl).trans (sm [(1000, 2002)] [(4, .e (.one (.own 1000))), (5, .e (.one (.pure (.val (.int .i64 v7)))))] [(1000, .vec 1 ((([] : List Int)).map Bs))] rfl rfl)) (Ax ?_)
     exact ⟨⟨[_, _], ⟨.tmp _ _ rfl, ⟨.tmp _ _ rfl, trivial⟩⟩, rfl⟩, ⟨rfl, trivial⟩⟩
    ·have h := An c8 h
     refine Ap (Aa Ac rfl (qm rfl (AQ rfl (qa rfl (Ad ?_)))))
     exact As _ h (sm [] _ _ rfl rfl)
   ·have h := An c5 h
    refine AS ?_
    exact As _ h (sm [] _ _ rfl rfl)
  ·refine Ak hs (Ab (Aa Ac rfl (qf Bv rfl (ql Bp rfl (AN AJ rfl ?_)))))
   obtain ⟨c9, h⟩ := AM h
   refine G8 (.p rfl) rfl rfl rfl CI EE NC (AV rfl) Om rfl rfl rfl c9.1 c9.2.1 c9.2.2 (Kg Bs _ ((0 : Int))) ?_
   refine qa rfl (Ad (Ab (Ab (Aa Ac rfl (qa rfl (Ad ?_))))))
   refine AB (L := Bx N p1) h (fun v10 => mk [(1, .e (.one (.pure (.sl (p1.map Af))))), (9, .e (.one (.own 2003))), (10, .e (.one (.pure (.val (.int .i64 v10.2)))))] [(2003, .vec 1 (v10.1.map Bs))]) (fun v11 => mk [(9, .e (.one (.own 2004)))] [(2004, .vec 1 (v11.map Bs))]) (fun _ _ => rfl) (sm [(2003, 35)] _ _ rfl rfl) (fun j10 n10 v10 h => ?_) (fun v11 s h hs => ?_)
   ·unfold Bx at h
    refine Ab (Ab (Aa Ac rfl (qm rfl (qm rfl (AN AD rfl (AT rfl (Ad ?_)))))))
    refine Ao rfl (fun c12 => ?_) (fun c12 => ?_)
    ·have h := Am c12 h
     refine Ap (Ab (AI (Ab (Aa Ac rfl (qa rfl (Ad ?_))))))
     refine AB (L := Bh N p1 v10) h (fun v13 => mk [(1, .e (.one (.pure (.sl (p1.map Af))))), (9, .e (.one (.own 2005))), (10, .e (.one (.pure (.val (.int .i64 v10.2))))), (11, .e (.one (.pure (.val (.int .i64 v13.2)))))] [(2005, .vec 1 (v13.1.map Bs))]) (fun v14 => mk [(1, .e (.one (.pure (.sl (p1.map Af))))), (9, .e (.one (.own 2006))), (10, .e (.one (.pure (.val (.int .i64 v10.2)))))] [(2006, .vec 1 (v14.map Bs))]) (fun _ _ => rfl) (sm [(2005, 2003)] _ _ rfl rfl) (fun j13 n13 v13 h => ?_) (fun v14 s h hs => ?_)
     ·unfold Bh at h
      refine Ab (Ab (Aa Ac rfl (qm rfl (qm rfl (Dj CI rfl (AT rfl (Ad ?_)))))))
      refine Ao rfl (fun c15 => ?_) (fun c15 => ?_)
      ·have h := Am c15 h
       refine Ap (Ab (AI (Aa Ac rfl (qm rfl (qm rfl (qm rfl (qm rfl ?_)))))))
       obtain ⟨v16, a16, b16, h⟩ := Ah h
       refine qI CI EE a16 (Ag b16) rfl (qj HM (Ag b16) rfl (qm rfl (qm rfl ?_)))
       obtain ⟨v17, a17, b17, h⟩ := Ah h
       refine qi AD Aw a17 (Ag b17) rfl (qK AU Aw rfl (qm rfl ?_))
       obtain ⟨v18, a18, h⟩ := bind_some h
       refine AC [] (Ex N v17 v13.2 v18 a18) Q2 rfl (Nk rfl ?_)
       obtain ⟨v19, a19, b19, h⟩ := Ah h
       refine qI CI EE a19 (Ag b19) rfl ?_
       refine AX rfl rfl rfl rfl (Ag b19) rfl EE rfl (AV rfl) (AY Bs v13.1 _ ((IT .u8 v16 v18))) ?_
       refine AF (by kernel_rfl) (Aa Ac rfl (qm rfl (AQ rfl (qa rfl (Ad ?_)))))
       exact As _ h (sm [] _ _ rfl rfl)
      ·have h := An c15 h
       refine AS ?_
       exact As _ h (sm [(2006, 2005)] _ _ rfl rfl)
     ·refine Ak hs (Aa Ac rfl (qm rfl (AQ rfl (qa rfl (Ad ?_)))))
      exact As _ h (sm [(2003, 2006)] _ _ rfl rfl)
    ·have h := An c12 h
     refine AS ?_
     exact As _ h (sm [(2004, 2003)] _ _ rfl rfl)
   ·refine Ak hs (Ab (Aa Ac rfl (qm rfl (qa rfl (qa rfl (Ad ?_))))))
    obtain rfl := sj h
    refine Ak (sm [(1000, 2004)] [(4, .e (.one (.own 1000))), (5, .e (.one (.pure (.val (.int .i64 0)))))] [(1000, .vec 1 (v11.map Bs))] rfl rfl) (Ax ?_)
    exact ⟨⟨[_, _], ⟨.tmp _ _ rfl, ⟨.tmp _ _ rfl, trivial⟩⟩, rfl⟩, ⟨rfl, trivial⟩⟩
set_option maxRecDepth 10000 in
theorem F6 (N : Nat) (p0 : List Int) (p1 : List Int) (r : Bool) (h : B1 N p0 p1 = some r) : Az Try.prog 19 [.e (.one (.pure (.sl (p0.map Bs)))), .e (.one (.pure (.sl (p1.map Bs))))] [] (.e (.one (.pure (.val (.bool r))))) := by
 unfold B1 at h
 refine Ar (n := 26) (rs := [.tmp 4]) Try.func19 rfl rfl rfl (AV rfl) (AV rfl) rfl fun w0 S0 => ?_
 refine Ab (Aa Ac rfl (qa rfl (Ad (Ab (Ab (Aa Ac rfl (qm rfl (AN CI rfl (qm rfl (AN CI rfl (Cd rfl (Ad ?_))))))))))))
 refine Ao rfl (fun c1 => ?_) (fun c1 => ?_)
 ·have h := Am c1 h
  refine Ab (Aa Ac rfl (qa rfl (Ad ?_)))
  obtain rfl := sj h
  refine Ak (sm [] [(4, .e (.one (.pure (.val (.bool false)))))] [] rfl rfl) (Ax ?_)
  exact ⟨⟨[_], ⟨.tmp _ _ rfl, trivial⟩, rfl⟩, trivial⟩
 ·have h := An c1 h
  refine Ap (Ab (Ab (Aa Ac rfl (qm rfl (AN CI rfl (qm rfl (Ad ?_)))))))
  refine AB (L := AZ N p0 p1) h (fun v2 => mk [(0, .e (.one (.pure (.sl (p0.map Bs))))), (1, .e (.one (.pure (.sl (p1.map Bs))))), (12, .e (.one (.pure (.val (.int .i64 ((p0.length : Int))))))), (13, .e (.one (.pure (.val (.int .i64 v2)))))] []) (fun v3 => mk [] []) (fun _ _ => rfl) (sm [] _ _ rfl rfl) (fun j2 n2 v2 h => ?_) (fun v3 s h hs => ?_)
  ·unfold AZ at h
   refine Ab (Aa Ac rfl (AT rfl (Ad (Ab ?_))))
   refine Ao rfl (fun c4 => ?_) (fun c4 => ?_)
   ·have h := Am c4 h
    refine Ap (Ab (AI (Ab (Aa Ac rfl (qm rfl (qa rfl (Ad (Ab (Aa Ac rfl (qm rfl (qm rfl ?_)))))))))))
    obtain ⟨v5, a5, b5, h⟩ := Ah h
    refine qi CI EE a5 (Ag b5) rfl (qk HM rfl (qm rfl (qm rfl ?_)))
    obtain ⟨v6, a6, b6, h⟩ := Ah h
    refine qi CI EE a6 (Ag b6) rfl (qk HM rfl (Cd rfl (AF (by kernel_rfl) ?_)))
    refine Ao rfl (fun c7 => ?_) (fun c7 => ?_)
    ·have h := Am c7 h
     refine Ab (Aa Ac rfl (qa rfl (Ad ?_)))
     obtain rfl := sj h
     refine Ak (sm [] [(4, .e (.one (.pure (.val (.bool false)))))] [] rfl rfl) (Ax ?_)
     exact ⟨⟨[_], ⟨.tmp _ _ rfl, trivial⟩, rfl⟩, trivial⟩
    ·have h := An c7 h
     refine Ap (Aa Ac rfl (AQ rfl (qm rfl (Ad ?_))))
     exact As _ h (sm [] _ _ rfl rfl)
   ·have h := An c4 h
    refine AS ?_
    exact As _ h (sm [] _ _ rfl rfl)
  ·refine Ak hs (Ab (Aa Ac rfl (qa rfl (Ad ?_))))
   obtain rfl := sj h
   refine Ak (sm [] [(4, .e (.one (.pure (.val (.bool true)))))] [] rfl rfl) (Ax ?_)
   exact ⟨⟨[_], ⟨.tmp _ _ rfl, trivial⟩, rfl⟩, trivial⟩
set_option maxRecDepth 10000 in
theorem GD (N : Nat) (p0 : Ce) (p1 : List Ae) (r : Bool) (h : Cp N p0 p1 = some r) : Az Try.prog 4 [.e (.agg [.pure (.sl (p0.fVersions.map Bs)), .pure (.sl (p0.fNow.map Bs)), .pure (.sl (p0.fTarget.map Bs)), .pure (.sl (p0.fLinks.map BQ))]), .e (.one (.pure (.sl (p1.map Af))))] [] (.e (.one (.pure (.val (.bool r))))) := by
 unfold Cp at h
 refine Ar (n := 61) (rs := [.tmp 4]) Try.func4 rfl rfl rfl (AV rfl) (AV rfl) rfl fun w0 S0 => ?_
 refine Ab (Aa Ac rfl (qb rfl (qa rfl (Ad (Ab (Aa Ac rfl (qL SD Tl rfl ?_)))))))
 obtain ⟨v1, a1, h⟩ := bind_some h
 refine AC [2001, 2002, 2003, 2004] (Jt N p0 v1 a1) SS rfl (qm rfl (qx rfl (qx rfl (qz NR rfl (qs Dz rfl (qa rfl (Ad (Ab ?_))))))))
 refine AO h (fun v2 => mk [(1, .e (.one (.pure (.sl (p1.map Af))))), (5, .e (.one (.ptr 5 0))), (28, .e (.one (.pure (.val (.bool v2)))))] [(5, .box [.own 2005, .own 2006, .own 2007, .own 2008]), (2005, .vec 1 (v1.1.fVersions.map Aj)), (2006, .vec 1 (v1.1.fNow.map Aj)), (2007, .vec 1 (v1.1.fTarget.map Aj)), (2008, .vec 6 (v1.1.fTables.map Aq))]) (fun j2 h => ?_) (fun v2 h => ?_)
 ·refine Aa Ac rfl ?_
  obtain ⟨v3, a3, h⟩ := bind_some h
  refine AC [] (GA N v3 a3) TE rfl (Cy rfl (qm rfl ?_))
  refine AA (t := 20) rfl (fun c4 => ?_) (fun c4 => ?_)
  ·have h := Am c4 h
   refine qn rfl (qn rfl (qp rfl (qm rfl (qn rfl (qn rfl (qn rfl (qp rfl (Ad ?_))))))))
   exact As _ h (sm [(2005, 2001), (2006, 2002), (2007, 2003), (2008, 2004)] _ _ rfl rfl)
  ·have h := An c4 h
   refine qm rfl (Cy rfl (qp rfl (qm rfl ?_)))
   refine AA (t := 24) rfl (fun c5 => ?_) (fun c5 => ?_)
   ·have h := Am c5 h
    refine qn rfl (qn rfl (qn rfl (qp rfl (Ad ?_))))
    exact As _ h (sm [(2005, 2001), (2006, 2002), (2007, 2003), (2008, 2004)] _ _ rfl rfl)
   ·have h := An c5 h
    refine qm rfl (AN AD rfl (Es rfl (qp rfl (Ad ?_))))
    exact As _ h (sm [(2005, 2001), (2006, 2002), (2007, 2003), (2008, 2004)] _ _ rfl rfl)
 ·refine Ao rfl (fun c6 => ?_) (fun c6 => ?_)
  ·have h := Am c6 h
   refine Ab (Aa Ac rfl ?_)
   obtain ⟨v7, a7, h⟩ := bind_some h
   refine AC [] (GA N v7 a7) TE rfl (qa rfl (Ad ?_))
   obtain rfl := sj h
   refine Ak (sm [] [(4, .e (.one (.pure (.val (.bool v7)))))] [] rfl rfl) (Ax ?_)
   exact ⟨⟨[_], ⟨.tmp _ _ rfl, trivial⟩, rfl⟩, trivial⟩
  ·have h := An c6 h
   refine Ap (Ab (Ab (Aa Ac rfl (qm rfl (AN AD rfl (qm rfl (Ad ?_)))))))
   refine AB (L := Bt N p1) h (fun v8 => mk [(1, .e (.one (.pure (.sl (p1.map Af))))), (5, .e (.one (.ptr 5 0))), (30, .e (.one (.pure (.sl (p1.map Af))))), (31, .e (.one (.pure (.val (.int .i64 ((p1.length : Int))))))), (32, .e (.one (.pure (.val (.int .i64 v8)))))] [(5, .box [.own 2009, .own 2010, .own 2011, .own 2012]), (2009, .vec 1 (v1.1.fVersions.map Aj)), (2010, .vec 1 (v1.1.fNow.map Aj)), (2011, .vec 1 (v1.1.fTarget.map Aj)), (2012, .vec 6 (v1.1.fTables.map Aq))]) (fun v9 => mk [(1, .e (.one (.pure (.sl (p1.map Af))))), (5, .e (.one (.ptr 5 0)))] [(5, .box [.own 2013, .own 2014, .own 2015, .own 2016]), (2013, .vec 1 (v1.1.fVersions.map Aj)), (2014, .vec 1 (v1.1.fNow.map Aj)), (2015, .vec 1 (v1.1.fTarget.map Aj)), (2016, .vec 6 (v1.1.fTables.map Aq))]) (fun _ _ => rfl) (sm [(2009, 2005), (2010, 2006), (2011, 2007), (2012, 2008)] _ _ rfl rfl) (fun j8 n8 v8 h => ?_) (fun v9 s h hs => ?_)
   ·unfold Bt at h
    refine Ab (Aa Ac rfl (AT rfl (Ad (Ab ?_))))
    refine Ao rfl (fun c10 => ?_) (fun c10 => ?_)
    ·have h := Am c10 h
     refine Ap (Ab (AI (Ab (Aa Ac rfl ?_))))
     obtain ⟨v11, a11, b11, h⟩ := Ah h
     refine qi AD Aw a11 (Ag b11) rfl (qK AU Aw rfl (qz Du rfl (qs Aw rfl (Ad (Ab (Aa Ac rfl (qL AU Aw rfl ?_)))))))
     obtain ⟨v12, a12, h⟩ := bind_some h
     refine AC [] (Jr N v11 v12 a12) S4 rfl (Cy rfl (Ad ?_))
     refine Ao rfl (fun c13 => ?_) (fun c13 => ?_)
     ·have h := Am c13 h
      refine Ab (Aa Ac rfl (qa rfl (Ad ?_)))
      obtain rfl := sj h
      refine Ak (sm [] [(4, .e (.one (.pure (.val (.bool true)))))] [] rfl rfl) (Ax ?_)
      exact ⟨⟨[_], ⟨.tmp _ _ rfl, trivial⟩, rfl⟩, trivial⟩
     ·have h := An c13 h
      refine Ap (Aa Ac rfl (AQ rfl (qm rfl (Ad ?_))))
      exact As _ h (sm [] _ _ rfl rfl)
    ·have h := An c10 h
     refine AS ?_
     exact As _ h (sm [(2013, 2009), (2014, 2010), (2015, 2011), (2016, 2012)] _ _ rfl rfl)
   ·refine Ak hs (Ab (Aa Ac rfl (qL DO Dz rfl (qm rfl ?_))))
    obtain ⟨v14, a14, h⟩ := bind_some h
    refine AC [2017] (F7 N p1 v14 a14) Tx rfl ?_
    obtain ⟨v15, a15, h⟩ := bind_some h
    refine Fb [2018] [2013, 2014, 2015, 2016, 2017] (JF N v1.1 v14 v15 a15) Sz (HV (fun _ => rfl) DR) rfl (qm rfl (qx rfl (qx rfl (qa rfl (qa rfl (AF (by kernel_rfl) (Ab (Aa Ac rfl (qL DO Dz rfl (qm rfl ?_))))))))))
    obtain ⟨v16, a16, h⟩ := bind_some h
    refine Fb [2019] [2013, 2014, 2015, 2016] (HQ N v1.1 p1 v16 a16) Ti (HV (fun _ => rfl) DR) rfl (qm rfl (qx rfl (qx rfl (qa rfl (qa rfl (Ad ?_))))))
    refine AO h (fun v17 => mk [(4, .e (.one (.pure (.val (.bool v17)))))] []) (fun j17 h => ?_) (fun v17 h => ?_)
    ·refine Aa Ac rfl (qm rfl (qm rfl (Cm rfl (qm rfl ?_))))
     refine AA (t := 56) rfl (fun c18 => ?_) (fun c18 => ?_)
     ·have h := Am c18 h
      refine qm rfl (qm rfl ?_)
      obtain ⟨v19, a19, h⟩ := bind_some h
      refine Fb [] [2018, 2019] (F6 N v15.1 v16.1 v19 a19) S3 DR rfl (qp rfl (qa rfl (Ad ?_)))
      exact As _ h (sm [] _ _ rfl rfl)
     ·have h := An c18 h
      refine qn rfl (qn rfl (qn rfl (qp rfl (qa rfl (Ad ?_)))))
      exact As _ h (sm [] _ _ rfl rfl)
    ·obtain rfl := sj h
     refine Ak (sm [] [(4, .e (.one (.pure (.val (.bool v17)))))] [] rfl rfl) (Ax ?_)
     exact ⟨⟨[_], ⟨.tmp _ _ rfl, trivial⟩, rfl⟩, trivial⟩
end Go.Lift

