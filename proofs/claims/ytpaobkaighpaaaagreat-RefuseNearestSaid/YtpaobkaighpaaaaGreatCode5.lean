/- Lemmas for RefuseNearestSaid, which YtpaobkaighpaaaaGreatFinR6 proves. -/
import Derived.Test.YtpaobkaighpaaaaGreatCode3
/- That the code does what the shallow programs do, function by function. Written by a program (gen.py). -/
namespace Go.Lift
open Go.RowKit
open Go.Proofs
set_option maxRecDepth 10000 in
theorem Fb (N : Nat) (p0 : List Af) (p1 : Int) (p2 : Int) (p3 : (Af × Af) → Option Int) (r : Bool × (List Af)) (h : Cn N p0 p1 p2 p3 = some r) : A9 Tryz.prog 137 [.e (.one (.own 90000)), .e (.one (.pure (.val (.int .i64 p1)))), .e (.one (.pure (.val (.int .i64 p2)))), .e (.one (.clo (A0 (Cq true Ac true Ac) A8 p3)))] [(.vec 3 (p0.map Ac), .vec 3 (r.2.map Ac))] [] (.e (.one (.pure (.val (.bool r.1))))) := by
 unfold Cn at h
 refine AY (n := 141) (rs := [.tmp 8]) Tryz.func137 rfl rfl rfl (AZ rfl) (AZ rfl) rfl rfl (AZ rfl) rfl (AZ rfl) fun w0 S0 GL => ?_
 refine Am (sm [] [(0, .e (.one (.own 90000))), (1, .e (.one (.pure (.val (.int .i64 p1))))), (2, .e (.one (.pure (.val (.int .i64 p2))))), (3, .e (.one (.clo (A0 (Cq true Ac true Ac) A8 p3))))] [(90000, .vec 3 (p0.map Ac))] rfl rfl) (Ab (Aa Ad rfl (qa rfl (Ae (Ab (Aa Ad rfl (qm rfl (AI rfl (qa rfl (Ae (Ab (Ab (Aa Ad rfl (qa rfl (Ae ?_)))))))))))))))
 refine AB (L := Bj N p1 p2 p3) h (fun v1 => mk [(0, .e (.one (.own 90000))), (1, .e (.one (.pure (.val (.int .i64 p1))))), (2, .e (.one (.pure (.val (.int .i64 p2))))), (3, .e (.one (.clo (A0 (Cq true Ac true Ac) A8 p3)))), (9, .e (.one (.pure (.val (.int .i64 v1.2.1))))), (10, .e (.one (.pure (.val (.int .i64 v1.2.2)))))] [(90000, .vec 3 (v1.1.map Ac))]) (fun v2 => mk [] [(90000, .vec 3 (v2.map Ac))]) (fun _ _ => rfl) (sm [] _ _ rfl rfl) (fun j1 n1 v1 h => ?_) (fun v2 s h hs => ?_)
 ·unfold Bj at h
  refine Ab (Ab (Aa Ad rfl (qm rfl (AR rfl (Ae ?_)))))
  refine Ap rfl (fun c3 => ?_) (fun c3 => ?_)
  ·have h := An c3 h
   refine Aq ?_
   refine AK h (fun v4 => mk [(0, .e (.one (.own 90000))), (1, .e (.one (.pure (.val (.int .i64 p1))))), (2, .e (.one (.pure (.val (.int .i64 p2))))), (3, .e (.one (.clo (A0 (Cq true Ac true Ac) A8 p3)))), (9, .e (.one (.pure (.val (.int .i64 v4.2))))), (10, .e (.one (.pure (.val (.int .i64 v1.2.2)))))] [(90000, .vec 3 (v4.1.map Ac))]) (fun j4 h => ?_) (fun v4 h => ?_)
   ·refine AD (Ab ?_)
    refine AB (L := Bk N p2 p3 v1) h (fun v5 => mk [(0, .e (.one (.own 90000))), (1, .e (.one (.pure (.val (.int .i64 p1))))), (2, .e (.one (.pure (.val (.int .i64 p2))))), (3, .e (.one (.clo (A0 (Cq true Ac true Ac) A8 p3)))), (9, .e (.one (.pure (.val (.int .i64 v5))))), (10, .e (.one (.pure (.val (.int .i64 v1.2.2)))))] [(90000, .vec 3 (v1.1.map Ac))]) (fun v6 => mk [(0, .e (.one (.own 90000))), (1, .e (.one (.pure (.val (.int .i64 p1))))), (2, .e (.one (.pure (.val (.int .i64 p2))))), (3, .e (.one (.clo (A0 (Cq true Ac true Ac) A8 p3)))), (9, .e (.one (.pure (.val (.int .i64 v6))))), (10, .e (.one (.pure (.val (.int .i64 v1.2.2)))))] [(90000, .vec 3 (v1.1.map Ac))]) (fun _ _ => rfl) (sm [] _ _ rfl rfl) (fun j5 n5 v5 h => ?_) (fun v6 s h hs => ?_)
    ·unfold Bk at h
     refine Ab ?_
     refine AK h (fun v7 => mk [(0, .e (.one (.own 90000))), (1, .e (.one (.pure (.val (.int .i64 p1))))), (2, .e (.one (.pure (.val (.int .i64 p2))))), (3, .e (.one (.clo (A0 (Cq true Ac true Ac) A8 p3)))), (9, .e (.one (.pure (.val (.int .i64 v5))))), (10, .e (.one (.pure (.val (.int .i64 v1.2.2))))), (36, .e (.one (.pure (.val (.bool v7)))))] [(90000, .vec 3 (v1.1.map Ac))]) (fun j7 h => ?_) (fun v7 h => ?_)
     ·refine Aa Ad rfl (qm rfl (qm rfl (AR rfl (qm rfl ?_))))
      refine AC (t := 22) rfl (fun c8 => ?_) (fun c8 => ?_)
      ·have h := An c8 h
       refine qm rfl (qm rfl (qm rfl ?_))
       obtain ⟨v9, a9, b9, h⟩ := Aj h
       refine qI A2 AN a9 (Ag b9) rfl (qJ Dp AN (Ag b9) rfl (qm rfl (qm rfl (Bb rfl ?_))))
       obtain ⟨v10, a10, b10, h⟩ := Aj h
       refine qI A2 AN a10 (Ag b10) rfl (qJ Dp AN (Ag b10) rfl ?_)
       obtain ⟨v11, a11, h⟩ := bind_some h
       refine CK (ds0 := [_, _]) (ar := (Cq true Ac true Ac) ((v9, v10))) (.g rfl rfl) rfl rfl ⟨rfl, rfl, trivial⟩ rfl rfl rfl (CA (Dk _ _ _ _ A4 A4) a11) ?_
       refine AR rfl (CC rfl (qp rfl (Az (by kernel_rfl) ?_)))
       exact Av _ h (sm [] _ _ rfl rfl)
      ·have h := Ao c8 h
       refine qn rfl (qn rfl (qn rfl (qn rfl (qn rfl (qn rfl (qn rfl (qn rfl (qn rfl (qn rfl (qn rfl (qn rfl (qn rfl (qp rfl (Az (by kernel_rfl) ?_))))))))))))))
       exact Av _ h (sm [] _ _ rfl rfl)
     ·refine Ap rfl (fun c12 => ?_) (fun c12 => ?_)
      ·have h := An c12 h
       refine Aq (AD (Aa Ad rfl (qm rfl (AI rfl (qa rfl (Ae ?_))))))
       exact Av _ h (sm [] _ _ rfl rfl)
      ·have h := Ao c12 h
       refine AL ?_
       exact Av _ h (sm [] _ _ rfl rfl)
    ·refine Am hs (Ab (Ab (Aa Ad rfl (qm rfl (qm rfl (Cp rfl (Ae ?_)))))))
     refine Ap rfl (fun c13 => ?_) (fun c13 => ?_)
     ·have h := An c13 h
      refine Ab (Aa Ad rfl (qa rfl (Ae ?_)))
      obtain rfl := sj h
      refine Am (sm [] [(8, .e (.one (.pure (.val (.bool true)))))] [(90000, .vec 3 (v1.1.map Ac))] rfl rfl) (Ax ?_)
      exact ⟨⟨[_], ⟨.tmp _ _ rfl, trivial⟩, rfl⟩, ⟨rfl, trivial⟩, trivial⟩
     ·have h := Ao c13 h
      refine Aq (Ab (Ab (Aa Ad rfl (qm rfl (qm rfl (Bb rfl (AR rfl (Ae ?_))))))))
      refine Ap rfl (fun c14 => ?_) (fun c14 => ?_)
      ·have h := An c14 h
       refine Ab (Aa Ad rfl (qa rfl (Ae ?_)))
       obtain rfl := sj h
       refine Am (sm [] [(8, .e (.one (.pure (.val (.bool false)))))] [(90000, .vec 3 (v1.1.map Ac))] rfl rfl) (Ax ?_)
       exact ⟨⟨[_], ⟨.tmp _ _ rfl, trivial⟩, rfl⟩, ⟨rfl, trivial⟩, trivial⟩
      ·have h := Ao c14 h
       refine Aq (Ab (Aa Ad rfl (qm rfl (qm rfl (qm rfl (qm rfl (Bb rfl (qm rfl (qm rfl (Bb rfl ?_))))))))))
       obtain ⟨v15, a15, b15, h⟩ := Aj h
       refine qI A2 AN a15 (Ag b15) rfl (qJ Dp AN (Ag b15) rfl (qm rfl (qm rfl ?_)))
       obtain ⟨v16, a16, b16, h⟩ := Aj h
       refine qI A2 AN a16 (Ag b16) rfl (qJ Dp AN (Ag b16) rfl ?_)
       obtain ⟨v17, a17, b17, h⟩ := Aj h
       refine qI A2 AN a17 (Ag b17) rfl ?_
       refine AT rfl rfl rfl rfl (Ag b17) rfl AN rfl (AZ rfl) (AU Ac v1.1 _ v15) ?_
       obtain ⟨v18, a18, b18, h⟩ := Aj h
       refine qI A2 AN a18 (Ag b18) rfl ?_
       refine AT rfl rfl rfl rfl (Ag b18) rfl AN rfl (AZ rfl) (AU Ac (v1.1.set ((v6).toNat) v15) _ v16) ?_
       refine Az (by kernel_rfl) ?_
       refine AK h (fun v19 => mk [(0, .e (.one (.own 90000))), (1, .e (.one (.pure (.val (.int .i64 p1))))), (2, .e (.one (.pure (.val (.int .i64 p2))))), (3, .e (.one (.clo (A0 (Cq true Ac true Ac) A8 p3)))), (9, .e (.one (.pure (.val (.int .i64 v6))))), (10, .e (.one (.pure (.val (.int .i64 v1.2.2)))))] [(90000, .vec 3 (v19.map Ac))]) (fun j19 h => ?_) (fun v19 h => ?_)
       ·refine Ab (Aa Ad rfl (qm rfl (qm rfl (Bb rfl (Dl rfl (Ae ?_))))))
        refine Ap rfl (fun c20 => ?_) (fun c20 => ?_)
        ·have h := An c20 h
         refine Ab (Aa Ad rfl (qm rfl (Bb rfl (qa rfl (Ae ?_)))))
         refine AB (L := Bh N p3) h (fun v21 => mk [(0, .e (.one (.own 90000))), (1, .e (.one (.pure (.val (.int .i64 p1))))), (2, .e (.one (.pure (.val (.int .i64 p2))))), (3, .e (.one (.clo (A0 (Cq true Ac true Ac) A8 p3)))), (9, .e (.one (.pure (.val (.int .i64 v6))))), (10, .e (.one (.pure (.val (.int .i64 v1.2.2))))), (11, .e (.one (.pure (.val (.int .i64 v21.2)))))] [(90000, .vec 3 (v21.1.map Ac))]) (fun v22 => mk [(0, .e (.one (.own 90000))), (1, .e (.one (.pure (.val (.int .i64 p1))))), (2, .e (.one (.pure (.val (.int .i64 p2))))), (3, .e (.one (.clo (A0 (Cq true Ac true Ac) A8 p3)))), (9, .e (.one (.pure (.val (.int .i64 v6))))), (10, .e (.one (.pure (.val (.int .i64 v1.2.2)))))] [(90000, .vec 3 (v22.map Ac))]) (fun _ _ => rfl) (sm [] _ _ rfl rfl) (fun j21 n21 v21 h => ?_) (fun v22 s h hs => ?_)
         ·unfold Bh at h
          refine Ab (Ab (Aa Ad rfl (qm rfl (Dl rfl (Ae ?_)))))
          refine Ap rfl (fun c23 => ?_) (fun c23 => ?_)
          ·have h := An c23 h
           refine Aq (Ab (AD (Ab (Ab (Aa Ad rfl (qm rfl (qm rfl (qm rfl ?_))))))))
           obtain ⟨v24, a24, b24, h⟩ := Aj h
           refine qI A2 AN a24 (Ag b24) rfl (qJ Dp AN (Ag b24) rfl (qm rfl (qm rfl (Bb rfl ?_))))
           obtain ⟨v25, a25, b25, h⟩ := Aj h
           refine qI A2 AN a25 (Ag b25) rfl (qJ Dp AN (Ag b25) rfl ?_)
           obtain ⟨v26, a26, h⟩ := bind_some h
           refine CK (ds0 := [_, _]) (ar := (Cq true Ac true Ac) ((v24, v25))) (.p rfl) rfl rfl ⟨rfl, rfl, trivial⟩ rfl rfl rfl (CA (Dk _ _ _ _ A4 A4) a26) ?_
           refine AR rfl (CC rfl (Az (by kernel_rfl) ?_))
           refine Ap rfl (fun c27 => ?_) (fun c27 => ?_)
           ·have h := An c27 h
            refine AL ?_
            exact Av _ h (sm [] _ _ rfl rfl)
           ·have h := Ao c27 h
            refine Aq (Aa Ad rfl (qm rfl (qm rfl (qm rfl (qm rfl (Bb rfl (qm rfl (qm rfl (Bb rfl ?_)))))))))
            obtain ⟨v28, a28, b28, h⟩ := Aj h
            refine qI A2 AN a28 (Ag b28) rfl (qJ Dp AN (Ag b28) rfl (qm rfl (qm rfl ?_)))
            obtain ⟨v29, a29, b29, h⟩ := Aj h
            refine qI A2 AN a29 (Ag b29) rfl (qJ Dp AN (Ag b29) rfl ?_)
            obtain ⟨v30, a30, b30, h⟩ := Aj h
            refine qI A2 AN a30 (Ag b30) rfl ?_
            refine AT rfl rfl rfl rfl (Ag b30) rfl AN rfl (AZ rfl) (AU Ac v21.1 _ v28) ?_
            obtain ⟨v31, a31, b31, h⟩ := Aj h
            refine qI A2 AN a31 (Ag b31) rfl ?_
            refine AT rfl rfl rfl rfl (Ag b31) rfl AN rfl (AZ rfl) (AU Ac (v21.1.set ((v21.2).toNat) v28) _ v29) ?_
            refine Az (by kernel_rfl) (Aa Ad rfl (qm rfl (Bb rfl (qa rfl (Ae ?_)))))
            exact Av _ h (sm [] _ _ rfl rfl)
          ·have h := Ao c23 h
           refine AL ?_
           exact Av _ h (sm [] _ _ rfl rfl)
         ·exact Av _ h (hs.trans (sm [] _ _ rfl rfl))
        ·have h := Ao c20 h
         refine Aq ?_
         exact Av _ h (sm [] _ _ rfl rfl)
       ·refine Ab (Aa Ad rfl (qm rfl (qm rfl (Bb rfl (Dl rfl (Ae ?_))))))
        refine Ap rfl (fun c32 => ?_) (fun c32 => ?_)
        ·have h := An c32 h
         refine Ab (Aa Ad rfl (qm rfl (AI rfl (qa rfl (Ae ?_)))))
         refine AB (L := Bi N p2 p3) h (fun v33 => mk [(0, .e (.one (.own 90000))), (1, .e (.one (.pure (.val (.int .i64 p1))))), (2, .e (.one (.pure (.val (.int .i64 p2))))), (3, .e (.one (.clo (A0 (Cq true Ac true Ac) A8 p3)))), (9, .e (.one (.pure (.val (.int .i64 v6))))), (10, .e (.one (.pure (.val (.int .i64 v1.2.2))))), (12, .e (.one (.pure (.val (.int .i64 v33.2)))))] [(90000, .vec 3 (v33.1.map Ac))]) (fun v34 => mk [(0, .e (.one (.own 90000))), (1, .e (.one (.pure (.val (.int .i64 p1))))), (2, .e (.one (.pure (.val (.int .i64 p2))))), (3, .e (.one (.clo (A0 (Cq true Ac true Ac) A8 p3)))), (9, .e (.one (.pure (.val (.int .i64 v6))))), (10, .e (.one (.pure (.val (.int .i64 v1.2.2)))))] [(90000, .vec 3 (v34.map Ac))]) (fun _ _ => rfl) (sm [] _ _ rfl rfl) (fun j33 n33 v33 h => ?_) (fun v34 s h hs => ?_)
         ·unfold Bi at h
          refine Ab (Ab (Aa Ad rfl (qm rfl (qm rfl (AR rfl (Ae ?_))))))
          refine Ap rfl (fun c35 => ?_) (fun c35 => ?_)
          ·have h := An c35 h
           refine Aq (Ab (AD (Ab (Ab (Aa Ad rfl (qm rfl (qm rfl (qm rfl ?_))))))))
           obtain ⟨v36, a36, b36, h⟩ := Aj h
           refine qI A2 AN a36 (Ag b36) rfl (qJ Dp AN (Ag b36) rfl (qm rfl (qm rfl (Bb rfl ?_))))
           obtain ⟨v37, a37, b37, h⟩ := Aj h
           refine qI A2 AN a37 (Ag b37) rfl (qJ Dp AN (Ag b37) rfl ?_)
           obtain ⟨v38, a38, h⟩ := bind_some h
           refine CK (ds0 := [_, _]) (ar := (Cq true Ac true Ac) ((v36, v37))) (.p rfl) rfl rfl ⟨rfl, rfl, trivial⟩ rfl rfl rfl (CA (Dk _ _ _ _ A4 A4) a38) ?_
           refine AR rfl (CC rfl (Az (by kernel_rfl) ?_))
           refine Ap rfl (fun c39 => ?_) (fun c39 => ?_)
           ·have h := An c39 h
            refine AL ?_
            exact Av _ h (sm [] _ _ rfl rfl)
           ·have h := Ao c39 h
            refine Aq (Aa Ad rfl (qm rfl (qm rfl (qm rfl (qm rfl (Bb rfl (qm rfl (qm rfl (Bb rfl ?_)))))))))
            obtain ⟨v40, a40, b40, h⟩ := Aj h
            refine qI A2 AN a40 (Ag b40) rfl (qJ Dp AN (Ag b40) rfl (qm rfl (qm rfl ?_)))
            obtain ⟨v41, a41, b41, h⟩ := Aj h
            refine qI A2 AN a41 (Ag b41) rfl (qJ Dp AN (Ag b41) rfl ?_)
            obtain ⟨v42, a42, b42, h⟩ := Aj h
            refine qI A2 AN a42 (Ag b42) rfl ?_
            refine AT rfl rfl rfl rfl (Ag b42) rfl AN rfl (AZ rfl) (AU Ac v33.1 _ v40) ?_
            obtain ⟨v43, a43, b43, h⟩ := Aj h
            refine qI A2 AN a43 (Ag b43) rfl ?_
            refine AT rfl rfl rfl rfl (Ag b43) rfl AN rfl (AZ rfl) (AU Ac (v33.1.set ((v33.2).toNat) v40) _ v41) ?_
            refine Az (by kernel_rfl) (Aa Ad rfl (qm rfl (AI rfl (qa rfl (Ae ?_)))))
            exact Av _ h (sm [] _ _ rfl rfl)
          ·have h := Ao c35 h
           refine AL ?_
           exact Av _ h (sm [] _ _ rfl rfl)
         ·exact Av _ h (hs.trans (sm [] _ _ rfl rfl))
        ·have h := Ao c32 h
         refine Aq ?_
         exact Av _ h (sm [] _ _ rfl rfl)
   ·refine Aa Ad rfl (qm rfl (AI rfl (qa rfl (Ae ?_))))
    exact Av _ h (sm [] _ _ rfl rfl)
  ·have h := Ao c3 h
   refine AL ?_
   exact Av _ h (sm [] _ _ rfl rfl)
 ·refine Am hs (Ab (Aa Ad rfl (qa rfl (Ae ?_))))
  obtain rfl := sj h
  refine Am (sm [] [(8, .e (.one (.pure (.val (.bool false)))))] [(90000, .vec 3 (v2.map Ac))] rfl rfl) (Ax ?_)
  exact ⟨⟨[_], ⟨.tmp _ _ rfl, trivial⟩, rfl⟩, ⟨rfl, trivial⟩, trivial⟩
set_option maxRecDepth 10000 in
theorem FO (N : Nat) (p0 : List Af) (p1 : Int) (p2 : Int) (p3 : Int) (p4 : (Af × Af) → Option Int) (r : Int × (List Af)) (h : CZ N p0 p1 p2 p3 p4 = some r) : A9 Tryz.prog 138 [.e (.one (.own 90000)), .e (.one (.pure (.val (.int .i64 p1)))), .e (.one (.pure (.val (.int .i64 p2)))), .e (.one (.pure (.val (.int .i64 p3)))), .e (.one (.clo (A0 (Cq true Ac true Ac) A8 p4)))] [(.vec 3 (p0.map Ac), .vec 3 (r.2.map Ac))] [] (.e (.one (.pure (.val (.int .i64 r.1))))) := by
 unfold CZ at h
 refine AY (n := 90) (rs := [.tmp 10]) Tryz.func138 rfl rfl rfl (AZ rfl) (AZ rfl) rfl rfl (AZ rfl) rfl (AZ rfl) fun w0 S0 GL => ?_
 refine Am (sm [] [(0, .e (.one (.own 90000))), (1, .e (.one (.pure (.val (.int .i64 p1))))), (2, .e (.one (.pure (.val (.int .i64 p2))))), (3, .e (.one (.pure (.val (.int .i64 p3))))), (4, .e (.one (.clo (A0 (Cq true Ac true Ac) A8 p4))))] [(90000, .vec 3 (p0.map Ac))] rfl rfl) (Ab (Aa Ad rfl (qa rfl (Ae (Ab (Aa Ad rfl (qm rfl (qm rfl (qm rfl (qm rfl (qm rfl (qm rfl ?_))))))))))))
 obtain ⟨v1, a1, b1, h⟩ := Aj h
 refine qI A2 AN a1 (Ag b1) rfl (qJ Dp AN (Ag b1) rfl (qm rfl (qm rfl ?_)))
 obtain ⟨v2, a2, b2, h⟩ := Aj h
 refine qI A2 AN a2 (Ag b2) rfl (qJ Dp AN (Ag b2) rfl ?_)
 obtain ⟨v3, a3, b3, h⟩ := Aj h
 refine qI A2 AN a3 (Ag b3) rfl ?_
 refine AT rfl rfl rfl rfl (Ag b3) rfl AN rfl (AZ rfl) (AU Ac p0 _ v1) ?_
 obtain ⟨v4, a4, b4, h⟩ := Aj h
 refine qI A2 AN a4 (Ag b4) rfl ?_
 refine AT rfl rfl rfl rfl (Ag b4) rfl AN rfl (AZ rfl) (AU Ac (p0.set ((p1).toNat) v1) _ v2) ?_
 refine Az (by kernel_rfl) (Ab (Aa Ad rfl (qm rfl (AI rfl (qm rfl (Bb rfl (qa rfl (qa rfl (Ae (Ab ?_))))))))))
 refine AB (L := BJ N p1 p4) h (fun v5 => mk [(0, .e (.one (.own 90000))), (1, .e (.one (.pure (.val (.int .i64 p1))))), (4, .e (.one (.clo (A0 (Cq true Ac true Ac) A8 p4)))), (11, .e (.one (.pure (.val (.int .i64 v5.2.1))))), (12, .e (.one (.pure (.val (.int .i64 v5.2.2)))))] [(90000, .vec 3 (v5.1.map Ac))]) (fun v6 => mk [(11, .e (.one (.pure (.val (.int .i64 v6.2)))))] [(90000, .vec 3 (v6.1.map Ac))]) (fun _ _ => rfl) (sm [] _ _ rfl rfl) (fun j5 n5 v5 h => ?_) (fun v6 s h hs => ?_)
 ·unfold BJ at h
  refine AD (Ab ?_)
  refine AB (L := BL N p1 p4 v5) h (fun v7 => mk [(0, .e (.one (.own 90000))), (1, .e (.one (.pure (.val (.int .i64 p1))))), (4, .e (.one (.clo (A0 (Cq true Ac true Ac) A8 p4)))), (11, .e (.one (.pure (.val (.int .i64 v7))))), (12, .e (.one (.pure (.val (.int .i64 v5.2.2)))))] [(90000, .vec 3 (v5.1.map Ac))]) (fun v8 => mk [(0, .e (.one (.own 90000))), (1, .e (.one (.pure (.val (.int .i64 p1))))), (4, .e (.one (.clo (A0 (Cq true Ac true Ac) A8 p4)))), (11, .e (.one (.pure (.val (.int .i64 v8))))), (12, .e (.one (.pure (.val (.int .i64 v5.2.2)))))] [(90000, .vec 3 (v5.1.map Ac))]) (fun _ _ => rfl) (sm [] _ _ rfl rfl) (fun j7 n7 v7 h => ?_) (fun v8 s h hs => ?_)
  ·unfold BL at h
   refine Ab ?_
   refine AK h (fun v9 => mk [(0, .e (.one (.own 90000))), (1, .e (.one (.pure (.val (.int .i64 p1))))), (4, .e (.one (.clo (A0 (Cq true Ac true Ac) A8 p4)))), (11, .e (.one (.pure (.val (.int .i64 v7))))), (12, .e (.one (.pure (.val (.int .i64 v5.2.2))))), (47, .e (.one (.pure (.val (.bool v9)))))] [(90000, .vec 3 (v5.1.map Ac))]) (fun j9 h => ?_) (fun v9 h => ?_)
   ·refine Aa Ad rfl (qm rfl (qm rfl (Io rfl (qm rfl ?_))))
    refine AC (t := 34) rfl (fun c10 => ?_) (fun c10 => ?_)
    ·have h := An c10 h
     refine qm rfl (qm rfl (qm rfl ?_))
     obtain ⟨v11, a11, b11, h⟩ := Aj h
     refine qI A2 AN a11 (Ag b11) rfl (qJ Dp AN (Ag b11) rfl (qm rfl (qm rfl ?_)))
     obtain ⟨v12, a12, b12, h⟩ := Aj h
     refine qI A2 AN a12 (Ag b12) rfl (qJ Dp AN (Ag b12) rfl ?_)
     obtain ⟨v13, a13, h⟩ := bind_some h
     refine CK (ds0 := [_, _]) (ar := (Cq true Ac true Ac) ((v11, v12))) (.g rfl rfl) rfl rfl ⟨rfl, rfl, trivial⟩ rfl rfl rfl (CA (Dk _ _ _ _ A4 A4) a13) ?_
     refine AR rfl (CC rfl (qp rfl (Az (by kernel_rfl) ?_)))
     exact Av _ h (sm [] _ _ rfl rfl)
    ·have h := Ao c10 h
     refine qn rfl (qn rfl (qn rfl (qn rfl (qn rfl (qn rfl (qn rfl (qn rfl (qn rfl (qn rfl (qn rfl (qn rfl (qp rfl (Az (by kernel_rfl) ?_)))))))))))))
     exact Av _ h (sm [] _ _ rfl rfl)
   ·refine Ap rfl (fun c14 => ?_) (fun c14 => ?_)
    ·have h := An c14 h
     refine Aq (AD (Aa Ad rfl (qm rfl (AI rfl (qa rfl (Ae ?_))))))
     exact Av _ h (sm [] _ _ rfl rfl)
    ·have h := Ao c14 h
     refine AL ?_
     exact Av _ h (sm [] _ _ rfl rfl)
  ·refine Am hs (Ab ?_)
   refine AB (L := BG N p1 p4 v5 v8) h (fun v15 => mk [(0, .e (.one (.own 90000))), (1, .e (.one (.pure (.val (.int .i64 p1))))), (4, .e (.one (.clo (A0 (Cq true Ac true Ac) A8 p4)))), (11, .e (.one (.pure (.val (.int .i64 v8))))), (12, .e (.one (.pure (.val (.int .i64 v15)))))] [(90000, .vec 3 (v5.1.map Ac))]) (fun v16 => mk [(0, .e (.one (.own 90000))), (1, .e (.one (.pure (.val (.int .i64 p1))))), (4, .e (.one (.clo (A0 (Cq true Ac true Ac) A8 p4)))), (11, .e (.one (.pure (.val (.int .i64 v8))))), (12, .e (.one (.pure (.val (.int .i64 v16)))))] [(90000, .vec 3 (v5.1.map Ac))]) (fun _ _ => rfl) (sm [] _ _ rfl rfl) (fun j15 n15 v15 h => ?_) (fun v16 s h hs => ?_)
   ·unfold BG at h
    refine Ab ?_
    refine AK h (fun v17 => mk [(0, .e (.one (.own 90000))), (1, .e (.one (.pure (.val (.int .i64 p1))))), (4, .e (.one (.clo (A0 (Cq true Ac true Ac) A8 p4)))), (11, .e (.one (.pure (.val (.int .i64 v8))))), (12, .e (.one (.pure (.val (.int .i64 v15))))), (65, .e (.one (.pure (.val (.bool v17)))))] [(90000, .vec 3 (v5.1.map Ac))]) (fun j17 h => ?_) (fun v17 h => ?_)
    ·refine Aa Ad rfl (qm rfl (qm rfl (Io rfl (qm rfl ?_))))
     refine AC (t := 53) rfl (fun c18 => ?_) (fun c18 => ?_)
     ·have h := An c18 h
      refine qm rfl (qm rfl (qm rfl ?_))
      obtain ⟨v19, a19, b19, h⟩ := Aj h
      refine qI A2 AN a19 (Ag b19) rfl (qJ Dp AN (Ag b19) rfl (qm rfl (qm rfl ?_)))
      obtain ⟨v20, a20, b20, h⟩ := Aj h
      refine qI A2 AN a20 (Ag b20) rfl (qJ Dp AN (Ag b20) rfl ?_)
      obtain ⟨v21, a21, h⟩ := bind_some h
      refine CK (ds0 := [_, _]) (ar := (Cq true Ac true Ac) ((v19, v20))) (.g rfl rfl) rfl rfl ⟨rfl, rfl, trivial⟩ rfl rfl rfl (CA (Dk _ _ _ _ A4 A4) a21) ?_
      refine AR rfl (qp rfl (Az (by kernel_rfl) ?_))
      exact Av _ h (sm [] _ _ rfl rfl)
     ·have h := Ao c18 h
      refine qn rfl (qn rfl (qn rfl (qn rfl (qn rfl (qn rfl (qn rfl (qn rfl (qn rfl (qn rfl (qn rfl (qp rfl (Az (by kernel_rfl) ?_))))))))))))
      exact Av _ h (sm [] _ _ rfl rfl)
    ·refine Ap rfl (fun c22 => ?_) (fun c22 => ?_)
     ·have h := An c22 h
      refine Aq (AD (Aa Ad rfl (qm rfl (Bb rfl (qa rfl (Ae ?_))))))
      exact Av _ h (sm [] _ _ rfl rfl)
     ·have h := Ao c22 h
      refine AL ?_
      exact Av _ h (sm [] _ _ rfl rfl)
   ·refine Am hs (Ab (Ab (Aa Ad rfl (qm rfl (qm rfl (EA rfl (Ae ?_)))))))
    refine Ap rfl (fun c23 => ?_) (fun c23 => ?_)
    ·have h := An c23 h
     refine AL ?_
     exact Av _ h (sm [] _ _ rfl rfl)
    ·have h := Ao c23 h
     refine Aq (Ab (Aa Ad rfl (qm rfl (qm rfl (qm rfl (qm rfl (qm rfl (qm rfl ?_))))))))
     obtain ⟨v24, a24, b24, h⟩ := Aj h
     refine qI A2 AN a24 (Ag b24) rfl (qJ Dp AN (Ag b24) rfl (qm rfl (qm rfl ?_)))
     obtain ⟨v25, a25, b25, h⟩ := Aj h
     refine qI A2 AN a25 (Ag b25) rfl (qJ Dp AN (Ag b25) rfl ?_)
     obtain ⟨v26, a26, b26, h⟩ := Aj h
     refine qI A2 AN a26 (Ag b26) rfl ?_
     refine AT rfl rfl rfl rfl (Ag b26) rfl AN rfl (AZ rfl) (AU Ac v5.1 _ v24) ?_
     obtain ⟨v27, a27, b27, h⟩ := Aj h
     refine qI A2 AN a27 (Ag b27) rfl ?_
     refine AT rfl rfl rfl rfl (Ag b27) rfl AN rfl (AZ rfl) (AU Ac (v5.1.set ((v8).toNat) v24) _ v25) ?_
     refine Az (by kernel_rfl) (Ab (Aa Ad rfl (qm rfl (AI rfl (qa rfl (Ae (Aa Ad rfl (qm rfl (Bb rfl (qa rfl (Ae ?_)))))))))))
     exact Av _ h (sm [] _ _ rfl rfl)
 ·refine Am hs (Ab (Aa Ad rfl (qm rfl (qa rfl (Ae ?_)))))
  obtain rfl := sj h
  refine Am (sm [] [(10, .e (.one (.pure (.val (.int .i64 v6.2)))))] [(90000, .vec 3 (v6.1.map Ac))] rfl rfl) (Ax ?_)
  exact ⟨⟨[_], ⟨.tmp _ _ rfl, trivial⟩, rfl⟩, ⟨rfl, trivial⟩, trivial⟩
set_option maxRecDepth 10000 in
theorem Gm (N : Nat) (p0 : List Af) (p1 : Int) (p2 : Int) (p3 : Int) (p4 : (Af × Af) → Option Int) (r : Int × Bool × (List Af)) (h : Dt N p0 p1 p2 p3 p4 = some r) : A9 Tryz.prog 139 [.e (.one (.own 90000)), .e (.one (.pure (.val (.int .i64 p1)))), .e (.one (.pure (.val (.int .i64 p2)))), .e (.one (.pure (.val (.int .i64 p3)))), .e (.one (.clo (A0 (Cq true Ac true Ac) A8 p4)))] [(.vec 3 (p0.map Ac), .vec 3 (r.2.2.map Ac))] [] (.tup [.one (.pure (.val (.int .i64 r.1))), .one (.pure (.val (.bool r.2.1)))]) := by
 unfold Dt at h
 refine AY (n := 178) (rs := [.tmp 10, .tmp 11]) Tryz.func139 rfl rfl rfl (AZ rfl) (AZ rfl) rfl rfl (AZ rfl) rfl (AZ rfl) fun w0 S0 GL => ?_
 refine Am (sm [] [(0, .e (.one (.own 90000))), (1, .e (.one (.pure (.val (.int .i64 p1))))), (2, .e (.one (.pure (.val (.int .i64 p2))))), (3, .e (.one (.pure (.val (.int .i64 p3))))), (4, .e (.one (.clo (A0 (Cq true Ac true Ac) A8 p4))))] [(90000, .vec 3 (p0.map Ac))] rfl rfl) (Ab (Aa Ad rfl (qa rfl (qa rfl (Ae (Ab (Aa Ad rfl (qm rfl (qm rfl (qm rfl (qm rfl (qm rfl (qm rfl ?_)))))))))))))
 obtain ⟨v1, a1, b1, h⟩ := Aj h
 refine qI A2 AN a1 (Ag b1) rfl (qJ Dp AN (Ag b1) rfl (qm rfl (qm rfl ?_)))
 obtain ⟨v2, a2, b2, h⟩ := Aj h
 refine qI A2 AN a2 (Ag b2) rfl (qJ Dp AN (Ag b2) rfl ?_)
 obtain ⟨v3, a3, b3, h⟩ := Aj h
 refine qI A2 AN a3 (Ag b3) rfl ?_
 refine AT rfl rfl rfl rfl (Ag b3) rfl AN rfl (AZ rfl) (AU Ac p0 _ v1) ?_
 obtain ⟨v4, a4, b4, h⟩ := Aj h
 refine qI A2 AN a4 (Ag b4) rfl ?_
 refine AT rfl rfl rfl rfl (Ag b4) rfl AN rfl (AZ rfl) (AU Ac (p0.set ((p1).toNat) v1) _ v2) ?_
 refine Az (by kernel_rfl) (Ab (Aa Ad rfl (qm rfl (AI rfl (qm rfl (Bb rfl (qa rfl (qa rfl (Ae (Ab ?_))))))))))
 refine AB (L := Cb N p0 p1 p2 p3 p4 v1 v2) h (fun v5 => mk [(0, .e (.one (.own 90000))), (1, .e (.one (.pure (.val (.int .i64 p1))))), (4, .e (.one (.clo (A0 (Cq true Ac true Ac) A8 p4)))), (12, .e (.one (.pure (.val (.int .i64 v5))))), (13, .e (.one (.pure (.val (.int .i64 ((IntKind.wrap .i64 (p2 - 1))))))))] [(90000, .vec 3 (((p0.set ((p1).toNat) v1).set ((p3).toNat) v2).map Ac))]) (fun v6 => mk [(0, .e (.one (.own 90000))), (1, .e (.one (.pure (.val (.int .i64 p1))))), (4, .e (.one (.clo (A0 (Cq true Ac true Ac) A8 p4)))), (12, .e (.one (.pure (.val (.int .i64 v6))))), (13, .e (.one (.pure (.val (.int .i64 ((IntKind.wrap .i64 (p2 - 1))))))))] [(90000, .vec 3 (((p0.set ((p1).toNat) v1).set ((p3).toNat) v2).map Ac))]) (fun _ _ => rfl) (sm [] _ _ rfl rfl) (fun j5 n5 v5 h => ?_) (fun v6 s h hs => ?_)
 ·unfold Cb at h
  refine Ab ?_
  refine AK h (fun v7 => mk [(0, .e (.one (.own 90000))), (1, .e (.one (.pure (.val (.int .i64 p1))))), (4, .e (.one (.clo (A0 (Cq true Ac true Ac) A8 p4)))), (12, .e (.one (.pure (.val (.int .i64 v5))))), (13, .e (.one (.pure (.val (.int .i64 ((IntKind.wrap .i64 (p2 - 1)))))))), (47, .e (.one (.pure (.val (.bool v7)))))] [(90000, .vec 3 (((p0.set ((p1).toNat) v1).set ((p3).toNat) v2).map Ac))]) (fun j7 h => ?_) (fun v7 h => ?_)
  ·refine Aa Ad rfl (qm rfl (qm rfl (Io rfl (qm rfl ?_))))
   refine AC (t := 35) rfl (fun c8 => ?_) (fun c8 => ?_)
   ·have h := An c8 h
    refine qm rfl (qm rfl (qm rfl ?_))
    obtain ⟨v9, a9, b9, h⟩ := Aj h
    refine qI A2 AN a9 (Ag b9) rfl (qJ Dp AN (Ag b9) rfl (qm rfl (qm rfl ?_)))
    obtain ⟨v10, a10, b10, h⟩ := Aj h
    refine qI A2 AN a10 (Ag b10) rfl (qJ Dp AN (Ag b10) rfl ?_)
    obtain ⟨v11, a11, h⟩ := bind_some h
    refine CK (ds0 := [_, _]) (ar := (Cq true Ac true Ac) ((v9, v10))) (.g rfl rfl) rfl rfl ⟨rfl, rfl, trivial⟩ rfl rfl rfl (CA (Dk _ _ _ _ A4 A4) a11) ?_
    refine AR rfl (qp rfl (Az (by kernel_rfl) ?_))
    exact Av _ h (sm [] _ _ rfl rfl)
   ·have h := Ao c8 h
    refine qn rfl (qn rfl (qn rfl (qn rfl (qn rfl (qn rfl (qn rfl (qn rfl (qn rfl (qn rfl (qn rfl (qp rfl (Az (by kernel_rfl) ?_))))))))))))
    exact Av _ h (sm [] _ _ rfl rfl)
  ·refine Ap rfl (fun c12 => ?_) (fun c12 => ?_)
   ·have h := An c12 h
    refine Aq (AD (Aa Ad rfl (qm rfl (AI rfl (qa rfl (Ae ?_))))))
    exact Av _ h (sm [] _ _ rfl rfl)
   ·have h := Ao c12 h
    refine AL ?_
    exact Av _ h (sm [] _ _ rfl rfl)
 ·refine Am hs (Ab ?_)
  refine AB (L := B0 N p0 p1 p3 p4 v1 v2 v6) h (fun v13 => mk [(0, .e (.one (.own 90000))), (1, .e (.one (.pure (.val (.int .i64 p1))))), (4, .e (.one (.clo (A0 (Cq true Ac true Ac) A8 p4)))), (12, .e (.one (.pure (.val (.int .i64 v6))))), (13, .e (.one (.pure (.val (.int .i64 v13)))))] [(90000, .vec 3 (((p0.set ((p1).toNat) v1).set ((p3).toNat) v2).map Ac))]) (fun v14 => mk [(0, .e (.one (.own 90000))), (1, .e (.one (.pure (.val (.int .i64 p1))))), (4, .e (.one (.clo (A0 (Cq true Ac true Ac) A8 p4)))), (12, .e (.one (.pure (.val (.int .i64 v6))))), (13, .e (.one (.pure (.val (.int .i64 v14)))))] [(90000, .vec 3 (((p0.set ((p1).toNat) v1).set ((p3).toNat) v2).map Ac))]) (fun _ _ => rfl) (sm [] _ _ rfl rfl) (fun j13 n13 v13 h => ?_) (fun v14 s h hs => ?_)
  ·unfold B0 at h
   refine Ab ?_
   refine AK h (fun v15 => mk [(0, .e (.one (.own 90000))), (1, .e (.one (.pure (.val (.int .i64 p1))))), (4, .e (.one (.clo (A0 (Cq true Ac true Ac) A8 p4)))), (12, .e (.one (.pure (.val (.int .i64 v6))))), (13, .e (.one (.pure (.val (.int .i64 v13))))), (66, .e (.one (.pure (.val (.bool v15)))))] [(90000, .vec 3 (((p0.set ((p1).toNat) v1).set ((p3).toNat) v2).map Ac))]) (fun j15 h => ?_) (fun v15 h => ?_)
   ·refine Aa Ad rfl (qm rfl (qm rfl (Io rfl (qm rfl ?_))))
    refine AC (t := 53) rfl (fun c16 => ?_) (fun c16 => ?_)
    ·have h := An c16 h
     refine qm rfl (qm rfl (qm rfl ?_))
     obtain ⟨v17, a17, b17, h⟩ := Aj h
     refine qI A2 AN a17 (Ag b17) rfl (qJ Dp AN (Ag b17) rfl (qm rfl (qm rfl ?_)))
     obtain ⟨v18, a18, b18, h⟩ := Aj h
     refine qI A2 AN a18 (Ag b18) rfl (qJ Dp AN (Ag b18) rfl ?_)
     obtain ⟨v19, a19, h⟩ := bind_some h
     refine CK (ds0 := [_, _]) (ar := (Cq true Ac true Ac) ((v17, v18))) (.g rfl rfl) rfl rfl ⟨rfl, rfl, trivial⟩ rfl rfl rfl (CA (Dk _ _ _ _ A4 A4) a19) ?_
     refine AR rfl (CC rfl (qp rfl (Az (by kernel_rfl) ?_)))
     exact Av _ h (sm [] _ _ rfl rfl)
    ·have h := Ao c16 h
     refine qn rfl (qn rfl (qn rfl (qn rfl (qn rfl (qn rfl (qn rfl (qn rfl (qn rfl (qn rfl (qn rfl (qn rfl (qp rfl (Az (by kernel_rfl) ?_)))))))))))))
     exact Av _ h (sm [] _ _ rfl rfl)
   ·refine Ap rfl (fun c20 => ?_) (fun c20 => ?_)
    ·have h := An c20 h
     refine Aq (AD (Aa Ad rfl (qm rfl (Bb rfl (qa rfl (Ae ?_))))))
     exact Av _ h (sm [] _ _ rfl rfl)
    ·have h := Ao c20 h
     refine AL ?_
     exact Av _ h (sm [] _ _ rfl rfl)
  ·refine Am hs (Ab (Ab (Aa Ad rfl (qm rfl (qm rfl (EA rfl (Ae ?_)))))))
   refine Ap rfl (fun c21 => ?_) (fun c21 => ?_)
   ·have h := An c21 h
    refine Ab (Aa Ad rfl (qm rfl (qm rfl (qm rfl (qm rfl (qm rfl (qm rfl ?_)))))))
    obtain ⟨v22, a22, b22, h⟩ := Aj h
    refine qI A2 AN a22 (Ag b22) rfl (qJ Dp AN (Ag b22) rfl (qm rfl (qm rfl ?_)))
    obtain ⟨v23, a23, b23, h⟩ := Aj h
    refine qI A2 AN a23 (Ag b23) rfl (qJ Dp AN (Ag b23) rfl ?_)
    obtain ⟨v24, a24, b24, h⟩ := Aj h
    refine qI A2 AN a24 (Ag b24) rfl ?_
    refine AT rfl rfl rfl rfl (Ag b24) rfl AN rfl (AZ rfl) (AU Ac ((p0.set ((p1).toNat) v1).set ((p3).toNat) v2) _ v22) ?_
    obtain ⟨v25, a25, b25, h⟩ := Aj h
    refine qI A2 AN a25 (Ag b25) rfl ?_
    refine AT rfl rfl rfl rfl (Ag b25) rfl AN rfl (AZ rfl) (AU Ac (((p0.set ((p1).toNat) v1).set ((p3).toNat) v2).set ((v14).toNat) v22) _ v23) ?_
    refine Az (by kernel_rfl) (Ab (Aa Ad rfl (qm rfl (qa rfl (qa rfl (Ae ?_))))))
    obtain rfl := sj h
    refine Am (sm [] [(10, .e (.one (.pure (.val (.int .i64 v14))))), (11, .e (.one (.pure (.val (.bool true)))))] [(90000, .vec 3 (((((p0.set ((p1).toNat) v1).set ((p3).toNat) v2).set ((v14).toNat) v22).set ((p1).toNat) v23).map Ac))] rfl rfl) (Ax ?_)
    exact ⟨⟨[_, _], ⟨.tmp _ _ rfl, ⟨.tmp _ _ rfl, trivial⟩⟩, rfl⟩, ⟨rfl, trivial⟩, trivial⟩
   ·have h := Ao c21 h
    refine Aq (Ab (Aa Ad rfl (qm rfl (qm rfl (qm rfl (qm rfl (qm rfl (qm rfl ?_))))))))
    obtain ⟨v26, a26, b26, h⟩ := Aj h
    refine qI A2 AN a26 (Ag b26) rfl (qJ Dp AN (Ag b26) rfl (qm rfl (qm rfl ?_)))
    obtain ⟨v27, a27, b27, h⟩ := Aj h
    refine qI A2 AN a27 (Ag b27) rfl (qJ Dp AN (Ag b27) rfl ?_)
    obtain ⟨v28, a28, b28, h⟩ := Aj h
    refine qI A2 AN a28 (Ag b28) rfl ?_
    refine AT rfl rfl rfl rfl (Ag b28) rfl AN rfl (AZ rfl) (AU Ac ((p0.set ((p1).toNat) v1).set ((p3).toNat) v2) _ v26) ?_
    obtain ⟨v29, a29, b29, h⟩ := Aj h
    refine qI A2 AN a29 (Ag b29) rfl ?_
    refine AT rfl rfl rfl rfl (Ag b29) rfl AN rfl (AZ rfl) (AU Ac (((p0.set ((p1).toNat) v1).set ((p3).toNat) v2).set ((v6).toNat) v26) _ v27) ?_
    refine Az (by kernel_rfl) (Ab (Aa Ad rfl (qm rfl (AI rfl (qa rfl (Ae (Ab (Aa Ad rfl (qm rfl (Bb rfl (qa rfl (Ae (Ab ?_)))))))))))))
    refine AB (L := B3 N p1 p4) h (fun v30 => mk [(0, .e (.one (.own 90000))), (1, .e (.one (.pure (.val (.int .i64 p1))))), (4, .e (.one (.clo (A0 (Cq true Ac true Ac) A8 p4)))), (12, .e (.one (.pure (.val (.int .i64 v30.2.1))))), (13, .e (.one (.pure (.val (.int .i64 v30.2.2)))))] [(90000, .vec 3 (v30.1.map Ac))]) (fun v31 => mk [(0, .e (.one (.own 90000))), (1, .e (.one (.pure (.val (.int .i64 p1))))), (13, .e (.one (.pure (.val (.int .i64 v31.2)))))] [(90000, .vec 3 (v31.1.map Ac))]) (fun _ _ => rfl) (sm [] _ _ rfl rfl) (fun j30 n30 v30 h => ?_) (fun v31 s h hs => ?_)
    ·unfold B3 at h
     refine AD (Ab ?_)
     refine AB (L := B1 N p1 p4 v30) h (fun v32 => mk [(0, .e (.one (.own 90000))), (1, .e (.one (.pure (.val (.int .i64 p1))))), (4, .e (.one (.clo (A0 (Cq true Ac true Ac) A8 p4)))), (12, .e (.one (.pure (.val (.int .i64 v32))))), (13, .e (.one (.pure (.val (.int .i64 v30.2.2)))))] [(90000, .vec 3 (v30.1.map Ac))]) (fun v33 => mk [(0, .e (.one (.own 90000))), (1, .e (.one (.pure (.val (.int .i64 p1))))), (4, .e (.one (.clo (A0 (Cq true Ac true Ac) A8 p4)))), (12, .e (.one (.pure (.val (.int .i64 v33))))), (13, .e (.one (.pure (.val (.int .i64 v30.2.2)))))] [(90000, .vec 3 (v30.1.map Ac))]) (fun _ _ => rfl) (sm [] _ _ rfl rfl) (fun j32 n32 v32 h => ?_) (fun v33 s h hs => ?_)
     ·unfold B1 at h
      refine Ab ?_
      refine AK h (fun v34 => mk [(0, .e (.one (.own 90000))), (1, .e (.one (.pure (.val (.int .i64 p1))))), (4, .e (.one (.clo (A0 (Cq true Ac true Ac) A8 p4)))), (12, .e (.one (.pure (.val (.int .i64 v32))))), (13, .e (.one (.pure (.val (.int .i64 v30.2.2))))), (120, .e (.one (.pure (.val (.bool v34)))))] [(90000, .vec 3 (v30.1.map Ac))]) (fun j34 h => ?_) (fun v34 h => ?_)
      ·refine Aa Ad rfl (qm rfl (qm rfl (Io rfl (qm rfl ?_))))
       refine AC (t := 108) rfl (fun c35 => ?_) (fun c35 => ?_)
       ·have h := An c35 h
        refine qm rfl (qm rfl (qm rfl ?_))
        obtain ⟨v36, a36, b36, h⟩ := Aj h
        refine qI A2 AN a36 (Ag b36) rfl (qJ Dp AN (Ag b36) rfl (qm rfl (qm rfl ?_)))
        obtain ⟨v37, a37, b37, h⟩ := Aj h
        refine qI A2 AN a37 (Ag b37) rfl (qJ Dp AN (Ag b37) rfl ?_)
        obtain ⟨v38, a38, h⟩ := bind_some h
        refine CK (ds0 := [_, _]) (ar := (Cq true Ac true Ac) ((v36, v37))) (.g rfl rfl) rfl rfl ⟨rfl, rfl, trivial⟩ rfl rfl rfl (CA (Dk _ _ _ _ A4 A4) a38) ?_
        refine AR rfl (qp rfl (Az (by kernel_rfl) ?_))
        exact Av _ h (sm [] _ _ rfl rfl)
       ·have h := Ao c35 h
        refine qn rfl (qn rfl (qn rfl (qn rfl (qn rfl (qn rfl (qn rfl (qn rfl (qn rfl (qn rfl (qn rfl (qp rfl (Az (by kernel_rfl) ?_))))))))))))
        exact Av _ h (sm [] _ _ rfl rfl)
      ·refine Ap rfl (fun c39 => ?_) (fun c39 => ?_)
       ·have h := An c39 h
        refine Aq (AD (Aa Ad rfl (qm rfl (AI rfl (qa rfl (Ae ?_))))))
        exact Av _ h (sm [] _ _ rfl rfl)
       ·have h := Ao c39 h
        refine AL ?_
        exact Av _ h (sm [] _ _ rfl rfl)
     ·refine Am hs (Ab ?_)
      refine AB (L := B2 N p1 p4 v30 v33) h (fun v40 => mk [(0, .e (.one (.own 90000))), (1, .e (.one (.pure (.val (.int .i64 p1))))), (4, .e (.one (.clo (A0 (Cq true Ac true Ac) A8 p4)))), (12, .e (.one (.pure (.val (.int .i64 v33))))), (13, .e (.one (.pure (.val (.int .i64 v40)))))] [(90000, .vec 3 (v30.1.map Ac))]) (fun v41 => mk [(0, .e (.one (.own 90000))), (1, .e (.one (.pure (.val (.int .i64 p1))))), (4, .e (.one (.clo (A0 (Cq true Ac true Ac) A8 p4)))), (12, .e (.one (.pure (.val (.int .i64 v33))))), (13, .e (.one (.pure (.val (.int .i64 v41)))))] [(90000, .vec 3 (v30.1.map Ac))]) (fun _ _ => rfl) (sm [] _ _ rfl rfl) (fun j40 n40 v40 h => ?_) (fun v41 s h hs => ?_)
      ·unfold B2 at h
       refine Ab ?_
       refine AK h (fun v42 => mk [(0, .e (.one (.own 90000))), (1, .e (.one (.pure (.val (.int .i64 p1))))), (4, .e (.one (.clo (A0 (Cq true Ac true Ac) A8 p4)))), (12, .e (.one (.pure (.val (.int .i64 v33))))), (13, .e (.one (.pure (.val (.int .i64 v40))))), (139, .e (.one (.pure (.val (.bool v42)))))] [(90000, .vec 3 (v30.1.map Ac))]) (fun j42 h => ?_) (fun v42 h => ?_)
       ·refine Aa Ad rfl (qm rfl (qm rfl (Io rfl (qm rfl ?_))))
        refine AC (t := 126) rfl (fun c43 => ?_) (fun c43 => ?_)
        ·have h := An c43 h
         refine qm rfl (qm rfl (qm rfl ?_))
         obtain ⟨v44, a44, b44, h⟩ := Aj h
         refine qI A2 AN a44 (Ag b44) rfl (qJ Dp AN (Ag b44) rfl (qm rfl (qm rfl ?_)))
         obtain ⟨v45, a45, b45, h⟩ := Aj h
         refine qI A2 AN a45 (Ag b45) rfl (qJ Dp AN (Ag b45) rfl ?_)
         obtain ⟨v46, a46, h⟩ := bind_some h
         refine CK (ds0 := [_, _]) (ar := (Cq true Ac true Ac) ((v44, v45))) (.g rfl rfl) rfl rfl ⟨rfl, rfl, trivial⟩ rfl rfl rfl (CA (Dk _ _ _ _ A4 A4) a46) ?_
         refine AR rfl (CC rfl (qp rfl (Az (by kernel_rfl) ?_)))
         exact Av _ h (sm [] _ _ rfl rfl)
        ·have h := Ao c43 h
         refine qn rfl (qn rfl (qn rfl (qn rfl (qn rfl (qn rfl (qn rfl (qn rfl (qn rfl (qn rfl (qn rfl (qn rfl (qp rfl (Az (by kernel_rfl) ?_)))))))))))))
         exact Av _ h (sm [] _ _ rfl rfl)
       ·refine Ap rfl (fun c47 => ?_) (fun c47 => ?_)
        ·have h := An c47 h
         refine Aq (AD (Aa Ad rfl (qm rfl (Bb rfl (qa rfl (Ae ?_))))))
         exact Av _ h (sm [] _ _ rfl rfl)
        ·have h := Ao c47 h
         refine AL ?_
         exact Av _ h (sm [] _ _ rfl rfl)
      ·refine Am hs (Ab (Ab (Aa Ad rfl (qm rfl (qm rfl (EA rfl (Ae ?_)))))))
       refine Ap rfl (fun c48 => ?_) (fun c48 => ?_)
       ·have h := An c48 h
        refine AL ?_
        exact Av _ h (sm [] _ _ rfl rfl)
       ·have h := Ao c48 h
        refine Aq (Ab (Aa Ad rfl (qm rfl (qm rfl (qm rfl (qm rfl (qm rfl (qm rfl ?_))))))))
        obtain ⟨v49, a49, b49, h⟩ := Aj h
        refine qI A2 AN a49 (Ag b49) rfl (qJ Dp AN (Ag b49) rfl (qm rfl (qm rfl ?_)))
        obtain ⟨v50, a50, b50, h⟩ := Aj h
        refine qI A2 AN a50 (Ag b50) rfl (qJ Dp AN (Ag b50) rfl ?_)
        obtain ⟨v51, a51, b51, h⟩ := Aj h
        refine qI A2 AN a51 (Ag b51) rfl ?_
        refine AT rfl rfl rfl rfl (Ag b51) rfl AN rfl (AZ rfl) (AU Ac v30.1 _ v49) ?_
        obtain ⟨v52, a52, b52, h⟩ := Aj h
        refine qI A2 AN a52 (Ag b52) rfl ?_
        refine AT rfl rfl rfl rfl (Ag b52) rfl AN rfl (AZ rfl) (AU Ac (v30.1.set ((v33).toNat) v49) _ v50) ?_
        refine Az (by kernel_rfl) (Ab (Aa Ad rfl (qm rfl (AI rfl (qa rfl (Ae (Aa Ad rfl (qm rfl (Bb rfl (qa rfl (Ae ?_)))))))))))
        exact Av _ h (sm [] _ _ rfl rfl)
    ·refine Am hs (Ab (Aa Ad rfl (qm rfl (qm rfl (qm rfl (qm rfl (qm rfl (qm rfl ?_))))))))
     obtain ⟨v53, a53, b53, h⟩ := Aj h
     refine qI A2 AN a53 (Ag b53) rfl (qJ Dp AN (Ag b53) rfl (qm rfl (qm rfl ?_)))
     obtain ⟨v54, a54, b54, h⟩ := Aj h
     refine qI A2 AN a54 (Ag b54) rfl (qJ Dp AN (Ag b54) rfl ?_)
     obtain ⟨v55, a55, b55, h⟩ := Aj h
     refine qI A2 AN a55 (Ag b55) rfl ?_
     refine AT rfl rfl rfl rfl (Ag b55) rfl AN rfl (AZ rfl) (AU Ac v31.1 _ v53) ?_
     obtain ⟨v56, a56, b56, h⟩ := Aj h
     refine qI A2 AN a56 (Ag b56) rfl ?_
     refine AT rfl rfl rfl rfl (Ag b56) rfl AN rfl (AZ rfl) (AU Ac (v31.1.set ((v31.2).toNat) v53) _ v54) ?_
     refine Az (by kernel_rfl) (Ab (Aa Ad rfl (qm rfl (qa rfl (qa rfl (Ae ?_))))))
     obtain rfl := sj h
     refine Am (sm [] [(10, .e (.one (.pure (.val (.int .i64 v31.2))))), (11, .e (.one (.pure (.val (.bool false)))))] [(90000, .vec 3 (((v31.1.set ((v31.2).toNat) v53).set ((p1).toNat) v54).map Ac))] rfl rfl) (Ax ?_)
     exact ⟨⟨[_, _], ⟨.tmp _ _ rfl, ⟨.tmp _ _ rfl, trivial⟩⟩, rfl⟩, ⟨rfl, trivial⟩, trivial⟩
set_option maxRecDepth 10000 in
theorem Gs (N : Nat) (rc : (List Af) → Int → Int → Int → ((Af × Af) → Option Int) → Option ((List Af))) (hrc : ∀ (p0 : List Af) (p1 : Int) (p2 : Int) (p3 : Int) (p4 : (Af × Af) → Option Int) (r : (List Af)), rc p0 p1 p2 p3 p4 = some r → A9 Tryz.prog 104 [.e (.one (.own 90000)), .e (.one (.pure (.val (.int .i64 p1)))), .e (.one (.pure (.val (.int .i64 p2)))), .e (.one (.pure (.val (.int .i64 p3)))), .e (.one (.clo (A0 (Cq true Ac true Ac) A8 p4)))] [(.vec 3 (p0.map Ac), .vec 3 (r.map Ac))] [] (.tup [])) (p0 : List Af) (p1 : Int) (p2 : Int) (p3 : Int) (p4 : (Af × Af) → Option Int) (r : (List Af)) (h : Dr N rc p0 p1 p2 p3 p4 = some r) : A9 Tryz.prog 104 [.e (.one (.own 90000)), .e (.one (.pure (.val (.int .i64 p1)))), .e (.one (.pure (.val (.int .i64 p2)))), .e (.one (.pure (.val (.int .i64 p3)))), .e (.one (.clo (A0 (Cq true Ac true Ac) A8 p4)))] [(.vec 3 (p0.map Ac), .vec 3 (r.map Ac))] [] (.tup []) := by
 unfold Dr at h
 refine AY (n := 148) (rs := []) Tryz.func104 rfl rfl rfl (AZ rfl) (AZ rfl) rfl rfl (AZ rfl) rfl (AZ rfl) fun w0 S0 GL => I4 ?_
 refine Am (sm [] [(0, .e (.one (.own 90000))), (1, .e (.one (.pure (.val (.int .i64 p1))))), (2, .e (.one (.pure (.val (.int .i64 p2))))), (3, .e (.one (.pure (.val (.int .i64 p3))))), (4, .e (.one (.clo (A0 (Cq true Ac true Ac) A8 p4))))] [(90000, .vec 3 (p0.map Ac))] rfl rfl) (Ab (Aa Ad rfl (qa rfl (Ae (Ab (Aa Ad rfl (qa rfl (Ae ?_))))))))
 refine AB (L := Be N p4 rc) h (fun v1 => mk [(0, .e (.one (.own 90000))), (1, .e (.one (.pure (.val (.int .i64 v1.2.1))))), (2, .e (.one (.pure (.val (.int .i64 v1.2.2.1))))), (3, .e (.one (.pure (.val (.int .i64 v1.2.2.2.1))))), (4, .e (.one (.clo (A0 (Cq true Ac true Ac) A8 p4)))), (10, .e (.one (.pure (.val (.bool v1.2.2.2.2.1))))), (11, .e (.one (.pure (.val (.bool v1.2.2.2.2.2)))))] [(90000, .vec 3 (v1.1.map Ac))]) (fun v2 => mk [] []) (fun _ _ => rfl) (sm [] _ _ rfl rfl) (fun j1 n1 v1 h => ?_) (fun v2 s h hs => ?_)
 ·unfold Be at h
  refine AD (Ab (Aa Ad rfl (qm rfl (qm rfl (Bb rfl (qa rfl (Ae (Ab (Ab (Aa Ad rfl (qm rfl (Io rfl (Ae ?_)))))))))))))
  refine Ap rfl (fun c3 => ?_) (fun c3 => ?_)
  ·have h := An c3 h
   refine Ab (Aa Ad rfl (qm rfl (qm rfl (qm rfl (qm rfl ?_)))))
   obtain ⟨v4, a4, h⟩ := bind_some h
   refine Bp (ds0 := [_, _, _, _]) [90000] [] [true] (FW N v1.1 v1.2.1 v1.2.2.1 p4 v4 a4) (.p rfl) Vc rfl ⟨rfl, rfl, rfl, rfl, trivial⟩ rfl rfl (by decide) ⟨rfl, trivial⟩ rfl (AM rfl) trivial ⟨(fun h => by cases h), trivial⟩ rfl rfl rfl ?_
   refine Ae ?_
   obtain rfl := sj h
   refine Ax ⟨_, (sm [] [] [(90000, .vec 3 (v4.map Ac))] rfl rfl), ?_⟩
   exact ⟨⟨[], trivial, rfl⟩, ⟨rfl, trivial⟩, trivial⟩
  ·have h := Ao c3 h
   refine Aq (Ab (Ab (Aa Ad rfl (qm rfl (Cp rfl (Ae ?_))))))
   refine Ap rfl (fun c5 => ?_) (fun c5 => ?_)
   ·have h := An c5 h
    refine Ab (Aa Ad rfl (qm rfl (qm rfl (qm rfl (qm rfl ?_)))))
    obtain ⟨v6, a6, h⟩ := bind_some h
    refine Bp (ds0 := [_, _, _, _]) [90000] [] [true] (GF N v1.1 v1.2.1 v1.2.2.1 p4 v6 a6) (.p rfl) Vk rfl ⟨rfl, rfl, rfl, rfl, trivial⟩ rfl rfl (by decide) ⟨rfl, trivial⟩ rfl (AM rfl) trivial ⟨(fun h => by cases h), trivial⟩ rfl rfl rfl ?_
    refine Ae ?_
    obtain rfl := sj h
    refine Ax ⟨_, (sm [] [] [(90000, .vec 3 (v6.map Ac))] rfl rfl), ?_⟩
    exact ⟨⟨[], trivial, rfl⟩, ⟨rfl, trivial⟩, trivial⟩
   ·have h := Ao c5 h
    refine Aq ?_
    refine AK h (fun v7 => mk [(0, .e (.one (.own 90000))), (1, .e (.one (.pure (.val (.int .i64 v1.2.1))))), (2, .e (.one (.pure (.val (.int .i64 v1.2.2.1))))), (3, .e (.one (.pure (.val (.int .i64 v7.2))))), (4, .e (.one (.clo (A0 (Cq true Ac true Ac) A8 p4)))), (10, .e (.one (.pure (.val (.bool v1.2.2.2.2.1))))), (11, .e (.one (.pure (.val (.bool v1.2.2.2.2.2))))), (12, .e (.one (.pure (.val (.int .i64 ((IntKind.wrap .i64 (v1.2.2.1 - v1.2.1))))))))] [(90000, .vec 3 (v7.1.map Ac))]) (fun j7 h => ?_) (fun v7 h => ?_)
    ·refine Ab (Aa Ad rfl (qm rfl (CC rfl (Ae ?_))))
     refine Ap rfl (fun c8 => ?_) (fun c8 => ?_)
     ·have h := An c8 h
      refine Ab (Aa Ad rfl (qm rfl (qm rfl (qm rfl (qm rfl ?_)))))
      obtain ⟨v9, a9, h⟩ := bind_some h
      refine Bp (ds0 := [_, _, _, _]) [90000] [] [true] (FV N v1.1 v1.2.1 v1.2.2.1 p4 v9 a9) (.p rfl) VM rfl ⟨rfl, rfl, rfl, rfl, trivial⟩ rfl rfl (by decide) ⟨rfl, trivial⟩ rfl (AM rfl) trivial ⟨(fun h => by cases h), trivial⟩ rfl rfl rfl ?_
      refine Ae (Aa Ad rfl (qm rfl (Bb rfl (qa rfl (Ae ?_)))))
      exact Av _ h (sm [] _ _ rfl rfl)
     ·have h := Ao c8 h
      refine Aq ?_
      exact Av _ h (sm [] _ _ rfl rfl)
    ·refine Ab (Aa Ad rfl (qm rfl (qm rfl (qm rfl (qm rfl ?_)))))
     obtain ⟨v10, a10, h⟩ := bind_some h
     refine DE [] [90000] (F9 N v7.1 v1.2.1 v1.2.2.1 p4 v10 a10) UV Cf rfl (qm rfl (qx rfl (qx rfl (qa rfl (qa rfl (Ae ?_))))))
     refine AK h (fun v11 => mk [(0, .e (.one (.own 90000))), (1, .e (.one (.pure (.val (.int .i64 v1.2.1))))), (2, .e (.one (.pure (.val (.int .i64 v1.2.2.1))))), (3, .e (.one (.pure (.val (.int .i64 v7.2))))), (4, .e (.one (.clo (A0 (Cq true Ac true Ac) A8 p4)))), (10, .e (.one (.pure (.val (.bool v1.2.2.2.2.1))))), (11, .e (.one (.pure (.val (.bool v1.2.2.2.2.2))))), (12, .e (.one (.pure (.val (.int .i64 ((IntKind.wrap .i64 (v1.2.2.1 - v1.2.1)))))))), (13, .e (.one (.pure (.val (.int .i64 v11.2.1))))), (14, .e (.one (.pure (.val (.int .i64 v11.2.2)))))] [(90000, .vec 3 (v11.1.map Ac))]) (fun j11 h => ?_) (fun v11 h => ?_)
     ·refine Ab (Aa Ad rfl (qm rfl (Cp rfl (Ae ?_))))
      refine Ap rfl (fun c12 => ?_) (fun c12 => ?_)
      ·have h := An c12 h
       refine Ab (Aa Ad rfl (qm rfl (qm rfl (qm rfl (qm rfl ?_)))))
       obtain ⟨v13, a13, h⟩ := bind_some h
       refine Bp (ds0 := [_, _, _, _]) [90000] [] [true] (F0 N v7.1 v1.2.1 v1.2.2.1 p4 v13 a13) (.p rfl) Uz rfl ⟨rfl, rfl, rfl, rfl, trivial⟩ rfl rfl (by decide) ⟨rfl, trivial⟩ rfl (AM rfl) trivial ⟨(fun h => by cases h), trivial⟩ rfl rfl rfl ?_
       refine Ae (Ab (Aa Ad rfl (qm rfl (Bb rfl (qm rfl (qm rfl (Bb rfl (Bb rfl (qa rfl (Ae (Aa Ad rfl (qa rfl (Ae ?_)))))))))))))
       exact Av _ h (sm [] _ _ rfl rfl)
      ·have h := Ao c12 h
       refine Aq ?_
       exact Av _ h (sm [] _ _ rfl rfl)
     ·refine AK h (fun v14 => mk [(0, .e (.one (.own 90000))), (1, .e (.one (.pure (.val (.int .i64 v1.2.1))))), (2, .e (.one (.pure (.val (.int .i64 v1.2.2.1))))), (3, .e (.one (.pure (.val (.int .i64 v7.2))))), (4, .e (.one (.clo (A0 (Cq true Ac true Ac) A8 p4)))), (10, .e (.one (.pure (.val (.bool v1.2.2.2.2.1))))), (11, .e (.one (.pure (.val (.bool v1.2.2.2.2.2))))), (12, .e (.one (.pure (.val (.int .i64 ((IntKind.wrap .i64 (v1.2.2.1 - v1.2.1)))))))), (13, .e (.one (.pure (.val (.int .i64 v11.2.1)))))] [(90000, .vec 3 (v14.map Ac))]) (fun j14 h => ?_) (fun v14 h => ?_)
      ·refine AK h (fun v15 => mk [(0, .e (.one (.own 90000))), (1, .e (.one (.pure (.val (.int .i64 v1.2.1))))), (2, .e (.one (.pure (.val (.int .i64 v1.2.2.1))))), (3, .e (.one (.pure (.val (.int .i64 v7.2))))), (4, .e (.one (.clo (A0 (Cq true Ac true Ac) A8 p4)))), (10, .e (.one (.pure (.val (.bool v1.2.2.2.2.1))))), (11, .e (.one (.pure (.val (.bool v1.2.2.2.2.2))))), (12, .e (.one (.pure (.val (.int .i64 ((IntKind.wrap .i64 (v1.2.2.1 - v1.2.1)))))))), (13, .e (.one (.pure (.val (.int .i64 v11.2.1))))), (75, .e (.one (.pure (.val (.bool v15)))))] [(90000, .vec 3 (v11.1.map Ac))]) (fun j15 h => ?_) (fun v15 h => ?_)
       ·refine Aa Ad rfl (qm rfl (qm rfl ?_))
        refine AC (t := 69) rfl (fun c16 => ?_) (fun c16 => ?_)
        ·have h := An c16 h
         refine qm rfl (qp rfl (qm rfl ?_))
         refine AC (t := 72) rfl (fun c17 => ?_) (fun c17 => ?_)
         ·have h := An c17 h
          refine qm rfl (Cp rfl (qp rfl (Ae ?_)))
          exact Av _ h (sm [] _ _ rfl rfl)
         ·have h := Ao c17 h
          refine qn rfl (qn rfl (qp rfl (Ae ?_)))
          exact Av _ h (sm [] _ _ rfl rfl)
        ·have h := Ao c16 h
         refine qn rfl (qp rfl (qm rfl (qn rfl (qn rfl (qp rfl (Ae ?_))))))
         exact Av _ h (sm [] _ _ rfl rfl)
       ·refine Ap rfl (fun c18 => ?_) (fun c18 => ?_)
        ·have h := An c18 h
         refine Ab (Aa Ad rfl (qm rfl (qm rfl (qm rfl (qm rfl ?_)))))
         obtain ⟨v19, a19, h⟩ := bind_some h
         refine Bp (ds0 := [_, _, _, _]) [90000] [] [true] (Fb N v11.1 v1.2.1 v1.2.2.1 p4 v19 a19) (.p rfl) UO rfl ⟨rfl, rfl, rfl, rfl, trivial⟩ rfl rfl (by decide) ⟨rfl, trivial⟩ rfl (AM rfl) trivial ⟨(fun h => by cases h), trivial⟩ rfl rfl rfl ?_
         refine Ae ?_
         refine Ap rfl (fun c20 => ?_) (fun c20 => ?_)
         ·have h := An c20 h
          obtain rfl := sj h
          refine Ax ⟨_, (sm [] [] [(90000, .vec 3 (v19.2.map Ac))] rfl rfl), ?_⟩
          exact ⟨⟨[], trivial, rfl⟩, ⟨rfl, trivial⟩, trivial⟩
         ·have h := Ao c20 h
          refine Aq ?_
          exact Av _ h (sm [] _ _ rfl rfl)
        ·have h := Ao c18 h
         refine Aq ?_
         exact Av _ h (sm [] _ _ rfl rfl)
      ·refine Ab ?_
       refine AK h (fun v21 => mk [(0, .e (.one (.own 90000))), (1, .e (.one (.pure (.val (.int .i64 v1.2.1))))), (2, .e (.one (.pure (.val (.int .i64 v1.2.2.1))))), (3, .e (.one (.pure (.val (.int .i64 v7.2))))), (4, .e (.one (.clo (A0 (Cq true Ac true Ac) A8 p4)))), (10, .e (.one (.pure (.val (.bool v1.2.2.2.2.1))))), (11, .e (.one (.pure (.val (.bool v1.2.2.2.2.2))))), (12, .e (.one (.pure (.val (.int .i64 ((IntKind.wrap .i64 (v1.2.2.1 - v1.2.1)))))))), (13, .e (.one (.pure (.val (.int .i64 v11.2.1))))), (97, .e (.one (.pure (.val (.bool v21)))))] [(90000, .vec 3 (v14.map Ac))]) (fun j21 h => ?_) (fun v21 h => ?_)
       ·refine Aa Ad rfl (qm rfl (EA rfl (qm rfl ?_)))
        refine AC (t := 83) rfl (fun c22 => ?_) (fun c22 => ?_)
        ·have h := An c22 h
         refine qm rfl (qm rfl (qm rfl (Bb rfl ?_)))
         obtain ⟨v23, a23, b23, h⟩ := Aj h
         refine qI A2 AN a23 (Ag b23) rfl (qJ Dp AN (Ag b23) rfl (qm rfl (qm rfl ?_)))
         obtain ⟨v24, a24, b24, h⟩ := Aj h
         refine qI A2 AN a24 (Ag b24) rfl (qJ Dp AN (Ag b24) rfl ?_)
         obtain ⟨v25, a25, h⟩ := bind_some h
         refine CK (ds0 := [_, _]) (ar := (Cq true Ac true Ac) ((v23, v24))) (.g rfl rfl) rfl rfl ⟨rfl, rfl, trivial⟩ rfl rfl rfl (CA (Dk _ _ _ _ A4 A4) a25) ?_
         refine AR rfl (CC rfl (qp rfl (Az (by kernel_rfl) ?_)))
         exact Av _ h (sm [] _ _ rfl rfl)
        ·have h := Ao c22 h
         refine qn rfl (qn rfl (qn rfl (qn rfl (qn rfl (qn rfl (qn rfl (qn rfl (qn rfl (qn rfl (qn rfl (qn rfl (qn rfl (qp rfl (Az (by kernel_rfl) ?_))))))))))))))
         exact Av _ h (sm [] _ _ rfl rfl)
       ·refine Ap rfl (fun c26 => ?_) (fun c26 => ?_)
        ·have h := An c26 h
         refine Ab (Aa Ad rfl (qm rfl (qm rfl (qm rfl (qm rfl (qm rfl ?_))))))
         obtain ⟨v27, a27, h⟩ := bind_some h
         refine Bp (ds0 := [_, _, _, _, _]) [90000] [] [true] (FO N v14 v1.2.1 v1.2.2.1 v11.2.1 p4 v27 a27) (.p rfl) UA rfl ⟨rfl, rfl, rfl, rfl, rfl, trivial⟩ rfl rfl (by decide) ⟨rfl, trivial⟩ rfl (AM rfl) trivial ⟨(fun h => by cases h), trivial⟩ rfl rfl rfl ?_
         refine qa rfl (Ae (Ab (Aa Ad rfl (qm rfl (qa rfl (Ae (AL ?_)))))))
         exact Av _ h (sm [] _ _ rfl rfl)
        ·have h := Ao c26 h
         refine Aq (Ab (Aa Ad rfl (qm rfl (qm rfl (qm rfl (qm rfl (qm rfl ?_)))))))
         obtain ⟨v28, a28, h⟩ := bind_some h
         refine Bp (ds0 := [_, _, _, _, _]) [90000] [] [true] (Gm N v14 v1.2.1 v1.2.2.1 v11.2.1 p4 v28 a28) (.p rfl) Vh rfl ⟨rfl, rfl, rfl, rfl, rfl, trivial⟩ rfl rfl (by decide) ⟨rfl, trivial⟩ rfl (AM rfl) trivial ⟨(fun h => by cases h), trivial⟩ rfl rfl rfl ?_
         refine qm rfl (qx rfl (qx rfl (qa rfl (qa rfl (Ae (Ab (Aa Ad rfl (qm rfl (qa rfl (Ae (Ab (Aa Ad rfl (qm rfl (qm rfl (Bb rfl (qm rfl (qm rfl (Bb rfl (qa rfl (qa rfl (Ae (Ab (Aa Ad rfl (qm rfl (I5 rfl (by decide) (qa rfl (Ae (Ab (Aa Ad rfl (qm rfl (qm rfl (AR rfl (Ae ?_)))))))))))))))))))))))))))))))))
         refine Ap rfl (fun c29 => ?_) (fun c29 => ?_)
         ·have h := An c29 h
          refine Ab (Aa Ad rfl (qm rfl (qm rfl (Dl rfl (qa rfl (Ae (Ab (Aa Ad rfl (qm rfl (qm rfl (qm rfl (qm rfl (qm rfl ?_)))))))))))))
          obtain ⟨v30, a30, h⟩ := bind_some h
          refine Bp (ds0 := [_, _, _, _, _]) [90000] [] [true] (hrc v28.2.2 v1.2.1 v28.1 v7.2 p4 v30 a30) (.p rfl) Q0 rfl ⟨rfl, rfl, rfl, rfl, rfl, trivial⟩ rfl rfl (by decide) ⟨rfl, trivial⟩ rfl (AM rfl) trivial ⟨(fun h => by cases h), trivial⟩ rfl rfl rfl ?_
          refine Ae (Aa Ad rfl (qm rfl (AI rfl (qa rfl (Ae ?_)))))
          exact Av _ h (sm [] _ _ rfl rfl)
         ·have h := Ao c29 h
          refine Ab (Aa Ad rfl (qm rfl (qm rfl (Dl rfl (qa rfl (Ae (Ab (Aa Ad rfl (qm rfl (qm rfl (AI rfl (qm rfl (qm rfl (qm rfl ?_))))))))))))))
          obtain ⟨v31, a31, h⟩ := bind_some h
          refine Bp (ds0 := [_, _, _, _, _]) [90000] [] [true] (hrc v28.2.2 ((IntKind.wrap .i64 (v28.1 + 1))) v1.2.2.1 v7.2 p4 v31 a31) (.p rfl) Q0 rfl ⟨rfl, rfl, rfl, rfl, rfl, trivial⟩ rfl rfl (by decide) ⟨rfl, trivial⟩ rfl (AM rfl) trivial ⟨(fun h => by cases h), trivial⟩ rfl rfl rfl ?_
          refine Ae (Aa Ad rfl (qm rfl (qa rfl (Ae ?_))))
          exact Av _ h (sm [] _ _ rfl rfl)
 ·cases h
theorem EI (N : Nat) : ∀ (k : Nat) (p0 : List Af) (p1 : Int) (p2 : Int) (p3 : Int) (p4 : (Af × Af) → Option Int) (r : (List Af)), Cw N k p0 p1 p2 p3 p4 = some r → A9 Tryz.prog 104 [.e (.one (.own 90000)), .e (.one (.pure (.val (.int .i64 p1)))), .e (.one (.pure (.val (.int .i64 p2)))), .e (.one (.pure (.val (.int .i64 p3)))), .e (.one (.clo (A0 (Cq true Ac true Ac) A8 p4)))] [(.vec 3 (p0.map Ac), .vec 3 (r.map Ac))] [] (.tup [])
 | 0, _, _, _, _, _, _, h => by cases h
 | k + 1, p0, p1, p2, p3, p4, r, h => Gs N (Cw N k) (EI N k) p0 p1 p2 p3 p4 r h
theorem GN (N : Nat) (p0 : List Af) (p1 : Int) (p2 : Int) (p3 : Int) (p4 : (Af × Af) → Option Int) (r : (List Af)) (h : EO N p0 p1 p2 p3 p4 = some r) : A9 Tryz.prog 104 [.e (.one (.own 90000)), .e (.one (.pure (.val (.int .i64 p1)))), .e (.one (.pure (.val (.int .i64 p2)))), .e (.one (.pure (.val (.int .i64 p3)))), .e (.one (.clo (A0 (Cq true Ac true Ac) A8 p4)))] [(.vec 3 (p0.map Ac), .vec 3 (r.map Ac))] [] (.tup []) := EI N N p0 p1 p2 p3 p4 r h
set_option maxRecDepth 10000 in
theorem FP (N : Nat) (p0 : List Af) (p1 : (Af × Af) → Option Int) (r : (List Af)) (h : C1 N p0 p1 = some r) : A9 Tryz.prog 59 [.e (.one (.own 90000)), .e (.one (.clo (A0 (Cq true Ac true Ac) A8 p1)))] [(.vec 3 (p0.map Ac), .vec 3 (r.map Ac))] [] (.tup []) := by
 unfold C1 at h
 refine AY (n := 14) (rs := []) Tryz.func59 rfl rfl rfl (AZ rfl) (AZ rfl) rfl rfl (AZ rfl) rfl (AZ rfl) fun w0 S0 GL => I4 ?_
 refine Am (sm [] [(0, .e (.one (.own 90000))), (1, .e (.one (.clo (A0 (Cq true Ac true Ac) A8 p1))))] [(90000, .vec 3 (p0.map Ac))] rfl rfl) (Ab (Aa Ad rfl (qm rfl (Fz A2 rfl (qa rfl (Ae (Aa Ad rfl (qm rfl (qm rfl (qm rfl (Gk Rw Mb rfl ?_)))))))))))
 obtain ⟨v1, a1, h⟩ := bind_some h
 refine AG [] (Ih N ((IntKind.wrap .u64 ((p0.length : Int)))) v1 a1) Rp rfl (qm rfl ?_)
 obtain ⟨v2, a2, h⟩ := bind_some h
 refine Bp (ds0 := [_, _, _, _, _]) [90000] [] [true] (GN N p0 0 ((p0.length : Int)) v1 p1 v2 a2) (.p rfl) Q0 rfl ⟨rfl, rfl, rfl, rfl, rfl, trivial⟩ rfl rfl (by decide) ⟨rfl, trivial⟩ rfl (AM rfl) trivial ⟨(fun h => by cases h), trivial⟩ rfl rfl rfl ?_
 refine Ae ?_
 obtain rfl := sj h
 refine ⟨_, (sm [] [] [(90000, .vec 3 (v2.map Ac))] rfl rfl), ?_⟩
 exact ⟨⟨[], trivial, rfl⟩, ⟨rfl, trivial⟩, trivial⟩
set_option maxRecDepth 10000 in
theorem KS (N : Nat) (p0 : Af) (p1 : Af) (r : Int) (h : FG N p0 p1 = some r) : AA Tryz.prog 60 [.e (.agg [.pure (.val (.int .i64 p0.fTable)), .pure (.val (.int .i64 p0.fWriter)), .pure (.val (.int .i64 p0.fReader))]), .e (.agg [.pure (.val (.int .i64 p1.fTable)), .pure (.val (.int .i64 p1.fWriter)), .pure (.val (.int .i64 p1.fReader))])] [] (.e (.one (.pure (.val (.int .i64 r))))) := by
 unfold FG at h
 refine Ar (n := 22) (rs := [.tmp 4]) Tryz.func60 rfl rfl rfl (AZ rfl) (AZ rfl) rfl fun w0 S0 => ?_
 refine Ab (Aa Ad rfl (qb rfl (qb rfl (qa rfl (Ae (Ab (Aa Ad rfl (qf PU rfl (ql Dn rfl (qf PU rfl (ql Dn rfl ?_)))))))))))
 obtain ⟨v1, a1, h⟩ := bind_some h
 refine AG [] (Gi N p0.fTable p1.fTable v1 a1) SI rfl (qf PO rfl (ql Dn rfl (qf PO rfl (ql Dn rfl ?_))))
 obtain ⟨v2, a2, h⟩ := bind_some h
 refine AG [] (Gi N p0.fWriter p1.fWriter v2 a2) SI rfl (qf PI rfl (ql Dn rfl (qf PI rfl (ql Dn rfl ?_))))
 obtain ⟨v3, a3, h⟩ := bind_some h
 refine AG [] (Gi N p0.fReader p1.fReader v3 a3) SI rfl (EX AJ Es Lr rfl ?_)
 obtain ⟨v4, a4, h⟩ := bind_some h
 refine DE [] [20] (K1 N (([v1, v2, v3] : List Int)) v4 a4) Vt Cf rfl (qa rfl (Az (by kernel_rfl) ?_))
 obtain rfl := sj h
 refine Am (sm [] [(4, .e (.one (.pure (.val (.int .i64 v4)))))] [] rfl rfl) (Ax ?_)
 exact ⟨⟨[_], ⟨.tmp _ _ rfl, trivial⟩, rfl⟩, trivial⟩
set_option maxRecDepth 10000 in
theorem FY (N : Nat) (p0 : List Af) (r : Nat × (List Af)) (h : C3 N p0 = some r) : A9 Tryz.prog 63 [.e (.one (.own 90000))] [(.vec 3 (p0.map Ac), .vec 3 (r.2.map Ac))] [] (.e (.one (.view 90000 3 0 r.1))) := by
 unfold C3 at h
 refine AY (n := 61) (rs := [.tmp 2]) Tryz.func63 rfl rfl rfl (AZ rfl) (AZ rfl) rfl rfl (AZ rfl) rfl (AZ rfl) fun w0 S0 GL => ?_
 refine Am (sm [] [(0, .e (.one (.own 90000)))] [(90000, .vec 3 (p0.map Ac))] rfl rfl) (Ab (Aa Ad rfl (qa rfl (Ae (Ab (Ab (Aa Ad rfl (qm rfl (Fz A2 rfl (AR rfl (Ae ?_)))))))))))
 refine Ap rfl (fun c1 => ?_) (fun c1 => ?_)
 ·have h := An c1 h
  refine Ab (Aa Ad rfl (qm rfl (qa rfl (Ae ?_))))
  obtain rfl := sj h
  refine Am ((NX Ac p0 2 90000 3 rfl rfl).trans (sm [] [(2, .e (.one (.view 90000 3 0 p0.length)))] [(90000, .vec 3 (p0.map Ac))] rfl rfl)) (Ax ?_)
  exact ⟨⟨[_], ⟨.tmp _ _ rfl, trivial⟩, rfl⟩, ⟨rfl, trivial⟩, trivial⟩
 ·have h := Ao c1 h
  refine Aq (Ab (Ab (Aa Ad rfl (qa rfl (Ae ?_)))))
  refine AB (L := BQ N p0) h (fun v2 => mk [(0, .e (.one (.own 90000))), (3, .e (.one (.pure (.val (.int .i64 v2)))))] [(90000, .vec 3 (p0.map Ac))]) (fun v3 => mk [(0, .e (.one (.own 90000)))] [(90000, .vec 3 (p0.map Ac))]) (fun _ _ => rfl) (sm [] _ _ rfl rfl) (fun j2 n2 v2 h => ?_) (fun v3 s h hs => ?_)
  ·unfold BQ at h
   refine Ab (Ab (Aa Ad rfl (qm rfl (qm rfl (Fz A2 rfl (AR rfl (Ae ?_)))))))
   refine Ap rfl (fun c4 => ?_) (fun c4 => ?_)
   ·have h := An c4 h
    refine Aq (Ab (AD (Ab (Aa Ad rfl (qm rfl (qm rfl ?_))))))
    obtain ⟨v5, a5, b5, h⟩ := Aj h
    refine qI A2 AN a5 (Ag b5) rfl (qJ Dp AN (Ag b5) rfl (qm rfl (qm rfl (Bb rfl ?_))))
    obtain ⟨v6, a6, b6, h⟩ := Aj h
    refine qI A2 AN a6 (Ag b6) rfl (qJ Dp AN (Ag b6) rfl ?_)
    refine QH [.int .i64 v5.fTable, .int .i64 v5.fWriter, .int .i64 v5.fReader] [.int .i64 v6.fTable, .int .i64 v6.fWriter, .int .i64 v6.fReader] (.p rfl) rfl rfl Qg rfl ?_
    refine Az (by kernel_rfl) ?_
    refine Ap rfl (fun c7 => ?_) (fun c7 => ?_)
    ·have h := An c7 h
     refine Ab (Aa Ad rfl (qm rfl (qm rfl ?_)))
     obtain ⟨c8, h⟩ := AW h
     have w9 : ((v2).toNat) + ((p0.length - (v2).toNat)) ≤ p0.length := by have := c8.2.1; have := c8.2.2; omega
     refine IV Ac p0 (.p rfl) rfl (Ib Ac _ _ p0) rfl A2 AN (.some _ _ _ _ c8.1) (.none _) ⟨rfl, trivial⟩ trivial c8.2.1 (by rw [Nat.zero_add]; exact c8.2.2) (Nat.zero_add _) rfl ?_
     refine qa rfl (Ae (Ab (Ab (Aa Ad rfl (qa rfl (Ae ?_))))))
     refine AB (L := BK N p0 v2) h (fun v10 => mk [(0, .e (.one (.own 90000))), (3, .e (.one (.pure (.val (.int .i64 v10.2.1))))), (4, .e (.one (.view 90000 3 ((v2).toNat) ((p0.length - (v2).toNat))))), (5, .e (.one (.pure (.val (.int .i64 v10.2.2)))))] [(90000, .vec 3 (v10.1.map Ac))]) (fun v11 => mk [(0, .e (.one (.own 90000))), (3, .e (.one (.pure (.val (.int .i64 v11.2)))))] [(90000, .vec 3 (v11.1.map Ac))]) (fun _ _ => rfl) (sm [] _ _ rfl rfl) (fun j10 n10 v10 h => ?_) (fun v11 s h hs => ?_)
     ·unfold BK at h
      refine Ab (Ab (Aa Ad rfl (qm rfl (qm rfl ?_))))
      refine S8 (.p rfl) rfl A2 ?_
      refine AR rfl (Ae ?_)
      refine Ap rfl (fun c12 => ?_) (fun c12 => ?_)
      ·have h := An c12 h
       refine Aq ?_
       refine AK h (fun v13 => mk [(0, .e (.one (.own 90000))), (3, .e (.one (.pure (.val (.int .i64 v13.2))))), (4, .e (.one (.view 90000 3 ((v2).toNat) ((p0.length - (v2).toNat))))), (5, .e (.one (.pure (.val (.int .i64 v10.2.2)))))] [(90000, .vec 3 (v13.1.map Ac))]) (fun j13 h => ?_) (fun v13 h => ?_)
       ·refine AD (Ab (Aa Ad rfl (qm rfl (qm rfl ?_))))
        obtain ⟨c15, h⟩ := AW h
        obtain ⟨v14, a14, b14, h⟩ := Aj h
        refine LF Ac v10.1 (.p rfl) rfl c15 rfl rfl A2 AN a14 (Jx b14).1 rfl ?_
        refine K5 (.p rfl) rfl Dp AN rfl (Ag (Jx b14).2) ?_
        refine qm rfl (qm rfl (Bb rfl ?_))
        obtain ⟨v16, a16, b16, h⟩ := Aj h
        refine LF Ac v10.1 (.p rfl) rfl c15 rfl rfl A2 AN a16 (Jx b16).1 rfl ?_
        refine K5 (.p rfl) rfl Dp AN rfl (Ag (Jx b16).2) ?_
        refine To [.int .i64 v14.fTable, .int .i64 v14.fWriter, .int .i64 v14.fReader] [.int .i64 v16.fTable, .int .i64 v16.fWriter, .int .i64 v16.fReader] (.p rfl) rfl rfl Qg rfl ?_
        refine Az (by kernel_rfl) ?_
        refine Ap rfl (fun c17 => ?_) (fun c17 => ?_)
        ·have h := An c17 h
         refine Ab (Aa Ad rfl (qm rfl (qm rfl (qm rfl (qm rfl ?_)))))
         obtain ⟨v18, a18, b18, h⟩ := Aj h
         refine LF Ac v10.1 (.p rfl) rfl c15 rfl rfl A2 AN a18 (Jx b18).1 rfl ?_
         refine K5 (.p rfl) rfl Dp AN rfl (Ag (Jx b18).2) ?_
         obtain ⟨v19, a19, b19, h⟩ := Aj h
         refine qI A2 AN a19 (Ag b19) rfl ?_
         refine AT rfl rfl rfl rfl (Ag b19) rfl AN rfl (AZ rfl) (AU Ac v10.1 _ v18) ?_
         refine Ae (Aa Ad rfl (qm rfl (AI rfl (qa rfl (Ae ?_)))))
         exact Av _ h (sm [] _ _ rfl rfl)
        ·have h := Ao c17 h
         refine Aq ?_
         exact Av _ h (sm [] _ _ rfl rfl)
       ·refine Aa Ad rfl (qm rfl (AI rfl (qa rfl (Ae ?_))))
        exact Av _ h (sm [] _ _ rfl rfl)
      ·have h := Ao c12 h
       refine AL ?_
       exact Av _ h (sm [] _ _ rfl rfl)
     ·refine Am hs (Ab (Aa Ad rfl (qm rfl (qm rfl ?_))))
      obtain ⟨c20, h⟩ := AW h
      have w21 : ((v11.2).toNat) + ((v11.1.length - (v11.2).toNat)) ≤ v11.1.length := by have := c20.2.1; have := c20.2.2; omega
      refine IV Ac v11.1 (.p rfl) rfl (Ib Ac _ _ v11.1) rfl A2 AN (.some _ _ _ _ c20.1) (.none _) ⟨rfl, trivial⟩ trivial c20.2.1 (by rw [Nat.zero_add]; exact c20.2.2) (Nat.zero_add _) rfl ?_
      have w22 : (Jw v11.1 ((v11.2).toNat) (List.replicate ((v11.1.length - (v11.2).toNat)) ((Af.mk 0 0 0)))).length = v11.1.length := JL (by rw [List.length_replicate]; exact w21)
      refine O1 Ac v11.1 ((Af.mk 0 0 0)) rfl rfl (LQ Ac _ _ ((v11.2).toNat) ((v11.1.length - (v11.2).toNat)) v11.1 w21) rfl A2 Ko rfl rfl rfl rfl ?_
      refine Ae (Ab (Aa Ad rfl (qm rfl (qm rfl ?_))))
      obtain ⟨c23, h⟩ := AW h
      have w24 : 0 + ((v11.2).toNat) ≤ (Jw v11.1 ((v11.2).toNat) (List.replicate ((v11.1.length - (v11.2).toNat)) ((Af.mk 0 0 0)))).length := by have := c23.2.1; have := c23.2.2; omega
      refine IV Ac (Jw v11.1 ((v11.2).toNat) (List.replicate ((v11.1.length - (v11.2).toNat)) ((Af.mk 0 0 0)))) (.p rfl) rfl (Ib Ac _ _ (Jw v11.1 ((v11.2).toNat) (List.replicate ((v11.1.length - (v11.2).toNat)) ((Af.mk 0 0 0))))) rfl A2 AN (.none _) (.some _ _ _ _ c23.1) trivial ⟨rfl, trivial⟩ c23.2.1 (by rw [Nat.zero_add]; exact c23.2.2) (Nat.zero_add _) rfl ?_
      refine qa rfl (Ae ?_)
      obtain rfl := sj h
      refine Am (sm [] [(2, .e (.one (.view 90000 3 0 ((v11.2).toNat))))] [(90000, .vec 3 ((Jw v11.1 ((v11.2).toNat) (List.replicate ((v11.1.length - (v11.2).toNat)) ((Af.mk 0 0 0)))).map Ac))] rfl rfl) (Ax ?_)
      exact ⟨⟨[_], ⟨.tmp _ _ rfl, trivial⟩, rfl⟩, ⟨rfl, trivial⟩, trivial⟩
    ·have h := Ao c7 h
     refine Aq (Aa Ad rfl (qm rfl (AI rfl (qa rfl (Ae ?_)))))
     exact Av _ h (sm [] _ _ rfl rfl)
   ·have h := Ao c4 h
    refine AL ?_
    exact Av _ h (sm [] _ _ rfl rfl)
  ·refine Am hs (Ab (Aa Ad rfl (qm rfl (qa rfl (Ae ?_)))))
   obtain rfl := sj h
   refine Am ((NX Ac p0 2 90000 3 rfl rfl).trans (sm [] [(2, .e (.one (.view 90000 3 0 p0.length)))] [(90000, .vec 3 (p0.map Ac))] rfl rfl)) (Ax ?_)
   exact ⟨⟨[_], ⟨.tmp _ _ rfl, trivial⟩, rfl⟩, ⟨rfl, trivial⟩, trivial⟩
set_option maxRecDepth 10000 in
theorem LP (N : Nat) (p0 : Al) (p1 : List Ah) (r : (List Af) × Int) (h : HC N p0 p1 = some r) : AA Tryz.prog 22 [.e (.agg [.pure (.sl (p0.fVersions.map Ak)), .pure (.sl (p0.fNow.map Ak)), .pure (.sl (p0.fTarget.map Ak)), .pure (.sl (p0.fTables.map Au))]), .e (.one (.pure (.sl (p1.map Ai))))] [(3, r.1.map Ac)] (.tup [.one (.own 0), .one (.pure (.val (.int .i64 r.2)))]) := by
 unfold HC at h
 refine Ar (n := 36) (rs := [.tmp 4, .tmp 5]) Tryz.func22 rfl rfl rfl (AZ rfl) (AZ rfl) rfl fun w0 S0 => ?_
 refine Ab (Aa Ad rfl (qb rfl (qa rfl (qa rfl (Ae (Ab (Aa Ad rfl (qL EE Ek rfl (qm rfl ?_)))))))))
 obtain ⟨v1, a1, h⟩ := bind_some h
 refine AG [2001] (JW N p0 p1 v1 a1) Uw rfl (qm rfl (qx rfl (qx rfl (qa rfl (qa rfl (Ae (Ab (Ab (Aa Ad rfl (qm rfl (Cy rfl (Ae ?_))))))))))))
 refine Ap rfl (fun c2 => ?_) (fun c2 => ?_)
 ·have h := An c2 h
  refine Ab (Aa Ad rfl (qm rfl (qa rfl (qa rfl (Ae ?_)))))
  obtain rfl := sj h
  refine Am ((BR 4 2002 3 rfl rfl rfl).trans (sm [(1000, 2002)] [(4, .e (.one (.own 1000))), (5, .e (.one (.pure (.val (.int .i64 v1.2)))))] [(1000, .vec 3 ((([] : List Af)).map Ac))] rfl rfl)) (Ax ?_)
  exact ⟨⟨[_, _], ⟨.tmp _ _ rfl, ⟨.tmp _ _ rfl, trivial⟩⟩, rfl⟩, ⟨rfl, trivial⟩⟩
 ·have h := Ao c2 h
  refine Aq (Ab (Aa Ad rfl (qa rfl (Ae (Ab (Ab (Aa Ad rfl (qm rfl (Fz KE rfl (qm rfl (Ae ?_)))))))))))
  refine AB (L := Fq N v1) h (fun v3 => mk [(8, .e (.one (.own 2003))), (20, .e (.one (.own 2004))), (21, .e (.one (.pure (.val (.int .i64 ((v1.1.length : Int))))))), (22, .e (.one (.pure (.val (.int .i64 v3.2)))))] [(2003, .vec 3 (v3.1.map Ac)), (2004, .vec 9 (v1.1.map D3))]) (fun v4 => mk [(8, .e (.one (.own 2005)))] [(2005, .vec 3 (v4.map Ac))]) (fun _ _ => rfl) ((BR 8 2006 3 rfl rfl rfl).trans (sm [(2003, 2006), (2004, 2001)] _ _ rfl rfl)) (fun j3 n3 v3 h => ?_) (fun v4 s h hs => ?_)
  ·unfold Fq at h
   refine Ab (Aa Ad rfl (AR rfl (Ae (Ab ?_))))
   refine Ap rfl (fun c5 => ?_) (fun c5 => ?_)
   ·have h := An c5 h
    refine Aq (Ab (AD (Ab (Aa Ad rfl ?_))))
    obtain ⟨v6, a6, b6, h⟩ := Aj h
    refine qI KE OY a6 (Ag b6) rfl (qJ Wb OY (Ag b6) rfl (qz R2 rfl (qs OY rfl (Ae (Aa Ad rfl (qm rfl (qf P4 rfl (qL Dp AN rfl (EX A2 AN Ko rfl ?_)))))))))
    obtain ⟨c7, h⟩ := AW h
    refine Ep (f := Ac) A2 A2 AN RK Ko c7 rfl (qa rfl (Ae (Aa Ad rfl (AI rfl (qm rfl (Ae ?_))))))
    exact Av _ h (sm [(2003, 30)] _ _ rfl rfl)
   ·have h := Ao c5 h
    refine AL ?_
    exact Av _ h (sm [(2005, 2003)] _ _ rfl rfl)
  ·refine Am hs (Ab (Aa Ad rfl (qm rfl ?_)))
   obtain ⟨v8, a8, h⟩ := bind_some h
   refine Bp (ds0 := [_, _]) [2005] [] [true] (A9.weak (ds' := [_, .e (.one (.fnc 60))]) (FP N v4 ((fun (x : Af × Af) => FG N x.1 x.2)) v8 a8) ⟨(fun _ _ _ hh => hh), (fun _ _ _ hh => OF WA (fun ar t ht => by obtain ⟨x, r, rfl, hq, rfl⟩ := HV ht; exact KS N x.1 x.2 r hq) hh), trivial⟩) (.p rfl) WJ rfl ⟨rfl, rfl, trivial⟩ rfl rfl (by decide) ⟨rfl, trivial⟩ rfl (AM rfl) trivial ⟨(fun h => by cases h), trivial⟩ rfl rfl rfl ?_
   refine Ae (Ab (Aa Ad rfl (qm rfl ?_)))
   obtain ⟨v9, a9, h⟩ := bind_some h
   obtain ⟨c10, h⟩ := AW h
   have w11 : 0 + v9.1 ≤ v9.2.length := by rw [Nat.zero_add]; exact c10
   refine Bp (ds0 := [_]) [2005] [] [true] (FY N v8 v9 a9) (.p rfl) Wl rfl ⟨rfl, trivial⟩ rfl rfl (by decide) ⟨rfl, trivial⟩ rfl (AM rfl) trivial ⟨(fun h => by cases h), trivial⟩ rfl rfl rfl ?_
   refine En (RL Ac v9.2 35 2005 2007 3 v9.1 rfl rfl rfl rfl rfl c10) (qa rfl (qa rfl (Ae ?_)))
   obtain rfl := sj h
   refine Am (sm [(1000, 2007)] [(4, .e (.one (.own 1000))), (5, .e (.one (.pure (.val (.int .i64 0)))))] [(1000, .vec 3 ((v9.2.take v9.1).map Ac))] rfl rfl) (Ax ?_)
   exact ⟨⟨[_, _], ⟨.tmp _ _ rfl, ⟨.tmp _ _ rfl, trivial⟩⟩, rfl⟩, ⟨rfl, trivial⟩⟩
set_option maxRecDepth 10000 in
theorem JD (N : Nat) (p0 : Al) (p1 : List Ah) (r : Int × Ah × Int) (h : DR N p0 p1 = some r) : AA Tryz.prog 25 [.e (.agg [.pure (.sl (p0.fVersions.map Ak)), .pure (.sl (p0.fNow.map Ak)), .pure (.sl (p0.fTarget.map Ak)), .pure (.sl (p0.fTables.map Au))]), .e (.one (.pure (.sl (p1.map Ai))))] [(1, r.2.1.fBase.map Ak), (1, r.2.1.fNext.map Ak), (1, r.2.1.fHeld.map Bv)] (.tup [.one (.pure (.val (.int .i64 r.1))), .agg [.own 0, .own 1, .own 2], .one (.pure (.val (.int .i64 r.2.2)))]) := by
 unfold DR at h
 refine Ar (n := 88) (rs := [.tmp 4, .cell 5 46, .tmp 6]) Tryz.func25 rfl rfl rfl (AZ rfl) (AZ rfl) rfl fun w0 S0 => ?_
 refine Ab (Aa Ad rfl (qb rfl (qa rfl (qz DN rfl (qa rfl (Ae (Ab (Ab (Aa Ad rfl (qL EE Ek rfl ?_))))))))))
 obtain ⟨v1, a1, h⟩ := bind_some h
 refine AG [] (Fl N p0 v1 a1) Sj rfl (qa rfl (Ae (Ab (Aa Ad rfl (qm rfl (Cy rfl (Ae ?_)))))))
 refine Ap rfl (fun c2 => ?_) (fun c2 => ?_)
 ·have h := An c2 h
  refine Ab (Aa Ad rfl (CO DN Jv rfl (qm rfl (qa rfl (qs Ay rfl (qa rfl (Ae ?_)))))))
  obtain rfl := sj h
  refine Am ((A1 5 0 2001 1 _ rfl rfl rfl rfl).trans ((A1 5 1 2002 1 _ rfl rfl rfl rfl).trans ((A1 5 2 2003 1 _ rfl rfl rfl rfl).trans (sm [(1000, 2001), (1001, 2002), (1002, 2003)] [(4, .e (.one (.pure (.val (.int .i64 0))))), (5, .e (.one (.ptr 5 0))), (6, .e (.one (.pure (.val (.int .i64 v1)))))] [(5, .box [.own 1000, .own 1001, .own 1002]), (1000, .vec 1 ((([] : List Int)).map Ak)), (1001, .vec 1 ((([] : List Int)).map Ak)), (1002, .vec 1 ((([] : List Int)).map Bv))] rfl rfl)))) (Ax ?_)
  exact ⟨⟨[_, _, _], ⟨.tmp _ _ rfl, ⟨.cellN _ _ _ _ _ _ _ rfl rfl A6 Ay rfl rfl (Kw rfl), ⟨.tmp _ _ rfl, trivial⟩⟩⟩, rfl⟩, ⟨rfl, rfl, rfl, trivial⟩⟩
 ·have h := Ao c2 h
  refine Aq (Ab (Ab (Aa Ad rfl (qm rfl (AP AS rfl (Cp rfl (Ae ?_)))))))
  refine Ap rfl (fun c3 => ?_) (fun c3 => ?_)
  ·have h := An c3 h
   refine Ab (Aa Ad rfl (CO DN Jv rfl (qa rfl (qs Ay rfl (qa rfl (Ae ?_))))))
   obtain rfl := sj h
   refine Am ((A1 5 0 2004 1 _ rfl rfl rfl rfl).trans ((A1 5 1 2005 1 _ rfl rfl rfl rfl).trans ((A1 5 2 2006 1 _ rfl rfl rfl rfl).trans (sm [(1000, 2004), (1001, 2005), (1002, 2006)] [(4, .e (.one (.pure (.val (.int .i64 0))))), (5, .e (.one (.ptr 5 0))), (6, .e (.one (.pure (.val (.int .i64 10)))))] [(5, .box [.own 1000, .own 1001, .own 1002]), (1000, .vec 1 ((([] : List Int)).map Ak)), (1001, .vec 1 ((([] : List Int)).map Ak)), (1002, .vec 1 ((([] : List Int)).map Bv))] rfl rfl)))) (Ax ?_)
   exact ⟨⟨[_, _, _], ⟨.tmp _ _ rfl, ⟨.cellN _ _ _ _ _ _ _ rfl rfl A6 Ay rfl rfl (Kw rfl), ⟨.tmp _ _ rfl, trivial⟩⟩⟩, rfl⟩, ⟨rfl, rfl, rfl, trivial⟩⟩
  ·have h := Ao c3 h
   refine Aq (Ab (Aa Ad rfl (qa rfl (qa rfl (Ae (Ab (Ab (Aa Ad rfl (qm rfl (AP AS rfl (qm rfl (Ae ?_))))))))))))
   refine AB (L := D6 N p0 p1) h (fun v4 => mk [(1, .e (.one (.pure (.sl (p1.map Ai))))), (2, .e (.one (.ptr 2 0))), (5, .e (.one (.ptr 5 0))), (8, .e (.one (.pure (.val (.int .i64 v4.1))))), (9, .e (.one (.pure (.val (.int .i64 v4.2.1))))), (27, .e (.one (.pure (.sl (p1.map Ai))))), (28, .e (.one (.pure (.val (.int .i64 ((p1.length : Int))))))), (29, .e (.one (.pure (.val (.int .i64 v4.2.2)))))] [(2, .box [.pure (.sl (p0.fVersions.map Ak)), .pure (.sl (p0.fNow.map Ak)), .pure (.sl (p0.fTarget.map Ak)), .pure (.sl (p0.fTables.map Au))]), (5, .box [.pure (.nil0), .pure (.nil0), .pure (.nil0)])]) (fun v5 => mk [(1, .e (.one (.pure (.sl (p1.map Ai))))), (5, .e (.one (.ptr 5 0))), (8, .e (.one (.pure (.val (.int .i64 v5.1))))), (9, .e (.one (.pure (.val (.int .i64 v5.2)))))] [(5, .box [.pure (.nil0), .pure (.nil0), .pure (.nil0)])]) (fun _ _ => rfl) (sm [] _ _ rfl rfl) (fun j4 n4 v4 h => ?_) (fun v5 s h hs => ?_)
   ·unfold D6 at h
    refine Ab (Aa Ad rfl (AR rfl (Ae (Ab ?_))))
    refine Ap rfl (fun c6 => ?_) (fun c6 => ?_)
    ·have h := An c6 h
     refine Aq ?_
     refine AK h (fun v7 => mk [(1, .e (.one (.pure (.sl (p1.map Ai))))), (2, .e (.one (.ptr 2 0))), (5, .e (.one (.ptr 5 0))), (8, .e (.one (.pure (.val (.int .i64 v7.1))))), (9, .e (.one (.pure (.val (.int .i64 v7.2))))), (27, .e (.one (.pure (.sl (p1.map Ai))))), (28, .e (.one (.pure (.val (.int .i64 ((p1.length : Int))))))), (29, .e (.one (.pure (.val (.int .i64 v4.2.2)))))] [(2, .box [.pure (.sl (p0.fVersions.map Ak)), .pure (.sl (p0.fNow.map Ak)), .pure (.sl (p0.fTarget.map Ak)), .pure (.sl (p0.fTables.map Au))]), (5, .box [.pure (.nil0), .pure (.nil0), .pure (.nil0)])]) (fun j7 h => ?_) (fun v7 h => ?_)
     ·refine AD (Ab (Aa Ad rfl (qm rfl ?_)))
      obtain ⟨v8, a8, b8, h⟩ := Aj h
      refine qi AS Ay a8 (Ag b8) rfl (qK A6 Ay rfl (qz DN rfl (qa rfl (qs Ay rfl (Ae (Ab (Ab (Aa Ad rfl (qL EE Ek rfl (qL A6 Ay rfl ?_))))))))))
      obtain ⟨v9, a9, h⟩ := bind_some h
      refine AG [] (Id N p0 v8 v9 a9) RP rfl (qa rfl (Ae (Ab (Aa Ad rfl (qm rfl (Cy rfl (Ae ?_)))))))
      refine Ap rfl (fun c10 => ?_) (fun c10 => ?_)
      ·have h := An c10 h
       refine Ab (Aa Ad rfl (CO DN Jv rfl (qm rfl (qa rfl (qs Ay rfl (qa rfl (Ae ?_)))))))
       obtain rfl := sj h
       refine Am ((A1 5 0 2007 1 _ rfl rfl rfl rfl).trans ((A1 5 1 2008 1 _ rfl rfl rfl rfl).trans ((A1 5 2 2009 1 _ rfl rfl rfl rfl).trans (sm [(1000, 2007), (1001, 2008), (1002, 2009)] [(4, .e (.one (.pure (.val (.int .i64 0))))), (5, .e (.one (.ptr 5 0))), (6, .e (.one (.pure (.val (.int .i64 v9)))))] [(5, .box [.own 1000, .own 1001, .own 1002]), (1000, .vec 1 ((([] : List Int)).map Ak)), (1001, .vec 1 ((([] : List Int)).map Ak)), (1002, .vec 1 ((([] : List Int)).map Bv))] rfl rfl)))) (Ax ?_)
       exact ⟨⟨[_, _, _], ⟨.tmp _ _ rfl, ⟨.cellN _ _ _ _ _ _ _ rfl rfl A6 Ay rfl rfl (Kw rfl), ⟨.tmp _ _ rfl, trivial⟩⟩⟩, rfl⟩, ⟨rfl, rfl, rfl, trivial⟩⟩
      ·have h := Ao c10 h
       refine Aq (Ab (Aa Ad rfl (qa rfl (Ae (Ab (Ab (Aa Ad rfl (qf Hx rfl (ql Bw rfl (AP AJ rfl (qm rfl (Ae ?_))))))))))))
       refine AB (L := Ct N p0 v8) h (fun v11 => mk [(1, .e (.one (.pure (.sl (p1.map Ai))))), (2, .e (.one (.ptr 2 0))), (5, .e (.one (.ptr 5 0))), (8, .e (.one (.pure (.val (.int .i64 v4.1))))), (9, .e (.one (.pure (.val (.int .i64 v4.2.1))))), (10, .e (.one (.pure (.val (.int .i64 v4.2.2))))), (11, .e (.one (.ptr 11 0))), (13, .e (.one (.pure (.val (.int .i64 v11.1))))), (27, .e (.one (.pure (.sl (p1.map Ai))))), (28, .e (.one (.pure (.val (.int .i64 ((p1.length : Int))))))), (29, .e (.one (.pure (.val (.int .i64 v4.2.2))))), (42, .e (.one (.pure (.sl (p0.fTarget.map Ak))))), (43, .e (.one (.pure (.val (.int .i64 ((p0.fTarget.length : Int))))))), (44, .e (.one (.pure (.val (.int .i64 v11.2)))))] [(2, .box [.pure (.sl (p0.fVersions.map Ak)), .pure (.sl (p0.fNow.map Ak)), .pure (.sl (p0.fTarget.map Ak)), .pure (.sl (p0.fTables.map Au))]), (5, .box [.pure (.nil0), .pure (.nil0), .pure (.nil0)]), (11, .box [.pure (.sl (v8.fBase.map Ak)), .pure (.sl (v8.fNext.map Ak)), .pure (.sl (v8.fHeld.map Bv))])]) (fun v12 => mk [(1, .e (.one (.pure (.sl (p1.map Ai))))), (2, .e (.one (.ptr 2 0))), (5, .e (.one (.ptr 5 0))), (8, .e (.one (.pure (.val (.int .i64 v4.1))))), (9, .e (.one (.pure (.val (.int .i64 v4.2.1))))), (10, .e (.one (.pure (.val (.int .i64 v4.2.2))))), (13, .e (.one (.pure (.val (.int .i64 v12))))), (27, .e (.one (.pure (.sl (p1.map Ai))))), (28, .e (.one (.pure (.val (.int .i64 ((p1.length : Int))))))), (29, .e (.one (.pure (.val (.int .i64 v4.2.2)))))] [(2, .box [.pure (.sl (p0.fVersions.map Ak)), .pure (.sl (p0.fNow.map Ak)), .pure (.sl (p0.fTarget.map Ak)), .pure (.sl (p0.fTables.map Au))]), (5, .box [.pure (.nil0), .pure (.nil0), .pure (.nil0)])]) (fun _ _ => rfl) (sm [] _ _ rfl rfl) (fun j11 n11 v11 h => ?_) (fun v12 s h hs => ?_)
       ·unfold Ct at h
        refine Ab (Aa Ad rfl (AR rfl (Ae (Ab ?_))))
        refine Ap rfl (fun c13 => ?_) (fun c13 => ?_)
        ·have h := An c13 h
         refine Aq ?_
         refine AK h (fun v14 => mk [(1, .e (.one (.pure (.sl (p1.map Ai))))), (2, .e (.one (.ptr 2 0))), (5, .e (.one (.ptr 5 0))), (8, .e (.one (.pure (.val (.int .i64 v4.1))))), (9, .e (.one (.pure (.val (.int .i64 v4.2.1))))), (10, .e (.one (.pure (.val (.int .i64 v4.2.2))))), (11, .e (.one (.ptr 11 0))), (13, .e (.one (.pure (.val (.int .i64 v14))))), (27, .e (.one (.pure (.sl (p1.map Ai))))), (28, .e (.one (.pure (.val (.int .i64 ((p1.length : Int))))))), (29, .e (.one (.pure (.val (.int .i64 v4.2.2))))), (42, .e (.one (.pure (.sl (p0.fTarget.map Ak))))), (43, .e (.one (.pure (.val (.int .i64 ((p0.fTarget.length : Int))))))), (44, .e (.one (.pure (.val (.int .i64 v11.2)))))] [(2, .box [.pure (.sl (p0.fVersions.map Ak)), .pure (.sl (p0.fNow.map Ak)), .pure (.sl (p0.fTarget.map Ak)), .pure (.sl (p0.fTables.map Au))]), (5, .box [.pure (.nil0), .pure (.nil0), .pure (.nil0)]), (11, .box [.pure (.sl (v8.fBase.map Ak)), .pure (.sl (v8.fNext.map Ak)), .pure (.sl (v8.fHeld.map Bv))])]) (fun j14 h => ?_) (fun v14 h => ?_)
         ·refine AD (Ab (Aa Ad rfl (qm rfl ?_)))
          obtain ⟨v15, a15, b15, h⟩ := Aj h
          refine qi AJ Es a15 (Ag b15) rfl (qk Dn rfl (qa rfl (qa rfl (Ae ?_))))
          refine AK h (fun v16 => mk [(1, .e (.one (.pure (.sl (p1.map Ai))))), (2, .e (.one (.ptr 2 0))), (5, .e (.one (.ptr 5 0))), (8, .e (.one (.pure (.val (.int .i64 v4.1))))), (9, .e (.one (.pure (.val (.int .i64 v4.2.1))))), (10, .e (.one (.pure (.val (.int .i64 v4.2.2))))), (11, .e (.one (.ptr 11 0))), (13, .e (.one (.pure (.val (.int .i64 v11.1))))), (27, .e (.one (.pure (.sl (p1.map Ai))))), (28, .e (.one (.pure (.val (.int .i64 ((p1.length : Int))))))), (29, .e (.one (.pure (.val (.int .i64 v4.2.2))))), (42, .e (.one (.pure (.sl (p0.fTarget.map Ak))))), (43, .e (.one (.pure (.val (.int .i64 ((p0.fTarget.length : Int))))))), (44, .e (.one (.pure (.val (.int .i64 v11.2))))), (63, .e (.one (.pure (.val (.bool v16)))))] [(2, .box [.pure (.sl (p0.fVersions.map Ak)), .pure (.sl (p0.fNow.map Ak)), .pure (.sl (p0.fTarget.map Ak)), .pure (.sl (p0.fTables.map Au))]), (5, .box [.pure (.nil0), .pure (.nil0), .pure (.nil0)]), (11, .box [.pure (.sl (v8.fBase.map Ak)), .pure (.sl (v8.fNext.map Ak)), .pure (.sl (v8.fHeld.map Bv))])]) (fun j16 h => ?_) (fun v16 h => ?_)
          ·refine Aa Ad rfl (qf Du rfl (ql Bw rfl (qm rfl ?_)))
           obtain ⟨v17, a17, b17, h⟩ := Aj h
           refine qi AJ Es a17 (Ag b17) rfl (qk Dn rfl (qm rfl (Cp rfl (qm rfl ?_))))
           refine AC (t := 56) rfl (fun c18 => ?_) (fun c18 => ?_)
           ·have h := An c18 h
            refine qf CU rfl (ql Bw rfl (qm rfl ?_))
            obtain ⟨v19, a19, b19, h⟩ := Aj h
            refine qi AJ Es a19 (Ag b19) rfl (qk Dn rfl (AR rfl (qp rfl (Ae ?_))))
            exact Av _ h (sm [] _ _ rfl rfl)
           ·have h := Ao c18 h
            refine qn rfl (qn rfl (qn rfl (qn rfl (qn rfl (qn rfl (qp rfl (Ae ?_)))))))
            exact Av _ h (sm [] _ _ rfl rfl)
          ·refine Ap rfl (fun c20 => ?_) (fun c20 => ?_)
           ·have h := An c20 h
            refine Aa Ad rfl (qm rfl (AI rfl (qa rfl (Ae ?_))))
            exact Av _ h (sm [] _ _ rfl rfl)
           ·have h := Ao c20 h
            refine Aq ?_
            exact Av _ h (sm [] _ _ rfl rfl)
         ·refine Aa Ad rfl (AI rfl (qm rfl (Ae ?_)))
          exact Av _ h (sm [] _ _ rfl rfl)
        ·have h := Ao c13 h
         refine AL ?_
         exact Av _ h (sm [] _ _ rfl rfl)
       ·refine Am hs (Ab (Aa Ad rfl (qm rfl (qm rfl (EA rfl (Ae ?_))))))
        refine Ap rfl (fun c21 => ?_) (fun c21 => ?_)
        ·have h := An c21 h
         refine Aa Ad rfl (qm rfl (qm rfl (qa rfl (qa rfl (Ae ?_)))))
         exact Av _ h (sm [] _ _ rfl rfl)
        ·have h := Ao c21 h
         refine Aq ?_
         exact Av _ h (sm [] _ _ rfl rfl)
     ·refine Aa Ad rfl (AI rfl (qm rfl (Ae ?_)))
      exact Av _ h (sm [] _ _ rfl rfl)
    ·have h := Ao c6 h
     refine AL ?_
     exact Av _ h (sm [] _ _ rfl rfl)
   ·refine Am hs (Ab (Aa Ad rfl (qm rfl (qm rfl ?_))))
    obtain ⟨v22, a22, b22, h⟩ := Aj h
    refine qi AS Ay a22 (Ag b22) rfl (qK A6 Ay rfl (qz DN rfl (qs Ay rfl (Ae (Ab (Aa Ad rfl (qm rfl (qf Du rfl (ql Bw rfl ?_)))))))))
    obtain ⟨v23, a23, h⟩ := bind_some h
    refine AG [2010] (De N v22.fBase v23 a23) PE rfl (qf CU rfl (ql Bw rfl ?_))
    obtain ⟨v24, a24, h⟩ := bind_some h
    refine AG [2011] (De N v22.fNext v24 a24) PE rfl (qf DX rfl (ql It rfl ?_))
    obtain ⟨v25, a25, h⟩ := bind_some h
    refine AG [2012] (Ew N v22.fHeld v25 a25) Uo rfl (CO DN Jv rfl (qa rfl (qs Ay rfl (qa rfl (Az (by kernel_rfl) ?_)))))
    obtain rfl := sj h
    refine Am (sm [(1000, 2010), (1001, 2011), (1002, 2012)] [(4, .e (.one (.pure (.val (.int .i64 v5.1))))), (5, .e (.one (.ptr 5 0))), (6, .e (.one (.pure (.val (.int .i64 0)))))] [(5, .box [.own 1000, .own 1001, .own 1002]), (1000, .vec 1 (v23.map Ak)), (1001, .vec 1 (v24.map Ak)), (1002, .vec 1 (v25.map Bv))] rfl rfl) (Ax ?_)
    exact ⟨⟨[_, _, _], ⟨.tmp _ _ rfl, ⟨.cellN _ _ _ _ _ _ _ rfl rfl A6 Ay rfl rfl (Kw rfl), ⟨.tmp _ _ rfl, trivial⟩⟩⟩, rfl⟩, ⟨rfl, rfl, rfl, trivial⟩⟩
set_option maxRecDepth 10000 in
theorem G6 (N : Nat) (p0 : List Int) (p1 : List Int) (r : Int) (h : DO N p0 p1 = some r) : AA Tryz.prog 108 [.e (.one (.pure (.sl (p0.map Ak)))), .e (.one (.pure (.sl (p1.map Ak))))] [] (.e (.one (.pure (.val (.int .i64 r))))) := by
 unfold DO at h
 refine Ar (n := 46) (rs := [.tmp 4]) Tryz.func108 rfl rfl rfl (AZ rfl) (AZ rfl) rfl fun w0 S0 => ?_
 refine Ab (Aa Ad rfl (qa rfl (Ae (Ab (Ab (Aa Ad rfl (qa rfl (Ae ?_))))))))
 refine AB (L := DJ N p0 p1) h (fun v1 => mk [(0, .e (.one (.pure (.sl (p0.map Ak))))), (1, .e (.one (.pure (.sl (p1.map Ak))))), (5, .e (.one (.pure (.val (.int .i64 v1)))))] []) (fun v2 => mk [(0, .e (.one (.pure (.sl (p0.map Ak))))), (1, .e (.one (.pure (.sl (p1.map Ak)))))] []) (fun _ _ => rfl) (sm [] _ _ rfl rfl) (fun j1 n1 v1 h => ?_) (fun v2 s h hs => ?_)
 ·unfold DJ at h
  refine Ab ?_
  refine AK h (fun v3 => mk [(0, .e (.one (.pure (.sl (p0.map Ak))))), (1, .e (.one (.pure (.sl (p1.map Ak))))), (5, .e (.one (.pure (.val (.int .i64 v1))))), (15, .e (.one (.pure (.val (.bool v3)))))] []) (fun j3 h => ?_) (fun v3 h => ?_)
  ·refine Aa Ad rfl (qm rfl (qm rfl (AP AJ rfl (AR rfl (qm rfl ?_)))))
   refine AC (t := 10) rfl (fun c4 => ?_) (fun c4 => ?_)
   ·have h := An c4 h
    refine qm rfl (qm rfl (AP AJ rfl (AR rfl (qp rfl (Ae ?_)))))
    exact Av _ h (sm [] _ _ rfl rfl)
   ·have h := Ao c4 h
    refine qn rfl (qn rfl (qn rfl (qn rfl (qp rfl (Ae ?_)))))
    exact Av _ h (sm [] _ _ rfl rfl)
  ·refine Ap rfl (fun c5 => ?_) (fun c5 => ?_)
   ·have h := An c5 h
    refine Aq (Ab (AD (Ab (Ab (Aa Ad rfl (qm rfl (qm rfl ?_)))))))
    obtain ⟨v6, a6, b6, h⟩ := Aj h
    refine qi AJ Es a6 (Ag b6) rfl (qk Dn rfl (qm rfl (qm rfl ?_)))
    obtain ⟨v7, a7, b7, h⟩ := Aj h
    refine qi AJ Es a7 (Ag b7) rfl (qk Dn rfl (AR rfl (Az (by kernel_rfl) ?_)))
    refine Ap rfl (fun c8 => ?_) (fun c8 => ?_)
    ·have h := An c8 h
     refine Ab (Aa Ad rfl (qa rfl (Ae ?_)))
     obtain rfl := sj h
     refine Am (sm [] [(4, .e (.one (.pure (.val (.int .i64 ((-1)))))))] [] rfl rfl) (Ax ?_)
     exact ⟨⟨[_], ⟨.tmp _ _ rfl, trivial⟩, rfl⟩, trivial⟩
    ·have h := Ao c8 h
     refine Aq (Ab (Aa Ad rfl (qm rfl (qm rfl ?_))))
     obtain ⟨v9, a9, b9, h⟩ := Aj h
     refine qi AJ Es a9 (Ag b9) rfl (qk Dn rfl (qm rfl (qm rfl ?_)))
     obtain ⟨v10, a10, b10, h⟩ := Aj h
     refine qi AJ Es a10 (Ag b10) rfl (qk Dn rfl (EA rfl (Az (by kernel_rfl) ?_)))
     refine Ap rfl (fun c11 => ?_) (fun c11 => ?_)
     ·have h := An c11 h
      refine Ab (Aa Ad rfl (qa rfl (Ae ?_)))
      obtain rfl := sj h
      refine Am (sm [] [(4, .e (.one (.pure (.val (.int .i64 1)))))] [] rfl rfl) (Ax ?_)
      exact ⟨⟨[_], ⟨.tmp _ _ rfl, trivial⟩, rfl⟩, trivial⟩
     ·have h := Ao c11 h
      refine Aq (Aa Ad rfl (qm rfl (AI rfl (qa rfl (Ae ?_)))))
      exact Av _ h (sm [] _ _ rfl rfl)
   ·have h := Ao c5 h
    refine AL ?_
    exact Av _ h (sm [] _ _ rfl rfl)
 ·refine Am hs (Ab (Ab (Aa Ad rfl (qm rfl (AP AJ rfl (qm rfl (AP AJ rfl (AR rfl (Ae ?_)))))))))
  refine Ap rfl (fun c12 => ?_) (fun c12 => ?_)
  ·have h := An c12 h
   refine Ab (Aa Ad rfl (qa rfl (Ae ?_)))
   obtain rfl := sj h
   refine Am (sm [] [(4, .e (.one (.pure (.val (.int .i64 ((-1)))))))] [] rfl rfl) (Ax ?_)
   exact ⟨⟨[_], ⟨.tmp _ _ rfl, trivial⟩, rfl⟩, trivial⟩
  ·have h := Ao c12 h
   refine Aq (Ab (Ab (Aa Ad rfl (qm rfl (AP AJ rfl (qm rfl (AP AJ rfl (EA rfl (Ae ?_)))))))))
   refine Ap rfl (fun c13 => ?_) (fun c13 => ?_)
   ·have h := An c13 h
    refine Ab (Aa Ad rfl (qa rfl (Ae ?_)))
    obtain rfl := sj h
    refine Am (sm [] [(4, .e (.one (.pure (.val (.int .i64 1)))))] [] rfl rfl) (Ax ?_)
    exact ⟨⟨[_], ⟨.tmp _ _ rfl, trivial⟩, rfl⟩, trivial⟩
   ·have h := Ao c13 h
    refine Aq (Ab (Aa Ad rfl (qa rfl (Ae ?_))))
    obtain rfl := sj h
    refine Am (sm [] [(4, .e (.one (.pure (.val (.int .i64 0)))))] [] rfl rfl) (Ax ?_)
    exact ⟨⟨[_], ⟨.tmp _ _ rfl, trivial⟩, rfl⟩, trivial⟩
set_option maxRecDepth 10000 in
theorem HO (N : Nat) (p0 : List Int) (r : (List Int)) (h : DH N p0 = some r) : AA Tryz.prog 109 [.e (.one (.pure (.sl (p0.map Bv))))] [(1, r.map Ak)] (.e (.one (.own 0))) := by
 unfold DH at h
 refine Ar (n := 20) (rs := [.tmp 2]) Tryz.func109 rfl rfl rfl (AZ rfl) (AZ rfl) rfl fun w0 S0 => ?_
 refine Ab (Aa Ad rfl (qa rfl (Ae (Ab (Aa Ad rfl (qa rfl (Ae (Ab (Ab (Aa Ad rfl (qa rfl (Ae ?_))))))))))))
 refine AB (L := C8 N p0) h (fun v1 => mk [(0, .e (.one (.pure (.sl (p0.map Bv))))), (3, .e (.one (.own 2001))), (4, .e (.one (.pure (.val (.int .i64 v1.2)))))] [(2001, .vec 1 (v1.1.map Ak))]) (fun v2 => mk [(3, .e (.one (.own 2002)))] [(2002, .vec 1 (v2.map Ak))]) (fun _ _ => rfl) ((BR 3 2003 1 rfl rfl rfl).trans (sm [(2001, 2003)] _ _ rfl rfl)) (fun j1 n1 v1 h => ?_) (fun v2 s h hs => ?_)
 ·unfold C8 at h
  refine Ab (Ab (Aa Ad rfl (qm rfl (qm rfl (AP EB rfl (AR rfl (Ae ?_)))))))
  refine Ap rfl (fun c3 => ?_) (fun c3 => ?_)
  ·have h := An c3 h
   refine Aq (Ab (AD (Aa Ad rfl (qm rfl (qm rfl (qm rfl ?_))))))
   obtain ⟨v4, a4, b4, h⟩ := Aj h
   refine qi EB HM a4 (Ag b4) rfl (qk KO rfl (Gk WN P7 rfl (EX AJ Es Lr rfl ?_)))
   obtain ⟨c5, h⟩ := AW h
   refine Ep (f := Ak) AJ AJ Es Oa Lr c5 rfl (qa rfl (Ae (Aa Ad rfl (qm rfl (AI rfl (qa rfl (Ae ?_)))))))
   exact Av _ h (sm [(2001, 18)] _ _ rfl rfl)
  ·have h := Ao c3 h
   refine AL ?_
   exact Av _ h (sm [(2002, 2001)] _ _ rfl rfl)
 ·refine Am hs (Ab (Aa Ad rfl (qm rfl (qa rfl (Ae ?_)))))
  obtain rfl := sj h
  refine Am (sm [(1000, 2002)] [(2, .e (.one (.own 1000)))] [(1000, .vec 1 (v2.map Ak))] rfl rfl) (Ax ?_)
  exact ⟨⟨[_], ⟨.tmp _ _ rfl, trivial⟩, rfl⟩, ⟨rfl, trivial⟩⟩
set_option maxRecDepth 10000 in
theorem J2 (N : Nat) (p0 : Ah) (p1 : Ah) (r : Int) (h : Eh N p0 p1 = some r) : AA Tryz.prog 68 [.e (.agg [.pure (.sl (p0.fBase.map Ak)), .pure (.sl (p0.fNext.map Ak)), .pure (.sl (p0.fHeld.map Bv))]), .e (.agg [.pure (.sl (p1.fBase.map Ak)), .pure (.sl (p1.fNext.map Ak)), .pure (.sl (p1.fHeld.map Bv))])] [] (.e (.one (.pure (.val (.int .i64 r))))) := by
 unfold Eh at h
 refine Ar (n := 30) (rs := [.tmp 4]) Tryz.func68 rfl rfl rfl (AZ rfl) (AZ rfl) rfl fun w0 S0 => ?_
 refine Ab (Aa Ad rfl (qb rfl (qb rfl (qa rfl (Ae (Ab (Ab (Aa Ad rfl (qf Du rfl (ql Bw rfl (qf Du rfl (ql Bw rfl ?_))))))))))))
 obtain ⟨v1, a1, h⟩ := bind_some h
 refine AG [] (G6 N p0.fBase p1.fBase v1 a1) RJ rfl (qa rfl (Ae (Ab (Aa Ad rfl (qm rfl (Cy rfl (Ae ?_)))))))
 refine Ap rfl (fun c2 => ?_) (fun c2 => ?_)
 ·have h := An c2 h
  refine Ab (Aa Ad rfl (qm rfl (qa rfl (Ae ?_))))
  obtain rfl := sj h
  refine Am (sm [] [(4, .e (.one (.pure (.val (.int .i64 v1)))))] [] rfl rfl) (Ax ?_)
  exact ⟨⟨[_], ⟨.tmp _ _ rfl, trivial⟩, rfl⟩, trivial⟩
 ·have h := Ao c2 h
  refine Aq (Ab (Ab (Aa Ad rfl (qf CU rfl (ql Bw rfl (qf CU rfl (ql Bw rfl ?_)))))))
  obtain ⟨v3, a3, h⟩ := bind_some h
  refine AG [] (G6 N p0.fNext p1.fNext v3 a3) RJ rfl (qa rfl (Ae (Ab (Aa Ad rfl (qm rfl (Cy rfl (Ae ?_)))))))
  refine Ap rfl (fun c4 => ?_) (fun c4 => ?_)
  ·have h := An c4 h
   refine Ab (Aa Ad rfl (qm rfl (qa rfl (Ae ?_))))
   obtain rfl := sj h
   refine Am (sm [] [(4, .e (.one (.pure (.val (.int .i64 v3)))))] [] rfl rfl) (Ax ?_)
   exact ⟨⟨[_], ⟨.tmp _ _ rfl, trivial⟩, rfl⟩, trivial⟩
  ·have h := Ao c4 h
   refine Aq (Ab (Aa Ad rfl (qf DX rfl (ql It rfl ?_))))
   obtain ⟨v5, a5, h⟩ := bind_some h
   refine AG [2001] (HO N p0.fHeld v5 a5) Tb rfl (qf DX rfl (ql It rfl ?_))
   obtain ⟨v6, a6, h⟩ := bind_some h
   refine AG [2002] (HO N p1.fHeld v6 a6) Tb rfl ?_
   obtain ⟨v7, a7, h⟩ := bind_some h
   refine DE [] [2001, 2002] (G6 N v5 v6 v7 a7) RJ Cf rfl (qa rfl (Az (by kernel_rfl) ?_))
   obtain rfl := sj h
   refine Am (sm [] [(4, .e (.one (.pure (.val (.int .i64 v7)))))] [] rfl rfl) (Ax ?_)
   exact ⟨⟨[_], ⟨.tmp _ _ rfl, trivial⟩, rfl⟩, trivial⟩
set_option maxRecDepth 10000 in
theorem GK (N : Nat) (p0 : Ah) (p1 : Ah) (r : Bool) (h : Bz N p0 p1 = some r) : AA Tryz.prog 27 [.e (.agg [.pure (.sl (p0.fBase.map Ak)), .pure (.sl (p0.fNext.map Ak)), .pure (.sl (p0.fHeld.map Bv))]), .e (.agg [.pure (.sl (p1.fBase.map Ak)), .pure (.sl (p1.fNext.map Ak)), .pure (.sl (p1.fHeld.map Bv))])] [] (.e (.one (.pure (.val (.bool r))))) := by
 unfold Bz at h
 refine Ar (n := 9) (rs := [.tmp 4]) Tryz.func27 rfl rfl rfl (AZ rfl) (AZ rfl) rfl fun w0 S0 => ?_
 refine Ab (Aa Ad rfl (qb rfl (qb rfl (qa rfl (Ae (Ab (Aa Ad rfl (qL A6 Ay rfl (qL A6 Ay rfl ?_)))))))))
 obtain ⟨v1, a1, h⟩ := bind_some h
 refine AG [] (J2 N p0 p1 v1 a1) Wf rfl (Cp rfl (qa rfl (Ae ?_)))
 obtain rfl := sj h
 refine Am (sm [] [(4, .e (.one (.pure (.val (.bool ((v1 == 0)))))))] [] rfl rfl) (Ax ?_)
 exact ⟨⟨[_], ⟨.tmp _ _ rfl, trivial⟩, rfl⟩, trivial⟩
set_option maxRecDepth 10000 in
theorem KT (N : Nat) (p0 : List Ah) (p1 : List Ah) (r : Bool) (h : GJ N p0 p1 = some r) : AA Tryz.prog 14 [.e (.one (.pure (.sl (p0.map Ai)))), .e (.one (.pure (.sl (p1.map Ai))))] [] (.e (.one (.pure (.val (.bool r))))) := by
 unfold GJ at h
 refine Ar (n := 27) (rs := [.tmp 4]) Tryz.func14 rfl rfl rfl (AZ rfl) (AZ rfl) rfl fun w0 S0 => ?_
 refine Ab (Aa Ad rfl (qa rfl (Ae (Ab (Ab (Aa Ad rfl (qm rfl (AP AS rfl (qm rfl (AP AS rfl (Cy rfl (Ae ?_))))))))))))
 refine Ap rfl (fun c1 => ?_) (fun c1 => ?_)
 ·have h := An c1 h
  refine Ab (Aa Ad rfl (qa rfl (Ae ?_)))
  obtain rfl := sj h
  refine Am (sm [] [(4, .e (.one (.pure (.val (.bool false)))))] [] rfl rfl) (Ax ?_)
  exact ⟨⟨[_], ⟨.tmp _ _ rfl, trivial⟩, rfl⟩, trivial⟩
 ·have h := Ao c1 h
  refine Aq (Ab (Ab (Aa Ad rfl (qa rfl (Ae ?_)))))
  refine AB (L := EU N p0 p1) h (fun v2 => mk [(0, .e (.one (.pure (.sl (p0.map Ai))))), (1, .e (.one (.pure (.sl (p1.map Ai))))), (5, .e (.one (.pure (.val (.int .i64 v2)))))] []) (fun v3 => mk [] []) (fun _ _ => rfl) (sm [] _ _ rfl rfl) (fun j2 n2 v2 h => ?_) (fun v3 s h hs => ?_)
  ·unfold EU at h
   refine Ab (Ab (Aa Ad rfl (qm rfl (qm rfl (AP AS rfl (AR rfl (Ae ?_)))))))
   refine Ap rfl (fun c4 => ?_) (fun c4 => ?_)
   ·have h := An c4 h
    refine Aq (Ab (AD (Ab (Aa Ad rfl (qm rfl (qm rfl ?_))))))
    obtain ⟨v5, a5, b5, h⟩ := Aj h
    refine qi AS Ay a5 (Ag b5) rfl (qK A6 Ay rfl (qm rfl (qm rfl ?_)))
    obtain ⟨v6, a6, b6, h⟩ := Aj h
    refine qi AS Ay a6 (Ag b6) rfl (qK A6 Ay rfl ?_)
    obtain ⟨v7, a7, h⟩ := bind_some h
    refine AG [] (GK N v5 v6 v7 a7) TK rfl (CC rfl (Az (by kernel_rfl) ?_))
    refine Ap rfl (fun c8 => ?_) (fun c8 => ?_)
    ·have h := An c8 h
     refine Ab (Aa Ad rfl (qa rfl (Ae ?_)))
     obtain rfl := sj h
     refine Am (sm [] [(4, .e (.one (.pure (.val (.bool false)))))] [] rfl rfl) (Ax ?_)
     exact ⟨⟨[_], ⟨.tmp _ _ rfl, trivial⟩, rfl⟩, trivial⟩
    ·have h := Ao c8 h
     refine Aq (Aa Ad rfl (qm rfl (AI rfl (qa rfl (Ae ?_)))))
     exact Av _ h (sm [] _ _ rfl rfl)
   ·have h := Ao c4 h
    refine AL ?_
    exact Av _ h (sm [] _ _ rfl rfl)
  ·refine Am hs (Ab (Aa Ad rfl (qa rfl (Ae ?_))))
   obtain rfl := sj h
   refine Am (sm [] [(4, .e (.one (.pure (.val (.bool true)))))] [] rfl rfl) (Ax ?_)
   exact ⟨⟨[_], ⟨.tmp _ _ rfl, trivial⟩, rfl⟩, trivial⟩
set_option maxRecDepth 10000 in
theorem Fa (N : Nat) (p0 : List Ah) (p1 : Ah) (p2 : (Ah × Ah) → Option Int) (r : Int × Bool) (h : Co N p0 p1 p2 = some r) : AA Tryz.prog 78 [.e (.one (.pure (.sl (p0.map Ai)))), .e (.agg [.pure (.sl (p1.fBase.map Ak)), .pure (.sl (p1.fNext.map Ak)), .pure (.sl (p1.fHeld.map Bv))]), .e (.one (.clo (A0 (Cq true Ai true Ai) A8 p2)))] [] (.tup [.one (.pure (.val (.int .i64 r.1))), .one (.pure (.val (.bool r.2)))]) := by
 unfold Co at h
 refine Ar (n := 49) (rs := [.tmp 6, .tmp 7]) Tryz.func78 rfl rfl rfl (AZ rfl) (AZ rfl) rfl fun w0 S0 => ?_
 refine Ab (Aa Ad rfl (qb rfl (qa rfl (qa rfl (Ae (Ab (Aa Ad rfl (qm rfl (AP AS rfl (qa rfl (Ae (Ab (Aa Ad rfl (qm rfl (qa rfl (qa rfl (Ae (Ab ?_))))))))))))))))))
 refine AB (L := Ba N p0 p1 p2) h (fun v1 => mk [(0, .e (.one (.pure (.sl (p0.map Ai))))), (2, .e (.one (.clo (A0 (Cq true Ai true Ai) A8 p2)))), (4, .e (.one (.ptr 4 0))), (8, .e (.one (.pure (.val (.int .i64 ((p0.length : Int))))))), (9, .e (.one (.pure (.val (.int .i64 v1.1))))), (10, .e (.one (.pure (.val (.int .i64 v1.2)))))] [(4, .box [.pure (.sl (p1.fBase.map Ak)), .pure (.sl (p1.fNext.map Ak)), .pure (.sl (p1.fHeld.map Bv))])]) (fun v2 => mk [(0, .e (.one (.pure (.sl (p0.map Ai))))), (2, .e (.one (.clo (A0 (Cq true Ai true Ai) A8 p2)))), (4, .e (.one (.ptr 4 0))), (8, .e (.one (.pure (.val (.int .i64 ((p0.length : Int))))))), (9, .e (.one (.pure (.val (.int .i64 v2)))))] [(4, .box [.pure (.sl (p1.fBase.map Ak)), .pure (.sl (p1.fNext.map Ak)), .pure (.sl (p1.fHeld.map Bv))])]) (fun _ _ => rfl) (sm [] _ _ rfl rfl) (fun j1 n1 v1 h => ?_) (fun v2 s h hs => ?_)
 ·unfold Ba at h
  refine Ab (Ab (Aa Ad rfl (qm rfl (qm rfl (AR rfl (Ae ?_))))))
  refine Ap rfl (fun c3 => ?_) (fun c3 => ?_)
  ·have h := An c3 h
   refine Aq (AD (Ab (Aa Ad rfl (qm rfl (qm rfl (AI rfl (Gk Rw Mb rfl (HP rfl (by decide) (Gk MJ P7 rfl (qa rfl (Ae (Ab (Aa Ad rfl (qm rfl (qm rfl (qm rfl ?_))))))))))))))))
   obtain ⟨v4, a4, b4, h⟩ := Aj h
   refine qi AS Ay a4 (Ag b4) rfl (qK A6 Ay rfl (qL A6 Ay rfl ?_))
   obtain ⟨v5, a5, h⟩ := bind_some h
   refine CK (ds0 := [_, _]) (ar := (Cq true Ai true Ai) ((v4, p1))) (.p rfl) rfl rfl ⟨rfl, rfl, trivial⟩ rfl rfl rfl (CA (Dk _ _ _ _ Bu Bu) a5) ?_
   refine AR rfl (Az (by kernel_rfl) ?_)
   refine Ap rfl (fun c6 => ?_) (fun c6 => ?_)
   ·have h := An c6 h
    refine Aa Ad rfl (qm rfl (AI rfl (qa rfl (Ae ?_))))
    exact Av _ h (sm [] _ _ rfl rfl)
   ·have h := Ao c6 h
    refine Aa Ad rfl (qm rfl (qa rfl (Ae ?_)))
    exact Av _ h (sm [] _ _ rfl rfl)
  ·have h := Ao c3 h
   refine AL ?_
   exact Av _ h (sm [] _ _ rfl rfl)
 ·refine Am hs ?_
  refine AK h (fun v7 => mk [(6, .e (.one (.pure (.val (.int .i64 v2))))), (7, .e (.one (.pure (.val (.bool v7)))))] []) (fun j7 h => ?_) (fun v7 h => ?_)
  ·refine Aa Ad rfl (qm rfl (qm rfl (qm rfl (AR rfl (qm rfl ?_)))))
   refine AC (t := 39) rfl (fun c8 => ?_) (fun c8 => ?_)
   ·have h := An c8 h
    refine qm rfl (qm rfl (qm rfl ?_))
    obtain ⟨v9, a9, b9, h⟩ := Aj h
    refine qi AS Ay a9 (Ag b9) rfl (qK A6 Ay rfl (qL A6 Ay rfl ?_))
    obtain ⟨v10, a10, h⟩ := bind_some h
    refine CK (ds0 := [_, _]) (ar := (Cq true Ai true Ai) ((v9, p1))) (.g rfl rfl) rfl rfl ⟨rfl, rfl, trivial⟩ rfl rfl rfl (CA (Dk _ _ _ _ Bu Bu) a10) ?_
    refine Cp rfl (qp rfl (qa rfl (qa rfl (Az (by kernel_rfl) ?_))))
    exact Av _ h (sm [] _ _ rfl rfl)
   ·have h := Ao c8 h
    refine qn rfl (qn rfl (qn rfl (qn rfl (qn rfl (qn rfl (qn rfl (qn rfl (qp rfl (qa rfl (qa rfl (Az (by kernel_rfl) ?_)))))))))))
    exact Av _ h (sm [] _ _ rfl rfl)
  ·obtain rfl := sj h
   refine Am (sm [] [(6, .e (.one (.pure (.val (.int .i64 v2))))), (7, .e (.one (.pure (.val (.bool v7)))))] [] rfl rfl) (Ax ?_)
   exact ⟨⟨[_, _], ⟨.tmp _ _ rfl, ⟨.tmp _ _ rfl, trivial⟩⟩, rfl⟩, trivial⟩
set_option maxRecDepth 10000 in
theorem JX (N : Nat) (p0 : List Ah) (p1 : Ah) (r : Bool) (h : Gx N p0 p1 = some r) : AA Tryz.prog 47 [.e (.one (.pure (.sl (p0.map Ai)))), .e (.agg [.pure (.sl (p1.fBase.map Ak)), .pure (.sl (p1.fNext.map Ak)), .pure (.sl (p1.fHeld.map Bv))])] [] (.e (.one (.pure (.val (.bool r))))) := by
 unfold Gx at h
 refine Ar (n := 14) (rs := [.tmp 4]) Tryz.func47 rfl rfl rfl (AZ rfl) (AZ rfl) rfl fun w0 S0 => ?_
 refine Ab (Aa Ad rfl (qb rfl (qa rfl (Ae (Ab (Aa Ad rfl (qm rfl (qL A6 Ay rfl ?_))))))))
 obtain ⟨v1, a1, h⟩ := bind_some h
 refine AG [] (AA.weak (ds' := [.e (.one (.pure (.sl (p0.map Ai)))), .e (.agg [.pure (.sl (p1.fBase.map Ak)), .pure (.sl (p1.fNext.map Ak)), .pure (.sl (p1.fHeld.map Bv))]), .e (.one (.fnc 46))]) (Fa N p0 p1 ((fun (x : Ah × Ah) => E7 N x.1 x.2)) v1 a1) ⟨(fun _ _ _ hh => hh), (fun _ _ _ hh => hh), (fun _ _ _ hh => Ok Um (fun ar t ht => by obtain ⟨x, r, rfl, hq, rfl⟩ := HV ht; exact Jd N x.1 x.2 r hq) hh), trivial⟩) V9 rfl ?_
 refine qm rfl (qx rfl (qx rfl (qa rfl (qa rfl (Ae (Ab (Aa Ad rfl (qm rfl (qa rfl (Ae ?_))))))))))
 obtain rfl := sj h
 refine Am (sm [] [(4, .e (.one (.pure (.val (.bool v1.2)))))] [] rfl rfl) (Ax ?_)
 exact ⟨⟨[_], ⟨.tmp _ _ rfl, trivial⟩, rfl⟩, trivial⟩
set_option maxRecDepth 10000 in
theorem IK (N : Nat) (p0 : Al) (p1 : List Ah) (r : Bool) (h : F3 N p0 p1 = some r) : AA Tryz.prog 15 [.e (.agg [.pure (.sl (p0.fVersions.map Ak)), .pure (.sl (p0.fNow.map Ak)), .pure (.sl (p0.fTarget.map Ak)), .pure (.sl (p0.fTables.map Au))]), .e (.one (.pure (.sl (p1.map Ai))))] [] (.e (.one (.pure (.val (.bool r))))) := by
 unfold F3 at h
 refine Ar (n := 122) (rs := [.tmp 4]) Tryz.func15 rfl rfl rfl (AZ rfl) (AZ rfl) rfl fun w0 S0 => ?_
 refine Ab (Aa Ad rfl (qb rfl (qa rfl (Ae (Ab (Aa Ad rfl (qL EE Ek rfl ?_)))))))
 obtain ⟨v1, a1, h⟩ := bind_some h
 refine AG [2001, 2002, 2003] (L5 N p0 v1 a1) UB rfl (qm rfl (qx rfl (qx rfl (qz DN rfl (qs Ay rfl (qa rfl (Ae (Ab (Ab (Aa Ad rfl (qm rfl (Cy rfl (Ae ?_)))))))))))))
 refine Ap rfl (fun c2 => ?_) (fun c2 => ?_)
 ·have h := An c2 h
  refine Ab (Aa Ad rfl (qa rfl (Ae ?_)))
  obtain rfl := sj h
  refine Am (sm [] [(4, .e (.one (.pure (.val (.bool false)))))] [] rfl rfl) (Ax ?_)
  exact ⟨⟨[_], ⟨.tmp _ _ rfl, trivial⟩, rfl⟩, trivial⟩
 ·have h := Ao c2 h
  refine Aq (Ab (Ab (Aa Ad rfl (qL EE Ek rfl (qL A6 Ay rfl ?_)))))
  obtain ⟨v3, a3, h⟩ := bind_some h
  refine DE [] [2001, 2002, 2003] (HJ N p0 v1.1 v3 a3) Rc Cf rfl (qm rfl (qx rfl (qx rfl (qa rfl (qa rfl (Ae (Ab (Aa Ad rfl (qm rfl (CC rfl (Ae ?_)))))))))))
  refine Ap rfl (fun c4 => ?_) (fun c4 => ?_)
  ·have h := An c4 h
   refine Ab (Aa Ad rfl (qm rfl (AP AS rfl (Cp rfl (qa rfl (Ae ?_))))))
   obtain rfl := sj h
   refine Am (sm [] [(4, .e (.one (.pure (.val (.bool (((p1.length : Int) == 0)))))))] [] rfl rfl) (Ax ?_)
   exact ⟨⟨[_], ⟨.tmp _ _ rfl, trivial⟩, rfl⟩, trivial⟩
  ·have h := Ao c4 h
   refine Aq (Ab (Ab (Aa Ad rfl (qm rfl (AP AS rfl (qm rfl (Ae ?_)))))))
   refine AB (L := zFS N p0 p1) h (fun v5 => mk [(1, .e (.one (.pure (.sl (p1.map Ai))))), (2, .e (.one (.ptr 2 0))), (5, .e (.one (.ptr 5 0))), (41, .e (.one (.pure (.sl (p1.map Ai))))), (42, .e (.one (.pure (.val (.int .i64 ((p1.length : Int))))))), (43, .e (.one (.pure (.val (.int .i64 v5)))))] [(2, .box [.pure (.sl (p0.fVersions.map Ak)), .pure (.sl (p0.fNow.map Ak)), .pure (.sl (p0.fTarget.map Ak)), .pure (.sl (p0.fTables.map Au))]), (5, .box [.own 2004, .own 2005, .own 2006]), (2004, .vec 1 (v1.1.fBase.map Ak)), (2005, .vec 1 (v1.1.fNext.map Ak)), (2006, .vec 1 (v1.1.fHeld.map Bv))]) (fun v6 => mk [(1, .e (.one (.pure (.sl (p1.map Ai))))), (2, .e (.one (.ptr 2 0))), (5, .e (.one (.ptr 5 0)))] [(2, .box [.pure (.sl (p0.fVersions.map Ak)), .pure (.sl (p0.fNow.map Ak)), .pure (.sl (p0.fTarget.map Ak)), .pure (.sl (p0.fTables.map Au))]), (5, .box [.own 2007, .own 2008, .own 2009]), (2007, .vec 1 (v1.1.fBase.map Ak)), (2008, .vec 1 (v1.1.fNext.map Ak)), (2009, .vec 1 (v1.1.fHeld.map Bv))]) (fun _ _ => rfl) (sm [(2004, 2001), (2005, 2002), (2006, 2003)] _ _ rfl rfl) (fun j5 n5 v5 h => ?_) (fun v6 s h hs => ?_)
   ·unfold zFS at h
    refine Ab (Aa Ad rfl (AR rfl (Ae (Ab ?_))))
    refine Ap rfl (fun c7 => ?_) (fun c7 => ?_)
    ·have h := An c7 h
     refine Aq (Ab (AD (Ab (Aa Ad rfl (qm rfl ?_)))))
     obtain ⟨v8, a8, b8, h⟩ := Aj h
     refine qi AS Ay a8 (Ag b8) rfl (qK A6 Ay rfl (qz DN rfl (qa rfl (qs Ay rfl (Ae (Ab ?_))))))
     refine AK h (fun v9 => mk [(1, .e (.one (.pure (.sl (p1.map Ai))))), (2, .e (.one (.ptr 2 0))), (5, .e (.one (.ptr 5 0))), (10, .e (.one (.ptr 10 0))), (41, .e (.one (.pure (.sl (p1.map Ai))))), (42, .e (.one (.pure (.val (.int .i64 ((p1.length : Int))))))), (43, .e (.one (.pure (.val (.int .i64 v5))))), (59, .e (.one (.pure (.val (.bool v9)))))] [(2, .box [.pure (.sl (p0.fVersions.map Ak)), .pure (.sl (p0.fNow.map Ak)), .pure (.sl (p0.fTarget.map Ak)), .pure (.sl (p0.fTables.map Au))]), (5, .box [.own 2010, .own 2011, .own 2012]), (10, .box [.pure (.sl (v8.fBase.map Ak)), .pure (.sl (v8.fNext.map Ak)), .pure (.sl (v8.fHeld.map Bv))]), (2010, .vec 1 (v1.1.fBase.map Ak)), (2011, .vec 1 (v1.1.fNext.map Ak)), (2012, .vec 1 (v1.1.fHeld.map Bv))]) (fun j9 h => ?_) (fun v9 h => ?_)
     ·refine Aa Ad rfl (qm rfl (EA rfl (qm rfl ?_)))
      refine AC (t := 50) rfl (fun c10 => ?_) (fun c10 => ?_)
      ·have h := An c10 h
       refine qm rfl (qm rfl (Bb rfl ?_))
       obtain ⟨v11, a11, b11, h⟩ := Aj h
       refine qi AS Ay a11 (Ag b11) rfl (qK A6 Ay rfl (qL A6 Ay rfl ?_))
       obtain ⟨v12, a12, h⟩ := bind_some h
       refine AG [] (Jd N v11 v8 v12 a12) Um rfl (Dl rfl (qp rfl (Az (by kernel_rfl) ?_)))
       exact Av _ h (sm [(2010, 2004), (2011, 2005), (2012, 2006)] _ _ rfl rfl)
      ·have h := Ao c10 h
       refine qn rfl (qn rfl (qn rfl (qn rfl (qn rfl (qn rfl (qn rfl (qn rfl (qp rfl (Az (by kernel_rfl) ?_)))))))))
       exact Av _ h (sm [(2010, 2004), (2011, 2005), (2012, 2006)] _ _ rfl rfl)
     ·refine Ap rfl (fun c13 => ?_) (fun c13 => ?_)
      ·have h := An c13 h
       refine Ab (Aa Ad rfl (qa rfl (Ae ?_)))
       obtain rfl := sj h
       refine Am (sm [] [(4, .e (.one (.pure (.val (.bool false)))))] [] rfl rfl) (Ax ?_)
       exact ⟨⟨[_], ⟨.tmp _ _ rfl, trivial⟩, rfl⟩, trivial⟩
      ·have h := Ao c13 h
       refine Aq (Ab (Aa Ad rfl (qL EE Ek rfl (qL A6 Ay rfl ?_))))
       obtain ⟨v14, a14, h⟩ := bind_some h
       refine AG [] (HJ N p0 v8 v14 a14) Rc rfl (qm rfl (qx rfl (qx rfl (qa rfl (qa rfl (Ae ?_))))))
       refine AK h (fun v15 => mk [(1, .e (.one (.pure (.sl (p1.map Ai))))), (2, .e (.one (.ptr 2 0))), (5, .e (.one (.ptr 5 0))), (41, .e (.one (.pure (.sl (p1.map Ai))))), (42, .e (.one (.pure (.val (.int .i64 ((p1.length : Int))))))), (43, .e (.one (.pure (.val (.int .i64 v5))))), (76, .e (.one (.pure (.val (.bool v15)))))] [(2, .box [.pure (.sl (p0.fVersions.map Ak)), .pure (.sl (p0.fNow.map Ak)), .pure (.sl (p0.fTarget.map Ak)), .pure (.sl (p0.fTables.map Au))]), (5, .box [.own 2013, .own 2014, .own 2015]), (2013, .vec 1 (v1.1.fBase.map Ak)), (2014, .vec 1 (v1.1.fNext.map Ak)), (2015, .vec 1 (v1.1.fHeld.map Bv))]) (fun j15 h => ?_) (fun v15 h => ?_)
       ·refine Aa Ad rfl (qm rfl (CC rfl (qm rfl ?_)))
        refine AC (t := 68) rfl (fun c16 => ?_) (fun c16 => ?_)
        ·have h := An c16 h
         refine qn rfl (qn rfl (qp rfl (qm rfl (qn rfl (qn rfl (qn rfl (qp rfl (Ae ?_))))))))
         exact Av _ h (sm [(2013, 2010), (2014, 2011), (2015, 2012)] _ _ rfl rfl)
        ·have h := Ao c16 h
         refine qm rfl (Cy rfl (qp rfl (qm rfl ?_)))
         refine AC (t := 72) rfl (fun c17 => ?_) (fun c17 => ?_)
         ·have h := An c17 h
          refine qn rfl (qn rfl (qn rfl (qp rfl (Ae ?_))))
          exact Av _ h (sm [(2013, 2010), (2014, 2011), (2015, 2012)] _ _ rfl rfl)
         ·have h := Ao c17 h
          refine qL EE Ek rfl (qL A6 Ay rfl ?_)
          obtain ⟨v18, a18, h⟩ := bind_some h
          refine AG [] (MI N p0 v8 v18 a18) U9 rfl (qp rfl (Ae ?_))
          exact Av _ h (sm [(2013, 2010), (2014, 2011), (2015, 2012)] _ _ rfl rfl)
       ·refine Ap rfl (fun c19 => ?_) (fun c19 => ?_)
        ·have h := An c19 h
         refine Ab (Aa Ad rfl (qa rfl (Ae ?_)))
         obtain rfl := sj h
         refine Am (sm [] [(4, .e (.one (.pure (.val (.bool false)))))] [] rfl rfl) (Ax ?_)
         exact ⟨⟨[_], ⟨.tmp _ _ rfl, trivial⟩, rfl⟩, trivial⟩
        ·have h := Ao c19 h
         refine Aq (Aa Ad rfl (AI rfl (qm rfl (Ae ?_))))
         exact Av _ h (sm [(2004, 2013), (2005, 2014), (2006, 2015)] _ _ rfl rfl)
    ·have h := Ao c7 h
     refine AL ?_
     exact Av _ h (sm [(2007, 2004), (2008, 2005), (2009, 2006)] _ _ rfl rfl)
   ·refine Am hs (Ab (Ab (Aa Ad rfl (qm rfl (qL A6 Ay rfl ?_)))))
    obtain ⟨v20, a20, h⟩ := bind_some h
    refine DE [] [2007, 2008, 2009] (JX N p1 v1.1 v20 a20) VO Cf rfl (CC rfl (Ae ?_))
    refine Ap rfl (fun c21 => ?_) (fun c21 => ?_)
    ·have h := An c21 h
     refine Ab (Aa Ad rfl (qa rfl (Ae ?_)))
     obtain rfl := sj h
     refine Am (sm [] [(4, .e (.one (.pure (.val (.bool false)))))] [] rfl rfl) (Ax ?_)
     exact ⟨⟨[_], ⟨.tmp _ _ rfl, trivial⟩, rfl⟩, trivial⟩
    ·have h := Ao c21 h
     refine Aq (Ab (Ab (Aa Ad rfl (qm rfl (AP AS rfl (qm rfl (Ae ?_)))))))
     refine AB (L := FE N p0 p1) h (fun v22 => mk [(1, .e (.one (.pure (.sl (p1.map Ai))))), (2, .e (.one (.ptr 2 0))), (82, .e (.one (.pure (.sl (p1.map Ai))))), (83, .e (.one (.pure (.val (.int .i64 ((p1.length : Int))))))), (84, .e (.one (.pure (.val (.int .i64 v22)))))] [(2, .box [.pure (.sl (p0.fVersions.map Ak)), .pure (.sl (p0.fNow.map Ak)), .pure (.sl (p0.fTarget.map Ak)), .pure (.sl (p0.fTables.map Au))])]) (fun v23 => mk [] []) (fun _ _ => rfl) (sm [] _ _ rfl rfl) (fun j22 n22 v22 h => ?_) (fun v23 s h hs => ?_)
     ·unfold FE at h
      refine Ab (Aa Ad rfl (AR rfl (Ae (Ab ?_))))
      refine Ap rfl (fun c24 => ?_) (fun c24 => ?_)
      ·have h := An c24 h
       refine Aq (Ab (AD (Ab (Aa Ad rfl ?_))))
       obtain ⟨v25, a25, b25, h⟩ := Aj h
       refine qi AS Ay a25 (Ag b25) rfl (qK A6 Ay rfl (qz DN rfl (qs Ay rfl (Ae (Ab (Aa Ad rfl (qL EE Ek rfl (qL A6 Ay rfl ?_))))))))
       obtain ⟨v26, a26, h⟩ := bind_some h
       refine AG [2016] (IH N p0 v25 v26 a26) T3 rfl (qm rfl (qx rfl (qx rfl (qa rfl (qa rfl (Ae (Ab (Aa Ad rfl (qm rfl (Fz FR rfl (qm rfl (Ae ?_))))))))))))
       refine AB (L := FI N p0 p1 v25 v26) h (fun v27 => mk [(1, .e (.one (.pure (.sl (p1.map Ai))))), (2, .e (.one (.ptr 2 0))), (14, .e (.one (.ptr 14 0))), (82, .e (.one (.pure (.sl (p1.map Ai))))), (83, .e (.one (.pure (.val (.int .i64 ((p1.length : Int))))))), (84, .e (.one (.pure (.val (.int .i64 v22))))), (94, .e (.one (.own 2017))), (95, .e (.one (.pure (.val (.int .i64 ((v26.1.length : Int))))))), (96, .e (.one (.pure (.val (.int .i64 v27)))))] [(2, .box [.pure (.sl (p0.fVersions.map Ak)), .pure (.sl (p0.fNow.map Ak)), .pure (.sl (p0.fTarget.map Ak)), .pure (.sl (p0.fTables.map Au))]), (14, .box [.pure (.sl (v25.fBase.map Ak)), .pure (.sl (v25.fNext.map Ak)), .pure (.sl (v25.fHeld.map Bv))]), (2017, .vec 3 (v26.1.map A3))]) (fun v28 => mk [(1, .e (.one (.pure (.sl (p1.map Ai))))), (2, .e (.one (.ptr 2 0))), (82, .e (.one (.pure (.sl (p1.map Ai))))), (83, .e (.one (.pure (.val (.int .i64 ((p1.length : Int))))))), (84, .e (.one (.pure (.val (.int .i64 v22)))))] [(2, .box [.pure (.sl (p0.fVersions.map Ak)), .pure (.sl (p0.fNow.map Ak)), .pure (.sl (p0.fTarget.map Ak)), .pure (.sl (p0.fTables.map Au))])]) (fun _ _ => rfl) (sm [(2017, 2016)] _ _ rfl rfl) (fun j27 n27 v27 h => ?_) (fun v28 s h hs => ?_)
       ·unfold FI at h
        refine Ab (Aa Ad rfl (AR rfl (Ae (Ab ?_))))
        refine Ap rfl (fun c29 => ?_) (fun c29 => ?_)
        ·have h := An c29 h
         refine Aq (Ab (AD (Ab (Aa Ad rfl ?_))))
         obtain ⟨v30, a30, b30, h⟩ := Aj h
         refine qI FR FQ a30 (Ag b30) rfl (qJ JP FQ (Ag b30) rfl (qz J9 rfl (qs FQ rfl (Ae (Ab (Aa Ad rfl (qL EE Ek rfl (qL A6 Ay rfl (qL JP FQ rfl ?_)))))))))
         obtain ⟨v31, a31, h⟩ := bind_some h
         refine AG [2018, 2019, 2020] (JS N p0 v25 v30 v31 a31) Uc rfl (qm rfl (qx rfl (qx rfl (qz DN rfl (qs Ay rfl (qa rfl (Ae (Ab (Aa Ad rfl (qL EE Ek rfl (qL A6 Ay rfl ?_)))))))))))
         obtain ⟨v32, a32, h⟩ := bind_some h
         refine DE [] [2018, 2019, 2020] (HJ N p0 v31.1 v32 a32) Rc Cf rfl (qm rfl (qx rfl (qx rfl (qa rfl (qa rfl (Ae ?_))))))
         refine AK h (fun v33 => mk [(1, .e (.one (.pure (.sl (p1.map Ai))))), (2, .e (.one (.ptr 2 0))), (14, .e (.one (.ptr 14 0))), (82, .e (.one (.pure (.sl (p1.map Ai))))), (83, .e (.one (.pure (.val (.int .i64 ((p1.length : Int))))))), (84, .e (.one (.pure (.val (.int .i64 v22))))), (94, .e (.one (.own 2021))), (95, .e (.one (.pure (.val (.int .i64 ((v26.1.length : Int))))))), (96, .e (.one (.pure (.val (.int .i64 v27))))), (119, .e (.one (.pure (.val (.bool v33)))))] [(2, .box [.pure (.sl (p0.fVersions.map Ak)), .pure (.sl (p0.fNow.map Ak)), .pure (.sl (p0.fTarget.map Ak)), .pure (.sl (p0.fTables.map Au))]), (14, .box [.pure (.sl (v25.fBase.map Ak)), .pure (.sl (v25.fNext.map Ak)), .pure (.sl (v25.fHeld.map Bv))]), (2021, .vec 3 (v26.1.map A3))]) (fun j33 h => ?_) (fun v33 h => ?_)
         ·refine Aa Ad rfl (qm rfl (qm rfl ?_))
          refine AC (t := 114) rfl (fun c34 => ?_) (fun c34 => ?_)
          ·have h := An c34 h
           refine qm rfl (qL A6 Ay rfl ?_)
           obtain ⟨v35, a35, h⟩ := bind_some h
           refine DE [] [2018, 2019, 2020] (JX N p1 v31.1 v35 a35) VO Cf rfl (CC rfl (qp rfl (Ae ?_)))
           exact Av _ h (sm [(2021, 2017)] _ _ rfl rfl)
          ·have h := Ao c34 h
           refine qn rfl (qn rfl (qn rfl (qn rfl (qp rfl (Ae ?_)))))
           exact Av _ h (sm [(2021, 2017)] _ _ rfl rfl)
         ·refine Ap rfl (fun c36 => ?_) (fun c36 => ?_)
          ·have h := An c36 h
           refine Ab (Aa Ad rfl (qa rfl (Ae ?_)))
           obtain rfl := sj h
           refine Am (sm [] [(4, .e (.one (.pure (.val (.bool false)))))] [] rfl rfl) (Ax ?_)
           exact ⟨⟨[_], ⟨.tmp _ _ rfl, trivial⟩, rfl⟩, trivial⟩
          ·have h := Ao c36 h
           refine Aq (Aa Ad rfl (AI rfl (qm rfl (Ae ?_))))
           exact Av _ h (sm [(2017, 2021)] _ _ rfl rfl)
        ·have h := Ao c29 h
         refine AL ?_
         exact Av _ h (sm [] _ _ rfl rfl)
       ·refine Am hs (Aa Ad rfl (AI rfl (qm rfl (Ae ?_))))
        exact Av _ h (sm [] _ _ rfl rfl)
      ·have h := Ao c24 h
       refine AL ?_
       exact Av _ h (sm [] _ _ rfl rfl)
     ·refine Am hs (Ab (Aa Ad rfl (qa rfl (Ae ?_))))
      obtain rfl := sj h
      refine Am (sm [] [(4, .e (.one (.pure (.val (.bool true)))))] [] rfl rfl) (Ax ?_)
      exact ⟨⟨[_], ⟨.tmp _ _ rfl, trivial⟩, rfl⟩, trivial⟩
set_option maxRecDepth 10000 in
theorem Jh (N : Nat) (p0 : List Af) (p1 : List Af) (r : Bool) (h : Fd N p0 p1 = some r) : AA Tryz.prog 24 [.e (.one (.pure (.sl (p0.map Ac)))), .e (.one (.pure (.sl (p1.map Ac))))] [] (.e (.one (.pure (.val (.bool r))))) := by
 unfold Fd at h
 refine Ar (n := 26) (rs := [.tmp 4]) Tryz.func24 rfl rfl rfl (AZ rfl) (AZ rfl) rfl fun w0 S0 => ?_
 refine Ab (Aa Ad rfl (qa rfl (Ae (Ab (Ab (Aa Ad rfl (qm rfl (AP A2 rfl (qm rfl (AP A2 rfl (Cy rfl (Ae ?_))))))))))))
 refine Ap rfl (fun c1 => ?_) (fun c1 => ?_)
 ·have h := An c1 h
  refine Ab (Aa Ad rfl (qa rfl (Ae ?_)))
  obtain rfl := sj h
  refine Am (sm [] [(4, .e (.one (.pure (.val (.bool false)))))] [] rfl rfl) (Ax ?_)
  exact ⟨⟨[_], ⟨.tmp _ _ rfl, trivial⟩, rfl⟩, trivial⟩
 ·have h := Ao c1 h
  refine Aq (Ab (Ab (Aa Ad rfl (qa rfl (Ae ?_)))))
  refine AB (L := DY N p0 p1) h (fun v2 => mk [(0, .e (.one (.pure (.sl (p0.map Ac))))), (1, .e (.one (.pure (.sl (p1.map Ac))))), (5, .e (.one (.pure (.val (.int .i64 v2)))))] []) (fun v3 => mk [] []) (fun _ _ => rfl) (sm [] _ _ rfl rfl) (fun j2 n2 v2 h => ?_) (fun v3 s h hs => ?_)
  ·unfold DY at h
   refine Ab (Ab (Aa Ad rfl (qm rfl (qm rfl (AP A2 rfl (AR rfl (Ae ?_)))))))
   refine Ap rfl (fun c4 => ?_) (fun c4 => ?_)
   ·have h := An c4 h
    refine Aq (Ab (AD (Ab (Aa Ad rfl (qm rfl (qm rfl ?_))))))
    obtain ⟨v5, a5, b5, h⟩ := Aj h
    refine qi A2 AN a5 (Ag b5) rfl (qK Dp AN rfl (qm rfl (qm rfl ?_)))
    obtain ⟨v6, a6, b6, h⟩ := Aj h
    refine qi A2 AN a6 (Ag b6) rfl (qK Dp AN rfl ?_)
    refine To [.int .i64 v5.fTable, .int .i64 v5.fWriter, .int .i64 v5.fReader] [.int .i64 v6.fTable, .int .i64 v6.fWriter, .int .i64 v6.fReader] (.p rfl) rfl rfl Qg rfl ?_
    refine Az (by kernel_rfl) ?_
    refine Ap rfl (fun c7 => ?_) (fun c7 => ?_)
    ·have h := An c7 h
     refine Ab (Aa Ad rfl (qa rfl (Ae ?_)))
     obtain rfl := sj h
     refine Am (sm [] [(4, .e (.one (.pure (.val (.bool false)))))] [] rfl rfl) (Ax ?_)
     exact ⟨⟨[_], ⟨.tmp _ _ rfl, trivial⟩, rfl⟩, trivial⟩
    ·have h := Ao c7 h
     refine Aq (Aa Ad rfl (qm rfl (AI rfl (qa rfl (Ae ?_)))))
     exact Av _ h (sm [] _ _ rfl rfl)
   ·have h := Ao c4 h
    refine AL ?_
    exact Av _ h (sm [] _ _ rfl rfl)
  ·refine Am hs (Ab (Aa Ad rfl (qa rfl (Ae ?_))))
   obtain rfl := sj h
   refine Am (sm [] [(4, .e (.one (.pure (.val (.bool true)))))] [] rfl rfl) (Ax ?_)
   exact ⟨⟨[_], ⟨.tmp _ _ rfl, trivial⟩, rfl⟩, trivial⟩
end Go.Lift

/- That the code does what the shallow programs do, function by function. Written by a program (gen.py). -/
namespace Go.Lift
open Go.RowKit
open Go.Proofs
set_option maxRecDepth 10000 in
theorem Ik (N : Nat) (r : Bool) (h : EJ N = some r) : AA Tryz.prog 11 [] [] (.e (.one (.pure (.val (.bool r))))) := by
 unfold EJ at h
 refine Ar (n := 123) (rs := [.tmp 0]) Tryz.func11 rfl rfl rfl (AZ rfl) (AZ rfl) rfl fun w0 S0 => ?_
 refine Ab (Aa Ad rfl (qa rfl (Ae (Ab (Aa Ad rfl (EX AJ Es Lr rfl (EX AJ Es Lr rfl (EX EB HM Pr rfl (CO DN Jv rfl (qz DN rfl (qs Ay rfl (Ae (Ab (Aa Ad rfl (EX AJ Es Lr rfl (EX AJ Es Lr rfl (EX EB HM Pr rfl (CO DN Jv rfl (qz DN rfl (qs Ay rfl (Ae (Ab (Aa Ad rfl ?_)))))))))))))))))))))))
 obtain ⟨v1, a1, h⟩ := bind_some h
 refine AG [2001, 2002, 2003, 2004] (Dm N v1 a1) Pw rfl (En (Bl 2001 _ _ rfl rfl) (En (Bl 2002 _ _ rfl rfl) (En (Bl 2003 _ _ rfl rfl) (En (Bl 2004 _ _ rfl rfl) ?_))))
 obtain ⟨v2, a2, h⟩ := bind_some h
 refine AG [2005] (MU N v1 v2 a2) WM rfl (qm rfl (qx rfl (qx rfl (qa rfl (qa rfl (Ae (Ab (Aa Ad rfl ?_))))))))
 obtain ⟨v3, a3, h⟩ := bind_some h
 refine AG [2006, 2007, 2008, 2009] (Dm N v3 a3) Pw rfl (qm rfl (En (Bl 2006 _ _ rfl rfl) (En (Bl 2007 _ _ rfl rfl) (En (Bl 2008 _ _ rfl rfl) (En (Bl 2009 _ _ rfl rfl) (En (Bl 2005 _ _ rfl rfl) ?_))))))
 obtain ⟨v4, a4, h⟩ := bind_some h
 refine AG [2010] (JW N v3 v2.1 v4 a4) Uw rfl (qm rfl (qx rfl (qx rfl (qa rfl (qa rfl (Ae (Ab (Aa Ad rfl ?_))))))))
 obtain ⟨v5, a5, h⟩ := bind_some h
 refine AG [2011, 2012, 2013, 2014] (Dm N v5 a5) Pw rfl (qm rfl ?_)
 obtain ⟨v6, a6, h⟩ := bind_some h
 refine DE [2015] [2011, 2012, 2013, 2014] (LP N v5 v2.1 v6 a6) Wq (E3 (fun _ => rfl) Cf) rfl (qm rfl (qx rfl (qx rfl (qa rfl (qa rfl (Ae (Ab (Aa Ad rfl ?_))))))))
 obtain ⟨v7, a7, h⟩ := bind_some h
 refine AG [2016, 2017, 2018, 2019] (Dm N v7 a7) Pw rfl (qm rfl ?_)
 obtain ⟨v8, a8, h⟩ := bind_some h
 refine DE [2020, 2021, 2022] [2016, 2017, 2018, 2019] (JD N v7 v2.1 v8 a8) Vw (E3 (fun _ => rfl) (E3 (fun _ => rfl) (E3 (fun _ => rfl) Cf))) rfl (qm rfl (qx rfl (qx rfl (qx rfl (qz DN rfl (qa rfl (qs Ay rfl (qa rfl (Ae (Ab (Aa Ad rfl (CO Ko QQ rfl (qz Ko rfl (qs AN rfl (Ae ?_)))))))))))))))
 refine AK h (fun v9 => mk [(1, .e (.one (.ptr 1 0))), (2, .e (.one (.ptr 2 0))), (3, .e (.one (.pure (.sl (v2.1.map Ai))))), (5, .e (.one (.own 2032))), (7, .e (.one (.own 2033))), (9, .e (.one (.pure (.val (.int .i64 v8.1))))), (10, .e (.one (.ptr 10 0))), (12, .e (.one (.ptr 12 0))), (13, .e (.one (.pure (.val (.bool v9)))))] [(1, .box [.own 2023, .own 2024, .own 2025]), (2, .box [.own 2026, .own 2027, .own 2028]), (10, .box [.own 2029, .own 2030, .own 2031]), (12, .box [.pure (.val (.int .i64 0)), .pure (.val (.int .i64 1)), .pure (.val (.int .i64 0))]), (2023, .vec 1 ((([0] : List Int)).map Ak)), (2024, .vec 1 ((([(-1)] : List Int)).map Ak)), (2025, .vec 1 ((([0] : List Int)).map Bv)), (2026, .vec 1 ((([1] : List Int)).map Ak)), (2027, .vec 1 ((([(-1)] : List Int)).map Ak)), (2028, .vec 1 ((([0] : List Int)).map Bv)), (2029, .vec 1 (v8.2.1.fBase.map Ak)), (2030, .vec 1 (v8.2.1.fNext.map Ak)), (2031, .vec 1 (v8.2.1.fHeld.map Bv)), (2032, .vec 9 (v4.1.map D3)), (2033, .vec 3 (v6.1.map Ac))]) (fun j9 h => ?_) (fun v9 h => ?_)
 ·refine Aa Ad rfl (qm rfl (Cp rfl (qm rfl ?_)))
  refine AC (t := 49) rfl (fun c10 => ?_) (fun c10 => ?_)
  ·have h := An c10 h
   refine qm rfl (Cp rfl (qp rfl (qm rfl ?_)))
   refine AC (t := 53) rfl (fun c11 => ?_) (fun c11 => ?_)
   ·have h := An c11 h
    refine qm rfl (Cp rfl (qp rfl (qm rfl ?_)))
    refine AC (t := 57) rfl (fun c12 => ?_) (fun c12 => ?_)
    ·have h := An c12 h
     refine qm rfl (Cp rfl (qp rfl (qa rfl (Ae ?_))))
     exact Av _ h (sm [(2023, 14), (2024, 15), (2025, 16), (2026, 18), (2027, 19), (2028, 20), (2029, 2020), (2030, 2021), (2031, 2022), (2032, 2010), (2033, 2015)] _ _ rfl rfl)
    ·have h := Ao c12 h
     refine qn rfl (qn rfl (qp rfl (qa rfl (Ae ?_))))
     exact Av _ h (sm [(2023, 14), (2024, 15), (2025, 16), (2026, 18), (2027, 19), (2028, 20), (2029, 2020), (2030, 2021), (2031, 2022), (2032, 2010), (2033, 2015)] _ _ rfl rfl)
   ·have h := Ao c11 h
    refine qn rfl (qn rfl (qp rfl (qm rfl (qn rfl (qn rfl (qp rfl (qa rfl (Ae ?_))))))))
    exact Av _ h (sm [(2023, 14), (2024, 15), (2025, 16), (2026, 18), (2027, 19), (2028, 20), (2029, 2020), (2030, 2021), (2031, 2022), (2032, 2010), (2033, 2015)] _ _ rfl rfl)
  ·have h := Ao c10 h
   refine qn rfl (qn rfl (qp rfl (qm rfl (qn rfl (qn rfl (qp rfl (qm rfl (qn rfl (qn rfl (qp rfl (qa rfl (Ae ?_))))))))))))
   exact Av _ h (sm [(2023, 14), (2024, 15), (2025, 16), (2026, 18), (2027, 19), (2028, 20), (2029, 2020), (2030, 2021), (2031, 2022), (2032, 2010), (2033, 2015)] _ _ rfl rfl)
 ·refine AK h (fun v13 => mk [(1, .e (.one (.ptr 1 0))), (5, .e (.one (.own 2037))), (7, .e (.one (.own 2038))), (9, .e (.one (.pure (.val (.int .i64 v8.1))))), (10, .e (.one (.ptr 10 0))), (12, .e (.one (.ptr 12 0))), (13, .e (.one (.pure (.val (.bool v13)))))] [(1, .box [.pure (.sl ((([0] : List Int)).map Ak)), .pure (.sl ((([(-1)] : List Int)).map Ak)), .pure (.sl ((([0] : List Int)).map Bv))]), (10, .box [.own 2034, .own 2035, .own 2036]), (12, .box [.pure (.val (.int .i64 0)), .pure (.val (.int .i64 1)), .pure (.val (.int .i64 0))]), (2034, .vec 1 (v8.2.1.fBase.map Ak)), (2035, .vec 1 (v8.2.1.fNext.map Ak)), (2036, .vec 1 (v8.2.1.fHeld.map Bv)), (2037, .vec 9 (v4.1.map D3)), (2038, .vec 3 (v6.1.map Ac))]) (fun j13 h => ?_) (fun v13 h => ?_)
  ·refine Am (Bl 2023 _ _ rfl rfl) (Am (Bl 2024 _ _ rfl rfl) (Am (Bl 2025 _ _ rfl rfl) (Am (Bl 2026 _ _ rfl rfl) (Am (Bl 2027 _ _ rfl rfl) (Am (Bl 2028 _ _ rfl rfl) (Aa Ad rfl (qm rfl (qm rfl ?_))))))))
   refine AC (t := 62) rfl (fun c14 => ?_) (fun c14 => ?_)
   ·have h := An c14 h
    refine qm rfl (qL A6 Ay rfl (EX AS Ay DN rfl ?_))
    obtain ⟨v15, a15, h⟩ := bind_some h
    refine DE [] [65] (KT N v2.1 (([(Ah.mk (([0] : List Int)) (([(-1)] : List Int)) (([0] : List Int)))] : List Ah)) v15 a15) V2 Cf rfl (qp rfl (qm rfl ?_))
    refine AC (t := 68) rfl (fun c16 => ?_) (fun c16 => ?_)
    ·have h := An c16 h
     obtain ⟨v17, a17, h⟩ := bind_some h
     refine AG [2039, 2040, 2041, 2042] (Dm N v17 a17) Pw rfl (qm rfl ?_)
     obtain ⟨v18, a18, h⟩ := bind_some h
     refine DE [] [2039, 2040, 2041, 2042] (IK N v17 v2.1 v18 a18) TN Cf rfl (qp rfl (qm rfl ?_))
     refine AC (t := 73) rfl (fun c19 => ?_) (fun c19 => ?_)
     ·have h := An c19 h
      obtain ⟨v20, a20, h⟩ := bind_some h
      refine AG [2043, 2044, 2045, 2046] (Dm N v20 a20) Pw rfl ?_
      obtain ⟨v21, a21, h⟩ := bind_some h
      refine DE [] [2043, 2044, 2045, 2046] (IK N v20 (([] : List Ah)) v21 a21) TN Cf rfl (CC rfl (qp rfl (qm rfl ?_)))
      refine AC (t := 78) rfl (fun c22 => ?_) (fun c22 => ?_)
      ·have h := An c22 h
       obtain ⟨v23, a23, h⟩ := bind_some h
       refine AG [2047, 2048, 2049, 2050] (Dm N v23 a23) Pw rfl (qL A6 Ay rfl (qL A6 Ay rfl (EX AS Ay DN rfl ?_)))
       obtain ⟨v24, a24, h⟩ := bind_some h
       refine DE [] [2047, 2048, 2049, 2050, 82] (IK N v23 (([(Ah.mk (([0] : List Int)) (([(-1)] : List Int)) (([0] : List Int))), (Ah.mk (([1] : List Int)) (([(-1)] : List Int)) (([0] : List Int)))] : List Ah)) v24 a24) TN Cf rfl (CC rfl (qp rfl (qa rfl (Az (by kernel_rfl) ?_))))
       exact Av _ h (sm [(2034, 2029), (2035, 2030), (2036, 2031), (2037, 2032), (2038, 2033)] _ _ rfl rfl)
      ·have h := Ao c22 h
       refine qn rfl (qn rfl (qn rfl (qn rfl (qn rfl (qn rfl (qp rfl (qa rfl (Az (by kernel_rfl) ?_))))))))
       exact Av _ h (sm [(2034, 2029), (2035, 2030), (2036, 2031), (2037, 2032), (2038, 2033)] _ _ rfl rfl)
     ·have h := Ao c19 h
      refine qn rfl (qn rfl (qn rfl (qp rfl (qm rfl (qn rfl (qn rfl (qn rfl (qn rfl (qn rfl (qn rfl (qp rfl (qa rfl (Az (by kernel_rfl) ?_)))))))))))))
      exact Av _ h (sm [(2034, 2029), (2035, 2030), (2036, 2031), (2037, 2032), (2038, 2033)] _ _ rfl rfl)
    ·have h := Ao c16 h
     refine qn rfl (qn rfl (qn rfl (qp rfl (qm rfl (qn rfl (qn rfl (qn rfl (qp rfl (qm rfl (qn rfl (qn rfl (qn rfl (qn rfl (qn rfl (qn rfl (qp rfl (qa rfl (Az (by kernel_rfl) ?_))))))))))))))))))
     exact Av _ h (sm [(2034, 2029), (2035, 2030), (2036, 2031), (2037, 2032), (2038, 2033)] _ _ rfl rfl)
   ·have h := Ao c14 h
    refine qn rfl (qn rfl (qn rfl (qn rfl (qp rfl (qm rfl (qn rfl (qn rfl (qn rfl (qp rfl (qm rfl (qn rfl (qn rfl (qn rfl (qp rfl (qm rfl (qn rfl (qn rfl (qn rfl (qn rfl (qn rfl (qn rfl (qp rfl (qa rfl (Az (by kernel_rfl) ?_))))))))))))))))))))))))
    exact Av _ h (sm [(2034, 2029), (2035, 2030), (2036, 2031), (2037, 2032), (2038, 2033)] _ _ rfl rfl)
  ·refine AK h (fun v25 => mk [(0, .e (.one (.pure (.val (.bool v25)))))] []) (fun j25 h => ?_) (fun v25 h => ?_)
   ·refine Aa Ad rfl (qm rfl (qm rfl ?_))
    refine AC (t := 87) rfl (fun c26 => ?_) (fun c26 => ?_)
    ·have h := An c26 h
     refine qm rfl (Fz KE rfl (Cp rfl (qp rfl (qm rfl ?_))))
     refine AC (t := 92) rfl (fun c27 => ?_) (fun c27 => ?_)
     ·have h := An c27 h
      refine qm rfl ?_
      obtain ⟨v28, a28, b28, h⟩ := Aj h
      refine qI KE OY a28 (Ag b28) rfl (qh ST rfl ?_)
      refine OJ (.g rfl rfl) rfl JP FQ rfl (Ag b28) rfl rfl (by decide) ?_
      refine CO J9 Sg rfl ?_
      refine QH [.int .i64 v28.fStep.fKind, .int .i64 v28.fStep.fIndex, .int .i64 v28.fStep.fVersion] [.int .i64 1, .int .i64 0, .int .i64 1] (.g rfl rfl) rfl rfl VP rfl ?_
      refine qp rfl (qm rfl ?_)
      refine AC (t := 100) rfl (fun c29 => ?_) (fun c29 => ?_)
      ·have h := An c29 h
       refine qm rfl ?_
       obtain ⟨v30, a30, b30, h⟩ := Aj h
       refine qI KE OY a30 (Ag b30) rfl (qh P4 rfl ?_)
       refine OJ (.g rfl rfl) rfl Dp AN rfl (Ag b30) rfl rfl (by decide) ?_
       refine qL Dp AN rfl ?_
       refine QH [.int .i64 v30.fConflict.fTable, .int .i64 v30.fConflict.fWriter, .int .i64 v30.fConflict.fReader] [.int .i64 0, .int .i64 1, .int .i64 0] (.g rfl rfl) rfl rfl Qg rfl ?_
       refine qp rfl (qm rfl ?_)
       refine AC (t := 108) rfl (fun c31 => ?_) (fun c31 => ?_)
       ·have h := An c31 h
        refine qm rfl (qL Dp AN rfl (EX A2 AN Ko rfl ?_))
        obtain ⟨v32, a32, h⟩ := bind_some h
        refine DE [] [2038, 111] (Jh N v6.1 (([(Af.mk 0 1 0)] : List Af)) v32 a32) WP Cf rfl (qp rfl (qm rfl ?_))
        refine AC (t := 114) rfl (fun c33 => ?_) (fun c33 => ?_)
        ·have h := An c33 h
         refine qm rfl (Cp rfl (qp rfl (qm rfl ?_)))
         refine AC (t := 118) rfl (fun c34 => ?_) (fun c34 => ?_)
         ·have h := An c34 h
          refine qL A6 Ay rfl (qL A6 Ay rfl ?_)
          obtain ⟨v35, a35, h⟩ := bind_some h
          refine DE [] [2034, 2035, 2036] (GK N v8.2.1 ((Ah.mk (([0] : List Int)) (([(-1)] : List Int)) (([0] : List Int)))) v35 a35) TK Cf rfl (qp rfl (qa rfl (Az (by kernel_rfl) ?_)))
          exact Av _ h (sm [] _ _ rfl rfl)
         ·have h := Ao c34 h
          refine qn rfl (qn rfl (qn rfl (qp rfl (qa rfl (Az (by kernel_rfl) ?_)))))
          exact Av _ h (sm [] _ _ rfl rfl)
        ·have h := Ao c33 h
         refine qn rfl (qn rfl (qp rfl (qm rfl (qn rfl (qn rfl (qn rfl (qp rfl (qa rfl (Az (by kernel_rfl) ?_)))))))))
         exact Av _ h (sm [] _ _ rfl rfl)
       ·have h := Ao c31 h
        refine qn rfl (qn rfl (qn rfl (qn rfl (qp rfl (qm rfl (qn rfl (qn rfl (qp rfl (qm rfl (qn rfl (qn rfl (qn rfl (qp rfl (qa rfl (Az (by kernel_rfl) ?_)))))))))))))))
        exact Av _ h (sm [] _ _ rfl rfl)
      ·have h := Ao c29 h
       refine qn rfl (qn rfl (qn rfl (qn rfl (qn rfl (qn rfl (qp rfl (qm rfl (qn rfl (qn rfl (qn rfl (qn rfl (qp rfl (qm rfl (qn rfl (qn rfl (qp rfl (qm rfl (qn rfl (qn rfl (qn rfl (qp rfl (qa rfl (Az (by kernel_rfl) ?_)))))))))))))))))))))))
       exact Av _ h (sm [] _ _ rfl rfl)
     ·have h := Ao c27 h
      refine qn rfl (qn rfl (qn rfl (qn rfl (qn rfl (qn rfl (qp rfl (qm rfl (qn rfl (qn rfl (qn rfl (qn rfl (qn rfl (qn rfl (qp rfl (qm rfl (qn rfl (qn rfl (qn rfl (qn rfl (qp rfl (qm rfl (qn rfl (qn rfl (qp rfl (qm rfl (qn rfl (qn rfl (qn rfl (qp rfl (qa rfl (Az (by kernel_rfl) ?_)))))))))))))))))))))))))))))))
      exact Av _ h (sm [] _ _ rfl rfl)
    ·have h := Ao c26 h
     refine qn rfl (qn rfl (qn rfl (qp rfl (qm rfl (qn rfl (qn rfl (qn rfl (qn rfl (qn rfl (qn rfl (qp rfl (qm rfl (qn rfl (qn rfl (qn rfl (qn rfl (qn rfl (qn rfl (qp rfl (qm rfl (qn rfl (qn rfl (qn rfl (qn rfl (qp rfl (qm rfl (qn rfl (qn rfl (qp rfl (qm rfl (qn rfl (qn rfl (qn rfl (qp rfl (qa rfl (Az (by kernel_rfl) ?_))))))))))))))))))))))))))))))))))))
     exact Av _ h (sm [] _ _ rfl rfl)
   ·obtain rfl := sj h
    refine Am (sm [] [(0, .e (.one (.pure (.val (.bool v25)))))] [] rfl rfl) (Ax ?_)
    exact ⟨⟨[_], ⟨.tmp _ _ rfl, trivial⟩, rfl⟩, trivial⟩
set_option maxRecDepth 10000 in
theorem Hb (N : Nat) (p0 : List Int) (p1 : Int) (r : Int) (h : DP N p0 p1 = some r) : AA Tryz.prog 53 [.e (.one (.pure (.sl (p0.map Bv)))), .e (.one (.pure (.val (.int .i64 p1))))] [] (.e (.one (.pure (.val (.int .i64 r))))) := by
 unfold DP at h
 refine Ar (n := 14) (rs := [.tmp 4]) Tryz.func53 rfl rfl rfl (AZ rfl) (AZ rfl) rfl fun w0 S0 => ?_
 refine Ab (Aa Ad rfl (qa rfl (Ae (Ab (Ab (Aa Ad rfl (qm rfl (qm rfl (AP Jy rfl (AR rfl (Ae ?_)))))))))))
 refine Ap rfl (fun c1 => ?_) (fun c1 => ?_)
 ·have h := An c1 h
  refine Ab (Aa Ad rfl (qm rfl (qm rfl ?_)))
  obtain ⟨v2, a2, b2, h⟩ := Aj h
  refine qi Jy TV a2 (Ag b2) rfl (qk Ur rfl (Gk Sq P7 rfl (qa rfl (Ae ?_))))
  obtain rfl := sj h
  refine Am (sm [] [(4, .e (.one (.pure (.val (.int .i64 ((IntKind.wrap .i64 v2)))))))] [] rfl rfl) (Ax ?_)
  exact ⟨⟨[_], ⟨.tmp _ _ rfl, trivial⟩, rfl⟩, trivial⟩
 ·have h := Ao c1 h
  refine Aq (Ab (Aa Ad rfl (qa rfl (Ae ?_))))
  obtain rfl := sj h
  refine Am (sm [] [(4, .e (.one (.pure (.val (.int .i64 0)))))] [] rfl rfl) (Ax ?_)
  exact ⟨⟨[_], ⟨.tmp _ _ rfl, trivial⟩, rfl⟩, trivial⟩
set_option maxRecDepth 10000 in
theorem F8 (N : Nat) (p0 : Ah) (p1 : Int) (r : Int) (h : Da N p0 p1 = some r) : AA Tryz.prog 54 [.e (.agg [.pure (.sl (p0.fBase.map Ak)), .pure (.sl (p0.fNext.map Ak)), .pure (.sl (p0.fHeld.map Bv))]), .e (.one (.pure (.val (.int .i64 p1))))] [] (.e (.one (.pure (.val (.int .u8 r))))) := by
 unfold Da at h
 refine Ar (n := 27) (rs := [.tmp 4]) Tryz.func54 rfl rfl rfl (AZ rfl) (AZ rfl) rfl fun w0 S0 => ?_
 refine Ab (Aa Ad rfl (qb rfl (qa rfl (Ae (Ab (Aa Ad rfl (qf Du rfl (ql Bw rfl (qm rfl ?_)))))))))
 obtain ⟨v1, a1, b1, h⟩ := Aj h
 refine qi AJ Es a1 (Ag b1) rfl (qk Dn rfl ?_)
 obtain ⟨c2, h⟩ := AW h
 refine IX rfl c2 (qa rfl (Ae ?_))
 refine AK h (fun v3 => mk [(5, .e (.one (.pure (.val (.int .u8 v3)))))] []) (fun j3 h => ?_) (fun v3 h => ?_)
 ·refine Ab (Aa Ad rfl (qf CU rfl (ql Bw rfl (qm rfl ?_))))
  obtain ⟨v4, a4, b4, h⟩ := Aj h
  refine qi AJ Es a4 (Ag b4) rfl (qk Dn rfl (Dl rfl (Ae ?_)))
  refine Ap rfl (fun c5 => ?_) (fun c5 => ?_)
  ·have h := An c5 h
   refine Aa Ad rfl (qm rfl (qf CU rfl (ql Bw rfl (qm rfl ?_))))
   obtain ⟨v6, a6, b6, h⟩ := Aj h
   refine qi AJ Es a6 (Ag b6) rfl (qk Dn rfl ?_)
   obtain ⟨c7, h⟩ := AW h
   refine IX rfl c7 (Ro rfl (qa rfl (Ae ?_)))
   exact Av _ h (sm [] _ _ rfl rfl)
  ·have h := Ao c5 h
   refine Aq ?_
   exact Av _ h (sm [] _ _ rfl rfl)
 ·refine Ab (Aa Ad rfl (qm rfl (qa rfl (Ae ?_))))
  obtain rfl := sj h
  refine Am (sm [] [(4, .e (.one (.pure (.val (.int .u8 v3)))))] [] rfl rfl) (Ax ?_)
  exact ⟨⟨[_], ⟨.tmp _ _ rfl, trivial⟩, rfl⟩, trivial⟩
set_option maxRecDepth 10000 in
theorem LL (N : Nat) (p0 : Al) (p1 : BV) (r : Ah) (h : Fk N p0 p1 = some r) : AA Tryz.prog 17 [.e (.agg [.pure (.sl (p0.fVersions.map Ak)), .pure (.sl (p0.fNow.map Ak)), .pure (.sl (p0.fTarget.map Ak)), .pure (.sl (p0.fTables.map Au))]), .e (.agg [.pure (.sl (p1.fBase.map Bv)), .pure (.sl (p1.fNext.map Bv)), .pure (.sl (p1.fHeld.map Bv))])] [(1, r.fBase.map Ak), (1, r.fNext.map Ak), (1, r.fHeld.map Bv)] (.e (.agg [.own 0, .own 1, .own 2])) := by
 unfold Fk at h
 refine Ar (n := 99) (rs := [.cell 4 46]) Tryz.func17 rfl rfl rfl (AZ rfl) (AZ rfl) rfl fun w0 S0 => ?_
 refine Ab (Aa Ad rfl (qb rfl (qb rfl (qz DN rfl (Ae (Ab (Aa Ad rfl (qz DN rfl (Ae (Ab (Ab (Aa Ad rfl (qa rfl (Ae ?_))))))))))))))
 refine AB (L := C6 N p0 p1) h (fun v1 => mk [(2, .e (.one (.ptr 2 0))), (3, .e (.one (.ptr 3 0))), (4, .e (.one (.ptr 4 0))), (5, .e (.one (.ptr 5 0))), (6, .e (.one (.pure (.val (.int .i64 v1.2.2)))))] [(2, .box [.pure (.sl (p0.fVersions.map Ak)), .pure (.sl (p0.fNow.map Ak)), .pure (.sl (p0.fTarget.map Ak)), .pure (.sl (p0.fTables.map Au))]), (3, .box [.pure (.sl (p1.fBase.map Bv)), .pure (.sl (p1.fNext.map Bv)), .pure (.sl (p1.fHeld.map Bv))]), (4, .box [.pure (.nil0), .pure (.nil0), .pure (.nil0)]), (5, .box [.own 2001, .own 2002, .pure (.nil0)]), (2001, .vec 1 (v1.1.map Ak)), (2002, .vec 1 (v1.2.1.map Ak))]) (fun v2 => mk [(2, .e (.one (.ptr 2 0))), (3, .e (.one (.ptr 3 0))), (4, .e (.one (.ptr 4 0))), (5, .e (.one (.ptr 5 0)))] [(2, .box [.pure (.sl (p0.fVersions.map Ak)), .pure (.sl (p0.fNow.map Ak)), .pure (.sl (p0.fTarget.map Ak)), .pure (.sl (p0.fTables.map Au))]), (3, .box [.pure (.sl (p1.fBase.map Bv)), .pure (.sl (p1.fNext.map Bv)), .pure (.sl (p1.fHeld.map Bv))]), (4, .box [.pure (.nil0), .pure (.nil0), .pure (.nil0)]), (5, .box [.own 2003, .own 2004, .pure (.nil0)]), (2003, .vec 1 (v2.1.map Ak)), (2004, .vec 1 (v2.2.map Ak))]) (fun _ _ => rfl) ((A1 5 0 2007 1 _ rfl rfl rfl rfl).trans ((A1 5 1 2008 1 _ rfl rfl rfl rfl).trans (sm [(2001, 2007), (2002, 2008)] _ _ rfl rfl))) (fun j1 n1 v1 h => ?_) (fun v2 s h hs => ?_)
 ·unfold C6 at h
  refine Ab (Ab (Aa Ad rfl (qm rfl (qf BZ rfl (ql Bw rfl (AP AJ rfl (AR rfl (Ae ?_))))))))
  refine Ap rfl (fun c3 => ?_) (fun c3 => ?_)
  ·have h := An c3 h
   refine Aq (Ab (AD (Ab (Aa Ad rfl (qf BZ rfl (ql Bw rfl (qm rfl ?_)))))))
   obtain ⟨v4, a4, b4, h⟩ := Aj h
   refine qi AJ Es a4 (Ag b4) rfl (qk Dn rfl (qa rfl (Ae (Ab (Aa Ad rfl (qf Sw rfl (ql OA rfl (qm rfl ?_))))))))
   obtain ⟨v5, a5, h⟩ := bind_some h
   refine AG [] (Hb N p1.fBase v1.2.2 v5 a5) T0 rfl (qm rfl ?_)
   obtain ⟨c6, h⟩ := AW h
   refine Kr rfl c6 (qa rfl (Ae (Ab (Aa Ad rfl (qa rfl (Ae ?_))))))
   refine AK h (fun v7 => mk [(2, .e (.one (.ptr 2 0))), (3, .e (.one (.ptr 3 0))), (4, .e (.one (.ptr 4 0))), (5, .e (.one (.ptr 5 0))), (6, .e (.one (.pure (.val (.int .i64 v1.2.2))))), (8, .e (.one (.pure (.val (.int .i64 ((Int.tmod v5 v4))))))), (9, .e (.one (.pure (.val (.int .i64 v7)))))] [(2, .box [.pure (.sl (p0.fVersions.map Ak)), .pure (.sl (p0.fNow.map Ak)), .pure (.sl (p0.fTarget.map Ak)), .pure (.sl (p0.fTables.map Au))]), (3, .box [.pure (.sl (p1.fBase.map Bv)), .pure (.sl (p1.fNext.map Bv)), .pure (.sl (p1.fHeld.map Bv))]), (4, .box [.pure (.nil0), .pure (.nil0), .pure (.nil0)]), (5, .box [.own 2005, .own 2006, .pure (.nil0)]), (2005, .vec 1 (v1.1.map Ak)), (2006, .vec 1 (v1.2.1.map Ak))]) (fun j7 h => ?_) (fun v7 h => ?_)
   ·refine Ab (Aa Ad rfl (qf SD rfl (ql OA rfl (qm rfl ?_))))
    obtain ⟨v8, a8, h⟩ := bind_some h
    refine AG [] (Hb N p1.fNext v1.2.2 v8 a8) T0 rfl (qm rfl ?_)
    obtain ⟨c9, h⟩ := AW h
    refine Kr rfl c9 (qa rfl (Ae (Ab (Aa Ad rfl (qm rfl (EA rfl (Ae ?_)))))))
    refine Ap rfl (fun c10 => ?_) (fun c10 => ?_)
    ·have h := An c10 h
     refine Aa Ad rfl (qm rfl (qm rfl (AI rfl (qm rfl ?_))))
     obtain ⟨c11, h⟩ := AW h
     refine Kr rfl c11 (qa rfl (Ae ?_))
     exact Av _ h (sm [(2005, 2001), (2006, 2002)] _ _ rfl rfl)
    ·have h := Ao c10 h
     refine Aq ?_
     exact Av _ h (sm [(2005, 2001), (2006, 2002)] _ _ rfl rfl)
   ·refine Ab (Aa Ad rfl (qf Du rfl (ql Bw rfl (qm rfl (EX AJ Es Lr rfl ?_)))))
    obtain ⟨c12, h⟩ := AW h
    refine Ep (f := Ak) AJ AJ Es Oa Lr c12 rfl (qf Du rfl (qs RX rfl (Ae (Aa Ad rfl (qf CU rfl (ql Bw rfl (qm rfl (EX AJ Es Lr rfl ?_))))))))
    obtain ⟨c13, h⟩ := AW h
    refine Ep (f := Ak) AJ AJ Es Oa Lr c13 rfl (qf CU rfl (qs RX rfl (Ae (Aa Ad rfl (qm rfl (AI rfl (qa rfl (Ae ?_))))))))
    exact Av _ h (sm [(2001, 50), (2002, 56)] _ _ rfl rfl)
  ·have h := Ao c3 h
   refine AL ?_
   exact Av _ h (sm [(2003, 2001), (2004, 2002)] _ _ rfl rfl)
 ·refine Am hs (Ab (Ab (Aa Ad rfl (qa rfl (Ae ?_)))))
  refine AB (L := Bo N p0 p1 v2) h (fun v14 => mk [(2, .e (.one (.ptr 2 0))), (3, .e (.one (.ptr 3 0))), (4, .e (.one (.ptr 4 0))), (5, .e (.one (.ptr 5 0))), (11, .e (.one (.pure (.val (.int .i64 v14.2)))))] [(2, .box [.pure (.sl (p0.fVersions.map Ak)), .pure (.sl (p0.fNow.map Ak)), .pure (.sl (p0.fTarget.map Ak)), .pure (.sl (p0.fTables.map Au))]), (3, .box [.pure (.sl (p1.fBase.map Bv)), .pure (.sl (p1.fNext.map Bv)), .pure (.sl (p1.fHeld.map Bv))]), (4, .box [.pure (.nil0), .pure (.nil0), .pure (.nil0)]), (5, .box [.own 2009, .own 2010, .own 2011]), (2009, .vec 1 (v2.1.map Ak)), (2010, .vec 1 (v2.2.map Ak)), (2011, .vec 1 (v14.1.map Bv))]) (fun v15 => mk [(4, .e (.one (.ptr 4 0))), (5, .e (.one (.ptr 5 0)))] [(4, .box [.pure (.nil0), .pure (.nil0), .pure (.nil0)]), (5, .box [.own 2012, .own 2013, .own 2014]), (2012, .vec 1 (v2.1.map Ak)), (2013, .vec 1 (v2.2.map Ak)), (2014, .vec 1 (v15.map Bv))]) (fun _ _ => rfl) ((A1 5 2 2018 1 _ rfl rfl rfl rfl).trans (sm [(2009, 2003), (2010, 2004), (2011, 2018)] _ _ rfl rfl)) (fun j14 n14 v14 h => ?_) (fun v15 s h hs => ?_)
  ·unfold Bo at h
   refine Ab (Ab (Aa Ad rfl (qm rfl (qf EC rfl (ql JG rfl (AP FC rfl (AR rfl (Ae ?_))))))))
   refine Ap rfl (fun c16 => ?_) (fun c16 => ?_)
   ·have h := An c16 h
    refine Aq (Ab (AD (Ab (Aa Ad rfl (qf EC rfl (ql JG rfl (qm rfl ?_)))))))
    obtain ⟨v17, a17, b17, h⟩ := Aj h
    refine qi FC Fj a17 (Ag b17) rfl (qK IS Fj rfl (qz K9 rfl (qs Fj rfl (Ae (Ab (Aa Ad rfl (qa rfl (Ae ?_))))))))
    refine AK h (fun v18 => mk [(2, .e (.one (.ptr 2 0))), (3, .e (.one (.ptr 3 0))), (4, .e (.one (.ptr 4 0))), (5, .e (.one (.ptr 5 0))), (11, .e (.one (.pure (.val (.int .i64 v14.2))))), (13, .e (.one (.pure (.val (.int .u8 v18)))))] [(2, .box [.pure (.sl (p0.fVersions.map Ak)), .pure (.sl (p0.fNow.map Ak)), .pure (.sl (p0.fTarget.map Ak)), .pure (.sl (p0.fTables.map Au))]), (3, .box [.pure (.sl (p1.fBase.map Bv)), .pure (.sl (p1.fNext.map Bv)), .pure (.sl (p1.fHeld.map Bv))]), (4, .box [.pure (.nil0), .pure (.nil0), .pure (.nil0)]), (5, .box [.own 2015, .own 2016, .own 2017]), (2015, .vec 1 (v2.1.map Ak)), (2016, .vec 1 (v2.2.map Ak)), (2017, .vec 1 (v14.1.map Bv))]) (fun j18 h => ?_) (fun v18 h => ?_)
    ·refine Ab (Aa Ad rfl (qL IS Fj rfl ?_))
     obtain ⟨v19, a19, h⟩ := bind_some h
     refine AG [] (D4 N v17 v19 a19) Qu rfl (Ae ?_)
     refine Ap rfl (fun c20 => ?_) (fun c20 => ?_)
     ·have h := An c20 h
      refine Ab (Aa Ad rfl (qf BZ rfl (ql Bw rfl (qf Et rfl (ql Dn rfl ?_)))))
      obtain ⟨v21, a21, b21, h⟩ := Aj h
      refine qi AJ Es a21 (Ag b21) rfl (qk Dn rfl ?_)
      obtain ⟨c22, h⟩ := AW h
      refine IX rfl c22 (Bb rfl (qa rfl (Ae (Aa Ad rfl (qL A6 Ay rfl (qf Et rfl (ql Dn rfl ?_)))))))
      obtain ⟨v23, a23, h⟩ := bind_some h
      refine DE [] [2009, 2010, 2011] (F8 N ((Ah.mk v2.1 v2.2 v14.1)) v17.fFrom v23 a23) TS Cf rfl (qf SP rfl (ql OA rfl (qm rfl ?_)))
      obtain ⟨v24, a24, h⟩ := bind_some h
      refine AG [] (Hb N p1.fHeld v14.2 v24 a24) T0 rfl (Gk Rw Wy rfl (qm rfl (KD rfl (Ro rfl (qa rfl (Az (by kernel_rfl) ?_))))))
      exact Av _ h (sm [(2015, 2009), (2016, 2010), (2017, 2011)] _ _ rfl rfl)
     ·have h := Ao c20 h
      refine Aq ?_
      exact Av _ h (sm [(2015, 2009), (2016, 2010), (2017, 2011)] _ _ rfl rfl)
    ·refine Aa Ad rfl (qf DX rfl (ql It rfl (qm rfl (EX EB HM Pr rfl ?_))))
     obtain ⟨c25, h⟩ := AW h
     refine Ep (f := Bv) EB EB HM RF Pr c25 rfl (qf DX rfl (qs We rfl (Ae (Aa Ad rfl (qm rfl (AI rfl (qa rfl (Ae ?_))))))))
     exact Av _ h (sm [(2009, 2015), (2010, 2016), (2011, 96)] _ _ rfl rfl)
   ·have h := Ao c16 h
    refine AL ?_
    exact Av _ h (sm [(2012, 2009), (2013, 2010), (2014, 2011)] _ _ rfl rfl)
  ·refine Am hs (Ab (Aa Ad rfl (qL A6 Ay rfl (qs Ay rfl (Ae ?_)))))
   obtain rfl := sj h
   refine Am (sm [(1000, 2012), (1001, 2013), (1002, 2014)] [(4, .e (.one (.ptr 4 0)))] [(4, .box [.own 1000, .own 1001, .own 1002]), (1000, .vec 1 (v2.1.map Ak)), (1001, .vec 1 (v2.2.map Ak)), (1002, .vec 1 (v15.map Bv))] rfl rfl) (Ax ?_)
   exact ⟨⟨[_], ⟨.cellN _ _ _ _ _ _ _ rfl rfl A6 Ay rfl rfl (Kw rfl), trivial⟩, rfl⟩, ⟨rfl, rfl, rfl, trivial⟩⟩
set_option maxRecDepth 10000 in
theorem Ia (N : Nat) (p0 : List (List Bool)) (p1 : Int) (p2 : Int) (r : Bool) (h : DS N p0 p1 p2 = some r) : AA Tryz.prog 115 [.e (.one (.pure (.sl (p0.map (Gl eB))))), .e (.one (.pure (.val (.int .i64 p1)))), .e (.one (.pure (.val (.int .i64 p2))))] [] (.e (.one (.pure (.val (.bool r))))) := by
 unfold DS at h
 refine Ar (n := 24) (rs := [.tmp 6]) Tryz.func115 rfl rfl rfl (AZ rfl) (AZ rfl) rfl fun w0 S0 => ?_
 refine Ab (Aa Ad rfl (qa rfl (Ae (Ab (Ab (Aa Ad rfl (qm rfl (AP Hp rfl (qm rfl (Cy rfl (Ae ?_)))))))))))
 refine Ap rfl (fun c1 => ?_) (fun c1 => ?_)
 ·have h := An c1 h
  refine Ab (Aa Ad rfl (qa rfl (Ae ?_)))
  obtain rfl := sj h
  refine Am (sm [] [(6, .e (.one (.pure (.val (.bool false)))))] [] rfl rfl) (Ax ?_)
  exact ⟨⟨[_], ⟨.tmp _ _ rfl, trivial⟩, rfl⟩, trivial⟩
 ·have h := Ao c1 h
  refine Aq (Ab (Ab (Aa Ad rfl (qa rfl (Ae ?_)))))
  refine AB (L := CM N p0 p1 p2) h (fun v2 => mk [(0, .e (.one (.pure (.sl (p0.map (Gl eB)))))), (1, .e (.one (.pure (.val (.int .i64 p1))))), (2, .e (.one (.pure (.val (.int .i64 p2))))), (7, .e (.one (.pure (.val (.int .i64 v2)))))] []) (fun v3 => mk [] []) (fun _ _ => rfl) (sm [] _ _ rfl rfl) (fun j2 n2 v2 h => ?_) (fun v3 s h hs => ?_)
  ·unfold CM at h
   refine Ab (Ab (Aa Ad rfl (qm rfl (qm rfl (AR rfl (Ae ?_))))))
   refine Ap rfl (fun c4 => ?_) (fun c4 => ?_)
   ·have h := An c4 h
    refine Aq (Ab (AD (Ab (Aa Ad rfl (qm rfl (qm rfl ?_))))))
    obtain ⟨v5, a5, b5, h⟩ := Aj h
    refine qi Hp Oe a5 (Ag b5) rfl (qk Qr rfl (AP HQ rfl (qm rfl (Cy rfl (Ae ?_)))))
    refine Ap rfl (fun c6 => ?_) (fun c6 => ?_)
    ·have h := An c6 h
     refine Ab (Aa Ad rfl (qa rfl (Ae ?_)))
     obtain rfl := sj h
     refine Am (sm [] [(6, .e (.one (.pure (.val (.bool false)))))] [] rfl rfl) (Ax ?_)
     exact ⟨⟨[_], ⟨.tmp _ _ rfl, trivial⟩, rfl⟩, trivial⟩
    ·have h := Ao c6 h
     refine Aq (Aa Ad rfl (qm rfl (AI rfl (qa rfl (Ae ?_)))))
     exact Av _ h (sm [] _ _ rfl rfl)
   ·have h := Ao c4 h
    refine AL ?_
    exact Av _ h (sm [] _ _ rfl rfl)
  ·refine Am hs (Ab (Aa Ad rfl (qa rfl (Ae ?_))))
   obtain rfl := sj h
   refine Am (sm [] [(6, .e (.one (.pure (.val (.bool true)))))] [] rfl rfl) (Ax ?_)
   exact ⟨⟨[_], ⟨.tmp _ _ rfl, trivial⟩, rfl⟩, trivial⟩
set_option maxRecDepth 10000 in
theorem Ky (N : Nat) (p0 : Al) (p1 : AQ) (r : Int) (h : EH N p0 p1 = some r) : AA Tryz.prog 76 [.e (.agg [.pure (.sl (p0.fVersions.map Ak)), .pure (.sl (p0.fNow.map Ak)), .pure (.sl (p0.fTarget.map Ak)), .pure (.sl (p0.fTables.map Au))]), .e (.agg [.pure (.val (.int .i64 p1.fKind)), .pure (.val (.int .i64 p1.fFrom)), .pure (.val (.int .i64 p1.fTo)), .pure (.val (.bool p1.fAware)), .pure (.sl (p1.fOK.map (Gl eB))), .pure (.sl (p1.fRewrite.map (Gl eB)))])] [] (.e (.one (.pure (.val (.int .i64 r))))) := by
 unfold EH at h
 refine Ar (n := 101) (rs := [.tmp 4]) Tryz.func76 rfl rfl rfl (AZ rfl) (AZ rfl) rfl fun w0 S0 => ?_
 refine Ab (Aa Ad rfl (qb rfl (qb rfl (qa rfl (Ae (Ab ?_))))))
 refine AK h (fun v1 => mk [(2, .e (.one (.ptr 2 0))), (3, .e (.one (.ptr 3 0))), (22, .e (.one (.pure (.val (.bool v1)))))] [(2, .box [.pure (.sl (p0.fVersions.map Ak)), .pure (.sl (p0.fNow.map Ak)), .pure (.sl (p0.fTarget.map Ak)), .pure (.sl (p0.fTables.map Au))]), (3, .box [.pure (.val (.int .i64 p1.fKind)), .pure (.val (.int .i64 p1.fFrom)), .pure (.val (.int .i64 p1.fTo)), .pure (.val (.bool p1.fAware)), .pure (.sl (p1.fOK.map (Gl eB))), .pure (.sl (p1.fRewrite.map (Gl eB)))])]) (fun j1 h => ?_) (fun v1 h => ?_)
 ·refine Aa Ad rfl (qf GH rfl (ql Dn rfl (AR rfl (qm rfl ?_))))
  refine AC (t := 10) rfl (fun c2 => ?_) (fun c2 => ?_)
  ·have h := An c2 h
   refine qn rfl (qn rfl (qn rfl (qp rfl (qm rfl (qn rfl (qn rfl (qn rfl (qu rfl (qu rfl (qn rfl (qp rfl (Ae ?_))))))))))))
   exact Av _ h (sm [] _ _ rfl rfl)
  ·have h := Ao c2 h
   refine qf GH rfl (ql Dn rfl (EA rfl (qp rfl (qm rfl ?_))))
   refine AC (t := 15) rfl (fun c3 => ?_) (fun c3 => ?_)
   ·have h := An c3 h
    refine qn rfl (qn rfl (qn rfl (qu rfl (qu rfl (qn rfl (qp rfl (Ae ?_)))))))
    exact Av _ h (sm [] _ _ rfl rfl)
   ·have h := Ao c3 h
    refine qf Ku rfl (ql S9 rfl (qm rfl ?_))
    refine AC (t := 18) rfl (fun c4 => ?_) (fun c4 => ?_)
    ·have h := An c4 h
     refine qL IS Fj rfl ?_
     obtain ⟨v5, a5, h⟩ := bind_some h
     refine AG [] (D4 N p1 v5 a5) Qu rfl (qp rfl (qp rfl (Ae ?_)))
     exact Av _ h (sm [] _ _ rfl rfl)
    ·have h := Ao c4 h
     refine qn rfl (qn rfl (qp rfl (qp rfl (Ae ?_))))
     exact Av _ h (sm [] _ _ rfl rfl)
 ·refine Ap rfl (fun c6 => ?_) (fun c6 => ?_)
  ·have h := An c6 h
   refine Ab (Aa Ad rfl (qa rfl (Ae ?_)))
   obtain rfl := sj h
   refine Am (sm [] [(4, .e (.one (.pure (.val (.int .i64 1)))))] [] rfl rfl) (Ax ?_)
   exact ⟨⟨[_], ⟨.tmp _ _ rfl, trivial⟩, rfl⟩, trivial⟩
  ·have h := Ao c6 h
   refine Aq (Ab (Aa Ad rfl (qf BZ rfl (ql Bw rfl (AP AJ rfl (qa rfl (Ae (Ab ?_))))))))
   refine AK h (fun v7 => mk [(2, .e (.one (.ptr 2 0))), (3, .e (.one (.ptr 3 0))), (45, .e (.one (.pure (.val (.bool v7)))))] [(2, .box [.pure (.sl (p0.fVersions.map Ak)), .pure (.sl (p0.fNow.map Ak)), .pure (.sl (p0.fTarget.map Ak)), .pure (.sl (p0.fTables.map Au))]), (3, .box [.pure (.val (.int .i64 p1.fKind)), .pure (.val (.int .i64 p1.fFrom)), .pure (.val (.int .i64 p1.fTo)), .pure (.val (.bool p1.fAware)), .pure (.sl (p1.fOK.map (Gl eB))), .pure (.sl (p1.fRewrite.map (Gl eB)))])]) (fun j7 h => ?_) (fun v7 h => ?_)
   ·refine Aa Ad rfl (qf Et rfl (ql Dn rfl (AR rfl (qm rfl ?_))))
    refine AC (t := 29) rfl (fun c8 => ?_) (fun c8 => ?_)
    ·have h := An c8 h
     refine qn rfl (qn rfl (qn rfl (qn rfl (qp rfl (qm rfl (qn rfl (qn rfl (qn rfl (qp rfl (qm rfl (qn rfl (qn rfl (qn rfl (qn rfl (qp rfl (Ae ?_))))))))))))))))
     exact Av _ h (sm [] _ _ rfl rfl)
    ·have h := Ao c8 h
     refine qf Et rfl (ql Dn rfl (qm rfl (Dl rfl (qp rfl (qm rfl ?_)))))
     refine AC (t := 35) rfl (fun c9 => ?_) (fun c9 => ?_)
     ·have h := An c9 h
      refine qn rfl (qn rfl (qn rfl (qp rfl (qm rfl (qn rfl (qn rfl (qn rfl (qn rfl (qp rfl (Ae ?_))))))))))
      exact Av _ h (sm [] _ _ rfl rfl)
     ·have h := Ao c9 h
      refine qf JR rfl (ql Dn rfl (AR rfl (qp rfl (qm rfl ?_))))
      refine AC (t := 40) rfl (fun c10 => ?_) (fun c10 => ?_)
      ·have h := An c10 h
       refine qn rfl (qn rfl (qn rfl (qn rfl (qp rfl (Ae ?_)))))
       exact Av _ h (sm [] _ _ rfl rfl)
      ·have h := Ao c10 h
       refine qf JR rfl (ql Dn rfl (qm rfl (Dl rfl (qp rfl (Ae ?_)))))
       exact Av _ h (sm [] _ _ rfl rfl)
   ·refine Ap rfl (fun c11 => ?_) (fun c11 => ?_)
    ·have h := An c11 h
     refine Ab (Aa Ad rfl (qa rfl (Ae ?_)))
     obtain rfl := sj h
     refine Am (sm [] [(4, .e (.one (.pure (.val (.int .i64 4)))))] [] rfl rfl) (Ax ?_)
     exact ⟨⟨[_], ⟨.tmp _ _ rfl, trivial⟩, rfl⟩, trivial⟩
    ·have h := Ao c11 h
     refine Aq (Ab (Ab (Aa Ad rfl (qf Lu rfl (ql Le rfl (qf BZ rfl (ql Bw rfl (qf Et rfl (ql Dn rfl ?_)))))))))
     obtain ⟨v12, a12, b12, h⟩ := Aj h
     refine qi AJ Es a12 (Ag b12) rfl (qk Dn rfl (qf BZ rfl (ql Bw rfl (qf JR rfl (ql Dn rfl ?_)))))
     obtain ⟨v13, a13, b13, h⟩ := Aj h
     refine qi AJ Es a13 (Ag b13) rfl (qk Dn rfl ?_)
     obtain ⟨v14, a14, h⟩ := bind_some h
     refine AG [] (Ia N p1.fOK v12 v13 v14 a14) TA rfl (CC rfl (Az (by kernel_rfl) ?_))
     refine Ap rfl (fun c15 => ?_) (fun c15 => ?_)
     ·have h := An c15 h
      refine Ab (Aa Ad rfl (qa rfl (Ae ?_)))
      obtain rfl := sj h
      refine Am (sm [] [(4, .e (.one (.pure (.val (.int .i64 6)))))] [] rfl rfl) (Ax ?_)
      exact ⟨⟨[_], ⟨.tmp _ _ rfl, trivial⟩, rfl⟩, trivial⟩
     ·have h := Ao c15 h
      refine Aq (Ab (Ab (Aa Ad rfl (qf GH rfl (ql Dn rfl (Cy rfl (Ae ?_)))))))
      refine Ap rfl (fun c16 => ?_) (fun c16 => ?_)
      ·have h := An c16 h
       refine Ab (Ab (Aa Ad rfl (qf Hw rfl (ql Le rfl (AP Hp rfl (Cy rfl (Ae ?_)))))))
       refine Ap rfl (fun c17 => ?_) (fun c17 => ?_)
       ·have h := An c17 h
        refine Ab (Aa Ad rfl (qa rfl (Ae ?_)))
        obtain rfl := sj h
        refine Am (sm [] [(4, .e (.one (.pure (.val (.int .i64 6)))))] [] rfl rfl) (Ax ?_)
        exact ⟨⟨[_], ⟨.tmp _ _ rfl, trivial⟩, rfl⟩, trivial⟩
       ·have h := Ao c17 h
        refine Aq (Ab (Aa Ad rfl (qa rfl (Ae ?_))))
        obtain rfl := sj h
        refine Am (sm [] [(4, .e (.one (.pure (.val (.int .i64 0)))))] [] rfl rfl) (Ax ?_)
        exact ⟨⟨[_], ⟨.tmp _ _ rfl, trivial⟩, rfl⟩, trivial⟩
      ·have h := Ao c16 h
       refine Aq (Ab (Ab (Aa Ad rfl (qf Hw rfl (ql Le rfl (qf BZ rfl (ql Bw rfl (qf Et rfl (ql Dn rfl ?_)))))))))
       obtain ⟨v18, a18, b18, h⟩ := Aj h
       refine qi AJ Es a18 (Ag b18) rfl (qk Dn rfl (qf BZ rfl (ql Bw rfl (qf Et rfl (ql Dn rfl ?_)))))
       obtain ⟨v19, a19, b19, h⟩ := Aj h
       refine qi AJ Es a19 (Ag b19) rfl (qk Dn rfl ?_)
       obtain ⟨v20, a20, h⟩ := bind_some h
       refine AG [] (Ia N p1.fRewrite v18 v19 v20 a20) TA rfl (CC rfl (Az (by kernel_rfl) ?_))
       refine Ap rfl (fun c21 => ?_) (fun c21 => ?_)
       ·have h := An c21 h
        refine Ab (Aa Ad rfl (qa rfl (Ae ?_)))
        obtain rfl := sj h
        refine Am (sm [] [(4, .e (.one (.pure (.val (.int .i64 6)))))] [] rfl rfl) (Ax ?_)
        exact ⟨⟨[_], ⟨.tmp _ _ rfl, trivial⟩, rfl⟩, trivial⟩
       ·have h := Ao c21 h
        refine Aq (Ab (Ab (Aa Ad rfl (qa rfl (Ae ?_)))))
        refine AB (L := Ce N p1) h (fun v22 => mk [(3, .e (.one (.ptr 3 0))), (6, .e (.one (.pure (.val (.int .i64 v22)))))] [(3, .box [.pure (.val (.int .i64 p1.fKind)), .pure (.val (.int .i64 p1.fFrom)), .pure (.val (.int .i64 p1.fTo)), .pure (.val (.bool p1.fAware)), .pure (.sl (p1.fOK.map (Gl eB))), .pure (.sl (p1.fRewrite.map (Gl eB)))])]) (fun v23 => mk [] []) (fun _ _ => rfl) (sm [] _ _ rfl rfl) (fun j22 n22 v22 h => ?_) (fun v23 s h hs => ?_)
        ·unfold Ce at h
         refine Ab (Ab (Aa Ad rfl (qm rfl (qf Hw rfl (ql Le rfl (AP Hp rfl (AR rfl (Ae ?_))))))))
         refine Ap rfl (fun c24 => ?_) (fun c24 => ?_)
         ·have h := An c24 h
          refine Aq (Ab (AD (Ab (Aa Ad rfl (qf Hw rfl (ql Le rfl (qm rfl ?_)))))))
          obtain ⟨v25, a25, b25, h⟩ := Aj h
          refine qi Hp Oe a25 (Ag b25) rfl (qk Qr rfl (qm rfl ?_))
          obtain ⟨v26, a26, b26, h⟩ := Aj h
          refine qi HQ PX a26 (Ag b26) rfl (qk S9 rfl (CC rfl (Ae ?_)))
          refine Ap rfl (fun c27 => ?_) (fun c27 => ?_)
          ·have h := An c27 h
           refine Ab (Aa Ad rfl (qa rfl (Ae ?_)))
           obtain rfl := sj h
           refine Am (sm [] [(4, .e (.one (.pure (.val (.int .i64 1)))))] [] rfl rfl) (Ax ?_)
           exact ⟨⟨[_], ⟨.tmp _ _ rfl, trivial⟩, rfl⟩, trivial⟩
          ·have h := Ao c27 h
           refine Aq (Aa Ad rfl (qm rfl (AI rfl (qa rfl (Ae ?_)))))
           exact Av _ h (sm [] _ _ rfl rfl)
         ·have h := Ao c24 h
          refine AL ?_
          exact Av _ h (sm [] _ _ rfl rfl)
        ·refine Am hs (Ab (Aa Ad rfl (qa rfl (Ae ?_))))
         obtain rfl := sj h
         refine Am (sm [] [(4, .e (.one (.pure (.val (.int .i64 0)))))] [] rfl rfl) (Ax ?_)
         exact ⟨⟨[_], ⟨.tmp _ _ rfl, trivial⟩, rfl⟩, trivial⟩
set_option maxRecDepth 10000 in
theorem E1 (N : Nat) (p0 : Al) (r : Int) (h : B7 N p0 = some r) : AA Tryz.prog 35 [.e (.agg [.pure (.sl (p0.fVersions.map Ak)), .pure (.sl (p0.fNow.map Ak)), .pure (.sl (p0.fTarget.map Ak)), .pure (.sl (p0.fTables.map Au))])] [] (.e (.one (.pure (.val (.int .i64 r))))) := by
 unfold B7 at h
 refine Ar (n := 102) (rs := [.tmp 2]) Tryz.func35 rfl rfl rfl (AZ rfl) (AZ rfl) rfl fun w0 S0 => ?_
 refine Ab (Aa Ad rfl (qb rfl (qa rfl (Ae (Ab ?_)))))
 refine AK h (fun v1 => mk [(1, .e (.one (.ptr 1 0))), (16, .e (.one (.pure (.val (.bool v1)))))] [(1, .box [.pure (.sl (p0.fVersions.map Ak)), .pure (.sl (p0.fNow.map Ak)), .pure (.sl (p0.fTarget.map Ak)), .pure (.sl (p0.fTables.map Au))])]) (fun j1 h => ?_) (fun v1 h => ?_)
 ·refine Aa Ad rfl (qf BZ rfl (ql Bw rfl (AP AJ rfl (EA rfl (qm rfl ?_)))))
  refine AC (t := 11) rfl (fun c2 => ?_) (fun c2 => ?_)
  ·have h := An c2 h
   refine qn rfl (qn rfl (qn rfl (qn rfl (qp rfl (Ae ?_)))))
   exact Av _ h (sm [] _ _ rfl rfl)
  ·have h := Ao c2 h
   refine qf EC rfl (ql JG rfl (AP FC rfl (EA rfl (qp rfl (Ae ?_)))))
   exact Av _ h (sm [] _ _ rfl rfl)
 ·refine Ap rfl (fun c3 => ?_) (fun c3 => ?_)
  ·have h := An c3 h
   refine Ab (Aa Ad rfl (qa rfl (Ae ?_)))
   obtain rfl := sj h
   refine Am (sm [] [(2, .e (.one (.pure (.val (.int .i64 3)))))] [] rfl rfl) (Ax ?_)
   exact ⟨⟨[_], ⟨.tmp _ _ rfl, trivial⟩, rfl⟩, trivial⟩
  ·have h := Ao c3 h
   refine Aq (Ab ?_)
   refine AK h (fun v4 => mk [(1, .e (.one (.ptr 1 0))), (32, .e (.one (.pure (.val (.bool v4)))))] [(1, .box [.pure (.sl (p0.fVersions.map Ak)), .pure (.sl (p0.fNow.map Ak)), .pure (.sl (p0.fTarget.map Ak)), .pure (.sl (p0.fTables.map Au))])]) (fun j4 h => ?_) (fun v4 h => ?_)
   ·refine Aa Ad rfl (qf H7 rfl (ql Bw rfl (AP AJ rfl (qf BZ rfl (ql Bw rfl (AP AJ rfl (Cy rfl (qm rfl ?_))))))))
    refine AC (t := 24) rfl (fun c5 => ?_) (fun c5 => ?_)
    ·have h := An c5 h
     refine qn rfl (qn rfl (qn rfl (qn rfl (qn rfl (qn rfl (qn rfl (qp rfl (Ae ?_))))))))
     exact Av _ h (sm [] _ _ rfl rfl)
    ·have h := Ao c5 h
     refine qf Hx rfl (ql Bw rfl (AP AJ rfl (qf BZ rfl (ql Bw rfl (AP AJ rfl (Cy rfl (qp rfl (Ae ?_))))))))
     exact Av _ h (sm [] _ _ rfl rfl)
   ·refine Ap rfl (fun c6 => ?_) (fun c6 => ?_)
    ·have h := An c6 h
     refine Ab (Aa Ad rfl (qa rfl (Ae ?_)))
     obtain rfl := sj h
     refine Am (sm [] [(2, .e (.one (.pure (.val (.int .i64 6)))))] [] rfl rfl) (Ax ?_)
     exact ⟨⟨[_], ⟨.tmp _ _ rfl, trivial⟩, rfl⟩, trivial⟩
    ·have h := Ao c6 h
     refine Aq (Ab (Ab (Aa Ad rfl (qa rfl (Ae ?_)))))
     refine AB (L := Bm N p0) h (fun v7 => mk [(1, .e (.one (.ptr 1 0))), (3, .e (.one (.pure (.val (.int .i64 v7)))))] [(1, .box [.pure (.sl (p0.fVersions.map Ak)), .pure (.sl (p0.fNow.map Ak)), .pure (.sl (p0.fTarget.map Ak)), .pure (.sl (p0.fTables.map Au))])]) (fun v8 => mk [(1, .e (.one (.ptr 1 0)))] [(1, .box [.pure (.sl (p0.fVersions.map Ak)), .pure (.sl (p0.fNow.map Ak)), .pure (.sl (p0.fTarget.map Ak)), .pure (.sl (p0.fTables.map Au))])]) (fun _ _ => rfl) (sm [] _ _ rfl rfl) (fun j7 n7 v7 h => ?_) (fun v8 s h hs => ?_)
     ·unfold Bm at h
      refine Ab (Ab (Aa Ad rfl (qm rfl (qf BZ rfl (ql Bw rfl (AP AJ rfl (AR rfl (Ae ?_))))))))
      refine Ap rfl (fun c9 => ?_) (fun c9 => ?_)
      ·have h := An c9 h
       refine Aq (Ab (AD (Ab (Aa Ad rfl (qf BZ rfl (ql Bw rfl (qm rfl ?_)))))))
       obtain ⟨v10, a10, b10, h⟩ := Aj h
       refine qi AJ Es a10 (Ag b10) rfl (qk Dn rfl (qa rfl (Ae ?_)))
       refine AK h (fun v11 => mk [(1, .e (.one (.ptr 1 0))), (3, .e (.one (.pure (.val (.int .i64 v7))))), (84, .e (.one (.pure (.val (.bool v11)))))] [(1, .box [.pure (.sl (p0.fVersions.map Ak)), .pure (.sl (p0.fNow.map Ak)), .pure (.sl (p0.fTarget.map Ak)), .pure (.sl (p0.fTables.map Au))])]) (fun j11 h => ?_) (fun v11 h => ?_)
       ·refine Aa Ad rfl (qm rfl (AR rfl (qm rfl ?_)))
        refine AC (t := 47) rfl (fun c12 => ?_) (fun c12 => ?_)
        ·have h := An c12 h
         refine qn rfl (qn rfl (qp rfl (qm rfl (qn rfl (qn rfl (qn rfl (qn rfl (qn rfl (qn rfl (qp rfl (qm rfl (qn rfl (qn rfl (qn rfl (qn rfl (qn rfl (qn rfl (qn rfl (qp rfl (qm rfl (qn rfl (qn rfl (qn rfl (qn rfl (qn rfl (qn rfl (qp rfl (qm rfl (qn rfl (qn rfl (qn rfl (qn rfl (qn rfl (qn rfl (qn rfl (qp rfl (Ae ?_)))))))))))))))))))))))))))))))))))))
         exact Av _ h (sm [] _ _ rfl rfl)
        ·have h := Ao c12 h
         refine qm rfl (EA rfl (qp rfl (qm rfl ?_)))
         refine AC (t := 51) rfl (fun c13 => ?_) (fun c13 => ?_)
         ·have h := An c13 h
          refine qn rfl (qn rfl (qn rfl (qn rfl (qn rfl (qn rfl (qp rfl (qm rfl (qn rfl (qn rfl (qn rfl (qn rfl (qn rfl (qn rfl (qn rfl (qp rfl (qm rfl (qn rfl (qn rfl (qn rfl (qn rfl (qn rfl (qn rfl (qp rfl (qm rfl (qn rfl (qn rfl (qn rfl (qn rfl (qn rfl (qn rfl (qn rfl (qp rfl (Ae ?_)))))))))))))))))))))))))))))))))
          exact Av _ h (sm [] _ _ rfl rfl)
         ·have h := Ao c13 h
          refine qf H7 rfl (ql Bw rfl (qm rfl ?_))
          obtain ⟨v14, a14, b14, h⟩ := Aj h
          refine qi AJ Es a14 (Ag b14) rfl (qk Dn rfl (AR rfl (qp rfl (qm rfl ?_))))
          refine AC (t := 59) rfl (fun c15 => ?_) (fun c15 => ?_)
          ·have h := An c15 h
           refine qn rfl (qn rfl (qn rfl (qn rfl (qn rfl (qn rfl (qn rfl (qp rfl (qm rfl (qn rfl (qn rfl (qn rfl (qn rfl (qn rfl (qn rfl (qp rfl (qm rfl (qn rfl (qn rfl (qn rfl (qn rfl (qn rfl (qn rfl (qn rfl (qp rfl (Ae ?_)))))))))))))))))))))))))
           exact Av _ h (sm [] _ _ rfl rfl)
          ·have h := Ao c15 h
           refine qf H7 rfl (ql Bw rfl (qm rfl ?_))
           obtain ⟨v16, a16, b16, h⟩ := Aj h
           refine qi AJ Es a16 (Ag b16) rfl (qk Dn rfl (qm rfl (Dl rfl (qp rfl (qm rfl ?_)))))
           refine AC (t := 68) rfl (fun c17 => ?_) (fun c17 => ?_)
           ·have h := An c17 h
            refine qn rfl (qn rfl (qn rfl (qn rfl (qn rfl (qn rfl (qp rfl (qm rfl (qn rfl (qn rfl (qn rfl (qn rfl (qn rfl (qn rfl (qn rfl (qp rfl (Ae ?_))))))))))))))))
            exact Av _ h (sm [] _ _ rfl rfl)
           ·have h := Ao c17 h
            refine qf Hx rfl (ql Bw rfl (qm rfl ?_))
            obtain ⟨v18, a18, b18, h⟩ := Aj h
            refine qi AJ Es a18 (Ag b18) rfl (qk Dn rfl (AR rfl (qp rfl (qm rfl ?_))))
            refine AC (t := 76) rfl (fun c19 => ?_) (fun c19 => ?_)
            ·have h := An c19 h
             refine qn rfl (qn rfl (qn rfl (qn rfl (qn rfl (qn rfl (qn rfl (qp rfl (Ae ?_))))))))
             exact Av _ h (sm [] _ _ rfl rfl)
            ·have h := Ao c19 h
             refine qf Hx rfl (ql Bw rfl (qm rfl ?_))
             obtain ⟨v20, a20, b20, h⟩ := Aj h
             refine qi AJ Es a20 (Ag b20) rfl (qk Dn rfl (qm rfl (Dl rfl (qp rfl (Ae ?_)))))
             exact Av _ h (sm [] _ _ rfl rfl)
       ·refine Ap rfl (fun c21 => ?_) (fun c21 => ?_)
        ·have h := An c21 h
         refine Ab (Aa Ad rfl (qa rfl (Ae ?_)))
         obtain rfl := sj h
         refine Am (sm [] [(2, .e (.one (.pure (.val (.int .i64 7)))))] [] rfl rfl) (Ax ?_)
         exact ⟨⟨[_], ⟨.tmp _ _ rfl, trivial⟩, rfl⟩, trivial⟩
        ·have h := Ao c21 h
         refine Aq (Aa Ad rfl (qm rfl (AI rfl (qa rfl (Ae ?_)))))
         exact Av _ h (sm [] _ _ rfl rfl)
      ·have h := Ao c9 h
       refine AL ?_
       exact Av _ h (sm [] _ _ rfl rfl)
     ·refine Am hs (Ab (Ab (Aa Ad rfl (qa rfl (Ae ?_)))))
      refine AB (L := Bf N p0) h (fun v22 => mk [(1, .e (.one (.ptr 1 0))), (5, .e (.one (.pure (.val (.int .i64 v22)))))] [(1, .box [.pure (.sl (p0.fVersions.map Ak)), .pure (.sl (p0.fNow.map Ak)), .pure (.sl (p0.fTarget.map Ak)), .pure (.sl (p0.fTables.map Au))])]) (fun v23 => mk [] []) (fun _ _ => rfl) (sm [] _ _ rfl rfl) (fun j22 n22 v22 h => ?_) (fun v23 s h hs => ?_)
      ·unfold Bf at h
       refine Ab (Ab (Aa Ad rfl (qm rfl (qf EC rfl (ql JG rfl (AP FC rfl (AR rfl (Ae ?_))))))))
       refine Ap rfl (fun c24 => ?_) (fun c24 => ?_)
       ·have h := An c24 h
        refine Aq (Ab (AD (Ab (Aa Ad rfl (qL EE Ek rfl (qf EC rfl (ql JG rfl (qm rfl ?_))))))))
        obtain ⟨v25, a25, b25, h⟩ := Aj h
        refine qi FC Fj a25 (Ag b25) rfl (qK IS Fj rfl ?_)
        obtain ⟨v26, a26, h⟩ := bind_some h
        refine AG [] (Ky N p0 v25 v26 a26) WD rfl (qa rfl (Az (by kernel_rfl) (Ab (Aa Ad rfl (qm rfl (Cy rfl (Ae ?_)))))))
        refine Ap rfl (fun c27 => ?_) (fun c27 => ?_)
        ·have h := An c27 h
         refine Ab (Aa Ad rfl (qm rfl (qa rfl (Ae ?_))))
         obtain rfl := sj h
         refine Am (sm [] [(2, .e (.one (.pure (.val (.int .i64 v26)))))] [] rfl rfl) (Ax ?_)
         exact ⟨⟨[_], ⟨.tmp _ _ rfl, trivial⟩, rfl⟩, trivial⟩
        ·have h := Ao c27 h
         refine Aq (Aa Ad rfl (qm rfl (AI rfl (qa rfl (Ae ?_)))))
         exact Av _ h (sm [] _ _ rfl rfl)
       ·have h := Ao c24 h
        refine AL ?_
        exact Av _ h (sm [] _ _ rfl rfl)
      ·refine Am hs (Ab (Aa Ad rfl (qa rfl (Ae ?_))))
       obtain rfl := sj h
       refine Am (sm [] [(2, .e (.one (.pure (.val (.int .i64 0)))))] [] rfl rfl) (Ax ?_)
       exact ⟨⟨[_], ⟨.tmp _ _ rfl, trivial⟩, rfl⟩, trivial⟩
set_option maxRecDepth 10000 in
theorem Kz (N : Nat) (p0 : Al) (p1 : Ah) (r : Int) (h : EG N p0 p1 = some r) : AA Tryz.prog 82 [.e (.agg [.pure (.sl (p0.fVersions.map Ak)), .pure (.sl (p0.fNow.map Ak)), .pure (.sl (p0.fTarget.map Ak)), .pure (.sl (p0.fTables.map Au))]), .e (.agg [.pure (.sl (p1.fBase.map Ak)), .pure (.sl (p1.fNext.map Ak)), .pure (.sl (p1.fHeld.map Bv))])] [] (.e (.one (.pure (.val (.int .i64 r))))) := by
 unfold EG at h
 refine Ar (n := 154) (rs := [.tmp 4]) Tryz.func82 rfl rfl rfl (AZ rfl) (AZ rfl) rfl fun w0 S0 => ?_
 refine Ab (Aa Ad rfl (qb rfl (qb rfl (qa rfl (Ae (Ab (Ab (Aa Ad rfl (qL EE Ek rfl ?_)))))))))
 obtain ⟨v1, a1, h⟩ := bind_some h
 refine AG [] (E1 N p0 v1 a1) TT rfl (qa rfl (Ae (Ab (Aa Ad rfl (qm rfl (Cy rfl (Ae ?_)))))))
 refine Ap rfl (fun c2 => ?_) (fun c2 => ?_)
 ·have h := An c2 h
  refine Ab (Aa Ad rfl (qm rfl (qa rfl (Ae ?_))))
  obtain rfl := sj h
  refine Am (sm [] [(4, .e (.one (.pure (.val (.int .i64 v1)))))] [] rfl rfl) (Ax ?_)
  exact ⟨⟨[_], ⟨.tmp _ _ rfl, trivial⟩, rfl⟩, trivial⟩
 ·have h := Ao c2 h
  refine Aq (Ab (Aa Ad rfl (qf BZ rfl (ql Bw rfl (AP AJ rfl (qa rfl (Ae (Ab ?_))))))))
  refine AK h (fun v3 => mk [(2, .e (.one (.ptr 2 0))), (3, .e (.one (.ptr 3 0))), (6, .e (.one (.pure (.val (.int .i64 ((p0.fVersions.length : Int))))))), (39, .e (.one (.pure (.val (.bool v3)))))] [(2, .box [.pure (.sl (p0.fVersions.map Ak)), .pure (.sl (p0.fNow.map Ak)), .pure (.sl (p0.fTarget.map Ak)), .pure (.sl (p0.fTables.map Au))]), (3, .box [.pure (.sl (p1.fBase.map Ak)), .pure (.sl (p1.fNext.map Ak)), .pure (.sl (p1.fHeld.map Bv))])]) (fun j3 h => ?_) (fun v3 h => ?_)
  ·refine Aa Ad rfl (qf Du rfl (ql Bw rfl (AP AJ rfl (qm rfl (Cy rfl (qm rfl ?_))))))
   refine AC (t := 24) rfl (fun c4 => ?_) (fun c4 => ?_)
   ·have h := An c4 h
    refine qn rfl (qn rfl (qn rfl (qn rfl (qn rfl (qp rfl (qm rfl (qn rfl (qn rfl (qn rfl (qn rfl (qn rfl (qn rfl (qn rfl (qp rfl (Ae ?_)))))))))))))))
    exact Av _ h (sm [] _ _ rfl rfl)
   ·have h := Ao c4 h
    refine qf CU rfl (ql Bw rfl (AP AJ rfl (qm rfl (Cy rfl (qp rfl (qm rfl ?_))))))
    refine AC (t := 31) rfl (fun c5 => ?_) (fun c5 => ?_)
    ·have h := An c5 h
     refine qn rfl (qn rfl (qn rfl (qn rfl (qn rfl (qn rfl (qn rfl (qp rfl (Ae ?_))))))))
     exact Av _ h (sm [] _ _ rfl rfl)
    ·have h := Ao c5 h
     refine qf DX rfl (ql It rfl (AP EB rfl (qf EC rfl (ql JG rfl (AP FC rfl (Cy rfl (qp rfl (Ae ?_))))))))
     exact Av _ h (sm [] _ _ rfl rfl)
  ·refine Ap rfl (fun c6 => ?_) (fun c6 => ?_)
   ·have h := An c6 h
    refine Ab (Aa Ad rfl (qa rfl (Ae ?_)))
    obtain rfl := sj h
    refine Am (sm [] [(4, .e (.one (.pure (.val (.int .i64 6)))))] [] rfl rfl) (Ax ?_)
    exact ⟨⟨[_], ⟨.tmp _ _ rfl, trivial⟩, rfl⟩, trivial⟩
   ·have h := Ao c6 h
    refine Aq (Ab (Ab (Aa Ad rfl (qa rfl (Ae ?_)))))
    refine AB (L := Cu N p0 p1) h (fun v7 => mk [(2, .e (.one (.ptr 2 0))), (3, .e (.one (.ptr 3 0))), (6, .e (.one (.pure (.val (.int .i64 ((p0.fVersions.length : Int))))))), (7, .e (.one (.pure (.val (.int .i64 v7)))))] [(2, .box [.pure (.sl (p0.fVersions.map Ak)), .pure (.sl (p0.fNow.map Ak)), .pure (.sl (p0.fTarget.map Ak)), .pure (.sl (p0.fTables.map Au))]), (3, .box [.pure (.sl (p1.fBase.map Ak)), .pure (.sl (p1.fNext.map Ak)), .pure (.sl (p1.fHeld.map Bv))])]) (fun v8 => mk [(2, .e (.one (.ptr 2 0))), (3, .e (.one (.ptr 3 0)))] [(2, .box [.pure (.sl (p0.fVersions.map Ak)), .pure (.sl (p0.fNow.map Ak)), .pure (.sl (p0.fTarget.map Ak)), .pure (.sl (p0.fTables.map Au))]), (3, .box [.pure (.sl (p1.fBase.map Ak)), .pure (.sl (p1.fNext.map Ak)), .pure (.sl (p1.fHeld.map Bv))])]) (fun _ _ => rfl) (sm [] _ _ rfl rfl) (fun j7 n7 v7 h => ?_) (fun v8 s h hs => ?_)
    ·unfold Cu at h
     refine Ab (Ab (Aa Ad rfl (qm rfl (qm rfl (AR rfl (Ae ?_))))))
     refine Ap rfl (fun c9 => ?_) (fun c9 => ?_)
     ·have h := An c9 h
      refine Aq (Ab (AD (Ab ?_)))
      refine AK h (fun v10 => mk [(2, .e (.one (.ptr 2 0))), (3, .e (.one (.ptr 3 0))), (6, .e (.one (.pure (.val (.int .i64 ((p0.fVersions.length : Int))))))), (7, .e (.one (.pure (.val (.int .i64 v7))))), (84, .e (.one (.pure (.val (.bool v10)))))] [(2, .box [.pure (.sl (p0.fVersions.map Ak)), .pure (.sl (p0.fNow.map Ak)), .pure (.sl (p0.fTarget.map Ak)), .pure (.sl (p0.fTables.map Au))]), (3, .box [.pure (.sl (p1.fBase.map Ak)), .pure (.sl (p1.fNext.map Ak)), .pure (.sl (p1.fHeld.map Bv))])]) (fun j10 h => ?_) (fun v10 h => ?_)
      ·refine Aa Ad rfl (qf Du rfl (ql Bw rfl (qm rfl ?_)))
       obtain ⟨v11, a11, b11, h⟩ := Aj h
       refine qi AJ Es a11 (Ag b11) rfl (qk Dn rfl (AR rfl (qm rfl ?_)))
       refine AC (t := 51) rfl (fun c12 => ?_) (fun c12 => ?_)
       ·have h := An c12 h
        refine qn rfl (qn rfl (qn rfl (qn rfl (qn rfl (qn rfl (qn rfl (qn rfl (qn rfl (qn rfl (qn rfl (qp rfl (qm rfl (qn rfl (qn rfl (qn rfl (qn rfl (qn rfl (qn rfl (qp rfl (qm rfl (qn rfl (qn rfl (qn rfl (qn rfl (qn rfl (qn rfl (qn rfl (qn rfl (qn rfl (qn rfl (qn rfl (qp rfl (Az (by kernel_rfl) ?_)))))))))))))))))))))))))))))))))
        exact Av _ h (sm [] _ _ rfl rfl)
       ·have h := Ao c12 h
        refine qf Du rfl (ql Bw rfl (qm rfl ?_))
        obtain ⟨v13, a13, b13, h⟩ := Aj h
        refine qi AJ Es a13 (Ag b13) rfl (qk Dn rfl (qf BZ rfl (ql Bw rfl (qm rfl ?_))))
        obtain ⟨v14, a14, b14, h⟩ := Aj h
        refine qi AJ Es a14 (Ag b14) rfl (qk Dn rfl (Dl rfl (qp rfl (qm rfl ?_))))
        refine AC (t := 64) rfl (fun c15 => ?_) (fun c15 => ?_)
        ·have h := An c15 h
         refine qn rfl (qn rfl (qn rfl (qn rfl (qn rfl (qn rfl (qp rfl (qm rfl (qn rfl (qn rfl (qn rfl (qn rfl (qn rfl (qn rfl (qn rfl (qn rfl (qn rfl (qn rfl (qn rfl (qp rfl (Az (by kernel_rfl) ?_))))))))))))))))))))
         exact Av _ h (sm [] _ _ rfl rfl)
        ·have h := Ao c15 h
         refine qf CU rfl (ql Bw rfl (qm rfl ?_))
         obtain ⟨v16, a16, b16, h⟩ := Aj h
         refine qi AJ Es a16 (Ag b16) rfl (qk Dn rfl (AR rfl (qp rfl (qm rfl ?_))))
         refine AC (t := 72) rfl (fun c17 => ?_) (fun c17 => ?_)
         ·have h := An c17 h
          refine qn rfl (qn rfl (qn rfl (qn rfl (qn rfl (qn rfl (qn rfl (qn rfl (qn rfl (qn rfl (qn rfl (qp rfl (Az (by kernel_rfl) ?_))))))))))))
          exact Av _ h (sm [] _ _ rfl rfl)
         ·have h := Ao c17 h
          refine qf CU rfl (ql Bw rfl (qm rfl ?_))
          obtain ⟨v18, a18, b18, h⟩ := Aj h
          refine qi AJ Es a18 (Ag b18) rfl (qk Dn rfl (qf BZ rfl (ql Bw rfl (qm rfl ?_))))
          obtain ⟨v19, a19, b19, h⟩ := Aj h
          refine qi AJ Es a19 (Ag b19) rfl (qk Dn rfl (Dl rfl (qp rfl (Az (by kernel_rfl) ?_))))
          exact Av _ h (sm [] _ _ rfl rfl)
      ·refine Ap rfl (fun c20 => ?_) (fun c20 => ?_)
       ·have h := An c20 h
        refine Ab (Aa Ad rfl (qa rfl (Ae ?_)))
        obtain rfl := sj h
        refine Am (sm [] [(4, .e (.one (.pure (.val (.int .i64 7)))))] [] rfl rfl) (Ax ?_)
        exact ⟨⟨[_], ⟨.tmp _ _ rfl, trivial⟩, rfl⟩, trivial⟩
       ·have h := Ao c20 h
        refine Aq (Ab (Aa Ad rfl (qf Du rfl (ql Bw rfl (qm rfl ?_)))))
        obtain ⟨v21, a21, b21, h⟩ := Aj h
        refine qi AJ Es a21 (Ag b21) rfl (qk Dn rfl (qf CU rfl (ql Bw rfl (qm rfl ?_))))
        obtain ⟨v22, a22, b22, h⟩ := Aj h
        refine qi AJ Es a22 (Ag b22) rfl (qk Dn rfl (Cp rfl (Az (by kernel_rfl) ?_)))
        refine Ap rfl (fun c23 => ?_) (fun c23 => ?_)
        ·have h := An c23 h
         refine Ab (Aa Ad rfl (qa rfl (Ae ?_)))
         obtain rfl := sj h
         refine Am (sm [] [(4, .e (.one (.pure (.val (.int .i64 1)))))] [] rfl rfl) (Ax ?_)
         exact ⟨⟨[_], ⟨.tmp _ _ rfl, trivial⟩, rfl⟩, trivial⟩
        ·have h := Ao c23 h
         refine Aq (Aa Ad rfl (qm rfl (AI rfl (qa rfl (Ae ?_)))))
         exact Av _ h (sm [] _ _ rfl rfl)
     ·have h := Ao c9 h
      refine AL ?_
      exact Av _ h (sm [] _ _ rfl rfl)
    ·refine Am hs (Ab (Ab (Aa Ad rfl (qa rfl (Ae ?_)))))
     refine AB (L := Cd N p0 p1) h (fun v24 => mk [(2, .e (.one (.ptr 2 0))), (3, .e (.one (.ptr 3 0))), (8, .e (.one (.pure (.val (.int .i64 v24)))))] [(2, .box [.pure (.sl (p0.fVersions.map Ak)), .pure (.sl (p0.fNow.map Ak)), .pure (.sl (p0.fTarget.map Ak)), .pure (.sl (p0.fTables.map Au))]), (3, .box [.pure (.sl (p1.fBase.map Ak)), .pure (.sl (p1.fNext.map Ak)), .pure (.sl (p1.fHeld.map Bv))])]) (fun v25 => mk [] []) (fun _ _ => rfl) (sm [] _ _ rfl rfl) (fun j24 n24 v24 h => ?_) (fun v25 s h hs => ?_)
     ·unfold Cd at h
      refine Ab (Ab (Aa Ad rfl (qm rfl (qf EC rfl (ql JG rfl (AP FC rfl (AR rfl (Ae ?_))))))))
      refine Ap rfl (fun c26 => ?_) (fun c26 => ?_)
      ·have h := An c26 h
       refine Aq (Ab (AD (Ab (Aa Ad rfl (qf EC rfl (ql JG rfl (qm rfl ?_)))))))
       obtain ⟨v27, a27, b27, h⟩ := Aj h
       refine qi FC Fj a27 (Ag b27) rfl (qK IS Fj rfl (qz K9 rfl (qs Fj rfl (Ae (Ab (Aa Ad rfl (qf BZ rfl (ql Bw rfl (qf Et rfl (ql Dn rfl ?_))))))))))
       obtain ⟨v28, a28, b28, h⟩ := Aj h
       refine qi AJ Es a28 (Ag b28) rfl (qk Dn rfl ?_)
       obtain ⟨c29, h⟩ := AW h
       refine IX rfl c29 (Bb rfl (qa rfl (Ae ?_)))
       refine AK h (fun v30 => mk [(2, .e (.one (.ptr 2 0))), (3, .e (.one (.ptr 3 0))), (8, .e (.one (.pure (.val (.int .i64 v24))))), (153, .e (.one (.pure (.val (.bool v30)))))] [(2, .box [.pure (.sl (p0.fVersions.map Ak)), .pure (.sl (p0.fNow.map Ak)), .pure (.sl (p0.fTarget.map Ak)), .pure (.sl (p0.fTables.map Au))]), (3, .box [.pure (.sl (p1.fBase.map Ak)), .pure (.sl (p1.fNext.map Ak)), .pure (.sl (p1.fHeld.map Bv))])]) (fun j30 h => ?_) (fun v30 h => ?_)
       ·refine Aa Ad rfl (qL IS Fj rfl ?_)
        obtain ⟨v31, a31, h⟩ := bind_some h
        refine AG [] (D4 N v27 v31 a31) Qu rfl (CC rfl (qm rfl ?_))
        refine AC (t := 119) rfl (fun c32 => ?_) (fun c32 => ?_)
        ·have h := An c32 h
         refine qf DX rfl (ql It rfl (qm rfl ?_))
         obtain ⟨v33, a33, b33, h⟩ := Aj h
         refine qi EB HM a33 (Ag b33) rfl (qk KO rfl (Cy rfl (qp rfl (qm rfl ?_))))
         refine AC (t := 127) rfl (fun c34 => ?_) (fun c34 => ?_)
         ·have h := An c34 h
          refine qn rfl (qn rfl (qn rfl (qu rfl (qu rfl (qu rfl (qu rfl (qu rfl (qu rfl (qu rfl (qu rfl (qu rfl (qu rfl (qu rfl (qu rfl (qu rfl (qu rfl (qu rfl (qu rfl (qu rfl (qu rfl (qu rfl (qu rfl (qu rfl (qn rfl (qp rfl (Az (by kernel_rfl) ?_))))))))))))))))))))))))))
          exact Av _ h (sm [] _ _ rfl rfl)
         ·have h := Ao c34 h
          refine qL IS Fj rfl ?_
          obtain ⟨v35, a35, h⟩ := bind_some h
          refine AG [] (D4 N v27 v35 a35) Qu rfl (qm rfl ?_)
          refine AC (t := 130) rfl (fun c36 => ?_) (fun c36 => ?_)
          ·have h := An c36 h
           refine qf DX rfl (ql It rfl (qm rfl ?_))
           obtain ⟨v37, a37, b37, h⟩ := Aj h
           refine qi EB HM a37 (Ag b37) rfl (qk KO rfl (qm rfl (IM rfl (Cy rfl (qm rfl ?_)))))
           refine AC (t := 139) rfl (fun c38 => ?_) (fun c38 => ?_)
           ·have h := An c38 h
            refine qn rfl (qn rfl (qn rfl (qn rfl (qn rfl (qn rfl (qn rfl (qn rfl (qn rfl (qn rfl (qn rfl (qp rfl (qp rfl (qp rfl (Az (by kernel_rfl) ?_))))))))))))))
            exact Av _ h (sm [] _ _ rfl rfl)
           ·have h := Ao c38 h
            refine qL A6 Ay rfl (qf Et rfl (ql Dn rfl ?_))
            obtain ⟨v39, a39, h⟩ := bind_some h
            refine AG [] (F8 N p1 v27.fFrom v39 a39) TS rfl (qf DX rfl (ql It rfl (qm rfl ?_)))
            obtain ⟨v40, a40, b40, h⟩ := Aj h
            refine qi EB HM a40 (Ag b40) rfl (qk KO rfl (IM rfl (Cy rfl (qp rfl (qp rfl (qp rfl (Az (by kernel_rfl) ?_)))))))
            exact Av _ h (sm [] _ _ rfl rfl)
          ·have h := Ao c36 h
           refine qn rfl (qn rfl (qn rfl (qn rfl (qn rfl (qn rfl (qn rfl (qn rfl (qn rfl (qu rfl (qu rfl (qu rfl (qu rfl (qu rfl (qu rfl (qu rfl (qu rfl (qu rfl (qu rfl (qu rfl (qn rfl (qp rfl (qp rfl (Az (by kernel_rfl) ?_)))))))))))))))))))))))
           exact Av _ h (sm [] _ _ rfl rfl)
        ·have h := Ao c32 h
         refine qn rfl (qn rfl (qn rfl (qn rfl (qn rfl (qn rfl (qp rfl (qm rfl (qL IS Fj rfl ?_))))))))
         obtain ⟨v41, a41, h⟩ := bind_some h
         refine AG [] (D4 N v27 v41 a41) Qu rfl (qm rfl ?_)
         refine AC (t := 130) rfl (fun c42 => ?_) (fun c42 => ?_)
         ·have h := An c42 h
          refine qf DX rfl (ql It rfl (qm rfl ?_))
          obtain ⟨v43, a43, b43, h⟩ := Aj h
          refine qi EB HM a43 (Ag b43) rfl (qk KO rfl (qm rfl (IM rfl (Cy rfl (qm rfl ?_)))))
          refine AC (t := 139) rfl (fun c44 => ?_) (fun c44 => ?_)
          ·have h := An c44 h
           refine qn rfl (qn rfl (qn rfl (qn rfl (qn rfl (qn rfl (qn rfl (qn rfl (qn rfl (qn rfl (qn rfl (qp rfl (qp rfl (qp rfl (Az (by kernel_rfl) ?_))))))))))))))
           exact Av _ h (sm [] _ _ rfl rfl)
          ·have h := Ao c44 h
           refine qL A6 Ay rfl (qf Et rfl (ql Dn rfl ?_))
           obtain ⟨v45, a45, h⟩ := bind_some h
           refine AG [] (F8 N p1 v27.fFrom v45 a45) TS rfl (qf DX rfl (ql It rfl (qm rfl ?_)))
           obtain ⟨v46, a46, b46, h⟩ := Aj h
           refine qi EB HM a46 (Ag b46) rfl (qk KO rfl (IM rfl (Cy rfl (qp rfl (qp rfl (qp rfl (Az (by kernel_rfl) ?_)))))))
           exact Av _ h (sm [] _ _ rfl rfl)
         ·have h := Ao c42 h
          refine qn rfl (qn rfl (qn rfl (qn rfl (qn rfl (qn rfl (qn rfl (qn rfl (qn rfl (qu rfl (qu rfl (qu rfl (qu rfl (qu rfl (qu rfl (qu rfl (qu rfl (qu rfl (qu rfl (qu rfl (qn rfl (qp rfl (qp rfl (Az (by kernel_rfl) ?_)))))))))))))))))))))))
          exact Av _ h (sm [] _ _ rfl rfl)
       ·refine Ap rfl (fun c47 => ?_) (fun c47 => ?_)
        ·have h := An c47 h
         refine Ab (Aa Ad rfl (qa rfl (Ae ?_)))
         obtain rfl := sj h
         refine Am (sm [] [(4, .e (.one (.pure (.val (.int .i64 1)))))] [] rfl rfl) (Ax ?_)
         exact ⟨⟨[_], ⟨.tmp _ _ rfl, trivial⟩, rfl⟩, trivial⟩
        ·have h := Ao c47 h
         refine Aq (Aa Ad rfl (qm rfl (AI rfl (qa rfl (Ae ?_)))))
         exact Av _ h (sm [] _ _ rfl rfl)
      ·have h := Ao c26 h
       refine AL ?_
       exact Av _ h (sm [] _ _ rfl rfl)
     ·refine Am hs (Ab (Aa Ad rfl (qa rfl (Ae ?_))))
      obtain rfl := sj h
      refine Am (sm [] [(4, .e (.one (.pure (.val (.int .i64 0)))))] [] rfl rfl) (Ax ?_)
      exact ⟨⟨[_], ⟨.tmp _ _ rfl, trivial⟩, rfl⟩, trivial⟩
set_option maxRecDepth 10000 in
theorem KB (N : Nat) (p0 : Al) (p1 : List Ah) (r : Int) (h : EF N p0 p1 = some r) : AA Tryz.prog 56 [.e (.agg [.pure (.sl (p0.fVersions.map Ak)), .pure (.sl (p0.fNow.map Ak)), .pure (.sl (p0.fTarget.map Ak)), .pure (.sl (p0.fTables.map Au))]), .e (.one (.pure (.sl (p1.map Ai))))] [] (.e (.one (.pure (.val (.int .i64 r))))) := by
 unfold EF at h
 refine Ar (n := 28) (rs := [.tmp 4]) Tryz.func56 rfl rfl rfl (AZ rfl) (AZ rfl) rfl fun w0 S0 => ?_
 refine Ab (Aa Ad rfl (qb rfl (qa rfl (Ae (Ab (Ab (Aa Ad rfl (qL EE Ek rfl ?_))))))))
 obtain ⟨v1, a1, h⟩ := bind_some h
 refine AG [] (E1 N p0 v1 a1) TT rfl (qa rfl (Ae (Ab (Aa Ad rfl (qm rfl (Cy rfl (Ae ?_)))))))
 refine Ap rfl (fun c2 => ?_) (fun c2 => ?_)
 ·have h := An c2 h
  refine Ab (Aa Ad rfl (qm rfl (qa rfl (Ae ?_))))
  obtain rfl := sj h
  refine Am (sm [] [(4, .e (.one (.pure (.val (.int .i64 v1)))))] [] rfl rfl) (Ax ?_)
  exact ⟨⟨[_], ⟨.tmp _ _ rfl, trivial⟩, rfl⟩, trivial⟩
 ·have h := Ao c2 h
  refine Aq (Ab (Ab (Aa Ad rfl (qa rfl (Ae ?_)))))
  refine AB (L := Cv N p0 p1) h (fun v3 => mk [(1, .e (.one (.pure (.sl (p1.map Ai))))), (2, .e (.one (.ptr 2 0))), (6, .e (.one (.pure (.val (.int .i64 v3)))))] [(2, .box [.pure (.sl (p0.fVersions.map Ak)), .pure (.sl (p0.fNow.map Ak)), .pure (.sl (p0.fTarget.map Ak)), .pure (.sl (p0.fTables.map Au))])]) (fun v4 => mk [] []) (fun _ _ => rfl) (sm [] _ _ rfl rfl) (fun j3 n3 v3 h => ?_) (fun v4 s h hs => ?_)
  ·unfold Cv at h
   refine Ab (Ab (Aa Ad rfl (qm rfl (qm rfl (AP AS rfl (AR rfl (Ae ?_)))))))
   refine Ap rfl (fun c5 => ?_) (fun c5 => ?_)
   ·have h := An c5 h
    refine Aq (Ab (AD (Ab (Aa Ad rfl (qL EE Ek rfl (qm rfl (qm rfl ?_)))))))
    obtain ⟨v6, a6, b6, h⟩ := Aj h
    refine qi AS Ay a6 (Ag b6) rfl (qK A6 Ay rfl ?_)
    obtain ⟨v7, a7, h⟩ := bind_some h
    refine AG [] (Kz N p0 v6 v7 a7) Wi rfl (qa rfl (Az (by kernel_rfl) (Ab (Aa Ad rfl (qm rfl (Cy rfl (Ae ?_)))))))
    refine Ap rfl (fun c8 => ?_) (fun c8 => ?_)
    ·have h := An c8 h
     refine Ab (Aa Ad rfl (qm rfl (qa rfl (Ae ?_))))
     obtain rfl := sj h
     refine Am (sm [] [(4, .e (.one (.pure (.val (.int .i64 v7)))))] [] rfl rfl) (Ax ?_)
     exact ⟨⟨[_], ⟨.tmp _ _ rfl, trivial⟩, rfl⟩, trivial⟩
    ·have h := Ao c8 h
     refine Aq (Aa Ad rfl (qm rfl (AI rfl (qa rfl (Ae ?_)))))
     exact Av _ h (sm [] _ _ rfl rfl)
   ·have h := Ao c5 h
    refine AL ?_
    exact Av _ h (sm [] _ _ rfl rfl)
  ·refine Am hs (Ab (Aa Ad rfl (qa rfl (Ae ?_))))
   obtain rfl := sj h
   refine Am (sm [] [(4, .e (.one (.pure (.val (.int .i64 0)))))] [] rfl rfl) (Ax ?_)
   exact ⟨⟨[_], ⟨.tmp _ _ rfl, trivial⟩, rfl⟩, trivial⟩
set_option maxRecDepth 10000 in
theorem J3 (N : Nat) (p0 : Al) (p1 : List Ah) (r : Int × Ah × Int) (h : Db N p0 p1 = some r) : AA Tryz.prog 26 [.e (.agg [.pure (.sl (p0.fVersions.map Ak)), .pure (.sl (p0.fNow.map Ak)), .pure (.sl (p0.fTarget.map Ak)), .pure (.sl (p0.fTables.map Au))]), .e (.one (.pure (.sl (p1.map Ai))))] [] (.tup [.one (.pure (.val (.int .i64 r.1))), .agg [.pure (.sl (r.2.1.fBase.map Ak)), .pure (.sl (r.2.1.fNext.map Ak)), .pure (.sl (r.2.1.fHeld.map Bv))], .one (.pure (.val (.int .i64 r.2.2)))]) := by
 unfold Db at h
 refine Ar (n := 81) (rs := [.tmp 4, .cell 5 46, .tmp 6]) Tryz.func26 rfl rfl rfl (AZ rfl) (AZ rfl) rfl fun w0 S0 => ?_
 refine Ab (Aa Ad rfl (qb rfl (qa rfl (qz DN rfl (qa rfl (Ae (Ab (Ab (Aa Ad rfl (qL EE Ek rfl ?_))))))))))
 obtain ⟨v1, a1, h⟩ := bind_some h
 refine AG [] (E1 N p0 v1 a1) TT rfl (qa rfl (Ae (Ab (Aa Ad rfl (qm rfl (Cy rfl (Ae ?_)))))))
 refine Ap rfl (fun c2 => ?_) (fun c2 => ?_)
 ·have h := An c2 h
  refine Ab (Aa Ad rfl (CO DN Jv rfl (qm rfl (qa rfl (qs Ay rfl (qa rfl (Ae ?_)))))))
  obtain rfl := sj h
  refine Am ((Jp 5 _ rfl).trans (sm [] [(4, .e (.one (.pure (.val (.int .i64 0))))), (5, .e (.one (.ptr 5 0))), (6, .e (.one (.pure (.val (.int .i64 v1)))))] [(5, .box [.pure (.sl ((([] : List Int)).map Ak)), .pure (.sl ((([] : List Int)).map Ak)), .pure (.sl ((([] : List Int)).map Bv))])] rfl rfl)) (Ax ?_)
  exact ⟨⟨[_, _, _], ⟨.tmp _ _ rfl, ⟨.cellN _ _ _ _ _ _ _ rfl rfl A6 Ay rfl rfl (Kw rfl), ⟨.tmp _ _ rfl, trivial⟩⟩⟩, rfl⟩, trivial⟩
 ·have h := Ao c2 h
  refine Aq (Ab (Ab (Aa Ad rfl (qm rfl (AP AS rfl (Cp rfl (Ae ?_)))))))
  refine Ap rfl (fun c3 => ?_) (fun c3 => ?_)
  ·have h := An c3 h
   refine Ab (Aa Ad rfl (CO DN Jv rfl (qa rfl (qs Ay rfl (qa rfl (Ae ?_))))))
   obtain rfl := sj h
   refine Am ((Jp 5 _ rfl).trans (sm [] [(4, .e (.one (.pure (.val (.int .i64 0))))), (5, .e (.one (.ptr 5 0))), (6, .e (.one (.pure (.val (.int .i64 10)))))] [(5, .box [.pure (.sl ((([] : List Int)).map Ak)), .pure (.sl ((([] : List Int)).map Ak)), .pure (.sl ((([] : List Int)).map Bv))])] rfl rfl)) (Ax ?_)
   exact ⟨⟨[_, _, _], ⟨.tmp _ _ rfl, ⟨.cellN _ _ _ _ _ _ _ rfl rfl A6 Ay rfl rfl (Kw rfl), ⟨.tmp _ _ rfl, trivial⟩⟩⟩, rfl⟩, trivial⟩
  ·have h := Ao c3 h
   refine Aq (Ab (Ab (Aa Ad rfl (qL EE Ek rfl (qm rfl ?_)))))
   obtain ⟨v4, a4, h⟩ := bind_some h
   refine AG [] (KB N p0 p1 v4 a4) V3 rfl (qa rfl (Ae (Ab (Aa Ad rfl (qm rfl (Cy rfl (Ae ?_)))))))
   refine Ap rfl (fun c5 => ?_) (fun c5 => ?_)
   ·have h := An c5 h
    refine Ab (Aa Ad rfl (CO DN Jv rfl (qm rfl (qa rfl (qs Ay rfl (qa rfl (Ae ?_)))))))
    obtain rfl := sj h
    refine Am ((Jp 5 _ rfl).trans (sm [] [(4, .e (.one (.pure (.val (.int .i64 0))))), (5, .e (.one (.ptr 5 0))), (6, .e (.one (.pure (.val (.int .i64 v4)))))] [(5, .box [.pure (.sl ((([] : List Int)).map Ak)), .pure (.sl ((([] : List Int)).map Ak)), .pure (.sl ((([] : List Int)).map Bv))])] rfl rfl)) (Ax ?_)
    exact ⟨⟨[_, _, _], ⟨.tmp _ _ rfl, ⟨.cellN _ _ _ _ _ _ _ rfl rfl A6 Ay rfl rfl (Kw rfl), ⟨.tmp _ _ rfl, trivial⟩⟩⟩, rfl⟩, trivial⟩
   ·have h := Ao c5 h
    refine Aq (Ab (Aa Ad rfl (qa rfl (qa rfl (Ae (Ab (Ab (Aa Ad rfl (qa rfl (Ae ?_))))))))))
    refine AB (L := C9 N p0 p1) h (fun v6 => mk [(1, .e (.one (.pure (.sl (p1.map Ai))))), (2, .e (.one (.ptr 2 0))), (5, .e (.one (.ptr 5 0))), (9, .e (.one (.pure (.val (.int .i64 v6.1))))), (10, .e (.one (.pure (.val (.int .i64 v6.2.1))))), (11, .e (.one (.pure (.val (.int .i64 v6.2.2)))))] [(2, .box [.pure (.sl (p0.fVersions.map Ak)), .pure (.sl (p0.fNow.map Ak)), .pure (.sl (p0.fTarget.map Ak)), .pure (.sl (p0.fTables.map Au))]), (5, .box [.pure (.nil0), .pure (.nil0), .pure (.nil0)])]) (fun v7 => mk [(1, .e (.one (.pure (.sl (p1.map Ai))))), (5, .e (.one (.ptr 5 0))), (9, .e (.one (.pure (.val (.int .i64 v7.1))))), (10, .e (.one (.pure (.val (.int .i64 v7.2)))))] [(5, .box [.pure (.nil0), .pure (.nil0), .pure (.nil0)])]) (fun _ _ => rfl) (sm [] _ _ rfl rfl) (fun j6 n6 v6 h => ?_) (fun v7 s h hs => ?_)
    ·unfold C9 at h
     refine Ab (Ab (Aa Ad rfl (qm rfl (qm rfl (AP AS rfl (AR rfl (Ae ?_)))))))
     refine Ap rfl (fun c8 => ?_) (fun c8 => ?_)
     ·have h := An c8 h
      refine Aq ?_
      refine AK h (fun v9 => mk [(1, .e (.one (.pure (.sl (p1.map Ai))))), (2, .e (.one (.ptr 2 0))), (5, .e (.one (.ptr 5 0))), (9, .e (.one (.pure (.val (.int .i64 v9.1))))), (10, .e (.one (.pure (.val (.int .i64 v9.2))))), (11, .e (.one (.pure (.val (.int .i64 v6.2.2)))))] [(2, .box [.pure (.sl (p0.fVersions.map Ak)), .pure (.sl (p0.fNow.map Ak)), .pure (.sl (p0.fTarget.map Ak)), .pure (.sl (p0.fTables.map Au))]), (5, .box [.pure (.nil0), .pure (.nil0), .pure (.nil0)])]) (fun j9 h => ?_) (fun v9 h => ?_)
      ·refine AD (Ab (Aa Ad rfl (qa rfl (Ae (Ab (Ab (Aa Ad rfl (qa rfl (Ae ?_)))))))))
       refine AB (L := Br N p0 p1 v6) h (fun v10 => mk [(1, .e (.one (.pure (.sl (p1.map Ai))))), (2, .e (.one (.ptr 2 0))), (5, .e (.one (.ptr 5 0))), (9, .e (.one (.pure (.val (.int .i64 v6.1))))), (10, .e (.one (.pure (.val (.int .i64 v6.2.1))))), (11, .e (.one (.pure (.val (.int .i64 v6.2.2))))), (12, .e (.one (.pure (.val (.int .i64 v10.1))))), (13, .e (.one (.pure (.val (.int .i64 v10.2)))))] [(2, .box [.pure (.sl (p0.fVersions.map Ak)), .pure (.sl (p0.fNow.map Ak)), .pure (.sl (p0.fTarget.map Ak)), .pure (.sl (p0.fTables.map Au))]), (5, .box [.pure (.nil0), .pure (.nil0), .pure (.nil0)])]) (fun v11 => mk [(1, .e (.one (.pure (.sl (p1.map Ai))))), (2, .e (.one (.ptr 2 0))), (5, .e (.one (.ptr 5 0))), (9, .e (.one (.pure (.val (.int .i64 v6.1))))), (10, .e (.one (.pure (.val (.int .i64 v6.2.1))))), (11, .e (.one (.pure (.val (.int .i64 v6.2.2))))), (12, .e (.one (.pure (.val (.int .i64 v11)))))] [(2, .box [.pure (.sl (p0.fVersions.map Ak)), .pure (.sl (p0.fNow.map Ak)), .pure (.sl (p0.fTarget.map Ak)), .pure (.sl (p0.fTables.map Au))]), (5, .box [.pure (.nil0), .pure (.nil0), .pure (.nil0)])]) (fun _ _ => rfl) (sm [] _ _ rfl rfl) (fun j10 n10 v10 h => ?_) (fun v11 s h hs => ?_)
       ·unfold Br at h
        refine Ab (Ab (Aa Ad rfl (qm rfl (qf Hx rfl (ql Bw rfl (AP AJ rfl (AR rfl (Ae ?_))))))))
        refine Ap rfl (fun c12 => ?_) (fun c12 => ?_)
        ·have h := An c12 h
         refine Aq ?_
         refine AK h (fun v13 => mk [(1, .e (.one (.pure (.sl (p1.map Ai))))), (2, .e (.one (.ptr 2 0))), (5, .e (.one (.ptr 5 0))), (9, .e (.one (.pure (.val (.int .i64 v6.1))))), (10, .e (.one (.pure (.val (.int .i64 v6.2.1))))), (11, .e (.one (.pure (.val (.int .i64 v6.2.2))))), (12, .e (.one (.pure (.val (.int .i64 v13))))), (13, .e (.one (.pure (.val (.int .i64 v10.2)))))] [(2, .box [.pure (.sl (p0.fVersions.map Ak)), .pure (.sl (p0.fNow.map Ak)), .pure (.sl (p0.fTarget.map Ak)), .pure (.sl (p0.fTables.map Au))]), (5, .box [.pure (.nil0), .pure (.nil0), .pure (.nil0)])]) (fun j13 h => ?_) (fun v13 h => ?_)
         ·refine AD ?_
          refine AK h (fun v14 => mk [(1, .e (.one (.pure (.sl (p1.map Ai))))), (2, .e (.one (.ptr 2 0))), (5, .e (.one (.ptr 5 0))), (9, .e (.one (.pure (.val (.int .i64 v6.1))))), (10, .e (.one (.pure (.val (.int .i64 v6.2.1))))), (11, .e (.one (.pure (.val (.int .i64 v6.2.2))))), (12, .e (.one (.pure (.val (.int .i64 v10.1))))), (13, .e (.one (.pure (.val (.int .i64 v10.2))))), (68, .e (.one (.pure (.val (.bool v14)))))] [(2, .box [.pure (.sl (p0.fVersions.map Ak)), .pure (.sl (p0.fNow.map Ak)), .pure (.sl (p0.fTarget.map Ak)), .pure (.sl (p0.fTables.map Au))]), (5, .box [.pure (.nil0), .pure (.nil0), .pure (.nil0)])]) (fun j14 h => ?_) (fun v14 h => ?_)
          ·refine Aa Ad rfl (qm rfl (qm rfl ?_))
           obtain ⟨v15, a15, b15, h⟩ := Aj h
           refine qi AS Ay a15 (Ag b15) rfl (qg CU rfl (qk Bw rfl (qm rfl ?_)))
           obtain ⟨v16, a16, b16, h⟩ := Aj h
           refine qi AJ Es a16 (Ag b16) rfl (qk Dn rfl (AR rfl (qm rfl ?_)))
           refine AC (t := 53) rfl (fun c17 => ?_) (fun c17 => ?_)
           ·have h := An c17 h
            refine qm rfl (qm rfl ?_)
            obtain ⟨v18, a18, b18, h⟩ := Aj h
            refine qi AS Ay a18 (Ag b18) rfl (qg Du rfl (qk Bw rfl (qm rfl ?_)))
            obtain ⟨v19, a19, b19, h⟩ := Aj h
            refine qi AJ Es a19 (Ag b19) rfl (qk Dn rfl (qf Hx rfl (ql Bw rfl (qm rfl ?_))))
            obtain ⟨v20, a20, b20, h⟩ := Aj h
            refine qi AJ Es a20 (Ag b20) rfl (qk Dn rfl (Cp rfl (qp rfl (Az (by kernel_rfl) ?_))))
            exact Av _ h (sm [] _ _ rfl rfl)
           ·have h := Ao c17 h
            refine qn rfl (qn rfl (qn rfl (qn rfl (qn rfl (qn rfl (qn rfl (qn rfl (qn rfl (qn rfl (qn rfl (qn rfl (qn rfl (qn rfl (qp rfl (Az (by kernel_rfl) ?_)))))))))))))))
            exact Av _ h (sm [] _ _ rfl rfl)
          ·refine Ap rfl (fun c21 => ?_) (fun c21 => ?_)
           ·have h := An c21 h
            refine Aa Ad rfl (qm rfl (AI rfl (qa rfl (Ae ?_))))
            exact Av _ h (sm [] _ _ rfl rfl)
           ·have h := Ao c21 h
            refine Aq ?_
            exact Av _ h (sm [] _ _ rfl rfl)
         ·refine Aa Ad rfl (qm rfl (AI rfl (qa rfl (Ae ?_))))
          exact Av _ h (sm [] _ _ rfl rfl)
        ·have h := Ao c12 h
         refine AL ?_
         exact Av _ h (sm [] _ _ rfl rfl)
       ·refine Am hs (Ab (Aa Ad rfl (qm rfl (qm rfl (EA rfl (Ae ?_))))))
        refine Ap rfl (fun c22 => ?_) (fun c22 => ?_)
        ·have h := An c22 h
         refine Aa Ad rfl (qm rfl (qm rfl (qa rfl (qa rfl (Ae ?_)))))
         exact Av _ h (sm [] _ _ rfl rfl)
        ·have h := Ao c22 h
         refine Aq ?_
         exact Av _ h (sm [] _ _ rfl rfl)
      ·refine Aa Ad rfl (qm rfl (AI rfl (qa rfl (Ae ?_))))
       exact Av _ h (sm [] _ _ rfl rfl)
     ·have h := Ao c8 h
      refine AL ?_
      exact Av _ h (sm [] _ _ rfl rfl)
    ·refine Am hs (Ab (Aa Ad rfl (qm rfl (qm rfl (qm rfl ?_)))))
     obtain ⟨v23, a23, b23, h⟩ := Aj h
     refine qi AS Ay a23 (Ag b23) rfl (qK A6 Ay rfl (qa rfl (qs Ay rfl (qa rfl (Az (by kernel_rfl) ?_)))))
     obtain rfl := sj h
     refine Am (sm [] [(4, .e (.one (.pure (.val (.int .i64 v7.1))))), (5, .e (.one (.ptr 5 0))), (6, .e (.one (.pure (.val (.int .i64 0)))))] [(5, .box [.pure (.sl (v23.fBase.map Ak)), .pure (.sl (v23.fNext.map Ak)), .pure (.sl (v23.fHeld.map Bv))])] rfl rfl) (Ax ?_)
     exact ⟨⟨[_, _, _], ⟨.tmp _ _ rfl, ⟨.cellN _ _ _ _ _ _ _ rfl rfl A6 Ay rfl rfl (Kw rfl), ⟨.tmp _ _ rfl, trivial⟩⟩⟩, rfl⟩, trivial⟩
set_option maxRecDepth 10000 in
theorem Is (N : Nat) (p0 : C0) (p1 : List BV) (r : Bool) (h : Df N p0 p1 = some r) : AA Tryz.prog 6 [.e (.agg [.pure (.sl (p0.fVersions.map Bv)), .pure (.sl (p0.fNow.map Bv)), .pure (.sl (p0.fTarget.map Bv)), .pure (.sl (p0.fLinks.map Cz))]), .e (.one (.pure (.sl (p1.map Fp))))] [] (.e (.one (.pure (.val (.bool r))))) := by
 unfold Df at h
 refine Ar (n := 73) (rs := [.tmp 4]) Tryz.func6 rfl rfl rfl (AZ rfl) (AZ rfl) rfl fun w0 S0 => ?_
 refine Ab (Aa Ad rfl (qb rfl (qa rfl (Ae (Ab (Aa Ad rfl (qL Wg WC rfl ?_)))))))
 obtain ⟨v1, a1, h⟩ := bind_some h
 refine AG [2001, 2002, 2003, 2004] (Lz N p0 v1 a1) Wo rfl (qm rfl (qx rfl (qx rfl (qz QC rfl (qs Ek rfl (qa rfl (Ae (Ab ?_))))))))
 refine AK h (fun v2 => mk [(1, .e (.one (.pure (.sl (p1.map Fp))))), (5, .e (.one (.ptr 5 0))), (31, .e (.one (.pure (.val (.bool v2)))))] [(5, .box [.own 2005, .own 2006, .own 2007, .own 2008]), (2005, .vec 1 (v1.1.fVersions.map Ak)), (2006, .vec 1 (v1.1.fNow.map Ak)), (2007, .vec 1 (v1.1.fTarget.map Ak)), (2008, .vec 6 (v1.1.fTables.map Au))]) (fun j2 h => ?_) (fun v2 h => ?_)
 ·refine Aa Ad rfl ?_
  obtain ⟨v3, a3, h⟩ := bind_some h
  refine AG [] (Ik N v3 a3) Vu rfl (CC rfl (qm rfl ?_))
  refine AC (t := 23) rfl (fun c4 => ?_) (fun c4 => ?_)
  ·have h := An c4 h
   refine qn rfl (qn rfl (qp rfl (qm rfl (qn rfl (qn rfl (qn rfl (qp rfl (Ae ?_))))))))
   exact Av _ h (sm [(2005, 2001), (2006, 2002), (2007, 2003), (2008, 2004)] _ _ rfl rfl)
  ·have h := Ao c4 h
   refine qm rfl (CC rfl (qp rfl (qm rfl ?_)))
   refine AC (t := 27) rfl (fun c5 => ?_) (fun c5 => ?_)
   ·have h := An c5 h
    refine qn rfl (qn rfl (qn rfl (qp rfl (Ae ?_))))
    exact Av _ h (sm [(2005, 2001), (2006, 2002), (2007, 2003), (2008, 2004)] _ _ rfl rfl)
   ·have h := Ao c5 h
    refine qm rfl (AP Rj rfl (EA rfl (qp rfl (Ae ?_))))
    exact Av _ h (sm [(2005, 2001), (2006, 2002), (2007, 2003), (2008, 2004)] _ _ rfl rfl)
 ·refine Ap rfl (fun c6 => ?_) (fun c6 => ?_)
  ·have h := An c6 h
   refine Ab (Aa Ad rfl ?_)
   obtain ⟨v7, a7, h⟩ := bind_some h
   refine AG [] (Ik N v7 a7) Vu rfl (qa rfl (Ae ?_))
   obtain rfl := sj h
   refine Am (sm [] [(4, .e (.one (.pure (.val (.bool v7)))))] [] rfl rfl) (Ax ?_)
   exact ⟨⟨[_], ⟨.tmp _ _ rfl, trivial⟩, rfl⟩, trivial⟩
  ·have h := Ao c6 h
   refine Aq (Ab (Aa Ad rfl (qa rfl (Ae (Ab (Ab (Aa Ad rfl (qm rfl (AP Rj rfl (qm rfl (Ae ?_)))))))))))
   refine AB (L := BB N p1 v1) h (fun v8 => mk [(5, .e (.one (.ptr 5 0))), (7, .e (.one (.own 2013))), (33, .e (.one (.pure (.sl (p1.map Fp))))), (34, .e (.one (.pure (.val (.int .i64 ((p1.length : Int))))))), (35, .e (.one (.pure (.val (.int .i64 v8.2)))))] [(5, .box [.own 2009, .own 2010, .own 2011, .own 2012]), (2009, .vec 1 (v1.1.fVersions.map Ak)), (2010, .vec 1 (v1.1.fNow.map Ak)), (2011, .vec 1 (v1.1.fTarget.map Ak)), (2012, .vec 6 (v1.1.fTables.map Au)), (2013, .vec 3 (v8.1.map Ai))]) (fun v9 => mk [(5, .e (.one (.ptr 5 0))), (7, .e (.one (.own 2018)))] [(5, .box [.own 2014, .own 2015, .own 2016, .own 2017]), (2014, .vec 1 (v1.1.fVersions.map Ak)), (2015, .vec 1 (v1.1.fNow.map Ak)), (2016, .vec 1 (v1.1.fTarget.map Ak)), (2017, .vec 6 (v1.1.fTables.map Au)), (2018, .vec 3 (v9.map Ai))]) (fun _ _ => rfl) ((BR 7 2022 3 rfl rfl rfl).trans (sm [(2009, 2005), (2010, 2006), (2011, 2007), (2012, 2008), (2013, 2022)] _ _ rfl rfl)) (fun j8 n8 v8 h => ?_) (fun v9 s h hs => ?_)
   ·unfold BB at h
    refine Ab (Aa Ad rfl (AR rfl (Ae (Ab ?_))))
    refine Ap rfl (fun c10 => ?_) (fun c10 => ?_)
    ·have h := An c10 h
     refine Aq (Ab (AD (Ab (Aa Ad rfl ?_))))
     obtain ⟨v11, a11, b11, h⟩ := Aj h
     refine qi Rj Sd a11 (Ag b11) rfl (qK VG Sd rfl (qz V6 rfl (qs Sd rfl (Ae (Aa Ad rfl (qm rfl (qL EE Ek rfl (qL VG Sd rfl ?_))))))))
     obtain ⟨v12, a12, h⟩ := bind_some h
     refine DE [2019, 2020, 2021] [2009, 2010, 2011, 2012] (LL N v1.1 v11 v12 a12) V8 (E3 (fun _ => rfl) (E3 (fun _ => rfl) (E3 (fun _ => rfl) Cf))) rfl (En (Bl 2019 _ _ rfl rfl) (En (Bl 2020 _ _ rfl rfl) (En (Bl 2021 _ _ rfl rfl) (EX AS Ay DN rfl ?_))))
     obtain ⟨c13, h⟩ := AW h
     refine Ep (f := Ai) AS AS Ay P6 DN c13 rfl (qa rfl (Ae (Aa Ad rfl (AI rfl (qm rfl (Ae ?_))))))
     exact Av _ h (sm [(2013, 44)] _ _ rfl rfl)
    ·have h := Ao c10 h
     refine AL ?_
     exact Av _ h (sm [(2014, 2009), (2015, 2010), (2016, 2011), (2017, 2012), (2018, 2013)] _ _ rfl rfl)
   ·refine Am hs (Ab (Aa Ad rfl (qL EE Ek rfl (qm rfl ?_))))
    obtain ⟨v14, a14, h⟩ := bind_some h
    refine DE [2023, 2024, 2025] [2014, 2015, 2016, 2017, 2018] (JD N v1.1 v9 v14 a14) Vw (E3 (fun _ => rfl) (E3 (fun _ => rfl) (E3 (fun _ => rfl) Cf))) rfl (qm rfl (qx rfl (qx rfl (qx rfl (qz DN rfl (qa rfl (qs Ay rfl (qa rfl (Ae (Ab (Aa Ad rfl (qL EE Ek rfl (qm rfl (En (Bl 2014 _ _ rfl rfl) (En (Bl 2015 _ _ rfl rfl) (En (Bl 2016 _ _ rfl rfl) (En (Bl 2017 _ _ rfl rfl) (En (Bl 2018 _ _ rfl rfl) ?_))))))))))))))))))
    obtain ⟨v15, a15, h⟩ := bind_some h
    refine AG [] (J3 N v1.1 v9 v15 a15) WH rfl (qm rfl (qx rfl (qx rfl (qx rfl (qz DN rfl (qa rfl (qs Ay rfl (qa rfl (Ae ?_)))))))))
    refine AK h (fun v16 => mk [(4, .e (.one (.pure (.val (.bool v16)))))] []) (fun j16 h => ?_) (fun v16 h => ?_)
    ·refine Aa Ad rfl (qm rfl (qm rfl (Cp rfl (qm rfl ?_))))
     refine AC (t := 63) rfl (fun c17 => ?_) (fun c17 => ?_)
     ·have h := An c17 h
      refine qm rfl (qm rfl (Cp rfl (qp rfl (qm rfl ?_))))
      refine AC (t := 68) rfl (fun c18 => ?_) (fun c18 => ?_)
      ·have h := An c18 h
       refine qL A6 Ay rfl (qL A6 Ay rfl ?_)
       obtain ⟨v19, a19, h⟩ := bind_some h
       refine DE [] [2023, 2024, 2025] (GK N v14.2.1 v15.2.1 v19 a19) TK Cf rfl (qp rfl (qa rfl (Ae ?_)))
       exact Av _ h (sm [] _ _ rfl rfl)
      ·have h := Ao c18 h
       refine qn rfl (qn rfl (qn rfl (qp rfl (qa rfl (Ae ?_)))))
       exact Av _ h (sm [] _ _ rfl rfl)
     ·have h := Ao c17 h
      refine qn rfl (qn rfl (qn rfl (qp rfl (qm rfl (qn rfl (qn rfl (qn rfl (qp rfl (qa rfl (Ae ?_))))))))))
      exact Av _ h (sm [] _ _ rfl rfl)
    ·obtain rfl := sj h
     refine Am (sm [] [(4, .e (.one (.pure (.val (.bool v16)))))] [] rfl rfl) (Ax ?_)
     exact ⟨⟨[_], ⟨.tmp _ _ rfl, trivial⟩, rfl⟩, trivial⟩
end Go.Lift

