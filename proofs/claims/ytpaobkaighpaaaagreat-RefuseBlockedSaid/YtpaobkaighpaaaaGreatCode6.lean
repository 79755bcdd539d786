/- Lemmas for RefuseBlockedSaid, which YtpaobkaighpaaaaGreatFinR4 proves. -/
import Derived.Test.YtpaobkaighpaaaaGreatCode3
/- That the code does what the shallow programs do, function by function. Written by a program (gen.py). -/
namespace Go.Lift
open Go.RowKit
open Go.Proofs
set_option maxRecDepth 10000 in
theorem F6 (N : Nat) (p0 : List Af) (p1 : Int) (p2 : Int) (p3 : (Af × Af) → Option Int) (r : Bool × (List Af)) (h : CJ N p0 p1 p2 p3 = some r) : Bi Tryz.prog 137 [.e (.one (.own 90000)), .e (.one (.pure (.val (.int .i64 p1)))), .e (.one (.pure (.val (.int .i64 p2)))), .e (.one (.clo (Bc (CL true Ad true Ad) Bh p3)))] [(.vec 3 (p0.map Ad), .vec 3 (r.2.map Ad))] [] (.e (.one (.pure (.val (.bool r.1))))) := by
 unfold CJ at h
 refine A9 (n := 141) (rs := [.tmp 8]) Tryz.func137 rfl rfl rfl (A3 rfl) (A3 rfl) rfl rfl (A3 rfl) rfl (A3 rfl) fun w0 S0 GL => ?_
 refine Am (sm [] [(0, .e (.one (.own 90000))), (1, .e (.one (.pure (.val (.int .i64 p1))))), (2, .e (.one (.pure (.val (.int .i64 p2))))), (3, .e (.one (.clo (Bc (CL true Ad true Ad) Bh p3))))] [(90000, .vec 3 (p0.map Ad))] rfl rfl) (Ab (Aa Ac rfl (qa rfl (Ae (Ab (Aa Ac rfl (qm rfl (AN rfl (qa rfl (Ae (Ab (Ab (Aa Ac rfl (qa rfl (Ae ?_)))))))))))))))
 refine AC (L := Bv N p1 p2 p3) h (fun v1 => mk [(0, .e (.one (.own 90000))), (1, .e (.one (.pure (.val (.int .i64 p1))))), (2, .e (.one (.pure (.val (.int .i64 p2))))), (3, .e (.one (.clo (Bc (CL true Ad true Ad) Bh p3)))), (9, .e (.one (.pure (.val (.int .i64 v1.2.1))))), (10, .e (.one (.pure (.val (.int .i64 v1.2.2)))))] [(90000, .vec 3 (v1.1.map Ad))]) (fun v2 => mk [] [(90000, .vec 3 (v2.map Ad))]) (fun _ _ => rfl) (sm [] _ _ rfl rfl) (fun j1 n1 v1 h => ?_) (fun v2 s h hs => ?_)
 ·unfold Bv at h
  refine Ab (Ab (Aa Ac rfl (qm rfl (AT rfl (Ae ?_)))))
  refine Ap rfl (fun c3 => ?_) (fun c3 => ?_)
  ·have h := Ao c3 h
   refine Aq ?_
   refine AM h (fun v4 => mk [(0, .e (.one (.own 90000))), (1, .e (.one (.pure (.val (.int .i64 p1))))), (2, .e (.one (.pure (.val (.int .i64 p2))))), (3, .e (.one (.clo (Bc (CL true Ad true Ad) Bh p3)))), (9, .e (.one (.pure (.val (.int .i64 v4.2))))), (10, .e (.one (.pure (.val (.int .i64 v1.2.2)))))] [(90000, .vec 3 (v4.1.map Ad))]) (fun j4 h => ?_) (fun v4 h => ?_)
   ·refine AH (Ab ?_)
    refine AC (L := Bw N p2 p3 v1) h (fun v5 => mk [(0, .e (.one (.own 90000))), (1, .e (.one (.pure (.val (.int .i64 p1))))), (2, .e (.one (.pure (.val (.int .i64 p2))))), (3, .e (.one (.clo (Bc (CL true Ad true Ad) Bh p3)))), (9, .e (.one (.pure (.val (.int .i64 v5))))), (10, .e (.one (.pure (.val (.int .i64 v1.2.2)))))] [(90000, .vec 3 (v1.1.map Ad))]) (fun v6 => mk [(0, .e (.one (.own 90000))), (1, .e (.one (.pure (.val (.int .i64 p1))))), (2, .e (.one (.pure (.val (.int .i64 p2))))), (3, .e (.one (.clo (Bc (CL true Ad true Ad) Bh p3)))), (9, .e (.one (.pure (.val (.int .i64 v6))))), (10, .e (.one (.pure (.val (.int .i64 v1.2.2)))))] [(90000, .vec 3 (v1.1.map Ad))]) (fun _ _ => rfl) (sm [] _ _ rfl rfl) (fun j5 n5 v5 h => ?_) (fun v6 s h hs => ?_)
    ·unfold Bw at h
     refine Ab ?_
     refine AM h (fun v7 => mk [(0, .e (.one (.own 90000))), (1, .e (.one (.pure (.val (.int .i64 p1))))), (2, .e (.one (.pure (.val (.int .i64 p2))))), (3, .e (.one (.clo (Bc (CL true Ad true Ad) Bh p3)))), (9, .e (.one (.pure (.val (.int .i64 v5))))), (10, .e (.one (.pure (.val (.int .i64 v1.2.2))))), (36, .e (.one (.pure (.val (.bool v7)))))] [(90000, .vec 3 (v1.1.map Ad))]) (fun j7 h => ?_) (fun v7 h => ?_)
     ·refine Aa Ac rfl (qm rfl (qm rfl (AT rfl (qm rfl ?_))))
      refine AD (t := 22) rfl (fun c8 => ?_) (fun c8 => ?_)
      ·have h := Ao c8 h
       refine qm rfl (qm rfl (qm rfl ?_))
       obtain ⟨v9, a9, b9, h⟩ := Ai h
       refine qI Bb AS a9 (Ah b9) rfl (qJ Dz AS (Ah b9) rfl (qm rfl (qm rfl (Bj rfl ?_))))
       obtain ⟨v10, a10, b10, h⟩ := Ai h
       refine qI Bb AS a10 (Ah b10) rfl (qJ Dz AS (Ah b10) rfl ?_)
       obtain ⟨v11, a11, h⟩ := bind_some h
       refine C9 (ds0 := [_, _]) (ar := (CL true Ad true Ad) ((v9, v10))) (.g rfl rfl) rfl rfl ⟨rfl, rfl, trivial⟩ rfl rfl rfl (C2 (DQ _ _ _ _ Be Be) a11) ?_
       refine AT rfl (Cb rfl (qp rfl (AA (by kernel_rfl) ?_)))
       exact Au _ h (sm [] _ _ rfl rfl)
      ·have h := An c8 h
       refine qn rfl (qn rfl (qn rfl (qn rfl (qn rfl (qn rfl (qn rfl (qn rfl (qn rfl (qn rfl (qn rfl (qn rfl (qn rfl (qp rfl (AA (by kernel_rfl) ?_))))))))))))))
       exact Au _ h (sm [] _ _ rfl rfl)
     ·refine Ap rfl (fun c12 => ?_) (fun c12 => ?_)
      ·have h := Ao c12 h
       refine Aq (AH (Aa Ac rfl (qm rfl (AN rfl (qa rfl (Ae ?_))))))
       exact Au _ h (sm [] _ _ rfl rfl)
      ·have h := An c12 h
       refine AP ?_
       exact Au _ h (sm [] _ _ rfl rfl)
    ·refine Am hs (Ab (Ab (Aa Ac rfl (qm rfl (qm rfl (BX rfl (Ae ?_)))))))
     refine Ap rfl (fun c13 => ?_) (fun c13 => ?_)
     ·have h := Ao c13 h
      refine Ab (Aa Ac rfl (qa rfl (Ae ?_)))
      obtain rfl := sj h
      refine Am (sm [] [(8, .e (.one (.pure (.val (.bool true)))))] [(90000, .vec 3 (v1.1.map Ad))] rfl rfl) (Az ?_)
      exact ⟨⟨[_], ⟨.tmp _ _ rfl, trivial⟩, rfl⟩, ⟨rfl, trivial⟩, trivial⟩
     ·have h := An c13 h
      refine Aq (Ab (Ab (Aa Ac rfl (qm rfl (qm rfl (Bj rfl (AT rfl (Ae ?_))))))))
      refine Ap rfl (fun c14 => ?_) (fun c14 => ?_)
      ·have h := Ao c14 h
       refine Ab (Aa Ac rfl (qa rfl (Ae ?_)))
       obtain rfl := sj h
       refine Am (sm [] [(8, .e (.one (.pure (.val (.bool false)))))] [(90000, .vec 3 (v1.1.map Ad))] rfl rfl) (Az ?_)
       exact ⟨⟨[_], ⟨.tmp _ _ rfl, trivial⟩, rfl⟩, ⟨rfl, trivial⟩, trivial⟩
      ·have h := An c14 h
       refine Aq (Ab (Aa Ac rfl (qm rfl (qm rfl (qm rfl (qm rfl (Bj rfl (qm rfl (qm rfl (Bj rfl ?_))))))))))
       obtain ⟨v15, a15, b15, h⟩ := Ai h
       refine qI Bb AS a15 (Ah b15) rfl (qJ Dz AS (Ah b15) rfl (qm rfl (qm rfl ?_)))
       obtain ⟨v16, a16, b16, h⟩ := Ai h
       refine qI Bb AS a16 (Ah b16) rfl (qJ Dz AS (Ah b16) rfl ?_)
       obtain ⟨v17, a17, b17, h⟩ := Ai h
       refine qI Bb AS a17 (Ah b17) rfl ?_
       refine AV rfl rfl rfl rfl (Ah b17) rfl AS rfl (A3 rfl) (AW Ad v1.1 _ v15) ?_
       obtain ⟨v18, a18, b18, h⟩ := Ai h
       refine qI Bb AS a18 (Ah b18) rfl ?_
       refine AV rfl rfl rfl rfl (Ah b18) rfl AS rfl (A3 rfl) (AW Ad (v1.1.set ((v6).toNat) v15) _ v16) ?_
       refine AA (by kernel_rfl) ?_
       refine AM h (fun v19 => mk [(0, .e (.one (.own 90000))), (1, .e (.one (.pure (.val (.int .i64 p1))))), (2, .e (.one (.pure (.val (.int .i64 p2))))), (3, .e (.one (.clo (Bc (CL true Ad true Ad) Bh p3)))), (9, .e (.one (.pure (.val (.int .i64 v6))))), (10, .e (.one (.pure (.val (.int .i64 v1.2.2)))))] [(90000, .vec 3 (v19.map Ad))]) (fun j19 h => ?_) (fun v19 h => ?_)
       ·refine Ab (Aa Ac rfl (qm rfl (qm rfl (Bj rfl (Db rfl (Ae ?_))))))
        refine Ap rfl (fun c20 => ?_) (fun c20 => ?_)
        ·have h := Ao c20 h
         refine Ab (Aa Ac rfl (qm rfl (Bj rfl (qa rfl (Ae ?_)))))
         refine AC (L := Bu N p3) h (fun v21 => mk [(0, .e (.one (.own 90000))), (1, .e (.one (.pure (.val (.int .i64 p1))))), (2, .e (.one (.pure (.val (.int .i64 p2))))), (3, .e (.one (.clo (Bc (CL true Ad true Ad) Bh p3)))), (9, .e (.one (.pure (.val (.int .i64 v6))))), (10, .e (.one (.pure (.val (.int .i64 v1.2.2))))), (11, .e (.one (.pure (.val (.int .i64 v21.2)))))] [(90000, .vec 3 (v21.1.map Ad))]) (fun v22 => mk [(0, .e (.one (.own 90000))), (1, .e (.one (.pure (.val (.int .i64 p1))))), (2, .e (.one (.pure (.val (.int .i64 p2))))), (3, .e (.one (.clo (Bc (CL true Ad true Ad) Bh p3)))), (9, .e (.one (.pure (.val (.int .i64 v6))))), (10, .e (.one (.pure (.val (.int .i64 v1.2.2)))))] [(90000, .vec 3 (v22.map Ad))]) (fun _ _ => rfl) (sm [] _ _ rfl rfl) (fun j21 n21 v21 h => ?_) (fun v22 s h hs => ?_)
         ·unfold Bu at h
          refine Ab (Ab (Aa Ac rfl (qm rfl (Db rfl (Ae ?_)))))
          refine Ap rfl (fun c23 => ?_) (fun c23 => ?_)
          ·have h := Ao c23 h
           refine Aq (Ab (AH (Ab (Ab (Aa Ac rfl (qm rfl (qm rfl (qm rfl ?_))))))))
           obtain ⟨v24, a24, b24, h⟩ := Ai h
           refine qI Bb AS a24 (Ah b24) rfl (qJ Dz AS (Ah b24) rfl (qm rfl (qm rfl (Bj rfl ?_))))
           obtain ⟨v25, a25, b25, h⟩ := Ai h
           refine qI Bb AS a25 (Ah b25) rfl (qJ Dz AS (Ah b25) rfl ?_)
           obtain ⟨v26, a26, h⟩ := bind_some h
           refine C9 (ds0 := [_, _]) (ar := (CL true Ad true Ad) ((v24, v25))) (.p rfl) rfl rfl ⟨rfl, rfl, trivial⟩ rfl rfl rfl (C2 (DQ _ _ _ _ Be Be) a26) ?_
           refine AT rfl (Cb rfl (AA (by kernel_rfl) ?_))
           refine Ap rfl (fun c27 => ?_) (fun c27 => ?_)
           ·have h := Ao c27 h
            refine AP ?_
            exact Au _ h (sm [] _ _ rfl rfl)
           ·have h := An c27 h
            refine Aq (Aa Ac rfl (qm rfl (qm rfl (qm rfl (qm rfl (Bj rfl (qm rfl (qm rfl (Bj rfl ?_)))))))))
            obtain ⟨v28, a28, b28, h⟩ := Ai h
            refine qI Bb AS a28 (Ah b28) rfl (qJ Dz AS (Ah b28) rfl (qm rfl (qm rfl ?_)))
            obtain ⟨v29, a29, b29, h⟩ := Ai h
            refine qI Bb AS a29 (Ah b29) rfl (qJ Dz AS (Ah b29) rfl ?_)
            obtain ⟨v30, a30, b30, h⟩ := Ai h
            refine qI Bb AS a30 (Ah b30) rfl ?_
            refine AV rfl rfl rfl rfl (Ah b30) rfl AS rfl (A3 rfl) (AW Ad v21.1 _ v28) ?_
            obtain ⟨v31, a31, b31, h⟩ := Ai h
            refine qI Bb AS a31 (Ah b31) rfl ?_
            refine AV rfl rfl rfl rfl (Ah b31) rfl AS rfl (A3 rfl) (AW Ad (v21.1.set ((v21.2).toNat) v28) _ v29) ?_
            refine AA (by kernel_rfl) (Aa Ac rfl (qm rfl (Bj rfl (qa rfl (Ae ?_)))))
            exact Au _ h (sm [] _ _ rfl rfl)
          ·have h := An c23 h
           refine AP ?_
           exact Au _ h (sm [] _ _ rfl rfl)
         ·exact Au _ h (hs.trans (sm [] _ _ rfl rfl))
        ·have h := An c20 h
         refine Aq ?_
         exact Au _ h (sm [] _ _ rfl rfl)
       ·refine Ab (Aa Ac rfl (qm rfl (qm rfl (Bj rfl (Db rfl (Ae ?_))))))
        refine Ap rfl (fun c32 => ?_) (fun c32 => ?_)
        ·have h := Ao c32 h
         refine Ab (Aa Ac rfl (qm rfl (AN rfl (qa rfl (Ae ?_)))))
         refine AC (L := Bt N p2 p3) h (fun v33 => mk [(0, .e (.one (.own 90000))), (1, .e (.one (.pure (.val (.int .i64 p1))))), (2, .e (.one (.pure (.val (.int .i64 p2))))), (3, .e (.one (.clo (Bc (CL true Ad true Ad) Bh p3)))), (9, .e (.one (.pure (.val (.int .i64 v6))))), (10, .e (.one (.pure (.val (.int .i64 v1.2.2))))), (12, .e (.one (.pure (.val (.int .i64 v33.2)))))] [(90000, .vec 3 (v33.1.map Ad))]) (fun v34 => mk [(0, .e (.one (.own 90000))), (1, .e (.one (.pure (.val (.int .i64 p1))))), (2, .e (.one (.pure (.val (.int .i64 p2))))), (3, .e (.one (.clo (Bc (CL true Ad true Ad) Bh p3)))), (9, .e (.one (.pure (.val (.int .i64 v6))))), (10, .e (.one (.pure (.val (.int .i64 v1.2.2)))))] [(90000, .vec 3 (v34.map Ad))]) (fun _ _ => rfl) (sm [] _ _ rfl rfl) (fun j33 n33 v33 h => ?_) (fun v34 s h hs => ?_)
         ·unfold Bt at h
          refine Ab (Ab (Aa Ac rfl (qm rfl (qm rfl (AT rfl (Ae ?_))))))
          refine Ap rfl (fun c35 => ?_) (fun c35 => ?_)
          ·have h := Ao c35 h
           refine Aq (Ab (AH (Ab (Ab (Aa Ac rfl (qm rfl (qm rfl (qm rfl ?_))))))))
           obtain ⟨v36, a36, b36, h⟩ := Ai h
           refine qI Bb AS a36 (Ah b36) rfl (qJ Dz AS (Ah b36) rfl (qm rfl (qm rfl (Bj rfl ?_))))
           obtain ⟨v37, a37, b37, h⟩ := Ai h
           refine qI Bb AS a37 (Ah b37) rfl (qJ Dz AS (Ah b37) rfl ?_)
           obtain ⟨v38, a38, h⟩ := bind_some h
           refine C9 (ds0 := [_, _]) (ar := (CL true Ad true Ad) ((v36, v37))) (.p rfl) rfl rfl ⟨rfl, rfl, trivial⟩ rfl rfl rfl (C2 (DQ _ _ _ _ Be Be) a38) ?_
           refine AT rfl (Cb rfl (AA (by kernel_rfl) ?_))
           refine Ap rfl (fun c39 => ?_) (fun c39 => ?_)
           ·have h := Ao c39 h
            refine AP ?_
            exact Au _ h (sm [] _ _ rfl rfl)
           ·have h := An c39 h
            refine Aq (Aa Ac rfl (qm rfl (qm rfl (qm rfl (qm rfl (Bj rfl (qm rfl (qm rfl (Bj rfl ?_)))))))))
            obtain ⟨v40, a40, b40, h⟩ := Ai h
            refine qI Bb AS a40 (Ah b40) rfl (qJ Dz AS (Ah b40) rfl (qm rfl (qm rfl ?_)))
            obtain ⟨v41, a41, b41, h⟩ := Ai h
            refine qI Bb AS a41 (Ah b41) rfl (qJ Dz AS (Ah b41) rfl ?_)
            obtain ⟨v42, a42, b42, h⟩ := Ai h
            refine qI Bb AS a42 (Ah b42) rfl ?_
            refine AV rfl rfl rfl rfl (Ah b42) rfl AS rfl (A3 rfl) (AW Ad v33.1 _ v40) ?_
            obtain ⟨v43, a43, b43, h⟩ := Ai h
            refine qI Bb AS a43 (Ah b43) rfl ?_
            refine AV rfl rfl rfl rfl (Ah b43) rfl AS rfl (A3 rfl) (AW Ad (v33.1.set ((v33.2).toNat) v40) _ v41) ?_
            refine AA (by kernel_rfl) (Aa Ac rfl (qm rfl (AN rfl (qa rfl (Ae ?_)))))
            exact Au _ h (sm [] _ _ rfl rfl)
          ·have h := An c35 h
           refine AP ?_
           exact Au _ h (sm [] _ _ rfl rfl)
         ·exact Au _ h (hs.trans (sm [] _ _ rfl rfl))
        ·have h := An c32 h
         refine Aq ?_
         exact Au _ h (sm [] _ _ rfl rfl)
   ·refine Aa Ac rfl (qm rfl (AN rfl (qa rfl (Ae ?_))))
    exact Au _ h (sm [] _ _ rfl rfl)
  ·have h := An c3 h
   refine AP ?_
   exact Au _ h (sm [] _ _ rfl rfl)
 ·refine Am hs (Ab (Aa Ac rfl (qa rfl (Ae ?_))))
  obtain rfl := sj h
  refine Am (sm [] [(8, .e (.one (.pure (.val (.bool false)))))] [(90000, .vec 3 (v2.map Ad))] rfl rfl) (Az ?_)
  exact ⟨⟨[_], ⟨.tmp _ _ rfl, trivial⟩, rfl⟩, ⟨rfl, trivial⟩, trivial⟩
set_option maxRecDepth 10000 in
theorem GI (N : Nat) (p0 : List Af) (p1 : Int) (p2 : Int) (p3 : Int) (p4 : (Af × Af) → Option Int) (r : Int × (List Af)) (h : Dt N p0 p1 p2 p3 p4 = some r) : Bi Tryz.prog 138 [.e (.one (.own 90000)), .e (.one (.pure (.val (.int .i64 p1)))), .e (.one (.pure (.val (.int .i64 p2)))), .e (.one (.pure (.val (.int .i64 p3)))), .e (.one (.clo (Bc (CL true Ad true Ad) Bh p4)))] [(.vec 3 (p0.map Ad), .vec 3 (r.2.map Ad))] [] (.e (.one (.pure (.val (.int .i64 r.1))))) := by
 unfold Dt at h
 refine A9 (n := 90) (rs := [.tmp 10]) Tryz.func138 rfl rfl rfl (A3 rfl) (A3 rfl) rfl rfl (A3 rfl) rfl (A3 rfl) fun w0 S0 GL => ?_
 refine Am (sm [] [(0, .e (.one (.own 90000))), (1, .e (.one (.pure (.val (.int .i64 p1))))), (2, .e (.one (.pure (.val (.int .i64 p2))))), (3, .e (.one (.pure (.val (.int .i64 p3))))), (4, .e (.one (.clo (Bc (CL true Ad true Ad) Bh p4))))] [(90000, .vec 3 (p0.map Ad))] rfl rfl) (Ab (Aa Ac rfl (qa rfl (Ae (Ab (Aa Ac rfl (qm rfl (qm rfl (qm rfl (qm rfl (qm rfl (qm rfl ?_))))))))))))
 obtain ⟨v1, a1, b1, h⟩ := Ai h
 refine qI Bb AS a1 (Ah b1) rfl (qJ Dz AS (Ah b1) rfl (qm rfl (qm rfl ?_)))
 obtain ⟨v2, a2, b2, h⟩ := Ai h
 refine qI Bb AS a2 (Ah b2) rfl (qJ Dz AS (Ah b2) rfl ?_)
 obtain ⟨v3, a3, b3, h⟩ := Ai h
 refine qI Bb AS a3 (Ah b3) rfl ?_
 refine AV rfl rfl rfl rfl (Ah b3) rfl AS rfl (A3 rfl) (AW Ad p0 _ v1) ?_
 obtain ⟨v4, a4, b4, h⟩ := Ai h
 refine qI Bb AS a4 (Ah b4) rfl ?_
 refine AV rfl rfl rfl rfl (Ah b4) rfl AS rfl (A3 rfl) (AW Ad (p0.set ((p1).toNat) v1) _ v2) ?_
 refine AA (by kernel_rfl) (Ab (Aa Ac rfl (qm rfl (AN rfl (qm rfl (Bj rfl (qa rfl (qa rfl (Ae (Ab ?_))))))))))
 refine AC (L := BZ N p1 p4) h (fun v5 => mk [(0, .e (.one (.own 90000))), (1, .e (.one (.pure (.val (.int .i64 p1))))), (4, .e (.one (.clo (Bc (CL true Ad true Ad) Bh p4)))), (11, .e (.one (.pure (.val (.int .i64 v5.2.1))))), (12, .e (.one (.pure (.val (.int .i64 v5.2.2)))))] [(90000, .vec 3 (v5.1.map Ad))]) (fun v6 => mk [(11, .e (.one (.pure (.val (.int .i64 v6.2)))))] [(90000, .vec 3 (v6.1.map Ad))]) (fun _ _ => rfl) (sm [] _ _ rfl rfl) (fun j5 n5 v5 h => ?_) (fun v6 s h hs => ?_)
 ·unfold BZ at h
  refine AH (Ab ?_)
  refine AC (L := B0 N p1 p4 v5) h (fun v7 => mk [(0, .e (.one (.own 90000))), (1, .e (.one (.pure (.val (.int .i64 p1))))), (4, .e (.one (.clo (Bc (CL true Ad true Ad) Bh p4)))), (11, .e (.one (.pure (.val (.int .i64 v7))))), (12, .e (.one (.pure (.val (.int .i64 v5.2.2)))))] [(90000, .vec 3 (v5.1.map Ad))]) (fun v8 => mk [(0, .e (.one (.own 90000))), (1, .e (.one (.pure (.val (.int .i64 p1))))), (4, .e (.one (.clo (Bc (CL true Ad true Ad) Bh p4)))), (11, .e (.one (.pure (.val (.int .i64 v8))))), (12, .e (.one (.pure (.val (.int .i64 v5.2.2)))))] [(90000, .vec 3 (v5.1.map Ad))]) (fun _ _ => rfl) (sm [] _ _ rfl rfl) (fun j7 n7 v7 h => ?_) (fun v8 s h hs => ?_)
  ·unfold B0 at h
   refine Ab ?_
   refine AM h (fun v9 => mk [(0, .e (.one (.own 90000))), (1, .e (.one (.pure (.val (.int .i64 p1))))), (4, .e (.one (.clo (Bc (CL true Ad true Ad) Bh p4)))), (11, .e (.one (.pure (.val (.int .i64 v7))))), (12, .e (.one (.pure (.val (.int .i64 v5.2.2))))), (47, .e (.one (.pure (.val (.bool v9)))))] [(90000, .vec 3 (v5.1.map Ad))]) (fun j9 h => ?_) (fun v9 h => ?_)
   ·refine Aa Ac rfl (qm rfl (qm rfl (IR rfl (qm rfl ?_))))
    refine AD (t := 34) rfl (fun c10 => ?_) (fun c10 => ?_)
    ·have h := Ao c10 h
     refine qm rfl (qm rfl (qm rfl ?_))
     obtain ⟨v11, a11, b11, h⟩ := Ai h
     refine qI Bb AS a11 (Ah b11) rfl (qJ Dz AS (Ah b11) rfl (qm rfl (qm rfl ?_)))
     obtain ⟨v12, a12, b12, h⟩ := Ai h
     refine qI Bb AS a12 (Ah b12) rfl (qJ Dz AS (Ah b12) rfl ?_)
     obtain ⟨v13, a13, h⟩ := bind_some h
     refine C9 (ds0 := [_, _]) (ar := (CL true Ad true Ad) ((v11, v12))) (.g rfl rfl) rfl rfl ⟨rfl, rfl, trivial⟩ rfl rfl rfl (C2 (DQ _ _ _ _ Be Be) a13) ?_
     refine AT rfl (Cb rfl (qp rfl (AA (by kernel_rfl) ?_)))
     exact Au _ h (sm [] _ _ rfl rfl)
    ·have h := An c10 h
     refine qn rfl (qn rfl (qn rfl (qn rfl (qn rfl (qn rfl (qn rfl (qn rfl (qn rfl (qn rfl (qn rfl (qn rfl (qp rfl (AA (by kernel_rfl) ?_)))))))))))))
     exact Au _ h (sm [] _ _ rfl rfl)
   ·refine Ap rfl (fun c14 => ?_) (fun c14 => ?_)
    ·have h := Ao c14 h
     refine Aq (AH (Aa Ac rfl (qm rfl (AN rfl (qa rfl (Ae ?_))))))
     exact Au _ h (sm [] _ _ rfl rfl)
    ·have h := An c14 h
     refine AP ?_
     exact Au _ h (sm [] _ _ rfl rfl)
  ·refine Am hs (Ab ?_)
   refine AC (L := BS N p1 p4 v5 v8) h (fun v15 => mk [(0, .e (.one (.own 90000))), (1, .e (.one (.pure (.val (.int .i64 p1))))), (4, .e (.one (.clo (Bc (CL true Ad true Ad) Bh p4)))), (11, .e (.one (.pure (.val (.int .i64 v8))))), (12, .e (.one (.pure (.val (.int .i64 v15)))))] [(90000, .vec 3 (v5.1.map Ad))]) (fun v16 => mk [(0, .e (.one (.own 90000))), (1, .e (.one (.pure (.val (.int .i64 p1))))), (4, .e (.one (.clo (Bc (CL true Ad true Ad) Bh p4)))), (11, .e (.one (.pure (.val (.int .i64 v8))))), (12, .e (.one (.pure (.val (.int .i64 v16)))))] [(90000, .vec 3 (v5.1.map Ad))]) (fun _ _ => rfl) (sm [] _ _ rfl rfl) (fun j15 n15 v15 h => ?_) (fun v16 s h hs => ?_)
   ·unfold BS at h
    refine Ab ?_
    refine AM h (fun v17 => mk [(0, .e (.one (.own 90000))), (1, .e (.one (.pure (.val (.int .i64 p1))))), (4, .e (.one (.clo (Bc (CL true Ad true Ad) Bh p4)))), (11, .e (.one (.pure (.val (.int .i64 v8))))), (12, .e (.one (.pure (.val (.int .i64 v15))))), (65, .e (.one (.pure (.val (.bool v17)))))] [(90000, .vec 3 (v5.1.map Ad))]) (fun j17 h => ?_) (fun v17 h => ?_)
    ·refine Aa Ac rfl (qm rfl (qm rfl (IR rfl (qm rfl ?_))))
     refine AD (t := 53) rfl (fun c18 => ?_) (fun c18 => ?_)
     ·have h := Ao c18 h
      refine qm rfl (qm rfl (qm rfl ?_))
      obtain ⟨v19, a19, b19, h⟩ := Ai h
      refine qI Bb AS a19 (Ah b19) rfl (qJ Dz AS (Ah b19) rfl (qm rfl (qm rfl ?_)))
      obtain ⟨v20, a20, b20, h⟩ := Ai h
      refine qI Bb AS a20 (Ah b20) rfl (qJ Dz AS (Ah b20) rfl ?_)
      obtain ⟨v21, a21, h⟩ := bind_some h
      refine C9 (ds0 := [_, _]) (ar := (CL true Ad true Ad) ((v19, v20))) (.g rfl rfl) rfl rfl ⟨rfl, rfl, trivial⟩ rfl rfl rfl (C2 (DQ _ _ _ _ Be Be) a21) ?_
      refine AT rfl (qp rfl (AA (by kernel_rfl) ?_))
      exact Au _ h (sm [] _ _ rfl rfl)
     ·have h := An c18 h
      refine qn rfl (qn rfl (qn rfl (qn rfl (qn rfl (qn rfl (qn rfl (qn rfl (qn rfl (qn rfl (qn rfl (qp rfl (AA (by kernel_rfl) ?_))))))))))))
      exact Au _ h (sm [] _ _ rfl rfl)
    ·refine Ap rfl (fun c22 => ?_) (fun c22 => ?_)
     ·have h := Ao c22 h
      refine Aq (AH (Aa Ac rfl (qm rfl (Bj rfl (qa rfl (Ae ?_))))))
      exact Au _ h (sm [] _ _ rfl rfl)
     ·have h := An c22 h
      refine AP ?_
      exact Au _ h (sm [] _ _ rfl rfl)
   ·refine Am hs (Ab (Ab (Aa Ac rfl (qm rfl (qm rfl (Fv rfl (Ae ?_)))))))
    refine Ap rfl (fun c23 => ?_) (fun c23 => ?_)
    ·have h := Ao c23 h
     refine AP ?_
     exact Au _ h (sm [] _ _ rfl rfl)
    ·have h := An c23 h
     refine Aq (Ab (Aa Ac rfl (qm rfl (qm rfl (qm rfl (qm rfl (qm rfl (qm rfl ?_))))))))
     obtain ⟨v24, a24, b24, h⟩ := Ai h
     refine qI Bb AS a24 (Ah b24) rfl (qJ Dz AS (Ah b24) rfl (qm rfl (qm rfl ?_)))
     obtain ⟨v25, a25, b25, h⟩ := Ai h
     refine qI Bb AS a25 (Ah b25) rfl (qJ Dz AS (Ah b25) rfl ?_)
     obtain ⟨v26, a26, b26, h⟩ := Ai h
     refine qI Bb AS a26 (Ah b26) rfl ?_
     refine AV rfl rfl rfl rfl (Ah b26) rfl AS rfl (A3 rfl) (AW Ad v5.1 _ v24) ?_
     obtain ⟨v27, a27, b27, h⟩ := Ai h
     refine qI Bb AS a27 (Ah b27) rfl ?_
     refine AV rfl rfl rfl rfl (Ah b27) rfl AS rfl (A3 rfl) (AW Ad (v5.1.set ((v8).toNat) v24) _ v25) ?_
     refine AA (by kernel_rfl) (Ab (Aa Ac rfl (qm rfl (AN rfl (qa rfl (Ae (Aa Ac rfl (qm rfl (Bj rfl (qa rfl (Ae ?_)))))))))))
     exact Au _ h (sm [] _ _ rfl rfl)
 ·refine Am hs (Ab (Aa Ac rfl (qm rfl (qa rfl (Ae ?_)))))
  obtain rfl := sj h
  refine Am (sm [] [(10, .e (.one (.pure (.val (.int .i64 v6.2)))))] [(90000, .vec 3 (v6.1.map Ad))] rfl rfl) (Az ?_)
  exact ⟨⟨[_], ⟨.tmp _ _ rfl, trivial⟩, rfl⟩, ⟨rfl, trivial⟩, trivial⟩
set_option maxRecDepth 10000 in
theorem Hm (N : Nat) (p0 : List Af) (p1 : Int) (p2 : Int) (p3 : Int) (p4 : (Af × Af) → Option Int) (r : Int × Bool × (List Af)) (h : DX N p0 p1 p2 p3 p4 = some r) : Bi Tryz.prog 139 [.e (.one (.own 90000)), .e (.one (.pure (.val (.int .i64 p1)))), .e (.one (.pure (.val (.int .i64 p2)))), .e (.one (.pure (.val (.int .i64 p3)))), .e (.one (.clo (Bc (CL true Ad true Ad) Bh p4)))] [(.vec 3 (p0.map Ad), .vec 3 (r.2.2.map Ad))] [] (.tup [.one (.pure (.val (.int .i64 r.1))), .one (.pure (.val (.bool r.2.1)))]) := by
 unfold DX at h
 refine A9 (n := 178) (rs := [.tmp 10, .tmp 11]) Tryz.func139 rfl rfl rfl (A3 rfl) (A3 rfl) rfl rfl (A3 rfl) rfl (A3 rfl) fun w0 S0 GL => ?_
 refine Am (sm [] [(0, .e (.one (.own 90000))), (1, .e (.one (.pure (.val (.int .i64 p1))))), (2, .e (.one (.pure (.val (.int .i64 p2))))), (3, .e (.one (.pure (.val (.int .i64 p3))))), (4, .e (.one (.clo (Bc (CL true Ad true Ad) Bh p4))))] [(90000, .vec 3 (p0.map Ad))] rfl rfl) (Ab (Aa Ac rfl (qa rfl (qa rfl (Ae (Ab (Aa Ac rfl (qm rfl (qm rfl (qm rfl (qm rfl (qm rfl (qm rfl ?_)))))))))))))
 obtain ⟨v1, a1, b1, h⟩ := Ai h
 refine qI Bb AS a1 (Ah b1) rfl (qJ Dz AS (Ah b1) rfl (qm rfl (qm rfl ?_)))
 obtain ⟨v2, a2, b2, h⟩ := Ai h
 refine qI Bb AS a2 (Ah b2) rfl (qJ Dz AS (Ah b2) rfl ?_)
 obtain ⟨v3, a3, b3, h⟩ := Ai h
 refine qI Bb AS a3 (Ah b3) rfl ?_
 refine AV rfl rfl rfl rfl (Ah b3) rfl AS rfl (A3 rfl) (AW Ad p0 _ v1) ?_
 obtain ⟨v4, a4, b4, h⟩ := Ai h
 refine qI Bb AS a4 (Ah b4) rfl ?_
 refine AV rfl rfl rfl rfl (Ah b4) rfl AS rfl (A3 rfl) (AW Ad (p0.set ((p1).toNat) v1) _ v2) ?_
 refine AA (by kernel_rfl) (Ab (Aa Ac rfl (qm rfl (AN rfl (qm rfl (Bj rfl (qa rfl (qa rfl (Ae (Ab ?_))))))))))
 refine AC (L := Cs N p0 p1 p2 p3 p4 v1 v2) h (fun v5 => mk [(0, .e (.one (.own 90000))), (1, .e (.one (.pure (.val (.int .i64 p1))))), (4, .e (.one (.clo (Bc (CL true Ad true Ad) Bh p4)))), (12, .e (.one (.pure (.val (.int .i64 v5))))), (13, .e (.one (.pure (.val (.int .i64 ((IntKind.wrap .i64 (p2 - 1))))))))] [(90000, .vec 3 (((p0.set ((p1).toNat) v1).set ((p3).toNat) v2).map Ad))]) (fun v6 => mk [(0, .e (.one (.own 90000))), (1, .e (.one (.pure (.val (.int .i64 p1))))), (4, .e (.one (.clo (Bc (CL true Ad true Ad) Bh p4)))), (12, .e (.one (.pure (.val (.int .i64 v6))))), (13, .e (.one (.pure (.val (.int .i64 ((IntKind.wrap .i64 (p2 - 1))))))))] [(90000, .vec 3 (((p0.set ((p1).toNat) v1).set ((p3).toNat) v2).map Ad))]) (fun _ _ => rfl) (sm [] _ _ rfl rfl) (fun j5 n5 v5 h => ?_) (fun v6 s h hs => ?_)
 ·unfold Cs at h
  refine Ab ?_
  refine AM h (fun v7 => mk [(0, .e (.one (.own 90000))), (1, .e (.one (.pure (.val (.int .i64 p1))))), (4, .e (.one (.clo (Bc (CL true Ad true Ad) Bh p4)))), (12, .e (.one (.pure (.val (.int .i64 v5))))), (13, .e (.one (.pure (.val (.int .i64 ((IntKind.wrap .i64 (p2 - 1)))))))), (47, .e (.one (.pure (.val (.bool v7)))))] [(90000, .vec 3 (((p0.set ((p1).toNat) v1).set ((p3).toNat) v2).map Ad))]) (fun j7 h => ?_) (fun v7 h => ?_)
  ·refine Aa Ac rfl (qm rfl (qm rfl (IR rfl (qm rfl ?_))))
   refine AD (t := 35) rfl (fun c8 => ?_) (fun c8 => ?_)
   ·have h := Ao c8 h
    refine qm rfl (qm rfl (qm rfl ?_))
    obtain ⟨v9, a9, b9, h⟩ := Ai h
    refine qI Bb AS a9 (Ah b9) rfl (qJ Dz AS (Ah b9) rfl (qm rfl (qm rfl ?_)))
    obtain ⟨v10, a10, b10, h⟩ := Ai h
    refine qI Bb AS a10 (Ah b10) rfl (qJ Dz AS (Ah b10) rfl ?_)
    obtain ⟨v11, a11, h⟩ := bind_some h
    refine C9 (ds0 := [_, _]) (ar := (CL true Ad true Ad) ((v9, v10))) (.g rfl rfl) rfl rfl ⟨rfl, rfl, trivial⟩ rfl rfl rfl (C2 (DQ _ _ _ _ Be Be) a11) ?_
    refine AT rfl (qp rfl (AA (by kernel_rfl) ?_))
    exact Au _ h (sm [] _ _ rfl rfl)
   ·have h := An c8 h
    refine qn rfl (qn rfl (qn rfl (qn rfl (qn rfl (qn rfl (qn rfl (qn rfl (qn rfl (qn rfl (qn rfl (qp rfl (AA (by kernel_rfl) ?_))))))))))))
    exact Au _ h (sm [] _ _ rfl rfl)
  ·refine Ap rfl (fun c12 => ?_) (fun c12 => ?_)
   ·have h := Ao c12 h
    refine Aq (AH (Aa Ac rfl (qm rfl (AN rfl (qa rfl (Ae ?_))))))
    exact Au _ h (sm [] _ _ rfl rfl)
   ·have h := An c12 h
    refine AP ?_
    exact Au _ h (sm [] _ _ rfl rfl)
 ·refine Am hs (Ab ?_)
  refine AC (L := Cg N p0 p1 p3 p4 v1 v2 v6) h (fun v13 => mk [(0, .e (.one (.own 90000))), (1, .e (.one (.pure (.val (.int .i64 p1))))), (4, .e (.one (.clo (Bc (CL true Ad true Ad) Bh p4)))), (12, .e (.one (.pure (.val (.int .i64 v6))))), (13, .e (.one (.pure (.val (.int .i64 v13)))))] [(90000, .vec 3 (((p0.set ((p1).toNat) v1).set ((p3).toNat) v2).map Ad))]) (fun v14 => mk [(0, .e (.one (.own 90000))), (1, .e (.one (.pure (.val (.int .i64 p1))))), (4, .e (.one (.clo (Bc (CL true Ad true Ad) Bh p4)))), (12, .e (.one (.pure (.val (.int .i64 v6))))), (13, .e (.one (.pure (.val (.int .i64 v14)))))] [(90000, .vec 3 (((p0.set ((p1).toNat) v1).set ((p3).toNat) v2).map Ad))]) (fun _ _ => rfl) (sm [] _ _ rfl rfl) (fun j13 n13 v13 h => ?_) (fun v14 s h hs => ?_)
  ·unfold Cg at h
   refine Ab ?_
   refine AM h (fun v15 => mk [(0, .e (.one (.own 90000))), (1, .e (.one (.pure (.val (.int .i64 p1))))), (4, .e (.one (.clo (Bc (CL true Ad true Ad) Bh p4)))), (12, .e (.one (.pure (.val (.int .i64 v6))))), (13, .e (.one (.pure (.val (.int .i64 v13))))), (66, .e (.one (.pure (.val (.bool v15)))))] [(90000, .vec 3 (((p0.set ((p1).toNat) v1).set ((p3).toNat) v2).map Ad))]) (fun j15 h => ?_) (fun v15 h => ?_)
   ·refine Aa Ac rfl (qm rfl (qm rfl (IR rfl (qm rfl ?_))))
    refine AD (t := 53) rfl (fun c16 => ?_) (fun c16 => ?_)
    ·have h := Ao c16 h
     refine qm rfl (qm rfl (qm rfl ?_))
     obtain ⟨v17, a17, b17, h⟩ := Ai h
     refine qI Bb AS a17 (Ah b17) rfl (qJ Dz AS (Ah b17) rfl (qm rfl (qm rfl ?_)))
     obtain ⟨v18, a18, b18, h⟩ := Ai h
     refine qI Bb AS a18 (Ah b18) rfl (qJ Dz AS (Ah b18) rfl ?_)
     obtain ⟨v19, a19, h⟩ := bind_some h
     refine C9 (ds0 := [_, _]) (ar := (CL true Ad true Ad) ((v17, v18))) (.g rfl rfl) rfl rfl ⟨rfl, rfl, trivial⟩ rfl rfl rfl (C2 (DQ _ _ _ _ Be Be) a19) ?_
     refine AT rfl (Cb rfl (qp rfl (AA (by kernel_rfl) ?_)))
     exact Au _ h (sm [] _ _ rfl rfl)
    ·have h := An c16 h
     refine qn rfl (qn rfl (qn rfl (qn rfl (qn rfl (qn rfl (qn rfl (qn rfl (qn rfl (qn rfl (qn rfl (qn rfl (qp rfl (AA (by kernel_rfl) ?_)))))))))))))
     exact Au _ h (sm [] _ _ rfl rfl)
   ·refine Ap rfl (fun c20 => ?_) (fun c20 => ?_)
    ·have h := Ao c20 h
     refine Aq (AH (Aa Ac rfl (qm rfl (Bj rfl (qa rfl (Ae ?_))))))
     exact Au _ h (sm [] _ _ rfl rfl)
    ·have h := An c20 h
     refine AP ?_
     exact Au _ h (sm [] _ _ rfl rfl)
  ·refine Am hs (Ab (Ab (Aa Ac rfl (qm rfl (qm rfl (Fv rfl (Ae ?_)))))))
   refine Ap rfl (fun c21 => ?_) (fun c21 => ?_)
   ·have h := Ao c21 h
    refine Ab (Aa Ac rfl (qm rfl (qm rfl (qm rfl (qm rfl (qm rfl (qm rfl ?_)))))))
    obtain ⟨v22, a22, b22, h⟩ := Ai h
    refine qI Bb AS a22 (Ah b22) rfl (qJ Dz AS (Ah b22) rfl (qm rfl (qm rfl ?_)))
    obtain ⟨v23, a23, b23, h⟩ := Ai h
    refine qI Bb AS a23 (Ah b23) rfl (qJ Dz AS (Ah b23) rfl ?_)
    obtain ⟨v24, a24, b24, h⟩ := Ai h
    refine qI Bb AS a24 (Ah b24) rfl ?_
    refine AV rfl rfl rfl rfl (Ah b24) rfl AS rfl (A3 rfl) (AW Ad ((p0.set ((p1).toNat) v1).set ((p3).toNat) v2) _ v22) ?_
    obtain ⟨v25, a25, b25, h⟩ := Ai h
    refine qI Bb AS a25 (Ah b25) rfl ?_
    refine AV rfl rfl rfl rfl (Ah b25) rfl AS rfl (A3 rfl) (AW Ad (((p0.set ((p1).toNat) v1).set ((p3).toNat) v2).set ((v14).toNat) v22) _ v23) ?_
    refine AA (by kernel_rfl) (Ab (Aa Ac rfl (qm rfl (qa rfl (qa rfl (Ae ?_))))))
    obtain rfl := sj h
    refine Am (sm [] [(10, .e (.one (.pure (.val (.int .i64 v14))))), (11, .e (.one (.pure (.val (.bool true)))))] [(90000, .vec 3 (((((p0.set ((p1).toNat) v1).set ((p3).toNat) v2).set ((v14).toNat) v22).set ((p1).toNat) v23).map Ad))] rfl rfl) (Az ?_)
    exact ⟨⟨[_, _], ⟨.tmp _ _ rfl, ⟨.tmp _ _ rfl, trivial⟩⟩, rfl⟩, ⟨rfl, trivial⟩, trivial⟩
   ·have h := An c21 h
    refine Aq (Ab (Aa Ac rfl (qm rfl (qm rfl (qm rfl (qm rfl (qm rfl (qm rfl ?_))))))))
    obtain ⟨v26, a26, b26, h⟩ := Ai h
    refine qI Bb AS a26 (Ah b26) rfl (qJ Dz AS (Ah b26) rfl (qm rfl (qm rfl ?_)))
    obtain ⟨v27, a27, b27, h⟩ := Ai h
    refine qI Bb AS a27 (Ah b27) rfl (qJ Dz AS (Ah b27) rfl ?_)
    obtain ⟨v28, a28, b28, h⟩ := Ai h
    refine qI Bb AS a28 (Ah b28) rfl ?_
    refine AV rfl rfl rfl rfl (Ah b28) rfl AS rfl (A3 rfl) (AW Ad ((p0.set ((p1).toNat) v1).set ((p3).toNat) v2) _ v26) ?_
    obtain ⟨v29, a29, b29, h⟩ := Ai h
    refine qI Bb AS a29 (Ah b29) rfl ?_
    refine AV rfl rfl rfl rfl (Ah b29) rfl AS rfl (A3 rfl) (AW Ad (((p0.set ((p1).toNat) v1).set ((p3).toNat) v2).set ((v6).toNat) v26) _ v27) ?_
    refine AA (by kernel_rfl) (Ab (Aa Ac rfl (qm rfl (AN rfl (qa rfl (Ae (Ab (Aa Ac rfl (qm rfl (Bj rfl (qa rfl (Ae (Ab ?_)))))))))))))
    refine AC (L := Ck N p1 p4) h (fun v30 => mk [(0, .e (.one (.own 90000))), (1, .e (.one (.pure (.val (.int .i64 p1))))), (4, .e (.one (.clo (Bc (CL true Ad true Ad) Bh p4)))), (12, .e (.one (.pure (.val (.int .i64 v30.2.1))))), (13, .e (.one (.pure (.val (.int .i64 v30.2.2)))))] [(90000, .vec 3 (v30.1.map Ad))]) (fun v31 => mk [(0, .e (.one (.own 90000))), (1, .e (.one (.pure (.val (.int .i64 p1))))), (13, .e (.one (.pure (.val (.int .i64 v31.2)))))] [(90000, .vec 3 (v31.1.map Ad))]) (fun _ _ => rfl) (sm [] _ _ rfl rfl) (fun j30 n30 v30 h => ?_) (fun v31 s h hs => ?_)
    ·unfold Ck at h
     refine AH (Ab ?_)
     refine AC (L := Ci N p1 p4 v30) h (fun v32 => mk [(0, .e (.one (.own 90000))), (1, .e (.one (.pure (.val (.int .i64 p1))))), (4, .e (.one (.clo (Bc (CL true Ad true Ad) Bh p4)))), (12, .e (.one (.pure (.val (.int .i64 v32))))), (13, .e (.one (.pure (.val (.int .i64 v30.2.2)))))] [(90000, .vec 3 (v30.1.map Ad))]) (fun v33 => mk [(0, .e (.one (.own 90000))), (1, .e (.one (.pure (.val (.int .i64 p1))))), (4, .e (.one (.clo (Bc (CL true Ad true Ad) Bh p4)))), (12, .e (.one (.pure (.val (.int .i64 v33))))), (13, .e (.one (.pure (.val (.int .i64 v30.2.2)))))] [(90000, .vec 3 (v30.1.map Ad))]) (fun _ _ => rfl) (sm [] _ _ rfl rfl) (fun j32 n32 v32 h => ?_) (fun v33 s h hs => ?_)
     ·unfold Ci at h
      refine Ab ?_
      refine AM h (fun v34 => mk [(0, .e (.one (.own 90000))), (1, .e (.one (.pure (.val (.int .i64 p1))))), (4, .e (.one (.clo (Bc (CL true Ad true Ad) Bh p4)))), (12, .e (.one (.pure (.val (.int .i64 v32))))), (13, .e (.one (.pure (.val (.int .i64 v30.2.2))))), (120, .e (.one (.pure (.val (.bool v34)))))] [(90000, .vec 3 (v30.1.map Ad))]) (fun j34 h => ?_) (fun v34 h => ?_)
      ·refine Aa Ac rfl (qm rfl (qm rfl (IR rfl (qm rfl ?_))))
       refine AD (t := 108) rfl (fun c35 => ?_) (fun c35 => ?_)
       ·have h := Ao c35 h
        refine qm rfl (qm rfl (qm rfl ?_))
        obtain ⟨v36, a36, b36, h⟩ := Ai h
        refine qI Bb AS a36 (Ah b36) rfl (qJ Dz AS (Ah b36) rfl (qm rfl (qm rfl ?_)))
        obtain ⟨v37, a37, b37, h⟩ := Ai h
        refine qI Bb AS a37 (Ah b37) rfl (qJ Dz AS (Ah b37) rfl ?_)
        obtain ⟨v38, a38, h⟩ := bind_some h
        refine C9 (ds0 := [_, _]) (ar := (CL true Ad true Ad) ((v36, v37))) (.g rfl rfl) rfl rfl ⟨rfl, rfl, trivial⟩ rfl rfl rfl (C2 (DQ _ _ _ _ Be Be) a38) ?_
        refine AT rfl (qp rfl (AA (by kernel_rfl) ?_))
        exact Au _ h (sm [] _ _ rfl rfl)
       ·have h := An c35 h
        refine qn rfl (qn rfl (qn rfl (qn rfl (qn rfl (qn rfl (qn rfl (qn rfl (qn rfl (qn rfl (qn rfl (qp rfl (AA (by kernel_rfl) ?_))))))))))))
        exact Au _ h (sm [] _ _ rfl rfl)
      ·refine Ap rfl (fun c39 => ?_) (fun c39 => ?_)
       ·have h := Ao c39 h
        refine Aq (AH (Aa Ac rfl (qm rfl (AN rfl (qa rfl (Ae ?_))))))
        exact Au _ h (sm [] _ _ rfl rfl)
       ·have h := An c39 h
        refine AP ?_
        exact Au _ h (sm [] _ _ rfl rfl)
     ·refine Am hs (Ab ?_)
      refine AC (L := Cj N p1 p4 v30 v33) h (fun v40 => mk [(0, .e (.one (.own 90000))), (1, .e (.one (.pure (.val (.int .i64 p1))))), (4, .e (.one (.clo (Bc (CL true Ad true Ad) Bh p4)))), (12, .e (.one (.pure (.val (.int .i64 v33))))), (13, .e (.one (.pure (.val (.int .i64 v40)))))] [(90000, .vec 3 (v30.1.map Ad))]) (fun v41 => mk [(0, .e (.one (.own 90000))), (1, .e (.one (.pure (.val (.int .i64 p1))))), (4, .e (.one (.clo (Bc (CL true Ad true Ad) Bh p4)))), (12, .e (.one (.pure (.val (.int .i64 v33))))), (13, .e (.one (.pure (.val (.int .i64 v41)))))] [(90000, .vec 3 (v30.1.map Ad))]) (fun _ _ => rfl) (sm [] _ _ rfl rfl) (fun j40 n40 v40 h => ?_) (fun v41 s h hs => ?_)
      ·unfold Cj at h
       refine Ab ?_
       refine AM h (fun v42 => mk [(0, .e (.one (.own 90000))), (1, .e (.one (.pure (.val (.int .i64 p1))))), (4, .e (.one (.clo (Bc (CL true Ad true Ad) Bh p4)))), (12, .e (.one (.pure (.val (.int .i64 v33))))), (13, .e (.one (.pure (.val (.int .i64 v40))))), (139, .e (.one (.pure (.val (.bool v42)))))] [(90000, .vec 3 (v30.1.map Ad))]) (fun j42 h => ?_) (fun v42 h => ?_)
       ·refine Aa Ac rfl (qm rfl (qm rfl (IR rfl (qm rfl ?_))))
        refine AD (t := 126) rfl (fun c43 => ?_) (fun c43 => ?_)
        ·have h := Ao c43 h
         refine qm rfl (qm rfl (qm rfl ?_))
         obtain ⟨v44, a44, b44, h⟩ := Ai h
         refine qI Bb AS a44 (Ah b44) rfl (qJ Dz AS (Ah b44) rfl (qm rfl (qm rfl ?_)))
         obtain ⟨v45, a45, b45, h⟩ := Ai h
         refine qI Bb AS a45 (Ah b45) rfl (qJ Dz AS (Ah b45) rfl ?_)
         obtain ⟨v46, a46, h⟩ := bind_some h
         refine C9 (ds0 := [_, _]) (ar := (CL true Ad true Ad) ((v44, v45))) (.g rfl rfl) rfl rfl ⟨rfl, rfl, trivial⟩ rfl rfl rfl (C2 (DQ _ _ _ _ Be Be) a46) ?_
         refine AT rfl (Cb rfl (qp rfl (AA (by kernel_rfl) ?_)))
         exact Au _ h (sm [] _ _ rfl rfl)
        ·have h := An c43 h
         refine qn rfl (qn rfl (qn rfl (qn rfl (qn rfl (qn rfl (qn rfl (qn rfl (qn rfl (qn rfl (qn rfl (qn rfl (qp rfl (AA (by kernel_rfl) ?_)))))))))))))
         exact Au _ h (sm [] _ _ rfl rfl)
       ·refine Ap rfl (fun c47 => ?_) (fun c47 => ?_)
        ·have h := Ao c47 h
         refine Aq (AH (Aa Ac rfl (qm rfl (Bj rfl (qa rfl (Ae ?_))))))
         exact Au _ h (sm [] _ _ rfl rfl)
        ·have h := An c47 h
         refine AP ?_
         exact Au _ h (sm [] _ _ rfl rfl)
      ·refine Am hs (Ab (Ab (Aa Ac rfl (qm rfl (qm rfl (Fv rfl (Ae ?_)))))))
       refine Ap rfl (fun c48 => ?_) (fun c48 => ?_)
       ·have h := Ao c48 h
        refine AP ?_
        exact Au _ h (sm [] _ _ rfl rfl)
       ·have h := An c48 h
        refine Aq (Ab (Aa Ac rfl (qm rfl (qm rfl (qm rfl (qm rfl (qm rfl (qm rfl ?_))))))))
        obtain ⟨v49, a49, b49, h⟩ := Ai h
        refine qI Bb AS a49 (Ah b49) rfl (qJ Dz AS (Ah b49) rfl (qm rfl (qm rfl ?_)))
        obtain ⟨v50, a50, b50, h⟩ := Ai h
        refine qI Bb AS a50 (Ah b50) rfl (qJ Dz AS (Ah b50) rfl ?_)
        obtain ⟨v51, a51, b51, h⟩ := Ai h
        refine qI Bb AS a51 (Ah b51) rfl ?_
        refine AV rfl rfl rfl rfl (Ah b51) rfl AS rfl (A3 rfl) (AW Ad v30.1 _ v49) ?_
        obtain ⟨v52, a52, b52, h⟩ := Ai h
        refine qI Bb AS a52 (Ah b52) rfl ?_
        refine AV rfl rfl rfl rfl (Ah b52) rfl AS rfl (A3 rfl) (AW Ad (v30.1.set ((v33).toNat) v49) _ v50) ?_
        refine AA (by kernel_rfl) (Ab (Aa Ac rfl (qm rfl (AN rfl (qa rfl (Ae (Aa Ac rfl (qm rfl (Bj rfl (qa rfl (Ae ?_)))))))))))
        exact Au _ h (sm [] _ _ rfl rfl)
    ·refine Am hs (Ab (Aa Ac rfl (qm rfl (qm rfl (qm rfl (qm rfl (qm rfl (qm rfl ?_))))))))
     obtain ⟨v53, a53, b53, h⟩ := Ai h
     refine qI Bb AS a53 (Ah b53) rfl (qJ Dz AS (Ah b53) rfl (qm rfl (qm rfl ?_)))
     obtain ⟨v54, a54, b54, h⟩ := Ai h
     refine qI Bb AS a54 (Ah b54) rfl (qJ Dz AS (Ah b54) rfl ?_)
     obtain ⟨v55, a55, b55, h⟩ := Ai h
     refine qI Bb AS a55 (Ah b55) rfl ?_
     refine AV rfl rfl rfl rfl (Ah b55) rfl AS rfl (A3 rfl) (AW Ad v31.1 _ v53) ?_
     obtain ⟨v56, a56, b56, h⟩ := Ai h
     refine qI Bb AS a56 (Ah b56) rfl ?_
     refine AV rfl rfl rfl rfl (Ah b56) rfl AS rfl (A3 rfl) (AW Ad (v31.1.set ((v31.2).toNat) v53) _ v54) ?_
     refine AA (by kernel_rfl) (Ab (Aa Ac rfl (qm rfl (qa rfl (qa rfl (Ae ?_))))))
     obtain rfl := sj h
     refine Am (sm [] [(10, .e (.one (.pure (.val (.int .i64 v31.2))))), (11, .e (.one (.pure (.val (.bool false)))))] [(90000, .vec 3 (((v31.1.set ((v31.2).toNat) v53).set ((p1).toNat) v54).map Ad))] rfl rfl) (Az ?_)
     exact ⟨⟨[_, _], ⟨.tmp _ _ rfl, ⟨.tmp _ _ rfl, trivial⟩⟩, rfl⟩, ⟨rfl, trivial⟩, trivial⟩
set_option maxRecDepth 10000 in
theorem Ho (N : Nat) (rc : (List Af) → Int → Int → Int → ((Af × Af) → Option Int) → Option ((List Af))) (hrc : ∀ (p0 : List Af) (p1 : Int) (p2 : Int) (p3 : Int) (p4 : (Af × Af) → Option Int) (r : (List Af)), rc p0 p1 p2 p3 p4 = some r → Bi Tryz.prog 104 [.e (.one (.own 90000)), .e (.one (.pure (.val (.int .i64 p1)))), .e (.one (.pure (.val (.int .i64 p2)))), .e (.one (.pure (.val (.int .i64 p3)))), .e (.one (.clo (Bc (CL true Ad true Ad) Bh p4)))] [(.vec 3 (p0.map Ad), .vec 3 (r.map Ad))] [] (.tup [])) (p0 : List Af) (p1 : Int) (p2 : Int) (p3 : Int) (p4 : (Af × Af) → Option Int) (r : (List Af)) (h : DY N rc p0 p1 p2 p3 p4 = some r) : Bi Tryz.prog 104 [.e (.one (.own 90000)), .e (.one (.pure (.val (.int .i64 p1)))), .e (.one (.pure (.val (.int .i64 p2)))), .e (.one (.pure (.val (.int .i64 p3)))), .e (.one (.clo (Bc (CL true Ad true Ad) Bh p4)))] [(.vec 3 (p0.map Ad), .vec 3 (r.map Ad))] [] (.tup []) := by
 unfold DY at h
 refine A9 (n := 148) (rs := []) Tryz.func104 rfl rfl rfl (A3 rfl) (A3 rfl) rfl rfl (A3 rfl) rfl (A3 rfl) fun w0 S0 GL => Kc ?_
 refine Am (sm [] [(0, .e (.one (.own 90000))), (1, .e (.one (.pure (.val (.int .i64 p1))))), (2, .e (.one (.pure (.val (.int .i64 p2))))), (3, .e (.one (.pure (.val (.int .i64 p3))))), (4, .e (.one (.clo (Bc (CL true Ad true Ad) Bh p4))))] [(90000, .vec 3 (p0.map Ad))] rfl rfl) (Ab (Aa Ac rfl (qa rfl (Ae (Ab (Aa Ac rfl (qa rfl (Ae ?_))))))))
 refine AC (L := Bp N p4 rc) h (fun v1 => mk [(0, .e (.one (.own 90000))), (1, .e (.one (.pure (.val (.int .i64 v1.2.1))))), (2, .e (.one (.pure (.val (.int .i64 v1.2.2.1))))), (3, .e (.one (.pure (.val (.int .i64 v1.2.2.2.1))))), (4, .e (.one (.clo (Bc (CL true Ad true Ad) Bh p4)))), (10, .e (.one (.pure (.val (.bool v1.2.2.2.2.1))))), (11, .e (.one (.pure (.val (.bool v1.2.2.2.2.2)))))] [(90000, .vec 3 (v1.1.map Ad))]) (fun v2 => mk [] []) (fun _ _ => rfl) (sm [] _ _ rfl rfl) (fun j1 n1 v1 h => ?_) (fun v2 s h hs => ?_)
 ·unfold Bp at h
  refine AH (Ab (Aa Ac rfl (qm rfl (qm rfl (Bj rfl (qa rfl (Ae (Ab (Ab (Aa Ac rfl (qm rfl (IR rfl (Ae ?_)))))))))))))
  refine Ap rfl (fun c3 => ?_) (fun c3 => ?_)
  ·have h := Ao c3 h
   refine Ab (Aa Ac rfl (qm rfl (qm rfl (qm rfl (qm rfl ?_)))))
   obtain ⟨v4, a4, h⟩ := bind_some h
   refine BD (ds0 := [_, _, _, _]) [90000] [] [true] (GU N v1.1 v1.2.1 v1.2.2.1 p4 v4 a4) (.p rfl) Yo rfl ⟨rfl, rfl, rfl, rfl, trivial⟩ rfl rfl (by decide) ⟨rfl, trivial⟩ rfl (AX rfl) trivial ⟨(fun h => by cases h), trivial⟩ rfl rfl rfl ?_
   refine Ae ?_
   obtain rfl := sj h
   refine Az ⟨_, (sm [] [] [(90000, .vec 3 (v4.map Ad))] rfl rfl), ?_⟩
   exact ⟨⟨[], trivial, rfl⟩, ⟨rfl, trivial⟩, trivial⟩
  ·have h := An c3 h
   refine Aq (Ab (Ab (Aa Ac rfl (qm rfl (BX rfl (Ae ?_))))))
   refine Ap rfl (fun c5 => ?_) (fun c5 => ?_)
   ·have h := Ao c5 h
    refine Ab (Aa Ac rfl (qm rfl (qm rfl (qm rfl (qm rfl ?_)))))
    obtain ⟨v6, a6, h⟩ := bind_some h
    refine BD (ds0 := [_, _, _, _]) [90000] [] [true] (Hz N v1.1 v1.2.1 v1.2.2.1 p4 v6 a6) (.p rfl) XW rfl ⟨rfl, rfl, rfl, rfl, trivial⟩ rfl rfl (by decide) ⟨rfl, trivial⟩ rfl (AX rfl) trivial ⟨(fun h => by cases h), trivial⟩ rfl rfl rfl ?_
    refine Ae ?_
    obtain rfl := sj h
    refine Az ⟨_, (sm [] [] [(90000, .vec 3 (v6.map Ad))] rfl rfl), ?_⟩
    exact ⟨⟨[], trivial, rfl⟩, ⟨rfl, trivial⟩, trivial⟩
   ·have h := An c5 h
    refine Aq ?_
    refine AM h (fun v7 => mk [(0, .e (.one (.own 90000))), (1, .e (.one (.pure (.val (.int .i64 v1.2.1))))), (2, .e (.one (.pure (.val (.int .i64 v1.2.2.1))))), (3, .e (.one (.pure (.val (.int .i64 v7.2))))), (4, .e (.one (.clo (Bc (CL true Ad true Ad) Bh p4)))), (10, .e (.one (.pure (.val (.bool v1.2.2.2.2.1))))), (11, .e (.one (.pure (.val (.bool v1.2.2.2.2.2))))), (12, .e (.one (.pure (.val (.int .i64 ((IntKind.wrap .i64 (v1.2.2.1 - v1.2.1))))))))] [(90000, .vec 3 (v7.1.map Ad))]) (fun j7 h => ?_) (fun v7 h => ?_)
    ·refine Ab (Aa Ac rfl (qm rfl (Cb rfl (Ae ?_))))
     refine Ap rfl (fun c8 => ?_) (fun c8 => ?_)
     ·have h := Ao c8 h
      refine Ab (Aa Ac rfl (qm rfl (qm rfl (qm rfl (qm rfl ?_)))))
      obtain ⟨v9, a9, h⟩ := bind_some h
      refine BD (ds0 := [_, _, _, _]) [90000] [] [true] (GK N v1.1 v1.2.1 v1.2.2.1 p4 v9 a9) (.p rfl) XQ rfl ⟨rfl, rfl, rfl, rfl, trivial⟩ rfl rfl (by decide) ⟨rfl, trivial⟩ rfl (AX rfl) trivial ⟨(fun h => by cases h), trivial⟩ rfl rfl rfl ?_
      refine Ae (Aa Ac rfl (qm rfl (Bj rfl (qa rfl (Ae ?_)))))
      exact Au _ h (sm [] _ _ rfl rfl)
     ·have h := An c8 h
      refine Aq ?_
      exact Au _ h (sm [] _ _ rfl rfl)
    ·refine Ab (Aa Ac rfl (qm rfl (qm rfl (qm rfl (qm rfl ?_)))))
     obtain ⟨v10, a10, h⟩ := bind_some h
     refine Et [] [90000] (Ha N v7.1 v1.2.1 v1.2.2.1 p4 v10 a10) Yv CQ rfl (qm rfl (qx rfl (qx rfl (qa rfl (qa rfl (Ae ?_))))))
     refine AM h (fun v11 => mk [(0, .e (.one (.own 90000))), (1, .e (.one (.pure (.val (.int .i64 v1.2.1))))), (2, .e (.one (.pure (.val (.int .i64 v1.2.2.1))))), (3, .e (.one (.pure (.val (.int .i64 v7.2))))), (4, .e (.one (.clo (Bc (CL true Ad true Ad) Bh p4)))), (10, .e (.one (.pure (.val (.bool v1.2.2.2.2.1))))), (11, .e (.one (.pure (.val (.bool v1.2.2.2.2.2))))), (12, .e (.one (.pure (.val (.int .i64 ((IntKind.wrap .i64 (v1.2.2.1 - v1.2.1)))))))), (13, .e (.one (.pure (.val (.int .i64 v11.2.1))))), (14, .e (.one (.pure (.val (.int .i64 v11.2.2)))))] [(90000, .vec 3 (v11.1.map Ad))]) (fun j11 h => ?_) (fun v11 h => ?_)
     ·refine Ab (Aa Ac rfl (qm rfl (BX rfl (Ae ?_))))
      refine Ap rfl (fun c12 => ?_) (fun c12 => ?_)
      ·have h := Ao c12 h
       refine Ab (Aa Ac rfl (qm rfl (qm rfl (qm rfl (qm rfl ?_)))))
       obtain ⟨v13, a13, h⟩ := bind_some h
       refine BD (ds0 := [_, _, _, _]) [90000] [] [true] (GV N v7.1 v1.2.1 v1.2.2.1 p4 v13 a13) (.p rfl) Yt rfl ⟨rfl, rfl, rfl, rfl, trivial⟩ rfl rfl (by decide) ⟨rfl, trivial⟩ rfl (AX rfl) trivial ⟨(fun h => by cases h), trivial⟩ rfl rfl rfl ?_
       refine Ae (Ab (Aa Ac rfl (qm rfl (Bj rfl (qm rfl (qm rfl (Bj rfl (Bj rfl (qa rfl (Ae (Aa Ac rfl (qa rfl (Ae ?_)))))))))))))
       exact Au _ h (sm [] _ _ rfl rfl)
      ·have h := An c12 h
       refine Aq ?_
       exact Au _ h (sm [] _ _ rfl rfl)
     ·refine AM h (fun v14 => mk [(0, .e (.one (.own 90000))), (1, .e (.one (.pure (.val (.int .i64 v1.2.1))))), (2, .e (.one (.pure (.val (.int .i64 v1.2.2.1))))), (3, .e (.one (.pure (.val (.int .i64 v7.2))))), (4, .e (.one (.clo (Bc (CL true Ad true Ad) Bh p4)))), (10, .e (.one (.pure (.val (.bool v1.2.2.2.2.1))))), (11, .e (.one (.pure (.val (.bool v1.2.2.2.2.2))))), (12, .e (.one (.pure (.val (.int .i64 ((IntKind.wrap .i64 (v1.2.2.1 - v1.2.1)))))))), (13, .e (.one (.pure (.val (.int .i64 v11.2.1)))))] [(90000, .vec 3 (v14.map Ad))]) (fun j14 h => ?_) (fun v14 h => ?_)
      ·refine AM h (fun v15 => mk [(0, .e (.one (.own 90000))), (1, .e (.one (.pure (.val (.int .i64 v1.2.1))))), (2, .e (.one (.pure (.val (.int .i64 v1.2.2.1))))), (3, .e (.one (.pure (.val (.int .i64 v7.2))))), (4, .e (.one (.clo (Bc (CL true Ad true Ad) Bh p4)))), (10, .e (.one (.pure (.val (.bool v1.2.2.2.2.1))))), (11, .e (.one (.pure (.val (.bool v1.2.2.2.2.2))))), (12, .e (.one (.pure (.val (.int .i64 ((IntKind.wrap .i64 (v1.2.2.1 - v1.2.1)))))))), (13, .e (.one (.pure (.val (.int .i64 v11.2.1))))), (75, .e (.one (.pure (.val (.bool v15)))))] [(90000, .vec 3 (v11.1.map Ad))]) (fun j15 h => ?_) (fun v15 h => ?_)
       ·refine Aa Ac rfl (qm rfl (qm rfl ?_))
        refine AD (t := 69) rfl (fun c16 => ?_) (fun c16 => ?_)
        ·have h := Ao c16 h
         refine qm rfl (qp rfl (qm rfl ?_))
         refine AD (t := 72) rfl (fun c17 => ?_) (fun c17 => ?_)
         ·have h := Ao c17 h
          refine qm rfl (BX rfl (qp rfl (Ae ?_)))
          exact Au _ h (sm [] _ _ rfl rfl)
         ·have h := An c17 h
          refine qn rfl (qn rfl (qp rfl (Ae ?_)))
          exact Au _ h (sm [] _ _ rfl rfl)
        ·have h := An c16 h
         refine qn rfl (qp rfl (qm rfl (qn rfl (qn rfl (qp rfl (Ae ?_))))))
         exact Au _ h (sm [] _ _ rfl rfl)
       ·refine Ap rfl (fun c18 => ?_) (fun c18 => ?_)
        ·have h := Ao c18 h
         refine Ab (Aa Ac rfl (qm rfl (qm rfl (qm rfl (qm rfl ?_)))))
         obtain ⟨v19, a19, h⟩ := bind_some h
         refine BD (ds0 := [_, _, _, _]) [90000] [] [true] (F6 N v11.1 v1.2.1 v1.2.2.1 p4 v19 a19) (.p rfl) XH rfl ⟨rfl, rfl, rfl, rfl, trivial⟩ rfl rfl (by decide) ⟨rfl, trivial⟩ rfl (AX rfl) trivial ⟨(fun h => by cases h), trivial⟩ rfl rfl rfl ?_
         refine Ae ?_
         refine Ap rfl (fun c20 => ?_) (fun c20 => ?_)
         ·have h := Ao c20 h
          obtain rfl := sj h
          refine Az ⟨_, (sm [] [] [(90000, .vec 3 (v19.2.map Ad))] rfl rfl), ?_⟩
          exact ⟨⟨[], trivial, rfl⟩, ⟨rfl, trivial⟩, trivial⟩
         ·have h := An c20 h
          refine Aq ?_
          exact Au _ h (sm [] _ _ rfl rfl)
        ·have h := An c18 h
         refine Aq ?_
         exact Au _ h (sm [] _ _ rfl rfl)
      ·refine Ab ?_
       refine AM h (fun v21 => mk [(0, .e (.one (.own 90000))), (1, .e (.one (.pure (.val (.int .i64 v1.2.1))))), (2, .e (.one (.pure (.val (.int .i64 v1.2.2.1))))), (3, .e (.one (.pure (.val (.int .i64 v7.2))))), (4, .e (.one (.clo (Bc (CL true Ad true Ad) Bh p4)))), (10, .e (.one (.pure (.val (.bool v1.2.2.2.2.1))))), (11, .e (.one (.pure (.val (.bool v1.2.2.2.2.2))))), (12, .e (.one (.pure (.val (.int .i64 ((IntKind.wrap .i64 (v1.2.2.1 - v1.2.1)))))))), (13, .e (.one (.pure (.val (.int .i64 v11.2.1))))), (97, .e (.one (.pure (.val (.bool v21)))))] [(90000, .vec 3 (v14.map Ad))]) (fun j21 h => ?_) (fun v21 h => ?_)
       ·refine Aa Ac rfl (qm rfl (Fv rfl (qm rfl ?_)))
        refine AD (t := 83) rfl (fun c22 => ?_) (fun c22 => ?_)
        ·have h := Ao c22 h
         refine qm rfl (qm rfl (qm rfl (Bj rfl ?_)))
         obtain ⟨v23, a23, b23, h⟩ := Ai h
         refine qI Bb AS a23 (Ah b23) rfl (qJ Dz AS (Ah b23) rfl (qm rfl (qm rfl ?_)))
         obtain ⟨v24, a24, b24, h⟩ := Ai h
         refine qI Bb AS a24 (Ah b24) rfl (qJ Dz AS (Ah b24) rfl ?_)
         obtain ⟨v25, a25, h⟩ := bind_some h
         refine C9 (ds0 := [_, _]) (ar := (CL true Ad true Ad) ((v23, v24))) (.g rfl rfl) rfl rfl ⟨rfl, rfl, trivial⟩ rfl rfl rfl (C2 (DQ _ _ _ _ Be Be) a25) ?_
         refine AT rfl (Cb rfl (qp rfl (AA (by kernel_rfl) ?_)))
         exact Au _ h (sm [] _ _ rfl rfl)
        ·have h := An c22 h
         refine qn rfl (qn rfl (qn rfl (qn rfl (qn rfl (qn rfl (qn rfl (qn rfl (qn rfl (qn rfl (qn rfl (qn rfl (qn rfl (qp rfl (AA (by kernel_rfl) ?_))))))))))))))
         exact Au _ h (sm [] _ _ rfl rfl)
       ·refine Ap rfl (fun c26 => ?_) (fun c26 => ?_)
        ·have h := Ao c26 h
         refine Ab (Aa Ac rfl (qm rfl (qm rfl (qm rfl (qm rfl (qm rfl ?_))))))
         obtain ⟨v27, a27, h⟩ := bind_some h
         refine BD (ds0 := [_, _, _, _, _]) [90000] [] [true] (GI N v14 v1.2.1 v1.2.2.1 v11.2.1 p4 v27 a27) (.p rfl) X2 rfl ⟨rfl, rfl, rfl, rfl, rfl, trivial⟩ rfl rfl (by decide) ⟨rfl, trivial⟩ rfl (AX rfl) trivial ⟨(fun h => by cases h), trivial⟩ rfl rfl rfl ?_
         refine qa rfl (Ae (Ab (Aa Ac rfl (qm rfl (qa rfl (Ae (AP ?_)))))))
         exact Au _ h (sm [] _ _ rfl rfl)
        ·have h := An c26 h
         refine Aq (Ab (Aa Ac rfl (qm rfl (qm rfl (qm rfl (qm rfl (qm rfl ?_)))))))
         obtain ⟨v28, a28, h⟩ := bind_some h
         refine BD (ds0 := [_, _, _, _, _]) [90000] [] [true] (Hm N v14 v1.2.1 v1.2.2.1 v11.2.1 p4 v28 a28) (.p rfl) X4 rfl ⟨rfl, rfl, rfl, rfl, rfl, trivial⟩ rfl rfl (by decide) ⟨rfl, trivial⟩ rfl (AX rfl) trivial ⟨(fun h => by cases h), trivial⟩ rfl rfl rfl ?_
         refine qm rfl (qx rfl (qx rfl (qa rfl (qa rfl (Ae (Ab (Aa Ac rfl (qm rfl (qa rfl (Ae (Ab (Aa Ac rfl (qm rfl (qm rfl (Bj rfl (qm rfl (qm rfl (Bj rfl (qa rfl (qa rfl (Ae (Ab (Aa Ac rfl (qm rfl (Kn rfl (by decide) (qa rfl (Ae (Ab (Aa Ac rfl (qm rfl (qm rfl (AT rfl (Ae ?_)))))))))))))))))))))))))))))))))
         refine Ap rfl (fun c29 => ?_) (fun c29 => ?_)
         ·have h := Ao c29 h
          refine Ab (Aa Ac rfl (qm rfl (qm rfl (Db rfl (qa rfl (Ae (Ab (Aa Ac rfl (qm rfl (qm rfl (qm rfl (qm rfl (qm rfl ?_)))))))))))))
          obtain ⟨v30, a30, h⟩ := bind_some h
          refine BD (ds0 := [_, _, _, _, _]) [90000] [] [true] (hrc v28.2.2 v1.2.1 v28.1 v7.2 p4 v30 a30) (.p rfl) Uz rfl ⟨rfl, rfl, rfl, rfl, rfl, trivial⟩ rfl rfl (by decide) ⟨rfl, trivial⟩ rfl (AX rfl) trivial ⟨(fun h => by cases h), trivial⟩ rfl rfl rfl ?_
          refine Ae (Aa Ac rfl (qm rfl (AN rfl (qa rfl (Ae ?_)))))
          exact Au _ h (sm [] _ _ rfl rfl)
         ·have h := An c29 h
          refine Ab (Aa Ac rfl (qm rfl (qm rfl (Db rfl (qa rfl (Ae (Ab (Aa Ac rfl (qm rfl (qm rfl (AN rfl (qm rfl (qm rfl (qm rfl ?_))))))))))))))
          obtain ⟨v31, a31, h⟩ := bind_some h
          refine BD (ds0 := [_, _, _, _, _]) [90000] [] [true] (hrc v28.2.2 ((IntKind.wrap .i64 (v28.1 + 1))) v1.2.2.1 v7.2 p4 v31 a31) (.p rfl) Uz rfl ⟨rfl, rfl, rfl, rfl, rfl, trivial⟩ rfl rfl (by decide) ⟨rfl, trivial⟩ rfl (AX rfl) trivial ⟨(fun h => by cases h), trivial⟩ rfl rfl rfl ?_
          refine Ae (Aa Ac rfl (qm rfl (qa rfl (Ae ?_))))
          exact Au _ h (sm [] _ _ rfl rfl)
 ·cases h
theorem Fu (N : Nat) : ∀ (k : Nat) (p0 : List Af) (p1 : Int) (p2 : Int) (p3 : Int) (p4 : (Af × Af) → Option Int) (r : (List Af)), CT N k p0 p1 p2 p3 p4 = some r → Bi Tryz.prog 104 [.e (.one (.own 90000)), .e (.one (.pure (.val (.int .i64 p1)))), .e (.one (.pure (.val (.int .i64 p2)))), .e (.one (.pure (.val (.int .i64 p3)))), .e (.one (.clo (Bc (CL true Ad true Ad) Bh p4)))] [(.vec 3 (p0.map Ad), .vec 3 (r.map Ad))] [] (.tup [])
 | 0, _, _, _, _, _, _, h => by cases h
 | k + 1, p0, p1, p2, p3, p4, r, h => Ho N (CT N k) (Fu N k) p0 p1 p2 p3 p4 r h
theorem HP (N : Nat) (p0 : List Af) (p1 : Int) (p2 : Int) (p3 : Int) (p4 : (Af × Af) → Option Int) (r : (List Af)) (h : FF N p0 p1 p2 p3 p4 = some r) : Bi Tryz.prog 104 [.e (.one (.own 90000)), .e (.one (.pure (.val (.int .i64 p1)))), .e (.one (.pure (.val (.int .i64 p2)))), .e (.one (.pure (.val (.int .i64 p3)))), .e (.one (.clo (Bc (CL true Ad true Ad) Bh p4)))] [(.vec 3 (p0.map Ad), .vec 3 (r.map Ad))] [] (.tup []) := Fu N N p0 p1 p2 p3 p4 r h
set_option maxRecDepth 10000 in
theorem GH (N : Nat) (p0 : List Af) (p1 : (Af × Af) → Option Int) (r : (List Af)) (h : Dv N p0 p1 = some r) : Bi Tryz.prog 59 [.e (.one (.own 90000)), .e (.one (.clo (Bc (CL true Ad true Ad) Bh p1)))] [(.vec 3 (p0.map Ad), .vec 3 (r.map Ad))] [] (.tup []) := by
 unfold Dv at h
 refine A9 (n := 14) (rs := []) Tryz.func59 rfl rfl rfl (A3 rfl) (A3 rfl) rfl rfl (A3 rfl) rfl (A3 rfl) fun w0 S0 GL => Kc ?_
 refine Am (sm [] [(0, .e (.one (.own 90000))), (1, .e (.one (.clo (Bc (CL true Ad true Ad) Bh p1))))] [(90000, .vec 3 (p0.map Ad))] rfl rfl) (Ab (Aa Ac rfl (qm rfl (FL Bb rfl (qa rfl (Ae (Aa Ac rfl (qm rfl (qm rfl (qm rfl (Hj TV NE rfl ?_)))))))))))
 obtain ⟨v1, a1, h⟩ := bind_some h
 refine AG [] (Jn N ((IntKind.wrap .u64 ((p0.length : Int)))) v1 a1) TS rfl (qm rfl ?_)
 obtain ⟨v2, a2, h⟩ := bind_some h
 refine BD (ds0 := [_, _, _, _, _]) [90000] [] [true] (HP N p0 0 ((p0.length : Int)) v1 p1 v2 a2) (.p rfl) Uz rfl ⟨rfl, rfl, rfl, rfl, rfl, trivial⟩ rfl rfl (by decide) ⟨rfl, trivial⟩ rfl (AX rfl) trivial ⟨(fun h => by cases h), trivial⟩ rfl rfl rfl ?_
 refine Ae ?_
 obtain rfl := sj h
 refine ⟨_, (sm [] [] [(90000, .vec 3 (v2.map Ad))] rfl rfl), ?_⟩
 exact ⟨⟨[], trivial, rfl⟩, ⟨rfl, trivial⟩, trivial⟩
set_option maxRecDepth 10000 in
theorem Mq (N : Nat) (p0 : Af) (p1 : Af) (r : Int) (h : Gw N p0 p1 = some r) : AB Tryz.prog 60 [.e (.agg [.pure (.val (.int .i64 p0.fTable)), .pure (.val (.int .i64 p0.fWriter)), .pure (.val (.int .i64 p0.fReader))]), .e (.agg [.pure (.val (.int .i64 p1.fTable)), .pure (.val (.int .i64 p1.fWriter)), .pure (.val (.int .i64 p1.fReader))])] [] (.e (.one (.pure (.val (.int .i64 r))))) := by
 unfold Gw at h
 refine As (n := 22) (rs := [.tmp 4]) Tryz.func60 rfl rfl rfl (A3 rfl) (A3 rfl) rfl fun w0 S0 => ?_
 refine Ab (Aa Ac rfl (qb rfl (qb rfl (qa rfl (Ae (Ab (Aa Ac rfl (qf Sz rfl (ql CN rfl (qf Sz rfl (ql CN rfl ?_)))))))))))
 obtain ⟨v1, a1, h⟩ := bind_some h
 refine AG [] (Hi N p0.fTable p1.fTable v1 a1) U6 rfl (qf SK rfl (ql CN rfl (qf SK rfl (ql CN rfl ?_))))
 obtain ⟨v2, a2, h⟩ := bind_some h
 refine AG [] (Hi N p0.fWriter p1.fWriter v2 a2) U6 rfl (qf Sq rfl (ql CN rfl (qf Sq rfl (ql CN rfl ?_))))
 obtain ⟨v3, a3, h⟩ := bind_some h
 refine AG [] (Hi N p0.fReader p1.fReader v3 a3) U6 rfl (EU AJ Ec Lb rfl ?_)
 obtain ⟨v4, a4, h⟩ := bind_some h
 refine Et [] [20] (MD N (([v1, v2, v3] : List Int)) v4 a4) Yn CQ rfl (qa rfl (AA (by kernel_rfl) ?_))
 obtain rfl := sj h
 refine Am (sm [] [(4, .e (.one (.pure (.val (.int .i64 v4)))))] [] rfl rfl) (Az ?_)
 exact ⟨⟨[_], ⟨.tmp _ _ rfl, trivial⟩, rfl⟩, trivial⟩
set_option maxRecDepth 10000 in
theorem GP (N : Nat) (p0 : List Af) (r : Nat × (List Af)) (h : DB N p0 = some r) : Bi Tryz.prog 63 [.e (.one (.own 90000))] [(.vec 3 (p0.map Ad), .vec 3 (r.2.map Ad))] [] (.e (.one (.view 90000 3 0 r.1))) := by
 unfold DB at h
 refine A9 (n := 61) (rs := [.tmp 2]) Tryz.func63 rfl rfl rfl (A3 rfl) (A3 rfl) rfl rfl (A3 rfl) rfl (A3 rfl) fun w0 S0 GL => ?_
 refine Am (sm [] [(0, .e (.one (.own 90000)))] [(90000, .vec 3 (p0.map Ad))] rfl rfl) (Ab (Aa Ac rfl (qa rfl (Ae (Ab (Ab (Aa Ac rfl (qm rfl (FL Bb rfl (AT rfl (Ae ?_)))))))))))
 refine Ap rfl (fun c1 => ?_) (fun c1 => ?_)
 ·have h := Ao c1 h
  refine Ab (Aa Ac rfl (qm rfl (qa rfl (Ae ?_))))
  obtain rfl := sj h
  refine Am ((Qy Ad p0 2 90000 3 rfl rfl).trans (sm [] [(2, .e (.one (.view 90000 3 0 p0.length)))] [(90000, .vec 3 (p0.map Ad))] rfl rfl)) (Az ?_)
  exact ⟨⟨[_], ⟨.tmp _ _ rfl, trivial⟩, rfl⟩, ⟨rfl, trivial⟩, trivial⟩
 ·have h := An c1 h
  refine Aq (Ab (Ab (Aa Ac rfl (qa rfl (Ae ?_)))))
  refine AC (L := B5 N p0) h (fun v2 => mk [(0, .e (.one (.own 90000))), (3, .e (.one (.pure (.val (.int .i64 v2)))))] [(90000, .vec 3 (p0.map Ad))]) (fun v3 => mk [(0, .e (.one (.own 90000)))] [(90000, .vec 3 (p0.map Ad))]) (fun _ _ => rfl) (sm [] _ _ rfl rfl) (fun j2 n2 v2 h => ?_) (fun v3 s h hs => ?_)
  ·unfold B5 at h
   refine Ab (Ab (Aa Ac rfl (qm rfl (qm rfl (FL Bb rfl (AT rfl (Ae ?_)))))))
   refine Ap rfl (fun c4 => ?_) (fun c4 => ?_)
   ·have h := Ao c4 h
    refine Aq (Ab (AH (Ab (Aa Ac rfl (qm rfl (qm rfl ?_))))))
    obtain ⟨v5, a5, b5, h⟩ := Ai h
    refine qI Bb AS a5 (Ah b5) rfl (qJ Dz AS (Ah b5) rfl (qm rfl (qm rfl (Bj rfl ?_))))
    obtain ⟨v6, a6, b6, h⟩ := Ai h
    refine qI Bb AS a6 (Ah b6) rfl (qJ Dz AS (Ah b6) rfl ?_)
    refine TZ [.int .i64 v5.fTable, .int .i64 v5.fWriter, .int .i64 v5.fReader] [.int .i64 v6.fTable, .int .i64 v6.fWriter, .int .i64 v6.fReader] (.p rfl) rfl rfl QK rfl ?_
    refine AA (by kernel_rfl) ?_
    refine Ap rfl (fun c7 => ?_) (fun c7 => ?_)
    ·have h := Ao c7 h
     refine Ab (Aa Ac rfl (qm rfl (qm rfl ?_)))
     obtain ⟨c8, h⟩ := AQ h
     have w9 : ((v2).toNat) + ((p0.length - (v2).toNat)) ≤ p0.length := by have := c8.2.1; have := c8.2.2; omega
     refine JS Ad p0 (.p rfl) rfl (Jg Ad _ _ p0) rfl Bb AS (.some _ _ _ _ c8.1) (.none _) ⟨rfl, trivial⟩ trivial c8.2.1 (by rw [Nat.zero_add]; exact c8.2.2) (Nat.zero_add _) rfl ?_
     refine qa rfl (Ae (Ab (Ab (Aa Ac rfl (qa rfl (Ae ?_))))))
     refine AC (L := BY N p0 v2) h (fun v10 => mk [(0, .e (.one (.own 90000))), (3, .e (.one (.pure (.val (.int .i64 v10.2.1))))), (4, .e (.one (.view 90000 3 ((v2).toNat) ((p0.length - (v2).toNat))))), (5, .e (.one (.pure (.val (.int .i64 v10.2.2)))))] [(90000, .vec 3 (v10.1.map Ad))]) (fun v11 => mk [(0, .e (.one (.own 90000))), (3, .e (.one (.pure (.val (.int .i64 v11.2)))))] [(90000, .vec 3 (v11.1.map Ad))]) (fun _ _ => rfl) (sm [] _ _ rfl rfl) (fun j10 n10 v10 h => ?_) (fun v11 s h hs => ?_)
     ·unfold BY at h
      refine Ab (Ab (Aa Ac rfl (qm rfl (qm rfl ?_))))
      refine Vb (.p rfl) rfl Bb ?_
      refine AT rfl (Ae ?_)
      refine Ap rfl (fun c12 => ?_) (fun c12 => ?_)
      ·have h := Ao c12 h
       refine Aq ?_
       refine AM h (fun v13 => mk [(0, .e (.one (.own 90000))), (3, .e (.one (.pure (.val (.int .i64 v13.2))))), (4, .e (.one (.view 90000 3 ((v2).toNat) ((p0.length - (v2).toNat))))), (5, .e (.one (.pure (.val (.int .i64 v10.2.2)))))] [(90000, .vec 3 (v13.1.map Ad))]) (fun j13 h => ?_) (fun v13 h => ?_)
       ·refine AH (Ab (Aa Ac rfl (qm rfl (qm rfl ?_))))
        obtain ⟨c15, h⟩ := AQ h
        obtain ⟨v14, a14, b14, h⟩ := Ai h
        refine Nb Ad v10.1 (.p rfl) rfl c15 rfl rfl Bb AS a14 (KH b14).1 rfl ?_
        refine Mx (.p rfl) rfl Dz AS rfl (Ah (KH b14).2) ?_
        refine qm rfl (qm rfl (Bj rfl ?_))
        obtain ⟨v16, a16, b16, h⟩ := Ai h
        refine Nb Ad v10.1 (.p rfl) rfl c15 rfl rfl Bb AS a16 (KH b16).1 rfl ?_
        refine Mx (.p rfl) rfl Dz AS rfl (Ah (KH b16).2) ?_
        refine SO [.int .i64 v14.fTable, .int .i64 v14.fWriter, .int .i64 v14.fReader] [.int .i64 v16.fTable, .int .i64 v16.fWriter, .int .i64 v16.fReader] (.p rfl) rfl rfl QK rfl ?_
        refine AA (by kernel_rfl) ?_
        refine Ap rfl (fun c17 => ?_) (fun c17 => ?_)
        ·have h := Ao c17 h
         refine Ab (Aa Ac rfl (qm rfl (qm rfl (qm rfl (qm rfl ?_)))))
         obtain ⟨v18, a18, b18, h⟩ := Ai h
         refine Nb Ad v10.1 (.p rfl) rfl c15 rfl rfl Bb AS a18 (KH b18).1 rfl ?_
         refine Mx (.p rfl) rfl Dz AS rfl (Ah (KH b18).2) ?_
         obtain ⟨v19, a19, b19, h⟩ := Ai h
         refine qI Bb AS a19 (Ah b19) rfl ?_
         refine AV rfl rfl rfl rfl (Ah b19) rfl AS rfl (A3 rfl) (AW Ad v10.1 _ v18) ?_
         refine Ae (Aa Ac rfl (qm rfl (AN rfl (qa rfl (Ae ?_)))))
         exact Au _ h (sm [] _ _ rfl rfl)
        ·have h := An c17 h
         refine Aq ?_
         exact Au _ h (sm [] _ _ rfl rfl)
       ·refine Aa Ac rfl (qm rfl (AN rfl (qa rfl (Ae ?_))))
        exact Au _ h (sm [] _ _ rfl rfl)
      ·have h := An c12 h
       refine AP ?_
       exact Au _ h (sm [] _ _ rfl rfl)
     ·refine Am hs (Ab (Aa Ac rfl (qm rfl (qm rfl ?_))))
      obtain ⟨c20, h⟩ := AQ h
      have w21 : ((v11.2).toNat) + ((v11.1.length - (v11.2).toNat)) ≤ v11.1.length := by have := c20.2.1; have := c20.2.2; omega
      refine JS Ad v11.1 (.p rfl) rfl (Jg Ad _ _ v11.1) rfl Bb AS (.some _ _ _ _ c20.1) (.none _) ⟨rfl, trivial⟩ trivial c20.2.1 (by rw [Nat.zero_add]; exact c20.2.2) (Nat.zero_add _) rfl ?_
      have w22 : (JA v11.1 ((v11.2).toNat) (List.replicate ((v11.1.length - (v11.2).toNat)) ((Af.mk 0 0 0)))).length = v11.1.length := JM (by rw [List.length_replicate]; exact w21)
      refine Rn Ad v11.1 ((Af.mk 0 0 0)) rfl rfl (Np Ad _ _ ((v11.2).toNat) ((v11.1.length - (v11.2).toNat)) v11.1 w21) rfl Bb IV rfl rfl rfl rfl ?_
      refine Ae (Ab (Aa Ac rfl (qm rfl (qm rfl ?_))))
      obtain ⟨c23, h⟩ := AQ h
      have w24 : 0 + ((v11.2).toNat) ≤ (JA v11.1 ((v11.2).toNat) (List.replicate ((v11.1.length - (v11.2).toNat)) ((Af.mk 0 0 0)))).length := by have := c23.2.1; have := c23.2.2; omega
      refine JS Ad (JA v11.1 ((v11.2).toNat) (List.replicate ((v11.1.length - (v11.2).toNat)) ((Af.mk 0 0 0)))) (.p rfl) rfl (Jg Ad _ _ (JA v11.1 ((v11.2).toNat) (List.replicate ((v11.1.length - (v11.2).toNat)) ((Af.mk 0 0 0))))) rfl Bb AS (.none _) (.some _ _ _ _ c23.1) trivial ⟨rfl, trivial⟩ c23.2.1 (by rw [Nat.zero_add]; exact c23.2.2) (Nat.zero_add _) rfl ?_
      refine qa rfl (Ae ?_)
      obtain rfl := sj h
      refine Am (sm [] [(2, .e (.one (.view 90000 3 0 ((v11.2).toNat))))] [(90000, .vec 3 ((JA v11.1 ((v11.2).toNat) (List.replicate ((v11.1.length - (v11.2).toNat)) ((Af.mk 0 0 0)))).map Ad))] rfl rfl) (Az ?_)
      exact ⟨⟨[_], ⟨.tmp _ _ rfl, trivial⟩, rfl⟩, ⟨rfl, trivial⟩, trivial⟩
    ·have h := An c7 h
     refine Aq (Aa Ac rfl (qm rfl (AN rfl (qa rfl (Ae ?_)))))
     exact Au _ h (sm [] _ _ rfl rfl)
   ·have h := An c4 h
    refine AP ?_
    exact Au _ h (sm [] _ _ rfl rfl)
  ·refine Am hs (Ab (Aa Ac rfl (qm rfl (qa rfl (Ae ?_)))))
   obtain rfl := sj h
   refine Am ((Qy Ad p0 2 90000 3 rfl rfl).trans (sm [] [(2, .e (.one (.view 90000 3 0 p0.length)))] [(90000, .vec 3 (p0.map Ad))] rfl rfl)) (Az ?_)
   exact ⟨⟨[_], ⟨.tmp _ _ rfl, trivial⟩, rfl⟩, ⟨rfl, trivial⟩, trivial⟩
set_option maxRecDepth 10000 in
theorem Nm (N : Nat) (p0 : Ak) (p1 : List Ag) (r : (List Af) × Int) (h : IH N p0 p1 = some r) : AB Tryz.prog 22 [.e (.agg [.pure (.sl (p0.fVersions.map Al)), .pure (.sl (p0.fNow.map Al)), .pure (.sl (p0.fTarget.map Al)), .pure (.sl (p0.fTables.map Ar))]), .e (.one (.pure (.sl (p1.map Aj))))] [(3, r.1.map Ad)] (.tup [.one (.own 0), .one (.pure (.val (.int .i64 r.2)))]) := by
 unfold IH at h
 refine As (n := 36) (rs := [.tmp 4, .tmp 5]) Tryz.func22 rfl rfl rfl (A3 rfl) (A3 rfl) rfl fun w0 S0 => ?_
 refine Ab (Aa Ac rfl (qb rfl (qa rfl (qa rfl (Ae (Ab (Aa Ac rfl (qL EH Ep rfl (qm rfl ?_)))))))))
 obtain ⟨v1, a1, h⟩ := bind_some h
 refine AG [2001] (K9 N p0 p1 v1 a1) Xt rfl (qm rfl (qx rfl (qx rfl (qa rfl (qa rfl (Ae (Ab (Ab (Aa Ac rfl (qm rfl (Ct rfl (Ae ?_))))))))))))
 refine Ap rfl (fun c2 => ?_) (fun c2 => ?_)
 ·have h := Ao c2 h
  refine Ab (Aa Ac rfl (qm rfl (qa rfl (qa rfl (Ae ?_)))))
  obtain rfl := sj h
  refine Am ((Br 4 2002 3 rfl rfl rfl).trans (sm [(1000, 2002)] [(4, .e (.one (.own 1000))), (5, .e (.one (.pure (.val (.int .i64 v1.2)))))] [(1000, .vec 3 ((([] : List Af)).map Ad))] rfl rfl)) (Az ?_)
  exact ⟨⟨[_, _], ⟨.tmp _ _ rfl, ⟨.tmp _ _ rfl, trivial⟩⟩, rfl⟩, ⟨rfl, trivial⟩⟩
 ·have h := An c2 h
  refine Aq (Ab (Aa Ac rfl (qa rfl (Ae (Ab (Ab (Aa Ac rfl (qm rfl (FL Hd rfl (qm rfl (Ae ?_)))))))))))
  refine AC (L := Gg N v1) h (fun v3 => mk [(8, .e (.one (.own 2003))), (20, .e (.one (.own 2004))), (21, .e (.one (.pure (.val (.int .i64 ((v1.1.length : Int))))))), (22, .e (.one (.pure (.val (.int .i64 v3.2)))))] [(2003, .vec 3 (v3.1.map Ad)), (2004, .vec 9 (v1.1.map BA))]) (fun v4 => mk [(8, .e (.one (.own 2005)))] [(2005, .vec 3 (v4.map Ad))]) (fun _ _ => rfl) ((Br 8 2006 3 rfl rfl rfl).trans (sm [(2003, 2006), (2004, 2001)] _ _ rfl rfl)) (fun j3 n3 v3 h => ?_) (fun v4 s h hs => ?_)
  ·unfold Gg at h
   refine Ab (Aa Ac rfl (AT rfl (Ae (Ab ?_))))
   refine Ap rfl (fun c5 => ?_) (fun c5 => ?_)
   ·have h := Ao c5 h
    refine Aq (Ab (AH (Ab (Aa Ac rfl ?_))))
    obtain ⟨v6, a6, b6, h⟩ := Ai h
    refine qI Hd Lp a6 (Ah b6) rfl (qJ ZM Lp (Ah b6) rfl (qz Qp rfl (qs Lp rfl (Ae (Aa Ac rfl (qm rfl (qf Ob rfl (qL Dz AS rfl (EU Bb AS IV rfl ?_)))))))))
    obtain ⟨c7, h⟩ := AQ h
    refine El (f := Ad) Bb Bb AS RN IV c7 rfl (qa rfl (Ae (Aa Ac rfl (AN rfl (qm rfl (Ae ?_))))))
    exact Au _ h (sm [(2003, 30)] _ _ rfl rfl)
   ·have h := An c5 h
    refine AP ?_
    exact Au _ h (sm [(2005, 2003)] _ _ rfl rfl)
  ·refine Am hs (Ab (Aa Ac rfl (qm rfl ?_)))
   obtain ⟨v8, a8, h⟩ := bind_some h
   refine BD (ds0 := [_, _]) [2005] [] [true] (Bi.weak (ds' := [_, .e (.one (.fnc 60))]) (GH N v4 ((fun (x : Af × Af) => Gw N x.1 x.2)) v8 a8) ⟨(fun _ _ _ hh => hh), (fun _ _ _ hh => QR Zs (fun ar t ht => by obtain ⟨x, r, rfl, hq, rfl⟩ := IX ht; exact Mq N x.1 x.2 r hq) hh), trivial⟩) (.p rfl) Za rfl ⟨rfl, rfl, trivial⟩ rfl rfl (by decide) ⟨rfl, trivial⟩ rfl (AX rfl) trivial ⟨(fun h => by cases h), trivial⟩ rfl rfl rfl ?_
   refine Ae (Ab (Aa Ac rfl (qm rfl ?_)))
   obtain ⟨v9, a9, h⟩ := bind_some h
   obtain ⟨c10, h⟩ := AQ h
   have w11 : 0 + v9.1 ≤ v9.2.length := by rw [Nat.zero_add]; exact c10
   refine BD (ds0 := [_]) [2005] [] [true] (GP N v8 v9 a9) (.p rfl) Y9 rfl ⟨rfl, trivial⟩ rfl rfl (by decide) ⟨rfl, trivial⟩ rfl (AX rfl) trivial ⟨(fun h => by cases h), trivial⟩ rfl rfl rfl ?_
   refine Ev (TX Ad v9.2 35 2005 2007 3 v9.1 rfl rfl rfl rfl rfl c10) (qa rfl (qa rfl (Ae ?_)))
   obtain rfl := sj h
   refine Am (sm [(1000, 2007)] [(4, .e (.one (.own 1000))), (5, .e (.one (.pure (.val (.int .i64 0)))))] [(1000, .vec 3 ((v9.2.take v9.1).map Ad))] rfl rfl) (Az ?_)
   exact ⟨⟨[_, _], ⟨.tmp _ _ rfl, ⟨.tmp _ _ rfl, trivial⟩⟩, rfl⟩, ⟨rfl, trivial⟩⟩
set_option maxRecDepth 10000 in
theorem Ny (N : Nat) (p0 : Ak) (p1 : List Ag) (r : Int × Ag × Int) (h : IA N p0 p1 = some r) : AB Tryz.prog 25 [.e (.agg [.pure (.sl (p0.fVersions.map Al)), .pure (.sl (p0.fNow.map Al)), .pure (.sl (p0.fTarget.map Al)), .pure (.sl (p0.fTables.map Ar))]), .e (.one (.pure (.sl (p1.map Aj))))] [(1, r.2.1.fBase.map Al), (1, r.2.1.fNext.map Al), (1, r.2.1.fHeld.map Bg)] (.tup [.one (.pure (.val (.int .i64 r.1))), .agg [.own 0, .own 1, .own 2], .one (.pure (.val (.int .i64 r.2.2)))]) := by
 unfold IA at h
 refine As (n := 88) (rs := [.tmp 4, .cell 5 46, .tmp 6]) Tryz.func25 rfl rfl rfl (A3 rfl) (A3 rfl) rfl fun w0 S0 => ?_
 refine Ab (Aa Ac rfl (qb rfl (qa rfl (qz Dc rfl (qa rfl (Ae (Ab (Ab (Aa Ac rfl (qL EH Ep rfl ?_))))))))))
 obtain ⟨v1, a1, h⟩ := bind_some h
 refine AG [] (Gd N p0 v1 a1) VH rfl (qa rfl (Ae (Ab (Aa Ac rfl (qm rfl (Ct rfl (Ae ?_)))))))
 refine Ap rfl (fun c2 => ?_) (fun c2 => ?_)
 ·have h := Ao c2 h
  refine Ab (Aa Ac rfl (Bq Dc HS rfl (qm rfl (qa rfl (qs Ay rfl (qa rfl (Ae ?_)))))))
  obtain rfl := sj h
  refine Am ((AF 5 0 2001 1 _ rfl rfl rfl rfl).trans ((AF 5 1 2002 1 _ rfl rfl rfl rfl).trans ((AF 5 2 2003 1 _ rfl rfl rfl rfl).trans (sm [(1000, 2001), (1001, 2002), (1002, 2003)] [(4, .e (.one (.pure (.val (.int .i64 0))))), (5, .e (.one (.ptr 5 0))), (6, .e (.one (.pure (.val (.int .i64 v1)))))] [(5, .box [.own 1000, .own 1001, .own 1002]), (1000, .vec 1 ((([] : List Int)).map Al)), (1001, .vec 1 ((([] : List Int)).map Al)), (1002, .vec 1 ((([] : List Int)).map Bg))] rfl rfl)))) (Az ?_)
  exact ⟨⟨[_, _, _], ⟨.tmp _ _ rfl, ⟨.cellN _ _ _ _ _ _ _ rfl rfl A4 Ay rfl rfl (Jw rfl), ⟨.tmp _ _ rfl, trivial⟩⟩⟩, rfl⟩, ⟨rfl, rfl, rfl, trivial⟩⟩
 ·have h := An c2 h
  refine Aq (Ab (Ab (Aa Ac rfl (qm rfl (AU AZ rfl (BX rfl (Ae ?_)))))))
  refine Ap rfl (fun c3 => ?_) (fun c3 => ?_)
  ·have h := Ao c3 h
   refine Ab (Aa Ac rfl (Bq Dc HS rfl (qa rfl (qs Ay rfl (qa rfl (Ae ?_))))))
   obtain rfl := sj h
   refine Am ((AF 5 0 2004 1 _ rfl rfl rfl rfl).trans ((AF 5 1 2005 1 _ rfl rfl rfl rfl).trans ((AF 5 2 2006 1 _ rfl rfl rfl rfl).trans (sm [(1000, 2004), (1001, 2005), (1002, 2006)] [(4, .e (.one (.pure (.val (.int .i64 0))))), (5, .e (.one (.ptr 5 0))), (6, .e (.one (.pure (.val (.int .i64 10)))))] [(5, .box [.own 1000, .own 1001, .own 1002]), (1000, .vec 1 ((([] : List Int)).map Al)), (1001, .vec 1 ((([] : List Int)).map Al)), (1002, .vec 1 ((([] : List Int)).map Bg))] rfl rfl)))) (Az ?_)
   exact ⟨⟨[_, _, _], ⟨.tmp _ _ rfl, ⟨.cellN _ _ _ _ _ _ _ rfl rfl A4 Ay rfl rfl (Jw rfl), ⟨.tmp _ _ rfl, trivial⟩⟩⟩, rfl⟩, ⟨rfl, rfl, rfl, trivial⟩⟩
  ·have h := An c3 h
   refine Aq (Ab (Aa Ac rfl (qa rfl (qa rfl (Ae (Ab (Ab (Aa Ac rfl (qm rfl (AU AZ rfl (qm rfl (Ae ?_))))))))))))
   refine AC (L := Gn N p0 p1) h (fun v4 => mk [(1, .e (.one (.pure (.sl (p1.map Aj))))), (2, .e (.one (.ptr 2 0))), (5, .e (.one (.ptr 5 0))), (8, .e (.one (.pure (.val (.int .i64 v4.1))))), (9, .e (.one (.pure (.val (.int .i64 v4.2.1))))), (27, .e (.one (.pure (.sl (p1.map Aj))))), (28, .e (.one (.pure (.val (.int .i64 ((p1.length : Int))))))), (29, .e (.one (.pure (.val (.int .i64 v4.2.2)))))] [(2, .box [.pure (.sl (p0.fVersions.map Al)), .pure (.sl (p0.fNow.map Al)), .pure (.sl (p0.fTarget.map Al)), .pure (.sl (p0.fTables.map Ar))]), (5, .box [.pure (.nil0), .pure (.nil0), .pure (.nil0)])]) (fun v5 => mk [(1, .e (.one (.pure (.sl (p1.map Aj))))), (5, .e (.one (.ptr 5 0))), (8, .e (.one (.pure (.val (.int .i64 v5.1))))), (9, .e (.one (.pure (.val (.int .i64 v5.2)))))] [(5, .box [.pure (.nil0), .pure (.nil0), .pure (.nil0)])]) (fun _ _ => rfl) (sm [] _ _ rfl rfl) (fun j4 n4 v4 h => ?_) (fun v5 s h hs => ?_)
   ·unfold Gn at h
    refine Ab (Aa Ac rfl (AT rfl (Ae (Ab ?_))))
    refine Ap rfl (fun c6 => ?_) (fun c6 => ?_)
    ·have h := Ao c6 h
     refine Aq ?_
     refine AM h (fun v7 => mk [(1, .e (.one (.pure (.sl (p1.map Aj))))), (2, .e (.one (.ptr 2 0))), (5, .e (.one (.ptr 5 0))), (8, .e (.one (.pure (.val (.int .i64 v7.1))))), (9, .e (.one (.pure (.val (.int .i64 v7.2))))), (27, .e (.one (.pure (.sl (p1.map Aj))))), (28, .e (.one (.pure (.val (.int .i64 ((p1.length : Int))))))), (29, .e (.one (.pure (.val (.int .i64 v4.2.2)))))] [(2, .box [.pure (.sl (p0.fVersions.map Al)), .pure (.sl (p0.fNow.map Al)), .pure (.sl (p0.fTarget.map Al)), .pure (.sl (p0.fTables.map Ar))]), (5, .box [.pure (.nil0), .pure (.nil0), .pure (.nil0)])]) (fun j7 h => ?_) (fun v7 h => ?_)
     ·refine AH (Ab (Aa Ac rfl (qm rfl ?_)))
      obtain ⟨v8, a8, b8, h⟩ := Ai h
      refine qi AZ Ay a8 (Ah b8) rfl (qK A4 Ay rfl (qz Dc rfl (qa rfl (qs Ay rfl (Ae (Ab (Ab (Aa Ac rfl (qL EH Ep rfl (qL A4 Ay rfl ?_))))))))))
      obtain ⟨v9, a9, h⟩ := bind_some h
      refine AG [] (Ja N p0 v8 v9 a9) TQ rfl (qa rfl (Ae (Ab (Aa Ac rfl (qm rfl (Ct rfl (Ae ?_)))))))
      refine Ap rfl (fun c10 => ?_) (fun c10 => ?_)
      ·have h := Ao c10 h
       refine Ab (Aa Ac rfl (Bq Dc HS rfl (qm rfl (qa rfl (qs Ay rfl (qa rfl (Ae ?_)))))))
       obtain rfl := sj h
       refine Am ((AF 5 0 2007 1 _ rfl rfl rfl rfl).trans ((AF 5 1 2008 1 _ rfl rfl rfl rfl).trans ((AF 5 2 2009 1 _ rfl rfl rfl rfl).trans (sm [(1000, 2007), (1001, 2008), (1002, 2009)] [(4, .e (.one (.pure (.val (.int .i64 0))))), (5, .e (.one (.ptr 5 0))), (6, .e (.one (.pure (.val (.int .i64 v9)))))] [(5, .box [.own 1000, .own 1001, .own 1002]), (1000, .vec 1 ((([] : List Int)).map Al)), (1001, .vec 1 ((([] : List Int)).map Al)), (1002, .vec 1 ((([] : List Int)).map Bg))] rfl rfl)))) (Az ?_)
       exact ⟨⟨[_, _, _], ⟨.tmp _ _ rfl, ⟨.cellN _ _ _ _ _ _ _ rfl rfl A4 Ay rfl rfl (Jw rfl), ⟨.tmp _ _ rfl, trivial⟩⟩⟩, rfl⟩, ⟨rfl, rfl, rfl, trivial⟩⟩
      ·have h := An c10 h
       refine Aq (Ab (Aa Ac rfl (qa rfl (Ae (Ab (Ab (Aa Ac rfl (qf JF rfl (ql Bo rfl (AU AJ rfl (qm rfl (Ae ?_))))))))))))
       refine AC (L := F3 N p0 v8) h (fun v11 => mk [(1, .e (.one (.pure (.sl (p1.map Aj))))), (2, .e (.one (.ptr 2 0))), (5, .e (.one (.ptr 5 0))), (8, .e (.one (.pure (.val (.int .i64 v4.1))))), (9, .e (.one (.pure (.val (.int .i64 v4.2.1))))), (10, .e (.one (.pure (.val (.int .i64 v4.2.2))))), (11, .e (.one (.ptr 11 0))), (13, .e (.one (.pure (.val (.int .i64 v11.1))))), (27, .e (.one (.pure (.sl (p1.map Aj))))), (28, .e (.one (.pure (.val (.int .i64 ((p1.length : Int))))))), (29, .e (.one (.pure (.val (.int .i64 v4.2.2))))), (42, .e (.one (.pure (.sl (p0.fTarget.map Al))))), (43, .e (.one (.pure (.val (.int .i64 ((p0.fTarget.length : Int))))))), (44, .e (.one (.pure (.val (.int .i64 v11.2)))))] [(2, .box [.pure (.sl (p0.fVersions.map Al)), .pure (.sl (p0.fNow.map Al)), .pure (.sl (p0.fTarget.map Al)), .pure (.sl (p0.fTables.map Ar))]), (5, .box [.pure (.nil0), .pure (.nil0), .pure (.nil0)]), (11, .box [.pure (.sl (v8.fBase.map Al)), .pure (.sl (v8.fNext.map Al)), .pure (.sl (v8.fHeld.map Bg))])]) (fun v12 => mk [(1, .e (.one (.pure (.sl (p1.map Aj))))), (2, .e (.one (.ptr 2 0))), (5, .e (.one (.ptr 5 0))), (8, .e (.one (.pure (.val (.int .i64 v4.1))))), (9, .e (.one (.pure (.val (.int .i64 v4.2.1))))), (10, .e (.one (.pure (.val (.int .i64 v4.2.2))))), (13, .e (.one (.pure (.val (.int .i64 v12))))), (27, .e (.one (.pure (.sl (p1.map Aj))))), (28, .e (.one (.pure (.val (.int .i64 ((p1.length : Int))))))), (29, .e (.one (.pure (.val (.int .i64 v4.2.2)))))] [(2, .box [.pure (.sl (p0.fVersions.map Al)), .pure (.sl (p0.fNow.map Al)), .pure (.sl (p0.fTarget.map Al)), .pure (.sl (p0.fTables.map Ar))]), (5, .box [.pure (.nil0), .pure (.nil0), .pure (.nil0)])]) (fun _ _ => rfl) (sm [] _ _ rfl rfl) (fun j11 n11 v11 h => ?_) (fun v12 s h hs => ?_)
       ·unfold F3 at h
        refine Ab (Aa Ac rfl (AT rfl (Ae (Ab ?_))))
        refine Ap rfl (fun c13 => ?_) (fun c13 => ?_)
        ·have h := Ao c13 h
         refine Aq ?_
         refine AM h (fun v14 => mk [(1, .e (.one (.pure (.sl (p1.map Aj))))), (2, .e (.one (.ptr 2 0))), (5, .e (.one (.ptr 5 0))), (8, .e (.one (.pure (.val (.int .i64 v4.1))))), (9, .e (.one (.pure (.val (.int .i64 v4.2.1))))), (10, .e (.one (.pure (.val (.int .i64 v4.2.2))))), (11, .e (.one (.ptr 11 0))), (13, .e (.one (.pure (.val (.int .i64 v14))))), (27, .e (.one (.pure (.sl (p1.map Aj))))), (28, .e (.one (.pure (.val (.int .i64 ((p1.length : Int))))))), (29, .e (.one (.pure (.val (.int .i64 v4.2.2))))), (42, .e (.one (.pure (.sl (p0.fTarget.map Al))))), (43, .e (.one (.pure (.val (.int .i64 ((p0.fTarget.length : Int))))))), (44, .e (.one (.pure (.val (.int .i64 v11.2)))))] [(2, .box [.pure (.sl (p0.fVersions.map Al)), .pure (.sl (p0.fNow.map Al)), .pure (.sl (p0.fTarget.map Al)), .pure (.sl (p0.fTables.map Ar))]), (5, .box [.pure (.nil0), .pure (.nil0), .pure (.nil0)]), (11, .box [.pure (.sl (v8.fBase.map Al)), .pure (.sl (v8.fNext.map Al)), .pure (.sl (v8.fHeld.map Bg))])]) (fun j14 h => ?_) (fun v14 h => ?_)
         ·refine AH (Ab (Aa Ac rfl (qm rfl ?_)))
          obtain ⟨v15, a15, b15, h⟩ := Ai h
          refine qi AJ Ec a15 (Ah b15) rfl (qk CN rfl (qa rfl (qa rfl (Ae ?_))))
          refine AM h (fun v16 => mk [(1, .e (.one (.pure (.sl (p1.map Aj))))), (2, .e (.one (.ptr 2 0))), (5, .e (.one (.ptr 5 0))), (8, .e (.one (.pure (.val (.int .i64 v4.1))))), (9, .e (.one (.pure (.val (.int .i64 v4.2.1))))), (10, .e (.one (.pure (.val (.int .i64 v4.2.2))))), (11, .e (.one (.ptr 11 0))), (13, .e (.one (.pure (.val (.int .i64 v11.1))))), (27, .e (.one (.pure (.sl (p1.map Aj))))), (28, .e (.one (.pure (.val (.int .i64 ((p1.length : Int))))))), (29, .e (.one (.pure (.val (.int .i64 v4.2.2))))), (42, .e (.one (.pure (.sl (p0.fTarget.map Al))))), (43, .e (.one (.pure (.val (.int .i64 ((p0.fTarget.length : Int))))))), (44, .e (.one (.pure (.val (.int .i64 v11.2))))), (63, .e (.one (.pure (.val (.bool v16)))))] [(2, .box [.pure (.sl (p0.fVersions.map Al)), .pure (.sl (p0.fNow.map Al)), .pure (.sl (p0.fTarget.map Al)), .pure (.sl (p0.fTables.map Ar))]), (5, .box [.pure (.nil0), .pure (.nil0), .pure (.nil0)]), (11, .box [.pure (.sl (v8.fBase.map Al)), .pure (.sl (v8.fNext.map Al)), .pure (.sl (v8.fHeld.map Bg))])]) (fun j16 h => ?_) (fun v16 h => ?_)
          ·refine Aa Ac rfl (qf Dx rfl (ql Bo rfl (qm rfl ?_)))
           obtain ⟨v17, a17, b17, h⟩ := Ai h
           refine qi AJ Ec a17 (Ah b17) rfl (qk CN rfl (qm rfl (BX rfl (qm rfl ?_))))
           refine AD (t := 56) rfl (fun c18 => ?_) (fun c18 => ?_)
           ·have h := Ao c18 h
            refine qf BK rfl (ql Bo rfl (qm rfl ?_))
            obtain ⟨v19, a19, b19, h⟩ := Ai h
            refine qi AJ Ec a19 (Ah b19) rfl (qk CN rfl (AT rfl (qp rfl (Ae ?_))))
            exact Au _ h (sm [] _ _ rfl rfl)
           ·have h := An c18 h
            refine qn rfl (qn rfl (qn rfl (qn rfl (qn rfl (qn rfl (qp rfl (Ae ?_)))))))
            exact Au _ h (sm [] _ _ rfl rfl)
          ·refine Ap rfl (fun c20 => ?_) (fun c20 => ?_)
           ·have h := Ao c20 h
            refine Aa Ac rfl (qm rfl (AN rfl (qa rfl (Ae ?_))))
            exact Au _ h (sm [] _ _ rfl rfl)
           ·have h := An c20 h
            refine Aq ?_
            exact Au _ h (sm [] _ _ rfl rfl)
         ·refine Aa Ac rfl (AN rfl (qm rfl (Ae ?_)))
          exact Au _ h (sm [] _ _ rfl rfl)
        ·have h := An c13 h
         refine AP ?_
         exact Au _ h (sm [] _ _ rfl rfl)
       ·refine Am hs (Ab (Aa Ac rfl (qm rfl (qm rfl (Fv rfl (Ae ?_))))))
        refine Ap rfl (fun c21 => ?_) (fun c21 => ?_)
        ·have h := Ao c21 h
         refine Aa Ac rfl (qm rfl (qm rfl (qa rfl (qa rfl (Ae ?_)))))
         exact Au _ h (sm [] _ _ rfl rfl)
        ·have h := An c21 h
         refine Aq ?_
         exact Au _ h (sm [] _ _ rfl rfl)
     ·refine Aa Ac rfl (AN rfl (qm rfl (Ae ?_)))
      exact Au _ h (sm [] _ _ rfl rfl)
    ·have h := An c6 h
     refine AP ?_
     exact Au _ h (sm [] _ _ rfl rfl)
   ·refine Am hs (Ab (Aa Ac rfl (qm rfl (qm rfl ?_))))
    obtain ⟨v22, a22, b22, h⟩ := Ai h
    refine qi AZ Ay a22 (Ah b22) rfl (qK A4 Ay rfl (qz Dc rfl (qs Ay rfl (Ae (Ab (Aa Ac rfl (qm rfl (qf Dx rfl (ql Bo rfl ?_)))))))))
    obtain ⟨v23, a23, h⟩ := bind_some h
    refine AG [2010] (DL N v22.fBase v23 a23) R5 rfl (qf BK rfl (ql Bo rfl ?_))
    obtain ⟨v24, a24, h⟩ := bind_some h
    refine AG [2011] (DL N v22.fNext v24 a24) R5 rfl (qf Dm rfl (ql HV rfl ?_))
    obtain ⟨v25, a25, h⟩ := bind_some h
    refine AG [2012] (Fd N v22.fHeld v25 a25) WD rfl (Bq Dc HS rfl (qa rfl (qs Ay rfl (qa rfl (AA (by kernel_rfl) ?_)))))
    obtain rfl := sj h
    refine Am (sm [(1000, 2010), (1001, 2011), (1002, 2012)] [(4, .e (.one (.pure (.val (.int .i64 v5.1))))), (5, .e (.one (.ptr 5 0))), (6, .e (.one (.pure (.val (.int .i64 0)))))] [(5, .box [.own 1000, .own 1001, .own 1002]), (1000, .vec 1 (v23.map Al)), (1001, .vec 1 (v24.map Al)), (1002, .vec 1 (v25.map Bg))] rfl rfl) (Az ?_)
    exact ⟨⟨[_, _, _], ⟨.tmp _ _ rfl, ⟨.cellN _ _ _ _ _ _ _ rfl rfl A4 Ay rfl rfl (Jw rfl), ⟨.tmp _ _ rfl, trivial⟩⟩⟩, rfl⟩, ⟨rfl, rfl, rfl, trivial⟩⟩
set_option maxRecDepth 10000 in
theorem Ij (N : Nat) (p0 : List Int) (p1 : List Int) (r : Int) (h : En N p0 p1 = some r) : AB Tryz.prog 108 [.e (.one (.pure (.sl (p0.map Al)))), .e (.one (.pure (.sl (p1.map Al))))] [] (.e (.one (.pure (.val (.int .i64 r))))) := by
 unfold En at h
 refine As (n := 46) (rs := [.tmp 4]) Tryz.func108 rfl rfl rfl (A3 rfl) (A3 rfl) rfl fun w0 S0 => ?_
 refine Ab (Aa Ac rfl (qa rfl (Ae (Ab (Ab (Aa Ac rfl (qa rfl (Ae ?_))))))))
 refine AC (L := Ej N p0 p1) h (fun v1 => mk [(0, .e (.one (.pure (.sl (p0.map Al))))), (1, .e (.one (.pure (.sl (p1.map Al))))), (5, .e (.one (.pure (.val (.int .i64 v1)))))] []) (fun v2 => mk [(0, .e (.one (.pure (.sl (p0.map Al))))), (1, .e (.one (.pure (.sl (p1.map Al)))))] []) (fun _ _ => rfl) (sm [] _ _ rfl rfl) (fun j1 n1 v1 h => ?_) (fun v2 s h hs => ?_)
 ·unfold Ej at h
  refine Ab ?_
  refine AM h (fun v3 => mk [(0, .e (.one (.pure (.sl (p0.map Al))))), (1, .e (.one (.pure (.sl (p1.map Al))))), (5, .e (.one (.pure (.val (.int .i64 v1))))), (15, .e (.one (.pure (.val (.bool v3)))))] []) (fun j3 h => ?_) (fun v3 h => ?_)
  ·refine Aa Ac rfl (qm rfl (qm rfl (AU AJ rfl (AT rfl (qm rfl ?_)))))
   refine AD (t := 10) rfl (fun c4 => ?_) (fun c4 => ?_)
   ·have h := Ao c4 h
    refine qm rfl (qm rfl (AU AJ rfl (AT rfl (qp rfl (Ae ?_)))))
    exact Au _ h (sm [] _ _ rfl rfl)
   ·have h := An c4 h
    refine qn rfl (qn rfl (qn rfl (qn rfl (qp rfl (Ae ?_)))))
    exact Au _ h (sm [] _ _ rfl rfl)
  ·refine Ap rfl (fun c5 => ?_) (fun c5 => ?_)
   ·have h := Ao c5 h
    refine Aq (Ab (AH (Ab (Ab (Aa Ac rfl (qm rfl (qm rfl ?_)))))))
    obtain ⟨v6, a6, b6, h⟩ := Ai h
    refine qi AJ Ec a6 (Ah b6) rfl (qk CN rfl (qm rfl (qm rfl ?_)))
    obtain ⟨v7, a7, b7, h⟩ := Ai h
    refine qi AJ Ec a7 (Ah b7) rfl (qk CN rfl (AT rfl (AA (by kernel_rfl) ?_)))
    refine Ap rfl (fun c8 => ?_) (fun c8 => ?_)
    ·have h := Ao c8 h
     refine Ab (Aa Ac rfl (qa rfl (Ae ?_)))
     obtain rfl := sj h
     refine Am (sm [] [(4, .e (.one (.pure (.val (.int .i64 ((-1)))))))] [] rfl rfl) (Az ?_)
     exact ⟨⟨[_], ⟨.tmp _ _ rfl, trivial⟩, rfl⟩, trivial⟩
    ·have h := An c8 h
     refine Aq (Ab (Aa Ac rfl (qm rfl (qm rfl ?_))))
     obtain ⟨v9, a9, b9, h⟩ := Ai h
     refine qi AJ Ec a9 (Ah b9) rfl (qk CN rfl (qm rfl (qm rfl ?_)))
     obtain ⟨v10, a10, b10, h⟩ := Ai h
     refine qi AJ Ec a10 (Ah b10) rfl (qk CN rfl (Fv rfl (AA (by kernel_rfl) ?_)))
     refine Ap rfl (fun c11 => ?_) (fun c11 => ?_)
     ·have h := Ao c11 h
      refine Ab (Aa Ac rfl (qa rfl (Ae ?_)))
      obtain rfl := sj h
      refine Am (sm [] [(4, .e (.one (.pure (.val (.int .i64 1)))))] [] rfl rfl) (Az ?_)
      exact ⟨⟨[_], ⟨.tmp _ _ rfl, trivial⟩, rfl⟩, trivial⟩
     ·have h := An c11 h
      refine Aq (Aa Ac rfl (qm rfl (AN rfl (qa rfl (Ae ?_)))))
      exact Au _ h (sm [] _ _ rfl rfl)
   ·have h := An c5 h
    refine AP ?_
    exact Au _ h (sm [] _ _ rfl rfl)
 ·refine Am hs (Ab (Ab (Aa Ac rfl (qm rfl (AU AJ rfl (qm rfl (AU AJ rfl (AT rfl (Ae ?_)))))))))
  refine Ap rfl (fun c12 => ?_) (fun c12 => ?_)
  ·have h := Ao c12 h
   refine Ab (Aa Ac rfl (qa rfl (Ae ?_)))
   obtain rfl := sj h
   refine Am (sm [] [(4, .e (.one (.pure (.val (.int .i64 ((-1)))))))] [] rfl rfl) (Az ?_)
   exact ⟨⟨[_], ⟨.tmp _ _ rfl, trivial⟩, rfl⟩, trivial⟩
  ·have h := An c12 h
   refine Aq (Ab (Ab (Aa Ac rfl (qm rfl (AU AJ rfl (qm rfl (AU AJ rfl (Fv rfl (Ae ?_)))))))))
   refine Ap rfl (fun c13 => ?_) (fun c13 => ?_)
   ·have h := Ao c13 h
    refine Ab (Aa Ac rfl (qa rfl (Ae ?_)))
    obtain rfl := sj h
    refine Am (sm [] [(4, .e (.one (.pure (.val (.int .i64 1)))))] [] rfl rfl) (Az ?_)
    exact ⟨⟨[_], ⟨.tmp _ _ rfl, trivial⟩, rfl⟩, trivial⟩
   ·have h := An c13 h
    refine Aq (Ab (Aa Ac rfl (qa rfl (Ae ?_))))
    obtain rfl := sj h
    refine Am (sm [] [(4, .e (.one (.pure (.val (.int .i64 0)))))] [] rfl rfl) (Az ?_)
    exact ⟨⟨[_], ⟨.tmp _ _ rfl, trivial⟩, rfl⟩, trivial⟩
set_option maxRecDepth 10000 in
theorem IQ (N : Nat) (p0 : List Int) (r : (List Int)) (h : Ed N p0 = some r) : AB Tryz.prog 109 [.e (.one (.pure (.sl (p0.map Bg))))] [(1, r.map Al)] (.e (.one (.own 0))) := by
 unfold Ed at h
 refine As (n := 20) (rs := [.tmp 2]) Tryz.func109 rfl rfl rfl (A3 rfl) (A3 rfl) rfl fun w0 S0 => ?_
 refine Ab (Aa Ac rfl (qa rfl (Ae (Ab (Aa Ac rfl (qa rfl (Ae (Ab (Ab (Aa Ac rfl (qa rfl (Ae ?_))))))))))))
 refine AC (L := DJ N p0) h (fun v1 => mk [(0, .e (.one (.pure (.sl (p0.map Bg))))), (3, .e (.one (.own 2001))), (4, .e (.one (.pure (.val (.int .i64 v1.2)))))] [(2001, .vec 1 (v1.1.map Al))]) (fun v2 => mk [(3, .e (.one (.own 2002)))] [(2002, .vec 1 (v2.map Al))]) (fun _ _ => rfl) ((Br 3 2003 1 rfl rfl rfl).trans (sm [(2001, 2003)] _ _ rfl rfl)) (fun j1 n1 v1 h => ?_) (fun v2 s h hs => ?_)
 ·unfold DJ at h
  refine Ab (Ab (Aa Ac rfl (qm rfl (qm rfl (AU D0 rfl (AT rfl (Ae ?_)))))))
  refine Ap rfl (fun c3 => ?_) (fun c3 => ?_)
  ·have h := Ao c3 h
   refine Aq (Ab (AH (Aa Ac rfl (qm rfl (qm rfl (qm rfl ?_))))))
   obtain ⟨v4, a4, b4, h⟩ := Ai h
   refine qi D0 GJ a4 (Ah b4) rfl (qk KY rfl (Hj ZG SI rfl (EU AJ Ec Lb rfl ?_)))
   obtain ⟨c5, h⟩ := AQ h
   refine El (f := Al) AJ AJ Ec Nr Lb c5 rfl (qa rfl (Ae (Aa Ac rfl (qm rfl (AN rfl (qa rfl (Ae ?_)))))))
   exact Au _ h (sm [(2001, 18)] _ _ rfl rfl)
  ·have h := An c3 h
   refine AP ?_
   exact Au _ h (sm [(2002, 2001)] _ _ rfl rfl)
 ·refine Am hs (Ab (Aa Ac rfl (qm rfl (qa rfl (Ae ?_)))))
  obtain rfl := sj h
  refine Am (sm [(1000, 2002)] [(2, .e (.one (.own 1000)))] [(1000, .vec 1 (v2.map Al))] rfl rfl) (Az ?_)
  exact ⟨⟨[_], ⟨.tmp _ _ rfl, trivial⟩, rfl⟩, ⟨rfl, trivial⟩⟩
set_option maxRecDepth 10000 in
theorem Ld (N : Nat) (p0 : Ag) (p1 : Ag) (r : Int) (h : EZ N p0 p1 = some r) : AB Tryz.prog 68 [.e (.agg [.pure (.sl (p0.fBase.map Al)), .pure (.sl (p0.fNext.map Al)), .pure (.sl (p0.fHeld.map Bg))]), .e (.agg [.pure (.sl (p1.fBase.map Al)), .pure (.sl (p1.fNext.map Al)), .pure (.sl (p1.fHeld.map Bg))])] [] (.e (.one (.pure (.val (.int .i64 r))))) := by
 unfold EZ at h
 refine As (n := 30) (rs := [.tmp 4]) Tryz.func68 rfl rfl rfl (A3 rfl) (A3 rfl) rfl fun w0 S0 => ?_
 refine Ab (Aa Ac rfl (qb rfl (qb rfl (qa rfl (Ae (Ab (Ab (Aa Ac rfl (qf Dx rfl (ql Bo rfl (qf Dx rfl (ql Bo rfl ?_))))))))))))
 obtain ⟨v1, a1, h⟩ := bind_some h
 refine AG [] (Ij N p0.fBase p1.fBase v1 a1) TJ rfl (qa rfl (Ae (Ab (Aa Ac rfl (qm rfl (Ct rfl (Ae ?_)))))))
 refine Ap rfl (fun c2 => ?_) (fun c2 => ?_)
 ·have h := Ao c2 h
  refine Ab (Aa Ac rfl (qm rfl (qa rfl (Ae ?_))))
  obtain rfl := sj h
  refine Am (sm [] [(4, .e (.one (.pure (.val (.int .i64 v1)))))] [] rfl rfl) (Az ?_)
  exact ⟨⟨[_], ⟨.tmp _ _ rfl, trivial⟩, rfl⟩, trivial⟩
 ·have h := An c2 h
  refine Aq (Ab (Ab (Aa Ac rfl (qf BK rfl (ql Bo rfl (qf BK rfl (ql Bo rfl ?_)))))))
  obtain ⟨v3, a3, h⟩ := bind_some h
  refine AG [] (Ij N p0.fNext p1.fNext v3 a3) TJ rfl (qa rfl (Ae (Ab (Aa Ac rfl (qm rfl (Ct rfl (Ae ?_)))))))
  refine Ap rfl (fun c4 => ?_) (fun c4 => ?_)
  ·have h := Ao c4 h
   refine Ab (Aa Ac rfl (qm rfl (qa rfl (Ae ?_))))
   obtain rfl := sj h
   refine Am (sm [] [(4, .e (.one (.pure (.val (.int .i64 v3)))))] [] rfl rfl) (Az ?_)
   exact ⟨⟨[_], ⟨.tmp _ _ rfl, trivial⟩, rfl⟩, trivial⟩
  ·have h := An c4 h
   refine Aq (Ab (Aa Ac rfl (qf Dm rfl (ql HV rfl ?_))))
   obtain ⟨v5, a5, h⟩ := bind_some h
   refine AG [2001] (IQ N p0.fHeld v5 a5) VZ rfl (qf Dm rfl (ql HV rfl ?_))
   obtain ⟨v6, a6, h⟩ := bind_some h
   refine AG [2002] (IQ N p1.fHeld v6 a6) VZ rfl ?_
   obtain ⟨v7, a7, h⟩ := bind_some h
   refine Et [] [2001, 2002] (Ij N v5 v6 v7 a7) TJ CQ rfl (qa rfl (AA (by kernel_rfl) ?_))
   obtain rfl := sj h
   refine Am (sm [] [(4, .e (.one (.pure (.val (.int .i64 v7)))))] [] rfl rfl) (Az ?_)
   exact ⟨⟨[_], ⟨.tmp _ _ rfl, trivial⟩, rfl⟩, trivial⟩
set_option maxRecDepth 10000 in
theorem HN (N : Nat) (p0 : Ag) (p1 : Ag) (r : Bool) (h : DE N p0 p1 = some r) : AB Tryz.prog 27 [.e (.agg [.pure (.sl (p0.fBase.map Al)), .pure (.sl (p0.fNext.map Al)), .pure (.sl (p0.fHeld.map Bg))]), .e (.agg [.pure (.sl (p1.fBase.map Al)), .pure (.sl (p1.fNext.map Al)), .pure (.sl (p1.fHeld.map Bg))])] [] (.e (.one (.pure (.val (.bool r))))) := by
 unfold DE at h
 refine As (n := 9) (rs := [.tmp 4]) Tryz.func27 rfl rfl rfl (A3 rfl) (A3 rfl) rfl fun w0 S0 => ?_
 refine Ab (Aa Ac rfl (qb rfl (qb rfl (qa rfl (Ae (Ab (Aa Ac rfl (qL A4 Ay rfl (qL A4 Ay rfl ?_)))))))))
 obtain ⟨v1, a1, h⟩ := bind_some h
 refine AG [] (Ld N p0 p1 v1 a1) Zx rfl (BX rfl (qa rfl (Ae ?_)))
 obtain rfl := sj h
 refine Am (sm [] [(4, .e (.one (.pure (.val (.bool ((v1 == 0)))))))] [] rfl rfl) (Az ?_)
 exact ⟨⟨[_], ⟨.tmp _ _ rfl, trivial⟩, rfl⟩, trivial⟩
set_option maxRecDepth 10000 in
theorem Mh (N : Nat) (p0 : List Ag) (p1 : List Ag) (r : Bool) (h : HO N p0 p1 = some r) : AB Tryz.prog 14 [.e (.one (.pure (.sl (p0.map Aj)))), .e (.one (.pure (.sl (p1.map Aj))))] [] (.e (.one (.pure (.val (.bool r))))) := by
 unfold HO at h
 refine As (n := 27) (rs := [.tmp 4]) Tryz.func14 rfl rfl rfl (A3 rfl) (A3 rfl) rfl fun w0 S0 => ?_
 refine Ab (Aa Ac rfl (qa rfl (Ae (Ab (Ab (Aa Ac rfl (qm rfl (AU AZ rfl (qm rfl (AU AZ rfl (Ct rfl (Ae ?_))))))))))))
 refine Ap rfl (fun c1 => ?_) (fun c1 => ?_)
 ·have h := Ao c1 h
  refine Ab (Aa Ac rfl (qa rfl (Ae ?_)))
  obtain rfl := sj h
  refine Am (sm [] [(4, .e (.one (.pure (.val (.bool false)))))] [] rfl rfl) (Az ?_)
  exact ⟨⟨[_], ⟨.tmp _ _ rfl, trivial⟩, rfl⟩, trivial⟩
 ·have h := An c1 h
  refine Aq (Ab (Ab (Aa Ac rfl (qa rfl (Ae ?_)))))
  refine AC (L := FN N p0 p1) h (fun v2 => mk [(0, .e (.one (.pure (.sl (p0.map Aj))))), (1, .e (.one (.pure (.sl (p1.map Aj))))), (5, .e (.one (.pure (.val (.int .i64 v2)))))] []) (fun v3 => mk [] []) (fun _ _ => rfl) (sm [] _ _ rfl rfl) (fun j2 n2 v2 h => ?_) (fun v3 s h hs => ?_)
  ·unfold FN at h
   refine Ab (Ab (Aa Ac rfl (qm rfl (qm rfl (AU AZ rfl (AT rfl (Ae ?_)))))))
   refine Ap rfl (fun c4 => ?_) (fun c4 => ?_)
   ·have h := Ao c4 h
    refine Aq (Ab (AH (Ab (Aa Ac rfl (qm rfl (qm rfl ?_))))))
    obtain ⟨v5, a5, b5, h⟩ := Ai h
    refine qi AZ Ay a5 (Ah b5) rfl (qK A4 Ay rfl (qm rfl (qm rfl ?_)))
    obtain ⟨v6, a6, b6, h⟩ := Ai h
    refine qi AZ Ay a6 (Ah b6) rfl (qK A4 Ay rfl ?_)
    obtain ⟨v7, a7, h⟩ := bind_some h
    refine AG [] (HN N v5 v6 v7 a7) W9 rfl (Cb rfl (AA (by kernel_rfl) ?_))
    refine Ap rfl (fun c8 => ?_) (fun c8 => ?_)
    ·have h := Ao c8 h
     refine Ab (Aa Ac rfl (qa rfl (Ae ?_)))
     obtain rfl := sj h
     refine Am (sm [] [(4, .e (.one (.pure (.val (.bool false)))))] [] rfl rfl) (Az ?_)
     exact ⟨⟨[_], ⟨.tmp _ _ rfl, trivial⟩, rfl⟩, trivial⟩
    ·have h := An c8 h
     refine Aq (Aa Ac rfl (qm rfl (AN rfl (qa rfl (Ae ?_)))))
     exact Au _ h (sm [] _ _ rfl rfl)
   ·have h := An c4 h
    refine AP ?_
    exact Au _ h (sm [] _ _ rfl rfl)
  ·refine Am hs (Ab (Aa Ac rfl (qa rfl (Ae ?_))))
   obtain rfl := sj h
   refine Am (sm [] [(4, .e (.one (.pure (.val (.bool true)))))] [] rfl rfl) (Az ?_)
   exact ⟨⟨[_], ⟨.tmp _ _ rfl, trivial⟩, rfl⟩, trivial⟩
set_option maxRecDepth 10000 in
theorem F5 (N : Nat) (p0 : List Ag) (p1 : Ag) (p2 : (Ag × Ag) → Option Int) (r : Int × Bool) (h : CK N p0 p1 p2 = some r) : AB Tryz.prog 78 [.e (.one (.pure (.sl (p0.map Aj)))), .e (.agg [.pure (.sl (p1.fBase.map Al)), .pure (.sl (p1.fNext.map Al)), .pure (.sl (p1.fHeld.map Bg))]), .e (.one (.clo (Bc (CL true Aj true Aj) Bh p2)))] [] (.tup [.one (.pure (.val (.int .i64 r.1))), .one (.pure (.val (.bool r.2)))]) := by
 unfold CK at h
 refine As (n := 49) (rs := [.tmp 6, .tmp 7]) Tryz.func78 rfl rfl rfl (A3 rfl) (A3 rfl) rfl fun w0 S0 => ?_
 refine Ab (Aa Ac rfl (qb rfl (qa rfl (qa rfl (Ae (Ab (Aa Ac rfl (qm rfl (AU AZ rfl (qa rfl (Ae (Ab (Aa Ac rfl (qm rfl (qa rfl (qa rfl (Ae (Ab ?_))))))))))))))))))
 refine AC (L := Bk N p0 p1 p2) h (fun v1 => mk [(0, .e (.one (.pure (.sl (p0.map Aj))))), (2, .e (.one (.clo (Bc (CL true Aj true Aj) Bh p2)))), (4, .e (.one (.ptr 4 0))), (8, .e (.one (.pure (.val (.int .i64 ((p0.length : Int))))))), (9, .e (.one (.pure (.val (.int .i64 v1.1))))), (10, .e (.one (.pure (.val (.int .i64 v1.2)))))] [(4, .box [.pure (.sl (p1.fBase.map Al)), .pure (.sl (p1.fNext.map Al)), .pure (.sl (p1.fHeld.map Bg))])]) (fun v2 => mk [(0, .e (.one (.pure (.sl (p0.map Aj))))), (2, .e (.one (.clo (Bc (CL true Aj true Aj) Bh p2)))), (4, .e (.one (.ptr 4 0))), (8, .e (.one (.pure (.val (.int .i64 ((p0.length : Int))))))), (9, .e (.one (.pure (.val (.int .i64 v2)))))] [(4, .box [.pure (.sl (p1.fBase.map Al)), .pure (.sl (p1.fNext.map Al)), .pure (.sl (p1.fHeld.map Bg))])]) (fun _ _ => rfl) (sm [] _ _ rfl rfl) (fun j1 n1 v1 h => ?_) (fun v2 s h hs => ?_)
 ·unfold Bk at h
  refine Ab (Ab (Aa Ac rfl (qm rfl (qm rfl (AT rfl (Ae ?_))))))
  refine Ap rfl (fun c3 => ?_) (fun c3 => ?_)
  ·have h := Ao c3 h
   refine Aq (AH (Ab (Aa Ac rfl (qm rfl (qm rfl (AN rfl (Hj TV NE rfl (Iq rfl (by decide) (Hj O6 SI rfl (qa rfl (Ae (Ab (Aa Ac rfl (qm rfl (qm rfl (qm rfl ?_))))))))))))))))
   obtain ⟨v4, a4, b4, h⟩ := Ai h
   refine qi AZ Ay a4 (Ah b4) rfl (qK A4 Ay rfl (qL A4 Ay rfl ?_))
   obtain ⟨v5, a5, h⟩ := bind_some h
   refine C9 (ds0 := [_, _]) (ar := (CL true Aj true Aj) ((v4, p1))) (.p rfl) rfl rfl ⟨rfl, rfl, trivial⟩ rfl rfl rfl (C2 (DQ _ _ _ _ BI BI) a5) ?_
   refine AT rfl (AA (by kernel_rfl) ?_)
   refine Ap rfl (fun c6 => ?_) (fun c6 => ?_)
   ·have h := Ao c6 h
    refine Aa Ac rfl (qm rfl (AN rfl (qa rfl (Ae ?_))))
    exact Au _ h (sm [] _ _ rfl rfl)
   ·have h := An c6 h
    refine Aa Ac rfl (qm rfl (qa rfl (Ae ?_)))
    exact Au _ h (sm [] _ _ rfl rfl)
  ·have h := An c3 h
   refine AP ?_
   exact Au _ h (sm [] _ _ rfl rfl)
 ·refine Am hs ?_
  refine AM h (fun v7 => mk [(6, .e (.one (.pure (.val (.int .i64 v2))))), (7, .e (.one (.pure (.val (.bool v7)))))] []) (fun j7 h => ?_) (fun v7 h => ?_)
  ·refine Aa Ac rfl (qm rfl (qm rfl (qm rfl (AT rfl (qm rfl ?_)))))
   refine AD (t := 39) rfl (fun c8 => ?_) (fun c8 => ?_)
   ·have h := Ao c8 h
    refine qm rfl (qm rfl (qm rfl ?_))
    obtain ⟨v9, a9, b9, h⟩ := Ai h
    refine qi AZ Ay a9 (Ah b9) rfl (qK A4 Ay rfl (qL A4 Ay rfl ?_))
    obtain ⟨v10, a10, h⟩ := bind_some h
    refine C9 (ds0 := [_, _]) (ar := (CL true Aj true Aj) ((v9, p1))) (.g rfl rfl) rfl rfl ⟨rfl, rfl, trivial⟩ rfl rfl rfl (C2 (DQ _ _ _ _ BI BI) a10) ?_
    refine BX rfl (qp rfl (qa rfl (qa rfl (AA (by kernel_rfl) ?_))))
    exact Au _ h (sm [] _ _ rfl rfl)
   ·have h := An c8 h
    refine qn rfl (qn rfl (qn rfl (qn rfl (qn rfl (qn rfl (qn rfl (qn rfl (qp rfl (qa rfl (qa rfl (AA (by kernel_rfl) ?_)))))))))))
    exact Au _ h (sm [] _ _ rfl rfl)
  ·obtain rfl := sj h
   refine Am (sm [] [(6, .e (.one (.pure (.val (.int .i64 v2))))), (7, .e (.one (.pure (.val (.bool v7)))))] [] rfl rfl) (Az ?_)
   exact ⟨⟨[_, _], ⟨.tmp _ _ rfl, ⟨.tmp _ _ rfl, trivial⟩⟩, rfl⟩, trivial⟩
set_option maxRecDepth 10000 in
theorem K7 (N : Nat) (p0 : List Ag) (p1 : Ag) (r : Bool) (h : Hx N p0 p1 = some r) : AB Tryz.prog 47 [.e (.one (.pure (.sl (p0.map Aj)))), .e (.agg [.pure (.sl (p1.fBase.map Al)), .pure (.sl (p1.fNext.map Al)), .pure (.sl (p1.fHeld.map Bg))])] [] (.e (.one (.pure (.val (.bool r))))) := by
 unfold Hx at h
 refine As (n := 14) (rs := [.tmp 4]) Tryz.func47 rfl rfl rfl (A3 rfl) (A3 rfl) rfl fun w0 S0 => ?_
 refine Ab (Aa Ac rfl (qb rfl (qa rfl (Ae (Ab (Aa Ac rfl (qm rfl (qL A4 Ay rfl ?_))))))))
 obtain ⟨v1, a1, h⟩ := bind_some h
 refine AG [] (AB.weak (ds' := [.e (.one (.pure (.sl (p0.map Aj)))), .e (.agg [.pure (.sl (p1.fBase.map Al)), .pure (.sl (p1.fNext.map Al)), .pure (.sl (p1.fHeld.map Bg))]), .e (.one (.fnc 46))]) (F5 N p0 p1 ((fun (x : Ag × Ag) => FV N x.1 x.2)) v1 a1) ⟨(fun _ _ _ hh => hh), (fun _ _ _ hh => hh), (fun _ _ _ hh => Qb Xb (fun ar t ht => by obtain ⟨x, r, rfl, hq, rfl⟩ := IX ht; exact Kp N x.1 x.2 r hq) hh), trivial⟩) Y4 rfl ?_
 refine qm rfl (qx rfl (qx rfl (qa rfl (qa rfl (Ae (Ab (Aa Ac rfl (qm rfl (qa rfl (Ae ?_))))))))))
 obtain rfl := sj h
 refine Am (sm [] [(4, .e (.one (.pure (.val (.bool v1.2)))))] [] rfl rfl) (Az ?_)
 exact ⟨⟨[_], ⟨.tmp _ _ rfl, trivial⟩, rfl⟩, trivial⟩
set_option maxRecDepth 10000 in
theorem JL (N : Nat) (p0 : Ak) (p1 : List Ag) (r : Bool) (h : GX N p0 p1 = some r) : AB Tryz.prog 15 [.e (.agg [.pure (.sl (p0.fVersions.map Al)), .pure (.sl (p0.fNow.map Al)), .pure (.sl (p0.fTarget.map Al)), .pure (.sl (p0.fTables.map Ar))]), .e (.one (.pure (.sl (p1.map Aj))))] [] (.e (.one (.pure (.val (.bool r))))) := by
 unfold GX at h
 refine As (n := 122) (rs := [.tmp 4]) Tryz.func15 rfl rfl rfl (A3 rfl) (A3 rfl) rfl fun w0 S0 => ?_
 refine Ab (Aa Ac rfl (qb rfl (qa rfl (Ae (Ab (Aa Ac rfl (qL EH Ep rfl ?_)))))))
 obtain ⟨v1, a1, h⟩ := bind_some h
 refine AG [2001, 2002, 2003] (NJ N p0 v1 a1) YF rfl (qm rfl (qx rfl (qx rfl (qz Dc rfl (qs Ay rfl (qa rfl (Ae (Ab (Ab (Aa Ac rfl (qm rfl (Ct rfl (Ae ?_)))))))))))))
 refine Ap rfl (fun c2 => ?_) (fun c2 => ?_)
 ·have h := Ao c2 h
  refine Ab (Aa Ac rfl (qa rfl (Ae ?_)))
  obtain rfl := sj h
  refine Am (sm [] [(4, .e (.one (.pure (.val (.bool false)))))] [] rfl rfl) (Az ?_)
  exact ⟨⟨[_], ⟨.tmp _ _ rfl, trivial⟩, rfl⟩, trivial⟩
 ·have h := An c2 h
  refine Aq (Ab (Ab (Aa Ac rfl (qL EH Ep rfl (qL A4 Ay rfl ?_)))))
  obtain ⟨v3, a3, h⟩ := bind_some h
  refine Et [] [2001, 2002, 2003] (II N p0 v1.1 v3 a3) T8 CQ rfl (qm rfl (qx rfl (qx rfl (qa rfl (qa rfl (Ae (Ab (Aa Ac rfl (qm rfl (Cb rfl (Ae ?_)))))))))))
  refine Ap rfl (fun c4 => ?_) (fun c4 => ?_)
  ·have h := Ao c4 h
   refine Ab (Aa Ac rfl (qm rfl (AU AZ rfl (BX rfl (qa rfl (Ae ?_))))))
   obtain rfl := sj h
   refine Am (sm [] [(4, .e (.one (.pure (.val (.bool (((p1.length : Int) == 0)))))))] [] rfl rfl) (Az ?_)
   exact ⟨⟨[_], ⟨.tmp _ _ rfl, trivial⟩, rfl⟩, trivial⟩
  ·have h := An c4 h
   refine Aq (Ab (Ab (Aa Ac rfl (qm rfl (AU AZ rfl (qm rfl (Ae ?_)))))))
   refine AC (L := GS N p0 p1) h (fun v5 => mk [(1, .e (.one (.pure (.sl (p1.map Aj))))), (2, .e (.one (.ptr 2 0))), (5, .e (.one (.ptr 5 0))), (41, .e (.one (.pure (.sl (p1.map Aj))))), (42, .e (.one (.pure (.val (.int .i64 ((p1.length : Int))))))), (43, .e (.one (.pure (.val (.int .i64 v5)))))] [(2, .box [.pure (.sl (p0.fVersions.map Al)), .pure (.sl (p0.fNow.map Al)), .pure (.sl (p0.fTarget.map Al)), .pure (.sl (p0.fTables.map Ar))]), (5, .box [.own 2004, .own 2005, .own 2006]), (2004, .vec 1 (v1.1.fBase.map Al)), (2005, .vec 1 (v1.1.fNext.map Al)), (2006, .vec 1 (v1.1.fHeld.map Bg))]) (fun v6 => mk [(1, .e (.one (.pure (.sl (p1.map Aj))))), (2, .e (.one (.ptr 2 0))), (5, .e (.one (.ptr 5 0)))] [(2, .box [.pure (.sl (p0.fVersions.map Al)), .pure (.sl (p0.fNow.map Al)), .pure (.sl (p0.fTarget.map Al)), .pure (.sl (p0.fTables.map Ar))]), (5, .box [.own 2007, .own 2008, .own 2009]), (2007, .vec 1 (v1.1.fBase.map Al)), (2008, .vec 1 (v1.1.fNext.map Al)), (2009, .vec 1 (v1.1.fHeld.map Bg))]) (fun _ _ => rfl) (sm [(2004, 2001), (2005, 2002), (2006, 2003)] _ _ rfl rfl) (fun j5 n5 v5 h => ?_) (fun v6 s h hs => ?_)
   ·unfold GS at h
    refine Ab (Aa Ac rfl (AT rfl (Ae (Ab ?_))))
    refine Ap rfl (fun c7 => ?_) (fun c7 => ?_)
    ·have h := Ao c7 h
     refine Aq (Ab (AH (Ab (Aa Ac rfl (qm rfl ?_)))))
     obtain ⟨v8, a8, b8, h⟩ := Ai h
     refine qi AZ Ay a8 (Ah b8) rfl (qK A4 Ay rfl (qz Dc rfl (qa rfl (qs Ay rfl (Ae (Ab ?_))))))
     refine AM h (fun v9 => mk [(1, .e (.one (.pure (.sl (p1.map Aj))))), (2, .e (.one (.ptr 2 0))), (5, .e (.one (.ptr 5 0))), (10, .e (.one (.ptr 10 0))), (41, .e (.one (.pure (.sl (p1.map Aj))))), (42, .e (.one (.pure (.val (.int .i64 ((p1.length : Int))))))), (43, .e (.one (.pure (.val (.int .i64 v5))))), (59, .e (.one (.pure (.val (.bool v9)))))] [(2, .box [.pure (.sl (p0.fVersions.map Al)), .pure (.sl (p0.fNow.map Al)), .pure (.sl (p0.fTarget.map Al)), .pure (.sl (p0.fTables.map Ar))]), (5, .box [.own 2010, .own 2011, .own 2012]), (10, .box [.pure (.sl (v8.fBase.map Al)), .pure (.sl (v8.fNext.map Al)), .pure (.sl (v8.fHeld.map Bg))]), (2010, .vec 1 (v1.1.fBase.map Al)), (2011, .vec 1 (v1.1.fNext.map Al)), (2012, .vec 1 (v1.1.fHeld.map Bg))]) (fun j9 h => ?_) (fun v9 h => ?_)
     ·refine Aa Ac rfl (qm rfl (Fv rfl (qm rfl ?_)))
      refine AD (t := 50) rfl (fun c10 => ?_) (fun c10 => ?_)
      ·have h := Ao c10 h
       refine qm rfl (qm rfl (Bj rfl ?_))
       obtain ⟨v11, a11, b11, h⟩ := Ai h
       refine qi AZ Ay a11 (Ah b11) rfl (qK A4 Ay rfl (qL A4 Ay rfl ?_))
       obtain ⟨v12, a12, h⟩ := bind_some h
       refine AG [] (Kp N v11 v8 v12 a12) Xb rfl (Db rfl (qp rfl (AA (by kernel_rfl) ?_)))
       exact Au _ h (sm [(2010, 2004), (2011, 2005), (2012, 2006)] _ _ rfl rfl)
      ·have h := An c10 h
       refine qn rfl (qn rfl (qn rfl (qn rfl (qn rfl (qn rfl (qn rfl (qn rfl (qp rfl (AA (by kernel_rfl) ?_)))))))))
       exact Au _ h (sm [(2010, 2004), (2011, 2005), (2012, 2006)] _ _ rfl rfl)
     ·refine Ap rfl (fun c13 => ?_) (fun c13 => ?_)
      ·have h := Ao c13 h
       refine Ab (Aa Ac rfl (qa rfl (Ae ?_)))
       obtain rfl := sj h
       refine Am (sm [] [(4, .e (.one (.pure (.val (.bool false)))))] [] rfl rfl) (Az ?_)
       exact ⟨⟨[_], ⟨.tmp _ _ rfl, trivial⟩, rfl⟩, trivial⟩
      ·have h := An c13 h
       refine Aq (Ab (Aa Ac rfl (qL EH Ep rfl (qL A4 Ay rfl ?_))))
       obtain ⟨v14, a14, h⟩ := bind_some h
       refine AG [] (II N p0 v8 v14 a14) T8 rfl (qm rfl (qx rfl (qx rfl (qa rfl (qa rfl (Ae ?_))))))
       refine AM h (fun v15 => mk [(1, .e (.one (.pure (.sl (p1.map Aj))))), (2, .e (.one (.ptr 2 0))), (5, .e (.one (.ptr 5 0))), (41, .e (.one (.pure (.sl (p1.map Aj))))), (42, .e (.one (.pure (.val (.int .i64 ((p1.length : Int))))))), (43, .e (.one (.pure (.val (.int .i64 v5))))), (76, .e (.one (.pure (.val (.bool v15)))))] [(2, .box [.pure (.sl (p0.fVersions.map Al)), .pure (.sl (p0.fNow.map Al)), .pure (.sl (p0.fTarget.map Al)), .pure (.sl (p0.fTables.map Ar))]), (5, .box [.own 2013, .own 2014, .own 2015]), (2013, .vec 1 (v1.1.fBase.map Al)), (2014, .vec 1 (v1.1.fNext.map Al)), (2015, .vec 1 (v1.1.fHeld.map Bg))]) (fun j15 h => ?_) (fun v15 h => ?_)
       ·refine Aa Ac rfl (qm rfl (Cb rfl (qm rfl ?_)))
        refine AD (t := 68) rfl (fun c16 => ?_) (fun c16 => ?_)
        ·have h := Ao c16 h
         refine qn rfl (qn rfl (qp rfl (qm rfl (qn rfl (qn rfl (qn rfl (qp rfl (Ae ?_))))))))
         exact Au _ h (sm [(2013, 2010), (2014, 2011), (2015, 2012)] _ _ rfl rfl)
        ·have h := An c16 h
         refine qm rfl (Ct rfl (qp rfl (qm rfl ?_)))
         refine AD (t := 72) rfl (fun c17 => ?_) (fun c17 => ?_)
         ·have h := Ao c17 h
          refine qn rfl (qn rfl (qn rfl (qp rfl (Ae ?_))))
          exact Au _ h (sm [(2013, 2010), (2014, 2011), (2015, 2012)] _ _ rfl rfl)
         ·have h := An c17 h
          refine qL EH Ep rfl (qL A4 Ay rfl ?_)
          obtain ⟨v18, a18, h⟩ := bind_some h
          refine AG [] (OH N p0 v8 v18 a18) YL rfl (qp rfl (Ae ?_))
          exact Au _ h (sm [(2013, 2010), (2014, 2011), (2015, 2012)] _ _ rfl rfl)
       ·refine Ap rfl (fun c19 => ?_) (fun c19 => ?_)
        ·have h := Ao c19 h
         refine Ab (Aa Ac rfl (qa rfl (Ae ?_)))
         obtain rfl := sj h
         refine Am (sm [] [(4, .e (.one (.pure (.val (.bool false)))))] [] rfl rfl) (Az ?_)
         exact ⟨⟨[_], ⟨.tmp _ _ rfl, trivial⟩, rfl⟩, trivial⟩
        ·have h := An c19 h
         refine Aq (Aa Ac rfl (AN rfl (qm rfl (Ae ?_))))
         exact Au _ h (sm [(2004, 2013), (2005, 2014), (2006, 2015)] _ _ rfl rfl)
    ·have h := An c7 h
     refine AP ?_
     exact Au _ h (sm [(2007, 2004), (2008, 2005), (2009, 2006)] _ _ rfl rfl)
   ·refine Am hs (Ab (Ab (Aa Ac rfl (qm rfl (qL A4 Ay rfl ?_)))))
    obtain ⟨v20, a20, h⟩ := bind_some h
    refine Et [] [2007, 2008, 2009] (K7 N p1 v1.1 v20 a20) YB CQ rfl (Cb rfl (Ae ?_))
    refine Ap rfl (fun c21 => ?_) (fun c21 => ?_)
    ·have h := Ao c21 h
     refine Ab (Aa Ac rfl (qa rfl (Ae ?_)))
     obtain rfl := sj h
     refine Am (sm [] [(4, .e (.one (.pure (.val (.bool false)))))] [] rfl rfl) (Az ?_)
     exact ⟨⟨[_], ⟨.tmp _ _ rfl, trivial⟩, rfl⟩, trivial⟩
    ·have h := An c21 h
     refine Aq (Ab (Ab (Aa Ac rfl (qm rfl (AU AZ rfl (qm rfl (Ae ?_)))))))
     refine AC (L := GA N p0 p1) h (fun v22 => mk [(1, .e (.one (.pure (.sl (p1.map Aj))))), (2, .e (.one (.ptr 2 0))), (82, .e (.one (.pure (.sl (p1.map Aj))))), (83, .e (.one (.pure (.val (.int .i64 ((p1.length : Int))))))), (84, .e (.one (.pure (.val (.int .i64 v22)))))] [(2, .box [.pure (.sl (p0.fVersions.map Al)), .pure (.sl (p0.fNow.map Al)), .pure (.sl (p0.fTarget.map Al)), .pure (.sl (p0.fTables.map Ar))])]) (fun v23 => mk [] []) (fun _ _ => rfl) (sm [] _ _ rfl rfl) (fun j22 n22 v22 h => ?_) (fun v23 s h hs => ?_)
     ·unfold GA at h
      refine Ab (Aa Ac rfl (AT rfl (Ae (Ab ?_))))
      refine Ap rfl (fun c24 => ?_) (fun c24 => ?_)
      ·have h := Ao c24 h
       refine Aq (Ab (AH (Ab (Aa Ac rfl ?_))))
       obtain ⟨v25, a25, b25, h⟩ := Ai h
       refine qi AZ Ay a25 (Ah b25) rfl (qK A4 Ay rfl (qz Dc rfl (qs Ay rfl (Ae (Ab (Aa Ac rfl (qL EH Ep rfl (qL A4 Ay rfl ?_))))))))
       obtain ⟨v26, a26, h⟩ := bind_some h
       refine AG [2016] (J8 N p0 v25 v26 a26) W0 rfl (qm rfl (qx rfl (qx rfl (qa rfl (qa rfl (Ae (Ab (Aa Ac rfl (qm rfl (FL FR rfl (qm rfl (Ae ?_))))))))))))
       refine AC (L := Gx N p0 p1 v25 v26) h (fun v27 => mk [(1, .e (.one (.pure (.sl (p1.map Aj))))), (2, .e (.one (.ptr 2 0))), (14, .e (.one (.ptr 14 0))), (82, .e (.one (.pure (.sl (p1.map Aj))))), (83, .e (.one (.pure (.val (.int .i64 ((p1.length : Int))))))), (84, .e (.one (.pure (.val (.int .i64 v22))))), (94, .e (.one (.own 2017))), (95, .e (.one (.pure (.val (.int .i64 ((v26.1.length : Int))))))), (96, .e (.one (.pure (.val (.int .i64 v27)))))] [(2, .box [.pure (.sl (p0.fVersions.map Al)), .pure (.sl (p0.fNow.map Al)), .pure (.sl (p0.fTarget.map Al)), .pure (.sl (p0.fTables.map Ar))]), (14, .box [.pure (.sl (v25.fBase.map Al)), .pure (.sl (v25.fNext.map Al)), .pure (.sl (v25.fHeld.map Bg))]), (2017, .vec 3 (v26.1.map A0))]) (fun v28 => mk [(1, .e (.one (.pure (.sl (p1.map Aj))))), (2, .e (.one (.ptr 2 0))), (82, .e (.one (.pure (.sl (p1.map Aj))))), (83, .e (.one (.pure (.val (.int .i64 ((p1.length : Int))))))), (84, .e (.one (.pure (.val (.int .i64 v22)))))] [(2, .box [.pure (.sl (p0.fVersions.map Al)), .pure (.sl (p0.fNow.map Al)), .pure (.sl (p0.fTarget.map Al)), .pure (.sl (p0.fTables.map Ar))])]) (fun _ _ => rfl) (sm [(2017, 2016)] _ _ rfl rfl) (fun j27 n27 v27 h => ?_) (fun v28 s h hs => ?_)
       ·unfold Gx at h
        refine Ab (Aa Ac rfl (AT rfl (Ae (Ab ?_))))
        refine Ap rfl (fun c29 => ?_) (fun c29 => ?_)
        ·have h := Ao c29 h
         refine Aq (Ab (AH (Ab (Aa Ac rfl ?_))))
         obtain ⟨v30, a30, b30, h⟩ := Ai h
         refine qI FR Ft a30 (Ah b30) rfl (qJ I2 Ft (Ah b30) rfl (qz Kx rfl (qs Ft rfl (Ae (Ab (Aa Ac rfl (qL EH Ep rfl (qL A4 Ay rfl (qL I2 Ft rfl ?_)))))))))
         obtain ⟨v31, a31, h⟩ := bind_some h
         refine AG [2018, 2019, 2020] (K1 N p0 v25 v30 v31 a31) W6 rfl (qm rfl (qx rfl (qx rfl (qz Dc rfl (qs Ay rfl (qa rfl (Ae (Ab (Aa Ac rfl (qL EH Ep rfl (qL A4 Ay rfl ?_)))))))))))
         obtain ⟨v32, a32, h⟩ := bind_some h
         refine Et [] [2018, 2019, 2020] (II N p0 v31.1 v32 a32) T8 CQ rfl (qm rfl (qx rfl (qx rfl (qa rfl (qa rfl (Ae ?_))))))
         refine AM h (fun v33 => mk [(1, .e (.one (.pure (.sl (p1.map Aj))))), (2, .e (.one (.ptr 2 0))), (14, .e (.one (.ptr 14 0))), (82, .e (.one (.pure (.sl (p1.map Aj))))), (83, .e (.one (.pure (.val (.int .i64 ((p1.length : Int))))))), (84, .e (.one (.pure (.val (.int .i64 v22))))), (94, .e (.one (.own 2021))), (95, .e (.one (.pure (.val (.int .i64 ((v26.1.length : Int))))))), (96, .e (.one (.pure (.val (.int .i64 v27))))), (119, .e (.one (.pure (.val (.bool v33)))))] [(2, .box [.pure (.sl (p0.fVersions.map Al)), .pure (.sl (p0.fNow.map Al)), .pure (.sl (p0.fTarget.map Al)), .pure (.sl (p0.fTables.map Ar))]), (14, .box [.pure (.sl (v25.fBase.map Al)), .pure (.sl (v25.fNext.map Al)), .pure (.sl (v25.fHeld.map Bg))]), (2021, .vec 3 (v26.1.map A0))]) (fun j33 h => ?_) (fun v33 h => ?_)
         ·refine Aa Ac rfl (qm rfl (qm rfl ?_))
          refine AD (t := 114) rfl (fun c34 => ?_) (fun c34 => ?_)
          ·have h := Ao c34 h
           refine qm rfl (qL A4 Ay rfl ?_)
           obtain ⟨v35, a35, h⟩ := bind_some h
           refine Et [] [2018, 2019, 2020] (K7 N p1 v31.1 v35 a35) YB CQ rfl (Cb rfl (qp rfl (Ae ?_)))
           exact Au _ h (sm [(2021, 2017)] _ _ rfl rfl)
          ·have h := An c34 h
           refine qn rfl (qn rfl (qn rfl (qn rfl (qp rfl (Ae ?_)))))
           exact Au _ h (sm [(2021, 2017)] _ _ rfl rfl)
         ·refine Ap rfl (fun c36 => ?_) (fun c36 => ?_)
          ·have h := Ao c36 h
           refine Ab (Aa Ac rfl (qa rfl (Ae ?_)))
           obtain rfl := sj h
           refine Am (sm [] [(4, .e (.one (.pure (.val (.bool false)))))] [] rfl rfl) (Az ?_)
           exact ⟨⟨[_], ⟨.tmp _ _ rfl, trivial⟩, rfl⟩, trivial⟩
          ·have h := An c36 h
           refine Aq (Aa Ac rfl (AN rfl (qm rfl (Ae ?_))))
           exact Au _ h (sm [(2017, 2021)] _ _ rfl rfl)
        ·have h := An c29 h
         refine AP ?_
         exact Au _ h (sm [] _ _ rfl rfl)
       ·refine Am hs (Aa Ac rfl (AN rfl (qm rfl (Ae ?_))))
        exact Au _ h (sm [] _ _ rfl rfl)
      ·have h := An c24 h
       refine AP ?_
       exact Au _ h (sm [] _ _ rfl rfl)
     ·refine Am hs (Ab (Aa Ac rfl (qa rfl (Ae ?_))))
      obtain rfl := sj h
      refine Am (sm [] [(4, .e (.one (.pure (.val (.bool true)))))] [] rfl rfl) (Az ?_)
      exact ⟨⟨[_], ⟨.tmp _ _ rfl, trivial⟩, rfl⟩, trivial⟩
set_option maxRecDepth 10000 in
theorem Ku (N : Nat) (p0 : List Af) (p1 : List Af) (r : Bool) (h : F9 N p0 p1 = some r) : AB Tryz.prog 24 [.e (.one (.pure (.sl (p0.map Ad)))), .e (.one (.pure (.sl (p1.map Ad))))] [] (.e (.one (.pure (.val (.bool r))))) := by
 unfold F9 at h
 refine As (n := 26) (rs := [.tmp 4]) Tryz.func24 rfl rfl rfl (A3 rfl) (A3 rfl) rfl fun w0 S0 => ?_
 refine Ab (Aa Ac rfl (qa rfl (Ae (Ab (Ab (Aa Ac rfl (qm rfl (AU Bb rfl (qm rfl (AU Bb rfl (Ct rfl (Ae ?_))))))))))))
 refine Ap rfl (fun c1 => ?_) (fun c1 => ?_)
 ·have h := Ao c1 h
  refine Ab (Aa Ac rfl (qa rfl (Ae ?_)))
  obtain rfl := sj h
  refine Am (sm [] [(4, .e (.one (.pure (.val (.bool false)))))] [] rfl rfl) (Az ?_)
  exact ⟨⟨[_], ⟨.tmp _ _ rfl, trivial⟩, rfl⟩, trivial⟩
 ·have h := An c1 h
  refine Aq (Ab (Ab (Aa Ac rfl (qa rfl (Ae ?_)))))
  refine AC (L := EF N p0 p1) h (fun v2 => mk [(0, .e (.one (.pure (.sl (p0.map Ad))))), (1, .e (.one (.pure (.sl (p1.map Ad))))), (5, .e (.one (.pure (.val (.int .i64 v2)))))] []) (fun v3 => mk [] []) (fun _ _ => rfl) (sm [] _ _ rfl rfl) (fun j2 n2 v2 h => ?_) (fun v3 s h hs => ?_)
  ·unfold EF at h
   refine Ab (Ab (Aa Ac rfl (qm rfl (qm rfl (AU Bb rfl (AT rfl (Ae ?_)))))))
   refine Ap rfl (fun c4 => ?_) (fun c4 => ?_)
   ·have h := Ao c4 h
    refine Aq (Ab (AH (Ab (Aa Ac rfl (qm rfl (qm rfl ?_))))))
    obtain ⟨v5, a5, b5, h⟩ := Ai h
    refine qi Bb AS a5 (Ah b5) rfl (qK Dz AS rfl (qm rfl (qm rfl ?_)))
    obtain ⟨v6, a6, b6, h⟩ := Ai h
    refine qi Bb AS a6 (Ah b6) rfl (qK Dz AS rfl ?_)
    refine SO [.int .i64 v5.fTable, .int .i64 v5.fWriter, .int .i64 v5.fReader] [.int .i64 v6.fTable, .int .i64 v6.fWriter, .int .i64 v6.fReader] (.p rfl) rfl rfl QK rfl ?_
    refine AA (by kernel_rfl) ?_
    refine Ap rfl (fun c7 => ?_) (fun c7 => ?_)
    ·have h := Ao c7 h
     refine Ab (Aa Ac rfl (qa rfl (Ae ?_)))
     obtain rfl := sj h
     refine Am (sm [] [(4, .e (.one (.pure (.val (.bool false)))))] [] rfl rfl) (Az ?_)
     exact ⟨⟨[_], ⟨.tmp _ _ rfl, trivial⟩, rfl⟩, trivial⟩
    ·have h := An c7 h
     refine Aq (Aa Ac rfl (qm rfl (AN rfl (qa rfl (Ae ?_)))))
     exact Au _ h (sm [] _ _ rfl rfl)
   ·have h := An c4 h
    refine AP ?_
    exact Au _ h (sm [] _ _ rfl rfl)
  ·refine Am hs (Ab (Aa Ac rfl (qa rfl (Ae ?_))))
   obtain rfl := sj h
   refine Am (sm [] [(4, .e (.one (.pure (.val (.bool true)))))] [] rfl rfl) (Az ?_)
   exact ⟨⟨[_], ⟨.tmp _ _ rfl, trivial⟩, rfl⟩, trivial⟩
end Go.Lift

/- That the code does what the shallow programs do, function by function. Written by a program (gen.py). -/
namespace Go.Lift
open Go.RowKit
open Go.Proofs
set_option maxRecDepth 10000 in
theorem Js (N : Nat) (r : Bool) (h : Fp N = some r) : AB Tryz.prog 11 [] [] (.e (.one (.pure (.val (.bool r))))) := by
 unfold Fp at h
 refine As (n := 123) (rs := [.tmp 0]) Tryz.func11 rfl rfl rfl (A3 rfl) (A3 rfl) rfl fun w0 S0 => ?_
 refine Ab (Aa Ac rfl (qa rfl (Ae (Ab (Aa Ac rfl (EU AJ Ec Lb rfl (EU AJ Ec Lb rfl (EU D0 GJ Oe rfl (Bq Dc HS rfl (qz Dc rfl (qs Ay rfl (Ae (Ab (Aa Ac rfl (EU AJ Ec Lb rfl (EU AJ Ec Lb rfl (EU D0 GJ Oe rfl (Bq Dc HS rfl (qz Dc rfl (qs Ay rfl (Ae (Ab (Aa Ac rfl ?_)))))))))))))))))))))))
 obtain ⟨v1, a1, h⟩ := bind_some h
 refine AG [2001, 2002, 2003, 2004] (DR N v1 a1) Sk rfl (Ev (Bm 2001 _ _ rfl rfl) (Ev (Bm 2002 _ _ rfl rfl) (Ev (Bm 2003 _ _ rfl rfl) (Ev (Bm 2004 _ _ rfl rfl) ?_))))
 obtain ⟨v2, a2, h⟩ := bind_some h
 refine AG [2005] (OC N v1 v2 a2) YZ rfl (qm rfl (qx rfl (qx rfl (qa rfl (qa rfl (Ae (Ab (Aa Ac rfl ?_))))))))
 obtain ⟨v3, a3, h⟩ := bind_some h
 refine AG [2006, 2007, 2008, 2009] (DR N v3 a3) Sk rfl (qm rfl (Ev (Bm 2006 _ _ rfl rfl) (Ev (Bm 2007 _ _ rfl rfl) (Ev (Bm 2008 _ _ rfl rfl) (Ev (Bm 2009 _ _ rfl rfl) (Ev (Bm 2005 _ _ rfl rfl) ?_))))))
 obtain ⟨v4, a4, h⟩ := bind_some h
 refine AG [2010] (K9 N v3 v2.1 v4 a4) Xt rfl (qm rfl (qx rfl (qx rfl (qa rfl (qa rfl (Ae (Ab (Aa Ac rfl ?_))))))))
 obtain ⟨v5, a5, h⟩ := bind_some h
 refine AG [2011, 2012, 2013, 2014] (DR N v5 a5) Sk rfl (qm rfl ?_)
 obtain ⟨v6, a6, h⟩ := bind_some h
 refine Et [2015] [2011, 2012, 2013, 2014] (Nm N v5 v2.1 v6 a6) Zf (Hw (fun _ => rfl) CQ) rfl (qm rfl (qx rfl (qx rfl (qa rfl (qa rfl (Ae (Ab (Aa Ac rfl ?_))))))))
 obtain ⟨v7, a7, h⟩ := bind_some h
 refine AG [2016, 2017, 2018, 2019] (DR N v7 a7) Sk rfl (qm rfl ?_)
 obtain ⟨v8, a8, h⟩ := bind_some h
 refine Et [2020, 2021, 2022] [2016, 2017, 2018, 2019] (Ny N v7 v2.1 v8 a8) Zj (Hw (fun _ => rfl) (Hw (fun _ => rfl) (Hw (fun _ => rfl) CQ))) rfl (qm rfl (qx rfl (qx rfl (qx rfl (qz Dc rfl (qa rfl (qs Ay rfl (qa rfl (Ae (Ab (Aa Ac rfl (Bq IV Qj rfl (qz IV rfl (qs AS rfl (Ae ?_)))))))))))))))
 refine AM h (fun v9 => mk [(1, .e (.one (.ptr 1 0))), (2, .e (.one (.ptr 2 0))), (3, .e (.one (.pure (.sl (v2.1.map Aj))))), (5, .e (.one (.own 2032))), (7, .e (.one (.own 2033))), (9, .e (.one (.pure (.val (.int .i64 v8.1))))), (10, .e (.one (.ptr 10 0))), (12, .e (.one (.ptr 12 0))), (13, .e (.one (.pure (.val (.bool v9)))))] [(1, .box [.own 2023, .own 2024, .own 2025]), (2, .box [.own 2026, .own 2027, .own 2028]), (10, .box [.own 2029, .own 2030, .own 2031]), (12, .box [.pure (.val (.int .i64 0)), .pure (.val (.int .i64 1)), .pure (.val (.int .i64 0))]), (2023, .vec 1 ((([0] : List Int)).map Al)), (2024, .vec 1 ((([(-1)] : List Int)).map Al)), (2025, .vec 1 ((([0] : List Int)).map Bg)), (2026, .vec 1 ((([1] : List Int)).map Al)), (2027, .vec 1 ((([(-1)] : List Int)).map Al)), (2028, .vec 1 ((([0] : List Int)).map Bg)), (2029, .vec 1 (v8.2.1.fBase.map Al)), (2030, .vec 1 (v8.2.1.fNext.map Al)), (2031, .vec 1 (v8.2.1.fHeld.map Bg)), (2032, .vec 9 (v4.1.map BA)), (2033, .vec 3 (v6.1.map Ad))]) (fun j9 h => ?_) (fun v9 h => ?_)
 ·refine Aa Ac rfl (qm rfl (BX rfl (qm rfl ?_)))
  refine AD (t := 49) rfl (fun c10 => ?_) (fun c10 => ?_)
  ·have h := Ao c10 h
   refine qm rfl (BX rfl (qp rfl (qm rfl ?_)))
   refine AD (t := 53) rfl (fun c11 => ?_) (fun c11 => ?_)
   ·have h := Ao c11 h
    refine qm rfl (BX rfl (qp rfl (qm rfl ?_)))
    refine AD (t := 57) rfl (fun c12 => ?_) (fun c12 => ?_)
    ·have h := Ao c12 h
     refine qm rfl (BX rfl (qp rfl (qa rfl (Ae ?_))))
     exact Au _ h (sm [(2023, 14), (2024, 15), (2025, 16), (2026, 18), (2027, 19), (2028, 20), (2029, 2020), (2030, 2021), (2031, 2022), (2032, 2010), (2033, 2015)] _ _ rfl rfl)
    ·have h := An c12 h
     refine qn rfl (qn rfl (qp rfl (qa rfl (Ae ?_))))
     exact Au _ h (sm [(2023, 14), (2024, 15), (2025, 16), (2026, 18), (2027, 19), (2028, 20), (2029, 2020), (2030, 2021), (2031, 2022), (2032, 2010), (2033, 2015)] _ _ rfl rfl)
   ·have h := An c11 h
    refine qn rfl (qn rfl (qp rfl (qm rfl (qn rfl (qn rfl (qp rfl (qa rfl (Ae ?_))))))))
    exact Au _ h (sm [(2023, 14), (2024, 15), (2025, 16), (2026, 18), (2027, 19), (2028, 20), (2029, 2020), (2030, 2021), (2031, 2022), (2032, 2010), (2033, 2015)] _ _ rfl rfl)
  ·have h := An c10 h
   refine qn rfl (qn rfl (qp rfl (qm rfl (qn rfl (qn rfl (qp rfl (qm rfl (qn rfl (qn rfl (qp rfl (qa rfl (Ae ?_))))))))))))
   exact Au _ h (sm [(2023, 14), (2024, 15), (2025, 16), (2026, 18), (2027, 19), (2028, 20), (2029, 2020), (2030, 2021), (2031, 2022), (2032, 2010), (2033, 2015)] _ _ rfl rfl)
 ·refine AM h (fun v13 => mk [(1, .e (.one (.ptr 1 0))), (5, .e (.one (.own 2037))), (7, .e (.one (.own 2038))), (9, .e (.one (.pure (.val (.int .i64 v8.1))))), (10, .e (.one (.ptr 10 0))), (12, .e (.one (.ptr 12 0))), (13, .e (.one (.pure (.val (.bool v13)))))] [(1, .box [.pure (.sl ((([0] : List Int)).map Al)), .pure (.sl ((([(-1)] : List Int)).map Al)), .pure (.sl ((([0] : List Int)).map Bg))]), (10, .box [.own 2034, .own 2035, .own 2036]), (12, .box [.pure (.val (.int .i64 0)), .pure (.val (.int .i64 1)), .pure (.val (.int .i64 0))]), (2034, .vec 1 (v8.2.1.fBase.map Al)), (2035, .vec 1 (v8.2.1.fNext.map Al)), (2036, .vec 1 (v8.2.1.fHeld.map Bg)), (2037, .vec 9 (v4.1.map BA)), (2038, .vec 3 (v6.1.map Ad))]) (fun j13 h => ?_) (fun v13 h => ?_)
  ·refine Am (Bm 2023 _ _ rfl rfl) (Am (Bm 2024 _ _ rfl rfl) (Am (Bm 2025 _ _ rfl rfl) (Am (Bm 2026 _ _ rfl rfl) (Am (Bm 2027 _ _ rfl rfl) (Am (Bm 2028 _ _ rfl rfl) (Aa Ac rfl (qm rfl (qm rfl ?_))))))))
   refine AD (t := 62) rfl (fun c14 => ?_) (fun c14 => ?_)
   ·have h := Ao c14 h
    refine qm rfl (qL A4 Ay rfl (EU AZ Ay Dc rfl ?_))
    obtain ⟨v15, a15, h⟩ := bind_some h
    refine Et [] [65] (Mh N v2.1 (([(Ag.mk (([0] : List Int)) (([(-1)] : List Int)) (([0] : List Int)))] : List Ag)) v15 a15) Ze CQ rfl (qp rfl (qm rfl ?_))
    refine AD (t := 68) rfl (fun c16 => ?_) (fun c16 => ?_)
    ·have h := Ao c16 h
     obtain ⟨v17, a17, h⟩ := bind_some h
     refine AG [2039, 2040, 2041, 2042] (DR N v17 a17) Sk rfl (qm rfl ?_)
     obtain ⟨v18, a18, h⟩ := bind_some h
     refine Et [] [2039, 2040, 2041, 2042] (JL N v17 v2.1 v18 a18) WX CQ rfl (qp rfl (qm rfl ?_))
     refine AD (t := 73) rfl (fun c19 => ?_) (fun c19 => ?_)
     ·have h := Ao c19 h
      obtain ⟨v20, a20, h⟩ := bind_some h
      refine AG [2043, 2044, 2045, 2046] (DR N v20 a20) Sk rfl ?_
      obtain ⟨v21, a21, h⟩ := bind_some h
      refine Et [] [2043, 2044, 2045, 2046] (JL N v20 (([] : List Ag)) v21 a21) WX CQ rfl (Cb rfl (qp rfl (qm rfl ?_)))
      refine AD (t := 78) rfl (fun c22 => ?_) (fun c22 => ?_)
      ·have h := Ao c22 h
       obtain ⟨v23, a23, h⟩ := bind_some h
       refine AG [2047, 2048, 2049, 2050] (DR N v23 a23) Sk rfl (qL A4 Ay rfl (qL A4 Ay rfl (EU AZ Ay Dc rfl ?_)))
       obtain ⟨v24, a24, h⟩ := bind_some h
       refine Et [] [2047, 2048, 2049, 2050, 82] (JL N v23 (([(Ag.mk (([0] : List Int)) (([(-1)] : List Int)) (([0] : List Int))), (Ag.mk (([1] : List Int)) (([(-1)] : List Int)) (([0] : List Int)))] : List Ag)) v24 a24) WX CQ rfl (Cb rfl (qp rfl (qa rfl (AA (by kernel_rfl) ?_))))
       exact Au _ h (sm [(2034, 2029), (2035, 2030), (2036, 2031), (2037, 2032), (2038, 2033)] _ _ rfl rfl)
      ·have h := An c22 h
       refine qn rfl (qn rfl (qn rfl (qn rfl (qn rfl (qn rfl (qp rfl (qa rfl (AA (by kernel_rfl) ?_))))))))
       exact Au _ h (sm [(2034, 2029), (2035, 2030), (2036, 2031), (2037, 2032), (2038, 2033)] _ _ rfl rfl)
     ·have h := An c19 h
      refine qn rfl (qn rfl (qn rfl (qp rfl (qm rfl (qn rfl (qn rfl (qn rfl (qn rfl (qn rfl (qn rfl (qp rfl (qa rfl (AA (by kernel_rfl) ?_)))))))))))))
      exact Au _ h (sm [(2034, 2029), (2035, 2030), (2036, 2031), (2037, 2032), (2038, 2033)] _ _ rfl rfl)
    ·have h := An c16 h
     refine qn rfl (qn rfl (qn rfl (qp rfl (qm rfl (qn rfl (qn rfl (qn rfl (qp rfl (qm rfl (qn rfl (qn rfl (qn rfl (qn rfl (qn rfl (qn rfl (qp rfl (qa rfl (AA (by kernel_rfl) ?_))))))))))))))))))
     exact Au _ h (sm [(2034, 2029), (2035, 2030), (2036, 2031), (2037, 2032), (2038, 2033)] _ _ rfl rfl)
   ·have h := An c14 h
    refine qn rfl (qn rfl (qn rfl (qn rfl (qp rfl (qm rfl (qn rfl (qn rfl (qn rfl (qp rfl (qm rfl (qn rfl (qn rfl (qn rfl (qp rfl (qm rfl (qn rfl (qn rfl (qn rfl (qn rfl (qn rfl (qn rfl (qp rfl (qa rfl (AA (by kernel_rfl) ?_))))))))))))))))))))))))
    exact Au _ h (sm [(2034, 2029), (2035, 2030), (2036, 2031), (2037, 2032), (2038, 2033)] _ _ rfl rfl)
  ·refine AM h (fun v25 => mk [(0, .e (.one (.pure (.val (.bool v25)))))] []) (fun j25 h => ?_) (fun v25 h => ?_)
   ·refine Aa Ac rfl (qm rfl (qm rfl ?_))
    refine AD (t := 87) rfl (fun c26 => ?_) (fun c26 => ?_)
    ·have h := Ao c26 h
     refine qm rfl (FL Hd rfl (BX rfl (qp rfl (qm rfl ?_))))
     refine AD (t := 92) rfl (fun c27 => ?_) (fun c27 => ?_)
     ·have h := Ao c27 h
      refine qm rfl ?_
      obtain ⟨v28, a28, b28, h⟩ := Ai h
      refine qI Hd Lp a28 (Ah b28) rfl (qh Qc rfl ?_)
      refine QX (.g rfl rfl) rfl I2 Ft rfl (Ah b28) rfl rfl (by decide) ?_
      refine Bq Kx T5 rfl ?_
      refine TZ [.int .i64 v28.fStep.fKind, .int .i64 v28.fStep.fIndex, .int .i64 v28.fStep.fVersion] [.int .i64 1, .int .i64 0, .int .i64 1] (.g rfl rfl) rfl rfl Wr rfl ?_
      refine qp rfl (qm rfl ?_)
      refine AD (t := 100) rfl (fun c29 => ?_) (fun c29 => ?_)
      ·have h := Ao c29 h
       refine qm rfl ?_
       obtain ⟨v30, a30, b30, h⟩ := Ai h
       refine qI Hd Lp a30 (Ah b30) rfl (qh Ob rfl ?_)
       refine QX (.g rfl rfl) rfl Dz AS rfl (Ah b30) rfl rfl (by decide) ?_
       refine qL Dz AS rfl ?_
       refine TZ [.int .i64 v30.fConflict.fTable, .int .i64 v30.fConflict.fWriter, .int .i64 v30.fConflict.fReader] [.int .i64 0, .int .i64 1, .int .i64 0] (.g rfl rfl) rfl rfl QK rfl ?_
       refine qp rfl (qm rfl ?_)
       refine AD (t := 108) rfl (fun c31 => ?_) (fun c31 => ?_)
       ·have h := Ao c31 h
        refine qm rfl (qL Dz AS rfl (EU Bb AS IV rfl ?_))
        obtain ⟨v32, a32, h⟩ := bind_some h
        refine Et [] [2038, 111] (Ku N v6.1 (([(Af.mk 0 1 0)] : List Af)) v32 a32) ZD CQ rfl (qp rfl (qm rfl ?_))
        refine AD (t := 114) rfl (fun c33 => ?_) (fun c33 => ?_)
        ·have h := Ao c33 h
         refine qm rfl (BX rfl (qp rfl (qm rfl ?_)))
         refine AD (t := 118) rfl (fun c34 => ?_) (fun c34 => ?_)
         ·have h := Ao c34 h
          refine qL A4 Ay rfl (qL A4 Ay rfl ?_)
          obtain ⟨v35, a35, h⟩ := bind_some h
          refine Et [] [2034, 2035, 2036] (HN N v8.2.1 ((Ag.mk (([0] : List Int)) (([(-1)] : List Int)) (([0] : List Int)))) v35 a35) W9 CQ rfl (qp rfl (qa rfl (AA (by kernel_rfl) ?_)))
          exact Au _ h (sm [] _ _ rfl rfl)
         ·have h := An c34 h
          refine qn rfl (qn rfl (qn rfl (qp rfl (qa rfl (AA (by kernel_rfl) ?_)))))
          exact Au _ h (sm [] _ _ rfl rfl)
        ·have h := An c33 h
         refine qn rfl (qn rfl (qp rfl (qm rfl (qn rfl (qn rfl (qn rfl (qp rfl (qa rfl (AA (by kernel_rfl) ?_)))))))))
         exact Au _ h (sm [] _ _ rfl rfl)
       ·have h := An c31 h
        refine qn rfl (qn rfl (qn rfl (qn rfl (qp rfl (qm rfl (qn rfl (qn rfl (qp rfl (qm rfl (qn rfl (qn rfl (qn rfl (qp rfl (qa rfl (AA (by kernel_rfl) ?_)))))))))))))))
        exact Au _ h (sm [] _ _ rfl rfl)
      ·have h := An c29 h
       refine qn rfl (qn rfl (qn rfl (qn rfl (qn rfl (qn rfl (qp rfl (qm rfl (qn rfl (qn rfl (qn rfl (qn rfl (qp rfl (qm rfl (qn rfl (qn rfl (qp rfl (qm rfl (qn rfl (qn rfl (qn rfl (qp rfl (qa rfl (AA (by kernel_rfl) ?_)))))))))))))))))))))))
       exact Au _ h (sm [] _ _ rfl rfl)
     ·have h := An c27 h
      refine qn rfl (qn rfl (qn rfl (qn rfl (qn rfl (qn rfl (qp rfl (qm rfl (qn rfl (qn rfl (qn rfl (qn rfl (qn rfl (qn rfl (qp rfl (qm rfl (qn rfl (qn rfl (qn rfl (qn rfl (qp rfl (qm rfl (qn rfl (qn rfl (qp rfl (qm rfl (qn rfl (qn rfl (qn rfl (qp rfl (qa rfl (AA (by kernel_rfl) ?_)))))))))))))))))))))))))))))))
      exact Au _ h (sm [] _ _ rfl rfl)
    ·have h := An c26 h
     refine qn rfl (qn rfl (qn rfl (qp rfl (qm rfl (qn rfl (qn rfl (qn rfl (qn rfl (qn rfl (qn rfl (qp rfl (qm rfl (qn rfl (qn rfl (qn rfl (qn rfl (qn rfl (qn rfl (qp rfl (qm rfl (qn rfl (qn rfl (qn rfl (qn rfl (qp rfl (qm rfl (qn rfl (qn rfl (qp rfl (qm rfl (qn rfl (qn rfl (qn rfl (qp rfl (qa rfl (AA (by kernel_rfl) ?_))))))))))))))))))))))))))))))))))))
     exact Au _ h (sm [] _ _ rfl rfl)
   ·obtain rfl := sj h
    refine Am (sm [] [(0, .e (.one (.pure (.val (.bool v25)))))] [] rfl rfl) (Az ?_)
    exact ⟨⟨[_], ⟨.tmp _ _ rfl, trivial⟩, rfl⟩, trivial⟩
set_option maxRecDepth 10000 in
theorem Ig (N : Nat) (p0 : List Int) (p1 : Int) (r : Int) (h : Er N p0 p1 = some r) : AB Tryz.prog 53 [.e (.one (.pure (.sl (p0.map Bg)))), .e (.one (.pure (.val (.int .i64 p1))))] [] (.e (.one (.pure (.val (.int .i64 r))))) := by
 unfold Er at h
 refine As (n := 14) (rs := [.tmp 4]) Tryz.func53 rfl rfl rfl (A3 rfl) (A3 rfl) rfl fun w0 S0 => ?_
 refine Ab (Aa Ac rfl (qa rfl (Ae (Ab (Ab (Aa Ac rfl (qm rfl (qm rfl (AU KK rfl (AT rfl (Ae ?_)))))))))))
 refine Ap rfl (fun c1 => ?_) (fun c1 => ?_)
 ·have h := Ao c1 h
  refine Ab (Aa Ac rfl (qm rfl (qm rfl ?_)))
  obtain ⟨v2, a2, b2, h⟩ := Ai h
  refine qi KK W1 a2 (Ah b2) rfl (qk Xi rfl (Hj Vg SI rfl (qa rfl (Ae ?_))))
  obtain rfl := sj h
  refine Am (sm [] [(4, .e (.one (.pure (.val (.int .i64 ((IntKind.wrap .i64 v2)))))))] [] rfl rfl) (Az ?_)
  exact ⟨⟨[_], ⟨.tmp _ _ rfl, trivial⟩, rfl⟩, trivial⟩
 ·have h := An c1 h
  refine Aq (Ab (Aa Ac rfl (qa rfl (Ae ?_))))
  obtain rfl := sj h
  refine Am (sm [] [(4, .e (.one (.pure (.val (.int .i64 0)))))] [] rfl rfl) (Az ?_)
  exact ⟨⟨[_], ⟨.tmp _ _ rfl, trivial⟩, rfl⟩, trivial⟩
set_option maxRecDepth 10000 in
theorem Ex (N : Nat) (p0 : Ag) (p1 : Int) (r : Int) (h : B4 N p0 p1 = some r) : AB Tryz.prog 54 [.e (.agg [.pure (.sl (p0.fBase.map Al)), .pure (.sl (p0.fNext.map Al)), .pure (.sl (p0.fHeld.map Bg))]), .e (.one (.pure (.val (.int .i64 p1))))] [] (.e (.one (.pure (.val (.int .u8 r))))) := by
 unfold B4 at h
 refine As (n := 27) (rs := [.tmp 4]) Tryz.func54 rfl rfl rfl (A3 rfl) (A3 rfl) rfl fun w0 S0 => ?_
 refine Ab (Aa Ac rfl (qb rfl (qa rfl (Ae (Ab (Aa Ac rfl (qf Dx rfl (ql Bo rfl (qm rfl ?_)))))))))
 obtain ⟨v1, a1, b1, h⟩ := Ai h
 refine qi AJ Ec a1 (Ah b1) rfl (qk CN rfl ?_)
 obtain ⟨c2, h⟩ := AQ h
 refine I9 rfl c2 (qa rfl (Ae ?_))
 refine AM h (fun v3 => mk [(5, .e (.one (.pure (.val (.int .u8 v3)))))] []) (fun j3 h => ?_) (fun v3 h => ?_)
 ·refine Ab (Aa Ac rfl (qf BK rfl (ql Bo rfl (qm rfl ?_))))
  obtain ⟨v4, a4, b4, h⟩ := Ai h
  refine qi AJ Ec a4 (Ah b4) rfl (qk CN rfl (Db rfl (Ae ?_)))
  refine Ap rfl (fun c5 => ?_) (fun c5 => ?_)
  ·have h := Ao c5 h
   refine Aa Ac rfl (qm rfl (qf BK rfl (ql Bo rfl (qm rfl ?_))))
   obtain ⟨v6, a6, b6, h⟩ := Ai h
   refine qi AJ Ec a6 (Ah b6) rfl (qk CN rfl ?_)
   obtain ⟨c7, h⟩ := AQ h
   refine I9 rfl c7 (Tq rfl (qa rfl (Ae ?_)))
   exact Au _ h (sm [] _ _ rfl rfl)
  ·have h := An c5 h
   refine Aq ?_
   exact Au _ h (sm [] _ _ rfl rfl)
 ·refine Ab (Aa Ac rfl (qm rfl (qa rfl (Ae ?_))))
  obtain rfl := sj h
  refine Am (sm [] [(4, .e (.one (.pure (.val (.int .u8 v3)))))] [] rfl rfl) (Az ?_)
  exact ⟨⟨[_], ⟨.tmp _ _ rfl, trivial⟩, rfl⟩, trivial⟩
set_option maxRecDepth 10000 in
theorem Ns (N : Nat) (p0 : Ak) (p1 : Ce) (r : Ag) (h : FC N p0 p1 = some r) : AB Tryz.prog 17 [.e (.agg [.pure (.sl (p0.fVersions.map Al)), .pure (.sl (p0.fNow.map Al)), .pure (.sl (p0.fTarget.map Al)), .pure (.sl (p0.fTables.map Ar))]), .e (.agg [.pure (.sl (p1.fBase.map Bg)), .pure (.sl (p1.fNext.map Bg)), .pure (.sl (p1.fHeld.map Bg))])] [(1, r.fBase.map Al), (1, r.fNext.map Al), (1, r.fHeld.map Bg)] (.e (.agg [.own 0, .own 1, .own 2])) := by
 unfold FC at h
 refine As (n := 99) (rs := [.cell 4 46]) Tryz.func17 rfl rfl rfl (A3 rfl) (A3 rfl) rfl fun w0 S0 => ?_
 refine Ab (Aa Ac rfl (qb rfl (qb rfl (qz Dc rfl (Ae (Ab (Aa Ac rfl (qz Dc rfl (Ae (Ab (Ab (Aa Ac rfl (qa rfl (Ae ?_))))))))))))))
 refine AC (L := DF N p0 p1) h (fun v1 => mk [(2, .e (.one (.ptr 2 0))), (3, .e (.one (.ptr 3 0))), (4, .e (.one (.ptr 4 0))), (5, .e (.one (.ptr 5 0))), (6, .e (.one (.pure (.val (.int .i64 v1.2.2)))))] [(2, .box [.pure (.sl (p0.fVersions.map Al)), .pure (.sl (p0.fNow.map Al)), .pure (.sl (p0.fTarget.map Al)), .pure (.sl (p0.fTables.map Ar))]), (3, .box [.pure (.sl (p1.fBase.map Bg)), .pure (.sl (p1.fNext.map Bg)), .pure (.sl (p1.fHeld.map Bg))]), (4, .box [.pure (.nil0), .pure (.nil0), .pure (.nil0)]), (5, .box [.own 2001, .own 2002, .pure (.nil0)]), (2001, .vec 1 (v1.1.map Al)), (2002, .vec 1 (v1.2.1.map Al))]) (fun v2 => mk [(2, .e (.one (.ptr 2 0))), (3, .e (.one (.ptr 3 0))), (4, .e (.one (.ptr 4 0))), (5, .e (.one (.ptr 5 0)))] [(2, .box [.pure (.sl (p0.fVersions.map Al)), .pure (.sl (p0.fNow.map Al)), .pure (.sl (p0.fTarget.map Al)), .pure (.sl (p0.fTables.map Ar))]), (3, .box [.pure (.sl (p1.fBase.map Bg)), .pure (.sl (p1.fNext.map Bg)), .pure (.sl (p1.fHeld.map Bg))]), (4, .box [.pure (.nil0), .pure (.nil0), .pure (.nil0)]), (5, .box [.own 2003, .own 2004, .pure (.nil0)]), (2003, .vec 1 (v2.1.map Al)), (2004, .vec 1 (v2.2.map Al))]) (fun _ _ => rfl) ((AF 5 0 2007 1 _ rfl rfl rfl rfl).trans ((AF 5 1 2008 1 _ rfl rfl rfl rfl).trans (sm [(2001, 2007), (2002, 2008)] _ _ rfl rfl))) (fun j1 n1 v1 h => ?_) (fun v2 s h hs => ?_)
 ·unfold DF at h
  refine Ab (Ab (Aa Ac rfl (qm rfl (qf BF rfl (ql Bo rfl (AU AJ rfl (AT rfl (Ae ?_))))))))
  refine Ap rfl (fun c3 => ?_) (fun c3 => ?_)
  ·have h := Ao c3 h
   refine Aq (Ab (AH (Ab (Aa Ac rfl (qf BF rfl (ql Bo rfl (qm rfl ?_)))))))
   obtain ⟨v4, a4, b4, h⟩ := Ai h
   refine qi AJ Ec a4 (Ah b4) rfl (qk CN rfl (qa rfl (Ae (Ab (Aa Ac rfl (qf Vc rfl (ql QY rfl (qm rfl ?_))))))))
   obtain ⟨v5, a5, h⟩ := bind_some h
   refine AG [] (Ig N p1.fBase v1.2.2 v5 a5) WV rfl (qm rfl ?_)
   obtain ⟨c6, h⟩ := AQ h
   refine K6 rfl c6 (qa rfl (Ae (Ab (Aa Ac rfl (qa rfl (Ae ?_))))))
   refine AM h (fun v7 => mk [(2, .e (.one (.ptr 2 0))), (3, .e (.one (.ptr 3 0))), (4, .e (.one (.ptr 4 0))), (5, .e (.one (.ptr 5 0))), (6, .e (.one (.pure (.val (.int .i64 v1.2.2))))), (8, .e (.one (.pure (.val (.int .i64 ((Int.tmod v5 v4))))))), (9, .e (.one (.pure (.val (.int .i64 v7)))))] [(2, .box [.pure (.sl (p0.fVersions.map Al)), .pure (.sl (p0.fNow.map Al)), .pure (.sl (p0.fTarget.map Al)), .pure (.sl (p0.fTables.map Ar))]), (3, .box [.pure (.sl (p1.fBase.map Bg)), .pure (.sl (p1.fNext.map Bg)), .pure (.sl (p1.fHeld.map Bg))]), (4, .box [.pure (.nil0), .pure (.nil0), .pure (.nil0)]), (5, .box [.own 2005, .own 2006, .pure (.nil0)]), (2005, .vec 1 (v1.1.map Al)), (2006, .vec 1 (v1.2.1.map Al))]) (fun j7 h => ?_) (fun v7 h => ?_)
   ·refine Ab (Aa Ac rfl (qf VR rfl (ql QY rfl (qm rfl ?_))))
    obtain ⟨v8, a8, h⟩ := bind_some h
    refine AG [] (Ig N p1.fNext v1.2.2 v8 a8) WV rfl (qm rfl ?_)
    obtain ⟨c9, h⟩ := AQ h
    refine K6 rfl c9 (qa rfl (Ae (Ab (Aa Ac rfl (qm rfl (Fv rfl (Ae ?_)))))))
    refine Ap rfl (fun c10 => ?_) (fun c10 => ?_)
    ·have h := Ao c10 h
     refine Aa Ac rfl (qm rfl (qm rfl (AN rfl (qm rfl ?_))))
     obtain ⟨c11, h⟩ := AQ h
     refine K6 rfl c11 (qa rfl (Ae ?_))
     exact Au _ h (sm [(2005, 2001), (2006, 2002)] _ _ rfl rfl)
    ·have h := An c10 h
     refine Aq ?_
     exact Au _ h (sm [(2005, 2001), (2006, 2002)] _ _ rfl rfl)
   ·refine Ab (Aa Ac rfl (qf Dx rfl (ql Bo rfl (qm rfl (EU AJ Ec Lb rfl ?_)))))
    obtain ⟨c12, h⟩ := AQ h
    refine El (f := Al) AJ AJ Ec Nr Lb c12 rfl (qf Dx rfl (qs T3 rfl (Ae (Aa Ac rfl (qf BK rfl (ql Bo rfl (qm rfl (EU AJ Ec Lb rfl ?_))))))))
    obtain ⟨c13, h⟩ := AQ h
    refine El (f := Al) AJ AJ Ec Nr Lb c13 rfl (qf BK rfl (qs T3 rfl (Ae (Aa Ac rfl (qm rfl (AN rfl (qa rfl (Ae ?_))))))))
    exact Au _ h (sm [(2001, 50), (2002, 56)] _ _ rfl rfl)
  ·have h := An c3 h
   refine AP ?_
   exact Au _ h (sm [(2003, 2001), (2004, 2002)] _ _ rfl rfl)
 ·refine Am hs (Ab (Ab (Aa Ac rfl (qa rfl (Ae ?_)))))
  refine AC (L := BC N p0 p1 v2) h (fun v14 => mk [(2, .e (.one (.ptr 2 0))), (3, .e (.one (.ptr 3 0))), (4, .e (.one (.ptr 4 0))), (5, .e (.one (.ptr 5 0))), (11, .e (.one (.pure (.val (.int .i64 v14.2)))))] [(2, .box [.pure (.sl (p0.fVersions.map Al)), .pure (.sl (p0.fNow.map Al)), .pure (.sl (p0.fTarget.map Al)), .pure (.sl (p0.fTables.map Ar))]), (3, .box [.pure (.sl (p1.fBase.map Bg)), .pure (.sl (p1.fNext.map Bg)), .pure (.sl (p1.fHeld.map Bg))]), (4, .box [.pure (.nil0), .pure (.nil0), .pure (.nil0)]), (5, .box [.own 2009, .own 2010, .own 2011]), (2009, .vec 1 (v2.1.map Al)), (2010, .vec 1 (v2.2.map Al)), (2011, .vec 1 (v14.1.map Bg))]) (fun v15 => mk [(4, .e (.one (.ptr 4 0))), (5, .e (.one (.ptr 5 0)))] [(4, .box [.pure (.nil0), .pure (.nil0), .pure (.nil0)]), (5, .box [.own 2012, .own 2013, .own 2014]), (2012, .vec 1 (v2.1.map Al)), (2013, .vec 1 (v2.2.map Al)), (2014, .vec 1 (v15.map Bg))]) (fun _ _ => rfl) ((AF 5 2 2018 1 _ rfl rfl rfl rfl).trans (sm [(2009, 2003), (2010, 2004), (2011, 2018)] _ _ rfl rfl)) (fun j14 n14 v14 h => ?_) (fun v15 s h hs => ?_)
  ·unfold BC at h
   refine Ab (Ab (Aa Ac rfl (qm rfl (qf DS rfl (ql IM rfl (AU Fk rfl (AT rfl (Ae ?_))))))))
   refine Ap rfl (fun c16 => ?_) (fun c16 => ?_)
   ·have h := Ao c16 h
    refine Aq (Ab (AH (Ab (Aa Ac rfl (qf DS rfl (ql IM rfl (qm rfl ?_)))))))
    obtain ⟨v17, a17, b17, h⟩ := Ai h
    refine qi Fk Fe a17 (Ah b17) rfl (qK IN Fe rfl (qz LW rfl (qs Fe rfl (Ae (Ab (Aa Ac rfl (qa rfl (Ae ?_))))))))
    refine AM h (fun v18 => mk [(2, .e (.one (.ptr 2 0))), (3, .e (.one (.ptr 3 0))), (4, .e (.one (.ptr 4 0))), (5, .e (.one (.ptr 5 0))), (11, .e (.one (.pure (.val (.int .i64 v14.2))))), (13, .e (.one (.pure (.val (.int .u8 v18)))))] [(2, .box [.pure (.sl (p0.fVersions.map Al)), .pure (.sl (p0.fNow.map Al)), .pure (.sl (p0.fTarget.map Al)), .pure (.sl (p0.fTables.map Ar))]), (3, .box [.pure (.sl (p1.fBase.map Bg)), .pure (.sl (p1.fNext.map Bg)), .pure (.sl (p1.fHeld.map Bg))]), (4, .box [.pure (.nil0), .pure (.nil0), .pure (.nil0)]), (5, .box [.own 2015, .own 2016, .own 2017]), (2015, .vec 1 (v2.1.map Al)), (2016, .vec 1 (v2.2.map Al)), (2017, .vec 1 (v14.1.map Bg))]) (fun j18 h => ?_) (fun v18 h => ?_)
    ·refine Ab (Aa Ac rfl (qL IN Fe rfl ?_))
     obtain ⟨v19, a19, h⟩ := bind_some h
     refine AG [] (C1 N v17 v19 a19) PZ rfl (Ae ?_)
     refine Ap rfl (fun c20 => ?_) (fun c20 => ?_)
     ·have h := Ao c20 h
      refine Ab (Aa Ac rfl (qf BF rfl (ql Bo rfl (qf D3 rfl (ql CN rfl ?_)))))
      obtain ⟨v21, a21, b21, h⟩ := Ai h
      refine qi AJ Ec a21 (Ah b21) rfl (qk CN rfl ?_)
      obtain ⟨c22, h⟩ := AQ h
      refine I9 rfl c22 (Bj rfl (qa rfl (Ae (Aa Ac rfl (qL A4 Ay rfl (qf D3 rfl (ql CN rfl ?_)))))))
      obtain ⟨v23, a23, h⟩ := bind_some h
      refine Et [] [2009, 2010, 2011] (Ex N ((Ag.mk v2.1 v2.2 v14.1)) v17.fFrom v23 a23) To CQ rfl (qf VM rfl (ql QY rfl (qm rfl ?_)))
      obtain ⟨v24, a24, h⟩ := bind_some h
      refine AG [] (Ig N p1.fHeld v14.2 v24 a24) WV rfl (Hj TV Y3 rfl (qm rfl (LD rfl (Tq rfl (qa rfl (AA (by kernel_rfl) ?_))))))
      exact Au _ h (sm [(2015, 2009), (2016, 2010), (2017, 2011)] _ _ rfl rfl)
     ·have h := An c20 h
      refine Aq ?_
      exact Au _ h (sm [(2015, 2009), (2016, 2010), (2017, 2011)] _ _ rfl rfl)
    ·refine Aa Ac rfl (qf Dm rfl (ql HV rfl (qm rfl (EU D0 GJ Oe rfl ?_))))
     obtain ⟨c25, h⟩ := AQ h
     refine El (f := Bg) D0 D0 GJ Rp Oe c25 rfl (qf Dm rfl (qs YY rfl (Ae (Aa Ac rfl (qm rfl (AN rfl (qa rfl (Ae ?_))))))))
     exact Au _ h (sm [(2009, 2015), (2010, 2016), (2011, 96)] _ _ rfl rfl)
   ·have h := An c16 h
    refine AP ?_
    exact Au _ h (sm [(2012, 2009), (2013, 2010), (2014, 2011)] _ _ rfl rfl)
  ·refine Am hs (Ab (Aa Ac rfl (qL A4 Ay rfl (qs Ay rfl (Ae ?_)))))
   obtain rfl := sj h
   refine Am (sm [(1000, 2012), (1001, 2013), (1002, 2014)] [(4, .e (.one (.ptr 4 0)))] [(4, .box [.own 1000, .own 1001, .own 1002]), (1000, .vec 1 (v2.1.map Al)), (1001, .vec 1 (v2.2.map Al)), (1002, .vec 1 (v15.map Bg))] rfl rfl) (Az ?_)
   exact ⟨⟨[_], ⟨.cellN _ _ _ _ _ _ _ rfl rfl A4 Ay rfl rfl (Jw rfl), trivial⟩, rfl⟩, ⟨rfl, rfl, rfl, trivial⟩⟩
set_option maxRecDepth 10000 in
theorem Jd (N : Nat) (p0 : List (List Bool)) (p1 : Int) (p2 : Int) (r : Bool) (h : Ey N p0 p1 p2 = some r) : AB Tryz.prog 115 [.e (.one (.pure (.sl (p0.map (FZ eB))))), .e (.one (.pure (.val (.int .i64 p1)))), .e (.one (.pure (.val (.int .i64 p2))))] [] (.e (.one (.pure (.val (.bool r))))) := by
 unfold Ey at h
 refine As (n := 24) (rs := [.tmp 6]) Tryz.func115 rfl rfl rfl (A3 rfl) (A3 rfl) rfl fun w0 S0 => ?_
 refine Ab (Aa Ac rfl (qa rfl (Ae (Ab (Ab (Aa Ac rfl (qm rfl (AU HK rfl (qm rfl (Ct rfl (Ae ?_)))))))))))
 refine Ap rfl (fun c1 => ?_) (fun c1 => ?_)
 ·have h := Ao c1 h
  refine Ab (Aa Ac rfl (qa rfl (Ae ?_)))
  obtain rfl := sj h
  refine Am (sm [] [(6, .e (.one (.pure (.val (.bool false)))))] [] rfl rfl) (Az ?_)
  exact ⟨⟨[_], ⟨.tmp _ _ rfl, trivial⟩, rfl⟩, trivial⟩
 ·have h := An c1 h
  refine Aq (Ab (Ab (Aa Ac rfl (qa rfl (Ae ?_)))))
  refine AC (L := Df N p0 p1 p2) h (fun v2 => mk [(0, .e (.one (.pure (.sl (p0.map (FZ eB)))))), (1, .e (.one (.pure (.val (.int .i64 p1))))), (2, .e (.one (.pure (.val (.int .i64 p2))))), (7, .e (.one (.pure (.val (.int .i64 v2)))))] []) (fun v3 => mk [] []) (fun _ _ => rfl) (sm [] _ _ rfl rfl) (fun j2 n2 v2 h => ?_) (fun v3 s h hs => ?_)
  ·unfold Df at h
   refine Ab (Ab (Aa Ac rfl (qm rfl (qm rfl (AT rfl (Ae ?_))))))
   refine Ap rfl (fun c4 => ?_) (fun c4 => ?_)
   ·have h := Ao c4 h
    refine Aq (Ab (AH (Ab (Aa Ac rfl (qm rfl (qm rfl ?_))))))
    obtain ⟨v5, a5, b5, h⟩ := Ai h
    refine qi HK N2 a5 (Ah b5) rfl (qk Qs rfl (AU HY rfl (qm rfl (Ct rfl (Ae ?_)))))
    refine Ap rfl (fun c6 => ?_) (fun c6 => ?_)
    ·have h := Ao c6 h
     refine Ab (Aa Ac rfl (qa rfl (Ae ?_)))
     obtain rfl := sj h
     refine Am (sm [] [(6, .e (.one (.pure (.val (.bool false)))))] [] rfl rfl) (Az ?_)
     exact ⟨⟨[_], ⟨.tmp _ _ rfl, trivial⟩, rfl⟩, trivial⟩
    ·have h := An c6 h
     refine Aq (Aa Ac rfl (qm rfl (AN rfl (qa rfl (Ae ?_)))))
     exact Au _ h (sm [] _ _ rfl rfl)
   ·have h := An c4 h
    refine AP ?_
    exact Au _ h (sm [] _ _ rfl rfl)
  ·refine Am hs (Ab (Aa Ac rfl (qa rfl (Ae ?_))))
   obtain rfl := sj h
   refine Am (sm [] [(6, .e (.one (.pure (.val (.bool true)))))] [] rfl rfl) (Az ?_)
   exact ⟨⟨[_], ⟨.tmp _ _ rfl, trivial⟩, rfl⟩, trivial⟩
set_option maxRecDepth 10000 in
theorem L0 (N : Nat) (p0 : Ak) (p1 : AO) (r : Int) (h : Fn N p0 p1 = some r) : AB Tryz.prog 76 [.e (.agg [.pure (.sl (p0.fVersions.map Al)), .pure (.sl (p0.fNow.map Al)), .pure (.sl (p0.fTarget.map Al)), .pure (.sl (p0.fTables.map Ar))]), .e (.agg [.pure (.val (.int .i64 p1.fKind)), .pure (.val (.int .i64 p1.fFrom)), .pure (.val (.int .i64 p1.fTo)), .pure (.val (.bool p1.fAware)), .pure (.sl (p1.fOK.map (FZ eB))), .pure (.sl (p1.fRewrite.map (FZ eB)))])] [] (.e (.one (.pure (.val (.int .i64 r))))) := by
 unfold Fn at h
 refine As (n := 101) (rs := [.tmp 4]) Tryz.func76 rfl rfl rfl (A3 rfl) (A3 rfl) rfl fun w0 S0 => ?_
 refine Ab (Aa Ac rfl (qb rfl (qb rfl (qa rfl (Ae (Ab ?_))))))
 refine AM h (fun v1 => mk [(2, .e (.one (.ptr 2 0))), (3, .e (.one (.ptr 3 0))), (22, .e (.one (.pure (.val (.bool v1)))))] [(2, .box [.pure (.sl (p0.fVersions.map Al)), .pure (.sl (p0.fNow.map Al)), .pure (.sl (p0.fTarget.map Al)), .pure (.sl (p0.fTables.map Ar))]), (3, .box [.pure (.val (.int .i64 p1.fKind)), .pure (.val (.int .i64 p1.fFrom)), .pure (.val (.int .i64 p1.fTo)), .pure (.val (.bool p1.fAware)), .pure (.sl (p1.fOK.map (FZ eB))), .pure (.sl (p1.fRewrite.map (FZ eB)))])]) (fun j1 h => ?_) (fun v1 h => ?_)
 ·refine Aa Ac rfl (qf Hh rfl (ql CN rfl (AT rfl (qm rfl ?_))))
  refine AD (t := 10) rfl (fun c2 => ?_) (fun c2 => ?_)
  ·have h := Ao c2 h
   refine qn rfl (qn rfl (qn rfl (qp rfl (qm rfl (qn rfl (qn rfl (qn rfl (qu rfl (qu rfl (qn rfl (qp rfl (Ae ?_))))))))))))
   exact Au _ h (sm [] _ _ rfl rfl)
  ·have h := An c2 h
   refine qf Hh rfl (ql CN rfl (Fv rfl (qp rfl (qm rfl ?_))))
   refine AD (t := 15) rfl (fun c3 => ?_) (fun c3 => ?_)
   ·have h := Ao c3 h
    refine qn rfl (qn rfl (qn rfl (qu rfl (qu rfl (qn rfl (qp rfl (Ae ?_)))))))
    exact Au _ h (sm [] _ _ rfl rfl)
   ·have h := An c3 h
    refine qf Kl rfl (ql SX rfl (qm rfl ?_))
    refine AD (t := 18) rfl (fun c4 => ?_) (fun c4 => ?_)
    ·have h := Ao c4 h
     refine qL IN Fe rfl ?_
     obtain ⟨v5, a5, h⟩ := bind_some h
     refine AG [] (C1 N p1 v5 a5) PZ rfl (qp rfl (qp rfl (Ae ?_)))
     exact Au _ h (sm [] _ _ rfl rfl)
    ·have h := An c4 h
     refine qn rfl (qn rfl (qp rfl (qp rfl (Ae ?_))))
     exact Au _ h (sm [] _ _ rfl rfl)
 ·refine Ap rfl (fun c6 => ?_) (fun c6 => ?_)
  ·have h := Ao c6 h
   refine Ab (Aa Ac rfl (qa rfl (Ae ?_)))
   obtain rfl := sj h
   refine Am (sm [] [(4, .e (.one (.pure (.val (.int .i64 1)))))] [] rfl rfl) (Az ?_)
   exact ⟨⟨[_], ⟨.tmp _ _ rfl, trivial⟩, rfl⟩, trivial⟩
  ·have h := An c6 h
   refine Aq (Ab (Aa Ac rfl (qf BF rfl (ql Bo rfl (AU AJ rfl (qa rfl (Ae (Ab ?_))))))))
   refine AM h (fun v7 => mk [(2, .e (.one (.ptr 2 0))), (3, .e (.one (.ptr 3 0))), (45, .e (.one (.pure (.val (.bool v7)))))] [(2, .box [.pure (.sl (p0.fVersions.map Al)), .pure (.sl (p0.fNow.map Al)), .pure (.sl (p0.fTarget.map Al)), .pure (.sl (p0.fTables.map Ar))]), (3, .box [.pure (.val (.int .i64 p1.fKind)), .pure (.val (.int .i64 p1.fFrom)), .pure (.val (.int .i64 p1.fTo)), .pure (.val (.bool p1.fAware)), .pure (.sl (p1.fOK.map (FZ eB))), .pure (.sl (p1.fRewrite.map (FZ eB)))])]) (fun j7 h => ?_) (fun v7 h => ?_)
   ·refine Aa Ac rfl (qf D3 rfl (ql CN rfl (AT rfl (qm rfl ?_))))
    refine AD (t := 29) rfl (fun c8 => ?_) (fun c8 => ?_)
    ·have h := Ao c8 h
     refine qn rfl (qn rfl (qn rfl (qn rfl (qp rfl (qm rfl (qn rfl (qn rfl (qn rfl (qp rfl (qm rfl (qn rfl (qn rfl (qn rfl (qn rfl (qp rfl (Ae ?_))))))))))))))))
     exact Au _ h (sm [] _ _ rfl rfl)
    ·have h := An c8 h
     refine qf D3 rfl (ql CN rfl (qm rfl (Db rfl (qp rfl (qm rfl ?_)))))
     refine AD (t := 35) rfl (fun c9 => ?_) (fun c9 => ?_)
     ·have h := Ao c9 h
      refine qn rfl (qn rfl (qn rfl (qp rfl (qm rfl (qn rfl (qn rfl (qn rfl (qn rfl (qp rfl (Ae ?_))))))))))
      exact Au _ h (sm [] _ _ rfl rfl)
     ·have h := An c9 h
      refine qf Jy rfl (ql CN rfl (AT rfl (qp rfl (qm rfl ?_))))
      refine AD (t := 40) rfl (fun c10 => ?_) (fun c10 => ?_)
      ·have h := Ao c10 h
       refine qn rfl (qn rfl (qn rfl (qn rfl (qp rfl (Ae ?_)))))
       exact Au _ h (sm [] _ _ rfl rfl)
      ·have h := An c10 h
       refine qf Jy rfl (ql CN rfl (qm rfl (Db rfl (qp rfl (Ae ?_)))))
       exact Au _ h (sm [] _ _ rfl rfl)
   ·refine Ap rfl (fun c11 => ?_) (fun c11 => ?_)
    ·have h := Ao c11 h
     refine Ab (Aa Ac rfl (qa rfl (Ae ?_)))
     obtain rfl := sj h
     refine Am (sm [] [(4, .e (.one (.pure (.val (.int .i64 4)))))] [] rfl rfl) (Az ?_)
     exact ⟨⟨[_], ⟨.tmp _ _ rfl, trivial⟩, rfl⟩, trivial⟩
    ·have h := An c11 h
     refine Aq (Ab (Ab (Aa Ac rfl (qf K4 rfl (ql Lz rfl (qf BF rfl (ql Bo rfl (qf D3 rfl (ql CN rfl ?_)))))))))
     obtain ⟨v12, a12, b12, h⟩ := Ai h
     refine qi AJ Ec a12 (Ah b12) rfl (qk CN rfl (qf BF rfl (ql Bo rfl (qf Jy rfl (ql CN rfl ?_)))))
     obtain ⟨v13, a13, b13, h⟩ := Ai h
     refine qi AJ Ec a13 (Ah b13) rfl (qk CN rfl ?_)
     obtain ⟨v14, a14, h⟩ := bind_some h
     refine AG [] (Jd N p1.fOK v12 v13 v14 a14) Wl rfl (Cb rfl (AA (by kernel_rfl) ?_))
     refine Ap rfl (fun c15 => ?_) (fun c15 => ?_)
     ·have h := Ao c15 h
      refine Ab (Aa Ac rfl (qa rfl (Ae ?_)))
      obtain rfl := sj h
      refine Am (sm [] [(4, .e (.one (.pure (.val (.int .i64 6)))))] [] rfl rfl) (Az ?_)
      exact ⟨⟨[_], ⟨.tmp _ _ rfl, trivial⟩, rfl⟩, trivial⟩
     ·have h := An c15 h
      refine Aq (Ab (Ab (Aa Ac rfl (qf Hh rfl (ql CN rfl (Ct rfl (Ae ?_)))))))
      refine Ap rfl (fun c16 => ?_) (fun c16 => ?_)
      ·have h := Ao c16 h
       refine Ab (Ab (Aa Ac rfl (qf H9 rfl (ql Lz rfl (AU HK rfl (Ct rfl (Ae ?_)))))))
       refine Ap rfl (fun c17 => ?_) (fun c17 => ?_)
       ·have h := Ao c17 h
        refine Ab (Aa Ac rfl (qa rfl (Ae ?_)))
        obtain rfl := sj h
        refine Am (sm [] [(4, .e (.one (.pure (.val (.int .i64 6)))))] [] rfl rfl) (Az ?_)
        exact ⟨⟨[_], ⟨.tmp _ _ rfl, trivial⟩, rfl⟩, trivial⟩
       ·have h := An c17 h
        refine Aq (Ab (Aa Ac rfl (qa rfl (Ae ?_))))
        obtain rfl := sj h
        refine Am (sm [] [(4, .e (.one (.pure (.val (.int .i64 0)))))] [] rfl rfl) (Az ?_)
        exact ⟨⟨[_], ⟨.tmp _ _ rfl, trivial⟩, rfl⟩, trivial⟩
      ·have h := An c16 h
       refine Aq (Ab (Ab (Aa Ac rfl (qf H9 rfl (ql Lz rfl (qf BF rfl (ql Bo rfl (qf D3 rfl (ql CN rfl ?_)))))))))
       obtain ⟨v18, a18, b18, h⟩ := Ai h
       refine qi AJ Ec a18 (Ah b18) rfl (qk CN rfl (qf BF rfl (ql Bo rfl (qf D3 rfl (ql CN rfl ?_)))))
       obtain ⟨v19, a19, b19, h⟩ := Ai h
       refine qi AJ Ec a19 (Ah b19) rfl (qk CN rfl ?_)
       obtain ⟨v20, a20, h⟩ := bind_some h
       refine AG [] (Jd N p1.fRewrite v18 v19 v20 a20) Wl rfl (Cb rfl (AA (by kernel_rfl) ?_))
       refine Ap rfl (fun c21 => ?_) (fun c21 => ?_)
       ·have h := Ao c21 h
        refine Ab (Aa Ac rfl (qa rfl (Ae ?_)))
        obtain rfl := sj h
        refine Am (sm [] [(4, .e (.one (.pure (.val (.int .i64 6)))))] [] rfl rfl) (Az ?_)
        exact ⟨⟨[_], ⟨.tmp _ _ rfl, trivial⟩, rfl⟩, trivial⟩
       ·have h := An c21 h
        refine Aq (Ab (Ab (Aa Ac rfl (qa rfl (Ae ?_)))))
        refine AC (L := Cu N p1) h (fun v22 => mk [(3, .e (.one (.ptr 3 0))), (6, .e (.one (.pure (.val (.int .i64 v22)))))] [(3, .box [.pure (.val (.int .i64 p1.fKind)), .pure (.val (.int .i64 p1.fFrom)), .pure (.val (.int .i64 p1.fTo)), .pure (.val (.bool p1.fAware)), .pure (.sl (p1.fOK.map (FZ eB))), .pure (.sl (p1.fRewrite.map (FZ eB)))])]) (fun v23 => mk [] []) (fun _ _ => rfl) (sm [] _ _ rfl rfl) (fun j22 n22 v22 h => ?_) (fun v23 s h hs => ?_)
        ·unfold Cu at h
         refine Ab (Ab (Aa Ac rfl (qm rfl (qf H9 rfl (ql Lz rfl (AU HK rfl (AT rfl (Ae ?_))))))))
         refine Ap rfl (fun c24 => ?_) (fun c24 => ?_)
         ·have h := Ao c24 h
          refine Aq (Ab (AH (Ab (Aa Ac rfl (qf H9 rfl (ql Lz rfl (qm rfl ?_)))))))
          obtain ⟨v25, a25, b25, h⟩ := Ai h
          refine qi HK N2 a25 (Ah b25) rfl (qk Qs rfl (qm rfl ?_))
          obtain ⟨v26, a26, b26, h⟩ := Ai h
          refine qi HY QO a26 (Ah b26) rfl (qk SX rfl (Cb rfl (Ae ?_)))
          refine Ap rfl (fun c27 => ?_) (fun c27 => ?_)
          ·have h := Ao c27 h
           refine Ab (Aa Ac rfl (qa rfl (Ae ?_)))
           obtain rfl := sj h
           refine Am (sm [] [(4, .e (.one (.pure (.val (.int .i64 1)))))] [] rfl rfl) (Az ?_)
           exact ⟨⟨[_], ⟨.tmp _ _ rfl, trivial⟩, rfl⟩, trivial⟩
          ·have h := An c27 h
           refine Aq (Aa Ac rfl (qm rfl (AN rfl (qa rfl (Ae ?_)))))
           exact Au _ h (sm [] _ _ rfl rfl)
         ·have h := An c24 h
          refine AP ?_
          exact Au _ h (sm [] _ _ rfl rfl)
        ·refine Am hs (Ab (Aa Ac rfl (qa rfl (Ae ?_))))
         obtain rfl := sj h
         refine Am (sm [] [(4, .e (.one (.pure (.val (.int .i64 0)))))] [] rfl rfl) (Az ?_)
         exact ⟨⟨[_], ⟨.tmp _ _ rfl, trivial⟩, rfl⟩, trivial⟩
set_option maxRecDepth 10000 in
theorem Hk (N : Nat) (p0 : Ak) (r : Int) (h : Dg N p0 = some r) : AB Tryz.prog 35 [.e (.agg [.pure (.sl (p0.fVersions.map Al)), .pure (.sl (p0.fNow.map Al)), .pure (.sl (p0.fTarget.map Al)), .pure (.sl (p0.fTables.map Ar))])] [] (.e (.one (.pure (.val (.int .i64 r))))) := by
 unfold Dg at h
 refine As (n := 102) (rs := [.tmp 2]) Tryz.func35 rfl rfl rfl (A3 rfl) (A3 rfl) rfl fun w0 S0 => ?_
 refine Ab (Aa Ac rfl (qb rfl (qa rfl (Ae (Ab ?_)))))
 refine AM h (fun v1 => mk [(1, .e (.one (.ptr 1 0))), (16, .e (.one (.pure (.val (.bool v1)))))] [(1, .box [.pure (.sl (p0.fVersions.map Al)), .pure (.sl (p0.fNow.map Al)), .pure (.sl (p0.fTarget.map Al)), .pure (.sl (p0.fTables.map Ar))])]) (fun j1 h => ?_) (fun v1 h => ?_)
 ·refine Aa Ac rfl (qf BF rfl (ql Bo rfl (AU AJ rfl (Fv rfl (qm rfl ?_)))))
  refine AD (t := 11) rfl (fun c2 => ?_) (fun c2 => ?_)
  ·have h := Ao c2 h
   refine qn rfl (qn rfl (qn rfl (qn rfl (qp rfl (Ae ?_)))))
   exact Au _ h (sm [] _ _ rfl rfl)
  ·have h := An c2 h
   refine qf DS rfl (ql IM rfl (AU Fk rfl (Fv rfl (qp rfl (Ae ?_)))))
   exact Au _ h (sm [] _ _ rfl rfl)
 ·refine Ap rfl (fun c3 => ?_) (fun c3 => ?_)
  ·have h := Ao c3 h
   refine Ab (Aa Ac rfl (qa rfl (Ae ?_)))
   obtain rfl := sj h
   refine Am (sm [] [(2, .e (.one (.pure (.val (.int .i64 3)))))] [] rfl rfl) (Az ?_)
   exact ⟨⟨[_], ⟨.tmp _ _ rfl, trivial⟩, rfl⟩, trivial⟩
  ·have h := An c3 h
   refine Aq (Ab ?_)
   refine AM h (fun v4 => mk [(1, .e (.one (.ptr 1 0))), (32, .e (.one (.pure (.val (.bool v4)))))] [(1, .box [.pure (.sl (p0.fVersions.map Al)), .pure (.sl (p0.fNow.map Al)), .pure (.sl (p0.fTarget.map Al)), .pure (.sl (p0.fTables.map Ar))])]) (fun j4 h => ?_) (fun v4 h => ?_)
   ·refine Aa Ac rfl (qf I5 rfl (ql Bo rfl (AU AJ rfl (qf BF rfl (ql Bo rfl (AU AJ rfl (Ct rfl (qm rfl ?_))))))))
    refine AD (t := 24) rfl (fun c5 => ?_) (fun c5 => ?_)
    ·have h := Ao c5 h
     refine qn rfl (qn rfl (qn rfl (qn rfl (qn rfl (qn rfl (qn rfl (qp rfl (Ae ?_))))))))
     exact Au _ h (sm [] _ _ rfl rfl)
    ·have h := An c5 h
     refine qf JF rfl (ql Bo rfl (AU AJ rfl (qf BF rfl (ql Bo rfl (AU AJ rfl (Ct rfl (qp rfl (Ae ?_))))))))
     exact Au _ h (sm [] _ _ rfl rfl)
   ·refine Ap rfl (fun c6 => ?_) (fun c6 => ?_)
    ·have h := Ao c6 h
     refine Ab (Aa Ac rfl (qa rfl (Ae ?_)))
     obtain rfl := sj h
     refine Am (sm [] [(2, .e (.one (.pure (.val (.int .i64 6)))))] [] rfl rfl) (Az ?_)
     exact ⟨⟨[_], ⟨.tmp _ _ rfl, trivial⟩, rfl⟩, trivial⟩
    ·have h := An c6 h
     refine Aq (Ab (Ab (Aa Ac rfl (qa rfl (Ae ?_)))))
     refine AC (L := Bz N p0) h (fun v7 => mk [(1, .e (.one (.ptr 1 0))), (3, .e (.one (.pure (.val (.int .i64 v7)))))] [(1, .box [.pure (.sl (p0.fVersions.map Al)), .pure (.sl (p0.fNow.map Al)), .pure (.sl (p0.fTarget.map Al)), .pure (.sl (p0.fTables.map Ar))])]) (fun v8 => mk [(1, .e (.one (.ptr 1 0)))] [(1, .box [.pure (.sl (p0.fVersions.map Al)), .pure (.sl (p0.fNow.map Al)), .pure (.sl (p0.fTarget.map Al)), .pure (.sl (p0.fTables.map Ar))])]) (fun _ _ => rfl) (sm [] _ _ rfl rfl) (fun j7 n7 v7 h => ?_) (fun v8 s h hs => ?_)
     ·unfold Bz at h
      refine Ab (Ab (Aa Ac rfl (qm rfl (qf BF rfl (ql Bo rfl (AU AJ rfl (AT rfl (Ae ?_))))))))
      refine Ap rfl (fun c9 => ?_) (fun c9 => ?_)
      ·have h := Ao c9 h
       refine Aq (Ab (AH (Ab (Aa Ac rfl (qf BF rfl (ql Bo rfl (qm rfl ?_)))))))
       obtain ⟨v10, a10, b10, h⟩ := Ai h
       refine qi AJ Ec a10 (Ah b10) rfl (qk CN rfl (qa rfl (Ae ?_)))
       refine AM h (fun v11 => mk [(1, .e (.one (.ptr 1 0))), (3, .e (.one (.pure (.val (.int .i64 v7))))), (84, .e (.one (.pure (.val (.bool v11)))))] [(1, .box [.pure (.sl (p0.fVersions.map Al)), .pure (.sl (p0.fNow.map Al)), .pure (.sl (p0.fTarget.map Al)), .pure (.sl (p0.fTables.map Ar))])]) (fun j11 h => ?_) (fun v11 h => ?_)
       ·refine Aa Ac rfl (qm rfl (AT rfl (qm rfl ?_)))
        refine AD (t := 47) rfl (fun c12 => ?_) (fun c12 => ?_)
        ·have h := Ao c12 h
         refine qn rfl (qn rfl (qp rfl (qm rfl (qn rfl (qn rfl (qn rfl (qn rfl (qn rfl (qn rfl (qp rfl (qm rfl (qn rfl (qn rfl (qn rfl (qn rfl (qn rfl (qn rfl (qn rfl (qp rfl (qm rfl (qn rfl (qn rfl (qn rfl (qn rfl (qn rfl (qn rfl (qp rfl (qm rfl (qn rfl (qn rfl (qn rfl (qn rfl (qn rfl (qn rfl (qn rfl (qp rfl (Ae ?_)))))))))))))))))))))))))))))))))))))
         exact Au _ h (sm [] _ _ rfl rfl)
        ·have h := An c12 h
         refine qm rfl (Fv rfl (qp rfl (qm rfl ?_)))
         refine AD (t := 51) rfl (fun c13 => ?_) (fun c13 => ?_)
         ·have h := Ao c13 h
          refine qn rfl (qn rfl (qn rfl (qn rfl (qn rfl (qn rfl (qp rfl (qm rfl (qn rfl (qn rfl (qn rfl (qn rfl (qn rfl (qn rfl (qn rfl (qp rfl (qm rfl (qn rfl (qn rfl (qn rfl (qn rfl (qn rfl (qn rfl (qp rfl (qm rfl (qn rfl (qn rfl (qn rfl (qn rfl (qn rfl (qn rfl (qn rfl (qp rfl (Ae ?_)))))))))))))))))))))))))))))))))
          exact Au _ h (sm [] _ _ rfl rfl)
         ·have h := An c13 h
          refine qf I5 rfl (ql Bo rfl (qm rfl ?_))
          obtain ⟨v14, a14, b14, h⟩ := Ai h
          refine qi AJ Ec a14 (Ah b14) rfl (qk CN rfl (AT rfl (qp rfl (qm rfl ?_))))
          refine AD (t := 59) rfl (fun c15 => ?_) (fun c15 => ?_)
          ·have h := Ao c15 h
           refine qn rfl (qn rfl (qn rfl (qn rfl (qn rfl (qn rfl (qn rfl (qp rfl (qm rfl (qn rfl (qn rfl (qn rfl (qn rfl (qn rfl (qn rfl (qp rfl (qm rfl (qn rfl (qn rfl (qn rfl (qn rfl (qn rfl (qn rfl (qn rfl (qp rfl (Ae ?_)))))))))))))))))))))))))
           exact Au _ h (sm [] _ _ rfl rfl)
          ·have h := An c15 h
           refine qf I5 rfl (ql Bo rfl (qm rfl ?_))
           obtain ⟨v16, a16, b16, h⟩ := Ai h
           refine qi AJ Ec a16 (Ah b16) rfl (qk CN rfl (qm rfl (Db rfl (qp rfl (qm rfl ?_)))))
           refine AD (t := 68) rfl (fun c17 => ?_) (fun c17 => ?_)
           ·have h := Ao c17 h
            refine qn rfl (qn rfl (qn rfl (qn rfl (qn rfl (qn rfl (qp rfl (qm rfl (qn rfl (qn rfl (qn rfl (qn rfl (qn rfl (qn rfl (qn rfl (qp rfl (Ae ?_))))))))))))))))
            exact Au _ h (sm [] _ _ rfl rfl)
           ·have h := An c17 h
            refine qf JF rfl (ql Bo rfl (qm rfl ?_))
            obtain ⟨v18, a18, b18, h⟩ := Ai h
            refine qi AJ Ec a18 (Ah b18) rfl (qk CN rfl (AT rfl (qp rfl (qm rfl ?_))))
            refine AD (t := 76) rfl (fun c19 => ?_) (fun c19 => ?_)
            ·have h := Ao c19 h
             refine qn rfl (qn rfl (qn rfl (qn rfl (qn rfl (qn rfl (qn rfl (qp rfl (Ae ?_))))))))
             exact Au _ h (sm [] _ _ rfl rfl)
            ·have h := An c19 h
             refine qf JF rfl (ql Bo rfl (qm rfl ?_))
             obtain ⟨v20, a20, b20, h⟩ := Ai h
             refine qi AJ Ec a20 (Ah b20) rfl (qk CN rfl (qm rfl (Db rfl (qp rfl (Ae ?_)))))
             exact Au _ h (sm [] _ _ rfl rfl)
       ·refine Ap rfl (fun c21 => ?_) (fun c21 => ?_)
        ·have h := Ao c21 h
         refine Ab (Aa Ac rfl (qa rfl (Ae ?_)))
         obtain rfl := sj h
         refine Am (sm [] [(2, .e (.one (.pure (.val (.int .i64 7)))))] [] rfl rfl) (Az ?_)
         exact ⟨⟨[_], ⟨.tmp _ _ rfl, trivial⟩, rfl⟩, trivial⟩
        ·have h := An c21 h
         refine Aq (Aa Ac rfl (qm rfl (AN rfl (qa rfl (Ae ?_)))))
         exact Au _ h (sm [] _ _ rfl rfl)
      ·have h := An c9 h
       refine AP ?_
       exact Au _ h (sm [] _ _ rfl rfl)
     ·refine Am hs (Ab (Ab (Aa Ac rfl (qa rfl (Ae ?_)))))
      refine AC (L := Bs N p0) h (fun v22 => mk [(1, .e (.one (.ptr 1 0))), (5, .e (.one (.pure (.val (.int .i64 v22)))))] [(1, .box [.pure (.sl (p0.fVersions.map Al)), .pure (.sl (p0.fNow.map Al)), .pure (.sl (p0.fTarget.map Al)), .pure (.sl (p0.fTables.map Ar))])]) (fun v23 => mk [] []) (fun _ _ => rfl) (sm [] _ _ rfl rfl) (fun j22 n22 v22 h => ?_) (fun v23 s h hs => ?_)
      ·unfold Bs at h
       refine Ab (Ab (Aa Ac rfl (qm rfl (qf DS rfl (ql IM rfl (AU Fk rfl (AT rfl (Ae ?_))))))))
       refine Ap rfl (fun c24 => ?_) (fun c24 => ?_)
       ·have h := Ao c24 h
        refine Aq (Ab (AH (Ab (Aa Ac rfl (qL EH Ep rfl (qf DS rfl (ql IM rfl (qm rfl ?_))))))))
        obtain ⟨v25, a25, b25, h⟩ := Ai h
        refine qi Fk Fe a25 (Ah b25) rfl (qK IN Fe rfl ?_)
        obtain ⟨v26, a26, h⟩ := bind_some h
        refine AG [] (L0 N p0 v25 v26 a26) Zi rfl (qa rfl (AA (by kernel_rfl) (Ab (Aa Ac rfl (qm rfl (Ct rfl (Ae ?_)))))))
        refine Ap rfl (fun c27 => ?_) (fun c27 => ?_)
        ·have h := Ao c27 h
         refine Ab (Aa Ac rfl (qm rfl (qa rfl (Ae ?_))))
         obtain rfl := sj h
         refine Am (sm [] [(2, .e (.one (.pure (.val (.int .i64 v26)))))] [] rfl rfl) (Az ?_)
         exact ⟨⟨[_], ⟨.tmp _ _ rfl, trivial⟩, rfl⟩, trivial⟩
        ·have h := An c27 h
         refine Aq (Aa Ac rfl (qm rfl (AN rfl (qa rfl (Ae ?_)))))
         exact Au _ h (sm [] _ _ rfl rfl)
       ·have h := An c24 h
        refine AP ?_
        exact Au _ h (sm [] _ _ rfl rfl)
      ·refine Am hs (Ab (Aa Ac rfl (qa rfl (Ae ?_))))
       obtain rfl := sj h
       refine Am (sm [] [(2, .e (.one (.pure (.val (.int .i64 0)))))] [] rfl rfl) (Az ?_)
       exact ⟨⟨[_], ⟨.tmp _ _ rfl, trivial⟩, rfl⟩, trivial⟩
set_option maxRecDepth 10000 in
theorem HR (N : Nat) (p0 : Ak) (p1 : Ag) (r : Int) (h : D7 N p0 p1 = some r) : AB Tryz.prog 82 [.e (.agg [.pure (.sl (p0.fVersions.map Al)), .pure (.sl (p0.fNow.map Al)), .pure (.sl (p0.fTarget.map Al)), .pure (.sl (p0.fTables.map Ar))]), .e (.agg [.pure (.sl (p1.fBase.map Al)), .pure (.sl (p1.fNext.map Al)), .pure (.sl (p1.fHeld.map Bg))])] [] (.e (.one (.pure (.val (.int .i64 r))))) := by
 unfold D7 at h
 refine As (n := 154) (rs := [.tmp 4]) Tryz.func82 rfl rfl rfl (A3 rfl) (A3 rfl) rfl fun w0 S0 => ?_
 refine Ab (Aa Ac rfl (qb rfl (qb rfl (qa rfl (Ae (Ab (Ab (Aa Ac rfl (qL EH Ep rfl ?_)))))))))
 obtain ⟨v1, a1, h⟩ := bind_some h
 refine AG [] (Hk N p0 v1 a1) Xw rfl (qa rfl (Ae (Ab (Aa Ac rfl (qm rfl (Ct rfl (Ae ?_)))))))
 refine Ap rfl (fun c2 => ?_) (fun c2 => ?_)
 ·have h := Ao c2 h
  refine Ab (Aa Ac rfl (qm rfl (qa rfl (Ae ?_))))
  obtain rfl := sj h
  refine Am (sm [] [(4, .e (.one (.pure (.val (.int .i64 v1)))))] [] rfl rfl) (Az ?_)
  exact ⟨⟨[_], ⟨.tmp _ _ rfl, trivial⟩, rfl⟩, trivial⟩
 ·have h := An c2 h
  refine Aq (Ab (Aa Ac rfl (qf BF rfl (ql Bo rfl (AU AJ rfl (qa rfl (Ae (Ab ?_))))))))
  refine AM h (fun v3 => mk [(2, .e (.one (.ptr 2 0))), (3, .e (.one (.ptr 3 0))), (6, .e (.one (.pure (.val (.int .i64 ((p0.fVersions.length : Int))))))), (39, .e (.one (.pure (.val (.bool v3)))))] [(2, .box [.pure (.sl (p0.fVersions.map Al)), .pure (.sl (p0.fNow.map Al)), .pure (.sl (p0.fTarget.map Al)), .pure (.sl (p0.fTables.map Ar))]), (3, .box [.pure (.sl (p1.fBase.map Al)), .pure (.sl (p1.fNext.map Al)), .pure (.sl (p1.fHeld.map Bg))])]) (fun j3 h => ?_) (fun v3 h => ?_)
  ·refine Aa Ac rfl (qf Dx rfl (ql Bo rfl (AU AJ rfl (qm rfl (Ct rfl (qm rfl ?_))))))
   refine AD (t := 24) rfl (fun c4 => ?_) (fun c4 => ?_)
   ·have h := Ao c4 h
    refine qn rfl (qn rfl (qn rfl (qn rfl (qn rfl (qp rfl (qm rfl (qn rfl (qn rfl (qn rfl (qn rfl (qn rfl (qn rfl (qn rfl (qp rfl (Ae ?_)))))))))))))))
    exact Au _ h (sm [] _ _ rfl rfl)
   ·have h := An c4 h
    refine qf BK rfl (ql Bo rfl (AU AJ rfl (qm rfl (Ct rfl (qp rfl (qm rfl ?_))))))
    refine AD (t := 31) rfl (fun c5 => ?_) (fun c5 => ?_)
    ·have h := Ao c5 h
     refine qn rfl (qn rfl (qn rfl (qn rfl (qn rfl (qn rfl (qn rfl (qp rfl (Ae ?_))))))))
     exact Au _ h (sm [] _ _ rfl rfl)
    ·have h := An c5 h
     refine qf Dm rfl (ql HV rfl (AU D0 rfl (qf DS rfl (ql IM rfl (AU Fk rfl (Ct rfl (qp rfl (Ae ?_))))))))
     exact Au _ h (sm [] _ _ rfl rfl)
  ·refine Ap rfl (fun c6 => ?_) (fun c6 => ?_)
   ·have h := Ao c6 h
    refine Ab (Aa Ac rfl (qa rfl (Ae ?_)))
    obtain rfl := sj h
    refine Am (sm [] [(4, .e (.one (.pure (.val (.int .i64 6)))))] [] rfl rfl) (Az ?_)
    exact ⟨⟨[_], ⟨.tmp _ _ rfl, trivial⟩, rfl⟩, trivial⟩
   ·have h := An c6 h
    refine Aq (Ab (Ab (Aa Ac rfl (qa rfl (Ae ?_)))))
    refine AC (L := CS N p0 p1) h (fun v7 => mk [(2, .e (.one (.ptr 2 0))), (3, .e (.one (.ptr 3 0))), (6, .e (.one (.pure (.val (.int .i64 ((p0.fVersions.length : Int))))))), (7, .e (.one (.pure (.val (.int .i64 v7)))))] [(2, .box [.pure (.sl (p0.fVersions.map Al)), .pure (.sl (p0.fNow.map Al)), .pure (.sl (p0.fTarget.map Al)), .pure (.sl (p0.fTables.map Ar))]), (3, .box [.pure (.sl (p1.fBase.map Al)), .pure (.sl (p1.fNext.map Al)), .pure (.sl (p1.fHeld.map Bg))])]) (fun v8 => mk [(2, .e (.one (.ptr 2 0))), (3, .e (.one (.ptr 3 0)))] [(2, .box [.pure (.sl (p0.fVersions.map Al)), .pure (.sl (p0.fNow.map Al)), .pure (.sl (p0.fTarget.map Al)), .pure (.sl (p0.fTables.map Ar))]), (3, .box [.pure (.sl (p1.fBase.map Al)), .pure (.sl (p1.fNext.map Al)), .pure (.sl (p1.fHeld.map Bg))])]) (fun _ _ => rfl) (sm [] _ _ rfl rfl) (fun j7 n7 v7 h => ?_) (fun v8 s h hs => ?_)
    ·unfold CS at h
     refine Ab (Ab (Aa Ac rfl (qm rfl (qm rfl (AT rfl (Ae ?_))))))
     refine Ap rfl (fun c9 => ?_) (fun c9 => ?_)
     ·have h := Ao c9 h
      refine Aq (Ab (AH (Ab ?_)))
      refine AM h (fun v10 => mk [(2, .e (.one (.ptr 2 0))), (3, .e (.one (.ptr 3 0))), (6, .e (.one (.pure (.val (.int .i64 ((p0.fVersions.length : Int))))))), (7, .e (.one (.pure (.val (.int .i64 v7))))), (84, .e (.one (.pure (.val (.bool v10)))))] [(2, .box [.pure (.sl (p0.fVersions.map Al)), .pure (.sl (p0.fNow.map Al)), .pure (.sl (p0.fTarget.map Al)), .pure (.sl (p0.fTables.map Ar))]), (3, .box [.pure (.sl (p1.fBase.map Al)), .pure (.sl (p1.fNext.map Al)), .pure (.sl (p1.fHeld.map Bg))])]) (fun j10 h => ?_) (fun v10 h => ?_)
      ·refine Aa Ac rfl (qf Dx rfl (ql Bo rfl (qm rfl ?_)))
       obtain ⟨v11, a11, b11, h⟩ := Ai h
       refine qi AJ Ec a11 (Ah b11) rfl (qk CN rfl (AT rfl (qm rfl ?_)))
       refine AD (t := 51) rfl (fun c12 => ?_) (fun c12 => ?_)
       ·have h := Ao c12 h
        refine qn rfl (qn rfl (qn rfl (qn rfl (qn rfl (qn rfl (qn rfl (qn rfl (qn rfl (qn rfl (qn rfl (qp rfl (qm rfl (qn rfl (qn rfl (qn rfl (qn rfl (qn rfl (qn rfl (qp rfl (qm rfl (qn rfl (qn rfl (qn rfl (qn rfl (qn rfl (qn rfl (qn rfl (qn rfl (qn rfl (qn rfl (qn rfl (qp rfl (AA (by kernel_rfl) ?_)))))))))))))))))))))))))))))))))
        exact Au _ h (sm [] _ _ rfl rfl)
       ·have h := An c12 h
        refine qf Dx rfl (ql Bo rfl (qm rfl ?_))
        obtain ⟨v13, a13, b13, h⟩ := Ai h
        refine qi AJ Ec a13 (Ah b13) rfl (qk CN rfl (qf BF rfl (ql Bo rfl (qm rfl ?_))))
        obtain ⟨v14, a14, b14, h⟩ := Ai h
        refine qi AJ Ec a14 (Ah b14) rfl (qk CN rfl (Db rfl (qp rfl (qm rfl ?_))))
        refine AD (t := 64) rfl (fun c15 => ?_) (fun c15 => ?_)
        ·have h := Ao c15 h
         refine qn rfl (qn rfl (qn rfl (qn rfl (qn rfl (qn rfl (qp rfl (qm rfl (qn rfl (qn rfl (qn rfl (qn rfl (qn rfl (qn rfl (qn rfl (qn rfl (qn rfl (qn rfl (qn rfl (qp rfl (AA (by kernel_rfl) ?_))))))))))))))))))))
         exact Au _ h (sm [] _ _ rfl rfl)
        ·have h := An c15 h
         refine qf BK rfl (ql Bo rfl (qm rfl ?_))
         obtain ⟨v16, a16, b16, h⟩ := Ai h
         refine qi AJ Ec a16 (Ah b16) rfl (qk CN rfl (AT rfl (qp rfl (qm rfl ?_))))
         refine AD (t := 72) rfl (fun c17 => ?_) (fun c17 => ?_)
         ·have h := Ao c17 h
          refine qn rfl (qn rfl (qn rfl (qn rfl (qn rfl (qn rfl (qn rfl (qn rfl (qn rfl (qn rfl (qn rfl (qp rfl (AA (by kernel_rfl) ?_))))))))))))
          exact Au _ h (sm [] _ _ rfl rfl)
         ·have h := An c17 h
          refine qf BK rfl (ql Bo rfl (qm rfl ?_))
          obtain ⟨v18, a18, b18, h⟩ := Ai h
          refine qi AJ Ec a18 (Ah b18) rfl (qk CN rfl (qf BF rfl (ql Bo rfl (qm rfl ?_))))
          obtain ⟨v19, a19, b19, h⟩ := Ai h
          refine qi AJ Ec a19 (Ah b19) rfl (qk CN rfl (Db rfl (qp rfl (AA (by kernel_rfl) ?_))))
          exact Au _ h (sm [] _ _ rfl rfl)
      ·refine Ap rfl (fun c20 => ?_) (fun c20 => ?_)
       ·have h := Ao c20 h
        refine Ab (Aa Ac rfl (qa rfl (Ae ?_)))
        obtain rfl := sj h
        refine Am (sm [] [(4, .e (.one (.pure (.val (.int .i64 7)))))] [] rfl rfl) (Az ?_)
        exact ⟨⟨[_], ⟨.tmp _ _ rfl, trivial⟩, rfl⟩, trivial⟩
       ·have h := An c20 h
        refine Aq (Ab (Aa Ac rfl (qf Dx rfl (ql Bo rfl (qm rfl ?_)))))
        obtain ⟨v21, a21, b21, h⟩ := Ai h
        refine qi AJ Ec a21 (Ah b21) rfl (qk CN rfl (qf BK rfl (ql Bo rfl (qm rfl ?_))))
        obtain ⟨v22, a22, b22, h⟩ := Ai h
        refine qi AJ Ec a22 (Ah b22) rfl (qk CN rfl (BX rfl (AA (by kernel_rfl) ?_)))
        refine Ap rfl (fun c23 => ?_) (fun c23 => ?_)
        ·have h := Ao c23 h
         refine Ab (Aa Ac rfl (qa rfl (Ae ?_)))
         obtain rfl := sj h
         refine Am (sm [] [(4, .e (.one (.pure (.val (.int .i64 1)))))] [] rfl rfl) (Az ?_)
         exact ⟨⟨[_], ⟨.tmp _ _ rfl, trivial⟩, rfl⟩, trivial⟩
        ·have h := An c23 h
         refine Aq (Aa Ac rfl (qm rfl (AN rfl (qa rfl (Ae ?_)))))
         exact Au _ h (sm [] _ _ rfl rfl)
     ·have h := An c9 h
      refine AP ?_
      exact Au _ h (sm [] _ _ rfl rfl)
    ·refine Am hs (Ab (Ab (Aa Ac rfl (qa rfl (Ae ?_)))))
     refine AC (L := Cx N p0 p1) h (fun v24 => mk [(2, .e (.one (.ptr 2 0))), (3, .e (.one (.ptr 3 0))), (8, .e (.one (.pure (.val (.int .i64 v24)))))] [(2, .box [.pure (.sl (p0.fVersions.map Al)), .pure (.sl (p0.fNow.map Al)), .pure (.sl (p0.fTarget.map Al)), .pure (.sl (p0.fTables.map Ar))]), (3, .box [.pure (.sl (p1.fBase.map Al)), .pure (.sl (p1.fNext.map Al)), .pure (.sl (p1.fHeld.map Bg))])]) (fun v25 => mk [] []) (fun _ _ => rfl) (sm [] _ _ rfl rfl) (fun j24 n24 v24 h => ?_) (fun v25 s h hs => ?_)
     ·unfold Cx at h
      refine Ab (Ab (Aa Ac rfl (qm rfl (qf DS rfl (ql IM rfl (AU Fk rfl (AT rfl (Ae ?_))))))))
      refine Ap rfl (fun c26 => ?_) (fun c26 => ?_)
      ·have h := Ao c26 h
       refine Aq (Ab (AH (Ab (Aa Ac rfl (qf DS rfl (ql IM rfl (qm rfl ?_)))))))
       obtain ⟨v27, a27, b27, h⟩ := Ai h
       refine qi Fk Fe a27 (Ah b27) rfl (qK IN Fe rfl (qz LW rfl (qs Fe rfl (Ae (Ab (Aa Ac rfl (qf BF rfl (ql Bo rfl (qf D3 rfl (ql CN rfl ?_))))))))))
       obtain ⟨v28, a28, b28, h⟩ := Ai h
       refine qi AJ Ec a28 (Ah b28) rfl (qk CN rfl ?_)
       obtain ⟨c29, h⟩ := AQ h
       refine I9 rfl c29 (Bj rfl (qa rfl (Ae ?_)))
       refine AM h (fun v30 => mk [(2, .e (.one (.ptr 2 0))), (3, .e (.one (.ptr 3 0))), (8, .e (.one (.pure (.val (.int .i64 v24))))), (153, .e (.one (.pure (.val (.bool v30)))))] [(2, .box [.pure (.sl (p0.fVersions.map Al)), .pure (.sl (p0.fNow.map Al)), .pure (.sl (p0.fTarget.map Al)), .pure (.sl (p0.fTables.map Ar))]), (3, .box [.pure (.sl (p1.fBase.map Al)), .pure (.sl (p1.fNext.map Al)), .pure (.sl (p1.fHeld.map Bg))])]) (fun j30 h => ?_) (fun v30 h => ?_)
       ·refine Aa Ac rfl (qL IN Fe rfl ?_)
        obtain ⟨v31, a31, h⟩ := bind_some h
        refine AG [] (C1 N v27 v31 a31) PZ rfl (Cb rfl (qm rfl ?_))
        refine AD (t := 119) rfl (fun c32 => ?_) (fun c32 => ?_)
        ·have h := Ao c32 h
         refine qf Dm rfl (ql HV rfl (qm rfl ?_))
         obtain ⟨v33, a33, b33, h⟩ := Ai h
         refine qi D0 GJ a33 (Ah b33) rfl (qk KY rfl (Ct rfl (qp rfl (qm rfl ?_))))
         refine AD (t := 127) rfl (fun c34 => ?_) (fun c34 => ?_)
         ·have h := Ao c34 h
          refine qn rfl (qn rfl (qn rfl (qu rfl (qu rfl (qu rfl (qu rfl (qu rfl (qu rfl (qu rfl (qu rfl (qu rfl (qu rfl (qu rfl (qu rfl (qu rfl (qu rfl (qu rfl (qu rfl (qu rfl (qu rfl (qu rfl (qu rfl (qu rfl (qn rfl (qp rfl (AA (by kernel_rfl) ?_))))))))))))))))))))))))))
          exact Au _ h (sm [] _ _ rfl rfl)
         ·have h := An c34 h
          refine qL IN Fe rfl ?_
          obtain ⟨v35, a35, h⟩ := bind_some h
          refine AG [] (C1 N v27 v35 a35) PZ rfl (qm rfl ?_)
          refine AD (t := 130) rfl (fun c36 => ?_) (fun c36 => ?_)
          ·have h := Ao c36 h
           refine qf Dm rfl (ql HV rfl (qm rfl ?_))
           obtain ⟨v37, a37, b37, h⟩ := Ai h
           refine qi D0 GJ a37 (Ah b37) rfl (qk KY rfl (qm rfl (J6 rfl (Ct rfl (qm rfl ?_)))))
           refine AD (t := 139) rfl (fun c38 => ?_) (fun c38 => ?_)
           ·have h := Ao c38 h
            refine qn rfl (qn rfl (qn rfl (qn rfl (qn rfl (qn rfl (qn rfl (qn rfl (qn rfl (qn rfl (qn rfl (qp rfl (qp rfl (qp rfl (AA (by kernel_rfl) ?_))))))))))))))
            exact Au _ h (sm [] _ _ rfl rfl)
           ·have h := An c38 h
            refine qL A4 Ay rfl (qf D3 rfl (ql CN rfl ?_))
            obtain ⟨v39, a39, h⟩ := bind_some h
            refine AG [] (Ex N p1 v27.fFrom v39 a39) To rfl (qf Dm rfl (ql HV rfl (qm rfl ?_)))
            obtain ⟨v40, a40, b40, h⟩ := Ai h
            refine qi D0 GJ a40 (Ah b40) rfl (qk KY rfl (J6 rfl (Ct rfl (qp rfl (qp rfl (qp rfl (AA (by kernel_rfl) ?_)))))))
            exact Au _ h (sm [] _ _ rfl rfl)
          ·have h := An c36 h
           refine qn rfl (qn rfl (qn rfl (qn rfl (qn rfl (qn rfl (qn rfl (qn rfl (qn rfl (qu rfl (qu rfl (qu rfl (qu rfl (qu rfl (qu rfl (qu rfl (qu rfl (qu rfl (qu rfl (qu rfl (qn rfl (qp rfl (qp rfl (AA (by kernel_rfl) ?_)))))))))))))))))))))))
           exact Au _ h (sm [] _ _ rfl rfl)
        ·have h := An c32 h
         refine qn rfl (qn rfl (qn rfl (qn rfl (qn rfl (qn rfl (qp rfl (qm rfl (qL IN Fe rfl ?_))))))))
         obtain ⟨v41, a41, h⟩ := bind_some h
         refine AG [] (C1 N v27 v41 a41) PZ rfl (qm rfl ?_)
         refine AD (t := 130) rfl (fun c42 => ?_) (fun c42 => ?_)
         ·have h := Ao c42 h
          refine qf Dm rfl (ql HV rfl (qm rfl ?_))
          obtain ⟨v43, a43, b43, h⟩ := Ai h
          refine qi D0 GJ a43 (Ah b43) rfl (qk KY rfl (qm rfl (J6 rfl (Ct rfl (qm rfl ?_)))))
          refine AD (t := 139) rfl (fun c44 => ?_) (fun c44 => ?_)
          ·have h := Ao c44 h
           refine qn rfl (qn rfl (qn rfl (qn rfl (qn rfl (qn rfl (qn rfl (qn rfl (qn rfl (qn rfl (qn rfl (qp rfl (qp rfl (qp rfl (AA (by kernel_rfl) ?_))))))))))))))
           exact Au _ h (sm [] _ _ rfl rfl)
          ·have h := An c44 h
           refine qL A4 Ay rfl (qf D3 rfl (ql CN rfl ?_))
           obtain ⟨v45, a45, h⟩ := bind_some h
           refine AG [] (Ex N p1 v27.fFrom v45 a45) To rfl (qf Dm rfl (ql HV rfl (qm rfl ?_)))
           obtain ⟨v46, a46, b46, h⟩ := Ai h
           refine qi D0 GJ a46 (Ah b46) rfl (qk KY rfl (J6 rfl (Ct rfl (qp rfl (qp rfl (qp rfl (AA (by kernel_rfl) ?_)))))))
           exact Au _ h (sm [] _ _ rfl rfl)
         ·have h := An c42 h
          refine qn rfl (qn rfl (qn rfl (qn rfl (qn rfl (qn rfl (qn rfl (qn rfl (qn rfl (qu rfl (qu rfl (qu rfl (qu rfl (qu rfl (qu rfl (qu rfl (qu rfl (qu rfl (qu rfl (qu rfl (qn rfl (qp rfl (qp rfl (AA (by kernel_rfl) ?_)))))))))))))))))))))))
          exact Au _ h (sm [] _ _ rfl rfl)
       ·refine Ap rfl (fun c47 => ?_) (fun c47 => ?_)
        ·have h := Ao c47 h
         refine Ab (Aa Ac rfl (qa rfl (Ae ?_)))
         obtain rfl := sj h
         refine Am (sm [] [(4, .e (.one (.pure (.val (.int .i64 1)))))] [] rfl rfl) (Az ?_)
         exact ⟨⟨[_], ⟨.tmp _ _ rfl, trivial⟩, rfl⟩, trivial⟩
        ·have h := An c47 h
         refine Aq (Aa Ac rfl (qm rfl (AN rfl (qa rfl (Ae ?_)))))
         exact Au _ h (sm [] _ _ rfl rfl)
      ·have h := An c26 h
       refine AP ?_
       exact Au _ h (sm [] _ _ rfl rfl)
     ·refine Am hs (Ab (Aa Ac rfl (qa rfl (Ae ?_))))
      obtain rfl := sj h
      refine Am (sm [] [(4, .e (.one (.pure (.val (.int .i64 0)))))] [] rfl rfl) (Az ?_)
      exact ⟨⟨[_], ⟨.tmp _ _ rfl, trivial⟩, rfl⟩, trivial⟩
set_option maxRecDepth 10000 in
theorem LV (N : Nat) (p0 : Ak) (p1 : List Ag) (r : Int) (h : Fz N p0 p1 = some r) : AB Tryz.prog 56 [.e (.agg [.pure (.sl (p0.fVersions.map Al)), .pure (.sl (p0.fNow.map Al)), .pure (.sl (p0.fTarget.map Al)), .pure (.sl (p0.fTables.map Ar))]), .e (.one (.pure (.sl (p1.map Aj))))] [] (.e (.one (.pure (.val (.int .i64 r))))) := by
 unfold Fz at h
 refine As (n := 28) (rs := [.tmp 4]) Tryz.func56 rfl rfl rfl (A3 rfl) (A3 rfl) rfl fun w0 S0 => ?_
 refine Ab (Aa Ac rfl (qb rfl (qa rfl (Ae (Ab (Ab (Aa Ac rfl (qL EH Ep rfl ?_))))))))
 obtain ⟨v1, a1, h⟩ := bind_some h
 refine AG [] (Hk N p0 v1 a1) Xw rfl (qa rfl (Ae (Ab (Aa Ac rfl (qm rfl (Ct rfl (Ae ?_)))))))
 refine Ap rfl (fun c2 => ?_) (fun c2 => ?_)
 ·have h := Ao c2 h
  refine Ab (Aa Ac rfl (qm rfl (qa rfl (Ae ?_))))
  obtain rfl := sj h
  refine Am (sm [] [(4, .e (.one (.pure (.val (.int .i64 v1)))))] [] rfl rfl) (Az ?_)
  exact ⟨⟨[_], ⟨.tmp _ _ rfl, trivial⟩, rfl⟩, trivial⟩
 ·have h := An c2 h
  refine Aq (Ab (Ab (Aa Ac rfl (qa rfl (Ae ?_)))))
  refine AC (L := CR N p0 p1) h (fun v3 => mk [(1, .e (.one (.pure (.sl (p1.map Aj))))), (2, .e (.one (.ptr 2 0))), (6, .e (.one (.pure (.val (.int .i64 v3)))))] [(2, .box [.pure (.sl (p0.fVersions.map Al)), .pure (.sl (p0.fNow.map Al)), .pure (.sl (p0.fTarget.map Al)), .pure (.sl (p0.fTables.map Ar))])]) (fun v4 => mk [] []) (fun _ _ => rfl) (sm [] _ _ rfl rfl) (fun j3 n3 v3 h => ?_) (fun v4 s h hs => ?_)
  ·unfold CR at h
   refine Ab (Ab (Aa Ac rfl (qm rfl (qm rfl (AU AZ rfl (AT rfl (Ae ?_)))))))
   refine Ap rfl (fun c5 => ?_) (fun c5 => ?_)
   ·have h := Ao c5 h
    refine Aq (Ab (AH (Ab (Aa Ac rfl (qL EH Ep rfl (qm rfl (qm rfl ?_)))))))
    obtain ⟨v6, a6, b6, h⟩ := Ai h
    refine qi AZ Ay a6 (Ah b6) rfl (qK A4 Ay rfl ?_)
    obtain ⟨v7, a7, h⟩ := bind_some h
    refine AG [] (HR N p0 v6 v7 a7) WO rfl (qa rfl (AA (by kernel_rfl) (Ab (Aa Ac rfl (qm rfl (Ct rfl (Ae ?_)))))))
    refine Ap rfl (fun c8 => ?_) (fun c8 => ?_)
    ·have h := Ao c8 h
     refine Ab (Aa Ac rfl (qm rfl (qa rfl (Ae ?_))))
     obtain rfl := sj h
     refine Am (sm [] [(4, .e (.one (.pure (.val (.int .i64 v7)))))] [] rfl rfl) (Az ?_)
     exact ⟨⟨[_], ⟨.tmp _ _ rfl, trivial⟩, rfl⟩, trivial⟩
    ·have h := An c8 h
     refine Aq (Aa Ac rfl (qm rfl (AN rfl (qa rfl (Ae ?_)))))
     exact Au _ h (sm [] _ _ rfl rfl)
   ·have h := An c5 h
    refine AP ?_
    exact Au _ h (sm [] _ _ rfl rfl)
  ·refine Am hs (Ab (Aa Ac rfl (qa rfl (Ae ?_))))
   obtain rfl := sj h
   refine Am (sm [] [(4, .e (.one (.pure (.val (.int .i64 0)))))] [] rfl rfl) (Az ?_)
   exact ⟨⟨[_], ⟨.tmp _ _ rfl, trivial⟩, rfl⟩, trivial⟩
set_option maxRecDepth 10000 in
theorem LX (N : Nat) (p0 : Av) (r : Bool) (h : Fo N p0 = some r) : AB Tryz.prog 143 [.e (.agg [.pure (.val (.int .i64 p0.fKind)), .pure (.val (.int .i64 p0.fIndex)), .pure (.val (.int .i64 p0.fVersion))])] [] (.e (.one (.pure (.val (.bool r))))) := by
 unfold Fo at h
 refine As (n := 31) (rs := [.tmp 2]) Tryz.func143 rfl rfl rfl (A3 rfl) (A3 rfl) rfl fun w0 S0 => ?_
 refine Ab (Aa Ac rfl (qb rfl (qa rfl (Ae ?_))))
 refine AM h (fun v1 => mk [(2, .e (.one (.pure (.val (.bool v1)))))] []) (fun j1 h => ?_) (fun v1 h => ?_)
 ·refine Aa Ac rfl (qf GN rfl (ql CN rfl (Db rfl (qm rfl ?_))))
  refine AD (t := 6) rfl (fun c2 => ?_) (fun c2 => ?_)
  ·have h := Ao c2 h
   refine qf GN rfl (ql CN rfl (IR rfl (qp rfl (qm rfl ?_))))
   refine AD (t := 11) rfl (fun c3 => ?_) (fun c3 => ?_)
   ·have h := Ao c3 h
    refine qf F2 rfl (ql CN rfl (Db rfl (qp rfl (qm rfl ?_))))
    refine AD (t := 16) rfl (fun c4 => ?_) (fun c4 => ?_)
    ·have h := Ao c4 h
     refine qf H5 rfl (ql CN rfl (Db rfl (qp rfl (qm rfl ?_))))
     refine AD (t := 21) rfl (fun c5 => ?_) (fun c5 => ?_)
     ·have h := Ao c5 h
      refine qf GN rfl (ql CN rfl (BX rfl (qm rfl ?_)))
      refine AD (t := 25) rfl (fun c6 => ?_) (fun c6 => ?_)
      ·have h := Ao c6 h
       refine qn rfl (qn rfl (qn rfl (qp rfl (qp rfl (qa rfl (Ae ?_))))))
       exact Au _ h (sm [] _ _ rfl rfl)
      ·have h := An c6 h
       refine qf H5 rfl (ql CN rfl (BX rfl (qp rfl (qp rfl (qa rfl (Ae ?_))))))
       exact Au _ h (sm [] _ _ rfl rfl)
     ·have h := An c5 h
      refine qn rfl (qn rfl (qn rfl (qn rfl (qu rfl (qu rfl (qu rfl (qn rfl (qp rfl (qa rfl (Ae ?_))))))))))
      exact Au _ h (sm [] _ _ rfl rfl)
    ·have h := An c4 h
     refine qn rfl (qn rfl (qn rfl (qp rfl (qm rfl (qn rfl (qn rfl (qn rfl (qn rfl (qu rfl (qu rfl (qu rfl (qn rfl (qp rfl (qa rfl (Ae ?_)))))))))))))))
     exact Au _ h (sm [] _ _ rfl rfl)
   ·have h := An c3 h
    refine qn rfl (qn rfl (qn rfl (qp rfl (qm rfl (qn rfl (qn rfl (qn rfl (qp rfl (qm rfl (qn rfl (qn rfl (qn rfl (qn rfl (qu rfl (qu rfl (qu rfl (qn rfl (qp rfl (qa rfl (Ae ?_))))))))))))))))))))
    exact Au _ h (sm [] _ _ rfl rfl)
  ·have h := An c2 h
   refine qn rfl (qn rfl (qn rfl (qp rfl (qm rfl (qn rfl (qn rfl (qn rfl (qp rfl (qm rfl (qn rfl (qn rfl (qn rfl (qp rfl (qm rfl (qn rfl (qn rfl (qn rfl (qn rfl (qu rfl (qu rfl (qu rfl (qn rfl (qp rfl (qa rfl (Ae ?_)))))))))))))))))))))))))
   exact Au _ h (sm [] _ _ rfl rfl)
 ·obtain rfl := sj h
  refine Am (sm [] [(2, .e (.one (.pure (.val (.bool v1)))))] [] rfl rfl) (Az ?_)
  exact ⟨⟨[_], ⟨.tmp _ _ rfl, trivial⟩, rfl⟩, trivial⟩
set_option maxRecDepth 10000 in
theorem Hf (N : Nat) (p0 : Int) (p1 : Int) (r : Bool) (h : De N p0 p1 = some r) : AB Tryz.prog 114 [.e (.one (.pure (.val (.int .u8 p0)))), .e (.one (.pure (.val (.int .i64 p1))))] [] (.e (.one (.pure (.val (.bool r))))) := by
 unfold De at h
 refine As (n := 10) (rs := [.tmp 4]) Tryz.func114 rfl rfl rfl (A3 rfl) (A3 rfl) rfl fun w0 S0 => ?_
 refine Ab (Aa Ac rfl (qa rfl (Ae (Ab (Aa Ac rfl (qm rfl (qm rfl ?_)))))))
 obtain ⟨c1, h⟩ := AQ h
 refine Iq rfl c1 (LD rfl (BX rfl (qa rfl (Ae ?_))))
 obtain rfl := sj h
 refine Am (sm [] [(4, .e (.one (.pure (.val (.bool (((F4 .u8 ((Fa .u8 p0 p1)) 1) == 1)))))))] [] rfl rfl) (Az ?_)
 exact ⟨⟨[_], ⟨.tmp _ _ rfl, trivial⟩, rfl⟩, trivial⟩
set_option maxRecDepth 10000 in
theorem Jp (N : Nat) (p0 : Ak) (p1 : Ag) (p2 : Av) (r : Ag × Bool) (h : DI N p0 p1 p2 = some r) : AB Tryz.prog 73 [.e (.agg [.pure (.sl (p0.fVersions.map Al)), .pure (.sl (p0.fNow.map Al)), .pure (.sl (p0.fTarget.map Al)), .pure (.sl (p0.fTables.map Ar))]), .e (.agg [.pure (.sl (p1.fBase.map Al)), .pure (.sl (p1.fNext.map Al)), .pure (.sl (p1.fHeld.map Bg))]), .e (.agg [.pure (.val (.int .i64 p2.fKind)), .pure (.val (.int .i64 p2.fIndex)), .pure (.val (.int .i64 p2.fVersion))])] [(1, r.1.fBase.map Al), (1, r.1.fNext.map Al), (1, r.1.fHeld.map Bg)] (.tup [.agg [.own 0, .own 1, .own 2], .one (.pure (.val (.bool r.2)))]) := by
 unfold DI at h
 refine As (n := 201) (rs := [.cell 6 46, .tmp 7]) Tryz.func73 rfl rfl rfl (A3 rfl) (A3 rfl) rfl fun w0 S0 => ?_
 refine Ab (Aa Ac rfl (qb rfl (qb rfl (qb rfl (qz Dc rfl (qa rfl (Ae (Ab (Aa Ac rfl (EU AJ Ec Lb rfl (qf Dx rfl (ql Bo rfl ?_))))))))))))
 obtain ⟨c1, h⟩ := AQ h
 refine Lt (f := Al) AJ AJ Ec Nr Lb (fun _ => rfl) c1 rfl (EU AJ Ec Lb rfl (qf BK rfl (ql Bo rfl ?_)))
 obtain ⟨c2, h⟩ := AQ h
 refine Lt (f := Al) AJ AJ Ec Nr Lb (fun _ => rfl) c2 rfl (EU D0 GJ Oe rfl (qf Dm rfl (ql HV rfl ?_)))
 obtain ⟨c3, h⟩ := AQ h
 refine Lt (f := Bg) D0 D0 GJ Rp Oe (fun _ => rfl) c3 rfl (Bq Dc HS rfl (qz Dc rfl (qs Ay rfl (AA (by kernel_rfl) (Ab (Aa Ac rfl (qf F2 rfl (ql CN rfl (qa rfl (Ae ?_))))))))))
 refine AM h (fun v4 => mk [(6, .e (.one (.ptr 6 0))), (8, .e (.one (.ptr 8 0)))] [(6, .box [.pure (.nil0), .pure (.nil0), .pure (.nil0)]), (8, .box [.own 2001, .own 2002, .own 2003]), (2001, .vec 1 (v4.1.map Al)), (2002, .vec 1 (v4.2.1.map Al)), (2003, .vec 1 (v4.2.2.map Bg))]) (fun j4 h => ?_) (fun v4 h => ?_)
 ·refine Ab (Aa Ac rfl (qf GN rfl (ql CN rfl (Ae (AH (Ab (Aa Ac rfl (BX rfl (qa rfl (Ae ?_))))))))))
  refine Ap rfl (fun c5 => ?_) (fun c5 => ?_)
  ·have h := Ao c5 h
   refine Ab ?_
   refine AM h (fun v6 => mk [(3, .e (.one (.ptr 3 0))), (5, .e (.one (.ptr 5 0))), (6, .e (.one (.ptr 6 0))), (8, .e (.one (.ptr 8 0))), (9, .e (.one (.pure (.val (.int .i64 p2.fIndex))))), (60, .e (.one (.pure (.val (.bool v6)))))] [(3, .box [.pure (.sl (p0.fVersions.map Al)), .pure (.sl (p0.fNow.map Al)), .pure (.sl (p0.fTarget.map Al)), .pure (.sl (p0.fTables.map Ar))]), (5, .box [.pure (.val (.int .i64 p2.fKind)), .pure (.val (.int .i64 p2.fIndex)), .pure (.val (.int .i64 p2.fVersion))]), (6, .box [.pure (.nil0), .pure (.nil0), .pure (.nil0)]), (8, .box [.own 2004, .own 2005, .own 2006]), (2004, .vec 1 (((([] : List Int)) ++ p1.fBase).map Al)), (2005, .vec 1 (((([] : List Int)) ++ p1.fNext).map Al)), (2006, .vec 1 (((([] : List Int)) ++ p1.fHeld).map Bg))]) (fun j6 h => ?_) (fun v6 h => ?_)
   ·refine Aa Ac rfl (qf BK rfl (ql Bo rfl (qm rfl ?_)))
    obtain ⟨v7, a7, b7, h⟩ := Ai h
    refine qi AJ Ec a7 (Ah b7) rfl (qk CN rfl (Db rfl (qm rfl ?_)))
    refine AD (t := 51) rfl (fun c8 => ?_) (fun c8 => ?_)
    ·have h := Ao c8 h
     refine qn rfl (qn rfl (qn rfl (qn rfl (qn rfl (qn rfl (qn rfl (qn rfl (qp rfl (AA (by kernel_rfl) ?_)))))))))
     exact Au _ h (sm [(2004, 18), (2005, 22), (2006, 26)] _ _ rfl rfl)
    ·have h := An c8 h
     refine qf H5 rfl (ql CN rfl (qf Dx rfl (ql Bo rfl (qm rfl ?_))))
     obtain ⟨v9, a9, b9, h⟩ := Ai h
     refine qi AJ Ec a9 (Ah b9) rfl (qk CN rfl (BX rfl (qp rfl (AA (by kernel_rfl) ?_))))
     exact Au _ h (sm [(2004, 18), (2005, 22), (2006, 26)] _ _ rfl rfl)
   ·refine Ap rfl (fun c10 => ?_) (fun c10 => ?_)
    ·have h := Ao c10 h
     refine Ab (Aa Ac rfl (Bq Dc HS rfl (qs Ay rfl (qa rfl (Ae ?_)))))
     obtain rfl := sj h
     refine Am ((AF 6 0 2007 1 _ rfl rfl rfl rfl).trans ((AF 6 1 2008 1 _ rfl rfl rfl rfl).trans ((AF 6 2 2009 1 _ rfl rfl rfl rfl).trans (sm [(1000, 2007), (1001, 2008), (1002, 2009)] [(6, .e (.one (.ptr 6 0))), (7, .e (.one (.pure (.val (.bool false)))))] [(6, .box [.own 1000, .own 1001, .own 1002]), (1000, .vec 1 ((([] : List Int)).map Al)), (1001, .vec 1 ((([] : List Int)).map Al)), (1002, .vec 1 ((([] : List Int)).map Bg))] rfl rfl)))) (Az ?_)
     exact ⟨⟨[_, _], ⟨.cellN _ _ _ _ _ _ _ rfl rfl A4 Ay rfl rfl (Jw rfl), ⟨.tmp _ _ rfl, trivial⟩⟩, rfl⟩, ⟨rfl, rfl, rfl, trivial⟩⟩
    ·have h := An c10 h
     refine Aq (Ab (Aa Ac rfl (qf BK rfl (ql Bo rfl (qm rfl (qf H5 rfl (ql CN rfl ?_)))))))
     obtain ⟨v11, a11, b11, h⟩ := Ai h
     refine qI AJ Ec a11 (Ah b11) rfl ?_
     refine AV rfl rfl rfl rfl (Ah b11) rfl Ec rfl (A3 rfl) (AW Al ((([] : List Int)) ++ p1.fNext) _ p2.fVersion) ?_
     refine Ae (Ab (Aa Ac rfl (qa rfl (Ae ?_))))
     refine AC (L := Cw N p0 p2) h (fun v12 => mk [(3, .e (.one (.ptr 3 0))), (5, .e (.one (.ptr 5 0))), (6, .e (.one (.ptr 6 0))), (8, .e (.one (.ptr 8 0))), (9, .e (.one (.pure (.val (.int .i64 p2.fIndex))))), (10, .e (.one (.pure (.val (.int .i64 v12.2)))))] [(3, .box [.pure (.sl (p0.fVersions.map Al)), .pure (.sl (p0.fNow.map Al)), .pure (.sl (p0.fTarget.map Al)), .pure (.sl (p0.fTables.map Ar))]), (5, .box [.pure (.val (.int .i64 p2.fKind)), .pure (.val (.int .i64 p2.fIndex)), .pure (.val (.int .i64 p2.fVersion))]), (6, .box [.pure (.nil0), .pure (.nil0), .pure (.nil0)]), (8, .box [.own 2010, .own 2011, .own 2012]), (2010, .vec 1 (((([] : List Int)) ++ p1.fBase).map Al)), (2011, .vec 1 ((((([] : List Int)) ++ p1.fNext).set ((p2.fIndex).toNat) p2.fVersion).map Al)), (2012, .vec 1 (v12.1.map Bg))]) (fun v13 => mk [(6, .e (.one (.ptr 6 0))), (8, .e (.one (.ptr 8 0)))] [(6, .box [.pure (.nil0), .pure (.nil0), .pure (.nil0)]), (8, .box [.own 2013, .own 2014, .own 2015]), (2013, .vec 1 (((([] : List Int)) ++ p1.fBase).map Al)), (2014, .vec 1 ((((([] : List Int)) ++ p1.fNext).set ((p2.fIndex).toNat) p2.fVersion).map Al)), (2015, .vec 1 (v13.map Bg))]) (fun _ _ => rfl) (sm [(2010, 2004), (2011, 2005), (2012, 2006)] _ _ rfl rfl) (fun j12 n12 v12 h => ?_) (fun v13 s h hs => ?_)
     ·unfold Cw at h
      refine Ab (Ab (Aa Ac rfl (qm rfl (qf DS rfl (ql IM rfl (AU Fk rfl (AT rfl (Ae ?_))))))))
      refine Ap rfl (fun c14 => ?_) (fun c14 => ?_)
      ·have h := Ao c14 h
       refine Aq ?_
       refine AM h (fun v15 => mk [(3, .e (.one (.ptr 3 0))), (5, .e (.one (.ptr 5 0))), (6, .e (.one (.ptr 6 0))), (8, .e (.one (.ptr 8 0))), (9, .e (.one (.pure (.val (.int .i64 p2.fIndex))))), (10, .e (.one (.pure (.val (.int .i64 v12.2)))))] [(3, .box [.pure (.sl (p0.fVersions.map Al)), .pure (.sl (p0.fNow.map Al)), .pure (.sl (p0.fTarget.map Al)), .pure (.sl (p0.fTables.map Ar))]), (5, .box [.pure (.val (.int .i64 p2.fKind)), .pure (.val (.int .i64 p2.fIndex)), .pure (.val (.int .i64 p2.fVersion))]), (6, .box [.pure (.nil0), .pure (.nil0), .pure (.nil0)]), (8, .box [.own 2016, .own 2017, .own 2018]), (2016, .vec 1 (((([] : List Int)) ++ p1.fBase).map Al)), (2017, .vec 1 ((((([] : List Int)) ++ p1.fNext).set ((p2.fIndex).toNat) p2.fVersion).map Al)), (2018, .vec 1 (v15.map Bg))]) (fun j15 h => ?_) (fun v15 h => ?_)
       ·refine AH ?_
        refine AM h (fun v16 => mk [(3, .e (.one (.ptr 3 0))), (5, .e (.one (.ptr 5 0))), (6, .e (.one (.ptr 6 0))), (8, .e (.one (.ptr 8 0))), (9, .e (.one (.pure (.val (.int .i64 p2.fIndex))))), (10, .e (.one (.pure (.val (.int .i64 v12.2))))), (90, .e (.one (.pure (.val (.bool v16)))))] [(3, .box [.pure (.sl (p0.fVersions.map Al)), .pure (.sl (p0.fNow.map Al)), .pure (.sl (p0.fTarget.map Al)), .pure (.sl (p0.fTables.map Ar))]), (5, .box [.pure (.val (.int .i64 p2.fKind)), .pure (.val (.int .i64 p2.fIndex)), .pure (.val (.int .i64 p2.fVersion))]), (6, .box [.pure (.nil0), .pure (.nil0), .pure (.nil0)]), (8, .box [.own 2019, .own 2020, .own 2021]), (2019, .vec 1 (((([] : List Int)) ++ p1.fBase).map Al)), (2020, .vec 1 ((((([] : List Int)) ++ p1.fNext).set ((p2.fIndex).toNat) p2.fVersion).map Al)), (2021, .vec 1 (v12.1.map Bg))]) (fun j16 h => ?_) (fun v16 h => ?_)
        ·refine Aa Ac rfl (qf DS rfl (ql IM rfl (qm rfl ?_)))
         obtain ⟨v17, a17, b17, h⟩ := Ai h
         refine qi Fk Fe a17 (Ah b17) rfl (qg D3 rfl (qk CN rfl (qm rfl (BX rfl (qm rfl ?_)))))
         refine AD (t := 83) rfl (fun c18 => ?_) (fun c18 => ?_)
         ·have h := Ao c18 h
          refine qf DS rfl (ql IM rfl (qm rfl ?_))
          obtain ⟨v19, a19, b19, h⟩ := Ai h
          refine qi Fk Fe a19 (Ah b19) rfl (qK IN Fe rfl ?_)
          obtain ⟨v20, a20, h⟩ := bind_some h
          refine AG [] (C1 N v19 v20 a20) PZ rfl (qp rfl (Ae ?_))
          exact Au _ h (sm [(2019, 2010), (2020, 2011), (2021, 2012)] _ _ rfl rfl)
         ·have h := An c18 h
          refine qn rfl (qn rfl (qn rfl (qn rfl (qn rfl (qn rfl (qp rfl (Ae ?_)))))))
          exact Au _ h (sm [(2019, 2010), (2020, 2011), (2021, 2012)] _ _ rfl rfl)
        ·refine Ap rfl (fun c21 => ?_) (fun c21 => ?_)
         ·have h := Ao c21 h
          refine Aa Ac rfl (qf Dm rfl (ql HV rfl (qm rfl (qf Dm rfl (ql HV rfl (qm rfl ?_))))))
          obtain ⟨v22, a22, b22, h⟩ := Ai h
          refine qI D0 GJ a22 (Ah b22) rfl (qj KY (Ah b22) rfl (qf H5 rfl (ql CN rfl ?_)))
          obtain ⟨c23, h⟩ := AQ h
          refine I9 rfl c23 (Tq rfl ?_)
          obtain ⟨v24, a24, b24, h⟩ := Ai h
          refine qI D0 GJ a24 (Ah b24) rfl ?_
          refine AV rfl rfl rfl rfl (Ah b24) rfl GJ rfl (A3 rfl) (AW Bg v12.1 _ ((M5 .u8 v22 ((Dy .u8 1 p2.fVersion))))) ?_
          refine AA (by kernel_rfl) ?_
          exact Au _ h (sm [(2016, 2019), (2017, 2020), (2018, 2021)] _ _ rfl rfl)
         ·have h := An c21 h
          refine Aq ?_
          exact Au _ h (sm [(2016, 2019), (2017, 2020), (2018, 2021)] _ _ rfl rfl)
       ·refine Aa Ac rfl (qm rfl (AN rfl (qa rfl (Ae ?_))))
        exact Au _ h (sm [(2010, 2016), (2011, 2017), (2012, 2018)] _ _ rfl rfl)
      ·have h := An c14 h
       refine AP ?_
       exact Au _ h (sm [(2013, 2010), (2014, 2011), (2015, 2012)] _ _ rfl rfl)
     ·exact Au _ h (hs.trans (sm [(2001, 2013), (2002, 2014), (2003, 2015)] _ _ rfl rfl))
  ·have h := An c5 h
   refine Ab (Aa Ac rfl (BX rfl (qa rfl (Ae ?_))))
   refine Ap rfl (fun c25 => ?_) (fun c25 => ?_)
   ·have h := Ao c25 h
    refine Ab (Ab (Aa Ac rfl (qf BK rfl (ql Bo rfl (qm rfl ?_)))))
    obtain ⟨v26, a26, b26, h⟩ := Ai h
    refine qi AJ Ec a26 (Ah b26) rfl (qk CN rfl (AT rfl (Ae ?_)))
    refine Ap rfl (fun c27 => ?_) (fun c27 => ?_)
    ·have h := Ao c27 h
     refine Ab (Aa Ac rfl (Bq Dc HS rfl (qs Ay rfl (qa rfl (Ae ?_)))))
     obtain rfl := sj h
     refine Am ((AF 6 0 2022 1 _ rfl rfl rfl rfl).trans ((AF 6 1 2023 1 _ rfl rfl rfl rfl).trans ((AF 6 2 2024 1 _ rfl rfl rfl rfl).trans (sm [(1000, 2022), (1001, 2023), (1002, 2024)] [(6, .e (.one (.ptr 6 0))), (7, .e (.one (.pure (.val (.bool false)))))] [(6, .box [.own 1000, .own 1001, .own 1002]), (1000, .vec 1 ((([] : List Int)).map Al)), (1001, .vec 1 ((([] : List Int)).map Al)), (1002, .vec 1 ((([] : List Int)).map Bg))] rfl rfl)))) (Az ?_)
     exact ⟨⟨[_, _], ⟨.cellN _ _ _ _ _ _ _ rfl rfl A4 Ay rfl rfl (Jw rfl), ⟨.tmp _ _ rfl, trivial⟩⟩, rfl⟩, ⟨rfl, rfl, rfl, trivial⟩⟩
    ·have h := An c27 h
     refine Aq (Aa Ac rfl (qf Dx rfl (ql Bo rfl (qm rfl (qf BK rfl (ql Bo rfl (qm rfl (qf BK rfl (ql Bo rfl (qm rfl ?_))))))))))
     obtain ⟨v28, a28, b28, h⟩ := Ai h
     refine qi AJ Ec a28 (Ah b28) rfl (qk CN rfl ?_)
     obtain ⟨v29, a29, b29, h⟩ := Ai h
     refine qI AJ Ec a29 (Ah b29) rfl ?_
     refine AV rfl rfl rfl rfl (Ah b29) rfl Ec rfl (A3 rfl) (AW Al ((([] : List Int)) ++ p1.fBase) _ v28) ?_
     obtain ⟨v30, a30, b30, h⟩ := Ai h
     refine qI AJ Ec a30 (Ah b30) rfl ?_
     refine AV rfl rfl rfl rfl (Ah b30) rfl Ec rfl (A3 rfl) (AW Al ((([] : List Int)) ++ p1.fNext) _ ((-1))) ?_
     refine AA (by kernel_rfl) ?_
     exact Au _ h (sm [(2001, 18), (2002, 22), (2003, 26)] _ _ rfl rfl)
   ·have h := An c25 h
    refine Ab (Aa Ac rfl (BX rfl (qa rfl (Ae ?_))))
    refine Ap rfl (fun c31 => ?_) (fun c31 => ?_)
    ·have h := Ao c31 h
     refine Ab (Aa Ac rfl (qf DS rfl (ql IM rfl (qm rfl ?_))))
     obtain ⟨v32, a32, b32, h⟩ := Ai h
     refine qi Fk Fe a32 (Ah b32) rfl (qK IN Fe rfl (qz LW rfl (qs Fe rfl (Ae (Ab (Ab (Aa Ac rfl (qL IN Fe rfl ?_))))))))
     obtain ⟨v33, a33, h⟩ := bind_some h
     refine AG [] (C1 N v32 v33 a33) PZ rfl (Cb rfl (Ae ?_))
     refine Ap rfl (fun c34 => ?_) (fun c34 => ?_)
     ·have h := Ao c34 h
      refine Ab (Aa Ac rfl (Bq Dc HS rfl (qs Ay rfl (qa rfl (Ae ?_)))))
      obtain rfl := sj h
      refine Am ((AF 6 0 2025 1 _ rfl rfl rfl rfl).trans ((AF 6 1 2026 1 _ rfl rfl rfl rfl).trans ((AF 6 2 2027 1 _ rfl rfl rfl rfl).trans (sm [(1000, 2025), (1001, 2026), (1002, 2027)] [(6, .e (.one (.ptr 6 0))), (7, .e (.one (.pure (.val (.bool false)))))] [(6, .box [.own 1000, .own 1001, .own 1002]), (1000, .vec 1 ((([] : List Int)).map Al)), (1001, .vec 1 ((([] : List Int)).map Al)), (1002, .vec 1 ((([] : List Int)).map Bg))] rfl rfl)))) (Az ?_)
      exact ⟨⟨[_, _], ⟨.cellN _ _ _ _ _ _ _ rfl rfl A4 Ay rfl rfl (Jw rfl), ⟨.tmp _ _ rfl, trivial⟩⟩, rfl⟩, ⟨rfl, rfl, rfl, trivial⟩⟩
     ·have h := An c34 h
      refine Aq (Ab (Aa Ac rfl (qL A4 Ay rfl (qf D3 rfl (ql CN rfl ?_)))))
      obtain ⟨v35, a35, h⟩ := bind_some h
      refine AG [] (Ex N p1 v32.fFrom v35 a35) To rfl (qa rfl (Ae (Ab (Ab (Aa Ac rfl (qf Dm rfl (ql HV rfl (qm rfl ?_))))))))
      obtain ⟨v36, a36, b36, h⟩ := Ai h
      refine qi D0 GJ a36 (Ah b36) rfl (qk KY rfl (qm rfl (BX rfl (Ae ?_))))
      refine Ap rfl (fun c37 => ?_) (fun c37 => ?_)
      ·have h := Ao c37 h
       refine Ab (Aa Ac rfl (Bq Dc HS rfl (qs Ay rfl (qa rfl (Ae ?_)))))
       obtain rfl := sj h
       refine Am ((AF 6 0 2028 1 _ rfl rfl rfl rfl).trans ((AF 6 1 2029 1 _ rfl rfl rfl rfl).trans ((AF 6 2 2030 1 _ rfl rfl rfl rfl).trans (sm [(1000, 2028), (1001, 2029), (1002, 2030)] [(6, .e (.one (.ptr 6 0))), (7, .e (.one (.pure (.val (.bool false)))))] [(6, .box [.own 1000, .own 1001, .own 1002]), (1000, .vec 1 ((([] : List Int)).map Al)), (1001, .vec 1 ((([] : List Int)).map Al)), (1002, .vec 1 ((([] : List Int)).map Bg))] rfl rfl)))) (Az ?_)
       exact ⟨⟨[_, _], ⟨.cellN _ _ _ _ _ _ _ rfl rfl A4 Ay rfl rfl (Jw rfl), ⟨.tmp _ _ rfl, trivial⟩⟩, rfl⟩, ⟨rfl, rfl, rfl, trivial⟩⟩
      ·have h := An c37 h
       refine Aq (Ab (Ab (Aa Ac rfl (qa rfl (Ae ?_)))))
       refine AC (L := B7 N p0 p1 p2 v32 v35) h (fun v38 => mk [(3, .e (.one (.ptr 3 0))), (4, .e (.one (.ptr 4 0))), (6, .e (.one (.ptr 6 0))), (8, .e (.one (.ptr 8 0))), (9, .e (.one (.pure (.val (.int .i64 p2.fIndex))))), (11, .e (.one (.ptr 11 0))), (12, .e (.one (.pure (.val (.int .u8 v35))))), (13, .e (.one (.pure (.val (.int .i64 v38)))))] [(3, .box [.pure (.sl (p0.fVersions.map Al)), .pure (.sl (p0.fNow.map Al)), .pure (.sl (p0.fTarget.map Al)), .pure (.sl (p0.fTables.map Ar))]), (4, .box [.pure (.sl (p1.fBase.map Al)), .pure (.sl (p1.fNext.map Al)), .pure (.sl (p1.fHeld.map Bg))]), (6, .box [.pure (.nil0), .pure (.nil0), .pure (.nil0)]), (8, .box [.own 2031, .own 2032, .own 2033]), (11, .box [.pure (.val (.int .i64 v32.fKind)), .pure (.val (.int .i64 v32.fFrom)), .pure (.val (.int .i64 v32.fTo)), .pure (.val (.bool v32.fAware)), .pure (.sl (v32.fOK.map (FZ eB))), .pure (.sl (v32.fRewrite.map (FZ eB)))]), (2031, .vec 1 (((([] : List Int)) ++ p1.fBase).map Al)), (2032, .vec 1 (((([] : List Int)) ++ p1.fNext).map Al)), (2033, .vec 1 (((([] : List Int)) ++ p1.fHeld).map Bg))]) (fun v39 => mk [(6, .e (.one (.ptr 6 0))), (8, .e (.one (.ptr 8 0))), (9, .e (.one (.pure (.val (.int .i64 p2.fIndex))))), (12, .e (.one (.pure (.val (.int .u8 v35)))))] [(6, .box [.pure (.nil0), .pure (.nil0), .pure (.nil0)]), (8, .box [.own 2034, .own 2035, .own 2036]), (2034, .vec 1 (((([] : List Int)) ++ p1.fBase).map Al)), (2035, .vec 1 (((([] : List Int)) ++ p1.fNext).map Al)), (2036, .vec 1 (((([] : List Int)) ++ p1.fHeld).map Bg))]) (fun _ _ => rfl) (sm [(2031, 18), (2032, 22), (2033, 26)] _ _ rfl rfl) (fun j38 n38 v38 h => ?_) (fun v39 s h hs => ?_)
       ·unfold B7 at h
        refine Ab (Ab (Aa Ac rfl (qm rfl (qf BF rfl (ql Bo rfl (qf D3 rfl (ql CN rfl ?_)))))))
        obtain ⟨v40, a40, b40, h⟩ := Ai h
        refine qi AJ Ec a40 (Ah b40) rfl (qk CN rfl (AT rfl (Ae ?_)))
        refine Ap rfl (fun c41 => ?_) (fun c41 => ?_)
        ·have h := Ao c41 h
         refine Aq (Ab (AH ?_))
         refine AM h (fun v42 => mk [(3, .e (.one (.ptr 3 0))), (4, .e (.one (.ptr 4 0))), (6, .e (.one (.ptr 6 0))), (8, .e (.one (.ptr 8 0))), (9, .e (.one (.pure (.val (.int .i64 p2.fIndex))))), (11, .e (.one (.ptr 11 0))), (12, .e (.one (.pure (.val (.int .u8 v35))))), (13, .e (.one (.pure (.val (.int .i64 v38))))), (14, .e (.one (.pure (.val (.bool v42)))))] [(3, .box [.pure (.sl (p0.fVersions.map Al)), .pure (.sl (p0.fNow.map Al)), .pure (.sl (p0.fTarget.map Al)), .pure (.sl (p0.fTables.map Ar))]), (4, .box [.pure (.sl (p1.fBase.map Al)), .pure (.sl (p1.fNext.map Al)), .pure (.sl (p1.fHeld.map Bg))]), (6, .box [.pure (.nil0), .pure (.nil0), .pure (.nil0)]), (8, .box [.own 2037, .own 2038, .own 2039]), (11, .box [.pure (.val (.int .i64 v32.fKind)), .pure (.val (.int .i64 v32.fFrom)), .pure (.val (.int .i64 v32.fTo)), .pure (.val (.bool v32.fAware)), .pure (.sl (v32.fOK.map (FZ eB))), .pure (.sl (v32.fRewrite.map (FZ eB)))]), (2037, .vec 1 (((([] : List Int)) ++ p1.fBase).map Al)), (2038, .vec 1 (((([] : List Int)) ++ p1.fNext).map Al)), (2039, .vec 1 (((([] : List Int)) ++ p1.fHeld).map Bg))]) (fun j42 h => ?_) (fun v42 h => ?_)
         ·refine Aa Ac rfl (qf Dm rfl (ql HV rfl (qm rfl ?_)))
          obtain ⟨v43, a43, b43, h⟩ := Ai h
          refine qi D0 GJ a43 (Ah b43) rfl (qk KY rfl (qm rfl ?_))
          obtain ⟨v44, a44, h⟩ := bind_some h
          refine AG [] (Hf N v43 v38 v44 a44) Sx rfl (qm rfl ?_)
          refine AD (t := 166) rfl (fun c45 => ?_) (fun c45 => ?_)
          ·have h := Ao c45 h
           refine qm rfl (qm rfl ?_)
           obtain ⟨v46, a46, h⟩ := bind_some h
           refine AG [] (Hf N v35 v38 v46 a46) Sx rfl (Cb rfl (qp rfl (qa rfl (Ae ?_))))
           exact Au _ h (sm [(2037, 2031), (2038, 2032), (2039, 2033)] _ _ rfl rfl)
          ·have h := An c45 h
           refine qn rfl (qn rfl (qn rfl (qn rfl (qp rfl (qa rfl (Ae ?_))))))
           exact Au _ h (sm [(2037, 2031), (2038, 2032), (2039, 2033)] _ _ rfl rfl)
         ·refine AM h (fun v47 => mk [(3, .e (.one (.ptr 3 0))), (4, .e (.one (.ptr 4 0))), (6, .e (.one (.ptr 6 0))), (8, .e (.one (.ptr 8 0))), (9, .e (.one (.pure (.val (.int .i64 p2.fIndex))))), (11, .e (.one (.ptr 11 0))), (12, .e (.one (.pure (.val (.int .u8 v35))))), (13, .e (.one (.pure (.val (.int .i64 v38))))), (193, .e (.one (.pure (.val (.bool v47)))))] [(3, .box [.pure (.sl (p0.fVersions.map Al)), .pure (.sl (p0.fNow.map Al)), .pure (.sl (p0.fTarget.map Al)), .pure (.sl (p0.fTables.map Ar))]), (4, .box [.pure (.sl (p1.fBase.map Al)), .pure (.sl (p1.fNext.map Al)), .pure (.sl (p1.fHeld.map Bg))]), (6, .box [.pure (.nil0), .pure (.nil0), .pure (.nil0)]), (8, .box [.own 2040, .own 2041, .own 2042]), (11, .box [.pure (.val (.int .i64 v32.fKind)), .pure (.val (.int .i64 v32.fFrom)), .pure (.val (.int .i64 v32.fTo)), .pure (.val (.bool v32.fAware)), .pure (.sl (v32.fOK.map (FZ eB))), .pure (.sl (v32.fRewrite.map (FZ eB)))]), (2040, .vec 1 (((([] : List Int)) ++ p1.fBase).map Al)), (2041, .vec 1 (((([] : List Int)) ++ p1.fNext).map Al)), (2042, .vec 1 (((([] : List Int)) ++ p1.fHeld).map Bg))]) (fun j47 h => ?_) (fun v47 h => ?_)
          ·refine Aa Ac rfl (qm rfl (qm rfl ?_))
           refine AD (t := 173) rfl (fun c48 => ?_) (fun c48 => ?_)
           ·have h := Ao c48 h
            refine qf Hh rfl (ql CN rfl (BX rfl (qp rfl (qm rfl ?_))))
            refine AD (t := 178) rfl (fun c49 => ?_) (fun c49 => ?_)
            ·have h := Ao c49 h
             refine qf H9 rfl (ql Lz rfl (qm rfl ?_))
             obtain ⟨v50, a50, b50, h⟩ := Ai h
             refine qi HK N2 a50 (Ah b50) rfl (qk Qs rfl (qf Dx rfl (ql Bo rfl (qf D3 rfl (ql CN rfl ?_)))))
             obtain ⟨v51, a51, b51, h⟩ := Ai h
             refine qi AJ Ec a51 (Ah b51) rfl (qk CN rfl ?_)
             obtain ⟨v52, a52, b52, h⟩ := Ai h
             refine qi HY QO a52 (Ah b52) rfl (qk SX rfl (Cb rfl (qp rfl (AA (by kernel_rfl) ?_))))
             exact Au _ h (sm [(2040, 2037), (2041, 2038), (2042, 2039)] _ _ rfl rfl)
            ·have h := An c49 h
             refine qn rfl (qn rfl (qn rfl (qn rfl (qn rfl (qn rfl (qn rfl (qn rfl (qn rfl (qn rfl (qn rfl (qn rfl (qn rfl (qn rfl (qp rfl (AA (by kernel_rfl) ?_)))))))))))))))
             exact Au _ h (sm [(2040, 2037), (2041, 2038), (2042, 2039)] _ _ rfl rfl)
           ·have h := An c48 h
            refine qn rfl (qn rfl (qn rfl (qp rfl (qm rfl (qn rfl (qn rfl (qn rfl (qn rfl (qn rfl (qn rfl (qn rfl (qn rfl (qn rfl (qn rfl (qn rfl (qn rfl (qn rfl (qn rfl (qp rfl (AA (by kernel_rfl) ?_))))))))))))))))))))
            exact Au _ h (sm [(2040, 2037), (2041, 2038), (2042, 2039)] _ _ rfl rfl)
          ·refine Ap rfl (fun c53 => ?_) (fun c53 => ?_)
           ·have h := Ao c53 h
            refine Ab (Aa Ac rfl (Bq Dc HS rfl (qs Ay rfl (qa rfl (Ae ?_)))))
            obtain rfl := sj h
            refine Am ((AF 6 0 2043 1 _ rfl rfl rfl rfl).trans ((AF 6 1 2044 1 _ rfl rfl rfl rfl).trans ((AF 6 2 2045 1 _ rfl rfl rfl rfl).trans (sm [(1000, 2043), (1001, 2044), (1002, 2045)] [(6, .e (.one (.ptr 6 0))), (7, .e (.one (.pure (.val (.bool false)))))] [(6, .box [.own 1000, .own 1001, .own 1002]), (1000, .vec 1 ((([] : List Int)).map Al)), (1001, .vec 1 ((([] : List Int)).map Al)), (1002, .vec 1 ((([] : List Int)).map Bg))] rfl rfl)))) (Az ?_)
            exact ⟨⟨[_, _], ⟨.cellN _ _ _ _ _ _ _ rfl rfl A4 Ay rfl rfl (Jw rfl), ⟨.tmp _ _ rfl, trivial⟩⟩, rfl⟩, ⟨rfl, rfl, rfl, trivial⟩⟩
           ·have h := An c53 h
            refine Aq (Aa Ac rfl (qm rfl (AN rfl (qa rfl (Ae ?_)))))
            exact Au _ h (sm [(2031, 2040), (2032, 2041), (2033, 2042)] _ _ rfl rfl)
        ·have h := An c41 h
         refine AP ?_
         exact Au _ h (sm [(2034, 2031), (2035, 2032), (2036, 2033)] _ _ rfl rfl)
       ·refine Am hs (Aa Ac rfl (qf Dm rfl (ql HV rfl (qm rfl (qm rfl ?_)))))
        obtain ⟨v54, a54, b54, h⟩ := Ai h
        refine qI D0 GJ a54 (Ah b54) rfl ?_
        refine AV rfl rfl rfl rfl (Ah b54) rfl GJ rfl (A3 rfl) (AW Bg ((([] : List Int)) ++ p1.fHeld) _ v35) ?_
        refine Ae ?_
        exact Au _ h (sm [(2001, 2034), (2002, 2035), (2003, 2036)] _ _ rfl rfl)
    ·have h := An c31 h
     refine Ab (Ab (Aa Ac rfl (qf BK rfl (ql Bo rfl (qm rfl ?_)))))
     obtain ⟨v55, a55, b55, h⟩ := Ai h
     refine qi AJ Ec a55 (Ah b55) rfl (qk CN rfl (AT rfl (Ae ?_)))
     refine Ap rfl (fun c56 => ?_) (fun c56 => ?_)
     ·have h := Ao c56 h
      refine Ab (Aa Ac rfl (Bq Dc HS rfl (qs Ay rfl (qa rfl (Ae ?_)))))
      obtain rfl := sj h
      refine Am ((AF 6 0 2046 1 _ rfl rfl rfl rfl).trans ((AF 6 1 2047 1 _ rfl rfl rfl rfl).trans ((AF 6 2 2048 1 _ rfl rfl rfl rfl).trans (sm [(1000, 2046), (1001, 2047), (1002, 2048)] [(6, .e (.one (.ptr 6 0))), (7, .e (.one (.pure (.val (.bool false)))))] [(6, .box [.own 1000, .own 1001, .own 1002]), (1000, .vec 1 ((([] : List Int)).map Al)), (1001, .vec 1 ((([] : List Int)).map Al)), (1002, .vec 1 ((([] : List Int)).map Bg))] rfl rfl)))) (Az ?_)
      exact ⟨⟨[_, _], ⟨.cellN _ _ _ _ _ _ _ rfl rfl A4 Ay rfl rfl (Jw rfl), ⟨.tmp _ _ rfl, trivial⟩⟩, rfl⟩, ⟨rfl, rfl, rfl, trivial⟩⟩
     ·have h := An c56 h
      refine Aq (Aa Ac rfl (qf BK rfl (ql Bo rfl (qm rfl ?_))))
      obtain ⟨v57, a57, b57, h⟩ := Ai h
      refine qI AJ Ec a57 (Ah b57) rfl ?_
      refine AV rfl rfl rfl rfl (Ah b57) rfl Ec rfl (A3 rfl) (AW Al ((([] : List Int)) ++ p1.fNext) _ ((-1))) ?_
      refine Ae ?_
      exact Au _ h (sm [(2001, 18), (2002, 22), (2003, 26)] _ _ rfl rfl)
 ·refine Ab (Aa Ac rfl (qL A4 Ay rfl (qs Ay rfl (qa rfl (Ae ?_)))))
  obtain rfl := sj h
  refine Am (sm [(1000, 2001), (1001, 2002), (1002, 2003)] [(6, .e (.one (.ptr 6 0))), (7, .e (.one (.pure (.val (.bool true)))))] [(6, .box [.own 1000, .own 1001, .own 1002]), (1000, .vec 1 (v4.1.map Al)), (1001, .vec 1 (v4.2.1.map Al)), (1002, .vec 1 (v4.2.2.map Bg))] rfl rfl) (Az ?_)
  exact ⟨⟨[_, _], ⟨.cellN _ _ _ _ _ _ _ rfl rfl A4 Ay rfl rfl (Jw rfl), ⟨.tmp _ _ rfl, trivial⟩⟩, rfl⟩, ⟨rfl, rfl, rfl, trivial⟩⟩
set_option maxRecDepth 10000 in
theorem L4 (N : Nat) (p0 : Ak) (p1 : Ag) (p2 : Av) (r : Ag × Int) (h : Fm N p0 p1 p2 = some r) : AB Tryz.prog 113 [.e (.agg [.pure (.sl (p0.fVersions.map Al)), .pure (.sl (p0.fNow.map Al)), .pure (.sl (p0.fTarget.map Al)), .pure (.sl (p0.fTables.map Ar))]), .e (.agg [.pure (.sl (p1.fBase.map Al)), .pure (.sl (p1.fNext.map Al)), .pure (.sl (p1.fHeld.map Bg))]), .e (.agg [.pure (.val (.int .i64 p2.fKind)), .pure (.val (.int .i64 p2.fIndex)), .pure (.val (.int .i64 p2.fVersion))])] [(1, r.1.fBase.map Al), (1, r.1.fNext.map Al), (1, r.1.fHeld.map Bg)] (.tup [.agg [.own 0, .own 1, .own 2], .one (.pure (.val (.int .i64 r.2)))]) := by
 unfold Fm at h
 refine As (n := 73) (rs := [.cell 6 46, .tmp 7]) Tryz.func113 rfl rfl rfl (A3 rfl) (A3 rfl) rfl fun w0 S0 => ?_
 refine Ab (Aa Ac rfl (qb rfl (qb rfl (qb rfl (qz Dc rfl (qa rfl (Ae (Ab (Ab (Aa Ac rfl (qL EH Ep rfl (qL A4 Ay rfl ?_))))))))))))
 obtain ⟨v1, a1, h⟩ := bind_some h
 refine AG [] (HR N p0 p1 v1 a1) WO rfl (qa rfl (Ae (Ab (Aa Ac rfl (qm rfl (Ct rfl (Ae ?_)))))))
 refine Ap rfl (fun c2 => ?_) (fun c2 => ?_)
 ·have h := Ao c2 h
  refine Ab (Aa Ac rfl (Bq Dc HS rfl (qm rfl (qs Ay rfl (qa rfl (Ae ?_))))))
  obtain rfl := sj h
  refine Am ((AF 6 0 2001 1 _ rfl rfl rfl rfl).trans ((AF 6 1 2002 1 _ rfl rfl rfl rfl).trans ((AF 6 2 2003 1 _ rfl rfl rfl rfl).trans (sm [(1000, 2001), (1001, 2002), (1002, 2003)] [(6, .e (.one (.ptr 6 0))), (7, .e (.one (.pure (.val (.int .i64 v1)))))] [(6, .box [.own 1000, .own 1001, .own 1002]), (1000, .vec 1 ((([] : List Int)).map Al)), (1001, .vec 1 ((([] : List Int)).map Al)), (1002, .vec 1 ((([] : List Int)).map Bg))] rfl rfl)))) (Az ?_)
  exact ⟨⟨[_, _], ⟨.cellN _ _ _ _ _ _ _ rfl rfl A4 Ay rfl rfl (Jw rfl), ⟨.tmp _ _ rfl, trivial⟩⟩, rfl⟩, ⟨rfl, rfl, rfl, trivial⟩⟩
 ·have h := An c2 h
  refine Aq (Ab (Ab (Aa Ac rfl (qL I2 Ft rfl ?_))))
  obtain ⟨v3, a3, h⟩ := bind_some h
  refine AG [] (LX N p2 v3 a3) XN rfl (Cb rfl (Ae ?_))
  refine Ap rfl (fun c4 => ?_) (fun c4 => ?_)
  ·have h := Ao c4 h
   refine Ab (Aa Ac rfl (Bq Dc HS rfl (qs Ay rfl (qa rfl (Ae ?_)))))
   obtain rfl := sj h
   refine Am ((AF 6 0 2004 1 _ rfl rfl rfl rfl).trans ((AF 6 1 2005 1 _ rfl rfl rfl rfl).trans ((AF 6 2 2006 1 _ rfl rfl rfl rfl).trans (sm [(1000, 2004), (1001, 2005), (1002, 2006)] [(6, .e (.one (.ptr 6 0))), (7, .e (.one (.pure (.val (.int .i64 1)))))] [(6, .box [.own 1000, .own 1001, .own 1002]), (1000, .vec 1 ((([] : List Int)).map Al)), (1001, .vec 1 ((([] : List Int)).map Al)), (1002, .vec 1 ((([] : List Int)).map Bg))] rfl rfl)))) (Az ?_)
   exact ⟨⟨[_, _], ⟨.cellN _ _ _ _ _ _ _ rfl rfl A4 Ay rfl rfl (Jw rfl), ⟨.tmp _ _ rfl, trivial⟩⟩, rfl⟩, ⟨rfl, rfl, rfl, trivial⟩⟩
  ·have h := An c4 h
   refine Aq (Ab ?_)
   refine AM h (fun v5 => mk [(3, .e (.one (.ptr 3 0))), (4, .e (.one (.ptr 4 0))), (5, .e (.one (.ptr 5 0))), (6, .e (.one (.ptr 6 0))), (45, .e (.one (.pure (.val (.bool v5)))))] [(3, .box [.pure (.sl (p0.fVersions.map Al)), .pure (.sl (p0.fNow.map Al)), .pure (.sl (p0.fTarget.map Al)), .pure (.sl (p0.fTables.map Ar))]), (4, .box [.pure (.sl (p1.fBase.map Al)), .pure (.sl (p1.fNext.map Al)), .pure (.sl (p1.fHeld.map Bg))]), (5, .box [.pure (.val (.int .i64 p2.fKind)), .pure (.val (.int .i64 p2.fIndex)), .pure (.val (.int .i64 p2.fVersion))]), (6, .box [.pure (.nil0), .pure (.nil0), .pure (.nil0)])]) (fun j5 h => ?_) (fun v5 h => ?_)
   ·refine Aa Ac rfl (qf GN rfl (ql CN rfl (BX rfl (qm rfl ?_))))
    refine AD (t := 25) rfl (fun c6 => ?_) (fun c6 => ?_)
    ·have h := Ao c6 h
     refine qf F2 rfl (ql CN rfl (qf DS rfl (ql IM rfl (AU Fk rfl (Db rfl (qp rfl (qm rfl ?_)))))))
     refine AD (t := 33) rfl (fun c7 => ?_) (fun c7 => ?_)
     ·have h := Ao c7 h
      refine qn rfl (qn rfl (qn rfl (qn rfl (qu rfl (qu rfl (qu rfl (qu rfl (qu rfl (qu rfl (qn rfl (qp rfl (Ae ?_))))))))))))
      exact Au _ h (sm [] _ _ rfl rfl)
     ·have h := An c7 h
      refine qf GN rfl (ql CN rfl (Ct rfl (qm rfl ?_)))
      refine AD (t := 37) rfl (fun c8 => ?_) (fun c8 => ?_)
      ·have h := Ao c8 h
       refine qf F2 rfl (ql CN rfl (qf BF rfl (ql Bo rfl (AU AJ rfl (Db rfl (qp rfl (qp rfl (Ae ?_))))))))
       exact Au _ h (sm [] _ _ rfl rfl)
      ·have h := An c8 h
       refine qn rfl (qn rfl (qn rfl (qn rfl (qn rfl (qn rfl (qp rfl (qp rfl (Ae ?_))))))))
       exact Au _ h (sm [] _ _ rfl rfl)
    ·have h := An c6 h
     refine qn rfl (qn rfl (qn rfl (qn rfl (qn rfl (qn rfl (qp rfl (qm rfl (qf GN rfl (ql CN rfl (Ct rfl (qm rfl ?_)))))))))))
     refine AD (t := 37) rfl (fun c9 => ?_) (fun c9 => ?_)
     ·have h := Ao c9 h
      refine qf F2 rfl (ql CN rfl (qf BF rfl (ql Bo rfl (AU AJ rfl (Db rfl (qp rfl (qp rfl (Ae ?_))))))))
      exact Au _ h (sm [] _ _ rfl rfl)
     ·have h := An c9 h
      refine qn rfl (qn rfl (qn rfl (qn rfl (qn rfl (qn rfl (qp rfl (qp rfl (Ae ?_))))))))
      exact Au _ h (sm [] _ _ rfl rfl)
   ·refine Ap rfl (fun c10 => ?_) (fun c10 => ?_)
    ·have h := Ao c10 h
     refine Ab (Aa Ac rfl (Bq Dc HS rfl (qs Ay rfl (qa rfl (Ae ?_)))))
     obtain rfl := sj h
     refine Am ((AF 6 0 2007 1 _ rfl rfl rfl rfl).trans ((AF 6 1 2008 1 _ rfl rfl rfl rfl).trans ((AF 6 2 2009 1 _ rfl rfl rfl rfl).trans (sm [(1000, 2007), (1001, 2008), (1002, 2009)] [(6, .e (.one (.ptr 6 0))), (7, .e (.one (.pure (.val (.int .i64 4)))))] [(6, .box [.own 1000, .own 1001, .own 1002]), (1000, .vec 1 ((([] : List Int)).map Al)), (1001, .vec 1 ((([] : List Int)).map Al)), (1002, .vec 1 ((([] : List Int)).map Bg))] rfl rfl)))) (Az ?_)
     exact ⟨⟨[_, _], ⟨.cellN _ _ _ _ _ _ _ rfl rfl A4 Ay rfl rfl (Jw rfl), ⟨.tmp _ _ rfl, trivial⟩⟩, rfl⟩, ⟨rfl, rfl, rfl, trivial⟩⟩
    ·have h := An c10 h
     refine Aq (Ab ?_)
     refine AM h (fun v11 => mk [(3, .e (.one (.ptr 3 0))), (4, .e (.one (.ptr 4 0))), (5, .e (.one (.ptr 5 0))), (6, .e (.one (.ptr 6 0))), (60, .e (.one (.pure (.val (.bool v11)))))] [(3, .box [.pure (.sl (p0.fVersions.map Al)), .pure (.sl (p0.fNow.map Al)), .pure (.sl (p0.fTarget.map Al)), .pure (.sl (p0.fTables.map Ar))]), (4, .box [.pure (.sl (p1.fBase.map Al)), .pure (.sl (p1.fNext.map Al)), .pure (.sl (p1.fHeld.map Bg))]), (5, .box [.pure (.val (.int .i64 p2.fKind)), .pure (.val (.int .i64 p2.fIndex)), .pure (.val (.int .i64 p2.fVersion))]), (6, .box [.pure (.nil0), .pure (.nil0), .pure (.nil0)])]) (fun j11 h => ?_) (fun v11 h => ?_)
     ·refine Aa Ac rfl (qf GN rfl (ql CN rfl (BX rfl (qm rfl ?_))))
      refine AD (t := 50) rfl (fun c12 => ?_) (fun c12 => ?_)
      ·have h := Ao c12 h
       refine qf H5 rfl (ql CN rfl (qf BF rfl (ql Bo rfl (qf F2 rfl (ql CN rfl ?_)))))
       obtain ⟨v13, a13, b13, h⟩ := Ai h
       refine qi AJ Ec a13 (Ah b13) rfl (qk CN rfl (Db rfl (qp rfl (AA (by kernel_rfl) ?_))))
       exact Au _ h (sm [] _ _ rfl rfl)
      ·have h := An c12 h
       refine qn rfl (qn rfl (qn rfl (qn rfl (qn rfl (qn rfl (qn rfl (qn rfl (qn rfl (qp rfl (AA (by kernel_rfl) ?_))))))))))
       exact Au _ h (sm [] _ _ rfl rfl)
     ·refine Ap rfl (fun c14 => ?_) (fun c14 => ?_)
      ·have h := Ao c14 h
       refine Ab (Aa Ac rfl (Bq Dc HS rfl (qs Ay rfl (qa rfl (Ae ?_)))))
       obtain rfl := sj h
       refine Am ((AF 6 0 2010 1 _ rfl rfl rfl rfl).trans ((AF 6 1 2011 1 _ rfl rfl rfl rfl).trans ((AF 6 2 2012 1 _ rfl rfl rfl rfl).trans (sm [(1000, 2010), (1001, 2011), (1002, 2012)] [(6, .e (.one (.ptr 6 0))), (7, .e (.one (.pure (.val (.int .i64 4)))))] [(6, .box [.own 1000, .own 1001, .own 1002]), (1000, .vec 1 ((([] : List Int)).map Al)), (1001, .vec 1 ((([] : List Int)).map Al)), (1002, .vec 1 ((([] : List Int)).map Bg))] rfl rfl)))) (Az ?_)
       exact ⟨⟨[_, _], ⟨.cellN _ _ _ _ _ _ _ rfl rfl A4 Ay rfl rfl (Jw rfl), ⟨.tmp _ _ rfl, trivial⟩⟩, rfl⟩, ⟨rfl, rfl, rfl, trivial⟩⟩
      ·have h := An c14 h
       refine Aq (Ab (Aa Ac rfl (qL EH Ep rfl (qL A4 Ay rfl (qL I2 Ft rfl ?_)))))
       obtain ⟨v15, a15, h⟩ := bind_some h
       refine AG [2013, 2014, 2015] (Jp N p0 p1 p2 v15 a15) XM rfl (qm rfl (qx rfl (qx rfl (qz Dc rfl (qs Ay rfl (qa rfl (Ae (Ab (Ab (Aa Ac rfl (qm rfl (Cb rfl (Ae ?_)))))))))))))
       refine Ap rfl (fun c16 => ?_) (fun c16 => ?_)
       ·have h := Ao c16 h
        refine Ab (Aa Ac rfl (Bq Dc HS rfl (qs Ay rfl (qa rfl (Ae ?_)))))
        obtain rfl := sj h
        refine Am ((AF 6 0 2016 1 _ rfl rfl rfl rfl).trans ((AF 6 1 2017 1 _ rfl rfl rfl rfl).trans ((AF 6 2 2018 1 _ rfl rfl rfl rfl).trans (sm [(1000, 2016), (1001, 2017), (1002, 2018)] [(6, .e (.one (.ptr 6 0))), (7, .e (.one (.pure (.val (.int .i64 11)))))] [(6, .box [.own 1000, .own 1001, .own 1002]), (1000, .vec 1 ((([] : List Int)).map Al)), (1001, .vec 1 ((([] : List Int)).map Al)), (1002, .vec 1 ((([] : List Int)).map Bg))] rfl rfl)))) (Az ?_)
        exact ⟨⟨[_, _], ⟨.cellN _ _ _ _ _ _ _ rfl rfl A4 Ay rfl rfl (Jw rfl), ⟨.tmp _ _ rfl, trivial⟩⟩, rfl⟩, ⟨rfl, rfl, rfl, trivial⟩⟩
       ·have h := An c16 h
        refine Aq (Ab (Aa Ac rfl (qL A4 Ay rfl (qs Ay rfl (qa rfl (Ae ?_))))))
        obtain rfl := sj h
        refine Am (sm [(1000, 2013), (1001, 2014), (1002, 2015)] [(6, .e (.one (.ptr 6 0))), (7, .e (.one (.pure (.val (.int .i64 0)))))] [(6, .box [.own 1000, .own 1001, .own 1002]), (1000, .vec 1 (v15.1.fBase.map Al)), (1001, .vec 1 (v15.1.fNext.map Al)), (1002, .vec 1 (v15.1.fHeld.map Bg))] rfl rfl) (Az ?_)
        exact ⟨⟨[_, _], ⟨.cellN _ _ _ _ _ _ _ rfl rfl A4 Ay rfl rfl (Jw rfl), ⟨.tmp _ _ rfl, trivial⟩⟩, rfl⟩, ⟨rfl, rfl, rfl, trivial⟩⟩
set_option maxRecDepth 10000 in
theorem L3 (N : Nat) (p0 : Ak) (p1 : Ag) (r : (List Av)) (h : Fx N p0 p1 = some r) : AB Tryz.prog 72 [.e (.agg [.pure (.sl (p0.fVersions.map Al)), .pure (.sl (p0.fNow.map Al)), .pure (.sl (p0.fTarget.map Al)), .pure (.sl (p0.fTables.map Ar))]), .e (.agg [.pure (.sl (p1.fBase.map Al)), .pure (.sl (p1.fNext.map Al)), .pure (.sl (p1.fHeld.map Bg))])] [(3, r.map A0)] (.e (.one (.own 0))) := by
 unfold Fx at h
 refine As (n := 49) (rs := [.tmp 4]) Tryz.func72 rfl rfl rfl (A3 rfl) (A3 rfl) rfl fun w0 S0 => ?_
 refine Ab (Aa Ac rfl (qb rfl (qb rfl (qa rfl (Ae (Ab (Aa Ac rfl (qa rfl (Ae (Ab (Ab (Aa Ac rfl (qa rfl (Ae ?_))))))))))))))
 refine AC (L := BP N p0 p1) h (fun v1 => mk [(2, .e (.one (.ptr 2 0))), (3, .e (.one (.ptr 3 0))), (5, .e (.one (.own 2001))), (6, .e (.one (.pure (.val (.int .i64 v1.2)))))] [(2, .box [.pure (.sl (p0.fVersions.map Al)), .pure (.sl (p0.fNow.map Al)), .pure (.sl (p0.fTarget.map Al)), .pure (.sl (p0.fTables.map Ar))]), (3, .box [.pure (.sl (p1.fBase.map Al)), .pure (.sl (p1.fNext.map Al)), .pure (.sl (p1.fHeld.map Bg))]), (2001, .vec 3 (v1.1.map A0))]) (fun v2 => mk [(5, .e (.one (.own 2002)))] [(2002, .vec 3 (v2.map A0))]) (fun _ _ => rfl) ((Br 5 2011 3 rfl rfl rfl).trans (sm [(2001, 2011)] _ _ rfl rfl)) (fun j1 n1 v1 h => ?_) (fun v2 s h hs => ?_)
 ·unfold BP at h
  refine Ab (Ab (Aa Ac rfl (qm rfl (IR rfl (Ae ?_)))))
  refine Ap rfl (fun c3 => ?_) (fun c3 => ?_)
  ·have h := Ao c3 h
   refine Aq (Ab (AH (Ab (Aa Ac rfl (qa rfl (Ae ?_))))))
   refine AC (L := CO N p0 p1 v1) h (fun v4 => mk [(2, .e (.one (.ptr 2 0))), (3, .e (.one (.ptr 3 0))), (5, .e (.one (.own 2003))), (6, .e (.one (.pure (.val (.int .i64 v1.2))))), (7, .e (.one (.pure (.val (.int .i64 v4.2)))))] [(2, .box [.pure (.sl (p0.fVersions.map Al)), .pure (.sl (p0.fNow.map Al)), .pure (.sl (p0.fTarget.map Al)), .pure (.sl (p0.fTables.map Ar))]), (3, .box [.pure (.sl (p1.fBase.map Al)), .pure (.sl (p1.fNext.map Al)), .pure (.sl (p1.fHeld.map Bg))]), (2003, .vec 3 (v4.1.map A0))]) (fun v5 => mk [(2, .e (.one (.ptr 2 0))), (3, .e (.one (.ptr 3 0))), (5, .e (.one (.own 2004))), (6, .e (.one (.pure (.val (.int .i64 v1.2)))))] [(2, .box [.pure (.sl (p0.fVersions.map Al)), .pure (.sl (p0.fNow.map Al)), .pure (.sl (p0.fTarget.map Al)), .pure (.sl (p0.fTables.map Ar))]), (3, .box [.pure (.sl (p1.fBase.map Al)), .pure (.sl (p1.fNext.map Al)), .pure (.sl (p1.fHeld.map Bg))]), (2004, .vec 3 (v5.map A0))]) (fun _ _ => rfl) (sm [(2003, 2001)] _ _ rfl rfl) (fun j4 n4 v4 h => ?_) (fun v5 s h hs => ?_)
   ·unfold CO at h
    refine Ab (Ab (Aa Ac rfl (qm rfl (qf BF rfl (ql Bo rfl (AU AJ rfl (qf DS rfl (ql IM rfl (AU Fk rfl ?_)))))))))
    refine Xu (.p rfl) rfl rfl ?_
    refine AT rfl (Ae ?_)
    refine Ap rfl (fun c6 => ?_) (fun c6 => ?_)
    ·have h := Ao c6 h
     refine Aq (Ab (AH (Ab (Aa Ac rfl (qa rfl (Ae ?_))))))
     refine AC (L := CP N p0 p1 v1 v4) h (fun v7 => mk [(2, .e (.one (.ptr 2 0))), (3, .e (.one (.ptr 3 0))), (5, .e (.one (.own 2005))), (6, .e (.one (.pure (.val (.int .i64 v1.2))))), (7, .e (.one (.pure (.val (.int .i64 v4.2))))), (8, .e (.one (.pure (.val (.int .i64 v7.2)))))] [(2, .box [.pure (.sl (p0.fVersions.map Al)), .pure (.sl (p0.fNow.map Al)), .pure (.sl (p0.fTarget.map Al)), .pure (.sl (p0.fTables.map Ar))]), (3, .box [.pure (.sl (p1.fBase.map Al)), .pure (.sl (p1.fNext.map Al)), .pure (.sl (p1.fHeld.map Bg))]), (2005, .vec 3 (v7.1.map A0))]) (fun v8 => mk [(2, .e (.one (.ptr 2 0))), (3, .e (.one (.ptr 3 0))), (5, .e (.one (.own 2006))), (6, .e (.one (.pure (.val (.int .i64 v1.2))))), (7, .e (.one (.pure (.val (.int .i64 v4.2)))))] [(2, .box [.pure (.sl (p0.fVersions.map Al)), .pure (.sl (p0.fNow.map Al)), .pure (.sl (p0.fTarget.map Al)), .pure (.sl (p0.fTables.map Ar))]), (3, .box [.pure (.sl (p1.fBase.map Al)), .pure (.sl (p1.fNext.map Al)), .pure (.sl (p1.fHeld.map Bg))]), (2006, .vec 3 (v8.map A0))]) (fun _ _ => rfl) (sm [(2005, 2003)] _ _ rfl rfl) (fun j7 n7 v7 h => ?_) (fun v8 s h hs => ?_)
     ·unfold CP at h
      refine Ab (Ab (Aa Ac rfl (qm rfl (AT rfl (Ae ?_)))))
      refine Ap rfl (fun c9 => ?_) (fun c9 => ?_)
      ·have h := Ao c9 h
       refine Aq ?_
       refine AM h (fun v10 => mk [(2, .e (.one (.ptr 2 0))), (3, .e (.one (.ptr 3 0))), (5, .e (.one (.own 2007))), (6, .e (.one (.pure (.val (.int .i64 v1.2))))), (7, .e (.one (.pure (.val (.int .i64 v4.2))))), (8, .e (.one (.pure (.val (.int .i64 v7.2)))))] [(2, .box [.pure (.sl (p0.fVersions.map Al)), .pure (.sl (p0.fNow.map Al)), .pure (.sl (p0.fTarget.map Al)), .pure (.sl (p0.fTables.map Ar))]), (3, .box [.pure (.sl (p1.fBase.map Al)), .pure (.sl (p1.fNext.map Al)), .pure (.sl (p1.fHeld.map Bg))]), (2007, .vec 3 (v10.map A0))]) (fun j10 h => ?_) (fun v10 h => ?_)
       ·refine AH (Ab (Aa Ac rfl (qm rfl (qm rfl (qm rfl (Bq Kx T5 rfl (qz Kx rfl (qs Ft rfl (Ae (Ab (Aa Ac rfl (qL EH Ep rfl (qL A4 Ay rfl (qL I2 Ft rfl ?_))))))))))))))
        obtain ⟨v11, a11, h⟩ := bind_some h
        refine AG [2008, 2009, 2010] (L4 N p0 p1 ((Av.mk v1.2 v4.2 v7.2)) v11 a11) Xj rfl (qm rfl (qx rfl (qx rfl (qz Dc rfl (qs Ay rfl (qa rfl (Ae (Ab (Aa Ac rfl (qm rfl (BX rfl (Ae ?_))))))))))))
        refine Ap rfl (fun c12 => ?_) (fun c12 => ?_)
        ·have h := Ao c12 h
         refine Aa Ac rfl (qm rfl (qL I2 Ft rfl (EU FR Ft Kx rfl ?_)))
         obtain ⟨c13, h⟩ := AQ h
         refine El (f := A0) FR FR Ft RM Kx c13 rfl (qa rfl (Ae ?_))
         exact Au _ h (sm [(2007, 47)] _ _ rfl rfl)
        ·have h := An c12 h
         refine Aq ?_
         exact Au _ h (sm [(2007, 2005)] _ _ rfl rfl)
       ·refine Aa Ac rfl (qm rfl (AN rfl (qa rfl (Ae ?_))))
        exact Au _ h (sm [(2005, 2007)] _ _ rfl rfl)
      ·have h := An c9 h
       refine AP ?_
       exact Au _ h (sm [(2006, 2005)] _ _ rfl rfl)
     ·refine Am hs (Aa Ac rfl (qm rfl (AN rfl (qa rfl (Ae ?_)))))
      exact Au _ h (sm [(2003, 2006)] _ _ rfl rfl)
    ·have h := An c6 h
     refine AP ?_
     exact Au _ h (sm [(2004, 2003)] _ _ rfl rfl)
   ·refine Am hs (Aa Ac rfl (qm rfl (AN rfl (qa rfl (Ae ?_)))))
    exact Au _ h (sm [(2001, 2004)] _ _ rfl rfl)
  ·have h := An c3 h
   refine AP ?_
   exact Au _ h (sm [(2002, 2001)] _ _ rfl rfl)
 ·refine Am hs (Ab (Aa Ac rfl (qm rfl (qa rfl (Ae ?_)))))
  obtain rfl := sj h
  refine Am (sm [(1000, 2002)] [(4, .e (.one (.own 1000)))] [(1000, .vec 3 (v2.map A0))] rfl rfl) (Az ?_)
  exact ⟨⟨[_], ⟨.tmp _ _ rfl, trivial⟩, rfl⟩, ⟨rfl, trivial⟩⟩
set_option maxRecDepth 10000 in
theorem Ly (N : Nat) (p0 : Ag) (r : Ag) (h : Fc N p0 = some r) : AB Tryz.prog 142 [.e (.agg [.pure (.sl (p0.fBase.map Al)), .pure (.sl (p0.fNext.map Al)), .pure (.sl (p0.fHeld.map Bg))])] [(1, r.fBase.map Al), (1, r.fNext.map Al), (1, r.fHeld.map Bg)] (.e (.agg [.own 0, .own 1, .own 2])) := by
 unfold Fc at h
 refine As (n := 16) (rs := [.cell 2 46]) Tryz.func142 rfl rfl rfl (A3 rfl) (A3 rfl) rfl fun w0 S0 => ?_
 refine Ab (Aa Ac rfl (qb rfl (qz Dc rfl (Ae (Ab (Aa Ac rfl (EU AJ Ec Lb rfl (qf Dx rfl (ql Bo rfl ?_)))))))))
 obtain ⟨c1, h⟩ := AQ h
 refine Lt (f := Al) AJ AJ Ec Nr Lb (fun _ => rfl) c1 rfl (EU AJ Ec Lb rfl (qf BK rfl (ql Bo rfl ?_)))
 obtain ⟨c2, h⟩ := AQ h
 refine Lt (f := Al) AJ AJ Ec Nr Lb (fun _ => rfl) c2 rfl (EU D0 GJ Oe rfl (qf Dm rfl (ql HV rfl ?_)))
 obtain ⟨c3, h⟩ := AQ h
 refine Lt (f := Bg) D0 D0 GJ Rp Oe (fun _ => rfl) c3 rfl (Bq Dc HS rfl (qs Ay rfl (AA (by kernel_rfl) ?_)))
 obtain rfl := sj h
 refine Am (sm [(1000, 6), (1001, 10), (1002, 14)] [(2, .e (.one (.ptr 2 0)))] [(2, .box [.own 1000, .own 1001, .own 1002]), (1000, .vec 1 (((([] : List Int)) ++ p0.fBase).map Al)), (1001, .vec 1 (((([] : List Int)) ++ p0.fNext).map Al)), (1002, .vec 1 (((([] : List Int)) ++ p0.fHeld).map Bg))] rfl rfl) (Az ?_)
 exact ⟨⟨[_], ⟨.cellN _ _ _ _ _ _ _ rfl rfl A4 Ay rfl rfl (Jw rfl), trivial⟩, rfl⟩, ⟨rfl, rfl, rfl, trivial⟩⟩
end Go.Lift

/- That the code does what the shallow programs do, function by function. Written by a program (gen.py). -/
namespace Go.Lift
open Go.RowKit
open Go.Proofs
set_option maxRecDepth 10000 in
theorem M3 (N : Nat) (p0 : Ag) (r : (List Ag)) (h : Fg N p0 = some r) : AB Tryz.prog 111 [.e (.agg [.pure (.sl (p0.fBase.map Al)), .pure (.sl (p0.fNext.map Al)), .pure (.sl (p0.fHeld.map Bg))])] [(3, r.map Aj)] (.e (.one (.own 0))) := by
 unfold Fg at h
 refine As (n := 62) (rs := [.tmp 2]) Tryz.func111 rfl rfl rfl (A3 rfl) (A3 rfl) rfl fun w0 S0 => ?_
 refine Ab (Aa Ac rfl (qb rfl (qa rfl (Ae (Ab (Aa Ac rfl (qa rfl (Ae (Ab (Ab (Aa Ac rfl (qa rfl (Ae ?_)))))))))))))
 refine AC (L := Dk N p0) h (fun v1 => mk [(1, .e (.one (.ptr 1 0))), (3, .e (.one (.pure (.val (.int .i64 v1.1))))), (4, .e (.one (.pure (.val (.int .i64 v1.2)))))] [(1, .box [.pure (.sl (p0.fBase.map Al)), .pure (.sl (p0.fNext.map Al)), .pure (.sl (p0.fHeld.map Bg))])]) (fun v2 => mk [(1, .e (.one (.ptr 1 0))), (3, .e (.one (.pure (.val (.int .i64 v2)))))] [(1, .box [.pure (.sl (p0.fBase.map Al)), .pure (.sl (p0.fNext.map Al)), .pure (.sl (p0.fHeld.map Bg))])]) (fun _ _ => rfl) (sm [] _ _ rfl rfl) (fun j1 n1 v1 h => ?_) (fun v2 s h hs => ?_)
 ·unfold Dk at h
  refine Ab (Ab (Aa Ac rfl (qm rfl (qf BK rfl (ql Bo rfl (AU AJ rfl (AT rfl (Ae ?_))))))))
  refine Ap rfl (fun c3 => ?_) (fun c3 => ?_)
  ·have h := Ao c3 h
   refine Aq ?_
   refine AM h (fun v4 => mk [(1, .e (.one (.ptr 1 0))), (3, .e (.one (.pure (.val (.int .i64 v4))))), (4, .e (.one (.pure (.val (.int .i64 v1.2)))))] [(1, .box [.pure (.sl (p0.fBase.map Al)), .pure (.sl (p0.fNext.map Al)), .pure (.sl (p0.fHeld.map Bg))])]) (fun j4 h => ?_) (fun v4 h => ?_)
   ·refine AH (Ab (Aa Ac rfl (qf BK rfl (ql Bo rfl (qm rfl ?_)))))
    obtain ⟨v5, a5, b5, h⟩ := Ai h
    refine qi AJ Ec a5 (Ah b5) rfl (qk CN rfl (Db rfl (Ae ?_)))
    refine Ap rfl (fun c6 => ?_) (fun c6 => ?_)
    ·have h := Ao c6 h
     refine Aa Ac rfl (qm rfl (AN rfl (qa rfl (Ae ?_))))
     exact Au _ h (sm [] _ _ rfl rfl)
    ·have h := An c6 h
     refine Aq ?_
     exact Au _ h (sm [] _ _ rfl rfl)
   ·refine Aa Ac rfl (qm rfl (AN rfl (qa rfl (Ae ?_))))
    exact Au _ h (sm [] _ _ rfl rfl)
  ·have h := An c3 h
   refine AP ?_
   exact Au _ h (sm [] _ _ rfl rfl)
 ·refine Am hs (Ab (Aa Ac rfl (qa rfl (Ae (Ab (Ab (Aa Ac rfl (qa rfl (Ae ?_)))))))))
  refine AC (L := BW N p0 v2) h (fun v7 => mk [(1, .e (.one (.ptr 1 0))), (3, .e (.one (.pure (.val (.int .i64 v2))))), (5, .e (.one (.own 2001))), (6, .e (.one (.pure (.val (.int .i64 v7.2)))))] [(1, .box [.pure (.sl (p0.fBase.map Al)), .pure (.sl (p0.fNext.map Al)), .pure (.sl (p0.fHeld.map Bg))]), (2001, .vec 3 (v7.1.map Aj))]) (fun v8 => mk [(5, .e (.one (.own 2002)))] [(2002, .vec 3 (v8.map Aj))]) (fun _ _ => rfl) ((Br 5 2022 3 rfl rfl rfl).trans (sm [(2001, 2022)] _ _ rfl rfl)) (fun j7 n7 v7 h => ?_) (fun v8 s h hs => ?_)
  ·unfold BW at h
   refine Ab (Ab (Aa Ac rfl (qm rfl (qm rfl ?_))))
   obtain ⟨c9, h⟩ := AQ h
   refine I9 rfl c9 (AT rfl (Ae ?_))
   refine Ap rfl (fun c10 => ?_) (fun c10 => ?_)
   ·have h := Ao c10 h
    refine Aq (Ab (AH (Ab (Aa Ac rfl (qL A4 Ay rfl ?_)))))
    obtain ⟨v11, a11, h⟩ := bind_some h
    refine AG [2003, 2004, 2005] (Ly N p0 v11 a11) XK rfl (qz Dc rfl (qs Ay rfl (Ae (Ab (Aa Ac rfl (qa rfl (Ae (Ab (Ab (Aa Ac rfl (qa rfl (Ae ?_))))))))))))
    refine AC (L := Co N p0 v7) h (fun v12 => mk [(1, .e (.one (.ptr 1 0))), (3, .e (.one (.pure (.val (.int .i64 v2))))), (5, .e (.one (.own 2009))), (6, .e (.one (.pure (.val (.int .i64 v7.2))))), (7, .e (.one (.ptr 7 0))), (8, .e (.one (.pure (.val (.int .i64 v12.2.1))))), (9, .e (.one (.pure (.val (.int .i64 v12.2.2)))))] [(1, .box [.pure (.sl (p0.fBase.map Al)), .pure (.sl (p0.fNext.map Al)), .pure (.sl (p0.fHeld.map Bg))]), (7, .box [.own 2006, .own 2007, .own 2008]), (2006, .vec 1 (v11.fBase.map Al)), (2007, .vec 1 (v12.1.map Al)), (2008, .vec 1 (v11.fHeld.map Bg)), (2009, .vec 3 (v7.1.map Aj))]) (fun v13 => mk [(1, .e (.one (.ptr 1 0))), (3, .e (.one (.pure (.val (.int .i64 v2))))), (5, .e (.one (.own 2013))), (6, .e (.one (.pure (.val (.int .i64 v7.2))))), (7, .e (.one (.ptr 7 0)))] [(1, .box [.pure (.sl (p0.fBase.map Al)), .pure (.sl (p0.fNext.map Al)), .pure (.sl (p0.fHeld.map Bg))]), (7, .box [.own 2010, .own 2011, .own 2012]), (2010, .vec 1 (v11.fBase.map Al)), (2011, .vec 1 (v13.map Al)), (2012, .vec 1 (v11.fHeld.map Bg)), (2013, .vec 3 (v7.1.map Aj))]) (fun _ _ => rfl) (sm [(2006, 2003), (2007, 2004), (2008, 2005), (2009, 2001)] _ _ rfl rfl) (fun j12 n12 v12 h => ?_) (fun v13 s h hs => ?_)
    ·unfold Co at h
     refine Ab (Ab (Aa Ac rfl (qm rfl (qf BK rfl (ql Bo rfl (AU AJ rfl (AT rfl (Ae ?_))))))))
     refine Ap rfl (fun c14 => ?_) (fun c14 => ?_)
     ·have h := Ao c14 h
      refine Aq ?_
      refine AM h (fun v15 => mk [(1, .e (.one (.ptr 1 0))), (3, .e (.one (.pure (.val (.int .i64 v2))))), (5, .e (.one (.own 2017))), (6, .e (.one (.pure (.val (.int .i64 v7.2))))), (7, .e (.one (.ptr 7 0))), (8, .e (.one (.pure (.val (.int .i64 v15.2))))), (9, .e (.one (.pure (.val (.int .i64 v12.2.2)))))] [(1, .box [.pure (.sl (p0.fBase.map Al)), .pure (.sl (p0.fNext.map Al)), .pure (.sl (p0.fHeld.map Bg))]), (7, .box [.own 2014, .own 2015, .own 2016]), (2014, .vec 1 (v11.fBase.map Al)), (2015, .vec 1 (v15.1.map Al)), (2016, .vec 1 (v11.fHeld.map Bg)), (2017, .vec 3 (v7.1.map Aj))]) (fun j15 h => ?_) (fun v15 h => ?_)
      ·refine AH (Ab (Ab (Aa Ac rfl (qf BK rfl (ql Bo rfl (qm rfl ?_))))))
       obtain ⟨v16, a16, b16, h⟩ := Ai h
       refine qi AJ Ec a16 (Ah b16) rfl (qk CN rfl (AT rfl (Ae ?_)))
       refine Ap rfl (fun c17 => ?_) (fun c17 => ?_)
       ·have h := Ao c17 h
        refine AP ?_
        exact Au _ h (sm [(2014, 2006), (2015, 2007), (2016, 2008), (2017, 2009)] _ _ rfl rfl)
       ·have h := An c17 h
        refine Aq ?_
        refine AM h (fun v18 => mk [(1, .e (.one (.ptr 1 0))), (3, .e (.one (.pure (.val (.int .i64 v2))))), (5, .e (.one (.own 2021))), (6, .e (.one (.pure (.val (.int .i64 v7.2))))), (7, .e (.one (.ptr 7 0))), (8, .e (.one (.pure (.val (.int .i64 v12.2.1))))), (9, .e (.one (.pure (.val (.int .i64 v12.2.2)))))] [(1, .box [.pure (.sl (p0.fBase.map Al)), .pure (.sl (p0.fNext.map Al)), .pure (.sl (p0.fHeld.map Bg))]), (7, .box [.own 2018, .own 2019, .own 2020]), (2018, .vec 1 (v11.fBase.map Al)), (2019, .vec 1 (v18.map Al)), (2020, .vec 1 (v11.fHeld.map Bg)), (2021, .vec 3 (v7.1.map Aj))]) (fun j18 h => ?_) (fun v18 h => ?_)
        ·refine Ab (Aa Ac rfl (qm rfl (qm rfl ?_)))
         obtain ⟨c19, h⟩ := AQ h
         refine Iq rfl c19 (K6 rfl (by decide) (BX rfl (Ae ?_)))
         refine Ap rfl (fun c20 => ?_) (fun c20 => ?_)
         ·have h := Ao c20 h
          refine Aa Ac rfl (qf BK rfl (ql Bo rfl (qm rfl ?_)))
          obtain ⟨v21, a21, b21, h⟩ := Ai h
          refine qI AJ Ec a21 (Ah b21) rfl ?_
          refine AV rfl rfl rfl rfl (Ah b21) rfl Ec rfl (A3 rfl) (AW Al v12.1 _ ((-1))) ?_
          refine Ae ?_
          exact Au _ h (sm [(2018, 2006), (2019, 2007), (2020, 2008), (2021, 2009)] _ _ rfl rfl)
         ·have h := An c20 h
          refine Aq ?_
          exact Au _ h (sm [(2018, 2006), (2019, 2007), (2020, 2008), (2021, 2009)] _ _ rfl rfl)
        ·refine Aa Ac rfl (qm rfl (AN rfl (qa rfl (Ae ?_))))
         exact Au _ h (sm [(2014, 2018), (2015, 2019), (2016, 2020), (2017, 2021)] _ _ rfl rfl)
      ·refine Aa Ac rfl (qm rfl (AN rfl (qa rfl (Ae ?_))))
       exact Au _ h (sm [(2006, 2014), (2007, 2015), (2008, 2016), (2009, 2017)] _ _ rfl rfl)
     ·have h := An c14 h
      refine AP ?_
      exact Au _ h (sm [(2010, 2006), (2011, 2007), (2012, 2008), (2013, 2009)] _ _ rfl rfl)
    ·refine Am hs (Aa Ac rfl (qm rfl (qL A4 Ay rfl (Ev (Bm 2010 _ _ rfl rfl) (Ev (Bm 2011 _ _ rfl rfl) (Ev (Bm 2012 _ _ rfl rfl) (EU AZ Ay Dc rfl ?_)))))))
     obtain ⟨c22, h⟩ := AQ h
     refine El (f := Aj) AZ AZ Ay ST Dc c22 rfl (qa rfl (Ae (Aa Ac rfl (qm rfl (AN rfl (qa rfl (Ae ?_)))))))
     exact Au _ h (sm [(2001, 60)] _ _ rfl rfl)
   ·have h := An c10 h
    refine AP ?_
    exact Au _ h (sm [(2002, 2001)] _ _ rfl rfl)
  ·refine Am hs (Ab (Aa Ac rfl (qm rfl (qa rfl (Ae ?_)))))
   obtain rfl := sj h
   refine Am (sm [(1000, 2002)] [(2, .e (.one (.own 1000)))] [(1000, .vec 3 (v8.map Aj))] rfl rfl) (Az ?_)
   exact ⟨⟨[_], ⟨.tmp _ _ rfl, trivial⟩, rfl⟩, ⟨rfl, trivial⟩⟩
set_option maxRecDepth 10000 in
theorem Lq (N : Nat) (p0 : Ak) (p1 : Ag) (r : (List Ag) × Int) (h : F1 N p0 p1 = some r) : AB Tryz.prog 128 [.e (.agg [.pure (.sl (p0.fVersions.map Al)), .pure (.sl (p0.fNow.map Al)), .pure (.sl (p0.fTarget.map Al)), .pure (.sl (p0.fTables.map Ar))]), .e (.agg [.pure (.sl (p1.fBase.map Al)), .pure (.sl (p1.fNext.map Al)), .pure (.sl (p1.fHeld.map Bg))])] [(3, r.1.map Aj)] (.tup [.one (.own 0), .one (.pure (.val (.int .i64 r.2)))]) := by
 unfold F1 at h
 refine As (n := 15) (rs := [.tmp 4, .tmp 5]) Tryz.func128 rfl rfl rfl (A3 rfl) (A3 rfl) rfl fun w0 S0 => ?_
 refine Ab (Aa Ac rfl (qb rfl (qb rfl (qa rfl (qa rfl (Ae (Ab (Ab (Aa Ac rfl (qL EH Ep rfl (qL A4 Ay rfl ?_)))))))))))
 obtain ⟨v1, a1, h⟩ := bind_some h
 refine AG [] (HR N p0 p1 v1 a1) WO rfl (qa rfl (Ae (Ab (Aa Ac rfl (qm rfl (Ct rfl (Ae ?_)))))))
 refine Ap rfl (fun c2 => ?_) (fun c2 => ?_)
 ·have h := Ao c2 h
  refine Ab (Aa Ac rfl (qm rfl (qa rfl (qa rfl (Ae ?_)))))
  obtain rfl := sj h
  refine Am ((Br 4 2001 3 rfl rfl rfl).trans (sm [(1000, 2001)] [(4, .e (.one (.own 1000))), (5, .e (.one (.pure (.val (.int .i64 v1)))))] [(1000, .vec 3 ((([] : List Ag)).map Aj))] rfl rfl)) (Az ?_)
  exact ⟨⟨[_, _], ⟨.tmp _ _ rfl, ⟨.tmp _ _ rfl, trivial⟩⟩, rfl⟩, ⟨rfl, trivial⟩⟩
 ·have h := An c2 h
  refine Aq (Ab (Aa Ac rfl (qL A4 Ay rfl ?_)))
  obtain ⟨v3, a3, h⟩ := bind_some h
  refine AG [2002] (M3 N p1 v3 a3) Yf rfl (qa rfl (qa rfl (Ae ?_)))
  obtain rfl := sj h
  refine Am (sm [(1000, 2002)] [(4, .e (.one (.own 1000))), (5, .e (.one (.pure (.val (.int .i64 0)))))] [(1000, .vec 3 (v3.map Aj))] rfl rfl) (Az ?_)
  exact ⟨⟨[_, _], ⟨.tmp _ _ rfl, ⟨.tmp _ _ rfl, trivial⟩⟩, rfl⟩, ⟨rfl, trivial⟩⟩
set_option maxRecDepth 10000 in
theorem LY (N : Nat) (p0 : Ak) (p1 : Ag) (r : (List Af)) (h : Fy N p0 p1 = some r) : AB Tryz.prog 129 [.e (.agg [.pure (.sl (p0.fVersions.map Al)), .pure (.sl (p0.fNow.map Al)), .pure (.sl (p0.fTarget.map Al)), .pure (.sl (p0.fTables.map Ar))]), .e (.agg [.pure (.sl (p1.fBase.map Al)), .pure (.sl (p1.fNext.map Al)), .pure (.sl (p1.fHeld.map Bg))])] [(3, r.map Ad)] (.e (.one (.own 0))) := by
 unfold Fy at h
 refine As (n := 111) (rs := [.tmp 4]) Tryz.func129 rfl rfl rfl (A3 rfl) (A3 rfl) rfl fun w0 S0 => ?_
 refine Ab (Aa Ac rfl (qb rfl (qb rfl (qa rfl (Ae (Ab (Aa Ac rfl (qa rfl (Ae (Ab (Ab (Aa Ac rfl (qa rfl (Ae ?_))))))))))))))
 refine AC (L := Du N p0 p1) h (fun v1 => mk [(2, .e (.one (.ptr 2 0))), (3, .e (.one (.ptr 3 0))), (5, .e (.one (.own 2001))), (6, .e (.one (.pure (.val (.int .i64 v1.2)))))] [(2, .box [.pure (.sl (p0.fVersions.map Al)), .pure (.sl (p0.fNow.map Al)), .pure (.sl (p0.fTarget.map Al)), .pure (.sl (p0.fTables.map Ar))]), (3, .box [.pure (.sl (p1.fBase.map Al)), .pure (.sl (p1.fNext.map Al)), .pure (.sl (p1.fHeld.map Bg))]), (2001, .vec 3 (v1.1.map Ad))]) (fun v2 => mk [(5, .e (.one (.own 2002)))] [(2002, .vec 3 (v2.map Ad))]) (fun _ _ => rfl) ((Br 5 2013 3 rfl rfl rfl).trans (sm [(2001, 2013)] _ _ rfl rfl)) (fun j1 n1 v1 h => ?_) (fun v2 s h hs => ?_)
 ·unfold Du at h
  refine Ab (Ab (Aa Ac rfl (qm rfl (qf DS rfl (ql IM rfl (AU Fk rfl (AT rfl (Ae ?_))))))))
  refine Ap rfl (fun c3 => ?_) (fun c3 => ?_)
  ·have h := Ao c3 h
   refine Aq (Ab (AH (Ab (Aa Ac rfl (qf DS rfl (ql IM rfl (qm rfl ?_)))))))
   obtain ⟨v4, a4, b4, h⟩ := Ai h
   refine qi Fk Fe a4 (Ah b4) rfl (qK IN Fe rfl (qz LW rfl (qs Fe rfl (Ae (Ab (Aa Ac rfl (qL A4 Ay rfl (qf D3 rfl (ql CN rfl ?_)))))))))
   obtain ⟨v5, a5, h⟩ := bind_some h
   refine AG [] (Ex N p1 v4.fFrom v5 a5) To rfl (qa rfl (Ae ?_))
   refine AM h (fun v6 => mk [(2, .e (.one (.ptr 2 0))), (3, .e (.one (.ptr 3 0))), (5, .e (.one (.own 2003))), (6, .e (.one (.pure (.val (.int .i64 v1.2))))), (7, .e (.one (.ptr 7 0))), (8, .e (.one (.pure (.val (.int .u8 v6)))))] [(2, .box [.pure (.sl (p0.fVersions.map Al)), .pure (.sl (p0.fNow.map Al)), .pure (.sl (p0.fTarget.map Al)), .pure (.sl (p0.fTables.map Ar))]), (3, .box [.pure (.sl (p1.fBase.map Al)), .pure (.sl (p1.fNext.map Al)), .pure (.sl (p1.fHeld.map Bg))]), (7, .box [.pure (.val (.int .i64 v4.fKind)), .pure (.val (.int .i64 v4.fFrom)), .pure (.val (.int .i64 v4.fTo)), .pure (.val (.bool v4.fAware)), .pure (.sl (v4.fOK.map (FZ eB))), .pure (.sl (v4.fRewrite.map (FZ eB)))]), (2003, .vec 3 (v1.1.map Ad))]) (fun j6 h => ?_) (fun v6 h => ?_)
   ·refine Ab (Aa Ac rfl (qL IN Fe rfl ?_))
    obtain ⟨v7, a7, h⟩ := bind_some h
    refine AG [] (C1 N v4 v7 a7) PZ rfl (Ae ?_)
    refine Ap rfl (fun c8 => ?_) (fun c8 => ?_)
    ·have h := Ao c8 h
     refine Aa Ac rfl (qf Dm rfl (ql HV rfl (qm rfl ?_)))
     obtain ⟨v9, a9, b9, h⟩ := Ai h
     refine qi D0 GJ a9 (Ah b9) rfl (qk KY rfl (qa rfl (Ae ?_)))
     exact Au _ h (sm [(2003, 2001)] _ _ rfl rfl)
    ·have h := An c8 h
     refine Aq ?_
     exact Au _ h (sm [(2003, 2001)] _ _ rfl rfl)
   ·refine Ab (Aa Ac rfl (qa rfl (Ae ?_)))
    refine AC (L := B3 N p0 p1 v1 v4 v6) h (fun v10 => mk [(2, .e (.one (.ptr 2 0))), (3, .e (.one (.ptr 3 0))), (5, .e (.one (.own 2004))), (6, .e (.one (.pure (.val (.int .i64 v1.2))))), (7, .e (.one (.ptr 7 0))), (8, .e (.one (.pure (.val (.int .u8 v6))))), (9, .e (.one (.pure (.val (.int .i64 v10.2)))))] [(2, .box [.pure (.sl (p0.fVersions.map Al)), .pure (.sl (p0.fNow.map Al)), .pure (.sl (p0.fTarget.map Al)), .pure (.sl (p0.fTables.map Ar))]), (3, .box [.pure (.sl (p1.fBase.map Al)), .pure (.sl (p1.fNext.map Al)), .pure (.sl (p1.fHeld.map Bg))]), (7, .box [.pure (.val (.int .i64 v4.fKind)), .pure (.val (.int .i64 v4.fFrom)), .pure (.val (.int .i64 v4.fTo)), .pure (.val (.bool v4.fAware)), .pure (.sl (v4.fOK.map (FZ eB))), .pure (.sl (v4.fRewrite.map (FZ eB)))]), (2004, .vec 3 (v10.1.map Ad))]) (fun v11 => mk [(2, .e (.one (.ptr 2 0))), (3, .e (.one (.ptr 3 0))), (5, .e (.one (.own 2005))), (6, .e (.one (.pure (.val (.int .i64 v1.2)))))] [(2, .box [.pure (.sl (p0.fVersions.map Al)), .pure (.sl (p0.fNow.map Al)), .pure (.sl (p0.fTarget.map Al)), .pure (.sl (p0.fTables.map Ar))]), (3, .box [.pure (.sl (p1.fBase.map Al)), .pure (.sl (p1.fNext.map Al)), .pure (.sl (p1.fHeld.map Bg))]), (2005, .vec 3 (v11.map Ad))]) (fun _ _ => rfl) (sm [(2004, 2003)] _ _ rfl rfl) (fun j10 n10 v10 h => ?_) (fun v11 s h hs => ?_)
    ·unfold B3 at h
     refine Ab (Ab (Aa Ac rfl (qm rfl (qf BF rfl (ql Bo rfl (qf D3 rfl (ql CN rfl ?_)))))))
     obtain ⟨v12, a12, b12, h⟩ := Ai h
     refine qi AJ Ec a12 (Ah b12) rfl (qk CN rfl (AT rfl (Ae ?_)))
     refine Ap rfl (fun c13 => ?_) (fun c13 => ?_)
     ·have h := Ao c13 h
      refine Aq ?_
      refine AM h (fun v14 => mk [(2, .e (.one (.ptr 2 0))), (3, .e (.one (.ptr 3 0))), (5, .e (.one (.own 2006))), (6, .e (.one (.pure (.val (.int .i64 v1.2))))), (7, .e (.one (.ptr 7 0))), (8, .e (.one (.pure (.val (.int .u8 v6))))), (9, .e (.one (.pure (.val (.int .i64 v10.2)))))] [(2, .box [.pure (.sl (p0.fVersions.map Al)), .pure (.sl (p0.fNow.map Al)), .pure (.sl (p0.fTarget.map Al)), .pure (.sl (p0.fTables.map Ar))]), (3, .box [.pure (.sl (p1.fBase.map Al)), .pure (.sl (p1.fNext.map Al)), .pure (.sl (p1.fHeld.map Bg))]), (7, .box [.pure (.val (.int .i64 v4.fKind)), .pure (.val (.int .i64 v4.fFrom)), .pure (.val (.int .i64 v4.fTo)), .pure (.val (.bool v4.fAware)), .pure (.sl (v4.fOK.map (FZ eB))), .pure (.sl (v4.fRewrite.map (FZ eB)))]), (2006, .vec 3 (v14.map Ad))]) (fun j14 h => ?_) (fun v14 h => ?_)
      ·refine AH (Ab (Ab (Aa Ac rfl (qm rfl (qm rfl ?_)))))
       obtain ⟨v15, a15, h⟩ := bind_some h
       refine AG [] (Hf N v6 v10.2 v15 a15) Sx rfl (Cb rfl (Ae ?_))
       refine Ap rfl (fun c16 => ?_) (fun c16 => ?_)
       ·have h := Ao c16 h
        refine AP ?_
        exact Au _ h (sm [(2006, 2004)] _ _ rfl rfl)
       ·have h := An c16 h
        refine Aq (Ab (Aa Ac rfl (qa rfl (Ae (Ab (Ab (Aa Ac rfl (qa rfl (Ae ?_)))))))))
        refine AC (L := BE N p0 p1 v1 v4 v10) h (fun v17 => mk [(2, .e (.one (.ptr 2 0))), (3, .e (.one (.ptr 3 0))), (5, .e (.one (.own 2007))), (6, .e (.one (.pure (.val (.int .i64 v1.2))))), (7, .e (.one (.ptr 7 0))), (8, .e (.one (.pure (.val (.int .u8 v6))))), (9, .e (.one (.pure (.val (.int .i64 v10.2))))), (10, .e (.one (.pure (.val (.bool v17.2.1))))), (11, .e (.one (.pure (.val (.int .i64 v17.2.2)))))] [(2, .box [.pure (.sl (p0.fVersions.map Al)), .pure (.sl (p0.fNow.map Al)), .pure (.sl (p0.fTarget.map Al)), .pure (.sl (p0.fTables.map Ar))]), (3, .box [.pure (.sl (p1.fBase.map Al)), .pure (.sl (p1.fNext.map Al)), .pure (.sl (p1.fHeld.map Bg))]), (7, .box [.pure (.val (.int .i64 v4.fKind)), .pure (.val (.int .i64 v4.fFrom)), .pure (.val (.int .i64 v4.fTo)), .pure (.val (.bool v4.fAware)), .pure (.sl (v4.fOK.map (FZ eB))), .pure (.sl (v4.fRewrite.map (FZ eB)))]), (2007, .vec 3 (v17.1.map Ad))]) (fun v18 => mk [(2, .e (.one (.ptr 2 0))), (3, .e (.one (.ptr 3 0))), (5, .e (.one (.own 2008))), (6, .e (.one (.pure (.val (.int .i64 v1.2))))), (7, .e (.one (.ptr 7 0))), (8, .e (.one (.pure (.val (.int .u8 v6))))), (9, .e (.one (.pure (.val (.int .i64 v10.2))))), (10, .e (.one (.pure (.val (.bool v18.2)))))] [(2, .box [.pure (.sl (p0.fVersions.map Al)), .pure (.sl (p0.fNow.map Al)), .pure (.sl (p0.fTarget.map Al)), .pure (.sl (p0.fTables.map Ar))]), (3, .box [.pure (.sl (p1.fBase.map Al)), .pure (.sl (p1.fNext.map Al)), .pure (.sl (p1.fHeld.map Bg))]), (7, .box [.pure (.val (.int .i64 v4.fKind)), .pure (.val (.int .i64 v4.fFrom)), .pure (.val (.int .i64 v4.fTo)), .pure (.val (.bool v4.fAware)), .pure (.sl (v4.fOK.map (FZ eB))), .pure (.sl (v4.fRewrite.map (FZ eB)))]), (2008, .vec 3 (v18.1.map Ad))]) (fun _ _ => rfl) (sm [(2007, 2004)] _ _ rfl rfl) (fun j17 n17 v17 h => ?_) (fun v18 s h hs => ?_)
        ·unfold BE at h
         refine Ab (Ab (Aa Ac rfl (qm rfl (qf BF rfl (ql Bo rfl (qf Jy rfl (ql CN rfl ?_)))))))
         obtain ⟨v19, a19, b19, h⟩ := Ai h
         refine qi AJ Ec a19 (Ah b19) rfl (qk CN rfl (AT rfl (Ae ?_)))
         refine Ap rfl (fun c20 => ?_) (fun c20 => ?_)
         ·have h := Ao c20 h
          refine Aq ?_
          refine AM h (fun v21 => mk [(2, .e (.one (.ptr 2 0))), (3, .e (.one (.ptr 3 0))), (5, .e (.one (.own 2009))), (6, .e (.one (.pure (.val (.int .i64 v1.2))))), (7, .e (.one (.ptr 7 0))), (8, .e (.one (.pure (.val (.int .u8 v6))))), (9, .e (.one (.pure (.val (.int .i64 v10.2))))), (10, .e (.one (.pure (.val (.bool v21.2))))), (11, .e (.one (.pure (.val (.int .i64 v17.2.2)))))] [(2, .box [.pure (.sl (p0.fVersions.map Al)), .pure (.sl (p0.fNow.map Al)), .pure (.sl (p0.fTarget.map Al)), .pure (.sl (p0.fTables.map Ar))]), (3, .box [.pure (.sl (p1.fBase.map Al)), .pure (.sl (p1.fNext.map Al)), .pure (.sl (p1.fHeld.map Bg))]), (7, .box [.pure (.val (.int .i64 v4.fKind)), .pure (.val (.int .i64 v4.fFrom)), .pure (.val (.int .i64 v4.fTo)), .pure (.val (.bool v4.fAware)), .pure (.sl (v4.fOK.map (FZ eB))), .pure (.sl (v4.fRewrite.map (FZ eB)))]), (2009, .vec 3 (v21.1.map Ad))]) (fun j21 h => ?_) (fun v21 h => ?_)
          ·refine AH (Ab (Ab (Aa Ac rfl (qL A4 Ay rfl (qf Jy rfl (ql CN rfl ?_))))))
           obtain ⟨v22, a22, h⟩ := bind_some h
           refine AG [] (Ex N p1 v4.fTo v22 a22) To rfl (qm rfl ?_)
           obtain ⟨v23, a23, h⟩ := bind_some h
           refine AG [] (Hf N v22 v17.2.2 v23 a23) Sx rfl (Cb rfl (Ae ?_))
           refine Ap rfl (fun c24 => ?_) (fun c24 => ?_)
           ·have h := Ao c24 h
            refine AP ?_
            exact Au _ h (sm [(2009, 2007)] _ _ rfl rfl)
           ·have h := An c24 h
            refine Aq ?_
            refine AM h (fun v25 => mk [(2, .e (.one (.ptr 2 0))), (3, .e (.one (.ptr 3 0))), (5, .e (.one (.own 2010))), (6, .e (.one (.pure (.val (.int .i64 v1.2))))), (7, .e (.one (.ptr 7 0))), (8, .e (.one (.pure (.val (.int .u8 v6))))), (9, .e (.one (.pure (.val (.int .i64 v10.2))))), (10, .e (.one (.pure (.val (.bool v25))))), (11, .e (.one (.pure (.val (.int .i64 v17.2.2)))))] [(2, .box [.pure (.sl (p0.fVersions.map Al)), .pure (.sl (p0.fNow.map Al)), .pure (.sl (p0.fTarget.map Al)), .pure (.sl (p0.fTables.map Ar))]), (3, .box [.pure (.sl (p1.fBase.map Al)), .pure (.sl (p1.fNext.map Al)), .pure (.sl (p1.fHeld.map Bg))]), (7, .box [.pure (.val (.int .i64 v4.fKind)), .pure (.val (.int .i64 v4.fFrom)), .pure (.val (.int .i64 v4.fTo)), .pure (.val (.bool v4.fAware)), .pure (.sl (v4.fOK.map (FZ eB))), .pure (.sl (v4.fRewrite.map (FZ eB)))]), (2010, .vec 3 (v17.1.map Ad))]) (fun j25 h => ?_) (fun v25 h => ?_)
            ·refine Aa Ac rfl (qm rfl (qm rfl ?_))
             refine AD (t := 67) rfl (fun c26 => ?_) (fun c26 => ?_)
             ·have h := Ao c26 h
              refine qn rfl (qn rfl (qn rfl (qn rfl (qn rfl (qn rfl (qn rfl (qn rfl (qp rfl (qa rfl (Ae ?_))))))))))
              exact Au _ h (sm [(2010, 2007)] _ _ rfl rfl)
             ·have h := An c26 h
              refine qf K4 rfl (ql Lz rfl (qm rfl ?_))
              obtain ⟨v27, a27, b27, h⟩ := Ai h
              refine qi HK N2 a27 (Ah b27) rfl (qk Qs rfl (qm rfl ?_))
              obtain ⟨v28, a28, b28, h⟩ := Ai h
              refine qi HY QO a28 (Ah b28) rfl (qk SX rfl (qp rfl (qa rfl (Ae ?_))))
              exact Au _ h (sm [(2010, 2007)] _ _ rfl rfl)
            ·refine AM h (fun v29 => mk [(2, .e (.one (.ptr 2 0))), (3, .e (.one (.ptr 3 0))), (5, .e (.one (.own 2011))), (6, .e (.one (.pure (.val (.int .i64 v1.2))))), (7, .e (.one (.ptr 7 0))), (8, .e (.one (.pure (.val (.int .u8 v6))))), (9, .e (.one (.pure (.val (.int .i64 v10.2))))), (10, .e (.one (.pure (.val (.bool v25))))), (11, .e (.one (.pure (.val (.int .i64 v17.2.2))))), (90, .e (.one (.pure (.val (.bool v29)))))] [(2, .box [.pure (.sl (p0.fVersions.map Al)), .pure (.sl (p0.fNow.map Al)), .pure (.sl (p0.fTarget.map Al)), .pure (.sl (p0.fTables.map Ar))]), (3, .box [.pure (.sl (p1.fBase.map Al)), .pure (.sl (p1.fNext.map Al)), .pure (.sl (p1.fHeld.map Bg))]), (7, .box [.pure (.val (.int .i64 v4.fKind)), .pure (.val (.int .i64 v4.fFrom)), .pure (.val (.int .i64 v4.fTo)), .pure (.val (.bool v4.fAware)), .pure (.sl (v4.fOK.map (FZ eB))), .pure (.sl (v4.fRewrite.map (FZ eB)))]), (2011, .vec 3 (v17.1.map Ad))]) (fun j29 h => ?_) (fun v29 h => ?_)
             ·refine Aa Ac rfl (qf Kl rfl (ql SX rfl (Cb rfl (qm rfl ?_))))
              refine AD (t := 80) rfl (fun c30 => ?_) (fun c30 => ?_)
              ·have h := Ao c30 h
               refine qf K4 rfl (ql Lz rfl (qm rfl ?_))
               obtain ⟨v31, a31, b31, h⟩ := Ai h
               refine qi HK N2 a31 (Ah b31) rfl (qk Qs rfl (qm rfl ?_))
               obtain ⟨v32, a32, b32, h⟩ := Ai h
               refine qi HY QO a32 (Ah b32) rfl (qk SX rfl (Cb rfl (qp rfl (Ae ?_))))
               exact Au _ h (sm [(2011, 2010)] _ _ rfl rfl)
              ·have h := An c30 h
               refine qn rfl (qn rfl (qn rfl (qn rfl (qn rfl (qn rfl (qn rfl (qn rfl (qn rfl (qp rfl (Ae ?_))))))))))
               exact Au _ h (sm [(2011, 2010)] _ _ rfl rfl)
             ·refine Ap rfl (fun c33 => ?_) (fun c33 => ?_)
              ·have h := Ao c33 h
               refine Aa Ac rfl (qm rfl (qm rfl (qm rfl (qm rfl (Bq IV Qj rfl (EU Bb AS IV rfl ?_))))))
               obtain ⟨c34, h⟩ := AQ h
               refine El (f := Ad) Bb Bb AS RN IV c34 rfl (qa rfl (Ae ?_))
               exact Au _ h (sm [(2009, 97)] _ _ rfl rfl)
              ·have h := An c33 h
               refine Aq ?_
               exact Au _ h (sm [(2009, 2011)] _ _ rfl rfl)
          ·refine Aa Ac rfl (qm rfl (AN rfl (qa rfl (Ae ?_))))
           exact Au _ h (sm [(2007, 2009)] _ _ rfl rfl)
         ·have h := An c20 h
          refine AP ?_
          exact Au _ h (sm [(2008, 2007)] _ _ rfl rfl)
        ·refine Am hs ?_
         refine AM h (fun v35 => mk [(2, .e (.one (.ptr 2 0))), (3, .e (.one (.ptr 3 0))), (5, .e (.one (.own 2012))), (6, .e (.one (.pure (.val (.int .i64 v1.2))))), (7, .e (.one (.ptr 7 0))), (8, .e (.one (.pure (.val (.int .u8 v6))))), (9, .e (.one (.pure (.val (.int .i64 v10.2))))), (103, .e (.one (.pure (.val (.bool v35)))))] [(2, .box [.pure (.sl (p0.fVersions.map Al)), .pure (.sl (p0.fNow.map Al)), .pure (.sl (p0.fTarget.map Al)), .pure (.sl (p0.fTables.map Ar))]), (3, .box [.pure (.sl (p1.fBase.map Al)), .pure (.sl (p1.fNext.map Al)), .pure (.sl (p1.fHeld.map Bg))]), (7, .box [.pure (.val (.int .i64 v4.fKind)), .pure (.val (.int .i64 v4.fFrom)), .pure (.val (.int .i64 v4.fTo)), .pure (.val (.bool v4.fAware)), .pure (.sl (v4.fOK.map (FZ eB))), .pure (.sl (v4.fRewrite.map (FZ eB)))]), (2012, .vec 3 (v18.1.map Ad))]) (fun j35 h => ?_) (fun v35 h => ?_)
         ·refine Aa Ac rfl (qf Kl rfl (ql SX rfl (qm rfl ?_)))
          refine AD (t := 100) rfl (fun c36 => ?_) (fun c36 => ?_)
          ·have h := Ao c36 h
           refine qm rfl (Cb rfl (qp rfl (Ae ?_)))
           exact Au _ h (sm [(2012, 2008)] _ _ rfl rfl)
          ·have h := An c36 h
           refine qn rfl (qn rfl (qp rfl (Ae ?_)))
           exact Au _ h (sm [(2012, 2008)] _ _ rfl rfl)
         ·refine Ap rfl (fun c37 => ?_) (fun c37 => ?_)
          ·have h := Ao c37 h
           refine Aa Ac rfl (qm rfl (qm rfl (qm rfl (Bq IV Qj rfl (EU Bb AS IV rfl ?_)))))
           obtain ⟨c38, h⟩ := AQ h
           refine El (f := Ad) Bb Bb AS RN IV c38 rfl (qa rfl (Ae ?_))
           exact Au _ h (sm [(2006, 109)] _ _ rfl rfl)
          ·have h := An c37 h
           refine Aq ?_
           exact Au _ h (sm [(2006, 2012)] _ _ rfl rfl)
      ·refine Aa Ac rfl (qm rfl (AN rfl (qa rfl (Ae ?_))))
       exact Au _ h (sm [(2004, 2006)] _ _ rfl rfl)
     ·have h := An c13 h
      refine AP ?_
      exact Au _ h (sm [(2005, 2004)] _ _ rfl rfl)
    ·refine Am hs (Aa Ac rfl (qm rfl (AN rfl (qa rfl (Ae ?_)))))
     exact Au _ h (sm [(2001, 2005)] _ _ rfl rfl)
  ·have h := An c3 h
   refine AP ?_
   exact Au _ h (sm [(2002, 2001)] _ _ rfl rfl)
 ·refine Am hs (Ab (Aa Ac rfl (qm rfl (qa rfl (Ae ?_)))))
  obtain rfl := sj h
  refine Am (sm [(1000, 2002)] [(4, .e (.one (.own 1000)))] [(1000, .vec 3 (v2.map Ad))] rfl rfl) (Az ?_)
  exact ⟨⟨[_], ⟨.tmp _ _ rfl, trivial⟩, rfl⟩, ⟨rfl, trivial⟩⟩
set_option maxRecDepth 10000 in
theorem L1 (N : Nat) (p0 : Ak) (p1 : Ag) (r : Ag × Af × Int) (h : Fr N p0 p1 = some r) : AB Tryz.prog 101 [.e (.agg [.pure (.sl (p0.fVersions.map Al)), .pure (.sl (p0.fNow.map Al)), .pure (.sl (p0.fTarget.map Al)), .pure (.sl (p0.fTables.map Ar))]), .e (.agg [.pure (.sl (p1.fBase.map Al)), .pure (.sl (p1.fNext.map Al)), .pure (.sl (p1.fHeld.map Bg))])] [] (.tup [.agg [.pure (.sl (r.1.fBase.map Al)), .pure (.sl (r.1.fNext.map Al)), .pure (.sl (r.1.fHeld.map Bg))], .agg [.pure (.val (.int .i64 r.2.1.fTable)), .pure (.val (.int .i64 r.2.1.fWriter)), .pure (.val (.int .i64 r.2.1.fReader))], .one (.pure (.val (.int .i64 r.2.2)))]) := by
 unfold Fr at h
 refine As (n := 46) (rs := [.cell 4 46, .cell 5 66, .tmp 6]) Tryz.func101 rfl rfl rfl (A3 rfl) (A3 rfl) rfl fun w0 S0 => ?_
 refine Ab (Aa Ac rfl (qb rfl (qb rfl (qz Dc rfl (qz IV rfl (qa rfl (Ae (Ab (Aa Ac rfl (qL EH Ep rfl (qL A4 Ay rfl ?_)))))))))))
 obtain ⟨v1, a1, h⟩ := bind_some h
 refine AG [2001] (Lq N p0 p1 v1 a1) X6 rfl (qm rfl (qx rfl (qx rfl (qa rfl (qa rfl (Ae (Ab (Ab (Aa Ac rfl (qm rfl (Ct rfl (Ae ?_))))))))))))
 refine Ap rfl (fun c2 => ?_) (fun c2 => ?_)
 ·have h := Ao c2 h
  refine Ab (Aa Ac rfl (Bq Dc HS rfl (Bq IV Qj rfl (qm rfl (qs Ay rfl (qs AS rfl (qa rfl (Ae ?_))))))))
  obtain rfl := sj h
  refine Am ((LQ 4 _ rfl).trans (sm [] [(4, .e (.one (.ptr 4 0))), (5, .e (.one (.ptr 5 0))), (6, .e (.one (.pure (.val (.int .i64 v1.2)))))] [(4, .box [.pure (.sl ((([] : List Int)).map Al)), .pure (.sl ((([] : List Int)).map Al)), .pure (.sl ((([] : List Int)).map Bg))]), (5, .box [.pure (.val (.int .i64 0)), .pure (.val (.int .i64 0)), .pure (.val (.int .i64 0))])] rfl rfl)) (Az ?_)
  exact ⟨⟨[_, _, _], ⟨.cellN _ _ _ _ _ _ _ rfl rfl A4 Ay rfl rfl (Jw rfl), ⟨.cellN _ _ _ _ _ _ _ rfl rfl Dz AS rfl rfl (Jw rfl), ⟨.tmp _ _ rfl, trivial⟩⟩⟩, rfl⟩, trivial⟩
 ·have h := An c2 h
  refine Aq (Ab (Ab (Aa Ac rfl (qa rfl (Ae ?_)))))
  refine AC (L := Dw N p0 v1) h (fun v3 => mk [(2, .e (.one (.ptr 2 0))), (4, .e (.one (.ptr 4 0))), (5, .e (.one (.ptr 5 0))), (7, .e (.one (.own 2002))), (9, .e (.one (.pure (.val (.int .i64 v3)))))] [(2, .box [.pure (.sl (p0.fVersions.map Al)), .pure (.sl (p0.fNow.map Al)), .pure (.sl (p0.fTarget.map Al)), .pure (.sl (p0.fTables.map Ar))]), (4, .box [.pure (.nil0), .pure (.nil0), .pure (.nil0)]), (5, .box [.pure (.val (.int .i64 0)), .pure (.val (.int .i64 0)), .pure (.val (.int .i64 0))]), (2002, .vec 3 (v1.1.map Aj))]) (fun v4 => mk [(4, .e (.one (.ptr 4 0))), (5, .e (.one (.ptr 5 0)))] [(4, .box [.pure (.nil0), .pure (.nil0), .pure (.nil0)]), (5, .box [.pure (.val (.int .i64 0)), .pure (.val (.int .i64 0)), .pure (.val (.int .i64 0))])]) (fun _ _ => rfl) (sm [(2002, 2001)] _ _ rfl rfl) (fun j3 n3 v3 h => ?_) (fun v4 s h hs => ?_)
  ·unfold Dw at h
   refine Ab (Ab (Aa Ac rfl (qm rfl (qm rfl (FL AZ rfl (AT rfl (Ae ?_)))))))
   refine Ap rfl (fun c5 => ?_) (fun c5 => ?_)
   ·have h := Ao c5 h
    refine Aq (Ab (AH (Ab (Aa Ac rfl (qL EH Ep rfl (qm rfl (qm rfl ?_)))))))
    obtain ⟨v6, a6, b6, h⟩ := Ai h
    refine qI AZ Ay a6 (Ah b6) rfl (qJ A4 Ay (Ah b6) rfl ?_)
    obtain ⟨v7, a7, h⟩ := bind_some h
    refine AG [2003] (LY N p0 v6 v7 a7) Xo rfl (qa rfl (AA (by kernel_rfl) (Ab (Aa Ac rfl (qm rfl (FL Bb rfl (Fv rfl (Ae ?_))))))))
    refine Ap rfl (fun c8 => ?_) (fun c8 => ?_)
    ·have h := Ao c8 h
     refine Ab (Aa Ac rfl (qm rfl (qm rfl ?_)))
     obtain ⟨v9, a9, b9, h⟩ := Ai h
     refine qI AZ Ay a9 (Ah b9) rfl (qJ A4 Ay (Ah b9) rfl (qm rfl ?_))
     obtain ⟨v10, a10, b10, h⟩ := Ai h
     refine qI Bb AS a10 (Ah b10) rfl (qJ Dz AS (Ah b10) rfl (qs Ay rfl (qs AS rfl (qa rfl (AA (by kernel_rfl) ?_)))))
     obtain rfl := sj h
     refine Am (sm [] [(4, .e (.one (.ptr 4 0))), (5, .e (.one (.ptr 5 0))), (6, .e (.one (.pure (.val (.int .i64 0)))))] [(4, .box [.pure (.sl (v9.fBase.map Al)), .pure (.sl (v9.fNext.map Al)), .pure (.sl (v9.fHeld.map Bg))]), (5, .box [.pure (.val (.int .i64 v10.fTable)), .pure (.val (.int .i64 v10.fWriter)), .pure (.val (.int .i64 v10.fReader))])] rfl rfl) (Az ?_)
     exact ⟨⟨[_, _, _], ⟨.cellN _ _ _ _ _ _ _ rfl rfl A4 Ay rfl rfl (Jw rfl), ⟨.cellN _ _ _ _ _ _ _ rfl rfl Dz AS rfl rfl (Jw rfl), ⟨.tmp _ _ rfl, trivial⟩⟩⟩, rfl⟩, trivial⟩
    ·have h := An c8 h
     refine Aq (Aa Ac rfl (qm rfl (AN rfl (qa rfl (Ae ?_)))))
     exact Au _ h (sm [] _ _ rfl rfl)
   ·have h := An c5 h
    refine AP ?_
    exact Au _ h (sm [] _ _ rfl rfl)
  ·refine Am hs (Ab (Aa Ac rfl (Bq Dc HS rfl (Bq IV Qj rfl (qs Ay rfl (qs AS rfl (qa rfl (Ae ?_))))))))
   obtain rfl := sj h
   refine Am ((LQ 4 _ rfl).trans (sm [] [(4, .e (.one (.ptr 4 0))), (5, .e (.one (.ptr 5 0))), (6, .e (.one (.pure (.val (.int .i64 15)))))] [(4, .box [.pure (.sl ((([] : List Int)).map Al)), .pure (.sl ((([] : List Int)).map Al)), .pure (.sl ((([] : List Int)).map Bg))]), (5, .box [.pure (.val (.int .i64 0)), .pure (.val (.int .i64 0)), .pure (.val (.int .i64 0))])] rfl rfl)) (Az ?_)
   exact ⟨⟨[_, _, _], ⟨.cellN _ _ _ _ _ _ _ rfl rfl A4 Ay rfl rfl (Jw rfl), ⟨.cellN _ _ _ _ _ _ _ rfl rfl Dz AS rfl rfl (Jw rfl), ⟨.tmp _ _ rfl, trivial⟩⟩⟩, rfl⟩, trivial⟩
set_option maxRecDepth 10000 in
theorem Lx (N : Nat) (p0 : Ak) (p1 : Ag) (r : (List A7)) (h : E9 N p0 p1 = some r) : AB Tryz.prog 57 [.e (.agg [.pure (.sl (p0.fVersions.map Al)), .pure (.sl (p0.fNow.map Al)), .pure (.sl (p0.fTarget.map Al)), .pure (.sl (p0.fTables.map Ar))]), .e (.agg [.pure (.sl (p1.fBase.map Al)), .pure (.sl (p1.fNext.map Al)), .pure (.sl (p1.fHeld.map Bg))])] [(9, r.map BA)] (.e (.one (.own 0))) := by
 unfold E9 at h
 refine As (n := 52) (rs := [.tmp 4]) Tryz.func57 rfl rfl rfl (A3 rfl) (A3 rfl) rfl fun w0 S0 => ?_
 refine Ab (Aa Ac rfl (qb rfl (qb rfl (qa rfl (Ae (Ab (Aa Ac rfl (qa rfl (Ae (Ab (Aa Ac rfl (qL EH Ep rfl (qL A4 Ay rfl ?_)))))))))))))
 obtain ⟨v1, a1, h⟩ := bind_some h
 refine AG [2001] (L3 N p0 p1 v1 a1) Y5 rfl (qa rfl (Ae (Ab (Ab (Aa Ac rfl (qa rfl (Ae ?_)))))))
 refine AC (L := Cy N p0 p1 v1) h (fun v2 => mk [(2, .e (.one (.ptr 2 0))), (3, .e (.one (.ptr 3 0))), (5, .e (.one (.own 2002))), (6, .e (.one (.own 2003))), (7, .e (.one (.pure (.val (.int .i64 v2.2)))))] [(2, .box [.pure (.sl (p0.fVersions.map Al)), .pure (.sl (p0.fNow.map Al)), .pure (.sl (p0.fTarget.map Al)), .pure (.sl (p0.fTables.map Ar))]), (3, .box [.pure (.sl (p1.fBase.map Al)), .pure (.sl (p1.fNext.map Al)), .pure (.sl (p1.fHeld.map Bg))]), (2002, .vec 9 (v2.1.map BA)), (2003, .vec 3 (v1.map A0))]) (fun v3 => mk [(5, .e (.one (.own 2004)))] [(2004, .vec 9 (v3.map BA))]) (fun _ _ => rfl) ((Br 5 2010 9 rfl rfl rfl).trans (sm [(2002, 2010), (2003, 2001)] _ _ rfl rfl)) (fun j2 n2 v2 h => ?_) (fun v3 s h hs => ?_)
 ·unfold Cy at h
  refine Ab (Ab (Aa Ac rfl (qm rfl (qm rfl (FL FR rfl (AT rfl (Ae ?_)))))))
  refine Ap rfl (fun c4 => ?_) (fun c4 => ?_)
  ·have h := Ao c4 h
   refine Aq ?_
   refine AM h (fun v5 => mk [(2, .e (.one (.ptr 2 0))), (3, .e (.one (.ptr 3 0))), (5, .e (.one (.own 2005))), (6, .e (.one (.own 2006))), (7, .e (.one (.pure (.val (.int .i64 v2.2)))))] [(2, .box [.pure (.sl (p0.fVersions.map Al)), .pure (.sl (p0.fNow.map Al)), .pure (.sl (p0.fTarget.map Al)), .pure (.sl (p0.fTables.map Ar))]), (3, .box [.pure (.sl (p1.fBase.map Al)), .pure (.sl (p1.fNext.map Al)), .pure (.sl (p1.fHeld.map Bg))]), (2005, .vec 9 (v5.map BA)), (2006, .vec 3 (v1.map A0))]) (fun j5 h => ?_) (fun v5 h => ?_)
   ·refine AH (Ab (Aa Ac rfl (qL EH Ep rfl (qL A4 Ay rfl (qm rfl (qm rfl ?_))))))
    obtain ⟨v6, a6, b6, h⟩ := Ai h
    refine qI FR Ft a6 (Ah b6) rfl (qJ I2 Ft (Ah b6) rfl ?_)
    obtain ⟨v7, a7, h⟩ := bind_some h
    refine AG [2007, 2008, 2009] (Jp N p0 p1 v6 v7 a7) XM rfl (qm rfl (qx rfl (qx rfl (qz Dc rfl (qs Ay rfl (qa rfl (AA (by kernel_rfl) (Ab (Aa Ac rfl (qL EH Ep rfl (qL A4 Ay rfl (Ev (Bm 2007 _ _ rfl rfl) (Ev (Bm 2008 _ _ rfl rfl) (Ev (Bm 2009 _ _ rfl rfl) ?_))))))))))))))
    obtain ⟨v8, a8, h⟩ := bind_some h
    refine AG [] (L1 N p0 v7.1 v8 a8) Xz rfl (qm rfl (qx rfl (qx rfl (qx rfl (qz Dc rfl (qz IV rfl (qs Ay rfl (qs AS rfl (qa rfl (Ae (Ab (Aa Ac rfl (qm rfl (BX rfl (Ae ?_)))))))))))))))
    refine Ap rfl (fun c9 => ?_) (fun c9 => ?_)
    ·have h := Ao c9 h
     refine Aa Ac rfl (qm rfl (qm rfl (qm rfl ?_)))
     obtain ⟨v10, a10, b10, h⟩ := Ai h
     refine qI FR Ft a10 (Ah b10) rfl (qJ I2 Ft (Ah b10) rfl (qL A4 Ay rfl (qL Dz AS rfl (Bq Qp Yg rfl (EU Hd Lp Qp rfl ?_)))))
     obtain ⟨c11, h⟩ := AQ h
     refine El (f := BA) Hd Hd Lp SQ Qp c11 rfl (qa rfl (AA (by kernel_rfl) ?_))
     exact Au _ h (sm [(2005, 50), (2006, 2003)] _ _ rfl rfl)
    ·have h := An c9 h
     refine Aq ?_
     exact Au _ h (sm [(2005, 2002), (2006, 2003)] _ _ rfl rfl)
   ·refine Aa Ac rfl (qm rfl (AN rfl (qa rfl (Ae ?_))))
    exact Au _ h (sm [(2002, 2005), (2003, 2006)] _ _ rfl rfl)
  ·have h := An c4 h
   refine AP ?_
   exact Au _ h (sm [(2004, 2002)] _ _ rfl rfl)
 ·refine Am hs (Ab (Aa Ac rfl (qm rfl (qa rfl (Ae ?_)))))
  obtain rfl := sj h
  refine Am (sm [(1000, 2004)] [(4, .e (.one (.own 1000)))] [(1000, .vec 9 (v3.map BA))] rfl rfl) (Az ?_)
  exact ⟨⟨[_], ⟨.tmp _ _ rfl, trivial⟩, rfl⟩, ⟨rfl, trivial⟩⟩
set_option maxRecDepth 10000 in
theorem Lj (N : Nat) (p0 : Ak) (p1 : List Ag) (r : (List A7) × Int) (h : Fb N p0 p1 = some r) : AB Tryz.prog 19 [.e (.agg [.pure (.sl (p0.fVersions.map Al)), .pure (.sl (p0.fNow.map Al)), .pure (.sl (p0.fTarget.map Al)), .pure (.sl (p0.fTables.map Ar))]), .e (.one (.pure (.sl (p1.map Aj))))] [(9, r.1.map BA)] (.tup [.one (.own 0), .one (.pure (.val (.int .i64 r.2)))]) := by
 unfold Fb at h
 refine As (n := 30) (rs := [.tmp 4, .tmp 5]) Tryz.func19 rfl rfl rfl (A3 rfl) (A3 rfl) rfl fun w0 S0 => ?_
 refine Ab (Aa Ac rfl (qb rfl (qa rfl (qa rfl (Ae (Ab (Ab (Aa Ac rfl (qL EH Ep rfl (qm rfl ?_))))))))))
 obtain ⟨v1, a1, h⟩ := bind_some h
 refine AG [] (LV N p0 p1 v1 a1) ZL rfl (qa rfl (Ae (Ab (Aa Ac rfl (qm rfl (Ct rfl (Ae ?_)))))))
 refine Ap rfl (fun c2 => ?_) (fun c2 => ?_)
 ·have h := Ao c2 h
  refine Ab (Aa Ac rfl (qm rfl (qa rfl (qa rfl (Ae ?_)))))
  obtain rfl := sj h
  refine Am ((Br 4 2001 9 rfl rfl rfl).trans (sm [(1000, 2001)] [(4, .e (.one (.own 1000))), (5, .e (.one (.pure (.val (.int .i64 v1)))))] [(1000, .vec 9 ((([] : List A7)).map BA))] rfl rfl)) (Az ?_)
  exact ⟨⟨[_, _], ⟨.tmp _ _ rfl, ⟨.tmp _ _ rfl, trivial⟩⟩, rfl⟩, ⟨rfl, trivial⟩⟩
 ·have h := An c2 h
  refine Aq (Ab (Aa Ac rfl (qa rfl (Ae (Ab (Ab (Aa Ac rfl (qa rfl (Ae ?_)))))))))
  refine AC (L := CA N p0 p1) h (fun v3 => mk [(1, .e (.one (.pure (.sl (p1.map Aj))))), (2, .e (.one (.ptr 2 0))), (7, .e (.one (.own 2002))), (8, .e (.one (.pure (.val (.int .i64 v3.2)))))] [(2, .box [.pure (.sl (p0.fVersions.map Al)), .pure (.sl (p0.fNow.map Al)), .pure (.sl (p0.fTarget.map Al)), .pure (.sl (p0.fTables.map Ar))]), (2002, .vec 9 (v3.1.map BA))]) (fun v4 => mk [(7, .e (.one (.own 2003)))] [(2003, .vec 9 (v4.map BA))]) (fun _ _ => rfl) ((Br 7 2005 9 rfl rfl rfl).trans (sm [(2002, 2005)] _ _ rfl rfl)) (fun j3 n3 v3 h => ?_) (fun v4 s h hs => ?_)
  ·unfold CA at h
   refine Ab (Ab (Aa Ac rfl (qm rfl (qm rfl (AU AZ rfl (AT rfl (Ae ?_)))))))
   refine Ap rfl (fun c5 => ?_) (fun c5 => ?_)
   ·have h := Ao c5 h
    refine Aq (Ab (AH (Aa Ac rfl (qm rfl (qL EH Ep rfl (qm rfl (qm rfl ?_)))))))
    obtain ⟨v6, a6, b6, h⟩ := Ai h
    refine qi AZ Ay a6 (Ah b6) rfl (qK A4 Ay rfl ?_)
    obtain ⟨v7, a7, h⟩ := bind_some h
    refine AG [2004] (Lx N p0 v6 v7 a7) Zd rfl ?_
    obtain ⟨c8, h⟩ := AQ h
    refine El (f := BA) Hd Hd Lp SQ Qp c8 rfl (qa rfl (AA (by kernel_rfl) (Aa Ac rfl (qm rfl (AN rfl (qa rfl (Ae ?_)))))))
    exact Au _ h (sm [(2002, 28)] _ _ rfl rfl)
   ·have h := An c5 h
    refine AP ?_
    exact Au _ h (sm [(2003, 2002)] _ _ rfl rfl)
  ·refine Am hs (Ab (Aa Ac rfl (qm rfl (qa rfl (qa rfl (Ae ?_))))))
   obtain rfl := sj h
   refine Am (sm [(1000, 2003)] [(4, .e (.one (.own 1000))), (5, .e (.one (.pure (.val (.int .i64 0)))))] [(1000, .vec 9 (v4.map BA))] rfl rfl) (Az ?_)
   exact ⟨⟨[_, _], ⟨.tmp _ _ rfl, ⟨.tmp _ _ rfl, trivial⟩⟩, rfl⟩, ⟨rfl, trivial⟩⟩
set_option maxRecDepth 10000 in
theorem Mi (N : Nat) (p0 : List A7) (p1 : List A7) (r : Bool) (h : FK N p0 p1 = some r) : AB Tryz.prog 20 [.e (.one (.pure (.sl (p0.map BA)))), .e (.one (.pure (.sl (p1.map BA))))] [] (.e (.one (.pure (.val (.bool r))))) := by
 unfold FK at h
 refine As (n := 55) (rs := [.tmp 4]) Tryz.func20 rfl rfl rfl (A3 rfl) (A3 rfl) rfl fun w0 S0 => ?_
 refine Ab (Aa Ac rfl (qa rfl (Ae (Ab (Ab (Aa Ac rfl (qm rfl (AU Hd rfl (qm rfl (AU Hd rfl (Ct rfl (Ae ?_))))))))))))
 refine Ap rfl (fun c1 => ?_) (fun c1 => ?_)
 ·have h := Ao c1 h
  refine Ab (Aa Ac rfl (qa rfl (Ae ?_)))
  obtain rfl := sj h
  refine Am (sm [] [(4, .e (.one (.pure (.val (.bool false)))))] [] rfl rfl) (Az ?_)
  exact ⟨⟨[_], ⟨.tmp _ _ rfl, trivial⟩, rfl⟩, trivial⟩
 ·have h := An c1 h
  refine Aq (Ab (Ab (Aa Ac rfl (qa rfl (Ae ?_)))))
  refine AC (L := C5 N p0 p1) h (fun v2 => mk [(0, .e (.one (.pure (.sl (p0.map BA))))), (1, .e (.one (.pure (.sl (p1.map BA))))), (5, .e (.one (.pure (.val (.int .i64 v2)))))] []) (fun v3 => mk [] []) (fun _ _ => rfl) (sm [] _ _ rfl rfl) (fun j2 n2 v2 h => ?_) (fun v3 s h hs => ?_)
  ·unfold C5 at h
   refine Ab (Ab (Aa Ac rfl (qm rfl (qm rfl (AU Hd rfl (AT rfl (Ae ?_)))))))
   refine Ap rfl (fun c4 => ?_) (fun c4 => ?_)
   ·have h := Ao c4 h
    refine Aq (Ab (AH ?_))
    refine AM h (fun v5 => mk [(0, .e (.one (.pure (.sl (p0.map BA))))), (1, .e (.one (.pure (.sl (p1.map BA))))), (5, .e (.one (.pure (.val (.int .i64 v2))))), (54, .e (.one (.pure (.val (.bool v5)))))] []) (fun j5 h => ?_) (fun v5 h => ?_)
    ·refine Aa Ac rfl (qm rfl (qm rfl ?_))
     obtain ⟨v6, a6, b6, h⟩ := Ai h
     refine qi Hd Lp a6 (Ah b6) rfl (qg Qc rfl (qK I2 Ft rfl (qm rfl (qm rfl ?_))))
     obtain ⟨v7, a7, b7, h⟩ := Ai h
     refine qi Hd Lp a7 (Ah b7) rfl (qg Qc rfl (qK I2 Ft rfl ?_))
     refine SO [.int .i64 v6.fStep.fKind, .int .i64 v6.fStep.fIndex, .int .i64 v6.fStep.fVersion] [.int .i64 v7.fStep.fKind, .int .i64 v7.fStep.fIndex, .int .i64 v7.fStep.fVersion] (.p rfl) rfl rfl Wr rfl ?_
     refine qm rfl ?_
     refine AD (t := 28) rfl (fun c8 => ?_) (fun c8 => ?_)
     ·have h := Ao c8 h
      refine qn rfl (qn rfl (qn rfl (qn rfl (qn rfl (qn rfl (qn rfl (qn rfl (qn rfl (qn rfl (qn rfl (qp rfl (qm rfl (qn rfl (qn rfl (qn rfl (qn rfl (qn rfl (qn rfl (qn rfl (qn rfl (qn rfl (qn rfl (qn rfl (qn rfl (qp rfl (AA (by kernel_rfl) ?_))))))))))))))))))))))))))
      exact Au _ h (sm [] _ _ rfl rfl)
     ·have h := An c8 h
      refine qm rfl (qm rfl ?_)
      obtain ⟨v9, a9, b9, h⟩ := Ai h
      refine qi Hd Lp a9 (Ah b9) rfl (qg Ob rfl (qK Dz AS rfl (qm rfl (qm rfl ?_))))
      obtain ⟨v10, a10, b10, h⟩ := Ai h
      refine qi Hd Lp a10 (Ah b10) rfl (qg Ob rfl (qK Dz AS rfl ?_))
      refine SO [.int .i64 v9.fConflict.fTable, .int .i64 v9.fConflict.fWriter, .int .i64 v9.fConflict.fReader] [.int .i64 v10.fConflict.fTable, .int .i64 v10.fConflict.fWriter, .int .i64 v10.fConflict.fReader] (.g rfl rfl) rfl rfl QK rfl ?_
      refine qp rfl (qm rfl ?_)
      refine AD (t := 41) rfl (fun c11 => ?_) (fun c11 => ?_)
      ·have h := Ao c11 h
       refine qn rfl (qn rfl (qn rfl (qn rfl (qn rfl (qn rfl (qn rfl (qn rfl (qn rfl (qn rfl (qn rfl (qn rfl (qp rfl (AA (by kernel_rfl) ?_)))))))))))))
       exact Au _ h (sm [] _ _ rfl rfl)
      ·have h := An c11 h
       refine qm rfl (qm rfl ?_)
       obtain ⟨v12, a12, b12, h⟩ := Ai h
       refine qi Hd Lp a12 (Ah b12) rfl (qg SR rfl (qK A4 Ay rfl (qm rfl (qm rfl ?_))))
       obtain ⟨v13, a13, b13, h⟩ := Ai h
       refine qi Hd Lp a13 (Ah b13) rfl (qg SR rfl (qK A4 Ay rfl ?_))
       obtain ⟨v14, a14, h⟩ := bind_some h
       refine AG [] (HN N ((Ag.mk v12.fMix.fBase v12.fMix.fNext v12.fMix.fHeld)) ((Ag.mk v13.fMix.fBase v13.fMix.fNext v13.fMix.fHeld)) v14 a14) W9 rfl (Cb rfl (qp rfl (AA (by kernel_rfl) ?_)))
       exact Au _ h (sm [] _ _ rfl rfl)
    ·refine Ap rfl (fun c15 => ?_) (fun c15 => ?_)
     ·have h := Ao c15 h
      refine Ab (Aa Ac rfl (qa rfl (Ae ?_)))
      obtain rfl := sj h
      refine Am (sm [] [(4, .e (.one (.pure (.val (.bool false)))))] [] rfl rfl) (Az ?_)
      exact ⟨⟨[_], ⟨.tmp _ _ rfl, trivial⟩, rfl⟩, trivial⟩
     ·have h := An c15 h
      refine Aq (Aa Ac rfl (qm rfl (AN rfl (qa rfl (Ae ?_)))))
      exact Au _ h (sm [] _ _ rfl rfl)
   ·have h := An c4 h
    refine AP ?_
    exact Au _ h (sm [] _ _ rfl rfl)
  ·refine Am hs (Ab (Aa Ac rfl (qa rfl (Ae ?_))))
   obtain rfl := sj h
   refine Am (sm [] [(4, .e (.one (.pure (.val (.bool true)))))] [] rfl rfl) (Az ?_)
   exact ⟨⟨[_], ⟨.tmp _ _ rfl, trivial⟩, rfl⟩, trivial⟩
set_option maxRecDepth 10000 in
theorem Jx (N : Nat) (p0 : CV) (p1 : Ce) (r : Bool) (h : DN N p0 p1 = some r) : AB Tryz.prog 4 [.e (.agg [.pure (.sl (p0.fVersions.map Bg)), .pure (.sl (p0.fNow.map Bg)), .pure (.sl (p0.fTarget.map Bg)), .pure (.sl (p0.fLinks.map CW))]), .e (.agg [.pure (.sl (p1.fBase.map Bg)), .pure (.sl (p1.fNext.map Bg)), .pure (.sl (p1.fHeld.map Bg))])] [] (.e (.one (.pure (.val (.bool r))))) := by
 unfold DN at h
 refine As (n := 48) (rs := [.tmp 4]) Tryz.func4 rfl rfl rfl (A3 rfl) (A3 rfl) rfl fun w0 S0 => ?_
 refine Ab (Aa Ac rfl (qb rfl (qb rfl (qa rfl (Ae (Ab (Aa Ac rfl (qL Zk Y7 rfl ?_))))))))
 obtain ⟨v1, a1, h⟩ := bind_some h
 refine AG [2001, 2002, 2003, 2004] (M7 N p0 v1 a1) YX rfl (qm rfl (qx rfl (qx rfl (qz Tf rfl (qs Ep rfl (qa rfl (Ae (Ab ?_))))))))
 refine AM h (fun v2 => mk [(3, .e (.one (.ptr 3 0))), (5, .e (.one (.ptr 5 0))), (22, .e (.one (.pure (.val (.bool v2)))))] [(3, .box [.pure (.sl (p1.fBase.map Bg)), .pure (.sl (p1.fNext.map Bg)), .pure (.sl (p1.fHeld.map Bg))]), (5, .box [.own 2005, .own 2006, .own 2007, .own 2008]), (2005, .vec 1 (v1.1.fVersions.map Al)), (2006, .vec 1 (v1.1.fNow.map Al)), (2007, .vec 1 (v1.1.fTarget.map Al)), (2008, .vec 6 (v1.1.fTables.map Ar))]) (fun j2 h => ?_) (fun v2 h => ?_)
 ·refine Aa Ac rfl ?_
  obtain ⟨v3, a3, h⟩ := bind_some h
  refine AG [] (Js N v3 a3) XB rfl (Cb rfl (qm rfl ?_))
  refine AD (t := 19) rfl (fun c4 => ?_) (fun c4 => ?_)
  ·have h := Ao c4 h
   refine qn rfl (qn rfl (qp rfl (Ae ?_)))
   exact Au _ h (sm [(2005, 2001), (2006, 2002), (2007, 2003), (2008, 2004)] _ _ rfl rfl)
  ·have h := An c4 h
   refine qm rfl (Cb rfl (qp rfl (Ae ?_)))
   exact Au _ h (sm [(2005, 2001), (2006, 2002), (2007, 2003), (2008, 2004)] _ _ rfl rfl)
 ·refine Ap rfl (fun c5 => ?_) (fun c5 => ?_)
  ·have h := Ao c5 h
   refine Ab (Aa Ac rfl ?_)
   obtain ⟨v6, a6, h⟩ := bind_some h
   refine AG [] (Js N v6 a6) XB rfl (qa rfl (Ae ?_))
   obtain rfl := sj h
   refine Am (sm [] [(4, .e (.one (.pure (.val (.bool v6)))))] [] rfl rfl) (Az ?_)
   exact ⟨⟨[_], ⟨.tmp _ _ rfl, trivial⟩, rfl⟩, trivial⟩
  ·have h := An c5 h
   refine Aq (Ab (Aa Ac rfl (qL EH Ep rfl (qL ZK Y2 rfl ?_))))
   obtain ⟨v7, a7, h⟩ := bind_some h
   refine Et [2009, 2010, 2011] [2005, 2006, 2007, 2008] (Ns N v1.1 p1 v7 a7) ZA (Hw (fun _ => rfl) (Hw (fun _ => rfl) (Hw (fun _ => rfl) CQ))) rfl (qz Dc rfl (qs Ay rfl (Ae (Ab (Aa Ac rfl (qL EH Ep rfl (qL A4 Ay rfl (Ev (Bm 2005 _ _ rfl rfl) (Ev (Bm 2006 _ _ rfl rfl) (Ev (Bm 2007 _ _ rfl rfl) (Ev (Bm 2008 _ _ rfl rfl) (Ev (Bm 2009 _ _ rfl rfl) (Ev (Bm 2010 _ _ rfl rfl) (Ev (Bm 2011 _ _ rfl rfl) ?_))))))))))))))
   obtain ⟨v8, a8, h⟩ := bind_some h
   refine AG [2012] (KJ N v1.1 v7 v8 a8) XR rfl (qm rfl (qx rfl (qx rfl (qa rfl (qa rfl (Ae (Ab (Aa Ac rfl (qL EH Ep rfl (qL A4 Ay rfl (EU AZ Ay Dc rfl (Ev (Bm 36 _ _ rfl rfl) ?_))))))))))))
   obtain ⟨v9, a9, h⟩ := bind_some h
   refine AG [2013] (Lj N v1.1 (([v7] : List Ag)) v9 a9) Zt rfl (qm rfl (qx rfl (qx rfl (qa rfl (qa rfl (Ae ?_))))))
   refine AM h (fun v10 => mk [(4, .e (.one (.pure (.val (.bool v10)))))] []) (fun j10 h => ?_) (fun v10 h => ?_)
   ·refine Aa Ac rfl (qm rfl (qm rfl (BX rfl (qm rfl ?_))))
    refine AD (t := 43) rfl (fun c11 => ?_) (fun c11 => ?_)
    ·have h := Ao c11 h
     refine qm rfl (qm rfl ?_)
     obtain ⟨v12, a12, h⟩ := bind_some h
     refine Et [] [2012, 2013] (Mi N v8.1 v9.1 v12 a12) Zz CQ rfl (qp rfl (qa rfl (Ae ?_)))
     exact Au _ h (sm [] _ _ rfl rfl)
    ·have h := An c11 h
     refine qn rfl (qn rfl (qn rfl (qp rfl (qa rfl (Ae ?_)))))
     exact Au _ h (sm [] _ _ rfl rfl)
   ·obtain rfl := sj h
    refine Am (sm [] [(4, .e (.one (.pure (.val (.bool v10)))))] [] rfl rfl) (Az ?_)
    exact ⟨⟨[_], ⟨.tmp _ _ rfl, trivial⟩, rfl⟩, trivial⟩
end Go.Lift

