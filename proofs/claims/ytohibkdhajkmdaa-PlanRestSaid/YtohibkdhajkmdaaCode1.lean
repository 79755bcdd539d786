/- Lemmas for PlanRestSaid, which YtohibkdhajkmdaaFinP8 proves. -/
import Derived.Test.YtohibkdhajkmdaaTypes
import Derived.Test.YtohibkdhajkmdaaProg
import Derived.KernelRfl
/- The shallow programs. Written by a program (gen.py) out of the code. -/
namespace Go.Lift
def CA (_ : Nat) (p0 : Bool) (p1 : Bool) : Option Ac :=
 some ((Ac.mk (([2, 2] : List Int)) (([0, 0] : List Int)) (([1, 1] : List Int)) (([(AE.mk 1 0 1 p1 (([([true, (!p0)] : List Bool), ([false, true] : List Bool)] : List (List Bool))) (([] : List (List Bool))))] : List AE))))
def DG (_ : Nat) (p0 : Int) (p1 : Int) : Option Bool :=
 Br (fun (v1 : Bool) =>
  some v1)
 fun j1 =>
 AY ((decide (0 ≤ p0)))
  (j1 (decide (p0 < p1)))
  (j1 false)
def FL (_ : Nat) (p0 : Int) (p1 : Bool) : Option Bool :=
 Br (fun (v1 : Bool) =>
  some v1)
 fun j1 =>
 AY ((p0 == 1))
  (j1 true)
  (AY ((p0 == 2))
   (j1 true)
   (AY ((p0 == 3))
    (j1 (!p1))
    (AY ((p0 == 4))
     (j1 (!p1))
     (j1 false))))
def Dz (_ : Nat) (p0 : List Bool) (p1 : Int) : Option Bool :=
 some (((p0.length : Int) != p1))
def Bm (N : Nat) (p0 : List (List Bool)) (p1 : (List Bool) → Option Bool) (j1 : Unit → Option Int) : Nat → Int → Option Int
 | 0, _ => none
 | n1 + 1, v1 =>
  AY ((decide (v1 < (p0.length : Int))))
   ((BW p0 v1).bind fun v4 =>
   (p1 v4).bind fun v5 =>
   AY v5
    (some v1)
    (Bm N p0 p1 j1 n1 (IntKind.wrap .i64 (v1 + 1))))
   (j1 ())
def C4 (N : Nat) (p0 : List (List Bool)) (p1 : (List Bool) → Option Bool) : Option Int :=
 Bm N p0 p1 (fun (_ : Unit) =>
  some ((-1))) N 0
def CI (N : Nat) (p0 : List (List Bool)) (p1 : (List Bool) → Option Bool) : Option Bool :=
 (C4 N p0 p1).bind fun v1 =>
 some ((decide (0 ≤ v1)))
def EA (N : Nat) (p0 : List (List Bool)) (p1 : Int) (p2 : Int) : Option Bool :=
 Br (fun (v1 : Bool) =>
  some v1)
 fun j1 =>
 AY (((p0.length : Int) == p1))
  ((CI N p0 ((fun (x : List Bool) => Dz N x p2))).bind fun v3 =>
  j1 (!v3))
  (j1 false)
def CS (N : Nat) (p1 : AE) (j19 : Unit → Option Int) : Nat → Int → Option Int
 | 0, _ => none
 | n19 + 1, v19 =>
  AY ((decide (v19 < (p1.fRewrite.length : Int))))
   ((BW p1.fRewrite v19).bind fun v22 =>
   (BW v22 v19).bind fun v23 =>
   AY ((!v23))
    (some 1)
    (CS N p1 j19 n19 (IntKind.wrap .i64 (v19 + 1))))
   (j19 ())
def Fo (N : Nat) (p0 : Ac) (p1 : AE) : Option Int :=
 (FL N p1.fKind p1.fAware).bind fun v1 =>
 AY ((!v1))
  (some 1)
  (Br (fun (v3 : Bool) =>
   AY v3
    (some 4)
    ((BW p0.fVersions p1.fFrom).bind fun v8 =>
    Br (fun (v9 : Bool) =>
     AY v9
      (some 6)
      (CS N p1 (fun (_ : Unit) =>
       some 0) N 0))
    fun j9 =>
    (BW p0.fVersions p1.fTo).bind fun v10 =>
    (EA N p1.fOK v8 v10).bind fun v11 =>
    AY ((!v11))
     (j9 true)
     (AY ((p1.fKind == 4))
      ((EA N p1.fRewrite v8 v8).bind fun v14 =>
      AY ((!v14))
       (j9 true)
       (AY ((!((p1.fKind == 4))))
        (j9 (decide (0 < (p1.fRewrite.length : Int))))
        (j9 false)))
      (AY ((!((p1.fKind == 4))))
       (j9 (decide (0 < (p1.fRewrite.length : Int))))
       (j9 false)))))
  fun j3 =>
  (DG N p1.fFrom ((p0.fVersions.length : Int))).bind fun v4 =>
  AY ((!v4))
   (j3 true)
   ((DG N p1.fTo ((p0.fVersions.length : Int))).bind fun v6 =>
   j3 (!v6)))
def BT (N : Nat) (p0 : Ac) (j7 : Unit → Option Int) : Nat → Int → Option Int
 | 0, _ => none
 | n7 + 1, v7 =>
  AY ((decide (v7 < (p0.fVersions.length : Int))))
   ((BW p0.fVersions v7).bind fun v10 =>
   Br (fun (v11 : Bool) =>
    AY v11
     (some 7)
     (BT N p0 j7 n7 (IntKind.wrap .i64 (v7 + 1))))
   fun j11 =>
   AY ((decide (v10 < 1)))
    (j11 true)
    (AY ((decide (6 < v10)))
     (j11 true)
     ((BW p0.fNow v7).bind fun v14 =>
     (DG N v14 v10).bind fun v15 =>
     AY ((!v15))
      (j11 true)
      ((BW p0.fTarget v7).bind fun v17 =>
      (DG N v17 v10).bind fun v18 =>
      j11 (!v18)))))
   (j7 ())
def BK (N : Nat) (p0 : Ac) (j20 : Unit → Option Int) : Nat → Int → Option Int
 | 0, _ => none
 | n20 + 1, v20 =>
  AY ((decide (v20 < (p0.fTables.length : Int))))
   ((BW p0.fTables v20).bind fun v23 =>
   (Fo N p0 v23).bind fun v24 =>
   AY ((v24 != 0))
    (some v24)
    (BK N p0 j20 n20 (IntKind.wrap .i64 (v20 + 1))))
   (j20 ())
def C9 (N : Nat) (p0 : Ac) : Option Int :=
 Br (fun (v1 : Bool) =>
  AY v1
   (some 3)
   (Br (fun (v4 : Bool) =>
    AY v4
     (some 6)
     (BT N p0 (fun (_ : Unit) =>
      BK N p0 (fun (_ : Unit) =>
       some 0) N 0) N 0))
   fun j4 =>
   AY (((p0.fNow.length : Int) != (p0.fVersions.length : Int)))
    (j4 true)
    (j4 ((p0.fTarget.length : Int) != (p0.fVersions.length : Int)))))
 fun j1 =>
 AY ((decide (6 < (p0.fVersions.length : Int))))
  (j1 true)
  (j1 (decide (12 < (p0.fTables.length : Int))))
def BJ (_ : Nat) (p0 : List Int) : Option ((List Int)) :=
 (D2 ((([] : List Int)).length + p0.length ≤ Du)).bind fun _ =>
 some ((([] : List Int)) ++ p0)
def F2 (_ : Nat) (p0 : Int) (p1 : Int) : Option (Int × Int) :=
 some ((IntKind.wrap .u32 ((E0 .u64 ((IntKind.wrap .u64 ((IntKind.wrap .u64 p0) * (IntKind.wrap .u64 p1)))) 32))), (IntKind.wrap .u32 ((IntKind.wrap .u64 ((IntKind.wrap .u64 p0) * (IntKind.wrap .u64 p1))))))
def F3 (_ : Nat) (p0 : Int) (p1 : Int) : Option (Int × Int) :=
 some ((IntKind.wrap .u64 ((IntKind.wrap .u64 ((IntKind.wrap .u64 ((E0 .u64 p0 32) * (E0 .u64 p1 32))) + (E0 .u64 ((IntKind.wrap .u64 ((IntKind.wrap .u64 ((E0 .u64 p0 32) * (FA .u64 p1 4294967295))) + (E0 .u64 ((IntKind.wrap .u64 ((FA .u64 p0 4294967295) * (FA .u64 p1 4294967295)))) 32)))) 32))) + (E0 .u64 ((IntKind.wrap .u64 ((FA .u64 ((IntKind.wrap .u64 ((IntKind.wrap .u64 ((E0 .u64 p0 32) * (FA .u64 p1 4294967295))) + (E0 .u64 ((IntKind.wrap .u64 ((FA .u64 p0 4294967295) * (FA .u64 p1 4294967295)))) 32)))) 4294967295) + (IntKind.wrap .u64 ((FA .u64 p0 4294967295) * (E0 .u64 p1 32)))))) 32))), (IntKind.wrap .u64 (p0 * p1)))
def GD (N : Nat) (p0 : Int) (p1 : Int) : Option (Int × Int) :=
 AY false
  ((F2 N ((IntKind.wrap .u32 p0)) ((IntKind.wrap .u32 p1))).bind fun v2 =>
  some ((IntKind.wrap .u64 v2.1), (IntKind.wrap .u64 v2.2)))
  ((F3 N p0 p1).bind fun v3 =>
  some (v3.1, v3.2))
def Dt (N : Nat) (j9 : ((List Int)) → Option ((List Int))) : Nat → ((List Int) × Int) → Option ((List Int))
 | 0, _ => none
 | n9 + 1, v9 =>
  AY ((decide (v9.2 < (v9.1.length : Int))))
   ((D2 ((0 : Int) ≤ v9.2 ∧ (v9.2).toNat ≤ v9.1.length ∧ v9.1.length ≤ v9.1.length)).bind fun _ =>
   (D2 ((0 : Int) ≤ v9.2 ∧ 0 ≤ (v9.2).toNat ∧ (v9.2).toNat ≤ v9.1.length)).bind fun _ =>
   Dt N j9 n9 (Im v9.1 ((v9.2).toNat) ((((v9.1.drop 0).take ((v9.2).toNat))).take (Nat.min (((v9.1.drop 0).take ((v9.2).toNat))).length ((v9.1.length - (v9.2).toNat)))), (IntKind.wrap .i64 (v9.2 + (((Nat.min (((v9.1.drop 0).take ((v9.2).toNat))).length ((v9.1.length - (v9.2).toNat))) : Nat) : Int)))))
   (j9 v9.1)
def D1 (N : Nat) (p0 : List Int) (p1 : Int) : Option ((List Int)) :=
 Br (fun (_ : Unit) =>
  (GD N ((IntKind.wrap .u64 ((p0.length : Int)))) ((IntKind.wrap .u64 p1))).bind fun v3 =>
  Br (fun (_ : Unit) =>
   (D2 ((0 : Int) ≤ (IntKind.wrap .i64 v3.2) ∧ (IntKind.wrap .i64 v3.2) ≤ (IntKind.wrap .i64 v3.2) ∧ (IntKind.wrap .i64 v3.2) ≤ (Du : Int))).bind fun _ =>
   Dt N (fun (v10 : (List Int)) =>
    some v10) N (Im (List.replicate ((IntKind.wrap .i64 v3.2)).toNat ((0 : Int))) 0 (p0.take (Nat.min p0.length ((List.replicate ((IntKind.wrap .i64 v3.2)).toNat ((0 : Int))).length))), (((Nat.min p0.length ((List.replicate ((IntKind.wrap .i64 v3.2)).toNat ((0 : Int))).length)) : Nat) : Int)))
  fun j4 =>
  Br (fun (v5 : Bool) =>
   AY v5
    (none)
    (j4 ()))
  fun j5 =>
  AY ((decide (0 < v3.1)))
   (j5 true)
   (j5 (decide (9223372036854775807 < v3.2))))
 fun j1 =>
 AY ((decide (p1 < 0)))
  (none)
  (j1 ())
def EK (_ : Nat) (p0 : AE) : Option Bool :=
 Br (fun (v1 : Bool) =>
  some v1)
 fun j1 =>
 AY ((p0.fKind == 3))
  (j1 true)
  (j1 (p0.fKind == 4))
def DE (N : Nat) (p0 : Ac) (j6 : ((List Int)) → Option (Ag × Int)) : Nat → ((List Int) × Int) → Option (Ag × Int)
 | 0, _ => none
 | n6 + 1, v6 =>
  AY ((decide (v6.2 < (p0.fTables.length : Int))))
   (Br (fun (v9 : (List Int)) =>
    DE N p0 j6 n6 (v9, (IntKind.wrap .i64 (v6.2 + 1))))
   fun j9 =>
   (BW p0.fTables v6.2).bind fun v10 =>
   (EK N v10).bind fun v11 =>
   AY v11
    ((BW p0.fNow v10.fFrom).bind fun v13 =>
    (D2 (0 ≤ v13)).bind fun _ =>
    (BW v6.1 v6.2).bind fun _ =>
    j9 (v6.1.set (v6.2).toNat ((Dv .u8 1 v13))))
    (j9 v6.1))
   (j6 v6.1)
def Fy (N : Nat) (p0 : Ac) : Option (Ag × Int) :=
 (C9 N p0).bind fun v1 =>
 AY ((v1 != 0))
  (some ((Ag.mk (([] : List Int)) (([] : List Int)) (([] : List Int))), v1))
  ((BJ N p0.fNow).bind fun v3 =>
  (D1 N (([(-1)] : List Int)) ((p0.fNow.length : Int))).bind fun v4 =>
  (D2 ((0 : Int) ≤ (p0.fTables.length : Int) ∧ (p0.fTables.length : Int) ≤ (p0.fTables.length : Int) ∧ (p0.fTables.length : Int) ≤ (Du : Int))).bind fun _ =>
  DE N p0 (fun (v7 : (List Int)) =>
   some ((Ag.mk v3 v4 v7), 0)) N (List.replicate ((p0.fTables.length : Int)).toNat ((0 : Int)), 0))
def Eu (_ : Nat) (p0 : Ag) (p1 : Int) : Option Int :=
 (BW p0.fBase p1).bind fun v1 =>
 (D2 (0 ≤ v1)).bind fun _ =>
 Br (fun (v3 : Int) =>
  some v3)
 fun j3 =>
 (BW p0.fNext p1).bind fun v4 =>
 AY ((decide (0 ≤ v4)))
  ((BW p0.fNext p1).bind fun v6 =>
  (D2 (0 ≤ v6)).bind fun _ =>
  j3 (Nj .u8 ((Dv .u8 1 v1)) ((Dv .u8 1 v6))))
  (j3 (Dv .u8 1 v1))
def DF (N : Nat) (p0 : Ac) (p1 : Ag) (j7 : Unit → Option Int) : Nat → Int → Option Int
 | 0, _ => none
 | n7 + 1, v7 =>
  AY ((decide (v7 < (p0.fVersions.length : Int))))
   ((BW p0.fVersions v7).bind fun v10 =>
   Br (fun (v11 : Bool) =>
    AY v11
     (some 7)
     ((BW p1.fBase v7).bind fun v20 =>
     (BW p1.fNext v7).bind fun v21 =>
     AY ((v20 == v21))
      (some 1)
      (DF N p0 p1 j7 n7 (IntKind.wrap .i64 (v7 + 1)))))
   fun j11 =>
   (BW p1.fBase v7).bind fun v12 =>
   AY ((decide (v12 < 0)))
    (j11 true)
    ((BW p1.fBase v7).bind fun v14 =>
    AY ((decide (v10 ≤ v14)))
     (j11 true)
     ((BW p1.fNext v7).bind fun v16 =>
     AY ((decide (v16 < (-1))))
      (j11 true)
      ((BW p1.fNext v7).bind fun v18 =>
      j11 (decide (v10 ≤ v18))))))
   (j7 ())
def Dk (N : Nat) (p0 : Ac) (p1 : Ag) (j23 : Unit → Option Int) : Nat → Int → Option Int
 | 0, _ => none
 | n23 + 1, v23 =>
  AY ((decide (v23 < (p0.fTables.length : Int))))
   ((BW p0.fTables v23).bind fun v26 =>
   Br (fun (v27 : Int × Int) =>
    Br (fun (v33 : Bool) =>
     AY v33
      (some 1)
      (Dk N p0 p1 j23 n23 (IntKind.wrap .i64 (v23 + 1))))
    fun j33 =>
    (BW p1.fHeld v23).bind fun v34 =>
    AY (((CT .u8 v27.1 v34) != 0))
     (j33 true)
     ((BW p1.fHeld v23).bind fun v36 =>
     j33 ((CT .u8 v36 v27.2) != 0)))
   fun j27 =>
   (EK N v26).bind fun v28 =>
   AY v28
    ((Eu N p1 v26.fFrom).bind fun v30 =>
    (BW p0.fVersions v26.fFrom).bind fun v31 =>
    (D2 (0 ≤ v31)).bind fun _ =>
    j27 (v30, (IntKind.wrap .u8 ((Dv .u8 1 v31) - 1))))
    (j27 (0, 0)))
   (j23 ())
def EB (N : Nat) (p0 : Ac) (p1 : Ag) : Option Int :=
 (C9 N p0).bind fun v1 =>
 AY ((v1 != 0))
  (some v1)
  (Br (fun (v3 : Bool) =>
   AY v3
    (some 6)
    (DF N p0 p1 (fun (_ : Unit) =>
     Dk N p0 p1 (fun (_ : Unit) =>
      some 0) N 0) N 0))
  fun j3 =>
  AY (((p1.fBase.length : Int) != (p0.fVersions.length : Int)))
   (j3 true)
   (AY (((p1.fNext.length : Int) != (p0.fVersions.length : Int)))
    (j3 true)
    (j3 ((p1.fHeld.length : Int) != (p0.fTables.length : Int)))))
def BN (_ : Nat) (p0 : List Int) : Option ((List Int)) :=
 (D2 ((([] : List Int)).length + p0.length ≤ Du)).bind fun _ =>
 some ((([] : List Int)) ++ p0)
def Dn (N : Nat) (p1 : Ag) (j3 : ((List Int)) → Option ((List Ag) × Int)) : Nat → ((List Int) × Int) → Option ((List Ag) × Int)
 | 0, _ => none
 | n3 + 1, v3 =>
  AY ((decide (v3.2 < (p1.fNext.length : Int))))
   (Br (fun (v6 : (List Int)) =>
    Dn N p1 j3 n3 (v6, (IntKind.wrap .i64 (v3.2 + 1))))
   fun j6 =>
   (BW p1.fNext v3.2).bind fun v7 =>
   AY ((decide (0 ≤ v7)))
    ((D2 (v3.1.length + (([v3.2] : List Int)).length ≤ Du)).bind fun _ =>
    j6 (v3.1 ++ (([v3.2] : List Int))))
    (j6 v3.1))
   (j3 v3.1)
def CL (N : Nat) (v4 : (List Int)) (v11 : (List Ag) × Int) (j17 : ((List Int)) → Option ((List Ag) × Int)) : Nat → ((List Int) × Int) → Option ((List Ag) × Int)
 | 0, _ => none
 | n17 + 1, v17 =>
  AY ((decide (v17.2 < (v4.length : Int))))
   (Br (fun (v20 : (List Int)) =>
    CL N v4 v11 j17 n17 (v20, (IntKind.wrap .i64 (v17.2 + 1))))
   fun j20 =>
   (BW v4 v17.2).bind fun v21 =>
   (D2 (0 ≤ v17.2)).bind fun _ =>
   AY (((FA .i64 ((E0 .i64 v11.2 v17.2)) 1) == 1))
    ((BW v17.1 v21).bind fun _ =>
    j20 (v17.1.set (v21).toNat ((-1))))
    (j20 v17.1))
   (j17 v17.1)
def CH (N : Nat) (p1 : Ag) (v4 : (List Int)) (j11 : ((List Ag)) → Option ((List Ag) × Int)) : Nat → ((List Ag) × Int) → Option ((List Ag) × Int)
 | 0, _ => none
 | n11 + 1, v11 =>
  AY ((decide (v11.2 < (Dv .i64 1 ((v4.length : Int))))))
   ((BJ N p1.fBase).bind fun v14 =>
   (BJ N p1.fNext).bind fun v15 =>
   (BN N p1.fHeld).bind fun v16 =>
   CL N v4 v11 (fun (v18 : (List Int)) =>
    (D2 (v11.1.length + (([(Ag.mk v14 v18 v16)] : List Ag)).length ≤ Du)).bind fun _ =>
    CH N p1 v4 j11 n11 (v11.1 ++ (([(Ag.mk v14 v18 v16)] : List Ag)), (IntKind.wrap .i64 (v11.2 + 1)))) N (v15, 0))
   (j11 v11.1)
def FN (N : Nat) (p0 : Ac) (p1 : Ag) : Option ((List Ag) × Int) :=
 (EB N p0 p1).bind fun v1 =>
 AY ((v1 != 0))
  (some (([] : List Ag), v1))
  (Dn N p1 (fun (v4 : (List Int)) =>
   (D2 (0 ≤ (v4.length : Int))).bind fun _ =>
   CH N p1 v4 (fun (v12 : (List Ag)) =>
    some (v12, 0)) N (([] : List Ag), 0)) N (([] : List Int), 0))
def BQ (N : Nat) (v1 : (List Ao) × Int) (v4 : AE) (v6 : Int) (v11 : (List Ao) × Int) (v17 : List Bool) (j18 : ((List Ao) × Bool) → Option ((List Ao))) : Nat → ((List Ao) × Bool × Int) → Option ((List Ao))
 | 0, _ => none
 | n18 + 1, v18 =>
  AY ((decide (v18.2.2 < (v17.length : Int))))
   (Br (fun (v21 : (List Ao) × Bool) =>
    BQ N v1 v4 v6 v11 v17 j18 n18 (v21.1, v21.2, (IntKind.wrap .i64 (v18.2.2 + 1))))
   fun j21 =>
   (BW v17 v18.2.2).bind fun v22 =>
   (D2 (0 ≤ v18.2.2)).bind fun _ =>
   AY (((FA .u8 ((E0 .u8 v6 v18.2.2)) 1) == 0))
    (j21 (v18.1, v18.2.1))
    (Br (fun (v25 : Bool) =>
     Br (fun (v27 : Bool) =>
      AY v27
       ((D2 (v18.1.length + (([(Ao.mk v1.2 v11.2 v18.2.2)] : List Ao)).length ≤ Du)).bind fun _ =>
       j21 (v18.1 ++ (([(Ao.mk v1.2 v11.2 v18.2.2)] : List Ao)), v25))
       (j21 (v18.1, v25)))
     fun j27 =>
     AY ((!v22))
      (j27 (!v4.fAware))
      (j27 false))
    fun j25 =>
    AY v18.2.1
     (j25 true)
     (j25 v22)))
   (j18 (v18.1, v18.2.1))
def B9 (N : Nat) (v1 : (List Ao) × Int) (v4 : AE) (v6 : Int) (v7 : Int) (j11 : ((List Ao)) → Option ((List Ao))) : Nat → ((List Ao) × Int) → Option ((List Ao))
 | 0, _ => none
 | n11 + 1, v11 =>
  AY ((decide (v11.2 < (v4.fOK.length : Int))))
   (Br (fun (v14 : (List Ao)) =>
    B9 N v1 v4 v6 v7 j11 n11 (v14, (IntKind.wrap .i64 (v11.2 + 1))))
   fun j14 =>
   (D2 (0 ≤ v11.2)).bind fun _ =>
   AY (((FA .u8 ((E0 .u8 v7 v11.2)) 1) == 0))
    (j14 v11.1)
    ((BW v4.fOK v11.2).bind fun v17 =>
    BQ N v1 v4 v6 v11 v17 (fun (v19 : (List Ao) × Bool) =>
     Br (fun (v31 : Bool) =>
      AY v31
       ((D2 (v19.1.length + (([(Ao.mk v1.2 v11.2 ((-1)))] : List Ao)).length ≤ Du)).bind fun _ =>
       j14 (v19.1 ++ (([(Ao.mk v1.2 v11.2 ((-1)))] : List Ao))))
       (j14 v19.1))
     fun j31 =>
     AY v4.fAware
      (j31 (!v19.2))
      (j31 false)) N (v11.1, false, 0)))
   (j11 v11.1)
def C2 (N : Nat) (p0 : Ac) (p1 : Ag) (j1 : ((List Ao)) → Option ((List Ao))) : Nat → ((List Ao) × Int) → Option ((List Ao))
 | 0, _ => none
 | n1 + 1, v1 =>
  AY ((decide (v1.2 < (p0.fTables.length : Int))))
   ((BW p0.fTables v1.2).bind fun v4 =>
   (Eu N p1 v4.fFrom).bind fun v5 =>
   (Eu N p1 v4.fTo).bind fun v6 =>
   Br (fun (v7 : Int) =>
    B9 N v1 v4 v6 v7 (fun (v12 : (List Ao)) =>
     C2 N p0 p1 j1 n1 (v12, (IntKind.wrap .i64 (v1.2 + 1)))) N (v1.1, 0))
   fun j7 =>
   (EK N v4).bind fun v8 =>
   AY v8
    ((BW p1.fHeld v1.2).bind fun v10 =>
    j7 v10)
    (j7 v5))
   (j1 v1.1)
def EU (N : Nat) (p0 : Ac) (p1 : Ag) : Option ((List Ao)) :=
 C2 N p0 p1 (fun (v2 : (List Ao)) =>
  some v2) N (([] : List Ao), 0)
def Ei (N : Nat) (p0 : Ac) (v1 : (List Ag) × Int) (j3 : Unit → Option (Ag × Ao × Int)) : Nat → Int → Option (Ag × Ao × Int)
 | 0, _ => none
 | n3 + 1, v3 =>
  AY ((decide (v3 < (v1.1.length : Int))))
   ((BW v1.1 v3).bind fun v6 =>
   (EU N p0 v6).bind fun v7 =>
   AY ((decide (0 < (v7.length : Int))))
    ((BW v7 0).bind fun v9 =>
    some (v6, v9, 0))
    (Ei N p0 v1 j3 n3 (IntKind.wrap .i64 (v3 + 1))))
   (j3 ())
def E7 (N : Nat) (p0 : Ac) (p1 : Ag) : Option (Ag × Ao × Int) :=
 (FN N p0 p1).bind fun v1 =>
 AY ((v1.2 != 0))
  (some ((Ag.mk (([] : List Int)) (([] : List Int)) (([] : List Int))), (Ao.mk 0 0 0), v1.2))
  (Ei N p0 v1 (fun (_ : Unit) =>
   some ((Ag.mk (([] : List Int)) (([] : List Int)) (([] : List Int))), (Ao.mk 0 0 0), 15)) N 0)
def Fe (N : Nat) (p0 : Ac) (p1 : Ag) : Option (Bool × Int) :=
 (E7 N p0 p1).bind fun v1 =>
 AY ((v1.2.2 == 0))
  (some (false, 0))
  (AY ((v1.2.2 == 15))
   (some (true, 0))
   (some (false, v1.2.2)))
def D4 (N : Nat) (p0 : Ag) (j2 : ((List Int)) → Option ByteArray) : Nat → ((List Int) × Int) → Option ByteArray
 | 0, _ => none
 | n2 + 1, v2 =>
  AY ((decide (v2.2 < (p0.fBase.length : Int))))
   ((BW p0.fBase v2.2).bind fun v5 =>
   (BW p0.fNext v2.2).bind fun v6 =>
   (D2 (v2.1.length + (([(IntKind.wrap .u8 v5), (IntKind.wrap .u8 ((IntKind.wrap .i64 (v6 + 1))))] : List Int)).length ≤ Du)).bind fun _ =>
   D4 N p0 j2 n2 (v2.1 ++ (([(IntKind.wrap .u8 v5), (IntKind.wrap .u8 ((IntKind.wrap .i64 (v6 + 1))))] : List Int)), (IntKind.wrap .i64 (v2.2 + 1))))
   (j2 v2.1)
def De (N : Nat) (p0 : Ag) (j8 : ((List Int)) → Option ByteArray) : Nat → ((List Int) × Int) → Option ByteArray
 | 0, _ => none
 | n8 + 1, v8 =>
  AY ((decide (v8.2 < (p0.fHeld.length : Int))))
   ((BW p0.fHeld v8.2).bind fun v11 =>
   (D2 (v8.1.length + (([v11] : List Int)).length ≤ Du)).bind fun _ =>
   De N p0 j8 n8 (v8.1 ++ (([v11] : List Int)), (IntKind.wrap .i64 (v8.2 + 1))))
   (j8 v8.1)
def F6 (N : Nat) (p0 : Ag) : Option ByteArray :=
 (D2 ((0 : Int) ≤ 0 ∧ 0 ≤ (IntKind.wrap .i64 ((IntKind.wrap .i64 (2 * (p0.fBase.length : Int))) + (p0.fHeld.length : Int))) ∧ (IntKind.wrap .i64 ((IntKind.wrap .i64 (2 * (p0.fBase.length : Int))) + (p0.fHeld.length : Int))) ≤ (Du : Int))).bind fun _ =>
 D4 N p0 (fun (v3 : (List Int)) =>
  De N p0 (fun (v9 : (List Int)) =>
   some ((Cp v9))) N (v3, 0)) N (List.replicate (0 : Int).toNat ((0 : Int)), 0)
def D5 (N : Nat) (v1 : (List Af) × Int) (v4 : Int) (j5 : ((List Af)) → Option ((List Af))) : Nat → ((List Af) × Int) → Option ((List Af))
 | 0, _ => none
 | n5 + 1, v5 =>
  AY ((decide (v5.2 < v4)))
   ((D2 (v5.1.length + (([(Af.mk 1 v1.2 v5.2)] : List Af)).length ≤ Du)).bind fun _ =>
   D5 N v1 v4 j5 n5 (v5.1 ++ (([(Af.mk 1 v1.2 v5.2)] : List Af)), (IntKind.wrap .i64 (v5.2 + 1))))
   (j5 v5.1)
def CO (N : Nat) (p0 : Ac) (j1 : ((List Af)) → Option ((List Af))) : Nat → ((List Af) × Int) → Option ((List Af))
 | 0, _ => none
 | n1 + 1, v1 =>
  AY ((decide (v1.2 < (p0.fVersions.length : Int))))
   ((BW p0.fVersions v1.2).bind fun v4 =>
   D5 N v1 v4 (fun (v6 : (List Af)) =>
    CO N p0 j1 n1 (v6, (IntKind.wrap .i64 (v1.2 + 1)))) N (v1.1, 0))
   (j1 v1.1)
def Cd (N : Nat) (p0 : Ac) (j9 : ((List Af)) → Option ((List Af))) : Nat → ((List Af) × Int) → Option ((List Af))
 | 0, _ => none
 | n9 + 1, v9 =>
  AY ((decide (v9.2 < (p0.fVersions.length : Int))))
   ((D2 (v9.1.length + (([(Af.mk 2 v9.2 0)] : List Af)).length ≤ Du)).bind fun _ =>
   Cd N p0 j9 n9 (v9.1 ++ (([(Af.mk 2 v9.2 0)] : List Af)), (IntKind.wrap .i64 (v9.2 + 1))))
   (j9 v9.1)
def Bo (N : Nat) (p0 : Ac) (j13 : ((List Af)) → Option ((List Af))) : Nat → ((List Af) × Int) → Option ((List Af))
 | 0, _ => none
 | n13 + 1, v13 =>
  AY ((decide (v13.2 < (p0.fTables.length : Int))))
   ((D2 (v13.1.length + (([(Af.mk 3 v13.2 0)] : List Af)).length ≤ Du)).bind fun _ =>
   Bo N p0 j13 n13 (v13.1 ++ (([(Af.mk 3 v13.2 0)] : List Af)), (IntKind.wrap .i64 (v13.2 + 1))))
   (j13 v13.1)
def GY (N : Nat) (p0 : Ac) : Option ((List Af)) :=
 CO N p0 (fun (v2 : (List Af)) =>
  Cd N p0 (fun (v10 : (List Af)) =>
   Bo N p0 (fun (v14 : (List Af)) =>
    some v14) N (v10, 0)) N (v2, 0)) N (([] : List Af), 0)
def Fu (N : Nat) (p0 : Ag) : Option Ag :=
 (BJ N p0.fBase).bind fun v1 =>
 (BJ N p0.fNext).bind fun v2 =>
 (BN N p0.fHeld).bind fun v3 =>
 some ((Ag.mk v1 v2 v3))
def EQ (_ : Nat) (p0 : AE) : Option Bool :=
 Br (fun (v1 : Bool) =>
  some v1)
 fun j1 =>
 AY ((p0.fKind == 3))
  (j1 true)
  (j1 (p0.fKind == 4))
def Dl (N : Nat) (p0 : Ac) (p2 : Af) (j7 : ((List Int)) → Option (Bool × (List Int) × (List Int))) : Nat → ((List Int) × Int) → Option (Bool × (List Int) × (List Int))
 | 0, _ => none
 | n7 + 1, v7 =>
  AY ((decide (v7.2 < (p0.fTables.length : Int))))
   (Br (fun (v10 : (List Int)) =>
    Dl N p0 p2 j7 n7 (v10, (IntKind.wrap .i64 (v7.2 + 1))))
   fun j10 =>
   (BW p0.fTables v7.2).bind fun v11 =>
   Br (fun (v12 : Bool) =>
    AY v12
     ((BW v7.1 v7.2).bind fun v16 =>
     (D2 (0 ≤ p2.fVersion)).bind fun _ =>
     (BW v7.1 v7.2).bind fun _ =>
     j10 (v7.1.set (v7.2).toNat ((Nj .u8 v16 ((Dv .u8 1 p2.fVersion))))))
     (j10 v7.1))
   fun j12 =>
   AY ((v11.fFrom == p2.fIndex))
    ((EQ N v11).bind fun v14 =>
    j12 v14)
    (j12 false))
   (j7 v7.1)
def GR (N : Nat) (p0 : Ac) (p1 : Ag) (p2 : Af) : Option (Bool × (List Int) × (List Int)) :=
 Br (fun (v1 : Bool) =>
  AY v1
   (some (false, p1.fNext, p1.fHeld))
   ((BW p1.fNext p2.fIndex).bind fun _ =>
   Dl N p0 p2 (fun (v8 : (List Int)) =>
    some (true, p1.fNext.set (p2.fIndex).toNat p2.fVersion, v8)) N (p1.fHeld, 0)))
 fun j1 =>
 (BW p1.fNext p2.fIndex).bind fun v2 =>
 AY ((decide (0 ≤ v2)))
  (j1 true)
  ((BW p1.fBase p2.fIndex).bind fun v4 =>
  j1 (v4 == p2.fVersion))
def Fa (_ : Nat) (p0 : Ag) (p1 : Int) : Option Int :=
 (BW p0.fBase p1).bind fun v1 =>
 (D2 (0 ≤ v1)).bind fun _ =>
 Br (fun (v3 : Int) =>
  some v3)
 fun j3 =>
 (BW p0.fNext p1).bind fun v4 =>
 AY ((decide (0 ≤ v4)))
  ((BW p0.fNext p1).bind fun v6 =>
  (D2 (0 ≤ v6)).bind fun _ =>
  j3 (Nj .u8 ((Dv .u8 1 v1)) ((Dv .u8 1 v6))))
  (j3 (Dv .u8 1 v1))
def CJ (_ : Nat) (p0 : Int) : Option Int :=
 (Ua ((⟨⟨(List.append (List.append [8, 0, 1, 0, 2, 0, 1, 0, 3, 0, 1, 0, 2, 0, 1, 0, 4, 0, 1, 0, 2, 0, 1, 0, 3, 0, 1, 0, 2, 0, 1, 0, 5, 0, 1, 0, 2, 0, 1, 0, 3, 0, 1, 0, 2, 0, 1, 0, 4, 0, 1, 0, 2, 0, 1, 0, 3, 0, 1, 0, 2, 0, 1, 0] [6, 0, 1, 0, 2, 0, 1, 0, 3, 0, 1, 0, 2, 0, 1, 0, 4, 0, 1, 0, 2, 0, 1, 0, 3, 0, 1, 0, 2, 0, 1, 0, 5, 0, 1, 0, 2, 0, 1, 0, 3, 0, 1, 0, 2, 0, 1, 0, 4, 0, 1, 0, 2, 0, 1, 0, 3, 0, 1, 0, 2, 0, 1, 0]) (List.append [7, 0, 1, 0, 2, 0, 1, 0, 3, 0, 1, 0, 2, 0, 1, 0, 4, 0, 1, 0, 2, 0, 1, 0, 3, 0, 1, 0, 2, 0, 1, 0, 5, 0, 1, 0, 2, 0, 1, 0, 3, 0, 1, 0, 2, 0, 1, 0, 4, 0, 1, 0, 2, 0, 1, 0, 3, 0, 1, 0, 2, 0, 1, 0] [6, 0, 1, 0, 2, 0, 1, 0, 3, 0, 1, 0, 2, 0, 1, 0, 4, 0, 1, 0, 2, 0, 1, 0, 3, 0, 1, 0, 2, 0, 1, 0, 5, 0, 1, 0, 2, 0, 1, 0, 3, 0, 1, 0, 2, 0, 1, 0, 4, 0, 1, 0, 2, 0, 1, 0, 3, 0, 1, 0, 2, 0, 1, 0]))⟩⟩ : ByteArray)) p0).bind fun v1 =>
 some ((IntKind.wrap .i64 v1))
def Db (N : Nat) (p0 : AE) (p2 : Int) (j1 : Unit → Option Bool) : Nat → Int → Option Bool
 | 0, _ => none
 | n1 + 1, v1 =>
  AY ((v1 != 0))
   ((CJ N v1).bind fun v4 =>
   (BW p0.fRewrite v4).bind fun v5 =>
   (BW v5 p2).bind fun v6 =>
   AY ((!v6))
    (some false)
    (Db N p0 p2 j1 n1 (FA .u8 v1 ((IntKind.wrap .u8 (v1 - 1))))))
   (j1 ())
def E3 (N : Nat) (p0 : AE) (p1 : Int) (p2 : Int) : Option Bool :=
 Db N p0 p2 (fun (_ : Unit) =>
  some true) N p1
def FT (N : Nat) (p0 : Ac) (p1 : Ag) (p2 : Int) : Option (Bool × (List Int)) :=
 (BW p0.fTables p2).bind fun v1 =>
 (EQ N v1).bind fun v2 =>
 AY ((!v2))
  (some (false, p1.fHeld))
  ((Fa N p1 v1.fFrom).bind fun v4 =>
  (BW p1.fHeld p2).bind fun v5 =>
  Br (fun (v6 : Bool) =>
   AY v6
    (some (false, p1.fHeld))
    ((BW p1.fHeld p2).bind fun _ =>
    some (true, p1.fHeld.set (p2).toNat v4)))
  fun j6 =>
  (BW p1.fHeld p2).bind fun v7 =>
  AY ((v7 == v4))
   (j6 true)
   (AY ((v1.fKind == 4))
    ((BW p1.fBase v1.fFrom).bind fun v10 =>
    (E3 N v1 ((CT .u8 v5 v4)) v10).bind fun v11 =>
    j6 (!v11))
    (j6 false)))
def EN (N : Nat) (p0 : Ac) (p1 : Ag) (p2 : Af) : Option (Ag × Bool) :=
 (Fu N p1).bind fun v1 =>
 AY ((p2.fKind == 1))
  ((GR N p0 v1 p2).bind fun v3 =>
  some ((Ag.mk v1.fBase v3.2.1 v3.2.2), v3.1))
  (AY ((p2.fKind == 3))
   ((FT N p0 v1 p2.fIndex).bind fun v5 =>
   some ((Ag.mk v1.fBase v1.fNext v5.2), v5.1))
   ((BW v1.fNext p2.fIndex).bind fun v6 =>
   AY ((decide (v6 < 0)))
    (some (v1, false))
    ((BW v1.fNext p2.fIndex).bind fun _ =>
    Br (fun (v9 : (List Int)) =>
     some ((Ag.mk v9 (v1.fNext.set (p2.fIndex).toNat ((-1))) v1.fHeld), true))
    fun j9 =>
    AY ((p2.fKind == 2))
     ((BW v1.fBase p2.fIndex).bind fun _ =>
     j9 (v1.fBase.set (p2.fIndex).toNat v6))
     (j9 v1.fBase))))
def C5 (N : Nat) (p0 : Af) (p1 : List Int) (p2 : List Int) (p3 : List Int) (p4 : List AE) (p5 : List Int) (p6 : List Int) (p7 : List Int) : Option Bool :=
 (EN N ((Ac.mk p1 p2 p3 p4)) ((Ag.mk p5 p6 p7)) p0).bind fun v1 =>
 some ((!v1.2))
def A2 (N : Nat) (p0 : List Af) (p1 : Af → Option Bool) (j1 : Unit → Option Int) : Nat → Int → Option Int
 | 0, _ => none
 | n1 + 1, v1 =>
  AY ((decide (v1 < (p0.length : Int))))
   ((BW p0 v1).bind fun v4 =>
   (p1 v4).bind fun v5 =>
   AY v5
    (some v1)
    (A2 N p0 p1 j1 n1 (IntKind.wrap .i64 (v1 + 1))))
   (j1 ())
def BH (N : Nat) (p0 : List Af) (p1 : Af → Option Bool) : Option Int :=
 A2 N p0 p1 (fun (_ : Unit) =>
  some ((-1))) N 0
def AV (N : Nat) (p1 : Af → Option Bool) (j3 : ((List Af) × Int) → Option (Nat × (List Af))) : Nat → ((List Af) × Int × Int) → Option (Nat × (List Af))
 | 0, _ => none
 | n3 + 1, v3 =>
  AY ((decide (v3.2.2 < (v3.1.length : Int))))
   (Br (fun (v6 : (List Af) × Int) =>
    AV N p1 j3 n3 (v6.1, v6.2, (IntKind.wrap .i64 (v3.2.2 + 1))))
   fun j6 =>
   (BW v3.1 v3.2.2).bind fun v7 =>
   (p1 v7).bind fun v8 =>
   AY ((!v8))
    ((BW v3.1 v3.2.1).bind fun _ =>
    j6 (v3.1.set (v3.2.1).toNat v7, (IntKind.wrap .i64 (v3.2.1 + 1))))
    (j6 (v3.1, v3.2.1)))
   (j3 (v3.1, v3.2.1))
def BC (N : Nat) (p0 : List Af) (p1 : Af → Option Bool) : Option (Nat × (List Af)) :=
 (BH N p0 p1).bind fun v1 =>
 AY ((v1 == (-1)))
  (some (p0.length, p0))
  (AV N p1 (fun (v4 : (List Af) × Int) =>
   (D2 ((0 : Int) ≤ v4.2 ∧ (v4.2).toNat ≤ v4.1.length ∧ v4.1.length ≤ v4.1.length)).bind fun _ =>
   (D2 ((0 : Int) ≤ v4.2 ∧ 0 ≤ (v4.2).toNat ∧ (v4.2).toNat ≤ (Im v4.1 ((v4.2).toNat) (List.replicate ((v4.1.length - (v4.2).toNat)) ((Af.mk 0 0 0)))).length)).bind fun _ =>
   some ((v4.2).toNat, Im v4.1 ((v4.2).toNat) (List.replicate ((v4.1.length - (v4.2).toNat)) ((Af.mk 0 0 0))))) N (p0, v1, (IntKind.wrap .i64 (v1 + 1))))
def E9 (N : Nat) (p0 : Ac) (p1 : Ag) : Option ((List Af) × Int) :=
 (EB N p0 p1).bind fun v1 =>
 AY ((v1 != 0))
  (some (([] : List Af), v1))
  ((GY N p0).bind fun v3 =>
  (BC N v3 ((fun (x : Af) => C5 N x p0.fVersions p0.fNow p0.fTarget p0.fTables p1.fBase p1.fNext p1.fHeld))).bind fun v4 =>
  (D2 (v4.1 ≤ v4.2.length)).bind fun _ =>
  some (v4.2.take v4.1, 0))
def zFS (_ : Nat) (p0 : Af) : Option Bool :=
 Br (fun (v1 : Bool) =>
  AY v1
   (some false)
   (Br (fun (v5 : Bool) =>
    some v5)
   fun j5 =>
   AY ((p0.fKind == 1))
    (j5 true)
    (j5 (p0.fVersion == 0))))
 fun j1 =>
 AY ((decide ((So p0.fIndex p0.fVersion) < 0)))
  (j1 true)
  (AY ((decide (p0.fKind < 1)))
   (j1 true)
   (j1 (decide (4 < p0.fKind))))
def Fq (_ : Nat) (p0 : Ac) (p1 : Af) : Option Bool :=
 AY ((p1.fKind == 3))
  (some ((decide (p1.fIndex < (p0.fTables.length : Int)))))
  (Br (fun (v2 : Bool) =>
   some v2)
  fun j2 =>
  AY ((decide (p1.fIndex < (p0.fVersions.length : Int))))
   (AY ((p1.fKind != 1))
    (j2 true)
    ((BW p0.fVersions p1.fIndex).bind fun v5 =>
    j2 (decide (p1.fVersion < v5))))
   (j2 false))
def FQ (N : Nat) (p0 : Ac) (p1 : Ag) (p2 : Af) : Option (Ag × Int) :=
 (zFS N p2).bind fun v1 =>
 AY ((!v1))
  (some ((Ag.mk (([] : List Int)) (([] : List Int)) (([] : List Int))), 1))
  ((Fq N p0 p2).bind fun v3 =>
  AY ((!v3))
   (some ((Ag.mk (([] : List Int)) (([] : List Int)) (([] : List Int))), 4))
   ((EN N p0 p1 p2).bind fun v5 =>
   AY ((!v5.2))
    (some ((Ag.mk (([] : List Int)) (([] : List Int)) (([] : List Int))), 11))
    (some (v5.1, 0))))
def Fb (N : Nat) (p0 : Ac) (p1 : Ag) (p2 : Af) : Option (Ag × Int) :=
 (EB N p0 p1).bind fun v1 =>
 AY ((v1 != 0))
  (some ((Ag.mk (([] : List Int)) (([] : List Int)) (([] : List Int))), v1))
  ((FQ N p0 p1 p2).bind fun v3 =>
  some (v3.1, v3.2))
def B8 (N : Nat) (p0 : Ac) (v2 : (List AB) × (List (ByteArray × Int)) × Int) (v6 : (List Af) × Int) (j8 : ((List AB) × (List (ByteArray × Int))) → Option ((List AB) × Int)) : Nat → ((List AB) × (List (ByteArray × Int)) × Int) → Option ((List AB) × Int)
 | 0, _ => none
 | n8 + 1, v8 =>
  AY ((decide (v8.2.2 < (v6.1.length : Int))))
   ((BW v6.1 v8.2.2).bind fun v11 =>
   (BW v8.1 v2.2.2).bind fun v12 =>
   (Fb N p0 ((Ag.mk v12.fM.fBase v12.fM.fNext v12.fM.fHeld)) v11).bind fun v13 =>
   AY ((v13.2 != 0))
    (some (([] : List AB), v13.2))
    ((F6 N v13.1).bind fun v15 =>
    Br (fun (v16 : (List AB) × (List (ByteArray × Int)) × Int) =>
     Br (fun (v24 : (List AB)) =>
      AY ((decide (20000 < (v24.length : Int))))
       (some (([] : List AB), 3))
       (B8 N p0 v2 v6 j8 n8 (v24, v16.2.1, (IntKind.wrap .i64 (v8.2.2 + 1)))))
     fun j24 =>
     AY ((decide (0 ≤ v16.2.2)))
      ((BW v16.1 v2.2.2).bind fun v26 =>
      (D2 (v26.fNext.length + (([v16.2.2] : List Int)).length ≤ Du)).bind fun _ =>
      (BW v16.1 v2.2.2).bind fun v28 =>
      j24 (v16.1.set ((v2.2.2).toNat) ((AB.mk ((Ag.mk v28.fM.fBase v28.fM.fNext v28.fM.fHeld)) v28.fFrom ((Af.mk v28.fBy.fKind v28.fBy.fIndex v28.fBy.fVersion)) (v26.fNext ++ (([v16.2.2] : List Int)))))))
      (j24 v16.1))
    fun j16 =>
    AY ((!((Jl v15 v8.2.1).isSome)))
     (Br (fun (v18 : (List AB) × Int) =>
      j16 (v18.1, KP v15 v18.2 v8.2.1, v18.2))
     fun j18 =>
     (Fe N p0 v13.1).bind fun v19 =>
     Br (fun (v20 : Bool) =>
      AY v20
       (j18 (v8.1, (-1)))
       ((D2 (v8.1.length + (([(AB.mk v13.1 v2.2.2 v11 (([] : List Int)))] : List AB)).length ≤ Du)).bind fun _ =>
       j18 (v8.1 ++ (([(AB.mk v13.1 v2.2.2 v11 (([] : List Int)))] : List AB)), (v8.1.length : Int))))
     fun j20 =>
     AY ((v19.2 != 0))
      (j20 true)
      (j20 (!v19.1)))
     (j16 (v8.1, v8.2.1, ((Jl v15 v8.2.1).getD 0)))))
   (j8 (v8.1, v8.2.1))
def C6 (N : Nat) (p0 : Ac) (j2 : ((List AB)) → Option ((List AB) × Int)) : Nat → ((List AB) × (List (ByteArray × Int)) × Int) → Option ((List AB) × Int)
 | 0, _ => none
 | n2 + 1, v2 =>
  AY ((decide (v2.2.2 < (v2.1.length : Int))))
   ((BW v2.1 v2.2.2).bind fun v5 =>
   (E9 N p0 ((Ag.mk v5.fM.fBase v5.fM.fNext v5.fM.fHeld))).bind fun v6 =>
   AY ((v6.2 != 0))
    (some (([] : List AB), v6.2))
    (B8 N p0 v2 v6 (fun (v9 : (List AB) × (List (ByteArray × Int))) =>
     C6 N p0 j2 n2 (v9.1, v9.2, (IntKind.wrap .i64 (v2.2.2 + 1)))) N (v2.1, v2.2.1, 0)))
   (j2 v2.1)
def Fr (N : Nat) (p0 : Ac) (p1 : Ag) : Option ((List AB) × Int) :=
 (F6 N p1).bind fun v1 =>
 C6 N p0 (fun (v3 : (List AB)) =>
  some (v3, 0)) N (([(AB.mk p1 ((-1)) ((Af.mk 0 0 0)) (([] : List Int)))] : List AB), KP v1 0 (([] : List (ByteArray × Int))), 0)
def BX (N : Nat) (p0 : List Int) (p1 : List Int) (j2 : Unit → Option Bool) : Nat → Int → Option Bool
 | 0, _ => none
 | n2 + 1, v2 =>
  AY ((decide (v2 < (p0.length : Int))))
   ((BW p0 v2).bind fun v5 =>
   (BW p1 v2).bind fun v6 =>
   AY ((v5 != v6))
    (some false)
    (BX N p0 p1 j2 n2 (IntKind.wrap .i64 (v2 + 1))))
   (j2 ())
def Do (N : Nat) (p0 : List Int) (p1 : List Int) : Option Bool :=
 AY (((p0.length : Int) != (p1.length : Int)))
  (some false)
  (BX N p0 p1 (fun (_ : Unit) =>
   some true) N 0)
def Be (N : Nat) (p0 : List Int) (p1 : Int → Option Bool) (j1 : Unit → Option Int) : Nat → Int → Option Int
 | 0, _ => none
 | n1 + 1, v1 =>
  AY ((decide (v1 < (p0.length : Int))))
   ((BW p0 v1).bind fun v4 =>
   (p1 v4).bind fun v5 =>
   AY v5
    (some v1)
    (Be N p0 p1 j1 n1 (IntKind.wrap .i64 (v1 + 1))))
   (j1 ())
def Dr (N : Nat) (p0 : List Int) (p1 : Int → Option Bool) : Option Int :=
 Be N p0 p1 (fun (_ : Unit) =>
  some ((-1))) N 0
def Cs (N : Nat) (p0 : List Int) (p1 : Int → Option Bool) : Option Bool :=
 (Dr N p0 p1).bind fun v1 =>
 some ((decide (0 ≤ v1)))
def FU (_ : Nat) (p0 : Int) : Option Bool :=
 some ((decide (0 ≤ p0)))
def F7 (N : Nat) (p0 : Ac) (p1 : Ag) : Option Bool :=
 Br (fun (v1 : Bool) =>
  some v1)
 fun j1 =>
 (EB N p0 p1).bind fun v2 =>
 AY ((v2 == 0))
  ((Do N p1.fBase p0.fTarget).bind fun v4 =>
  AY v4
   ((Cs N p1.fNext ((fun (x : Int) => FU N x))).bind fun v6 =>
   j1 (!v6))
   (j1 false))
  (j1 false)
def Ea (N : Nat) (p0 : AB) (p1 : List Int) (p2 : List Int) (p3 : List Int) (p4 : List AE) : Option Bool :=
 (F7 N ((Ac.mk p1 p2 p3 p4)) ((Ag.mk p0.fM.fBase p0.fM.fNext p0.fM.fHeld))).bind fun v1 =>
 some v1
def AT (N : Nat) (p0 : List AB) (p1 : AB → Option Bool) (j1 : Unit → Option Int) : Nat → Int → Option Int
 | 0, _ => none
 | n1 + 1, v1 =>
  AY ((decide (v1 < (p0.length : Int))))
   ((BW p0 v1).bind fun v4 =>
   (p1 ((AB.mk ((Ag.mk v4.fM.fBase v4.fM.fNext v4.fM.fHeld)) v4.fFrom ((Af.mk v4.fBy.fKind v4.fBy.fIndex v4.fBy.fVersion)) v4.fNext))).bind fun v5 =>
   AY v5
    (some v1)
    (AT N p0 p1 j1 n1 (IntKind.wrap .i64 (v1 + 1))))
   (j1 ())
def B4 (N : Nat) (p0 : List AB) (p1 : AB → Option Bool) : Option Int :=
 AT N p0 p1 (fun (_ : Unit) =>
  some ((-1))) N 0
def Bf (N : Nat) (j1 : ((List Af)) → Option ((List Af))) : Nat → ((List Af) × Int × Int) → Option ((List Af))
 | 0, _ => none
 | n1 + 1, v1 =>
  AY ((decide (v1.2.1 < v1.2.2)))
   ((BW v1.1 v1.2.2).bind fun v4 =>
   (BW v1.1 v1.2.1).bind fun v5 =>
   (BW v1.1 v1.2.1).bind fun _ =>
   (BW (v1.1.set (v1.2.1).toNat v4) v1.2.2).bind fun _ =>
   Bf N j1 n1 ((v1.1.set (v1.2.1).toNat v4).set (v1.2.2).toNat v5, (IntKind.wrap .i64 (v1.2.1 + 1)), (IntKind.wrap .i64 (v1.2.2 - 1))))
   (j1 v1.1)
def Bq (N : Nat) (p0 : List Af) : Option ((List Af)) :=
 Bf N (fun (v2 : (List Af)) =>
  some v2) N (p0, 0, (IntKind.wrap .i64 ((p0.length : Int) - 1)))
def ET (N : Nat) (p0 : List AB) (j1 : ((List Af)) → Option ((List Af))) : Nat → (Int × (List Af)) → Option ((List Af))
 | 0, _ => none
 | n1 + 1, v1 =>
  (BW p0 v1.1).bind fun v3 =>
  AY ((decide (0 ≤ v3.fFrom)))
   ((BW p0 v1.1).bind fun v5 =>
   (D2 (v1.2.length + (([(Af.mk v5.fBy.fKind v5.fBy.fIndex v5.fBy.fVersion)] : List Af)).length ≤ Du)).bind fun _ =>
   (BW p0 v1.1).bind fun v7 =>
   ET N p0 j1 n1 (v7.fFrom, v1.2 ++ (([(Af.mk v5.fBy.fKind v5.fBy.fIndex v5.fBy.fVersion)] : List Af))))
   (j1 v1.2)
def HX (N : Nat) (p0 : List AB) (p1 : Int) : Option ((List Af)) :=
 ET N p0 (fun (v2 : (List Af)) =>
  (Bq N v2).bind fun v8 =>
  some v8) N (p1, ([] : List Af))
def D0 (N : Nat) (p0 : Ac) (p1 : Ag) : Option ((List Af) × Int) :=
 (Fe N p0 p1).bind fun v1 =>
 AY ((v1.2 != 0))
  (some (([] : List Af), v1.2))
  (AY ((!v1.1))
   (some (([] : List Af), 13))
   ((Fr N p0 p1).bind fun v4 =>
   AY ((v4.2 != 0))
    (some (([] : List Af), v4.2))
    ((B4 N v4.1 ((fun (x : AB) => Ea N x p0.fVersions p0.fNow p0.fTarget p0.fTables))).bind fun v6 =>
    AY ((decide (v6 < 0)))
     (some (([] : List Af), 14))
     ((HX N v4.1 v6).bind fun v8 =>
     some (v8, 0)))))
def ED (N : Nat) (p0 : Ac) : Option ((List Af) × Int) :=
 (Fy N p0).bind fun v1 =>
 AY ((v1.2 != 0))
  (some (([] : List Af), v1.2))
  ((D0 N p0 v1.1).bind fun v3 =>
  some (v3.1, v3.2))
def E6 (N : Nat) (p0 : Ac) (p1 : List Af) (j5 : Ag → Option (Int × Ag × Ao × Int)) : Nat → (Ag × Int) → Option (Int × Ag × Ao × Int)
 | 0, _ => none
 | n5 + 1, v5 =>
  AY ((decide (v5.2 < (p1.length : Int))))
   ((BW p1 v5.2).bind fun v8 =>
   (Fb N p0 v5.1 v8).bind fun v9 =>
   Br (fun (v10 : Bool) =>
    AY v10
     (some (v5.2, (Ag.mk (([] : List Int)) (([] : List Int)) (([] : List Int))), (Ao.mk 0 0 0), 0))
     ((E7 N p0 v9.1).bind fun v13 =>
     AY ((v13.2.2 == 0))
      (some (v5.2, v13.1, v13.2.1, 0))
      (E6 N p0 p1 j5 n5 (v9.1, (IntKind.wrap .i64 (v5.2 + 1))))))
   fun j10 =>
   AY ((v9.2 != 0))
    (j10 true)
    (j10 (v8.fKind == 4)))
   (j5 v5.1)
def FX (N : Nat) (p0 : Ac) (p1 : List Af) : Option (Int × Ag × Ao × Int) :=
 (Fy N p0).bind fun v1 =>
 AY ((v1.2 != 0))
  (some (0, (Ag.mk (([] : List Int)) (([] : List Int)) (([] : List Int))), (Ao.mk 0 0 0), v1.2))
  ((E7 N p0 v1.1).bind fun v3 =>
  AY ((v3.2.2 == 0))
   (some ((-1), v3.1, v3.2.1, 0))
   (E6 N p0 p1 (fun (v6 : Ag) =>
    (F7 N p0 v6).bind fun v15 =>
    AY ((!v15))
     (some ((p1.length : Int), (Ag.mk (([] : List Int)) (([] : List Int)) (([] : List Int))), (Ao.mk 0 0 0), 14))
     (some (0, (Ag.mk (([] : List Int)) (([] : List Int)) (([] : List Int))), (Ao.mk 0 0 0), 15))) N (v1.1, 0)))
def Cx (N : Nat) (p0 : List Af) (p1 : List Af) (j2 : Unit → Option Bool) : Nat → Int → Option Bool
 | 0, _ => none
 | n2 + 1, v2 =>
  AY ((decide (v2 < (p0.length : Int))))
   ((BW p0 v2).bind fun v5 =>
   (BW p1 v2).bind fun v6 =>
   AY ((!((v5.fKind == v6.fKind) && ((v5.fIndex == v6.fIndex) && ((v5.fVersion == v6.fVersion) && true)))))
    (some false)
    (Cx N p0 p1 j2 n2 (IntKind.wrap .i64 (v2 + 1))))
   (j2 ())
def C1 (N : Nat) (p0 : List Af) (p1 : List Af) : Option Bool :=
 AY (((p0.length : Int) != (p1.length : Int)))
  (some false)
  (Cx N p0 p1 (fun (_ : Unit) =>
   some true) N 0)
def Ij (N : Nat) (p0 : Ac) (p1 : List Af) : Option Bool :=
 (FX N p0 p1).bind fun v1 =>
 some ((v1.2.2.2 == 15))
def EG (N : Nat) : Option Bool :=
 (CA N false false).bind fun v1 =>
 (ED N v1).bind fun v2 =>
 (CA N true false).bind fun v3 =>
 (ED N v3).bind fun v4 =>
 (CA N true true).bind fun v5 =>
 (ED N v5).bind fun v6 =>
 (CA N false false).bind fun v7 =>
 (FX N v7 (([(Af.mk 1 0 1)] : List Af))).bind fun v8 =>
 Br (fun (v9 : Bool) =>
  some v9)
 fun j9 =>
 AY ((v2.2 == 0))
  ((C1 N v2.1 (([(Af.mk 1 1 1), (Af.mk 2 1 0), (Af.mk 1 0 1), (Af.mk 2 0 0)] : List Af))).bind fun v11 =>
  AY v11
   (AY ((v4.2 == 14))
    (AY ((v6.2 == 14))
     (AY ((v8.2.2.2 == 0))
      (AY ((v8.1 == 0))
       (AY (((v8.2.2.1.fTable == 0) && ((v8.2.2.1.fWriter == 1) && ((v8.2.2.1.fReader == 0) && true))))
        ((CA N false false).bind fun v18 =>
        (Ij N v18 (([(Af.mk 1 1 1), (Af.mk 2 1 0), (Af.mk 1 0 1), (Af.mk 2 0 0)] : List Af))).bind fun v19 =>
        j9 v19)
        (j9 false))
       (j9 false))
      (j9 false))
     (j9 false))
    (j9 false))
   (j9 false))
  (j9 false)
def DD (_ : Nat) (p0 : List Int) (p1 : Int) : Option Int :=
 AY ((decide (p1 < (p0.length : Int))))
  ((BW p0 p1).bind fun v2 =>
  some ((IntKind.wrap .i64 v2)))
  (some 0)
def A5 (_ : Nat) (p0 : AE) : Option Bool :=
 Br (fun (v1 : Bool) =>
  some v1)
 fun j1 =>
 AY ((p0.fKind == 3))
  (j1 true)
  (j1 (p0.fKind == 4))
def Ce (N : Nat) (p1 : Int) (p2 : Int) (p3 : Bool) (v1 : (List (List Bool)) × Int) (j4 : ((List Bool)) → Option ((List (List Bool)))) : Nat → ((List Bool) × Int) → Option ((List (List Bool)))
 | 0, _ => none
 | n4 + 1, v4 =>
  AY ((decide (v4.2 < p1)))
   (Br (fun (v7 : (List Bool)) =>
    Ce N p1 p2 p3 v1 j4 n4 (v7, (IntKind.wrap .i64 (v4.2 + 1))))
   fun j7 =>
   AY p3
    (AY ((v1.2 == v4.2))
     ((D2 (v4.1.length + (([true] : List Bool)).length ≤ Du)).bind fun _ =>
     j7 (v4.1 ++ (([true] : List Bool))))
     ((D2 (0 ≤ (IntKind.wrap .i64 ((IntKind.wrap .i64 (3 * v1.2)) + v4.2)))).bind fun _ =>
     (D2 (v4.1.length + (([((Int.tmod ((E0 .u16 p2 ((IntKind.wrap .i64 ((IntKind.wrap .i64 (3 * v1.2)) + v4.2))))) 2) == 0)] : List Bool)).length ≤ Du)).bind fun _ =>
     j7 (v4.1 ++ (([((Int.tmod ((E0 .u16 p2 ((IntKind.wrap .i64 ((IntKind.wrap .i64 (3 * v1.2)) + v4.2))))) 2) == 0)] : List Bool)))))
    ((D2 (0 ≤ (IntKind.wrap .i64 ((IntKind.wrap .i64 (3 * v1.2)) + v4.2)))).bind fun _ =>
    (D2 (v4.1.length + (([((Int.tmod ((E0 .u16 p2 ((IntKind.wrap .i64 ((IntKind.wrap .i64 (3 * v1.2)) + v4.2))))) 2) == 0)] : List Bool)).length ≤ Du)).bind fun _ =>
    j7 (v4.1 ++ (([((Int.tmod ((E0 .u16 p2 ((IntKind.wrap .i64 ((IntKind.wrap .i64 (3 * v1.2)) + v4.2))))) 2) == 0)] : List Bool)))))
   (j4 v4.1)
def Cb (N : Nat) (p0 : Int) (p1 : Int) (p2 : Int) (p3 : Bool) (j1 : ((List (List Bool))) → Option ((List (List Bool)))) : Nat → ((List (List Bool)) × Int) → Option ((List (List Bool)))
 | 0, _ => none
 | n1 + 1, v1 =>
  AY ((decide (v1.2 < p0)))
   (Ce N p1 p2 p3 v1 (fun (v5 : (List Bool)) =>
    (D2 (v1.1.length + (([v5] : List (List Bool))).length ≤ Du)).bind fun _ =>
    Cb N p0 p1 p2 p3 j1 n1 (v1.1 ++ (([v5] : List (List Bool))), (IntKind.wrap .i64 (v1.2 + 1)))) N (([] : List Bool), 0))
   (j1 v1.1)
def DA (N : Nat) (p0 : Int) (p1 : Int) (p2 : Int) (p3 : Bool) : Option ((List (List Bool))) :=
 Cb N p0 p1 p2 p3 (fun (v2 : (List (List Bool))) =>
  some v2) N (([] : List (List Bool)), 0)
def Cv (N : Nat) (p0 : BI) (j4 : ((List Int) × (List Int) × (List Int)) → Option (Ac × Bool)) : Nat → ((List Int) × (List Int) × (List Int) × Int) → Option (Ac × Bool)
 | 0, _ => none
 | n4 + 1, v4 =>
  AY ((decide (v4.2.2.2 < (p0.fVersions.length : Int))))
   ((BW p0.fVersions v4.2.2.2).bind fun v7 =>
   (D2 (v4.1.length + (([(IntKind.wrap .i64 (1 + (IntKind.wrap .i64 ((Int.tmod v7 3)))))] : List Int)).length ≤ Du)).bind fun _ =>
   (DD N p0.fNow v4.2.2.2).bind fun v9 =>
   (D2 ((IntKind.wrap .i64 (1 + (IntKind.wrap .i64 ((Int.tmod v7 3))))) ≠ 0)).bind fun _ =>
   (D2 (v4.2.1.length + (([(Int.tmod v9 ((IntKind.wrap .i64 (1 + (IntKind.wrap .i64 ((Int.tmod v7 3)))))))] : List Int)).length ≤ Du)).bind fun _ =>
   (DD N p0.fTarget v4.2.2.2).bind fun v12 =>
   (D2 ((IntKind.wrap .i64 (1 + (IntKind.wrap .i64 ((Int.tmod v7 3))))) ≠ 0)).bind fun _ =>
   (D2 (v4.2.2.1.length + (([(Int.tmod v12 ((IntKind.wrap .i64 (1 + (IntKind.wrap .i64 ((Int.tmod v7 3)))))))] : List Int)).length ≤ Du)).bind fun _ =>
   Cv N p0 j4 n4 (v4.1 ++ (([(IntKind.wrap .i64 (1 + (IntKind.wrap .i64 ((Int.tmod v7 3)))))] : List Int)), v4.2.1 ++ (([(Int.tmod v9 ((IntKind.wrap .i64 (1 + (IntKind.wrap .i64 ((Int.tmod v7 3)))))))] : List Int)), v4.2.2.1 ++ (([(Int.tmod v12 ((IntKind.wrap .i64 (1 + (IntKind.wrap .i64 ((Int.tmod v7 3)))))))] : List Int)), (IntKind.wrap .i64 (v4.2.2.2 + 1))))
   (j4 (v4.1, v4.2.1, v4.2.2.1))
def Bu (N : Nat) (p0 : BI) (v5 : (List Int) × (List Int) × (List Int)) (j15 : ((List AE)) → Option (Ac × Bool)) : Nat → ((List AE) × Int) → Option (Ac × Bool)
 | 0, _ => none
 | n15 + 1, v15 =>
  Br (fun (v17 : Bool) =>
   AY v17
    ((BW p0.fLinks v15.2).bind fun v20 =>
    (D2 ((v5.1.length : Int) ≠ 0)).bind fun _ =>
    (D2 ((v5.1.length : Int) ≠ 0)).bind fun _ =>
    Br (fun (v23 : Bool) =>
     (BW v5.1 ((Int.tmod ((IntKind.wrap .i64 v20.fFrom)) ((v5.1.length : Int))))).bind fun v26 =>
     (BW v5.1 ((Int.tmod ((IntKind.wrap .i64 v20.fTo)) ((v5.1.length : Int))))).bind fun v27 =>
     (DA N v26 v27 v20.fBad false).bind fun v28 =>
     Br (fun (v29 : (List (List Bool))) =>
      (D2 (v15.1.length + (([(AE.mk ((IntKind.wrap .i64 (1 + (IntKind.wrap .i64 ((Int.tmod v20.fKind 4)))))) ((Int.tmod ((IntKind.wrap .i64 v20.fFrom)) ((v5.1.length : Int)))) ((Int.tmod ((IntKind.wrap .i64 v20.fTo)) ((v5.1.length : Int)))) v23 v28 v29)] : List AE)).length ≤ Du)).bind fun _ =>
      Bu N p0 v5 j15 n15 (v15.1 ++ (([(AE.mk ((IntKind.wrap .i64 (1 + (IntKind.wrap .i64 ((Int.tmod v20.fKind 4)))))) ((Int.tmod ((IntKind.wrap .i64 v20.fFrom)) ((v5.1.length : Int)))) ((Int.tmod ((IntKind.wrap .i64 v20.fTo)) ((v5.1.length : Int)))) v23 v28 v29)] : List AE)), (IntKind.wrap .i64 (v15.2 + 1))))
     fun j29 =>
     AY (((IntKind.wrap .i64 (1 + (IntKind.wrap .i64 ((Int.tmod v20.fKind 4))))) == 4))
      ((BW v5.1 ((Int.tmod ((IntKind.wrap .i64 v20.fFrom)) ((v5.1.length : Int))))).bind fun v31 =>
      (BW v5.1 ((Int.tmod ((IntKind.wrap .i64 v20.fFrom)) ((v5.1.length : Int))))).bind fun v32 =>
      (DA N v31 v32 v20.fLost true).bind fun v33 =>
      j29 v33)
      (j29 ([] : List (List Bool))))
    fun j23 =>
    AY v20.fAware
     ((A5 N ((AE.mk ((IntKind.wrap .i64 (1 + (IntKind.wrap .i64 ((Int.tmod v20.fKind 4)))))) ((Int.tmod ((IntKind.wrap .i64 v20.fFrom)) ((v5.1.length : Int)))) ((Int.tmod ((IntKind.wrap .i64 v20.fTo)) ((v5.1.length : Int)))) false (([] : List (List Bool))) (([] : List (List Bool)))))).bind fun v25 =>
     j23 (!v25))
     (j23 false))
    (j15 v15.1))
  fun j17 =>
  AY ((decide (v15.2 < (p0.fLinks.length : Int))))
   (j17 (decide (0 < (v5.1.length : Int))))
   (j17 false)
def EC (N : Nat) (p0 : BI) : Option (Ac × Bool) :=
 Br (fun (v1 : Bool) =>
  AY v1
   (some ((Ac.mk (([] : List Int)) (([] : List Int)) (([] : List Int)) (([] : List AE))), false))
   (Cv N p0 (fun (v5 : (List Int) × (List Int) × (List Int)) =>
    Bu N p0 v5 (fun (v16 : (List AE)) =>
     some ((Ac.mk v5.1 v5.2.1 v5.2.2 v16), true)) N (([] : List AE), 0)) N (([] : List Int), ([] : List Int), ([] : List Int), 0)))
 fun j1 =>
 AY ((decide (3 < (p0.fVersions.length : Int))))
  (j1 true)
  (j1 (decide (4 < (p0.fLinks.length : Int))))
def Cg (N : Nat) (p0 : List (List Bool)) (p1 : Int) (p2 : Int) (j2 : Unit → Option Bool) : Nat → Int → Option Bool
 | 0, _ => none
 | n2 + 1, v2 =>
  AY ((decide (v2 < p1)))
   ((BW p0 v2).bind fun v5 =>
   AY (((v5.length : Int) != p2))
    (some false)
    (Cg N p0 p1 p2 j2 n2 (IntKind.wrap .i64 (v2 + 1))))
   (j2 ())
def Da (N : Nat) (p0 : List (List Bool)) (p1 : Int) (p2 : Int) : Option Bool :=
 AY (((p0.length : Int) != p1))
  (some false)
  (Cg N p0 p1 p2 (fun (_ : Unit) =>
   some true) N 0)
def BU (N : Nat) (p1 : AE) (j22 : Unit → Option Int) : Nat → Int → Option Int
 | 0, _ => none
 | n22 + 1, v22 =>
  AY ((decide (v22 < (p1.fRewrite.length : Int))))
   ((BW p1.fRewrite v22).bind fun v25 =>
   (BW v25 v22).bind fun v26 =>
   AY ((!v26))
    (some 1)
    (BU N p1 j22 n22 (IntKind.wrap .i64 (v22 + 1))))
   (j22 ())
def Eb (N : Nat) (p0 : Ac) (p1 : AE) : Option Int :=
 Br (fun (v1 : Bool) =>
  AY v1
   (some 1)
   (Br (fun (v7 : Bool) =>
    AY v7
     (some 4)
     ((BW p0.fVersions p1.fFrom).bind fun v12 =>
     (BW p0.fVersions p1.fTo).bind fun v13 =>
     (Da N p1.fOK v12 v13).bind fun v14 =>
     AY ((!v14))
      (some 6)
      (AY ((p1.fKind != 4))
       (AY (((p1.fRewrite.length : Int) != 0))
        (some 6)
        (some 0))
       ((BW p0.fVersions p1.fFrom).bind fun v18 =>
       (BW p0.fVersions p1.fFrom).bind fun v19 =>
       (Da N p1.fRewrite v18 v19).bind fun v20 =>
       AY ((!v20))
        (some 6)
        (BU N p1 (fun (_ : Unit) =>
         some 0) N 0)))))
   fun j7 =>
   AY ((decide (p1.fFrom < 0)))
    (j7 true)
    (AY ((decide ((p0.fVersions.length : Int) ≤ p1.fFrom)))
     (j7 true)
     (AY ((decide (p1.fTo < 0)))
      (j7 true)
      (j7 (decide ((p0.fVersions.length : Int) ≤ p1.fTo)))))))
 fun j1 =>
 AY ((decide (p1.fKind < 1)))
  (j1 true)
  (AY ((decide (4 < p1.fKind)))
   (j1 true)
   (AY p1.fAware
    ((A5 N p1).bind fun v5 =>
    j1 v5)
    (j1 false)))
def Bg (N : Nat) (p0 : Ac) (j7 : Unit → Option Int) : Nat → Int → Option Int
 | 0, _ => none
 | n7 + 1, v7 =>
  AY ((decide (v7 < (p0.fVersions.length : Int))))
   ((BW p0.fVersions v7).bind fun v10 =>
   Br (fun (v11 : Bool) =>
    AY v11
     (some 7)
     (Bg N p0 j7 n7 (IntKind.wrap .i64 (v7 + 1))))
   fun j11 =>
   AY ((decide (v10 < 1)))
    (j11 true)
    (AY ((decide (6 < v10)))
     (j11 true)
     ((BW p0.fNow v7).bind fun v14 =>
     AY ((decide (v14 < 0)))
      (j11 true)
      ((BW p0.fNow v7).bind fun v16 =>
      AY ((decide (v10 ≤ v16)))
       (j11 true)
       ((BW p0.fTarget v7).bind fun v18 =>
       AY ((decide (v18 < 0)))
        (j11 true)
        ((BW p0.fTarget v7).bind fun v20 =>
        j11 (decide (v10 ≤ v20))))))))
   (j7 ())
def Bb (N : Nat) (p0 : Ac) (j22 : Unit → Option Int) : Nat → Int → Option Int
 | 0, _ => none
 | n22 + 1, v22 =>
  AY ((decide (v22 < (p0.fTables.length : Int))))
   ((BW p0.fTables v22).bind fun v25 =>
   (Eb N p0 v25).bind fun v26 =>
   AY ((v26 != 0))
    (some v26)
    (Bb N p0 j22 n22 (IntKind.wrap .i64 (v22 + 1))))
   (j22 ())
def Ck (N : Nat) (p0 : Ac) : Option Int :=
 Br (fun (v1 : Bool) =>
  AY v1
   (some 3)
   (Br (fun (v4 : Bool) =>
    AY v4
     (some 6)
     (Bg N p0 (fun (_ : Unit) =>
      Bb N p0 (fun (_ : Unit) =>
       some 0) N 0) N 0))
   fun j4 =>
   AY (((p0.fNow.length : Int) != (p0.fVersions.length : Int)))
    (j4 true)
    (j4 ((p0.fTarget.length : Int) != (p0.fVersions.length : Int)))))
 fun j1 =>
 AY ((decide (6 < (p0.fVersions.length : Int))))
  (j1 true)
  (j1 (decide (12 < (p0.fTables.length : Int))))
def BZ (N : Nat) (p0 : Ac) (j3 : ((List Int) × (List Int)) → Option (Ag × Int)) : Nat → ((List Int) × (List Int) × Int) → Option (Ag × Int)
 | 0, _ => none
 | n3 + 1, v3 =>
  AY ((decide (v3.2.2 < (p0.fVersions.length : Int))))
   ((BW p0.fNow v3.2.2).bind fun v6 =>
   (D2 (v3.1.length + (([v6] : List Int)).length ≤ Du)).bind fun _ =>
   (D2 (v3.2.1.length + (([(-1)] : List Int)).length ≤ Du)).bind fun _ =>
   BZ N p0 j3 n3 (v3.1 ++ (([v6] : List Int)), v3.2.1 ++ (([(-1)] : List Int)), (IntKind.wrap .i64 (v3.2.2 + 1))))
   (j3 (v3.1, v3.2.1))
def Bh (N : Nat) (p0 : Ac) (j9 : ((List Int)) → Option (Ag × Int)) : Nat → ((List Int) × Int) → Option (Ag × Int)
 | 0, _ => none
 | n9 + 1, v9 =>
  AY ((decide (v9.2 < (p0.fTables.length : Int))))
   (Br (fun (v12 : Int) =>
    (D2 (v9.1.length + (([v12] : List Int)).length ≤ Du)).bind fun _ =>
    Bh N p0 j9 n9 (v9.1 ++ (([v12] : List Int)), (IntKind.wrap .i64 (v9.2 + 1))))
   fun j12 =>
   (BW p0.fTables v9.2).bind fun v13 =>
   (A5 N v13).bind fun v14 =>
   AY v14
    ((BW p0.fTables v9.2).bind fun v16 =>
    (BW p0.fNow v16.fFrom).bind fun v17 =>
    (D2 (0 ≤ v17)).bind fun _ =>
    j12 (Dv .u8 1 v17))
    (j12 0))
   (j9 v9.1)
def CQ (N : Nat) (p0 : Ac) : Option (Ag × Int) :=
 (Ck N p0).bind fun v1 =>
 AY ((v1 != 0))
  (some ((Ag.mk (([] : List Int)) (([] : List Int)) (([] : List Int))), v1))
  (BZ N p0 (fun (v4 : (List Int) × (List Int)) =>
   Bh N p0 (fun (v10 : (List Int)) =>
    some ((Ag.mk v4.1 v4.2 v10), 0)) N (([] : List Int), 0)) N (([] : List Int), ([] : List Int), 0))
def DM (_ : Nat) (p0 : Ag) : Option Ag :=
 (D2 ((([] : List Int)).length + p0.fBase.length ≤ Du)).bind fun _ =>
 (D2 ((([] : List Int)).length + p0.fNext.length ≤ Du)).bind fun _ =>
 (D2 ((([] : List Int)).length + p0.fHeld.length ≤ Du)).bind fun _ =>
 some ((Ag.mk ((([] : List Int)) ++ p0.fBase) ((([] : List Int)) ++ p0.fNext) ((([] : List Int)) ++ p0.fHeld)))
def Co (N : Nat) (p0 : Ag) (j1 : Int → Option ((List Ag))) : Nat → (Int × Int) → Option ((List Ag))
 | 0, _ => none
 | n1 + 1, v1 =>
  AY ((decide (v1.2 < (p0.fNext.length : Int))))
   (Br (fun (v4 : Int) =>
    Co N p0 j1 n1 (v4, (IntKind.wrap .i64 (v1.2 + 1))))
   fun j4 =>
   (BW p0.fNext v1.2).bind fun v5 =>
   AY ((decide (0 ≤ v5)))
    (j4 (IntKind.wrap .i64 (v1.1 + 1)))
    (j4 v1.1))
   (j1 v1.1)
def BO (N : Nat) (p0 : Ag) (v7 : (List Ag) × Int) (j12 : ((List Int)) → Option ((List Ag))) : Nat → ((List Int) × Int × Int) → Option ((List Ag))
 | 0, _ => none
 | n12 + 1, v12 =>
  AY ((decide (v12.2.2 < (p0.fNext.length : Int))))
   (Br (fun (v15 : (List Int) × Int) =>
    BO N p0 v7 j12 n12 (v15.1, v15.2, (IntKind.wrap .i64 (v12.2.2 + 1))))
   fun j15 =>
   (BW p0.fNext v12.2.2).bind fun v16 =>
   AY ((decide (v16 < 0)))
    (j15 (v12.1, v12.2.1))
    (Br (fun (v18 : (List Int)) =>
     j15 (v18, (IntKind.wrap .i64 (v12.2.1 + 1))))
    fun j18 =>
    (D2 (0 ≤ v12.2.1)).bind fun _ =>
    AY (((Int.tmod ((E0 .i64 v7.2 v12.2.1)) 2) == 1))
     ((BW v12.1 v12.2.2).bind fun _ =>
     j18 (v12.1.set (v12.2.2).toNat ((-1))))
     (j18 v12.1)))
   (j12 v12.1)
def Bt (N : Nat) (p0 : Ag) (v2 : Int) (j7 : ((List Ag)) → Option ((List Ag))) : Nat → ((List Ag) × Int) → Option ((List Ag))
 | 0, _ => none
 | n7 + 1, v7 =>
  (D2 (0 ≤ v2)).bind fun _ =>
  AY ((decide (v7.2 < (Dv .i64 1 v2))))
   ((DM N p0).bind fun v11 =>
   BO N p0 v7 (fun (v13 : (List Int)) =>
    (D2 (v7.1.length + (([(Ag.mk v11.fBase v13 v11.fHeld)] : List Ag)).length ≤ Du)).bind fun _ =>
    Bt N p0 v2 j7 n7 (v7.1 ++ (([(Ag.mk v11.fBase v13 v11.fHeld)] : List Ag)), (IntKind.wrap .i64 (v7.2 + 1)))) N (v11.fNext, 0, 0))
   (j7 v7.1)
def DU (N : Nat) (p0 : Ag) : Option ((List Ag)) :=
 Co N p0 (fun (v2 : Int) =>
  Bt N p0 v2 (fun (v8 : (List Ag)) =>
   some v8) N (([] : List Ag), 0)) N (0, 0)
def BP (_ : Nat) (p0 : Ag) (p1 : Int) : Option Int :=
 (BW p0.fBase p1).bind fun v1 =>
 (D2 (0 ≤ v1)).bind fun _ =>
 Br (fun (v3 : Int) =>
  some v3)
 fun j3 =>
 (BW p0.fNext p1).bind fun v4 =>
 AY ((decide (0 ≤ v4)))
  ((BW p0.fNext p1).bind fun v6 =>
  (D2 (0 ≤ v6)).bind fun _ =>
  j3 (Nj .u8 ((Dv .u8 1 v1)) ((Dv .u8 1 v6))))
  (j3 (Dv .u8 1 v1))
def Cf (_ : Nat) (p0 : Int) (p1 : Int) : Option Bool :=
 (D2 (0 ≤ p1)).bind fun _ =>
 some (((FA .u8 ((E0 .u8 p0 p1)) 1) == 1))
def Bk (N : Nat) (p0 : Ac) (p1 : Ag) (v1 : (List Ao) × Int) (v4 : AE) (v10 : (List Ao) × Int) (j17 : ((List Ao) × Bool) → Option ((List Ao))) : Nat → ((List Ao) × Bool × Int) → Option ((List Ao))
 | 0, _ => none
 | n17 + 1, v17 =>
  (BW p0.fVersions v4.fTo).bind fun v19 =>
  AY ((decide (v17.2.2 < v19)))
   (Br (fun (v21 : (List Ao) × Bool) =>
    Bk N p0 p1 v1 v4 v10 j17 n17 (v21.1, v21.2, (IntKind.wrap .i64 (v17.2.2 + 1))))
   fun j21 =>
   (BP N p1 v4.fTo).bind fun v22 =>
   (Cf N v22 v17.2.2).bind fun v23 =>
   AY ((!v23))
    (j21 (v17.1, v17.2.1))
    (Br (fun (v25 : Bool) =>
     Br (fun (v29 : Bool) =>
      AY v29
       ((D2 (v17.1.length + (([(Ao.mk v1.2 v10.2 v17.2.2)] : List Ao)).length ≤ Du)).bind fun _ =>
       j21 (v17.1 ++ (([(Ao.mk v1.2 v10.2 v17.2.2)] : List Ao)), v25))
       (j21 (v17.1, v25)))
     fun j29 =>
     AY ((!v4.fAware))
      ((BW v4.fOK v10.2).bind fun v31 =>
      (BW v31 v17.2.2).bind fun v32 =>
      j29 (!v32))
      (j29 false))
    fun j25 =>
    AY v17.2.1
     (j25 true)
     ((BW v4.fOK v10.2).bind fun v27 =>
     (BW v27 v17.2.2).bind fun v28 =>
     j25 v28)))
   (j17 (v17.1, v17.2.1))
def Bz (N : Nat) (p0 : Ac) (p1 : Ag) (v1 : (List Ao) × Int) (v4 : AE) (v6 : Int) (j10 : ((List Ao)) → Option ((List Ao))) : Nat → ((List Ao) × Int) → Option ((List Ao))
 | 0, _ => none
 | n10 + 1, v10 =>
  (BW p0.fVersions v4.fFrom).bind fun v12 =>
  AY ((decide (v10.2 < v12)))
   (Br (fun (v14 : (List Ao)) =>
    Bz N p0 p1 v1 v4 v6 j10 n10 (v14, (IntKind.wrap .i64 (v10.2 + 1))))
   fun j14 =>
   (Cf N v6 v10.2).bind fun v15 =>
   AY ((!v15))
    (j14 v10.1)
    (Bk N p0 p1 v1 v4 v10 (fun (v18 : (List Ao) × Bool) =>
     Br (fun (v35 : Bool) =>
      AY v35
       ((D2 (v18.1.length + (([(Ao.mk v1.2 v10.2 ((-1)))] : List Ao)).length ≤ Du)).bind fun _ =>
       j14 (v18.1 ++ (([(Ao.mk v1.2 v10.2 ((-1)))] : List Ao))))
       (j14 v18.1))
     fun j35 =>
     AY v4.fAware
      (j35 (!v18.2))
      (j35 false)) N (v10.1, false, 0)))
   (j10 v10.1)
def Cr (N : Nat) (p0 : Ac) (p1 : Ag) (j1 : ((List Ao)) → Option ((List Ao))) : Nat → ((List Ao) × Int) → Option ((List Ao))
 | 0, _ => none
 | n1 + 1, v1 =>
  AY ((decide (v1.2 < (p0.fTables.length : Int))))
   ((BW p0.fTables v1.2).bind fun v4 =>
   (BP N p1 v4.fFrom).bind fun v5 =>
   Br (fun (v6 : Int) =>
    Bz N p0 p1 v1 v4 v6 (fun (v11 : (List Ao)) =>
     Cr N p0 p1 j1 n1 (v11, (IntKind.wrap .i64 (v1.2 + 1)))) N (v1.1, 0))
   fun j6 =>
   (A5 N v4).bind fun v7 =>
   AY v7
    ((BW p1.fHeld v1.2).bind fun v9 =>
    j6 v9)
    (j6 v5))
   (j1 v1.1)
def D7 (N : Nat) (p0 : Ac) (p1 : Ag) : Option ((List Ao)) :=
 Cr N p0 p1 (fun (v2 : (List Ao)) =>
  some v2) N (([] : List Ao), 0)
def DS (N : Nat) (p0 : Ac) (p1 : Ag) : Option Bool :=
 (D7 N p0 p1).bind fun v1 =>
 some (((v1.length : Int) == 0))
def BY (N : Nat) (p0 : Ac) (v1 : (List Ag)) (j2 : Unit → Option Bool) : Nat → Int → Option Bool
 | 0, _ => none
 | n2 + 1, v2 =>
  AY ((decide (v2 < (v1.length : Int))))
   ((BW v1 v2).bind fun v5 =>
   (DS N p0 v5).bind fun v6 =>
   AY ((!v6))
    (some false)
    (BY N p0 v1 j2 n2 (IntKind.wrap .i64 (v2 + 1))))
   (j2 ())
def Cq (N : Nat) (p0 : Ac) (p1 : Ag) : Option Bool :=
 (DU N p1).bind fun v1 =>
 BY N p0 v1 (fun (_ : Unit) =>
  some true) N 0
def B1 (N : Nat) (p0 : Ac) (p1 : Ag) (j7 : Unit → Option Int) : Nat → Int → Option Int
 | 0, _ => none
 | n7 + 1, v7 =>
  AY ((decide (v7 < (p0.fVersions.length : Int))))
   (Br (fun (v10 : Bool) =>
    AY v10
     (some 7)
     ((BW p1.fBase v7).bind fun v21 =>
     (BW p1.fNext v7).bind fun v22 =>
     AY ((v21 == v22))
      (some 1)
      (B1 N p0 p1 j7 n7 (IntKind.wrap .i64 (v7 + 1)))))
   fun j10 =>
   (BW p1.fBase v7).bind fun v11 =>
   AY ((decide (v11 < 0)))
    (j10 true)
    ((BW p1.fBase v7).bind fun v13 =>
    (BW p0.fVersions v7).bind fun v14 =>
    AY ((decide (v14 ≤ v13)))
     (j10 true)
     ((BW p1.fNext v7).bind fun v16 =>
     AY ((decide (v16 < (-1))))
      (j10 true)
      ((BW p1.fNext v7).bind fun v18 =>
      (BW p0.fVersions v7).bind fun v19 =>
      j10 (decide (v19 ≤ v18))))))
   (j7 ())
def BS (N : Nat) (p0 : Ac) (p1 : Ag) (j24 : Unit → Option Int) : Nat → Int → Option Int
 | 0, _ => none
 | n24 + 1, v24 =>
  AY ((decide (v24 < (p0.fTables.length : Int))))
   ((BW p0.fTables v24).bind fun v27 =>
   (BW p0.fVersions v27.fFrom).bind fun v28 =>
   (D2 (0 ≤ v28)).bind fun _ =>
   Br (fun (v30 : Bool) =>
    AY v30
     (some 1)
     (BS N p0 p1 j24 n24 (IntKind.wrap .i64 (v24 + 1))))
   fun j30 =>
   (A5 N v27).bind fun v31 =>
   AY ((!v31))
    ((BW p1.fHeld v24).bind fun v33 =>
    AY ((v33 != 0))
     (j30 true)
     ((A5 N v27).bind fun v35 =>
     AY v35
      ((BW p1.fHeld v24).bind fun v37 =>
      AY (((CT .u8 v37 ((IntKind.wrap .u8 ((Dv .u8 1 v28) - 1)))) != 0))
       (j30 true)
       ((BP N p1 v27.fFrom).bind fun v39 =>
       (BW p1.fHeld v24).bind fun v40 =>
       j30 ((CT .u8 v39 v40) != 0)))
      (j30 false)))
    ((A5 N v27).bind fun v41 =>
    AY v41
     ((BW p1.fHeld v24).bind fun v43 =>
     AY (((CT .u8 v43 ((IntKind.wrap .u8 ((Dv .u8 1 v28) - 1)))) != 0))
      (j30 true)
      ((BP N p1 v27.fFrom).bind fun v45 =>
      (BW p1.fHeld v24).bind fun v46 =>
      j30 ((CT .u8 v45 v46) != 0)))
     (j30 false)))
   (j24 ())
def CR (N : Nat) (p0 : Ac) (p1 : Ag) : Option Int :=
 (Ck N p0).bind fun v1 =>
 AY ((v1 != 0))
  (some v1)
  (Br (fun (v3 : Bool) =>
   AY v3
    (some 6)
    (B1 N p0 p1 (fun (_ : Unit) =>
     BS N p0 p1 (fun (_ : Unit) =>
      some 0) N 0) N 0))
  fun j3 =>
  AY (((p1.fBase.length : Int) != (p0.fVersions.length : Int)))
   (j3 true)
   (AY (((p1.fNext.length : Int) != (p0.fVersions.length : Int)))
    (j3 true)
    (j3 ((p1.fHeld.length : Int) != (p0.fTables.length : Int)))))
def Ec (_ : Nat) (p0 : Af) : Option Bool :=
 Br (fun (v1 : Bool) =>
  some v1)
 fun j1 =>
 AY ((decide (1 ≤ p0.fKind)))
  (AY ((decide (p0.fKind ≤ 4)))
   (AY ((decide (0 ≤ p0.fIndex)))
    (AY ((decide (0 ≤ p0.fVersion)))
     (AY ((p0.fKind == 1))
      (j1 true)
      (j1 (p0.fVersion == 0)))
     (j1 false))
    (j1 false))
   (j1 false))
  (j1 false)
def BR (N : Nat) (p0 : Ac) (p2 : Af) (j12 : ((List Int)) → Option (Ag × Bool)) : Nat → ((List Int) × Int) → Option (Ag × Bool)
 | 0, _ => none
 | n12 + 1, v12 =>
  AY ((decide (v12.2 < (p0.fTables.length : Int))))
   (Br (fun (v15 : (List Int)) =>
    BR N p0 p2 j12 n12 (v15, (IntKind.wrap .i64 (v12.2 + 1))))
   fun j15 =>
   Br (fun (v16 : Bool) =>
    AY v16
     ((BW v12.1 v12.2).bind fun v22 =>
     (D2 (0 ≤ p2.fVersion)).bind fun _ =>
     (BW v12.1 v12.2).bind fun _ =>
     j15 (v12.1.set (v12.2).toNat ((Nj .u8 v22 ((Dv .u8 1 p2.fVersion))))))
     (j15 v12.1))
   fun j16 =>
   (BW p0.fTables v12.2).bind fun v17 =>
   AY ((v17.fFrom == p2.fIndex))
    ((BW p0.fTables v12.2).bind fun v19 =>
    (A5 N v19).bind fun v20 =>
    j16 v20)
    (j16 false))
   (j12 v12.1)
def By (N : Nat) (p0 : Ac) (p1 : Ag) (p2 : Af) (v32 : AE) (v35 : Int) (j38 : Unit → Option (Ag × Bool)) : Nat → Int → Option (Ag × Bool)
 | 0, _ => none
 | n38 + 1, v38 =>
  (BW p0.fVersions v32.fFrom).bind fun v40 =>
  AY ((decide (v38 < v40)))
   (Br (fun (v42 : Bool) =>
    Br (fun (v47 : Bool) =>
     AY v47
      (some ((Ag.mk (([] : List Int)) (([] : List Int)) (([] : List Int))), false))
      (By N p0 p1 p2 v32 v35 j38 n38 (IntKind.wrap .i64 (v38 + 1))))
    fun j47 =>
    AY v42
     (AY ((v32.fKind == 4))
      ((BW v32.fRewrite v38).bind fun v50 =>
      (BW p1.fBase v32.fFrom).bind fun v51 =>
      (BW v50 v51).bind fun v52 =>
      j47 (!v52))
      (j47 false))
     (j47 false))
   fun j42 =>
   (BW p1.fHeld p2.fIndex).bind fun v43 =>
   (Cf N v43 v38).bind fun v44 =>
   AY v44
    ((Cf N v35 v38).bind fun v46 =>
    j42 (!v46))
    (j42 false))
   (j38 ())
def B7 (N : Nat) (p0 : Ac) (p1 : Ag) (p2 : Af) : Option (Ag × Bool) :=
 (D2 ((([] : List Int)).length + p1.fBase.length ≤ Du)).bind fun _ =>
 (D2 ((([] : List Int)).length + p1.fNext.length ≤ Du)).bind fun _ =>
 (D2 ((([] : List Int)).length + p1.fHeld.length ≤ Du)).bind fun _ =>
 Br (fun (v4 : (List Int) × (List Int) × (List Int)) =>
  some ((Ag.mk v4.1 v4.2.1 v4.2.2), true))
 fun j4 =>
 AY ((p2.fKind == 1))
  (Br (fun (v6 : Bool) =>
   AY v6
    (some ((Ag.mk (([] : List Int)) (([] : List Int)) (([] : List Int))), false))
    ((BW ((([] : List Int)) ++ p1.fNext) p2.fIndex).bind fun _ =>
    BR N p0 p2 (fun (v13 : (List Int)) =>
     j4 ((([] : List Int)) ++ p1.fBase, ((([] : List Int)) ++ p1.fNext).set (p2.fIndex).toNat p2.fVersion, v13)) N ((([] : List Int)) ++ p1.fHeld, 0)))
  fun j6 =>
  (BW p1.fNext p2.fIndex).bind fun v7 =>
  AY ((decide (0 ≤ v7)))
   (j6 true)
   ((BW p1.fBase p2.fIndex).bind fun v9 =>
   j6 (p2.fVersion == v9)))
  (AY ((p2.fKind == 2))
   ((BW p1.fNext p2.fIndex).bind fun v26 =>
   AY ((decide (v26 < 0)))
    (some ((Ag.mk (([] : List Int)) (([] : List Int)) (([] : List Int))), false))
    ((BW p1.fNext p2.fIndex).bind fun v28 =>
    (BW ((([] : List Int)) ++ p1.fBase) p2.fIndex).bind fun _ =>
    (BW ((([] : List Int)) ++ p1.fNext) p2.fIndex).bind fun _ =>
    j4 (((([] : List Int)) ++ p1.fBase).set (p2.fIndex).toNat v28, ((([] : List Int)) ++ p1.fNext).set (p2.fIndex).toNat ((-1)), (([] : List Int)) ++ p1.fHeld)))
   (AY ((p2.fKind == 3))
    ((BW p0.fTables p2.fIndex).bind fun v32 =>
    (A5 N v32).bind fun v33 =>
    AY ((!v33))
     (some ((Ag.mk (([] : List Int)) (([] : List Int)) (([] : List Int))), false))
     ((BP N p1 v32.fFrom).bind fun v35 =>
     (BW p1.fHeld p2.fIndex).bind fun v36 =>
     AY ((v36 == v35))
      (some ((Ag.mk (([] : List Int)) (([] : List Int)) (([] : List Int))), false))
      (By N p0 p1 p2 v32 v35 (fun (_ : Unit) =>
       (BW ((([] : List Int)) ++ p1.fHeld) p2.fIndex).bind fun _ =>
       j4 ((([] : List Int)) ++ p1.fBase, (([] : List Int)) ++ p1.fNext, ((([] : List Int)) ++ p1.fHeld).set (p2.fIndex).toNat v35)) N 0)))
    ((BW p1.fNext p2.fIndex).bind fun v55 =>
    AY ((decide (v55 < 0)))
     (some ((Ag.mk (([] : List Int)) (([] : List Int)) (([] : List Int))), false))
     ((BW ((([] : List Int)) ++ p1.fNext) p2.fIndex).bind fun _ =>
     j4 ((([] : List Int)) ++ p1.fBase, ((([] : List Int)) ++ p1.fNext).set (p2.fIndex).toNat ((-1)), (([] : List Int)) ++ p1.fHeld)))))
def D3 (N : Nat) (p0 : Ac) (p1 : Ag) (p2 : Af) : Option (Ag × Int) :=
 (CR N p0 p1).bind fun v1 =>
 AY ((v1 != 0))
  (some ((Ag.mk (([] : List Int)) (([] : List Int)) (([] : List Int))), v1))
  ((Ec N p2).bind fun v3 =>
  AY ((!v3))
   (some ((Ag.mk (([] : List Int)) (([] : List Int)) (([] : List Int))), 1))
   (Br (fun (v5 : Bool) =>
    AY v5
     (some ((Ag.mk (([] : List Int)) (([] : List Int)) (([] : List Int))), 4))
     (Br (fun (v11 : Bool) =>
      AY v11
       (some ((Ag.mk (([] : List Int)) (([] : List Int)) (([] : List Int))), 4))
       ((B7 N p0 p1 p2).bind fun v15 =>
       AY ((!v15.2))
        (some ((Ag.mk (([] : List Int)) (([] : List Int)) (([] : List Int))), 11))
        (some (v15.1, 0))))
     fun j11 =>
     AY ((p2.fKind == 1))
      ((BW p0.fVersions p2.fIndex).bind fun v13 =>
      j11 (decide (v13 ≤ p2.fVersion)))
      (j11 false)))
   fun j5 =>
   AY ((p2.fKind == 3))
    (AY ((decide ((p0.fTables.length : Int) ≤ p2.fIndex)))
     (j5 true)
     (AY ((p2.fKind != 3))
      (j5 (decide ((p0.fVersions.length : Int) ≤ p2.fIndex)))
      (j5 false)))
    (AY ((p2.fKind != 3))
     (j5 (decide ((p0.fVersions.length : Int) ≤ p2.fIndex)))
     (j5 false))))
def B2 (N : Nat) (p0 : Ac) (p1 : Ag) (v1 : (List Af) × Int) (v4 : (List Af) × Int) (j7 : ((List Af)) → Option ((List Af))) : Nat → ((List Af) × Int) → Option ((List Af))
 | 0, _ => none
 | n7 + 1, v7 =>
  AY ((decide (v7.2 < 6)))
   (Br (fun (v10 : (List Af)) =>
    B2 N p0 p1 v1 v4 j7 n7 (v10, (IntKind.wrap .i64 (v7.2 + 1))))
   fun j10 =>
   (D3 N p0 p1 ((Af.mk v1.2 v4.2 v7.2))).bind fun v11 =>
   AY ((v11.2 == 0))
    ((D2 (v7.1.length + (([(Af.mk v1.2 v4.2 v7.2)] : List Af)).length ≤ Du)).bind fun _ =>
    j10 (v7.1 ++ (([(Af.mk v1.2 v4.2 v7.2)] : List Af))))
    (j10 v7.1))
   (j7 v7.1)
def B3 (N : Nat) (p0 : Ac) (p1 : Ag) (v1 : (List Af) × Int) (j4 : ((List Af)) → Option ((List Af))) : Nat → ((List Af) × Int) → Option ((List Af))
 | 0, _ => none
 | n4 + 1, v4 =>
  AY ((decide (v4.2 < (RZ ((p0.fVersions.length : Int)) ((p0.fTables.length : Int))))))
   (B2 N p0 p1 v1 v4 (fun (v8 : (List Af)) =>
    B3 N p0 p1 v1 j4 n4 (v8, (IntKind.wrap .i64 (v4.2 + 1)))) N (v4.1, 0))
   (j4 v4.1)
def Bp (N : Nat) (p0 : Ac) (p1 : Ag) (j1 : ((List Af)) → Option ((List Af))) : Nat → ((List Af) × Int) → Option ((List Af))
 | 0, _ => none
 | n1 + 1, v1 =>
  AY ((decide (v1.2 ≤ 3)))
   (B3 N p0 p1 v1 (fun (v5 : (List Af)) =>
    Bp N p0 p1 j1 n1 (v5, (IntKind.wrap .i64 (v1.2 + 1)))) N (v1.1, 0))
   (j1 v1.1)
def D9 (N : Nat) (p0 : Ac) (p1 : Ag) : Option ((List Af)) :=
 Bp N p0 p1 (fun (v2 : (List Af)) =>
  some v2) N (([] : List Af), 1)
def CW (N : Nat) (p0 : List Int) (p1 : List Int) (j1 : Unit → Option Int) : Nat → Int → Option Int
 | 0, _ => none
 | n1 + 1, v1 =>
  Br (fun (v3 : Bool) =>
   AY v3
    ((BW p0 v1).bind fun v6 =>
    (BW p1 v1).bind fun v7 =>
    AY ((decide (v6 < v7)))
     (some ((-1)))
     ((BW p0 v1).bind fun v9 =>
     (BW p1 v1).bind fun v10 =>
     AY ((decide (v10 < v9)))
      (some 1)
      (CW N p0 p1 j1 n1 (IntKind.wrap .i64 (v1 + 1)))))
    (j1 ()))
  fun j3 =>
  AY ((decide (v1 < (p0.length : Int))))
   (j3 (decide (v1 < (p1.length : Int))))
   (j3 false)
def CZ (N : Nat) (p0 : List Int) (p1 : List Int) : Option Int :=
 CW N p0 p1 (fun (_ : Unit) =>
  AY ((decide ((p0.length : Int) < (p1.length : Int))))
   (some ((-1)))
   (AY ((decide ((p1.length : Int) < (p0.length : Int))))
    (some 1)
    (some 0))) N 0
def Cw (N : Nat) (p0 : List Int) (j1 : ((List Int)) → Option ((List Int))) : Nat → ((List Int) × Int) → Option ((List Int))
 | 0, _ => none
 | n1 + 1, v1 =>
  AY ((decide (v1.2 < (p0.length : Int))))
   ((BW p0 v1.2).bind fun v4 =>
   (D2 (v1.1.length + (([(IntKind.wrap .i64 v4)] : List Int)).length ≤ Du)).bind fun _ =>
   Cw N p0 j1 n1 (v1.1 ++ (([(IntKind.wrap .i64 v4)] : List Int)), (IntKind.wrap .i64 (v1.2 + 1))))
   (j1 v1.1)
def CV (N : Nat) (p0 : List Int) : Option ((List Int)) :=
 Cw N p0 (fun (v2 : (List Int)) =>
  some v2) N (([] : List Int), 0)
def Dx (N : Nat) (p0 : Ag) (p1 : Ag) : Option Int :=
 (CZ N p0.fBase p1.fBase).bind fun v1 =>
 AY ((v1 != 0))
  (some v1)
  ((CZ N p0.fNext p1.fNext).bind fun v3 =>
  AY ((v3 != 0))
   (some v3)
   ((CV N p0.fHeld).bind fun v5 =>
   (CV N p1.fHeld).bind fun v6 =>
   (CZ N v5 v6).bind fun v7 =>
   some v7))
def D6 (N : Nat) (p0 : Ag) (p1 : Ag) : Option Bool :=
 (Dx N p0 p1).bind fun v1 =>
 some ((v1 == 0))
def Cc (N : Nat) (p0 : List AA) (p1 : Ag) (j1 : Unit → Option Int) : Nat → Int → Option Int
 | 0, _ => none
 | n1 + 1, v1 =>
  AY ((decide (v1 < (p0.length : Int))))
   ((BW p0 v1).bind fun v4 =>
   (D6 N ((Ag.mk v4.fMix.fBase v4.fMix.fNext v4.fMix.fHeld)) p1).bind fun v5 =>
   AY v5
    (some v1)
    (Cc N p0 p1 j1 n1 (IntKind.wrap .i64 (v1 + 1))))
   (j1 ())
def DB (N : Nat) (p0 : List AA) (p1 : Ag) : Option Int :=
 Cc N p0 p1 (fun (_ : Unit) =>
  some ((-1))) N 0
def BG (N : Nat) (p0 : Ac) (p2 : Int) (v1 : (List AA) × Int) (v5 : (List Af)) (j6 : ((List AA)) → Option ((List AA) × Bool)) : Nat → ((List AA) × Int) → Option ((List AA) × Bool)
 | 0, _ => none
 | n6 + 1, v6 =>
  AY ((decide (v6.2 < (v5.length : Int))))
   ((BW v6.1 v1.2).bind fun v9 =>
   (BW v5 v6.2).bind fun v10 =>
   (B7 N p0 ((Ag.mk v9.fMix.fBase v9.fMix.fNext v9.fMix.fHeld)) v10).bind fun v11 =>
   Br (fun (v12 : (List AA)) =>
    AY ((decide (p2 < (v12.length : Int))))
     (some (([] : List AA), false))
     (BG N p0 p2 v1 v5 j6 n6 (v12, (IntKind.wrap .i64 (v6.2 + 1)))))
   fun j12 =>
   Br (fun (v13 : Bool) =>
    AY v13
     ((BW v5 v6.2).bind fun v18 =>
     (D2 (v6.1.length + (([(AA.mk v11.1 v1.2 v18)] : List AA)).length ≤ Du)).bind fun _ =>
     j12 (v6.1 ++ (([(AA.mk v11.1 v1.2 v18)] : List AA))))
     (j12 v6.1))
   fun j13 =>
   (Cq N p0 v11.1).bind fun v14 =>
   AY v14
    ((DB N v6.1 v11.1).bind fun v16 =>
    j13 (decide (v16 < 0)))
    (j13 false))
   (j6 v6.1)
def BF (N : Nat) (p0 : Ac) (p2 : Int) (j1 : ((List AA)) → Option ((List AA) × Bool)) : Nat → ((List AA) × Int) → Option ((List AA) × Bool)
 | 0, _ => none
 | n1 + 1, v1 =>
  AY ((decide (v1.2 < (v1.1.length : Int))))
   ((BW v1.1 v1.2).bind fun v4 =>
   (D9 N p0 ((Ag.mk v4.fMix.fBase v4.fMix.fNext v4.fMix.fHeld))).bind fun v5 =>
   BG N p0 p2 v1 v5 (fun (v7 : (List AA)) =>
    BF N p0 p2 j1 n1 (v7, (IntKind.wrap .i64 (v1.2 + 1)))) N (v1.1, 0))
   (j1 v1.1)
def Cu (N : Nat) (p0 : Ac) (p1 : Ag) (p2 : Int) : Option ((List AA) × Bool) :=
 BF N p0 p2 (fun (v2 : (List AA)) =>
  some (v2, true)) N (([(AA.mk p1 ((-1)) ((Af.mk 0 0 0)))] : List AA), 0)
def Ed (N : Nat) (p0 : Ac) (p1 : Int) : Option Bool :=
 (CQ N p0).bind fun v1 =>
 Br (fun (v2 : Bool) =>
  AY v2
   (some true)
   ((Cu N p0 v1.1 p1).bind fun v6 =>
   some v6.2))
 fun j2 =>
 AY ((v1.2 != 0))
  (j2 true)
  ((Cq N p0 v1.1).bind fun v4 =>
  j2 (!v4))
def EH (N : Nat) (p0 : BI) : Option (Ac × Bool) :=
 (EC N p0).bind fun v1 =>
 Br (fun (v2 : Bool) =>
  some (v1.1, v2))
 fun j2 =>
 AY v1.2
  ((Ed N v1.1 120).bind fun v4 =>
  j2 v4)
  (j2 false)
def Cm (N : Nat) (p1 : Int) (v3 : Ac × Bool) (v5 : (List Af) × Int) (j10 : ((List Int) × (List Int) × (List Int)) → Option Bool) : Nat → ((List Int) × (List Int) × (List Int) × Int) → Option Bool
 | 0, _ => none
 | n10 + 1, v10 =>
  AY ((decide (v10.2.2.2 < ((((v5.1.drop 0).take (((Int.tmod ((IntKind.wrap .i64 p1)) ((IntKind.wrap .i64 ((v5.1.length : Int) + 1))))).toNat - 0))).length : Int))))
   ((BW (((v5.1.drop 0).take (((Int.tmod ((IntKind.wrap .i64 p1)) ((IntKind.wrap .i64 ((v5.1.length : Int) + 1))))).toNat - 0))) v10.2.2.2).bind fun v13 =>
   (B7 N v3.1 ((Ag.mk v10.1 v10.2.1 v10.2.2.1)) v13).bind fun v14 =>
   Cm N p1 v3 v5 j10 n10 (v14.1.fBase, v14.1.fNext, v14.1.fHeld, (IntKind.wrap .i64 (v10.2.2.2 + 1))))
   (j10 (v10.1, v10.2.1, v10.2.2.1))
def Dm (N : Nat) (p0 : BI) (p1 : Int) : Option Bool :=
 (EG N).bind fun v1 =>
 AY ((!v1))
  (some false)
  ((EH N p0).bind fun v3 =>
  AY ((!v3.2))
   (some true)
   ((ED N v3.1).bind fun v5 =>
   AY ((v5.2 != 0))
    (some true)
    ((CQ N v3.1).bind fun v7 =>
    (D2 ((IntKind.wrap .i64 ((v5.1.length : Int) + 1)) ≠ 0)).bind fun _ =>
    (D2 ((0 : Int) ≤ (Int.tmod ((IntKind.wrap .i64 p1)) ((IntKind.wrap .i64 ((v5.1.length : Int) + 1)))) ∧ 0 ≤ ((Int.tmod ((IntKind.wrap .i64 p1)) ((IntKind.wrap .i64 ((v5.1.length : Int) + 1))))).toNat ∧ ((Int.tmod ((IntKind.wrap .i64 p1)) ((IntKind.wrap .i64 ((v5.1.length : Int) + 1))))).toNat ≤ v5.1.length)).bind fun _ =>
    Cm N p1 v3 v5 (fun (v11 : (List Int) × (List Int) × (List Int)) =>
     (D0 N v3.1 ((Ag.mk v11.1 v11.2.1 v11.2.2))).bind fun v15 =>
     Br (fun (v16 : Bool) =>
      some v16)
     fun j16 =>
     AY ((v15.2 == 0))
      (AY (((v15.1.length : Int) == (IntKind.wrap .i64 ((v5.1.length : Int) - (Int.tmod ((IntKind.wrap .i64 p1)) ((IntKind.wrap .i64 ((v5.1.length : Int) + 1))))))))
       ((D2 ((0 : Int) ≤ (Int.tmod ((IntKind.wrap .i64 p1)) ((IntKind.wrap .i64 ((v5.1.length : Int) + 1)))) ∧ ((Int.tmod ((IntKind.wrap .i64 p1)) ((IntKind.wrap .i64 ((v5.1.length : Int) + 1))))).toNat ≤ v5.1.length ∧ v5.1.length ≤ v5.1.length)).bind fun _ =>
       (C1 N v15.1 (((v5.1.drop ((Int.tmod ((IntKind.wrap .i64 p1)) ((IntKind.wrap .i64 ((v5.1.length : Int) + 1))))).toNat).take (v5.1.length - ((Int.tmod ((IntKind.wrap .i64 p1)) ((IntKind.wrap .i64 ((v5.1.length : Int) + 1))))).toNat)))).bind fun v20 =>
       j16 v20)
       (j16 false))
      (j16 false)) N (v7.1.fBase, v7.1.fNext, v7.1.fHeld, 0))))
def Dw (N : Nat) (p0 : Ac) (p1 : Ag) (j3 : Unit → Option Bool) : Nat → Int → Option Bool
 | 0, _ => none
 | n3 + 1, v3 =>
  AY ((decide (v3 < (p1.fBase.length : Int))))
   (Br (fun (v6 : Bool) =>
    AY v6
     (some false)
     (Dw N p0 p1 j3 n3 (IntKind.wrap .i64 (v3 + 1))))
   fun j6 =>
   (BW p1.fNext v3).bind fun v7 =>
   AY ((decide (0 ≤ v7)))
    (j6 true)
    ((BW p1.fBase v3).bind fun v9 =>
    (BW p0.fTarget v3).bind fun v10 =>
    j6 (v9 != v10)))
   (j3 ())
def FI (N : Nat) (p0 : Ac) (p1 : Ag) : Option Bool :=
 (CR N p0 p1).bind fun v1 =>
 AY ((v1 != 0))
  (some false)
  (Dw N p0 p1 (fun (_ : Unit) =>
   some true) N 0)
def Ev (N : Nat) (p0 : List AA) (j1 : ((List Af)) → Option ((List Af))) : Nat → (Int × (List Af)) → Option ((List Af))
 | 0, _ => none
 | n1 + 1, v1 =>
  (BW p0 v1.1).bind fun v3 =>
  AY ((decide (0 ≤ v3.fBefore)))
   ((BW p0 v1.1).bind fun v5 =>
   (D2 ((([(Af.mk v5.fBy.fKind v5.fBy.fIndex v5.fBy.fVersion)] : List Af)).length + v1.2.length ≤ Du)).bind fun _ =>
   (BW p0 v1.1).bind fun v7 =>
   Ev N p0 j1 n1 (v7.fBefore, (([(Af.mk v5.fBy.fKind v5.fBy.fIndex v5.fBy.fVersion)] : List Af)) ++ v1.2))
   (j1 v1.2)
def HR (N : Nat) (p0 : List AA) (p1 : Int) : Option ((List Af)) :=
 Ev N p0 (fun (v2 : (List Af)) =>
  some v2) N (p1, ([] : List Af))
def CX (N : Nat) (p0 : Ac) (v5 : (List AA) × Bool) (j7 : Unit → Option ((List Af) × Int)) : Nat → Int → Option ((List Af) × Int)
 | 0, _ => none
 | n7 + 1, v7 =>
  AY ((decide (v7 < (v5.1.length : Int))))
   ((BW v5.1 v7).bind fun v10 =>
   (FI N p0 ((Ag.mk v10.fMix.fBase v10.fMix.fNext v10.fMix.fHeld))).bind fun v11 =>
   AY v11
    ((HR N v5.1 v7).bind fun v13 =>
    some (v13, 0))
    (CX N p0 v5 j7 n7 (IntKind.wrap .i64 (v7 + 1))))
   (j7 ())
def DC (N : Nat) (p0 : Ac) (p1 : Ag) : Option ((List Af) × Int) :=
 (CR N p0 p1).bind fun v1 =>
 AY ((v1 != 0))
  (some (([] : List Af), v1))
  ((Cq N p0 p1).bind fun v3 =>
  AY ((!v3))
   (some (([] : List Af), 13))
   ((Cu N p0 p1 20000).bind fun v5 =>
   AY ((!v5.2))
    (some (([] : List Af), 3))
    (CX N p0 v5 (fun (_ : Unit) =>
     some (([] : List Af), 14)) N 0)))
def Hj (N : Nat) (p0 : Ac) : Option ((List Af) × Int) :=
 (CQ N p0).bind fun v1 =>
 AY ((v1.2 != 0))
  (some (([] : List Af), v1.2))
  ((DC N p0 v1.1).bind fun v3 =>
  some (v3.1, v3.2))
def Mc {α : Type} (w : α → Prop) (xs : List α) : Prop := ∀ x, x ∈ xs → w x
def JB (n : Int) : Prop := (Lit.int .u8 n).wf = true
def VP (n : Int) : Prop := (Lit.int .u16 n).wf = true
def GG (x : Hb) : Prop := JB x.fKind ∧ JB x.fFrom ∧ JB x.fTo ∧ (fun _ => True) x.fAware ∧ VP x.fBad ∧ VP x.fLost ∧ True
def EE (x : BI) : Prop := (Mc JB) x.fVersions ∧ (Mc JB) x.fNow ∧ (Mc JB) x.fTarget ∧ (Mc GG) x.fLinks ∧ True
end Go.Lift

/- That the code does what the shallow programs do, function by function. Written by a program (gen.py). -/
namespace Go.Lift
open Go.RowKit
open Go.Proofs
theorem Ae : Try.prog.follows .mixedOrders = true := by kernel_rfl
theorem WE : Ey Try.prog 101 true = true := by kernel_rfl
theorem Ts : Ey Try.prog 22 false = true := by kernel_rfl
theorem Vo : Ey Try.prog 23 false = true := by kernel_rfl
theorem Xb : Ey Try.prog 25 true = true := by kernel_rfl
theorem A9 : Ey Try.prog 27 false = true := by kernel_rfl
theorem Gl : Ey Try.prog 28 false = true := by kernel_rfl
theorem Ch : Ey Try.prog 3 false = true := by kernel_rfl
theorem DQ : Ey Try.prog 30 true = true := by kernel_rfl
theorem Q5 : Ey Try.prog 4 false = true := by kernel_rfl
theorem Gf : Ey Try.prog 41 false = true := by kernel_rfl
theorem Bx : Ey Try.prog 43 true = true := by kernel_rfl
theorem Ly : Ey Try.prog 45 true = true := by kernel_rfl
theorem Wn : Ey Try.prog 5 false = true := by kernel_rfl
theorem Gz : Ey Try.prog 63 true = true := by kernel_rfl
theorem I9 : Ey Try.prog 73 false = true := by kernel_rfl
theorem Gw : Ey Try.prog 75 true = true := by kernel_rfl
theorem OJ : Ey Try.prog 76 false = true := by kernel_rfl
theorem WW : Ey Try.prog 82 false = true := by kernel_rfl
theorem XW : Ey Try.prog 84 true = true := by kernel_rfl
theorem Ji : Ey Try.prog 87 false = true := by kernel_rfl
theorem WC : OR Try.prog 22 = true := by kernel_rfl
theorem VD : EW Try.prog 101 128 = true := by kernel_rfl
theorem KH : EW Try.prog 3 8 = true := by kernel_rfl
theorem VK : EW Try.prog 4 1 = true := by kernel_rfl
theorem U3 : EW Try.prog 43 72 = true := by kernel_rfl
theorem Q9 : EW Try.prog 45 24 = true := by kernel_rfl
theorem VO : EW Try.prog 5 1 = true := by kernel_rfl
theorem Pq : EW Try.prog 63 24 = true := by kernel_rfl
theorem WO : EW Try.prog 75 80 = true := by kernel_rfl
theorem W4 : EW Try.prog 76 24 = true := by kernel_rfl
theorem P5 : EW Try.prog 87 1 = true := by kernel_rfl
theorem Wq : EW Try.prog 92 104 = true := by kernel_rfl
theorem MU : Cz Try.prog 101 0 0 = true := by kernel_rfl
theorem P9 : Cz Try.prog 101 1 3 = true := by kernel_rfl
theorem SK : Cz Try.prog 101 2 4 = true := by kernel_rfl
theorem Qj : Cz Try.prog 101 3 7 = true := by kernel_rfl
theorem OF : Cz Try.prog 25 0 0 = true := by kernel_rfl
theorem UN : Cz Try.prog 25 1 1 = true := by kernel_rfl
theorem TL : Cz Try.prog 25 2 2 = true := by kernel_rfl
theorem OM : Cz Try.prog 25 3 3 = true := by kernel_rfl
theorem Bs : Cz Try.prog 30 0 0 = true := by kernel_rfl
theorem FW : Cz Try.prog 30 1 1 = true := by kernel_rfl
theorem HV : Cz Try.prog 30 2 2 = true := by kernel_rfl
theorem CC : Cz Try.prog 30 3 3 = true := by kernel_rfl
theorem CK : Cz Try.prog 43 0 0 = true := by kernel_rfl
theorem BD : Cz Try.prog 43 1 1 = true := by kernel_rfl
theorem Cy : Cz Try.prog 43 2 2 = true := by kernel_rfl
theorem EP : Cz Try.prog 63 0 0 = true := by kernel_rfl
theorem Ex : Cz Try.prog 63 1 1 = true := by kernel_rfl
theorem FV : Cz Try.prog 63 2 2 = true := by kernel_rfl
theorem Fj : Cz Try.prog 75 0 0 = true := by kernel_rfl
theorem CU : Cz Try.prog 75 1 1 = true := by kernel_rfl
theorem Ho : Cz Try.prog 75 2 2 = true := by kernel_rfl
theorem H0 : Cz Try.prog 75 3 3 = true := by kernel_rfl
theorem IV : Cz Try.prog 75 4 4 = true := by kernel_rfl
theorem FY : Cz Try.prog 75 5 5 = true := by kernel_rfl
theorem Uc : Cz Try.prog 84 0 0 = true := by kernel_rfl
theorem Uq : Cz Try.prog 84 1 1 = true := by kernel_rfl
theorem T7 : Cz Try.prog 84 2 2 = true := by kernel_rfl
theorem UA : Cz Try.prog 84 3 3 = true := by kernel_rfl
theorem UE : Cz Try.prog 84 4 4 = true := by kernel_rfl
theorem UJ : Cz Try.prog 84 5 5 = true := by kernel_rfl
theorem Pa : Cz Try.prog 92 0 0 = true := by kernel_rfl
theorem Wu : AQ Try.prog 100 = true := by kernel_rfl
theorem WX : AQ Try.prog 101 = true := by kernel_rfl
theorem U2 : AQ Try.prog 102 = true := by kernel_rfl
theorem WQ : AQ Try.prog 103 = true := by kernel_rfl
theorem Xd : AQ Try.prog 104 = true := by kernel_rfl
theorem WT : AQ Try.prog 105 = true := by kernel_rfl
theorem Wz : AQ Try.prog 106 = true := by kernel_rfl
theorem UO : AQ Try.prog 107 = true := by kernel_rfl
theorem Xx : AQ Try.prog 11 = true := by kernel_rfl
theorem WY : AQ Try.prog 110 = true := by kernel_rfl
theorem V4 : AQ Try.prog 111 = true := by kernel_rfl
theorem Wv : AQ Try.prog 112 = true := by kernel_rfl
theorem W3 : AQ Try.prog 113 = true := by kernel_rfl
theorem WV : AQ Try.prog 114 = true := by kernel_rfl
theorem Wc : AQ Try.prog 115 = true := by kernel_rfl
theorem Wb : AQ Try.prog 116 = true := by kernel_rfl
theorem UT : AQ Try.prog 119 = true := by kernel_rfl
theorem XZ : AQ Try.prog 12 = true := by kernel_rfl
theorem WL : AQ Try.prog 120 = true := by kernel_rfl
theorem Wg : AQ Try.prog 121 = true := by kernel_rfl
theorem W5 : AQ Try.prog 122 = true := by kernel_rfl
theorem Wk : AQ Try.prog 123 = true := by kernel_rfl
theorem UM : AQ Try.prog 13 = true := by kernel_rfl
theorem WN : AQ Try.prog 15 = true := by kernel_rfl
theorem Xn : AQ Try.prog 16 = true := by kernel_rfl
theorem W8 : AQ Try.prog 19 = true := by kernel_rfl
theorem Xz : AQ Try.prog 21 = true := by kernel_rfl
theorem XC : AQ Try.prog 22 = true := by kernel_rfl
theorem XK : AQ Try.prog 24 = true := by kernel_rfl
theorem Wd : AQ Try.prog 25 = true := by kernel_rfl
theorem XJ : AQ Try.prog 26 = true := by kernel_rfl
theorem W7 : AQ Try.prog 27 = true := by kernel_rfl
theorem WG : AQ Try.prog 29 = true := by kernel_rfl
theorem Vx : AQ Try.prog 30 = true := by kernel_rfl
theorem WR : AQ Try.prog 33 = true := by kernel_rfl
theorem TC : AQ Try.prog 35 = true := by kernel_rfl
theorem XD : AQ Try.prog 36 = true := by kernel_rfl
theorem W1 : AQ Try.prog 37 = true := by kernel_rfl
theorem Vp : AQ Try.prog 38 = true := by kernel_rfl
theorem Xa : AQ Try.prog 39 = true := by kernel_rfl
theorem WI : AQ Try.prog 40 = true := by kernel_rfl
theorem XY : AQ Try.prog 41 = true := by kernel_rfl
theorem XU : AQ Try.prog 44 = true := by kernel_rfl
theorem Wl : AQ Try.prog 45 = true := by kernel_rfl
theorem O1 : AQ Try.prog 46 = true := by kernel_rfl
theorem WA : AQ Try.prog 47 = true := by kernel_rfl
theorem SB : AQ Try.prog 49 = true := by kernel_rfl
theorem X3 : AQ Try.prog 50 = true := by kernel_rfl
theorem XP : AQ Try.prog 51 = true := by kernel_rfl
theorem X8 : AQ Try.prog 52 = true := by kernel_rfl
theorem XQ : AQ Try.prog 53 = true := by kernel_rfl
theorem WH : AQ Try.prog 54 = true := by kernel_rfl
theorem X1 : AQ Try.prog 55 = true := by kernel_rfl
theorem XL : AQ Try.prog 56 = true := by kernel_rfl
theorem XE : AQ Try.prog 57 = true := by kernel_rfl
theorem XV : AQ Try.prog 58 = true := by kernel_rfl
theorem Uf : AQ Try.prog 60 = true := by kernel_rfl
theorem Wi : AQ Try.prog 61 = true := by kernel_rfl
theorem Xp : AQ Try.prog 64 = true := by kernel_rfl
theorem XX : AQ Try.prog 65 = true := by kernel_rfl
theorem XA : AQ Try.prog 66 = true := by kernel_rfl
theorem Tz : AQ Try.prog 72 = true := by kernel_rfl
theorem X2 : AQ Try.prog 73 = true := by kernel_rfl
theorem Vq : AQ Try.prog 74 = true := by kernel_rfl
theorem XF : AQ Try.prog 75 = true := by kernel_rfl
theorem X6 : AQ Try.prog 76 = true := by kernel_rfl
theorem T6 : AQ Try.prog 77 = true := by kernel_rfl
theorem XM : AQ Try.prog 78 = true := by kernel_rfl
theorem XS : AQ Try.prog 79 = true := by kernel_rfl
theorem Xo : AQ Try.prog 80 = true := by kernel_rfl
theorem Xr : AQ Try.prog 82 = true := by kernel_rfl
theorem VS : AQ Try.prog 83 = true := by kernel_rfl
theorem V3 : AQ Try.prog 84 = true := by kernel_rfl
theorem Xu : AQ Try.prog 85 = true := by kernel_rfl
theorem W2 : AQ Try.prog 86 = true := by kernel_rfl
theorem XB : AQ Try.prog 87 = true := by kernel_rfl
theorem Xy : AQ Try.prog 88 = true := by kernel_rfl
theorem T5 : AQ Try.prog 89 = true := by kernel_rfl
theorem X7 : AQ Try.prog 90 = true := by kernel_rfl
theorem WZ : AQ Try.prog 91 = true := by kernel_rfl
theorem Xs : AQ Try.prog 92 = true := by kernel_rfl
theorem Xt : AQ Try.prog 93 = true := by kernel_rfl
theorem XO : AQ Try.prog 97 = true := by kernel_rfl
theorem WB : AQ Try.prog 98 = true := by kernel_rfl
theorem Vu : AQ Try.prog 99 = true := by kernel_rfl
theorem Ru : Nk Try.prog 133 .u64 = true := by kernel_rfl
theorem Rl : Nk Try.prog 143 .u32 = true := by kernel_rfl
theorem U7 : Nk Try.prog 146 .u64 = true := by kernel_rfl
theorem T4 : Nk Try.prog 3 .i64 = true := by kernel_rfl
theorem X9 : Nk Try.prog 5 .u8 = true := by kernel_rfl
theorem VF : Try.prog.underlying 9 = some .string := by kernel_rfl
theorem O0 : Try.prog.underlying 125 = some (.map 9 3) := by kernel_rfl
theorem UP : GN Try.prog 101 = some [(0, 3), (3, 1), (4, 3), (7, 1)] := by kernel_rfl
theorem V5 : GN Try.prog 30 = some [(0, 1), (1, 1), (2, 1), (3, 1)] := by kernel_rfl
theorem GA : GN Try.prog 43 = some [(0, 1), (1, 1), (2, 1)] := by kernel_rfl
theorem MA : GN Try.prog 45 = some [(0, 1), (1, 1), (2, 1)] := by kernel_rfl
theorem Pb : GN Try.prog 63 = some [(0, 1), (1, 1), (2, 1)] := by kernel_rfl
theorem Wt : GN Try.prog 75 = some [(0, 1), (1, 1), (2, 1), (3, 1), (4, 1), (5, 1)] := by kernel_rfl
theorem Wa : GN Try.prog 92 = some [(0, 3), (3, 1), (4, 3)] := by kernel_rfl
theorem Wy : R6 Try.prog 45 = some [0, 0, 0] := by kernel_rfl
theorem We : R6 Try.prog 63 = some [0, 0, 0] := by kernel_rfl
theorem F4 : sliceB Try.prog 118 45 = true := by kernel_rfl
theorem I4 : sliceB Try.prog 22 5 = true := by kernel_rfl
theorem Ta : sliceB Try.prog 23 84 = true := by kernel_rfl
theorem AG : sliceB Try.prog 27 3 = true := by kernel_rfl
theorem DT : sliceB Try.prog 28 75 = true := by kernel_rfl
theorem CE : sliceB Try.prog 33 63 = true := by kernel_rfl
theorem Dp : sliceB Try.prog 41 87 = true := by kernel_rfl
theorem Kc : sliceB Try.prog 55 92 = true := by kernel_rfl
theorem FE : sliceB Try.prog 73 76 = true := by kernel_rfl
theorem FO : sliceB Try.prog 76 4 = true := by kernel_rfl
theorem Kh : sliceB Try.prog 89 43 = true := by kernel_rfl
theorem Hh : sliceB Try.prog 96 101 = true := by kernel_rfl
theorem SN : (Try.prog.underlying 133).isSome = true := by kernel_rfl
theorem Ry : (Try.prog.underlying 143).isSome = true := by kernel_rfl
theorem U5 : (Try.prog.underlying 146).isSome = true := by kernel_rfl
theorem Xg : (Try.prog.underlying 3).isSome = true := by kernel_rfl
theorem Vs : (Try.prog.underlying 5).isSome = true := by kernel_rfl
theorem XI : (Try.prog.underlying 87).isSome = true := by kernel_rfl
theorem Ws : N2 Try.prog 9 = true := by kernel_rfl
theorem I2 : Gn Try.prog 101 8 = true := by kernel_rfl
theorem W0 : Gn Try.prog 25 4 = true := by kernel_rfl
theorem RI : Gn Try.prog 27 1 = true := by kernel_rfl
theorem Xq : Gn Try.prog 28 1 = true := by kernel_rfl
theorem Dh : Gn Try.prog 3 1 = true := by kernel_rfl
theorem Di : Gn Try.prog 30 4 = true := by kernel_rfl
theorem Pt : Gn Try.prog 4 1 = true := by kernel_rfl
theorem Xv : Gn Try.prog 41 1 = true := by kernel_rfl
theorem AU : Gn Try.prog 43 3 = true := by kernel_rfl
theorem Fm : Gn Try.prog 45 3 = true := by kernel_rfl
theorem VE : Gn Try.prog 5 1 = true := by kernel_rfl
theorem C7 : Gn Try.prog 63 3 = true := by kernel_rfl
theorem Xf : Gn Try.prog 73 1 = true := by kernel_rfl
theorem DL : Gn Try.prog 75 6 = true := by kernel_rfl
theorem L4 : Gn Try.prog 76 1 = true := by kernel_rfl
theorem Vw : Gn Try.prog 84 6 = true := by kernel_rfl
theorem Fn : Gn Try.prog 87 1 = true := by kernel_rfl
theorem RN : Gn Try.prog 92 7 = true := by kernel_rfl
theorem Pr : Ef Try.prog 101 = some (.agg #[.slice none 0 0, .slice none 0 0, .slice none 0 0, .int .i64 0, .int .i64 0, .int .i64 0, .int .i64 0, .slice none 0 0]) := by kernel_rfl
theorem Kd : Ef Try.prog 3 = some (.int .i64 0) := by kernel_rfl
theorem Qh : Ef Try.prog 30 = some (.agg #[.slice none 0 0, .slice none 0 0, .slice none 0 0, .slice none 0 0]) := by kernel_rfl
theorem Va : Ef Try.prog 4 = some (.bool false) := by kernel_rfl
theorem C8 : Ef Try.prog 43 = some (.agg #[.slice none 0 0, .slice none 0 0, .slice none 0 0]) := by kernel_rfl
theorem G6 : Ef Try.prog 45 = some (.agg #[.int .i64 0, .int .i64 0, .int .i64 0]) := by kernel_rfl
theorem V9 : Ef Try.prog 5 = some (.int .u8 0) := by kernel_rfl
theorem GE : Ef Try.prog 63 = some (.agg #[.int .i64 0, .int .i64 0, .int .i64 0]) := by kernel_rfl
theorem J5 : Ef Try.prog 75 = some (.agg #[.int .i64 0, .int .i64 0, .int .i64 0, .bool false, .slice none 0 0, .slice none 0 0]) := by kernel_rfl
theorem VV : Ef Try.prog 76 = some (.slice none 0 0) := by kernel_rfl
theorem X4 : Ef Try.prog 84 = some (.agg #[.int .u8 0, .int .u8 0, .int .u8 0, .bool false, .int .u16 0, .int .u16 0]) := by kernel_rfl
theorem Oo : Ef Try.prog 87 = some (.int .u8 0) := by kernel_rfl
theorem SY : Ef Try.prog 92 = some (.agg #[.slice none 0 0, .slice none 0 0, .slice none 0 0, .int .i64 0, .int .i64 0, .int .i64 0, .int .i64 0]) := by kernel_rfl
end Go.Lift

/- That the code does what the shallow programs do, function by function. Written by a program (gen.py). -/
namespace Go.Lift
open Go.RowKit
open Go.Proofs
set_option maxRecDepth 10000 in
theorem DP (N : Nat) (p0 : Bool) (p1 : Bool) (r : Ac) (h : CA N p0 p1 = some r) : AC Try.prog 35 [.e (.one (.pure (.val (.bool p0)))), .e (.one (.pure (.val (.bool p1))))] [(1, r.fVersions.map Ah), (1, r.fNow.map Ah), (1, r.fTarget.map Ah), (6, r.fTables.map Ai)] (.e (.agg [.own 0, .own 1, .own 2, .own 3])) := by
 unfold CA at h
 refine Ar (n := 19) (rs := [.cell 4 30]) Try.func35 rfl rfl rfl (BM rfl) (BM rfl) rfl fun w0 S0 => ?_
 refine Ab (Aa Ae rfl (qz Qh rfl (Ad (Ab (Aa Ae rfl (qm rfl (qm rfl (CG rfl (En FO Pt Va rfl (En FO Pt Va rfl (DK (BL 9 _ _ rfl rfl) (DK (BL 10 _ _ rfl rfl) (En FE L4 VV rfl (A4 J5 Wt rfl (qz J5 rfl (qs DL rfl (Ad (Ab (Aa Ae rfl (En AG Dh Kd rfl (En AG Dh Kd rfl (En AG Dh Kd rfl (qL Gw DL rfl (DK (BL 11 _ _ rfl rfl) (En DT DL J5 rfl (A4 Qh V5 rfl (qs Di rfl (Ad ?_))))))))))))))))))))))))))))
 obtain rfl := sj h
 refine Al (sm [(1000, 13), (1001, 14), (1002, 15), (1003, 17)] [(4, .e (.one (.ptr 4 0)))] [(4, .box [.own 1000, .own 1001, .own 1002, .own 1003]), (1000, .vec 1 ((([2, 2] : List Int)).map Ah)), (1001, .vec 1 ((([0, 0] : List Int)).map Ah)), (1002, .vec 1 ((([1, 1] : List Int)).map Ah)), (1003, .vec 6 ((([(AE.mk 1 0 1 p1 (([([true, (!p0)] : List Bool), ([false, true] : List Bool)] : List (List Bool))) (([] : List (List Bool))))] : List AE)).map Ai))] rfl rfl) (AF ?_)
 exact ⟨⟨[_], ⟨.cellN _ _ _ _ _ _ _ rfl rfl DQ Di rfl rfl (Hc rfl), trivial⟩, rfl⟩, ⟨rfl, rfl, rfl, rfl, trivial⟩⟩
set_option maxRecDepth 10000 in
theorem Gs (N : Nat) (p0 : Int) (p1 : Int) (r : Bool) (h : DG N p0 p1 = some r) : AC Try.prog 89 [.e (.one (.pure (.val (.int .i64 p0)))), .e (.one (.pure (.val (.int .i64 p1))))] [] (.e (.one (.pure (.val (.bool r))))) := by
 unfold DG at h
 refine Ar (n := 12) (rs := [.tmp 4]) Try.func89 rfl rfl rfl (BM rfl) (BM rfl) rfl fun w0 S0 => ?_
 refine Ab (Aa Ae rfl (qa rfl (Ad ?_)))
 refine AX h (fun v1 => mk [(4, .e (.one (.pure (.val (.bool v1)))))] []) (fun j1 h => ?_) (fun v1 h => ?_)
 ·refine Aa Ae rfl (qm rfl (EO rfl (qm rfl ?_)))
  refine AI (t := 7) rfl (fun c2 => ?_) (fun c2 => ?_)
  ·have h := Ap c2 h
   refine qm rfl (qm rfl (A8 rfl (qp rfl (qa rfl (Ad ?_)))))
   exact Aw _ h (sm [] _ _ rfl rfl)
  ·have h := Aq c2 h
   refine qn rfl (qn rfl (qn rfl (qp rfl (qa rfl (Ad ?_)))))
   exact Aw _ h (sm [] _ _ rfl rfl)
 ·obtain rfl := sj h
  refine Al (sm [] [(4, .e (.one (.pure (.val (.bool v1)))))] [] rfl rfl) (AF ?_)
  exact ⟨⟨[_], ⟨.tmp _ _ rfl, trivial⟩, rfl⟩, trivial⟩
set_option maxRecDepth 10000 in
theorem Ol (N : Nat) (p0 : Int) (p1 : Bool) (r : Bool) (h : FL N p0 p1 = some r) : AC Try.prog 106 [.e (.one (.pure (.val (.int .i64 p0)))), .e (.one (.pure (.val (.bool p1))))] [] (.e (.one (.pure (.val (.bool r))))) := by
 unfold FL at h
 refine Ar (n := 23) (rs := [.tmp 4]) Try.func106 rfl rfl rfl (BM rfl) (BM rfl) rfl fun w0 S0 => ?_
 refine Ab (Aa Ae rfl (qa rfl (Ad ?_)))
 refine AX h (fun v1 => mk [(4, .e (.one (.pure (.val (.bool v1)))))] []) (fun j1 h => ?_) (fun v1 h => ?_)
 ·refine Aa Ae rfl (qm rfl (B0 rfl (qm rfl ?_)))
  refine AI (t := 7) rfl (fun c2 => ?_) (fun c2 => ?_)
  ·have h := Ap c2 h
   refine qn rfl (qn rfl (qp rfl (qm rfl (qn rfl (qn rfl (qn rfl (qu rfl (qu rfl (qn rfl (qn rfl (qu rfl (qu rfl (qn rfl (qp rfl (qa rfl (Ad ?_))))))))))))))))
   exact Aw _ h (sm [] _ _ rfl rfl)
  ·have h := Aq c2 h
   refine qm rfl (B0 rfl (qp rfl (qm rfl ?_)))
   refine AI (t := 11) rfl (fun c3 => ?_) (fun c3 => ?_)
   ·have h := Ap c3 h
    refine qn rfl (qn rfl (qn rfl (qu rfl (qu rfl (qn rfl (qn rfl (qu rfl (qu rfl (qn rfl (qp rfl (qa rfl (Ad ?_))))))))))))
    exact Aw _ h (sm [] _ _ rfl rfl)
   ·have h := Aq c3 h
    refine qm rfl (B0 rfl (qm rfl ?_))
    refine AI (t := 14) rfl (fun c4 => ?_) (fun c4 => ?_)
    ·have h := Ap c4 h
     refine qn rfl (qn rfl (qp rfl (qm rfl (qm rfl (CG rfl (qp rfl (qp rfl (qa rfl (Ad ?_)))))))))
     exact Aw _ h (sm [] _ _ rfl rfl)
    ·have h := Aq c4 h
     refine qm rfl (B0 rfl (qp rfl (qm rfl ?_)))
     refine AI (t := 18) rfl (fun c5 => ?_) (fun c5 => ?_)
     ·have h := Ap c5 h
      refine qm rfl (CG rfl (qp rfl (qp rfl (qa rfl (Ad ?_)))))
      exact Aw _ h (sm [] _ _ rfl rfl)
     ·have h := Aq c5 h
      refine qn rfl (qn rfl (qp rfl (qp rfl (qa rfl (Ad ?_)))))
      exact Aw _ h (sm [] _ _ rfl rfl)
 ·obtain rfl := sj h
  refine Al (sm [] [(4, .e (.one (.pure (.val (.bool v1)))))] [] rfl rfl) (AF ?_)
  exact ⟨⟨[_], ⟨.tmp _ _ rfl, trivial⟩, rfl⟩, trivial⟩
set_option maxRecDepth 10000 in
theorem Lt (N : Nat) (p0 : List Bool) (p1 : Int) (r : Bool) (h : Dz N p0 p1 = some r) : AC Try.prog 116 [.e (.one (.pure (.sl (p0.map eB)))), .e (.one (.rop [.val (.int .i64 p1)]))] [] (.e (.one (.pure (.val (.bool r))))) := by
 unfold Dz at h
 refine Ar (n := 8) (rs := [.tmp 3]) Try.func116 rfl rfl rfl (BM rfl) (BM rfl) rfl fun w0 S0 => ?_
 refine Ab (Aa Ae rfl (qa rfl (Ad (Ab (Aa Ae rfl (qm rfl (AS FO rfl (qk Ch rfl (CB rfl (qa rfl (Ad ?_)))))))))))
 obtain rfl := sj h
 refine Al (sm [] [(3, .e (.one (.pure (.val (.bool (((p0.length : Int) != p1)))))))] [] rfl rfl) (AF ?_)
 exact ⟨⟨[_], ⟨.tmp _ _ rfl, trivial⟩, rfl⟩, trivial⟩
set_option maxRecDepth 10000 in
theorem He (N : Nat) (p0 : List (List Bool)) (p1 : (List Bool) → Option Bool) (r : Int) (h : C4 N p0 p1 = some r) : AC Try.prog 122 [.e (.one (.pure (.sl (p0.map (Eo eB))))), .e (.one (.clo (Ig (L8 false (Eo eB)) tB p1)))] [] (.e (.one (.pure (.val (.int .i64 r))))) := by
 unfold C4 at h
 refine Ar (n := 19) (rs := [.tmp 4]) Try.func122 rfl rfl rfl (BM rfl) (BM rfl) rfl fun w0 S0 => ?_
 refine Ab (Aa Ae rfl (qa rfl (Ad (Ab (Ab (Aa Ae rfl (qm rfl (AS FE rfl (qm rfl (Ad ?_))))))))))
 refine AR (L := Bm N p0 p1) h (fun v1 => mk [(0, .e (.one (.pure (.sl (p0.map (Eo eB)))))), (1, .e (.one (.clo (Ig (L8 false (Eo eB)) tB p1)))), (7, .e (.one (.pure (.val (.int .i64 ((p0.length : Int))))))), (8, .e (.one (.pure (.val (.int .i64 v1)))))] []) (fun v2 => mk [] []) (fun _ _ => rfl) (sm [] _ _ rfl rfl) (fun j1 n1 v1 h => ?_) (fun v2 s h hs => ?_)
 ·unfold Bm at h
  refine Ab (Aa Ae rfl (A8 rfl (Ad (Ab ?_))))
  refine As rfl (fun c3 => ?_) (fun c3 => ?_)
  ·have h := Ap c3 h
   refine Av (Ab (AW (Ab (Aa Ae rfl (qm rfl (qa rfl (Ad (Ab (Aa Ae rfl (qm rfl (qm rfl (qm rfl ?_))))))))))))
   obtain ⟨v4, a4, b4, h⟩ := Am h
   refine qi FE L4 a4 (Ak b4) rfl (qk OJ rfl ?_)
   obtain ⟨v5, a5, h⟩ := bind_some h
   refine KD (ds0 := [_]) (ar := (L8 false (Eo eB)) v4) (.p rfl) rfl rfl ⟨rfl, trivial⟩ rfl rfl rfl (KK (Lb _ _ (Wo XR)) a5) ?_
   refine Ad ?_
   refine As rfl (fun c6 => ?_) (fun c6 => ?_)
   ·have h := Ap c6 h
    refine Ab (Aa Ae rfl (qm rfl (qa rfl (Ad ?_))))
    obtain rfl := sj h
    refine Al (sm [] [(4, .e (.one (.pure (.val (.int .i64 v1)))))] [] rfl rfl) (AF ?_)
    exact ⟨⟨[_], ⟨.tmp _ _ rfl, trivial⟩, rfl⟩, trivial⟩
   ·have h := Aq c6 h
    refine Av (Aa Ae rfl (Bn rfl (qm rfl (Ad ?_))))
    exact Aw _ h (sm [] _ _ rfl rfl)
  ·have h := Aq c3 h
   refine A6 ?_
   exact Aw _ h (sm [] _ _ rfl rfl)
 ·refine Al hs (Ab (Aa Ae rfl (qa rfl (Ad ?_))))
  obtain rfl := sj h
  refine Al (sm [] [(4, .e (.one (.pure (.val (.int .i64 ((-1)))))))] [] rfl rfl) (AF ?_)
  exact ⟨⟨[_], ⟨.tmp _ _ rfl, trivial⟩, rfl⟩, trivial⟩
set_option maxRecDepth 10000 in
theorem Gy (N : Nat) (p0 : List (List Bool)) (p1 : (List Bool) → Option Bool) (r : Bool) (h : CI N p0 p1 = some r) : AC Try.prog 115 [.e (.one (.pure (.sl (p0.map (Eo eB))))), .e (.one (.clo (Ig (L8 false (Eo eB)) tB p1)))] [] (.e (.one (.pure (.val (.bool r))))) := by
 unfold CI at h
 refine Ar (n := 9) (rs := [.tmp 4]) Try.func115 rfl rfl rfl (BM rfl) (BM rfl) rfl fun w0 S0 => ?_
 refine Ab (Aa Ae rfl (qa rfl (Ad (Ab (Aa Ae rfl (qm rfl (qm rfl ?_)))))))
 obtain ⟨v1, a1, h⟩ := bind_some h
 refine AM [] (He N p0 p1 v1 a1) W5 rfl (EO rfl (qa rfl (Ad ?_)))
 obtain rfl := sj h
 refine Al (sm [] [(4, .e (.one (.pure (.val (.bool ((decide (0 ≤ v1))))))))] [] rfl rfl) (AF ?_)
 exact ⟨⟨[_], ⟨.tmp _ _ rfl, trivial⟩, rfl⟩, trivial⟩
set_option maxRecDepth 10000 in
theorem JJ (N : Nat) (p0 : List (List Bool)) (p1 : Int) (p2 : Int) (r : Bool) (h : EA N p0 p1 p2 = some r) : AC Try.prog 107 [.e (.one (.pure (.sl (p0.map (Eo eB))))), .e (.one (.pure (.val (.int .i64 p1)))), .e (.one (.pure (.val (.int .i64 p2))))] [] (.e (.one (.pure (.val (.bool r))))) := by
 unfold EA at h
 refine Ar (n := 17) (rs := [.tmp 6]) Try.func107 rfl rfl rfl (BM rfl) (BM rfl) rfl fun w0 S0 => ?_
 refine Ab (Aa Ae rfl (qb rfl (qa rfl (Ad ?_))))
 refine AX h (fun v1 => mk [(6, .e (.one (.pure (.val (.bool v1)))))] []) (fun j1 h => ?_) (fun v1 h => ?_)
 ·refine Aa Ae rfl (qm rfl (AS FE rfl (qm rfl (B0 rfl (qm rfl ?_)))))
  refine AI (t := 11) rfl (fun c2 => ?_) (fun c2 => ?_)
  ·have h := Ap c2 h
   refine qm rfl (DK (Lj 5 [.val (.int .i64 p2)] rfl rfl) ?_)
   refine Km (capD := [_]) (Ig (L8 false (Eo eB)) tB ((fun (x : List Bool) => Dz N x p2))) (.g rfl rfl) Wb rfl ⟨rfl, trivial⟩ rfl (fun ar t ht => by obtain ⟨x, r, rfl, hq, rfl⟩ := JQ ht; exact Lt N x p2 r hq) ?_
   obtain ⟨v3, a3, h⟩ := bind_some h
   refine AM [] (Gy N p0 ((fun (x : List Bool) => Dz N x p2)) v3 a3) Wc rfl (CG rfl (qp rfl (qa rfl (Ad ?_))))
   exact Aw _ h (sm [] _ _ rfl rfl)
  ·have h := Aq c2 h
   refine qn rfl (qn rfl (qn rfl (qn rfl (qp rfl (qa rfl (Ad ?_))))))
   exact Aw _ h (sm [] _ _ rfl rfl)
 ·obtain rfl := sj h
  refine Al (sm [] [(6, .e (.one (.pure (.val (.bool v1)))))] [] rfl rfl) (AF ?_)
  exact ⟨⟨[_], ⟨.tmp _ _ rfl, trivial⟩, rfl⟩, trivial⟩
set_option maxRecDepth 10000 in
theorem Nq (N : Nat) (p0 : Ac) (p1 : AE) (r : Int) (h : Fo N p0 p1 = some r) : AC Try.prog 90 [.e (.agg [.pure (.sl (p0.fVersions.map Ah)), .pure (.sl (p0.fNow.map Ah)), .pure (.sl (p0.fTarget.map Ah)), .pure (.sl (p0.fTables.map Ai))]), .e (.agg [.pure (.val (.int .i64 p1.fKind)), .pure (.val (.int .i64 p1.fFrom)), .pure (.val (.int .i64 p1.fTo)), .pure (.val (.bool p1.fAware)), .pure (.sl (p1.fOK.map (Eo eB))), .pure (.sl (p1.fRewrite.map (Eo eB)))])] [] (.e (.one (.pure (.val (.int .i64 r))))) := by
 unfold Fo at h
 refine Ar (n := 87) (rs := [.tmp 4]) Try.func90 rfl rfl rfl (BM rfl) (BM rfl) rfl fun w0 S0 => ?_
 refine Ab (Aa Ae rfl (qb rfl (qb rfl (qa rfl (Ad (Ab (Ab (Aa Ae rfl (qf Fj rfl (ql Ch rfl (qf H0 rfl (ql Q5 rfl ?_))))))))))))
 obtain ⟨v1, a1, h⟩ := bind_some h
 refine AM [] (Ol N p1.fKind p1.fAware v1 a1) Wz rfl (CG rfl (Ad ?_))
 refine As rfl (fun c2 => ?_) (fun c2 => ?_)
 ·have h := Ap c2 h
  refine Ab (Aa Ae rfl (qa rfl (Ad ?_)))
  obtain rfl := sj h
  refine Al (sm [] [(4, .e (.one (.pure (.val (.int .i64 1)))))] [] rfl rfl) (AF ?_)
  exact ⟨⟨[_], ⟨.tmp _ _ rfl, trivial⟩, rfl⟩, trivial⟩
 ·have h := Aq c2 h
  refine Av (Ab ?_)
  refine AX h (fun v3 => mk [(2, .e (.one (.ptr 2 0))), (3, .e (.one (.ptr 3 0))), (29, .e (.one (.pure (.val (.bool v3)))))] [(2, .box [.pure (.sl (p0.fVersions.map Ah)), .pure (.sl (p0.fNow.map Ah)), .pure (.sl (p0.fTarget.map Ah)), .pure (.sl (p0.fTables.map Ai))]), (3, .box [.pure (.val (.int .i64 p1.fKind)), .pure (.val (.int .i64 p1.fFrom)), .pure (.val (.int .i64 p1.fTo)), .pure (.val (.bool p1.fAware)), .pure (.sl (p1.fOK.map (Eo eB))), .pure (.sl (p1.fRewrite.map (Eo eB)))])]) (fun j3 h => ?_) (fun v3 h => ?_)
  ·refine Aa Ae rfl (qf CU rfl (ql Ch rfl (qf Bs rfl (ql A9 rfl (AS AG rfl ?_)))))
   obtain ⟨v4, a4, h⟩ := bind_some h
   refine AM [] (Gs N p1.fFrom ((p0.fVersions.length : Int)) v4 a4) T5 rfl (CG rfl (qm rfl ?_))
   refine AI (t := 21) rfl (fun c5 => ?_) (fun c5 => ?_)
   ·have h := Ap c5 h
    refine qn rfl (qn rfl (qn rfl (qn rfl (qn rfl (qn rfl (qn rfl (qp rfl (Ad ?_))))))))
    exact Aw _ h (sm [] _ _ rfl rfl)
   ·have h := Aq c5 h
    refine qf Ho rfl (ql Ch rfl (qf Bs rfl (ql A9 rfl (AS AG rfl ?_))))
    obtain ⟨v6, a6, h⟩ := bind_some h
    refine AM [] (Gs N p1.fTo ((p0.fVersions.length : Int)) v6 a6) T5 rfl (CG rfl (qp rfl (Ad ?_)))
    exact Aw _ h (sm [] _ _ rfl rfl)
  ·refine As rfl (fun c7 => ?_) (fun c7 => ?_)
   ·have h := Ap c7 h
    refine Ab (Aa Ae rfl (qa rfl (Ad ?_)))
    obtain rfl := sj h
    refine Al (sm [] [(4, .e (.one (.pure (.val (.int .i64 4)))))] [] rfl rfl) (AF ?_)
    exact ⟨⟨[_], ⟨.tmp _ _ rfl, trivial⟩, rfl⟩, trivial⟩
   ·have h := Aq c7 h
    refine Av (Ab (Aa Ae rfl (qf Bs rfl (ql A9 rfl (qf CU rfl (ql Ch rfl ?_))))))
    obtain ⟨v8, a8, b8, h⟩ := Am h
    refine qi AG Dh a8 (Ak b8) rfl (qk Ch rfl (qa rfl (Ad (Ab (Aa Ae rfl (qf Fj rfl (ql Ch rfl (B0 rfl (qa rfl (Ad (Ab ?_)))))))))))
    refine AX h (fun v9 => mk [(3, .e (.one (.ptr 3 0))), (70, .e (.one (.pure (.val (.bool v9)))))] [(3, .box [.pure (.val (.int .i64 p1.fKind)), .pure (.val (.int .i64 p1.fFrom)), .pure (.val (.int .i64 p1.fTo)), .pure (.val (.bool p1.fAware)), .pure (.sl (p1.fOK.map (Eo eB))), .pure (.sl (p1.fRewrite.map (Eo eB)))])]) (fun j9 h => ?_) (fun v9 h => ?_)
    ·refine Aa Ae rfl (qf IV rfl (ql I9 rfl (qm rfl (qf Bs rfl (ql A9 rfl (qf Ho rfl (ql Ch rfl ?_)))))))
     obtain ⟨v10, a10, b10, h⟩ := Am h
     refine qi AG Dh a10 (Ak b10) rfl (qk Ch rfl ?_)
     obtain ⟨v11, a11, h⟩ := bind_some h
     refine AM [] (JJ N p1.fOK v8 v10 v11 a11) UO rfl (CG rfl (qm rfl ?_))
     refine AI (t := 50) rfl (fun c12 => ?_) (fun c12 => ?_)
     ·have h := Ap c12 h
      refine qn rfl (qn rfl (qu rfl (qu rfl (qu rfl (qu rfl (qu rfl (qu rfl (qn rfl (qp rfl (qm rfl (qn rfl (qn rfl (qn rfl (qu rfl (qu rfl (qu rfl (qu rfl (qn rfl (qp rfl (A0 (by kernel_rfl) ?_))))))))))))))))))))
      exact Aw _ h (sm [] _ _ rfl rfl)
     ·have h := Aq c12 h
      refine qm rfl (qm rfl ?_)
      refine AI (t := 52) rfl (fun c13 => ?_) (fun c13 => ?_)
      ·have h := Ap c13 h
       refine qf FY rfl (ql I9 rfl (qm rfl (qm rfl ?_)))
       obtain ⟨v14, a14, h⟩ := bind_some h
       refine AM [] (JJ N p1.fRewrite v8 v8 v14 a14) UO rfl (CG rfl (qp rfl (qp rfl (qm rfl ?_))))
       refine AI (t := 61) rfl (fun c15 => ?_) (fun c15 => ?_)
       ·have h := Ap c15 h
        refine qn rfl (qn rfl (qn rfl (qu rfl (qu rfl (qu rfl (qu rfl (qn rfl (qp rfl (A0 (by kernel_rfl) ?_)))))))))
        exact Aw _ h (sm [] _ _ rfl rfl)
       ·have h := Aq c15 h
        refine qm rfl (CG rfl (qm rfl ?_))
        refine AI (t := 64) rfl (fun c16 => ?_) (fun c16 => ?_)
        ·have h := Ap c16 h
         refine qf FY rfl (ql I9 rfl (AS FE rfl (Gd rfl (qp rfl (qp rfl (A0 (by kernel_rfl) ?_))))))
         exact Aw _ h (sm [] _ _ rfl rfl)
        ·have h := Aq c16 h
         refine qn rfl (qn rfl (qn rfl (qn rfl (qp rfl (qp rfl (A0 (by kernel_rfl) ?_))))))
         exact Aw _ h (sm [] _ _ rfl rfl)
      ·have h := Aq c13 h
       refine qn rfl (qn rfl (qn rfl (qn rfl (qn rfl (qn rfl (qp rfl (qp rfl (qm rfl (qm rfl (CG rfl (qm rfl ?_)))))))))))
       refine AI (t := 64) rfl (fun c17 => ?_) (fun c17 => ?_)
       ·have h := Ap c17 h
        refine qf FY rfl (ql I9 rfl (AS FE rfl (Gd rfl (qp rfl (qp rfl (A0 (by kernel_rfl) ?_))))))
        exact Aw _ h (sm [] _ _ rfl rfl)
       ·have h := Aq c17 h
        refine qn rfl (qn rfl (qn rfl (qn rfl (qp rfl (qp rfl (A0 (by kernel_rfl) ?_))))))
        exact Aw _ h (sm [] _ _ rfl rfl)
    ·refine As rfl (fun c18 => ?_) (fun c18 => ?_)
     ·have h := Ap c18 h
      refine Ab (Aa Ae rfl (qa rfl (Ad ?_)))
      obtain rfl := sj h
      refine Al (sm [] [(4, .e (.one (.pure (.val (.int .i64 6)))))] [] rfl rfl) (AF ?_)
      exact ⟨⟨[_], ⟨.tmp _ _ rfl, trivial⟩, rfl⟩, trivial⟩
     ·have h := Aq c18 h
      refine Av (Ab (Ab (Aa Ae rfl (qf FY rfl (ql I9 rfl (AS FE rfl (qm rfl (Ad ?_))))))))
      refine AR (L := CS N p1) h (fun v19 => mk [(3, .e (.one (.ptr 3 0))), (73, .e (.one (.pure (.val (.int .i64 ((p1.fRewrite.length : Int))))))), (74, .e (.one (.pure (.val (.int .i64 v19)))))] [(3, .box [.pure (.val (.int .i64 p1.fKind)), .pure (.val (.int .i64 p1.fFrom)), .pure (.val (.int .i64 p1.fTo)), .pure (.val (.bool p1.fAware)), .pure (.sl (p1.fOK.map (Eo eB))), .pure (.sl (p1.fRewrite.map (Eo eB)))])]) (fun v20 => mk [] []) (fun _ _ => rfl) (sm [] _ _ rfl rfl) (fun j19 n19 v19 h => ?_) (fun v20 s h hs => ?_)
      ·unfold CS at h
       refine Ab (Aa Ae rfl (A8 rfl (Ad (Ab ?_))))
       refine As rfl (fun c21 => ?_) (fun c21 => ?_)
       ·have h := Ap c21 h
        refine Av (Ab (AW (Ab (Aa Ae rfl (qm rfl (qa rfl (Ad (Ab (Aa Ae rfl (qf FY rfl (ql I9 rfl (qm rfl ?_))))))))))))
        obtain ⟨v22, a22, b22, h⟩ := Am h
        refine qi FE L4 a22 (Ak b22) rfl (qk OJ rfl (qm rfl ?_))
        obtain ⟨v23, a23, b23, h⟩ := Am h
        refine qi FO Pt a23 (Ak b23) rfl (qk Q5 rfl (CG rfl (Ad ?_)))
        refine As rfl (fun c24 => ?_) (fun c24 => ?_)
        ·have h := Ap c24 h
         refine Ab (Aa Ae rfl (qa rfl (Ad ?_)))
         obtain rfl := sj h
         refine Al (sm [] [(4, .e (.one (.pure (.val (.int .i64 1)))))] [] rfl rfl) (AF ?_)
         exact ⟨⟨[_], ⟨.tmp _ _ rfl, trivial⟩, rfl⟩, trivial⟩
        ·have h := Aq c24 h
         refine Av (Aa Ae rfl (Bn rfl (qm rfl (Ad ?_))))
         exact Aw _ h (sm [] _ _ rfl rfl)
       ·have h := Aq c21 h
        refine A6 ?_
        exact Aw _ h (sm [] _ _ rfl rfl)
      ·refine Al hs (Ab (Aa Ae rfl (qa rfl (Ad ?_))))
       obtain rfl := sj h
       refine Al (sm [] [(4, .e (.one (.pure (.val (.int .i64 0)))))] [] rfl rfl) (AF ?_)
       exact ⟨⟨[_], ⟨.tmp _ _ rfl, trivial⟩, rfl⟩, trivial⟩
set_option maxRecDepth 10000 in
theorem G5 (N : Nat) (p0 : Ac) (r : Int) (h : C9 N p0 = some r) : AC Try.prog 61 [.e (.agg [.pure (.sl (p0.fVersions.map Ah)), .pure (.sl (p0.fNow.map Ah)), .pure (.sl (p0.fTarget.map Ah)), .pure (.sl (p0.fTables.map Ai))])] [] (.e (.one (.pure (.val (.int .i64 r))))) := by
 unfold C9 at h
 refine Ar (n := 81) (rs := [.tmp 2]) Try.func61 rfl rfl rfl (BM rfl) (BM rfl) rfl fun w0 S0 => ?_
 refine Ab (Aa Ae rfl (qb rfl (qa rfl (Ad (Ab (Aa Ae rfl (qf Bs rfl (ql A9 rfl (AS AG rfl (qa rfl (Ad (Ab ?_))))))))))))
 refine AX h (fun v1 => mk [(1, .e (.one (.ptr 1 0))), (3, .e (.one (.pure (.val (.int .i64 ((p0.fVersions.length : Int))))))), (19, .e (.one (.pure (.val (.bool v1)))))] [(1, .box [.pure (.sl (p0.fVersions.map Ah)), .pure (.sl (p0.fNow.map Ah)), .pure (.sl (p0.fTarget.map Ah)), .pure (.sl (p0.fTables.map Ai))])]) (fun j1 h => ?_) (fun v1 h => ?_)
 ·refine Aa Ae rfl (qm rfl (Gd rfl (qm rfl ?_)))
  refine AI (t := 14) rfl (fun c2 => ?_) (fun c2 => ?_)
  ·have h := Ap c2 h
   refine qn rfl (qn rfl (qn rfl (qn rfl (qp rfl (Ad ?_)))))
   exact Aw _ h (sm [] _ _ rfl rfl)
  ·have h := Aq c2 h
   refine qf CC rfl (ql Gl rfl (AS DT rfl (Gd rfl (qp rfl (Ad ?_)))))
   exact Aw _ h (sm [] _ _ rfl rfl)
 ·refine As rfl (fun c3 => ?_) (fun c3 => ?_)
  ·have h := Ap c3 h
   refine Ab (Aa Ae rfl (qa rfl (Ad ?_)))
   obtain rfl := sj h
   refine Al (sm [] [(2, .e (.one (.pure (.val (.int .i64 3)))))] [] rfl rfl) (AF ?_)
   exact ⟨⟨[_], ⟨.tmp _ _ rfl, trivial⟩, rfl⟩, trivial⟩
  ·have h := Aq c3 h
   refine Av (Ab ?_)
   refine AX h (fun v4 => mk [(1, .e (.one (.ptr 1 0))), (31, .e (.one (.pure (.val (.bool v4)))))] [(1, .box [.pure (.sl (p0.fVersions.map Ah)), .pure (.sl (p0.fNow.map Ah)), .pure (.sl (p0.fTarget.map Ah)), .pure (.sl (p0.fTables.map Ai))])]) (fun j4 h => ?_) (fun v4 h => ?_)
   ·refine Aa Ae rfl (qf FW rfl (ql A9 rfl (AS AG rfl (qm rfl (CB rfl (qm rfl ?_))))))
    refine AI (t := 25) rfl (fun c5 => ?_) (fun c5 => ?_)
    ·have h := Ap c5 h
     refine qn rfl (qn rfl (qn rfl (qn rfl (qn rfl (qp rfl (Ad ?_))))))
     exact Aw _ h (sm [] _ _ rfl rfl)
    ·have h := Aq c5 h
     refine qf HV rfl (ql A9 rfl (AS AG rfl (qm rfl (CB rfl (qp rfl (Ad ?_))))))
     exact Aw _ h (sm [] _ _ rfl rfl)
   ·refine As rfl (fun c6 => ?_) (fun c6 => ?_)
    ·have h := Ap c6 h
     refine Ab (Aa Ae rfl (qa rfl (Ad ?_)))
     obtain rfl := sj h
     refine Al (sm [] [(2, .e (.one (.pure (.val (.int .i64 6)))))] [] rfl rfl) (AF ?_)
     exact ⟨⟨[_], ⟨.tmp _ _ rfl, trivial⟩, rfl⟩, trivial⟩
    ·have h := Aq c6 h
     refine Av (Ab (Ab (Aa Ae rfl (qf Bs rfl (ql A9 rfl (AS AG rfl (qm rfl (Ad ?_))))))))
     refine AR (L := BT N p0) h (fun v7 => mk [(1, .e (.one (.ptr 1 0))), (33, .e (.one (.pure (.sl (p0.fVersions.map Ah))))), (34, .e (.one (.pure (.val (.int .i64 ((p0.fVersions.length : Int))))))), (35, .e (.one (.pure (.val (.int .i64 v7)))))] [(1, .box [.pure (.sl (p0.fVersions.map Ah)), .pure (.sl (p0.fNow.map Ah)), .pure (.sl (p0.fTarget.map Ah)), .pure (.sl (p0.fTables.map Ai))])]) (fun v8 => mk [(1, .e (.one (.ptr 1 0)))] [(1, .box [.pure (.sl (p0.fVersions.map Ah)), .pure (.sl (p0.fNow.map Ah)), .pure (.sl (p0.fTarget.map Ah)), .pure (.sl (p0.fTables.map Ai))])]) (fun _ _ => rfl) (sm [] _ _ rfl rfl) (fun j7 n7 v7 h => ?_) (fun v8 s h hs => ?_)
     ·unfold BT at h
      refine Ab (Aa Ae rfl (A8 rfl (Ad (Ab ?_))))
      refine As rfl (fun c9 => ?_) (fun c9 => ?_)
      ·have h := Ap c9 h
       refine Av (Ab (AW (Ab (Aa Ae rfl (qm rfl ?_)))))
       obtain ⟨v10, a10, b10, h⟩ := Am h
       refine qi AG Dh a10 (Ak b10) rfl (qk Ch rfl (qa rfl (qa rfl (Ad ?_))))
       refine AX h (fun v11 => mk [(1, .e (.one (.ptr 1 0))), (33, .e (.one (.pure (.sl (p0.fVersions.map Ah))))), (34, .e (.one (.pure (.val (.int .i64 ((p0.fVersions.length : Int))))))), (35, .e (.one (.pure (.val (.int .i64 v7))))), (65, .e (.one (.pure (.val (.bool v11)))))] [(1, .box [.pure (.sl (p0.fVersions.map Ah)), .pure (.sl (p0.fNow.map Ah)), .pure (.sl (p0.fTarget.map Ah)), .pure (.sl (p0.fTables.map Ai))])]) (fun j11 h => ?_) (fun v11 h => ?_)
       ·refine Aa Ae rfl (qm rfl (A8 rfl (qm rfl ?_)))
        refine AI (t := 42) rfl (fun c12 => ?_) (fun c12 => ?_)
        ·have h := Ap c12 h
         refine qn rfl (qn rfl (qp rfl (qm rfl (qn rfl (qn rfl (qn rfl (qn rfl (qn rfl (qn rfl (qn rfl (qn rfl (qp rfl (qm rfl (qn rfl (qn rfl (qn rfl (qn rfl (qn rfl (qn rfl (qn rfl (qn rfl (qp rfl (Ad ?_)))))))))))))))))))))))
         exact Aw _ h (sm [] _ _ rfl rfl)
        ·have h := Aq c12 h
         refine qm rfl (Gd rfl (qp rfl (qm rfl ?_)))
         refine AI (t := 46) rfl (fun c13 => ?_) (fun c13 => ?_)
         ·have h := Ap c13 h
          refine qn rfl (qn rfl (qn rfl (qn rfl (qn rfl (qn rfl (qn rfl (qn rfl (qp rfl (qm rfl (qn rfl (qn rfl (qn rfl (qn rfl (qn rfl (qn rfl (qn rfl (qn rfl (qp rfl (Ad ?_)))))))))))))))))))
          exact Aw _ h (sm [] _ _ rfl rfl)
         ·have h := Aq c13 h
          refine qf FW rfl (ql A9 rfl (qm rfl ?_))
          obtain ⟨v14, a14, b14, h⟩ := Am h
          refine qi AG Dh a14 (Ak b14) rfl (qk Ch rfl (qm rfl ?_))
          obtain ⟨v15, a15, h⟩ := bind_some h
          refine AM [] (Gs N v14 v10 v15 a15) T5 rfl (CG rfl (qp rfl (qm rfl ?_)))
          refine AI (t := 56) rfl (fun c16 => ?_) (fun c16 => ?_)
          ·have h := Ap c16 h
           refine qn rfl (qn rfl (qn rfl (qn rfl (qn rfl (qn rfl (qn rfl (qn rfl (qp rfl (Ad ?_)))))))))
           exact Aw _ h (sm [] _ _ rfl rfl)
          ·have h := Aq c16 h
           refine qf HV rfl (ql A9 rfl (qm rfl ?_))
           obtain ⟨v17, a17, b17, h⟩ := Am h
           refine qi AG Dh a17 (Ak b17) rfl (qk Ch rfl (qm rfl ?_))
           obtain ⟨v18, a18, h⟩ := bind_some h
           refine AM [] (Gs N v17 v10 v18 a18) T5 rfl (CG rfl (qp rfl (Ad ?_)))
           exact Aw _ h (sm [] _ _ rfl rfl)
       ·refine As rfl (fun c19 => ?_) (fun c19 => ?_)
        ·have h := Ap c19 h
         refine Ab (Aa Ae rfl (qa rfl (Ad ?_)))
         obtain rfl := sj h
         refine Al (sm [] [(2, .e (.one (.pure (.val (.int .i64 7)))))] [] rfl rfl) (AF ?_)
         exact ⟨⟨[_], ⟨.tmp _ _ rfl, trivial⟩, rfl⟩, trivial⟩
        ·have h := Aq c19 h
         refine Av (Aa Ae rfl (Bn rfl (qm rfl (Ad ?_))))
         exact Aw _ h (sm [] _ _ rfl rfl)
      ·have h := Aq c9 h
       refine A6 ?_
       exact Aw _ h (sm [] _ _ rfl rfl)
     ·refine Al hs (Ab (Ab (Aa Ae rfl (qf CC rfl (ql Gl rfl (AS DT rfl (qm rfl (Ad ?_))))))))
      refine AR (L := BK N p0) h (fun v20 => mk [(1, .e (.one (.ptr 1 0))), (68, .e (.one (.pure (.sl (p0.fTables.map Ai))))), (69, .e (.one (.pure (.val (.int .i64 ((p0.fTables.length : Int))))))), (70, .e (.one (.pure (.val (.int .i64 v20)))))] [(1, .box [.pure (.sl (p0.fVersions.map Ah)), .pure (.sl (p0.fNow.map Ah)), .pure (.sl (p0.fTarget.map Ah)), .pure (.sl (p0.fTables.map Ai))])]) (fun v21 => mk [] []) (fun _ _ => rfl) (sm [] _ _ rfl rfl) (fun j20 n20 v20 h => ?_) (fun v21 s h hs => ?_)
      ·unfold BK at h
       refine Ab (Aa Ae rfl (A8 rfl (Ad (Ab ?_))))
       refine As rfl (fun c22 => ?_) (fun c22 => ?_)
       ·have h := Ap c22 h
        refine Av (Ab (AW (Ab (Aa Ae rfl ?_))))
        obtain ⟨v23, a23, b23, h⟩ := Am h
        refine qi DT DL a23 (Ak b23) rfl (qK Gw DL rfl (qz J5 rfl (qs DL rfl (Ad (Ab (Aa Ae rfl (qL DQ Di rfl (qL Gw DL rfl ?_))))))))
        obtain ⟨v24, a24, h⟩ := bind_some h
        refine AM [] (Nq N p0 v23 v24 a24) X7 rfl (qa rfl (Ad (Ab (Aa Ae rfl (qm rfl (CB rfl (Ad ?_)))))))
        refine As rfl (fun c25 => ?_) (fun c25 => ?_)
        ·have h := Ap c25 h
         refine Ab (Aa Ae rfl (qm rfl (qa rfl (Ad ?_))))
         obtain rfl := sj h
         refine Al (sm [] [(2, .e (.one (.pure (.val (.int .i64 v24)))))] [] rfl rfl) (AF ?_)
         exact ⟨⟨[_], ⟨.tmp _ _ rfl, trivial⟩, rfl⟩, trivial⟩
        ·have h := Aq c25 h
         refine Av (Aa Ae rfl (Bn rfl (qm rfl (Ad ?_))))
         exact Aw _ h (sm [] _ _ rfl rfl)
       ·have h := Aq c22 h
        refine A6 ?_
        exact Aw _ h (sm [] _ _ rfl rfl)
      ·refine Al hs (Ab (Aa Ae rfl (qa rfl (Ad ?_))))
       obtain rfl := sj h
       refine Al (sm [] [(2, .e (.one (.pure (.val (.int .i64 0)))))] [] rfl rfl) (AF ?_)
       exact ⟨⟨[_], ⟨.tmp _ _ rfl, trivial⟩, rfl⟩, trivial⟩
set_option maxRecDepth 10000 in
theorem Dy (N : Nat) (p0 : List Int) (r : (List Int)) (h : BJ N p0 = some r) : AC Try.prog 72 [.e (.one (.pure (.sl (p0.map Ah))))] [(1, r.map Ah)] (.e (.one (.own 0))) := by
 unfold BJ at h
 refine Ar (n := 8) (rs := [.tmp 2]) Try.func72 rfl rfl rfl (BM rfl) (BM rfl) rfl fun w0 S0 => ?_
 refine Ab (Aa Ae rfl (qa rfl (Ad (Ab (Ab (Aa Ae rfl (qm rfl ?_)))))))
 refine Rb (.p rfl) rfl AG ?_
 refine Ad ?_
 refine Q4 rfl (fun c2 => ?_) ?_
 ·have c2 := List.map_eq_nil_iff.1 c2
  rw [c2] at h
  have h : (some (([] : List Int))) = some r := h
  refine Ab (Aa Ae rfl (qa rfl (Ad ?_)))
  obtain rfl := sj h
  refine Al ((Cj 2 2001 1 rfl rfl rfl).trans (sm [(1000, 2001)] [(2, .e (.one (.own 1000)))] [(1000, .vec 1 ((([] : List Int)).map Ah))] rfl rfl)) (AF ?_)
  exact ⟨⟨[_], ⟨.tmp _ _ rfl, trivial⟩, rfl⟩, ⟨rfl, trivial⟩⟩
 ·refine Av (Ab (Aa Ae rfl (En AG Dh Kd rfl (qm rfl ?_))))
  obtain ⟨c1, h⟩ := AN h
  refine Jg (f := Ah) AG AG Dh KH Kd (fun _ => rfl) c1 rfl (qa rfl (Ad ?_))
  obtain rfl := sj h
  refine Al (sm [(1000, 7)] [(2, .e (.one (.own 1000)))] [(1000, .vec 1 (((([] : List Int)) ++ p0).map Ah))] rfl rfl) (AF ?_)
  exact ⟨⟨[_], ⟨.tmp _ _ rfl, trivial⟩, rfl⟩, ⟨rfl, trivial⟩⟩
set_option maxRecDepth 10000 in
theorem KA (N : Nat) (p0 : Int) (p1 : Int) (r : Int × Int) (h : F2 N p0 p1 = some r) : AC Try.prog 110 [.e (.one (.pure (.val (.int .u32 p0)))), .e (.one (.pure (.val (.int .u32 p1))))] [] (.tup [.one (.pure (.val (.int .u32 r.1))), .one (.pure (.val (.int .u32 r.2)))]) := by
 unfold F2 at h
 refine Ar (n := 17) (rs := [.tmp 4, .tmp 5]) Try.func110 rfl rfl rfl (BM rfl) (BM rfl) rfl fun w0 S0 => ?_
 refine Ab (Aa Ae rfl (qa rfl (qa rfl (Ad (Ab (Aa Ae rfl (qm rfl (If Ry U7 rfl (qm rfl (If Ry U7 rfl (KT rfl (qa rfl (Ad (Ab (Aa Ae rfl (qm rfl (Ip rfl (by decide) (If U5 Rl rfl (qm rfl (If U5 Rl rfl (qa rfl (qa rfl (Ad ?_)))))))))))))))))))))))
 obtain rfl := sj h
 refine Al (sm [] [(4, .e (.one (.pure (.val (.int .u32 ((IntKind.wrap .u32 ((E0 .u64 ((IntKind.wrap .u64 ((IntKind.wrap .u64 p0) * (IntKind.wrap .u64 p1)))) 32))))))))), (5, .e (.one (.pure (.val (.int .u32 ((IntKind.wrap .u32 ((IntKind.wrap .u64 ((IntKind.wrap .u64 p0) * (IntKind.wrap .u64 p1)))))))))))] [] rfl rfl) (AF ?_)
 exact ⟨⟨[_, _], ⟨.tmp _ _ rfl, ⟨.tmp _ _ rfl, trivial⟩⟩, rfl⟩, trivial⟩
set_option maxRecDepth 10000 in
theorem La (N : Nat) (p0 : Int) (p1 : Int) (r : Int × Int) (h : F3 N p0 p1 = some r) : AC Try.prog 111 [.e (.one (.pure (.val (.int .u64 p0)))), .e (.one (.pure (.val (.int .u64 p1))))] [] (.tup [.one (.pure (.val (.int .u64 r.1))), .one (.pure (.val (.int .u64 r.2)))]) := by
 unfold F3 at h
 refine Ar (n := 51) (rs := [.tmp 4, .tmp 5]) Try.func111 rfl rfl rfl (BM rfl) (BM rfl) rfl fun w0 S0 => ?_
 refine Ab (Aa Ae rfl (qa rfl (qa rfl (Ad (Ab (Aa Ae rfl (qm rfl (LP rfl (qa rfl (Ad (Ab (Aa Ae rfl (qm rfl (Ip rfl (by decide) (qa rfl (Ad (Ab (Aa Ae rfl (qm rfl (LP rfl (qa rfl (Ad (Ab (Aa Ae rfl (qm rfl (Ip rfl (by decide) (qa rfl (Ad (Ab (Aa Ae rfl (qm rfl (qm rfl (KT rfl (qa rfl (Ad (Ab (Aa Ae rfl (qm rfl (qm rfl ?_)))))))))))))))))))))))))))))))))))))))
 refine KT rfl (qm rfl (Ip rfl (by decide) (Bn rfl (qa rfl (Ad (Ab (Aa Ae rfl (qm rfl (LP rfl (qa rfl (Ad (Ab (Aa Ae rfl (qm rfl (Ip rfl (by decide) (qa rfl (Ad (Ab (Aa Ae rfl (qm rfl (qm rfl (qm rfl (KT rfl (Bn rfl (qa rfl (Ad (Ab (Aa Ae rfl (qm rfl (qm rfl (KT rfl (qm rfl (Bn rfl (qm rfl (Ip rfl (by decide) (Bn rfl (qa rfl (Ad (Ab ?_)))))))))))))))))))))))))))))))))))))))
 refine Aa Ae rfl (qm rfl (qm rfl (KT rfl (qa rfl (Ad ?_)))))
 obtain rfl := sj h
 refine Al (sm [] [(4, .e (.one (.pure (.val (.int .u64 ((IntKind.wrap .u64 ((IntKind.wrap .u64 ((IntKind.wrap .u64 ((E0 .u64 p0 32) * (E0 .u64 p1 32))) + (E0 .u64 ((IntKind.wrap .u64 ((IntKind.wrap .u64 ((E0 .u64 p0 32) * (FA .u64 p1 4294967295))) + (E0 .u64 ((IntKind.wrap .u64 ((FA .u64 p0 4294967295) * (FA .u64 p1 4294967295)))) 32)))) 32))) + (E0 .u64 ((IntKind.wrap .u64 ((FA .u64 ((IntKind.wrap .u64 ((IntKind.wrap .u64 ((E0 .u64 p0 32) * (FA .u64 p1 4294967295))) + (E0 .u64 ((IntKind.wrap .u64 ((FA .u64 p0 4294967295) * (FA .u64 p1 4294967295)))) 32)))) 4294967295) + (IntKind.wrap .u64 ((FA .u64 p0 4294967295) * (E0 .u64 p1 32)))))) 32))))))))), (5, .e (.one (.pure (.val (.int .u64 ((IntKind.wrap .u64 (p0 * p1))))))))] [] rfl rfl) (AF ?_)
 exact ⟨⟨[_, _], ⟨.tmp _ _ rfl, ⟨.tmp _ _ rfl, trivial⟩⟩, rfl⟩, trivial⟩
set_option maxRecDepth 10000 in
theorem L7 (N : Nat) (p0 : Int) (p1 : Int) (r : Int × Int) (h : GD N p0 p1 = some r) : AC Try.prog 97 [.e (.one (.pure (.val (.int .u64 p0)))), .e (.one (.pure (.val (.int .u64 p1))))] [] (.tup [.one (.pure (.val (.int .u64 r.1))), .one (.pure (.val (.int .u64 r.2)))]) := by
 unfold GD at h
 refine Ar (n := 30) (rs := [.tmp 4, .tmp 5]) Try.func97 rfl rfl rfl (BM rfl) (BM rfl) rfl fun w0 S0 => ?_
 refine Ab (Aa Ae rfl (qa rfl (qa rfl (Ad (Ab ?_)))))
 refine As rfl (fun c1 => ?_) (fun c1 => ?_)
 ·have h := Ap c1 h
  refine Ab (Aa Ae rfl (qm rfl (If SN Rl rfl (qm rfl (If SN Rl rfl ?_)))))
  obtain ⟨v2, a2, h⟩ := bind_some h
  refine AM [] (KA N ((IntKind.wrap .u32 p0)) ((IntKind.wrap .u32 p1)) v2 a2) WY rfl (qm rfl (qx rfl (qx rfl (qa rfl (qa rfl (Ad (Ab (Aa Ae rfl (qm rfl (If Ry Ru rfl (qm rfl (If Ry Ru rfl (qa rfl (qa rfl (Ad ?_)))))))))))))))
  obtain rfl := sj h
  refine Al (sm [] [(4, .e (.one (.pure (.val (.int .u64 ((IntKind.wrap .u64 v2.1))))))), (5, .e (.one (.pure (.val (.int .u64 ((IntKind.wrap .u64 v2.2)))))))] [] rfl rfl) (AF ?_)
  exact ⟨⟨[_, _], ⟨.tmp _ _ rfl, ⟨.tmp _ _ rfl, trivial⟩⟩, rfl⟩, trivial⟩
 ·have h := Aq c1 h
  refine Av (Ab (Aa Ae rfl (qm rfl (qm rfl ?_))))
  obtain ⟨v3, a3, h⟩ := bind_some h
  refine AM [] (La N p0 p1 v3 a3) V4 rfl (qm rfl (qx rfl (qx rfl (qa rfl (qa rfl (Ad (Ab (Aa Ae rfl (qm rfl (qm rfl (qa rfl (qa rfl (Ad ?_)))))))))))))
  obtain rfl := sj h
  refine Al (sm [] [(4, .e (.one (.pure (.val (.int .u64 v3.1))))), (5, .e (.one (.pure (.val (.int .u64 v3.2)))))] [] rfl rfl) (AF ?_)
  exact ⟨⟨[_, _], ⟨.tmp _ _ rfl, ⟨.tmp _ _ rfl, trivial⟩⟩, rfl⟩, trivial⟩
set_option maxRecDepth 10000 in
theorem Iu (N : Nat) (p0 : List Int) (p1 : Int) (r : (List Int)) (h : D1 N p0 p1 = some r) : AC Try.prog 73 [.e (.one (.pure (.sl (p0.map Ah)))), .e (.one (.pure (.val (.int .i64 p1))))] [(1, r.map Ah)] (.e (.one (.own 0))) := by
 unfold D1 at h
 refine Ar (n := 48) (rs := [.tmp 4]) Try.func73 rfl rfl rfl (BM rfl) (BM rfl) rfl fun w0 S0 => ?_
 refine Ab (Aa Ae rfl (qa rfl (Ad ?_)))
 refine AX h (fun v1 => mk [(0, .e (.one (.pure (.sl (p0.map Ah))))), (1, .e (.one (.pure (.val (.int .i64 p1)))))] []) (fun j1 h => ?_) (fun v1 h => ?_)
 ·refine Ab (Aa Ae rfl (qm rfl (A8 rfl (Ad ?_))))
  refine As rfl (fun c2 => ?_) (fun c2 => ?_)
  ·have h := Ap c2 h
   refine Aa Ae rfl ?_
   cases h
  ·have h := Aq c2 h
   refine Av ?_
   exact Aw _ h (sm [] _ _ rfl rfl)
 ·refine Ab (Aa Ae rfl (qm rfl (AS AG rfl (If Xg Ru rfl (qm rfl (If Xg Ru rfl ?_))))))
  obtain ⟨v3, a3, h⟩ := bind_some h
  refine AM [] (L7 N ((IntKind.wrap .u64 ((p0.length : Int)))) ((IntKind.wrap .u64 p1)) v3 a3) XO rfl (qm rfl (qx rfl (qx rfl (qa rfl (qa rfl (Ad ?_))))))
  refine AX h (fun v4 => mk [(0, .e (.one (.pure (.sl (p0.map Ah))))), (6, .e (.one (.pure (.val (.int .u64 v3.2)))))] []) (fun j4 h => ?_) (fun v4 h => ?_)
  ·refine AX h (fun v5 => mk [(0, .e (.one (.pure (.sl (p0.map Ah))))), (6, .e (.one (.pure (.val (.int .u64 v3.2))))), (26, .e (.one (.pure (.val (.bool v5)))))] []) (fun j5 h => ?_) (fun v5 h => ?_)
   ·refine Aa Ae rfl (qm rfl (Gd rfl (qm rfl ?_)))
    refine AI (t := 23) rfl (fun c6 => ?_) (fun c6 => ?_)
    ·have h := Ap c6 h
     refine qn rfl (qn rfl (qp rfl (Ad ?_)))
     exact Aw _ h (sm [] _ _ rfl rfl)
    ·have h := Aq c6 h
     refine qm rfl (Gd rfl (qp rfl (Ad ?_)))
     exact Aw _ h (sm [] _ _ rfl rfl)
   ·refine As rfl (fun c7 => ?_) (fun c7 => ?_)
    ·have h := Ap c7 h
     refine Aa Ae rfl ?_
     cases h
    ·have h := Aq c7 h
     refine Av ?_
     exact Aw _ h (sm [] _ _ rfl rfl)
  ·refine Ab (Aa Ae rfl (qm rfl (If SN T4 rfl ?_)))
   obtain ⟨c8, h⟩ := AN h
   refine JD (.p rfl) rfl rfl rfl AG Dh KH (BM rfl) Kd rfl rfl rfl c8.1 c8.2.1 c8.2.2 (OZ Ah _ ((0 : Int))) ?_
   refine qa rfl (Ad (Ab (Aa Ae rfl (qm rfl (qm rfl ?_)))))
   refine Rz Ah (List.replicate ((IntKind.wrap .i64 v3.2)).toNat ((0 : Int))) p0 (.p rfl) rfl (Jy Ah _ _ (List.replicate ((IntKind.wrap .i64 v3.2)).toNat ((0 : Int)))) rfl rfl (TT Ah _ _ (fun _ => rfl)) trivial AG Dh ?_
   refine qa rfl (Ad (Ab ?_))
   refine AR (L := Dt N) h (fun v9 => mk [(7, .e (.one (.own 2001))), (8, .e (.one (.pure (.val (.int .i64 v9.2)))))] [(2001, .vec 1 (v9.1.map Ah))]) (fun v10 => mk [(7, .e (.one (.own 2002)))] [(2002, .vec 1 (v10.map Ah))]) (fun _ _ => rfl) (sm [(2001, 30)] _ _ rfl rfl) (fun j9 n9 v9 h => ?_) (fun v10 s h hs => ?_)
   ·unfold Dt at h
    refine Ab (Ab (Aa Ae rfl (qm rfl (qm rfl (Fg AG rfl (A8 rfl (Ad ?_)))))))
    refine As rfl (fun c11 => ?_) (fun c11 => ?_)
    ·have h := Ap c11 h
     refine Av (AW (Aa Ae rfl (qm rfl (qm rfl (qm rfl ?_)))))
     obtain ⟨c12, h⟩ := AN h
     have w13 : ((v9.2).toNat) + ((v9.1.length - (v9.2).toNat)) ≤ v9.1.length := by have := c12.2.1; have := c12.2.2; omega
     refine K8 Ah v9.1 (.p rfl) rfl (Jy Ah _ _ v9.1) rfl AG Dh (.some _ _ _ _ c12.1) (.none _) ⟨rfl, trivial⟩ trivial c12.2.1 (by rw [Nat.zero_add]; exact c12.2.2) (Nat.zero_add _) rfl ?_
     refine qm rfl (qm rfl ?_)
     obtain ⟨c14, h⟩ := AN h
     have w15 : 0 + ((v9.2).toNat) ≤ v9.1.length := by have := c14.2.1; have := c14.2.2; omega
     refine K8 Ah v9.1 (.p rfl) rfl (Jy Ah _ _ v9.1) rfl AG Dh (.none _) (.some _ _ _ _ c14.1) trivial ⟨rfl, trivial⟩ c14.2.1 (by rw [Nat.zero_add]; exact c14.2.2) (Nat.zero_add _) rfl ?_
     refine Rz Ah v9.1 (((v9.1.drop 0).take ((v9.2).toNat))) (.p rfl) rfl (Oa Ah _ _ ((v9.2).toNat) ((v9.1.length - (v9.2).toNat)) v9.1 w13) rfl rfl (R4 Ah _ _ 0 ((v9.2).toNat) v9.1 w15) ⟨rfl, trivial⟩ AG Dh ?_
     refine Bn rfl (qa rfl (A0 (by kernel_rfl) ?_))
     exact Aw _ h (sm [] _ _ rfl rfl)
    ·have h := Aq c11 h
     refine A6 ?_
     exact Aw _ h (sm [(2002, 2001)] _ _ rfl rfl)
   ·refine Al hs (Ab (Aa Ae rfl (qm rfl (qa rfl (Ad ?_)))))
    obtain rfl := sj h
    refine Al (sm [(1000, 2002)] [(4, .e (.one (.own 1000)))] [(1000, .vec 1 (v10.map Ah))] rfl rfl) (AF ?_)
    exact ⟨⟨[_], ⟨.tmp _ _ rfl, trivial⟩, rfl⟩, ⟨rfl, trivial⟩⟩
set_option maxRecDepth 10000 in
theorem IR (N : Nat) (p0 : AE) (r : Bool) (h : EK N p0 = some r) : AC Try.prog 74 [.e (.agg [.pure (.val (.int .i64 p0.fKind)), .pure (.val (.int .i64 p0.fFrom)), .pure (.val (.int .i64 p0.fTo)), .pure (.val (.bool p0.fAware)), .pure (.sl (p0.fOK.map (Eo eB))), .pure (.sl (p0.fRewrite.map (Eo eB)))])] [] (.e (.one (.pure (.val (.bool r))))) := by
 unfold EK at h
 refine Ar (n := 11) (rs := [.tmp 2]) Try.func74 rfl rfl rfl (BM rfl) (BM rfl) rfl fun w0 S0 => ?_
 refine Ab (Aa Ae rfl (qb rfl (qa rfl (Ad ?_))))
 refine AX h (fun v1 => mk [(2, .e (.one (.pure (.val (.bool v1)))))] []) (fun j1 h => ?_) (fun v1 h => ?_)
 ·refine Aa Ae rfl (qf Fj rfl (ql Ch rfl (B0 rfl (qm rfl ?_))))
  refine AI (t := 6) rfl (fun c2 => ?_) (fun c2 => ?_)
  ·have h := Ap c2 h
   refine qn rfl (qn rfl (qn rfl (qp rfl (qa rfl (Ad ?_)))))
   exact Aw _ h (sm [] _ _ rfl rfl)
  ·have h := Aq c2 h
   refine qf Fj rfl (ql Ch rfl (B0 rfl (qp rfl (qa rfl (Ad ?_)))))
   exact Aw _ h (sm [] _ _ rfl rfl)
 ·obtain rfl := sj h
  refine Al (sm [] [(2, .e (.one (.pure (.val (.bool v1)))))] [] rfl rfl) (AF ?_)
  exact ⟨⟨[_], ⟨.tmp _ _ rfl, trivial⟩, rfl⟩, trivial⟩
set_option maxRecDepth 10000 in
theorem LW (N : Nat) (p0 : Ac) (r : Ag × Int) (h : Fy N p0 = some r) : AC Try.prog 37 [.e (.agg [.pure (.sl (p0.fVersions.map Ah)), .pure (.sl (p0.fNow.map Ah)), .pure (.sl (p0.fTarget.map Ah)), .pure (.sl (p0.fTables.map Ai))])] [(1, r.1.fBase.map Ah), (1, r.1.fNext.map Ah), (1, r.1.fHeld.map Ba)] (.tup [.agg [.own 0, .own 1, .own 2], .one (.pure (.val (.int .i64 r.2)))]) := by
 unfold Fy at h
 refine Ar (n := 50) (rs := [.cell 2 43, .tmp 3]) Try.func37 rfl rfl rfl (BM rfl) (BM rfl) rfl fun w0 S0 => ?_
 refine Ab (Aa Ae rfl (qb rfl (qz C8 rfl (qa rfl (Ad (Ab (Ab (Aa Ae rfl (qL DQ Di rfl ?_)))))))))
 obtain ⟨v1, a1, h⟩ := bind_some h
 refine AM [] (G5 N p0 v1 a1) Wi rfl (qa rfl (Ad (Ab (Aa Ae rfl (qm rfl (CB rfl (Ad ?_)))))))
 refine As rfl (fun c2 => ?_) (fun c2 => ?_)
 ·have h := Ap c2 h
  refine Ab (Aa Ae rfl (A4 C8 GA rfl (qm rfl (qs AU rfl (qa rfl (Ad ?_))))))
  obtain rfl := sj h
  refine Al ((AD 2 0 2001 1 _ rfl rfl rfl rfl).trans ((AD 2 1 2002 1 _ rfl rfl rfl rfl).trans ((AD 2 2 2003 1 _ rfl rfl rfl rfl).trans (sm [(1000, 2001), (1001, 2002), (1002, 2003)] [(2, .e (.one (.ptr 2 0))), (3, .e (.one (.pure (.val (.int .i64 v1)))))] [(2, .box [.own 1000, .own 1001, .own 1002]), (1000, .vec 1 ((([] : List Int)).map Ah)), (1001, .vec 1 ((([] : List Int)).map Ah)), (1002, .vec 1 ((([] : List Int)).map Ba))] rfl rfl)))) (AF ?_)
  exact ⟨⟨[_, _], ⟨.cellN _ _ _ _ _ _ _ rfl rfl Bx AU rfl rfl (Hc rfl), ⟨.tmp _ _ rfl, trivial⟩⟩, rfl⟩, ⟨rfl, rfl, rfl, trivial⟩⟩
 ·have h := Aq c2 h
  refine Av (Ab (Aa Ae rfl (qf FW rfl (ql A9 rfl ?_))))
  obtain ⟨v3, a3, h⟩ := bind_some h
  refine AM [2004] (Dy N p0.fNow v3 a3) Tz rfl (En AG Dh Kd rfl (qf FW rfl (ql A9 rfl (AS AG rfl ?_))))
  obtain ⟨v4, a4, h⟩ := bind_some h
  refine DZ [2005] [17] (Iu N (([(-1)] : List Int)) ((p0.fNow.length : Int)) v4 a4) X2 (DX (fun _ => rfl) CD) rfl (qf CC rfl (ql Gl rfl (AS DT rfl ?_)))
  obtain ⟨c5, h⟩ := AN h
  refine JD (.p rfl) rfl rfl rfl Dp Fn P5 (BM rfl) Oo rfl rfl rfl c5.1 c5.2.1 c5.2.2 (OZ Ba _ ((0 : Int))) ?_
  refine A4 C8 GA rfl (qz C8 rfl (qs AU rfl (A0 (by kernel_rfl) (Ab (Ab (Aa Ae rfl (qf CC rfl (ql Gl rfl (AS DT rfl (qm rfl (Ad ?_)))))))))))
  refine AR (L := DE N p0) h (fun v6 => mk [(1, .e (.one (.ptr 1 0))), (2, .e (.one (.ptr 2 0))), (5, .e (.one (.ptr 5 0))), (28, .e (.one (.pure (.sl (p0.fTables.map Ai))))), (29, .e (.one (.pure (.val (.int .i64 ((p0.fTables.length : Int))))))), (30, .e (.one (.pure (.val (.int .i64 v6.2)))))] [(1, .box [.pure (.sl (p0.fVersions.map Ah)), .pure (.sl (p0.fNow.map Ah)), .pure (.sl (p0.fTarget.map Ah)), .pure (.sl (p0.fTables.map Ai))]), (2, .box [.pure (.nil0), .pure (.nil0), .pure (.nil0)]), (5, .box [.own 2006, .own 2007, .own 2008]), (2006, .vec 1 (v3.map Ah)), (2007, .vec 1 (v4.map Ah)), (2008, .vec 1 (v6.1.map Ba))]) (fun v7 => mk [(2, .e (.one (.ptr 2 0))), (5, .e (.one (.ptr 5 0)))] [(2, .box [.pure (.nil0), .pure (.nil0), .pure (.nil0)]), (5, .box [.own 2009, .own 2010, .own 2011]), (2009, .vec 1 (v3.map Ah)), (2010, .vec 1 (v4.map Ah)), (2011, .vec 1 (v7.map Ba))]) (fun _ _ => rfl) (sm [(2006, 2004), (2007, 2005), (2008, 25)] _ _ rfl rfl) (fun j6 n6 v6 h => ?_) (fun v7 s h hs => ?_)
  ·unfold DE at h
   refine Ab (Aa Ae rfl (A8 rfl (Ad (Ab ?_))))
   refine As rfl (fun c8 => ?_) (fun c8 => ?_)
   ·have h := Ap c8 h
    refine Av ?_
    refine AX h (fun v9 => mk [(1, .e (.one (.ptr 1 0))), (2, .e (.one (.ptr 2 0))), (5, .e (.one (.ptr 5 0))), (28, .e (.one (.pure (.sl (p0.fTables.map Ai))))), (29, .e (.one (.pure (.val (.int .i64 ((p0.fTables.length : Int))))))), (30, .e (.one (.pure (.val (.int .i64 v6.2)))))] [(1, .box [.pure (.sl (p0.fVersions.map Ah)), .pure (.sl (p0.fNow.map Ah)), .pure (.sl (p0.fTarget.map Ah)), .pure (.sl (p0.fTables.map Ai))]), (2, .box [.pure (.nil0), .pure (.nil0), .pure (.nil0)]), (5, .box [.own 2012, .own 2013, .own 2014]), (2012, .vec 1 (v3.map Ah)), (2013, .vec 1 (v4.map Ah)), (2014, .vec 1 (v9.map Ba))]) (fun j9 h => ?_) (fun v9 h => ?_)
    ·refine AW (Ab (Aa Ae rfl (qm rfl ?_)))
     obtain ⟨v10, a10, b10, h⟩ := Am h
     refine qi DT DL a10 (Ak b10) rfl (qK Gw DL rfl (qz J5 rfl (qa rfl (qs DL rfl (Ad (Ab (Aa Ae rfl (qL Gw DL rfl ?_))))))))
     obtain ⟨v11, a11, h⟩ := bind_some h
     refine AM [] (IR N v10 v11 a11) Vq rfl (Ad ?_)
     refine As rfl (fun c12 => ?_) (fun c12 => ?_)
     ·have h := Ap c12 h
      refine Aa Ae rfl (qf Cy rfl (ql Gf rfl (qm rfl (qf FW rfl (ql A9 rfl (qf CU rfl (ql Ch rfl ?_)))))))
      obtain ⟨v13, a13, b13, h⟩ := Am h
      refine qi AG Dh a13 (Ak b13) rfl (qk Ch rfl ?_)
      obtain ⟨c14, h⟩ := AN h
      refine Ib rfl c14 ?_
      obtain ⟨v15, a15, b15, h⟩ := Am h
      refine qI Dp Fn a15 (Ak b15) rfl ?_
      refine D8 rfl rfl rfl rfl (Ak b15) rfl Fn rfl (BM rfl) (DR Ba v6.1 _ ((Dv .u8 1 v13))) ?_
      refine A0 (by kernel_rfl) ?_
      exact Aw _ h (sm [(2012, 2006), (2013, 2007), (2014, 2008)] _ _ rfl rfl)
     ·have h := Aq c12 h
      refine Av ?_
      exact Aw _ h (sm [(2012, 2006), (2013, 2007), (2014, 2008)] _ _ rfl rfl)
    ·refine Aa Ae rfl (Bn rfl (qm rfl (Ad ?_)))
     exact Aw _ h (sm [(2006, 2012), (2007, 2013), (2008, 2014)] _ _ rfl rfl)
   ·have h := Aq c8 h
    refine A6 ?_
    exact Aw _ h (sm [(2009, 2006), (2010, 2007), (2011, 2008)] _ _ rfl rfl)
  ·refine Al hs (Ab (Aa Ae rfl (qL Bx AU rfl (qs AU rfl (qa rfl (Ad ?_))))))
   obtain rfl := sj h
   refine Al (sm [(1000, 2009), (1001, 2010), (1002, 2011)] [(2, .e (.one (.ptr 2 0))), (3, .e (.one (.pure (.val (.int .i64 0)))))] [(2, .box [.own 1000, .own 1001, .own 1002]), (1000, .vec 1 (v3.map Ah)), (1001, .vec 1 (v4.map Ah)), (1002, .vec 1 (v7.map Ba))] rfl rfl) (AF ?_)
   exact ⟨⟨[_, _], ⟨.cellN _ _ _ _ _ _ _ rfl rfl Bx AU rfl rfl (Hc rfl), ⟨.tmp _ _ rfl, trivial⟩⟩, rfl⟩, ⟨rfl, rfl, rfl, trivial⟩⟩
set_option maxRecDepth 10000 in
theorem Ih (N : Nat) (p0 : Ag) (p1 : Int) (r : Int) (h : Eu N p0 p1 = some r) : AC Try.prog 99 [.e (.agg [.pure (.sl (p0.fBase.map Ah)), .pure (.sl (p0.fNext.map Ah)), .pure (.sl (p0.fHeld.map Ba))]), .e (.one (.pure (.val (.int .i64 p1))))] [] (.e (.one (.pure (.val (.int .u8 r))))) := by
 unfold Eu at h
 refine Ar (n := 27) (rs := [.tmp 4]) Try.func99 rfl rfl rfl (BM rfl) (BM rfl) rfl fun w0 S0 => ?_
 refine Ab (Aa Ae rfl (qb rfl (qa rfl (Ad (Ab (Aa Ae rfl (qf CK rfl (ql A9 rfl (qm rfl ?_)))))))))
 obtain ⟨v1, a1, b1, h⟩ := Am h
 refine qi AG Dh a1 (Ak b1) rfl (qk Ch rfl ?_)
 obtain ⟨c2, h⟩ := AN h
 refine Ib rfl c2 (qa rfl (Ad ?_))
 refine AX h (fun v3 => mk [(5, .e (.one (.pure (.val (.int .u8 v3)))))] []) (fun j3 h => ?_) (fun v3 h => ?_)
 ·refine Ab (Aa Ae rfl (qf BD rfl (ql A9 rfl (qm rfl ?_))))
  obtain ⟨v4, a4, b4, h⟩ := Am h
  refine qi AG Dh a4 (Ak b4) rfl (qk Ch rfl (EO rfl (Ad ?_)))
  refine As rfl (fun c5 => ?_) (fun c5 => ?_)
  ·have h := Ap c5 h
   refine Aa Ae rfl (qm rfl (qf BD rfl (ql A9 rfl (qm rfl ?_))))
   obtain ⟨v6, a6, b6, h⟩ := Am h
   refine qi AG Dh a6 (Ak b6) rfl (qk Ch rfl ?_)
   obtain ⟨c7, h⟩ := AN h
   refine Ib rfl c7 (SP rfl (qa rfl (Ad ?_)))
   exact Aw _ h (sm [] _ _ rfl rfl)
  ·have h := Aq c5 h
   refine Av ?_
   exact Aw _ h (sm [] _ _ rfl rfl)
 ·refine Ab (Aa Ae rfl (qm rfl (qa rfl (Ad ?_))))
  obtain rfl := sj h
  refine Al (sm [] [(4, .e (.one (.pure (.val (.int .u8 v3)))))] [] rfl rfl) (AF ?_)
  exact ⟨⟨[_], ⟨.tmp _ _ rfl, trivial⟩, rfl⟩, trivial⟩
set_option maxRecDepth 10000 in
theorem HY (N : Nat) (p0 : Ac) (p1 : Ag) (r : Int) (h : EB N p0 p1 = some r) : AC Try.prog 77 [.e (.agg [.pure (.sl (p0.fVersions.map Ah)), .pure (.sl (p0.fNow.map Ah)), .pure (.sl (p0.fTarget.map Ah)), .pure (.sl (p0.fTables.map Ai))]), .e (.agg [.pure (.sl (p1.fBase.map Ah)), .pure (.sl (p1.fNext.map Ah)), .pure (.sl (p1.fHeld.map Ba))])] [] (.e (.one (.pure (.val (.int .i64 r))))) := by
 unfold EB at h
 refine Ar (n := 135) (rs := [.tmp 4]) Try.func77 rfl rfl rfl (BM rfl) (BM rfl) rfl fun w0 S0 => ?_
 refine Ab (Aa Ae rfl (qb rfl (qb rfl (qa rfl (Ad (Ab (Ab (Aa Ae rfl (qL DQ Di rfl ?_)))))))))
 obtain ⟨v1, a1, h⟩ := bind_some h
 refine AM [] (G5 N p0 v1 a1) Wi rfl (qa rfl (Ad (Ab (Aa Ae rfl (qm rfl (CB rfl (Ad ?_)))))))
 refine As rfl (fun c2 => ?_) (fun c2 => ?_)
 ·have h := Ap c2 h
  refine Ab (Aa Ae rfl (qm rfl (qa rfl (Ad ?_))))
  obtain rfl := sj h
  refine Al (sm [] [(4, .e (.one (.pure (.val (.int .i64 v1)))))] [] rfl rfl) (AF ?_)
  exact ⟨⟨[_], ⟨.tmp _ _ rfl, trivial⟩, rfl⟩, trivial⟩
 ·have h := Aq c2 h
  refine Av (Ab ?_)
  refine AX h (fun v3 => mk [(2, .e (.one (.ptr 2 0))), (3, .e (.one (.ptr 3 0))), (41, .e (.one (.pure (.val (.bool v3)))))] [(2, .box [.pure (.sl (p0.fVersions.map Ah)), .pure (.sl (p0.fNow.map Ah)), .pure (.sl (p0.fTarget.map Ah)), .pure (.sl (p0.fTables.map Ai))]), (3, .box [.pure (.sl (p1.fBase.map Ah)), .pure (.sl (p1.fNext.map Ah)), .pure (.sl (p1.fHeld.map Ba))])]) (fun j3 h => ?_) (fun v3 h => ?_)
  ·refine Aa Ae rfl (qf CK rfl (ql A9 rfl (AS AG rfl (qf Bs rfl (ql A9 rfl (AS AG rfl (CB rfl (qm rfl ?_))))))))
   refine AI (t := 24) rfl (fun c4 => ?_) (fun c4 => ?_)
   ·have h := Ap c4 h
    refine qn rfl (qn rfl (qn rfl (qn rfl (qn rfl (qn rfl (qn rfl (qp rfl (qm rfl (qn rfl (qn rfl (qn rfl (qn rfl (qn rfl (qn rfl (qn rfl (qp rfl (Ad ?_)))))))))))))))))
    exact Aw _ h (sm [] _ _ rfl rfl)
   ·have h := Aq c4 h
    refine qf BD rfl (ql A9 rfl (AS AG rfl (qf Bs rfl (ql A9 rfl (AS AG rfl (CB rfl (qp rfl (qm rfl ?_))))))))
    refine AI (t := 33) rfl (fun c5 => ?_) (fun c5 => ?_)
    ·have h := Ap c5 h
     refine qn rfl (qn rfl (qn rfl (qn rfl (qn rfl (qn rfl (qn rfl (qp rfl (Ad ?_))))))))
     exact Aw _ h (sm [] _ _ rfl rfl)
    ·have h := Aq c5 h
     refine qf Cy rfl (ql Gf rfl (AS Dp rfl (qf CC rfl (ql Gl rfl (AS DT rfl (CB rfl (qp rfl (Ad ?_))))))))
     exact Aw _ h (sm [] _ _ rfl rfl)
  ·refine As rfl (fun c6 => ?_) (fun c6 => ?_)
   ·have h := Ap c6 h
    refine Ab (Aa Ae rfl (qa rfl (Ad ?_)))
    obtain rfl := sj h
    refine Al (sm [] [(4, .e (.one (.pure (.val (.int .i64 6)))))] [] rfl rfl) (AF ?_)
    exact ⟨⟨[_], ⟨.tmp _ _ rfl, trivial⟩, rfl⟩, trivial⟩
   ·have h := Aq c6 h
    refine Av (Ab (Ab (Aa Ae rfl (qf Bs rfl (ql A9 rfl (AS AG rfl (qm rfl (Ad ?_))))))))
    refine AR (L := DF N p0 p1) h (fun v7 => mk [(2, .e (.one (.ptr 2 0))), (3, .e (.one (.ptr 3 0))), (43, .e (.one (.pure (.sl (p0.fVersions.map Ah))))), (44, .e (.one (.pure (.val (.int .i64 ((p0.fVersions.length : Int))))))), (45, .e (.one (.pure (.val (.int .i64 v7)))))] [(2, .box [.pure (.sl (p0.fVersions.map Ah)), .pure (.sl (p0.fNow.map Ah)), .pure (.sl (p0.fTarget.map Ah)), .pure (.sl (p0.fTables.map Ai))]), (3, .box [.pure (.sl (p1.fBase.map Ah)), .pure (.sl (p1.fNext.map Ah)), .pure (.sl (p1.fHeld.map Ba))])]) (fun v8 => mk [(2, .e (.one (.ptr 2 0))), (3, .e (.one (.ptr 3 0)))] [(2, .box [.pure (.sl (p0.fVersions.map Ah)), .pure (.sl (p0.fNow.map Ah)), .pure (.sl (p0.fTarget.map Ah)), .pure (.sl (p0.fTables.map Ai))]), (3, .box [.pure (.sl (p1.fBase.map Ah)), .pure (.sl (p1.fNext.map Ah)), .pure (.sl (p1.fHeld.map Ba))])]) (fun _ _ => rfl) (sm [] _ _ rfl rfl) (fun j7 n7 v7 h => ?_) (fun v8 s h hs => ?_)
    ·unfold DF at h
     refine Ab (Aa Ae rfl (A8 rfl (Ad (Ab ?_))))
     refine As rfl (fun c9 => ?_) (fun c9 => ?_)
     ·have h := Ap c9 h
      refine Av (Ab (AW (Ab (Aa Ae rfl (qm rfl ?_)))))
      obtain ⟨v10, a10, b10, h⟩ := Am h
      refine qi AG Dh a10 (Ak b10) rfl (qk Ch rfl (qa rfl (qa rfl (Ad (Ab ?_)))))
      refine AX h (fun v11 => mk [(2, .e (.one (.ptr 2 0))), (3, .e (.one (.ptr 3 0))), (6, .e (.one (.pure (.val (.int .i64 v7))))), (43, .e (.one (.pure (.sl (p0.fVersions.map Ah))))), (44, .e (.one (.pure (.val (.int .i64 ((p0.fVersions.length : Int))))))), (45, .e (.one (.pure (.val (.int .i64 v7))))), (81, .e (.one (.pure (.val (.bool v11)))))] [(2, .box [.pure (.sl (p0.fVersions.map Ah)), .pure (.sl (p0.fNow.map Ah)), .pure (.sl (p0.fTarget.map Ah)), .pure (.sl (p0.fTables.map Ai))]), (3, .box [.pure (.sl (p1.fBase.map Ah)), .pure (.sl (p1.fNext.map Ah)), .pure (.sl (p1.fHeld.map Ba))])]) (fun j11 h => ?_) (fun v11 h => ?_)
      ·refine Aa Ae rfl (qf CK rfl (ql A9 rfl (qm rfl ?_)))
       obtain ⟨v12, a12, b12, h⟩ := Am h
       refine qi AG Dh a12 (Ak b12) rfl (qk Ch rfl (A8 rfl (qm rfl ?_)))
       refine AI (t := 56) rfl (fun c13 => ?_) (fun c13 => ?_)
       ·have h := Ap c13 h
        refine qn rfl (qn rfl (qn rfl (qn rfl (qn rfl (qn rfl (qn rfl (qp rfl (qm rfl (qn rfl (qn rfl (qn rfl (qn rfl (qn rfl (qn rfl (qp rfl (qm rfl (qn rfl (qn rfl (qn rfl (qn rfl (qn rfl (qn rfl (qn rfl (qp rfl (Ad ?_)))))))))))))))))))))))))
        exact Aw _ h (sm [] _ _ rfl rfl)
       ·have h := Aq c13 h
        refine qf CK rfl (ql A9 rfl (qm rfl ?_))
        obtain ⟨v14, a14, b14, h⟩ := Am h
        refine qi AG Dh a14 (Ak b14) rfl (qk Ch rfl (qm rfl (EO rfl (qp rfl (qm rfl ?_)))))
        refine AI (t := 65) rfl (fun c15 => ?_) (fun c15 => ?_)
        ·have h := Ap c15 h
         refine qn rfl (qn rfl (qn rfl (qn rfl (qn rfl (qn rfl (qp rfl (qm rfl (qn rfl (qn rfl (qn rfl (qn rfl (qn rfl (qn rfl (qn rfl (qp rfl (Ad ?_))))))))))))))))
         exact Aw _ h (sm [] _ _ rfl rfl)
        ·have h := Aq c15 h
         refine qf BD rfl (ql A9 rfl (qm rfl ?_))
         obtain ⟨v16, a16, b16, h⟩ := Am h
         refine qi AG Dh a16 (Ak b16) rfl (qk Ch rfl (A8 rfl (qp rfl (qm rfl ?_))))
         refine AI (t := 73) rfl (fun c17 => ?_) (fun c17 => ?_)
         ·have h := Ap c17 h
          refine qn rfl (qn rfl (qn rfl (qn rfl (qn rfl (qn rfl (qn rfl (qp rfl (Ad ?_))))))))
          exact Aw _ h (sm [] _ _ rfl rfl)
         ·have h := Aq c17 h
          refine qf BD rfl (ql A9 rfl (qm rfl ?_))
          obtain ⟨v18, a18, b18, h⟩ := Am h
          refine qi AG Dh a18 (Ak b18) rfl (qk Ch rfl (qm rfl (EO rfl (qp rfl (Ad ?_)))))
          exact Aw _ h (sm [] _ _ rfl rfl)
      ·refine As rfl (fun c19 => ?_) (fun c19 => ?_)
       ·have h := Ap c19 h
        refine Ab (Aa Ae rfl (qa rfl (Ad ?_)))
        obtain rfl := sj h
        refine Al (sm [] [(4, .e (.one (.pure (.val (.int .i64 7)))))] [] rfl rfl) (AF ?_)
        exact ⟨⟨[_], ⟨.tmp _ _ rfl, trivial⟩, rfl⟩, trivial⟩
       ·have h := Aq c19 h
        refine Av (Ab (Aa Ae rfl (qf CK rfl (ql A9 rfl (qm rfl ?_)))))
        obtain ⟨v20, a20, b20, h⟩ := Am h
        refine qi AG Dh a20 (Ak b20) rfl (qk Ch rfl (qf BD rfl (ql A9 rfl (qm rfl ?_))))
        obtain ⟨v21, a21, b21, h⟩ := Am h
        refine qi AG Dh a21 (Ak b21) rfl (qk Ch rfl (B0 rfl (A0 (by kernel_rfl) ?_)))
        refine As rfl (fun c22 => ?_) (fun c22 => ?_)
        ·have h := Ap c22 h
         refine Ab (Aa Ae rfl (qa rfl (Ad ?_)))
         obtain rfl := sj h
         refine Al (sm [] [(4, .e (.one (.pure (.val (.int .i64 1)))))] [] rfl rfl) (AF ?_)
         exact ⟨⟨[_], ⟨.tmp _ _ rfl, trivial⟩, rfl⟩, trivial⟩
        ·have h := Aq c22 h
         refine Av (Aa Ae rfl (Bn rfl (qm rfl (Ad ?_))))
         exact Aw _ h (sm [] _ _ rfl rfl)
     ·have h := Aq c9 h
      refine A6 ?_
      exact Aw _ h (sm [] _ _ rfl rfl)
    ·refine Al hs (Ab (Ab (Aa Ae rfl (qf CC rfl (ql Gl rfl (AS DT rfl (qm rfl (Ad ?_))))))))
     refine AR (L := Dk N p0 p1) h (fun v23 => mk [(2, .e (.one (.ptr 2 0))), (3, .e (.one (.ptr 3 0))), (95, .e (.one (.pure (.sl (p0.fTables.map Ai))))), (96, .e (.one (.pure (.val (.int .i64 ((p0.fTables.length : Int))))))), (97, .e (.one (.pure (.val (.int .i64 v23)))))] [(2, .box [.pure (.sl (p0.fVersions.map Ah)), .pure (.sl (p0.fNow.map Ah)), .pure (.sl (p0.fTarget.map Ah)), .pure (.sl (p0.fTables.map Ai))]), (3, .box [.pure (.sl (p1.fBase.map Ah)), .pure (.sl (p1.fNext.map Ah)), .pure (.sl (p1.fHeld.map Ba))])]) (fun v24 => mk [] []) (fun _ _ => rfl) (sm [] _ _ rfl rfl) (fun j23 n23 v23 h => ?_) (fun v24 s h hs => ?_)
     ·unfold Dk at h
      refine Ab (Aa Ae rfl (A8 rfl (Ad (Ab ?_))))
      refine As rfl (fun c25 => ?_) (fun c25 => ?_)
      ·have h := Ap c25 h
       refine Av (Ab (AW (Ab (Aa Ae rfl (qm rfl ?_)))))
       obtain ⟨v26, a26, b26, h⟩ := Am h
       refine qi DT DL a26 (Ak b26) rfl (qK Gw DL rfl (qz J5 rfl (qa rfl (qs DL rfl (Ad (Ab (Aa Ae rfl (qa rfl (qa rfl (Ad ?_))))))))))
       refine AX h (fun v27 => mk [(2, .e (.one (.ptr 2 0))), (3, .e (.one (.ptr 3 0))), (8, .e (.one (.pure (.val (.int .i64 v23))))), (10, .e (.one (.pure (.val (.int .u8 v27.1))))), (11, .e (.one (.pure (.val (.int .u8 v27.2))))), (95, .e (.one (.pure (.sl (p0.fTables.map Ai))))), (96, .e (.one (.pure (.val (.int .i64 ((p0.fTables.length : Int))))))), (97, .e (.one (.pure (.val (.int .i64 v23)))))] [(2, .box [.pure (.sl (p0.fVersions.map Ah)), .pure (.sl (p0.fNow.map Ah)), .pure (.sl (p0.fTarget.map Ah)), .pure (.sl (p0.fTables.map Ai))]), (3, .box [.pure (.sl (p1.fBase.map Ah)), .pure (.sl (p1.fNext.map Ah)), .pure (.sl (p1.fHeld.map Ba))])]) (fun j27 h => ?_) (fun v27 h => ?_)
       ·refine Ab (Aa Ae rfl (qL Gw DL rfl ?_))
        obtain ⟨v28, a28, h⟩ := bind_some h
        refine AM [] (IR N v26 v28 a28) Vq rfl (Ad ?_)
        refine As rfl (fun c29 => ?_) (fun c29 => ?_)
        ·have h := Ap c29 h
         refine Aa Ae rfl (qL Bx AU rfl (qf CU rfl (ql Ch rfl ?_)))
         obtain ⟨v30, a30, h⟩ := bind_some h
         refine AM [] (Ih N p1 v26.fFrom v30 a30) Vu rfl (qf Bs rfl (ql A9 rfl (qf CU rfl (ql Ch rfl ?_))))
         obtain ⟨v31, a31, b31, h⟩ := Am h
         refine qi AG Dh a31 (Ak b31) rfl (qk Ch rfl ?_)
         obtain ⟨c32, h⟩ := AN h
         refine Ib rfl c32 (NG rfl (qa rfl (qa rfl (A0 (by kernel_rfl) ?_))))
         exact Aw _ h (sm [] _ _ rfl rfl)
        ·have h := Aq c29 h
         refine Av ?_
         exact Aw _ h (sm [] _ _ rfl rfl)
       ·refine AX h (fun v33 => mk [(2, .e (.one (.ptr 2 0))), (3, .e (.one (.ptr 3 0))), (95, .e (.one (.pure (.sl (p0.fTables.map Ai))))), (96, .e (.one (.pure (.val (.int .i64 ((p0.fTables.length : Int))))))), (97, .e (.one (.pure (.val (.int .i64 v23))))), (133, .e (.one (.pure (.val (.bool v33)))))] [(2, .box [.pure (.sl (p0.fVersions.map Ah)), .pure (.sl (p0.fNow.map Ah)), .pure (.sl (p0.fTarget.map Ah)), .pure (.sl (p0.fTables.map Ai))]), (3, .box [.pure (.sl (p1.fBase.map Ah)), .pure (.sl (p1.fNext.map Ah)), .pure (.sl (p1.fHeld.map Ba))])]) (fun j33 h => ?_) (fun v33 h => ?_)
        ·refine Aa Ae rfl (qm rfl (qf Cy rfl (ql Gf rfl (qm rfl ?_))))
         obtain ⟨v34, a34, b34, h⟩ := Am h
         refine qi Dp Fn a34 (Ak b34) rfl (qk Ji rfl (HI rfl (CB rfl (qm rfl ?_))))
         refine AI (t := 124) rfl (fun c35 => ?_) (fun c35 => ?_)
         ·have h := Ap c35 h
          refine qn rfl (qn rfl (qn rfl (qn rfl (qn rfl (qn rfl (qn rfl (qn rfl (qp rfl (Ad ?_)))))))))
          exact Aw _ h (sm [] _ _ rfl rfl)
         ·have h := Aq c35 h
          refine qf Cy rfl (ql Gf rfl (qm rfl ?_))
          obtain ⟨v36, a36, b36, h⟩ := Am h
          refine qi Dp Fn a36 (Ak b36) rfl (qk Ji rfl (qm rfl (HI rfl (CB rfl (qp rfl (Ad ?_))))))
          exact Aw _ h (sm [] _ _ rfl rfl)
        ·refine As rfl (fun c37 => ?_) (fun c37 => ?_)
         ·have h := Ap c37 h
          refine Ab (Aa Ae rfl (qa rfl (Ad ?_)))
          obtain rfl := sj h
          refine Al (sm [] [(4, .e (.one (.pure (.val (.int .i64 1)))))] [] rfl rfl) (AF ?_)
          exact ⟨⟨[_], ⟨.tmp _ _ rfl, trivial⟩, rfl⟩, trivial⟩
         ·have h := Aq c37 h
          refine Av (Aa Ae rfl (Bn rfl (qm rfl (Ad ?_))))
          exact Aw _ h (sm [] _ _ rfl rfl)
      ·have h := Aq c25 h
       refine A6 ?_
       exact Aw _ h (sm [] _ _ rfl rfl)
     ·refine Al hs (Ab (Aa Ae rfl (qa rfl (Ad ?_))))
      obtain rfl := sj h
      refine Al (sm [] [(4, .e (.one (.pure (.val (.int .i64 0)))))] [] rfl rfl) (AF ?_)
      exact ⟨⟨[_], ⟨.tmp _ _ rfl, trivial⟩, rfl⟩, trivial⟩
set_option maxRecDepth 10000 in
theorem ER (N : Nat) (p0 : List Int) (r : (List Int)) (h : BN N p0 = some r) : AC Try.prog 98 [.e (.one (.pure (.sl (p0.map Ba))))] [(1, r.map Ba)] (.e (.one (.own 0))) := by
 unfold BN at h
 refine Ar (n := 8) (rs := [.tmp 2]) Try.func98 rfl rfl rfl (BM rfl) (BM rfl) rfl fun w0 S0 => ?_
 refine Ab (Aa Ae rfl (qa rfl (Ad (Ab (Ab (Aa Ae rfl (qm rfl ?_)))))))
 refine Rb (.p rfl) rfl Dp ?_
 refine Ad ?_
 refine Q4 rfl (fun c2 => ?_) ?_
 ·have c2 := List.map_eq_nil_iff.1 c2
  rw [c2] at h
  have h : (some (([] : List Int))) = some r := h
  refine Ab (Aa Ae rfl (qa rfl (Ad ?_)))
  obtain rfl := sj h
  refine Al ((Cj 2 2001 1 rfl rfl rfl).trans (sm [(1000, 2001)] [(2, .e (.one (.own 1000)))] [(1000, .vec 1 ((([] : List Int)).map Ba))] rfl rfl)) (AF ?_)
  exact ⟨⟨[_], ⟨.tmp _ _ rfl, trivial⟩, rfl⟩, ⟨rfl, trivial⟩⟩
 ·refine Av (Ab (Aa Ae rfl (En Dp Fn Oo rfl (qm rfl ?_))))
  obtain ⟨c1, h⟩ := AN h
  refine Jg (f := Ba) Dp Dp Fn P5 Oo (fun _ => rfl) c1 rfl (qa rfl (Ad ?_))
  obtain rfl := sj h
  refine Al (sm [(1000, 7)] [(2, .e (.one (.own 1000)))] [(1000, .vec 1 (((([] : List Int)) ++ p0).map Ba))] rfl rfl) (AF ?_)
  exact ⟨⟨[_], ⟨.tmp _ _ rfl, trivial⟩, rfl⟩, ⟨rfl, trivial⟩⟩
set_option maxRecDepth 10000 in
theorem O4 (N : Nat) (p0 : Ac) (p1 : Ag) (r : (List Ag) × Int) (h : FN N p0 p1 = some r) : AC Try.prog 75 [.e (.agg [.pure (.sl (p0.fVersions.map Ah)), .pure (.sl (p0.fNow.map Ah)), .pure (.sl (p0.fTarget.map Ah)), .pure (.sl (p0.fTables.map Ai))]), .e (.agg [.pure (.sl (p1.fBase.map Ah)), .pure (.sl (p1.fNext.map Ah)), .pure (.sl (p1.fHeld.map Ba))])] [(3, r.1.map Eg)] (.tup [.one (.own 0), .one (.pure (.val (.int .i64 r.2)))]) := by
 unfold FN at h
 refine Ar (n := 75) (rs := [.tmp 4, .tmp 5]) Try.func75 rfl rfl rfl (BM rfl) (BM rfl) rfl fun w0 S0 => ?_
 refine Ab (Aa Ae rfl (qb rfl (qb rfl (qa rfl (qa rfl (Ad (Ab (Ab (Aa Ae rfl (qL DQ Di rfl (qL Bx AU rfl ?_)))))))))))
 obtain ⟨v1, a1, h⟩ := bind_some h
 refine AM [] (HY N p0 p1 v1 a1) T6 rfl (qa rfl (Ad (Ab (Aa Ae rfl (qm rfl (CB rfl (Ad ?_)))))))
 refine As rfl (fun c2 => ?_) (fun c2 => ?_)
 ·have h := Ap c2 h
  refine Ab (Aa Ae rfl (qm rfl (qa rfl (qa rfl (Ad ?_)))))
  obtain rfl := sj h
  refine Al ((Cj 4 2001 3 rfl rfl rfl).trans (sm [(1000, 2001)] [(4, .e (.one (.own 1000))), (5, .e (.one (.pure (.val (.int .i64 v1)))))] [(1000, .vec 3 ((([] : List Ag)).map Eg))] rfl rfl)) (AF ?_)
  exact ⟨⟨[_, _], ⟨.tmp _ _ rfl, ⟨.tmp _ _ rfl, trivial⟩⟩, rfl⟩, ⟨rfl, trivial⟩⟩
 ·have h := Aq c2 h
  refine Av (Ab (Aa Ae rfl (qa rfl (Ad (Ab (Ab (Aa Ae rfl (qf BD rfl (ql A9 rfl (AS AG rfl (qm rfl (Ad ?_))))))))))))
  refine AR (L := Dn N p1) h (fun v3 => mk [(3, .e (.one (.ptr 3 0))), (7, .e (.one (.own 2002))), (22, .e (.one (.pure (.sl (p1.fNext.map Ah))))), (23, .e (.one (.pure (.val (.int .i64 ((p1.fNext.length : Int))))))), (24, .e (.one (.pure (.val (.int .i64 v3.2)))))] [(3, .box [.pure (.sl (p1.fBase.map Ah)), .pure (.sl (p1.fNext.map Ah)), .pure (.sl (p1.fHeld.map Ba))]), (2002, .vec 1 (v3.1.map Ah))]) (fun v4 => mk [(3, .e (.one (.ptr 3 0))), (7, .e (.one (.own 2003)))] [(3, .box [.pure (.sl (p1.fBase.map Ah)), .pure (.sl (p1.fNext.map Ah)), .pure (.sl (p1.fHeld.map Ba))]), (2003, .vec 1 (v4.map Ah))]) (fun _ _ => rfl) ((Cj 7 2005 1 rfl rfl rfl).trans (sm [(2002, 2005)] _ _ rfl rfl)) (fun j3 n3 v3 h => ?_) (fun v4 s h hs => ?_)
  ·unfold Dn at h
   refine Ab (Aa Ae rfl (A8 rfl (Ad (Ab ?_))))
   refine As rfl (fun c5 => ?_) (fun c5 => ?_)
   ·have h := Ap c5 h
    refine Av ?_
    refine AX h (fun v6 => mk [(3, .e (.one (.ptr 3 0))), (7, .e (.one (.own 2004))), (22, .e (.one (.pure (.sl (p1.fNext.map Ah))))), (23, .e (.one (.pure (.val (.int .i64 ((p1.fNext.length : Int))))))), (24, .e (.one (.pure (.val (.int .i64 v3.2)))))] [(3, .box [.pure (.sl (p1.fBase.map Ah)), .pure (.sl (p1.fNext.map Ah)), .pure (.sl (p1.fHeld.map Ba))]), (2004, .vec 1 (v6.map Ah))]) (fun j6 h => ?_) (fun v6 h => ?_)
    ·refine AW (Ab (Aa Ae rfl (qm rfl ?_)))
     obtain ⟨v7, a7, b7, h⟩ := Am h
     refine qi AG Dh a7 (Ak b7) rfl (qk Ch rfl (qa rfl (qa rfl (Ad (Ab (Aa Ae rfl (qm rfl (EO rfl (Ad ?_)))))))))
     refine As rfl (fun c8 => ?_) (fun c8 => ?_)
     ·have h := Ap c8 h
      refine Aa Ae rfl (qm rfl (qm rfl (En AG Dh Kd rfl ?_)))
      obtain ⟨c9, h⟩ := AN h
      refine DI (f := Ah) AG AG Dh KH Kd c9 rfl (qa rfl (Ad ?_))
      exact Aw _ h (sm [(2004, 34)] _ _ rfl rfl)
     ·have h := Aq c8 h
      refine Av ?_
      exact Aw _ h (sm [(2004, 2002)] _ _ rfl rfl)
    ·refine Aa Ae rfl (Bn rfl (qm rfl (Ad ?_)))
     exact Aw _ h (sm [(2002, 2004)] _ _ rfl rfl)
   ·have h := Aq c5 h
    refine A6 ?_
    exact Aw _ h (sm [(2003, 2002)] _ _ rfl rfl)
  ·refine Al hs (Ab (Aa Ae rfl (qa rfl (Ad (Ab (Ab (Aa Ae rfl (qm rfl (Fg AG rfl ?_)))))))))
   obtain ⟨c10, h⟩ := AN h
   refine Ib rfl c10 (qm rfl (Ad ?_))
   refine AR (L := CH N p1 v4) h (fun v11 => mk [(3, .e (.one (.ptr 3 0))), (7, .e (.one (.own 2006))), (10, .e (.one (.own 2007))), (38, .e (.one (.pure (.val (.int .i64 ((Dv .i64 1 ((v4.length : Int))))))))), (39, .e (.one (.pure (.val (.int .i64 v11.2)))))] [(3, .box [.pure (.sl (p1.fBase.map Ah)), .pure (.sl (p1.fNext.map Ah)), .pure (.sl (p1.fHeld.map Ba))]), (2006, .vec 1 (v4.map Ah)), (2007, .vec 3 (v11.1.map Eg))]) (fun v12 => mk [(10, .e (.one (.own 2008)))] [(2008, .vec 3 (v12.map Eg))]) (fun _ _ => rfl) ((Cj 10 2027 3 rfl rfl rfl).trans (sm [(2006, 2003), (2007, 2027)] _ _ rfl rfl)) (fun j11 n11 v11 h => ?_) (fun v12 s h hs => ?_)
   ·unfold CH at h
    refine Ab (Aa Ae rfl (A8 rfl (Ad (Ab ?_))))
    refine As rfl (fun c13 => ?_) (fun c13 => ?_)
    ·have h := Ap c13 h
     refine Av (Ab (AW (Ab (Aa Ae rfl (qm rfl (qa rfl (Ad (Ab (Aa Ae rfl (qf CK rfl (ql A9 rfl ?_)))))))))))
     obtain ⟨v14, a14, h⟩ := bind_some h
     refine AM [2009] (Dy N p1.fBase v14 a14) Tz rfl (qf BD rfl (ql A9 rfl ?_))
     obtain ⟨v15, a15, h⟩ := bind_some h
     refine AM [2010] (Dy N p1.fNext v15 a15) Tz rfl (qf Cy rfl (ql Gf rfl ?_))
     obtain ⟨v16, a16, h⟩ := bind_some h
     refine AM [2011] (ER N p1.fHeld v16 a16) WB rfl (A4 C8 GA rfl (qz C8 rfl (qs AU rfl (A0 (by kernel_rfl) (Ab (Ab (Aa Ae rfl (qm rfl (Fg AG rfl (qm rfl (Ad ?_)))))))))))
     refine AR (L := CL N v4 v11) h (fun v17 => mk [(3, .e (.one (.ptr 3 0))), (7, .e (.one (.own 2015))), (10, .e (.one (.own 2016))), (11, .e (.one (.pure (.val (.int .i64 v11.2))))), (12, .e (.one (.ptr 12 0))), (38, .e (.one (.pure (.val (.int .i64 ((Dv .i64 1 ((v4.length : Int))))))))), (39, .e (.one (.pure (.val (.int .i64 v11.2))))), (52, .e (.one (.own 2015))), (53, .e (.one (.pure (.val (.int .i64 ((v4.length : Int))))))), (54, .e (.one (.pure (.val (.int .i64 v17.2)))))] [(3, .box [.pure (.sl (p1.fBase.map Ah)), .pure (.sl (p1.fNext.map Ah)), .pure (.sl (p1.fHeld.map Ba))]), (12, .box [.own 2012, .own 2013, .own 2014]), (2012, .vec 1 (v14.map Ah)), (2013, .vec 1 (v17.1.map Ah)), (2014, .vec 1 (v16.map Ba)), (2015, .vec 1 (v4.map Ah)), (2016, .vec 3 (v11.1.map Eg))]) (fun v18 => mk [(3, .e (.one (.ptr 3 0))), (7, .e (.one (.own 2020))), (10, .e (.one (.own 2021))), (12, .e (.one (.ptr 12 0))), (38, .e (.one (.pure (.val (.int .i64 ((Dv .i64 1 ((v4.length : Int))))))))), (39, .e (.one (.pure (.val (.int .i64 v11.2)))))] [(3, .box [.pure (.sl (p1.fBase.map Ah)), .pure (.sl (p1.fNext.map Ah)), .pure (.sl (p1.fHeld.map Ba))]), (12, .box [.own 2017, .own 2018, .own 2019]), (2017, .vec 1 (v14.map Ah)), (2018, .vec 1 (v18.map Ah)), (2019, .vec 1 (v16.map Ba)), (2020, .vec 1 (v4.map Ah)), (2021, .vec 3 (v11.1.map Eg))]) (fun _ _ => rfl) (sm [(2012, 2009), (2013, 2010), (2014, 2011), (2015, 2006), (2016, 2007)] _ _ rfl rfl) (fun j17 n17 v17 h => ?_) (fun v18 s h hs => ?_)
     ·unfold CL at h
      refine Ab (Aa Ae rfl (A8 rfl (Ad (Ab ?_))))
      refine As rfl (fun c19 => ?_) (fun c19 => ?_)
      ·have h := Ap c19 h
       refine Av ?_
       refine AX h (fun v20 => mk [(3, .e (.one (.ptr 3 0))), (7, .e (.one (.own 2025))), (10, .e (.one (.own 2026))), (11, .e (.one (.pure (.val (.int .i64 v11.2))))), (12, .e (.one (.ptr 12 0))), (38, .e (.one (.pure (.val (.int .i64 ((Dv .i64 1 ((v4.length : Int))))))))), (39, .e (.one (.pure (.val (.int .i64 v11.2))))), (52, .e (.one (.own 2025))), (53, .e (.one (.pure (.val (.int .i64 ((v4.length : Int))))))), (54, .e (.one (.pure (.val (.int .i64 v17.2)))))] [(3, .box [.pure (.sl (p1.fBase.map Ah)), .pure (.sl (p1.fNext.map Ah)), .pure (.sl (p1.fHeld.map Ba))]), (12, .box [.own 2022, .own 2023, .own 2024]), (2022, .vec 1 (v14.map Ah)), (2023, .vec 1 (v20.map Ah)), (2024, .vec 1 (v16.map Ba)), (2025, .vec 1 (v4.map Ah)), (2026, .vec 3 (v11.1.map Eg))]) (fun j20 h => ?_) (fun v20 h => ?_)
       ·refine AW (Ab (Aa Ae rfl (qm rfl ?_)))
        obtain ⟨v21, a21, b21, h⟩ := Am h
        refine qI AG Dh a21 (Ak b21) rfl (qj Ch (Ak b21) rfl (qa rfl (qa rfl (Ad (Ab (Aa Ae rfl (qm rfl (qm rfl ?_))))))))
        obtain ⟨c22, h⟩ := AN h
        refine Ip rfl c22 (LP rfl (B0 rfl (Ad ?_)))
        refine As rfl (fun c23 => ?_) (fun c23 => ?_)
        ·have h := Ap c23 h
         refine Aa Ae rfl (qf BD rfl (ql A9 rfl (qm rfl ?_)))
         obtain ⟨v24, a24, b24, h⟩ := Am h
         refine qI AG Dh a24 (Ak b24) rfl ?_
         refine D8 rfl rfl rfl rfl (Ak b24) rfl Dh rfl (BM rfl) (DR Ah v17.1 _ ((-1))) ?_
         refine Ad ?_
         exact Aw _ h (sm [(2022, 2012), (2023, 2013), (2024, 2014), (2025, 2015), (2026, 2016)] _ _ rfl rfl)
        ·have h := Aq c23 h
         refine Av ?_
         exact Aw _ h (sm [(2022, 2012), (2023, 2013), (2024, 2014), (2025, 2015), (2026, 2016)] _ _ rfl rfl)
       ·refine Aa Ae rfl (Bn rfl (qm rfl (Ad ?_)))
        exact Aw _ h (sm [(2012, 2022), (2013, 2023), (2014, 2024), (2015, 2025), (2016, 2026)] _ _ rfl rfl)
      ·have h := Aq c19 h
       refine A6 ?_
       exact Aw _ h (sm [(2017, 2012), (2018, 2013), (2019, 2014), (2020, 2015), (2021, 2016)] _ _ rfl rfl)
     ·refine Al hs (Aa Ae rfl (qm rfl (qL Bx AU rfl (DK (BL 2017 _ _ rfl rfl) (DK (BL 2018 _ _ rfl rfl) (DK (BL 2019 _ _ rfl rfl) (En Kh AU C8 rfl ?_)))))))
      obtain ⟨c25, h⟩ := AN h
      refine DI (f := Eg) Kh Kh AU U3 C8 c25 rfl (qa rfl (Ad (Aa Ae rfl (Bn rfl (qm rfl (Ad ?_))))))
      exact Aw _ h (sm [(2006, 2020), (2007, 72)] _ _ rfl rfl)
    ·have h := Aq c13 h
     refine A6 ?_
     exact Aw _ h (sm [(2008, 2007)] _ _ rfl rfl)
   ·refine Al hs (Ab (Aa Ae rfl (qm rfl (qa rfl (qa rfl (Ad ?_))))))
    obtain rfl := sj h
    refine Al (sm [(1000, 2008)] [(4, .e (.one (.own 1000))), (5, .e (.one (.pure (.val (.int .i64 0)))))] [(1000, .vec 3 (v12.map Eg))] rfl rfl) (AF ?_)
    exact ⟨⟨[_, _], ⟨.tmp _ _ rfl, ⟨.tmp _ _ rfl, trivial⟩⟩, rfl⟩, ⟨rfl, trivial⟩⟩
set_option maxRecDepth 10000 in
theorem L2 (N : Nat) (p0 : Ac) (p1 : Ag) (r : (List Ao)) (h : EU N p0 p1 = some r) : AC Try.prog 76 [.e (.agg [.pure (.sl (p0.fVersions.map Ah)), .pure (.sl (p0.fNow.map Ah)), .pure (.sl (p0.fTarget.map Ah)), .pure (.sl (p0.fTables.map Ai))]), .e (.agg [.pure (.sl (p1.fBase.map Ah)), .pure (.sl (p1.fNext.map Ah)), .pure (.sl (p1.fHeld.map Ba))])] [(3, r.map AZ)] (.e (.one (.own 0))) := by
 unfold EU at h
 refine Ar (n := 98) (rs := [.tmp 4]) Try.func76 rfl rfl rfl (BM rfl) (BM rfl) rfl fun w0 S0 => ?_
 refine Ab (Aa Ae rfl (qb rfl (qb rfl (qa rfl (Ad (Ab (Aa Ae rfl (qa rfl (Ad (Ab (Ab (Aa Ae rfl (qf CC rfl (ql Gl rfl (AS DT rfl (qm rfl (Ad ?_)))))))))))))))))
 refine AR (L := C2 N p0 p1) h (fun v1 => mk [(3, .e (.one (.ptr 3 0))), (5, .e (.one (.own 2001))), (15, .e (.one (.pure (.sl (p0.fTables.map Ai))))), (16, .e (.one (.pure (.val (.int .i64 ((p0.fTables.length : Int))))))), (17, .e (.one (.pure (.val (.int .i64 v1.2)))))] [(3, .box [.pure (.sl (p1.fBase.map Ah)), .pure (.sl (p1.fNext.map Ah)), .pure (.sl (p1.fHeld.map Ba))]), (2001, .vec 3 (v1.1.map AZ))]) (fun v2 => mk [(5, .e (.one (.own 2002)))] [(2002, .vec 3 (v2.map AZ))]) (fun _ _ => rfl) ((Cj 5 2013 3 rfl rfl rfl).trans (sm [(2001, 2013)] _ _ rfl rfl)) (fun j1 n1 v1 h => ?_) (fun v2 s h hs => ?_)
 ·unfold C2 at h
  refine Ab (Aa Ae rfl (A8 rfl (Ad (Ab ?_))))
  refine As rfl (fun c3 => ?_) (fun c3 => ?_)
  ·have h := Ap c3 h
   refine Av (Ab (AW (Ab (Aa Ae rfl (qm rfl ?_)))))
   obtain ⟨v4, a4, b4, h⟩ := Am h
   refine qi DT DL a4 (Ak b4) rfl (qK Gw DL rfl (qz J5 rfl (qa rfl (qs DL rfl (Ad (Ab (Aa Ae rfl (qL Bx AU rfl (qf CU rfl (ql Ch rfl ?_))))))))))
   obtain ⟨v5, a5, h⟩ := bind_some h
   refine AM [] (Ih N p1 v4.fFrom v5 a5) Vu rfl (qL Bx AU rfl (qf Ho rfl (ql Ch rfl ?_)))
   obtain ⟨v6, a6, h⟩ := bind_some h
   refine AM [] (Ih N p1 v4.fTo v6 a6) Vu rfl (qa rfl (qa rfl (A0 (by kernel_rfl) ?_)))
   refine AX h (fun v7 => mk [(3, .e (.one (.ptr 3 0))), (5, .e (.one (.own 2003))), (6, .e (.one (.pure (.val (.int .i64 v1.2))))), (7, .e (.one (.ptr 7 0))), (8, .e (.one (.pure (.val (.int .u8 v7))))), (9, .e (.one (.pure (.val (.int .u8 v6))))), (15, .e (.one (.pure (.sl (p0.fTables.map Ai))))), (16, .e (.one (.pure (.val (.int .i64 ((p0.fTables.length : Int))))))), (17, .e (.one (.pure (.val (.int .i64 v1.2)))))] [(3, .box [.pure (.sl (p1.fBase.map Ah)), .pure (.sl (p1.fNext.map Ah)), .pure (.sl (p1.fHeld.map Ba))]), (7, .box [.pure (.val (.int .i64 v4.fKind)), .pure (.val (.int .i64 v4.fFrom)), .pure (.val (.int .i64 v4.fTo)), .pure (.val (.bool v4.fAware)), .pure (.sl (v4.fOK.map (Eo eB))), .pure (.sl (v4.fRewrite.map (Eo eB)))]), (2003, .vec 3 (v1.1.map AZ))]) (fun j7 h => ?_) (fun v7 h => ?_)
   ·refine Ab (Aa Ae rfl (qL Gw DL rfl ?_))
    obtain ⟨v8, a8, h⟩ := bind_some h
    refine AM [] (IR N v4 v8 a8) Vq rfl (Ad ?_)
    refine As rfl (fun c9 => ?_) (fun c9 => ?_)
    ·have h := Ap c9 h
     refine Aa Ae rfl (qf Cy rfl (ql Gf rfl (qm rfl ?_)))
     obtain ⟨v10, a10, b10, h⟩ := Am h
     refine qi Dp Fn a10 (Ak b10) rfl (qk Ji rfl (qa rfl (Ad ?_)))
     exact Aw _ h (sm [(2003, 2001)] _ _ rfl rfl)
    ·have h := Aq c9 h
     refine Av ?_
     exact Aw _ h (sm [(2003, 2001)] _ _ rfl rfl)
   ·refine Ab (Aa Ae rfl (qf IV rfl (ql I9 rfl (AS FE rfl (qm rfl (Ad ?_))))))
    refine AR (L := B9 N v1 v4 v6 v7) h (fun v11 => mk [(3, .e (.one (.ptr 3 0))), (5, .e (.one (.own 2004))), (6, .e (.one (.pure (.val (.int .i64 v1.2))))), (7, .e (.one (.ptr 7 0))), (8, .e (.one (.pure (.val (.int .u8 v7))))), (9, .e (.one (.pure (.val (.int .u8 v6))))), (15, .e (.one (.pure (.sl (p0.fTables.map Ai))))), (16, .e (.one (.pure (.val (.int .i64 ((p0.fTables.length : Int))))))), (17, .e (.one (.pure (.val (.int .i64 v1.2))))), (39, .e (.one (.pure (.val (.int .i64 ((v4.fOK.length : Int))))))), (40, .e (.one (.pure (.val (.int .i64 v11.2)))))] [(3, .box [.pure (.sl (p1.fBase.map Ah)), .pure (.sl (p1.fNext.map Ah)), .pure (.sl (p1.fHeld.map Ba))]), (7, .box [.pure (.val (.int .i64 v4.fKind)), .pure (.val (.int .i64 v4.fFrom)), .pure (.val (.int .i64 v4.fTo)), .pure (.val (.bool v4.fAware)), .pure (.sl (v4.fOK.map (Eo eB))), .pure (.sl (v4.fRewrite.map (Eo eB)))]), (2004, .vec 3 (v11.1.map AZ))]) (fun v12 => mk [(3, .e (.one (.ptr 3 0))), (5, .e (.one (.own 2005))), (15, .e (.one (.pure (.sl (p0.fTables.map Ai))))), (16, .e (.one (.pure (.val (.int .i64 ((p0.fTables.length : Int))))))), (17, .e (.one (.pure (.val (.int .i64 v1.2)))))] [(3, .box [.pure (.sl (p1.fBase.map Ah)), .pure (.sl (p1.fNext.map Ah)), .pure (.sl (p1.fHeld.map Ba))]), (2005, .vec 3 (v12.map AZ))]) (fun _ _ => rfl) (sm [(2004, 2003)] _ _ rfl rfl) (fun j11 n11 v11 h => ?_) (fun v12 s h hs => ?_)
    ·unfold B9 at h
     refine Ab (Aa Ae rfl (A8 rfl (Ad (Ab ?_))))
     refine As rfl (fun c13 => ?_) (fun c13 => ?_)
     ·have h := Ap c13 h
      refine Av ?_
      refine AX h (fun v14 => mk [(3, .e (.one (.ptr 3 0))), (5, .e (.one (.own 2006))), (6, .e (.one (.pure (.val (.int .i64 v1.2))))), (7, .e (.one (.ptr 7 0))), (8, .e (.one (.pure (.val (.int .u8 v7))))), (9, .e (.one (.pure (.val (.int .u8 v6))))), (15, .e (.one (.pure (.sl (p0.fTables.map Ai))))), (16, .e (.one (.pure (.val (.int .i64 ((p0.fTables.length : Int))))))), (17, .e (.one (.pure (.val (.int .i64 v1.2))))), (39, .e (.one (.pure (.val (.int .i64 ((v4.fOK.length : Int))))))), (40, .e (.one (.pure (.val (.int .i64 v11.2)))))] [(3, .box [.pure (.sl (p1.fBase.map Ah)), .pure (.sl (p1.fNext.map Ah)), .pure (.sl (p1.fHeld.map Ba))]), (7, .box [.pure (.val (.int .i64 v4.fKind)), .pure (.val (.int .i64 v4.fFrom)), .pure (.val (.int .i64 v4.fTo)), .pure (.val (.bool v4.fAware)), .pure (.sl (v4.fOK.map (Eo eB))), .pure (.sl (v4.fRewrite.map (Eo eB)))]), (2006, .vec 3 (v14.map AZ))]) (fun j14 h => ?_) (fun v14 h => ?_)
      ·refine AW (Ab (Aa Ae rfl (qm rfl (qa rfl (Ad (Ab (Ab (Aa Ae rfl (qm rfl (qm rfl ?_))))))))))
       obtain ⟨c15, h⟩ := AN h
       refine Ip rfl c15 (LP rfl (B0 rfl (Ad ?_)))
       refine As rfl (fun c16 => ?_) (fun c16 => ?_)
       ·have h := Ap c16 h
        refine A6 ?_
        exact Aw _ h (sm [(2006, 2004)] _ _ rfl rfl)
       ·have h := Aq c16 h
        refine Av (Ab (Aa Ae rfl (qa rfl (Ad (Ab (Ab (Aa Ae rfl (qf IV rfl (ql I9 rfl (qm rfl ?_))))))))))
        obtain ⟨v17, a17, b17, h⟩ := Am h
        refine qi FE L4 a17 (Ak b17) rfl (qk OJ rfl (AS FO rfl (qm rfl (Ad ?_))))
        refine AR (L := BQ N v1 v4 v6 v11 v17) h (fun v18 => mk [(3, .e (.one (.ptr 3 0))), (5, .e (.one (.own 2007))), (6, .e (.one (.pure (.val (.int .i64 v1.2))))), (7, .e (.one (.ptr 7 0))), (8, .e (.one (.pure (.val (.int .u8 v7))))), (9, .e (.one (.pure (.val (.int .u8 v6))))), (10, .e (.one (.pure (.val (.int .i64 v11.2))))), (11, .e (.one (.pure (.val (.bool v18.2.1))))), (15, .e (.one (.pure (.sl (p0.fTables.map Ai))))), (16, .e (.one (.pure (.val (.int .i64 ((p0.fTables.length : Int))))))), (17, .e (.one (.pure (.val (.int .i64 v1.2))))), (39, .e (.one (.pure (.val (.int .i64 ((v4.fOK.length : Int))))))), (40, .e (.one (.pure (.val (.int .i64 v11.2))))), (52, .e (.one (.pure (.sl (v17.map eB))))), (53, .e (.one (.pure (.val (.int .i64 ((v17.length : Int))))))), (54, .e (.one (.pure (.val (.int .i64 v18.2.2)))))] [(3, .box [.pure (.sl (p1.fBase.map Ah)), .pure (.sl (p1.fNext.map Ah)), .pure (.sl (p1.fHeld.map Ba))]), (7, .box [.pure (.val (.int .i64 v4.fKind)), .pure (.val (.int .i64 v4.fFrom)), .pure (.val (.int .i64 v4.fTo)), .pure (.val (.bool v4.fAware)), .pure (.sl (v4.fOK.map (Eo eB))), .pure (.sl (v4.fRewrite.map (Eo eB)))]), (2007, .vec 3 (v18.1.map AZ))]) (fun v19 => mk [(3, .e (.one (.ptr 3 0))), (5, .e (.one (.own 2008))), (6, .e (.one (.pure (.val (.int .i64 v1.2))))), (7, .e (.one (.ptr 7 0))), (8, .e (.one (.pure (.val (.int .u8 v7))))), (9, .e (.one (.pure (.val (.int .u8 v6))))), (10, .e (.one (.pure (.val (.int .i64 v11.2))))), (11, .e (.one (.pure (.val (.bool v19.2))))), (15, .e (.one (.pure (.sl (p0.fTables.map Ai))))), (16, .e (.one (.pure (.val (.int .i64 ((p0.fTables.length : Int))))))), (17, .e (.one (.pure (.val (.int .i64 v1.2))))), (39, .e (.one (.pure (.val (.int .i64 ((v4.fOK.length : Int))))))), (40, .e (.one (.pure (.val (.int .i64 v11.2)))))] [(3, .box [.pure (.sl (p1.fBase.map Ah)), .pure (.sl (p1.fNext.map Ah)), .pure (.sl (p1.fHeld.map Ba))]), (7, .box [.pure (.val (.int .i64 v4.fKind)), .pure (.val (.int .i64 v4.fFrom)), .pure (.val (.int .i64 v4.fTo)), .pure (.val (.bool v4.fAware)), .pure (.sl (v4.fOK.map (Eo eB))), .pure (.sl (v4.fRewrite.map (Eo eB)))]), (2008, .vec 3 (v19.1.map AZ))]) (fun _ _ => rfl) (sm [(2007, 2004)] _ _ rfl rfl) (fun j18 n18 v18 h => ?_) (fun v19 s h hs => ?_)
        ·unfold BQ at h
         refine Ab (Aa Ae rfl (A8 rfl (Ad (Ab ?_))))
         refine As rfl (fun c20 => ?_) (fun c20 => ?_)
         ·have h := Ap c20 h
          refine Av ?_
          refine AX h (fun v21 => mk [(3, .e (.one (.ptr 3 0))), (5, .e (.one (.own 2009))), (6, .e (.one (.pure (.val (.int .i64 v1.2))))), (7, .e (.one (.ptr 7 0))), (8, .e (.one (.pure (.val (.int .u8 v7))))), (9, .e (.one (.pure (.val (.int .u8 v6))))), (10, .e (.one (.pure (.val (.int .i64 v11.2))))), (11, .e (.one (.pure (.val (.bool v21.2))))), (15, .e (.one (.pure (.sl (p0.fTables.map Ai))))), (16, .e (.one (.pure (.val (.int .i64 ((p0.fTables.length : Int))))))), (17, .e (.one (.pure (.val (.int .i64 v1.2))))), (39, .e (.one (.pure (.val (.int .i64 ((v4.fOK.length : Int))))))), (40, .e (.one (.pure (.val (.int .i64 v11.2))))), (52, .e (.one (.pure (.sl (v17.map eB))))), (53, .e (.one (.pure (.val (.int .i64 ((v17.length : Int))))))), (54, .e (.one (.pure (.val (.int .i64 v18.2.2)))))] [(3, .box [.pure (.sl (p1.fBase.map Ah)), .pure (.sl (p1.fNext.map Ah)), .pure (.sl (p1.fHeld.map Ba))]), (7, .box [.pure (.val (.int .i64 v4.fKind)), .pure (.val (.int .i64 v4.fFrom)), .pure (.val (.int .i64 v4.fTo)), .pure (.val (.bool v4.fAware)), .pure (.sl (v4.fOK.map (Eo eB))), .pure (.sl (v4.fRewrite.map (Eo eB)))]), (2009, .vec 3 (v21.1.map AZ))]) (fun j21 h => ?_) (fun v21 h => ?_)
          ·refine AW (Ab (Aa Ae rfl (qm rfl ?_)))
           obtain ⟨v22, a22, b22, h⟩ := Am h
           refine qi FO Pt a22 (Ak b22) rfl (qk Q5 rfl (qa rfl (qa rfl (Ad (Ab (Ab (Aa Ae rfl (qm rfl (qm rfl ?_)))))))))
           obtain ⟨c23, h⟩ := AN h
           refine Ip rfl c23 (LP rfl (B0 rfl (Ad ?_)))
           refine As rfl (fun c24 => ?_) (fun c24 => ?_)
           ·have h := Ap c24 h
            refine A6 ?_
            exact Aw _ h (sm [(2009, 2007)] _ _ rfl rfl)
           ·have h := Aq c24 h
            refine Av ?_
            refine AX h (fun v25 => mk [(3, .e (.one (.ptr 3 0))), (5, .e (.one (.own 2010))), (6, .e (.one (.pure (.val (.int .i64 v1.2))))), (7, .e (.one (.ptr 7 0))), (8, .e (.one (.pure (.val (.int .u8 v7))))), (9, .e (.one (.pure (.val (.int .u8 v6))))), (10, .e (.one (.pure (.val (.int .i64 v11.2))))), (11, .e (.one (.pure (.val (.bool v25))))), (12, .e (.one (.pure (.val (.int .i64 v18.2.2))))), (13, .e (.one (.pure (.val (.bool v22))))), (15, .e (.one (.pure (.sl (p0.fTables.map Ai))))), (16, .e (.one (.pure (.val (.int .i64 ((p0.fTables.length : Int))))))), (17, .e (.one (.pure (.val (.int .i64 v1.2))))), (39, .e (.one (.pure (.val (.int .i64 ((v4.fOK.length : Int))))))), (40, .e (.one (.pure (.val (.int .i64 v11.2))))), (52, .e (.one (.pure (.sl (v17.map eB))))), (53, .e (.one (.pure (.val (.int .i64 ((v17.length : Int))))))), (54, .e (.one (.pure (.val (.int .i64 v18.2.2)))))] [(3, .box [.pure (.sl (p1.fBase.map Ah)), .pure (.sl (p1.fNext.map Ah)), .pure (.sl (p1.fHeld.map Ba))]), (7, .box [.pure (.val (.int .i64 v4.fKind)), .pure (.val (.int .i64 v4.fFrom)), .pure (.val (.int .i64 v4.fTo)), .pure (.val (.bool v4.fAware)), .pure (.sl (v4.fOK.map (Eo eB))), .pure (.sl (v4.fRewrite.map (Eo eB)))]), (2010, .vec 3 (v18.1.map AZ))]) (fun j25 h => ?_) (fun v25 h => ?_)
            ·refine Aa Ae rfl (qm rfl (qm rfl ?_))
             refine AI (t := 65) rfl (fun c26 => ?_) (fun c26 => ?_)
             ·have h := Ap c26 h
              refine qn rfl (qp rfl (qa rfl (Ad ?_)))
              exact Aw _ h (sm [(2010, 2007)] _ _ rfl rfl)
             ·have h := Aq c26 h
              refine qm rfl (qp rfl (qa rfl (Ad ?_)))
              exact Aw _ h (sm [(2010, 2007)] _ _ rfl rfl)
            ·refine AX h (fun v27 => mk [(3, .e (.one (.ptr 3 0))), (5, .e (.one (.own 2011))), (6, .e (.one (.pure (.val (.int .i64 v1.2))))), (7, .e (.one (.ptr 7 0))), (8, .e (.one (.pure (.val (.int .u8 v7))))), (9, .e (.one (.pure (.val (.int .u8 v6))))), (10, .e (.one (.pure (.val (.int .i64 v11.2))))), (11, .e (.one (.pure (.val (.bool v25))))), (12, .e (.one (.pure (.val (.int .i64 v18.2.2))))), (15, .e (.one (.pure (.sl (p0.fTables.map Ai))))), (16, .e (.one (.pure (.val (.int .i64 ((p0.fTables.length : Int))))))), (17, .e (.one (.pure (.val (.int .i64 v1.2))))), (39, .e (.one (.pure (.val (.int .i64 ((v4.fOK.length : Int))))))), (40, .e (.one (.pure (.val (.int .i64 v11.2))))), (52, .e (.one (.pure (.sl (v17.map eB))))), (53, .e (.one (.pure (.val (.int .i64 ((v17.length : Int))))))), (54, .e (.one (.pure (.val (.int .i64 v18.2.2))))), (74, .e (.one (.pure (.val (.bool v27)))))] [(3, .box [.pure (.sl (p1.fBase.map Ah)), .pure (.sl (p1.fNext.map Ah)), .pure (.sl (p1.fHeld.map Ba))]), (7, .box [.pure (.val (.int .i64 v4.fKind)), .pure (.val (.int .i64 v4.fFrom)), .pure (.val (.int .i64 v4.fTo)), .pure (.val (.bool v4.fAware)), .pure (.sl (v4.fOK.map (Eo eB))), .pure (.sl (v4.fRewrite.map (Eo eB)))]), (2011, .vec 3 (v18.1.map AZ))]) (fun j27 h => ?_) (fun v27 h => ?_)
             ·refine Aa Ae rfl (qm rfl (CG rfl (qm rfl ?_)))
              refine AI (t := 70) rfl (fun c28 => ?_) (fun c28 => ?_)
              ·have h := Ap c28 h
               refine qf H0 rfl (ql Q5 rfl (CG rfl (qp rfl (Ad ?_))))
               exact Aw _ h (sm [(2011, 2010)] _ _ rfl rfl)
              ·have h := Aq c28 h
               refine qn rfl (qn rfl (qn rfl (qp rfl (Ad ?_))))
               exact Aw _ h (sm [(2011, 2010)] _ _ rfl rfl)
             ·refine As rfl (fun c29 => ?_) (fun c29 => ?_)
              ·have h := Ap c29 h
               refine Aa Ae rfl (qm rfl (qm rfl (qm rfl (qm rfl (A4 G6 MA rfl (En F4 Fm G6 rfl ?_))))))
               obtain ⟨c30, h⟩ := AN h
               refine DI (f := AZ) F4 F4 Fm Q9 G6 c30 rfl (qa rfl (Ad ?_))
               exact Aw _ h (sm [(2009, 81)] _ _ rfl rfl)
              ·have h := Aq c29 h
               refine Av ?_
               exact Aw _ h (sm [(2009, 2011)] _ _ rfl rfl)
          ·refine Aa Ae rfl (Bn rfl (qm rfl (Ad ?_)))
           exact Aw _ h (sm [(2007, 2009)] _ _ rfl rfl)
         ·have h := Aq c20 h
          refine A6 ?_
          exact Aw _ h (sm [(2008, 2007)] _ _ rfl rfl)
        ·refine Al hs ?_
         refine AX h (fun v31 => mk [(3, .e (.one (.ptr 3 0))), (5, .e (.one (.own 2012))), (6, .e (.one (.pure (.val (.int .i64 v1.2))))), (7, .e (.one (.ptr 7 0))), (8, .e (.one (.pure (.val (.int .u8 v7))))), (9, .e (.one (.pure (.val (.int .u8 v6))))), (10, .e (.one (.pure (.val (.int .i64 v11.2))))), (15, .e (.one (.pure (.sl (p0.fTables.map Ai))))), (16, .e (.one (.pure (.val (.int .i64 ((p0.fTables.length : Int))))))), (17, .e (.one (.pure (.val (.int .i64 v1.2))))), (39, .e (.one (.pure (.val (.int .i64 ((v4.fOK.length : Int))))))), (40, .e (.one (.pure (.val (.int .i64 v11.2))))), (88, .e (.one (.pure (.val (.bool v31)))))] [(3, .box [.pure (.sl (p1.fBase.map Ah)), .pure (.sl (p1.fNext.map Ah)), .pure (.sl (p1.fHeld.map Ba))]), (7, .box [.pure (.val (.int .i64 v4.fKind)), .pure (.val (.int .i64 v4.fFrom)), .pure (.val (.int .i64 v4.fTo)), .pure (.val (.bool v4.fAware)), .pure (.sl (v4.fOK.map (Eo eB))), .pure (.sl (v4.fRewrite.map (Eo eB)))]), (2012, .vec 3 (v19.1.map AZ))]) (fun j31 h => ?_) (fun v31 h => ?_)
         ·refine Aa Ae rfl (qf H0 rfl (ql Q5 rfl (qm rfl ?_)))
          refine AI (t := 85) rfl (fun c32 => ?_) (fun c32 => ?_)
          ·have h := Ap c32 h
           refine qm rfl (CG rfl (qp rfl (Ad ?_)))
           exact Aw _ h (sm [(2012, 2008)] _ _ rfl rfl)
          ·have h := Aq c32 h
           refine qn rfl (qn rfl (qp rfl (Ad ?_)))
           exact Aw _ h (sm [(2012, 2008)] _ _ rfl rfl)
         ·refine As rfl (fun c33 => ?_) (fun c33 => ?_)
          ·have h := Ap c33 h
           refine Aa Ae rfl (qm rfl (qm rfl (qm rfl (A4 G6 MA rfl (En F4 Fm G6 rfl ?_)))))
           obtain ⟨c34, h⟩ := AN h
           refine DI (f := AZ) F4 F4 Fm Q9 G6 c34 rfl (qa rfl (Ad ?_))
           exact Aw _ h (sm [(2006, 94)] _ _ rfl rfl)
          ·have h := Aq c33 h
           refine Av ?_
           exact Aw _ h (sm [(2006, 2012)] _ _ rfl rfl)
      ·refine Aa Ae rfl (Bn rfl (qm rfl (Ad ?_)))
       exact Aw _ h (sm [(2004, 2006)] _ _ rfl rfl)
     ·have h := Aq c13 h
      refine A6 ?_
      exact Aw _ h (sm [(2005, 2004)] _ _ rfl rfl)
    ·refine Al hs (Aa Ae rfl (Bn rfl (qm rfl (Ad ?_))))
     exact Aw _ h (sm [(2001, 2005)] _ _ rfl rfl)
  ·have h := Aq c3 h
   refine A6 ?_
   exact Aw _ h (sm [(2002, 2001)] _ _ rfl rfl)
 ·refine Al hs (Ab (Aa Ae rfl (qm rfl (qa rfl (Ad ?_)))))
  obtain rfl := sj h
  refine Al (sm [(1000, 2002)] [(4, .e (.one (.own 1000)))] [(1000, .vec 3 (v2.map AZ))] rfl rfl) (AF ?_)
  exact ⟨⟨[_], ⟨.tmp _ _ rfl, trivial⟩, rfl⟩, ⟨rfl, trivial⟩⟩
set_option maxRecDepth 10000 in
theorem Jx (N : Nat) (p0 : Ac) (p1 : Ag) (r : Ag × Ao × Int) (h : E7 N p0 p1 = some r) : AC Try.prog 38 [.e (.agg [.pure (.sl (p0.fVersions.map Ah)), .pure (.sl (p0.fNow.map Ah)), .pure (.sl (p0.fTarget.map Ah)), .pure (.sl (p0.fTables.map Ai))]), .e (.agg [.pure (.sl (p1.fBase.map Ah)), .pure (.sl (p1.fNext.map Ah)), .pure (.sl (p1.fHeld.map Ba))])] [] (.tup [.agg [.pure (.sl (r.1.fBase.map Ah)), .pure (.sl (r.1.fNext.map Ah)), .pure (.sl (r.1.fHeld.map Ba))], .agg [.pure (.val (.int .i64 r.2.1.fTable)), .pure (.val (.int .i64 r.2.1.fWriter)), .pure (.val (.int .i64 r.2.1.fReader))], .one (.pure (.val (.int .i64 r.2.2)))]) := by
 unfold E7 at h
 refine Ar (n := 42) (rs := [.cell 4 43, .cell 5 45, .tmp 6]) Try.func38 rfl rfl rfl (BM rfl) (BM rfl) rfl fun w0 S0 => ?_
 refine Ab (Aa Ae rfl (qb rfl (qb rfl (qz C8 rfl (qz G6 rfl (qa rfl (Ad (Ab (Aa Ae rfl (qL DQ Di rfl (qL Bx AU rfl ?_)))))))))))
 obtain ⟨v1, a1, h⟩ := bind_some h
 refine AM [2001] (O4 N p0 p1 v1 a1) XF rfl (qm rfl (qx rfl (qx rfl (qa rfl (qa rfl (Ad (Ab (Ab (Aa Ae rfl (qm rfl (CB rfl (Ad ?_))))))))))))
 refine As rfl (fun c2 => ?_) (fun c2 => ?_)
 ·have h := Ap c2 h
  refine Ab (Aa Ae rfl (A4 C8 GA rfl (A4 G6 MA rfl (qm rfl (qs AU rfl (qs Fm rfl (qa rfl (Ad ?_))))))))
  obtain rfl := sj h
  refine Al ((Hy 4 _ rfl).trans (sm [] [(4, .e (.one (.ptr 4 0))), (5, .e (.one (.ptr 5 0))), (6, .e (.one (.pure (.val (.int .i64 v1.2)))))] [(4, .box [.pure (.sl ((([] : List Int)).map Ah)), .pure (.sl ((([] : List Int)).map Ah)), .pure (.sl ((([] : List Int)).map Ba))]), (5, .box [.pure (.val (.int .i64 0)), .pure (.val (.int .i64 0)), .pure (.val (.int .i64 0))])] rfl rfl)) (AF ?_)
  exact ⟨⟨[_, _, _], ⟨.cellN _ _ _ _ _ _ _ rfl rfl Bx AU rfl rfl (Hc rfl), ⟨.cellN _ _ _ _ _ _ _ rfl rfl Ly Fm rfl rfl (Hc rfl), ⟨.tmp _ _ rfl, trivial⟩⟩⟩, rfl⟩, trivial⟩
 ·have h := Aq c2 h
  refine Av (Ab (Ab (Aa Ae rfl (qm rfl (Fg Kh rfl (qm rfl (Ad ?_)))))))
  refine AR (L := Ei N p0 v1) h (fun v3 => mk [(2, .e (.one (.ptr 2 0))), (4, .e (.one (.ptr 4 0))), (5, .e (.one (.ptr 5 0))), (23, .e (.one (.own 2002))), (24, .e (.one (.pure (.val (.int .i64 ((v1.1.length : Int))))))), (25, .e (.one (.pure (.val (.int .i64 v3)))))] [(2, .box [.pure (.sl (p0.fVersions.map Ah)), .pure (.sl (p0.fNow.map Ah)), .pure (.sl (p0.fTarget.map Ah)), .pure (.sl (p0.fTables.map Ai))]), (4, .box [.pure (.nil0), .pure (.nil0), .pure (.nil0)]), (5, .box [.pure (.val (.int .i64 0)), .pure (.val (.int .i64 0)), .pure (.val (.int .i64 0))]), (2002, .vec 3 (v1.1.map Eg))]) (fun v4 => mk [(4, .e (.one (.ptr 4 0))), (5, .e (.one (.ptr 5 0)))] [(4, .box [.pure (.nil0), .pure (.nil0), .pure (.nil0)]), (5, .box [.pure (.val (.int .i64 0)), .pure (.val (.int .i64 0)), .pure (.val (.int .i64 0))])]) (fun _ _ => rfl) (sm [(2002, 2001)] _ _ rfl rfl) (fun j3 n3 v3 h => ?_) (fun v4 s h hs => ?_)
  ·unfold Ei at h
   refine Ab (Aa Ae rfl (A8 rfl (Ad (Ab ?_))))
   refine As rfl (fun c5 => ?_) (fun c5 => ?_)
   ·have h := Ap c5 h
    refine Av (Ab (AW (Ab (Aa Ae rfl ?_))))
    obtain ⟨v6, a6, b6, h⟩ := Am h
    refine qI Kh AU a6 (Ak b6) rfl (qJ Bx AU (Ak b6) rfl (qz C8 rfl (qs AU rfl (Ad (Ab (Aa Ae rfl (qL DQ Di rfl (qL Bx AU rfl ?_))))))))
    obtain ⟨v7, a7, h⟩ := bind_some h
    refine AM [2003] (L2 N p0 v6 v7 a7) X6 rfl (qa rfl (Ad (Ab (Aa Ae rfl (qm rfl (Fg F4 rfl (Gd rfl (Ad ?_))))))))
    refine As rfl (fun c8 => ?_) (fun c8 => ?_)
    ·have h := Ap c8 h
     refine Ab (Aa Ae rfl (qL Bx AU rfl (qm rfl ?_)))
     obtain ⟨v9, a9, b9, h⟩ := Am h
     refine qI F4 Fm a9 (Ak b9) rfl (qJ Ly Fm (Ak b9) rfl (qs AU rfl (qs Fm rfl (qa rfl (A0 (by kernel_rfl) ?_)))))
     obtain rfl := sj h
     refine Al (sm [] [(4, .e (.one (.ptr 4 0))), (5, .e (.one (.ptr 5 0))), (6, .e (.one (.pure (.val (.int .i64 0)))))] [(4, .box [.pure (.sl (v6.fBase.map Ah)), .pure (.sl (v6.fNext.map Ah)), .pure (.sl (v6.fHeld.map Ba))]), (5, .box [.pure (.val (.int .i64 v9.fTable)), .pure (.val (.int .i64 v9.fWriter)), .pure (.val (.int .i64 v9.fReader))])] rfl rfl) (AF ?_)
     exact ⟨⟨[_, _, _], ⟨.cellN _ _ _ _ _ _ _ rfl rfl Bx AU rfl rfl (Hc rfl), ⟨.cellN _ _ _ _ _ _ _ rfl rfl Ly Fm rfl rfl (Hc rfl), ⟨.tmp _ _ rfl, trivial⟩⟩⟩, rfl⟩, trivial⟩
    ·have h := Aq c8 h
     refine Av (Aa Ae rfl (Bn rfl (qm rfl (Ad ?_))))
     exact Aw _ h (sm [] _ _ rfl rfl)
   ·have h := Aq c5 h
    refine A6 ?_
    exact Aw _ h (sm [] _ _ rfl rfl)
  ·refine Al hs (Ab (Aa Ae rfl (A4 C8 GA rfl (A4 G6 MA rfl (qs AU rfl (qs Fm rfl (qa rfl (Ad ?_))))))))
   obtain rfl := sj h
   refine Al ((Hy 4 _ rfl).trans (sm [] [(4, .e (.one (.ptr 4 0))), (5, .e (.one (.ptr 5 0))), (6, .e (.one (.pure (.val (.int .i64 15)))))] [(4, .box [.pure (.sl ((([] : List Int)).map Ah)), .pure (.sl ((([] : List Int)).map Ah)), .pure (.sl ((([] : List Int)).map Ba))]), (5, .box [.pure (.val (.int .i64 0)), .pure (.val (.int .i64 0)), .pure (.val (.int .i64 0))])] rfl rfl)) (AF ?_)
   exact ⟨⟨[_, _, _], ⟨.cellN _ _ _ _ _ _ _ rfl rfl Bx AU rfl rfl (Hc rfl), ⟨.cellN _ _ _ _ _ _ _ rfl rfl Ly Fm rfl rfl (Hc rfl), ⟨.tmp _ _ rfl, trivial⟩⟩⟩, rfl⟩, trivial⟩
set_option maxRecDepth 10000 in
theorem K2 (N : Nat) (p0 : Ac) (p1 : Ag) (r : Bool × Int) (h : Fe N p0 p1 = some r) : AC Try.prog 54 [.e (.agg [.pure (.sl (p0.fVersions.map Ah)), .pure (.sl (p0.fNow.map Ah)), .pure (.sl (p0.fTarget.map Ah)), .pure (.sl (p0.fTables.map Ai))]), .e (.agg [.pure (.sl (p1.fBase.map Ah)), .pure (.sl (p1.fNext.map Ah)), .pure (.sl (p1.fHeld.map Ba))])] [] (.tup [.one (.pure (.val (.bool r.1))), .one (.pure (.val (.int .i64 r.2)))]) := by
 unfold Fe at h
 refine Ar (n := 22) (rs := [.tmp 4, .tmp 5]) Try.func54 rfl rfl rfl (BM rfl) (BM rfl) rfl fun w0 S0 => ?_
 refine Ab (Aa Ae rfl (qb rfl (qb rfl (qa rfl (qa rfl (Ad (Ab (Aa Ae rfl (qL DQ Di rfl (qL Bx AU rfl ?_))))))))))
 obtain ⟨v1, a1, h⟩ := bind_some h
 refine AM [] (Jx N p0 p1 v1 a1) Vp rfl (qm rfl (qx rfl (qx rfl (qx rfl (qz C8 rfl (qz G6 rfl (qs AU rfl (qs Fm rfl (qa rfl (Ad (Ab (Aa Ae rfl (qm rfl (Ad (AW (Ab (Aa Ae rfl (B0 rfl (qa rfl (Ad ?_))))))))))))))))))))
 refine As rfl (fun c2 => ?_) (fun c2 => ?_)
 ·have h := Ap c2 h
  refine Ab (Aa Ae rfl (qa rfl (qa rfl (Ad ?_))))
  obtain rfl := sj h
  refine Al (sm [] [(4, .e (.one (.pure (.val (.bool false))))), (5, .e (.one (.pure (.val (.int .i64 0)))))] [] rfl rfl) (AF ?_)
  exact ⟨⟨[_, _], ⟨.tmp _ _ rfl, ⟨.tmp _ _ rfl, trivial⟩⟩, rfl⟩, trivial⟩
 ·have h := Aq c2 h
  refine Ab (Aa Ae rfl (B0 rfl (qa rfl (Ad ?_))))
  refine As rfl (fun c3 => ?_) (fun c3 => ?_)
  ·have h := Ap c3 h
   refine Ab (Aa Ae rfl (qa rfl (qa rfl (Ad ?_))))
   obtain rfl := sj h
   refine Al (sm [] [(4, .e (.one (.pure (.val (.bool true))))), (5, .e (.one (.pure (.val (.int .i64 0)))))] [] rfl rfl) (AF ?_)
   exact ⟨⟨[_, _], ⟨.tmp _ _ rfl, ⟨.tmp _ _ rfl, trivial⟩⟩, rfl⟩, trivial⟩
  ·have h := Aq c3 h
   refine Ab (Aa Ae rfl (qm rfl (qa rfl (qa rfl (Ad ?_)))))
   obtain rfl := sj h
   refine Al (sm [] [(4, .e (.one (.pure (.val (.bool false))))), (5, .e (.one (.pure (.val (.int .i64 v1.2.2)))))] [] rfl rfl) (AF ?_)
   exact ⟨⟨[_, _], ⟨.tmp _ _ rfl, ⟨.tmp _ _ rfl, trivial⟩⟩, rfl⟩, trivial⟩
set_option maxRecDepth 10000 in
theorem M0 (N : Nat) (p0 : Ag) (r : ByteArray) (h : F6 N p0 = some r) : AC Try.prog 86 [.e (.agg [.pure (.sl (p0.fBase.map Ah)), .pure (.sl (p0.fNext.map Ah)), .pure (.sl (p0.fHeld.map Ba))])] [] (.e (.one (.pure (.val (.string r))))) := by
 unfold F6 at h
 refine Ar (n := 53) (rs := [.tmp 2]) Try.func86 rfl rfl rfl (BM rfl) (BM rfl) rfl fun w0 S0 => ?_
 refine Ab (Aa Ae rfl (qb rfl (qa rfl (Ad (Ab (Aa Ae rfl (qf CK rfl (ql A9 rfl (AS AG rfl (KT rfl (qf Cy rfl (ql Gf rfl (AS Dp rfl (Bn rfl ?_))))))))))))))
 obtain ⟨c1, h⟩ := AN h
 refine JD (.p rfl) rfl rfl rfl I4 VE VO (BM rfl) V9 rfl rfl rfl c1.1 c1.2.1 c1.2.2 (OZ Ba _ ((0 : Int))) ?_
 refine qa rfl (Ad (Ab (Ab (Aa Ae rfl (qf CK rfl (ql A9 rfl (AS AG rfl (qm rfl (Ad ?_)))))))))
 refine AR (L := D4 N p0) h (fun v2 => mk [(1, .e (.one (.ptr 1 0))), (3, .e (.one (.own 2001))), (18, .e (.one (.pure (.val (.int .i64 ((p0.fBase.length : Int))))))), (19, .e (.one (.pure (.val (.int .i64 v2.2)))))] [(1, .box [.pure (.sl (p0.fBase.map Ah)), .pure (.sl (p0.fNext.map Ah)), .pure (.sl (p0.fHeld.map Ba))]), (2001, .vec 1 (v2.1.map Ba))]) (fun v3 => mk [(1, .e (.one (.ptr 1 0))), (3, .e (.one (.own 2002)))] [(1, .box [.pure (.sl (p0.fBase.map Ah)), .pure (.sl (p0.fNext.map Ah)), .pure (.sl (p0.fHeld.map Ba))]), (2002, .vec 1 (v3.map Ba))]) (fun _ _ => rfl) (sm [(2001, 15)] _ _ rfl rfl) (fun j2 n2 v2 h => ?_) (fun v3 s h hs => ?_)
 ·unfold D4 at h
  refine Ab (Aa Ae rfl (A8 rfl (Ad (Ab ?_))))
  refine As rfl (fun c4 => ?_) (fun c4 => ?_)
  ·have h := Ap c4 h
   refine Av (Ab (AW (Ab (Aa Ae rfl (qm rfl (qa rfl (Ad (Aa Ae rfl (qm rfl (qf CK rfl (ql A9 rfl (qm rfl ?_))))))))))))
   obtain ⟨v5, a5, b5, h⟩ := Am h
   refine qi AG Dh a5 (Ak b5) rfl (qk Ch rfl (If Xg X9 rfl (qf BD rfl (ql A9 rfl (qm rfl ?_)))))
   obtain ⟨v6, a6, b6, h⟩ := Am h
   refine qi AG Dh a6 (Ak b6) rfl (qk Ch rfl (Bn rfl (If Xg X9 rfl (En I4 VE V9 rfl ?_))))
   obtain ⟨c7, h⟩ := AN h
   refine DI (f := Ba) I4 I4 VE VO V9 c7 rfl (qa rfl (A0 (by kernel_rfl) (Aa Ae rfl (Bn rfl (qm rfl (Ad ?_))))))
   exact Aw _ h (sm [(2001, 37)] _ _ rfl rfl)
  ·have h := Aq c4 h
   refine A6 ?_
   exact Aw _ h (sm [(2002, 2001)] _ _ rfl rfl)
 ·refine Al hs (Ab (Ab (Aa Ae rfl (qf Cy rfl (ql Gf rfl (AS Dp rfl (qm rfl (Ad ?_))))))))
  refine AR (L := De N p0) h (fun v8 => mk [(3, .e (.one (.own 2003))), (40, .e (.one (.pure (.sl (p0.fHeld.map Ba))))), (41, .e (.one (.pure (.val (.int .i64 ((p0.fHeld.length : Int))))))), (42, .e (.one (.pure (.val (.int .i64 v8.2)))))] [(2003, .vec 1 (v8.1.map Ba))]) (fun v9 => mk [(3, .e (.one (.own 2004)))] [(2004, .vec 1 (v9.map Ba))]) (fun _ _ => rfl) (sm [(2003, 2002)] _ _ rfl rfl) (fun j8 n8 v8 h => ?_) (fun v9 s h hs => ?_)
  ·unfold De at h
   refine Ab (Aa Ae rfl (A8 rfl (Ad (Ab ?_))))
   refine As rfl (fun c10 => ?_) (fun c10 => ?_)
   ·have h := Ap c10 h
    refine Av (Ab (AW (Ab (Aa Ae rfl ?_))))
    obtain ⟨v11, a11, b11, h⟩ := Am h
    refine qi Dp Fn a11 (Ak b11) rfl (qk Ji rfl (qa rfl (Ad (Aa Ae rfl (qm rfl (qm rfl (En I4 VE V9 rfl ?_)))))))
    obtain ⟨c12, h⟩ := AN h
    refine DI (f := Ba) I4 I4 VE VO V9 c12 rfl (qa rfl (Ad (Aa Ae rfl (Bn rfl (qm rfl (Ad ?_))))))
    exact Aw _ h (sm [(2003, 49)] _ _ rfl rfl)
   ·have h := Aq c10 h
    refine A6 ?_
    exact Aw _ h (sm [(2004, 2003)] _ _ rfl rfl)
  ·refine Al hs (Ab (Aa Ae rfl (qm rfl ?_)))
   refine TA v9 (.p rfl) rfl (Tu Ba _ _ _) ⟨rfl, trivial⟩ rfl WC Ws ?_
   refine qa rfl (Ad ?_)
   obtain rfl := sj h
   refine Al (sm [] [(2, .e (.one (.pure (.val (.string ((Cp v9)))))))] [] rfl rfl) (AF ?_)
   exact ⟨⟨[_], ⟨.tmp _ _ rfl, trivial⟩, rfl⟩, trivial⟩
set_option maxRecDepth 10000 in
theorem QV (N : Nat) (p0 : Ac) (r : (List Af)) (h : GY N p0 = some r) : AC Try.prog 104 [.e (.agg [.pure (.sl (p0.fVersions.map Ah)), .pure (.sl (p0.fNow.map Ah)), .pure (.sl (p0.fTarget.map Ah)), .pure (.sl (p0.fTables.map Ai))])] [(3, r.map Az)] (.e (.one (.own 0))) := by
 unfold GY at h
 refine Ar (n := 54) (rs := [.tmp 2]) Try.func104 rfl rfl rfl (BM rfl) (BM rfl) rfl fun w0 S0 => ?_
 refine Ab (Aa Ae rfl (qb rfl (qa rfl (Ad (Ab (Aa Ae rfl (qa rfl (Ad (Ab (Ab (Aa Ae rfl (qf Bs rfl (ql A9 rfl (AS AG rfl (qm rfl (Ad ?_))))))))))))))))
 refine AR (L := CO N p0) h (fun v1 => mk [(1, .e (.one (.ptr 1 0))), (3, .e (.one (.own 2001))), (10, .e (.one (.pure (.sl (p0.fVersions.map Ah))))), (11, .e (.one (.pure (.val (.int .i64 ((p0.fVersions.length : Int))))))), (12, .e (.one (.pure (.val (.int .i64 v1.2)))))] [(1, .box [.pure (.sl (p0.fVersions.map Ah)), .pure (.sl (p0.fNow.map Ah)), .pure (.sl (p0.fTarget.map Ah)), .pure (.sl (p0.fTables.map Ai))]), (2001, .vec 3 (v1.1.map Az))]) (fun v2 => mk [(1, .e (.one (.ptr 1 0))), (3, .e (.one (.own 2002)))] [(1, .box [.pure (.sl (p0.fVersions.map Ah)), .pure (.sl (p0.fNow.map Ah)), .pure (.sl (p0.fTarget.map Ah)), .pure (.sl (p0.fTables.map Ai))]), (2002, .vec 3 (v2.map Az))]) (fun _ _ => rfl) ((Cj 3 2005 3 rfl rfl rfl).trans (sm [(2001, 2005)] _ _ rfl rfl)) (fun j1 n1 v1 h => ?_) (fun v2 s h hs => ?_)
 ·unfold CO at h
  refine Ab (Aa Ae rfl (A8 rfl (Ad (Ab ?_))))
  refine As rfl (fun c3 => ?_) (fun c3 => ?_)
  ·have h := Ap c3 h
   refine Av (Ab (AW (Ab (Aa Ae rfl (qm rfl ?_)))))
   obtain ⟨v4, a4, b4, h⟩ := Am h
   refine qi AG Dh a4 (Ak b4) rfl (qk Ch rfl (qa rfl (qa rfl (Ad (Ab (Aa Ae rfl (qm rfl (qm rfl (Ad ?_)))))))))
   refine AR (L := D5 N v1 v4) h (fun v5 => mk [(1, .e (.one (.ptr 1 0))), (3, .e (.one (.own 2003))), (4, .e (.one (.pure (.val (.int .i64 v1.2))))), (10, .e (.one (.pure (.sl (p0.fVersions.map Ah))))), (11, .e (.one (.pure (.val (.int .i64 ((p0.fVersions.length : Int))))))), (12, .e (.one (.pure (.val (.int .i64 v1.2))))), (17, .e (.one (.pure (.val (.int .i64 v4))))), (18, .e (.one (.pure (.val (.int .i64 v5.2)))))] [(1, .box [.pure (.sl (p0.fVersions.map Ah)), .pure (.sl (p0.fNow.map Ah)), .pure (.sl (p0.fTarget.map Ah)), .pure (.sl (p0.fTables.map Ai))]), (2003, .vec 3 (v5.1.map Az))]) (fun v6 => mk [(1, .e (.one (.ptr 1 0))), (3, .e (.one (.own 2004))), (10, .e (.one (.pure (.sl (p0.fVersions.map Ah))))), (11, .e (.one (.pure (.val (.int .i64 ((p0.fVersions.length : Int))))))), (12, .e (.one (.pure (.val (.int .i64 v1.2)))))] [(1, .box [.pure (.sl (p0.fVersions.map Ah)), .pure (.sl (p0.fNow.map Ah)), .pure (.sl (p0.fTarget.map Ah)), .pure (.sl (p0.fTables.map Ai))]), (2004, .vec 3 (v6.map Az))]) (fun _ _ => rfl) (sm [(2003, 2001)] _ _ rfl rfl) (fun j5 n5 v5 h => ?_) (fun v6 s h hs => ?_)
   ·unfold D5 at h
    refine Ab (Aa Ae rfl (A8 rfl (Ad (Ab ?_))))
    refine As rfl (fun c7 => ?_) (fun c7 => ?_)
    ·have h := Ap c7 h
     refine Av (Ab (AW (Ab (Aa Ae rfl (qm rfl (qa rfl (Ad (Aa Ae rfl (qm rfl (qm rfl (qm rfl (A4 GE Pb rfl (En CE C7 GE rfl ?_)))))))))))))
     obtain ⟨c8, h⟩ := AN h
     refine DI (f := Az) CE CE C7 Pq GE c8 rfl (qa rfl (Ad (Aa Ae rfl (Bn rfl (qm rfl (Ad ?_))))))
     exact Aw _ h (sm [(2003, 26)] _ _ rfl rfl)
    ·have h := Aq c7 h
     refine A6 ?_
     exact Aw _ h (sm [(2004, 2003)] _ _ rfl rfl)
   ·refine Al hs (Aa Ae rfl (Bn rfl (qm rfl (Ad ?_))))
    exact Aw _ h (sm [(2001, 2004)] _ _ rfl rfl)
  ·have h := Aq c3 h
   refine A6 ?_
   exact Aw _ h (sm [(2002, 2001)] _ _ rfl rfl)
 ·refine Al hs (Ab (Ab (Aa Ae rfl (qf Bs rfl (ql A9 rfl (AS AG rfl (qm rfl (Ad ?_))))))))
  refine AR (L := Cd N p0) h (fun v9 => mk [(1, .e (.one (.ptr 1 0))), (3, .e (.one (.own 2006))), (31, .e (.one (.pure (.val (.int .i64 ((p0.fVersions.length : Int))))))), (32, .e (.one (.pure (.val (.int .i64 v9.2)))))] [(1, .box [.pure (.sl (p0.fVersions.map Ah)), .pure (.sl (p0.fNow.map Ah)), .pure (.sl (p0.fTarget.map Ah)), .pure (.sl (p0.fTables.map Ai))]), (2006, .vec 3 (v9.1.map Az))]) (fun v10 => mk [(1, .e (.one (.ptr 1 0))), (3, .e (.one (.own 2007)))] [(1, .box [.pure (.sl (p0.fVersions.map Ah)), .pure (.sl (p0.fNow.map Ah)), .pure (.sl (p0.fTarget.map Ah)), .pure (.sl (p0.fTables.map Ai))]), (2007, .vec 3 (v10.map Az))]) (fun _ _ => rfl) (sm [(2006, 2002)] _ _ rfl rfl) (fun j9 n9 v9 h => ?_) (fun v10 s h hs => ?_)
  ·unfold Cd at h
   refine Ab (Aa Ae rfl (A8 rfl (Ad (Ab ?_))))
   refine As rfl (fun c11 => ?_) (fun c11 => ?_)
   ·have h := Ap c11 h
    refine Av (Ab (AW (Ab (Aa Ae rfl (qm rfl (qa rfl (Ad (Aa Ae rfl (qm rfl (qm rfl (A4 GE Pb rfl (En CE C7 GE rfl ?_))))))))))))
    obtain ⟨c12, h⟩ := AN h
    refine DI (f := Az) CE CE C7 Pq GE c12 rfl (qa rfl (Ad (Aa Ae rfl (Bn rfl (qm rfl (Ad ?_))))))
    exact Aw _ h (sm [(2006, 39)] _ _ rfl rfl)
   ·have h := Aq c11 h
    refine A6 ?_
    exact Aw _ h (sm [(2007, 2006)] _ _ rfl rfl)
  ·refine Al hs (Ab (Ab (Aa Ae rfl (qf CC rfl (ql Gl rfl (AS DT rfl (qm rfl (Ad ?_))))))))
   refine AR (L := Bo N p0) h (fun v13 => mk [(3, .e (.one (.own 2008))), (43, .e (.one (.pure (.val (.int .i64 ((p0.fTables.length : Int))))))), (44, .e (.one (.pure (.val (.int .i64 v13.2)))))] [(2008, .vec 3 (v13.1.map Az))]) (fun v14 => mk [(3, .e (.one (.own 2009)))] [(2009, .vec 3 (v14.map Az))]) (fun _ _ => rfl) (sm [(2008, 2007)] _ _ rfl rfl) (fun j13 n13 v13 h => ?_) (fun v14 s h hs => ?_)
   ·unfold Bo at h
    refine Ab (Aa Ae rfl (A8 rfl (Ad (Ab ?_))))
    refine As rfl (fun c15 => ?_) (fun c15 => ?_)
    ·have h := Ap c15 h
     refine Av (Ab (AW (Ab (Aa Ae rfl (qm rfl (qa rfl (Ad (Aa Ae rfl (qm rfl (qm rfl (A4 GE Pb rfl (En CE C7 GE rfl ?_))))))))))))
     obtain ⟨c16, h⟩ := AN h
     refine DI (f := Az) CE CE C7 Pq GE c16 rfl (qa rfl (Ad (Aa Ae rfl (Bn rfl (qm rfl (Ad ?_))))))
     exact Aw _ h (sm [(2008, 51)] _ _ rfl rfl)
    ·have h := Aq c15 h
     refine A6 ?_
     exact Aw _ h (sm [(2009, 2008)] _ _ rfl rfl)
   ·refine Al hs (Ab (Aa Ae rfl (qm rfl (qa rfl (Ad ?_)))))
    obtain rfl := sj h
    refine Al (sm [(1000, 2009)] [(2, .e (.one (.own 1000)))] [(1000, .vec 3 (v14.map Az))] rfl rfl) (AF ?_)
    exact ⟨⟨[_], ⟨.tmp _ _ rfl, trivial⟩, rfl⟩, ⟨rfl, trivial⟩⟩
set_option maxRecDepth 10000 in
theorem NC (N : Nat) (p0 : Ag) (r : Ag) (h : Fu N p0 = some r) : AC Try.prog 93 [.e (.agg [.pure (.sl (p0.fBase.map Ah)), .pure (.sl (p0.fNext.map Ah)), .pure (.sl (p0.fHeld.map Ba))])] [(1, r.fBase.map Ah), (1, r.fNext.map Ah), (1, r.fHeld.map Ba)] (.e (.agg [.own 0, .own 1, .own 2])) := by
 unfold Fu at h
 refine Ar (n := 13) (rs := [.cell 2 43]) Try.func93 rfl rfl rfl (BM rfl) (BM rfl) rfl fun w0 S0 => ?_
 refine Ab (Aa Ae rfl (qb rfl (qz C8 rfl (Ad (Ab (Aa Ae rfl (qf CK rfl (ql A9 rfl ?_))))))))
 obtain ⟨v1, a1, h⟩ := bind_some h
 refine AM [2001] (Dy N p0.fBase v1 a1) Tz rfl (qf BD rfl (ql A9 rfl ?_))
 obtain ⟨v2, a2, h⟩ := bind_some h
 refine AM [2002] (Dy N p0.fNext v2 a2) Tz rfl (qf Cy rfl (ql Gf rfl ?_))
 obtain ⟨v3, a3, h⟩ := bind_some h
 refine AM [2003] (ER N p0.fHeld v3 a3) WB rfl (A4 C8 GA rfl (qs AU rfl (A0 (by kernel_rfl) ?_)))
 obtain rfl := sj h
 refine Al (sm [(1000, 2001), (1001, 2002), (1002, 2003)] [(2, .e (.one (.ptr 2 0)))] [(2, .box [.own 1000, .own 1001, .own 1002]), (1000, .vec 1 (v1.map Ah)), (1001, .vec 1 (v2.map Ah)), (1002, .vec 1 (v3.map Ba))] rfl rfl) (AF ?_)
 exact ⟨⟨[_], ⟨.cellN _ _ _ _ _ _ _ rfl rfl Bx AU rfl rfl (Hc rfl), trivial⟩, rfl⟩, ⟨rfl, rfl, rfl, trivial⟩⟩
set_option maxRecDepth 10000 in
theorem Kb (N : Nat) (p0 : AE) (r : Bool) (h : EQ N p0 = some r) : AC Try.prog 119 [.e (.agg [.pure (.val (.int .i64 p0.fKind)), .pure (.val (.int .i64 p0.fFrom)), .pure (.val (.int .i64 p0.fTo)), .pure (.val (.bool p0.fAware)), .pure (.sl (p0.fOK.map (Eo eB))), .pure (.sl (p0.fRewrite.map (Eo eB)))])] [] (.e (.one (.pure (.val (.bool r))))) := by
 unfold EQ at h
 refine Ar (n := 11) (rs := [.tmp 2]) Try.func119 rfl rfl rfl (BM rfl) (BM rfl) rfl fun w0 S0 => ?_
 refine Ab (Aa Ae rfl (qb rfl (qa rfl (Ad ?_))))
 refine AX h (fun v1 => mk [(2, .e (.one (.pure (.val (.bool v1)))))] []) (fun j1 h => ?_) (fun v1 h => ?_)
 ·refine Aa Ae rfl (qf Fj rfl (ql Ch rfl (B0 rfl (qm rfl ?_))))
  refine AI (t := 6) rfl (fun c2 => ?_) (fun c2 => ?_)
  ·have h := Ap c2 h
   refine qn rfl (qn rfl (qn rfl (qp rfl (qa rfl (Ad ?_)))))
   exact Aw _ h (sm [] _ _ rfl rfl)
  ·have h := Aq c2 h
   refine qf Fj rfl (ql Ch rfl (B0 rfl (qp rfl (qa rfl (Ad ?_)))))
   exact Aw _ h (sm [] _ _ rfl rfl)
 ·obtain rfl := sj h
  refine Al (sm [] [(2, .e (.one (.pure (.val (.bool v1)))))] [] rfl rfl) (AF ?_)
  exact ⟨⟨[_], ⟨.tmp _ _ rfl, trivial⟩, rfl⟩, trivial⟩
set_option maxRecDepth 10000 in
theorem Or (N : Nat) (p0 : Ac) (p1 : Ag) (p2 : Af) (r : Bool × (List Int) × (List Int)) (h : GR N p0 p1 p2 = some r) : Fz Try.prog 112 [.e (.agg [.pure (.sl (p0.fVersions.map Ah)), .pure (.sl (p0.fNow.map Ah)), .pure (.sl (p0.fTarget.map Ah)), .pure (.sl (p0.fTables.map Ai))]), .e (.one (.ptr 90000 0)), .e (.agg [.pure (.val (.int .i64 p2.fKind)), .pure (.val (.int .i64 p2.fIndex)), .pure (.val (.int .i64 p2.fVersion))])] [(.box [.own 90001, .own 90002, .own 90003], .box [.own 90001, .own 90002, .own 90003]), (.vec 1 (p1.fBase.map Ah), .vec 1 (p1.fBase.map Ah)), (.vec 1 (p1.fNext.map Ah), .vec 1 (r.2.1.map Ah)), (.vec 1 (p1.fHeld.map Ba), .vec 1 (r.2.2.map Ba))] [] (.e (.one (.pure (.val (.bool r.1))))) := by
 unfold GR at h
 refine Gj (n := 70) (rs := [.tmp 6]) Try.func112 rfl rfl rfl (BM rfl) (BM rfl) rfl rfl (BM rfl) rfl (BM rfl) fun w0 S0 GL => ?_
 refine Al (sm [] [(0, .e (.agg [.pure (.sl (p0.fVersions.map Ah)), .pure (.sl (p0.fNow.map Ah)), .pure (.sl (p0.fTarget.map Ah)), .pure (.sl (p0.fTables.map Ai))])), (1, .e (.one (.ptr 90000 0))), (2, .e (.agg [.pure (.val (.int .i64 p2.fKind)), .pure (.val (.int .i64 p2.fIndex)), .pure (.val (.int .i64 p2.fVersion))]))] [(90000, .box [.own 90001, .own 90002, .own 90003]), (90001, .vec 1 (p1.fBase.map Ah)), (90002, .vec 1 (p1.fNext.map Ah)), (90003, .vec 1 (p1.fHeld.map Ba))] rfl rfl) (Ab (Aa Ae rfl (qb rfl (qb rfl (qa rfl (Ad (Ab ?_)))))))
 refine AX h (fun v1 => mk [(1, .e (.one (.ptr 90000 0))), (3, .e (.one (.ptr 3 0))), (5, .e (.one (.ptr 5 0))), (30, .e (.one (.pure (.val (.bool v1)))))] [(3, .box [.pure (.sl (p0.fVersions.map Ah)), .pure (.sl (p0.fNow.map Ah)), .pure (.sl (p0.fTarget.map Ah)), .pure (.sl (p0.fTables.map Ai))]), (5, .box [.pure (.val (.int .i64 p2.fKind)), .pure (.val (.int .i64 p2.fIndex)), .pure (.val (.int .i64 p2.fVersion))]), (90000, .box [.own 90001, .own 90002, .own 90003]), (90001, .vec 1 (p1.fBase.map Ah)), (90002, .vec 1 (p1.fNext.map Ah)), (90003, .vec 1 (p1.fHeld.map Ba))]) (fun j1 h => ?_) (fun v1 h => ?_)
 ·refine Aa Ae rfl (qm rfl (Uu rfl (qf BD rfl (ql A9 rfl (qf Ex rfl (ql Ch rfl ?_))))))
  obtain ⟨v2, a2, b2, h⟩ := Am h
  refine qI AG Dh a2 (Ak b2) rfl (qj Ch (Ak b2) rfl (EO rfl (qm rfl ?_)))
  refine AI (t := 18) rfl (fun c3 => ?_) (fun c3 => ?_)
  ·have h := Ap c3 h
   refine qn rfl (qn rfl (qn rfl (qn rfl (qn rfl (qn rfl (qn rfl (qn rfl (qn rfl (qn rfl (qn rfl (qp rfl (A0 (by kernel_rfl) ?_))))))))))))
   exact Aw _ h (sm [] _ _ rfl rfl)
  ·have h := Aq c3 h
   refine qm rfl (Uu rfl (qf CK rfl (ql A9 rfl (qf Ex rfl (ql Ch rfl ?_)))))
   obtain ⟨v4, a4, b4, h⟩ := Am h
   refine qI AG Dh a4 (Ak b4) rfl (qj Ch (Ak b4) rfl (qf FV rfl (ql Ch rfl (B0 rfl (qp rfl (A0 (by kernel_rfl) ?_))))))
   exact Aw _ h (sm [] _ _ rfl rfl)
 ·refine As rfl (fun c5 => ?_) (fun c5 => ?_)
  ·have h := Ap c5 h
   refine Ab (Aa Ae rfl (qa rfl (Ad ?_)))
   obtain rfl := sj h
   refine Al (sm [] [(6, .e (.one (.pure (.val (.bool false)))))] [(90000, .box [.own 90001, .own 90002, .own 90003]), (90001, .vec 1 (p1.fBase.map Ah)), (90002, .vec 1 (p1.fNext.map Ah)), (90003, .vec 1 (p1.fHeld.map Ba))] rfl rfl) (AF ?_)
   exact ⟨⟨[_], ⟨.tmp _ _ rfl, trivial⟩, rfl⟩, ⟨rfl, rfl, rfl, rfl, trivial⟩, trivial⟩
  ·have h := Aq c5 h
   refine Av (Ab (Aa Ae rfl (qm rfl (Uu rfl (qf BD rfl (ql A9 rfl (qf Ex rfl (ql Ch rfl (qf FV rfl (ql Ch rfl ?_))))))))))
   obtain ⟨v6, a6, b6, h⟩ := Am h
   refine qI AG Dh a6 (Ak b6) rfl ?_
   refine D8 rfl rfl rfl rfl (Ak b6) rfl Dh rfl (BM rfl) (DR Ah p1.fNext _ p2.fVersion) ?_
   refine A0 (by kernel_rfl) (Ab (Ab (Aa Ae rfl (qf CC rfl (ql Gl rfl (AS DT rfl (qm rfl (Ad ?_))))))))
   refine AR (L := Dl N p0 p2) h (fun v7 => mk [(1, .e (.one (.ptr 90000 0))), (5, .e (.one (.ptr 5 0))), (41, .e (.one (.pure (.sl (p0.fTables.map Ai))))), (42, .e (.one (.pure (.val (.int .i64 ((p0.fTables.length : Int))))))), (43, .e (.one (.pure (.val (.int .i64 v7.2)))))] [(5, .box [.pure (.val (.int .i64 p2.fKind)), .pure (.val (.int .i64 p2.fIndex)), .pure (.val (.int .i64 p2.fVersion))]), (90000, .box [.own 90001, .own 90002, .own 90003]), (90001, .vec 1 (p1.fBase.map Ah)), (90002, .vec 1 ((p1.fNext.set (p2.fIndex).toNat p2.fVersion).map Ah)), (90003, .vec 1 (v7.1.map Ba))]) (fun v8 => mk [] [(90000, .box [.own 90001, .own 90002, .own 90003]), (90001, .vec 1 (p1.fBase.map Ah)), (90002, .vec 1 ((p1.fNext.set (p2.fIndex).toNat p2.fVersion).map Ah)), (90003, .vec 1 (v8.map Ba))]) (fun _ _ => rfl) (sm [] _ _ rfl rfl) (fun j7 n7 v7 h => ?_) (fun v8 s h hs => ?_)
   ·unfold Dl at h
    refine Ab (Aa Ae rfl (A8 rfl (Ad (Ab ?_))))
    refine As rfl (fun c9 => ?_) (fun c9 => ?_)
    ·have h := Ap c9 h
     refine Av ?_
     refine AX h (fun v10 => mk [(1, .e (.one (.ptr 90000 0))), (5, .e (.one (.ptr 5 0))), (41, .e (.one (.pure (.sl (p0.fTables.map Ai))))), (42, .e (.one (.pure (.val (.int .i64 ((p0.fTables.length : Int))))))), (43, .e (.one (.pure (.val (.int .i64 v7.2)))))] [(5, .box [.pure (.val (.int .i64 p2.fKind)), .pure (.val (.int .i64 p2.fIndex)), .pure (.val (.int .i64 p2.fVersion))]), (90000, .box [.own 90001, .own 90002, .own 90003]), (90001, .vec 1 (p1.fBase.map Ah)), (90002, .vec 1 ((p1.fNext.set (p2.fIndex).toNat p2.fVersion).map Ah)), (90003, .vec 1 (v10.map Ba))]) (fun j10 h => ?_) (fun v10 h => ?_)
     ·refine AW (Ab (Aa Ae rfl (qm rfl ?_)))
      obtain ⟨v11, a11, b11, h⟩ := Am h
      refine qi DT DL a11 (Ak b11) rfl (qK Gw DL rfl (qz J5 rfl (qa rfl (qs DL rfl (Ad ?_)))))
      refine AX h (fun v12 => mk [(1, .e (.one (.ptr 90000 0))), (5, .e (.one (.ptr 5 0))), (7, .e (.one (.pure (.val (.int .i64 v7.2))))), (41, .e (.one (.pure (.sl (p0.fTables.map Ai))))), (42, .e (.one (.pure (.val (.int .i64 ((p0.fTables.length : Int))))))), (43, .e (.one (.pure (.val (.int .i64 v7.2))))), (56, .e (.one (.pure (.val (.bool v12)))))] [(5, .box [.pure (.val (.int .i64 p2.fKind)), .pure (.val (.int .i64 p2.fIndex)), .pure (.val (.int .i64 p2.fVersion))]), (90000, .box [.own 90001, .own 90002, .own 90003]), (90001, .vec 1 (p1.fBase.map Ah)), (90002, .vec 1 ((p1.fNext.set (p2.fIndex).toNat p2.fVersion).map Ah)), (90003, .vec 1 (v7.1.map Ba))]) (fun j12 h => ?_) (fun v12 h => ?_)
      ·refine Aa Ae rfl (qf CU rfl (ql Ch rfl (qf Ex rfl (ql Ch rfl (B0 rfl (qm rfl ?_))))))
       refine AI (t := 53) rfl (fun c13 => ?_) (fun c13 => ?_)
       ·have h := Ap c13 h
        refine qL Gw DL rfl ?_
        obtain ⟨v14, a14, h⟩ := bind_some h
        refine AM [] (Kb N v11 v14 a14) UT rfl (qp rfl (Ad ?_))
        exact Aw _ h (sm [] _ _ rfl rfl)
       ·have h := Aq c13 h
        refine qn rfl (qn rfl (qp rfl (Ad ?_)))
        exact Aw _ h (sm [] _ _ rfl rfl)
      ·refine As rfl (fun c15 => ?_) (fun c15 => ?_)
       ·have h := Ap c15 h
        refine Aa Ae rfl (qm rfl (Uu rfl (qf Cy rfl (ql Gf rfl (qm rfl ?_)))))
        obtain ⟨v16, a16, b16, h⟩ := Am h
        refine qI Dp Fn a16 (Ak b16) rfl (qj Ji (Ak b16) rfl (qf FV rfl (ql Ch rfl ?_)))
        obtain ⟨c17, h⟩ := AN h
        refine Ib rfl c17 (SP rfl ?_)
        obtain ⟨v18, a18, b18, h⟩ := Am h
        refine qI Dp Fn a18 (Ak b18) rfl ?_
        refine D8 rfl rfl rfl rfl (Ak b18) rfl Fn rfl (BM rfl) (DR Ba v7.1 _ ((Nj .u8 v16 ((Dv .u8 1 p2.fVersion))))) ?_
        refine A0 (by kernel_rfl) ?_
        exact Aw _ h (sm [] _ _ rfl rfl)
       ·have h := Aq c15 h
        refine Av ?_
        exact Aw _ h (sm [] _ _ rfl rfl)
     ·refine Aa Ae rfl (Bn rfl (qm rfl (Ad ?_)))
      exact Aw _ h (sm [] _ _ rfl rfl)
    ·have h := Aq c9 h
     refine A6 ?_
     exact Aw _ h (sm [] _ _ rfl rfl)
   ·refine Al hs (Ab (Aa Ae rfl (qa rfl (Ad ?_))))
    obtain rfl := sj h
    refine Al (sm [] [(6, .e (.one (.pure (.val (.bool true)))))] [(90000, .box [.own 90001, .own 90002, .own 90003]), (90001, .vec 1 (p1.fBase.map Ah)), (90002, .vec 1 ((p1.fNext.set (p2.fIndex).toNat p2.fVersion).map Ah)), (90003, .vec 1 (v8.map Ba))] rfl rfl) (AF ?_)
    exact ⟨⟨[_], ⟨.tmp _ _ rfl, trivial⟩, rfl⟩, ⟨rfl, rfl, rfl, rfl, trivial⟩, trivial⟩
set_option maxRecDepth 10000 in
theorem Nb (N : Nat) (p0 : Ag) (p1 : Int) (r : Int) (h : Fa N p0 p1 = some r) : AC Try.prog 120 [.e (.agg [.pure (.sl (p0.fBase.map Ah)), .pure (.sl (p0.fNext.map Ah)), .pure (.sl (p0.fHeld.map Ba))]), .e (.one (.pure (.val (.int .i64 p1))))] [] (.e (.one (.pure (.val (.int .u8 r))))) := by
 unfold Fa at h
 refine Ar (n := 27) (rs := [.tmp 4]) Try.func120 rfl rfl rfl (BM rfl) (BM rfl) rfl fun w0 S0 => ?_
 refine Ab (Aa Ae rfl (qb rfl (qa rfl (Ad (Ab (Aa Ae rfl (qf CK rfl (ql A9 rfl (qm rfl ?_)))))))))
 obtain ⟨v1, a1, b1, h⟩ := Am h
 refine qi AG Dh a1 (Ak b1) rfl (qk Ch rfl ?_)
 obtain ⟨c2, h⟩ := AN h
 refine Ib rfl c2 (qa rfl (Ad ?_))
 refine AX h (fun v3 => mk [(5, .e (.one (.pure (.val (.int .u8 v3)))))] []) (fun j3 h => ?_) (fun v3 h => ?_)
 ·refine Ab (Aa Ae rfl (qf BD rfl (ql A9 rfl (qm rfl ?_))))
  obtain ⟨v4, a4, b4, h⟩ := Am h
  refine qi AG Dh a4 (Ak b4) rfl (qk Ch rfl (EO rfl (Ad ?_)))
  refine As rfl (fun c5 => ?_) (fun c5 => ?_)
  ·have h := Ap c5 h
   refine Aa Ae rfl (qm rfl (qf BD rfl (ql A9 rfl (qm rfl ?_))))
   obtain ⟨v6, a6, b6, h⟩ := Am h
   refine qi AG Dh a6 (Ak b6) rfl (qk Ch rfl ?_)
   obtain ⟨c7, h⟩ := AN h
   refine Ib rfl c7 (SP rfl (qa rfl (Ad ?_)))
   exact Aw _ h (sm [] _ _ rfl rfl)
  ·have h := Aq c5 h
   refine Av ?_
   exact Aw _ h (sm [] _ _ rfl rfl)
 ·refine Ab (Aa Ae rfl (qm rfl (qa rfl (Ad ?_))))
  obtain rfl := sj h
  refine Al (sm [] [(4, .e (.one (.pure (.val (.int .u8 v3)))))] [] rfl rfl) (AF ?_)
  exact ⟨⟨[_], ⟨.tmp _ _ rfl, trivial⟩, rfl⟩, trivial⟩
set_option maxRecDepth 10000 in
theorem HO (N : Nat) (p0 : Int) (r : Int) (h : CJ N p0 = some r) : AC Try.prog 123 [.e (.one (.pure (.val (.int .u8 p0))))] [] (.e (.one (.pure (.val (.int .i64 r))))) := by
 unfold CJ at h
 refine Ar (n := 6) (rs := [.tmp 2]) Try.func123 rfl rfl rfl (BM rfl) (BM rfl) rfl fun w0 S0 => ?_
 refine Ab (Aa Ae rfl (qa rfl (Ad (Ab (Aa Ae rfl (qm rfl ?_))))))
 obtain ⟨v1, a1, h⟩ := bind_some h
 refine RS (.p rfl) rfl rfl Ws a1 ?_
 refine If Vs T4 rfl (qa rfl (Ad ?_))
 obtain rfl := sj h
 refine Al (sm [] [(2, .e (.one (.pure (.val (.int .i64 ((IntKind.wrap .i64 v1)))))))] [] rfl rfl) (AF ?_)
 exact ⟨⟨[_], ⟨.tmp _ _ rfl, trivial⟩, rfl⟩, trivial⟩
set_option maxRecDepth 10000 in
theorem KM (N : Nat) (p0 : AE) (p1 : Int) (p2 : Int) (r : Bool) (h : E3 N p0 p1 p2 = some r) : AC Try.prog 121 [.e (.agg [.pure (.val (.int .i64 p0.fKind)), .pure (.val (.int .i64 p0.fFrom)), .pure (.val (.int .i64 p0.fTo)), .pure (.val (.bool p0.fAware)), .pure (.sl (p0.fOK.map (Eo eB))), .pure (.sl (p0.fRewrite.map (Eo eB)))]), .e (.one (.pure (.val (.int .u8 p1)))), .e (.one (.pure (.val (.int .i64 p2))))] [] (.e (.one (.pure (.val (.bool r))))) := by
 unfold E3 at h
 refine Ar (n := 25) (rs := [.tmp 6]) Try.func121 rfl rfl rfl (BM rfl) (BM rfl) rfl fun w0 S0 => ?_
 refine Ab (Aa Ae rfl (qb rfl (qa rfl (Ad (Ab (Ab (Aa Ae rfl (qm rfl (qa rfl (Ad ?_))))))))))
 refine AR (L := Db N p0 p2) h (fun v1 => mk [(2, .e (.one (.pure (.val (.int .i64 p2))))), (3, .e (.one (.ptr 3 0))), (7, .e (.one (.pure (.val (.int .u8 v1)))))] [(3, .box [.pure (.val (.int .i64 p0.fKind)), .pure (.val (.int .i64 p0.fFrom)), .pure (.val (.int .i64 p0.fTo)), .pure (.val (.bool p0.fAware)), .pure (.sl (p0.fOK.map (Eo eB))), .pure (.sl (p0.fRewrite.map (Eo eB)))])]) (fun v2 => mk [] []) (fun _ _ => rfl) (sm [] _ _ rfl rfl) (fun j1 n1 v1 h => ?_) (fun v2 s h hs => ?_)
 ·unfold Db at h
  refine Ab (Ab (Aa Ae rfl (qm rfl (CB rfl (Ad ?_)))))
  refine As rfl (fun c3 => ?_) (fun c3 => ?_)
  ·have h := Ap c3 h
   refine Av (Ab (AW (Ab (Aa Ae rfl (qf FY rfl (ql I9 rfl (qm rfl ?_)))))))
   obtain ⟨v4, a4, h⟩ := bind_some h
   refine AM [] (HO N v1 v4 a4) Wk rfl ?_
   obtain ⟨v5, a5, b5, h⟩ := Am h
   refine qi FE L4 a5 (Ak b5) rfl (qk OJ rfl (qm rfl ?_))
   obtain ⟨v6, a6, b6, h⟩ := Am h
   refine qi FO Pt a6 (Ak b6) rfl (qk Q5 rfl (CG rfl (A0 (by kernel_rfl) ?_)))
   refine As rfl (fun c7 => ?_) (fun c7 => ?_)
   ·have h := Ap c7 h
    refine Ab (Aa Ae rfl (qa rfl (Ad ?_)))
    obtain rfl := sj h
    refine Al (sm [] [(6, .e (.one (.pure (.val (.bool false)))))] [] rfl rfl) (AF ?_)
    exact ⟨⟨[_], ⟨.tmp _ _ rfl, trivial⟩, rfl⟩, trivial⟩
   ·have h := Aq c7 h
    refine Av (Aa Ae rfl (qm rfl (qm rfl (NG rfl (LP rfl (qa rfl (Ad ?_)))))))
    exact Aw _ h (sm [] _ _ rfl rfl)
  ·have h := Aq c3 h
   refine A6 ?_
   exact Aw _ h (sm [] _ _ rfl rfl)
 ·refine Al hs (Ab (Aa Ae rfl (qa rfl (Ad ?_))))
  obtain rfl := sj h
  refine Al (sm [] [(6, .e (.one (.pure (.val (.bool true)))))] [] rfl rfl) (AF ?_)
  exact ⟨⟨[_], ⟨.tmp _ _ rfl, trivial⟩, rfl⟩, trivial⟩
set_option maxRecDepth 10000 in
theorem Oz (N : Nat) (p0 : Ac) (p1 : Ag) (p2 : Int) (r : Bool × (List Int)) (h : FT N p0 p1 p2 = some r) : Fz Try.prog 113 [.e (.agg [.pure (.sl (p0.fVersions.map Ah)), .pure (.sl (p0.fNow.map Ah)), .pure (.sl (p0.fTarget.map Ah)), .pure (.sl (p0.fTables.map Ai))]), .e (.one (.ptr 90000 0)), .e (.one (.pure (.val (.int .i64 p2))))] [(.box [.own 90001, .own 90002, .own 90003], .box [.own 90001, .own 90002, .own 90003]), (.vec 1 (p1.fBase.map Ah), .vec 1 (p1.fBase.map Ah)), (.vec 1 (p1.fNext.map Ah), .vec 1 (p1.fNext.map Ah)), (.vec 1 (p1.fHeld.map Ba), .vec 1 (r.2.map Ba))] [] (.e (.one (.pure (.val (.bool r.1))))) := by
 unfold FT at h
 refine Gj (n := 68) (rs := [.tmp 6]) Try.func113 rfl rfl rfl (BM rfl) (BM rfl) rfl rfl (BM rfl) rfl (BM rfl) fun w0 S0 GL => ?_
 refine Al (sm [] [(0, .e (.agg [.pure (.sl (p0.fVersions.map Ah)), .pure (.sl (p0.fNow.map Ah)), .pure (.sl (p0.fTarget.map Ah)), .pure (.sl (p0.fTables.map Ai))])), (1, .e (.one (.ptr 90000 0))), (2, .e (.one (.pure (.val (.int .i64 p2)))))] [(90000, .box [.own 90001, .own 90002, .own 90003]), (90001, .vec 1 (p1.fBase.map Ah)), (90002, .vec 1 (p1.fNext.map Ah)), (90003, .vec 1 (p1.fHeld.map Ba))] rfl rfl) (Ab (Aa Ae rfl (qb rfl (qa rfl (Ad (Ab (Aa Ae rfl (qf CC rfl (ql Gl rfl (qm rfl ?_))))))))))
 obtain ⟨v1, a1, b1, h⟩ := Am h
 refine qi DT DL a1 (Ak b1) rfl (qK Gw DL rfl (qz J5 rfl (qs DL rfl (Ad (Ab (Ab (Aa Ae rfl (qL Gw DL rfl ?_))))))))
 obtain ⟨v2, a2, h⟩ := bind_some h
 refine AM [] (Kb N v1 v2 a2) UT rfl (CG rfl (Ad ?_))
 refine As rfl (fun c3 => ?_) (fun c3 => ?_)
 ·have h := Ap c3 h
  refine Ab (Aa Ae rfl (qa rfl (Ad ?_)))
  obtain rfl := sj h
  refine Al (sm [] [(6, .e (.one (.pure (.val (.bool false)))))] [(90000, .box [.own 90001, .own 90002, .own 90003]), (90001, .vec 1 (p1.fBase.map Ah)), (90002, .vec 1 (p1.fNext.map Ah)), (90003, .vec 1 (p1.fHeld.map Ba))] rfl rfl) (AF ?_)
  exact ⟨⟨[_], ⟨.tmp _ _ rfl, trivial⟩, rfl⟩, ⟨rfl, rfl, rfl, rfl, trivial⟩, trivial⟩
 ·have h := Aq c3 h
  refine Av (Ab (Aa Ae rfl (qm rfl (Uu rfl (qL Bx AU rfl (qf CU rfl (ql Ch rfl ?_)))))))
  obtain ⟨v4, a4, h⟩ := bind_some h
  refine DZ [] [90001, 90002, 90003] (Nb N p1 v1.fFrom v4 a4) WL CD rfl (qa rfl (A0 (by kernel_rfl) (Ab (Aa Ae rfl (qm rfl (Uu rfl (qf Cy rfl (ql Gf rfl (qm rfl ?_)))))))))
  obtain ⟨v5, a5, b5, h⟩ := Am h
  refine qI Dp Fn a5 (Ak b5) rfl (qj Ji (Ak b5) rfl (qm rfl (HI rfl (qa rfl (Ad (Ab ?_))))))
  refine AX h (fun v6 => mk [(1, .e (.one (.ptr 90000 0))), (2, .e (.one (.pure (.val (.int .i64 p2))))), (8, .e (.one (.pure (.val (.int .u8 v4))))), (60, .e (.one (.pure (.val (.bool v6)))))] [(90000, .box [.own 90001, .own 90002, .own 90003]), (90001, .vec 1 (p1.fBase.map Ah)), (90002, .vec 1 (p1.fNext.map Ah)), (90003, .vec 1 (p1.fHeld.map Ba))]) (fun j6 h => ?_) (fun v6 h => ?_)
  ·refine Aa Ae rfl (qm rfl (Uu rfl (qf Cy rfl (ql Gf rfl (qm rfl ?_)))))
   obtain ⟨v7, a7, b7, h⟩ := Am h
   refine qI Dp Fn a7 (Ak b7) rfl (qj Ji (Ak b7) rfl (qm rfl (B0 rfl (qm rfl ?_))))
   refine AI (t := 42) rfl (fun c8 => ?_) (fun c8 => ?_)
   ·have h := Ap c8 h
    refine qn rfl (qn rfl (qn rfl (qn rfl (qu rfl (qu rfl (qu rfl (qu rfl (qu rfl (qu rfl (qu rfl (qu rfl (qu rfl (qu rfl (qu rfl (qu rfl (qn rfl (qp rfl (A0 (by kernel_rfl) ?_))))))))))))))))))
    exact Aw _ h (sm [] _ _ rfl rfl)
   ·have h := Aq c8 h
    refine qf Fj rfl (ql Ch rfl (B0 rfl (qm rfl ?_)))
    refine AI (t := 46) rfl (fun c9 => ?_) (fun c9 => ?_)
    ·have h := Ap c9 h
     refine qL Gw DL rfl (qm rfl (qm rfl (Uu rfl (qf CK rfl (ql A9 rfl (qf CU rfl (ql Ch rfl ?_)))))))
     obtain ⟨v10, a10, b10, h⟩ := Am h
     refine qI AG Dh a10 (Ak b10) rfl (qj Ch (Ak b10) rfl ?_)
     obtain ⟨v11, a11, h⟩ := bind_some h
     refine AM [] (KM N v1 ((CT .u8 v5 v4)) v10 v11 a11) Wg rfl (CG rfl (qp rfl (qp rfl (A0 (by kernel_rfl) ?_))))
     exact Aw _ h (sm [] _ _ rfl rfl)
    ·have h := Aq c9 h
     refine qn rfl (qn rfl (qn rfl (qn rfl (qn rfl (qn rfl (qn rfl (qn rfl (qn rfl (qn rfl (qn rfl (qn rfl (qp rfl (qp rfl (A0 (by kernel_rfl) ?_))))))))))))))
     exact Aw _ h (sm [] _ _ rfl rfl)
  ·refine As rfl (fun c12 => ?_) (fun c12 => ?_)
   ·have h := Ap c12 h
    refine Ab (Aa Ae rfl (qa rfl (Ad ?_)))
    obtain rfl := sj h
    refine Al (sm [] [(6, .e (.one (.pure (.val (.bool false)))))] [(90000, .box [.own 90001, .own 90002, .own 90003]), (90001, .vec 1 (p1.fBase.map Ah)), (90002, .vec 1 (p1.fNext.map Ah)), (90003, .vec 1 (p1.fHeld.map Ba))] rfl rfl) (AF ?_)
    exact ⟨⟨[_], ⟨.tmp _ _ rfl, trivial⟩, rfl⟩, ⟨rfl, rfl, rfl, rfl, trivial⟩, trivial⟩
   ·have h := Aq c12 h
    refine Av (Ab (Aa Ae rfl (qm rfl (Uu rfl (qf Cy rfl (ql Gf rfl (qm rfl (qm rfl ?_))))))))
    obtain ⟨v13, a13, b13, h⟩ := Am h
    refine qI Dp Fn a13 (Ak b13) rfl ?_
    refine D8 rfl rfl rfl rfl (Ak b13) rfl Fn rfl (BM rfl) (DR Ba p1.fHeld _ v4) ?_
    refine Ad (Ab (Aa Ae rfl (qa rfl (Ad ?_))))
    obtain rfl := sj h
    refine Al (sm [] [(6, .e (.one (.pure (.val (.bool true)))))] [(90000, .box [.own 90001, .own 90002, .own 90003]), (90001, .vec 1 (p1.fBase.map Ah)), (90002, .vec 1 (p1.fNext.map Ah)), (90003, .vec 1 ((p1.fHeld.set (p2).toNat v4).map Ba))] rfl rfl) (AF ?_)
    exact ⟨⟨[_], ⟨.tmp _ _ rfl, trivial⟩, rfl⟩, ⟨rfl, rfl, rfl, rfl, trivial⟩, trivial⟩
end Go.Lift

