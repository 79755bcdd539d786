/- Lemmas for PlanFindSaid, which YtohibkdhajkmdaaFinP3 proves. -/
import Derived.Test.YtohibkdhajkmdaaTypes
import Derived.Test.YtohibkdhajkmdaaProg
import Derived.KernelRfl
/- The shallow programs. Written by a program (gen.py) out of the code. -/
namespace Go.Lift
def CD (_ : Nat) (p0 : Bool) (p1 : Bool) : Option Ae :=
 some ((Ae.mk (([2, 2] : List Int)) (([0, 0] : List Int)) (([1, 1] : List Int)) (([(AF.mk 1 0 1 p1 (([([true, (!p0)] : List Bool), ([false, true] : List Bool)] : List (List Bool))) (([] : List (List Bool))))] : List AF))))
def DH (_ : Nat) (p0 : Int) (p1 : Int) : Option Bool :=
 Bv (fun (v1 : Bool) =>
  some v1)
 fun j1 =>
 AZ ((decide (0 ≤ p0)))
  (j1 (decide (p0 < p1)))
  (j1 false)
def F2 (_ : Nat) (p0 : Int) (p1 : Bool) : Option Bool :=
 Bv (fun (v1 : Bool) =>
  some v1)
 fun j1 =>
 AZ ((p0 == 1))
  (j1 true)
  (AZ ((p0 == 2))
   (j1 true)
   (AZ ((p0 == 3))
    (j1 (!p1))
    (AZ ((p0 == 4))
     (j1 (!p1))
     (j1 false))))
def DA (_ : Nat) (p0 : List Bool) (p1 : Int) : Option Bool :=
 some (((p0.length : Int) != p1))
def Bl (N : Nat) (p0 : List (List Bool)) (p1 : (List Bool) → Option Bool) (j1 : Unit → Option Int) : Nat → Int → Option Int
 | 0, _ => none
 | n1 + 1, v1 =>
  AZ ((decide (v1 < (p0.length : Int))))
   ((BZ p0 v1).bind fun v4 =>
   (p1 v4).bind fun v5 =>
   AZ v5
    (some v1)
    (Bl N p0 p1 j1 n1 (IntKind.wrap .i64 (v1 + 1))))
   (j1 ())
def C6 (N : Nat) (p0 : List (List Bool)) (p1 : (List Bool) → Option Bool) : Option Int :=
 Bl N p0 p1 (fun (_ : Unit) =>
  some ((-1))) N 0
def CK (N : Nat) (p0 : List (List Bool)) (p1 : (List Bool) → Option Bool) : Option Bool :=
 (C6 N p0 p1).bind fun v1 =>
 some ((decide (0 ≤ v1)))
def EC (N : Nat) (p0 : List (List Bool)) (p1 : Int) (p2 : Int) : Option Bool :=
 Bv (fun (v1 : Bool) =>
  some v1)
 fun j1 =>
 AZ (((p0.length : Int) == p1))
  ((CK N p0 ((fun (x : List Bool) => DA N x p2))).bind fun v3 =>
  j1 (!v3))
  (j1 false)
def CP (N : Nat) (p1 : AF) (j19 : Unit → Option Int) : Nat → Int → Option Int
 | 0, _ => none
 | n19 + 1, v19 =>
  AZ ((decide (v19 < (p1.fRewrite.length : Int))))
   ((BZ p1.fRewrite v19).bind fun v22 =>
   (BZ v22 v19).bind fun v23 =>
   AZ ((!v23))
    (some 1)
    (CP N p1 j19 n19 (IntKind.wrap .i64 (v19 + 1))))
   (j19 ())
def FA (N : Nat) (p0 : Ae) (p1 : AF) : Option Int :=
 (F2 N p1.fKind p1.fAware).bind fun v1 =>
 AZ ((!v1))
  (some 1)
  (Bv (fun (v3 : Bool) =>
   AZ v3
    (some 4)
    ((BZ p0.fVersions p1.fFrom).bind fun v8 =>
    Bv (fun (v9 : Bool) =>
     AZ v9
      (some 6)
      (CP N p1 (fun (_ : Unit) =>
       some 0) N 0))
    fun j9 =>
    (BZ p0.fVersions p1.fTo).bind fun v10 =>
    (EC N p1.fOK v8 v10).bind fun v11 =>
    AZ ((!v11))
     (j9 true)
     (AZ ((p1.fKind == 4))
      ((EC N p1.fRewrite v8 v8).bind fun v14 =>
      AZ ((!v14))
       (j9 true)
       (AZ ((!((p1.fKind == 4))))
        (j9 (decide (0 < (p1.fRewrite.length : Int))))
        (j9 false)))
      (AZ ((!((p1.fKind == 4))))
       (j9 (decide (0 < (p1.fRewrite.length : Int))))
       (j9 false)))))
  fun j3 =>
  (DH N p1.fFrom ((p0.fVersions.length : Int))).bind fun v4 =>
  AZ ((!v4))
   (j3 true)
   ((DH N p1.fTo ((p0.fVersions.length : Int))).bind fun v6 =>
   j3 (!v6)))
def BX (N : Nat) (p0 : Ae) (j7 : Unit → Option Int) : Nat → Int → Option Int
 | 0, _ => none
 | n7 + 1, v7 =>
  AZ ((decide (v7 < (p0.fVersions.length : Int))))
   ((BZ p0.fVersions v7).bind fun v10 =>
   Bv (fun (v11 : Bool) =>
    AZ v11
     (some 7)
     (BX N p0 j7 n7 (IntKind.wrap .i64 (v7 + 1))))
   fun j11 =>
   AZ ((decide (v10 < 1)))
    (j11 true)
    (AZ ((decide (6 < v10)))
     (j11 true)
     ((BZ p0.fNow v7).bind fun v14 =>
     (DH N v14 v10).bind fun v15 =>
     AZ ((!v15))
      (j11 true)
      ((BZ p0.fTarget v7).bind fun v17 =>
      (DH N v17 v10).bind fun v18 =>
      j11 (!v18)))))
   (j7 ())
def BM (N : Nat) (p0 : Ae) (j20 : Unit → Option Int) : Nat → Int → Option Int
 | 0, _ => none
 | n20 + 1, v20 =>
  AZ ((decide (v20 < (p0.fTables.length : Int))))
   ((BZ p0.fTables v20).bind fun v23 =>
   (FA N p0 v23).bind fun v24 =>
   AZ ((v24 != 0))
    (some v24)
    (BM N p0 j20 n20 (IntKind.wrap .i64 (v20 + 1))))
   (j20 ())
def Db (N : Nat) (p0 : Ae) : Option Int :=
 Bv (fun (v1 : Bool) =>
  AZ v1
   (some 3)
   (Bv (fun (v4 : Bool) =>
    AZ v4
     (some 6)
     (BX N p0 (fun (_ : Unit) =>
      BM N p0 (fun (_ : Unit) =>
       some 0) N 0) N 0))
   fun j4 =>
   AZ (((p0.fNow.length : Int) != (p0.fVersions.length : Int)))
    (j4 true)
    (j4 ((p0.fTarget.length : Int) != (p0.fVersions.length : Int)))))
 fun j1 =>
 AZ ((decide (6 < (p0.fVersions.length : Int))))
  (j1 true)
  (j1 (decide (12 < (p0.fTables.length : Int))))
def BH (_ : Nat) (p0 : List Int) : Option ((List Int)) :=
 (Eg ((([] : List Int)).length + p0.length ≤ Dv)).bind fun _ =>
 some ((([] : List Int)) ++ p0)
def F9 (_ : Nat) (p0 : Int) (p1 : Int) : Option (Int × Int) :=
 some ((IntKind.wrap .u32 ((E2 .u64 ((IntKind.wrap .u64 ((IntKind.wrap .u64 p0) * (IntKind.wrap .u64 p1)))) 32))), (IntKind.wrap .u32 ((IntKind.wrap .u64 ((IntKind.wrap .u64 p0) * (IntKind.wrap .u64 p1))))))
def Gb (_ : Nat) (p0 : Int) (p1 : Int) : Option (Int × Int) :=
 some ((IntKind.wrap .u64 ((IntKind.wrap .u64 ((IntKind.wrap .u64 ((E2 .u64 p0 32) * (E2 .u64 p1 32))) + (E2 .u64 ((IntKind.wrap .u64 ((IntKind.wrap .u64 ((E2 .u64 p0 32) * (FK .u64 p1 4294967295))) + (E2 .u64 ((IntKind.wrap .u64 ((FK .u64 p0 4294967295) * (FK .u64 p1 4294967295)))) 32)))) 32))) + (E2 .u64 ((IntKind.wrap .u64 ((FK .u64 ((IntKind.wrap .u64 ((IntKind.wrap .u64 ((E2 .u64 p0 32) * (FK .u64 p1 4294967295))) + (E2 .u64 ((IntKind.wrap .u64 ((FK .u64 p0 4294967295) * (FK .u64 p1 4294967295)))) 32)))) 4294967295) + (IntKind.wrap .u64 ((FK .u64 p0 4294967295) * (E2 .u64 p1 32)))))) 32))), (IntKind.wrap .u64 (p0 * p1)))
def GI (N : Nat) (p0 : Int) (p1 : Int) : Option (Int × Int) :=
 AZ false
  ((F9 N ((IntKind.wrap .u32 p0)) ((IntKind.wrap .u32 p1))).bind fun v2 =>
  some ((IntKind.wrap .u64 v2.1), (IntKind.wrap .u64 v2.2)))
  ((Gb N p0 p1).bind fun v3 =>
  some (v3.1, v3.2))
def Dt (N : Nat) (j9 : ((List Int)) → Option ((List Int))) : Nat → ((List Int) × Int) → Option ((List Int))
 | 0, _ => none
 | n9 + 1, v9 =>
  AZ ((decide (v9.2 < (v9.1.length : Int))))
   ((Eg ((0 : Int) ≤ v9.2 ∧ (v9.2).toNat ≤ v9.1.length ∧ v9.1.length ≤ v9.1.length)).bind fun _ =>
   (Eg ((0 : Int) ≤ v9.2 ∧ 0 ≤ (v9.2).toNat ∧ (v9.2).toNat ≤ v9.1.length)).bind fun _ =>
   Dt N j9 n9 (Il v9.1 ((v9.2).toNat) ((((v9.1.drop 0).take ((v9.2).toNat))).take (Nat.min (((v9.1.drop 0).take ((v9.2).toNat))).length ((v9.1.length - (v9.2).toNat)))), (IntKind.wrap .i64 (v9.2 + (((Nat.min (((v9.1.drop 0).take ((v9.2).toNat))).length ((v9.1.length - (v9.2).toNat))) : Nat) : Int)))))
   (j9 v9.1)
def DZ (N : Nat) (p0 : List Int) (p1 : Int) : Option ((List Int)) :=
 Bv (fun (_ : Unit) =>
  (GI N ((IntKind.wrap .u64 ((p0.length : Int)))) ((IntKind.wrap .u64 p1))).bind fun v3 =>
  Bv (fun (_ : Unit) =>
   (Eg ((0 : Int) ≤ (IntKind.wrap .i64 v3.2) ∧ (IntKind.wrap .i64 v3.2) ≤ (IntKind.wrap .i64 v3.2) ∧ (IntKind.wrap .i64 v3.2) ≤ (Dv : Int))).bind fun _ =>
   Dt N (fun (v10 : (List Int)) =>
    some v10) N (Il (List.replicate ((IntKind.wrap .i64 v3.2)).toNat ((0 : Int))) 0 (p0.take (Nat.min p0.length ((List.replicate ((IntKind.wrap .i64 v3.2)).toNat ((0 : Int))).length))), (((Nat.min p0.length ((List.replicate ((IntKind.wrap .i64 v3.2)).toNat ((0 : Int))).length)) : Nat) : Int)))
  fun j4 =>
  Bv (fun (v5 : Bool) =>
   AZ v5
    (none)
    (j4 ()))
  fun j5 =>
  AZ ((decide (0 < v3.1)))
   (j5 true)
   (j5 (decide (9223372036854775807 < v3.2))))
 fun j1 =>
 AZ ((decide (p1 < 0)))
  (none)
  (j1 ())
def EN (_ : Nat) (p0 : AF) : Option Bool :=
 Bv (fun (v1 : Bool) =>
  some v1)
 fun j1 =>
 AZ ((p0.fKind == 3))
  (j1 true)
  (j1 (p0.fKind == 4))
def DG (N : Nat) (p0 : Ae) (j6 : ((List Int)) → Option (Ah × Int)) : Nat → ((List Int) × Int) → Option (Ah × Int)
 | 0, _ => none
 | n6 + 1, v6 =>
  AZ ((decide (v6.2 < (p0.fTables.length : Int))))
   (Bv (fun (v9 : (List Int)) =>
    DG N p0 j6 n6 (v9, (IntKind.wrap .i64 (v6.2 + 1))))
   fun j9 =>
   (BZ p0.fTables v6.2).bind fun v10 =>
   (EN N v10).bind fun v11 =>
   AZ v11
    ((BZ p0.fNow v10.fFrom).bind fun v13 =>
    (Eg (0 ≤ v13)).bind fun _ =>
    (BZ v6.1 v6.2).bind fun _ =>
    j9 (v6.1.set ((v6.2).toNat) ((Dw .u8 1 v13))))
    (j9 v6.1))
   (j6 v6.1)
def FJ (N : Nat) (p0 : Ae) : Option (Ah × Int) :=
 (Db N p0).bind fun v1 =>
 AZ ((v1 != 0))
  (some ((Ah.mk (([] : List Int)) (([] : List Int)) (([] : List Int))), v1))
  ((BH N p0.fNow).bind fun v3 =>
  (DZ N (([(-1)] : List Int)) ((p0.fNow.length : Int))).bind fun v4 =>
  (Eg ((0 : Int) ≤ (p0.fTables.length : Int) ∧ (p0.fTables.length : Int) ≤ (p0.fTables.length : Int) ∧ (p0.fTables.length : Int) ≤ (Dv : Int))).bind fun _ =>
  DG N p0 (fun (v7 : (List Int)) =>
   some ((Ah.mk v3 v4 v7), 0)) N (List.replicate ((p0.fTables.length : Int)).toNat ((0 : Int)), 0))
def Ev (_ : Nat) (p0 : Ah) (p1 : Int) : Option Int :=
 (BZ p0.fBase p1).bind fun v1 =>
 (Eg (0 ≤ v1)).bind fun _ =>
 Bv (fun (v3 : Int) =>
  some v3)
 fun j3 =>
 (BZ p0.fNext p1).bind fun v4 =>
 AZ ((decide (0 ≤ v4)))
  ((BZ p0.fNext p1).bind fun v6 =>
  (Eg (0 ≤ v6)).bind fun _ =>
  j3 (Ng .u8 ((Dw .u8 1 v1)) ((Dw .u8 1 v6))))
  (j3 (Dw .u8 1 v1))
def DF (N : Nat) (p0 : Ae) (p1 : Ah) (j7 : Unit → Option Int) : Nat → Int → Option Int
 | 0, _ => none
 | n7 + 1, v7 =>
  AZ ((decide (v7 < (p0.fVersions.length : Int))))
   ((BZ p0.fVersions v7).bind fun v10 =>
   Bv (fun (v11 : Bool) =>
    AZ v11
     (some 7)
     ((BZ p1.fBase v7).bind fun v20 =>
     (BZ p1.fNext v7).bind fun v21 =>
     AZ ((v20 == v21))
      (some 1)
      (DF N p0 p1 j7 n7 (IntKind.wrap .i64 (v7 + 1)))))
   fun j11 =>
   (BZ p1.fBase v7).bind fun v12 =>
   AZ ((decide (v12 < 0)))
    (j11 true)
    ((BZ p1.fBase v7).bind fun v14 =>
    AZ ((decide (v10 ≤ v14)))
     (j11 true)
     ((BZ p1.fNext v7).bind fun v16 =>
     AZ ((decide (v16 < (-1))))
      (j11 true)
      ((BZ p1.fNext v7).bind fun v18 =>
      j11 (decide (v10 ≤ v18))))))
   (j7 ())
def Di (N : Nat) (p0 : Ae) (p1 : Ah) (j23 : Unit → Option Int) : Nat → Int → Option Int
 | 0, _ => none
 | n23 + 1, v23 =>
  AZ ((decide (v23 < (p0.fTables.length : Int))))
   ((BZ p0.fTables v23).bind fun v26 =>
   Bv (fun (v27 : Int × Int) =>
    Bv (fun (v33 : Bool) =>
     AZ v33
      (some 1)
      (Di N p0 p1 j23 n23 (IntKind.wrap .i64 (v23 + 1))))
    fun j33 =>
    (BZ p1.fHeld v23).bind fun v34 =>
    AZ (((CY .u8 v27.1 v34) != 0))
     (j33 true)
     ((BZ p1.fHeld v23).bind fun v36 =>
     j33 ((CY .u8 v36 v27.2) != 0)))
   fun j27 =>
   (EN N v26).bind fun v28 =>
   AZ v28
    ((Ev N p1 v26.fFrom).bind fun v30 =>
    (BZ p0.fVersions v26.fFrom).bind fun v31 =>
    (Eg (0 ≤ v31)).bind fun _ =>
    j27 (v30, (IntKind.wrap .u8 ((Dw .u8 1 v31) - 1))))
    (j27 (0, 0)))
   (j23 ())
def ED (N : Nat) (p0 : Ae) (p1 : Ah) : Option Int :=
 (Db N p0).bind fun v1 =>
 AZ ((v1 != 0))
  (some v1)
  (Bv (fun (v3 : Bool) =>
   AZ v3
    (some 6)
    (DF N p0 p1 (fun (_ : Unit) =>
     Di N p0 p1 (fun (_ : Unit) =>
      some 0) N 0) N 0))
  fun j3 =>
  AZ (((p1.fBase.length : Int) != (p0.fVersions.length : Int)))
   (j3 true)
   (AZ (((p1.fNext.length : Int) != (p0.fVersions.length : Int)))
    (j3 true)
    (j3 ((p1.fHeld.length : Int) != (p0.fTables.length : Int)))))
def BO (_ : Nat) (p0 : List Int) : Option ((List Int)) :=
 (Eg ((([] : List Int)).length + p0.length ≤ Dv)).bind fun _ =>
 some ((([] : List Int)) ++ p0)
def Dp (N : Nat) (p1 : Ah) (j3 : ((List Int)) → Option ((List Ah) × Int)) : Nat → ((List Int) × Int) → Option ((List Ah) × Int)
 | 0, _ => none
 | n3 + 1, v3 =>
  AZ ((decide (v3.2 < (p1.fNext.length : Int))))
   (Bv (fun (v6 : (List Int)) =>
    Dp N p1 j3 n3 (v6, (IntKind.wrap .i64 (v3.2 + 1))))
   fun j6 =>
   (BZ p1.fNext v3.2).bind fun v7 =>
   AZ ((decide (0 ≤ v7)))
    ((Eg (v3.1.length + (([v3.2] : List Int)).length ≤ Dv)).bind fun _ =>
    j6 (v3.1 ++ (([v3.2] : List Int))))
    (j6 v3.1))
   (j3 v3.1)
def CM (N : Nat) (v4 : (List Int)) (v11 : (List Ah) × Int) (j17 : ((List Int)) → Option ((List Ah) × Int)) : Nat → ((List Int) × Int) → Option ((List Ah) × Int)
 | 0, _ => none
 | n17 + 1, v17 =>
  AZ ((decide (v17.2 < (v4.length : Int))))
   (Bv (fun (v20 : (List Int)) =>
    CM N v4 v11 j17 n17 (v20, (IntKind.wrap .i64 (v17.2 + 1))))
   fun j20 =>
   (BZ v4 v17.2).bind fun v21 =>
   (Eg (0 ≤ v17.2)).bind fun _ =>
   AZ (((FK .i64 ((E2 .i64 v11.2 v17.2)) 1) == 1))
    ((BZ v17.1 v21).bind fun _ =>
    j20 (v17.1.set ((v21).toNat) ((-1))))
    (j20 v17.1))
   (j17 v17.1)
def CJ (N : Nat) (p1 : Ah) (v4 : (List Int)) (j11 : ((List Ah)) → Option ((List Ah) × Int)) : Nat → ((List Ah) × Int) → Option ((List Ah) × Int)
 | 0, _ => none
 | n11 + 1, v11 =>
  AZ ((decide (v11.2 < (Dw .i64 1 ((v4.length : Int))))))
   ((BH N p1.fBase).bind fun v14 =>
   (BH N p1.fNext).bind fun v15 =>
   (BO N p1.fHeld).bind fun v16 =>
   CM N v4 v11 (fun (v18 : (List Int)) =>
    (Eg (v11.1.length + (([(Ah.mk v14 v18 v16)] : List Ah)).length ≤ Dv)).bind fun _ =>
    CJ N p1 v4 j11 n11 (v11.1 ++ (([(Ah.mk v14 v18 v16)] : List Ah)), (IntKind.wrap .i64 (v11.2 + 1)))) N (v15, 0))
   (j11 v11.1)
def FX (N : Nat) (p0 : Ae) (p1 : Ah) : Option ((List Ah) × Int) :=
 (ED N p0 p1).bind fun v1 =>
 AZ ((v1 != 0))
  (some (([] : List Ah), v1))
  (Dp N p1 (fun (v4 : (List Int)) =>
   (Eg (0 ≤ (v4.length : Int))).bind fun _ =>
   CJ N p1 v4 (fun (v12 : (List Ah)) =>
    some (v12, 0)) N (([] : List Ah), 0)) N (([] : List Int), 0))
def BU (N : Nat) (v1 : (List An) × Int) (v4 : AF) (v6 : Int) (v11 : (List An) × Int) (v17 : List Bool) (j18 : ((List An) × Bool) → Option ((List An))) : Nat → ((List An) × Bool × Int) → Option ((List An))
 | 0, _ => none
 | n18 + 1, v18 =>
  AZ ((decide (v18.2.2 < (v17.length : Int))))
   (Bv (fun (v21 : (List An) × Bool) =>
    BU N v1 v4 v6 v11 v17 j18 n18 (v21.1, v21.2, (IntKind.wrap .i64 (v18.2.2 + 1))))
   fun j21 =>
   (BZ v17 v18.2.2).bind fun v22 =>
   (Eg (0 ≤ v18.2.2)).bind fun _ =>
   AZ (((FK .u8 ((E2 .u8 v6 v18.2.2)) 1) == 0))
    (j21 (v18.1, v18.2.1))
    (Bv (fun (v25 : Bool) =>
     Bv (fun (v27 : Bool) =>
      AZ v27
       ((Eg (v18.1.length + (([(An.mk v1.2 v11.2 v18.2.2)] : List An)).length ≤ Dv)).bind fun _ =>
       j21 (v18.1 ++ (([(An.mk v1.2 v11.2 v18.2.2)] : List An)), v25))
       (j21 (v18.1, v25)))
     fun j27 =>
     AZ ((!v22))
      (j27 (!v4.fAware))
      (j27 false))
    fun j25 =>
    AZ v18.2.1
     (j25 true)
     (j25 v22)))
   (j18 (v18.1, v18.2.1))
def Cg (N : Nat) (v1 : (List An) × Int) (v4 : AF) (v6 : Int) (v7 : Int) (j11 : ((List An)) → Option ((List An))) : Nat → ((List An) × Int) → Option ((List An))
 | 0, _ => none
 | n11 + 1, v11 =>
  AZ ((decide (v11.2 < (v4.fOK.length : Int))))
   (Bv (fun (v14 : (List An)) =>
    Cg N v1 v4 v6 v7 j11 n11 (v14, (IntKind.wrap .i64 (v11.2 + 1))))
   fun j14 =>
   (Eg (0 ≤ v11.2)).bind fun _ =>
   AZ (((FK .u8 ((E2 .u8 v7 v11.2)) 1) == 0))
    (j14 v11.1)
    ((BZ v4.fOK v11.2).bind fun v17 =>
    BU N v1 v4 v6 v11 v17 (fun (v19 : (List An) × Bool) =>
     Bv (fun (v31 : Bool) =>
      AZ v31
       ((Eg (v19.1.length + (([(An.mk v1.2 v11.2 ((-1)))] : List An)).length ≤ Dv)).bind fun _ =>
       j14 (v19.1 ++ (([(An.mk v1.2 v11.2 ((-1)))] : List An))))
       (j14 v19.1))
     fun j31 =>
     AZ v4.fAware
      (j31 (!v19.2))
      (j31 false)) N (v11.1, false, 0)))
   (j11 v11.1)
def C0 (N : Nat) (p0 : Ae) (p1 : Ah) (j1 : ((List An)) → Option ((List An))) : Nat → ((List An) × Int) → Option ((List An))
 | 0, _ => none
 | n1 + 1, v1 =>
  AZ ((decide (v1.2 < (p0.fTables.length : Int))))
   ((BZ p0.fTables v1.2).bind fun v4 =>
   (Ev N p1 v4.fFrom).bind fun v5 =>
   (Ev N p1 v4.fTo).bind fun v6 =>
   Bv (fun (v7 : Int) =>
    Cg N v1 v4 v6 v7 (fun (v12 : (List An)) =>
     C0 N p0 p1 j1 n1 (v12, (IntKind.wrap .i64 (v1.2 + 1)))) N (v1.1, 0))
   fun j7 =>
   (EN N v4).bind fun v8 =>
   AZ v8
    ((BZ p1.fHeld v1.2).bind fun v10 =>
    j7 v10)
    (j7 v5))
   (j1 v1.1)
def EY (N : Nat) (p0 : Ae) (p1 : Ah) : Option ((List An)) :=
 C0 N p0 p1 (fun (v2 : (List An)) =>
  some v2) N (([] : List An), 0)
def Ej (N : Nat) (p0 : Ae) (v1 : (List Ah) × Int) (j3 : Unit → Option (Ah × An × Int)) : Nat → Int → Option (Ah × An × Int)
 | 0, _ => none
 | n3 + 1, v3 =>
  AZ ((decide (v3 < (v1.1.length : Int))))
   ((BZ v1.1 v3).bind fun v6 =>
   (EY N p0 v6).bind fun v7 =>
   AZ ((decide (0 < (v7.length : Int))))
    ((BZ v7 0).bind fun v9 =>
    some (v6, v9, 0))
    (Ej N p0 v1 j3 n3 (IntKind.wrap .i64 (v3 + 1))))
   (j3 ())
def E7 (N : Nat) (p0 : Ae) (p1 : Ah) : Option (Ah × An × Int) :=
 (FX N p0 p1).bind fun v1 =>
 AZ ((v1.2 != 0))
  (some ((Ah.mk (([] : List Int)) (([] : List Int)) (([] : List Int))), (An.mk 0 0 0), v1.2))
  (Ej N p0 v1 (fun (_ : Unit) =>
   some ((Ah.mk (([] : List Int)) (([] : List Int)) (([] : List Int))), (An.mk 0 0 0), 15)) N 0)
def Fg (N : Nat) (p0 : Ae) (p1 : Ah) : Option (Bool × Int) :=
 (E7 N p0 p1).bind fun v1 =>
 AZ ((v1.2.2 == 0))
  (some (false, 0))
  (AZ ((v1.2.2 == 15))
   (some (true, 0))
   (some (false, v1.2.2)))
def D9 (N : Nat) (p0 : Ah) (j2 : ((List Int)) → Option ByteArray) : Nat → ((List Int) × Int) → Option ByteArray
 | 0, _ => none
 | n2 + 1, v2 =>
  AZ ((decide (v2.2 < (p0.fBase.length : Int))))
   ((BZ p0.fBase v2.2).bind fun v5 =>
   (BZ p0.fNext v2.2).bind fun v6 =>
   (Eg (v2.1.length + (([(IntKind.wrap .u8 v5), (IntKind.wrap .u8 ((IntKind.wrap .i64 (v6 + 1))))] : List Int)).length ≤ Dv)).bind fun _ =>
   D9 N p0 j2 n2 (v2.1 ++ (([(IntKind.wrap .u8 v5), (IntKind.wrap .u8 ((IntKind.wrap .i64 (v6 + 1))))] : List Int)), (IntKind.wrap .i64 (v2.2 + 1))))
   (j2 v2.1)
def Dg (N : Nat) (p0 : Ah) (j8 : ((List Int)) → Option ByteArray) : Nat → ((List Int) × Int) → Option ByteArray
 | 0, _ => none
 | n8 + 1, v8 =>
  AZ ((decide (v8.2 < (p0.fHeld.length : Int))))
   ((BZ p0.fHeld v8.2).bind fun v11 =>
   (Eg (v8.1.length + (([v11] : List Int)).length ≤ Dv)).bind fun _ =>
   Dg N p0 j8 n8 (v8.1 ++ (([v11] : List Int)), (IntKind.wrap .i64 (v8.2 + 1))))
   (j8 v8.1)
def Gf (N : Nat) (p0 : Ah) : Option ByteArray :=
 (Eg ((0 : Int) ≤ 0 ∧ 0 ≤ (IntKind.wrap .i64 ((IntKind.wrap .i64 (2 * (p0.fBase.length : Int))) + (p0.fHeld.length : Int))) ∧ (IntKind.wrap .i64 ((IntKind.wrap .i64 (2 * (p0.fBase.length : Int))) + (p0.fHeld.length : Int))) ≤ (Dv : Int))).bind fun _ =>
 D9 N p0 (fun (v3 : (List Int)) =>
  Dg N p0 (fun (v9 : (List Int)) =>
   some ((Cp v9))) N (v3, 0)) N (List.replicate (0 : Int).toNat ((0 : Int)), 0)
def Eb (N : Nat) (v1 : (List Af) × Int) (v4 : Int) (j5 : ((List Af)) → Option ((List Af))) : Nat → ((List Af) × Int) → Option ((List Af))
 | 0, _ => none
 | n5 + 1, v5 =>
  AZ ((decide (v5.2 < v4)))
   ((Eg (v5.1.length + (([(Af.mk 1 v1.2 v5.2)] : List Af)).length ≤ Dv)).bind fun _ =>
   Eb N v1 v4 j5 n5 (v5.1 ++ (([(Af.mk 1 v1.2 v5.2)] : List Af)), (IntKind.wrap .i64 (v5.2 + 1))))
   (j5 v5.1)
def CR (N : Nat) (p0 : Ae) (j1 : ((List Af)) → Option ((List Af))) : Nat → ((List Af) × Int) → Option ((List Af))
 | 0, _ => none
 | n1 + 1, v1 =>
  AZ ((decide (v1.2 < (p0.fVersions.length : Int))))
   ((BZ p0.fVersions v1.2).bind fun v4 =>
   Eb N v1 v4 (fun (v6 : (List Af)) =>
    CR N p0 j1 n1 (v6, (IntKind.wrap .i64 (v1.2 + 1)))) N (v1.1, 0))
   (j1 v1.1)
def Cb (N : Nat) (p0 : Ae) (j9 : ((List Af)) → Option ((List Af))) : Nat → ((List Af) × Int) → Option ((List Af))
 | 0, _ => none
 | n9 + 1, v9 =>
  AZ ((decide (v9.2 < (p0.fVersions.length : Int))))
   ((Eg (v9.1.length + (([(Af.mk 2 v9.2 0)] : List Af)).length ≤ Dv)).bind fun _ =>
   Cb N p0 j9 n9 (v9.1 ++ (([(Af.mk 2 v9.2 0)] : List Af)), (IntKind.wrap .i64 (v9.2 + 1))))
   (j9 v9.1)
def Bo (N : Nat) (p0 : Ae) (j13 : ((List Af)) → Option ((List Af))) : Nat → ((List Af) × Int) → Option ((List Af))
 | 0, _ => none
 | n13 + 1, v13 =>
  AZ ((decide (v13.2 < (p0.fTables.length : Int))))
   ((Eg (v13.1.length + (([(Af.mk 3 v13.2 0)] : List Af)).length ≤ Dv)).bind fun _ =>
   Bo N p0 j13 n13 (v13.1 ++ (([(Af.mk 3 v13.2 0)] : List Af)), (IntKind.wrap .i64 (v13.2 + 1))))
   (j13 v13.1)
def GU (N : Nat) (p0 : Ae) : Option ((List Af)) :=
 CR N p0 (fun (v2 : (List Af)) =>
  Cb N p0 (fun (v10 : (List Af)) =>
   Bo N p0 (fun (v14 : (List Af)) =>
    some v14) N (v10, 0)) N (v2, 0)) N (([] : List Af), 0)
def FC (N : Nat) (p0 : Ah) : Option Ah :=
 (BH N p0.fBase).bind fun v1 =>
 (BH N p0.fNext).bind fun v2 =>
 (BO N p0.fHeld).bind fun v3 =>
 some ((Ah.mk v1 v2 v3))
def EW (_ : Nat) (p0 : AF) : Option Bool :=
 Bv (fun (v1 : Bool) =>
  some v1)
 fun j1 =>
 AZ ((p0.fKind == 3))
  (j1 true)
  (j1 (p0.fKind == 4))
def Dl (N : Nat) (p0 : Ae) (p2 : Af) (j7 : ((List Int)) → Option (Bool × (List Int) × (List Int))) : Nat → ((List Int) × Int) → Option (Bool × (List Int) × (List Int))
 | 0, _ => none
 | n7 + 1, v7 =>
  AZ ((decide (v7.2 < (p0.fTables.length : Int))))
   (Bv (fun (v10 : (List Int)) =>
    Dl N p0 p2 j7 n7 (v10, (IntKind.wrap .i64 (v7.2 + 1))))
   fun j10 =>
   (BZ p0.fTables v7.2).bind fun v11 =>
   Bv (fun (v12 : Bool) =>
    AZ v12
     ((BZ v7.1 v7.2).bind fun v16 =>
     (Eg (0 ≤ p2.fVersion)).bind fun _ =>
     (BZ v7.1 v7.2).bind fun _ =>
     j10 (v7.1.set ((v7.2).toNat) ((Ng .u8 v16 ((Dw .u8 1 p2.fVersion))))))
     (j10 v7.1))
   fun j12 =>
   AZ ((v11.fFrom == p2.fIndex))
    ((EW N v11).bind fun v14 =>
    j12 v14)
    (j12 false))
   (j7 v7.1)
def GT (N : Nat) (p0 : Ae) (p1 : Ah) (p2 : Af) : Option (Bool × (List Int) × (List Int)) :=
 Bv (fun (v1 : Bool) =>
  AZ v1
   (some (false, p1.fNext, p1.fHeld))
   ((BZ p1.fNext p2.fIndex).bind fun _ =>
   Dl N p0 p2 (fun (v8 : (List Int)) =>
    some (true, p1.fNext.set ((p2.fIndex).toNat) p2.fVersion, v8)) N (p1.fHeld, 0)))
 fun j1 =>
 (BZ p1.fNext p2.fIndex).bind fun v2 =>
 AZ ((decide (0 ≤ v2)))
  (j1 true)
  ((BZ p1.fBase p2.fIndex).bind fun v4 =>
  j1 (v4 == p2.fVersion))
def Fe (_ : Nat) (p0 : Ah) (p1 : Int) : Option Int :=
 (BZ p0.fBase p1).bind fun v1 =>
 (Eg (0 ≤ v1)).bind fun _ =>
 Bv (fun (v3 : Int) =>
  some v3)
 fun j3 =>
 (BZ p0.fNext p1).bind fun v4 =>
 AZ ((decide (0 ≤ v4)))
  ((BZ p0.fNext p1).bind fun v6 =>
  (Eg (0 ≤ v6)).bind fun _ =>
  j3 (Ng .u8 ((Dw .u8 1 v1)) ((Dw .u8 1 v6))))
  (j3 (Dw .u8 1 v1))
def CL (_ : Nat) (p0 : Int) : Option Int :=
 (UG ((⟨⟨(List.append (List.append [8, 0, 1, 0, 2, 0, 1, 0, 3, 0, 1, 0, 2, 0, 1, 0, 4, 0, 1, 0, 2, 0, 1, 0, 3, 0, 1, 0, 2, 0, 1, 0, 5, 0, 1, 0, 2, 0, 1, 0, 3, 0, 1, 0, 2, 0, 1, 0, 4, 0, 1, 0, 2, 0, 1, 0, 3, 0, 1, 0, 2, 0, 1, 0] [6, 0, 1, 0, 2, 0, 1, 0, 3, 0, 1, 0, 2, 0, 1, 0, 4, 0, 1, 0, 2, 0, 1, 0, 3, 0, 1, 0, 2, 0, 1, 0, 5, 0, 1, 0, 2, 0, 1, 0, 3, 0, 1, 0, 2, 0, 1, 0, 4, 0, 1, 0, 2, 0, 1, 0, 3, 0, 1, 0, 2, 0, 1, 0]) (List.append [7, 0, 1, 0, 2, 0, 1, 0, 3, 0, 1, 0, 2, 0, 1, 0, 4, 0, 1, 0, 2, 0, 1, 0, 3, 0, 1, 0, 2, 0, 1, 0, 5, 0, 1, 0, 2, 0, 1, 0, 3, 0, 1, 0, 2, 0, 1, 0, 4, 0, 1, 0, 2, 0, 1, 0, 3, 0, 1, 0, 2, 0, 1, 0] [6, 0, 1, 0, 2, 0, 1, 0, 3, 0, 1, 0, 2, 0, 1, 0, 4, 0, 1, 0, 2, 0, 1, 0, 3, 0, 1, 0, 2, 0, 1, 0, 5, 0, 1, 0, 2, 0, 1, 0, 3, 0, 1, 0, 2, 0, 1, 0, 4, 0, 1, 0, 2, 0, 1, 0, 3, 0, 1, 0, 2, 0, 1, 0]))⟩⟩ : ByteArray)) p0).bind fun v1 =>
 some ((IntKind.wrap .i64 v1))
def Da (N : Nat) (p0 : AF) (p2 : Int) (j1 : Unit → Option Bool) : Nat → Int → Option Bool
 | 0, _ => none
 | n1 + 1, v1 =>
  AZ ((v1 != 0))
   ((CL N v1).bind fun v4 =>
   (BZ p0.fRewrite v4).bind fun v5 =>
   (BZ v5 p2).bind fun v6 =>
   AZ ((!v6))
    (some false)
    (Da N p0 p2 j1 n1 (FK .u8 v1 ((IntKind.wrap .u8 (v1 - 1))))))
   (j1 ())
def E8 (N : Nat) (p0 : AF) (p1 : Int) (p2 : Int) : Option Bool :=
 Da N p0 p2 (fun (_ : Unit) =>
  some true) N p1
def FY (N : Nat) (p0 : Ae) (p1 : Ah) (p2 : Int) : Option (Bool × (List Int)) :=
 (BZ p0.fTables p2).bind fun v1 =>
 (EW N v1).bind fun v2 =>
 AZ ((!v2))
  (some (false, p1.fHeld))
  ((Fe N p1 v1.fFrom).bind fun v4 =>
  (BZ p1.fHeld p2).bind fun v5 =>
  Bv (fun (v6 : Bool) =>
   AZ v6
    (some (false, p1.fHeld))
    ((BZ p1.fHeld p2).bind fun _ =>
    some (true, p1.fHeld.set ((p2).toNat) v4)))
  fun j6 =>
  (BZ p1.fHeld p2).bind fun v7 =>
  AZ ((v7 == v4))
   (j6 true)
   (AZ ((v1.fKind == 4))
    ((BZ p1.fBase v1.fFrom).bind fun v10 =>
    (E8 N v1 ((CY .u8 v5 v4)) v10).bind fun v11 =>
    j6 (!v11))
    (j6 false)))
def EL (N : Nat) (p0 : Ae) (p1 : Ah) (p2 : Af) : Option (Ah × Bool) :=
 (FC N p1).bind fun v1 =>
 AZ ((p2.fKind == 1))
  ((GT N p0 v1 p2).bind fun v3 =>
  some ((Ah.mk v1.fBase v3.2.1 v3.2.2), v3.1))
  (AZ ((p2.fKind == 3))
   ((FY N p0 v1 p2.fIndex).bind fun v5 =>
   some ((Ah.mk v1.fBase v1.fNext v5.2), v5.1))
   ((BZ v1.fNext p2.fIndex).bind fun v6 =>
   AZ ((decide (v6 < 0)))
    (some (v1, false))
    ((BZ v1.fNext p2.fIndex).bind fun _ =>
    Bv (fun (v9 : (List Int)) =>
     some ((Ah.mk v9 (v1.fNext.set ((p2.fIndex).toNat) ((-1))) v1.fHeld), true))
    fun j9 =>
    AZ ((p2.fKind == 2))
     ((BZ v1.fBase p2.fIndex).bind fun _ =>
     j9 (v1.fBase.set ((p2.fIndex).toNat) v6))
     (j9 v1.fBase))))
def C3 (N : Nat) (p0 : Af) (p1 : List Int) (p2 : List Int) (p3 : List Int) (p4 : List AF) (p5 : List Int) (p6 : List Int) (p7 : List Int) : Option Bool :=
 (EL N ((Ae.mk p1 p2 p3 p4)) ((Ah.mk p5 p6 p7)) p0).bind fun v1 =>
 some ((!v1.2))
def A3 (N : Nat) (p0 : List Af) (p1 : Af → Option Bool) (j1 : Unit → Option Int) : Nat → Int → Option Int
 | 0, _ => none
 | n1 + 1, v1 =>
  AZ ((decide (v1 < (p0.length : Int))))
   ((BZ p0 v1).bind fun v4 =>
   (p1 v4).bind fun v5 =>
   AZ v5
    (some v1)
    (A3 N p0 p1 j1 n1 (IntKind.wrap .i64 (v1 + 1))))
   (j1 ())
def BI (N : Nat) (p0 : List Af) (p1 : Af → Option Bool) : Option Int :=
 A3 N p0 p1 (fun (_ : Unit) =>
  some ((-1))) N 0
def AW (N : Nat) (p1 : Af → Option Bool) (j3 : ((List Af) × Int) → Option (Nat × (List Af))) : Nat → ((List Af) × Int × Int) → Option (Nat × (List Af))
 | 0, _ => none
 | n3 + 1, v3 =>
  AZ ((decide (v3.2.2 < (v3.1.length : Int))))
   (Bv (fun (v6 : (List Af) × Int) =>
    AW N p1 j3 n3 (v6.1, v6.2, (IntKind.wrap .i64 (v3.2.2 + 1))))
   fun j6 =>
   (BZ v3.1 v3.2.2).bind fun v7 =>
   (p1 v7).bind fun v8 =>
   AZ ((!v8))
    ((BZ v3.1 v3.2.1).bind fun _ =>
    j6 (v3.1.set ((v3.2.1).toNat) v7, (IntKind.wrap .i64 (v3.2.1 + 1))))
    (j6 (v3.1, v3.2.1)))
   (j3 (v3.1, v3.2.1))
def BE (N : Nat) (p0 : List Af) (p1 : Af → Option Bool) : Option (Nat × (List Af)) :=
 (BI N p0 p1).bind fun v1 =>
 AZ ((v1 == (-1)))
  (some (p0.length, p0))
  (AW N p1 (fun (v4 : (List Af) × Int) =>
   (Eg ((0 : Int) ≤ v4.2 ∧ (v4.2).toNat ≤ v4.1.length ∧ v4.1.length ≤ v4.1.length)).bind fun _ =>
   (Eg ((0 : Int) ≤ v4.2 ∧ 0 ≤ (v4.2).toNat ∧ (v4.2).toNat ≤ (Il v4.1 ((v4.2).toNat) (List.replicate ((v4.1.length - (v4.2).toNat)) ((Af.mk 0 0 0)))).length)).bind fun _ =>
   some ((v4.2).toNat, Il v4.1 ((v4.2).toNat) (List.replicate ((v4.1.length - (v4.2).toNat)) ((Af.mk 0 0 0))))) N (p0, v1, (IntKind.wrap .i64 (v1 + 1))))
def Fd (N : Nat) (p0 : Ae) (p1 : Ah) : Option ((List Af) × Int) :=
 (ED N p0 p1).bind fun v1 =>
 AZ ((v1 != 0))
  (some (([] : List Af), v1))
  ((GU N p0).bind fun v3 =>
  (BE N v3 ((fun (x : Af) => C3 N x p0.fVersions p0.fNow p0.fTarget p0.fTables p1.fBase p1.fNext p1.fHeld))).bind fun v4 =>
  (Eg (v4.1 ≤ v4.2.length)).bind fun _ =>
  some (v4.2.take v4.1, 0))
def FU (_ : Nat) (p0 : Af) : Option Bool :=
 Bv (fun (v1 : Bool) =>
  AZ v1
   (some false)
   (Bv (fun (v5 : Bool) =>
    some v5)
   fun j5 =>
   AZ ((p0.fKind == 1))
    (j5 true)
    (j5 (p0.fVersion == 0))))
 fun j1 =>
 AZ ((decide ((Tc p0.fIndex p0.fVersion) < 0)))
  (j1 true)
  (AZ ((decide (p0.fKind < 1)))
   (j1 true)
   (j1 (decide (4 < p0.fKind))))
def Fw (_ : Nat) (p0 : Ae) (p1 : Af) : Option Bool :=
 AZ ((p1.fKind == 3))
  (some ((decide (p1.fIndex < (p0.fTables.length : Int)))))
  (Bv (fun (v2 : Bool) =>
   some v2)
  fun j2 =>
  AZ ((decide (p1.fIndex < (p0.fVersions.length : Int))))
   (AZ ((p1.fKind != 1))
    (j2 true)
    ((BZ p0.fVersions p1.fIndex).bind fun v5 =>
    j2 (decide (p1.fVersion < v5))))
   (j2 false))
def F1 (N : Nat) (p0 : Ae) (p1 : Ah) (p2 : Af) : Option (Ah × Int) :=
 (FU N p2).bind fun v1 =>
 AZ ((!v1))
  (some ((Ah.mk (([] : List Int)) (([] : List Int)) (([] : List Int))), 1))
  ((Fw N p0 p2).bind fun v3 =>
  AZ ((!v3))
   (some ((Ah.mk (([] : List Int)) (([] : List Int)) (([] : List Int))), 4))
   ((EL N p0 p1 p2).bind fun v5 =>
   AZ ((!v5.2))
    (some ((Ah.mk (([] : List Int)) (([] : List Int)) (([] : List Int))), 11))
    (some (v5.1, 0))))
def Fj (N : Nat) (p0 : Ae) (p1 : Ah) (p2 : Af) : Option (Ah × Int) :=
 (ED N p0 p1).bind fun v1 =>
 AZ ((v1 != 0))
  (some ((Ah.mk (([] : List Int)) (([] : List Int)) (([] : List Int))), v1))
  ((F1 N p0 p1 p2).bind fun v3 =>
  some (v3.1, v3.2))
def Cf (N : Nat) (p0 : Ae) (v2 : (List AD) × (List (ByteArray × Int)) × Int) (v6 : (List Af) × Int) (j8 : ((List AD) × (List (ByteArray × Int))) → Option ((List AD) × Int)) : Nat → ((List AD) × (List (ByteArray × Int)) × Int) → Option ((List AD) × Int)
 | 0, _ => none
 | n8 + 1, v8 =>
  AZ ((decide (v8.2.2 < (v6.1.length : Int))))
   ((BZ v6.1 v8.2.2).bind fun v11 =>
   (BZ v8.1 v2.2.2).bind fun v12 =>
   (Fj N p0 ((Ah.mk v12.fM.fBase v12.fM.fNext v12.fM.fHeld)) v11).bind fun v13 =>
   AZ ((v13.2 != 0))
    (some (([] : List AD), v13.2))
    ((Gf N v13.1).bind fun v15 =>
    Bv (fun (v16 : (List AD) × (List (ByteArray × Int)) × Int) =>
     Bv (fun (v24 : (List AD)) =>
      AZ ((decide (20000 < (v24.length : Int))))
       (some (([] : List AD), 3))
       (Cf N p0 v2 v6 j8 n8 (v24, v16.2.1, (IntKind.wrap .i64 (v8.2.2 + 1)))))
     fun j24 =>
     AZ ((decide (0 ≤ v16.2.2)))
      ((BZ v16.1 v2.2.2).bind fun v26 =>
      (Eg (v26.fNext.length + (([v16.2.2] : List Int)).length ≤ Dv)).bind fun _ =>
      (BZ v16.1 v2.2.2).bind fun v28 =>
      j24 (v16.1.set ((v2.2.2).toNat) ((AD.mk ((Ah.mk v28.fM.fBase v28.fM.fNext v28.fM.fHeld)) v28.fFrom ((Af.mk v28.fBy.fKind v28.fBy.fIndex v28.fBy.fVersion)) (v26.fNext ++ (([v16.2.2] : List Int)))))))
      (j24 v16.1))
    fun j16 =>
    AZ ((!((Jp v15 v8.2.1).isSome)))
     (Bv (fun (v18 : (List AD) × Int) =>
      j16 (v18.1, KO v15 v18.2 v8.2.1, v18.2))
     fun j18 =>
     (Fg N p0 v13.1).bind fun v19 =>
     Bv (fun (v20 : Bool) =>
      AZ v20
       (j18 (v8.1, (-1)))
       ((Eg (v8.1.length + (([(AD.mk v13.1 v2.2.2 v11 (([] : List Int)))] : List AD)).length ≤ Dv)).bind fun _ =>
       j18 (v8.1 ++ (([(AD.mk v13.1 v2.2.2 v11 (([] : List Int)))] : List AD)), (v8.1.length : Int))))
     fun j20 =>
     AZ ((v19.2 != 0))
      (j20 true)
      (j20 (!v19.1)))
     (j16 (v8.1, v8.2.1, ((Jp v15 v8.2.1).getD 0)))))
   (j8 (v8.1, v8.2.1))
def C4 (N : Nat) (p0 : Ae) (j2 : ((List AD)) → Option ((List AD) × Int)) : Nat → ((List AD) × (List (ByteArray × Int)) × Int) → Option ((List AD) × Int)
 | 0, _ => none
 | n2 + 1, v2 =>
  AZ ((decide (v2.2.2 < (v2.1.length : Int))))
   ((BZ v2.1 v2.2.2).bind fun v5 =>
   (Fd N p0 ((Ah.mk v5.fM.fBase v5.fM.fNext v5.fM.fHeld))).bind fun v6 =>
   AZ ((v6.2 != 0))
    (some (([] : List AD), v6.2))
    (Cf N p0 v2 v6 (fun (v9 : (List AD) × (List (ByteArray × Int))) =>
     C4 N p0 j2 n2 (v9.1, v9.2, (IntKind.wrap .i64 (v2.2.2 + 1)))) N (v2.1, v2.2.1, 0)))
   (j2 v2.1)
def Fs (N : Nat) (p0 : Ae) (p1 : Ah) : Option ((List AD) × Int) :=
 (Gf N p1).bind fun v1 =>
 C4 N p0 (fun (v3 : (List AD)) =>
  some (v3, 0)) N (([(AD.mk p1 ((-1)) ((Af.mk 0 0 0)) (([] : List Int)))] : List AD), KO v1 0 (([] : List (ByteArray × Int))), 0)
def B1 (N : Nat) (p0 : List Int) (p1 : List Int) (j2 : Unit → Option Bool) : Nat → Int → Option Bool
 | 0, _ => none
 | n2 + 1, v2 =>
  AZ ((decide (v2 < (p0.length : Int))))
   ((BZ p0 v2).bind fun v5 =>
   (BZ p1 v2).bind fun v6 =>
   AZ ((v5 != v6))
    (some false)
    (B1 N p0 p1 j2 n2 (IntKind.wrap .i64 (v2 + 1))))
   (j2 ())
def Do (N : Nat) (p0 : List Int) (p1 : List Int) : Option Bool :=
 AZ (((p0.length : Int) != (p1.length : Int)))
  (some false)
  (B1 N p0 p1 (fun (_ : Unit) =>
   some true) N 0)
def Be (N : Nat) (p0 : List Int) (p1 : Int → Option Bool) (j1 : Unit → Option Int) : Nat → Int → Option Int
 | 0, _ => none
 | n1 + 1, v1 =>
  AZ ((decide (v1 < (p0.length : Int))))
   ((BZ p0 v1).bind fun v4 =>
   (p1 v4).bind fun v5 =>
   AZ v5
    (some v1)
    (Be N p0 p1 j1 n1 (IntKind.wrap .i64 (v1 + 1))))
   (j1 ())
def Du (N : Nat) (p0 : List Int) (p1 : Int → Option Bool) : Option Int :=
 Be N p0 p1 (fun (_ : Unit) =>
  some ((-1))) N 0
def Cq (N : Nat) (p0 : List Int) (p1 : Int → Option Bool) : Option Bool :=
 (Du N p0 p1).bind fun v1 =>
 some ((decide (0 ≤ v1)))
def F0 (_ : Nat) (p0 : Int) : Option Bool :=
 some ((decide (0 ≤ p0)))
def Fz (N : Nat) (p0 : Ae) (p1 : Ah) : Option Bool :=
 Bv (fun (v1 : Bool) =>
  some v1)
 fun j1 =>
 (ED N p0 p1).bind fun v2 =>
 AZ ((v2 == 0))
  ((Do N p1.fBase p0.fTarget).bind fun v4 =>
  AZ v4
   ((Cq N p1.fNext ((fun (x : Int) => F0 N x))).bind fun v6 =>
   j1 (!v6))
   (j1 false))
  (j1 false)
def D3 (N : Nat) (p0 : AD) (p1 : List Int) (p2 : List Int) (p3 : List Int) (p4 : List AF) : Option Bool :=
 (Fz N ((Ae.mk p1 p2 p3 p4)) ((Ah.mk p0.fM.fBase p0.fM.fNext p0.fM.fHeld))).bind fun v1 =>
 some v1
def AV (N : Nat) (p0 : List AD) (p1 : AD → Option Bool) (j1 : Unit → Option Int) : Nat → Int → Option Int
 | 0, _ => none
 | n1 + 1, v1 =>
  AZ ((decide (v1 < (p0.length : Int))))
   ((BZ p0 v1).bind fun v4 =>
   (p1 ((AD.mk ((Ah.mk v4.fM.fBase v4.fM.fNext v4.fM.fHeld)) v4.fFrom ((Af.mk v4.fBy.fKind v4.fBy.fIndex v4.fBy.fVersion)) v4.fNext))).bind fun v5 =>
   AZ v5
    (some v1)
    (AV N p0 p1 j1 n1 (IntKind.wrap .i64 (v1 + 1))))
   (j1 ())
def B8 (N : Nat) (p0 : List AD) (p1 : AD → Option Bool) : Option Int :=
 AV N p0 p1 (fun (_ : Unit) =>
  some ((-1))) N 0
def Bh (N : Nat) (j1 : ((List Af)) → Option ((List Af))) : Nat → ((List Af) × Int × Int) → Option ((List Af))
 | 0, _ => none
 | n1 + 1, v1 =>
  AZ ((decide (v1.2.1 < v1.2.2)))
   ((BZ v1.1 v1.2.2).bind fun v4 =>
   (BZ v1.1 v1.2.1).bind fun v5 =>
   (BZ v1.1 v1.2.1).bind fun _ =>
   (BZ (v1.1.set ((v1.2.1).toNat) v4) v1.2.2).bind fun _ =>
   Bh N j1 n1 ((v1.1.set ((v1.2.1).toNat) v4).set ((v1.2.2).toNat) v5, (IntKind.wrap .i64 (v1.2.1 + 1)), (IntKind.wrap .i64 (v1.2.2 - 1))))
   (j1 v1.1)
def Bq (N : Nat) (p0 : List Af) : Option ((List Af)) :=
 Bh N (fun (v2 : (List Af)) =>
  some v2) N (p0, 0, (IntKind.wrap .i64 ((p0.length : Int) - 1)))
def EX (N : Nat) (p0 : List AD) (j1 : ((List Af)) → Option ((List Af))) : Nat → (Int × (List Af)) → Option ((List Af))
 | 0, _ => none
 | n1 + 1, v1 =>
  (BZ p0 v1.1).bind fun v3 =>
  AZ ((decide (0 ≤ v3.fFrom)))
   ((BZ p0 v1.1).bind fun v5 =>
   (Eg (v1.2.length + (([(Af.mk v5.fBy.fKind v5.fBy.fIndex v5.fBy.fVersion)] : List Af)).length ≤ Dv)).bind fun _ =>
   (BZ p0 v1.1).bind fun v7 =>
   EX N p0 j1 n1 (v7.fFrom, v1.2 ++ (([(Af.mk v5.fBy.fKind v5.fBy.fIndex v5.fBy.fVersion)] : List Af))))
   (j1 v1.2)
def H4 (N : Nat) (p0 : List AD) (p1 : Int) : Option ((List Af)) :=
 EX N p0 (fun (v2 : (List Af)) =>
  (Bq N v2).bind fun v8 =>
  some v8) N (p1, ([] : List Af))
def EH (N : Nat) (p0 : Ae) (p1 : Ah) : Option ((List Af) × Int) :=
 (Fg N p0 p1).bind fun v1 =>
 AZ ((v1.2 != 0))
  (some (([] : List Af), v1.2))
  (AZ ((!v1.1))
   (some (([] : List Af), 13))
   ((Fs N p0 p1).bind fun v4 =>
   AZ ((v4.2 != 0))
    (some (([] : List Af), v4.2))
    ((B8 N v4.1 ((fun (x : AD) => D3 N x p0.fVersions p0.fNow p0.fTarget p0.fTables))).bind fun v6 =>
    AZ ((decide (v6 < 0)))
     (some (([] : List Af), 14))
     ((H4 N v4.1 v6).bind fun v8 =>
     some (v8, 0)))))
def EI (N : Nat) (p0 : Ae) : Option ((List Af) × Int) :=
 (FJ N p0).bind fun v1 =>
 AZ ((v1.2 != 0))
  (some (([] : List Af), v1.2))
  ((EH N p0 v1.1).bind fun v3 =>
  some (v3.1, v3.2))
def DU (N : Nat) (p0 : Ae) (p1 : List Af) (j5 : Ah → Option (Int × Ah × An × Int)) : Nat → (Ah × Int) → Option (Int × Ah × An × Int)
 | 0, _ => none
 | n5 + 1, v5 =>
  AZ ((decide (v5.2 < (p1.length : Int))))
   ((BZ p1 v5.2).bind fun v8 =>
   (Fj N p0 v5.1 v8).bind fun v9 =>
   Bv (fun (v10 : Bool) =>
    AZ v10
     (some (v5.2, (Ah.mk (([] : List Int)) (([] : List Int)) (([] : List Int))), (An.mk 0 0 0), 0))
     ((E7 N p0 v9.1).bind fun v13 =>
     AZ ((v13.2.2 == 0))
      (some (v5.2, v13.1, v13.2.1, 0))
      (DU N p0 p1 j5 n5 (v9.1, (IntKind.wrap .i64 (v5.2 + 1))))))
   fun j10 =>
   AZ ((v9.2 != 0))
    (j10 true)
    (j10 (v8.fKind == 4)))
   (j5 v5.1)
def EB (N : Nat) (p0 : Ae) (p1 : List Af) : Option (Int × Ah × An × Int) :=
 (FJ N p0).bind fun v1 =>
 AZ ((v1.2 != 0))
  (some (0, (Ah.mk (([] : List Int)) (([] : List Int)) (([] : List Int))), (An.mk 0 0 0), v1.2))
  ((E7 N p0 v1.1).bind fun v3 =>
  AZ ((v3.2.2 == 0))
   (some ((-1), v3.1, v3.2.1, 0))
   (DU N p0 p1 (fun (v6 : Ah) =>
    (Fz N p0 v6).bind fun v15 =>
    AZ ((!v15))
     (some ((p1.length : Int), (Ah.mk (([] : List Int)) (([] : List Int)) (([] : List Int))), (An.mk 0 0 0), 14))
     (some (0, (Ah.mk (([] : List Int)) (([] : List Int)) (([] : List Int))), (An.mk 0 0 0), 15))) N (v1.1, 0)))
def CC (N : Nat) (p0 : List Af) (p1 : List Af) (j2 : Unit → Option Bool) : Nat → Int → Option Bool
 | 0, _ => none
 | n2 + 1, v2 =>
  AZ ((decide (v2 < (p0.length : Int))))
   ((BZ p0 v2).bind fun v5 =>
   (BZ p1 v2).bind fun v6 =>
   AZ ((!((v5.fKind == v6.fKind) && ((v5.fIndex == v6.fIndex) && ((v5.fVersion == v6.fVersion) && true)))))
    (some false)
    (CC N p0 p1 j2 n2 (IntKind.wrap .i64 (v2 + 1))))
   (j2 ())
def DE (N : Nat) (p0 : List Af) (p1 : List Af) : Option Bool :=
 AZ (((p0.length : Int) != (p1.length : Int)))
  (some false)
  (CC N p0 p1 (fun (_ : Unit) =>
   some true) N 0)
def Fi (N : Nat) (p0 : Ae) (p1 : List Af) : Option Bool :=
 (EB N p0 p1).bind fun v1 =>
 some ((v1.2.2.2 == 15))
def EJ (N : Nat) : Option Bool :=
 (CD N false false).bind fun v1 =>
 (EI N v1).bind fun v2 =>
 (CD N true false).bind fun v3 =>
 (EI N v3).bind fun v4 =>
 (CD N true true).bind fun v5 =>
 (EI N v5).bind fun v6 =>
 (CD N false false).bind fun v7 =>
 (EB N v7 (([(Af.mk 1 0 1)] : List Af))).bind fun v8 =>
 Bv (fun (v9 : Bool) =>
  some v9)
 fun j9 =>
 AZ ((v2.2 == 0))
  ((DE N v2.1 (([(Af.mk 1 1 1), (Af.mk 2 1 0), (Af.mk 1 0 1), (Af.mk 2 0 0)] : List Af))).bind fun v11 =>
  AZ v11
   (AZ ((v4.2 == 14))
    (AZ ((v6.2 == 14))
     (AZ ((v8.2.2.2 == 0))
      (AZ ((v8.1 == 0))
       (AZ (((v8.2.2.1.fTable == 0) && ((v8.2.2.1.fWriter == 1) && ((v8.2.2.1.fReader == 0) && true))))
        ((CD N false false).bind fun v18 =>
        (Fi N v18 (([(Af.mk 1 1 1), (Af.mk 2 1 0), (Af.mk 1 0 1), (Af.mk 2 0 0)] : List Af))).bind fun v19 =>
        j9 v19)
        (j9 false))
       (j9 false))
      (j9 false))
     (j9 false))
    (j9 false))
   (j9 false))
  (j9 false)
def DD (_ : Nat) (p0 : List Int) (p1 : Int) : Option Int :=
 AZ ((decide (p1 < (p0.length : Int))))
  ((BZ p0 p1).bind fun v2 =>
  some ((IntKind.wrap .i64 v2)))
  (some 0)
def A5 (_ : Nat) (p0 : AF) : Option Bool :=
 Bv (fun (v1 : Bool) =>
  some v1)
 fun j1 =>
 AZ ((p0.fKind == 3))
  (j1 true)
  (j1 (p0.fKind == 4))
def Ch (N : Nat) (p1 : Int) (p2 : Int) (p3 : Bool) (v1 : (List (List Bool)) × Int) (j4 : ((List Bool)) → Option ((List (List Bool)))) : Nat → ((List Bool) × Int) → Option ((List (List Bool)))
 | 0, _ => none
 | n4 + 1, v4 =>
  AZ ((decide (v4.2 < p1)))
   (Bv (fun (v7 : (List Bool)) =>
    Ch N p1 p2 p3 v1 j4 n4 (v7, (IntKind.wrap .i64 (v4.2 + 1))))
   fun j7 =>
   AZ p3
    (AZ ((v1.2 == v4.2))
     ((Eg (v4.1.length + (([true] : List Bool)).length ≤ Dv)).bind fun _ =>
     j7 (v4.1 ++ (([true] : List Bool))))
     ((Eg (0 ≤ (IntKind.wrap .i64 ((IntKind.wrap .i64 (3 * v1.2)) + v4.2)))).bind fun _ =>
     (Eg (v4.1.length + (([((Int.tmod ((E2 .u16 p2 ((IntKind.wrap .i64 ((IntKind.wrap .i64 (3 * v1.2)) + v4.2))))) 2) == 0)] : List Bool)).length ≤ Dv)).bind fun _ =>
     j7 (v4.1 ++ (([((Int.tmod ((E2 .u16 p2 ((IntKind.wrap .i64 ((IntKind.wrap .i64 (3 * v1.2)) + v4.2))))) 2) == 0)] : List Bool)))))
    ((Eg (0 ≤ (IntKind.wrap .i64 ((IntKind.wrap .i64 (3 * v1.2)) + v4.2)))).bind fun _ =>
    (Eg (v4.1.length + (([((Int.tmod ((E2 .u16 p2 ((IntKind.wrap .i64 ((IntKind.wrap .i64 (3 * v1.2)) + v4.2))))) 2) == 0)] : List Bool)).length ≤ Dv)).bind fun _ =>
    j7 (v4.1 ++ (([((Int.tmod ((E2 .u16 p2 ((IntKind.wrap .i64 ((IntKind.wrap .i64 (3 * v1.2)) + v4.2))))) 2) == 0)] : List Bool)))))
   (j4 v4.1)
def Ca (N : Nat) (p0 : Int) (p1 : Int) (p2 : Int) (p3 : Bool) (j1 : ((List (List Bool))) → Option ((List (List Bool)))) : Nat → ((List (List Bool)) × Int) → Option ((List (List Bool)))
 | 0, _ => none
 | n1 + 1, v1 =>
  AZ ((decide (v1.2 < p0)))
   (Ch N p1 p2 p3 v1 (fun (v5 : (List Bool)) =>
    (Eg (v1.1.length + (([v5] : List (List Bool))).length ≤ Dv)).bind fun _ =>
    Ca N p0 p1 p2 p3 j1 n1 (v1.1 ++ (([v5] : List (List Bool))), (IntKind.wrap .i64 (v1.2 + 1)))) N (([] : List Bool), 0))
   (j1 v1.1)
def DB (N : Nat) (p0 : Int) (p1 : Int) (p2 : Int) (p3 : Bool) : Option ((List (List Bool))) :=
 Ca N p0 p1 p2 p3 (fun (v2 : (List (List Bool))) =>
  some v2) N (([] : List (List Bool)), 0)
def Cv (N : Nat) (p0 : BL) (j4 : ((List Int) × (List Int) × (List Int)) → Option (Ae × Bool)) : Nat → ((List Int) × (List Int) × (List Int) × Int) → Option (Ae × Bool)
 | 0, _ => none
 | n4 + 1, v4 =>
  AZ ((decide (v4.2.2.2 < (p0.fVersions.length : Int))))
   ((BZ p0.fVersions v4.2.2.2).bind fun v7 =>
   (Eg (v4.1.length + (([(IntKind.wrap .i64 (1 + (IntKind.wrap .i64 ((Int.tmod v7 3)))))] : List Int)).length ≤ Dv)).bind fun _ =>
   (DD N p0.fNow v4.2.2.2).bind fun v9 =>
   (Eg ((IntKind.wrap .i64 (1 + (IntKind.wrap .i64 ((Int.tmod v7 3))))) ≠ 0)).bind fun _ =>
   (Eg (v4.2.1.length + (([(Int.tmod v9 ((IntKind.wrap .i64 (1 + (IntKind.wrap .i64 ((Int.tmod v7 3)))))))] : List Int)).length ≤ Dv)).bind fun _ =>
   (DD N p0.fTarget v4.2.2.2).bind fun v12 =>
   (Eg ((IntKind.wrap .i64 (1 + (IntKind.wrap .i64 ((Int.tmod v7 3))))) ≠ 0)).bind fun _ =>
   (Eg (v4.2.2.1.length + (([(Int.tmod v12 ((IntKind.wrap .i64 (1 + (IntKind.wrap .i64 ((Int.tmod v7 3)))))))] : List Int)).length ≤ Dv)).bind fun _ =>
   Cv N p0 j4 n4 (v4.1 ++ (([(IntKind.wrap .i64 (1 + (IntKind.wrap .i64 ((Int.tmod v7 3)))))] : List Int)), v4.2.1 ++ (([(Int.tmod v9 ((IntKind.wrap .i64 (1 + (IntKind.wrap .i64 ((Int.tmod v7 3)))))))] : List Int)), v4.2.2.1 ++ (([(Int.tmod v12 ((IntKind.wrap .i64 (1 + (IntKind.wrap .i64 ((Int.tmod v7 3)))))))] : List Int)), (IntKind.wrap .i64 (v4.2.2.2 + 1))))
   (j4 (v4.1, v4.2.1, v4.2.2.1))
def Bw (N : Nat) (p0 : BL) (v5 : (List Int) × (List Int) × (List Int)) (j15 : ((List AF)) → Option (Ae × Bool)) : Nat → ((List AF) × Int) → Option (Ae × Bool)
 | 0, _ => none
 | n15 + 1, v15 =>
  Bv (fun (v17 : Bool) =>
   AZ v17
    ((BZ p0.fLinks v15.2).bind fun v20 =>
    (Eg ((v5.1.length : Int) ≠ 0)).bind fun _ =>
    (Eg ((v5.1.length : Int) ≠ 0)).bind fun _ =>
    Bv (fun (v23 : Bool) =>
     (BZ v5.1 ((Int.tmod ((IntKind.wrap .i64 v20.fFrom)) ((v5.1.length : Int))))).bind fun v26 =>
     (BZ v5.1 ((Int.tmod ((IntKind.wrap .i64 v20.fTo)) ((v5.1.length : Int))))).bind fun v27 =>
     (DB N v26 v27 v20.fBad false).bind fun v28 =>
     Bv (fun (v29 : (List (List Bool))) =>
      (Eg (v15.1.length + (([(AF.mk ((IntKind.wrap .i64 (1 + (IntKind.wrap .i64 ((Int.tmod v20.fKind 4)))))) ((Int.tmod ((IntKind.wrap .i64 v20.fFrom)) ((v5.1.length : Int)))) ((Int.tmod ((IntKind.wrap .i64 v20.fTo)) ((v5.1.length : Int)))) v23 v28 v29)] : List AF)).length ≤ Dv)).bind fun _ =>
      Bw N p0 v5 j15 n15 (v15.1 ++ (([(AF.mk ((IntKind.wrap .i64 (1 + (IntKind.wrap .i64 ((Int.tmod v20.fKind 4)))))) ((Int.tmod ((IntKind.wrap .i64 v20.fFrom)) ((v5.1.length : Int)))) ((Int.tmod ((IntKind.wrap .i64 v20.fTo)) ((v5.1.length : Int)))) v23 v28 v29)] : List AF)), (IntKind.wrap .i64 (v15.2 + 1))))
     fun j29 =>
     AZ (((IntKind.wrap .i64 (1 + (IntKind.wrap .i64 ((Int.tmod v20.fKind 4))))) == 4))
      ((BZ v5.1 ((Int.tmod ((IntKind.wrap .i64 v20.fFrom)) ((v5.1.length : Int))))).bind fun v31 =>
      (BZ v5.1 ((Int.tmod ((IntKind.wrap .i64 v20.fFrom)) ((v5.1.length : Int))))).bind fun v32 =>
      (DB N v31 v32 v20.fLost true).bind fun v33 =>
      j29 v33)
      (j29 ([] : List (List Bool))))
    fun j23 =>
    AZ v20.fAware
     ((A5 N ((AF.mk ((IntKind.wrap .i64 (1 + (IntKind.wrap .i64 ((Int.tmod v20.fKind 4)))))) ((Int.tmod ((IntKind.wrap .i64 v20.fFrom)) ((v5.1.length : Int)))) ((Int.tmod ((IntKind.wrap .i64 v20.fTo)) ((v5.1.length : Int)))) false (([] : List (List Bool))) (([] : List (List Bool)))))).bind fun v25 =>
     j23 (!v25))
     (j23 false))
    (j15 v15.1))
  fun j17 =>
  AZ ((decide (v15.2 < (p0.fLinks.length : Int))))
   (j17 (decide (0 < (v5.1.length : Int))))
   (j17 false)
def EK (N : Nat) (p0 : BL) : Option (Ae × Bool) :=
 Bv (fun (v1 : Bool) =>
  AZ v1
   (some ((Ae.mk (([] : List Int)) (([] : List Int)) (([] : List Int)) (([] : List AF))), false))
   (Cv N p0 (fun (v5 : (List Int) × (List Int) × (List Int)) =>
    Bw N p0 v5 (fun (v16 : (List AF)) =>
     some ((Ae.mk v5.1 v5.2.1 v5.2.2 v16), true)) N (([] : List AF), 0)) N (([] : List Int), ([] : List Int), ([] : List Int), 0)))
 fun j1 =>
 AZ ((decide (3 < (p0.fVersions.length : Int))))
  (j1 true)
  (j1 (decide (4 < (p0.fLinks.length : Int))))
def Cj (N : Nat) (p0 : List (List Bool)) (p1 : Int) (p2 : Int) (j2 : Unit → Option Bool) : Nat → Int → Option Bool
 | 0, _ => none
 | n2 + 1, v2 =>
  AZ ((decide (v2 < p1)))
   ((BZ p0 v2).bind fun v5 =>
   AZ (((v5.length : Int) != p2))
    (some false)
    (Cj N p0 p1 p2 j2 n2 (IntKind.wrap .i64 (v2 + 1))))
   (j2 ())
def C8 (N : Nat) (p0 : List (List Bool)) (p1 : Int) (p2 : Int) : Option Bool :=
 AZ (((p0.length : Int) != p1))
  (some false)
  (Cj N p0 p1 p2 (fun (_ : Unit) =>
   some true) N 0)
def BS (N : Nat) (p1 : AF) (j22 : Unit → Option Int) : Nat → Int → Option Int
 | 0, _ => none
 | n22 + 1, v22 =>
  AZ ((decide (v22 < (p1.fRewrite.length : Int))))
   ((BZ p1.fRewrite v22).bind fun v25 =>
   (BZ v25 v22).bind fun v26 =>
   AZ ((!v26))
    (some 1)
    (BS N p1 j22 n22 (IntKind.wrap .i64 (v22 + 1))))
   (j22 ())
def Ea (N : Nat) (p0 : Ae) (p1 : AF) : Option Int :=
 Bv (fun (v1 : Bool) =>
  AZ v1
   (some 1)
   (Bv (fun (v7 : Bool) =>
    AZ v7
     (some 4)
     ((BZ p0.fVersions p1.fFrom).bind fun v12 =>
     (BZ p0.fVersions p1.fTo).bind fun v13 =>
     (C8 N p1.fOK v12 v13).bind fun v14 =>
     AZ ((!v14))
      (some 6)
      (AZ ((p1.fKind != 4))
       (AZ (((p1.fRewrite.length : Int) != 0))
        (some 6)
        (some 0))
       ((BZ p0.fVersions p1.fFrom).bind fun v18 =>
       (BZ p0.fVersions p1.fFrom).bind fun v19 =>
       (C8 N p1.fRewrite v18 v19).bind fun v20 =>
       AZ ((!v20))
        (some 6)
        (BS N p1 (fun (_ : Unit) =>
         some 0) N 0)))))
   fun j7 =>
   AZ ((decide (p1.fFrom < 0)))
    (j7 true)
    (AZ ((decide ((p0.fVersions.length : Int) ≤ p1.fFrom)))
     (j7 true)
     (AZ ((decide (p1.fTo < 0)))
      (j7 true)
      (j7 (decide ((p0.fVersions.length : Int) ≤ p1.fTo)))))))
 fun j1 =>
 AZ ((decide (p1.fKind < 1)))
  (j1 true)
  (AZ ((decide (4 < p1.fKind)))
   (j1 true)
   (AZ p1.fAware
    ((A5 N p1).bind fun v5 =>
    j1 v5)
    (j1 false)))
def Bg (N : Nat) (p0 : Ae) (j7 : Unit → Option Int) : Nat → Int → Option Int
 | 0, _ => none
 | n7 + 1, v7 =>
  AZ ((decide (v7 < (p0.fVersions.length : Int))))
   ((BZ p0.fVersions v7).bind fun v10 =>
   Bv (fun (v11 : Bool) =>
    AZ v11
     (some 7)
     (Bg N p0 j7 n7 (IntKind.wrap .i64 (v7 + 1))))
   fun j11 =>
   AZ ((decide (v10 < 1)))
    (j11 true)
    (AZ ((decide (6 < v10)))
     (j11 true)
     ((BZ p0.fNow v7).bind fun v14 =>
     AZ ((decide (v14 < 0)))
      (j11 true)
      ((BZ p0.fNow v7).bind fun v16 =>
      AZ ((decide (v10 ≤ v16)))
       (j11 true)
       ((BZ p0.fTarget v7).bind fun v18 =>
       AZ ((decide (v18 < 0)))
        (j11 true)
        ((BZ p0.fTarget v7).bind fun v20 =>
        j11 (decide (v10 ≤ v20))))))))
   (j7 ())
def Ba (N : Nat) (p0 : Ae) (j22 : Unit → Option Int) : Nat → Int → Option Int
 | 0, _ => none
 | n22 + 1, v22 =>
  AZ ((decide (v22 < (p0.fTables.length : Int))))
   ((BZ p0.fTables v22).bind fun v25 =>
   (Ea N p0 v25).bind fun v26 =>
   AZ ((v26 != 0))
    (some v26)
    (Ba N p0 j22 n22 (IntKind.wrap .i64 (v22 + 1))))
   (j22 ())
def Cl (N : Nat) (p0 : Ae) : Option Int :=
 Bv (fun (v1 : Bool) =>
  AZ v1
   (some 3)
   (Bv (fun (v4 : Bool) =>
    AZ v4
     (some 6)
     (Bg N p0 (fun (_ : Unit) =>
      Ba N p0 (fun (_ : Unit) =>
       some 0) N 0) N 0))
   fun j4 =>
   AZ (((p0.fNow.length : Int) != (p0.fVersions.length : Int)))
    (j4 true)
    (j4 ((p0.fTarget.length : Int) != (p0.fVersions.length : Int)))))
 fun j1 =>
 AZ ((decide (6 < (p0.fVersions.length : Int))))
  (j1 true)
  (j1 (decide (12 < (p0.fTables.length : Int))))
def B3 (N : Nat) (p0 : Ae) (j3 : ((List Int) × (List Int)) → Option (Ah × Int)) : Nat → ((List Int) × (List Int) × Int) → Option (Ah × Int)
 | 0, _ => none
 | n3 + 1, v3 =>
  AZ ((decide (v3.2.2 < (p0.fVersions.length : Int))))
   ((BZ p0.fNow v3.2.2).bind fun v6 =>
   (Eg (v3.1.length + (([v6] : List Int)).length ≤ Dv)).bind fun _ =>
   (Eg (v3.2.1.length + (([(-1)] : List Int)).length ≤ Dv)).bind fun _ =>
   B3 N p0 j3 n3 (v3.1 ++ (([v6] : List Int)), v3.2.1 ++ (([(-1)] : List Int)), (IntKind.wrap .i64 (v3.2.2 + 1))))
   (j3 (v3.1, v3.2.1))
def Bf (N : Nat) (p0 : Ae) (j9 : ((List Int)) → Option (Ah × Int)) : Nat → ((List Int) × Int) → Option (Ah × Int)
 | 0, _ => none
 | n9 + 1, v9 =>
  AZ ((decide (v9.2 < (p0.fTables.length : Int))))
   (Bv (fun (v12 : Int) =>
    (Eg (v9.1.length + (([v12] : List Int)).length ≤ Dv)).bind fun _ =>
    Bf N p0 j9 n9 (v9.1 ++ (([v12] : List Int)), (IntKind.wrap .i64 (v9.2 + 1))))
   fun j12 =>
   (BZ p0.fTables v9.2).bind fun v13 =>
   (A5 N v13).bind fun v14 =>
   AZ v14
    ((BZ p0.fTables v9.2).bind fun v16 =>
    (BZ p0.fNow v16.fFrom).bind fun v17 =>
    (Eg (0 ≤ v17)).bind fun _ =>
    j12 (Dw .u8 1 v17))
    (j12 0))
   (j9 v9.1)
def Dk (N : Nat) (p0 : Ae) : Option (Ah × Int) :=
 (Cl N p0).bind fun v1 =>
 AZ ((v1 != 0))
  (some ((Ah.mk (([] : List Int)) (([] : List Int)) (([] : List Int))), v1))
  (B3 N p0 (fun (v4 : (List Int) × (List Int)) =>
   Bf N p0 (fun (v10 : (List Int)) =>
    some ((Ah.mk v4.1 v4.2 v10), 0)) N (([] : List Int), 0)) N (([] : List Int), ([] : List Int), 0))
def DK (_ : Nat) (p0 : Ah) : Option Ah :=
 (Eg ((([] : List Int)).length + p0.fBase.length ≤ Dv)).bind fun _ =>
 (Eg ((([] : List Int)).length + p0.fNext.length ≤ Dv)).bind fun _ =>
 (Eg ((([] : List Int)).length + p0.fHeld.length ≤ Dv)).bind fun _ =>
 some ((Ah.mk ((([] : List Int)) ++ p0.fBase) ((([] : List Int)) ++ p0.fNext) ((([] : List Int)) ++ p0.fHeld)))
def Cn (N : Nat) (p0 : Ah) (j1 : Int → Option ((List Ah))) : Nat → (Int × Int) → Option ((List Ah))
 | 0, _ => none
 | n1 + 1, v1 =>
  AZ ((decide (v1.2 < (p0.fNext.length : Int))))
   (Bv (fun (v4 : Int) =>
    Cn N p0 j1 n1 (v4, (IntKind.wrap .i64 (v1.2 + 1))))
   fun j4 =>
   (BZ p0.fNext v1.2).bind fun v5 =>
   AZ ((decide (0 ≤ v5)))
    (j4 (IntKind.wrap .i64 (v1.1 + 1)))
    (j4 v1.1))
   (j1 v1.1)
def BQ (N : Nat) (p0 : Ah) (v7 : (List Ah) × Int) (j12 : ((List Int)) → Option ((List Ah))) : Nat → ((List Int) × Int × Int) → Option ((List Ah))
 | 0, _ => none
 | n12 + 1, v12 =>
  AZ ((decide (v12.2.2 < (p0.fNext.length : Int))))
   (Bv (fun (v15 : (List Int) × Int) =>
    BQ N p0 v7 j12 n12 (v15.1, v15.2, (IntKind.wrap .i64 (v12.2.2 + 1))))
   fun j15 =>
   (BZ p0.fNext v12.2.2).bind fun v16 =>
   AZ ((decide (v16 < 0)))
    (j15 (v12.1, v12.2.1))
    (Bv (fun (v18 : (List Int)) =>
     j15 (v18, (IntKind.wrap .i64 (v12.2.1 + 1))))
    fun j18 =>
    (Eg (0 ≤ v12.2.1)).bind fun _ =>
    AZ (((Int.tmod ((E2 .i64 v7.2 v12.2.1)) 2) == 1))
     ((BZ v12.1 v12.2.2).bind fun _ =>
     j18 (v12.1.set ((v12.2.2).toNat) ((-1))))
     (j18 v12.1)))
   (j12 v12.1)
def Bu (N : Nat) (p0 : Ah) (v2 : Int) (j7 : ((List Ah)) → Option ((List Ah))) : Nat → ((List Ah) × Int) → Option ((List Ah))
 | 0, _ => none
 | n7 + 1, v7 =>
  (Eg (0 ≤ v2)).bind fun _ =>
  AZ ((decide (v7.2 < (Dw .i64 1 v2))))
   ((DK N p0).bind fun v11 =>
   BQ N p0 v7 (fun (v13 : (List Int)) =>
    (Eg (v7.1.length + (([(Ah.mk v11.fBase v13 v11.fHeld)] : List Ah)).length ≤ Dv)).bind fun _ =>
    Bu N p0 v2 j7 n7 (v7.1 ++ (([(Ah.mk v11.fBase v13 v11.fHeld)] : List Ah)), (IntKind.wrap .i64 (v7.2 + 1)))) N (v11.fNext, 0, 0))
   (j7 v7.1)
def DX (N : Nat) (p0 : Ah) : Option ((List Ah)) :=
 Cn N p0 (fun (v2 : Int) =>
  Bu N p0 v2 (fun (v8 : (List Ah)) =>
   some v8) N (([] : List Ah), 0)) N (0, 0)
def BR (_ : Nat) (p0 : Ah) (p1 : Int) : Option Int :=
 (BZ p0.fBase p1).bind fun v1 =>
 (Eg (0 ≤ v1)).bind fun _ =>
 Bv (fun (v3 : Int) =>
  some v3)
 fun j3 =>
 (BZ p0.fNext p1).bind fun v4 =>
 AZ ((decide (0 ≤ v4)))
  ((BZ p0.fNext p1).bind fun v6 =>
  (Eg (0 ≤ v6)).bind fun _ =>
  j3 (Ng .u8 ((Dw .u8 1 v1)) ((Dw .u8 1 v6))))
  (j3 (Dw .u8 1 v1))
def Ck (_ : Nat) (p0 : Int) (p1 : Int) : Option Bool :=
 (Eg (0 ≤ p1)).bind fun _ =>
 some (((FK .u8 ((E2 .u8 p0 p1)) 1) == 1))
def Bk (N : Nat) (p0 : Ae) (p1 : Ah) (v1 : (List An) × Int) (v4 : AF) (v10 : (List An) × Int) (j17 : ((List An) × Bool) → Option ((List An))) : Nat → ((List An) × Bool × Int) → Option ((List An))
 | 0, _ => none
 | n17 + 1, v17 =>
  (BZ p0.fVersions v4.fTo).bind fun v19 =>
  AZ ((decide (v17.2.2 < v19)))
   (Bv (fun (v21 : (List An) × Bool) =>
    Bk N p0 p1 v1 v4 v10 j17 n17 (v21.1, v21.2, (IntKind.wrap .i64 (v17.2.2 + 1))))
   fun j21 =>
   (BR N p1 v4.fTo).bind fun v22 =>
   (Ck N v22 v17.2.2).bind fun v23 =>
   AZ ((!v23))
    (j21 (v17.1, v17.2.1))
    (Bv (fun (v25 : Bool) =>
     Bv (fun (v29 : Bool) =>
      AZ v29
       ((Eg (v17.1.length + (([(An.mk v1.2 v10.2 v17.2.2)] : List An)).length ≤ Dv)).bind fun _ =>
       j21 (v17.1 ++ (([(An.mk v1.2 v10.2 v17.2.2)] : List An)), v25))
       (j21 (v17.1, v25)))
     fun j29 =>
     AZ ((!v4.fAware))
      ((BZ v4.fOK v10.2).bind fun v31 =>
      (BZ v31 v17.2.2).bind fun v32 =>
      j29 (!v32))
      (j29 false))
    fun j25 =>
    AZ v17.2.1
     (j25 true)
     ((BZ v4.fOK v10.2).bind fun v27 =>
     (BZ v27 v17.2.2).bind fun v28 =>
     j25 v28)))
   (j17 (v17.1, v17.2.1))
def BB (N : Nat) (p0 : Ae) (p1 : Ah) (v1 : (List An) × Int) (v4 : AF) (v6 : Int) (j10 : ((List An)) → Option ((List An))) : Nat → ((List An) × Int) → Option ((List An))
 | 0, _ => none
 | n10 + 1, v10 =>
  (BZ p0.fVersions v4.fFrom).bind fun v12 =>
  AZ ((decide (v10.2 < v12)))
   (Bv (fun (v14 : (List An)) =>
    BB N p0 p1 v1 v4 v6 j10 n10 (v14, (IntKind.wrap .i64 (v10.2 + 1))))
   fun j14 =>
   (Ck N v6 v10.2).bind fun v15 =>
   AZ ((!v15))
    (j14 v10.1)
    (Bk N p0 p1 v1 v4 v10 (fun (v18 : (List An) × Bool) =>
     Bv (fun (v35 : Bool) =>
      AZ v35
       ((Eg (v18.1.length + (([(An.mk v1.2 v10.2 ((-1)))] : List An)).length ≤ Dv)).bind fun _ =>
       j14 (v18.1 ++ (([(An.mk v1.2 v10.2 ((-1)))] : List An))))
       (j14 v18.1))
     fun j35 =>
     AZ v4.fAware
      (j35 (!v18.2))
      (j35 false)) N (v10.1, false, 0)))
   (j10 v10.1)
def Ct (N : Nat) (p0 : Ae) (p1 : Ah) (j1 : ((List An)) → Option ((List An))) : Nat → ((List An) × Int) → Option ((List An))
 | 0, _ => none
 | n1 + 1, v1 =>
  AZ ((decide (v1.2 < (p0.fTables.length : Int))))
   ((BZ p0.fTables v1.2).bind fun v4 =>
   (BR N p1 v4.fFrom).bind fun v5 =>
   Bv (fun (v6 : Int) =>
    BB N p0 p1 v1 v4 v6 (fun (v11 : (List An)) =>
     Ct N p0 p1 j1 n1 (v11, (IntKind.wrap .i64 (v1.2 + 1)))) N (v1.1, 0))
   fun j6 =>
   (A5 N v4).bind fun v7 =>
   AZ v7
    ((BZ p1.fHeld v1.2).bind fun v9 =>
    j6 v9)
    (j6 v5))
   (j1 v1.1)
def D2 (N : Nat) (p0 : Ae) (p1 : Ah) : Option ((List An)) :=
 Ct N p0 p1 (fun (v2 : (List An)) =>
  some v2) N (([] : List An), 0)
def DM (N : Nat) (p0 : Ae) (p1 : Ah) : Option Bool :=
 (D2 N p0 p1).bind fun v1 =>
 some (((v1.length : Int) == 0))
def B0 (N : Nat) (p0 : Ae) (v1 : (List Ah)) (j2 : Unit → Option Bool) : Nat → Int → Option Bool
 | 0, _ => none
 | n2 + 1, v2 =>
  AZ ((decide (v2 < (v1.length : Int))))
   ((BZ v1 v2).bind fun v5 =>
   (DM N p0 v5).bind fun v6 =>
   AZ ((!v6))
    (some false)
    (B0 N p0 v1 j2 n2 (IntKind.wrap .i64 (v2 + 1))))
   (j2 ())
def Cr (N : Nat) (p0 : Ae) (p1 : Ah) : Option Bool :=
 (DX N p1).bind fun v1 =>
 B0 N p0 v1 (fun (_ : Unit) =>
  some true) N 0
def B2 (N : Nat) (p0 : Ae) (p1 : Ah) (j7 : Unit → Option Int) : Nat → Int → Option Int
 | 0, _ => none
 | n7 + 1, v7 =>
  AZ ((decide (v7 < (p0.fVersions.length : Int))))
   (Bv (fun (v10 : Bool) =>
    AZ v10
     (some 7)
     ((BZ p1.fBase v7).bind fun v21 =>
     (BZ p1.fNext v7).bind fun v22 =>
     AZ ((v21 == v22))
      (some 1)
      (B2 N p0 p1 j7 n7 (IntKind.wrap .i64 (v7 + 1)))))
   fun j10 =>
   (BZ p1.fBase v7).bind fun v11 =>
   AZ ((decide (v11 < 0)))
    (j10 true)
    ((BZ p1.fBase v7).bind fun v13 =>
    (BZ p0.fVersions v7).bind fun v14 =>
    AZ ((decide (v14 ≤ v13)))
     (j10 true)
     ((BZ p1.fNext v7).bind fun v16 =>
     AZ ((decide (v16 < (-1))))
      (j10 true)
      ((BZ p1.fNext v7).bind fun v18 =>
      (BZ p0.fVersions v7).bind fun v19 =>
      j10 (decide (v19 ≤ v18))))))
   (j7 ())
def BT (N : Nat) (p0 : Ae) (p1 : Ah) (j24 : Unit → Option Int) : Nat → Int → Option Int
 | 0, _ => none
 | n24 + 1, v24 =>
  AZ ((decide (v24 < (p0.fTables.length : Int))))
   ((BZ p0.fTables v24).bind fun v27 =>
   (BZ p0.fVersions v27.fFrom).bind fun v28 =>
   (Eg (0 ≤ v28)).bind fun _ =>
   Bv (fun (v30 : Bool) =>
    AZ v30
     (some 1)
     (BT N p0 p1 j24 n24 (IntKind.wrap .i64 (v24 + 1))))
   fun j30 =>
   (A5 N v27).bind fun v31 =>
   AZ ((!v31))
    ((BZ p1.fHeld v24).bind fun v33 =>
    AZ ((v33 != 0))
     (j30 true)
     ((A5 N v27).bind fun v35 =>
     AZ v35
      ((BZ p1.fHeld v24).bind fun v37 =>
      AZ (((CY .u8 v37 ((IntKind.wrap .u8 ((Dw .u8 1 v28) - 1)))) != 0))
       (j30 true)
       ((BR N p1 v27.fFrom).bind fun v39 =>
       (BZ p1.fHeld v24).bind fun v40 =>
       j30 ((CY .u8 v39 v40) != 0)))
      (j30 false)))
    ((A5 N v27).bind fun v41 =>
    AZ v41
     ((BZ p1.fHeld v24).bind fun v43 =>
     AZ (((CY .u8 v43 ((IntKind.wrap .u8 ((Dw .u8 1 v28) - 1)))) != 0))
      (j30 true)
      ((BR N p1 v27.fFrom).bind fun v45 =>
      (BZ p1.fHeld v24).bind fun v46 =>
      j30 ((CY .u8 v45 v46) != 0)))
     (j30 false)))
   (j24 ())
def CS (N : Nat) (p0 : Ae) (p1 : Ah) : Option Int :=
 (Cl N p0).bind fun v1 =>
 AZ ((v1 != 0))
  (some v1)
  (Bv (fun (v3 : Bool) =>
   AZ v3
    (some 6)
    (B2 N p0 p1 (fun (_ : Unit) =>
     BT N p0 p1 (fun (_ : Unit) =>
      some 0) N 0) N 0))
  fun j3 =>
  AZ (((p1.fBase.length : Int) != (p0.fVersions.length : Int)))
   (j3 true)
   (AZ (((p1.fNext.length : Int) != (p0.fVersions.length : Int)))
    (j3 true)
    (j3 ((p1.fHeld.length : Int) != (p0.fTables.length : Int)))))
def D0 (_ : Nat) (p0 : Af) : Option Bool :=
 Bv (fun (v1 : Bool) =>
  some v1)
 fun j1 =>
 AZ ((decide (1 ≤ p0.fKind)))
  (AZ ((decide (p0.fKind ≤ 4)))
   (AZ ((decide (0 ≤ p0.fIndex)))
    (AZ ((decide (0 ≤ p0.fVersion)))
     (AZ ((p0.fKind == 1))
      (j1 true)
      (j1 (p0.fVersion == 0)))
     (j1 false))
    (j1 false))
   (j1 false))
  (j1 false)
def BW (N : Nat) (p0 : Ae) (p2 : Af) (j12 : ((List Int)) → Option (Ah × Bool)) : Nat → ((List Int) × Int) → Option (Ah × Bool)
 | 0, _ => none
 | n12 + 1, v12 =>
  AZ ((decide (v12.2 < (p0.fTables.length : Int))))
   (Bv (fun (v15 : (List Int)) =>
    BW N p0 p2 j12 n12 (v15, (IntKind.wrap .i64 (v12.2 + 1))))
   fun j15 =>
   Bv (fun (v16 : Bool) =>
    AZ v16
     ((BZ v12.1 v12.2).bind fun v22 =>
     (Eg (0 ≤ p2.fVersion)).bind fun _ =>
     (BZ v12.1 v12.2).bind fun _ =>
     j15 (v12.1.set ((v12.2).toNat) ((Ng .u8 v22 ((Dw .u8 1 p2.fVersion))))))
     (j15 v12.1))
   fun j16 =>
   (BZ p0.fTables v12.2).bind fun v17 =>
   AZ ((v17.fFrom == p2.fIndex))
    ((BZ p0.fTables v12.2).bind fun v19 =>
    (A5 N v19).bind fun v20 =>
    j16 v20)
    (j16 false))
   (j12 v12.1)
def BA (N : Nat) (p0 : Ae) (p1 : Ah) (p2 : Af) (v32 : AF) (v35 : Int) (j38 : Unit → Option (Ah × Bool)) : Nat → Int → Option (Ah × Bool)
 | 0, _ => none
 | n38 + 1, v38 =>
  (BZ p0.fVersions v32.fFrom).bind fun v40 =>
  AZ ((decide (v38 < v40)))
   (Bv (fun (v42 : Bool) =>
    Bv (fun (v47 : Bool) =>
     AZ v47
      (some ((Ah.mk (([] : List Int)) (([] : List Int)) (([] : List Int))), false))
      (BA N p0 p1 p2 v32 v35 j38 n38 (IntKind.wrap .i64 (v38 + 1))))
    fun j47 =>
    AZ v42
     (AZ ((v32.fKind == 4))
      ((BZ v32.fRewrite v38).bind fun v50 =>
      (BZ p1.fBase v32.fFrom).bind fun v51 =>
      (BZ v50 v51).bind fun v52 =>
      j47 (!v52))
      (j47 false))
     (j47 false))
   fun j42 =>
   (BZ p1.fHeld p2.fIndex).bind fun v43 =>
   (Ck N v43 v38).bind fun v44 =>
   AZ v44
    ((Ck N v35 v38).bind fun v46 =>
    j42 (!v46))
    (j42 false))
   (j38 ())
def Cw (N : Nat) (p0 : Ae) (p1 : Ah) (p2 : Af) : Option (Ah × Bool) :=
 (Eg ((([] : List Int)).length + p1.fBase.length ≤ Dv)).bind fun _ =>
 (Eg ((([] : List Int)).length + p1.fNext.length ≤ Dv)).bind fun _ =>
 (Eg ((([] : List Int)).length + p1.fHeld.length ≤ Dv)).bind fun _ =>
 Bv (fun (v4 : (List Int) × (List Int) × (List Int)) =>
  some ((Ah.mk v4.1 v4.2.1 v4.2.2), true))
 fun j4 =>
 AZ ((p2.fKind == 1))
  (Bv (fun (v6 : Bool) =>
   AZ v6
    (some ((Ah.mk (([] : List Int)) (([] : List Int)) (([] : List Int))), false))
    ((BZ ((([] : List Int)) ++ p1.fNext) p2.fIndex).bind fun _ =>
    BW N p0 p2 (fun (v13 : (List Int)) =>
     j4 ((([] : List Int)) ++ p1.fBase, ((([] : List Int)) ++ p1.fNext).set ((p2.fIndex).toNat) p2.fVersion, v13)) N ((([] : List Int)) ++ p1.fHeld, 0)))
  fun j6 =>
  (BZ p1.fNext p2.fIndex).bind fun v7 =>
  AZ ((decide (0 ≤ v7)))
   (j6 true)
   ((BZ p1.fBase p2.fIndex).bind fun v9 =>
   j6 (p2.fVersion == v9)))
  (AZ ((p2.fKind == 2))
   ((BZ p1.fNext p2.fIndex).bind fun v26 =>
   AZ ((decide (v26 < 0)))
    (some ((Ah.mk (([] : List Int)) (([] : List Int)) (([] : List Int))), false))
    ((BZ p1.fNext p2.fIndex).bind fun v28 =>
    (BZ ((([] : List Int)) ++ p1.fBase) p2.fIndex).bind fun _ =>
    (BZ ((([] : List Int)) ++ p1.fNext) p2.fIndex).bind fun _ =>
    j4 (((([] : List Int)) ++ p1.fBase).set ((p2.fIndex).toNat) v28, ((([] : List Int)) ++ p1.fNext).set ((p2.fIndex).toNat) ((-1)), (([] : List Int)) ++ p1.fHeld)))
   (AZ ((p2.fKind == 3))
    ((BZ p0.fTables p2.fIndex).bind fun v32 =>
    (A5 N v32).bind fun v33 =>
    AZ ((!v33))
     (some ((Ah.mk (([] : List Int)) (([] : List Int)) (([] : List Int))), false))
     ((BR N p1 v32.fFrom).bind fun v35 =>
     (BZ p1.fHeld p2.fIndex).bind fun v36 =>
     AZ ((v36 == v35))
      (some ((Ah.mk (([] : List Int)) (([] : List Int)) (([] : List Int))), false))
      (BA N p0 p1 p2 v32 v35 (fun (_ : Unit) =>
       (BZ ((([] : List Int)) ++ p1.fHeld) p2.fIndex).bind fun _ =>
       j4 ((([] : List Int)) ++ p1.fBase, (([] : List Int)) ++ p1.fNext, ((([] : List Int)) ++ p1.fHeld).set ((p2.fIndex).toNat) v35)) N 0)))
    ((BZ p1.fNext p2.fIndex).bind fun v55 =>
    AZ ((decide (v55 < 0)))
     (some ((Ah.mk (([] : List Int)) (([] : List Int)) (([] : List Int))), false))
     ((BZ ((([] : List Int)) ++ p1.fNext) p2.fIndex).bind fun _ =>
     j4 ((([] : List Int)) ++ p1.fBase, ((([] : List Int)) ++ p1.fNext).set ((p2.fIndex).toNat) ((-1)), (([] : List Int)) ++ p1.fHeld)))))
def D6 (N : Nat) (p0 : Ae) (p1 : Ah) (p2 : Af) : Option (Ah × Int) :=
 (CS N p0 p1).bind fun v1 =>
 AZ ((v1 != 0))
  (some ((Ah.mk (([] : List Int)) (([] : List Int)) (([] : List Int))), v1))
  ((D0 N p2).bind fun v3 =>
  AZ ((!v3))
   (some ((Ah.mk (([] : List Int)) (([] : List Int)) (([] : List Int))), 1))
   (Bv (fun (v5 : Bool) =>
    AZ v5
     (some ((Ah.mk (([] : List Int)) (([] : List Int)) (([] : List Int))), 4))
     (Bv (fun (v11 : Bool) =>
      AZ v11
       (some ((Ah.mk (([] : List Int)) (([] : List Int)) (([] : List Int))), 4))
       ((Cw N p0 p1 p2).bind fun v15 =>
       AZ ((!v15.2))
        (some ((Ah.mk (([] : List Int)) (([] : List Int)) (([] : List Int))), 11))
        (some (v15.1, 0))))
     fun j11 =>
     AZ ((p2.fKind == 1))
      ((BZ p0.fVersions p2.fIndex).bind fun v13 =>
      j11 (decide (v13 ≤ p2.fVersion)))
      (j11 false)))
   fun j5 =>
   AZ ((p2.fKind == 3))
    (AZ ((decide ((p0.fTables.length : Int) ≤ p2.fIndex)))
     (j5 true)
     (AZ ((p2.fKind != 3))
      (j5 (decide ((p0.fVersions.length : Int) ≤ p2.fIndex)))
      (j5 false)))
    (AZ ((p2.fKind != 3))
     (j5 (decide ((p0.fVersions.length : Int) ≤ p2.fIndex)))
     (j5 false))))
def B4 (N : Nat) (p0 : Ae) (p1 : Ah) (v1 : (List Af) × Int) (v4 : (List Af) × Int) (j7 : ((List Af)) → Option ((List Af))) : Nat → ((List Af) × Int) → Option ((List Af))
 | 0, _ => none
 | n7 + 1, v7 =>
  AZ ((decide (v7.2 < 6)))
   (Bv (fun (v10 : (List Af)) =>
    B4 N p0 p1 v1 v4 j7 n7 (v10, (IntKind.wrap .i64 (v7.2 + 1))))
   fun j10 =>
   (D6 N p0 p1 ((Af.mk v1.2 v4.2 v7.2))).bind fun v11 =>
   AZ ((v11.2 == 0))
    ((Eg (v7.1.length + (([(Af.mk v1.2 v4.2 v7.2)] : List Af)).length ≤ Dv)).bind fun _ =>
    j10 (v7.1 ++ (([(Af.mk v1.2 v4.2 v7.2)] : List Af))))
    (j10 v7.1))
   (j7 v7.1)
def B5 (N : Nat) (p0 : Ae) (p1 : Ah) (v1 : (List Af) × Int) (j4 : ((List Af)) → Option ((List Af))) : Nat → ((List Af) × Int) → Option ((List Af))
 | 0, _ => none
 | n4 + 1, v4 =>
  AZ ((decide (v4.2 < (R1 ((p0.fVersions.length : Int)) ((p0.fTables.length : Int))))))
   (B4 N p0 p1 v1 v4 (fun (v8 : (List Af)) =>
    B5 N p0 p1 v1 j4 n4 (v8, (IntKind.wrap .i64 (v4.2 + 1)))) N (v4.1, 0))
   (j4 v4.1)
def Bp (N : Nat) (p0 : Ae) (p1 : Ah) (j1 : ((List Af)) → Option ((List Af))) : Nat → ((List Af) × Int) → Option ((List Af))
 | 0, _ => none
 | n1 + 1, v1 =>
  AZ ((decide (v1.2 ≤ 3)))
   (B5 N p0 p1 v1 (fun (v5 : (List Af)) =>
    Bp N p0 p1 j1 n1 (v5, (IntKind.wrap .i64 (v1.2 + 1)))) N (v1.1, 0))
   (j1 v1.1)
def D5 (N : Nat) (p0 : Ae) (p1 : Ah) : Option ((List Af)) :=
 Bp N p0 p1 (fun (v2 : (List Af)) =>
  some v2) N (([] : List Af), 1)
def CW (N : Nat) (p0 : List Int) (p1 : List Int) (j1 : Unit → Option Int) : Nat → Int → Option Int
 | 0, _ => none
 | n1 + 1, v1 =>
  Bv (fun (v3 : Bool) =>
   AZ v3
    ((BZ p0 v1).bind fun v6 =>
    (BZ p1 v1).bind fun v7 =>
    AZ ((decide (v6 < v7)))
     (some ((-1)))
     ((BZ p0 v1).bind fun v9 =>
     (BZ p1 v1).bind fun v10 =>
     AZ ((decide (v10 < v9)))
      (some 1)
      (CW N p0 p1 j1 n1 (IntKind.wrap .i64 (v1 + 1)))))
    (j1 ()))
  fun j3 =>
  AZ ((decide (v1 < (p0.length : Int))))
   (j3 (decide (v1 < (p1.length : Int))))
   (j3 false)
def C1 (N : Nat) (p0 : List Int) (p1 : List Int) : Option Int :=
 CW N p0 p1 (fun (_ : Unit) =>
  AZ ((decide ((p0.length : Int) < (p1.length : Int))))
   (some ((-1)))
   (AZ ((decide ((p1.length : Int) < (p0.length : Int))))
    (some 1)
    (some 0))) N 0
def Cy (N : Nat) (p0 : List Int) (j1 : ((List Int)) → Option ((List Int))) : Nat → ((List Int) × Int) → Option ((List Int))
 | 0, _ => none
 | n1 + 1, v1 =>
  AZ ((decide (v1.2 < (p0.length : Int))))
   ((BZ p0 v1.2).bind fun v4 =>
   (Eg (v1.1.length + (([(IntKind.wrap .i64 v4)] : List Int)).length ≤ Dv)).bind fun _ =>
   Cy N p0 j1 n1 (v1.1 ++ (([(IntKind.wrap .i64 v4)] : List Int)), (IntKind.wrap .i64 (v1.2 + 1))))
   (j1 v1.1)
def CU (N : Nat) (p0 : List Int) : Option ((List Int)) :=
 Cy N p0 (fun (v2 : (List Int)) =>
  some v2) N (([] : List Int), 0)
def Dz (N : Nat) (p0 : Ah) (p1 : Ah) : Option Int :=
 (C1 N p0.fBase p1.fBase).bind fun v1 =>
 AZ ((v1 != 0))
  (some v1)
  ((C1 N p0.fNext p1.fNext).bind fun v3 =>
  AZ ((v3 != 0))
   (some v3)
   ((CU N p0.fHeld).bind fun v5 =>
   (CU N p1.fHeld).bind fun v6 =>
   (C1 N v5 v6).bind fun v7 =>
   some v7))
def D1 (N : Nat) (p0 : Ah) (p1 : Ah) : Option Bool :=
 (Dz N p0 p1).bind fun v1 =>
 some ((v1 == 0))
def Cc (N : Nat) (p0 : List AB) (p1 : Ah) (j1 : Unit → Option Int) : Nat → Int → Option Int
 | 0, _ => none
 | n1 + 1, v1 =>
  AZ ((decide (v1 < (p0.length : Int))))
   ((BZ p0 v1).bind fun v4 =>
   (D1 N ((Ah.mk v4.fMix.fBase v4.fMix.fNext v4.fMix.fHeld)) p1).bind fun v5 =>
   AZ v5
    (some v1)
    (Cc N p0 p1 j1 n1 (IntKind.wrap .i64 (v1 + 1))))
   (j1 ())
def DC (N : Nat) (p0 : List AB) (p1 : Ah) : Option Int :=
 Cc N p0 p1 (fun (_ : Unit) =>
  some ((-1))) N 0
def BK (N : Nat) (p0 : Ae) (p2 : Int) (v1 : (List AB) × Int) (v5 : (List Af)) (j6 : ((List AB)) → Option ((List AB) × Bool)) : Nat → ((List AB) × Int) → Option ((List AB) × Bool)
 | 0, _ => none
 | n6 + 1, v6 =>
  AZ ((decide (v6.2 < (v5.length : Int))))
   ((BZ v6.1 v1.2).bind fun v9 =>
   (BZ v5 v6.2).bind fun v10 =>
   (Cw N p0 ((Ah.mk v9.fMix.fBase v9.fMix.fNext v9.fMix.fHeld)) v10).bind fun v11 =>
   Bv (fun (v12 : (List AB)) =>
    AZ ((decide (p2 < (v12.length : Int))))
     (some (([] : List AB), false))
     (BK N p0 p2 v1 v5 j6 n6 (v12, (IntKind.wrap .i64 (v6.2 + 1)))))
   fun j12 =>
   Bv (fun (v13 : Bool) =>
    AZ v13
     ((BZ v5 v6.2).bind fun v18 =>
     (Eg (v6.1.length + (([(AB.mk v11.1 v1.2 v18)] : List AB)).length ≤ Dv)).bind fun _ =>
     j12 (v6.1 ++ (([(AB.mk v11.1 v1.2 v18)] : List AB))))
     (j12 v6.1))
   fun j13 =>
   (Cr N p0 v11.1).bind fun v14 =>
   AZ v14
    ((DC N v6.1 v11.1).bind fun v16 =>
    j13 (decide (v16 < 0)))
    (j13 false))
   (j6 v6.1)
def BJ (N : Nat) (p0 : Ae) (p2 : Int) (j1 : ((List AB)) → Option ((List AB) × Bool)) : Nat → ((List AB) × Int) → Option ((List AB) × Bool)
 | 0, _ => none
 | n1 + 1, v1 =>
  AZ ((decide (v1.2 < (v1.1.length : Int))))
   ((BZ v1.1 v1.2).bind fun v4 =>
   (D5 N p0 ((Ah.mk v4.fMix.fBase v4.fMix.fNext v4.fMix.fHeld))).bind fun v5 =>
   BK N p0 p2 v1 v5 (fun (v7 : (List AB)) =>
    BJ N p0 p2 j1 n1 (v7, (IntKind.wrap .i64 (v1.2 + 1)))) N (v1.1, 0))
   (j1 v1.1)
def Cu (N : Nat) (p0 : Ae) (p1 : Ah) (p2 : Int) : Option ((List AB) × Bool) :=
 BJ N p0 p2 (fun (v2 : (List AB)) =>
  some (v2, true)) N (([(AB.mk p1 ((-1)) ((Af.mk 0 0 0)))] : List AB), 0)
def Ec (N : Nat) (p0 : Ae) (p1 : Int) : Option Bool :=
 (Dk N p0).bind fun v1 =>
 Bv (fun (v2 : Bool) =>
  AZ v2
   (some true)
   ((Cu N p0 v1.1 p1).bind fun v6 =>
   some v6.2))
 fun j2 =>
 AZ ((v1.2 != 0))
  (j2 true)
  ((Cr N p0 v1.1).bind fun v4 =>
  j2 (!v4))
def EF (N : Nat) (p0 : BL) : Option (Ae × Bool) :=
 (EK N p0).bind fun v1 =>
 Bv (fun (v2 : Bool) =>
  some (v1.1, v2))
 fun j2 =>
 AZ v1.2
  ((Ec N v1.1 120).bind fun v4 =>
  j2 v4)
  (j2 false)
def CA (N : Nat) (p0 : Ae) (p1 : Ah) (j3 : Unit → Option Bool) : Nat → Int → Option Bool
 | 0, _ => none
 | n3 + 1, v3 =>
  AZ ((decide (v3 < (p1.fBase.length : Int))))
   (Bv (fun (v6 : Bool) =>
    AZ v6
     (some false)
     (CA N p0 p1 j3 n3 (IntKind.wrap .i64 (v3 + 1))))
   fun j6 =>
   (BZ p1.fNext v3).bind fun v7 =>
   AZ ((decide (0 ≤ v7)))
    (j6 true)
    ((BZ p1.fBase v3).bind fun v9 =>
    (BZ p0.fTarget v3).bind fun v10 =>
    j6 (v9 != v10)))
   (j3 ())
def El (N : Nat) (p0 : Ae) (p1 : Ah) : Option Bool :=
 (CS N p0 p1).bind fun v1 =>
 AZ ((v1 != 0))
  (some false)
  (CA N p0 p1 (fun (_ : Unit) =>
   some true) N 0)
def C9 (N : Nat) (p0 : List AB) (j1 : ((List Af)) → Option ((List Af))) : Nat → (Int × (List Af)) → Option ((List Af))
 | 0, _ => none
 | n1 + 1, v1 =>
  (BZ p0 v1.1).bind fun v3 =>
  AZ ((decide (0 ≤ v3.fBefore)))
   ((BZ p0 v1.1).bind fun v5 =>
   (Eg ((([(Af.mk v5.fBy.fKind v5.fBy.fIndex v5.fBy.fVersion)] : List Af)).length + v1.2.length ≤ Dv)).bind fun _ =>
   (BZ p0 v1.1).bind fun v7 =>
   C9 N p0 j1 n1 (v7.fBefore, (([(Af.mk v5.fBy.fKind v5.fBy.fIndex v5.fBy.fVersion)] : List Af)) ++ v1.2))
   (j1 v1.2)
def E5 (N : Nat) (p0 : List AB) (p1 : Int) : Option ((List Af)) :=
 C9 N p0 (fun (v2 : (List Af)) =>
  some v2) N (p1, ([] : List Af))
def Ce (N : Nat) (p0 : Ae) (v5 : (List AB) × Bool) (j7 : Unit → Option ((List Af) × Int)) : Nat → Int → Option ((List Af) × Int)
 | 0, _ => none
 | n7 + 1, v7 =>
  AZ ((decide (v7 < (v5.1.length : Int))))
   ((BZ v5.1 v7).bind fun v10 =>
   (El N p0 ((Ah.mk v10.fMix.fBase v10.fMix.fNext v10.fMix.fHeld))).bind fun v11 =>
   AZ v11
    ((E5 N v5.1 v7).bind fun v13 =>
    some (v13, 0))
    (Ce N p0 v5 j7 n7 (IntKind.wrap .i64 (v7 + 1))))
   (j7 ())
def CH (N : Nat) (p0 : Ae) (p1 : Ah) : Option ((List Af) × Int) :=
 (CS N p0 p1).bind fun v1 =>
 AZ ((v1 != 0))
  (some (([] : List Af), v1))
  ((Cr N p0 p1).bind fun v3 =>
  AZ ((!v3))
   (some (([] : List Af), 13))
   ((Cu N p0 p1 20000).bind fun v5 =>
   AZ ((!v5.2))
    (some (([] : List Af), 3))
    (Ce N p0 v5 (fun (_ : Unit) =>
     some (([] : List Af), 14)) N 0)))
def Ek (N : Nat) (p0 : Ae) : Option ((List Af) × Int) :=
 (Dk N p0).bind fun v1 =>
 AZ ((v1.2 != 0))
  (some (([] : List Af), v1.2))
  ((CH N p0 v1.1).bind fun v3 =>
  some (v3.1, v3.2))
def Dj (N : Nat) (p0 : BL) : Option Bool :=
 (EJ N).bind fun v1 =>
 AZ ((!v1))
  (some false)
  ((EF N p0).bind fun v3 =>
  AZ ((!v3.2))
   (some true)
   ((EI N v3.1).bind fun v5 =>
   (Ek N v3.1).bind fun v6 =>
   Bv (fun (v7 : Bool) =>
    some v7)
   fun j7 =>
   AZ ((v5.2 == v6.2))
    ((DE N v5.1 v6.1).bind fun v9 =>
    AZ v9
     (AZ ((v5.2 != 0))
      (j7 true)
      ((Fi N v3.1 v5.1).bind fun v12 =>
      j7 v12))
     (j7 false))
    (j7 false)))
def Mf {α : Type} (w : α → Prop) (xs : List α) : Prop := ∀ x, x ∈ xs → w x
def JU (n : Int) : Prop := (Lit.int .u8 n).wf = true
def VN (n : Int) : Prop := (Lit.int .u16 n).wf = true
def GG (x : G9) : Prop := JU x.fKind ∧ JU x.fFrom ∧ JU x.fTo ∧ (fun _ => True) x.fAware ∧ VN x.fBad ∧ VN x.fLost ∧ True
def EG (x : BL) : Prop := (Mf JU) x.fVersions ∧ (Mf JU) x.fNow ∧ (Mf JU) x.fTarget ∧ (Mf GG) x.fLinks ∧ True
end Go.Lift

/- That the code does what the shallow programs do, function by function. Written by a program (gen.py). -/
namespace Go.Lift
open Go.RowKit
open Go.Proofs
theorem Ad : Try.prog.follows .mixedOrders = true := by kernel_rfl
theorem W9 : Ey Try.prog 101 true = true := by kernel_rfl
theorem Tp : Ey Try.prog 22 false = true := by kernel_rfl
theorem Vz : Ey Try.prog 23 false = true := by kernel_rfl
theorem Wp : Ey Try.prog 25 true = true := by kernel_rfl
theorem A7 : Ey Try.prog 27 false = true := by kernel_rfl
theorem Gq : Ey Try.prog 28 false = true := by kernel_rfl
theorem B9 : Ey Try.prog 3 false = true := by kernel_rfl
theorem Dr : Ey Try.prog 30 true = true := by kernel_rfl
theorem Rx : Ey Try.prog 4 false = true := by kernel_rfl
theorem Gl : Ey Try.prog 41 false = true := by kernel_rfl
theorem Bs : Ey Try.prog 43 true = true := by kernel_rfl
theorem Lq : Ey Try.prog 45 true = true := by kernel_rfl
theorem V9 : Ey Try.prog 5 false = true := by kernel_rfl
theorem GM : Ey Try.prog 63 true = true := by kernel_rfl
theorem Jd : Ey Try.prog 73 false = true := by kernel_rfl
theorem GB : Ey Try.prog 75 true = true := by kernel_rfl
theorem Ou : Ey Try.prog 76 false = true := by kernel_rfl
theorem WD : Ey Try.prog 82 false = true := by kernel_rfl
theorem XS : Ey Try.prog 84 true = true := by kernel_rfl
theorem Jg : Ey Try.prog 87 false = true := by kernel_rfl
theorem Wz : OT Try.prog 22 = true := by kernel_rfl
theorem VM : E1 Try.prog 101 128 = true := by kernel_rfl
theorem K8 : E1 Try.prog 3 8 = true := by kernel_rfl
theorem VE : E1 Try.prog 4 1 = true := by kernel_rfl
theorem UT : E1 Try.prog 43 72 = true := by kernel_rfl
theorem Ri : E1 Try.prog 45 24 = true := by kernel_rfl
theorem Vy : E1 Try.prog 5 1 = true := by kernel_rfl
theorem NZ : E1 Try.prog 63 24 = true := by kernel_rfl
theorem WU : E1 Try.prog 75 80 = true := by kernel_rfl
theorem V5 : E1 Try.prog 76 24 = true := by kernel_rfl
theorem PT : E1 Try.prog 87 1 = true := by kernel_rfl
theorem V8 : E1 Try.prog 92 104 = true := by kernel_rfl
theorem M6 : Cs Try.prog 101 0 0 = true := by kernel_rfl
theorem PF : Cs Try.prog 101 1 3 = true := by kernel_rfl
theorem Sm : Cs Try.prog 101 2 4 = true := by kernel_rfl
theorem Pj : Cs Try.prog 101 3 7 = true := by kernel_rfl
theorem OI : Cs Try.prog 25 0 0 = true := by kernel_rfl
theorem T4 : Cs Try.prog 25 1 1 = true := by kernel_rfl
theorem T5 : Cs Try.prog 25 2 2 = true := by kernel_rfl
theorem Oh : Cs Try.prog 25 3 3 = true := by kernel_rfl
theorem Br : Cs Try.prog 30 0 0 = true := by kernel_rfl
theorem F5 : Cs Try.prog 30 1 1 = true := by kernel_rfl
theorem Hp : Cs Try.prog 30 2 2 = true := by kernel_rfl
theorem CF : Cs Try.prog 30 3 3 = true := by kernel_rfl
theorem CB : Cs Try.prog 43 0 0 = true := by kernel_rfl
theorem Bz : Cs Try.prog 43 1 1 = true := by kernel_rfl
theorem Cz : Cs Try.prog 43 2 2 = true := by kernel_rfl
theorem ES : Cs Try.prog 63 0 0 = true := by kernel_rfl
theorem Ew : Cs Try.prog 63 1 1 = true := by kernel_rfl
theorem F3 : Cs Try.prog 63 2 2 = true := by kernel_rfl
theorem Fl : Cs Try.prog 75 0 0 = true := by kernel_rfl
theorem CV : Cs Try.prog 75 1 1 = true := by kernel_rfl
theorem Hq : Cs Try.prog 75 2 2 = true := by kernel_rfl
theorem H2 : Cs Try.prog 75 3 3 = true := by kernel_rfl
theorem IC : Cs Try.prog 75 4 4 = true := by kernel_rfl
theorem F4 : Cs Try.prog 75 5 5 = true := by kernel_rfl
theorem TK : Cs Try.prog 84 0 0 = true := by kernel_rfl
theorem T7 : Cs Try.prog 84 1 1 = true := by kernel_rfl
theorem UC : Cs Try.prog 84 2 2 = true := by kernel_rfl
theorem Ul : Cs Try.prog 84 3 3 = true := by kernel_rfl
theorem TR : Cs Try.prog 84 4 4 = true := by kernel_rfl
theorem Us : Cs Try.prog 84 5 5 = true := by kernel_rfl
theorem L8 : Cs Try.prog 92 0 0 = true := by kernel_rfl
theorem Rt : Cs Try.prog 92 1 3 = true := by kernel_rfl
theorem TF : Cs Try.prog 92 2 4 = true := by kernel_rfl
theorem Wl : AP Try.prog 100 = true := by kernel_rfl
theorem WF : AP Try.prog 101 = true := by kernel_rfl
theorem U3 : AP Try.prog 102 = true := by kernel_rfl
theorem V3 : AP Try.prog 103 = true := by kernel_rfl
theorem Xf : AP Try.prog 104 = true := by kernel_rfl
theorem Xa : AP Try.prog 105 = true := by kernel_rfl
theorem Wf : AP Try.prog 106 = true := by kernel_rfl
theorem UO : AP Try.prog 107 = true := by kernel_rfl
theorem X0 : AP Try.prog 11 = true := by kernel_rfl
theorem V4 : AP Try.prog 110 = true := by kernel_rfl
theorem W7 : AP Try.prog 111 = true := by kernel_rfl
theorem W5 : AP Try.prog 112 = true := by kernel_rfl
theorem Xc : AP Try.prog 113 = true := by kernel_rfl
theorem WJ : AP Try.prog 114 = true := by kernel_rfl
theorem WX : AP Try.prog 115 = true := by kernel_rfl
theorem WS : AP Try.prog 116 = true := by kernel_rfl
theorem UX : AP Try.prog 119 = true := by kernel_rfl
theorem XN : AP Try.prog 12 = true := by kernel_rfl
theorem WG : AP Try.prog 120 = true := by kernel_rfl
theorem WT : AP Try.prog 121 = true := by kernel_rfl
theorem We : AP Try.prog 122 = true := by kernel_rfl
theorem Wy : AP Try.prog 123 = true := by kernel_rfl
theorem Uz : AP Try.prog 13 = true := by kernel_rfl
theorem XF : AP Try.prog 14 = true := by kernel_rfl
theorem WB : AP Try.prog 15 = true := by kernel_rfl
theorem WM : AP Try.prog 16 = true := by kernel_rfl
theorem V6 : AP Try.prog 19 = true := by kernel_rfl
theorem Xt : AP Try.prog 21 = true := by kernel_rfl
theorem XH : AP Try.prog 22 = true := by kernel_rfl
theorem Vv : AP Try.prog 24 = true := by kernel_rfl
theorem VD : AP Try.prog 25 = true := by kernel_rfl
theorem V2 : AP Try.prog 26 = true := by kernel_rfl
theorem Xu : AP Try.prog 27 = true := by kernel_rfl
theorem Xs : AP Try.prog 28 = true := by kernel_rfl
theorem WR : AP Try.prog 29 = true := by kernel_rfl
theorem Ws : AP Try.prog 30 = true := by kernel_rfl
theorem Wo : AP Try.prog 33 = true := by kernel_rfl
theorem Ss : AP Try.prog 35 = true := by kernel_rfl
theorem XU : AP Try.prog 36 = true := by kernel_rfl
theorem WA : AP Try.prog 37 = true := by kernel_rfl
theorem VP : AP Try.prog 38 = true := by kernel_rfl
theorem Xd : AP Try.prog 39 = true := by kernel_rfl
theorem WN : AP Try.prog 40 = true := by kernel_rfl
theorem Xx : AP Try.prog 41 = true := by kernel_rfl
theorem XP : AP Try.prog 43 = true := by kernel_rfl
theorem X5 : AP Try.prog 44 = true := by kernel_rfl
theorem Wh : AP Try.prog 45 = true := by kernel_rfl
theorem Oq : AP Try.prog 46 = true := by kernel_rfl
theorem W3 : AP Try.prog 47 = true := by kernel_rfl
theorem SZ : AP Try.prog 49 = true := by kernel_rfl
theorem XX : AP Try.prog 50 = true := by kernel_rfl
theorem XM : AP Try.prog 51 = true := by kernel_rfl
theorem XJ : AP Try.prog 52 = true := by kernel_rfl
theorem XW : AP Try.prog 53 = true := by kernel_rfl
theorem Xe : AP Try.prog 54 = true := by kernel_rfl
theorem Xo : AP Try.prog 55 = true := by kernel_rfl
theorem XB : AP Try.prog 56 = true := by kernel_rfl
theorem X7 : AP Try.prog 57 = true := by kernel_rfl
theorem XQ : AP Try.prog 58 = true := by kernel_rfl
theorem X8 : AP Try.prog 59 = true := by kernel_rfl
theorem Ua : AP Try.prog 60 = true := by kernel_rfl
theorem Wu : AP Try.prog 61 = true := by kernel_rfl
theorem Xv : AP Try.prog 64 = true := by kernel_rfl
theorem XK : AP Try.prog 65 = true := by kernel_rfl
theorem X9 : AP Try.prog 66 = true := by kernel_rfl
theorem SA : AP Try.prog 72 = true := by kernel_rfl
theorem Xp : AP Try.prog 73 = true := by kernel_rfl
theorem VA : AP Try.prog 74 = true := by kernel_rfl
theorem Xw : AP Try.prog 75 = true := by kernel_rfl
theorem XT : AP Try.prog 76 = true := by kernel_rfl
theorem TO : AP Try.prog 77 = true := by kernel_rfl
theorem XO : AP Try.prog 78 = true := by kernel_rfl
theorem Xn : AP Try.prog 79 = true := by kernel_rfl
theorem XI : AP Try.prog 80 = true := by kernel_rfl
theorem Xr : AP Try.prog 82 = true := by kernel_rfl
theorem Vn : AP Try.prog 83 = true := by kernel_rfl
theorem W1 : AP Try.prog 84 = true := by kernel_rfl
theorem Ya : AP Try.prog 85 = true := by kernel_rfl
theorem Wv : AP Try.prog 86 = true := by kernel_rfl
theorem XZ : AP Try.prog 87 = true := by kernel_rfl
theorem XV : AP Try.prog 88 = true := by kernel_rfl
theorem Ue : AP Try.prog 89 = true := by kernel_rfl
theorem X1 : AP Try.prog 90 = true := by kernel_rfl
theorem Wr : AP Try.prog 91 = true := by kernel_rfl
theorem XA : AP Try.prog 92 = true := by kernel_rfl
theorem XC : AP Try.prog 93 = true := by kernel_rfl
theorem Xq : AP Try.prog 97 = true := by kernel_rfl
theorem Ww : AP Try.prog 98 = true := by kernel_rfl
theorem Vs : AP Try.prog 99 = true := by kernel_rfl
theorem Rb : NC Try.prog 133 .u64 = true := by kernel_rfl
theorem Q0 : NC Try.prog 143 .u32 = true := by kernel_rfl
theorem UY : NC Try.prog 146 .u64 = true := by kernel_rfl
theorem U5 : NC Try.prog 3 .i64 = true := by kernel_rfl
theorem Yb : NC Try.prog 5 .u8 = true := by kernel_rfl
theorem VG : Try.prog.underlying 9 = some .string := by kernel_rfl
theorem OQ : Try.prog.underlying 125 = some (.map 9 3) := by kernel_rfl
theorem U1 : GS Try.prog 101 = some [(0, 3), (3, 1), (4, 3), (7, 1)] := by kernel_rfl
theorem WQ : GS Try.prog 30 = some [(0, 1), (1, 1), (2, 1), (3, 1)] := by kernel_rfl
theorem GD : GS Try.prog 43 = some [(0, 1), (1, 1), (2, 1)] := by kernel_rfl
theorem Mw : GS Try.prog 45 = some [(0, 1), (1, 1), (2, 1)] := by kernel_rfl
theorem OC : GS Try.prog 63 = some [(0, 1), (1, 1), (2, 1)] := by kernel_rfl
theorem WV : GS Try.prog 75 = some [(0, 1), (1, 1), (2, 1), (3, 1), (4, 1), (5, 1)] := by kernel_rfl
theorem WH : GS Try.prog 92 = some [(0, 3), (3, 1), (4, 3)] := by kernel_rfl
theorem WE : RT Try.prog 45 = some [0, 0, 0] := by kernel_rfl
theorem Wg : RT Try.prog 63 = some [0, 0, 0] := by kernel_rfl
theorem F6 : sliceB Try.prog 118 45 = true := by kernel_rfl
theorem I2 : sliceB Try.prog 22 5 = true := by kernel_rfl
theorem Tf : sliceB Try.prog 23 84 = true := by kernel_rfl
theorem AG : sliceB Try.prog 27 3 = true := by kernel_rfl
theorem DO : sliceB Try.prog 28 75 = true := by kernel_rfl
theorem CT : sliceB Try.prog 33 63 = true := by kernel_rfl
theorem Dm : sliceB Try.prog 41 87 = true := by kernel_rfl
theorem Hz : sliceB Try.prog 55 92 = true := by kernel_rfl
theorem FN : sliceB Try.prog 73 76 = true := by kernel_rfl
theorem FT : sliceB Try.prog 76 4 = true := by kernel_rfl
theorem Kb : sliceB Try.prog 89 43 = true := by kernel_rfl
theorem Hf : sliceB Try.prog 96 101 = true := by kernel_rfl
theorem SM : (Try.prog.underlying 133).isSome = true := by kernel_rfl
theorem Rr : (Try.prog.underlying 143).isSome = true := by kernel_rfl
theorem UL : (Try.prog.underlying 146).isSome = true := by kernel_rfl
theorem Xi : (Try.prog.underlying 3).isSome = true := by kernel_rfl
theorem V0 : (Try.prog.underlying 5).isSome = true := by kernel_rfl
theorem X2 : (Try.prog.underlying 87).isSome = true := by kernel_rfl
theorem Wm : Ob Try.prog 9 = true := by kernel_rfl
theorem I4 : Gz Try.prog 101 8 = true := by kernel_rfl
theorem WK : Gz Try.prog 25 4 = true := by kernel_rfl
theorem RQ : Gz Try.prog 27 1 = true := by kernel_rfl
theorem Xz : Gz Try.prog 28 1 = true := by kernel_rfl
theorem Dc : Gz Try.prog 3 1 = true := by kernel_rfl
theorem CX : Gz Try.prog 30 4 = true := by kernel_rfl
theorem PW : Gz Try.prog 4 1 = true := by kernel_rfl
theorem XY : Gz Try.prog 41 1 = true := by kernel_rfl
theorem AT : Gz Try.prog 43 3 = true := by kernel_rfl
theorem Fp : Gz Try.prog 45 3 = true := by kernel_rfl
theorem Vw : Gz Try.prog 5 1 = true := by kernel_rfl
theorem Dh : Gz Try.prog 63 3 = true := by kernel_rfl
theorem Wa : Gz Try.prog 73 1 = true := by kernel_rfl
theorem DP : Gz Try.prog 75 6 = true := by kernel_rfl
theorem L6 : Gz Try.prog 76 1 = true := by kernel_rfl
theorem VJ : Gz Try.prog 84 6 = true := by kernel_rfl
theorem Fq : Gz Try.prog 87 1 = true := by kernel_rfl
theorem Nm : Gz Try.prog 92 7 = true := by kernel_rfl
theorem Pp : Ef Try.prog 101 = some (.agg #[.slice none 0 0, .slice none 0 0, .slice none 0 0, .int .i64 0, .int .i64 0, .int .i64 0, .int .i64 0, .slice none 0 0]) := by kernel_rfl
theorem J9 : Ef Try.prog 3 = some (.int .i64 0) := by kernel_rfl
theorem Px : Ef Try.prog 30 = some (.agg #[.slice none 0 0, .slice none 0 0, .slice none 0 0, .slice none 0 0]) := by kernel_rfl
theorem UU : Ef Try.prog 4 = some (.bool false) := by kernel_rfl
theorem C7 : Ef Try.prog 43 = some (.agg #[.slice none 0 0, .slice none 0 0, .slice none 0 0]) := by kernel_rfl
theorem GV : Ef Try.prog 45 = some (.agg #[.int .i64 0, .int .i64 0, .int .i64 0]) := by kernel_rfl
theorem W0 : Ef Try.prog 5 = some (.int .u8 0) := by kernel_rfl
theorem GC : Ef Try.prog 63 = some (.agg #[.int .i64 0, .int .i64 0, .int .i64 0]) := by kernel_rfl
theorem JR : Ef Try.prog 75 = some (.agg #[.int .i64 0, .int .i64 0, .int .i64 0, .bool false, .slice none 0 0, .slice none 0 0]) := by kernel_rfl
theorem Vo : Ef Try.prog 76 = some (.slice none 0 0) := by kernel_rfl
theorem XE : Ef Try.prog 84 = some (.agg #[.int .u8 0, .int .u8 0, .int .u8 0, .bool false, .int .u16 0, .int .u16 0]) := by kernel_rfl
theorem OP : Ef Try.prog 87 = some (.int .u8 0) := by kernel_rfl
theorem Sv : Ef Try.prog 92 = some (.agg #[.slice none 0 0, .slice none 0 0, .slice none 0 0, .int .i64 0, .int .i64 0, .int .i64 0, .int .i64 0]) := by kernel_rfl
end Go.Lift

/- That the code does what the shallow programs do, function by function. Written by a program (gen.py). -/
namespace Go.Lift
open Go.RowKit
open Go.Proofs
set_option maxRecDepth 10000 in
theorem DR (N : Nat) (p0 : Bool) (p1 : Bool) (r : Ae) (h : CD N p0 p1 = some r) : AA Try.prog 35 [.e (.one (.pure (.val (.bool p0)))), .e (.one (.pure (.val (.bool p1))))] [(1, r.fVersions.map Ag), (1, r.fNow.map Ag), (1, r.fTarget.map Ag), (6, r.fTables.map Ai)] (.e (.agg [.own 0, .own 1, .own 2, .own 3])) := by
 unfold CD at h
 refine Ao (n := 19) (rs := [.cell 4 30]) Try.func35 rfl rfl rfl (BF rfl) (BF rfl) rfl fun w0 S0 => ?_
 refine Ab (Aa Ad rfl (qz Px rfl (Ac (Ab (Aa Ad rfl (qm rfl (qm rfl (CE rfl (Ep FT PW UU rfl (Ep FT PW UU rfl (DY (BV 9 _ _ rfl rfl) (DY (BV 10 _ _ rfl rfl) (Ep FN L6 Vo rfl (A6 JR WV rfl (qz JR rfl (qs DP rfl (Ac (Ab (Aa Ad rfl (Ep AG Dc J9 rfl (Ep AG Dc J9 rfl (Ep AG Dc J9 rfl (qL GB DP rfl (DY (BV 11 _ _ rfl rfl) (Ep DO DP JR rfl (A6 Px WQ rfl (qs CX rfl (Ac ?_))))))))))))))))))))))))))))
 obtain rfl := sj h
 refine Al (sm [(1000, 13), (1001, 14), (1002, 15), (1003, 17)] [(4, .e (.one (.ptr 4 0)))] [(4, .box [.own 1000, .own 1001, .own 1002, .own 1003]), (1000, .vec 1 ((([2, 2] : List Int)).map Ag)), (1001, .vec 1 ((([0, 0] : List Int)).map Ag)), (1002, .vec 1 ((([1, 1] : List Int)).map Ag)), (1003, .vec 6 ((([(AF.mk 1 0 1 p1 (([([true, (!p0)] : List Bool), ([false, true] : List Bool)] : List (List Bool))) (([] : List (List Bool))))] : List AF)).map Ai))] rfl rfl) (AC ?_)
 exact ⟨⟨[_], ⟨.cellN _ _ _ _ _ _ _ rfl rfl Dr CX rfl rfl (Hb rfl), trivial⟩, rfl⟩, ⟨rfl, rfl, rfl, rfl, trivial⟩⟩
set_option maxRecDepth 10000 in
theorem Gu (N : Nat) (p0 : Int) (p1 : Int) (r : Bool) (h : DH N p0 p1 = some r) : AA Try.prog 89 [.e (.one (.pure (.val (.int .i64 p0)))), .e (.one (.pure (.val (.int .i64 p1))))] [] (.e (.one (.pure (.val (.bool r))))) := by
 unfold DH at h
 refine Ao (n := 12) (rs := [.tmp 4]) Try.func89 rfl rfl rfl (BF rfl) (BF rfl) rfl fun w0 S0 => ?_
 refine Ab (Aa Ad rfl (qa rfl (Ac ?_)))
 refine AX h (fun v1 => mk [(4, .e (.one (.pure (.val (.bool v1)))))] []) (fun j1 h => ?_) (fun v1 h => ?_)
 ·refine Aa Ad rfl (qm rfl (Ez rfl (qm rfl ?_)))
  refine AI (t := 7) rfl (fun c2 => ?_) (fun c2 => ?_)
  ·have h := Ap c2 h
   refine qm rfl (qm rfl (A8 rfl (qp rfl (qa rfl (Ac ?_)))))
   exact Aw _ h (sm [] _ _ rfl rfl)
  ·have h := Aq c2 h
   refine qn rfl (qn rfl (qn rfl (qp rfl (qa rfl (Ac ?_)))))
   exact Aw _ h (sm [] _ _ rfl rfl)
 ·obtain rfl := sj h
  refine Al (sm [] [(4, .e (.one (.pure (.val (.bool v1)))))] [] rfl rfl) (AC ?_)
  exact ⟨⟨[_], ⟨.tmp _ _ rfl, trivial⟩, rfl⟩, trivial⟩
set_option maxRecDepth 10000 in
theorem O4 (N : Nat) (p0 : Int) (p1 : Bool) (r : Bool) (h : F2 N p0 p1 = some r) : AA Try.prog 106 [.e (.one (.pure (.val (.int .i64 p0)))), .e (.one (.pure (.val (.bool p1))))] [] (.e (.one (.pure (.val (.bool r))))) := by
 unfold F2 at h
 refine Ao (n := 23) (rs := [.tmp 4]) Try.func106 rfl rfl rfl (BF rfl) (BF rfl) rfl fun w0 S0 => ?_
 refine Ab (Aa Ad rfl (qa rfl (Ac ?_)))
 refine AX h (fun v1 => mk [(4, .e (.one (.pure (.val (.bool v1)))))] []) (fun j1 h => ?_) (fun v1 h => ?_)
 ·refine Aa Ad rfl (qm rfl (B6 rfl (qm rfl ?_)))
  refine AI (t := 7) rfl (fun c2 => ?_) (fun c2 => ?_)
  ·have h := Ap c2 h
   refine qn rfl (qn rfl (qp rfl (qm rfl (qn rfl (qn rfl (qn rfl (qu rfl (qu rfl (qn rfl (qn rfl (qu rfl (qu rfl (qn rfl (qp rfl (qa rfl (Ac ?_))))))))))))))))
   exact Aw _ h (sm [] _ _ rfl rfl)
  ·have h := Aq c2 h
   refine qm rfl (B6 rfl (qp rfl (qm rfl ?_)))
   refine AI (t := 11) rfl (fun c3 => ?_) (fun c3 => ?_)
   ·have h := Ap c3 h
    refine qn rfl (qn rfl (qn rfl (qu rfl (qu rfl (qn rfl (qn rfl (qu rfl (qu rfl (qn rfl (qp rfl (qa rfl (Ac ?_))))))))))))
    exact Aw _ h (sm [] _ _ rfl rfl)
   ·have h := Aq c3 h
    refine qm rfl (B6 rfl (qm rfl ?_))
    refine AI (t := 14) rfl (fun c4 => ?_) (fun c4 => ?_)
    ·have h := Ap c4 h
     refine qn rfl (qn rfl (qp rfl (qm rfl (qm rfl (CE rfl (qp rfl (qp rfl (qa rfl (Ac ?_)))))))))
     exact Aw _ h (sm [] _ _ rfl rfl)
    ·have h := Aq c4 h
     refine qm rfl (B6 rfl (qp rfl (qm rfl ?_)))
     refine AI (t := 18) rfl (fun c5 => ?_) (fun c5 => ?_)
     ·have h := Ap c5 h
      refine qm rfl (CE rfl (qp rfl (qp rfl (qa rfl (Ac ?_)))))
      exact Aw _ h (sm [] _ _ rfl rfl)
     ·have h := Aq c5 h
      refine qn rfl (qn rfl (qp rfl (qp rfl (qa rfl (Ac ?_)))))
      exact Aw _ h (sm [] _ _ rfl rfl)
 ·obtain rfl := sj h
  refine Al (sm [] [(4, .e (.one (.pure (.val (.bool v1)))))] [] rfl rfl) (AC ?_)
  exact ⟨⟨[_], ⟨.tmp _ _ rfl, trivial⟩, rfl⟩, trivial⟩
set_option maxRecDepth 10000 in
theorem Lt (N : Nat) (p0 : List Bool) (p1 : Int) (r : Bool) (h : DA N p0 p1 = some r) : AA Try.prog 116 [.e (.one (.pure (.sl (p0.map eB)))), .e (.one (.rop [.val (.int .i64 p1)]))] [] (.e (.one (.pure (.val (.bool r))))) := by
 unfold DA at h
 refine Ao (n := 8) (rs := [.tmp 3]) Try.func116 rfl rfl rfl (BF rfl) (BF rfl) rfl fun w0 S0 => ?_
 refine Ab (Aa Ad rfl (qa rfl (Ac (Ab (Aa Ad rfl (qm rfl (AS FT rfl (qk B9 rfl (Co rfl (qa rfl (Ac ?_)))))))))))
 obtain rfl := sj h
 refine Al (sm [] [(3, .e (.one (.pure (.val (.bool (((p0.length : Int) != p1)))))))] [] rfl rfl) (AC ?_)
 exact ⟨⟨[_], ⟨.tmp _ _ rfl, trivial⟩, rfl⟩, trivial⟩
set_option maxRecDepth 10000 in
theorem G7 (N : Nat) (p0 : List (List Bool)) (p1 : (List Bool) → Option Bool) (r : Int) (h : C6 N p0 p1 = some r) : AA Try.prog 122 [.e (.one (.pure (.sl (p0.map (Et eB))))), .e (.one (.clo (Id (L2 false (Et eB)) tB p1)))] [] (.e (.one (.pure (.val (.int .i64 r))))) := by
 unfold C6 at h
 refine Ao (n := 19) (rs := [.tmp 4]) Try.func122 rfl rfl rfl (BF rfl) (BF rfl) rfl fun w0 S0 => ?_
 refine Ab (Aa Ad rfl (qa rfl (Ac (Ab (Ab (Aa Ad rfl (qm rfl (AS FN rfl (qm rfl (Ac ?_))))))))))
 refine AR (L := Bl N p0 p1) h (fun v1 => mk [(0, .e (.one (.pure (.sl (p0.map (Et eB)))))), (1, .e (.one (.clo (Id (L2 false (Et eB)) tB p1)))), (7, .e (.one (.pure (.val (.int .i64 ((p0.length : Int))))))), (8, .e (.one (.pure (.val (.int .i64 v1)))))] []) (fun v2 => mk [] []) (fun _ _ => rfl) (sm [] _ _ rfl rfl) (fun j1 n1 v1 h => ?_) (fun v2 s h hs => ?_)
 ·unfold Bl at h
  refine Ab (Aa Ad rfl (A8 rfl (Ac (Ab ?_))))
  refine As rfl (fun c3 => ?_) (fun c3 => ?_)
  ·have h := Ap c3 h
   refine Av (Ab (AU (Ab (Aa Ad rfl (qm rfl (qa rfl (Ac (Ab (Aa Ad rfl (qm rfl (qm rfl (qm rfl ?_))))))))))))
   obtain ⟨v4, a4, b4, h⟩ := Am h
   refine qi FN L6 a4 (Aj b4) rfl (qk Ou rfl ?_)
   obtain ⟨v5, a5, h⟩ := bind_some h
   refine KL (ds0 := [_]) (ar := (L2 false (Et eB)) v4) (.p rfl) rfl rfl ⟨rfl, trivial⟩ rfl rfl rfl (La (KS _ _ (WI X3)) a5) ?_
   refine Ac ?_
   refine As rfl (fun c6 => ?_) (fun c6 => ?_)
   ·have h := Ap c6 h
    refine Ab (Aa Ad rfl (qm rfl (qa rfl (Ac ?_))))
    obtain rfl := sj h
    refine Al (sm [] [(4, .e (.one (.pure (.val (.int .i64 v1)))))] [] rfl rfl) (AC ?_)
    exact ⟨⟨[_], ⟨.tmp _ _ rfl, trivial⟩, rfl⟩, trivial⟩
   ·have h := Aq c6 h
    refine Av (Aa Ad rfl (Bn rfl (qm rfl (Ac ?_))))
    exact Aw _ h (sm [] _ _ rfl rfl)
  ·have h := Aq c3 h
   refine A4 ?_
   exact Aw _ h (sm [] _ _ rfl rfl)
 ·refine Al hs (Ab (Aa Ad rfl (qa rfl (Ac ?_))))
  obtain rfl := sj h
  refine Al (sm [] [(4, .e (.one (.pure (.val (.int .i64 ((-1)))))))] [] rfl rfl) (AC ?_)
  exact ⟨⟨[_], ⟨.tmp _ _ rfl, trivial⟩, rfl⟩, trivial⟩
set_option maxRecDepth 10000 in
theorem GA (N : Nat) (p0 : List (List Bool)) (p1 : (List Bool) → Option Bool) (r : Bool) (h : CK N p0 p1 = some r) : AA Try.prog 115 [.e (.one (.pure (.sl (p0.map (Et eB))))), .e (.one (.clo (Id (L2 false (Et eB)) tB p1)))] [] (.e (.one (.pure (.val (.bool r))))) := by
 unfold CK at h
 refine Ao (n := 9) (rs := [.tmp 4]) Try.func115 rfl rfl rfl (BF rfl) (BF rfl) rfl fun w0 S0 => ?_
 refine Ab (Aa Ad rfl (qa rfl (Ac (Ab (Aa Ad rfl (qm rfl (qm rfl ?_)))))))
 obtain ⟨v1, a1, h⟩ := bind_some h
 refine AK [] (G7 N p0 p1 v1 a1) We rfl (Ez rfl (qa rfl (Ac ?_)))
 obtain rfl := sj h
 refine Al (sm [] [(4, .e (.one (.pure (.val (.bool ((decide (0 ≤ v1))))))))] [] rfl rfl) (AC ?_)
 exact ⟨⟨[_], ⟨.tmp _ _ rfl, trivial⟩, rfl⟩, trivial⟩
set_option maxRecDepth 10000 in
theorem Jw (N : Nat) (p0 : List (List Bool)) (p1 : Int) (p2 : Int) (r : Bool) (h : EC N p0 p1 p2 = some r) : AA Try.prog 107 [.e (.one (.pure (.sl (p0.map (Et eB))))), .e (.one (.pure (.val (.int .i64 p1)))), .e (.one (.pure (.val (.int .i64 p2))))] [] (.e (.one (.pure (.val (.bool r))))) := by
 unfold EC at h
 refine Ao (n := 17) (rs := [.tmp 6]) Try.func107 rfl rfl rfl (BF rfl) (BF rfl) rfl fun w0 S0 => ?_
 refine Ab (Aa Ad rfl (qb rfl (qa rfl (Ac ?_))))
 refine AX h (fun v1 => mk [(6, .e (.one (.pure (.val (.bool v1)))))] []) (fun j1 h => ?_) (fun v1 h => ?_)
 ·refine Aa Ad rfl (qm rfl (AS FN rfl (qm rfl (B6 rfl (qm rfl ?_)))))
  refine AI (t := 11) rfl (fun c2 => ?_) (fun c2 => ?_)
  ·have h := Ap c2 h
   refine qm rfl (DY (Lj 5 [.val (.int .i64 p2)] rfl rfl) ?_)
   refine Kn (capD := [_]) (Id (L2 false (Et eB)) tB ((fun (x : List Bool) => DA N x p2))) (.g rfl rfl) WS rfl ⟨rfl, trivial⟩ rfl (fun ar t ht => by obtain ⟨x, r, rfl, hq, rfl⟩ := JK ht; exact Lt N x p2 r hq) ?_
   obtain ⟨v3, a3, h⟩ := bind_some h
   refine AK [] (GA N p0 ((fun (x : List Bool) => DA N x p2)) v3 a3) WX rfl (CE rfl (qp rfl (qa rfl (Ac ?_))))
   exact Aw _ h (sm [] _ _ rfl rfl)
  ·have h := Aq c2 h
   refine qn rfl (qn rfl (qn rfl (qn rfl (qp rfl (qa rfl (Ac ?_))))))
   exact Aw _ h (sm [] _ _ rfl rfl)
 ·obtain rfl := sj h
  refine Al (sm [] [(6, .e (.one (.pure (.val (.bool v1)))))] [] rfl rfl) (AC ?_)
  exact ⟨⟨[_], ⟨.tmp _ _ rfl, trivial⟩, rfl⟩, trivial⟩
set_option maxRecDepth 10000 in
theorem Ni (N : Nat) (p0 : Ae) (p1 : AF) (r : Int) (h : FA N p0 p1 = some r) : AA Try.prog 90 [.e (.agg [.pure (.sl (p0.fVersions.map Ag)), .pure (.sl (p0.fNow.map Ag)), .pure (.sl (p0.fTarget.map Ag)), .pure (.sl (p0.fTables.map Ai))]), .e (.agg [.pure (.val (.int .i64 p1.fKind)), .pure (.val (.int .i64 p1.fFrom)), .pure (.val (.int .i64 p1.fTo)), .pure (.val (.bool p1.fAware)), .pure (.sl (p1.fOK.map (Et eB))), .pure (.sl (p1.fRewrite.map (Et eB)))])] [] (.e (.one (.pure (.val (.int .i64 r))))) := by
 unfold FA at h
 refine Ao (n := 87) (rs := [.tmp 4]) Try.func90 rfl rfl rfl (BF rfl) (BF rfl) rfl fun w0 S0 => ?_
 refine Ab (Aa Ad rfl (qb rfl (qb rfl (qa rfl (Ac (Ab (Ab (Aa Ad rfl (qf Fl rfl (ql B9 rfl (qf H2 rfl (ql Rx rfl ?_))))))))))))
 obtain ⟨v1, a1, h⟩ := bind_some h
 refine AK [] (O4 N p1.fKind p1.fAware v1 a1) Wf rfl (CE rfl (Ac ?_))
 refine As rfl (fun c2 => ?_) (fun c2 => ?_)
 ·have h := Ap c2 h
  refine Ab (Aa Ad rfl (qa rfl (Ac ?_)))
  obtain rfl := sj h
  refine Al (sm [] [(4, .e (.one (.pure (.val (.int .i64 1)))))] [] rfl rfl) (AC ?_)
  exact ⟨⟨[_], ⟨.tmp _ _ rfl, trivial⟩, rfl⟩, trivial⟩
 ·have h := Aq c2 h
  refine Av (Ab ?_)
  refine AX h (fun v3 => mk [(2, .e (.one (.ptr 2 0))), (3, .e (.one (.ptr 3 0))), (29, .e (.one (.pure (.val (.bool v3)))))] [(2, .box [.pure (.sl (p0.fVersions.map Ag)), .pure (.sl (p0.fNow.map Ag)), .pure (.sl (p0.fTarget.map Ag)), .pure (.sl (p0.fTables.map Ai))]), (3, .box [.pure (.val (.int .i64 p1.fKind)), .pure (.val (.int .i64 p1.fFrom)), .pure (.val (.int .i64 p1.fTo)), .pure (.val (.bool p1.fAware)), .pure (.sl (p1.fOK.map (Et eB))), .pure (.sl (p1.fRewrite.map (Et eB)))])]) (fun j3 h => ?_) (fun v3 h => ?_)
  ·refine Aa Ad rfl (qf CV rfl (ql B9 rfl (qf Br rfl (ql A7 rfl (AS AG rfl ?_)))))
   obtain ⟨v4, a4, h⟩ := bind_some h
   refine AK [] (Gu N p1.fFrom ((p0.fVersions.length : Int)) v4 a4) Ue rfl (CE rfl (qm rfl ?_))
   refine AI (t := 21) rfl (fun c5 => ?_) (fun c5 => ?_)
   ·have h := Ap c5 h
    refine qn rfl (qn rfl (qn rfl (qn rfl (qn rfl (qn rfl (qn rfl (qp rfl (Ac ?_))))))))
    exact Aw _ h (sm [] _ _ rfl rfl)
   ·have h := Aq c5 h
    refine qf Hq rfl (ql B9 rfl (qf Br rfl (ql A7 rfl (AS AG rfl ?_))))
    obtain ⟨v6, a6, h⟩ := bind_some h
    refine AK [] (Gu N p1.fTo ((p0.fVersions.length : Int)) v6 a6) Ue rfl (CE rfl (qp rfl (Ac ?_)))
    exact Aw _ h (sm [] _ _ rfl rfl)
  ·refine As rfl (fun c7 => ?_) (fun c7 => ?_)
   ·have h := Ap c7 h
    refine Ab (Aa Ad rfl (qa rfl (Ac ?_)))
    obtain rfl := sj h
    refine Al (sm [] [(4, .e (.one (.pure (.val (.int .i64 4)))))] [] rfl rfl) (AC ?_)
    exact ⟨⟨[_], ⟨.tmp _ _ rfl, trivial⟩, rfl⟩, trivial⟩
   ·have h := Aq c7 h
    refine Av (Ab (Aa Ad rfl (qf Br rfl (ql A7 rfl (qf CV rfl (ql B9 rfl ?_))))))
    obtain ⟨v8, a8, b8, h⟩ := Am h
    refine qi AG Dc a8 (Aj b8) rfl (qk B9 rfl (qa rfl (Ac (Ab (Aa Ad rfl (qf Fl rfl (ql B9 rfl (B6 rfl (qa rfl (Ac (Ab ?_)))))))))))
    refine AX h (fun v9 => mk [(3, .e (.one (.ptr 3 0))), (70, .e (.one (.pure (.val (.bool v9)))))] [(3, .box [.pure (.val (.int .i64 p1.fKind)), .pure (.val (.int .i64 p1.fFrom)), .pure (.val (.int .i64 p1.fTo)), .pure (.val (.bool p1.fAware)), .pure (.sl (p1.fOK.map (Et eB))), .pure (.sl (p1.fRewrite.map (Et eB)))])]) (fun j9 h => ?_) (fun v9 h => ?_)
    ·refine Aa Ad rfl (qf IC rfl (ql Jd rfl (qm rfl (qf Br rfl (ql A7 rfl (qf Hq rfl (ql B9 rfl ?_)))))))
     obtain ⟨v10, a10, b10, h⟩ := Am h
     refine qi AG Dc a10 (Aj b10) rfl (qk B9 rfl ?_)
     obtain ⟨v11, a11, h⟩ := bind_some h
     refine AK [] (Jw N p1.fOK v8 v10 v11 a11) UO rfl (CE rfl (qm rfl ?_))
     refine AI (t := 50) rfl (fun c12 => ?_) (fun c12 => ?_)
     ·have h := Ap c12 h
      refine qn rfl (qn rfl (qu rfl (qu rfl (qu rfl (qu rfl (qu rfl (qu rfl (qn rfl (qp rfl (qm rfl (qn rfl (qn rfl (qn rfl (qu rfl (qu rfl (qu rfl (qu rfl (qn rfl (qp rfl (AY (by kernel_rfl) ?_))))))))))))))))))))
      exact Aw _ h (sm [] _ _ rfl rfl)
     ·have h := Aq c12 h
      refine qm rfl (qm rfl ?_)
      refine AI (t := 52) rfl (fun c13 => ?_) (fun c13 => ?_)
      ·have h := Ap c13 h
       refine qf F4 rfl (ql Jd rfl (qm rfl (qm rfl ?_)))
       obtain ⟨v14, a14, h⟩ := bind_some h
       refine AK [] (Jw N p1.fRewrite v8 v8 v14 a14) UO rfl (CE rfl (qp rfl (qp rfl (qm rfl ?_))))
       refine AI (t := 61) rfl (fun c15 => ?_) (fun c15 => ?_)
       ·have h := Ap c15 h
        refine qn rfl (qn rfl (qn rfl (qu rfl (qu rfl (qu rfl (qu rfl (qn rfl (qp rfl (AY (by kernel_rfl) ?_)))))))))
        exact Aw _ h (sm [] _ _ rfl rfl)
       ·have h := Aq c15 h
        refine qm rfl (CE rfl (qm rfl ?_))
        refine AI (t := 64) rfl (fun c16 => ?_) (fun c16 => ?_)
        ·have h := Ap c16 h
         refine qf F4 rfl (ql Jd rfl (AS FN rfl (Ge rfl (qp rfl (qp rfl (AY (by kernel_rfl) ?_))))))
         exact Aw _ h (sm [] _ _ rfl rfl)
        ·have h := Aq c16 h
         refine qn rfl (qn rfl (qn rfl (qn rfl (qp rfl (qp rfl (AY (by kernel_rfl) ?_))))))
         exact Aw _ h (sm [] _ _ rfl rfl)
      ·have h := Aq c13 h
       refine qn rfl (qn rfl (qn rfl (qn rfl (qn rfl (qn rfl (qp rfl (qp rfl (qm rfl (qm rfl (CE rfl (qm rfl ?_)))))))))))
       refine AI (t := 64) rfl (fun c17 => ?_) (fun c17 => ?_)
       ·have h := Ap c17 h
        refine qf F4 rfl (ql Jd rfl (AS FN rfl (Ge rfl (qp rfl (qp rfl (AY (by kernel_rfl) ?_))))))
        exact Aw _ h (sm [] _ _ rfl rfl)
       ·have h := Aq c17 h
        refine qn rfl (qn rfl (qn rfl (qn rfl (qp rfl (qp rfl (AY (by kernel_rfl) ?_))))))
        exact Aw _ h (sm [] _ _ rfl rfl)
    ·refine As rfl (fun c18 => ?_) (fun c18 => ?_)
     ·have h := Ap c18 h
      refine Ab (Aa Ad rfl (qa rfl (Ac ?_)))
      obtain rfl := sj h
      refine Al (sm [] [(4, .e (.one (.pure (.val (.int .i64 6)))))] [] rfl rfl) (AC ?_)
      exact ⟨⟨[_], ⟨.tmp _ _ rfl, trivial⟩, rfl⟩, trivial⟩
     ·have h := Aq c18 h
      refine Av (Ab (Ab (Aa Ad rfl (qf F4 rfl (ql Jd rfl (AS FN rfl (qm rfl (Ac ?_))))))))
      refine AR (L := CP N p1) h (fun v19 => mk [(3, .e (.one (.ptr 3 0))), (73, .e (.one (.pure (.val (.int .i64 ((p1.fRewrite.length : Int))))))), (74, .e (.one (.pure (.val (.int .i64 v19)))))] [(3, .box [.pure (.val (.int .i64 p1.fKind)), .pure (.val (.int .i64 p1.fFrom)), .pure (.val (.int .i64 p1.fTo)), .pure (.val (.bool p1.fAware)), .pure (.sl (p1.fOK.map (Et eB))), .pure (.sl (p1.fRewrite.map (Et eB)))])]) (fun v20 => mk [] []) (fun _ _ => rfl) (sm [] _ _ rfl rfl) (fun j19 n19 v19 h => ?_) (fun v20 s h hs => ?_)
      ·unfold CP at h
       refine Ab (Aa Ad rfl (A8 rfl (Ac (Ab ?_))))
       refine As rfl (fun c21 => ?_) (fun c21 => ?_)
       ·have h := Ap c21 h
        refine Av (Ab (AU (Ab (Aa Ad rfl (qm rfl (qa rfl (Ac (Ab (Aa Ad rfl (qf F4 rfl (ql Jd rfl (qm rfl ?_))))))))))))
        obtain ⟨v22, a22, b22, h⟩ := Am h
        refine qi FN L6 a22 (Aj b22) rfl (qk Ou rfl (qm rfl ?_))
        obtain ⟨v23, a23, b23, h⟩ := Am h
        refine qi FT PW a23 (Aj b23) rfl (qk Rx rfl (CE rfl (Ac ?_)))
        refine As rfl (fun c24 => ?_) (fun c24 => ?_)
        ·have h := Ap c24 h
         refine Ab (Aa Ad rfl (qa rfl (Ac ?_)))
         obtain rfl := sj h
         refine Al (sm [] [(4, .e (.one (.pure (.val (.int .i64 1)))))] [] rfl rfl) (AC ?_)
         exact ⟨⟨[_], ⟨.tmp _ _ rfl, trivial⟩, rfl⟩, trivial⟩
        ·have h := Aq c24 h
         refine Av (Aa Ad rfl (Bn rfl (qm rfl (Ac ?_))))
         exact Aw _ h (sm [] _ _ rfl rfl)
       ·have h := Aq c21 h
        refine A4 ?_
        exact Aw _ h (sm [] _ _ rfl rfl)
      ·refine Al hs (Ab (Aa Ad rfl (qa rfl (Ac ?_))))
       obtain rfl := sj h
       refine Al (sm [] [(4, .e (.one (.pure (.val (.int .i64 0)))))] [] rfl rfl) (AC ?_)
       exact ⟨⟨[_], ⟨.tmp _ _ rfl, trivial⟩, rfl⟩, trivial⟩
set_option maxRecDepth 10000 in
theorem GX (N : Nat) (p0 : Ae) (r : Int) (h : Db N p0 = some r) : AA Try.prog 61 [.e (.agg [.pure (.sl (p0.fVersions.map Ag)), .pure (.sl (p0.fNow.map Ag)), .pure (.sl (p0.fTarget.map Ag)), .pure (.sl (p0.fTables.map Ai))])] [] (.e (.one (.pure (.val (.int .i64 r))))) := by
 unfold Db at h
 refine Ao (n := 81) (rs := [.tmp 2]) Try.func61 rfl rfl rfl (BF rfl) (BF rfl) rfl fun w0 S0 => ?_
 refine Ab (Aa Ad rfl (qb rfl (qa rfl (Ac (Ab (Aa Ad rfl (qf Br rfl (ql A7 rfl (AS AG rfl (qa rfl (Ac (Ab ?_))))))))))))
 refine AX h (fun v1 => mk [(1, .e (.one (.ptr 1 0))), (3, .e (.one (.pure (.val (.int .i64 ((p0.fVersions.length : Int))))))), (19, .e (.one (.pure (.val (.bool v1)))))] [(1, .box [.pure (.sl (p0.fVersions.map Ag)), .pure (.sl (p0.fNow.map Ag)), .pure (.sl (p0.fTarget.map Ag)), .pure (.sl (p0.fTables.map Ai))])]) (fun j1 h => ?_) (fun v1 h => ?_)
 ·refine Aa Ad rfl (qm rfl (Ge rfl (qm rfl ?_)))
  refine AI (t := 14) rfl (fun c2 => ?_) (fun c2 => ?_)
  ·have h := Ap c2 h
   refine qn rfl (qn rfl (qn rfl (qn rfl (qp rfl (Ac ?_)))))
   exact Aw _ h (sm [] _ _ rfl rfl)
  ·have h := Aq c2 h
   refine qf CF rfl (ql Gq rfl (AS DO rfl (Ge rfl (qp rfl (Ac ?_)))))
   exact Aw _ h (sm [] _ _ rfl rfl)
 ·refine As rfl (fun c3 => ?_) (fun c3 => ?_)
  ·have h := Ap c3 h
   refine Ab (Aa Ad rfl (qa rfl (Ac ?_)))
   obtain rfl := sj h
   refine Al (sm [] [(2, .e (.one (.pure (.val (.int .i64 3)))))] [] rfl rfl) (AC ?_)
   exact ⟨⟨[_], ⟨.tmp _ _ rfl, trivial⟩, rfl⟩, trivial⟩
  ·have h := Aq c3 h
   refine Av (Ab ?_)
   refine AX h (fun v4 => mk [(1, .e (.one (.ptr 1 0))), (31, .e (.one (.pure (.val (.bool v4)))))] [(1, .box [.pure (.sl (p0.fVersions.map Ag)), .pure (.sl (p0.fNow.map Ag)), .pure (.sl (p0.fTarget.map Ag)), .pure (.sl (p0.fTables.map Ai))])]) (fun j4 h => ?_) (fun v4 h => ?_)
   ·refine Aa Ad rfl (qf F5 rfl (ql A7 rfl (AS AG rfl (qm rfl (Co rfl (qm rfl ?_))))))
    refine AI (t := 25) rfl (fun c5 => ?_) (fun c5 => ?_)
    ·have h := Ap c5 h
     refine qn rfl (qn rfl (qn rfl (qn rfl (qn rfl (qp rfl (Ac ?_))))))
     exact Aw _ h (sm [] _ _ rfl rfl)
    ·have h := Aq c5 h
     refine qf Hp rfl (ql A7 rfl (AS AG rfl (qm rfl (Co rfl (qp rfl (Ac ?_))))))
     exact Aw _ h (sm [] _ _ rfl rfl)
   ·refine As rfl (fun c6 => ?_) (fun c6 => ?_)
    ·have h := Ap c6 h
     refine Ab (Aa Ad rfl (qa rfl (Ac ?_)))
     obtain rfl := sj h
     refine Al (sm [] [(2, .e (.one (.pure (.val (.int .i64 6)))))] [] rfl rfl) (AC ?_)
     exact ⟨⟨[_], ⟨.tmp _ _ rfl, trivial⟩, rfl⟩, trivial⟩
    ·have h := Aq c6 h
     refine Av (Ab (Ab (Aa Ad rfl (qf Br rfl (ql A7 rfl (AS AG rfl (qm rfl (Ac ?_))))))))
     refine AR (L := BX N p0) h (fun v7 => mk [(1, .e (.one (.ptr 1 0))), (33, .e (.one (.pure (.sl (p0.fVersions.map Ag))))), (34, .e (.one (.pure (.val (.int .i64 ((p0.fVersions.length : Int))))))), (35, .e (.one (.pure (.val (.int .i64 v7)))))] [(1, .box [.pure (.sl (p0.fVersions.map Ag)), .pure (.sl (p0.fNow.map Ag)), .pure (.sl (p0.fTarget.map Ag)), .pure (.sl (p0.fTables.map Ai))])]) (fun v8 => mk [(1, .e (.one (.ptr 1 0)))] [(1, .box [.pure (.sl (p0.fVersions.map Ag)), .pure (.sl (p0.fNow.map Ag)), .pure (.sl (p0.fTarget.map Ag)), .pure (.sl (p0.fTables.map Ai))])]) (fun _ _ => rfl) (sm [] _ _ rfl rfl) (fun j7 n7 v7 h => ?_) (fun v8 s h hs => ?_)
     ·unfold BX at h
      refine Ab (Aa Ad rfl (A8 rfl (Ac (Ab ?_))))
      refine As rfl (fun c9 => ?_) (fun c9 => ?_)
      ·have h := Ap c9 h
       refine Av (Ab (AU (Ab (Aa Ad rfl (qm rfl ?_)))))
       obtain ⟨v10, a10, b10, h⟩ := Am h
       refine qi AG Dc a10 (Aj b10) rfl (qk B9 rfl (qa rfl (qa rfl (Ac ?_))))
       refine AX h (fun v11 => mk [(1, .e (.one (.ptr 1 0))), (33, .e (.one (.pure (.sl (p0.fVersions.map Ag))))), (34, .e (.one (.pure (.val (.int .i64 ((p0.fVersions.length : Int))))))), (35, .e (.one (.pure (.val (.int .i64 v7))))), (65, .e (.one (.pure (.val (.bool v11)))))] [(1, .box [.pure (.sl (p0.fVersions.map Ag)), .pure (.sl (p0.fNow.map Ag)), .pure (.sl (p0.fTarget.map Ag)), .pure (.sl (p0.fTables.map Ai))])]) (fun j11 h => ?_) (fun v11 h => ?_)
       ·refine Aa Ad rfl (qm rfl (A8 rfl (qm rfl ?_)))
        refine AI (t := 42) rfl (fun c12 => ?_) (fun c12 => ?_)
        ·have h := Ap c12 h
         refine qn rfl (qn rfl (qp rfl (qm rfl (qn rfl (qn rfl (qn rfl (qn rfl (qn rfl (qn rfl (qn rfl (qn rfl (qp rfl (qm rfl (qn rfl (qn rfl (qn rfl (qn rfl (qn rfl (qn rfl (qn rfl (qn rfl (qp rfl (Ac ?_)))))))))))))))))))))))
         exact Aw _ h (sm [] _ _ rfl rfl)
        ·have h := Aq c12 h
         refine qm rfl (Ge rfl (qp rfl (qm rfl ?_)))
         refine AI (t := 46) rfl (fun c13 => ?_) (fun c13 => ?_)
         ·have h := Ap c13 h
          refine qn rfl (qn rfl (qn rfl (qn rfl (qn rfl (qn rfl (qn rfl (qn rfl (qp rfl (qm rfl (qn rfl (qn rfl (qn rfl (qn rfl (qn rfl (qn rfl (qn rfl (qn rfl (qp rfl (Ac ?_)))))))))))))))))))
          exact Aw _ h (sm [] _ _ rfl rfl)
         ·have h := Aq c13 h
          refine qf F5 rfl (ql A7 rfl (qm rfl ?_))
          obtain ⟨v14, a14, b14, h⟩ := Am h
          refine qi AG Dc a14 (Aj b14) rfl (qk B9 rfl (qm rfl ?_))
          obtain ⟨v15, a15, h⟩ := bind_some h
          refine AK [] (Gu N v14 v10 v15 a15) Ue rfl (CE rfl (qp rfl (qm rfl ?_)))
          refine AI (t := 56) rfl (fun c16 => ?_) (fun c16 => ?_)
          ·have h := Ap c16 h
           refine qn rfl (qn rfl (qn rfl (qn rfl (qn rfl (qn rfl (qn rfl (qn rfl (qp rfl (Ac ?_)))))))))
           exact Aw _ h (sm [] _ _ rfl rfl)
          ·have h := Aq c16 h
           refine qf Hp rfl (ql A7 rfl (qm rfl ?_))
           obtain ⟨v17, a17, b17, h⟩ := Am h
           refine qi AG Dc a17 (Aj b17) rfl (qk B9 rfl (qm rfl ?_))
           obtain ⟨v18, a18, h⟩ := bind_some h
           refine AK [] (Gu N v17 v10 v18 a18) Ue rfl (CE rfl (qp rfl (Ac ?_)))
           exact Aw _ h (sm [] _ _ rfl rfl)
       ·refine As rfl (fun c19 => ?_) (fun c19 => ?_)
        ·have h := Ap c19 h
         refine Ab (Aa Ad rfl (qa rfl (Ac ?_)))
         obtain rfl := sj h
         refine Al (sm [] [(2, .e (.one (.pure (.val (.int .i64 7)))))] [] rfl rfl) (AC ?_)
         exact ⟨⟨[_], ⟨.tmp _ _ rfl, trivial⟩, rfl⟩, trivial⟩
        ·have h := Aq c19 h
         refine Av (Aa Ad rfl (Bn rfl (qm rfl (Ac ?_))))
         exact Aw _ h (sm [] _ _ rfl rfl)
      ·have h := Aq c9 h
       refine A4 ?_
       exact Aw _ h (sm [] _ _ rfl rfl)
     ·refine Al hs (Ab (Ab (Aa Ad rfl (qf CF rfl (ql Gq rfl (AS DO rfl (qm rfl (Ac ?_))))))))
      refine AR (L := BM N p0) h (fun v20 => mk [(1, .e (.one (.ptr 1 0))), (68, .e (.one (.pure (.sl (p0.fTables.map Ai))))), (69, .e (.one (.pure (.val (.int .i64 ((p0.fTables.length : Int))))))), (70, .e (.one (.pure (.val (.int .i64 v20)))))] [(1, .box [.pure (.sl (p0.fVersions.map Ag)), .pure (.sl (p0.fNow.map Ag)), .pure (.sl (p0.fTarget.map Ag)), .pure (.sl (p0.fTables.map Ai))])]) (fun v21 => mk [] []) (fun _ _ => rfl) (sm [] _ _ rfl rfl) (fun j20 n20 v20 h => ?_) (fun v21 s h hs => ?_)
      ·unfold BM at h
       refine Ab (Aa Ad rfl (A8 rfl (Ac (Ab ?_))))
       refine As rfl (fun c22 => ?_) (fun c22 => ?_)
       ·have h := Ap c22 h
        refine Av (Ab (AU (Ab (Aa Ad rfl ?_))))
        obtain ⟨v23, a23, b23, h⟩ := Am h
        refine qi DO DP a23 (Aj b23) rfl (qK GB DP rfl (qz JR rfl (qs DP rfl (Ac (Ab (Aa Ad rfl (qL Dr CX rfl (qL GB DP rfl ?_))))))))
        obtain ⟨v24, a24, h⟩ := bind_some h
        refine AK [] (Ni N p0 v23 v24 a24) X1 rfl (qa rfl (Ac (Ab (Aa Ad rfl (qm rfl (Co rfl (Ac ?_)))))))
        refine As rfl (fun c25 => ?_) (fun c25 => ?_)
        ·have h := Ap c25 h
         refine Ab (Aa Ad rfl (qm rfl (qa rfl (Ac ?_))))
         obtain rfl := sj h
         refine Al (sm [] [(2, .e (.one (.pure (.val (.int .i64 v24)))))] [] rfl rfl) (AC ?_)
         exact ⟨⟨[_], ⟨.tmp _ _ rfl, trivial⟩, rfl⟩, trivial⟩
        ·have h := Aq c25 h
         refine Av (Aa Ad rfl (Bn rfl (qm rfl (Ac ?_))))
         exact Aw _ h (sm [] _ _ rfl rfl)
       ·have h := Aq c22 h
        refine A4 ?_
        exact Aw _ h (sm [] _ _ rfl rfl)
      ·refine Al hs (Ab (Aa Ad rfl (qa rfl (Ac ?_))))
       obtain rfl := sj h
       refine Al (sm [] [(2, .e (.one (.pure (.val (.int .i64 0)))))] [] rfl rfl) (AC ?_)
       exact ⟨⟨[_], ⟨.tmp _ _ rfl, trivial⟩, rfl⟩, trivial⟩
set_option maxRecDepth 10000 in
theorem Dy (N : Nat) (p0 : List Int) (r : (List Int)) (h : BH N p0 = some r) : AA Try.prog 72 [.e (.one (.pure (.sl (p0.map Ag))))] [(1, r.map Ag)] (.e (.one (.own 0))) := by
 unfold BH at h
 refine Ao (n := 8) (rs := [.tmp 2]) Try.func72 rfl rfl rfl (BF rfl) (BF rfl) rfl fun w0 S0 => ?_
 refine Ab (Aa Ad rfl (qa rfl (Ac (Ab (Ab (Aa Ad rfl (qm rfl ?_)))))))
 refine Q9 (.p rfl) rfl AG ?_
 refine Ac ?_
 refine Rs rfl (fun c2 => ?_) ?_
 ·have c2 := List.map_eq_nil_iff.1 c2
  rw [c2] at h
  have h : (some (([] : List Int))) = some r := h
  refine Ab (Aa Ad rfl (qa rfl (Ac ?_)))
  obtain rfl := sj h
  refine Al ((By 2 2001 1 rfl rfl rfl).trans (sm [(1000, 2001)] [(2, .e (.one (.own 1000)))] [(1000, .vec 1 ((([] : List Int)).map Ag))] rfl rfl)) (AC ?_)
  exact ⟨⟨[_], ⟨.tmp _ _ rfl, trivial⟩, rfl⟩, ⟨rfl, trivial⟩⟩
 ·refine Av (Ab (Aa Ad rfl (Ep AG Dc J9 rfl (qm rfl ?_))))
  obtain ⟨c1, h⟩ := AO h
  refine Ja (f := Ag) AG AG Dc K8 J9 (fun _ => rfl) c1 rfl (qa rfl (Ac ?_))
  obtain rfl := sj h
  refine Al (sm [(1000, 7)] [(2, .e (.one (.own 1000)))] [(1000, .vec 1 (((([] : List Int)) ++ p0).map Ag))] rfl rfl) (AC ?_)
  exact ⟨⟨[_], ⟨.tmp _ _ rfl, trivial⟩, rfl⟩, ⟨rfl, trivial⟩⟩
set_option maxRecDepth 10000 in
theorem Lb (N : Nat) (p0 : Int) (p1 : Int) (r : Int × Int) (h : F9 N p0 p1 = some r) : AA Try.prog 110 [.e (.one (.pure (.val (.int .u32 p0)))), .e (.one (.pure (.val (.int .u32 p1))))] [] (.tup [.one (.pure (.val (.int .u32 r.1))), .one (.pure (.val (.int .u32 r.2)))]) := by
 unfold F9 at h
 refine Ao (n := 17) (rs := [.tmp 4, .tmp 5]) Try.func110 rfl rfl rfl (BF rfl) (BF rfl) rfl fun w0 S0 => ?_
 refine Ab (Aa Ad rfl (qa rfl (qa rfl (Ac (Ab (Aa Ad rfl (qm rfl (It Rr UY rfl (qm rfl (It Rr UY rfl (KA rfl (qa rfl (Ac (Ab (Aa Ad rfl (qm rfl (Iz rfl (by decide) (It UL Q0 rfl (qm rfl (It UL Q0 rfl (qa rfl (qa rfl (Ac ?_)))))))))))))))))))))))
 obtain rfl := sj h
 refine Al (sm [] [(4, .e (.one (.pure (.val (.int .u32 ((IntKind.wrap .u32 ((E2 .u64 ((IntKind.wrap .u64 ((IntKind.wrap .u64 p0) * (IntKind.wrap .u64 p1)))) 32))))))))), (5, .e (.one (.pure (.val (.int .u32 ((IntKind.wrap .u32 ((IntKind.wrap .u64 ((IntKind.wrap .u64 p0) * (IntKind.wrap .u64 p1)))))))))))] [] rfl rfl) (AC ?_)
 exact ⟨⟨[_, _], ⟨.tmp _ _ rfl, ⟨.tmp _ _ rfl, trivial⟩⟩, rfl⟩, trivial⟩
set_option maxRecDepth 10000 in
theorem KD (N : Nat) (p0 : Int) (p1 : Int) (r : Int × Int) (h : Gb N p0 p1 = some r) : AA Try.prog 111 [.e (.one (.pure (.val (.int .u64 p0)))), .e (.one (.pure (.val (.int .u64 p1))))] [] (.tup [.one (.pure (.val (.int .u64 r.1))), .one (.pure (.val (.int .u64 r.2)))]) := by
 unfold Gb at h
 refine Ao (n := 51) (rs := [.tmp 4, .tmp 5]) Try.func111 rfl rfl rfl (BF rfl) (BF rfl) rfl fun w0 S0 => ?_
 refine Ab (Aa Ad rfl (qa rfl (qa rfl (Ac (Ab (Aa Ad rfl (qm rfl (LG rfl (qa rfl (Ac (Ab (Aa Ad rfl (qm rfl (Iz rfl (by decide) (qa rfl (Ac (Ab (Aa Ad rfl (qm rfl (LG rfl (qa rfl (Ac (Ab (Aa Ad rfl (qm rfl (Iz rfl (by decide) (qa rfl (Ac (Ab (Aa Ad rfl (qm rfl (qm rfl (KA rfl (qa rfl (Ac (Ab (Aa Ad rfl (qm rfl (qm rfl ?_)))))))))))))))))))))))))))))))))))))))
 refine KA rfl (qm rfl (Iz rfl (by decide) (Bn rfl (qa rfl (Ac (Ab (Aa Ad rfl (qm rfl (LG rfl (qa rfl (Ac (Ab (Aa Ad rfl (qm rfl (Iz rfl (by decide) (qa rfl (Ac (Ab (Aa Ad rfl (qm rfl (qm rfl (qm rfl (KA rfl (Bn rfl (qa rfl (Ac (Ab (Aa Ad rfl (qm rfl (qm rfl (KA rfl (qm rfl (Bn rfl (qm rfl (Iz rfl (by decide) (Bn rfl (qa rfl (Ac (Ab ?_)))))))))))))))))))))))))))))))))))))))
 refine Aa Ad rfl (qm rfl (qm rfl (KA rfl (qa rfl (Ac ?_)))))
 obtain rfl := sj h
 refine Al (sm [] [(4, .e (.one (.pure (.val (.int .u64 ((IntKind.wrap .u64 ((IntKind.wrap .u64 ((IntKind.wrap .u64 ((E2 .u64 p0 32) * (E2 .u64 p1 32))) + (E2 .u64 ((IntKind.wrap .u64 ((IntKind.wrap .u64 ((E2 .u64 p0 32) * (FK .u64 p1 4294967295))) + (E2 .u64 ((IntKind.wrap .u64 ((FK .u64 p0 4294967295) * (FK .u64 p1 4294967295)))) 32)))) 32))) + (E2 .u64 ((IntKind.wrap .u64 ((FK .u64 ((IntKind.wrap .u64 ((IntKind.wrap .u64 ((E2 .u64 p0 32) * (FK .u64 p1 4294967295))) + (E2 .u64 ((IntKind.wrap .u64 ((FK .u64 p0 4294967295) * (FK .u64 p1 4294967295)))) 32)))) 4294967295) + (IntKind.wrap .u64 ((FK .u64 p0 4294967295) * (E2 .u64 p1 32)))))) 32))))))))), (5, .e (.one (.pure (.val (.int .u64 ((IntKind.wrap .u64 (p0 * p1))))))))] [] rfl rfl) (AC ?_)
 exact ⟨⟨[_, _], ⟨.tmp _ _ rfl, ⟨.tmp _ _ rfl, trivial⟩⟩, rfl⟩, trivial⟩
set_option maxRecDepth 10000 in
theorem L7 (N : Nat) (p0 : Int) (p1 : Int) (r : Int × Int) (h : GI N p0 p1 = some r) : AA Try.prog 97 [.e (.one (.pure (.val (.int .u64 p0)))), .e (.one (.pure (.val (.int .u64 p1))))] [] (.tup [.one (.pure (.val (.int .u64 r.1))), .one (.pure (.val (.int .u64 r.2)))]) := by
 unfold GI at h
 refine Ao (n := 30) (rs := [.tmp 4, .tmp 5]) Try.func97 rfl rfl rfl (BF rfl) (BF rfl) rfl fun w0 S0 => ?_
 refine Ab (Aa Ad rfl (qa rfl (qa rfl (Ac (Ab ?_)))))
 refine As rfl (fun c1 => ?_) (fun c1 => ?_)
 ·have h := Ap c1 h
  refine Ab (Aa Ad rfl (qm rfl (It SM Q0 rfl (qm rfl (It SM Q0 rfl ?_)))))
  obtain ⟨v2, a2, h⟩ := bind_some h
  refine AK [] (Lb N ((IntKind.wrap .u32 p0)) ((IntKind.wrap .u32 p1)) v2 a2) V4 rfl (qm rfl (qx rfl (qx rfl (qa rfl (qa rfl (Ac (Ab (Aa Ad rfl (qm rfl (It Rr Rb rfl (qm rfl (It Rr Rb rfl (qa rfl (qa rfl (Ac ?_)))))))))))))))
  obtain rfl := sj h
  refine Al (sm [] [(4, .e (.one (.pure (.val (.int .u64 ((IntKind.wrap .u64 v2.1))))))), (5, .e (.one (.pure (.val (.int .u64 ((IntKind.wrap .u64 v2.2)))))))] [] rfl rfl) (AC ?_)
  exact ⟨⟨[_, _], ⟨.tmp _ _ rfl, ⟨.tmp _ _ rfl, trivial⟩⟩, rfl⟩, trivial⟩
 ·have h := Aq c1 h
  refine Av (Ab (Aa Ad rfl (qm rfl (qm rfl ?_))))
  obtain ⟨v3, a3, h⟩ := bind_some h
  refine AK [] (KD N p0 p1 v3 a3) W7 rfl (qm rfl (qx rfl (qx rfl (qa rfl (qa rfl (Ac (Ab (Aa Ad rfl (qm rfl (qm rfl (qa rfl (qa rfl (Ac ?_)))))))))))))
  obtain rfl := sj h
  refine Al (sm [] [(4, .e (.one (.pure (.val (.int .u64 v3.1))))), (5, .e (.one (.pure (.val (.int .u64 v3.2)))))] [] rfl rfl) (AC ?_)
  exact ⟨⟨[_, _], ⟨.tmp _ _ rfl, ⟨.tmp _ _ rfl, trivial⟩⟩, rfl⟩, trivial⟩
set_option maxRecDepth 10000 in
theorem Ix (N : Nat) (p0 : List Int) (p1 : Int) (r : (List Int)) (h : DZ N p0 p1 = some r) : AA Try.prog 73 [.e (.one (.pure (.sl (p0.map Ag)))), .e (.one (.pure (.val (.int .i64 p1))))] [(1, r.map Ag)] (.e (.one (.own 0))) := by
 unfold DZ at h
 refine Ao (n := 48) (rs := [.tmp 4]) Try.func73 rfl rfl rfl (BF rfl) (BF rfl) rfl fun w0 S0 => ?_
 refine Ab (Aa Ad rfl (qa rfl (Ac ?_)))
 refine AX h (fun v1 => mk [(0, .e (.one (.pure (.sl (p0.map Ag))))), (1, .e (.one (.pure (.val (.int .i64 p1)))))] []) (fun j1 h => ?_) (fun v1 h => ?_)
 ·refine Ab (Aa Ad rfl (qm rfl (A8 rfl (Ac ?_))))
  refine As rfl (fun c2 => ?_) (fun c2 => ?_)
  ·have h := Ap c2 h
   refine Aa Ad rfl ?_
   cases h
  ·have h := Aq c2 h
   refine Av ?_
   exact Aw _ h (sm [] _ _ rfl rfl)
 ·refine Ab (Aa Ad rfl (qm rfl (AS AG rfl (It Xi Rb rfl (qm rfl (It Xi Rb rfl ?_))))))
  obtain ⟨v3, a3, h⟩ := bind_some h
  refine AK [] (L7 N ((IntKind.wrap .u64 ((p0.length : Int)))) ((IntKind.wrap .u64 p1)) v3 a3) Xq rfl (qm rfl (qx rfl (qx rfl (qa rfl (qa rfl (Ac ?_))))))
  refine AX h (fun v4 => mk [(0, .e (.one (.pure (.sl (p0.map Ag))))), (6, .e (.one (.pure (.val (.int .u64 v3.2)))))] []) (fun j4 h => ?_) (fun v4 h => ?_)
  ·refine AX h (fun v5 => mk [(0, .e (.one (.pure (.sl (p0.map Ag))))), (6, .e (.one (.pure (.val (.int .u64 v3.2))))), (26, .e (.one (.pure (.val (.bool v5)))))] []) (fun j5 h => ?_) (fun v5 h => ?_)
   ·refine Aa Ad rfl (qm rfl (Ge rfl (qm rfl ?_)))
    refine AI (t := 23) rfl (fun c6 => ?_) (fun c6 => ?_)
    ·have h := Ap c6 h
     refine qn rfl (qn rfl (qp rfl (Ac ?_)))
     exact Aw _ h (sm [] _ _ rfl rfl)
    ·have h := Aq c6 h
     refine qm rfl (Ge rfl (qp rfl (Ac ?_)))
     exact Aw _ h (sm [] _ _ rfl rfl)
   ·refine As rfl (fun c7 => ?_) (fun c7 => ?_)
    ·have h := Ap c7 h
     refine Aa Ad rfl ?_
     cases h
    ·have h := Aq c7 h
     refine Av ?_
     exact Aw _ h (sm [] _ _ rfl rfl)
  ·refine Ab (Aa Ad rfl (qm rfl (It SM U5 rfl ?_)))
   obtain ⟨c8, h⟩ := AO h
   refine Je (.p rfl) rfl rfl rfl AG Dc K8 (BF rfl) J9 rfl rfl rfl c8.1 c8.2.1 c8.2.2 (Or Ag _ ((0 : Int))) ?_
   refine qa rfl (Ac (Ab (Aa Ad rfl (qm rfl (qm rfl ?_)))))
   refine Q8 Ag (List.replicate ((IntKind.wrap .i64 v3.2)).toNat ((0 : Int))) p0 (.p rfl) rfl (JD Ag _ _ (List.replicate ((IntKind.wrap .i64 v3.2)).toNat ((0 : Int)))) rfl rfl (Uc Ag _ _ (fun _ => rfl)) trivial AG Dc ?_
   refine qa rfl (Ac (Ab ?_))
   refine AR (L := Dt N) h (fun v9 => mk [(7, .e (.one (.own 2001))), (8, .e (.one (.pure (.val (.int .i64 v9.2)))))] [(2001, .vec 1 (v9.1.map Ag))]) (fun v10 => mk [(7, .e (.one (.own 2002)))] [(2002, .vec 1 (v10.map Ag))]) (fun _ _ => rfl) (sm [(2001, 30)] _ _ rfl rfl) (fun j9 n9 v9 h => ?_) (fun v10 s h hs => ?_)
   ·unfold Dt at h
    refine Ab (Ab (Aa Ad rfl (qm rfl (qm rfl (FD AG rfl (A8 rfl (Ac ?_)))))))
    refine As rfl (fun c11 => ?_) (fun c11 => ?_)
    ·have h := Ap c11 h
     refine Av (AU (Aa Ad rfl (qm rfl (qm rfl (qm rfl ?_)))))
     obtain ⟨c12, h⟩ := AO h
     have w13 : ((v9.2).toNat) + ((v9.1.length - (v9.2).toNat)) ≤ v9.1.length := by have := c12.2.1; have := c12.2.2; omega
     refine Ld Ag v9.1 (.p rfl) rfl (JD Ag _ _ v9.1) rfl AG Dc (.some _ _ _ _ c12.1) (.none _) ⟨rfl, trivial⟩ trivial c12.2.1 (by rw [Nat.zero_add]; exact c12.2.2) (Nat.zero_add _) rfl ?_
     refine qm rfl (qm rfl ?_)
     obtain ⟨c14, h⟩ := AO h
     have w15 : 0 + ((v9.2).toNat) ≤ v9.1.length := by have := c14.2.1; have := c14.2.2; omega
     refine Ld Ag v9.1 (.p rfl) rfl (JD Ag _ _ v9.1) rfl AG Dc (.none _) (.some _ _ _ _ c14.1) trivial ⟨rfl, trivial⟩ c14.2.1 (by rw [Nat.zero_add]; exact c14.2.2) (Nat.zero_add _) rfl ?_
     refine Q8 Ag v9.1 (((v9.1.drop 0).take ((v9.2).toNat))) (.p rfl) rfl (NJ Ag _ _ ((v9.2).toNat) ((v9.1.length - (v9.2).toNat)) v9.1 w13) rfl rfl (RH Ag _ _ 0 ((v9.2).toNat) v9.1 w15) ⟨rfl, trivial⟩ AG Dc ?_
     refine Bn rfl (qa rfl (AY (by kernel_rfl) ?_))
     exact Aw _ h (sm [] _ _ rfl rfl)
    ·have h := Aq c11 h
     refine A4 ?_
     exact Aw _ h (sm [(2002, 2001)] _ _ rfl rfl)
   ·refine Al hs (Ab (Aa Ad rfl (qm rfl (qa rfl (Ac ?_)))))
    obtain rfl := sj h
    refine Al (sm [(1000, 2002)] [(4, .e (.one (.own 1000)))] [(1000, .vec 1 (v10.map Ag))] rfl rfl) (AC ?_)
    exact ⟨⟨[_], ⟨.tmp _ _ rfl, trivial⟩, rfl⟩, ⟨rfl, trivial⟩⟩
set_option maxRecDepth 10000 in
theorem IY (N : Nat) (p0 : AF) (r : Bool) (h : EN N p0 = some r) : AA Try.prog 74 [.e (.agg [.pure (.val (.int .i64 p0.fKind)), .pure (.val (.int .i64 p0.fFrom)), .pure (.val (.int .i64 p0.fTo)), .pure (.val (.bool p0.fAware)), .pure (.sl (p0.fOK.map (Et eB))), .pure (.sl (p0.fRewrite.map (Et eB)))])] [] (.e (.one (.pure (.val (.bool r))))) := by
 unfold EN at h
 refine Ao (n := 11) (rs := [.tmp 2]) Try.func74 rfl rfl rfl (BF rfl) (BF rfl) rfl fun w0 S0 => ?_
 refine Ab (Aa Ad rfl (qb rfl (qa rfl (Ac ?_))))
 refine AX h (fun v1 => mk [(2, .e (.one (.pure (.val (.bool v1)))))] []) (fun j1 h => ?_) (fun v1 h => ?_)
 ·refine Aa Ad rfl (qf Fl rfl (ql B9 rfl (B6 rfl (qm rfl ?_))))
  refine AI (t := 6) rfl (fun c2 => ?_) (fun c2 => ?_)
  ·have h := Ap c2 h
   refine qn rfl (qn rfl (qn rfl (qp rfl (qa rfl (Ac ?_)))))
   exact Aw _ h (sm [] _ _ rfl rfl)
  ·have h := Aq c2 h
   refine qf Fl rfl (ql B9 rfl (B6 rfl (qp rfl (qa rfl (Ac ?_)))))
   exact Aw _ h (sm [] _ _ rfl rfl)
 ·obtain rfl := sj h
  refine Al (sm [] [(2, .e (.one (.pure (.val (.bool v1)))))] [] rfl rfl) (AC ?_)
  exact ⟨⟨[_], ⟨.tmp _ _ rfl, trivial⟩, rfl⟩, trivial⟩
set_option maxRecDepth 10000 in
theorem LO (N : Nat) (p0 : Ae) (r : Ah × Int) (h : FJ N p0 = some r) : AA Try.prog 37 [.e (.agg [.pure (.sl (p0.fVersions.map Ag)), .pure (.sl (p0.fNow.map Ag)), .pure (.sl (p0.fTarget.map Ag)), .pure (.sl (p0.fTables.map Ai))])] [(1, r.1.fBase.map Ag), (1, r.1.fNext.map Ag), (1, r.1.fHeld.map A9)] (.tup [.agg [.own 0, .own 1, .own 2], .one (.pure (.val (.int .i64 r.2)))]) := by
 unfold FJ at h
 refine Ao (n := 50) (rs := [.cell 2 43, .tmp 3]) Try.func37 rfl rfl rfl (BF rfl) (BF rfl) rfl fun w0 S0 => ?_
 refine Ab (Aa Ad rfl (qb rfl (qz C7 rfl (qa rfl (Ac (Ab (Ab (Aa Ad rfl (qL Dr CX rfl ?_)))))))))
 obtain ⟨v1, a1, h⟩ := bind_some h
 refine AK [] (GX N p0 v1 a1) Wu rfl (qa rfl (Ac (Ab (Aa Ad rfl (qm rfl (Co rfl (Ac ?_)))))))
 refine As rfl (fun c2 => ?_) (fun c2 => ?_)
 ·have h := Ap c2 h
  refine Ab (Aa Ad rfl (A6 C7 GD rfl (qm rfl (qs AT rfl (qa rfl (Ac ?_))))))
  obtain rfl := sj h
  refine Al ((AE 2 0 2001 1 _ rfl rfl rfl rfl).trans ((AE 2 1 2002 1 _ rfl rfl rfl rfl).trans ((AE 2 2 2003 1 _ rfl rfl rfl rfl).trans (sm [(1000, 2001), (1001, 2002), (1002, 2003)] [(2, .e (.one (.ptr 2 0))), (3, .e (.one (.pure (.val (.int .i64 v1)))))] [(2, .box [.own 1000, .own 1001, .own 1002]), (1000, .vec 1 ((([] : List Int)).map Ag)), (1001, .vec 1 ((([] : List Int)).map Ag)), (1002, .vec 1 ((([] : List Int)).map A9))] rfl rfl)))) (AC ?_)
  exact ⟨⟨[_, _], ⟨.cellN _ _ _ _ _ _ _ rfl rfl Bs AT rfl rfl (Hb rfl), ⟨.tmp _ _ rfl, trivial⟩⟩, rfl⟩, ⟨rfl, rfl, rfl, trivial⟩⟩
 ·have h := Aq c2 h
  refine Av (Ab (Aa Ad rfl (qf F5 rfl (ql A7 rfl ?_))))
  obtain ⟨v3, a3, h⟩ := bind_some h
  refine AK [2004] (Dy N p0.fNow v3 a3) SA rfl (Ep AG Dc J9 rfl (qf F5 rfl (ql A7 rfl (AS AG rfl ?_))))
  obtain ⟨v4, a4, h⟩ := bind_some h
  refine DJ [2005] [17] (Ix N (([(-1)] : List Int)) ((p0.fNow.length : Int)) v4 a4) Xp (Fc (fun _ => rfl) Cx) rfl (qf CF rfl (ql Gq rfl (AS DO rfl ?_)))
  obtain ⟨c5, h⟩ := AO h
  refine Je (.p rfl) rfl rfl rfl Dm Fq PT (BF rfl) OP rfl rfl rfl c5.1 c5.2.1 c5.2.2 (Or A9 _ ((0 : Int))) ?_
  refine A6 C7 GD rfl (qz C7 rfl (qs AT rfl (AY (by kernel_rfl) (Ab (Ab (Aa Ad rfl (qf CF rfl (ql Gq rfl (AS DO rfl (qm rfl (Ac ?_)))))))))))
  refine AR (L := DG N p0) h (fun v6 => mk [(1, .e (.one (.ptr 1 0))), (2, .e (.one (.ptr 2 0))), (5, .e (.one (.ptr 5 0))), (28, .e (.one (.pure (.sl (p0.fTables.map Ai))))), (29, .e (.one (.pure (.val (.int .i64 ((p0.fTables.length : Int))))))), (30, .e (.one (.pure (.val (.int .i64 v6.2)))))] [(1, .box [.pure (.sl (p0.fVersions.map Ag)), .pure (.sl (p0.fNow.map Ag)), .pure (.sl (p0.fTarget.map Ag)), .pure (.sl (p0.fTables.map Ai))]), (2, .box [.pure (.nil0), .pure (.nil0), .pure (.nil0)]), (5, .box [.own 2006, .own 2007, .own 2008]), (2006, .vec 1 (v3.map Ag)), (2007, .vec 1 (v4.map Ag)), (2008, .vec 1 (v6.1.map A9))]) (fun v7 => mk [(2, .e (.one (.ptr 2 0))), (5, .e (.one (.ptr 5 0)))] [(2, .box [.pure (.nil0), .pure (.nil0), .pure (.nil0)]), (5, .box [.own 2009, .own 2010, .own 2011]), (2009, .vec 1 (v3.map Ag)), (2010, .vec 1 (v4.map Ag)), (2011, .vec 1 (v7.map A9))]) (fun _ _ => rfl) (sm [(2006, 2004), (2007, 2005), (2008, 25)] _ _ rfl rfl) (fun j6 n6 v6 h => ?_) (fun v7 s h hs => ?_)
  ·unfold DG at h
   refine Ab (Aa Ad rfl (A8 rfl (Ac (Ab ?_))))
   refine As rfl (fun c8 => ?_) (fun c8 => ?_)
   ·have h := Ap c8 h
    refine Av ?_
    refine AX h (fun v9 => mk [(1, .e (.one (.ptr 1 0))), (2, .e (.one (.ptr 2 0))), (5, .e (.one (.ptr 5 0))), (28, .e (.one (.pure (.sl (p0.fTables.map Ai))))), (29, .e (.one (.pure (.val (.int .i64 ((p0.fTables.length : Int))))))), (30, .e (.one (.pure (.val (.int .i64 v6.2)))))] [(1, .box [.pure (.sl (p0.fVersions.map Ag)), .pure (.sl (p0.fNow.map Ag)), .pure (.sl (p0.fTarget.map Ag)), .pure (.sl (p0.fTables.map Ai))]), (2, .box [.pure (.nil0), .pure (.nil0), .pure (.nil0)]), (5, .box [.own 2012, .own 2013, .own 2014]), (2012, .vec 1 (v3.map Ag)), (2013, .vec 1 (v4.map Ag)), (2014, .vec 1 (v9.map A9))]) (fun j9 h => ?_) (fun v9 h => ?_)
    ·refine AU (Ab (Aa Ad rfl (qm rfl ?_)))
     obtain ⟨v10, a10, b10, h⟩ := Am h
     refine qi DO DP a10 (Aj b10) rfl (qK GB DP rfl (qz JR rfl (qa rfl (qs DP rfl (Ac (Ab (Aa Ad rfl (qL GB DP rfl ?_))))))))
     obtain ⟨v11, a11, h⟩ := bind_some h
     refine AK [] (IY N v10 v11 a11) VA rfl (Ac ?_)
     refine As rfl (fun c12 => ?_) (fun c12 => ?_)
     ·have h := Ap c12 h
      refine Aa Ad rfl (qf Cz rfl (ql Gl rfl (qm rfl (qf F5 rfl (ql A7 rfl (qf CV rfl (ql B9 rfl ?_)))))))
      obtain ⟨v13, a13, b13, h⟩ := Am h
      refine qi AG Dc a13 (Aj b13) rfl (qk B9 rfl ?_)
      obtain ⟨c14, h⟩ := AO h
      refine H3 rfl c14 ?_
      obtain ⟨v15, a15, b15, h⟩ := Am h
      refine qI Dm Fq a15 (Aj b15) rfl ?_
      refine D8 rfl rfl rfl rfl (Aj b15) rfl Fq rfl (BF rfl) (DL A9 v6.1 _ ((Dw .u8 1 v13))) ?_
      refine AY (by kernel_rfl) ?_
      exact Aw _ h (sm [(2012, 2006), (2013, 2007), (2014, 2008)] _ _ rfl rfl)
     ·have h := Aq c12 h
      refine Av ?_
      exact Aw _ h (sm [(2012, 2006), (2013, 2007), (2014, 2008)] _ _ rfl rfl)
    ·refine Aa Ad rfl (Bn rfl (qm rfl (Ac ?_)))
     exact Aw _ h (sm [(2006, 2012), (2007, 2013), (2008, 2014)] _ _ rfl rfl)
   ·have h := Aq c8 h
    refine A4 ?_
    exact Aw _ h (sm [(2009, 2006), (2010, 2007), (2011, 2008)] _ _ rfl rfl)
  ·refine Al hs (Ab (Aa Ad rfl (qL Bs AT rfl (qs AT rfl (qa rfl (Ac ?_))))))
   obtain rfl := sj h
   refine Al (sm [(1000, 2009), (1001, 2010), (1002, 2011)] [(2, .e (.one (.ptr 2 0))), (3, .e (.one (.pure (.val (.int .i64 0)))))] [(2, .box [.own 1000, .own 1001, .own 1002]), (1000, .vec 1 (v3.map Ag)), (1001, .vec 1 (v4.map Ag)), (1002, .vec 1 (v7.map A9))] rfl rfl) (AC ?_)
   exact ⟨⟨[_, _], ⟨.cellN _ _ _ _ _ _ _ rfl rfl Bs AT rfl rfl (Hb rfl), ⟨.tmp _ _ rfl, trivial⟩⟩, rfl⟩, ⟨rfl, rfl, rfl, trivial⟩⟩
set_option maxRecDepth 10000 in
theorem Ie (N : Nat) (p0 : Ah) (p1 : Int) (r : Int) (h : Ev N p0 p1 = some r) : AA Try.prog 99 [.e (.agg [.pure (.sl (p0.fBase.map Ag)), .pure (.sl (p0.fNext.map Ag)), .pure (.sl (p0.fHeld.map A9))]), .e (.one (.pure (.val (.int .i64 p1))))] [] (.e (.one (.pure (.val (.int .u8 r))))) := by
 unfold Ev at h
 refine Ao (n := 27) (rs := [.tmp 4]) Try.func99 rfl rfl rfl (BF rfl) (BF rfl) rfl fun w0 S0 => ?_
 refine Ab (Aa Ad rfl (qb rfl (qa rfl (Ac (Ab (Aa Ad rfl (qf CB rfl (ql A7 rfl (qm rfl ?_)))))))))
 obtain ⟨v1, a1, b1, h⟩ := Am h
 refine qi AG Dc a1 (Aj b1) rfl (qk B9 rfl ?_)
 obtain ⟨c2, h⟩ := AO h
 refine H3 rfl c2 (qa rfl (Ac ?_))
 refine AX h (fun v3 => mk [(5, .e (.one (.pure (.val (.int .u8 v3)))))] []) (fun j3 h => ?_) (fun v3 h => ?_)
 ·refine Ab (Aa Ad rfl (qf Bz rfl (ql A7 rfl (qm rfl ?_))))
  obtain ⟨v4, a4, b4, h⟩ := Am h
  refine qi AG Dc a4 (Aj b4) rfl (qk B9 rfl (Ez rfl (Ac ?_)))
  refine As rfl (fun c5 => ?_) (fun c5 => ?_)
  ·have h := Ap c5 h
   refine Aa Ad rfl (qm rfl (qf Bz rfl (ql A7 rfl (qm rfl ?_))))
   obtain ⟨v6, a6, b6, h⟩ := Am h
   refine qi AG Dc a6 (Aj b6) rfl (qk B9 rfl ?_)
   obtain ⟨c7, h⟩ := AO h
   refine H3 rfl c7 (Se rfl (qa rfl (Ac ?_)))
   exact Aw _ h (sm [] _ _ rfl rfl)
  ·have h := Aq c5 h
   refine Av ?_
   exact Aw _ h (sm [] _ _ rfl rfl)
 ·refine Ab (Aa Ad rfl (qm rfl (qa rfl (Ac ?_))))
  obtain rfl := sj h
  refine Al (sm [] [(4, .e (.one (.pure (.val (.int .u8 v3)))))] [] rfl rfl) (AC ?_)
  exact ⟨⟨[_], ⟨.tmp _ _ rfl, trivial⟩, rfl⟩, trivial⟩
set_option maxRecDepth 10000 in
theorem HX (N : Nat) (p0 : Ae) (p1 : Ah) (r : Int) (h : ED N p0 p1 = some r) : AA Try.prog 77 [.e (.agg [.pure (.sl (p0.fVersions.map Ag)), .pure (.sl (p0.fNow.map Ag)), .pure (.sl (p0.fTarget.map Ag)), .pure (.sl (p0.fTables.map Ai))]), .e (.agg [.pure (.sl (p1.fBase.map Ag)), .pure (.sl (p1.fNext.map Ag)), .pure (.sl (p1.fHeld.map A9))])] [] (.e (.one (.pure (.val (.int .i64 r))))) := by
 unfold ED at h
 refine Ao (n := 135) (rs := [.tmp 4]) Try.func77 rfl rfl rfl (BF rfl) (BF rfl) rfl fun w0 S0 => ?_
 refine Ab (Aa Ad rfl (qb rfl (qb rfl (qa rfl (Ac (Ab (Ab (Aa Ad rfl (qL Dr CX rfl ?_)))))))))
 obtain ⟨v1, a1, h⟩ := bind_some h
 refine AK [] (GX N p0 v1 a1) Wu rfl (qa rfl (Ac (Ab (Aa Ad rfl (qm rfl (Co rfl (Ac ?_)))))))
 refine As rfl (fun c2 => ?_) (fun c2 => ?_)
 ·have h := Ap c2 h
  refine Ab (Aa Ad rfl (qm rfl (qa rfl (Ac ?_))))
  obtain rfl := sj h
  refine Al (sm [] [(4, .e (.one (.pure (.val (.int .i64 v1)))))] [] rfl rfl) (AC ?_)
  exact ⟨⟨[_], ⟨.tmp _ _ rfl, trivial⟩, rfl⟩, trivial⟩
 ·have h := Aq c2 h
  refine Av (Ab ?_)
  refine AX h (fun v3 => mk [(2, .e (.one (.ptr 2 0))), (3, .e (.one (.ptr 3 0))), (41, .e (.one (.pure (.val (.bool v3)))))] [(2, .box [.pure (.sl (p0.fVersions.map Ag)), .pure (.sl (p0.fNow.map Ag)), .pure (.sl (p0.fTarget.map Ag)), .pure (.sl (p0.fTables.map Ai))]), (3, .box [.pure (.sl (p1.fBase.map Ag)), .pure (.sl (p1.fNext.map Ag)), .pure (.sl (p1.fHeld.map A9))])]) (fun j3 h => ?_) (fun v3 h => ?_)
  ·refine Aa Ad rfl (qf CB rfl (ql A7 rfl (AS AG rfl (qf Br rfl (ql A7 rfl (AS AG rfl (Co rfl (qm rfl ?_))))))))
   refine AI (t := 24) rfl (fun c4 => ?_) (fun c4 => ?_)
   ·have h := Ap c4 h
    refine qn rfl (qn rfl (qn rfl (qn rfl (qn rfl (qn rfl (qn rfl (qp rfl (qm rfl (qn rfl (qn rfl (qn rfl (qn rfl (qn rfl (qn rfl (qn rfl (qp rfl (Ac ?_)))))))))))))))))
    exact Aw _ h (sm [] _ _ rfl rfl)
   ·have h := Aq c4 h
    refine qf Bz rfl (ql A7 rfl (AS AG rfl (qf Br rfl (ql A7 rfl (AS AG rfl (Co rfl (qp rfl (qm rfl ?_))))))))
    refine AI (t := 33) rfl (fun c5 => ?_) (fun c5 => ?_)
    ·have h := Ap c5 h
     refine qn rfl (qn rfl (qn rfl (qn rfl (qn rfl (qn rfl (qn rfl (qp rfl (Ac ?_))))))))
     exact Aw _ h (sm [] _ _ rfl rfl)
    ·have h := Aq c5 h
     refine qf Cz rfl (ql Gl rfl (AS Dm rfl (qf CF rfl (ql Gq rfl (AS DO rfl (Co rfl (qp rfl (Ac ?_))))))))
     exact Aw _ h (sm [] _ _ rfl rfl)
  ·refine As rfl (fun c6 => ?_) (fun c6 => ?_)
   ·have h := Ap c6 h
    refine Ab (Aa Ad rfl (qa rfl (Ac ?_)))
    obtain rfl := sj h
    refine Al (sm [] [(4, .e (.one (.pure (.val (.int .i64 6)))))] [] rfl rfl) (AC ?_)
    exact ⟨⟨[_], ⟨.tmp _ _ rfl, trivial⟩, rfl⟩, trivial⟩
   ·have h := Aq c6 h
    refine Av (Ab (Ab (Aa Ad rfl (qf Br rfl (ql A7 rfl (AS AG rfl (qm rfl (Ac ?_))))))))
    refine AR (L := DF N p0 p1) h (fun v7 => mk [(2, .e (.one (.ptr 2 0))), (3, .e (.one (.ptr 3 0))), (43, .e (.one (.pure (.sl (p0.fVersions.map Ag))))), (44, .e (.one (.pure (.val (.int .i64 ((p0.fVersions.length : Int))))))), (45, .e (.one (.pure (.val (.int .i64 v7)))))] [(2, .box [.pure (.sl (p0.fVersions.map Ag)), .pure (.sl (p0.fNow.map Ag)), .pure (.sl (p0.fTarget.map Ag)), .pure (.sl (p0.fTables.map Ai))]), (3, .box [.pure (.sl (p1.fBase.map Ag)), .pure (.sl (p1.fNext.map Ag)), .pure (.sl (p1.fHeld.map A9))])]) (fun v8 => mk [(2, .e (.one (.ptr 2 0))), (3, .e (.one (.ptr 3 0)))] [(2, .box [.pure (.sl (p0.fVersions.map Ag)), .pure (.sl (p0.fNow.map Ag)), .pure (.sl (p0.fTarget.map Ag)), .pure (.sl (p0.fTables.map Ai))]), (3, .box [.pure (.sl (p1.fBase.map Ag)), .pure (.sl (p1.fNext.map Ag)), .pure (.sl (p1.fHeld.map A9))])]) (fun _ _ => rfl) (sm [] _ _ rfl rfl) (fun j7 n7 v7 h => ?_) (fun v8 s h hs => ?_)
    ·unfold DF at h
     refine Ab (Aa Ad rfl (A8 rfl (Ac (Ab ?_))))
     refine As rfl (fun c9 => ?_) (fun c9 => ?_)
     ·have h := Ap c9 h
      refine Av (Ab (AU (Ab (Aa Ad rfl (qm rfl ?_)))))
      obtain ⟨v10, a10, b10, h⟩ := Am h
      refine qi AG Dc a10 (Aj b10) rfl (qk B9 rfl (qa rfl (qa rfl (Ac (Ab ?_)))))
      refine AX h (fun v11 => mk [(2, .e (.one (.ptr 2 0))), (3, .e (.one (.ptr 3 0))), (6, .e (.one (.pure (.val (.int .i64 v7))))), (43, .e (.one (.pure (.sl (p0.fVersions.map Ag))))), (44, .e (.one (.pure (.val (.int .i64 ((p0.fVersions.length : Int))))))), (45, .e (.one (.pure (.val (.int .i64 v7))))), (81, .e (.one (.pure (.val (.bool v11)))))] [(2, .box [.pure (.sl (p0.fVersions.map Ag)), .pure (.sl (p0.fNow.map Ag)), .pure (.sl (p0.fTarget.map Ag)), .pure (.sl (p0.fTables.map Ai))]), (3, .box [.pure (.sl (p1.fBase.map Ag)), .pure (.sl (p1.fNext.map Ag)), .pure (.sl (p1.fHeld.map A9))])]) (fun j11 h => ?_) (fun v11 h => ?_)
      ·refine Aa Ad rfl (qf CB rfl (ql A7 rfl (qm rfl ?_)))
       obtain ⟨v12, a12, b12, h⟩ := Am h
       refine qi AG Dc a12 (Aj b12) rfl (qk B9 rfl (A8 rfl (qm rfl ?_)))
       refine AI (t := 56) rfl (fun c13 => ?_) (fun c13 => ?_)
       ·have h := Ap c13 h
        refine qn rfl (qn rfl (qn rfl (qn rfl (qn rfl (qn rfl (qn rfl (qp rfl (qm rfl (qn rfl (qn rfl (qn rfl (qn rfl (qn rfl (qn rfl (qp rfl (qm rfl (qn rfl (qn rfl (qn rfl (qn rfl (qn rfl (qn rfl (qn rfl (qp rfl (Ac ?_)))))))))))))))))))))))))
        exact Aw _ h (sm [] _ _ rfl rfl)
       ·have h := Aq c13 h
        refine qf CB rfl (ql A7 rfl (qm rfl ?_))
        obtain ⟨v14, a14, b14, h⟩ := Am h
        refine qi AG Dc a14 (Aj b14) rfl (qk B9 rfl (qm rfl (Ez rfl (qp rfl (qm rfl ?_)))))
        refine AI (t := 65) rfl (fun c15 => ?_) (fun c15 => ?_)
        ·have h := Ap c15 h
         refine qn rfl (qn rfl (qn rfl (qn rfl (qn rfl (qn rfl (qp rfl (qm rfl (qn rfl (qn rfl (qn rfl (qn rfl (qn rfl (qn rfl (qn rfl (qp rfl (Ac ?_))))))))))))))))
         exact Aw _ h (sm [] _ _ rfl rfl)
        ·have h := Aq c15 h
         refine qf Bz rfl (ql A7 rfl (qm rfl ?_))
         obtain ⟨v16, a16, b16, h⟩ := Am h
         refine qi AG Dc a16 (Aj b16) rfl (qk B9 rfl (A8 rfl (qp rfl (qm rfl ?_))))
         refine AI (t := 73) rfl (fun c17 => ?_) (fun c17 => ?_)
         ·have h := Ap c17 h
          refine qn rfl (qn rfl (qn rfl (qn rfl (qn rfl (qn rfl (qn rfl (qp rfl (Ac ?_))))))))
          exact Aw _ h (sm [] _ _ rfl rfl)
         ·have h := Aq c17 h
          refine qf Bz rfl (ql A7 rfl (qm rfl ?_))
          obtain ⟨v18, a18, b18, h⟩ := Am h
          refine qi AG Dc a18 (Aj b18) rfl (qk B9 rfl (qm rfl (Ez rfl (qp rfl (Ac ?_)))))
          exact Aw _ h (sm [] _ _ rfl rfl)
      ·refine As rfl (fun c19 => ?_) (fun c19 => ?_)
       ·have h := Ap c19 h
        refine Ab (Aa Ad rfl (qa rfl (Ac ?_)))
        obtain rfl := sj h
        refine Al (sm [] [(4, .e (.one (.pure (.val (.int .i64 7)))))] [] rfl rfl) (AC ?_)
        exact ⟨⟨[_], ⟨.tmp _ _ rfl, trivial⟩, rfl⟩, trivial⟩
       ·have h := Aq c19 h
        refine Av (Ab (Aa Ad rfl (qf CB rfl (ql A7 rfl (qm rfl ?_)))))
        obtain ⟨v20, a20, b20, h⟩ := Am h
        refine qi AG Dc a20 (Aj b20) rfl (qk B9 rfl (qf Bz rfl (ql A7 rfl (qm rfl ?_))))
        obtain ⟨v21, a21, b21, h⟩ := Am h
        refine qi AG Dc a21 (Aj b21) rfl (qk B9 rfl (B6 rfl (AY (by kernel_rfl) ?_)))
        refine As rfl (fun c22 => ?_) (fun c22 => ?_)
        ·have h := Ap c22 h
         refine Ab (Aa Ad rfl (qa rfl (Ac ?_)))
         obtain rfl := sj h
         refine Al (sm [] [(4, .e (.one (.pure (.val (.int .i64 1)))))] [] rfl rfl) (AC ?_)
         exact ⟨⟨[_], ⟨.tmp _ _ rfl, trivial⟩, rfl⟩, trivial⟩
        ·have h := Aq c22 h
         refine Av (Aa Ad rfl (Bn rfl (qm rfl (Ac ?_))))
         exact Aw _ h (sm [] _ _ rfl rfl)
     ·have h := Aq c9 h
      refine A4 ?_
      exact Aw _ h (sm [] _ _ rfl rfl)
    ·refine Al hs (Ab (Ab (Aa Ad rfl (qf CF rfl (ql Gq rfl (AS DO rfl (qm rfl (Ac ?_))))))))
     refine AR (L := Di N p0 p1) h (fun v23 => mk [(2, .e (.one (.ptr 2 0))), (3, .e (.one (.ptr 3 0))), (95, .e (.one (.pure (.sl (p0.fTables.map Ai))))), (96, .e (.one (.pure (.val (.int .i64 ((p0.fTables.length : Int))))))), (97, .e (.one (.pure (.val (.int .i64 v23)))))] [(2, .box [.pure (.sl (p0.fVersions.map Ag)), .pure (.sl (p0.fNow.map Ag)), .pure (.sl (p0.fTarget.map Ag)), .pure (.sl (p0.fTables.map Ai))]), (3, .box [.pure (.sl (p1.fBase.map Ag)), .pure (.sl (p1.fNext.map Ag)), .pure (.sl (p1.fHeld.map A9))])]) (fun v24 => mk [] []) (fun _ _ => rfl) (sm [] _ _ rfl rfl) (fun j23 n23 v23 h => ?_) (fun v24 s h hs => ?_)
     ·unfold Di at h
      refine Ab (Aa Ad rfl (A8 rfl (Ac (Ab ?_))))
      refine As rfl (fun c25 => ?_) (fun c25 => ?_)
      ·have h := Ap c25 h
       refine Av (Ab (AU (Ab (Aa Ad rfl (qm rfl ?_)))))
       obtain ⟨v26, a26, b26, h⟩ := Am h
       refine qi DO DP a26 (Aj b26) rfl (qK GB DP rfl (qz JR rfl (qa rfl (qs DP rfl (Ac (Ab (Aa Ad rfl (qa rfl (qa rfl (Ac ?_))))))))))
       refine AX h (fun v27 => mk [(2, .e (.one (.ptr 2 0))), (3, .e (.one (.ptr 3 0))), (8, .e (.one (.pure (.val (.int .i64 v23))))), (10, .e (.one (.pure (.val (.int .u8 v27.1))))), (11, .e (.one (.pure (.val (.int .u8 v27.2))))), (95, .e (.one (.pure (.sl (p0.fTables.map Ai))))), (96, .e (.one (.pure (.val (.int .i64 ((p0.fTables.length : Int))))))), (97, .e (.one (.pure (.val (.int .i64 v23)))))] [(2, .box [.pure (.sl (p0.fVersions.map Ag)), .pure (.sl (p0.fNow.map Ag)), .pure (.sl (p0.fTarget.map Ag)), .pure (.sl (p0.fTables.map Ai))]), (3, .box [.pure (.sl (p1.fBase.map Ag)), .pure (.sl (p1.fNext.map Ag)), .pure (.sl (p1.fHeld.map A9))])]) (fun j27 h => ?_) (fun v27 h => ?_)
       ·refine Ab (Aa Ad rfl (qL GB DP rfl ?_))
        obtain ⟨v28, a28, h⟩ := bind_some h
        refine AK [] (IY N v26 v28 a28) VA rfl (Ac ?_)
        refine As rfl (fun c29 => ?_) (fun c29 => ?_)
        ·have h := Ap c29 h
         refine Aa Ad rfl (qL Bs AT rfl (qf CV rfl (ql B9 rfl ?_)))
         obtain ⟨v30, a30, h⟩ := bind_some h
         refine AK [] (Ie N p1 v26.fFrom v30 a30) Vs rfl (qf Br rfl (ql A7 rfl (qf CV rfl (ql B9 rfl ?_))))
         obtain ⟨v31, a31, b31, h⟩ := Am h
         refine qi AG Dc a31 (Aj b31) rfl (qk B9 rfl ?_)
         obtain ⟨c32, h⟩ := AO h
         refine H3 rfl c32 (PD rfl (qa rfl (qa rfl (AY (by kernel_rfl) ?_))))
         exact Aw _ h (sm [] _ _ rfl rfl)
        ·have h := Aq c29 h
         refine Av ?_
         exact Aw _ h (sm [] _ _ rfl rfl)
       ·refine AX h (fun v33 => mk [(2, .e (.one (.ptr 2 0))), (3, .e (.one (.ptr 3 0))), (95, .e (.one (.pure (.sl (p0.fTables.map Ai))))), (96, .e (.one (.pure (.val (.int .i64 ((p0.fTables.length : Int))))))), (97, .e (.one (.pure (.val (.int .i64 v23))))), (133, .e (.one (.pure (.val (.bool v33)))))] [(2, .box [.pure (.sl (p0.fVersions.map Ag)), .pure (.sl (p0.fNow.map Ag)), .pure (.sl (p0.fTarget.map Ag)), .pure (.sl (p0.fTables.map Ai))]), (3, .box [.pure (.sl (p1.fBase.map Ag)), .pure (.sl (p1.fNext.map Ag)), .pure (.sl (p1.fHeld.map A9))])]) (fun j33 h => ?_) (fun v33 h => ?_)
        ·refine Aa Ad rfl (qm rfl (qf Cz rfl (ql Gl rfl (qm rfl ?_))))
         obtain ⟨v34, a34, b34, h⟩ := Am h
         refine qi Dm Fq a34 (Aj b34) rfl (qk Jg rfl (Hy rfl (Co rfl (qm rfl ?_))))
         refine AI (t := 124) rfl (fun c35 => ?_) (fun c35 => ?_)
         ·have h := Ap c35 h
          refine qn rfl (qn rfl (qn rfl (qn rfl (qn rfl (qn rfl (qn rfl (qn rfl (qp rfl (Ac ?_)))))))))
          exact Aw _ h (sm [] _ _ rfl rfl)
         ·have h := Aq c35 h
          refine qf Cz rfl (ql Gl rfl (qm rfl ?_))
          obtain ⟨v36, a36, b36, h⟩ := Am h
          refine qi Dm Fq a36 (Aj b36) rfl (qk Jg rfl (qm rfl (Hy rfl (Co rfl (qp rfl (Ac ?_))))))
          exact Aw _ h (sm [] _ _ rfl rfl)
        ·refine As rfl (fun c37 => ?_) (fun c37 => ?_)
         ·have h := Ap c37 h
          refine Ab (Aa Ad rfl (qa rfl (Ac ?_)))
          obtain rfl := sj h
          refine Al (sm [] [(4, .e (.one (.pure (.val (.int .i64 1)))))] [] rfl rfl) (AC ?_)
          exact ⟨⟨[_], ⟨.tmp _ _ rfl, trivial⟩, rfl⟩, trivial⟩
         ·have h := Aq c37 h
          refine Av (Aa Ad rfl (Bn rfl (qm rfl (Ac ?_))))
          exact Aw _ h (sm [] _ _ rfl rfl)
      ·have h := Aq c25 h
       refine A4 ?_
       exact Aw _ h (sm [] _ _ rfl rfl)
     ·refine Al hs (Ab (Aa Ad rfl (qa rfl (Ac ?_))))
      obtain rfl := sj h
      refine Al (sm [] [(4, .e (.one (.pure (.val (.int .i64 0)))))] [] rfl rfl) (AC ?_)
      exact ⟨⟨[_], ⟨.tmp _ _ rfl, trivial⟩, rfl⟩, trivial⟩
set_option maxRecDepth 10000 in
theorem ET (N : Nat) (p0 : List Int) (r : (List Int)) (h : BO N p0 = some r) : AA Try.prog 98 [.e (.one (.pure (.sl (p0.map A9))))] [(1, r.map A9)] (.e (.one (.own 0))) := by
 unfold BO at h
 refine Ao (n := 8) (rs := [.tmp 2]) Try.func98 rfl rfl rfl (BF rfl) (BF rfl) rfl fun w0 S0 => ?_
 refine Ab (Aa Ad rfl (qa rfl (Ac (Ab (Ab (Aa Ad rfl (qm rfl ?_)))))))
 refine Q9 (.p rfl) rfl Dm ?_
 refine Ac ?_
 refine Rs rfl (fun c2 => ?_) ?_
 ·have c2 := List.map_eq_nil_iff.1 c2
  rw [c2] at h
  have h : (some (([] : List Int))) = some r := h
  refine Ab (Aa Ad rfl (qa rfl (Ac ?_)))
  obtain rfl := sj h
  refine Al ((By 2 2001 1 rfl rfl rfl).trans (sm [(1000, 2001)] [(2, .e (.one (.own 1000)))] [(1000, .vec 1 ((([] : List Int)).map A9))] rfl rfl)) (AC ?_)
  exact ⟨⟨[_], ⟨.tmp _ _ rfl, trivial⟩, rfl⟩, ⟨rfl, trivial⟩⟩
 ·refine Av (Ab (Aa Ad rfl (Ep Dm Fq OP rfl (qm rfl ?_))))
  obtain ⟨c1, h⟩ := AO h
  refine Ja (f := A9) Dm Dm Fq PT OP (fun _ => rfl) c1 rfl (qa rfl (Ac ?_))
  obtain rfl := sj h
  refine Al (sm [(1000, 7)] [(2, .e (.one (.own 1000)))] [(1000, .vec 1 (((([] : List Int)) ++ p0).map A9))] rfl rfl) (AC ?_)
  exact ⟨⟨[_], ⟨.tmp _ _ rfl, trivial⟩, rfl⟩, ⟨rfl, trivial⟩⟩
set_option maxRecDepth 10000 in
theorem OM (N : Nat) (p0 : Ae) (p1 : Ah) (r : (List Ah) × Int) (h : FX N p0 p1 = some r) : AA Try.prog 75 [.e (.agg [.pure (.sl (p0.fVersions.map Ag)), .pure (.sl (p0.fNow.map Ag)), .pure (.sl (p0.fTarget.map Ag)), .pure (.sl (p0.fTables.map Ai))]), .e (.agg [.pure (.sl (p1.fBase.map Ag)), .pure (.sl (p1.fNext.map Ag)), .pure (.sl (p1.fHeld.map A9))])] [(3, r.1.map Ee)] (.tup [.one (.own 0), .one (.pure (.val (.int .i64 r.2)))]) := by
 unfold FX at h
 refine Ao (n := 75) (rs := [.tmp 4, .tmp 5]) Try.func75 rfl rfl rfl (BF rfl) (BF rfl) rfl fun w0 S0 => ?_
 refine Ab (Aa Ad rfl (qb rfl (qb rfl (qa rfl (qa rfl (Ac (Ab (Ab (Aa Ad rfl (qL Dr CX rfl (qL Bs AT rfl ?_)))))))))))
 obtain ⟨v1, a1, h⟩ := bind_some h
 refine AK [] (HX N p0 p1 v1 a1) TO rfl (qa rfl (Ac (Ab (Aa Ad rfl (qm rfl (Co rfl (Ac ?_)))))))
 refine As rfl (fun c2 => ?_) (fun c2 => ?_)
 ·have h := Ap c2 h
  refine Ab (Aa Ad rfl (qm rfl (qa rfl (qa rfl (Ac ?_)))))
  obtain rfl := sj h
  refine Al ((By 4 2001 3 rfl rfl rfl).trans (sm [(1000, 2001)] [(4, .e (.one (.own 1000))), (5, .e (.one (.pure (.val (.int .i64 v1)))))] [(1000, .vec 3 ((([] : List Ah)).map Ee))] rfl rfl)) (AC ?_)
  exact ⟨⟨[_, _], ⟨.tmp _ _ rfl, ⟨.tmp _ _ rfl, trivial⟩⟩, rfl⟩, ⟨rfl, trivial⟩⟩
 ·have h := Aq c2 h
  refine Av (Ab (Aa Ad rfl (qa rfl (Ac (Ab (Ab (Aa Ad rfl (qf Bz rfl (ql A7 rfl (AS AG rfl (qm rfl (Ac ?_))))))))))))
  refine AR (L := Dp N p1) h (fun v3 => mk [(3, .e (.one (.ptr 3 0))), (7, .e (.one (.own 2002))), (22, .e (.one (.pure (.sl (p1.fNext.map Ag))))), (23, .e (.one (.pure (.val (.int .i64 ((p1.fNext.length : Int))))))), (24, .e (.one (.pure (.val (.int .i64 v3.2)))))] [(3, .box [.pure (.sl (p1.fBase.map Ag)), .pure (.sl (p1.fNext.map Ag)), .pure (.sl (p1.fHeld.map A9))]), (2002, .vec 1 (v3.1.map Ag))]) (fun v4 => mk [(3, .e (.one (.ptr 3 0))), (7, .e (.one (.own 2003)))] [(3, .box [.pure (.sl (p1.fBase.map Ag)), .pure (.sl (p1.fNext.map Ag)), .pure (.sl (p1.fHeld.map A9))]), (2003, .vec 1 (v4.map Ag))]) (fun _ _ => rfl) ((By 7 2005 1 rfl rfl rfl).trans (sm [(2002, 2005)] _ _ rfl rfl)) (fun j3 n3 v3 h => ?_) (fun v4 s h hs => ?_)
  ·unfold Dp at h
   refine Ab (Aa Ad rfl (A8 rfl (Ac (Ab ?_))))
   refine As rfl (fun c5 => ?_) (fun c5 => ?_)
   ·have h := Ap c5 h
    refine Av ?_
    refine AX h (fun v6 => mk [(3, .e (.one (.ptr 3 0))), (7, .e (.one (.own 2004))), (22, .e (.one (.pure (.sl (p1.fNext.map Ag))))), (23, .e (.one (.pure (.val (.int .i64 ((p1.fNext.length : Int))))))), (24, .e (.one (.pure (.val (.int .i64 v3.2)))))] [(3, .box [.pure (.sl (p1.fBase.map Ag)), .pure (.sl (p1.fNext.map Ag)), .pure (.sl (p1.fHeld.map A9))]), (2004, .vec 1 (v6.map Ag))]) (fun j6 h => ?_) (fun v6 h => ?_)
    ·refine AU (Ab (Aa Ad rfl (qm rfl ?_)))
     obtain ⟨v7, a7, b7, h⟩ := Am h
     refine qi AG Dc a7 (Aj b7) rfl (qk B9 rfl (qa rfl (qa rfl (Ac (Ab (Aa Ad rfl (qm rfl (Ez rfl (Ac ?_)))))))))
     refine As rfl (fun c8 => ?_) (fun c8 => ?_)
     ·have h := Ap c8 h
      refine Aa Ad rfl (qm rfl (qm rfl (Ep AG Dc J9 rfl ?_)))
      obtain ⟨c9, h⟩ := AO h
      refine Dx (f := Ag) AG AG Dc K8 J9 c9 rfl (qa rfl (Ac ?_))
      exact Aw _ h (sm [(2004, 34)] _ _ rfl rfl)
     ·have h := Aq c8 h
      refine Av ?_
      exact Aw _ h (sm [(2004, 2002)] _ _ rfl rfl)
    ·refine Aa Ad rfl (Bn rfl (qm rfl (Ac ?_)))
     exact Aw _ h (sm [(2002, 2004)] _ _ rfl rfl)
   ·have h := Aq c5 h
    refine A4 ?_
    exact Aw _ h (sm [(2003, 2002)] _ _ rfl rfl)
  ·refine Al hs (Ab (Aa Ad rfl (qa rfl (Ac (Ab (Ab (Aa Ad rfl (qm rfl (FD AG rfl ?_)))))))))
   obtain ⟨c10, h⟩ := AO h
   refine H3 rfl c10 (qm rfl (Ac ?_))
   refine AR (L := CJ N p1 v4) h (fun v11 => mk [(3, .e (.one (.ptr 3 0))), (7, .e (.one (.own 2006))), (10, .e (.one (.own 2007))), (38, .e (.one (.pure (.val (.int .i64 ((Dw .i64 1 ((v4.length : Int))))))))), (39, .e (.one (.pure (.val (.int .i64 v11.2)))))] [(3, .box [.pure (.sl (p1.fBase.map Ag)), .pure (.sl (p1.fNext.map Ag)), .pure (.sl (p1.fHeld.map A9))]), (2006, .vec 1 (v4.map Ag)), (2007, .vec 3 (v11.1.map Ee))]) (fun v12 => mk [(10, .e (.one (.own 2008)))] [(2008, .vec 3 (v12.map Ee))]) (fun _ _ => rfl) ((By 10 2027 3 rfl rfl rfl).trans (sm [(2006, 2003), (2007, 2027)] _ _ rfl rfl)) (fun j11 n11 v11 h => ?_) (fun v12 s h hs => ?_)
   ·unfold CJ at h
    refine Ab (Aa Ad rfl (A8 rfl (Ac (Ab ?_))))
    refine As rfl (fun c13 => ?_) (fun c13 => ?_)
    ·have h := Ap c13 h
     refine Av (Ab (AU (Ab (Aa Ad rfl (qm rfl (qa rfl (Ac (Ab (Aa Ad rfl (qf CB rfl (ql A7 rfl ?_)))))))))))
     obtain ⟨v14, a14, h⟩ := bind_some h
     refine AK [2009] (Dy N p1.fBase v14 a14) SA rfl (qf Bz rfl (ql A7 rfl ?_))
     obtain ⟨v15, a15, h⟩ := bind_some h
     refine AK [2010] (Dy N p1.fNext v15 a15) SA rfl (qf Cz rfl (ql Gl rfl ?_))
     obtain ⟨v16, a16, h⟩ := bind_some h
     refine AK [2011] (ET N p1.fHeld v16 a16) Ww rfl (A6 C7 GD rfl (qz C7 rfl (qs AT rfl (AY (by kernel_rfl) (Ab (Ab (Aa Ad rfl (qm rfl (FD AG rfl (qm rfl (Ac ?_)))))))))))
     refine AR (L := CM N v4 v11) h (fun v17 => mk [(3, .e (.one (.ptr 3 0))), (7, .e (.one (.own 2015))), (10, .e (.one (.own 2016))), (11, .e (.one (.pure (.val (.int .i64 v11.2))))), (12, .e (.one (.ptr 12 0))), (38, .e (.one (.pure (.val (.int .i64 ((Dw .i64 1 ((v4.length : Int))))))))), (39, .e (.one (.pure (.val (.int .i64 v11.2))))), (52, .e (.one (.own 2015))), (53, .e (.one (.pure (.val (.int .i64 ((v4.length : Int))))))), (54, .e (.one (.pure (.val (.int .i64 v17.2)))))] [(3, .box [.pure (.sl (p1.fBase.map Ag)), .pure (.sl (p1.fNext.map Ag)), .pure (.sl (p1.fHeld.map A9))]), (12, .box [.own 2012, .own 2013, .own 2014]), (2012, .vec 1 (v14.map Ag)), (2013, .vec 1 (v17.1.map Ag)), (2014, .vec 1 (v16.map A9)), (2015, .vec 1 (v4.map Ag)), (2016, .vec 3 (v11.1.map Ee))]) (fun v18 => mk [(3, .e (.one (.ptr 3 0))), (7, .e (.one (.own 2020))), (10, .e (.one (.own 2021))), (12, .e (.one (.ptr 12 0))), (38, .e (.one (.pure (.val (.int .i64 ((Dw .i64 1 ((v4.length : Int))))))))), (39, .e (.one (.pure (.val (.int .i64 v11.2)))))] [(3, .box [.pure (.sl (p1.fBase.map Ag)), .pure (.sl (p1.fNext.map Ag)), .pure (.sl (p1.fHeld.map A9))]), (12, .box [.own 2017, .own 2018, .own 2019]), (2017, .vec 1 (v14.map Ag)), (2018, .vec 1 (v18.map Ag)), (2019, .vec 1 (v16.map A9)), (2020, .vec 1 (v4.map Ag)), (2021, .vec 3 (v11.1.map Ee))]) (fun _ _ => rfl) (sm [(2012, 2009), (2013, 2010), (2014, 2011), (2015, 2006), (2016, 2007)] _ _ rfl rfl) (fun j17 n17 v17 h => ?_) (fun v18 s h hs => ?_)
     ·unfold CM at h
      refine Ab (Aa Ad rfl (A8 rfl (Ac (Ab ?_))))
      refine As rfl (fun c19 => ?_) (fun c19 => ?_)
      ·have h := Ap c19 h
       refine Av ?_
       refine AX h (fun v20 => mk [(3, .e (.one (.ptr 3 0))), (7, .e (.one (.own 2025))), (10, .e (.one (.own 2026))), (11, .e (.one (.pure (.val (.int .i64 v11.2))))), (12, .e (.one (.ptr 12 0))), (38, .e (.one (.pure (.val (.int .i64 ((Dw .i64 1 ((v4.length : Int))))))))), (39, .e (.one (.pure (.val (.int .i64 v11.2))))), (52, .e (.one (.own 2025))), (53, .e (.one (.pure (.val (.int .i64 ((v4.length : Int))))))), (54, .e (.one (.pure (.val (.int .i64 v17.2)))))] [(3, .box [.pure (.sl (p1.fBase.map Ag)), .pure (.sl (p1.fNext.map Ag)), .pure (.sl (p1.fHeld.map A9))]), (12, .box [.own 2022, .own 2023, .own 2024]), (2022, .vec 1 (v14.map Ag)), (2023, .vec 1 (v20.map Ag)), (2024, .vec 1 (v16.map A9)), (2025, .vec 1 (v4.map Ag)), (2026, .vec 3 (v11.1.map Ee))]) (fun j20 h => ?_) (fun v20 h => ?_)
       ·refine AU (Ab (Aa Ad rfl (qm rfl ?_)))
        obtain ⟨v21, a21, b21, h⟩ := Am h
        refine qI AG Dc a21 (Aj b21) rfl (qj B9 (Aj b21) rfl (qa rfl (qa rfl (Ac (Ab (Aa Ad rfl (qm rfl (qm rfl ?_))))))))
        obtain ⟨c22, h⟩ := AO h
        refine Iz rfl c22 (LG rfl (B6 rfl (Ac ?_)))
        refine As rfl (fun c23 => ?_) (fun c23 => ?_)
        ·have h := Ap c23 h
         refine Aa Ad rfl (qf Bz rfl (ql A7 rfl (qm rfl ?_)))
         obtain ⟨v24, a24, b24, h⟩ := Am h
         refine qI AG Dc a24 (Aj b24) rfl ?_
         refine D8 rfl rfl rfl rfl (Aj b24) rfl Dc rfl (BF rfl) (DL Ag v17.1 _ ((-1))) ?_
         refine Ac ?_
         exact Aw _ h (sm [(2022, 2012), (2023, 2013), (2024, 2014), (2025, 2015), (2026, 2016)] _ _ rfl rfl)
        ·have h := Aq c23 h
         refine Av ?_
         exact Aw _ h (sm [(2022, 2012), (2023, 2013), (2024, 2014), (2025, 2015), (2026, 2016)] _ _ rfl rfl)
       ·refine Aa Ad rfl (Bn rfl (qm rfl (Ac ?_)))
        exact Aw _ h (sm [(2012, 2022), (2013, 2023), (2014, 2024), (2015, 2025), (2016, 2026)] _ _ rfl rfl)
      ·have h := Aq c19 h
       refine A4 ?_
       exact Aw _ h (sm [(2017, 2012), (2018, 2013), (2019, 2014), (2020, 2015), (2021, 2016)] _ _ rfl rfl)
     ·refine Al hs (Aa Ad rfl (qm rfl (qL Bs AT rfl (DY (BV 2017 _ _ rfl rfl) (DY (BV 2018 _ _ rfl rfl) (DY (BV 2019 _ _ rfl rfl) (Ep Kb AT C7 rfl ?_)))))))
      obtain ⟨c25, h⟩ := AO h
      refine Dx (f := Ee) Kb Kb AT UT C7 c25 rfl (qa rfl (Ac (Aa Ad rfl (Bn rfl (qm rfl (Ac ?_))))))
      exact Aw _ h (sm [(2006, 2020), (2007, 72)] _ _ rfl rfl)
    ·have h := Aq c13 h
     refine A4 ?_
     exact Aw _ h (sm [(2008, 2007)] _ _ rfl rfl)
   ·refine Al hs (Ab (Aa Ad rfl (qm rfl (qa rfl (qa rfl (Ac ?_))))))
    obtain rfl := sj h
    refine Al (sm [(1000, 2008)] [(4, .e (.one (.own 1000))), (5, .e (.one (.pure (.val (.int .i64 0)))))] [(1000, .vec 3 (v12.map Ee))] rfl rfl) (AC ?_)
    exact ⟨⟨[_, _], ⟨.tmp _ _ rfl, ⟨.tmp _ _ rfl, trivial⟩⟩, rfl⟩, ⟨rfl, trivial⟩⟩
set_option maxRecDepth 10000 in
theorem L5 (N : Nat) (p0 : Ae) (p1 : Ah) (r : (List An)) (h : EY N p0 p1 = some r) : AA Try.prog 76 [.e (.agg [.pure (.sl (p0.fVersions.map Ag)), .pure (.sl (p0.fNow.map Ag)), .pure (.sl (p0.fTarget.map Ag)), .pure (.sl (p0.fTables.map Ai))]), .e (.agg [.pure (.sl (p1.fBase.map Ag)), .pure (.sl (p1.fNext.map Ag)), .pure (.sl (p1.fHeld.map A9))])] [(3, r.map A0)] (.e (.one (.own 0))) := by
 unfold EY at h
 refine Ao (n := 98) (rs := [.tmp 4]) Try.func76 rfl rfl rfl (BF rfl) (BF rfl) rfl fun w0 S0 => ?_
 refine Ab (Aa Ad rfl (qb rfl (qb rfl (qa rfl (Ac (Ab (Aa Ad rfl (qa rfl (Ac (Ab (Ab (Aa Ad rfl (qf CF rfl (ql Gq rfl (AS DO rfl (qm rfl (Ac ?_)))))))))))))))))
 refine AR (L := C0 N p0 p1) h (fun v1 => mk [(3, .e (.one (.ptr 3 0))), (5, .e (.one (.own 2001))), (15, .e (.one (.pure (.sl (p0.fTables.map Ai))))), (16, .e (.one (.pure (.val (.int .i64 ((p0.fTables.length : Int))))))), (17, .e (.one (.pure (.val (.int .i64 v1.2)))))] [(3, .box [.pure (.sl (p1.fBase.map Ag)), .pure (.sl (p1.fNext.map Ag)), .pure (.sl (p1.fHeld.map A9))]), (2001, .vec 3 (v1.1.map A0))]) (fun v2 => mk [(5, .e (.one (.own 2002)))] [(2002, .vec 3 (v2.map A0))]) (fun _ _ => rfl) ((By 5 2013 3 rfl rfl rfl).trans (sm [(2001, 2013)] _ _ rfl rfl)) (fun j1 n1 v1 h => ?_) (fun v2 s h hs => ?_)
 ·unfold C0 at h
  refine Ab (Aa Ad rfl (A8 rfl (Ac (Ab ?_))))
  refine As rfl (fun c3 => ?_) (fun c3 => ?_)
  ·have h := Ap c3 h
   refine Av (Ab (AU (Ab (Aa Ad rfl (qm rfl ?_)))))
   obtain ⟨v4, a4, b4, h⟩ := Am h
   refine qi DO DP a4 (Aj b4) rfl (qK GB DP rfl (qz JR rfl (qa rfl (qs DP rfl (Ac (Ab (Aa Ad rfl (qL Bs AT rfl (qf CV rfl (ql B9 rfl ?_))))))))))
   obtain ⟨v5, a5, h⟩ := bind_some h
   refine AK [] (Ie N p1 v4.fFrom v5 a5) Vs rfl (qL Bs AT rfl (qf Hq rfl (ql B9 rfl ?_)))
   obtain ⟨v6, a6, h⟩ := bind_some h
   refine AK [] (Ie N p1 v4.fTo v6 a6) Vs rfl (qa rfl (qa rfl (AY (by kernel_rfl) ?_)))
   refine AX h (fun v7 => mk [(3, .e (.one (.ptr 3 0))), (5, .e (.one (.own 2003))), (6, .e (.one (.pure (.val (.int .i64 v1.2))))), (7, .e (.one (.ptr 7 0))), (8, .e (.one (.pure (.val (.int .u8 v7))))), (9, .e (.one (.pure (.val (.int .u8 v6))))), (15, .e (.one (.pure (.sl (p0.fTables.map Ai))))), (16, .e (.one (.pure (.val (.int .i64 ((p0.fTables.length : Int))))))), (17, .e (.one (.pure (.val (.int .i64 v1.2)))))] [(3, .box [.pure (.sl (p1.fBase.map Ag)), .pure (.sl (p1.fNext.map Ag)), .pure (.sl (p1.fHeld.map A9))]), (7, .box [.pure (.val (.int .i64 v4.fKind)), .pure (.val (.int .i64 v4.fFrom)), .pure (.val (.int .i64 v4.fTo)), .pure (.val (.bool v4.fAware)), .pure (.sl (v4.fOK.map (Et eB))), .pure (.sl (v4.fRewrite.map (Et eB)))]), (2003, .vec 3 (v1.1.map A0))]) (fun j7 h => ?_) (fun v7 h => ?_)
   ·refine Ab (Aa Ad rfl (qL GB DP rfl ?_))
    obtain ⟨v8, a8, h⟩ := bind_some h
    refine AK [] (IY N v4 v8 a8) VA rfl (Ac ?_)
    refine As rfl (fun c9 => ?_) (fun c9 => ?_)
    ·have h := Ap c9 h
     refine Aa Ad rfl (qf Cz rfl (ql Gl rfl (qm rfl ?_)))
     obtain ⟨v10, a10, b10, h⟩ := Am h
     refine qi Dm Fq a10 (Aj b10) rfl (qk Jg rfl (qa rfl (Ac ?_)))
     exact Aw _ h (sm [(2003, 2001)] _ _ rfl rfl)
    ·have h := Aq c9 h
     refine Av ?_
     exact Aw _ h (sm [(2003, 2001)] _ _ rfl rfl)
   ·refine Ab (Aa Ad rfl (qf IC rfl (ql Jd rfl (AS FN rfl (qm rfl (Ac ?_))))))
    refine AR (L := Cg N v1 v4 v6 v7) h (fun v11 => mk [(3, .e (.one (.ptr 3 0))), (5, .e (.one (.own 2004))), (6, .e (.one (.pure (.val (.int .i64 v1.2))))), (7, .e (.one (.ptr 7 0))), (8, .e (.one (.pure (.val (.int .u8 v7))))), (9, .e (.one (.pure (.val (.int .u8 v6))))), (15, .e (.one (.pure (.sl (p0.fTables.map Ai))))), (16, .e (.one (.pure (.val (.int .i64 ((p0.fTables.length : Int))))))), (17, .e (.one (.pure (.val (.int .i64 v1.2))))), (39, .e (.one (.pure (.val (.int .i64 ((v4.fOK.length : Int))))))), (40, .e (.one (.pure (.val (.int .i64 v11.2)))))] [(3, .box [.pure (.sl (p1.fBase.map Ag)), .pure (.sl (p1.fNext.map Ag)), .pure (.sl (p1.fHeld.map A9))]), (7, .box [.pure (.val (.int .i64 v4.fKind)), .pure (.val (.int .i64 v4.fFrom)), .pure (.val (.int .i64 v4.fTo)), .pure (.val (.bool v4.fAware)), .pure (.sl (v4.fOK.map (Et eB))), .pure (.sl (v4.fRewrite.map (Et eB)))]), (2004, .vec 3 (v11.1.map A0))]) (fun v12 => mk [(3, .e (.one (.ptr 3 0))), (5, .e (.one (.own 2005))), (15, .e (.one (.pure (.sl (p0.fTables.map Ai))))), (16, .e (.one (.pure (.val (.int .i64 ((p0.fTables.length : Int))))))), (17, .e (.one (.pure (.val (.int .i64 v1.2)))))] [(3, .box [.pure (.sl (p1.fBase.map Ag)), .pure (.sl (p1.fNext.map Ag)), .pure (.sl (p1.fHeld.map A9))]), (2005, .vec 3 (v12.map A0))]) (fun _ _ => rfl) (sm [(2004, 2003)] _ _ rfl rfl) (fun j11 n11 v11 h => ?_) (fun v12 s h hs => ?_)
    ·unfold Cg at h
     refine Ab (Aa Ad rfl (A8 rfl (Ac (Ab ?_))))
     refine As rfl (fun c13 => ?_) (fun c13 => ?_)
     ·have h := Ap c13 h
      refine Av ?_
      refine AX h (fun v14 => mk [(3, .e (.one (.ptr 3 0))), (5, .e (.one (.own 2006))), (6, .e (.one (.pure (.val (.int .i64 v1.2))))), (7, .e (.one (.ptr 7 0))), (8, .e (.one (.pure (.val (.int .u8 v7))))), (9, .e (.one (.pure (.val (.int .u8 v6))))), (15, .e (.one (.pure (.sl (p0.fTables.map Ai))))), (16, .e (.one (.pure (.val (.int .i64 ((p0.fTables.length : Int))))))), (17, .e (.one (.pure (.val (.int .i64 v1.2))))), (39, .e (.one (.pure (.val (.int .i64 ((v4.fOK.length : Int))))))), (40, .e (.one (.pure (.val (.int .i64 v11.2)))))] [(3, .box [.pure (.sl (p1.fBase.map Ag)), .pure (.sl (p1.fNext.map Ag)), .pure (.sl (p1.fHeld.map A9))]), (7, .box [.pure (.val (.int .i64 v4.fKind)), .pure (.val (.int .i64 v4.fFrom)), .pure (.val (.int .i64 v4.fTo)), .pure (.val (.bool v4.fAware)), .pure (.sl (v4.fOK.map (Et eB))), .pure (.sl (v4.fRewrite.map (Et eB)))]), (2006, .vec 3 (v14.map A0))]) (fun j14 h => ?_) (fun v14 h => ?_)
      ·refine AU (Ab (Aa Ad rfl (qm rfl (qa rfl (Ac (Ab (Ab (Aa Ad rfl (qm rfl (qm rfl ?_))))))))))
       obtain ⟨c15, h⟩ := AO h
       refine Iz rfl c15 (LG rfl (B6 rfl (Ac ?_)))
       refine As rfl (fun c16 => ?_) (fun c16 => ?_)
       ·have h := Ap c16 h
        refine A4 ?_
        exact Aw _ h (sm [(2006, 2004)] _ _ rfl rfl)
       ·have h := Aq c16 h
        refine Av (Ab (Aa Ad rfl (qa rfl (Ac (Ab (Ab (Aa Ad rfl (qf IC rfl (ql Jd rfl (qm rfl ?_))))))))))
        obtain ⟨v17, a17, b17, h⟩ := Am h
        refine qi FN L6 a17 (Aj b17) rfl (qk Ou rfl (AS FT rfl (qm rfl (Ac ?_))))
        refine AR (L := BU N v1 v4 v6 v11 v17) h (fun v18 => mk [(3, .e (.one (.ptr 3 0))), (5, .e (.one (.own 2007))), (6, .e (.one (.pure (.val (.int .i64 v1.2))))), (7, .e (.one (.ptr 7 0))), (8, .e (.one (.pure (.val (.int .u8 v7))))), (9, .e (.one (.pure (.val (.int .u8 v6))))), (10, .e (.one (.pure (.val (.int .i64 v11.2))))), (11, .e (.one (.pure (.val (.bool v18.2.1))))), (15, .e (.one (.pure (.sl (p0.fTables.map Ai))))), (16, .e (.one (.pure (.val (.int .i64 ((p0.fTables.length : Int))))))), (17, .e (.one (.pure (.val (.int .i64 v1.2))))), (39, .e (.one (.pure (.val (.int .i64 ((v4.fOK.length : Int))))))), (40, .e (.one (.pure (.val (.int .i64 v11.2))))), (52, .e (.one (.pure (.sl (v17.map eB))))), (53, .e (.one (.pure (.val (.int .i64 ((v17.length : Int))))))), (54, .e (.one (.pure (.val (.int .i64 v18.2.2)))))] [(3, .box [.pure (.sl (p1.fBase.map Ag)), .pure (.sl (p1.fNext.map Ag)), .pure (.sl (p1.fHeld.map A9))]), (7, .box [.pure (.val (.int .i64 v4.fKind)), .pure (.val (.int .i64 v4.fFrom)), .pure (.val (.int .i64 v4.fTo)), .pure (.val (.bool v4.fAware)), .pure (.sl (v4.fOK.map (Et eB))), .pure (.sl (v4.fRewrite.map (Et eB)))]), (2007, .vec 3 (v18.1.map A0))]) (fun v19 => mk [(3, .e (.one (.ptr 3 0))), (5, .e (.one (.own 2008))), (6, .e (.one (.pure (.val (.int .i64 v1.2))))), (7, .e (.one (.ptr 7 0))), (8, .e (.one (.pure (.val (.int .u8 v7))))), (9, .e (.one (.pure (.val (.int .u8 v6))))), (10, .e (.one (.pure (.val (.int .i64 v11.2))))), (11, .e (.one (.pure (.val (.bool v19.2))))), (15, .e (.one (.pure (.sl (p0.fTables.map Ai))))), (16, .e (.one (.pure (.val (.int .i64 ((p0.fTables.length : Int))))))), (17, .e (.one (.pure (.val (.int .i64 v1.2))))), (39, .e (.one (.pure (.val (.int .i64 ((v4.fOK.length : Int))))))), (40, .e (.one (.pure (.val (.int .i64 v11.2)))))] [(3, .box [.pure (.sl (p1.fBase.map Ag)), .pure (.sl (p1.fNext.map Ag)), .pure (.sl (p1.fHeld.map A9))]), (7, .box [.pure (.val (.int .i64 v4.fKind)), .pure (.val (.int .i64 v4.fFrom)), .pure (.val (.int .i64 v4.fTo)), .pure (.val (.bool v4.fAware)), .pure (.sl (v4.fOK.map (Et eB))), .pure (.sl (v4.fRewrite.map (Et eB)))]), (2008, .vec 3 (v19.1.map A0))]) (fun _ _ => rfl) (sm [(2007, 2004)] _ _ rfl rfl) (fun j18 n18 v18 h => ?_) (fun v19 s h hs => ?_)
        ·unfold BU at h
         refine Ab (Aa Ad rfl (A8 rfl (Ac (Ab ?_))))
         refine As rfl (fun c20 => ?_) (fun c20 => ?_)
         ·have h := Ap c20 h
          refine Av ?_
          refine AX h (fun v21 => mk [(3, .e (.one (.ptr 3 0))), (5, .e (.one (.own 2009))), (6, .e (.one (.pure (.val (.int .i64 v1.2))))), (7, .e (.one (.ptr 7 0))), (8, .e (.one (.pure (.val (.int .u8 v7))))), (9, .e (.one (.pure (.val (.int .u8 v6))))), (10, .e (.one (.pure (.val (.int .i64 v11.2))))), (11, .e (.one (.pure (.val (.bool v21.2))))), (15, .e (.one (.pure (.sl (p0.fTables.map Ai))))), (16, .e (.one (.pure (.val (.int .i64 ((p0.fTables.length : Int))))))), (17, .e (.one (.pure (.val (.int .i64 v1.2))))), (39, .e (.one (.pure (.val (.int .i64 ((v4.fOK.length : Int))))))), (40, .e (.one (.pure (.val (.int .i64 v11.2))))), (52, .e (.one (.pure (.sl (v17.map eB))))), (53, .e (.one (.pure (.val (.int .i64 ((v17.length : Int))))))), (54, .e (.one (.pure (.val (.int .i64 v18.2.2)))))] [(3, .box [.pure (.sl (p1.fBase.map Ag)), .pure (.sl (p1.fNext.map Ag)), .pure (.sl (p1.fHeld.map A9))]), (7, .box [.pure (.val (.int .i64 v4.fKind)), .pure (.val (.int .i64 v4.fFrom)), .pure (.val (.int .i64 v4.fTo)), .pure (.val (.bool v4.fAware)), .pure (.sl (v4.fOK.map (Et eB))), .pure (.sl (v4.fRewrite.map (Et eB)))]), (2009, .vec 3 (v21.1.map A0))]) (fun j21 h => ?_) (fun v21 h => ?_)
          ·refine AU (Ab (Aa Ad rfl (qm rfl ?_)))
           obtain ⟨v22, a22, b22, h⟩ := Am h
           refine qi FT PW a22 (Aj b22) rfl (qk Rx rfl (qa rfl (qa rfl (Ac (Ab (Ab (Aa Ad rfl (qm rfl (qm rfl ?_)))))))))
           obtain ⟨c23, h⟩ := AO h
           refine Iz rfl c23 (LG rfl (B6 rfl (Ac ?_)))
           refine As rfl (fun c24 => ?_) (fun c24 => ?_)
           ·have h := Ap c24 h
            refine A4 ?_
            exact Aw _ h (sm [(2009, 2007)] _ _ rfl rfl)
           ·have h := Aq c24 h
            refine Av ?_
            refine AX h (fun v25 => mk [(3, .e (.one (.ptr 3 0))), (5, .e (.one (.own 2010))), (6, .e (.one (.pure (.val (.int .i64 v1.2))))), (7, .e (.one (.ptr 7 0))), (8, .e (.one (.pure (.val (.int .u8 v7))))), (9, .e (.one (.pure (.val (.int .u8 v6))))), (10, .e (.one (.pure (.val (.int .i64 v11.2))))), (11, .e (.one (.pure (.val (.bool v25))))), (12, .e (.one (.pure (.val (.int .i64 v18.2.2))))), (13, .e (.one (.pure (.val (.bool v22))))), (15, .e (.one (.pure (.sl (p0.fTables.map Ai))))), (16, .e (.one (.pure (.val (.int .i64 ((p0.fTables.length : Int))))))), (17, .e (.one (.pure (.val (.int .i64 v1.2))))), (39, .e (.one (.pure (.val (.int .i64 ((v4.fOK.length : Int))))))), (40, .e (.one (.pure (.val (.int .i64 v11.2))))), (52, .e (.one (.pure (.sl (v17.map eB))))), (53, .e (.one (.pure (.val (.int .i64 ((v17.length : Int))))))), (54, .e (.one (.pure (.val (.int .i64 v18.2.2)))))] [(3, .box [.pure (.sl (p1.fBase.map Ag)), .pure (.sl (p1.fNext.map Ag)), .pure (.sl (p1.fHeld.map A9))]), (7, .box [.pure (.val (.int .i64 v4.fKind)), .pure (.val (.int .i64 v4.fFrom)), .pure (.val (.int .i64 v4.fTo)), .pure (.val (.bool v4.fAware)), .pure (.sl (v4.fOK.map (Et eB))), .pure (.sl (v4.fRewrite.map (Et eB)))]), (2010, .vec 3 (v18.1.map A0))]) (fun j25 h => ?_) (fun v25 h => ?_)
            ·refine Aa Ad rfl (qm rfl (qm rfl ?_))
             refine AI (t := 65) rfl (fun c26 => ?_) (fun c26 => ?_)
             ·have h := Ap c26 h
              refine qn rfl (qp rfl (qa rfl (Ac ?_)))
              exact Aw _ h (sm [(2010, 2007)] _ _ rfl rfl)
             ·have h := Aq c26 h
              refine qm rfl (qp rfl (qa rfl (Ac ?_)))
              exact Aw _ h (sm [(2010, 2007)] _ _ rfl rfl)
            ·refine AX h (fun v27 => mk [(3, .e (.one (.ptr 3 0))), (5, .e (.one (.own 2011))), (6, .e (.one (.pure (.val (.int .i64 v1.2))))), (7, .e (.one (.ptr 7 0))), (8, .e (.one (.pure (.val (.int .u8 v7))))), (9, .e (.one (.pure (.val (.int .u8 v6))))), (10, .e (.one (.pure (.val (.int .i64 v11.2))))), (11, .e (.one (.pure (.val (.bool v25))))), (12, .e (.one (.pure (.val (.int .i64 v18.2.2))))), (15, .e (.one (.pure (.sl (p0.fTables.map Ai))))), (16, .e (.one (.pure (.val (.int .i64 ((p0.fTables.length : Int))))))), (17, .e (.one (.pure (.val (.int .i64 v1.2))))), (39, .e (.one (.pure (.val (.int .i64 ((v4.fOK.length : Int))))))), (40, .e (.one (.pure (.val (.int .i64 v11.2))))), (52, .e (.one (.pure (.sl (v17.map eB))))), (53, .e (.one (.pure (.val (.int .i64 ((v17.length : Int))))))), (54, .e (.one (.pure (.val (.int .i64 v18.2.2))))), (74, .e (.one (.pure (.val (.bool v27)))))] [(3, .box [.pure (.sl (p1.fBase.map Ag)), .pure (.sl (p1.fNext.map Ag)), .pure (.sl (p1.fHeld.map A9))]), (7, .box [.pure (.val (.int .i64 v4.fKind)), .pure (.val (.int .i64 v4.fFrom)), .pure (.val (.int .i64 v4.fTo)), .pure (.val (.bool v4.fAware)), .pure (.sl (v4.fOK.map (Et eB))), .pure (.sl (v4.fRewrite.map (Et eB)))]), (2011, .vec 3 (v18.1.map A0))]) (fun j27 h => ?_) (fun v27 h => ?_)
             ·refine Aa Ad rfl (qm rfl (CE rfl (qm rfl ?_)))
              refine AI (t := 70) rfl (fun c28 => ?_) (fun c28 => ?_)
              ·have h := Ap c28 h
               refine qf H2 rfl (ql Rx rfl (CE rfl (qp rfl (Ac ?_))))
               exact Aw _ h (sm [(2011, 2010)] _ _ rfl rfl)
              ·have h := Aq c28 h
               refine qn rfl (qn rfl (qn rfl (qp rfl (Ac ?_))))
               exact Aw _ h (sm [(2011, 2010)] _ _ rfl rfl)
             ·refine As rfl (fun c29 => ?_) (fun c29 => ?_)
              ·have h := Ap c29 h
               refine Aa Ad rfl (qm rfl (qm rfl (qm rfl (qm rfl (A6 GV Mw rfl (Ep F6 Fp GV rfl ?_))))))
               obtain ⟨c30, h⟩ := AO h
               refine Dx (f := A0) F6 F6 Fp Ri GV c30 rfl (qa rfl (Ac ?_))
               exact Aw _ h (sm [(2009, 81)] _ _ rfl rfl)
              ·have h := Aq c29 h
               refine Av ?_
               exact Aw _ h (sm [(2009, 2011)] _ _ rfl rfl)
          ·refine Aa Ad rfl (Bn rfl (qm rfl (Ac ?_)))
           exact Aw _ h (sm [(2007, 2009)] _ _ rfl rfl)
         ·have h := Aq c20 h
          refine A4 ?_
          exact Aw _ h (sm [(2008, 2007)] _ _ rfl rfl)
        ·refine Al hs ?_
         refine AX h (fun v31 => mk [(3, .e (.one (.ptr 3 0))), (5, .e (.one (.own 2012))), (6, .e (.one (.pure (.val (.int .i64 v1.2))))), (7, .e (.one (.ptr 7 0))), (8, .e (.one (.pure (.val (.int .u8 v7))))), (9, .e (.one (.pure (.val (.int .u8 v6))))), (10, .e (.one (.pure (.val (.int .i64 v11.2))))), (15, .e (.one (.pure (.sl (p0.fTables.map Ai))))), (16, .e (.one (.pure (.val (.int .i64 ((p0.fTables.length : Int))))))), (17, .e (.one (.pure (.val (.int .i64 v1.2))))), (39, .e (.one (.pure (.val (.int .i64 ((v4.fOK.length : Int))))))), (40, .e (.one (.pure (.val (.int .i64 v11.2))))), (88, .e (.one (.pure (.val (.bool v31)))))] [(3, .box [.pure (.sl (p1.fBase.map Ag)), .pure (.sl (p1.fNext.map Ag)), .pure (.sl (p1.fHeld.map A9))]), (7, .box [.pure (.val (.int .i64 v4.fKind)), .pure (.val (.int .i64 v4.fFrom)), .pure (.val (.int .i64 v4.fTo)), .pure (.val (.bool v4.fAware)), .pure (.sl (v4.fOK.map (Et eB))), .pure (.sl (v4.fRewrite.map (Et eB)))]), (2012, .vec 3 (v19.1.map A0))]) (fun j31 h => ?_) (fun v31 h => ?_)
         ·refine Aa Ad rfl (qf H2 rfl (ql Rx rfl (qm rfl ?_)))
          refine AI (t := 85) rfl (fun c32 => ?_) (fun c32 => ?_)
          ·have h := Ap c32 h
           refine qm rfl (CE rfl (qp rfl (Ac ?_)))
           exact Aw _ h (sm [(2012, 2008)] _ _ rfl rfl)
          ·have h := Aq c32 h
           refine qn rfl (qn rfl (qp rfl (Ac ?_)))
           exact Aw _ h (sm [(2012, 2008)] _ _ rfl rfl)
         ·refine As rfl (fun c33 => ?_) (fun c33 => ?_)
          ·have h := Ap c33 h
           refine Aa Ad rfl (qm rfl (qm rfl (qm rfl (A6 GV Mw rfl (Ep F6 Fp GV rfl ?_)))))
           obtain ⟨c34, h⟩ := AO h
           refine Dx (f := A0) F6 F6 Fp Ri GV c34 rfl (qa rfl (Ac ?_))
           exact Aw _ h (sm [(2006, 94)] _ _ rfl rfl)
          ·have h := Aq c33 h
           refine Av ?_
           exact Aw _ h (sm [(2006, 2012)] _ _ rfl rfl)
      ·refine Aa Ad rfl (Bn rfl (qm rfl (Ac ?_)))
       exact Aw _ h (sm [(2004, 2006)] _ _ rfl rfl)
     ·have h := Aq c13 h
      refine A4 ?_
      exact Aw _ h (sm [(2005, 2004)] _ _ rfl rfl)
    ·refine Al hs (Aa Ad rfl (Bn rfl (qm rfl (Ac ?_))))
     exact Aw _ h (sm [(2001, 2005)] _ _ rfl rfl)
  ·have h := Aq c3 h
   refine A4 ?_
   exact Aw _ h (sm [(2002, 2001)] _ _ rfl rfl)
 ·refine Al hs (Ab (Aa Ad rfl (qm rfl (qa rfl (Ac ?_)))))
  obtain rfl := sj h
  refine Al (sm [(1000, 2002)] [(4, .e (.one (.own 1000)))] [(1000, .vec 3 (v2.map A0))] rfl rfl) (AC ?_)
  exact ⟨⟨[_], ⟨.tmp _ _ rfl, trivial⟩, rfl⟩, ⟨rfl, trivial⟩⟩
set_option maxRecDepth 10000 in
theorem Jx (N : Nat) (p0 : Ae) (p1 : Ah) (r : Ah × An × Int) (h : E7 N p0 p1 = some r) : AA Try.prog 38 [.e (.agg [.pure (.sl (p0.fVersions.map Ag)), .pure (.sl (p0.fNow.map Ag)), .pure (.sl (p0.fTarget.map Ag)), .pure (.sl (p0.fTables.map Ai))]), .e (.agg [.pure (.sl (p1.fBase.map Ag)), .pure (.sl (p1.fNext.map Ag)), .pure (.sl (p1.fHeld.map A9))])] [] (.tup [.agg [.pure (.sl (r.1.fBase.map Ag)), .pure (.sl (r.1.fNext.map Ag)), .pure (.sl (r.1.fHeld.map A9))], .agg [.pure (.val (.int .i64 r.2.1.fTable)), .pure (.val (.int .i64 r.2.1.fWriter)), .pure (.val (.int .i64 r.2.1.fReader))], .one (.pure (.val (.int .i64 r.2.2)))]) := by
 unfold E7 at h
 refine Ao (n := 42) (rs := [.cell 4 43, .cell 5 45, .tmp 6]) Try.func38 rfl rfl rfl (BF rfl) (BF rfl) rfl fun w0 S0 => ?_
 refine Ab (Aa Ad rfl (qb rfl (qb rfl (qz C7 rfl (qz GV rfl (qa rfl (Ac (Ab (Aa Ad rfl (qL Dr CX rfl (qL Bs AT rfl ?_)))))))))))
 obtain ⟨v1, a1, h⟩ := bind_some h
 refine AK [2001] (OM N p0 p1 v1 a1) Xw rfl (qm rfl (qx rfl (qx rfl (qa rfl (qa rfl (Ac (Ab (Ab (Aa Ad rfl (qm rfl (Co rfl (Ac ?_))))))))))))
 refine As rfl (fun c2 => ?_) (fun c2 => ?_)
 ·have h := Ap c2 h
  refine Ab (Aa Ad rfl (A6 C7 GD rfl (A6 GV Mw rfl (qm rfl (qs AT rfl (qs Fp rfl (qa rfl (Ac ?_))))))))
  obtain rfl := sj h
  refine Al ((Hs 4 _ rfl).trans (sm [] [(4, .e (.one (.ptr 4 0))), (5, .e (.one (.ptr 5 0))), (6, .e (.one (.pure (.val (.int .i64 v1.2)))))] [(4, .box [.pure (.sl ((([] : List Int)).map Ag)), .pure (.sl ((([] : List Int)).map Ag)), .pure (.sl ((([] : List Int)).map A9))]), (5, .box [.pure (.val (.int .i64 0)), .pure (.val (.int .i64 0)), .pure (.val (.int .i64 0))])] rfl rfl)) (AC ?_)
  exact ⟨⟨[_, _, _], ⟨.cellN _ _ _ _ _ _ _ rfl rfl Bs AT rfl rfl (Hb rfl), ⟨.cellN _ _ _ _ _ _ _ rfl rfl Lq Fp rfl rfl (Hb rfl), ⟨.tmp _ _ rfl, trivial⟩⟩⟩, rfl⟩, trivial⟩
 ·have h := Aq c2 h
  refine Av (Ab (Ab (Aa Ad rfl (qm rfl (FD Kb rfl (qm rfl (Ac ?_)))))))
  refine AR (L := Ej N p0 v1) h (fun v3 => mk [(2, .e (.one (.ptr 2 0))), (4, .e (.one (.ptr 4 0))), (5, .e (.one (.ptr 5 0))), (23, .e (.one (.own 2002))), (24, .e (.one (.pure (.val (.int .i64 ((v1.1.length : Int))))))), (25, .e (.one (.pure (.val (.int .i64 v3)))))] [(2, .box [.pure (.sl (p0.fVersions.map Ag)), .pure (.sl (p0.fNow.map Ag)), .pure (.sl (p0.fTarget.map Ag)), .pure (.sl (p0.fTables.map Ai))]), (4, .box [.pure (.nil0), .pure (.nil0), .pure (.nil0)]), (5, .box [.pure (.val (.int .i64 0)), .pure (.val (.int .i64 0)), .pure (.val (.int .i64 0))]), (2002, .vec 3 (v1.1.map Ee))]) (fun v4 => mk [(4, .e (.one (.ptr 4 0))), (5, .e (.one (.ptr 5 0)))] [(4, .box [.pure (.nil0), .pure (.nil0), .pure (.nil0)]), (5, .box [.pure (.val (.int .i64 0)), .pure (.val (.int .i64 0)), .pure (.val (.int .i64 0))])]) (fun _ _ => rfl) (sm [(2002, 2001)] _ _ rfl rfl) (fun j3 n3 v3 h => ?_) (fun v4 s h hs => ?_)
  ·unfold Ej at h
   refine Ab (Aa Ad rfl (A8 rfl (Ac (Ab ?_))))
   refine As rfl (fun c5 => ?_) (fun c5 => ?_)
   ·have h := Ap c5 h
    refine Av (Ab (AU (Ab (Aa Ad rfl ?_))))
    obtain ⟨v6, a6, b6, h⟩ := Am h
    refine qI Kb AT a6 (Aj b6) rfl (qJ Bs AT (Aj b6) rfl (qz C7 rfl (qs AT rfl (Ac (Ab (Aa Ad rfl (qL Dr CX rfl (qL Bs AT rfl ?_))))))))
    obtain ⟨v7, a7, h⟩ := bind_some h
    refine AK [2003] (L5 N p0 v6 v7 a7) XT rfl (qa rfl (Ac (Ab (Aa Ad rfl (qm rfl (FD F6 rfl (Ge rfl (Ac ?_))))))))
    refine As rfl (fun c8 => ?_) (fun c8 => ?_)
    ·have h := Ap c8 h
     refine Ab (Aa Ad rfl (qL Bs AT rfl (qm rfl ?_)))
     obtain ⟨v9, a9, b9, h⟩ := Am h
     refine qI F6 Fp a9 (Aj b9) rfl (qJ Lq Fp (Aj b9) rfl (qs AT rfl (qs Fp rfl (qa rfl (AY (by kernel_rfl) ?_)))))
     obtain rfl := sj h
     refine Al (sm [] [(4, .e (.one (.ptr 4 0))), (5, .e (.one (.ptr 5 0))), (6, .e (.one (.pure (.val (.int .i64 0)))))] [(4, .box [.pure (.sl (v6.fBase.map Ag)), .pure (.sl (v6.fNext.map Ag)), .pure (.sl (v6.fHeld.map A9))]), (5, .box [.pure (.val (.int .i64 v9.fTable)), .pure (.val (.int .i64 v9.fWriter)), .pure (.val (.int .i64 v9.fReader))])] rfl rfl) (AC ?_)
     exact ⟨⟨[_, _, _], ⟨.cellN _ _ _ _ _ _ _ rfl rfl Bs AT rfl rfl (Hb rfl), ⟨.cellN _ _ _ _ _ _ _ rfl rfl Lq Fp rfl rfl (Hb rfl), ⟨.tmp _ _ rfl, trivial⟩⟩⟩, rfl⟩, trivial⟩
    ·have h := Aq c8 h
     refine Av (Aa Ad rfl (Bn rfl (qm rfl (Ac ?_))))
     exact Aw _ h (sm [] _ _ rfl rfl)
   ·have h := Aq c5 h
    refine A4 ?_
    exact Aw _ h (sm [] _ _ rfl rfl)
  ·refine Al hs (Ab (Aa Ad rfl (A6 C7 GD rfl (A6 GV Mw rfl (qs AT rfl (qs Fp rfl (qa rfl (Ac ?_))))))))
   obtain rfl := sj h
   refine Al ((Hs 4 _ rfl).trans (sm [] [(4, .e (.one (.ptr 4 0))), (5, .e (.one (.ptr 5 0))), (6, .e (.one (.pure (.val (.int .i64 15)))))] [(4, .box [.pure (.sl ((([] : List Int)).map Ag)), .pure (.sl ((([] : List Int)).map Ag)), .pure (.sl ((([] : List Int)).map A9))]), (5, .box [.pure (.val (.int .i64 0)), .pure (.val (.int .i64 0)), .pure (.val (.int .i64 0))])] rfl rfl)) (AC ?_)
   exact ⟨⟨[_, _, _], ⟨.cellN _ _ _ _ _ _ _ rfl rfl Bs AT rfl rfl (Hb rfl), ⟨.cellN _ _ _ _ _ _ _ rfl rfl Lq Fp rfl rfl (Hb rfl), ⟨.tmp _ _ rfl, trivial⟩⟩⟩, rfl⟩, trivial⟩
set_option maxRecDepth 10000 in
theorem KR (N : Nat) (p0 : Ae) (p1 : Ah) (r : Bool × Int) (h : Fg N p0 p1 = some r) : AA Try.prog 54 [.e (.agg [.pure (.sl (p0.fVersions.map Ag)), .pure (.sl (p0.fNow.map Ag)), .pure (.sl (p0.fTarget.map Ag)), .pure (.sl (p0.fTables.map Ai))]), .e (.agg [.pure (.sl (p1.fBase.map Ag)), .pure (.sl (p1.fNext.map Ag)), .pure (.sl (p1.fHeld.map A9))])] [] (.tup [.one (.pure (.val (.bool r.1))), .one (.pure (.val (.int .i64 r.2)))]) := by
 unfold Fg at h
 refine Ao (n := 22) (rs := [.tmp 4, .tmp 5]) Try.func54 rfl rfl rfl (BF rfl) (BF rfl) rfl fun w0 S0 => ?_
 refine Ab (Aa Ad rfl (qb rfl (qb rfl (qa rfl (qa rfl (Ac (Ab (Aa Ad rfl (qL Dr CX rfl (qL Bs AT rfl ?_))))))))))
 obtain ⟨v1, a1, h⟩ := bind_some h
 refine AK [] (Jx N p0 p1 v1 a1) VP rfl (qm rfl (qx rfl (qx rfl (qx rfl (qz C7 rfl (qz GV rfl (qs AT rfl (qs Fp rfl (qa rfl (Ac (Ab (Aa Ad rfl (qm rfl (Ac (AU (Ab (Aa Ad rfl (B6 rfl (qa rfl (Ac ?_))))))))))))))))))))
 refine As rfl (fun c2 => ?_) (fun c2 => ?_)
 ·have h := Ap c2 h
  refine Ab (Aa Ad rfl (qa rfl (qa rfl (Ac ?_))))
  obtain rfl := sj h
  refine Al (sm [] [(4, .e (.one (.pure (.val (.bool false))))), (5, .e (.one (.pure (.val (.int .i64 0)))))] [] rfl rfl) (AC ?_)
  exact ⟨⟨[_, _], ⟨.tmp _ _ rfl, ⟨.tmp _ _ rfl, trivial⟩⟩, rfl⟩, trivial⟩
 ·have h := Aq c2 h
  refine Ab (Aa Ad rfl (B6 rfl (qa rfl (Ac ?_))))
  refine As rfl (fun c3 => ?_) (fun c3 => ?_)
  ·have h := Ap c3 h
   refine Ab (Aa Ad rfl (qa rfl (qa rfl (Ac ?_))))
   obtain rfl := sj h
   refine Al (sm [] [(4, .e (.one (.pure (.val (.bool true))))), (5, .e (.one (.pure (.val (.int .i64 0)))))] [] rfl rfl) (AC ?_)
   exact ⟨⟨[_, _], ⟨.tmp _ _ rfl, ⟨.tmp _ _ rfl, trivial⟩⟩, rfl⟩, trivial⟩
  ·have h := Aq c3 h
   refine Ab (Aa Ad rfl (qm rfl (qa rfl (qa rfl (Ac ?_)))))
   obtain rfl := sj h
   refine Al (sm [] [(4, .e (.one (.pure (.val (.bool false))))), (5, .e (.one (.pure (.val (.int .i64 v1.2.2)))))] [] rfl rfl) (AC ?_)
   exact ⟨⟨[_, _], ⟨.tmp _ _ rfl, ⟨.tmp _ _ rfl, trivial⟩⟩, rfl⟩, trivial⟩
set_option maxRecDepth 10000 in
theorem MH (N : Nat) (p0 : Ah) (r : ByteArray) (h : Gf N p0 = some r) : AA Try.prog 86 [.e (.agg [.pure (.sl (p0.fBase.map Ag)), .pure (.sl (p0.fNext.map Ag)), .pure (.sl (p0.fHeld.map A9))])] [] (.e (.one (.pure (.val (.string r))))) := by
 unfold Gf at h
 refine Ao (n := 53) (rs := [.tmp 2]) Try.func86 rfl rfl rfl (BF rfl) (BF rfl) rfl fun w0 S0 => ?_
 refine Ab (Aa Ad rfl (qb rfl (qa rfl (Ac (Ab (Aa Ad rfl (qf CB rfl (ql A7 rfl (AS AG rfl (KA rfl (qf Cz rfl (ql Gl rfl (AS Dm rfl (Bn rfl ?_))))))))))))))
 obtain ⟨c1, h⟩ := AO h
 refine Je (.p rfl) rfl rfl rfl I2 Vw Vy (BF rfl) W0 rfl rfl rfl c1.1 c1.2.1 c1.2.2 (Or A9 _ ((0 : Int))) ?_
 refine qa rfl (Ac (Ab (Ab (Aa Ad rfl (qf CB rfl (ql A7 rfl (AS AG rfl (qm rfl (Ac ?_)))))))))
 refine AR (L := D9 N p0) h (fun v2 => mk [(1, .e (.one (.ptr 1 0))), (3, .e (.one (.own 2001))), (18, .e (.one (.pure (.val (.int .i64 ((p0.fBase.length : Int))))))), (19, .e (.one (.pure (.val (.int .i64 v2.2)))))] [(1, .box [.pure (.sl (p0.fBase.map Ag)), .pure (.sl (p0.fNext.map Ag)), .pure (.sl (p0.fHeld.map A9))]), (2001, .vec 1 (v2.1.map A9))]) (fun v3 => mk [(1, .e (.one (.ptr 1 0))), (3, .e (.one (.own 2002)))] [(1, .box [.pure (.sl (p0.fBase.map Ag)), .pure (.sl (p0.fNext.map Ag)), .pure (.sl (p0.fHeld.map A9))]), (2002, .vec 1 (v3.map A9))]) (fun _ _ => rfl) (sm [(2001, 15)] _ _ rfl rfl) (fun j2 n2 v2 h => ?_) (fun v3 s h hs => ?_)
 ·unfold D9 at h
  refine Ab (Aa Ad rfl (A8 rfl (Ac (Ab ?_))))
  refine As rfl (fun c4 => ?_) (fun c4 => ?_)
  ·have h := Ap c4 h
   refine Av (Ab (AU (Ab (Aa Ad rfl (qm rfl (qa rfl (Ac (Aa Ad rfl (qm rfl (qf CB rfl (ql A7 rfl (qm rfl ?_))))))))))))
   obtain ⟨v5, a5, b5, h⟩ := Am h
   refine qi AG Dc a5 (Aj b5) rfl (qk B9 rfl (It Xi Yb rfl (qf Bz rfl (ql A7 rfl (qm rfl ?_)))))
   obtain ⟨v6, a6, b6, h⟩ := Am h
   refine qi AG Dc a6 (Aj b6) rfl (qk B9 rfl (Bn rfl (It Xi Yb rfl (Ep I2 Vw W0 rfl ?_))))
   obtain ⟨c7, h⟩ := AO h
   refine Dx (f := A9) I2 I2 Vw Vy W0 c7 rfl (qa rfl (AY (by kernel_rfl) (Aa Ad rfl (Bn rfl (qm rfl (Ac ?_))))))
   exact Aw _ h (sm [(2001, 37)] _ _ rfl rfl)
  ·have h := Aq c4 h
   refine A4 ?_
   exact Aw _ h (sm [(2002, 2001)] _ _ rfl rfl)
 ·refine Al hs (Ab (Ab (Aa Ad rfl (qf Cz rfl (ql Gl rfl (AS Dm rfl (qm rfl (Ac ?_))))))))
  refine AR (L := Dg N p0) h (fun v8 => mk [(3, .e (.one (.own 2003))), (40, .e (.one (.pure (.sl (p0.fHeld.map A9))))), (41, .e (.one (.pure (.val (.int .i64 ((p0.fHeld.length : Int))))))), (42, .e (.one (.pure (.val (.int .i64 v8.2)))))] [(2003, .vec 1 (v8.1.map A9))]) (fun v9 => mk [(3, .e (.one (.own 2004)))] [(2004, .vec 1 (v9.map A9))]) (fun _ _ => rfl) (sm [(2003, 2002)] _ _ rfl rfl) (fun j8 n8 v8 h => ?_) (fun v9 s h hs => ?_)
  ·unfold Dg at h
   refine Ab (Aa Ad rfl (A8 rfl (Ac (Ab ?_))))
   refine As rfl (fun c10 => ?_) (fun c10 => ?_)
   ·have h := Ap c10 h
    refine Av (Ab (AU (Ab (Aa Ad rfl ?_))))
    obtain ⟨v11, a11, b11, h⟩ := Am h
    refine qi Dm Fq a11 (Aj b11) rfl (qk Jg rfl (qa rfl (Ac (Aa Ad rfl (qm rfl (qm rfl (Ep I2 Vw W0 rfl ?_)))))))
    obtain ⟨c12, h⟩ := AO h
    refine Dx (f := A9) I2 I2 Vw Vy W0 c12 rfl (qa rfl (Ac (Aa Ad rfl (Bn rfl (qm rfl (Ac ?_))))))
    exact Aw _ h (sm [(2003, 49)] _ _ rfl rfl)
   ·have h := Aq c10 h
    refine A4 ?_
    exact Aw _ h (sm [(2004, 2003)] _ _ rfl rfl)
  ·refine Al hs (Ab (Aa Ad rfl (qm rfl ?_)))
   refine SK v9 (.p rfl) rfl (Sr A9 _ _ _) ⟨rfl, trivial⟩ rfl Wz Wm ?_
   refine qa rfl (Ac ?_)
   obtain rfl := sj h
   refine Al (sm [] [(2, .e (.one (.pure (.val (.string ((Cp v9)))))))] [] rfl rfl) (AC ?_)
   exact ⟨⟨[_], ⟨.tmp _ _ rfl, trivial⟩, rfl⟩, trivial⟩
set_option maxRecDepth 10000 in
theorem Qo (N : Nat) (p0 : Ae) (r : (List Af)) (h : GU N p0 = some r) : AA Try.prog 104 [.e (.agg [.pure (.sl (p0.fVersions.map Ag)), .pure (.sl (p0.fNow.map Ag)), .pure (.sl (p0.fTarget.map Ag)), .pure (.sl (p0.fTables.map Ai))])] [(3, r.map Ax)] (.e (.one (.own 0))) := by
 unfold GU at h
 refine Ao (n := 54) (rs := [.tmp 2]) Try.func104 rfl rfl rfl (BF rfl) (BF rfl) rfl fun w0 S0 => ?_
 refine Ab (Aa Ad rfl (qb rfl (qa rfl (Ac (Ab (Aa Ad rfl (qa rfl (Ac (Ab (Ab (Aa Ad rfl (qf Br rfl (ql A7 rfl (AS AG rfl (qm rfl (Ac ?_))))))))))))))))
 refine AR (L := CR N p0) h (fun v1 => mk [(1, .e (.one (.ptr 1 0))), (3, .e (.one (.own 2001))), (10, .e (.one (.pure (.sl (p0.fVersions.map Ag))))), (11, .e (.one (.pure (.val (.int .i64 ((p0.fVersions.length : Int))))))), (12, .e (.one (.pure (.val (.int .i64 v1.2)))))] [(1, .box [.pure (.sl (p0.fVersions.map Ag)), .pure (.sl (p0.fNow.map Ag)), .pure (.sl (p0.fTarget.map Ag)), .pure (.sl (p0.fTables.map Ai))]), (2001, .vec 3 (v1.1.map Ax))]) (fun v2 => mk [(1, .e (.one (.ptr 1 0))), (3, .e (.one (.own 2002)))] [(1, .box [.pure (.sl (p0.fVersions.map Ag)), .pure (.sl (p0.fNow.map Ag)), .pure (.sl (p0.fTarget.map Ag)), .pure (.sl (p0.fTables.map Ai))]), (2002, .vec 3 (v2.map Ax))]) (fun _ _ => rfl) ((By 3 2005 3 rfl rfl rfl).trans (sm [(2001, 2005)] _ _ rfl rfl)) (fun j1 n1 v1 h => ?_) (fun v2 s h hs => ?_)
 ·unfold CR at h
  refine Ab (Aa Ad rfl (A8 rfl (Ac (Ab ?_))))
  refine As rfl (fun c3 => ?_) (fun c3 => ?_)
  ·have h := Ap c3 h
   refine Av (Ab (AU (Ab (Aa Ad rfl (qm rfl ?_)))))
   obtain ⟨v4, a4, b4, h⟩ := Am h
   refine qi AG Dc a4 (Aj b4) rfl (qk B9 rfl (qa rfl (qa rfl (Ac (Ab (Aa Ad rfl (qm rfl (qm rfl (Ac ?_)))))))))
   refine AR (L := Eb N v1 v4) h (fun v5 => mk [(1, .e (.one (.ptr 1 0))), (3, .e (.one (.own 2003))), (4, .e (.one (.pure (.val (.int .i64 v1.2))))), (10, .e (.one (.pure (.sl (p0.fVersions.map Ag))))), (11, .e (.one (.pure (.val (.int .i64 ((p0.fVersions.length : Int))))))), (12, .e (.one (.pure (.val (.int .i64 v1.2))))), (17, .e (.one (.pure (.val (.int .i64 v4))))), (18, .e (.one (.pure (.val (.int .i64 v5.2)))))] [(1, .box [.pure (.sl (p0.fVersions.map Ag)), .pure (.sl (p0.fNow.map Ag)), .pure (.sl (p0.fTarget.map Ag)), .pure (.sl (p0.fTables.map Ai))]), (2003, .vec 3 (v5.1.map Ax))]) (fun v6 => mk [(1, .e (.one (.ptr 1 0))), (3, .e (.one (.own 2004))), (10, .e (.one (.pure (.sl (p0.fVersions.map Ag))))), (11, .e (.one (.pure (.val (.int .i64 ((p0.fVersions.length : Int))))))), (12, .e (.one (.pure (.val (.int .i64 v1.2)))))] [(1, .box [.pure (.sl (p0.fVersions.map Ag)), .pure (.sl (p0.fNow.map Ag)), .pure (.sl (p0.fTarget.map Ag)), .pure (.sl (p0.fTables.map Ai))]), (2004, .vec 3 (v6.map Ax))]) (fun _ _ => rfl) (sm [(2003, 2001)] _ _ rfl rfl) (fun j5 n5 v5 h => ?_) (fun v6 s h hs => ?_)
   ·unfold Eb at h
    refine Ab (Aa Ad rfl (A8 rfl (Ac (Ab ?_))))
    refine As rfl (fun c7 => ?_) (fun c7 => ?_)
    ·have h := Ap c7 h
     refine Av (Ab (AU (Ab (Aa Ad rfl (qm rfl (qa rfl (Ac (Aa Ad rfl (qm rfl (qm rfl (qm rfl (A6 GC OC rfl (Ep CT Dh GC rfl ?_)))))))))))))
     obtain ⟨c8, h⟩ := AO h
     refine Dx (f := Ax) CT CT Dh NZ GC c8 rfl (qa rfl (Ac (Aa Ad rfl (Bn rfl (qm rfl (Ac ?_))))))
     exact Aw _ h (sm [(2003, 26)] _ _ rfl rfl)
    ·have h := Aq c7 h
     refine A4 ?_
     exact Aw _ h (sm [(2004, 2003)] _ _ rfl rfl)
   ·refine Al hs (Aa Ad rfl (Bn rfl (qm rfl (Ac ?_))))
    exact Aw _ h (sm [(2001, 2004)] _ _ rfl rfl)
  ·have h := Aq c3 h
   refine A4 ?_
   exact Aw _ h (sm [(2002, 2001)] _ _ rfl rfl)
 ·refine Al hs (Ab (Ab (Aa Ad rfl (qf Br rfl (ql A7 rfl (AS AG rfl (qm rfl (Ac ?_))))))))
  refine AR (L := Cb N p0) h (fun v9 => mk [(1, .e (.one (.ptr 1 0))), (3, .e (.one (.own 2006))), (31, .e (.one (.pure (.val (.int .i64 ((p0.fVersions.length : Int))))))), (32, .e (.one (.pure (.val (.int .i64 v9.2)))))] [(1, .box [.pure (.sl (p0.fVersions.map Ag)), .pure (.sl (p0.fNow.map Ag)), .pure (.sl (p0.fTarget.map Ag)), .pure (.sl (p0.fTables.map Ai))]), (2006, .vec 3 (v9.1.map Ax))]) (fun v10 => mk [(1, .e (.one (.ptr 1 0))), (3, .e (.one (.own 2007)))] [(1, .box [.pure (.sl (p0.fVersions.map Ag)), .pure (.sl (p0.fNow.map Ag)), .pure (.sl (p0.fTarget.map Ag)), .pure (.sl (p0.fTables.map Ai))]), (2007, .vec 3 (v10.map Ax))]) (fun _ _ => rfl) (sm [(2006, 2002)] _ _ rfl rfl) (fun j9 n9 v9 h => ?_) (fun v10 s h hs => ?_)
  ·unfold Cb at h
   refine Ab (Aa Ad rfl (A8 rfl (Ac (Ab ?_))))
   refine As rfl (fun c11 => ?_) (fun c11 => ?_)
   ·have h := Ap c11 h
    refine Av (Ab (AU (Ab (Aa Ad rfl (qm rfl (qa rfl (Ac (Aa Ad rfl (qm rfl (qm rfl (A6 GC OC rfl (Ep CT Dh GC rfl ?_))))))))))))
    obtain ⟨c12, h⟩ := AO h
    refine Dx (f := Ax) CT CT Dh NZ GC c12 rfl (qa rfl (Ac (Aa Ad rfl (Bn rfl (qm rfl (Ac ?_))))))
    exact Aw _ h (sm [(2006, 39)] _ _ rfl rfl)
   ·have h := Aq c11 h
    refine A4 ?_
    exact Aw _ h (sm [(2007, 2006)] _ _ rfl rfl)
  ·refine Al hs (Ab (Ab (Aa Ad rfl (qf CF rfl (ql Gq rfl (AS DO rfl (qm rfl (Ac ?_))))))))
   refine AR (L := Bo N p0) h (fun v13 => mk [(3, .e (.one (.own 2008))), (43, .e (.one (.pure (.val (.int .i64 ((p0.fTables.length : Int))))))), (44, .e (.one (.pure (.val (.int .i64 v13.2)))))] [(2008, .vec 3 (v13.1.map Ax))]) (fun v14 => mk [(3, .e (.one (.own 2009)))] [(2009, .vec 3 (v14.map Ax))]) (fun _ _ => rfl) (sm [(2008, 2007)] _ _ rfl rfl) (fun j13 n13 v13 h => ?_) (fun v14 s h hs => ?_)
   ·unfold Bo at h
    refine Ab (Aa Ad rfl (A8 rfl (Ac (Ab ?_))))
    refine As rfl (fun c15 => ?_) (fun c15 => ?_)
    ·have h := Ap c15 h
     refine Av (Ab (AU (Ab (Aa Ad rfl (qm rfl (qa rfl (Ac (Aa Ad rfl (qm rfl (qm rfl (A6 GC OC rfl (Ep CT Dh GC rfl ?_))))))))))))
     obtain ⟨c16, h⟩ := AO h
     refine Dx (f := Ax) CT CT Dh NZ GC c16 rfl (qa rfl (Ac (Aa Ad rfl (Bn rfl (qm rfl (Ac ?_))))))
     exact Aw _ h (sm [(2008, 51)] _ _ rfl rfl)
    ·have h := Aq c15 h
     refine A4 ?_
     exact Aw _ h (sm [(2009, 2008)] _ _ rfl rfl)
   ·refine Al hs (Ab (Aa Ad rfl (qm rfl (qa rfl (Ac ?_)))))
    obtain rfl := sj h
    refine Al (sm [(1000, 2009)] [(2, .e (.one (.own 1000)))] [(1000, .vec 3 (v14.map Ax))] rfl rfl) (AC ?_)
    exact ⟨⟨[_], ⟨.tmp _ _ rfl, trivial⟩, rfl⟩, ⟨rfl, trivial⟩⟩
set_option maxRecDepth 10000 in
theorem Ns (N : Nat) (p0 : Ah) (r : Ah) (h : FC N p0 = some r) : AA Try.prog 93 [.e (.agg [.pure (.sl (p0.fBase.map Ag)), .pure (.sl (p0.fNext.map Ag)), .pure (.sl (p0.fHeld.map A9))])] [(1, r.fBase.map Ag), (1, r.fNext.map Ag), (1, r.fHeld.map A9)] (.e (.agg [.own 0, .own 1, .own 2])) := by
 unfold FC at h
 refine Ao (n := 13) (rs := [.cell 2 43]) Try.func93 rfl rfl rfl (BF rfl) (BF rfl) rfl fun w0 S0 => ?_
 refine Ab (Aa Ad rfl (qb rfl (qz C7 rfl (Ac (Ab (Aa Ad rfl (qf CB rfl (ql A7 rfl ?_))))))))
 obtain ⟨v1, a1, h⟩ := bind_some h
 refine AK [2001] (Dy N p0.fBase v1 a1) SA rfl (qf Bz rfl (ql A7 rfl ?_))
 obtain ⟨v2, a2, h⟩ := bind_some h
 refine AK [2002] (Dy N p0.fNext v2 a2) SA rfl (qf Cz rfl (ql Gl rfl ?_))
 obtain ⟨v3, a3, h⟩ := bind_some h
 refine AK [2003] (ET N p0.fHeld v3 a3) Ww rfl (A6 C7 GD rfl (qs AT rfl (AY (by kernel_rfl) ?_)))
 obtain rfl := sj h
 refine Al (sm [(1000, 2001), (1001, 2002), (1002, 2003)] [(2, .e (.one (.ptr 2 0)))] [(2, .box [.own 1000, .own 1001, .own 1002]), (1000, .vec 1 (v1.map Ag)), (1001, .vec 1 (v2.map Ag)), (1002, .vec 1 (v3.map A9))] rfl rfl) (AC ?_)
 exact ⟨⟨[_], ⟨.cellN _ _ _ _ _ _ _ rfl rfl Bs AT rfl rfl (Hb rfl), trivial⟩, rfl⟩, ⟨rfl, rfl, rfl, trivial⟩⟩
set_option maxRecDepth 10000 in
theorem J5 (N : Nat) (p0 : AF) (r : Bool) (h : EW N p0 = some r) : AA Try.prog 119 [.e (.agg [.pure (.val (.int .i64 p0.fKind)), .pure (.val (.int .i64 p0.fFrom)), .pure (.val (.int .i64 p0.fTo)), .pure (.val (.bool p0.fAware)), .pure (.sl (p0.fOK.map (Et eB))), .pure (.sl (p0.fRewrite.map (Et eB)))])] [] (.e (.one (.pure (.val (.bool r))))) := by
 unfold EW at h
 refine Ao (n := 11) (rs := [.tmp 2]) Try.func119 rfl rfl rfl (BF rfl) (BF rfl) rfl fun w0 S0 => ?_
 refine Ab (Aa Ad rfl (qb rfl (qa rfl (Ac ?_))))
 refine AX h (fun v1 => mk [(2, .e (.one (.pure (.val (.bool v1)))))] []) (fun j1 h => ?_) (fun v1 h => ?_)
 ·refine Aa Ad rfl (qf Fl rfl (ql B9 rfl (B6 rfl (qm rfl ?_))))
  refine AI (t := 6) rfl (fun c2 => ?_) (fun c2 => ?_)
  ·have h := Ap c2 h
   refine qn rfl (qn rfl (qn rfl (qp rfl (qa rfl (Ac ?_)))))
   exact Aw _ h (sm [] _ _ rfl rfl)
  ·have h := Aq c2 h
   refine qf Fl rfl (ql B9 rfl (B6 rfl (qp rfl (qa rfl (Ac ?_)))))
   exact Aw _ h (sm [] _ _ rfl rfl)
 ·obtain rfl := sj h
  refine Al (sm [] [(2, .e (.one (.pure (.val (.bool v1)))))] [] rfl rfl) (AC ?_)
  exact ⟨⟨[_], ⟨.tmp _ _ rfl, trivial⟩, rfl⟩, trivial⟩
set_option maxRecDepth 10000 in
theorem OB (N : Nat) (p0 : Ae) (p1 : Ah) (p2 : Af) (r : Bool × (List Int) × (List Int)) (h : GT N p0 p1 p2 = some r) : FH Try.prog 112 [.e (.agg [.pure (.sl (p0.fVersions.map Ag)), .pure (.sl (p0.fNow.map Ag)), .pure (.sl (p0.fTarget.map Ag)), .pure (.sl (p0.fTables.map Ai))]), .e (.one (.ptr 90000 0)), .e (.agg [.pure (.val (.int .i64 p2.fKind)), .pure (.val (.int .i64 p2.fIndex)), .pure (.val (.int .i64 p2.fVersion))])] [(.box [.own 90001, .own 90002, .own 90003], .box [.own 90001, .own 90002, .own 90003]), (.vec 1 (p1.fBase.map Ag), .vec 1 (p1.fBase.map Ag)), (.vec 1 (p1.fNext.map Ag), .vec 1 (r.2.1.map Ag)), (.vec 1 (p1.fHeld.map A9), .vec 1 (r.2.2.map A9))] [] (.e (.one (.pure (.val (.bool r.1))))) := by
 unfold GT at h
 refine Gw (n := 70) (rs := [.tmp 6]) Try.func112 rfl rfl rfl (BF rfl) (BF rfl) rfl rfl (BF rfl) rfl (BF rfl) fun w0 S0 GL => ?_
 refine Al (sm [] [(0, .e (.agg [.pure (.sl (p0.fVersions.map Ag)), .pure (.sl (p0.fNow.map Ag)), .pure (.sl (p0.fTarget.map Ag)), .pure (.sl (p0.fTables.map Ai))])), (1, .e (.one (.ptr 90000 0))), (2, .e (.agg [.pure (.val (.int .i64 p2.fKind)), .pure (.val (.int .i64 p2.fIndex)), .pure (.val (.int .i64 p2.fVersion))]))] [(90000, .box [.own 90001, .own 90002, .own 90003]), (90001, .vec 1 (p1.fBase.map Ag)), (90002, .vec 1 (p1.fNext.map Ag)), (90003, .vec 1 (p1.fHeld.map A9))] rfl rfl) (Ab (Aa Ad rfl (qb rfl (qb rfl (qa rfl (Ac (Ab ?_)))))))
 refine AX h (fun v1 => mk [(1, .e (.one (.ptr 90000 0))), (3, .e (.one (.ptr 3 0))), (5, .e (.one (.ptr 5 0))), (30, .e (.one (.pure (.val (.bool v1)))))] [(3, .box [.pure (.sl (p0.fVersions.map Ag)), .pure (.sl (p0.fNow.map Ag)), .pure (.sl (p0.fTarget.map Ag)), .pure (.sl (p0.fTables.map Ai))]), (5, .box [.pure (.val (.int .i64 p2.fKind)), .pure (.val (.int .i64 p2.fIndex)), .pure (.val (.int .i64 p2.fVersion))]), (90000, .box [.own 90001, .own 90002, .own 90003]), (90001, .vec 1 (p1.fBase.map Ag)), (90002, .vec 1 (p1.fNext.map Ag)), (90003, .vec 1 (p1.fHeld.map A9))]) (fun j1 h => ?_) (fun v1 h => ?_)
 ·refine Aa Ad rfl (qm rfl (TY rfl (qf Bz rfl (ql A7 rfl (qf Ew rfl (ql B9 rfl ?_))))))
  obtain ⟨v2, a2, b2, h⟩ := Am h
  refine qI AG Dc a2 (Aj b2) rfl (qj B9 (Aj b2) rfl (Ez rfl (qm rfl ?_)))
  refine AI (t := 18) rfl (fun c3 => ?_) (fun c3 => ?_)
  ·have h := Ap c3 h
   refine qn rfl (qn rfl (qn rfl (qn rfl (qn rfl (qn rfl (qn rfl (qn rfl (qn rfl (qn rfl (qn rfl (qp rfl (AY (by kernel_rfl) ?_))))))))))))
   exact Aw _ h (sm [] _ _ rfl rfl)
  ·have h := Aq c3 h
   refine qm rfl (TY rfl (qf CB rfl (ql A7 rfl (qf Ew rfl (ql B9 rfl ?_)))))
   obtain ⟨v4, a4, b4, h⟩ := Am h
   refine qI AG Dc a4 (Aj b4) rfl (qj B9 (Aj b4) rfl (qf F3 rfl (ql B9 rfl (B6 rfl (qp rfl (AY (by kernel_rfl) ?_))))))
   exact Aw _ h (sm [] _ _ rfl rfl)
 ·refine As rfl (fun c5 => ?_) (fun c5 => ?_)
  ·have h := Ap c5 h
   refine Ab (Aa Ad rfl (qa rfl (Ac ?_)))
   obtain rfl := sj h
   refine Al (sm [] [(6, .e (.one (.pure (.val (.bool false)))))] [(90000, .box [.own 90001, .own 90002, .own 90003]), (90001, .vec 1 (p1.fBase.map Ag)), (90002, .vec 1 (p1.fNext.map Ag)), (90003, .vec 1 (p1.fHeld.map A9))] rfl rfl) (AC ?_)
   exact ⟨⟨[_], ⟨.tmp _ _ rfl, trivial⟩, rfl⟩, ⟨rfl, rfl, rfl, rfl, trivial⟩, trivial⟩
  ·have h := Aq c5 h
   refine Av (Ab (Aa Ad rfl (qm rfl (TY rfl (qf Bz rfl (ql A7 rfl (qf Ew rfl (ql B9 rfl (qf F3 rfl (ql B9 rfl ?_))))))))))
   obtain ⟨v6, a6, b6, h⟩ := Am h
   refine qI AG Dc a6 (Aj b6) rfl ?_
   refine D8 rfl rfl rfl rfl (Aj b6) rfl Dc rfl (BF rfl) (DL Ag p1.fNext _ p2.fVersion) ?_
   refine AY (by kernel_rfl) (Ab (Ab (Aa Ad rfl (qf CF rfl (ql Gq rfl (AS DO rfl (qm rfl (Ac ?_))))))))
   refine AR (L := Dl N p0 p2) h (fun v7 => mk [(1, .e (.one (.ptr 90000 0))), (5, .e (.one (.ptr 5 0))), (41, .e (.one (.pure (.sl (p0.fTables.map Ai))))), (42, .e (.one (.pure (.val (.int .i64 ((p0.fTables.length : Int))))))), (43, .e (.one (.pure (.val (.int .i64 v7.2)))))] [(5, .box [.pure (.val (.int .i64 p2.fKind)), .pure (.val (.int .i64 p2.fIndex)), .pure (.val (.int .i64 p2.fVersion))]), (90000, .box [.own 90001, .own 90002, .own 90003]), (90001, .vec 1 (p1.fBase.map Ag)), (90002, .vec 1 ((p1.fNext.set ((p2.fIndex).toNat) p2.fVersion).map Ag)), (90003, .vec 1 (v7.1.map A9))]) (fun v8 => mk [] [(90000, .box [.own 90001, .own 90002, .own 90003]), (90001, .vec 1 (p1.fBase.map Ag)), (90002, .vec 1 ((p1.fNext.set ((p2.fIndex).toNat) p2.fVersion).map Ag)), (90003, .vec 1 (v8.map A9))]) (fun _ _ => rfl) (sm [] _ _ rfl rfl) (fun j7 n7 v7 h => ?_) (fun v8 s h hs => ?_)
   ·unfold Dl at h
    refine Ab (Aa Ad rfl (A8 rfl (Ac (Ab ?_))))
    refine As rfl (fun c9 => ?_) (fun c9 => ?_)
    ·have h := Ap c9 h
     refine Av ?_
     refine AX h (fun v10 => mk [(1, .e (.one (.ptr 90000 0))), (5, .e (.one (.ptr 5 0))), (41, .e (.one (.pure (.sl (p0.fTables.map Ai))))), (42, .e (.one (.pure (.val (.int .i64 ((p0.fTables.length : Int))))))), (43, .e (.one (.pure (.val (.int .i64 v7.2)))))] [(5, .box [.pure (.val (.int .i64 p2.fKind)), .pure (.val (.int .i64 p2.fIndex)), .pure (.val (.int .i64 p2.fVersion))]), (90000, .box [.own 90001, .own 90002, .own 90003]), (90001, .vec 1 (p1.fBase.map Ag)), (90002, .vec 1 ((p1.fNext.set ((p2.fIndex).toNat) p2.fVersion).map Ag)), (90003, .vec 1 (v10.map A9))]) (fun j10 h => ?_) (fun v10 h => ?_)
     ·refine AU (Ab (Aa Ad rfl (qm rfl ?_)))
      obtain ⟨v11, a11, b11, h⟩ := Am h
      refine qi DO DP a11 (Aj b11) rfl (qK GB DP rfl (qz JR rfl (qa rfl (qs DP rfl (Ac ?_)))))
      refine AX h (fun v12 => mk [(1, .e (.one (.ptr 90000 0))), (5, .e (.one (.ptr 5 0))), (7, .e (.one (.pure (.val (.int .i64 v7.2))))), (41, .e (.one (.pure (.sl (p0.fTables.map Ai))))), (42, .e (.one (.pure (.val (.int .i64 ((p0.fTables.length : Int))))))), (43, .e (.one (.pure (.val (.int .i64 v7.2))))), (56, .e (.one (.pure (.val (.bool v12)))))] [(5, .box [.pure (.val (.int .i64 p2.fKind)), .pure (.val (.int .i64 p2.fIndex)), .pure (.val (.int .i64 p2.fVersion))]), (90000, .box [.own 90001, .own 90002, .own 90003]), (90001, .vec 1 (p1.fBase.map Ag)), (90002, .vec 1 ((p1.fNext.set ((p2.fIndex).toNat) p2.fVersion).map Ag)), (90003, .vec 1 (v7.1.map A9))]) (fun j12 h => ?_) (fun v12 h => ?_)
      ·refine Aa Ad rfl (qf CV rfl (ql B9 rfl (qf Ew rfl (ql B9 rfl (B6 rfl (qm rfl ?_))))))
       refine AI (t := 53) rfl (fun c13 => ?_) (fun c13 => ?_)
       ·have h := Ap c13 h
        refine qL GB DP rfl ?_
        obtain ⟨v14, a14, h⟩ := bind_some h
        refine AK [] (J5 N v11 v14 a14) UX rfl (qp rfl (Ac ?_))
        exact Aw _ h (sm [] _ _ rfl rfl)
       ·have h := Aq c13 h
        refine qn rfl (qn rfl (qp rfl (Ac ?_)))
        exact Aw _ h (sm [] _ _ rfl rfl)
      ·refine As rfl (fun c15 => ?_) (fun c15 => ?_)
       ·have h := Ap c15 h
        refine Aa Ad rfl (qm rfl (TY rfl (qf Cz rfl (ql Gl rfl (qm rfl ?_)))))
        obtain ⟨v16, a16, b16, h⟩ := Am h
        refine qI Dm Fq a16 (Aj b16) rfl (qj Jg (Aj b16) rfl (qf F3 rfl (ql B9 rfl ?_)))
        obtain ⟨c17, h⟩ := AO h
        refine H3 rfl c17 (Se rfl ?_)
        obtain ⟨v18, a18, b18, h⟩ := Am h
        refine qI Dm Fq a18 (Aj b18) rfl ?_
        refine D8 rfl rfl rfl rfl (Aj b18) rfl Fq rfl (BF rfl) (DL A9 v7.1 _ ((Ng .u8 v16 ((Dw .u8 1 p2.fVersion))))) ?_
        refine AY (by kernel_rfl) ?_
        exact Aw _ h (sm [] _ _ rfl rfl)
       ·have h := Aq c15 h
        refine Av ?_
        exact Aw _ h (sm [] _ _ rfl rfl)
     ·refine Aa Ad rfl (Bn rfl (qm rfl (Ac ?_)))
      exact Aw _ h (sm [] _ _ rfl rfl)
    ·have h := Aq c9 h
     refine A4 ?_
     exact Aw _ h (sm [] _ _ rfl rfl)
   ·refine Al hs (Ab (Aa Ad rfl (qa rfl (Ac ?_))))
    obtain rfl := sj h
    refine Al (sm [] [(6, .e (.one (.pure (.val (.bool true)))))] [(90000, .box [.own 90001, .own 90002, .own 90003]), (90001, .vec 1 (p1.fBase.map Ag)), (90002, .vec 1 ((p1.fNext.set ((p2.fIndex).toNat) p2.fVersion).map Ag)), (90003, .vec 1 (v8.map A9))] rfl rfl) (AC ?_)
    exact ⟨⟨[_], ⟨.tmp _ _ rfl, trivial⟩, rfl⟩, ⟨rfl, rfl, rfl, rfl, trivial⟩, trivial⟩
set_option maxRecDepth 10000 in
theorem MR (N : Nat) (p0 : Ah) (p1 : Int) (r : Int) (h : Fe N p0 p1 = some r) : AA Try.prog 120 [.e (.agg [.pure (.sl (p0.fBase.map Ag)), .pure (.sl (p0.fNext.map Ag)), .pure (.sl (p0.fHeld.map A9))]), .e (.one (.pure (.val (.int .i64 p1))))] [] (.e (.one (.pure (.val (.int .u8 r))))) := by
 unfold Fe at h
 refine Ao (n := 27) (rs := [.tmp 4]) Try.func120 rfl rfl rfl (BF rfl) (BF rfl) rfl fun w0 S0 => ?_
 refine Ab (Aa Ad rfl (qb rfl (qa rfl (Ac (Ab (Aa Ad rfl (qf CB rfl (ql A7 rfl (qm rfl ?_)))))))))
 obtain ⟨v1, a1, b1, h⟩ := Am h
 refine qi AG Dc a1 (Aj b1) rfl (qk B9 rfl ?_)
 obtain ⟨c2, h⟩ := AO h
 refine H3 rfl c2 (qa rfl (Ac ?_))
 refine AX h (fun v3 => mk [(5, .e (.one (.pure (.val (.int .u8 v3)))))] []) (fun j3 h => ?_) (fun v3 h => ?_)
 ·refine Ab (Aa Ad rfl (qf Bz rfl (ql A7 rfl (qm rfl ?_))))
  obtain ⟨v4, a4, b4, h⟩ := Am h
  refine qi AG Dc a4 (Aj b4) rfl (qk B9 rfl (Ez rfl (Ac ?_)))
  refine As rfl (fun c5 => ?_) (fun c5 => ?_)
  ·have h := Ap c5 h
   refine Aa Ad rfl (qm rfl (qf Bz rfl (ql A7 rfl (qm rfl ?_))))
   obtain ⟨v6, a6, b6, h⟩ := Am h
   refine qi AG Dc a6 (Aj b6) rfl (qk B9 rfl ?_)
   obtain ⟨c7, h⟩ := AO h
   refine H3 rfl c7 (Se rfl (qa rfl (Ac ?_)))
   exact Aw _ h (sm [] _ _ rfl rfl)
  ·have h := Aq c5 h
   refine Av ?_
   exact Aw _ h (sm [] _ _ rfl rfl)
 ·refine Ab (Aa Ad rfl (qm rfl (qa rfl (Ac ?_))))
  obtain rfl := sj h
  refine Al (sm [] [(4, .e (.one (.pure (.val (.int .u8 v3)))))] [] rfl rfl) (AC ?_)
  exact ⟨⟨[_], ⟨.tmp _ _ rfl, trivial⟩, rfl⟩, trivial⟩
set_option maxRecDepth 10000 in
theorem HA (N : Nat) (p0 : Int) (r : Int) (h : CL N p0 = some r) : AA Try.prog 123 [.e (.one (.pure (.val (.int .u8 p0))))] [] (.e (.one (.pure (.val (.int .i64 r))))) := by
 unfold CL at h
 refine Ao (n := 6) (rs := [.tmp 2]) Try.func123 rfl rfl rfl (BF rfl) (BF rfl) rfl fun w0 S0 => ?_
 refine Ab (Aa Ad rfl (qa rfl (Ac (Ab (Aa Ad rfl (qm rfl ?_))))))
 obtain ⟨v1, a1, h⟩ := bind_some h
 refine RK (.p rfl) rfl rfl Wm a1 ?_
 refine It V0 U5 rfl (qa rfl (Ac ?_))
 obtain rfl := sj h
 refine Al (sm [] [(2, .e (.one (.pure (.val (.int .i64 ((IntKind.wrap .i64 v1)))))))] [] rfl rfl) (AC ?_)
 exact ⟨⟨[_], ⟨.tmp _ _ rfl, trivial⟩, rfl⟩, trivial⟩
set_option maxRecDepth 10000 in
theorem KI (N : Nat) (p0 : AF) (p1 : Int) (p2 : Int) (r : Bool) (h : E8 N p0 p1 p2 = some r) : AA Try.prog 121 [.e (.agg [.pure (.val (.int .i64 p0.fKind)), .pure (.val (.int .i64 p0.fFrom)), .pure (.val (.int .i64 p0.fTo)), .pure (.val (.bool p0.fAware)), .pure (.sl (p0.fOK.map (Et eB))), .pure (.sl (p0.fRewrite.map (Et eB)))]), .e (.one (.pure (.val (.int .u8 p1)))), .e (.one (.pure (.val (.int .i64 p2))))] [] (.e (.one (.pure (.val (.bool r))))) := by
 unfold E8 at h
 refine Ao (n := 25) (rs := [.tmp 6]) Try.func121 rfl rfl rfl (BF rfl) (BF rfl) rfl fun w0 S0 => ?_
 refine Ab (Aa Ad rfl (qb rfl (qa rfl (Ac (Ab (Ab (Aa Ad rfl (qm rfl (qa rfl (Ac ?_))))))))))
 refine AR (L := Da N p0 p2) h (fun v1 => mk [(2, .e (.one (.pure (.val (.int .i64 p2))))), (3, .e (.one (.ptr 3 0))), (7, .e (.one (.pure (.val (.int .u8 v1)))))] [(3, .box [.pure (.val (.int .i64 p0.fKind)), .pure (.val (.int .i64 p0.fFrom)), .pure (.val (.int .i64 p0.fTo)), .pure (.val (.bool p0.fAware)), .pure (.sl (p0.fOK.map (Et eB))), .pure (.sl (p0.fRewrite.map (Et eB)))])]) (fun v2 => mk [] []) (fun _ _ => rfl) (sm [] _ _ rfl rfl) (fun j1 n1 v1 h => ?_) (fun v2 s h hs => ?_)
 ·unfold Da at h
  refine Ab (Ab (Aa Ad rfl (qm rfl (Co rfl (Ac ?_)))))
  refine As rfl (fun c3 => ?_) (fun c3 => ?_)
  ·have h := Ap c3 h
   refine Av (Ab (AU (Ab (Aa Ad rfl (qf F4 rfl (ql Jd rfl (qm rfl ?_)))))))
   obtain ⟨v4, a4, h⟩ := bind_some h
   refine AK [] (HA N v1 v4 a4) Wy rfl ?_
   obtain ⟨v5, a5, b5, h⟩ := Am h
   refine qi FN L6 a5 (Aj b5) rfl (qk Ou rfl (qm rfl ?_))
   obtain ⟨v6, a6, b6, h⟩ := Am h
   refine qi FT PW a6 (Aj b6) rfl (qk Rx rfl (CE rfl (AY (by kernel_rfl) ?_)))
   refine As rfl (fun c7 => ?_) (fun c7 => ?_)
   ·have h := Ap c7 h
    refine Ab (Aa Ad rfl (qa rfl (Ac ?_)))
    obtain rfl := sj h
    refine Al (sm [] [(6, .e (.one (.pure (.val (.bool false)))))] [] rfl rfl) (AC ?_)
    exact ⟨⟨[_], ⟨.tmp _ _ rfl, trivial⟩, rfl⟩, trivial⟩
   ·have h := Aq c7 h
    refine Av (Aa Ad rfl (qm rfl (qm rfl (PD rfl (LG rfl (qa rfl (Ac ?_)))))))
    exact Aw _ h (sm [] _ _ rfl rfl)
  ·have h := Aq c3 h
   refine A4 ?_
   exact Aw _ h (sm [] _ _ rfl rfl)
 ·refine Al hs (Ab (Aa Ad rfl (qa rfl (Ac ?_))))
  obtain rfl := sj h
  refine Al (sm [] [(6, .e (.one (.pure (.val (.bool true)))))] [] rfl rfl) (AC ?_)
  exact ⟨⟨[_], ⟨.tmp _ _ rfl, trivial⟩, rfl⟩, trivial⟩
set_option maxRecDepth 10000 in
theorem Oo (N : Nat) (p0 : Ae) (p1 : Ah) (p2 : Int) (r : Bool × (List Int)) (h : FY N p0 p1 p2 = some r) : FH Try.prog 113 [.e (.agg [.pure (.sl (p0.fVersions.map Ag)), .pure (.sl (p0.fNow.map Ag)), .pure (.sl (p0.fTarget.map Ag)), .pure (.sl (p0.fTables.map Ai))]), .e (.one (.ptr 90000 0)), .e (.one (.pure (.val (.int .i64 p2))))] [(.box [.own 90001, .own 90002, .own 90003], .box [.own 90001, .own 90002, .own 90003]), (.vec 1 (p1.fBase.map Ag), .vec 1 (p1.fBase.map Ag)), (.vec 1 (p1.fNext.map Ag), .vec 1 (p1.fNext.map Ag)), (.vec 1 (p1.fHeld.map A9), .vec 1 (r.2.map A9))] [] (.e (.one (.pure (.val (.bool r.1))))) := by
 unfold FY at h
 refine Gw (n := 68) (rs := [.tmp 6]) Try.func113 rfl rfl rfl (BF rfl) (BF rfl) rfl rfl (BF rfl) rfl (BF rfl) fun w0 S0 GL => ?_
 refine Al (sm [] [(0, .e (.agg [.pure (.sl (p0.fVersions.map Ag)), .pure (.sl (p0.fNow.map Ag)), .pure (.sl (p0.fTarget.map Ag)), .pure (.sl (p0.fTables.map Ai))])), (1, .e (.one (.ptr 90000 0))), (2, .e (.one (.pure (.val (.int .i64 p2)))))] [(90000, .box [.own 90001, .own 90002, .own 90003]), (90001, .vec 1 (p1.fBase.map Ag)), (90002, .vec 1 (p1.fNext.map Ag)), (90003, .vec 1 (p1.fHeld.map A9))] rfl rfl) (Ab (Aa Ad rfl (qb rfl (qa rfl (Ac (Ab (Aa Ad rfl (qf CF rfl (ql Gq rfl (qm rfl ?_))))))))))
 obtain ⟨v1, a1, b1, h⟩ := Am h
 refine qi DO DP a1 (Aj b1) rfl (qK GB DP rfl (qz JR rfl (qs DP rfl (Ac (Ab (Ab (Aa Ad rfl (qL GB DP rfl ?_))))))))
 obtain ⟨v2, a2, h⟩ := bind_some h
 refine AK [] (J5 N v1 v2 a2) UX rfl (CE rfl (Ac ?_))
 refine As rfl (fun c3 => ?_) (fun c3 => ?_)
 ·have h := Ap c3 h
  refine Ab (Aa Ad rfl (qa rfl (Ac ?_)))
  obtain rfl := sj h
  refine Al (sm [] [(6, .e (.one (.pure (.val (.bool false)))))] [(90000, .box [.own 90001, .own 90002, .own 90003]), (90001, .vec 1 (p1.fBase.map Ag)), (90002, .vec 1 (p1.fNext.map Ag)), (90003, .vec 1 (p1.fHeld.map A9))] rfl rfl) (AC ?_)
  exact ⟨⟨[_], ⟨.tmp _ _ rfl, trivial⟩, rfl⟩, ⟨rfl, rfl, rfl, rfl, trivial⟩, trivial⟩
 ·have h := Aq c3 h
  refine Av (Ab (Aa Ad rfl (qm rfl (TY rfl (qL Bs AT rfl (qf CV rfl (ql B9 rfl ?_)))))))
  obtain ⟨v4, a4, h⟩ := bind_some h
  refine DJ [] [90001, 90002, 90003] (MR N p1 v1.fFrom v4 a4) WG Cx rfl (qa rfl (AY (by kernel_rfl) (Ab (Aa Ad rfl (qm rfl (TY rfl (qf Cz rfl (ql Gl rfl (qm rfl ?_)))))))))
  obtain ⟨v5, a5, b5, h⟩ := Am h
  refine qI Dm Fq a5 (Aj b5) rfl (qj Jg (Aj b5) rfl (qm rfl (Hy rfl (qa rfl (Ac (Ab ?_))))))
  refine AX h (fun v6 => mk [(1, .e (.one (.ptr 90000 0))), (2, .e (.one (.pure (.val (.int .i64 p2))))), (8, .e (.one (.pure (.val (.int .u8 v4))))), (60, .e (.one (.pure (.val (.bool v6)))))] [(90000, .box [.own 90001, .own 90002, .own 90003]), (90001, .vec 1 (p1.fBase.map Ag)), (90002, .vec 1 (p1.fNext.map Ag)), (90003, .vec 1 (p1.fHeld.map A9))]) (fun j6 h => ?_) (fun v6 h => ?_)
  ·refine Aa Ad rfl (qm rfl (TY rfl (qf Cz rfl (ql Gl rfl (qm rfl ?_)))))
   obtain ⟨v7, a7, b7, h⟩ := Am h
   refine qI Dm Fq a7 (Aj b7) rfl (qj Jg (Aj b7) rfl (qm rfl (B6 rfl (qm rfl ?_))))
   refine AI (t := 42) rfl (fun c8 => ?_) (fun c8 => ?_)
   ·have h := Ap c8 h
    refine qn rfl (qn rfl (qn rfl (qn rfl (qu rfl (qu rfl (qu rfl (qu rfl (qu rfl (qu rfl (qu rfl (qu rfl (qu rfl (qu rfl (qu rfl (qu rfl (qn rfl (qp rfl (AY (by kernel_rfl) ?_))))))))))))))))))
    exact Aw _ h (sm [] _ _ rfl rfl)
   ·have h := Aq c8 h
    refine qf Fl rfl (ql B9 rfl (B6 rfl (qm rfl ?_)))
    refine AI (t := 46) rfl (fun c9 => ?_) (fun c9 => ?_)
    ·have h := Ap c9 h
     refine qL GB DP rfl (qm rfl (qm rfl (TY rfl (qf CB rfl (ql A7 rfl (qf CV rfl (ql B9 rfl ?_)))))))
     obtain ⟨v10, a10, b10, h⟩ := Am h
     refine qI AG Dc a10 (Aj b10) rfl (qj B9 (Aj b10) rfl ?_)
     obtain ⟨v11, a11, h⟩ := bind_some h
     refine AK [] (KI N v1 ((CY .u8 v5 v4)) v10 v11 a11) WT rfl (CE rfl (qp rfl (qp rfl (AY (by kernel_rfl) ?_))))
     exact Aw _ h (sm [] _ _ rfl rfl)
    ·have h := Aq c9 h
     refine qn rfl (qn rfl (qn rfl (qn rfl (qn rfl (qn rfl (qn rfl (qn rfl (qn rfl (qn rfl (qn rfl (qn rfl (qp rfl (qp rfl (AY (by kernel_rfl) ?_))))))))))))))
     exact Aw _ h (sm [] _ _ rfl rfl)
  ·refine As rfl (fun c12 => ?_) (fun c12 => ?_)
   ·have h := Ap c12 h
    refine Ab (Aa Ad rfl (qa rfl (Ac ?_)))
    obtain rfl := sj h
    refine Al (sm [] [(6, .e (.one (.pure (.val (.bool false)))))] [(90000, .box [.own 90001, .own 90002, .own 90003]), (90001, .vec 1 (p1.fBase.map Ag)), (90002, .vec 1 (p1.fNext.map Ag)), (90003, .vec 1 (p1.fHeld.map A9))] rfl rfl) (AC ?_)
    exact ⟨⟨[_], ⟨.tmp _ _ rfl, trivial⟩, rfl⟩, ⟨rfl, rfl, rfl, rfl, trivial⟩, trivial⟩
   ·have h := Aq c12 h
    refine Av (Ab (Aa Ad rfl (qm rfl (TY rfl (qf Cz rfl (ql Gl rfl (qm rfl (qm rfl ?_))))))))
    obtain ⟨v13, a13, b13, h⟩ := Am h
    refine qI Dm Fq a13 (Aj b13) rfl ?_
    refine D8 rfl rfl rfl rfl (Aj b13) rfl Fq rfl (BF rfl) (DL A9 p1.fHeld _ v4) ?_
    refine Ac (Ab (Aa Ad rfl (qa rfl (Ac ?_))))
    obtain rfl := sj h
    refine Al (sm [] [(6, .e (.one (.pure (.val (.bool true)))))] [(90000, .box [.own 90001, .own 90002, .own 90003]), (90001, .vec 1 (p1.fBase.map Ag)), (90002, .vec 1 (p1.fNext.map Ag)), (90003, .vec 1 ((p1.fHeld.set ((p2).toNat) v4).map A9))] rfl rfl) (AC ?_)
    exact ⟨⟨[_], ⟨.tmp _ _ rfl, trivial⟩, rfl⟩, ⟨rfl, rfl, rfl, rfl, trivial⟩, trivial⟩
end Go.Lift

