/- Lemmas for RefuseBorderSaid, which YtpaobkaighpaaaaGreatFinR5 proves. -/
import Derived.Test.YtpaobkaighpaaaaGreatTypes
import Derived.Test.YtpaobkaighpaaaaGreatProg
import Derived.KernelRfl
namespace Go.Lift
open IntKind renaming wrap → wI
def Ei (_ : Nat) (p0 : List Int) (p1 : Int) : Option Int :=
 AW ((decide (p1 < (p0.length : Int))))
  ((Bf p0 p1).bind fun v2 =>
  some ((wI .i64 v2)))
  (some 0)
def Bt (_ : Nat) (p0 : AR) : Option Bool :=
 Bi (fun (v1 : Bool) =>
  some v1)
 fun j1 =>
 AW ((p0.fKind == 3))
  (j1 true)
  (j1 (p0.fKind == 4))
def CH (N : Nat) (p1 : Int) (p2 : Int) (p3 : Bool) (v1 : (List (List Bool)) × Int) (j4 : ((List Bool)) → Option ((List (List Bool)))) : Nat → ((List Bool) × Int) → Option ((List (List Bool)))
 | 0, _ => none
 | n4 + 1, v4 =>
  AW ((decide (v4.2 < p1)))
   (Bi (fun (v7 : (List Bool)) =>
    CH N p1 p2 p3 v1 j4 n4 (v7, (wI .i64 (v4.2 + 1))))
   fun j7 =>
   AW p3
    (AW ((v1.2 == v4.2))
     ((DN (v4.1.length + (([true] : List Bool)).length ≤ D2)).bind fun _ =>
     j7 (v4.1 ++ (([true] : List Bool))))
     ((DN (0 ≤ (wI .i64 ((wI .i64 (3 * v1.2)) + v4.2)))).bind fun _ =>
     (DN (v4.1.length + (([((Int.tmod ((El .u16 p2 ((wI .i64 ((wI .i64 (3 * v1.2)) + v4.2))))) 2) == 0)] : List Bool)).length ≤ D2)).bind fun _ =>
     j7 (v4.1 ++ (([((Int.tmod ((El .u16 p2 ((wI .i64 ((wI .i64 (3 * v1.2)) + v4.2))))) 2) == 0)] : List Bool)))))
    ((DN (0 ≤ (wI .i64 ((wI .i64 (3 * v1.2)) + v4.2)))).bind fun _ =>
    (DN (v4.1.length + (([((Int.tmod ((El .u16 p2 ((wI .i64 ((wI .i64 (3 * v1.2)) + v4.2))))) 2) == 0)] : List Bool)).length ≤ D2)).bind fun _ =>
    j7 (v4.1 ++ (([((Int.tmod ((El .u16 p2 ((wI .i64 ((wI .i64 (3 * v1.2)) + v4.2))))) 2) == 0)] : List Bool)))))
   (j4 v4.1)
def CB (N : Nat) (p0 : Int) (p1 : Int) (p2 : Int) (p3 : Bool) (j1 : ((List (List Bool))) → Option ((List (List Bool)))) : Nat → ((List (List Bool)) × Int) → Option ((List (List Bool)))
 | 0, _ => none
 | n1 + 1, v1 =>
  AW ((decide (v1.2 < p0)))
   (CH N p1 p2 p3 v1 (fun (v5 : (List Bool)) =>
    (DN (v1.1.length + (([v5] : List (List Bool))).length ≤ D2)).bind fun _ =>
    CB N p0 p1 p2 p3 j1 n1 (v1.1 ++ (([v5] : List (List Bool))), (wI .i64 (v1.2 + 1)))) N (([] : List Bool), 0))
   (j1 v1.1)
def Eh (N : Nat) (p0 : Int) (p1 : Int) (p2 : Int) (p3 : Bool) : Option ((List (List Bool))) :=
 CB N p0 p1 p2 p3 (fun (v2 : (List (List Bool))) =>
  some v2) N (([] : List (List Bool)), 0)
def C3 (N : Nat) (p0 : CU) (j4 : ((List Int) × (List Int) × (List Int)) → Option (Ak × Bool)) : Nat → ((List Int) × (List Int) × (List Int) × Int) → Option (Ak × Bool)
 | 0, _ => none
 | n4 + 1, v4 =>
  AW ((decide (v4.2.2.2 < (p0.fVersions.length : Int))))
   ((Bf p0.fVersions v4.2.2.2).bind fun v7 =>
   (DN (v4.1.length + (([(wI .i64 (1 + (wI .i64 ((Int.tmod v7 3)))))] : List Int)).length ≤ D2)).bind fun _ =>
   (Ei N p0.fNow v4.2.2.2).bind fun v9 =>
   (DN ((wI .i64 (1 + (wI .i64 ((Int.tmod v7 3))))) ≠ 0)).bind fun _ =>
   (DN (v4.2.1.length + (([(Int.tmod v9 ((wI .i64 (1 + (wI .i64 ((Int.tmod v7 3)))))))] : List Int)).length ≤ D2)).bind fun _ =>
   (Ei N p0.fTarget v4.2.2.2).bind fun v12 =>
   (DN ((wI .i64 (1 + (wI .i64 ((Int.tmod v7 3))))) ≠ 0)).bind fun _ =>
   (DN (v4.2.2.1.length + (([(Int.tmod v12 ((wI .i64 (1 + (wI .i64 ((Int.tmod v7 3)))))))] : List Int)).length ≤ D2)).bind fun _ =>
   C3 N p0 j4 n4 (v4.1 ++ (([(wI .i64 (1 + (wI .i64 ((Int.tmod v7 3)))))] : List Int)), v4.2.1 ++ (([(Int.tmod v9 ((wI .i64 (1 + (wI .i64 ((Int.tmod v7 3)))))))] : List Int)), v4.2.2.1 ++ (([(Int.tmod v12 ((wI .i64 (1 + (wI .i64 ((Int.tmod v7 3)))))))] : List Int)), (wI .i64 (v4.2.2.2 + 1))))
   (j4 (v4.1, v4.2.1, v4.2.2.1))
def BP (N : Nat) (p0 : CU) (v5 : (List Int) × (List Int) × (List Int)) (j15 : ((List AR)) → Option (Ak × Bool)) : Nat → ((List AR) × Int) → Option (Ak × Bool)
 | 0, _ => none
 | n15 + 1, v15 =>
  Bi (fun (v17 : Bool) =>
   AW v17
    ((Bf p0.fLinks v15.2).bind fun v20 =>
    (DN ((v5.1.length : Int) ≠ 0)).bind fun _ =>
    (DN ((v5.1.length : Int) ≠ 0)).bind fun _ =>
    Bi (fun (v23 : Bool) =>
     (Bf v5.1 ((Int.tmod ((wI .i64 v20.fFrom)) ((v5.1.length : Int))))).bind fun v26 =>
     (Bf v5.1 ((Int.tmod ((wI .i64 v20.fTo)) ((v5.1.length : Int))))).bind fun v27 =>
     (Eh N v26 v27 v20.fBad false).bind fun v28 =>
     Bi (fun (v29 : (List (List Bool))) =>
      (DN (v15.1.length + (([(AR.mk ((wI .i64 (1 + (wI .i64 ((Int.tmod v20.fKind 4)))))) ((Int.tmod ((wI .i64 v20.fFrom)) ((v5.1.length : Int)))) ((Int.tmod ((wI .i64 v20.fTo)) ((v5.1.length : Int)))) v23 v28 v29)] : List AR)).length ≤ D2)).bind fun _ =>
      BP N p0 v5 j15 n15 (v15.1 ++ (([(AR.mk ((wI .i64 (1 + (wI .i64 ((Int.tmod v20.fKind 4)))))) ((Int.tmod ((wI .i64 v20.fFrom)) ((v5.1.length : Int)))) ((Int.tmod ((wI .i64 v20.fTo)) ((v5.1.length : Int)))) v23 v28 v29)] : List AR)), (wI .i64 (v15.2 + 1))))
     fun j29 =>
     AW (((wI .i64 (1 + (wI .i64 ((Int.tmod v20.fKind 4))))) == 4))
      ((Bf v5.1 ((Int.tmod ((wI .i64 v20.fFrom)) ((v5.1.length : Int))))).bind fun v31 =>
      (Bf v5.1 ((Int.tmod ((wI .i64 v20.fFrom)) ((v5.1.length : Int))))).bind fun v32 =>
      (Eh N v31 v32 v20.fLost true).bind fun v33 =>
      j29 v33)
      (j29 ([] : List (List Bool))))
    fun j23 =>
    AW v20.fAware
     ((Bt N ((AR.mk ((wI .i64 (1 + (wI .i64 ((Int.tmod v20.fKind 4)))))) ((Int.tmod ((wI .i64 v20.fFrom)) ((v5.1.length : Int)))) ((Int.tmod ((wI .i64 v20.fTo)) ((v5.1.length : Int)))) false (([] : List (List Bool))) (([] : List (List Bool)))))).bind fun v25 =>
     j23 (!v25))
     (j23 false))
    (j15 v15.1))
  fun j17 =>
  AW ((decide (v15.2 < (p0.fLinks.length : Int))))
   (j17 (decide (0 < (v5.1.length : Int))))
   (j17 false)
def Fu (N : Nat) (p0 : CU) : Option (Ak × Bool) :=
 Bi (fun (v1 : Bool) =>
  AW v1
   (some ((Ak.mk (([] : List Int)) (([] : List Int)) (([] : List Int)) (([] : List AR))), false))
   (C3 N p0 (fun (v5 : (List Int) × (List Int) × (List Int)) =>
    BP N p0 v5 (fun (v16 : (List AR)) =>
     some ((Ak.mk v5.1 v5.2.1 v5.2.2 v16), true)) N (([] : List AR), 0)) N (([] : List Int), ([] : List Int), ([] : List Int), 0)))
 fun j1 =>
 AW ((decide (3 < (p0.fVersions.length : Int))))
  (j1 true)
  (j1 (decide (4 < (p0.fLinks.length : Int))))
def Cb (_ : Nat) : Option Ak :=
 some ((Ak.mk (([2] : List Int)) (([0] : List Int)) (([1] : List Int)) (([(AR.mk 1 0 0 false (([([true, true] : List Bool), ([false, true] : List Bool)] : List (List Bool))) (([] : List (List Bool))))] : List AR))))
def Ek (_ : Nat) (p0 : Int) (p1 : Int) : Option Bool :=
 Bi (fun (v1 : Bool) =>
  some v1)
 fun j1 =>
 AW ((decide (0 ≤ p0)))
  (j1 (decide (p0 < p1)))
  (j1 false)
def G7 (_ : Nat) (p0 : Int) (p1 : Bool) : Option Bool :=
 Bi (fun (v1 : Bool) =>
  some v1)
 fun j1 =>
 AW ((p0 == 1))
  (j1 true)
  (AW ((p0 == 2))
   (j1 true)
   (AW ((p0 == 3))
    (j1 (!p1))
    (AW ((p0 == 4))
     (j1 (!p1))
     (j1 false))))
def Ef (_ : Nat) (p0 : List Bool) (p1 : Int) : Option Bool :=
 some (((p0.length : Int) != p1))
def BF (N : Nat) (p0 : List (List Bool)) (p1 : (List Bool) → Option Bool) (j1 : Unit → Option Int) : Nat → Int → Option Int
 | 0, _ => none
 | n1 + 1, v1 =>
  AW ((decide (v1 < (p0.length : Int))))
   ((Bf p0 v1).bind fun v4 =>
   (p1 v4).bind fun v5 =>
   AW v5
    (some v1)
    (BF N p0 p1 j1 n1 (wI .i64 (v1 + 1))))
   (j1 ())
def DM (N : Nat) (p0 : List (List Bool)) (p1 : (List Bool) → Option Bool) : Option Int :=
 BF N p0 p1 (fun (_ : Unit) =>
  some ((-1))) N 0
def De (N : Nat) (p0 : List (List Bool)) (p1 : (List Bool) → Option Bool) : Option Bool :=
 (DM N p0 p1).bind fun v1 =>
 some ((decide (0 ≤ v1)))
def Fj (N : Nat) (p0 : List (List Bool)) (p1 : Int) (p2 : Int) : Option Bool :=
 Bi (fun (v1 : Bool) =>
  some v1)
 fun j1 =>
 AW (((p0.length : Int) == p1))
  ((De N p0 ((fun (x : List Bool) => Ef N x p2))).bind fun v3 =>
  j1 (!v3))
  (j1 false)
def Dl (N : Nat) (p1 : AR) (j19 : Unit → Option Int) : Nat → Int → Option Int
 | 0, _ => none
 | n19 + 1, v19 =>
  AW ((decide (v19 < (p1.fRewrite.length : Int))))
   ((Bf p1.fRewrite v19).bind fun v22 =>
   (Bf v22 v19).bind fun v23 =>
   AW ((!v23))
    (some 1)
    (Dl N p1 j19 n19 (wI .i64 (v19 + 1))))
   (j19 ())
def GA (N : Nat) (p0 : Ak) (p1 : AR) : Option Int :=
 (G7 N p1.fKind p1.fAware).bind fun v1 =>
 AW ((!v1))
  (some 1)
  (Bi (fun (v3 : Bool) =>
   AW v3
    (some 4)
    ((Bf p0.fVersions p1.fFrom).bind fun v8 =>
    Bi (fun (v9 : Bool) =>
     AW v9
      (some 6)
      (Dl N p1 (fun (_ : Unit) =>
       some 0) N 0))
    fun j9 =>
    (Bf p0.fVersions p1.fTo).bind fun v10 =>
    (Fj N p1.fOK v8 v10).bind fun v11 =>
    AW ((!v11))
     (j9 true)
     (AW ((p1.fKind == 4))
      ((Fj N p1.fRewrite v8 v8).bind fun v14 =>
      AW ((!v14))
       (j9 true)
       (AW ((!((p1.fKind == 4))))
        (j9 (decide (0 < (p1.fRewrite.length : Int))))
        (j9 false)))
      (AW ((!((p1.fKind == 4))))
       (j9 (decide (0 < (p1.fRewrite.length : Int))))
       (j9 false)))))
  fun j3 =>
  (Ek N p1.fFrom ((p0.fVersions.length : Int))).bind fun v4 =>
  AW ((!v4))
   (j3 true)
   ((Ek N p1.fTo ((p0.fVersions.length : Int))).bind fun v6 =>
   j3 (!v6)))
def Ci (N : Nat) (p0 : Ak) (j7 : Unit → Option Int) : Nat → Int → Option Int
 | 0, _ => none
 | n7 + 1, v7 =>
  AW ((decide (v7 < (p0.fVersions.length : Int))))
   ((Bf p0.fVersions v7).bind fun v10 =>
   Bi (fun (v11 : Bool) =>
    AW v11
     (some 7)
     (Ci N p0 j7 n7 (wI .i64 (v7 + 1))))
   fun j11 =>
   AW ((decide (v10 < 1)))
    (j11 true)
    (AW ((decide (6 < v10)))
     (j11 true)
     ((Bf p0.fNow v7).bind fun v14 =>
     (Ek N v14 v10).bind fun v15 =>
     AW ((!v15))
      (j11 true)
      ((Bf p0.fTarget v7).bind fun v17 =>
      (Ek N v17 v10).bind fun v18 =>
      j11 (!v18)))))
   (j7 ())
def B4 (N : Nat) (p0 : Ak) (j20 : Unit → Option Int) : Nat → Int → Option Int
 | 0, _ => none
 | n20 + 1, v20 =>
  AW ((decide (v20 < (p0.fTables.length : Int))))
   ((Bf p0.fTables v20).bind fun v23 =>
   (GA N p0 v23).bind fun v24 =>
   AW ((v24 != 0))
    (some v24)
    (B4 N p0 j20 n20 (wI .i64 (v20 + 1))))
   (j20 ())
def CQ (N : Nat) (p0 : Ak) : Option Int :=
 Bi (fun (v1 : Bool) =>
  AW v1
   (some 3)
   (Bi (fun (v4 : Bool) =>
    AW v4
     (some 6)
     (Ci N p0 (fun (_ : Unit) =>
      B4 N p0 (fun (_ : Unit) =>
       some 0) N 0) N 0))
   fun j4 =>
   AW (((p0.fNow.length : Int) != (p0.fVersions.length : Int)))
    (j4 true)
    (j4 ((p0.fTarget.length : Int) != (p0.fVersions.length : Int)))))
 fun j1 =>
 AW ((decide (6 < (p0.fVersions.length : Int))))
  (j1 true)
  (j1 (decide (12 < (p0.fTables.length : Int))))
def BA (_ : Nat) (p0 : List Int) : Option ((List Int)) :=
 (DN ((([] : List Int)).length + p0.length ≤ D2)).bind fun _ =>
 some ((([] : List Int)) ++ p0)
def Hv (_ : Nat) (p0 : Int) (p1 : Int) : Option (Int × Int) :=
 some ((wI .u32 ((El .u64 ((wI .u64 ((wI .u64 p0) * (wI .u64 p1)))) 32))), (wI .u32 ((wI .u64 ((wI .u64 p0) * (wI .u64 p1))))))
def Hp (_ : Nat) (p0 : Int) (p1 : Int) : Option (Int × Int) :=
 some ((wI .u64 ((wI .u64 ((wI .u64 ((El .u64 p0 32) * (El .u64 p1 32))) + (El .u64 ((wI .u64 ((wI .u64 ((El .u64 p0 32) * (Fq .u64 p1 4294967295))) + (El .u64 ((wI .u64 ((Fq .u64 p0 4294967295) * (Fq .u64 p1 4294967295)))) 32)))) 32))) + (El .u64 ((wI .u64 ((Fq .u64 ((wI .u64 ((wI .u64 ((El .u64 p0 32) * (Fq .u64 p1 4294967295))) + (El .u64 ((wI .u64 ((Fq .u64 p0 4294967295) * (Fq .u64 p1 4294967295)))) 32)))) 4294967295) + (wI .u64 ((Fq .u64 p0 4294967295) * (El .u64 p1 32)))))) 32))), (wI .u64 (p0 * p1)))
def Id (N : Nat) (p0 : Int) (p1 : Int) : Option (Int × Int) :=
 AW false
  ((Hv N ((wI .u32 p0)) ((wI .u32 p1))).bind fun v2 =>
  some ((wI .u64 v2.1), (wI .u64 v2.2)))
  ((Hp N p0 p1).bind fun v3 =>
  some (v3.1, v3.2))
def Eb (N : Nat) (j9 : ((List Int)) → Option ((List Int))) : Nat → ((List Int) × Int) → Option ((List Int))
 | 0, _ => none
 | n9 + 1, v9 =>
  AW ((decide (v9.2 < (v9.1.length : Int))))
   ((DN ((0 : Int) ≤ v9.2 ∧ (v9.2).toNat ≤ v9.1.length ∧ v9.1.length ≤ v9.1.length)).bind fun _ =>
   (DN ((0 : Int) ≤ v9.2 ∧ 0 ≤ (v9.2).toNat ∧ (v9.2).toNat ≤ v9.1.length)).bind fun _ =>
   Eb N j9 n9 (H5 v9.1 ((v9.2).toNat) ((((v9.1.drop 0).take ((v9.2).toNat))).take (Nat.min (((v9.1.drop 0).take ((v9.2).toNat))).length ((v9.1.length - (v9.2).toNat)))), (wI .i64 (v9.2 + (((Nat.min (((v9.1.drop 0).take ((v9.2).toNat))).length ((v9.1.length - (v9.2).toNat))) : Nat) : Int)))))
   (j9 v9.1)
def Fz (N : Nat) (p0 : List Int) (p1 : Int) : Option ((List Int)) :=
 Bi (fun (_ : Unit) =>
  (Id N ((wI .u64 ((p0.length : Int)))) ((wI .u64 p1))).bind fun v3 =>
  Bi (fun (_ : Unit) =>
   (DN ((0 : Int) ≤ (wI .i64 v3.2) ∧ (wI .i64 v3.2) ≤ (wI .i64 v3.2) ∧ (wI .i64 v3.2) ≤ (D2 : Int))).bind fun _ =>
   Eb N (fun (v10 : (List Int)) =>
    some v10) N (H5 (List.replicate ((wI .i64 v3.2)).toNat ((0 : Int))) 0 (p0.take (Nat.min p0.length ((List.replicate ((wI .i64 v3.2)).toNat ((0 : Int))).length))), (((Nat.min p0.length ((List.replicate ((wI .i64 v3.2)).toNat ((0 : Int))).length)) : Nat) : Int)))
  fun j4 =>
  Bi (fun (v5 : Bool) =>
   AW v5
    (none)
    (j4 ()))
  fun j5 =>
  AW ((decide (0 < v3.1)))
   (j5 true)
   (j5 (decide (9223372036854775807 < v3.2))))
 fun j1 =>
 AW ((decide (p1 < 0)))
  (none)
  (j1 ())
def Fv (_ : Nat) (p0 : AR) : Option Bool :=
 Bi (fun (v1 : Bool) =>
  some v1)
 fun j1 =>
 AW ((p0.fKind == 3))
  (j1 true)
  (j1 (p0.fKind == 4))
def Hi (N : Nat) (p0 : Ak) (j6 : ((List Int)) → Option (Ah × Int)) : Nat → ((List Int) × Int) → Option (Ah × Int)
 | 0, _ => none
 | n6 + 1, v6 =>
  AW ((decide (v6.2 < (p0.fTables.length : Int))))
   (Bi (fun (v9 : (List Int)) =>
    Hi N p0 j6 n6 (v9, (wI .i64 (v6.2 + 1))))
   fun j9 =>
   (Bf p0.fTables v6.2).bind fun v10 =>
   (Fv N v10).bind fun v11 =>
   AW v11
    ((Bf p0.fNow v10.fFrom).bind fun v13 =>
    (DN (0 ≤ v13)).bind fun _ =>
    (Bf v6.1 v6.2).bind fun _ =>
    j9 (v6.1.set ((v6.2).toNat) ((CJ .u8 1 v13))))
    (j9 v6.1))
   (j6 v6.1)
def IN (N : Nat) (p0 : Ak) : Option (Ah × Int) :=
 (CQ N p0).bind fun v1 =>
 AW ((v1 != 0))
  (some ((Ah.mk (([] : List Int)) (([] : List Int)) (([] : List Int))), v1))
  ((BA N p0.fNow).bind fun v3 =>
  (Fz N (([(-1)] : List Int)) ((p0.fNow.length : Int))).bind fun v4 =>
  (DN ((0 : Int) ≤ (p0.fTables.length : Int) ∧ (p0.fTables.length : Int) ≤ (p0.fTables.length : Int) ∧ (p0.fTables.length : Int) ≤ (D2 : Int))).bind fun _ =>
  Hi N p0 (fun (v7 : (List Int)) =>
   some ((Ah.mk v3 v4 v7), 0)) N (List.replicate ((p0.fTables.length : Int)).toNat ((0 : Int)), 0))
def E6 (_ : Nat) (p0 : Ah) (p1 : Int) : Option Int :=
 (Bf p0.fBase p1).bind fun v1 =>
 (DN (0 ≤ v1)).bind fun _ =>
 Bi (fun (v3 : Int) =>
  some v3)
 fun j3 =>
 (Bf p0.fNext p1).bind fun v4 =>
 AW ((decide (0 ≤ v4)))
  ((Bf p0.fNext p1).bind fun v6 =>
  (DN (0 ≤ v6)).bind fun _ =>
  j3 (MC .u8 ((CJ .u8 1 v1)) ((CJ .u8 1 v6))))
  (j3 (CJ .u8 1 v1))
def Ej (N : Nat) (p0 : Ak) (p1 : Ah) (j7 : Unit → Option Int) : Nat → Int → Option Int
 | 0, _ => none
 | n7 + 1, v7 =>
  AW ((decide (v7 < (p0.fVersions.length : Int))))
   ((Bf p0.fVersions v7).bind fun v10 =>
   Bi (fun (v11 : Bool) =>
    AW v11
     (some 7)
     ((Bf p1.fBase v7).bind fun v20 =>
     (Bf p1.fNext v7).bind fun v21 =>
     AW ((v20 == v21))
      (some 1)
      (Ej N p0 p1 j7 n7 (wI .i64 (v7 + 1)))))
   fun j11 =>
   (Bf p1.fBase v7).bind fun v12 =>
   AW ((decide (v12 < 0)))
    (j11 true)
    ((Bf p1.fBase v7).bind fun v14 =>
    AW ((decide (v10 ≤ v14)))
     (j11 true)
     ((Bf p1.fNext v7).bind fun v16 =>
     AW ((decide (v16 < (-1))))
      (j11 true)
      ((Bf p1.fNext v7).bind fun v18 =>
      j11 (decide (v10 ≤ v18))))))
   (j7 ())
def D5 (N : Nat) (p0 : Ak) (p1 : Ah) (j23 : Unit → Option Int) : Nat → Int → Option Int
 | 0, _ => none
 | n23 + 1, v23 =>
  AW ((decide (v23 < (p0.fTables.length : Int))))
   ((Bf p0.fTables v23).bind fun v26 =>
   Bi (fun (v27 : Int × Int) =>
    Bi (fun (v33 : Bool) =>
     AW v33
      (some 1)
      (D5 N p0 p1 j23 n23 (wI .i64 (v23 + 1))))
    fun j33 =>
    (Bf p1.fHeld v23).bind fun v34 =>
    AW (((Dz .u8 v27.1 v34) != 0))
     (j33 true)
     ((Bf p1.fHeld v23).bind fun v36 =>
     j33 ((Dz .u8 v36 v27.2) != 0)))
   fun j27 =>
   (Fv N v26).bind fun v28 =>
   AW v28
    ((E6 N p1 v26.fFrom).bind fun v30 =>
    (Bf p0.fVersions v26.fFrom).bind fun v31 =>
    (DN (0 ≤ v31)).bind fun _ =>
    j27 (v30, (wI .u8 ((CJ .u8 1 v31) - 1))))
    (j27 (0, 0)))
   (j23 ())
def EV (N : Nat) (p0 : Ak) (p1 : Ah) : Option Int :=
 (CQ N p0).bind fun v1 =>
 AW ((v1 != 0))
  (some v1)
  (Bi (fun (v3 : Bool) =>
   AW v3
    (some 6)
    (Ej N p0 p1 (fun (_ : Unit) =>
     D5 N p0 p1 (fun (_ : Unit) =>
      some 0) N 0) N 0))
  fun j3 =>
  AW (((p1.fBase.length : Int) != (p0.fVersions.length : Int)))
   (j3 true)
   (AW (((p1.fNext.length : Int) != (p0.fVersions.length : Int)))
    (j3 true)
    (j3 ((p1.fHeld.length : Int) != (p0.fTables.length : Int)))))
def BM (_ : Nat) (p0 : List Int) : Option ((List Int)) :=
 (DN ((([] : List Int)).length + p0.length ≤ D2)).bind fun _ =>
 some ((([] : List Int)) ++ p0)
def D9 (N : Nat) (p1 : Ah) (j3 : ((List Int)) → Option ((List Ah) × Int)) : Nat → ((List Int) × Int) → Option ((List Ah) × Int)
 | 0, _ => none
 | n3 + 1, v3 =>
  AW ((decide (v3.2 < (p1.fNext.length : Int))))
   (Bi (fun (v6 : (List Int)) =>
    D9 N p1 j3 n3 (v6, (wI .i64 (v3.2 + 1))))
   fun j6 =>
   (Bf p1.fNext v3.2).bind fun v7 =>
   AW ((decide (0 ≤ v7)))
    ((DN (v3.1.length + (([v3.2] : List Int)).length ≤ D2)).bind fun _ =>
    j6 (v3.1 ++ (([v3.2] : List Int))))
    (j6 v3.1))
   (j3 v3.1)
def Db (N : Nat) (v4 : (List Int)) (v11 : (List Ah) × Int) (j17 : ((List Int)) → Option ((List Ah) × Int)) : Nat → ((List Int) × Int) → Option ((List Ah) × Int)
 | 0, _ => none
 | n17 + 1, v17 =>
  AW ((decide (v17.2 < (v4.length : Int))))
   (Bi (fun (v20 : (List Int)) =>
    Db N v4 v11 j17 n17 (v20, (wI .i64 (v17.2 + 1))))
   fun j20 =>
   (Bf v4 v17.2).bind fun v21 =>
   (DN (0 ≤ v17.2)).bind fun _ =>
   AW (((Fq .i64 ((El .i64 v11.2 v17.2)) 1) == 1))
    ((Bf v17.1 v21).bind fun _ =>
    j20 (v17.1.set ((v21).toNat) ((-1))))
    (j20 v17.1))
   (j17 v17.1)
def Dd (N : Nat) (p1 : Ah) (v4 : (List Int)) (j11 : ((List Ah)) → Option ((List Ah) × Int)) : Nat → ((List Ah) × Int) → Option ((List Ah) × Int)
 | 0, _ => none
 | n11 + 1, v11 =>
  AW ((decide (v11.2 < (CJ .i64 1 ((v4.length : Int))))))
   ((BA N p1.fBase).bind fun v14 =>
   (BA N p1.fNext).bind fun v15 =>
   (BM N p1.fHeld).bind fun v16 =>
   Db N v4 v11 (fun (v18 : (List Int)) =>
    (DN (v11.1.length + (([(Ah.mk v14 v18 v16)] : List Ah)).length ≤ D2)).bind fun _ =>
    Dd N p1 v4 j11 n11 (v11.1 ++ (([(Ah.mk v14 v18 v16)] : List Ah)), (wI .i64 (v11.2 + 1)))) N (v15, 0))
   (j11 v11.1)
def G8 (N : Nat) (p0 : Ak) (p1 : Ah) : Option ((List Ah) × Int) :=
 (EV N p0 p1).bind fun v1 =>
 AW ((v1 != 0))
  (some (([] : List Ah), v1))
  (D9 N p1 (fun (v4 : (List Int)) =>
   (DN (0 ≤ (v4.length : Int))).bind fun _ =>
   Dd N p1 v4 (fun (v12 : (List Ah)) =>
    some (v12, 0)) N (([] : List Ah), 0)) N (([] : List Int), 0))
def Cc (N : Nat) (v1 : (List Ag) × Int) (v4 : AR) (v6 : Int) (v11 : (List Ag) × Int) (v17 : List Bool) (j18 : ((List Ag) × Bool) → Option ((List Ag))) : Nat → ((List Ag) × Bool × Int) → Option ((List Ag))
 | 0, _ => none
 | n18 + 1, v18 =>
  AW ((decide (v18.2.2 < (v17.length : Int))))
   (Bi (fun (v21 : (List Ag) × Bool) =>
    Cc N v1 v4 v6 v11 v17 j18 n18 (v21.1, v21.2, (wI .i64 (v18.2.2 + 1))))
   fun j21 =>
   (Bf v17 v18.2.2).bind fun v22 =>
   (DN (0 ≤ v18.2.2)).bind fun _ =>
   AW (((Fq .u8 ((El .u8 v6 v18.2.2)) 1) == 0))
    (j21 (v18.1, v18.2.1))
    (Bi (fun (v25 : Bool) =>
     Bi (fun (v27 : Bool) =>
      AW v27
       ((DN (v18.1.length + (([(Ag.mk v1.2 v11.2 v18.2.2)] : List Ag)).length ≤ D2)).bind fun _ =>
       j21 (v18.1 ++ (([(Ag.mk v1.2 v11.2 v18.2.2)] : List Ag)), v25))
       (j21 (v18.1, v25)))
     fun j27 =>
     AW ((!v22))
      (j27 (!v4.fAware))
      (j27 false))
    fun j25 =>
    AW v18.2.1
     (j25 true)
     (j25 v22)))
   (j18 (v18.1, v18.2.1))
def CF (N : Nat) (v1 : (List Ag) × Int) (v4 : AR) (v6 : Int) (v7 : Int) (j11 : ((List Ag)) → Option ((List Ag))) : Nat → ((List Ag) × Int) → Option ((List Ag))
 | 0, _ => none
 | n11 + 1, v11 =>
  AW ((decide (v11.2 < (v4.fOK.length : Int))))
   (Bi (fun (v14 : (List Ag)) =>
    CF N v1 v4 v6 v7 j11 n11 (v14, (wI .i64 (v11.2 + 1))))
   fun j14 =>
   (DN (0 ≤ v11.2)).bind fun _ =>
   AW (((Fq .u8 ((El .u8 v7 v11.2)) 1) == 0))
    (j14 v11.1)
    ((Bf v4.fOK v11.2).bind fun v17 =>
    Cc N v1 v4 v6 v11 v17 (fun (v19 : (List Ag) × Bool) =>
     Bi (fun (v31 : Bool) =>
      AW v31
       ((DN (v19.1.length + (([(Ag.mk v1.2 v11.2 ((-1)))] : List Ag)).length ≤ D2)).bind fun _ =>
       j14 (v19.1 ++ (([(Ag.mk v1.2 v11.2 ((-1)))] : List Ag))))
       (j14 v19.1))
     fun j31 =>
     AW v4.fAware
      (j31 (!v19.2))
      (j31 false)) N (v11.1, false, 0)))
   (j11 v11.1)
def DI (N : Nat) (p0 : Ak) (p1 : Ah) (j1 : ((List Ag)) → Option ((List Ag))) : Nat → ((List Ag) × Int) → Option ((List Ag))
 | 0, _ => none
 | n1 + 1, v1 =>
  AW ((decide (v1.2 < (p0.fTables.length : Int))))
   ((Bf p0.fTables v1.2).bind fun v4 =>
   (E6 N p1 v4.fFrom).bind fun v5 =>
   (E6 N p1 v4.fTo).bind fun v6 =>
   Bi (fun (v7 : Int) =>
    CF N v1 v4 v6 v7 (fun (v12 : (List Ag)) =>
     DI N p0 p1 j1 n1 (v12, (wI .i64 (v1.2 + 1)))) N (v1.1, 0))
   fun j7 =>
   (Fv N v4).bind fun v8 =>
   AW v8
    ((Bf p1.fHeld v1.2).bind fun v10 =>
    j7 v10)
    (j7 v5))
   (j1 v1.1)
def FI (N : Nat) (p0 : Ak) (p1 : Ah) : Option ((List Ag)) :=
 DI N p0 p1 (fun (v2 : (List Ag)) =>
  some v2) N (([] : List Ag), 0)
def EQ (N : Nat) (p0 : Ak) (v1 : (List Ah) × Int) (j3 : Unit → Option (Ah × Ag × Int)) : Nat → Int → Option (Ah × Ag × Int)
 | 0, _ => none
 | n3 + 1, v3 =>
  AW ((decide (v3 < (v1.1.length : Int))))
   ((Bf v1.1 v3).bind fun v6 =>
   (FI N p0 v6).bind fun v7 =>
   AW ((decide (0 < (v7.length : Int))))
    ((Bf v7 0).bind fun v9 =>
    some (v6, v9, 0))
    (EQ N p0 v1 j3 n3 (wI .i64 (v3 + 1))))
   (j3 ())
def GI (N : Nat) (p0 : Ak) (p1 : Ah) : Option (Ah × Ag × Int) :=
 (G8 N p0 p1).bind fun v1 =>
 AW ((v1.2 != 0))
  (some ((Ah.mk (([] : List Int)) (([] : List Int)) (([] : List Int))), (Ag.mk 0 0 0), v1.2))
  (EQ N p0 v1 (fun (_ : Unit) =>
   some ((Ah.mk (([] : List Int)) (([] : List Int)) (([] : List Int))), (Ag.mk 0 0 0), 15)) N 0)
def Fy (N : Nat) (p0 : Ak) (p1 : Ah) : Option (Bool × Int) :=
 (GI N p0 p1).bind fun v1 =>
 AW ((v1.2.2 == 0))
  (some (false, 0))
  (AW ((v1.2.2 == 15))
   (some (true, 0))
   (some (false, v1.2.2)))
def I3 (N : Nat) (p0 : Ak) : Option (Ah × Bool × Int) :=
 (IN N p0).bind fun v1 =>
 AW ((v1.2 != 0))
  (some ((Ah.mk (([] : List Int)) (([] : List Int)) (([] : List Int))), false, v1.2))
  ((Fy N p0 v1.1).bind fun v3 =>
  some (v1.1, v3.1, v3.2))
def Hk (N : Nat) (p0 : Ah) (j1 : ((List Int)) → Option ByteArray) : Nat → ((List Int) × Int) → Option ByteArray
 | 0, _ => none
 | n1 + 1, v1 =>
  AW ((decide (v1.2 < (p0.fBase.length : Int))))
   ((Bf p0.fBase v1.2).bind fun v4 =>
   (Bf p0.fNext v1.2).bind fun v5 =>
   (DN (v1.1.length + (([(wI .u8 v4), (wI .u8 ((wI .i64 (v5 + 1))))] : List Int)).length ≤ D2)).bind fun _ =>
   Hk N p0 j1 n1 (v1.1 ++ (([(wI .u8 v4), (wI .u8 ((wI .i64 (v5 + 1))))] : List Int)), (wI .i64 (v1.2 + 1))))
   (j1 v1.1)
def Hl (N : Nat) (p0 : Ah) (j7 : ((List Int)) → Option ByteArray) : Nat → ((List Int) × Int) → Option ByteArray
 | 0, _ => none
 | n7 + 1, v7 =>
  AW ((decide (v7.2 < (p0.fHeld.length : Int))))
   ((Bf p0.fHeld v7.2).bind fun v10 =>
   (DN (v7.1.length + (([v10] : List Int)).length ≤ D2)).bind fun _ =>
   Hl N p0 j7 n7 (v7.1 ++ (([v10] : List Int)), (wI .i64 (v7.2 + 1))))
   (j7 v7.1)
def HQ (N : Nat) (p0 : Ah) : Option ByteArray :=
 Hk N p0 (fun (v2 : (List Int)) =>
  Hl N p0 (fun (v8 : (List Int)) =>
   some ((JA v8))) N (v2, 0)) N (([] : List Int), 0)
def EJ (N : Nat) (v1 : (List Av) × Int) (v4 : Int) (j5 : ((List Av)) → Option ((List Av))) : Nat → ((List Av) × Int) → Option ((List Av))
 | 0, _ => none
 | n5 + 1, v5 =>
  AW ((decide (v5.2 < v4)))
   ((DN (v5.1.length + (([(Av.mk 1 v1.2 v5.2)] : List Av)).length ≤ D2)).bind fun _ =>
   EJ N v1 v4 j5 n5 (v5.1 ++ (([(Av.mk 1 v1.2 v5.2)] : List Av)), (wI .i64 (v5.2 + 1))))
   (j5 v5.1)
def Dq (N : Nat) (p0 : Ak) (j1 : ((List Av)) → Option ((List Av))) : Nat → ((List Av) × Int) → Option ((List Av))
 | 0, _ => none
 | n1 + 1, v1 =>
  AW ((decide (v1.2 < (p0.fVersions.length : Int))))
   ((Bf p0.fVersions v1.2).bind fun v4 =>
   EJ N v1 v4 (fun (v6 : (List Av)) =>
    Dq N p0 j1 n1 (v6, (wI .i64 (v1.2 + 1)))) N (v1.1, 0))
   (j1 v1.1)
def CD (N : Nat) (p0 : Ak) (j9 : ((List Av)) → Option ((List Av))) : Nat → ((List Av) × Int) → Option ((List Av))
 | 0, _ => none
 | n9 + 1, v9 =>
  AW ((decide (v9.2 < (p0.fVersions.length : Int))))
   ((DN (v9.1.length + (([(Av.mk 2 v9.2 0)] : List Av)).length ≤ D2)).bind fun _ =>
   CD N p0 j9 n9 (v9.1 ++ (([(Av.mk 2 v9.2 0)] : List Av)), (wI .i64 (v9.2 + 1))))
   (j9 v9.1)
def BK (N : Nat) (p0 : Ak) (j13 : ((List Av)) → Option ((List Av))) : Nat → ((List Av) × Int) → Option ((List Av))
 | 0, _ => none
 | n13 + 1, v13 =>
  AW ((decide (v13.2 < (p0.fTables.length : Int))))
   ((DN (v13.1.length + (([(Av.mk 3 v13.2 0)] : List Av)).length ≤ D2)).bind fun _ =>
   BK N p0 j13 n13 (v13.1 ++ (([(Av.mk 3 v13.2 0)] : List Av)), (wI .i64 (v13.2 + 1))))
   (j13 v13.1)
def Im (N : Nat) (p0 : Ak) : Option ((List Av)) :=
 Dq N p0 (fun (v2 : (List Av)) =>
  CD N p0 (fun (v10 : (List Av)) =>
   BK N p0 (fun (v14 : (List Av)) =>
    some v14) N (v10, 0)) N (v2, 0)) N (([] : List Av), 0)
def Gu (N : Nat) (p0 : Ah) : Option Ah :=
 (BA N p0.fBase).bind fun v1 =>
 (BA N p0.fNext).bind fun v2 =>
 (BM N p0.fHeld).bind fun v3 =>
 some ((Ah.mk v1 v2 v3))
def FH (_ : Nat) (p0 : AR) : Option Bool :=
 Bi (fun (v1 : Bool) =>
  some v1)
 fun j1 =>
 AW ((p0.fKind == 3))
  (j1 true)
  (j1 (p0.fKind == 4))
def D6 (N : Nat) (p0 : Ak) (p2 : Av) (j7 : ((List Int)) → Option (Bool × (List Int) × (List Int))) : Nat → ((List Int) × Int) → Option (Bool × (List Int) × (List Int))
 | 0, _ => none
 | n7 + 1, v7 =>
  AW ((decide (v7.2 < (p0.fTables.length : Int))))
   (Bi (fun (v10 : (List Int)) =>
    D6 N p0 p2 j7 n7 (v10, (wI .i64 (v7.2 + 1))))
   fun j10 =>
   (Bf p0.fTables v7.2).bind fun v11 =>
   Bi (fun (v12 : Bool) =>
    AW v12
     ((Bf v7.1 v7.2).bind fun v16 =>
     (DN (0 ≤ p2.fVersion)).bind fun _ =>
     (Bf v7.1 v7.2).bind fun _ =>
     j10 (v7.1.set ((v7.2).toNat) ((MC .u8 v16 ((CJ .u8 1 p2.fVersion))))))
     (j10 v7.1))
   fun j12 =>
   AW ((v11.fFrom == p2.fIndex))
    ((FH N v11).bind fun v14 =>
    j12 v14)
    (j12 false))
   (j7 v7.1)
def Ig (N : Nat) (p0 : Ak) (p1 : Ah) (p2 : Av) : Option (Bool × (List Int) × (List Int)) :=
 Bi (fun (v1 : Bool) =>
  AW v1
   (some (false, p1.fNext, p1.fHeld))
   ((Bf p1.fNext p2.fIndex).bind fun _ =>
   D6 N p0 p2 (fun (v8 : (List Int)) =>
    some (true, p1.fNext.set ((p2.fIndex).toNat) p2.fVersion, v8)) N (p1.fHeld, 0)))
 fun j1 =>
 (Bf p1.fNext p2.fIndex).bind fun v2 =>
 AW ((decide (0 ≤ v2)))
  (j1 true)
  ((Bf p1.fBase p2.fIndex).bind fun v4 =>
  j1 (v4 == p2.fVersion))
def F3 (_ : Nat) (p0 : Ah) (p1 : Int) : Option Int :=
 (Bf p0.fBase p1).bind fun v1 =>
 (DN (0 ≤ v1)).bind fun _ =>
 Bi (fun (v3 : Int) =>
  some v3)
 fun j3 =>
 (Bf p0.fNext p1).bind fun v4 =>
 AW ((decide (0 ≤ v4)))
  ((Bf p0.fNext p1).bind fun v6 =>
  (DN (0 ≤ v6)).bind fun _ =>
  j3 (MC .u8 ((CJ .u8 1 v1)) ((CJ .u8 1 v6))))
  (j3 (CJ .u8 1 v1))
def Dc (_ : Nat) (p0 : Int) : Option Int :=
 (Tg ((⟨⟨(List.append (List.append [8, 0, 1, 0, 2, 0, 1, 0, 3, 0, 1, 0, 2, 0, 1, 0, 4, 0, 1, 0, 2, 0, 1, 0, 3, 0, 1, 0, 2, 0, 1, 0, 5, 0, 1, 0, 2, 0, 1, 0, 3, 0, 1, 0, 2, 0, 1, 0, 4, 0, 1, 0, 2, 0, 1, 0, 3, 0, 1, 0, 2, 0, 1, 0] [6, 0, 1, 0, 2, 0, 1, 0, 3, 0, 1, 0, 2, 0, 1, 0, 4, 0, 1, 0, 2, 0, 1, 0, 3, 0, 1, 0, 2, 0, 1, 0, 5, 0, 1, 0, 2, 0, 1, 0, 3, 0, 1, 0, 2, 0, 1, 0, 4, 0, 1, 0, 2, 0, 1, 0, 3, 0, 1, 0, 2, 0, 1, 0]) (List.append [7, 0, 1, 0, 2, 0, 1, 0, 3, 0, 1, 0, 2, 0, 1, 0, 4, 0, 1, 0, 2, 0, 1, 0, 3, 0, 1, 0, 2, 0, 1, 0, 5, 0, 1, 0, 2, 0, 1, 0, 3, 0, 1, 0, 2, 0, 1, 0, 4, 0, 1, 0, 2, 0, 1, 0, 3, 0, 1, 0, 2, 0, 1, 0] [6, 0, 1, 0, 2, 0, 1, 0, 3, 0, 1, 0, 2, 0, 1, 0, 4, 0, 1, 0, 2, 0, 1, 0, 3, 0, 1, 0, 2, 0, 1, 0, 5, 0, 1, 0, 2, 0, 1, 0, 3, 0, 1, 0, 2, 0, 1, 0, 4, 0, 1, 0, 2, 0, 1, 0, 3, 0, 1, 0, 2, 0, 1, 0]))⟩⟩ : ByteArray)) p0).bind fun v1 =>
 some ((wI .i64 v1))
def DR (N : Nat) (p0 : AR) (p2 : Int) (j1 : Unit → Option Bool) : Nat → Int → Option Bool
 | 0, _ => none
 | n1 + 1, v1 =>
  AW ((v1 != 0))
   ((Dc N v1).bind fun v4 =>
   (Bf p0.fRewrite v4).bind fun v5 =>
   (Bf v5 p2).bind fun v6 =>
   AW ((!v6))
    (some false)
    (DR N p0 p2 j1 n1 (Fq .u8 v1 ((wI .u8 (v1 - 1))))))
   (j1 ())
def FY (N : Nat) (p0 : AR) (p1 : Int) (p2 : Int) : Option Bool :=
 DR N p0 p2 (fun (_ : Unit) =>
  some true) N p1
def Hc (N : Nat) (p0 : Ak) (p1 : Ah) (p2 : Int) : Option (Bool × (List Int)) :=
 (Bf p0.fTables p2).bind fun v1 =>
 (FH N v1).bind fun v2 =>
 AW ((!v2))
  (some (false, p1.fHeld))
  ((F3 N p1 v1.fFrom).bind fun v4 =>
  (Bf p1.fHeld p2).bind fun v5 =>
  Bi (fun (v6 : Bool) =>
   AW v6
    (some (false, p1.fHeld))
    ((Bf p1.fHeld p2).bind fun _ =>
    some (true, p1.fHeld.set ((p2).toNat) v4)))
  fun j6 =>
  (Bf p1.fHeld p2).bind fun v7 =>
  AW ((v7 == v4))
   (j6 true)
   (AW ((v1.fKind == 4))
    ((Bf p1.fBase v1.fFrom).bind fun v10 =>
    (FY N v1 ((Dz .u8 v5 v4)) v10).bind fun v11 =>
    j6 (!v11))
    (j6 false)))
def Fx (N : Nat) (p0 : Ak) (p1 : Ah) (p2 : Av) : Option (Ah × Bool) :=
 (Gu N p1).bind fun v1 =>
 AW ((p2.fKind == 1))
  ((Ig N p0 v1 p2).bind fun v3 =>
  some ((Ah.mk v1.fBase v3.2.1 v3.2.2), v3.1))
  (AW ((p2.fKind == 3))
   ((Hc N p0 v1 p2.fIndex).bind fun v5 =>
   some ((Ah.mk v1.fBase v1.fNext v5.2), v5.1))
   ((Bf v1.fNext p2.fIndex).bind fun v6 =>
   AW ((decide (v6 < 0)))
    (some (v1, false))
    ((Bf v1.fNext p2.fIndex).bind fun _ =>
    Bi (fun (v9 : (List Int)) =>
     some ((Ah.mk v9 (v1.fNext.set ((p2.fIndex).toNat) ((-1))) v1.fHeld), true))
    fun j9 =>
    AW ((p2.fKind == 2))
     ((Bf v1.fBase p2.fIndex).bind fun _ =>
     j9 (v1.fBase.set ((p2.fIndex).toNat) v6))
     (j9 v1.fBase))))
def DL (N : Nat) (p0 : Av) (p1 : List Int) (p2 : List Int) (p3 : List Int) (p4 : List AR) (p5 : List Int) (p6 : List Int) (p7 : List Int) : Option Bool :=
 (Fx N ((Ak.mk p1 p2 p3 p4)) ((Ah.mk p5 p6 p7)) p0).bind fun v1 =>
 some ((!v1.2))
def Bm (N : Nat) (p0 : List Av) (p1 : Av → Option Bool) (j1 : Unit → Option Int) : Nat → Int → Option Int
 | 0, _ => none
 | n1 + 1, v1 =>
  AW ((decide (v1 < (p0.length : Int))))
   ((Bf p0 v1).bind fun v4 =>
   (p1 v4).bind fun v5 =>
   AW v5
    (some v1)
    (Bm N p0 p1 j1 n1 (wI .i64 (v1 + 1))))
   (j1 ())
def B0 (N : Nat) (p0 : List Av) (p1 : Av → Option Bool) : Option Int :=
 Bm N p0 p1 (fun (_ : Unit) =>
  some ((-1))) N 0
def Bc (N : Nat) (p1 : Av → Option Bool) (j3 : ((List Av) × Int) → Option (Nat × (List Av))) : Nat → ((List Av) × Int × Int) → Option (Nat × (List Av))
 | 0, _ => none
 | n3 + 1, v3 =>
  AW ((decide (v3.2.2 < (v3.1.length : Int))))
   (Bi (fun (v6 : (List Av) × Int) =>
    Bc N p1 j3 n3 (v6.1, v6.2, (wI .i64 (v3.2.2 + 1))))
   fun j6 =>
   (Bf v3.1 v3.2.2).bind fun v7 =>
   (p1 v7).bind fun v8 =>
   AW ((!v8))
    ((Bf v3.1 v3.2.1).bind fun _ =>
    j6 (v3.1.set ((v3.2.1).toNat) v7, (wI .i64 (v3.2.1 + 1))))
    (j6 (v3.1, v3.2.1)))
   (j3 (v3.1, v3.2.1))
def BX (N : Nat) (p0 : List Av) (p1 : Av → Option Bool) : Option (Nat × (List Av)) :=
 (B0 N p0 p1).bind fun v1 =>
 AW ((v1 == (-1)))
  (some (p0.length, p0))
  (Bc N p1 (fun (v4 : (List Av) × Int) =>
   (DN ((0 : Int) ≤ v4.2 ∧ (v4.2).toNat ≤ v4.1.length ∧ v4.1.length ≤ v4.1.length)).bind fun _ =>
   (DN ((0 : Int) ≤ v4.2 ∧ 0 ≤ (v4.2).toNat ∧ (v4.2).toNat ≤ (H5 v4.1 ((v4.2).toNat) (List.replicate ((v4.1.length - (v4.2).toNat)) ((Av.mk 0 0 0)))).length)).bind fun _ =>
   some ((v4.2).toNat, H5 v4.1 ((v4.2).toNat) (List.replicate ((v4.1.length - (v4.2).toNat)) ((Av.mk 0 0 0))))) N (p0, v1, (wI .i64 (v1 + 1))))
def DX (N : Nat) (p0 : Ak) (p1 : Ah) : Option ((List Av) × Int) :=
 (EV N p0 p1).bind fun v1 =>
 AW ((v1 != 0))
  (some (([] : List Av), v1))
  ((Im N p0).bind fun v3 =>
  (BX N v3 ((fun (x : Av) => DL N x p0.fVersions p0.fNow p0.fTarget p0.fTables p1.fBase p1.fNext p1.fHeld))).bind fun v4 =>
  (DN (v4.1 ≤ v4.2.length)).bind fun _ =>
  some (v4.2.take v4.1, 0))
def Ha (_ : Nat) (p0 : Av) : Option Bool :=
 Bi (fun (v1 : Bool) =>
  AW v1
   (some false)
   (Bi (fun (v5 : Bool) =>
    some v5)
   fun j5 =>
   AW ((p0.fKind == 1))
    (j5 true)
    (j5 (p0.fVersion == 0))))
 fun j1 =>
 AW ((decide ((Vn p0.fIndex p0.fVersion) < 0)))
  (j1 true)
  (AW ((decide (p0.fKind < 1)))
   (j1 true)
   (j1 (decide (4 < p0.fKind))))
def GE (_ : Nat) (p0 : Ak) (p1 : Av) : Option Bool :=
 AW ((p1.fKind == 3))
  (some ((decide (p1.fIndex < (p0.fTables.length : Int)))))
  (Bi (fun (v2 : Bool) =>
   some v2)
  fun j2 =>
  AW ((decide (p1.fIndex < (p0.fVersions.length : Int))))
   (AW ((p1.fKind != 1))
    (j2 true)
    ((Bf p0.fVersions p1.fIndex).bind fun v5 =>
    j2 (decide (p1.fVersion < v5))))
   (j2 false))
def Hg (N : Nat) (p0 : Ak) (p1 : Ah) (p2 : Av) : Option (Ah × Int) :=
 (Ha N p2).bind fun v1 =>
 AW ((!v1))
  (some ((Ah.mk (([] : List Int)) (([] : List Int)) (([] : List Int))), 1))
  ((GE N p0 p2).bind fun v3 =>
  AW ((!v3))
   (some ((Ah.mk (([] : List Int)) (([] : List Int)) (([] : List Int))), 4))
   ((Fx N p0 p1 p2).bind fun v5 =>
   AW ((!v5.2))
    (some ((Ah.mk (([] : List Int)) (([] : List Int)) (([] : List Int))), 11))
    (some (v5.1, 0))))
def FA (N : Nat) (p0 : Ak) (p1 : Ah) (p2 : Av) : Option (Ah × Int) :=
 (EV N p0 p1).bind fun v1 =>
 AW ((v1 != 0))
  (some ((Ah.mk (([] : List Int)) (([] : List Int)) (([] : List Int))), v1))
  ((Hg N p0 p1 p2).bind fun v3 =>
  some (v3.1, v3.2))
def GO (N : Nat) (p0 : Ak) (p1 : Ah) (v1 : (List Av) × Int) (j2 : ((List Av) × (List Ah)) → Option ((List Av) × (List Ah))) : Nat → ((List Av) × (List Ah) × Int) → Option ((List Av) × (List Ah))
 | 0, _ => none
 | n2 + 1, v2 =>
  AW ((decide (v2.2.2 < (v1.1.length : Int))))
   (Bi (fun (v5 : (List Av) × (List Ah)) =>
    GO N p0 p1 v1 j2 n2 (v5.1, v5.2, (wI .i64 (v2.2.2 + 1))))
   fun j5 =>
   (Bf v1.1 v2.2.2).bind fun v6 =>
   (FA N p0 p1 v6).bind fun v7 =>
   AW ((v7.2 != 0))
    (j5 (v2.1, v2.2.1))
    ((Fy N p0 v7.1).bind fun v9 =>
    AW v9.1
     ((DN (v2.1.length + (([v6] : List Av)).length ≤ D2)).bind fun _ =>
     (DN (v2.2.1.length + (([v7.1] : List Ah)).length ≤ D2)).bind fun _ =>
     j5 (v2.1 ++ (([v6] : List Av)), v2.2.1 ++ (([v7.1] : List Ah))))
     (j5 (v2.1, v2.2.1))))
   (j2 (v2.1, v2.2.1))
def JL (N : Nat) (p0 : Ak) (p1 : Ah) : Option ((List Av) × (List Ah)) :=
 (DX N p0 p1).bind fun v1 =>
 GO N p0 p1 v1 (fun (v3 : (List Av) × (List Ah)) =>
  some (v3.1, v3.2)) N (([] : List Av), ([] : List Ah), 0)
def Ho (_ : Nat) (p0 : Int) : Option Int :=
 Bi (fun (v1 : Int × Int) =>
  Bi (fun (v3 : Int × Int) =>
   (Tg ((⟨⟨(List.append (List.append [0, 1, 2, 2, 3, 3, 3, 3, 4, 4, 4, 4, 4, 4, 4, 4, 5, 5, 5, 5, 5, 5, 5, 5, 5, 5, 5, 5, 5, 5, 5, 5, 6, 6, 6, 6, 6, 6, 6, 6, 6, 6, 6, 6, 6, 6, 6, 6, 6, 6, 6, 6, 6, 6, 6, 6, 6, 6, 6, 6, 6, 6, 6, 6] [7, 7, 7, 7, 7, 7, 7, 7, 7, 7, 7, 7, 7, 7, 7, 7, 7, 7, 7, 7, 7, 7, 7, 7, 7, 7, 7, 7, 7, 7, 7, 7, 7, 7, 7, 7, 7, 7, 7, 7, 7, 7, 7, 7, 7, 7, 7, 7, 7, 7, 7, 7, 7, 7, 7, 7, 7, 7, 7, 7, 7, 7, 7, 7]) (List.append [8, 8, 8, 8, 8, 8, 8, 8, 8, 8, 8, 8, 8, 8, 8, 8, 8, 8, 8, 8, 8, 8, 8, 8, 8, 8, 8, 8, 8, 8, 8, 8, 8, 8, 8, 8, 8, 8, 8, 8, 8, 8, 8, 8, 8, 8, 8, 8, 8, 8, 8, 8, 8, 8, 8, 8, 8, 8, 8, 8, 8, 8, 8, 8] [8, 8, 8, 8, 8, 8, 8, 8, 8, 8, 8, 8, 8, 8, 8, 8, 8, 8, 8, 8, 8, 8, 8, 8, 8, 8, 8, 8, 8, 8, 8, 8, 8, 8, 8, 8, 8, 8, 8, 8, 8, 8, 8, 8, 8, 8, 8, 8, 8, 8, 8, 8, 8, 8, 8, 8, 8, 8, 8, 8, 8, 8, 8, 8]))⟩⟩ : ByteArray)) ((wI .u8 v3.1))).bind fun v5 =>
   some ((wI .i64 (v3.2 + (wI .i64 v5)))))
  fun j3 =>
  AW ((decide (256 ≤ v1.1)))
   (j3 ((El .u32 v1.1 8), (wI .i64 (v1.2 + 8))))
   (j3 (v1.1, v1.2)))
 fun j1 =>
 AW ((decide (65536 ≤ p0)))
  (j1 ((El .u32 p0 16), 16))
  (j1 (p0, 0))
def Ht (_ : Nat) (p0 : Int) : Option Int :=
 Bi (fun (v1 : Int × Int) =>
  Bi (fun (v3 : Int × Int) =>
   Bi (fun (v5 : Int × Int) =>
    (Tg ((⟨⟨(List.append (List.append [0, 1, 2, 2, 3, 3, 3, 3, 4, 4, 4, 4, 4, 4, 4, 4, 5, 5, 5, 5, 5, 5, 5, 5, 5, 5, 5, 5, 5, 5, 5, 5, 6, 6, 6, 6, 6, 6, 6, 6, 6, 6, 6, 6, 6, 6, 6, 6, 6, 6, 6, 6, 6, 6, 6, 6, 6, 6, 6, 6, 6, 6, 6, 6] [7, 7, 7, 7, 7, 7, 7, 7, 7, 7, 7, 7, 7, 7, 7, 7, 7, 7, 7, 7, 7, 7, 7, 7, 7, 7, 7, 7, 7, 7, 7, 7, 7, 7, 7, 7, 7, 7, 7, 7, 7, 7, 7, 7, 7, 7, 7, 7, 7, 7, 7, 7, 7, 7, 7, 7, 7, 7, 7, 7, 7, 7, 7, 7]) (List.append [8, 8, 8, 8, 8, 8, 8, 8, 8, 8, 8, 8, 8, 8, 8, 8, 8, 8, 8, 8, 8, 8, 8, 8, 8, 8, 8, 8, 8, 8, 8, 8, 8, 8, 8, 8, 8, 8, 8, 8, 8, 8, 8, 8, 8, 8, 8, 8, 8, 8, 8, 8, 8, 8, 8, 8, 8, 8, 8, 8, 8, 8, 8, 8] [8, 8, 8, 8, 8, 8, 8, 8, 8, 8, 8, 8, 8, 8, 8, 8, 8, 8, 8, 8, 8, 8, 8, 8, 8, 8, 8, 8, 8, 8, 8, 8, 8, 8, 8, 8, 8, 8, 8, 8, 8, 8, 8, 8, 8, 8, 8, 8, 8, 8, 8, 8, 8, 8, 8, 8, 8, 8, 8, 8, 8, 8, 8, 8]))⟩⟩ : ByteArray)) ((wI .u8 v5.1))).bind fun v7 =>
    some ((wI .i64 (v5.2 + (wI .i64 v7)))))
   fun j5 =>
   AW ((decide (256 ≤ v3.1)))
    (j5 ((El .u64 v3.1 8), (wI .i64 (v3.2 + 8))))
    (j5 (v3.1, v3.2)))
  fun j3 =>
  AW ((decide (65536 ≤ v1.1)))
   (j3 ((El .u64 v1.1 16), (wI .i64 (v1.2 + 16))))
   (j3 (v1.1, v1.2)))
 fun j1 =>
 AW ((decide (4294967296 ≤ p0)))
  (j1 ((El .u64 p0 32), 32))
  (j1 (p0, 0))
def DB (N : Nat) (p0 : Int) : Option Int :=
 AW false
  ((Ho N ((wI .u32 p0))).bind fun v2 =>
  some v2)
  ((Ht N p0).bind fun v3 =>
  some v3)
variable {α : Type}
def Gs.insertionSort_L4 (N : Nat) (p1 : Int) (p3 : (α × α) → Option Int) (j4 : ((List α)) → Option ((List α))) : Nat → ((List α) × Int) → Option ((List α))
 | 0, _ => none
 | n4 + 1, v4 =>
  Bi (fun (v6 : Bool) =>
   AW v6
    ((Bf v4.1 ((wI .i64 (v4.2 - 1)))).bind fun v12 =>
    (Bf v4.1 v4.2).bind fun v13 =>
    (Bf v4.1 v4.2).bind fun _ =>
    (Bf (v4.1.set ((v4.2).toNat) v12) ((wI .i64 (v4.2 - 1)))).bind fun _ =>
    Gs.insertionSort_L4 N p1 p3 j4 n4 ((v4.1.set ((v4.2).toNat) v12).set (((wI .i64 (v4.2 - 1))).toNat) v13, (wI .i64 (v4.2 - 1))))
    (j4 v4.1))
  fun j6 =>
  AW ((decide (p1 < v4.2)))
   ((Bf v4.1 v4.2).bind fun v8 =>
   (Bf v4.1 ((wI .i64 (v4.2 - 1)))).bind fun v9 =>
   (p3 ((v8, v9))).bind fun v10 =>
   j6 (decide (v10 < 0)))
   (j6 false)
def Gs.insertionSort_L1 (N : Nat) (p1 : Int) (p2 : Int) (p3 : (α × α) → Option Int) (j1 : ((List α)) → Option ((List α))) : Nat → ((List α) × Int) → Option ((List α))
 | 0, _ => none
 | n1 + 1, v1 =>
  AW ((decide (v1.2 < p2)))
   (Gs.insertionSort_L4 N p1 p3 (fun (v5 : (List α)) =>
    Gs.insertionSort_L1 N p1 p2 p3 j1 n1 (v5, (wI .i64 (v1.2 + 1)))) N (v1.1, v1.2))
   (j1 v1.1)
def Gs.insertionSort (N : Nat) (p0 : List α) (p1 : Int) (p2 : Int) (p3 : (α × α) → Option Int) : Option ((List α)) :=
 Gs.insertionSort_L1 N p1 p2 p3 (fun (v2 : (List α)) =>
  some v2) N (p0, (wI .i64 (p1 + 1)))
def Gs.siftDown_L1 (N : Nat) (p2 : Int) (p3 : Int) (p4 : (α × α) → Option Int) (j1 : ((List α)) → Option ((List α))) : Nat → ((List α) × Int) → Option ((List α))
 | 0, _ => none
 | n1 + 1, v1 =>
  AW ((decide (p2 ≤ (wI .i64 ((wI .i64 (2 * v1.2)) + 1)))))
   (j1 v1.1)
   (Bi (fun (v4 : Int) =>
    (Bf v1.1 ((wI .i64 (p3 + v1.2)))).bind fun v11 =>
    (Bf v1.1 ((wI .i64 (p3 + v4)))).bind fun v12 =>
    (p4 ((v11, v12))).bind fun v13 =>
    AW ((!((decide (v13 < 0)))))
     (some v1.1)
     ((Bf v1.1 ((wI .i64 (p3 + v4)))).bind fun v15 =>
     (Bf v1.1 ((wI .i64 (p3 + v1.2)))).bind fun v16 =>
     (Bf v1.1 ((wI .i64 (p3 + v1.2)))).bind fun _ =>
     (Bf (v1.1.set (((wI .i64 (p3 + v1.2))).toNat) v15) ((wI .i64 (p3 + v4)))).bind fun _ =>
     Gs.siftDown_L1 N p2 p3 p4 j1 n1 ((v1.1.set (((wI .i64 (p3 + v1.2))).toNat) v15).set (((wI .i64 (p3 + v4))).toNat) v16, v4)))
   fun j4 =>
   Bi (fun (v5 : Bool) =>
    AW v5
     (j4 (wI .i64 ((wI .i64 ((wI .i64 (2 * v1.2)) + 1)) + 1)))
     (j4 (wI .i64 ((wI .i64 (2 * v1.2)) + 1))))
   fun j5 =>
   AW ((decide ((wI .i64 ((wI .i64 ((wI .i64 (2 * v1.2)) + 1)) + 1)) < p2)))
    ((Bf v1.1 ((wI .i64 (p3 + (wI .i64 ((wI .i64 (2 * v1.2)) + 1)))))).bind fun v7 =>
    (Bf v1.1 ((wI .i64 ((wI .i64 (p3 + (wI .i64 ((wI .i64 (2 * v1.2)) + 1)))) + 1)))).bind fun v8 =>
    (p4 ((v7, v8))).bind fun v9 =>
    j5 (decide (v9 < 0)))
    (j5 false))
def Gs.siftDown (N : Nat) (p0 : List α) (p1 : Int) (p2 : Int) (p3 : Int) (p4 : (α × α) → Option Int) : Option ((List α)) :=
 Gs.siftDown_L1 N p2 p3 p4 (fun (v2 : (List α)) =>
  some v2) N (p0, p1)
def Gs.heapSort_L1 (N : Nat) (p1 : Int) (p2 : Int) (p3 : (α × α) → Option Int) (j1 : ((List α)) → Option ((List α))) : Nat → ((List α) × Int) → Option ((List α))
 | 0, _ => none
 | n1 + 1, v1 =>
  AW ((decide (0 ≤ v1.2)))
   ((Gs.siftDown N v1.1 v1.2 ((wI .i64 (p2 - p1))) p1 p3).bind fun v4 =>
   Gs.heapSort_L1 N p1 p2 p3 j1 n1 (v4, (wI .i64 (v1.2 - 1))))
   (j1 v1.1)
def Gs.heapSort_L5 (N : Nat) (p1 : Int) (p3 : (α × α) → Option Int) (j5 : ((List α)) → Option ((List α))) : Nat → ((List α) × Int) → Option ((List α))
 | 0, _ => none
 | n5 + 1, v5 =>
  AW ((decide (0 ≤ v5.2)))
   ((Bf v5.1 ((wI .i64 (p1 + v5.2)))).bind fun v8 =>
   (Bf v5.1 p1).bind fun v9 =>
   (Bf v5.1 p1).bind fun _ =>
   (Bf (v5.1.set ((p1).toNat) v8) ((wI .i64 (p1 + v5.2)))).bind fun _ =>
   (Gs.siftDown N ((v5.1.set ((p1).toNat) v8).set (((wI .i64 (p1 + v5.2))).toNat) v9) 0 v5.2 p1 p3).bind fun v12 =>
   Gs.heapSort_L5 N p1 p3 j5 n5 (v12, (wI .i64 (v5.2 - 1))))
   (j5 v5.1)
def Gs.heapSort (N : Nat) (p0 : List α) (p1 : Int) (p2 : Int) (p3 : (α × α) → Option Int) : Option ((List α)) :=
 Gs.heapSort_L1 N p1 p2 p3 (fun (v2 : (List α)) =>
  Gs.heapSort_L5 N p1 p3 (fun (v6 : (List α)) =>
   some v6) N (v2, (wI .i64 ((wI .i64 (p2 - p1)) - 1)))) N (p0, (wI .i64 (Int.tdiv ((wI .i64 ((wI .i64 (p2 - p1)) - 1))) 2)))
def DV (N : Nat) (p0 : Int) : Option Int :=
 (DB N ((wI .u64 p0))).bind fun v1 =>
 (DN (0 ≤ v1)).bind fun _ =>
 some ((CJ .u64 1 v1))
def Ea (_ : Nat) (p0 : Int) : Option (Int × Int) :=
 some ((Hh .u64 ((Hh .u64 ((Hh .u64 p0 ((CJ .u64 p0 13)))) ((El .u64 ((Hh .u64 p0 ((CJ .u64 p0 13)))) 7)))) ((CJ .u64 ((Hh .u64 ((Hh .u64 p0 ((CJ .u64 p0 13)))) ((El .u64 ((Hh .u64 p0 ((CJ .u64 p0 13)))) 7)))) 17))), (Hh .u64 ((Hh .u64 ((Hh .u64 p0 ((CJ .u64 p0 13)))) ((El .u64 ((Hh .u64 p0 ((CJ .u64 p0 13)))) 7)))) ((CJ .u64 ((Hh .u64 ((Hh .u64 p0 ((CJ .u64 p0 13)))) ((El .u64 ((Hh .u64 p0 ((CJ .u64 p0 13)))) 7)))) 17))))
def Gs.breakPatterns_L3 (N : Nat) (p1 : Int) (p2 : Int) (v2 : Int) (j3 : ((List α)) → Option ((List α))) : Nat → ((List α) × Int × Int) → Option ((List α))
 | 0, _ => none
 | n3 + 1, v3 =>
  AW ((decide (v3.2.2 ≤ (wI .i64 ((wI .i64 (p1 + (wI .i64 ((wI .i64 (Int.tdiv ((wI .i64 (p2 - p1))) 4)) * 2)))) + 1)))))
   ((Ea N v3.2.1).bind fun v6 =>
   Bi (fun (v7 : Int) =>
    (Bf v3.1 ((wI .i64 (p1 + v7)))).bind fun v9 =>
    (Bf v3.1 v3.2.2).bind fun v10 =>
    (Bf v3.1 v3.2.2).bind fun _ =>
    (Bf (v3.1.set ((v3.2.2).toNat) v9) ((wI .i64 (p1 + v7)))).bind fun _ =>
    Gs.breakPatterns_L3 N p1 p2 v2 j3 n3 ((v3.1.set ((v3.2.2).toNat) v9).set (((wI .i64 (p1 + v7))).toNat) v10, v6.2, (wI .i64 (v3.2.2 + 1))))
   fun j7 =>
   AW ((decide ((wI .i64 (p2 - p1)) ≤ (wI .i64 ((Fq .u64 v6.1 ((wI .u64 (v2 - 1)))))))))
    (j7 (wI .i64 ((wI .i64 ((Fq .u64 v6.1 ((wI .u64 (v2 - 1)))))) - (wI .i64 (p2 - p1)))))
    (j7 (wI .i64 ((Fq .u64 v6.1 ((wI .u64 (v2 - 1))))))))
   (j3 v3.1)
def Gs.breakPatterns (N : Nat) (p0 : List α) (p1 : Int) (p2 : Int) (_ : (α × α) → Option Int) : Option ((List α)) :=
 AW ((decide (8 ≤ (wI .i64 (p2 - p1)))))
  ((DV N ((wI .i64 (p2 - p1)))).bind fun v2 =>
  Gs.breakPatterns_L3 N p1 p2 v2 (fun (v4 : (List α)) =>
   some v4) N (p0, (wI .u64 ((wI .i64 (p2 - p1)))), (wI .i64 ((wI .i64 (p1 + (wI .i64 ((wI .i64 (Int.tdiv ((wI .i64 (p2 - p1))) 4)) * 2)))) - 1))))
  (some p0)
def Gs.order2 (_ : Nat) (p0 : List α) (p1 : Int) (p2 : Int) (p3 : Int) (p4 : (α × α) → Option Int) : Option (Int × Int × Int) :=
 (Bf p0 p2).bind fun v1 =>
 (Bf p0 p1).bind fun v2 =>
 (p4 ((v1, v2))).bind fun v3 =>
 AW ((decide (v3 < 0)))
  (some (p2, p1, (wI .i64 (p3 + 1))))
  (some (p1, p2, p3))
def Gs.median (N : Nat) (p0 : List α) (p1 : Int) (p2 : Int) (p3 : Int) (p4 : Int) (p5 : (α × α) → Option Int) : Option (Int × Int) :=
 (Gs.order2 N p0 p1 p2 p4 p5).bind fun v1 =>
 (Gs.order2 N p0 v1.2.1 p3 v1.2.2 p5).bind fun v2 =>
 (Gs.order2 N p0 v1.1 v2.1 v2.2.2 p5).bind fun v3 =>
 some (v3.2.1, v3.2.2)
def Gs.medianAdjacent (N : Nat) (p0 : List α) (p1 : Int) (p2 : Int) (p3 : (α × α) → Option Int) : Option (Int × Int) :=
 (Gs.median N p0 ((wI .i64 (p1 - 1))) p1 ((wI .i64 (p1 + 1))) p2 p3).bind fun v1 =>
 some (v1.1, v1.2)
def Gs.choosePivot (N : Nat) (p0 : List α) (p1 : Int) (p2 : Int) (p3 : (α × α) → Option Int) : Option (Int × Int) :=
 Bi (fun (v1 : Int × Int) =>
  AW ((v1.1 == 0))
   (some (v1.2, 1))
   (AW ((v1.1 == 12))
    (some (v1.2, 2))
    (some (v1.2, 0))))
 fun j1 =>
 AW ((decide (8 ≤ (wI .i64 (p2 - p1)))))
  (Bi (fun (v3 : Int × Int × Int × Int) =>
   (Gs.median N p0 v3.2.1 v3.2.2.1 v3.2.2.2 v3.1 p3).bind fun v8 =>
   j1 (v8.2, v8.1))
  fun j3 =>
  AW ((decide (50 ≤ (wI .i64 (p2 - p1)))))
   ((Gs.medianAdjacent N p0 ((wI .i64 (p1 + (wI .i64 ((wI .i64 (Int.tdiv ((wI .i64 (p2 - p1))) 4)) * 1))))) 0 p3).bind fun v5 =>
   (Gs.medianAdjacent N p0 ((wI .i64 (p1 + (wI .i64 ((wI .i64 (Int.tdiv ((wI .i64 (p2 - p1))) 4)) * 2))))) v5.2 p3).bind fun v6 =>
   (Gs.medianAdjacent N p0 ((wI .i64 (p1 + (wI .i64 ((wI .i64 (Int.tdiv ((wI .i64 (p2 - p1))) 4)) * 3))))) v6.2 p3).bind fun v7 =>
   j3 (v7.2, v5.1, v6.1, v7.1))
   (j3 (0, (wI .i64 (p1 + (wI .i64 ((wI .i64 (Int.tdiv ((wI .i64 (p2 - p1))) 4)) * 1)))), (wI .i64 (p1 + (wI .i64 ((wI .i64 (Int.tdiv ((wI .i64 (p2 - p1))) 4)) * 2)))), (wI .i64 (p1 + (wI .i64 ((wI .i64 (Int.tdiv ((wI .i64 (p2 - p1))) 4)) * 3)))))))
  (j1 (0, (wI .i64 (p1 + (wI .i64 ((wI .i64 (Int.tdiv ((wI .i64 (p2 - p1))) 4)) * 2))))))
def Gs.reverseRange_L1 (N : Nat) (j1 : ((List α)) → Option ((List α))) : Nat → ((List α) × Int × Int) → Option ((List α))
 | 0, _ => none
 | n1 + 1, v1 =>
  AW ((decide (v1.2.1 < v1.2.2)))
   ((Bf v1.1 v1.2.2).bind fun v4 =>
   (Bf v1.1 v1.2.1).bind fun v5 =>
   (Bf v1.1 v1.2.1).bind fun _ =>
   (Bf (v1.1.set ((v1.2.1).toNat) v4) v1.2.2).bind fun _ =>
   Gs.reverseRange_L1 N j1 n1 ((v1.1.set ((v1.2.1).toNat) v4).set ((v1.2.2).toNat) v5, (wI .i64 (v1.2.1 + 1)), (wI .i64 (v1.2.2 - 1))))
   (j1 v1.1)
def Gs.reverseRange (N : Nat) (p0 : List α) (p1 : Int) (p2 : Int) (_ : (α × α) → Option Int) : Option ((List α)) :=
 Gs.reverseRange_L1 N (fun (v2 : (List α)) =>
  some v2) N (p0, p1, (wI .i64 (p2 - 1)))
def Gs.partialInsertionSort_L5 (N : Nat) (p2 : Int) (p3 : (α × α) → Option Int) (v1 : (List α) × Int × Int) (j5 : Int → Option (Bool × (List α))) : Nat → Int → Option (Bool × (List α))
 | 0, _ => none
 | n5 + 1, v5 =>
  Bi (fun (v7 : Bool) =>
   AW v7
    (Gs.partialInsertionSort_L5 N p2 p3 v1 j5 n5 (wI .i64 (v5 + 1)))
    (j5 v5))
  fun j7 =>
  AW ((decide (v5 < p2)))
   ((Bf v1.1 v5).bind fun v9 =>
   (Bf v1.1 ((wI .i64 (v5 - 1)))).bind fun v10 =>
   (p3 ((v9, v10))).bind fun v11 =>
   j7 (!((decide (v11 < 0)))))
   (j7 false)
def Gs.partialInsertionSort_L21 (N : Nat) (p3 : (α × α) → Option Int) (j21 : ((List α)) → Option (Bool × (List α))) : Nat → ((List α) × Int) → Option (Bool × (List α))
 | 0, _ => none
 | n21 + 1, v21 =>
  AW ((decide (1 ≤ v21.2)))
   ((Bf v21.1 v21.2).bind fun v24 =>
   (Bf v21.1 ((wI .i64 (v21.2 - 1)))).bind fun v25 =>
   (p3 ((v24, v25))).bind fun v26 =>
   AW ((!((decide (v26 < 0)))))
    (j21 v21.1)
    ((Bf v21.1 ((wI .i64 (v21.2 - 1)))).bind fun v28 =>
    (Bf v21.1 v21.2).bind fun v29 =>
    (Bf v21.1 v21.2).bind fun _ =>
    (Bf (v21.1.set ((v21.2).toNat) v28) ((wI .i64 (v21.2 - 1)))).bind fun _ =>
    Gs.partialInsertionSort_L21 N p3 j21 n21 ((v21.1.set ((v21.2).toNat) v28).set (((wI .i64 (v21.2 - 1))).toNat) v29, (wI .i64 (v21.2 - 1)))))
   (j21 v21.1)
def Gs.partialInsertionSort_L33 (N : Nat) (p2 : Int) (p3 : (α × α) → Option Int) (j33 : ((List α)) → Option (Bool × (List α))) : Nat → ((List α) × Int) → Option (Bool × (List α))
 | 0, _ => none
 | n33 + 1, v33 =>
  AW ((decide (v33.2 < p2)))
   ((Bf v33.1 v33.2).bind fun v36 =>
   (Bf v33.1 ((wI .i64 (v33.2 - 1)))).bind fun v37 =>
   (p3 ((v36, v37))).bind fun v38 =>
   AW ((!((decide (v38 < 0)))))
    (j33 v33.1)
    ((Bf v33.1 ((wI .i64 (v33.2 - 1)))).bind fun v40 =>
    (Bf v33.1 v33.2).bind fun v41 =>
    (Bf v33.1 v33.2).bind fun _ =>
    (Bf (v33.1.set ((v33.2).toNat) v40) ((wI .i64 (v33.2 - 1)))).bind fun _ =>
    Gs.partialInsertionSort_L33 N p2 p3 j33 n33 ((v33.1.set ((v33.2).toNat) v40).set (((wI .i64 (v33.2 - 1))).toNat) v41, (wI .i64 (v33.2 + 1)))))
   (j33 v33.1)
def Gs.partialInsertionSort_L1 (N : Nat) (p1 : Int) (p2 : Int) (p3 : (α × α) → Option Int) (j1 : ((List α)) → Option (Bool × (List α))) : Nat → ((List α) × Int × Int) → Option (Bool × (List α))
 | 0, _ => none
 | n1 + 1, v1 =>
  AW ((decide (v1.2.2 < 5)))
   (Bi (fun (v4 : (List α) × Int) =>
    Gs.partialInsertionSort_L1 N p1 p2 p3 j1 n1 (v4.1, v4.2, (wI .i64 (v1.2.2 + 1))))
   fun j4 =>
   Gs.partialInsertionSort_L5 N p2 p3 v1 (fun (v6 : Int) =>
    AW ((v6 == p2))
     (some (true, v1.1))
     (AW ((decide ((wI .i64 (p2 - p1)) < 50)))
      (some (false, v1.1))
      ((Bf v1.1 ((wI .i64 (v6 - 1)))).bind fun v15 =>
      (Bf v1.1 v6).bind fun v16 =>
      (Bf v1.1 v6).bind fun _ =>
      (Bf (v1.1.set ((v6).toNat) v15) ((wI .i64 (v6 - 1)))).bind fun _ =>
      Bi (fun (v19 : (List α)) =>
       AW ((decide (2 ≤ (wI .i64 (p2 - v6)))))
        (Gs.partialInsertionSort_L33 N p2 p3 (fun (v34 : (List α)) =>
         j4 (v34, v6)) N (v19, (wI .i64 (v6 + 1))))
        (j4 (v19, v6)))
      fun j19 =>
      AW ((decide (2 ≤ (wI .i64 (v6 - p1)))))
       (Gs.partialInsertionSort_L21 N p3 (fun (v22 : (List α)) =>
        j19 v22) N ((v1.1.set ((v6).toNat) v15).set (((wI .i64 (v6 - 1))).toNat) v16, (wI .i64 (v6 - 1))))
       (j19 ((v1.1.set ((v6).toNat) v15).set (((wI .i64 (v6 - 1))).toNat) v16))))) N v1.2.1)
   (j1 v1.1)
def Gs.partialInsertionSort (N : Nat) (p0 : List α) (p1 : Int) (p2 : Int) (p3 : (α × α) → Option Int) : Option (Bool × (List α)) :=
 Gs.partialInsertionSort_L1 N p1 p2 p3 (fun (v2 : (List α)) =>
  some (false, v2)) N (p0, (wI .i64 (p1 + 1)), 0)
def Gs.partitionEqual_L7 (N : Nat) (p1 : Int) (p4 : (α × α) → Option Int) (v5 : (List α) × Int × Int) (j7 : Int → Option (Int × (List α))) : Nat → Int → Option (Int × (List α))
 | 0, _ => none
 | n7 + 1, v7 =>
  Bi (fun (v9 : Bool) =>
   AW v9
    (Gs.partitionEqual_L7 N p1 p4 v5 j7 n7 (wI .i64 (v7 + 1)))
    (j7 v7))
  fun j9 =>
  AW ((decide (v7 ≤ v5.2.2)))
   ((Bf v5.1 p1).bind fun v11 =>
   (Bf v5.1 v7).bind fun v12 =>
   (p4 ((v11, v12))).bind fun v13 =>
   j9 (!((decide (v13 < 0)))))
   (j9 false)
def Gs.partitionEqual_L15 (N : Nat) (p1 : Int) (p4 : (α × α) → Option Int) (v5 : (List α) × Int × Int) (v8 : Int) (j15 : Int → Option (Int × (List α))) : Nat → Int → Option (Int × (List α))
 | 0, _ => none
 | n15 + 1, v15 =>
  Bi (fun (v17 : Bool) =>
   AW v17
    (Gs.partitionEqual_L15 N p1 p4 v5 v8 j15 n15 (wI .i64 (v15 - 1)))
    (j15 v15))
  fun j17 =>
  AW ((decide (v8 ≤ v15)))
   ((Bf v5.1 p1).bind fun v19 =>
   (Bf v5.1 v15).bind fun v20 =>
   (p4 ((v19, v20))).bind fun v21 =>
   j17 (decide (v21 < 0)))
   (j17 false)
def Gs.partitionEqual_L5 (N : Nat) (p1 : Int) (p4 : (α × α) → Option Int) (j5 : ((List α) × Int) → Option (Int × (List α))) : Nat → ((List α) × Int × Int) → Option (Int × (List α))
 | 0, _ => none
 | n5 + 1, v5 =>
  Gs.partitionEqual_L7 N p1 p4 v5 (fun (v8 : Int) =>
   Gs.partitionEqual_L15 N p1 p4 v5 v8 (fun (v16 : Int) =>
    AW ((decide (v16 < v8)))
     (j5 (v5.1, v8))
     ((Bf v5.1 v16).bind fun v24 =>
     (Bf v5.1 v8).bind fun v25 =>
     (Bf v5.1 v8).bind fun _ =>
     (Bf (v5.1.set ((v8).toNat) v24) v16).bind fun _ =>
     Gs.partitionEqual_L5 N p1 p4 j5 n5 ((v5.1.set ((v8).toNat) v24).set ((v16).toNat) v25, (wI .i64 (v8 + 1)), (wI .i64 (v16 - 1))))) N v5.2.2) N v5.2.1
def Gs.partitionEqual (N : Nat) (p0 : List α) (p1 : Int) (p2 : Int) (p3 : Int) (p4 : (α × α) → Option Int) : Option (Int × (List α)) :=
 (Bf p0 p3).bind fun v1 =>
 (Bf p0 p1).bind fun v2 =>
 (Bf p0 p1).bind fun _ =>
 (Bf (p0.set ((p1).toNat) v1) p3).bind fun _ =>
 Gs.partitionEqual_L5 N p1 p4 (fun (v6 : (List α) × Int) =>
  some (v6.2, v6.1)) N ((p0.set ((p1).toNat) v1).set ((p3).toNat) v2, (wI .i64 (p1 + 1)), (wI .i64 (p2 - 1)))
def Gs.partition_L5 (N : Nat) (p0 : List α) (p1 : Int) (p2 : Int) (p3 : Int) (p4 : (α × α) → Option Int) (v1 : α) (v2 : α) (j5 : Int → Option (Int × Bool × (List α))) : Nat → Int → Option (Int × Bool × (List α))
 | 0, _ => none
 | n5 + 1, v5 =>
  Bi (fun (v7 : Bool) =>
   AW v7
    (Gs.partition_L5 N p0 p1 p2 p3 p4 v1 v2 j5 n5 (wI .i64 (v5 + 1)))
    (j5 v5))
  fun j7 =>
  AW ((decide (v5 ≤ (wI .i64 (p2 - 1)))))
   ((Bf ((p0.set ((p1).toNat) v1).set ((p3).toNat) v2) v5).bind fun v9 =>
   (Bf ((p0.set ((p1).toNat) v1).set ((p3).toNat) v2) p1).bind fun v10 =>
   (p4 ((v9, v10))).bind fun v11 =>
   j7 (decide (v11 < 0)))
   (j7 false)
def Gs.partition_L13 (N : Nat) (p0 : List α) (p1 : Int) (p3 : Int) (p4 : (α × α) → Option Int) (v1 : α) (v2 : α) (v6 : Int) (j13 : Int → Option (Int × Bool × (List α))) : Nat → Int → Option (Int × Bool × (List α))
 | 0, _ => none
 | n13 + 1, v13 =>
  Bi (fun (v15 : Bool) =>
   AW v15
    (Gs.partition_L13 N p0 p1 p3 p4 v1 v2 v6 j13 n13 (wI .i64 (v13 - 1)))
    (j13 v13))
  fun j15 =>
  AW ((decide (v6 ≤ v13)))
   ((Bf ((p0.set ((p1).toNat) v1).set ((p3).toNat) v2) v13).bind fun v17 =>
   (Bf ((p0.set ((p1).toNat) v1).set ((p3).toNat) v2) p1).bind fun v18 =>
   (p4 ((v17, v18))).bind fun v19 =>
   j15 (!((decide (v19 < 0)))))
   (j15 false)
def Gs.partition_L32 (N : Nat) (p1 : Int) (p4 : (α × α) → Option Int) (v30 : (List α) × Int × Int) (j32 : Int → Option (Int × Bool × (List α))) : Nat → Int → Option (Int × Bool × (List α))
 | 0, _ => none
 | n32 + 1, v32 =>
  Bi (fun (v34 : Bool) =>
   AW v34
    (Gs.partition_L32 N p1 p4 v30 j32 n32 (wI .i64 (v32 + 1)))
    (j32 v32))
  fun j34 =>
  AW ((decide (v32 ≤ v30.2.2)))
   ((Bf v30.1 v32).bind fun v36 =>
   (Bf v30.1 p1).bind fun v37 =>
   (p4 ((v36, v37))).bind fun v38 =>
   j34 (decide (v38 < 0)))
   (j34 false)
def Gs.partition_L40 (N : Nat) (p1 : Int) (p4 : (α × α) → Option Int) (v30 : (List α) × Int × Int) (v33 : Int) (j40 : Int → Option (Int × Bool × (List α))) : Nat → Int → Option (Int × Bool × (List α))
 | 0, _ => none
 | n40 + 1, v40 =>
  Bi (fun (v42 : Bool) =>
   AW v42
    (Gs.partition_L40 N p1 p4 v30 v33 j40 n40 (wI .i64 (v40 - 1)))
    (j40 v40))
  fun j42 =>
  AW ((decide (v33 ≤ v40)))
   ((Bf v30.1 v40).bind fun v44 =>
   (Bf v30.1 p1).bind fun v45 =>
   (p4 ((v44, v45))).bind fun v46 =>
   j42 (!((decide (v46 < 0)))))
   (j42 false)
def Gs.partition_L30 (N : Nat) (p1 : Int) (p4 : (α × α) → Option Int) (j30 : ((List α) × Int) → Option (Int × Bool × (List α))) : Nat → ((List α) × Int × Int) → Option (Int × Bool × (List α))
 | 0, _ => none
 | n30 + 1, v30 =>
  Gs.partition_L32 N p1 p4 v30 (fun (v33 : Int) =>
   Gs.partition_L40 N p1 p4 v30 v33 (fun (v41 : Int) =>
    AW ((decide (v41 < v33)))
     (j30 (v30.1, v41))
     ((Bf v30.1 v41).bind fun v49 =>
     (Bf v30.1 v33).bind fun v50 =>
     (Bf v30.1 v33).bind fun _ =>
     (Bf (v30.1.set ((v33).toNat) v49) v41).bind fun _ =>
     Gs.partition_L30 N p1 p4 j30 n30 ((v30.1.set ((v33).toNat) v49).set ((v41).toNat) v50, (wI .i64 (v33 + 1)), (wI .i64 (v41 - 1))))) N v30.2.2) N v30.2.1
def Gs.partition (N : Nat) (p0 : List α) (p1 : Int) (p2 : Int) (p3 : Int) (p4 : (α × α) → Option Int) : Option (Int × Bool × (List α)) :=
 (Bf p0 p3).bind fun v1 =>
 (Bf p0 p1).bind fun v2 =>
 (Bf p0 p1).bind fun _ =>
 (Bf (p0.set ((p1).toNat) v1) p3).bind fun _ =>
 Gs.partition_L5 N p0 p1 p2 p3 p4 v1 v2 (fun (v6 : Int) =>
  Gs.partition_L13 N p0 p1 p3 p4 v1 v2 v6 (fun (v14 : Int) =>
   AW ((decide (v14 < v6)))
    ((Bf ((p0.set ((p1).toNat) v1).set ((p3).toNat) v2) p1).bind fun v22 =>
    (Bf ((p0.set ((p1).toNat) v1).set ((p3).toNat) v2) v14).bind fun v23 =>
    (Bf ((p0.set ((p1).toNat) v1).set ((p3).toNat) v2) v14).bind fun _ =>
    (Bf (((p0.set ((p1).toNat) v1).set ((p3).toNat) v2).set ((v14).toNat) v22) p1).bind fun _ =>
    some (v14, true, (((p0.set ((p1).toNat) v1).set ((p3).toNat) v2).set ((v14).toNat) v22).set ((p1).toNat) v23))
    ((Bf ((p0.set ((p1).toNat) v1).set ((p3).toNat) v2) v14).bind fun v26 =>
    (Bf ((p0.set ((p1).toNat) v1).set ((p3).toNat) v2) v6).bind fun v27 =>
    (Bf ((p0.set ((p1).toNat) v1).set ((p3).toNat) v2) v6).bind fun _ =>
    (Bf (((p0.set ((p1).toNat) v1).set ((p3).toNat) v2).set ((v6).toNat) v26) v14).bind fun _ =>
    Gs.partition_L30 N p1 p4 (fun (v31 : (List α) × Int) =>
     (Bf v31.1 p1).bind fun v53 =>
     (Bf v31.1 v31.2).bind fun v54 =>
     (Bf v31.1 v31.2).bind fun _ =>
     (Bf (v31.1.set ((v31.2).toNat) v53) p1).bind fun _ =>
     some (v31.2, false, (v31.1.set ((v31.2).toNat) v53).set ((p1).toNat) v54)) N ((((p0.set ((p1).toNat) v1).set ((p3).toNat) v2).set ((v6).toNat) v26).set ((v14).toNat) v27, (wI .i64 (v6 + 1)), (wI .i64 (v14 - 1))))) N (wI .i64 (p2 - 1))) N (wI .i64 (p1 + 1))
def Gs.pdqsort_L1 (N : Nat) (p4 : (α × α) → Option Int) (rc : (List α) → Int → Int → Int → ((α × α) → Option Int) → Option ((List α))) (j1 : Unit → Option ((List α))) : Nat → ((List α) × Int × Int × Int × Bool × Bool) → Option ((List α))
 | 0, _ => none
 | n1 + 1, v1 =>
  AW ((decide ((wI .i64 (v1.2.2.1 - v1.2.1)) ≤ 12)))
   ((Gs.insertionSort N v1.1 v1.2.1 v1.2.2.1 p4).bind fun v4 =>
   some v4)
   (AW ((v1.2.2.2.1 == 0))
    ((Gs.heapSort N v1.1 v1.2.1 v1.2.2.1 p4).bind fun v6 =>
    some v6)
    (Bi (fun (v7 : (List α) × Int) =>
     (Gs.choosePivot N v7.1 v1.2.1 v1.2.2.1 p4).bind fun v10 =>
     Bi (fun (v11 : (List α) × Int × Int) =>
      Bi (fun (v14 : (List α)) =>
       Bi (fun (v21 : Bool) =>
        AW v21
         ((Gs.partitionEqual N v14 v1.2.1 v1.2.2.1 v11.2.1 p4).bind fun v27 =>
         Gs.pdqsort_L1 N p4 rc j1 n1 (v27.2, v27.1, v1.2.2.1, v7.2, v1.2.2.2.2.1, v1.2.2.2.2.2))
         ((Gs.partition N v14 v1.2.1 v1.2.2.1 v11.2.1 p4).bind fun v28 =>
         AW ((decide ((wI .i64 (v28.1 - v1.2.1)) < (wI .i64 (v1.2.2.1 - v28.1)))))
          ((rc v28.2.2 v1.2.1 v28.1 v7.2 p4).bind fun v30 =>
          Gs.pdqsort_L1 N p4 rc j1 n1 (v30, (wI .i64 (v28.1 + 1)), v1.2.2.1, v7.2, (decide ((wI .i64 (Int.tdiv ((wI .i64 (v1.2.2.1 - v1.2.1))) 8)) ≤ (wI .i64 (v28.1 - v1.2.1)))), v28.2.1))
          ((rc v28.2.2 ((wI .i64 (v28.1 + 1))) v1.2.2.1 v7.2 p4).bind fun v31 =>
          Gs.pdqsort_L1 N p4 rc j1 n1 (v31, v1.2.1, v28.1, v7.2, (decide ((wI .i64 (Int.tdiv ((wI .i64 (v1.2.2.1 - v1.2.1))) 8)) ≤ (wI .i64 (v1.2.2.1 - v28.1)))), v28.2.1))))
       fun j21 =>
       AW ((decide (0 < v1.2.1)))
        ((Bf v14 ((wI .i64 (v1.2.1 - 1)))).bind fun v23 =>
        (Bf v14 v11.2.1).bind fun v24 =>
        (p4 ((v23, v24))).bind fun v25 =>
        j21 (!((decide (v25 < 0)))))
        (j21 false))
      fun j14 =>
      Bi (fun (v15 : Bool) =>
       AW v15
        ((Gs.partialInsertionSort N v11.1 v1.2.1 v1.2.2.1 p4).bind fun v19 =>
        AW v19.1
         (some v19.2)
         (j14 v19.2))
        (j14 v11.1))
      fun j15 =>
      AW v1.2.2.2.2.1
       (AW v1.2.2.2.2.2
        (j15 (v11.2.2 == 1))
        (j15 false))
       (j15 false))
     fun j11 =>
     AW ((v10.2 == 2))
      ((Gs.reverseRange N v7.1 v1.2.1 v1.2.2.1 p4).bind fun v13 =>
      j11 (v13, (wI .i64 ((wI .i64 (v1.2.2.1 - 1)) - (wI .i64 (v10.1 - v1.2.1)))), 1))
      (j11 (v7.1, v10.1, v10.2)))
    fun j7 =>
    AW ((!v1.2.2.2.2.1))
     ((Gs.breakPatterns N v1.1 v1.2.1 v1.2.2.1 p4).bind fun v9 =>
     j7 (v9, (wI .i64 (v1.2.2.2.1 - 1))))
     (j7 (v1.1, v1.2.2.2.1))))
def Gs.pdqsort_B (N : Nat) (rc : (List α) → Int → Int → Int → ((α × α) → Option Int) → Option ((List α))) (p0 : List α) (p1 : Int) (p2 : Int) (p3 : Int) (p4 : (α × α) → Option Int) : Option ((List α)) :=
 Gs.pdqsort_L1 N p4 rc (fun (_ : Unit) =>
  none) N (p0, p1, p2, p3, true, true)
def Gs.pdqsort_R (N : Nat) : Nat → (List α) → Int → Int → Int → ((α × α) → Option Int) → Option ((List α))
 | 0, _, _, _, _, _ => none
 | k + 1, p0, p1, p2, p3, p4 => Gs.pdqsort_B N (Gs.pdqsort_R N k) p0 p1 p2 p3 p4
def Gs.pdqsort (N : Nat) (p0 : List α) (p1 : Int) (p2 : Int) (p3 : Int) (p4 : (α × α) → Option Int) : Option ((List α)) := Gs.pdqsort_R N N p0 p1 p2 p3 p4
def D1 (N : Nat) (p0 : List Ah) (p1 : (Ah × Ah) → Option Int) : Option ((List Ah)) :=
 (DB N ((wI .u64 ((p0.length : Int))))).bind fun v1 =>
 (Gs.pdqsort N p0 0 ((p0.length : Int)) v1 p1).bind fun v2 =>
 some v2
def FM (_ : Nat) (p0 : Int) : Option Bool :=
 some ((p0 != p0))
def Dn (N : Nat) (p0 : Int) (p1 : Int) : Option Int :=
 (FM N p0).bind fun v1 =>
 (FM N p1).bind fun v2 =>
 AW v1
  (AW v2
   (some 0)
   (some ((-1))))
  (AW v2
   (some 1)
   (AW ((decide (p0 < p1)))
    (some ((-1)))
    (AW ((decide (p1 < p0)))
     (some 1)
     (some 0))))
def DY (N : Nat) (p0 : List Int) (p1 : List Int) (j1 : Unit → Option Int) : Nat → Int → Option Int
 | 0, _ => none
 | n1 + 1, v1 =>
  AW ((decide (v1 < (p0.length : Int))))
   ((Bf p0 v1).bind fun v4 =>
   AW ((decide ((p1.length : Int) ≤ v1)))
    (some 1)
    ((Bf p1 v1).bind fun v6 =>
    (Dn N v4 v6).bind fun v7 =>
    AW ((v7 != 0))
     (some v7)
     (DY N p0 p1 j1 n1 (wI .i64 (v1 + 1)))))
   (j1 ())
def En (N : Nat) (p0 : List Int) (p1 : List Int) : Option Int :=
 DY N p0 p1 (fun (_ : Unit) =>
  AW ((decide ((p0.length : Int) < (p1.length : Int))))
   (some ((-1)))
   (some 0)) N 0
def Fm (_ : Nat) (p0 : Int) : Option Bool :=
 some ((p0 != p0))
def FT (N : Nat) (p0 : Int) (p1 : Int) : Option Int :=
 (Fm N p0).bind fun v1 =>
 (Fm N p1).bind fun v2 =>
 AW v1
  (AW v2
   (some 0)
   (some ((-1))))
  (AW v2
   (some 1)
   (AW ((decide (p0 < p1)))
    (some ((-1)))
    (AW ((decide (p1 < p0)))
     (some 1)
     (some 0))))
def CT (N : Nat) (p0 : List Int) (p1 : List Int) (j1 : Unit → Option Int) : Nat → Int → Option Int
 | 0, _ => none
 | n1 + 1, v1 =>
  AW ((decide (v1 < (p0.length : Int))))
   ((Bf p0 v1).bind fun v4 =>
   AW ((decide ((p1.length : Int) ≤ v1)))
    (some 1)
    ((Bf p1 v1).bind fun v6 =>
    (FT N v4 v6).bind fun v7 =>
    AW ((v7 != 0))
     (some v7)
     (CT N p0 p1 j1 n1 (wI .i64 (v1 + 1)))))
   (j1 ())
def Ec (N : Nat) (p0 : List Int) (p1 : List Int) : Option Int :=
 CT N p0 p1 (fun (_ : Unit) =>
  AW ((decide ((p0.length : Int) < (p1.length : Int))))
   (some ((-1)))
   (some 0)) N 0
def E3 (N : Nat) (p0 : List Int) (j1 : Unit → Option Int) : Nat → Int → Option Int
 | 0, _ => none
 | n1 + 1, v1 =>
  AW ((decide (v1 < (p0.length : Int))))
   ((Bf p0 v1).bind fun v4 =>
   AW ((v4 != 0))
    (some v4)
    (E3 N p0 j1 n1 (wI .i64 (v1 + 1))))
   (j1 ())
def F5 (N : Nat) (p0 : List Int) : Option Int :=
 E3 N p0 (fun (_ : Unit) =>
  some 0) N 0
def E9 (N : Nat) (p0 : Ah) (p1 : Ah) : Option Int :=
 (En N p0.fBase p1.fBase).bind fun v1 =>
 (En N p0.fNext p1.fNext).bind fun v2 =>
 (Ec N p0.fHeld p1.fHeld).bind fun v3 =>
 (F5 N (([v1, v2, v3] : List Int))).bind fun v4 =>
 some v4
def FF (N : Nat) (v10 : (List Av) × (List Ah)) (j11 : ((List Ah) × (List (ByteArray × Bool))) → Option ((List Ah) × Int)) : Nat → ((List Ah) × (List (ByteArray × Bool)) × Int) → Option ((List Ah) × Int)
 | 0, _ => none
 | n11 + 1, v11 =>
  AW ((decide (v11.2.2 < (v10.2.length : Int))))
   (Bi (fun (v14 : (List Ah) × (List (ByteArray × Bool))) =>
    FF N v10 j11 n11 (v14.1, v14.2, (wI .i64 (v11.2.2 + 1))))
   fun j14 =>
   (Bf v10.2 v11.2.2).bind fun v15 =>
   (HQ N v15).bind fun v16 =>
   AW ((!(((L5 v16 v11.2.1).getD false))))
    ((HQ N v15).bind fun v18 =>
    (DN (v11.1.length + (([v15] : List Ah)).length ≤ D2)).bind fun _ =>
    j14 (v11.1 ++ (([v15] : List Ah)), M1 v18 true v11.2.1))
    (j14 (v11.1, v11.2.1)))
   (j11 (v11.1, v11.2.1))
def FZ (N : Nat) (p0 : Ak) (j6 : ((List Ah)) → Option ((List Ah) × Int)) : Nat → ((List Ah) × (List (ByteArray × Bool)) × Int) → Option ((List Ah) × Int)
 | 0, _ => none
 | n6 + 1, v6 =>
  AW ((decide (v6.2.2 < (v6.1.length : Int))))
   ((Bf v6.1 v6.2.2).bind fun v9 =>
   (JL N p0 v9).bind fun v10 =>
   FF N v10 (fun (v12 : (List Ah) × (List (ByteArray × Bool))) =>
    AW ((decide (20000 < (v12.1.length : Int))))
     (some (([] : List Ah), 3))
     (FZ N p0 j6 n6 (v12.1, v12.2, (wI .i64 (v6.2.2 + 1))))) N (v6.1, v6.2.1, 0))
   (j6 v6.1)
def Ix (N : Nat) (p0 : Ak) : Option ((List Ah) × Int) :=
 (I3 N p0).bind fun v1 =>
 Bi (fun (v2 : Bool) =>
  AW v2
   (some (([] : List Ah), v1.2.2))
   ((HQ N v1.1).bind fun v5 =>
   FZ N p0 (fun (v7 : (List Ah)) =>
    (D1 N v7 ((fun (x : Ah × Ah) => E9 N x.1 x.2))).bind fun v21 =>
    some (v21, 0)) N (([v1.1] : List Ah), M1 v5 true (([] : List (ByteArray × Bool))), 0)))
 fun j2 =>
 AW ((v1.2.2 != 0))
  (j2 true)
  (j2 (!v1.2.1))
def Ee (N : Nat) (p0 : List Int) (p1 : List Int) (j2 : Unit → Option Bool) : Nat → Int → Option Bool
 | 0, _ => none
 | n2 + 1, v2 =>
  AW ((decide (v2 < (p0.length : Int))))
   ((Bf p0 v2).bind fun v5 =>
   (Bf p1 v2).bind fun v6 =>
   AW ((v5 != v6))
    (some false)
    (Ee N p0 p1 j2 n2 (wI .i64 (v2 + 1))))
   (j2 ())
def FJ (N : Nat) (p0 : List Int) (p1 : List Int) : Option Bool :=
 AW (((p0.length : Int) != (p1.length : Int)))
  (some false)
  (Ee N p0 p1 (fun (_ : Unit) =>
   some true) N 0)
def Dx (N : Nat) (p0 : List Int) (p1 : Int → Option Bool) (j1 : Unit → Option Int) : Nat → Int → Option Int
 | 0, _ => none
 | n1 + 1, v1 =>
  AW ((decide (v1 < (p0.length : Int))))
   ((Bf p0 v1).bind fun v4 =>
   (p1 v4).bind fun v5 =>
   AW v5
    (some v1)
    (Dx N p0 p1 j1 n1 (wI .i64 (v1 + 1))))
   (j1 ())
def EU (N : Nat) (p0 : List Int) (p1 : Int → Option Bool) : Option Int :=
 Dx N p0 p1 (fun (_ : Unit) =>
  some ((-1))) N 0
def Et (N : Nat) (p0 : List Int) (p1 : Int → Option Bool) : Option Bool :=
 (EU N p0 p1).bind fun v1 =>
 some ((decide (0 ≤ v1)))
def If (_ : Nat) (p0 : Int) : Option Bool :=
 some ((decide (0 ≤ p0)))
def Jr (N : Nat) (p0 : Ak) (p1 : Ah) : Option Bool :=
 Bi (fun (v1 : Bool) =>
  some v1)
 fun j1 =>
 (EV N p0 p1).bind fun v2 =>
 AW ((v2 == 0))
  ((FJ N p1.fBase p0.fTarget).bind fun v4 =>
  AW v4
   ((Et N p1.fNext ((fun (x : Int) => If N x))).bind fun v6 =>
   j1 (!v6))
   (j1 false))
  (j1 false)
def Fr (N : Nat) (p0 : Ah) (p1 : List Int) (p2 : List Int) (p3 : List Int) (p4 : List AR) : Option Bool :=
 (Jr N ((Ak.mk p1 p2 p3 p4)) p0).bind fun v1 =>
 some v1
def CE (N : Nat) (p0 : List Ah) (p1 : Ah → Option Bool) (j1 : Unit → Option Int) : Nat → Int → Option Int
 | 0, _ => none
 | n1 + 1, v1 =>
  AW ((decide (v1 < (p0.length : Int))))
   ((Bf p0 v1).bind fun v4 =>
   (p1 v4).bind fun v5 =>
   AW v5
    (some v1)
    (CE N p0 p1 j1 n1 (wI .i64 (v1 + 1))))
   (j1 ())
def DS (N : Nat) (p0 : List Ah) (p1 : Ah → Option Bool) : Option Int :=
 CE N p0 p1 (fun (_ : Unit) =>
  some ((-1))) N 0
def Dp (N : Nat) (p0 : List Ah) (p1 : Ah → Option Bool) : Option Bool :=
 (DS N p0 p1).bind fun v1 =>
 some ((decide (0 ≤ v1)))
def Iw (N : Nat) (p0 : Ak) : Option ((List Ah) × Int) :=
 (Ix N p0).bind fun v1 =>
 AW ((v1.2 != 0))
  (some (([] : List Ah), v1.2))
  ((Dp N v1.1 ((fun (x : Ah) => Fr N x p0.fVersions p0.fNow p0.fTarget p0.fTables))).bind fun v3 =>
  AW v3
   (some (([] : List Ah), 15))
   (some (v1.1, 0)))
def C1 (N : Nat) (p0 : Ak) (p1 : Ah) (v1 : (List Av) × Int) (j3 : ((List A1)) → Option ((List A1) × Int)) : Nat → ((List A1) × Int) → Option ((List A1) × Int)
 | 0, _ => none
 | n3 + 1, v3 =>
  AW ((decide (v3.2 < (v1.1.length : Int))))
   (Bi (fun (v6 : (List A1)) =>
    C1 N p0 p1 v1 j3 n3 (v6, (wI .i64 (v3.2 + 1))))
   fun j6 =>
   (Bf v1.1 v3.2).bind fun v7 =>
   (FA N p0 p1 v7).bind fun v8 =>
   (GI N p0 v8.1).bind fun v9 =>
   AW ((v9.2.2 == 0))
    ((DN (v3.1.length + (([(A1.mk v7 v9.1 v9.2.1)] : List A1)).length ≤ D2)).bind fun _ =>
    j6 (v3.1 ++ (([(A1.mk v7 v9.1 v9.2.1)] : List A1))))
    (j6 v3.1))
   (j3 v3.1)
def Fs (N : Nat) (p0 : Ak) (p1 : Ah) : Option ((List A1) × Int) :=
 (DX N p0 p1).bind fun v1 =>
 AW ((v1.2 != 0))
  (some (([] : List A1), v1.2))
  (C1 N p0 p1 v1 (fun (v4 : (List A1)) =>
   some (v4, 0)) N (([] : List A1), 0))
def DJ (N : Nat) (p0 : Ak) (p1 : List Ah) (j3 : ((List A1)) → Option ((List A1) × Int)) : Nat → ((List A1) × Int) → Option ((List A1) × Int)
 | 0, _ => none
 | n3 + 1, v3 =>
  AW ((decide (v3.2 < (p1.length : Int))))
   ((Bf p1 v3.2).bind fun v6 =>
   (Fs N p0 v6).bind fun v7 =>
   AW ((v7.2 != 0))
    (some (([] : List A1), v7.2))
    ((DN (v3.1.length + v7.1.length ≤ D2)).bind fun _ =>
    DJ N p0 p1 j3 n3 (v3.1 ++ v7.1, (wI .i64 (v3.2 + 1)))))
   (j3 v3.1)
def C8 (N : Nat) (p0 : Ak) (p1 : List Ah) : Option ((List A1) × Int) :=
 (CQ N p0).bind fun v1 =>
 AW ((v1 != 0))
  (some (([] : List A1), v1))
  (DJ N p0 p1 (fun (v4 : (List A1)) =>
   some (v4, 0)) N (([] : List A1), 0))
def Bp (N : Nat) (p0 : List Ag) (p1 : (Ag × Ag) → Option Int) : Option ((List Ag)) :=
 (DB N ((wI .u64 ((p0.length : Int))))).bind fun v1 =>
 (Gs.pdqsort N p0 0 ((p0.length : Int)) v1 p1).bind fun v2 =>
 some v2
def Cv (N : Nat) (p0 : Ag) (p1 : Ag) : Option Int :=
 (Dn N p0.fTable p1.fTable).bind fun v1 =>
 (Dn N p0.fWriter p1.fWriter).bind fun v2 =>
 (Dn N p0.fReader p1.fReader).bind fun v3 =>
 (F5 N (([v1, v2, v3] : List Int))).bind fun v4 =>
 some v4
def BR (N : Nat) (p0 : List Ag) (v2 : Int) (j10 : ((List Ag) × Int) → Option (Nat × (List Ag))) : Nat → ((List Ag) × Int × Int) → Option (Nat × (List Ag))
 | 0, _ => none
 | n10 + 1, v10 =>
  AW ((decide (v10.2.2 < ((((p0.length - (v2).toNat)) : Nat) : Int))))
   (Bi (fun (v13 : (List Ag) × Int) =>
    BR N p0 v2 j10 n10 (v13.1, v13.2, (wI .i64 (v10.2.2 + 1))))
   fun j13 =>
   (DN (((v2).toNat) + ((p0.length - (v2).toNat)) ≤ v10.1.length)).bind fun _ =>
   (Bf (((v10.1.drop ((v2).toNat)).take ((p0.length - (v2).toNat)))) v10.2.2).bind fun v14 =>
   (Bf (((v10.1.drop ((v2).toNat)).take ((p0.length - (v2).toNat)))) ((wI .i64 (v10.2.2 - 1)))).bind fun v16 =>
   AW ((!((v14.fTable == v16.fTable) && ((v14.fWriter == v16.fWriter) && ((v14.fReader == v16.fReader) && true)))))
    ((Bf (((v10.1.drop ((v2).toNat)).take ((p0.length - (v2).toNat)))) v10.2.2).bind fun v18 =>
    (Bf v10.1 v10.2.1).bind fun _ =>
    j13 (v10.1.set ((v10.2.1).toNat) v18, (wI .i64 (v10.2.1 + 1))))
    (j13 (v10.1, v10.2.1)))
   (j10 (v10.1, v10.2.1))
def BV (N : Nat) (p0 : List Ag) (j2 : Unit → Option (Nat × (List Ag))) : Nat → Int → Option (Nat × (List Ag))
 | 0, _ => none
 | n2 + 1, v2 =>
  AW ((decide (v2 < (p0.length : Int))))
   ((Bf p0 v2).bind fun v5 =>
   (Bf p0 ((wI .i64 (v2 - 1)))).bind fun v6 =>
   AW (((v5.fTable == v6.fTable) && ((v5.fWriter == v6.fWriter) && ((v5.fReader == v6.fReader) && true))))
    ((DN ((0 : Int) ≤ v2 ∧ (v2).toNat ≤ p0.length ∧ p0.length ≤ p0.length)).bind fun _ =>
    BR N p0 v2 (fun (v11 : (List Ag) × Int) =>
     (DN ((0 : Int) ≤ v11.2 ∧ (v11.2).toNat ≤ v11.1.length ∧ v11.1.length ≤ v11.1.length)).bind fun _ =>
     (DN ((0 : Int) ≤ v11.2 ∧ 0 ≤ (v11.2).toNat ∧ (v11.2).toNat ≤ (H5 v11.1 ((v11.2).toNat) (List.replicate ((v11.1.length - (v11.2).toNat)) ((Ag.mk 0 0 0)))).length)).bind fun _ =>
     some ((v11.2).toNat, H5 v11.1 ((v11.2).toNat) (List.replicate ((v11.1.length - (v11.2).toNat)) ((Ag.mk 0 0 0))))) N (p0, v2, 1))
    (BV N p0 j2 n2 (wI .i64 (v2 + 1))))
   (j2 ())
def Bs (N : Nat) (p0 : List Ag) : Option (Nat × (List Ag)) :=
 AW ((decide ((p0.length : Int) < 2)))
  (some (p0.length, p0))
  (BV N p0 (fun (_ : Unit) =>
   some (p0.length, p0)) N 1)
def Dr (N : Nat) (v1 : (List A1) × Int) (j3 : ((List Ag)) → Option ((List Ag) × Int)) : Nat → ((List Ag) × Int) → Option ((List Ag) × Int)
 | 0, _ => none
 | n3 + 1, v3 =>
  AW ((decide (v3.2 < (v1.1.length : Int))))
   ((Bf v1.1 v3.2).bind fun v6 =>
   (DN (v3.1.length + (([(Ag.mk v6.fConflict.fTable v6.fConflict.fWriter v6.fConflict.fReader)] : List Ag)).length ≤ D2)).bind fun _ =>
   Dr N v1 j3 n3 (v3.1 ++ (([(Ag.mk v6.fConflict.fTable v6.fConflict.fWriter v6.fConflict.fReader)] : List Ag)), (wI .i64 (v3.2 + 1))))
   (j3 v3.1)
def CX (N : Nat) (p0 : Ak) (p1 : List Ah) : Option ((List Ag) × Int) :=
 (C8 N p0 p1).bind fun v1 =>
 AW ((v1.2 != 0))
  (some (([] : List Ag), v1.2))
  (Dr N v1 (fun (v4 : (List Ag)) =>
   (Bp N v4 ((fun (x : Ag × Ag) => Cv N x.1 x.2))).bind fun v8 =>
   (Bs N v8).bind fun v9 =>
   (DN (v9.1 ≤ v9.2.length)).bind fun _ =>
   some (v9.2.take v9.1, 0)) N (([] : List Ag), 0))
def Fd (N : Nat) (p0 : Ak) (v8 : Ah) (j11 : Int → Option (Int × Ah × Int)) : Nat → (Int × Int) → Option (Int × Ah × Int)
 | 0, _ => none
 | n11 + 1, v11 =>
  AW ((decide (v11.2 < (p0.fTarget.length : Int))))
   (Bi (fun (v14 : Int) =>
    Fd N p0 v8 j11 n11 (v14, (wI .i64 (v11.2 + 1))))
   fun j14 =>
   (Bf p0.fTarget v11.2).bind fun v15 =>
   Bi (fun (v16 : Bool) =>
    AW v16
     (j14 (wI .i64 (v11.1 + 1)))
     (j14 v11.1))
   fun j16 =>
   (Bf v8.fBase v11.2).bind fun v17 =>
   AW ((v17 == v15))
    ((Bf v8.fNext v11.2).bind fun v19 =>
    j16 (decide (v19 < 0)))
    (j16 false))
   (j11 v11.1)
def Ft (N : Nat) (p0 : Ak) (p1 : List Ah) (j4 : (Int × Int) → Option (Int × Ah × Int)) : Nat → (Int × Int × Int) → Option (Int × Ah × Int)
 | 0, _ => none
 | n4 + 1, v4 =>
  AW ((decide (v4.2.2 < (p1.length : Int))))
   (Bi (fun (v7 : Int × Int) =>
    Ft N p0 p1 j4 n4 (v7.1, v7.2, (wI .i64 (v4.2.2 + 1))))
   fun j7 =>
   (Bf p1 v4.2.2).bind fun v8 =>
   (EV N p0 v8).bind fun v9 =>
   AW ((v9 != 0))
    (some (0, (Ah.mk (([] : List Int)) (([] : List Int)) (([] : List Int))), v9))
    (Fd N p0 v8 (fun (v12 : Int) =>
     AW ((decide (v4.1 < v12)))
      (j7 (v12, v4.2.2))
      (j7 (v4.1, v4.2.1))) N (0, 0)))
   (j4 (v4.1, v4.2.1))
def HN (N : Nat) (p0 : Ak) (p1 : List Ah) : Option (Int × Ah × Int) :=
 (CQ N p0).bind fun v1 =>
 AW ((v1 != 0))
  (some (0, (Ah.mk (([] : List Int)) (([] : List Int)) (([] : List Int))), v1))
  (AW (((p1.length : Int) == 0))
   (some (0, (Ah.mk (([] : List Int)) (([] : List Int)) (([] : List Int))), 10))
   (Ft N p0 p1 (fun (v5 : Int × Int) =>
    (Bf p1 v5.2).bind fun v22 =>
    (BA N v22.fBase).bind fun v23 =>
    (BA N v22.fNext).bind fun v24 =>
    (BM N v22.fHeld).bind fun v25 =>
    some (v5.1, (Ah.mk v23 v24 v25), 0)) N ((-1), 0, 0)))
def DA (N : Nat) (p0 : List Int) (p1 : List Int) (j1 : Unit → Option Int) : Nat → Int → Option Int
 | 0, _ => none
 | n1 + 1, v1 =>
  Bi (fun (v3 : Bool) =>
   AW v3
    ((Bf p0 v1).bind fun v6 =>
    (Bf p1 v1).bind fun v7 =>
    AW ((decide (v6 < v7)))
     (some ((-1)))
     ((Bf p0 v1).bind fun v9 =>
     (Bf p1 v1).bind fun v10 =>
     AW ((decide (v10 < v9)))
      (some 1)
      (DA N p0 p1 j1 n1 (wI .i64 (v1 + 1)))))
    (j1 ()))
  fun j3 =>
  AW ((decide (v1 < (p0.length : Int))))
   (j3 (decide (v1 < (p1.length : Int))))
   (j3 false)
def DF (N : Nat) (p0 : List Int) (p1 : List Int) : Option Int :=
 DA N p0 p1 (fun (_ : Unit) =>
  AW ((decide ((p0.length : Int) < (p1.length : Int))))
   (some ((-1)))
   (AW ((decide ((p1.length : Int) < (p0.length : Int))))
    (some 1)
    (some 0))) N 0
def C5 (N : Nat) (p0 : List Int) (j1 : ((List Int)) → Option ((List Int))) : Nat → ((List Int) × Int) → Option ((List Int))
 | 0, _ => none
 | n1 + 1, v1 =>
  AW ((decide (v1.2 < (p0.length : Int))))
   ((Bf p0 v1.2).bind fun v4 =>
   (DN (v1.1.length + (([(wI .i64 v4)] : List Int)).length ≤ D2)).bind fun _ =>
   C5 N p0 j1 n1 (v1.1 ++ (([(wI .i64 v4)] : List Int)), (wI .i64 (v1.2 + 1))))
   (j1 v1.1)
def Dy (N : Nat) (p0 : List Int) : Option ((List Int)) :=
 C5 N p0 (fun (v2 : (List Int)) =>
  some v2) N (([] : List Int), 0)
def Ed (N : Nat) (p0 : Ah) (p1 : Ah) : Option Int :=
 (DF N p0.fBase p1.fBase).bind fun v1 =>
 AW ((v1 != 0))
  (some v1)
  ((DF N p0.fNext p1.fNext).bind fun v3 =>
  AW ((v3 != 0))
   (some v3)
   ((Dy N p0.fHeld).bind fun v5 =>
   (Dy N p1.fHeld).bind fun v6 =>
   (DF N v5 v6).bind fun v7 =>
   some v7))
def C0 (N : Nat) (p0 : Ah) (p1 : Ah) : Option Bool :=
 (Ed N p0 p1).bind fun v1 =>
 some ((v1 == 0))
def EX (N : Nat) (p0 : List Ah) (p1 : List Ah) (j2 : Unit → Option Bool) : Nat → Int → Option Bool
 | 0, _ => none
 | n2 + 1, v2 =>
  AW ((decide (v2 < (p0.length : Int))))
   ((Bf p0 v2).bind fun v5 =>
   (Bf p1 v2).bind fun v6 =>
   (C0 N v5 v6).bind fun v7 =>
   AW ((!v7))
    (some false)
    (EX N p0 p1 j2 n2 (wI .i64 (v2 + 1))))
   (j2 ())
def GV (N : Nat) (p0 : List Ah) (p1 : List Ah) : Option Bool :=
 AW (((p0.length : Int) != (p1.length : Int)))
  (some false)
  (EX N p0 p1 (fun (_ : Unit) =>
   some true) N 0)
def Bl (N : Nat) (p0 : List Ah) (p1 : Ah) (p2 : (Ah × Ah) → Option Int) (j1 : Int → Option (Int × Bool)) : Nat → (Int × Int) → Option (Int × Bool)
 | 0, _ => none
 | n1 + 1, v1 =>
  AW ((decide (v1.1 < v1.2)))
   ((Bf p0 ((wI .i64 ((El .u64 ((wI .u64 ((wI .i64 (v1.1 + v1.2))))) 1))))).bind fun v4 =>
   (p2 ((v4, p1))).bind fun v5 =>
   AW ((decide (v5 < 0)))
    (Bl N p0 p1 p2 j1 n1 ((wI .i64 ((wI .i64 ((El .u64 ((wI .u64 ((wI .i64 (v1.1 + v1.2))))) 1))) + 1)), v1.2))
    (Bl N p0 p1 p2 j1 n1 (v1.1, (wI .i64 ((El .u64 ((wI .u64 ((wI .i64 (v1.1 + v1.2))))) 1))))))
   (j1 v1.1)
def Cl (N : Nat) (p0 : List Ah) (p1 : Ah) (p2 : (Ah × Ah) → Option Int) : Option (Int × Bool) :=
 Bl N p0 p1 p2 (fun (v2 : Int) =>
  Bi (fun (v7 : Bool) =>
   some (v2, v7))
  fun j7 =>
  AW ((decide (v2 < (p0.length : Int))))
   ((Bf p0 v2).bind fun v9 =>
   (p2 ((v9, p1))).bind fun v10 =>
   j7 (v10 == 0))
   (j7 false)) N (0, (p0.length : Int))
def GN (N : Nat) (p0 : List Ah) (p1 : Ah) : Option Bool :=
 (Cl N p0 p1 ((fun (x : Ah × Ah) => E9 N x.1 x.2))).bind fun v1 =>
 some v1.2
def FW (N : Nat) (p0 : Ak) (p1 : List Ah) (j5 : Unit → Option Bool) : Nat → Int → Option Bool
 | 0, _ => none
 | n5 + 1, v5 =>
  AW ((decide (v5 < (p1.length : Int))))
   ((Bf p1 v5).bind fun v8 =>
   Bi (fun (v9 : Bool) =>
    AW v9
     (some false)
     ((Fy N p0 v8).bind fun v14 =>
     Bi (fun (v15 : Bool) =>
      AW v15
       (some false)
       (FW N p0 p1 j5 n5 (wI .i64 (v5 + 1))))
     fun j15 =>
     AW ((!v14.1))
      (j15 true)
      (AW ((v14.2 != 0))
       (j15 true)
       ((Jr N p0 v8).bind fun v18 =>
       j15 v18))))
   fun j9 =>
   AW ((decide (0 < v5)))
    ((Bf p1 ((wI .i64 (v5 - 1)))).bind fun v11 =>
    (E9 N v11 v8).bind fun v12 =>
    j9 (decide (0 ≤ v12)))
    (j9 false))
   (j5 ())
def FD (N : Nat) (p0 : Ak) (p1 : List Ah) (v25 : Ah) (v26 : (List Av) × Int) (j27 : Unit → Option Bool) : Nat → Int → Option Bool
 | 0, _ => none
 | n27 + 1, v27 =>
  AW ((decide (v27 < (v26.1.length : Int))))
   ((Bf v26.1 v27).bind fun v30 =>
   (FA N p0 v25 v30).bind fun v31 =>
   (Fy N p0 v31.1).bind fun v32 =>
   Bi (fun (v33 : Bool) =>
    AW v33
     (some false)
     (FD N p0 p1 v25 v26 j27 n27 (wI .i64 (v27 + 1))))
   fun j33 =>
   AW v32.1
    ((GN N p1 v31.1).bind fun v35 =>
    j33 (!v35))
    (j33 false))
   (j27 ())
def FE (N : Nat) (p0 : Ak) (p1 : List Ah) (j22 : Unit → Option Bool) : Nat → Int → Option Bool
 | 0, _ => none
 | n22 + 1, v22 =>
  AW ((decide (v22 < (p1.length : Int))))
   ((Bf p1 v22).bind fun v25 =>
   (DX N p0 v25).bind fun v26 =>
   FD N p0 p1 v25 v26 (fun (_ : Unit) =>
    FE N p0 p1 j22 n22 (wI .i64 (v22 + 1))) N 0)
   (j22 ())
def F2 (N : Nat) (p0 : Ak) (p1 : List Ah) : Option Bool :=
 (IN N p0).bind fun v1 =>
 AW ((v1.2 != 0))
  (some false)
  ((Fy N p0 v1.1).bind fun v3 =>
  AW ((!v3.1))
   (some (((p1.length : Int) == 0)))
   (FW N p0 p1 (fun (_ : Unit) =>
    (GN N p1 v1.1).bind fun v20 =>
    AW ((!v20))
     (some false)
     (FE N p0 p1 (fun (_ : Unit) =>
      some true) N 0)) N 0))
def B2 (N : Nat) (p0 : List Ag) (p1 : List Ag) (j2 : Unit → Option Bool) : Nat → Int → Option Bool
 | 0, _ => none
 | n2 + 1, v2 =>
  AW ((decide (v2 < (p0.length : Int))))
   ((Bf p0 v2).bind fun v5 =>
   (Bf p1 v2).bind fun v6 =>
   AW ((!((v5.fTable == v6.fTable) && ((v5.fWriter == v6.fWriter) && ((v5.fReader == v6.fReader) && true)))))
    (some false)
    (B2 N p0 p1 j2 n2 (wI .i64 (v2 + 1))))
   (j2 ())
def BO (N : Nat) (p0 : List Ag) (p1 : List Ag) : Option Bool :=
 AW (((p0.length : Int) != (p1.length : Int)))
  (some false)
  (B2 N p0 p1 (fun (_ : Unit) =>
   some true) N 0)
def EK (N : Nat) : Option Bool :=
 (Cb N).bind fun v1 =>
 (Iw N v1).bind fun v2 =>
 (Cb N).bind fun v3 =>
 (C8 N v3 v2.1).bind fun v4 =>
 (Cb N).bind fun v5 =>
 (CX N v5 v2.1).bind fun v6 =>
 (Cb N).bind fun v7 =>
 (HN N v7 v2.1).bind fun v8 =>
 Bi (fun (v9 : Bool) =>
  Bi (fun (v13 : Bool) =>
   Bi (fun (v25 : Bool) =>
    some v25)
   fun j25 =>
   AW v13
    (AW (((v4.1.length : Int) == 1))
     ((Bf v4.1 0).bind fun v28 =>
     AW (((v28.fStep.fKind == 1) && ((v28.fStep.fIndex == 0) && ((v28.fStep.fVersion == 1) && true))))
      ((Bf v4.1 0).bind fun v30 =>
      AW (((v30.fConflict.fTable == 0) && ((v30.fConflict.fWriter == 1) && ((v30.fConflict.fReader == 0) && true))))
       ((BO N v6.1 (([(Ag.mk 0 1 0)] : List Ag))).bind fun v32 =>
       AW v32
        (AW ((v8.1 == 0))
         ((C0 N v8.2.1 ((Ah.mk (([0] : List Int)) (([(-1)] : List Int)) (([0] : List Int))))).bind fun v35 =>
         j25 v35)
         (j25 false))
        (j25 false))
       (j25 false))
      (j25 false))
     (j25 false))
    (j25 false))
  fun j13 =>
  AW v9
   ((GV N v2.1 (([(Ah.mk (([0] : List Int)) (([(-1)] : List Int)) (([0] : List Int)))] : List Ah))).bind fun v15 =>
   AW v15
    ((Cb N).bind fun v17 =>
    (F2 N v17 v2.1).bind fun v18 =>
    AW v18
     ((Cb N).bind fun v20 =>
     (F2 N v20 (([] : List Ah))).bind fun v21 =>
     AW ((!v21))
      ((Cb N).bind fun v23 =>
      (F2 N v23 (([(Ah.mk (([0] : List Int)) (([(-1)] : List Int)) (([0] : List Int))), (Ah.mk (([1] : List Int)) (([(-1)] : List Int)) (([0] : List Int)))] : List Ah))).bind fun v24 =>
      j13 (!v24))
      (j13 false))
     (j13 false))
    (j13 false))
   (j13 false))
 fun j9 =>
 AW ((v2.2 == 0))
  (AW ((v4.2 == 0))
   (AW ((v6.2 == 0))
    (j9 (v8.2.2 == 0))
    (j9 false))
   (j9 false))
  (j9 false)
def DG (_ : Nat) (p0 : List Int) (p1 : Int) : Option Int :=
 AW ((decide (p1 < (p0.length : Int))))
  ((Bf p0 p1).bind fun v2 =>
  some ((wI .i64 v2)))
  (some 0)
def BU (_ : Nat) (p0 : Ah) (p1 : Int) : Option Int :=
 (Bf p0.fBase p1).bind fun v1 =>
 (DN (0 ≤ v1)).bind fun _ =>
 Bi (fun (v3 : Int) =>
  some v3)
 fun j3 =>
 (Bf p0.fNext p1).bind fun v4 =>
 AW ((decide (0 ≤ v4)))
  ((Bf p0.fNext p1).bind fun v6 =>
  (DN (0 ≤ v6)).bind fun _ =>
  j3 (MC .u8 ((CJ .u8 1 v1)) ((CJ .u8 1 v6))))
  (j3 (CJ .u8 1 v1))
def C4 (N : Nat) (p0 : Ak) (p1 : B1) (j1 : ((List Int) × (List Int)) → Option Ah) : Nat → ((List Int) × (List Int) × Int) → Option Ah
 | 0, _ => none
 | n1 + 1, v1 =>
  AW ((decide (v1.2.2 < (p0.fVersions.length : Int))))
   ((Bf p0.fVersions v1.2.2).bind fun v4 =>
   (DG N p1.fBase v1.2.2).bind fun v5 =>
   (DN (v4 ≠ 0)).bind fun _ =>
   Bi (fun (v7 : Int) =>
    (DN (v1.1.length + (([(Int.tmod v5 v4)] : List Int)).length ≤ D2)).bind fun _ =>
    (DN (v1.2.1.length + (([v7] : List Int)).length ≤ D2)).bind fun _ =>
    C4 N p0 p1 j1 n1 (v1.1 ++ (([(Int.tmod v5 v4)] : List Int)), v1.2.1 ++ (([v7] : List Int)), (wI .i64 (v1.2.2 + 1))))
   fun j7 =>
   (DG N p1.fNext v1.2.2).bind fun v8 =>
   (DN (v4 ≠ 0)).bind fun _ =>
   AW ((decide (0 < (Int.tmod v8 v4))))
    ((DN (v4 ≠ 0)).bind fun _ =>
    j7 (Int.tmod ((wI .i64 ((Int.tmod v5 v4) + (Int.tmod v8 v4)))) v4))
    (j7 (-1)))
   (j1 (v1.1, v1.2.1))
def BB (N : Nat) (p0 : Ak) (p1 : B1) (v2 : (List Int) × (List Int)) (j14 : ((List Int)) → Option Ah) : Nat → ((List Int) × Int) → Option Ah
 | 0, _ => none
 | n14 + 1, v14 =>
  AW ((decide (v14.2 < (p0.fTables.length : Int))))
   ((Bf p0.fTables v14.2).bind fun v17 =>
   Bi (fun (v18 : Int) =>
    (DN (v14.1.length + (([v18] : List Int)).length ≤ D2)).bind fun _ =>
    BB N p0 p1 v2 j14 n14 (v14.1 ++ (([v18] : List Int)), (wI .i64 (v14.2 + 1))))
   fun j18 =>
   (Bt N v17).bind fun v19 =>
   AW v19
    ((Bf p0.fVersions v17.fFrom).bind fun v21 =>
    (DN (0 ≤ v21)).bind fun _ =>
    (BU N ((Ah.mk v2.1 v2.2 v14.1)) v17.fFrom).bind fun v23 =>
    (DG N p1.fHeld v14.2).bind fun v24 =>
    j18 (MC .u8 v23 ((Fq .u8 ((wI .u8 v24)) ((wI .u8 ((CJ .u8 1 v21) - 1)))))))
    (j18 0))
   (j14 v14.1)
def Fp (N : Nat) (p0 : Ak) (p1 : B1) : Option Ah :=
 C4 N p0 p1 (fun (v2 : (List Int) × (List Int)) =>
  BB N p0 p1 v2 (fun (v15 : (List Int)) =>
   some ((Ah.mk v2.1 v2.2 v15))) N (([] : List Int), 0)) N (([] : List Int), ([] : List Int), 0)
def CL (N : Nat) (p0 : List (List Bool)) (p1 : Int) (p2 : Int) (j2 : Unit → Option Bool) : Nat → Int → Option Bool
 | 0, _ => none
 | n2 + 1, v2 =>
  AW ((decide (v2 < p1)))
   ((Bf p0 v2).bind fun v5 =>
   AW (((v5.length : Int) != p2))
    (some false)
    (CL N p0 p1 p2 j2 n2 (wI .i64 (v2 + 1))))
   (j2 ())
def DQ (N : Nat) (p0 : List (List Bool)) (p1 : Int) (p2 : Int) : Option Bool :=
 AW (((p0.length : Int) != p1))
  (some false)
  (CL N p0 p1 p2 (fun (_ : Unit) =>
   some true) N 0)
def Cg (N : Nat) (p1 : AR) (j22 : Unit → Option Int) : Nat → Int → Option Int
 | 0, _ => none
 | n22 + 1, v22 =>
  AW ((decide (v22 < (p1.fRewrite.length : Int))))
   ((Bf p1.fRewrite v22).bind fun v25 =>
   (Bf v25 v22).bind fun v26 =>
   AW ((!v26))
    (some 1)
    (Cg N p1 j22 n22 (wI .i64 (v22 + 1))))
   (j22 ())
def EM (N : Nat) (p0 : Ak) (p1 : AR) : Option Int :=
 Bi (fun (v1 : Bool) =>
  AW v1
   (some 1)
   (Bi (fun (v7 : Bool) =>
    AW v7
     (some 4)
     ((Bf p0.fVersions p1.fFrom).bind fun v12 =>
     (Bf p0.fVersions p1.fTo).bind fun v13 =>
     (DQ N p1.fOK v12 v13).bind fun v14 =>
     AW ((!v14))
      (some 6)
      (AW ((p1.fKind != 4))
       (AW (((p1.fRewrite.length : Int) != 0))
        (some 6)
        (some 0))
       ((Bf p0.fVersions p1.fFrom).bind fun v18 =>
       (Bf p0.fVersions p1.fFrom).bind fun v19 =>
       (DQ N p1.fRewrite v18 v19).bind fun v20 =>
       AW ((!v20))
        (some 6)
        (Cg N p1 (fun (_ : Unit) =>
         some 0) N 0)))))
   fun j7 =>
   AW ((decide (p1.fFrom < 0)))
    (j7 true)
    (AW ((decide ((p0.fVersions.length : Int) ≤ p1.fFrom)))
     (j7 true)
     (AW ((decide (p1.fTo < 0)))
      (j7 true)
      (j7 (decide ((p0.fVersions.length : Int) ≤ p1.fTo)))))))
 fun j1 =>
 AW ((decide (p1.fKind < 1)))
  (j1 true)
  (AW ((decide (4 < p1.fKind)))
   (j1 true)
   (AW p1.fAware
    ((Bt N p1).bind fun v5 =>
    j1 v5)
    (j1 false)))
def Bz (N : Nat) (p0 : Ak) (j7 : Unit → Option Int) : Nat → Int → Option Int
 | 0, _ => none
 | n7 + 1, v7 =>
  AW ((decide (v7 < (p0.fVersions.length : Int))))
   ((Bf p0.fVersions v7).bind fun v10 =>
   Bi (fun (v11 : Bool) =>
    AW v11
     (some 7)
     (Bz N p0 j7 n7 (wI .i64 (v7 + 1))))
   fun j11 =>
   AW ((decide (v10 < 1)))
    (j11 true)
    (AW ((decide (6 < v10)))
     (j11 true)
     ((Bf p0.fNow v7).bind fun v14 =>
     AW ((decide (v14 < 0)))
      (j11 true)
      ((Bf p0.fNow v7).bind fun v16 =>
      AW ((decide (v10 ≤ v16)))
       (j11 true)
       ((Bf p0.fTarget v7).bind fun v18 =>
       AW ((decide (v18 < 0)))
        (j11 true)
        ((Bf p0.fTarget v7).bind fun v20 =>
        j11 (decide (v10 ≤ v20))))))))
   (j7 ())
def By (N : Nat) (p0 : Ak) (j22 : Unit → Option Int) : Nat → Int → Option Int
 | 0, _ => none
 | n22 + 1, v22 =>
  AW ((decide (v22 < (p0.fTables.length : Int))))
   ((Bf p0.fTables v22).bind fun v25 =>
   (EM N p0 v25).bind fun v26 =>
   AW ((v26 != 0))
    (some v26)
    (By N p0 j22 n22 (wI .i64 (v22 + 1))))
   (j22 ())
def CO (N : Nat) (p0 : Ak) : Option Int :=
 Bi (fun (v1 : Bool) =>
  AW v1
   (some 3)
   (Bi (fun (v4 : Bool) =>
    AW v4
     (some 6)
     (Bz N p0 (fun (_ : Unit) =>
      By N p0 (fun (_ : Unit) =>
       some 0) N 0) N 0))
   fun j4 =>
   AW (((p0.fNow.length : Int) != (p0.fVersions.length : Int)))
    (j4 true)
    (j4 ((p0.fTarget.length : Int) != (p0.fVersions.length : Int)))))
 fun j1 =>
 AW ((decide (6 < (p0.fVersions.length : Int))))
  (j1 true)
  (j1 (decide (12 < (p0.fTables.length : Int))))
def Co (N : Nat) (p0 : Ak) (p1 : Ah) (j7 : Unit → Option Int) : Nat → Int → Option Int
 | 0, _ => none
 | n7 + 1, v7 =>
  AW ((decide (v7 < (p0.fVersions.length : Int))))
   (Bi (fun (v10 : Bool) =>
    AW v10
     (some 7)
     ((Bf p1.fBase v7).bind fun v21 =>
     (Bf p1.fNext v7).bind fun v22 =>
     AW ((v21 == v22))
      (some 1)
      (Co N p0 p1 j7 n7 (wI .i64 (v7 + 1)))))
   fun j10 =>
   (Bf p1.fBase v7).bind fun v11 =>
   AW ((decide (v11 < 0)))
    (j10 true)
    ((Bf p1.fBase v7).bind fun v13 =>
    (Bf p0.fVersions v7).bind fun v14 =>
    AW ((decide (v14 ≤ v13)))
     (j10 true)
     ((Bf p1.fNext v7).bind fun v16 =>
     AW ((decide (v16 < (-1))))
      (j10 true)
      ((Bf p1.fNext v7).bind fun v18 =>
      (Bf p0.fVersions v7).bind fun v19 =>
      j10 (decide (v19 ≤ v18))))))
   (j7 ())
def Cd (N : Nat) (p0 : Ak) (p1 : Ah) (j24 : Unit → Option Int) : Nat → Int → Option Int
 | 0, _ => none
 | n24 + 1, v24 =>
  AW ((decide (v24 < (p0.fTables.length : Int))))
   ((Bf p0.fTables v24).bind fun v27 =>
   (Bf p0.fVersions v27.fFrom).bind fun v28 =>
   (DN (0 ≤ v28)).bind fun _ =>
   Bi (fun (v30 : Bool) =>
    AW v30
     (some 1)
     (Cd N p0 p1 j24 n24 (wI .i64 (v24 + 1))))
   fun j30 =>
   (Bt N v27).bind fun v31 =>
   AW ((!v31))
    ((Bf p1.fHeld v24).bind fun v33 =>
    AW ((v33 != 0))
     (j30 true)
     ((Bt N v27).bind fun v35 =>
     AW v35
      ((Bf p1.fHeld v24).bind fun v37 =>
      AW (((Dz .u8 v37 ((wI .u8 ((CJ .u8 1 v28) - 1)))) != 0))
       (j30 true)
       ((BU N p1 v27.fFrom).bind fun v39 =>
       (Bf p1.fHeld v24).bind fun v40 =>
       j30 ((Dz .u8 v39 v40) != 0)))
      (j30 false)))
    ((Bt N v27).bind fun v41 =>
    AW v41
     ((Bf p1.fHeld v24).bind fun v43 =>
     AW (((Dz .u8 v43 ((wI .u8 ((CJ .u8 1 v28) - 1)))) != 0))
      (j30 true)
      ((BU N p1 v27.fFrom).bind fun v45 =>
      (Bf p1.fHeld v24).bind fun v46 =>
      j30 ((Dz .u8 v45 v46) != 0)))
     (j30 false)))
   (j24 ())
def Dm (N : Nat) (p0 : Ak) (p1 : Ah) : Option Int :=
 (CO N p0).bind fun v1 =>
 AW ((v1 != 0))
  (some v1)
  (Bi (fun (v3 : Bool) =>
   AW v3
    (some 6)
    (Co N p0 p1 (fun (_ : Unit) =>
     Cd N p0 p1 (fun (_ : Unit) =>
      some 0) N 0) N 0))
  fun j3 =>
  AW (((p1.fBase.length : Int) != (p0.fVersions.length : Int)))
   (j3 true)
   (AW (((p1.fNext.length : Int) != (p0.fVersions.length : Int)))
    (j3 true)
    (j3 ((p1.fHeld.length : Int) != (p0.fTables.length : Int)))))
def Cp (N : Nat) (p0 : Ak) (p1 : List Ah) (j3 : Unit → Option Int) : Nat → Int → Option Int
 | 0, _ => none
 | n3 + 1, v3 =>
  AW ((decide (v3 < (p1.length : Int))))
   ((Bf p1 v3).bind fun v6 =>
   (Dm N p0 v6).bind fun v7 =>
   AW ((v7 != 0))
    (some v7)
    (Cp N p0 p1 j3 n3 (wI .i64 (v3 + 1))))
   (j3 ())
def EF (N : Nat) (p0 : Ak) (p1 : List Ah) : Option Int :=
 (CO N p0).bind fun v1 =>
 AW ((v1 != 0))
  (some v1)
  (Cp N p0 p1 (fun (_ : Unit) =>
   some 0) N 0)
def EC (_ : Nat) (p0 : Av) : Option Bool :=
 Bi (fun (v1 : Bool) =>
  some v1)
 fun j1 =>
 AW ((decide (1 ≤ p0.fKind)))
  (AW ((decide (p0.fKind ≤ 4)))
   (AW ((decide (0 ≤ p0.fIndex)))
    (AW ((decide (0 ≤ p0.fVersion)))
     (AW ((p0.fKind == 1))
      (j1 true)
      (j1 (p0.fVersion == 0)))
     (j1 false))
    (j1 false))
   (j1 false))
  (j1 false)
def CK (_ : Nat) (p0 : Int) (p1 : Int) : Option Bool :=
 (DN (0 ≤ p1)).bind fun _ =>
 some (((Fq .u8 ((El .u8 p0 p1)) 1) == 1))
def Ce (N : Nat) (p0 : Ak) (p2 : Av) (j12 : ((List Int)) → Option (Ah × Bool)) : Nat → ((List Int) × Int) → Option (Ah × Bool)
 | 0, _ => none
 | n12 + 1, v12 =>
  AW ((decide (v12.2 < (p0.fTables.length : Int))))
   (Bi (fun (v15 : (List Int)) =>
    Ce N p0 p2 j12 n12 (v15, (wI .i64 (v12.2 + 1))))
   fun j15 =>
   Bi (fun (v16 : Bool) =>
    AW v16
     ((Bf v12.1 v12.2).bind fun v22 =>
     (DN (0 ≤ p2.fVersion)).bind fun _ =>
     (Bf v12.1 v12.2).bind fun _ =>
     j15 (v12.1.set ((v12.2).toNat) ((MC .u8 v22 ((CJ .u8 1 p2.fVersion))))))
     (j15 v12.1))
   fun j16 =>
   (Bf p0.fTables v12.2).bind fun v17 =>
   AW ((v17.fFrom == p2.fIndex))
    ((Bf p0.fTables v12.2).bind fun v19 =>
    (Bt N v19).bind fun v20 =>
    j16 v20)
    (j16 false))
   (j12 v12.1)
def BW (N : Nat) (p0 : Ak) (p1 : Ah) (p2 : Av) (v32 : AR) (v35 : Int) (j38 : Unit → Option (Ah × Bool)) : Nat → Int → Option (Ah × Bool)
 | 0, _ => none
 | n38 + 1, v38 =>
  (Bf p0.fVersions v32.fFrom).bind fun v40 =>
  AW ((decide (v38 < v40)))
   (Bi (fun (v42 : Bool) =>
    Bi (fun (v47 : Bool) =>
     AW v47
      (some ((Ah.mk (([] : List Int)) (([] : List Int)) (([] : List Int))), false))
      (BW N p0 p1 p2 v32 v35 j38 n38 (wI .i64 (v38 + 1))))
    fun j47 =>
    AW v42
     (AW ((v32.fKind == 4))
      ((Bf v32.fRewrite v38).bind fun v50 =>
      (Bf p1.fBase v32.fFrom).bind fun v51 =>
      (Bf v50 v51).bind fun v52 =>
      j47 (!v52))
      (j47 false))
     (j47 false))
   fun j42 =>
   (Bf p1.fHeld p2.fIndex).bind fun v43 =>
   (CK N v43 v38).bind fun v44 =>
   AW v44
    ((CK N v35 v38).bind fun v46 =>
    j42 (!v46))
    (j42 false))
   (j38 ())
def C2 (N : Nat) (p0 : Ak) (p1 : Ah) (p2 : Av) : Option (Ah × Bool) :=
 (DN ((([] : List Int)).length + p1.fBase.length ≤ D2)).bind fun _ =>
 (DN ((([] : List Int)).length + p1.fNext.length ≤ D2)).bind fun _ =>
 (DN ((([] : List Int)).length + p1.fHeld.length ≤ D2)).bind fun _ =>
 Bi (fun (v4 : (List Int) × (List Int) × (List Int)) =>
  some ((Ah.mk v4.1 v4.2.1 v4.2.2), true))
 fun j4 =>
 AW ((p2.fKind == 1))
  (Bi (fun (v6 : Bool) =>
   AW v6
    (some ((Ah.mk (([] : List Int)) (([] : List Int)) (([] : List Int))), false))
    ((Bf ((([] : List Int)) ++ p1.fNext) p2.fIndex).bind fun _ =>
    Ce N p0 p2 (fun (v13 : (List Int)) =>
     j4 ((([] : List Int)) ++ p1.fBase, ((([] : List Int)) ++ p1.fNext).set ((p2.fIndex).toNat) p2.fVersion, v13)) N ((([] : List Int)) ++ p1.fHeld, 0)))
  fun j6 =>
  (Bf p1.fNext p2.fIndex).bind fun v7 =>
  AW ((decide (0 ≤ v7)))
   (j6 true)
   ((Bf p1.fBase p2.fIndex).bind fun v9 =>
   j6 (p2.fVersion == v9)))
  (AW ((p2.fKind == 2))
   ((Bf p1.fNext p2.fIndex).bind fun v26 =>
   AW ((decide (v26 < 0)))
    (some ((Ah.mk (([] : List Int)) (([] : List Int)) (([] : List Int))), false))
    ((Bf p1.fNext p2.fIndex).bind fun v28 =>
    (Bf ((([] : List Int)) ++ p1.fBase) p2.fIndex).bind fun _ =>
    (Bf ((([] : List Int)) ++ p1.fNext) p2.fIndex).bind fun _ =>
    j4 (((([] : List Int)) ++ p1.fBase).set ((p2.fIndex).toNat) v28, ((([] : List Int)) ++ p1.fNext).set ((p2.fIndex).toNat) ((-1)), (([] : List Int)) ++ p1.fHeld)))
   (AW ((p2.fKind == 3))
    ((Bf p0.fTables p2.fIndex).bind fun v32 =>
    (Bt N v32).bind fun v33 =>
    AW ((!v33))
     (some ((Ah.mk (([] : List Int)) (([] : List Int)) (([] : List Int))), false))
     ((BU N p1 v32.fFrom).bind fun v35 =>
     (Bf p1.fHeld p2.fIndex).bind fun v36 =>
     AW ((v36 == v35))
      (some ((Ah.mk (([] : List Int)) (([] : List Int)) (([] : List Int))), false))
      (BW N p0 p1 p2 v32 v35 (fun (_ : Unit) =>
       (Bf ((([] : List Int)) ++ p1.fHeld) p2.fIndex).bind fun _ =>
       j4 ((([] : List Int)) ++ p1.fBase, (([] : List Int)) ++ p1.fNext, ((([] : List Int)) ++ p1.fHeld).set ((p2.fIndex).toNat) v35)) N 0)))
    ((Bf p1.fNext p2.fIndex).bind fun v55 =>
    AW ((decide (v55 < 0)))
     (some ((Ah.mk (([] : List Int)) (([] : List Int)) (([] : List Int))), false))
     ((Bf ((([] : List Int)) ++ p1.fNext) p2.fIndex).bind fun _ =>
     j4 ((([] : List Int)) ++ p1.fBase, ((([] : List Int)) ++ p1.fNext).set ((p2.fIndex).toNat) ((-1)), (([] : List Int)) ++ p1.fHeld)))))
def EB (N : Nat) (p0 : Ak) (p1 : Ah) (p2 : Av) : Option (Ah × Int) :=
 (Dm N p0 p1).bind fun v1 =>
 AW ((v1 != 0))
  (some ((Ah.mk (([] : List Int)) (([] : List Int)) (([] : List Int))), v1))
  ((EC N p2).bind fun v3 =>
  AW ((!v3))
   (some ((Ah.mk (([] : List Int)) (([] : List Int)) (([] : List Int))), 1))
   (Bi (fun (v5 : Bool) =>
    AW v5
     (some ((Ah.mk (([] : List Int)) (([] : List Int)) (([] : List Int))), 4))
     (Bi (fun (v11 : Bool) =>
      AW v11
       (some ((Ah.mk (([] : List Int)) (([] : List Int)) (([] : List Int))), 4))
       ((C2 N p0 p1 p2).bind fun v15 =>
       AW ((!v15.2))
        (some ((Ah.mk (([] : List Int)) (([] : List Int)) (([] : List Int))), 11))
        (some (v15.1, 0))))
     fun j11 =>
     AW ((p2.fKind == 1))
      ((Bf p0.fVersions p2.fIndex).bind fun v13 =>
      j11 (decide (v13 ≤ p2.fVersion)))
      (j11 false)))
   fun j5 =>
   AW ((p2.fKind == 3))
    (AW ((decide ((p0.fTables.length : Int) ≤ p2.fIndex)))
     (j5 true)
     (AW ((p2.fKind != 3))
      (j5 (decide ((p0.fVersions.length : Int) ≤ p2.fIndex)))
      (j5 false)))
    (AW ((p2.fKind != 3))
     (j5 (decide ((p0.fVersions.length : Int) ≤ p2.fIndex)))
     (j5 false))))
def Cr (N : Nat) (p0 : Ak) (p1 : Ah) (v1 : (List Av) × Int) (v4 : (List Av) × Int) (j7 : ((List Av)) → Option ((List Av))) : Nat → ((List Av) × Int) → Option ((List Av))
 | 0, _ => none
 | n7 + 1, v7 =>
  AW ((decide (v7.2 < 6)))
   (Bi (fun (v10 : (List Av)) =>
    Cr N p0 p1 v1 v4 j7 n7 (v10, (wI .i64 (v7.2 + 1))))
   fun j10 =>
   (EB N p0 p1 ((Av.mk v1.2 v4.2 v7.2))).bind fun v11 =>
   AW ((v11.2 == 0))
    ((DN (v7.1.length + (([(Av.mk v1.2 v4.2 v7.2)] : List Av)).length ≤ D2)).bind fun _ =>
    j10 (v7.1 ++ (([(Av.mk v1.2 v4.2 v7.2)] : List Av))))
    (j10 v7.1))
   (j7 v7.1)
def Cs (N : Nat) (p0 : Ak) (p1 : Ah) (v1 : (List Av) × Int) (j4 : ((List Av)) → Option ((List Av))) : Nat → ((List Av) × Int) → Option ((List Av))
 | 0, _ => none
 | n4 + 1, v4 =>
  AW ((decide (v4.2 < (Tq ((p0.fVersions.length : Int)) ((p0.fTables.length : Int))))))
   (Cr N p0 p1 v1 v4 (fun (v8 : (List Av)) =>
    Cs N p0 p1 v1 j4 n4 (v8, (wI .i64 (v4.2 + 1)))) N (v4.1, 0))
   (j4 v4.1)
def BN (N : Nat) (p0 : Ak) (p1 : Ah) (j1 : ((List Av)) → Option ((List Av))) : Nat → ((List Av) × Int) → Option ((List Av))
 | 0, _ => none
 | n1 + 1, v1 =>
  AW ((decide (v1.2 ≤ 3)))
   (Cs N p0 p1 v1 (fun (v5 : (List Av)) =>
    BN N p0 p1 j1 n1 (v5, (wI .i64 (v1.2 + 1)))) N (v1.1, 0))
   (j1 v1.1)
def EL (N : Nat) (p0 : Ak) (p1 : Ah) : Option ((List Av)) :=
 BN N p0 p1 (fun (v2 : (List Av)) =>
  some v2) N (([] : List Av), 1)
def Eo (_ : Nat) (p0 : Ah) : Option Ah :=
 (DN ((([] : List Int)).length + p0.fBase.length ≤ D2)).bind fun _ =>
 (DN ((([] : List Int)).length + p0.fNext.length ≤ D2)).bind fun _ =>
 (DN ((([] : List Int)).length + p0.fHeld.length ≤ D2)).bind fun _ =>
 some ((Ah.mk ((([] : List Int)) ++ p0.fBase) ((([] : List Int)) ++ p0.fNext) ((([] : List Int)) ++ p0.fHeld)))
def CR (N : Nat) (p0 : Ah) (j1 : Int → Option ((List Ah))) : Nat → (Int × Int) → Option ((List Ah))
 | 0, _ => none
 | n1 + 1, v1 =>
  AW ((decide (v1.2 < (p0.fNext.length : Int))))
   (Bi (fun (v4 : Int) =>
    CR N p0 j1 n1 (v4, (wI .i64 (v1.2 + 1))))
   fun j4 =>
   (Bf p0.fNext v1.2).bind fun v5 =>
   AW ((decide (0 ≤ v5)))
    (j4 (wI .i64 (v1.1 + 1)))
    (j4 v1.1))
   (j1 v1.1)
def B9 (N : Nat) (p0 : Ah) (v7 : (List Ah) × Int) (j12 : ((List Int)) → Option ((List Ah))) : Nat → ((List Int) × Int × Int) → Option ((List Ah))
 | 0, _ => none
 | n12 + 1, v12 =>
  AW ((decide (v12.2.2 < (p0.fNext.length : Int))))
   (Bi (fun (v15 : (List Int) × Int) =>
    B9 N p0 v7 j12 n12 (v15.1, v15.2, (wI .i64 (v12.2.2 + 1))))
   fun j15 =>
   (Bf p0.fNext v12.2.2).bind fun v16 =>
   AW ((decide (v16 < 0)))
    (j15 (v12.1, v12.2.1))
    (Bi (fun (v18 : (List Int)) =>
     j15 (v18, (wI .i64 (v12.2.1 + 1))))
    fun j18 =>
    (DN (0 ≤ v12.2.1)).bind fun _ =>
    AW (((Int.tmod ((El .i64 v7.2 v12.2.1)) 2) == 1))
     ((Bf v12.1 v12.2.2).bind fun _ =>
     j18 (v12.1.set ((v12.2.2).toNat) ((-1))))
     (j18 v12.1)))
   (j12 v12.1)
def BQ (N : Nat) (p0 : Ah) (v2 : Int) (j7 : ((List Ah)) → Option ((List Ah))) : Nat → ((List Ah) × Int) → Option ((List Ah))
 | 0, _ => none
 | n7 + 1, v7 =>
  (DN (0 ≤ v2)).bind fun _ =>
  AW ((decide (v7.2 < (CJ .i64 1 v2))))
   ((Eo N p0).bind fun v11 =>
   B9 N p0 v7 (fun (v13 : (List Int)) =>
    (DN (v7.1.length + (([(Ah.mk v11.fBase v13 v11.fHeld)] : List Ah)).length ≤ D2)).bind fun _ =>
    BQ N p0 v2 j7 n7 (v7.1 ++ (([(Ah.mk v11.fBase v13 v11.fHeld)] : List Ah)), (wI .i64 (v7.2 + 1)))) N (v11.fNext, 0, 0))
   (j7 v7.1)
def Ev (N : Nat) (p0 : Ah) : Option ((List Ah)) :=
 CR N p0 (fun (v2 : Int) =>
  BQ N p0 v2 (fun (v8 : (List Ah)) =>
   some v8) N (([] : List Ah), 0)) N (0, 0)
def Fc (N : Nat) (p0 : Ak) (p1 : Ah) : Option ((List Ah) × Int) :=
 (Dm N p0 p1).bind fun v1 =>
 AW ((v1 != 0))
  (some (([] : List Ah), v1))
  ((Ev N p1).bind fun v3 =>
  some (v3, 0))
def BD (N : Nat) (p0 : Ak) (p1 : Ah) (v1 : (List Ag) × Int) (v4 : AR) (v10 : (List Ag) × Int) (j17 : ((List Ag) × Bool) → Option ((List Ag))) : Nat → ((List Ag) × Bool × Int) → Option ((List Ag))
 | 0, _ => none
 | n17 + 1, v17 =>
  (Bf p0.fVersions v4.fTo).bind fun v19 =>
  AW ((decide (v17.2.2 < v19)))
   (Bi (fun (v21 : (List Ag) × Bool) =>
    BD N p0 p1 v1 v4 v10 j17 n17 (v21.1, v21.2, (wI .i64 (v17.2.2 + 1))))
   fun j21 =>
   (BU N p1 v4.fTo).bind fun v22 =>
   (CK N v22 v17.2.2).bind fun v23 =>
   AW ((!v23))
    (j21 (v17.1, v17.2.1))
    (Bi (fun (v25 : Bool) =>
     Bi (fun (v29 : Bool) =>
      AW v29
       ((DN (v17.1.length + (([(Ag.mk v1.2 v10.2 v17.2.2)] : List Ag)).length ≤ D2)).bind fun _ =>
       j21 (v17.1 ++ (([(Ag.mk v1.2 v10.2 v17.2.2)] : List Ag)), v25))
       (j21 (v17.1, v25)))
     fun j29 =>
     AW ((!v4.fAware))
      ((Bf v4.fOK v10.2).bind fun v31 =>
      (Bf v31 v17.2.2).bind fun v32 =>
      j29 (!v32))
      (j29 false))
    fun j25 =>
    AW v17.2.1
     (j25 true)
     ((Bf v4.fOK v10.2).bind fun v27 =>
     (Bf v27 v17.2.2).bind fun v28 =>
     j25 v28)))
   (j17 (v17.1, v17.2.1))
def BT (N : Nat) (p0 : Ak) (p1 : Ah) (v1 : (List Ag) × Int) (v4 : AR) (v6 : Int) (j10 : ((List Ag)) → Option ((List Ag))) : Nat → ((List Ag) × Int) → Option ((List Ag))
 | 0, _ => none
 | n10 + 1, v10 =>
  (Bf p0.fVersions v4.fFrom).bind fun v12 =>
  AW ((decide (v10.2 < v12)))
   (Bi (fun (v14 : (List Ag)) =>
    BT N p0 p1 v1 v4 v6 j10 n10 (v14, (wI .i64 (v10.2 + 1))))
   fun j14 =>
   (CK N v6 v10.2).bind fun v15 =>
   AW ((!v15))
    (j14 v10.1)
    (BD N p0 p1 v1 v4 v10 (fun (v18 : (List Ag) × Bool) =>
     Bi (fun (v35 : Bool) =>
      AW v35
       ((DN (v18.1.length + (([(Ag.mk v1.2 v10.2 ((-1)))] : List Ag)).length ≤ D2)).bind fun _ =>
       j14 (v18.1 ++ (([(Ag.mk v1.2 v10.2 ((-1)))] : List Ag))))
       (j14 v18.1))
     fun j35 =>
     AW v4.fAware
      (j35 (!v18.2))
      (j35 false)) N (v10.1, false, 0)))
   (j10 v10.1)
def CW (N : Nat) (p0 : Ak) (p1 : Ah) (j1 : ((List Ag)) → Option ((List Ag))) : Nat → ((List Ag) × Int) → Option ((List Ag))
 | 0, _ => none
 | n1 + 1, v1 =>
  AW ((decide (v1.2 < (p0.fTables.length : Int))))
   ((Bf p0.fTables v1.2).bind fun v4 =>
   (BU N p1 v4.fFrom).bind fun v5 =>
   Bi (fun (v6 : Int) =>
    BT N p0 p1 v1 v4 v6 (fun (v11 : (List Ag)) =>
     CW N p0 p1 j1 n1 (v11, (wI .i64 (v1.2 + 1)))) N (v1.1, 0))
   fun j6 =>
   (Bt N v4).bind fun v7 =>
   AW v7
    ((Bf p1.fHeld v1.2).bind fun v9 =>
    j6 v9)
    (j6 v5))
   (j1 v1.1)
def EI (N : Nat) (p0 : Ak) (p1 : Ah) : Option ((List Ag)) :=
 CW N p0 p1 (fun (v2 : (List Ag)) =>
  some v2) N (([] : List Ag), 0)
def CV (N : Nat) (p0 : Ak) (v1 : (List Ah) × Int) (j3 : Unit → Option (Ah × Ag × Int)) : Nat → Int → Option (Ah × Ag × Int)
 | 0, _ => none
 | n3 + 1, v3 =>
  AW ((decide (v3 < (v1.1.length : Int))))
   ((Bf v1.1 v3).bind fun v6 =>
   (EI N p0 v6).bind fun v7 =>
   AW ((decide (0 < (v7.length : Int))))
    ((Bf v1.1 v3).bind fun v9 =>
    (Bf v7 0).bind fun v10 =>
    some (v9, v10, 0))
    (CV N p0 v1 j3 n3 (wI .i64 (v3 + 1))))
   (j3 ())
def ED (N : Nat) (p0 : Ak) (p1 : Ah) : Option (Ah × Ag × Int) :=
 (Fc N p0 p1).bind fun v1 =>
 AW ((v1.2 != 0))
  (some ((Ah.mk (([] : List Int)) (([] : List Int)) (([] : List Int))), (Ag.mk 0 0 0), v1.2))
  (CV N p0 v1 (fun (_ : Unit) =>
   some ((Ah.mk (([] : List Int)) (([] : List Int)) (([] : List Int))), (Ag.mk 0 0 0), 15)) N 0)
def Ch (N : Nat) (p0 : Ak) (p1 : Ah) (v1 : (List Av)) (j2 : ((List A1)) → Option ((List A1))) : Nat → ((List A1) × Int) → Option ((List A1))
 | 0, _ => none
 | n2 + 1, v2 =>
  AW ((decide (v2.2 < (v1.length : Int))))
   (Bi (fun (v5 : (List A1)) =>
    Ch N p0 p1 v1 j2 n2 (v5, (wI .i64 (v2.2 + 1))))
   fun j5 =>
   (Bf v1 v2.2).bind fun v6 =>
   (C2 N p0 p1 v6).bind fun v7 =>
   (ED N p0 v7.1).bind fun v8 =>
   AW ((v8.2.2 == 0))
    ((Bf v1 v2.2).bind fun v10 =>
    (DN (v2.1.length + (([(A1.mk v10 v8.1 v8.2.1)] : List A1)).length ≤ D2)).bind fun _ =>
    j5 (v2.1 ++ (([(A1.mk v10 v8.1 v8.2.1)] : List A1))))
    (j5 v2.1))
   (j2 v2.1)
def Ep (N : Nat) (p0 : Ak) (p1 : Ah) : Option ((List A1)) :=
 (EL N p0 p1).bind fun v1 =>
 Ch N p0 p1 v1 (fun (v3 : (List A1)) =>
  some v3) N (([] : List A1), 0)
def Cf (N : Nat) (p0 : Ak) (p1 : List Ah) (j3 : ((List A1)) → Option ((List A1) × Int)) : Nat → ((List A1) × Int) → Option ((List A1) × Int)
 | 0, _ => none
 | n3 + 1, v3 =>
  AW ((decide (v3.2 < (p1.length : Int))))
   ((Bf p1 v3.2).bind fun v6 =>
   (Ep N p0 v6).bind fun v7 =>
   (DN (v3.1.length + v7.length ≤ D2)).bind fun _ =>
   Cf N p0 p1 j3 n3 (v3.1 ++ v7, (wI .i64 (v3.2 + 1))))
   (j3 v3.1)
def Cn (N : Nat) (p0 : Ak) (p1 : List Ah) : Option ((List A1) × Int) :=
 (EF N p0 p1).bind fun v1 =>
 AW ((v1 != 0))
  (some (([] : List A1), v1))
  (Cf N p0 p1 (fun (v4 : (List A1)) =>
   some (v4, 0)) N (([] : List A1), 0))
def Eg (_ : Nat) (p0 : Ag) (p1 : Ag) : Option Bool :=
 AW ((p0.fTable != p1.fTable))
  (some ((decide (p0.fTable < p1.fTable))))
  (AW ((p0.fWriter != p1.fWriter))
   (some ((decide (p0.fWriter < p1.fWriter))))
   (some ((decide (p0.fReader < p1.fReader)))))
def Bv (N : Nat) (v1 : (List A1) × Int) (v3 : (List Ag) × Int) (j7 : Int → Option ((List Ag) × Int)) : Nat → Int → Option ((List Ag) × Int)
 | 0, _ => none
 | n7 + 1, v7 =>
  Bi (fun (v9 : Bool) =>
   AW v9
    (Bv N v1 v3 j7 n7 (wI .i64 (v7 + 1)))
    (j7 v7))
  fun j9 =>
  AW ((decide (v7 < (v3.1.length : Int))))
   ((Bf v3.1 v7).bind fun v11 =>
   (Bf v1.1 v3.2).bind fun v12 =>
   (Eg N v11 ((Ag.mk v12.fConflict.fTable v12.fConflict.fWriter v12.fConflict.fReader))).bind fun v13 =>
   j9 v13)
   (j9 false)
def Cw (N : Nat) (v1 : (List A1) × Int) (j3 : ((List Ag)) → Option ((List Ag) × Int)) : Nat → ((List Ag) × Int) → Option ((List Ag) × Int)
 | 0, _ => none
 | n3 + 1, v3 =>
  AW ((decide (v3.2 < (v1.1.length : Int))))
   (Bi (fun (v6 : (List Ag)) =>
    Cw N v1 j3 n3 (v6, (wI .i64 (v3.2 + 1))))
   fun j6 =>
   Bv N v1 v3 (fun (v8 : Int) =>
    Bi (fun (v15 : Bool) =>
     AW v15
      ((DN ((0 : Int) ≤ v8 ∧ 0 ≤ (v8).toNat ∧ (v8).toNat ≤ v3.1.length)).bind fun _ =>
      (DN ((([] : List Ag)).length + (((v3.1.drop 0).take ((v8).toNat - 0))).length ≤ D2)).bind fun _ =>
      (Bf v1.1 v3.2).bind fun v22 =>
      (DN (((([] : List Ag)) ++ (((v3.1.drop 0).take ((v8).toNat - 0)))).length + (([(Ag.mk v22.fConflict.fTable v22.fConflict.fWriter v22.fConflict.fReader)] : List Ag)).length ≤ D2)).bind fun _ =>
      (DN ((0 : Int) ≤ v8 ∧ (v8).toNat ≤ v3.1.length ∧ v3.1.length ≤ v3.1.length)).bind fun _ =>
      (DN ((((([] : List Ag)) ++ (((v3.1.drop 0).take ((v8).toNat - 0)))) ++ (([(Ag.mk v22.fConflict.fTable v22.fConflict.fWriter v22.fConflict.fReader)] : List Ag))).length + (((v3.1.drop (v8).toNat).take (v3.1.length - (v8).toNat))).length ≤ D2)).bind fun _ =>
      j6 ((((([] : List Ag)) ++ (((v3.1.drop 0).take ((v8).toNat - 0)))) ++ (([(Ag.mk v22.fConflict.fTable v22.fConflict.fWriter v22.fConflict.fReader)] : List Ag))) ++ (((v3.1.drop (v8).toNat).take (v3.1.length - (v8).toNat)))))
      (j6 v3.1))
    fun j15 =>
    AW ((v8 == (v3.1.length : Int)))
     (j15 true)
     ((Bf v3.1 v8).bind fun v17 =>
     (Bf v1.1 v3.2).bind fun v18 =>
     j15 (!((v17.fTable == v18.fConflict.fTable) && ((v17.fWriter == v18.fConflict.fWriter) && ((v17.fReader == v18.fConflict.fReader) && true)))))) N 0)
   (j3 v3.1)
def Ca (N : Nat) (p0 : Ak) (p1 : List Ah) : Option ((List Ag) × Int) :=
 (Cn N p0 p1).bind fun v1 =>
 AW ((v1.2 != 0))
  (some (([] : List Ag), v1.2))
  (Cw N v1 (fun (v4 : (List Ag)) =>
   some (v4, 0)) N (([] : List Ag), 0))
def CG (N : Nat) (p0 : List A1) (p1 : List A1) (j2 : Unit → Option Bool) : Nat → Int → Option Bool
 | 0, _ => none
 | n2 + 1, v2 =>
  AW ((decide (v2 < (p0.length : Int))))
   (Bi (fun (v5 : Bool) =>
    AW v5
     (some false)
     (CG N p0 p1 j2 n2 (wI .i64 (v2 + 1))))
   fun j5 =>
   (Bf p0 v2).bind fun v6 =>
   (Bf p1 v2).bind fun v7 =>
   AW ((!((v6.fStep.fKind == v7.fStep.fKind) && ((v6.fStep.fIndex == v7.fStep.fIndex) && ((v6.fStep.fVersion == v7.fStep.fVersion) && true)))))
    (j5 true)
    ((Bf p0 v2).bind fun v9 =>
    (Bf p1 v2).bind fun v10 =>
    AW ((!((v9.fConflict.fTable == v10.fConflict.fTable) && ((v9.fConflict.fWriter == v10.fConflict.fWriter) && ((v9.fConflict.fReader == v10.fConflict.fReader) && true)))))
     (j5 true)
     ((Bf p0 v2).bind fun v12 =>
     (Bf p1 v2).bind fun v13 =>
     (C0 N ((Ah.mk v12.fMix.fBase v12.fMix.fNext v12.fMix.fHeld)) ((Ah.mk v13.fMix.fBase v13.fMix.fNext v13.fMix.fHeld))).bind fun v14 =>
     j5 (!v14))))
   (j2 ())
def Cu (N : Nat) (p0 : List A1) (p1 : List A1) : Option Bool :=
 AW (((p0.length : Int) != (p1.length : Int)))
  (some false)
  (CG N p0 p1 (fun (_ : Unit) =>
   some true) N 0)
def BS (N : Nat) (p1 : List B1) (v1 : Ak × Bool) (j8 : ((List Ah)) → Option Bool) : Nat → ((List Ah) × Int) → Option Bool
 | 0, _ => none
 | n8 + 1, v8 =>
  AW ((decide (v8.2 < (p1.length : Int))))
   ((Bf p1 v8.2).bind fun v11 =>
   (Fp N v1.1 v11).bind fun v12 =>
   (DN (v8.1.length + (([v12] : List Ah)).length ≤ D2)).bind fun _ =>
   BS N p1 v1 j8 n8 (v8.1 ++ (([v12] : List Ah)), (wI .i64 (v8.2 + 1))))
   (j8 v8.1)
def Da (N : Nat) (p0 : CU) (p1 : List B1) : Option Bool :=
 (Fu N p0).bind fun v1 =>
 Bi (fun (v2 : Bool) =>
  AW v2
   ((EK N).bind fun v7 =>
   some v7)
   (BS N p1 v1 (fun (v9 : (List Ah)) =>
    (C8 N v1.1 v9).bind fun v14 =>
    (Cn N v1.1 v9).bind fun v15 =>
    (CX N v1.1 v9).bind fun v16 =>
    (Ca N v1.1 v9).bind fun v17 =>
    Bi (fun (v18 : Bool) =>
     some v18)
    fun j18 =>
    AW ((v14.2 == v15.2))
     (AW ((v16.2 == v17.2))
      ((Cu N v14.1 v15.1).bind fun v21 =>
      AW v21
       ((BO N v16.1 v17.1).bind fun v23 =>
       j18 v23)
       (j18 false))
      (j18 false))
     (j18 false)) N (([] : List Ah), 0)))
 fun j2 =>
 (EK N).bind fun v3 =>
 AW ((!v3))
  (j2 true)
  (AW ((!v1.2))
   (j2 true)
   (j2 (decide (6 < (p1.length : Int)))))
def J0 {α : Type} (w : α → Prop) (xs : List α) : Prop := ∀ x, x ∈ xs → w x
def I4 (n : Int) : Prop := (Lit.int .u8 n).wf = true
def XH (n : Int) : Prop := (Lit.int .u16 n).wf = true
def H8 (x : Iz) : Prop := I4 x.fKind ∧ I4 x.fFrom ∧ I4 x.fTo ∧ (fun _ => True) x.fAware ∧ XH x.fBad ∧ XH x.fLost ∧ True
def Gk (x : CU) : Prop := (J0 I4) x.fVersions ∧ (J0 I4) x.fNow ∧ (J0 I4) x.fTarget ∧ (J0 H8) x.fLinks ∧ True
def Fk (x : B1) : Prop := (J0 I4) x.fBase ∧ (J0 I4) x.fNext ∧ (J0 I4) x.fHeld ∧ True
end Go.Lift
namespace Go.Lift
open Go.RowKit
open Go.Proofs
theorem Ac : Tryz.prog.follows .mixedOrders = true := by kernel_rfl
theorem YX : Fh Tryz.prog 101 true = true := by kernel_rfl
theorem NZ : Fh Tryz.prog 195 false = true := by kernel_rfl
theorem RG : Fh Tryz.prog 22 false = true := by kernel_rfl
theorem XL : Fh Tryz.prog 23 false = true := by kernel_rfl
theorem ZM : Fh Tryz.prog 25 true = true := by kernel_rfl
theorem Bu : Fh Tryz.prog 26 false = true := by kernel_rfl
theorem H0 : Fh Tryz.prog 27 false = true := by kernel_rfl
theorem DO : Fh Tryz.prog 29 true = true := by kernel_rfl
theorem B6 : Fh Tryz.prog 3 false = true := by kernel_rfl
theorem Sn : Fh Tryz.prog 4 false = true := by kernel_rfl
theorem X0 : Fh Tryz.prog 41 true = true := by kernel_rfl
theorem G4 : Fh Tryz.prog 44 false = true := by kernel_rfl
theorem A9 : Fh Tryz.prog 46 true = true := by kernel_rfl
theorem XT : Fh Tryz.prog 5 false = true := by kernel_rfl
theorem CP : Fh Tryz.prog 66 true = true := by kernel_rfl
theorem K8 : Fh Tryz.prog 67 false = true := by kernel_rfl
theorem H1 : Fh Tryz.prog 69 true = true := by kernel_rfl
theorem P7 : Fh Tryz.prog 70 false = true := by kernel_rfl
theorem Kq : Fh Tryz.prog 81 false = true := by kernel_rfl
theorem H6 : Fh Tryz.prog 84 true = true := by kernel_rfl
theorem ZR : Fh Tryz.prog 86 true = true := by kernel_rfl
theorem X5 : Fh Tryz.prog 99 false = true := by kernel_rfl
theorem X7 : Qn Tryz.prog 22 = true := by kernel_rfl
theorem MQ : Gg Tryz.prog 3 8 = true := by kernel_rfl
theorem Xk : Gg Tryz.prog 4 1 = true := by kernel_rfl
theorem Q0 : Gg Tryz.prog 46 72 = true := by kernel_rfl
theorem Yo : Gg Tryz.prog 5 1 = true := by kernel_rfl
theorem Nt : Gg Tryz.prog 66 24 = true := by kernel_rfl
theorem Zx : Gg Tryz.prog 69 80 = true := by kernel_rfl
theorem X3 : Gg Tryz.prog 70 24 = true := by kernel_rfl
theorem Ro : Gg Tryz.prog 81 1 = true := by kernel_rfl
theorem Rq : Gg Tryz.prog 84 24 = true := by kernel_rfl
theorem S5 : Gg Tryz.prog 86 120 = true := by kernel_rfl
theorem Up : CN Tryz.prog 101 0 0 = true := by kernel_rfl
theorem TL : CN Tryz.prog 101 1 1 = true := by kernel_rfl
theorem Uo : CN Tryz.prog 101 2 2 = true := by kernel_rfl
theorem U5 : CN Tryz.prog 101 3 3 = true := by kernel_rfl
theorem Un : CN Tryz.prog 101 4 4 = true := by kernel_rfl
theorem T8 : CN Tryz.prog 101 5 5 = true := by kernel_rfl
theorem Qi : CN Tryz.prog 25 0 0 = true := by kernel_rfl
theorem Wf : CN Tryz.prog 25 1 1 = true := by kernel_rfl
theorem Wp : CN Tryz.prog 25 2 2 = true := by kernel_rfl
theorem P9 : CN Tryz.prog 25 3 3 = true := by kernel_rfl
theorem BH : CN Tryz.prog 29 0 0 = true := by kernel_rfl
theorem Ie : CN Tryz.prog 29 1 1 = true := by kernel_rfl
theorem IK : CN Tryz.prog 29 2 2 = true := by kernel_rfl
theorem Df : CN Tryz.prog 29 3 3 = true := by kernel_rfl
theorem VR : CN Tryz.prog 41 0 0 = true := by kernel_rfl
theorem VI : CN Tryz.prog 41 1 1 = true := by kernel_rfl
theorem VP : CN Tryz.prog 41 2 2 = true := by kernel_rfl
theorem CY : CN Tryz.prog 46 0 0 = true := by kernel_rfl
theorem BJ : CN Tryz.prog 46 1 1 = true := by kernel_rfl
theorem CS : CN Tryz.prog 46 2 2 = true := by kernel_rfl
theorem Lc : CN Tryz.prog 66 0 0 = true := by kernel_rfl
theorem Li : CN Tryz.prog 66 1 1 = true := by kernel_rfl
theorem NK : CN Tryz.prog 66 2 2 = true := by kernel_rfl
theorem Gl : CN Tryz.prog 69 0 0 = true := by kernel_rfl
theorem Dj : CN Tryz.prog 69 1 1 = true := by kernel_rfl
theorem IP : CN Tryz.prog 69 2 2 = true := by kernel_rfl
theorem Jw : CN Tryz.prog 69 3 3 = true := by kernel_rfl
theorem Kh : CN Tryz.prog 69 4 4 = true := by kernel_rfl
theorem Hm : CN Tryz.prog 69 5 5 = true := by kernel_rfl
theorem FX : CN Tryz.prog 84 0 0 = true := by kernel_rfl
theorem Fe : CN Tryz.prog 84 1 1 = true := by kernel_rfl
theorem Hj : CN Tryz.prog 84 2 2 = true := by kernel_rfl
theorem PW : CN Tryz.prog 86 0 0 = true := by kernel_rfl
theorem SI : CN Tryz.prog 86 1 3 = true := by kernel_rfl
theorem Kn : CN Tryz.prog 86 2 6 = true := by kernel_rfl
theorem Zf : AL Tryz.prog 100 = true := by kernel_rfl
theorem Zp : AL Tryz.prog 101 = true := by kernel_rfl
theorem Sq : AL Tryz.prog 102 = true := by kernel_rfl
theorem Y1 : AL Tryz.prog 103 = true := by kernel_rfl
theorem Vd : AL Tryz.prog 104 = true := by kernel_rfl
theorem Vh : AL Tryz.prog 105 = true := by kernel_rfl
theorem WI : AL Tryz.prog 106 = true := by kernel_rfl
theorem Uu : AL Tryz.prog 107 = true := by kernel_rfl
theorem U8 : AL Tryz.prog 108 = true := by kernel_rfl
theorem WG : AL Tryz.prog 109 = true := by kernel_rfl
theorem Yr : AL Tryz.prog 11 = true := by kernel_rfl
theorem Yb : AL Tryz.prog 111 = true := by kernel_rfl
theorem Yh : AL Tryz.prog 113 = true := by kernel_rfl
theorem SM : AL Tryz.prog 114 = true := by kernel_rfl
theorem WK : AL Tryz.prog 115 = true := by kernel_rfl
theorem TZ : AL Tryz.prog 118 = true := by kernel_rfl
theorem Yy : AL Tryz.prog 119 = true := by kernel_rfl
theorem ai : AL Tryz.prog 12 = true := by kernel_rfl
theorem Y0 : AL Tryz.prog 120 = true := by kernel_rfl
theorem YY : AL Tryz.prog 121 = true := by kernel_rfl
theorem Yf : AL Tryz.prog 122 = true := by kernel_rfl
theorem YQ : AL Tryz.prog 123 = true := by kernel_rfl
theorem Zh : AL Tryz.prog 124 = true := by kernel_rfl
theorem Yt : AL Tryz.prog 125 = true := by kernel_rfl
theorem Zg : AL Tryz.prog 126 = true := by kernel_rfl
theorem X6 : AL Tryz.prog 127 = true := by kernel_rfl
theorem YE : AL Tryz.prog 128 = true := by kernel_rfl
theorem Yp : AL Tryz.prog 129 = true := by kernel_rfl
theorem X2 : AL Tryz.prog 130 = true := by kernel_rfl
theorem W2 : AL Tryz.prog 131 = true := by kernel_rfl
theorem Y2 : AL Tryz.prog 132 = true := by kernel_rfl
theorem YN : AL Tryz.prog 133 = true := by kernel_rfl
theorem XX : AL Tryz.prog 134 = true := by kernel_rfl
theorem YC : AL Tryz.prog 135 = true := by kernel_rfl
theorem Zz : AL Tryz.prog 136 = true := by kernel_rfl
theorem YS : AL Tryz.prog 137 = true := by kernel_rfl
theorem Yi : AL Tryz.prog 138 = true := by kernel_rfl
theorem Zt : AL Tryz.prog 139 = true := by kernel_rfl
theorem Z3 : AL Tryz.prog 14 = true := by kernel_rfl
theorem YL : AL Tryz.prog 140 = true := by kernel_rfl
theorem Zk : AL Tryz.prog 141 = true := by kernel_rfl
theorem Zm : AL Tryz.prog 142 = true := by kernel_rfl
theorem Yv : AL Tryz.prog 143 = true := by kernel_rfl
theorem YZ : AL Tryz.prog 145 = true := by kernel_rfl
theorem YR : AL Tryz.prog 146 = true := by kernel_rfl
theorem YB : AL Tryz.prog 147 = true := by kernel_rfl
theorem X8 : AL Tryz.prog 148 = true := by kernel_rfl
theorem Yz : AL Tryz.prog 149 = true := by kernel_rfl
theorem Xg : AL Tryz.prog 15 = true := by kernel_rfl
theorem X9 : AL Tryz.prog 150 = true := by kernel_rfl
theorem Yj : AL Tryz.prog 151 = true := by kernel_rfl
theorem YG : AL Tryz.prog 152 = true := by kernel_rfl
theorem Yl : AL Tryz.prog 153 = true := by kernel_rfl
theorem Yg : AL Tryz.prog 154 = true := by kernel_rfl
theorem W1 : AL Tryz.prog 155 = true := by kernel_rfl
theorem WM : AL Tryz.prog 156 = true := by kernel_rfl
theorem Zd : AL Tryz.prog 157 = true := by kernel_rfl
theorem YA : AL Tryz.prog 158 = true := by kernel_rfl
theorem YH : AL Tryz.prog 159 = true := by kernel_rfl
theorem ZK : AL Tryz.prog 16 = true := by kernel_rfl
theorem Y4 : AL Tryz.prog 160 = true := by kernel_rfl
theorem WL : AL Tryz.prog 161 = true := by kernel_rfl
theorem WR : AL Tryz.prog 162 = true := by kernel_rfl
theorem WD : AL Tryz.prog 163 = true := by kernel_rfl
theorem Uv : AL Tryz.prog 164 = true := by kernel_rfl
theorem WJ : AL Tryz.prog 165 = true := by kernel_rfl
theorem WC : AL Tryz.prog 166 = true := by kernel_rfl
theorem TW : AL Tryz.prog 167 = true := by kernel_rfl
theorem WW : AL Tryz.prog 168 = true := by kernel_rfl
theorem Yu : AL Tryz.prog 169 = true := by kernel_rfl
theorem Z8 : AL Tryz.prog 17 = true := by kernel_rfl
theorem YV : AL Tryz.prog 170 = true := by kernel_rfl
theorem Vj : AL Tryz.prog 171 = true := by kernel_rfl
theorem UK : AL Tryz.prog 172 = true := by kernel_rfl
theorem az : AL Tryz.prog 18 = true := by kernel_rfl
theorem X4 : AL Tryz.prog 19 = true := by kernel_rfl
theorem ZW : AL Tryz.prog 20 = true := by kernel_rfl
theorem Xv : AL Tryz.prog 21 = true := by kernel_rfl
theorem Zo : AL Tryz.prog 22 = true := by kernel_rfl
theorem aB : AL Tryz.prog 23 = true := by kernel_rfl
theorem Zl : AL Tryz.prog 24 = true := by kernel_rfl
theorem ZN : AL Tryz.prog 25 = true := by kernel_rfl
theorem W7 : AL Tryz.prog 27 = true := by kernel_rfl
theorem Z5 : AL Tryz.prog 30 = true := by kernel_rfl
theorem YJ : AL Tryz.prog 35 = true := by kernel_rfl
theorem RL : AL Tryz.prog 39 = true := by kernel_rfl
theorem aH : AL Tryz.prog 40 = true := by kernel_rfl
theorem ad : AL Tryz.prog 41 = true := by kernel_rfl
theorem Y9 : AL Tryz.prog 42 = true := by kernel_rfl
theorem Yq : AL Tryz.prog 44 = true := by kernel_rfl
theorem UQ : AL Tryz.prog 45 = true := by kernel_rfl
theorem Xl : AL Tryz.prog 46 = true := by kernel_rfl
theorem Za : AL Tryz.prog 47 = true := by kernel_rfl
theorem Xc : AL Tryz.prog 48 = true := by kernel_rfl
theorem Xo : AL Tryz.prog 49 = true := by kernel_rfl
theorem Zs : AL Tryz.prog 50 = true := by kernel_rfl
theorem PJ : AL Tryz.prog 51 = true := by kernel_rfl
theorem Y3 : AL Tryz.prog 52 = true := by kernel_rfl
theorem Xi : AL Tryz.prog 53 = true := by kernel_rfl
theorem To : AL Tryz.prog 54 = true := by kernel_rfl
theorem YI : AL Tryz.prog 55 = true := by kernel_rfl
theorem aF : AL Tryz.prog 56 = true := by kernel_rfl
theorem ZT : AL Tryz.prog 57 = true := by kernel_rfl
theorem V9 : AL Tryz.prog 58 = true := by kernel_rfl
theorem ah : AL Tryz.prog 59 = true := by kernel_rfl
theorem ae : AL Tryz.prog 60 = true := by kernel_rfl
theorem Zr : AL Tryz.prog 61 = true := by kernel_rfl
theorem Wv : AL Tryz.prog 62 = true := by kernel_rfl
theorem Z4 : AL Tryz.prog 63 = true := by kernel_rfl
theorem ag : AL Tryz.prog 64 = true := by kernel_rfl
theorem UC : AL Tryz.prog 65 = true := by kernel_rfl
theorem RZ : AL Tryz.prog 66 = true := by kernel_rfl
theorem Xb : AL Tryz.prog 67 = true := by kernel_rfl
theorem ZO : AL Tryz.prog 68 = true := by kernel_rfl
theorem am : AL Tryz.prog 72 = true := by kernel_rfl
theorem XZ : AL Tryz.prog 73 = true := by kernel_rfl
theorem ZU : AL Tryz.prog 75 = true := by kernel_rfl
theorem Z7 : AL Tryz.prog 76 = true := by kernel_rfl
theorem ZS : AL Tryz.prog 78 = true := by kernel_rfl
theorem Xt : AL Tryz.prog 82 = true := by kernel_rfl
theorem ZV : AL Tryz.prog 83 = true := by kernel_rfl
theorem W8 : AL Tryz.prog 84 = true := by kernel_rfl
theorem ZY : AL Tryz.prog 85 = true := by kernel_rfl
theorem af : AL Tryz.prog 86 = true := by kernel_rfl
theorem ZJ : AL Tryz.prog 87 = true := by kernel_rfl
theorem ZP : AL Tryz.prog 88 = true := by kernel_rfl
theorem aI : AL Tryz.prog 89 = true := by kernel_rfl
theorem ac : AL Tryz.prog 90 = true := by kernel_rfl
theorem XB : AL Tryz.prog 91 = true := by kernel_rfl
theorem Zc : AL Tryz.prog 92 = true := by kernel_rfl
theorem Z9 : AL Tryz.prog 93 = true := by kernel_rfl
theorem aa : AL Tryz.prog 94 = true := by kernel_rfl
theorem aj : AL Tryz.prog 95 = true := by kernel_rfl
theorem ZQ : AL Tryz.prog 96 = true := by kernel_rfl
theorem Zu : AL Tryz.prog 97 = true := by kernel_rfl
theorem aG : AL Tryz.prog 98 = true := by kernel_rfl
theorem aE : AL Tryz.prog 99 = true := by kernel_rfl
theorem Nl : ND Tryz.prog 152 .u64 = true := by kernel_rfl
theorem Q3 : ND Tryz.prog 179 .u32 = true := by kernel_rfl
theorem WV : ND Tryz.prog 181 .u64 = true := by kernel_rfl
theorem WF : ND Tryz.prog 195 .u64 = true := by kernel_rfl
theorem SY : ND Tryz.prog 3 .i64 = true := by kernel_rfl
theorem ZB : ND Tryz.prog 5 .u8 = true := by kernel_rfl
theorem aA : ND Tryz.prog 81 .u8 = true := by kernel_rfl
theorem XD : Tryz.prog.underlying 9 = some .string := by kernel_rfl
theorem PU : Tryz.prog.underlying 134 = some (.map 9 4) := by kernel_rfl
theorem YO : II Tryz.prog 29 = some [(0, 1), (1, 1), (2, 1), (3, 1)] := by kernel_rfl
theorem G5 : II Tryz.prog 46 = some [(0, 1), (1, 1), (2, 1)] := by kernel_rfl
theorem Qc : II Tryz.prog 66 = some [(0, 1), (1, 1), (2, 1)] := by kernel_rfl
theorem YU : II Tryz.prog 69 = some [(0, 1), (1, 1), (2, 1), (3, 1), (4, 1), (5, 1)] := by kernel_rfl
theorem Uc : II Tryz.prog 84 = some [(0, 1), (1, 1), (2, 1)] := by kernel_rfl
theorem Yk : II Tryz.prog 86 = some [(0, 3), (3, 3), (6, 3)] := by kernel_rfl
theorem PE : Tp Tryz.prog 66 = some [0, 0, 0] := by kernel_rfl
theorem Wz : Tp Tryz.prog 84 = some [0, 0, 0] := by kernel_rfl
theorem JS : sliceB Tryz.prog 22 5 = true := by kernel_rfl
theorem Vg : sliceB Tryz.prog 23 101 = true := by kernel_rfl
theorem AM : sliceB Tryz.prog 26 3 = true := by kernel_rfl
theorem Ez : sliceB Tryz.prog 27 69 = true := by kernel_rfl
theorem A3 : sliceB Tryz.prog 30 46 = true := by kernel_rfl
theorem Dg : sliceB Tryz.prog 44 81 = true := by kernel_rfl
theorem FC : sliceB Tryz.prog 48 86 = true := by kernel_rfl
theorem Vi : sliceB Tryz.prog 54 41 = true := by kernel_rfl
theorem A4 : sliceB Tryz.prog 55 66 = true := by kernel_rfl
theorem GS : sliceB Tryz.prog 67 70 = true := by kernel_rfl
theorem G9 : sliceB Tryz.prog 70 4 = true := by kernel_rfl
theorem EZ : sliceB Tryz.prog 94 84 = true := by kernel_rfl
theorem Ot : (Tryz.prog.underlying 152).isSome = true := by kernel_rfl
theorem RE : (Tryz.prog.underlying 179).isSome = true := by kernel_rfl
theorem T9 : (Tryz.prog.underlying 181).isSome = true := by kernel_rfl
theorem T1 : (Tryz.prog.underlying 3).isSome = true := by kernel_rfl
theorem Wk : (Tryz.prog.underlying 5).isSome = true := by kernel_rfl
theorem aJ : (Tryz.prog.underlying 81).isSome = true := by kernel_rfl
theorem Wb : Px Tryz.prog 9 = true := by kernel_rfl
theorem Vf : HZ Tryz.prog 101 6 = true := by kernel_rfl
theorem Rn : HZ Tryz.prog 195 1 = true := by kernel_rfl
theorem ZZ : HZ Tryz.prog 25 4 = true := by kernel_rfl
theorem Uk : HZ Tryz.prog 26 1 = true := by kernel_rfl
theorem ay : HZ Tryz.prog 27 1 = true := by kernel_rfl
theorem Dv : HZ Tryz.prog 29 4 = true := by kernel_rfl
theorem Dw : HZ Tryz.prog 3 1 = true := by kernel_rfl
theorem Q1 : HZ Tryz.prog 4 1 = true := by kernel_rfl
theorem V2 : HZ Tryz.prog 41 3 = true := by kernel_rfl
theorem ak : HZ Tryz.prog 44 1 = true := by kernel_rfl
theorem AA : HZ Tryz.prog 46 3 = true := by kernel_rfl
theorem XF : HZ Tryz.prog 5 1 = true := by kernel_rfl
theorem AU : HZ Tryz.prog 66 3 = true := by kernel_rfl
theorem Ys : HZ Tryz.prog 67 1 = true := by kernel_rfl
theorem Eu : HZ Tryz.prog 69 6 = true := by kernel_rfl
theorem Nz : HZ Tryz.prog 70 1 = true := by kernel_rfl
theorem FN : HZ Tryz.prog 81 1 = true := by kernel_rfl
theorem EG : HZ Tryz.prog 84 3 = true := by kernel_rfl
theorem J3 : HZ Tryz.prog 86 9 = true := by kernel_rfl
theorem Zn : ET Tryz.prog 101 = some (.agg #[.int .u8 0, .int .u8 0, .int .u8 0, .bool false, .int .u16 0, .int .u16 0]) := by kernel_rfl
theorem WB : ET Tryz.prog 195 = some (.int .u64 0) := by kernel_rfl
theorem Ty : ET Tryz.prog 29 = some (.agg #[.slice none 0 0, .slice none 0 0, .slice none 0 0, .slice none 0 0]) := by kernel_rfl
theorem Kv : ET Tryz.prog 3 = some (.int .i64 0) := by kernel_rfl
theorem Wd : ET Tryz.prog 4 = some (.bool false) := by kernel_rfl
theorem ap : ET Tryz.prog 41 = some (.agg #[.slice none 0 0, .slice none 0 0, .slice none 0 0]) := by kernel_rfl
theorem CI : ET Tryz.prog 46 = some (.agg #[.slice none 0 0, .slice none 0 0, .slice none 0 0]) := by kernel_rfl
theorem ZI : ET Tryz.prog 5 = some (.int .u8 0) := by kernel_rfl
theorem G6 : ET Tryz.prog 66 = some (.agg #[.int .i64 0, .int .i64 0, .int .i64 0]) := by kernel_rfl
theorem Lq : ET Tryz.prog 69 = some (.agg #[.int .i64 0, .int .i64 0, .int .i64 0, .bool false, .slice none 0 0, .slice none 0 0]) := by kernel_rfl
theorem XN : ET Tryz.prog 70 = some (.slice none 0 0) := by kernel_rfl
theorem OB : ET Tryz.prog 81 = some (.int .u8 0) := by kernel_rfl
theorem JI : ET Tryz.prog 84 = some (.agg #[.int .i64 0, .int .i64 0, .int .i64 0]) := by kernel_rfl
theorem PZ : ET Tryz.prog 86 = some (.agg #[.int .i64 0, .int .i64 0, .int .i64 0, .slice none 0 0, .slice none 0 0, .slice none 0 0, .int .i64 0, .int .i64 0, .int .i64 0]) := by kernel_rfl
open IntKind renaming wrap → wI
set_option maxRecDepth 10000
theorem Jk (N : Nat) (p0 : List Int) (p1 : Int) (r : Int) (h : Ei N p0 p1 = some r) : AC Tryz.prog 50 [pD (.sl (p0.map Bj)), iD p1] [] (iD r) := by
 unfold Ei at h
 refine Au (n := 14) (rs := [.tmp 4]) Tryz.func50 rfl rfl rfl (A7 rfl) (A7 rfl) rfl fun w0 S0 => ?_
 refine Ab (Aa Ac rfl (qa rfl (Ae (Ab (Ab (Aa Ac rfl (qm rfl (qm rfl (AX JS rfl (AV rfl (Ae ?_)))))))))))
 refine Ap rfl (fun c1 => ?_) (fun c1 => ?_)
 ·have h := An c1 h
  refine Ab (Aa Ac rfl (qm rfl (qm rfl ?_)))
  obtain ⟨v2, a2, b2, h⟩ := Ai h
  refine qi JS XF a2 (Af b2) rfl (qk XT rfl (Gq Wk SY rfl (qa rfl (Ae ?_))))
  obtain rfl := sj h
  refine Am (sm [] [(4, iD ((wI .i64 v2)))] [] rfl rfl) (Az ?_)
  exact ⟨⟨[_], ⟨.tmp _ _ rfl, tv⟩, rfl⟩, tv⟩
 ·have h := Ao c1 h
  refine Aq (Ab (Aa Ac rfl (qa rfl (Ae ?_))))
  obtain rfl := sj h
  refine Am (sm [] [(4, iD 0)] [] rfl rfl) (Az ?_)
  exact ⟨⟨[_], ⟨.tmp _ _ rfl, tv⟩, rfl⟩, tv⟩
theorem Cy (N : Nat) (p0 : AR) (r : Bool) (h : Bt N p0 = some r) : AC Tryz.prog 51 [.e (.agg [iC p0.fKind, iC p0.fFrom, iC p0.fTo, .pure (.val (.bool p0.fAware)), sC (p0.fOK.map (E4 eB)), sC (p0.fRewrite.map (E4 eB))])] [] (bD r) := by
 unfold Bt at h
 refine Au (n := 11) (rs := [.tmp 2]) Tryz.func51 rfl rfl rfl (A7 rfl) (A7 rfl) rfl fun w0 S0 => ?_
 refine Ab (Aa Ac rfl (qb rfl (qa rfl (Ae ?_))))
 refine AO h (fun v1 => mk [(2, bD v1)] []) (fun j1 h => ?_) (fun v1 h => ?_)
 ·refine Aa Ac rfl (qf Gl rfl (ql B6 rfl (BL rfl (qm rfl ?_))))
  refine AF (t := 6) rfl (fun c2 => ?_) (fun c2 => ?_)
  ·have h := An c2 h
   refine qn rfl (qn rfl (qn rfl (qp rfl (qa rfl (Ae ?_)))))
   exact As _ h (sm [] _ _ rfl rfl)
  ·have h := Ao c2 h
   refine qf Gl rfl (ql B6 rfl (BL rfl (qp rfl (qa rfl (Ae ?_)))))
   exact As _ h (sm [] _ _ rfl rfl)
 ·obtain rfl := sj h
  refine Am (sm [] [(2, bD v1)] [] rfl rfl) (Az ?_)
  exact ⟨⟨[_], ⟨.tmp _ _ rfl, tv⟩, rfl⟩, tv⟩
theorem Jo (N : Nat) (p0 : Int) (p1 : Int) (p2 : Int) (p3 : Bool) (r : (List (List Bool))) (h : Eh N p0 p1 p2 p3 = some r) : AC Tryz.prog 52 [iD p0, iD p1, pD (.val (.int .u16 p2)), bD p3] [(1, r.map (E4 eB))] (oD (.own 0)) := by
 unfold Eh at h
 refine Au (n := 47) (rs := [.tmp 8]) Tryz.func52 rfl rfl rfl (A7 rfl) (A7 rfl) rfl fun w0 S0 => ?_
 refine Ab (Aa Ac rfl (qa rfl (Ae (Ab (Aa Ac rfl (qa rfl (Ae (Ab (Ab (Aa Ac rfl (qa rfl (Ae ?_))))))))))))
 refine AE (L := CB N p0 p1 p2 p3) h (fun v1 => mk [(0, iD p0), (1, iD p1), (2, pD (.val (.int .u16 p2))), (3, bD p3), (9, oD (.own 2001)), (10, iD v1.2)] [(2001, .vec 1 (v1.1.map (E4 eB)))]) (fun v2 => mk [(9, oD (.own 2002))] [(2002, .vec 1 (v2.map (E4 eB)))]) (fun _ _ => rfl) ((Br 9 2010 1 rfl rfl rfl).trans (sm [(2001, 2010)] _ _ rfl rfl)) (fun j1 n1 v1 h => ?_) (fun v2 s h hs => ?_)
 ·unfold CB at h
  refine Ab (Ab (Aa Ac rfl (qm rfl (qm rfl (AV rfl (Ae ?_))))))
  refine Ap rfl (fun c3 => ?_) (fun c3 => ?_)
  ·have h := An c3 h
   refine Aq (Ab (AJ (Ab (Aa Ac rfl (qa rfl (Ae (Ab (Ab (Aa Ac rfl (qa rfl (Ae ?_)))))))))))
   refine AE (L := CH N p1 p2 p3 v1) h (fun v4 => mk [(0, iD p0), (1, iD p1), (2, pD (.val (.int .u16 p2))), (3, bD p3), (9, oD (.own 2003)), (10, iD v1.2), (11, oD (.own 2004)), (12, iD v4.2)] [(2003, .vec 1 (v1.1.map (E4 eB))), (2004, .vec 1 (v4.1.map eB))]) (fun v5 => mk [(0, iD p0), (1, iD p1), (2, pD (.val (.int .u16 p2))), (3, bD p3), (9, oD (.own 2005)), (10, iD v1.2), (11, oD (.own 2006))] [(2005, .vec 1 (v1.1.map (E4 eB))), (2006, .vec 1 (v5.map eB))]) (fun _ _ => rfl) ((Br 11 2009 1 rfl rfl rfl).trans (sm [(2003, 2001), (2004, 2009)] _ _ rfl rfl)) (fun j4 n4 v4 h => ?_) (fun v5 s h hs => ?_)
   ·unfold CH at h
    refine Ab (Ab (Aa Ac rfl (qm rfl (qm rfl (AV rfl (Ae ?_))))))
    refine Ap rfl (fun c6 => ?_) (fun c6 => ?_)
    ·have h := An c6 h
     refine Aq ?_
     refine AO h (fun v7 => mk [(0, iD p0), (1, iD p1), (2, pD (.val (.int .u16 p2))), (3, bD p3), (9, oD (.own 2007)), (10, iD v1.2), (11, oD (.own 2008)), (12, iD v4.2)] [(2007, .vec 1 (v1.1.map (E4 eB))), (2008, .vec 1 (v7.map eB))]) (fun j7 h => ?_) (fun v7 h => ?_)
     ·refine AJ (Aa Ac rfl (qm rfl (qm rfl (qm rfl ?_))))
      refine AF (t := 25) rfl (fun c8 => ?_) (fun c8 => ?_)
      ·have h := An c8 h
       refine qm rfl (qm rfl (BL rfl (qp rfl (qm rfl ?_))))
       refine AF (t := 30) rfl (fun c9 => ?_) (fun c9 => ?_)
       ·have h := An c9 h
        refine qn rfl (qn rfl (qn rfl (qn rfl (qn rfl (qn rfl (qn rfl (qn rfl (qp rfl (D8 G9 Q1 Wd rfl ?_)))))))))
        obtain ⟨c10, h⟩ := AS h
        refine Dt (f := eB) G9 G9 Q1 Xk Wd c10 rfl (qa rfl (Ae ?_))
        exact As _ h (sm [(2007, 2003), (2008, 41)] _ _ rfl rfl)
       ·have h := Ao c9 h
        refine qm rfl (qm rfl (HC rfl (qm rfl (AP rfl ?_))))
        obtain ⟨c11, h⟩ := AS h
        refine Hz rfl c11 (Kt rfl (by decide) (BL rfl (qp rfl (D8 G9 Q1 Wd rfl ?_))))
        obtain ⟨c12, h⟩ := AS h
        refine Dt (f := eB) G9 G9 Q1 Xk Wd c12 rfl (qa rfl (Ae ?_))
        exact As _ h (sm [(2007, 2003), (2008, 41)] _ _ rfl rfl)
      ·have h := Ao c8 h
       refine qn rfl (qn rfl (qn rfl (qp rfl (qm rfl (qm rfl (qm rfl (HC rfl (qm rfl (AP rfl ?_)))))))))
       obtain ⟨c13, h⟩ := AS h
       refine Hz rfl c13 (Kt rfl (by decide) (BL rfl (qp rfl (D8 G9 Q1 Wd rfl ?_))))
       obtain ⟨c14, h⟩ := AS h
       refine Dt (f := eB) G9 G9 Q1 Xk Wd c14 rfl (qa rfl (Ae ?_))
       exact As _ h (sm [(2007, 2003), (2008, 41)] _ _ rfl rfl)
     ·refine Aa Ac rfl (qm rfl (AP rfl (qa rfl (Ae ?_))))
      exact As _ h (sm [(2003, 2007), (2004, 2008)] _ _ rfl rfl)
    ·have h := Ao c6 h
     refine AT ?_
     exact As _ h (sm [(2005, 2003), (2006, 2004)] _ _ rfl rfl)
   ·refine Am hs (Aa Ac rfl (qm rfl (qm rfl (DK (Bq 2006 _ _ rfl rfl) (D8 GS Nz XN rfl ?_)))))
    obtain ⟨c15, h⟩ := AS h
    refine Dt (f := (E4 eB)) GS GS Nz X3 XN c15 rfl (qa rfl (Ae (Aa Ac rfl (qm rfl (AP rfl (qa rfl (Ae ?_)))))))
    exact As _ h (sm [(2001, 45)] _ _ rfl rfl)
  ·have h := Ao c3 h
   refine AT ?_
   exact As _ h (sm [(2002, 2001)] _ _ rfl rfl)
 ·refine Am hs (Ab (Aa Ac rfl (qm rfl (qa rfl (Ae ?_)))))
  obtain rfl := sj h
  refine Am (sm [(1000, 2002)] [(8, oD (.own 1000))] [(1000, .vec 1 (v2.map (E4 eB)))] rfl rfl) (Az ?_)
  exact ⟨⟨[_], ⟨.tmp _ _ rfl, tv⟩, rfl⟩, ⟨rfl, tv⟩⟩
theorem MO (N : Nat) (p0 : CU) (r : Ak × Bool) (h : Fu N p0 = some r) : AC Tryz.prog 16 [.e (.agg [sC (p0.fVersions.map Bj), sC (p0.fNow.map Bj), sC (p0.fTarget.map Bj), sC (p0.fLinks.map Cx)])] [(1, r.1.fVersions.map Al), (1, r.1.fNow.map Al), (1, r.1.fTarget.map Al), (6, r.1.fTables.map Ar)] (.tup [.agg [.own 0, .own 1, .own 2, .own 3], .one (.pure (.val (.bool r.2)))]) := by
 unfold Fu at h
 refine Au (n := 152) (rs := [.cell 2 29, .tmp 3]) Tryz.func16 rfl rfl rfl (A7 rfl) (A7 rfl) rfl fun w0 S0 => ?_
 refine Ab (Aa Ac rfl (qb rfl (qz Ty rfl (qa rfl (Ae (Ab ?_))))))
 refine AO h (fun v1 => mk [(1, oD (.ptr 1 0)), (2, oD (.ptr 2 0)), (19, bD v1)] [(1, .box [sC (p0.fVersions.map Bj), sC (p0.fNow.map Bj), sC (p0.fTarget.map Bj), sC (p0.fLinks.map Cx)]), (2, .box [.pure (.nil0), .pure (.nil0), .pure (.nil0), .pure (.nil0)])]) (fun j1 h => ?_) (fun v1 h => ?_)
 ·refine Aa Ac rfl (qf Qi rfl (ql RG rfl (AX JS rfl (Ey rfl (qm rfl ?_)))))
  refine AF (t := 14) rfl (fun c2 => ?_) (fun c2 => ?_)
  ·have h := An c2 h
   refine qn rfl (qn rfl (qn rfl (qn rfl (qp rfl (Ae ?_)))))
   exact As _ h (sm [] _ _ rfl rfl)
  ·have h := Ao c2 h
   refine qf P9 rfl (ql XL rfl (AX Vg rfl (Ey rfl (qp rfl (Ae ?_)))))
   exact As _ h (sm [] _ _ rfl rfl)
 ·refine Ap rfl (fun c3 => ?_) (fun c3 => ?_)
  ·have h := An c3 h
   refine Ab (Aa Ac rfl (Bw Ty YO rfl (qs Dv rfl (qa rfl (Ae ?_)))))
   obtain rfl := sj h
   refine Am ((AI 2 0 2001 1 _ rfl rfl rfl rfl).trans ((AI 2 1 2002 1 _ rfl rfl rfl rfl).trans ((AI 2 2 2003 1 _ rfl rfl rfl rfl).trans ((AI 2 3 2004 6 _ rfl rfl rfl rfl).trans (sm [(1000, 2001), (1001, 2002), (1002, 2003), (1003, 2004)] [(2, oD (.ptr 2 0)), (3, bD false)] [(2, .box [.own 1000, .own 1001, .own 1002, .own 1003]), (1000, .vec 1 ((([] : List Int)).map Al)), (1001, .vec 1 ((([] : List Int)).map Al)), (1002, .vec 1 ((([] : List Int)).map Al)), (1003, .vec 6 ((([] : List AR)).map Ar))] rfl rfl))))) (Az ?_)
   exact ⟨⟨[_, _], ⟨.cellN _ _ _ _ _ _ _ rfl rfl DO Dv rfl rfl (IM rfl), ⟨.tmp _ _ rfl, tv⟩⟩, rfl⟩, ⟨rfl, rfl, rfl, rfl, tv⟩⟩
  ·have h := Ao c3 h
   refine Aq (Ab (Aa Ac rfl (qz Ty rfl (Ae (Ab (Ab (Aa Ac rfl (qa rfl (Ae ?_)))))))))
   refine AE (L := C3 N p0) h (fun v4 => mk [(1, oD (.ptr 1 0)), (2, oD (.ptr 2 0)), (4, oD (.ptr 4 0)), (5, iD v4.2.2.2)] [(1, .box [sC (p0.fVersions.map Bj), sC (p0.fNow.map Bj), sC (p0.fTarget.map Bj), sC (p0.fLinks.map Cx)]), (2, .box [.pure (.nil0), .pure (.nil0), .pure (.nil0), .pure (.nil0)]), (4, .box [.own 2005, .own 2006, .own 2007, .pure (.nil0)]), (2005, .vec 1 (v4.1.map Al)), (2006, .vec 1 (v4.2.1.map Al)), (2007, .vec 1 (v4.2.2.1.map Al))]) (fun v5 => mk [(1, oD (.ptr 1 0)), (2, oD (.ptr 2 0)), (4, oD (.ptr 4 0))] [(1, .box [sC (p0.fVersions.map Bj), sC (p0.fNow.map Bj), sC (p0.fTarget.map Bj), sC (p0.fLinks.map Cx)]), (2, .box [.pure (.nil0), .pure (.nil0), .pure (.nil0), .pure (.nil0)]), (4, .box [.own 2008, .own 2009, .own 2010, .pure (.nil0)]), (2008, .vec 1 (v5.1.map Al)), (2009, .vec 1 (v5.2.1.map Al)), (2010, .vec 1 (v5.2.2.map Al))]) (fun _ _ => rfl) ((AI 4 0 2011 1 _ rfl rfl rfl rfl).trans ((AI 4 1 2012 1 _ rfl rfl rfl rfl).trans ((AI 4 2 2013 1 _ rfl rfl rfl rfl).trans (sm [(2005, 2011), (2006, 2012), (2007, 2013)] _ _ rfl rfl)))) (fun j4 n4 v4 h => ?_) (fun v5 s h hs => ?_)
   ·unfold C3 at h
    refine Ab (Ab (Aa Ac rfl (qm rfl (qf Qi rfl (ql RG rfl (AX JS rfl (AV rfl (Ae ?_))))))))
    refine Ap rfl (fun c6 => ?_) (fun c6 => ?_)
    ·have h := An c6 h
     refine Aq (Ab (AJ (Ab (Aa Ac rfl (qf Qi rfl (ql RG rfl (qm rfl ?_)))))))
     obtain ⟨v7, a7, b7, h⟩ := Ai h
     refine qi JS XF a7 (Af b7) rfl (qk XT rfl (Kt rfl (by decide) (Gq Wk SY rfl (AP rfl (qa rfl (Ae (Ab (Aa Ac rfl (qf BH rfl (ql Bu rfl (qm rfl (D8 AM Dw Kv rfl ?_))))))))))))
     obtain ⟨c8, h⟩ := AS h
     refine Dt (f := Al) AM AM Dw MQ Kv c8 rfl (qf BH rfl (qs Uk rfl (Ae (Ab (Aa Ac rfl (qf Ie rfl (ql Bu rfl (qf Wf rfl (ql RG rfl (qm rfl ?_))))))))))
     obtain ⟨v9, a9, h⟩ := bind_some h
     refine AG [] (Jk N p0.fNow v4.2.2.2 v9 a9) Zs rfl (qm rfl ?_)
     obtain ⟨c10, h⟩ := AS h
     refine Kt rfl c10 (D8 AM Dw Kv rfl ?_)
     obtain ⟨c11, h⟩ := AS h
     refine Dt (f := Al) AM AM Dw MQ Kv c11 rfl (qf Ie rfl (qs Uk rfl (AB (by kernel_rfl) (Aa Ac rfl (qf IK rfl (ql Bu rfl (qf Wp rfl (ql RG rfl (qm rfl ?_)))))))))
     obtain ⟨v12, a12, h⟩ := bind_some h
     refine AG [] (Jk N p0.fTarget v4.2.2.2 v12 a12) Zs rfl (qm rfl ?_)
     obtain ⟨c13, h⟩ := AS h
     refine Kt rfl c13 (D8 AM Dw Kv rfl ?_)
     obtain ⟨c14, h⟩ := AS h
     refine Dt (f := Al) AM AM Dw MQ Kv c14 rfl (qf IK rfl (qs Uk rfl (AB (by kernel_rfl) (Aa Ac rfl (qm rfl (AP rfl (qa rfl (Ae ?_))))))))
     exact As _ h (sm [(2005, 40), (2006, 51), (2007, 62)] _ _ rfl rfl)
    ·have h := Ao c6 h
     refine AT ?_
     exact As _ h (sm [(2008, 2005), (2009, 2006), (2010, 2007)] _ _ rfl rfl)
   ·refine Am hs (Ab (Ab (Aa Ac rfl (qa rfl (Ae ?_)))))
    refine AE (L := BP N p0 v5) h (fun v15 => mk [(1, oD (.ptr 1 0)), (2, oD (.ptr 2 0)), (4, oD (.ptr 4 0)), (7, iD v15.2)] [(1, .box [sC (p0.fVersions.map Bj), sC (p0.fNow.map Bj), sC (p0.fTarget.map Bj), sC (p0.fLinks.map Cx)]), (2, .box [.pure (.nil0), .pure (.nil0), .pure (.nil0), .pure (.nil0)]), (4, .box [.own 2014, .own 2015, .own 2016, .own 2017]), (2014, .vec 1 (v5.1.map Al)), (2015, .vec 1 (v5.2.1.map Al)), (2016, .vec 1 (v5.2.2.map Al)), (2017, .vec 6 (v15.1.map Ar))]) (fun v16 => mk [(2, oD (.ptr 2 0)), (4, oD (.ptr 4 0))] [(2, .box [.pure (.nil0), .pure (.nil0), .pure (.nil0), .pure (.nil0)]), (4, .box [.own 2018, .own 2019, .own 2020, .own 2021]), (2018, .vec 1 (v5.1.map Al)), (2019, .vec 1 (v5.2.1.map Al)), (2020, .vec 1 (v5.2.2.map Al)), (2021, .vec 6 (v16.map Ar))]) (fun _ _ => rfl) ((AI 4 3 2039 6 _ rfl rfl rfl rfl).trans (sm [(2014, 2008), (2015, 2009), (2016, 2010), (2017, 2039)] _ _ rfl rfl)) (fun j15 n15 v15 h => ?_) (fun v16 s h hs => ?_)
    ·unfold BP at h
     refine Ab ?_
     refine AO h (fun v17 => mk [(1, oD (.ptr 1 0)), (2, oD (.ptr 2 0)), (4, oD (.ptr 4 0)), (7, iD v15.2), (74, bD v17)] [(1, .box [sC (p0.fVersions.map Bj), sC (p0.fNow.map Bj), sC (p0.fTarget.map Bj), sC (p0.fLinks.map Cx)]), (2, .box [.pure (.nil0), .pure (.nil0), .pure (.nil0), .pure (.nil0)]), (4, .box [.own 2022, .own 2023, .own 2024, .own 2025]), (2022, .vec 1 (v5.1.map Al)), (2023, .vec 1 (v5.2.1.map Al)), (2024, .vec 1 (v5.2.2.map Al)), (2025, .vec 6 (v15.1.map Ar))]) (fun j17 h => ?_) (fun v17 h => ?_)
     ·refine Aa Ac rfl (qm rfl (qf P9 rfl (ql XL rfl (AX Vg rfl (AV rfl (qm rfl ?_))))))
      refine AF (t := 69) rfl (fun c18 => ?_) (fun c18 => ?_)
      ·have h := An c18 h
       refine qf BH rfl (ql Bu rfl (Ex AM rfl (Ey rfl (qp rfl (Ae ?_)))))
       exact As _ h (sm [(2022, 2014), (2023, 2015), (2024, 2016), (2025, 2017)] _ _ rfl rfl)
      ·have h := Ao c18 h
       refine qn rfl (qn rfl (qn rfl (qn rfl (qp rfl (Ae ?_)))))
       exact As _ h (sm [(2022, 2014), (2023, 2015), (2024, 2016), (2025, 2017)] _ _ rfl rfl)
     ·refine Ap rfl (fun c19 => ?_) (fun c19 => ?_)
      ·have h := An c19 h
       refine Aq (Ab (AJ (Ab (Aa Ac rfl (qf P9 rfl (ql XL rfl (qm rfl ?_)))))))
       obtain ⟨v20, a20, b20, h⟩ := Ai h
       refine qi Vg Vf a20 (Af b20) rfl (qK YX Vf rfl (qz Zn rfl (qs Vf rfl (Ae (Ab (Aa Ac rfl (qf Up rfl (ql XT rfl (Kt rfl (by decide) (Gq Wk SY rfl (AP rfl (qf TL rfl (ql XT rfl (Gq Wk SY rfl (qf BH rfl (ql Bu rfl (Ex AM rfl ?_)))))))))))))))))
       obtain ⟨c21, h⟩ := AS h
       refine Kt rfl c21 (qf Uo rfl (ql XT rfl (Gq Wk SY rfl (qf BH rfl (ql Bu rfl (Ex AM rfl ?_))))))
       obtain ⟨c22, h⟩ := AS h
       refine Kt rfl c22 (Bw Lq YU rfl (qz Lq rfl (qs Eu rfl (AB (by kernel_rfl) ?_))))
       refine AO h (fun v23 => mk [(1, oD (.ptr 1 0)), (2, oD (.ptr 2 0)), (4, oD (.ptr 4 0)), (7, iD v15.2), (8, oD (.ptr 8 0)), (9, oD (.ptr 9 0))] [(1, .box [sC (p0.fVersions.map Bj), sC (p0.fNow.map Bj), sC (p0.fTarget.map Bj), sC (p0.fLinks.map Cx)]), (2, .box [.pure (.nil0), .pure (.nil0), .pure (.nil0), .pure (.nil0)]), (4, .box [.own 2026, .own 2027, .own 2028, .own 2029]), (8, .box [.pure (.val (.int .u8 v20.fKind)), .pure (.val (.int .u8 v20.fFrom)), .pure (.val (.int .u8 v20.fTo)), .pure (.val (.bool v20.fAware)), .pure (.val (.int .u16 v20.fBad)), .pure (.val (.int .u16 v20.fLost))]), (9, .box [iC ((wI .i64 (1 + (wI .i64 ((Int.tmod v20.fKind 4)))))), iC ((Int.tmod ((wI .i64 v20.fFrom)) ((v5.1.length : Int)))), iC ((Int.tmod ((wI .i64 v20.fTo)) ((v5.1.length : Int)))), .pure (.val (.bool v23)), .pure (.nil0), .pure (.nil0)]), (2026, .vec 1 (v5.1.map Al)), (2027, .vec 1 (v5.2.1.map Al)), (2028, .vec 1 (v5.2.2.map Al)), (2029, .vec 6 (v15.1.map Ar))]) (fun j23 h => ?_) (fun v23 h => ?_)
       ·refine Aa Ac rfl (qf U5 rfl (ql Sn rfl (qm rfl ?_)))
        refine AF (t := 104) rfl (fun c24 => ?_) (fun c24 => ?_)
        ·have h := An c24 h
         refine qL H1 Eu rfl ?_
         obtain ⟨v25, a25, h⟩ := bind_some h
         refine AG [] (Cy N ((AR.mk ((wI .i64 (1 + (wI .i64 ((Int.tmod v20.fKind 4)))))) ((Int.tmod ((wI .i64 v20.fFrom)) ((v5.1.length : Int)))) ((Int.tmod ((wI .i64 v20.fTo)) ((v5.1.length : Int)))) false (([] : List (List Bool))) (([] : List (List Bool))))) v25 a25) PJ rfl (BZ rfl (qp rfl (qf Jw rfl (qs Q1 rfl (Ae ?_)))))
         exact As _ h (sm [(2026, 2022), (2027, 2023), (2028, 2024), (2029, 2025)] _ _ rfl rfl)
        ·have h := Ao c24 h
         refine qn rfl (qn rfl (qn rfl (qp rfl (qf Jw rfl (qs Q1 rfl (Ae ?_))))))
         exact As _ h (sm [(2026, 2022), (2027, 2023), (2028, 2024), (2029, 2025)] _ _ rfl rfl)
       ·refine Ab (Aa Ac rfl (qf BH rfl (ql Bu rfl (qf Dj rfl (ql B6 rfl ?_)))))
        obtain ⟨v26, a26, b26, h⟩ := Ai h
        refine qI AM Dw a26 (Af b26) rfl (qj B6 (Af b26) rfl (qf BH rfl (ql Bu rfl (qf IP rfl (ql B6 rfl ?_)))))
        obtain ⟨v27, a27, b27, h⟩ := Ai h
        refine qI AM Dw a27 (Af b27) rfl (qj B6 (Af b27) rfl (qf Un rfl (ql X5 rfl ?_)))
        obtain ⟨v28, a28, h⟩ := bind_some h
        refine AG [2030] (Jo N v26 v27 v20.fBad false v28 a28) Y3 rfl (qf Kh rfl (qs Ys rfl (AB (by kernel_rfl) ?_)))
        refine AO h (fun v29 => mk [(1, oD (.ptr 1 0)), (2, oD (.ptr 2 0)), (4, oD (.ptr 4 0)), (7, iD v15.2), (9, oD (.ptr 9 0))] [(1, .box [sC (p0.fVersions.map Bj), sC (p0.fNow.map Bj), sC (p0.fTarget.map Bj), sC (p0.fLinks.map Cx)]), (2, .box [.pure (.nil0), .pure (.nil0), .pure (.nil0), .pure (.nil0)]), (4, .box [.own 2031, .own 2032, .own 2033, .own 2034]), (9, .box [iC ((wI .i64 (1 + (wI .i64 ((Int.tmod v20.fKind 4)))))), iC ((Int.tmod ((wI .i64 v20.fFrom)) ((v5.1.length : Int)))), iC ((Int.tmod ((wI .i64 v20.fTo)) ((v5.1.length : Int)))), .pure (.val (.bool v23)), .own 2035, .own 2036]), (2031, .vec 1 (v5.1.map Al)), (2032, .vec 1 (v5.2.1.map Al)), (2033, .vec 1 (v5.2.2.map Al)), (2034, .vec 6 (v15.1.map Ar)), (2035, .vec 1 (v28.map (E4 eB))), (2036, .vec 1 (v29.map (E4 eB)))]) (fun j29 h => ?_) (fun v29 h => ?_)
        ·refine Ab (Aa Ac rfl (qf Gl rfl (ql B6 rfl (BL rfl (Ae ?_)))))
         refine Ap rfl (fun c30 => ?_) (fun c30 => ?_)
         ·have h := An c30 h
          refine Aa Ac rfl (qf BH rfl (ql Bu rfl (qf Dj rfl (ql B6 rfl ?_))))
          obtain ⟨v31, a31, b31, h⟩ := Ai h
          refine qI AM Dw a31 (Af b31) rfl (qj B6 (Af b31) rfl (qf BH rfl (ql Bu rfl (qf Dj rfl (ql B6 rfl ?_)))))
          obtain ⟨v32, a32, b32, h⟩ := Ai h
          refine qI AM Dw a32 (Af b32) rfl (qj B6 (Af b32) rfl (qf T8 rfl (ql X5 rfl ?_)))
          obtain ⟨v33, a33, h⟩ := bind_some h
          refine AG [2037] (Jo N v31 v32 v20.fLost true v33 a33) Y3 rfl (qf Hm rfl (qs Ys rfl (AB (by kernel_rfl) ?_)))
          exact As _ h (sm [(2031, 2026), (2032, 2027), (2033, 2028), (2034, 2029), (2035, 2030), (2036, 2037)] _ _ rfl rfl)
         ·have h := Ao c30 h
          refine Aq ?_
          exact As _ h ((AI 9 5 2038 1 _ rfl rfl rfl rfl).trans (sm [(2031, 2026), (2032, 2027), (2033, 2028), (2034, 2029), (2035, 2030), (2036, 2038)] _ _ rfl rfl))
        ·refine Aa Ac rfl (qf Df rfl (ql H0 rfl (qL H1 Eu rfl (DK (Bq 2035 _ _ rfl rfl) (DK (Bq 2036 _ _ rfl rfl) (D8 Ez Eu Lq rfl ?_))))))
         obtain ⟨c34, h⟩ := AS h
         refine Dt (f := Ar) Ez Ez Eu Zx Lq c34 rfl (qf Df rfl (qs ay rfl (Ae (Aa Ac rfl (qm rfl (AP rfl (qa rfl (Ae ?_))))))))
         exact As _ h (sm [(2014, 2031), (2015, 2032), (2016, 2033), (2017, 149)] _ _ rfl rfl)
      ·have h := Ao c19 h
       refine AT ?_
       exact As _ h (sm [(2018, 2022), (2019, 2023), (2020, 2024), (2021, 2025)] _ _ rfl rfl)
    ·refine Am hs (Ab (Aa Ac rfl (qL DO Dv rfl (qs Dv rfl (qa rfl (Ae ?_))))))
     obtain rfl := sj h
     refine Am (sm [(1000, 2018), (1001, 2019), (1002, 2020), (1003, 2021)] [(2, oD (.ptr 2 0)), (3, bD true)] [(2, .box [.own 1000, .own 1001, .own 1002, .own 1003]), (1000, .vec 1 (v5.1.map Al)), (1001, .vec 1 (v5.2.1.map Al)), (1002, .vec 1 (v5.2.2.map Al)), (1003, .vec 6 (v16.map Ar))] rfl rfl) (Az ?_)
     exact ⟨⟨[_, _], ⟨.cellN _ _ _ _ _ _ _ rfl rfl DO Dv rfl rfl (IM rfl), ⟨.tmp _ _ rfl, tv⟩⟩, rfl⟩, ⟨rfl, rfl, rfl, rfl, tv⟩⟩
theorem C9 (N : Nat) (r : Ak) (h : Cb N = some r) : AC Tryz.prog 39 [] [(1, r.fVersions.map Al), (1, r.fNow.map Al), (1, r.fTarget.map Al), (6, r.fTables.map Ar)] (.e (.agg [.own 0, .own 1, .own 2, .own 3])) := by
 unfold Cb at h
 refine Au (n := 10) (rs := [.cell 0 29]) Tryz.func39 rfl rfl rfl (A7 rfl) (A7 rfl) rfl fun w0 S0 => ?_
 refine Ab (Aa Ac rfl (qz Ty rfl (Ae (Ab (Aa Ac rfl (D8 AM Dw Kv rfl (D8 AM Dw Kv rfl (D8 AM Dw Kv rfl (D8 G9 Q1 Wd rfl (D8 G9 Q1 Wd rfl (DK (Bq 4 _ _ rfl rfl) (DK (Bq 5 _ _ rfl rfl) (D8 GS Nz XN rfl (Bw Lq YU rfl (DK (Bq 6 _ _ rfl rfl) (D8 Ez Eu Lq rfl (Bw Ty YO rfl (qs Dv rfl (Ae ?_)))))))))))))))))))
 obtain rfl := sj h
 refine Am (sm [(1000, 1), (1001, 2), (1002, 3), (1003, 8)] [(0, oD (.ptr 0 0))] [(0, .box [.own 1000, .own 1001, .own 1002, .own 1003]), (1000, .vec 1 ((([2] : List Int)).map Al)), (1001, .vec 1 ((([0] : List Int)).map Al)), (1002, .vec 1 ((([1] : List Int)).map Al)), (1003, .vec 6 ((([(AR.mk 1 0 0 false (([([true, true] : List Bool), ([false, true] : List Bool)] : List (List Bool))) (([] : List (List Bool))))] : List AR)).map Ar))] rfl rfl) (Az ?_)
 exact ⟨⟨[_], ⟨.cellN _ _ _ _ _ _ _ rfl rfl DO Dv rfl rfl (IM rfl), tv⟩, rfl⟩, ⟨rfl, rfl, rfl, rfl, tv⟩⟩
theorem HP (N : Nat) (p0 : Int) (p1 : Int) (r : Bool) (h : Ek N p0 p1 = some r) : AC Tryz.prog 102 [iD p0, iD p1] [] (bD r) := by
 unfold Ek at h
 refine Au (n := 12) (rs := [.tmp 4]) Tryz.func102 rfl rfl rfl (A7 rfl) (A7 rfl) rfl fun w0 S0 => ?_
 refine Ab (Aa Ac rfl (qa rfl (Ae ?_)))
 refine AO h (fun v1 => mk [(4, bD v1)] []) (fun j1 h => ?_) (fun v1 h => ?_)
 ·refine Aa Ac rfl (qm rfl (Cz rfl (qm rfl ?_)))
  refine AF (t := 7) rfl (fun c2 => ?_) (fun c2 => ?_)
  ·have h := An c2 h
   refine qm rfl (qm rfl (AV rfl (qp rfl (qa rfl (Ae ?_)))))
   exact As _ h (sm [] _ _ rfl rfl)
  ·have h := Ao c2 h
   refine qn rfl (qn rfl (qn rfl (qp rfl (qa rfl (Ae ?_)))))
   exact As _ h (sm [] _ _ rfl rfl)
 ·obtain rfl := sj h
  refine Am (sm [] [(4, bD v1)] [] rfl rfl) (Az ?_)
  exact ⟨⟨[_], ⟨.tmp _ _ rfl, tv⟩, rfl⟩, tv⟩
theorem Qp (N : Nat) (p0 : Int) (p1 : Bool) (r : Bool) (h : G7 N p0 p1 = some r) : AC Tryz.prog 130 [iD p0, bD p1] [] (bD r) := by
 unfold G7 at h
 refine Au (n := 23) (rs := [.tmp 4]) Tryz.func130 rfl rfl rfl (A7 rfl) (A7 rfl) rfl fun w0 S0 => ?_
 refine Ab (Aa Ac rfl (qa rfl (Ae ?_)))
 refine AO h (fun v1 => mk [(4, bD v1)] []) (fun j1 h => ?_) (fun v1 h => ?_)
 ·refine Aa Ac rfl (qm rfl (BL rfl (qm rfl ?_)))
  refine AF (t := 7) rfl (fun c2 => ?_) (fun c2 => ?_)
  ·have h := An c2 h
   refine qn rfl (qn rfl (qp rfl (qm rfl (qn rfl (qn rfl (qn rfl (qu rfl (qu rfl (qn rfl (qn rfl (qu rfl (qu rfl (qn rfl (qp rfl (qa rfl (Ae ?_))))))))))))))))
   exact As _ h (sm [] _ _ rfl rfl)
  ·have h := Ao c2 h
   refine qm rfl (BL rfl (qp rfl (qm rfl ?_)))
   refine AF (t := 11) rfl (fun c3 => ?_) (fun c3 => ?_)
   ·have h := An c3 h
    refine qn rfl (qn rfl (qn rfl (qu rfl (qu rfl (qn rfl (qn rfl (qu rfl (qu rfl (qn rfl (qp rfl (qa rfl (Ae ?_))))))))))))
    exact As _ h (sm [] _ _ rfl rfl)
   ·have h := Ao c3 h
    refine qm rfl (BL rfl (qm rfl ?_))
    refine AF (t := 14) rfl (fun c4 => ?_) (fun c4 => ?_)
    ·have h := An c4 h
     refine qn rfl (qn rfl (qp rfl (qm rfl (qm rfl (BZ rfl (qp rfl (qp rfl (qa rfl (Ae ?_)))))))))
     exact As _ h (sm [] _ _ rfl rfl)
    ·have h := Ao c4 h
     refine qm rfl (BL rfl (qp rfl (qm rfl ?_)))
     refine AF (t := 18) rfl (fun c5 => ?_) (fun c5 => ?_)
     ·have h := An c5 h
      refine qm rfl (BZ rfl (qp rfl (qp rfl (qa rfl (Ae ?_)))))
      exact As _ h (sm [] _ _ rfl rfl)
     ·have h := Ao c5 h
      refine qn rfl (qn rfl (qp rfl (qp rfl (qa rfl (Ae ?_)))))
      exact As _ h (sm [] _ _ rfl rfl)
 ·obtain rfl := sj h
  refine Am (sm [] [(4, bD v1)] [] rfl rfl) (Az ?_)
  exact ⟨⟨[_], ⟨.tmp _ _ rfl, tv⟩, rfl⟩, tv⟩
theorem MD (N : Nat) (p0 : List Bool) (p1 : Int) (r : Bool) (h : Ef N p0 p1 = some r) : AC Tryz.prog 160 [pD (.sl (p0.map eB)), oD (.rop [.val (.int .i64 p1)])] [] (bD r) := by
 unfold Ef at h
 refine Au (n := 8) (rs := [.tmp 3]) Tryz.func160 rfl rfl rfl (A7 rfl) (A7 rfl) rfl fun w0 S0 => ?_
 refine Ab (Aa Ac rfl (qa rfl (Ae (Ab (Aa Ac rfl (qm rfl (AX G9 rfl (qk B6 rfl (B3 rfl (qa rfl (Ae ?_)))))))))))
 obtain rfl := sj h
 refine Am (sm [] [(3, bD (((p0.length : Int) != p1)))] [] rfl rfl) (Az ?_)
 exact ⟨⟨[_], ⟨.tmp _ _ rfl, tv⟩, rfl⟩, tv⟩
theorem It (N : Nat) (p0 : List (List Bool)) (p1 : (List Bool) → Option Bool) (r : Int) (h : DM N p0 p1 = some r) : AC Tryz.prog 170 [pD (.sl (p0.map (E4 eB))), oD (.clo (Bb (M8 false (E4 eB)) tB p1))] [] (iD r) := by
 unfold DM at h
 refine Au (n := 19) (rs := [.tmp 4]) Tryz.func170 rfl rfl rfl (A7 rfl) (A7 rfl) rfl fun w0 S0 => ?_
 refine Ab (Aa Ac rfl (qa rfl (Ae (Ab (Ab (Aa Ac rfl (qm rfl (AX GS rfl (qm rfl (Ae ?_))))))))))
 refine AE (L := BF N p0 p1) h (fun v1 => mk [(0, pD (.sl (p0.map (E4 eB)))), (1, oD (.clo (Bb (M8 false (E4 eB)) tB p1))), (7, iD ((p0.length : Int))), (8, iD v1)] []) (fun v2 => mk [] []) (fun _ _ => rfl) (sm [] _ _ rfl rfl) (fun j1 n1 v1 h => ?_) (fun v2 s h hs => ?_)
 ·unfold BF at h
  refine Ab (Aa Ac rfl (AV rfl (Ae (Ab ?_))))
  refine Ap rfl (fun c3 => ?_) (fun c3 => ?_)
  ·have h := An c3 h
   refine Aq (Ab (AJ (Ab (Aa Ac rfl (qm rfl (qa rfl (Ae (Ab (Aa Ac rfl (qm rfl (qm rfl (qm rfl ?_))))))))))))
   obtain ⟨v4, a4, b4, h⟩ := Ai h
   refine qi GS Nz a4 (Af b4) rfl (qk P7 rfl ?_)
   obtain ⟨v5, a5, h⟩ := bind_some h
   refine CA (ds0 := [_]) (ar := (M8 false (E4 eB)) v4) (.p rfl) rfl rfl ⟨rfl, tv⟩ rfl rfl rfl (CC (L3 _ _ (YF ao)) a5) ?_
   refine Ae ?_
   refine Ap rfl (fun c6 => ?_) (fun c6 => ?_)
   ·have h := An c6 h
    refine Ab (Aa Ac rfl (qm rfl (qa rfl (Ae ?_))))
    obtain rfl := sj h
    refine Am (sm [] [(4, iD v1)] [] rfl rfl) (Az ?_)
    exact ⟨⟨[_], ⟨.tmp _ _ rfl, tv⟩, rfl⟩, tv⟩
   ·have h := Ao c6 h
    refine Aq (Aa Ac rfl (AP rfl (qm rfl (Ae ?_))))
    exact As _ h (sm [] _ _ rfl rfl)
  ·have h := Ao c3 h
   refine AT ?_
   exact As _ h (sm [] _ _ rfl rfl)
 ·refine Am hs (Ab (Aa Ac rfl (qa rfl (Ae ?_))))
  obtain rfl := sj h
  refine Am (sm [] [(4, iD ((-1)))] [] rfl rfl) (Az ?_)
  exact ⟨⟨[_], ⟨.tmp _ _ rfl, tv⟩, rfl⟩, tv⟩
theorem H2 (N : Nat) (p0 : List (List Bool)) (p1 : (List Bool) → Option Bool) (r : Bool) (h : De N p0 p1 = some r) : AC Tryz.prog 159 [pD (.sl (p0.map (E4 eB))), oD (.clo (Bb (M8 false (E4 eB)) tB p1))] [] (bD r) := by
 unfold De at h
 refine Au (n := 9) (rs := [.tmp 4]) Tryz.func159 rfl rfl rfl (A7 rfl) (A7 rfl) rfl fun w0 S0 => ?_
 refine Ab (Aa Ac rfl (qa rfl (Ae (Ab (Aa Ac rfl (qm rfl (qm rfl ?_)))))))
 obtain ⟨v1, a1, h⟩ := bind_some h
 refine AG [] (It N p0 p1 v1 a1) YV rfl (Cz rfl (qa rfl (Ae ?_)))
 obtain rfl := sj h
 refine Am (sm [] [(4, bD ((decide (0 ≤ v1))))] [] rfl rfl) (Az ?_)
 exact ⟨⟨[_], ⟨.tmp _ _ rfl, tv⟩, rfl⟩, tv⟩
theorem KY (N : Nat) (p0 : List (List Bool)) (p1 : Int) (p2 : Int) (r : Bool) (h : Fj N p0 p1 p2 = some r) : AC Tryz.prog 131 [pD (.sl (p0.map (E4 eB))), iD p1, iD p2] [] (bD r) := by
 unfold Fj at h
 refine Au (n := 17) (rs := [.tmp 6]) Tryz.func131 rfl rfl rfl (A7 rfl) (A7 rfl) rfl fun w0 S0 => ?_
 refine Ab (Aa Ac rfl (qb rfl (qa rfl (Ae ?_))))
 refine AO h (fun v1 => mk [(6, bD v1)] []) (fun j1 h => ?_) (fun v1 h => ?_)
 ·refine Aa Ac rfl (qm rfl (AX GS rfl (qm rfl (BL rfl (qm rfl ?_)))))
  refine AF (t := 11) rfl (fun c2 => ?_) (fun c2 => ?_)
  ·have h := An c2 h
   refine qm rfl (DK (L8 5 [.val (.int .i64 p2)] rfl rfl) ?_)
   refine LM (capD := [_]) (Bb (M8 false (E4 eB)) tB ((fun (x : List Bool) => Ef N x p2))) (.g rfl rfl) Y4 rfl ⟨rfl, tv⟩ rfl (fun ar t ht => by obtain ⟨x, r, rfl, hq, rfl⟩ := H9 ht; exact MD N x p2 r hq) ?_
   obtain ⟨v3, a3, h⟩ := bind_some h
   refine AG [] (H2 N p0 ((fun (x : List Bool) => Ef N x p2)) v3 a3) YH rfl (BZ rfl (qp rfl (qa rfl (Ae ?_))))
   exact As _ h (sm [] _ _ rfl rfl)
  ·have h := Ao c2 h
   refine qn rfl (qn rfl (qn rfl (qn rfl (qp rfl (qa rfl (Ae ?_))))))
   exact As _ h (sm [] _ _ rfl rfl)
 ·obtain rfl := sj h
  refine Am (sm [] [(6, bD v1)] [] rfl rfl) (Az ?_)
  exact ⟨⟨[_], ⟨.tmp _ _ rfl, tv⟩, rfl⟩, tv⟩
theorem OP (N : Nat) (p0 : Ak) (p1 : AR) (r : Int) (h : GA N p0 p1 = some r) : AC Tryz.prog 103 [.e (.agg [sC (p0.fVersions.map Al), sC (p0.fNow.map Al), sC (p0.fTarget.map Al), sC (p0.fTables.map Ar)]), .e (.agg [iC p1.fKind, iC p1.fFrom, iC p1.fTo, .pure (.val (.bool p1.fAware)), sC (p1.fOK.map (E4 eB)), sC (p1.fRewrite.map (E4 eB))])] [] (iD r) := by
 unfold GA at h
 refine Au (n := 87) (rs := [.tmp 4]) Tryz.func103 rfl rfl rfl (A7 rfl) (A7 rfl) rfl fun w0 S0 => ?_
 refine Ab (Aa Ac rfl (qb rfl (qb rfl (qa rfl (Ae (Ab (Ab (Aa Ac rfl (qf Gl rfl (ql B6 rfl (qf Jw rfl (ql Sn rfl ?_))))))))))))
 obtain ⟨v1, a1, h⟩ := bind_some h
 refine AG [] (Qp N p1.fKind p1.fAware v1 a1) X2 rfl (BZ rfl (Ae ?_))
 refine Ap rfl (fun c2 => ?_) (fun c2 => ?_)
 ·have h := An c2 h
  refine Ab (Aa Ac rfl (qa rfl (Ae ?_)))
  obtain rfl := sj h
  refine Am (sm [] [(4, iD 1)] [] rfl rfl) (Az ?_)
  exact ⟨⟨[_], ⟨.tmp _ _ rfl, tv⟩, rfl⟩, tv⟩
 ·have h := Ao c2 h
  refine Aq (Ab ?_)
  refine AO h (fun v3 => mk [(2, oD (.ptr 2 0)), (3, oD (.ptr 3 0)), (29, bD v3)] [(2, .box [sC (p0.fVersions.map Al), sC (p0.fNow.map Al), sC (p0.fTarget.map Al), sC (p0.fTables.map Ar)]), (3, .box [iC p1.fKind, iC p1.fFrom, iC p1.fTo, .pure (.val (.bool p1.fAware)), sC (p1.fOK.map (E4 eB)), sC (p1.fRewrite.map (E4 eB))])]) (fun j3 h => ?_) (fun v3 h => ?_)
  ·refine Aa Ac rfl (qf Dj rfl (ql B6 rfl (qf BH rfl (ql Bu rfl (AX AM rfl ?_)))))
   obtain ⟨v4, a4, h⟩ := bind_some h
   refine AG [] (HP N p1.fFrom ((p0.fVersions.length : Int)) v4 a4) Sq rfl (BZ rfl (qm rfl ?_))
   refine AF (t := 21) rfl (fun c5 => ?_) (fun c5 => ?_)
   ·have h := An c5 h
    refine qn rfl (qn rfl (qn rfl (qn rfl (qn rfl (qn rfl (qn rfl (qp rfl (Ae ?_))))))))
    exact As _ h (sm [] _ _ rfl rfl)
   ·have h := Ao c5 h
    refine qf IP rfl (ql B6 rfl (qf BH rfl (ql Bu rfl (AX AM rfl ?_))))
    obtain ⟨v6, a6, h⟩ := bind_some h
    refine AG [] (HP N p1.fTo ((p0.fVersions.length : Int)) v6 a6) Sq rfl (BZ rfl (qp rfl (Ae ?_)))
    exact As _ h (sm [] _ _ rfl rfl)
  ·refine Ap rfl (fun c7 => ?_) (fun c7 => ?_)
   ·have h := An c7 h
    refine Ab (Aa Ac rfl (qa rfl (Ae ?_)))
    obtain rfl := sj h
    refine Am (sm [] [(4, iD 4)] [] rfl rfl) (Az ?_)
    exact ⟨⟨[_], ⟨.tmp _ _ rfl, tv⟩, rfl⟩, tv⟩
   ·have h := Ao c7 h
    refine Aq (Ab (Aa Ac rfl (qf BH rfl (ql Bu rfl (qf Dj rfl (ql B6 rfl ?_))))))
    obtain ⟨v8, a8, b8, h⟩ := Ai h
    refine qi AM Dw a8 (Af b8) rfl (qk B6 rfl (qa rfl (Ae (Ab (Aa Ac rfl (qf Gl rfl (ql B6 rfl (BL rfl (qa rfl (Ae (Ab ?_)))))))))))
    refine AO h (fun v9 => mk [(3, oD (.ptr 3 0)), (70, bD v9)] [(3, .box [iC p1.fKind, iC p1.fFrom, iC p1.fTo, .pure (.val (.bool p1.fAware)), sC (p1.fOK.map (E4 eB)), sC (p1.fRewrite.map (E4 eB))])]) (fun j9 h => ?_) (fun v9 h => ?_)
    ·refine Aa Ac rfl (qf Kh rfl (ql K8 rfl (qm rfl (qf BH rfl (ql Bu rfl (qf IP rfl (ql B6 rfl ?_)))))))
     obtain ⟨v10, a10, b10, h⟩ := Ai h
     refine qi AM Dw a10 (Af b10) rfl (qk B6 rfl ?_)
     obtain ⟨v11, a11, h⟩ := bind_some h
     refine AG [] (KY N p1.fOK v8 v10 v11 a11) W2 rfl (BZ rfl (qm rfl ?_))
     refine AF (t := 50) rfl (fun c12 => ?_) (fun c12 => ?_)
     ·have h := An c12 h
      refine qn rfl (qn rfl (qu rfl (qu rfl (qu rfl (qu rfl (qu rfl (qu rfl (qn rfl (qp rfl (qm rfl (qn rfl (qn rfl (qn rfl (qu rfl (qu rfl (qu rfl (qu rfl (qn rfl (qp rfl (AB (by kernel_rfl) ?_))))))))))))))))))))
      exact As _ h (sm [] _ _ rfl rfl)
     ·have h := Ao c12 h
      refine qm rfl (qm rfl ?_)
      refine AF (t := 52) rfl (fun c13 => ?_) (fun c13 => ?_)
      ·have h := An c13 h
       refine qf Hm rfl (ql K8 rfl (qm rfl (qm rfl ?_)))
       obtain ⟨v14, a14, h⟩ := bind_some h
       refine AG [] (KY N p1.fRewrite v8 v8 v14 a14) W2 rfl (BZ rfl (qp rfl (qp rfl (qm rfl ?_))))
       refine AF (t := 61) rfl (fun c15 => ?_) (fun c15 => ?_)
       ·have h := An c15 h
        refine qn rfl (qn rfl (qn rfl (qu rfl (qu rfl (qu rfl (qu rfl (qn rfl (qp rfl (AB (by kernel_rfl) ?_)))))))))
        exact As _ h (sm [] _ _ rfl rfl)
       ·have h := Ao c15 h
        refine qm rfl (BZ rfl (qm rfl ?_))
        refine AF (t := 64) rfl (fun c16 => ?_) (fun c16 => ?_)
        ·have h := An c16 h
         refine qf Hm rfl (ql K8 rfl (AX GS rfl (Ey rfl (qp rfl (qp rfl (AB (by kernel_rfl) ?_))))))
         exact As _ h (sm [] _ _ rfl rfl)
        ·have h := Ao c16 h
         refine qn rfl (qn rfl (qn rfl (qn rfl (qp rfl (qp rfl (AB (by kernel_rfl) ?_))))))
         exact As _ h (sm [] _ _ rfl rfl)
      ·have h := Ao c13 h
       refine qn rfl (qn rfl (qn rfl (qn rfl (qn rfl (qn rfl (qp rfl (qp rfl (qm rfl (qm rfl (BZ rfl (qm rfl ?_)))))))))))
       refine AF (t := 64) rfl (fun c17 => ?_) (fun c17 => ?_)
       ·have h := An c17 h
        refine qf Hm rfl (ql K8 rfl (AX GS rfl (Ey rfl (qp rfl (qp rfl (AB (by kernel_rfl) ?_))))))
        exact As _ h (sm [] _ _ rfl rfl)
       ·have h := Ao c17 h
        refine qn rfl (qn rfl (qn rfl (qn rfl (qp rfl (qp rfl (AB (by kernel_rfl) ?_))))))
        exact As _ h (sm [] _ _ rfl rfl)
    ·refine Ap rfl (fun c18 => ?_) (fun c18 => ?_)
     ·have h := An c18 h
      refine Ab (Aa Ac rfl (qa rfl (Ae ?_)))
      obtain rfl := sj h
      refine Am (sm [] [(4, iD 6)] [] rfl rfl) (Az ?_)
      exact ⟨⟨[_], ⟨.tmp _ _ rfl, tv⟩, rfl⟩, tv⟩
     ·have h := Ao c18 h
      refine Aq (Ab (Ab (Aa Ac rfl (qf Hm rfl (ql K8 rfl (AX GS rfl (qm rfl (Ae ?_))))))))
      refine AE (L := Dl N p1) h (fun v19 => mk [(3, oD (.ptr 3 0)), (73, iD ((p1.fRewrite.length : Int))), (74, iD v19)] [(3, .box [iC p1.fKind, iC p1.fFrom, iC p1.fTo, .pure (.val (.bool p1.fAware)), sC (p1.fOK.map (E4 eB)), sC (p1.fRewrite.map (E4 eB))])]) (fun v20 => mk [] []) (fun _ _ => rfl) (sm [] _ _ rfl rfl) (fun j19 n19 v19 h => ?_) (fun v20 s h hs => ?_)
      ·unfold Dl at h
       refine Ab (Aa Ac rfl (AV rfl (Ae (Ab ?_))))
       refine Ap rfl (fun c21 => ?_) (fun c21 => ?_)
       ·have h := An c21 h
        refine Aq (Ab (AJ (Ab (Aa Ac rfl (qm rfl (qa rfl (Ae (Ab (Aa Ac rfl (qf Hm rfl (ql K8 rfl (qm rfl ?_))))))))))))
        obtain ⟨v22, a22, b22, h⟩ := Ai h
        refine qi GS Nz a22 (Af b22) rfl (qk P7 rfl (qm rfl ?_))
        obtain ⟨v23, a23, b23, h⟩ := Ai h
        refine qi G9 Q1 a23 (Af b23) rfl (qk Sn rfl (BZ rfl (Ae ?_)))
        refine Ap rfl (fun c24 => ?_) (fun c24 => ?_)
        ·have h := An c24 h
         refine Ab (Aa Ac rfl (qa rfl (Ae ?_)))
         obtain rfl := sj h
         refine Am (sm [] [(4, iD 1)] [] rfl rfl) (Az ?_)
         exact ⟨⟨[_], ⟨.tmp _ _ rfl, tv⟩, rfl⟩, tv⟩
        ·have h := Ao c24 h
         refine Aq (Aa Ac rfl (AP rfl (qm rfl (Ae ?_))))
         exact As _ h (sm [] _ _ rfl rfl)
       ·have h := Ao c21 h
        refine AT ?_
        exact As _ h (sm [] _ _ rfl rfl)
      ·refine Am hs (Ab (Aa Ac rfl (qa rfl (Ae ?_))))
       obtain rfl := sj h
       refine Am (sm [] [(4, iD 0)] [] rfl rfl) (Az ?_)
       exact ⟨⟨[_], ⟨.tmp _ _ rfl, tv⟩, rfl⟩, tv⟩
theorem Fo (N : Nat) (p0 : Ak) (r : Int) (h : CQ N p0 = some r) : AC Tryz.prog 58 [.e (.agg [sC (p0.fVersions.map Al), sC (p0.fNow.map Al), sC (p0.fTarget.map Al), sC (p0.fTables.map Ar)])] [] (iD r) := by
 unfold CQ at h
 refine Au (n := 81) (rs := [.tmp 2]) Tryz.func58 rfl rfl rfl (A7 rfl) (A7 rfl) rfl fun w0 S0 => ?_
 refine Ab (Aa Ac rfl (qb rfl (qa rfl (Ae (Ab (Aa Ac rfl (qf BH rfl (ql Bu rfl (AX AM rfl (qa rfl (Ae (Ab ?_))))))))))))
 refine AO h (fun v1 => mk [(1, oD (.ptr 1 0)), (3, iD ((p0.fVersions.length : Int))), (19, bD v1)] [(1, .box [sC (p0.fVersions.map Al), sC (p0.fNow.map Al), sC (p0.fTarget.map Al), sC (p0.fTables.map Ar)])]) (fun j1 h => ?_) (fun v1 h => ?_)
 ·refine Aa Ac rfl (qm rfl (Ey rfl (qm rfl ?_)))
  refine AF (t := 14) rfl (fun c2 => ?_) (fun c2 => ?_)
  ·have h := An c2 h
   refine qn rfl (qn rfl (qn rfl (qn rfl (qp rfl (Ae ?_)))))
   exact As _ h (sm [] _ _ rfl rfl)
  ·have h := Ao c2 h
   refine qf Df rfl (ql H0 rfl (AX Ez rfl (Ey rfl (qp rfl (Ae ?_)))))
   exact As _ h (sm [] _ _ rfl rfl)
 ·refine Ap rfl (fun c3 => ?_) (fun c3 => ?_)
  ·have h := An c3 h
   refine Ab (Aa Ac rfl (qa rfl (Ae ?_)))
   obtain rfl := sj h
   refine Am (sm [] [(2, iD 3)] [] rfl rfl) (Az ?_)
   exact ⟨⟨[_], ⟨.tmp _ _ rfl, tv⟩, rfl⟩, tv⟩
  ·have h := Ao c3 h
   refine Aq (Ab ?_)
   refine AO h (fun v4 => mk [(1, oD (.ptr 1 0)), (31, bD v4)] [(1, .box [sC (p0.fVersions.map Al), sC (p0.fNow.map Al), sC (p0.fTarget.map Al), sC (p0.fTables.map Ar)])]) (fun j4 h => ?_) (fun v4 h => ?_)
   ·refine Aa Ac rfl (qf Ie rfl (ql Bu rfl (AX AM rfl (qm rfl (B3 rfl (qm rfl ?_))))))
    refine AF (t := 25) rfl (fun c5 => ?_) (fun c5 => ?_)
    ·have h := An c5 h
     refine qn rfl (qn rfl (qn rfl (qn rfl (qn rfl (qp rfl (Ae ?_))))))
     exact As _ h (sm [] _ _ rfl rfl)
    ·have h := Ao c5 h
     refine qf IK rfl (ql Bu rfl (AX AM rfl (qm rfl (B3 rfl (qp rfl (Ae ?_))))))
     exact As _ h (sm [] _ _ rfl rfl)
   ·refine Ap rfl (fun c6 => ?_) (fun c6 => ?_)
    ·have h := An c6 h
     refine Ab (Aa Ac rfl (qa rfl (Ae ?_)))
     obtain rfl := sj h
     refine Am (sm [] [(2, iD 6)] [] rfl rfl) (Az ?_)
     exact ⟨⟨[_], ⟨.tmp _ _ rfl, tv⟩, rfl⟩, tv⟩
    ·have h := Ao c6 h
     refine Aq (Ab (Ab (Aa Ac rfl (qf BH rfl (ql Bu rfl (AX AM rfl (qm rfl (Ae ?_))))))))
     refine AE (L := Ci N p0) h (fun v7 => mk [(1, oD (.ptr 1 0)), (33, pD (.sl (p0.fVersions.map Al))), (34, iD ((p0.fVersions.length : Int))), (35, iD v7)] [(1, .box [sC (p0.fVersions.map Al), sC (p0.fNow.map Al), sC (p0.fTarget.map Al), sC (p0.fTables.map Ar)])]) (fun v8 => mk [(1, oD (.ptr 1 0))] [(1, .box [sC (p0.fVersions.map Al), sC (p0.fNow.map Al), sC (p0.fTarget.map Al), sC (p0.fTables.map Ar)])]) (fun _ _ => rfl) (sm [] _ _ rfl rfl) (fun j7 n7 v7 h => ?_) (fun v8 s h hs => ?_)
     ·unfold Ci at h
      refine Ab (Aa Ac rfl (AV rfl (Ae (Ab ?_))))
      refine Ap rfl (fun c9 => ?_) (fun c9 => ?_)
      ·have h := An c9 h
       refine Aq (Ab (AJ (Ab (Aa Ac rfl (qm rfl ?_)))))
       obtain ⟨v10, a10, b10, h⟩ := Ai h
       refine qi AM Dw a10 (Af b10) rfl (qk B6 rfl (qa rfl (qa rfl (Ae ?_))))
       refine AO h (fun v11 => mk [(1, oD (.ptr 1 0)), (33, pD (.sl (p0.fVersions.map Al))), (34, iD ((p0.fVersions.length : Int))), (35, iD v7), (65, bD v11)] [(1, .box [sC (p0.fVersions.map Al), sC (p0.fNow.map Al), sC (p0.fTarget.map Al), sC (p0.fTables.map Ar)])]) (fun j11 h => ?_) (fun v11 h => ?_)
       ·refine Aa Ac rfl (qm rfl (AV rfl (qm rfl ?_)))
        refine AF (t := 42) rfl (fun c12 => ?_) (fun c12 => ?_)
        ·have h := An c12 h
         refine qn rfl (qn rfl (qp rfl (qm rfl (qn rfl (qn rfl (qn rfl (qn rfl (qn rfl (qn rfl (qn rfl (qn rfl (qp rfl (qm rfl (qn rfl (qn rfl (qn rfl (qn rfl (qn rfl (qn rfl (qn rfl (qn rfl (qp rfl (Ae ?_)))))))))))))))))))))))
         exact As _ h (sm [] _ _ rfl rfl)
        ·have h := Ao c12 h
         refine qm rfl (Ey rfl (qp rfl (qm rfl ?_)))
         refine AF (t := 46) rfl (fun c13 => ?_) (fun c13 => ?_)
         ·have h := An c13 h
          refine qn rfl (qn rfl (qn rfl (qn rfl (qn rfl (qn rfl (qn rfl (qn rfl (qp rfl (qm rfl (qn rfl (qn rfl (qn rfl (qn rfl (qn rfl (qn rfl (qn rfl (qn rfl (qp rfl (Ae ?_)))))))))))))))))))
          exact As _ h (sm [] _ _ rfl rfl)
         ·have h := Ao c13 h
          refine qf Ie rfl (ql Bu rfl (qm rfl ?_))
          obtain ⟨v14, a14, b14, h⟩ := Ai h
          refine qi AM Dw a14 (Af b14) rfl (qk B6 rfl (qm rfl ?_))
          obtain ⟨v15, a15, h⟩ := bind_some h
          refine AG [] (HP N v14 v10 v15 a15) Sq rfl (BZ rfl (qp rfl (qm rfl ?_)))
          refine AF (t := 56) rfl (fun c16 => ?_) (fun c16 => ?_)
          ·have h := An c16 h
           refine qn rfl (qn rfl (qn rfl (qn rfl (qn rfl (qn rfl (qn rfl (qn rfl (qp rfl (Ae ?_)))))))))
           exact As _ h (sm [] _ _ rfl rfl)
          ·have h := Ao c16 h
           refine qf IK rfl (ql Bu rfl (qm rfl ?_))
           obtain ⟨v17, a17, b17, h⟩ := Ai h
           refine qi AM Dw a17 (Af b17) rfl (qk B6 rfl (qm rfl ?_))
           obtain ⟨v18, a18, h⟩ := bind_some h
           refine AG [] (HP N v17 v10 v18 a18) Sq rfl (BZ rfl (qp rfl (Ae ?_)))
           exact As _ h (sm [] _ _ rfl rfl)
       ·refine Ap rfl (fun c19 => ?_) (fun c19 => ?_)
        ·have h := An c19 h
         refine Ab (Aa Ac rfl (qa rfl (Ae ?_)))
         obtain rfl := sj h
         refine Am (sm [] [(2, iD 7)] [] rfl rfl) (Az ?_)
         exact ⟨⟨[_], ⟨.tmp _ _ rfl, tv⟩, rfl⟩, tv⟩
        ·have h := Ao c19 h
         refine Aq (Aa Ac rfl (AP rfl (qm rfl (Ae ?_))))
         exact As _ h (sm [] _ _ rfl rfl)
      ·have h := Ao c9 h
       refine AT ?_
       exact As _ h (sm [] _ _ rfl rfl)
     ·refine Am hs (Ab (Ab (Aa Ac rfl (qf Df rfl (ql H0 rfl (AX Ez rfl (qm rfl (Ae ?_))))))))
      refine AE (L := B4 N p0) h (fun v20 => mk [(1, oD (.ptr 1 0)), (68, pD (.sl (p0.fTables.map Ar))), (69, iD ((p0.fTables.length : Int))), (70, iD v20)] [(1, .box [sC (p0.fVersions.map Al), sC (p0.fNow.map Al), sC (p0.fTarget.map Al), sC (p0.fTables.map Ar)])]) (fun v21 => mk [] []) (fun _ _ => rfl) (sm [] _ _ rfl rfl) (fun j20 n20 v20 h => ?_) (fun v21 s h hs => ?_)
      ·unfold B4 at h
       refine Ab (Aa Ac rfl (AV rfl (Ae (Ab ?_))))
       refine Ap rfl (fun c22 => ?_) (fun c22 => ?_)
       ·have h := An c22 h
        refine Aq (Ab (AJ (Ab (Aa Ac rfl ?_))))
        obtain ⟨v23, a23, b23, h⟩ := Ai h
        refine qi Ez Eu a23 (Af b23) rfl (qK H1 Eu rfl (qz Lq rfl (qs Eu rfl (Ae (Ab (Aa Ac rfl (qL DO Dv rfl (qL H1 Eu rfl ?_))))))))
        obtain ⟨v24, a24, h⟩ := bind_some h
        refine AG [] (OP N p0 v23 v24 a24) Y1 rfl (qa rfl (Ae (Ab (Aa Ac rfl (qm rfl (B3 rfl (Ae ?_)))))))
        refine Ap rfl (fun c25 => ?_) (fun c25 => ?_)
        ·have h := An c25 h
         refine Ab (Aa Ac rfl (qm rfl (qa rfl (Ae ?_))))
         obtain rfl := sj h
         refine Am (sm [] [(2, iD v24)] [] rfl rfl) (Az ?_)
         exact ⟨⟨[_], ⟨.tmp _ _ rfl, tv⟩, rfl⟩, tv⟩
        ·have h := Ao c25 h
         refine Aq (Aa Ac rfl (AP rfl (qm rfl (Ae ?_))))
         exact As _ h (sm [] _ _ rfl rfl)
       ·have h := Ao c22 h
        refine AT ?_
        exact As _ h (sm [] _ _ rfl rfl)
      ·refine Am hs (Ab (Aa Ac rfl (qa rfl (Ae ?_))))
       obtain rfl := sj h
       refine Am (sm [] [(2, iD 0)] [] rfl rfl) (Az ?_)
       exact ⟨⟨[_], ⟨.tmp _ _ rfl, tv⟩, rfl⟩, tv⟩
theorem C6 (N : Nat) (p0 : List Int) (r : (List Int)) (h : BA N p0 = some r) : AC Tryz.prog 66 [pD (.sl (p0.map Al))] [(1, r.map Al)] (oD (.own 0)) := by
 unfold BA at h
 refine Au (n := 8) (rs := [.tmp 2]) Tryz.func66 rfl rfl rfl (A7 rfl) (A7 rfl) rfl fun w0 S0 => ?_
 refine Ab (Aa Ac rfl (qa rfl (Ae (Ab (Ab (Aa Ac rfl (qm rfl ?_)))))))
 refine S6 (.p rfl) rfl AM ?_
 refine Ae ?_
 refine Sp rfl (fun c2 => ?_) ?_
 ·have c2 := List.map_eq_nil_iff.1 c2
  rw [c2] at h
  have h : (some (([] : List Int))) = some r := h
  refine Ab (Aa Ac rfl (qa rfl (Ae ?_)))
  obtain rfl := sj h
  refine Am ((Br 2 2001 1 rfl rfl rfl).trans (sm [(1000, 2001)] [(2, oD (.own 1000))] [(1000, .vec 1 ((([] : List Int)).map Al))] rfl rfl)) (Az ?_)
  exact ⟨⟨[_], ⟨.tmp _ _ rfl, tv⟩, rfl⟩, ⟨rfl, tv⟩⟩
 ·refine Aq (Ab (Aa Ac rfl (D8 AM Dw Kv rfl (qm rfl ?_))))
  obtain ⟨c1, h⟩ := AS h
  refine JG (f := Al) AM AM Dw MQ Kv (fun _ => rfl) c1 rfl (qa rfl (Ae ?_))
  obtain rfl := sj h
  refine Am (sm [(1000, 7)] [(2, oD (.own 1000))] [(1000, .vec 1 (((([] : List Int)) ++ p0).map Al))] rfl rfl) (Az ?_)
  exact ⟨⟨[_], ⟨.tmp _ _ rfl, tv⟩, rfl⟩, ⟨rfl, tv⟩⟩
theorem Mu (N : Nat) (p0 : Int) (p1 : Int) (r : Int × Int) (h : Hv N p0 p1 = some r) : AC Tryz.prog 153 [pD (.val (.int .u32 p0)), pD (.val (.int .u32 p1))] [] (.tup [.one (.pure (.val (.int .u32 r.1))), .one (.pure (.val (.int .u32 r.2)))]) := by
 unfold Hv at h
 refine Au (n := 17) (rs := [.tmp 4, .tmp 5]) Tryz.func153 rfl rfl rfl (A7 rfl) (A7 rfl) rfl fun w0 S0 => ?_
 refine Ab (Aa Ac rfl (qa rfl (qa rfl (Ae (Ab (Aa Ac rfl (qm rfl (Gq RE WV rfl (qm rfl (Gq RE WV rfl (HC rfl (qa rfl (Ae (Ab (Aa Ac rfl (qm rfl (Hz rfl (by decide) (Gq T9 Q3 rfl (qm rfl (Gq T9 Q3 rfl (qa rfl (qa rfl (Ae ?_)))))))))))))))))))))))
 obtain rfl := sj h
 refine Am (sm [] [(4, pD (.val (.int .u32 ((wI .u32 ((El .u64 ((wI .u64 ((wI .u64 p0) * (wI .u64 p1)))) 32))))))), (5, pD (.val (.int .u32 ((wI .u32 ((wI .u64 ((wI .u64 p0) * (wI .u64 p1)))))))))] [] rfl rfl) (Az ?_)
 exact ⟨⟨[_, _], ⟨.tmp _ _ rfl, ⟨.tmp _ _ rfl, tv⟩⟩, rfl⟩, tv⟩
theorem Mr (N : Nat) (p0 : Int) (p1 : Int) (r : Int × Int) (h : Hp N p0 p1 = some r) : AC Tryz.prog 154 [pD (.val (.int .u64 p0)), pD (.val (.int .u64 p1))] [] (.tup [.one (.pure (.val (.int .u64 r.1))), .one (.pure (.val (.int .u64 r.2)))]) := by
 unfold Hp at h
 refine Au (n := 51) (rs := [.tmp 4, .tmp 5]) Tryz.func154 rfl rfl rfl (A7 rfl) (A7 rfl) rfl fun w0 S0 => ?_
 refine Ab (Aa Ac rfl (qa rfl (qa rfl (Ae (Ab (Aa Ac rfl (qm rfl (KJ rfl (qa rfl (Ae (Ab (Aa Ac rfl (qm rfl (Hz rfl (by decide) (qa rfl (Ae (Ab (Aa Ac rfl (qm rfl (KJ rfl (qa rfl (Ae (Ab (Aa Ac rfl (qm rfl (Hz rfl (by decide) (qa rfl (Ae (Ab (Aa Ac rfl (qm rfl (qm rfl (HC rfl (qa rfl (Ae (Ab (Aa Ac rfl (qm rfl (qm rfl ?_)))))))))))))))))))))))))))))))))))))))
 refine HC rfl (qm rfl (Hz rfl (by decide) (AP rfl (qa rfl (Ae (Ab (Aa Ac rfl (qm rfl (KJ rfl (qa rfl (Ae (Ab (Aa Ac rfl (qm rfl (Hz rfl (by decide) (qa rfl (Ae (Ab (Aa Ac rfl (qm rfl (qm rfl (qm rfl (HC rfl (AP rfl (qa rfl (Ae (Ab (Aa Ac rfl (qm rfl (qm rfl (HC rfl (qm rfl (AP rfl (qm rfl (Hz rfl (by decide) (AP rfl (qa rfl (Ae (Ab ?_)))))))))))))))))))))))))))))))))))))))
 refine Aa Ac rfl (qm rfl (qm rfl (HC rfl (qa rfl (Ae ?_)))))
 obtain rfl := sj h
 refine Am (sm [] [(4, pD (.val (.int .u64 ((wI .u64 ((wI .u64 ((wI .u64 ((El .u64 p0 32) * (El .u64 p1 32))) + (El .u64 ((wI .u64 ((wI .u64 ((El .u64 p0 32) * (Fq .u64 p1 4294967295))) + (El .u64 ((wI .u64 ((Fq .u64 p0 4294967295) * (Fq .u64 p1 4294967295)))) 32)))) 32))) + (El .u64 ((wI .u64 ((Fq .u64 ((wI .u64 ((wI .u64 ((El .u64 p0 32) * (Fq .u64 p1 4294967295))) + (El .u64 ((wI .u64 ((Fq .u64 p0 4294967295) * (Fq .u64 p1 4294967295)))) 32)))) 4294967295) + (wI .u64 ((Fq .u64 p0 4294967295) * (El .u64 p1 32)))))) 32))))))), (5, pD (.val (.int .u64 ((wI .u64 (p0 * p1))))))] [] rfl rfl) (Az ?_)
 exact ⟨⟨[_, _], ⟨.tmp _ _ rfl, ⟨.tmp _ _ rfl, tv⟩⟩, rfl⟩, tv⟩
theorem Ny (N : Nat) (p0 : Int) (p1 : Int) (r : Int × Int) (h : Id N p0 p1 = some r) : AC Tryz.prog 120 [pD (.val (.int .u64 p0)), pD (.val (.int .u64 p1))] [] (.tup [.one (.pure (.val (.int .u64 r.1))), .one (.pure (.val (.int .u64 r.2)))]) := by
 unfold Id at h
 refine Au (n := 30) (rs := [.tmp 4, .tmp 5]) Tryz.func120 rfl rfl rfl (A7 rfl) (A7 rfl) rfl fun w0 S0 => ?_
 refine Ab (Aa Ac rfl (qa rfl (qa rfl (Ae (Ab ?_)))))
 refine Ap rfl (fun c1 => ?_) (fun c1 => ?_)
 ·have h := An c1 h
  refine Ab (Aa Ac rfl (qm rfl (Gq Ot Q3 rfl (qm rfl (Gq Ot Q3 rfl ?_)))))
  obtain ⟨v2, a2, h⟩ := bind_some h
  refine AG [] (Mu N ((wI .u32 p0)) ((wI .u32 p1)) v2 a2) Yl rfl (qm rfl (qx rfl (qx rfl (qa rfl (qa rfl (Ae (Ab (Aa Ac rfl (qm rfl (Gq RE Nl rfl (qm rfl (Gq RE Nl rfl (qa rfl (qa rfl (Ae ?_)))))))))))))))
  obtain rfl := sj h
  refine Am (sm [] [(4, pD (.val (.int .u64 ((wI .u64 v2.1))))), (5, pD (.val (.int .u64 ((wI .u64 v2.2)))))] [] rfl rfl) (Az ?_)
  exact ⟨⟨[_, _], ⟨.tmp _ _ rfl, ⟨.tmp _ _ rfl, tv⟩⟩, rfl⟩, tv⟩
 ·have h := Ao c1 h
  refine Aq (Ab (Aa Ac rfl (qm rfl (qm rfl ?_))))
  obtain ⟨v3, a3, h⟩ := bind_some h
  refine AG [] (Mr N p0 p1 v3 a3) Yg rfl (qm rfl (qx rfl (qx rfl (qa rfl (qa rfl (Ae (Ab (Aa Ac rfl (qm rfl (qm rfl (qa rfl (qa rfl (Ae ?_)))))))))))))
  obtain rfl := sj h
  refine Am (sm [] [(4, pD (.val (.int .u64 v3.1))), (5, pD (.val (.int .u64 v3.2)))] [] rfl rfl) (Az ?_)
  exact ⟨⟨[_, _], ⟨.tmp _ _ rfl, ⟨.tmp _ _ rfl, tv⟩⟩, rfl⟩, tv⟩
theorem JV (N : Nat) (p0 : List Int) (p1 : Int) (r : (List Int)) (h : Fz N p0 p1 = some r) : AC Tryz.prog 90 [pD (.sl (p0.map Al)), iD p1] [(1, r.map Al)] (oD (.own 0)) := by
 unfold Fz at h
 refine Au (n := 48) (rs := [.tmp 4]) Tryz.func90 rfl rfl rfl (A7 rfl) (A7 rfl) rfl fun w0 S0 => ?_
 refine Ab (Aa Ac rfl (qa rfl (Ae ?_)))
 refine AO h (fun v1 => mk [(0, pD (.sl (p0.map Al))), (1, iD p1)] []) (fun j1 h => ?_) (fun v1 h => ?_)
 ·refine Ab (Aa Ac rfl (qm rfl (AV rfl (Ae ?_))))
  refine Ap rfl (fun c2 => ?_) (fun c2 => ?_)
  ·have h := An c2 h
   refine Aa Ac rfl ?_
   cases h
  ·have h := Ao c2 h
   refine Aq ?_
   exact As _ h (sm [] _ _ rfl rfl)
 ·refine Ab (Aa Ac rfl (qm rfl (AX AM rfl (Gq T1 Nl rfl (qm rfl (Gq T1 Nl rfl ?_))))))
  obtain ⟨v3, a3, h⟩ := bind_some h
  refine AG [] (Ny N ((wI .u64 ((p0.length : Int)))) ((wI .u64 p1)) v3 a3) Y0 rfl (qm rfl (qx rfl (qx rfl (qa rfl (qa rfl (Ae ?_))))))
  refine AO h (fun v4 => mk [(0, pD (.sl (p0.map Al))), (6, pD (.val (.int .u64 v3.2)))] []) (fun j4 h => ?_) (fun v4 h => ?_)
  ·refine AO h (fun v5 => mk [(0, pD (.sl (p0.map Al))), (6, pD (.val (.int .u64 v3.2))), (26, bD v5)] []) (fun j5 h => ?_) (fun v5 h => ?_)
   ·refine Aa Ac rfl (qm rfl (Ey rfl (qm rfl ?_)))
    refine AF (t := 23) rfl (fun c6 => ?_) (fun c6 => ?_)
    ·have h := An c6 h
     refine qn rfl (qn rfl (qp rfl (Ae ?_)))
     exact As _ h (sm [] _ _ rfl rfl)
    ·have h := Ao c6 h
     refine qm rfl (Ey rfl (qp rfl (Ae ?_)))
     exact As _ h (sm [] _ _ rfl rfl)
   ·refine Ap rfl (fun c7 => ?_) (fun c7 => ?_)
    ·have h := An c7 h
     refine Aa Ac rfl ?_
     cases h
    ·have h := Ao c7 h
     refine Aq ?_
     exact As _ h (sm [] _ _ rfl rfl)
  ·refine Ab (Aa Ac rfl (qm rfl (Gq Ot SY rfl ?_)))
   obtain ⟨c8, h⟩ := AS h
   refine M7 (.p rfl) rfl rfl rfl AM Dw MQ (A7 rfl) Kv rfl rfl rfl c8.1 c8.2.1 c8.2.2 (SF Al _ ((0 : Int))) ?_
   refine qa rfl (Ae (Ab (Aa Ac rfl (qm rfl (qm rfl ?_)))))
   refine SW Al (List.replicate ((wI .i64 v3.2)).toNat ((0 : Int))) p0 (.p rfl) rfl (Io Al _ _ (List.replicate ((wI .i64 v3.2)).toNat ((0 : Int)))) rfl rfl (Wx Al _ _ (fun _ => rfl)) tv AM Dw ?_
   refine qa rfl (Ae (Ab ?_))
   refine AE (L := Eb N) h (fun v9 => mk [(7, oD (.own 2001)), (8, iD v9.2)] [(2001, .vec 1 (v9.1.map Al))]) (fun v10 => mk [(7, oD (.own 2002))] [(2002, .vec 1 (v10.map Al))]) (fun _ _ => rfl) (sm [(2001, 30)] _ _ rfl rfl) (fun j9 n9 v9 h => ?_) (fun v10 s h hs => ?_)
   ·unfold Eb at h
    refine Ab (Ab (Aa Ac rfl (qm rfl (qm rfl (Ex AM rfl (AV rfl (Ae ?_)))))))
    refine Ap rfl (fun c11 => ?_) (fun c11 => ?_)
    ·have h := An c11 h
     refine Aq (AJ (Aa Ac rfl (qm rfl (qm rfl (qm rfl ?_)))))
     obtain ⟨c12, h⟩ := AS h
     have w13 : ((v9.2).toNat) + ((v9.1.length - (v9.2).toNat)) ≤ v9.1.length := by have := c12.2.1; have := c12.2.2; omega
     refine Jd Al v9.1 (.p rfl) rfl (Io Al _ _ v9.1) rfl AM Dw (.some _ _ _ _ c12.1) (.none _) ⟨rfl, tv⟩ tv c12.2.1 (by rw [Nat.zero_add]; exact c12.2.2) (Nat.zero_add _) rfl ?_
     refine qm rfl (qm rfl ?_)
     obtain ⟨c14, h⟩ := AS h
     have w15 : 0 + ((v9.2).toNat) ≤ v9.1.length := by have := c14.2.1; have := c14.2.2; omega
     refine Jd Al v9.1 (.p rfl) rfl (Io Al _ _ v9.1) rfl AM Dw (.none _) (.some _ _ _ _ c14.1) tv ⟨rfl, tv⟩ c14.2.1 (by rw [Nat.zero_add]; exact c14.2.2) (Nat.zero_add _) rfl ?_
     refine SW Al v9.1 (((v9.1.drop 0).take ((v9.2).toNat))) (.p rfl) rfl (MV Al _ _ ((v9.2).toNat) ((v9.1.length - (v9.2).toNat)) v9.1 w13) rfl rfl (Ts Al _ _ 0 ((v9.2).toNat) v9.1 w15) ⟨rfl, tv⟩ AM Dw ?_
     refine AP rfl (qa rfl (AB (by kernel_rfl) ?_))
     exact As _ h (sm [] _ _ rfl rfl)
    ·have h := Ao c11 h
     refine AT ?_
     exact As _ h (sm [(2002, 2001)] _ _ rfl rfl)
   ·refine Am hs (Ab (Aa Ac rfl (qm rfl (qa rfl (Ae ?_)))))
    obtain rfl := sj h
    refine Am (sm [(1000, 2002)] [(4, oD (.own 1000))] [(1000, .vec 1 (v10.map Al))] rfl rfl) (Az ?_)
    exact ⟨⟨[_], ⟨.tmp _ _ rfl, tv⟩, rfl⟩, ⟨rfl, tv⟩⟩
theorem Kg (N : Nat) (p0 : AR) (r : Bool) (h : Fv N p0 = some r) : AC Tryz.prog 91 [.e (.agg [iC p0.fKind, iC p0.fFrom, iC p0.fTo, .pure (.val (.bool p0.fAware)), sC (p0.fOK.map (E4 eB)), sC (p0.fRewrite.map (E4 eB))])] [] (bD r) := by
 unfold Fv at h
 refine Au (n := 11) (rs := [.tmp 2]) Tryz.func91 rfl rfl rfl (A7 rfl) (A7 rfl) rfl fun w0 S0 => ?_
 refine Ab (Aa Ac rfl (qb rfl (qa rfl (Ae ?_))))
 refine AO h (fun v1 => mk [(2, bD v1)] []) (fun j1 h => ?_) (fun v1 h => ?_)
 ·refine Aa Ac rfl (qf Gl rfl (ql B6 rfl (BL rfl (qm rfl ?_))))
  refine AF (t := 6) rfl (fun c2 => ?_) (fun c2 => ?_)
  ·have h := An c2 h
   refine qn rfl (qn rfl (qn rfl (qp rfl (qa rfl (Ae ?_)))))
   exact As _ h (sm [] _ _ rfl rfl)
  ·have h := Ao c2 h
   refine qf Gl rfl (ql B6 rfl (BL rfl (qp rfl (qa rfl (Ae ?_)))))
   exact As _ h (sm [] _ _ rfl rfl)
 ·obtain rfl := sj h
  refine Am (sm [] [(2, bD v1)] [] rfl rfl) (Az ?_)
  exact ⟨⟨[_], ⟨.tmp _ _ rfl, tv⟩, rfl⟩, tv⟩
theorem Nh (N : Nat) (p0 : Ak) (r : Ah × Int) (h : IN N p0 = some r) : AC Tryz.prog 44 [.e (.agg [sC (p0.fVersions.map Al), sC (p0.fNow.map Al), sC (p0.fTarget.map Al), sC (p0.fTables.map Ar)])] [(1, r.1.fBase.map Al), (1, r.1.fNext.map Al), (1, r.1.fHeld.map Bj)] (.tup [.agg [.own 0, .own 1, .own 2], .one (iC r.2)]) := by
 unfold IN at h
 refine Au (n := 50) (rs := [.cell 2 46, .tmp 3]) Tryz.func44 rfl rfl rfl (A7 rfl) (A7 rfl) rfl fun w0 S0 => ?_
 refine Ab (Aa Ac rfl (qb rfl (qz CI rfl (qa rfl (Ae (Ab (Ab (Aa Ac rfl (qL DO Dv rfl ?_)))))))))
 obtain ⟨v1, a1, h⟩ := bind_some h
 refine AG [] (Fo N p0 v1 a1) V9 rfl (qa rfl (Ae (Ab (Aa Ac rfl (qm rfl (B3 rfl (Ae ?_)))))))
 refine Ap rfl (fun c2 => ?_) (fun c2 => ?_)
 ·have h := An c2 h
  refine Ab (Aa Ac rfl (Bw CI G5 rfl (qm rfl (qs AA rfl (qa rfl (Ae ?_))))))
  obtain rfl := sj h
  refine Am ((AI 2 0 2001 1 _ rfl rfl rfl rfl).trans ((AI 2 1 2002 1 _ rfl rfl rfl rfl).trans ((AI 2 2 2003 1 _ rfl rfl rfl rfl).trans (sm [(1000, 2001), (1001, 2002), (1002, 2003)] [(2, oD (.ptr 2 0)), (3, iD v1)] [(2, .box [.own 1000, .own 1001, .own 1002]), (1000, .vec 1 ((([] : List Int)).map Al)), (1001, .vec 1 ((([] : List Int)).map Al)), (1002, .vec 1 ((([] : List Int)).map Bj))] rfl rfl)))) (Az ?_)
  exact ⟨⟨[_, _], ⟨.cellN _ _ _ _ _ _ _ rfl rfl A9 AA rfl rfl (IM rfl), ⟨.tmp _ _ rfl, tv⟩⟩, rfl⟩, ⟨rfl, rfl, rfl, tv⟩⟩
 ·have h := Ao c2 h
  refine Aq (Ab (Aa Ac rfl (qf Ie rfl (ql Bu rfl ?_))))
  obtain ⟨v3, a3, h⟩ := bind_some h
  refine AG [2004] (C6 N p0.fNow v3 a3) RZ rfl (D8 AM Dw Kv rfl (qf Ie rfl (ql Bu rfl (AX AM rfl ?_))))
  obtain ⟨v4, a4, h⟩ := bind_some h
  refine DC [2005] [17] (JV N (([(-1)] : List Int)) ((p0.fNow.length : Int)) v4 a4) ac (GD (fun _ => rfl) Cj) rfl (qf Df rfl (ql H0 rfl (AX Ez rfl ?_)))
  obtain ⟨c5, h⟩ := AS h
  refine M7 (.p rfl) rfl rfl rfl Dg FN Ro (A7 rfl) OB rfl rfl rfl c5.1 c5.2.1 c5.2.2 (SF Bj _ ((0 : Int))) ?_
  refine Bw CI G5 rfl (qz CI rfl (qs AA rfl (AB (by kernel_rfl) (Ab (Ab (Aa Ac rfl (qf Df rfl (ql H0 rfl (AX Ez rfl (qm rfl (Ae ?_)))))))))))
  refine AE (L := Hi N p0) h (fun v6 => mk [(1, oD (.ptr 1 0)), (2, oD (.ptr 2 0)), (5, oD (.ptr 5 0)), (28, pD (.sl (p0.fTables.map Ar))), (29, iD ((p0.fTables.length : Int))), (30, iD v6.2)] [(1, .box [sC (p0.fVersions.map Al), sC (p0.fNow.map Al), sC (p0.fTarget.map Al), sC (p0.fTables.map Ar)]), (2, .box [.pure (.nil0), .pure (.nil0), .pure (.nil0)]), (5, .box [.own 2006, .own 2007, .own 2008]), (2006, .vec 1 (v3.map Al)), (2007, .vec 1 (v4.map Al)), (2008, .vec 1 (v6.1.map Bj))]) (fun v7 => mk [(2, oD (.ptr 2 0)), (5, oD (.ptr 5 0))] [(2, .box [.pure (.nil0), .pure (.nil0), .pure (.nil0)]), (5, .box [.own 2009, .own 2010, .own 2011]), (2009, .vec 1 (v3.map Al)), (2010, .vec 1 (v4.map Al)), (2011, .vec 1 (v7.map Bj))]) (fun _ _ => rfl) (sm [(2006, 2004), (2007, 2005), (2008, 25)] _ _ rfl rfl) (fun j6 n6 v6 h => ?_) (fun v7 s h hs => ?_)
  ·unfold Hi at h
   refine Ab (Aa Ac rfl (AV rfl (Ae (Ab ?_))))
   refine Ap rfl (fun c8 => ?_) (fun c8 => ?_)
   ·have h := An c8 h
    refine Aq ?_
    refine AO h (fun v9 => mk [(1, oD (.ptr 1 0)), (2, oD (.ptr 2 0)), (5, oD (.ptr 5 0)), (28, pD (.sl (p0.fTables.map Ar))), (29, iD ((p0.fTables.length : Int))), (30, iD v6.2)] [(1, .box [sC (p0.fVersions.map Al), sC (p0.fNow.map Al), sC (p0.fTarget.map Al), sC (p0.fTables.map Ar)]), (2, .box [.pure (.nil0), .pure (.nil0), .pure (.nil0)]), (5, .box [.own 2012, .own 2013, .own 2014]), (2012, .vec 1 (v3.map Al)), (2013, .vec 1 (v4.map Al)), (2014, .vec 1 (v9.map Bj))]) (fun j9 h => ?_) (fun v9 h => ?_)
    ·refine AJ (Ab (Aa Ac rfl (qm rfl ?_)))
     obtain ⟨v10, a10, b10, h⟩ := Ai h
     refine qi Ez Eu a10 (Af b10) rfl (qK H1 Eu rfl (qz Lq rfl (qa rfl (qs Eu rfl (Ae (Ab (Aa Ac rfl (qL H1 Eu rfl ?_))))))))
     obtain ⟨v11, a11, h⟩ := bind_some h
     refine AG [] (Kg N v10 v11 a11) XB rfl (Ae ?_)
     refine Ap rfl (fun c12 => ?_) (fun c12 => ?_)
     ·have h := An c12 h
      refine Aa Ac rfl (qf CS rfl (ql G4 rfl (qm rfl (qf Ie rfl (ql Bu rfl (qf Dj rfl (ql B6 rfl ?_)))))))
      obtain ⟨v13, a13, b13, h⟩ := Ai h
      refine qi AM Dw a13 (Af b13) rfl (qk B6 rfl ?_)
      obtain ⟨c14, h⟩ := AS h
      refine Il rfl c14 ?_
      obtain ⟨v15, a15, b15, h⟩ := Ai h
      refine qI Dg FN a15 (Af b15) rfl ?_
      refine A0 rfl rfl rfl rfl (Af b15) rfl FN rfl (A7 rfl) (AY Bj v6.1 _ ((CJ .u8 1 v13))) ?_
      refine AB (by kernel_rfl) ?_
      exact As _ h (sm [(2012, 2006), (2013, 2007), (2014, 2008)] _ _ rfl rfl)
     ·have h := Ao c12 h
      refine Aq ?_
      exact As _ h (sm [(2012, 2006), (2013, 2007), (2014, 2008)] _ _ rfl rfl)
    ·refine Aa Ac rfl (AP rfl (qm rfl (Ae ?_)))
     exact As _ h (sm [(2006, 2012), (2007, 2013), (2008, 2014)] _ _ rfl rfl)
   ·have h := Ao c8 h
    refine AT ?_
    exact As _ h (sm [(2009, 2006), (2010, 2007), (2011, 2008)] _ _ rfl rfl)
  ·refine Am hs (Ab (Aa Ac rfl (qL A9 AA rfl (qs AA rfl (qa rfl (Ae ?_))))))
   obtain rfl := sj h
   refine Am (sm [(1000, 2009), (1001, 2010), (1002, 2011)] [(2, oD (.ptr 2 0)), (3, iD 0)] [(2, .box [.own 1000, .own 1001, .own 1002]), (1000, .vec 1 (v3.map Al)), (1001, .vec 1 (v4.map Al)), (1002, .vec 1 (v7.map Bj))] rfl rfl) (Az ?_)
   exact ⟨⟨[_, _], ⟨.cellN _ _ _ _ _ _ _ rfl rfl A9 AA rfl rfl (IM rfl), ⟨.tmp _ _ rfl, tv⟩⟩, rfl⟩, ⟨rfl, rfl, rfl, tv⟩⟩
theorem JQ (N : Nat) (p0 : Ah) (p1 : Int) (r : Int) (h : E6 N p0 p1 = some r) : AC Tryz.prog 107 [.e (.agg [sC (p0.fBase.map Al), sC (p0.fNext.map Al), sC (p0.fHeld.map Bj)]), iD p1] [] (pD (.val (.int .u8 r))) := by
 unfold E6 at h
 refine Au (n := 27) (rs := [.tmp 4]) Tryz.func107 rfl rfl rfl (A7 rfl) (A7 rfl) rfl fun w0 S0 => ?_
 refine Ab (Aa Ac rfl (qb rfl (qa rfl (Ae (Ab (Aa Ac rfl (qf CY rfl (ql Bu rfl (qm rfl ?_)))))))))
 obtain ⟨v1, a1, b1, h⟩ := Ai h
 refine qi AM Dw a1 (Af b1) rfl (qk B6 rfl ?_)
 obtain ⟨c2, h⟩ := AS h
 refine Il rfl c2 (qa rfl (Ae ?_))
 refine AO h (fun v3 => mk [(5, pD (.val (.int .u8 v3)))] []) (fun j3 h => ?_) (fun v3 h => ?_)
 ·refine Ab (Aa Ac rfl (qf BJ rfl (ql Bu rfl (qm rfl ?_))))
  obtain ⟨v4, a4, b4, h⟩ := Ai h
  refine qi AM Dw a4 (Af b4) rfl (qk B6 rfl (Cz rfl (Ae ?_)))
  refine Ap rfl (fun c5 => ?_) (fun c5 => ?_)
  ·have h := An c5 h
   refine Aa Ac rfl (qm rfl (qf BJ rfl (ql Bu rfl (qm rfl ?_))))
   obtain ⟨v6, a6, b6, h⟩ := Ai h
   refine qi AM Dw a6 (Af b6) rfl (qk B6 rfl ?_)
   obtain ⟨c7, h⟩ := AS h
   refine Il rfl c7 (Tx rfl (qa rfl (Ae ?_)))
   exact As _ h (sm [] _ _ rfl rfl)
  ·have h := Ao c5 h
   refine Aq ?_
   exact As _ h (sm [] _ _ rfl rfl)
 ·refine Ab (Aa Ac rfl (qm rfl (qa rfl (Ae ?_))))
  obtain rfl := sj h
  refine Am (sm [] [(4, pD (.val (.int .u8 v3)))] [] rfl rfl) (Az ?_)
  exact ⟨⟨[_], ⟨.tmp _ _ rfl, tv⟩, rfl⟩, tv⟩
theorem In (N : Nat) (p0 : Ak) (p1 : Ah) (r : Int) (h : EV N p0 p1 = some r) : AC Tryz.prog 65 [.e (.agg [sC (p0.fVersions.map Al), sC (p0.fNow.map Al), sC (p0.fTarget.map Al), sC (p0.fTables.map Ar)]), .e (.agg [sC (p1.fBase.map Al), sC (p1.fNext.map Al), sC (p1.fHeld.map Bj)])] [] (iD r) := by
 unfold EV at h
 refine Au (n := 135) (rs := [.tmp 4]) Tryz.func65 rfl rfl rfl (A7 rfl) (A7 rfl) rfl fun w0 S0 => ?_
 refine Ab (Aa Ac rfl (qb rfl (qb rfl (qa rfl (Ae (Ab (Ab (Aa Ac rfl (qL DO Dv rfl ?_)))))))))
 obtain ⟨v1, a1, h⟩ := bind_some h
 refine AG [] (Fo N p0 v1 a1) V9 rfl (qa rfl (Ae (Ab (Aa Ac rfl (qm rfl (B3 rfl (Ae ?_)))))))
 refine Ap rfl (fun c2 => ?_) (fun c2 => ?_)
 ·have h := An c2 h
  refine Ab (Aa Ac rfl (qm rfl (qa rfl (Ae ?_))))
  obtain rfl := sj h
  refine Am (sm [] [(4, iD v1)] [] rfl rfl) (Az ?_)
  exact ⟨⟨[_], ⟨.tmp _ _ rfl, tv⟩, rfl⟩, tv⟩
 ·have h := Ao c2 h
  refine Aq (Ab ?_)
  refine AO h (fun v3 => mk [(2, oD (.ptr 2 0)), (3, oD (.ptr 3 0)), (41, bD v3)] [(2, .box [sC (p0.fVersions.map Al), sC (p0.fNow.map Al), sC (p0.fTarget.map Al), sC (p0.fTables.map Ar)]), (3, .box [sC (p1.fBase.map Al), sC (p1.fNext.map Al), sC (p1.fHeld.map Bj)])]) (fun j3 h => ?_) (fun v3 h => ?_)
  ·refine Aa Ac rfl (qf CY rfl (ql Bu rfl (AX AM rfl (qf BH rfl (ql Bu rfl (AX AM rfl (B3 rfl (qm rfl ?_))))))))
   refine AF (t := 24) rfl (fun c4 => ?_) (fun c4 => ?_)
   ·have h := An c4 h
    refine qn rfl (qn rfl (qn rfl (qn rfl (qn rfl (qn rfl (qn rfl (qp rfl (qm rfl (qn rfl (qn rfl (qn rfl (qn rfl (qn rfl (qn rfl (qn rfl (qp rfl (Ae ?_)))))))))))))))))
    exact As _ h (sm [] _ _ rfl rfl)
   ·have h := Ao c4 h
    refine qf BJ rfl (ql Bu rfl (AX AM rfl (qf BH rfl (ql Bu rfl (AX AM rfl (B3 rfl (qp rfl (qm rfl ?_))))))))
    refine AF (t := 33) rfl (fun c5 => ?_) (fun c5 => ?_)
    ·have h := An c5 h
     refine qn rfl (qn rfl (qn rfl (qn rfl (qn rfl (qn rfl (qn rfl (qp rfl (Ae ?_))))))))
     exact As _ h (sm [] _ _ rfl rfl)
    ·have h := Ao c5 h
     refine qf CS rfl (ql G4 rfl (AX Dg rfl (qf Df rfl (ql H0 rfl (AX Ez rfl (B3 rfl (qp rfl (Ae ?_))))))))
     exact As _ h (sm [] _ _ rfl rfl)
  ·refine Ap rfl (fun c6 => ?_) (fun c6 => ?_)
   ·have h := An c6 h
    refine Ab (Aa Ac rfl (qa rfl (Ae ?_)))
    obtain rfl := sj h
    refine Am (sm [] [(4, iD 6)] [] rfl rfl) (Az ?_)
    exact ⟨⟨[_], ⟨.tmp _ _ rfl, tv⟩, rfl⟩, tv⟩
   ·have h := Ao c6 h
    refine Aq (Ab (Ab (Aa Ac rfl (qf BH rfl (ql Bu rfl (AX AM rfl (qm rfl (Ae ?_))))))))
    refine AE (L := Ej N p0 p1) h (fun v7 => mk [(2, oD (.ptr 2 0)), (3, oD (.ptr 3 0)), (43, pD (.sl (p0.fVersions.map Al))), (44, iD ((p0.fVersions.length : Int))), (45, iD v7)] [(2, .box [sC (p0.fVersions.map Al), sC (p0.fNow.map Al), sC (p0.fTarget.map Al), sC (p0.fTables.map Ar)]), (3, .box [sC (p1.fBase.map Al), sC (p1.fNext.map Al), sC (p1.fHeld.map Bj)])]) (fun v8 => mk [(2, oD (.ptr 2 0)), (3, oD (.ptr 3 0))] [(2, .box [sC (p0.fVersions.map Al), sC (p0.fNow.map Al), sC (p0.fTarget.map Al), sC (p0.fTables.map Ar)]), (3, .box [sC (p1.fBase.map Al), sC (p1.fNext.map Al), sC (p1.fHeld.map Bj)])]) (fun _ _ => rfl) (sm [] _ _ rfl rfl) (fun j7 n7 v7 h => ?_) (fun v8 s h hs => ?_)
    ·unfold Ej at h
     refine Ab (Aa Ac rfl (AV rfl (Ae (Ab ?_))))
     refine Ap rfl (fun c9 => ?_) (fun c9 => ?_)
     ·have h := An c9 h
      refine Aq (Ab (AJ (Ab (Aa Ac rfl (qm rfl ?_)))))
      obtain ⟨v10, a10, b10, h⟩ := Ai h
      refine qi AM Dw a10 (Af b10) rfl (qk B6 rfl (qa rfl (qa rfl (Ae (Ab ?_)))))
      refine AO h (fun v11 => mk [(2, oD (.ptr 2 0)), (3, oD (.ptr 3 0)), (6, iD v7), (43, pD (.sl (p0.fVersions.map Al))), (44, iD ((p0.fVersions.length : Int))), (45, iD v7), (81, bD v11)] [(2, .box [sC (p0.fVersions.map Al), sC (p0.fNow.map Al), sC (p0.fTarget.map Al), sC (p0.fTables.map Ar)]), (3, .box [sC (p1.fBase.map Al), sC (p1.fNext.map Al), sC (p1.fHeld.map Bj)])]) (fun j11 h => ?_) (fun v11 h => ?_)
      ·refine Aa Ac rfl (qf CY rfl (ql Bu rfl (qm rfl ?_)))
       obtain ⟨v12, a12, b12, h⟩ := Ai h
       refine qi AM Dw a12 (Af b12) rfl (qk B6 rfl (AV rfl (qm rfl ?_)))
       refine AF (t := 56) rfl (fun c13 => ?_) (fun c13 => ?_)
       ·have h := An c13 h
        refine qn rfl (qn rfl (qn rfl (qn rfl (qn rfl (qn rfl (qn rfl (qp rfl (qm rfl (qn rfl (qn rfl (qn rfl (qn rfl (qn rfl (qn rfl (qp rfl (qm rfl (qn rfl (qn rfl (qn rfl (qn rfl (qn rfl (qn rfl (qn rfl (qp rfl (Ae ?_)))))))))))))))))))))))))
        exact As _ h (sm [] _ _ rfl rfl)
       ·have h := Ao c13 h
        refine qf CY rfl (ql Bu rfl (qm rfl ?_))
        obtain ⟨v14, a14, b14, h⟩ := Ai h
        refine qi AM Dw a14 (Af b14) rfl (qk B6 rfl (qm rfl (Cz rfl (qp rfl (qm rfl ?_)))))
        refine AF (t := 65) rfl (fun c15 => ?_) (fun c15 => ?_)
        ·have h := An c15 h
         refine qn rfl (qn rfl (qn rfl (qn rfl (qn rfl (qn rfl (qp rfl (qm rfl (qn rfl (qn rfl (qn rfl (qn rfl (qn rfl (qn rfl (qn rfl (qp rfl (Ae ?_))))))))))))))))
         exact As _ h (sm [] _ _ rfl rfl)
        ·have h := Ao c15 h
         refine qf BJ rfl (ql Bu rfl (qm rfl ?_))
         obtain ⟨v16, a16, b16, h⟩ := Ai h
         refine qi AM Dw a16 (Af b16) rfl (qk B6 rfl (AV rfl (qp rfl (qm rfl ?_))))
         refine AF (t := 73) rfl (fun c17 => ?_) (fun c17 => ?_)
         ·have h := An c17 h
          refine qn rfl (qn rfl (qn rfl (qn rfl (qn rfl (qn rfl (qn rfl (qp rfl (Ae ?_))))))))
          exact As _ h (sm [] _ _ rfl rfl)
         ·have h := Ao c17 h
          refine qf BJ rfl (ql Bu rfl (qm rfl ?_))
          obtain ⟨v18, a18, b18, h⟩ := Ai h
          refine qi AM Dw a18 (Af b18) rfl (qk B6 rfl (qm rfl (Cz rfl (qp rfl (Ae ?_)))))
          exact As _ h (sm [] _ _ rfl rfl)
      ·refine Ap rfl (fun c19 => ?_) (fun c19 => ?_)
       ·have h := An c19 h
        refine Ab (Aa Ac rfl (qa rfl (Ae ?_)))
        obtain rfl := sj h
        refine Am (sm [] [(4, iD 7)] [] rfl rfl) (Az ?_)
        exact ⟨⟨[_], ⟨.tmp _ _ rfl, tv⟩, rfl⟩, tv⟩
       ·have h := Ao c19 h
        refine Aq (Ab (Aa Ac rfl (qf CY rfl (ql Bu rfl (qm rfl ?_)))))
        obtain ⟨v20, a20, b20, h⟩ := Ai h
        refine qi AM Dw a20 (Af b20) rfl (qk B6 rfl (qf BJ rfl (ql Bu rfl (qm rfl ?_))))
        obtain ⟨v21, a21, b21, h⟩ := Ai h
        refine qi AM Dw a21 (Af b21) rfl (qk B6 rfl (BL rfl (AB (by kernel_rfl) ?_)))
        refine Ap rfl (fun c22 => ?_) (fun c22 => ?_)
        ·have h := An c22 h
         refine Ab (Aa Ac rfl (qa rfl (Ae ?_)))
         obtain rfl := sj h
         refine Am (sm [] [(4, iD 1)] [] rfl rfl) (Az ?_)
         exact ⟨⟨[_], ⟨.tmp _ _ rfl, tv⟩, rfl⟩, tv⟩
        ·have h := Ao c22 h
         refine Aq (Aa Ac rfl (AP rfl (qm rfl (Ae ?_))))
         exact As _ h (sm [] _ _ rfl rfl)
     ·have h := Ao c9 h
      refine AT ?_
      exact As _ h (sm [] _ _ rfl rfl)
    ·refine Am hs (Ab (Ab (Aa Ac rfl (qf Df rfl (ql H0 rfl (AX Ez rfl (qm rfl (Ae ?_))))))))
     refine AE (L := D5 N p0 p1) h (fun v23 => mk [(2, oD (.ptr 2 0)), (3, oD (.ptr 3 0)), (95, pD (.sl (p0.fTables.map Ar))), (96, iD ((p0.fTables.length : Int))), (97, iD v23)] [(2, .box [sC (p0.fVersions.map Al), sC (p0.fNow.map Al), sC (p0.fTarget.map Al), sC (p0.fTables.map Ar)]), (3, .box [sC (p1.fBase.map Al), sC (p1.fNext.map Al), sC (p1.fHeld.map Bj)])]) (fun v24 => mk [] []) (fun _ _ => rfl) (sm [] _ _ rfl rfl) (fun j23 n23 v23 h => ?_) (fun v24 s h hs => ?_)
     ·unfold D5 at h
      refine Ab (Aa Ac rfl (AV rfl (Ae (Ab ?_))))
      refine Ap rfl (fun c25 => ?_) (fun c25 => ?_)
      ·have h := An c25 h
       refine Aq (Ab (AJ (Ab (Aa Ac rfl (qm rfl ?_)))))
       obtain ⟨v26, a26, b26, h⟩ := Ai h
       refine qi Ez Eu a26 (Af b26) rfl (qK H1 Eu rfl (qz Lq rfl (qa rfl (qs Eu rfl (Ae (Ab (Aa Ac rfl (qa rfl (qa rfl (Ae ?_))))))))))
       refine AO h (fun v27 => mk [(2, oD (.ptr 2 0)), (3, oD (.ptr 3 0)), (8, iD v23), (10, pD (.val (.int .u8 v27.1))), (11, pD (.val (.int .u8 v27.2))), (95, pD (.sl (p0.fTables.map Ar))), (96, iD ((p0.fTables.length : Int))), (97, iD v23)] [(2, .box [sC (p0.fVersions.map Al), sC (p0.fNow.map Al), sC (p0.fTarget.map Al), sC (p0.fTables.map Ar)]), (3, .box [sC (p1.fBase.map Al), sC (p1.fNext.map Al), sC (p1.fHeld.map Bj)])]) (fun j27 h => ?_) (fun v27 h => ?_)
       ·refine Ab (Aa Ac rfl (qL H1 Eu rfl ?_))
        obtain ⟨v28, a28, h⟩ := bind_some h
        refine AG [] (Kg N v26 v28 a28) XB rfl (Ae ?_)
        refine Ap rfl (fun c29 => ?_) (fun c29 => ?_)
        ·have h := An c29 h
         refine Aa Ac rfl (qL A9 AA rfl (qf Dj rfl (ql B6 rfl ?_)))
         obtain ⟨v30, a30, h⟩ := bind_some h
         refine AG [] (JQ N p1 v26.fFrom v30 a30) Uu rfl (qf BH rfl (ql Bu rfl (qf Dj rfl (ql B6 rfl ?_))))
         obtain ⟨v31, a31, b31, h⟩ := Ai h
         refine qi AM Dw a31 (Af b31) rfl (qk B6 rfl ?_)
         obtain ⟨c32, h⟩ := AS h
         refine Il rfl c32 (Bk rfl (qa rfl (qa rfl (AB (by kernel_rfl) ?_))))
         exact As _ h (sm [] _ _ rfl rfl)
        ·have h := Ao c29 h
         refine Aq ?_
         exact As _ h (sm [] _ _ rfl rfl)
       ·refine AO h (fun v33 => mk [(2, oD (.ptr 2 0)), (3, oD (.ptr 3 0)), (95, pD (.sl (p0.fTables.map Ar))), (96, iD ((p0.fTables.length : Int))), (97, iD v23), (133, bD v33)] [(2, .box [sC (p0.fVersions.map Al), sC (p0.fNow.map Al), sC (p0.fTarget.map Al), sC (p0.fTables.map Ar)]), (3, .box [sC (p1.fBase.map Al), sC (p1.fNext.map Al), sC (p1.fHeld.map Bj)])]) (fun j33 h => ?_) (fun v33 h => ?_)
        ·refine Aa Ac rfl (qm rfl (qf CS rfl (ql G4 rfl (qm rfl ?_))))
         obtain ⟨v34, a34, b34, h⟩ := Ai h
         refine qi Dg FN a34 (Af b34) rfl (qk Kq rfl (IY rfl (B3 rfl (qm rfl ?_))))
         refine AF (t := 124) rfl (fun c35 => ?_) (fun c35 => ?_)
         ·have h := An c35 h
          refine qn rfl (qn rfl (qn rfl (qn rfl (qn rfl (qn rfl (qn rfl (qn rfl (qp rfl (Ae ?_)))))))))
          exact As _ h (sm [] _ _ rfl rfl)
         ·have h := Ao c35 h
          refine qf CS rfl (ql G4 rfl (qm rfl ?_))
          obtain ⟨v36, a36, b36, h⟩ := Ai h
          refine qi Dg FN a36 (Af b36) rfl (qk Kq rfl (qm rfl (IY rfl (B3 rfl (qp rfl (Ae ?_))))))
          exact As _ h (sm [] _ _ rfl rfl)
        ·refine Ap rfl (fun c37 => ?_) (fun c37 => ?_)
         ·have h := An c37 h
          refine Ab (Aa Ac rfl (qa rfl (Ae ?_)))
          obtain rfl := sj h
          refine Am (sm [] [(4, iD 1)] [] rfl rfl) (Az ?_)
          exact ⟨⟨[_], ⟨.tmp _ _ rfl, tv⟩, rfl⟩, tv⟩
         ·have h := Ao c37 h
          refine Aq (Aa Ac rfl (AP rfl (qm rfl (Ae ?_))))
          exact As _ h (sm [] _ _ rfl rfl)
      ·have h := Ao c25 h
       refine AT ?_
       exact As _ h (sm [] _ _ rfl rfl)
     ·refine Am hs (Ab (Aa Ac rfl (qa rfl (Ae ?_))))
      obtain rfl := sj h
      refine Am (sm [] [(4, iD 0)] [] rfl rfl) (Az ?_)
      exact ⟨⟨[_], ⟨.tmp _ _ rfl, tv⟩, rfl⟩, tv⟩
theorem Er (N : Nat) (p0 : List Int) (r : (List Int)) (h : BM N p0 = some r) : AC Tryz.prog 67 [pD (.sl (p0.map Bj))] [(1, r.map Bj)] (oD (.own 0)) := by
 unfold BM at h
 refine Au (n := 8) (rs := [.tmp 2]) Tryz.func67 rfl rfl rfl (A7 rfl) (A7 rfl) rfl fun w0 S0 => ?_
 refine Ab (Aa Ac rfl (qa rfl (Ae (Ab (Ab (Aa Ac rfl (qm rfl ?_)))))))
 refine S6 (.p rfl) rfl Dg ?_
 refine Ae ?_
 refine Sp rfl (fun c2 => ?_) ?_
 ·have c2 := List.map_eq_nil_iff.1 c2
  rw [c2] at h
  have h : (some (([] : List Int))) = some r := h
  refine Ab (Aa Ac rfl (qa rfl (Ae ?_)))
  obtain rfl := sj h
  refine Am ((Br 2 2001 1 rfl rfl rfl).trans (sm [(1000, 2001)] [(2, oD (.own 1000))] [(1000, .vec 1 ((([] : List Int)).map Bj))] rfl rfl)) (Az ?_)
  exact ⟨⟨[_], ⟨.tmp _ _ rfl, tv⟩, rfl⟩, ⟨rfl, tv⟩⟩
 ·refine Aq (Ab (Aa Ac rfl (D8 Dg FN OB rfl (qm rfl ?_))))
  obtain ⟨c1, h⟩ := AS h
  refine JG (f := Bj) Dg Dg FN Ro OB (fun _ => rfl) c1 rfl (qa rfl (Ae ?_))
  obtain rfl := sj h
  refine Am (sm [(1000, 7)] [(2, oD (.own 1000))] [(1000, .vec 1 (((([] : List Int)) ++ p0).map Bj))] rfl rfl) (Az ?_)
  exact ⟨⟨[_], ⟨.tmp _ _ rfl, tv⟩, rfl⟩, ⟨rfl, tv⟩⟩
theorem P3 (N : Nat) (p0 : Ak) (p1 : Ah) (r : (List Ah) × Int) (h : G8 N p0 p1 = some r) : AC Tryz.prog 99 [.e (.agg [sC (p0.fVersions.map Al), sC (p0.fNow.map Al), sC (p0.fTarget.map Al), sC (p0.fTables.map Ar)]), .e (.agg [sC (p1.fBase.map Al), sC (p1.fNext.map Al), sC (p1.fHeld.map Bj)])] [(3, r.1.map Aj)] (.tup [.one (.own 0), .one (iC r.2)]) := by
 unfold G8 at h
 refine Au (n := 75) (rs := [.tmp 4, .tmp 5]) Tryz.func99 rfl rfl rfl (A7 rfl) (A7 rfl) rfl fun w0 S0 => ?_
 refine Ab (Aa Ac rfl (qb rfl (qb rfl (qa rfl (qa rfl (Ae (Ab (Ab (Aa Ac rfl (qL DO Dv rfl (qL A9 AA rfl ?_)))))))))))
 obtain ⟨v1, a1, h⟩ := bind_some h
 refine AG [] (In N p0 p1 v1 a1) UC rfl (qa rfl (Ae (Ab (Aa Ac rfl (qm rfl (B3 rfl (Ae ?_)))))))
 refine Ap rfl (fun c2 => ?_) (fun c2 => ?_)
 ·have h := An c2 h
  refine Ab (Aa Ac rfl (qm rfl (qa rfl (qa rfl (Ae ?_)))))
  obtain rfl := sj h
  refine Am ((Br 4 2001 3 rfl rfl rfl).trans (sm [(1000, 2001)] [(4, oD (.own 1000)), (5, iD v1)] [(1000, .vec 3 ((([] : List Ah)).map Aj))] rfl rfl)) (Az ?_)
  exact ⟨⟨[_, _], ⟨.tmp _ _ rfl, ⟨.tmp _ _ rfl, tv⟩⟩, rfl⟩, ⟨rfl, tv⟩⟩
 ·have h := Ao c2 h
  refine Aq (Ab (Aa Ac rfl (qa rfl (Ae (Ab (Ab (Aa Ac rfl (qf BJ rfl (ql Bu rfl (AX AM rfl (qm rfl (Ae ?_))))))))))))
  refine AE (L := D9 N p1) h (fun v3 => mk [(3, oD (.ptr 3 0)), (7, oD (.own 2002)), (22, pD (.sl (p1.fNext.map Al))), (23, iD ((p1.fNext.length : Int))), (24, iD v3.2)] [(3, .box [sC (p1.fBase.map Al), sC (p1.fNext.map Al), sC (p1.fHeld.map Bj)]), (2002, .vec 1 (v3.1.map Al))]) (fun v4 => mk [(3, oD (.ptr 3 0)), (7, oD (.own 2003))] [(3, .box [sC (p1.fBase.map Al), sC (p1.fNext.map Al), sC (p1.fHeld.map Bj)]), (2003, .vec 1 (v4.map Al))]) (fun _ _ => rfl) ((Br 7 2005 1 rfl rfl rfl).trans (sm [(2002, 2005)] _ _ rfl rfl)) (fun j3 n3 v3 h => ?_) (fun v4 s h hs => ?_)
  ·unfold D9 at h
   refine Ab (Aa Ac rfl (AV rfl (Ae (Ab ?_))))
   refine Ap rfl (fun c5 => ?_) (fun c5 => ?_)
   ·have h := An c5 h
    refine Aq ?_
    refine AO h (fun v6 => mk [(3, oD (.ptr 3 0)), (7, oD (.own 2004)), (22, pD (.sl (p1.fNext.map Al))), (23, iD ((p1.fNext.length : Int))), (24, iD v3.2)] [(3, .box [sC (p1.fBase.map Al), sC (p1.fNext.map Al), sC (p1.fHeld.map Bj)]), (2004, .vec 1 (v6.map Al))]) (fun j6 h => ?_) (fun v6 h => ?_)
    ·refine AJ (Ab (Aa Ac rfl (qm rfl ?_)))
     obtain ⟨v7, a7, b7, h⟩ := Ai h
     refine qi AM Dw a7 (Af b7) rfl (qk B6 rfl (qa rfl (qa rfl (Ae (Ab (Aa Ac rfl (qm rfl (Cz rfl (Ae ?_)))))))))
     refine Ap rfl (fun c8 => ?_) (fun c8 => ?_)
     ·have h := An c8 h
      refine Aa Ac rfl (qm rfl (qm rfl (D8 AM Dw Kv rfl ?_)))
      obtain ⟨c9, h⟩ := AS h
      refine Dt (f := Al) AM AM Dw MQ Kv c9 rfl (qa rfl (Ae ?_))
      exact As _ h (sm [(2004, 34)] _ _ rfl rfl)
     ·have h := Ao c8 h
      refine Aq ?_
      exact As _ h (sm [(2004, 2002)] _ _ rfl rfl)
    ·refine Aa Ac rfl (AP rfl (qm rfl (Ae ?_)))
     exact As _ h (sm [(2002, 2004)] _ _ rfl rfl)
   ·have h := Ao c5 h
    refine AT ?_
    exact As _ h (sm [(2003, 2002)] _ _ rfl rfl)
  ·refine Am hs (Ab (Aa Ac rfl (qa rfl (Ae (Ab (Ab (Aa Ac rfl (qm rfl (Ex AM rfl ?_)))))))))
   obtain ⟨c10, h⟩ := AS h
   refine Il rfl c10 (qm rfl (Ae ?_))
   refine AE (L := Dd N p1 v4) h (fun v11 => mk [(3, oD (.ptr 3 0)), (7, oD (.own 2006)), (10, oD (.own 2007)), (38, iD ((CJ .i64 1 ((v4.length : Int))))), (39, iD v11.2)] [(3, .box [sC (p1.fBase.map Al), sC (p1.fNext.map Al), sC (p1.fHeld.map Bj)]), (2006, .vec 1 (v4.map Al)), (2007, .vec 3 (v11.1.map Aj))]) (fun v12 => mk [(10, oD (.own 2008))] [(2008, .vec 3 (v12.map Aj))]) (fun _ _ => rfl) ((Br 10 2027 3 rfl rfl rfl).trans (sm [(2006, 2003), (2007, 2027)] _ _ rfl rfl)) (fun j11 n11 v11 h => ?_) (fun v12 s h hs => ?_)
   ·unfold Dd at h
    refine Ab (Aa Ac rfl (AV rfl (Ae (Ab ?_))))
    refine Ap rfl (fun c13 => ?_) (fun c13 => ?_)
    ·have h := An c13 h
     refine Aq (Ab (AJ (Ab (Aa Ac rfl (qm rfl (qa rfl (Ae (Ab (Aa Ac rfl (qf CY rfl (ql Bu rfl ?_)))))))))))
     obtain ⟨v14, a14, h⟩ := bind_some h
     refine AG [2009] (C6 N p1.fBase v14 a14) RZ rfl (qf BJ rfl (ql Bu rfl ?_))
     obtain ⟨v15, a15, h⟩ := bind_some h
     refine AG [2010] (C6 N p1.fNext v15 a15) RZ rfl (qf CS rfl (ql G4 rfl ?_))
     obtain ⟨v16, a16, h⟩ := bind_some h
     refine AG [2011] (Er N p1.fHeld v16 a16) Xb rfl (Bw CI G5 rfl (qz CI rfl (qs AA rfl (AB (by kernel_rfl) (Ab (Ab (Aa Ac rfl (qm rfl (Ex AM rfl (qm rfl (Ae ?_)))))))))))
     refine AE (L := Db N v4 v11) h (fun v17 => mk [(3, oD (.ptr 3 0)), (7, oD (.own 2015)), (10, oD (.own 2016)), (11, iD v11.2), (12, oD (.ptr 12 0)), (38, iD ((CJ .i64 1 ((v4.length : Int))))), (39, iD v11.2), (52, oD (.own 2015)), (53, iD ((v4.length : Int))), (54, iD v17.2)] [(3, .box [sC (p1.fBase.map Al), sC (p1.fNext.map Al), sC (p1.fHeld.map Bj)]), (12, .box [.own 2012, .own 2013, .own 2014]), (2012, .vec 1 (v14.map Al)), (2013, .vec 1 (v17.1.map Al)), (2014, .vec 1 (v16.map Bj)), (2015, .vec 1 (v4.map Al)), (2016, .vec 3 (v11.1.map Aj))]) (fun v18 => mk [(3, oD (.ptr 3 0)), (7, oD (.own 2020)), (10, oD (.own 2021)), (12, oD (.ptr 12 0)), (38, iD ((CJ .i64 1 ((v4.length : Int))))), (39, iD v11.2)] [(3, .box [sC (p1.fBase.map Al), sC (p1.fNext.map Al), sC (p1.fHeld.map Bj)]), (12, .box [.own 2017, .own 2018, .own 2019]), (2017, .vec 1 (v14.map Al)), (2018, .vec 1 (v18.map Al)), (2019, .vec 1 (v16.map Bj)), (2020, .vec 1 (v4.map Al)), (2021, .vec 3 (v11.1.map Aj))]) (fun _ _ => rfl) (sm [(2012, 2009), (2013, 2010), (2014, 2011), (2015, 2006), (2016, 2007)] _ _ rfl rfl) (fun j17 n17 v17 h => ?_) (fun v18 s h hs => ?_)
     ·unfold Db at h
      refine Ab (Aa Ac rfl (AV rfl (Ae (Ab ?_))))
      refine Ap rfl (fun c19 => ?_) (fun c19 => ?_)
      ·have h := An c19 h
       refine Aq ?_
       refine AO h (fun v20 => mk [(3, oD (.ptr 3 0)), (7, oD (.own 2025)), (10, oD (.own 2026)), (11, iD v11.2), (12, oD (.ptr 12 0)), (38, iD ((CJ .i64 1 ((v4.length : Int))))), (39, iD v11.2), (52, oD (.own 2025)), (53, iD ((v4.length : Int))), (54, iD v17.2)] [(3, .box [sC (p1.fBase.map Al), sC (p1.fNext.map Al), sC (p1.fHeld.map Bj)]), (12, .box [.own 2022, .own 2023, .own 2024]), (2022, .vec 1 (v14.map Al)), (2023, .vec 1 (v20.map Al)), (2024, .vec 1 (v16.map Bj)), (2025, .vec 1 (v4.map Al)), (2026, .vec 3 (v11.1.map Aj))]) (fun j20 h => ?_) (fun v20 h => ?_)
       ·refine AJ (Ab (Aa Ac rfl (qm rfl ?_)))
        obtain ⟨v21, a21, b21, h⟩ := Ai h
        refine qI AM Dw a21 (Af b21) rfl (qj B6 (Af b21) rfl (qa rfl (qa rfl (Ae (Ab (Aa Ac rfl (qm rfl (qm rfl ?_))))))))
        obtain ⟨c22, h⟩ := AS h
        refine Hz rfl c22 (KJ rfl (BL rfl (Ae ?_)))
        refine Ap rfl (fun c23 => ?_) (fun c23 => ?_)
        ·have h := An c23 h
         refine Aa Ac rfl (qf BJ rfl (ql Bu rfl (qm rfl ?_)))
         obtain ⟨v24, a24, b24, h⟩ := Ai h
         refine qI AM Dw a24 (Af b24) rfl ?_
         refine A0 rfl rfl rfl rfl (Af b24) rfl Dw rfl (A7 rfl) (AY Al v17.1 _ ((-1))) ?_
         refine Ae ?_
         exact As _ h (sm [(2022, 2012), (2023, 2013), (2024, 2014), (2025, 2015), (2026, 2016)] _ _ rfl rfl)
        ·have h := Ao c23 h
         refine Aq ?_
         exact As _ h (sm [(2022, 2012), (2023, 2013), (2024, 2014), (2025, 2015), (2026, 2016)] _ _ rfl rfl)
       ·refine Aa Ac rfl (AP rfl (qm rfl (Ae ?_)))
        exact As _ h (sm [(2012, 2022), (2013, 2023), (2014, 2024), (2015, 2025), (2016, 2026)] _ _ rfl rfl)
      ·have h := Ao c19 h
       refine AT ?_
       exact As _ h (sm [(2017, 2012), (2018, 2013), (2019, 2014), (2020, 2015), (2021, 2016)] _ _ rfl rfl)
     ·refine Am hs (Aa Ac rfl (qm rfl (qL A9 AA rfl (DK (Bq 2017 _ _ rfl rfl) (DK (Bq 2018 _ _ rfl rfl) (DK (Bq 2019 _ _ rfl rfl) (D8 A3 AA CI rfl ?_)))))))
      obtain ⟨c25, h⟩ := AS h
      refine Dt (f := Aj) A3 A3 AA Q0 CI c25 rfl (qa rfl (Ae (Aa Ac rfl (AP rfl (qm rfl (Ae ?_))))))
      exact As _ h (sm [(2006, 2020), (2007, 72)] _ _ rfl rfl)
    ·have h := Ao c13 h
     refine AT ?_
     exact As _ h (sm [(2008, 2007)] _ _ rfl rfl)
   ·refine Am hs (Ab (Aa Ac rfl (qm rfl (qa rfl (qa rfl (Ae ?_))))))
    obtain rfl := sj h
    refine Am (sm [(1000, 2008)] [(4, oD (.own 1000)), (5, iD 0)] [(1000, .vec 3 (v12.map Aj))] rfl rfl) (Az ?_)
    exact ⟨⟨[_, _], ⟨.tmp _ _ rfl, ⟨.tmp _ _ rfl, tv⟩⟩, rfl⟩, ⟨rfl, tv⟩⟩
theorem NF (N : Nat) (p0 : Ak) (p1 : Ah) (r : (List Ag)) (h : FI N p0 p1 = some r) : AC Tryz.prog 100 [.e (.agg [sC (p0.fVersions.map Al), sC (p0.fNow.map Al), sC (p0.fTarget.map Al), sC (p0.fTables.map Ar)]), .e (.agg [sC (p1.fBase.map Al), sC (p1.fNext.map Al), sC (p1.fHeld.map Bj)])] [(3, r.map Ad)] (oD (.own 0)) := by
 unfold FI at h
 refine Au (n := 98) (rs := [.tmp 4]) Tryz.func100 rfl rfl rfl (A7 rfl) (A7 rfl) rfl fun w0 S0 => ?_
 refine Ab (Aa Ac rfl (qb rfl (qb rfl (qa rfl (Ae (Ab (Aa Ac rfl (qa rfl (Ae (Ab (Ab (Aa Ac rfl (qf Df rfl (ql H0 rfl (AX Ez rfl (qm rfl (Ae ?_)))))))))))))))))
 refine AE (L := DI N p0 p1) h (fun v1 => mk [(3, oD (.ptr 3 0)), (5, oD (.own 2001)), (15, pD (.sl (p0.fTables.map Ar))), (16, iD ((p0.fTables.length : Int))), (17, iD v1.2)] [(3, .box [sC (p1.fBase.map Al), sC (p1.fNext.map Al), sC (p1.fHeld.map Bj)]), (2001, .vec 3 (v1.1.map Ad))]) (fun v2 => mk [(5, oD (.own 2002))] [(2002, .vec 3 (v2.map Ad))]) (fun _ _ => rfl) ((Br 5 2013 3 rfl rfl rfl).trans (sm [(2001, 2013)] _ _ rfl rfl)) (fun j1 n1 v1 h => ?_) (fun v2 s h hs => ?_)
 ·unfold DI at h
  refine Ab (Aa Ac rfl (AV rfl (Ae (Ab ?_))))
  refine Ap rfl (fun c3 => ?_) (fun c3 => ?_)
  ·have h := An c3 h
   refine Aq (Ab (AJ (Ab (Aa Ac rfl (qm rfl ?_)))))
   obtain ⟨v4, a4, b4, h⟩ := Ai h
   refine qi Ez Eu a4 (Af b4) rfl (qK H1 Eu rfl (qz Lq rfl (qa rfl (qs Eu rfl (Ae (Ab (Aa Ac rfl (qL A9 AA rfl (qf Dj rfl (ql B6 rfl ?_))))))))))
   obtain ⟨v5, a5, h⟩ := bind_some h
   refine AG [] (JQ N p1 v4.fFrom v5 a5) Uu rfl (qL A9 AA rfl (qf IP rfl (ql B6 rfl ?_)))
   obtain ⟨v6, a6, h⟩ := bind_some h
   refine AG [] (JQ N p1 v4.fTo v6 a6) Uu rfl (qa rfl (qa rfl (AB (by kernel_rfl) ?_)))
   refine AO h (fun v7 => mk [(3, oD (.ptr 3 0)), (5, oD (.own 2003)), (6, iD v1.2), (7, oD (.ptr 7 0)), (8, pD (.val (.int .u8 v7))), (9, pD (.val (.int .u8 v6))), (15, pD (.sl (p0.fTables.map Ar))), (16, iD ((p0.fTables.length : Int))), (17, iD v1.2)] [(3, .box [sC (p1.fBase.map Al), sC (p1.fNext.map Al), sC (p1.fHeld.map Bj)]), (7, .box [iC v4.fKind, iC v4.fFrom, iC v4.fTo, .pure (.val (.bool v4.fAware)), sC (v4.fOK.map (E4 eB)), sC (v4.fRewrite.map (E4 eB))]), (2003, .vec 3 (v1.1.map Ad))]) (fun j7 h => ?_) (fun v7 h => ?_)
   ·refine Ab (Aa Ac rfl (qL H1 Eu rfl ?_))
    obtain ⟨v8, a8, h⟩ := bind_some h
    refine AG [] (Kg N v4 v8 a8) XB rfl (Ae ?_)
    refine Ap rfl (fun c9 => ?_) (fun c9 => ?_)
    ·have h := An c9 h
     refine Aa Ac rfl (qf CS rfl (ql G4 rfl (qm rfl ?_)))
     obtain ⟨v10, a10, b10, h⟩ := Ai h
     refine qi Dg FN a10 (Af b10) rfl (qk Kq rfl (qa rfl (Ae ?_)))
     exact As _ h (sm [(2003, 2001)] _ _ rfl rfl)
    ·have h := Ao c9 h
     refine Aq ?_
     exact As _ h (sm [(2003, 2001)] _ _ rfl rfl)
   ·refine Ab (Aa Ac rfl (qf Kh rfl (ql K8 rfl (AX GS rfl (qm rfl (Ae ?_))))))
    refine AE (L := CF N v1 v4 v6 v7) h (fun v11 => mk [(3, oD (.ptr 3 0)), (5, oD (.own 2004)), (6, iD v1.2), (7, oD (.ptr 7 0)), (8, pD (.val (.int .u8 v7))), (9, pD (.val (.int .u8 v6))), (15, pD (.sl (p0.fTables.map Ar))), (16, iD ((p0.fTables.length : Int))), (17, iD v1.2), (39, iD ((v4.fOK.length : Int))), (40, iD v11.2)] [(3, .box [sC (p1.fBase.map Al), sC (p1.fNext.map Al), sC (p1.fHeld.map Bj)]), (7, .box [iC v4.fKind, iC v4.fFrom, iC v4.fTo, .pure (.val (.bool v4.fAware)), sC (v4.fOK.map (E4 eB)), sC (v4.fRewrite.map (E4 eB))]), (2004, .vec 3 (v11.1.map Ad))]) (fun v12 => mk [(3, oD (.ptr 3 0)), (5, oD (.own 2005)), (15, pD (.sl (p0.fTables.map Ar))), (16, iD ((p0.fTables.length : Int))), (17, iD v1.2)] [(3, .box [sC (p1.fBase.map Al), sC (p1.fNext.map Al), sC (p1.fHeld.map Bj)]), (2005, .vec 3 (v12.map Ad))]) (fun _ _ => rfl) (sm [(2004, 2003)] _ _ rfl rfl) (fun j11 n11 v11 h => ?_) (fun v12 s h hs => ?_)
    ·unfold CF at h
     refine Ab (Aa Ac rfl (AV rfl (Ae (Ab ?_))))
     refine Ap rfl (fun c13 => ?_) (fun c13 => ?_)
     ·have h := An c13 h
      refine Aq ?_
      refine AO h (fun v14 => mk [(3, oD (.ptr 3 0)), (5, oD (.own 2006)), (6, iD v1.2), (7, oD (.ptr 7 0)), (8, pD (.val (.int .u8 v7))), (9, pD (.val (.int .u8 v6))), (15, pD (.sl (p0.fTables.map Ar))), (16, iD ((p0.fTables.length : Int))), (17, iD v1.2), (39, iD ((v4.fOK.length : Int))), (40, iD v11.2)] [(3, .box [sC (p1.fBase.map Al), sC (p1.fNext.map Al), sC (p1.fHeld.map Bj)]), (7, .box [iC v4.fKind, iC v4.fFrom, iC v4.fTo, .pure (.val (.bool v4.fAware)), sC (v4.fOK.map (E4 eB)), sC (v4.fRewrite.map (E4 eB))]), (2006, .vec 3 (v14.map Ad))]) (fun j14 h => ?_) (fun v14 h => ?_)
      ·refine AJ (Ab (Aa Ac rfl (qm rfl (qa rfl (Ae (Ab (Ab (Aa Ac rfl (qm rfl (qm rfl ?_))))))))))
       obtain ⟨c15, h⟩ := AS h
       refine Hz rfl c15 (KJ rfl (BL rfl (Ae ?_)))
       refine Ap rfl (fun c16 => ?_) (fun c16 => ?_)
       ·have h := An c16 h
        refine AT ?_
        exact As _ h (sm [(2006, 2004)] _ _ rfl rfl)
       ·have h := Ao c16 h
        refine Aq (Ab (Aa Ac rfl (qa rfl (Ae (Ab (Ab (Aa Ac rfl (qf Kh rfl (ql K8 rfl (qm rfl ?_))))))))))
        obtain ⟨v17, a17, b17, h⟩ := Ai h
        refine qi GS Nz a17 (Af b17) rfl (qk P7 rfl (AX G9 rfl (qm rfl (Ae ?_))))
        refine AE (L := Cc N v1 v4 v6 v11 v17) h (fun v18 => mk [(3, oD (.ptr 3 0)), (5, oD (.own 2007)), (6, iD v1.2), (7, oD (.ptr 7 0)), (8, pD (.val (.int .u8 v7))), (9, pD (.val (.int .u8 v6))), (10, iD v11.2), (11, bD v18.2.1), (15, pD (.sl (p0.fTables.map Ar))), (16, iD ((p0.fTables.length : Int))), (17, iD v1.2), (39, iD ((v4.fOK.length : Int))), (40, iD v11.2), (52, pD (.sl (v17.map eB))), (53, iD ((v17.length : Int))), (54, iD v18.2.2)] [(3, .box [sC (p1.fBase.map Al), sC (p1.fNext.map Al), sC (p1.fHeld.map Bj)]), (7, .box [iC v4.fKind, iC v4.fFrom, iC v4.fTo, .pure (.val (.bool v4.fAware)), sC (v4.fOK.map (E4 eB)), sC (v4.fRewrite.map (E4 eB))]), (2007, .vec 3 (v18.1.map Ad))]) (fun v19 => mk [(3, oD (.ptr 3 0)), (5, oD (.own 2008)), (6, iD v1.2), (7, oD (.ptr 7 0)), (8, pD (.val (.int .u8 v7))), (9, pD (.val (.int .u8 v6))), (10, iD v11.2), (11, bD v19.2), (15, pD (.sl (p0.fTables.map Ar))), (16, iD ((p0.fTables.length : Int))), (17, iD v1.2), (39, iD ((v4.fOK.length : Int))), (40, iD v11.2)] [(3, .box [sC (p1.fBase.map Al), sC (p1.fNext.map Al), sC (p1.fHeld.map Bj)]), (7, .box [iC v4.fKind, iC v4.fFrom, iC v4.fTo, .pure (.val (.bool v4.fAware)), sC (v4.fOK.map (E4 eB)), sC (v4.fRewrite.map (E4 eB))]), (2008, .vec 3 (v19.1.map Ad))]) (fun _ _ => rfl) (sm [(2007, 2004)] _ _ rfl rfl) (fun j18 n18 v18 h => ?_) (fun v19 s h hs => ?_)
        ·unfold Cc at h
         refine Ab (Aa Ac rfl (AV rfl (Ae (Ab ?_))))
         refine Ap rfl (fun c20 => ?_) (fun c20 => ?_)
         ·have h := An c20 h
          refine Aq ?_
          refine AO h (fun v21 => mk [(3, oD (.ptr 3 0)), (5, oD (.own 2009)), (6, iD v1.2), (7, oD (.ptr 7 0)), (8, pD (.val (.int .u8 v7))), (9, pD (.val (.int .u8 v6))), (10, iD v11.2), (11, bD v21.2), (15, pD (.sl (p0.fTables.map Ar))), (16, iD ((p0.fTables.length : Int))), (17, iD v1.2), (39, iD ((v4.fOK.length : Int))), (40, iD v11.2), (52, pD (.sl (v17.map eB))), (53, iD ((v17.length : Int))), (54, iD v18.2.2)] [(3, .box [sC (p1.fBase.map Al), sC (p1.fNext.map Al), sC (p1.fHeld.map Bj)]), (7, .box [iC v4.fKind, iC v4.fFrom, iC v4.fTo, .pure (.val (.bool v4.fAware)), sC (v4.fOK.map (E4 eB)), sC (v4.fRewrite.map (E4 eB))]), (2009, .vec 3 (v21.1.map Ad))]) (fun j21 h => ?_) (fun v21 h => ?_)
          ·refine AJ (Ab (Aa Ac rfl (qm rfl ?_)))
           obtain ⟨v22, a22, b22, h⟩ := Ai h
           refine qi G9 Q1 a22 (Af b22) rfl (qk Sn rfl (qa rfl (qa rfl (Ae (Ab (Ab (Aa Ac rfl (qm rfl (qm rfl ?_)))))))))
           obtain ⟨c23, h⟩ := AS h
           refine Hz rfl c23 (KJ rfl (BL rfl (Ae ?_)))
           refine Ap rfl (fun c24 => ?_) (fun c24 => ?_)
           ·have h := An c24 h
            refine AT ?_
            exact As _ h (sm [(2009, 2007)] _ _ rfl rfl)
           ·have h := Ao c24 h
            refine Aq ?_
            refine AO h (fun v25 => mk [(3, oD (.ptr 3 0)), (5, oD (.own 2010)), (6, iD v1.2), (7, oD (.ptr 7 0)), (8, pD (.val (.int .u8 v7))), (9, pD (.val (.int .u8 v6))), (10, iD v11.2), (11, bD v25), (12, iD v18.2.2), (13, bD v22), (15, pD (.sl (p0.fTables.map Ar))), (16, iD ((p0.fTables.length : Int))), (17, iD v1.2), (39, iD ((v4.fOK.length : Int))), (40, iD v11.2), (52, pD (.sl (v17.map eB))), (53, iD ((v17.length : Int))), (54, iD v18.2.2)] [(3, .box [sC (p1.fBase.map Al), sC (p1.fNext.map Al), sC (p1.fHeld.map Bj)]), (7, .box [iC v4.fKind, iC v4.fFrom, iC v4.fTo, .pure (.val (.bool v4.fAware)), sC (v4.fOK.map (E4 eB)), sC (v4.fRewrite.map (E4 eB))]), (2010, .vec 3 (v18.1.map Ad))]) (fun j25 h => ?_) (fun v25 h => ?_)
            ·refine Aa Ac rfl (qm rfl (qm rfl ?_))
             refine AF (t := 65) rfl (fun c26 => ?_) (fun c26 => ?_)
             ·have h := An c26 h
              refine qn rfl (qp rfl (qa rfl (Ae ?_)))
              exact As _ h (sm [(2010, 2007)] _ _ rfl rfl)
             ·have h := Ao c26 h
              refine qm rfl (qp rfl (qa rfl (Ae ?_)))
              exact As _ h (sm [(2010, 2007)] _ _ rfl rfl)
            ·refine AO h (fun v27 => mk [(3, oD (.ptr 3 0)), (5, oD (.own 2011)), (6, iD v1.2), (7, oD (.ptr 7 0)), (8, pD (.val (.int .u8 v7))), (9, pD (.val (.int .u8 v6))), (10, iD v11.2), (11, bD v25), (12, iD v18.2.2), (15, pD (.sl (p0.fTables.map Ar))), (16, iD ((p0.fTables.length : Int))), (17, iD v1.2), (39, iD ((v4.fOK.length : Int))), (40, iD v11.2), (52, pD (.sl (v17.map eB))), (53, iD ((v17.length : Int))), (54, iD v18.2.2), (74, bD v27)] [(3, .box [sC (p1.fBase.map Al), sC (p1.fNext.map Al), sC (p1.fHeld.map Bj)]), (7, .box [iC v4.fKind, iC v4.fFrom, iC v4.fTo, .pure (.val (.bool v4.fAware)), sC (v4.fOK.map (E4 eB)), sC (v4.fRewrite.map (E4 eB))]), (2011, .vec 3 (v18.1.map Ad))]) (fun j27 h => ?_) (fun v27 h => ?_)
             ·refine Aa Ac rfl (qm rfl (BZ rfl (qm rfl ?_)))
              refine AF (t := 70) rfl (fun c28 => ?_) (fun c28 => ?_)
              ·have h := An c28 h
               refine qf Jw rfl (ql Sn rfl (BZ rfl (qp rfl (Ae ?_))))
               exact As _ h (sm [(2011, 2010)] _ _ rfl rfl)
              ·have h := Ao c28 h
               refine qn rfl (qn rfl (qn rfl (qp rfl (Ae ?_))))
               exact As _ h (sm [(2011, 2010)] _ _ rfl rfl)
             ·refine Ap rfl (fun c29 => ?_) (fun c29 => ?_)
              ·have h := An c29 h
               refine Aa Ac rfl (qm rfl (qm rfl (qm rfl (qm rfl (Bw G6 Qc rfl (D8 A4 AU G6 rfl ?_))))))
               obtain ⟨c30, h⟩ := AS h
               refine Dt (f := Ad) A4 A4 AU Nt G6 c30 rfl (qa rfl (Ae ?_))
               exact As _ h (sm [(2009, 81)] _ _ rfl rfl)
              ·have h := Ao c29 h
               refine Aq ?_
               exact As _ h (sm [(2009, 2011)] _ _ rfl rfl)
          ·refine Aa Ac rfl (AP rfl (qm rfl (Ae ?_)))
           exact As _ h (sm [(2007, 2009)] _ _ rfl rfl)
         ·have h := Ao c20 h
          refine AT ?_
          exact As _ h (sm [(2008, 2007)] _ _ rfl rfl)
        ·refine Am hs ?_
         refine AO h (fun v31 => mk [(3, oD (.ptr 3 0)), (5, oD (.own 2012)), (6, iD v1.2), (7, oD (.ptr 7 0)), (8, pD (.val (.int .u8 v7))), (9, pD (.val (.int .u8 v6))), (10, iD v11.2), (15, pD (.sl (p0.fTables.map Ar))), (16, iD ((p0.fTables.length : Int))), (17, iD v1.2), (39, iD ((v4.fOK.length : Int))), (40, iD v11.2), (88, bD v31)] [(3, .box [sC (p1.fBase.map Al), sC (p1.fNext.map Al), sC (p1.fHeld.map Bj)]), (7, .box [iC v4.fKind, iC v4.fFrom, iC v4.fTo, .pure (.val (.bool v4.fAware)), sC (v4.fOK.map (E4 eB)), sC (v4.fRewrite.map (E4 eB))]), (2012, .vec 3 (v19.1.map Ad))]) (fun j31 h => ?_) (fun v31 h => ?_)
         ·refine Aa Ac rfl (qf Jw rfl (ql Sn rfl (qm rfl ?_)))
          refine AF (t := 85) rfl (fun c32 => ?_) (fun c32 => ?_)
          ·have h := An c32 h
           refine qm rfl (BZ rfl (qp rfl (Ae ?_)))
           exact As _ h (sm [(2012, 2008)] _ _ rfl rfl)
          ·have h := Ao c32 h
           refine qn rfl (qn rfl (qp rfl (Ae ?_)))
           exact As _ h (sm [(2012, 2008)] _ _ rfl rfl)
         ·refine Ap rfl (fun c33 => ?_) (fun c33 => ?_)
          ·have h := An c33 h
           refine Aa Ac rfl (qm rfl (qm rfl (qm rfl (Bw G6 Qc rfl (D8 A4 AU G6 rfl ?_)))))
           obtain ⟨c34, h⟩ := AS h
           refine Dt (f := Ad) A4 A4 AU Nt G6 c34 rfl (qa rfl (Ae ?_))
           exact As _ h (sm [(2006, 94)] _ _ rfl rfl)
          ·have h := Ao c33 h
           refine Aq ?_
           exact As _ h (sm [(2006, 2012)] _ _ rfl rfl)
      ·refine Aa Ac rfl (AP rfl (qm rfl (Ae ?_)))
       exact As _ h (sm [(2004, 2006)] _ _ rfl rfl)
     ·have h := Ao c13 h
      refine AT ?_
      exact As _ h (sm [(2005, 2004)] _ _ rfl rfl)
    ·refine Am hs (Aa Ac rfl (AP rfl (qm rfl (Ae ?_))))
     exact As _ h (sm [(2001, 2005)] _ _ rfl rfl)
  ·have h := Ao c3 h
   refine AT ?_
   exact As _ h (sm [(2002, 2001)] _ _ rfl rfl)
 ·refine Am hs (Ab (Aa Ac rfl (qm rfl (qa rfl (Ae ?_)))))
  obtain rfl := sj h
  refine Am (sm [(1000, 2002)] [(4, oD (.own 1000))] [(1000, .vec 3 (v2.map Ad))] rfl rfl) (Az ?_)
  exact ⟨⟨[_], ⟨.tmp _ _ rfl, tv⟩, rfl⟩, ⟨rfl, tv⟩⟩
theorem Nq (N : Nat) (p0 : Ak) (p1 : Ah) (r : Ah × Ag × Int) (h : GI N p0 p1 = some r) : AC Tryz.prog 55 [.e (.agg [sC (p0.fVersions.map Al), sC (p0.fNow.map Al), sC (p0.fTarget.map Al), sC (p0.fTables.map Ar)]), .e (.agg [sC (p1.fBase.map Al), sC (p1.fNext.map Al), sC (p1.fHeld.map Bj)])] [] (.tup [.agg [sC (r.1.fBase.map Al), sC (r.1.fNext.map Al), sC (r.1.fHeld.map Bj)], .agg [iC r.2.1.fTable, iC r.2.1.fWriter, iC r.2.1.fReader], .one (iC r.2.2)]) := by
 unfold GI at h
 refine Au (n := 42) (rs := [.cell 4 46, .cell 5 66, .tmp 6]) Tryz.func55 rfl rfl rfl (A7 rfl) (A7 rfl) rfl fun w0 S0 => ?_
 refine Ab (Aa Ac rfl (qb rfl (qb rfl (qz CI rfl (qz G6 rfl (qa rfl (Ae (Ab (Aa Ac rfl (qL DO Dv rfl (qL A9 AA rfl ?_)))))))))))
 obtain ⟨v1, a1, h⟩ := bind_some h
 refine AG [2001] (P3 N p0 p1 v1 a1) aE rfl (qm rfl (qx rfl (qx rfl (qa rfl (qa rfl (Ae (Ab (Ab (Aa Ac rfl (qm rfl (B3 rfl (Ae ?_))))))))))))
 refine Ap rfl (fun c2 => ?_) (fun c2 => ?_)
 ·have h := An c2 h
  refine Ab (Aa Ac rfl (Bw CI G5 rfl (Bw G6 Qc rfl (qm rfl (qs AA rfl (qs AU rfl (qa rfl (Ae ?_))))))))
  obtain rfl := sj h
  refine Am ((K9 4 _ rfl).trans (sm [] [(4, oD (.ptr 4 0)), (5, oD (.ptr 5 0)), (6, iD v1.2)] [(4, .box [sC ((([] : List Int)).map Al), sC ((([] : List Int)).map Al), sC ((([] : List Int)).map Bj)]), (5, .box [iC 0, iC 0, iC 0])] rfl rfl)) (Az ?_)
  exact ⟨⟨[_, _, _], ⟨.cellN _ _ _ _ _ _ _ rfl rfl A9 AA rfl rfl (IM rfl), ⟨.cellN _ _ _ _ _ _ _ rfl rfl CP AU rfl rfl (IM rfl), ⟨.tmp _ _ rfl, tv⟩⟩⟩, rfl⟩, tv⟩
 ·have h := Ao c2 h
  refine Aq (Ab (Ab (Aa Ac rfl (qm rfl (Ex A3 rfl (qm rfl (Ae ?_)))))))
  refine AE (L := EQ N p0 v1) h (fun v3 => mk [(2, oD (.ptr 2 0)), (4, oD (.ptr 4 0)), (5, oD (.ptr 5 0)), (23, oD (.own 2002)), (24, iD ((v1.1.length : Int))), (25, iD v3)] [(2, .box [sC (p0.fVersions.map Al), sC (p0.fNow.map Al), sC (p0.fTarget.map Al), sC (p0.fTables.map Ar)]), (4, .box [.pure (.nil0), .pure (.nil0), .pure (.nil0)]), (5, .box [iC 0, iC 0, iC 0]), (2002, .vec 3 (v1.1.map Aj))]) (fun v4 => mk [(4, oD (.ptr 4 0)), (5, oD (.ptr 5 0))] [(4, .box [.pure (.nil0), .pure (.nil0), .pure (.nil0)]), (5, .box [iC 0, iC 0, iC 0])]) (fun _ _ => rfl) (sm [(2002, 2001)] _ _ rfl rfl) (fun j3 n3 v3 h => ?_) (fun v4 s h hs => ?_)
  ·unfold EQ at h
   refine Ab (Aa Ac rfl (AV rfl (Ae (Ab ?_))))
   refine Ap rfl (fun c5 => ?_) (fun c5 => ?_)
   ·have h := An c5 h
    refine Aq (Ab (AJ (Ab (Aa Ac rfl ?_))))
    obtain ⟨v6, a6, b6, h⟩ := Ai h
    refine qI A3 AA a6 (Af b6) rfl (qJ A9 AA (Af b6) rfl (qz CI rfl (qs AA rfl (Ae (Ab (Aa Ac rfl (qL DO Dv rfl (qL A9 AA rfl ?_))))))))
    obtain ⟨v7, a7, h⟩ := bind_some h
    refine AG [2003] (NF N p0 v6 v7 a7) Zf rfl (qa rfl (Ae (Ab (Aa Ac rfl (qm rfl (Ex A4 rfl (Ey rfl (Ae ?_))))))))
    refine Ap rfl (fun c8 => ?_) (fun c8 => ?_)
    ·have h := An c8 h
     refine Ab (Aa Ac rfl (qL A9 AA rfl (qm rfl ?_)))
     obtain ⟨v9, a9, b9, h⟩ := Ai h
     refine qI A4 AU a9 (Af b9) rfl (qJ CP AU (Af b9) rfl (qs AA rfl (qs AU rfl (qa rfl (AB (by kernel_rfl) ?_)))))
     obtain rfl := sj h
     refine Am (sm [] [(4, oD (.ptr 4 0)), (5, oD (.ptr 5 0)), (6, iD 0)] [(4, .box [sC (v6.fBase.map Al), sC (v6.fNext.map Al), sC (v6.fHeld.map Bj)]), (5, .box [iC v9.fTable, iC v9.fWriter, iC v9.fReader])] rfl rfl) (Az ?_)
     exact ⟨⟨[_, _, _], ⟨.cellN _ _ _ _ _ _ _ rfl rfl A9 AA rfl rfl (IM rfl), ⟨.cellN _ _ _ _ _ _ _ rfl rfl CP AU rfl rfl (IM rfl), ⟨.tmp _ _ rfl, tv⟩⟩⟩, rfl⟩, tv⟩
    ·have h := Ao c8 h
     refine Aq (Aa Ac rfl (AP rfl (qm rfl (Ae ?_))))
     exact As _ h (sm [] _ _ rfl rfl)
   ·have h := Ao c5 h
    refine AT ?_
    exact As _ h (sm [] _ _ rfl rfl)
  ·refine Am hs (Ab (Aa Ac rfl (Bw CI G5 rfl (Bw G6 Qc rfl (qs AA rfl (qs AU rfl (qa rfl (Ae ?_))))))))
   obtain rfl := sj h
   refine Am ((K9 4 _ rfl).trans (sm [] [(4, oD (.ptr 4 0)), (5, oD (.ptr 5 0)), (6, iD 15)] [(4, .box [sC ((([] : List Int)).map Al), sC ((([] : List Int)).map Al), sC ((([] : List Int)).map Bj)]), (5, .box [iC 0, iC 0, iC 0])] rfl rfl)) (Az ?_)
   exact ⟨⟨[_, _, _], ⟨.cellN _ _ _ _ _ _ _ rfl rfl A9 AA rfl rfl (IM rfl), ⟨.cellN _ _ _ _ _ _ _ rfl rfl CP AU rfl rfl (IM rfl), ⟨.tmp _ _ rfl, tv⟩⟩⟩, rfl⟩, tv⟩
theorem HO (N : Nat) (p0 : Ak) (p1 : Ah) (r : Bool × Int) (h : Fy N p0 p1 = some r) : AC Tryz.prog 45 [.e (.agg [sC (p0.fVersions.map Al), sC (p0.fNow.map Al), sC (p0.fTarget.map Al), sC (p0.fTables.map Ar)]), .e (.agg [sC (p1.fBase.map Al), sC (p1.fNext.map Al), sC (p1.fHeld.map Bj)])] [] (.tup [.one (.pure (.val (.bool r.1))), .one (iC r.2)]) := by
 unfold Fy at h
 refine Au (n := 22) (rs := [.tmp 4, .tmp 5]) Tryz.func45 rfl rfl rfl (A7 rfl) (A7 rfl) rfl fun w0 S0 => ?_
 refine Ab (Aa Ac rfl (qb rfl (qb rfl (qa rfl (qa rfl (Ae (Ab (Aa Ac rfl (qL DO Dv rfl (qL A9 AA rfl ?_))))))))))
 obtain ⟨v1, a1, h⟩ := bind_some h
 refine AG [] (Nq N p0 p1 v1 a1) YI rfl (qm rfl (qx rfl (qx rfl (qx rfl (qz CI rfl (qz G6 rfl (qs AA rfl (qs AU rfl (qa rfl (Ae (Ab (Aa Ac rfl (qm rfl (Ae (AJ (Ab (Aa Ac rfl (BL rfl (qa rfl (Ae ?_))))))))))))))))))))
 refine Ap rfl (fun c2 => ?_) (fun c2 => ?_)
 ·have h := An c2 h
  refine Ab (Aa Ac rfl (qa rfl (qa rfl (Ae ?_))))
  obtain rfl := sj h
  refine Am (sm [] [(4, bD false), (5, iD 0)] [] rfl rfl) (Az ?_)
  exact ⟨⟨[_, _], ⟨.tmp _ _ rfl, ⟨.tmp _ _ rfl, tv⟩⟩, rfl⟩, tv⟩
 ·have h := Ao c2 h
  refine Ab (Aa Ac rfl (BL rfl (qa rfl (Ae ?_))))
  refine Ap rfl (fun c3 => ?_) (fun c3 => ?_)
  ·have h := An c3 h
   refine Ab (Aa Ac rfl (qa rfl (qa rfl (Ae ?_))))
   obtain rfl := sj h
   refine Am (sm [] [(4, bD true), (5, iD 0)] [] rfl rfl) (Az ?_)
   exact ⟨⟨[_, _], ⟨.tmp _ _ rfl, ⟨.tmp _ _ rfl, tv⟩⟩, rfl⟩, tv⟩
  ·have h := Ao c3 h
   refine Ab (Aa Ac rfl (qm rfl (qa rfl (qa rfl (Ae ?_)))))
   obtain rfl := sj h
   refine Am (sm [] [(4, bD false), (5, iD v1.2.2)] [] rfl rfl) (Az ?_)
   exact ⟨⟨[_, _], ⟨.tmp _ _ rfl, ⟨.tmp _ _ rfl, tv⟩⟩, rfl⟩, tv⟩
theorem OZ (N : Nat) (p0 : Ak) (r : Ah × Bool × Int) (h : I3 N p0 = some r) : AC Tryz.prog 83 [.e (.agg [sC (p0.fVersions.map Al), sC (p0.fNow.map Al), sC (p0.fTarget.map Al), sC (p0.fTables.map Ar)])] [(1, r.1.fBase.map Al), (1, r.1.fNext.map Al), (1, r.1.fHeld.map Bj)] (.tup [.agg [.own 0, .own 1, .own 2], .one (.pure (.val (.bool r.2.1))), .one (iC r.2.2)]) := by
 unfold I3 at h
 refine Au (n := 26) (rs := [.cell 2 46, .tmp 3, .tmp 4]) Tryz.func83 rfl rfl rfl (A7 rfl) (A7 rfl) rfl fun w0 S0 => ?_
 refine Ab (Aa Ac rfl (qb rfl (qz CI rfl (qa rfl (qa rfl (Ae (Ab (Aa Ac rfl (qL DO Dv rfl ?_)))))))))
 obtain ⟨v1, a1, h⟩ := bind_some h
 refine AG [2001, 2002, 2003] (Nh N p0 v1 a1) Yq rfl (qm rfl (qx rfl (qx rfl (qz CI rfl (qs AA rfl (qa rfl (Ae (Ab (Ab (Aa Ac rfl (qm rfl (B3 rfl (Ae ?_)))))))))))))
 refine Ap rfl (fun c2 => ?_) (fun c2 => ?_)
 ·have h := An c2 h
  refine Ab (Aa Ac rfl (Bw CI G5 rfl (qm rfl (qs AA rfl (qa rfl (qa rfl (Ae ?_)))))))
  obtain rfl := sj h
  refine Am ((AI 2 0 2004 1 _ rfl rfl rfl rfl).trans ((AI 2 1 2005 1 _ rfl rfl rfl rfl).trans ((AI 2 2 2006 1 _ rfl rfl rfl rfl).trans (sm [(1000, 2004), (1001, 2005), (1002, 2006)] [(2, oD (.ptr 2 0)), (3, bD false), (4, iD v1.2)] [(2, .box [.own 1000, .own 1001, .own 1002]), (1000, .vec 1 ((([] : List Int)).map Al)), (1001, .vec 1 ((([] : List Int)).map Al)), (1002, .vec 1 ((([] : List Int)).map Bj))] rfl rfl)))) (Az ?_)
  exact ⟨⟨[_, _, _], ⟨.cellN _ _ _ _ _ _ _ rfl rfl A9 AA rfl rfl (IM rfl), ⟨.tmp _ _ rfl, ⟨.tmp _ _ rfl, tv⟩⟩⟩, rfl⟩, ⟨rfl, rfl, rfl, tv⟩⟩
 ·have h := Ao c2 h
  refine Aq (Ab (Aa Ac rfl (qL DO Dv rfl (qL A9 AA rfl ?_))))
  obtain ⟨v3, a3, h⟩ := bind_some h
  refine DC [] [2001, 2002, 2003] (HO N p0 v1.1 v3 a3) UQ Cj rfl (qm rfl (qx rfl (qx rfl (qa rfl (qa rfl (Ae (Ab (Aa Ac rfl (qL A9 AA rfl (qm rfl (qm rfl (qs AA rfl (qa rfl (qa rfl (Ae ?_)))))))))))))))
  obtain rfl := sj h
  refine Am (sm [(1000, 2001), (1001, 2002), (1002, 2003)] [(2, oD (.ptr 2 0)), (3, bD v3.1), (4, iD v3.2)] [(2, .box [.own 1000, .own 1001, .own 1002]), (1000, .vec 1 (v1.1.fBase.map Al)), (1001, .vec 1 (v1.1.fNext.map Al)), (1002, .vec 1 (v1.1.fHeld.map Bj))] rfl rfl) (Az ?_)
  exact ⟨⟨[_, _, _], ⟨.cellN _ _ _ _ _ _ _ rfl rfl A9 AA rfl rfl (IM rfl), ⟨.tmp _ _ rfl, ⟨.tmp _ _ rfl, tv⟩⟩⟩, rfl⟩, ⟨rfl, rfl, rfl, tv⟩⟩
theorem K5 (N : Nat) (p0 : Ah) (r : ByteArray) (h : HQ N p0 = some r) : AC Tryz.prog 84 [.e (.agg [sC (p0.fBase.map Al), sC (p0.fNext.map Al), sC (p0.fHeld.map Bj)])] [] (pD (.val (.string r))) := by
 unfold HQ at h
 refine Au (n := 44) (rs := [.tmp 2]) Tryz.func84 rfl rfl rfl (A7 rfl) (A7 rfl) rfl fun w0 S0 => ?_
 refine Ab (Aa Ac rfl (qb rfl (qa rfl (Ae (Ab (Aa Ac rfl (qa rfl (Ae (Ab (Ab (Aa Ac rfl (qf CY rfl (ql Bu rfl (AX AM rfl (qm rfl (Ae ?_))))))))))))))))
 refine AE (L := Hk N p0) h (fun v1 => mk [(1, oD (.ptr 1 0)), (3, oD (.own 2001)), (9, iD ((p0.fBase.length : Int))), (10, iD v1.2)] [(1, .box [sC (p0.fBase.map Al), sC (p0.fNext.map Al), sC (p0.fHeld.map Bj)]), (2001, .vec 1 (v1.1.map Bj))]) (fun v2 => mk [(1, oD (.ptr 1 0)), (3, oD (.own 2002))] [(1, .box [sC (p0.fBase.map Al), sC (p0.fNext.map Al), sC (p0.fHeld.map Bj)]), (2002, .vec 1 (v2.map Bj))]) (fun _ _ => rfl) ((Br 3 2003 1 rfl rfl rfl).trans (sm [(2001, 2003)] _ _ rfl rfl)) (fun j1 n1 v1 h => ?_) (fun v2 s h hs => ?_)
 ·unfold Hk at h
  refine Ab (Aa Ac rfl (AV rfl (Ae (Ab ?_))))
  refine Ap rfl (fun c3 => ?_) (fun c3 => ?_)
  ·have h := An c3 h
   refine Aq (Ab (AJ (Ab (Aa Ac rfl (qm rfl (qa rfl (Ae (Aa Ac rfl (qm rfl (qf CY rfl (ql Bu rfl (qm rfl ?_))))))))))))
   obtain ⟨v4, a4, b4, h⟩ := Ai h
   refine qi AM Dw a4 (Af b4) rfl (qk B6 rfl (Gq T1 ZB rfl (qf BJ rfl (ql Bu rfl (qm rfl ?_)))))
   obtain ⟨v5, a5, b5, h⟩ := Ai h
   refine qi AM Dw a5 (Af b5) rfl (qk B6 rfl (AP rfl (Gq T1 ZB rfl (D8 JS XF ZI rfl ?_))))
   obtain ⟨c6, h⟩ := AS h
   refine Dt (f := Bj) JS JS XF Yo ZI c6 rfl (qa rfl (AB (by kernel_rfl) (Aa Ac rfl (AP rfl (qm rfl (Ae ?_))))))
   exact As _ h (sm [(2001, 28)] _ _ rfl rfl)
  ·have h := Ao c3 h
   refine AT ?_
   exact As _ h (sm [(2002, 2001)] _ _ rfl rfl)
 ·refine Am hs (Ab (Ab (Aa Ac rfl (qf CS rfl (ql G4 rfl (AX Dg rfl (qm rfl (Ae ?_))))))))
  refine AE (L := Hl N p0) h (fun v7 => mk [(3, oD (.own 2004)), (31, pD (.sl (p0.fHeld.map Bj))), (32, iD ((p0.fHeld.length : Int))), (33, iD v7.2)] [(2004, .vec 1 (v7.1.map Bj))]) (fun v8 => mk [(3, oD (.own 2005))] [(2005, .vec 1 (v8.map Bj))]) (fun _ _ => rfl) (sm [(2004, 2002)] _ _ rfl rfl) (fun j7 n7 v7 h => ?_) (fun v8 s h hs => ?_)
  ·unfold Hl at h
   refine Ab (Aa Ac rfl (AV rfl (Ae (Ab ?_))))
   refine Ap rfl (fun c9 => ?_) (fun c9 => ?_)
   ·have h := An c9 h
    refine Aq (Ab (AJ (Ab (Aa Ac rfl ?_))))
    obtain ⟨v10, a10, b10, h⟩ := Ai h
    refine qi Dg FN a10 (Af b10) rfl (qk Kq rfl (qa rfl (Ae (Aa Ac rfl (qm rfl (qm rfl (D8 JS XF ZI rfl ?_)))))))
    obtain ⟨c11, h⟩ := AS h
    refine Dt (f := Bj) JS JS XF Yo ZI c11 rfl (qa rfl (Ae (Aa Ac rfl (AP rfl (qm rfl (Ae ?_))))))
    exact As _ h (sm [(2004, 40)] _ _ rfl rfl)
   ·have h := Ao c9 h
    refine AT ?_
    exact As _ h (sm [(2005, 2004)] _ _ rfl rfl)
  ·refine Am hs (Ab (Aa Ac rfl (qm rfl ?_)))
   refine T0 v8 (.p rfl) rfl (TY Bj _ _ _) ⟨rfl, tv⟩ rfl X7 Wb ?_
   refine qa rfl (Ae ?_)
   obtain rfl := sj h
   refine Am (sm [] [(2, pD (.val (.string ((JA v8)))))] [] rfl rfl) (Az ?_)
   exact ⟨⟨[_], ⟨.tmp _ _ rfl, tv⟩, rfl⟩, tv⟩
end Go.Lift
