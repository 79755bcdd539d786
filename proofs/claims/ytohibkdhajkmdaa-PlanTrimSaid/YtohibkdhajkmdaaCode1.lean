/- Lemmas for PlanTrimSaid, which YtohibkdhajkmdaaFinP9 proves. -/
import Derived.Test.YtohibkdhajkmdaaTypes
import Derived.Test.YtohibkdhajkmdaaProg
import Derived.KernelRfl
/- The shallow programs. Written by a program (gen.py) out of the code. -/
namespace Go.Lift
def Dc (_ : Nat) (p0 : List Int) (p1 : Int) : Option Int :=
 AY ((decide (p1 < (p0.length : Int))))
  ((BT p0 p1).bind fun v2 =>
  some ((IntKind.wrap .i64 v2)))
  (some 0)
def AZ (_ : Nat) (p0 : AC) : Option Bool :=
 Bj (fun (v1 : Bool) =>
  some v1)
 fun j1 =>
 AY ((p0.fKind == 3))
  (j1 true)
  (j1 (p0.fKind == 4))
def BV (N : Nat) (p1 : Int) (p2 : Int) (p3 : Bool) (v1 : (List (List Bool)) × Int) (j4 : ((List Bool)) → Option ((List (List Bool)))) : Nat → ((List Bool) × Int) → Option ((List (List Bool)))
 | 0, _ => none
 | n4 + 1, v4 =>
  AY ((decide (v4.2 < p1)))
   (Bj (fun (v7 : (List Bool)) =>
    BV N p1 p2 p3 v1 j4 n4 (v7, (IntKind.wrap .i64 (v4.2 + 1))))
   fun j7 =>
   AY p3
    (AY ((v1.2 == v4.2))
     ((DK (v4.1.length + (([true] : List Bool)).length ≤ Dj)).bind fun _ =>
     j7 (v4.1 ++ (([true] : List Bool))))
     ((DK (0 ≤ (IntKind.wrap .i64 ((IntKind.wrap .i64 (3 * v1.2)) + v4.2)))).bind fun _ =>
     (DK (v4.1.length + (([((Int.tmod ((Ew .u16 p2 ((IntKind.wrap .i64 ((IntKind.wrap .i64 (3 * v1.2)) + v4.2))))) 2) == 0)] : List Bool)).length ≤ Dj)).bind fun _ =>
     j7 (v4.1 ++ (([((Int.tmod ((Ew .u16 p2 ((IntKind.wrap .i64 ((IntKind.wrap .i64 (3 * v1.2)) + v4.2))))) 2) == 0)] : List Bool)))))
    ((DK (0 ≤ (IntKind.wrap .i64 ((IntKind.wrap .i64 (3 * v1.2)) + v4.2)))).bind fun _ =>
    (DK (v4.1.length + (([((Int.tmod ((Ew .u16 p2 ((IntKind.wrap .i64 ((IntKind.wrap .i64 (3 * v1.2)) + v4.2))))) 2) == 0)] : List Bool)).length ≤ Dj)).bind fun _ =>
    j7 (v4.1 ++ (([((Int.tmod ((Ew .u16 p2 ((IntKind.wrap .i64 ((IntKind.wrap .i64 (3 * v1.2)) + v4.2))))) 2) == 0)] : List Bool)))))
   (j4 v4.1)
def BX (N : Nat) (p0 : Int) (p1 : Int) (p2 : Int) (p3 : Bool) (j1 : ((List (List Bool))) → Option ((List (List Bool)))) : Nat → ((List (List Bool)) × Int) → Option ((List (List Bool)))
 | 0, _ => none
 | n1 + 1, v1 =>
  AY ((decide (v1.2 < p0)))
   (BV N p1 p2 p3 v1 (fun (v5 : (List Bool)) =>
    (DK (v1.1.length + (([v5] : List (List Bool))).length ≤ Dj)).bind fun _ =>
    BX N p0 p1 p2 p3 j1 n1 (v1.1 ++ (([v5] : List (List Bool))), (IntKind.wrap .i64 (v1.2 + 1)))) N (([] : List Bool), 0))
   (j1 v1.1)
def Dd (N : Nat) (p0 : Int) (p1 : Int) (p2 : Int) (p3 : Bool) : Option ((List (List Bool))) :=
 BX N p0 p1 p2 p3 (fun (v2 : (List (List Bool))) =>
  some v2) N (([] : List (List Bool)), 0)
def Cc (N : Nat) (p0 : Ca) (j4 : ((List Int) × (List Int) × (List Int)) → Option (Ae × Bool)) : Nat → ((List Int) × (List Int) × (List Int) × Int) → Option (Ae × Bool)
 | 0, _ => none
 | n4 + 1, v4 =>
  AY ((decide (v4.2.2.2 < (p0.fVersions.length : Int))))
   ((BT p0.fVersions v4.2.2.2).bind fun v7 =>
   (DK (v4.1.length + (([(IntKind.wrap .i64 (1 + (IntKind.wrap .i64 ((Int.tmod v7 3)))))] : List Int)).length ≤ Dj)).bind fun _ =>
   (Dc N p0.fNow v4.2.2.2).bind fun v9 =>
   (DK ((IntKind.wrap .i64 (1 + (IntKind.wrap .i64 ((Int.tmod v7 3))))) ≠ 0)).bind fun _ =>
   (DK (v4.2.1.length + (([(Int.tmod v9 ((IntKind.wrap .i64 (1 + (IntKind.wrap .i64 ((Int.tmod v7 3)))))))] : List Int)).length ≤ Dj)).bind fun _ =>
   (Dc N p0.fTarget v4.2.2.2).bind fun v12 =>
   (DK ((IntKind.wrap .i64 (1 + (IntKind.wrap .i64 ((Int.tmod v7 3))))) ≠ 0)).bind fun _ =>
   (DK (v4.2.2.1.length + (([(Int.tmod v12 ((IntKind.wrap .i64 (1 + (IntKind.wrap .i64 ((Int.tmod v7 3)))))))] : List Int)).length ≤ Dj)).bind fun _ =>
   Cc N p0 j4 n4 (v4.1 ++ (([(IntKind.wrap .i64 (1 + (IntKind.wrap .i64 ((Int.tmod v7 3)))))] : List Int)), v4.2.1 ++ (([(Int.tmod v9 ((IntKind.wrap .i64 (1 + (IntKind.wrap .i64 ((Int.tmod v7 3)))))))] : List Int)), v4.2.2.1 ++ (([(Int.tmod v12 ((IntKind.wrap .i64 (1 + (IntKind.wrap .i64 ((Int.tmod v7 3)))))))] : List Int)), (IntKind.wrap .i64 (v4.2.2.2 + 1))))
   (j4 (v4.1, v4.2.1, v4.2.2.1))
def Bh (N : Nat) (p0 : Ca) (v5 : (List Int) × (List Int) × (List Int)) (j15 : ((List AC)) → Option (Ae × Bool)) : Nat → ((List AC) × Int) → Option (Ae × Bool)
 | 0, _ => none
 | n15 + 1, v15 =>
  Bj (fun (v17 : Bool) =>
   AY v17
    ((BT p0.fLinks v15.2).bind fun v20 =>
    (DK ((v5.1.length : Int) ≠ 0)).bind fun _ =>
    (DK ((v5.1.length : Int) ≠ 0)).bind fun _ =>
    Bj (fun (v23 : Bool) =>
     (BT v5.1 ((Int.tmod ((IntKind.wrap .i64 v20.fFrom)) ((v5.1.length : Int))))).bind fun v26 =>
     (BT v5.1 ((Int.tmod ((IntKind.wrap .i64 v20.fTo)) ((v5.1.length : Int))))).bind fun v27 =>
     (Dd N v26 v27 v20.fBad false).bind fun v28 =>
     Bj (fun (v29 : (List (List Bool))) =>
      (DK (v15.1.length + (([(AC.mk ((IntKind.wrap .i64 (1 + (IntKind.wrap .i64 ((Int.tmod v20.fKind 4)))))) ((Int.tmod ((IntKind.wrap .i64 v20.fFrom)) ((v5.1.length : Int)))) ((Int.tmod ((IntKind.wrap .i64 v20.fTo)) ((v5.1.length : Int)))) v23 v28 v29)] : List AC)).length ≤ Dj)).bind fun _ =>
      Bh N p0 v5 j15 n15 (v15.1 ++ (([(AC.mk ((IntKind.wrap .i64 (1 + (IntKind.wrap .i64 ((Int.tmod v20.fKind 4)))))) ((Int.tmod ((IntKind.wrap .i64 v20.fFrom)) ((v5.1.length : Int)))) ((Int.tmod ((IntKind.wrap .i64 v20.fTo)) ((v5.1.length : Int)))) v23 v28 v29)] : List AC)), (IntKind.wrap .i64 (v15.2 + 1))))
     fun j29 =>
     AY (((IntKind.wrap .i64 (1 + (IntKind.wrap .i64 ((Int.tmod v20.fKind 4))))) == 4))
      ((BT v5.1 ((Int.tmod ((IntKind.wrap .i64 v20.fFrom)) ((v5.1.length : Int))))).bind fun v31 =>
      (BT v5.1 ((Int.tmod ((IntKind.wrap .i64 v20.fFrom)) ((v5.1.length : Int))))).bind fun v32 =>
      (Dd N v31 v32 v20.fLost true).bind fun v33 =>
      j29 v33)
      (j29 ([] : List (List Bool))))
    fun j23 =>
    AY v20.fAware
     ((AZ N ((AC.mk ((IntKind.wrap .i64 (1 + (IntKind.wrap .i64 ((Int.tmod v20.fKind 4)))))) ((Int.tmod ((IntKind.wrap .i64 v20.fFrom)) ((v5.1.length : Int)))) ((Int.tmod ((IntKind.wrap .i64 v20.fTo)) ((v5.1.length : Int)))) false (([] : List (List Bool))) (([] : List (List Bool)))))).bind fun v25 =>
     j23 (!v25))
     (j23 false))
    (j15 v15.1))
  fun j17 =>
  AY ((decide (v15.2 < (p0.fLinks.length : Int))))
   (j17 (decide (0 < (v5.1.length : Int))))
   (j17 false)
def Ej (N : Nat) (p0 : Ca) : Option (Ae × Bool) :=
 Bj (fun (v1 : Bool) =>
  AY v1
   (some ((Ae.mk (([] : List Int)) (([] : List Int)) (([] : List Int)) (([] : List AC))), false))
   (Cc N p0 (fun (v5 : (List Int) × (List Int) × (List Int)) =>
    Bh N p0 v5 (fun (v16 : (List AC)) =>
     some ((Ae.mk v5.1 v5.2.1 v5.2.2 v16), true)) N (([] : List AC), 0)) N (([] : List Int), ([] : List Int), ([] : List Int), 0)))
 fun j1 =>
 AY ((decide (3 < (p0.fVersions.length : Int))))
  (j1 true)
  (j1 (decide (4 < (p0.fLinks.length : Int))))
def Cd (_ : Nat) (p0 : Bool) (p1 : Bool) : Option Ae :=
 some ((Ae.mk (([2, 2] : List Int)) (([0, 0] : List Int)) (([1, 1] : List Int)) (([(AC.mk 1 0 1 p1 (([([true, (!p0)] : List Bool), ([false, true] : List Bool)] : List (List Bool))) (([] : List (List Bool))))] : List AC))))
def Dl (_ : Nat) (p0 : Int) (p1 : Int) : Option Bool :=
 Bj (fun (v1 : Bool) =>
  some v1)
 fun j1 =>
 AY ((decide (0 ≤ p0)))
  (j1 (decide (p0 < p1)))
  (j1 false)
def Fs (_ : Nat) (p0 : Int) (p1 : Bool) : Option Bool :=
 Bj (fun (v1 : Bool) =>
  some v1)
 fun j1 =>
 AY ((p0 == 1))
  (j1 true)
  (AY ((p0 == 2))
   (j1 true)
   (AY ((p0 == 3))
    (j1 (!p1))
    (AY ((p0 == 4))
     (j1 (!p1))
     (j1 false))))
def C7 (_ : Nat) (p0 : List Bool) (p1 : Int) : Option Bool :=
 some (((p0.length : Int) != p1))
def Be (N : Nat) (p0 : List (List Bool)) (p1 : (List Bool) → Option Bool) (j1 : Unit → Option Int) : Nat → Int → Option Int
 | 0, _ => none
 | n1 + 1, v1 =>
  AY ((decide (v1 < (p0.length : Int))))
   ((BT p0 v1).bind fun v4 =>
   (p1 v4).bind fun v5 =>
   AY v5
    (some v1)
    (Be N p0 p1 j1 n1 (IntKind.wrap .i64 (v1 + 1))))
   (j1 ())
def CK (N : Nat) (p0 : List (List Bool)) (p1 : (List Bool) → Option Bool) : Option Int :=
 Be N p0 p1 (fun (_ : Unit) =>
  some ((-1))) N 0
def Cm (N : Nat) (p0 : List (List Bool)) (p1 : (List Bool) → Option Bool) : Option Bool :=
 (CK N p0 p1).bind fun v1 =>
 some ((decide (0 ≤ v1)))
def Ec (N : Nat) (p0 : List (List Bool)) (p1 : Int) (p2 : Int) : Option Bool :=
 Bj (fun (v1 : Bool) =>
  some v1)
 fun j1 =>
 AY (((p0.length : Int) == p1))
  ((Cm N p0 ((fun (x : List Bool) => C7 N x p2))).bind fun v3 =>
  j1 (!v3))
  (j1 false)
def CA (N : Nat) (p1 : AC) (j19 : Unit → Option Int) : Nat → Int → Option Int
 | 0, _ => none
 | n19 + 1, v19 =>
  AY ((decide (v19 < (p1.fRewrite.length : Int))))
   ((BT p1.fRewrite v19).bind fun v22 =>
   (BT v22 v19).bind fun v23 =>
   AY ((!v23))
    (some 1)
    (CA N p1 j19 n19 (IntKind.wrap .i64 (v19 + 1))))
   (j19 ())
def E2 (N : Nat) (p0 : Ae) (p1 : AC) : Option Int :=
 (Fs N p1.fKind p1.fAware).bind fun v1 =>
 AY ((!v1))
  (some 1)
  (Bj (fun (v3 : Bool) =>
   AY v3
    (some 4)
    ((BT p0.fVersions p1.fFrom).bind fun v8 =>
    Bj (fun (v9 : Bool) =>
     AY v9
      (some 6)
      (CA N p1 (fun (_ : Unit) =>
       some 0) N 0))
    fun j9 =>
    (BT p0.fVersions p1.fTo).bind fun v10 =>
    (Ec N p1.fOK v8 v10).bind fun v11 =>
    AY ((!v11))
     (j9 true)
     (AY ((p1.fKind == 4))
      ((Ec N p1.fRewrite v8 v8).bind fun v14 =>
      AY ((!v14))
       (j9 true)
       (AY ((!((p1.fKind == 4))))
        (j9 (decide (0 < (p1.fRewrite.length : Int))))
        (j9 false)))
      (AY ((!((p1.fKind == 4))))
       (j9 (decide (0 < (p1.fRewrite.length : Int))))
       (j9 false)))))
  fun j3 =>
  (Dl N p1.fFrom ((p0.fVersions.length : Int))).bind fun v4 =>
  AY ((!v4))
   (j3 true)
   ((Dl N p1.fTo ((p0.fVersions.length : Int))).bind fun v6 =>
   j3 (!v6)))
def BH (N : Nat) (p0 : Ae) (j7 : Unit → Option Int) : Nat → Int → Option Int
 | 0, _ => none
 | n7 + 1, v7 =>
  AY ((decide (v7 < (p0.fVersions.length : Int))))
   ((BT p0.fVersions v7).bind fun v10 =>
   Bj (fun (v11 : Bool) =>
    AY v11
     (some 7)
     (BH N p0 j7 n7 (IntKind.wrap .i64 (v7 + 1))))
   fun j11 =>
   AY ((decide (v10 < 1)))
    (j11 true)
    (AY ((decide (6 < v10)))
     (j11 true)
     ((BT p0.fNow v7).bind fun v14 =>
     (Dl N v14 v10).bind fun v15 =>
     AY ((!v15))
      (j11 true)
      ((BT p0.fTarget v7).bind fun v17 =>
      (Dl N v17 v10).bind fun v18 =>
      j11 (!v18)))))
   (j7 ())
def Bx (N : Nat) (p0 : Ae) (j20 : Unit → Option Int) : Nat → Int → Option Int
 | 0, _ => none
 | n20 + 1, v20 =>
  AY ((decide (v20 < (p0.fTables.length : Int))))
   ((BT p0.fTables v20).bind fun v23 =>
   (E2 N p0 v23).bind fun v24 =>
   AY ((v24 != 0))
    (some v24)
    (Bx N p0 j20 n20 (IntKind.wrap .i64 (v20 + 1))))
   (j20 ())
def Cj (N : Nat) (p0 : Ae) : Option Int :=
 Bj (fun (v1 : Bool) =>
  AY v1
   (some 3)
   (Bj (fun (v4 : Bool) =>
    AY v4
     (some 6)
     (BH N p0 (fun (_ : Unit) =>
      Bx N p0 (fun (_ : Unit) =>
       some 0) N 0) N 0))
   fun j4 =>
   AY (((p0.fNow.length : Int) != (p0.fVersions.length : Int)))
    (j4 true)
    (j4 ((p0.fTarget.length : Int) != (p0.fVersions.length : Int)))))
 fun j1 =>
 AY ((decide (6 < (p0.fVersions.length : Int))))
  (j1 true)
  (j1 (decide (12 < (p0.fTables.length : Int))))
def Bv (_ : Nat) (p0 : List Int) : Option ((List Int)) :=
 (DK ((([] : List Int)).length + p0.length ≤ Dj)).bind fun _ =>
 some ((([] : List Int)) ++ p0)
def FK (_ : Nat) (p0 : Int) (p1 : Int) : Option (Int × Int) :=
 some ((IntKind.wrap .u32 ((Ew .u64 ((IntKind.wrap .u64 ((IntKind.wrap .u64 p0) * (IntKind.wrap .u64 p1)))) 32))), (IntKind.wrap .u32 ((IntKind.wrap .u64 ((IntKind.wrap .u64 p0) * (IntKind.wrap .u64 p1))))))
def FJ (_ : Nat) (p0 : Int) (p1 : Int) : Option (Int × Int) :=
 some ((IntKind.wrap .u64 ((IntKind.wrap .u64 ((IntKind.wrap .u64 ((Ew .u64 p0 32) * (Ew .u64 p1 32))) + (Ew .u64 ((IntKind.wrap .u64 ((IntKind.wrap .u64 ((Ew .u64 p0 32) * (Fb .u64 p1 4294967295))) + (Ew .u64 ((IntKind.wrap .u64 ((Fb .u64 p0 4294967295) * (Fb .u64 p1 4294967295)))) 32)))) 32))) + (Ew .u64 ((IntKind.wrap .u64 ((Fb .u64 ((IntKind.wrap .u64 ((IntKind.wrap .u64 ((Ew .u64 p0 32) * (Fb .u64 p1 4294967295))) + (Ew .u64 ((IntKind.wrap .u64 ((Fb .u64 p0 4294967295) * (Fb .u64 p1 4294967295)))) 32)))) 4294967295) + (IntKind.wrap .u64 ((Fb .u64 p0 4294967295) * (Ew .u64 p1 32)))))) 32))), (IntKind.wrap .u64 (p0 * p1)))
def Gz (N : Nat) (p0 : Int) (p1 : Int) : Option (Int × Int) :=
 AY false
  ((FK N ((IntKind.wrap .u32 p0)) ((IntKind.wrap .u32 p1))).bind fun v2 =>
  some ((IntKind.wrap .u64 v2.1), (IntKind.wrap .u64 v2.2)))
  ((FJ N p0 p1).bind fun v3 =>
  some (v3.1, v3.2))
def C2 (N : Nat) (j9 : ((List Int)) → Option ((List Int))) : Nat → ((List Int) × Int) → Option ((List Int))
 | 0, _ => none
 | n9 + 1, v9 =>
  AY ((decide (v9.2 < (v9.1.length : Int))))
   ((DK ((0 : Int) ≤ v9.2 ∧ (v9.2).toNat ≤ v9.1.length ∧ v9.1.length ≤ v9.1.length)).bind fun _ =>
   (DK ((0 : Int) ≤ v9.2 ∧ 0 ≤ (v9.2).toNat ∧ (v9.2).toNat ≤ v9.1.length)).bind fun _ =>
   C2 N j9 n9 (F4 v9.1 ((v9.2).toNat) ((((v9.1.drop 0).take ((v9.2).toNat))).take (Nat.min (((v9.1.drop 0).take ((v9.2).toNat))).length ((v9.1.length - (v9.2).toNat)))), (IntKind.wrap .i64 (v9.2 + (((Nat.min (((v9.1.drop 0).take ((v9.2).toNat))).length ((v9.1.length - (v9.2).toNat))) : Nat) : Int)))))
   (j9 v9.1)
def DA (N : Nat) (p0 : List Int) (p1 : Int) : Option ((List Int)) :=
 Bj (fun (_ : Unit) =>
  (Gz N ((IntKind.wrap .u64 ((p0.length : Int)))) ((IntKind.wrap .u64 p1))).bind fun v3 =>
  Bj (fun (_ : Unit) =>
   (DK ((0 : Int) ≤ (IntKind.wrap .i64 v3.2) ∧ (IntKind.wrap .i64 v3.2) ≤ (IntKind.wrap .i64 v3.2) ∧ (IntKind.wrap .i64 v3.2) ≤ (Dj : Int))).bind fun _ =>
   C2 N (fun (v10 : (List Int)) =>
    some v10) N (F4 (List.replicate ((IntKind.wrap .i64 v3.2)).toNat ((0 : Int))) 0 (p0.take (Nat.min p0.length ((List.replicate ((IntKind.wrap .i64 v3.2)).toNat ((0 : Int))).length))), (((Nat.min p0.length ((List.replicate ((IntKind.wrap .i64 v3.2)).toNat ((0 : Int))).length)) : Nat) : Int)))
  fun j4 =>
  Bj (fun (v5 : Bool) =>
   AY v5
    (none)
    (j4 ()))
  fun j5 =>
  AY ((decide (0 < v3.1)))
   (j5 true)
   (j5 (decide (9223372036854775807 < v3.2))))
 fun j1 =>
 AY ((decide (p1 < 0)))
  (none)
  (j1 ())
def El (_ : Nat) (p0 : AC) : Option Bool :=
 Bj (fun (v1 : Bool) =>
  some v1)
 fun j1 =>
 AY ((p0.fKind == 3))
  (j1 true)
  (j1 (p0.fKind == 4))
def Dk (N : Nat) (p0 : Ae) (j6 : ((List Int)) → Option (Ah × Int)) : Nat → ((List Int) × Int) → Option (Ah × Int)
 | 0, _ => none
 | n6 + 1, v6 =>
  AY ((decide (v6.2 < (p0.fTables.length : Int))))
   (Bj (fun (v9 : (List Int)) =>
    Dk N p0 j6 n6 (v9, (IntKind.wrap .i64 (v6.2 + 1))))
   fun j9 =>
   (BT p0.fTables v6.2).bind fun v10 =>
   (El N v10).bind fun v11 =>
   AY v11
    ((BT p0.fNow v10.fFrom).bind fun v13 =>
    (DK (0 ≤ v13)).bind fun _ =>
    (BT v6.1 v6.2).bind fun _ =>
    j9 (v6.1.set ((v6.2).toNat) ((C3 .u8 1 v13))))
    (j9 v6.1))
   (j6 v6.1)
def Fc (N : Nat) (p0 : Ae) : Option (Ah × Int) :=
 (Cj N p0).bind fun v1 =>
 AY ((v1 != 0))
  (some ((Ah.mk (([] : List Int)) (([] : List Int)) (([] : List Int))), v1))
  ((Bv N p0.fNow).bind fun v3 =>
  (DA N (([(-1)] : List Int)) ((p0.fNow.length : Int))).bind fun v4 =>
  (DK ((0 : Int) ≤ (p0.fTables.length : Int) ∧ (p0.fTables.length : Int) ≤ (p0.fTables.length : Int) ∧ (p0.fTables.length : Int) ≤ (Dj : Int))).bind fun _ =>
  Dk N p0 (fun (v7 : (List Int)) =>
   some ((Ah.mk v3 v4 v7), 0)) N (List.replicate ((p0.fTables.length : Int)).toNat ((0 : Int)), 0))
def D0 (_ : Nat) (p0 : Ah) (p1 : Int) : Option Int :=
 (BT p0.fBase p1).bind fun v1 =>
 (DK (0 ≤ v1)).bind fun _ =>
 Bj (fun (v3 : Int) =>
  some v3)
 fun j3 =>
 (BT p0.fNext p1).bind fun v4 =>
 AY ((decide (0 ≤ v4)))
  ((BT p0.fNext p1).bind fun v6 =>
  (DK (0 ≤ v6)).bind fun _ =>
  j3 (MB .u8 ((C3 .u8 1 v1)) ((C3 .u8 1 v6))))
  (j3 (C3 .u8 1 v1))
def Dh (N : Nat) (p0 : Ae) (p1 : Ah) (j7 : Unit → Option Int) : Nat → Int → Option Int
 | 0, _ => none
 | n7 + 1, v7 =>
  AY ((decide (v7 < (p0.fVersions.length : Int))))
   ((BT p0.fVersions v7).bind fun v10 =>
   Bj (fun (v11 : Bool) =>
    AY v11
     (some 7)
     ((BT p1.fBase v7).bind fun v20 =>
     (BT p1.fNext v7).bind fun v21 =>
     AY ((v20 == v21))
      (some 1)
      (Dh N p0 p1 j7 n7 (IntKind.wrap .i64 (v7 + 1)))))
   fun j11 =>
   (BT p1.fBase v7).bind fun v12 =>
   AY ((decide (v12 < 0)))
    (j11 true)
    ((BT p1.fBase v7).bind fun v14 =>
    AY ((decide (v10 ≤ v14)))
     (j11 true)
     ((BT p1.fNext v7).bind fun v16 =>
     AY ((decide (v16 < (-1))))
      (j11 true)
      ((BT p1.fNext v7).bind fun v18 =>
      j11 (decide (v10 ≤ v18))))))
   (j7 ())
def C0 (N : Nat) (p0 : Ae) (p1 : Ah) (j23 : Unit → Option Int) : Nat → Int → Option Int
 | 0, _ => none
 | n23 + 1, v23 =>
  AY ((decide (v23 < (p0.fTables.length : Int))))
   ((BT p0.fTables v23).bind fun v26 =>
   Bj (fun (v27 : Int × Int) =>
    Bj (fun (v33 : Bool) =>
     AY v33
      (some 1)
      (C0 N p0 p1 j23 n23 (IntKind.wrap .i64 (v23 + 1))))
    fun j33 =>
    (BT p1.fHeld v23).bind fun v34 =>
    AY (((CE .u8 v27.1 v34) != 0))
     (j33 true)
     ((BT p1.fHeld v23).bind fun v36 =>
     j33 ((CE .u8 v36 v27.2) != 0)))
   fun j27 =>
   (El N v26).bind fun v28 =>
   AY v28
    ((D0 N p1 v26.fFrom).bind fun v30 =>
    (BT p0.fVersions v26.fFrom).bind fun v31 =>
    (DK (0 ≤ v31)).bind fun _ =>
    j27 (v30, (IntKind.wrap .u8 ((C3 .u8 1 v31) - 1))))
    (j27 (0, 0)))
   (j23 ())
def Eg (N : Nat) (p0 : Ae) (p1 : Ah) : Option Int :=
 (Cj N p0).bind fun v1 =>
 AY ((v1 != 0))
  (some v1)
  (Bj (fun (v3 : Bool) =>
   AY v3
    (some 6)
    (Dh N p0 p1 (fun (_ : Unit) =>
     C0 N p0 p1 (fun (_ : Unit) =>
      some 0) N 0) N 0))
  fun j3 =>
  AY (((p1.fBase.length : Int) != (p0.fVersions.length : Int)))
   (j3 true)
   (AY (((p1.fNext.length : Int) != (p0.fVersions.length : Int)))
    (j3 true)
    (j3 ((p1.fHeld.length : Int) != (p0.fTables.length : Int)))))
def By (_ : Nat) (p0 : List Int) : Option ((List Int)) :=
 (DK ((([] : List Int)).length + p0.length ≤ Dj)).bind fun _ =>
 some ((([] : List Int)) ++ p0)
def CZ (N : Nat) (p1 : Ah) (j3 : ((List Int)) → Option ((List Ah) × Int)) : Nat → ((List Int) × Int) → Option ((List Ah) × Int)
 | 0, _ => none
 | n3 + 1, v3 =>
  AY ((decide (v3.2 < (p1.fNext.length : Int))))
   (Bj (fun (v6 : (List Int)) =>
    CZ N p1 j3 n3 (v6, (IntKind.wrap .i64 (v3.2 + 1))))
   fun j6 =>
   (BT p1.fNext v3.2).bind fun v7 =>
   AY ((decide (0 ≤ v7)))
    ((DK (v3.1.length + (([v3.2] : List Int)).length ≤ Dj)).bind fun _ =>
    j6 (v3.1 ++ (([v3.2] : List Int))))
    (j6 v3.1))
   (j3 v3.1)
def Cr (N : Nat) (v4 : (List Int)) (v11 : (List Ah) × Int) (j17 : ((List Int)) → Option ((List Ah) × Int)) : Nat → ((List Int) × Int) → Option ((List Ah) × Int)
 | 0, _ => none
 | n17 + 1, v17 =>
  AY ((decide (v17.2 < (v4.length : Int))))
   (Bj (fun (v20 : (List Int)) =>
    Cr N v4 v11 j17 n17 (v20, (IntKind.wrap .i64 (v17.2 + 1))))
   fun j20 =>
   (BT v4 v17.2).bind fun v21 =>
   (DK (0 ≤ v17.2)).bind fun _ =>
   AY (((Fb .i64 ((Ew .i64 v11.2 v17.2)) 1) == 1))
    ((BT v17.1 v21).bind fun _ =>
    j20 (v17.1.set ((v21).toNat) ((-1))))
    (j20 v17.1))
   (j17 v17.1)
def Cq (N : Nat) (p1 : Ah) (v4 : (List Int)) (j11 : ((List Ah)) → Option ((List Ah) × Int)) : Nat → ((List Ah) × Int) → Option ((List Ah) × Int)
 | 0, _ => none
 | n11 + 1, v11 =>
  AY ((decide (v11.2 < (C3 .i64 1 ((v4.length : Int))))))
   ((Bv N p1.fBase).bind fun v14 =>
   (Bv N p1.fNext).bind fun v15 =>
   (By N p1.fHeld).bind fun v16 =>
   Cr N v4 v11 (fun (v18 : (List Int)) =>
    (DK (v11.1.length + (([(Ah.mk v14 v18 v16)] : List Ah)).length ≤ Dj)).bind fun _ =>
    Cq N p1 v4 j11 n11 (v11.1 ++ (([(Ah.mk v14 v18 v16)] : List Ah)), (IntKind.wrap .i64 (v11.2 + 1)))) N (v15, 0))
   (j11 v11.1)
def FB (N : Nat) (p0 : Ae) (p1 : Ah) : Option ((List Ah) × Int) :=
 (Eg N p0 p1).bind fun v1 =>
 AY ((v1 != 0))
  (some (([] : List Ah), v1))
  (CZ N p1 (fun (v4 : (List Int)) =>
   (DK (0 ≤ (v4.length : Int))).bind fun _ =>
   Cq N p1 v4 (fun (v12 : (List Ah)) =>
    some (v12, 0)) N (([] : List Ah), 0)) N (([] : List Int), 0))
def BI (N : Nat) (v1 : (List Aj) × Int) (v4 : AC) (v6 : Int) (v11 : (List Aj) × Int) (v17 : List Bool) (j18 : ((List Aj) × Bool) → Option ((List Aj))) : Nat → ((List Aj) × Bool × Int) → Option ((List Aj))
 | 0, _ => none
 | n18 + 1, v18 =>
  AY ((decide (v18.2.2 < (v17.length : Int))))
   (Bj (fun (v21 : (List Aj) × Bool) =>
    BI N v1 v4 v6 v11 v17 j18 n18 (v21.1, v21.2, (IntKind.wrap .i64 (v18.2.2 + 1))))
   fun j21 =>
   (BT v17 v18.2.2).bind fun v22 =>
   (DK (0 ≤ v18.2.2)).bind fun _ =>
   AY (((Fb .u8 ((Ew .u8 v6 v18.2.2)) 1) == 0))
    (j21 (v18.1, v18.2.1))
    (Bj (fun (v25 : Bool) =>
     Bj (fun (v27 : Bool) =>
      AY v27
       ((DK (v18.1.length + (([(Aj.mk v1.2 v11.2 v18.2.2)] : List Aj)).length ≤ Dj)).bind fun _ =>
       j21 (v18.1 ++ (([(Aj.mk v1.2 v11.2 v18.2.2)] : List Aj)), v25))
       (j21 (v18.1, v25)))
     fun j27 =>
     AY ((!v22))
      (j27 (!v4.fAware))
      (j27 false))
    fun j25 =>
    AY v18.2.1
     (j25 true)
     (j25 v22)))
   (j18 (v18.1, v18.2.1))
def BY (N : Nat) (v1 : (List Aj) × Int) (v4 : AC) (v6 : Int) (v7 : Int) (j11 : ((List Aj)) → Option ((List Aj))) : Nat → ((List Aj) × Int) → Option ((List Aj))
 | 0, _ => none
 | n11 + 1, v11 =>
  AY ((decide (v11.2 < (v4.fOK.length : Int))))
   (Bj (fun (v14 : (List Aj)) =>
    BY N v1 v4 v6 v7 j11 n11 (v14, (IntKind.wrap .i64 (v11.2 + 1))))
   fun j14 =>
   (DK (0 ≤ v11.2)).bind fun _ =>
   AY (((Fb .u8 ((Ew .u8 v7 v11.2)) 1) == 0))
    (j14 v11.1)
    ((BT v4.fOK v11.2).bind fun v17 =>
    BI N v1 v4 v6 v11 v17 (fun (v19 : (List Aj) × Bool) =>
     Bj (fun (v31 : Bool) =>
      AY v31
       ((DK (v19.1.length + (([(Aj.mk v1.2 v11.2 ((-1)))] : List Aj)).length ≤ Dj)).bind fun _ =>
       j14 (v19.1 ++ (([(Aj.mk v1.2 v11.2 ((-1)))] : List Aj))))
       (j14 v19.1))
     fun j31 =>
     AY v4.fAware
      (j31 (!v19.2))
      (j31 false)) N (v11.1, false, 0)))
   (j11 v11.1)
def CI (N : Nat) (p0 : Ae) (p1 : Ah) (j1 : ((List Aj)) → Option ((List Aj))) : Nat → ((List Aj) × Int) → Option ((List Aj))
 | 0, _ => none
 | n1 + 1, v1 =>
  AY ((decide (v1.2 < (p0.fTables.length : Int))))
   ((BT p0.fTables v1.2).bind fun v4 =>
   (D0 N p1 v4.fFrom).bind fun v5 =>
   (D0 N p1 v4.fTo).bind fun v6 =>
   Bj (fun (v7 : Int) =>
    BY N v1 v4 v6 v7 (fun (v12 : (List Aj)) =>
     CI N p0 p1 j1 n1 (v12, (IntKind.wrap .i64 (v1.2 + 1)))) N (v1.1, 0))
   fun j7 =>
   (El N v4).bind fun v8 =>
   AY v8
    ((BT p1.fHeld v1.2).bind fun v10 =>
    j7 v10)
    (j7 v5))
   (j1 v1.1)
def Er (N : Nat) (p0 : Ae) (p1 : Ah) : Option ((List Aj)) :=
 CI N p0 p1 (fun (v2 : (List Aj)) =>
  some v2) N (([] : List Aj), 0)
def DP (N : Nat) (p0 : Ae) (v1 : (List Ah) × Int) (j3 : Unit → Option (Ah × Aj × Int)) : Nat → Int → Option (Ah × Aj × Int)
 | 0, _ => none
 | n3 + 1, v3 =>
  AY ((decide (v3 < (v1.1.length : Int))))
   ((BT v1.1 v3).bind fun v6 =>
   (Er N p0 v6).bind fun v7 =>
   AY ((decide (0 < (v7.length : Int))))
    ((BT v7 0).bind fun v9 =>
    some (v6, v9, 0))
    (DP N p0 v1 j3 n3 (IntKind.wrap .i64 (v3 + 1))))
   (j3 ())
def EC (N : Nat) (p0 : Ae) (p1 : Ah) : Option (Ah × Aj × Int) :=
 (FB N p0 p1).bind fun v1 =>
 AY ((v1.2 != 0))
  (some ((Ah.mk (([] : List Int)) (([] : List Int)) (([] : List Int))), (Aj.mk 0 0 0), v1.2))
  (DP N p0 v1 (fun (_ : Unit) =>
   some ((Ah.mk (([] : List Int)) (([] : List Int)) (([] : List Int))), (Aj.mk 0 0 0), 15)) N 0)
def GH (N : Nat) (p0 : Ae) (p1 : Ah) : Option (Bool × Int) :=
 (EC N p0 p1).bind fun v1 =>
 AY ((v1.2.2 == 0))
  (some (false, 0))
  (AY ((v1.2.2 == 15))
   (some (true, 0))
   (some (false, v1.2.2)))
def Ga (N : Nat) (p0 : Ah) (j2 : ((List Int)) → Option ByteArray) : Nat → ((List Int) × Int) → Option ByteArray
 | 0, _ => none
 | n2 + 1, v2 =>
  AY ((decide (v2.2 < (p0.fBase.length : Int))))
   ((BT p0.fBase v2.2).bind fun v5 =>
   (BT p0.fNext v2.2).bind fun v6 =>
   (DK (v2.1.length + (([(IntKind.wrap .u8 v5), (IntKind.wrap .u8 ((IntKind.wrap .i64 (v6 + 1))))] : List Int)).length ≤ Dj)).bind fun _ =>
   Ga N p0 j2 n2 (v2.1 ++ (([(IntKind.wrap .u8 v5), (IntKind.wrap .u8 ((IntKind.wrap .i64 (v6 + 1))))] : List Int)), (IntKind.wrap .i64 (v2.2 + 1))))
   (j2 v2.1)
def FZ (N : Nat) (p0 : Ah) (j8 : ((List Int)) → Option ByteArray) : Nat → ((List Int) × Int) → Option ByteArray
 | 0, _ => none
 | n8 + 1, v8 =>
  AY ((decide (v8.2 < (p0.fHeld.length : Int))))
   ((BT p0.fHeld v8.2).bind fun v11 =>
   (DK (v8.1.length + (([v11] : List Int)).length ≤ Dj)).bind fun _ =>
   FZ N p0 j8 n8 (v8.1 ++ (([v11] : List Int)), (IntKind.wrap .i64 (v8.2 + 1))))
   (j8 v8.1)
def HO (N : Nat) (p0 : Ah) : Option ByteArray :=
 (DK ((0 : Int) ≤ 0 ∧ 0 ≤ (IntKind.wrap .i64 ((IntKind.wrap .i64 (2 * (p0.fBase.length : Int))) + (p0.fHeld.length : Int))) ∧ (IntKind.wrap .i64 ((IntKind.wrap .i64 (2 * (p0.fBase.length : Int))) + (p0.fHeld.length : Int))) ≤ (Dj : Int))).bind fun _ =>
 Ga N p0 (fun (v3 : (List Int)) =>
  FZ N p0 (fun (v9 : (List Int)) =>
   some ((HP v9))) N (v3, 0)) N (List.replicate (0 : Int).toNat ((0 : Int)), 0)
def F5 (N : Nat) (v1 : (List Ag) × Int) (v4 : Int) (j5 : ((List Ag)) → Option ((List Ag))) : Nat → ((List Ag) × Int) → Option ((List Ag))
 | 0, _ => none
 | n5 + 1, v5 =>
  AY ((decide (v5.2 < v4)))
   ((DK (v5.1.length + (([(Ag.mk 1 v1.2 v5.2)] : List Ag)).length ≤ Dj)).bind fun _ =>
   F5 N v1 v4 j5 n5 (v5.1 ++ (([(Ag.mk 1 v1.2 v5.2)] : List Ag)), (IntKind.wrap .i64 (v5.2 + 1))))
   (j5 v5.1)
def Gb (N : Nat) (p0 : Ae) (j1 : ((List Ag)) → Option ((List Ag))) : Nat → ((List Ag) × Int) → Option ((List Ag))
 | 0, _ => none
 | n1 + 1, v1 =>
  AY ((decide (v1.2 < (p0.fVersions.length : Int))))
   ((BT p0.fVersions v1.2).bind fun v4 =>
   F5 N v1 v4 (fun (v6 : (List Ag)) =>
    Gb N p0 j1 n1 (v6, (IntKind.wrap .i64 (v1.2 + 1)))) N (v1.1, 0))
   (j1 v1.1)
def F1 (N : Nat) (p0 : Ae) (j9 : ((List Ag)) → Option ((List Ag))) : Nat → ((List Ag) × Int) → Option ((List Ag))
 | 0, _ => none
 | n9 + 1, v9 =>
  AY ((decide (v9.2 < (p0.fVersions.length : Int))))
   ((DK (v9.1.length + (([(Ag.mk 2 v9.2 0)] : List Ag)).length ≤ Dj)).bind fun _ =>
   F1 N p0 j9 n9 (v9.1 ++ (([(Ag.mk 2 v9.2 0)] : List Ag)), (IntKind.wrap .i64 (v9.2 + 1))))
   (j9 v9.1)
def FE (N : Nat) (p0 : Ae) (j13 : ((List Ag)) → Option ((List Ag))) : Nat → ((List Ag) × Int) → Option ((List Ag))
 | 0, _ => none
 | n13 + 1, v13 =>
  AY ((decide (v13.2 < (p0.fTables.length : Int))))
   ((DK (v13.1.length + (([(Ag.mk 3 v13.2 0)] : List Ag)).length ≤ Dj)).bind fun _ =>
   FE N p0 j13 n13 (v13.1 ++ (([(Ag.mk 3 v13.2 0)] : List Ag)), (IntKind.wrap .i64 (v13.2 + 1))))
   (j13 v13.1)
def IU (N : Nat) (p0 : Ae) : Option ((List Ag)) :=
 Gb N p0 (fun (v2 : (List Ag)) =>
  F1 N p0 (fun (v10 : (List Ag)) =>
   FE N p0 (fun (v14 : (List Ag)) =>
    some v14) N (v10, 0)) N (v2, 0)) N (([] : List Ag), 0)
def EX (N : Nat) (p0 : Ah) : Option Ah :=
 (Bv N p0.fBase).bind fun v1 =>
 (Bv N p0.fNext).bind fun v2 =>
 (By N p0.fHeld).bind fun v3 =>
 some ((Ah.mk v1 v2 v3))
def Et (_ : Nat) (p0 : AC) : Option Bool :=
 Bj (fun (v1 : Bool) =>
  some v1)
 fun j1 =>
 AY ((p0.fKind == 3))
  (j1 true)
  (j1 (p0.fKind == 4))
def CY (N : Nat) (p0 : Ae) (p2 : Ag) (j7 : ((List Int)) → Option (Bool × (List Int) × (List Int))) : Nat → ((List Int) × Int) → Option (Bool × (List Int) × (List Int))
 | 0, _ => none
 | n7 + 1, v7 =>
  AY ((decide (v7.2 < (p0.fTables.length : Int))))
   (Bj (fun (v10 : (List Int)) =>
    CY N p0 p2 j7 n7 (v10, (IntKind.wrap .i64 (v7.2 + 1))))
   fun j10 =>
   (BT p0.fTables v7.2).bind fun v11 =>
   Bj (fun (v12 : Bool) =>
    AY v12
     ((BT v7.1 v7.2).bind fun v16 =>
     (DK (0 ≤ p2.fVersion)).bind fun _ =>
     (BT v7.1 v7.2).bind fun _ =>
     j10 (v7.1.set ((v7.2).toNat) ((MB .u8 v16 ((C3 .u8 1 p2.fVersion))))))
     (j10 v7.1))
   fun j12 =>
   AY ((v11.fFrom == p2.fIndex))
    ((Et N v11).bind fun v14 =>
    j12 v14)
    (j12 false))
   (j7 v7.1)
def GI (N : Nat) (p0 : Ae) (p1 : Ah) (p2 : Ag) : Option (Bool × (List Int) × (List Int)) :=
 Bj (fun (v1 : Bool) =>
  AY v1
   (some (false, p1.fNext, p1.fHeld))
   ((BT p1.fNext p2.fIndex).bind fun _ =>
   CY N p0 p2 (fun (v8 : (List Int)) =>
    some (true, p1.fNext.set ((p2.fIndex).toNat) p2.fVersion, v8)) N (p1.fHeld, 0)))
 fun j1 =>
 (BT p1.fNext p2.fIndex).bind fun v2 =>
 AY ((decide (0 ≤ v2)))
  (j1 true)
  ((BT p1.fBase p2.fIndex).bind fun v4 =>
  j1 (v4 == p2.fVersion))
def EF (_ : Nat) (p0 : Ah) (p1 : Int) : Option Int :=
 (BT p0.fBase p1).bind fun v1 =>
 (DK (0 ≤ v1)).bind fun _ =>
 Bj (fun (v3 : Int) =>
  some v3)
 fun j3 =>
 (BT p0.fNext p1).bind fun v4 =>
 AY ((decide (0 ≤ v4)))
  ((BT p0.fNext p1).bind fun v6 =>
  (DK (0 ≤ v6)).bind fun _ =>
  j3 (MB .u8 ((C3 .u8 1 v1)) ((C3 .u8 1 v6))))
  (j3 (C3 .u8 1 v1))
def Ck (_ : Nat) (p0 : Int) : Option Int :=
 (Sf ((⟨⟨(List.append (List.append [8, 0, 1, 0, 2, 0, 1, 0, 3, 0, 1, 0, 2, 0, 1, 0, 4, 0, 1, 0, 2, 0, 1, 0, 3, 0, 1, 0, 2, 0, 1, 0, 5, 0, 1, 0, 2, 0, 1, 0, 3, 0, 1, 0, 2, 0, 1, 0, 4, 0, 1, 0, 2, 0, 1, 0, 3, 0, 1, 0, 2, 0, 1, 0] [6, 0, 1, 0, 2, 0, 1, 0, 3, 0, 1, 0, 2, 0, 1, 0, 4, 0, 1, 0, 2, 0, 1, 0, 3, 0, 1, 0, 2, 0, 1, 0, 5, 0, 1, 0, 2, 0, 1, 0, 3, 0, 1, 0, 2, 0, 1, 0, 4, 0, 1, 0, 2, 0, 1, 0, 3, 0, 1, 0, 2, 0, 1, 0]) (List.append [7, 0, 1, 0, 2, 0, 1, 0, 3, 0, 1, 0, 2, 0, 1, 0, 4, 0, 1, 0, 2, 0, 1, 0, 3, 0, 1, 0, 2, 0, 1, 0, 5, 0, 1, 0, 2, 0, 1, 0, 3, 0, 1, 0, 2, 0, 1, 0, 4, 0, 1, 0, 2, 0, 1, 0, 3, 0, 1, 0, 2, 0, 1, 0] [6, 0, 1, 0, 2, 0, 1, 0, 3, 0, 1, 0, 2, 0, 1, 0, 4, 0, 1, 0, 2, 0, 1, 0, 3, 0, 1, 0, 2, 0, 1, 0, 5, 0, 1, 0, 2, 0, 1, 0, 3, 0, 1, 0, 2, 0, 1, 0, 4, 0, 1, 0, 2, 0, 1, 0, 3, 0, 1, 0, 2, 0, 1, 0]))⟩⟩ : ByteArray)) p0).bind fun v1 =>
 some ((IntKind.wrap .i64 v1))
def CM (N : Nat) (p0 : AC) (p2 : Int) (j1 : Unit → Option Bool) : Nat → Int → Option Bool
 | 0, _ => none
 | n1 + 1, v1 =>
  AY ((v1 != 0))
   ((Ck N v1).bind fun v4 =>
   (BT p0.fRewrite v4).bind fun v5 =>
   (BT v5 p2).bind fun v6 =>
   AY ((!v6))
    (some false)
    (CM N p0 p2 j1 n1 (Fb .u8 v1 ((IntKind.wrap .u8 (v1 - 1))))))
   (j1 ())
def EB (N : Nat) (p0 : AC) (p1 : Int) (p2 : Int) : Option Bool :=
 CM N p0 p2 (fun (_ : Unit) =>
  some true) N p1
def FA (N : Nat) (p0 : Ae) (p1 : Ah) (p2 : Int) : Option (Bool × (List Int)) :=
 (BT p0.fTables p2).bind fun v1 =>
 (Et N v1).bind fun v2 =>
 AY ((!v2))
  (some (false, p1.fHeld))
  ((EF N p1 v1.fFrom).bind fun v4 =>
  (BT p1.fHeld p2).bind fun v5 =>
  Bj (fun (v6 : Bool) =>
   AY v6
    (some (false, p1.fHeld))
    ((BT p1.fHeld p2).bind fun _ =>
    some (true, p1.fHeld.set ((p2).toNat) v4)))
  fun j6 =>
  (BT p1.fHeld p2).bind fun v7 =>
  AY ((v7 == v4))
   (j6 true)
   (AY ((v1.fKind == 4))
    ((BT p1.fBase v1.fFrom).bind fun v10 =>
    (EB N v1 ((CE .u8 v5 v4)) v10).bind fun v11 =>
    j6 (!v11))
    (j6 false)))
def EI (N : Nat) (p0 : Ae) (p1 : Ah) (p2 : Ag) : Option (Ah × Bool) :=
 (EX N p1).bind fun v1 =>
 AY ((p2.fKind == 1))
  ((GI N p0 v1 p2).bind fun v3 =>
  some ((Ah.mk v1.fBase v3.2.1 v3.2.2), v3.1))
  (AY ((p2.fKind == 3))
   ((FA N p0 v1 p2.fIndex).bind fun v5 =>
   some ((Ah.mk v1.fBase v1.fNext v5.2), v5.1))
   ((BT v1.fNext p2.fIndex).bind fun v6 =>
   AY ((decide (v6 < 0)))
    (some (v1, false))
    ((BT v1.fNext p2.fIndex).bind fun _ =>
    Bj (fun (v9 : (List Int)) =>
     some ((Ah.mk v9 (v1.fNext.set ((p2.fIndex).toNat) ((-1))) v1.fHeld), true))
    fun j9 =>
    AY ((p2.fKind == 2))
     ((BT v1.fBase p2.fIndex).bind fun _ =>
     j9 (v1.fBase.set ((p2.fIndex).toNat) v6))
     (j9 v1.fBase))))
def Ek (N : Nat) (p0 : Ag) (p1 : List Int) (p2 : List Int) (p3 : List Int) (p4 : List AC) (p5 : List Int) (p6 : List Int) (p7 : List Int) : Option Bool :=
 (EI N ((Ae.mk p1 p2 p3 p4)) ((Ah.mk p5 p6 p7)) p0).bind fun v1 =>
 some ((!v1.2))
def BN (N : Nat) (p0 : List Ag) (p1 : Ag → Option Bool) (j1 : Unit → Option Int) : Nat → Int → Option Int
 | 0, _ => none
 | n1 + 1, v1 =>
  AY ((decide (v1 < (p0.length : Int))))
   ((BT p0 v1).bind fun v4 =>
   (p1 v4).bind fun v5 =>
   AY v5
    (some v1)
    (BN N p0 p1 j1 n1 (IntKind.wrap .i64 (v1 + 1))))
   (j1 ())
def CD (N : Nat) (p0 : List Ag) (p1 : Ag → Option Bool) : Option Int :=
 BN N p0 p1 (fun (_ : Unit) =>
  some ((-1))) N 0
def BK (N : Nat) (p1 : Ag → Option Bool) (j3 : ((List Ag) × Int) → Option (Nat × (List Ag))) : Nat → ((List Ag) × Int × Int) → Option (Nat × (List Ag))
 | 0, _ => none
 | n3 + 1, v3 =>
  AY ((decide (v3.2.2 < (v3.1.length : Int))))
   (Bj (fun (v6 : (List Ag) × Int) =>
    BK N p1 j3 n3 (v6.1, v6.2, (IntKind.wrap .i64 (v3.2.2 + 1))))
   fun j6 =>
   (BT v3.1 v3.2.2).bind fun v7 =>
   (p1 v7).bind fun v8 =>
   AY ((!v8))
    ((BT v3.1 v3.2.1).bind fun _ =>
    j6 (v3.1.set ((v3.2.1).toNat) v7, (IntKind.wrap .i64 (v3.2.1 + 1))))
    (j6 (v3.1, v3.2.1)))
   (j3 (v3.1, v3.2.1))
def Cz (N : Nat) (p0 : List Ag) (p1 : Ag → Option Bool) : Option (Nat × (List Ag)) :=
 (CD N p0 p1).bind fun v1 =>
 AY ((v1 == (-1)))
  (some (p0.length, p0))
  (BK N p1 (fun (v4 : (List Ag) × Int) =>
   (DK ((0 : Int) ≤ v4.2 ∧ (v4.2).toNat ≤ v4.1.length ∧ v4.1.length ≤ v4.1.length)).bind fun _ =>
   (DK ((0 : Int) ≤ v4.2 ∧ 0 ≤ (v4.2).toNat ∧ (v4.2).toNat ≤ (F4 v4.1 ((v4.2).toNat) (List.replicate ((v4.1.length - (v4.2).toNat)) ((Ag.mk 0 0 0)))).length)).bind fun _ =>
   some ((v4.2).toNat, F4 v4.1 ((v4.2).toNat) (List.replicate ((v4.1.length - (v4.2).toNat)) ((Ag.mk 0 0 0))))) N (p0, v1, (IntKind.wrap .i64 (v1 + 1))))
def GR (N : Nat) (p0 : Ae) (p1 : Ah) : Option ((List Ag) × Int) :=
 (Eg N p0 p1).bind fun v1 =>
 AY ((v1 != 0))
  (some (([] : List Ag), v1))
  ((IU N p0).bind fun v3 =>
  (Cz N v3 ((fun (x : Ag) => Ek N x p0.fVersions p0.fNow p0.fTarget p0.fTables p1.fBase p1.fNext p1.fHeld))).bind fun v4 =>
  (DK (v4.1 ≤ v4.2.length)).bind fun _ =>
  some (v4.2.take v4.1, 0))
def FC (_ : Nat) (p0 : Ag) : Option Bool :=
 Bj (fun (v1 : Bool) =>
  AY v1
   (some false)
   (Bj (fun (v5 : Bool) =>
    some v5)
   fun j5 =>
   AY ((p0.fKind == 1))
    (j5 true)
    (j5 (p0.fVersion == 0))))
 fun j1 =>
 AY ((decide ((QV p0.fIndex p0.fVersion) < 0)))
  (j1 true)
  (AY ((decide (p0.fKind < 1)))
   (j1 true)
   (j1 (decide (4 < p0.fKind))))
def EW (_ : Nat) (p0 : Ae) (p1 : Ag) : Option Bool :=
 AY ((p1.fKind == 3))
  (some ((decide (p1.fIndex < (p0.fTables.length : Int)))))
  (Bj (fun (v2 : Bool) =>
   some v2)
  fun j2 =>
  AY ((decide (p1.fIndex < (p0.fVersions.length : Int))))
   (AY ((p1.fKind != 1))
    (j2 true)
    ((BT p0.fVersions p1.fIndex).bind fun v5 =>
    j2 (decide (p1.fVersion < v5))))
   (j2 false))
def Ft (N : Nat) (p0 : Ae) (p1 : Ah) (p2 : Ag) : Option (Ah × Int) :=
 (FC N p2).bind fun v1 =>
 AY ((!v1))
  (some ((Ah.mk (([] : List Int)) (([] : List Int)) (([] : List Int))), 1))
  ((EW N p0 p2).bind fun v3 =>
  AY ((!v3))
   (some ((Ah.mk (([] : List Int)) (([] : List Int)) (([] : List Int))), 4))
   ((EI N p0 p1 p2).bind fun v5 =>
   AY ((!v5.2))
    (some ((Ah.mk (([] : List Int)) (([] : List Int)) (([] : List Int))), 11))
    (some (v5.1, 0))))
def EH (N : Nat) (p0 : Ae) (p1 : Ah) (p2 : Ag) : Option (Ah × Int) :=
 (Eg N p0 p1).bind fun v1 =>
 AY ((v1 != 0))
  (some ((Ah.mk (([] : List Int)) (([] : List Int)) (([] : List Int))), v1))
  ((Ft N p0 p1 p2).bind fun v3 =>
  some (v3.1, v3.2))
def ES (N : Nat) (p0 : Ae) (v2 : (List AS) × (List (ByteArray × Int)) × Int) (v6 : (List Ag) × Int) (j8 : ((List AS) × (List (ByteArray × Int))) → Option ((List AS) × Int)) : Nat → ((List AS) × (List (ByteArray × Int)) × Int) → Option ((List AS) × Int)
 | 0, _ => none
 | n8 + 1, v8 =>
  AY ((decide (v8.2.2 < (v6.1.length : Int))))
   ((BT v6.1 v8.2.2).bind fun v11 =>
   (BT v8.1 v2.2.2).bind fun v12 =>
   (EH N p0 ((Ah.mk v12.fM.fBase v12.fM.fNext v12.fM.fHeld)) v11).bind fun v13 =>
   AY ((v13.2 != 0))
    (some (([] : List AS), v13.2))
    ((HO N v13.1).bind fun v15 =>
    Bj (fun (v16 : (List AS) × (List (ByteArray × Int)) × Int) =>
     Bj (fun (v24 : (List AS)) =>
      AY ((decide (20000 < (v24.length : Int))))
       (some (([] : List AS), 3))
       (ES N p0 v2 v6 j8 n8 (v24, v16.2.1, (IntKind.wrap .i64 (v8.2.2 + 1)))))
     fun j24 =>
     AY ((decide (0 ≤ v16.2.2)))
      ((BT v16.1 v2.2.2).bind fun v26 =>
      (DK (v26.fNext.length + (([v16.2.2] : List Int)).length ≤ Dj)).bind fun _ =>
      (BT v16.1 v2.2.2).bind fun v28 =>
      j24 (v16.1.set ((v2.2.2).toNat) ((AS.mk ((Ah.mk v28.fM.fBase v28.fM.fNext v28.fM.fHeld)) v28.fFrom ((Ag.mk v28.fBy.fKind v28.fBy.fIndex v28.fBy.fVersion)) (v26.fNext ++ (([v16.2.2] : List Int)))))))
      (j24 v16.1))
    fun j16 =>
    AY ((!((JP v15 v8.2.1).isSome)))
     (Bj (fun (v18 : (List AS) × Int) =>
      j16 (v18.1, Ld v15 v18.2 v8.2.1, v18.2))
     fun j18 =>
     (GH N p0 v13.1).bind fun v19 =>
     Bj (fun (v20 : Bool) =>
      AY v20
       (j18 (v8.1, (-1)))
       ((DK (v8.1.length + (([(AS.mk v13.1 v2.2.2 v11 (([] : List Int)))] : List AS)).length ≤ Dj)).bind fun _ =>
       j18 (v8.1 ++ (([(AS.mk v13.1 v2.2.2 v11 (([] : List Int)))] : List AS)), (v8.1.length : Int))))
     fun j20 =>
     AY ((v19.2 != 0))
      (j20 true)
      (j20 (!v19.1)))
     (j16 (v8.1, v8.2.1, ((JP v15 v8.2.1).getD 0)))))
   (j8 (v8.1, v8.2.1))
def EN (N : Nat) (p0 : Ae) (j2 : ((List AS)) → Option ((List AS) × Int)) : Nat → ((List AS) × (List (ByteArray × Int)) × Int) → Option ((List AS) × Int)
 | 0, _ => none
 | n2 + 1, v2 =>
  AY ((decide (v2.2.2 < (v2.1.length : Int))))
   ((BT v2.1 v2.2.2).bind fun v5 =>
   (GR N p0 ((Ah.mk v5.fM.fBase v5.fM.fNext v5.fM.fHeld))).bind fun v6 =>
   AY ((v6.2 != 0))
    (some (([] : List AS), v6.2))
    (ES N p0 v2 v6 (fun (v9 : (List AS) × (List (ByteArray × Int))) =>
     EN N p0 j2 n2 (v9.1, v9.2, (IntKind.wrap .i64 (v2.2.2 + 1)))) N (v2.1, v2.2.1, 0)))
   (j2 v2.1)
def Hw (N : Nat) (p0 : Ae) (p1 : Ah) : Option ((List AS) × Int) :=
 (HO N p1).bind fun v1 =>
 EN N p0 (fun (v3 : (List AS)) =>
  some (v3, 0)) N (([(AS.mk p1 ((-1)) ((Ag.mk 0 0 0)) (([] : List Int)))] : List AS), Ld v1 0 (([] : List (ByteArray × Int))), 0)
def BM (N : Nat) (p0 : List Int) (p1 : List Int) (j2 : Unit → Option Bool) : Nat → Int → Option Bool
 | 0, _ => none
 | n2 + 1, v2 =>
  AY ((decide (v2 < (p0.length : Int))))
   ((BT p0 v2).bind fun v5 =>
   (BT p1 v2).bind fun v6 =>
   AY ((v5 != v6))
    (some false)
    (BM N p0 p1 j2 n2 (IntKind.wrap .i64 (v2 + 1))))
   (j2 ())
def CT (N : Nat) (p0 : List Int) (p1 : List Int) : Option Bool :=
 AY (((p0.length : Int) != (p1.length : Int)))
  (some false)
  (BM N p0 p1 (fun (_ : Unit) =>
   some true) N 0)
def A8 (N : Nat) (p0 : List Int) (p1 : Int → Option Bool) (j1 : Unit → Option Int) : Nat → Int → Option Int
 | 0, _ => none
 | n1 + 1, v1 =>
  AY ((decide (v1 < (p0.length : Int))))
   ((BT p0 v1).bind fun v4 =>
   (p1 v4).bind fun v5 =>
   AY v5
    (some v1)
    (A8 N p0 p1 j1 n1 (IntKind.wrap .i64 (v1 + 1))))
   (j1 ())
def C1 (N : Nat) (p0 : List Int) (p1 : Int → Option Bool) : Option Int :=
 A8 N p0 p1 (fun (_ : Unit) =>
  some ((-1))) N 0
def Cb (N : Nat) (p0 : List Int) (p1 : Int → Option Bool) : Option Bool :=
 (C1 N p0 p1).bind fun v1 =>
 some ((decide (0 ≤ v1)))
def Fw (_ : Nat) (p0 : Int) : Option Bool :=
 some ((decide (0 ≤ p0)))
def E3 (N : Nat) (p0 : Ae) (p1 : Ah) : Option Bool :=
 Bj (fun (v1 : Bool) =>
  some v1)
 fun j1 =>
 (Eg N p0 p1).bind fun v2 =>
 AY ((v2 == 0))
  ((CT N p1.fBase p0.fTarget).bind fun v4 =>
  AY v4
   ((Cb N p1.fNext ((fun (x : Int) => Fw N x))).bind fun v6 =>
   j1 (!v6))
   (j1 false))
  (j1 false)
def E4 (N : Nat) (p0 : AS) (p1 : List Int) (p2 : List Int) (p3 : List Int) (p4 : List AC) : Option Bool :=
 (E3 N ((Ae.mk p1 p2 p3 p4)) ((Ah.mk p0.fM.fBase p0.fM.fNext p0.fM.fHeld))).bind fun v1 =>
 some v1
def BC (N : Nat) (p0 : List AS) (p1 : AS → Option Bool) (j1 : Unit → Option Int) : Nat → Int → Option Int
 | 0, _ => none
 | n1 + 1, v1 =>
  AY ((decide (v1 < (p0.length : Int))))
   ((BT p0 v1).bind fun v4 =>
   (p1 ((AS.mk ((Ah.mk v4.fM.fBase v4.fM.fNext v4.fM.fHeld)) v4.fFrom ((Ag.mk v4.fBy.fKind v4.fBy.fIndex v4.fBy.fVersion)) v4.fNext))).bind fun v5 =>
   AY v5
    (some v1)
    (BC N p0 p1 j1 n1 (IntKind.wrap .i64 (v1 + 1))))
   (j1 ())
def Cv (N : Nat) (p0 : List AS) (p1 : AS → Option Bool) : Option Int :=
 BC N p0 p1 (fun (_ : Unit) =>
  some ((-1))) N 0
def BW (N : Nat) (j1 : ((List Ag)) → Option ((List Ag))) : Nat → ((List Ag) × Int × Int) → Option ((List Ag))
 | 0, _ => none
 | n1 + 1, v1 =>
  AY ((decide (v1.2.1 < v1.2.2)))
   ((BT v1.1 v1.2.2).bind fun v4 =>
   (BT v1.1 v1.2.1).bind fun v5 =>
   (BT v1.1 v1.2.1).bind fun _ =>
   (BT (v1.1.set ((v1.2.1).toNat) v4) v1.2.2).bind fun _ =>
   BW N j1 n1 ((v1.1.set ((v1.2.1).toNat) v4).set ((v1.2.2).toNat) v5, (IntKind.wrap .i64 (v1.2.1 + 1)), (IntKind.wrap .i64 (v1.2.2 - 1))))
   (j1 v1.1)
def CP (N : Nat) (p0 : List Ag) : Option ((List Ag)) :=
 BW N (fun (v2 : (List Ag)) =>
  some v2) N (p0, 0, (IntKind.wrap .i64 ((p0.length : Int) - 1)))
def Gj (N : Nat) (p0 : List AS) (j1 : ((List Ag)) → Option ((List Ag))) : Nat → (Int × (List Ag)) → Option ((List Ag))
 | 0, _ => none
 | n1 + 1, v1 =>
  (BT p0 v1.1).bind fun v3 =>
  AY ((decide (0 ≤ v3.fFrom)))
   ((BT p0 v1.1).bind fun v5 =>
   (DK (v1.2.length + (([(Ag.mk v5.fBy.fKind v5.fBy.fIndex v5.fBy.fVersion)] : List Ag)).length ≤ Dj)).bind fun _ =>
   (BT p0 v1.1).bind fun v7 =>
   Gj N p0 j1 n1 (v7.fFrom, v1.2 ++ (([(Ag.mk v5.fBy.fKind v5.fBy.fIndex v5.fBy.fVersion)] : List Ag))))
   (j1 v1.2)
def I0 (N : Nat) (p0 : List AS) (p1 : Int) : Option ((List Ag)) :=
 Gj N p0 (fun (v2 : (List Ag)) =>
  (CP N v2).bind fun v8 =>
  some v8) N (p1, ([] : List Ag))
def Ii (N : Nat) (p0 : Ae) (p1 : Ah) : Option ((List Ag) × Int) :=
 (GH N p0 p1).bind fun v1 =>
 AY ((v1.2 != 0))
  (some (([] : List Ag), v1.2))
  (AY ((!v1.1))
   (some (([] : List Ag), 13))
   ((Hw N p0 p1).bind fun v4 =>
   AY ((v4.2 != 0))
    (some (([] : List Ag), v4.2))
    ((Cv N v4.1 ((fun (x : AS) => E4 N x p0.fVersions p0.fNow p0.fTarget p0.fTables))).bind fun v6 =>
    AY ((decide (v6 < 0)))
     (some (([] : List Ag), 14))
     ((I0 N v4.1 v6).bind fun v8 =>
     some (v8, 0)))))
def Gd (N : Nat) (p0 : Ae) : Option ((List Ag) × Int) :=
 (Fc N p0).bind fun v1 =>
 AY ((v1.2 != 0))
  (some (([] : List Ag), v1.2))
  ((Ii N p0 v1.1).bind fun v3 =>
  some (v3.1, v3.2))
def Dx (N : Nat) (p0 : Ae) (p1 : List Ag) (j5 : Ah → Option (Int × Ah × Aj × Int)) : Nat → (Ah × Int) → Option (Int × Ah × Aj × Int)
 | 0, _ => none
 | n5 + 1, v5 =>
  AY ((decide (v5.2 < (p1.length : Int))))
   ((BT p1 v5.2).bind fun v8 =>
   (EH N p0 v5.1 v8).bind fun v9 =>
   Bj (fun (v10 : Bool) =>
    AY v10
     (some (v5.2, (Ah.mk (([] : List Int)) (([] : List Int)) (([] : List Int))), (Aj.mk 0 0 0), 0))
     ((EC N p0 v9.1).bind fun v13 =>
     AY ((v13.2.2 == 0))
      (some (v5.2, v13.1, v13.2.1, 0))
      (Dx N p0 p1 j5 n5 (v9.1, (IntKind.wrap .i64 (v5.2 + 1))))))
   fun j10 =>
   AY ((v9.2 != 0))
    (j10 true)
    (j10 (v8.fKind == 4)))
   (j5 v5.1)
def Ee (N : Nat) (p0 : Ae) (p1 : List Ag) : Option (Int × Ah × Aj × Int) :=
 (Fc N p0).bind fun v1 =>
 AY ((v1.2 != 0))
  (some (0, (Ah.mk (([] : List Int)) (([] : List Int)) (([] : List Int))), (Aj.mk 0 0 0), v1.2))
  ((EC N p0 v1.1).bind fun v3 =>
  AY ((v3.2.2 == 0))
   (some ((-1), v3.1, v3.2.1, 0))
   (Dx N p0 p1 (fun (v6 : Ah) =>
    (E3 N p0 v6).bind fun v15 =>
    AY ((!v15))
     (some ((p1.length : Int), (Ah.mk (([] : List Int)) (([] : List Int)) (([] : List Int))), (Aj.mk 0 0 0), 14))
     (some (0, (Ah.mk (([] : List Int)) (([] : List Int)) (([] : List Int))), (Aj.mk 0 0 0), 15))) N (v1.1, 0)))
def Ce (N : Nat) (p0 : List Ag) (p1 : List Ag) (j2 : Unit → Option Bool) : Nat → Int → Option Bool
 | 0, _ => none
 | n2 + 1, v2 =>
  AY ((decide (v2 < (p0.length : Int))))
   ((BT p0 v2).bind fun v5 =>
   (BT p1 v2).bind fun v6 =>
   AY ((!((v5.fKind == v6.fKind) && ((v5.fIndex == v6.fIndex) && ((v5.fVersion == v6.fVersion) && true)))))
    (some false)
    (Ce N p0 p1 j2 n2 (IntKind.wrap .i64 (v2 + 1))))
   (j2 ())
def CG (N : Nat) (p0 : List Ag) (p1 : List Ag) : Option Bool :=
 AY (((p0.length : Int) != (p1.length : Int)))
  (some false)
  (Ce N p0 p1 (fun (_ : Unit) =>
   some true) N 0)
def C4 (N : Nat) (p0 : Ae) (p1 : List Ag) : Option Bool :=
 (Ee N p0 p1).bind fun v1 =>
 some ((v1.2.2.2 == 15))
def DI (N : Nat) : Option Bool :=
 (Cd N false false).bind fun v1 =>
 (Gd N v1).bind fun v2 =>
 (Cd N true false).bind fun v3 =>
 (Gd N v3).bind fun v4 =>
 (Cd N true true).bind fun v5 =>
 (Gd N v5).bind fun v6 =>
 (Cd N false false).bind fun v7 =>
 (Ee N v7 (([(Ag.mk 1 0 1)] : List Ag))).bind fun v8 =>
 Bj (fun (v9 : Bool) =>
  some v9)
 fun j9 =>
 AY ((v2.2 == 0))
  ((CG N v2.1 (([(Ag.mk 1 1 1), (Ag.mk 2 1 0), (Ag.mk 1 0 1), (Ag.mk 2 0 0)] : List Ag))).bind fun v11 =>
  AY v11
   (AY ((v4.2 == 14))
    (AY ((v6.2 == 14))
     (AY ((v8.2.2.2 == 0))
      (AY ((v8.1 == 0))
       (AY (((v8.2.2.1.fTable == 0) && ((v8.2.2.1.fWriter == 1) && ((v8.2.2.1.fReader == 0) && true))))
        ((Cd N false false).bind fun v18 =>
        (C4 N v18 (([(Ag.mk 1 1 1), (Ag.mk 2 1 0), (Ag.mk 1 0 1), (Ag.mk 2 0 0)] : List Ag))).bind fun v19 =>
        j9 v19)
        (j9 false))
       (j9 false))
      (j9 false))
     (j9 false))
    (j9 false))
   (j9 false))
  (j9 false)
def Bq (_ : Nat) (p0 : List Ag) : Option ((List Ag)) :=
 (DK ((([] : List Ag)).length + p0.length ≤ Dj)).bind fun _ =>
 some ((([] : List Ag)) ++ p0)
def BL (_ : Nat) (p0 : List Ag) (p1 : Int) (p2 : Int) : Option (Nat × (List Ag)) :=
 (DK ((0 : Int) ≤ p1 ∧ (p1).toNat ≤ (p2).toNat ∧ 0 ≤ p2 ∧ (p2).toNat ≤ ((p0.length : Int)).toNat ∧ 0 ≤ (p0.length : Int) ∧ ((p0.length : Int)).toNat ≤ p0.length)).bind fun _ =>
 AY ((p1 == p2))
  (some (p0.length, p0))
  ((DK ((0 : Int) ≤ p1 ∧ 0 ≤ (p1).toNat ∧ (p1).toNat ≤ p0.length)).bind fun _ =>
  (DK ((0 : Int) ≤ p2 ∧ (p2).toNat ≤ p0.length ∧ p0.length ≤ p0.length)).bind fun _ =>
  (DK ((p1).toNat + (((p0.drop ((p2).toNat)).take ((p0.length - (p2).toNat)))).length ≤ p0.length)).bind fun _ =>
  (DK ((0 : Int) ≤ (((((p1).toNat + (((p0.drop ((p2).toNat)).take ((p0.length - (p2).toNat)))).length)) : Nat) : Int) ∧ (0 : Int) ≤ (p0.length : Int) ∧ ((((((p1).toNat + (((p0.drop ((p2).toNat)).take ((p0.length - (p2).toNat)))).length)) : Nat) : Int)).toNat ≤ ((p0.length : Int)).toNat ∧ ((p0.length : Int)).toNat ≤ (F4 p0 (0 + ((p1).toNat)) (((p0.drop ((p2).toNat)).take ((p0.length - (p2).toNat))))).length)).bind fun _ =>
  some (((p1).toNat + (((p0.drop ((p2).toNat)).take ((p0.length - (p2).toNat)))).length), F4 (F4 p0 (0 + ((p1).toNat)) (((p0.drop ((p2).toNat)).take ((p0.length - (p2).toNat))))) (((((((p1).toNat + (((p0.drop ((p2).toNat)).take ((p0.length - (p2).toNat)))).length)) : Nat) : Int)).toNat) (List.replicate ((((p0.length : Int)).toNat - ((((((p1).toNat + (((p0.drop ((p2).toNat)).take ((p0.length - (p2).toNat)))).length)) : Nat) : Int)).toNat)) ((Ag.mk 0 0 0)))))
def DO (N : Nat) (p0 : Ae) (j6 : ((List Ag)) → Option ((List Ag) × Int)) : Nat → ((List Ag) × Int) → Option ((List Ag) × Int)
 | 0, _ => none
 | n6 + 1, v6 =>
  AY ((decide (0 ≤ v6.2)))
   (Bj (fun (v9 : (List Ag)) =>
    DO N p0 j6 n6 (v9, (IntKind.wrap .i64 (v6.2 - 1))))
   fun j9 =>
   (Bq N v6.1).bind fun v10 =>
   (BL N v10 v6.2 ((IntKind.wrap .i64 (v6.2 + 1)))).bind fun v11 =>
   (DK (v11.1 ≤ v11.2.length)).bind fun _ =>
   (C4 N p0 (v11.2.take v11.1)).bind fun v14 =>
   AY v14
    (j9 (v11.2.take v11.1))
    (j9 v6.1))
   (j6 v6.1)
def F2 (N : Nat) (p0 : Ae) (p1 : List Ag) : Option ((List Ag) × Int) :=
 (Cj N p0).bind fun v1 =>
 AY ((v1 != 0))
  (some (([] : List Ag), v1))
  ((C4 N p0 p1).bind fun v3 =>
  AY ((!v3))
   (some (([] : List Ag), 13))
   ((Bq N p1).bind fun v5 =>
   DO N p0 (fun (v7 : (List Ag)) =>
    some (v7, 0)) N (v5, (IntKind.wrap .i64 ((v5.length : Int) - 1)))))
def B4 (N : Nat) (p0 : List (List Bool)) (p1 : Int) (p2 : Int) (j2 : Unit → Option Bool) : Nat → Int → Option Bool
 | 0, _ => none
 | n2 + 1, v2 =>
  AY ((decide (v2 < p1)))
   ((BT p0 v2).bind fun v5 =>
   AY (((v5.length : Int) != p2))
    (some false)
    (B4 N p0 p1 p2 j2 n2 (IntKind.wrap .i64 (v2 + 1))))
   (j2 ())
def CL (N : Nat) (p0 : List (List Bool)) (p1 : Int) (p2 : Int) : Option Bool :=
 AY (((p0.length : Int) != p1))
  (some false)
  (B4 N p0 p1 p2 (fun (_ : Unit) =>
   some true) N 0)
def BE (N : Nat) (p1 : AC) (j22 : Unit → Option Int) : Nat → Int → Option Int
 | 0, _ => none
 | n22 + 1, v22 =>
  AY ((decide (v22 < (p1.fRewrite.length : Int))))
   ((BT p1.fRewrite v22).bind fun v25 =>
   (BT v25 v22).bind fun v26 =>
   AY ((!v26))
    (some 1)
    (BE N p1 j22 n22 (IntKind.wrap .i64 (v22 + 1))))
   (j22 ())
def DE (N : Nat) (p0 : Ae) (p1 : AC) : Option Int :=
 Bj (fun (v1 : Bool) =>
  AY v1
   (some 1)
   (Bj (fun (v7 : Bool) =>
    AY v7
     (some 4)
     ((BT p0.fVersions p1.fFrom).bind fun v12 =>
     (BT p0.fVersions p1.fTo).bind fun v13 =>
     (CL N p1.fOK v12 v13).bind fun v14 =>
     AY ((!v14))
      (some 6)
      (AY ((p1.fKind != 4))
       (AY (((p1.fRewrite.length : Int) != 0))
        (some 6)
        (some 0))
       ((BT p0.fVersions p1.fFrom).bind fun v18 =>
       (BT p0.fVersions p1.fFrom).bind fun v19 =>
       (CL N p1.fRewrite v18 v19).bind fun v20 =>
       AY ((!v20))
        (some 6)
        (BE N p1 (fun (_ : Unit) =>
         some 0) N 0)))))
   fun j7 =>
   AY ((decide (p1.fFrom < 0)))
    (j7 true)
    (AY ((decide ((p0.fVersions.length : Int) ≤ p1.fFrom)))
     (j7 true)
     (AY ((decide (p1.fTo < 0)))
      (j7 true)
      (j7 (decide ((p0.fVersions.length : Int) ≤ p1.fTo)))))))
 fun j1 =>
 AY ((decide (p1.fKind < 1)))
  (j1 true)
  (AY ((decide (4 < p1.fKind)))
   (j1 true)
   (AY p1.fAware
    ((AZ N p1).bind fun v5 =>
    j1 v5)
    (j1 false)))
def A9 (N : Nat) (p0 : Ae) (j7 : Unit → Option Int) : Nat → Int → Option Int
 | 0, _ => none
 | n7 + 1, v7 =>
  AY ((decide (v7 < (p0.fVersions.length : Int))))
   ((BT p0.fVersions v7).bind fun v10 =>
   Bj (fun (v11 : Bool) =>
    AY v11
     (some 7)
     (A9 N p0 j7 n7 (IntKind.wrap .i64 (v7 + 1))))
   fun j11 =>
   AY ((decide (v10 < 1)))
    (j11 true)
    (AY ((decide (6 < v10)))
     (j11 true)
     ((BT p0.fNow v7).bind fun v14 =>
     AY ((decide (v14 < 0)))
      (j11 true)
      ((BT p0.fNow v7).bind fun v16 =>
      AY ((decide (v10 ≤ v16)))
       (j11 true)
       ((BT p0.fTarget v7).bind fun v18 =>
       AY ((decide (v18 < 0)))
        (j11 true)
        ((BT p0.fTarget v7).bind fun v20 =>
        j11 (decide (v10 ≤ v20))))))))
   (j7 ())
def A2 (N : Nat) (p0 : Ae) (j22 : Unit → Option Int) : Nat → Int → Option Int
 | 0, _ => none
 | n22 + 1, v22 =>
  AY ((decide (v22 < (p0.fTables.length : Int))))
   ((BT p0.fTables v22).bind fun v25 =>
   (DE N p0 v25).bind fun v26 =>
   AY ((v26 != 0))
    (some v26)
    (A2 N p0 j22 n22 (IntKind.wrap .i64 (v22 + 1))))
   (j22 ())
def BB (N : Nat) (p0 : Ae) : Option Int :=
 Bj (fun (v1 : Bool) =>
  AY v1
   (some 3)
   (Bj (fun (v4 : Bool) =>
    AY v4
     (some 6)
     (A9 N p0 (fun (_ : Unit) =>
      A2 N p0 (fun (_ : Unit) =>
       some 0) N 0) N 0))
   fun j4 =>
   AY (((p0.fNow.length : Int) != (p0.fVersions.length : Int)))
    (j4 true)
    (j4 ((p0.fTarget.length : Int) != (p0.fVersions.length : Int)))))
 fun j1 =>
 AY ((decide (6 < (p0.fVersions.length : Int))))
  (j1 true)
  (j1 (decide (12 < (p0.fTables.length : Int))))
def BP (N : Nat) (p0 : Ae) (j3 : ((List Int) × (List Int)) → Option (Ah × Int)) : Nat → ((List Int) × (List Int) × Int) → Option (Ah × Int)
 | 0, _ => none
 | n3 + 1, v3 =>
  AY ((decide (v3.2.2 < (p0.fVersions.length : Int))))
   ((BT p0.fNow v3.2.2).bind fun v6 =>
   (DK (v3.1.length + (([v6] : List Int)).length ≤ Dj)).bind fun _ =>
   (DK (v3.2.1.length + (([(-1)] : List Int)).length ≤ Dj)).bind fun _ =>
   BP N p0 j3 n3 (v3.1 ++ (([v6] : List Int)), v3.2.1 ++ (([(-1)] : List Int)), (IntKind.wrap .i64 (v3.2.2 + 1))))
   (j3 (v3.1, v3.2.1))
def Ba (N : Nat) (p0 : Ae) (j9 : ((List Int)) → Option (Ah × Int)) : Nat → ((List Int) × Int) → Option (Ah × Int)
 | 0, _ => none
 | n9 + 1, v9 =>
  AY ((decide (v9.2 < (p0.fTables.length : Int))))
   (Bj (fun (v12 : Int) =>
    (DK (v9.1.length + (([v12] : List Int)).length ≤ Dj)).bind fun _ =>
    Ba N p0 j9 n9 (v9.1 ++ (([v12] : List Int)), (IntKind.wrap .i64 (v9.2 + 1))))
   fun j12 =>
   (BT p0.fTables v9.2).bind fun v13 =>
   (AZ N v13).bind fun v14 =>
   AY v14
    ((BT p0.fTables v9.2).bind fun v16 =>
    (BT p0.fNow v16.fFrom).bind fun v17 =>
    (DK (0 ≤ v17)).bind fun _ =>
    j12 (C3 .u8 1 v17))
    (j12 0))
   (j9 v9.1)
def DB (N : Nat) (p0 : Ae) : Option (Ah × Int) :=
 (BB N p0).bind fun v1 =>
 AY ((v1 != 0))
  (some ((Ah.mk (([] : List Int)) (([] : List Int)) (([] : List Int))), v1))
  (BP N p0 (fun (v4 : (List Int) × (List Int)) =>
   Ba N p0 (fun (v10 : (List Int)) =>
    some ((Ah.mk v4.1 v4.2 v10), 0)) N (([] : List Int), 0)) N (([] : List Int), ([] : List Int), 0))
def BA (_ : Nat) (p0 : Ah) (p1 : Int) : Option Int :=
 (BT p0.fBase p1).bind fun v1 =>
 (DK (0 ≤ v1)).bind fun _ =>
 Bj (fun (v3 : Int) =>
  some v3)
 fun j3 =>
 (BT p0.fNext p1).bind fun v4 =>
 AY ((decide (0 ≤ v4)))
  ((BT p0.fNext p1).bind fun v6 =>
  (DK (0 ≤ v6)).bind fun _ =>
  j3 (MB .u8 ((C3 .u8 1 v1)) ((C3 .u8 1 v6))))
  (j3 (C3 .u8 1 v1))
def BQ (N : Nat) (p0 : Ae) (p1 : Ah) (j7 : Unit → Option Int) : Nat → Int → Option Int
 | 0, _ => none
 | n7 + 1, v7 =>
  AY ((decide (v7 < (p0.fVersions.length : Int))))
   (Bj (fun (v10 : Bool) =>
    AY v10
     (some 7)
     ((BT p1.fBase v7).bind fun v21 =>
     (BT p1.fNext v7).bind fun v22 =>
     AY ((v21 == v22))
      (some 1)
      (BQ N p0 p1 j7 n7 (IntKind.wrap .i64 (v7 + 1)))))
   fun j10 =>
   (BT p1.fBase v7).bind fun v11 =>
   AY ((decide (v11 < 0)))
    (j10 true)
    ((BT p1.fBase v7).bind fun v13 =>
    (BT p0.fVersions v7).bind fun v14 =>
    AY ((decide (v14 ≤ v13)))
     (j10 true)
     ((BT p1.fNext v7).bind fun v16 =>
     AY ((decide (v16 < (-1))))
      (j10 true)
      ((BT p1.fNext v7).bind fun v18 =>
      (BT p0.fVersions v7).bind fun v19 =>
      j10 (decide (v19 ≤ v18))))))
   (j7 ())
def BF (N : Nat) (p0 : Ae) (p1 : Ah) (j24 : Unit → Option Int) : Nat → Int → Option Int
 | 0, _ => none
 | n24 + 1, v24 =>
  AY ((decide (v24 < (p0.fTables.length : Int))))
   ((BT p0.fTables v24).bind fun v27 =>
   (BT p0.fVersions v27.fFrom).bind fun v28 =>
   (DK (0 ≤ v28)).bind fun _ =>
   Bj (fun (v30 : Bool) =>
    AY v30
     (some 1)
     (BF N p0 p1 j24 n24 (IntKind.wrap .i64 (v24 + 1))))
   fun j30 =>
   (AZ N v27).bind fun v31 =>
   AY ((!v31))
    ((BT p1.fHeld v24).bind fun v33 =>
    AY ((v33 != 0))
     (j30 true)
     ((AZ N v27).bind fun v35 =>
     AY v35
      ((BT p1.fHeld v24).bind fun v37 =>
      AY (((CE .u8 v37 ((IntKind.wrap .u8 ((C3 .u8 1 v28) - 1)))) != 0))
       (j30 true)
       ((BA N p1 v27.fFrom).bind fun v39 =>
       (BT p1.fHeld v24).bind fun v40 =>
       j30 ((CE .u8 v39 v40) != 0)))
      (j30 false)))
    ((AZ N v27).bind fun v41 =>
    AY v41
     ((BT p1.fHeld v24).bind fun v43 =>
     AY (((CE .u8 v43 ((IntKind.wrap .u8 ((C3 .u8 1 v28) - 1)))) != 0))
      (j30 true)
      ((BA N p1 v27.fFrom).bind fun v45 =>
      (BT p1.fHeld v24).bind fun v46 =>
      j30 ((CE .u8 v45 v46) != 0)))
     (j30 false)))
   (j24 ())
def Cy (N : Nat) (p0 : Ae) (p1 : Ah) : Option Int :=
 (BB N p0).bind fun v1 =>
 AY ((v1 != 0))
  (some v1)
  (Bj (fun (v3 : Bool) =>
   AY v3
    (some 6)
    (BQ N p0 p1 (fun (_ : Unit) =>
     BF N p0 p1 (fun (_ : Unit) =>
      some 0) N 0) N 0))
  fun j3 =>
  AY (((p1.fBase.length : Int) != (p0.fVersions.length : Int)))
   (j3 true)
   (AY (((p1.fNext.length : Int) != (p0.fVersions.length : Int)))
    (j3 true)
    (j3 ((p1.fHeld.length : Int) != (p0.fTables.length : Int)))))
def DD (_ : Nat) (p0 : Ag) : Option Bool :=
 Bj (fun (v1 : Bool) =>
  some v1)
 fun j1 =>
 AY ((decide (1 ≤ p0.fKind)))
  (AY ((decide (p0.fKind ≤ 4)))
   (AY ((decide (0 ≤ p0.fIndex)))
    (AY ((decide (0 ≤ p0.fVersion)))
     (AY ((p0.fKind == 1))
      (j1 true)
      (j1 (p0.fVersion == 0)))
     (j1 false))
    (j1 false))
   (j1 false))
  (j1 false)
def B2 (_ : Nat) (p0 : Int) (p1 : Int) : Option Bool :=
 (DK (0 ≤ p1)).bind fun _ =>
 some (((Fb .u8 ((Ew .u8 p0 p1)) 1) == 1))
def BG (N : Nat) (p0 : Ae) (p2 : Ag) (j12 : ((List Int)) → Option (Ah × Bool)) : Nat → ((List Int) × Int) → Option (Ah × Bool)
 | 0, _ => none
 | n12 + 1, v12 =>
  AY ((decide (v12.2 < (p0.fTables.length : Int))))
   (Bj (fun (v15 : (List Int)) =>
    BG N p0 p2 j12 n12 (v15, (IntKind.wrap .i64 (v12.2 + 1))))
   fun j15 =>
   Bj (fun (v16 : Bool) =>
    AY v16
     ((BT v12.1 v12.2).bind fun v22 =>
     (DK (0 ≤ p2.fVersion)).bind fun _ =>
     (BT v12.1 v12.2).bind fun _ =>
     j15 (v12.1.set ((v12.2).toNat) ((MB .u8 v22 ((C3 .u8 1 p2.fVersion))))))
     (j15 v12.1))
   fun j16 =>
   (BT p0.fTables v12.2).bind fun v17 =>
   AY ((v17.fFrom == p2.fIndex))
    ((BT p0.fTables v12.2).bind fun v19 =>
    (AZ N v19).bind fun v20 =>
    j16 v20)
    (j16 false))
   (j12 v12.1)
def Bp (N : Nat) (p0 : Ae) (p1 : Ah) (p2 : Ag) (v32 : AC) (v35 : Int) (j38 : Unit → Option (Ah × Bool)) : Nat → Int → Option (Ah × Bool)
 | 0, _ => none
 | n38 + 1, v38 =>
  (BT p0.fVersions v32.fFrom).bind fun v40 =>
  AY ((decide (v38 < v40)))
   (Bj (fun (v42 : Bool) =>
    Bj (fun (v47 : Bool) =>
     AY v47
      (some ((Ah.mk (([] : List Int)) (([] : List Int)) (([] : List Int))), false))
      (Bp N p0 p1 p2 v32 v35 j38 n38 (IntKind.wrap .i64 (v38 + 1))))
    fun j47 =>
    AY v42
     (AY ((v32.fKind == 4))
      ((BT v32.fRewrite v38).bind fun v50 =>
      (BT p1.fBase v32.fFrom).bind fun v51 =>
      (BT v50 v51).bind fun v52 =>
      j47 (!v52))
      (j47 false))
     (j47 false))
   fun j42 =>
   (BT p1.fHeld p2.fIndex).bind fun v43 =>
   (B2 N v43 v38).bind fun v44 =>
   AY v44
    ((B2 N v35 v38).bind fun v46 =>
    j42 (!v46))
    (j42 false))
   (j38 ())
def CV (N : Nat) (p0 : Ae) (p1 : Ah) (p2 : Ag) : Option (Ah × Bool) :=
 (DK ((([] : List Int)).length + p1.fBase.length ≤ Dj)).bind fun _ =>
 (DK ((([] : List Int)).length + p1.fNext.length ≤ Dj)).bind fun _ =>
 (DK ((([] : List Int)).length + p1.fHeld.length ≤ Dj)).bind fun _ =>
 Bj (fun (v4 : (List Int) × (List Int) × (List Int)) =>
  some ((Ah.mk v4.1 v4.2.1 v4.2.2), true))
 fun j4 =>
 AY ((p2.fKind == 1))
  (Bj (fun (v6 : Bool) =>
   AY v6
    (some ((Ah.mk (([] : List Int)) (([] : List Int)) (([] : List Int))), false))
    ((BT ((([] : List Int)) ++ p1.fNext) p2.fIndex).bind fun _ =>
    BG N p0 p2 (fun (v13 : (List Int)) =>
     j4 ((([] : List Int)) ++ p1.fBase, ((([] : List Int)) ++ p1.fNext).set ((p2.fIndex).toNat) p2.fVersion, v13)) N ((([] : List Int)) ++ p1.fHeld, 0)))
  fun j6 =>
  (BT p1.fNext p2.fIndex).bind fun v7 =>
  AY ((decide (0 ≤ v7)))
   (j6 true)
   ((BT p1.fBase p2.fIndex).bind fun v9 =>
   j6 (p2.fVersion == v9)))
  (AY ((p2.fKind == 2))
   ((BT p1.fNext p2.fIndex).bind fun v26 =>
   AY ((decide (v26 < 0)))
    (some ((Ah.mk (([] : List Int)) (([] : List Int)) (([] : List Int))), false))
    ((BT p1.fNext p2.fIndex).bind fun v28 =>
    (BT ((([] : List Int)) ++ p1.fBase) p2.fIndex).bind fun _ =>
    (BT ((([] : List Int)) ++ p1.fNext) p2.fIndex).bind fun _ =>
    j4 (((([] : List Int)) ++ p1.fBase).set ((p2.fIndex).toNat) v28, ((([] : List Int)) ++ p1.fNext).set ((p2.fIndex).toNat) ((-1)), (([] : List Int)) ++ p1.fHeld)))
   (AY ((p2.fKind == 3))
    ((BT p0.fTables p2.fIndex).bind fun v32 =>
    (AZ N v32).bind fun v33 =>
    AY ((!v33))
     (some ((Ah.mk (([] : List Int)) (([] : List Int)) (([] : List Int))), false))
     ((BA N p1 v32.fFrom).bind fun v35 =>
     (BT p1.fHeld p2.fIndex).bind fun v36 =>
     AY ((v36 == v35))
      (some ((Ah.mk (([] : List Int)) (([] : List Int)) (([] : List Int))), false))
      (Bp N p0 p1 p2 v32 v35 (fun (_ : Unit) =>
       (BT ((([] : List Int)) ++ p1.fHeld) p2.fIndex).bind fun _ =>
       j4 ((([] : List Int)) ++ p1.fBase, (([] : List Int)) ++ p1.fNext, ((([] : List Int)) ++ p1.fHeld).set ((p2.fIndex).toNat) v35)) N 0)))
    ((BT p1.fNext p2.fIndex).bind fun v55 =>
    AY ((decide (v55 < 0)))
     (some ((Ah.mk (([] : List Int)) (([] : List Int)) (([] : List Int))), false))
     ((BT ((([] : List Int)) ++ p1.fNext) p2.fIndex).bind fun _ =>
     j4 ((([] : List Int)) ++ p1.fBase, ((([] : List Int)) ++ p1.fNext).set ((p2.fIndex).toNat) ((-1)), (([] : List Int)) ++ p1.fHeld)))))
def DF (N : Nat) (p0 : Ae) (p1 : Ah) (p2 : Ag) : Option (Ah × Int) :=
 (Cy N p0 p1).bind fun v1 =>
 AY ((v1 != 0))
  (some ((Ah.mk (([] : List Int)) (([] : List Int)) (([] : List Int))), v1))
  ((DD N p2).bind fun v3 =>
  AY ((!v3))
   (some ((Ah.mk (([] : List Int)) (([] : List Int)) (([] : List Int))), 1))
   (Bj (fun (v5 : Bool) =>
    AY v5
     (some ((Ah.mk (([] : List Int)) (([] : List Int)) (([] : List Int))), 4))
     (Bj (fun (v11 : Bool) =>
      AY v11
       (some ((Ah.mk (([] : List Int)) (([] : List Int)) (([] : List Int))), 4))
       ((CV N p0 p1 p2).bind fun v15 =>
       AY ((!v15.2))
        (some ((Ah.mk (([] : List Int)) (([] : List Int)) (([] : List Int))), 11))
        (some (v15.1, 0))))
     fun j11 =>
     AY ((p2.fKind == 1))
      ((BT p0.fVersions p2.fIndex).bind fun v13 =>
      j11 (decide (v13 ≤ p2.fVersion)))
      (j11 false)))
   fun j5 =>
   AY ((p2.fKind == 3))
    (AY ((decide ((p0.fTables.length : Int) ≤ p2.fIndex)))
     (j5 true)
     (AY ((p2.fKind != 3))
      (j5 (decide ((p0.fVersions.length : Int) ≤ p2.fIndex)))
      (j5 false)))
    (AY ((p2.fKind != 3))
     (j5 (decide ((p0.fVersions.length : Int) ≤ p2.fIndex)))
     (j5 false))))
def Du (_ : Nat) (p0 : Ah) : Option Ah :=
 (DK ((([] : List Int)).length + p0.fBase.length ≤ Dj)).bind fun _ =>
 (DK ((([] : List Int)).length + p0.fNext.length ≤ Dj)).bind fun _ =>
 (DK ((([] : List Int)).length + p0.fHeld.length ≤ Dj)).bind fun _ =>
 some ((Ah.mk ((([] : List Int)) ++ p0.fBase) ((([] : List Int)) ++ p0.fNext) ((([] : List Int)) ++ p0.fHeld)))
def B7 (N : Nat) (p0 : Ah) (j1 : Int → Option ((List Ah))) : Nat → (Int × Int) → Option ((List Ah))
 | 0, _ => none
 | n1 + 1, v1 =>
  AY ((decide (v1.2 < (p0.fNext.length : Int))))
   (Bj (fun (v4 : Int) =>
    B7 N p0 j1 n1 (v4, (IntKind.wrap .i64 (v1.2 + 1))))
   fun j4 =>
   (BT p0.fNext v1.2).bind fun v5 =>
   AY ((decide (0 ≤ v5)))
    (j4 (IntKind.wrap .i64 (v1.1 + 1)))
    (j4 v1.1))
   (j1 v1.1)
def BD (N : Nat) (p0 : Ah) (v7 : (List Ah) × Int) (j12 : ((List Int)) → Option ((List Ah))) : Nat → ((List Int) × Int × Int) → Option ((List Ah))
 | 0, _ => none
 | n12 + 1, v12 =>
  AY ((decide (v12.2.2 < (p0.fNext.length : Int))))
   (Bj (fun (v15 : (List Int) × Int) =>
    BD N p0 v7 j12 n12 (v15.1, v15.2, (IntKind.wrap .i64 (v12.2.2 + 1))))
   fun j15 =>
   (BT p0.fNext v12.2.2).bind fun v16 =>
   AY ((decide (v16 < 0)))
    (j15 (v12.1, v12.2.1))
    (Bj (fun (v18 : (List Int)) =>
     j15 (v18, (IntKind.wrap .i64 (v12.2.1 + 1))))
    fun j18 =>
    (DK (0 ≤ v12.2.1)).bind fun _ =>
    AY (((Int.tmod ((Ew .i64 v7.2 v12.2.1)) 2) == 1))
     ((BT v12.1 v12.2.2).bind fun _ =>
     j18 (v12.1.set ((v12.2.2).toNat) ((-1))))
     (j18 v12.1)))
   (j12 v12.1)
def Bi (N : Nat) (p0 : Ah) (v2 : Int) (j7 : ((List Ah)) → Option ((List Ah))) : Nat → ((List Ah) × Int) → Option ((List Ah))
 | 0, _ => none
 | n7 + 1, v7 =>
  (DK (0 ≤ v2)).bind fun _ =>
  AY ((decide (v7.2 < (C3 .i64 1 v2))))
   ((Du N p0).bind fun v11 =>
   BD N p0 v7 (fun (v13 : (List Int)) =>
    (DK (v7.1.length + (([(Ah.mk v11.fBase v13 v11.fHeld)] : List Ah)).length ≤ Dj)).bind fun _ =>
    Bi N p0 v2 j7 n7 (v7.1 ++ (([(Ah.mk v11.fBase v13 v11.fHeld)] : List Ah)), (IntKind.wrap .i64 (v7.2 + 1)))) N (v11.fNext, 0, 0))
   (j7 v7.1)
def Dw (N : Nat) (p0 : Ah) : Option ((List Ah)) :=
 B7 N p0 (fun (v2 : Int) =>
  Bi N p0 v2 (fun (v8 : (List Ah)) =>
   some v8) N (([] : List Ah), 0)) N (0, 0)
def D6 (N : Nat) (p0 : Ae) (p1 : Ah) : Option ((List Ah) × Int) :=
 (Cy N p0 p1).bind fun v1 =>
 AY ((v1 != 0))
  (some (([] : List Ah), v1))
  ((Dw N p1).bind fun v3 =>
  some (v3, 0))
def Bd (N : Nat) (p0 : Ae) (p1 : Ah) (v1 : (List Aj) × Int) (v4 : AC) (v10 : (List Aj) × Int) (j17 : ((List Aj) × Bool) → Option ((List Aj))) : Nat → ((List Aj) × Bool × Int) → Option ((List Aj))
 | 0, _ => none
 | n17 + 1, v17 =>
  (BT p0.fVersions v4.fTo).bind fun v19 =>
  AY ((decide (v17.2.2 < v19)))
   (Bj (fun (v21 : (List Aj) × Bool) =>
    Bd N p0 p1 v1 v4 v10 j17 n17 (v21.1, v21.2, (IntKind.wrap .i64 (v17.2.2 + 1))))
   fun j21 =>
   (BA N p1 v4.fTo).bind fun v22 =>
   (B2 N v22 v17.2.2).bind fun v23 =>
   AY ((!v23))
    (j21 (v17.1, v17.2.1))
    (Bj (fun (v25 : Bool) =>
     Bj (fun (v29 : Bool) =>
      AY v29
       ((DK (v17.1.length + (([(Aj.mk v1.2 v10.2 v17.2.2)] : List Aj)).length ≤ Dj)).bind fun _ =>
       j21 (v17.1 ++ (([(Aj.mk v1.2 v10.2 v17.2.2)] : List Aj)), v25))
       (j21 (v17.1, v25)))
     fun j29 =>
     AY ((!v4.fAware))
      ((BT v4.fOK v10.2).bind fun v31 =>
      (BT v31 v17.2.2).bind fun v32 =>
      j29 (!v32))
      (j29 false))
    fun j25 =>
    AY v17.2.1
     (j25 true)
     ((BT v4.fOK v10.2).bind fun v27 =>
     (BT v27 v17.2.2).bind fun v28 =>
     j25 v28)))
   (j17 (v17.1, v17.2.1))
def Bo (N : Nat) (p0 : Ae) (p1 : Ah) (v1 : (List Aj) × Int) (v4 : AC) (v6 : Int) (j10 : ((List Aj)) → Option ((List Aj))) : Nat → ((List Aj) × Int) → Option ((List Aj))
 | 0, _ => none
 | n10 + 1, v10 =>
  (BT p0.fVersions v4.fFrom).bind fun v12 =>
  AY ((decide (v10.2 < v12)))
   (Bj (fun (v14 : (List Aj)) =>
    Bo N p0 p1 v1 v4 v6 j10 n10 (v14, (IntKind.wrap .i64 (v10.2 + 1))))
   fun j14 =>
   (B2 N v6 v10.2).bind fun v15 =>
   AY ((!v15))
    (j14 v10.1)
    (Bd N p0 p1 v1 v4 v10 (fun (v18 : (List Aj) × Bool) =>
     Bj (fun (v35 : Bool) =>
      AY v35
       ((DK (v18.1.length + (([(Aj.mk v1.2 v10.2 ((-1)))] : List Aj)).length ≤ Dj)).bind fun _ =>
       j14 (v18.1 ++ (([(Aj.mk v1.2 v10.2 ((-1)))] : List Aj))))
       (j14 v18.1))
     fun j35 =>
     AY v4.fAware
      (j35 (!v18.2))
      (j35 false)) N (v10.1, false, 0)))
   (j10 v10.1)
def B9 (N : Nat) (p0 : Ae) (p1 : Ah) (j1 : ((List Aj)) → Option ((List Aj))) : Nat → ((List Aj) × Int) → Option ((List Aj))
 | 0, _ => none
 | n1 + 1, v1 =>
  AY ((decide (v1.2 < (p0.fTables.length : Int))))
   ((BT p0.fTables v1.2).bind fun v4 =>
   (BA N p1 v4.fFrom).bind fun v5 =>
   Bj (fun (v6 : Int) =>
    Bo N p0 p1 v1 v4 v6 (fun (v11 : (List Aj)) =>
     B9 N p0 p1 j1 n1 (v11, (IntKind.wrap .i64 (v1.2 + 1)))) N (v1.1, 0))
   fun j6 =>
   (AZ N v4).bind fun v7 =>
   AY v7
    ((BT p1.fHeld v1.2).bind fun v9 =>
    j6 v9)
    (j6 v5))
   (j1 v1.1)
def DG (N : Nat) (p0 : Ae) (p1 : Ah) : Option ((List Aj)) :=
 B9 N p0 p1 (fun (v2 : (List Aj)) =>
  some v2) N (([] : List Aj), 0)
def B8 (N : Nat) (p0 : Ae) (v1 : (List Ah) × Int) (j3 : Unit → Option (Ah × Aj × Int)) : Nat → Int → Option (Ah × Aj × Int)
 | 0, _ => none
 | n3 + 1, v3 =>
  AY ((decide (v3 < (v1.1.length : Int))))
   ((BT v1.1 v3).bind fun v6 =>
   (DG N p0 v6).bind fun v7 =>
   AY ((decide (0 < (v7.length : Int))))
    ((BT v1.1 v3).bind fun v9 =>
    (BT v7 0).bind fun v10 =>
    some (v9, v10, 0))
    (B8 N p0 v1 j3 n3 (IntKind.wrap .i64 (v3 + 1))))
   (j3 ())
def DC (N : Nat) (p0 : Ae) (p1 : Ah) : Option (Ah × Aj × Int) :=
 (D6 N p0 p1).bind fun v1 =>
 AY ((v1.2 != 0))
  (some ((Ah.mk (([] : List Int)) (([] : List Int)) (([] : List Int))), (Aj.mk 0 0 0), v1.2))
  (B8 N p0 v1 (fun (_ : Unit) =>
   some ((Ah.mk (([] : List Int)) (([] : List Int)) (([] : List Int))), (Aj.mk 0 0 0), 15)) N 0)
def Cg (N : Nat) (p0 : Ae) (p1 : Ah) (j3 : Unit → Option Bool) : Nat → Int → Option Bool
 | 0, _ => none
 | n3 + 1, v3 =>
  AY ((decide (v3 < (p1.fBase.length : Int))))
   (Bj (fun (v6 : Bool) =>
    AY v6
     (some false)
     (Cg N p0 p1 j3 n3 (IntKind.wrap .i64 (v3 + 1))))
   fun j6 =>
   (BT p1.fNext v3).bind fun v7 =>
   AY ((decide (0 ≤ v7)))
    (j6 true)
    ((BT p1.fBase v3).bind fun v9 =>
    (BT p0.fTarget v3).bind fun v10 =>
    j6 (v9 != v10)))
   (j3 ())
def De (N : Nat) (p0 : Ae) (p1 : Ah) : Option Bool :=
 (Cy N p0 p1).bind fun v1 =>
 AY ((v1 != 0))
  (some false)
  (Cg N p0 p1 (fun (_ : Unit) =>
   some true) N 0)
def BS (N : Nat) (p0 : Ae) (p1 : List Ag) (j3 : Ah → Option (Int × Ah × Aj × Int)) : Nat → ((List Int) × (List Int) × (List Int) × Int) → Option (Int × Ah × Aj × Int)
 | 0, _ => none
 | n3 + 1, v3 =>
  AY ((decide (v3.2.2.2 < (p1.length : Int))))
   (Bj (fun (v6 : (List Int) × (List Int) × (List Int)) =>
    (DC N p0 ((Ah.mk v6.1 v6.2.1 v6.2.2))).bind fun v14 =>
    AY ((v14.2.2 == 0))
     (some (v3.2.2.2, v14.1, v14.2.1, 0))
     (BS N p0 p1 j3 n3 (v6.1, v6.2.1, v6.2.2, (IntKind.wrap .i64 (v3.2.2.2 + 1)))))
   fun j6 =>
   AY ((decide (0 ≤ v3.2.2.2)))
    ((BT p1 v3.2.2.2).bind fun v8 =>
    (DF N p0 ((Ah.mk v3.1 v3.2.1 v3.2.2.1)) v8).bind fun v9 =>
    Bj (fun (v10 : Bool) =>
     AY v10
      (some (v3.2.2.2, (Ah.mk (([] : List Int)) (([] : List Int)) (([] : List Int))), (Aj.mk 0 0 0), 0))
      (j6 (v9.1.fBase, v9.1.fNext, v9.1.fHeld)))
    fun j10 =>
    AY ((v9.2 != 0))
     (j10 true)
     ((BT p1 v3.2.2.2).bind fun v12 =>
     j10 (v12.fKind == 4)))
    (j6 (v3.1, v3.2.1, v3.2.2.1)))
   (j3 (Ah.mk v3.1 v3.2.1 v3.2.2.1))
def C6 (N : Nat) (p0 : Ae) (p1 : List Ag) : Option (Int × Ah × Aj × Int) :=
 (DB N p0).bind fun v1 =>
 AY ((v1.2 != 0))
  (some (0, (Ah.mk (([] : List Int)) (([] : List Int)) (([] : List Int))), (Aj.mk 0 0 0), v1.2))
  (BS N p0 p1 (fun (v4 : Ah) =>
   (De N p0 v4).bind fun v16 =>
   AY ((!v16))
    (some ((p1.length : Int), (Ah.mk (([] : List Int)) (([] : List Int)) (([] : List Int))), (Aj.mk 0 0 0), 14))
    (some (0, (Ah.mk (([] : List Int)) (([] : List Int)) (([] : List Int))), (Aj.mk 0 0 0), 15))) N (v1.1.fBase, v1.1.fNext, v1.1.fHeld, (-1)))
def CX (N : Nat) (p0 : Ae) (p1 : List Ag) : Option Bool :=
 (C6 N p0 p1).bind fun v1 =>
 some ((v1.2.2.2 == 15))
def Cf (N : Nat) (p0 : Ae) (j6 : ((List Ag)) → Option ((List Ag) × Int)) : Nat → ((List Ag) × Int) → Option ((List Ag) × Int)
 | 0, _ => none
 | n6 + 1, v6 =>
  AY ((decide (0 ≤ v6.2)))
   (Bj (fun (v9 : (List Ag)) =>
    Cf N p0 j6 n6 (v9, (IntKind.wrap .i64 (v6.2 - 1))))
   fun j9 =>
   (DK ((0 : Int) ≤ v6.2 ∧ 0 ≤ (v6.2).toNat ∧ (v6.2).toNat ≤ v6.1.length)).bind fun _ =>
   (DK ((([] : List Ag)).length + (((v6.1.drop 0).take ((v6.2).toNat - 0))).length ≤ Dj)).bind fun _ =>
   (DK ((0 : Int) ≤ (IntKind.wrap .i64 (v6.2 + 1)) ∧ ((IntKind.wrap .i64 (v6.2 + 1))).toNat ≤ v6.1.length ∧ v6.1.length ≤ v6.1.length)).bind fun _ =>
   (DK (((([] : List Ag)) ++ (((v6.1.drop 0).take ((v6.2).toNat - 0)))).length + (((v6.1.drop ((IntKind.wrap .i64 (v6.2 + 1))).toNat).take (v6.1.length - ((IntKind.wrap .i64 (v6.2 + 1))).toNat))).length ≤ Dj)).bind fun _ =>
   (CX N p0 (((([] : List Ag)) ++ (((v6.1.drop 0).take ((v6.2).toNat - 0)))) ++ (((v6.1.drop ((IntKind.wrap .i64 (v6.2 + 1))).toNat).take (v6.1.length - ((IntKind.wrap .i64 (v6.2 + 1))).toNat))))).bind fun v14 =>
   AY v14
    (j9 (((([] : List Ag)) ++ (((v6.1.drop 0).take ((v6.2).toNat - 0)))) ++ (((v6.1.drop ((IntKind.wrap .i64 (v6.2 + 1))).toNat).take (v6.1.length - ((IntKind.wrap .i64 (v6.2 + 1))).toNat)))))
    (j9 v6.1))
   (j6 v6.1)
def DQ (N : Nat) (p0 : Ae) (p1 : List Ag) : Option ((List Ag) × Int) :=
 (BB N p0).bind fun v1 =>
 AY ((v1 != 0))
  (some (([] : List Ag), v1))
  ((CX N p0 p1).bind fun v3 =>
  AY ((!v3))
   (some (([] : List Ag), 13))
   ((DK ((([] : List Ag)).length + p1.length ≤ Dj)).bind fun _ =>
   Cf N p0 (fun (v7 : (List Ag)) =>
    some (v7, 0)) N ((([] : List Ag)) ++ p1, (IntKind.wrap .i64 ((p1.length : Int) - 1)))))
def B6 (N : Nat) (v1 : Ae × Bool) (v8 : (List Ag) × Int) (j18 : ((List Ag)) → Option Bool) : Nat → ((List Ag) × Int) → Option Bool
 | 0, _ => none
 | n18 + 1, v18 =>
  AY ((decide (v18.2 < (v8.1.length : Int))))
   ((DK ((0 : Int) ≤ v18.2 ∧ 0 ≤ (v18.2).toNat ∧ (v18.2).toNat ≤ v18.1.length)).bind fun _ =>
   (DK ((([] : List Ag)).length + (((v18.1.drop 0).take ((v18.2).toNat - 0))).length ≤ Dj)).bind fun _ =>
   (DK ((0 : Int) ≤ (IntKind.wrap .i64 (v18.2 + 1)) ∧ ((IntKind.wrap .i64 (v18.2 + 1))).toNat ≤ v18.1.length ∧ v18.1.length ≤ v18.1.length)).bind fun _ =>
   (DK (((([] : List Ag)) ++ (((v18.1.drop 0).take ((v18.2).toNat - 0)))).length + (((v18.1.drop ((IntKind.wrap .i64 (v18.2 + 1))).toNat).take (v18.1.length - ((IntKind.wrap .i64 (v18.2 + 1))).toNat))).length ≤ Dj)).bind fun _ =>
   (C4 N v1.1 (((([] : List Ag)) ++ (((v18.1.drop 0).take ((v18.2).toNat - 0)))) ++ (((v18.1.drop ((IntKind.wrap .i64 (v18.2 + 1))).toNat).take (v18.1.length - ((IntKind.wrap .i64 (v18.2 + 1))).toNat))))).bind fun v25 =>
   AY v25
    (some false)
    (B6 N v1 v8 j18 n18 (v18.1, (IntKind.wrap .i64 (v18.2 + 1)))))
   (j18 v18.1)
def CW (N : Nat) (p0 : Ca) (p1 : List Ag) : Option Bool :=
 (Ej N p0).bind fun v1 =>
 Bj (fun (v2 : Bool) =>
  AY v2
   ((DI N).bind fun v7 =>
   some v7)
   ((F2 N v1.1 p1).bind fun v8 =>
   (DQ N v1.1 p1).bind fun v9 =>
   Bj (fun (v10 : Bool) =>
    AY v10
     (Bj (fun (v15 : Bool) =>
      some v15)
     fun j15 =>
     AY ((v8.2 == v9.2))
      ((CG N v8.1 v9.1).bind fun v17 =>
      j15 v17)
      (j15 false))
     (B6 N v1 v8 (fun (v19 : (List Ag)) =>
      (C4 N v1.1 v19).bind fun v27 =>
      some v27) N (v8.1, 0)))
   fun j10 =>
   AY ((v8.2 != v9.2))
    (j10 true)
    ((CG N v8.1 v9.1).bind fun v12 =>
    AY ((!v12))
     (j10 true)
     (j10 (v8.2 != 0)))))
 fun j2 =>
 (DI N).bind fun v3 =>
 AY ((!v3))
  (j2 true)
  (AY ((!v1.2))
   (j2 true)
   (j2 (decide (12 < (p1.length : Int)))))
def L2 {α : Type} (w : α → Prop) (xs : List α) : Prop := ∀ x, x ∈ xs → w x
def SP (n : Int) : Prop := (Lit.int .i64 n).wf = true
def KP (n : Int) : Prop := (Lit.int .u8 n).wf = true
def TU (n : Int) : Prop := (Lit.int .u16 n).wf = true
def Gv (x : GT) : Prop := KP x.fKind ∧ KP x.fFrom ∧ KP x.fTo ∧ (fun _ => True) x.fAware ∧ TU x.fBad ∧ TU x.fLost ∧ True
def EO (x : Ca) : Prop := (L2 KP) x.fVersions ∧ (L2 KP) x.fNow ∧ (L2 KP) x.fTarget ∧ (L2 Gv) x.fLinks ∧ True
def KB (x : Ag) : Prop := SP x.fKind ∧ SP x.fIndex ∧ SP x.fVersion ∧ True
end Go.Lift

/- That the code does what the shallow programs do, function by function. Written by a program (gen.py). -/
namespace Go.Lift
open Go.RowKit
open Go.Proofs
theorem Ad : Try.prog.follows .mixedOrders = true := by kernel_rfl
theorem Vd : D9 Try.prog 101 true = true := by kernel_rfl
theorem RD : D9 Try.prog 22 false = true := by kernel_rfl
theorem T4 : D9 Try.prog 23 false = true := by kernel_rfl
theorem VF : D9 Try.prog 25 true = true := by kernel_rfl
theorem A0 : D9 Try.prog 27 false = true := by kernel_rfl
theorem Gr : D9 Try.prog 28 false = true := by kernel_rfl
theorem B1 : D9 Try.prog 3 false = true := by kernel_rfl
theorem C5 : D9 Try.prog 30 true = true := by kernel_rfl
theorem P1 : D9 Try.prog 4 false = true := by kernel_rfl
theorem Gq : D9 Try.prog 41 false = true := by kernel_rfl
theorem Bl : D9 Try.prog 43 true = true := by kernel_rfl
theorem Hl : D9 Try.prog 45 true = true := by kernel_rfl
theorem Ve : D9 Try.prog 5 false = true := by kernel_rfl
theorem Hb : D9 Try.prog 63 true = true := by kernel_rfl
theorem IL : D9 Try.prog 73 false = true := by kernel_rfl
theorem Gm : D9 Try.prog 75 true = true := by kernel_rfl
theorem Nz : D9 Try.prog 76 false = true := by kernel_rfl
theorem Vr : D9 Try.prog 82 false = true := by kernel_rfl
theorem VW : D9 Try.prog 84 true = true := by kernel_rfl
theorem Jv : D9 Try.prog 87 false = true := by kernel_rfl
theorem U9 : N3 Try.prog 22 = true := by kernel_rfl
theorem Uj : Ez Try.prog 101 128 = true := by kernel_rfl
theorem K2 : Ez Try.prog 3 8 = true := by kernel_rfl
theorem Uh : Ez Try.prog 4 1 = true := by kernel_rfl
theorem To : Ez Try.prog 43 72 = true := by kernel_rfl
theorem P6 : Ez Try.prog 45 24 = true := by kernel_rfl
theorem TG : Ez Try.prog 5 1 = true := by kernel_rfl
theorem JJ : Ez Try.prog 63 24 = true := by kernel_rfl
theorem Ux : Ez Try.prog 75 80 = true := by kernel_rfl
theorem UJ : Ez Try.prog 76 24 = true := by kernel_rfl
theorem Po : Ez Try.prog 87 1 = true := by kernel_rfl
theorem LX : Ci Try.prog 101 0 0 = true := by kernel_rfl
theorem O4 : Ci Try.prog 101 1 3 = true := by kernel_rfl
theorem RH : Ci Try.prog 101 2 4 = true := by kernel_rfl
theorem Ov : Ci Try.prog 101 3 7 = true := by kernel_rfl
theorem N7 : Ci Try.prog 25 0 0 = true := by kernel_rfl
theorem S1 : Ci Try.prog 25 1 1 = true := by kernel_rfl
theorem SM : Ci Try.prog 25 2 2 = true := by kernel_rfl
theorem NA : Ci Try.prog 25 3 3 = true := by kernel_rfl
theorem Bk : Ci Try.prog 30 0 0 = true := by kernel_rfl
theorem FD : Ci Try.prog 30 1 1 = true := by kernel_rfl
theorem G6 : Ci Try.prog 30 2 2 = true := by kernel_rfl
theorem Cl : Ci Try.prog 30 3 3 = true := by kernel_rfl
theorem Cp : Ci Try.prog 43 0 0 = true := by kernel_rfl
theorem Bu : Ci Try.prog 43 1 1 = true := by kernel_rfl
theorem Cn : Ci Try.prog 43 2 2 = true := by kernel_rfl
theorem Ei : Ci Try.prog 63 0 0 = true := by kernel_rfl
theorem D8 : Ci Try.prog 63 1 1 = true := by kernel_rfl
theorem FH : Ci Try.prog 63 2 2 = true := by kernel_rfl
theorem ER : Ci Try.prog 75 0 0 = true := by kernel_rfl
theorem CF : Ci Try.prog 75 1 1 = true := by kernel_rfl
theorem GZ : Ci Try.prog 75 2 2 = true := by kernel_rfl
theorem HN : Ci Try.prog 75 3 3 = true := by kernel_rfl
theorem Il : Ci Try.prog 75 4 4 = true := by kernel_rfl
theorem FF : Ci Try.prog 75 5 5 = true := by kernel_rfl
theorem Sl : Ci Try.prog 84 0 0 = true := by kernel_rfl
theorem Sj : Ci Try.prog 84 1 1 = true := by kernel_rfl
theorem Sy : Ci Try.prog 84 2 2 = true := by kernel_rfl
theorem Sn : Ci Try.prog 84 3 3 = true := by kernel_rfl
theorem Sm : Ci Try.prog 84 4 4 = true := by kernel_rfl
theorem SN : Ci Try.prog 84 5 5 = true := by kernel_rfl
theorem UZ : AL Try.prog 100 = true := by kernel_rfl
theorem Va : AL Try.prog 101 = true := by kernel_rfl
theorem Tw : AL Try.prog 102 = true := by kernel_rfl
theorem Uw : AL Try.prog 103 = true := by kernel_rfl
theorem UU : AL Try.prog 104 = true := by kernel_rfl
theorem Vs : AL Try.prog 105 = true := by kernel_rfl
theorem UG : AL Try.prog 106 = true := by kernel_rfl
theorem Tu : AL Try.prog 107 = true := by kernel_rfl
theorem UN : AL Try.prog 11 = true := by kernel_rfl
theorem Uy : AL Try.prog 110 = true := by kernel_rfl
theorem Ur : AL Try.prog 111 = true := by kernel_rfl
theorem UH : AL Try.prog 112 = true := by kernel_rfl
theorem Vk : AL Try.prog 113 = true := by kernel_rfl
theorem UI : AL Try.prog 114 = true := by kernel_rfl
theorem U0 : AL Try.prog 115 = true := by kernel_rfl
theorem Vn : AL Try.prog 116 = true := by kernel_rfl
theorem Tf : AL Try.prog 119 = true := by kernel_rfl
theorem U7 : AL Try.prog 120 = true := by kernel_rfl
theorem UX : AL Try.prog 121 = true := by kernel_rfl
theorem UW : AL Try.prog 122 = true := by kernel_rfl
theorem UK : AL Try.prog 123 = true := by kernel_rfl
theorem T7 : AL Try.prog 13 = true := by kernel_rfl
theorem T8 : AL Try.prog 15 = true := by kernel_rfl
theorem Q6 : AL Try.prog 16 = true := by kernel_rfl
theorem US : AL Try.prog 18 = true := by kernel_rfl
theorem U3 : AL Try.prog 19 = true := by kernel_rfl
theorem VJ : AL Try.prog 20 = true := by kernel_rfl
theorem VG : AL Try.prog 22 = true := by kernel_rfl
theorem Ud : AL Try.prog 24 = true := by kernel_rfl
theorem V7 : AL Try.prog 27 = true := by kernel_rfl
theorem VX : AL Try.prog 29 = true := by kernel_rfl
theorem Wj : AL Try.prog 30 = true := by kernel_rfl
theorem V8 : AL Try.prog 31 = true := by kernel_rfl
theorem VU : AL Try.prog 32 = true := by kernel_rfl
theorem TM : AL Try.prog 33 = true := by kernel_rfl
theorem RF : AL Try.prog 35 = true := by kernel_rfl
theorem U4 : AL Try.prog 37 = true := by kernel_rfl
theorem TF : AL Try.prog 38 = true := by kernel_rfl
theorem Vf : AL Try.prog 39 = true := by kernel_rfl
theorem Uu : AL Try.prog 40 = true := by kernel_rfl
theorem Wo : AL Try.prog 41 = true := by kernel_rfl
theorem VL : AL Try.prog 42 = true := by kernel_rfl
theorem VV : AL Try.prog 43 = true := by kernel_rfl
theorem Vm : AL Try.prog 45 = true := by kernel_rfl
theorem NB : AL Try.prog 46 = true := by kernel_rfl
theorem U6 : AL Try.prog 47 = true := by kernel_rfl
theorem QY : AL Try.prog 49 = true := by kernel_rfl
theorem V3 : AL Try.prog 50 = true := by kernel_rfl
theorem Ut : AL Try.prog 54 = true := by kernel_rfl
theorem V4 : AL Try.prog 55 = true := by kernel_rfl
theorem Wf : AL Try.prog 56 = true := by kernel_rfl
theorem Wp : AL Try.prog 57 = true := by kernel_rfl
theorem Wc : AL Try.prog 58 = true := by kernel_rfl
theorem Se : AL Try.prog 60 = true := by kernel_rfl
theorem TE : AL Try.prog 61 = true := by kernel_rfl
theorem Vv : AL Try.prog 62 = true := by kernel_rfl
theorem V0 : AL Try.prog 63 = true := by kernel_rfl
theorem VR : AL Try.prog 64 = true := by kernel_rfl
theorem V9 : AL Try.prog 65 = true := by kernel_rfl
theorem Wg : AL Try.prog 66 = true := by kernel_rfl
theorem RW : AL Try.prog 72 = true := by kernel_rfl
theorem V6 : AL Try.prog 73 = true := by kernel_rfl
theorem Ui : AL Try.prog 74 = true := by kernel_rfl
theorem VY : AL Try.prog 75 = true := by kernel_rfl
theorem VI : AL Try.prog 76 = true := by kernel_rfl
theorem Sa : AL Try.prog 77 = true := by kernel_rfl
theorem VN : AL Try.prog 78 = true := by kernel_rfl
theorem VE : AL Try.prog 79 = true := by kernel_rfl
theorem VK : AL Try.prog 80 = true := by kernel_rfl
theorem Wk : AL Try.prog 81 = true := by kernel_rfl
theorem Wa : AL Try.prog 82 = true := by kernel_rfl
theorem Wm : AL Try.prog 85 = true := by kernel_rfl
theorem UB : AL Try.prog 86 = true := by kernel_rfl
theorem Wq : AL Try.prog 87 = true := by kernel_rfl
theorem V2 : AL Try.prog 88 = true := by kernel_rfl
theorem SX : AL Try.prog 89 = true := by kernel_rfl
theorem Wl : AL Try.prog 90 = true := by kernel_rfl
theorem UO : AL Try.prog 91 = true := by kernel_rfl
theorem Wi : AL Try.prog 92 = true := by kernel_rfl
theorem V1 : AL Try.prog 93 = true := by kernel_rfl
theorem VO : AL Try.prog 97 = true := by kernel_rfl
theorem UM : AL Try.prog 98 = true := by kernel_rfl
theorem TP : AL Try.prog 99 = true := by kernel_rfl
theorem Qc : MJ Try.prog 133 .u64 = true := by kernel_rfl
theorem P4 : MJ Try.prog 143 .u32 = true := by kernel_rfl
theorem Tz : MJ Try.prog 146 .u64 = true := by kernel_rfl
theorem Ue : MJ Try.prog 3 .i64 = true := by kernel_rfl
theorem Wr : MJ Try.prog 5 .u8 = true := by kernel_rfl
theorem TY : Try.prog.underlying 9 = some .string := by kernel_rfl
theorem NP : Try.prog.underlying 125 = some (.map 9 3) := by kernel_rfl
theorem TC : G5 Try.prog 101 = some [(0, 3), (3, 1), (4, 3), (7, 1)] := by kernel_rfl
theorem UD : G5 Try.prog 30 = some [(0, 1), (1, 1), (2, 1), (3, 1)] := by kernel_rfl
theorem Fa : G5 Try.prog 43 = some [(0, 1), (1, 1), (2, 1)] := by kernel_rfl
theorem Jg : G5 Try.prog 45 = some [(0, 1), (1, 1), (2, 1)] := by kernel_rfl
theorem Oq : G5 Try.prog 63 = some [(0, 1), (1, 1), (2, 1)] := by kernel_rfl
theorem UR : G5 Try.prog 75 = some [(0, 1), (1, 1), (2, 1), (3, 1), (4, 1), (5, 1)] := by kernel_rfl
theorem UT : Qp Try.prog 45 = some [0, 0, 0] := by kernel_rfl
theorem Vi : Qp Try.prog 63 = some [0, 0, 0] := by kernel_rfl
theorem Fm : sliceB Try.prog 118 45 = true := by kernel_rfl
theorem IA : sliceB Try.prog 22 5 = true := by kernel_rfl
theorem Rt : sliceB Try.prog 23 84 = true := by kernel_rfl
theorem AE : sliceB Try.prog 27 3 = true := by kernel_rfl
theorem Dz : sliceB Try.prog 28 75 = true := by kernel_rfl
theorem Bg : sliceB Try.prog 33 63 = true := by kernel_rfl
theorem C8 : sliceB Try.prog 41 87 = true := by kernel_rfl
theorem Ff : sliceB Try.prog 73 76 = true := by kernel_rfl
theorem Fx : sliceB Try.prog 76 4 = true := by kernel_rfl
theorem I7 : sliceB Try.prog 89 43 = true := by kernel_rfl
theorem GV : sliceB Try.prog 96 101 = true := by kernel_rfl
theorem RB : (Try.prog.underlying 133).isSome = true := by kernel_rfl
theorem P8 : (Try.prog.underlying 143).isSome = true := by kernel_rfl
theorem Tg : (Try.prog.underlying 146).isSome = true := by kernel_rfl
theorem Vz : (Try.prog.underlying 3).isSome = true := by kernel_rfl
theorem Up : (Try.prog.underlying 5).isSome = true := by kernel_rfl
theorem Vt : Nf Try.prog 9 = true := by kernel_rfl
theorem ID : FX Try.prog 101 8 = true := by kernel_rfl
theorem V5 : FX Try.prog 25 4 = true := by kernel_rfl
theorem QN : FX Try.prog 27 1 = true := by kernel_rfl
theorem VH : FX Try.prog 28 1 = true := by kernel_rfl
theorem CS : FX Try.prog 3 1 = true := by kernel_rfl
theorem CR : FX Try.prog 30 4 = true := by kernel_rfl
theorem OS : FX Try.prog 4 1 = true := by kernel_rfl
theorem VT : FX Try.prog 41 1 = true := by kernel_rfl
theorem AO : FX Try.prog 43 3 = true := by kernel_rfl
theorem Dm : FX Try.prog 45 3 = true := by kernel_rfl
theorem T0 : FX Try.prog 5 1 = true := by kernel_rfl
theorem Cs : FX Try.prog 63 3 = true := by kernel_rfl
theorem U5 : FX Try.prog 73 1 = true := by kernel_rfl
theorem Dt : FX Try.prog 75 6 = true := by kernel_rfl
theorem Lz : FX Try.prog 76 1 = true := by kernel_rfl
theorem TQ : FX Try.prog 84 6 = true := by kernel_rfl
theorem E5 : FX Try.prog 87 1 = true := by kernel_rfl
theorem OM : DR Try.prog 101 = some (.agg #[.slice none 0 0, .slice none 0 0, .slice none 0 0, .int .i64 0, .int .i64 0, .int .i64 0, .int .i64 0, .slice none 0 0]) := by kernel_rfl
theorem J4 : DR Try.prog 3 = some (.int .i64 0) := by kernel_rfl
theorem QE : DR Try.prog 30 = some (.agg #[.slice none 0 0, .slice none 0 0, .slice none 0 0, .slice none 0 0]) := by kernel_rfl
theorem Tx : DR Try.prog 4 = some (.bool false) := by kernel_rfl
theorem Co : DR Try.prog 43 = some (.agg #[.slice none 0 0, .slice none 0 0, .slice none 0 0]) := by kernel_rfl
theorem EU : DR Try.prog 45 = some (.agg #[.int .i64 0, .int .i64 0, .int .i64 0]) := by kernel_rfl
theorem Vh : DR Try.prog 5 = some (.int .u8 0) := by kernel_rfl
theorem Fi : DR Try.prog 63 = some (.agg #[.int .i64 0, .int .i64 0, .int .i64 0]) := by kernel_rfl
theorem Jx : DR Try.prog 75 = some (.agg #[.int .i64 0, .int .i64 0, .int .i64 0, .bool false, .slice none 0 0, .slice none 0 0]) := by kernel_rfl
theorem Ua : DR Try.prog 76 = some (.slice none 0 0) := by kernel_rfl
theorem VS : DR Try.prog 84 = some (.agg #[.int .u8 0, .int .u8 0, .int .u8 0, .bool false, .int .u16 0, .int .u16 0]) := by kernel_rfl
theorem NF : DR Try.prog 87 = some (.int .u8 0) := by kernel_rfl
end Go.Lift

/- That the code does what the shallow programs do, function by function. Written by a program (gen.py). -/
namespace Go.Lift
open Go.RowKit
open Go.Proofs
set_option maxRecDepth 10000 in
theorem Hk (N : Nat) (p0 : List Int) (p1 : Int) (r : Int) (h : Dc N p0 p1 = some r) : AD Try.prog 45 [.e (.one (.pure (.sl (p0.map A3)))), .e (.one (.pure (.val (.int .i64 p1))))] [] (.e (.one (.pure (.val (.int .i64 r))))) := by
 unfold Dc at h
 refine As (n := 14) (rs := [.tmp 4]) Try.func45 rfl rfl rfl (Bz rfl) (Bz rfl) rfl fun w0 S0 => ?_
 refine Ab (Aa Ad rfl (qa rfl (Ac (Ab (Ab (Aa Ad rfl (qm rfl (qm rfl (AQ IA rfl (Bc rfl (Ac ?_)))))))))))
 refine Au rfl (fun c1 => ?_) (fun c1 => ?_)
 ·have h := Ap c1 h
  refine Ab (Aa Ad rfl (qm rfl (qm rfl ?_)))
  obtain ⟨v2, a2, b2, h⟩ := An h
  refine qi IA T0 a2 (Al b2) rfl (qk Ve rfl (It Up Ue rfl (qa rfl (Ac ?_))))
  obtain rfl := sj h
  refine Am (sm [] [(4, .e (.one (.pure (.val (.int .i64 ((IntKind.wrap .i64 v2)))))))] [] rfl rfl) (AB ?_)
  exact ⟨⟨[_], ⟨.tmp _ _ rfl, trivial⟩, rfl⟩, trivial⟩
 ·have h := Aq c1 h
  refine Av (Ab (Aa Ad rfl (qa rfl (Ac ?_))))
  obtain rfl := sj h
  refine Am (sm [] [(4, .e (.one (.pure (.val (.int .i64 0)))))] [] rfl rfl) (AB ?_)
  exact ⟨⟨[_], ⟨.tmp _ _ rfl, trivial⟩, rfl⟩, trivial⟩
set_option maxRecDepth 10000 in
theorem BZ (N : Nat) (p0 : AC) (r : Bool) (h : AZ N p0 = some r) : AD Try.prog 46 [.e (.agg [.pure (.val (.int .i64 p0.fKind)), .pure (.val (.int .i64 p0.fFrom)), .pure (.val (.int .i64 p0.fTo)), .pure (.val (.bool p0.fAware)), .pure (.sl (p0.fOK.map (DY eB))), .pure (.sl (p0.fRewrite.map (DY eB)))])] [] (.e (.one (.pure (.val (.bool r))))) := by
 unfold AZ at h
 refine As (n := 11) (rs := [.tmp 2]) Try.func46 rfl rfl rfl (Bz rfl) (Bz rfl) rfl fun w0 S0 => ?_
 refine Ab (Aa Ad rfl (qb rfl (qa rfl (Ac ?_))))
 refine AR h (fun v1 => mk [(2, .e (.one (.pure (.val (.bool v1)))))] []) (fun j1 h => ?_) (fun v1 h => ?_)
 ·refine Aa Ad rfl (qf ER rfl (ql B1 rfl (BO rfl (qm rfl ?_))))
  refine AF (t := 6) rfl (fun c2 => ?_) (fun c2 => ?_)
  ·have h := Ap c2 h
   refine qn rfl (qn rfl (qn rfl (qp rfl (qa rfl (Ac ?_)))))
   exact Ax _ h (sm [] _ _ rfl rfl)
  ·have h := Aq c2 h
   refine qf ER rfl (ql B1 rfl (BO rfl (qp rfl (qa rfl (Ac ?_)))))
   exact Ax _ h (sm [] _ _ rfl rfl)
 ·obtain rfl := sj h
  refine Am (sm [] [(2, .e (.one (.pure (.val (.bool v1)))))] [] rfl rfl) (AB ?_)
  exact ⟨⟨[_], ⟨.tmp _ _ rfl, trivial⟩, rfl⟩, trivial⟩
set_option maxRecDepth 10000 in
theorem Hx (N : Nat) (p0 : Int) (p1 : Int) (p2 : Int) (p3 : Bool) (r : (List (List Bool))) (h : Dd N p0 p1 p2 p3 = some r) : AD Try.prog 47 [.e (.one (.pure (.val (.int .i64 p0)))), .e (.one (.pure (.val (.int .i64 p1)))), .e (.one (.pure (.val (.int .u16 p2)))), .e (.one (.pure (.val (.bool p3))))] [(1, r.map (DY eB))] (.e (.one (.own 0))) := by
 unfold Dd at h
 refine As (n := 47) (rs := [.tmp 8]) Try.func47 rfl rfl rfl (Bz rfl) (Bz rfl) rfl fun w0 S0 => ?_
 refine Ab (Aa Ad rfl (qa rfl (Ac (Ab (Aa Ad rfl (qa rfl (Ac (Ab (Ab (Aa Ad rfl (qa rfl (Ac ?_))))))))))))
 refine AP (L := BX N p0 p1 p2 p3) h (fun v1 => mk [(0, .e (.one (.pure (.val (.int .i64 p0))))), (1, .e (.one (.pure (.val (.int .i64 p1))))), (2, .e (.one (.pure (.val (.int .u16 p2))))), (3, .e (.one (.pure (.val (.bool p3))))), (9, .e (.one (.own 2001))), (10, .e (.one (.pure (.val (.int .i64 v1.2)))))] [(2001, .vec 1 (v1.1.map (DY eB)))]) (fun v2 => mk [(9, .e (.one (.own 2002)))] [(2002, .vec 1 (v2.map (DY eB)))]) (fun _ _ => rfl) ((BR 9 2010 1 rfl rfl rfl).trans (sm [(2001, 2010)] _ _ rfl rfl)) (fun j1 n1 v1 h => ?_) (fun v2 s h hs => ?_)
 ·unfold BX at h
  refine Ab (Ab (Aa Ad rfl (qm rfl (qm rfl (Bc rfl (Ac ?_))))))
  refine Au rfl (fun c3 => ?_) (fun c3 => ?_)
  ·have h := Ap c3 h
   refine Av (Ab (AW (Ab (Aa Ad rfl (qa rfl (Ac (Ab (Ab (Aa Ad rfl (qa rfl (Ac ?_)))))))))))
   refine AP (L := BV N p1 p2 p3 v1) h (fun v4 => mk [(0, .e (.one (.pure (.val (.int .i64 p0))))), (1, .e (.one (.pure (.val (.int .i64 p1))))), (2, .e (.one (.pure (.val (.int .u16 p2))))), (3, .e (.one (.pure (.val (.bool p3))))), (9, .e (.one (.own 2003))), (10, .e (.one (.pure (.val (.int .i64 v1.2))))), (11, .e (.one (.own 2004))), (12, .e (.one (.pure (.val (.int .i64 v4.2)))))] [(2003, .vec 1 (v1.1.map (DY eB))), (2004, .vec 1 (v4.1.map eB))]) (fun v5 => mk [(0, .e (.one (.pure (.val (.int .i64 p0))))), (1, .e (.one (.pure (.val (.int .i64 p1))))), (2, .e (.one (.pure (.val (.int .u16 p2))))), (3, .e (.one (.pure (.val (.bool p3))))), (9, .e (.one (.own 2005))), (10, .e (.one (.pure (.val (.int .i64 v1.2))))), (11, .e (.one (.own 2006)))] [(2005, .vec 1 (v1.1.map (DY eB))), (2006, .vec 1 (v5.map eB))]) (fun _ _ => rfl) ((BR 11 2009 1 rfl rfl rfl).trans (sm [(2003, 2001), (2004, 2009)] _ _ rfl rfl)) (fun j4 n4 v4 h => ?_) (fun v5 s h hs => ?_)
   ·unfold BV at h
    refine Ab (Ab (Aa Ad rfl (qm rfl (qm rfl (Bc rfl (Ac ?_))))))
    refine Au rfl (fun c6 => ?_) (fun c6 => ?_)
    ·have h := Ap c6 h
     refine Av ?_
     refine AR h (fun v7 => mk [(0, .e (.one (.pure (.val (.int .i64 p0))))), (1, .e (.one (.pure (.val (.int .i64 p1))))), (2, .e (.one (.pure (.val (.int .u16 p2))))), (3, .e (.one (.pure (.val (.bool p3))))), (9, .e (.one (.own 2007))), (10, .e (.one (.pure (.val (.int .i64 v1.2))))), (11, .e (.one (.own 2008))), (12, .e (.one (.pure (.val (.int .i64 v4.2)))))] [(2007, .vec 1 (v1.1.map (DY eB))), (2008, .vec 1 (v7.map eB))]) (fun j7 h => ?_) (fun v7 h => ?_)
     ·refine AW (Aa Ad rfl (qm rfl (qm rfl (qm rfl ?_))))
      refine AF (t := 25) rfl (fun c8 => ?_) (fun c8 => ?_)
      ·have h := Ap c8 h
       refine qm rfl (qm rfl (BO rfl (qp rfl (qm rfl ?_))))
       refine AF (t := 30) rfl (fun c9 => ?_) (fun c9 => ?_)
       ·have h := Ap c9 h
        refine qn rfl (qn rfl (qn rfl (qn rfl (qn rfl (qn rfl (qn rfl (qn rfl (qp rfl (D2 Fx OS Tx rfl ?_)))))))))
        obtain ⟨c10, h⟩ := AG h
        refine DM (f := eB) Fx Fx OS Uh Tx c10 rfl (qa rfl (Ac ?_))
        exact Ax _ h (sm [(2007, 2003), (2008, 41)] _ _ rfl rfl)
       ·have h := Aq c9 h
        refine qm rfl (qm rfl (Kl rfl (qm rfl (Bm rfl ?_))))
        obtain ⟨c11, h⟩ := AG h
        refine Ia rfl c11 (KI rfl (by decide) (BO rfl (qp rfl (D2 Fx OS Tx rfl ?_))))
        obtain ⟨c12, h⟩ := AG h
        refine DM (f := eB) Fx Fx OS Uh Tx c12 rfl (qa rfl (Ac ?_))
        exact Ax _ h (sm [(2007, 2003), (2008, 41)] _ _ rfl rfl)
      ·have h := Aq c8 h
       refine qn rfl (qn rfl (qn rfl (qp rfl (qm rfl (qm rfl (qm rfl (Kl rfl (qm rfl (Bm rfl ?_)))))))))
       obtain ⟨c13, h⟩ := AG h
       refine Ia rfl c13 (KI rfl (by decide) (BO rfl (qp rfl (D2 Fx OS Tx rfl ?_))))
       obtain ⟨c14, h⟩ := AG h
       refine DM (f := eB) Fx Fx OS Uh Tx c14 rfl (qa rfl (Ac ?_))
       exact Ax _ h (sm [(2007, 2003), (2008, 41)] _ _ rfl rfl)
     ·refine Aa Ad rfl (qm rfl (Bm rfl (qa rfl (Ac ?_))))
      exact Ax _ h (sm [(2003, 2007), (2004, 2008)] _ _ rfl rfl)
    ·have h := Aq c6 h
     refine A1 ?_
     exact Ax _ h (sm [(2005, 2003), (2006, 2004)] _ _ rfl rfl)
   ·refine Am hs (Aa Ad rfl (qm rfl (qm rfl (Dg (Bf 2006 _ _ rfl rfl) (D2 Ff Lz Ua rfl ?_)))))
    obtain ⟨c15, h⟩ := AG h
    refine DM (f := (DY eB)) Ff Ff Lz UJ Ua c15 rfl (qa rfl (Ac (Aa Ad rfl (qm rfl (Bm rfl (qa rfl (Ac ?_)))))))
    exact Ax _ h (sm [(2001, 45)] _ _ rfl rfl)
  ·have h := Aq c3 h
   refine A1 ?_
   exact Ax _ h (sm [(2002, 2001)] _ _ rfl rfl)
 ·refine Am hs (Ab (Aa Ad rfl (qm rfl (qa rfl (Ac ?_)))))
  obtain rfl := sj h
  refine Am (sm [(1000, 2002)] [(8, .e (.one (.own 1000)))] [(1000, .vec 1 (v2.map (DY eB)))] rfl rfl) (AB ?_)
  exact ⟨⟨[_], ⟨.tmp _ _ rfl, trivial⟩, rfl⟩, ⟨rfl, trivial⟩⟩
set_option maxRecDepth 10000 in
theorem K8 (N : Nat) (p0 : Ca) (r : Ae × Bool) (h : Ej N p0 = some r) : AD Try.prog 22 [.e (.agg [.pure (.sl (p0.fVersions.map A3)), .pure (.sl (p0.fNow.map A3)), .pure (.sl (p0.fTarget.map A3)), .pure (.sl (p0.fLinks.map BU))])] [(1, r.1.fVersions.map Af), (1, r.1.fNow.map Af), (1, r.1.fTarget.map Af), (6, r.1.fTables.map Ak)] (.tup [.agg [.own 0, .own 1, .own 2, .own 3], .one (.pure (.val (.bool r.2)))]) := by
 unfold Ej at h
 refine As (n := 152) (rs := [.cell 2 30, .tmp 3]) Try.func22 rfl rfl rfl (Bz rfl) (Bz rfl) rfl fun w0 S0 => ?_
 refine Ab (Aa Ad rfl (qb rfl (qz QE rfl (qa rfl (Ac (Ab ?_))))))
 refine AR h (fun v1 => mk [(1, .e (.one (.ptr 1 0))), (2, .e (.one (.ptr 2 0))), (19, .e (.one (.pure (.val (.bool v1)))))] [(1, .box [.pure (.sl (p0.fVersions.map A3)), .pure (.sl (p0.fNow.map A3)), .pure (.sl (p0.fTarget.map A3)), .pure (.sl (p0.fLinks.map BU))]), (2, .box [.pure (.nil0), .pure (.nil0), .pure (.nil0), .pure (.nil0)])]) (fun j1 h => ?_) (fun v1 h => ?_)
 ·refine Aa Ad rfl (qf N7 rfl (ql RD rfl (AQ IA rfl (FY rfl (qm rfl ?_)))))
  refine AF (t := 14) rfl (fun c2 => ?_) (fun c2 => ?_)
  ·have h := Ap c2 h
   refine qn rfl (qn rfl (qn rfl (qn rfl (qp rfl (Ac ?_)))))
   exact Ax _ h (sm [] _ _ rfl rfl)
  ·have h := Aq c2 h
   refine qf NA rfl (ql T4 rfl (AQ Rt rfl (FY rfl (qp rfl (Ac ?_)))))
   exact Ax _ h (sm [] _ _ rfl rfl)
 ·refine Au rfl (fun c3 => ?_) (fun c3 => ?_)
  ·have h := Ap c3 h
   refine Ab (Aa Ad rfl (AV QE UD rfl (qs CR rfl (qa rfl (Ac ?_)))))
   obtain rfl := sj h
   refine Am ((AA 2 0 2001 1 _ rfl rfl rfl rfl).trans ((AA 2 1 2002 1 _ rfl rfl rfl rfl).trans ((AA 2 2 2003 1 _ rfl rfl rfl rfl).trans ((AA 2 3 2004 6 _ rfl rfl rfl rfl).trans (sm [(1000, 2001), (1001, 2002), (1002, 2003), (1003, 2004)] [(2, .e (.one (.ptr 2 0))), (3, .e (.one (.pure (.val (.bool false)))))] [(2, .box [.own 1000, .own 1001, .own 1002, .own 1003]), (1000, .vec 1 ((([] : List Int)).map Af)), (1001, .vec 1 ((([] : List Int)).map Af)), (1002, .vec 1 ((([] : List Int)).map Af)), (1003, .vec 6 ((([] : List AC)).map Ak))] rfl rfl))))) (AB ?_)
   exact ⟨⟨[_, _], ⟨.cellN _ _ _ _ _ _ _ rfl rfl C5 CR rfl rfl (Fp rfl), ⟨.tmp _ _ rfl, trivial⟩⟩, rfl⟩, ⟨rfl, rfl, rfl, rfl, trivial⟩⟩
  ·have h := Aq c3 h
   refine Av (Ab (Aa Ad rfl (qz QE rfl (Ac (Ab (Ab (Aa Ad rfl (qa rfl (Ac ?_)))))))))
   refine AP (L := Cc N p0) h (fun v4 => mk [(1, .e (.one (.ptr 1 0))), (2, .e (.one (.ptr 2 0))), (4, .e (.one (.ptr 4 0))), (5, .e (.one (.pure (.val (.int .i64 v4.2.2.2)))))] [(1, .box [.pure (.sl (p0.fVersions.map A3)), .pure (.sl (p0.fNow.map A3)), .pure (.sl (p0.fTarget.map A3)), .pure (.sl (p0.fLinks.map BU))]), (2, .box [.pure (.nil0), .pure (.nil0), .pure (.nil0), .pure (.nil0)]), (4, .box [.own 2005, .own 2006, .own 2007, .pure (.nil0)]), (2005, .vec 1 (v4.1.map Af)), (2006, .vec 1 (v4.2.1.map Af)), (2007, .vec 1 (v4.2.2.1.map Af))]) (fun v5 => mk [(1, .e (.one (.ptr 1 0))), (2, .e (.one (.ptr 2 0))), (4, .e (.one (.ptr 4 0)))] [(1, .box [.pure (.sl (p0.fVersions.map A3)), .pure (.sl (p0.fNow.map A3)), .pure (.sl (p0.fTarget.map A3)), .pure (.sl (p0.fLinks.map BU))]), (2, .box [.pure (.nil0), .pure (.nil0), .pure (.nil0), .pure (.nil0)]), (4, .box [.own 2008, .own 2009, .own 2010, .pure (.nil0)]), (2008, .vec 1 (v5.1.map Af)), (2009, .vec 1 (v5.2.1.map Af)), (2010, .vec 1 (v5.2.2.map Af))]) (fun _ _ => rfl) ((AA 4 0 2011 1 _ rfl rfl rfl rfl).trans ((AA 4 1 2012 1 _ rfl rfl rfl rfl).trans ((AA 4 2 2013 1 _ rfl rfl rfl rfl).trans (sm [(2005, 2011), (2006, 2012), (2007, 2013)] _ _ rfl rfl)))) (fun j4 n4 v4 h => ?_) (fun v5 s h hs => ?_)
   ·unfold Cc at h
    refine Ab (Ab (Aa Ad rfl (qm rfl (qf N7 rfl (ql RD rfl (AQ IA rfl (Bc rfl (Ac ?_))))))))
    refine Au rfl (fun c6 => ?_) (fun c6 => ?_)
    ·have h := Ap c6 h
     refine Av (Ab (AW (Ab (Aa Ad rfl (qf N7 rfl (ql RD rfl (qm rfl ?_)))))))
     obtain ⟨v7, a7, b7, h⟩ := An h
     refine qi IA T0 a7 (Al b7) rfl (qk Ve rfl (KI rfl (by decide) (It Up Ue rfl (Bm rfl (qa rfl (Ac (Ab (Aa Ad rfl (qf Bk rfl (ql A0 rfl (qm rfl (D2 AE CS J4 rfl ?_))))))))))))
     obtain ⟨c8, h⟩ := AG h
     refine DM (f := Af) AE AE CS K2 J4 c8 rfl (qf Bk rfl (qs QN rfl (Ac (Ab (Aa Ad rfl (qf FD rfl (ql A0 rfl (qf S1 rfl (ql RD rfl (qm rfl ?_))))))))))
     obtain ⟨v9, a9, h⟩ := bind_some h
     refine AI [] (Hk N p0.fNow v4.2.2.2 v9 a9) Vm rfl (qm rfl ?_)
     obtain ⟨c10, h⟩ := AG h
     refine KI rfl c10 (D2 AE CS J4 rfl ?_)
     obtain ⟨c11, h⟩ := AG h
     refine DM (f := Af) AE AE CS K2 J4 c11 rfl (qf FD rfl (qs QN rfl (AX (by kernel_rfl) (Aa Ad rfl (qf G6 rfl (ql A0 rfl (qf SM rfl (ql RD rfl (qm rfl ?_)))))))))
     obtain ⟨v12, a12, h⟩ := bind_some h
     refine AI [] (Hk N p0.fTarget v4.2.2.2 v12 a12) Vm rfl (qm rfl ?_)
     obtain ⟨c13, h⟩ := AG h
     refine KI rfl c13 (D2 AE CS J4 rfl ?_)
     obtain ⟨c14, h⟩ := AG h
     refine DM (f := Af) AE AE CS K2 J4 c14 rfl (qf G6 rfl (qs QN rfl (AX (by kernel_rfl) (Aa Ad rfl (qm rfl (Bm rfl (qa rfl (Ac ?_))))))))
     exact Ax _ h (sm [(2005, 40), (2006, 51), (2007, 62)] _ _ rfl rfl)
    ·have h := Aq c6 h
     refine A1 ?_
     exact Ax _ h (sm [(2008, 2005), (2009, 2006), (2010, 2007)] _ _ rfl rfl)
   ·refine Am hs (Ab (Ab (Aa Ad rfl (qa rfl (Ac ?_)))))
    refine AP (L := Bh N p0 v5) h (fun v15 => mk [(1, .e (.one (.ptr 1 0))), (2, .e (.one (.ptr 2 0))), (4, .e (.one (.ptr 4 0))), (7, .e (.one (.pure (.val (.int .i64 v15.2)))))] [(1, .box [.pure (.sl (p0.fVersions.map A3)), .pure (.sl (p0.fNow.map A3)), .pure (.sl (p0.fTarget.map A3)), .pure (.sl (p0.fLinks.map BU))]), (2, .box [.pure (.nil0), .pure (.nil0), .pure (.nil0), .pure (.nil0)]), (4, .box [.own 2014, .own 2015, .own 2016, .own 2017]), (2014, .vec 1 (v5.1.map Af)), (2015, .vec 1 (v5.2.1.map Af)), (2016, .vec 1 (v5.2.2.map Af)), (2017, .vec 6 (v15.1.map Ak))]) (fun v16 => mk [(2, .e (.one (.ptr 2 0))), (4, .e (.one (.ptr 4 0)))] [(2, .box [.pure (.nil0), .pure (.nil0), .pure (.nil0), .pure (.nil0)]), (4, .box [.own 2018, .own 2019, .own 2020, .own 2021]), (2018, .vec 1 (v5.1.map Af)), (2019, .vec 1 (v5.2.1.map Af)), (2020, .vec 1 (v5.2.2.map Af)), (2021, .vec 6 (v16.map Ak))]) (fun _ _ => rfl) ((AA 4 3 2039 6 _ rfl rfl rfl rfl).trans (sm [(2014, 2008), (2015, 2009), (2016, 2010), (2017, 2039)] _ _ rfl rfl)) (fun j15 n15 v15 h => ?_) (fun v16 s h hs => ?_)
    ·unfold Bh at h
     refine Ab ?_
     refine AR h (fun v17 => mk [(1, .e (.one (.ptr 1 0))), (2, .e (.one (.ptr 2 0))), (4, .e (.one (.ptr 4 0))), (7, .e (.one (.pure (.val (.int .i64 v15.2))))), (74, .e (.one (.pure (.val (.bool v17)))))] [(1, .box [.pure (.sl (p0.fVersions.map A3)), .pure (.sl (p0.fNow.map A3)), .pure (.sl (p0.fTarget.map A3)), .pure (.sl (p0.fLinks.map BU))]), (2, .box [.pure (.nil0), .pure (.nil0), .pure (.nil0), .pure (.nil0)]), (4, .box [.own 2022, .own 2023, .own 2024, .own 2025]), (2022, .vec 1 (v5.1.map Af)), (2023, .vec 1 (v5.2.1.map Af)), (2024, .vec 1 (v5.2.2.map Af)), (2025, .vec 6 (v15.1.map Ak))]) (fun j17 h => ?_) (fun v17 h => ?_)
     ·refine Aa Ad rfl (qm rfl (qf NA rfl (ql T4 rfl (AQ Rt rfl (Bc rfl (qm rfl ?_))))))
      refine AF (t := 69) rfl (fun c18 => ?_) (fun c18 => ?_)
      ·have h := Ap c18 h
       refine qf Bk rfl (ql A0 rfl (EZ AE rfl (FY rfl (qp rfl (Ac ?_)))))
       exact Ax _ h (sm [(2022, 2014), (2023, 2015), (2024, 2016), (2025, 2017)] _ _ rfl rfl)
      ·have h := Aq c18 h
       refine qn rfl (qn rfl (qn rfl (qn rfl (qp rfl (Ac ?_)))))
       exact Ax _ h (sm [(2022, 2014), (2023, 2015), (2024, 2016), (2025, 2017)] _ _ rfl rfl)
     ·refine Au rfl (fun c19 => ?_) (fun c19 => ?_)
      ·have h := Ap c19 h
       refine Av (Ab (AW (Ab (Aa Ad rfl (qf NA rfl (ql T4 rfl (qm rfl ?_)))))))
       obtain ⟨v20, a20, b20, h⟩ := An h
       refine qi Rt TQ a20 (Al b20) rfl (qK VW TQ rfl (qz VS rfl (qs TQ rfl (Ac (Ab (Aa Ad rfl (qf Sl rfl (ql Ve rfl (KI rfl (by decide) (It Up Ue rfl (Bm rfl (qf Sj rfl (ql Ve rfl (It Up Ue rfl (qf Bk rfl (ql A0 rfl (EZ AE rfl ?_)))))))))))))))))
       obtain ⟨c21, h⟩ := AG h
       refine KI rfl c21 (qf Sy rfl (ql Ve rfl (It Up Ue rfl (qf Bk rfl (ql A0 rfl (EZ AE rfl ?_))))))
       obtain ⟨c22, h⟩ := AG h
       refine KI rfl c22 (AV Jx UR rfl (qz Jx rfl (qs Dt rfl (AX (by kernel_rfl) ?_))))
       refine AR h (fun v23 => mk [(1, .e (.one (.ptr 1 0))), (2, .e (.one (.ptr 2 0))), (4, .e (.one (.ptr 4 0))), (7, .e (.one (.pure (.val (.int .i64 v15.2))))), (8, .e (.one (.ptr 8 0))), (9, .e (.one (.ptr 9 0)))] [(1, .box [.pure (.sl (p0.fVersions.map A3)), .pure (.sl (p0.fNow.map A3)), .pure (.sl (p0.fTarget.map A3)), .pure (.sl (p0.fLinks.map BU))]), (2, .box [.pure (.nil0), .pure (.nil0), .pure (.nil0), .pure (.nil0)]), (4, .box [.own 2026, .own 2027, .own 2028, .own 2029]), (8, .box [.pure (.val (.int .u8 v20.fKind)), .pure (.val (.int .u8 v20.fFrom)), .pure (.val (.int .u8 v20.fTo)), .pure (.val (.bool v20.fAware)), .pure (.val (.int .u16 v20.fBad)), .pure (.val (.int .u16 v20.fLost))]), (9, .box [.pure (.val (.int .i64 ((IntKind.wrap .i64 (1 + (IntKind.wrap .i64 ((Int.tmod v20.fKind 4)))))))), .pure (.val (.int .i64 ((Int.tmod ((IntKind.wrap .i64 v20.fFrom)) ((v5.1.length : Int)))))), .pure (.val (.int .i64 ((Int.tmod ((IntKind.wrap .i64 v20.fTo)) ((v5.1.length : Int)))))), .pure (.val (.bool v23)), .pure (.nil0), .pure (.nil0)]), (2026, .vec 1 (v5.1.map Af)), (2027, .vec 1 (v5.2.1.map Af)), (2028, .vec 1 (v5.2.2.map Af)), (2029, .vec 6 (v15.1.map Ak))]) (fun j23 h => ?_) (fun v23 h => ?_)
       ·refine Aa Ad rfl (qf Sn rfl (ql P1 rfl (qm rfl ?_)))
        refine AF (t := 104) rfl (fun c24 => ?_) (fun c24 => ?_)
        ·have h := Ap c24 h
         refine qL Gm Dt rfl ?_
         obtain ⟨v25, a25, h⟩ := bind_some h
         refine AI [] (BZ N ((AC.mk ((IntKind.wrap .i64 (1 + (IntKind.wrap .i64 ((Int.tmod v20.fKind 4)))))) ((Int.tmod ((IntKind.wrap .i64 v20.fFrom)) ((v5.1.length : Int)))) ((Int.tmod ((IntKind.wrap .i64 v20.fTo)) ((v5.1.length : Int)))) false (([] : List (List Bool))) (([] : List (List Bool))))) v25 a25) NB rfl (Ch rfl (qp rfl (qf HN rfl (qs OS rfl (Ac ?_)))))
         exact Ax _ h (sm [(2026, 2022), (2027, 2023), (2028, 2024), (2029, 2025)] _ _ rfl rfl)
        ·have h := Aq c24 h
         refine qn rfl (qn rfl (qn rfl (qp rfl (qf HN rfl (qs OS rfl (Ac ?_))))))
         exact Ax _ h (sm [(2026, 2022), (2027, 2023), (2028, 2024), (2029, 2025)] _ _ rfl rfl)
       ·refine Ab (Aa Ad rfl (qf Bk rfl (ql A0 rfl (qf CF rfl (ql B1 rfl ?_)))))
        obtain ⟨v26, a26, b26, h⟩ := An h
        refine qI AE CS a26 (Al b26) rfl (qj B1 (Al b26) rfl (qf Bk rfl (ql A0 rfl (qf GZ rfl (ql B1 rfl ?_)))))
        obtain ⟨v27, a27, b27, h⟩ := An h
        refine qI AE CS a27 (Al b27) rfl (qj B1 (Al b27) rfl (qf Sm rfl (ql Vr rfl ?_)))
        obtain ⟨v28, a28, h⟩ := bind_some h
        refine AI [2030] (Hx N v26 v27 v20.fBad false v28 a28) U6 rfl (qf Il rfl (qs U5 rfl (AX (by kernel_rfl) ?_)))
        refine AR h (fun v29 => mk [(1, .e (.one (.ptr 1 0))), (2, .e (.one (.ptr 2 0))), (4, .e (.one (.ptr 4 0))), (7, .e (.one (.pure (.val (.int .i64 v15.2))))), (9, .e (.one (.ptr 9 0)))] [(1, .box [.pure (.sl (p0.fVersions.map A3)), .pure (.sl (p0.fNow.map A3)), .pure (.sl (p0.fTarget.map A3)), .pure (.sl (p0.fLinks.map BU))]), (2, .box [.pure (.nil0), .pure (.nil0), .pure (.nil0), .pure (.nil0)]), (4, .box [.own 2031, .own 2032, .own 2033, .own 2034]), (9, .box [.pure (.val (.int .i64 ((IntKind.wrap .i64 (1 + (IntKind.wrap .i64 ((Int.tmod v20.fKind 4)))))))), .pure (.val (.int .i64 ((Int.tmod ((IntKind.wrap .i64 v20.fFrom)) ((v5.1.length : Int)))))), .pure (.val (.int .i64 ((Int.tmod ((IntKind.wrap .i64 v20.fTo)) ((v5.1.length : Int)))))), .pure (.val (.bool v23)), .own 2035, .own 2036]), (2031, .vec 1 (v5.1.map Af)), (2032, .vec 1 (v5.2.1.map Af)), (2033, .vec 1 (v5.2.2.map Af)), (2034, .vec 6 (v15.1.map Ak)), (2035, .vec 1 (v28.map (DY eB))), (2036, .vec 1 (v29.map (DY eB)))]) (fun j29 h => ?_) (fun v29 h => ?_)
        ·refine Ab (Aa Ad rfl (qf ER rfl (ql B1 rfl (BO rfl (Ac ?_)))))
         refine Au rfl (fun c30 => ?_) (fun c30 => ?_)
         ·have h := Ap c30 h
          refine Aa Ad rfl (qf Bk rfl (ql A0 rfl (qf CF rfl (ql B1 rfl ?_))))
          obtain ⟨v31, a31, b31, h⟩ := An h
          refine qI AE CS a31 (Al b31) rfl (qj B1 (Al b31) rfl (qf Bk rfl (ql A0 rfl (qf CF rfl (ql B1 rfl ?_)))))
          obtain ⟨v32, a32, b32, h⟩ := An h
          refine qI AE CS a32 (Al b32) rfl (qj B1 (Al b32) rfl (qf SN rfl (ql Vr rfl ?_)))
          obtain ⟨v33, a33, h⟩ := bind_some h
          refine AI [2037] (Hx N v31 v32 v20.fLost true v33 a33) U6 rfl (qf FF rfl (qs U5 rfl (AX (by kernel_rfl) ?_)))
          exact Ax _ h (sm [(2031, 2026), (2032, 2027), (2033, 2028), (2034, 2029), (2035, 2030), (2036, 2037)] _ _ rfl rfl)
         ·have h := Aq c30 h
          refine Av ?_
          exact Ax _ h ((AA 9 5 2038 1 _ rfl rfl rfl rfl).trans (sm [(2031, 2026), (2032, 2027), (2033, 2028), (2034, 2029), (2035, 2030), (2036, 2038)] _ _ rfl rfl))
        ·refine Aa Ad rfl (qf Cl rfl (ql Gr rfl (qL Gm Dt rfl (Dg (Bf 2035 _ _ rfl rfl) (Dg (Bf 2036 _ _ rfl rfl) (D2 Dz Dt Jx rfl ?_))))))
         obtain ⟨c34, h⟩ := AG h
         refine DM (f := Ak) Dz Dz Dt Ux Jx c34 rfl (qf Cl rfl (qs VH rfl (Ac (Aa Ad rfl (qm rfl (Bm rfl (qa rfl (Ac ?_))))))))
         exact Ax _ h (sm [(2014, 2031), (2015, 2032), (2016, 2033), (2017, 149)] _ _ rfl rfl)
      ·have h := Aq c19 h
       refine A1 ?_
       exact Ax _ h (sm [(2018, 2022), (2019, 2023), (2020, 2024), (2021, 2025)] _ _ rfl rfl)
    ·refine Am hs (Ab (Aa Ad rfl (qL C5 CR rfl (qs CR rfl (qa rfl (Ac ?_))))))
     obtain rfl := sj h
     refine Am (sm [(1000, 2018), (1001, 2019), (1002, 2020), (1003, 2021)] [(2, .e (.one (.ptr 2 0))), (3, .e (.one (.pure (.val (.bool true)))))] [(2, .box [.own 1000, .own 1001, .own 1002, .own 1003]), (1000, .vec 1 (v5.1.map Af)), (1001, .vec 1 (v5.2.1.map Af)), (1002, .vec 1 (v5.2.2.map Af)), (1003, .vec 6 (v16.map Ak))] rfl rfl) (AB ?_)
     exact ⟨⟨[_, _], ⟨.cellN _ _ _ _ _ _ _ rfl rfl C5 CR rfl rfl (Fp rfl), ⟨.tmp _ _ rfl, trivial⟩⟩, rfl⟩, ⟨rfl, rfl, rfl, rfl, trivial⟩⟩
set_option maxRecDepth 10000 in
theorem Dq (N : Nat) (p0 : Bool) (p1 : Bool) (r : Ae) (h : Cd N p0 p1 = some r) : AD Try.prog 35 [.e (.one (.pure (.val (.bool p0)))), .e (.one (.pure (.val (.bool p1))))] [(1, r.fVersions.map Af), (1, r.fNow.map Af), (1, r.fTarget.map Af), (6, r.fTables.map Ak)] (.e (.agg [.own 0, .own 1, .own 2, .own 3])) := by
 unfold Cd at h
 refine As (n := 19) (rs := [.cell 4 30]) Try.func35 rfl rfl rfl (Bz rfl) (Bz rfl) rfl fun w0 S0 => ?_
 refine Ab (Aa Ad rfl (qz QE rfl (Ac (Ab (Aa Ad rfl (qm rfl (qm rfl (Ch rfl (D2 Fx OS Tx rfl (D2 Fx OS Tx rfl (Dg (Bf 9 _ _ rfl rfl) (Dg (Bf 10 _ _ rfl rfl) (D2 Ff Lz Ua rfl (AV Jx UR rfl (qz Jx rfl (qs Dt rfl (Ac (Ab (Aa Ad rfl (D2 AE CS J4 rfl (D2 AE CS J4 rfl (D2 AE CS J4 rfl (qL Gm Dt rfl (Dg (Bf 11 _ _ rfl rfl) (D2 Dz Dt Jx rfl (AV QE UD rfl (qs CR rfl (Ac ?_))))))))))))))))))))))))))))
 obtain rfl := sj h
 refine Am (sm [(1000, 13), (1001, 14), (1002, 15), (1003, 17)] [(4, .e (.one (.ptr 4 0)))] [(4, .box [.own 1000, .own 1001, .own 1002, .own 1003]), (1000, .vec 1 ((([2, 2] : List Int)).map Af)), (1001, .vec 1 ((([0, 0] : List Int)).map Af)), (1002, .vec 1 ((([1, 1] : List Int)).map Af)), (1003, .vec 6 ((([(AC.mk 1 0 1 p1 (([([true, (!p0)] : List Bool), ([false, true] : List Bool)] : List (List Bool))) (([] : List (List Bool))))] : List AC)).map Ak))] rfl rfl) (AB ?_)
 exact ⟨⟨[_], ⟨.cellN _ _ _ _ _ _ _ rfl rfl C5 CR rfl rfl (Fp rfl), trivial⟩, rfl⟩, ⟨rfl, rfl, rfl, rfl, trivial⟩⟩
set_option maxRecDepth 10000 in
theorem Gk (N : Nat) (p0 : Int) (p1 : Int) (r : Bool) (h : Dl N p0 p1 = some r) : AD Try.prog 89 [.e (.one (.pure (.val (.int .i64 p0)))), .e (.one (.pure (.val (.int .i64 p1))))] [] (.e (.one (.pure (.val (.bool r))))) := by
 unfold Dl at h
 refine As (n := 12) (rs := [.tmp 4]) Try.func89 rfl rfl rfl (Bz rfl) (Bz rfl) rfl fun w0 S0 => ?_
 refine Ab (Aa Ad rfl (qa rfl (Ac ?_)))
 refine AR h (fun v1 => mk [(4, .e (.one (.pure (.val (.bool v1)))))] []) (fun j1 h => ?_) (fun v1 h => ?_)
 ·refine Aa Ad rfl (qm rfl (DX rfl (qm rfl ?_)))
  refine AF (t := 7) rfl (fun c2 => ?_) (fun c2 => ?_)
  ·have h := Ap c2 h
   refine qm rfl (qm rfl (Bc rfl (qp rfl (qa rfl (Ac ?_)))))
   exact Ax _ h (sm [] _ _ rfl rfl)
  ·have h := Aq c2 h
   refine qn rfl (qn rfl (qn rfl (qp rfl (qa rfl (Ac ?_)))))
   exact Ax _ h (sm [] _ _ rfl rfl)
 ·obtain rfl := sj h
  refine Am (sm [] [(4, .e (.one (.pure (.val (.bool v1)))))] [] rfl rfl) (AB ?_)
  exact ⟨⟨[_], ⟨.tmp _ _ rfl, trivial⟩, rfl⟩, trivial⟩
set_option maxRecDepth 10000 in
theorem NX (N : Nat) (p0 : Int) (p1 : Bool) (r : Bool) (h : Fs N p0 p1 = some r) : AD Try.prog 106 [.e (.one (.pure (.val (.int .i64 p0)))), .e (.one (.pure (.val (.bool p1))))] [] (.e (.one (.pure (.val (.bool r))))) := by
 unfold Fs at h
 refine As (n := 23) (rs := [.tmp 4]) Try.func106 rfl rfl rfl (Bz rfl) (Bz rfl) rfl fun w0 S0 => ?_
 refine Ab (Aa Ad rfl (qa rfl (Ac ?_)))
 refine AR h (fun v1 => mk [(4, .e (.one (.pure (.val (.bool v1)))))] []) (fun j1 h => ?_) (fun v1 h => ?_)
 ·refine Aa Ad rfl (qm rfl (BO rfl (qm rfl ?_)))
  refine AF (t := 7) rfl (fun c2 => ?_) (fun c2 => ?_)
  ·have h := Ap c2 h
   refine qn rfl (qn rfl (qp rfl (qm rfl (qn rfl (qn rfl (qn rfl (qu rfl (qu rfl (qn rfl (qn rfl (qu rfl (qu rfl (qn rfl (qp rfl (qa rfl (Ac ?_))))))))))))))))
   exact Ax _ h (sm [] _ _ rfl rfl)
  ·have h := Aq c2 h
   refine qm rfl (BO rfl (qp rfl (qm rfl ?_)))
   refine AF (t := 11) rfl (fun c3 => ?_) (fun c3 => ?_)
   ·have h := Ap c3 h
    refine qn rfl (qn rfl (qn rfl (qu rfl (qu rfl (qn rfl (qn rfl (qu rfl (qu rfl (qn rfl (qp rfl (qa rfl (Ac ?_))))))))))))
    exact Ax _ h (sm [] _ _ rfl rfl)
   ·have h := Aq c3 h
    refine qm rfl (BO rfl (qm rfl ?_))
    refine AF (t := 14) rfl (fun c4 => ?_) (fun c4 => ?_)
    ·have h := Ap c4 h
     refine qn rfl (qn rfl (qp rfl (qm rfl (qm rfl (Ch rfl (qp rfl (qp rfl (qa rfl (Ac ?_)))))))))
     exact Ax _ h (sm [] _ _ rfl rfl)
    ·have h := Aq c4 h
     refine qm rfl (BO rfl (qp rfl (qm rfl ?_)))
     refine AF (t := 18) rfl (fun c5 => ?_) (fun c5 => ?_)
     ·have h := Ap c5 h
      refine qm rfl (Ch rfl (qp rfl (qp rfl (qa rfl (Ac ?_)))))
      exact Ax _ h (sm [] _ _ rfl rfl)
     ·have h := Aq c5 h
      refine qn rfl (qn rfl (qp rfl (qp rfl (qa rfl (Ac ?_)))))
      exact Ax _ h (sm [] _ _ rfl rfl)
 ·obtain rfl := sj h
  refine Am (sm [] [(4, .e (.one (.pure (.val (.bool v1)))))] [] rfl rfl) (AB ?_)
  exact ⟨⟨[_], ⟨.tmp _ _ rfl, trivial⟩, rfl⟩, trivial⟩
set_option maxRecDepth 10000 in
theorem Lc (N : Nat) (p0 : List Bool) (p1 : Int) (r : Bool) (h : C7 N p0 p1 = some r) : AD Try.prog 116 [.e (.one (.pure (.sl (p0.map eB)))), .e (.one (.rop [.val (.int .i64 p1)]))] [] (.e (.one (.pure (.val (.bool r))))) := by
 unfold C7 at h
 refine As (n := 8) (rs := [.tmp 3]) Try.func116 rfl rfl rfl (Bz rfl) (Bz rfl) rfl fun w0 S0 => ?_
 refine Ab (Aa Ad rfl (qa rfl (Ac (Ab (Aa Ad rfl (qm rfl (AQ Fx rfl (qk B1 rfl (B0 rfl (qa rfl (Ac ?_)))))))))))
 obtain rfl := sj h
 refine Am (sm [] [(3, .e (.one (.pure (.val (.bool (((p0.length : Int) != p1)))))))] [] rfl rfl) (AB ?_)
 exact ⟨⟨[_], ⟨.tmp _ _ rfl, trivial⟩, rfl⟩, trivial⟩
set_option maxRecDepth 10000 in
theorem GQ (N : Nat) (p0 : List (List Bool)) (p1 : (List Bool) → Option Bool) (r : Int) (h : CK N p0 p1 = some r) : AD Try.prog 122 [.e (.one (.pure (.sl (p0.map (DY eB))))), .e (.one (.clo (HV (Ly false (DY eB)) tB p1)))] [] (.e (.one (.pure (.val (.int .i64 r))))) := by
 unfold CK at h
 refine As (n := 19) (rs := [.tmp 4]) Try.func122 rfl rfl rfl (Bz rfl) (Bz rfl) rfl fun w0 S0 => ?_
 refine Ab (Aa Ad rfl (qa rfl (Ac (Ab (Ab (Aa Ad rfl (qm rfl (AQ Ff rfl (qm rfl (Ac ?_))))))))))
 refine AP (L := Be N p0 p1) h (fun v1 => mk [(0, .e (.one (.pure (.sl (p0.map (DY eB)))))), (1, .e (.one (.clo (HV (Ly false (DY eB)) tB p1)))), (7, .e (.one (.pure (.val (.int .i64 ((p0.length : Int))))))), (8, .e (.one (.pure (.val (.int .i64 v1)))))] []) (fun v2 => mk [] []) (fun _ _ => rfl) (sm [] _ _ rfl rfl) (fun j1 n1 v1 h => ?_) (fun v2 s h hs => ?_)
 ·unfold Be at h
  refine Ab (Aa Ad rfl (Bc rfl (Ac (Ab ?_))))
  refine Au rfl (fun c3 => ?_) (fun c3 => ?_)
  ·have h := Ap c3 h
   refine Av (Ab (AW (Ab (Aa Ad rfl (qm rfl (qa rfl (Ac (Ab (Aa Ad rfl (qm rfl (qm rfl (qm rfl ?_))))))))))))
   obtain ⟨v4, a4, b4, h⟩ := An h
   refine qi Ff Lz a4 (Al b4) rfl (qk Nz rfl ?_)
   obtain ⟨v5, a5, h⟩ := bind_some h
   refine Kp (ds0 := [_]) (ar := (Ly false (DY eB)) v4) (.p rfl) rfl rfl ⟨rfl, trivial⟩ rfl rfl rfl (Kb (J9 _ _ (Uv Wn)) a5) ?_
   refine Ac ?_
   refine Au rfl (fun c6 => ?_) (fun c6 => ?_)
   ·have h := Ap c6 h
    refine Ab (Aa Ad rfl (qm rfl (qa rfl (Ac ?_))))
    obtain rfl := sj h
    refine Am (sm [] [(4, .e (.one (.pure (.val (.int .i64 v1)))))] [] rfl rfl) (AB ?_)
    exact ⟨⟨[_], ⟨.tmp _ _ rfl, trivial⟩, rfl⟩, trivial⟩
   ·have h := Aq c6 h
    refine Av (Aa Ad rfl (Bm rfl (qm rfl (Ac ?_))))
    exact Ax _ h (sm [] _ _ rfl rfl)
  ·have h := Aq c3 h
   refine A1 ?_
   exact Ax _ h (sm [] _ _ rfl rfl)
 ·refine Am hs (Ab (Aa Ad rfl (qa rfl (Ac ?_))))
  obtain rfl := sj h
  refine Am (sm [] [(4, .e (.one (.pure (.val (.int .i64 ((-1)))))))] [] rfl rfl) (AB ?_)
  exact ⟨⟨[_], ⟨.tmp _ _ rfl, trivial⟩, rfl⟩, trivial⟩
set_option maxRecDepth 10000 in
theorem Gn (N : Nat) (p0 : List (List Bool)) (p1 : (List Bool) → Option Bool) (r : Bool) (h : Cm N p0 p1 = some r) : AD Try.prog 115 [.e (.one (.pure (.sl (p0.map (DY eB))))), .e (.one (.clo (HV (Ly false (DY eB)) tB p1)))] [] (.e (.one (.pure (.val (.bool r))))) := by
 unfold Cm at h
 refine As (n := 9) (rs := [.tmp 4]) Try.func115 rfl rfl rfl (Bz rfl) (Bz rfl) rfl fun w0 S0 => ?_
 refine Ab (Aa Ad rfl (qa rfl (Ac (Ab (Aa Ad rfl (qm rfl (qm rfl ?_)))))))
 obtain ⟨v1, a1, h⟩ := bind_some h
 refine AI [] (GQ N p0 p1 v1 a1) UW rfl (DX rfl (qa rfl (Ac ?_)))
 obtain rfl := sj h
 refine Am (sm [] [(4, .e (.one (.pure (.val (.bool ((decide (0 ≤ v1))))))))] [] rfl rfl) (AB ?_)
 exact ⟨⟨[_], ⟨.tmp _ _ rfl, trivial⟩, rfl⟩, trivial⟩
set_option maxRecDepth 10000 in
theorem I4 (N : Nat) (p0 : List (List Bool)) (p1 : Int) (p2 : Int) (r : Bool) (h : Ec N p0 p1 p2 = some r) : AD Try.prog 107 [.e (.one (.pure (.sl (p0.map (DY eB))))), .e (.one (.pure (.val (.int .i64 p1)))), .e (.one (.pure (.val (.int .i64 p2))))] [] (.e (.one (.pure (.val (.bool r))))) := by
 unfold Ec at h
 refine As (n := 17) (rs := [.tmp 6]) Try.func107 rfl rfl rfl (Bz rfl) (Bz rfl) rfl fun w0 S0 => ?_
 refine Ab (Aa Ad rfl (qb rfl (qa rfl (Ac ?_))))
 refine AR h (fun v1 => mk [(6, .e (.one (.pure (.val (.bool v1)))))] []) (fun j1 h => ?_) (fun v1 h => ?_)
 ·refine Aa Ad rfl (qm rfl (AQ Ff rfl (qm rfl (BO rfl (qm rfl ?_)))))
  refine AF (t := 11) rfl (fun c2 => ?_) (fun c2 => ?_)
  ·have h := Ap c2 h
   refine qm rfl (Dg (KE 5 [.val (.int .i64 p2)] rfl rfl) ?_)
   refine J1 (capD := [_]) (HV (Ly false (DY eB)) tB ((fun (x : List Bool) => C7 N x p2))) (.g rfl rfl) Vn rfl ⟨rfl, trivial⟩ rfl (fun ar t ht => by obtain ⟨x, r, rfl, hq, rfl⟩ := Ji ht; exact Lc N x p2 r hq) ?_
   obtain ⟨v3, a3, h⟩ := bind_some h
   refine AI [] (Gn N p0 ((fun (x : List Bool) => C7 N x p2)) v3 a3) U0 rfl (Ch rfl (qp rfl (qa rfl (Ac ?_))))
   exact Ax _ h (sm [] _ _ rfl rfl)
  ·have h := Aq c2 h
   refine qn rfl (qn rfl (qn rfl (qn rfl (qp rfl (qa rfl (Ac ?_))))))
   exact Ax _ h (sm [] _ _ rfl rfl)
 ·obtain rfl := sj h
  refine Am (sm [] [(6, .e (.one (.pure (.val (.bool v1)))))] [] rfl rfl) (AB ?_)
  exact ⟨⟨[_], ⟨.tmp _ _ rfl, trivial⟩, rfl⟩, trivial⟩
set_option maxRecDepth 10000 in
theorem MG (N : Nat) (p0 : Ae) (p1 : AC) (r : Int) (h : E2 N p0 p1 = some r) : AD Try.prog 90 [.e (.agg [.pure (.sl (p0.fVersions.map Af)), .pure (.sl (p0.fNow.map Af)), .pure (.sl (p0.fTarget.map Af)), .pure (.sl (p0.fTables.map Ak))]), .e (.agg [.pure (.val (.int .i64 p1.fKind)), .pure (.val (.int .i64 p1.fFrom)), .pure (.val (.int .i64 p1.fTo)), .pure (.val (.bool p1.fAware)), .pure (.sl (p1.fOK.map (DY eB))), .pure (.sl (p1.fRewrite.map (DY eB)))])] [] (.e (.one (.pure (.val (.int .i64 r))))) := by
 unfold E2 at h
 refine As (n := 87) (rs := [.tmp 4]) Try.func90 rfl rfl rfl (Bz rfl) (Bz rfl) rfl fun w0 S0 => ?_
 refine Ab (Aa Ad rfl (qb rfl (qb rfl (qa rfl (Ac (Ab (Ab (Aa Ad rfl (qf ER rfl (ql B1 rfl (qf HN rfl (ql P1 rfl ?_))))))))))))
 obtain ⟨v1, a1, h⟩ := bind_some h
 refine AI [] (NX N p1.fKind p1.fAware v1 a1) UG rfl (Ch rfl (Ac ?_))
 refine Au rfl (fun c2 => ?_) (fun c2 => ?_)
 ·have h := Ap c2 h
  refine Ab (Aa Ad rfl (qa rfl (Ac ?_)))
  obtain rfl := sj h
  refine Am (sm [] [(4, .e (.one (.pure (.val (.int .i64 1)))))] [] rfl rfl) (AB ?_)
  exact ⟨⟨[_], ⟨.tmp _ _ rfl, trivial⟩, rfl⟩, trivial⟩
 ·have h := Aq c2 h
  refine Av (Ab ?_)
  refine AR h (fun v3 => mk [(2, .e (.one (.ptr 2 0))), (3, .e (.one (.ptr 3 0))), (29, .e (.one (.pure (.val (.bool v3)))))] [(2, .box [.pure (.sl (p0.fVersions.map Af)), .pure (.sl (p0.fNow.map Af)), .pure (.sl (p0.fTarget.map Af)), .pure (.sl (p0.fTables.map Ak))]), (3, .box [.pure (.val (.int .i64 p1.fKind)), .pure (.val (.int .i64 p1.fFrom)), .pure (.val (.int .i64 p1.fTo)), .pure (.val (.bool p1.fAware)), .pure (.sl (p1.fOK.map (DY eB))), .pure (.sl (p1.fRewrite.map (DY eB)))])]) (fun j3 h => ?_) (fun v3 h => ?_)
  ·refine Aa Ad rfl (qf CF rfl (ql B1 rfl (qf Bk rfl (ql A0 rfl (AQ AE rfl ?_)))))
   obtain ⟨v4, a4, h⟩ := bind_some h
   refine AI [] (Gk N p1.fFrom ((p0.fVersions.length : Int)) v4 a4) SX rfl (Ch rfl (qm rfl ?_))
   refine AF (t := 21) rfl (fun c5 => ?_) (fun c5 => ?_)
   ·have h := Ap c5 h
    refine qn rfl (qn rfl (qn rfl (qn rfl (qn rfl (qn rfl (qn rfl (qp rfl (Ac ?_))))))))
    exact Ax _ h (sm [] _ _ rfl rfl)
   ·have h := Aq c5 h
    refine qf GZ rfl (ql B1 rfl (qf Bk rfl (ql A0 rfl (AQ AE rfl ?_))))
    obtain ⟨v6, a6, h⟩ := bind_some h
    refine AI [] (Gk N p1.fTo ((p0.fVersions.length : Int)) v6 a6) SX rfl (Ch rfl (qp rfl (Ac ?_)))
    exact Ax _ h (sm [] _ _ rfl rfl)
  ·refine Au rfl (fun c7 => ?_) (fun c7 => ?_)
   ·have h := Ap c7 h
    refine Ab (Aa Ad rfl (qa rfl (Ac ?_)))
    obtain rfl := sj h
    refine Am (sm [] [(4, .e (.one (.pure (.val (.int .i64 4)))))] [] rfl rfl) (AB ?_)
    exact ⟨⟨[_], ⟨.tmp _ _ rfl, trivial⟩, rfl⟩, trivial⟩
   ·have h := Aq c7 h
    refine Av (Ab (Aa Ad rfl (qf Bk rfl (ql A0 rfl (qf CF rfl (ql B1 rfl ?_))))))
    obtain ⟨v8, a8, b8, h⟩ := An h
    refine qi AE CS a8 (Al b8) rfl (qk B1 rfl (qa rfl (Ac (Ab (Aa Ad rfl (qf ER rfl (ql B1 rfl (BO rfl (qa rfl (Ac (Ab ?_)))))))))))
    refine AR h (fun v9 => mk [(3, .e (.one (.ptr 3 0))), (70, .e (.one (.pure (.val (.bool v9)))))] [(3, .box [.pure (.val (.int .i64 p1.fKind)), .pure (.val (.int .i64 p1.fFrom)), .pure (.val (.int .i64 p1.fTo)), .pure (.val (.bool p1.fAware)), .pure (.sl (p1.fOK.map (DY eB))), .pure (.sl (p1.fRewrite.map (DY eB)))])]) (fun j9 h => ?_) (fun v9 h => ?_)
    ·refine Aa Ad rfl (qf Il rfl (ql IL rfl (qm rfl (qf Bk rfl (ql A0 rfl (qf GZ rfl (ql B1 rfl ?_)))))))
     obtain ⟨v10, a10, b10, h⟩ := An h
     refine qi AE CS a10 (Al b10) rfl (qk B1 rfl ?_)
     obtain ⟨v11, a11, h⟩ := bind_some h
     refine AI [] (I4 N p1.fOK v8 v10 v11 a11) Tu rfl (Ch rfl (qm rfl ?_))
     refine AF (t := 50) rfl (fun c12 => ?_) (fun c12 => ?_)
     ·have h := Ap c12 h
      refine qn rfl (qn rfl (qu rfl (qu rfl (qu rfl (qu rfl (qu rfl (qu rfl (qn rfl (qp rfl (qm rfl (qn rfl (qn rfl (qn rfl (qu rfl (qu rfl (qu rfl (qu rfl (qn rfl (qp rfl (AX (by kernel_rfl) ?_))))))))))))))))))))
      exact Ax _ h (sm [] _ _ rfl rfl)
     ·have h := Aq c12 h
      refine qm rfl (qm rfl ?_)
      refine AF (t := 52) rfl (fun c13 => ?_) (fun c13 => ?_)
      ·have h := Ap c13 h
       refine qf FF rfl (ql IL rfl (qm rfl (qm rfl ?_)))
       obtain ⟨v14, a14, h⟩ := bind_some h
       refine AI [] (I4 N p1.fRewrite v8 v8 v14 a14) Tu rfl (Ch rfl (qp rfl (qp rfl (qm rfl ?_))))
       refine AF (t := 61) rfl (fun c15 => ?_) (fun c15 => ?_)
       ·have h := Ap c15 h
        refine qn rfl (qn rfl (qn rfl (qu rfl (qu rfl (qu rfl (qu rfl (qn rfl (qp rfl (AX (by kernel_rfl) ?_)))))))))
        exact Ax _ h (sm [] _ _ rfl rfl)
       ·have h := Aq c15 h
        refine qm rfl (Ch rfl (qm rfl ?_))
        refine AF (t := 64) rfl (fun c16 => ?_) (fun c16 => ?_)
        ·have h := Ap c16 h
         refine qf FF rfl (ql IL rfl (AQ Ff rfl (FY rfl (qp rfl (qp rfl (AX (by kernel_rfl) ?_))))))
         exact Ax _ h (sm [] _ _ rfl rfl)
        ·have h := Aq c16 h
         refine qn rfl (qn rfl (qn rfl (qn rfl (qp rfl (qp rfl (AX (by kernel_rfl) ?_))))))
         exact Ax _ h (sm [] _ _ rfl rfl)
      ·have h := Aq c13 h
       refine qn rfl (qn rfl (qn rfl (qn rfl (qn rfl (qn rfl (qp rfl (qp rfl (qm rfl (qm rfl (Ch rfl (qm rfl ?_)))))))))))
       refine AF (t := 64) rfl (fun c17 => ?_) (fun c17 => ?_)
       ·have h := Ap c17 h
        refine qf FF rfl (ql IL rfl (AQ Ff rfl (FY rfl (qp rfl (qp rfl (AX (by kernel_rfl) ?_))))))
        exact Ax _ h (sm [] _ _ rfl rfl)
       ·have h := Aq c17 h
        refine qn rfl (qn rfl (qn rfl (qn rfl (qp rfl (qp rfl (AX (by kernel_rfl) ?_))))))
        exact Ax _ h (sm [] _ _ rfl rfl)
    ·refine Au rfl (fun c18 => ?_) (fun c18 => ?_)
     ·have h := Ap c18 h
      refine Ab (Aa Ad rfl (qa rfl (Ac ?_)))
      obtain rfl := sj h
      refine Am (sm [] [(4, .e (.one (.pure (.val (.int .i64 6)))))] [] rfl rfl) (AB ?_)
      exact ⟨⟨[_], ⟨.tmp _ _ rfl, trivial⟩, rfl⟩, trivial⟩
     ·have h := Aq c18 h
      refine Av (Ab (Ab (Aa Ad rfl (qf FF rfl (ql IL rfl (AQ Ff rfl (qm rfl (Ac ?_))))))))
      refine AP (L := CA N p1) h (fun v19 => mk [(3, .e (.one (.ptr 3 0))), (73, .e (.one (.pure (.val (.int .i64 ((p1.fRewrite.length : Int))))))), (74, .e (.one (.pure (.val (.int .i64 v19)))))] [(3, .box [.pure (.val (.int .i64 p1.fKind)), .pure (.val (.int .i64 p1.fFrom)), .pure (.val (.int .i64 p1.fTo)), .pure (.val (.bool p1.fAware)), .pure (.sl (p1.fOK.map (DY eB))), .pure (.sl (p1.fRewrite.map (DY eB)))])]) (fun v20 => mk [] []) (fun _ _ => rfl) (sm [] _ _ rfl rfl) (fun j19 n19 v19 h => ?_) (fun v20 s h hs => ?_)
      ·unfold CA at h
       refine Ab (Aa Ad rfl (Bc rfl (Ac (Ab ?_))))
       refine Au rfl (fun c21 => ?_) (fun c21 => ?_)
       ·have h := Ap c21 h
        refine Av (Ab (AW (Ab (Aa Ad rfl (qm rfl (qa rfl (Ac (Ab (Aa Ad rfl (qf FF rfl (ql IL rfl (qm rfl ?_))))))))))))
        obtain ⟨v22, a22, b22, h⟩ := An h
        refine qi Ff Lz a22 (Al b22) rfl (qk Nz rfl (qm rfl ?_))
        obtain ⟨v23, a23, b23, h⟩ := An h
        refine qi Fx OS a23 (Al b23) rfl (qk P1 rfl (Ch rfl (Ac ?_)))
        refine Au rfl (fun c24 => ?_) (fun c24 => ?_)
        ·have h := Ap c24 h
         refine Ab (Aa Ad rfl (qa rfl (Ac ?_)))
         obtain rfl := sj h
         refine Am (sm [] [(4, .e (.one (.pure (.val (.int .i64 1)))))] [] rfl rfl) (AB ?_)
         exact ⟨⟨[_], ⟨.tmp _ _ rfl, trivial⟩, rfl⟩, trivial⟩
        ·have h := Aq c24 h
         refine Av (Aa Ad rfl (Bm rfl (qm rfl (Ac ?_))))
         exact Ax _ h (sm [] _ _ rfl rfl)
       ·have h := Aq c21 h
        refine A1 ?_
        exact Ax _ h (sm [] _ _ rfl rfl)
      ·refine Am hs (Ab (Aa Ad rfl (qa rfl (Ac ?_))))
       obtain rfl := sj h
       refine Am (sm [] [(4, .e (.one (.pure (.val (.int .i64 0)))))] [] rfl rfl) (AB ?_)
       exact ⟨⟨[_], ⟨.tmp _ _ rfl, trivial⟩, rfl⟩, trivial⟩
set_option maxRecDepth 10000 in
theorem EY (N : Nat) (p0 : Ae) (r : Int) (h : Cj N p0 = some r) : AD Try.prog 61 [.e (.agg [.pure (.sl (p0.fVersions.map Af)), .pure (.sl (p0.fNow.map Af)), .pure (.sl (p0.fTarget.map Af)), .pure (.sl (p0.fTables.map Ak))])] [] (.e (.one (.pure (.val (.int .i64 r))))) := by
 unfold Cj at h
 refine As (n := 81) (rs := [.tmp 2]) Try.func61 rfl rfl rfl (Bz rfl) (Bz rfl) rfl fun w0 S0 => ?_
 refine Ab (Aa Ad rfl (qb rfl (qa rfl (Ac (Ab (Aa Ad rfl (qf Bk rfl (ql A0 rfl (AQ AE rfl (qa rfl (Ac (Ab ?_))))))))))))
 refine AR h (fun v1 => mk [(1, .e (.one (.ptr 1 0))), (3, .e (.one (.pure (.val (.int .i64 ((p0.fVersions.length : Int))))))), (19, .e (.one (.pure (.val (.bool v1)))))] [(1, .box [.pure (.sl (p0.fVersions.map Af)), .pure (.sl (p0.fNow.map Af)), .pure (.sl (p0.fTarget.map Af)), .pure (.sl (p0.fTables.map Ak))])]) (fun j1 h => ?_) (fun v1 h => ?_)
 ·refine Aa Ad rfl (qm rfl (FY rfl (qm rfl ?_)))
  refine AF (t := 14) rfl (fun c2 => ?_) (fun c2 => ?_)
  ·have h := Ap c2 h
   refine qn rfl (qn rfl (qn rfl (qn rfl (qp rfl (Ac ?_)))))
   exact Ax _ h (sm [] _ _ rfl rfl)
  ·have h := Aq c2 h
   refine qf Cl rfl (ql Gr rfl (AQ Dz rfl (FY rfl (qp rfl (Ac ?_)))))
   exact Ax _ h (sm [] _ _ rfl rfl)
 ·refine Au rfl (fun c3 => ?_) (fun c3 => ?_)
  ·have h := Ap c3 h
   refine Ab (Aa Ad rfl (qa rfl (Ac ?_)))
   obtain rfl := sj h
   refine Am (sm [] [(2, .e (.one (.pure (.val (.int .i64 3)))))] [] rfl rfl) (AB ?_)
   exact ⟨⟨[_], ⟨.tmp _ _ rfl, trivial⟩, rfl⟩, trivial⟩
  ·have h := Aq c3 h
   refine Av (Ab ?_)
   refine AR h (fun v4 => mk [(1, .e (.one (.ptr 1 0))), (31, .e (.one (.pure (.val (.bool v4)))))] [(1, .box [.pure (.sl (p0.fVersions.map Af)), .pure (.sl (p0.fNow.map Af)), .pure (.sl (p0.fTarget.map Af)), .pure (.sl (p0.fTables.map Ak))])]) (fun j4 h => ?_) (fun v4 h => ?_)
   ·refine Aa Ad rfl (qf FD rfl (ql A0 rfl (AQ AE rfl (qm rfl (B0 rfl (qm rfl ?_))))))
    refine AF (t := 25) rfl (fun c5 => ?_) (fun c5 => ?_)
    ·have h := Ap c5 h
     refine qn rfl (qn rfl (qn rfl (qn rfl (qn rfl (qp rfl (Ac ?_))))))
     exact Ax _ h (sm [] _ _ rfl rfl)
    ·have h := Aq c5 h
     refine qf G6 rfl (ql A0 rfl (AQ AE rfl (qm rfl (B0 rfl (qp rfl (Ac ?_))))))
     exact Ax _ h (sm [] _ _ rfl rfl)
   ·refine Au rfl (fun c6 => ?_) (fun c6 => ?_)
    ·have h := Ap c6 h
     refine Ab (Aa Ad rfl (qa rfl (Ac ?_)))
     obtain rfl := sj h
     refine Am (sm [] [(2, .e (.one (.pure (.val (.int .i64 6)))))] [] rfl rfl) (AB ?_)
     exact ⟨⟨[_], ⟨.tmp _ _ rfl, trivial⟩, rfl⟩, trivial⟩
    ·have h := Aq c6 h
     refine Av (Ab (Ab (Aa Ad rfl (qf Bk rfl (ql A0 rfl (AQ AE rfl (qm rfl (Ac ?_))))))))
     refine AP (L := BH N p0) h (fun v7 => mk [(1, .e (.one (.ptr 1 0))), (33, .e (.one (.pure (.sl (p0.fVersions.map Af))))), (34, .e (.one (.pure (.val (.int .i64 ((p0.fVersions.length : Int))))))), (35, .e (.one (.pure (.val (.int .i64 v7)))))] [(1, .box [.pure (.sl (p0.fVersions.map Af)), .pure (.sl (p0.fNow.map Af)), .pure (.sl (p0.fTarget.map Af)), .pure (.sl (p0.fTables.map Ak))])]) (fun v8 => mk [(1, .e (.one (.ptr 1 0)))] [(1, .box [.pure (.sl (p0.fVersions.map Af)), .pure (.sl (p0.fNow.map Af)), .pure (.sl (p0.fTarget.map Af)), .pure (.sl (p0.fTables.map Ak))])]) (fun _ _ => rfl) (sm [] _ _ rfl rfl) (fun j7 n7 v7 h => ?_) (fun v8 s h hs => ?_)
     ·unfold BH at h
      refine Ab (Aa Ad rfl (Bc rfl (Ac (Ab ?_))))
      refine Au rfl (fun c9 => ?_) (fun c9 => ?_)
      ·have h := Ap c9 h
       refine Av (Ab (AW (Ab (Aa Ad rfl (qm rfl ?_)))))
       obtain ⟨v10, a10, b10, h⟩ := An h
       refine qi AE CS a10 (Al b10) rfl (qk B1 rfl (qa rfl (qa rfl (Ac ?_))))
       refine AR h (fun v11 => mk [(1, .e (.one (.ptr 1 0))), (33, .e (.one (.pure (.sl (p0.fVersions.map Af))))), (34, .e (.one (.pure (.val (.int .i64 ((p0.fVersions.length : Int))))))), (35, .e (.one (.pure (.val (.int .i64 v7))))), (65, .e (.one (.pure (.val (.bool v11)))))] [(1, .box [.pure (.sl (p0.fVersions.map Af)), .pure (.sl (p0.fNow.map Af)), .pure (.sl (p0.fTarget.map Af)), .pure (.sl (p0.fTables.map Ak))])]) (fun j11 h => ?_) (fun v11 h => ?_)
       ·refine Aa Ad rfl (qm rfl (Bc rfl (qm rfl ?_)))
        refine AF (t := 42) rfl (fun c12 => ?_) (fun c12 => ?_)
        ·have h := Ap c12 h
         refine qn rfl (qn rfl (qp rfl (qm rfl (qn rfl (qn rfl (qn rfl (qn rfl (qn rfl (qn rfl (qn rfl (qn rfl (qp rfl (qm rfl (qn rfl (qn rfl (qn rfl (qn rfl (qn rfl (qn rfl (qn rfl (qn rfl (qp rfl (Ac ?_)))))))))))))))))))))))
         exact Ax _ h (sm [] _ _ rfl rfl)
        ·have h := Aq c12 h
         refine qm rfl (FY rfl (qp rfl (qm rfl ?_)))
         refine AF (t := 46) rfl (fun c13 => ?_) (fun c13 => ?_)
         ·have h := Ap c13 h
          refine qn rfl (qn rfl (qn rfl (qn rfl (qn rfl (qn rfl (qn rfl (qn rfl (qp rfl (qm rfl (qn rfl (qn rfl (qn rfl (qn rfl (qn rfl (qn rfl (qn rfl (qn rfl (qp rfl (Ac ?_)))))))))))))))))))
          exact Ax _ h (sm [] _ _ rfl rfl)
         ·have h := Aq c13 h
          refine qf FD rfl (ql A0 rfl (qm rfl ?_))
          obtain ⟨v14, a14, b14, h⟩ := An h
          refine qi AE CS a14 (Al b14) rfl (qk B1 rfl (qm rfl ?_))
          obtain ⟨v15, a15, h⟩ := bind_some h
          refine AI [] (Gk N v14 v10 v15 a15) SX rfl (Ch rfl (qp rfl (qm rfl ?_)))
          refine AF (t := 56) rfl (fun c16 => ?_) (fun c16 => ?_)
          ·have h := Ap c16 h
           refine qn rfl (qn rfl (qn rfl (qn rfl (qn rfl (qn rfl (qn rfl (qn rfl (qp rfl (Ac ?_)))))))))
           exact Ax _ h (sm [] _ _ rfl rfl)
          ·have h := Aq c16 h
           refine qf G6 rfl (ql A0 rfl (qm rfl ?_))
           obtain ⟨v17, a17, b17, h⟩ := An h
           refine qi AE CS a17 (Al b17) rfl (qk B1 rfl (qm rfl ?_))
           obtain ⟨v18, a18, h⟩ := bind_some h
           refine AI [] (Gk N v17 v10 v18 a18) SX rfl (Ch rfl (qp rfl (Ac ?_)))
           exact Ax _ h (sm [] _ _ rfl rfl)
       ·refine Au rfl (fun c19 => ?_) (fun c19 => ?_)
        ·have h := Ap c19 h
         refine Ab (Aa Ad rfl (qa rfl (Ac ?_)))
         obtain rfl := sj h
         refine Am (sm [] [(2, .e (.one (.pure (.val (.int .i64 7)))))] [] rfl rfl) (AB ?_)
         exact ⟨⟨[_], ⟨.tmp _ _ rfl, trivial⟩, rfl⟩, trivial⟩
        ·have h := Aq c19 h
         refine Av (Aa Ad rfl (Bm rfl (qm rfl (Ac ?_))))
         exact Ax _ h (sm [] _ _ rfl rfl)
      ·have h := Aq c9 h
       refine A1 ?_
       exact Ax _ h (sm [] _ _ rfl rfl)
     ·refine Am hs (Ab (Ab (Aa Ad rfl (qf Cl rfl (ql Gr rfl (AQ Dz rfl (qm rfl (Ac ?_))))))))
      refine AP (L := Bx N p0) h (fun v20 => mk [(1, .e (.one (.ptr 1 0))), (68, .e (.one (.pure (.sl (p0.fTables.map Ak))))), (69, .e (.one (.pure (.val (.int .i64 ((p0.fTables.length : Int))))))), (70, .e (.one (.pure (.val (.int .i64 v20)))))] [(1, .box [.pure (.sl (p0.fVersions.map Af)), .pure (.sl (p0.fNow.map Af)), .pure (.sl (p0.fTarget.map Af)), .pure (.sl (p0.fTables.map Ak))])]) (fun v21 => mk [] []) (fun _ _ => rfl) (sm [] _ _ rfl rfl) (fun j20 n20 v20 h => ?_) (fun v21 s h hs => ?_)
      ·unfold Bx at h
       refine Ab (Aa Ad rfl (Bc rfl (Ac (Ab ?_))))
       refine Au rfl (fun c22 => ?_) (fun c22 => ?_)
       ·have h := Ap c22 h
        refine Av (Ab (AW (Ab (Aa Ad rfl ?_))))
        obtain ⟨v23, a23, b23, h⟩ := An h
        refine qi Dz Dt a23 (Al b23) rfl (qK Gm Dt rfl (qz Jx rfl (qs Dt rfl (Ac (Ab (Aa Ad rfl (qL C5 CR rfl (qL Gm Dt rfl ?_))))))))
        obtain ⟨v24, a24, h⟩ := bind_some h
        refine AI [] (MG N p0 v23 v24 a24) Wl rfl (qa rfl (Ac (Ab (Aa Ad rfl (qm rfl (B0 rfl (Ac ?_)))))))
        refine Au rfl (fun c25 => ?_) (fun c25 => ?_)
        ·have h := Ap c25 h
         refine Ab (Aa Ad rfl (qm rfl (qa rfl (Ac ?_))))
         obtain rfl := sj h
         refine Am (sm [] [(2, .e (.one (.pure (.val (.int .i64 v24)))))] [] rfl rfl) (AB ?_)
         exact ⟨⟨[_], ⟨.tmp _ _ rfl, trivial⟩, rfl⟩, trivial⟩
        ·have h := Aq c25 h
         refine Av (Aa Ad rfl (Bm rfl (qm rfl (Ac ?_))))
         exact Ax _ h (sm [] _ _ rfl rfl)
       ·have h := Aq c22 h
        refine A1 ?_
        exact Ax _ h (sm [] _ _ rfl rfl)
      ·refine Am hs (Ab (Aa Ad rfl (qa rfl (Ac ?_))))
       obtain rfl := sj h
       refine Am (sm [] [(2, .e (.one (.pure (.val (.int .i64 0)))))] [] rfl rfl) (AB ?_)
       exact ⟨⟨[_], ⟨.tmp _ _ rfl, trivial⟩, rfl⟩, trivial⟩
set_option maxRecDepth 10000 in
theorem Da (N : Nat) (p0 : List Int) (r : (List Int)) (h : Bv N p0 = some r) : AD Try.prog 72 [.e (.one (.pure (.sl (p0.map Af))))] [(1, r.map Af)] (.e (.one (.own 0))) := by
 unfold Bv at h
 refine As (n := 8) (rs := [.tmp 2]) Try.func72 rfl rfl rfl (Bz rfl) (Bz rfl) rfl fun w0 S0 => ?_
 refine Ab (Aa Ad rfl (qa rfl (Ac (Ab (Ab (Aa Ad rfl (qm rfl ?_)))))))
 refine N6 (.p rfl) rfl AE ?_
 refine Ac ?_
 refine N8 rfl (fun c2 => ?_) ?_
 ·have c2 := List.map_eq_nil_iff.1 c2
  rw [c2] at h
  have h : (some (([] : List Int))) = some r := h
  refine Ab (Aa Ad rfl (qa rfl (Ac ?_)))
  obtain rfl := sj h
  refine Am ((BR 2 2001 1 rfl rfl rfl).trans (sm [(1000, 2001)] [(2, .e (.one (.own 1000)))] [(1000, .vec 1 ((([] : List Int)).map Af))] rfl rfl)) (AB ?_)
  exact ⟨⟨[_], ⟨.tmp _ _ rfl, trivial⟩, rfl⟩, ⟨rfl, trivial⟩⟩
 ·refine Av (Ab (Aa Ad rfl (D2 AE CS J4 rfl (qm rfl ?_))))
  obtain ⟨c1, h⟩ := AG h
  refine F0 (f := Af) AE AE CS K2 J4 (fun _ => rfl) c1 rfl (qa rfl (Ac ?_))
  obtain rfl := sj h
  refine Am (sm [(1000, 7)] [(2, .e (.one (.own 1000)))] [(1000, .vec 1 (((([] : List Int)) ++ p0).map Af))] rfl rfl) (AB ?_)
  exact ⟨⟨[_], ⟨.tmp _ _ rfl, trivial⟩, rfl⟩, ⟨rfl, trivial⟩⟩
set_option maxRecDepth 10000 in
theorem KM (N : Nat) (p0 : Int) (p1 : Int) (r : Int × Int) (h : FK N p0 p1 = some r) : AD Try.prog 110 [.e (.one (.pure (.val (.int .u32 p0)))), .e (.one (.pure (.val (.int .u32 p1))))] [] (.tup [.one (.pure (.val (.int .u32 r.1))), .one (.pure (.val (.int .u32 r.2)))]) := by
 unfold FK at h
 refine As (n := 17) (rs := [.tmp 4, .tmp 5]) Try.func110 rfl rfl rfl (Bz rfl) (Bz rfl) rfl fun w0 S0 => ?_
 refine Ab (Aa Ad rfl (qa rfl (qa rfl (Ac (Ab (Aa Ad rfl (qm rfl (It P8 Tz rfl (qm rfl (It P8 Tz rfl (Kl rfl (qa rfl (Ac (Ab (Aa Ad rfl (qm rfl (Ia rfl (by decide) (It Tg P4 rfl (qm rfl (It Tg P4 rfl (qa rfl (qa rfl (Ac ?_)))))))))))))))))))))))
 obtain rfl := sj h
 refine Am (sm [] [(4, .e (.one (.pure (.val (.int .u32 ((IntKind.wrap .u32 ((Ew .u64 ((IntKind.wrap .u64 ((IntKind.wrap .u64 p0) * (IntKind.wrap .u64 p1)))) 32))))))))), (5, .e (.one (.pure (.val (.int .u32 ((IntKind.wrap .u32 ((IntKind.wrap .u64 ((IntKind.wrap .u64 p0) * (IntKind.wrap .u64 p1)))))))))))] [] rfl rfl) (AB ?_)
 exact ⟨⟨[_, _], ⟨.tmp _ _ rfl, ⟨.tmp _ _ rfl, trivial⟩⟩, rfl⟩, trivial⟩
set_option maxRecDepth 10000 in
theorem Ks (N : Nat) (p0 : Int) (p1 : Int) (r : Int × Int) (h : FJ N p0 p1 = some r) : AD Try.prog 111 [.e (.one (.pure (.val (.int .u64 p0)))), .e (.one (.pure (.val (.int .u64 p1))))] [] (.tup [.one (.pure (.val (.int .u64 r.1))), .one (.pure (.val (.int .u64 r.2)))]) := by
 unfold FJ at h
 refine As (n := 51) (rs := [.tmp 4, .tmp 5]) Try.func111 rfl rfl rfl (Bz rfl) (Bz rfl) rfl fun w0 S0 => ?_
 refine Ab (Aa Ad rfl (qa rfl (qa rfl (Ac (Ab (Aa Ad rfl (qm rfl (Lp rfl (qa rfl (Ac (Ab (Aa Ad rfl (qm rfl (Ia rfl (by decide) (qa rfl (Ac (Ab (Aa Ad rfl (qm rfl (Lp rfl (qa rfl (Ac (Ab (Aa Ad rfl (qm rfl (Ia rfl (by decide) (qa rfl (Ac (Ab (Aa Ad rfl (qm rfl (qm rfl (Kl rfl (qa rfl (Ac (Ab (Aa Ad rfl (qm rfl (qm rfl ?_)))))))))))))))))))))))))))))))))))))))
 refine Kl rfl (qm rfl (Ia rfl (by decide) (Bm rfl (qa rfl (Ac (Ab (Aa Ad rfl (qm rfl (Lp rfl (qa rfl (Ac (Ab (Aa Ad rfl (qm rfl (Ia rfl (by decide) (qa rfl (Ac (Ab (Aa Ad rfl (qm rfl (qm rfl (qm rfl (Kl rfl (Bm rfl (qa rfl (Ac (Ab (Aa Ad rfl (qm rfl (qm rfl (Kl rfl (qm rfl (Bm rfl (qm rfl (Ia rfl (by decide) (Bm rfl (qa rfl (Ac (Ab ?_)))))))))))))))))))))))))))))))))))))))
 refine Aa Ad rfl (qm rfl (qm rfl (Kl rfl (qa rfl (Ac ?_)))))
 obtain rfl := sj h
 refine Am (sm [] [(4, .e (.one (.pure (.val (.int .u64 ((IntKind.wrap .u64 ((IntKind.wrap .u64 ((IntKind.wrap .u64 ((Ew .u64 p0 32) * (Ew .u64 p1 32))) + (Ew .u64 ((IntKind.wrap .u64 ((IntKind.wrap .u64 ((Ew .u64 p0 32) * (Fb .u64 p1 4294967295))) + (Ew .u64 ((IntKind.wrap .u64 ((Fb .u64 p0 4294967295) * (Fb .u64 p1 4294967295)))) 32)))) 32))) + (Ew .u64 ((IntKind.wrap .u64 ((Fb .u64 ((IntKind.wrap .u64 ((IntKind.wrap .u64 ((Ew .u64 p0 32) * (Fb .u64 p1 4294967295))) + (Ew .u64 ((IntKind.wrap .u64 ((Fb .u64 p0 4294967295) * (Fb .u64 p1 4294967295)))) 32)))) 4294967295) + (IntKind.wrap .u64 ((Fb .u64 p0 4294967295) * (Ew .u64 p1 32)))))) 32))))))))), (5, .e (.one (.pure (.val (.int .u64 ((IntKind.wrap .u64 (p0 * p1))))))))] [] rfl rfl) (AB ?_)
 exact ⟨⟨[_, _], ⟨.tmp _ _ rfl, ⟨.tmp _ _ rfl, trivial⟩⟩, rfl⟩, trivial⟩
set_option maxRecDepth 10000 in
theorem LA (N : Nat) (p0 : Int) (p1 : Int) (r : Int × Int) (h : Gz N p0 p1 = some r) : AD Try.prog 97 [.e (.one (.pure (.val (.int .u64 p0)))), .e (.one (.pure (.val (.int .u64 p1))))] [] (.tup [.one (.pure (.val (.int .u64 r.1))), .one (.pure (.val (.int .u64 r.2)))]) := by
 unfold Gz at h
 refine As (n := 30) (rs := [.tmp 4, .tmp 5]) Try.func97 rfl rfl rfl (Bz rfl) (Bz rfl) rfl fun w0 S0 => ?_
 refine Ab (Aa Ad rfl (qa rfl (qa rfl (Ac (Ab ?_)))))
 refine Au rfl (fun c1 => ?_) (fun c1 => ?_)
 ·have h := Ap c1 h
  refine Ab (Aa Ad rfl (qm rfl (It RB P4 rfl (qm rfl (It RB P4 rfl ?_)))))
  obtain ⟨v2, a2, h⟩ := bind_some h
  refine AI [] (KM N ((IntKind.wrap .u32 p0)) ((IntKind.wrap .u32 p1)) v2 a2) Uy rfl (qm rfl (qx rfl (qx rfl (qa rfl (qa rfl (Ac (Ab (Aa Ad rfl (qm rfl (It P8 Qc rfl (qm rfl (It P8 Qc rfl (qa rfl (qa rfl (Ac ?_)))))))))))))))
  obtain rfl := sj h
  refine Am (sm [] [(4, .e (.one (.pure (.val (.int .u64 ((IntKind.wrap .u64 v2.1))))))), (5, .e (.one (.pure (.val (.int .u64 ((IntKind.wrap .u64 v2.2)))))))] [] rfl rfl) (AB ?_)
  exact ⟨⟨[_, _], ⟨.tmp _ _ rfl, ⟨.tmp _ _ rfl, trivial⟩⟩, rfl⟩, trivial⟩
 ·have h := Aq c1 h
  refine Av (Ab (Aa Ad rfl (qm rfl (qm rfl ?_))))
  obtain ⟨v3, a3, h⟩ := bind_some h
  refine AI [] (Ks N p0 p1 v3 a3) Ur rfl (qm rfl (qx rfl (qx rfl (qa rfl (qa rfl (Ac (Ab (Aa Ad rfl (qm rfl (qm rfl (qa rfl (qa rfl (Ac ?_)))))))))))))
  obtain rfl := sj h
  refine Am (sm [] [(4, .e (.one (.pure (.val (.int .u64 v3.1))))), (5, .e (.one (.pure (.val (.int .u64 v3.2)))))] [] rfl rfl) (AB ?_)
  exact ⟨⟨[_, _], ⟨.tmp _ _ rfl, ⟨.tmp _ _ rfl, trivial⟩⟩, rfl⟩, trivial⟩
set_option maxRecDepth 10000 in
theorem H8 (N : Nat) (p0 : List Int) (p1 : Int) (r : (List Int)) (h : DA N p0 p1 = some r) : AD Try.prog 73 [.e (.one (.pure (.sl (p0.map Af)))), .e (.one (.pure (.val (.int .i64 p1))))] [(1, r.map Af)] (.e (.one (.own 0))) := by
 unfold DA at h
 refine As (n := 48) (rs := [.tmp 4]) Try.func73 rfl rfl rfl (Bz rfl) (Bz rfl) rfl fun w0 S0 => ?_
 refine Ab (Aa Ad rfl (qa rfl (Ac ?_)))
 refine AR h (fun v1 => mk [(0, .e (.one (.pure (.sl (p0.map Af))))), (1, .e (.one (.pure (.val (.int .i64 p1)))))] []) (fun j1 h => ?_) (fun v1 h => ?_)
 ·refine Ab (Aa Ad rfl (qm rfl (Bc rfl (Ac ?_))))
  refine Au rfl (fun c2 => ?_) (fun c2 => ?_)
  ·have h := Ap c2 h
   refine Aa Ad rfl ?_
   cases h
  ·have h := Aq c2 h
   refine Av ?_
   exact Ax _ h (sm [] _ _ rfl rfl)
 ·refine Ab (Aa Ad rfl (qm rfl (AQ AE rfl (It Vz Qc rfl (qm rfl (It Vz Qc rfl ?_))))))
  obtain ⟨v3, a3, h⟩ := bind_some h
  refine AI [] (LA N ((IntKind.wrap .u64 ((p0.length : Int)))) ((IntKind.wrap .u64 p1)) v3 a3) VO rfl (qm rfl (qx rfl (qx rfl (qa rfl (qa rfl (Ac ?_))))))
  refine AR h (fun v4 => mk [(0, .e (.one (.pure (.sl (p0.map Af))))), (6, .e (.one (.pure (.val (.int .u64 v3.2)))))] []) (fun j4 h => ?_) (fun v4 h => ?_)
  ·refine AR h (fun v5 => mk [(0, .e (.one (.pure (.sl (p0.map Af))))), (6, .e (.one (.pure (.val (.int .u64 v3.2))))), (26, .e (.one (.pure (.val (.bool v5)))))] []) (fun j5 h => ?_) (fun v5 h => ?_)
   ·refine Aa Ad rfl (qm rfl (FY rfl (qm rfl ?_)))
    refine AF (t := 23) rfl (fun c6 => ?_) (fun c6 => ?_)
    ·have h := Ap c6 h
     refine qn rfl (qn rfl (qp rfl (Ac ?_)))
     exact Ax _ h (sm [] _ _ rfl rfl)
    ·have h := Aq c6 h
     refine qm rfl (FY rfl (qp rfl (Ac ?_)))
     exact Ax _ h (sm [] _ _ rfl rfl)
   ·refine Au rfl (fun c7 => ?_) (fun c7 => ?_)
    ·have h := Ap c7 h
     refine Aa Ad rfl ?_
     cases h
    ·have h := Aq c7 h
     refine Av ?_
     exact Ax _ h (sm [] _ _ rfl rfl)
  ·refine Ab (Aa Ad rfl (qm rfl (It RB Ue rfl ?_)))
   obtain ⟨c8, h⟩ := AG h
   refine IY (.p rfl) rfl rfl rfl AE CS K2 (Bz rfl) J4 rfl rfl rfl c8.1 c8.2.1 c8.2.2 (NL Af _ ((0 : Int))) ?_
   refine qa rfl (Ac (Ab (Aa Ad rfl (qm rfl (qm rfl ?_)))))
   refine Qn Af (List.replicate ((IntKind.wrap .i64 v3.2)).toNat ((0 : Int))) p0 (.p rfl) rfl (Hf Af _ _ (List.replicate ((IntKind.wrap .i64 v3.2)).toNat ((0 : Int)))) rfl rfl (SF Af _ _ (fun _ => rfl)) trivial AE CS ?_
   refine qa rfl (Ac (Ab ?_))
   refine AP (L := C2 N) h (fun v9 => mk [(7, .e (.one (.own 2001))), (8, .e (.one (.pure (.val (.int .i64 v9.2)))))] [(2001, .vec 1 (v9.1.map Af))]) (fun v10 => mk [(7, .e (.one (.own 2002)))] [(2002, .vec 1 (v10.map Af))]) (fun _ _ => rfl) (sm [(2001, 30)] _ _ rfl rfl) (fun j9 n9 v9 h => ?_) (fun v10 s h hs => ?_)
   ·unfold C2 at h
    refine Ab (Ab (Aa Ad rfl (qm rfl (qm rfl (EZ AE rfl (Bc rfl (Ac ?_)))))))
    refine Au rfl (fun c11 => ?_) (fun c11 => ?_)
    ·have h := Ap c11 h
     refine Av (AW (Aa Ad rfl (qm rfl (qm rfl (qm rfl ?_)))))
     obtain ⟨c12, h⟩ := AG h
     have w13 : ((v9.2).toNat) + ((v9.1.length - (v9.2).toNat)) ≤ v9.1.length := by have := c12.2.1; have := c12.2.2; omega
     refine Hp Af v9.1 (.p rfl) rfl (Hf Af _ _ v9.1) rfl AE CS (.some _ _ _ _ c12.1) (.none _) ⟨rfl, trivial⟩ trivial c12.2.1 (by rw [Nat.zero_add]; exact c12.2.2) (Nat.zero_add _) rfl ?_
     refine qm rfl (qm rfl ?_)
     obtain ⟨c14, h⟩ := AG h
     have w15 : 0 + ((v9.2).toNat) ≤ v9.1.length := by have := c14.2.1; have := c14.2.2; omega
     refine Hp Af v9.1 (.p rfl) rfl (Hf Af _ _ v9.1) rfl AE CS (.none _) (.some _ _ _ _ c14.1) trivial ⟨rfl, trivial⟩ c14.2.1 (by rw [Nat.zero_add]; exact c14.2.2) (Nat.zero_add _) rfl ?_
     refine Qn Af v9.1 (((v9.1.drop 0).take ((v9.2).toNat))) (.p rfl) rfl (H1 Af _ _ ((v9.2).toNat) ((v9.1.length - (v9.2).toNat)) v9.1 w13) rfl rfl (MY Af _ _ 0 ((v9.2).toNat) v9.1 w15) ⟨rfl, trivial⟩ AE CS ?_
     refine Bm rfl (qa rfl (AX (by kernel_rfl) ?_))
     exact Ax _ h (sm [] _ _ rfl rfl)
    ·have h := Aq c11 h
     refine A1 ?_
     exact Ax _ h (sm [(2002, 2001)] _ _ rfl rfl)
   ·refine Am hs (Ab (Aa Ad rfl (qm rfl (qa rfl (Ac ?_)))))
    obtain rfl := sj h
    refine Am (sm [(1000, 2002)] [(4, .e (.one (.own 1000)))] [(1000, .vec 1 (v10.map Af))] rfl rfl) (AB ?_)
    exact ⟨⟨[_], ⟨.tmp _ _ rfl, trivial⟩, rfl⟩, ⟨rfl, trivial⟩⟩
set_option maxRecDepth 10000 in
theorem Iw (N : Nat) (p0 : AC) (r : Bool) (h : El N p0 = some r) : AD Try.prog 74 [.e (.agg [.pure (.val (.int .i64 p0.fKind)), .pure (.val (.int .i64 p0.fFrom)), .pure (.val (.int .i64 p0.fTo)), .pure (.val (.bool p0.fAware)), .pure (.sl (p0.fOK.map (DY eB))), .pure (.sl (p0.fRewrite.map (DY eB)))])] [] (.e (.one (.pure (.val (.bool r))))) := by
 unfold El at h
 refine As (n := 11) (rs := [.tmp 2]) Try.func74 rfl rfl rfl (Bz rfl) (Bz rfl) rfl fun w0 S0 => ?_
 refine Ab (Aa Ad rfl (qb rfl (qa rfl (Ac ?_))))
 refine AR h (fun v1 => mk [(2, .e (.one (.pure (.val (.bool v1)))))] []) (fun j1 h => ?_) (fun v1 h => ?_)
 ·refine Aa Ad rfl (qf ER rfl (ql B1 rfl (BO rfl (qm rfl ?_))))
  refine AF (t := 6) rfl (fun c2 => ?_) (fun c2 => ?_)
  ·have h := Ap c2 h
   refine qn rfl (qn rfl (qn rfl (qp rfl (qa rfl (Ac ?_)))))
   exact Ax _ h (sm [] _ _ rfl rfl)
  ·have h := Aq c2 h
   refine qf ER rfl (ql B1 rfl (BO rfl (qp rfl (qa rfl (Ac ?_)))))
   exact Ax _ h (sm [] _ _ rfl rfl)
 ·obtain rfl := sj h
  refine Am (sm [] [(2, .e (.one (.pure (.val (.bool v1)))))] [] rfl rfl) (AB ?_)
  exact ⟨⟨[_], ⟨.tmp _ _ rfl, trivial⟩, rfl⟩, trivial⟩
set_option maxRecDepth 10000 in
theorem Lj (N : Nat) (p0 : Ae) (r : Ah × Int) (h : Fc N p0 = some r) : AD Try.prog 37 [.e (.agg [.pure (.sl (p0.fVersions.map Af)), .pure (.sl (p0.fNow.map Af)), .pure (.sl (p0.fTarget.map Af)), .pure (.sl (p0.fTables.map Ak))])] [(1, r.1.fBase.map Af), (1, r.1.fNext.map Af), (1, r.1.fHeld.map A3)] (.tup [.agg [.own 0, .own 1, .own 2], .one (.pure (.val (.int .i64 r.2)))]) := by
 unfold Fc at h
 refine As (n := 50) (rs := [.cell 2 43, .tmp 3]) Try.func37 rfl rfl rfl (Bz rfl) (Bz rfl) rfl fun w0 S0 => ?_
 refine Ab (Aa Ad rfl (qb rfl (qz Co rfl (qa rfl (Ac (Ab (Ab (Aa Ad rfl (qL C5 CR rfl ?_)))))))))
 obtain ⟨v1, a1, h⟩ := bind_some h
 refine AI [] (EY N p0 v1 a1) TE rfl (qa rfl (Ac (Ab (Aa Ad rfl (qm rfl (B0 rfl (Ac ?_)))))))
 refine Au rfl (fun c2 => ?_) (fun c2 => ?_)
 ·have h := Ap c2 h
  refine Ab (Aa Ad rfl (AV Co Fa rfl (qm rfl (qs AO rfl (qa rfl (Ac ?_))))))
  obtain rfl := sj h
  refine Am ((AA 2 0 2001 1 _ rfl rfl rfl rfl).trans ((AA 2 1 2002 1 _ rfl rfl rfl rfl).trans ((AA 2 2 2003 1 _ rfl rfl rfl rfl).trans (sm [(1000, 2001), (1001, 2002), (1002, 2003)] [(2, .e (.one (.ptr 2 0))), (3, .e (.one (.pure (.val (.int .i64 v1)))))] [(2, .box [.own 1000, .own 1001, .own 1002]), (1000, .vec 1 ((([] : List Int)).map Af)), (1001, .vec 1 ((([] : List Int)).map Af)), (1002, .vec 1 ((([] : List Int)).map A3))] rfl rfl)))) (AB ?_)
  exact ⟨⟨[_, _], ⟨.cellN _ _ _ _ _ _ _ rfl rfl Bl AO rfl rfl (Fp rfl), ⟨.tmp _ _ rfl, trivial⟩⟩, rfl⟩, ⟨rfl, rfl, rfl, trivial⟩⟩
 ·have h := Aq c2 h
  refine Av (Ab (Aa Ad rfl (qf FD rfl (ql A0 rfl ?_))))
  obtain ⟨v3, a3, h⟩ := bind_some h
  refine AI [2004] (Da N p0.fNow v3 a3) RW rfl (D2 AE CS J4 rfl (qf FD rfl (ql A0 rfl (AQ AE rfl ?_))))
  obtain ⟨v4, a4, h⟩ := bind_some h
  refine D5 [2005] [17] (H8 N (([(-1)] : List Int)) ((p0.fNow.length : Int)) v4 a4) V6 (FP (fun _ => rfl) CN) rfl (qf Cl rfl (ql Gr rfl (AQ Dz rfl ?_)))
  obtain ⟨c5, h⟩ := AG h
  refine IY (.p rfl) rfl rfl rfl C8 E5 Po (Bz rfl) NF rfl rfl rfl c5.1 c5.2.1 c5.2.2 (NL A3 _ ((0 : Int))) ?_
  refine AV Co Fa rfl (qz Co rfl (qs AO rfl (AX (by kernel_rfl) (Ab (Ab (Aa Ad rfl (qf Cl rfl (ql Gr rfl (AQ Dz rfl (qm rfl (Ac ?_)))))))))))
  refine AP (L := Dk N p0) h (fun v6 => mk [(1, .e (.one (.ptr 1 0))), (2, .e (.one (.ptr 2 0))), (5, .e (.one (.ptr 5 0))), (28, .e (.one (.pure (.sl (p0.fTables.map Ak))))), (29, .e (.one (.pure (.val (.int .i64 ((p0.fTables.length : Int))))))), (30, .e (.one (.pure (.val (.int .i64 v6.2)))))] [(1, .box [.pure (.sl (p0.fVersions.map Af)), .pure (.sl (p0.fNow.map Af)), .pure (.sl (p0.fTarget.map Af)), .pure (.sl (p0.fTables.map Ak))]), (2, .box [.pure (.nil0), .pure (.nil0), .pure (.nil0)]), (5, .box [.own 2006, .own 2007, .own 2008]), (2006, .vec 1 (v3.map Af)), (2007, .vec 1 (v4.map Af)), (2008, .vec 1 (v6.1.map A3))]) (fun v7 => mk [(2, .e (.one (.ptr 2 0))), (5, .e (.one (.ptr 5 0)))] [(2, .box [.pure (.nil0), .pure (.nil0), .pure (.nil0)]), (5, .box [.own 2009, .own 2010, .own 2011]), (2009, .vec 1 (v3.map Af)), (2010, .vec 1 (v4.map Af)), (2011, .vec 1 (v7.map A3))]) (fun _ _ => rfl) (sm [(2006, 2004), (2007, 2005), (2008, 25)] _ _ rfl rfl) (fun j6 n6 v6 h => ?_) (fun v7 s h hs => ?_)
  ·unfold Dk at h
   refine Ab (Aa Ad rfl (Bc rfl (Ac (Ab ?_))))
   refine Au rfl (fun c8 => ?_) (fun c8 => ?_)
   ·have h := Ap c8 h
    refine Av ?_
    refine AR h (fun v9 => mk [(1, .e (.one (.ptr 1 0))), (2, .e (.one (.ptr 2 0))), (5, .e (.one (.ptr 5 0))), (28, .e (.one (.pure (.sl (p0.fTables.map Ak))))), (29, .e (.one (.pure (.val (.int .i64 ((p0.fTables.length : Int))))))), (30, .e (.one (.pure (.val (.int .i64 v6.2)))))] [(1, .box [.pure (.sl (p0.fVersions.map Af)), .pure (.sl (p0.fNow.map Af)), .pure (.sl (p0.fTarget.map Af)), .pure (.sl (p0.fTables.map Ak))]), (2, .box [.pure (.nil0), .pure (.nil0), .pure (.nil0)]), (5, .box [.own 2012, .own 2013, .own 2014]), (2012, .vec 1 (v3.map Af)), (2013, .vec 1 (v4.map Af)), (2014, .vec 1 (v9.map A3))]) (fun j9 h => ?_) (fun v9 h => ?_)
    ·refine AW (Ab (Aa Ad rfl (qm rfl ?_)))
     obtain ⟨v10, a10, b10, h⟩ := An h
     refine qi Dz Dt a10 (Al b10) rfl (qK Gm Dt rfl (qz Jx rfl (qa rfl (qs Dt rfl (Ac (Ab (Aa Ad rfl (qL Gm Dt rfl ?_))))))))
     obtain ⟨v11, a11, h⟩ := bind_some h
     refine AI [] (Iw N v10 v11 a11) Ui rfl (Ac ?_)
     refine Au rfl (fun c12 => ?_) (fun c12 => ?_)
     ·have h := Ap c12 h
      refine Aa Ad rfl (qf Cn rfl (ql Gq rfl (qm rfl (qf FD rfl (ql A0 rfl (qf CF rfl (ql B1 rfl ?_)))))))
      obtain ⟨v13, a13, b13, h⟩ := An h
      refine qi AE CS a13 (Al b13) rfl (qk B1 rfl ?_)
      obtain ⟨c14, h⟩ := AG h
      refine HD rfl c14 ?_
      obtain ⟨v15, a15, b15, h⟩ := An h
      refine qI C8 E5 a15 (Al b15) rfl ?_
      refine DH rfl rfl rfl rfl (Al b15) rfl E5 rfl (Bz rfl) (Dr A3 v6.1 _ ((C3 .u8 1 v13))) ?_
      refine AX (by kernel_rfl) ?_
      exact Ax _ h (sm [(2012, 2006), (2013, 2007), (2014, 2008)] _ _ rfl rfl)
     ·have h := Aq c12 h
      refine Av ?_
      exact Ax _ h (sm [(2012, 2006), (2013, 2007), (2014, 2008)] _ _ rfl rfl)
    ·refine Aa Ad rfl (Bm rfl (qm rfl (Ac ?_)))
     exact Ax _ h (sm [(2006, 2012), (2007, 2013), (2008, 2014)] _ _ rfl rfl)
   ·have h := Aq c8 h
    refine A1 ?_
    exact Ax _ h (sm [(2009, 2006), (2010, 2007), (2011, 2008)] _ _ rfl rfl)
  ·refine Am hs (Ab (Aa Ad rfl (qL Bl AO rfl (qs AO rfl (qa rfl (Ac ?_))))))
   obtain rfl := sj h
   refine Am (sm [(1000, 2009), (1001, 2010), (1002, 2011)] [(2, .e (.one (.ptr 2 0))), (3, .e (.one (.pure (.val (.int .i64 0)))))] [(2, .box [.own 1000, .own 1001, .own 1002]), (1000, .vec 1 (v3.map Af)), (1001, .vec 1 (v4.map Af)), (1002, .vec 1 (v7.map A3))] rfl rfl) (AB ?_)
   exact ⟨⟨[_, _], ⟨.cellN _ _ _ _ _ _ _ rfl rfl Bl AO rfl rfl (Fp rfl), ⟨.tmp _ _ rfl, trivial⟩⟩, rfl⟩, ⟨rfl, rfl, rfl, trivial⟩⟩
set_option maxRecDepth 10000 in
theorem HQ (N : Nat) (p0 : Ah) (p1 : Int) (r : Int) (h : D0 N p0 p1 = some r) : AD Try.prog 99 [.e (.agg [.pure (.sl (p0.fBase.map Af)), .pure (.sl (p0.fNext.map Af)), .pure (.sl (p0.fHeld.map A3))]), .e (.one (.pure (.val (.int .i64 p1))))] [] (.e (.one (.pure (.val (.int .u8 r))))) := by
 unfold D0 at h
 refine As (n := 27) (rs := [.tmp 4]) Try.func99 rfl rfl rfl (Bz rfl) (Bz rfl) rfl fun w0 S0 => ?_
 refine Ab (Aa Ad rfl (qb rfl (qa rfl (Ac (Ab (Aa Ad rfl (qf Cp rfl (ql A0 rfl (qm rfl ?_)))))))))
 obtain ⟨v1, a1, b1, h⟩ := An h
 refine qi AE CS a1 (Al b1) rfl (qk B1 rfl ?_)
 obtain ⟨c2, h⟩ := AG h
 refine HD rfl c2 (qa rfl (Ac ?_))
 refine AR h (fun v3 => mk [(5, .e (.one (.pure (.val (.int .u8 v3)))))] []) (fun j3 h => ?_) (fun v3 h => ?_)
 ·refine Ab (Aa Ad rfl (qf Bu rfl (ql A0 rfl (qm rfl ?_))))
  obtain ⟨v4, a4, b4, h⟩ := An h
  refine qi AE CS a4 (Al b4) rfl (qk B1 rfl (DX rfl (Ac ?_)))
  refine Au rfl (fun c5 => ?_) (fun c5 => ?_)
  ·have h := Ap c5 h
   refine Aa Ad rfl (qm rfl (qf Bu rfl (ql A0 rfl (qm rfl ?_))))
   obtain ⟨v6, a6, b6, h⟩ := An h
   refine qi AE CS a6 (Al b6) rfl (qk B1 rfl ?_)
   obtain ⟨c7, h⟩ := AG h
   refine HD rfl c7 (RY rfl (qa rfl (Ac ?_)))
   exact Ax _ h (sm [] _ _ rfl rfl)
  ·have h := Aq c5 h
   refine Av ?_
   exact Ax _ h (sm [] _ _ rfl rfl)
 ·refine Ab (Aa Ad rfl (qm rfl (qa rfl (Ac ?_))))
  obtain rfl := sj h
  refine Am (sm [] [(4, .e (.one (.pure (.val (.int .u8 v3)))))] [] rfl rfl) (AB ?_)
  exact ⟨⟨[_], ⟨.tmp _ _ rfl, trivial⟩, rfl⟩, trivial⟩
set_option maxRecDepth 10000 in
theorem HJ (N : Nat) (p0 : Ae) (p1 : Ah) (r : Int) (h : Eg N p0 p1 = some r) : AD Try.prog 77 [.e (.agg [.pure (.sl (p0.fVersions.map Af)), .pure (.sl (p0.fNow.map Af)), .pure (.sl (p0.fTarget.map Af)), .pure (.sl (p0.fTables.map Ak))]), .e (.agg [.pure (.sl (p1.fBase.map Af)), .pure (.sl (p1.fNext.map Af)), .pure (.sl (p1.fHeld.map A3))])] [] (.e (.one (.pure (.val (.int .i64 r))))) := by
 unfold Eg at h
 refine As (n := 135) (rs := [.tmp 4]) Try.func77 rfl rfl rfl (Bz rfl) (Bz rfl) rfl fun w0 S0 => ?_
 refine Ab (Aa Ad rfl (qb rfl (qb rfl (qa rfl (Ac (Ab (Ab (Aa Ad rfl (qL C5 CR rfl ?_)))))))))
 obtain ⟨v1, a1, h⟩ := bind_some h
 refine AI [] (EY N p0 v1 a1) TE rfl (qa rfl (Ac (Ab (Aa Ad rfl (qm rfl (B0 rfl (Ac ?_)))))))
 refine Au rfl (fun c2 => ?_) (fun c2 => ?_)
 ·have h := Ap c2 h
  refine Ab (Aa Ad rfl (qm rfl (qa rfl (Ac ?_))))
  obtain rfl := sj h
  refine Am (sm [] [(4, .e (.one (.pure (.val (.int .i64 v1)))))] [] rfl rfl) (AB ?_)
  exact ⟨⟨[_], ⟨.tmp _ _ rfl, trivial⟩, rfl⟩, trivial⟩
 ·have h := Aq c2 h
  refine Av (Ab ?_)
  refine AR h (fun v3 => mk [(2, .e (.one (.ptr 2 0))), (3, .e (.one (.ptr 3 0))), (41, .e (.one (.pure (.val (.bool v3)))))] [(2, .box [.pure (.sl (p0.fVersions.map Af)), .pure (.sl (p0.fNow.map Af)), .pure (.sl (p0.fTarget.map Af)), .pure (.sl (p0.fTables.map Ak))]), (3, .box [.pure (.sl (p1.fBase.map Af)), .pure (.sl (p1.fNext.map Af)), .pure (.sl (p1.fHeld.map A3))])]) (fun j3 h => ?_) (fun v3 h => ?_)
  ·refine Aa Ad rfl (qf Cp rfl (ql A0 rfl (AQ AE rfl (qf Bk rfl (ql A0 rfl (AQ AE rfl (B0 rfl (qm rfl ?_))))))))
   refine AF (t := 24) rfl (fun c4 => ?_) (fun c4 => ?_)
   ·have h := Ap c4 h
    refine qn rfl (qn rfl (qn rfl (qn rfl (qn rfl (qn rfl (qn rfl (qp rfl (qm rfl (qn rfl (qn rfl (qn rfl (qn rfl (qn rfl (qn rfl (qn rfl (qp rfl (Ac ?_)))))))))))))))))
    exact Ax _ h (sm [] _ _ rfl rfl)
   ·have h := Aq c4 h
    refine qf Bu rfl (ql A0 rfl (AQ AE rfl (qf Bk rfl (ql A0 rfl (AQ AE rfl (B0 rfl (qp rfl (qm rfl ?_))))))))
    refine AF (t := 33) rfl (fun c5 => ?_) (fun c5 => ?_)
    ·have h := Ap c5 h
     refine qn rfl (qn rfl (qn rfl (qn rfl (qn rfl (qn rfl (qn rfl (qp rfl (Ac ?_))))))))
     exact Ax _ h (sm [] _ _ rfl rfl)
    ·have h := Aq c5 h
     refine qf Cn rfl (ql Gq rfl (AQ C8 rfl (qf Cl rfl (ql Gr rfl (AQ Dz rfl (B0 rfl (qp rfl (Ac ?_))))))))
     exact Ax _ h (sm [] _ _ rfl rfl)
  ·refine Au rfl (fun c6 => ?_) (fun c6 => ?_)
   ·have h := Ap c6 h
    refine Ab (Aa Ad rfl (qa rfl (Ac ?_)))
    obtain rfl := sj h
    refine Am (sm [] [(4, .e (.one (.pure (.val (.int .i64 6)))))] [] rfl rfl) (AB ?_)
    exact ⟨⟨[_], ⟨.tmp _ _ rfl, trivial⟩, rfl⟩, trivial⟩
   ·have h := Aq c6 h
    refine Av (Ab (Ab (Aa Ad rfl (qf Bk rfl (ql A0 rfl (AQ AE rfl (qm rfl (Ac ?_))))))))
    refine AP (L := Dh N p0 p1) h (fun v7 => mk [(2, .e (.one (.ptr 2 0))), (3, .e (.one (.ptr 3 0))), (43, .e (.one (.pure (.sl (p0.fVersions.map Af))))), (44, .e (.one (.pure (.val (.int .i64 ((p0.fVersions.length : Int))))))), (45, .e (.one (.pure (.val (.int .i64 v7)))))] [(2, .box [.pure (.sl (p0.fVersions.map Af)), .pure (.sl (p0.fNow.map Af)), .pure (.sl (p0.fTarget.map Af)), .pure (.sl (p0.fTables.map Ak))]), (3, .box [.pure (.sl (p1.fBase.map Af)), .pure (.sl (p1.fNext.map Af)), .pure (.sl (p1.fHeld.map A3))])]) (fun v8 => mk [(2, .e (.one (.ptr 2 0))), (3, .e (.one (.ptr 3 0)))] [(2, .box [.pure (.sl (p0.fVersions.map Af)), .pure (.sl (p0.fNow.map Af)), .pure (.sl (p0.fTarget.map Af)), .pure (.sl (p0.fTables.map Ak))]), (3, .box [.pure (.sl (p1.fBase.map Af)), .pure (.sl (p1.fNext.map Af)), .pure (.sl (p1.fHeld.map A3))])]) (fun _ _ => rfl) (sm [] _ _ rfl rfl) (fun j7 n7 v7 h => ?_) (fun v8 s h hs => ?_)
    ·unfold Dh at h
     refine Ab (Aa Ad rfl (Bc rfl (Ac (Ab ?_))))
     refine Au rfl (fun c9 => ?_) (fun c9 => ?_)
     ·have h := Ap c9 h
      refine Av (Ab (AW (Ab (Aa Ad rfl (qm rfl ?_)))))
      obtain ⟨v10, a10, b10, h⟩ := An h
      refine qi AE CS a10 (Al b10) rfl (qk B1 rfl (qa rfl (qa rfl (Ac (Ab ?_)))))
      refine AR h (fun v11 => mk [(2, .e (.one (.ptr 2 0))), (3, .e (.one (.ptr 3 0))), (6, .e (.one (.pure (.val (.int .i64 v7))))), (43, .e (.one (.pure (.sl (p0.fVersions.map Af))))), (44, .e (.one (.pure (.val (.int .i64 ((p0.fVersions.length : Int))))))), (45, .e (.one (.pure (.val (.int .i64 v7))))), (81, .e (.one (.pure (.val (.bool v11)))))] [(2, .box [.pure (.sl (p0.fVersions.map Af)), .pure (.sl (p0.fNow.map Af)), .pure (.sl (p0.fTarget.map Af)), .pure (.sl (p0.fTables.map Ak))]), (3, .box [.pure (.sl (p1.fBase.map Af)), .pure (.sl (p1.fNext.map Af)), .pure (.sl (p1.fHeld.map A3))])]) (fun j11 h => ?_) (fun v11 h => ?_)
      ·refine Aa Ad rfl (qf Cp rfl (ql A0 rfl (qm rfl ?_)))
       obtain ⟨v12, a12, b12, h⟩ := An h
       refine qi AE CS a12 (Al b12) rfl (qk B1 rfl (Bc rfl (qm rfl ?_)))
       refine AF (t := 56) rfl (fun c13 => ?_) (fun c13 => ?_)
       ·have h := Ap c13 h
        refine qn rfl (qn rfl (qn rfl (qn rfl (qn rfl (qn rfl (qn rfl (qp rfl (qm rfl (qn rfl (qn rfl (qn rfl (qn rfl (qn rfl (qn rfl (qp rfl (qm rfl (qn rfl (qn rfl (qn rfl (qn rfl (qn rfl (qn rfl (qn rfl (qp rfl (Ac ?_)))))))))))))))))))))))))
        exact Ax _ h (sm [] _ _ rfl rfl)
       ·have h := Aq c13 h
        refine qf Cp rfl (ql A0 rfl (qm rfl ?_))
        obtain ⟨v14, a14, b14, h⟩ := An h
        refine qi AE CS a14 (Al b14) rfl (qk B1 rfl (qm rfl (DX rfl (qp rfl (qm rfl ?_)))))
        refine AF (t := 65) rfl (fun c15 => ?_) (fun c15 => ?_)
        ·have h := Ap c15 h
         refine qn rfl (qn rfl (qn rfl (qn rfl (qn rfl (qn rfl (qp rfl (qm rfl (qn rfl (qn rfl (qn rfl (qn rfl (qn rfl (qn rfl (qn rfl (qp rfl (Ac ?_))))))))))))))))
         exact Ax _ h (sm [] _ _ rfl rfl)
        ·have h := Aq c15 h
         refine qf Bu rfl (ql A0 rfl (qm rfl ?_))
         obtain ⟨v16, a16, b16, h⟩ := An h
         refine qi AE CS a16 (Al b16) rfl (qk B1 rfl (Bc rfl (qp rfl (qm rfl ?_))))
         refine AF (t := 73) rfl (fun c17 => ?_) (fun c17 => ?_)
         ·have h := Ap c17 h
          refine qn rfl (qn rfl (qn rfl (qn rfl (qn rfl (qn rfl (qn rfl (qp rfl (Ac ?_))))))))
          exact Ax _ h (sm [] _ _ rfl rfl)
         ·have h := Aq c17 h
          refine qf Bu rfl (ql A0 rfl (qm rfl ?_))
          obtain ⟨v18, a18, b18, h⟩ := An h
          refine qi AE CS a18 (Al b18) rfl (qk B1 rfl (qm rfl (DX rfl (qp rfl (Ac ?_)))))
          exact Ax _ h (sm [] _ _ rfl rfl)
      ·refine Au rfl (fun c19 => ?_) (fun c19 => ?_)
       ·have h := Ap c19 h
        refine Ab (Aa Ad rfl (qa rfl (Ac ?_)))
        obtain rfl := sj h
        refine Am (sm [] [(4, .e (.one (.pure (.val (.int .i64 7)))))] [] rfl rfl) (AB ?_)
        exact ⟨⟨[_], ⟨.tmp _ _ rfl, trivial⟩, rfl⟩, trivial⟩
       ·have h := Aq c19 h
        refine Av (Ab (Aa Ad rfl (qf Cp rfl (ql A0 rfl (qm rfl ?_)))))
        obtain ⟨v20, a20, b20, h⟩ := An h
        refine qi AE CS a20 (Al b20) rfl (qk B1 rfl (qf Bu rfl (ql A0 rfl (qm rfl ?_))))
        obtain ⟨v21, a21, b21, h⟩ := An h
        refine qi AE CS a21 (Al b21) rfl (qk B1 rfl (BO rfl (AX (by kernel_rfl) ?_)))
        refine Au rfl (fun c22 => ?_) (fun c22 => ?_)
        ·have h := Ap c22 h
         refine Ab (Aa Ad rfl (qa rfl (Ac ?_)))
         obtain rfl := sj h
         refine Am (sm [] [(4, .e (.one (.pure (.val (.int .i64 1)))))] [] rfl rfl) (AB ?_)
         exact ⟨⟨[_], ⟨.tmp _ _ rfl, trivial⟩, rfl⟩, trivial⟩
        ·have h := Aq c22 h
         refine Av (Aa Ad rfl (Bm rfl (qm rfl (Ac ?_))))
         exact Ax _ h (sm [] _ _ rfl rfl)
     ·have h := Aq c9 h
      refine A1 ?_
      exact Ax _ h (sm [] _ _ rfl rfl)
    ·refine Am hs (Ab (Ab (Aa Ad rfl (qf Cl rfl (ql Gr rfl (AQ Dz rfl (qm rfl (Ac ?_))))))))
     refine AP (L := C0 N p0 p1) h (fun v23 => mk [(2, .e (.one (.ptr 2 0))), (3, .e (.one (.ptr 3 0))), (95, .e (.one (.pure (.sl (p0.fTables.map Ak))))), (96, .e (.one (.pure (.val (.int .i64 ((p0.fTables.length : Int))))))), (97, .e (.one (.pure (.val (.int .i64 v23)))))] [(2, .box [.pure (.sl (p0.fVersions.map Af)), .pure (.sl (p0.fNow.map Af)), .pure (.sl (p0.fTarget.map Af)), .pure (.sl (p0.fTables.map Ak))]), (3, .box [.pure (.sl (p1.fBase.map Af)), .pure (.sl (p1.fNext.map Af)), .pure (.sl (p1.fHeld.map A3))])]) (fun v24 => mk [] []) (fun _ _ => rfl) (sm [] _ _ rfl rfl) (fun j23 n23 v23 h => ?_) (fun v24 s h hs => ?_)
     ·unfold C0 at h
      refine Ab (Aa Ad rfl (Bc rfl (Ac (Ab ?_))))
      refine Au rfl (fun c25 => ?_) (fun c25 => ?_)
      ·have h := Ap c25 h
       refine Av (Ab (AW (Ab (Aa Ad rfl (qm rfl ?_)))))
       obtain ⟨v26, a26, b26, h⟩ := An h
       refine qi Dz Dt a26 (Al b26) rfl (qK Gm Dt rfl (qz Jx rfl (qa rfl (qs Dt rfl (Ac (Ab (Aa Ad rfl (qa rfl (qa rfl (Ac ?_))))))))))
       refine AR h (fun v27 => mk [(2, .e (.one (.ptr 2 0))), (3, .e (.one (.ptr 3 0))), (8, .e (.one (.pure (.val (.int .i64 v23))))), (10, .e (.one (.pure (.val (.int .u8 v27.1))))), (11, .e (.one (.pure (.val (.int .u8 v27.2))))), (95, .e (.one (.pure (.sl (p0.fTables.map Ak))))), (96, .e (.one (.pure (.val (.int .i64 ((p0.fTables.length : Int))))))), (97, .e (.one (.pure (.val (.int .i64 v23)))))] [(2, .box [.pure (.sl (p0.fVersions.map Af)), .pure (.sl (p0.fNow.map Af)), .pure (.sl (p0.fTarget.map Af)), .pure (.sl (p0.fTables.map Ak))]), (3, .box [.pure (.sl (p1.fBase.map Af)), .pure (.sl (p1.fNext.map Af)), .pure (.sl (p1.fHeld.map A3))])]) (fun j27 h => ?_) (fun v27 h => ?_)
       ·refine Ab (Aa Ad rfl (qL Gm Dt rfl ?_))
        obtain ⟨v28, a28, h⟩ := bind_some h
        refine AI [] (Iw N v26 v28 a28) Ui rfl (Ac ?_)
        refine Au rfl (fun c29 => ?_) (fun c29 => ?_)
        ·have h := Ap c29 h
         refine Aa Ad rfl (qL Bl AO rfl (qf CF rfl (ql B1 rfl ?_)))
         obtain ⟨v30, a30, h⟩ := bind_some h
         refine AI [] (HQ N p1 v26.fFrom v30 a30) TP rfl (qf Bk rfl (ql A0 rfl (qf CF rfl (ql B1 rfl ?_))))
         obtain ⟨v31, a31, b31, h⟩ := An h
         refine qi AE CS a31 (Al b31) rfl (qk B1 rfl ?_)
         obtain ⟨c32, h⟩ := AG h
         refine HD rfl c32 (KA rfl (qa rfl (qa rfl (AX (by kernel_rfl) ?_))))
         exact Ax _ h (sm [] _ _ rfl rfl)
        ·have h := Aq c29 h
         refine Av ?_
         exact Ax _ h (sm [] _ _ rfl rfl)
       ·refine AR h (fun v33 => mk [(2, .e (.one (.ptr 2 0))), (3, .e (.one (.ptr 3 0))), (95, .e (.one (.pure (.sl (p0.fTables.map Ak))))), (96, .e (.one (.pure (.val (.int .i64 ((p0.fTables.length : Int))))))), (97, .e (.one (.pure (.val (.int .i64 v23))))), (133, .e (.one (.pure (.val (.bool v33)))))] [(2, .box [.pure (.sl (p0.fVersions.map Af)), .pure (.sl (p0.fNow.map Af)), .pure (.sl (p0.fTarget.map Af)), .pure (.sl (p0.fTables.map Ak))]), (3, .box [.pure (.sl (p1.fBase.map Af)), .pure (.sl (p1.fNext.map Af)), .pure (.sl (p1.fHeld.map A3))])]) (fun j33 h => ?_) (fun v33 h => ?_)
        ·refine Aa Ad rfl (qm rfl (qf Cn rfl (ql Gq rfl (qm rfl ?_))))
         obtain ⟨v34, a34, b34, h⟩ := An h
         refine qi C8 E5 a34 (Al b34) rfl (qk Jv rfl (Hg rfl (B0 rfl (qm rfl ?_))))
         refine AF (t := 124) rfl (fun c35 => ?_) (fun c35 => ?_)
         ·have h := Ap c35 h
          refine qn rfl (qn rfl (qn rfl (qn rfl (qn rfl (qn rfl (qn rfl (qn rfl (qp rfl (Ac ?_)))))))))
          exact Ax _ h (sm [] _ _ rfl rfl)
         ·have h := Aq c35 h
          refine qf Cn rfl (ql Gq rfl (qm rfl ?_))
          obtain ⟨v36, a36, b36, h⟩ := An h
          refine qi C8 E5 a36 (Al b36) rfl (qk Jv rfl (qm rfl (Hg rfl (B0 rfl (qp rfl (Ac ?_))))))
          exact Ax _ h (sm [] _ _ rfl rfl)
        ·refine Au rfl (fun c37 => ?_) (fun c37 => ?_)
         ·have h := Ap c37 h
          refine Ab (Aa Ad rfl (qa rfl (Ac ?_)))
          obtain rfl := sj h
          refine Am (sm [] [(4, .e (.one (.pure (.val (.int .i64 1)))))] [] rfl rfl) (AB ?_)
          exact ⟨⟨[_], ⟨.tmp _ _ rfl, trivial⟩, rfl⟩, trivial⟩
         ·have h := Aq c37 h
          refine Av (Aa Ad rfl (Bm rfl (qm rfl (Ac ?_))))
          exact Ax _ h (sm [] _ _ rfl rfl)
      ·have h := Aq c25 h
       refine A1 ?_
       exact Ax _ h (sm [] _ _ rfl rfl)
     ·refine Am hs (Ab (Aa Ad rfl (qa rfl (Ac ?_))))
      obtain rfl := sj h
      refine Am (sm [] [(4, .e (.one (.pure (.val (.int .i64 0)))))] [] rfl rfl) (AB ?_)
      exact ⟨⟨[_], ⟨.tmp _ _ rfl, trivial⟩, rfl⟩, trivial⟩
set_option maxRecDepth 10000 in
theorem Es (N : Nat) (p0 : List Int) (r : (List Int)) (h : By N p0 = some r) : AD Try.prog 98 [.e (.one (.pure (.sl (p0.map A3))))] [(1, r.map A3)] (.e (.one (.own 0))) := by
 unfold By at h
 refine As (n := 8) (rs := [.tmp 2]) Try.func98 rfl rfl rfl (Bz rfl) (Bz rfl) rfl fun w0 S0 => ?_
 refine Ab (Aa Ad rfl (qa rfl (Ac (Ab (Ab (Aa Ad rfl (qm rfl ?_)))))))
 refine N6 (.p rfl) rfl C8 ?_
 refine Ac ?_
 refine N8 rfl (fun c2 => ?_) ?_
 ·have c2 := List.map_eq_nil_iff.1 c2
  rw [c2] at h
  have h : (some (([] : List Int))) = some r := h
  refine Ab (Aa Ad rfl (qa rfl (Ac ?_)))
  obtain rfl := sj h
  refine Am ((BR 2 2001 1 rfl rfl rfl).trans (sm [(1000, 2001)] [(2, .e (.one (.own 1000)))] [(1000, .vec 1 ((([] : List Int)).map A3))] rfl rfl)) (AB ?_)
  exact ⟨⟨[_], ⟨.tmp _ _ rfl, trivial⟩, rfl⟩, ⟨rfl, trivial⟩⟩
 ·refine Av (Ab (Aa Ad rfl (D2 C8 E5 NF rfl (qm rfl ?_))))
  obtain ⟨c1, h⟩ := AG h
  refine F0 (f := A3) C8 C8 E5 Po NF (fun _ => rfl) c1 rfl (qa rfl (Ac ?_))
  obtain rfl := sj h
  refine Am (sm [(1000, 7)] [(2, .e (.one (.own 1000)))] [(1000, .vec 1 (((([] : List Int)) ++ p0).map A3))] rfl rfl) (AB ?_)
  exact ⟨⟨[_], ⟨.tmp _ _ rfl, trivial⟩, rfl⟩, ⟨rfl, trivial⟩⟩
set_option maxRecDepth 10000 in
theorem NH (N : Nat) (p0 : Ae) (p1 : Ah) (r : (List Ah) × Int) (h : FB N p0 p1 = some r) : AD Try.prog 75 [.e (.agg [.pure (.sl (p0.fVersions.map Af)), .pure (.sl (p0.fNow.map Af)), .pure (.sl (p0.fTarget.map Af)), .pure (.sl (p0.fTables.map Ak))]), .e (.agg [.pure (.sl (p1.fBase.map Af)), .pure (.sl (p1.fNext.map Af)), .pure (.sl (p1.fHeld.map A3))])] [(3, r.1.map Db)] (.tup [.one (.own 0), .one (.pure (.val (.int .i64 r.2)))]) := by
 unfold FB at h
 refine As (n := 75) (rs := [.tmp 4, .tmp 5]) Try.func75 rfl rfl rfl (Bz rfl) (Bz rfl) rfl fun w0 S0 => ?_
 refine Ab (Aa Ad rfl (qb rfl (qb rfl (qa rfl (qa rfl (Ac (Ab (Ab (Aa Ad rfl (qL C5 CR rfl (qL Bl AO rfl ?_)))))))))))
 obtain ⟨v1, a1, h⟩ := bind_some h
 refine AI [] (HJ N p0 p1 v1 a1) Sa rfl (qa rfl (Ac (Ab (Aa Ad rfl (qm rfl (B0 rfl (Ac ?_)))))))
 refine Au rfl (fun c2 => ?_) (fun c2 => ?_)
 ·have h := Ap c2 h
  refine Ab (Aa Ad rfl (qm rfl (qa rfl (qa rfl (Ac ?_)))))
  obtain rfl := sj h
  refine Am ((BR 4 2001 3 rfl rfl rfl).trans (sm [(1000, 2001)] [(4, .e (.one (.own 1000))), (5, .e (.one (.pure (.val (.int .i64 v1)))))] [(1000, .vec 3 ((([] : List Ah)).map Db))] rfl rfl)) (AB ?_)
  exact ⟨⟨[_, _], ⟨.tmp _ _ rfl, ⟨.tmp _ _ rfl, trivial⟩⟩, rfl⟩, ⟨rfl, trivial⟩⟩
 ·have h := Aq c2 h
  refine Av (Ab (Aa Ad rfl (qa rfl (Ac (Ab (Ab (Aa Ad rfl (qf Bu rfl (ql A0 rfl (AQ AE rfl (qm rfl (Ac ?_))))))))))))
  refine AP (L := CZ N p1) h (fun v3 => mk [(3, .e (.one (.ptr 3 0))), (7, .e (.one (.own 2002))), (22, .e (.one (.pure (.sl (p1.fNext.map Af))))), (23, .e (.one (.pure (.val (.int .i64 ((p1.fNext.length : Int))))))), (24, .e (.one (.pure (.val (.int .i64 v3.2)))))] [(3, .box [.pure (.sl (p1.fBase.map Af)), .pure (.sl (p1.fNext.map Af)), .pure (.sl (p1.fHeld.map A3))]), (2002, .vec 1 (v3.1.map Af))]) (fun v4 => mk [(3, .e (.one (.ptr 3 0))), (7, .e (.one (.own 2003)))] [(3, .box [.pure (.sl (p1.fBase.map Af)), .pure (.sl (p1.fNext.map Af)), .pure (.sl (p1.fHeld.map A3))]), (2003, .vec 1 (v4.map Af))]) (fun _ _ => rfl) ((BR 7 2005 1 rfl rfl rfl).trans (sm [(2002, 2005)] _ _ rfl rfl)) (fun j3 n3 v3 h => ?_) (fun v4 s h hs => ?_)
  ·unfold CZ at h
   refine Ab (Aa Ad rfl (Bc rfl (Ac (Ab ?_))))
   refine Au rfl (fun c5 => ?_) (fun c5 => ?_)
   ·have h := Ap c5 h
    refine Av ?_
    refine AR h (fun v6 => mk [(3, .e (.one (.ptr 3 0))), (7, .e (.one (.own 2004))), (22, .e (.one (.pure (.sl (p1.fNext.map Af))))), (23, .e (.one (.pure (.val (.int .i64 ((p1.fNext.length : Int))))))), (24, .e (.one (.pure (.val (.int .i64 v3.2)))))] [(3, .box [.pure (.sl (p1.fBase.map Af)), .pure (.sl (p1.fNext.map Af)), .pure (.sl (p1.fHeld.map A3))]), (2004, .vec 1 (v6.map Af))]) (fun j6 h => ?_) (fun v6 h => ?_)
    ·refine AW (Ab (Aa Ad rfl (qm rfl ?_)))
     obtain ⟨v7, a7, b7, h⟩ := An h
     refine qi AE CS a7 (Al b7) rfl (qk B1 rfl (qa rfl (qa rfl (Ac (Ab (Aa Ad rfl (qm rfl (DX rfl (Ac ?_)))))))))
     refine Au rfl (fun c8 => ?_) (fun c8 => ?_)
     ·have h := Ap c8 h
      refine Aa Ad rfl (qm rfl (qm rfl (D2 AE CS J4 rfl ?_)))
      obtain ⟨c9, h⟩ := AG h
      refine DM (f := Af) AE AE CS K2 J4 c9 rfl (qa rfl (Ac ?_))
      exact Ax _ h (sm [(2004, 34)] _ _ rfl rfl)
     ·have h := Aq c8 h
      refine Av ?_
      exact Ax _ h (sm [(2004, 2002)] _ _ rfl rfl)
    ·refine Aa Ad rfl (Bm rfl (qm rfl (Ac ?_)))
     exact Ax _ h (sm [(2002, 2004)] _ _ rfl rfl)
   ·have h := Aq c5 h
    refine A1 ?_
    exact Ax _ h (sm [(2003, 2002)] _ _ rfl rfl)
  ·refine Am hs (Ab (Aa Ad rfl (qa rfl (Ac (Ab (Ab (Aa Ad rfl (qm rfl (EZ AE rfl ?_)))))))))
   obtain ⟨c10, h⟩ := AG h
   refine HD rfl c10 (qm rfl (Ac ?_))
   refine AP (L := Cq N p1 v4) h (fun v11 => mk [(3, .e (.one (.ptr 3 0))), (7, .e (.one (.own 2006))), (10, .e (.one (.own 2007))), (38, .e (.one (.pure (.val (.int .i64 ((C3 .i64 1 ((v4.length : Int))))))))), (39, .e (.one (.pure (.val (.int .i64 v11.2)))))] [(3, .box [.pure (.sl (p1.fBase.map Af)), .pure (.sl (p1.fNext.map Af)), .pure (.sl (p1.fHeld.map A3))]), (2006, .vec 1 (v4.map Af)), (2007, .vec 3 (v11.1.map Db))]) (fun v12 => mk [(10, .e (.one (.own 2008)))] [(2008, .vec 3 (v12.map Db))]) (fun _ _ => rfl) ((BR 10 2027 3 rfl rfl rfl).trans (sm [(2006, 2003), (2007, 2027)] _ _ rfl rfl)) (fun j11 n11 v11 h => ?_) (fun v12 s h hs => ?_)
   ·unfold Cq at h
    refine Ab (Aa Ad rfl (Bc rfl (Ac (Ab ?_))))
    refine Au rfl (fun c13 => ?_) (fun c13 => ?_)
    ·have h := Ap c13 h
     refine Av (Ab (AW (Ab (Aa Ad rfl (qm rfl (qa rfl (Ac (Ab (Aa Ad rfl (qf Cp rfl (ql A0 rfl ?_)))))))))))
     obtain ⟨v14, a14, h⟩ := bind_some h
     refine AI [2009] (Da N p1.fBase v14 a14) RW rfl (qf Bu rfl (ql A0 rfl ?_))
     obtain ⟨v15, a15, h⟩ := bind_some h
     refine AI [2010] (Da N p1.fNext v15 a15) RW rfl (qf Cn rfl (ql Gq rfl ?_))
     obtain ⟨v16, a16, h⟩ := bind_some h
     refine AI [2011] (Es N p1.fHeld v16 a16) UM rfl (AV Co Fa rfl (qz Co rfl (qs AO rfl (AX (by kernel_rfl) (Ab (Ab (Aa Ad rfl (qm rfl (EZ AE rfl (qm rfl (Ac ?_)))))))))))
     refine AP (L := Cr N v4 v11) h (fun v17 => mk [(3, .e (.one (.ptr 3 0))), (7, .e (.one (.own 2015))), (10, .e (.one (.own 2016))), (11, .e (.one (.pure (.val (.int .i64 v11.2))))), (12, .e (.one (.ptr 12 0))), (38, .e (.one (.pure (.val (.int .i64 ((C3 .i64 1 ((v4.length : Int))))))))), (39, .e (.one (.pure (.val (.int .i64 v11.2))))), (52, .e (.one (.own 2015))), (53, .e (.one (.pure (.val (.int .i64 ((v4.length : Int))))))), (54, .e (.one (.pure (.val (.int .i64 v17.2)))))] [(3, .box [.pure (.sl (p1.fBase.map Af)), .pure (.sl (p1.fNext.map Af)), .pure (.sl (p1.fHeld.map A3))]), (12, .box [.own 2012, .own 2013, .own 2014]), (2012, .vec 1 (v14.map Af)), (2013, .vec 1 (v17.1.map Af)), (2014, .vec 1 (v16.map A3)), (2015, .vec 1 (v4.map Af)), (2016, .vec 3 (v11.1.map Db))]) (fun v18 => mk [(3, .e (.one (.ptr 3 0))), (7, .e (.one (.own 2020))), (10, .e (.one (.own 2021))), (12, .e (.one (.ptr 12 0))), (38, .e (.one (.pure (.val (.int .i64 ((C3 .i64 1 ((v4.length : Int))))))))), (39, .e (.one (.pure (.val (.int .i64 v11.2)))))] [(3, .box [.pure (.sl (p1.fBase.map Af)), .pure (.sl (p1.fNext.map Af)), .pure (.sl (p1.fHeld.map A3))]), (12, .box [.own 2017, .own 2018, .own 2019]), (2017, .vec 1 (v14.map Af)), (2018, .vec 1 (v18.map Af)), (2019, .vec 1 (v16.map A3)), (2020, .vec 1 (v4.map Af)), (2021, .vec 3 (v11.1.map Db))]) (fun _ _ => rfl) (sm [(2012, 2009), (2013, 2010), (2014, 2011), (2015, 2006), (2016, 2007)] _ _ rfl rfl) (fun j17 n17 v17 h => ?_) (fun v18 s h hs => ?_)
     ·unfold Cr at h
      refine Ab (Aa Ad rfl (Bc rfl (Ac (Ab ?_))))
      refine Au rfl (fun c19 => ?_) (fun c19 => ?_)
      ·have h := Ap c19 h
       refine Av ?_
       refine AR h (fun v20 => mk [(3, .e (.one (.ptr 3 0))), (7, .e (.one (.own 2025))), (10, .e (.one (.own 2026))), (11, .e (.one (.pure (.val (.int .i64 v11.2))))), (12, .e (.one (.ptr 12 0))), (38, .e (.one (.pure (.val (.int .i64 ((C3 .i64 1 ((v4.length : Int))))))))), (39, .e (.one (.pure (.val (.int .i64 v11.2))))), (52, .e (.one (.own 2025))), (53, .e (.one (.pure (.val (.int .i64 ((v4.length : Int))))))), (54, .e (.one (.pure (.val (.int .i64 v17.2)))))] [(3, .box [.pure (.sl (p1.fBase.map Af)), .pure (.sl (p1.fNext.map Af)), .pure (.sl (p1.fHeld.map A3))]), (12, .box [.own 2022, .own 2023, .own 2024]), (2022, .vec 1 (v14.map Af)), (2023, .vec 1 (v20.map Af)), (2024, .vec 1 (v16.map A3)), (2025, .vec 1 (v4.map Af)), (2026, .vec 3 (v11.1.map Db))]) (fun j20 h => ?_) (fun v20 h => ?_)
       ·refine AW (Ab (Aa Ad rfl (qm rfl ?_)))
        obtain ⟨v21, a21, b21, h⟩ := An h
        refine qI AE CS a21 (Al b21) rfl (qj B1 (Al b21) rfl (qa rfl (qa rfl (Ac (Ab (Aa Ad rfl (qm rfl (qm rfl ?_))))))))
        obtain ⟨c22, h⟩ := AG h
        refine Ia rfl c22 (Lp rfl (BO rfl (Ac ?_)))
        refine Au rfl (fun c23 => ?_) (fun c23 => ?_)
        ·have h := Ap c23 h
         refine Aa Ad rfl (qf Bu rfl (ql A0 rfl (qm rfl ?_)))
         obtain ⟨v24, a24, b24, h⟩ := An h
         refine qI AE CS a24 (Al b24) rfl ?_
         refine DH rfl rfl rfl rfl (Al b24) rfl CS rfl (Bz rfl) (Dr Af v17.1 _ ((-1))) ?_
         refine Ac ?_
         exact Ax _ h (sm [(2022, 2012), (2023, 2013), (2024, 2014), (2025, 2015), (2026, 2016)] _ _ rfl rfl)
        ·have h := Aq c23 h
         refine Av ?_
         exact Ax _ h (sm [(2022, 2012), (2023, 2013), (2024, 2014), (2025, 2015), (2026, 2016)] _ _ rfl rfl)
       ·refine Aa Ad rfl (Bm rfl (qm rfl (Ac ?_)))
        exact Ax _ h (sm [(2012, 2022), (2013, 2023), (2014, 2024), (2015, 2025), (2016, 2026)] _ _ rfl rfl)
      ·have h := Aq c19 h
       refine A1 ?_
       exact Ax _ h (sm [(2017, 2012), (2018, 2013), (2019, 2014), (2020, 2015), (2021, 2016)] _ _ rfl rfl)
     ·refine Am hs (Aa Ad rfl (qm rfl (qL Bl AO rfl (Dg (Bf 2017 _ _ rfl rfl) (Dg (Bf 2018 _ _ rfl rfl) (Dg (Bf 2019 _ _ rfl rfl) (D2 I7 AO Co rfl ?_)))))))
      obtain ⟨c25, h⟩ := AG h
      refine DM (f := Db) I7 I7 AO To Co c25 rfl (qa rfl (Ac (Aa Ad rfl (Bm rfl (qm rfl (Ac ?_))))))
      exact Ax _ h (sm [(2006, 2020), (2007, 72)] _ _ rfl rfl)
    ·have h := Aq c13 h
     refine A1 ?_
     exact Ax _ h (sm [(2008, 2007)] _ _ rfl rfl)
   ·refine Am hs (Ab (Aa Ad rfl (qm rfl (qa rfl (qa rfl (Ac ?_))))))
    obtain rfl := sj h
    refine Am (sm [(1000, 2008)] [(4, .e (.one (.own 1000))), (5, .e (.one (.pure (.val (.int .i64 0)))))] [(1000, .vec 3 (v12.map Db))] rfl rfl) (AB ?_)
    exact ⟨⟨[_, _], ⟨.tmp _ _ rfl, ⟨.tmp _ _ rfl, trivial⟩⟩, rfl⟩, ⟨rfl, trivial⟩⟩
set_option maxRecDepth 10000 in
theorem LE (N : Nat) (p0 : Ae) (p1 : Ah) (r : (List Aj)) (h : Er N p0 p1 = some r) : AD Try.prog 76 [.e (.agg [.pure (.sl (p0.fVersions.map Af)), .pure (.sl (p0.fNow.map Af)), .pure (.sl (p0.fTarget.map Af)), .pure (.sl (p0.fTables.map Ak))]), .e (.agg [.pure (.sl (p1.fBase.map Af)), .pure (.sl (p1.fNext.map Af)), .pure (.sl (p1.fHeld.map A3))])] [(3, r.map AU)] (.e (.one (.own 0))) := by
 unfold Er at h
 refine As (n := 98) (rs := [.tmp 4]) Try.func76 rfl rfl rfl (Bz rfl) (Bz rfl) rfl fun w0 S0 => ?_
 refine Ab (Aa Ad rfl (qb rfl (qb rfl (qa rfl (Ac (Ab (Aa Ad rfl (qa rfl (Ac (Ab (Ab (Aa Ad rfl (qf Cl rfl (ql Gr rfl (AQ Dz rfl (qm rfl (Ac ?_)))))))))))))))))
 refine AP (L := CI N p0 p1) h (fun v1 => mk [(3, .e (.one (.ptr 3 0))), (5, .e (.one (.own 2001))), (15, .e (.one (.pure (.sl (p0.fTables.map Ak))))), (16, .e (.one (.pure (.val (.int .i64 ((p0.fTables.length : Int))))))), (17, .e (.one (.pure (.val (.int .i64 v1.2)))))] [(3, .box [.pure (.sl (p1.fBase.map Af)), .pure (.sl (p1.fNext.map Af)), .pure (.sl (p1.fHeld.map A3))]), (2001, .vec 3 (v1.1.map AU))]) (fun v2 => mk [(5, .e (.one (.own 2002)))] [(2002, .vec 3 (v2.map AU))]) (fun _ _ => rfl) ((BR 5 2013 3 rfl rfl rfl).trans (sm [(2001, 2013)] _ _ rfl rfl)) (fun j1 n1 v1 h => ?_) (fun v2 s h hs => ?_)
 ·unfold CI at h
  refine Ab (Aa Ad rfl (Bc rfl (Ac (Ab ?_))))
  refine Au rfl (fun c3 => ?_) (fun c3 => ?_)
  ·have h := Ap c3 h
   refine Av (Ab (AW (Ab (Aa Ad rfl (qm rfl ?_)))))
   obtain ⟨v4, a4, b4, h⟩ := An h
   refine qi Dz Dt a4 (Al b4) rfl (qK Gm Dt rfl (qz Jx rfl (qa rfl (qs Dt rfl (Ac (Ab (Aa Ad rfl (qL Bl AO rfl (qf CF rfl (ql B1 rfl ?_))))))))))
   obtain ⟨v5, a5, h⟩ := bind_some h
   refine AI [] (HQ N p1 v4.fFrom v5 a5) TP rfl (qL Bl AO rfl (qf GZ rfl (ql B1 rfl ?_)))
   obtain ⟨v6, a6, h⟩ := bind_some h
   refine AI [] (HQ N p1 v4.fTo v6 a6) TP rfl (qa rfl (qa rfl (AX (by kernel_rfl) ?_)))
   refine AR h (fun v7 => mk [(3, .e (.one (.ptr 3 0))), (5, .e (.one (.own 2003))), (6, .e (.one (.pure (.val (.int .i64 v1.2))))), (7, .e (.one (.ptr 7 0))), (8, .e (.one (.pure (.val (.int .u8 v7))))), (9, .e (.one (.pure (.val (.int .u8 v6))))), (15, .e (.one (.pure (.sl (p0.fTables.map Ak))))), (16, .e (.one (.pure (.val (.int .i64 ((p0.fTables.length : Int))))))), (17, .e (.one (.pure (.val (.int .i64 v1.2)))))] [(3, .box [.pure (.sl (p1.fBase.map Af)), .pure (.sl (p1.fNext.map Af)), .pure (.sl (p1.fHeld.map A3))]), (7, .box [.pure (.val (.int .i64 v4.fKind)), .pure (.val (.int .i64 v4.fFrom)), .pure (.val (.int .i64 v4.fTo)), .pure (.val (.bool v4.fAware)), .pure (.sl (v4.fOK.map (DY eB))), .pure (.sl (v4.fRewrite.map (DY eB)))]), (2003, .vec 3 (v1.1.map AU))]) (fun j7 h => ?_) (fun v7 h => ?_)
   ·refine Ab (Aa Ad rfl (qL Gm Dt rfl ?_))
    obtain ⟨v8, a8, h⟩ := bind_some h
    refine AI [] (Iw N v4 v8 a8) Ui rfl (Ac ?_)
    refine Au rfl (fun c9 => ?_) (fun c9 => ?_)
    ·have h := Ap c9 h
     refine Aa Ad rfl (qf Cn rfl (ql Gq rfl (qm rfl ?_)))
     obtain ⟨v10, a10, b10, h⟩ := An h
     refine qi C8 E5 a10 (Al b10) rfl (qk Jv rfl (qa rfl (Ac ?_)))
     exact Ax _ h (sm [(2003, 2001)] _ _ rfl rfl)
    ·have h := Aq c9 h
     refine Av ?_
     exact Ax _ h (sm [(2003, 2001)] _ _ rfl rfl)
   ·refine Ab (Aa Ad rfl (qf Il rfl (ql IL rfl (AQ Ff rfl (qm rfl (Ac ?_))))))
    refine AP (L := BY N v1 v4 v6 v7) h (fun v11 => mk [(3, .e (.one (.ptr 3 0))), (5, .e (.one (.own 2004))), (6, .e (.one (.pure (.val (.int .i64 v1.2))))), (7, .e (.one (.ptr 7 0))), (8, .e (.one (.pure (.val (.int .u8 v7))))), (9, .e (.one (.pure (.val (.int .u8 v6))))), (15, .e (.one (.pure (.sl (p0.fTables.map Ak))))), (16, .e (.one (.pure (.val (.int .i64 ((p0.fTables.length : Int))))))), (17, .e (.one (.pure (.val (.int .i64 v1.2))))), (39, .e (.one (.pure (.val (.int .i64 ((v4.fOK.length : Int))))))), (40, .e (.one (.pure (.val (.int .i64 v11.2)))))] [(3, .box [.pure (.sl (p1.fBase.map Af)), .pure (.sl (p1.fNext.map Af)), .pure (.sl (p1.fHeld.map A3))]), (7, .box [.pure (.val (.int .i64 v4.fKind)), .pure (.val (.int .i64 v4.fFrom)), .pure (.val (.int .i64 v4.fTo)), .pure (.val (.bool v4.fAware)), .pure (.sl (v4.fOK.map (DY eB))), .pure (.sl (v4.fRewrite.map (DY eB)))]), (2004, .vec 3 (v11.1.map AU))]) (fun v12 => mk [(3, .e (.one (.ptr 3 0))), (5, .e (.one (.own 2005))), (15, .e (.one (.pure (.sl (p0.fTables.map Ak))))), (16, .e (.one (.pure (.val (.int .i64 ((p0.fTables.length : Int))))))), (17, .e (.one (.pure (.val (.int .i64 v1.2)))))] [(3, .box [.pure (.sl (p1.fBase.map Af)), .pure (.sl (p1.fNext.map Af)), .pure (.sl (p1.fHeld.map A3))]), (2005, .vec 3 (v12.map AU))]) (fun _ _ => rfl) (sm [(2004, 2003)] _ _ rfl rfl) (fun j11 n11 v11 h => ?_) (fun v12 s h hs => ?_)
    ·unfold BY at h
     refine Ab (Aa Ad rfl (Bc rfl (Ac (Ab ?_))))
     refine Au rfl (fun c13 => ?_) (fun c13 => ?_)
     ·have h := Ap c13 h
      refine Av ?_
      refine AR h (fun v14 => mk [(3, .e (.one (.ptr 3 0))), (5, .e (.one (.own 2006))), (6, .e (.one (.pure (.val (.int .i64 v1.2))))), (7, .e (.one (.ptr 7 0))), (8, .e (.one (.pure (.val (.int .u8 v7))))), (9, .e (.one (.pure (.val (.int .u8 v6))))), (15, .e (.one (.pure (.sl (p0.fTables.map Ak))))), (16, .e (.one (.pure (.val (.int .i64 ((p0.fTables.length : Int))))))), (17, .e (.one (.pure (.val (.int .i64 v1.2))))), (39, .e (.one (.pure (.val (.int .i64 ((v4.fOK.length : Int))))))), (40, .e (.one (.pure (.val (.int .i64 v11.2)))))] [(3, .box [.pure (.sl (p1.fBase.map Af)), .pure (.sl (p1.fNext.map Af)), .pure (.sl (p1.fHeld.map A3))]), (7, .box [.pure (.val (.int .i64 v4.fKind)), .pure (.val (.int .i64 v4.fFrom)), .pure (.val (.int .i64 v4.fTo)), .pure (.val (.bool v4.fAware)), .pure (.sl (v4.fOK.map (DY eB))), .pure (.sl (v4.fRewrite.map (DY eB)))]), (2006, .vec 3 (v14.map AU))]) (fun j14 h => ?_) (fun v14 h => ?_)
      ·refine AW (Ab (Aa Ad rfl (qm rfl (qa rfl (Ac (Ab (Ab (Aa Ad rfl (qm rfl (qm rfl ?_))))))))))
       obtain ⟨c15, h⟩ := AG h
       refine Ia rfl c15 (Lp rfl (BO rfl (Ac ?_)))
       refine Au rfl (fun c16 => ?_) (fun c16 => ?_)
       ·have h := Ap c16 h
        refine A1 ?_
        exact Ax _ h (sm [(2006, 2004)] _ _ rfl rfl)
       ·have h := Aq c16 h
        refine Av (Ab (Aa Ad rfl (qa rfl (Ac (Ab (Ab (Aa Ad rfl (qf Il rfl (ql IL rfl (qm rfl ?_))))))))))
        obtain ⟨v17, a17, b17, h⟩ := An h
        refine qi Ff Lz a17 (Al b17) rfl (qk Nz rfl (AQ Fx rfl (qm rfl (Ac ?_))))
        refine AP (L := BI N v1 v4 v6 v11 v17) h (fun v18 => mk [(3, .e (.one (.ptr 3 0))), (5, .e (.one (.own 2007))), (6, .e (.one (.pure (.val (.int .i64 v1.2))))), (7, .e (.one (.ptr 7 0))), (8, .e (.one (.pure (.val (.int .u8 v7))))), (9, .e (.one (.pure (.val (.int .u8 v6))))), (10, .e (.one (.pure (.val (.int .i64 v11.2))))), (11, .e (.one (.pure (.val (.bool v18.2.1))))), (15, .e (.one (.pure (.sl (p0.fTables.map Ak))))), (16, .e (.one (.pure (.val (.int .i64 ((p0.fTables.length : Int))))))), (17, .e (.one (.pure (.val (.int .i64 v1.2))))), (39, .e (.one (.pure (.val (.int .i64 ((v4.fOK.length : Int))))))), (40, .e (.one (.pure (.val (.int .i64 v11.2))))), (52, .e (.one (.pure (.sl (v17.map eB))))), (53, .e (.one (.pure (.val (.int .i64 ((v17.length : Int))))))), (54, .e (.one (.pure (.val (.int .i64 v18.2.2)))))] [(3, .box [.pure (.sl (p1.fBase.map Af)), .pure (.sl (p1.fNext.map Af)), .pure (.sl (p1.fHeld.map A3))]), (7, .box [.pure (.val (.int .i64 v4.fKind)), .pure (.val (.int .i64 v4.fFrom)), .pure (.val (.int .i64 v4.fTo)), .pure (.val (.bool v4.fAware)), .pure (.sl (v4.fOK.map (DY eB))), .pure (.sl (v4.fRewrite.map (DY eB)))]), (2007, .vec 3 (v18.1.map AU))]) (fun v19 => mk [(3, .e (.one (.ptr 3 0))), (5, .e (.one (.own 2008))), (6, .e (.one (.pure (.val (.int .i64 v1.2))))), (7, .e (.one (.ptr 7 0))), (8, .e (.one (.pure (.val (.int .u8 v7))))), (9, .e (.one (.pure (.val (.int .u8 v6))))), (10, .e (.one (.pure (.val (.int .i64 v11.2))))), (11, .e (.one (.pure (.val (.bool v19.2))))), (15, .e (.one (.pure (.sl (p0.fTables.map Ak))))), (16, .e (.one (.pure (.val (.int .i64 ((p0.fTables.length : Int))))))), (17, .e (.one (.pure (.val (.int .i64 v1.2))))), (39, .e (.one (.pure (.val (.int .i64 ((v4.fOK.length : Int))))))), (40, .e (.one (.pure (.val (.int .i64 v11.2)))))] [(3, .box [.pure (.sl (p1.fBase.map Af)), .pure (.sl (p1.fNext.map Af)), .pure (.sl (p1.fHeld.map A3))]), (7, .box [.pure (.val (.int .i64 v4.fKind)), .pure (.val (.int .i64 v4.fFrom)), .pure (.val (.int .i64 v4.fTo)), .pure (.val (.bool v4.fAware)), .pure (.sl (v4.fOK.map (DY eB))), .pure (.sl (v4.fRewrite.map (DY eB)))]), (2008, .vec 3 (v19.1.map AU))]) (fun _ _ => rfl) (sm [(2007, 2004)] _ _ rfl rfl) (fun j18 n18 v18 h => ?_) (fun v19 s h hs => ?_)
        ·unfold BI at h
         refine Ab (Aa Ad rfl (Bc rfl (Ac (Ab ?_))))
         refine Au rfl (fun c20 => ?_) (fun c20 => ?_)
         ·have h := Ap c20 h
          refine Av ?_
          refine AR h (fun v21 => mk [(3, .e (.one (.ptr 3 0))), (5, .e (.one (.own 2009))), (6, .e (.one (.pure (.val (.int .i64 v1.2))))), (7, .e (.one (.ptr 7 0))), (8, .e (.one (.pure (.val (.int .u8 v7))))), (9, .e (.one (.pure (.val (.int .u8 v6))))), (10, .e (.one (.pure (.val (.int .i64 v11.2))))), (11, .e (.one (.pure (.val (.bool v21.2))))), (15, .e (.one (.pure (.sl (p0.fTables.map Ak))))), (16, .e (.one (.pure (.val (.int .i64 ((p0.fTables.length : Int))))))), (17, .e (.one (.pure (.val (.int .i64 v1.2))))), (39, .e (.one (.pure (.val (.int .i64 ((v4.fOK.length : Int))))))), (40, .e (.one (.pure (.val (.int .i64 v11.2))))), (52, .e (.one (.pure (.sl (v17.map eB))))), (53, .e (.one (.pure (.val (.int .i64 ((v17.length : Int))))))), (54, .e (.one (.pure (.val (.int .i64 v18.2.2)))))] [(3, .box [.pure (.sl (p1.fBase.map Af)), .pure (.sl (p1.fNext.map Af)), .pure (.sl (p1.fHeld.map A3))]), (7, .box [.pure (.val (.int .i64 v4.fKind)), .pure (.val (.int .i64 v4.fFrom)), .pure (.val (.int .i64 v4.fTo)), .pure (.val (.bool v4.fAware)), .pure (.sl (v4.fOK.map (DY eB))), .pure (.sl (v4.fRewrite.map (DY eB)))]), (2009, .vec 3 (v21.1.map AU))]) (fun j21 h => ?_) (fun v21 h => ?_)
          ·refine AW (Ab (Aa Ad rfl (qm rfl ?_)))
           obtain ⟨v22, a22, b22, h⟩ := An h
           refine qi Fx OS a22 (Al b22) rfl (qk P1 rfl (qa rfl (qa rfl (Ac (Ab (Ab (Aa Ad rfl (qm rfl (qm rfl ?_)))))))))
           obtain ⟨c23, h⟩ := AG h
           refine Ia rfl c23 (Lp rfl (BO rfl (Ac ?_)))
           refine Au rfl (fun c24 => ?_) (fun c24 => ?_)
           ·have h := Ap c24 h
            refine A1 ?_
            exact Ax _ h (sm [(2009, 2007)] _ _ rfl rfl)
           ·have h := Aq c24 h
            refine Av ?_
            refine AR h (fun v25 => mk [(3, .e (.one (.ptr 3 0))), (5, .e (.one (.own 2010))), (6, .e (.one (.pure (.val (.int .i64 v1.2))))), (7, .e (.one (.ptr 7 0))), (8, .e (.one (.pure (.val (.int .u8 v7))))), (9, .e (.one (.pure (.val (.int .u8 v6))))), (10, .e (.one (.pure (.val (.int .i64 v11.2))))), (11, .e (.one (.pure (.val (.bool v25))))), (12, .e (.one (.pure (.val (.int .i64 v18.2.2))))), (13, .e (.one (.pure (.val (.bool v22))))), (15, .e (.one (.pure (.sl (p0.fTables.map Ak))))), (16, .e (.one (.pure (.val (.int .i64 ((p0.fTables.length : Int))))))), (17, .e (.one (.pure (.val (.int .i64 v1.2))))), (39, .e (.one (.pure (.val (.int .i64 ((v4.fOK.length : Int))))))), (40, .e (.one (.pure (.val (.int .i64 v11.2))))), (52, .e (.one (.pure (.sl (v17.map eB))))), (53, .e (.one (.pure (.val (.int .i64 ((v17.length : Int))))))), (54, .e (.one (.pure (.val (.int .i64 v18.2.2)))))] [(3, .box [.pure (.sl (p1.fBase.map Af)), .pure (.sl (p1.fNext.map Af)), .pure (.sl (p1.fHeld.map A3))]), (7, .box [.pure (.val (.int .i64 v4.fKind)), .pure (.val (.int .i64 v4.fFrom)), .pure (.val (.int .i64 v4.fTo)), .pure (.val (.bool v4.fAware)), .pure (.sl (v4.fOK.map (DY eB))), .pure (.sl (v4.fRewrite.map (DY eB)))]), (2010, .vec 3 (v18.1.map AU))]) (fun j25 h => ?_) (fun v25 h => ?_)
            ·refine Aa Ad rfl (qm rfl (qm rfl ?_))
             refine AF (t := 65) rfl (fun c26 => ?_) (fun c26 => ?_)
             ·have h := Ap c26 h
              refine qn rfl (qp rfl (qa rfl (Ac ?_)))
              exact Ax _ h (sm [(2010, 2007)] _ _ rfl rfl)
             ·have h := Aq c26 h
              refine qm rfl (qp rfl (qa rfl (Ac ?_)))
              exact Ax _ h (sm [(2010, 2007)] _ _ rfl rfl)
            ·refine AR h (fun v27 => mk [(3, .e (.one (.ptr 3 0))), (5, .e (.one (.own 2011))), (6, .e (.one (.pure (.val (.int .i64 v1.2))))), (7, .e (.one (.ptr 7 0))), (8, .e (.one (.pure (.val (.int .u8 v7))))), (9, .e (.one (.pure (.val (.int .u8 v6))))), (10, .e (.one (.pure (.val (.int .i64 v11.2))))), (11, .e (.one (.pure (.val (.bool v25))))), (12, .e (.one (.pure (.val (.int .i64 v18.2.2))))), (15, .e (.one (.pure (.sl (p0.fTables.map Ak))))), (16, .e (.one (.pure (.val (.int .i64 ((p0.fTables.length : Int))))))), (17, .e (.one (.pure (.val (.int .i64 v1.2))))), (39, .e (.one (.pure (.val (.int .i64 ((v4.fOK.length : Int))))))), (40, .e (.one (.pure (.val (.int .i64 v11.2))))), (52, .e (.one (.pure (.sl (v17.map eB))))), (53, .e (.one (.pure (.val (.int .i64 ((v17.length : Int))))))), (54, .e (.one (.pure (.val (.int .i64 v18.2.2))))), (74, .e (.one (.pure (.val (.bool v27)))))] [(3, .box [.pure (.sl (p1.fBase.map Af)), .pure (.sl (p1.fNext.map Af)), .pure (.sl (p1.fHeld.map A3))]), (7, .box [.pure (.val (.int .i64 v4.fKind)), .pure (.val (.int .i64 v4.fFrom)), .pure (.val (.int .i64 v4.fTo)), .pure (.val (.bool v4.fAware)), .pure (.sl (v4.fOK.map (DY eB))), .pure (.sl (v4.fRewrite.map (DY eB)))]), (2011, .vec 3 (v18.1.map AU))]) (fun j27 h => ?_) (fun v27 h => ?_)
             ·refine Aa Ad rfl (qm rfl (Ch rfl (qm rfl ?_)))
              refine AF (t := 70) rfl (fun c28 => ?_) (fun c28 => ?_)
              ·have h := Ap c28 h
               refine qf HN rfl (ql P1 rfl (Ch rfl (qp rfl (Ac ?_))))
               exact Ax _ h (sm [(2011, 2010)] _ _ rfl rfl)
              ·have h := Aq c28 h
               refine qn rfl (qn rfl (qn rfl (qp rfl (Ac ?_))))
               exact Ax _ h (sm [(2011, 2010)] _ _ rfl rfl)
             ·refine Au rfl (fun c29 => ?_) (fun c29 => ?_)
              ·have h := Ap c29 h
               refine Aa Ad rfl (qm rfl (qm rfl (qm rfl (qm rfl (AV EU Jg rfl (D2 Fm Dm EU rfl ?_))))))
               obtain ⟨c30, h⟩ := AG h
               refine DM (f := AU) Fm Fm Dm P6 EU c30 rfl (qa rfl (Ac ?_))
               exact Ax _ h (sm [(2009, 81)] _ _ rfl rfl)
              ·have h := Aq c29 h
               refine Av ?_
               exact Ax _ h (sm [(2009, 2011)] _ _ rfl rfl)
          ·refine Aa Ad rfl (Bm rfl (qm rfl (Ac ?_)))
           exact Ax _ h (sm [(2007, 2009)] _ _ rfl rfl)
         ·have h := Aq c20 h
          refine A1 ?_
          exact Ax _ h (sm [(2008, 2007)] _ _ rfl rfl)
        ·refine Am hs ?_
         refine AR h (fun v31 => mk [(3, .e (.one (.ptr 3 0))), (5, .e (.one (.own 2012))), (6, .e (.one (.pure (.val (.int .i64 v1.2))))), (7, .e (.one (.ptr 7 0))), (8, .e (.one (.pure (.val (.int .u8 v7))))), (9, .e (.one (.pure (.val (.int .u8 v6))))), (10, .e (.one (.pure (.val (.int .i64 v11.2))))), (15, .e (.one (.pure (.sl (p0.fTables.map Ak))))), (16, .e (.one (.pure (.val (.int .i64 ((p0.fTables.length : Int))))))), (17, .e (.one (.pure (.val (.int .i64 v1.2))))), (39, .e (.one (.pure (.val (.int .i64 ((v4.fOK.length : Int))))))), (40, .e (.one (.pure (.val (.int .i64 v11.2))))), (88, .e (.one (.pure (.val (.bool v31)))))] [(3, .box [.pure (.sl (p1.fBase.map Af)), .pure (.sl (p1.fNext.map Af)), .pure (.sl (p1.fHeld.map A3))]), (7, .box [.pure (.val (.int .i64 v4.fKind)), .pure (.val (.int .i64 v4.fFrom)), .pure (.val (.int .i64 v4.fTo)), .pure (.val (.bool v4.fAware)), .pure (.sl (v4.fOK.map (DY eB))), .pure (.sl (v4.fRewrite.map (DY eB)))]), (2012, .vec 3 (v19.1.map AU))]) (fun j31 h => ?_) (fun v31 h => ?_)
         ·refine Aa Ad rfl (qf HN rfl (ql P1 rfl (qm rfl ?_)))
          refine AF (t := 85) rfl (fun c32 => ?_) (fun c32 => ?_)
          ·have h := Ap c32 h
           refine qm rfl (Ch rfl (qp rfl (Ac ?_)))
           exact Ax _ h (sm [(2012, 2008)] _ _ rfl rfl)
          ·have h := Aq c32 h
           refine qn rfl (qn rfl (qp rfl (Ac ?_)))
           exact Ax _ h (sm [(2012, 2008)] _ _ rfl rfl)
         ·refine Au rfl (fun c33 => ?_) (fun c33 => ?_)
          ·have h := Ap c33 h
           refine Aa Ad rfl (qm rfl (qm rfl (qm rfl (AV EU Jg rfl (D2 Fm Dm EU rfl ?_)))))
           obtain ⟨c34, h⟩ := AG h
           refine DM (f := AU) Fm Fm Dm P6 EU c34 rfl (qa rfl (Ac ?_))
           exact Ax _ h (sm [(2006, 94)] _ _ rfl rfl)
          ·have h := Aq c33 h
           refine Av ?_
           exact Ax _ h (sm [(2006, 2012)] _ _ rfl rfl)
      ·refine Aa Ad rfl (Bm rfl (qm rfl (Ac ?_)))
       exact Ax _ h (sm [(2004, 2006)] _ _ rfl rfl)
     ·have h := Aq c13 h
      refine A1 ?_
      exact Ax _ h (sm [(2005, 2004)] _ _ rfl rfl)
    ·refine Am hs (Aa Ad rfl (Bm rfl (qm rfl (Ac ?_))))
     exact Ax _ h (sm [(2001, 2005)] _ _ rfl rfl)
  ·have h := Aq c3 h
   refine A1 ?_
   exact Ax _ h (sm [(2002, 2001)] _ _ rfl rfl)
 ·refine Am hs (Ab (Aa Ad rfl (qm rfl (qa rfl (Ac ?_)))))
  obtain rfl := sj h
  refine Am (sm [(1000, 2002)] [(4, .e (.one (.own 1000)))] [(1000, .vec 3 (v2.map AU))] rfl rfl) (AB ?_)
  exact ⟨⟨[_], ⟨.tmp _ _ rfl, trivial⟩, rfl⟩, ⟨rfl, trivial⟩⟩
set_option maxRecDepth 10000 in
theorem IS (N : Nat) (p0 : Ae) (p1 : Ah) (r : Ah × Aj × Int) (h : EC N p0 p1 = some r) : AD Try.prog 38 [.e (.agg [.pure (.sl (p0.fVersions.map Af)), .pure (.sl (p0.fNow.map Af)), .pure (.sl (p0.fTarget.map Af)), .pure (.sl (p0.fTables.map Ak))]), .e (.agg [.pure (.sl (p1.fBase.map Af)), .pure (.sl (p1.fNext.map Af)), .pure (.sl (p1.fHeld.map A3))])] [] (.tup [.agg [.pure (.sl (r.1.fBase.map Af)), .pure (.sl (r.1.fNext.map Af)), .pure (.sl (r.1.fHeld.map A3))], .agg [.pure (.val (.int .i64 r.2.1.fTable)), .pure (.val (.int .i64 r.2.1.fWriter)), .pure (.val (.int .i64 r.2.1.fReader))], .one (.pure (.val (.int .i64 r.2.2)))]) := by
 unfold EC at h
 refine As (n := 42) (rs := [.cell 4 43, .cell 5 45, .tmp 6]) Try.func38 rfl rfl rfl (Bz rfl) (Bz rfl) rfl fun w0 S0 => ?_
 refine Ab (Aa Ad rfl (qb rfl (qb rfl (qz Co rfl (qz EU rfl (qa rfl (Ac (Ab (Aa Ad rfl (qL C5 CR rfl (qL Bl AO rfl ?_)))))))))))
 obtain ⟨v1, a1, h⟩ := bind_some h
 refine AI [2001] (NH N p0 p1 v1 a1) VY rfl (qm rfl (qx rfl (qx rfl (qa rfl (qa rfl (Ac (Ab (Ab (Aa Ad rfl (qm rfl (B0 rfl (Ac ?_))))))))))))
 refine Au rfl (fun c2 => ?_) (fun c2 => ?_)
 ·have h := Ap c2 h
  refine Ab (Aa Ad rfl (AV Co Fa rfl (AV EU Jg rfl (qm rfl (qs AO rfl (qs Dm rfl (qa rfl (Ac ?_))))))))
  obtain rfl := sj h
  refine Am ((Eb 4 _ rfl).trans (sm [] [(4, .e (.one (.ptr 4 0))), (5, .e (.one (.ptr 5 0))), (6, .e (.one (.pure (.val (.int .i64 v1.2)))))] [(4, .box [.pure (.sl ((([] : List Int)).map Af)), .pure (.sl ((([] : List Int)).map Af)), .pure (.sl ((([] : List Int)).map A3))]), (5, .box [.pure (.val (.int .i64 0)), .pure (.val (.int .i64 0)), .pure (.val (.int .i64 0))])] rfl rfl)) (AB ?_)
  exact ⟨⟨[_, _, _], ⟨.cellN _ _ _ _ _ _ _ rfl rfl Bl AO rfl rfl (Fp rfl), ⟨.cellN _ _ _ _ _ _ _ rfl rfl Hl Dm rfl rfl (Fp rfl), ⟨.tmp _ _ rfl, trivial⟩⟩⟩, rfl⟩, trivial⟩
 ·have h := Aq c2 h
  refine Av (Ab (Ab (Aa Ad rfl (qm rfl (EZ I7 rfl (qm rfl (Ac ?_)))))))
  refine AP (L := DP N p0 v1) h (fun v3 => mk [(2, .e (.one (.ptr 2 0))), (4, .e (.one (.ptr 4 0))), (5, .e (.one (.ptr 5 0))), (23, .e (.one (.own 2002))), (24, .e (.one (.pure (.val (.int .i64 ((v1.1.length : Int))))))), (25, .e (.one (.pure (.val (.int .i64 v3)))))] [(2, .box [.pure (.sl (p0.fVersions.map Af)), .pure (.sl (p0.fNow.map Af)), .pure (.sl (p0.fTarget.map Af)), .pure (.sl (p0.fTables.map Ak))]), (4, .box [.pure (.nil0), .pure (.nil0), .pure (.nil0)]), (5, .box [.pure (.val (.int .i64 0)), .pure (.val (.int .i64 0)), .pure (.val (.int .i64 0))]), (2002, .vec 3 (v1.1.map Db))]) (fun v4 => mk [(4, .e (.one (.ptr 4 0))), (5, .e (.one (.ptr 5 0)))] [(4, .box [.pure (.nil0), .pure (.nil0), .pure (.nil0)]), (5, .box [.pure (.val (.int .i64 0)), .pure (.val (.int .i64 0)), .pure (.val (.int .i64 0))])]) (fun _ _ => rfl) (sm [(2002, 2001)] _ _ rfl rfl) (fun j3 n3 v3 h => ?_) (fun v4 s h hs => ?_)
  ·unfold DP at h
   refine Ab (Aa Ad rfl (Bc rfl (Ac (Ab ?_))))
   refine Au rfl (fun c5 => ?_) (fun c5 => ?_)
   ·have h := Ap c5 h
    refine Av (Ab (AW (Ab (Aa Ad rfl ?_))))
    obtain ⟨v6, a6, b6, h⟩ := An h
    refine qI I7 AO a6 (Al b6) rfl (qJ Bl AO (Al b6) rfl (qz Co rfl (qs AO rfl (Ac (Ab (Aa Ad rfl (qL C5 CR rfl (qL Bl AO rfl ?_))))))))
    obtain ⟨v7, a7, h⟩ := bind_some h
    refine AI [2003] (LE N p0 v6 v7 a7) VI rfl (qa rfl (Ac (Ab (Aa Ad rfl (qm rfl (EZ Fm rfl (FY rfl (Ac ?_))))))))
    refine Au rfl (fun c8 => ?_) (fun c8 => ?_)
    ·have h := Ap c8 h
     refine Ab (Aa Ad rfl (qL Bl AO rfl (qm rfl ?_)))
     obtain ⟨v9, a9, b9, h⟩ := An h
     refine qI Fm Dm a9 (Al b9) rfl (qJ Hl Dm (Al b9) rfl (qs AO rfl (qs Dm rfl (qa rfl (AX (by kernel_rfl) ?_)))))
     obtain rfl := sj h
     refine Am (sm [] [(4, .e (.one (.ptr 4 0))), (5, .e (.one (.ptr 5 0))), (6, .e (.one (.pure (.val (.int .i64 0)))))] [(4, .box [.pure (.sl (v6.fBase.map Af)), .pure (.sl (v6.fNext.map Af)), .pure (.sl (v6.fHeld.map A3))]), (5, .box [.pure (.val (.int .i64 v9.fTable)), .pure (.val (.int .i64 v9.fWriter)), .pure (.val (.int .i64 v9.fReader))])] rfl rfl) (AB ?_)
     exact ⟨⟨[_, _, _], ⟨.cellN _ _ _ _ _ _ _ rfl rfl Bl AO rfl rfl (Fp rfl), ⟨.cellN _ _ _ _ _ _ _ rfl rfl Hl Dm rfl rfl (Fp rfl), ⟨.tmp _ _ rfl, trivial⟩⟩⟩, rfl⟩, trivial⟩
    ·have h := Aq c8 h
     refine Av (Aa Ad rfl (Bm rfl (qm rfl (Ac ?_))))
     exact Ax _ h (sm [] _ _ rfl rfl)
   ·have h := Aq c5 h
    refine A1 ?_
    exact Ax _ h (sm [] _ _ rfl rfl)
  ·refine Am hs (Ab (Aa Ad rfl (AV Co Fa rfl (AV EU Jg rfl (qs AO rfl (qs Dm rfl (qa rfl (Ac ?_))))))))
   obtain rfl := sj h
   refine Am ((Eb 4 _ rfl).trans (sm [] [(4, .e (.one (.ptr 4 0))), (5, .e (.one (.ptr 5 0))), (6, .e (.one (.pure (.val (.int .i64 15)))))] [(4, .box [.pure (.sl ((([] : List Int)).map Af)), .pure (.sl ((([] : List Int)).map Af)), .pure (.sl ((([] : List Int)).map A3))]), (5, .box [.pure (.val (.int .i64 0)), .pure (.val (.int .i64 0)), .pure (.val (.int .i64 0))])] rfl rfl)) (AB ?_)
   exact ⟨⟨[_, _, _], ⟨.cellN _ _ _ _ _ _ _ rfl rfl Bl AO rfl rfl (Fp rfl), ⟨.cellN _ _ _ _ _ _ _ rfl rfl Hl Dm rfl rfl (Fp rfl), ⟨.tmp _ _ rfl, trivial⟩⟩⟩, rfl⟩, trivial⟩
set_option maxRecDepth 10000 in
theorem KC (N : Nat) (p0 : Ae) (p1 : Ah) (r : Bool × Int) (h : GH N p0 p1 = some r) : AD Try.prog 54 [.e (.agg [.pure (.sl (p0.fVersions.map Af)), .pure (.sl (p0.fNow.map Af)), .pure (.sl (p0.fTarget.map Af)), .pure (.sl (p0.fTables.map Ak))]), .e (.agg [.pure (.sl (p1.fBase.map Af)), .pure (.sl (p1.fNext.map Af)), .pure (.sl (p1.fHeld.map A3))])] [] (.tup [.one (.pure (.val (.bool r.1))), .one (.pure (.val (.int .i64 r.2)))]) := by
 unfold GH at h
 refine As (n := 22) (rs := [.tmp 4, .tmp 5]) Try.func54 rfl rfl rfl (Bz rfl) (Bz rfl) rfl fun w0 S0 => ?_
 refine Ab (Aa Ad rfl (qb rfl (qb rfl (qa rfl (qa rfl (Ac (Ab (Aa Ad rfl (qL C5 CR rfl (qL Bl AO rfl ?_))))))))))
 obtain ⟨v1, a1, h⟩ := bind_some h
 refine AI [] (IS N p0 p1 v1 a1) TF rfl (qm rfl (qx rfl (qx rfl (qx rfl (qz Co rfl (qz EU rfl (qs AO rfl (qs Dm rfl (qa rfl (Ac (Ab (Aa Ad rfl (qm rfl (Ac (AW (Ab (Aa Ad rfl (BO rfl (qa rfl (Ac ?_))))))))))))))))))))
 refine Au rfl (fun c2 => ?_) (fun c2 => ?_)
 ·have h := Ap c2 h
  refine Ab (Aa Ad rfl (qa rfl (qa rfl (Ac ?_))))
  obtain rfl := sj h
  refine Am (sm [] [(4, .e (.one (.pure (.val (.bool false))))), (5, .e (.one (.pure (.val (.int .i64 0)))))] [] rfl rfl) (AB ?_)
  exact ⟨⟨[_, _], ⟨.tmp _ _ rfl, ⟨.tmp _ _ rfl, trivial⟩⟩, rfl⟩, trivial⟩
 ·have h := Aq c2 h
  refine Ab (Aa Ad rfl (BO rfl (qa rfl (Ac ?_))))
  refine Au rfl (fun c3 => ?_) (fun c3 => ?_)
  ·have h := Ap c3 h
   refine Ab (Aa Ad rfl (qa rfl (qa rfl (Ac ?_))))
   obtain rfl := sj h
   refine Am (sm [] [(4, .e (.one (.pure (.val (.bool true))))), (5, .e (.one (.pure (.val (.int .i64 0)))))] [] rfl rfl) (AB ?_)
   exact ⟨⟨[_, _], ⟨.tmp _ _ rfl, ⟨.tmp _ _ rfl, trivial⟩⟩, rfl⟩, trivial⟩
  ·have h := Aq c3 h
   refine Ab (Aa Ad rfl (qm rfl (qa rfl (qa rfl (Ac ?_)))))
   obtain rfl := sj h
   refine Am (sm [] [(4, .e (.one (.pure (.val (.bool false))))), (5, .e (.one (.pure (.val (.int .i64 v1.2.2)))))] [] rfl rfl) (AB ?_)
   exact ⟨⟨[_, _], ⟨.tmp _ _ rfl, ⟨.tmp _ _ rfl, trivial⟩⟩, rfl⟩, trivial⟩
set_option maxRecDepth 10000 in
theorem My (N : Nat) (p0 : Ah) (r : ByteArray) (h : HO N p0 = some r) : AD Try.prog 86 [.e (.agg [.pure (.sl (p0.fBase.map Af)), .pure (.sl (p0.fNext.map Af)), .pure (.sl (p0.fHeld.map A3))])] [] (.e (.one (.pure (.val (.string r))))) := by
 unfold HO at h
 refine As (n := 53) (rs := [.tmp 2]) Try.func86 rfl rfl rfl (Bz rfl) (Bz rfl) rfl fun w0 S0 => ?_
 refine Ab (Aa Ad rfl (qb rfl (qa rfl (Ac (Ab (Aa Ad rfl (qf Cp rfl (ql A0 rfl (AQ AE rfl (Kl rfl (qf Cn rfl (ql Gq rfl (AQ C8 rfl (Bm rfl ?_))))))))))))))
 obtain ⟨c1, h⟩ := AG h
 refine IY (.p rfl) rfl rfl rfl IA T0 TG (Bz rfl) Vh rfl rfl rfl c1.1 c1.2.1 c1.2.2 (NL A3 _ ((0 : Int))) ?_
 refine qa rfl (Ac (Ab (Ab (Aa Ad rfl (qf Cp rfl (ql A0 rfl (AQ AE rfl (qm rfl (Ac ?_)))))))))
 refine AP (L := Ga N p0) h (fun v2 => mk [(1, .e (.one (.ptr 1 0))), (3, .e (.one (.own 2001))), (18, .e (.one (.pure (.val (.int .i64 ((p0.fBase.length : Int))))))), (19, .e (.one (.pure (.val (.int .i64 v2.2)))))] [(1, .box [.pure (.sl (p0.fBase.map Af)), .pure (.sl (p0.fNext.map Af)), .pure (.sl (p0.fHeld.map A3))]), (2001, .vec 1 (v2.1.map A3))]) (fun v3 => mk [(1, .e (.one (.ptr 1 0))), (3, .e (.one (.own 2002)))] [(1, .box [.pure (.sl (p0.fBase.map Af)), .pure (.sl (p0.fNext.map Af)), .pure (.sl (p0.fHeld.map A3))]), (2002, .vec 1 (v3.map A3))]) (fun _ _ => rfl) (sm [(2001, 15)] _ _ rfl rfl) (fun j2 n2 v2 h => ?_) (fun v3 s h hs => ?_)
 ·unfold Ga at h
  refine Ab (Aa Ad rfl (Bc rfl (Ac (Ab ?_))))
  refine Au rfl (fun c4 => ?_) (fun c4 => ?_)
  ·have h := Ap c4 h
   refine Av (Ab (AW (Ab (Aa Ad rfl (qm rfl (qa rfl (Ac (Aa Ad rfl (qm rfl (qf Cp rfl (ql A0 rfl (qm rfl ?_))))))))))))
   obtain ⟨v5, a5, b5, h⟩ := An h
   refine qi AE CS a5 (Al b5) rfl (qk B1 rfl (It Vz Wr rfl (qf Bu rfl (ql A0 rfl (qm rfl ?_)))))
   obtain ⟨v6, a6, b6, h⟩ := An h
   refine qi AE CS a6 (Al b6) rfl (qk B1 rfl (Bm rfl (It Vz Wr rfl (D2 IA T0 Vh rfl ?_))))
   obtain ⟨c7, h⟩ := AG h
   refine DM (f := A3) IA IA T0 TG Vh c7 rfl (qa rfl (AX (by kernel_rfl) (Aa Ad rfl (Bm rfl (qm rfl (Ac ?_))))))
   exact Ax _ h (sm [(2001, 37)] _ _ rfl rfl)
  ·have h := Aq c4 h
   refine A1 ?_
   exact Ax _ h (sm [(2002, 2001)] _ _ rfl rfl)
 ·refine Am hs (Ab (Ab (Aa Ad rfl (qf Cn rfl (ql Gq rfl (AQ C8 rfl (qm rfl (Ac ?_))))))))
  refine AP (L := FZ N p0) h (fun v8 => mk [(3, .e (.one (.own 2003))), (40, .e (.one (.pure (.sl (p0.fHeld.map A3))))), (41, .e (.one (.pure (.val (.int .i64 ((p0.fHeld.length : Int))))))), (42, .e (.one (.pure (.val (.int .i64 v8.2)))))] [(2003, .vec 1 (v8.1.map A3))]) (fun v9 => mk [(3, .e (.one (.own 2004)))] [(2004, .vec 1 (v9.map A3))]) (fun _ _ => rfl) (sm [(2003, 2002)] _ _ rfl rfl) (fun j8 n8 v8 h => ?_) (fun v9 s h hs => ?_)
  ·unfold FZ at h
   refine Ab (Aa Ad rfl (Bc rfl (Ac (Ab ?_))))
   refine Au rfl (fun c10 => ?_) (fun c10 => ?_)
   ·have h := Ap c10 h
    refine Av (Ab (AW (Ab (Aa Ad rfl ?_))))
    obtain ⟨v11, a11, b11, h⟩ := An h
    refine qi C8 E5 a11 (Al b11) rfl (qk Jv rfl (qa rfl (Ac (Aa Ad rfl (qm rfl (qm rfl (D2 IA T0 Vh rfl ?_)))))))
    obtain ⟨c12, h⟩ := AG h
    refine DM (f := A3) IA IA T0 TG Vh c12 rfl (qa rfl (Ac (Aa Ad rfl (Bm rfl (qm rfl (Ac ?_))))))
    exact Ax _ h (sm [(2003, 49)] _ _ rfl rfl)
   ·have h := Aq c10 h
    refine A1 ?_
    exact Ax _ h (sm [(2004, 2003)] _ _ rfl rfl)
  ·refine Am hs (Ab (Aa Ad rfl (qm rfl ?_)))
   refine Rs v9 (.p rfl) rfl (Rp A3 _ _ _) ⟨rfl, trivial⟩ rfl U9 Vt ?_
   refine qa rfl (Ac ?_)
   obtain rfl := sj h
   refine Am (sm [] [(2, .e (.one (.pure (.val (.string ((HP v9)))))))] [] rfl rfl) (AB ?_)
   exact ⟨⟨[_], ⟨.tmp _ _ rfl, trivial⟩, rfl⟩, trivial⟩
end Go.Lift

