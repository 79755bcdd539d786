/- Lemmas for PlanFromSaid, which YtohibkdhajkmdaaFinP7 proves. -/
import Derived.Test.YtohibkdhajkmdaaTypes
import Derived.Test.YtohibkdhajkmdaaProg
import Derived.KernelRfl
/- The shallow programs. Written by a program (gen.py) out of the code. -/
namespace Go.Lift
def DD (_ : Nat) (p0 : List Int) (p1 : Int) : Option Int :=
 AZ ((decide (p1 < (p0.length : Int))))
  ((B0 p0 p1).bind fun v2 =>
  some ((IntKind.wrap .i64 v2)))
  (some 0)
def A6 (_ : Nat) (p0 : AF) : Option Bool :=
 Bs (fun (v1 : Bool) =>
  some v1)
 fun j1 =>
 AZ ((p0.fKind == 3))
  (j1 true)
  (j1 (p0.fKind == 4))
def Cf (N : Nat) (p1 : Int) (p2 : Int) (p3 : Bool) (v1 : (List (List Bool)) × Int) (j4 : ((List Bool)) → Option ((List (List Bool)))) : Nat → ((List Bool) × Int) → Option ((List (List Bool)))
 | 0, _ => none
 | n4 + 1, v4 =>
  AZ ((decide (v4.2 < p1)))
   (Bs (fun (v7 : (List Bool)) =>
    Cf N p1 p2 p3 v1 j4 n4 (v7, (IntKind.wrap .i64 (v4.2 + 1))))
   fun j7 =>
   AZ p3
    (AZ ((v1.2 == v4.2))
     ((D8 (v4.1.length + (([true] : List Bool)).length ≤ Dv)).bind fun _ =>
     j7 (v4.1 ++ (([true] : List Bool))))
     ((D8 (0 ≤ (IntKind.wrap .i64 ((IntKind.wrap .i64 (3 * v1.2)) + v4.2)))).bind fun _ =>
     (D8 (v4.1.length + (([((Int.tmod ((E0 .u16 p2 ((IntKind.wrap .i64 ((IntKind.wrap .i64 (3 * v1.2)) + v4.2))))) 2) == 0)] : List Bool)).length ≤ Dv)).bind fun _ =>
     j7 (v4.1 ++ (([((Int.tmod ((E0 .u16 p2 ((IntKind.wrap .i64 ((IntKind.wrap .i64 (3 * v1.2)) + v4.2))))) 2) == 0)] : List Bool)))))
    ((D8 (0 ≤ (IntKind.wrap .i64 ((IntKind.wrap .i64 (3 * v1.2)) + v4.2)))).bind fun _ =>
    (D8 (v4.1.length + (([((Int.tmod ((E0 .u16 p2 ((IntKind.wrap .i64 ((IntKind.wrap .i64 (3 * v1.2)) + v4.2))))) 2) == 0)] : List Bool)).length ≤ Dv)).bind fun _ =>
    j7 (v4.1 ++ (([((Int.tmod ((E0 .u16 p2 ((IntKind.wrap .i64 ((IntKind.wrap .i64 (3 * v1.2)) + v4.2))))) 2) == 0)] : List Bool)))))
   (j4 v4.1)
def Cb (N : Nat) (p0 : Int) (p1 : Int) (p2 : Int) (p3 : Bool) (j1 : ((List (List Bool))) → Option ((List (List Bool)))) : Nat → ((List (List Bool)) × Int) → Option ((List (List Bool)))
 | 0, _ => none
 | n1 + 1, v1 =>
  AZ ((decide (v1.2 < p0)))
   (Cf N p1 p2 p3 v1 (fun (v5 : (List Bool)) =>
    (D8 (v1.1.length + (([v5] : List (List Bool))).length ≤ Dv)).bind fun _ =>
    Cb N p0 p1 p2 p3 j1 n1 (v1.1 ++ (([v5] : List (List Bool))), (IntKind.wrap .i64 (v1.2 + 1)))) N (([] : List Bool), 0))
   (j1 v1.1)
def DC (N : Nat) (p0 : Int) (p1 : Int) (p2 : Int) (p3 : Bool) : Option ((List (List Bool))) :=
 Cb N p0 p1 p2 p3 (fun (v2 : (List (List Bool))) =>
  some v2) N (([] : List (List Bool)), 0)
def Ct (N : Nat) (p0 : B8) (j4 : ((List Int) × (List Int) × (List Int)) → Option (Ae × Bool)) : Nat → ((List Int) × (List Int) × (List Int) × Int) → Option (Ae × Bool)
 | 0, _ => none
 | n4 + 1, v4 =>
  AZ ((decide (v4.2.2.2 < (p0.fVersions.length : Int))))
   ((B0 p0.fVersions v4.2.2.2).bind fun v7 =>
   (D8 (v4.1.length + (([(IntKind.wrap .i64 (1 + (IntKind.wrap .i64 ((Int.tmod v7 3)))))] : List Int)).length ≤ Dv)).bind fun _ =>
   (DD N p0.fNow v4.2.2.2).bind fun v9 =>
   (D8 ((IntKind.wrap .i64 (1 + (IntKind.wrap .i64 ((Int.tmod v7 3))))) ≠ 0)).bind fun _ =>
   (D8 (v4.2.1.length + (([(Int.tmod v9 ((IntKind.wrap .i64 (1 + (IntKind.wrap .i64 ((Int.tmod v7 3)))))))] : List Int)).length ≤ Dv)).bind fun _ =>
   (DD N p0.fTarget v4.2.2.2).bind fun v12 =>
   (D8 ((IntKind.wrap .i64 (1 + (IntKind.wrap .i64 ((Int.tmod v7 3))))) ≠ 0)).bind fun _ =>
   (D8 (v4.2.2.1.length + (([(Int.tmod v12 ((IntKind.wrap .i64 (1 + (IntKind.wrap .i64 ((Int.tmod v7 3)))))))] : List Int)).length ≤ Dv)).bind fun _ =>
   Ct N p0 j4 n4 (v4.1 ++ (([(IntKind.wrap .i64 (1 + (IntKind.wrap .i64 ((Int.tmod v7 3)))))] : List Int)), v4.2.1 ++ (([(Int.tmod v9 ((IntKind.wrap .i64 (1 + (IntKind.wrap .i64 ((Int.tmod v7 3)))))))] : List Int)), v4.2.2.1 ++ (([(Int.tmod v12 ((IntKind.wrap .i64 (1 + (IntKind.wrap .i64 ((Int.tmod v7 3)))))))] : List Int)), (IntKind.wrap .i64 (v4.2.2.2 + 1))))
   (j4 (v4.1, v4.2.1, v4.2.2.1))
def Bw (N : Nat) (p0 : B8) (v5 : (List Int) × (List Int) × (List Int)) (j15 : ((List AF)) → Option (Ae × Bool)) : Nat → ((List AF) × Int) → Option (Ae × Bool)
 | 0, _ => none
 | n15 + 1, v15 =>
  Bs (fun (v17 : Bool) =>
   AZ v17
    ((B0 p0.fLinks v15.2).bind fun v20 =>
    (D8 ((v5.1.length : Int) ≠ 0)).bind fun _ =>
    (D8 ((v5.1.length : Int) ≠ 0)).bind fun _ =>
    Bs (fun (v23 : Bool) =>
     (B0 v5.1 ((Int.tmod ((IntKind.wrap .i64 v20.fFrom)) ((v5.1.length : Int))))).bind fun v26 =>
     (B0 v5.1 ((Int.tmod ((IntKind.wrap .i64 v20.fTo)) ((v5.1.length : Int))))).bind fun v27 =>
     (DC N v26 v27 v20.fBad false).bind fun v28 =>
     Bs (fun (v29 : (List (List Bool))) =>
      (D8 (v15.1.length + (([(AF.mk ((IntKind.wrap .i64 (1 + (IntKind.wrap .i64 ((Int.tmod v20.fKind 4)))))) ((Int.tmod ((IntKind.wrap .i64 v20.fFrom)) ((v5.1.length : Int)))) ((Int.tmod ((IntKind.wrap .i64 v20.fTo)) ((v5.1.length : Int)))) v23 v28 v29)] : List AF)).length ≤ Dv)).bind fun _ =>
      Bw N p0 v5 j15 n15 (v15.1 ++ (([(AF.mk ((IntKind.wrap .i64 (1 + (IntKind.wrap .i64 ((Int.tmod v20.fKind 4)))))) ((Int.tmod ((IntKind.wrap .i64 v20.fFrom)) ((v5.1.length : Int)))) ((Int.tmod ((IntKind.wrap .i64 v20.fTo)) ((v5.1.length : Int)))) v23 v28 v29)] : List AF)), (IntKind.wrap .i64 (v15.2 + 1))))
     fun j29 =>
     AZ (((IntKind.wrap .i64 (1 + (IntKind.wrap .i64 ((Int.tmod v20.fKind 4))))) == 4))
      ((B0 v5.1 ((Int.tmod ((IntKind.wrap .i64 v20.fFrom)) ((v5.1.length : Int))))).bind fun v31 =>
      (B0 v5.1 ((Int.tmod ((IntKind.wrap .i64 v20.fFrom)) ((v5.1.length : Int))))).bind fun v32 =>
      (DC N v31 v32 v20.fLost true).bind fun v33 =>
      j29 v33)
      (j29 ([] : List (List Bool))))
    fun j23 =>
    AZ v20.fAware
     ((A6 N ((AF.mk ((IntKind.wrap .i64 (1 + (IntKind.wrap .i64 ((Int.tmod v20.fKind 4)))))) ((Int.tmod ((IntKind.wrap .i64 v20.fFrom)) ((v5.1.length : Int)))) ((Int.tmod ((IntKind.wrap .i64 v20.fTo)) ((v5.1.length : Int)))) false (([] : List (List Bool))) (([] : List (List Bool)))))).bind fun v25 =>
     j23 (!v25))
     (j23 false))
    (j15 v15.1))
  fun j17 =>
  AZ ((decide (v15.2 < (p0.fLinks.length : Int))))
   (j17 (decide (0 < (v5.1.length : Int))))
   (j17 false)
def D9 (N : Nat) (p0 : B8) : Option (Ae × Bool) :=
 Bs (fun (v1 : Bool) =>
  AZ v1
   (some ((Ae.mk (([] : List Int)) (([] : List Int)) (([] : List Int)) (([] : List AF))), false))
   (Ct N p0 (fun (v5 : (List Int) × (List Int) × (List Int)) =>
    Bw N p0 v5 (fun (v16 : (List AF)) =>
     some ((Ae.mk v5.1 v5.2.1 v5.2.2 v16), true)) N (([] : List AF), 0)) N (([] : List Int), ([] : List Int), ([] : List Int), 0)))
 fun j1 =>
 AZ ((decide (3 < (p0.fVersions.length : Int))))
  (j1 true)
  (j1 (decide (4 < (p0.fLinks.length : Int))))
def CB (_ : Nat) (p0 : Bool) (p1 : Bool) : Option Ae :=
 some ((Ae.mk (([2, 2] : List Int)) (([0, 0] : List Int)) (([1, 1] : List Int)) (([(AF.mk 1 0 1 p1 (([([true, (!p0)] : List Bool), ([false, true] : List Bool)] : List (List Bool))) (([] : List (List Bool))))] : List AF))))
def DG (_ : Nat) (p0 : Int) (p1 : Int) : Option Bool :=
 Bs (fun (v1 : Bool) =>
  some v1)
 fun j1 =>
 AZ ((decide (0 ≤ p0)))
  (j1 (decide (p0 < p1)))
  (j1 false)
def FP (_ : Nat) (p0 : Int) (p1 : Bool) : Option Bool :=
 Bs (fun (v1 : Bool) =>
  some v1)
 fun j1 =>
 AZ ((p0 == 1))
  (j1 true)
  (AZ ((p0 == 2))
   (j1 true)
   (AZ ((p0 == 3))
    (j1 (!p1))
    (AZ ((p0 == 4))
     (j1 (!p1))
     (j1 false))))
def DA (_ : Nat) (p0 : List Bool) (p1 : Int) : Option Bool :=
 some (((p0.length : Int) != p1))
def Bm (N : Nat) (p0 : List (List Bool)) (p1 : (List Bool) → Option Bool) (j1 : Unit → Option Int) : Nat → Int → Option Int
 | 0, _ => none
 | n1 + 1, v1 =>
  AZ ((decide (v1 < (p0.length : Int))))
   ((B0 p0 v1).bind fun v4 =>
   (p1 v4).bind fun v5 =>
   AZ v5
    (some v1)
    (Bm N p0 p1 j1 n1 (IntKind.wrap .i64 (v1 + 1))))
   (j1 ())
def C6 (N : Nat) (p0 : List (List Bool)) (p1 : (List Bool) → Option Bool) : Option Int :=
 Bm N p0 p1 (fun (_ : Unit) =>
  some ((-1))) N 0
def CJ (N : Nat) (p0 : List (List Bool)) (p1 : (List Bool) → Option Bool) : Option Bool :=
 (C6 N p0 p1).bind fun v1 =>
 some ((decide (0 ≤ v1)))
def EA (N : Nat) (p0 : List (List Bool)) (p1 : Int) (p2 : Int) : Option Bool :=
 Bs (fun (v1 : Bool) =>
  some v1)
 fun j1 =>
 AZ (((p0.length : Int) == p1))
  ((CJ N p0 ((fun (x : List Bool) => DA N x p2))).bind fun v3 =>
  j1 (!v3))
  (j1 false)
def CT (N : Nat) (p1 : AF) (j19 : Unit → Option Int) : Nat → Int → Option Int
 | 0, _ => none
 | n19 + 1, v19 =>
  AZ ((decide (v19 < (p1.fRewrite.length : Int))))
   ((B0 p1.fRewrite v19).bind fun v22 =>
   (B0 v22 v19).bind fun v23 =>
   AZ ((!v23))
    (some 1)
    (CT N p1 j19 n19 (IntKind.wrap .i64 (v19 + 1))))
   (j19 ())
def Fr (N : Nat) (p0 : Ae) (p1 : AF) : Option Int :=
 (FP N p1.fKind p1.fAware).bind fun v1 =>
 AZ ((!v1))
  (some 1)
  (Bs (fun (v3 : Bool) =>
   AZ v3
    (some 4)
    ((B0 p0.fVersions p1.fFrom).bind fun v8 =>
    Bs (fun (v9 : Bool) =>
     AZ v9
      (some 6)
      (CT N p1 (fun (_ : Unit) =>
       some 0) N 0))
    fun j9 =>
    (B0 p0.fVersions p1.fTo).bind fun v10 =>
    (EA N p1.fOK v8 v10).bind fun v11 =>
    AZ ((!v11))
     (j9 true)
     (AZ ((p1.fKind == 4))
      ((EA N p1.fRewrite v8 v8).bind fun v14 =>
      AZ ((!v14))
       (j9 true)
       (AZ ((!((p1.fKind == 4))))
        (j9 (decide (0 < (p1.fRewrite.length : Int))))
        (j9 false)))
      (AZ ((!((p1.fKind == 4))))
       (j9 (decide (0 < (p1.fRewrite.length : Int))))
       (j9 false)))))
  fun j3 =>
  (DG N p1.fFrom ((p0.fVersions.length : Int))).bind fun v4 =>
  AZ ((!v4))
   (j3 true)
   ((DG N p1.fTo ((p0.fVersions.length : Int))).bind fun v6 =>
   j3 (!v6)))
def BR (N : Nat) (p0 : Ae) (j7 : Unit → Option Int) : Nat → Int → Option Int
 | 0, _ => none
 | n7 + 1, v7 =>
  AZ ((decide (v7 < (p0.fVersions.length : Int))))
   ((B0 p0.fVersions v7).bind fun v10 =>
   Bs (fun (v11 : Bool) =>
    AZ v11
     (some 7)
     (BR N p0 j7 n7 (IntKind.wrap .i64 (v7 + 1))))
   fun j11 =>
   AZ ((decide (v10 < 1)))
    (j11 true)
    (AZ ((decide (6 < v10)))
     (j11 true)
     ((B0 p0.fNow v7).bind fun v14 =>
     (DG N v14 v10).bind fun v15 =>
     AZ ((!v15))
      (j11 true)
      ((B0 p0.fTarget v7).bind fun v17 =>
      (DG N v17 v10).bind fun v18 =>
      j11 (!v18)))))
   (j7 ())
def BN (N : Nat) (p0 : Ae) (j20 : Unit → Option Int) : Nat → Int → Option Int
 | 0, _ => none
 | n20 + 1, v20 =>
  AZ ((decide (v20 < (p0.fTables.length : Int))))
   ((B0 p0.fTables v20).bind fun v23 =>
   (Fr N p0 v23).bind fun v24 =>
   AZ ((v24 != 0))
    (some v24)
    (BN N p0 j20 n20 (IntKind.wrap .i64 (v20 + 1))))
   (j20 ())
def Dc (N : Nat) (p0 : Ae) : Option Int :=
 Bs (fun (v1 : Bool) =>
  AZ v1
   (some 3)
   (Bs (fun (v4 : Bool) =>
    AZ v4
     (some 6)
     (BR N p0 (fun (_ : Unit) =>
      BN N p0 (fun (_ : Unit) =>
       some 0) N 0) N 0))
   fun j4 =>
   AZ (((p0.fNow.length : Int) != (p0.fVersions.length : Int)))
    (j4 true)
    (j4 ((p0.fTarget.length : Int) != (p0.fVersions.length : Int)))))
 fun j1 =>
 AZ ((decide (6 < (p0.fVersions.length : Int))))
  (j1 true)
  (j1 (decide (12 < (p0.fTables.length : Int))))
def BH (_ : Nat) (p0 : List Int) : Option ((List Int)) :=
 (D8 ((([] : List Int)).length + p0.length ≤ Dv)).bind fun _ =>
 some ((([] : List Int)) ++ p0)
def F1 (_ : Nat) (p0 : Int) (p1 : Int) : Option (Int × Int) :=
 some ((IntKind.wrap .u32 ((E0 .u64 ((IntKind.wrap .u64 ((IntKind.wrap .u64 p0) * (IntKind.wrap .u64 p1)))) 32))), (IntKind.wrap .u32 ((IntKind.wrap .u64 ((IntKind.wrap .u64 p0) * (IntKind.wrap .u64 p1))))))
def F2 (_ : Nat) (p0 : Int) (p1 : Int) : Option (Int × Int) :=
 some ((IntKind.wrap .u64 ((IntKind.wrap .u64 ((IntKind.wrap .u64 ((E0 .u64 p0 32) * (E0 .u64 p1 32))) + (E0 .u64 ((IntKind.wrap .u64 ((IntKind.wrap .u64 ((E0 .u64 p0 32) * (EZ .u64 p1 4294967295))) + (E0 .u64 ((IntKind.wrap .u64 ((EZ .u64 p0 4294967295) * (EZ .u64 p1 4294967295)))) 32)))) 32))) + (E0 .u64 ((IntKind.wrap .u64 ((EZ .u64 ((IntKind.wrap .u64 ((IntKind.wrap .u64 ((E0 .u64 p0 32) * (EZ .u64 p1 4294967295))) + (E0 .u64 ((IntKind.wrap .u64 ((EZ .u64 p0 4294967295) * (EZ .u64 p1 4294967295)))) 32)))) 4294967295) + (IntKind.wrap .u64 ((EZ .u64 p0 4294967295) * (E0 .u64 p1 32)))))) 32))), (IntKind.wrap .u64 (p0 * p1)))
def GF (N : Nat) (p0 : Int) (p1 : Int) : Option (Int × Int) :=
 AZ false
  ((F1 N ((IntKind.wrap .u32 p0)) ((IntKind.wrap .u32 p1))).bind fun v2 =>
  some ((IntKind.wrap .u64 v2.1), (IntKind.wrap .u64 v2.2)))
  ((F2 N p0 p1).bind fun v3 =>
  some (v3.1, v3.2))
def Dr (N : Nat) (j9 : ((List Int)) → Option ((List Int))) : Nat → ((List Int) × Int) → Option ((List Int))
 | 0, _ => none
 | n9 + 1, v9 =>
  AZ ((decide (v9.2 < (v9.1.length : Int))))
   ((D8 ((0 : Int) ≤ v9.2 ∧ (v9.2).toNat ≤ v9.1.length ∧ v9.1.length ≤ v9.1.length)).bind fun _ =>
   (D8 ((0 : Int) ≤ v9.2 ∧ 0 ≤ (v9.2).toNat ∧ (v9.2).toNat ≤ v9.1.length)).bind fun _ =>
   Dr N j9 n9 (Il v9.1 ((v9.2).toNat) ((((v9.1.drop 0).take ((v9.2).toNat))).take (Nat.min (((v9.1.drop 0).take ((v9.2).toNat))).length ((v9.1.length - (v9.2).toNat)))), (IntKind.wrap .i64 (v9.2 + (((Nat.min (((v9.1.drop 0).take ((v9.2).toNat))).length ((v9.1.length - (v9.2).toNat))) : Nat) : Int)))))
   (j9 v9.1)
def EM (N : Nat) (p0 : List Int) (p1 : Int) : Option ((List Int)) :=
 Bs (fun (_ : Unit) =>
  (GF N ((IntKind.wrap .u64 ((p0.length : Int)))) ((IntKind.wrap .u64 p1))).bind fun v3 =>
  Bs (fun (_ : Unit) =>
   (D8 ((0 : Int) ≤ (IntKind.wrap .i64 v3.2) ∧ (IntKind.wrap .i64 v3.2) ≤ (IntKind.wrap .i64 v3.2) ∧ (IntKind.wrap .i64 v3.2) ≤ (Dv : Int))).bind fun _ =>
   Dr N (fun (v10 : (List Int)) =>
    some v10) N (Il (List.replicate ((IntKind.wrap .i64 v3.2)).toNat ((0 : Int))) 0 (p0.take (Nat.min p0.length ((List.replicate ((IntKind.wrap .i64 v3.2)).toNat ((0 : Int))).length))), (((Nat.min p0.length ((List.replicate ((IntKind.wrap .i64 v3.2)).toNat ((0 : Int))).length)) : Nat) : Int)))
  fun j4 =>
  Bs (fun (v5 : Bool) =>
   AZ v5
    (none)
    (j4 ()))
  fun j5 =>
  AZ ((decide (0 < v3.1)))
   (j5 true)
   (j5 (decide (9223372036854775807 < v3.2))))
 fun j1 =>
 AZ ((decide (p1 < 0)))
  (none)
  (j1 ())
def EJ (_ : Nat) (p0 : AF) : Option Bool :=
 Bs (fun (v1 : Bool) =>
  some v1)
 fun j1 =>
 AZ ((p0.fKind == 3))
  (j1 true)
  (j1 (p0.fKind == 4))
def FV (N : Nat) (p0 : Ae) (j6 : ((List Int)) → Option (Ah × Int)) : Nat → ((List Int) × Int) → Option (Ah × Int)
 | 0, _ => none
 | n6 + 1, v6 =>
  AZ ((decide (v6.2 < (p0.fTables.length : Int))))
   (Bs (fun (v9 : (List Int)) =>
    FV N p0 j6 n6 (v9, (IntKind.wrap .i64 (v6.2 + 1))))
   fun j9 =>
   (B0 p0.fTables v6.2).bind fun v10 =>
   (EJ N v10).bind fun v11 =>
   AZ v11
    ((B0 p0.fNow v10.fFrom).bind fun v13 =>
    (D8 (0 ≤ v13)).bind fun _ =>
    (B0 v6.1 v6.2).bind fun _ =>
    j9 (v6.1.set ((v6.2).toNat) ((Dz .u8 1 v13))))
    (j9 v6.1))
   (j6 v6.1)
def Hi (N : Nat) (p0 : Ae) : Option (Ah × Int) :=
 (Dc N p0).bind fun v1 =>
 AZ ((v1 != 0))
  (some ((Ah.mk (([] : List Int)) (([] : List Int)) (([] : List Int))), v1))
  ((BH N p0.fNow).bind fun v3 =>
  (EM N (([(-1)] : List Int)) ((p0.fNow.length : Int))).bind fun v4 =>
  (D8 ((0 : Int) ≤ (p0.fTables.length : Int) ∧ (p0.fTables.length : Int) ≤ (p0.fTables.length : Int) ∧ (p0.fTables.length : Int) ≤ (Dv : Int))).bind fun _ =>
  FV N p0 (fun (v7 : (List Int)) =>
   some ((Ah.mk v3 v4 v7), 0)) N (List.replicate ((p0.fTables.length : Int)).toNat ((0 : Int)), 0))
def Er (_ : Nat) (p0 : Ah) (p1 : Int) : Option Int :=
 (B0 p0.fBase p1).bind fun v1 =>
 (D8 (0 ≤ v1)).bind fun _ =>
 Bs (fun (v3 : Int) =>
  some v3)
 fun j3 =>
 (B0 p0.fNext p1).bind fun v4 =>
 AZ ((decide (0 ≤ v4)))
  ((B0 p0.fNext p1).bind fun v6 =>
  (D8 (0 ≤ v6)).bind fun _ =>
  j3 (Lg .u8 ((Dz .u8 1 v1)) ((Dz .u8 1 v6))))
  (j3 (Dz .u8 1 v1))
def DH (N : Nat) (p0 : Ae) (p1 : Ah) (j7 : Unit → Option Int) : Nat → Int → Option Int
 | 0, _ => none
 | n7 + 1, v7 =>
  AZ ((decide (v7 < (p0.fVersions.length : Int))))
   ((B0 p0.fVersions v7).bind fun v10 =>
   Bs (fun (v11 : Bool) =>
    AZ v11
     (some 7)
     ((B0 p1.fBase v7).bind fun v20 =>
     (B0 p1.fNext v7).bind fun v21 =>
     AZ ((v20 == v21))
      (some 1)
      (DH N p0 p1 j7 n7 (IntKind.wrap .i64 (v7 + 1)))))
   fun j11 =>
   (B0 p1.fBase v7).bind fun v12 =>
   AZ ((decide (v12 < 0)))
    (j11 true)
    ((B0 p1.fBase v7).bind fun v14 =>
    AZ ((decide (v10 ≤ v14)))
     (j11 true)
     ((B0 p1.fNext v7).bind fun v16 =>
     AZ ((decide (v16 < (-1))))
      (j11 true)
      ((B0 p1.fNext v7).bind fun v18 =>
      j11 (decide (v10 ≤ v18))))))
   (j7 ())
def Dp (N : Nat) (p0 : Ae) (p1 : Ah) (j23 : Unit → Option Int) : Nat → Int → Option Int
 | 0, _ => none
 | n23 + 1, v23 =>
  AZ ((decide (v23 < (p0.fTables.length : Int))))
   ((B0 p0.fTables v23).bind fun v26 =>
   Bs (fun (v27 : Int × Int) =>
    Bs (fun (v33 : Bool) =>
     AZ v33
      (some 1)
      (Dp N p0 p1 j23 n23 (IntKind.wrap .i64 (v23 + 1))))
    fun j33 =>
    (B0 p1.fHeld v23).bind fun v34 =>
    AZ (((CX .u8 v27.1 v34) != 0))
     (j33 true)
     ((B0 p1.fHeld v23).bind fun v36 =>
     j33 ((CX .u8 v36 v27.2) != 0)))
   fun j27 =>
   (EJ N v26).bind fun v28 =>
   AZ v28
    ((Er N p1 v26.fFrom).bind fun v30 =>
    (B0 p0.fVersions v26.fFrom).bind fun v31 =>
    (D8 (0 ≤ v31)).bind fun _ =>
    j27 (v30, (IntKind.wrap .u8 ((Dz .u8 1 v31) - 1))))
    (j27 (0, 0)))
   (j23 ())
def EC (N : Nat) (p0 : Ae) (p1 : Ah) : Option Int :=
 (Dc N p0).bind fun v1 =>
 AZ ((v1 != 0))
  (some v1)
  (Bs (fun (v3 : Bool) =>
   AZ v3
    (some 6)
    (DH N p0 p1 (fun (_ : Unit) =>
     Dp N p0 p1 (fun (_ : Unit) =>
      some 0) N 0) N 0))
  fun j3 =>
  AZ (((p1.fBase.length : Int) != (p0.fVersions.length : Int)))
   (j3 true)
   (AZ (((p1.fNext.length : Int) != (p0.fVersions.length : Int)))
    (j3 true)
    (j3 ((p1.fHeld.length : Int) != (p0.fTables.length : Int)))))
def BP (_ : Nat) (p0 : List Int) : Option ((List Int)) :=
 (D8 ((([] : List Int)).length + p0.length ≤ Dv)).bind fun _ =>
 some ((([] : List Int)) ++ p0)
def Dq (N : Nat) (p1 : Ah) (j3 : ((List Int)) → Option ((List Ah) × Int)) : Nat → ((List Int) × Int) → Option ((List Ah) × Int)
 | 0, _ => none
 | n3 + 1, v3 =>
  AZ ((decide (v3.2 < (p1.fNext.length : Int))))
   (Bs (fun (v6 : (List Int)) =>
    Dq N p1 j3 n3 (v6, (IntKind.wrap .i64 (v3.2 + 1))))
   fun j6 =>
   (B0 p1.fNext v3.2).bind fun v7 =>
   AZ ((decide (0 ≤ v7)))
    ((D8 (v3.1.length + (([v3.2] : List Int)).length ≤ Dv)).bind fun _ =>
    j6 (v3.1 ++ (([v3.2] : List Int))))
    (j6 v3.1))
   (j3 v3.1)
def CL (N : Nat) (v4 : (List Int)) (v11 : (List Ah) × Int) (j17 : ((List Int)) → Option ((List Ah) × Int)) : Nat → ((List Int) × Int) → Option ((List Ah) × Int)
 | 0, _ => none
 | n17 + 1, v17 =>
  AZ ((decide (v17.2 < (v4.length : Int))))
   (Bs (fun (v20 : (List Int)) =>
    CL N v4 v11 j17 n17 (v20, (IntKind.wrap .i64 (v17.2 + 1))))
   fun j20 =>
   (B0 v4 v17.2).bind fun v21 =>
   (D8 (0 ≤ v17.2)).bind fun _ =>
   AZ (((EZ .i64 ((E0 .i64 v11.2 v17.2)) 1) == 1))
    ((B0 v17.1 v21).bind fun _ =>
    j20 (v17.1.set ((v21).toNat) ((-1))))
    (j20 v17.1))
   (j17 v17.1)
def CI (N : Nat) (p1 : Ah) (v4 : (List Int)) (j11 : ((List Ah)) → Option ((List Ah) × Int)) : Nat → ((List Ah) × Int) → Option ((List Ah) × Int)
 | 0, _ => none
 | n11 + 1, v11 =>
  AZ ((decide (v11.2 < (Dz .i64 1 ((v4.length : Int))))))
   ((BH N p1.fBase).bind fun v14 =>
   (BH N p1.fNext).bind fun v15 =>
   (BP N p1.fHeld).bind fun v16 =>
   CL N v4 v11 (fun (v18 : (List Int)) =>
    (D8 (v11.1.length + (([(Ah.mk v14 v18 v16)] : List Ah)).length ≤ Dv)).bind fun _ =>
    CI N p1 v4 j11 n11 (v11.1 ++ (([(Ah.mk v14 v18 v16)] : List Ah)), (IntKind.wrap .i64 (v11.2 + 1)))) N (v15, 0))
   (j11 v11.1)
def FO (N : Nat) (p0 : Ae) (p1 : Ah) : Option ((List Ah) × Int) :=
 (EC N p0 p1).bind fun v1 =>
 AZ ((v1 != 0))
  (some (([] : List Ah), v1))
  (Dq N p1 (fun (v4 : (List Int)) =>
   (D8 (0 ≤ (v4.length : Int))).bind fun _ =>
   CI N p1 v4 (fun (v12 : (List Ah)) =>
    some (v12, 0)) N (([] : List Ah), 0)) N (([] : List Int), 0))
def BS (N : Nat) (v1 : (List An) × Int) (v4 : AF) (v6 : Int) (v11 : (List An) × Int) (v17 : List Bool) (j18 : ((List An) × Bool) → Option ((List An))) : Nat → ((List An) × Bool × Int) → Option ((List An))
 | 0, _ => none
 | n18 + 1, v18 =>
  AZ ((decide (v18.2.2 < (v17.length : Int))))
   (Bs (fun (v21 : (List An) × Bool) =>
    BS N v1 v4 v6 v11 v17 j18 n18 (v21.1, v21.2, (IntKind.wrap .i64 (v18.2.2 + 1))))
   fun j21 =>
   (B0 v17 v18.2.2).bind fun v22 =>
   (D8 (0 ≤ v18.2.2)).bind fun _ =>
   AZ (((EZ .u8 ((E0 .u8 v6 v18.2.2)) 1) == 0))
    (j21 (v18.1, v18.2.1))
    (Bs (fun (v25 : Bool) =>
     Bs (fun (v27 : Bool) =>
      AZ v27
       ((D8 (v18.1.length + (([(An.mk v1.2 v11.2 v18.2.2)] : List An)).length ≤ Dv)).bind fun _ =>
       j21 (v18.1 ++ (([(An.mk v1.2 v11.2 v18.2.2)] : List An)), v25))
       (j21 (v18.1, v25)))
     fun j27 =>
     AZ ((!v22))
      (j27 (!v4.fAware))
      (j27 false))
    fun j25 =>
    AZ v18.2.1
     (j25 true)
     (j25 v22)))
   (j18 (v18.1, v18.2.1))
def Ch (N : Nat) (v1 : (List An) × Int) (v4 : AF) (v6 : Int) (v7 : Int) (j11 : ((List An)) → Option ((List An))) : Nat → ((List An) × Int) → Option ((List An))
 | 0, _ => none
 | n11 + 1, v11 =>
  AZ ((decide (v11.2 < (v4.fOK.length : Int))))
   (Bs (fun (v14 : (List An)) =>
    Ch N v1 v4 v6 v7 j11 n11 (v14, (IntKind.wrap .i64 (v11.2 + 1))))
   fun j14 =>
   (D8 (0 ≤ v11.2)).bind fun _ =>
   AZ (((EZ .u8 ((E0 .u8 v7 v11.2)) 1) == 0))
    (j14 v11.1)
    ((B0 v4.fOK v11.2).bind fun v17 =>
    BS N v1 v4 v6 v11 v17 (fun (v19 : (List An) × Bool) =>
     Bs (fun (v31 : Bool) =>
      AZ v31
       ((D8 (v19.1.length + (([(An.mk v1.2 v11.2 ((-1)))] : List An)).length ≤ Dv)).bind fun _ =>
       j14 (v19.1 ++ (([(An.mk v1.2 v11.2 ((-1)))] : List An))))
       (j14 v19.1))
     fun j31 =>
     AZ v4.fAware
      (j31 (!v19.2))
      (j31 false)) N (v11.1, false, 0)))
   (j11 v11.1)
def C2 (N : Nat) (p0 : Ae) (p1 : Ah) (j1 : ((List An)) → Option ((List An))) : Nat → ((List An) × Int) → Option ((List An))
 | 0, _ => none
 | n1 + 1, v1 =>
  AZ ((decide (v1.2 < (p0.fTables.length : Int))))
   ((B0 p0.fTables v1.2).bind fun v4 =>
   (Er N p1 v4.fFrom).bind fun v5 =>
   (Er N p1 v4.fTo).bind fun v6 =>
   Bs (fun (v7 : Int) =>
    Ch N v1 v4 v6 v7 (fun (v12 : (List An)) =>
     C2 N p0 p1 j1 n1 (v12, (IntKind.wrap .i64 (v1.2 + 1)))) N (v1.1, 0))
   fun j7 =>
   (EJ N v4).bind fun v8 =>
   AZ v8
    ((B0 p1.fHeld v1.2).bind fun v10 =>
    j7 v10)
    (j7 v5))
   (j1 v1.1)
def EW (N : Nat) (p0 : Ae) (p1 : Ah) : Option ((List An)) :=
 C2 N p0 p1 (fun (v2 : (List An)) =>
  some v2) N (([] : List An), 0)
def Eh (N : Nat) (p0 : Ae) (v1 : (List Ah) × Int) (j3 : Unit → Option (Ah × An × Int)) : Nat → Int → Option (Ah × An × Int)
 | 0, _ => none
 | n3 + 1, v3 =>
  AZ ((decide (v3 < (v1.1.length : Int))))
   ((B0 v1.1 v3).bind fun v6 =>
   (EW N p0 v6).bind fun v7 =>
   AZ ((decide (0 < (v7.length : Int))))
    ((B0 v7 0).bind fun v9 =>
    some (v6, v9, 0))
    (Eh N p0 v1 j3 n3 (IntKind.wrap .i64 (v3 + 1))))
   (j3 ())
def Fa (N : Nat) (p0 : Ae) (p1 : Ah) : Option (Ah × An × Int) :=
 (FO N p0 p1).bind fun v1 =>
 AZ ((v1.2 != 0))
  (some ((Ah.mk (([] : List Int)) (([] : List Int)) (([] : List Int))), (An.mk 0 0 0), v1.2))
  (Eh N p0 v1 (fun (_ : Unit) =>
   some ((Ah.mk (([] : List Int)) (([] : List Int)) (([] : List Int))), (An.mk 0 0 0), 15)) N 0)
def Fe (N : Nat) (p0 : Ae) (p1 : Ah) : Option (Bool × Int) :=
 (Fa N p0 p1).bind fun v1 =>
 AZ ((v1.2.2 == 0))
  (some (false, 0))
  (AZ ((v1.2.2 == 15))
   (some (true, 0))
   (some (false, v1.2.2)))
def DZ (N : Nat) (p0 : Ah) (j2 : ((List Int)) → Option ByteArray) : Nat → ((List Int) × Int) → Option ByteArray
 | 0, _ => none
 | n2 + 1, v2 =>
  AZ ((decide (v2.2 < (p0.fBase.length : Int))))
   ((B0 p0.fBase v2.2).bind fun v5 =>
   (B0 p0.fNext v2.2).bind fun v6 =>
   (D8 (v2.1.length + (([(IntKind.wrap .u8 v5), (IntKind.wrap .u8 ((IntKind.wrap .i64 (v6 + 1))))] : List Int)).length ≤ Dv)).bind fun _ =>
   DZ N p0 j2 n2 (v2.1 ++ (([(IntKind.wrap .u8 v5), (IntKind.wrap .u8 ((IntKind.wrap .i64 (v6 + 1))))] : List Int)), (IntKind.wrap .i64 (v2.2 + 1))))
   (j2 v2.1)
def Dg (N : Nat) (p0 : Ah) (j8 : ((List Int)) → Option ByteArray) : Nat → ((List Int) × Int) → Option ByteArray
 | 0, _ => none
 | n8 + 1, v8 =>
  AZ ((decide (v8.2 < (p0.fHeld.length : Int))))
   ((B0 p0.fHeld v8.2).bind fun v11 =>
   (D8 (v8.1.length + (([v11] : List Int)).length ≤ Dv)).bind fun _ =>
   Dg N p0 j8 n8 (v8.1 ++ (([v11] : List Int)), (IntKind.wrap .i64 (v8.2 + 1))))
   (j8 v8.1)
def F8 (N : Nat) (p0 : Ah) : Option ByteArray :=
 (D8 ((0 : Int) ≤ 0 ∧ 0 ≤ (IntKind.wrap .i64 ((IntKind.wrap .i64 (2 * (p0.fBase.length : Int))) + (p0.fHeld.length : Int))) ∧ (IntKind.wrap .i64 ((IntKind.wrap .i64 (2 * (p0.fBase.length : Int))) + (p0.fHeld.length : Int))) ≤ (Dv : Int))).bind fun _ =>
 DZ N p0 (fun (v3 : (List Int)) =>
  Dg N p0 (fun (v9 : (List Int)) =>
   some ((Cn v9))) N (v3, 0)) N (List.replicate (0 : Int).toNat ((0 : Int)), 0)
def DW (N : Nat) (v1 : (List Af) × Int) (v4 : Int) (j5 : ((List Af)) → Option ((List Af))) : Nat → ((List Af) × Int) → Option ((List Af))
 | 0, _ => none
 | n5 + 1, v5 =>
  AZ ((decide (v5.2 < v4)))
   ((D8 (v5.1.length + (([(Af.mk 1 v1.2 v5.2)] : List Af)).length ≤ Dv)).bind fun _ =>
   DW N v1 v4 j5 n5 (v5.1 ++ (([(Af.mk 1 v1.2 v5.2)] : List Af)), (IntKind.wrap .i64 (v5.2 + 1))))
   (j5 v5.1)
def CR (N : Nat) (p0 : Ae) (j1 : ((List Af)) → Option ((List Af))) : Nat → ((List Af) × Int) → Option ((List Af))
 | 0, _ => none
 | n1 + 1, v1 =>
  AZ ((decide (v1.2 < (p0.fVersions.length : Int))))
   ((B0 p0.fVersions v1.2).bind fun v4 =>
   DW N v1 v4 (fun (v6 : (List Af)) =>
    CR N p0 j1 n1 (v6, (IntKind.wrap .i64 (v1.2 + 1)))) N (v1.1, 0))
   (j1 v1.1)
def Cd (N : Nat) (p0 : Ae) (j9 : ((List Af)) → Option ((List Af))) : Nat → ((List Af) × Int) → Option ((List Af))
 | 0, _ => none
 | n9 + 1, v9 =>
  AZ ((decide (v9.2 < (p0.fVersions.length : Int))))
   ((D8 (v9.1.length + (([(Af.mk 2 v9.2 0)] : List Af)).length ≤ Dv)).bind fun _ =>
   Cd N p0 j9 n9 (v9.1 ++ (([(Af.mk 2 v9.2 0)] : List Af)), (IntKind.wrap .i64 (v9.2 + 1))))
   (j9 v9.1)
def Br (N : Nat) (p0 : Ae) (j13 : ((List Af)) → Option ((List Af))) : Nat → ((List Af) × Int) → Option ((List Af))
 | 0, _ => none
 | n13 + 1, v13 =>
  AZ ((decide (v13.2 < (p0.fTables.length : Int))))
   ((D8 (v13.1.length + (([(Af.mk 3 v13.2 0)] : List Af)).length ≤ Dv)).bind fun _ =>
   Br N p0 j13 n13 (v13.1 ++ (([(Af.mk 3 v13.2 0)] : List Af)), (IntKind.wrap .i64 (v13.2 + 1))))
   (j13 v13.1)
def GU (N : Nat) (p0 : Ae) : Option ((List Af)) :=
 CR N p0 (fun (v2 : (List Af)) =>
  Cd N p0 (fun (v10 : (List Af)) =>
   Br N p0 (fun (v14 : (List Af)) =>
    some v14) N (v10, 0)) N (v2, 0)) N (([] : List Af), 0)
def Fq (N : Nat) (p0 : Ah) : Option Ah :=
 (BH N p0.fBase).bind fun v1 =>
 (BH N p0.fNext).bind fun v2 =>
 (BP N p0.fHeld).bind fun v3 =>
 some ((Ah.mk v1 v2 v3))
def ET (_ : Nat) (p0 : AF) : Option Bool :=
 Bs (fun (v1 : Bool) =>
  some v1)
 fun j1 =>
 AZ ((p0.fKind == 3))
  (j1 true)
  (j1 (p0.fKind == 4))
def Do (N : Nat) (p0 : Ae) (p2 : Af) (j7 : ((List Int)) → Option (Bool × (List Int) × (List Int))) : Nat → ((List Int) × Int) → Option (Bool × (List Int) × (List Int))
 | 0, _ => none
 | n7 + 1, v7 =>
  AZ ((decide (v7.2 < (p0.fTables.length : Int))))
   (Bs (fun (v10 : (List Int)) =>
    Do N p0 p2 j7 n7 (v10, (IntKind.wrap .i64 (v7.2 + 1))))
   fun j10 =>
   (B0 p0.fTables v7.2).bind fun v11 =>
   Bs (fun (v12 : Bool) =>
    AZ v12
     ((B0 v7.1 v7.2).bind fun v16 =>
     (D8 (0 ≤ p2.fVersion)).bind fun _ =>
     (B0 v7.1 v7.2).bind fun _ =>
     j10 (v7.1.set ((v7.2).toNat) ((Lg .u8 v16 ((Dz .u8 1 p2.fVersion))))))
     (j10 v7.1))
   fun j12 =>
   AZ ((v11.fFrom == p2.fIndex))
    ((ET N v11).bind fun v14 =>
    j12 v14)
    (j12 false))
   (j7 v7.1)
def GN (N : Nat) (p0 : Ae) (p1 : Ah) (p2 : Af) : Option (Bool × (List Int) × (List Int)) :=
 Bs (fun (v1 : Bool) =>
  AZ v1
   (some (false, p1.fNext, p1.fHeld))
   ((B0 p1.fNext p2.fIndex).bind fun _ =>
   Do N p0 p2 (fun (v8 : (List Int)) =>
    some (true, p1.fNext.set ((p2.fIndex).toNat) p2.fVersion, v8)) N (p1.fHeld, 0)))
 fun j1 =>
 (B0 p1.fNext p2.fIndex).bind fun v2 =>
 AZ ((decide (0 ≤ v2)))
  (j1 true)
  ((B0 p1.fBase p2.fIndex).bind fun v4 =>
  j1 (v4 == p2.fVersion))
def Fc (_ : Nat) (p0 : Ah) (p1 : Int) : Option Int :=
 (B0 p0.fBase p1).bind fun v1 =>
 (D8 (0 ≤ v1)).bind fun _ =>
 Bs (fun (v3 : Int) =>
  some v3)
 fun j3 =>
 (B0 p0.fNext p1).bind fun v4 =>
 AZ ((decide (0 ≤ v4)))
  ((B0 p0.fNext p1).bind fun v6 =>
  (D8 (0 ≤ v6)).bind fun _ =>
  j3 (Lg .u8 ((Dz .u8 1 v1)) ((Dz .u8 1 v6))))
  (j3 (Dz .u8 1 v1))
def CM (_ : Nat) (p0 : Int) : Option Int :=
 (Ue ((⟨⟨(List.append (List.append [8, 0, 1, 0, 2, 0, 1, 0, 3, 0, 1, 0, 2, 0, 1, 0, 4, 0, 1, 0, 2, 0, 1, 0, 3, 0, 1, 0, 2, 0, 1, 0, 5, 0, 1, 0, 2, 0, 1, 0, 3, 0, 1, 0, 2, 0, 1, 0, 4, 0, 1, 0, 2, 0, 1, 0, 3, 0, 1, 0, 2, 0, 1, 0] [6, 0, 1, 0, 2, 0, 1, 0, 3, 0, 1, 0, 2, 0, 1, 0, 4, 0, 1, 0, 2, 0, 1, 0, 3, 0, 1, 0, 2, 0, 1, 0, 5, 0, 1, 0, 2, 0, 1, 0, 3, 0, 1, 0, 2, 0, 1, 0, 4, 0, 1, 0, 2, 0, 1, 0, 3, 0, 1, 0, 2, 0, 1, 0]) (List.append [7, 0, 1, 0, 2, 0, 1, 0, 3, 0, 1, 0, 2, 0, 1, 0, 4, 0, 1, 0, 2, 0, 1, 0, 3, 0, 1, 0, 2, 0, 1, 0, 5, 0, 1, 0, 2, 0, 1, 0, 3, 0, 1, 0, 2, 0, 1, 0, 4, 0, 1, 0, 2, 0, 1, 0, 3, 0, 1, 0, 2, 0, 1, 0] [6, 0, 1, 0, 2, 0, 1, 0, 3, 0, 1, 0, 2, 0, 1, 0, 4, 0, 1, 0, 2, 0, 1, 0, 3, 0, 1, 0, 2, 0, 1, 0, 5, 0, 1, 0, 2, 0, 1, 0, 3, 0, 1, 0, 2, 0, 1, 0, 4, 0, 1, 0, 2, 0, 1, 0, 3, 0, 1, 0, 2, 0, 1, 0]))⟩⟩ : ByteArray)) p0).bind fun v1 =>
 some ((IntKind.wrap .i64 v1))
def Db (N : Nat) (p0 : AF) (p2 : Int) (j1 : Unit → Option Bool) : Nat → Int → Option Bool
 | 0, _ => none
 | n1 + 1, v1 =>
  AZ ((v1 != 0))
   ((CM N v1).bind fun v4 =>
   (B0 p0.fRewrite v4).bind fun v5 =>
   (B0 v5 p2).bind fun v6 =>
   AZ ((!v6))
    (some false)
    (Db N p0 p2 j1 n1 (EZ .u8 v1 ((IntKind.wrap .u8 (v1 - 1))))))
   (j1 ())
def E5 (N : Nat) (p0 : AF) (p1 : Int) (p2 : Int) : Option Bool :=
 Db N p0 p2 (fun (_ : Unit) =>
  some true) N p1
def FR (N : Nat) (p0 : Ae) (p1 : Ah) (p2 : Int) : Option (Bool × (List Int)) :=
 (B0 p0.fTables p2).bind fun v1 =>
 (ET N v1).bind fun v2 =>
 AZ ((!v2))
  (some (false, p1.fHeld))
  ((Fc N p1 v1.fFrom).bind fun v4 =>
  (B0 p1.fHeld p2).bind fun v5 =>
  Bs (fun (v6 : Bool) =>
   AZ v6
    (some (false, p1.fHeld))
    ((B0 p1.fHeld p2).bind fun _ =>
    some (true, p1.fHeld.set ((p2).toNat) v4)))
  fun j6 =>
  (B0 p1.fHeld p2).bind fun v7 =>
  AZ ((v7 == v4))
   (j6 true)
   (AZ ((v1.fKind == 4))
    ((B0 p1.fBase v1.fFrom).bind fun v10 =>
    (E5 N v1 ((CX .u8 v5 v4)) v10).bind fun v11 =>
    j6 (!v11))
    (j6 false)))
def EG (N : Nat) (p0 : Ae) (p1 : Ah) (p2 : Af) : Option (Ah × Bool) :=
 (Fq N p1).bind fun v1 =>
 AZ ((p2.fKind == 1))
  ((GN N p0 v1 p2).bind fun v3 =>
  some ((Ah.mk v1.fBase v3.2.1 v3.2.2), v3.1))
  (AZ ((p2.fKind == 3))
   ((FR N p0 v1 p2.fIndex).bind fun v5 =>
   some ((Ah.mk v1.fBase v1.fNext v5.2), v5.1))
   ((B0 v1.fNext p2.fIndex).bind fun v6 =>
   AZ ((decide (v6 < 0)))
    (some (v1, false))
    ((B0 v1.fNext p2.fIndex).bind fun _ =>
    Bs (fun (v9 : (List Int)) =>
     some ((Ah.mk v9 (v1.fNext.set ((p2.fIndex).toNat) ((-1))) v1.fHeld), true))
    fun j9 =>
    AZ ((p2.fKind == 2))
     ((B0 v1.fBase p2.fIndex).bind fun _ =>
     j9 (v1.fBase.set ((p2.fIndex).toNat) v6))
     (j9 v1.fBase))))
def C3 (N : Nat) (p0 : Af) (p1 : List Int) (p2 : List Int) (p3 : List Int) (p4 : List AF) (p5 : List Int) (p6 : List Int) (p7 : List Int) : Option Bool :=
 (EG N ((Ae.mk p1 p2 p3 p4)) ((Ah.mk p5 p6 p7)) p0).bind fun v1 =>
 some ((!v1.2))
def A2 (N : Nat) (p0 : List Af) (p1 : Af → Option Bool) (j1 : Unit → Option Int) : Nat → Int → Option Int
 | 0, _ => none
 | n1 + 1, v1 =>
  AZ ((decide (v1 < (p0.length : Int))))
   ((B0 p0 v1).bind fun v4 =>
   (p1 v4).bind fun v5 =>
   AZ v5
    (some v1)
    (A2 N p0 p1 j1 n1 (IntKind.wrap .i64 (v1 + 1))))
   (j1 ())
def BI (N : Nat) (p0 : List Af) (p1 : Af → Option Bool) : Option Int :=
 A2 N p0 p1 (fun (_ : Unit) =>
  some ((-1))) N 0
def AX (N : Nat) (p1 : Af → Option Bool) (j3 : ((List Af) × Int) → Option (Nat × (List Af))) : Nat → ((List Af) × Int × Int) → Option (Nat × (List Af))
 | 0, _ => none
 | n3 + 1, v3 =>
  AZ ((decide (v3.2.2 < (v3.1.length : Int))))
   (Bs (fun (v6 : (List Af) × Int) =>
    AX N p1 j3 n3 (v6.1, v6.2, (IntKind.wrap .i64 (v3.2.2 + 1))))
   fun j6 =>
   (B0 v3.1 v3.2.2).bind fun v7 =>
   (p1 v7).bind fun v8 =>
   AZ ((!v8))
    ((B0 v3.1 v3.2.1).bind fun _ =>
    j6 (v3.1.set ((v3.2.1).toNat) v7, (IntKind.wrap .i64 (v3.2.1 + 1))))
    (j6 (v3.1, v3.2.1)))
   (j3 (v3.1, v3.2.1))
def BE (N : Nat) (p0 : List Af) (p1 : Af → Option Bool) : Option (Nat × (List Af)) :=
 (BI N p0 p1).bind fun v1 =>
 AZ ((v1 == (-1)))
  (some (p0.length, p0))
  (AX N p1 (fun (v4 : (List Af) × Int) =>
   (D8 ((0 : Int) ≤ v4.2 ∧ (v4.2).toNat ≤ v4.1.length ∧ v4.1.length ≤ v4.1.length)).bind fun _ =>
   (D8 ((0 : Int) ≤ v4.2 ∧ 0 ≤ (v4.2).toNat ∧ (v4.2).toNat ≤ (Il v4.1 ((v4.2).toNat) (List.replicate ((v4.1.length - (v4.2).toNat)) ((Af.mk 0 0 0)))).length)).bind fun _ =>
   some ((v4.2).toNat, Il v4.1 ((v4.2).toNat) (List.replicate ((v4.1.length - (v4.2).toNat)) ((Af.mk 0 0 0))))) N (p0, v1, (IntKind.wrap .i64 (v1 + 1))))
def Fb (N : Nat) (p0 : Ae) (p1 : Ah) : Option ((List Af) × Int) :=
 (EC N p0 p1).bind fun v1 =>
 AZ ((v1 != 0))
  (some (([] : List Af), v1))
  ((GU N p0).bind fun v3 =>
  (BE N v3 ((fun (x : Af) => C3 N x p0.fVersions p0.fNow p0.fTarget p0.fTables p1.fBase p1.fNext p1.fHeld))).bind fun v4 =>
  (D8 (v4.1 ≤ v4.2.length)).bind fun _ =>
  some (v4.2.take v4.1, 0))
def zFS (_ : Nat) (p0 : Af) : Option Bool :=
 Bs (fun (v1 : Bool) =>
  AZ v1
   (some false)
   (Bs (fun (v5 : Bool) =>
    some v5)
   fun j5 =>
   AZ ((p0.fKind == 1))
    (j5 true)
    (j5 (p0.fVersion == 0))))
 fun j1 =>
 AZ ((decide ((R0 p0.fIndex p0.fVersion) < 0)))
  (j1 true)
  (AZ ((decide (p0.fKind < 1)))
   (j1 true)
   (j1 (decide (4 < p0.fKind))))
def Fu (_ : Nat) (p0 : Ae) (p1 : Af) : Option Bool :=
 AZ ((p1.fKind == 3))
  (some ((decide (p1.fIndex < (p0.fTables.length : Int)))))
  (Bs (fun (v2 : Bool) =>
   some v2)
  fun j2 =>
  AZ ((decide (p1.fIndex < (p0.fVersions.length : Int))))
   (AZ ((p1.fKind != 1))
    (j2 true)
    ((B0 p0.fVersions p1.fIndex).bind fun v5 =>
    j2 (decide (p1.fVersion < v5))))
   (j2 false))
def FM (N : Nat) (p0 : Ae) (p1 : Ah) (p2 : Af) : Option (Ah × Int) :=
 (zFS N p2).bind fun v1 =>
 AZ ((!v1))
  (some ((Ah.mk (([] : List Int)) (([] : List Int)) (([] : List Int))), 1))
  ((Fu N p0 p2).bind fun v3 =>
  AZ ((!v3))
   (some ((Ah.mk (([] : List Int)) (([] : List Int)) (([] : List Int))), 4))
   ((EG N p0 p1 p2).bind fun v5 =>
   AZ ((!v5.2))
    (some ((Ah.mk (([] : List Int)) (([] : List Int)) (([] : List Int))), 11))
    (some (v5.1, 0))))
def Ff (N : Nat) (p0 : Ae) (p1 : Ah) (p2 : Af) : Option (Ah × Int) :=
 (EC N p0 p1).bind fun v1 =>
 AZ ((v1 != 0))
  (some ((Ah.mk (([] : List Int)) (([] : List Int)) (([] : List Int))), v1))
  ((FM N p0 p1 p2).bind fun v3 =>
  some (v3.1, v3.2))
def Ce (N : Nat) (p0 : Ae) (v2 : (List AD) × (List (ByteArray × Int)) × Int) (v6 : (List Af) × Int) (j8 : ((List AD) × (List (ByteArray × Int))) → Option ((List AD) × Int)) : Nat → ((List AD) × (List (ByteArray × Int)) × Int) → Option ((List AD) × Int)
 | 0, _ => none
 | n8 + 1, v8 =>
  AZ ((decide (v8.2.2 < (v6.1.length : Int))))
   ((B0 v6.1 v8.2.2).bind fun v11 =>
   (B0 v8.1 v2.2.2).bind fun v12 =>
   (Ff N p0 ((Ah.mk v12.fM.fBase v12.fM.fNext v12.fM.fHeld)) v11).bind fun v13 =>
   AZ ((v13.2 != 0))
    (some (([] : List AD), v13.2))
    ((F8 N v13.1).bind fun v15 =>
    Bs (fun (v16 : (List AD) × (List (ByteArray × Int)) × Int) =>
     Bs (fun (v24 : (List AD)) =>
      AZ ((decide (20000 < (v24.length : Int))))
       (some (([] : List AD), 3))
       (Ce N p0 v2 v6 j8 n8 (v24, v16.2.1, (IntKind.wrap .i64 (v8.2.2 + 1)))))
     fun j24 =>
     AZ ((decide (0 ≤ v16.2.2)))
      ((B0 v16.1 v2.2.2).bind fun v26 =>
      (D8 (v26.fNext.length + (([v16.2.2] : List Int)).length ≤ Dv)).bind fun _ =>
      (B0 v16.1 v2.2.2).bind fun v28 =>
      j24 (v16.1.set ((v2.2.2).toNat) ((AD.mk ((Ah.mk v28.fM.fBase v28.fM.fNext v28.fM.fHeld)) v28.fFrom ((Af.mk v28.fBy.fKind v28.fBy.fIndex v28.fBy.fVersion)) (v26.fNext ++ (([v16.2.2] : List Int)))))))
      (j24 v16.1))
    fun j16 =>
    AZ ((!((Jo v15 v8.2.1).isSome)))
     (Bs (fun (v18 : (List AD) × Int) =>
      j16 (v18.1, KY v15 v18.2 v8.2.1, v18.2))
     fun j18 =>
     (Fe N p0 v13.1).bind fun v19 =>
     Bs (fun (v20 : Bool) =>
      AZ v20
       (j18 (v8.1, (-1)))
       ((D8 (v8.1.length + (([(AD.mk v13.1 v2.2.2 v11 (([] : List Int)))] : List AD)).length ≤ Dv)).bind fun _ =>
       j18 (v8.1 ++ (([(AD.mk v13.1 v2.2.2 v11 (([] : List Int)))] : List AD)), (v8.1.length : Int))))
     fun j20 =>
     AZ ((v19.2 != 0))
      (j20 true)
      (j20 (!v19.1)))
     (j16 (v8.1, v8.2.1, ((Jo v15 v8.2.1).getD 0)))))
   (j8 (v8.1, v8.2.1))
def C4 (N : Nat) (p0 : Ae) (j2 : ((List AD)) → Option ((List AD) × Int)) : Nat → ((List AD) × (List (ByteArray × Int)) × Int) → Option ((List AD) × Int)
 | 0, _ => none
 | n2 + 1, v2 =>
  AZ ((decide (v2.2.2 < (v2.1.length : Int))))
   ((B0 v2.1 v2.2.2).bind fun v5 =>
   (Fb N p0 ((Ah.mk v5.fM.fBase v5.fM.fNext v5.fM.fHeld))).bind fun v6 =>
   AZ ((v6.2 != 0))
    (some (([] : List AD), v6.2))
    (Ce N p0 v2 v6 (fun (v9 : (List AD) × (List (ByteArray × Int))) =>
     C4 N p0 j2 n2 (v9.1, v9.2, (IntKind.wrap .i64 (v2.2.2 + 1)))) N (v2.1, v2.2.1, 0)))
   (j2 v2.1)
def Fp (N : Nat) (p0 : Ae) (p1 : Ah) : Option ((List AD) × Int) :=
 (F8 N p1).bind fun v1 =>
 C4 N p0 (fun (v3 : (List AD)) =>
  some (v3, 0)) N (([(AD.mk p1 ((-1)) ((Af.mk 0 0 0)) (([] : List Int)))] : List AD), KY v1 0 (([] : List (ByteArray × Int))), 0)
def BY (N : Nat) (p0 : List Int) (p1 : List Int) (j2 : Unit → Option Bool) : Nat → Int → Option Bool
 | 0, _ => none
 | n2 + 1, v2 =>
  AZ ((decide (v2 < (p0.length : Int))))
   ((B0 p0 v2).bind fun v5 =>
   (B0 p1 v2).bind fun v6 =>
   AZ ((v5 != v6))
    (some false)
    (BY N p0 p1 j2 n2 (IntKind.wrap .i64 (v2 + 1))))
   (j2 ())
def Dn (N : Nat) (p0 : List Int) (p1 : List Int) : Option Bool :=
 AZ (((p0.length : Int) != (p1.length : Int)))
  (some false)
  (BY N p0 p1 (fun (_ : Unit) =>
   some true) N 0)
def Bg (N : Nat) (p0 : List Int) (p1 : Int → Option Bool) (j1 : Unit → Option Int) : Nat → Int → Option Int
 | 0, _ => none
 | n1 + 1, v1 =>
  AZ ((decide (v1 < (p0.length : Int))))
   ((B0 p0 v1).bind fun v4 =>
   (p1 v4).bind fun v5 =>
   AZ v5
    (some v1)
    (Bg N p0 p1 j1 n1 (IntKind.wrap .i64 (v1 + 1))))
   (j1 ())
def Dt (N : Nat) (p0 : List Int) (p1 : Int → Option Bool) : Option Int :=
 Bg N p0 p1 (fun (_ : Unit) =>
  some ((-1))) N 0
def Co (N : Nat) (p0 : List Int) (p1 : Int → Option Bool) : Option Bool :=
 (Dt N p0 p1).bind fun v1 =>
 some ((decide (0 ≤ v1)))
def FK (_ : Nat) (p0 : Int) : Option Bool :=
 some ((decide (0 ≤ p0)))
def F7 (N : Nat) (p0 : Ae) (p1 : Ah) : Option Bool :=
 Bs (fun (v1 : Bool) =>
  some v1)
 fun j1 =>
 (EC N p0 p1).bind fun v2 =>
 AZ ((v2 == 0))
  ((Dn N p1.fBase p0.fTarget).bind fun v4 =>
  AZ v4
   ((Co N p1.fNext ((fun (x : Int) => FK N x))).bind fun v6 =>
   j1 (!v6))
   (j1 false))
  (j1 false)
def D4 (N : Nat) (p0 : AD) (p1 : List Int) (p2 : List Int) (p3 : List Int) (p4 : List AF) : Option Bool :=
 (F7 N ((Ae.mk p1 p2 p3 p4)) ((Ah.mk p0.fM.fBase p0.fM.fNext p0.fM.fHeld))).bind fun v1 =>
 some v1
def AV (N : Nat) (p0 : List AD) (p1 : AD → Option Bool) (j1 : Unit → Option Int) : Nat → Int → Option Int
 | 0, _ => none
 | n1 + 1, v1 =>
  AZ ((decide (v1 < (p0.length : Int))))
   ((B0 p0 v1).bind fun v4 =>
   (p1 ((AD.mk ((Ah.mk v4.fM.fBase v4.fM.fNext v4.fM.fHeld)) v4.fFrom ((Af.mk v4.fBy.fKind v4.fBy.fIndex v4.fBy.fVersion)) v4.fNext))).bind fun v5 =>
   AZ v5
    (some v1)
    (AV N p0 p1 j1 n1 (IntKind.wrap .i64 (v1 + 1))))
   (j1 ())
def B5 (N : Nat) (p0 : List AD) (p1 : AD → Option Bool) : Option Int :=
 AV N p0 p1 (fun (_ : Unit) =>
  some ((-1))) N 0
def Bi (N : Nat) (j1 : ((List Af)) → Option ((List Af))) : Nat → ((List Af) × Int × Int) → Option ((List Af))
 | 0, _ => none
 | n1 + 1, v1 =>
  AZ ((decide (v1.2.1 < v1.2.2)))
   ((B0 v1.1 v1.2.2).bind fun v4 =>
   (B0 v1.1 v1.2.1).bind fun v5 =>
   (B0 v1.1 v1.2.1).bind fun _ =>
   (B0 (v1.1.set ((v1.2.1).toNat) v4) v1.2.2).bind fun _ =>
   Bi N j1 n1 ((v1.1.set ((v1.2.1).toNat) v4).set ((v1.2.2).toNat) v5, (IntKind.wrap .i64 (v1.2.1 + 1)), (IntKind.wrap .i64 (v1.2.2 - 1))))
   (j1 v1.1)
def Bu (N : Nat) (p0 : List Af) : Option ((List Af)) :=
 Bi N (fun (v2 : (List Af)) =>
  some v2) N (p0, 0, (IntKind.wrap .i64 ((p0.length : Int) - 1)))
def ES (N : Nat) (p0 : List AD) (j1 : ((List Af)) → Option ((List Af))) : Nat → (Int × (List Af)) → Option ((List Af))
 | 0, _ => none
 | n1 + 1, v1 =>
  (B0 p0 v1.1).bind fun v3 =>
  AZ ((decide (0 ≤ v3.fFrom)))
   ((B0 p0 v1.1).bind fun v5 =>
   (D8 (v1.2.length + (([(Af.mk v5.fBy.fKind v5.fBy.fIndex v5.fBy.fVersion)] : List Af)).length ≤ Dv)).bind fun _ =>
   (B0 p0 v1.1).bind fun v7 =>
   ES N p0 j1 n1 (v7.fFrom, v1.2 ++ (([(Af.mk v5.fBy.fKind v5.fBy.fIndex v5.fBy.fVersion)] : List Af))))
   (j1 v1.2)
def HX (N : Nat) (p0 : List AD) (p1 : Int) : Option ((List Af)) :=
 ES N p0 (fun (v2 : (List Af)) =>
  (Bu N v2).bind fun v8 =>
  some v8) N (p1, ([] : List Af))
def El (N : Nat) (p0 : Ae) (p1 : Ah) : Option ((List Af) × Int) :=
 (Fe N p0 p1).bind fun v1 =>
 AZ ((v1.2 != 0))
  (some (([] : List Af), v1.2))
  (AZ ((!v1.1))
   (some (([] : List Af), 13))
   ((Fp N p0 p1).bind fun v4 =>
   AZ ((v4.2 != 0))
    (some (([] : List Af), v4.2))
    ((B5 N v4.1 ((fun (x : AD) => D4 N x p0.fVersions p0.fNow p0.fTarget p0.fTables))).bind fun v6 =>
    AZ ((decide (v6 < 0)))
     (some (([] : List Af), 14))
     ((HX N v4.1 v6).bind fun v8 =>
     some (v8, 0)))))
def Gg (N : Nat) (p0 : Ae) : Option ((List Af) × Int) :=
 (Hi N p0).bind fun v1 =>
 AZ ((v1.2 != 0))
  (some (([] : List Af), v1.2))
  ((El N p0 v1.1).bind fun v3 =>
  some (v3.1, v3.2))
def E6 (N : Nat) (p0 : Ae) (p1 : List Af) (j5 : Ah → Option (Int × Ah × An × Int)) : Nat → (Ah × Int) → Option (Int × Ah × An × Int)
 | 0, _ => none
 | n5 + 1, v5 =>
  AZ ((decide (v5.2 < (p1.length : Int))))
   ((B0 p1 v5.2).bind fun v8 =>
   (Ff N p0 v5.1 v8).bind fun v9 =>
   Bs (fun (v10 : Bool) =>
    AZ v10
     (some (v5.2, (Ah.mk (([] : List Int)) (([] : List Int)) (([] : List Int))), (An.mk 0 0 0), 0))
     ((Fa N p0 v9.1).bind fun v13 =>
     AZ ((v13.2.2 == 0))
      (some (v5.2, v13.1, v13.2.1, 0))
      (E6 N p0 p1 j5 n5 (v9.1, (IntKind.wrap .i64 (v5.2 + 1))))))
   fun j10 =>
   AZ ((v9.2 != 0))
    (j10 true)
    (j10 (v8.fKind == 4)))
   (j5 v5.1)
def FX (N : Nat) (p0 : Ae) (p1 : List Af) : Option (Int × Ah × An × Int) :=
 (Hi N p0).bind fun v1 =>
 AZ ((v1.2 != 0))
  (some (0, (Ah.mk (([] : List Int)) (([] : List Int)) (([] : List Int))), (An.mk 0 0 0), v1.2))
  ((Fa N p0 v1.1).bind fun v3 =>
  AZ ((v3.2.2 == 0))
   (some ((-1), v3.1, v3.2.1, 0))
   (E6 N p0 p1 (fun (v6 : Ah) =>
    (F7 N p0 v6).bind fun v15 =>
    AZ ((!v15))
     (some ((p1.length : Int), (Ah.mk (([] : List Int)) (([] : List Int)) (([] : List Int))), (An.mk 0 0 0), 14))
     (some (0, (Ah.mk (([] : List Int)) (([] : List Int)) (([] : List Int))), (An.mk 0 0 0), 15))) N (v1.1, 0)))
def CC (N : Nat) (p0 : List Af) (p1 : List Af) (j2 : Unit → Option Bool) : Nat → Int → Option Bool
 | 0, _ => none
 | n2 + 1, v2 =>
  AZ ((decide (v2 < (p0.length : Int))))
   ((B0 p0 v2).bind fun v5 =>
   (B0 p1 v2).bind fun v6 =>
   AZ ((!((v5.fKind == v6.fKind) && ((v5.fIndex == v6.fIndex) && ((v5.fVersion == v6.fVersion) && true)))))
    (some false)
    (CC N p0 p1 j2 n2 (IntKind.wrap .i64 (v2 + 1))))
   (j2 ())
def DE (N : Nat) (p0 : List Af) (p1 : List Af) : Option Bool :=
 AZ (((p0.length : Int) != (p1.length : Int)))
  (some false)
  (CC N p0 p1 (fun (_ : Unit) =>
   some true) N 0)
def Id (N : Nat) (p0 : Ae) (p1 : List Af) : Option Bool :=
 (FX N p0 p1).bind fun v1 =>
 some ((v1.2.2.2 == 15))
def DY (N : Nat) : Option Bool :=
 (CB N false false).bind fun v1 =>
 (Gg N v1).bind fun v2 =>
 (CB N true false).bind fun v3 =>
 (Gg N v3).bind fun v4 =>
 (CB N true true).bind fun v5 =>
 (Gg N v5).bind fun v6 =>
 (CB N false false).bind fun v7 =>
 (FX N v7 (([(Af.mk 1 0 1)] : List Af))).bind fun v8 =>
 Bs (fun (v9 : Bool) =>
  some v9)
 fun j9 =>
 AZ ((v2.2 == 0))
  ((DE N v2.1 (([(Af.mk 1 1 1), (Af.mk 2 1 0), (Af.mk 1 0 1), (Af.mk 2 0 0)] : List Af))).bind fun v11 =>
  AZ v11
   (AZ ((v4.2 == 14))
    (AZ ((v6.2 == 14))
     (AZ ((v8.2.2.2 == 0))
      (AZ ((v8.1 == 0))
       (AZ (((v8.2.2.1.fTable == 0) && ((v8.2.2.1.fWriter == 1) && ((v8.2.2.1.fReader == 0) && true))))
        ((CB N false false).bind fun v18 =>
        (Id N v18 (([(Af.mk 1 1 1), (Af.mk 2 1 0), (Af.mk 1 0 1), (Af.mk 2 0 0)] : List Af))).bind fun v19 =>
        j9 v19)
        (j9 false))
       (j9 false))
      (j9 false))
     (j9 false))
    (j9 false))
   (j9 false))
  (j9 false)
def C0 (_ : Nat) (p0 : List Int) (p1 : Int) : Option Int :=
 AZ ((decide (p1 < (p0.length : Int))))
  ((B0 p0 p1).bind fun v2 =>
  some ((IntKind.wrap .i64 v2)))
  (some 0)
def BB (_ : Nat) (p0 : Ah) (p1 : Int) : Option Int :=
 (B0 p0.fBase p1).bind fun v1 =>
 (D8 (0 ≤ v1)).bind fun _ =>
 Bs (fun (v3 : Int) =>
  some v3)
 fun j3 =>
 (B0 p0.fNext p1).bind fun v4 =>
 AZ ((decide (0 ≤ v4)))
  ((B0 p0.fNext p1).bind fun v6 =>
  (D8 (0 ≤ v6)).bind fun _ =>
  j3 (Lg .u8 ((Dz .u8 1 v1)) ((Dz .u8 1 v6))))
  (j3 (Dz .u8 1 v1))
def Cv (N : Nat) (p0 : Ae) (p1 : BJ) (j1 : ((List Int) × (List Int)) → Option Ah) : Nat → ((List Int) × (List Int) × Int) → Option Ah
 | 0, _ => none
 | n1 + 1, v1 =>
  AZ ((decide (v1.2.2 < (p0.fVersions.length : Int))))
   ((B0 p0.fVersions v1.2.2).bind fun v4 =>
   (C0 N p1.fBase v1.2.2).bind fun v5 =>
   (D8 (v4 ≠ 0)).bind fun _ =>
   Bs (fun (v7 : Int) =>
    (D8 (v1.1.length + (([(Int.tmod v5 v4)] : List Int)).length ≤ Dv)).bind fun _ =>
    (D8 (v1.2.1.length + (([v7] : List Int)).length ≤ Dv)).bind fun _ =>
    Cv N p0 p1 j1 n1 (v1.1 ++ (([(Int.tmod v5 v4)] : List Int)), v1.2.1 ++ (([v7] : List Int)), (IntKind.wrap .i64 (v1.2.2 + 1))))
   fun j7 =>
   (C0 N p1.fNext v1.2.2).bind fun v8 =>
   (D8 (v4 ≠ 0)).bind fun _ =>
   AZ ((decide (0 < (Int.tmod v8 v4))))
    ((D8 (v4 ≠ 0)).bind fun _ =>
    j7 (Int.tmod ((IntKind.wrap .i64 ((Int.tmod v5 v4) + (Int.tmod v8 v4)))) v4))
    (j7 (-1)))
   (j1 (v1.1, v1.2.1))
def Bk (N : Nat) (p0 : Ae) (p1 : BJ) (v2 : (List Int) × (List Int)) (j14 : ((List Int)) → Option Ah) : Nat → ((List Int) × Int) → Option Ah
 | 0, _ => none
 | n14 + 1, v14 =>
  AZ ((decide (v14.2 < (p0.fTables.length : Int))))
   ((B0 p0.fTables v14.2).bind fun v17 =>
   Bs (fun (v18 : Int) =>
    (D8 (v14.1.length + (([v18] : List Int)).length ≤ Dv)).bind fun _ =>
    Bk N p0 p1 v2 j14 n14 (v14.1 ++ (([v18] : List Int)), (IntKind.wrap .i64 (v14.2 + 1))))
   fun j18 =>
   (A6 N v17).bind fun v19 =>
   AZ v19
    ((B0 p0.fVersions v17.fFrom).bind fun v21 =>
    (D8 (0 ≤ v21)).bind fun _ =>
    (BB N ((Ah.mk v2.1 v2.2 v14.1)) v17.fFrom).bind fun v23 =>
    (C0 N p1.fHeld v14.2).bind fun v24 =>
    j18 (Lg .u8 v23 ((EZ .u8 ((IntKind.wrap .u8 v24)) ((IntKind.wrap .u8 ((Dz .u8 1 v21) - 1)))))))
    (j18 0))
   (j14 v14.1)
def Eb (N : Nat) (p0 : Ae) (p1 : BJ) : Option Ah :=
 Cv N p0 p1 (fun (v2 : (List Int) × (List Int)) =>
  Bk N p0 p1 v2 (fun (v15 : (List Int)) =>
   some ((Ah.mk v2.1 v2.2 v15))) N (([] : List Int), 0)) N (([] : List Int), ([] : List Int), 0)
def Ci (N : Nat) (p0 : List (List Bool)) (p1 : Int) (p2 : Int) (j2 : Unit → Option Bool) : Nat → Int → Option Bool
 | 0, _ => none
 | n2 + 1, v2 =>
  AZ ((decide (v2 < p1)))
   ((B0 p0 v2).bind fun v5 =>
   AZ (((v5.length : Int) != p2))
    (some false)
    (Ci N p0 p1 p2 j2 n2 (IntKind.wrap .i64 (v2 + 1))))
   (j2 ())
def Da (N : Nat) (p0 : List (List Bool)) (p1 : Int) (p2 : Int) : Option Bool :=
 AZ (((p0.length : Int) != p1))
  (some false)
  (Ci N p0 p1 p2 (fun (_ : Unit) =>
   some true) N 0)
def BV (N : Nat) (p1 : AF) (j22 : Unit → Option Int) : Nat → Int → Option Int
 | 0, _ => none
 | n22 + 1, v22 =>
  AZ ((decide (v22 < (p1.fRewrite.length : Int))))
   ((B0 p1.fRewrite v22).bind fun v25 =>
   (B0 v25 v22).bind fun v26 =>
   AZ ((!v26))
    (some 1)
    (BV N p1 j22 n22 (IntKind.wrap .i64 (v22 + 1))))
   (j22 ())
def D0 (N : Nat) (p0 : Ae) (p1 : AF) : Option Int :=
 Bs (fun (v1 : Bool) =>
  AZ v1
   (some 1)
   (Bs (fun (v7 : Bool) =>
    AZ v7
     (some 4)
     ((B0 p0.fVersions p1.fFrom).bind fun v12 =>
     (B0 p0.fVersions p1.fTo).bind fun v13 =>
     (Da N p1.fOK v12 v13).bind fun v14 =>
     AZ ((!v14))
      (some 6)
      (AZ ((p1.fKind != 4))
       (AZ (((p1.fRewrite.length : Int) != 0))
        (some 6)
        (some 0))
       ((B0 p0.fVersions p1.fFrom).bind fun v18 =>
       (B0 p0.fVersions p1.fFrom).bind fun v19 =>
       (Da N p1.fRewrite v18 v19).bind fun v20 =>
       AZ ((!v20))
        (some 6)
        (BV N p1 (fun (_ : Unit) =>
         some 0) N 0)))))
   fun j7 =>
   AZ ((decide (p1.fFrom < 0)))
    (j7 true)
    (AZ ((decide ((p0.fVersions.length : Int) ≤ p1.fFrom)))
     (j7 true)
     (AZ ((decide (p1.fTo < 0)))
      (j7 true)
      (j7 (decide ((p0.fVersions.length : Int) ≤ p1.fTo)))))))
 fun j1 =>
 AZ ((decide (p1.fKind < 1)))
  (j1 true)
  (AZ ((decide (4 < p1.fKind)))
   (j1 true)
   (AZ p1.fAware
    ((A6 N p1).bind fun v5 =>
    j1 v5)
    (j1 false)))
def Bh (N : Nat) (p0 : Ae) (j7 : Unit → Option Int) : Nat → Int → Option Int
 | 0, _ => none
 | n7 + 1, v7 =>
  AZ ((decide (v7 < (p0.fVersions.length : Int))))
   ((B0 p0.fVersions v7).bind fun v10 =>
   Bs (fun (v11 : Bool) =>
    AZ v11
     (some 7)
     (Bh N p0 j7 n7 (IntKind.wrap .i64 (v7 + 1))))
   fun j11 =>
   AZ ((decide (v10 < 1)))
    (j11 true)
    (AZ ((decide (6 < v10)))
     (j11 true)
     ((B0 p0.fNow v7).bind fun v14 =>
     AZ ((decide (v14 < 0)))
      (j11 true)
      ((B0 p0.fNow v7).bind fun v16 =>
      AZ ((decide (v10 ≤ v16)))
       (j11 true)
       ((B0 p0.fTarget v7).bind fun v18 =>
       AZ ((decide (v18 < 0)))
        (j11 true)
        ((B0 p0.fTarget v7).bind fun v20 =>
        j11 (decide (v10 ≤ v20))))))))
   (j7 ())
def Bb (N : Nat) (p0 : Ae) (j22 : Unit → Option Int) : Nat → Int → Option Int
 | 0, _ => none
 | n22 + 1, v22 =>
  AZ ((decide (v22 < (p0.fTables.length : Int))))
   ((B0 p0.fTables v22).bind fun v25 =>
   (D0 N p0 v25).bind fun v26 =>
   AZ ((v26 != 0))
    (some v26)
    (Bb N p0 j22 n22 (IntKind.wrap .i64 (v22 + 1))))
   (j22 ())
def CK (N : Nat) (p0 : Ae) : Option Int :=
 Bs (fun (v1 : Bool) =>
  AZ v1
   (some 3)
   (Bs (fun (v4 : Bool) =>
    AZ v4
     (some 6)
     (Bh N p0 (fun (_ : Unit) =>
      Bb N p0 (fun (_ : Unit) =>
       some 0) N 0) N 0))
   fun j4 =>
   AZ (((p0.fNow.length : Int) != (p0.fVersions.length : Int)))
    (j4 true)
    (j4 ((p0.fTarget.length : Int) != (p0.fVersions.length : Int)))))
 fun j1 =>
 AZ ((decide (6 < (p0.fVersions.length : Int))))
  (j1 true)
  (j1 (decide (12 < (p0.fTables.length : Int))))
def B1 (N : Nat) (p0 : Ae) (p1 : Ah) (j7 : Unit → Option Int) : Nat → Int → Option Int
 | 0, _ => none
 | n7 + 1, v7 =>
  AZ ((decide (v7 < (p0.fVersions.length : Int))))
   (Bs (fun (v10 : Bool) =>
    AZ v10
     (some 7)
     ((B0 p1.fBase v7).bind fun v21 =>
     (B0 p1.fNext v7).bind fun v22 =>
     AZ ((v21 == v22))
      (some 1)
      (B1 N p0 p1 j7 n7 (IntKind.wrap .i64 (v7 + 1)))))
   fun j10 =>
   (B0 p1.fBase v7).bind fun v11 =>
   AZ ((decide (v11 < 0)))
    (j10 true)
    ((B0 p1.fBase v7).bind fun v13 =>
    (B0 p0.fVersions v7).bind fun v14 =>
    AZ ((decide (v14 ≤ v13)))
     (j10 true)
     ((B0 p1.fNext v7).bind fun v16 =>
     AZ ((decide (v16 < (-1))))
      (j10 true)
      ((B0 p1.fNext v7).bind fun v18 =>
      (B0 p0.fVersions v7).bind fun v19 =>
      j10 (decide (v19 ≤ v18))))))
   (j7 ())
def BU (N : Nat) (p0 : Ae) (p1 : Ah) (j24 : Unit → Option Int) : Nat → Int → Option Int
 | 0, _ => none
 | n24 + 1, v24 =>
  AZ ((decide (v24 < (p0.fTables.length : Int))))
   ((B0 p0.fTables v24).bind fun v27 =>
   (B0 p0.fVersions v27.fFrom).bind fun v28 =>
   (D8 (0 ≤ v28)).bind fun _ =>
   Bs (fun (v30 : Bool) =>
    AZ v30
     (some 1)
     (BU N p0 p1 j24 n24 (IntKind.wrap .i64 (v24 + 1))))
   fun j30 =>
   (A6 N v27).bind fun v31 =>
   AZ ((!v31))
    ((B0 p1.fHeld v24).bind fun v33 =>
    AZ ((v33 != 0))
     (j30 true)
     ((A6 N v27).bind fun v35 =>
     AZ v35
      ((B0 p1.fHeld v24).bind fun v37 =>
      AZ (((CX .u8 v37 ((IntKind.wrap .u8 ((Dz .u8 1 v28) - 1)))) != 0))
       (j30 true)
       ((BB N p1 v27.fFrom).bind fun v39 =>
       (B0 p1.fHeld v24).bind fun v40 =>
       j30 ((CX .u8 v39 v40) != 0)))
      (j30 false)))
    ((A6 N v27).bind fun v41 =>
    AZ v41
     ((B0 p1.fHeld v24).bind fun v43 =>
     AZ (((CX .u8 v43 ((IntKind.wrap .u8 ((Dz .u8 1 v28) - 1)))) != 0))
      (j30 true)
      ((BB N p1 v27.fFrom).bind fun v45 =>
      (B0 p1.fHeld v24).bind fun v46 =>
      j30 ((CX .u8 v45 v46) != 0)))
     (j30 false)))
   (j24 ())
def Cu (N : Nat) (p0 : Ae) (p1 : Ah) : Option Int :=
 (CK N p0).bind fun v1 =>
 AZ ((v1 != 0))
  (some v1)
  (Bs (fun (v3 : Bool) =>
   AZ v3
    (some 6)
    (B1 N p0 p1 (fun (_ : Unit) =>
     BU N p0 p1 (fun (_ : Unit) =>
      some 0) N 0) N 0))
  fun j3 =>
  AZ (((p1.fBase.length : Int) != (p0.fVersions.length : Int)))
   (j3 true)
   (AZ (((p1.fNext.length : Int) != (p0.fVersions.length : Int)))
    (j3 true)
    (j3 ((p1.fHeld.length : Int) != (p0.fTables.length : Int)))))
def DN (_ : Nat) (p0 : Ah) : Option Ah :=
 (D8 ((([] : List Int)).length + p0.fBase.length ≤ Dv)).bind fun _ =>
 (D8 ((([] : List Int)).length + p0.fNext.length ≤ Dv)).bind fun _ =>
 (D8 ((([] : List Int)).length + p0.fHeld.length ≤ Dv)).bind fun _ =>
 some ((Ah.mk ((([] : List Int)) ++ p0.fBase) ((([] : List Int)) ++ p0.fNext) ((([] : List Int)) ++ p0.fHeld)))
def Cm (N : Nat) (p0 : Ah) (j1 : Int → Option ((List Ah))) : Nat → (Int × Int) → Option ((List Ah))
 | 0, _ => none
 | n1 + 1, v1 =>
  AZ ((decide (v1.2 < (p0.fNext.length : Int))))
   (Bs (fun (v4 : Int) =>
    Cm N p0 j1 n1 (v4, (IntKind.wrap .i64 (v1.2 + 1))))
   fun j4 =>
   (B0 p0.fNext v1.2).bind fun v5 =>
   AZ ((decide (0 ≤ v5)))
    (j4 (IntKind.wrap .i64 (v1.1 + 1)))
    (j4 v1.1))
   (j1 v1.1)
def BQ (N : Nat) (p0 : Ah) (v7 : (List Ah) × Int) (j12 : ((List Int)) → Option ((List Ah))) : Nat → ((List Int) × Int × Int) → Option ((List Ah))
 | 0, _ => none
 | n12 + 1, v12 =>
  AZ ((decide (v12.2.2 < (p0.fNext.length : Int))))
   (Bs (fun (v15 : (List Int) × Int) =>
    BQ N p0 v7 j12 n12 (v15.1, v15.2, (IntKind.wrap .i64 (v12.2.2 + 1))))
   fun j15 =>
   (B0 p0.fNext v12.2.2).bind fun v16 =>
   AZ ((decide (v16 < 0)))
    (j15 (v12.1, v12.2.1))
    (Bs (fun (v18 : (List Int)) =>
     j15 (v18, (IntKind.wrap .i64 (v12.2.1 + 1))))
    fun j18 =>
    (D8 (0 ≤ v12.2.1)).bind fun _ =>
    AZ (((Int.tmod ((E0 .i64 v7.2 v12.2.1)) 2) == 1))
     ((B0 v12.1 v12.2.2).bind fun _ =>
     j18 (v12.1.set ((v12.2.2).toNat) ((-1))))
     (j18 v12.1)))
   (j12 v12.1)
def Bv (N : Nat) (p0 : Ah) (v2 : Int) (j7 : ((List Ah)) → Option ((List Ah))) : Nat → ((List Ah) × Int) → Option ((List Ah))
 | 0, _ => none
 | n7 + 1, v7 =>
  (D8 (0 ≤ v2)).bind fun _ =>
  AZ ((decide (v7.2 < (Dz .i64 1 v2))))
   ((DN N p0).bind fun v11 =>
   BQ N p0 v7 (fun (v13 : (List Int)) =>
    (D8 (v7.1.length + (([(Ah.mk v11.fBase v13 v11.fHeld)] : List Ah)).length ≤ Dv)).bind fun _ =>
    Bv N p0 v2 j7 n7 (v7.1 ++ (([(Ah.mk v11.fBase v13 v11.fHeld)] : List Ah)), (IntKind.wrap .i64 (v7.2 + 1)))) N (v11.fNext, 0, 0))
   (j7 v7.1)
def DU (N : Nat) (p0 : Ah) : Option ((List Ah)) :=
 Cm N p0 (fun (v2 : Int) =>
  Bv N p0 v2 (fun (v8 : (List Ah)) =>
   some v8) N (([] : List Ah), 0)) N (0, 0)
def Ck (_ : Nat) (p0 : Int) (p1 : Int) : Option Bool :=
 (D8 (0 ≤ p1)).bind fun _ =>
 some (((EZ .u8 ((E0 .u8 p0 p1)) 1) == 1))
def Bl (N : Nat) (p0 : Ae) (p1 : Ah) (v1 : (List An) × Int) (v4 : AF) (v10 : (List An) × Int) (j17 : ((List An) × Bool) → Option ((List An))) : Nat → ((List An) × Bool × Int) → Option ((List An))
 | 0, _ => none
 | n17 + 1, v17 =>
  (B0 p0.fVersions v4.fTo).bind fun v19 =>
  AZ ((decide (v17.2.2 < v19)))
   (Bs (fun (v21 : (List An) × Bool) =>
    Bl N p0 p1 v1 v4 v10 j17 n17 (v21.1, v21.2, (IntKind.wrap .i64 (v17.2.2 + 1))))
   fun j21 =>
   (BB N p1 v4.fTo).bind fun v22 =>
   (Ck N v22 v17.2.2).bind fun v23 =>
   AZ ((!v23))
    (j21 (v17.1, v17.2.1))
    (Bs (fun (v25 : Bool) =>
     Bs (fun (v29 : Bool) =>
      AZ v29
       ((D8 (v17.1.length + (([(An.mk v1.2 v10.2 v17.2.2)] : List An)).length ≤ Dv)).bind fun _ =>
       j21 (v17.1 ++ (([(An.mk v1.2 v10.2 v17.2.2)] : List An)), v25))
       (j21 (v17.1, v25)))
     fun j29 =>
     AZ ((!v4.fAware))
      ((B0 v4.fOK v10.2).bind fun v31 =>
      (B0 v31 v17.2.2).bind fun v32 =>
      j29 (!v32))
      (j29 false))
    fun j25 =>
    AZ v17.2.1
     (j25 true)
     ((B0 v4.fOK v10.2).bind fun v27 =>
     (B0 v27 v17.2.2).bind fun v28 =>
     j25 v28)))
   (j17 (v17.1, v17.2.1))
def BA (N : Nat) (p0 : Ae) (p1 : Ah) (v1 : (List An) × Int) (v4 : AF) (v6 : Int) (j10 : ((List An)) → Option ((List An))) : Nat → ((List An) × Int) → Option ((List An))
 | 0, _ => none
 | n10 + 1, v10 =>
  (B0 p0.fVersions v4.fFrom).bind fun v12 =>
  AZ ((decide (v10.2 < v12)))
   (Bs (fun (v14 : (List An)) =>
    BA N p0 p1 v1 v4 v6 j10 n10 (v14, (IntKind.wrap .i64 (v10.2 + 1))))
   fun j14 =>
   (Ck N v6 v10.2).bind fun v15 =>
   AZ ((!v15))
    (j14 v10.1)
    (Bl N p0 p1 v1 v4 v10 (fun (v18 : (List An) × Bool) =>
     Bs (fun (v35 : Bool) =>
      AZ v35
       ((D8 (v18.1.length + (([(An.mk v1.2 v10.2 ((-1)))] : List An)).length ≤ Dv)).bind fun _ =>
       j14 (v18.1 ++ (([(An.mk v1.2 v10.2 ((-1)))] : List An))))
       (j14 v18.1))
     fun j35 =>
     AZ v4.fAware
      (j35 (!v18.2))
      (j35 false)) N (v10.1, false, 0)))
   (j10 v10.1)
def Cp (N : Nat) (p0 : Ae) (p1 : Ah) (j1 : ((List An)) → Option ((List An))) : Nat → ((List An) × Int) → Option ((List An))
 | 0, _ => none
 | n1 + 1, v1 =>
  AZ ((decide (v1.2 < (p0.fTables.length : Int))))
   ((B0 p0.fTables v1.2).bind fun v4 =>
   (BB N p1 v4.fFrom).bind fun v5 =>
   Bs (fun (v6 : Int) =>
    BA N p0 p1 v1 v4 v6 (fun (v11 : (List An)) =>
     Cp N p0 p1 j1 n1 (v11, (IntKind.wrap .i64 (v1.2 + 1)))) N (v1.1, 0))
   fun j6 =>
   (A6 N v4).bind fun v7 =>
   AZ v7
    ((B0 p1.fHeld v1.2).bind fun v9 =>
    j6 v9)
    (j6 v5))
   (j1 v1.1)
def D2 (N : Nat) (p0 : Ae) (p1 : Ah) : Option ((List An)) :=
 Cp N p0 p1 (fun (v2 : (List An)) =>
  some v2) N (([] : List An), 0)
def DP (N : Nat) (p0 : Ae) (p1 : Ah) : Option Bool :=
 (D2 N p0 p1).bind fun v1 =>
 some (((v1.length : Int) == 0))
def BZ (N : Nat) (p0 : Ae) (v1 : (List Ah)) (j2 : Unit → Option Bool) : Nat → Int → Option Bool
 | 0, _ => none
 | n2 + 1, v2 =>
  AZ ((decide (v2 < (v1.length : Int))))
   ((B0 v1 v2).bind fun v5 =>
   (DP N p0 v5).bind fun v6 =>
   AZ ((!v6))
    (some false)
    (BZ N p0 v1 j2 n2 (IntKind.wrap .i64 (v2 + 1))))
   (j2 ())
def Cq (N : Nat) (p0 : Ae) (p1 : Ah) : Option Bool :=
 (DU N p1).bind fun v1 =>
 BZ N p0 v1 (fun (_ : Unit) =>
  some true) N 0
def D7 (_ : Nat) (p0 : Af) : Option Bool :=
 Bs (fun (v1 : Bool) =>
  some v1)
 fun j1 =>
 AZ ((decide (1 ≤ p0.fKind)))
  (AZ ((decide (p0.fKind ≤ 4)))
   (AZ ((decide (0 ≤ p0.fIndex)))
    (AZ ((decide (0 ≤ p0.fVersion)))
     (AZ ((p0.fKind == 1))
      (j1 true)
      (j1 (p0.fVersion == 0)))
     (j1 false))
    (j1 false))
   (j1 false))
  (j1 false)
def BT (N : Nat) (p0 : Ae) (p2 : Af) (j12 : ((List Int)) → Option (Ah × Bool)) : Nat → ((List Int) × Int) → Option (Ah × Bool)
 | 0, _ => none
 | n12 + 1, v12 =>
  AZ ((decide (v12.2 < (p0.fTables.length : Int))))
   (Bs (fun (v15 : (List Int)) =>
    BT N p0 p2 j12 n12 (v15, (IntKind.wrap .i64 (v12.2 + 1))))
   fun j15 =>
   Bs (fun (v16 : Bool) =>
    AZ v16
     ((B0 v12.1 v12.2).bind fun v22 =>
     (D8 (0 ≤ p2.fVersion)).bind fun _ =>
     (B0 v12.1 v12.2).bind fun _ =>
     j15 (v12.1.set ((v12.2).toNat) ((Lg .u8 v22 ((Dz .u8 1 p2.fVersion))))))
     (j15 v12.1))
   fun j16 =>
   (B0 p0.fTables v12.2).bind fun v17 =>
   AZ ((v17.fFrom == p2.fIndex))
    ((B0 p0.fTables v12.2).bind fun v19 =>
    (A6 N v19).bind fun v20 =>
    j16 v20)
    (j16 false))
   (j12 v12.1)
def Bz (N : Nat) (p0 : Ae) (p1 : Ah) (p2 : Af) (v32 : AF) (v35 : Int) (j38 : Unit → Option (Ah × Bool)) : Nat → Int → Option (Ah × Bool)
 | 0, _ => none
 | n38 + 1, v38 =>
  (B0 p0.fVersions v32.fFrom).bind fun v40 =>
  AZ ((decide (v38 < v40)))
   (Bs (fun (v42 : Bool) =>
    Bs (fun (v47 : Bool) =>
     AZ v47
      (some ((Ah.mk (([] : List Int)) (([] : List Int)) (([] : List Int))), false))
      (Bz N p0 p1 p2 v32 v35 j38 n38 (IntKind.wrap .i64 (v38 + 1))))
    fun j47 =>
    AZ v42
     (AZ ((v32.fKind == 4))
      ((B0 v32.fRewrite v38).bind fun v50 =>
      (B0 p1.fBase v32.fFrom).bind fun v51 =>
      (B0 v50 v51).bind fun v52 =>
      j47 (!v52))
      (j47 false))
     (j47 false))
   fun j42 =>
   (B0 p1.fHeld p2.fIndex).bind fun v43 =>
   (Ck N v43 v38).bind fun v44 =>
   AZ v44
    ((Ck N v35 v38).bind fun v46 =>
    j42 (!v46))
    (j42 false))
   (j38 ())
def Cw (N : Nat) (p0 : Ae) (p1 : Ah) (p2 : Af) : Option (Ah × Bool) :=
 (D8 ((([] : List Int)).length + p1.fBase.length ≤ Dv)).bind fun _ =>
 (D8 ((([] : List Int)).length + p1.fNext.length ≤ Dv)).bind fun _ =>
 (D8 ((([] : List Int)).length + p1.fHeld.length ≤ Dv)).bind fun _ =>
 Bs (fun (v4 : (List Int) × (List Int) × (List Int)) =>
  some ((Ah.mk v4.1 v4.2.1 v4.2.2), true))
 fun j4 =>
 AZ ((p2.fKind == 1))
  (Bs (fun (v6 : Bool) =>
   AZ v6
    (some ((Ah.mk (([] : List Int)) (([] : List Int)) (([] : List Int))), false))
    ((B0 ((([] : List Int)) ++ p1.fNext) p2.fIndex).bind fun _ =>
    BT N p0 p2 (fun (v13 : (List Int)) =>
     j4 ((([] : List Int)) ++ p1.fBase, ((([] : List Int)) ++ p1.fNext).set ((p2.fIndex).toNat) p2.fVersion, v13)) N ((([] : List Int)) ++ p1.fHeld, 0)))
  fun j6 =>
  (B0 p1.fNext p2.fIndex).bind fun v7 =>
  AZ ((decide (0 ≤ v7)))
   (j6 true)
   ((B0 p1.fBase p2.fIndex).bind fun v9 =>
   j6 (p2.fVersion == v9)))
  (AZ ((p2.fKind == 2))
   ((B0 p1.fNext p2.fIndex).bind fun v26 =>
   AZ ((decide (v26 < 0)))
    (some ((Ah.mk (([] : List Int)) (([] : List Int)) (([] : List Int))), false))
    ((B0 p1.fNext p2.fIndex).bind fun v28 =>
    (B0 ((([] : List Int)) ++ p1.fBase) p2.fIndex).bind fun _ =>
    (B0 ((([] : List Int)) ++ p1.fNext) p2.fIndex).bind fun _ =>
    j4 (((([] : List Int)) ++ p1.fBase).set ((p2.fIndex).toNat) v28, ((([] : List Int)) ++ p1.fNext).set ((p2.fIndex).toNat) ((-1)), (([] : List Int)) ++ p1.fHeld)))
   (AZ ((p2.fKind == 3))
    ((B0 p0.fTables p2.fIndex).bind fun v32 =>
    (A6 N v32).bind fun v33 =>
    AZ ((!v33))
     (some ((Ah.mk (([] : List Int)) (([] : List Int)) (([] : List Int))), false))
     ((BB N p1 v32.fFrom).bind fun v35 =>
     (B0 p1.fHeld p2.fIndex).bind fun v36 =>
     AZ ((v36 == v35))
      (some ((Ah.mk (([] : List Int)) (([] : List Int)) (([] : List Int))), false))
      (Bz N p0 p1 p2 v32 v35 (fun (_ : Unit) =>
       (B0 ((([] : List Int)) ++ p1.fHeld) p2.fIndex).bind fun _ =>
       j4 ((([] : List Int)) ++ p1.fBase, (([] : List Int)) ++ p1.fNext, ((([] : List Int)) ++ p1.fHeld).set ((p2.fIndex).toNat) v35)) N 0)))
    ((B0 p1.fNext p2.fIndex).bind fun v55 =>
    AZ ((decide (v55 < 0)))
     (some ((Ah.mk (([] : List Int)) (([] : List Int)) (([] : List Int))), false))
     ((B0 ((([] : List Int)) ++ p1.fNext) p2.fIndex).bind fun _ =>
     j4 ((([] : List Int)) ++ p1.fBase, ((([] : List Int)) ++ p1.fNext).set ((p2.fIndex).toNat) ((-1)), (([] : List Int)) ++ p1.fHeld)))))
def D3 (N : Nat) (p0 : Ae) (p1 : Ah) (p2 : Af) : Option (Ah × Int) :=
 (Cu N p0 p1).bind fun v1 =>
 AZ ((v1 != 0))
  (some ((Ah.mk (([] : List Int)) (([] : List Int)) (([] : List Int))), v1))
  ((D7 N p2).bind fun v3 =>
  AZ ((!v3))
   (some ((Ah.mk (([] : List Int)) (([] : List Int)) (([] : List Int))), 1))
   (Bs (fun (v5 : Bool) =>
    AZ v5
     (some ((Ah.mk (([] : List Int)) (([] : List Int)) (([] : List Int))), 4))
     (Bs (fun (v11 : Bool) =>
      AZ v11
       (some ((Ah.mk (([] : List Int)) (([] : List Int)) (([] : List Int))), 4))
       ((Cw N p0 p1 p2).bind fun v15 =>
       AZ ((!v15.2))
        (some ((Ah.mk (([] : List Int)) (([] : List Int)) (([] : List Int))), 11))
        (some (v15.1, 0))))
     fun j11 =>
     AZ ((p2.fKind == 1))
      ((B0 p0.fVersions p2.fIndex).bind fun v13 =>
      j11 (decide (v13 ≤ p2.fVersion)))
      (j11 false)))
   fun j5 =>
   AZ ((p2.fKind == 3))
    (AZ ((decide ((p0.fTables.length : Int) ≤ p2.fIndex)))
     (j5 true)
     (AZ ((p2.fKind != 3))
      (j5 (decide ((p0.fVersions.length : Int) ≤ p2.fIndex)))
      (j5 false)))
    (AZ ((p2.fKind != 3))
     (j5 (decide ((p0.fVersions.length : Int) ≤ p2.fIndex)))
     (j5 false))))
def B2 (N : Nat) (p0 : Ae) (p1 : Ah) (v1 : (List Af) × Int) (v4 : (List Af) × Int) (j7 : ((List Af)) → Option ((List Af))) : Nat → ((List Af) × Int) → Option ((List Af))
 | 0, _ => none
 | n7 + 1, v7 =>
  AZ ((decide (v7.2 < 6)))
   (Bs (fun (v10 : (List Af)) =>
    B2 N p0 p1 v1 v4 j7 n7 (v10, (IntKind.wrap .i64 (v7.2 + 1))))
   fun j10 =>
   (D3 N p0 p1 ((Af.mk v1.2 v4.2 v7.2))).bind fun v11 =>
   AZ ((v11.2 == 0))
    ((D8 (v7.1.length + (([(Af.mk v1.2 v4.2 v7.2)] : List Af)).length ≤ Dv)).bind fun _ =>
    j10 (v7.1 ++ (([(Af.mk v1.2 v4.2 v7.2)] : List Af))))
    (j10 v7.1))
   (j7 v7.1)
def B3 (N : Nat) (p0 : Ae) (p1 : Ah) (v1 : (List Af) × Int) (j4 : ((List Af)) → Option ((List Af))) : Nat → ((List Af) × Int) → Option ((List Af))
 | 0, _ => none
 | n4 + 1, v4 =>
  AZ ((decide (v4.2 < (RE ((p0.fVersions.length : Int)) ((p0.fTables.length : Int))))))
   (B2 N p0 p1 v1 v4 (fun (v8 : (List Af)) =>
    B3 N p0 p1 v1 j4 n4 (v8, (IntKind.wrap .i64 (v4.2 + 1)))) N (v4.1, 0))
   (j4 v4.1)
def Bt (N : Nat) (p0 : Ae) (p1 : Ah) (j1 : ((List Af)) → Option ((List Af))) : Nat → ((List Af) × Int) → Option ((List Af))
 | 0, _ => none
 | n1 + 1, v1 =>
  AZ ((decide (v1.2 ≤ 3)))
   (B3 N p0 p1 v1 (fun (v5 : (List Af)) =>
    Bt N p0 p1 j1 n1 (v5, (IntKind.wrap .i64 (v1.2 + 1)))) N (v1.1, 0))
   (j1 v1.1)
def DX (N : Nat) (p0 : Ae) (p1 : Ah) : Option ((List Af)) :=
 Bt N p0 p1 (fun (v2 : (List Af)) =>
  some v2) N (([] : List Af), 1)
def CV (N : Nat) (p0 : List Int) (p1 : List Int) (j1 : Unit → Option Int) : Nat → Int → Option Int
 | 0, _ => none
 | n1 + 1, v1 =>
  Bs (fun (v3 : Bool) =>
   AZ v3
    ((B0 p0 v1).bind fun v6 =>
    (B0 p1 v1).bind fun v7 =>
    AZ ((decide (v6 < v7)))
     (some ((-1)))
     ((B0 p0 v1).bind fun v9 =>
     (B0 p1 v1).bind fun v10 =>
     AZ ((decide (v10 < v9)))
      (some 1)
      (CV N p0 p1 j1 n1 (IntKind.wrap .i64 (v1 + 1)))))
    (j1 ()))
  fun j3 =>
  AZ ((decide (v1 < (p0.length : Int))))
   (j3 (decide (v1 < (p1.length : Int))))
   (j3 false)
def CY (N : Nat) (p0 : List Int) (p1 : List Int) : Option Int :=
 CV N p0 p1 (fun (_ : Unit) =>
  AZ ((decide ((p0.length : Int) < (p1.length : Int))))
   (some ((-1)))
   (AZ ((decide ((p1.length : Int) < (p0.length : Int))))
    (some 1)
    (some 0))) N 0
def Cx (N : Nat) (p0 : List Int) (j1 : ((List Int)) → Option ((List Int))) : Nat → ((List Int) × Int) → Option ((List Int))
 | 0, _ => none
 | n1 + 1, v1 =>
  AZ ((decide (v1.2 < (p0.length : Int))))
   ((B0 p0 v1.2).bind fun v4 =>
   (D8 (v1.1.length + (([(IntKind.wrap .i64 v4)] : List Int)).length ≤ Dv)).bind fun _ =>
   Cx N p0 j1 n1 (v1.1 ++ (([(IntKind.wrap .i64 v4)] : List Int)), (IntKind.wrap .i64 (v1.2 + 1))))
   (j1 v1.1)
def CW (N : Nat) (p0 : List Int) : Option ((List Int)) :=
 Cx N p0 (fun (v2 : (List Int)) =>
  some v2) N (([] : List Int), 0)
def Dx (N : Nat) (p0 : Ah) (p1 : Ah) : Option Int :=
 (CY N p0.fBase p1.fBase).bind fun v1 =>
 AZ ((v1 != 0))
  (some v1)
  ((CY N p0.fNext p1.fNext).bind fun v3 =>
  AZ ((v3 != 0))
   (some v3)
   ((CW N p0.fHeld).bind fun v5 =>
   (CW N p1.fHeld).bind fun v6 =>
   (CY N v5 v6).bind fun v7 =>
   some v7))
def D6 (N : Nat) (p0 : Ah) (p1 : Ah) : Option Bool :=
 (Dx N p0 p1).bind fun v1 =>
 some ((v1 == 0))
def Cg (N : Nat) (p0 : List AA) (p1 : Ah) (j1 : Unit → Option Int) : Nat → Int → Option Int
 | 0, _ => none
 | n1 + 1, v1 =>
  AZ ((decide (v1 < (p0.length : Int))))
   ((B0 p0 v1).bind fun v4 =>
   (D6 N ((Ah.mk v4.fMix.fBase v4.fMix.fNext v4.fMix.fHeld)) p1).bind fun v5 =>
   AZ v5
    (some v1)
    (Cg N p0 p1 j1 n1 (IntKind.wrap .i64 (v1 + 1))))
   (j1 ())
def DF (N : Nat) (p0 : List AA) (p1 : Ah) : Option Int :=
 Cg N p0 p1 (fun (_ : Unit) =>
  some ((-1))) N 0
def BL (N : Nat) (p0 : Ae) (p2 : Int) (v1 : (List AA) × Int) (v5 : (List Af)) (j6 : ((List AA)) → Option ((List AA) × Bool)) : Nat → ((List AA) × Int) → Option ((List AA) × Bool)
 | 0, _ => none
 | n6 + 1, v6 =>
  AZ ((decide (v6.2 < (v5.length : Int))))
   ((B0 v6.1 v1.2).bind fun v9 =>
   (B0 v5 v6.2).bind fun v10 =>
   (Cw N p0 ((Ah.mk v9.fMix.fBase v9.fMix.fNext v9.fMix.fHeld)) v10).bind fun v11 =>
   Bs (fun (v12 : (List AA)) =>
    AZ ((decide (p2 < (v12.length : Int))))
     (some (([] : List AA), false))
     (BL N p0 p2 v1 v5 j6 n6 (v12, (IntKind.wrap .i64 (v6.2 + 1)))))
   fun j12 =>
   Bs (fun (v13 : Bool) =>
    AZ v13
     ((B0 v5 v6.2).bind fun v18 =>
     (D8 (v6.1.length + (([(AA.mk v11.1 v1.2 v18)] : List AA)).length ≤ Dv)).bind fun _ =>
     j12 (v6.1 ++ (([(AA.mk v11.1 v1.2 v18)] : List AA))))
     (j12 v6.1))
   fun j13 =>
   (Cq N p0 v11.1).bind fun v14 =>
   AZ v14
    ((DF N v6.1 v11.1).bind fun v16 =>
    j13 (decide (v16 < 0)))
    (j13 false))
   (j6 v6.1)
def BK (N : Nat) (p0 : Ae) (p2 : Int) (j1 : ((List AA)) → Option ((List AA) × Bool)) : Nat → ((List AA) × Int) → Option ((List AA) × Bool)
 | 0, _ => none
 | n1 + 1, v1 =>
  AZ ((decide (v1.2 < (v1.1.length : Int))))
   ((B0 v1.1 v1.2).bind fun v4 =>
   (DX N p0 ((Ah.mk v4.fMix.fBase v4.fMix.fNext v4.fMix.fHeld))).bind fun v5 =>
   BL N p0 p2 v1 v5 (fun (v7 : (List AA)) =>
    BK N p0 p2 j1 n1 (v7, (IntKind.wrap .i64 (v1.2 + 1)))) N (v1.1, 0))
   (j1 v1.1)
def Cs (N : Nat) (p0 : Ae) (p1 : Ah) (p2 : Int) : Option ((List AA) × Bool) :=
 BK N p0 p2 (fun (v2 : (List AA)) =>
  some (v2, true)) N (([(AA.mk p1 ((-1)) ((Af.mk 0 0 0)))] : List AA), 0)
def CA (N : Nat) (p0 : Ae) (p1 : Ah) (j3 : Unit → Option Bool) : Nat → Int → Option Bool
 | 0, _ => none
 | n3 + 1, v3 =>
  AZ ((decide (v3 < (p1.fBase.length : Int))))
   (Bs (fun (v6 : Bool) =>
    AZ v6
     (some false)
     (CA N p0 p1 j3 n3 (IntKind.wrap .i64 (v3 + 1))))
   fun j6 =>
   (B0 p1.fNext v3).bind fun v7 =>
   AZ ((decide (0 ≤ v7)))
    (j6 true)
    ((B0 p1.fBase v3).bind fun v9 =>
    (B0 p0.fTarget v3).bind fun v10 =>
    j6 (v9 != v10)))
   (j3 ())
def Ek (N : Nat) (p0 : Ae) (p1 : Ah) : Option Bool :=
 (Cu N p0 p1).bind fun v1 =>
 AZ ((v1 != 0))
  (some false)
  (CA N p0 p1 (fun (_ : Unit) =>
   some true) N 0)
def C8 (N : Nat) (p0 : List AA) (j1 : ((List Af)) → Option ((List Af))) : Nat → (Int × (List Af)) → Option ((List Af))
 | 0, _ => none
 | n1 + 1, v1 =>
  (B0 p0 v1.1).bind fun v3 =>
  AZ ((decide (0 ≤ v3.fBefore)))
   ((B0 p0 v1.1).bind fun v5 =>
   (D8 ((([(Af.mk v5.fBy.fKind v5.fBy.fIndex v5.fBy.fVersion)] : List Af)).length + v1.2.length ≤ Dv)).bind fun _ =>
   (B0 p0 v1.1).bind fun v7 =>
   C8 N p0 j1 n1 (v7.fBefore, (([(Af.mk v5.fBy.fKind v5.fBy.fIndex v5.fBy.fVersion)] : List Af)) ++ v1.2))
   (j1 v1.2)
def E7 (N : Nat) (p0 : List AA) (p1 : Int) : Option ((List Af)) :=
 C8 N p0 (fun (v2 : (List Af)) =>
  some v2) N (p1, ([] : List Af))
def B9 (N : Nat) (p0 : Ae) (v5 : (List AA) × Bool) (j7 : Unit → Option ((List Af) × Int)) : Nat → Int → Option ((List Af) × Int)
 | 0, _ => none
 | n7 + 1, v7 =>
  AZ ((decide (v7 < (v5.1.length : Int))))
   ((B0 v5.1 v7).bind fun v10 =>
   (Ek N p0 ((Ah.mk v10.fMix.fBase v10.fMix.fNext v10.fMix.fHeld))).bind fun v11 =>
   AZ v11
    ((E7 N v5.1 v7).bind fun v13 =>
    some (v13, 0))
    (B9 N p0 v5 j7 n7 (IntKind.wrap .i64 (v7 + 1))))
   (j7 ())
def CG (N : Nat) (p0 : Ae) (p1 : Ah) : Option ((List Af) × Int) :=
 (Cu N p0 p1).bind fun v1 =>
 AZ ((v1 != 0))
  (some (([] : List Af), v1))
  ((Cq N p0 p1).bind fun v3 =>
  AZ ((!v3))
   (some (([] : List Af), 13))
   ((Cs N p0 p1 20000).bind fun v5 =>
   AZ ((!v5.2))
    (some (([] : List Af), 3))
    (B9 N p0 v5 (fun (_ : Unit) =>
     some (([] : List Af), 14)) N 0)))
def Dl (N : Nat) (p0 : B8) (p1 : BJ) : Option Bool :=
 (D9 N p0).bind fun v1 =>
 Bs (fun (v2 : Bool) =>
  AZ v2
   ((DY N).bind fun v6 =>
   some v6)
   ((Eb N v1.1 p1).bind fun v7 =>
   Bs (fun (v8 : (List Int) × (List Int) × (List Int) × (List AF) × (List Int) × (List Int) × (List Int)) =>
    (El N ((Ae.mk v8.1 v8.2.1 v8.2.2.1 v8.2.2.2.1)) ((Ah.mk v8.2.2.2.2.1 v8.2.2.2.2.2.1 v8.2.2.2.2.2.2))).bind fun v16 =>
    (CG N ((Ae.mk v8.1 v8.2.1 v8.2.2.1 v8.2.2.2.1)) ((Ah.mk v8.2.2.2.2.1 v8.2.2.2.2.2.1 v8.2.2.2.2.2.2))).bind fun v17 =>
    Bs (fun (v18 : Bool) =>
     some v18)
    fun j18 =>
    AZ ((v16.2 == v17.2))
     ((DE N v16.1 v17.1).bind fun v20 =>
     j18 v20)
     (j18 false))
   fun j8 =>
   Bs (fun (v9 : Bool) =>
    AZ v9
     ((Cs N v1.1 v7 120).bind fun v14 =>
     AZ ((!v14.2))
      (some true)
      (j8 (v1.1.fVersions, v1.1.fNow, v1.1.fTarget, v1.1.fTables, v7.fBase, v7.fNext, v7.fHeld)))
     (j8 (v1.1.fVersions, v1.1.fNow, v1.1.fTarget, v1.1.fTables, v7.fBase, v7.fNext, v7.fHeld)))
   fun j9 =>
   (Cu N v1.1 v7).bind fun v10 =>
   AZ ((v10 == 0))
    ((Cq N v1.1 v7).bind fun v12 =>
    j9 v12)
    (j9 false)))
 fun j2 =>
 (DY N).bind fun v3 =>
 AZ ((!v3))
  (j2 true)
  (j2 (!v1.2))
def KA {α : Type} (w : α → Prop) (xs : List α) : Prop := ∀ x, x ∈ xs → w x
def IT (n : Int) : Prop := (Lit.int .u8 n).wf = true
def U3 (n : Int) : Prop := (Lit.int .u16 n).wf = true
def GJ (x : G8) : Prop := IT x.fKind ∧ IT x.fFrom ∧ IT x.fTo ∧ (fun _ => True) x.fAware ∧ U3 x.fBad ∧ U3 x.fLost ∧ True
def EB (x : B8) : Prop := (KA IT) x.fVersions ∧ (KA IT) x.fNow ∧ (KA IT) x.fTarget ∧ (KA GJ) x.fLinks ∧ True
def ED (x : BJ) : Prop := (KA IT) x.fBase ∧ (KA IT) x.fNext ∧ (KA IT) x.fHeld ∧ True
end Go.Lift

/- That the code does what the shallow programs do, function by function. Written by a program (gen.py). -/
namespace Go.Lift
open Go.RowKit
open Go.Proofs
theorem Ad : Try.prog.follows .mixedOrders = true := by kernel_rfl
theorem WO : Ev Try.prog 101 true = true := by kernel_rfl
theorem O8 : Ev Try.prog 22 false = true := by kernel_rfl
theorem Vp : Ev Try.prog 23 false = true := by kernel_rfl
theorem Xh : Ev Try.prog 25 true = true := by kernel_rfl
theorem A9 : Ev Try.prog 27 false = true := by kernel_rfl
theorem Gw : Ev Try.prog 28 false = true := by kernel_rfl
theorem B7 : Ev Try.prog 3 false = true := by kernel_rfl
theorem DM : Ev Try.prog 30 true = true := by kernel_rfl
theorem Rj : Ev Try.prog 4 false = true := by kernel_rfl
theorem Gd : Ev Try.prog 41 false = true := by kernel_rfl
theorem Bq : Ev Try.prog 43 true = true := by kernel_rfl
theorem Lq : Ev Try.prog 45 true = true := by kernel_rfl
theorem VV : Ev Try.prog 5 false = true := by kernel_rfl
theorem Xs : Ev Try.prog 51 true = true := by kernel_rfl
theorem GB : Ev Try.prog 63 true = true := by kernel_rfl
theorem IZ : Ev Try.prog 73 false = true := by kernel_rfl
theorem Gf : Ev Try.prog 75 true = true := by kernel_rfl
theorem Ou : Ev Try.prog 76 false = true := by kernel_rfl
theorem WB : Ev Try.prog 82 false = true := by kernel_rfl
theorem X3 : Ev Try.prog 84 true = true := by kernel_rfl
theorem Jz : Ev Try.prog 87 false = true := by kernel_rfl
theorem Wy : Oh Try.prog 22 = true := by kernel_rfl
theorem U5 : EU Try.prog 101 128 = true := by kernel_rfl
theorem KP : EU Try.prog 3 8 = true := by kernel_rfl
theorem U6 : EU Try.prog 4 1 = true := by kernel_rfl
theorem UM : EU Try.prog 43 72 = true := by kernel_rfl
theorem Ra : EU Try.prog 45 24 = true := by kernel_rfl
theorem Vh : EU Try.prog 5 1 = true := by kernel_rfl
theorem N4 : EU Try.prog 63 24 = true := by kernel_rfl
theorem Wl : EU Try.prog 75 80 = true := by kernel_rfl
theorem WA : EU Try.prog 76 24 = true := by kernel_rfl
theorem PR : EU Try.prog 87 1 = true := by kernel_rfl
theorem WE : EU Try.prog 92 104 = true := by kernel_rfl
theorem ME : Ca Try.prog 101 0 0 = true := by kernel_rfl
theorem PJ : Ca Try.prog 101 1 3 = true := by kernel_rfl
theorem SV : Ca Try.prog 101 2 4 = true := by kernel_rfl
theorem P0 : Ca Try.prog 101 3 7 = true := by kernel_rfl
theorem N8 : Ca Try.prog 25 0 0 = true := by kernel_rfl
theorem TM : Ca Try.prog 25 1 1 = true := by kernel_rfl
theorem Uj : Ca Try.prog 25 2 2 = true := by kernel_rfl
theorem Ok : Ca Try.prog 25 3 3 = true := by kernel_rfl
theorem Bn : Ca Try.prog 30 0 0 = true := by kernel_rfl
theorem GQ : Ca Try.prog 30 1 1 = true := by kernel_rfl
theorem Hf : Ca Try.prog 30 2 2 = true := by kernel_rfl
theorem CH : Ca Try.prog 30 3 3 = true := by kernel_rfl
theorem Cy : Ca Try.prog 43 0 0 = true := by kernel_rfl
theorem By : Ca Try.prog 43 1 1 = true := by kernel_rfl
theorem Cz : Ca Try.prog 43 2 2 = true := by kernel_rfl
theorem TF : Ca Try.prog 51 0 0 = true := by kernel_rfl
theorem Tu : Ca Try.prog 51 1 1 = true := by kernel_rfl
theorem Uv : Ca Try.prog 51 2 2 = true := by kernel_rfl
theorem EO : Ca Try.prog 63 0 0 = true := by kernel_rfl
theorem Ex : Ca Try.prog 63 1 1 = true := by kernel_rfl
theorem FW : Ca Try.prog 63 2 2 = true := by kernel_rfl
theorem Fm : Ca Try.prog 75 0 0 = true := by kernel_rfl
theorem CQ : Ca Try.prog 75 1 1 = true := by kernel_rfl
theorem Hl : Ca Try.prog 75 2 2 = true := by kernel_rfl
theorem H7 : Ca Try.prog 75 3 3 = true := by kernel_rfl
theorem IJ : Ca Try.prog 75 4 4 = true := by kernel_rfl
theorem FU : Ca Try.prog 75 5 5 = true := by kernel_rfl
theorem Uf : Ca Try.prog 84 0 0 = true := by kernel_rfl
theorem TC : Ca Try.prog 84 1 1 = true := by kernel_rfl
theorem TX : Ca Try.prog 84 2 2 = true := by kernel_rfl
theorem TG : Ca Try.prog 84 3 3 = true := by kernel_rfl
theorem Ux : Ca Try.prog 84 4 4 = true := by kernel_rfl
theorem Up : Ca Try.prog 84 5 5 = true := by kernel_rfl
theorem L5 : Ca Try.prog 92 0 0 = true := by kernel_rfl
theorem Rl : Ca Try.prog 92 1 3 = true := by kernel_rfl
theorem TS : Ca Try.prog 92 2 4 = true := by kernel_rfl
theorem W4 : AQ Try.prog 100 = true := by kernel_rfl
theorem VW : AQ Try.prog 101 = true := by kernel_rfl
theorem UG : AQ Try.prog 102 = true := by kernel_rfl
theorem V2 : AQ Try.prog 103 = true := by kernel_rfl
theorem W7 : AQ Try.prog 104 = true := by kernel_rfl
theorem Wm : AQ Try.prog 105 = true := by kernel_rfl
theorem W5 : AQ Try.prog 106 = true := by kernel_rfl
theorem UQ : AQ Try.prog 107 = true := by kernel_rfl
theorem Ws : AQ Try.prog 11 = true := by kernel_rfl
theorem W3 : AQ Try.prog 110 = true := by kernel_rfl
theorem WI : AQ Try.prog 111 = true := by kernel_rfl
theorem WT : AQ Try.prog 112 = true := by kernel_rfl
theorem We : AQ Try.prog 113 = true := by kernel_rfl
theorem WV : AQ Try.prog 114 = true := by kernel_rfl
theorem Wq : AQ Try.prog 115 = true := by kernel_rfl
theorem WQ : AQ Try.prog 116 = true := by kernel_rfl
theorem UC : AQ Try.prog 119 = true := by kernel_rfl
theorem WY : AQ Try.prog 120 = true := by kernel_rfl
theorem VY : AQ Try.prog 121 = true := by kernel_rfl
theorem W2 : AQ Try.prog 122 = true := by kernel_rfl
theorem Wp : AQ Try.prog 123 = true := by kernel_rfl
theorem Vu : AQ Try.prog 13 = true := by kernel_rfl
theorem Wj : AQ Try.prog 15 = true := by kernel_rfl
theorem XA : AQ Try.prog 16 = true := by kernel_rfl
theorem W0 : AQ Try.prog 19 = true := by kernel_rfl
theorem XJ : AQ Try.prog 21 = true := by kernel_rfl
theorem X0 : AQ Try.prog 22 = true := by kernel_rfl
theorem XE : AQ Try.prog 23 = true := by kernel_rfl
theorem TO : AQ Try.prog 24 = true := by kernel_rfl
theorem Vv : AQ Try.prog 25 = true := by kernel_rfl
theorem V7 : AQ Try.prog 26 = true := by kernel_rfl
theorem WW : AQ Try.prog 27 = true := by kernel_rfl
theorem XD : AQ Try.prog 28 = true := by kernel_rfl
theorem WS : AQ Try.prog 30 = true := by kernel_rfl
theorem XS : AQ Try.prog 33 = true := by kernel_rfl
theorem Te : AQ Try.prog 35 = true := by kernel_rfl
theorem WN : AQ Try.prog 37 = true := by kernel_rfl
theorem Va : AQ Try.prog 38 = true := by kernel_rfl
theorem W6 : AQ Try.prog 39 = true := by kernel_rfl
theorem WK : AQ Try.prog 40 = true := by kernel_rfl
theorem Xm : AQ Try.prog 41 = true := by kernel_rfl
theorem Xr : AQ Try.prog 43 = true := by kernel_rfl
theorem XQ : AQ Try.prog 44 = true := by kernel_rfl
theorem WU : AQ Try.prog 45 = true := by kernel_rfl
theorem Ov : AQ Try.prog 46 = true := by kernel_rfl
theorem WF : AQ Try.prog 47 = true := by kernel_rfl
theorem VN : AQ Try.prog 48 = true := by kernel_rfl
theorem Rs : AQ Try.prog 49 = true := by kernel_rfl
theorem XT : AQ Try.prog 50 = true := by kernel_rfl
theorem Xt : AQ Try.prog 51 = true := by kernel_rfl
theorem Xj : AQ Try.prog 52 = true := by kernel_rfl
theorem XI : AQ Try.prog 53 = true := by kernel_rfl
theorem WH : AQ Try.prog 54 = true := by kernel_rfl
theorem XK : AQ Try.prog 55 = true := by kernel_rfl
theorem Xx : AQ Try.prog 56 = true := by kernel_rfl
theorem Xz : AQ Try.prog 57 = true := by kernel_rfl
theorem Xq : AQ Try.prog 58 = true := by kernel_rfl
theorem Xf : AQ Try.prog 59 = true := by kernel_rfl
theorem Tq : AQ Try.prog 60 = true := by kernel_rfl
theorem Wc : AQ Try.prog 61 = true := by kernel_rfl
theorem XC : AQ Try.prog 64 = true := by kernel_rfl
theorem Xy : AQ Try.prog 65 = true := by kernel_rfl
theorem X2 : AQ Try.prog 66 = true := by kernel_rfl
theorem Sl : AQ Try.prog 72 = true := by kernel_rfl
theorem Xi : AQ Try.prog 73 = true := by kernel_rfl
theorem Vg : AQ Try.prog 74 = true := by kernel_rfl
theorem Xw : AQ Try.prog 75 = true := by kernel_rfl
theorem XP : AQ Try.prog 76 = true := by kernel_rfl
theorem TB : AQ Try.prog 77 = true := by kernel_rfl
theorem XF : AQ Try.prog 78 = true := by kernel_rfl
theorem Xu : AQ Try.prog 79 = true := by kernel_rfl
theorem XR : AQ Try.prog 80 = true := by kernel_rfl
theorem XW : AQ Try.prog 82 = true := by kernel_rfl
theorem Vl : AQ Try.prog 83 = true := by kernel_rfl
theorem Wr : AQ Try.prog 84 = true := by kernel_rfl
theorem Xe : AQ Try.prog 85 = true := by kernel_rfl
theorem VX : AQ Try.prog 86 = true := by kernel_rfl
theorem XG : AQ Try.prog 87 = true := by kernel_rfl
theorem X5 : AQ Try.prog 88 = true := by kernel_rfl
theorem Uq : AQ Try.prog 89 = true := by kernel_rfl
theorem Xo : AQ Try.prog 90 = true := by kernel_rfl
theorem WX : AQ Try.prog 91 = true := by kernel_rfl
theorem XU : AQ Try.prog 92 = true := by kernel_rfl
theorem XV : AQ Try.prog 93 = true := by kernel_rfl
theorem Xn : AQ Try.prog 97 = true := by kernel_rfl
theorem WJ : AQ Try.prog 98 = true := by kernel_rfl
theorem Vf : AQ Try.prog 99 = true := by kernel_rfl
theorem QN : Mv Try.prog 133 .u64 = true := by kernel_rfl
theorem Q5 : Mv Try.prog 143 .u32 = true := by kernel_rfl
theorem UJ : Mv Try.prog 146 .u64 = true := by kernel_rfl
theorem T8 : Mv Try.prog 3 .i64 = true := by kernel_rfl
theorem X6 : Mv Try.prog 5 .u8 = true := by kernel_rfl
theorem XH : Mv Try.prog 87 .u8 = true := by kernel_rfl
theorem Vx : Try.prog.underlying 9 = some .string := by kernel_rfl
theorem Oe : Try.prog.underlying 125 = some (.map 9 3) := by kernel_rfl
theorem UL : GR Try.prog 101 = some [(0, 3), (3, 1), (4, 3), (7, 1)] := by kernel_rfl
theorem Wz : GR Try.prog 30 = some [(0, 1), (1, 1), (2, 1), (3, 1)] := by kernel_rfl
theorem GG : GR Try.prog 43 = some [(0, 1), (1, 1), (2, 1)] := by kernel_rfl
theorem Mc : GR Try.prog 45 = some [(0, 1), (1, 1), (2, 1)] := by kernel_rfl
theorem OV : GR Try.prog 63 = some [(0, 1), (1, 1), (2, 1)] := by kernel_rfl
theorem WZ : GR Try.prog 75 = some [(0, 1), (1, 1), (2, 1), (3, 1), (4, 1), (5, 1)] := by kernel_rfl
theorem V5 : GR Try.prog 92 = some [(0, 3), (3, 1), (4, 3)] := by kernel_rfl
theorem V1 : RA Try.prog 45 = some [0, 0, 0] := by kernel_rfl
theorem WL : RA Try.prog 63 = some [0, 0, 0] := by kernel_rfl
theorem FZ : sliceB Try.prog 118 45 = true := by kernel_rfl
theorem HW : sliceB Try.prog 22 5 = true := by kernel_rfl
theorem SZ : sliceB Try.prog 23 84 = true := by kernel_rfl
theorem AE : sliceB Try.prog 27 3 = true := by kernel_rfl
theorem DV : sliceB Try.prog 28 75 = true := by kernel_rfl
theorem CU : sliceB Try.prog 33 63 = true := by kernel_rfl
theorem Dm : sliceB Try.prog 41 87 = true := by kernel_rfl
theorem HI : sliceB Try.prog 55 92 = true := by kernel_rfl
theorem FF : sliceB Try.prog 73 76 = true := by kernel_rfl
theorem FN : sliceB Try.prog 76 4 = true := by kernel_rfl
theorem JY : sliceB Try.prog 89 43 = true := by kernel_rfl
theorem Hb : sliceB Try.prog 96 101 = true := by kernel_rfl
theorem Td : (Try.prog.underlying 133).isSome = true := by kernel_rfl
theorem QM : (Try.prog.underlying 143).isSome = true := by kernel_rfl
theorem UI : (Try.prog.underlying 146).isSome = true := by kernel_rfl
theorem VZ : (Try.prog.underlying 3).isSome = true := by kernel_rfl
theorem Vr : (Try.prog.underlying 5).isSome = true := by kernel_rfl
theorem XO : (Try.prog.underlying 87).isSome = true := by kernel_rfl
theorem WR : N7 Try.prog 9 = true := by kernel_rfl
theorem IR : Gr Try.prog 101 8 = true := by kernel_rfl
theorem XZ : Gr Try.prog 25 4 = true := by kernel_rfl
theorem Rr : Gr Try.prog 27 1 = true := by kernel_rfl
theorem X1 : Gr Try.prog 28 1 = true := by kernel_rfl
theorem C7 : Gr Try.prog 3 1 = true := by kernel_rfl
theorem Dw : Gr Try.prog 30 4 = true := by kernel_rfl
theorem Pc : Gr Try.prog 4 1 = true := by kernel_rfl
theorem Xg : Gr Try.prog 41 1 = true := by kernel_rfl
theorem AT : Gr Try.prog 43 3 = true := by kernel_rfl
theorem Fo : Gr Try.prog 45 3 = true := by kernel_rfl
theorem UO : Gr Try.prog 5 1 = true := by kernel_rfl
theorem XY : Gr Try.prog 51 3 = true := by kernel_rfl
theorem Dj : Gr Try.prog 63 3 = true := by kernel_rfl
theorem W1 : Gr Try.prog 73 1 = true := by kernel_rfl
theorem DJ : Gr Try.prog 75 6 = true := by kernel_rfl
theorem LW : Gr Try.prog 76 1 = true := by kernel_rfl
theorem Vd : Gr Try.prog 84 6 = true := by kernel_rfl
theorem Fn : Gr Try.prog 87 1 = true := by kernel_rfl
theorem Ni : Gr Try.prog 92 7 = true := by kernel_rfl
theorem O1 : Ec Try.prog 101 = some (.agg #[.slice none 0 0, .slice none 0 0, .slice none 0 0, .int .i64 0, .int .i64 0, .int .i64 0, .int .i64 0, .slice none 0 0]) := by kernel_rfl
theorem J5 : Ec Try.prog 3 = some (.int .i64 0) := by kernel_rfl
theorem Rz : Ec Try.prog 30 = some (.agg #[.slice none 0 0, .slice none 0 0, .slice none 0 0, .slice none 0 0]) := by kernel_rfl
theorem U1 : Ec Try.prog 4 = some (.bool false) := by kernel_rfl
theorem Di : Ec Try.prog 43 = some (.agg #[.slice none 0 0, .slice none 0 0, .slice none 0 0]) := by kernel_rfl
theorem GZ : Ec Try.prog 45 = some (.agg #[.int .i64 0, .int .i64 0, .int .i64 0]) := by kernel_rfl
theorem WD : Ec Try.prog 5 = some (.int .u8 0) := by kernel_rfl
theorem Gx : Ec Try.prog 63 = some (.agg #[.int .i64 0, .int .i64 0, .int .i64 0]) := by kernel_rfl
theorem Jd : Ec Try.prog 75 = some (.agg #[.int .i64 0, .int .i64 0, .int .i64 0, .bool false, .slice none 0 0, .slice none 0 0]) := by kernel_rfl
theorem VD : Ec Try.prog 76 = some (.slice none 0 0) := by kernel_rfl
theorem Xl : Ec Try.prog 84 = some (.agg #[.int .u8 0, .int .u8 0, .int .u8 0, .bool false, .int .u16 0, .int .u16 0]) := by kernel_rfl
theorem OJ : Ec Try.prog 87 = some (.int .u8 0) := by kernel_rfl
theorem R8 : Ec Try.prog 92 = some (.agg #[.slice none 0 0, .slice none 0 0, .slice none 0 0, .int .i64 0, .int .i64 0, .int .i64 0, .int .i64 0]) := by kernel_rfl
end Go.Lift

/- That the code does what the shallow programs do, function by function. Written by a program (gen.py). -/
namespace Go.Lift
open Go.RowKit
open Go.Proofs
set_option maxRecDepth 10000 in
theorem HN (N : Nat) (p0 : List Int) (p1 : Int) (r : Int) (h : DD N p0 p1 = some r) : AB Try.prog 45 [.e (.one (.pure (.sl (p0.map A3)))), .e (.one (.pure (.val (.int .i64 p1))))] [] (.e (.one (.pure (.val (.int .i64 r))))) := by
 unfold DD at h
 refine Aq (n := 14) (rs := [.tmp 4]) Try.func45 rfl rfl rfl (BM rfl) (BM rfl) rfl fun w0 S0 => ?_
 refine Ab (Aa Ad rfl (qa rfl (Ac (Ab (Ab (Aa Ad rfl (qm rfl (qm rfl (AS HW rfl (A8 rfl (Ac ?_)))))))))))
 refine As rfl (fun c1 => ?_) (fun c1 => ?_)
 ·have h := Ao c1 h
  refine Ab (Aa Ad rfl (qm rfl (qm rfl ?_)))
  obtain ⟨v2, a2, b2, h⟩ := Am h
  refine qi HW UO a2 (Aj b2) rfl (qk VV rfl (HT Vr T8 rfl (qa rfl (Ac ?_))))
  obtain rfl := sj h
  refine Al (sm [] [(4, .e (.one (.pure (.val (.int .i64 ((IntKind.wrap .i64 v2)))))))] [] rfl rfl) (AC ?_)
  exact ⟨⟨[_], ⟨.tmp _ _ rfl, trivial⟩, rfl⟩, trivial⟩
 ·have h := Ap c1 h
  refine Au (Ab (Aa Ad rfl (qa rfl (Ac ?_))))
  obtain rfl := sj h
  refine Al (sm [] [(4, .e (.one (.pure (.val (.int .i64 0)))))] [] rfl rfl) (AC ?_)
  exact ⟨⟨[_], ⟨.tmp _ _ rfl, trivial⟩, rfl⟩, trivial⟩
set_option maxRecDepth 10000 in
theorem Cc (N : Nat) (p0 : AF) (r : Bool) (h : A6 N p0 = some r) : AB Try.prog 46 [.e (.agg [.pure (.val (.int .i64 p0.fKind)), .pure (.val (.int .i64 p0.fFrom)), .pure (.val (.int .i64 p0.fTo)), .pure (.val (.bool p0.fAware)), .pure (.sl (p0.fOK.map (Ep eB))), .pure (.sl (p0.fRewrite.map (Ep eB)))])] [] (.e (.one (.pure (.val (.bool r))))) := by
 unfold A6 at h
 refine Aq (n := 11) (rs := [.tmp 2]) Try.func46 rfl rfl rfl (BM rfl) (BM rfl) rfl fun w0 S0 => ?_
 refine Ab (Aa Ad rfl (qb rfl (qa rfl (Ac ?_))))
 refine AW h (fun v1 => mk [(2, .e (.one (.pure (.val (.bool v1)))))] []) (fun j1 h => ?_) (fun v1 h => ?_)
 ·refine Aa Ad rfl (qf Fm rfl (ql B7 rfl (B4 rfl (qm rfl ?_))))
  refine AI (t := 6) rfl (fun c2 => ?_) (fun c2 => ?_)
  ·have h := Ao c2 h
   refine qn rfl (qn rfl (qn rfl (qp rfl (qa rfl (Ac ?_)))))
   exact Aw _ h (sm [] _ _ rfl rfl)
  ·have h := Ap c2 h
   refine qf Fm rfl (ql B7 rfl (B4 rfl (qp rfl (qa rfl (Ac ?_)))))
   exact Aw _ h (sm [] _ _ rfl rfl)
 ·obtain rfl := sj h
  refine Al (sm [] [(2, .e (.one (.pure (.val (.bool v1)))))] [] rfl rfl) (AC ?_)
  exact ⟨⟨[_], ⟨.tmp _ _ rfl, trivial⟩, rfl⟩, trivial⟩
set_option maxRecDepth 10000 in
theorem HQ (N : Nat) (p0 : Int) (p1 : Int) (p2 : Int) (p3 : Bool) (r : (List (List Bool))) (h : DC N p0 p1 p2 p3 = some r) : AB Try.prog 47 [.e (.one (.pure (.val (.int .i64 p0)))), .e (.one (.pure (.val (.int .i64 p1)))), .e (.one (.pure (.val (.int .u16 p2)))), .e (.one (.pure (.val (.bool p3))))] [(1, r.map (Ep eB))] (.e (.one (.own 0))) := by
 unfold DC at h
 refine Aq (n := 47) (rs := [.tmp 8]) Try.func47 rfl rfl rfl (BM rfl) (BM rfl) rfl fun w0 S0 => ?_
 refine Ab (Aa Ad rfl (qa rfl (Ac (Ab (Aa Ad rfl (qa rfl (Ac (Ab (Ab (Aa Ad rfl (qa rfl (Ac ?_))))))))))))
 refine AR (L := Cb N p0 p1 p2 p3) h (fun v1 => mk [(0, .e (.one (.pure (.val (.int .i64 p0))))), (1, .e (.one (.pure (.val (.int .i64 p1))))), (2, .e (.one (.pure (.val (.int .u16 p2))))), (3, .e (.one (.pure (.val (.bool p3))))), (9, .e (.one (.own 2001))), (10, .e (.one (.pure (.val (.int .i64 v1.2)))))] [(2001, .vec 1 (v1.1.map (Ep eB)))]) (fun v2 => mk [(9, .e (.one (.own 2002)))] [(2002, .vec 1 (v2.map (Ep eB)))]) (fun _ _ => rfl) ((BF 9 2010 1 rfl rfl rfl).trans (sm [(2001, 2010)] _ _ rfl rfl)) (fun j1 n1 v1 h => ?_) (fun v2 s h hs => ?_)
 ·unfold Cb at h
  refine Ab (Ab (Aa Ad rfl (qm rfl (qm rfl (A8 rfl (Ac ?_))))))
  refine As rfl (fun c3 => ?_) (fun c3 => ?_)
  ·have h := Ao c3 h
   refine Au (Ab (AU (Ab (Aa Ad rfl (qa rfl (Ac (Ab (Ab (Aa Ad rfl (qa rfl (Ac ?_)))))))))))
   refine AR (L := Cf N p1 p2 p3 v1) h (fun v4 => mk [(0, .e (.one (.pure (.val (.int .i64 p0))))), (1, .e (.one (.pure (.val (.int .i64 p1))))), (2, .e (.one (.pure (.val (.int .u16 p2))))), (3, .e (.one (.pure (.val (.bool p3))))), (9, .e (.one (.own 2003))), (10, .e (.one (.pure (.val (.int .i64 v1.2))))), (11, .e (.one (.own 2004))), (12, .e (.one (.pure (.val (.int .i64 v4.2)))))] [(2003, .vec 1 (v1.1.map (Ep eB))), (2004, .vec 1 (v4.1.map eB))]) (fun v5 => mk [(0, .e (.one (.pure (.val (.int .i64 p0))))), (1, .e (.one (.pure (.val (.int .i64 p1))))), (2, .e (.one (.pure (.val (.int .u16 p2))))), (3, .e (.one (.pure (.val (.bool p3))))), (9, .e (.one (.own 2005))), (10, .e (.one (.pure (.val (.int .i64 v1.2))))), (11, .e (.one (.own 2006)))] [(2005, .vec 1 (v1.1.map (Ep eB))), (2006, .vec 1 (v5.map eB))]) (fun _ _ => rfl) ((BF 11 2009 1 rfl rfl rfl).trans (sm [(2003, 2001), (2004, 2009)] _ _ rfl rfl)) (fun j4 n4 v4 h => ?_) (fun v5 s h hs => ?_)
   ·unfold Cf at h
    refine Ab (Ab (Aa Ad rfl (qm rfl (qm rfl (A8 rfl (Ac ?_))))))
    refine As rfl (fun c6 => ?_) (fun c6 => ?_)
    ·have h := Ao c6 h
     refine Au ?_
     refine AW h (fun v7 => mk [(0, .e (.one (.pure (.val (.int .i64 p0))))), (1, .e (.one (.pure (.val (.int .i64 p1))))), (2, .e (.one (.pure (.val (.int .u16 p2))))), (3, .e (.one (.pure (.val (.bool p3))))), (9, .e (.one (.own 2007))), (10, .e (.one (.pure (.val (.int .i64 v1.2))))), (11, .e (.one (.own 2008))), (12, .e (.one (.pure (.val (.int .i64 v4.2)))))] [(2007, .vec 1 (v1.1.map (Ep eB))), (2008, .vec 1 (v7.map eB))]) (fun j7 h => ?_) (fun v7 h => ?_)
     ·refine AU (Aa Ad rfl (qm rfl (qm rfl (qm rfl ?_))))
      refine AI (t := 25) rfl (fun c8 => ?_) (fun c8 => ?_)
      ·have h := Ao c8 h
       refine qm rfl (qm rfl (B4 rfl (qp rfl (qm rfl ?_))))
       refine AI (t := 30) rfl (fun c9 => ?_) (fun c9 => ?_)
       ·have h := Ao c9 h
        refine qn rfl (qn rfl (qn rfl (qn rfl (qn rfl (qn rfl (qn rfl (qn rfl (qp rfl (En FN Pc U1 rfl ?_)))))))))
        obtain ⟨c10, h⟩ := AN h
        refine Dy (f := eB) FN FN Pc U6 U1 c10 rfl (qa rfl (Ac ?_))
        exact Aw _ h (sm [(2007, 2003), (2008, 41)] _ _ rfl rfl)
       ·have h := Ap c9 h
        refine qm rfl (qm rfl (K7 rfl (qm rfl (Bp rfl ?_))))
        obtain ⟨c11, h⟩ := AN h
        refine It rfl c11 (IW rfl (by decide) (B4 rfl (qp rfl (En FN Pc U1 rfl ?_))))
        obtain ⟨c12, h⟩ := AN h
        refine Dy (f := eB) FN FN Pc U6 U1 c12 rfl (qa rfl (Ac ?_))
        exact Aw _ h (sm [(2007, 2003), (2008, 41)] _ _ rfl rfl)
      ·have h := Ap c8 h
       refine qn rfl (qn rfl (qn rfl (qp rfl (qm rfl (qm rfl (qm rfl (K7 rfl (qm rfl (Bp rfl ?_)))))))))
       obtain ⟨c13, h⟩ := AN h
       refine It rfl c13 (IW rfl (by decide) (B4 rfl (qp rfl (En FN Pc U1 rfl ?_))))
       obtain ⟨c14, h⟩ := AN h
       refine Dy (f := eB) FN FN Pc U6 U1 c14 rfl (qa rfl (Ac ?_))
       exact Aw _ h (sm [(2007, 2003), (2008, 41)] _ _ rfl rfl)
     ·refine Aa Ad rfl (qm rfl (Bp rfl (qa rfl (Ac ?_))))
      exact Aw _ h (sm [(2003, 2007), (2004, 2008)] _ _ rfl rfl)
    ·have h := Ap c6 h
     refine A5 ?_
     exact Aw _ h (sm [(2005, 2003), (2006, 2004)] _ _ rfl rfl)
   ·refine Al hs (Aa Ad rfl (qm rfl (qm rfl (Du (Ba 2006 _ _ rfl rfl) (En FF LW VD rfl ?_)))))
    obtain ⟨c15, h⟩ := AN h
    refine Dy (f := (Ep eB)) FF FF LW WA VD c15 rfl (qa rfl (Ac (Aa Ad rfl (qm rfl (Bp rfl (qa rfl (Ac ?_)))))))
    exact Aw _ h (sm [(2001, 45)] _ _ rfl rfl)
  ·have h := Ap c3 h
   refine A5 ?_
   exact Aw _ h (sm [(2002, 2001)] _ _ rfl rfl)
 ·refine Al hs (Ab (Aa Ad rfl (qm rfl (qa rfl (Ac ?_)))))
  obtain rfl := sj h
  refine Al (sm [(1000, 2002)] [(8, .e (.one (.own 1000)))] [(1000, .vec 1 (v2.map (Ep eB)))] rfl rfl) (AC ?_)
  exact ⟨⟨[_], ⟨.tmp _ _ rfl, trivial⟩, rfl⟩, ⟨rfl, trivial⟩⟩
set_option maxRecDepth 10000 in
theorem Ll (N : Nat) (p0 : B8) (r : Ae × Bool) (h : D9 N p0 = some r) : AB Try.prog 22 [.e (.agg [.pure (.sl (p0.fVersions.map A3)), .pure (.sl (p0.fNow.map A3)), .pure (.sl (p0.fTarget.map A3)), .pure (.sl (p0.fLinks.map B6))])] [(1, r.1.fVersions.map Ag), (1, r.1.fNow.map Ag), (1, r.1.fTarget.map Ag), (6, r.1.fTables.map Ai)] (.tup [.agg [.own 0, .own 1, .own 2, .own 3], .one (.pure (.val (.bool r.2)))]) := by
 unfold D9 at h
 refine Aq (n := 152) (rs := [.cell 2 30, .tmp 3]) Try.func22 rfl rfl rfl (BM rfl) (BM rfl) rfl fun w0 S0 => ?_
 refine Ab (Aa Ad rfl (qb rfl (qz Rz rfl (qa rfl (Ac (Ab ?_))))))
 refine AW h (fun v1 => mk [(1, .e (.one (.ptr 1 0))), (2, .e (.one (.ptr 2 0))), (19, .e (.one (.pure (.val (.bool v1)))))] [(1, .box [.pure (.sl (p0.fVersions.map A3)), .pure (.sl (p0.fNow.map A3)), .pure (.sl (p0.fTarget.map A3)), .pure (.sl (p0.fLinks.map B6))]), (2, .box [.pure (.nil0), .pure (.nil0), .pure (.nil0), .pure (.nil0)])]) (fun j1 h => ?_) (fun v1 h => ?_)
 ·refine Aa Ad rfl (qf N8 rfl (ql O8 rfl (AS HW rfl (FT rfl (qm rfl ?_)))))
  refine AI (t := 14) rfl (fun c2 => ?_) (fun c2 => ?_)
  ·have h := Ao c2 h
   refine qn rfl (qn rfl (qn rfl (qn rfl (qp rfl (Ac ?_)))))
   exact Aw _ h (sm [] _ _ rfl rfl)
  ·have h := Ap c2 h
   refine qf Ok rfl (ql Vp rfl (AS SZ rfl (FT rfl (qp rfl (Ac ?_)))))
   exact Aw _ h (sm [] _ _ rfl rfl)
 ·refine As rfl (fun c3 => ?_) (fun c3 => ?_)
  ·have h := Ao c3 h
   refine Ab (Aa Ad rfl (A7 Rz Wz rfl (qs Dw rfl (qa rfl (Ac ?_)))))
   obtain rfl := sj h
   refine Al ((AG 2 0 2001 1 _ rfl rfl rfl rfl).trans ((AG 2 1 2002 1 _ rfl rfl rfl rfl).trans ((AG 2 2 2003 1 _ rfl rfl rfl rfl).trans ((AG 2 3 2004 6 _ rfl rfl rfl rfl).trans (sm [(1000, 2001), (1001, 2002), (1002, 2003), (1003, 2004)] [(2, .e (.one (.ptr 2 0))), (3, .e (.one (.pure (.val (.bool false)))))] [(2, .box [.own 1000, .own 1001, .own 1002, .own 1003]), (1000, .vec 1 ((([] : List Int)).map Ag)), (1001, .vec 1 ((([] : List Int)).map Ag)), (1002, .vec 1 ((([] : List Int)).map Ag)), (1003, .vec 6 ((([] : List AF)).map Ai))] rfl rfl))))) (AC ?_)
   exact ⟨⟨[_, _], ⟨.cellN _ _ _ _ _ _ _ rfl rfl DM Dw rfl rfl (Hm rfl), ⟨.tmp _ _ rfl, trivial⟩⟩, rfl⟩, ⟨rfl, rfl, rfl, rfl, trivial⟩⟩
  ·have h := Ap c3 h
   refine Au (Ab (Aa Ad rfl (qz Rz rfl (Ac (Ab (Ab (Aa Ad rfl (qa rfl (Ac ?_)))))))))
   refine AR (L := Ct N p0) h (fun v4 => mk [(1, .e (.one (.ptr 1 0))), (2, .e (.one (.ptr 2 0))), (4, .e (.one (.ptr 4 0))), (5, .e (.one (.pure (.val (.int .i64 v4.2.2.2)))))] [(1, .box [.pure (.sl (p0.fVersions.map A3)), .pure (.sl (p0.fNow.map A3)), .pure (.sl (p0.fTarget.map A3)), .pure (.sl (p0.fLinks.map B6))]), (2, .box [.pure (.nil0), .pure (.nil0), .pure (.nil0), .pure (.nil0)]), (4, .box [.own 2005, .own 2006, .own 2007, .pure (.nil0)]), (2005, .vec 1 (v4.1.map Ag)), (2006, .vec 1 (v4.2.1.map Ag)), (2007, .vec 1 (v4.2.2.1.map Ag))]) (fun v5 => mk [(1, .e (.one (.ptr 1 0))), (2, .e (.one (.ptr 2 0))), (4, .e (.one (.ptr 4 0)))] [(1, .box [.pure (.sl (p0.fVersions.map A3)), .pure (.sl (p0.fNow.map A3)), .pure (.sl (p0.fTarget.map A3)), .pure (.sl (p0.fLinks.map B6))]), (2, .box [.pure (.nil0), .pure (.nil0), .pure (.nil0), .pure (.nil0)]), (4, .box [.own 2008, .own 2009, .own 2010, .pure (.nil0)]), (2008, .vec 1 (v5.1.map Ag)), (2009, .vec 1 (v5.2.1.map Ag)), (2010, .vec 1 (v5.2.2.map Ag))]) (fun _ _ => rfl) ((AG 4 0 2011 1 _ rfl rfl rfl rfl).trans ((AG 4 1 2012 1 _ rfl rfl rfl rfl).trans ((AG 4 2 2013 1 _ rfl rfl rfl rfl).trans (sm [(2005, 2011), (2006, 2012), (2007, 2013)] _ _ rfl rfl)))) (fun j4 n4 v4 h => ?_) (fun v5 s h hs => ?_)
   ·unfold Ct at h
    refine Ab (Ab (Aa Ad rfl (qm rfl (qf N8 rfl (ql O8 rfl (AS HW rfl (A8 rfl (Ac ?_))))))))
    refine As rfl (fun c6 => ?_) (fun c6 => ?_)
    ·have h := Ao c6 h
     refine Au (Ab (AU (Ab (Aa Ad rfl (qf N8 rfl (ql O8 rfl (qm rfl ?_)))))))
     obtain ⟨v7, a7, b7, h⟩ := Am h
     refine qi HW UO a7 (Aj b7) rfl (qk VV rfl (IW rfl (by decide) (HT Vr T8 rfl (Bp rfl (qa rfl (Ac (Ab (Aa Ad rfl (qf Bn rfl (ql A9 rfl (qm rfl (En AE C7 J5 rfl ?_))))))))))))
     obtain ⟨c8, h⟩ := AN h
     refine Dy (f := Ag) AE AE C7 KP J5 c8 rfl (qf Bn rfl (qs Rr rfl (Ac (Ab (Aa Ad rfl (qf GQ rfl (ql A9 rfl (qf TM rfl (ql O8 rfl (qm rfl ?_))))))))))
     obtain ⟨v9, a9, h⟩ := bind_some h
     refine AK [] (HN N p0.fNow v4.2.2.2 v9 a9) WU rfl (qm rfl ?_)
     obtain ⟨c10, h⟩ := AN h
     refine IW rfl c10 (En AE C7 J5 rfl ?_)
     obtain ⟨c11, h⟩ := AN h
     refine Dy (f := Ag) AE AE C7 KP J5 c11 rfl (qf GQ rfl (qs Rr rfl (A0 (by kernel_rfl) (Aa Ad rfl (qf Hf rfl (ql A9 rfl (qf Uj rfl (ql O8 rfl (qm rfl ?_)))))))))
     obtain ⟨v12, a12, h⟩ := bind_some h
     refine AK [] (HN N p0.fTarget v4.2.2.2 v12 a12) WU rfl (qm rfl ?_)
     obtain ⟨c13, h⟩ := AN h
     refine IW rfl c13 (En AE C7 J5 rfl ?_)
     obtain ⟨c14, h⟩ := AN h
     refine Dy (f := Ag) AE AE C7 KP J5 c14 rfl (qf Hf rfl (qs Rr rfl (A0 (by kernel_rfl) (Aa Ad rfl (qm rfl (Bp rfl (qa rfl (Ac ?_))))))))
     exact Aw _ h (sm [(2005, 40), (2006, 51), (2007, 62)] _ _ rfl rfl)
    ·have h := Ap c6 h
     refine A5 ?_
     exact Aw _ h (sm [(2008, 2005), (2009, 2006), (2010, 2007)] _ _ rfl rfl)
   ·refine Al hs (Ab (Ab (Aa Ad rfl (qa rfl (Ac ?_)))))
    refine AR (L := Bw N p0 v5) h (fun v15 => mk [(1, .e (.one (.ptr 1 0))), (2, .e (.one (.ptr 2 0))), (4, .e (.one (.ptr 4 0))), (7, .e (.one (.pure (.val (.int .i64 v15.2)))))] [(1, .box [.pure (.sl (p0.fVersions.map A3)), .pure (.sl (p0.fNow.map A3)), .pure (.sl (p0.fTarget.map A3)), .pure (.sl (p0.fLinks.map B6))]), (2, .box [.pure (.nil0), .pure (.nil0), .pure (.nil0), .pure (.nil0)]), (4, .box [.own 2014, .own 2015, .own 2016, .own 2017]), (2014, .vec 1 (v5.1.map Ag)), (2015, .vec 1 (v5.2.1.map Ag)), (2016, .vec 1 (v5.2.2.map Ag)), (2017, .vec 6 (v15.1.map Ai))]) (fun v16 => mk [(2, .e (.one (.ptr 2 0))), (4, .e (.one (.ptr 4 0)))] [(2, .box [.pure (.nil0), .pure (.nil0), .pure (.nil0), .pure (.nil0)]), (4, .box [.own 2018, .own 2019, .own 2020, .own 2021]), (2018, .vec 1 (v5.1.map Ag)), (2019, .vec 1 (v5.2.1.map Ag)), (2020, .vec 1 (v5.2.2.map Ag)), (2021, .vec 6 (v16.map Ai))]) (fun _ _ => rfl) ((AG 4 3 2039 6 _ rfl rfl rfl rfl).trans (sm [(2014, 2008), (2015, 2009), (2016, 2010), (2017, 2039)] _ _ rfl rfl)) (fun j15 n15 v15 h => ?_) (fun v16 s h hs => ?_)
    ·unfold Bw at h
     refine Ab ?_
     refine AW h (fun v17 => mk [(1, .e (.one (.ptr 1 0))), (2, .e (.one (.ptr 2 0))), (4, .e (.one (.ptr 4 0))), (7, .e (.one (.pure (.val (.int .i64 v15.2))))), (74, .e (.one (.pure (.val (.bool v17)))))] [(1, .box [.pure (.sl (p0.fVersions.map A3)), .pure (.sl (p0.fNow.map A3)), .pure (.sl (p0.fTarget.map A3)), .pure (.sl (p0.fLinks.map B6))]), (2, .box [.pure (.nil0), .pure (.nil0), .pure (.nil0), .pure (.nil0)]), (4, .box [.own 2022, .own 2023, .own 2024, .own 2025]), (2022, .vec 1 (v5.1.map Ag)), (2023, .vec 1 (v5.2.1.map Ag)), (2024, .vec 1 (v5.2.2.map Ag)), (2025, .vec 6 (v15.1.map Ai))]) (fun j17 h => ?_) (fun v17 h => ?_)
     ·refine Aa Ad rfl (qm rfl (qf Ok rfl (ql Vp rfl (AS SZ rfl (A8 rfl (qm rfl ?_))))))
      refine AI (t := 69) rfl (fun c18 => ?_) (fun c18 => ?_)
      ·have h := Ao c18 h
       refine qf Bn rfl (ql A9 rfl (Fx AE rfl (FT rfl (qp rfl (Ac ?_)))))
       exact Aw _ h (sm [(2022, 2014), (2023, 2015), (2024, 2016), (2025, 2017)] _ _ rfl rfl)
      ·have h := Ap c18 h
       refine qn rfl (qn rfl (qn rfl (qn rfl (qp rfl (Ac ?_)))))
       exact Aw _ h (sm [(2022, 2014), (2023, 2015), (2024, 2016), (2025, 2017)] _ _ rfl rfl)
     ·refine As rfl (fun c19 => ?_) (fun c19 => ?_)
      ·have h := Ao c19 h
       refine Au (Ab (AU (Ab (Aa Ad rfl (qf Ok rfl (ql Vp rfl (qm rfl ?_)))))))
       obtain ⟨v20, a20, b20, h⟩ := Am h
       refine qi SZ Vd a20 (Aj b20) rfl (qK X3 Vd rfl (qz Xl rfl (qs Vd rfl (Ac (Ab (Aa Ad rfl (qf Uf rfl (ql VV rfl (IW rfl (by decide) (HT Vr T8 rfl (Bp rfl (qf TC rfl (ql VV rfl (HT Vr T8 rfl (qf Bn rfl (ql A9 rfl (Fx AE rfl ?_)))))))))))))))))
       obtain ⟨c21, h⟩ := AN h
       refine IW rfl c21 (qf TX rfl (ql VV rfl (HT Vr T8 rfl (qf Bn rfl (ql A9 rfl (Fx AE rfl ?_))))))
       obtain ⟨c22, h⟩ := AN h
       refine IW rfl c22 (A7 Jd WZ rfl (qz Jd rfl (qs DJ rfl (A0 (by kernel_rfl) ?_))))
       refine AW h (fun v23 => mk [(1, .e (.one (.ptr 1 0))), (2, .e (.one (.ptr 2 0))), (4, .e (.one (.ptr 4 0))), (7, .e (.one (.pure (.val (.int .i64 v15.2))))), (8, .e (.one (.ptr 8 0))), (9, .e (.one (.ptr 9 0)))] [(1, .box [.pure (.sl (p0.fVersions.map A3)), .pure (.sl (p0.fNow.map A3)), .pure (.sl (p0.fTarget.map A3)), .pure (.sl (p0.fLinks.map B6))]), (2, .box [.pure (.nil0), .pure (.nil0), .pure (.nil0), .pure (.nil0)]), (4, .box [.own 2026, .own 2027, .own 2028, .own 2029]), (8, .box [.pure (.val (.int .u8 v20.fKind)), .pure (.val (.int .u8 v20.fFrom)), .pure (.val (.int .u8 v20.fTo)), .pure (.val (.bool v20.fAware)), .pure (.val (.int .u16 v20.fBad)), .pure (.val (.int .u16 v20.fLost))]), (9, .box [.pure (.val (.int .i64 ((IntKind.wrap .i64 (1 + (IntKind.wrap .i64 ((Int.tmod v20.fKind 4)))))))), .pure (.val (.int .i64 ((Int.tmod ((IntKind.wrap .i64 v20.fFrom)) ((v5.1.length : Int)))))), .pure (.val (.int .i64 ((Int.tmod ((IntKind.wrap .i64 v20.fTo)) ((v5.1.length : Int)))))), .pure (.val (.bool v23)), .pure (.nil0), .pure (.nil0)]), (2026, .vec 1 (v5.1.map Ag)), (2027, .vec 1 (v5.2.1.map Ag)), (2028, .vec 1 (v5.2.2.map Ag)), (2029, .vec 6 (v15.1.map Ai))]) (fun j23 h => ?_) (fun v23 h => ?_)
       ·refine Aa Ad rfl (qf TG rfl (ql Rj rfl (qm rfl ?_)))
        refine AI (t := 104) rfl (fun c24 => ?_) (fun c24 => ?_)
        ·have h := Ao c24 h
         refine qL Gf DJ rfl ?_
         obtain ⟨v25, a25, h⟩ := bind_some h
         refine AK [] (Cc N ((AF.mk ((IntKind.wrap .i64 (1 + (IntKind.wrap .i64 ((Int.tmod v20.fKind 4)))))) ((Int.tmod ((IntKind.wrap .i64 v20.fFrom)) ((v5.1.length : Int)))) ((Int.tmod ((IntKind.wrap .i64 v20.fTo)) ((v5.1.length : Int)))) false (([] : List (List Bool))) (([] : List (List Bool))))) v25 a25) Ov rfl (CE rfl (qp rfl (qf H7 rfl (qs Pc rfl (Ac ?_)))))
         exact Aw _ h (sm [(2026, 2022), (2027, 2023), (2028, 2024), (2029, 2025)] _ _ rfl rfl)
        ·have h := Ap c24 h
         refine qn rfl (qn rfl (qn rfl (qp rfl (qf H7 rfl (qs Pc rfl (Ac ?_))))))
         exact Aw _ h (sm [(2026, 2022), (2027, 2023), (2028, 2024), (2029, 2025)] _ _ rfl rfl)
       ·refine Ab (Aa Ad rfl (qf Bn rfl (ql A9 rfl (qf CQ rfl (ql B7 rfl ?_)))))
        obtain ⟨v26, a26, b26, h⟩ := Am h
        refine qI AE C7 a26 (Aj b26) rfl (qj B7 (Aj b26) rfl (qf Bn rfl (ql A9 rfl (qf Hl rfl (ql B7 rfl ?_)))))
        obtain ⟨v27, a27, b27, h⟩ := Am h
        refine qI AE C7 a27 (Aj b27) rfl (qj B7 (Aj b27) rfl (qf Ux rfl (ql WB rfl ?_)))
        obtain ⟨v28, a28, h⟩ := bind_some h
        refine AK [2030] (HQ N v26 v27 v20.fBad false v28 a28) WF rfl (qf IJ rfl (qs W1 rfl (A0 (by kernel_rfl) ?_)))
        refine AW h (fun v29 => mk [(1, .e (.one (.ptr 1 0))), (2, .e (.one (.ptr 2 0))), (4, .e (.one (.ptr 4 0))), (7, .e (.one (.pure (.val (.int .i64 v15.2))))), (9, .e (.one (.ptr 9 0)))] [(1, .box [.pure (.sl (p0.fVersions.map A3)), .pure (.sl (p0.fNow.map A3)), .pure (.sl (p0.fTarget.map A3)), .pure (.sl (p0.fLinks.map B6))]), (2, .box [.pure (.nil0), .pure (.nil0), .pure (.nil0), .pure (.nil0)]), (4, .box [.own 2031, .own 2032, .own 2033, .own 2034]), (9, .box [.pure (.val (.int .i64 ((IntKind.wrap .i64 (1 + (IntKind.wrap .i64 ((Int.tmod v20.fKind 4)))))))), .pure (.val (.int .i64 ((Int.tmod ((IntKind.wrap .i64 v20.fFrom)) ((v5.1.length : Int)))))), .pure (.val (.int .i64 ((Int.tmod ((IntKind.wrap .i64 v20.fTo)) ((v5.1.length : Int)))))), .pure (.val (.bool v23)), .own 2035, .own 2036]), (2031, .vec 1 (v5.1.map Ag)), (2032, .vec 1 (v5.2.1.map Ag)), (2033, .vec 1 (v5.2.2.map Ag)), (2034, .vec 6 (v15.1.map Ai)), (2035, .vec 1 (v28.map (Ep eB))), (2036, .vec 1 (v29.map (Ep eB)))]) (fun j29 h => ?_) (fun v29 h => ?_)
        ·refine Ab (Aa Ad rfl (qf Fm rfl (ql B7 rfl (B4 rfl (Ac ?_)))))
         refine As rfl (fun c30 => ?_) (fun c30 => ?_)
         ·have h := Ao c30 h
          refine Aa Ad rfl (qf Bn rfl (ql A9 rfl (qf CQ rfl (ql B7 rfl ?_))))
          obtain ⟨v31, a31, b31, h⟩ := Am h
          refine qI AE C7 a31 (Aj b31) rfl (qj B7 (Aj b31) rfl (qf Bn rfl (ql A9 rfl (qf CQ rfl (ql B7 rfl ?_)))))
          obtain ⟨v32, a32, b32, h⟩ := Am h
          refine qI AE C7 a32 (Aj b32) rfl (qj B7 (Aj b32) rfl (qf Up rfl (ql WB rfl ?_)))
          obtain ⟨v33, a33, h⟩ := bind_some h
          refine AK [2037] (HQ N v31 v32 v20.fLost true v33 a33) WF rfl (qf FU rfl (qs W1 rfl (A0 (by kernel_rfl) ?_)))
          exact Aw _ h (sm [(2031, 2026), (2032, 2027), (2033, 2028), (2034, 2029), (2035, 2030), (2036, 2037)] _ _ rfl rfl)
         ·have h := Ap c30 h
          refine Au ?_
          exact Aw _ h ((AG 9 5 2038 1 _ rfl rfl rfl rfl).trans (sm [(2031, 2026), (2032, 2027), (2033, 2028), (2034, 2029), (2035, 2030), (2036, 2038)] _ _ rfl rfl))
        ·refine Aa Ad rfl (qf CH rfl (ql Gw rfl (qL Gf DJ rfl (Du (Ba 2035 _ _ rfl rfl) (Du (Ba 2036 _ _ rfl rfl) (En DV DJ Jd rfl ?_))))))
         obtain ⟨c34, h⟩ := AN h
         refine Dy (f := Ai) DV DV DJ Wl Jd c34 rfl (qf CH rfl (qs X1 rfl (Ac (Aa Ad rfl (qm rfl (Bp rfl (qa rfl (Ac ?_))))))))
         exact Aw _ h (sm [(2014, 2031), (2015, 2032), (2016, 2033), (2017, 149)] _ _ rfl rfl)
      ·have h := Ap c19 h
       refine A5 ?_
       exact Aw _ h (sm [(2018, 2022), (2019, 2023), (2020, 2024), (2021, 2025)] _ _ rfl rfl)
    ·refine Al hs (Ab (Aa Ad rfl (qL DM Dw rfl (qs Dw rfl (qa rfl (Ac ?_))))))
     obtain rfl := sj h
     refine Al (sm [(1000, 2018), (1001, 2019), (1002, 2020), (1003, 2021)] [(2, .e (.one (.ptr 2 0))), (3, .e (.one (.pure (.val (.bool true)))))] [(2, .box [.own 1000, .own 1001, .own 1002, .own 1003]), (1000, .vec 1 (v5.1.map Ag)), (1001, .vec 1 (v5.2.1.map Ag)), (1002, .vec 1 (v5.2.2.map Ag)), (1003, .vec 6 (v16.map Ai))] rfl rfl) (AC ?_)
     exact ⟨⟨[_, _], ⟨.cellN _ _ _ _ _ _ _ rfl rfl DM Dw rfl rfl (Hm rfl), ⟨.tmp _ _ rfl, trivial⟩⟩, rfl⟩, ⟨rfl, rfl, rfl, rfl, trivial⟩⟩
set_option maxRecDepth 10000 in
theorem DL (N : Nat) (p0 : Bool) (p1 : Bool) (r : Ae) (h : CB N p0 p1 = some r) : AB Try.prog 35 [.e (.one (.pure (.val (.bool p0)))), .e (.one (.pure (.val (.bool p1))))] [(1, r.fVersions.map Ag), (1, r.fNow.map Ag), (1, r.fTarget.map Ag), (6, r.fTables.map Ai)] (.e (.agg [.own 0, .own 1, .own 2, .own 3])) := by
 unfold CB at h
 refine Aq (n := 19) (rs := [.cell 4 30]) Try.func35 rfl rfl rfl (BM rfl) (BM rfl) rfl fun w0 S0 => ?_
 refine Ab (Aa Ad rfl (qz Rz rfl (Ac (Ab (Aa Ad rfl (qm rfl (qm rfl (CE rfl (En FN Pc U1 rfl (En FN Pc U1 rfl (Du (Ba 9 _ _ rfl rfl) (Du (Ba 10 _ _ rfl rfl) (En FF LW VD rfl (A7 Jd WZ rfl (qz Jd rfl (qs DJ rfl (Ac (Ab (Aa Ad rfl (En AE C7 J5 rfl (En AE C7 J5 rfl (En AE C7 J5 rfl (qL Gf DJ rfl (Du (Ba 11 _ _ rfl rfl) (En DV DJ Jd rfl (A7 Rz Wz rfl (qs Dw rfl (Ac ?_))))))))))))))))))))))))))))
 obtain rfl := sj h
 refine Al (sm [(1000, 13), (1001, 14), (1002, 15), (1003, 17)] [(4, .e (.one (.ptr 4 0)))] [(4, .box [.own 1000, .own 1001, .own 1002, .own 1003]), (1000, .vec 1 ((([2, 2] : List Int)).map Ag)), (1001, .vec 1 ((([0, 0] : List Int)).map Ag)), (1002, .vec 1 ((([1, 1] : List Int)).map Ag)), (1003, .vec 6 ((([(AF.mk 1 0 1 p1 (([([true, (!p0)] : List Bool), ([false, true] : List Bool)] : List (List Bool))) (([] : List (List Bool))))] : List AF)).map Ai))] rfl rfl) (AC ?_)
 exact ⟨⟨[_], ⟨.cellN _ _ _ _ _ _ _ rfl rfl DM Dw rfl rfl (Hm rfl), trivial⟩, rfl⟩, ⟨rfl, rfl, rfl, rfl, trivial⟩⟩
set_option maxRecDepth 10000 in
theorem Ge (N : Nat) (p0 : Int) (p1 : Int) (r : Bool) (h : DG N p0 p1 = some r) : AB Try.prog 89 [.e (.one (.pure (.val (.int .i64 p0)))), .e (.one (.pure (.val (.int .i64 p1))))] [] (.e (.one (.pure (.val (.bool r))))) := by
 unfold DG at h
 refine Aq (n := 12) (rs := [.tmp 4]) Try.func89 rfl rfl rfl (BM rfl) (BM rfl) rfl fun w0 S0 => ?_
 refine Ab (Aa Ad rfl (qa rfl (Ac ?_)))
 refine AW h (fun v1 => mk [(4, .e (.one (.pure (.val (.bool v1)))))] []) (fun j1 h => ?_) (fun v1 h => ?_)
 ·refine Aa Ad rfl (qm rfl (Ey rfl (qm rfl ?_)))
  refine AI (t := 7) rfl (fun c2 => ?_) (fun c2 => ?_)
  ·have h := Ao c2 h
   refine qm rfl (qm rfl (A8 rfl (qp rfl (qa rfl (Ac ?_)))))
   exact Aw _ h (sm [] _ _ rfl rfl)
  ·have h := Ap c2 h
   refine qn rfl (qn rfl (qn rfl (qp rfl (qa rfl (Ac ?_)))))
   exact Aw _ h (sm [] _ _ rfl rfl)
 ·obtain rfl := sj h
  refine Al (sm [] [(4, .e (.one (.pure (.val (.bool v1)))))] [] rfl rfl) (AC ?_)
  exact ⟨⟨[_], ⟨.tmp _ _ rfl, trivial⟩, rfl⟩, trivial⟩
set_option maxRecDepth 10000 in
theorem OU (N : Nat) (p0 : Int) (p1 : Bool) (r : Bool) (h : FP N p0 p1 = some r) : AB Try.prog 106 [.e (.one (.pure (.val (.int .i64 p0)))), .e (.one (.pure (.val (.bool p1))))] [] (.e (.one (.pure (.val (.bool r))))) := by
 unfold FP at h
 refine Aq (n := 23) (rs := [.tmp 4]) Try.func106 rfl rfl rfl (BM rfl) (BM rfl) rfl fun w0 S0 => ?_
 refine Ab (Aa Ad rfl (qa rfl (Ac ?_)))
 refine AW h (fun v1 => mk [(4, .e (.one (.pure (.val (.bool v1)))))] []) (fun j1 h => ?_) (fun v1 h => ?_)
 ·refine Aa Ad rfl (qm rfl (B4 rfl (qm rfl ?_)))
  refine AI (t := 7) rfl (fun c2 => ?_) (fun c2 => ?_)
  ·have h := Ao c2 h
   refine qn rfl (qn rfl (qp rfl (qm rfl (qn rfl (qn rfl (qn rfl (qu rfl (qu rfl (qn rfl (qn rfl (qu rfl (qu rfl (qn rfl (qp rfl (qa rfl (Ac ?_))))))))))))))))
   exact Aw _ h (sm [] _ _ rfl rfl)
  ·have h := Ap c2 h
   refine qm rfl (B4 rfl (qp rfl (qm rfl ?_)))
   refine AI (t := 11) rfl (fun c3 => ?_) (fun c3 => ?_)
   ·have h := Ao c3 h
    refine qn rfl (qn rfl (qn rfl (qu rfl (qu rfl (qn rfl (qn rfl (qu rfl (qu rfl (qn rfl (qp rfl (qa rfl (Ac ?_))))))))))))
    exact Aw _ h (sm [] _ _ rfl rfl)
   ·have h := Ap c3 h
    refine qm rfl (B4 rfl (qm rfl ?_))
    refine AI (t := 14) rfl (fun c4 => ?_) (fun c4 => ?_)
    ·have h := Ao c4 h
     refine qn rfl (qn rfl (qp rfl (qm rfl (qm rfl (CE rfl (qp rfl (qp rfl (qa rfl (Ac ?_)))))))))
     exact Aw _ h (sm [] _ _ rfl rfl)
    ·have h := Ap c4 h
     refine qm rfl (B4 rfl (qp rfl (qm rfl ?_)))
     refine AI (t := 18) rfl (fun c5 => ?_) (fun c5 => ?_)
     ·have h := Ao c5 h
      refine qm rfl (CE rfl (qp rfl (qp rfl (qa rfl (Ac ?_)))))
      exact Aw _ h (sm [] _ _ rfl rfl)
     ·have h := Ap c5 h
      refine qn rfl (qn rfl (qp rfl (qp rfl (qa rfl (Ac ?_)))))
      exact Aw _ h (sm [] _ _ rfl rfl)
 ·obtain rfl := sj h
  refine Al (sm [] [(4, .e (.one (.pure (.val (.bool v1)))))] [] rfl rfl) (AC ?_)
  exact ⟨⟨[_], ⟨.tmp _ _ rfl, trivial⟩, rfl⟩, trivial⟩
set_option maxRecDepth 10000 in
theorem Lo (N : Nat) (p0 : List Bool) (p1 : Int) (r : Bool) (h : DA N p0 p1 = some r) : AB Try.prog 116 [.e (.one (.pure (.sl (p0.map eB)))), .e (.one (.rop [.val (.int .i64 p1)]))] [] (.e (.one (.pure (.val (.bool r))))) := by
 unfold DA at h
 refine Aq (n := 8) (rs := [.tmp 3]) Try.func116 rfl rfl rfl (BM rfl) (BM rfl) rfl fun w0 S0 => ?_
 refine Ab (Aa Ad rfl (qa rfl (Ac (Ab (Aa Ad rfl (qm rfl (AS FN rfl (qk B7 rfl (CD rfl (qa rfl (Ac ?_)))))))))))
 obtain rfl := sj h
 refine Al (sm [] [(3, .e (.one (.pure (.val (.bool (((p0.length : Int) != p1)))))))] [] rfl rfl) (AC ?_)
 exact ⟨⟨[_], ⟨.tmp _ _ rfl, trivial⟩, rfl⟩, trivial⟩
set_option maxRecDepth 10000 in
theorem G6 (N : Nat) (p0 : List (List Bool)) (p1 : (List Bool) → Option Bool) (r : Int) (h : C6 N p0 p1 = some r) : AB Try.prog 122 [.e (.one (.pure (.sl (p0.map (Ep eB))))), .e (.one (.clo (If (L0 false (Ep eB)) tB p1)))] [] (.e (.one (.pure (.val (.int .i64 r))))) := by
 unfold C6 at h
 refine Aq (n := 19) (rs := [.tmp 4]) Try.func122 rfl rfl rfl (BM rfl) (BM rfl) rfl fun w0 S0 => ?_
 refine Ab (Aa Ad rfl (qa rfl (Ac (Ab (Ab (Aa Ad rfl (qm rfl (AS FF rfl (qm rfl (Ac ?_))))))))))
 refine AR (L := Bm N p0 p1) h (fun v1 => mk [(0, .e (.one (.pure (.sl (p0.map (Ep eB)))))), (1, .e (.one (.clo (If (L0 false (Ep eB)) tB p1)))), (7, .e (.one (.pure (.val (.int .i64 ((p0.length : Int))))))), (8, .e (.one (.pure (.val (.int .i64 v1)))))] []) (fun v2 => mk [] []) (fun _ _ => rfl) (sm [] _ _ rfl rfl) (fun j1 n1 v1 h => ?_) (fun v2 s h hs => ?_)
 ·unfold Bm at h
  refine Ab (Aa Ad rfl (A8 rfl (Ac (Ab ?_))))
  refine As rfl (fun c3 => ?_) (fun c3 => ?_)
  ·have h := Ao c3 h
   refine Au (Ab (AU (Ab (Aa Ad rfl (qm rfl (qa rfl (Ac (Ab (Aa Ad rfl (qm rfl (qm rfl (qm rfl ?_))))))))))))
   obtain ⟨v4, a4, b4, h⟩ := Am h
   refine qi FF LW a4 (Aj b4) rfl (qk Ou rfl ?_)
   obtain ⟨v5, a5, h⟩ := bind_some h
   refine Kr (ds0 := [_]) (ar := (L0 false (Ep eB)) v4) (.p rfl) rfl rfl ⟨rfl, trivial⟩ rfl rfl rfl (KV (Ku _ _ (Wf XM)) a5) ?_
   refine Ac ?_
   refine As rfl (fun c6 => ?_) (fun c6 => ?_)
   ·have h := Ao c6 h
    refine Ab (Aa Ad rfl (qm rfl (qa rfl (Ac ?_))))
    obtain rfl := sj h
    refine Al (sm [] [(4, .e (.one (.pure (.val (.int .i64 v1)))))] [] rfl rfl) (AC ?_)
    exact ⟨⟨[_], ⟨.tmp _ _ rfl, trivial⟩, rfl⟩, trivial⟩
   ·have h := Ap c6 h
    refine Au (Aa Ad rfl (Bp rfl (qm rfl (Ac ?_))))
    exact Aw _ h (sm [] _ _ rfl rfl)
  ·have h := Ap c3 h
   refine A5 ?_
   exact Aw _ h (sm [] _ _ rfl rfl)
 ·refine Al hs (Ab (Aa Ad rfl (qa rfl (Ac ?_))))
  obtain rfl := sj h
  refine Al (sm [] [(4, .e (.one (.pure (.val (.int .i64 ((-1)))))))] [] rfl rfl) (AC ?_)
  exact ⟨⟨[_], ⟨.tmp _ _ rfl, trivial⟩, rfl⟩, trivial⟩
set_option maxRecDepth 10000 in
theorem Gy (N : Nat) (p0 : List (List Bool)) (p1 : (List Bool) → Option Bool) (r : Bool) (h : CJ N p0 p1 = some r) : AB Try.prog 115 [.e (.one (.pure (.sl (p0.map (Ep eB))))), .e (.one (.clo (If (L0 false (Ep eB)) tB p1)))] [] (.e (.one (.pure (.val (.bool r))))) := by
 unfold CJ at h
 refine Aq (n := 9) (rs := [.tmp 4]) Try.func115 rfl rfl rfl (BM rfl) (BM rfl) rfl fun w0 S0 => ?_
 refine Ab (Aa Ad rfl (qa rfl (Ac (Ab (Aa Ad rfl (qm rfl (qm rfl ?_)))))))
 obtain ⟨v1, a1, h⟩ := bind_some h
 refine AK [] (G6 N p0 p1 v1 a1) W2 rfl (Ey rfl (qa rfl (Ac ?_)))
 obtain rfl := sj h
 refine Al (sm [] [(4, .e (.one (.pure (.val (.bool ((decide (0 ≤ v1))))))))] [] rfl rfl) (AC ?_)
 exact ⟨⟨[_], ⟨.tmp _ _ rfl, trivial⟩, rfl⟩, trivial⟩
set_option maxRecDepth 10000 in
theorem Jj (N : Nat) (p0 : List (List Bool)) (p1 : Int) (p2 : Int) (r : Bool) (h : EA N p0 p1 p2 = some r) : AB Try.prog 107 [.e (.one (.pure (.sl (p0.map (Ep eB))))), .e (.one (.pure (.val (.int .i64 p1)))), .e (.one (.pure (.val (.int .i64 p2))))] [] (.e (.one (.pure (.val (.bool r))))) := by
 unfold EA at h
 refine Aq (n := 17) (rs := [.tmp 6]) Try.func107 rfl rfl rfl (BM rfl) (BM rfl) rfl fun w0 S0 => ?_
 refine Ab (Aa Ad rfl (qb rfl (qa rfl (Ac ?_))))
 refine AW h (fun v1 => mk [(6, .e (.one (.pure (.val (.bool v1)))))] []) (fun j1 h => ?_) (fun v1 h => ?_)
 ·refine Aa Ad rfl (qm rfl (AS FF rfl (qm rfl (B4 rfl (qm rfl ?_)))))
  refine AI (t := 11) rfl (fun c2 => ?_) (fun c2 => ?_)
  ·have h := Ao c2 h
   refine qm rfl (Du (Ld 5 [.val (.int .i64 p2)] rfl rfl) ?_)
   refine J8 (capD := [_]) (If (L0 false (Ep eB)) tB ((fun (x : List Bool) => DA N x p2))) (.g rfl rfl) WQ rfl ⟨rfl, trivial⟩ rfl (fun ar t ht => by obtain ⟨x, r, rfl, hq, rfl⟩ := JM ht; exact Lo N x p2 r hq) ?_
   obtain ⟨v3, a3, h⟩ := bind_some h
   refine AK [] (Gy N p0 ((fun (x : List Bool) => DA N x p2)) v3 a3) Wq rfl (CE rfl (qp rfl (qa rfl (Ac ?_))))
   exact Aw _ h (sm [] _ _ rfl rfl)
  ·have h := Ap c2 h
   refine qn rfl (qn rfl (qn rfl (qn rfl (qp rfl (qa rfl (Ac ?_))))))
   exact Aw _ h (sm [] _ _ rfl rfl)
 ·obtain rfl := sj h
  refine Al (sm [] [(6, .e (.one (.pure (.val (.bool v1)))))] [] rfl rfl) (AC ?_)
  exact ⟨⟨[_], ⟨.tmp _ _ rfl, trivial⟩, rfl⟩, trivial⟩
set_option maxRecDepth 10000 in
theorem Na (N : Nat) (p0 : Ae) (p1 : AF) (r : Int) (h : Fr N p0 p1 = some r) : AB Try.prog 90 [.e (.agg [.pure (.sl (p0.fVersions.map Ag)), .pure (.sl (p0.fNow.map Ag)), .pure (.sl (p0.fTarget.map Ag)), .pure (.sl (p0.fTables.map Ai))]), .e (.agg [.pure (.val (.int .i64 p1.fKind)), .pure (.val (.int .i64 p1.fFrom)), .pure (.val (.int .i64 p1.fTo)), .pure (.val (.bool p1.fAware)), .pure (.sl (p1.fOK.map (Ep eB))), .pure (.sl (p1.fRewrite.map (Ep eB)))])] [] (.e (.one (.pure (.val (.int .i64 r))))) := by
 unfold Fr at h
 refine Aq (n := 87) (rs := [.tmp 4]) Try.func90 rfl rfl rfl (BM rfl) (BM rfl) rfl fun w0 S0 => ?_
 refine Ab (Aa Ad rfl (qb rfl (qb rfl (qa rfl (Ac (Ab (Ab (Aa Ad rfl (qf Fm rfl (ql B7 rfl (qf H7 rfl (ql Rj rfl ?_))))))))))))
 obtain ⟨v1, a1, h⟩ := bind_some h
 refine AK [] (OU N p1.fKind p1.fAware v1 a1) W5 rfl (CE rfl (Ac ?_))
 refine As rfl (fun c2 => ?_) (fun c2 => ?_)
 ·have h := Ao c2 h
  refine Ab (Aa Ad rfl (qa rfl (Ac ?_)))
  obtain rfl := sj h
  refine Al (sm [] [(4, .e (.one (.pure (.val (.int .i64 1)))))] [] rfl rfl) (AC ?_)
  exact ⟨⟨[_], ⟨.tmp _ _ rfl, trivial⟩, rfl⟩, trivial⟩
 ·have h := Ap c2 h
  refine Au (Ab ?_)
  refine AW h (fun v3 => mk [(2, .e (.one (.ptr 2 0))), (3, .e (.one (.ptr 3 0))), (29, .e (.one (.pure (.val (.bool v3)))))] [(2, .box [.pure (.sl (p0.fVersions.map Ag)), .pure (.sl (p0.fNow.map Ag)), .pure (.sl (p0.fTarget.map Ag)), .pure (.sl (p0.fTables.map Ai))]), (3, .box [.pure (.val (.int .i64 p1.fKind)), .pure (.val (.int .i64 p1.fFrom)), .pure (.val (.int .i64 p1.fTo)), .pure (.val (.bool p1.fAware)), .pure (.sl (p1.fOK.map (Ep eB))), .pure (.sl (p1.fRewrite.map (Ep eB)))])]) (fun j3 h => ?_) (fun v3 h => ?_)
  ·refine Aa Ad rfl (qf CQ rfl (ql B7 rfl (qf Bn rfl (ql A9 rfl (AS AE rfl ?_)))))
   obtain ⟨v4, a4, h⟩ := bind_some h
   refine AK [] (Ge N p1.fFrom ((p0.fVersions.length : Int)) v4 a4) Uq rfl (CE rfl (qm rfl ?_))
   refine AI (t := 21) rfl (fun c5 => ?_) (fun c5 => ?_)
   ·have h := Ao c5 h
    refine qn rfl (qn rfl (qn rfl (qn rfl (qn rfl (qn rfl (qn rfl (qp rfl (Ac ?_))))))))
    exact Aw _ h (sm [] _ _ rfl rfl)
   ·have h := Ap c5 h
    refine qf Hl rfl (ql B7 rfl (qf Bn rfl (ql A9 rfl (AS AE rfl ?_))))
    obtain ⟨v6, a6, h⟩ := bind_some h
    refine AK [] (Ge N p1.fTo ((p0.fVersions.length : Int)) v6 a6) Uq rfl (CE rfl (qp rfl (Ac ?_)))
    exact Aw _ h (sm [] _ _ rfl rfl)
  ·refine As rfl (fun c7 => ?_) (fun c7 => ?_)
   ·have h := Ao c7 h
    refine Ab (Aa Ad rfl (qa rfl (Ac ?_)))
    obtain rfl := sj h
    refine Al (sm [] [(4, .e (.one (.pure (.val (.int .i64 4)))))] [] rfl rfl) (AC ?_)
    exact ⟨⟨[_], ⟨.tmp _ _ rfl, trivial⟩, rfl⟩, trivial⟩
   ·have h := Ap c7 h
    refine Au (Ab (Aa Ad rfl (qf Bn rfl (ql A9 rfl (qf CQ rfl (ql B7 rfl ?_))))))
    obtain ⟨v8, a8, b8, h⟩ := Am h
    refine qi AE C7 a8 (Aj b8) rfl (qk B7 rfl (qa rfl (Ac (Ab (Aa Ad rfl (qf Fm rfl (ql B7 rfl (B4 rfl (qa rfl (Ac (Ab ?_)))))))))))
    refine AW h (fun v9 => mk [(3, .e (.one (.ptr 3 0))), (70, .e (.one (.pure (.val (.bool v9)))))] [(3, .box [.pure (.val (.int .i64 p1.fKind)), .pure (.val (.int .i64 p1.fFrom)), .pure (.val (.int .i64 p1.fTo)), .pure (.val (.bool p1.fAware)), .pure (.sl (p1.fOK.map (Ep eB))), .pure (.sl (p1.fRewrite.map (Ep eB)))])]) (fun j9 h => ?_) (fun v9 h => ?_)
    ·refine Aa Ad rfl (qf IJ rfl (ql IZ rfl (qm rfl (qf Bn rfl (ql A9 rfl (qf Hl rfl (ql B7 rfl ?_)))))))
     obtain ⟨v10, a10, b10, h⟩ := Am h
     refine qi AE C7 a10 (Aj b10) rfl (qk B7 rfl ?_)
     obtain ⟨v11, a11, h⟩ := bind_some h
     refine AK [] (Jj N p1.fOK v8 v10 v11 a11) UQ rfl (CE rfl (qm rfl ?_))
     refine AI (t := 50) rfl (fun c12 => ?_) (fun c12 => ?_)
     ·have h := Ao c12 h
      refine qn rfl (qn rfl (qu rfl (qu rfl (qu rfl (qu rfl (qu rfl (qu rfl (qn rfl (qp rfl (qm rfl (qn rfl (qn rfl (qn rfl (qu rfl (qu rfl (qu rfl (qu rfl (qn rfl (qp rfl (A0 (by kernel_rfl) ?_))))))))))))))))))))
      exact Aw _ h (sm [] _ _ rfl rfl)
     ·have h := Ap c12 h
      refine qm rfl (qm rfl ?_)
      refine AI (t := 52) rfl (fun c13 => ?_) (fun c13 => ?_)
      ·have h := Ao c13 h
       refine qf FU rfl (ql IZ rfl (qm rfl (qm rfl ?_)))
       obtain ⟨v14, a14, h⟩ := bind_some h
       refine AK [] (Jj N p1.fRewrite v8 v8 v14 a14) UQ rfl (CE rfl (qp rfl (qp rfl (qm rfl ?_))))
       refine AI (t := 61) rfl (fun c15 => ?_) (fun c15 => ?_)
       ·have h := Ao c15 h
        refine qn rfl (qn rfl (qn rfl (qu rfl (qu rfl (qu rfl (qu rfl (qn rfl (qp rfl (A0 (by kernel_rfl) ?_)))))))))
        exact Aw _ h (sm [] _ _ rfl rfl)
       ·have h := Ap c15 h
        refine qm rfl (CE rfl (qm rfl ?_))
        refine AI (t := 64) rfl (fun c16 => ?_) (fun c16 => ?_)
        ·have h := Ao c16 h
         refine qf FU rfl (ql IZ rfl (AS FF rfl (FT rfl (qp rfl (qp rfl (A0 (by kernel_rfl) ?_))))))
         exact Aw _ h (sm [] _ _ rfl rfl)
        ·have h := Ap c16 h
         refine qn rfl (qn rfl (qn rfl (qn rfl (qp rfl (qp rfl (A0 (by kernel_rfl) ?_))))))
         exact Aw _ h (sm [] _ _ rfl rfl)
      ·have h := Ap c13 h
       refine qn rfl (qn rfl (qn rfl (qn rfl (qn rfl (qn rfl (qp rfl (qp rfl (qm rfl (qm rfl (CE rfl (qm rfl ?_)))))))))))
       refine AI (t := 64) rfl (fun c17 => ?_) (fun c17 => ?_)
       ·have h := Ao c17 h
        refine qf FU rfl (ql IZ rfl (AS FF rfl (FT rfl (qp rfl (qp rfl (A0 (by kernel_rfl) ?_))))))
        exact Aw _ h (sm [] _ _ rfl rfl)
       ·have h := Ap c17 h
        refine qn rfl (qn rfl (qn rfl (qn rfl (qp rfl (qp rfl (A0 (by kernel_rfl) ?_))))))
        exact Aw _ h (sm [] _ _ rfl rfl)
    ·refine As rfl (fun c18 => ?_) (fun c18 => ?_)
     ·have h := Ao c18 h
      refine Ab (Aa Ad rfl (qa rfl (Ac ?_)))
      obtain rfl := sj h
      refine Al (sm [] [(4, .e (.one (.pure (.val (.int .i64 6)))))] [] rfl rfl) (AC ?_)
      exact ⟨⟨[_], ⟨.tmp _ _ rfl, trivial⟩, rfl⟩, trivial⟩
     ·have h := Ap c18 h
      refine Au (Ab (Ab (Aa Ad rfl (qf FU rfl (ql IZ rfl (AS FF rfl (qm rfl (Ac ?_))))))))
      refine AR (L := CT N p1) h (fun v19 => mk [(3, .e (.one (.ptr 3 0))), (73, .e (.one (.pure (.val (.int .i64 ((p1.fRewrite.length : Int))))))), (74, .e (.one (.pure (.val (.int .i64 v19)))))] [(3, .box [.pure (.val (.int .i64 p1.fKind)), .pure (.val (.int .i64 p1.fFrom)), .pure (.val (.int .i64 p1.fTo)), .pure (.val (.bool p1.fAware)), .pure (.sl (p1.fOK.map (Ep eB))), .pure (.sl (p1.fRewrite.map (Ep eB)))])]) (fun v20 => mk [] []) (fun _ _ => rfl) (sm [] _ _ rfl rfl) (fun j19 n19 v19 h => ?_) (fun v20 s h hs => ?_)
      ·unfold CT at h
       refine Ab (Aa Ad rfl (A8 rfl (Ac (Ab ?_))))
       refine As rfl (fun c21 => ?_) (fun c21 => ?_)
       ·have h := Ao c21 h
        refine Au (Ab (AU (Ab (Aa Ad rfl (qm rfl (qa rfl (Ac (Ab (Aa Ad rfl (qf FU rfl (ql IZ rfl (qm rfl ?_))))))))))))
        obtain ⟨v22, a22, b22, h⟩ := Am h
        refine qi FF LW a22 (Aj b22) rfl (qk Ou rfl (qm rfl ?_))
        obtain ⟨v23, a23, b23, h⟩ := Am h
        refine qi FN Pc a23 (Aj b23) rfl (qk Rj rfl (CE rfl (Ac ?_)))
        refine As rfl (fun c24 => ?_) (fun c24 => ?_)
        ·have h := Ao c24 h
         refine Ab (Aa Ad rfl (qa rfl (Ac ?_)))
         obtain rfl := sj h
         refine Al (sm [] [(4, .e (.one (.pure (.val (.int .i64 1)))))] [] rfl rfl) (AC ?_)
         exact ⟨⟨[_], ⟨.tmp _ _ rfl, trivial⟩, rfl⟩, trivial⟩
        ·have h := Ap c24 h
         refine Au (Aa Ad rfl (Bp rfl (qm rfl (Ac ?_))))
         exact Aw _ h (sm [] _ _ rfl rfl)
       ·have h := Ap c21 h
        refine A5 ?_
        exact Aw _ h (sm [] _ _ rfl rfl)
      ·refine Al hs (Ab (Aa Ad rfl (qa rfl (Ac ?_))))
       obtain rfl := sj h
       refine Al (sm [] [(4, .e (.one (.pure (.val (.int .i64 0)))))] [] rfl rfl) (AC ?_)
       exact ⟨⟨[_], ⟨.tmp _ _ rfl, trivial⟩, rfl⟩, trivial⟩
set_option maxRecDepth 10000 in
theorem G1 (N : Nat) (p0 : Ae) (r : Int) (h : Dc N p0 = some r) : AB Try.prog 61 [.e (.agg [.pure (.sl (p0.fVersions.map Ag)), .pure (.sl (p0.fNow.map Ag)), .pure (.sl (p0.fTarget.map Ag)), .pure (.sl (p0.fTables.map Ai))])] [] (.e (.one (.pure (.val (.int .i64 r))))) := by
 unfold Dc at h
 refine Aq (n := 81) (rs := [.tmp 2]) Try.func61 rfl rfl rfl (BM rfl) (BM rfl) rfl fun w0 S0 => ?_
 refine Ab (Aa Ad rfl (qb rfl (qa rfl (Ac (Ab (Aa Ad rfl (qf Bn rfl (ql A9 rfl (AS AE rfl (qa rfl (Ac (Ab ?_))))))))))))
 refine AW h (fun v1 => mk [(1, .e (.one (.ptr 1 0))), (3, .e (.one (.pure (.val (.int .i64 ((p0.fVersions.length : Int))))))), (19, .e (.one (.pure (.val (.bool v1)))))] [(1, .box [.pure (.sl (p0.fVersions.map Ag)), .pure (.sl (p0.fNow.map Ag)), .pure (.sl (p0.fTarget.map Ag)), .pure (.sl (p0.fTables.map Ai))])]) (fun j1 h => ?_) (fun v1 h => ?_)
 ·refine Aa Ad rfl (qm rfl (FT rfl (qm rfl ?_)))
  refine AI (t := 14) rfl (fun c2 => ?_) (fun c2 => ?_)
  ·have h := Ao c2 h
   refine qn rfl (qn rfl (qn rfl (qn rfl (qp rfl (Ac ?_)))))
   exact Aw _ h (sm [] _ _ rfl rfl)
  ·have h := Ap c2 h
   refine qf CH rfl (ql Gw rfl (AS DV rfl (FT rfl (qp rfl (Ac ?_)))))
   exact Aw _ h (sm [] _ _ rfl rfl)
 ·refine As rfl (fun c3 => ?_) (fun c3 => ?_)
  ·have h := Ao c3 h
   refine Ab (Aa Ad rfl (qa rfl (Ac ?_)))
   obtain rfl := sj h
   refine Al (sm [] [(2, .e (.one (.pure (.val (.int .i64 3)))))] [] rfl rfl) (AC ?_)
   exact ⟨⟨[_], ⟨.tmp _ _ rfl, trivial⟩, rfl⟩, trivial⟩
  ·have h := Ap c3 h
   refine Au (Ab ?_)
   refine AW h (fun v4 => mk [(1, .e (.one (.ptr 1 0))), (31, .e (.one (.pure (.val (.bool v4)))))] [(1, .box [.pure (.sl (p0.fVersions.map Ag)), .pure (.sl (p0.fNow.map Ag)), .pure (.sl (p0.fTarget.map Ag)), .pure (.sl (p0.fTables.map Ai))])]) (fun j4 h => ?_) (fun v4 h => ?_)
   ·refine Aa Ad rfl (qf GQ rfl (ql A9 rfl (AS AE rfl (qm rfl (CD rfl (qm rfl ?_))))))
    refine AI (t := 25) rfl (fun c5 => ?_) (fun c5 => ?_)
    ·have h := Ao c5 h
     refine qn rfl (qn rfl (qn rfl (qn rfl (qn rfl (qp rfl (Ac ?_))))))
     exact Aw _ h (sm [] _ _ rfl rfl)
    ·have h := Ap c5 h
     refine qf Hf rfl (ql A9 rfl (AS AE rfl (qm rfl (CD rfl (qp rfl (Ac ?_))))))
     exact Aw _ h (sm [] _ _ rfl rfl)
   ·refine As rfl (fun c6 => ?_) (fun c6 => ?_)
    ·have h := Ao c6 h
     refine Ab (Aa Ad rfl (qa rfl (Ac ?_)))
     obtain rfl := sj h
     refine Al (sm [] [(2, .e (.one (.pure (.val (.int .i64 6)))))] [] rfl rfl) (AC ?_)
     exact ⟨⟨[_], ⟨.tmp _ _ rfl, trivial⟩, rfl⟩, trivial⟩
    ·have h := Ap c6 h
     refine Au (Ab (Ab (Aa Ad rfl (qf Bn rfl (ql A9 rfl (AS AE rfl (qm rfl (Ac ?_))))))))
     refine AR (L := BR N p0) h (fun v7 => mk [(1, .e (.one (.ptr 1 0))), (33, .e (.one (.pure (.sl (p0.fVersions.map Ag))))), (34, .e (.one (.pure (.val (.int .i64 ((p0.fVersions.length : Int))))))), (35, .e (.one (.pure (.val (.int .i64 v7)))))] [(1, .box [.pure (.sl (p0.fVersions.map Ag)), .pure (.sl (p0.fNow.map Ag)), .pure (.sl (p0.fTarget.map Ag)), .pure (.sl (p0.fTables.map Ai))])]) (fun v8 => mk [(1, .e (.one (.ptr 1 0)))] [(1, .box [.pure (.sl (p0.fVersions.map Ag)), .pure (.sl (p0.fNow.map Ag)), .pure (.sl (p0.fTarget.map Ag)), .pure (.sl (p0.fTables.map Ai))])]) (fun _ _ => rfl) (sm [] _ _ rfl rfl) (fun j7 n7 v7 h => ?_) (fun v8 s h hs => ?_)
     ·unfold BR at h
      refine Ab (Aa Ad rfl (A8 rfl (Ac (Ab ?_))))
      refine As rfl (fun c9 => ?_) (fun c9 => ?_)
      ·have h := Ao c9 h
       refine Au (Ab (AU (Ab (Aa Ad rfl (qm rfl ?_)))))
       obtain ⟨v10, a10, b10, h⟩ := Am h
       refine qi AE C7 a10 (Aj b10) rfl (qk B7 rfl (qa rfl (qa rfl (Ac ?_))))
       refine AW h (fun v11 => mk [(1, .e (.one (.ptr 1 0))), (33, .e (.one (.pure (.sl (p0.fVersions.map Ag))))), (34, .e (.one (.pure (.val (.int .i64 ((p0.fVersions.length : Int))))))), (35, .e (.one (.pure (.val (.int .i64 v7))))), (65, .e (.one (.pure (.val (.bool v11)))))] [(1, .box [.pure (.sl (p0.fVersions.map Ag)), .pure (.sl (p0.fNow.map Ag)), .pure (.sl (p0.fTarget.map Ag)), .pure (.sl (p0.fTables.map Ai))])]) (fun j11 h => ?_) (fun v11 h => ?_)
       ·refine Aa Ad rfl (qm rfl (A8 rfl (qm rfl ?_)))
        refine AI (t := 42) rfl (fun c12 => ?_) (fun c12 => ?_)
        ·have h := Ao c12 h
         refine qn rfl (qn rfl (qp rfl (qm rfl (qn rfl (qn rfl (qn rfl (qn rfl (qn rfl (qn rfl (qn rfl (qn rfl (qp rfl (qm rfl (qn rfl (qn rfl (qn rfl (qn rfl (qn rfl (qn rfl (qn rfl (qn rfl (qp rfl (Ac ?_)))))))))))))))))))))))
         exact Aw _ h (sm [] _ _ rfl rfl)
        ·have h := Ap c12 h
         refine qm rfl (FT rfl (qp rfl (qm rfl ?_)))
         refine AI (t := 46) rfl (fun c13 => ?_) (fun c13 => ?_)
         ·have h := Ao c13 h
          refine qn rfl (qn rfl (qn rfl (qn rfl (qn rfl (qn rfl (qn rfl (qn rfl (qp rfl (qm rfl (qn rfl (qn rfl (qn rfl (qn rfl (qn rfl (qn rfl (qn rfl (qn rfl (qp rfl (Ac ?_)))))))))))))))))))
          exact Aw _ h (sm [] _ _ rfl rfl)
         ·have h := Ap c13 h
          refine qf GQ rfl (ql A9 rfl (qm rfl ?_))
          obtain ⟨v14, a14, b14, h⟩ := Am h
          refine qi AE C7 a14 (Aj b14) rfl (qk B7 rfl (qm rfl ?_))
          obtain ⟨v15, a15, h⟩ := bind_some h
          refine AK [] (Ge N v14 v10 v15 a15) Uq rfl (CE rfl (qp rfl (qm rfl ?_)))
          refine AI (t := 56) rfl (fun c16 => ?_) (fun c16 => ?_)
          ·have h := Ao c16 h
           refine qn rfl (qn rfl (qn rfl (qn rfl (qn rfl (qn rfl (qn rfl (qn rfl (qp rfl (Ac ?_)))))))))
           exact Aw _ h (sm [] _ _ rfl rfl)
          ·have h := Ap c16 h
           refine qf Hf rfl (ql A9 rfl (qm rfl ?_))
           obtain ⟨v17, a17, b17, h⟩ := Am h
           refine qi AE C7 a17 (Aj b17) rfl (qk B7 rfl (qm rfl ?_))
           obtain ⟨v18, a18, h⟩ := bind_some h
           refine AK [] (Ge N v17 v10 v18 a18) Uq rfl (CE rfl (qp rfl (Ac ?_)))
           exact Aw _ h (sm [] _ _ rfl rfl)
       ·refine As rfl (fun c19 => ?_) (fun c19 => ?_)
        ·have h := Ao c19 h
         refine Ab (Aa Ad rfl (qa rfl (Ac ?_)))
         obtain rfl := sj h
         refine Al (sm [] [(2, .e (.one (.pure (.val (.int .i64 7)))))] [] rfl rfl) (AC ?_)
         exact ⟨⟨[_], ⟨.tmp _ _ rfl, trivial⟩, rfl⟩, trivial⟩
        ·have h := Ap c19 h
         refine Au (Aa Ad rfl (Bp rfl (qm rfl (Ac ?_))))
         exact Aw _ h (sm [] _ _ rfl rfl)
      ·have h := Ap c9 h
       refine A5 ?_
       exact Aw _ h (sm [] _ _ rfl rfl)
     ·refine Al hs (Ab (Ab (Aa Ad rfl (qf CH rfl (ql Gw rfl (AS DV rfl (qm rfl (Ac ?_))))))))
      refine AR (L := BN N p0) h (fun v20 => mk [(1, .e (.one (.ptr 1 0))), (68, .e (.one (.pure (.sl (p0.fTables.map Ai))))), (69, .e (.one (.pure (.val (.int .i64 ((p0.fTables.length : Int))))))), (70, .e (.one (.pure (.val (.int .i64 v20)))))] [(1, .box [.pure (.sl (p0.fVersions.map Ag)), .pure (.sl (p0.fNow.map Ag)), .pure (.sl (p0.fTarget.map Ag)), .pure (.sl (p0.fTables.map Ai))])]) (fun v21 => mk [] []) (fun _ _ => rfl) (sm [] _ _ rfl rfl) (fun j20 n20 v20 h => ?_) (fun v21 s h hs => ?_)
      ·unfold BN at h
       refine Ab (Aa Ad rfl (A8 rfl (Ac (Ab ?_))))
       refine As rfl (fun c22 => ?_) (fun c22 => ?_)
       ·have h := Ao c22 h
        refine Au (Ab (AU (Ab (Aa Ad rfl ?_))))
        obtain ⟨v23, a23, b23, h⟩ := Am h
        refine qi DV DJ a23 (Aj b23) rfl (qK Gf DJ rfl (qz Jd rfl (qs DJ rfl (Ac (Ab (Aa Ad rfl (qL DM Dw rfl (qL Gf DJ rfl ?_))))))))
        obtain ⟨v24, a24, h⟩ := bind_some h
        refine AK [] (Na N p0 v23 v24 a24) Xo rfl (qa rfl (Ac (Ab (Aa Ad rfl (qm rfl (CD rfl (Ac ?_)))))))
        refine As rfl (fun c25 => ?_) (fun c25 => ?_)
        ·have h := Ao c25 h
         refine Ab (Aa Ad rfl (qm rfl (qa rfl (Ac ?_))))
         obtain rfl := sj h
         refine Al (sm [] [(2, .e (.one (.pure (.val (.int .i64 v24)))))] [] rfl rfl) (AC ?_)
         exact ⟨⟨[_], ⟨.tmp _ _ rfl, trivial⟩, rfl⟩, trivial⟩
        ·have h := Ap c25 h
         refine Au (Aa Ad rfl (Bp rfl (qm rfl (Ac ?_))))
         exact Aw _ h (sm [] _ _ rfl rfl)
       ·have h := Ap c22 h
        refine A5 ?_
        exact Aw _ h (sm [] _ _ rfl rfl)
      ·refine Al hs (Ab (Aa Ad rfl (qa rfl (Ac ?_))))
       obtain rfl := sj h
       refine Al (sm [] [(2, .e (.one (.pure (.val (.int .i64 0)))))] [] rfl rfl) (AC ?_)
       exact ⟨⟨[_], ⟨.tmp _ _ rfl, trivial⟩, rfl⟩, trivial⟩
set_option maxRecDepth 10000 in
theorem DB (N : Nat) (p0 : List Int) (r : (List Int)) (h : BH N p0 = some r) : AB Try.prog 72 [.e (.one (.pure (.sl (p0.map Ag))))] [(1, r.map Ag)] (.e (.one (.own 0))) := by
 unfold BH at h
 refine Aq (n := 8) (rs := [.tmp 2]) Try.func72 rfl rfl rfl (BM rfl) (BM rfl) rfl fun w0 S0 => ?_
 refine Ab (Aa Ad rfl (qa rfl (Ac (Ab (Ab (Aa Ad rfl (qm rfl ?_)))))))
 refine QK (.p rfl) rfl AE ?_
 refine Ac ?_
 refine QT rfl (fun c2 => ?_) ?_
 ·have c2 := List.map_eq_nil_iff.1 c2
  rw [c2] at h
  have h : (some (([] : List Int))) = some r := h
  refine Ab (Aa Ad rfl (qa rfl (Ac ?_)))
  obtain rfl := sj h
  refine Al ((BF 2 2001 1 rfl rfl rfl).trans (sm [(1000, 2001)] [(2, .e (.one (.own 1000)))] [(1000, .vec 1 ((([] : List Int)).map Ag))] rfl rfl)) (AC ?_)
  exact ⟨⟨[_], ⟨.tmp _ _ rfl, trivial⟩, rfl⟩, ⟨rfl, trivial⟩⟩
 ·refine Au (Ab (Aa Ad rfl (En AE C7 J5 rfl (qm rfl ?_))))
  obtain ⟨c1, h⟩ := AN h
  refine I8 (f := Ag) AE AE C7 KP J5 (fun _ => rfl) c1 rfl (qa rfl (Ac ?_))
  obtain rfl := sj h
  refine Al (sm [(1000, 7)] [(2, .e (.one (.own 1000)))] [(1000, .vec 1 (((([] : List Int)) ++ p0).map Ag))] rfl rfl) (AC ?_)
  exact ⟨⟨[_], ⟨.tmp _ _ rfl, trivial⟩, rfl⟩, ⟨rfl, trivial⟩⟩
set_option maxRecDepth 10000 in
theorem Kv (N : Nat) (p0 : Int) (p1 : Int) (r : Int × Int) (h : F1 N p0 p1 = some r) : AB Try.prog 110 [.e (.one (.pure (.val (.int .u32 p0)))), .e (.one (.pure (.val (.int .u32 p1))))] [] (.tup [.one (.pure (.val (.int .u32 r.1))), .one (.pure (.val (.int .u32 r.2)))]) := by
 unfold F1 at h
 refine Aq (n := 17) (rs := [.tmp 4, .tmp 5]) Try.func110 rfl rfl rfl (BM rfl) (BM rfl) rfl fun w0 S0 => ?_
 refine Ab (Aa Ad rfl (qa rfl (qa rfl (Ac (Ab (Aa Ad rfl (qm rfl (HT QM UJ rfl (qm rfl (HT QM UJ rfl (K7 rfl (qa rfl (Ac (Ab (Aa Ad rfl (qm rfl (It rfl (by decide) (HT UI Q5 rfl (qm rfl (HT UI Q5 rfl (qa rfl (qa rfl (Ac ?_)))))))))))))))))))))))
 obtain rfl := sj h
 refine Al (sm [] [(4, .e (.one (.pure (.val (.int .u32 ((IntKind.wrap .u32 ((E0 .u64 ((IntKind.wrap .u64 ((IntKind.wrap .u64 p0) * (IntKind.wrap .u64 p1)))) 32))))))))), (5, .e (.one (.pure (.val (.int .u32 ((IntKind.wrap .u32 ((IntKind.wrap .u64 ((IntKind.wrap .u64 p0) * (IntKind.wrap .u64 p1)))))))))))] [] rfl rfl) (AC ?_)
 exact ⟨⟨[_, _], ⟨.tmp _ _ rfl, ⟨.tmp _ _ rfl, trivial⟩⟩, rfl⟩, trivial⟩
set_option maxRecDepth 10000 in
theorem KQ (N : Nat) (p0 : Int) (p1 : Int) (r : Int × Int) (h : F2 N p0 p1 = some r) : AB Try.prog 111 [.e (.one (.pure (.val (.int .u64 p0)))), .e (.one (.pure (.val (.int .u64 p1))))] [] (.tup [.one (.pure (.val (.int .u64 r.1))), .one (.pure (.val (.int .u64 r.2)))]) := by
 unfold F2 at h
 refine Aq (n := 51) (rs := [.tmp 4, .tmp 5]) Try.func111 rfl rfl rfl (BM rfl) (BM rfl) rfl fun w0 S0 => ?_
 refine Ab (Aa Ad rfl (qa rfl (qa rfl (Ac (Ab (Aa Ad rfl (qm rfl (K9 rfl (qa rfl (Ac (Ab (Aa Ad rfl (qm rfl (It rfl (by decide) (qa rfl (Ac (Ab (Aa Ad rfl (qm rfl (K9 rfl (qa rfl (Ac (Ab (Aa Ad rfl (qm rfl (It rfl (by decide) (qa rfl (Ac (Ab (Aa Ad rfl (qm rfl (qm rfl (K7 rfl (qa rfl (Ac (Ab (Aa Ad rfl (qm rfl (qm rfl ?_)))))))))))))))))))))))))))))))))))))))
 refine K7 rfl (qm rfl (It rfl (by decide) (Bp rfl (qa rfl (Ac (Ab (Aa Ad rfl (qm rfl (K9 rfl (qa rfl (Ac (Ab (Aa Ad rfl (qm rfl (It rfl (by decide) (qa rfl (Ac (Ab (Aa Ad rfl (qm rfl (qm rfl (qm rfl (K7 rfl (Bp rfl (qa rfl (Ac (Ab (Aa Ad rfl (qm rfl (qm rfl (K7 rfl (qm rfl (Bp rfl (qm rfl (It rfl (by decide) (Bp rfl (qa rfl (Ac (Ab ?_)))))))))))))))))))))))))))))))))))))))
 refine Aa Ad rfl (qm rfl (qm rfl (K7 rfl (qa rfl (Ac ?_)))))
 obtain rfl := sj h
 refine Al (sm [] [(4, .e (.one (.pure (.val (.int .u64 ((IntKind.wrap .u64 ((IntKind.wrap .u64 ((IntKind.wrap .u64 ((E0 .u64 p0 32) * (E0 .u64 p1 32))) + (E0 .u64 ((IntKind.wrap .u64 ((IntKind.wrap .u64 ((E0 .u64 p0 32) * (EZ .u64 p1 4294967295))) + (E0 .u64 ((IntKind.wrap .u64 ((EZ .u64 p0 4294967295) * (EZ .u64 p1 4294967295)))) 32)))) 32))) + (E0 .u64 ((IntKind.wrap .u64 ((EZ .u64 ((IntKind.wrap .u64 ((IntKind.wrap .u64 ((E0 .u64 p0 32) * (EZ .u64 p1 4294967295))) + (E0 .u64 ((IntKind.wrap .u64 ((EZ .u64 p0 4294967295) * (EZ .u64 p1 4294967295)))) 32)))) 4294967295) + (IntKind.wrap .u64 ((EZ .u64 p0 4294967295) * (E0 .u64 p1 32)))))) 32))))))))), (5, .e (.one (.pure (.val (.int .u64 ((IntKind.wrap .u64 (p0 * p1))))))))] [] rfl rfl) (AC ?_)
 exact ⟨⟨[_, _], ⟨.tmp _ _ rfl, ⟨.tmp _ _ rfl, trivial⟩⟩, rfl⟩, trivial⟩
set_option maxRecDepth 10000 in
theorem LV (N : Nat) (p0 : Int) (p1 : Int) (r : Int × Int) (h : GF N p0 p1 = some r) : AB Try.prog 97 [.e (.one (.pure (.val (.int .u64 p0)))), .e (.one (.pure (.val (.int .u64 p1))))] [] (.tup [.one (.pure (.val (.int .u64 r.1))), .one (.pure (.val (.int .u64 r.2)))]) := by
 unfold GF at h
 refine Aq (n := 30) (rs := [.tmp 4, .tmp 5]) Try.func97 rfl rfl rfl (BM rfl) (BM rfl) rfl fun w0 S0 => ?_
 refine Ab (Aa Ad rfl (qa rfl (qa rfl (Ac (Ab ?_)))))
 refine As rfl (fun c1 => ?_) (fun c1 => ?_)
 ·have h := Ao c1 h
  refine Ab (Aa Ad rfl (qm rfl (HT Td Q5 rfl (qm rfl (HT Td Q5 rfl ?_)))))
  obtain ⟨v2, a2, h⟩ := bind_some h
  refine AK [] (Kv N ((IntKind.wrap .u32 p0)) ((IntKind.wrap .u32 p1)) v2 a2) W3 rfl (qm rfl (qx rfl (qx rfl (qa rfl (qa rfl (Ac (Ab (Aa Ad rfl (qm rfl (HT QM QN rfl (qm rfl (HT QM QN rfl (qa rfl (qa rfl (Ac ?_)))))))))))))))
  obtain rfl := sj h
  refine Al (sm [] [(4, .e (.one (.pure (.val (.int .u64 ((IntKind.wrap .u64 v2.1))))))), (5, .e (.one (.pure (.val (.int .u64 ((IntKind.wrap .u64 v2.2)))))))] [] rfl rfl) (AC ?_)
  exact ⟨⟨[_, _], ⟨.tmp _ _ rfl, ⟨.tmp _ _ rfl, trivial⟩⟩, rfl⟩, trivial⟩
 ·have h := Ap c1 h
  refine Au (Ab (Aa Ad rfl (qm rfl (qm rfl ?_))))
  obtain ⟨v3, a3, h⟩ := bind_some h
  refine AK [] (KQ N p0 p1 v3 a3) WI rfl (qm rfl (qx rfl (qx rfl (qa rfl (qa rfl (Ac (Ab (Aa Ad rfl (qm rfl (qm rfl (qa rfl (qa rfl (Ac ?_)))))))))))))
  obtain rfl := sj h
  refine Al (sm [] [(4, .e (.one (.pure (.val (.int .u64 v3.1))))), (5, .e (.one (.pure (.val (.int .u64 v3.2)))))] [] rfl rfl) (AC ?_)
  exact ⟨⟨[_, _], ⟨.tmp _ _ rfl, ⟨.tmp _ _ rfl, trivial⟩⟩, rfl⟩, trivial⟩
set_option maxRecDepth 10000 in
theorem Io (N : Nat) (p0 : List Int) (p1 : Int) (r : (List Int)) (h : EM N p0 p1 = some r) : AB Try.prog 73 [.e (.one (.pure (.sl (p0.map Ag)))), .e (.one (.pure (.val (.int .i64 p1))))] [(1, r.map Ag)] (.e (.one (.own 0))) := by
 unfold EM at h
 refine Aq (n := 48) (rs := [.tmp 4]) Try.func73 rfl rfl rfl (BM rfl) (BM rfl) rfl fun w0 S0 => ?_
 refine Ab (Aa Ad rfl (qa rfl (Ac ?_)))
 refine AW h (fun v1 => mk [(0, .e (.one (.pure (.sl (p0.map Ag))))), (1, .e (.one (.pure (.val (.int .i64 p1)))))] []) (fun j1 h => ?_) (fun v1 h => ?_)
 ·refine Ab (Aa Ad rfl (qm rfl (A8 rfl (Ac ?_))))
  refine As rfl (fun c2 => ?_) (fun c2 => ?_)
  ·have h := Ao c2 h
   refine Aa Ad rfl ?_
   cases h
  ·have h := Ap c2 h
   refine Au ?_
   exact Aw _ h (sm [] _ _ rfl rfl)
 ·refine Ab (Aa Ad rfl (qm rfl (AS AE rfl (HT VZ QN rfl (qm rfl (HT VZ QN rfl ?_))))))
  obtain ⟨v3, a3, h⟩ := bind_some h
  refine AK [] (LV N ((IntKind.wrap .u64 ((p0.length : Int)))) ((IntKind.wrap .u64 p1)) v3 a3) Xn rfl (qm rfl (qx rfl (qx rfl (qa rfl (qa rfl (Ac ?_))))))
  refine AW h (fun v4 => mk [(0, .e (.one (.pure (.sl (p0.map Ag))))), (6, .e (.one (.pure (.val (.int .u64 v3.2)))))] []) (fun j4 h => ?_) (fun v4 h => ?_)
  ·refine AW h (fun v5 => mk [(0, .e (.one (.pure (.sl (p0.map Ag))))), (6, .e (.one (.pure (.val (.int .u64 v3.2))))), (26, .e (.one (.pure (.val (.bool v5)))))] []) (fun j5 h => ?_) (fun v5 h => ?_)
   ·refine Aa Ad rfl (qm rfl (FT rfl (qm rfl ?_)))
    refine AI (t := 23) rfl (fun c6 => ?_) (fun c6 => ?_)
    ·have h := Ao c6 h
     refine qn rfl (qn rfl (qp rfl (Ac ?_)))
     exact Aw _ h (sm [] _ _ rfl rfl)
    ·have h := Ap c6 h
     refine qm rfl (FT rfl (qp rfl (Ac ?_)))
     exact Aw _ h (sm [] _ _ rfl rfl)
   ·refine As rfl (fun c7 => ?_) (fun c7 => ?_)
    ·have h := Ao c7 h
     refine Aa Ad rfl ?_
     cases h
    ·have h := Ap c7 h
     refine Au ?_
     exact Aw _ h (sm [] _ _ rfl rfl)
  ·refine Ab (Aa Ad rfl (qm rfl (HT Td T8 rfl ?_)))
   obtain ⟨c8, h⟩ := AN h
   refine Ja (.p rfl) rfl rfl rfl AE C7 KP (BM rfl) J5 rfl rfl rfl c8.1 c8.2.1 c8.2.2 (OM Ag _ ((0 : Int))) ?_
   refine qa rfl (Ac (Ab (Aa Ad rfl (qm rfl (qm rfl ?_)))))
   refine Rm Ag (List.replicate ((IntKind.wrap .i64 v3.2)).toNat ((0 : Int))) p0 (.p rfl) rfl (Jr Ag _ _ (List.replicate ((IntKind.wrap .i64 v3.2)).toNat ((0 : Int)))) rfl rfl (Ut Ag _ _ (fun _ => rfl)) trivial AE C7 ?_
   refine qa rfl (Ac (Ab ?_))
   refine AR (L := Dr N) h (fun v9 => mk [(7, .e (.one (.own 2001))), (8, .e (.one (.pure (.val (.int .i64 v9.2)))))] [(2001, .vec 1 (v9.1.map Ag))]) (fun v10 => mk [(7, .e (.one (.own 2002)))] [(2002, .vec 1 (v10.map Ag))]) (fun _ _ => rfl) (sm [(2001, 30)] _ _ rfl rfl) (fun j9 n9 v9 h => ?_) (fun v10 s h hs => ?_)
   ·unfold Dr at h
    refine Ab (Ab (Aa Ad rfl (qm rfl (qm rfl (Fx AE rfl (A8 rfl (Ac ?_)))))))
    refine As rfl (fun c11 => ?_) (fun c11 => ?_)
    ·have h := Ao c11 h
     refine Au (AU (Aa Ad rfl (qm rfl (qm rfl (qm rfl ?_)))))
     obtain ⟨c12, h⟩ := AN h
     have w13 : ((v9.2).toNat) + ((v9.1.length - (v9.2).toNat)) ≤ v9.1.length := by have := c12.2.1; have := c12.2.2; omega
     refine KE Ag v9.1 (.p rfl) rfl (Jr Ag _ _ v9.1) rfl AE C7 (.some _ _ _ _ c12.1) (.none _) ⟨rfl, trivial⟩ trivial c12.2.1 (by rw [Nat.zero_add]; exact c12.2.2) (Nat.zero_add _) rfl ?_
     refine qm rfl (qm rfl ?_)
     obtain ⟨c14, h⟩ := AN h
     have w15 : 0 + ((v9.2).toNat) ≤ v9.1.length := by have := c14.2.1; have := c14.2.2; omega
     refine KE Ag v9.1 (.p rfl) rfl (Jr Ag _ _ v9.1) rfl AE C7 (.none _) (.some _ _ _ _ c14.1) trivial ⟨rfl, trivial⟩ c14.2.1 (by rw [Nat.zero_add]; exact c14.2.2) (Nat.zero_add _) rfl ?_
     refine Rm Ag v9.1 (((v9.1.drop 0).take ((v9.2).toNat))) (.p rfl) rfl (ND Ag _ _ ((v9.2).toNat) ((v9.1.length - (v9.2).toNat)) v9.1 w13) rfl rfl (RM Ag _ _ 0 ((v9.2).toNat) v9.1 w15) ⟨rfl, trivial⟩ AE C7 ?_
     refine Bp rfl (qa rfl (A0 (by kernel_rfl) ?_))
     exact Aw _ h (sm [] _ _ rfl rfl)
    ·have h := Ap c11 h
     refine A5 ?_
     exact Aw _ h (sm [(2002, 2001)] _ _ rfl rfl)
   ·refine Al hs (Ab (Aa Ad rfl (qm rfl (qa rfl (Ac ?_)))))
    obtain rfl := sj h
    refine Al (sm [(1000, 2002)] [(4, .e (.one (.own 1000)))] [(1000, .vec 1 (v10.map Ag))] rfl rfl) (AC ?_)
    exact ⟨⟨[_], ⟨.tmp _ _ rfl, trivial⟩, rfl⟩, ⟨rfl, trivial⟩⟩
set_option maxRecDepth 10000 in
theorem Ix (N : Nat) (p0 : AF) (r : Bool) (h : EJ N p0 = some r) : AB Try.prog 74 [.e (.agg [.pure (.val (.int .i64 p0.fKind)), .pure (.val (.int .i64 p0.fFrom)), .pure (.val (.int .i64 p0.fTo)), .pure (.val (.bool p0.fAware)), .pure (.sl (p0.fOK.map (Ep eB))), .pure (.sl (p0.fRewrite.map (Ep eB)))])] [] (.e (.one (.pure (.val (.bool r))))) := by
 unfold EJ at h
 refine Aq (n := 11) (rs := [.tmp 2]) Try.func74 rfl rfl rfl (BM rfl) (BM rfl) rfl fun w0 S0 => ?_
 refine Ab (Aa Ad rfl (qb rfl (qa rfl (Ac ?_))))
 refine AW h (fun v1 => mk [(2, .e (.one (.pure (.val (.bool v1)))))] []) (fun j1 h => ?_) (fun v1 h => ?_)
 ·refine Aa Ad rfl (qf Fm rfl (ql B7 rfl (B4 rfl (qm rfl ?_))))
  refine AI (t := 6) rfl (fun c2 => ?_) (fun c2 => ?_)
  ·have h := Ao c2 h
   refine qn rfl (qn rfl (qn rfl (qp rfl (qa rfl (Ac ?_)))))
   exact Aw _ h (sm [] _ _ rfl rfl)
  ·have h := Ap c2 h
   refine qf Fm rfl (ql B7 rfl (B4 rfl (qp rfl (qa rfl (Ac ?_)))))
   exact Aw _ h (sm [] _ _ rfl rfl)
 ·obtain rfl := sj h
  refine Al (sm [] [(2, .e (.one (.pure (.val (.bool v1)))))] [] rfl rfl) (AC ?_)
  exact ⟨⟨[_], ⟨.tmp _ _ rfl, trivial⟩, rfl⟩, trivial⟩
set_option maxRecDepth 10000 in
theorem LD (N : Nat) (p0 : Ae) (r : Ah × Int) (h : Hi N p0 = some r) : AB Try.prog 37 [.e (.agg [.pure (.sl (p0.fVersions.map Ag)), .pure (.sl (p0.fNow.map Ag)), .pure (.sl (p0.fTarget.map Ag)), .pure (.sl (p0.fTables.map Ai))])] [(1, r.1.fBase.map Ag), (1, r.1.fNext.map Ag), (1, r.1.fHeld.map A3)] (.tup [.agg [.own 0, .own 1, .own 2], .one (.pure (.val (.int .i64 r.2)))]) := by
 unfold Hi at h
 refine Aq (n := 50) (rs := [.cell 2 43, .tmp 3]) Try.func37 rfl rfl rfl (BM rfl) (BM rfl) rfl fun w0 S0 => ?_
 refine Ab (Aa Ad rfl (qb rfl (qz Di rfl (qa rfl (Ac (Ab (Ab (Aa Ad rfl (qL DM Dw rfl ?_)))))))))
 obtain ⟨v1, a1, h⟩ := bind_some h
 refine AK [] (G1 N p0 v1 a1) Wc rfl (qa rfl (Ac (Ab (Aa Ad rfl (qm rfl (CD rfl (Ac ?_)))))))
 refine As rfl (fun c2 => ?_) (fun c2 => ?_)
 ·have h := Ao c2 h
  refine Ab (Aa Ad rfl (A7 Di GG rfl (qm rfl (qs AT rfl (qa rfl (Ac ?_))))))
  obtain rfl := sj h
  refine Al ((AG 2 0 2001 1 _ rfl rfl rfl rfl).trans ((AG 2 1 2002 1 _ rfl rfl rfl rfl).trans ((AG 2 2 2003 1 _ rfl rfl rfl rfl).trans (sm [(1000, 2001), (1001, 2002), (1002, 2003)] [(2, .e (.one (.ptr 2 0))), (3, .e (.one (.pure (.val (.int .i64 v1)))))] [(2, .box [.own 1000, .own 1001, .own 1002]), (1000, .vec 1 ((([] : List Int)).map Ag)), (1001, .vec 1 ((([] : List Int)).map Ag)), (1002, .vec 1 ((([] : List Int)).map A3))] rfl rfl)))) (AC ?_)
  exact ⟨⟨[_, _], ⟨.cellN _ _ _ _ _ _ _ rfl rfl Bq AT rfl rfl (Hm rfl), ⟨.tmp _ _ rfl, trivial⟩⟩, rfl⟩, ⟨rfl, rfl, rfl, trivial⟩⟩
 ·have h := Ap c2 h
  refine Au (Ab (Aa Ad rfl (qf GQ rfl (ql A9 rfl ?_))))
  obtain ⟨v3, a3, h⟩ := bind_some h
  refine AK [2004] (DB N p0.fNow v3 a3) Sl rfl (En AE C7 J5 rfl (qf GQ rfl (ql A9 rfl (AS AE rfl ?_))))
  obtain ⟨v4, a4, h⟩ := bind_some h
  refine Ed [2005] [17] (Io N (([(-1)] : List Int)) ((p0.fNow.length : Int)) v4 a4) Xi (E4 (fun _ => rfl) CO) rfl (qf CH rfl (ql Gw rfl (AS DV rfl ?_)))
  obtain ⟨c5, h⟩ := AN h
  refine Ja (.p rfl) rfl rfl rfl Dm Fn PR (BM rfl) OJ rfl rfl rfl c5.1 c5.2.1 c5.2.2 (OM A3 _ ((0 : Int))) ?_
  refine A7 Di GG rfl (qz Di rfl (qs AT rfl (A0 (by kernel_rfl) (Ab (Ab (Aa Ad rfl (qf CH rfl (ql Gw rfl (AS DV rfl (qm rfl (Ac ?_)))))))))))
  refine AR (L := FV N p0) h (fun v6 => mk [(1, .e (.one (.ptr 1 0))), (2, .e (.one (.ptr 2 0))), (5, .e (.one (.ptr 5 0))), (28, .e (.one (.pure (.sl (p0.fTables.map Ai))))), (29, .e (.one (.pure (.val (.int .i64 ((p0.fTables.length : Int))))))), (30, .e (.one (.pure (.val (.int .i64 v6.2)))))] [(1, .box [.pure (.sl (p0.fVersions.map Ag)), .pure (.sl (p0.fNow.map Ag)), .pure (.sl (p0.fTarget.map Ag)), .pure (.sl (p0.fTables.map Ai))]), (2, .box [.pure (.nil0), .pure (.nil0), .pure (.nil0)]), (5, .box [.own 2006, .own 2007, .own 2008]), (2006, .vec 1 (v3.map Ag)), (2007, .vec 1 (v4.map Ag)), (2008, .vec 1 (v6.1.map A3))]) (fun v7 => mk [(2, .e (.one (.ptr 2 0))), (5, .e (.one (.ptr 5 0)))] [(2, .box [.pure (.nil0), .pure (.nil0), .pure (.nil0)]), (5, .box [.own 2009, .own 2010, .own 2011]), (2009, .vec 1 (v3.map Ag)), (2010, .vec 1 (v4.map Ag)), (2011, .vec 1 (v7.map A3))]) (fun _ _ => rfl) (sm [(2006, 2004), (2007, 2005), (2008, 25)] _ _ rfl rfl) (fun j6 n6 v6 h => ?_) (fun v7 s h hs => ?_)
  ·unfold FV at h
   refine Ab (Aa Ad rfl (A8 rfl (Ac (Ab ?_))))
   refine As rfl (fun c8 => ?_) (fun c8 => ?_)
   ·have h := Ao c8 h
    refine Au ?_
    refine AW h (fun v9 => mk [(1, .e (.one (.ptr 1 0))), (2, .e (.one (.ptr 2 0))), (5, .e (.one (.ptr 5 0))), (28, .e (.one (.pure (.sl (p0.fTables.map Ai))))), (29, .e (.one (.pure (.val (.int .i64 ((p0.fTables.length : Int))))))), (30, .e (.one (.pure (.val (.int .i64 v6.2)))))] [(1, .box [.pure (.sl (p0.fVersions.map Ag)), .pure (.sl (p0.fNow.map Ag)), .pure (.sl (p0.fTarget.map Ag)), .pure (.sl (p0.fTables.map Ai))]), (2, .box [.pure (.nil0), .pure (.nil0), .pure (.nil0)]), (5, .box [.own 2012, .own 2013, .own 2014]), (2012, .vec 1 (v3.map Ag)), (2013, .vec 1 (v4.map Ag)), (2014, .vec 1 (v9.map A3))]) (fun j9 h => ?_) (fun v9 h => ?_)
    ·refine AU (Ab (Aa Ad rfl (qm rfl ?_)))
     obtain ⟨v10, a10, b10, h⟩ := Am h
     refine qi DV DJ a10 (Aj b10) rfl (qK Gf DJ rfl (qz Jd rfl (qa rfl (qs DJ rfl (Ac (Ab (Aa Ad rfl (qL Gf DJ rfl ?_))))))))
     obtain ⟨v11, a11, h⟩ := bind_some h
     refine AK [] (Ix N v10 v11 a11) Vg rfl (Ac ?_)
     refine As rfl (fun c12 => ?_) (fun c12 => ?_)
     ·have h := Ao c12 h
      refine Aa Ad rfl (qf Cz rfl (ql Gd rfl (qm rfl (qf GQ rfl (ql A9 rfl (qf CQ rfl (ql B7 rfl ?_)))))))
      obtain ⟨v13, a13, b13, h⟩ := Am h
      refine qi AE C7 a13 (Aj b13) rfl (qk B7 rfl ?_)
      obtain ⟨c14, h⟩ := AN h
      refine H0 rfl c14 ?_
      obtain ⟨v15, a15, b15, h⟩ := Am h
      refine qI Dm Fn a15 (Aj b15) rfl ?_
      refine D1 rfl rfl rfl rfl (Aj b15) rfl Fn rfl (BM rfl) (DO A3 v6.1 _ ((Dz .u8 1 v13))) ?_
      refine A0 (by kernel_rfl) ?_
      exact Aw _ h (sm [(2012, 2006), (2013, 2007), (2014, 2008)] _ _ rfl rfl)
     ·have h := Ap c12 h
      refine Au ?_
      exact Aw _ h (sm [(2012, 2006), (2013, 2007), (2014, 2008)] _ _ rfl rfl)
    ·refine Aa Ad rfl (Bp rfl (qm rfl (Ac ?_)))
     exact Aw _ h (sm [(2006, 2012), (2007, 2013), (2008, 2014)] _ _ rfl rfl)
   ·have h := Ap c8 h
    refine A5 ?_
    exact Aw _ h (sm [(2009, 2006), (2010, 2007), (2011, 2008)] _ _ rfl rfl)
  ·refine Al hs (Ab (Aa Ad rfl (qL Bq AT rfl (qs AT rfl (qa rfl (Ac ?_))))))
   obtain rfl := sj h
   refine Al (sm [(1000, 2009), (1001, 2010), (1002, 2011)] [(2, .e (.one (.ptr 2 0))), (3, .e (.one (.pure (.val (.int .i64 0)))))] [(2, .box [.own 1000, .own 1001, .own 1002]), (1000, .vec 1 (v3.map Ag)), (1001, .vec 1 (v4.map Ag)), (1002, .vec 1 (v7.map A3))] rfl rfl) (AC ?_)
   exact ⟨⟨[_, _], ⟨.cellN _ _ _ _ _ _ _ rfl rfl Bq AT rfl rfl (Hm rfl), ⟨.tmp _ _ rfl, trivial⟩⟩, rfl⟩, ⟨rfl, rfl, rfl, trivial⟩⟩
set_option maxRecDepth 10000 in
theorem Ii (N : Nat) (p0 : Ah) (p1 : Int) (r : Int) (h : Er N p0 p1 = some r) : AB Try.prog 99 [.e (.agg [.pure (.sl (p0.fBase.map Ag)), .pure (.sl (p0.fNext.map Ag)), .pure (.sl (p0.fHeld.map A3))]), .e (.one (.pure (.val (.int .i64 p1))))] [] (.e (.one (.pure (.val (.int .u8 r))))) := by
 unfold Er at h
 refine Aq (n := 27) (rs := [.tmp 4]) Try.func99 rfl rfl rfl (BM rfl) (BM rfl) rfl fun w0 S0 => ?_
 refine Ab (Aa Ad rfl (qb rfl (qa rfl (Ac (Ab (Aa Ad rfl (qf Cy rfl (ql A9 rfl (qm rfl ?_)))))))))
 obtain ⟨v1, a1, b1, h⟩ := Am h
 refine qi AE C7 a1 (Aj b1) rfl (qk B7 rfl ?_)
 obtain ⟨c2, h⟩ := AN h
 refine H0 rfl c2 (qa rfl (Ac ?_))
 refine AW h (fun v3 => mk [(5, .e (.one (.pure (.val (.int .u8 v3)))))] []) (fun j3 h => ?_) (fun v3 h => ?_)
 ·refine Ab (Aa Ad rfl (qf By rfl (ql A9 rfl (qm rfl ?_))))
  obtain ⟨v4, a4, b4, h⟩ := Am h
  refine qi AE C7 a4 (Aj b4) rfl (qk B7 rfl (Ey rfl (Ac ?_)))
  refine As rfl (fun c5 => ?_) (fun c5 => ?_)
  ·have h := Ao c5 h
   refine Aa Ad rfl (qm rfl (qf By rfl (ql A9 rfl (qm rfl ?_))))
   obtain ⟨v6, a6, b6, h⟩ := Am h
   refine qi AE C7 a6 (Aj b6) rfl (qk B7 rfl ?_)
   obtain ⟨c7, h⟩ := AN h
   refine H0 rfl c7 (Rq rfl (qa rfl (Ac ?_)))
   exact Aw _ h (sm [] _ _ rfl rfl)
  ·have h := Ap c5 h
   refine Au ?_
   exact Aw _ h (sm [] _ _ rfl rfl)
 ·refine Ab (Aa Ad rfl (qm rfl (qa rfl (Ac ?_))))
  obtain rfl := sj h
  refine Al (sm [] [(4, .e (.one (.pure (.val (.int .u8 v3)))))] [] rfl rfl) (AC ?_)
  exact ⟨⟨[_], ⟨.tmp _ _ rfl, trivial⟩, rfl⟩, trivial⟩
set_option maxRecDepth 10000 in
theorem H3 (N : Nat) (p0 : Ae) (p1 : Ah) (r : Int) (h : EC N p0 p1 = some r) : AB Try.prog 77 [.e (.agg [.pure (.sl (p0.fVersions.map Ag)), .pure (.sl (p0.fNow.map Ag)), .pure (.sl (p0.fTarget.map Ag)), .pure (.sl (p0.fTables.map Ai))]), .e (.agg [.pure (.sl (p1.fBase.map Ag)), .pure (.sl (p1.fNext.map Ag)), .pure (.sl (p1.fHeld.map A3))])] [] (.e (.one (.pure (.val (.int .i64 r))))) := by
 unfold EC at h
 refine Aq (n := 135) (rs := [.tmp 4]) Try.func77 rfl rfl rfl (BM rfl) (BM rfl) rfl fun w0 S0 => ?_
 refine Ab (Aa Ad rfl (qb rfl (qb rfl (qa rfl (Ac (Ab (Ab (Aa Ad rfl (qL DM Dw rfl ?_)))))))))
 obtain ⟨v1, a1, h⟩ := bind_some h
 refine AK [] (G1 N p0 v1 a1) Wc rfl (qa rfl (Ac (Ab (Aa Ad rfl (qm rfl (CD rfl (Ac ?_)))))))
 refine As rfl (fun c2 => ?_) (fun c2 => ?_)
 ·have h := Ao c2 h
  refine Ab (Aa Ad rfl (qm rfl (qa rfl (Ac ?_))))
  obtain rfl := sj h
  refine Al (sm [] [(4, .e (.one (.pure (.val (.int .i64 v1)))))] [] rfl rfl) (AC ?_)
  exact ⟨⟨[_], ⟨.tmp _ _ rfl, trivial⟩, rfl⟩, trivial⟩
 ·have h := Ap c2 h
  refine Au (Ab ?_)
  refine AW h (fun v3 => mk [(2, .e (.one (.ptr 2 0))), (3, .e (.one (.ptr 3 0))), (41, .e (.one (.pure (.val (.bool v3)))))] [(2, .box [.pure (.sl (p0.fVersions.map Ag)), .pure (.sl (p0.fNow.map Ag)), .pure (.sl (p0.fTarget.map Ag)), .pure (.sl (p0.fTables.map Ai))]), (3, .box [.pure (.sl (p1.fBase.map Ag)), .pure (.sl (p1.fNext.map Ag)), .pure (.sl (p1.fHeld.map A3))])]) (fun j3 h => ?_) (fun v3 h => ?_)
  ·refine Aa Ad rfl (qf Cy rfl (ql A9 rfl (AS AE rfl (qf Bn rfl (ql A9 rfl (AS AE rfl (CD rfl (qm rfl ?_))))))))
   refine AI (t := 24) rfl (fun c4 => ?_) (fun c4 => ?_)
   ·have h := Ao c4 h
    refine qn rfl (qn rfl (qn rfl (qn rfl (qn rfl (qn rfl (qn rfl (qp rfl (qm rfl (qn rfl (qn rfl (qn rfl (qn rfl (qn rfl (qn rfl (qn rfl (qp rfl (Ac ?_)))))))))))))))))
    exact Aw _ h (sm [] _ _ rfl rfl)
   ·have h := Ap c4 h
    refine qf By rfl (ql A9 rfl (AS AE rfl (qf Bn rfl (ql A9 rfl (AS AE rfl (CD rfl (qp rfl (qm rfl ?_))))))))
    refine AI (t := 33) rfl (fun c5 => ?_) (fun c5 => ?_)
    ·have h := Ao c5 h
     refine qn rfl (qn rfl (qn rfl (qn rfl (qn rfl (qn rfl (qn rfl (qp rfl (Ac ?_))))))))
     exact Aw _ h (sm [] _ _ rfl rfl)
    ·have h := Ap c5 h
     refine qf Cz rfl (ql Gd rfl (AS Dm rfl (qf CH rfl (ql Gw rfl (AS DV rfl (CD rfl (qp rfl (Ac ?_))))))))
     exact Aw _ h (sm [] _ _ rfl rfl)
  ·refine As rfl (fun c6 => ?_) (fun c6 => ?_)
   ·have h := Ao c6 h
    refine Ab (Aa Ad rfl (qa rfl (Ac ?_)))
    obtain rfl := sj h
    refine Al (sm [] [(4, .e (.one (.pure (.val (.int .i64 6)))))] [] rfl rfl) (AC ?_)
    exact ⟨⟨[_], ⟨.tmp _ _ rfl, trivial⟩, rfl⟩, trivial⟩
   ·have h := Ap c6 h
    refine Au (Ab (Ab (Aa Ad rfl (qf Bn rfl (ql A9 rfl (AS AE rfl (qm rfl (Ac ?_))))))))
    refine AR (L := DH N p0 p1) h (fun v7 => mk [(2, .e (.one (.ptr 2 0))), (3, .e (.one (.ptr 3 0))), (43, .e (.one (.pure (.sl (p0.fVersions.map Ag))))), (44, .e (.one (.pure (.val (.int .i64 ((p0.fVersions.length : Int))))))), (45, .e (.one (.pure (.val (.int .i64 v7)))))] [(2, .box [.pure (.sl (p0.fVersions.map Ag)), .pure (.sl (p0.fNow.map Ag)), .pure (.sl (p0.fTarget.map Ag)), .pure (.sl (p0.fTables.map Ai))]), (3, .box [.pure (.sl (p1.fBase.map Ag)), .pure (.sl (p1.fNext.map Ag)), .pure (.sl (p1.fHeld.map A3))])]) (fun v8 => mk [(2, .e (.one (.ptr 2 0))), (3, .e (.one (.ptr 3 0)))] [(2, .box [.pure (.sl (p0.fVersions.map Ag)), .pure (.sl (p0.fNow.map Ag)), .pure (.sl (p0.fTarget.map Ag)), .pure (.sl (p0.fTables.map Ai))]), (3, .box [.pure (.sl (p1.fBase.map Ag)), .pure (.sl (p1.fNext.map Ag)), .pure (.sl (p1.fHeld.map A3))])]) (fun _ _ => rfl) (sm [] _ _ rfl rfl) (fun j7 n7 v7 h => ?_) (fun v8 s h hs => ?_)
    ·unfold DH at h
     refine Ab (Aa Ad rfl (A8 rfl (Ac (Ab ?_))))
     refine As rfl (fun c9 => ?_) (fun c9 => ?_)
     ·have h := Ao c9 h
      refine Au (Ab (AU (Ab (Aa Ad rfl (qm rfl ?_)))))
      obtain ⟨v10, a10, b10, h⟩ := Am h
      refine qi AE C7 a10 (Aj b10) rfl (qk B7 rfl (qa rfl (qa rfl (Ac (Ab ?_)))))
      refine AW h (fun v11 => mk [(2, .e (.one (.ptr 2 0))), (3, .e (.one (.ptr 3 0))), (6, .e (.one (.pure (.val (.int .i64 v7))))), (43, .e (.one (.pure (.sl (p0.fVersions.map Ag))))), (44, .e (.one (.pure (.val (.int .i64 ((p0.fVersions.length : Int))))))), (45, .e (.one (.pure (.val (.int .i64 v7))))), (81, .e (.one (.pure (.val (.bool v11)))))] [(2, .box [.pure (.sl (p0.fVersions.map Ag)), .pure (.sl (p0.fNow.map Ag)), .pure (.sl (p0.fTarget.map Ag)), .pure (.sl (p0.fTables.map Ai))]), (3, .box [.pure (.sl (p1.fBase.map Ag)), .pure (.sl (p1.fNext.map Ag)), .pure (.sl (p1.fHeld.map A3))])]) (fun j11 h => ?_) (fun v11 h => ?_)
      ·refine Aa Ad rfl (qf Cy rfl (ql A9 rfl (qm rfl ?_)))
       obtain ⟨v12, a12, b12, h⟩ := Am h
       refine qi AE C7 a12 (Aj b12) rfl (qk B7 rfl (A8 rfl (qm rfl ?_)))
       refine AI (t := 56) rfl (fun c13 => ?_) (fun c13 => ?_)
       ·have h := Ao c13 h
        refine qn rfl (qn rfl (qn rfl (qn rfl (qn rfl (qn rfl (qn rfl (qp rfl (qm rfl (qn rfl (qn rfl (qn rfl (qn rfl (qn rfl (qn rfl (qp rfl (qm rfl (qn rfl (qn rfl (qn rfl (qn rfl (qn rfl (qn rfl (qn rfl (qp rfl (Ac ?_)))))))))))))))))))))))))
        exact Aw _ h (sm [] _ _ rfl rfl)
       ·have h := Ap c13 h
        refine qf Cy rfl (ql A9 rfl (qm rfl ?_))
        obtain ⟨v14, a14, b14, h⟩ := Am h
        refine qi AE C7 a14 (Aj b14) rfl (qk B7 rfl (qm rfl (Ey rfl (qp rfl (qm rfl ?_)))))
        refine AI (t := 65) rfl (fun c15 => ?_) (fun c15 => ?_)
        ·have h := Ao c15 h
         refine qn rfl (qn rfl (qn rfl (qn rfl (qn rfl (qn rfl (qp rfl (qm rfl (qn rfl (qn rfl (qn rfl (qn rfl (qn rfl (qn rfl (qn rfl (qp rfl (Ac ?_))))))))))))))))
         exact Aw _ h (sm [] _ _ rfl rfl)
        ·have h := Ap c15 h
         refine qf By rfl (ql A9 rfl (qm rfl ?_))
         obtain ⟨v16, a16, b16, h⟩ := Am h
         refine qi AE C7 a16 (Aj b16) rfl (qk B7 rfl (A8 rfl (qp rfl (qm rfl ?_))))
         refine AI (t := 73) rfl (fun c17 => ?_) (fun c17 => ?_)
         ·have h := Ao c17 h
          refine qn rfl (qn rfl (qn rfl (qn rfl (qn rfl (qn rfl (qn rfl (qp rfl (Ac ?_))))))))
          exact Aw _ h (sm [] _ _ rfl rfl)
         ·have h := Ap c17 h
          refine qf By rfl (ql A9 rfl (qm rfl ?_))
          obtain ⟨v18, a18, b18, h⟩ := Am h
          refine qi AE C7 a18 (Aj b18) rfl (qk B7 rfl (qm rfl (Ey rfl (qp rfl (Ac ?_)))))
          exact Aw _ h (sm [] _ _ rfl rfl)
      ·refine As rfl (fun c19 => ?_) (fun c19 => ?_)
       ·have h := Ao c19 h
        refine Ab (Aa Ad rfl (qa rfl (Ac ?_)))
        obtain rfl := sj h
        refine Al (sm [] [(4, .e (.one (.pure (.val (.int .i64 7)))))] [] rfl rfl) (AC ?_)
        exact ⟨⟨[_], ⟨.tmp _ _ rfl, trivial⟩, rfl⟩, trivial⟩
       ·have h := Ap c19 h
        refine Au (Ab (Aa Ad rfl (qf Cy rfl (ql A9 rfl (qm rfl ?_)))))
        obtain ⟨v20, a20, b20, h⟩ := Am h
        refine qi AE C7 a20 (Aj b20) rfl (qk B7 rfl (qf By rfl (ql A9 rfl (qm rfl ?_))))
        obtain ⟨v21, a21, b21, h⟩ := Am h
        refine qi AE C7 a21 (Aj b21) rfl (qk B7 rfl (B4 rfl (A0 (by kernel_rfl) ?_)))
        refine As rfl (fun c22 => ?_) (fun c22 => ?_)
        ·have h := Ao c22 h
         refine Ab (Aa Ad rfl (qa rfl (Ac ?_)))
         obtain rfl := sj h
         refine Al (sm [] [(4, .e (.one (.pure (.val (.int .i64 1)))))] [] rfl rfl) (AC ?_)
         exact ⟨⟨[_], ⟨.tmp _ _ rfl, trivial⟩, rfl⟩, trivial⟩
        ·have h := Ap c22 h
         refine Au (Aa Ad rfl (Bp rfl (qm rfl (Ac ?_))))
         exact Aw _ h (sm [] _ _ rfl rfl)
     ·have h := Ap c9 h
      refine A5 ?_
      exact Aw _ h (sm [] _ _ rfl rfl)
    ·refine Al hs (Ab (Ab (Aa Ad rfl (qf CH rfl (ql Gw rfl (AS DV rfl (qm rfl (Ac ?_))))))))
     refine AR (L := Dp N p0 p1) h (fun v23 => mk [(2, .e (.one (.ptr 2 0))), (3, .e (.one (.ptr 3 0))), (95, .e (.one (.pure (.sl (p0.fTables.map Ai))))), (96, .e (.one (.pure (.val (.int .i64 ((p0.fTables.length : Int))))))), (97, .e (.one (.pure (.val (.int .i64 v23)))))] [(2, .box [.pure (.sl (p0.fVersions.map Ag)), .pure (.sl (p0.fNow.map Ag)), .pure (.sl (p0.fTarget.map Ag)), .pure (.sl (p0.fTables.map Ai))]), (3, .box [.pure (.sl (p1.fBase.map Ag)), .pure (.sl (p1.fNext.map Ag)), .pure (.sl (p1.fHeld.map A3))])]) (fun v24 => mk [] []) (fun _ _ => rfl) (sm [] _ _ rfl rfl) (fun j23 n23 v23 h => ?_) (fun v24 s h hs => ?_)
     ·unfold Dp at h
      refine Ab (Aa Ad rfl (A8 rfl (Ac (Ab ?_))))
      refine As rfl (fun c25 => ?_) (fun c25 => ?_)
      ·have h := Ao c25 h
       refine Au (Ab (AU (Ab (Aa Ad rfl (qm rfl ?_)))))
       obtain ⟨v26, a26, b26, h⟩ := Am h
       refine qi DV DJ a26 (Aj b26) rfl (qK Gf DJ rfl (qz Jd rfl (qa rfl (qs DJ rfl (Ac (Ab (Aa Ad rfl (qa rfl (qa rfl (Ac ?_))))))))))
       refine AW h (fun v27 => mk [(2, .e (.one (.ptr 2 0))), (3, .e (.one (.ptr 3 0))), (8, .e (.one (.pure (.val (.int .i64 v23))))), (10, .e (.one (.pure (.val (.int .u8 v27.1))))), (11, .e (.one (.pure (.val (.int .u8 v27.2))))), (95, .e (.one (.pure (.sl (p0.fTables.map Ai))))), (96, .e (.one (.pure (.val (.int .i64 ((p0.fTables.length : Int))))))), (97, .e (.one (.pure (.val (.int .i64 v23)))))] [(2, .box [.pure (.sl (p0.fVersions.map Ag)), .pure (.sl (p0.fNow.map Ag)), .pure (.sl (p0.fTarget.map Ag)), .pure (.sl (p0.fTables.map Ai))]), (3, .box [.pure (.sl (p1.fBase.map Ag)), .pure (.sl (p1.fNext.map Ag)), .pure (.sl (p1.fHeld.map A3))])]) (fun j27 h => ?_) (fun v27 h => ?_)
       ·refine Ab (Aa Ad rfl (qL Gf DJ rfl ?_))
        obtain ⟨v28, a28, h⟩ := bind_some h
        refine AK [] (Ix N v26 v28 a28) Vg rfl (Ac ?_)
        refine As rfl (fun c29 => ?_) (fun c29 => ?_)
        ·have h := Ao c29 h
         refine Aa Ad rfl (qL Bq AT rfl (qf CQ rfl (ql B7 rfl ?_)))
         obtain ⟨v30, a30, h⟩ := bind_some h
         refine AK [] (Ii N p1 v26.fFrom v30 a30) Vf rfl (qf Bn rfl (ql A9 rfl (qf CQ rfl (ql B7 rfl ?_))))
         obtain ⟨v31, a31, b31, h⟩ := Am h
         refine qi AE C7 a31 (Aj b31) rfl (qk B7 rfl ?_)
         obtain ⟨c32, h⟩ := AN h
         refine H0 rfl c32 (Nu rfl (qa rfl (qa rfl (A0 (by kernel_rfl) ?_))))
         exact Aw _ h (sm [] _ _ rfl rfl)
        ·have h := Ap c29 h
         refine Au ?_
         exact Aw _ h (sm [] _ _ rfl rfl)
       ·refine AW h (fun v33 => mk [(2, .e (.one (.ptr 2 0))), (3, .e (.one (.ptr 3 0))), (95, .e (.one (.pure (.sl (p0.fTables.map Ai))))), (96, .e (.one (.pure (.val (.int .i64 ((p0.fTables.length : Int))))))), (97, .e (.one (.pure (.val (.int .i64 v23))))), (133, .e (.one (.pure (.val (.bool v33)))))] [(2, .box [.pure (.sl (p0.fVersions.map Ag)), .pure (.sl (p0.fNow.map Ag)), .pure (.sl (p0.fTarget.map Ag)), .pure (.sl (p0.fTables.map Ai))]), (3, .box [.pure (.sl (p1.fBase.map Ag)), .pure (.sl (p1.fNext.map Ag)), .pure (.sl (p1.fHeld.map A3))])]) (fun j33 h => ?_) (fun v33 h => ?_)
        ·refine Aa Ad rfl (qm rfl (qf Cz rfl (ql Gd rfl (qm rfl ?_))))
         obtain ⟨v34, a34, b34, h⟩ := Am h
         refine qi Dm Fn a34 (Aj b34) rfl (qk Jz rfl (HJ rfl (CD rfl (qm rfl ?_))))
         refine AI (t := 124) rfl (fun c35 => ?_) (fun c35 => ?_)
         ·have h := Ao c35 h
          refine qn rfl (qn rfl (qn rfl (qn rfl (qn rfl (qn rfl (qn rfl (qn rfl (qp rfl (Ac ?_)))))))))
          exact Aw _ h (sm [] _ _ rfl rfl)
         ·have h := Ap c35 h
          refine qf Cz rfl (ql Gd rfl (qm rfl ?_))
          obtain ⟨v36, a36, b36, h⟩ := Am h
          refine qi Dm Fn a36 (Aj b36) rfl (qk Jz rfl (qm rfl (HJ rfl (CD rfl (qp rfl (Ac ?_))))))
          exact Aw _ h (sm [] _ _ rfl rfl)
        ·refine As rfl (fun c37 => ?_) (fun c37 => ?_)
         ·have h := Ao c37 h
          refine Ab (Aa Ad rfl (qa rfl (Ac ?_)))
          obtain rfl := sj h
          refine Al (sm [] [(4, .e (.one (.pure (.val (.int .i64 1)))))] [] rfl rfl) (AC ?_)
          exact ⟨⟨[_], ⟨.tmp _ _ rfl, trivial⟩, rfl⟩, trivial⟩
         ·have h := Ap c37 h
          refine Au (Aa Ad rfl (Bp rfl (qm rfl (Ac ?_))))
          exact Aw _ h (sm [] _ _ rfl rfl)
      ·have h := Ap c25 h
       refine A5 ?_
       exact Aw _ h (sm [] _ _ rfl rfl)
     ·refine Al hs (Ab (Aa Ad rfl (qa rfl (Ac ?_))))
      obtain rfl := sj h
      refine Al (sm [] [(4, .e (.one (.pure (.val (.int .i64 0)))))] [] rfl rfl) (AC ?_)
      exact ⟨⟨[_], ⟨.tmp _ _ rfl, trivial⟩, rfl⟩, trivial⟩
set_option maxRecDepth 10000 in
theorem EY (N : Nat) (p0 : List Int) (r : (List Int)) (h : BP N p0 = some r) : AB Try.prog 98 [.e (.one (.pure (.sl (p0.map A3))))] [(1, r.map A3)] (.e (.one (.own 0))) := by
 unfold BP at h
 refine Aq (n := 8) (rs := [.tmp 2]) Try.func98 rfl rfl rfl (BM rfl) (BM rfl) rfl fun w0 S0 => ?_
 refine Ab (Aa Ad rfl (qa rfl (Ac (Ab (Ab (Aa Ad rfl (qm rfl ?_)))))))
 refine QK (.p rfl) rfl Dm ?_
 refine Ac ?_
 refine QT rfl (fun c2 => ?_) ?_
 ·have c2 := List.map_eq_nil_iff.1 c2
  rw [c2] at h
  have h : (some (([] : List Int))) = some r := h
  refine Ab (Aa Ad rfl (qa rfl (Ac ?_)))
  obtain rfl := sj h
  refine Al ((BF 2 2001 1 rfl rfl rfl).trans (sm [(1000, 2001)] [(2, .e (.one (.own 1000)))] [(1000, .vec 1 ((([] : List Int)).map A3))] rfl rfl)) (AC ?_)
  exact ⟨⟨[_], ⟨.tmp _ _ rfl, trivial⟩, rfl⟩, ⟨rfl, trivial⟩⟩
 ·refine Au (Ab (Aa Ad rfl (En Dm Fn OJ rfl (qm rfl ?_))))
  obtain ⟨c1, h⟩ := AN h
  refine I8 (f := A3) Dm Dm Fn PR OJ (fun _ => rfl) c1 rfl (qa rfl (Ac ?_))
  obtain rfl := sj h
  refine Al (sm [(1000, 7)] [(2, .e (.one (.own 1000)))] [(1000, .vec 1 (((([] : List Int)) ++ p0).map A3))] rfl rfl) (AC ?_)
  exact ⟨⟨[_], ⟨.tmp _ _ rfl, trivial⟩, rfl⟩, ⟨rfl, trivial⟩⟩
set_option maxRecDepth 10000 in
theorem OC (N : Nat) (p0 : Ae) (p1 : Ah) (r : (List Ah) × Int) (h : FO N p0 p1 = some r) : AB Try.prog 75 [.e (.agg [.pure (.sl (p0.fVersions.map Ag)), .pure (.sl (p0.fNow.map Ag)), .pure (.sl (p0.fTarget.map Ag)), .pure (.sl (p0.fTables.map Ai))]), .e (.agg [.pure (.sl (p1.fBase.map Ag)), .pure (.sl (p1.fNext.map Ag)), .pure (.sl (p1.fHeld.map A3))])] [(3, r.1.map Ea)] (.tup [.one (.own 0), .one (.pure (.val (.int .i64 r.2)))]) := by
 unfold FO at h
 refine Aq (n := 75) (rs := [.tmp 4, .tmp 5]) Try.func75 rfl rfl rfl (BM rfl) (BM rfl) rfl fun w0 S0 => ?_
 refine Ab (Aa Ad rfl (qb rfl (qb rfl (qa rfl (qa rfl (Ac (Ab (Ab (Aa Ad rfl (qL DM Dw rfl (qL Bq AT rfl ?_)))))))))))
 obtain ⟨v1, a1, h⟩ := bind_some h
 refine AK [] (H3 N p0 p1 v1 a1) TB rfl (qa rfl (Ac (Ab (Aa Ad rfl (qm rfl (CD rfl (Ac ?_)))))))
 refine As rfl (fun c2 => ?_) (fun c2 => ?_)
 ·have h := Ao c2 h
  refine Ab (Aa Ad rfl (qm rfl (qa rfl (qa rfl (Ac ?_)))))
  obtain rfl := sj h
  refine Al ((BF 4 2001 3 rfl rfl rfl).trans (sm [(1000, 2001)] [(4, .e (.one (.own 1000))), (5, .e (.one (.pure (.val (.int .i64 v1)))))] [(1000, .vec 3 ((([] : List Ah)).map Ea))] rfl rfl)) (AC ?_)
  exact ⟨⟨[_, _], ⟨.tmp _ _ rfl, ⟨.tmp _ _ rfl, trivial⟩⟩, rfl⟩, ⟨rfl, trivial⟩⟩
 ·have h := Ap c2 h
  refine Au (Ab (Aa Ad rfl (qa rfl (Ac (Ab (Ab (Aa Ad rfl (qf By rfl (ql A9 rfl (AS AE rfl (qm rfl (Ac ?_))))))))))))
  refine AR (L := Dq N p1) h (fun v3 => mk [(3, .e (.one (.ptr 3 0))), (7, .e (.one (.own 2002))), (22, .e (.one (.pure (.sl (p1.fNext.map Ag))))), (23, .e (.one (.pure (.val (.int .i64 ((p1.fNext.length : Int))))))), (24, .e (.one (.pure (.val (.int .i64 v3.2)))))] [(3, .box [.pure (.sl (p1.fBase.map Ag)), .pure (.sl (p1.fNext.map Ag)), .pure (.sl (p1.fHeld.map A3))]), (2002, .vec 1 (v3.1.map Ag))]) (fun v4 => mk [(3, .e (.one (.ptr 3 0))), (7, .e (.one (.own 2003)))] [(3, .box [.pure (.sl (p1.fBase.map Ag)), .pure (.sl (p1.fNext.map Ag)), .pure (.sl (p1.fHeld.map A3))]), (2003, .vec 1 (v4.map Ag))]) (fun _ _ => rfl) ((BF 7 2005 1 rfl rfl rfl).trans (sm [(2002, 2005)] _ _ rfl rfl)) (fun j3 n3 v3 h => ?_) (fun v4 s h hs => ?_)
  ·unfold Dq at h
   refine Ab (Aa Ad rfl (A8 rfl (Ac (Ab ?_))))
   refine As rfl (fun c5 => ?_) (fun c5 => ?_)
   ·have h := Ao c5 h
    refine Au ?_
    refine AW h (fun v6 => mk [(3, .e (.one (.ptr 3 0))), (7, .e (.one (.own 2004))), (22, .e (.one (.pure (.sl (p1.fNext.map Ag))))), (23, .e (.one (.pure (.val (.int .i64 ((p1.fNext.length : Int))))))), (24, .e (.one (.pure (.val (.int .i64 v3.2)))))] [(3, .box [.pure (.sl (p1.fBase.map Ag)), .pure (.sl (p1.fNext.map Ag)), .pure (.sl (p1.fHeld.map A3))]), (2004, .vec 1 (v6.map Ag))]) (fun j6 h => ?_) (fun v6 h => ?_)
    ·refine AU (Ab (Aa Ad rfl (qm rfl ?_)))
     obtain ⟨v7, a7, b7, h⟩ := Am h
     refine qi AE C7 a7 (Aj b7) rfl (qk B7 rfl (qa rfl (qa rfl (Ac (Ab (Aa Ad rfl (qm rfl (Ey rfl (Ac ?_)))))))))
     refine As rfl (fun c8 => ?_) (fun c8 => ?_)
     ·have h := Ao c8 h
      refine Aa Ad rfl (qm rfl (qm rfl (En AE C7 J5 rfl ?_)))
      obtain ⟨c9, h⟩ := AN h
      refine Dy (f := Ag) AE AE C7 KP J5 c9 rfl (qa rfl (Ac ?_))
      exact Aw _ h (sm [(2004, 34)] _ _ rfl rfl)
     ·have h := Ap c8 h
      refine Au ?_
      exact Aw _ h (sm [(2004, 2002)] _ _ rfl rfl)
    ·refine Aa Ad rfl (Bp rfl (qm rfl (Ac ?_)))
     exact Aw _ h (sm [(2002, 2004)] _ _ rfl rfl)
   ·have h := Ap c5 h
    refine A5 ?_
    exact Aw _ h (sm [(2003, 2002)] _ _ rfl rfl)
  ·refine Al hs (Ab (Aa Ad rfl (qa rfl (Ac (Ab (Ab (Aa Ad rfl (qm rfl (Fx AE rfl ?_)))))))))
   obtain ⟨c10, h⟩ := AN h
   refine H0 rfl c10 (qm rfl (Ac ?_))
   refine AR (L := CI N p1 v4) h (fun v11 => mk [(3, .e (.one (.ptr 3 0))), (7, .e (.one (.own 2006))), (10, .e (.one (.own 2007))), (38, .e (.one (.pure (.val (.int .i64 ((Dz .i64 1 ((v4.length : Int))))))))), (39, .e (.one (.pure (.val (.int .i64 v11.2)))))] [(3, .box [.pure (.sl (p1.fBase.map Ag)), .pure (.sl (p1.fNext.map Ag)), .pure (.sl (p1.fHeld.map A3))]), (2006, .vec 1 (v4.map Ag)), (2007, .vec 3 (v11.1.map Ea))]) (fun v12 => mk [(10, .e (.one (.own 2008)))] [(2008, .vec 3 (v12.map Ea))]) (fun _ _ => rfl) ((BF 10 2027 3 rfl rfl rfl).trans (sm [(2006, 2003), (2007, 2027)] _ _ rfl rfl)) (fun j11 n11 v11 h => ?_) (fun v12 s h hs => ?_)
   ·unfold CI at h
    refine Ab (Aa Ad rfl (A8 rfl (Ac (Ab ?_))))
    refine As rfl (fun c13 => ?_) (fun c13 => ?_)
    ·have h := Ao c13 h
     refine Au (Ab (AU (Ab (Aa Ad rfl (qm rfl (qa rfl (Ac (Ab (Aa Ad rfl (qf Cy rfl (ql A9 rfl ?_)))))))))))
     obtain ⟨v14, a14, h⟩ := bind_some h
     refine AK [2009] (DB N p1.fBase v14 a14) Sl rfl (qf By rfl (ql A9 rfl ?_))
     obtain ⟨v15, a15, h⟩ := bind_some h
     refine AK [2010] (DB N p1.fNext v15 a15) Sl rfl (qf Cz rfl (ql Gd rfl ?_))
     obtain ⟨v16, a16, h⟩ := bind_some h
     refine AK [2011] (EY N p1.fHeld v16 a16) WJ rfl (A7 Di GG rfl (qz Di rfl (qs AT rfl (A0 (by kernel_rfl) (Ab (Ab (Aa Ad rfl (qm rfl (Fx AE rfl (qm rfl (Ac ?_)))))))))))
     refine AR (L := CL N v4 v11) h (fun v17 => mk [(3, .e (.one (.ptr 3 0))), (7, .e (.one (.own 2015))), (10, .e (.one (.own 2016))), (11, .e (.one (.pure (.val (.int .i64 v11.2))))), (12, .e (.one (.ptr 12 0))), (38, .e (.one (.pure (.val (.int .i64 ((Dz .i64 1 ((v4.length : Int))))))))), (39, .e (.one (.pure (.val (.int .i64 v11.2))))), (52, .e (.one (.own 2015))), (53, .e (.one (.pure (.val (.int .i64 ((v4.length : Int))))))), (54, .e (.one (.pure (.val (.int .i64 v17.2)))))] [(3, .box [.pure (.sl (p1.fBase.map Ag)), .pure (.sl (p1.fNext.map Ag)), .pure (.sl (p1.fHeld.map A3))]), (12, .box [.own 2012, .own 2013, .own 2014]), (2012, .vec 1 (v14.map Ag)), (2013, .vec 1 (v17.1.map Ag)), (2014, .vec 1 (v16.map A3)), (2015, .vec 1 (v4.map Ag)), (2016, .vec 3 (v11.1.map Ea))]) (fun v18 => mk [(3, .e (.one (.ptr 3 0))), (7, .e (.one (.own 2020))), (10, .e (.one (.own 2021))), (12, .e (.one (.ptr 12 0))), (38, .e (.one (.pure (.val (.int .i64 ((Dz .i64 1 ((v4.length : Int))))))))), (39, .e (.one (.pure (.val (.int .i64 v11.2)))))] [(3, .box [.pure (.sl (p1.fBase.map Ag)), .pure (.sl (p1.fNext.map Ag)), .pure (.sl (p1.fHeld.map A3))]), (12, .box [.own 2017, .own 2018, .own 2019]), (2017, .vec 1 (v14.map Ag)), (2018, .vec 1 (v18.map Ag)), (2019, .vec 1 (v16.map A3)), (2020, .vec 1 (v4.map Ag)), (2021, .vec 3 (v11.1.map Ea))]) (fun _ _ => rfl) (sm [(2012, 2009), (2013, 2010), (2014, 2011), (2015, 2006), (2016, 2007)] _ _ rfl rfl) (fun j17 n17 v17 h => ?_) (fun v18 s h hs => ?_)
     ·unfold CL at h
      refine Ab (Aa Ad rfl (A8 rfl (Ac (Ab ?_))))
      refine As rfl (fun c19 => ?_) (fun c19 => ?_)
      ·have h := Ao c19 h
       refine Au ?_
       refine AW h (fun v20 => mk [(3, .e (.one (.ptr 3 0))), (7, .e (.one (.own 2025))), (10, .e (.one (.own 2026))), (11, .e (.one (.pure (.val (.int .i64 v11.2))))), (12, .e (.one (.ptr 12 0))), (38, .e (.one (.pure (.val (.int .i64 ((Dz .i64 1 ((v4.length : Int))))))))), (39, .e (.one (.pure (.val (.int .i64 v11.2))))), (52, .e (.one (.own 2025))), (53, .e (.one (.pure (.val (.int .i64 ((v4.length : Int))))))), (54, .e (.one (.pure (.val (.int .i64 v17.2)))))] [(3, .box [.pure (.sl (p1.fBase.map Ag)), .pure (.sl (p1.fNext.map Ag)), .pure (.sl (p1.fHeld.map A3))]), (12, .box [.own 2022, .own 2023, .own 2024]), (2022, .vec 1 (v14.map Ag)), (2023, .vec 1 (v20.map Ag)), (2024, .vec 1 (v16.map A3)), (2025, .vec 1 (v4.map Ag)), (2026, .vec 3 (v11.1.map Ea))]) (fun j20 h => ?_) (fun v20 h => ?_)
       ·refine AU (Ab (Aa Ad rfl (qm rfl ?_)))
        obtain ⟨v21, a21, b21, h⟩ := Am h
        refine qI AE C7 a21 (Aj b21) rfl (qj B7 (Aj b21) rfl (qa rfl (qa rfl (Ac (Ab (Aa Ad rfl (qm rfl (qm rfl ?_))))))))
        obtain ⟨c22, h⟩ := AN h
        refine It rfl c22 (K9 rfl (B4 rfl (Ac ?_)))
        refine As rfl (fun c23 => ?_) (fun c23 => ?_)
        ·have h := Ao c23 h
         refine Aa Ad rfl (qf By rfl (ql A9 rfl (qm rfl ?_)))
         obtain ⟨v24, a24, b24, h⟩ := Am h
         refine qI AE C7 a24 (Aj b24) rfl ?_
         refine D1 rfl rfl rfl rfl (Aj b24) rfl C7 rfl (BM rfl) (DO Ag v17.1 _ ((-1))) ?_
         refine Ac ?_
         exact Aw _ h (sm [(2022, 2012), (2023, 2013), (2024, 2014), (2025, 2015), (2026, 2016)] _ _ rfl rfl)
        ·have h := Ap c23 h
         refine Au ?_
         exact Aw _ h (sm [(2022, 2012), (2023, 2013), (2024, 2014), (2025, 2015), (2026, 2016)] _ _ rfl rfl)
       ·refine Aa Ad rfl (Bp rfl (qm rfl (Ac ?_)))
        exact Aw _ h (sm [(2012, 2022), (2013, 2023), (2014, 2024), (2015, 2025), (2016, 2026)] _ _ rfl rfl)
      ·have h := Ap c19 h
       refine A5 ?_
       exact Aw _ h (sm [(2017, 2012), (2018, 2013), (2019, 2014), (2020, 2015), (2021, 2016)] _ _ rfl rfl)
     ·refine Al hs (Aa Ad rfl (qm rfl (qL Bq AT rfl (Du (Ba 2017 _ _ rfl rfl) (Du (Ba 2018 _ _ rfl rfl) (Du (Ba 2019 _ _ rfl rfl) (En JY AT Di rfl ?_)))))))
      obtain ⟨c25, h⟩ := AN h
      refine Dy (f := Ea) JY JY AT UM Di c25 rfl (qa rfl (Ac (Aa Ad rfl (Bp rfl (qm rfl (Ac ?_))))))
      exact Aw _ h (sm [(2006, 2020), (2007, 72)] _ _ rfl rfl)
    ·have h := Ap c13 h
     refine A5 ?_
     exact Aw _ h (sm [(2008, 2007)] _ _ rfl rfl)
   ·refine Al hs (Ab (Aa Ad rfl (qm rfl (qa rfl (qa rfl (Ac ?_))))))
    obtain rfl := sj h
    refine Al (sm [(1000, 2008)] [(4, .e (.one (.own 1000))), (5, .e (.one (.pure (.val (.int .i64 0)))))] [(1000, .vec 3 (v12.map Ea))] rfl rfl) (AC ?_)
    exact ⟨⟨[_, _], ⟨.tmp _ _ rfl, ⟨.tmp _ _ rfl, trivial⟩⟩, rfl⟩, ⟨rfl, trivial⟩⟩
set_option maxRecDepth 10000 in
theorem LX (N : Nat) (p0 : Ae) (p1 : Ah) (r : (List An)) (h : EW N p0 p1 = some r) : AB Try.prog 76 [.e (.agg [.pure (.sl (p0.fVersions.map Ag)), .pure (.sl (p0.fNow.map Ag)), .pure (.sl (p0.fTarget.map Ag)), .pure (.sl (p0.fTables.map Ai))]), .e (.agg [.pure (.sl (p1.fBase.map Ag)), .pure (.sl (p1.fNext.map Ag)), .pure (.sl (p1.fHeld.map A3))])] [(3, r.map AY)] (.e (.one (.own 0))) := by
 unfold EW at h
 refine Aq (n := 98) (rs := [.tmp 4]) Try.func76 rfl rfl rfl (BM rfl) (BM rfl) rfl fun w0 S0 => ?_
 refine Ab (Aa Ad rfl (qb rfl (qb rfl (qa rfl (Ac (Ab (Aa Ad rfl (qa rfl (Ac (Ab (Ab (Aa Ad rfl (qf CH rfl (ql Gw rfl (AS DV rfl (qm rfl (Ac ?_)))))))))))))))))
 refine AR (L := C2 N p0 p1) h (fun v1 => mk [(3, .e (.one (.ptr 3 0))), (5, .e (.one (.own 2001))), (15, .e (.one (.pure (.sl (p0.fTables.map Ai))))), (16, .e (.one (.pure (.val (.int .i64 ((p0.fTables.length : Int))))))), (17, .e (.one (.pure (.val (.int .i64 v1.2)))))] [(3, .box [.pure (.sl (p1.fBase.map Ag)), .pure (.sl (p1.fNext.map Ag)), .pure (.sl (p1.fHeld.map A3))]), (2001, .vec 3 (v1.1.map AY))]) (fun v2 => mk [(5, .e (.one (.own 2002)))] [(2002, .vec 3 (v2.map AY))]) (fun _ _ => rfl) ((BF 5 2013 3 rfl rfl rfl).trans (sm [(2001, 2013)] _ _ rfl rfl)) (fun j1 n1 v1 h => ?_) (fun v2 s h hs => ?_)
 ·unfold C2 at h
  refine Ab (Aa Ad rfl (A8 rfl (Ac (Ab ?_))))
  refine As rfl (fun c3 => ?_) (fun c3 => ?_)
  ·have h := Ao c3 h
   refine Au (Ab (AU (Ab (Aa Ad rfl (qm rfl ?_)))))
   obtain ⟨v4, a4, b4, h⟩ := Am h
   refine qi DV DJ a4 (Aj b4) rfl (qK Gf DJ rfl (qz Jd rfl (qa rfl (qs DJ rfl (Ac (Ab (Aa Ad rfl (qL Bq AT rfl (qf CQ rfl (ql B7 rfl ?_))))))))))
   obtain ⟨v5, a5, h⟩ := bind_some h
   refine AK [] (Ii N p1 v4.fFrom v5 a5) Vf rfl (qL Bq AT rfl (qf Hl rfl (ql B7 rfl ?_)))
   obtain ⟨v6, a6, h⟩ := bind_some h
   refine AK [] (Ii N p1 v4.fTo v6 a6) Vf rfl (qa rfl (qa rfl (A0 (by kernel_rfl) ?_)))
   refine AW h (fun v7 => mk [(3, .e (.one (.ptr 3 0))), (5, .e (.one (.own 2003))), (6, .e (.one (.pure (.val (.int .i64 v1.2))))), (7, .e (.one (.ptr 7 0))), (8, .e (.one (.pure (.val (.int .u8 v7))))), (9, .e (.one (.pure (.val (.int .u8 v6))))), (15, .e (.one (.pure (.sl (p0.fTables.map Ai))))), (16, .e (.one (.pure (.val (.int .i64 ((p0.fTables.length : Int))))))), (17, .e (.one (.pure (.val (.int .i64 v1.2)))))] [(3, .box [.pure (.sl (p1.fBase.map Ag)), .pure (.sl (p1.fNext.map Ag)), .pure (.sl (p1.fHeld.map A3))]), (7, .box [.pure (.val (.int .i64 v4.fKind)), .pure (.val (.int .i64 v4.fFrom)), .pure (.val (.int .i64 v4.fTo)), .pure (.val (.bool v4.fAware)), .pure (.sl (v4.fOK.map (Ep eB))), .pure (.sl (v4.fRewrite.map (Ep eB)))]), (2003, .vec 3 (v1.1.map AY))]) (fun j7 h => ?_) (fun v7 h => ?_)
   ·refine Ab (Aa Ad rfl (qL Gf DJ rfl ?_))
    obtain ⟨v8, a8, h⟩ := bind_some h
    refine AK [] (Ix N v4 v8 a8) Vg rfl (Ac ?_)
    refine As rfl (fun c9 => ?_) (fun c9 => ?_)
    ·have h := Ao c9 h
     refine Aa Ad rfl (qf Cz rfl (ql Gd rfl (qm rfl ?_)))
     obtain ⟨v10, a10, b10, h⟩ := Am h
     refine qi Dm Fn a10 (Aj b10) rfl (qk Jz rfl (qa rfl (Ac ?_)))
     exact Aw _ h (sm [(2003, 2001)] _ _ rfl rfl)
    ·have h := Ap c9 h
     refine Au ?_
     exact Aw _ h (sm [(2003, 2001)] _ _ rfl rfl)
   ·refine Ab (Aa Ad rfl (qf IJ rfl (ql IZ rfl (AS FF rfl (qm rfl (Ac ?_))))))
    refine AR (L := Ch N v1 v4 v6 v7) h (fun v11 => mk [(3, .e (.one (.ptr 3 0))), (5, .e (.one (.own 2004))), (6, .e (.one (.pure (.val (.int .i64 v1.2))))), (7, .e (.one (.ptr 7 0))), (8, .e (.one (.pure (.val (.int .u8 v7))))), (9, .e (.one (.pure (.val (.int .u8 v6))))), (15, .e (.one (.pure (.sl (p0.fTables.map Ai))))), (16, .e (.one (.pure (.val (.int .i64 ((p0.fTables.length : Int))))))), (17, .e (.one (.pure (.val (.int .i64 v1.2))))), (39, .e (.one (.pure (.val (.int .i64 ((v4.fOK.length : Int))))))), (40, .e (.one (.pure (.val (.int .i64 v11.2)))))] [(3, .box [.pure (.sl (p1.fBase.map Ag)), .pure (.sl (p1.fNext.map Ag)), .pure (.sl (p1.fHeld.map A3))]), (7, .box [.pure (.val (.int .i64 v4.fKind)), .pure (.val (.int .i64 v4.fFrom)), .pure (.val (.int .i64 v4.fTo)), .pure (.val (.bool v4.fAware)), .pure (.sl (v4.fOK.map (Ep eB))), .pure (.sl (v4.fRewrite.map (Ep eB)))]), (2004, .vec 3 (v11.1.map AY))]) (fun v12 => mk [(3, .e (.one (.ptr 3 0))), (5, .e (.one (.own 2005))), (15, .e (.one (.pure (.sl (p0.fTables.map Ai))))), (16, .e (.one (.pure (.val (.int .i64 ((p0.fTables.length : Int))))))), (17, .e (.one (.pure (.val (.int .i64 v1.2)))))] [(3, .box [.pure (.sl (p1.fBase.map Ag)), .pure (.sl (p1.fNext.map Ag)), .pure (.sl (p1.fHeld.map A3))]), (2005, .vec 3 (v12.map AY))]) (fun _ _ => rfl) (sm [(2004, 2003)] _ _ rfl rfl) (fun j11 n11 v11 h => ?_) (fun v12 s h hs => ?_)
    ·unfold Ch at h
     refine Ab (Aa Ad rfl (A8 rfl (Ac (Ab ?_))))
     refine As rfl (fun c13 => ?_) (fun c13 => ?_)
     ·have h := Ao c13 h
      refine Au ?_
      refine AW h (fun v14 => mk [(3, .e (.one (.ptr 3 0))), (5, .e (.one (.own 2006))), (6, .e (.one (.pure (.val (.int .i64 v1.2))))), (7, .e (.one (.ptr 7 0))), (8, .e (.one (.pure (.val (.int .u8 v7))))), (9, .e (.one (.pure (.val (.int .u8 v6))))), (15, .e (.one (.pure (.sl (p0.fTables.map Ai))))), (16, .e (.one (.pure (.val (.int .i64 ((p0.fTables.length : Int))))))), (17, .e (.one (.pure (.val (.int .i64 v1.2))))), (39, .e (.one (.pure (.val (.int .i64 ((v4.fOK.length : Int))))))), (40, .e (.one (.pure (.val (.int .i64 v11.2)))))] [(3, .box [.pure (.sl (p1.fBase.map Ag)), .pure (.sl (p1.fNext.map Ag)), .pure (.sl (p1.fHeld.map A3))]), (7, .box [.pure (.val (.int .i64 v4.fKind)), .pure (.val (.int .i64 v4.fFrom)), .pure (.val (.int .i64 v4.fTo)), .pure (.val (.bool v4.fAware)), .pure (.sl (v4.fOK.map (Ep eB))), .pure (.sl (v4.fRewrite.map (Ep eB)))]), (2006, .vec 3 (v14.map AY))]) (fun j14 h => ?_) (fun v14 h => ?_)
      ·refine AU (Ab (Aa Ad rfl (qm rfl (qa rfl (Ac (Ab (Ab (Aa Ad rfl (qm rfl (qm rfl ?_))))))))))
       obtain ⟨c15, h⟩ := AN h
       refine It rfl c15 (K9 rfl (B4 rfl (Ac ?_)))
       refine As rfl (fun c16 => ?_) (fun c16 => ?_)
       ·have h := Ao c16 h
        refine A5 ?_
        exact Aw _ h (sm [(2006, 2004)] _ _ rfl rfl)
       ·have h := Ap c16 h
        refine Au (Ab (Aa Ad rfl (qa rfl (Ac (Ab (Ab (Aa Ad rfl (qf IJ rfl (ql IZ rfl (qm rfl ?_))))))))))
        obtain ⟨v17, a17, b17, h⟩ := Am h
        refine qi FF LW a17 (Aj b17) rfl (qk Ou rfl (AS FN rfl (qm rfl (Ac ?_))))
        refine AR (L := BS N v1 v4 v6 v11 v17) h (fun v18 => mk [(3, .e (.one (.ptr 3 0))), (5, .e (.one (.own 2007))), (6, .e (.one (.pure (.val (.int .i64 v1.2))))), (7, .e (.one (.ptr 7 0))), (8, .e (.one (.pure (.val (.int .u8 v7))))), (9, .e (.one (.pure (.val (.int .u8 v6))))), (10, .e (.one (.pure (.val (.int .i64 v11.2))))), (11, .e (.one (.pure (.val (.bool v18.2.1))))), (15, .e (.one (.pure (.sl (p0.fTables.map Ai))))), (16, .e (.one (.pure (.val (.int .i64 ((p0.fTables.length : Int))))))), (17, .e (.one (.pure (.val (.int .i64 v1.2))))), (39, .e (.one (.pure (.val (.int .i64 ((v4.fOK.length : Int))))))), (40, .e (.one (.pure (.val (.int .i64 v11.2))))), (52, .e (.one (.pure (.sl (v17.map eB))))), (53, .e (.one (.pure (.val (.int .i64 ((v17.length : Int))))))), (54, .e (.one (.pure (.val (.int .i64 v18.2.2)))))] [(3, .box [.pure (.sl (p1.fBase.map Ag)), .pure (.sl (p1.fNext.map Ag)), .pure (.sl (p1.fHeld.map A3))]), (7, .box [.pure (.val (.int .i64 v4.fKind)), .pure (.val (.int .i64 v4.fFrom)), .pure (.val (.int .i64 v4.fTo)), .pure (.val (.bool v4.fAware)), .pure (.sl (v4.fOK.map (Ep eB))), .pure (.sl (v4.fRewrite.map (Ep eB)))]), (2007, .vec 3 (v18.1.map AY))]) (fun v19 => mk [(3, .e (.one (.ptr 3 0))), (5, .e (.one (.own 2008))), (6, .e (.one (.pure (.val (.int .i64 v1.2))))), (7, .e (.one (.ptr 7 0))), (8, .e (.one (.pure (.val (.int .u8 v7))))), (9, .e (.one (.pure (.val (.int .u8 v6))))), (10, .e (.one (.pure (.val (.int .i64 v11.2))))), (11, .e (.one (.pure (.val (.bool v19.2))))), (15, .e (.one (.pure (.sl (p0.fTables.map Ai))))), (16, .e (.one (.pure (.val (.int .i64 ((p0.fTables.length : Int))))))), (17, .e (.one (.pure (.val (.int .i64 v1.2))))), (39, .e (.one (.pure (.val (.int .i64 ((v4.fOK.length : Int))))))), (40, .e (.one (.pure (.val (.int .i64 v11.2)))))] [(3, .box [.pure (.sl (p1.fBase.map Ag)), .pure (.sl (p1.fNext.map Ag)), .pure (.sl (p1.fHeld.map A3))]), (7, .box [.pure (.val (.int .i64 v4.fKind)), .pure (.val (.int .i64 v4.fFrom)), .pure (.val (.int .i64 v4.fTo)), .pure (.val (.bool v4.fAware)), .pure (.sl (v4.fOK.map (Ep eB))), .pure (.sl (v4.fRewrite.map (Ep eB)))]), (2008, .vec 3 (v19.1.map AY))]) (fun _ _ => rfl) (sm [(2007, 2004)] _ _ rfl rfl) (fun j18 n18 v18 h => ?_) (fun v19 s h hs => ?_)
        ·unfold BS at h
         refine Ab (Aa Ad rfl (A8 rfl (Ac (Ab ?_))))
         refine As rfl (fun c20 => ?_) (fun c20 => ?_)
         ·have h := Ao c20 h
          refine Au ?_
          refine AW h (fun v21 => mk [(3, .e (.one (.ptr 3 0))), (5, .e (.one (.own 2009))), (6, .e (.one (.pure (.val (.int .i64 v1.2))))), (7, .e (.one (.ptr 7 0))), (8, .e (.one (.pure (.val (.int .u8 v7))))), (9, .e (.one (.pure (.val (.int .u8 v6))))), (10, .e (.one (.pure (.val (.int .i64 v11.2))))), (11, .e (.one (.pure (.val (.bool v21.2))))), (15, .e (.one (.pure (.sl (p0.fTables.map Ai))))), (16, .e (.one (.pure (.val (.int .i64 ((p0.fTables.length : Int))))))), (17, .e (.one (.pure (.val (.int .i64 v1.2))))), (39, .e (.one (.pure (.val (.int .i64 ((v4.fOK.length : Int))))))), (40, .e (.one (.pure (.val (.int .i64 v11.2))))), (52, .e (.one (.pure (.sl (v17.map eB))))), (53, .e (.one (.pure (.val (.int .i64 ((v17.length : Int))))))), (54, .e (.one (.pure (.val (.int .i64 v18.2.2)))))] [(3, .box [.pure (.sl (p1.fBase.map Ag)), .pure (.sl (p1.fNext.map Ag)), .pure (.sl (p1.fHeld.map A3))]), (7, .box [.pure (.val (.int .i64 v4.fKind)), .pure (.val (.int .i64 v4.fFrom)), .pure (.val (.int .i64 v4.fTo)), .pure (.val (.bool v4.fAware)), .pure (.sl (v4.fOK.map (Ep eB))), .pure (.sl (v4.fRewrite.map (Ep eB)))]), (2009, .vec 3 (v21.1.map AY))]) (fun j21 h => ?_) (fun v21 h => ?_)
          ·refine AU (Ab (Aa Ad rfl (qm rfl ?_)))
           obtain ⟨v22, a22, b22, h⟩ := Am h
           refine qi FN Pc a22 (Aj b22) rfl (qk Rj rfl (qa rfl (qa rfl (Ac (Ab (Ab (Aa Ad rfl (qm rfl (qm rfl ?_)))))))))
           obtain ⟨c23, h⟩ := AN h
           refine It rfl c23 (K9 rfl (B4 rfl (Ac ?_)))
           refine As rfl (fun c24 => ?_) (fun c24 => ?_)
           ·have h := Ao c24 h
            refine A5 ?_
            exact Aw _ h (sm [(2009, 2007)] _ _ rfl rfl)
           ·have h := Ap c24 h
            refine Au ?_
            refine AW h (fun v25 => mk [(3, .e (.one (.ptr 3 0))), (5, .e (.one (.own 2010))), (6, .e (.one (.pure (.val (.int .i64 v1.2))))), (7, .e (.one (.ptr 7 0))), (8, .e (.one (.pure (.val (.int .u8 v7))))), (9, .e (.one (.pure (.val (.int .u8 v6))))), (10, .e (.one (.pure (.val (.int .i64 v11.2))))), (11, .e (.one (.pure (.val (.bool v25))))), (12, .e (.one (.pure (.val (.int .i64 v18.2.2))))), (13, .e (.one (.pure (.val (.bool v22))))), (15, .e (.one (.pure (.sl (p0.fTables.map Ai))))), (16, .e (.one (.pure (.val (.int .i64 ((p0.fTables.length : Int))))))), (17, .e (.one (.pure (.val (.int .i64 v1.2))))), (39, .e (.one (.pure (.val (.int .i64 ((v4.fOK.length : Int))))))), (40, .e (.one (.pure (.val (.int .i64 v11.2))))), (52, .e (.one (.pure (.sl (v17.map eB))))), (53, .e (.one (.pure (.val (.int .i64 ((v17.length : Int))))))), (54, .e (.one (.pure (.val (.int .i64 v18.2.2)))))] [(3, .box [.pure (.sl (p1.fBase.map Ag)), .pure (.sl (p1.fNext.map Ag)), .pure (.sl (p1.fHeld.map A3))]), (7, .box [.pure (.val (.int .i64 v4.fKind)), .pure (.val (.int .i64 v4.fFrom)), .pure (.val (.int .i64 v4.fTo)), .pure (.val (.bool v4.fAware)), .pure (.sl (v4.fOK.map (Ep eB))), .pure (.sl (v4.fRewrite.map (Ep eB)))]), (2010, .vec 3 (v18.1.map AY))]) (fun j25 h => ?_) (fun v25 h => ?_)
            ·refine Aa Ad rfl (qm rfl (qm rfl ?_))
             refine AI (t := 65) rfl (fun c26 => ?_) (fun c26 => ?_)
             ·have h := Ao c26 h
              refine qn rfl (qp rfl (qa rfl (Ac ?_)))
              exact Aw _ h (sm [(2010, 2007)] _ _ rfl rfl)
             ·have h := Ap c26 h
              refine qm rfl (qp rfl (qa rfl (Ac ?_)))
              exact Aw _ h (sm [(2010, 2007)] _ _ rfl rfl)
            ·refine AW h (fun v27 => mk [(3, .e (.one (.ptr 3 0))), (5, .e (.one (.own 2011))), (6, .e (.one (.pure (.val (.int .i64 v1.2))))), (7, .e (.one (.ptr 7 0))), (8, .e (.one (.pure (.val (.int .u8 v7))))), (9, .e (.one (.pure (.val (.int .u8 v6))))), (10, .e (.one (.pure (.val (.int .i64 v11.2))))), (11, .e (.one (.pure (.val (.bool v25))))), (12, .e (.one (.pure (.val (.int .i64 v18.2.2))))), (15, .e (.one (.pure (.sl (p0.fTables.map Ai))))), (16, .e (.one (.pure (.val (.int .i64 ((p0.fTables.length : Int))))))), (17, .e (.one (.pure (.val (.int .i64 v1.2))))), (39, .e (.one (.pure (.val (.int .i64 ((v4.fOK.length : Int))))))), (40, .e (.one (.pure (.val (.int .i64 v11.2))))), (52, .e (.one (.pure (.sl (v17.map eB))))), (53, .e (.one (.pure (.val (.int .i64 ((v17.length : Int))))))), (54, .e (.one (.pure (.val (.int .i64 v18.2.2))))), (74, .e (.one (.pure (.val (.bool v27)))))] [(3, .box [.pure (.sl (p1.fBase.map Ag)), .pure (.sl (p1.fNext.map Ag)), .pure (.sl (p1.fHeld.map A3))]), (7, .box [.pure (.val (.int .i64 v4.fKind)), .pure (.val (.int .i64 v4.fFrom)), .pure (.val (.int .i64 v4.fTo)), .pure (.val (.bool v4.fAware)), .pure (.sl (v4.fOK.map (Ep eB))), .pure (.sl (v4.fRewrite.map (Ep eB)))]), (2011, .vec 3 (v18.1.map AY))]) (fun j27 h => ?_) (fun v27 h => ?_)
             ·refine Aa Ad rfl (qm rfl (CE rfl (qm rfl ?_)))
              refine AI (t := 70) rfl (fun c28 => ?_) (fun c28 => ?_)
              ·have h := Ao c28 h
               refine qf H7 rfl (ql Rj rfl (CE rfl (qp rfl (Ac ?_))))
               exact Aw _ h (sm [(2011, 2010)] _ _ rfl rfl)
              ·have h := Ap c28 h
               refine qn rfl (qn rfl (qn rfl (qp rfl (Ac ?_))))
               exact Aw _ h (sm [(2011, 2010)] _ _ rfl rfl)
             ·refine As rfl (fun c29 => ?_) (fun c29 => ?_)
              ·have h := Ao c29 h
               refine Aa Ad rfl (qm rfl (qm rfl (qm rfl (qm rfl (A7 GZ Mc rfl (En FZ Fo GZ rfl ?_))))))
               obtain ⟨c30, h⟩ := AN h
               refine Dy (f := AY) FZ FZ Fo Ra GZ c30 rfl (qa rfl (Ac ?_))
               exact Aw _ h (sm [(2009, 81)] _ _ rfl rfl)
              ·have h := Ap c29 h
               refine Au ?_
               exact Aw _ h (sm [(2009, 2011)] _ _ rfl rfl)
          ·refine Aa Ad rfl (Bp rfl (qm rfl (Ac ?_)))
           exact Aw _ h (sm [(2007, 2009)] _ _ rfl rfl)
         ·have h := Ap c20 h
          refine A5 ?_
          exact Aw _ h (sm [(2008, 2007)] _ _ rfl rfl)
        ·refine Al hs ?_
         refine AW h (fun v31 => mk [(3, .e (.one (.ptr 3 0))), (5, .e (.one (.own 2012))), (6, .e (.one (.pure (.val (.int .i64 v1.2))))), (7, .e (.one (.ptr 7 0))), (8, .e (.one (.pure (.val (.int .u8 v7))))), (9, .e (.one (.pure (.val (.int .u8 v6))))), (10, .e (.one (.pure (.val (.int .i64 v11.2))))), (15, .e (.one (.pure (.sl (p0.fTables.map Ai))))), (16, .e (.one (.pure (.val (.int .i64 ((p0.fTables.length : Int))))))), (17, .e (.one (.pure (.val (.int .i64 v1.2))))), (39, .e (.one (.pure (.val (.int .i64 ((v4.fOK.length : Int))))))), (40, .e (.one (.pure (.val (.int .i64 v11.2))))), (88, .e (.one (.pure (.val (.bool v31)))))] [(3, .box [.pure (.sl (p1.fBase.map Ag)), .pure (.sl (p1.fNext.map Ag)), .pure (.sl (p1.fHeld.map A3))]), (7, .box [.pure (.val (.int .i64 v4.fKind)), .pure (.val (.int .i64 v4.fFrom)), .pure (.val (.int .i64 v4.fTo)), .pure (.val (.bool v4.fAware)), .pure (.sl (v4.fOK.map (Ep eB))), .pure (.sl (v4.fRewrite.map (Ep eB)))]), (2012, .vec 3 (v19.1.map AY))]) (fun j31 h => ?_) (fun v31 h => ?_)
         ·refine Aa Ad rfl (qf H7 rfl (ql Rj rfl (qm rfl ?_)))
          refine AI (t := 85) rfl (fun c32 => ?_) (fun c32 => ?_)
          ·have h := Ao c32 h
           refine qm rfl (CE rfl (qp rfl (Ac ?_)))
           exact Aw _ h (sm [(2012, 2008)] _ _ rfl rfl)
          ·have h := Ap c32 h
           refine qn rfl (qn rfl (qp rfl (Ac ?_)))
           exact Aw _ h (sm [(2012, 2008)] _ _ rfl rfl)
         ·refine As rfl (fun c33 => ?_) (fun c33 => ?_)
          ·have h := Ao c33 h
           refine Aa Ad rfl (qm rfl (qm rfl (qm rfl (A7 GZ Mc rfl (En FZ Fo GZ rfl ?_)))))
           obtain ⟨c34, h⟩ := AN h
           refine Dy (f := AY) FZ FZ Fo Ra GZ c34 rfl (qa rfl (Ac ?_))
           exact Aw _ h (sm [(2006, 94)] _ _ rfl rfl)
          ·have h := Ap c33 h
           refine Au ?_
           exact Aw _ h (sm [(2006, 2012)] _ _ rfl rfl)
      ·refine Aa Ad rfl (Bp rfl (qm rfl (Ac ?_)))
       exact Aw _ h (sm [(2004, 2006)] _ _ rfl rfl)
     ·have h := Ap c13 h
      refine A5 ?_
      exact Aw _ h (sm [(2005, 2004)] _ _ rfl rfl)
    ·refine Al hs (Aa Ad rfl (Bp rfl (qm rfl (Ac ?_))))
     exact Aw _ h (sm [(2001, 2005)] _ _ rfl rfl)
  ·have h := Ap c3 h
   refine A5 ?_
   exact Aw _ h (sm [(2002, 2001)] _ _ rfl rfl)
 ·refine Al hs (Ab (Aa Ad rfl (qm rfl (qa rfl (Ac ?_)))))
  obtain rfl := sj h
  refine Al (sm [(1000, 2002)] [(4, .e (.one (.own 1000)))] [(1000, .vec 3 (v2.map AY))] rfl rfl) (AC ?_)
  exact ⟨⟨[_], ⟨.tmp _ _ rfl, trivial⟩, rfl⟩, ⟨rfl, trivial⟩⟩
set_option maxRecDepth 10000 in
theorem Jq (N : Nat) (p0 : Ae) (p1 : Ah) (r : Ah × An × Int) (h : Fa N p0 p1 = some r) : AB Try.prog 38 [.e (.agg [.pure (.sl (p0.fVersions.map Ag)), .pure (.sl (p0.fNow.map Ag)), .pure (.sl (p0.fTarget.map Ag)), .pure (.sl (p0.fTables.map Ai))]), .e (.agg [.pure (.sl (p1.fBase.map Ag)), .pure (.sl (p1.fNext.map Ag)), .pure (.sl (p1.fHeld.map A3))])] [] (.tup [.agg [.pure (.sl (r.1.fBase.map Ag)), .pure (.sl (r.1.fNext.map Ag)), .pure (.sl (r.1.fHeld.map A3))], .agg [.pure (.val (.int .i64 r.2.1.fTable)), .pure (.val (.int .i64 r.2.1.fWriter)), .pure (.val (.int .i64 r.2.1.fReader))], .one (.pure (.val (.int .i64 r.2.2)))]) := by
 unfold Fa at h
 refine Aq (n := 42) (rs := [.cell 4 43, .cell 5 45, .tmp 6]) Try.func38 rfl rfl rfl (BM rfl) (BM rfl) rfl fun w0 S0 => ?_
 refine Ab (Aa Ad rfl (qb rfl (qb rfl (qz Di rfl (qz GZ rfl (qa rfl (Ac (Ab (Aa Ad rfl (qL DM Dw rfl (qL Bq AT rfl ?_)))))))))))
 obtain ⟨v1, a1, h⟩ := bind_some h
 refine AK [2001] (OC N p0 p1 v1 a1) Xw rfl (qm rfl (qx rfl (qx rfl (qa rfl (qa rfl (Ac (Ab (Ab (Aa Ad rfl (qm rfl (CD rfl (Ac ?_))))))))))))
 refine As rfl (fun c2 => ?_) (fun c2 => ?_)
 ·have h := Ao c2 h
  refine Ab (Aa Ad rfl (A7 Di GG rfl (A7 GZ Mc rfl (qm rfl (qs AT rfl (qs Fo rfl (qa rfl (Ac ?_))))))))
  obtain rfl := sj h
  refine Al ((Hr 4 _ rfl).trans (sm [] [(4, .e (.one (.ptr 4 0))), (5, .e (.one (.ptr 5 0))), (6, .e (.one (.pure (.val (.int .i64 v1.2)))))] [(4, .box [.pure (.sl ((([] : List Int)).map Ag)), .pure (.sl ((([] : List Int)).map Ag)), .pure (.sl ((([] : List Int)).map A3))]), (5, .box [.pure (.val (.int .i64 0)), .pure (.val (.int .i64 0)), .pure (.val (.int .i64 0))])] rfl rfl)) (AC ?_)
  exact ⟨⟨[_, _, _], ⟨.cellN _ _ _ _ _ _ _ rfl rfl Bq AT rfl rfl (Hm rfl), ⟨.cellN _ _ _ _ _ _ _ rfl rfl Lq Fo rfl rfl (Hm rfl), ⟨.tmp _ _ rfl, trivial⟩⟩⟩, rfl⟩, trivial⟩
 ·have h := Ap c2 h
  refine Au (Ab (Ab (Aa Ad rfl (qm rfl (Fx JY rfl (qm rfl (Ac ?_)))))))
  refine AR (L := Eh N p0 v1) h (fun v3 => mk [(2, .e (.one (.ptr 2 0))), (4, .e (.one (.ptr 4 0))), (5, .e (.one (.ptr 5 0))), (23, .e (.one (.own 2002))), (24, .e (.one (.pure (.val (.int .i64 ((v1.1.length : Int))))))), (25, .e (.one (.pure (.val (.int .i64 v3)))))] [(2, .box [.pure (.sl (p0.fVersions.map Ag)), .pure (.sl (p0.fNow.map Ag)), .pure (.sl (p0.fTarget.map Ag)), .pure (.sl (p0.fTables.map Ai))]), (4, .box [.pure (.nil0), .pure (.nil0), .pure (.nil0)]), (5, .box [.pure (.val (.int .i64 0)), .pure (.val (.int .i64 0)), .pure (.val (.int .i64 0))]), (2002, .vec 3 (v1.1.map Ea))]) (fun v4 => mk [(4, .e (.one (.ptr 4 0))), (5, .e (.one (.ptr 5 0)))] [(4, .box [.pure (.nil0), .pure (.nil0), .pure (.nil0)]), (5, .box [.pure (.val (.int .i64 0)), .pure (.val (.int .i64 0)), .pure (.val (.int .i64 0))])]) (fun _ _ => rfl) (sm [(2002, 2001)] _ _ rfl rfl) (fun j3 n3 v3 h => ?_) (fun v4 s h hs => ?_)
  ·unfold Eh at h
   refine Ab (Aa Ad rfl (A8 rfl (Ac (Ab ?_))))
   refine As rfl (fun c5 => ?_) (fun c5 => ?_)
   ·have h := Ao c5 h
    refine Au (Ab (AU (Ab (Aa Ad rfl ?_))))
    obtain ⟨v6, a6, b6, h⟩ := Am h
    refine qI JY AT a6 (Aj b6) rfl (qJ Bq AT (Aj b6) rfl (qz Di rfl (qs AT rfl (Ac (Ab (Aa Ad rfl (qL DM Dw rfl (qL Bq AT rfl ?_))))))))
    obtain ⟨v7, a7, h⟩ := bind_some h
    refine AK [2003] (LX N p0 v6 v7 a7) XP rfl (qa rfl (Ac (Ab (Aa Ad rfl (qm rfl (Fx FZ rfl (FT rfl (Ac ?_))))))))
    refine As rfl (fun c8 => ?_) (fun c8 => ?_)
    ·have h := Ao c8 h
     refine Ab (Aa Ad rfl (qL Bq AT rfl (qm rfl ?_)))
     obtain ⟨v9, a9, b9, h⟩ := Am h
     refine qI FZ Fo a9 (Aj b9) rfl (qJ Lq Fo (Aj b9) rfl (qs AT rfl (qs Fo rfl (qa rfl (A0 (by kernel_rfl) ?_)))))
     obtain rfl := sj h
     refine Al (sm [] [(4, .e (.one (.ptr 4 0))), (5, .e (.one (.ptr 5 0))), (6, .e (.one (.pure (.val (.int .i64 0)))))] [(4, .box [.pure (.sl (v6.fBase.map Ag)), .pure (.sl (v6.fNext.map Ag)), .pure (.sl (v6.fHeld.map A3))]), (5, .box [.pure (.val (.int .i64 v9.fTable)), .pure (.val (.int .i64 v9.fWriter)), .pure (.val (.int .i64 v9.fReader))])] rfl rfl) (AC ?_)
     exact ⟨⟨[_, _, _], ⟨.cellN _ _ _ _ _ _ _ rfl rfl Bq AT rfl rfl (Hm rfl), ⟨.cellN _ _ _ _ _ _ _ rfl rfl Lq Fo rfl rfl (Hm rfl), ⟨.tmp _ _ rfl, trivial⟩⟩⟩, rfl⟩, trivial⟩
    ·have h := Ap c8 h
     refine Au (Aa Ad rfl (Bp rfl (qm rfl (Ac ?_))))
     exact Aw _ h (sm [] _ _ rfl rfl)
   ·have h := Ap c5 h
    refine A5 ?_
    exact Aw _ h (sm [] _ _ rfl rfl)
  ·refine Al hs (Ab (Aa Ad rfl (A7 Di GG rfl (A7 GZ Mc rfl (qs AT rfl (qs Fo rfl (qa rfl (Ac ?_))))))))
   obtain rfl := sj h
   refine Al ((Hr 4 _ rfl).trans (sm [] [(4, .e (.one (.ptr 4 0))), (5, .e (.one (.ptr 5 0))), (6, .e (.one (.pure (.val (.int .i64 15)))))] [(4, .box [.pure (.sl ((([] : List Int)).map Ag)), .pure (.sl ((([] : List Int)).map Ag)), .pure (.sl ((([] : List Int)).map A3))]), (5, .box [.pure (.val (.int .i64 0)), .pure (.val (.int .i64 0)), .pure (.val (.int .i64 0))])] rfl rfl)) (AC ?_)
   exact ⟨⟨[_, _, _], ⟨.cellN _ _ _ _ _ _ _ rfl rfl Bq AT rfl rfl (Hm rfl), ⟨.cellN _ _ _ _ _ _ _ rfl rfl Lq Fo rfl rfl (Hm rfl), ⟨.tmp _ _ rfl, trivial⟩⟩⟩, rfl⟩, trivial⟩
set_option maxRecDepth 10000 in
theorem KC (N : Nat) (p0 : Ae) (p1 : Ah) (r : Bool × Int) (h : Fe N p0 p1 = some r) : AB Try.prog 54 [.e (.agg [.pure (.sl (p0.fVersions.map Ag)), .pure (.sl (p0.fNow.map Ag)), .pure (.sl (p0.fTarget.map Ag)), .pure (.sl (p0.fTables.map Ai))]), .e (.agg [.pure (.sl (p1.fBase.map Ag)), .pure (.sl (p1.fNext.map Ag)), .pure (.sl (p1.fHeld.map A3))])] [] (.tup [.one (.pure (.val (.bool r.1))), .one (.pure (.val (.int .i64 r.2)))]) := by
 unfold Fe at h
 refine Aq (n := 22) (rs := [.tmp 4, .tmp 5]) Try.func54 rfl rfl rfl (BM rfl) (BM rfl) rfl fun w0 S0 => ?_
 refine Ab (Aa Ad rfl (qb rfl (qb rfl (qa rfl (qa rfl (Ac (Ab (Aa Ad rfl (qL DM Dw rfl (qL Bq AT rfl ?_))))))))))
 obtain ⟨v1, a1, h⟩ := bind_some h
 refine AK [] (Jq N p0 p1 v1 a1) Va rfl (qm rfl (qx rfl (qx rfl (qx rfl (qz Di rfl (qz GZ rfl (qs AT rfl (qs Fo rfl (qa rfl (Ac (Ab (Aa Ad rfl (qm rfl (Ac (AU (Ab (Aa Ad rfl (B4 rfl (qa rfl (Ac ?_))))))))))))))))))))
 refine As rfl (fun c2 => ?_) (fun c2 => ?_)
 ·have h := Ao c2 h
  refine Ab (Aa Ad rfl (qa rfl (qa rfl (Ac ?_))))
  obtain rfl := sj h
  refine Al (sm [] [(4, .e (.one (.pure (.val (.bool false))))), (5, .e (.one (.pure (.val (.int .i64 0)))))] [] rfl rfl) (AC ?_)
  exact ⟨⟨[_, _], ⟨.tmp _ _ rfl, ⟨.tmp _ _ rfl, trivial⟩⟩, rfl⟩, trivial⟩
 ·have h := Ap c2 h
  refine Ab (Aa Ad rfl (B4 rfl (qa rfl (Ac ?_))))
  refine As rfl (fun c3 => ?_) (fun c3 => ?_)
  ·have h := Ao c3 h
   refine Ab (Aa Ad rfl (qa rfl (qa rfl (Ac ?_))))
   obtain rfl := sj h
   refine Al (sm [] [(4, .e (.one (.pure (.val (.bool true))))), (5, .e (.one (.pure (.val (.int .i64 0)))))] [] rfl rfl) (AC ?_)
   exact ⟨⟨[_, _], ⟨.tmp _ _ rfl, ⟨.tmp _ _ rfl, trivial⟩⟩, rfl⟩, trivial⟩
  ·have h := Ap c3 h
   refine Ab (Aa Ad rfl (qm rfl (qa rfl (qa rfl (Ac ?_)))))
   obtain rfl := sj h
   refine Al (sm [] [(4, .e (.one (.pure (.val (.bool false))))), (5, .e (.one (.pure (.val (.int .i64 v1.2.2)))))] [] rfl rfl) (AC ?_)
   exact ⟨⟨[_, _], ⟨.tmp _ _ rfl, ⟨.tmp _ _ rfl, trivial⟩⟩, rfl⟩, trivial⟩
set_option maxRecDepth 10000 in
theorem Mn (N : Nat) (p0 : Ah) (r : ByteArray) (h : F8 N p0 = some r) : AB Try.prog 86 [.e (.agg [.pure (.sl (p0.fBase.map Ag)), .pure (.sl (p0.fNext.map Ag)), .pure (.sl (p0.fHeld.map A3))])] [] (.e (.one (.pure (.val (.string r))))) := by
 unfold F8 at h
 refine Aq (n := 53) (rs := [.tmp 2]) Try.func86 rfl rfl rfl (BM rfl) (BM rfl) rfl fun w0 S0 => ?_
 refine Ab (Aa Ad rfl (qb rfl (qa rfl (Ac (Ab (Aa Ad rfl (qf Cy rfl (ql A9 rfl (AS AE rfl (K7 rfl (qf Cz rfl (ql Gd rfl (AS Dm rfl (Bp rfl ?_))))))))))))))
 obtain ⟨c1, h⟩ := AN h
 refine Ja (.p rfl) rfl rfl rfl HW UO Vh (BM rfl) WD rfl rfl rfl c1.1 c1.2.1 c1.2.2 (OM A3 _ ((0 : Int))) ?_
 refine qa rfl (Ac (Ab (Ab (Aa Ad rfl (qf Cy rfl (ql A9 rfl (AS AE rfl (qm rfl (Ac ?_)))))))))
 refine AR (L := DZ N p0) h (fun v2 => mk [(1, .e (.one (.ptr 1 0))), (3, .e (.one (.own 2001))), (18, .e (.one (.pure (.val (.int .i64 ((p0.fBase.length : Int))))))), (19, .e (.one (.pure (.val (.int .i64 v2.2)))))] [(1, .box [.pure (.sl (p0.fBase.map Ag)), .pure (.sl (p0.fNext.map Ag)), .pure (.sl (p0.fHeld.map A3))]), (2001, .vec 1 (v2.1.map A3))]) (fun v3 => mk [(1, .e (.one (.ptr 1 0))), (3, .e (.one (.own 2002)))] [(1, .box [.pure (.sl (p0.fBase.map Ag)), .pure (.sl (p0.fNext.map Ag)), .pure (.sl (p0.fHeld.map A3))]), (2002, .vec 1 (v3.map A3))]) (fun _ _ => rfl) (sm [(2001, 15)] _ _ rfl rfl) (fun j2 n2 v2 h => ?_) (fun v3 s h hs => ?_)
 ·unfold DZ at h
  refine Ab (Aa Ad rfl (A8 rfl (Ac (Ab ?_))))
  refine As rfl (fun c4 => ?_) (fun c4 => ?_)
  ·have h := Ao c4 h
   refine Au (Ab (AU (Ab (Aa Ad rfl (qm rfl (qa rfl (Ac (Aa Ad rfl (qm rfl (qf Cy rfl (ql A9 rfl (qm rfl ?_))))))))))))
   obtain ⟨v5, a5, b5, h⟩ := Am h
   refine qi AE C7 a5 (Aj b5) rfl (qk B7 rfl (HT VZ X6 rfl (qf By rfl (ql A9 rfl (qm rfl ?_)))))
   obtain ⟨v6, a6, b6, h⟩ := Am h
   refine qi AE C7 a6 (Aj b6) rfl (qk B7 rfl (Bp rfl (HT VZ X6 rfl (En HW UO WD rfl ?_))))
   obtain ⟨c7, h⟩ := AN h
   refine Dy (f := A3) HW HW UO Vh WD c7 rfl (qa rfl (A0 (by kernel_rfl) (Aa Ad rfl (Bp rfl (qm rfl (Ac ?_))))))
   exact Aw _ h (sm [(2001, 37)] _ _ rfl rfl)
  ·have h := Ap c4 h
   refine A5 ?_
   exact Aw _ h (sm [(2002, 2001)] _ _ rfl rfl)
 ·refine Al hs (Ab (Ab (Aa Ad rfl (qf Cz rfl (ql Gd rfl (AS Dm rfl (qm rfl (Ac ?_))))))))
  refine AR (L := Dg N p0) h (fun v8 => mk [(3, .e (.one (.own 2003))), (40, .e (.one (.pure (.sl (p0.fHeld.map A3))))), (41, .e (.one (.pure (.val (.int .i64 ((p0.fHeld.length : Int))))))), (42, .e (.one (.pure (.val (.int .i64 v8.2)))))] [(2003, .vec 1 (v8.1.map A3))]) (fun v9 => mk [(3, .e (.one (.own 2004)))] [(2004, .vec 1 (v9.map A3))]) (fun _ _ => rfl) (sm [(2003, 2002)] _ _ rfl rfl) (fun j8 n8 v8 h => ?_) (fun v9 s h hs => ?_)
  ·unfold Dg at h
   refine Ab (Aa Ad rfl (A8 rfl (Ac (Ab ?_))))
   refine As rfl (fun c10 => ?_) (fun c10 => ?_)
   ·have h := Ao c10 h
    refine Au (Ab (AU (Ab (Aa Ad rfl ?_))))
    obtain ⟨v11, a11, b11, h⟩ := Am h
    refine qi Dm Fn a11 (Aj b11) rfl (qk Jz rfl (qa rfl (Ac (Aa Ad rfl (qm rfl (qm rfl (En HW UO WD rfl ?_)))))))
    obtain ⟨c12, h⟩ := AN h
    refine Dy (f := A3) HW HW UO Vh WD c12 rfl (qa rfl (Ac (Aa Ad rfl (Bp rfl (qm rfl (Ac ?_))))))
    exact Aw _ h (sm [(2003, 49)] _ _ rfl rfl)
   ·have h := Ap c10 h
    refine A5 ?_
    exact Aw _ h (sm [(2004, 2003)] _ _ rfl rfl)
  ·refine Al hs (Ab (Aa Ad rfl (qm rfl ?_)))
   refine Sr v9 (.p rfl) rfl (S8 A3 _ _ _) ⟨rfl, trivial⟩ rfl Wy WR ?_
   refine qa rfl (Ac ?_)
   obtain rfl := sj h
   refine Al (sm [] [(2, .e (.one (.pure (.val (.string ((Cn v9)))))))] [] rfl rfl) (AC ?_)
   exact ⟨⟨[_], ⟨.tmp _ _ rfl, trivial⟩, rfl⟩, trivial⟩
end Go.Lift

