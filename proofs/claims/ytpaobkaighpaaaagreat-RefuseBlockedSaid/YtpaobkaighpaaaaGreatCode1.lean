/- Lemmas for RefuseBlockedSaid, which YtpaobkaighpaaaaGreatFinR4 proves. -/
import Derived.Test.YtpaobkaighpaaaaGreatTypes
import Derived.Test.YtpaobkaighpaaaaGreatProg
import Derived.KernelRfl
/- The shallow programs. Written by a program (gen.py) out of the code. -/
namespace Go.Lift
def E2 (_ : Nat) (p0 : List Int) (p1 : Int) : Option Int :=
 AR ((decide (p1 < (p0.length : Int))))
  ((Ba p0 p1).bind fun v2 =>
  some ((IntKind.wrap .i64 v2)))
  (some 0)
def Bn (_ : Nat) (p0 : AO) : Option Bool :=
 Bf (fun (v1 : Bool) =>
  some v1)
 fun j1 =>
 AR ((p0.fKind == 3))
  (j1 true)
  (j1 (p0.fKind == 4))
def CY (N : Nat) (p1 : Int) (p2 : Int) (p3 : Bool) (v1 : (List (List Bool)) × Int) (j4 : ((List Bool)) → Option ((List (List Bool)))) : Nat → ((List Bool) × Int) → Option ((List (List Bool)))
 | 0, _ => none
 | n4 + 1, v4 =>
  AR ((decide (v4.2 < p1)))
   (Bf (fun (v7 : (List Bool)) =>
    CY N p1 p2 p3 v1 j4 n4 (v7, (IntKind.wrap .i64 (v4.2 + 1))))
   fun j7 =>
   AR p3
    (AR ((v1.2 == v4.2))
     ((E7 (v4.1.length + (([true] : List Bool)).length ≤ E8)).bind fun _ =>
     j7 (v4.1 ++ (([true] : List Bool))))
     ((E7 (0 ≤ (IntKind.wrap .i64 ((IntKind.wrap .i64 (3 * v1.2)) + v4.2)))).bind fun _ =>
     (E7 (v4.1.length + (([((Int.tmod ((Fa .u16 p2 ((IntKind.wrap .i64 ((IntKind.wrap .i64 (3 * v1.2)) + v4.2))))) 2) == 0)] : List Bool)).length ≤ E8)).bind fun _ =>
     j7 (v4.1 ++ (([((Int.tmod ((Fa .u16 p2 ((IntKind.wrap .i64 ((IntKind.wrap .i64 (3 * v1.2)) + v4.2))))) 2) == 0)] : List Bool)))))
    ((E7 (0 ≤ (IntKind.wrap .i64 ((IntKind.wrap .i64 (3 * v1.2)) + v4.2)))).bind fun _ =>
    (E7 (v4.1.length + (([((Int.tmod ((Fa .u16 p2 ((IntKind.wrap .i64 ((IntKind.wrap .i64 (3 * v1.2)) + v4.2))))) 2) == 0)] : List Bool)).length ≤ E8)).bind fun _ =>
    j7 (v4.1 ++ (([((Int.tmod ((Fa .u16 p2 ((IntKind.wrap .i64 ((IntKind.wrap .i64 (3 * v1.2)) + v4.2))))) 2) == 0)] : List Bool)))))
   (j4 v4.1)
def CX (N : Nat) (p0 : Int) (p1 : Int) (p2 : Int) (p3 : Bool) (j1 : ((List (List Bool))) → Option ((List (List Bool)))) : Nat → ((List (List Bool)) × Int) → Option ((List (List Bool)))
 | 0, _ => none
 | n1 + 1, v1 =>
  AR ((decide (v1.2 < p0)))
   (CY N p1 p2 p3 v1 (fun (v5 : (List Bool)) =>
    (E7 (v1.1.length + (([v5] : List (List Bool))).length ≤ E8)).bind fun _ =>
    CX N p0 p1 p2 p3 j1 n1 (v1.1 ++ (([v5] : List (List Bool))), (IntKind.wrap .i64 (v1.2 + 1)))) N (([] : List Bool), 0))
   (j1 v1.1)
def E1 (N : Nat) (p0 : Int) (p1 : Int) (p2 : Int) (p3 : Bool) : Option ((List (List Bool))) :=
 CX N p0 p1 p2 p3 (fun (v2 : (List (List Bool))) =>
  some v2) N (([] : List (List Bool)), 0)
def DH (N : Nat) (p0 : CV) (j4 : ((List Int) × (List Int) × (List Int)) → Option (Ak × Bool)) : Nat → ((List Int) × (List Int) × (List Int) × Int) → Option (Ak × Bool)
 | 0, _ => none
 | n4 + 1, v4 =>
  AR ((decide (v4.2.2.2 < (p0.fVersions.length : Int))))
   ((Ba p0.fVersions v4.2.2.2).bind fun v7 =>
   (E7 (v4.1.length + (([(IntKind.wrap .i64 (1 + (IntKind.wrap .i64 ((Int.tmod v7 3)))))] : List Int)).length ≤ E8)).bind fun _ =>
   (E2 N p0.fNow v4.2.2.2).bind fun v9 =>
   (E7 ((IntKind.wrap .i64 (1 + (IntKind.wrap .i64 ((Int.tmod v7 3))))) ≠ 0)).bind fun _ =>
   (E7 (v4.2.1.length + (([(Int.tmod v9 ((IntKind.wrap .i64 (1 + (IntKind.wrap .i64 ((Int.tmod v7 3)))))))] : List Int)).length ≤ E8)).bind fun _ =>
   (E2 N p0.fTarget v4.2.2.2).bind fun v12 =>
   (E7 ((IntKind.wrap .i64 (1 + (IntKind.wrap .i64 ((Int.tmod v7 3))))) ≠ 0)).bind fun _ =>
   (E7 (v4.2.2.1.length + (([(Int.tmod v12 ((IntKind.wrap .i64 (1 + (IntKind.wrap .i64 ((Int.tmod v7 3)))))))] : List Int)).length ≤ E8)).bind fun _ =>
   DH N p0 j4 n4 (v4.1 ++ (([(IntKind.wrap .i64 (1 + (IntKind.wrap .i64 ((Int.tmod v7 3)))))] : List Int)), v4.2.1 ++ (([(Int.tmod v9 ((IntKind.wrap .i64 (1 + (IntKind.wrap .i64 ((Int.tmod v7 3)))))))] : List Int)), v4.2.2.1 ++ (([(Int.tmod v12 ((IntKind.wrap .i64 (1 + (IntKind.wrap .i64 ((Int.tmod v7 3)))))))] : List Int)), (IntKind.wrap .i64 (v4.2.2.2 + 1))))
   (j4 (v4.1, v4.2.1, v4.2.2.1))
def BV (N : Nat) (p0 : CV) (v5 : (List Int) × (List Int) × (List Int)) (j15 : ((List AO)) → Option (Ak × Bool)) : Nat → ((List AO) × Int) → Option (Ak × Bool)
 | 0, _ => none
 | n15 + 1, v15 =>
  Bf (fun (v17 : Bool) =>
   AR v17
    ((Ba p0.fLinks v15.2).bind fun v20 =>
    (E7 ((v5.1.length : Int) ≠ 0)).bind fun _ =>
    (E7 ((v5.1.length : Int) ≠ 0)).bind fun _ =>
    Bf (fun (v23 : Bool) =>
     (Ba v5.1 ((Int.tmod ((IntKind.wrap .i64 v20.fFrom)) ((v5.1.length : Int))))).bind fun v26 =>
     (Ba v5.1 ((Int.tmod ((IntKind.wrap .i64 v20.fTo)) ((v5.1.length : Int))))).bind fun v27 =>
     (E1 N v26 v27 v20.fBad false).bind fun v28 =>
     Bf (fun (v29 : (List (List Bool))) =>
      (E7 (v15.1.length + (([(AO.mk ((IntKind.wrap .i64 (1 + (IntKind.wrap .i64 ((Int.tmod v20.fKind 4)))))) ((Int.tmod ((IntKind.wrap .i64 v20.fFrom)) ((v5.1.length : Int)))) ((Int.tmod ((IntKind.wrap .i64 v20.fTo)) ((v5.1.length : Int)))) v23 v28 v29)] : List AO)).length ≤ E8)).bind fun _ =>
      BV N p0 v5 j15 n15 (v15.1 ++ (([(AO.mk ((IntKind.wrap .i64 (1 + (IntKind.wrap .i64 ((Int.tmod v20.fKind 4)))))) ((Int.tmod ((IntKind.wrap .i64 v20.fFrom)) ((v5.1.length : Int)))) ((Int.tmod ((IntKind.wrap .i64 v20.fTo)) ((v5.1.length : Int)))) v23 v28 v29)] : List AO)), (IntKind.wrap .i64 (v15.2 + 1))))
     fun j29 =>
     AR (((IntKind.wrap .i64 (1 + (IntKind.wrap .i64 ((Int.tmod v20.fKind 4))))) == 4))
      ((Ba v5.1 ((Int.tmod ((IntKind.wrap .i64 v20.fFrom)) ((v5.1.length : Int))))).bind fun v31 =>
      (Ba v5.1 ((Int.tmod ((IntKind.wrap .i64 v20.fFrom)) ((v5.1.length : Int))))).bind fun v32 =>
      (E1 N v31 v32 v20.fLost true).bind fun v33 =>
      j29 v33)
      (j29 ([] : List (List Bool))))
    fun j23 =>
    AR v20.fAware
     ((Bn N ((AO.mk ((IntKind.wrap .i64 (1 + (IntKind.wrap .i64 ((Int.tmod v20.fKind 4)))))) ((Int.tmod ((IntKind.wrap .i64 v20.fFrom)) ((v5.1.length : Int)))) ((Int.tmod ((IntKind.wrap .i64 v20.fTo)) ((v5.1.length : Int)))) false (([] : List (List Bool))) (([] : List (List Bool)))))).bind fun v25 =>
     j23 (!v25))
     (j23 false))
    (j15 v15.1))
  fun j17 =>
  AR ((decide (v15.2 < (p0.fLinks.length : Int))))
   (j17 (decide (0 < (v5.1.length : Int))))
   (j17 false)
def FD (N : Nat) (p0 : CV) : Option (Ak × Bool) :=
 Bf (fun (v1 : Bool) =>
  AR v1
   (some ((Ak.mk (([] : List Int)) (([] : List Int)) (([] : List Int)) (([] : List AO))), false))
   (DH N p0 (fun (v5 : (List Int) × (List Int) × (List Int)) =>
    BV N p0 v5 (fun (v16 : (List AO)) =>
     some ((Ak.mk v5.1 v5.2.1 v5.2.2 v16), true)) N (([] : List AO), 0)) N (([] : List Int), ([] : List Int), ([] : List Int), 0)))
 fun j1 =>
 AR ((decide (3 < (p0.fVersions.length : Int))))
  (j1 true)
  (j1 (decide (4 < (p0.fLinks.length : Int))))
def Cp (_ : Nat) : Option Ak :=
 some ((Ak.mk (([2] : List Int)) (([0] : List Int)) (([1] : List Int)) (([(AO.mk 1 0 0 false (([([true, true] : List Bool), ([false, true] : List Bool)] : List (List Bool))) (([] : List (List Bool))))] : List AO))))
def E3 (_ : Nat) (p0 : Int) (p1 : Int) : Option Bool :=
 Bf (fun (v1 : Bool) =>
  some v1)
 fun j1 =>
 AR ((decide (0 ≤ p0)))
  (j1 (decide (p0 < p1)))
  (j1 false)
def HX (_ : Nat) (p0 : Int) (p1 : Bool) : Option Bool :=
 Bf (fun (v1 : Bool) =>
  some v1)
 fun j1 =>
 AR ((p0 == 1))
  (j1 true)
  (AR ((p0 == 2))
   (j1 true)
   (AR ((p0 == 3))
    (j1 (!p1))
    (AR ((p0 == 4))
     (j1 (!p1))
     (j1 false))))
def E0 (_ : Nat) (p0 : List Bool) (p1 : Int) : Option Bool :=
 some (((p0.length : Int) != p1))
def BG (N : Nat) (p0 : List (List Bool)) (p1 : (List Bool) → Option Bool) (j1 : Unit → Option Int) : Nat → Int → Option Int
 | 0, _ => none
 | n1 + 1, v1 =>
  AR ((decide (v1 < (p0.length : Int))))
   ((Ba p0 v1).bind fun v4 =>
   (p1 v4).bind fun v5 =>
   AR v5
    (some v1)
    (BG N p0 p1 j1 n1 (IntKind.wrap .i64 (v1 + 1))))
   (j1 ())
def Es (N : Nat) (p0 : List (List Bool)) (p1 : (List Bool) → Option Bool) : Option Int :=
 BG N p0 p1 (fun (_ : Unit) =>
  some ((-1))) N 0
def DT (N : Nat) (p0 : List (List Bool)) (p1 : (List Bool) → Option Bool) : Option Bool :=
 (Es N p0 p1).bind fun v1 =>
 some ((decide (0 ≤ v1)))
def Ga (N : Nat) (p0 : List (List Bool)) (p1 : Int) (p2 : Int) : Option Bool :=
 Bf (fun (v1 : Bool) =>
  some v1)
 fun j1 =>
 AR (((p0.length : Int) == p1))
  ((DT N p0 ((fun (x : List Bool) => E0 N x p2))).bind fun v3 =>
  j1 (!v3))
  (j1 false)
def D5 (N : Nat) (p1 : AO) (j19 : Unit → Option Int) : Nat → Int → Option Int
 | 0, _ => none
 | n19 + 1, v19 =>
  AR ((decide (v19 < (p1.fRewrite.length : Int))))
   ((Ba p1.fRewrite v19).bind fun v22 =>
   (Ba v22 v19).bind fun v23 =>
   AR ((!v23))
    (some 1)
    (D5 N p1 j19 n19 (IntKind.wrap .i64 (v19 + 1))))
   (j19 ())
def Hv (N : Nat) (p0 : Ak) (p1 : AO) : Option Int :=
 (HX N p1.fKind p1.fAware).bind fun v1 =>
 AR ((!v1))
  (some 1)
  (Bf (fun (v3 : Bool) =>
   AR v3
    (some 4)
    ((Ba p0.fVersions p1.fFrom).bind fun v8 =>
    Bf (fun (v9 : Bool) =>
     AR v9
      (some 6)
      (D5 N p1 (fun (_ : Unit) =>
       some 0) N 0))
    fun j9 =>
    (Ba p0.fVersions p1.fTo).bind fun v10 =>
    (Ga N p1.fOK v8 v10).bind fun v11 =>
    AR ((!v11))
     (j9 true)
     (AR ((p1.fKind == 4))
      ((Ga N p1.fRewrite v8 v8).bind fun v14 =>
      AR ((!v14))
       (j9 true)
       (AR ((!((p1.fKind == 4))))
        (j9 (decide (0 < (p1.fRewrite.length : Int))))
        (j9 false)))
      (AR ((!((p1.fKind == 4))))
       (j9 (decide (0 < (p1.fRewrite.length : Int))))
       (j9 false)))))
  fun j3 =>
  (E3 N p1.fFrom ((p0.fVersions.length : Int))).bind fun v4 =>
  AR ((!v4))
   (j3 true)
   ((E3 N p1.fTo ((p0.fVersions.length : Int))).bind fun v6 =>
   j3 (!v6)))
def Cz (N : Nat) (p0 : Ak) (j7 : Unit → Option Int) : Nat → Int → Option Int
 | 0, _ => none
 | n7 + 1, v7 =>
  AR ((decide (v7 < (p0.fVersions.length : Int))))
   ((Ba p0.fVersions v7).bind fun v10 =>
   Bf (fun (v11 : Bool) =>
    AR v11
     (some 7)
     (Cz N p0 j7 n7 (IntKind.wrap .i64 (v7 + 1))))
   fun j11 =>
   AR ((decide (v10 < 1)))
    (j11 true)
    (AR ((decide (6 < v10)))
     (j11 true)
     ((Ba p0.fNow v7).bind fun v14 =>
     (E3 N v14 v10).bind fun v15 =>
     AR ((!v15))
      (j11 true)
      ((Ba p0.fTarget v7).bind fun v17 =>
      (E3 N v17 v10).bind fun v18 =>
      j11 (!v18)))))
   (j7 ())
def Cf (N : Nat) (p0 : Ak) (j20 : Unit → Option Int) : Nat → Int → Option Int
 | 0, _ => none
 | n20 + 1, v20 =>
  AR ((decide (v20 < (p0.fTables.length : Int))))
   ((Ba p0.fTables v20).bind fun v23 =>
   (Hv N p0 v23).bind fun v24 =>
   AR ((v24 != 0))
    (some v24)
    (Cf N p0 j20 n20 (IntKind.wrap .i64 (v20 + 1))))
   (j20 ())
def Dl (N : Nat) (p0 : Ak) : Option Int :=
 Bf (fun (v1 : Bool) =>
  AR v1
   (some 3)
   (Bf (fun (v4 : Bool) =>
    AR v4
     (some 6)
     (Cz N p0 (fun (_ : Unit) =>
      Cf N p0 (fun (_ : Unit) =>
       some 0) N 0) N 0))
   fun j4 =>
   AR (((p0.fNow.length : Int) != (p0.fVersions.length : Int)))
    (j4 true)
    (j4 ((p0.fTarget.length : Int) != (p0.fVersions.length : Int)))))
 fun j1 =>
 AR ((decide (6 < (p0.fVersions.length : Int))))
  (j1 true)
  (j1 (decide (12 < (p0.fTables.length : Int))))
def Bx (_ : Nat) (p0 : List Int) : Option ((List Int)) :=
 (E7 ((([] : List Int)).length + p0.length ≤ E8)).bind fun _ =>
 some ((([] : List Int)) ++ p0)
def Ie (_ : Nat) (p0 : Int) (p1 : Int) : Option (Int × Int) :=
 some ((IntKind.wrap .u32 ((Fa .u64 ((IntKind.wrap .u64 ((IntKind.wrap .u64 p0) * (IntKind.wrap .u64 p1)))) 32))), (IntKind.wrap .u32 ((IntKind.wrap .u64 ((IntKind.wrap .u64 p0) * (IntKind.wrap .u64 p1))))))
def If (_ : Nat) (p0 : Int) (p1 : Int) : Option (Int × Int) :=
 some ((IntKind.wrap .u64 ((IntKind.wrap .u64 ((IntKind.wrap .u64 ((Fa .u64 p0 32) * (Fa .u64 p1 32))) + (Fa .u64 ((IntKind.wrap .u64 ((IntKind.wrap .u64 ((Fa .u64 p0 32) * (F4 .u64 p1 4294967295))) + (Fa .u64 ((IntKind.wrap .u64 ((F4 .u64 p0 4294967295) * (F4 .u64 p1 4294967295)))) 32)))) 32))) + (Fa .u64 ((IntKind.wrap .u64 ((F4 .u64 ((IntKind.wrap .u64 ((IntKind.wrap .u64 ((Fa .u64 p0 32) * (F4 .u64 p1 4294967295))) + (Fa .u64 ((IntKind.wrap .u64 ((F4 .u64 p0 4294967295) * (F4 .u64 p1 4294967295)))) 32)))) 4294967295) + (IntKind.wrap .u64 ((F4 .u64 p0 4294967295) * (Fa .u64 p1 32)))))) 32))), (IntKind.wrap .u64 (p0 * p1)))
def IZ (N : Nat) (p0 : Int) (p1 : Int) : Option (Int × Int) :=
 AR false
  ((Ie N ((IntKind.wrap .u32 p0)) ((IntKind.wrap .u32 p1))).bind fun v2 =>
  some ((IntKind.wrap .u64 v2.1), (IntKind.wrap .u64 v2.2)))
  ((If N p0 p1).bind fun v3 =>
  some (v3.1, v3.2))
def EO (N : Nat) (j9 : ((List Int)) → Option ((List Int))) : Nat → ((List Int) × Int) → Option ((List Int))
 | 0, _ => none
 | n9 + 1, v9 =>
  AR ((decide (v9.2 < (v9.1.length : Int))))
   ((E7 ((0 : Int) ≤ v9.2 ∧ (v9.2).toNat ≤ v9.1.length ∧ v9.1.length ≤ v9.1.length)).bind fun _ =>
   (E7 ((0 : Int) ≤ v9.2 ∧ 0 ≤ (v9.2).toNat ∧ (v9.2).toNat ≤ v9.1.length)).bind fun _ =>
   EO N j9 n9 (JA v9.1 ((v9.2).toNat) ((((v9.1.drop 0).take ((v9.2).toNat))).take (Nat.min (((v9.1.drop 0).take ((v9.2).toNat))).length ((v9.1.length - (v9.2).toNat)))), (IntKind.wrap .i64 (v9.2 + (((Nat.min (((v9.1.drop 0).take ((v9.2).toNat))).length ((v9.1.length - (v9.2).toNat))) : Nat) : Int)))))
   (j9 v9.1)
def Gs (N : Nat) (p0 : List Int) (p1 : Int) : Option ((List Int)) :=
 Bf (fun (_ : Unit) =>
  (IZ N ((IntKind.wrap .u64 ((p0.length : Int)))) ((IntKind.wrap .u64 p1))).bind fun v3 =>
  Bf (fun (_ : Unit) =>
   (E7 ((0 : Int) ≤ (IntKind.wrap .i64 v3.2) ∧ (IntKind.wrap .i64 v3.2) ≤ (IntKind.wrap .i64 v3.2) ∧ (IntKind.wrap .i64 v3.2) ≤ (E8 : Int))).bind fun _ =>
   EO N (fun (v10 : (List Int)) =>
    some v10) N (JA (List.replicate ((IntKind.wrap .i64 v3.2)).toNat ((0 : Int))) 0 (p0.take (Nat.min p0.length ((List.replicate ((IntKind.wrap .i64 v3.2)).toNat ((0 : Int))).length))), (((Nat.min p0.length ((List.replicate ((IntKind.wrap .i64 v3.2)).toNat ((0 : Int))).length)) : Nat) : Int)))
  fun j4 =>
  Bf (fun (v5 : Bool) =>
   AR v5
    (none)
    (j4 ()))
  fun j5 =>
  AR ((decide (0 < v3.1)))
   (j5 true)
   (j5 (decide (9223372036854775807 < v3.2))))
 fun j1 =>
 AR ((decide (p1 < 0)))
  (none)
  (j1 ())
def Gr (_ : Nat) (p0 : AO) : Option Bool :=
 Bf (fun (v1 : Bool) =>
  some v1)
 fun j1 =>
 AR ((p0.fKind == 3))
  (j1 true)
  (j1 (p0.fKind == 4))
def H7 (N : Nat) (p0 : Ak) (j6 : ((List Int)) → Option (Ag × Int)) : Nat → ((List Int) × Int) → Option (Ag × Int)
 | 0, _ => none
 | n6 + 1, v6 =>
  AR ((decide (v6.2 < (p0.fTables.length : Int))))
   (Bf (fun (v9 : (List Int)) =>
    H7 N p0 j6 n6 (v9, (IntKind.wrap .i64 (v6.2 + 1))))
   fun j9 =>
   (Ba p0.fTables v6.2).bind fun v10 =>
   (Gr N v10).bind fun v11 =>
   AR v11
    ((Ba p0.fNow v10.fFrom).bind fun v13 =>
    (E7 (0 ≤ v13)).bind fun _ =>
    (Ba v6.1 v6.2).bind fun _ =>
    j9 (v6.1.set ((v6.2).toNat) ((Dy .u8 1 v13))))
    (j9 v6.1))
   (j6 v6.1)
def Jz (N : Nat) (p0 : Ak) : Option (Ag × Int) :=
 (Dl N p0).bind fun v1 =>
 AR ((v1 != 0))
  (some ((Ag.mk (([] : List Int)) (([] : List Int)) (([] : List Int))), v1))
  ((Bx N p0.fNow).bind fun v3 =>
  (Gs N (([(-1)] : List Int)) ((p0.fNow.length : Int))).bind fun v4 =>
  (E7 ((0 : Int) ≤ (p0.fTables.length : Int) ∧ (p0.fTables.length : Int) ≤ (p0.fTables.length : Int) ∧ (p0.fTables.length : Int) ≤ (E8 : Int))).bind fun _ =>
  H7 N p0 (fun (v7 : (List Int)) =>
   some ((Ag.mk v3 v4 v7), 0)) N (List.replicate ((p0.fTables.length : Int)).toNat ((0 : Int)), 0))
def FW (_ : Nat) (p0 : Ag) (p1 : Int) : Option Int :=
 (Ba p0.fBase p1).bind fun v1 =>
 (E7 (0 ≤ v1)).bind fun _ =>
 Bf (fun (v3 : Int) =>
  some v3)
 fun j3 =>
 (Ba p0.fNext p1).bind fun v4 =>
 AR ((decide (0 ≤ v4)))
  ((Ba p0.fNext p1).bind fun v6 =>
  (E7 (0 ≤ v6)).bind fun _ =>
  j3 (M5 .u8 ((Dy .u8 1 v1)) ((Dy .u8 1 v6))))
  (j3 (Dy .u8 1 v1))
def E4 (N : Nat) (p0 : Ak) (p1 : Ag) (j7 : Unit → Option Int) : Nat → Int → Option Int
 | 0, _ => none
 | n7 + 1, v7 =>
  AR ((decide (v7 < (p0.fVersions.length : Int))))
   ((Ba p0.fVersions v7).bind fun v10 =>
   Bf (fun (v11 : Bool) =>
    AR v11
     (some 7)
     ((Ba p1.fBase v7).bind fun v20 =>
     (Ba p1.fNext v7).bind fun v21 =>
     AR ((v20 == v21))
      (some 1)
      (E4 N p0 p1 j7 n7 (IntKind.wrap .i64 (v7 + 1)))))
   fun j11 =>
   (Ba p1.fBase v7).bind fun v12 =>
   AR ((decide (v12 < 0)))
    (j11 true)
    ((Ba p1.fBase v7).bind fun v14 =>
    AR ((decide (v10 ≤ v14)))
     (j11 true)
     ((Ba p1.fNext v7).bind fun v16 =>
     AR ((decide (v16 < (-1))))
      (j11 true)
      ((Ba p1.fNext v7).bind fun v18 =>
      j11 (decide (v10 ≤ v18))))))
   (j7 ())
def EM (N : Nat) (p0 : Ak) (p1 : Ag) (j23 : Unit → Option Int) : Nat → Int → Option Int
 | 0, _ => none
 | n23 + 1, v23 =>
  AR ((decide (v23 < (p0.fTables.length : Int))))
   ((Ba p0.fTables v23).bind fun v26 =>
   Bf (fun (v27 : Int × Int) =>
    Bf (fun (v33 : Bool) =>
     AR v33
      (some 1)
      (EM N p0 p1 j23 n23 (IntKind.wrap .i64 (v23 + 1))))
    fun j33 =>
    (Ba p1.fHeld v23).bind fun v34 =>
    AR (((Eh .u8 v27.1 v34) != 0))
     (j33 true)
     ((Ba p1.fHeld v23).bind fun v36 =>
     j33 ((Eh .u8 v36 v27.2) != 0)))
   fun j27 =>
   (Gr N v26).bind fun v28 =>
   AR v28
    ((FW N p1 v26.fFrom).bind fun v30 =>
    (Ba p0.fVersions v26.fFrom).bind fun v31 =>
    (E7 (0 ≤ v31)).bind fun _ =>
    j27 (v30, (IntKind.wrap .u8 ((Dy .u8 1 v31) - 1))))
    (j27 (0, 0)))
   (j23 ())
def FQ (N : Nat) (p0 : Ak) (p1 : Ag) : Option Int :=
 (Dl N p0).bind fun v1 =>
 AR ((v1 != 0))
  (some v1)
  (Bf (fun (v3 : Bool) =>
   AR v3
    (some 6)
    (E4 N p0 p1 (fun (_ : Unit) =>
     EM N p0 p1 (fun (_ : Unit) =>
      some 0) N 0) N 0))
  fun j3 =>
  AR (((p1.fBase.length : Int) != (p0.fVersions.length : Int)))
   (j3 true)
   (AR (((p1.fNext.length : Int) != (p0.fVersions.length : Int)))
    (j3 true)
    (j3 ((p1.fHeld.length : Int) != (p0.fTables.length : Int)))))
def BO (_ : Nat) (p0 : List Int) : Option ((List Int)) :=
 (E7 ((([] : List Int)).length + p0.length ≤ E8)).bind fun _ =>
 some ((([] : List Int)) ++ p0)
def EN (N : Nat) (p1 : Ag) (j3 : ((List Int)) → Option ((List Ag) × Int)) : Nat → ((List Int) × Int) → Option ((List Ag) × Int)
 | 0, _ => none
 | n3 + 1, v3 =>
  AR ((decide (v3.2 < (p1.fNext.length : Int))))
   (Bf (fun (v6 : (List Int)) =>
    EN N p1 j3 n3 (v6, (IntKind.wrap .i64 (v3.2 + 1))))
   fun j6 =>
   (Ba p1.fNext v3.2).bind fun v7 =>
   AR ((decide (0 ≤ v7)))
    ((E7 (v3.1.length + (([v3.2] : List Int)).length ≤ E8)).bind fun _ =>
    j6 (v3.1 ++ (([v3.2] : List Int))))
    (j6 v3.1))
   (j3 v3.1)
def DW (N : Nat) (v4 : (List Int)) (v11 : (List Ag) × Int) (j17 : ((List Int)) → Option ((List Ag) × Int)) : Nat → ((List Int) × Int) → Option ((List Ag) × Int)
 | 0, _ => none
 | n17 + 1, v17 =>
  AR ((decide (v17.2 < (v4.length : Int))))
   (Bf (fun (v20 : (List Int)) =>
    DW N v4 v11 j17 n17 (v20, (IntKind.wrap .i64 (v17.2 + 1))))
   fun j20 =>
   (Ba v4 v17.2).bind fun v21 =>
   (E7 (0 ≤ v17.2)).bind fun _ =>
   AR (((F4 .i64 ((Fa .i64 v11.2 v17.2)) 1) == 1))
    ((Ba v17.1 v21).bind fun _ =>
    j20 (v17.1.set ((v21).toNat) ((-1))))
    (j20 v17.1))
   (j17 v17.1)
def DU (N : Nat) (p1 : Ag) (v4 : (List Int)) (j11 : ((List Ag)) → Option ((List Ag) × Int)) : Nat → ((List Ag) × Int) → Option ((List Ag) × Int)
 | 0, _ => none
 | n11 + 1, v11 =>
  AR ((decide (v11.2 < (Dy .i64 1 ((v4.length : Int))))))
   ((Bx N p1.fBase).bind fun v14 =>
   (Bx N p1.fNext).bind fun v15 =>
   (BO N p1.fHeld).bind fun v16 =>
   DW N v4 v11 (fun (v18 : (List Int)) =>
    (E7 (v11.1.length + (([(Ag.mk v14 v18 v16)] : List Ag)).length ≤ E8)).bind fun _ =>
    DU N p1 v4 j11 n11 (v11.1 ++ (([(Ag.mk v14 v18 v16)] : List Ag)), (IntKind.wrap .i64 (v11.2 + 1)))) N (v15, 0))
   (j11 v11.1)
def H4 (N : Nat) (p0 : Ak) (p1 : Ag) : Option ((List Ag) × Int) :=
 (FQ N p0 p1).bind fun v1 =>
 AR ((v1 != 0))
  (some (([] : List Ag), v1))
  (EN N p1 (fun (v4 : (List Int)) =>
   (E7 (0 ≤ (v4.length : Int))).bind fun _ =>
   DU N p1 v4 (fun (v12 : (List Ag)) =>
    some (v12, 0)) N (([] : List Ag), 0)) N (([] : List Int), 0))
def Cv (N : Nat) (v1 : (List Af) × Int) (v4 : AO) (v6 : Int) (v11 : (List Af) × Int) (v17 : List Bool) (j18 : ((List Af) × Bool) → Option ((List Af))) : Nat → ((List Af) × Bool × Int) → Option ((List Af))
 | 0, _ => none
 | n18 + 1, v18 =>
  AR ((decide (v18.2.2 < (v17.length : Int))))
   (Bf (fun (v21 : (List Af) × Bool) =>
    Cv N v1 v4 v6 v11 v17 j18 n18 (v21.1, v21.2, (IntKind.wrap .i64 (v18.2.2 + 1))))
   fun j21 =>
   (Ba v17 v18.2.2).bind fun v22 =>
   (E7 (0 ≤ v18.2.2)).bind fun _ =>
   AR (((F4 .u8 ((Fa .u8 v6 v18.2.2)) 1) == 0))
    (j21 (v18.1, v18.2.1))
    (Bf (fun (v25 : Bool) =>
     Bf (fun (v27 : Bool) =>
      AR v27
       ((E7 (v18.1.length + (([(Af.mk v1.2 v11.2 v18.2.2)] : List Af)).length ≤ E8)).bind fun _ =>
       j21 (v18.1 ++ (([(Af.mk v1.2 v11.2 v18.2.2)] : List Af)), v25))
       (j21 (v18.1, v25)))
     fun j27 =>
     AR ((!v22))
      (j27 (!v4.fAware))
      (j27 false))
    fun j25 =>
    AR v18.2.1
     (j25 true)
     (j25 v22)))
   (j18 (v18.1, v18.2.1))
def C7 (N : Nat) (v1 : (List Af) × Int) (v4 : AO) (v6 : Int) (v7 : Int) (j11 : ((List Af)) → Option ((List Af))) : Nat → ((List Af) × Int) → Option ((List Af))
 | 0, _ => none
 | n11 + 1, v11 =>
  AR ((decide (v11.2 < (v4.fOK.length : Int))))
   (Bf (fun (v14 : (List Af)) =>
    C7 N v1 v4 v6 v7 j11 n11 (v14, (IntKind.wrap .i64 (v11.2 + 1))))
   fun j14 =>
   (E7 (0 ≤ v11.2)).bind fun _ =>
   AR (((F4 .u8 ((Fa .u8 v7 v11.2)) 1) == 0))
    (j14 v11.1)
    ((Ba v4.fOK v11.2).bind fun v17 =>
    Cv N v1 v4 v6 v11 v17 (fun (v19 : (List Af) × Bool) =>
     Bf (fun (v31 : Bool) =>
      AR v31
       ((E7 (v19.1.length + (([(Af.mk v1.2 v11.2 ((-1)))] : List Af)).length ≤ E8)).bind fun _ =>
       j14 (v19.1 ++ (([(Af.mk v1.2 v11.2 ((-1)))] : List Af))))
       (j14 v19.1))
     fun j31 =>
     AR v4.fAware
      (j31 (!v19.2))
      (j31 false)) N (v11.1, false, 0)))
   (j11 v11.1)
def Eo (N : Nat) (p0 : Ak) (p1 : Ag) (j1 : ((List Af)) → Option ((List Af))) : Nat → ((List Af) × Int) → Option ((List Af))
 | 0, _ => none
 | n1 + 1, v1 =>
  AR ((decide (v1.2 < (p0.fTables.length : Int))))
   ((Ba p0.fTables v1.2).bind fun v4 =>
   (FW N p1 v4.fFrom).bind fun v5 =>
   (FW N p1 v4.fTo).bind fun v6 =>
   Bf (fun (v7 : Int) =>
    C7 N v1 v4 v6 v7 (fun (v12 : (List Af)) =>
     Eo N p0 p1 j1 n1 (v12, (IntKind.wrap .i64 (v1.2 + 1)))) N (v1.1, 0))
   fun j7 =>
   (Gr N v4).bind fun v8 =>
   AR v8
    ((Ba p1.fHeld v1.2).bind fun v10 =>
    j7 v10)
    (j7 v5))
   (j1 v1.1)
def GC (N : Nat) (p0 : Ak) (p1 : Ag) : Option ((List Af)) :=
 Eo N p0 p1 (fun (v2 : (List Af)) =>
  some v2) N (([] : List Af), 0)
def FI (N : Nat) (p0 : Ak) (v1 : (List Ag) × Int) (j3 : Unit → Option (Ag × Af × Int)) : Nat → Int → Option (Ag × Af × Int)
 | 0, _ => none
 | n3 + 1, v3 =>
  AR ((decide (v3 < (v1.1.length : Int))))
   ((Ba v1.1 v3).bind fun v6 =>
   (GC N p0 v6).bind fun v7 =>
   AR ((decide (0 < (v7.length : Int))))
    ((Ba v7 0).bind fun v9 =>
    some (v6, v9, 0))
    (FI N p0 v1 j3 n3 (IntKind.wrap .i64 (v3 + 1))))
   (j3 ())
def HJ (N : Nat) (p0 : Ak) (p1 : Ag) : Option (Ag × Af × Int) :=
 (H4 N p0 p1).bind fun v1 =>
 AR ((v1.2 != 0))
  (some ((Ag.mk (([] : List Int)) (([] : List Int)) (([] : List Int))), (Af.mk 0 0 0), v1.2))
  (FI N p0 v1 (fun (_ : Unit) =>
   some ((Ag.mk (([] : List Int)) (([] : List Int)) (([] : List Int))), (Af.mk 0 0 0), 15)) N 0)
def Gp (N : Nat) (p0 : Ak) (p1 : Ag) : Option (Bool × Int) :=
 (HJ N p0 p1).bind fun v1 =>
 AR ((v1.2.2 == 0))
  (some (false, 0))
  (AR ((v1.2.2 == 15))
   (some (true, 0))
   (some (false, v1.2.2)))
def JW (N : Nat) (p0 : Ak) : Option (Ag × Bool × Int) :=
 (Jz N p0).bind fun v1 =>
 AR ((v1.2 != 0))
  (some ((Ag.mk (([] : List Int)) (([] : List Int)) (([] : List Int))), false, v1.2))
  ((Gp N p0 v1.1).bind fun v3 =>
  some (v1.1, v3.1, v3.2))
def H6 (N : Nat) (p0 : Ag) (j1 : ((List Int)) → Option ByteArray) : Nat → ((List Int) × Int) → Option ByteArray
 | 0, _ => none
 | n1 + 1, v1 =>
  AR ((decide (v1.2 < (p0.fBase.length : Int))))
   ((Ba p0.fBase v1.2).bind fun v4 =>
   (Ba p0.fNext v1.2).bind fun v5 =>
   (E7 (v1.1.length + (([(IntKind.wrap .u8 v4), (IntKind.wrap .u8 ((IntKind.wrap .i64 (v5 + 1))))] : List Int)).length ≤ E8)).bind fun _ =>
   H6 N p0 j1 n1 (v1.1 ++ (([(IntKind.wrap .u8 v4), (IntKind.wrap .u8 ((IntKind.wrap .i64 (v5 + 1))))] : List Int)), (IntKind.wrap .i64 (v1.2 + 1))))
   (j1 v1.1)
def H8 (N : Nat) (p0 : Ag) (j7 : ((List Int)) → Option ByteArray) : Nat → ((List Int) × Int) → Option ByteArray
 | 0, _ => none
 | n7 + 1, v7 =>
  AR ((decide (v7.2 < (p0.fHeld.length : Int))))
   ((Ba p0.fHeld v7.2).bind fun v10 =>
   (E7 (v7.1.length + (([v10] : List Int)).length ≤ E8)).bind fun _ =>
   H8 N p0 j7 n7 (v7.1 ++ (([v10] : List Int)), (IntKind.wrap .i64 (v7.2 + 1))))
   (j7 v7.1)
def IC (N : Nat) (p0 : Ag) : Option ByteArray :=
 H6 N p0 (fun (v2 : (List Int)) =>
  H8 N p0 (fun (v8 : (List Int)) =>
   some ((Kg v8))) N (v2, 0)) N (([] : List Int), 0)
def Fq (N : Nat) (v1 : (List Av) × Int) (v4 : Int) (j5 : ((List Av)) → Option ((List Av))) : Nat → ((List Av) × Int) → Option ((List Av))
 | 0, _ => none
 | n5 + 1, v5 =>
  AR ((decide (v5.2 < v4)))
   ((E7 (v5.1.length + (([(Av.mk 1 v1.2 v5.2)] : List Av)).length ≤ E8)).bind fun _ =>
   Fq N v1 v4 j5 n5 (v5.1 ++ (([(Av.mk 1 v1.2 v5.2)] : List Av)), (IntKind.wrap .i64 (v5.2 + 1))))
   (j5 v5.1)
def D8 (N : Nat) (p0 : Ak) (j1 : ((List Av)) → Option ((List Av))) : Nat → ((List Av) × Int) → Option ((List Av))
 | 0, _ => none
 | n1 + 1, v1 =>
  AR ((decide (v1.2 < (p0.fVersions.length : Int))))
   ((Ba p0.fVersions v1.2).bind fun v4 =>
   Fq N v1 v4 (fun (v6 : (List Av)) =>
    D8 N p0 j1 n1 (v6, (IntKind.wrap .i64 (v1.2 + 1)))) N (v1.1, 0))
   (j1 v1.1)
def C3 (N : Nat) (p0 : Ak) (j9 : ((List Av)) → Option ((List Av))) : Nat → ((List Av) × Int) → Option ((List Av))
 | 0, _ => none
 | n9 + 1, v9 =>
  AR ((decide (v9.2 < (p0.fVersions.length : Int))))
   ((E7 (v9.1.length + (([(Av.mk 2 v9.2 0)] : List Av)).length ≤ E8)).bind fun _ =>
   C3 N p0 j9 n9 (v9.1 ++ (([(Av.mk 2 v9.2 0)] : List Av)), (IntKind.wrap .i64 (v9.2 + 1))))
   (j9 v9.1)
def BN (N : Nat) (p0 : Ak) (j13 : ((List Av)) → Option ((List Av))) : Nat → ((List Av) × Int) → Option ((List Av))
 | 0, _ => none
 | n13 + 1, v13 =>
  AR ((decide (v13.2 < (p0.fTables.length : Int))))
   ((E7 (v13.1.length + (([(Av.mk 3 v13.2 0)] : List Av)).length ≤ E8)).bind fun _ =>
   BN N p0 j13 n13 (v13.1 ++ (([(Av.mk 3 v13.2 0)] : List Av)), (IntKind.wrap .i64 (v13.2 + 1))))
   (j13 v13.1)
def Jc (N : Nat) (p0 : Ak) : Option ((List Av)) :=
 D8 N p0 (fun (v2 : (List Av)) =>
  C3 N p0 (fun (v10 : (List Av)) =>
   BN N p0 (fun (v14 : (List Av)) =>
    some v14) N (v10, 0)) N (v2, 0)) N (([] : List Av), 0)
def Hr (N : Nat) (p0 : Ag) : Option Ag :=
 (Bx N p0.fBase).bind fun v1 =>
 (Bx N p0.fNext).bind fun v2 =>
 (BO N p0.fHeld).bind fun v3 =>
 some ((Ag.mk v1 v2 v3))
def GB (_ : Nat) (p0 : AO) : Option Bool :=
 Bf (fun (v1 : Bool) =>
  some v1)
 fun j1 =>
 AR ((p0.fKind == 3))
  (j1 true)
  (j1 (p0.fKind == 4))
def EL (N : Nat) (p0 : Ak) (p2 : Av) (j7 : ((List Int)) → Option (Bool × (List Int) × (List Int))) : Nat → ((List Int) × Int) → Option (Bool × (List Int) × (List Int))
 | 0, _ => none
 | n7 + 1, v7 =>
  AR ((decide (v7.2 < (p0.fTables.length : Int))))
   (Bf (fun (v10 : (List Int)) =>
    EL N p0 p2 j7 n7 (v10, (IntKind.wrap .i64 (v7.2 + 1))))
   fun j10 =>
   (Ba p0.fTables v7.2).bind fun v11 =>
   Bf (fun (v12 : Bool) =>
    AR v12
     ((Ba v7.1 v7.2).bind fun v16 =>
     (E7 (0 ≤ p2.fVersion)).bind fun _ =>
     (Ba v7.1 v7.2).bind fun _ =>
     j10 (v7.1.set ((v7.2).toNat) ((M5 .u8 v16 ((Dy .u8 1 p2.fVersion))))))
     (j10 v7.1))
   fun j12 =>
   AR ((v11.fFrom == p2.fIndex))
    ((GB N v11).bind fun v14 =>
    j12 v14)
    (j12 false))
   (j7 v7.1)
def I7 (N : Nat) (p0 : Ak) (p1 : Ag) (p2 : Av) : Option (Bool × (List Int) × (List Int)) :=
 Bf (fun (v1 : Bool) =>
  AR v1
   (some (false, p1.fNext, p1.fHeld))
   ((Ba p1.fNext p2.fIndex).bind fun _ =>
   EL N p0 p2 (fun (v8 : (List Int)) =>
    some (true, p1.fNext.set ((p2.fIndex).toNat) p2.fVersion, v8)) N (p1.fHeld, 0)))
 fun j1 =>
 (Ba p1.fNext p2.fIndex).bind fun v2 =>
 AR ((decide (0 ≤ v2)))
  (j1 true)
  ((Ba p1.fBase p2.fIndex).bind fun v4 =>
  j1 (v4 == p2.fVersion))
def GW (_ : Nat) (p0 : Ag) (p1 : Int) : Option Int :=
 (Ba p0.fBase p1).bind fun v1 =>
 (E7 (0 ≤ v1)).bind fun _ =>
 Bf (fun (v3 : Int) =>
  some v3)
 fun j3 =>
 (Ba p0.fNext p1).bind fun v4 =>
 AR ((decide (0 ≤ v4)))
  ((Ba p0.fNext p1).bind fun v6 =>
  (E7 (0 ≤ v6)).bind fun _ =>
  j3 (M5 .u8 ((Dy .u8 1 v1)) ((Dy .u8 1 v6))))
  (j3 (Dy .u8 1 v1))
def DV (_ : Nat) (p0 : Int) : Option Int :=
 (S4 ((⟨⟨(List.append (List.append [8, 0, 1, 0, 2, 0, 1, 0, 3, 0, 1, 0, 2, 0, 1, 0, 4, 0, 1, 0, 2, 0, 1, 0, 3, 0, 1, 0, 2, 0, 1, 0, 5, 0, 1, 0, 2, 0, 1, 0, 3, 0, 1, 0, 2, 0, 1, 0, 4, 0, 1, 0, 2, 0, 1, 0, 3, 0, 1, 0, 2, 0, 1, 0] [6, 0, 1, 0, 2, 0, 1, 0, 3, 0, 1, 0, 2, 0, 1, 0, 4, 0, 1, 0, 2, 0, 1, 0, 3, 0, 1, 0, 2, 0, 1, 0, 5, 0, 1, 0, 2, 0, 1, 0, 3, 0, 1, 0, 2, 0, 1, 0, 4, 0, 1, 0, 2, 0, 1, 0, 3, 0, 1, 0, 2, 0, 1, 0]) (List.append [7, 0, 1, 0, 2, 0, 1, 0, 3, 0, 1, 0, 2, 0, 1, 0, 4, 0, 1, 0, 2, 0, 1, 0, 3, 0, 1, 0, 2, 0, 1, 0, 5, 0, 1, 0, 2, 0, 1, 0, 3, 0, 1, 0, 2, 0, 1, 0, 4, 0, 1, 0, 2, 0, 1, 0, 3, 0, 1, 0, 2, 0, 1, 0] [6, 0, 1, 0, 2, 0, 1, 0, 3, 0, 1, 0, 2, 0, 1, 0, 4, 0, 1, 0, 2, 0, 1, 0, 3, 0, 1, 0, 2, 0, 1, 0, 5, 0, 1, 0, 2, 0, 1, 0, 3, 0, 1, 0, 2, 0, 1, 0, 4, 0, 1, 0, 2, 0, 1, 0, 3, 0, 1, 0, 2, 0, 1, 0]))⟩⟩ : ByteArray)) p0).bind fun v1 =>
 some ((IntKind.wrap .i64 v1))
def Ew (N : Nat) (p0 : AO) (p2 : Int) (j1 : Unit → Option Bool) : Nat → Int → Option Bool
 | 0, _ => none
 | n1 + 1, v1 =>
  AR ((v1 != 0))
   ((DV N v1).bind fun v4 =>
   (Ba p0.fRewrite v4).bind fun v5 =>
   (Ba v5 p2).bind fun v6 =>
   AR ((!v6))
    (some false)
    (Ew N p0 p2 j1 n1 (F4 .u8 v1 ((IntKind.wrap .u8 (v1 - 1))))))
   (j1 ())
def GO (N : Nat) (p0 : AO) (p1 : Int) (p2 : Int) : Option Bool :=
 Ew N p0 p2 (fun (_ : Unit) =>
  some true) N p1
def H0 (N : Nat) (p0 : Ak) (p1 : Ag) (p2 : Int) : Option (Bool × (List Int)) :=
 (Ba p0.fTables p2).bind fun v1 =>
 (GB N v1).bind fun v2 =>
 AR ((!v2))
  (some (false, p1.fHeld))
  ((GW N p1 v1.fFrom).bind fun v4 =>
  (Ba p1.fHeld p2).bind fun v5 =>
  Bf (fun (v6 : Bool) =>
   AR v6
    (some (false, p1.fHeld))
    ((Ba p1.fHeld p2).bind fun _ =>
    some (true, p1.fHeld.set ((p2).toNat) v4)))
  fun j6 =>
  (Ba p1.fHeld p2).bind fun v7 =>
  AR ((v7 == v4))
   (j6 true)
   (AR ((v1.fKind == 4))
    ((Ba p1.fBase v1.fFrom).bind fun v10 =>
    (GO N v1 ((Eh .u8 v5 v4)) v10).bind fun v11 =>
    j6 (!v11))
    (j6 false)))
def Gv (N : Nat) (p0 : Ak) (p1 : Ag) (p2 : Av) : Option (Ag × Bool) :=
 (Hr N p1).bind fun v1 =>
 AR ((p2.fKind == 1))
  ((I7 N p0 v1 p2).bind fun v3 =>
  some ((Ag.mk v1.fBase v3.2.1 v3.2.2), v3.1))
  (AR ((p2.fKind == 3))
   ((H0 N p0 v1 p2.fIndex).bind fun v5 =>
   some ((Ag.mk v1.fBase v1.fNext v5.2), v5.1))
   ((Ba v1.fNext p2.fIndex).bind fun v6 =>
   AR ((decide (v6 < 0)))
    (some (v1, false))
    ((Ba v1.fNext p2.fIndex).bind fun _ =>
    Bf (fun (v9 : (List Int)) =>
     some ((Ag.mk v9 (v1.fNext.set ((p2.fIndex).toNat) ((-1))) v1.fHeld), true))
    fun j9 =>
    AR ((p2.fKind == 2))
     ((Ba v1.fBase p2.fIndex).bind fun _ =>
     j9 (v1.fBase.set ((p2.fIndex).toNat) v6))
     (j9 v1.fBase))))
def Eu (N : Nat) (p0 : Av) (p1 : List Int) (p2 : List Int) (p3 : List Int) (p4 : List AO) (p5 : List Int) (p6 : List Int) (p7 : List Int) : Option Bool :=
 (Gv N ((Ak.mk p1 p2 p3 p4)) ((Ag.mk p5 p6 p7)) p0).bind fun v1 =>
 some ((!v1.2))
def Bl (N : Nat) (p0 : List Av) (p1 : Av → Option Bool) (j1 : Unit → Option Int) : Nat → Int → Option Int
 | 0, _ => none
 | n1 + 1, v1 =>
  AR ((decide (v1 < (p0.length : Int))))
   ((Ba p0 v1).bind fun v4 =>
   (p1 v4).bind fun v5 =>
   AR v5
    (some v1)
    (Bl N p0 p1 j1 n1 (IntKind.wrap .i64 (v1 + 1))))
   (j1 ())
def Cc (N : Nat) (p0 : List Av) (p1 : Av → Option Bool) : Option Int :=
 Bl N p0 p1 (fun (_ : Unit) =>
  some ((-1))) N 0
def Bd (N : Nat) (p1 : Av → Option Bool) (j3 : ((List Av) × Int) → Option (Nat × (List Av))) : Nat → ((List Av) × Int × Int) → Option (Nat × (List Av))
 | 0, _ => none
 | n3 + 1, v3 =>
  AR ((decide (v3.2.2 < (v3.1.length : Int))))
   (Bf (fun (v6 : (List Av) × Int) =>
    Bd N p1 j3 n3 (v6.1, v6.2, (IntKind.wrap .i64 (v3.2.2 + 1))))
   fun j6 =>
   (Ba v3.1 v3.2.2).bind fun v7 =>
   (p1 v7).bind fun v8 =>
   AR ((!v8))
    ((Ba v3.1 v3.2.1).bind fun _ =>
    j6 (v3.1.set ((v3.2.1).toNat) v7, (IntKind.wrap .i64 (v3.2.1 + 1))))
    (j6 (v3.1, v3.2.1)))
   (j3 (v3.1, v3.2.1))
def B9 (N : Nat) (p0 : List Av) (p1 : Av → Option Bool) : Option (Nat × (List Av)) :=
 (Cc N p0 p1).bind fun v1 =>
 AR ((v1 == (-1)))
  (some (p0.length, p0))
  (Bd N p1 (fun (v4 : (List Av) × Int) =>
   (E7 ((0 : Int) ≤ v4.2 ∧ (v4.2).toNat ≤ v4.1.length ∧ v4.1.length ≤ v4.1.length)).bind fun _ =>
   (E7 ((0 : Int) ≤ v4.2 ∧ 0 ≤ (v4.2).toNat ∧ (v4.2).toNat ≤ (JA v4.1 ((v4.2).toNat) (List.replicate ((v4.1.length - (v4.2).toNat)) ((Av.mk 0 0 0)))).length)).bind fun _ =>
   some ((v4.2).toNat, JA v4.1 ((v4.2).toNat) (List.replicate ((v4.1.length - (v4.2).toNat)) ((Av.mk 0 0 0))))) N (p0, v1, (IntKind.wrap .i64 (v1 + 1))))
def ED (N : Nat) (p0 : Ak) (p1 : Ag) : Option ((List Av) × Int) :=
 (FQ N p0 p1).bind fun v1 =>
 AR ((v1 != 0))
  (some (([] : List Av), v1))
  ((Jc N p0).bind fun v3 =>
  (B9 N v3 ((fun (x : Av) => Eu N x p0.fVersions p0.fNow p0.fTarget p0.fTables p1.fBase p1.fNext p1.fHeld))).bind fun v4 =>
  (E7 (v4.1 ≤ v4.2.length)).bind fun _ =>
  some (v4.2.take v4.1, 0))
def H1 (_ : Nat) (p0 : Av) : Option Bool :=
 Bf (fun (v1 : Bool) =>
  AR v1
   (some false)
   (Bf (fun (v5 : Bool) =>
    some v5)
   fun j5 =>
   AR ((p0.fKind == 1))
    (j5 true)
    (j5 (p0.fVersion == 0))))
 fun j1 =>
 AR ((decide ((UY p0.fIndex p0.fVersion) < 0)))
  (j1 true)
  (AR ((decide (p0.fKind < 1)))
   (j1 true)
   (j1 (decide (4 < p0.fKind))))
def Hl (_ : Nat) (p0 : Ak) (p1 : Av) : Option Bool :=
 AR ((p1.fKind == 3))
  (some ((decide (p1.fIndex < (p0.fTables.length : Int)))))
  (Bf (fun (v2 : Bool) =>
   some v2)
  fun j2 =>
  AR ((decide (p1.fIndex < (p0.fVersions.length : Int))))
   (AR ((p1.fKind != 1))
    (j2 true)
    ((Ba p0.fVersions p1.fIndex).bind fun v5 =>
    j2 (decide (p1.fVersion < v5))))
   (j2 false))
def HT (N : Nat) (p0 : Ak) (p1 : Ag) (p2 : Av) : Option (Ag × Int) :=
 (H1 N p2).bind fun v1 =>
 AR ((!v1))
  (some ((Ag.mk (([] : List Int)) (([] : List Int)) (([] : List Int))), 1))
  ((Hl N p0 p2).bind fun v3 =>
  AR ((!v3))
   (some ((Ag.mk (([] : List Int)) (([] : List Int)) (([] : List Int))), 4))
   ((Gv N p0 p1 p2).bind fun v5 =>
   AR ((!v5.2))
    (some ((Ag.mk (([] : List Int)) (([] : List Int)) (([] : List Int))), 11))
    (some (v5.1, 0))))
def Gt (N : Nat) (p0 : Ak) (p1 : Ag) (p2 : Av) : Option (Ag × Int) :=
 (FQ N p0 p1).bind fun v1 =>
 AR ((v1 != 0))
  (some ((Ag.mk (([] : List Int)) (([] : List Int)) (([] : List Int))), v1))
  ((HT N p0 p1 p2).bind fun v3 =>
  some (v3.1, v3.2))
def HE (N : Nat) (p0 : Ak) (p1 : Ag) (v1 : (List Av) × Int) (j2 : ((List Av) × (List Ag)) → Option ((List Av) × (List Ag))) : Nat → ((List Av) × (List Ag) × Int) → Option ((List Av) × (List Ag))
 | 0, _ => none
 | n2 + 1, v2 =>
  AR ((decide (v2.2.2 < (v1.1.length : Int))))
   (Bf (fun (v5 : (List Av) × (List Ag)) =>
    HE N p0 p1 v1 j2 n2 (v5.1, v5.2, (IntKind.wrap .i64 (v2.2.2 + 1))))
   fun j5 =>
   (Ba v1.1 v2.2.2).bind fun v6 =>
   (Gt N p0 p1 v6).bind fun v7 =>
   AR ((v7.2 != 0))
    (j5 (v2.1, v2.2.1))
    ((Gp N p0 v7.1).bind fun v9 =>
    AR v9.1
     ((E7 (v2.1.length + (([v6] : List Av)).length ≤ E8)).bind fun _ =>
     (E7 (v2.2.1.length + (([v7.1] : List Ag)).length ≤ E8)).bind fun _ =>
     j5 (v2.1 ++ (([v6] : List Av)), v2.2.1 ++ (([v7.1] : List Ag))))
     (j5 (v2.1, v2.2.1))))
   (j2 (v2.1, v2.2.1))
def Kt (N : Nat) (p0 : Ak) (p1 : Ag) : Option ((List Av) × (List Ag)) :=
 (ED N p0 p1).bind fun v1 =>
 HE N p0 p1 v1 (fun (v3 : (List Av) × (List Ag)) =>
  some (v3.1, v3.2)) N (([] : List Av), ([] : List Ag), 0)
def Ih (_ : Nat) (p0 : Int) : Option Int :=
 Bf (fun (v1 : Int × Int) =>
  Bf (fun (v3 : Int × Int) =>
   (S4 ((⟨⟨(List.append (List.append [0, 1, 2, 2, 3, 3, 3, 3, 4, 4, 4, 4, 4, 4, 4, 4, 5, 5, 5, 5, 5, 5, 5, 5, 5, 5, 5, 5, 5, 5, 5, 5, 6, 6, 6, 6, 6, 6, 6, 6, 6, 6, 6, 6, 6, 6, 6, 6, 6, 6, 6, 6, 6, 6, 6, 6, 6, 6, 6, 6, 6, 6, 6, 6] [7, 7, 7, 7, 7, 7, 7, 7, 7, 7, 7, 7, 7, 7, 7, 7, 7, 7, 7, 7, 7, 7, 7, 7, 7, 7, 7, 7, 7, 7, 7, 7, 7, 7, 7, 7, 7, 7, 7, 7, 7, 7, 7, 7, 7, 7, 7, 7, 7, 7, 7, 7, 7, 7, 7, 7, 7, 7, 7, 7, 7, 7, 7, 7]) (List.append [8, 8, 8, 8, 8, 8, 8, 8, 8, 8, 8, 8, 8, 8, 8, 8, 8, 8, 8, 8, 8, 8, 8, 8, 8, 8, 8, 8, 8, 8, 8, 8, 8, 8, 8, 8, 8, 8, 8, 8, 8, 8, 8, 8, 8, 8, 8, 8, 8, 8, 8, 8, 8, 8, 8, 8, 8, 8, 8, 8, 8, 8, 8, 8] [8, 8, 8, 8, 8, 8, 8, 8, 8, 8, 8, 8, 8, 8, 8, 8, 8, 8, 8, 8, 8, 8, 8, 8, 8, 8, 8, 8, 8, 8, 8, 8, 8, 8, 8, 8, 8, 8, 8, 8, 8, 8, 8, 8, 8, 8, 8, 8, 8, 8, 8, 8, 8, 8, 8, 8, 8, 8, 8, 8, 8, 8, 8, 8]))⟩⟩ : ByteArray)) ((IntKind.wrap .u8 v3.1))).bind fun v5 =>
   some ((IntKind.wrap .i64 (v3.2 + (IntKind.wrap .i64 v5)))))
  fun j3 =>
  AR ((decide (256 ≤ v1.1)))
   (j3 ((Fa .u32 v1.1 8), (IntKind.wrap .i64 (v1.2 + 8))))
   (j3 (v1.1, v1.2)))
 fun j1 =>
 AR ((decide (65536 ≤ p0)))
  (j1 ((Fa .u32 p0 16), 16))
  (j1 (p0, 0))
def Ic (_ : Nat) (p0 : Int) : Option Int :=
 Bf (fun (v1 : Int × Int) =>
  Bf (fun (v3 : Int × Int) =>
   Bf (fun (v5 : Int × Int) =>
    (S4 ((⟨⟨(List.append (List.append [0, 1, 2, 2, 3, 3, 3, 3, 4, 4, 4, 4, 4, 4, 4, 4, 5, 5, 5, 5, 5, 5, 5, 5, 5, 5, 5, 5, 5, 5, 5, 5, 6, 6, 6, 6, 6, 6, 6, 6, 6, 6, 6, 6, 6, 6, 6, 6, 6, 6, 6, 6, 6, 6, 6, 6, 6, 6, 6, 6, 6, 6, 6, 6] [7, 7, 7, 7, 7, 7, 7, 7, 7, 7, 7, 7, 7, 7, 7, 7, 7, 7, 7, 7, 7, 7, 7, 7, 7, 7, 7, 7, 7, 7, 7, 7, 7, 7, 7, 7, 7, 7, 7, 7, 7, 7, 7, 7, 7, 7, 7, 7, 7, 7, 7, 7, 7, 7, 7, 7, 7, 7, 7, 7, 7, 7, 7, 7]) (List.append [8, 8, 8, 8, 8, 8, 8, 8, 8, 8, 8, 8, 8, 8, 8, 8, 8, 8, 8, 8, 8, 8, 8, 8, 8, 8, 8, 8, 8, 8, 8, 8, 8, 8, 8, 8, 8, 8, 8, 8, 8, 8, 8, 8, 8, 8, 8, 8, 8, 8, 8, 8, 8, 8, 8, 8, 8, 8, 8, 8, 8, 8, 8, 8] [8, 8, 8, 8, 8, 8, 8, 8, 8, 8, 8, 8, 8, 8, 8, 8, 8, 8, 8, 8, 8, 8, 8, 8, 8, 8, 8, 8, 8, 8, 8, 8, 8, 8, 8, 8, 8, 8, 8, 8, 8, 8, 8, 8, 8, 8, 8, 8, 8, 8, 8, 8, 8, 8, 8, 8, 8, 8, 8, 8, 8, 8, 8, 8]))⟩⟩ : ByteArray)) ((IntKind.wrap .u8 v5.1))).bind fun v7 =>
    some ((IntKind.wrap .i64 (v5.2 + (IntKind.wrap .i64 v7)))))
   fun j5 =>
   AR ((decide (256 ≤ v3.1)))
    (j5 ((Fa .u64 v3.1 8), (IntKind.wrap .i64 (v3.2 + 8))))
    (j5 (v3.1, v3.2)))
  fun j3 =>
  AR ((decide (65536 ≤ v1.1)))
   (j3 ((Fa .u64 v1.1 16), (IntKind.wrap .i64 (v1.2 + 16))))
   (j3 (v1.1, v1.2)))
 fun j1 =>
 AR ((decide (4294967296 ≤ p0)))
  (j1 ((Fa .u64 p0 32), 32))
  (j1 (p0, 0))
def GG (N : Nat) (p0 : Int) : Option Int :=
 AR false
  ((Ih N ((IntKind.wrap .u32 p0))).bind fun v2 =>
  some v2)
  ((Ic N p0).bind fun v3 =>
  some v3)
def CC (N : Nat) (p1 : Int) (p3 : (Ag × Ag) → Option Int) (j4 : ((List Ag)) → Option ((List Ag))) : Nat → ((List Ag) × Int) → Option ((List Ag))
 | 0, _ => none
 | n4 + 1, v4 =>
  Bf (fun (v6 : Bool) =>
   AR v6
    ((Ba v4.1 ((IntKind.wrap .i64 (v4.2 - 1)))).bind fun v12 =>
    (Ba v4.1 v4.2).bind fun v13 =>
    (Ba v4.1 v4.2).bind fun _ =>
    (Ba (v4.1.set ((v4.2).toNat) v12) ((IntKind.wrap .i64 (v4.2 - 1)))).bind fun _ =>
    CC N p1 p3 j4 n4 ((v4.1.set ((v4.2).toNat) v12).set (((IntKind.wrap .i64 (v4.2 - 1))).toNat) v13, (IntKind.wrap .i64 (v4.2 - 1))))
    (j4 v4.1))
  fun j6 =>
  AR ((decide (p1 < v4.2)))
   ((Ba v4.1 v4.2).bind fun v8 =>
   (Ba v4.1 ((IntKind.wrap .i64 (v4.2 - 1)))).bind fun v9 =>
   (p3 ((v8, v9))).bind fun v10 =>
   j6 (decide (v10 < 0)))
   (j6 false)
def CH (N : Nat) (p1 : Int) (p2 : Int) (p3 : (Ag × Ag) → Option Int) (j1 : ((List Ag)) → Option ((List Ag))) : Nat → ((List Ag) × Int) → Option ((List Ag))
 | 0, _ => none
 | n1 + 1, v1 =>
  AR ((decide (v1.2 < p2)))
   (CC N p1 p3 (fun (v5 : (List Ag)) =>
    CH N p1 p2 p3 j1 n1 (v5, (IntKind.wrap .i64 (v1.2 + 1)))) N (v1.1, v1.2))
   (j1 v1.1)
def D4 (N : Nat) (p0 : List Ag) (p1 : Int) (p2 : Int) (p3 : (Ag × Ag) → Option Int) : Option ((List Ag)) :=
 CH N p1 p2 p3 (fun (v2 : (List Ag)) =>
  some v2) N (p0, (IntKind.wrap .i64 (p1 + 1)))
def Dr (N : Nat) (p2 : Int) (p3 : Int) (p4 : (Ag × Ag) → Option Int) (j1 : ((List Ag)) → Option ((List Ag))) : Nat → ((List Ag) × Int) → Option ((List Ag))
 | 0, _ => none
 | n1 + 1, v1 =>
  AR ((decide (p2 ≤ (IntKind.wrap .i64 ((IntKind.wrap .i64 (2 * v1.2)) + 1)))))
   (j1 v1.1)
   (Bf (fun (v4 : Int) =>
    (Ba v1.1 ((IntKind.wrap .i64 (p3 + v1.2)))).bind fun v11 =>
    (Ba v1.1 ((IntKind.wrap .i64 (p3 + v4)))).bind fun v12 =>
    (p4 ((v11, v12))).bind fun v13 =>
    AR ((!((decide (v13 < 0)))))
     (some v1.1)
     ((Ba v1.1 ((IntKind.wrap .i64 (p3 + v4)))).bind fun v15 =>
     (Ba v1.1 ((IntKind.wrap .i64 (p3 + v1.2)))).bind fun v16 =>
     (Ba v1.1 ((IntKind.wrap .i64 (p3 + v1.2)))).bind fun _ =>
     (Ba (v1.1.set (((IntKind.wrap .i64 (p3 + v1.2))).toNat) v15) ((IntKind.wrap .i64 (p3 + v4)))).bind fun _ =>
     Dr N p2 p3 p4 j1 n1 ((v1.1.set (((IntKind.wrap .i64 (p3 + v1.2))).toNat) v15).set (((IntKind.wrap .i64 (p3 + v4))).toNat) v16, v4)))
   fun j4 =>
   Bf (fun (v5 : Bool) =>
    AR v5
     (j4 (IntKind.wrap .i64 ((IntKind.wrap .i64 ((IntKind.wrap .i64 (2 * v1.2)) + 1)) + 1)))
     (j4 (IntKind.wrap .i64 ((IntKind.wrap .i64 (2 * v1.2)) + 1))))
   fun j5 =>
   AR ((decide ((IntKind.wrap .i64 ((IntKind.wrap .i64 ((IntKind.wrap .i64 (2 * v1.2)) + 1)) + 1)) < p2)))
    ((Ba v1.1 ((IntKind.wrap .i64 (p3 + (IntKind.wrap .i64 ((IntKind.wrap .i64 (2 * v1.2)) + 1)))))).bind fun v7 =>
    (Ba v1.1 ((IntKind.wrap .i64 ((IntKind.wrap .i64 (p3 + (IntKind.wrap .i64 ((IntKind.wrap .i64 (2 * v1.2)) + 1)))) + 1)))).bind fun v8 =>
    (p4 ((v7, v8))).bind fun v9 =>
    j5 (decide (v9 < 0)))
    (j5 false))
def DP (N : Nat) (p0 : List Ag) (p1 : Int) (p2 : Int) (p3 : Int) (p4 : (Ag × Ag) → Option Int) : Option ((List Ag)) :=
 Dr N p2 p3 p4 (fun (v2 : (List Ag)) =>
  some v2) N (p0, p1)
def Do (N : Nat) (p1 : Int) (p2 : Int) (p3 : (Ag × Ag) → Option Int) (j1 : ((List Ag)) → Option ((List Ag))) : Nat → ((List Ag) × Int) → Option ((List Ag))
 | 0, _ => none
 | n1 + 1, v1 =>
  AR ((decide (0 ≤ v1.2)))
   ((DP N v1.1 v1.2 ((IntKind.wrap .i64 (p2 - p1))) p1 p3).bind fun v4 =>
   Do N p1 p2 p3 j1 n1 (v4, (IntKind.wrap .i64 (v1.2 - 1))))
   (j1 v1.1)
def Dp (N : Nat) (p1 : Int) (p3 : (Ag × Ag) → Option Int) (j5 : ((List Ag)) → Option ((List Ag))) : Nat → ((List Ag) × Int) → Option ((List Ag))
 | 0, _ => none
 | n5 + 1, v5 =>
  AR ((decide (0 ≤ v5.2)))
   ((Ba v5.1 ((IntKind.wrap .i64 (p1 + v5.2)))).bind fun v8 =>
   (Ba v5.1 p1).bind fun v9 =>
   (Ba v5.1 p1).bind fun _ =>
   (Ba (v5.1.set ((p1).toNat) v8) ((IntKind.wrap .i64 (p1 + v5.2)))).bind fun _ =>
   (DP N ((v5.1.set ((p1).toNat) v8).set (((IntKind.wrap .i64 (p1 + v5.2))).toNat) v9) 0 v5.2 p1 p3).bind fun v12 =>
   Dp N p1 p3 j5 n5 (v12, (IntKind.wrap .i64 (v5.2 - 1))))
   (j5 v5.1)
def EQ (N : Nat) (p0 : List Ag) (p1 : Int) (p2 : Int) (p3 : (Ag × Ag) → Option Int) : Option ((List Ag)) :=
 Do N p1 p2 p3 (fun (v2 : (List Ag)) =>
  Dp N p1 p3 (fun (v6 : (List Ag)) =>
   some v6) N (v2, (IntKind.wrap .i64 ((IntKind.wrap .i64 (p2 - p1)) - 1)))) N (p0, (IntKind.wrap .i64 (Int.tdiv ((IntKind.wrap .i64 ((IntKind.wrap .i64 (p2 - p1)) - 1))) 2)))
def Fl (N : Nat) (p0 : Int) : Option Int :=
 (GG N ((IntKind.wrap .u64 p0))).bind fun v1 =>
 (E7 (0 ≤ v1)).bind fun _ =>
 some ((Dy .u64 1 v1))
def FE (_ : Nat) (p0 : Int) : Option (Int × Int) :=
 some ((Ib .u64 ((Ib .u64 ((Ib .u64 p0 ((Dy .u64 p0 13)))) ((Fa .u64 ((Ib .u64 p0 ((Dy .u64 p0 13)))) 7)))) ((Dy .u64 ((Ib .u64 ((Ib .u64 p0 ((Dy .u64 p0 13)))) ((Fa .u64 ((Ib .u64 p0 ((Dy .u64 p0 13)))) 7)))) 17))), (Ib .u64 ((Ib .u64 ((Ib .u64 p0 ((Dy .u64 p0 13)))) ((Fa .u64 ((Ib .u64 p0 ((Dy .u64 p0 13)))) 7)))) ((Dy .u64 ((Ib .u64 ((Ib .u64 p0 ((Dy .u64 p0 13)))) ((Fa .u64 ((Ib .u64 p0 ((Dy .u64 p0 13)))) 7)))) 17))))
def CD (N : Nat) (p1 : Int) (p2 : Int) (v2 : Int) (j3 : ((List Ag)) → Option ((List Ag))) : Nat → ((List Ag) × Int × Int) → Option ((List Ag))
 | 0, _ => none
 | n3 + 1, v3 =>
  AR ((decide (v3.2.2 ≤ (IntKind.wrap .i64 ((IntKind.wrap .i64 (p1 + (IntKind.wrap .i64 ((IntKind.wrap .i64 (Int.tdiv ((IntKind.wrap .i64 (p2 - p1))) 4)) * 2)))) + 1)))))
   ((FE N v3.2.1).bind fun v6 =>
   Bf (fun (v7 : Int) =>
    (Ba v3.1 ((IntKind.wrap .i64 (p1 + v7)))).bind fun v9 =>
    (Ba v3.1 v3.2.2).bind fun v10 =>
    (Ba v3.1 v3.2.2).bind fun _ =>
    (Ba (v3.1.set ((v3.2.2).toNat) v9) ((IntKind.wrap .i64 (p1 + v7)))).bind fun _ =>
    CD N p1 p2 v2 j3 n3 ((v3.1.set ((v3.2.2).toNat) v9).set (((IntKind.wrap .i64 (p1 + v7))).toNat) v10, v6.2, (IntKind.wrap .i64 (v3.2.2 + 1))))
   fun j7 =>
   AR ((decide ((IntKind.wrap .i64 (p2 - p1)) ≤ (IntKind.wrap .i64 ((F4 .u64 v6.1 ((IntKind.wrap .u64 (v2 - 1)))))))))
    (j7 (IntKind.wrap .i64 ((IntKind.wrap .i64 ((F4 .u64 v6.1 ((IntKind.wrap .u64 (v2 - 1)))))) - (IntKind.wrap .i64 (p2 - p1)))))
    (j7 (IntKind.wrap .i64 ((F4 .u64 v6.1 ((IntKind.wrap .u64 (v2 - 1))))))))
   (j3 v3.1)
def Eb (N : Nat) (p0 : List Ag) (p1 : Int) (p2 : Int) (_ : (Ag × Ag) → Option Int) : Option ((List Ag)) :=
 AR ((decide (8 ≤ (IntKind.wrap .i64 (p2 - p1)))))
  ((Fl N ((IntKind.wrap .i64 (p2 - p1)))).bind fun v2 =>
  CD N p1 p2 v2 (fun (v4 : (List Ag)) =>
   some v4) N (p0, (IntKind.wrap .u64 ((IntKind.wrap .i64 (p2 - p1)))), (IntKind.wrap .i64 ((IntKind.wrap .i64 (p1 + (IntKind.wrap .i64 ((IntKind.wrap .i64 (Int.tdiv ((IntKind.wrap .i64 (p2 - p1))) 4)) * 2)))) - 1))))
  (some p0)
def Di (_ : Nat) (p0 : List Ag) (p1 : Int) (p2 : Int) (p3 : Int) (p4 : (Ag × Ag) → Option Int) : Option (Int × Int × Int) :=
 (Ba p0 p2).bind fun v1 =>
 (Ba p0 p1).bind fun v2 =>
 (p4 ((v1, v2))).bind fun v3 =>
 AR ((decide (v3 < 0)))
  (some (p2, p1, (IntKind.wrap .i64 (p3 + 1))))
  (some (p1, p2, p3))
def D2 (N : Nat) (p0 : List Ag) (p1 : Int) (p2 : Int) (p3 : Int) (p4 : Int) (p5 : (Ag × Ag) → Option Int) : Option (Int × Int) :=
 (Di N p0 p1 p2 p4 p5).bind fun v1 =>
 (Di N p0 v1.2.1 p3 v1.2.2 p5).bind fun v2 =>
 (Di N p0 v1.1 v2.1 v2.2.2 p5).bind fun v3 =>
 some (v3.2.1, v3.2.2)
def B1 (N : Nat) (p0 : List Ag) (p1 : Int) (p2 : Int) (p3 : (Ag × Ag) → Option Int) : Option (Int × Int) :=
 (D2 N p0 ((IntKind.wrap .i64 (p1 - 1))) p1 ((IntKind.wrap .i64 (p1 + 1))) p2 p3).bind fun v1 =>
 some (v1.1, v1.2)
def Eq (N : Nat) (p0 : List Ag) (p1 : Int) (p2 : Int) (p3 : (Ag × Ag) → Option Int) : Option (Int × Int) :=
 Bf (fun (v1 : Int × Int) =>
  AR ((v1.1 == 0))
   (some (v1.2, 1))
   (AR ((v1.1 == 12))
    (some (v1.2, 2))
    (some (v1.2, 0))))
 fun j1 =>
 AR ((decide (8 ≤ (IntKind.wrap .i64 (p2 - p1)))))
  (Bf (fun (v3 : Int × Int × Int × Int) =>
   (D2 N p0 v3.2.1 v3.2.2.1 v3.2.2.2 v3.1 p3).bind fun v8 =>
   j1 (v8.2, v8.1))
  fun j3 =>
  AR ((decide (50 ≤ (IntKind.wrap .i64 (p2 - p1)))))
   ((B1 N p0 ((IntKind.wrap .i64 (p1 + (IntKind.wrap .i64 ((IntKind.wrap .i64 (Int.tdiv ((IntKind.wrap .i64 (p2 - p1))) 4)) * 1))))) 0 p3).bind fun v5 =>
   (B1 N p0 ((IntKind.wrap .i64 (p1 + (IntKind.wrap .i64 ((IntKind.wrap .i64 (Int.tdiv ((IntKind.wrap .i64 (p2 - p1))) 4)) * 2))))) v5.2 p3).bind fun v6 =>
   (B1 N p0 ((IntKind.wrap .i64 (p1 + (IntKind.wrap .i64 ((IntKind.wrap .i64 (Int.tdiv ((IntKind.wrap .i64 (p2 - p1))) 4)) * 3))))) v6.2 p3).bind fun v7 =>
   j3 (v7.2, v5.1, v6.1, v7.1))
   (j3 (0, (IntKind.wrap .i64 (p1 + (IntKind.wrap .i64 ((IntKind.wrap .i64 (Int.tdiv ((IntKind.wrap .i64 (p2 - p1))) 4)) * 1)))), (IntKind.wrap .i64 (p1 + (IntKind.wrap .i64 ((IntKind.wrap .i64 (Int.tdiv ((IntKind.wrap .i64 (p2 - p1))) 4)) * 2)))), (IntKind.wrap .i64 (p1 + (IntKind.wrap .i64 ((IntKind.wrap .i64 (Int.tdiv ((IntKind.wrap .i64 (p2 - p1))) 4)) * 3)))))))
  (j1 (0, (IntKind.wrap .i64 (p1 + (IntKind.wrap .i64 ((IntKind.wrap .i64 (Int.tdiv ((IntKind.wrap .i64 (p2 - p1))) 4)) * 2))))))
def CM (N : Nat) (j1 : ((List Ag)) → Option ((List Ag))) : Nat → ((List Ag) × Int × Int) → Option ((List Ag))
 | 0, _ => none
 | n1 + 1, v1 =>
  AR ((decide (v1.2.1 < v1.2.2)))
   ((Ba v1.1 v1.2.2).bind fun v4 =>
   (Ba v1.1 v1.2.1).bind fun v5 =>
   (Ba v1.1 v1.2.1).bind fun _ =>
   (Ba (v1.1.set ((v1.2.1).toNat) v4) v1.2.2).bind fun _ =>
   CM N j1 n1 ((v1.1.set ((v1.2.1).toNat) v4).set ((v1.2.2).toNat) v5, (IntKind.wrap .i64 (v1.2.1 + 1)), (IntKind.wrap .i64 (v1.2.2 - 1))))
   (j1 v1.1)
def Ef (N : Nat) (p0 : List Ag) (p1 : Int) (p2 : Int) (_ : (Ag × Ag) → Option Int) : Option ((List Ag)) :=
 CM N (fun (v2 : (List Ag)) =>
  some v2) N (p0, p1, (IntKind.wrap .i64 (p2 - 1)))
def BT (N : Nat) (p2 : Int) (p3 : (Ag × Ag) → Option Int) (v1 : (List Ag) × Int × Int) (j5 : Int → Option (Bool × (List Ag))) : Nat → Int → Option (Bool × (List Ag))
 | 0, _ => none
 | n5 + 1, v5 =>
  Bf (fun (v7 : Bool) =>
   AR v7
    (BT N p2 p3 v1 j5 n5 (IntKind.wrap .i64 (v5 + 1)))
    (j5 v5))
  fun j7 =>
  AR ((decide (v5 < p2)))
   ((Ba v1.1 v5).bind fun v9 =>
   (Ba v1.1 ((IntKind.wrap .i64 (v5 - 1)))).bind fun v10 =>
   (p3 ((v9, v10))).bind fun v11 =>
   j7 (!((decide (v11 < 0)))))
   (j7 false)
def BM (N : Nat) (p3 : (Ag × Ag) → Option Int) (j21 : ((List Ag)) → Option (Bool × (List Ag))) : Nat → ((List Ag) × Int) → Option (Bool × (List Ag))
 | 0, _ => none
 | n21 + 1, v21 =>
  AR ((decide (1 ≤ v21.2)))
   ((Ba v21.1 v21.2).bind fun v24 =>
   (Ba v21.1 ((IntKind.wrap .i64 (v21.2 - 1)))).bind fun v25 =>
   (p3 ((v24, v25))).bind fun v26 =>
   AR ((!((decide (v26 < 0)))))
    (j21 v21.1)
    ((Ba v21.1 ((IntKind.wrap .i64 (v21.2 - 1)))).bind fun v28 =>
    (Ba v21.1 v21.2).bind fun v29 =>
    (Ba v21.1 v21.2).bind fun _ =>
    (Ba (v21.1.set ((v21.2).toNat) v28) ((IntKind.wrap .i64 (v21.2 - 1)))).bind fun _ =>
    BM N p3 j21 n21 ((v21.1.set ((v21.2).toNat) v28).set (((IntKind.wrap .i64 (v21.2 - 1))).toNat) v29, (IntKind.wrap .i64 (v21.2 - 1)))))
   (j21 v21.1)
def BL (N : Nat) (p2 : Int) (p3 : (Ag × Ag) → Option Int) (j33 : ((List Ag)) → Option (Bool × (List Ag))) : Nat → ((List Ag) × Int) → Option (Bool × (List Ag))
 | 0, _ => none
 | n33 + 1, v33 =>
  AR ((decide (v33.2 < p2)))
   ((Ba v33.1 v33.2).bind fun v36 =>
   (Ba v33.1 ((IntKind.wrap .i64 (v33.2 - 1)))).bind fun v37 =>
   (p3 ((v36, v37))).bind fun v38 =>
   AR ((!((decide (v38 < 0)))))
    (j33 v33.1)
    ((Ba v33.1 ((IntKind.wrap .i64 (v33.2 - 1)))).bind fun v40 =>
    (Ba v33.1 v33.2).bind fun v41 =>
    (Ba v33.1 v33.2).bind fun _ =>
    (Ba (v33.1.set ((v33.2).toNat) v40) ((IntKind.wrap .i64 (v33.2 - 1)))).bind fun _ =>
    BL N p2 p3 j33 n33 ((v33.1.set ((v33.2).toNat) v40).set (((IntKind.wrap .i64 (v33.2 - 1))).toNat) v41, (IntKind.wrap .i64 (v33.2 + 1)))))
   (j33 v33.1)
def BR (N : Nat) (p1 : Int) (p2 : Int) (p3 : (Ag × Ag) → Option Int) (j1 : ((List Ag)) → Option (Bool × (List Ag))) : Nat → ((List Ag) × Int × Int) → Option (Bool × (List Ag))
 | 0, _ => none
 | n1 + 1, v1 =>
  AR ((decide (v1.2.2 < 5)))
   (Bf (fun (v4 : (List Ag) × Int) =>
    BR N p1 p2 p3 j1 n1 (v4.1, v4.2, (IntKind.wrap .i64 (v1.2.2 + 1))))
   fun j4 =>
   BT N p2 p3 v1 (fun (v6 : Int) =>
    AR ((v6 == p2))
     (some (true, v1.1))
     (AR ((decide ((IntKind.wrap .i64 (p2 - p1)) < 50)))
      (some (false, v1.1))
      ((Ba v1.1 ((IntKind.wrap .i64 (v6 - 1)))).bind fun v15 =>
      (Ba v1.1 v6).bind fun v16 =>
      (Ba v1.1 v6).bind fun _ =>
      (Ba (v1.1.set ((v6).toNat) v15) ((IntKind.wrap .i64 (v6 - 1)))).bind fun _ =>
      Bf (fun (v19 : (List Ag)) =>
       AR ((decide (2 ≤ (IntKind.wrap .i64 (p2 - v6)))))
        (BL N p2 p3 (fun (v34 : (List Ag)) =>
         j4 (v34, v6)) N (v19, (IntKind.wrap .i64 (v6 + 1))))
        (j4 (v19, v6)))
      fun j19 =>
      AR ((decide (2 ≤ (IntKind.wrap .i64 (v6 - p1)))))
       (BM N p3 (fun (v22 : (List Ag)) =>
        j19 v22) N ((v1.1.set ((v6).toNat) v15).set (((IntKind.wrap .i64 (v6 - 1))).toNat) v16, (IntKind.wrap .i64 (v6 - 1))))
       (j19 ((v1.1.set ((v6).toNat) v15).set (((IntKind.wrap .i64 (v6 - 1))).toNat) v16))))) N v1.2.1)
   (j1 v1.1)
def Dj (N : Nat) (p0 : List Ag) (p1 : Int) (p2 : Int) (p3 : (Ag × Ag) → Option Int) : Option (Bool × (List Ag)) :=
 BR N p1 p2 p3 (fun (v2 : (List Ag)) =>
  some (false, v2)) N (p0, (IntKind.wrap .i64 (p1 + 1)), 0)
def Cr (N : Nat) (p1 : Int) (p4 : (Ag × Ag) → Option Int) (v5 : (List Ag) × Int × Int) (j7 : Int → Option (Int × (List Ag))) : Nat → Int → Option (Int × (List Ag))
 | 0, _ => none
 | n7 + 1, v7 =>
  Bf (fun (v9 : Bool) =>
   AR v9
    (Cr N p1 p4 v5 j7 n7 (IntKind.wrap .i64 (v7 + 1)))
    (j7 v7))
  fun j9 =>
  AR ((decide (v7 ≤ v5.2.2)))
   ((Ba v5.1 p1).bind fun v11 =>
   (Ba v5.1 v7).bind fun v12 =>
   (p4 ((v11, v12))).bind fun v13 =>
   j9 (!((decide (v13 < 0)))))
   (j9 false)
def Ch (N : Nat) (p1 : Int) (p4 : (Ag × Ag) → Option Int) (v5 : (List Ag) × Int × Int) (v8 : Int) (j15 : Int → Option (Int × (List Ag))) : Nat → Int → Option (Int × (List Ag))
 | 0, _ => none
 | n15 + 1, v15 =>
  Bf (fun (v17 : Bool) =>
   AR v17
    (Ch N p1 p4 v5 v8 j15 n15 (IntKind.wrap .i64 (v15 - 1)))
    (j15 v15))
  fun j17 =>
  AR ((decide (v8 ≤ v15)))
   ((Ba v5.1 p1).bind fun v19 =>
   (Ba v5.1 v15).bind fun v20 =>
   (p4 ((v19, v20))).bind fun v21 =>
   j17 (decide (v21 < 0)))
   (j17 false)
def Cn (N : Nat) (p1 : Int) (p4 : (Ag × Ag) → Option Int) (j5 : ((List Ag) × Int) → Option (Int × (List Ag))) : Nat → ((List Ag) × Int × Int) → Option (Int × (List Ag))
 | 0, _ => none
 | n5 + 1, v5 =>
  Cr N p1 p4 v5 (fun (v8 : Int) =>
   Ch N p1 p4 v5 v8 (fun (v16 : Int) =>
    AR ((decide (v16 < v8)))
     (j5 (v5.1, v8))
     ((Ba v5.1 v16).bind fun v24 =>
     (Ba v5.1 v8).bind fun v25 =>
     (Ba v5.1 v8).bind fun _ =>
     (Ba (v5.1.set ((v8).toNat) v24) v16).bind fun _ =>
     Cn N p1 p4 j5 n5 ((v5.1.set ((v8).toNat) v24).set ((v16).toNat) v25, (IntKind.wrap .i64 (v8 + 1)), (IntKind.wrap .i64 (v16 - 1))))) N v5.2.2) N v5.2.1
def DZ (N : Nat) (p0 : List Ag) (p1 : Int) (p2 : Int) (p3 : Int) (p4 : (Ag × Ag) → Option Int) : Option (Int × (List Ag)) :=
 (Ba p0 p3).bind fun v1 =>
 (Ba p0 p1).bind fun v2 =>
 (Ba p0 p1).bind fun _ =>
 (Ba (p0.set ((p1).toNat) v1) p3).bind fun _ =>
 Cn N p1 p4 (fun (v6 : (List Ag) × Int) =>
  some (v6.2, v6.1)) N ((p0.set ((p1).toNat) v1).set ((p3).toNat) v2, (IntKind.wrap .i64 (p1 + 1)), (IntKind.wrap .i64 (p2 - 1)))
def Dh (N : Nat) (p0 : List Ag) (p1 : Int) (p2 : Int) (p3 : Int) (p4 : (Ag × Ag) → Option Int) (v1 : Ag) (v2 : Ag) (j5 : Int → Option (Int × Bool × (List Ag))) : Nat → Int → Option (Int × Bool × (List Ag))
 | 0, _ => none
 | n5 + 1, v5 =>
  Bf (fun (v7 : Bool) =>
   AR v7
    (Dh N p0 p1 p2 p3 p4 v1 v2 j5 n5 (IntKind.wrap .i64 (v5 + 1)))
    (j5 v5))
  fun j7 =>
  AR ((decide (v5 ≤ (IntKind.wrap .i64 (p2 - 1)))))
   ((Ba ((p0.set ((p1).toNat) v1).set ((p3).toNat) v2) v5).bind fun v9 =>
   (Ba ((p0.set ((p1).toNat) v1).set ((p3).toNat) v2) p1).bind fun v10 =>
   (p4 ((v9, v10))).bind fun v11 =>
   j7 (decide (v11 < 0)))
   (j7 false)
def CZ (N : Nat) (p0 : List Ag) (p1 : Int) (p3 : Int) (p4 : (Ag × Ag) → Option Int) (v1 : Ag) (v2 : Ag) (v6 : Int) (j13 : Int → Option (Int × Bool × (List Ag))) : Nat → Int → Option (Int × Bool × (List Ag))
 | 0, _ => none
 | n13 + 1, v13 =>
  Bf (fun (v15 : Bool) =>
   AR v15
    (CZ N p0 p1 p3 p4 v1 v2 v6 j13 n13 (IntKind.wrap .i64 (v13 - 1)))
    (j13 v13))
  fun j15 =>
  AR ((decide (v6 ≤ v13)))
   ((Ba ((p0.set ((p1).toNat) v1).set ((p3).toNat) v2) v13).bind fun v17 =>
   (Ba ((p0.set ((p1).toNat) v1).set ((p3).toNat) v2) p1).bind fun v18 =>
   (p4 ((v17, v18))).bind fun v19 =>
   j15 (!((decide (v19 < 0)))))
   (j15 false)
def C8 (N : Nat) (p1 : Int) (p4 : (Ag × Ag) → Option Int) (v30 : (List Ag) × Int × Int) (j32 : Int → Option (Int × Bool × (List Ag))) : Nat → Int → Option (Int × Bool × (List Ag))
 | 0, _ => none
 | n32 + 1, v32 =>
  Bf (fun (v34 : Bool) =>
   AR v34
    (C8 N p1 p4 v30 j32 n32 (IntKind.wrap .i64 (v32 + 1)))
    (j32 v32))
  fun j34 =>
  AR ((decide (v32 ≤ v30.2.2)))
   ((Ba v30.1 v32).bind fun v36 =>
   (Ba v30.1 p1).bind fun v37 =>
   (p4 ((v36, v37))).bind fun v38 =>
   j34 (decide (v38 < 0)))
   (j34 false)
def Da (N : Nat) (p1 : Int) (p4 : (Ag × Ag) → Option Int) (v30 : (List Ag) × Int × Int) (v33 : Int) (j40 : Int → Option (Int × Bool × (List Ag))) : Nat → Int → Option (Int × Bool × (List Ag))
 | 0, _ => none
 | n40 + 1, v40 =>
  Bf (fun (v42 : Bool) =>
   AR v42
    (Da N p1 p4 v30 v33 j40 n40 (IntKind.wrap .i64 (v40 - 1)))
    (j40 v40))
  fun j42 =>
  AR ((decide (v33 ≤ v40)))
   ((Ba v30.1 v40).bind fun v44 =>
   (Ba v30.1 p1).bind fun v45 =>
   (p4 ((v44, v45))).bind fun v46 =>
   j42 (!((decide (v46 < 0)))))
   (j42 false)
def C4 (N : Nat) (p1 : Int) (p4 : (Ag × Ag) → Option Int) (j30 : ((List Ag) × Int) → Option (Int × Bool × (List Ag))) : Nat → ((List Ag) × Int × Int) → Option (Int × Bool × (List Ag))
 | 0, _ => none
 | n30 + 1, v30 =>
  C8 N p1 p4 v30 (fun (v33 : Int) =>
   Da N p1 p4 v30 v33 (fun (v41 : Int) =>
    AR ((decide (v41 < v33)))
     (j30 (v30.1, v41))
     ((Ba v30.1 v41).bind fun v49 =>
     (Ba v30.1 v33).bind fun v50 =>
     (Ba v30.1 v33).bind fun _ =>
     (Ba (v30.1.set ((v33).toNat) v49) v41).bind fun _ =>
     C4 N p1 p4 j30 n30 ((v30.1.set ((v33).toNat) v49).set ((v41).toNat) v50, (IntKind.wrap .i64 (v33 + 1)), (IntKind.wrap .i64 (v41 - 1))))) N v30.2.2) N v30.2.1
def EJ (N : Nat) (p0 : List Ag) (p1 : Int) (p2 : Int) (p3 : Int) (p4 : (Ag × Ag) → Option Int) : Option (Int × Bool × (List Ag)) :=
 (Ba p0 p3).bind fun v1 =>
 (Ba p0 p1).bind fun v2 =>
 (Ba p0 p1).bind fun _ =>
 (Ba (p0.set ((p1).toNat) v1) p3).bind fun _ =>
 Dh N p0 p1 p2 p3 p4 v1 v2 (fun (v6 : Int) =>
  CZ N p0 p1 p3 p4 v1 v2 v6 (fun (v14 : Int) =>
   AR ((decide (v14 < v6)))
    ((Ba ((p0.set ((p1).toNat) v1).set ((p3).toNat) v2) p1).bind fun v22 =>
    (Ba ((p0.set ((p1).toNat) v1).set ((p3).toNat) v2) v14).bind fun v23 =>
    (Ba ((p0.set ((p1).toNat) v1).set ((p3).toNat) v2) v14).bind fun _ =>
    (Ba (((p0.set ((p1).toNat) v1).set ((p3).toNat) v2).set ((v14).toNat) v22) p1).bind fun _ =>
    some (v14, true, (((p0.set ((p1).toNat) v1).set ((p3).toNat) v2).set ((v14).toNat) v22).set ((p1).toNat) v23))
    ((Ba ((p0.set ((p1).toNat) v1).set ((p3).toNat) v2) v14).bind fun v26 =>
    (Ba ((p0.set ((p1).toNat) v1).set ((p3).toNat) v2) v6).bind fun v27 =>
    (Ba ((p0.set ((p1).toNat) v1).set ((p3).toNat) v2) v6).bind fun _ =>
    (Ba (((p0.set ((p1).toNat) v1).set ((p3).toNat) v2).set ((v6).toNat) v26) v14).bind fun _ =>
    C4 N p1 p4 (fun (v31 : (List Ag) × Int) =>
     (Ba v31.1 p1).bind fun v53 =>
     (Ba v31.1 v31.2).bind fun v54 =>
     (Ba v31.1 v31.2).bind fun _ =>
     (Ba (v31.1.set ((v31.2).toNat) v53) p1).bind fun _ =>
     some (v31.2, false, (v31.1.set ((v31.2).toNat) v53).set ((p1).toNat) v54)) N ((((p0.set ((p1).toNat) v1).set ((p3).toNat) v2).set ((v6).toNat) v26).set ((v14).toNat) v27, (IntKind.wrap .i64 (v6 + 1)), (IntKind.wrap .i64 (v14 - 1))))) N (IntKind.wrap .i64 (p2 - 1))) N (IntKind.wrap .i64 (p1 + 1))
def BQ (N : Nat) (p4 : (Ag × Ag) → Option Int) (rc : (List Ag) → Int → Int → Int → ((Ag × Ag) → Option Int) → Option ((List Ag))) (j1 : Unit → Option ((List Ag))) : Nat → ((List Ag) × Int × Int × Int × Bool × Bool) → Option ((List Ag))
 | 0, _ => none
 | n1 + 1, v1 =>
  AR ((decide ((IntKind.wrap .i64 (v1.2.2.1 - v1.2.1)) ≤ 12)))
   ((D4 N v1.1 v1.2.1 v1.2.2.1 p4).bind fun v4 =>
   some v4)
   (AR ((v1.2.2.2.1 == 0))
    ((EQ N v1.1 v1.2.1 v1.2.2.1 p4).bind fun v6 =>
    some v6)
    (Bf (fun (v7 : (List Ag) × Int) =>
     (Eq N v7.1 v1.2.1 v1.2.2.1 p4).bind fun v10 =>
     Bf (fun (v11 : (List Ag) × Int × Int) =>
      Bf (fun (v14 : (List Ag)) =>
       Bf (fun (v21 : Bool) =>
        AR v21
         ((DZ N v14 v1.2.1 v1.2.2.1 v11.2.1 p4).bind fun v27 =>
         BQ N p4 rc j1 n1 (v27.2, v27.1, v1.2.2.1, v7.2, v1.2.2.2.2.1, v1.2.2.2.2.2))
         ((EJ N v14 v1.2.1 v1.2.2.1 v11.2.1 p4).bind fun v28 =>
         AR ((decide ((IntKind.wrap .i64 (v28.1 - v1.2.1)) < (IntKind.wrap .i64 (v1.2.2.1 - v28.1)))))
          ((rc v28.2.2 v1.2.1 v28.1 v7.2 p4).bind fun v30 =>
          BQ N p4 rc j1 n1 (v30, (IntKind.wrap .i64 (v28.1 + 1)), v1.2.2.1, v7.2, (decide ((IntKind.wrap .i64 (Int.tdiv ((IntKind.wrap .i64 (v1.2.2.1 - v1.2.1))) 8)) ≤ (IntKind.wrap .i64 (v28.1 - v1.2.1)))), v28.2.1))
          ((rc v28.2.2 ((IntKind.wrap .i64 (v28.1 + 1))) v1.2.2.1 v7.2 p4).bind fun v31 =>
          BQ N p4 rc j1 n1 (v31, v1.2.1, v28.1, v7.2, (decide ((IntKind.wrap .i64 (Int.tdiv ((IntKind.wrap .i64 (v1.2.2.1 - v1.2.1))) 8)) ≤ (IntKind.wrap .i64 (v1.2.2.1 - v28.1)))), v28.2.1))))
       fun j21 =>
       AR ((decide (0 < v1.2.1)))
        ((Ba v14 ((IntKind.wrap .i64 (v1.2.1 - 1)))).bind fun v23 =>
        (Ba v14 v11.2.1).bind fun v24 =>
        (p4 ((v23, v24))).bind fun v25 =>
        j21 (!((decide (v25 < 0)))))
        (j21 false))
      fun j14 =>
      Bf (fun (v15 : Bool) =>
       AR v15
        ((Dj N v11.1 v1.2.1 v1.2.2.1 p4).bind fun v19 =>
        AR v19.1
         (some v19.2)
         (j14 v19.2))
        (j14 v11.1))
      fun j15 =>
      AR v1.2.2.2.2.1
       (AR v1.2.2.2.2.2
        (j15 (v11.2.2 == 1))
        (j15 false))
       (j15 false))
     fun j11 =>
     AR ((v10.2 == 2))
      ((Ef N v7.1 v1.2.1 v1.2.2.1 p4).bind fun v13 =>
      j11 (v13, (IntKind.wrap .i64 ((IntKind.wrap .i64 (v1.2.2.1 - 1)) - (IntKind.wrap .i64 (v10.1 - v1.2.1)))), 1))
      (j11 (v7.1, v10.1, v10.2)))
    fun j7 =>
    AR ((!v1.2.2.2.2.1))
     ((Eb N v1.1 v1.2.1 v1.2.2.1 p4).bind fun v9 =>
     j7 (v9, (IntKind.wrap .i64 (v1.2.2.2.1 - 1))))
     (j7 (v1.1, v1.2.2.2.1))))
def EK (N : Nat) (rc : (List Ag) → Int → Int → Int → ((Ag × Ag) → Option Int) → Option ((List Ag))) (p0 : List Ag) (p1 : Int) (p2 : Int) (p3 : Int) (p4 : (Ag × Ag) → Option Int) : Option ((List Ag)) :=
 BQ N p4 rc (fun (_ : Unit) =>
  none) N (p0, p1, p2, p3, true, true)
def DK (N : Nat) : Nat → (List Ag) → Int → Int → Int → ((Ag × Ag) → Option Int) → Option ((List Ag))
 | 0, _, _, _, _, _ => none
 | k + 1, p0, p1, p2, p3, p4 => EK N (DK N k) p0 p1 p2 p3 p4
def Gk (N : Nat) (p0 : List Ag) (p1 : Int) (p2 : Int) (p3 : Int) (p4 : (Ag × Ag) → Option Int) : Option ((List Ag)) := DK N N p0 p1 p2 p3 p4
def EG (N : Nat) (p0 : List Ag) (p1 : (Ag × Ag) → Option Int) : Option ((List Ag)) :=
 (GG N ((IntKind.wrap .u64 ((p0.length : Int))))).bind fun v1 =>
 (Gk N p0 0 ((p0.length : Int)) v1 p1).bind fun v2 =>
 some v2
def HG (_ : Nat) (p0 : Int) : Option Bool :=
 some ((p0 != p0))
def Fh (N : Nat) (p0 : Int) (p1 : Int) : Option Int :=
 (HG N p0).bind fun v1 =>
 (HG N p1).bind fun v2 =>
 AR v1
  (AR v2
   (some 0)
   (some ((-1))))
  (AR v2
   (some 1)
   (AR ((decide (p0 < p1)))
    (some ((-1)))
    (AR ((decide (p1 < p0)))
     (some 1)
     (some 0))))
def EE (N : Nat) (p0 : List Int) (p1 : List Int) (j1 : Unit → Option Int) : Nat → Int → Option Int
 | 0, _ => none
 | n1 + 1, v1 =>
  AR ((decide (v1 < (p0.length : Int))))
   ((Ba p0 v1).bind fun v4 =>
   AR ((decide ((p1.length : Int) ≤ v1)))
    (some 1)
    ((Ba p1 v1).bind fun v6 =>
    (Fh N v4 v6).bind fun v7 =>
    AR ((v7 != 0))
     (some v7)
     (EE N p0 p1 j1 n1 (IntKind.wrap .i64 (v1 + 1)))))
   (j1 ())
def E6 (N : Nat) (p0 : List Int) (p1 : List Int) : Option Int :=
 EE N p0 p1 (fun (_ : Unit) =>
  AR ((decide ((p0.length : Int) < (p1.length : Int))))
   (some ((-1)))
   (some 0)) N 0
def Gf (_ : Nat) (p0 : Int) : Option Bool :=
 some ((p0 != p0))
def GM (N : Nat) (p0 : Int) (p1 : Int) : Option Int :=
 (Gf N p0).bind fun v1 =>
 (Gf N p1).bind fun v2 =>
 AR v1
  (AR v2
   (some 0)
   (some ((-1))))
  (AR v2
   (some 1)
   (AR ((decide (p0 < p1)))
    (some ((-1)))
    (AR ((decide (p1 < p0)))
     (some 1)
     (some 0))))
def Dn (N : Nat) (p0 : List Int) (p1 : List Int) (j1 : Unit → Option Int) : Nat → Int → Option Int
 | 0, _ => none
 | n1 + 1, v1 =>
  AR ((decide (v1 < (p0.length : Int))))
   ((Ba p0 v1).bind fun v4 =>
   AR ((decide ((p1.length : Int) ≤ v1)))
    (some 1)
    ((Ba p1 v1).bind fun v6 =>
    (GM N v4 v6).bind fun v7 =>
    AR ((v7 != 0))
     (some v7)
     (Dn N p0 p1 j1 n1 (IntKind.wrap .i64 (v1 + 1)))))
   (j1 ())
def ER (N : Nat) (p0 : List Int) (p1 : List Int) : Option Int :=
 Dn N p0 p1 (fun (_ : Unit) =>
  AR ((decide ((p0.length : Int) < (p1.length : Int))))
   (some ((-1)))
   (some 0)) N 0
def HI (N : Nat) (p0 : List Int) (j1 : Unit → Option Int) : Nat → Int → Option Int
 | 0, _ => none
 | n1 + 1, v1 =>
  AR ((decide (v1 < (p0.length : Int))))
   ((Ba p0 v1).bind fun v4 =>
   AR ((v4 != 0))
    (some v4)
    (HI N p0 j1 n1 (IntKind.wrap .i64 (v1 + 1))))
   (j1 ())
def I3 (N : Nat) (p0 : List Int) : Option Int :=
 HI N p0 (fun (_ : Unit) =>
  some 0) N 0
def FV (N : Nat) (p0 : Ag) (p1 : Ag) : Option Int :=
 (E6 N p0.fBase p1.fBase).bind fun v1 =>
 (E6 N p0.fNext p1.fNext).bind fun v2 =>
 (ER N p0.fHeld p1.fHeld).bind fun v3 =>
 (I3 N (([v1, v2, v3] : List Int))).bind fun v4 =>
 some v4
def Gz (N : Nat) (v10 : (List Av) × (List Ag)) (j11 : ((List Ag) × (List (ByteArray × Bool))) → Option ((List Ag) × Int)) : Nat → ((List Ag) × (List (ByteArray × Bool)) × Int) → Option ((List Ag) × Int)
 | 0, _ => none
 | n11 + 1, v11 =>
  AR ((decide (v11.2.2 < (v10.2.length : Int))))
   (Bf (fun (v14 : (List Ag) × (List (ByteArray × Bool))) =>
    Gz N v10 j11 n11 (v14.1, v14.2, (IntKind.wrap .i64 (v11.2.2 + 1))))
   fun j14 =>
   (Ba v10.2 v11.2.2).bind fun v15 =>
   (IC N v15).bind fun v16 =>
   AR ((!(((MM v16 v11.2.1).getD false))))
    ((IC N v15).bind fun v18 =>
    (E7 (v11.1.length + (([v15] : List Ag)).length ≤ E8)).bind fun _ =>
    j14 (v11.1 ++ (([v15] : List Ag)), Nh v18 true v11.2.1))
    (j14 (v11.1, v11.2.1)))
   (j11 (v11.1, v11.2.1))
def GQ (N : Nat) (p0 : Ak) (j6 : ((List Ag)) → Option ((List Ag) × Int)) : Nat → ((List Ag) × (List (ByteArray × Bool)) × Int) → Option ((List Ag) × Int)
 | 0, _ => none
 | n6 + 1, v6 =>
  AR ((decide (v6.2.2 < (v6.1.length : Int))))
   ((Ba v6.1 v6.2.2).bind fun v9 =>
   (Kt N p0 v9).bind fun v10 =>
   Gz N v10 (fun (v12 : (List Ag) × (List (ByteArray × Bool))) =>
    AR ((decide (20000 < (v12.1.length : Int))))
     (some (([] : List Ag), 3))
     (GQ N p0 j6 n6 (v12.1, v12.2, (IntKind.wrap .i64 (v6.2.2 + 1))))) N (v6.1, v6.2.1, 0))
   (j6 v6.1)
def Jk (N : Nat) (p0 : Ak) : Option ((List Ag) × Int) :=
 (JW N p0).bind fun v1 =>
 Bf (fun (v2 : Bool) =>
  AR v2
   (some (([] : List Ag), v1.2.2))
   ((IC N v1.1).bind fun v5 =>
   GQ N p0 (fun (v7 : (List Ag)) =>
    (EG N v7 ((fun (x : Ag × Ag) => FV N x.1 x.2))).bind fun v21 =>
    some (v21, 0)) N (([v1.1] : List Ag), Nh v5 true (([] : List (ByteArray × Bool))), 0)))
 fun j2 =>
 AR ((v1.2.2 != 0))
  (j2 true)
  (j2 (!v1.2.1))
def EW (N : Nat) (p0 : List Int) (p1 : List Int) (j2 : Unit → Option Bool) : Nat → Int → Option Bool
 | 0, _ => none
 | n2 + 1, v2 =>
  AR ((decide (v2 < (p0.length : Int))))
   ((Ba p0 v2).bind fun v5 =>
   (Ba p1 v2).bind fun v6 =>
   AR ((v5 != v6))
    (some false)
    (EW N p0 p1 j2 n2 (IntKind.wrap .i64 (v2 + 1))))
   (j2 ())
def GF (N : Nat) (p0 : List Int) (p1 : List Int) : Option Bool :=
 AR (((p0.length : Int) != (p1.length : Int)))
  (some false)
  (EW N p0 p1 (fun (_ : Unit) =>
   some true) N 0)
def Ei (N : Nat) (p0 : List Int) (p1 : Int → Option Bool) (j1 : Unit → Option Int) : Nat → Int → Option Int
 | 0, _ => none
 | n1 + 1, v1 =>
  AR ((decide (v1 < (p0.length : Int))))
   ((Ba p0 v1).bind fun v4 =>
   (p1 v4).bind fun v5 =>
   AR v5
    (some v1)
    (Ei N p0 p1 j1 n1 (IntKind.wrap .i64 (v1 + 1))))
   (j1 ())
def FO (N : Nat) (p0 : List Int) (p1 : Int → Option Bool) : Option Int :=
 Ei N p0 p1 (fun (_ : Unit) =>
  some ((-1))) N 0
def Fi (N : Nat) (p0 : List Int) (p1 : Int → Option Bool) : Option Bool :=
 (FO N p0 p1).bind fun v1 =>
 some ((decide (0 ≤ v1)))
def I4 (_ : Nat) (p0 : Int) : Option Bool :=
 some ((decide (0 ≤ p0)))
def Kf (N : Nat) (p0 : Ak) (p1 : Ag) : Option Bool :=
 Bf (fun (v1 : Bool) =>
  some v1)
 fun j1 =>
 (FQ N p0 p1).bind fun v2 =>
 AR ((v2 == 0))
  ((GF N p1.fBase p0.fTarget).bind fun v4 =>
  AR v4
   ((Fi N p1.fNext ((fun (x : Int) => I4 N x))).bind fun v6 =>
   j1 (!v6))
   (j1 false))
  (j1 false)
def Ge (N : Nat) (p0 : Ag) (p1 : List Int) (p2 : List Int) (p3 : List Int) (p4 : List AO) : Option Bool :=
 (Kf N ((Ak.mk p1 p2 p3 p4)) p0).bind fun v1 =>
 some v1
def C0 (N : Nat) (p0 : List Ag) (p1 : Ag → Option Bool) (j1 : Unit → Option Int) : Nat → Int → Option Int
 | 0, _ => none
 | n1 + 1, v1 =>
  AR ((decide (v1 < (p0.length : Int))))
   ((Ba p0 v1).bind fun v4 =>
   (p1 v4).bind fun v5 =>
   AR v5
    (some v1)
    (C0 N p0 p1 j1 n1 (IntKind.wrap .i64 (v1 + 1))))
   (j1 ())
def EC (N : Nat) (p0 : List Ag) (p1 : Ag → Option Bool) : Option Int :=
 C0 N p0 p1 (fun (_ : Unit) =>
  some ((-1))) N 0
def Ea (N : Nat) (p0 : List Ag) (p1 : Ag → Option Bool) : Option Bool :=
 (EC N p0 p1).bind fun v1 =>
 some ((decide (0 ≤ v1)))
def Jj (N : Nat) (p0 : Ak) : Option ((List Ag) × Int) :=
 (Jk N p0).bind fun v1 =>
 AR ((v1.2 != 0))
  (some (([] : List Ag), v1.2))
  ((Ea N v1.1 ((fun (x : Ag) => Ge N x p0.fVersions p0.fNow p0.fTarget p0.fTables))).bind fun v3 =>
  AR v3
   (some (([] : List Ag), 15))
   (some (v1.1, 0)))
def DG (N : Nat) (p0 : Ak) (p1 : Ag) (v1 : (List Av) × Int) (j3 : ((List A7)) → Option ((List A7) × Int)) : Nat → ((List A7) × Int) → Option ((List A7) × Int)
 | 0, _ => none
 | n3 + 1, v3 =>
  AR ((decide (v3.2 < (v1.1.length : Int))))
   (Bf (fun (v6 : (List A7)) =>
    DG N p0 p1 v1 j3 n3 (v6, (IntKind.wrap .i64 (v3.2 + 1))))
   fun j6 =>
   (Ba v1.1 v3.2).bind fun v7 =>
   (Gt N p0 p1 v7).bind fun v8 =>
   (HJ N p0 v8.1).bind fun v9 =>
   AR ((v9.2.2 == 0))
    ((E7 (v3.1.length + (([(A7.mk v7 v9.1 v9.2.1)] : List A7)).length ≤ E8)).bind fun _ =>
    j6 (v3.1 ++ (([(A7.mk v7 v9.1 v9.2.1)] : List A7))))
    (j6 v3.1))
   (j3 v3.1)
def FA (N : Nat) (p0 : Ak) (p1 : Ag) : Option ((List A7) × Int) :=
 (ED N p0 p1).bind fun v1 =>
 AR ((v1.2 != 0))
  (some (([] : List A7), v1.2))
  (DG N p0 p1 v1 (fun (v4 : (List A7)) =>
   some (v4, 0)) N (([] : List A7), 0))
def Gy (N : Nat) (p0 : Ak) (p1 : List Ag) (j3 : ((List A7)) → Option ((List A7) × Int)) : Nat → ((List A7) × Int) → Option ((List A7) × Int)
 | 0, _ => none
 | n3 + 1, v3 =>
  AR ((decide (v3.2 < (p1.length : Int))))
   ((Ba p1 v3.2).bind fun v6 =>
   (FA N p0 v6).bind fun v7 =>
   AR ((v7.2 != 0))
    (some (([] : List A7), v7.2))
    ((E7 (v3.1.length + v7.1.length ≤ E8)).bind fun _ =>
    Gy N p0 p1 j3 n3 (v3.1 ++ v7.1, (IntKind.wrap .i64 (v3.2 + 1)))))
   (j3 v3.1)
def HC (N : Nat) (p0 : Ak) (p1 : List Ag) : Option ((List A7) × Int) :=
 (Dl N p0).bind fun v1 =>
 AR ((v1 != 0))
  (some (([] : List A7), v1))
  (Gy N p0 p1 (fun (v4 : (List A7)) =>
   some (v4, 0)) N (([] : List A7), 0))
def B8 (N : Nat) (p1 : Int) (p3 : (Af × Af) → Option Int) (j4 : ((List Af)) → Option ((List Af))) : Nat → ((List Af) × Int) → Option ((List Af))
 | 0, _ => none
 | n4 + 1, v4 =>
  Bf (fun (v6 : Bool) =>
   AR v6
    ((Ba v4.1 ((IntKind.wrap .i64 (v4.2 - 1)))).bind fun v12 =>
    (Ba v4.1 v4.2).bind fun v13 =>
    (Ba v4.1 v4.2).bind fun _ =>
    (Ba (v4.1.set ((v4.2).toNat) v12) ((IntKind.wrap .i64 (v4.2 - 1)))).bind fun _ =>
    B8 N p1 p3 j4 n4 ((v4.1.set ((v4.2).toNat) v12).set (((IntKind.wrap .i64 (v4.2 - 1))).toNat) v13, (IntKind.wrap .i64 (v4.2 - 1))))
    (j4 v4.1))
  fun j6 =>
  AR ((decide (p1 < v4.2)))
   ((Ba v4.1 v4.2).bind fun v8 =>
   (Ba v4.1 ((IntKind.wrap .i64 (v4.2 - 1)))).bind fun v9 =>
   (p3 ((v8, v9))).bind fun v10 =>
   j6 (decide (v10 < 0)))
   (j6 false)
def B6 (N : Nat) (p1 : Int) (p2 : Int) (p3 : (Af × Af) → Option Int) (j1 : ((List Af)) → Option ((List Af))) : Nat → ((List Af) × Int) → Option ((List Af))
 | 0, _ => none
 | n1 + 1, v1 =>
  AR ((decide (v1.2 < p2)))
   (B8 N p1 p3 (fun (v5 : (List Af)) =>
    B6 N p1 p2 p3 j1 n1 (v5, (IntKind.wrap .i64 (v1.2 + 1)))) N (v1.1, v1.2))
   (j1 v1.1)
def DC (N : Nat) (p0 : List Af) (p1 : Int) (p2 : Int) (p3 : (Af × Af) → Option Int) : Option ((List Af)) :=
 B6 N p1 p2 p3 (fun (v2 : (List Af)) =>
  some v2) N (p0, (IntKind.wrap .i64 (p1 + 1)))
def CE (N : Nat) (p2 : Int) (p3 : Int) (p4 : (Af × Af) → Option Int) (j1 : ((List Af)) → Option ((List Af))) : Nat → ((List Af) × Int) → Option ((List Af))
 | 0, _ => none
 | n1 + 1, v1 =>
  AR ((decide (p2 ≤ (IntKind.wrap .i64 ((IntKind.wrap .i64 (2 * v1.2)) + 1)))))
   (j1 v1.1)
   (Bf (fun (v4 : Int) =>
    (Ba v1.1 ((IntKind.wrap .i64 (p3 + v1.2)))).bind fun v11 =>
    (Ba v1.1 ((IntKind.wrap .i64 (p3 + v4)))).bind fun v12 =>
    (p4 ((v11, v12))).bind fun v13 =>
    AR ((!((decide (v13 < 0)))))
     (some v1.1)
     ((Ba v1.1 ((IntKind.wrap .i64 (p3 + v4)))).bind fun v15 =>
     (Ba v1.1 ((IntKind.wrap .i64 (p3 + v1.2)))).bind fun v16 =>
     (Ba v1.1 ((IntKind.wrap .i64 (p3 + v1.2)))).bind fun _ =>
     (Ba (v1.1.set (((IntKind.wrap .i64 (p3 + v1.2))).toNat) v15) ((IntKind.wrap .i64 (p3 + v4)))).bind fun _ =>
     CE N p2 p3 p4 j1 n1 ((v1.1.set (((IntKind.wrap .i64 (p3 + v1.2))).toNat) v15).set (((IntKind.wrap .i64 (p3 + v4))).toNat) v16, v4)))
   fun j4 =>
   Bf (fun (v5 : Bool) =>
    AR v5
     (j4 (IntKind.wrap .i64 ((IntKind.wrap .i64 ((IntKind.wrap .i64 (2 * v1.2)) + 1)) + 1)))
     (j4 (IntKind.wrap .i64 ((IntKind.wrap .i64 (2 * v1.2)) + 1))))
   fun j5 =>
   AR ((decide ((IntKind.wrap .i64 ((IntKind.wrap .i64 ((IntKind.wrap .i64 (2 * v1.2)) + 1)) + 1)) < p2)))
    ((Ba v1.1 ((IntKind.wrap .i64 (p3 + (IntKind.wrap .i64 ((IntKind.wrap .i64 (2 * v1.2)) + 1)))))).bind fun v7 =>
    (Ba v1.1 ((IntKind.wrap .i64 ((IntKind.wrap .i64 (p3 + (IntKind.wrap .i64 ((IntKind.wrap .i64 (2 * v1.2)) + 1)))) + 1)))).bind fun v8 =>
    (p4 ((v7, v8))).bind fun v9 =>
    j5 (decide (v9 < 0)))
    (j5 false))
def C6 (N : Nat) (p0 : List Af) (p1 : Int) (p2 : Int) (p3 : Int) (p4 : (Af × Af) → Option Int) : Option ((List Af)) :=
 CE N p2 p3 p4 (fun (v2 : (List Af)) =>
  some v2) N (p0, p1)
def CG (N : Nat) (p1 : Int) (p2 : Int) (p3 : (Af × Af) → Option Int) (j1 : ((List Af)) → Option ((List Af))) : Nat → ((List Af) × Int) → Option ((List Af))
 | 0, _ => none
 | n1 + 1, v1 =>
  AR ((decide (0 ≤ v1.2)))
   ((C6 N v1.1 v1.2 ((IntKind.wrap .i64 (p2 - p1))) p1 p3).bind fun v4 =>
   CG N p1 p2 p3 j1 n1 (v4, (IntKind.wrap .i64 (v1.2 - 1))))
   (j1 v1.1)
def CF (N : Nat) (p1 : Int) (p3 : (Af × Af) → Option Int) (j5 : ((List Af)) → Option ((List Af))) : Nat → ((List Af) × Int) → Option ((List Af))
 | 0, _ => none
 | n5 + 1, v5 =>
  AR ((decide (0 ≤ v5.2)))
   ((Ba v5.1 ((IntKind.wrap .i64 (p1 + v5.2)))).bind fun v8 =>
   (Ba v5.1 p1).bind fun v9 =>
   (Ba v5.1 p1).bind fun _ =>
   (Ba (v5.1.set ((p1).toNat) v8) ((IntKind.wrap .i64 (p1 + v5.2)))).bind fun _ =>
   (C6 N ((v5.1.set ((p1).toNat) v8).set (((IntKind.wrap .i64 (p1 + v5.2))).toNat) v9) 0 v5.2 p1 p3).bind fun v12 =>
   CF N p1 p3 j5 n5 (v12, (IntKind.wrap .i64 (v5.2 - 1))))
   (j5 v5.1)
def D6 (N : Nat) (p0 : List Af) (p1 : Int) (p2 : Int) (p3 : (Af × Af) → Option Int) : Option ((List Af)) :=
 CG N p1 p2 p3 (fun (v2 : (List Af)) =>
  CF N p1 p3 (fun (v6 : (List Af)) =>
   some v6) N (v2, (IntKind.wrap .i64 ((IntKind.wrap .i64 (p2 - p1)) - 1)))) N (p0, (IntKind.wrap .i64 (Int.tdiv ((IntKind.wrap .i64 ((IntKind.wrap .i64 (p2 - p1)) - 1))) 2)))
def B2 (N : Nat) (p1 : Int) (p2 : Int) (v2 : Int) (j3 : ((List Af)) → Option ((List Af))) : Nat → ((List Af) × Int × Int) → Option ((List Af))
 | 0, _ => none
 | n3 + 1, v3 =>
  AR ((decide (v3.2.2 ≤ (IntKind.wrap .i64 ((IntKind.wrap .i64 (p1 + (IntKind.wrap .i64 ((IntKind.wrap .i64 (Int.tdiv ((IntKind.wrap .i64 (p2 - p1))) 4)) * 2)))) + 1)))))
   ((FE N v3.2.1).bind fun v6 =>
   Bf (fun (v7 : Int) =>
    (Ba v3.1 ((IntKind.wrap .i64 (p1 + v7)))).bind fun v9 =>
    (Ba v3.1 v3.2.2).bind fun v10 =>
    (Ba v3.1 v3.2.2).bind fun _ =>
    (Ba (v3.1.set ((v3.2.2).toNat) v9) ((IntKind.wrap .i64 (p1 + v7)))).bind fun _ =>
    B2 N p1 p2 v2 j3 n3 ((v3.1.set ((v3.2.2).toNat) v9).set (((IntKind.wrap .i64 (p1 + v7))).toNat) v10, v6.2, (IntKind.wrap .i64 (v3.2.2 + 1))))
   fun j7 =>
   AR ((decide ((IntKind.wrap .i64 (p2 - p1)) ≤ (IntKind.wrap .i64 ((F4 .u64 v6.1 ((IntKind.wrap .u64 (v2 - 1)))))))))
    (j7 (IntKind.wrap .i64 ((IntKind.wrap .i64 ((F4 .u64 v6.1 ((IntKind.wrap .u64 (v2 - 1)))))) - (IntKind.wrap .i64 (p2 - p1)))))
    (j7 (IntKind.wrap .i64 ((F4 .u64 v6.1 ((IntKind.wrap .u64 (v2 - 1))))))))
   (j3 v3.1)
def DA (N : Nat) (p0 : List Af) (p1 : Int) (p2 : Int) (_ : (Af × Af) → Option Int) : Option ((List Af)) :=
 AR ((decide (8 ≤ (IntKind.wrap .i64 (p2 - p1)))))
  ((Fl N ((IntKind.wrap .i64 (p2 - p1)))).bind fun v2 =>
  B2 N p1 p2 v2 (fun (v4 : (List Af)) =>
   some v4) N (p0, (IntKind.wrap .u64 ((IntKind.wrap .i64 (p2 - p1)))), (IntKind.wrap .i64 ((IntKind.wrap .i64 (p1 + (IntKind.wrap .i64 ((IntKind.wrap .i64 (Int.tdiv ((IntKind.wrap .i64 (p2 - p1))) 4)) * 2)))) - 1))))
  (some p0)
def Cl (_ : Nat) (p0 : List Af) (p1 : Int) (p2 : Int) (p3 : Int) (p4 : (Af × Af) → Option Int) : Option (Int × Int × Int) :=
 (Ba p0 p2).bind fun v1 =>
 (Ba p0 p1).bind fun v2 =>
 (p4 ((v1, v2))).bind fun v3 =>
 AR ((decide (v3 < 0)))
  (some (p2, p1, (IntKind.wrap .i64 (p3 + 1))))
  (some (p1, p2, p3))
def Dq (N : Nat) (p0 : List Af) (p1 : Int) (p2 : Int) (p3 : Int) (p4 : Int) (p5 : (Af × Af) → Option Int) : Option (Int × Int) :=
 (Cl N p0 p1 p2 p4 p5).bind fun v1 =>
 (Cl N p0 v1.2.1 p3 v1.2.2 p5).bind fun v2 =>
 (Cl N p0 v1.1 v2.1 v2.2.2 p5).bind fun v3 =>
 some (v3.2.1, v3.2.2)
def By (N : Nat) (p0 : List Af) (p1 : Int) (p2 : Int) (p3 : (Af × Af) → Option Int) : Option (Int × Int) :=
 (Dq N p0 ((IntKind.wrap .i64 (p1 - 1))) p1 ((IntKind.wrap .i64 (p1 + 1))) p2 p3).bind fun v1 =>
 some (v1.1, v1.2)
def DO (N : Nat) (p0 : List Af) (p1 : Int) (p2 : Int) (p3 : (Af × Af) → Option Int) : Option (Int × Int) :=
 Bf (fun (v1 : Int × Int) =>
  AR ((v1.1 == 0))
   (some (v1.2, 1))
   (AR ((v1.1 == 12))
    (some (v1.2, 2))
    (some (v1.2, 0))))
 fun j1 =>
 AR ((decide (8 ≤ (IntKind.wrap .i64 (p2 - p1)))))
  (Bf (fun (v3 : Int × Int × Int × Int) =>
   (Dq N p0 v3.2.1 v3.2.2.1 v3.2.2.2 v3.1 p3).bind fun v8 =>
   j1 (v8.2, v8.1))
  fun j3 =>
  AR ((decide (50 ≤ (IntKind.wrap .i64 (p2 - p1)))))
   ((By N p0 ((IntKind.wrap .i64 (p1 + (IntKind.wrap .i64 ((IntKind.wrap .i64 (Int.tdiv ((IntKind.wrap .i64 (p2 - p1))) 4)) * 1))))) 0 p3).bind fun v5 =>
   (By N p0 ((IntKind.wrap .i64 (p1 + (IntKind.wrap .i64 ((IntKind.wrap .i64 (Int.tdiv ((IntKind.wrap .i64 (p2 - p1))) 4)) * 2))))) v5.2 p3).bind fun v6 =>
   (By N p0 ((IntKind.wrap .i64 (p1 + (IntKind.wrap .i64 ((IntKind.wrap .i64 (Int.tdiv ((IntKind.wrap .i64 (p2 - p1))) 4)) * 3))))) v6.2 p3).bind fun v7 =>
   j3 (v7.2, v5.1, v6.1, v7.1))
   (j3 (0, (IntKind.wrap .i64 (p1 + (IntKind.wrap .i64 ((IntKind.wrap .i64 (Int.tdiv ((IntKind.wrap .i64 (p2 - p1))) 4)) * 1)))), (IntKind.wrap .i64 (p1 + (IntKind.wrap .i64 ((IntKind.wrap .i64 (Int.tdiv ((IntKind.wrap .i64 (p2 - p1))) 4)) * 2)))), (IntKind.wrap .i64 (p1 + (IntKind.wrap .i64 ((IntKind.wrap .i64 (Int.tdiv ((IntKind.wrap .i64 (p2 - p1))) 4)) * 3)))))))
  (j1 (0, (IntKind.wrap .i64 (p1 + (IntKind.wrap .i64 ((IntKind.wrap .i64 (Int.tdiv ((IntKind.wrap .i64 (p2 - p1))) 4)) * 2))))))
def Ca (N : Nat) (j1 : ((List Af)) → Option ((List Af))) : Nat → ((List Af) × Int × Int) → Option ((List Af))
 | 0, _ => none
 | n1 + 1, v1 =>
  AR ((decide (v1.2.1 < v1.2.2)))
   ((Ba v1.1 v1.2.2).bind fun v4 =>
   (Ba v1.1 v1.2.1).bind fun v5 =>
   (Ba v1.1 v1.2.1).bind fun _ =>
   (Ba (v1.1.set ((v1.2.1).toNat) v4) v1.2.2).bind fun _ =>
   Ca N j1 n1 ((v1.1.set ((v1.2.1).toNat) v4).set ((v1.2.2).toNat) v5, (IntKind.wrap .i64 (v1.2.1 + 1)), (IntKind.wrap .i64 (v1.2.2 - 1))))
   (j1 v1.1)
def DM (N : Nat) (p0 : List Af) (p1 : Int) (p2 : Int) (_ : (Af × Af) → Option Int) : Option ((List Af)) :=
 Ca N (fun (v2 : (List Af)) =>
  some v2) N (p0, p1, (IntKind.wrap .i64 (p2 - 1)))
def Bw (N : Nat) (p2 : Int) (p3 : (Af × Af) → Option Int) (v1 : (List Af) × Int × Int) (j5 : Int → Option (Bool × (List Af))) : Nat → Int → Option (Bool × (List Af))
 | 0, _ => none
 | n5 + 1, v5 =>
  Bf (fun (v7 : Bool) =>
   AR v7
    (Bw N p2 p3 v1 j5 n5 (IntKind.wrap .i64 (v5 + 1)))
    (j5 v5))
  fun j7 =>
  AR ((decide (v5 < p2)))
   ((Ba v1.1 v5).bind fun v9 =>
   (Ba v1.1 ((IntKind.wrap .i64 (v5 - 1)))).bind fun v10 =>
   (p3 ((v9, v10))).bind fun v11 =>
   j7 (!((decide (v11 < 0)))))
   (j7 false)
def Bu (N : Nat) (p3 : (Af × Af) → Option Int) (j21 : ((List Af)) → Option (Bool × (List Af))) : Nat → ((List Af) × Int) → Option (Bool × (List Af))
 | 0, _ => none
 | n21 + 1, v21 =>
  AR ((decide (1 ≤ v21.2)))
   ((Ba v21.1 v21.2).bind fun v24 =>
   (Ba v21.1 ((IntKind.wrap .i64 (v21.2 - 1)))).bind fun v25 =>
   (p3 ((v24, v25))).bind fun v26 =>
   AR ((!((decide (v26 < 0)))))
    (j21 v21.1)
    ((Ba v21.1 ((IntKind.wrap .i64 (v21.2 - 1)))).bind fun v28 =>
    (Ba v21.1 v21.2).bind fun v29 =>
    (Ba v21.1 v21.2).bind fun _ =>
    (Ba (v21.1.set ((v21.2).toNat) v28) ((IntKind.wrap .i64 (v21.2 - 1)))).bind fun _ =>
    Bu N p3 j21 n21 ((v21.1.set ((v21.2).toNat) v28).set (((IntKind.wrap .i64 (v21.2 - 1))).toNat) v29, (IntKind.wrap .i64 (v21.2 - 1)))))
   (j21 v21.1)
def Bt (N : Nat) (p2 : Int) (p3 : (Af × Af) → Option Int) (j33 : ((List Af)) → Option (Bool × (List Af))) : Nat → ((List Af) × Int) → Option (Bool × (List Af))
 | 0, _ => none
 | n33 + 1, v33 =>
  AR ((decide (v33.2 < p2)))
   ((Ba v33.1 v33.2).bind fun v36 =>
   (Ba v33.1 ((IntKind.wrap .i64 (v33.2 - 1)))).bind fun v37 =>
   (p3 ((v36, v37))).bind fun v38 =>
   AR ((!((decide (v38 < 0)))))
    (j33 v33.1)
    ((Ba v33.1 ((IntKind.wrap .i64 (v33.2 - 1)))).bind fun v40 =>
    (Ba v33.1 v33.2).bind fun v41 =>
    (Ba v33.1 v33.2).bind fun _ =>
    (Ba (v33.1.set ((v33.2).toNat) v40) ((IntKind.wrap .i64 (v33.2 - 1)))).bind fun _ =>
    Bt N p2 p3 j33 n33 ((v33.1.set ((v33.2).toNat) v40).set (((IntKind.wrap .i64 (v33.2 - 1))).toNat) v41, (IntKind.wrap .i64 (v33.2 + 1)))))
   (j33 v33.1)
def Bv (N : Nat) (p1 : Int) (p2 : Int) (p3 : (Af × Af) → Option Int) (j1 : ((List Af)) → Option (Bool × (List Af))) : Nat → ((List Af) × Int × Int) → Option (Bool × (List Af))
 | 0, _ => none
 | n1 + 1, v1 =>
  AR ((decide (v1.2.2 < 5)))
   (Bf (fun (v4 : (List Af) × Int) =>
    Bv N p1 p2 p3 j1 n1 (v4.1, v4.2, (IntKind.wrap .i64 (v1.2.2 + 1))))
   fun j4 =>
   Bw N p2 p3 v1 (fun (v6 : Int) =>
    AR ((v6 == p2))
     (some (true, v1.1))
     (AR ((decide ((IntKind.wrap .i64 (p2 - p1)) < 50)))
      (some (false, v1.1))
      ((Ba v1.1 ((IntKind.wrap .i64 (v6 - 1)))).bind fun v15 =>
      (Ba v1.1 v6).bind fun v16 =>
      (Ba v1.1 v6).bind fun _ =>
      (Ba (v1.1.set ((v6).toNat) v15) ((IntKind.wrap .i64 (v6 - 1)))).bind fun _ =>
      Bf (fun (v19 : (List Af)) =>
       AR ((decide (2 ≤ (IntKind.wrap .i64 (p2 - v6)))))
        (Bt N p2 p3 (fun (v34 : (List Af)) =>
         j4 (v34, v6)) N (v19, (IntKind.wrap .i64 (v6 + 1))))
        (j4 (v19, v6)))
      fun j19 =>
      AR ((decide (2 ≤ (IntKind.wrap .i64 (v6 - p1)))))
       (Bu N p3 (fun (v22 : (List Af)) =>
        j19 v22) N ((v1.1.set ((v6).toNat) v15).set (((IntKind.wrap .i64 (v6 - 1))).toNat) v16, (IntKind.wrap .i64 (v6 - 1))))
       (j19 ((v1.1.set ((v6).toNat) v15).set (((IntKind.wrap .i64 (v6 - 1))).toNat) v16))))) N v1.2.1)
   (j1 v1.1)
def CJ (N : Nat) (p0 : List Af) (p1 : Int) (p2 : Int) (p3 : (Af × Af) → Option Int) : Option (Bool × (List Af)) :=
 Bv N p1 p2 p3 (fun (v2 : (List Af)) =>
  some (false, v2)) N (p0, (IntKind.wrap .i64 (p1 + 1)), 0)
def B0 (N : Nat) (p1 : Int) (p4 : (Af × Af) → Option Int) (v5 : (List Af) × Int × Int) (j7 : Int → Option (Int × (List Af))) : Nat → Int → Option (Int × (List Af))
 | 0, _ => none
 | n7 + 1, v7 =>
  Bf (fun (v9 : Bool) =>
   AR v9
    (B0 N p1 p4 v5 j7 n7 (IntKind.wrap .i64 (v7 + 1)))
    (j7 v7))
  fun j9 =>
  AR ((decide (v7 ≤ v5.2.2)))
   ((Ba v5.1 p1).bind fun v11 =>
   (Ba v5.1 v7).bind fun v12 =>
   (p4 ((v11, v12))).bind fun v13 =>
   j9 (!((decide (v13 < 0)))))
   (j9 false)
def BS (N : Nat) (p1 : Int) (p4 : (Af × Af) → Option Int) (v5 : (List Af) × Int × Int) (v8 : Int) (j15 : Int → Option (Int × (List Af))) : Nat → Int → Option (Int × (List Af))
 | 0, _ => none
 | n15 + 1, v15 =>
  Bf (fun (v17 : Bool) =>
   AR v17
    (BS N p1 p4 v5 v8 j15 n15 (IntKind.wrap .i64 (v15 - 1)))
    (j15 v15))
  fun j17 =>
  AR ((decide (v8 ≤ v15)))
   ((Ba v5.1 p1).bind fun v19 =>
   (Ba v5.1 v15).bind fun v20 =>
   (p4 ((v19, v20))).bind fun v21 =>
   j17 (decide (v21 < 0)))
   (j17 false)
def BZ (N : Nat) (p1 : Int) (p4 : (Af × Af) → Option Int) (j5 : ((List Af) × Int) → Option (Int × (List Af))) : Nat → ((List Af) × Int × Int) → Option (Int × (List Af))
 | 0, _ => none
 | n5 + 1, v5 =>
  B0 N p1 p4 v5 (fun (v8 : Int) =>
   BS N p1 p4 v5 v8 (fun (v16 : Int) =>
    AR ((decide (v16 < v8)))
     (j5 (v5.1, v8))
     ((Ba v5.1 v16).bind fun v24 =>
     (Ba v5.1 v8).bind fun v25 =>
     (Ba v5.1 v8).bind fun _ =>
     (Ba (v5.1.set ((v8).toNat) v24) v16).bind fun _ =>
     BZ N p1 p4 j5 n5 ((v5.1.set ((v8).toNat) v24).set ((v16).toNat) v25, (IntKind.wrap .i64 (v8 + 1)), (IntKind.wrap .i64 (v16 - 1))))) N v5.2.2) N v5.2.1
def Dt (N : Nat) (p0 : List Af) (p1 : Int) (p2 : Int) (p3 : Int) (p4 : (Af × Af) → Option Int) : Option (Int × (List Af)) :=
 (Ba p0 p3).bind fun v1 =>
 (Ba p0 p1).bind fun v2 =>
 (Ba p0 p1).bind fun _ =>
 (Ba (p0.set ((p1).toNat) v1) p3).bind fun _ =>
 BZ N p1 p4 (fun (v6 : (List Af) × Int) =>
  some (v6.2, v6.1)) N ((p0.set ((p1).toNat) v1).set ((p3).toNat) v2, (IntKind.wrap .i64 (p1 + 1)), (IntKind.wrap .i64 (p2 - 1)))
def Cs (N : Nat) (p0 : List Af) (p1 : Int) (p2 : Int) (p3 : Int) (p4 : (Af × Af) → Option Int) (v1 : Af) (v2 : Af) (j5 : Int → Option (Int × Bool × (List Af))) : Nat → Int → Option (Int × Bool × (List Af))
 | 0, _ => none
 | n5 + 1, v5 =>
  Bf (fun (v7 : Bool) =>
   AR v7
    (Cs N p0 p1 p2 p3 p4 v1 v2 j5 n5 (IntKind.wrap .i64 (v5 + 1)))
    (j5 v5))
  fun j7 =>
  AR ((decide (v5 ≤ (IntKind.wrap .i64 (p2 - 1)))))
   ((Ba ((p0.set ((p1).toNat) v1).set ((p3).toNat) v2) v5).bind fun v9 =>
   (Ba ((p0.set ((p1).toNat) v1).set ((p3).toNat) v2) p1).bind fun v10 =>
   (p4 ((v9, v10))).bind fun v11 =>
   j7 (decide (v11 < 0)))
   (j7 false)
def Cg (N : Nat) (p0 : List Af) (p1 : Int) (p3 : Int) (p4 : (Af × Af) → Option Int) (v1 : Af) (v2 : Af) (v6 : Int) (j13 : Int → Option (Int × Bool × (List Af))) : Nat → Int → Option (Int × Bool × (List Af))
 | 0, _ => none
 | n13 + 1, v13 =>
  Bf (fun (v15 : Bool) =>
   AR v15
    (Cg N p0 p1 p3 p4 v1 v2 v6 j13 n13 (IntKind.wrap .i64 (v13 - 1)))
    (j13 v13))
  fun j15 =>
  AR ((decide (v6 ≤ v13)))
   ((Ba ((p0.set ((p1).toNat) v1).set ((p3).toNat) v2) v13).bind fun v17 =>
   (Ba ((p0.set ((p1).toNat) v1).set ((p3).toNat) v2) p1).bind fun v18 =>
   (p4 ((v17, v18))).bind fun v19 =>
   j15 (!((decide (v19 < 0)))))
   (j15 false)
def Ci (N : Nat) (p1 : Int) (p4 : (Af × Af) → Option Int) (v30 : (List Af) × Int × Int) (j32 : Int → Option (Int × Bool × (List Af))) : Nat → Int → Option (Int × Bool × (List Af))
 | 0, _ => none
 | n32 + 1, v32 =>
  Bf (fun (v34 : Bool) =>
   AR v34
    (Ci N p1 p4 v30 j32 n32 (IntKind.wrap .i64 (v32 + 1)))
    (j32 v32))
  fun j34 =>
  AR ((decide (v32 ≤ v30.2.2)))
   ((Ba v30.1 v32).bind fun v36 =>
   (Ba v30.1 p1).bind fun v37 =>
   (p4 ((v36, v37))).bind fun v38 =>
   j34 (decide (v38 < 0)))
   (j34 false)
def Cj (N : Nat) (p1 : Int) (p4 : (Af × Af) → Option Int) (v30 : (List Af) × Int × Int) (v33 : Int) (j40 : Int → Option (Int × Bool × (List Af))) : Nat → Int → Option (Int × Bool × (List Af))
 | 0, _ => none
 | n40 + 1, v40 =>
  Bf (fun (v42 : Bool) =>
   AR v42
    (Cj N p1 p4 v30 v33 j40 n40 (IntKind.wrap .i64 (v40 - 1)))
    (j40 v40))
  fun j42 =>
  AR ((decide (v33 ≤ v40)))
   ((Ba v30.1 v40).bind fun v44 =>
   (Ba v30.1 p1).bind fun v45 =>
   (p4 ((v44, v45))).bind fun v46 =>
   j42 (!((decide (v46 < 0)))))
   (j42 false)
def Ck (N : Nat) (p1 : Int) (p4 : (Af × Af) → Option Int) (j30 : ((List Af) × Int) → Option (Int × Bool × (List Af))) : Nat → ((List Af) × Int × Int) → Option (Int × Bool × (List Af))
 | 0, _ => none
 | n30 + 1, v30 =>
  Ci N p1 p4 v30 (fun (v33 : Int) =>
   Cj N p1 p4 v30 v33 (fun (v41 : Int) =>
    AR ((decide (v41 < v33)))
     (j30 (v30.1, v41))
     ((Ba v30.1 v41).bind fun v49 =>
     (Ba v30.1 v33).bind fun v50 =>
     (Ba v30.1 v33).bind fun _ =>
     (Ba (v30.1.set ((v33).toNat) v49) v41).bind fun _ =>
     Ck N p1 p4 j30 n30 ((v30.1.set ((v33).toNat) v49).set ((v41).toNat) v50, (IntKind.wrap .i64 (v33 + 1)), (IntKind.wrap .i64 (v41 - 1))))) N v30.2.2) N v30.2.1
def DX (N : Nat) (p0 : List Af) (p1 : Int) (p2 : Int) (p3 : Int) (p4 : (Af × Af) → Option Int) : Option (Int × Bool × (List Af)) :=
 (Ba p0 p3).bind fun v1 =>
 (Ba p0 p1).bind fun v2 =>
 (Ba p0 p1).bind fun _ =>
 (Ba (p0.set ((p1).toNat) v1) p3).bind fun _ =>
 Cs N p0 p1 p2 p3 p4 v1 v2 (fun (v6 : Int) =>
  Cg N p0 p1 p3 p4 v1 v2 v6 (fun (v14 : Int) =>
   AR ((decide (v14 < v6)))
    ((Ba ((p0.set ((p1).toNat) v1).set ((p3).toNat) v2) p1).bind fun v22 =>
    (Ba ((p0.set ((p1).toNat) v1).set ((p3).toNat) v2) v14).bind fun v23 =>
    (Ba ((p0.set ((p1).toNat) v1).set ((p3).toNat) v2) v14).bind fun _ =>
    (Ba (((p0.set ((p1).toNat) v1).set ((p3).toNat) v2).set ((v14).toNat) v22) p1).bind fun _ =>
    some (v14, true, (((p0.set ((p1).toNat) v1).set ((p3).toNat) v2).set ((v14).toNat) v22).set ((p1).toNat) v23))
    ((Ba ((p0.set ((p1).toNat) v1).set ((p3).toNat) v2) v14).bind fun v26 =>
    (Ba ((p0.set ((p1).toNat) v1).set ((p3).toNat) v2) v6).bind fun v27 =>
    (Ba ((p0.set ((p1).toNat) v1).set ((p3).toNat) v2) v6).bind fun _ =>
    (Ba (((p0.set ((p1).toNat) v1).set ((p3).toNat) v2).set ((v6).toNat) v26) v14).bind fun _ =>
    Ck N p1 p4 (fun (v31 : (List Af) × Int) =>
     (Ba v31.1 p1).bind fun v53 =>
     (Ba v31.1 v31.2).bind fun v54 =>
     (Ba v31.1 v31.2).bind fun _ =>
     (Ba (v31.1.set ((v31.2).toNat) v53) p1).bind fun _ =>
     some (v31.2, false, (v31.1.set ((v31.2).toNat) v53).set ((p1).toNat) v54)) N ((((p0.set ((p1).toNat) v1).set ((p3).toNat) v2).set ((v6).toNat) v26).set ((v14).toNat) v27, (IntKind.wrap .i64 (v6 + 1)), (IntKind.wrap .i64 (v14 - 1))))) N (IntKind.wrap .i64 (p2 - 1))) N (IntKind.wrap .i64 (p1 + 1))
def Bp (N : Nat) (p4 : (Af × Af) → Option Int) (rc : (List Af) → Int → Int → Int → ((Af × Af) → Option Int) → Option ((List Af))) (j1 : Unit → Option ((List Af))) : Nat → ((List Af) × Int × Int × Int × Bool × Bool) → Option ((List Af))
 | 0, _ => none
 | n1 + 1, v1 =>
  AR ((decide ((IntKind.wrap .i64 (v1.2.2.1 - v1.2.1)) ≤ 12)))
   ((DC N v1.1 v1.2.1 v1.2.2.1 p4).bind fun v4 =>
   some v4)
   (AR ((v1.2.2.2.1 == 0))
    ((D6 N v1.1 v1.2.1 v1.2.2.1 p4).bind fun v6 =>
    some v6)
    (Bf (fun (v7 : (List Af) × Int) =>
     (DO N v7.1 v1.2.1 v1.2.2.1 p4).bind fun v10 =>
     Bf (fun (v11 : (List Af) × Int × Int) =>
      Bf (fun (v14 : (List Af)) =>
       Bf (fun (v21 : Bool) =>
        AR v21
         ((Dt N v14 v1.2.1 v1.2.2.1 v11.2.1 p4).bind fun v27 =>
         Bp N p4 rc j1 n1 (v27.2, v27.1, v1.2.2.1, v7.2, v1.2.2.2.2.1, v1.2.2.2.2.2))
         ((DX N v14 v1.2.1 v1.2.2.1 v11.2.1 p4).bind fun v28 =>
         AR ((decide ((IntKind.wrap .i64 (v28.1 - v1.2.1)) < (IntKind.wrap .i64 (v1.2.2.1 - v28.1)))))
          ((rc v28.2.2 v1.2.1 v28.1 v7.2 p4).bind fun v30 =>
          Bp N p4 rc j1 n1 (v30, (IntKind.wrap .i64 (v28.1 + 1)), v1.2.2.1, v7.2, (decide ((IntKind.wrap .i64 (Int.tdiv ((IntKind.wrap .i64 (v1.2.2.1 - v1.2.1))) 8)) ≤ (IntKind.wrap .i64 (v28.1 - v1.2.1)))), v28.2.1))
          ((rc v28.2.2 ((IntKind.wrap .i64 (v28.1 + 1))) v1.2.2.1 v7.2 p4).bind fun v31 =>
          Bp N p4 rc j1 n1 (v31, v1.2.1, v28.1, v7.2, (decide ((IntKind.wrap .i64 (Int.tdiv ((IntKind.wrap .i64 (v1.2.2.1 - v1.2.1))) 8)) ≤ (IntKind.wrap .i64 (v1.2.2.1 - v28.1)))), v28.2.1))))
       fun j21 =>
       AR ((decide (0 < v1.2.1)))
        ((Ba v14 ((IntKind.wrap .i64 (v1.2.1 - 1)))).bind fun v23 =>
        (Ba v14 v11.2.1).bind fun v24 =>
        (p4 ((v23, v24))).bind fun v25 =>
        j21 (!((decide (v25 < 0)))))
        (j21 false))
      fun j14 =>
      Bf (fun (v15 : Bool) =>
       AR v15
        ((CJ N v11.1 v1.2.1 v1.2.2.1 p4).bind fun v19 =>
        AR v19.1
         (some v19.2)
         (j14 v19.2))
        (j14 v11.1))
      fun j15 =>
      AR v1.2.2.2.2.1
       (AR v1.2.2.2.2.2
        (j15 (v11.2.2 == 1))
        (j15 false))
       (j15 false))
     fun j11 =>
     AR ((v10.2 == 2))
      ((DM N v7.1 v1.2.1 v1.2.2.1 p4).bind fun v13 =>
      j11 (v13, (IntKind.wrap .i64 ((IntKind.wrap .i64 (v1.2.2.1 - 1)) - (IntKind.wrap .i64 (v10.1 - v1.2.1)))), 1))
      (j11 (v7.1, v10.1, v10.2)))
    fun j7 =>
    AR ((!v1.2.2.2.2.1))
     ((DA N v1.1 v1.2.1 v1.2.2.1 p4).bind fun v9 =>
     j7 (v9, (IntKind.wrap .i64 (v1.2.2.2.1 - 1))))
     (j7 (v1.1, v1.2.2.2.1))))
def DY (N : Nat) (rc : (List Af) → Int → Int → Int → ((Af × Af) → Option Int) → Option ((List Af))) (p0 : List Af) (p1 : Int) (p2 : Int) (p3 : Int) (p4 : (Af × Af) → Option Int) : Option ((List Af)) :=
 Bp N p4 rc (fun (_ : Unit) =>
  none) N (p0, p1, p2, p3, true, true)
def CT (N : Nat) : Nat → (List Af) → Int → Int → Int → ((Af × Af) → Option Int) → Option ((List Af))
 | 0, _, _, _, _, _ => none
 | k + 1, p0, p1, p2, p3, p4 => DY N (CT N k) p0 p1 p2 p3 p4
def FF (N : Nat) (p0 : List Af) (p1 : Int) (p2 : Int) (p3 : Int) (p4 : (Af × Af) → Option Int) : Option ((List Af)) := CT N N p0 p1 p2 p3 p4
def Dv (N : Nat) (p0 : List Af) (p1 : (Af × Af) → Option Int) : Option ((List Af)) :=
 (GG N ((IntKind.wrap .u64 ((p0.length : Int))))).bind fun v1 =>
 (FF N p0 0 ((p0.length : Int)) v1 p1).bind fun v2 =>
 some v2
def Gw (N : Nat) (p0 : Af) (p1 : Af) : Option Int :=
 (Fh N p0.fTable p1.fTable).bind fun v1 =>
 (Fh N p0.fWriter p1.fWriter).bind fun v2 =>
 (Fh N p0.fReader p1.fReader).bind fun v3 =>
 (I3 N (([v1, v2, v3] : List Int))).bind fun v4 =>
 some v4
def BY (N : Nat) (p0 : List Af) (v2 : Int) (j10 : ((List Af) × Int) → Option (Nat × (List Af))) : Nat → ((List Af) × Int × Int) → Option (Nat × (List Af))
 | 0, _ => none
 | n10 + 1, v10 =>
  AR ((decide (v10.2.2 < ((((p0.length - (v2).toNat)) : Nat) : Int))))
   (Bf (fun (v13 : (List Af) × Int) =>
    BY N p0 v2 j10 n10 (v13.1, v13.2, (IntKind.wrap .i64 (v10.2.2 + 1))))
   fun j13 =>
   (E7 (((v2).toNat) + ((p0.length - (v2).toNat)) ≤ v10.1.length)).bind fun _ =>
   (Ba (((v10.1.drop ((v2).toNat)).take ((p0.length - (v2).toNat)))) v10.2.2).bind fun v14 =>
   (Ba (((v10.1.drop ((v2).toNat)).take ((p0.length - (v2).toNat)))) ((IntKind.wrap .i64 (v10.2.2 - 1)))).bind fun v16 =>
   AR ((!((v14.fTable == v16.fTable) && ((v14.fWriter == v16.fWriter) && ((v14.fReader == v16.fReader) && true)))))
    ((Ba (((v10.1.drop ((v2).toNat)).take ((p0.length - (v2).toNat)))) v10.2.2).bind fun v18 =>
    (Ba v10.1 v10.2.1).bind fun _ =>
    j13 (v10.1.set ((v10.2.1).toNat) v18, (IntKind.wrap .i64 (v10.2.1 + 1))))
    (j13 (v10.1, v10.2.1)))
   (j10 (v10.1, v10.2.1))
def B5 (N : Nat) (p0 : List Af) (j2 : Unit → Option (Nat × (List Af))) : Nat → Int → Option (Nat × (List Af))
 | 0, _ => none
 | n2 + 1, v2 =>
  AR ((decide (v2 < (p0.length : Int))))
   ((Ba p0 v2).bind fun v5 =>
   (Ba p0 ((IntKind.wrap .i64 (v2 - 1)))).bind fun v6 =>
   AR (((v5.fTable == v6.fTable) && ((v5.fWriter == v6.fWriter) && ((v5.fReader == v6.fReader) && true))))
    ((E7 ((0 : Int) ≤ v2 ∧ (v2).toNat ≤ p0.length ∧ p0.length ≤ p0.length)).bind fun _ =>
    BY N p0 v2 (fun (v11 : (List Af) × Int) =>
     (E7 ((0 : Int) ≤ v11.2 ∧ (v11.2).toNat ≤ v11.1.length ∧ v11.1.length ≤ v11.1.length)).bind fun _ =>
     (E7 ((0 : Int) ≤ v11.2 ∧ 0 ≤ (v11.2).toNat ∧ (v11.2).toNat ≤ (JA v11.1 ((v11.2).toNat) (List.replicate ((v11.1.length - (v11.2).toNat)) ((Af.mk 0 0 0)))).length)).bind fun _ =>
     some ((v11.2).toNat, JA v11.1 ((v11.2).toNat) (List.replicate ((v11.1.length - (v11.2).toNat)) ((Af.mk 0 0 0))))) N (p0, v2, 1))
    (B5 N p0 j2 n2 (IntKind.wrap .i64 (v2 + 1))))
   (j2 ())
def DB (N : Nat) (p0 : List Af) : Option (Nat × (List Af)) :=
 AR ((decide ((p0.length : Int) < 2)))
  (some (p0.length, p0))
  (B5 N p0 (fun (_ : Unit) =>
   some (p0.length, p0)) N 1)
def Gg (N : Nat) (v1 : (List A7) × Int) (j3 : ((List Af)) → Option ((List Af) × Int)) : Nat → ((List Af) × Int) → Option ((List Af) × Int)
 | 0, _ => none
 | n3 + 1, v3 =>
  AR ((decide (v3.2 < (v1.1.length : Int))))
   ((Ba v1.1 v3.2).bind fun v6 =>
   (E7 (v3.1.length + (([(Af.mk v6.fConflict.fTable v6.fConflict.fWriter v6.fConflict.fReader)] : List Af)).length ≤ E8)).bind fun _ =>
   Gg N v1 j3 n3 (v3.1 ++ (([(Af.mk v6.fConflict.fTable v6.fConflict.fWriter v6.fConflict.fReader)] : List Af)), (IntKind.wrap .i64 (v3.2 + 1))))
   (j3 v3.1)
def IH (N : Nat) (p0 : Ak) (p1 : List Ag) : Option ((List Af) × Int) :=
 (HC N p0 p1).bind fun v1 =>
 AR ((v1.2 != 0))
  (some (([] : List Af), v1.2))
  (Gg N v1 (fun (v4 : (List Af)) =>
   (Dv N v4 ((fun (x : Af × Af) => Gw N x.1 x.2))).bind fun v8 =>
   (DB N v8).bind fun v9 =>
   (E7 (v9.1 ≤ v9.2.length)).bind fun _ =>
   some (v9.2.take v9.1, 0)) N (([] : List Af), 0))
def F3 (N : Nat) (p0 : Ak) (v8 : Ag) (j11 : Int → Option (Int × Ag × Int)) : Nat → (Int × Int) → Option (Int × Ag × Int)
 | 0, _ => none
 | n11 + 1, v11 =>
  AR ((decide (v11.2 < (p0.fTarget.length : Int))))
   (Bf (fun (v14 : Int) =>
    F3 N p0 v8 j11 n11 (v14, (IntKind.wrap .i64 (v11.2 + 1))))
   fun j14 =>
   (Ba p0.fTarget v11.2).bind fun v15 =>
   Bf (fun (v16 : Bool) =>
    AR v16
     (j14 (IntKind.wrap .i64 (v11.1 + 1)))
     (j14 v11.1))
   fun j16 =>
   (Ba v8.fBase v11.2).bind fun v17 =>
   AR ((v17 == v15))
    ((Ba v8.fNext v11.2).bind fun v19 =>
    j16 (decide (v19 < 0)))
    (j16 false))
   (j11 v11.1)
def Gn (N : Nat) (p0 : Ak) (p1 : List Ag) (j4 : (Int × Int) → Option (Int × Ag × Int)) : Nat → (Int × Int × Int) → Option (Int × Ag × Int)
 | 0, _ => none
 | n4 + 1, v4 =>
  AR ((decide (v4.2.2 < (p1.length : Int))))
   (Bf (fun (v7 : Int × Int) =>
    Gn N p0 p1 j4 n4 (v7.1, v7.2, (IntKind.wrap .i64 (v4.2.2 + 1))))
   fun j7 =>
   (Ba p1 v4.2.2).bind fun v8 =>
   (FQ N p0 v8).bind fun v9 =>
   AR ((v9 != 0))
    (some (0, (Ag.mk (([] : List Int)) (([] : List Int)) (([] : List Int))), v9))
    (F3 N p0 v8 (fun (v12 : Int) =>
     AR ((decide (v4.1 < v12)))
      (j7 (v12, v4.2.2))
      (j7 (v4.1, v4.2.1))) N (0, 0)))
   (j4 (v4.1, v4.2.1))
def IA (N : Nat) (p0 : Ak) (p1 : List Ag) : Option (Int × Ag × Int) :=
 (Dl N p0).bind fun v1 =>
 AR ((v1 != 0))
  (some (0, (Ag.mk (([] : List Int)) (([] : List Int)) (([] : List Int))), v1))
  (AR (((p1.length : Int) == 0))
   (some (0, (Ag.mk (([] : List Int)) (([] : List Int)) (([] : List Int))), 10))
   (Gn N p0 p1 (fun (v5 : Int × Int) =>
    (Ba p1 v5.2).bind fun v22 =>
    (Bx N v22.fBase).bind fun v23 =>
    (Bx N v22.fNext).bind fun v24 =>
    (BO N v22.fHeld).bind fun v25 =>
    some (v5.1, (Ag.mk v23 v24 v25), 0)) N ((-1), 0, 0)))
def Ej (N : Nat) (p0 : List Int) (p1 : List Int) (j1 : Unit → Option Int) : Nat → Int → Option Int
 | 0, _ => none
 | n1 + 1, v1 =>
  Bf (fun (v3 : Bool) =>
   AR v3
    ((Ba p0 v1).bind fun v6 =>
    (Ba p1 v1).bind fun v7 =>
    AR ((decide (v6 < v7)))
     (some ((-1)))
     ((Ba p0 v1).bind fun v9 =>
     (Ba p1 v1).bind fun v10 =>
     AR ((decide (v10 < v9)))
      (some 1)
      (Ej N p0 p1 j1 n1 (IntKind.wrap .i64 (v1 + 1)))))
    (j1 ()))
  fun j3 =>
  AR ((decide (v1 < (p0.length : Int))))
   (j3 (decide (v1 < (p1.length : Int))))
   (j3 false)
def En (N : Nat) (p0 : List Int) (p1 : List Int) : Option Int :=
 Ej N p0 p1 (fun (_ : Unit) =>
  AR ((decide ((p0.length : Int) < (p1.length : Int))))
   (some ((-1)))
   (AR ((decide ((p1.length : Int) < (p0.length : Int))))
    (some 1)
    (some 0))) N 0
def DJ (N : Nat) (p0 : List Int) (j1 : ((List Int)) → Option ((List Int))) : Nat → ((List Int) × Int) → Option ((List Int))
 | 0, _ => none
 | n1 + 1, v1 =>
  AR ((decide (v1.2 < (p0.length : Int))))
   ((Ba p0 v1.2).bind fun v4 =>
   (E7 (v1.1.length + (([(IntKind.wrap .i64 v4)] : List Int)).length ≤ E8)).bind fun _ =>
   DJ N p0 j1 n1 (v1.1 ++ (([(IntKind.wrap .i64 v4)] : List Int)), (IntKind.wrap .i64 (v1.2 + 1))))
   (j1 v1.1)
def Ed (N : Nat) (p0 : List Int) : Option ((List Int)) :=
 DJ N p0 (fun (v2 : (List Int)) =>
  some v2) N (([] : List Int), 0)
def EZ (N : Nat) (p0 : Ag) (p1 : Ag) : Option Int :=
 (En N p0.fBase p1.fBase).bind fun v1 =>
 AR ((v1 != 0))
  (some v1)
  ((En N p0.fNext p1.fNext).bind fun v3 =>
  AR ((v3 != 0))
   (some v3)
   ((Ed N p0.fHeld).bind fun v5 =>
   (Ed N p1.fHeld).bind fun v6 =>
   (En N v5 v6).bind fun v7 =>
   some v7))
def DE (N : Nat) (p0 : Ag) (p1 : Ag) : Option Bool :=
 (EZ N p0 p1).bind fun v1 =>
 some ((v1 == 0))
def FN (N : Nat) (p0 : List Ag) (p1 : List Ag) (j2 : Unit → Option Bool) : Nat → Int → Option Bool
 | 0, _ => none
 | n2 + 1, v2 =>
  AR ((decide (v2 < (p0.length : Int))))
   ((Ba p0 v2).bind fun v5 =>
   (Ba p1 v2).bind fun v6 =>
   (DE N v5 v6).bind fun v7 =>
   AR ((!v7))
    (some false)
    (FN N p0 p1 j2 n2 (IntKind.wrap .i64 (v2 + 1))))
   (j2 ())
def HO (N : Nat) (p0 : List Ag) (p1 : List Ag) : Option Bool :=
 AR (((p0.length : Int) != (p1.length : Int)))
  (some false)
  (FN N p0 p1 (fun (_ : Unit) =>
   some true) N 0)
def Bk (N : Nat) (p0 : List Ag) (p1 : Ag) (p2 : (Ag × Ag) → Option Int) (j1 : Int → Option (Int × Bool)) : Nat → (Int × Int) → Option (Int × Bool)
 | 0, _ => none
 | n1 + 1, v1 =>
  AR ((decide (v1.1 < v1.2)))
   ((Ba p0 ((IntKind.wrap .i64 ((Fa .u64 ((IntKind.wrap .u64 ((IntKind.wrap .i64 (v1.1 + v1.2))))) 1))))).bind fun v4 =>
   (p2 ((v4, p1))).bind fun v5 =>
   AR ((decide (v5 < 0)))
    (Bk N p0 p1 p2 j1 n1 ((IntKind.wrap .i64 ((IntKind.wrap .i64 ((Fa .u64 ((IntKind.wrap .u64 ((IntKind.wrap .i64 (v1.1 + v1.2))))) 1))) + 1)), v1.2))
    (Bk N p0 p1 p2 j1 n1 (v1.1, (IntKind.wrap .i64 ((Fa .u64 ((IntKind.wrap .u64 ((IntKind.wrap .i64 (v1.1 + v1.2))))) 1))))))
   (j1 v1.1)
def CK (N : Nat) (p0 : List Ag) (p1 : Ag) (p2 : (Ag × Ag) → Option Int) : Option (Int × Bool) :=
 Bk N p0 p1 p2 (fun (v2 : Int) =>
  Bf (fun (v7 : Bool) =>
   some (v2, v7))
  fun j7 =>
  AR ((decide (v2 < (p0.length : Int))))
   ((Ba p0 v2).bind fun v9 =>
   (p2 ((v9, p1))).bind fun v10 =>
   j7 (v10 == 0))
   (j7 false)) N (0, (p0.length : Int))
def Hx (N : Nat) (p0 : List Ag) (p1 : Ag) : Option Bool :=
 (CK N p0 p1 ((fun (x : Ag × Ag) => FV N x.1 x.2))).bind fun v1 =>
 some v1.2
def GS (N : Nat) (p0 : Ak) (p1 : List Ag) (j5 : Unit → Option Bool) : Nat → Int → Option Bool
 | 0, _ => none
 | n5 + 1, v5 =>
  AR ((decide (v5 < (p1.length : Int))))
   ((Ba p1 v5).bind fun v8 =>
   Bf (fun (v9 : Bool) =>
    AR v9
     (some false)
     ((Gp N p0 v8).bind fun v14 =>
     Bf (fun (v15 : Bool) =>
      AR v15
       (some false)
       (GS N p0 p1 j5 n5 (IntKind.wrap .i64 (v5 + 1))))
     fun j15 =>
     AR ((!v14.1))
      (j15 true)
      (AR ((v14.2 != 0))
       (j15 true)
       ((Kf N p0 v8).bind fun v18 =>
       j15 v18))))
   fun j9 =>
   AR ((decide (0 < v5)))
    ((Ba p1 ((IntKind.wrap .i64 (v5 - 1)))).bind fun v11 =>
    (FV N v11 v8).bind fun v12 =>
    j9 (decide (0 ≤ v12)))
    (j9 false))
   (j5 ())
def Gx (N : Nat) (p0 : Ak) (p1 : List Ag) (v25 : Ag) (v26 : (List Av) × Int) (j27 : Unit → Option Bool) : Nat → Int → Option Bool
 | 0, _ => none
 | n27 + 1, v27 =>
  AR ((decide (v27 < (v26.1.length : Int))))
   ((Ba v26.1 v27).bind fun v30 =>
   (Gt N p0 v25 v30).bind fun v31 =>
   (Gp N p0 v31.1).bind fun v32 =>
   Bf (fun (v33 : Bool) =>
    AR v33
     (some false)
     (Gx N p0 p1 v25 v26 j27 n27 (IntKind.wrap .i64 (v27 + 1))))
   fun j33 =>
   AR v32.1
    ((Hx N p1 v31.1).bind fun v35 =>
    j33 (!v35))
    (j33 false))
   (j27 ())
def GA (N : Nat) (p0 : Ak) (p1 : List Ag) (j22 : Unit → Option Bool) : Nat → Int → Option Bool
 | 0, _ => none
 | n22 + 1, v22 =>
  AR ((decide (v22 < (p1.length : Int))))
   ((Ba p1 v22).bind fun v25 =>
   (ED N p0 v25).bind fun v26 =>
   Gx N p0 p1 v25 v26 (fun (_ : Unit) =>
    GA N p0 p1 j22 n22 (IntKind.wrap .i64 (v22 + 1))) N 0)
   (j22 ())
def GX (N : Nat) (p0 : Ak) (p1 : List Ag) : Option Bool :=
 (Jz N p0).bind fun v1 =>
 AR ((v1.2 != 0))
  (some false)
  ((Gp N p0 v1.1).bind fun v3 =>
  AR ((!v3.1))
   (some (((p1.length : Int) == 0)))
   (GS N p0 p1 (fun (_ : Unit) =>
    (Hx N p1 v1.1).bind fun v20 =>
    AR ((!v20))
     (some false)
     (GA N p0 p1 (fun (_ : Unit) =>
      some true) N 0)) N 0))
def EF (N : Nat) (p0 : List Af) (p1 : List Af) (j2 : Unit → Option Bool) : Nat → Int → Option Bool
 | 0, _ => none
 | n2 + 1, v2 =>
  AR ((decide (v2 < (p0.length : Int))))
   ((Ba p0 v2).bind fun v5 =>
   (Ba p1 v2).bind fun v6 =>
   AR ((!((v5.fTable == v6.fTable) && ((v5.fWriter == v6.fWriter) && ((v5.fReader == v6.fReader) && true)))))
    (some false)
    (EF N p0 p1 j2 n2 (IntKind.wrap .i64 (v2 + 1))))
   (j2 ())
def F9 (N : Nat) (p0 : List Af) (p1 : List Af) : Option Bool :=
 AR (((p0.length : Int) != (p1.length : Int)))
  (some false)
  (EF N p0 p1 (fun (_ : Unit) =>
   some true) N 0)
def Fp (N : Nat) : Option Bool :=
 (Cp N).bind fun v1 =>
 (Jj N v1).bind fun v2 =>
 (Cp N).bind fun v3 =>
 (HC N v3 v2.1).bind fun v4 =>
 (Cp N).bind fun v5 =>
 (IH N v5 v2.1).bind fun v6 =>
 (Cp N).bind fun v7 =>
 (IA N v7 v2.1).bind fun v8 =>
 Bf (fun (v9 : Bool) =>
  Bf (fun (v13 : Bool) =>
   Bf (fun (v25 : Bool) =>
    some v25)
   fun j25 =>
   AR v13
    (AR (((v4.1.length : Int) == 1))
     ((Ba v4.1 0).bind fun v28 =>
     AR (((v28.fStep.fKind == 1) && ((v28.fStep.fIndex == 0) && ((v28.fStep.fVersion == 1) && true))))
      ((Ba v4.1 0).bind fun v30 =>
      AR (((v30.fConflict.fTable == 0) && ((v30.fConflict.fWriter == 1) && ((v30.fConflict.fReader == 0) && true))))
       ((F9 N v6.1 (([(Af.mk 0 1 0)] : List Af))).bind fun v32 =>
       AR v32
        (AR ((v8.1 == 0))
         ((DE N v8.2.1 ((Ag.mk (([0] : List Int)) (([(-1)] : List Int)) (([0] : List Int))))).bind fun v35 =>
         j25 v35)
         (j25 false))
        (j25 false))
       (j25 false))
      (j25 false))
     (j25 false))
    (j25 false))
  fun j13 =>
  AR v9
   ((HO N v2.1 (([(Ag.mk (([0] : List Int)) (([(-1)] : List Int)) (([0] : List Int)))] : List Ag))).bind fun v15 =>
   AR v15
    ((Cp N).bind fun v17 =>
    (GX N v17 v2.1).bind fun v18 =>
    AR v18
     ((Cp N).bind fun v20 =>
     (GX N v20 (([] : List Ag))).bind fun v21 =>
     AR ((!v21))
      ((Cp N).bind fun v23 =>
      (GX N v23 (([(Ag.mk (([0] : List Int)) (([(-1)] : List Int)) (([0] : List Int))), (Ag.mk (([1] : List Int)) (([(-1)] : List Int)) (([0] : List Int)))] : List Ag))).bind fun v24 =>
      j13 (!v24))
      (j13 false))
     (j13 false))
    (j13 false))
   (j13 false))
 fun j9 =>
 AR ((v2.2 == 0))
  (AR ((v4.2 == 0))
   (AR ((v6.2 == 0))
    (j9 (v8.2.2 == 0))
    (j9 false))
   (j9 false))
  (j9 false)
def Er (_ : Nat) (p0 : List Int) (p1 : Int) : Option Int :=
 AR ((decide (p1 < (p0.length : Int))))
  ((Ba p0 p1).bind fun v2 =>
  some ((IntKind.wrap .i64 v2)))
  (some 0)
def B4 (_ : Nat) (p0 : Ag) (p1 : Int) : Option Int :=
 (Ba p0.fBase p1).bind fun v1 =>
 (E7 (0 ≤ v1)).bind fun _ =>
 Bf (fun (v3 : Int) =>
  some v3)
 fun j3 =>
 (Ba p0.fNext p1).bind fun v4 =>
 AR ((decide (0 ≤ v4)))
  ((Ba p0.fNext p1).bind fun v6 =>
  (E7 (0 ≤ v6)).bind fun _ =>
  j3 (M5 .u8 ((Dy .u8 1 v1)) ((Dy .u8 1 v6))))
  (j3 (Dy .u8 1 v1))
def DF (N : Nat) (p0 : Ak) (p1 : Ce) (j1 : ((List Int) × (List Int)) → Option Ag) : Nat → ((List Int) × (List Int) × Int) → Option Ag
 | 0, _ => none
 | n1 + 1, v1 =>
  AR ((decide (v1.2.2 < (p0.fVersions.length : Int))))
   ((Ba p0.fVersions v1.2.2).bind fun v4 =>
   (Er N p1.fBase v1.2.2).bind fun v5 =>
   (E7 (v4 ≠ 0)).bind fun _ =>
   Bf (fun (v7 : Int) =>
    (E7 (v1.1.length + (([(Int.tmod v5 v4)] : List Int)).length ≤ E8)).bind fun _ =>
    (E7 (v1.2.1.length + (([v7] : List Int)).length ≤ E8)).bind fun _ =>
    DF N p0 p1 j1 n1 (v1.1 ++ (([(Int.tmod v5 v4)] : List Int)), v1.2.1 ++ (([v7] : List Int)), (IntKind.wrap .i64 (v1.2.2 + 1))))
   fun j7 =>
   (Er N p1.fNext v1.2.2).bind fun v8 =>
   (E7 (v4 ≠ 0)).bind fun _ =>
   AR ((decide (0 < (Int.tmod v8 v4))))
    ((E7 (v4 ≠ 0)).bind fun _ =>
    j7 (Int.tmod ((IntKind.wrap .i64 ((Int.tmod v5 v4) + (Int.tmod v8 v4)))) v4))
    (j7 (-1)))
   (j1 (v1.1, v1.2.1))
def BC (N : Nat) (p0 : Ak) (p1 : Ce) (v2 : (List Int) × (List Int)) (j14 : ((List Int)) → Option Ag) : Nat → ((List Int) × Int) → Option Ag
 | 0, _ => none
 | n14 + 1, v14 =>
  AR ((decide (v14.2 < (p0.fTables.length : Int))))
   ((Ba p0.fTables v14.2).bind fun v17 =>
   Bf (fun (v18 : Int) =>
    (E7 (v14.1.length + (([v18] : List Int)).length ≤ E8)).bind fun _ =>
    BC N p0 p1 v2 j14 n14 (v14.1 ++ (([v18] : List Int)), (IntKind.wrap .i64 (v14.2 + 1))))
   fun j18 =>
   (Bn N v17).bind fun v19 =>
   AR v19
    ((Ba p0.fVersions v17.fFrom).bind fun v21 =>
    (E7 (0 ≤ v21)).bind fun _ =>
    (B4 N ((Ag.mk v2.1 v2.2 v14.1)) v17.fFrom).bind fun v23 =>
    (Er N p1.fHeld v14.2).bind fun v24 =>
    j18 (M5 .u8 v23 ((F4 .u8 ((IntKind.wrap .u8 v24)) ((IntKind.wrap .u8 ((Dy .u8 1 v21) - 1)))))))
    (j18 0))
   (j14 v14.1)
def FC (N : Nat) (p0 : Ak) (p1 : Ce) : Option Ag :=
 DF N p0 p1 (fun (v2 : (List Int) × (List Int)) =>
  BC N p0 p1 v2 (fun (v15 : (List Int)) =>
   some ((Ag.mk v2.1 v2.2 v15))) N (([] : List Int), 0)) N (([] : List Int), ([] : List Int), 0)
def Df (N : Nat) (p0 : List (List Bool)) (p1 : Int) (p2 : Int) (j2 : Unit → Option Bool) : Nat → Int → Option Bool
 | 0, _ => none
 | n2 + 1, v2 =>
  AR ((decide (v2 < p1)))
   ((Ba p0 v2).bind fun v5 =>
   AR (((v5.length : Int) != p2))
    (some false)
    (Df N p0 p1 p2 j2 n2 (IntKind.wrap .i64 (v2 + 1))))
   (j2 ())
def Ey (N : Nat) (p0 : List (List Bool)) (p1 : Int) (p2 : Int) : Option Bool :=
 AR (((p0.length : Int) != p1))
  (some false)
  (Df N p0 p1 p2 (fun (_ : Unit) =>
   some true) N 0)
def Cu (N : Nat) (p1 : AO) (j22 : Unit → Option Int) : Nat → Int → Option Int
 | 0, _ => none
 | n22 + 1, v22 =>
  AR ((decide (v22 < (p1.fRewrite.length : Int))))
   ((Ba p1.fRewrite v22).bind fun v25 =>
   (Ba v25 v22).bind fun v26 =>
   AR ((!v26))
    (some 1)
    (Cu N p1 j22 n22 (IntKind.wrap .i64 (v22 + 1))))
   (j22 ())
def Fn (N : Nat) (p0 : Ak) (p1 : AO) : Option Int :=
 Bf (fun (v1 : Bool) =>
  AR v1
   (some 1)
   (Bf (fun (v7 : Bool) =>
    AR v7
     (some 4)
     ((Ba p0.fVersions p1.fFrom).bind fun v12 =>
     (Ba p0.fVersions p1.fTo).bind fun v13 =>
     (Ey N p1.fOK v12 v13).bind fun v14 =>
     AR ((!v14))
      (some 6)
      (AR ((p1.fKind != 4))
       (AR (((p1.fRewrite.length : Int) != 0))
        (some 6)
        (some 0))
       ((Ba p0.fVersions p1.fFrom).bind fun v18 =>
       (Ba p0.fVersions p1.fFrom).bind fun v19 =>
       (Ey N p1.fRewrite v18 v19).bind fun v20 =>
       AR ((!v20))
        (some 6)
        (Cu N p1 (fun (_ : Unit) =>
         some 0) N 0)))))
   fun j7 =>
   AR ((decide (p1.fFrom < 0)))
    (j7 true)
    (AR ((decide ((p0.fVersions.length : Int) ≤ p1.fFrom)))
     (j7 true)
     (AR ((decide (p1.fTo < 0)))
      (j7 true)
      (j7 (decide ((p0.fVersions.length : Int) ≤ p1.fTo)))))))
 fun j1 =>
 AR ((decide (p1.fKind < 1)))
  (j1 true)
  (AR ((decide (4 < p1.fKind)))
   (j1 true)
   (AR p1.fAware
    ((Bn N p1).bind fun v5 =>
    j1 v5)
    (j1 false)))
def Bz (N : Nat) (p0 : Ak) (j7 : Unit → Option Int) : Nat → Int → Option Int
 | 0, _ => none
 | n7 + 1, v7 =>
  AR ((decide (v7 < (p0.fVersions.length : Int))))
   ((Ba p0.fVersions v7).bind fun v10 =>
   Bf (fun (v11 : Bool) =>
    AR v11
     (some 7)
     (Bz N p0 j7 n7 (IntKind.wrap .i64 (v7 + 1))))
   fun j11 =>
   AR ((decide (v10 < 1)))
    (j11 true)
    (AR ((decide (6 < v10)))
     (j11 true)
     ((Ba p0.fNow v7).bind fun v14 =>
     AR ((decide (v14 < 0)))
      (j11 true)
      ((Ba p0.fNow v7).bind fun v16 =>
      AR ((decide (v10 ≤ v16)))
       (j11 true)
       ((Ba p0.fTarget v7).bind fun v18 =>
       AR ((decide (v18 < 0)))
        (j11 true)
        ((Ba p0.fTarget v7).bind fun v20 =>
        j11 (decide (v10 ≤ v20))))))))
   (j7 ())
def Bs (N : Nat) (p0 : Ak) (j22 : Unit → Option Int) : Nat → Int → Option Int
 | 0, _ => none
 | n22 + 1, v22 =>
  AR ((decide (v22 < (p0.fTables.length : Int))))
   ((Ba p0.fTables v22).bind fun v25 =>
   (Fn N p0 v25).bind fun v26 =>
   AR ((v26 != 0))
    (some v26)
    (Bs N p0 j22 n22 (IntKind.wrap .i64 (v22 + 1))))
   (j22 ())
def Dg (N : Nat) (p0 : Ak) : Option Int :=
 Bf (fun (v1 : Bool) =>
  AR v1
   (some 3)
   (Bf (fun (v4 : Bool) =>
    AR v4
     (some 6)
     (Bz N p0 (fun (_ : Unit) =>
      Bs N p0 (fun (_ : Unit) =>
       some 0) N 0) N 0))
   fun j4 =>
   AR (((p0.fNow.length : Int) != (p0.fVersions.length : Int)))
    (j4 true)
    (j4 ((p0.fTarget.length : Int) != (p0.fVersions.length : Int)))))
 fun j1 =>
 AR ((decide (6 < (p0.fVersions.length : Int))))
  (j1 true)
  (j1 (decide (12 < (p0.fTables.length : Int))))
def CS (N : Nat) (p0 : Ak) (p1 : Ag) (j7 : Unit → Option Int) : Nat → Int → Option Int
 | 0, _ => none
 | n7 + 1, v7 =>
  AR ((decide (v7 < (p0.fVersions.length : Int))))
   (Bf (fun (v10 : Bool) =>
    AR v10
     (some 7)
     ((Ba p1.fBase v7).bind fun v21 =>
     (Ba p1.fNext v7).bind fun v22 =>
     AR ((v21 == v22))
      (some 1)
      (CS N p0 p1 j7 n7 (IntKind.wrap .i64 (v7 + 1)))))
   fun j10 =>
   (Ba p1.fBase v7).bind fun v11 =>
   AR ((decide (v11 < 0)))
    (j10 true)
    ((Ba p1.fBase v7).bind fun v13 =>
    (Ba p0.fVersions v7).bind fun v14 =>
    AR ((decide (v14 ≤ v13)))
     (j10 true)
     ((Ba p1.fNext v7).bind fun v16 =>
     AR ((decide (v16 < (-1))))
      (j10 true)
      ((Ba p1.fNext v7).bind fun v18 =>
      (Ba p0.fVersions v7).bind fun v19 =>
      j10 (decide (v19 ≤ v18))))))
   (j7 ())
def Cx (N : Nat) (p0 : Ak) (p1 : Ag) (j24 : Unit → Option Int) : Nat → Int → Option Int
 | 0, _ => none
 | n24 + 1, v24 =>
  AR ((decide (v24 < (p0.fTables.length : Int))))
   ((Ba p0.fTables v24).bind fun v27 =>
   (Ba p0.fVersions v27.fFrom).bind fun v28 =>
   (E7 (0 ≤ v28)).bind fun _ =>
   Bf (fun (v30 : Bool) =>
    AR v30
     (some 1)
     (Cx N p0 p1 j24 n24 (IntKind.wrap .i64 (v24 + 1))))
   fun j30 =>
   (Bn N v27).bind fun v31 =>
   AR ((!v31))
    ((Ba p1.fHeld v24).bind fun v33 =>
    AR ((v33 != 0))
     (j30 true)
     ((Bn N v27).bind fun v35 =>
     AR v35
      ((Ba p1.fHeld v24).bind fun v37 =>
      AR (((Eh .u8 v37 ((IntKind.wrap .u8 ((Dy .u8 1 v28) - 1)))) != 0))
       (j30 true)
       ((B4 N p1 v27.fFrom).bind fun v39 =>
       (Ba p1.fHeld v24).bind fun v40 =>
       j30 ((Eh .u8 v39 v40) != 0)))
      (j30 false)))
    ((Bn N v27).bind fun v41 =>
    AR v41
     ((Ba p1.fHeld v24).bind fun v43 =>
     AR (((Eh .u8 v43 ((IntKind.wrap .u8 ((Dy .u8 1 v28) - 1)))) != 0))
      (j30 true)
      ((B4 N p1 v27.fFrom).bind fun v45 =>
      (Ba p1.fHeld v24).bind fun v46 =>
      j30 ((Eh .u8 v45 v46) != 0)))
     (j30 false)))
   (j24 ())
def D7 (N : Nat) (p0 : Ak) (p1 : Ag) : Option Int :=
 (Dg N p0).bind fun v1 =>
 AR ((v1 != 0))
  (some v1)
  (Bf (fun (v3 : Bool) =>
   AR v3
    (some 6)
    (CS N p0 p1 (fun (_ : Unit) =>
     Cx N p0 p1 (fun (_ : Unit) =>
      some 0) N 0) N 0))
  fun j3 =>
  AR (((p1.fBase.length : Int) != (p0.fVersions.length : Int)))
   (j3 true)
   (AR (((p1.fNext.length : Int) != (p0.fVersions.length : Int)))
    (j3 true)
    (j3 ((p1.fHeld.length : Int) != (p0.fTables.length : Int)))))
def CR (N : Nat) (p0 : Ak) (p1 : List Ag) (j3 : Unit → Option Int) : Nat → Int → Option Int
 | 0, _ => none
 | n3 + 1, v3 =>
  AR ((decide (v3 < (p1.length : Int))))
   ((Ba p1 v3).bind fun v6 =>
   (D7 N p0 v6).bind fun v7 =>
   AR ((v7 != 0))
    (some v7)
    (CR N p0 p1 j3 n3 (IntKind.wrap .i64 (v3 + 1))))
   (j3 ())
def Fz (N : Nat) (p0 : Ak) (p1 : List Ag) : Option Int :=
 (Dg N p0).bind fun v1 =>
 AR ((v1 != 0))
  (some v1)
  (CR N p0 p1 (fun (_ : Unit) =>
   some 0) N 0)
def Fo (_ : Nat) (p0 : Av) : Option Bool :=
 Bf (fun (v1 : Bool) =>
  some v1)
 fun j1 =>
 AR ((decide (1 ≤ p0.fKind)))
  (AR ((decide (p0.fKind ≤ 4)))
   (AR ((decide (0 ≤ p0.fIndex)))
    (AR ((decide (0 ≤ p0.fVersion)))
     (AR ((p0.fKind == 1))
      (j1 true)
      (j1 (p0.fVersion == 0)))
     (j1 false))
    (j1 false))
   (j1 false))
  (j1 false)
def De (_ : Nat) (p0 : Int) (p1 : Int) : Option Bool :=
 (E7 (0 ≤ p1)).bind fun _ =>
 some (((F4 .u8 ((Fa .u8 p0 p1)) 1) == 1))
def Cw (N : Nat) (p0 : Ak) (p2 : Av) (j12 : ((List Int)) → Option (Ag × Bool)) : Nat → ((List Int) × Int) → Option (Ag × Bool)
 | 0, _ => none
 | n12 + 1, v12 =>
  AR ((decide (v12.2 < (p0.fTables.length : Int))))
   (Bf (fun (v15 : (List Int)) =>
    Cw N p0 p2 j12 n12 (v15, (IntKind.wrap .i64 (v12.2 + 1))))
   fun j15 =>
   Bf (fun (v16 : Bool) =>
    AR v16
     ((Ba v12.1 v12.2).bind fun v22 =>
     (E7 (0 ≤ p2.fVersion)).bind fun _ =>
     (Ba v12.1 v12.2).bind fun _ =>
     j15 (v12.1.set ((v12.2).toNat) ((M5 .u8 v22 ((Dy .u8 1 p2.fVersion))))))
     (j15 v12.1))
   fun j16 =>
   (Ba p0.fTables v12.2).bind fun v17 =>
   AR ((v17.fFrom == p2.fIndex))
    ((Ba p0.fTables v12.2).bind fun v19 =>
    (Bn N v19).bind fun v20 =>
    j16 v20)
    (j16 false))
   (j12 v12.1)
def B7 (N : Nat) (p0 : Ak) (p1 : Ag) (p2 : Av) (v32 : AO) (v35 : Int) (j38 : Unit → Option (Ag × Bool)) : Nat → Int → Option (Ag × Bool)
 | 0, _ => none
 | n38 + 1, v38 =>
  (Ba p0.fVersions v32.fFrom).bind fun v40 =>
  AR ((decide (v38 < v40)))
   (Bf (fun (v42 : Bool) =>
    Bf (fun (v47 : Bool) =>
     AR v47
      (some ((Ag.mk (([] : List Int)) (([] : List Int)) (([] : List Int))), false))
      (B7 N p0 p1 p2 v32 v35 j38 n38 (IntKind.wrap .i64 (v38 + 1))))
    fun j47 =>
    AR v42
     (AR ((v32.fKind == 4))
      ((Ba v32.fRewrite v38).bind fun v50 =>
      (Ba p1.fBase v32.fFrom).bind fun v51 =>
      (Ba v50 v51).bind fun v52 =>
      j47 (!v52))
      (j47 false))
     (j47 false))
   fun j42 =>
   (Ba p1.fHeld p2.fIndex).bind fun v43 =>
   (De N v43 v38).bind fun v44 =>
   AR v44
    ((De N v35 v38).bind fun v46 =>
    j42 (!v46))
    (j42 false))
   (j38 ())
def DI (N : Nat) (p0 : Ak) (p1 : Ag) (p2 : Av) : Option (Ag × Bool) :=
 (E7 ((([] : List Int)).length + p1.fBase.length ≤ E8)).bind fun _ =>
 (E7 ((([] : List Int)).length + p1.fNext.length ≤ E8)).bind fun _ =>
 (E7 ((([] : List Int)).length + p1.fHeld.length ≤ E8)).bind fun _ =>
 Bf (fun (v4 : (List Int) × (List Int) × (List Int)) =>
  some ((Ag.mk v4.1 v4.2.1 v4.2.2), true))
 fun j4 =>
 AR ((p2.fKind == 1))
  (Bf (fun (v6 : Bool) =>
   AR v6
    (some ((Ag.mk (([] : List Int)) (([] : List Int)) (([] : List Int))), false))
    ((Ba ((([] : List Int)) ++ p1.fNext) p2.fIndex).bind fun _ =>
    Cw N p0 p2 (fun (v13 : (List Int)) =>
     j4 ((([] : List Int)) ++ p1.fBase, ((([] : List Int)) ++ p1.fNext).set ((p2.fIndex).toNat) p2.fVersion, v13)) N ((([] : List Int)) ++ p1.fHeld, 0)))
  fun j6 =>
  (Ba p1.fNext p2.fIndex).bind fun v7 =>
  AR ((decide (0 ≤ v7)))
   (j6 true)
   ((Ba p1.fBase p2.fIndex).bind fun v9 =>
   j6 (p2.fVersion == v9)))
  (AR ((p2.fKind == 2))
   ((Ba p1.fNext p2.fIndex).bind fun v26 =>
   AR ((decide (v26 < 0)))
    (some ((Ag.mk (([] : List Int)) (([] : List Int)) (([] : List Int))), false))
    ((Ba p1.fNext p2.fIndex).bind fun v28 =>
    (Ba ((([] : List Int)) ++ p1.fBase) p2.fIndex).bind fun _ =>
    (Ba ((([] : List Int)) ++ p1.fNext) p2.fIndex).bind fun _ =>
    j4 (((([] : List Int)) ++ p1.fBase).set ((p2.fIndex).toNat) v28, ((([] : List Int)) ++ p1.fNext).set ((p2.fIndex).toNat) ((-1)), (([] : List Int)) ++ p1.fHeld)))
   (AR ((p2.fKind == 3))
    ((Ba p0.fTables p2.fIndex).bind fun v32 =>
    (Bn N v32).bind fun v33 =>
    AR ((!v33))
     (some ((Ag.mk (([] : List Int)) (([] : List Int)) (([] : List Int))), false))
     ((B4 N p1 v32.fFrom).bind fun v35 =>
     (Ba p1.fHeld p2.fIndex).bind fun v36 =>
     AR ((v36 == v35))
      (some ((Ag.mk (([] : List Int)) (([] : List Int)) (([] : List Int))), false))
      (B7 N p0 p1 p2 v32 v35 (fun (_ : Unit) =>
       (Ba ((([] : List Int)) ++ p1.fHeld) p2.fIndex).bind fun _ =>
       j4 ((([] : List Int)) ++ p1.fBase, (([] : List Int)) ++ p1.fNext, ((([] : List Int)) ++ p1.fHeld).set ((p2.fIndex).toNat) v35)) N 0)))
    ((Ba p1.fNext p2.fIndex).bind fun v55 =>
    AR ((decide (v55 < 0)))
     (some ((Ag.mk (([] : List Int)) (([] : List Int)) (([] : List Int))), false))
     ((Ba ((([] : List Int)) ++ p1.fNext) p2.fIndex).bind fun _ =>
     j4 ((([] : List Int)) ++ p1.fBase, ((([] : List Int)) ++ p1.fNext).set ((p2.fIndex).toNat) ((-1)), (([] : List Int)) ++ p1.fHeld)))))
def Fm (N : Nat) (p0 : Ak) (p1 : Ag) (p2 : Av) : Option (Ag × Int) :=
 (D7 N p0 p1).bind fun v1 =>
 AR ((v1 != 0))
  (some ((Ag.mk (([] : List Int)) (([] : List Int)) (([] : List Int))), v1))
  ((Fo N p2).bind fun v3 =>
  AR ((!v3))
   (some ((Ag.mk (([] : List Int)) (([] : List Int)) (([] : List Int))), 1))
   (Bf (fun (v5 : Bool) =>
    AR v5
     (some ((Ag.mk (([] : List Int)) (([] : List Int)) (([] : List Int))), 4))
     (Bf (fun (v11 : Bool) =>
      AR v11
       (some ((Ag.mk (([] : List Int)) (([] : List Int)) (([] : List Int))), 4))
       ((DI N p0 p1 p2).bind fun v15 =>
       AR ((!v15.2))
        (some ((Ag.mk (([] : List Int)) (([] : List Int)) (([] : List Int))), 11))
        (some (v15.1, 0))))
     fun j11 =>
     AR ((p2.fKind == 1))
      ((Ba p0.fVersions p2.fIndex).bind fun v13 =>
      j11 (decide (v13 ≤ p2.fVersion)))
      (j11 false)))
   fun j5 =>
   AR ((p2.fKind == 3))
    (AR ((decide ((p0.fTables.length : Int) ≤ p2.fIndex)))
     (j5 true)
     (AR ((p2.fKind != 3))
      (j5 (decide ((p0.fVersions.length : Int) ≤ p2.fIndex)))
      (j5 false)))
    (AR ((p2.fKind != 3))
     (j5 (decide ((p0.fVersions.length : Int) ≤ p2.fIndex)))
     (j5 false))))
def CP (N : Nat) (p0 : Ak) (p1 : Ag) (v1 : (List Av) × Int) (v4 : (List Av) × Int) (j7 : ((List Av)) → Option ((List Av))) : Nat → ((List Av) × Int) → Option ((List Av))
 | 0, _ => none
 | n7 + 1, v7 =>
  AR ((decide (v7.2 < 6)))
   (Bf (fun (v10 : (List Av)) =>
    CP N p0 p1 v1 v4 j7 n7 (v10, (IntKind.wrap .i64 (v7.2 + 1))))
   fun j10 =>
   (Fm N p0 p1 ((Av.mk v1.2 v4.2 v7.2))).bind fun v11 =>
   AR ((v11.2 == 0))
    ((E7 (v7.1.length + (([(Av.mk v1.2 v4.2 v7.2)] : List Av)).length ≤ E8)).bind fun _ =>
    j10 (v7.1 ++ (([(Av.mk v1.2 v4.2 v7.2)] : List Av))))
    (j10 v7.1))
   (j7 v7.1)
def CO (N : Nat) (p0 : Ak) (p1 : Ag) (v1 : (List Av) × Int) (j4 : ((List Av)) → Option ((List Av))) : Nat → ((List Av) × Int) → Option ((List Av))
 | 0, _ => none
 | n4 + 1, v4 =>
  AR ((decide (v4.2 < (Td ((p0.fVersions.length : Int)) ((p0.fTables.length : Int))))))
   (CP N p0 p1 v1 v4 (fun (v8 : (List Av)) =>
    CO N p0 p1 v1 j4 n4 (v8, (IntKind.wrap .i64 (v4.2 + 1)))) N (v4.1, 0))
   (j4 v4.1)
def BP (N : Nat) (p0 : Ak) (p1 : Ag) (j1 : ((List Av)) → Option ((List Av))) : Nat → ((List Av) × Int) → Option ((List Av))
 | 0, _ => none
 | n1 + 1, v1 =>
  AR ((decide (v1.2 ≤ 3)))
   (CO N p0 p1 v1 (fun (v5 : (List Av)) =>
    BP N p0 p1 j1 n1 (v5, (IntKind.wrap .i64 (v1.2 + 1)))) N (v1.1, 0))
   (j1 v1.1)
def Fx (N : Nat) (p0 : Ak) (p1 : Ag) : Option ((List Av)) :=
 BP N p0 p1 (fun (v2 : (List Av)) =>
  some v2) N (([] : List Av), 1)
def Fc (_ : Nat) (p0 : Ag) : Option Ag :=
 (E7 ((([] : List Int)).length + p0.fBase.length ≤ E8)).bind fun _ =>
 (E7 ((([] : List Int)).length + p0.fNext.length ≤ E8)).bind fun _ =>
 (E7 ((([] : List Int)).length + p0.fHeld.length ≤ E8)).bind fun _ =>
 some ((Ag.mk ((([] : List Int)) ++ p0.fBase) ((([] : List Int)) ++ p0.fNext) ((([] : List Int)) ++ p0.fHeld)))
def Dk (N : Nat) (p0 : Ag) (j1 : Int → Option ((List Ag))) : Nat → (Int × Int) → Option ((List Ag))
 | 0, _ => none
 | n1 + 1, v1 =>
  AR ((decide (v1.2 < (p0.fNext.length : Int))))
   (Bf (fun (v4 : Int) =>
    Dk N p0 j1 n1 (v4, (IntKind.wrap .i64 (v1.2 + 1))))
   fun j4 =>
   (Ba p0.fNext v1.2).bind fun v5 =>
   AR ((decide (0 ≤ v5)))
    (j4 (IntKind.wrap .i64 (v1.1 + 1)))
    (j4 v1.1))
   (j1 v1.1)
def Co (N : Nat) (p0 : Ag) (v7 : (List Ag) × Int) (j12 : ((List Int)) → Option ((List Ag))) : Nat → ((List Int) × Int × Int) → Option ((List Ag))
 | 0, _ => none
 | n12 + 1, v12 =>
  AR ((decide (v12.2.2 < (p0.fNext.length : Int))))
   (Bf (fun (v15 : (List Int) × Int) =>
    Co N p0 v7 j12 n12 (v15.1, v15.2, (IntKind.wrap .i64 (v12.2.2 + 1))))
   fun j15 =>
   (Ba p0.fNext v12.2.2).bind fun v16 =>
   AR ((decide (v16 < 0)))
    (j15 (v12.1, v12.2.1))
    (Bf (fun (v18 : (List Int)) =>
     j15 (v18, (IntKind.wrap .i64 (v12.2.1 + 1))))
    fun j18 =>
    (E7 (0 ≤ v12.2.1)).bind fun _ =>
    AR (((Int.tmod ((Fa .i64 v7.2 v12.2.1)) 2) == 1))
     ((Ba v12.1 v12.2.2).bind fun _ =>
     j18 (v12.1.set ((v12.2.2).toNat) ((-1))))
     (j18 v12.1)))
   (j12 v12.1)
def BW (N : Nat) (p0 : Ag) (v2 : Int) (j7 : ((List Ag)) → Option ((List Ag))) : Nat → ((List Ag) × Int) → Option ((List Ag))
 | 0, _ => none
 | n7 + 1, v7 =>
  (E7 (0 ≤ v2)).bind fun _ =>
  AR ((decide (v7.2 < (Dy .i64 1 v2))))
   ((Fc N p0).bind fun v11 =>
   Co N p0 v7 (fun (v13 : (List Int)) =>
    (E7 (v7.1.length + (([(Ag.mk v11.fBase v13 v11.fHeld)] : List Ag)).length ≤ E8)).bind fun _ =>
    BW N p0 v2 j7 n7 (v7.1 ++ (([(Ag.mk v11.fBase v13 v11.fHeld)] : List Ag)), (IntKind.wrap .i64 (v7.2 + 1)))) N (v11.fNext, 0, 0))
   (j7 v7.1)
def Fg (N : Nat) (p0 : Ag) : Option ((List Ag)) :=
 Dk N p0 (fun (v2 : Int) =>
  BW N p0 v2 (fun (v8 : (List Ag)) =>
   some v8) N (([] : List Ag), 0)) N (0, 0)
def F1 (N : Nat) (p0 : Ak) (p1 : Ag) : Option ((List Ag) × Int) :=
 (D7 N p0 p1).bind fun v1 =>
 AR ((v1 != 0))
  (some (([] : List Ag), v1))
  ((Fg N p1).bind fun v3 =>
  some (v3, 0))
def BE (N : Nat) (p0 : Ak) (p1 : Ag) (v1 : (List Af) × Int) (v4 : AO) (v10 : (List Af) × Int) (j17 : ((List Af) × Bool) → Option ((List Af))) : Nat → ((List Af) × Bool × Int) → Option ((List Af))
 | 0, _ => none
 | n17 + 1, v17 =>
  (Ba p0.fVersions v4.fTo).bind fun v19 =>
  AR ((decide (v17.2.2 < v19)))
   (Bf (fun (v21 : (List Af) × Bool) =>
    BE N p0 p1 v1 v4 v10 j17 n17 (v21.1, v21.2, (IntKind.wrap .i64 (v17.2.2 + 1))))
   fun j21 =>
   (B4 N p1 v4.fTo).bind fun v22 =>
   (De N v22 v17.2.2).bind fun v23 =>
   AR ((!v23))
    (j21 (v17.1, v17.2.1))
    (Bf (fun (v25 : Bool) =>
     Bf (fun (v29 : Bool) =>
      AR v29
       ((E7 (v17.1.length + (([(Af.mk v1.2 v10.2 v17.2.2)] : List Af)).length ≤ E8)).bind fun _ =>
       j21 (v17.1 ++ (([(Af.mk v1.2 v10.2 v17.2.2)] : List Af)), v25))
       (j21 (v17.1, v25)))
     fun j29 =>
     AR ((!v4.fAware))
      ((Ba v4.fOK v10.2).bind fun v31 =>
      (Ba v31 v17.2.2).bind fun v32 =>
      j29 (!v32))
      (j29 false))
    fun j25 =>
    AR v17.2.1
     (j25 true)
     ((Ba v4.fOK v10.2).bind fun v27 =>
     (Ba v27 v17.2.2).bind fun v28 =>
     j25 v28)))
   (j17 (v17.1, v17.2.1))
def B3 (N : Nat) (p0 : Ak) (p1 : Ag) (v1 : (List Af) × Int) (v4 : AO) (v6 : Int) (j10 : ((List Af)) → Option ((List Af))) : Nat → ((List Af) × Int) → Option ((List Af))
 | 0, _ => none
 | n10 + 1, v10 =>
  (Ba p0.fVersions v4.fFrom).bind fun v12 =>
  AR ((decide (v10.2 < v12)))
   (Bf (fun (v14 : (List Af)) =>
    B3 N p0 p1 v1 v4 v6 j10 n10 (v14, (IntKind.wrap .i64 (v10.2 + 1))))
   fun j14 =>
   (De N v6 v10.2).bind fun v15 =>
   AR ((!v15))
    (j14 v10.1)
    (BE N p0 p1 v1 v4 v10 (fun (v18 : (List Af) × Bool) =>
     Bf (fun (v35 : Bool) =>
      AR v35
       ((E7 (v18.1.length + (([(Af.mk v1.2 v10.2 ((-1)))] : List Af)).length ≤ E8)).bind fun _ =>
       j14 (v18.1 ++ (([(Af.mk v1.2 v10.2 ((-1)))] : List Af))))
       (j14 v18.1))
     fun j35 =>
     AR v4.fAware
      (j35 (!v18.2))
      (j35 false)) N (v10.1, false, 0)))
   (j10 v10.1)
def Du (N : Nat) (p0 : Ak) (p1 : Ag) (j1 : ((List Af)) → Option ((List Af))) : Nat → ((List Af) × Int) → Option ((List Af))
 | 0, _ => none
 | n1 + 1, v1 =>
  AR ((decide (v1.2 < (p0.fTables.length : Int))))
   ((Ba p0.fTables v1.2).bind fun v4 =>
   (B4 N p1 v4.fFrom).bind fun v5 =>
   Bf (fun (v6 : Int) =>
    B3 N p0 p1 v1 v4 v6 (fun (v11 : (List Af)) =>
     Du N p0 p1 j1 n1 (v11, (IntKind.wrap .i64 (v1.2 + 1)))) N (v1.1, 0))
   fun j6 =>
   (Bn N v4).bind fun v7 =>
   AR v7
    ((Ba p1.fHeld v1.2).bind fun v9 =>
    j6 v9)
    (j6 v5))
   (j1 v1.1)
def Fy (N : Nat) (p0 : Ak) (p1 : Ag) : Option ((List Af)) :=
 Du N p0 p1 (fun (v2 : (List Af)) =>
  some v2) N (([] : List Af), 0)
def Dw (N : Nat) (p0 : Ak) (v1 : (List Ag) × Int) (j3 : Unit → Option (Ag × Af × Int)) : Nat → Int → Option (Ag × Af × Int)
 | 0, _ => none
 | n3 + 1, v3 =>
  AR ((decide (v3 < (v1.1.length : Int))))
   ((Ba v1.1 v3).bind fun v6 =>
   (Fy N p0 v6).bind fun v7 =>
   AR ((decide (0 < (v7.length : Int))))
    ((Ba v1.1 v3).bind fun v9 =>
    (Ba v7 0).bind fun v10 =>
    some (v9, v10, 0))
    (Dw N p0 v1 j3 n3 (IntKind.wrap .i64 (v3 + 1))))
   (j3 ())
def Fr (N : Nat) (p0 : Ak) (p1 : Ag) : Option (Ag × Af × Int) :=
 (F1 N p0 p1).bind fun v1 =>
 AR ((v1.2 != 0))
  (some ((Ag.mk (([] : List Int)) (([] : List Int)) (([] : List Int))), (Af.mk 0 0 0), v1.2))
  (Dw N p0 v1 (fun (_ : Unit) =>
   some ((Ag.mk (([] : List Int)) (([] : List Int)) (([] : List Int))), (Af.mk 0 0 0), 15)) N 0)
def Cy (N : Nat) (p0 : Ak) (p1 : Ag) (v1 : (List Av)) (j2 : ((List A7)) → Option ((List A7))) : Nat → ((List A7) × Int) → Option ((List A7))
 | 0, _ => none
 | n2 + 1, v2 =>
  AR ((decide (v2.2 < (v1.length : Int))))
   (Bf (fun (v5 : (List A7)) =>
    Cy N p0 p1 v1 j2 n2 (v5, (IntKind.wrap .i64 (v2.2 + 1))))
   fun j5 =>
   (Ba v1 v2.2).bind fun v6 =>
   (DI N p0 p1 v6).bind fun v7 =>
   (Fr N p0 v7.1).bind fun v8 =>
   AR ((v8.2.2 == 0))
    ((Ba v1 v2.2).bind fun v10 =>
    (E7 (v2.1.length + (([(A7.mk v10 v8.1 v8.2.1)] : List A7)).length ≤ E8)).bind fun _ =>
    j5 (v2.1 ++ (([(A7.mk v10 v8.1 v8.2.1)] : List A7))))
    (j5 v2.1))
   (j2 v2.1)
def E9 (N : Nat) (p0 : Ak) (p1 : Ag) : Option ((List A7)) :=
 (Fx N p0 p1).bind fun v1 =>
 Cy N p0 p1 v1 (fun (v3 : (List A7)) =>
  some v3) N (([] : List A7), 0)
def CA (N : Nat) (p0 : Ak) (p1 : List Ag) (j3 : ((List A7)) → Option ((List A7) × Int)) : Nat → ((List A7) × Int) → Option ((List A7) × Int)
 | 0, _ => none
 | n3 + 1, v3 =>
  AR ((decide (v3.2 < (p1.length : Int))))
   ((Ba p1 v3.2).bind fun v6 =>
   (E9 N p0 v6).bind fun v7 =>
   (E7 (v3.1.length + v7.length ≤ E8)).bind fun _ =>
   CA N p0 p1 j3 n3 (v3.1 ++ v7, (IntKind.wrap .i64 (v3.2 + 1))))
   (j3 v3.1)
def Fb (N : Nat) (p0 : Ak) (p1 : List Ag) : Option ((List A7) × Int) :=
 (Fz N p0 p1).bind fun v1 =>
 AR ((v1 != 0))
  (some (([] : List A7), v1))
  (CA N p0 p1 (fun (v4 : (List A7)) =>
   some (v4, 0)) N (([] : List A7), 0))
def C5 (N : Nat) (p0 : List A7) (p1 : List A7) (j2 : Unit → Option Bool) : Nat → Int → Option Bool
 | 0, _ => none
 | n2 + 1, v2 =>
  AR ((decide (v2 < (p0.length : Int))))
   (Bf (fun (v5 : Bool) =>
    AR v5
     (some false)
     (C5 N p0 p1 j2 n2 (IntKind.wrap .i64 (v2 + 1))))
   fun j5 =>
   (Ba p0 v2).bind fun v6 =>
   (Ba p1 v2).bind fun v7 =>
   AR ((!((v6.fStep.fKind == v7.fStep.fKind) && ((v6.fStep.fIndex == v7.fStep.fIndex) && ((v6.fStep.fVersion == v7.fStep.fVersion) && true)))))
    (j5 true)
    ((Ba p0 v2).bind fun v9 =>
    (Ba p1 v2).bind fun v10 =>
    AR ((!((v9.fConflict.fTable == v10.fConflict.fTable) && ((v9.fConflict.fWriter == v10.fConflict.fWriter) && ((v9.fConflict.fReader == v10.fConflict.fReader) && true)))))
     (j5 true)
     ((Ba p0 v2).bind fun v12 =>
     (Ba p1 v2).bind fun v13 =>
     (DE N ((Ag.mk v12.fMix.fBase v12.fMix.fNext v12.fMix.fHeld)) ((Ag.mk v13.fMix.fBase v13.fMix.fNext v13.fMix.fHeld))).bind fun v14 =>
     j5 (!v14))))
   (j2 ())
def FK (N : Nat) (p0 : List A7) (p1 : List A7) : Option Bool :=
 AR (((p0.length : Int) != (p1.length : Int)))
  (some false)
  (C5 N p0 p1 (fun (_ : Unit) =>
   some true) N 0)
def DN (N : Nat) (p0 : CV) (p1 : Ce) : Option Bool :=
 (FD N p0).bind fun v1 =>
 Bf (fun (v2 : Bool) =>
  AR v2
   ((Fp N).bind fun v6 =>
   some v6)
   ((FC N v1.1 p1).bind fun v7 =>
   (FA N v1.1 v7).bind fun v8 =>
   (Fb N v1.1 (([v7] : List Ag))).bind fun v9 =>
   Bf (fun (v10 : Bool) =>
    some v10)
   fun j10 =>
   AR ((v8.2 == v9.2))
    ((FK N v8.1 v9.1).bind fun v12 =>
    j10 v12)
    (j10 false)))
 fun j2 =>
 (Fp N).bind fun v3 =>
 AR ((!v3))
  (j2 true)
  (j2 (!v1.2))
def Ml {α : Type} (w : α → Prop) (xs : List α) : Prop := ∀ x, x ∈ xs → w x
def KO (n : Int) : Prop := (Lit.int .u8 n).wf = true
def WQ (n : Int) : Prop := (Lit.int .u16 n).wf = true
def IW (x : Jm) : Prop := KO x.fKind ∧ KO x.fFrom ∧ KO x.fTo ∧ (fun _ => True) x.fAware ∧ WQ x.fBad ∧ WQ x.fLost ∧ True
def Gj (x : CV) : Prop := (Ml KO) x.fVersions ∧ (Ml KO) x.fNow ∧ (Ml KO) x.fTarget ∧ (Ml IW) x.fLinks ∧ True
def Gi (x : Ce) : Prop := (Ml KO) x.fBase ∧ (Ml KO) x.fNext ∧ (Ml KO) x.fHeld ∧ True
end Go.Lift

/- That the code does what the shallow programs do, function by function. Written by a program (gen.py). -/
namespace Go.Lift
open Go.RowKit
open Go.Proofs
theorem Ac : Tryz.prog.follows .mixedOrders = true := by kernel_rfl
theorem Yh : F7 Tryz.prog 101 true = true := by kernel_rfl
theorem OG : F7 Tryz.prog 195 false = true := by kernel_rfl
theorem QY : F7 Tryz.prog 22 false = true := by kernel_rfl
theorem Ww : F7 Tryz.prog 23 false = true := by kernel_rfl
theorem Zk : F7 Tryz.prog 25 true = true := by kernel_rfl
theorem Bo : F7 Tryz.prog 26 false = true := by kernel_rfl
theorem IM : F7 Tryz.prog 27 false = true := by kernel_rfl
theorem EH : F7 Tryz.prog 29 true = true := by kernel_rfl
theorem CN : F7 Tryz.prog 3 false = true := by kernel_rfl
theorem SX : F7 Tryz.prog 4 false = true := by kernel_rfl
theorem ZK : F7 Tryz.prog 41 true = true := by kernel_rfl
theorem HV : F7 Tryz.prog 44 false = true := by kernel_rfl
theorem A4 : F7 Tryz.prog 46 true = true := by kernel_rfl
theorem Xi : F7 Tryz.prog 5 false = true := by kernel_rfl
theorem Dz : F7 Tryz.prog 66 true = true := by kernel_rfl
theorem Lz : F7 Tryz.prog 67 false = true := by kernel_rfl
theorem IN : F7 Tryz.prog 69 true = true := by kernel_rfl
theorem Qs : F7 Tryz.prog 70 false = true := by kernel_rfl
theorem KY : F7 Tryz.prog 81 false = true := by kernel_rfl
theorem I2 : F7 Tryz.prog 84 true = true := by kernel_rfl
theorem ZM : F7 Tryz.prog 86 true = true := by kernel_rfl
theorem YM : F7 Tryz.prog 99 false = true := by kernel_rfl
theorem YH : Qx Tryz.prog 22 = true := by kernel_rfl
theorem Nr : G7 Tryz.prog 3 8 = true := by kernel_rfl
theorem WN : G7 Tryz.prog 4 1 = true := by kernel_rfl
theorem ST : G7 Tryz.prog 46 72 = true := by kernel_rfl
theorem X0 : G7 Tryz.prog 5 1 = true := by kernel_rfl
theorem RN : G7 Tryz.prog 66 24 = true := by kernel_rfl
theorem Yx : G7 Tryz.prog 69 80 = true := by kernel_rfl
theorem XJ : G7 Tryz.prog 70 24 = true := by kernel_rfl
theorem Rp : G7 Tryz.prog 81 1 = true := by kernel_rfl
theorem RM : G7 Tryz.prog 84 24 = true := by kernel_rfl
theorem SQ : G7 Tryz.prog 86 120 = true := by kernel_rfl
theorem TY : Dd Tryz.prog 101 0 0 = true := by kernel_rfl
theorem Un : Dd Tryz.prog 101 1 1 = true := by kernel_rfl
theorem Ut : Dd Tryz.prog 101 2 2 = true := by kernel_rfl
theorem UQ : Dd Tryz.prog 101 3 3 = true := by kernel_rfl
theorem U1 : Dd Tryz.prog 101 4 4 = true := by kernel_rfl
theorem T7 : Dd Tryz.prog 101 5 5 = true := by kernel_rfl
theorem P8 : Dd Tryz.prog 25 0 0 = true := by kernel_rfl
theorem Ve : Dd Tryz.prog 25 1 1 = true := by kernel_rfl
theorem VL : Dd Tryz.prog 25 2 2 = true := by kernel_rfl
theorem QA : Dd Tryz.prog 25 3 3 = true := by kernel_rfl
theorem BF : Dd Tryz.prog 29 0 0 = true := by kernel_rfl
theorem I5 : Dd Tryz.prog 29 1 1 = true := by kernel_rfl
theorem JF : Dd Tryz.prog 29 2 2 = true := by kernel_rfl
theorem DS : Dd Tryz.prog 29 3 3 = true := by kernel_rfl
theorem Vc : Dd Tryz.prog 41 0 0 = true := by kernel_rfl
theorem VR : Dd Tryz.prog 41 1 1 = true := by kernel_rfl
theorem VM : Dd Tryz.prog 41 2 2 = true := by kernel_rfl
theorem Dx : Dd Tryz.prog 46 0 0 = true := by kernel_rfl
theorem BK : Dd Tryz.prog 46 1 1 = true := by kernel_rfl
theorem Dm : Dd Tryz.prog 46 2 2 = true := by kernel_rfl
theorem Sz : Dd Tryz.prog 66 0 0 = true := by kernel_rfl
theorem SK : Dd Tryz.prog 66 1 1 = true := by kernel_rfl
theorem Sq : Dd Tryz.prog 66 2 2 = true := by kernel_rfl
theorem Hh : Dd Tryz.prog 69 0 0 = true := by kernel_rfl
theorem D3 : Dd Tryz.prog 69 1 1 = true := by kernel_rfl
theorem Jy : Dd Tryz.prog 69 2 2 = true := by kernel_rfl
theorem Kl : Dd Tryz.prog 69 3 3 = true := by kernel_rfl
theorem K4 : Dd Tryz.prog 69 4 4 = true := by kernel_rfl
theorem H9 : Dd Tryz.prog 69 5 5 = true := by kernel_rfl
theorem GN : Dd Tryz.prog 84 0 0 = true := by kernel_rfl
theorem F2 : Dd Tryz.prog 84 1 1 = true := by kernel_rfl
theorem H5 : Dd Tryz.prog 84 2 2 = true := by kernel_rfl
theorem Qc : Dd Tryz.prog 86 0 0 = true := by kernel_rfl
theorem SR : Dd Tryz.prog 86 1 3 = true := by kernel_rfl
theorem Ob : Dd Tryz.prog 86 2 6 = true := by kernel_rfl
theorem X5 : AI Tryz.prog 100 = true := by kernel_rfl
theorem Xz : AI Tryz.prog 101 = true := by kernel_rfl
theorem SJ : AI Tryz.prog 102 = true := by kernel_rfl
theorem XP : AI Tryz.prog 103 = true := by kernel_rfl
theorem Uz : AI Tryz.prog 104 = true := by kernel_rfl
theorem TS : AI Tryz.prog 105 = true := by kernel_rfl
theorem Wi : AI Tryz.prog 106 = true := by kernel_rfl
theorem Tw : AI Tryz.prog 107 = true := by kernel_rfl
theorem TJ : AI Tryz.prog 108 = true := by kernel_rfl
theorem VZ : AI Tryz.prog 109 = true := by kernel_rfl
theorem XB : AI Tryz.prog 11 = true := by kernel_rfl
theorem Yf : AI Tryz.prog 111 = true := by kernel_rfl
theorem Xj : AI Tryz.prog 113 = true := by kernel_rfl
theorem Sx : AI Tryz.prog 114 = true := by kernel_rfl
theorem Wl : AI Tryz.prog 115 = true := by kernel_rfl
theorem UD : AI Tryz.prog 118 = true := by kernel_rfl
theorem XE : AI Tryz.prog 119 = true := by kernel_rfl
theorem YZ : AI Tryz.prog 12 = true := by kernel_rfl
theorem Xx : AI Tryz.prog 120 = true := by kernel_rfl
theorem Xk : AI Tryz.prog 121 = true := by kernel_rfl
theorem Xv : AI Tryz.prog 122 = true := by kernel_rfl
theorem Yk : AI Tryz.prog 123 = true := by kernel_rfl
theorem Yu : AI Tryz.prog 124 = true := by kernel_rfl
theorem Xn : AI Tryz.prog 125 = true := by kernel_rfl
theorem XI : AI Tryz.prog 126 = true := by kernel_rfl
theorem Yq : AI Tryz.prog 127 = true := by kernel_rfl
theorem X6 : AI Tryz.prog 128 = true := by kernel_rfl
theorem Xo : AI Tryz.prog 129 = true := by kernel_rfl
theorem XF : AI Tryz.prog 130 = true := by kernel_rfl
theorem V6 : AI Tryz.prog 131 = true := by kernel_rfl
theorem Yo : AI Tryz.prog 132 = true := by kernel_rfl
theorem XW : AI Tryz.prog 133 = true := by kernel_rfl
theorem XQ : AI Tryz.prog 134 = true := by kernel_rfl
theorem Yv : AI Tryz.prog 135 = true := by kernel_rfl
theorem Yt : AI Tryz.prog 136 = true := by kernel_rfl
theorem XH : AI Tryz.prog 137 = true := by kernel_rfl
theorem X2 : AI Tryz.prog 138 = true := by kernel_rfl
theorem X4 : AI Tryz.prog 139 = true := by kernel_rfl
theorem Ze : AI Tryz.prog 14 = true := by kernel_rfl
theorem Yj : AI Tryz.prog 140 = true := by kernel_rfl
theorem Yz : AI Tryz.prog 141 = true := by kernel_rfl
theorem XK : AI Tryz.prog 142 = true := by kernel_rfl
theorem XN : AI Tryz.prog 143 = true := by kernel_rfl
theorem YK : AI Tryz.prog 145 = true := by kernel_rfl
theorem XS : AI Tryz.prog 146 = true := by kernel_rfl
theorem YE : AI Tryz.prog 147 = true := by kernel_rfl
theorem YC : AI Tryz.prog 148 = true := by kernel_rfl
theorem Xq : AI Tryz.prog 149 = true := by kernel_rfl
theorem WX : AI Tryz.prog 15 = true := by kernel_rfl
theorem Xp : AI Tryz.prog 150 = true := by kernel_rfl
theorem XD : AI Tryz.prog 151 = true := by kernel_rfl
theorem XY : AI Tryz.prog 152 = true := by kernel_rfl
theorem XA : AI Tryz.prog 153 = true := by kernel_rfl
theorem Yy : AI Tryz.prog 154 = true := by kernel_rfl
theorem Wt : AI Tryz.prog 155 = true := by kernel_rfl
theorem Wf : AI Tryz.prog 156 = true := by kernel_rfl
theorem Yl : AI Tryz.prog 157 = true := by kernel_rfl
theorem Ys : AI Tryz.prog 158 = true := by kernel_rfl
theorem X9 : AI Tryz.prog 159 = true := by kernel_rfl
theorem YX : AI Tryz.prog 16 = true := by kernel_rfl
theorem XO : AI Tryz.prog 160 = true := by kernel_rfl
theorem Wh : AI Tryz.prog 161 = true := by kernel_rfl
theorem Wm : AI Tryz.prog 162 = true := by kernel_rfl
theorem We : AI Tryz.prog 163 = true := by kernel_rfl
theorem T6 : AI Tryz.prog 164 = true := by kernel_rfl
theorem Wj : AI Tryz.prog 165 = true := by kernel_rfl
theorem Wg : AI Tryz.prog 166 = true := by kernel_rfl
theorem Um : AI Tryz.prog 167 = true := by kernel_rfl
theorem V3 : AI Tryz.prog 168 = true := by kernel_rfl
theorem Yi : AI Tryz.prog 169 = true := by kernel_rfl
theorem ZA : AI Tryz.prog 17 = true := by kernel_rfl
theorem X3 : AI Tryz.prog 170 = true := by kernel_rfl
theorem TB : AI Tryz.prog 171 = true := by kernel_rfl
theorem UF : AI Tryz.prog 172 = true := by kernel_rfl
theorem XR : AI Tryz.prog 18 = true := by kernel_rfl
theorem Zt : AI Tryz.prog 19 = true := by kernel_rfl
theorem Zz : AI Tryz.prog 20 = true := by kernel_rfl
theorem Xt : AI Tryz.prog 21 = true := by kernel_rfl
theorem Zf : AI Tryz.prog 22 = true := by kernel_rfl
theorem ZD : AI Tryz.prog 24 = true := by kernel_rfl
theorem Zj : AI Tryz.prog 25 = true := by kernel_rfl
theorem W9 : AI Tryz.prog 27 = true := by kernel_rfl
theorem ZE : AI Tryz.prog 30 = true := by kernel_rfl
theorem Xw : AI Tryz.prog 35 = true := by kernel_rfl
theorem Sk : AI Tryz.prog 39 = true := by kernel_rfl
theorem Y0 : AI Tryz.prog 40 = true := by kernel_rfl
theorem Y1 : AI Tryz.prog 41 = true := by kernel_rfl
theorem YL : AI Tryz.prog 42 = true := by kernel_rfl
theorem YF : AI Tryz.prog 44 = true := by kernel_rfl
theorem T8 : AI Tryz.prog 45 = true := by kernel_rfl
theorem Xb : AI Tryz.prog 46 = true := by kernel_rfl
theorem YB : AI Tryz.prog 47 = true := by kernel_rfl
theorem W0 : AI Tryz.prog 48 = true := by kernel_rfl
theorem W6 : AI Tryz.prog 49 = true := by kernel_rfl
theorem X8 : AI Tryz.prog 50 = true := by kernel_rfl
theorem PZ : AI Tryz.prog 51 = true := by kernel_rfl
theorem X1 : AI Tryz.prog 52 = true := by kernel_rfl
theorem WV : AI Tryz.prog 53 = true := by kernel_rfl
theorem To : AI Tryz.prog 54 = true := by kernel_rfl
theorem X7 : AI Tryz.prog 55 = true := by kernel_rfl
theorem ZL : AI Tryz.prog 56 = true := by kernel_rfl
theorem Zd : AI Tryz.prog 57 = true := by kernel_rfl
theorem VH : AI Tryz.prog 58 = true := by kernel_rfl
theorem Za : AI Tryz.prog 59 = true := by kernel_rfl
theorem Zs : AI Tryz.prog 60 = true := by kernel_rfl
theorem Yn : AI Tryz.prog 61 = true := by kernel_rfl
theorem U6 : AI Tryz.prog 62 = true := by kernel_rfl
theorem Y9 : AI Tryz.prog 63 = true := by kernel_rfl
theorem TQ : AI Tryz.prog 65 = true := by kernel_rfl
theorem R5 : AI Tryz.prog 66 = true := by kernel_rfl
theorem WD : AI Tryz.prog 67 = true := by kernel_rfl
theorem Zx : AI Tryz.prog 68 = true := by kernel_rfl
theorem Y5 : AI Tryz.prog 72 = true := by kernel_rfl
theorem XM : AI Tryz.prog 73 = true := by kernel_rfl
theorem Zh : AI Tryz.prog 75 = true := by kernel_rfl
theorem Zi : AI Tryz.prog 76 = true := by kernel_rfl
theorem Y4 : AI Tryz.prog 78 = true := by kernel_rfl
theorem WO : AI Tryz.prog 82 = true := by kernel_rfl
theorem Zb : AI Tryz.prog 83 = true := by kernel_rfl
theorem WG : AI Tryz.prog 84 = true := by kernel_rfl
theorem Zr : AI Tryz.prog 85 = true := by kernel_rfl
theorem Zp : AI Tryz.prog 86 = true := by kernel_rfl
theorem Zo : AI Tryz.prog 87 = true := by kernel_rfl
theorem ZB : AI Tryz.prog 88 = true := by kernel_rfl
theorem Zn : AI Tryz.prog 89 = true := by kernel_rfl
theorem Zv : AI Tryz.prog 90 = true := by kernel_rfl
theorem WY : AI Tryz.prog 91 = true := by kernel_rfl
theorem XZ : AI Tryz.prog 92 = true := by kernel_rfl
theorem Zy : AI Tryz.prog 93 = true := by kernel_rfl
theorem Zc : AI Tryz.prog 94 = true := by kernel_rfl
theorem Zl : AI Tryz.prog 95 = true := by kernel_rfl
theorem Y6 : AI Tryz.prog 96 = true := by kernel_rfl
theorem XU : AI Tryz.prog 97 = true := by kernel_rfl
theorem Zu : AI Tryz.prog 98 = true := by kernel_rfl
theorem Zg : AI Tryz.prog 99 = true := by kernel_rfl
theorem NE : N3 Tryz.prog 152 .u64 = true := by kernel_rfl
theorem QZ : N3 Tryz.prog 179 .u32 = true := by kernel_rfl
theorem V9 : N3 Tryz.prog 181 .u64 = true := by kernel_rfl
theorem V8 : N3 Tryz.prog 195 .u64 = true := by kernel_rfl
theorem SI : N3 Tryz.prog 3 .i64 = true := by kernel_rfl
theorem YR : N3 Tryz.prog 5 .u8 = true := by kernel_rfl
theorem Y3 : N3 Tryz.prog 81 .u8 = true := by kernel_rfl
theorem WP : Tryz.prog.underlying 9 = some .string := by kernel_rfl
theorem Qk : Tryz.prog.underlying 134 = some (.map 9 4) := by kernel_rfl
theorem XV : JH Tryz.prog 29 = some [(0, 1), (1, 1), (2, 1), (3, 1)] := by kernel_rfl
theorem HS : JH Tryz.prog 46 = some [(0, 1), (1, 1), (2, 1)] := by kernel_rfl
theorem Qj : JH Tryz.prog 66 = some [(0, 1), (1, 1), (2, 1)] := by kernel_rfl
theorem XG : JH Tryz.prog 69 = some [(0, 1), (1, 1), (2, 1), (3, 1), (4, 1), (5, 1)] := by kernel_rfl
theorem T5 : JH Tryz.prog 84 = some [(0, 1), (1, 1), (2, 1)] := by kernel_rfl
theorem Yg : JH Tryz.prog 86 = some [(0, 3), (3, 3), (6, 3)] := by kernel_rfl
theorem QK : Th Tryz.prog 66 = some [0, 0, 0] := by kernel_rfl
theorem Wr : Th Tryz.prog 84 = some [0, 0, 0] := by kernel_rfl
theorem KK : sliceB Tryz.prog 22 5 = true := by kernel_rfl
theorem TM : sliceB Tryz.prog 23 101 = true := by kernel_rfl
theorem AJ : sliceB Tryz.prog 26 3 = true := by kernel_rfl
theorem Fk : sliceB Tryz.prog 27 69 = true := by kernel_rfl
theorem AZ : sliceB Tryz.prog 30 46 = true := by kernel_rfl
theorem D0 : sliceB Tryz.prog 44 81 = true := by kernel_rfl
theorem Hd : sliceB Tryz.prog 48 86 = true := by kernel_rfl
theorem Bb : sliceB Tryz.prog 55 66 = true := by kernel_rfl
theorem HK : sliceB Tryz.prog 67 70 = true := by kernel_rfl
theorem HY : sliceB Tryz.prog 70 4 = true := by kernel_rfl
theorem FR : sliceB Tryz.prog 94 84 = true := by kernel_rfl
theorem O6 : (Tryz.prog.underlying 152).isSome = true := by kernel_rfl
theorem QW : (Tryz.prog.underlying 179).isSome = true := by kernel_rfl
theorem TR : (Tryz.prog.underlying 181).isSome = true := by kernel_rfl
theorem TV : (Tryz.prog.underlying 3).isSome = true := by kernel_rfl
theorem Vg : (Tryz.prog.underlying 5).isSome = true := by kernel_rfl
theorem ZG : (Tryz.prog.underlying 81).isSome = true := by kernel_rfl
theorem Vh : PQ Tryz.prog 9 = true := by kernel_rfl
theorem UB : IP Tryz.prog 101 6 = true := by kernel_rfl
theorem QI : IP Tryz.prog 195 1 = true := by kernel_rfl
theorem Y7 : IP Tryz.prog 25 4 = true := by kernel_rfl
theorem T3 : IP Tryz.prog 26 1 = true := by kernel_rfl
theorem ZF : IP Tryz.prog 27 1 = true := by kernel_rfl
theorem Ep : IP Tryz.prog 29 4 = true := by kernel_rfl
theorem Ec : IP Tryz.prog 3 1 = true := by kernel_rfl
theorem QO : IP Tryz.prog 4 1 = true := by kernel_rfl
theorem Y2 : IP Tryz.prog 41 3 = true := by kernel_rfl
theorem YY : IP Tryz.prog 44 1 = true := by kernel_rfl
theorem Ay : IP Tryz.prog 46 3 = true := by kernel_rfl
theorem W1 : IP Tryz.prog 5 1 = true := by kernel_rfl
theorem AS : IP Tryz.prog 66 3 = true := by kernel_rfl
theorem XL : IP Tryz.prog 67 1 = true := by kernel_rfl
theorem Fe : IP Tryz.prog 69 6 = true := by kernel_rfl
theorem N2 : IP Tryz.prog 70 1 = true := by kernel_rfl
theorem GJ : IP Tryz.prog 81 1 = true := by kernel_rfl
theorem Ft : IP Tryz.prog 84 3 = true := by kernel_rfl
theorem Lp : IP Tryz.prog 86 9 = true := by kernel_rfl
theorem YG : FT Tryz.prog 101 = some (.agg #[.int .u8 0, .int .u8 0, .int .u8 0, .bool false, .int .u16 0, .int .u16 0]) := by kernel_rfl
theorem V2 : FT Tryz.prog 195 = some (.int .u64 0) := by kernel_rfl
theorem Tf : FT Tryz.prog 29 = some (.agg #[.slice none 0 0, .slice none 0 0, .slice none 0 0, .slice none 0 0]) := by kernel_rfl
theorem Lb : FT Tryz.prog 3 = some (.int .i64 0) := by kernel_rfl
theorem Vp : FT Tryz.prog 4 = some (.bool false) := by kernel_rfl
theorem Dc : FT Tryz.prog 46 = some (.agg #[.slice none 0 0, .slice none 0 0, .slice none 0 0]) := by kernel_rfl
theorem YQ : FT Tryz.prog 5 = some (.int .u8 0) := by kernel_rfl
theorem IV : FT Tryz.prog 66 = some (.agg #[.int .i64 0, .int .i64 0, .int .i64 0]) := by kernel_rfl
theorem LW : FT Tryz.prog 69 = some (.agg #[.int .i64 0, .int .i64 0, .int .i64 0, .bool false, .slice none 0 0, .slice none 0 0]) := by kernel_rfl
theorem WM : FT Tryz.prog 70 = some (.slice none 0 0) := by kernel_rfl
theorem Oe : FT Tryz.prog 81 = some (.int .u8 0) := by kernel_rfl
theorem Kx : FT Tryz.prog 84 = some (.agg #[.int .i64 0, .int .i64 0, .int .i64 0]) := by kernel_rfl
theorem Qp : FT Tryz.prog 86 = some (.agg #[.int .i64 0, .int .i64 0, .int .i64 0, .slice none 0 0, .slice none 0 0, .slice none 0 0, .int .i64 0, .int .i64 0, .int .i64 0]) := by kernel_rfl
end Go.Lift

/- That the code does what the shallow programs do, function by function. Written by a program (gen.py). -/
namespace Go.Lift
open Go.RowKit
open Go.Proofs
set_option maxRecDepth 10000 in
theorem JO (N : Nat) (p0 : List Int) (p1 : Int) (r : Int) (h : E2 N p0 p1 = some r) : AB Tryz.prog 50 [.e (.one (.pure (.sl (p0.map Bg)))), .e (.one (.pure (.val (.int .i64 p1))))] [] (.e (.one (.pure (.val (.int .i64 r))))) := by
 unfold E2 at h
 refine As (n := 14) (rs := [.tmp 4]) Tryz.func50 rfl rfl rfl (A3 rfl) (A3 rfl) rfl fun w0 S0 => ?_
 refine Ab (Aa Ac rfl (qa rfl (Ae (Ab (Ab (Aa Ac rfl (qm rfl (qm rfl (AU KK rfl (AT rfl (Ae ?_)))))))))))
 refine Ap rfl (fun c1 => ?_) (fun c1 => ?_)
 ·have h := Ao c1 h
  refine Ab (Aa Ac rfl (qm rfl (qm rfl ?_)))
  obtain ⟨v2, a2, b2, h⟩ := Ai h
  refine qi KK W1 a2 (Ah b2) rfl (qk Xi rfl (Hj Vg SI rfl (qa rfl (Ae ?_))))
  obtain rfl := sj h
  refine Am (sm [] [(4, .e (.one (.pure (.val (.int .i64 ((IntKind.wrap .i64 v2)))))))] [] rfl rfl) (Az ?_)
  exact ⟨⟨[_], ⟨.tmp _ _ rfl, trivial⟩, rfl⟩, trivial⟩
 ·have h := An c1 h
  refine Aq (Ab (Aa Ac rfl (qa rfl (Ae ?_))))
  obtain rfl := sj h
  refine Am (sm [] [(4, .e (.one (.pure (.val (.int .i64 0)))))] [] rfl rfl) (Az ?_)
  exact ⟨⟨[_], ⟨.tmp _ _ rfl, trivial⟩, rfl⟩, trivial⟩
set_option maxRecDepth 10000 in
theorem C1 (N : Nat) (p0 : AO) (r : Bool) (h : Bn N p0 = some r) : AB Tryz.prog 51 [.e (.agg [.pure (.val (.int .i64 p0.fKind)), .pure (.val (.int .i64 p0.fFrom)), .pure (.val (.int .i64 p0.fTo)), .pure (.val (.bool p0.fAware)), .pure (.sl (p0.fOK.map (FZ eB))), .pure (.sl (p0.fRewrite.map (FZ eB)))])] [] (.e (.one (.pure (.val (.bool r))))) := by
 unfold Bn at h
 refine As (n := 11) (rs := [.tmp 2]) Tryz.func51 rfl rfl rfl (A3 rfl) (A3 rfl) rfl fun w0 S0 => ?_
 refine Ab (Aa Ac rfl (qb rfl (qa rfl (Ae ?_))))
 refine AM h (fun v1 => mk [(2, .e (.one (.pure (.val (.bool v1)))))] []) (fun j1 h => ?_) (fun v1 h => ?_)
 ·refine Aa Ac rfl (qf Hh rfl (ql CN rfl (BX rfl (qm rfl ?_))))
  refine AD (t := 6) rfl (fun c2 => ?_) (fun c2 => ?_)
  ·have h := Ao c2 h
   refine qn rfl (qn rfl (qn rfl (qp rfl (qa rfl (Ae ?_)))))
   exact Au _ h (sm [] _ _ rfl rfl)
  ·have h := An c2 h
   refine qf Hh rfl (ql CN rfl (BX rfl (qp rfl (qa rfl (Ae ?_)))))
   exact Au _ h (sm [] _ _ rfl rfl)
 ·obtain rfl := sj h
  refine Am (sm [] [(2, .e (.one (.pure (.val (.bool v1)))))] [] rfl rfl) (Az ?_)
  exact ⟨⟨[_], ⟨.tmp _ _ rfl, trivial⟩, rfl⟩, trivial⟩
set_option maxRecDepth 10000 in
theorem JZ (N : Nat) (p0 : Int) (p1 : Int) (p2 : Int) (p3 : Bool) (r : (List (List Bool))) (h : E1 N p0 p1 p2 p3 = some r) : AB Tryz.prog 52 [.e (.one (.pure (.val (.int .i64 p0)))), .e (.one (.pure (.val (.int .i64 p1)))), .e (.one (.pure (.val (.int .u16 p2)))), .e (.one (.pure (.val (.bool p3))))] [(1, r.map (FZ eB))] (.e (.one (.own 0))) := by
 unfold E1 at h
 refine As (n := 47) (rs := [.tmp 8]) Tryz.func52 rfl rfl rfl (A3 rfl) (A3 rfl) rfl fun w0 S0 => ?_
 refine Ab (Aa Ac rfl (qa rfl (Ae (Ab (Aa Ac rfl (qa rfl (Ae (Ab (Ab (Aa Ac rfl (qa rfl (Ae ?_))))))))))))
 refine AC (L := CX N p0 p1 p2 p3) h (fun v1 => mk [(0, .e (.one (.pure (.val (.int .i64 p0))))), (1, .e (.one (.pure (.val (.int .i64 p1))))), (2, .e (.one (.pure (.val (.int .u16 p2))))), (3, .e (.one (.pure (.val (.bool p3))))), (9, .e (.one (.own 2001))), (10, .e (.one (.pure (.val (.int .i64 v1.2)))))] [(2001, .vec 1 (v1.1.map (FZ eB)))]) (fun v2 => mk [(9, .e (.one (.own 2002)))] [(2002, .vec 1 (v2.map (FZ eB)))]) (fun _ _ => rfl) ((Br 9 2010 1 rfl rfl rfl).trans (sm [(2001, 2010)] _ _ rfl rfl)) (fun j1 n1 v1 h => ?_) (fun v2 s h hs => ?_)
 ·unfold CX at h
  refine Ab (Ab (Aa Ac rfl (qm rfl (qm rfl (AT rfl (Ae ?_))))))
  refine Ap rfl (fun c3 => ?_) (fun c3 => ?_)
  ·have h := Ao c3 h
   refine Aq (Ab (AH (Ab (Aa Ac rfl (qa rfl (Ae (Ab (Ab (Aa Ac rfl (qa rfl (Ae ?_)))))))))))
   refine AC (L := CY N p1 p2 p3 v1) h (fun v4 => mk [(0, .e (.one (.pure (.val (.int .i64 p0))))), (1, .e (.one (.pure (.val (.int .i64 p1))))), (2, .e (.one (.pure (.val (.int .u16 p2))))), (3, .e (.one (.pure (.val (.bool p3))))), (9, .e (.one (.own 2003))), (10, .e (.one (.pure (.val (.int .i64 v1.2))))), (11, .e (.one (.own 2004))), (12, .e (.one (.pure (.val (.int .i64 v4.2)))))] [(2003, .vec 1 (v1.1.map (FZ eB))), (2004, .vec 1 (v4.1.map eB))]) (fun v5 => mk [(0, .e (.one (.pure (.val (.int .i64 p0))))), (1, .e (.one (.pure (.val (.int .i64 p1))))), (2, .e (.one (.pure (.val (.int .u16 p2))))), (3, .e (.one (.pure (.val (.bool p3))))), (9, .e (.one (.own 2005))), (10, .e (.one (.pure (.val (.int .i64 v1.2))))), (11, .e (.one (.own 2006)))] [(2005, .vec 1 (v1.1.map (FZ eB))), (2006, .vec 1 (v5.map eB))]) (fun _ _ => rfl) ((Br 11 2009 1 rfl rfl rfl).trans (sm [(2003, 2001), (2004, 2009)] _ _ rfl rfl)) (fun j4 n4 v4 h => ?_) (fun v5 s h hs => ?_)
   ·unfold CY at h
    refine Ab (Ab (Aa Ac rfl (qm rfl (qm rfl (AT rfl (Ae ?_))))))
    refine Ap rfl (fun c6 => ?_) (fun c6 => ?_)
    ·have h := Ao c6 h
     refine Aq ?_
     refine AM h (fun v7 => mk [(0, .e (.one (.pure (.val (.int .i64 p0))))), (1, .e (.one (.pure (.val (.int .i64 p1))))), (2, .e (.one (.pure (.val (.int .u16 p2))))), (3, .e (.one (.pure (.val (.bool p3))))), (9, .e (.one (.own 2007))), (10, .e (.one (.pure (.val (.int .i64 v1.2))))), (11, .e (.one (.own 2008))), (12, .e (.one (.pure (.val (.int .i64 v4.2)))))] [(2007, .vec 1 (v1.1.map (FZ eB))), (2008, .vec 1 (v7.map eB))]) (fun j7 h => ?_) (fun v7 h => ?_)
     ·refine AH (Aa Ac rfl (qm rfl (qm rfl (qm rfl ?_))))
      refine AD (t := 25) rfl (fun c8 => ?_) (fun c8 => ?_)
      ·have h := Ao c8 h
       refine qm rfl (qm rfl (BX rfl (qp rfl (qm rfl ?_))))
       refine AD (t := 30) rfl (fun c9 => ?_) (fun c9 => ?_)
       ·have h := Ao c9 h
        refine qn rfl (qn rfl (qn rfl (qn rfl (qn rfl (qn rfl (qn rfl (qn rfl (qp rfl (EU HY QO Vp rfl ?_)))))))))
        obtain ⟨c10, h⟩ := AQ h
        refine El (f := eB) HY HY QO WN Vp c10 rfl (qa rfl (Ae ?_))
        exact Au _ h (sm [(2007, 2003), (2008, 41)] _ _ rfl rfl)
       ·have h := An c9 h
        refine qm rfl (qm rfl (In rfl (qm rfl (AN rfl ?_))))
        obtain ⟨c11, h⟩ := AQ h
        refine Iq rfl c11 (K6 rfl (by decide) (BX rfl (qp rfl (EU HY QO Vp rfl ?_))))
        obtain ⟨c12, h⟩ := AQ h
        refine El (f := eB) HY HY QO WN Vp c12 rfl (qa rfl (Ae ?_))
        exact Au _ h (sm [(2007, 2003), (2008, 41)] _ _ rfl rfl)
      ·have h := An c8 h
       refine qn rfl (qn rfl (qn rfl (qp rfl (qm rfl (qm rfl (qm rfl (In rfl (qm rfl (AN rfl ?_)))))))))
       obtain ⟨c13, h⟩ := AQ h
       refine Iq rfl c13 (K6 rfl (by decide) (BX rfl (qp rfl (EU HY QO Vp rfl ?_))))
       obtain ⟨c14, h⟩ := AQ h
       refine El (f := eB) HY HY QO WN Vp c14 rfl (qa rfl (Ae ?_))
       exact Au _ h (sm [(2007, 2003), (2008, 41)] _ _ rfl rfl)
     ·refine Aa Ac rfl (qm rfl (AN rfl (qa rfl (Ae ?_))))
      exact Au _ h (sm [(2003, 2007), (2004, 2008)] _ _ rfl rfl)
    ·have h := An c6 h
     refine AP ?_
     exact Au _ h (sm [(2005, 2003), (2006, 2004)] _ _ rfl rfl)
   ·refine Am hs (Aa Ac rfl (qm rfl (qm rfl (Ev (Bm 2006 _ _ rfl rfl) (EU HK N2 WM rfl ?_)))))
    obtain ⟨c15, h⟩ := AQ h
    refine El (f := (FZ eB)) HK HK N2 XJ WM c15 rfl (qa rfl (Ae (Aa Ac rfl (qm rfl (AN rfl (qa rfl (Ae ?_)))))))
    exact Au _ h (sm [(2001, 45)] _ _ rfl rfl)
  ·have h := An c3 h
   refine AP ?_
   exact Au _ h (sm [(2002, 2001)] _ _ rfl rfl)
 ·refine Am hs (Ab (Aa Ac rfl (qm rfl (qa rfl (Ae ?_)))))
  obtain rfl := sj h
  refine Am (sm [(1000, 2002)] [(8, .e (.one (.own 1000)))] [(1000, .vec 1 (v2.map (FZ eB)))] rfl rfl) (Az ?_)
  exact ⟨⟨[_], ⟨.tmp _ _ rfl, trivial⟩, rfl⟩, ⟨rfl, trivial⟩⟩
set_option maxRecDepth 10000 in
theorem M7 (N : Nat) (p0 : CV) (r : Ak × Bool) (h : FD N p0 = some r) : AB Tryz.prog 16 [.e (.agg [.pure (.sl (p0.fVersions.map Bg)), .pure (.sl (p0.fNow.map Bg)), .pure (.sl (p0.fTarget.map Bg)), .pure (.sl (p0.fLinks.map CW))])] [(1, r.1.fVersions.map Al), (1, r.1.fNow.map Al), (1, r.1.fTarget.map Al), (6, r.1.fTables.map Ar)] (.tup [.agg [.own 0, .own 1, .own 2, .own 3], .one (.pure (.val (.bool r.2)))]) := by
 unfold FD at h
 refine As (n := 152) (rs := [.cell 2 29, .tmp 3]) Tryz.func16 rfl rfl rfl (A3 rfl) (A3 rfl) rfl fun w0 S0 => ?_
 refine Ab (Aa Ac rfl (qb rfl (qz Tf rfl (qa rfl (Ae (Ab ?_))))))
 refine AM h (fun v1 => mk [(1, .e (.one (.ptr 1 0))), (2, .e (.one (.ptr 2 0))), (19, .e (.one (.pure (.val (.bool v1)))))] [(1, .box [.pure (.sl (p0.fVersions.map Bg)), .pure (.sl (p0.fNow.map Bg)), .pure (.sl (p0.fTarget.map Bg)), .pure (.sl (p0.fLinks.map CW))]), (2, .box [.pure (.nil0), .pure (.nil0), .pure (.nil0), .pure (.nil0)])]) (fun j1 h => ?_) (fun v1 h => ?_)
 ·refine Aa Ac rfl (qf P8 rfl (ql QY rfl (AU KK rfl (Fv rfl (qm rfl ?_)))))
  refine AD (t := 14) rfl (fun c2 => ?_) (fun c2 => ?_)
  ·have h := Ao c2 h
   refine qn rfl (qn rfl (qn rfl (qn rfl (qp rfl (Ae ?_)))))
   exact Au _ h (sm [] _ _ rfl rfl)
  ·have h := An c2 h
   refine qf QA rfl (ql Ww rfl (AU TM rfl (Fv rfl (qp rfl (Ae ?_)))))
   exact Au _ h (sm [] _ _ rfl rfl)
 ·refine Ap rfl (fun c3 => ?_) (fun c3 => ?_)
  ·have h := Ao c3 h
   refine Ab (Aa Ac rfl (Bq Tf XV rfl (qs Ep rfl (qa rfl (Ae ?_)))))
   obtain rfl := sj h
   refine Am ((AF 2 0 2001 1 _ rfl rfl rfl rfl).trans ((AF 2 1 2002 1 _ rfl rfl rfl rfl).trans ((AF 2 2 2003 1 _ rfl rfl rfl rfl).trans ((AF 2 3 2004 6 _ rfl rfl rfl rfl).trans (sm [(1000, 2001), (1001, 2002), (1002, 2003), (1003, 2004)] [(2, .e (.one (.ptr 2 0))), (3, .e (.one (.pure (.val (.bool false)))))] [(2, .box [.own 1000, .own 1001, .own 1002, .own 1003]), (1000, .vec 1 ((([] : List Int)).map Al)), (1001, .vec 1 ((([] : List Int)).map Al)), (1002, .vec 1 ((([] : List Int)).map Al)), (1003, .vec 6 ((([] : List AO)).map Ar))] rfl rfl))))) (Az ?_)
   exact ⟨⟨[_, _], ⟨.cellN _ _ _ _ _ _ _ rfl rfl EH Ep rfl rfl (Jw rfl), ⟨.tmp _ _ rfl, trivial⟩⟩, rfl⟩, ⟨rfl, rfl, rfl, rfl, trivial⟩⟩
  ·have h := An c3 h
   refine Aq (Ab (Aa Ac rfl (qz Tf rfl (Ae (Ab (Ab (Aa Ac rfl (qa rfl (Ae ?_)))))))))
   refine AC (L := DH N p0) h (fun v4 => mk [(1, .e (.one (.ptr 1 0))), (2, .e (.one (.ptr 2 0))), (4, .e (.one (.ptr 4 0))), (5, .e (.one (.pure (.val (.int .i64 v4.2.2.2)))))] [(1, .box [.pure (.sl (p0.fVersions.map Bg)), .pure (.sl (p0.fNow.map Bg)), .pure (.sl (p0.fTarget.map Bg)), .pure (.sl (p0.fLinks.map CW))]), (2, .box [.pure (.nil0), .pure (.nil0), .pure (.nil0), .pure (.nil0)]), (4, .box [.own 2005, .own 2006, .own 2007, .pure (.nil0)]), (2005, .vec 1 (v4.1.map Al)), (2006, .vec 1 (v4.2.1.map Al)), (2007, .vec 1 (v4.2.2.1.map Al))]) (fun v5 => mk [(1, .e (.one (.ptr 1 0))), (2, .e (.one (.ptr 2 0))), (4, .e (.one (.ptr 4 0)))] [(1, .box [.pure (.sl (p0.fVersions.map Bg)), .pure (.sl (p0.fNow.map Bg)), .pure (.sl (p0.fTarget.map Bg)), .pure (.sl (p0.fLinks.map CW))]), (2, .box [.pure (.nil0), .pure (.nil0), .pure (.nil0), .pure (.nil0)]), (4, .box [.own 2008, .own 2009, .own 2010, .pure (.nil0)]), (2008, .vec 1 (v5.1.map Al)), (2009, .vec 1 (v5.2.1.map Al)), (2010, .vec 1 (v5.2.2.map Al))]) (fun _ _ => rfl) ((AF 4 0 2011 1 _ rfl rfl rfl rfl).trans ((AF 4 1 2012 1 _ rfl rfl rfl rfl).trans ((AF 4 2 2013 1 _ rfl rfl rfl rfl).trans (sm [(2005, 2011), (2006, 2012), (2007, 2013)] _ _ rfl rfl)))) (fun j4 n4 v4 h => ?_) (fun v5 s h hs => ?_)
   ·unfold DH at h
    refine Ab (Ab (Aa Ac rfl (qm rfl (qf P8 rfl (ql QY rfl (AU KK rfl (AT rfl (Ae ?_))))))))
    refine Ap rfl (fun c6 => ?_) (fun c6 => ?_)
    ·have h := Ao c6 h
     refine Aq (Ab (AH (Ab (Aa Ac rfl (qf P8 rfl (ql QY rfl (qm rfl ?_)))))))
     obtain ⟨v7, a7, b7, h⟩ := Ai h
     refine qi KK W1 a7 (Ah b7) rfl (qk Xi rfl (K6 rfl (by decide) (Hj Vg SI rfl (AN rfl (qa rfl (Ae (Ab (Aa Ac rfl (qf BF rfl (ql Bo rfl (qm rfl (EU AJ Ec Lb rfl ?_))))))))))))
     obtain ⟨c8, h⟩ := AQ h
     refine El (f := Al) AJ AJ Ec Nr Lb c8 rfl (qf BF rfl (qs T3 rfl (Ae (Ab (Aa Ac rfl (qf I5 rfl (ql Bo rfl (qf Ve rfl (ql QY rfl (qm rfl ?_))))))))))
     obtain ⟨v9, a9, h⟩ := bind_some h
     refine AG [] (JO N p0.fNow v4.2.2.2 v9 a9) X8 rfl (qm rfl ?_)
     obtain ⟨c10, h⟩ := AQ h
     refine K6 rfl c10 (EU AJ Ec Lb rfl ?_)
     obtain ⟨c11, h⟩ := AQ h
     refine El (f := Al) AJ AJ Ec Nr Lb c11 rfl (qf I5 rfl (qs T3 rfl (AA (by kernel_rfl) (Aa Ac rfl (qf JF rfl (ql Bo rfl (qf VL rfl (ql QY rfl (qm rfl ?_)))))))))
     obtain ⟨v12, a12, h⟩ := bind_some h
     refine AG [] (JO N p0.fTarget v4.2.2.2 v12 a12) X8 rfl (qm rfl ?_)
     obtain ⟨c13, h⟩ := AQ h
     refine K6 rfl c13 (EU AJ Ec Lb rfl ?_)
     obtain ⟨c14, h⟩ := AQ h
     refine El (f := Al) AJ AJ Ec Nr Lb c14 rfl (qf JF rfl (qs T3 rfl (AA (by kernel_rfl) (Aa Ac rfl (qm rfl (AN rfl (qa rfl (Ae ?_))))))))
     exact Au _ h (sm [(2005, 40), (2006, 51), (2007, 62)] _ _ rfl rfl)
    ·have h := An c6 h
     refine AP ?_
     exact Au _ h (sm [(2008, 2005), (2009, 2006), (2010, 2007)] _ _ rfl rfl)
   ·refine Am hs (Ab (Ab (Aa Ac rfl (qa rfl (Ae ?_)))))
    refine AC (L := BV N p0 v5) h (fun v15 => mk [(1, .e (.one (.ptr 1 0))), (2, .e (.one (.ptr 2 0))), (4, .e (.one (.ptr 4 0))), (7, .e (.one (.pure (.val (.int .i64 v15.2)))))] [(1, .box [.pure (.sl (p0.fVersions.map Bg)), .pure (.sl (p0.fNow.map Bg)), .pure (.sl (p0.fTarget.map Bg)), .pure (.sl (p0.fLinks.map CW))]), (2, .box [.pure (.nil0), .pure (.nil0), .pure (.nil0), .pure (.nil0)]), (4, .box [.own 2014, .own 2015, .own 2016, .own 2017]), (2014, .vec 1 (v5.1.map Al)), (2015, .vec 1 (v5.2.1.map Al)), (2016, .vec 1 (v5.2.2.map Al)), (2017, .vec 6 (v15.1.map Ar))]) (fun v16 => mk [(2, .e (.one (.ptr 2 0))), (4, .e (.one (.ptr 4 0)))] [(2, .box [.pure (.nil0), .pure (.nil0), .pure (.nil0), .pure (.nil0)]), (4, .box [.own 2018, .own 2019, .own 2020, .own 2021]), (2018, .vec 1 (v5.1.map Al)), (2019, .vec 1 (v5.2.1.map Al)), (2020, .vec 1 (v5.2.2.map Al)), (2021, .vec 6 (v16.map Ar))]) (fun _ _ => rfl) ((AF 4 3 2039 6 _ rfl rfl rfl rfl).trans (sm [(2014, 2008), (2015, 2009), (2016, 2010), (2017, 2039)] _ _ rfl rfl)) (fun j15 n15 v15 h => ?_) (fun v16 s h hs => ?_)
    ·unfold BV at h
     refine Ab ?_
     refine AM h (fun v17 => mk [(1, .e (.one (.ptr 1 0))), (2, .e (.one (.ptr 2 0))), (4, .e (.one (.ptr 4 0))), (7, .e (.one (.pure (.val (.int .i64 v15.2))))), (74, .e (.one (.pure (.val (.bool v17)))))] [(1, .box [.pure (.sl (p0.fVersions.map Bg)), .pure (.sl (p0.fNow.map Bg)), .pure (.sl (p0.fTarget.map Bg)), .pure (.sl (p0.fLinks.map CW))]), (2, .box [.pure (.nil0), .pure (.nil0), .pure (.nil0), .pure (.nil0)]), (4, .box [.own 2022, .own 2023, .own 2024, .own 2025]), (2022, .vec 1 (v5.1.map Al)), (2023, .vec 1 (v5.2.1.map Al)), (2024, .vec 1 (v5.2.2.map Al)), (2025, .vec 6 (v15.1.map Ar))]) (fun j17 h => ?_) (fun v17 h => ?_)
     ·refine Aa Ac rfl (qm rfl (qf QA rfl (ql Ww rfl (AU TM rfl (AT rfl (qm rfl ?_))))))
      refine AD (t := 69) rfl (fun c18 => ?_) (fun c18 => ?_)
      ·have h := Ao c18 h
       refine qf BF rfl (ql Bo rfl (FL AJ rfl (Fv rfl (qp rfl (Ae ?_)))))
       exact Au _ h (sm [(2022, 2014), (2023, 2015), (2024, 2016), (2025, 2017)] _ _ rfl rfl)
      ·have h := An c18 h
       refine qn rfl (qn rfl (qn rfl (qn rfl (qp rfl (Ae ?_)))))
       exact Au _ h (sm [(2022, 2014), (2023, 2015), (2024, 2016), (2025, 2017)] _ _ rfl rfl)
     ·refine Ap rfl (fun c19 => ?_) (fun c19 => ?_)
      ·have h := Ao c19 h
       refine Aq (Ab (AH (Ab (Aa Ac rfl (qf QA rfl (ql Ww rfl (qm rfl ?_)))))))
       obtain ⟨v20, a20, b20, h⟩ := Ai h
       refine qi TM UB a20 (Ah b20) rfl (qK Yh UB rfl (qz YG rfl (qs UB rfl (Ae (Ab (Aa Ac rfl (qf TY rfl (ql Xi rfl (K6 rfl (by decide) (Hj Vg SI rfl (AN rfl (qf Un rfl (ql Xi rfl (Hj Vg SI rfl (qf BF rfl (ql Bo rfl (FL AJ rfl ?_)))))))))))))))))
       obtain ⟨c21, h⟩ := AQ h
       refine K6 rfl c21 (qf Ut rfl (ql Xi rfl (Hj Vg SI rfl (qf BF rfl (ql Bo rfl (FL AJ rfl ?_))))))
       obtain ⟨c22, h⟩ := AQ h
       refine K6 rfl c22 (Bq LW XG rfl (qz LW rfl (qs Fe rfl (AA (by kernel_rfl) ?_))))
       refine AM h (fun v23 => mk [(1, .e (.one (.ptr 1 0))), (2, .e (.one (.ptr 2 0))), (4, .e (.one (.ptr 4 0))), (7, .e (.one (.pure (.val (.int .i64 v15.2))))), (8, .e (.one (.ptr 8 0))), (9, .e (.one (.ptr 9 0)))] [(1, .box [.pure (.sl (p0.fVersions.map Bg)), .pure (.sl (p0.fNow.map Bg)), .pure (.sl (p0.fTarget.map Bg)), .pure (.sl (p0.fLinks.map CW))]), (2, .box [.pure (.nil0), .pure (.nil0), .pure (.nil0), .pure (.nil0)]), (4, .box [.own 2026, .own 2027, .own 2028, .own 2029]), (8, .box [.pure (.val (.int .u8 v20.fKind)), .pure (.val (.int .u8 v20.fFrom)), .pure (.val (.int .u8 v20.fTo)), .pure (.val (.bool v20.fAware)), .pure (.val (.int .u16 v20.fBad)), .pure (.val (.int .u16 v20.fLost))]), (9, .box [.pure (.val (.int .i64 ((IntKind.wrap .i64 (1 + (IntKind.wrap .i64 ((Int.tmod v20.fKind 4)))))))), .pure (.val (.int .i64 ((Int.tmod ((IntKind.wrap .i64 v20.fFrom)) ((v5.1.length : Int)))))), .pure (.val (.int .i64 ((Int.tmod ((IntKind.wrap .i64 v20.fTo)) ((v5.1.length : Int)))))), .pure (.val (.bool v23)), .pure (.nil0), .pure (.nil0)]), (2026, .vec 1 (v5.1.map Al)), (2027, .vec 1 (v5.2.1.map Al)), (2028, .vec 1 (v5.2.2.map Al)), (2029, .vec 6 (v15.1.map Ar))]) (fun j23 h => ?_) (fun v23 h => ?_)
       ·refine Aa Ac rfl (qf UQ rfl (ql SX rfl (qm rfl ?_)))
        refine AD (t := 104) rfl (fun c24 => ?_) (fun c24 => ?_)
        ·have h := Ao c24 h
         refine qL IN Fe rfl ?_
         obtain ⟨v25, a25, h⟩ := bind_some h
         refine AG [] (C1 N ((AO.mk ((IntKind.wrap .i64 (1 + (IntKind.wrap .i64 ((Int.tmod v20.fKind 4)))))) ((Int.tmod ((IntKind.wrap .i64 v20.fFrom)) ((v5.1.length : Int)))) ((Int.tmod ((IntKind.wrap .i64 v20.fTo)) ((v5.1.length : Int)))) false (([] : List (List Bool))) (([] : List (List Bool))))) v25 a25) PZ rfl (Cb rfl (qp rfl (qf Kl rfl (qs QO rfl (Ae ?_)))))
         exact Au _ h (sm [(2026, 2022), (2027, 2023), (2028, 2024), (2029, 2025)] _ _ rfl rfl)
        ·have h := An c24 h
         refine qn rfl (qn rfl (qn rfl (qp rfl (qf Kl rfl (qs QO rfl (Ae ?_))))))
         exact Au _ h (sm [(2026, 2022), (2027, 2023), (2028, 2024), (2029, 2025)] _ _ rfl rfl)
       ·refine Ab (Aa Ac rfl (qf BF rfl (ql Bo rfl (qf D3 rfl (ql CN rfl ?_)))))
        obtain ⟨v26, a26, b26, h⟩ := Ai h
        refine qI AJ Ec a26 (Ah b26) rfl (qj CN (Ah b26) rfl (qf BF rfl (ql Bo rfl (qf Jy rfl (ql CN rfl ?_)))))
        obtain ⟨v27, a27, b27, h⟩ := Ai h
        refine qI AJ Ec a27 (Ah b27) rfl (qj CN (Ah b27) rfl (qf U1 rfl (ql YM rfl ?_)))
        obtain ⟨v28, a28, h⟩ := bind_some h
        refine AG [2030] (JZ N v26 v27 v20.fBad false v28 a28) X1 rfl (qf K4 rfl (qs XL rfl (AA (by kernel_rfl) ?_)))
        refine AM h (fun v29 => mk [(1, .e (.one (.ptr 1 0))), (2, .e (.one (.ptr 2 0))), (4, .e (.one (.ptr 4 0))), (7, .e (.one (.pure (.val (.int .i64 v15.2))))), (9, .e (.one (.ptr 9 0)))] [(1, .box [.pure (.sl (p0.fVersions.map Bg)), .pure (.sl (p0.fNow.map Bg)), .pure (.sl (p0.fTarget.map Bg)), .pure (.sl (p0.fLinks.map CW))]), (2, .box [.pure (.nil0), .pure (.nil0), .pure (.nil0), .pure (.nil0)]), (4, .box [.own 2031, .own 2032, .own 2033, .own 2034]), (9, .box [.pure (.val (.int .i64 ((IntKind.wrap .i64 (1 + (IntKind.wrap .i64 ((Int.tmod v20.fKind 4)))))))), .pure (.val (.int .i64 ((Int.tmod ((IntKind.wrap .i64 v20.fFrom)) ((v5.1.length : Int)))))), .pure (.val (.int .i64 ((Int.tmod ((IntKind.wrap .i64 v20.fTo)) ((v5.1.length : Int)))))), .pure (.val (.bool v23)), .own 2035, .own 2036]), (2031, .vec 1 (v5.1.map Al)), (2032, .vec 1 (v5.2.1.map Al)), (2033, .vec 1 (v5.2.2.map Al)), (2034, .vec 6 (v15.1.map Ar)), (2035, .vec 1 (v28.map (FZ eB))), (2036, .vec 1 (v29.map (FZ eB)))]) (fun j29 h => ?_) (fun v29 h => ?_)
        ·refine Ab (Aa Ac rfl (qf Hh rfl (ql CN rfl (BX rfl (Ae ?_)))))
         refine Ap rfl (fun c30 => ?_) (fun c30 => ?_)
         ·have h := Ao c30 h
          refine Aa Ac rfl (qf BF rfl (ql Bo rfl (qf D3 rfl (ql CN rfl ?_))))
          obtain ⟨v31, a31, b31, h⟩ := Ai h
          refine qI AJ Ec a31 (Ah b31) rfl (qj CN (Ah b31) rfl (qf BF rfl (ql Bo rfl (qf D3 rfl (ql CN rfl ?_)))))
          obtain ⟨v32, a32, b32, h⟩ := Ai h
          refine qI AJ Ec a32 (Ah b32) rfl (qj CN (Ah b32) rfl (qf T7 rfl (ql YM rfl ?_)))
          obtain ⟨v33, a33, h⟩ := bind_some h
          refine AG [2037] (JZ N v31 v32 v20.fLost true v33 a33) X1 rfl (qf H9 rfl (qs XL rfl (AA (by kernel_rfl) ?_)))
          exact Au _ h (sm [(2031, 2026), (2032, 2027), (2033, 2028), (2034, 2029), (2035, 2030), (2036, 2037)] _ _ rfl rfl)
         ·have h := An c30 h
          refine Aq ?_
          exact Au _ h ((AF 9 5 2038 1 _ rfl rfl rfl rfl).trans (sm [(2031, 2026), (2032, 2027), (2033, 2028), (2034, 2029), (2035, 2030), (2036, 2038)] _ _ rfl rfl))
        ·refine Aa Ac rfl (qf DS rfl (ql IM rfl (qL IN Fe rfl (Ev (Bm 2035 _ _ rfl rfl) (Ev (Bm 2036 _ _ rfl rfl) (EU Fk Fe LW rfl ?_))))))
         obtain ⟨c34, h⟩ := AQ h
         refine El (f := Ar) Fk Fk Fe Yx LW c34 rfl (qf DS rfl (qs ZF rfl (Ae (Aa Ac rfl (qm rfl (AN rfl (qa rfl (Ae ?_))))))))
         exact Au _ h (sm [(2014, 2031), (2015, 2032), (2016, 2033), (2017, 149)] _ _ rfl rfl)
      ·have h := An c19 h
       refine AP ?_
       exact Au _ h (sm [(2018, 2022), (2019, 2023), (2020, 2024), (2021, 2025)] _ _ rfl rfl)
    ·refine Am hs (Ab (Aa Ac rfl (qL EH Ep rfl (qs Ep rfl (qa rfl (Ae ?_))))))
     obtain rfl := sj h
     refine Am (sm [(1000, 2018), (1001, 2019), (1002, 2020), (1003, 2021)] [(2, .e (.one (.ptr 2 0))), (3, .e (.one (.pure (.val (.bool true)))))] [(2, .box [.own 1000, .own 1001, .own 1002, .own 1003]), (1000, .vec 1 (v5.1.map Al)), (1001, .vec 1 (v5.2.1.map Al)), (1002, .vec 1 (v5.2.2.map Al)), (1003, .vec 6 (v16.map Ar))] rfl rfl) (Az ?_)
     exact ⟨⟨[_, _], ⟨.cellN _ _ _ _ _ _ _ rfl rfl EH Ep rfl rfl (Jw rfl), ⟨.tmp _ _ rfl, trivial⟩⟩, rfl⟩, ⟨rfl, rfl, rfl, rfl, trivial⟩⟩
set_option maxRecDepth 10000 in
theorem DR (N : Nat) (r : Ak) (h : Cp N = some r) : AB Tryz.prog 39 [] [(1, r.fVersions.map Al), (1, r.fNow.map Al), (1, r.fTarget.map Al), (6, r.fTables.map Ar)] (.e (.agg [.own 0, .own 1, .own 2, .own 3])) := by
 unfold Cp at h
 refine As (n := 10) (rs := [.cell 0 29]) Tryz.func39 rfl rfl rfl (A3 rfl) (A3 rfl) rfl fun w0 S0 => ?_
 refine Ab (Aa Ac rfl (qz Tf rfl (Ae (Ab (Aa Ac rfl (EU AJ Ec Lb rfl (EU AJ Ec Lb rfl (EU AJ Ec Lb rfl (EU HY QO Vp rfl (EU HY QO Vp rfl (Ev (Bm 4 _ _ rfl rfl) (Ev (Bm 5 _ _ rfl rfl) (EU HK N2 WM rfl (Bq LW XG rfl (Ev (Bm 6 _ _ rfl rfl) (EU Fk Fe LW rfl (Bq Tf XV rfl (qs Ep rfl (Ae ?_)))))))))))))))))))
 obtain rfl := sj h
 refine Am (sm [(1000, 1), (1001, 2), (1002, 3), (1003, 8)] [(0, .e (.one (.ptr 0 0)))] [(0, .box [.own 1000, .own 1001, .own 1002, .own 1003]), (1000, .vec 1 ((([2] : List Int)).map Al)), (1001, .vec 1 ((([0] : List Int)).map Al)), (1002, .vec 1 ((([1] : List Int)).map Al)), (1003, .vec 6 ((([(AO.mk 1 0 0 false (([([true, true] : List Bool), ([false, true] : List Bool)] : List (List Bool))) (([] : List (List Bool))))] : List AO)).map Ar))] rfl rfl) (Az ?_)
 exact ⟨⟨[_], ⟨.cellN _ _ _ _ _ _ _ rfl rfl EH Ep rfl rfl (Jw rfl), trivial⟩, rfl⟩, ⟨rfl, rfl, rfl, rfl, trivial⟩⟩
set_option maxRecDepth 10000 in
theorem Iy (N : Nat) (p0 : Int) (p1 : Int) (r : Bool) (h : E3 N p0 p1 = some r) : AB Tryz.prog 102 [.e (.one (.pure (.val (.int .i64 p0)))), .e (.one (.pure (.val (.int .i64 p1))))] [] (.e (.one (.pure (.val (.bool r))))) := by
 unfold E3 at h
 refine As (n := 12) (rs := [.tmp 4]) Tryz.func102 rfl rfl rfl (A3 rfl) (A3 rfl) rfl fun w0 S0 => ?_
 refine Ab (Aa Ac rfl (qa rfl (Ae ?_)))
 refine AM h (fun v1 => mk [(4, .e (.one (.pure (.val (.bool v1)))))] []) (fun j1 h => ?_) (fun v1 h => ?_)
 ·refine Aa Ac rfl (qm rfl (Db rfl (qm rfl ?_)))
  refine AD (t := 7) rfl (fun c2 => ?_) (fun c2 => ?_)
  ·have h := Ao c2 h
   refine qm rfl (qm rfl (AT rfl (qp rfl (qa rfl (Ae ?_)))))
   exact Au _ h (sm [] _ _ rfl rfl)
  ·have h := An c2 h
   refine qn rfl (qn rfl (qn rfl (qp rfl (qa rfl (Ae ?_)))))
   exact Au _ h (sm [] _ _ rfl rfl)
 ·obtain rfl := sj h
  refine Am (sm [] [(4, .e (.one (.pure (.val (.bool v1)))))] [] rfl rfl) (Az ?_)
  exact ⟨⟨[_], ⟨.tmp _ _ rfl, trivial⟩, rfl⟩, trivial⟩
set_option maxRecDepth 10000 in
theorem P5 (N : Nat) (p0 : Int) (p1 : Bool) (r : Bool) (h : HX N p0 p1 = some r) : AB Tryz.prog 130 [.e (.one (.pure (.val (.int .i64 p0)))), .e (.one (.pure (.val (.bool p1))))] [] (.e (.one (.pure (.val (.bool r))))) := by
 unfold HX at h
 refine As (n := 23) (rs := [.tmp 4]) Tryz.func130 rfl rfl rfl (A3 rfl) (A3 rfl) rfl fun w0 S0 => ?_
 refine Ab (Aa Ac rfl (qa rfl (Ae ?_)))
 refine AM h (fun v1 => mk [(4, .e (.one (.pure (.val (.bool v1)))))] []) (fun j1 h => ?_) (fun v1 h => ?_)
 ·refine Aa Ac rfl (qm rfl (BX rfl (qm rfl ?_)))
  refine AD (t := 7) rfl (fun c2 => ?_) (fun c2 => ?_)
  ·have h := Ao c2 h
   refine qn rfl (qn rfl (qp rfl (qm rfl (qn rfl (qn rfl (qn rfl (qu rfl (qu rfl (qn rfl (qn rfl (qu rfl (qu rfl (qn rfl (qp rfl (qa rfl (Ae ?_))))))))))))))))
   exact Au _ h (sm [] _ _ rfl rfl)
  ·have h := An c2 h
   refine qm rfl (BX rfl (qp rfl (qm rfl ?_)))
   refine AD (t := 11) rfl (fun c3 => ?_) (fun c3 => ?_)
   ·have h := Ao c3 h
    refine qn rfl (qn rfl (qn rfl (qu rfl (qu rfl (qn rfl (qn rfl (qu rfl (qu rfl (qn rfl (qp rfl (qa rfl (Ae ?_))))))))))))
    exact Au _ h (sm [] _ _ rfl rfl)
   ·have h := An c3 h
    refine qm rfl (BX rfl (qm rfl ?_))
    refine AD (t := 14) rfl (fun c4 => ?_) (fun c4 => ?_)
    ·have h := Ao c4 h
     refine qn rfl (qn rfl (qp rfl (qm rfl (qm rfl (Cb rfl (qp rfl (qp rfl (qa rfl (Ae ?_)))))))))
     exact Au _ h (sm [] _ _ rfl rfl)
    ·have h := An c4 h
     refine qm rfl (BX rfl (qp rfl (qm rfl ?_)))
     refine AD (t := 18) rfl (fun c5 => ?_) (fun c5 => ?_)
     ·have h := Ao c5 h
      refine qm rfl (Cb rfl (qp rfl (qp rfl (qa rfl (Ae ?_)))))
      exact Au _ h (sm [] _ _ rfl rfl)
     ·have h := An c5 h
      refine qn rfl (qn rfl (qp rfl (qp rfl (qa rfl (Ae ?_)))))
      exact Au _ h (sm [] _ _ rfl rfl)
 ·obtain rfl := sj h
  refine Am (sm [] [(4, .e (.one (.pure (.val (.bool v1)))))] [] rfl rfl) (Az ?_)
  exact ⟨⟨[_], ⟨.tmp _ _ rfl, trivial⟩, rfl⟩, trivial⟩
set_option maxRecDepth 10000 in
theorem Nk (N : Nat) (p0 : List Bool) (p1 : Int) (r : Bool) (h : E0 N p0 p1 = some r) : AB Tryz.prog 160 [.e (.one (.pure (.sl (p0.map eB)))), .e (.one (.rop [.val (.int .i64 p1)]))] [] (.e (.one (.pure (.val (.bool r))))) := by
 unfold E0 at h
 refine As (n := 8) (rs := [.tmp 3]) Tryz.func160 rfl rfl rfl (A3 rfl) (A3 rfl) rfl fun w0 S0 => ?_
 refine Ab (Aa Ac rfl (qa rfl (Ae (Ab (Aa Ac rfl (qm rfl (AU HY rfl (qk CN rfl (Ct rfl (qa rfl (Ae ?_)))))))))))
 obtain rfl := sj h
 refine Am (sm [] [(3, .e (.one (.pure (.val (.bool (((p0.length : Int) != p1)))))))] [] rfl rfl) (Az ?_)
 exact ⟨⟨[_], ⟨.tmp _ _ rfl, trivial⟩, rfl⟩, trivial⟩
set_option maxRecDepth 10000 in
theorem Jo (N : Nat) (p0 : List (List Bool)) (p1 : (List Bool) → Option Bool) (r : Int) (h : Es N p0 p1 = some r) : AB Tryz.prog 170 [.e (.one (.pure (.sl (p0.map (FZ eB))))), .e (.one (.clo (Bc (NS false (FZ eB)) tB p1)))] [] (.e (.one (.pure (.val (.int .i64 r))))) := by
 unfold Es at h
 refine As (n := 19) (rs := [.tmp 4]) Tryz.func170 rfl rfl rfl (A3 rfl) (A3 rfl) rfl fun w0 S0 => ?_
 refine Ab (Aa Ac rfl (qa rfl (Ae (Ab (Ab (Aa Ac rfl (qm rfl (AU HK rfl (qm rfl (Ae ?_))))))))))
 refine AC (L := BG N p0 p1) h (fun v1 => mk [(0, .e (.one (.pure (.sl (p0.map (FZ eB)))))), (1, .e (.one (.clo (Bc (NS false (FZ eB)) tB p1)))), (7, .e (.one (.pure (.val (.int .i64 ((p0.length : Int))))))), (8, .e (.one (.pure (.val (.int .i64 v1)))))] []) (fun v2 => mk [] []) (fun _ _ => rfl) (sm [] _ _ rfl rfl) (fun j1 n1 v1 h => ?_) (fun v2 s h hs => ?_)
 ·unfold BG at h
  refine Ab (Aa Ac rfl (AT rfl (Ae (Ab ?_))))
  refine Ap rfl (fun c3 => ?_) (fun c3 => ?_)
  ·have h := Ao c3 h
   refine Aq (Ab (AH (Ab (Aa Ac rfl (qm rfl (qa rfl (Ae (Ab (Aa Ac rfl (qm rfl (qm rfl (qm rfl ?_))))))))))))
   obtain ⟨v4, a4, b4, h⟩ := Ai h
   refine qi HK N2 a4 (Ah b4) rfl (qk Qs rfl ?_)
   obtain ⟨v5, a5, h⟩ := bind_some h
   refine C9 (ds0 := [_]) (ar := (NS false (FZ eB)) v4) (.p rfl) rfl rfl ⟨rfl, trivial⟩ rfl rfl rfl (C2 (My _ _ (Xl Zw)) a5) ?_
   refine Ae ?_
   refine Ap rfl (fun c6 => ?_) (fun c6 => ?_)
   ·have h := Ao c6 h
    refine Ab (Aa Ac rfl (qm rfl (qa rfl (Ae ?_))))
    obtain rfl := sj h
    refine Am (sm [] [(4, .e (.one (.pure (.val (.int .i64 v1)))))] [] rfl rfl) (Az ?_)
    exact ⟨⟨[_], ⟨.tmp _ _ rfl, trivial⟩, rfl⟩, trivial⟩
   ·have h := An c6 h
    refine Aq (Aa Ac rfl (AN rfl (qm rfl (Ae ?_))))
    exact Au _ h (sm [] _ _ rfl rfl)
  ·have h := An c3 h
   refine AP ?_
   exact Au _ h (sm [] _ _ rfl rfl)
 ·refine Am hs (Ab (Aa Ac rfl (qa rfl (Ae ?_))))
  obtain rfl := sj h
  refine Am (sm [] [(4, .e (.one (.pure (.val (.int .i64 ((-1)))))))] [] rfl rfl) (Az ?_)
  exact ⟨⟨[_], ⟨.tmp _ _ rfl, trivial⟩, rfl⟩, trivial⟩
set_option maxRecDepth 10000 in
theorem IL (N : Nat) (p0 : List (List Bool)) (p1 : (List Bool) → Option Bool) (r : Bool) (h : DT N p0 p1 = some r) : AB Tryz.prog 159 [.e (.one (.pure (.sl (p0.map (FZ eB))))), .e (.one (.clo (Bc (NS false (FZ eB)) tB p1)))] [] (.e (.one (.pure (.val (.bool r))))) := by
 unfold DT at h
 refine As (n := 9) (rs := [.tmp 4]) Tryz.func159 rfl rfl rfl (A3 rfl) (A3 rfl) rfl fun w0 S0 => ?_
 refine Ab (Aa Ac rfl (qa rfl (Ae (Ab (Aa Ac rfl (qm rfl (qm rfl ?_)))))))
 obtain ⟨v1, a1, h⟩ := bind_some h
 refine AG [] (Jo N p0 p1 v1 a1) X3 rfl (Db rfl (qa rfl (Ae ?_)))
 obtain rfl := sj h
 refine Am (sm [] [(4, .e (.one (.pure (.val (.bool ((decide (0 ≤ v1))))))))] [] rfl rfl) (Az ?_)
 exact ⟨⟨[_], ⟨.tmp _ _ rfl, trivial⟩, rfl⟩, trivial⟩
set_option maxRecDepth 10000 in
theorem LM (N : Nat) (p0 : List (List Bool)) (p1 : Int) (p2 : Int) (r : Bool) (h : Ga N p0 p1 p2 = some r) : AB Tryz.prog 131 [.e (.one (.pure (.sl (p0.map (FZ eB))))), .e (.one (.pure (.val (.int .i64 p1)))), .e (.one (.pure (.val (.int .i64 p2))))] [] (.e (.one (.pure (.val (.bool r))))) := by
 unfold Ga at h
 refine As (n := 17) (rs := [.tmp 6]) Tryz.func131 rfl rfl rfl (A3 rfl) (A3 rfl) rfl fun w0 S0 => ?_
 refine Ab (Aa Ac rfl (qb rfl (qa rfl (Ae ?_))))
 refine AM h (fun v1 => mk [(6, .e (.one (.pure (.val (.bool v1)))))] []) (fun j1 h => ?_) (fun v1 h => ?_)
 ·refine Aa Ac rfl (qm rfl (AU HK rfl (qm rfl (BX rfl (qm rfl ?_)))))
  refine AD (t := 11) rfl (fun c2 => ?_) (fun c2 => ?_)
  ·have h := Ao c2 h
   refine qm rfl (Ev (MO 5 [.val (.int .i64 p2)] rfl rfl) ?_)
   refine Mn (capD := [_]) (Bc (NS false (FZ eB)) tB ((fun (x : List Bool) => E0 N x p2))) (.g rfl rfl) XO rfl ⟨rfl, trivial⟩ rfl (fun ar t ht => by obtain ⟨x, r, rfl, hq, rfl⟩ := IX ht; exact Nk N x p2 r hq) ?_
   obtain ⟨v3, a3, h⟩ := bind_some h
   refine AG [] (IL N p0 ((fun (x : List Bool) => E0 N x p2)) v3 a3) X9 rfl (Cb rfl (qp rfl (qa rfl (Ae ?_))))
   exact Au _ h (sm [] _ _ rfl rfl)
  ·have h := An c2 h
   refine qn rfl (qn rfl (qn rfl (qn rfl (qp rfl (qa rfl (Ae ?_))))))
   exact Au _ h (sm [] _ _ rfl rfl)
 ·obtain rfl := sj h
  refine Am (sm [] [(6, .e (.one (.pure (.val (.bool v1)))))] [] rfl rfl) (Az ?_)
  exact ⟨⟨[_], ⟨.tmp _ _ rfl, trivial⟩, rfl⟩, trivial⟩
set_option maxRecDepth 10000 in
theorem Pb (N : Nat) (p0 : Ak) (p1 : AO) (r : Int) (h : Hv N p0 p1 = some r) : AB Tryz.prog 103 [.e (.agg [.pure (.sl (p0.fVersions.map Al)), .pure (.sl (p0.fNow.map Al)), .pure (.sl (p0.fTarget.map Al)), .pure (.sl (p0.fTables.map Ar))]), .e (.agg [.pure (.val (.int .i64 p1.fKind)), .pure (.val (.int .i64 p1.fFrom)), .pure (.val (.int .i64 p1.fTo)), .pure (.val (.bool p1.fAware)), .pure (.sl (p1.fOK.map (FZ eB))), .pure (.sl (p1.fRewrite.map (FZ eB)))])] [] (.e (.one (.pure (.val (.int .i64 r))))) := by
 unfold Hv at h
 refine As (n := 87) (rs := [.tmp 4]) Tryz.func103 rfl rfl rfl (A3 rfl) (A3 rfl) rfl fun w0 S0 => ?_
 refine Ab (Aa Ac rfl (qb rfl (qb rfl (qa rfl (Ae (Ab (Ab (Aa Ac rfl (qf Hh rfl (ql CN rfl (qf Kl rfl (ql SX rfl ?_))))))))))))
 obtain ⟨v1, a1, h⟩ := bind_some h
 refine AG [] (P5 N p1.fKind p1.fAware v1 a1) XF rfl (Cb rfl (Ae ?_))
 refine Ap rfl (fun c2 => ?_) (fun c2 => ?_)
 ·have h := Ao c2 h
  refine Ab (Aa Ac rfl (qa rfl (Ae ?_)))
  obtain rfl := sj h
  refine Am (sm [] [(4, .e (.one (.pure (.val (.int .i64 1)))))] [] rfl rfl) (Az ?_)
  exact ⟨⟨[_], ⟨.tmp _ _ rfl, trivial⟩, rfl⟩, trivial⟩
 ·have h := An c2 h
  refine Aq (Ab ?_)
  refine AM h (fun v3 => mk [(2, .e (.one (.ptr 2 0))), (3, .e (.one (.ptr 3 0))), (29, .e (.one (.pure (.val (.bool v3)))))] [(2, .box [.pure (.sl (p0.fVersions.map Al)), .pure (.sl (p0.fNow.map Al)), .pure (.sl (p0.fTarget.map Al)), .pure (.sl (p0.fTables.map Ar))]), (3, .box [.pure (.val (.int .i64 p1.fKind)), .pure (.val (.int .i64 p1.fFrom)), .pure (.val (.int .i64 p1.fTo)), .pure (.val (.bool p1.fAware)), .pure (.sl (p1.fOK.map (FZ eB))), .pure (.sl (p1.fRewrite.map (FZ eB)))])]) (fun j3 h => ?_) (fun v3 h => ?_)
  ·refine Aa Ac rfl (qf D3 rfl (ql CN rfl (qf BF rfl (ql Bo rfl (AU AJ rfl ?_)))))
   obtain ⟨v4, a4, h⟩ := bind_some h
   refine AG [] (Iy N p1.fFrom ((p0.fVersions.length : Int)) v4 a4) SJ rfl (Cb rfl (qm rfl ?_))
   refine AD (t := 21) rfl (fun c5 => ?_) (fun c5 => ?_)
   ·have h := Ao c5 h
    refine qn rfl (qn rfl (qn rfl (qn rfl (qn rfl (qn rfl (qn rfl (qp rfl (Ae ?_))))))))
    exact Au _ h (sm [] _ _ rfl rfl)
   ·have h := An c5 h
    refine qf Jy rfl (ql CN rfl (qf BF rfl (ql Bo rfl (AU AJ rfl ?_))))
    obtain ⟨v6, a6, h⟩ := bind_some h
    refine AG [] (Iy N p1.fTo ((p0.fVersions.length : Int)) v6 a6) SJ rfl (Cb rfl (qp rfl (Ae ?_)))
    exact Au _ h (sm [] _ _ rfl rfl)
  ·refine Ap rfl (fun c7 => ?_) (fun c7 => ?_)
   ·have h := Ao c7 h
    refine Ab (Aa Ac rfl (qa rfl (Ae ?_)))
    obtain rfl := sj h
    refine Am (sm [] [(4, .e (.one (.pure (.val (.int .i64 4)))))] [] rfl rfl) (Az ?_)
    exact ⟨⟨[_], ⟨.tmp _ _ rfl, trivial⟩, rfl⟩, trivial⟩
   ·have h := An c7 h
    refine Aq (Ab (Aa Ac rfl (qf BF rfl (ql Bo rfl (qf D3 rfl (ql CN rfl ?_))))))
    obtain ⟨v8, a8, b8, h⟩ := Ai h
    refine qi AJ Ec a8 (Ah b8) rfl (qk CN rfl (qa rfl (Ae (Ab (Aa Ac rfl (qf Hh rfl (ql CN rfl (BX rfl (qa rfl (Ae (Ab ?_)))))))))))
    refine AM h (fun v9 => mk [(3, .e (.one (.ptr 3 0))), (70, .e (.one (.pure (.val (.bool v9)))))] [(3, .box [.pure (.val (.int .i64 p1.fKind)), .pure (.val (.int .i64 p1.fFrom)), .pure (.val (.int .i64 p1.fTo)), .pure (.val (.bool p1.fAware)), .pure (.sl (p1.fOK.map (FZ eB))), .pure (.sl (p1.fRewrite.map (FZ eB)))])]) (fun j9 h => ?_) (fun v9 h => ?_)
    ·refine Aa Ac rfl (qf K4 rfl (ql Lz rfl (qm rfl (qf BF rfl (ql Bo rfl (qf Jy rfl (ql CN rfl ?_)))))))
     obtain ⟨v10, a10, b10, h⟩ := Ai h
     refine qi AJ Ec a10 (Ah b10) rfl (qk CN rfl ?_)
     obtain ⟨v11, a11, h⟩ := bind_some h
     refine AG [] (LM N p1.fOK v8 v10 v11 a11) V6 rfl (Cb rfl (qm rfl ?_))
     refine AD (t := 50) rfl (fun c12 => ?_) (fun c12 => ?_)
     ·have h := Ao c12 h
      refine qn rfl (qn rfl (qu rfl (qu rfl (qu rfl (qu rfl (qu rfl (qu rfl (qn rfl (qp rfl (qm rfl (qn rfl (qn rfl (qn rfl (qu rfl (qu rfl (qu rfl (qu rfl (qn rfl (qp rfl (AA (by kernel_rfl) ?_))))))))))))))))))))
      exact Au _ h (sm [] _ _ rfl rfl)
     ·have h := An c12 h
      refine qm rfl (qm rfl ?_)
      refine AD (t := 52) rfl (fun c13 => ?_) (fun c13 => ?_)
      ·have h := Ao c13 h
       refine qf H9 rfl (ql Lz rfl (qm rfl (qm rfl ?_)))
       obtain ⟨v14, a14, h⟩ := bind_some h
       refine AG [] (LM N p1.fRewrite v8 v8 v14 a14) V6 rfl (Cb rfl (qp rfl (qp rfl (qm rfl ?_))))
       refine AD (t := 61) rfl (fun c15 => ?_) (fun c15 => ?_)
       ·have h := Ao c15 h
        refine qn rfl (qn rfl (qn rfl (qu rfl (qu rfl (qu rfl (qu rfl (qn rfl (qp rfl (AA (by kernel_rfl) ?_)))))))))
        exact Au _ h (sm [] _ _ rfl rfl)
       ·have h := An c15 h
        refine qm rfl (Cb rfl (qm rfl ?_))
        refine AD (t := 64) rfl (fun c16 => ?_) (fun c16 => ?_)
        ·have h := Ao c16 h
         refine qf H9 rfl (ql Lz rfl (AU HK rfl (Fv rfl (qp rfl (qp rfl (AA (by kernel_rfl) ?_))))))
         exact Au _ h (sm [] _ _ rfl rfl)
        ·have h := An c16 h
         refine qn rfl (qn rfl (qn rfl (qn rfl (qp rfl (qp rfl (AA (by kernel_rfl) ?_))))))
         exact Au _ h (sm [] _ _ rfl rfl)
      ·have h := An c13 h
       refine qn rfl (qn rfl (qn rfl (qn rfl (qn rfl (qn rfl (qp rfl (qp rfl (qm rfl (qm rfl (Cb rfl (qm rfl ?_)))))))))))
       refine AD (t := 64) rfl (fun c17 => ?_) (fun c17 => ?_)
       ·have h := Ao c17 h
        refine qf H9 rfl (ql Lz rfl (AU HK rfl (Fv rfl (qp rfl (qp rfl (AA (by kernel_rfl) ?_))))))
        exact Au _ h (sm [] _ _ rfl rfl)
       ·have h := An c17 h
        refine qn rfl (qn rfl (qn rfl (qn rfl (qp rfl (qp rfl (AA (by kernel_rfl) ?_))))))
        exact Au _ h (sm [] _ _ rfl rfl)
    ·refine Ap rfl (fun c18 => ?_) (fun c18 => ?_)
     ·have h := Ao c18 h
      refine Ab (Aa Ac rfl (qa rfl (Ae ?_)))
      obtain rfl := sj h
      refine Am (sm [] [(4, .e (.one (.pure (.val (.int .i64 6)))))] [] rfl rfl) (Az ?_)
      exact ⟨⟨[_], ⟨.tmp _ _ rfl, trivial⟩, rfl⟩, trivial⟩
     ·have h := An c18 h
      refine Aq (Ab (Ab (Aa Ac rfl (qf H9 rfl (ql Lz rfl (AU HK rfl (qm rfl (Ae ?_))))))))
      refine AC (L := D5 N p1) h (fun v19 => mk [(3, .e (.one (.ptr 3 0))), (73, .e (.one (.pure (.val (.int .i64 ((p1.fRewrite.length : Int))))))), (74, .e (.one (.pure (.val (.int .i64 v19)))))] [(3, .box [.pure (.val (.int .i64 p1.fKind)), .pure (.val (.int .i64 p1.fFrom)), .pure (.val (.int .i64 p1.fTo)), .pure (.val (.bool p1.fAware)), .pure (.sl (p1.fOK.map (FZ eB))), .pure (.sl (p1.fRewrite.map (FZ eB)))])]) (fun v20 => mk [] []) (fun _ _ => rfl) (sm [] _ _ rfl rfl) (fun j19 n19 v19 h => ?_) (fun v20 s h hs => ?_)
      ·unfold D5 at h
       refine Ab (Aa Ac rfl (AT rfl (Ae (Ab ?_))))
       refine Ap rfl (fun c21 => ?_) (fun c21 => ?_)
       ·have h := Ao c21 h
        refine Aq (Ab (AH (Ab (Aa Ac rfl (qm rfl (qa rfl (Ae (Ab (Aa Ac rfl (qf H9 rfl (ql Lz rfl (qm rfl ?_))))))))))))
        obtain ⟨v22, a22, b22, h⟩ := Ai h
        refine qi HK N2 a22 (Ah b22) rfl (qk Qs rfl (qm rfl ?_))
        obtain ⟨v23, a23, b23, h⟩ := Ai h
        refine qi HY QO a23 (Ah b23) rfl (qk SX rfl (Cb rfl (Ae ?_)))
        refine Ap rfl (fun c24 => ?_) (fun c24 => ?_)
        ·have h := Ao c24 h
         refine Ab (Aa Ac rfl (qa rfl (Ae ?_)))
         obtain rfl := sj h
         refine Am (sm [] [(4, .e (.one (.pure (.val (.int .i64 1)))))] [] rfl rfl) (Az ?_)
         exact ⟨⟨[_], ⟨.tmp _ _ rfl, trivial⟩, rfl⟩, trivial⟩
        ·have h := An c24 h
         refine Aq (Aa Ac rfl (AN rfl (qm rfl (Ae ?_))))
         exact Au _ h (sm [] _ _ rfl rfl)
       ·have h := An c21 h
        refine AP ?_
        exact Au _ h (sm [] _ _ rfl rfl)
      ·refine Am hs (Ab (Aa Ac rfl (qa rfl (Ae ?_))))
       obtain rfl := sj h
       refine Am (sm [] [(4, .e (.one (.pure (.val (.int .i64 0)))))] [] rfl rfl) (Az ?_)
       exact ⟨⟨[_], ⟨.tmp _ _ rfl, trivial⟩, rfl⟩, trivial⟩
set_option maxRecDepth 10000 in
theorem Gd (N : Nat) (p0 : Ak) (r : Int) (h : Dl N p0 = some r) : AB Tryz.prog 58 [.e (.agg [.pure (.sl (p0.fVersions.map Al)), .pure (.sl (p0.fNow.map Al)), .pure (.sl (p0.fTarget.map Al)), .pure (.sl (p0.fTables.map Ar))])] [] (.e (.one (.pure (.val (.int .i64 r))))) := by
 unfold Dl at h
 refine As (n := 81) (rs := [.tmp 2]) Tryz.func58 rfl rfl rfl (A3 rfl) (A3 rfl) rfl fun w0 S0 => ?_
 refine Ab (Aa Ac rfl (qb rfl (qa rfl (Ae (Ab (Aa Ac rfl (qf BF rfl (ql Bo rfl (AU AJ rfl (qa rfl (Ae (Ab ?_))))))))))))
 refine AM h (fun v1 => mk [(1, .e (.one (.ptr 1 0))), (3, .e (.one (.pure (.val (.int .i64 ((p0.fVersions.length : Int))))))), (19, .e (.one (.pure (.val (.bool v1)))))] [(1, .box [.pure (.sl (p0.fVersions.map Al)), .pure (.sl (p0.fNow.map Al)), .pure (.sl (p0.fTarget.map Al)), .pure (.sl (p0.fTables.map Ar))])]) (fun j1 h => ?_) (fun v1 h => ?_)
 ·refine Aa Ac rfl (qm rfl (Fv rfl (qm rfl ?_)))
  refine AD (t := 14) rfl (fun c2 => ?_) (fun c2 => ?_)
  ·have h := Ao c2 h
   refine qn rfl (qn rfl (qn rfl (qn rfl (qp rfl (Ae ?_)))))
   exact Au _ h (sm [] _ _ rfl rfl)
  ·have h := An c2 h
   refine qf DS rfl (ql IM rfl (AU Fk rfl (Fv rfl (qp rfl (Ae ?_)))))
   exact Au _ h (sm [] _ _ rfl rfl)
 ·refine Ap rfl (fun c3 => ?_) (fun c3 => ?_)
  ·have h := Ao c3 h
   refine Ab (Aa Ac rfl (qa rfl (Ae ?_)))
   obtain rfl := sj h
   refine Am (sm [] [(2, .e (.one (.pure (.val (.int .i64 3)))))] [] rfl rfl) (Az ?_)
   exact ⟨⟨[_], ⟨.tmp _ _ rfl, trivial⟩, rfl⟩, trivial⟩
  ·have h := An c3 h
   refine Aq (Ab ?_)
   refine AM h (fun v4 => mk [(1, .e (.one (.ptr 1 0))), (31, .e (.one (.pure (.val (.bool v4)))))] [(1, .box [.pure (.sl (p0.fVersions.map Al)), .pure (.sl (p0.fNow.map Al)), .pure (.sl (p0.fTarget.map Al)), .pure (.sl (p0.fTables.map Ar))])]) (fun j4 h => ?_) (fun v4 h => ?_)
   ·refine Aa Ac rfl (qf I5 rfl (ql Bo rfl (AU AJ rfl (qm rfl (Ct rfl (qm rfl ?_))))))
    refine AD (t := 25) rfl (fun c5 => ?_) (fun c5 => ?_)
    ·have h := Ao c5 h
     refine qn rfl (qn rfl (qn rfl (qn rfl (qn rfl (qp rfl (Ae ?_))))))
     exact Au _ h (sm [] _ _ rfl rfl)
    ·have h := An c5 h
     refine qf JF rfl (ql Bo rfl (AU AJ rfl (qm rfl (Ct rfl (qp rfl (Ae ?_))))))
     exact Au _ h (sm [] _ _ rfl rfl)
   ·refine Ap rfl (fun c6 => ?_) (fun c6 => ?_)
    ·have h := Ao c6 h
     refine Ab (Aa Ac rfl (qa rfl (Ae ?_)))
     obtain rfl := sj h
     refine Am (sm [] [(2, .e (.one (.pure (.val (.int .i64 6)))))] [] rfl rfl) (Az ?_)
     exact ⟨⟨[_], ⟨.tmp _ _ rfl, trivial⟩, rfl⟩, trivial⟩
    ·have h := An c6 h
     refine Aq (Ab (Ab (Aa Ac rfl (qf BF rfl (ql Bo rfl (AU AJ rfl (qm rfl (Ae ?_))))))))
     refine AC (L := Cz N p0) h (fun v7 => mk [(1, .e (.one (.ptr 1 0))), (33, .e (.one (.pure (.sl (p0.fVersions.map Al))))), (34, .e (.one (.pure (.val (.int .i64 ((p0.fVersions.length : Int))))))), (35, .e (.one (.pure (.val (.int .i64 v7)))))] [(1, .box [.pure (.sl (p0.fVersions.map Al)), .pure (.sl (p0.fNow.map Al)), .pure (.sl (p0.fTarget.map Al)), .pure (.sl (p0.fTables.map Ar))])]) (fun v8 => mk [(1, .e (.one (.ptr 1 0)))] [(1, .box [.pure (.sl (p0.fVersions.map Al)), .pure (.sl (p0.fNow.map Al)), .pure (.sl (p0.fTarget.map Al)), .pure (.sl (p0.fTables.map Ar))])]) (fun _ _ => rfl) (sm [] _ _ rfl rfl) (fun j7 n7 v7 h => ?_) (fun v8 s h hs => ?_)
     ·unfold Cz at h
      refine Ab (Aa Ac rfl (AT rfl (Ae (Ab ?_))))
      refine Ap rfl (fun c9 => ?_) (fun c9 => ?_)
      ·have h := Ao c9 h
       refine Aq (Ab (AH (Ab (Aa Ac rfl (qm rfl ?_)))))
       obtain ⟨v10, a10, b10, h⟩ := Ai h
       refine qi AJ Ec a10 (Ah b10) rfl (qk CN rfl (qa rfl (qa rfl (Ae ?_))))
       refine AM h (fun v11 => mk [(1, .e (.one (.ptr 1 0))), (33, .e (.one (.pure (.sl (p0.fVersions.map Al))))), (34, .e (.one (.pure (.val (.int .i64 ((p0.fVersions.length : Int))))))), (35, .e (.one (.pure (.val (.int .i64 v7))))), (65, .e (.one (.pure (.val (.bool v11)))))] [(1, .box [.pure (.sl (p0.fVersions.map Al)), .pure (.sl (p0.fNow.map Al)), .pure (.sl (p0.fTarget.map Al)), .pure (.sl (p0.fTables.map Ar))])]) (fun j11 h => ?_) (fun v11 h => ?_)
       ·refine Aa Ac rfl (qm rfl (AT rfl (qm rfl ?_)))
        refine AD (t := 42) rfl (fun c12 => ?_) (fun c12 => ?_)
        ·have h := Ao c12 h
         refine qn rfl (qn rfl (qp rfl (qm rfl (qn rfl (qn rfl (qn rfl (qn rfl (qn rfl (qn rfl (qn rfl (qn rfl (qp rfl (qm rfl (qn rfl (qn rfl (qn rfl (qn rfl (qn rfl (qn rfl (qn rfl (qn rfl (qp rfl (Ae ?_)))))))))))))))))))))))
         exact Au _ h (sm [] _ _ rfl rfl)
        ·have h := An c12 h
         refine qm rfl (Fv rfl (qp rfl (qm rfl ?_)))
         refine AD (t := 46) rfl (fun c13 => ?_) (fun c13 => ?_)
         ·have h := Ao c13 h
          refine qn rfl (qn rfl (qn rfl (qn rfl (qn rfl (qn rfl (qn rfl (qn rfl (qp rfl (qm rfl (qn rfl (qn rfl (qn rfl (qn rfl (qn rfl (qn rfl (qn rfl (qn rfl (qp rfl (Ae ?_)))))))))))))))))))
          exact Au _ h (sm [] _ _ rfl rfl)
         ·have h := An c13 h
          refine qf I5 rfl (ql Bo rfl (qm rfl ?_))
          obtain ⟨v14, a14, b14, h⟩ := Ai h
          refine qi AJ Ec a14 (Ah b14) rfl (qk CN rfl (qm rfl ?_))
          obtain ⟨v15, a15, h⟩ := bind_some h
          refine AG [] (Iy N v14 v10 v15 a15) SJ rfl (Cb rfl (qp rfl (qm rfl ?_)))
          refine AD (t := 56) rfl (fun c16 => ?_) (fun c16 => ?_)
          ·have h := Ao c16 h
           refine qn rfl (qn rfl (qn rfl (qn rfl (qn rfl (qn rfl (qn rfl (qn rfl (qp rfl (Ae ?_)))))))))
           exact Au _ h (sm [] _ _ rfl rfl)
          ·have h := An c16 h
           refine qf JF rfl (ql Bo rfl (qm rfl ?_))
           obtain ⟨v17, a17, b17, h⟩ := Ai h
           refine qi AJ Ec a17 (Ah b17) rfl (qk CN rfl (qm rfl ?_))
           obtain ⟨v18, a18, h⟩ := bind_some h
           refine AG [] (Iy N v17 v10 v18 a18) SJ rfl (Cb rfl (qp rfl (Ae ?_)))
           exact Au _ h (sm [] _ _ rfl rfl)
       ·refine Ap rfl (fun c19 => ?_) (fun c19 => ?_)
        ·have h := Ao c19 h
         refine Ab (Aa Ac rfl (qa rfl (Ae ?_)))
         obtain rfl := sj h
         refine Am (sm [] [(2, .e (.one (.pure (.val (.int .i64 7)))))] [] rfl rfl) (Az ?_)
         exact ⟨⟨[_], ⟨.tmp _ _ rfl, trivial⟩, rfl⟩, trivial⟩
        ·have h := An c19 h
         refine Aq (Aa Ac rfl (AN rfl (qm rfl (Ae ?_))))
         exact Au _ h (sm [] _ _ rfl rfl)
      ·have h := An c9 h
       refine AP ?_
       exact Au _ h (sm [] _ _ rfl rfl)
     ·refine Am hs (Ab (Ab (Aa Ac rfl (qf DS rfl (ql IM rfl (AU Fk rfl (qm rfl (Ae ?_))))))))
      refine AC (L := Cf N p0) h (fun v20 => mk [(1, .e (.one (.ptr 1 0))), (68, .e (.one (.pure (.sl (p0.fTables.map Ar))))), (69, .e (.one (.pure (.val (.int .i64 ((p0.fTables.length : Int))))))), (70, .e (.one (.pure (.val (.int .i64 v20)))))] [(1, .box [.pure (.sl (p0.fVersions.map Al)), .pure (.sl (p0.fNow.map Al)), .pure (.sl (p0.fTarget.map Al)), .pure (.sl (p0.fTables.map Ar))])]) (fun v21 => mk [] []) (fun _ _ => rfl) (sm [] _ _ rfl rfl) (fun j20 n20 v20 h => ?_) (fun v21 s h hs => ?_)
      ·unfold Cf at h
       refine Ab (Aa Ac rfl (AT rfl (Ae (Ab ?_))))
       refine Ap rfl (fun c22 => ?_) (fun c22 => ?_)
       ·have h := Ao c22 h
        refine Aq (Ab (AH (Ab (Aa Ac rfl ?_))))
        obtain ⟨v23, a23, b23, h⟩ := Ai h
        refine qi Fk Fe a23 (Ah b23) rfl (qK IN Fe rfl (qz LW rfl (qs Fe rfl (Ae (Ab (Aa Ac rfl (qL EH Ep rfl (qL IN Fe rfl ?_))))))))
        obtain ⟨v24, a24, h⟩ := bind_some h
        refine AG [] (Pb N p0 v23 v24 a24) XP rfl (qa rfl (Ae (Ab (Aa Ac rfl (qm rfl (Ct rfl (Ae ?_)))))))
        refine Ap rfl (fun c25 => ?_) (fun c25 => ?_)
        ·have h := Ao c25 h
         refine Ab (Aa Ac rfl (qm rfl (qa rfl (Ae ?_))))
         obtain rfl := sj h
         refine Am (sm [] [(2, .e (.one (.pure (.val (.int .i64 v24)))))] [] rfl rfl) (Az ?_)
         exact ⟨⟨[_], ⟨.tmp _ _ rfl, trivial⟩, rfl⟩, trivial⟩
        ·have h := An c25 h
         refine Aq (Aa Ac rfl (AN rfl (qm rfl (Ae ?_))))
         exact Au _ h (sm [] _ _ rfl rfl)
       ·have h := An c22 h
        refine AP ?_
        exact Au _ h (sm [] _ _ rfl rfl)
      ·refine Am hs (Ab (Aa Ac rfl (qa rfl (Ae ?_))))
       obtain rfl := sj h
       refine Am (sm [] [(2, .e (.one (.pure (.val (.int .i64 0)))))] [] rfl rfl) (Az ?_)
       exact ⟨⟨[_], ⟨.tmp _ _ rfl, trivial⟩, rfl⟩, trivial⟩
set_option maxRecDepth 10000 in
theorem DL (N : Nat) (p0 : List Int) (r : (List Int)) (h : Bx N p0 = some r) : AB Tryz.prog 66 [.e (.one (.pure (.sl (p0.map Al))))] [(1, r.map Al)] (.e (.one (.own 0))) := by
 unfold Bx at h
 refine As (n := 8) (rs := [.tmp 2]) Tryz.func66 rfl rfl rfl (A3 rfl) (A3 rfl) rfl fun w0 S0 => ?_
 refine Ab (Aa Ac rfl (qa rfl (Ae (Ab (Ab (Aa Ac rfl (qm rfl ?_)))))))
 refine SF (.p rfl) rfl AJ ?_
 refine Ae ?_
 refine SP rfl (fun c2 => ?_) ?_
 ·have c2 := List.map_eq_nil_iff.1 c2
  rw [c2] at h
  have h : (some (([] : List Int))) = some r := h
  refine Ab (Aa Ac rfl (qa rfl (Ae ?_)))
  obtain rfl := sj h
  refine Am ((Br 2 2001 1 rfl rfl rfl).trans (sm [(1000, 2001)] [(2, .e (.one (.own 1000)))] [(1000, .vec 1 ((([] : List Int)).map Al))] rfl rfl)) (Az ?_)
  exact ⟨⟨[_], ⟨.tmp _ _ rfl, trivial⟩, rfl⟩, ⟨rfl, trivial⟩⟩
 ·refine Aq (Ab (Aa Ac rfl (EU AJ Ec Lb rfl (qm rfl ?_))))
  obtain ⟨c1, h⟩ := AQ h
  refine Lt (f := Al) AJ AJ Ec Nr Lb (fun _ => rfl) c1 rfl (qa rfl (Ae ?_))
  obtain rfl := sj h
  refine Am (sm [(1000, 7)] [(2, .e (.one (.own 1000)))] [(1000, .vec 1 (((([] : List Int)) ++ p0).map Al))] rfl rfl) (Az ?_)
  exact ⟨⟨[_], ⟨.tmp _ _ rfl, trivial⟩, rfl⟩, ⟨rfl, trivial⟩⟩
set_option maxRecDepth 10000 in
theorem MQ (N : Nat) (p0 : Int) (p1 : Int) (r : Int × Int) (h : Ie N p0 p1 = some r) : AB Tryz.prog 153 [.e (.one (.pure (.val (.int .u32 p0)))), .e (.one (.pure (.val (.int .u32 p1))))] [] (.tup [.one (.pure (.val (.int .u32 r.1))), .one (.pure (.val (.int .u32 r.2)))]) := by
 unfold Ie at h
 refine As (n := 17) (rs := [.tmp 4, .tmp 5]) Tryz.func153 rfl rfl rfl (A3 rfl) (A3 rfl) rfl fun w0 S0 => ?_
 refine Ab (Aa Ac rfl (qa rfl (qa rfl (Ae (Ab (Aa Ac rfl (qm rfl (Hj QW V9 rfl (qm rfl (Hj QW V9 rfl (In rfl (qa rfl (Ae (Ab (Aa Ac rfl (qm rfl (Iq rfl (by decide) (Hj TR QZ rfl (qm rfl (Hj TR QZ rfl (qa rfl (qa rfl (Ae ?_)))))))))))))))))))))))
 obtain rfl := sj h
 refine Am (sm [] [(4, .e (.one (.pure (.val (.int .u32 ((IntKind.wrap .u32 ((Fa .u64 ((IntKind.wrap .u64 ((IntKind.wrap .u64 p0) * (IntKind.wrap .u64 p1)))) 32))))))))), (5, .e (.one (.pure (.val (.int .u32 ((IntKind.wrap .u32 ((IntKind.wrap .u64 ((IntKind.wrap .u64 p0) * (IntKind.wrap .u64 p1)))))))))))] [] rfl rfl) (Az ?_)
 exact ⟨⟨[_, _], ⟨.tmp _ _ rfl, ⟨.tmp _ _ rfl, trivial⟩⟩, rfl⟩, trivial⟩
set_option maxRecDepth 10000 in
theorem M1 (N : Nat) (p0 : Int) (p1 : Int) (r : Int × Int) (h : If N p0 p1 = some r) : AB Tryz.prog 154 [.e (.one (.pure (.val (.int .u64 p0)))), .e (.one (.pure (.val (.int .u64 p1))))] [] (.tup [.one (.pure (.val (.int .u64 r.1))), .one (.pure (.val (.int .u64 r.2)))]) := by
 unfold If at h
 refine As (n := 51) (rs := [.tmp 4, .tmp 5]) Tryz.func154 rfl rfl rfl (A3 rfl) (A3 rfl) rfl fun w0 S0 => ?_
 refine Ab (Aa Ac rfl (qa rfl (qa rfl (Ae (Ab (Aa Ac rfl (qm rfl (LD rfl (qa rfl (Ae (Ab (Aa Ac rfl (qm rfl (Iq rfl (by decide) (qa rfl (Ae (Ab (Aa Ac rfl (qm rfl (LD rfl (qa rfl (Ae (Ab (Aa Ac rfl (qm rfl (Iq rfl (by decide) (qa rfl (Ae (Ab (Aa Ac rfl (qm rfl (qm rfl (In rfl (qa rfl (Ae (Ab (Aa Ac rfl (qm rfl (qm rfl ?_)))))))))))))))))))))))))))))))))))))))
 refine In rfl (qm rfl (Iq rfl (by decide) (AN rfl (qa rfl (Ae (Ab (Aa Ac rfl (qm rfl (LD rfl (qa rfl (Ae (Ab (Aa Ac rfl (qm rfl (Iq rfl (by decide) (qa rfl (Ae (Ab (Aa Ac rfl (qm rfl (qm rfl (qm rfl (In rfl (AN rfl (qa rfl (Ae (Ab (Aa Ac rfl (qm rfl (qm rfl (In rfl (qm rfl (AN rfl (qm rfl (Iq rfl (by decide) (AN rfl (qa rfl (Ae (Ab ?_)))))))))))))))))))))))))))))))))))))))
 refine Aa Ac rfl (qm rfl (qm rfl (In rfl (qa rfl (Ae ?_)))))
 obtain rfl := sj h
 refine Am (sm [] [(4, .e (.one (.pure (.val (.int .u64 ((IntKind.wrap .u64 ((IntKind.wrap .u64 ((IntKind.wrap .u64 ((Fa .u64 p0 32) * (Fa .u64 p1 32))) + (Fa .u64 ((IntKind.wrap .u64 ((IntKind.wrap .u64 ((Fa .u64 p0 32) * (F4 .u64 p1 4294967295))) + (Fa .u64 ((IntKind.wrap .u64 ((F4 .u64 p0 4294967295) * (F4 .u64 p1 4294967295)))) 32)))) 32))) + (Fa .u64 ((IntKind.wrap .u64 ((F4 .u64 ((IntKind.wrap .u64 ((IntKind.wrap .u64 ((Fa .u64 p0 32) * (F4 .u64 p1 4294967295))) + (Fa .u64 ((IntKind.wrap .u64 ((F4 .u64 p0 4294967295) * (F4 .u64 p1 4294967295)))) 32)))) 4294967295) + (IntKind.wrap .u64 ((F4 .u64 p0 4294967295) * (Fa .u64 p1 32)))))) 32))))))))), (5, .e (.one (.pure (.val (.int .u64 ((IntKind.wrap .u64 (p0 * p1))))))))] [] rfl rfl) (Az ?_)
 exact ⟨⟨[_, _], ⟨.tmp _ _ rfl, ⟨.tmp _ _ rfl, trivial⟩⟩, rfl⟩, trivial⟩
set_option maxRecDepth 10000 in
theorem N1 (N : Nat) (p0 : Int) (p1 : Int) (r : Int × Int) (h : IZ N p0 p1 = some r) : AB Tryz.prog 120 [.e (.one (.pure (.val (.int .u64 p0)))), .e (.one (.pure (.val (.int .u64 p1))))] [] (.tup [.one (.pure (.val (.int .u64 r.1))), .one (.pure (.val (.int .u64 r.2)))]) := by
 unfold IZ at h
 refine As (n := 30) (rs := [.tmp 4, .tmp 5]) Tryz.func120 rfl rfl rfl (A3 rfl) (A3 rfl) rfl fun w0 S0 => ?_
 refine Ab (Aa Ac rfl (qa rfl (qa rfl (Ae (Ab ?_)))))
 refine Ap rfl (fun c1 => ?_) (fun c1 => ?_)
 ·have h := Ao c1 h
  refine Ab (Aa Ac rfl (qm rfl (Hj O6 QZ rfl (qm rfl (Hj O6 QZ rfl ?_)))))
  obtain ⟨v2, a2, h⟩ := bind_some h
  refine AG [] (MQ N ((IntKind.wrap .u32 p0)) ((IntKind.wrap .u32 p1)) v2 a2) XA rfl (qm rfl (qx rfl (qx rfl (qa rfl (qa rfl (Ae (Ab (Aa Ac rfl (qm rfl (Hj QW NE rfl (qm rfl (Hj QW NE rfl (qa rfl (qa rfl (Ae ?_)))))))))))))))
  obtain rfl := sj h
  refine Am (sm [] [(4, .e (.one (.pure (.val (.int .u64 ((IntKind.wrap .u64 v2.1))))))), (5, .e (.one (.pure (.val (.int .u64 ((IntKind.wrap .u64 v2.2)))))))] [] rfl rfl) (Az ?_)
  exact ⟨⟨[_, _], ⟨.tmp _ _ rfl, ⟨.tmp _ _ rfl, trivial⟩⟩, rfl⟩, trivial⟩
 ·have h := An c1 h
  refine Aq (Ab (Aa Ac rfl (qm rfl (qm rfl ?_))))
  obtain ⟨v3, a3, h⟩ := bind_some h
  refine AG [] (M1 N p0 p1 v3 a3) Yy rfl (qm rfl (qx rfl (qx rfl (qa rfl (qa rfl (Ae (Ab (Aa Ac rfl (qm rfl (qm rfl (qa rfl (qa rfl (Ae ?_)))))))))))))
  obtain rfl := sj h
  refine Am (sm [] [(4, .e (.one (.pure (.val (.int .u64 v3.1))))), (5, .e (.one (.pure (.val (.int .u64 v3.2)))))] [] rfl rfl) (Az ?_)
  exact ⟨⟨[_, _], ⟨.tmp _ _ rfl, ⟨.tmp _ _ rfl, trivial⟩⟩, rfl⟩, trivial⟩
set_option maxRecDepth 10000 in
theorem KA (N : Nat) (p0 : List Int) (p1 : Int) (r : (List Int)) (h : Gs N p0 p1 = some r) : AB Tryz.prog 90 [.e (.one (.pure (.sl (p0.map Al)))), .e (.one (.pure (.val (.int .i64 p1))))] [(1, r.map Al)] (.e (.one (.own 0))) := by
 unfold Gs at h
 refine As (n := 48) (rs := [.tmp 4]) Tryz.func90 rfl rfl rfl (A3 rfl) (A3 rfl) rfl fun w0 S0 => ?_
 refine Ab (Aa Ac rfl (qa rfl (Ae ?_)))
 refine AM h (fun v1 => mk [(0, .e (.one (.pure (.sl (p0.map Al))))), (1, .e (.one (.pure (.val (.int .i64 p1)))))] []) (fun j1 h => ?_) (fun v1 h => ?_)
 ·refine Ab (Aa Ac rfl (qm rfl (AT rfl (Ae ?_))))
  refine Ap rfl (fun c2 => ?_) (fun c2 => ?_)
  ·have h := Ao c2 h
   refine Aa Ac rfl ?_
   cases h
  ·have h := An c2 h
   refine Aq ?_
   exact Au _ h (sm [] _ _ rfl rfl)
 ·refine Ab (Aa Ac rfl (qm rfl (AU AJ rfl (Hj TV NE rfl (qm rfl (Hj TV NE rfl ?_))))))
  obtain ⟨v3, a3, h⟩ := bind_some h
  refine AG [] (N1 N ((IntKind.wrap .u64 ((p0.length : Int)))) ((IntKind.wrap .u64 p1)) v3 a3) Xx rfl (qm rfl (qx rfl (qx rfl (qa rfl (qa rfl (Ae ?_))))))
  refine AM h (fun v4 => mk [(0, .e (.one (.pure (.sl (p0.map Al))))), (6, .e (.one (.pure (.val (.int .u64 v3.2)))))] []) (fun j4 h => ?_) (fun v4 h => ?_)
  ·refine AM h (fun v5 => mk [(0, .e (.one (.pure (.sl (p0.map Al))))), (6, .e (.one (.pure (.val (.int .u64 v3.2))))), (26, .e (.one (.pure (.val (.bool v5)))))] []) (fun j5 h => ?_) (fun v5 h => ?_)
   ·refine Aa Ac rfl (qm rfl (Fv rfl (qm rfl ?_)))
    refine AD (t := 23) rfl (fun c6 => ?_) (fun c6 => ?_)
    ·have h := Ao c6 h
     refine qn rfl (qn rfl (qp rfl (Ae ?_)))
     exact Au _ h (sm [] _ _ rfl rfl)
    ·have h := An c6 h
     refine qm rfl (Fv rfl (qp rfl (Ae ?_)))
     exact Au _ h (sm [] _ _ rfl rfl)
   ·refine Ap rfl (fun c7 => ?_) (fun c7 => ?_)
    ·have h := Ao c7 h
     refine Aa Ac rfl ?_
     cases h
    ·have h := An c7 h
     refine Aq ?_
     exact Au _ h (sm [] _ _ rfl rfl)
  ·refine Ab (Aa Ac rfl (qm rfl (Hj O6 SI rfl ?_)))
   obtain ⟨c8, h⟩ := AQ h
   refine NC (.p rfl) rfl rfl rfl AJ Ec Nr (A3 rfl) Lb rfl rfl rfl c8.1 c8.2.1 c8.2.2 (SE Al _ ((0 : Int))) ?_
   refine qa rfl (Ae (Ab (Aa Ac rfl (qm rfl (qm rfl ?_)))))
   refine SC Al (List.replicate ((IntKind.wrap .i64 v3.2)).toNat ((0 : Int))) p0 (.p rfl) rfl (Jg Al _ _ (List.replicate ((IntKind.wrap .i64 v3.2)).toNat ((0 : Int)))) rfl rfl (Vs Al _ _ (fun _ => rfl)) trivial AJ Ec ?_
   refine qa rfl (Ae (Ab ?_))
   refine AC (L := EO N) h (fun v9 => mk [(7, .e (.one (.own 2001))), (8, .e (.one (.pure (.val (.int .i64 v9.2)))))] [(2001, .vec 1 (v9.1.map Al))]) (fun v10 => mk [(7, .e (.one (.own 2002)))] [(2002, .vec 1 (v10.map Al))]) (fun _ _ => rfl) (sm [(2001, 30)] _ _ rfl rfl) (fun j9 n9 v9 h => ?_) (fun v10 s h hs => ?_)
   ·unfold EO at h
    refine Ab (Ab (Aa Ac rfl (qm rfl (qm rfl (FL AJ rfl (AT rfl (Ae ?_)))))))
    refine Ap rfl (fun c11 => ?_) (fun c11 => ?_)
    ·have h := Ao c11 h
     refine Aq (AH (Aa Ac rfl (qm rfl (qm rfl (qm rfl ?_)))))
     obtain ⟨c12, h⟩ := AQ h
     have w13 : ((v9.2).toNat) + ((v9.1.length - (v9.2).toNat)) ≤ v9.1.length := by have := c12.2.1; have := c12.2.2; omega
     refine JS Al v9.1 (.p rfl) rfl (Jg Al _ _ v9.1) rfl AJ Ec (.some _ _ _ _ c12.1) (.none _) ⟨rfl, trivial⟩ trivial c12.2.1 (by rw [Nat.zero_add]; exact c12.2.2) (Nat.zero_add _) rfl ?_
     refine qm rfl (qm rfl ?_)
     obtain ⟨c14, h⟩ := AQ h
     have w15 : 0 + ((v9.2).toNat) ≤ v9.1.length := by have := c14.2.1; have := c14.2.2; omega
     refine JS Al v9.1 (.p rfl) rfl (Jg Al _ _ v9.1) rfl AJ Ec (.none _) (.some _ _ _ _ c14.1) trivial ⟨rfl, trivial⟩ c14.2.1 (by rw [Nat.zero_add]; exact c14.2.2) (Nat.zero_add _) rfl ?_
     refine SC Al v9.1 (((v9.1.drop 0).take ((v9.2).toNat))) (.p rfl) rfl (Np Al _ _ ((v9.2).toNat) ((v9.1.length - (v9.2).toNat)) v9.1 w13) rfl rfl (S6 Al _ _ 0 ((v9.2).toNat) v9.1 w15) ⟨rfl, trivial⟩ AJ Ec ?_
     refine AN rfl (qa rfl (AA (by kernel_rfl) ?_))
     exact Au _ h (sm [] _ _ rfl rfl)
    ·have h := An c11 h
     refine AP ?_
     exact Au _ h (sm [(2002, 2001)] _ _ rfl rfl)
   ·refine Am hs (Ab (Aa Ac rfl (qm rfl (qa rfl (Ae ?_)))))
    obtain rfl := sj h
    refine Am (sm [(1000, 2002)] [(4, .e (.one (.own 1000)))] [(1000, .vec 1 (v10.map Al))] rfl rfl) (Az ?_)
    exact ⟨⟨[_], ⟨.tmp _ _ rfl, trivial⟩, rfl⟩, ⟨rfl, trivial⟩⟩
set_option maxRecDepth 10000 in
theorem KX (N : Nat) (p0 : AO) (r : Bool) (h : Gr N p0 = some r) : AB Tryz.prog 91 [.e (.agg [.pure (.val (.int .i64 p0.fKind)), .pure (.val (.int .i64 p0.fFrom)), .pure (.val (.int .i64 p0.fTo)), .pure (.val (.bool p0.fAware)), .pure (.sl (p0.fOK.map (FZ eB))), .pure (.sl (p0.fRewrite.map (FZ eB)))])] [] (.e (.one (.pure (.val (.bool r))))) := by
 unfold Gr at h
 refine As (n := 11) (rs := [.tmp 2]) Tryz.func91 rfl rfl rfl (A3 rfl) (A3 rfl) rfl fun w0 S0 => ?_
 refine Ab (Aa Ac rfl (qb rfl (qa rfl (Ae ?_))))
 refine AM h (fun v1 => mk [(2, .e (.one (.pure (.val (.bool v1)))))] []) (fun j1 h => ?_) (fun v1 h => ?_)
 ·refine Aa Ac rfl (qf Hh rfl (ql CN rfl (BX rfl (qm rfl ?_))))
  refine AD (t := 6) rfl (fun c2 => ?_) (fun c2 => ?_)
  ·have h := Ao c2 h
   refine qn rfl (qn rfl (qn rfl (qp rfl (qa rfl (Ae ?_)))))
   exact Au _ h (sm [] _ _ rfl rfl)
  ·have h := An c2 h
   refine qf Hh rfl (ql CN rfl (BX rfl (qp rfl (qa rfl (Ae ?_)))))
   exact Au _ h (sm [] _ _ rfl rfl)
 ·obtain rfl := sj h
  refine Am (sm [] [(2, .e (.one (.pure (.val (.bool v1)))))] [] rfl rfl) (Az ?_)
  exact ⟨⟨[_], ⟨.tmp _ _ rfl, trivial⟩, rfl⟩, trivial⟩
set_option maxRecDepth 10000 in
theorem NJ (N : Nat) (p0 : Ak) (r : Ag × Int) (h : Jz N p0 = some r) : AB Tryz.prog 44 [.e (.agg [.pure (.sl (p0.fVersions.map Al)), .pure (.sl (p0.fNow.map Al)), .pure (.sl (p0.fTarget.map Al)), .pure (.sl (p0.fTables.map Ar))])] [(1, r.1.fBase.map Al), (1, r.1.fNext.map Al), (1, r.1.fHeld.map Bg)] (.tup [.agg [.own 0, .own 1, .own 2], .one (.pure (.val (.int .i64 r.2)))]) := by
 unfold Jz at h
 refine As (n := 50) (rs := [.cell 2 46, .tmp 3]) Tryz.func44 rfl rfl rfl (A3 rfl) (A3 rfl) rfl fun w0 S0 => ?_
 refine Ab (Aa Ac rfl (qb rfl (qz Dc rfl (qa rfl (Ae (Ab (Ab (Aa Ac rfl (qL EH Ep rfl ?_)))))))))
 obtain ⟨v1, a1, h⟩ := bind_some h
 refine AG [] (Gd N p0 v1 a1) VH rfl (qa rfl (Ae (Ab (Aa Ac rfl (qm rfl (Ct rfl (Ae ?_)))))))
 refine Ap rfl (fun c2 => ?_) (fun c2 => ?_)
 ·have h := Ao c2 h
  refine Ab (Aa Ac rfl (Bq Dc HS rfl (qm rfl (qs Ay rfl (qa rfl (Ae ?_))))))
  obtain rfl := sj h
  refine Am ((AF 2 0 2001 1 _ rfl rfl rfl rfl).trans ((AF 2 1 2002 1 _ rfl rfl rfl rfl).trans ((AF 2 2 2003 1 _ rfl rfl rfl rfl).trans (sm [(1000, 2001), (1001, 2002), (1002, 2003)] [(2, .e (.one (.ptr 2 0))), (3, .e (.one (.pure (.val (.int .i64 v1)))))] [(2, .box [.own 1000, .own 1001, .own 1002]), (1000, .vec 1 ((([] : List Int)).map Al)), (1001, .vec 1 ((([] : List Int)).map Al)), (1002, .vec 1 ((([] : List Int)).map Bg))] rfl rfl)))) (Az ?_)
  exact ⟨⟨[_, _], ⟨.cellN _ _ _ _ _ _ _ rfl rfl A4 Ay rfl rfl (Jw rfl), ⟨.tmp _ _ rfl, trivial⟩⟩, rfl⟩, ⟨rfl, rfl, rfl, trivial⟩⟩
 ·have h := An c2 h
  refine Aq (Ab (Aa Ac rfl (qf I5 rfl (ql Bo rfl ?_))))
  obtain ⟨v3, a3, h⟩ := bind_some h
  refine AG [2004] (DL N p0.fNow v3 a3) R5 rfl (EU AJ Ec Lb rfl (qf I5 rfl (ql Bo rfl (AU AJ rfl ?_))))
  obtain ⟨v4, a4, h⟩ := bind_some h
  refine Et [2005] [17] (KA N (([(-1)] : List Int)) ((p0.fNow.length : Int)) v4 a4) Zv (Hw (fun _ => rfl) CQ) rfl (qf DS rfl (ql IM rfl (AU Fk rfl ?_)))
  obtain ⟨c5, h⟩ := AQ h
  refine NC (.p rfl) rfl rfl rfl D0 GJ Rp (A3 rfl) Oe rfl rfl rfl c5.1 c5.2.1 c5.2.2 (SE Bg _ ((0 : Int))) ?_
  refine Bq Dc HS rfl (qz Dc rfl (qs Ay rfl (AA (by kernel_rfl) (Ab (Ab (Aa Ac rfl (qf DS rfl (ql IM rfl (AU Fk rfl (qm rfl (Ae ?_)))))))))))
  refine AC (L := H7 N p0) h (fun v6 => mk [(1, .e (.one (.ptr 1 0))), (2, .e (.one (.ptr 2 0))), (5, .e (.one (.ptr 5 0))), (28, .e (.one (.pure (.sl (p0.fTables.map Ar))))), (29, .e (.one (.pure (.val (.int .i64 ((p0.fTables.length : Int))))))), (30, .e (.one (.pure (.val (.int .i64 v6.2)))))] [(1, .box [.pure (.sl (p0.fVersions.map Al)), .pure (.sl (p0.fNow.map Al)), .pure (.sl (p0.fTarget.map Al)), .pure (.sl (p0.fTables.map Ar))]), (2, .box [.pure (.nil0), .pure (.nil0), .pure (.nil0)]), (5, .box [.own 2006, .own 2007, .own 2008]), (2006, .vec 1 (v3.map Al)), (2007, .vec 1 (v4.map Al)), (2008, .vec 1 (v6.1.map Bg))]) (fun v7 => mk [(2, .e (.one (.ptr 2 0))), (5, .e (.one (.ptr 5 0)))] [(2, .box [.pure (.nil0), .pure (.nil0), .pure (.nil0)]), (5, .box [.own 2009, .own 2010, .own 2011]), (2009, .vec 1 (v3.map Al)), (2010, .vec 1 (v4.map Al)), (2011, .vec 1 (v7.map Bg))]) (fun _ _ => rfl) (sm [(2006, 2004), (2007, 2005), (2008, 25)] _ _ rfl rfl) (fun j6 n6 v6 h => ?_) (fun v7 s h hs => ?_)
  ·unfold H7 at h
   refine Ab (Aa Ac rfl (AT rfl (Ae (Ab ?_))))
   refine Ap rfl (fun c8 => ?_) (fun c8 => ?_)
   ·have h := Ao c8 h
    refine Aq ?_
    refine AM h (fun v9 => mk [(1, .e (.one (.ptr 1 0))), (2, .e (.one (.ptr 2 0))), (5, .e (.one (.ptr 5 0))), (28, .e (.one (.pure (.sl (p0.fTables.map Ar))))), (29, .e (.one (.pure (.val (.int .i64 ((p0.fTables.length : Int))))))), (30, .e (.one (.pure (.val (.int .i64 v6.2)))))] [(1, .box [.pure (.sl (p0.fVersions.map Al)), .pure (.sl (p0.fNow.map Al)), .pure (.sl (p0.fTarget.map Al)), .pure (.sl (p0.fTables.map Ar))]), (2, .box [.pure (.nil0), .pure (.nil0), .pure (.nil0)]), (5, .box [.own 2012, .own 2013, .own 2014]), (2012, .vec 1 (v3.map Al)), (2013, .vec 1 (v4.map Al)), (2014, .vec 1 (v9.map Bg))]) (fun j9 h => ?_) (fun v9 h => ?_)
    ·refine AH (Ab (Aa Ac rfl (qm rfl ?_)))
     obtain ⟨v10, a10, b10, h⟩ := Ai h
     refine qi Fk Fe a10 (Ah b10) rfl (qK IN Fe rfl (qz LW rfl (qa rfl (qs Fe rfl (Ae (Ab (Aa Ac rfl (qL IN Fe rfl ?_))))))))
     obtain ⟨v11, a11, h⟩ := bind_some h
     refine AG [] (KX N v10 v11 a11) WY rfl (Ae ?_)
     refine Ap rfl (fun c12 => ?_) (fun c12 => ?_)
     ·have h := Ao c12 h
      refine Aa Ac rfl (qf Dm rfl (ql HV rfl (qm rfl (qf I5 rfl (ql Bo rfl (qf D3 rfl (ql CN rfl ?_)))))))
      obtain ⟨v13, a13, b13, h⟩ := Ai h
      refine qi AJ Ec a13 (Ah b13) rfl (qk CN rfl ?_)
      obtain ⟨c14, h⟩ := AQ h
      refine I9 rfl c14 ?_
      obtain ⟨v15, a15, b15, h⟩ := Ai h
      refine qI D0 GJ a15 (Ah b15) rfl ?_
      refine AV rfl rfl rfl rfl (Ah b15) rfl GJ rfl (A3 rfl) (AW Bg v6.1 _ ((Dy .u8 1 v13))) ?_
      refine AA (by kernel_rfl) ?_
      exact Au _ h (sm [(2012, 2006), (2013, 2007), (2014, 2008)] _ _ rfl rfl)
     ·have h := An c12 h
      refine Aq ?_
      exact Au _ h (sm [(2012, 2006), (2013, 2007), (2014, 2008)] _ _ rfl rfl)
    ·refine Aa Ac rfl (AN rfl (qm rfl (Ae ?_)))
     exact Au _ h (sm [(2006, 2012), (2007, 2013), (2008, 2014)] _ _ rfl rfl)
   ·have h := An c8 h
    refine AP ?_
    exact Au _ h (sm [(2009, 2006), (2010, 2007), (2011, 2008)] _ _ rfl rfl)
  ·refine Am hs (Ab (Aa Ac rfl (qL A4 Ay rfl (qs Ay rfl (qa rfl (Ae ?_))))))
   obtain rfl := sj h
   refine Am (sm [(1000, 2009), (1001, 2010), (1002, 2011)] [(2, .e (.one (.ptr 2 0))), (3, .e (.one (.pure (.val (.int .i64 0)))))] [(2, .box [.own 1000, .own 1001, .own 1002]), (1000, .vec 1 (v3.map Al)), (1001, .vec 1 (v4.map Al)), (1002, .vec 1 (v7.map Bg))] rfl rfl) (Az ?_)
   exact ⟨⟨[_, _], ⟨.cellN _ _ _ _ _ _ _ rfl rfl A4 Ay rfl rfl (Jw rfl), ⟨.tmp _ _ rfl, trivial⟩⟩, rfl⟩, ⟨rfl, rfl, rfl, trivial⟩⟩
set_option maxRecDepth 10000 in
theorem Ks (N : Nat) (p0 : Ag) (p1 : Int) (r : Int) (h : FW N p0 p1 = some r) : AB Tryz.prog 107 [.e (.agg [.pure (.sl (p0.fBase.map Al)), .pure (.sl (p0.fNext.map Al)), .pure (.sl (p0.fHeld.map Bg))]), .e (.one (.pure (.val (.int .i64 p1))))] [] (.e (.one (.pure (.val (.int .u8 r))))) := by
 unfold FW at h
 refine As (n := 27) (rs := [.tmp 4]) Tryz.func107 rfl rfl rfl (A3 rfl) (A3 rfl) rfl fun w0 S0 => ?_
 refine Ab (Aa Ac rfl (qb rfl (qa rfl (Ae (Ab (Aa Ac rfl (qf Dx rfl (ql Bo rfl (qm rfl ?_)))))))))
 obtain ⟨v1, a1, b1, h⟩ := Ai h
 refine qi AJ Ec a1 (Ah b1) rfl (qk CN rfl ?_)
 obtain ⟨c2, h⟩ := AQ h
 refine I9 rfl c2 (qa rfl (Ae ?_))
 refine AM h (fun v3 => mk [(5, .e (.one (.pure (.val (.int .u8 v3)))))] []) (fun j3 h => ?_) (fun v3 h => ?_)
 ·refine Ab (Aa Ac rfl (qf BK rfl (ql Bo rfl (qm rfl ?_))))
  obtain ⟨v4, a4, b4, h⟩ := Ai h
  refine qi AJ Ec a4 (Ah b4) rfl (qk CN rfl (Db rfl (Ae ?_)))
  refine Ap rfl (fun c5 => ?_) (fun c5 => ?_)
  ·have h := Ao c5 h
   refine Aa Ac rfl (qm rfl (qf BK rfl (ql Bo rfl (qm rfl ?_))))
   obtain ⟨v6, a6, b6, h⟩ := Ai h
   refine qi AJ Ec a6 (Ah b6) rfl (qk CN rfl ?_)
   obtain ⟨c7, h⟩ := AQ h
   refine I9 rfl c7 (Tq rfl (qa rfl (Ae ?_)))
   exact Au _ h (sm [] _ _ rfl rfl)
  ·have h := An c5 h
   refine Aq ?_
   exact Au _ h (sm [] _ _ rfl rfl)
 ·refine Ab (Aa Ac rfl (qm rfl (qa rfl (Ae ?_))))
  obtain rfl := sj h
  refine Am (sm [] [(4, .e (.one (.pure (.val (.int .u8 v3)))))] [] rfl rfl) (Az ?_)
  exact ⟨⟨[_], ⟨.tmp _ _ rfl, trivial⟩, rfl⟩, trivial⟩
set_option maxRecDepth 10000 in
theorem Ja (N : Nat) (p0 : Ak) (p1 : Ag) (r : Int) (h : FQ N p0 p1 = some r) : AB Tryz.prog 65 [.e (.agg [.pure (.sl (p0.fVersions.map Al)), .pure (.sl (p0.fNow.map Al)), .pure (.sl (p0.fTarget.map Al)), .pure (.sl (p0.fTables.map Ar))]), .e (.agg [.pure (.sl (p1.fBase.map Al)), .pure (.sl (p1.fNext.map Al)), .pure (.sl (p1.fHeld.map Bg))])] [] (.e (.one (.pure (.val (.int .i64 r))))) := by
 unfold FQ at h
 refine As (n := 135) (rs := [.tmp 4]) Tryz.func65 rfl rfl rfl (A3 rfl) (A3 rfl) rfl fun w0 S0 => ?_
 refine Ab (Aa Ac rfl (qb rfl (qb rfl (qa rfl (Ae (Ab (Ab (Aa Ac rfl (qL EH Ep rfl ?_)))))))))
 obtain ⟨v1, a1, h⟩ := bind_some h
 refine AG [] (Gd N p0 v1 a1) VH rfl (qa rfl (Ae (Ab (Aa Ac rfl (qm rfl (Ct rfl (Ae ?_)))))))
 refine Ap rfl (fun c2 => ?_) (fun c2 => ?_)
 ·have h := Ao c2 h
  refine Ab (Aa Ac rfl (qm rfl (qa rfl (Ae ?_))))
  obtain rfl := sj h
  refine Am (sm [] [(4, .e (.one (.pure (.val (.int .i64 v1)))))] [] rfl rfl) (Az ?_)
  exact ⟨⟨[_], ⟨.tmp _ _ rfl, trivial⟩, rfl⟩, trivial⟩
 ·have h := An c2 h
  refine Aq (Ab ?_)
  refine AM h (fun v3 => mk [(2, .e (.one (.ptr 2 0))), (3, .e (.one (.ptr 3 0))), (41, .e (.one (.pure (.val (.bool v3)))))] [(2, .box [.pure (.sl (p0.fVersions.map Al)), .pure (.sl (p0.fNow.map Al)), .pure (.sl (p0.fTarget.map Al)), .pure (.sl (p0.fTables.map Ar))]), (3, .box [.pure (.sl (p1.fBase.map Al)), .pure (.sl (p1.fNext.map Al)), .pure (.sl (p1.fHeld.map Bg))])]) (fun j3 h => ?_) (fun v3 h => ?_)
  ·refine Aa Ac rfl (qf Dx rfl (ql Bo rfl (AU AJ rfl (qf BF rfl (ql Bo rfl (AU AJ rfl (Ct rfl (qm rfl ?_))))))))
   refine AD (t := 24) rfl (fun c4 => ?_) (fun c4 => ?_)
   ·have h := Ao c4 h
    refine qn rfl (qn rfl (qn rfl (qn rfl (qn rfl (qn rfl (qn rfl (qp rfl (qm rfl (qn rfl (qn rfl (qn rfl (qn rfl (qn rfl (qn rfl (qn rfl (qp rfl (Ae ?_)))))))))))))))))
    exact Au _ h (sm [] _ _ rfl rfl)
   ·have h := An c4 h
    refine qf BK rfl (ql Bo rfl (AU AJ rfl (qf BF rfl (ql Bo rfl (AU AJ rfl (Ct rfl (qp rfl (qm rfl ?_))))))))
    refine AD (t := 33) rfl (fun c5 => ?_) (fun c5 => ?_)
    ·have h := Ao c5 h
     refine qn rfl (qn rfl (qn rfl (qn rfl (qn rfl (qn rfl (qn rfl (qp rfl (Ae ?_))))))))
     exact Au _ h (sm [] _ _ rfl rfl)
    ·have h := An c5 h
     refine qf Dm rfl (ql HV rfl (AU D0 rfl (qf DS rfl (ql IM rfl (AU Fk rfl (Ct rfl (qp rfl (Ae ?_))))))))
     exact Au _ h (sm [] _ _ rfl rfl)
  ·refine Ap rfl (fun c6 => ?_) (fun c6 => ?_)
   ·have h := Ao c6 h
    refine Ab (Aa Ac rfl (qa rfl (Ae ?_)))
    obtain rfl := sj h
    refine Am (sm [] [(4, .e (.one (.pure (.val (.int .i64 6)))))] [] rfl rfl) (Az ?_)
    exact ⟨⟨[_], ⟨.tmp _ _ rfl, trivial⟩, rfl⟩, trivial⟩
   ·have h := An c6 h
    refine Aq (Ab (Ab (Aa Ac rfl (qf BF rfl (ql Bo rfl (AU AJ rfl (qm rfl (Ae ?_))))))))
    refine AC (L := E4 N p0 p1) h (fun v7 => mk [(2, .e (.one (.ptr 2 0))), (3, .e (.one (.ptr 3 0))), (43, .e (.one (.pure (.sl (p0.fVersions.map Al))))), (44, .e (.one (.pure (.val (.int .i64 ((p0.fVersions.length : Int))))))), (45, .e (.one (.pure (.val (.int .i64 v7)))))] [(2, .box [.pure (.sl (p0.fVersions.map Al)), .pure (.sl (p0.fNow.map Al)), .pure (.sl (p0.fTarget.map Al)), .pure (.sl (p0.fTables.map Ar))]), (3, .box [.pure (.sl (p1.fBase.map Al)), .pure (.sl (p1.fNext.map Al)), .pure (.sl (p1.fHeld.map Bg))])]) (fun v8 => mk [(2, .e (.one (.ptr 2 0))), (3, .e (.one (.ptr 3 0)))] [(2, .box [.pure (.sl (p0.fVersions.map Al)), .pure (.sl (p0.fNow.map Al)), .pure (.sl (p0.fTarget.map Al)), .pure (.sl (p0.fTables.map Ar))]), (3, .box [.pure (.sl (p1.fBase.map Al)), .pure (.sl (p1.fNext.map Al)), .pure (.sl (p1.fHeld.map Bg))])]) (fun _ _ => rfl) (sm [] _ _ rfl rfl) (fun j7 n7 v7 h => ?_) (fun v8 s h hs => ?_)
    ·unfold E4 at h
     refine Ab (Aa Ac rfl (AT rfl (Ae (Ab ?_))))
     refine Ap rfl (fun c9 => ?_) (fun c9 => ?_)
     ·have h := Ao c9 h
      refine Aq (Ab (AH (Ab (Aa Ac rfl (qm rfl ?_)))))
      obtain ⟨v10, a10, b10, h⟩ := Ai h
      refine qi AJ Ec a10 (Ah b10) rfl (qk CN rfl (qa rfl (qa rfl (Ae (Ab ?_)))))
      refine AM h (fun v11 => mk [(2, .e (.one (.ptr 2 0))), (3, .e (.one (.ptr 3 0))), (6, .e (.one (.pure (.val (.int .i64 v7))))), (43, .e (.one (.pure (.sl (p0.fVersions.map Al))))), (44, .e (.one (.pure (.val (.int .i64 ((p0.fVersions.length : Int))))))), (45, .e (.one (.pure (.val (.int .i64 v7))))), (81, .e (.one (.pure (.val (.bool v11)))))] [(2, .box [.pure (.sl (p0.fVersions.map Al)), .pure (.sl (p0.fNow.map Al)), .pure (.sl (p0.fTarget.map Al)), .pure (.sl (p0.fTables.map Ar))]), (3, .box [.pure (.sl (p1.fBase.map Al)), .pure (.sl (p1.fNext.map Al)), .pure (.sl (p1.fHeld.map Bg))])]) (fun j11 h => ?_) (fun v11 h => ?_)
      ·refine Aa Ac rfl (qf Dx rfl (ql Bo rfl (qm rfl ?_)))
       obtain ⟨v12, a12, b12, h⟩ := Ai h
       refine qi AJ Ec a12 (Ah b12) rfl (qk CN rfl (AT rfl (qm rfl ?_)))
       refine AD (t := 56) rfl (fun c13 => ?_) (fun c13 => ?_)
       ·have h := Ao c13 h
        refine qn rfl (qn rfl (qn rfl (qn rfl (qn rfl (qn rfl (qn rfl (qp rfl (qm rfl (qn rfl (qn rfl (qn rfl (qn rfl (qn rfl (qn rfl (qp rfl (qm rfl (qn rfl (qn rfl (qn rfl (qn rfl (qn rfl (qn rfl (qn rfl (qp rfl (Ae ?_)))))))))))))))))))))))))
        exact Au _ h (sm [] _ _ rfl rfl)
       ·have h := An c13 h
        refine qf Dx rfl (ql Bo rfl (qm rfl ?_))
        obtain ⟨v14, a14, b14, h⟩ := Ai h
        refine qi AJ Ec a14 (Ah b14) rfl (qk CN rfl (qm rfl (Db rfl (qp rfl (qm rfl ?_)))))
        refine AD (t := 65) rfl (fun c15 => ?_) (fun c15 => ?_)
        ·have h := Ao c15 h
         refine qn rfl (qn rfl (qn rfl (qn rfl (qn rfl (qn rfl (qp rfl (qm rfl (qn rfl (qn rfl (qn rfl (qn rfl (qn rfl (qn rfl (qn rfl (qp rfl (Ae ?_))))))))))))))))
         exact Au _ h (sm [] _ _ rfl rfl)
        ·have h := An c15 h
         refine qf BK rfl (ql Bo rfl (qm rfl ?_))
         obtain ⟨v16, a16, b16, h⟩ := Ai h
         refine qi AJ Ec a16 (Ah b16) rfl (qk CN rfl (AT rfl (qp rfl (qm rfl ?_))))
         refine AD (t := 73) rfl (fun c17 => ?_) (fun c17 => ?_)
         ·have h := Ao c17 h
          refine qn rfl (qn rfl (qn rfl (qn rfl (qn rfl (qn rfl (qn rfl (qp rfl (Ae ?_))))))))
          exact Au _ h (sm [] _ _ rfl rfl)
         ·have h := An c17 h
          refine qf BK rfl (ql Bo rfl (qm rfl ?_))
          obtain ⟨v18, a18, b18, h⟩ := Ai h
          refine qi AJ Ec a18 (Ah b18) rfl (qk CN rfl (qm rfl (Db rfl (qp rfl (Ae ?_)))))
          exact Au _ h (sm [] _ _ rfl rfl)
      ·refine Ap rfl (fun c19 => ?_) (fun c19 => ?_)
       ·have h := Ao c19 h
        refine Ab (Aa Ac rfl (qa rfl (Ae ?_)))
        obtain rfl := sj h
        refine Am (sm [] [(4, .e (.one (.pure (.val (.int .i64 7)))))] [] rfl rfl) (Az ?_)
        exact ⟨⟨[_], ⟨.tmp _ _ rfl, trivial⟩, rfl⟩, trivial⟩
       ·have h := An c19 h
        refine Aq (Ab (Aa Ac rfl (qf Dx rfl (ql Bo rfl (qm rfl ?_)))))
        obtain ⟨v20, a20, b20, h⟩ := Ai h
        refine qi AJ Ec a20 (Ah b20) rfl (qk CN rfl (qf BK rfl (ql Bo rfl (qm rfl ?_))))
        obtain ⟨v21, a21, b21, h⟩ := Ai h
        refine qi AJ Ec a21 (Ah b21) rfl (qk CN rfl (BX rfl (AA (by kernel_rfl) ?_)))
        refine Ap rfl (fun c22 => ?_) (fun c22 => ?_)
        ·have h := Ao c22 h
         refine Ab (Aa Ac rfl (qa rfl (Ae ?_)))
         obtain rfl := sj h
         refine Am (sm [] [(4, .e (.one (.pure (.val (.int .i64 1)))))] [] rfl rfl) (Az ?_)
         exact ⟨⟨[_], ⟨.tmp _ _ rfl, trivial⟩, rfl⟩, trivial⟩
        ·have h := An c22 h
         refine Aq (Aa Ac rfl (AN rfl (qm rfl (Ae ?_))))
         exact Au _ h (sm [] _ _ rfl rfl)
     ·have h := An c9 h
      refine AP ?_
      exact Au _ h (sm [] _ _ rfl rfl)
    ·refine Am hs (Ab (Ab (Aa Ac rfl (qf DS rfl (ql IM rfl (AU Fk rfl (qm rfl (Ae ?_))))))))
     refine AC (L := EM N p0 p1) h (fun v23 => mk [(2, .e (.one (.ptr 2 0))), (3, .e (.one (.ptr 3 0))), (95, .e (.one (.pure (.sl (p0.fTables.map Ar))))), (96, .e (.one (.pure (.val (.int .i64 ((p0.fTables.length : Int))))))), (97, .e (.one (.pure (.val (.int .i64 v23)))))] [(2, .box [.pure (.sl (p0.fVersions.map Al)), .pure (.sl (p0.fNow.map Al)), .pure (.sl (p0.fTarget.map Al)), .pure (.sl (p0.fTables.map Ar))]), (3, .box [.pure (.sl (p1.fBase.map Al)), .pure (.sl (p1.fNext.map Al)), .pure (.sl (p1.fHeld.map Bg))])]) (fun v24 => mk [] []) (fun _ _ => rfl) (sm [] _ _ rfl rfl) (fun j23 n23 v23 h => ?_) (fun v24 s h hs => ?_)
     ·unfold EM at h
      refine Ab (Aa Ac rfl (AT rfl (Ae (Ab ?_))))
      refine Ap rfl (fun c25 => ?_) (fun c25 => ?_)
      ·have h := Ao c25 h
       refine Aq (Ab (AH (Ab (Aa Ac rfl (qm rfl ?_)))))
       obtain ⟨v26, a26, b26, h⟩ := Ai h
       refine qi Fk Fe a26 (Ah b26) rfl (qK IN Fe rfl (qz LW rfl (qa rfl (qs Fe rfl (Ae (Ab (Aa Ac rfl (qa rfl (qa rfl (Ae ?_))))))))))
       refine AM h (fun v27 => mk [(2, .e (.one (.ptr 2 0))), (3, .e (.one (.ptr 3 0))), (8, .e (.one (.pure (.val (.int .i64 v23))))), (10, .e (.one (.pure (.val (.int .u8 v27.1))))), (11, .e (.one (.pure (.val (.int .u8 v27.2))))), (95, .e (.one (.pure (.sl (p0.fTables.map Ar))))), (96, .e (.one (.pure (.val (.int .i64 ((p0.fTables.length : Int))))))), (97, .e (.one (.pure (.val (.int .i64 v23)))))] [(2, .box [.pure (.sl (p0.fVersions.map Al)), .pure (.sl (p0.fNow.map Al)), .pure (.sl (p0.fTarget.map Al)), .pure (.sl (p0.fTables.map Ar))]), (3, .box [.pure (.sl (p1.fBase.map Al)), .pure (.sl (p1.fNext.map Al)), .pure (.sl (p1.fHeld.map Bg))])]) (fun j27 h => ?_) (fun v27 h => ?_)
       ·refine Ab (Aa Ac rfl (qL IN Fe rfl ?_))
        obtain ⟨v28, a28, h⟩ := bind_some h
        refine AG [] (KX N v26 v28 a28) WY rfl (Ae ?_)
        refine Ap rfl (fun c29 => ?_) (fun c29 => ?_)
        ·have h := Ao c29 h
         refine Aa Ac rfl (qL A4 Ay rfl (qf D3 rfl (ql CN rfl ?_)))
         obtain ⟨v30, a30, h⟩ := bind_some h
         refine AG [] (Ks N p1 v26.fFrom v30 a30) Tw rfl (qf BF rfl (ql Bo rfl (qf D3 rfl (ql CN rfl ?_))))
         obtain ⟨v31, a31, b31, h⟩ := Ai h
         refine qi AJ Ec a31 (Ah b31) rfl (qk CN rfl ?_)
         obtain ⟨c32, h⟩ := AQ h
         refine I9 rfl c32 (Bj rfl (qa rfl (qa rfl (AA (by kernel_rfl) ?_))))
         exact Au _ h (sm [] _ _ rfl rfl)
        ·have h := An c29 h
         refine Aq ?_
         exact Au _ h (sm [] _ _ rfl rfl)
       ·refine AM h (fun v33 => mk [(2, .e (.one (.ptr 2 0))), (3, .e (.one (.ptr 3 0))), (95, .e (.one (.pure (.sl (p0.fTables.map Ar))))), (96, .e (.one (.pure (.val (.int .i64 ((p0.fTables.length : Int))))))), (97, .e (.one (.pure (.val (.int .i64 v23))))), (133, .e (.one (.pure (.val (.bool v33)))))] [(2, .box [.pure (.sl (p0.fVersions.map Al)), .pure (.sl (p0.fNow.map Al)), .pure (.sl (p0.fTarget.map Al)), .pure (.sl (p0.fTables.map Ar))]), (3, .box [.pure (.sl (p1.fBase.map Al)), .pure (.sl (p1.fNext.map Al)), .pure (.sl (p1.fHeld.map Bg))])]) (fun j33 h => ?_) (fun v33 h => ?_)
        ·refine Aa Ac rfl (qm rfl (qf Dm rfl (ql HV rfl (qm rfl ?_))))
         obtain ⟨v34, a34, b34, h⟩ := Ai h
         refine qi D0 GJ a34 (Ah b34) rfl (qk KY rfl (J6 rfl (Ct rfl (qm rfl ?_))))
         refine AD (t := 124) rfl (fun c35 => ?_) (fun c35 => ?_)
         ·have h := Ao c35 h
          refine qn rfl (qn rfl (qn rfl (qn rfl (qn rfl (qn rfl (qn rfl (qn rfl (qp rfl (Ae ?_)))))))))
          exact Au _ h (sm [] _ _ rfl rfl)
         ·have h := An c35 h
          refine qf Dm rfl (ql HV rfl (qm rfl ?_))
          obtain ⟨v36, a36, b36, h⟩ := Ai h
          refine qi D0 GJ a36 (Ah b36) rfl (qk KY rfl (qm rfl (J6 rfl (Ct rfl (qp rfl (Ae ?_))))))
          exact Au _ h (sm [] _ _ rfl rfl)
        ·refine Ap rfl (fun c37 => ?_) (fun c37 => ?_)
         ·have h := Ao c37 h
          refine Ab (Aa Ac rfl (qa rfl (Ae ?_)))
          obtain rfl := sj h
          refine Am (sm [] [(4, .e (.one (.pure (.val (.int .i64 1)))))] [] rfl rfl) (Az ?_)
          exact ⟨⟨[_], ⟨.tmp _ _ rfl, trivial⟩, rfl⟩, trivial⟩
         ·have h := An c37 h
          refine Aq (Aa Ac rfl (AN rfl (qm rfl (Ae ?_))))
          exact Au _ h (sm [] _ _ rfl rfl)
      ·have h := An c25 h
       refine AP ?_
       exact Au _ h (sm [] _ _ rfl rfl)
     ·refine Am hs (Ab (Aa Ac rfl (qa rfl (Ae ?_))))
      obtain rfl := sj h
      refine Am (sm [] [(4, .e (.one (.pure (.val (.int .i64 0)))))] [] rfl rfl) (Az ?_)
      exact ⟨⟨[_], ⟨.tmp _ _ rfl, trivial⟩, rfl⟩, trivial⟩
set_option maxRecDepth 10000 in
theorem Fd (N : Nat) (p0 : List Int) (r : (List Int)) (h : BO N p0 = some r) : AB Tryz.prog 67 [.e (.one (.pure (.sl (p0.map Bg))))] [(1, r.map Bg)] (.e (.one (.own 0))) := by
 unfold BO at h
 refine As (n := 8) (rs := [.tmp 2]) Tryz.func67 rfl rfl rfl (A3 rfl) (A3 rfl) rfl fun w0 S0 => ?_
 refine Ab (Aa Ac rfl (qa rfl (Ae (Ab (Ab (Aa Ac rfl (qm rfl ?_)))))))
 refine SF (.p rfl) rfl D0 ?_
 refine Ae ?_
 refine SP rfl (fun c2 => ?_) ?_
 ·have c2 := List.map_eq_nil_iff.1 c2
  rw [c2] at h
  have h : (some (([] : List Int))) = some r := h
  refine Ab (Aa Ac rfl (qa rfl (Ae ?_)))
  obtain rfl := sj h
  refine Am ((Br 2 2001 1 rfl rfl rfl).trans (sm [(1000, 2001)] [(2, .e (.one (.own 1000)))] [(1000, .vec 1 ((([] : List Int)).map Bg))] rfl rfl)) (Az ?_)
  exact ⟨⟨[_], ⟨.tmp _ _ rfl, trivial⟩, rfl⟩, ⟨rfl, trivial⟩⟩
 ·refine Aq (Ab (Aa Ac rfl (EU D0 GJ Oe rfl (qm rfl ?_))))
  obtain ⟨c1, h⟩ := AQ h
  refine Lt (f := Bg) D0 D0 GJ Rp Oe (fun _ => rfl) c1 rfl (qa rfl (Ae ?_))
  obtain rfl := sj h
  refine Am (sm [(1000, 7)] [(2, .e (.one (.own 1000)))] [(1000, .vec 1 (((([] : List Int)) ++ p0).map Bg))] rfl rfl) (Az ?_)
  exact ⟨⟨[_], ⟨.tmp _ _ rfl, trivial⟩, rfl⟩, ⟨rfl, trivial⟩⟩
set_option maxRecDepth 10000 in
theorem Qz (N : Nat) (p0 : Ak) (p1 : Ag) (r : (List Ag) × Int) (h : H4 N p0 p1 = some r) : AB Tryz.prog 99 [.e (.agg [.pure (.sl (p0.fVersions.map Al)), .pure (.sl (p0.fNow.map Al)), .pure (.sl (p0.fTarget.map Al)), .pure (.sl (p0.fTables.map Ar))]), .e (.agg [.pure (.sl (p1.fBase.map Al)), .pure (.sl (p1.fNext.map Al)), .pure (.sl (p1.fHeld.map Bg))])] [(3, r.1.map Aj)] (.tup [.one (.own 0), .one (.pure (.val (.int .i64 r.2)))]) := by
 unfold H4 at h
 refine As (n := 75) (rs := [.tmp 4, .tmp 5]) Tryz.func99 rfl rfl rfl (A3 rfl) (A3 rfl) rfl fun w0 S0 => ?_
 refine Ab (Aa Ac rfl (qb rfl (qb rfl (qa rfl (qa rfl (Ae (Ab (Ab (Aa Ac rfl (qL EH Ep rfl (qL A4 Ay rfl ?_)))))))))))
 obtain ⟨v1, a1, h⟩ := bind_some h
 refine AG [] (Ja N p0 p1 v1 a1) TQ rfl (qa rfl (Ae (Ab (Aa Ac rfl (qm rfl (Ct rfl (Ae ?_)))))))
 refine Ap rfl (fun c2 => ?_) (fun c2 => ?_)
 ·have h := Ao c2 h
  refine Ab (Aa Ac rfl (qm rfl (qa rfl (qa rfl (Ae ?_)))))
  obtain rfl := sj h
  refine Am ((Br 4 2001 3 rfl rfl rfl).trans (sm [(1000, 2001)] [(4, .e (.one (.own 1000))), (5, .e (.one (.pure (.val (.int .i64 v1)))))] [(1000, .vec 3 ((([] : List Ag)).map Aj))] rfl rfl)) (Az ?_)
  exact ⟨⟨[_, _], ⟨.tmp _ _ rfl, ⟨.tmp _ _ rfl, trivial⟩⟩, rfl⟩, ⟨rfl, trivial⟩⟩
 ·have h := An c2 h
  refine Aq (Ab (Aa Ac rfl (qa rfl (Ae (Ab (Ab (Aa Ac rfl (qf BK rfl (ql Bo rfl (AU AJ rfl (qm rfl (Ae ?_))))))))))))
  refine AC (L := EN N p1) h (fun v3 => mk [(3, .e (.one (.ptr 3 0))), (7, .e (.one (.own 2002))), (22, .e (.one (.pure (.sl (p1.fNext.map Al))))), (23, .e (.one (.pure (.val (.int .i64 ((p1.fNext.length : Int))))))), (24, .e (.one (.pure (.val (.int .i64 v3.2)))))] [(3, .box [.pure (.sl (p1.fBase.map Al)), .pure (.sl (p1.fNext.map Al)), .pure (.sl (p1.fHeld.map Bg))]), (2002, .vec 1 (v3.1.map Al))]) (fun v4 => mk [(3, .e (.one (.ptr 3 0))), (7, .e (.one (.own 2003)))] [(3, .box [.pure (.sl (p1.fBase.map Al)), .pure (.sl (p1.fNext.map Al)), .pure (.sl (p1.fHeld.map Bg))]), (2003, .vec 1 (v4.map Al))]) (fun _ _ => rfl) ((Br 7 2005 1 rfl rfl rfl).trans (sm [(2002, 2005)] _ _ rfl rfl)) (fun j3 n3 v3 h => ?_) (fun v4 s h hs => ?_)
  ·unfold EN at h
   refine Ab (Aa Ac rfl (AT rfl (Ae (Ab ?_))))
   refine Ap rfl (fun c5 => ?_) (fun c5 => ?_)
   ·have h := Ao c5 h
    refine Aq ?_
    refine AM h (fun v6 => mk [(3, .e (.one (.ptr 3 0))), (7, .e (.one (.own 2004))), (22, .e (.one (.pure (.sl (p1.fNext.map Al))))), (23, .e (.one (.pure (.val (.int .i64 ((p1.fNext.length : Int))))))), (24, .e (.one (.pure (.val (.int .i64 v3.2)))))] [(3, .box [.pure (.sl (p1.fBase.map Al)), .pure (.sl (p1.fNext.map Al)), .pure (.sl (p1.fHeld.map Bg))]), (2004, .vec 1 (v6.map Al))]) (fun j6 h => ?_) (fun v6 h => ?_)
    ·refine AH (Ab (Aa Ac rfl (qm rfl ?_)))
     obtain ⟨v7, a7, b7, h⟩ := Ai h
     refine qi AJ Ec a7 (Ah b7) rfl (qk CN rfl (qa rfl (qa rfl (Ae (Ab (Aa Ac rfl (qm rfl (Db rfl (Ae ?_)))))))))
     refine Ap rfl (fun c8 => ?_) (fun c8 => ?_)
     ·have h := Ao c8 h
      refine Aa Ac rfl (qm rfl (qm rfl (EU AJ Ec Lb rfl ?_)))
      obtain ⟨c9, h⟩ := AQ h
      refine El (f := Al) AJ AJ Ec Nr Lb c9 rfl (qa rfl (Ae ?_))
      exact Au _ h (sm [(2004, 34)] _ _ rfl rfl)
     ·have h := An c8 h
      refine Aq ?_
      exact Au _ h (sm [(2004, 2002)] _ _ rfl rfl)
    ·refine Aa Ac rfl (AN rfl (qm rfl (Ae ?_)))
     exact Au _ h (sm [(2002, 2004)] _ _ rfl rfl)
   ·have h := An c5 h
    refine AP ?_
    exact Au _ h (sm [(2003, 2002)] _ _ rfl rfl)
  ·refine Am hs (Ab (Aa Ac rfl (qa rfl (Ae (Ab (Ab (Aa Ac rfl (qm rfl (FL AJ rfl ?_)))))))))
   obtain ⟨c10, h⟩ := AQ h
   refine I9 rfl c10 (qm rfl (Ae ?_))
   refine AC (L := DU N p1 v4) h (fun v11 => mk [(3, .e (.one (.ptr 3 0))), (7, .e (.one (.own 2006))), (10, .e (.one (.own 2007))), (38, .e (.one (.pure (.val (.int .i64 ((Dy .i64 1 ((v4.length : Int))))))))), (39, .e (.one (.pure (.val (.int .i64 v11.2)))))] [(3, .box [.pure (.sl (p1.fBase.map Al)), .pure (.sl (p1.fNext.map Al)), .pure (.sl (p1.fHeld.map Bg))]), (2006, .vec 1 (v4.map Al)), (2007, .vec 3 (v11.1.map Aj))]) (fun v12 => mk [(10, .e (.one (.own 2008)))] [(2008, .vec 3 (v12.map Aj))]) (fun _ _ => rfl) ((Br 10 2027 3 rfl rfl rfl).trans (sm [(2006, 2003), (2007, 2027)] _ _ rfl rfl)) (fun j11 n11 v11 h => ?_) (fun v12 s h hs => ?_)
   ·unfold DU at h
    refine Ab (Aa Ac rfl (AT rfl (Ae (Ab ?_))))
    refine Ap rfl (fun c13 => ?_) (fun c13 => ?_)
    ·have h := Ao c13 h
     refine Aq (Ab (AH (Ab (Aa Ac rfl (qm rfl (qa rfl (Ae (Ab (Aa Ac rfl (qf Dx rfl (ql Bo rfl ?_)))))))))))
     obtain ⟨v14, a14, h⟩ := bind_some h
     refine AG [2009] (DL N p1.fBase v14 a14) R5 rfl (qf BK rfl (ql Bo rfl ?_))
     obtain ⟨v15, a15, h⟩ := bind_some h
     refine AG [2010] (DL N p1.fNext v15 a15) R5 rfl (qf Dm rfl (ql HV rfl ?_))
     obtain ⟨v16, a16, h⟩ := bind_some h
     refine AG [2011] (Fd N p1.fHeld v16 a16) WD rfl (Bq Dc HS rfl (qz Dc rfl (qs Ay rfl (AA (by kernel_rfl) (Ab (Ab (Aa Ac rfl (qm rfl (FL AJ rfl (qm rfl (Ae ?_)))))))))))
     refine AC (L := DW N v4 v11) h (fun v17 => mk [(3, .e (.one (.ptr 3 0))), (7, .e (.one (.own 2015))), (10, .e (.one (.own 2016))), (11, .e (.one (.pure (.val (.int .i64 v11.2))))), (12, .e (.one (.ptr 12 0))), (38, .e (.one (.pure (.val (.int .i64 ((Dy .i64 1 ((v4.length : Int))))))))), (39, .e (.one (.pure (.val (.int .i64 v11.2))))), (52, .e (.one (.own 2015))), (53, .e (.one (.pure (.val (.int .i64 ((v4.length : Int))))))), (54, .e (.one (.pure (.val (.int .i64 v17.2)))))] [(3, .box [.pure (.sl (p1.fBase.map Al)), .pure (.sl (p1.fNext.map Al)), .pure (.sl (p1.fHeld.map Bg))]), (12, .box [.own 2012, .own 2013, .own 2014]), (2012, .vec 1 (v14.map Al)), (2013, .vec 1 (v17.1.map Al)), (2014, .vec 1 (v16.map Bg)), (2015, .vec 1 (v4.map Al)), (2016, .vec 3 (v11.1.map Aj))]) (fun v18 => mk [(3, .e (.one (.ptr 3 0))), (7, .e (.one (.own 2020))), (10, .e (.one (.own 2021))), (12, .e (.one (.ptr 12 0))), (38, .e (.one (.pure (.val (.int .i64 ((Dy .i64 1 ((v4.length : Int))))))))), (39, .e (.one (.pure (.val (.int .i64 v11.2)))))] [(3, .box [.pure (.sl (p1.fBase.map Al)), .pure (.sl (p1.fNext.map Al)), .pure (.sl (p1.fHeld.map Bg))]), (12, .box [.own 2017, .own 2018, .own 2019]), (2017, .vec 1 (v14.map Al)), (2018, .vec 1 (v18.map Al)), (2019, .vec 1 (v16.map Bg)), (2020, .vec 1 (v4.map Al)), (2021, .vec 3 (v11.1.map Aj))]) (fun _ _ => rfl) (sm [(2012, 2009), (2013, 2010), (2014, 2011), (2015, 2006), (2016, 2007)] _ _ rfl rfl) (fun j17 n17 v17 h => ?_) (fun v18 s h hs => ?_)
     ·unfold DW at h
      refine Ab (Aa Ac rfl (AT rfl (Ae (Ab ?_))))
      refine Ap rfl (fun c19 => ?_) (fun c19 => ?_)
      ·have h := Ao c19 h
       refine Aq ?_
       refine AM h (fun v20 => mk [(3, .e (.one (.ptr 3 0))), (7, .e (.one (.own 2025))), (10, .e (.one (.own 2026))), (11, .e (.one (.pure (.val (.int .i64 v11.2))))), (12, .e (.one (.ptr 12 0))), (38, .e (.one (.pure (.val (.int .i64 ((Dy .i64 1 ((v4.length : Int))))))))), (39, .e (.one (.pure (.val (.int .i64 v11.2))))), (52, .e (.one (.own 2025))), (53, .e (.one (.pure (.val (.int .i64 ((v4.length : Int))))))), (54, .e (.one (.pure (.val (.int .i64 v17.2)))))] [(3, .box [.pure (.sl (p1.fBase.map Al)), .pure (.sl (p1.fNext.map Al)), .pure (.sl (p1.fHeld.map Bg))]), (12, .box [.own 2022, .own 2023, .own 2024]), (2022, .vec 1 (v14.map Al)), (2023, .vec 1 (v20.map Al)), (2024, .vec 1 (v16.map Bg)), (2025, .vec 1 (v4.map Al)), (2026, .vec 3 (v11.1.map Aj))]) (fun j20 h => ?_) (fun v20 h => ?_)
       ·refine AH (Ab (Aa Ac rfl (qm rfl ?_)))
        obtain ⟨v21, a21, b21, h⟩ := Ai h
        refine qI AJ Ec a21 (Ah b21) rfl (qj CN (Ah b21) rfl (qa rfl (qa rfl (Ae (Ab (Aa Ac rfl (qm rfl (qm rfl ?_))))))))
        obtain ⟨c22, h⟩ := AQ h
        refine Iq rfl c22 (LD rfl (BX rfl (Ae ?_)))
        refine Ap rfl (fun c23 => ?_) (fun c23 => ?_)
        ·have h := Ao c23 h
         refine Aa Ac rfl (qf BK rfl (ql Bo rfl (qm rfl ?_)))
         obtain ⟨v24, a24, b24, h⟩ := Ai h
         refine qI AJ Ec a24 (Ah b24) rfl ?_
         refine AV rfl rfl rfl rfl (Ah b24) rfl Ec rfl (A3 rfl) (AW Al v17.1 _ ((-1))) ?_
         refine Ae ?_
         exact Au _ h (sm [(2022, 2012), (2023, 2013), (2024, 2014), (2025, 2015), (2026, 2016)] _ _ rfl rfl)
        ·have h := An c23 h
         refine Aq ?_
         exact Au _ h (sm [(2022, 2012), (2023, 2013), (2024, 2014), (2025, 2015), (2026, 2016)] _ _ rfl rfl)
       ·refine Aa Ac rfl (AN rfl (qm rfl (Ae ?_)))
        exact Au _ h (sm [(2012, 2022), (2013, 2023), (2014, 2024), (2015, 2025), (2016, 2026)] _ _ rfl rfl)
      ·have h := An c19 h
       refine AP ?_
       exact Au _ h (sm [(2017, 2012), (2018, 2013), (2019, 2014), (2020, 2015), (2021, 2016)] _ _ rfl rfl)
     ·refine Am hs (Aa Ac rfl (qm rfl (qL A4 Ay rfl (Ev (Bm 2017 _ _ rfl rfl) (Ev (Bm 2018 _ _ rfl rfl) (Ev (Bm 2019 _ _ rfl rfl) (EU AZ Ay Dc rfl ?_)))))))
      obtain ⟨c25, h⟩ := AQ h
      refine El (f := Aj) AZ AZ Ay ST Dc c25 rfl (qa rfl (Ae (Aa Ac rfl (AN rfl (qm rfl (Ae ?_))))))
      exact Au _ h (sm [(2006, 2020), (2007, 72)] _ _ rfl rfl)
    ·have h := An c13 h
     refine AP ?_
     exact Au _ h (sm [(2008, 2007)] _ _ rfl rfl)
   ·refine Am hs (Ab (Aa Ac rfl (qm rfl (qa rfl (qa rfl (Ae ?_))))))
    obtain rfl := sj h
    refine Am (sm [(1000, 2008)] [(4, .e (.one (.own 1000))), (5, .e (.one (.pure (.val (.int .i64 0)))))] [(1000, .vec 3 (v12.map Aj))] rfl rfl) (Az ?_)
    exact ⟨⟨[_, _], ⟨.tmp _ _ rfl, ⟨.tmp _ _ rfl, trivial⟩⟩, rfl⟩, ⟨rfl, trivial⟩⟩
set_option maxRecDepth 10000 in
theorem NY (N : Nat) (p0 : Ak) (p1 : Ag) (r : (List Af)) (h : GC N p0 p1 = some r) : AB Tryz.prog 100 [.e (.agg [.pure (.sl (p0.fVersions.map Al)), .pure (.sl (p0.fNow.map Al)), .pure (.sl (p0.fTarget.map Al)), .pure (.sl (p0.fTables.map Ar))]), .e (.agg [.pure (.sl (p1.fBase.map Al)), .pure (.sl (p1.fNext.map Al)), .pure (.sl (p1.fHeld.map Bg))])] [(3, r.map Ad)] (.e (.one (.own 0))) := by
 unfold GC at h
 refine As (n := 98) (rs := [.tmp 4]) Tryz.func100 rfl rfl rfl (A3 rfl) (A3 rfl) rfl fun w0 S0 => ?_
 refine Ab (Aa Ac rfl (qb rfl (qb rfl (qa rfl (Ae (Ab (Aa Ac rfl (qa rfl (Ae (Ab (Ab (Aa Ac rfl (qf DS rfl (ql IM rfl (AU Fk rfl (qm rfl (Ae ?_)))))))))))))))))
 refine AC (L := Eo N p0 p1) h (fun v1 => mk [(3, .e (.one (.ptr 3 0))), (5, .e (.one (.own 2001))), (15, .e (.one (.pure (.sl (p0.fTables.map Ar))))), (16, .e (.one (.pure (.val (.int .i64 ((p0.fTables.length : Int))))))), (17, .e (.one (.pure (.val (.int .i64 v1.2)))))] [(3, .box [.pure (.sl (p1.fBase.map Al)), .pure (.sl (p1.fNext.map Al)), .pure (.sl (p1.fHeld.map Bg))]), (2001, .vec 3 (v1.1.map Ad))]) (fun v2 => mk [(5, .e (.one (.own 2002)))] [(2002, .vec 3 (v2.map Ad))]) (fun _ _ => rfl) ((Br 5 2013 3 rfl rfl rfl).trans (sm [(2001, 2013)] _ _ rfl rfl)) (fun j1 n1 v1 h => ?_) (fun v2 s h hs => ?_)
 ·unfold Eo at h
  refine Ab (Aa Ac rfl (AT rfl (Ae (Ab ?_))))
  refine Ap rfl (fun c3 => ?_) (fun c3 => ?_)
  ·have h := Ao c3 h
   refine Aq (Ab (AH (Ab (Aa Ac rfl (qm rfl ?_)))))
   obtain ⟨v4, a4, b4, h⟩ := Ai h
   refine qi Fk Fe a4 (Ah b4) rfl (qK IN Fe rfl (qz LW rfl (qa rfl (qs Fe rfl (Ae (Ab (Aa Ac rfl (qL A4 Ay rfl (qf D3 rfl (ql CN rfl ?_))))))))))
   obtain ⟨v5, a5, h⟩ := bind_some h
   refine AG [] (Ks N p1 v4.fFrom v5 a5) Tw rfl (qL A4 Ay rfl (qf Jy rfl (ql CN rfl ?_)))
   obtain ⟨v6, a6, h⟩ := bind_some h
   refine AG [] (Ks N p1 v4.fTo v6 a6) Tw rfl (qa rfl (qa rfl (AA (by kernel_rfl) ?_)))
   refine AM h (fun v7 => mk [(3, .e (.one (.ptr 3 0))), (5, .e (.one (.own 2003))), (6, .e (.one (.pure (.val (.int .i64 v1.2))))), (7, .e (.one (.ptr 7 0))), (8, .e (.one (.pure (.val (.int .u8 v7))))), (9, .e (.one (.pure (.val (.int .u8 v6))))), (15, .e (.one (.pure (.sl (p0.fTables.map Ar))))), (16, .e (.one (.pure (.val (.int .i64 ((p0.fTables.length : Int))))))), (17, .e (.one (.pure (.val (.int .i64 v1.2)))))] [(3, .box [.pure (.sl (p1.fBase.map Al)), .pure (.sl (p1.fNext.map Al)), .pure (.sl (p1.fHeld.map Bg))]), (7, .box [.pure (.val (.int .i64 v4.fKind)), .pure (.val (.int .i64 v4.fFrom)), .pure (.val (.int .i64 v4.fTo)), .pure (.val (.bool v4.fAware)), .pure (.sl (v4.fOK.map (FZ eB))), .pure (.sl (v4.fRewrite.map (FZ eB)))]), (2003, .vec 3 (v1.1.map Ad))]) (fun j7 h => ?_) (fun v7 h => ?_)
   ·refine Ab (Aa Ac rfl (qL IN Fe rfl ?_))
    obtain ⟨v8, a8, h⟩ := bind_some h
    refine AG [] (KX N v4 v8 a8) WY rfl (Ae ?_)
    refine Ap rfl (fun c9 => ?_) (fun c9 => ?_)
    ·have h := Ao c9 h
     refine Aa Ac rfl (qf Dm rfl (ql HV rfl (qm rfl ?_)))
     obtain ⟨v10, a10, b10, h⟩ := Ai h
     refine qi D0 GJ a10 (Ah b10) rfl (qk KY rfl (qa rfl (Ae ?_)))
     exact Au _ h (sm [(2003, 2001)] _ _ rfl rfl)
    ·have h := An c9 h
     refine Aq ?_
     exact Au _ h (sm [(2003, 2001)] _ _ rfl rfl)
   ·refine Ab (Aa Ac rfl (qf K4 rfl (ql Lz rfl (AU HK rfl (qm rfl (Ae ?_))))))
    refine AC (L := C7 N v1 v4 v6 v7) h (fun v11 => mk [(3, .e (.one (.ptr 3 0))), (5, .e (.one (.own 2004))), (6, .e (.one (.pure (.val (.int .i64 v1.2))))), (7, .e (.one (.ptr 7 0))), (8, .e (.one (.pure (.val (.int .u8 v7))))), (9, .e (.one (.pure (.val (.int .u8 v6))))), (15, .e (.one (.pure (.sl (p0.fTables.map Ar))))), (16, .e (.one (.pure (.val (.int .i64 ((p0.fTables.length : Int))))))), (17, .e (.one (.pure (.val (.int .i64 v1.2))))), (39, .e (.one (.pure (.val (.int .i64 ((v4.fOK.length : Int))))))), (40, .e (.one (.pure (.val (.int .i64 v11.2)))))] [(3, .box [.pure (.sl (p1.fBase.map Al)), .pure (.sl (p1.fNext.map Al)), .pure (.sl (p1.fHeld.map Bg))]), (7, .box [.pure (.val (.int .i64 v4.fKind)), .pure (.val (.int .i64 v4.fFrom)), .pure (.val (.int .i64 v4.fTo)), .pure (.val (.bool v4.fAware)), .pure (.sl (v4.fOK.map (FZ eB))), .pure (.sl (v4.fRewrite.map (FZ eB)))]), (2004, .vec 3 (v11.1.map Ad))]) (fun v12 => mk [(3, .e (.one (.ptr 3 0))), (5, .e (.one (.own 2005))), (15, .e (.one (.pure (.sl (p0.fTables.map Ar))))), (16, .e (.one (.pure (.val (.int .i64 ((p0.fTables.length : Int))))))), (17, .e (.one (.pure (.val (.int .i64 v1.2)))))] [(3, .box [.pure (.sl (p1.fBase.map Al)), .pure (.sl (p1.fNext.map Al)), .pure (.sl (p1.fHeld.map Bg))]), (2005, .vec 3 (v12.map Ad))]) (fun _ _ => rfl) (sm [(2004, 2003)] _ _ rfl rfl) (fun j11 n11 v11 h => ?_) (fun v12 s h hs => ?_)
    ·unfold C7 at h
     refine Ab (Aa Ac rfl (AT rfl (Ae (Ab ?_))))
     refine Ap rfl (fun c13 => ?_) (fun c13 => ?_)
     ·have h := Ao c13 h
      refine Aq ?_
      refine AM h (fun v14 => mk [(3, .e (.one (.ptr 3 0))), (5, .e (.one (.own 2006))), (6, .e (.one (.pure (.val (.int .i64 v1.2))))), (7, .e (.one (.ptr 7 0))), (8, .e (.one (.pure (.val (.int .u8 v7))))), (9, .e (.one (.pure (.val (.int .u8 v6))))), (15, .e (.one (.pure (.sl (p0.fTables.map Ar))))), (16, .e (.one (.pure (.val (.int .i64 ((p0.fTables.length : Int))))))), (17, .e (.one (.pure (.val (.int .i64 v1.2))))), (39, .e (.one (.pure (.val (.int .i64 ((v4.fOK.length : Int))))))), (40, .e (.one (.pure (.val (.int .i64 v11.2)))))] [(3, .box [.pure (.sl (p1.fBase.map Al)), .pure (.sl (p1.fNext.map Al)), .pure (.sl (p1.fHeld.map Bg))]), (7, .box [.pure (.val (.int .i64 v4.fKind)), .pure (.val (.int .i64 v4.fFrom)), .pure (.val (.int .i64 v4.fTo)), .pure (.val (.bool v4.fAware)), .pure (.sl (v4.fOK.map (FZ eB))), .pure (.sl (v4.fRewrite.map (FZ eB)))]), (2006, .vec 3 (v14.map Ad))]) (fun j14 h => ?_) (fun v14 h => ?_)
      ·refine AH (Ab (Aa Ac rfl (qm rfl (qa rfl (Ae (Ab (Ab (Aa Ac rfl (qm rfl (qm rfl ?_))))))))))
       obtain ⟨c15, h⟩ := AQ h
       refine Iq rfl c15 (LD rfl (BX rfl (Ae ?_)))
       refine Ap rfl (fun c16 => ?_) (fun c16 => ?_)
       ·have h := Ao c16 h
        refine AP ?_
        exact Au _ h (sm [(2006, 2004)] _ _ rfl rfl)
       ·have h := An c16 h
        refine Aq (Ab (Aa Ac rfl (qa rfl (Ae (Ab (Ab (Aa Ac rfl (qf K4 rfl (ql Lz rfl (qm rfl ?_))))))))))
        obtain ⟨v17, a17, b17, h⟩ := Ai h
        refine qi HK N2 a17 (Ah b17) rfl (qk Qs rfl (AU HY rfl (qm rfl (Ae ?_))))
        refine AC (L := Cv N v1 v4 v6 v11 v17) h (fun v18 => mk [(3, .e (.one (.ptr 3 0))), (5, .e (.one (.own 2007))), (6, .e (.one (.pure (.val (.int .i64 v1.2))))), (7, .e (.one (.ptr 7 0))), (8, .e (.one (.pure (.val (.int .u8 v7))))), (9, .e (.one (.pure (.val (.int .u8 v6))))), (10, .e (.one (.pure (.val (.int .i64 v11.2))))), (11, .e (.one (.pure (.val (.bool v18.2.1))))), (15, .e (.one (.pure (.sl (p0.fTables.map Ar))))), (16, .e (.one (.pure (.val (.int .i64 ((p0.fTables.length : Int))))))), (17, .e (.one (.pure (.val (.int .i64 v1.2))))), (39, .e (.one (.pure (.val (.int .i64 ((v4.fOK.length : Int))))))), (40, .e (.one (.pure (.val (.int .i64 v11.2))))), (52, .e (.one (.pure (.sl (v17.map eB))))), (53, .e (.one (.pure (.val (.int .i64 ((v17.length : Int))))))), (54, .e (.one (.pure (.val (.int .i64 v18.2.2)))))] [(3, .box [.pure (.sl (p1.fBase.map Al)), .pure (.sl (p1.fNext.map Al)), .pure (.sl (p1.fHeld.map Bg))]), (7, .box [.pure (.val (.int .i64 v4.fKind)), .pure (.val (.int .i64 v4.fFrom)), .pure (.val (.int .i64 v4.fTo)), .pure (.val (.bool v4.fAware)), .pure (.sl (v4.fOK.map (FZ eB))), .pure (.sl (v4.fRewrite.map (FZ eB)))]), (2007, .vec 3 (v18.1.map Ad))]) (fun v19 => mk [(3, .e (.one (.ptr 3 0))), (5, .e (.one (.own 2008))), (6, .e (.one (.pure (.val (.int .i64 v1.2))))), (7, .e (.one (.ptr 7 0))), (8, .e (.one (.pure (.val (.int .u8 v7))))), (9, .e (.one (.pure (.val (.int .u8 v6))))), (10, .e (.one (.pure (.val (.int .i64 v11.2))))), (11, .e (.one (.pure (.val (.bool v19.2))))), (15, .e (.one (.pure (.sl (p0.fTables.map Ar))))), (16, .e (.one (.pure (.val (.int .i64 ((p0.fTables.length : Int))))))), (17, .e (.one (.pure (.val (.int .i64 v1.2))))), (39, .e (.one (.pure (.val (.int .i64 ((v4.fOK.length : Int))))))), (40, .e (.one (.pure (.val (.int .i64 v11.2)))))] [(3, .box [.pure (.sl (p1.fBase.map Al)), .pure (.sl (p1.fNext.map Al)), .pure (.sl (p1.fHeld.map Bg))]), (7, .box [.pure (.val (.int .i64 v4.fKind)), .pure (.val (.int .i64 v4.fFrom)), .pure (.val (.int .i64 v4.fTo)), .pure (.val (.bool v4.fAware)), .pure (.sl (v4.fOK.map (FZ eB))), .pure (.sl (v4.fRewrite.map (FZ eB)))]), (2008, .vec 3 (v19.1.map Ad))]) (fun _ _ => rfl) (sm [(2007, 2004)] _ _ rfl rfl) (fun j18 n18 v18 h => ?_) (fun v19 s h hs => ?_)
        ·unfold Cv at h
         refine Ab (Aa Ac rfl (AT rfl (Ae (Ab ?_))))
         refine Ap rfl (fun c20 => ?_) (fun c20 => ?_)
         ·have h := Ao c20 h
          refine Aq ?_
          refine AM h (fun v21 => mk [(3, .e (.one (.ptr 3 0))), (5, .e (.one (.own 2009))), (6, .e (.one (.pure (.val (.int .i64 v1.2))))), (7, .e (.one (.ptr 7 0))), (8, .e (.one (.pure (.val (.int .u8 v7))))), (9, .e (.one (.pure (.val (.int .u8 v6))))), (10, .e (.one (.pure (.val (.int .i64 v11.2))))), (11, .e (.one (.pure (.val (.bool v21.2))))), (15, .e (.one (.pure (.sl (p0.fTables.map Ar))))), (16, .e (.one (.pure (.val (.int .i64 ((p0.fTables.length : Int))))))), (17, .e (.one (.pure (.val (.int .i64 v1.2))))), (39, .e (.one (.pure (.val (.int .i64 ((v4.fOK.length : Int))))))), (40, .e (.one (.pure (.val (.int .i64 v11.2))))), (52, .e (.one (.pure (.sl (v17.map eB))))), (53, .e (.one (.pure (.val (.int .i64 ((v17.length : Int))))))), (54, .e (.one (.pure (.val (.int .i64 v18.2.2)))))] [(3, .box [.pure (.sl (p1.fBase.map Al)), .pure (.sl (p1.fNext.map Al)), .pure (.sl (p1.fHeld.map Bg))]), (7, .box [.pure (.val (.int .i64 v4.fKind)), .pure (.val (.int .i64 v4.fFrom)), .pure (.val (.int .i64 v4.fTo)), .pure (.val (.bool v4.fAware)), .pure (.sl (v4.fOK.map (FZ eB))), .pure (.sl (v4.fRewrite.map (FZ eB)))]), (2009, .vec 3 (v21.1.map Ad))]) (fun j21 h => ?_) (fun v21 h => ?_)
          ·refine AH (Ab (Aa Ac rfl (qm rfl ?_)))
           obtain ⟨v22, a22, b22, h⟩ := Ai h
           refine qi HY QO a22 (Ah b22) rfl (qk SX rfl (qa rfl (qa rfl (Ae (Ab (Ab (Aa Ac rfl (qm rfl (qm rfl ?_)))))))))
           obtain ⟨c23, h⟩ := AQ h
           refine Iq rfl c23 (LD rfl (BX rfl (Ae ?_)))
           refine Ap rfl (fun c24 => ?_) (fun c24 => ?_)
           ·have h := Ao c24 h
            refine AP ?_
            exact Au _ h (sm [(2009, 2007)] _ _ rfl rfl)
           ·have h := An c24 h
            refine Aq ?_
            refine AM h (fun v25 => mk [(3, .e (.one (.ptr 3 0))), (5, .e (.one (.own 2010))), (6, .e (.one (.pure (.val (.int .i64 v1.2))))), (7, .e (.one (.ptr 7 0))), (8, .e (.one (.pure (.val (.int .u8 v7))))), (9, .e (.one (.pure (.val (.int .u8 v6))))), (10, .e (.one (.pure (.val (.int .i64 v11.2))))), (11, .e (.one (.pure (.val (.bool v25))))), (12, .e (.one (.pure (.val (.int .i64 v18.2.2))))), (13, .e (.one (.pure (.val (.bool v22))))), (15, .e (.one (.pure (.sl (p0.fTables.map Ar))))), (16, .e (.one (.pure (.val (.int .i64 ((p0.fTables.length : Int))))))), (17, .e (.one (.pure (.val (.int .i64 v1.2))))), (39, .e (.one (.pure (.val (.int .i64 ((v4.fOK.length : Int))))))), (40, .e (.one (.pure (.val (.int .i64 v11.2))))), (52, .e (.one (.pure (.sl (v17.map eB))))), (53, .e (.one (.pure (.val (.int .i64 ((v17.length : Int))))))), (54, .e (.one (.pure (.val (.int .i64 v18.2.2)))))] [(3, .box [.pure (.sl (p1.fBase.map Al)), .pure (.sl (p1.fNext.map Al)), .pure (.sl (p1.fHeld.map Bg))]), (7, .box [.pure (.val (.int .i64 v4.fKind)), .pure (.val (.int .i64 v4.fFrom)), .pure (.val (.int .i64 v4.fTo)), .pure (.val (.bool v4.fAware)), .pure (.sl (v4.fOK.map (FZ eB))), .pure (.sl (v4.fRewrite.map (FZ eB)))]), (2010, .vec 3 (v18.1.map Ad))]) (fun j25 h => ?_) (fun v25 h => ?_)
            ·refine Aa Ac rfl (qm rfl (qm rfl ?_))
             refine AD (t := 65) rfl (fun c26 => ?_) (fun c26 => ?_)
             ·have h := Ao c26 h
              refine qn rfl (qp rfl (qa rfl (Ae ?_)))
              exact Au _ h (sm [(2010, 2007)] _ _ rfl rfl)
             ·have h := An c26 h
              refine qm rfl (qp rfl (qa rfl (Ae ?_)))
              exact Au _ h (sm [(2010, 2007)] _ _ rfl rfl)
            ·refine AM h (fun v27 => mk [(3, .e (.one (.ptr 3 0))), (5, .e (.one (.own 2011))), (6, .e (.one (.pure (.val (.int .i64 v1.2))))), (7, .e (.one (.ptr 7 0))), (8, .e (.one (.pure (.val (.int .u8 v7))))), (9, .e (.one (.pure (.val (.int .u8 v6))))), (10, .e (.one (.pure (.val (.int .i64 v11.2))))), (11, .e (.one (.pure (.val (.bool v25))))), (12, .e (.one (.pure (.val (.int .i64 v18.2.2))))), (15, .e (.one (.pure (.sl (p0.fTables.map Ar))))), (16, .e (.one (.pure (.val (.int .i64 ((p0.fTables.length : Int))))))), (17, .e (.one (.pure (.val (.int .i64 v1.2))))), (39, .e (.one (.pure (.val (.int .i64 ((v4.fOK.length : Int))))))), (40, .e (.one (.pure (.val (.int .i64 v11.2))))), (52, .e (.one (.pure (.sl (v17.map eB))))), (53, .e (.one (.pure (.val (.int .i64 ((v17.length : Int))))))), (54, .e (.one (.pure (.val (.int .i64 v18.2.2))))), (74, .e (.one (.pure (.val (.bool v27)))))] [(3, .box [.pure (.sl (p1.fBase.map Al)), .pure (.sl (p1.fNext.map Al)), .pure (.sl (p1.fHeld.map Bg))]), (7, .box [.pure (.val (.int .i64 v4.fKind)), .pure (.val (.int .i64 v4.fFrom)), .pure (.val (.int .i64 v4.fTo)), .pure (.val (.bool v4.fAware)), .pure (.sl (v4.fOK.map (FZ eB))), .pure (.sl (v4.fRewrite.map (FZ eB)))]), (2011, .vec 3 (v18.1.map Ad))]) (fun j27 h => ?_) (fun v27 h => ?_)
             ·refine Aa Ac rfl (qm rfl (Cb rfl (qm rfl ?_)))
              refine AD (t := 70) rfl (fun c28 => ?_) (fun c28 => ?_)
              ·have h := Ao c28 h
               refine qf Kl rfl (ql SX rfl (Cb rfl (qp rfl (Ae ?_))))
               exact Au _ h (sm [(2011, 2010)] _ _ rfl rfl)
              ·have h := An c28 h
               refine qn rfl (qn rfl (qn rfl (qp rfl (Ae ?_))))
               exact Au _ h (sm [(2011, 2010)] _ _ rfl rfl)
             ·refine Ap rfl (fun c29 => ?_) (fun c29 => ?_)
              ·have h := Ao c29 h
               refine Aa Ac rfl (qm rfl (qm rfl (qm rfl (qm rfl (Bq IV Qj rfl (EU Bb AS IV rfl ?_))))))
               obtain ⟨c30, h⟩ := AQ h
               refine El (f := Ad) Bb Bb AS RN IV c30 rfl (qa rfl (Ae ?_))
               exact Au _ h (sm [(2009, 81)] _ _ rfl rfl)
              ·have h := An c29 h
               refine Aq ?_
               exact Au _ h (sm [(2009, 2011)] _ _ rfl rfl)
          ·refine Aa Ac rfl (AN rfl (qm rfl (Ae ?_)))
           exact Au _ h (sm [(2007, 2009)] _ _ rfl rfl)
         ·have h := An c20 h
          refine AP ?_
          exact Au _ h (sm [(2008, 2007)] _ _ rfl rfl)
        ·refine Am hs ?_
         refine AM h (fun v31 => mk [(3, .e (.one (.ptr 3 0))), (5, .e (.one (.own 2012))), (6, .e (.one (.pure (.val (.int .i64 v1.2))))), (7, .e (.one (.ptr 7 0))), (8, .e (.one (.pure (.val (.int .u8 v7))))), (9, .e (.one (.pure (.val (.int .u8 v6))))), (10, .e (.one (.pure (.val (.int .i64 v11.2))))), (15, .e (.one (.pure (.sl (p0.fTables.map Ar))))), (16, .e (.one (.pure (.val (.int .i64 ((p0.fTables.length : Int))))))), (17, .e (.one (.pure (.val (.int .i64 v1.2))))), (39, .e (.one (.pure (.val (.int .i64 ((v4.fOK.length : Int))))))), (40, .e (.one (.pure (.val (.int .i64 v11.2))))), (88, .e (.one (.pure (.val (.bool v31)))))] [(3, .box [.pure (.sl (p1.fBase.map Al)), .pure (.sl (p1.fNext.map Al)), .pure (.sl (p1.fHeld.map Bg))]), (7, .box [.pure (.val (.int .i64 v4.fKind)), .pure (.val (.int .i64 v4.fFrom)), .pure (.val (.int .i64 v4.fTo)), .pure (.val (.bool v4.fAware)), .pure (.sl (v4.fOK.map (FZ eB))), .pure (.sl (v4.fRewrite.map (FZ eB)))]), (2012, .vec 3 (v19.1.map Ad))]) (fun j31 h => ?_) (fun v31 h => ?_)
         ·refine Aa Ac rfl (qf Kl rfl (ql SX rfl (qm rfl ?_)))
          refine AD (t := 85) rfl (fun c32 => ?_) (fun c32 => ?_)
          ·have h := Ao c32 h
           refine qm rfl (Cb rfl (qp rfl (Ae ?_)))
           exact Au _ h (sm [(2012, 2008)] _ _ rfl rfl)
          ·have h := An c32 h
           refine qn rfl (qn rfl (qp rfl (Ae ?_)))
           exact Au _ h (sm [(2012, 2008)] _ _ rfl rfl)
         ·refine Ap rfl (fun c33 => ?_) (fun c33 => ?_)
          ·have h := Ao c33 h
           refine Aa Ac rfl (qm rfl (qm rfl (qm rfl (Bq IV Qj rfl (EU Bb AS IV rfl ?_)))))
           obtain ⟨c34, h⟩ := AQ h
           refine El (f := Ad) Bb Bb AS RN IV c34 rfl (qa rfl (Ae ?_))
           exact Au _ h (sm [(2006, 94)] _ _ rfl rfl)
          ·have h := An c33 h
           refine Aq ?_
           exact Au _ h (sm [(2006, 2012)] _ _ rfl rfl)
      ·refine Aa Ac rfl (AN rfl (qm rfl (Ae ?_)))
       exact Au _ h (sm [(2004, 2006)] _ _ rfl rfl)
     ·have h := An c13 h
      refine AP ?_
      exact Au _ h (sm [(2005, 2004)] _ _ rfl rfl)
    ·refine Am hs (Aa Ac rfl (AN rfl (qm rfl (Ae ?_))))
     exact Au _ h (sm [(2001, 2005)] _ _ rfl rfl)
  ·have h := An c3 h
   refine AP ?_
   exact Au _ h (sm [(2002, 2001)] _ _ rfl rfl)
 ·refine Am hs (Ab (Aa Ac rfl (qm rfl (qa rfl (Ae ?_)))))
  obtain rfl := sj h
  refine Am (sm [(1000, 2002)] [(4, .e (.one (.own 1000)))] [(1000, .vec 3 (v2.map Ad))] rfl rfl) (Az ?_)
  exact ⟨⟨[_], ⟨.tmp _ _ rfl, trivial⟩, rfl⟩, ⟨rfl, trivial⟩⟩
set_option maxRecDepth 10000 in
theorem NO (N : Nat) (p0 : Ak) (p1 : Ag) (r : Ag × Af × Int) (h : HJ N p0 p1 = some r) : AB Tryz.prog 55 [.e (.agg [.pure (.sl (p0.fVersions.map Al)), .pure (.sl (p0.fNow.map Al)), .pure (.sl (p0.fTarget.map Al)), .pure (.sl (p0.fTables.map Ar))]), .e (.agg [.pure (.sl (p1.fBase.map Al)), .pure (.sl (p1.fNext.map Al)), .pure (.sl (p1.fHeld.map Bg))])] [] (.tup [.agg [.pure (.sl (r.1.fBase.map Al)), .pure (.sl (r.1.fNext.map Al)), .pure (.sl (r.1.fHeld.map Bg))], .agg [.pure (.val (.int .i64 r.2.1.fTable)), .pure (.val (.int .i64 r.2.1.fWriter)), .pure (.val (.int .i64 r.2.1.fReader))], .one (.pure (.val (.int .i64 r.2.2)))]) := by
 unfold HJ at h
 refine As (n := 42) (rs := [.cell 4 46, .cell 5 66, .tmp 6]) Tryz.func55 rfl rfl rfl (A3 rfl) (A3 rfl) rfl fun w0 S0 => ?_
 refine Ab (Aa Ac rfl (qb rfl (qb rfl (qz Dc rfl (qz IV rfl (qa rfl (Ae (Ab (Aa Ac rfl (qL EH Ep rfl (qL A4 Ay rfl ?_)))))))))))
 obtain ⟨v1, a1, h⟩ := bind_some h
 refine AG [2001] (Qz N p0 p1 v1 a1) Zg rfl (qm rfl (qx rfl (qx rfl (qa rfl (qa rfl (Ae (Ab (Ab (Aa Ac rfl (qm rfl (Ct rfl (Ae ?_))))))))))))
 refine Ap rfl (fun c2 => ?_) (fun c2 => ?_)
 ·have h := Ao c2 h
  refine Ab (Aa Ac rfl (Bq Dc HS rfl (Bq IV Qj rfl (qm rfl (qs Ay rfl (qs AS rfl (qa rfl (Ae ?_))))))))
  obtain rfl := sj h
  refine Am ((LQ 4 _ rfl).trans (sm [] [(4, .e (.one (.ptr 4 0))), (5, .e (.one (.ptr 5 0))), (6, .e (.one (.pure (.val (.int .i64 v1.2)))))] [(4, .box [.pure (.sl ((([] : List Int)).map Al)), .pure (.sl ((([] : List Int)).map Al)), .pure (.sl ((([] : List Int)).map Bg))]), (5, .box [.pure (.val (.int .i64 0)), .pure (.val (.int .i64 0)), .pure (.val (.int .i64 0))])] rfl rfl)) (Az ?_)
  exact ⟨⟨[_, _, _], ⟨.cellN _ _ _ _ _ _ _ rfl rfl A4 Ay rfl rfl (Jw rfl), ⟨.cellN _ _ _ _ _ _ _ rfl rfl Dz AS rfl rfl (Jw rfl), ⟨.tmp _ _ rfl, trivial⟩⟩⟩, rfl⟩, trivial⟩
 ·have h := An c2 h
  refine Aq (Ab (Ab (Aa Ac rfl (qm rfl (FL AZ rfl (qm rfl (Ae ?_)))))))
  refine AC (L := FI N p0 v1) h (fun v3 => mk [(2, .e (.one (.ptr 2 0))), (4, .e (.one (.ptr 4 0))), (5, .e (.one (.ptr 5 0))), (23, .e (.one (.own 2002))), (24, .e (.one (.pure (.val (.int .i64 ((v1.1.length : Int))))))), (25, .e (.one (.pure (.val (.int .i64 v3)))))] [(2, .box [.pure (.sl (p0.fVersions.map Al)), .pure (.sl (p0.fNow.map Al)), .pure (.sl (p0.fTarget.map Al)), .pure (.sl (p0.fTables.map Ar))]), (4, .box [.pure (.nil0), .pure (.nil0), .pure (.nil0)]), (5, .box [.pure (.val (.int .i64 0)), .pure (.val (.int .i64 0)), .pure (.val (.int .i64 0))]), (2002, .vec 3 (v1.1.map Aj))]) (fun v4 => mk [(4, .e (.one (.ptr 4 0))), (5, .e (.one (.ptr 5 0)))] [(4, .box [.pure (.nil0), .pure (.nil0), .pure (.nil0)]), (5, .box [.pure (.val (.int .i64 0)), .pure (.val (.int .i64 0)), .pure (.val (.int .i64 0))])]) (fun _ _ => rfl) (sm [(2002, 2001)] _ _ rfl rfl) (fun j3 n3 v3 h => ?_) (fun v4 s h hs => ?_)
  ·unfold FI at h
   refine Ab (Aa Ac rfl (AT rfl (Ae (Ab ?_))))
   refine Ap rfl (fun c5 => ?_) (fun c5 => ?_)
   ·have h := Ao c5 h
    refine Aq (Ab (AH (Ab (Aa Ac rfl ?_))))
    obtain ⟨v6, a6, b6, h⟩ := Ai h
    refine qI AZ Ay a6 (Ah b6) rfl (qJ A4 Ay (Ah b6) rfl (qz Dc rfl (qs Ay rfl (Ae (Ab (Aa Ac rfl (qL EH Ep rfl (qL A4 Ay rfl ?_))))))))
    obtain ⟨v7, a7, h⟩ := bind_some h
    refine AG [2003] (NY N p0 v6 v7 a7) X5 rfl (qa rfl (Ae (Ab (Aa Ac rfl (qm rfl (FL Bb rfl (Fv rfl (Ae ?_))))))))
    refine Ap rfl (fun c8 => ?_) (fun c8 => ?_)
    ·have h := Ao c8 h
     refine Ab (Aa Ac rfl (qL A4 Ay rfl (qm rfl ?_)))
     obtain ⟨v9, a9, b9, h⟩ := Ai h
     refine qI Bb AS a9 (Ah b9) rfl (qJ Dz AS (Ah b9) rfl (qs Ay rfl (qs AS rfl (qa rfl (AA (by kernel_rfl) ?_)))))
     obtain rfl := sj h
     refine Am (sm [] [(4, .e (.one (.ptr 4 0))), (5, .e (.one (.ptr 5 0))), (6, .e (.one (.pure (.val (.int .i64 0)))))] [(4, .box [.pure (.sl (v6.fBase.map Al)), .pure (.sl (v6.fNext.map Al)), .pure (.sl (v6.fHeld.map Bg))]), (5, .box [.pure (.val (.int .i64 v9.fTable)), .pure (.val (.int .i64 v9.fWriter)), .pure (.val (.int .i64 v9.fReader))])] rfl rfl) (Az ?_)
     exact ⟨⟨[_, _, _], ⟨.cellN _ _ _ _ _ _ _ rfl rfl A4 Ay rfl rfl (Jw rfl), ⟨.cellN _ _ _ _ _ _ _ rfl rfl Dz AS rfl rfl (Jw rfl), ⟨.tmp _ _ rfl, trivial⟩⟩⟩, rfl⟩, trivial⟩
    ·have h := An c8 h
     refine Aq (Aa Ac rfl (AN rfl (qm rfl (Ae ?_))))
     exact Au _ h (sm [] _ _ rfl rfl)
   ·have h := An c5 h
    refine AP ?_
    exact Au _ h (sm [] _ _ rfl rfl)
  ·refine Am hs (Ab (Aa Ac rfl (Bq Dc HS rfl (Bq IV Qj rfl (qs Ay rfl (qs AS rfl (qa rfl (Ae ?_))))))))
   obtain rfl := sj h
   refine Am ((LQ 4 _ rfl).trans (sm [] [(4, .e (.one (.ptr 4 0))), (5, .e (.one (.ptr 5 0))), (6, .e (.one (.pure (.val (.int .i64 15)))))] [(4, .box [.pure (.sl ((([] : List Int)).map Al)), .pure (.sl ((([] : List Int)).map Al)), .pure (.sl ((([] : List Int)).map Bg))]), (5, .box [.pure (.val (.int .i64 0)), .pure (.val (.int .i64 0)), .pure (.val (.int .i64 0))])] rfl rfl)) (Az ?_)
   exact ⟨⟨[_, _, _], ⟨.cellN _ _ _ _ _ _ _ rfl rfl A4 Ay rfl rfl (Jw rfl), ⟨.cellN _ _ _ _ _ _ _ rfl rfl Dz AS rfl rfl (Jw rfl), ⟨.tmp _ _ rfl, trivial⟩⟩⟩, rfl⟩, trivial⟩
set_option maxRecDepth 10000 in
theorem II (N : Nat) (p0 : Ak) (p1 : Ag) (r : Bool × Int) (h : Gp N p0 p1 = some r) : AB Tryz.prog 45 [.e (.agg [.pure (.sl (p0.fVersions.map Al)), .pure (.sl (p0.fNow.map Al)), .pure (.sl (p0.fTarget.map Al)), .pure (.sl (p0.fTables.map Ar))]), .e (.agg [.pure (.sl (p1.fBase.map Al)), .pure (.sl (p1.fNext.map Al)), .pure (.sl (p1.fHeld.map Bg))])] [] (.tup [.one (.pure (.val (.bool r.1))), .one (.pure (.val (.int .i64 r.2)))]) := by
 unfold Gp at h
 refine As (n := 22) (rs := [.tmp 4, .tmp 5]) Tryz.func45 rfl rfl rfl (A3 rfl) (A3 rfl) rfl fun w0 S0 => ?_
 refine Ab (Aa Ac rfl (qb rfl (qb rfl (qa rfl (qa rfl (Ae (Ab (Aa Ac rfl (qL EH Ep rfl (qL A4 Ay rfl ?_))))))))))
 obtain ⟨v1, a1, h⟩ := bind_some h
 refine AG [] (NO N p0 p1 v1 a1) X7 rfl (qm rfl (qx rfl (qx rfl (qx rfl (qz Dc rfl (qz IV rfl (qs Ay rfl (qs AS rfl (qa rfl (Ae (Ab (Aa Ac rfl (qm rfl (Ae (AH (Ab (Aa Ac rfl (BX rfl (qa rfl (Ae ?_))))))))))))))))))))
 refine Ap rfl (fun c2 => ?_) (fun c2 => ?_)
 ·have h := Ao c2 h
  refine Ab (Aa Ac rfl (qa rfl (qa rfl (Ae ?_))))
  obtain rfl := sj h
  refine Am (sm [] [(4, .e (.one (.pure (.val (.bool false))))), (5, .e (.one (.pure (.val (.int .i64 0)))))] [] rfl rfl) (Az ?_)
  exact ⟨⟨[_, _], ⟨.tmp _ _ rfl, ⟨.tmp _ _ rfl, trivial⟩⟩, rfl⟩, trivial⟩
 ·have h := An c2 h
  refine Ab (Aa Ac rfl (BX rfl (qa rfl (Ae ?_))))
  refine Ap rfl (fun c3 => ?_) (fun c3 => ?_)
  ·have h := Ao c3 h
   refine Ab (Aa Ac rfl (qa rfl (qa rfl (Ae ?_))))
   obtain rfl := sj h
   refine Am (sm [] [(4, .e (.one (.pure (.val (.bool true))))), (5, .e (.one (.pure (.val (.int .i64 0)))))] [] rfl rfl) (Az ?_)
   exact ⟨⟨[_, _], ⟨.tmp _ _ rfl, ⟨.tmp _ _ rfl, trivial⟩⟩, rfl⟩, trivial⟩
  ·have h := An c3 h
   refine Ab (Aa Ac rfl (qm rfl (qa rfl (qa rfl (Ae ?_)))))
   obtain rfl := sj h
   refine Am (sm [] [(4, .e (.one (.pure (.val (.bool false))))), (5, .e (.one (.pure (.val (.int .i64 v1.2.2)))))] [] rfl rfl) (Az ?_)
   exact ⟨⟨[_, _], ⟨.tmp _ _ rfl, ⟨.tmp _ _ rfl, trivial⟩⟩, rfl⟩, trivial⟩
set_option maxRecDepth 10000 in
theorem Pg (N : Nat) (p0 : Ak) (r : Ag × Bool × Int) (h : JW N p0 = some r) : AB Tryz.prog 83 [.e (.agg [.pure (.sl (p0.fVersions.map Al)), .pure (.sl (p0.fNow.map Al)), .pure (.sl (p0.fTarget.map Al)), .pure (.sl (p0.fTables.map Ar))])] [(1, r.1.fBase.map Al), (1, r.1.fNext.map Al), (1, r.1.fHeld.map Bg)] (.tup [.agg [.own 0, .own 1, .own 2], .one (.pure (.val (.bool r.2.1))), .one (.pure (.val (.int .i64 r.2.2)))]) := by
 unfold JW at h
 refine As (n := 26) (rs := [.cell 2 46, .tmp 3, .tmp 4]) Tryz.func83 rfl rfl rfl (A3 rfl) (A3 rfl) rfl fun w0 S0 => ?_
 refine Ab (Aa Ac rfl (qb rfl (qz Dc rfl (qa rfl (qa rfl (Ae (Ab (Aa Ac rfl (qL EH Ep rfl ?_)))))))))
 obtain ⟨v1, a1, h⟩ := bind_some h
 refine AG [2001, 2002, 2003] (NJ N p0 v1 a1) YF rfl (qm rfl (qx rfl (qx rfl (qz Dc rfl (qs Ay rfl (qa rfl (Ae (Ab (Ab (Aa Ac rfl (qm rfl (Ct rfl (Ae ?_)))))))))))))
 refine Ap rfl (fun c2 => ?_) (fun c2 => ?_)
 ·have h := Ao c2 h
  refine Ab (Aa Ac rfl (Bq Dc HS rfl (qm rfl (qs Ay rfl (qa rfl (qa rfl (Ae ?_)))))))
  obtain rfl := sj h
  refine Am ((AF 2 0 2004 1 _ rfl rfl rfl rfl).trans ((AF 2 1 2005 1 _ rfl rfl rfl rfl).trans ((AF 2 2 2006 1 _ rfl rfl rfl rfl).trans (sm [(1000, 2004), (1001, 2005), (1002, 2006)] [(2, .e (.one (.ptr 2 0))), (3, .e (.one (.pure (.val (.bool false))))), (4, .e (.one (.pure (.val (.int .i64 v1.2)))))] [(2, .box [.own 1000, .own 1001, .own 1002]), (1000, .vec 1 ((([] : List Int)).map Al)), (1001, .vec 1 ((([] : List Int)).map Al)), (1002, .vec 1 ((([] : List Int)).map Bg))] rfl rfl)))) (Az ?_)
  exact ⟨⟨[_, _, _], ⟨.cellN _ _ _ _ _ _ _ rfl rfl A4 Ay rfl rfl (Jw rfl), ⟨.tmp _ _ rfl, ⟨.tmp _ _ rfl, trivial⟩⟩⟩, rfl⟩, ⟨rfl, rfl, rfl, trivial⟩⟩
 ·have h := An c2 h
  refine Aq (Ab (Aa Ac rfl (qL EH Ep rfl (qL A4 Ay rfl ?_))))
  obtain ⟨v3, a3, h⟩ := bind_some h
  refine Et [] [2001, 2002, 2003] (II N p0 v1.1 v3 a3) T8 CQ rfl (qm rfl (qx rfl (qx rfl (qa rfl (qa rfl (Ae (Ab (Aa Ac rfl (qL A4 Ay rfl (qm rfl (qm rfl (qs Ay rfl (qa rfl (qa rfl (Ae ?_)))))))))))))))
  obtain rfl := sj h
  refine Am (sm [(1000, 2001), (1001, 2002), (1002, 2003)] [(2, .e (.one (.ptr 2 0))), (3, .e (.one (.pure (.val (.bool v3.1))))), (4, .e (.one (.pure (.val (.int .i64 v3.2)))))] [(2, .box [.own 1000, .own 1001, .own 1002]), (1000, .vec 1 (v1.1.fBase.map Al)), (1001, .vec 1 (v1.1.fNext.map Al)), (1002, .vec 1 (v1.1.fHeld.map Bg))] rfl rfl) (Az ?_)
  exact ⟨⟨[_, _, _], ⟨.cellN _ _ _ _ _ _ _ rfl rfl A4 Ay rfl rfl (Jw rfl), ⟨.tmp _ _ rfl, ⟨.tmp _ _ rfl, trivial⟩⟩⟩, rfl⟩, ⟨rfl, rfl, rfl, trivial⟩⟩
set_option maxRecDepth 10000 in
theorem Ll (N : Nat) (p0 : Ag) (r : ByteArray) (h : IC N p0 = some r) : AB Tryz.prog 84 [.e (.agg [.pure (.sl (p0.fBase.map Al)), .pure (.sl (p0.fNext.map Al)), .pure (.sl (p0.fHeld.map Bg))])] [] (.e (.one (.pure (.val (.string r))))) := by
 unfold IC at h
 refine As (n := 44) (rs := [.tmp 2]) Tryz.func84 rfl rfl rfl (A3 rfl) (A3 rfl) rfl fun w0 S0 => ?_
 refine Ab (Aa Ac rfl (qb rfl (qa rfl (Ae (Ab (Aa Ac rfl (qa rfl (Ae (Ab (Ab (Aa Ac rfl (qf Dx rfl (ql Bo rfl (AU AJ rfl (qm rfl (Ae ?_))))))))))))))))
 refine AC (L := H6 N p0) h (fun v1 => mk [(1, .e (.one (.ptr 1 0))), (3, .e (.one (.own 2001))), (9, .e (.one (.pure (.val (.int .i64 ((p0.fBase.length : Int))))))), (10, .e (.one (.pure (.val (.int .i64 v1.2)))))] [(1, .box [.pure (.sl (p0.fBase.map Al)), .pure (.sl (p0.fNext.map Al)), .pure (.sl (p0.fHeld.map Bg))]), (2001, .vec 1 (v1.1.map Bg))]) (fun v2 => mk [(1, .e (.one (.ptr 1 0))), (3, .e (.one (.own 2002)))] [(1, .box [.pure (.sl (p0.fBase.map Al)), .pure (.sl (p0.fNext.map Al)), .pure (.sl (p0.fHeld.map Bg))]), (2002, .vec 1 (v2.map Bg))]) (fun _ _ => rfl) ((Br 3 2003 1 rfl rfl rfl).trans (sm [(2001, 2003)] _ _ rfl rfl)) (fun j1 n1 v1 h => ?_) (fun v2 s h hs => ?_)
 ·unfold H6 at h
  refine Ab (Aa Ac rfl (AT rfl (Ae (Ab ?_))))
  refine Ap rfl (fun c3 => ?_) (fun c3 => ?_)
  ·have h := Ao c3 h
   refine Aq (Ab (AH (Ab (Aa Ac rfl (qm rfl (qa rfl (Ae (Aa Ac rfl (qm rfl (qf Dx rfl (ql Bo rfl (qm rfl ?_))))))))))))
   obtain ⟨v4, a4, b4, h⟩ := Ai h
   refine qi AJ Ec a4 (Ah b4) rfl (qk CN rfl (Hj TV YR rfl (qf BK rfl (ql Bo rfl (qm rfl ?_)))))
   obtain ⟨v5, a5, b5, h⟩ := Ai h
   refine qi AJ Ec a5 (Ah b5) rfl (qk CN rfl (AN rfl (Hj TV YR rfl (EU KK W1 YQ rfl ?_))))
   obtain ⟨c6, h⟩ := AQ h
   refine El (f := Bg) KK KK W1 X0 YQ c6 rfl (qa rfl (AA (by kernel_rfl) (Aa Ac rfl (AN rfl (qm rfl (Ae ?_))))))
   exact Au _ h (sm [(2001, 28)] _ _ rfl rfl)
  ·have h := An c3 h
   refine AP ?_
   exact Au _ h (sm [(2002, 2001)] _ _ rfl rfl)
 ·refine Am hs (Ab (Ab (Aa Ac rfl (qf Dm rfl (ql HV rfl (AU D0 rfl (qm rfl (Ae ?_))))))))
  refine AC (L := H8 N p0) h (fun v7 => mk [(3, .e (.one (.own 2004))), (31, .e (.one (.pure (.sl (p0.fHeld.map Bg))))), (32, .e (.one (.pure (.val (.int .i64 ((p0.fHeld.length : Int))))))), (33, .e (.one (.pure (.val (.int .i64 v7.2)))))] [(2004, .vec 1 (v7.1.map Bg))]) (fun v8 => mk [(3, .e (.one (.own 2005)))] [(2005, .vec 1 (v8.map Bg))]) (fun _ _ => rfl) (sm [(2004, 2002)] _ _ rfl rfl) (fun j7 n7 v7 h => ?_) (fun v8 s h hs => ?_)
  ·unfold H8 at h
   refine Ab (Aa Ac rfl (AT rfl (Ae (Ab ?_))))
   refine Ap rfl (fun c9 => ?_) (fun c9 => ?_)
   ·have h := Ao c9 h
    refine Aq (Ab (AH (Ab (Aa Ac rfl ?_))))
    obtain ⟨v10, a10, b10, h⟩ := Ai h
    refine qi D0 GJ a10 (Ah b10) rfl (qk KY rfl (qa rfl (Ae (Aa Ac rfl (qm rfl (qm rfl (EU KK W1 YQ rfl ?_)))))))
    obtain ⟨c11, h⟩ := AQ h
    refine El (f := Bg) KK KK W1 X0 YQ c11 rfl (qa rfl (Ae (Aa Ac rfl (AN rfl (qm rfl (Ae ?_))))))
    exact Au _ h (sm [(2004, 40)] _ _ rfl rfl)
   ·have h := An c9 h
    refine AP ?_
    exact Au _ h (sm [(2005, 2004)] _ _ rfl rfl)
  ·refine Am hs (Ab (Aa Ac rfl (qm rfl ?_)))
   refine Ul v8 (.p rfl) rfl (UA Bg _ _ _) ⟨rfl, trivial⟩ rfl YH Vh ?_
   refine qa rfl (Ae ?_)
   obtain rfl := sj h
   refine Am (sm [] [(2, .e (.one (.pure (.val (.string ((Kg v8)))))))] [] rfl rfl) (Az ?_)
   exact ⟨⟨[_], ⟨.tmp _ _ rfl, trivial⟩, rfl⟩, trivial⟩
end Go.Lift

