/- Lemmas for RefuseNearestSaid, which YtpaobkaighpaaaaGreatFinR6 proves. -/
import Derived.Test.YtpaobkaighpaaaaGreatTypes
import Derived.Test.YtpaobkaighpaaaaGreatProg
import Derived.KernelRfl
/- The shallow programs. Written by a program (gen.py) out of the code. -/
namespace Go.Lift
def Ej (_ : Nat) (p0 : List Int) (p1 : Int) : Option Int :=
 AO ((decide (p1 < (p0.length : Int))))
  ((A5 p0 p1).bind fun v2 =>
  some ((IntKind.wrap .i64 v2)))
  (some 0)
def BI (_ : Nat) (p0 : AQ) : Option Bool :=
 Bd (fun (v1 : Bool) =>
  some v1)
 fun j1 =>
 AO ((p0.fKind == 3))
  (j1 true)
  (j1 (p0.fKind == 4))
def CF (N : Nat) (p1 : Int) (p2 : Int) (p3 : Bool) (v1 : (List (List Bool)) × Int) (j4 : ((List Bool)) → Option ((List (List Bool)))) : Nat → ((List Bool) × Int) → Option ((List (List Bool)))
 | 0, _ => none
 | n4 + 1, v4 =>
  AO ((decide (v4.2 < p1)))
   (Bd (fun (v7 : (List Bool)) =>
    CF N p1 p2 p3 v1 j4 n4 (v7, (IntKind.wrap .i64 (v4.2 + 1))))
   fun j7 =>
   AO p3
    (AO ((v1.2 == v4.2))
     ((Fu (v4.1.length + (([true] : List Bool)).length ≤ Gf)).bind fun _ =>
     j7 (v4.1 ++ (([true] : List Bool))))
     ((Fu (0 ≤ (IntKind.wrap .i64 ((IntKind.wrap .i64 (3 * v1.2)) + v4.2)))).bind fun _ =>
     (Fu (v4.1.length + (([((Int.tmod ((E2 .u16 p2 ((IntKind.wrap .i64 ((IntKind.wrap .i64 (3 * v1.2)) + v4.2))))) 2) == 0)] : List Bool)).length ≤ Gf)).bind fun _ =>
     j7 (v4.1 ++ (([((Int.tmod ((E2 .u16 p2 ((IntKind.wrap .i64 ((IntKind.wrap .i64 (3 * v1.2)) + v4.2))))) 2) == 0)] : List Bool)))))
    ((Fu (0 ≤ (IntKind.wrap .i64 ((IntKind.wrap .i64 (3 * v1.2)) + v4.2)))).bind fun _ =>
    (Fu (v4.1.length + (([((Int.tmod ((E2 .u16 p2 ((IntKind.wrap .i64 ((IntKind.wrap .i64 (3 * v1.2)) + v4.2))))) 2) == 0)] : List Bool)).length ≤ Gf)).bind fun _ =>
    j7 (v4.1 ++ (([((Int.tmod ((E2 .u16 p2 ((IntKind.wrap .i64 ((IntKind.wrap .i64 (3 * v1.2)) + v4.2))))) 2) == 0)] : List Bool)))))
   (j4 v4.1)
def CJ (N : Nat) (p0 : Int) (p1 : Int) (p2 : Int) (p3 : Bool) (j1 : ((List (List Bool))) → Option ((List (List Bool)))) : Nat → ((List (List Bool)) × Int) → Option ((List (List Bool)))
 | 0, _ => none
 | n1 + 1, v1 =>
  AO ((decide (v1.2 < p0)))
   (CF N p1 p2 p3 v1 (fun (v5 : (List Bool)) =>
    (Fu (v1.1.length + (([v5] : List (List Bool))).length ≤ Gf)).bind fun _ =>
    CJ N p0 p1 p2 p3 j1 n1 (v1.1 ++ (([v5] : List (List Bool))), (IntKind.wrap .i64 (v1.2 + 1)))) N (([] : List Bool), 0))
   (j1 v1.1)
def Ei (N : Nat) (p0 : Int) (p1 : Int) (p2 : Int) (p3 : Bool) : Option ((List (List Bool))) :=
 CJ N p0 p1 p2 p3 (fun (v2 : (List (List Bool))) =>
  some v2) N (([] : List (List Bool)), 0)
def C7 (N : Nat) (p0 : C0) (j4 : ((List Int) × (List Int) × (List Int)) → Option (Al × Bool)) : Nat → ((List Int) × (List Int) × (List Int) × Int) → Option (Al × Bool)
 | 0, _ => none
 | n4 + 1, v4 =>
  AO ((decide (v4.2.2.2 < (p0.fVersions.length : Int))))
   ((A5 p0.fVersions v4.2.2.2).bind fun v7 =>
   (Fu (v4.1.length + (([(IntKind.wrap .i64 (1 + (IntKind.wrap .i64 ((Int.tmod v7 3)))))] : List Int)).length ≤ Gf)).bind fun _ =>
   (Ej N p0.fNow v4.2.2.2).bind fun v9 =>
   (Fu ((IntKind.wrap .i64 (1 + (IntKind.wrap .i64 ((Int.tmod v7 3))))) ≠ 0)).bind fun _ =>
   (Fu (v4.2.1.length + (([(Int.tmod v9 ((IntKind.wrap .i64 (1 + (IntKind.wrap .i64 ((Int.tmod v7 3)))))))] : List Int)).length ≤ Gf)).bind fun _ =>
   (Ej N p0.fTarget v4.2.2.2).bind fun v12 =>
   (Fu ((IntKind.wrap .i64 (1 + (IntKind.wrap .i64 ((Int.tmod v7 3))))) ≠ 0)).bind fun _ =>
   (Fu (v4.2.2.1.length + (([(Int.tmod v12 ((IntKind.wrap .i64 (1 + (IntKind.wrap .i64 ((Int.tmod v7 3)))))))] : List Int)).length ≤ Gf)).bind fun _ =>
   C7 N p0 j4 n4 (v4.1 ++ (([(IntKind.wrap .i64 (1 + (IntKind.wrap .i64 ((Int.tmod v7 3)))))] : List Int)), v4.2.1 ++ (([(Int.tmod v9 ((IntKind.wrap .i64 (1 + (IntKind.wrap .i64 ((Int.tmod v7 3)))))))] : List Int)), v4.2.2.1 ++ (([(Int.tmod v12 ((IntKind.wrap .i64 (1 + (IntKind.wrap .i64 ((Int.tmod v7 3)))))))] : List Int)), (IntKind.wrap .i64 (v4.2.2.2 + 1))))
   (j4 (v4.1, v4.2.1, v4.2.2.1))
def BH (N : Nat) (p0 : C0) (v5 : (List Int) × (List Int) × (List Int)) (j15 : ((List AQ)) → Option (Al × Bool)) : Nat → ((List AQ) × Int) → Option (Al × Bool)
 | 0, _ => none
 | n15 + 1, v15 =>
  Bd (fun (v17 : Bool) =>
   AO v17
    ((A5 p0.fLinks v15.2).bind fun v20 =>
    (Fu ((v5.1.length : Int) ≠ 0)).bind fun _ =>
    (Fu ((v5.1.length : Int) ≠ 0)).bind fun _ =>
    Bd (fun (v23 : Bool) =>
     (A5 v5.1 ((Int.tmod ((IntKind.wrap .i64 v20.fFrom)) ((v5.1.length : Int))))).bind fun v26 =>
     (A5 v5.1 ((Int.tmod ((IntKind.wrap .i64 v20.fTo)) ((v5.1.length : Int))))).bind fun v27 =>
     (Ei N v26 v27 v20.fBad false).bind fun v28 =>
     Bd (fun (v29 : (List (List Bool))) =>
      (Fu (v15.1.length + (([(AQ.mk ((IntKind.wrap .i64 (1 + (IntKind.wrap .i64 ((Int.tmod v20.fKind 4)))))) ((Int.tmod ((IntKind.wrap .i64 v20.fFrom)) ((v5.1.length : Int)))) ((Int.tmod ((IntKind.wrap .i64 v20.fTo)) ((v5.1.length : Int)))) v23 v28 v29)] : List AQ)).length ≤ Gf)).bind fun _ =>
      BH N p0 v5 j15 n15 (v15.1 ++ (([(AQ.mk ((IntKind.wrap .i64 (1 + (IntKind.wrap .i64 ((Int.tmod v20.fKind 4)))))) ((Int.tmod ((IntKind.wrap .i64 v20.fFrom)) ((v5.1.length : Int)))) ((Int.tmod ((IntKind.wrap .i64 v20.fTo)) ((v5.1.length : Int)))) v23 v28 v29)] : List AQ)), (IntKind.wrap .i64 (v15.2 + 1))))
     fun j29 =>
     AO (((IntKind.wrap .i64 (1 + (IntKind.wrap .i64 ((Int.tmod v20.fKind 4))))) == 4))
      ((A5 v5.1 ((Int.tmod ((IntKind.wrap .i64 v20.fFrom)) ((v5.1.length : Int))))).bind fun v31 =>
      (A5 v5.1 ((Int.tmod ((IntKind.wrap .i64 v20.fFrom)) ((v5.1.length : Int))))).bind fun v32 =>
      (Ei N v31 v32 v20.fLost true).bind fun v33 =>
      j29 v33)
      (j29 ([] : List (List Bool))))
    fun j23 =>
    AO v20.fAware
     ((BI N ((AQ.mk ((IntKind.wrap .i64 (1 + (IntKind.wrap .i64 ((Int.tmod v20.fKind 4)))))) ((Int.tmod ((IntKind.wrap .i64 v20.fFrom)) ((v5.1.length : Int)))) ((Int.tmod ((IntKind.wrap .i64 v20.fTo)) ((v5.1.length : Int)))) false (([] : List (List Bool))) (([] : List (List Bool)))))).bind fun v25 =>
     j23 (!v25))
     (j23 false))
    (j15 v15.1))
  fun j17 =>
  AO ((decide (v15.2 < (p0.fLinks.length : Int))))
   (j17 (decide (0 < (v5.1.length : Int))))
   (j17 false)
def Fm (N : Nat) (p0 : C0) : Option (Al × Bool) :=
 Bd (fun (v1 : Bool) =>
  AO v1
   (some ((Al.mk (([] : List Int)) (([] : List Int)) (([] : List Int)) (([] : List AQ))), false))
   (C7 N p0 (fun (v5 : (List Int) × (List Int) × (List Int)) =>
    BH N p0 v5 (fun (v16 : (List AQ)) =>
     some ((Al.mk v5.1 v5.2.1 v5.2.2 v16), true)) N (([] : List AQ), 0)) N (([] : List Int), ([] : List Int), ([] : List Int), 0)))
 fun j1 =>
 AO ((decide (3 < (p0.fVersions.length : Int))))
  (j1 true)
  (j1 (decide (4 < (p0.fLinks.length : Int))))
def B6 (_ : Nat) : Option Al :=
 some ((Al.mk (([2] : List Int)) (([0] : List Int)) (([1] : List Int)) (([(AQ.mk 1 0 0 false (([([true, true] : List Bool), ([false, true] : List Bool)] : List (List Bool))) (([] : List (List Bool))))] : List AQ))))
def El (_ : Nat) (p0 : Int) (p1 : Int) : Option Bool :=
 Bd (fun (v1 : Bool) =>
  some v1)
 fun j1 =>
 AO ((decide (0 ≤ p0)))
  (j1 (decide (p0 < p1)))
  (j1 false)
def GP (_ : Nat) (p0 : Int) (p1 : Bool) : Option Bool :=
 Bd (fun (v1 : Bool) =>
  some v1)
 fun j1 =>
 AO ((p0 == 1))
  (j1 true)
  (AO ((p0 == 2))
   (j1 true)
   (AO ((p0 == 3))
    (j1 (!p1))
    (AO ((p0 == 4))
     (j1 (!p1))
     (j1 false))))
def Ef (_ : Nat) (p0 : List Bool) (p1 : Int) : Option Bool :=
 some (((p0.length : Int) != p1))
def Bs (N : Nat) (p0 : List (List Bool)) (p1 : (List Bool) → Option Bool) (j1 : Unit → Option Int) : Nat → Int → Option Int
 | 0, _ => none
 | n1 + 1, v1 =>
  AO ((decide (v1 < (p0.length : Int))))
   ((A5 p0 v1).bind fun v4 =>
   (p1 v4).bind fun v5 =>
   AO v5
    (some v1)
    (Bs N p0 p1 j1 n1 (IntKind.wrap .i64 (v1 + 1))))
   (j1 ())
def DQ (N : Nat) (p0 : List (List Bool)) (p1 : (List Bool) → Option Bool) : Option Int :=
 Bs N p0 p1 (fun (_ : Unit) =>
  some ((-1))) N 0
def Do (N : Nat) (p0 : List (List Bool)) (p1 : (List Bool) → Option Bool) : Option Bool :=
 (DQ N p0 p1).bind fun v1 =>
 some ((decide (0 ≤ v1)))
def Fe (N : Nat) (p0 : List (List Bool)) (p1 : Int) (p2 : Int) : Option Bool :=
 Bd (fun (v1 : Bool) =>
  some v1)
 fun j1 =>
 AO (((p0.length : Int) == p1))
  ((Do N p0 ((fun (x : List Bool) => Ef N x p2))).bind fun v3 =>
  j1 (!v3))
  (j1 false)
def Dw (N : Nat) (p1 : AQ) (j19 : Unit → Option Int) : Nat → Int → Option Int
 | 0, _ => none
 | n19 + 1, v19 =>
  AO ((decide (v19 < (p1.fRewrite.length : Int))))
   ((A5 p1.fRewrite v19).bind fun v22 =>
   (A5 v22 v19).bind fun v23 =>
   AO ((!v23))
    (some 1)
    (Dw N p1 j19 n19 (IntKind.wrap .i64 (v19 + 1))))
   (j19 ())
def Gp (N : Nat) (p0 : Al) (p1 : AQ) : Option Int :=
 (GP N p1.fKind p1.fAware).bind fun v1 =>
 AO ((!v1))
  (some 1)
  (Bd (fun (v3 : Bool) =>
   AO v3
    (some 4)
    ((A5 p0.fVersions p1.fFrom).bind fun v8 =>
    Bd (fun (v9 : Bool) =>
     AO v9
      (some 6)
      (Dw N p1 (fun (_ : Unit) =>
       some 0) N 0))
    fun j9 =>
    (A5 p0.fVersions p1.fTo).bind fun v10 =>
    (Fe N p1.fOK v8 v10).bind fun v11 =>
    AO ((!v11))
     (j9 true)
     (AO ((p1.fKind == 4))
      ((Fe N p1.fRewrite v8 v8).bind fun v14 =>
      AO ((!v14))
       (j9 true)
       (AO ((!((p1.fKind == 4))))
        (j9 (decide (0 < (p1.fRewrite.length : Int))))
        (j9 false)))
      (AO ((!((p1.fKind == 4))))
       (j9 (decide (0 < (p1.fRewrite.length : Int))))
       (j9 false)))))
  fun j3 =>
  (El N p1.fFrom ((p0.fVersions.length : Int))).bind fun v4 =>
  AO ((!v4))
   (j3 true)
   ((El N p1.fTo ((p0.fVersions.length : Int))).bind fun v6 =>
   j3 (!v6)))
def Cc (N : Nat) (p0 : Al) (j7 : Unit → Option Int) : Nat → Int → Option Int
 | 0, _ => none
 | n7 + 1, v7 =>
  AO ((decide (v7 < (p0.fVersions.length : Int))))
   ((A5 p0.fVersions v7).bind fun v10 =>
   Bd (fun (v11 : Bool) =>
    AO v11
     (some 7)
     (Cc N p0 j7 n7 (IntKind.wrap .i64 (v7 + 1))))
   fun j11 =>
   AO ((decide (v10 < 1)))
    (j11 true)
    (AO ((decide (6 < v10)))
     (j11 true)
     ((A5 p0.fNow v7).bind fun v14 =>
     (El N v14 v10).bind fun v15 =>
     AO ((!v15))
      (j11 true)
      ((A5 p0.fTarget v7).bind fun v17 =>
      (El N v17 v10).bind fun v18 =>
      j11 (!v18)))))
   (j7 ())
def BX (N : Nat) (p0 : Al) (j20 : Unit → Option Int) : Nat → Int → Option Int
 | 0, _ => none
 | n20 + 1, v20 =>
  AO ((decide (v20 < (p0.fTables.length : Int))))
   ((A5 p0.fTables v20).bind fun v23 =>
   (Gp N p0 v23).bind fun v24 =>
   AO ((v24 != 0))
    (some v24)
    (BX N p0 j20 n20 (IntKind.wrap .i64 (v20 + 1))))
   (j20 ())
def CS (N : Nat) (p0 : Al) : Option Int :=
 Bd (fun (v1 : Bool) =>
  AO v1
   (some 3)
   (Bd (fun (v4 : Bool) =>
    AO v4
     (some 6)
     (Cc N p0 (fun (_ : Unit) =>
      BX N p0 (fun (_ : Unit) =>
       some 0) N 0) N 0))
   fun j4 =>
   AO (((p0.fNow.length : Int) != (p0.fVersions.length : Int)))
    (j4 true)
    (j4 ((p0.fTarget.length : Int) != (p0.fVersions.length : Int)))))
 fun j1 =>
 AO ((decide (6 < (p0.fVersions.length : Int))))
  (j1 true)
  (j1 (decide (12 < (p0.fTables.length : Int))))
def Bc (_ : Nat) (p0 : List Int) : Option ((List Int)) :=
 (Fu ((([] : List Int)).length + p0.length ≤ Gf)).bind fun _ =>
 some ((([] : List Int)) ++ p0)
def G9 (_ : Nat) (p0 : Int) (p1 : Int) : Option (Int × Int) :=
 some ((IntKind.wrap .u32 ((E2 .u64 ((IntKind.wrap .u64 ((IntKind.wrap .u64 p0) * (IntKind.wrap .u64 p1)))) 32))), (IntKind.wrap .u32 ((IntKind.wrap .u64 ((IntKind.wrap .u64 p0) * (IntKind.wrap .u64 p1))))))
def G5 (_ : Nat) (p0 : Int) (p1 : Int) : Option (Int × Int) :=
 some ((IntKind.wrap .u64 ((IntKind.wrap .u64 ((IntKind.wrap .u64 ((E2 .u64 p0 32) * (E2 .u64 p1 32))) + (E2 .u64 ((IntKind.wrap .u64 ((IntKind.wrap .u64 ((E2 .u64 p0 32) * (Gn .u64 p1 4294967295))) + (E2 .u64 ((IntKind.wrap .u64 ((Gn .u64 p0 4294967295) * (Gn .u64 p1 4294967295)))) 32)))) 32))) + (E2 .u64 ((IntKind.wrap .u64 ((Gn .u64 ((IntKind.wrap .u64 ((IntKind.wrap .u64 ((E2 .u64 p0 32) * (Gn .u64 p1 4294967295))) + (E2 .u64 ((IntKind.wrap .u64 ((Gn .u64 p0 4294967295) * (Gn .u64 p1 4294967295)))) 32)))) 4294967295) + (IntKind.wrap .u64 ((Gn .u64 p0 4294967295) * (E2 .u64 p1 32)))))) 32))), (IntKind.wrap .u64 (p0 * p1)))
def HX (N : Nat) (p0 : Int) (p1 : Int) : Option (Int × Int) :=
 AO false
  ((G9 N ((IntKind.wrap .u32 p0)) ((IntKind.wrap .u32 p1))).bind fun v2 =>
  some ((IntKind.wrap .u64 v2.1), (IntKind.wrap .u64 v2.2)))
  ((G5 N p0 p1).bind fun v3 =>
  some (v3.1, v3.2))
def D7 (N : Nat) (j9 : ((List Int)) → Option ((List Int))) : Nat → ((List Int) × Int) → Option ((List Int))
 | 0, _ => none
 | n9 + 1, v9 =>
  AO ((decide (v9.2 < (v9.1.length : Int))))
   ((Fu ((0 : Int) ≤ v9.2 ∧ (v9.2).toNat ≤ v9.1.length ∧ v9.1.length ≤ v9.1.length)).bind fun _ =>
   (Fu ((0 : Int) ≤ v9.2 ∧ 0 ≤ (v9.2).toNat ∧ (v9.2).toNat ≤ v9.1.length)).bind fun _ =>
   D7 N j9 n9 (Jw v9.1 ((v9.2).toNat) ((((v9.1.drop 0).take ((v9.2).toNat))).take (Nat.min (((v9.1.drop 0).take ((v9.2).toNat))).length ((v9.1.length - (v9.2).toNat)))), (IntKind.wrap .i64 (v9.2 + (((Nat.min (((v9.1.drop 0).take ((v9.2).toNat))).length ((v9.1.length - (v9.2).toNat))) : Nat) : Int)))))
   (j9 v9.1)
def Fx (N : Nat) (p0 : List Int) (p1 : Int) : Option ((List Int)) :=
 Bd (fun (_ : Unit) =>
  (HX N ((IntKind.wrap .u64 ((p0.length : Int)))) ((IntKind.wrap .u64 p1))).bind fun v3 =>
  Bd (fun (_ : Unit) =>
   (Fu ((0 : Int) ≤ (IntKind.wrap .i64 v3.2) ∧ (IntKind.wrap .i64 v3.2) ≤ (IntKind.wrap .i64 v3.2) ∧ (IntKind.wrap .i64 v3.2) ≤ (Gf : Int))).bind fun _ =>
   D7 N (fun (v10 : (List Int)) =>
    some v10) N (Jw (List.replicate ((IntKind.wrap .i64 v3.2)).toNat ((0 : Int))) 0 (p0.take (Nat.min p0.length ((List.replicate ((IntKind.wrap .i64 v3.2)).toNat ((0 : Int))).length))), (((Nat.min p0.length ((List.replicate ((IntKind.wrap .i64 v3.2)).toNat ((0 : Int))).length)) : Nat) : Int)))
  fun j4 =>
  Bd (fun (v5 : Bool) =>
   AO v5
    (none)
    (j4 ()))
  fun j5 =>
  AO ((decide (0 < v3.1)))
   (j5 true)
   (j5 (decide (9223372036854775807 < v3.2))))
 fun j1 =>
 AO ((decide (p1 < 0)))
  (none)
  (j1 ())
def Fy (_ : Nat) (p0 : AQ) : Option Bool :=
 Bd (fun (v1 : Bool) =>
  some v1)
 fun j1 =>
 AO ((p0.fKind == 3))
  (j1 true)
  (j1 (p0.fKind == 4))
def GY (N : Nat) (p0 : Al) (j6 : ((List Int)) → Option (Ah × Int)) : Nat → ((List Int) × Int) → Option (Ah × Int)
 | 0, _ => none
 | n6 + 1, v6 =>
  AO ((decide (v6.2 < (p0.fTables.length : Int))))
   (Bd (fun (v9 : (List Int)) =>
    GY N p0 j6 n6 (v9, (IntKind.wrap .i64 (v6.2 + 1))))
   fun j9 =>
   (A5 p0.fTables v6.2).bind fun v10 =>
   (Fy N v10).bind fun v11 =>
   AO v11
    ((A5 p0.fNow v10.fFrom).bind fun v13 =>
    (Fu (0 ≤ v13)).bind fun _ =>
    (A5 v6.1 v6.2).bind fun _ =>
    j9 (v6.1.set ((v6.2).toNat) ((DD .u8 1 v13))))
    (j9 v6.1))
   (j6 v6.1)
def Iu (N : Nat) (p0 : Al) : Option (Ah × Int) :=
 (CS N p0).bind fun v1 =>
 AO ((v1 != 0))
  (some ((Ah.mk (([] : List Int)) (([] : List Int)) (([] : List Int))), v1))
  ((Bc N p0.fNow).bind fun v3 =>
  (Fx N (([(-1)] : List Int)) ((p0.fNow.length : Int))).bind fun v4 =>
  (Fu ((0 : Int) ≤ (p0.fTables.length : Int) ∧ (p0.fTables.length : Int) ≤ (p0.fTables.length : Int) ∧ (p0.fTables.length : Int) ≤ (Gf : Int))).bind fun _ =>
  GY N p0 (fun (v7 : (List Int)) =>
   some ((Ah.mk v3 v4 v7), 0)) N (List.replicate ((p0.fTables.length : Int)).toNat ((0 : Int)), 0))
def E5 (_ : Nat) (p0 : Ah) (p1 : Int) : Option Int :=
 (A5 p0.fBase p1).bind fun v1 =>
 (Fu (0 ≤ v1)).bind fun _ =>
 Bd (fun (v3 : Int) =>
  some v3)
 fun j3 =>
 (A5 p0.fNext p1).bind fun v4 =>
 AO ((decide (0 ≤ v4)))
  ((A5 p0.fNext p1).bind fun v6 =>
  (Fu (0 ≤ v6)).bind fun _ =>
  j3 (Oy .u8 ((DD .u8 1 v1)) ((DD .u8 1 v6))))
  (j3 (DD .u8 1 v1))
def Em (N : Nat) (p0 : Al) (p1 : Ah) (j7 : Unit → Option Int) : Nat → Int → Option Int
 | 0, _ => none
 | n7 + 1, v7 =>
  AO ((decide (v7 < (p0.fVersions.length : Int))))
   ((A5 p0.fVersions v7).bind fun v10 =>
   Bd (fun (v11 : Bool) =>
    AO v11
     (some 7)
     ((A5 p1.fBase v7).bind fun v20 =>
     (A5 p1.fNext v7).bind fun v21 =>
     AO ((v20 == v21))
      (some 1)
      (Em N p0 p1 j7 n7 (IntKind.wrap .i64 (v7 + 1)))))
   fun j11 =>
   (A5 p1.fBase v7).bind fun v12 =>
   AO ((decide (v12 < 0)))
    (j11 true)
    ((A5 p1.fBase v7).bind fun v14 =>
    AO ((decide (v10 ≤ v14)))
     (j11 true)
     ((A5 p1.fNext v7).bind fun v16 =>
     AO ((decide (v16 < (-1))))
      (j11 true)
      ((A5 p1.fNext v7).bind fun v18 =>
      j11 (decide (v10 ≤ v18))))))
   (j7 ())
def D5 (N : Nat) (p0 : Al) (p1 : Ah) (j23 : Unit → Option Int) : Nat → Int → Option Int
 | 0, _ => none
 | n23 + 1, v23 =>
  AO ((decide (v23 < (p0.fTables.length : Int))))
   ((A5 p0.fTables v23).bind fun v26 =>
   Bd (fun (v27 : Int × Int) =>
    Bd (fun (v33 : Bool) =>
     AO v33
      (some 1)
      (D5 N p0 p1 j23 n23 (IntKind.wrap .i64 (v23 + 1))))
    fun j33 =>
    (A5 p1.fHeld v23).bind fun v34 =>
    AO (((Ed .u8 v27.1 v34) != 0))
     (j33 true)
     ((A5 p1.fHeld v23).bind fun v36 =>
     j33 ((Ed .u8 v36 v27.2) != 0)))
   fun j27 =>
   (Fy N v26).bind fun v28 =>
   AO v28
    ((E5 N p1 v26.fFrom).bind fun v30 =>
    (A5 p0.fVersions v26.fFrom).bind fun v31 =>
    (Fu (0 ≤ v31)).bind fun _ =>
    j27 (v30, (IntKind.wrap .u8 ((DD .u8 1 v31) - 1))))
    (j27 (0, 0)))
   (j23 ())
def EW (N : Nat) (p0 : Al) (p1 : Ah) : Option Int :=
 (CS N p0).bind fun v1 =>
 AO ((v1 != 0))
  (some v1)
  (Bd (fun (v3 : Bool) =>
   AO v3
    (some 6)
    (Em N p0 p1 (fun (_ : Unit) =>
     D5 N p0 p1 (fun (_ : Unit) =>
      some 0) N 0) N 0))
  fun j3 =>
  AO (((p1.fBase.length : Int) != (p0.fVersions.length : Int)))
   (j3 true)
   (AO (((p1.fNext.length : Int) != (p0.fVersions.length : Int)))
    (j3 true)
    (j3 ((p1.fHeld.length : Int) != (p0.fTables.length : Int)))))
def Bg (_ : Nat) (p0 : List Int) : Option ((List Int)) :=
 (Fu ((([] : List Int)).length + p0.length ≤ Gf)).bind fun _ =>
 some ((([] : List Int)) ++ p0)
def GB (N : Nat) (p1 : Ah) (j3 : ((List Int)) → Option ((List Ah) × Int)) : Nat → ((List Int) × Int) → Option ((List Ah) × Int)
 | 0, _ => none
 | n3 + 1, v3 =>
  AO ((decide (v3.2 < (p1.fNext.length : Int))))
   (Bd (fun (v6 : (List Int)) =>
    GB N p1 j3 n3 (v6, (IntKind.wrap .i64 (v3.2 + 1))))
   fun j6 =>
   (A5 p1.fNext v3.2).bind fun v7 =>
   AO ((decide (0 ≤ v7)))
    ((Fu (v3.1.length + (([v3.2] : List Int)).length ≤ Gf)).bind fun _ =>
    j6 (v3.1 ++ (([v3.2] : List Int))))
    (j6 v3.1))
   (j3 v3.1)
def Gd (N : Nat) (v4 : (List Int)) (v11 : (List Ah) × Int) (j17 : ((List Int)) → Option ((List Ah) × Int)) : Nat → ((List Int) × Int) → Option ((List Ah) × Int)
 | 0, _ => none
 | n17 + 1, v17 =>
  AO ((decide (v17.2 < (v4.length : Int))))
   (Bd (fun (v20 : (List Int)) =>
    Gd N v4 v11 j17 n17 (v20, (IntKind.wrap .i64 (v17.2 + 1))))
   fun j20 =>
   (A5 v4 v17.2).bind fun v21 =>
   (Fu (0 ≤ v17.2)).bind fun _ =>
   AO (((Gn .i64 ((E2 .i64 v11.2 v17.2)) 1) == 1))
    ((A5 v17.1 v21).bind fun _ =>
    j20 (v17.1.set ((v21).toNat) ((-1))))
    (j20 v17.1))
   (j17 v17.1)
def Gg (N : Nat) (p1 : Ah) (v4 : (List Int)) (j11 : ((List Ah)) → Option ((List Ah) × Int)) : Nat → ((List Ah) × Int) → Option ((List Ah) × Int)
 | 0, _ => none
 | n11 + 1, v11 =>
  AO ((decide (v11.2 < (DD .i64 1 ((v4.length : Int))))))
   ((Bc N p1.fBase).bind fun v14 =>
   (Bc N p1.fNext).bind fun v15 =>
   (Bg N p1.fHeld).bind fun v16 =>
   Gd N v4 v11 (fun (v18 : (List Int)) =>
    (Fu (v11.1.length + (([(Ah.mk v14 v18 v16)] : List Ah)).length ≤ Gf)).bind fun _ =>
    Gg N p1 v4 j11 n11 (v11.1 ++ (([(Ah.mk v14 v18 v16)] : List Ah)), (IntKind.wrap .i64 (v11.2 + 1)))) N (v15, 0))
   (j11 v11.1)
def Jl (N : Nat) (p0 : Al) (p1 : Ah) : Option ((List Ah) × Int) :=
 (EW N p0 p1).bind fun v1 =>
 AO ((v1 != 0))
  (some (([] : List Ah), v1))
  (GB N p1 (fun (v4 : (List Int)) =>
   (Fu (0 ≤ (v4.length : Int))).bind fun _ =>
   Gg N p1 v4 (fun (v12 : (List Ah)) =>
    some (v12, 0)) N (([] : List Ah), 0)) N (([] : List Int), 0))
def Ff (N : Nat) (v1 : (List Af) × Int) (v4 : AQ) (v6 : Int) (v11 : (List Af) × Int) (v17 : List Bool) (j18 : ((List Af) × Bool) → Option ((List Af))) : Nat → ((List Af) × Bool × Int) → Option ((List Af))
 | 0, _ => none
 | n18 + 1, v18 =>
  AO ((decide (v18.2.2 < (v17.length : Int))))
   (Bd (fun (v21 : (List Af) × Bool) =>
    Ff N v1 v4 v6 v11 v17 j18 n18 (v21.1, v21.2, (IntKind.wrap .i64 (v18.2.2 + 1))))
   fun j21 =>
   (A5 v17 v18.2.2).bind fun v22 =>
   (Fu (0 ≤ v18.2.2)).bind fun _ =>
   AO (((Gn .u8 ((E2 .u8 v6 v18.2.2)) 1) == 0))
    (j21 (v18.1, v18.2.1))
    (Bd (fun (v25 : Bool) =>
     Bd (fun (v27 : Bool) =>
      AO v27
       ((Fu (v18.1.length + (([(Af.mk v1.2 v11.2 v18.2.2)] : List Af)).length ≤ Gf)).bind fun _ =>
       j21 (v18.1 ++ (([(Af.mk v1.2 v11.2 v18.2.2)] : List Af)), v25))
       (j21 (v18.1, v25)))
     fun j27 =>
     AO ((!v22))
      (j27 (!v4.fAware))
      (j27 false))
    fun j25 =>
    AO v18.2.1
     (j25 true)
     (j25 v22)))
   (j18 (v18.1, v18.2.1))
def Fs (N : Nat) (v1 : (List Af) × Int) (v4 : AQ) (v6 : Int) (v7 : Int) (j11 : ((List Af)) → Option ((List Af))) : Nat → ((List Af) × Int) → Option ((List Af))
 | 0, _ => none
 | n11 + 1, v11 =>
  AO ((decide (v11.2 < (v4.fOK.length : Int))))
   (Bd (fun (v14 : (List Af)) =>
    Fs N v1 v4 v6 v7 j11 n11 (v14, (IntKind.wrap .i64 (v11.2 + 1))))
   fun j14 =>
   (Fu (0 ≤ v11.2)).bind fun _ =>
   AO (((Gn .u8 ((E2 .u8 v7 v11.2)) 1) == 0))
    (j14 v11.1)
    ((A5 v4.fOK v11.2).bind fun v17 =>
    Ff N v1 v4 v6 v11 v17 (fun (v19 : (List Af) × Bool) =>
     Bd (fun (v31 : Bool) =>
      AO v31
       ((Fu (v19.1.length + (([(Af.mk v1.2 v11.2 ((-1)))] : List Af)).length ≤ Gf)).bind fun _ =>
       j14 (v19.1 ++ (([(Af.mk v1.2 v11.2 ((-1)))] : List Af))))
       (j14 v19.1))
     fun j31 =>
     AO v4.fAware
      (j31 (!v19.2))
      (j31 false)) N (v11.1, false, 0)))
   (j11 v11.1)
def FF (N : Nat) (p0 : Al) (p1 : Ah) (j1 : ((List Af)) → Option ((List Af))) : Nat → ((List Af) × Int) → Option ((List Af))
 | 0, _ => none
 | n1 + 1, v1 =>
  AO ((decide (v1.2 < (p0.fTables.length : Int))))
   ((A5 p0.fTables v1.2).bind fun v4 =>
   (E5 N p1 v4.fFrom).bind fun v5 =>
   (E5 N p1 v4.fTo).bind fun v6 =>
   Bd (fun (v7 : Int) =>
    Fs N v1 v4 v6 v7 (fun (v12 : (List Af)) =>
     FF N p0 p1 j1 n1 (v12, (IntKind.wrap .i64 (v1.2 + 1)))) N (v1.1, 0))
   fun j7 =>
   (Fy N v4).bind fun v8 =>
   AO v8
    ((A5 p1.fHeld v1.2).bind fun v10 =>
    j7 v10)
    (j7 v5))
   (j1 v1.1)
def HY (N : Nat) (p0 : Al) (p1 : Ah) : Option ((List Af)) :=
 FF N p0 p1 (fun (v2 : (List Af)) =>
  some v2) N (([] : List Af), 0)
def GW (N : Nat) (p0 : Al) (v1 : (List Ah) × Int) (j3 : Unit → Option (Ah × Af × Int)) : Nat → Int → Option (Ah × Af × Int)
 | 0, _ => none
 | n3 + 1, v3 =>
  AO ((decide (v3 < (v1.1.length : Int))))
   ((A5 v1.1 v3).bind fun v6 =>
   (HY N p0 v6).bind fun v7 =>
   AO ((decide (0 < (v7.length : Int))))
    ((A5 v7 0).bind fun v9 =>
    some (v6, v9, 0))
    (GW N p0 v1 j3 n3 (IntKind.wrap .i64 (v3 + 1))))
   (j3 ())
def Iw (N : Nat) (p0 : Al) (p1 : Ah) : Option (Ah × Af × Int) :=
 (Jl N p0 p1).bind fun v1 =>
 AO ((v1.2 != 0))
  (some ((Ah.mk (([] : List Int)) (([] : List Int)) (([] : List Int))), (Af.mk 0 0 0), v1.2))
  (GW N p0 v1 (fun (_ : Unit) =>
   some ((Ah.mk (([] : List Int)) (([] : List Int)) (([] : List Int))), (Af.mk 0 0 0), 15)) N 0)
def FB (N : Nat) (p0 : Al) (p1 : Ah) : Option (Bool × Int) :=
 (Iw N p0 p1).bind fun v1 =>
 AO ((v1.2.2 == 0))
  (some (false, 0))
  (AO ((v1.2.2 == 15))
   (some (true, 0))
   (some (false, v1.2.2)))
def IN (N : Nat) (p0 : Al) : Option (Ah × Bool × Int) :=
 (Iu N p0).bind fun v1 =>
 AO ((v1.2 != 0))
  (some ((Ah.mk (([] : List Int)) (([] : List Int)) (([] : List Int))), false, v1.2))
  ((FB N p0 v1.1).bind fun v3 =>
  some (v1.1, v3.1, v3.2))
def GZ (N : Nat) (p0 : Ah) (j1 : ((List Int)) → Option ByteArray) : Nat → ((List Int) × Int) → Option ByteArray
 | 0, _ => none
 | n1 + 1, v1 =>
  AO ((decide (v1.2 < (p0.fBase.length : Int))))
   ((A5 p0.fBase v1.2).bind fun v4 =>
   (A5 p0.fNext v1.2).bind fun v5 =>
   (Fu (v1.1.length + (([(IntKind.wrap .u8 v4), (IntKind.wrap .u8 ((IntKind.wrap .i64 (v5 + 1))))] : List Int)).length ≤ Gf)).bind fun _ =>
   GZ N p0 j1 n1 (v1.1 ++ (([(IntKind.wrap .u8 v4), (IntKind.wrap .u8 ((IntKind.wrap .i64 (v5 + 1))))] : List Int)), (IntKind.wrap .i64 (v1.2 + 1))))
   (j1 v1.1)
def G1 (N : Nat) (p0 : Ah) (j7 : ((List Int)) → Option ByteArray) : Nat → ((List Int) × Int) → Option ByteArray
 | 0, _ => none
 | n7 + 1, v7 =>
  AO ((decide (v7.2 < (p0.fHeld.length : Int))))
   ((A5 p0.fHeld v7.2).bind fun v10 =>
   (Fu (v7.1.length + (([v10] : List Int)).length ≤ Gf)).bind fun _ =>
   G1 N p0 j7 n7 (v7.1 ++ (([v10] : List Int)), (IntKind.wrap .i64 (v7.2 + 1))))
   (j7 v7.1)
def Hz (N : Nat) (p0 : Ah) : Option ByteArray :=
 GZ N p0 (fun (v2 : (List Int)) =>
  G1 N p0 (fun (v8 : (List Int)) =>
   some ((I3 v8))) N (v2, 0)) N (([] : List Int), 0)
def HK (N : Nat) (v1 : (List AH) × Int) (v4 : Int) (j5 : ((List AH)) → Option ((List AH))) : Nat → ((List AH) × Int) → Option ((List AH))
 | 0, _ => none
 | n5 + 1, v5 =>
  AO ((decide (v5.2 < v4)))
   ((Fu (v5.1.length + (([(AH.mk 1 v1.2 v5.2)] : List AH)).length ≤ Gf)).bind fun _ =>
   HK N v1 v4 j5 n5 (v5.1 ++ (([(AH.mk 1 v1.2 v5.2)] : List AH)), (IntKind.wrap .i64 (v5.2 + 1))))
   (j5 v5.1)
def Hs (N : Nat) (p0 : Al) (j1 : ((List AH)) → Option ((List AH))) : Nat → ((List AH) × Int) → Option ((List AH))
 | 0, _ => none
 | n1 + 1, v1 =>
  AO ((decide (v1.2 < (p0.fVersions.length : Int))))
   ((A5 p0.fVersions v1.2).bind fun v4 =>
   HK N v1 v4 (fun (v6 : (List AH)) =>
    Hs N p0 j1 n1 (v6, (IntKind.wrap .i64 (v1.2 + 1)))) N (v1.1, 0))
   (j1 v1.1)
def HE (N : Nat) (p0 : Al) (j9 : ((List AH)) → Option ((List AH))) : Nat → ((List AH) × Int) → Option ((List AH))
 | 0, _ => none
 | n9 + 1, v9 =>
  AO ((decide (v9.2 < (p0.fVersions.length : Int))))
   ((Fu (v9.1.length + (([(AH.mk 2 v9.2 0)] : List AH)).length ≤ Gf)).bind fun _ =>
   HE N p0 j9 n9 (v9.1 ++ (([(AH.mk 2 v9.2 0)] : List AH)), (IntKind.wrap .i64 (v9.2 + 1))))
   (j9 v9.1)
def GX (N : Nat) (p0 : Al) (j13 : ((List AH)) → Option ((List AH))) : Nat → ((List AH) × Int) → Option ((List AH))
 | 0, _ => none
 | n13 + 1, v13 =>
  AO ((decide (v13.2 < (p0.fTables.length : Int))))
   ((Fu (v13.1.length + (([(AH.mk 3 v13.2 0)] : List AH)).length ≤ Gf)).bind fun _ =>
   GX N p0 j13 n13 (v13.1 ++ (([(AH.mk 3 v13.2 0)] : List AH)), (IntKind.wrap .i64 (v13.2 + 1))))
   (j13 v13.1)
def Kq (N : Nat) (p0 : Al) : Option ((List AH)) :=
 Hs N p0 (fun (v2 : (List AH)) =>
  HE N p0 (fun (v10 : (List AH)) =>
   GX N p0 (fun (v14 : (List AH)) =>
    some v14) N (v10, 0)) N (v2, 0)) N (([] : List AH), 0)
def II (N : Nat) (p0 : Ah) : Option Ah :=
 (Bc N p0.fBase).bind fun v1 =>
 (Bc N p0.fNext).bind fun v2 =>
 (Bg N p0.fHeld).bind fun v3 =>
 some ((Ah.mk v1 v2 v3))
def HB (_ : Nat) (p0 : AQ) : Option Bool :=
 Bd (fun (v1 : Bool) =>
  some v1)
 fun j1 =>
 AO ((p0.fKind == 3))
  (j1 true)
  (j1 (p0.fKind == 4))
def Gw (N : Nat) (p0 : Al) (p2 : AH) (j7 : ((List Int)) → Option (Bool × (List Int) × (List Int))) : Nat → ((List Int) × Int) → Option (Bool × (List Int) × (List Int))
 | 0, _ => none
 | n7 + 1, v7 =>
  AO ((decide (v7.2 < (p0.fTables.length : Int))))
   (Bd (fun (v10 : (List Int)) =>
    Gw N p0 p2 j7 n7 (v10, (IntKind.wrap .i64 (v7.2 + 1))))
   fun j10 =>
   (A5 p0.fTables v7.2).bind fun v11 =>
   Bd (fun (v12 : Bool) =>
    AO v12
     ((A5 v7.1 v7.2).bind fun v16 =>
     (Fu (0 ≤ p2.fVersion)).bind fun _ =>
     (A5 v7.1 v7.2).bind fun _ =>
     j10 (v7.1.set ((v7.2).toNat) ((Oy .u8 v16 ((DD .u8 1 p2.fVersion))))))
     (j10 v7.1))
   fun j12 =>
   AO ((v11.fFrom == p2.fIndex))
    ((HB N v11).bind fun v14 =>
    j12 v14)
    (j12 false))
   (j7 v7.1)
def Jj (N : Nat) (p0 : Al) (p1 : Ah) (p2 : AH) : Option (Bool × (List Int) × (List Int)) :=
 Bd (fun (v1 : Bool) =>
  AO v1
   (some (false, p1.fNext, p1.fHeld))
   ((A5 p1.fNext p2.fIndex).bind fun _ =>
   Gw N p0 p2 (fun (v8 : (List Int)) =>
    some (true, p1.fNext.set ((p2.fIndex).toNat) p2.fVersion, v8)) N (p1.fHeld, 0)))
 fun j1 =>
 (A5 p1.fNext p2.fIndex).bind fun v2 =>
 AO ((decide (0 ≤ v2)))
  (j1 true)
  ((A5 p1.fBase p2.fIndex).bind fun v4 =>
  j1 (v4 == p2.fVersion))
def Ij (_ : Nat) (p0 : Ah) (p1 : Int) : Option Int :=
 (A5 p0.fBase p1).bind fun v1 =>
 (Fu (0 ≤ v1)).bind fun _ =>
 Bd (fun (v3 : Int) =>
  some v3)
 fun j3 =>
 (A5 p0.fNext p1).bind fun v4 =>
 AO ((decide (0 ≤ v4)))
  ((A5 p0.fNext p1).bind fun v6 =>
  (Fu (0 ≤ v6)).bind fun _ =>
  j3 (Oy .u8 ((DD .u8 1 v1)) ((DD .u8 1 v6))))
  (j3 (DD .u8 1 v1))
def EV (_ : Nat) (p0 : Int) : Option Int :=
 (Qy ((⟨⟨(List.append (List.append [8, 0, 1, 0, 2, 0, 1, 0, 3, 0, 1, 0, 2, 0, 1, 0, 4, 0, 1, 0, 2, 0, 1, 0, 3, 0, 1, 0, 2, 0, 1, 0, 5, 0, 1, 0, 2, 0, 1, 0, 3, 0, 1, 0, 2, 0, 1, 0, 4, 0, 1, 0, 2, 0, 1, 0, 3, 0, 1, 0, 2, 0, 1, 0] [6, 0, 1, 0, 2, 0, 1, 0, 3, 0, 1, 0, 2, 0, 1, 0, 4, 0, 1, 0, 2, 0, 1, 0, 3, 0, 1, 0, 2, 0, 1, 0, 5, 0, 1, 0, 2, 0, 1, 0, 3, 0, 1, 0, 2, 0, 1, 0, 4, 0, 1, 0, 2, 0, 1, 0, 3, 0, 1, 0, 2, 0, 1, 0]) (List.append [7, 0, 1, 0, 2, 0, 1, 0, 3, 0, 1, 0, 2, 0, 1, 0, 4, 0, 1, 0, 2, 0, 1, 0, 3, 0, 1, 0, 2, 0, 1, 0, 5, 0, 1, 0, 2, 0, 1, 0, 3, 0, 1, 0, 2, 0, 1, 0, 4, 0, 1, 0, 2, 0, 1, 0, 3, 0, 1, 0, 2, 0, 1, 0] [6, 0, 1, 0, 2, 0, 1, 0, 3, 0, 1, 0, 2, 0, 1, 0, 4, 0, 1, 0, 2, 0, 1, 0, 3, 0, 1, 0, 2, 0, 1, 0, 5, 0, 1, 0, 2, 0, 1, 0, 3, 0, 1, 0, 2, 0, 1, 0, 4, 0, 1, 0, 2, 0, 1, 0, 3, 0, 1, 0, 2, 0, 1, 0]))⟩⟩ : ByteArray)) p0).bind fun v1 =>
 some ((IntKind.wrap .i64 v1))
def E8 (N : Nat) (p0 : AQ) (p2 : Int) (j1 : Unit → Option Bool) : Nat → Int → Option Bool
 | 0, _ => none
 | n1 + 1, v1 =>
  AO ((v1 != 0))
   ((EV N v1).bind fun v4 =>
   (A5 p0.fRewrite v4).bind fun v5 =>
   (A5 v5 p2).bind fun v6 =>
   AO ((!v6))
    (some false)
    (E8 N p0 p2 j1 n1 (Gn .u8 v1 ((IntKind.wrap .u8 (v1 - 1))))))
   (j1 ())
def He (N : Nat) (p0 : AQ) (p1 : Int) (p2 : Int) : Option Bool :=
 E8 N p0 p2 (fun (_ : Unit) =>
  some true) N p1
def Jk (N : Nat) (p0 : Al) (p1 : Ah) (p2 : Int) : Option (Bool × (List Int)) :=
 (A5 p0.fTables p2).bind fun v1 =>
 (HB N v1).bind fun v2 =>
 AO ((!v2))
  (some (false, p1.fHeld))
  ((Ij N p1 v1.fFrom).bind fun v4 =>
  (A5 p1.fHeld p2).bind fun v5 =>
  Bd (fun (v6 : Bool) =>
   AO v6
    (some (false, p1.fHeld))
    ((A5 p1.fHeld p2).bind fun _ =>
    some (true, p1.fHeld.set ((p2).toNat) v4)))
  fun j6 =>
  (A5 p1.fHeld p2).bind fun v7 =>
  AO ((v7 == v4))
   (j6 true)
   (AO ((v1.fKind == 4))
    ((A5 p1.fBase v1.fFrom).bind fun v10 =>
    (He N v1 ((Ed .u8 v5 v4)) v10).bind fun v11 =>
    j6 (!v11))
    (j6 false)))
def H2 (N : Nat) (p0 : Al) (p1 : Ah) (p2 : AH) : Option (Ah × Bool) :=
 (II N p1).bind fun v1 =>
 AO ((p2.fKind == 1))
  ((Jj N p0 v1 p2).bind fun v3 =>
  some ((Ah.mk v1.fBase v3.2.1 v3.2.2), v3.1))
  (AO ((p2.fKind == 3))
   ((Jk N p0 v1 p2.fIndex).bind fun v5 =>
   some ((Ah.mk v1.fBase v1.fNext v5.2), v5.1))
   ((A5 v1.fNext p2.fIndex).bind fun v6 =>
   AO ((decide (v6 < 0)))
    (some (v1, false))
    ((A5 v1.fNext p2.fIndex).bind fun _ =>
    Bd (fun (v9 : (List Int)) =>
     some ((Ah.mk v9 (v1.fNext.set ((p2.fIndex).toNat) ((-1))) v1.fHeld), true))
    fun j9 =>
    AO ((p2.fKind == 2))
     ((A5 v1.fBase p2.fIndex).bind fun _ =>
     j9 (v1.fBase.set ((p2.fIndex).toNat) v6))
     (j9 v1.fBase))))
def Fn (N : Nat) (p0 : AH) (p1 : List Int) (p2 : List Int) (p3 : List Int) (p4 : List AQ) (p5 : List Int) (p6 : List Int) (p7 : List Int) : Option Bool :=
 (H2 N ((Al.mk p1 p2 p3 p4)) ((Ah.mk p5 p6 p7)) p0).bind fun v1 =>
 some ((!v1.2))
def Cs (N : Nat) (p0 : List AH) (p1 : AH → Option Bool) (j1 : Unit → Option Int) : Nat → Int → Option Int
 | 0, _ => none
 | n1 + 1, v1 =>
  AO ((decide (v1 < (p0.length : Int))))
   ((A5 p0 v1).bind fun v4 =>
   (p1 v4).bind fun v5 =>
   AO v5
    (some v1)
    (Cs N p0 p1 j1 n1 (IntKind.wrap .i64 (v1 + 1))))
   (j1 ())
def DG (N : Nat) (p0 : List AH) (p1 : AH → Option Bool) : Option Int :=
 Cs N p0 p1 (fun (_ : Unit) =>
  some ((-1))) N 0
def Ci (N : Nat) (p1 : AH → Option Bool) (j3 : ((List AH) × Int) → Option (Nat × (List AH))) : Nat → ((List AH) × Int × Int) → Option (Nat × (List AH))
 | 0, _ => none
 | n3 + 1, v3 =>
  AO ((decide (v3.2.2 < (v3.1.length : Int))))
   (Bd (fun (v6 : (List AH) × Int) =>
    Ci N p1 j3 n3 (v6.1, v6.2, (IntKind.wrap .i64 (v3.2.2 + 1))))
   fun j6 =>
   (A5 v3.1 v3.2.2).bind fun v7 =>
   (p1 v7).bind fun v8 =>
   AO ((!v8))
    ((A5 v3.1 v3.2.1).bind fun _ =>
    j6 (v3.1.set ((v3.2.1).toNat) v7, (IntKind.wrap .i64 (v3.2.1 + 1))))
    (j6 (v3.1, v3.2.1)))
   (j3 (v3.1, v3.2.1))
def Dz (N : Nat) (p0 : List AH) (p1 : AH → Option Bool) : Option (Nat × (List AH)) :=
 (DG N p0 p1).bind fun v1 =>
 AO ((v1 == (-1)))
  (some (p0.length, p0))
  (Ci N p1 (fun (v4 : (List AH) × Int) =>
   (Fu ((0 : Int) ≤ v4.2 ∧ (v4.2).toNat ≤ v4.1.length ∧ v4.1.length ≤ v4.1.length)).bind fun _ =>
   (Fu ((0 : Int) ≤ v4.2 ∧ 0 ≤ (v4.2).toNat ∧ (v4.2).toNat ≤ (Jw v4.1 ((v4.2).toNat) (List.replicate ((v4.1.length - (v4.2).toNat)) ((AH.mk 0 0 0)))).length)).bind fun _ =>
   some ((v4.2).toNat, Jw v4.1 ((v4.2).toNat) (List.replicate ((v4.1.length - (v4.2).toNat)) ((AH.mk 0 0 0))))) N (p0, v1, (IntKind.wrap .i64 (v1 + 1))))
def F1 (N : Nat) (p0 : Al) (p1 : Ah) : Option ((List AH) × Int) :=
 (EW N p0 p1).bind fun v1 =>
 AO ((v1 != 0))
  (some (([] : List AH), v1))
  ((Kq N p0).bind fun v3 =>
  (Dz N v3 ((fun (x : AH) => Fn N x p0.fVersions p0.fNow p0.fTarget p0.fTables p1.fBase p1.fNext p1.fHeld))).bind fun v4 =>
  (Fu (v4.1 ≤ v4.2.length)).bind fun _ =>
  some (v4.2.take v4.1, 0))
def Ji (_ : Nat) (p0 : AH) : Option Bool :=
 Bd (fun (v1 : Bool) =>
  AO v1
   (some false)
   (Bd (fun (v5 : Bool) =>
    some v5)
   fun j5 =>
   AO ((p0.fKind == 1))
    (j5 true)
    (j5 (p0.fVersion == 0))))
 fun j1 =>
 AO ((decide ((SC p0.fIndex p0.fVersion) < 0)))
  (j1 true)
  (AO ((decide (p0.fKind < 1)))
   (j1 true)
   (j1 (decide (4 < p0.fKind))))
def IG (_ : Nat) (p0 : Al) (p1 : AH) : Option Bool :=
 AO ((p1.fKind == 3))
  (some ((decide (p1.fIndex < (p0.fTables.length : Int)))))
  (Bd (fun (v2 : Bool) =>
   some v2)
  fun j2 =>
  AO ((decide (p1.fIndex < (p0.fVersions.length : Int))))
   (AO ((p1.fKind != 1))
    (j2 true)
    ((A5 p0.fVersions p1.fIndex).bind fun v5 =>
    j2 (decide (p1.fVersion < v5))))
   (j2 false))
def Jf (N : Nat) (p0 : Al) (p1 : Ah) (p2 : AH) : Option (Ah × Int) :=
 (Ji N p2).bind fun v1 =>
 AO ((!v1))
  (some ((Ah.mk (([] : List Int)) (([] : List Int)) (([] : List Int))), 1))
  ((IG N p0 p2).bind fun v3 =>
  AO ((!v3))
   (some ((Ah.mk (([] : List Int)) (([] : List Int)) (([] : List Int))), 4))
   ((H2 N p0 p1 p2).bind fun v5 =>
   AO ((!v5.2))
    (some ((Ah.mk (([] : List Int)) (([] : List Int)) (([] : List Int))), 11))
    (some (v5.1, 0))))
def GT (N : Nat) (p0 : Al) (p1 : Ah) (p2 : AH) : Option (Ah × Int) :=
 (EW N p0 p1).bind fun v1 =>
 AO ((v1 != 0))
  (some ((Ah.mk (([] : List Int)) (([] : List Int)) (([] : List Int))), v1))
  ((Jf N p0 p1 p2).bind fun v3 =>
  some (v3.1, v3.2))
def GG (N : Nat) (p0 : Al) (p1 : Ah) (v1 : (List AH) × Int) (j2 : ((List AH) × (List Ah)) → Option ((List AH) × (List Ah))) : Nat → ((List AH) × (List Ah) × Int) → Option ((List AH) × (List Ah))
 | 0, _ => none
 | n2 + 1, v2 =>
  AO ((decide (v2.2.2 < (v1.1.length : Int))))
   (Bd (fun (v5 : (List AH) × (List Ah)) =>
    GG N p0 p1 v1 j2 n2 (v5.1, v5.2, (IntKind.wrap .i64 (v2.2.2 + 1))))
   fun j5 =>
   (A5 v1.1 v2.2.2).bind fun v6 =>
   (GT N p0 p1 v6).bind fun v7 =>
   AO ((v7.2 != 0))
    (j5 (v2.1, v2.2.1))
    ((FB N p0 v7.1).bind fun v9 =>
    AO v9.1
     ((Fu (v2.1.length + (([v6] : List AH)).length ≤ Gf)).bind fun _ =>
     (Fu (v2.2.1.length + (([v7.1] : List Ah)).length ≤ Gf)).bind fun _ =>
     j5 (v2.1 ++ (([v6] : List AH)), v2.2.1 ++ (([v7.1] : List Ah))))
     (j5 (v2.1, v2.2.1))))
   (j2 (v2.1, v2.2.1))
def Jo (N : Nat) (p0 : Al) (p1 : Ah) : Option ((List AH) × (List Ah)) :=
 (F1 N p0 p1).bind fun v1 =>
 GG N p0 p1 v1 (fun (v3 : (List AH) × (List Ah)) =>
  some (v3.1, v3.2)) N (([] : List AH), ([] : List Ah), 0)
def G8 (_ : Nat) (p0 : Int) : Option Int :=
 Bd (fun (v1 : Int × Int) =>
  Bd (fun (v3 : Int × Int) =>
   (Qy ((⟨⟨(List.append (List.append [0, 1, 2, 2, 3, 3, 3, 3, 4, 4, 4, 4, 4, 4, 4, 4, 5, 5, 5, 5, 5, 5, 5, 5, 5, 5, 5, 5, 5, 5, 5, 5, 6, 6, 6, 6, 6, 6, 6, 6, 6, 6, 6, 6, 6, 6, 6, 6, 6, 6, 6, 6, 6, 6, 6, 6, 6, 6, 6, 6, 6, 6, 6, 6] [7, 7, 7, 7, 7, 7, 7, 7, 7, 7, 7, 7, 7, 7, 7, 7, 7, 7, 7, 7, 7, 7, 7, 7, 7, 7, 7, 7, 7, 7, 7, 7, 7, 7, 7, 7, 7, 7, 7, 7, 7, 7, 7, 7, 7, 7, 7, 7, 7, 7, 7, 7, 7, 7, 7, 7, 7, 7, 7, 7, 7, 7, 7, 7]) (List.append [8, 8, 8, 8, 8, 8, 8, 8, 8, 8, 8, 8, 8, 8, 8, 8, 8, 8, 8, 8, 8, 8, 8, 8, 8, 8, 8, 8, 8, 8, 8, 8, 8, 8, 8, 8, 8, 8, 8, 8, 8, 8, 8, 8, 8, 8, 8, 8, 8, 8, 8, 8, 8, 8, 8, 8, 8, 8, 8, 8, 8, 8, 8, 8] [8, 8, 8, 8, 8, 8, 8, 8, 8, 8, 8, 8, 8, 8, 8, 8, 8, 8, 8, 8, 8, 8, 8, 8, 8, 8, 8, 8, 8, 8, 8, 8, 8, 8, 8, 8, 8, 8, 8, 8, 8, 8, 8, 8, 8, 8, 8, 8, 8, 8, 8, 8, 8, 8, 8, 8, 8, 8, 8, 8, 8, 8, 8, 8]))⟩⟩ : ByteArray)) ((IntKind.wrap .u8 v3.1))).bind fun v5 =>
   some ((IntKind.wrap .i64 (v3.2 + (IntKind.wrap .i64 v5)))))
  fun j3 =>
  AO ((decide (256 ≤ v1.1)))
   (j3 ((E2 .u32 v1.1 8), (IntKind.wrap .i64 (v1.2 + 8))))
   (j3 (v1.1, v1.2)))
 fun j1 =>
 AO ((decide (65536 ≤ p0)))
  (j1 ((E2 .u32 p0 16), 16))
  (j1 (p0, 0))
def Hc (_ : Nat) (p0 : Int) : Option Int :=
 Bd (fun (v1 : Int × Int) =>
  Bd (fun (v3 : Int × Int) =>
   Bd (fun (v5 : Int × Int) =>
    (Qy ((⟨⟨(List.append (List.append [0, 1, 2, 2, 3, 3, 3, 3, 4, 4, 4, 4, 4, 4, 4, 4, 5, 5, 5, 5, 5, 5, 5, 5, 5, 5, 5, 5, 5, 5, 5, 5, 6, 6, 6, 6, 6, 6, 6, 6, 6, 6, 6, 6, 6, 6, 6, 6, 6, 6, 6, 6, 6, 6, 6, 6, 6, 6, 6, 6, 6, 6, 6, 6] [7, 7, 7, 7, 7, 7, 7, 7, 7, 7, 7, 7, 7, 7, 7, 7, 7, 7, 7, 7, 7, 7, 7, 7, 7, 7, 7, 7, 7, 7, 7, 7, 7, 7, 7, 7, 7, 7, 7, 7, 7, 7, 7, 7, 7, 7, 7, 7, 7, 7, 7, 7, 7, 7, 7, 7, 7, 7, 7, 7, 7, 7, 7, 7]) (List.append [8, 8, 8, 8, 8, 8, 8, 8, 8, 8, 8, 8, 8, 8, 8, 8, 8, 8, 8, 8, 8, 8, 8, 8, 8, 8, 8, 8, 8, 8, 8, 8, 8, 8, 8, 8, 8, 8, 8, 8, 8, 8, 8, 8, 8, 8, 8, 8, 8, 8, 8, 8, 8, 8, 8, 8, 8, 8, 8, 8, 8, 8, 8, 8] [8, 8, 8, 8, 8, 8, 8, 8, 8, 8, 8, 8, 8, 8, 8, 8, 8, 8, 8, 8, 8, 8, 8, 8, 8, 8, 8, 8, 8, 8, 8, 8, 8, 8, 8, 8, 8, 8, 8, 8, 8, 8, 8, 8, 8, 8, 8, 8, 8, 8, 8, 8, 8, 8, 8, 8, 8, 8, 8, 8, 8, 8, 8, 8]))⟩⟩ : ByteArray)) ((IntKind.wrap .u8 v5.1))).bind fun v7 =>
    some ((IntKind.wrap .i64 (v5.2 + (IntKind.wrap .i64 v7)))))
   fun j5 =>
   AO ((decide (256 ≤ v3.1)))
    (j5 ((E2 .u64 v3.1 8), (IntKind.wrap .i64 (v3.2 + 8))))
    (j5 (v3.1, v3.2)))
  fun j3 =>
  AO ((decide (65536 ≤ v1.1)))
   (j3 ((E2 .u64 v1.1 16), (IntKind.wrap .i64 (v1.2 + 16))))
   (j3 (v1.1, v1.2)))
 fun j1 =>
 AO ((decide (4294967296 ≤ p0)))
  (j1 ((E2 .u64 p0 32), 32))
  (j1 (p0, 0))
def FN (N : Nat) (p0 : Int) : Option Int :=
 AO false
  ((G8 N ((IntKind.wrap .u32 p0))).bind fun v2 =>
  some v2)
  ((Hc N p0).bind fun v3 =>
  some v3)
def Ch (N : Nat) (p1 : Int) (p3 : (Ah × Ah) → Option Int) (j4 : ((List Ah)) → Option ((List Ah))) : Nat → ((List Ah) × Int) → Option ((List Ah))
 | 0, _ => none
 | n4 + 1, v4 =>
  Bd (fun (v6 : Bool) =>
   AO v6
    ((A5 v4.1 ((IntKind.wrap .i64 (v4.2 - 1)))).bind fun v12 =>
    (A5 v4.1 v4.2).bind fun v13 =>
    (A5 v4.1 v4.2).bind fun _ =>
    (A5 (v4.1.set ((v4.2).toNat) v12) ((IntKind.wrap .i64 (v4.2 - 1)))).bind fun _ =>
    Ch N p1 p3 j4 n4 ((v4.1.set ((v4.2).toNat) v12).set (((IntKind.wrap .i64 (v4.2 - 1))).toNat) v13, (IntKind.wrap .i64 (v4.2 - 1))))
    (j4 v4.1))
  fun j6 =>
  AO ((decide (p1 < v4.2)))
   ((A5 v4.1 v4.2).bind fun v8 =>
   (A5 v4.1 ((IntKind.wrap .i64 (v4.2 - 1)))).bind fun v9 =>
   (p3 ((v8, v9))).bind fun v10 =>
   j6 (decide (v10 < 0)))
   (j6 false)
def Cl (N : Nat) (p1 : Int) (p2 : Int) (p3 : (Ah × Ah) → Option Int) (j1 : ((List Ah)) → Option ((List Ah))) : Nat → ((List Ah) × Int) → Option ((List Ah))
 | 0, _ => none
 | n1 + 1, v1 =>
  AO ((decide (v1.2 < p2)))
   (Ch N p1 p3 (fun (v5 : (List Ah)) =>
    Cl N p1 p2 p3 j1 n1 (v5, (IntKind.wrap .i64 (v1.2 + 1)))) N (v1.1, v1.2))
   (j1 v1.1)
def Dy (N : Nat) (p0 : List Ah) (p1 : Int) (p2 : Int) (p3 : (Ah × Ah) → Option Int) : Option ((List Ah)) :=
 Cl N p1 p2 p3 (fun (v2 : (List Ah)) =>
  some v2) N (p0, (IntKind.wrap .i64 (p1 + 1)))
def CT (N : Nat) (p2 : Int) (p3 : Int) (p4 : (Ah × Ah) → Option Int) (j1 : ((List Ah)) → Option ((List Ah))) : Nat → ((List Ah) × Int) → Option ((List Ah))
 | 0, _ => none
 | n1 + 1, v1 =>
  AO ((decide (p2 ≤ (IntKind.wrap .i64 ((IntKind.wrap .i64 (2 * v1.2)) + 1)))))
   (j1 v1.1)
   (Bd (fun (v4 : Int) =>
    (A5 v1.1 ((IntKind.wrap .i64 (p3 + v1.2)))).bind fun v11 =>
    (A5 v1.1 ((IntKind.wrap .i64 (p3 + v4)))).bind fun v12 =>
    (p4 ((v11, v12))).bind fun v13 =>
    AO ((!((decide (v13 < 0)))))
     (some v1.1)
     ((A5 v1.1 ((IntKind.wrap .i64 (p3 + v4)))).bind fun v15 =>
     (A5 v1.1 ((IntKind.wrap .i64 (p3 + v1.2)))).bind fun v16 =>
     (A5 v1.1 ((IntKind.wrap .i64 (p3 + v1.2)))).bind fun _ =>
     (A5 (v1.1.set (((IntKind.wrap .i64 (p3 + v1.2))).toNat) v15) ((IntKind.wrap .i64 (p3 + v4)))).bind fun _ =>
     CT N p2 p3 p4 j1 n1 ((v1.1.set (((IntKind.wrap .i64 (p3 + v1.2))).toNat) v15).set (((IntKind.wrap .i64 (p3 + v4))).toNat) v16, v4)))
   fun j4 =>
   Bd (fun (v5 : Bool) =>
    AO v5
     (j4 (IntKind.wrap .i64 ((IntKind.wrap .i64 ((IntKind.wrap .i64 (2 * v1.2)) + 1)) + 1)))
     (j4 (IntKind.wrap .i64 ((IntKind.wrap .i64 (2 * v1.2)) + 1))))
   fun j5 =>
   AO ((decide ((IntKind.wrap .i64 ((IntKind.wrap .i64 ((IntKind.wrap .i64 (2 * v1.2)) + 1)) + 1)) < p2)))
    ((A5 v1.1 ((IntKind.wrap .i64 (p3 + (IntKind.wrap .i64 ((IntKind.wrap .i64 (2 * v1.2)) + 1)))))).bind fun v7 =>
    (A5 v1.1 ((IntKind.wrap .i64 ((IntKind.wrap .i64 (p3 + (IntKind.wrap .i64 ((IntKind.wrap .i64 (2 * v1.2)) + 1)))) + 1)))).bind fun v8 =>
    (p4 ((v7, v8))).bind fun v9 =>
    j5 (decide (v9 < 0)))
    (j5 false))
def Di (N : Nat) (p0 : List Ah) (p1 : Int) (p2 : Int) (p3 : Int) (p4 : (Ah × Ah) → Option Int) : Option ((List Ah)) :=
 CT N p2 p3 p4 (fun (v2 : (List Ah)) =>
  some v2) N (p0, p1)
def CV (N : Nat) (p1 : Int) (p2 : Int) (p3 : (Ah × Ah) → Option Int) (j1 : ((List Ah)) → Option ((List Ah))) : Nat → ((List Ah) × Int) → Option ((List Ah))
 | 0, _ => none
 | n1 + 1, v1 =>
  AO ((decide (0 ≤ v1.2)))
   ((Di N v1.1 v1.2 ((IntKind.wrap .i64 (p2 - p1))) p1 p3).bind fun v4 =>
   CV N p1 p2 p3 j1 n1 (v4, (IntKind.wrap .i64 (v1.2 - 1))))
   (j1 v1.1)
def CY (N : Nat) (p1 : Int) (p3 : (Ah × Ah) → Option Int) (j5 : ((List Ah)) → Option ((List Ah))) : Nat → ((List Ah) × Int) → Option ((List Ah))
 | 0, _ => none
 | n5 + 1, v5 =>
  AO ((decide (0 ≤ v5.2)))
   ((A5 v5.1 ((IntKind.wrap .i64 (p1 + v5.2)))).bind fun v8 =>
   (A5 v5.1 p1).bind fun v9 =>
   (A5 v5.1 p1).bind fun _ =>
   (A5 (v5.1.set ((p1).toNat) v8) ((IntKind.wrap .i64 (p1 + v5.2)))).bind fun _ =>
   (Di N ((v5.1.set ((p1).toNat) v8).set (((IntKind.wrap .i64 (p1 + v5.2))).toNat) v9) 0 v5.2 p1 p3).bind fun v12 =>
   CY N p1 p3 j5 n5 (v12, (IntKind.wrap .i64 (v5.2 - 1))))
   (j5 v5.1)
def D8 (N : Nat) (p0 : List Ah) (p1 : Int) (p2 : Int) (p3 : (Ah × Ah) → Option Int) : Option ((List Ah)) :=
 CV N p1 p2 p3 (fun (v2 : (List Ah)) =>
  CY N p1 p3 (fun (v6 : (List Ah)) =>
   some v6) N (v2, (IntKind.wrap .i64 ((IntKind.wrap .i64 (p2 - p1)) - 1)))) N (p0, (IntKind.wrap .i64 (Int.tdiv ((IntKind.wrap .i64 ((IntKind.wrap .i64 (p2 - p1)) - 1))) 2)))
def ED (N : Nat) (p0 : Int) : Option Int :=
 (FN N ((IntKind.wrap .u64 p0))).bind fun v1 =>
 (Fu (0 ≤ v1)).bind fun _ =>
 some ((DD .u64 1 v1))
def EP (_ : Nat) (p0 : Int) : Option (Int × Int) :=
 some ((Ha .u64 ((Ha .u64 ((Ha .u64 p0 ((DD .u64 p0 13)))) ((E2 .u64 ((Ha .u64 p0 ((DD .u64 p0 13)))) 7)))) ((DD .u64 ((Ha .u64 ((Ha .u64 p0 ((DD .u64 p0 13)))) ((E2 .u64 ((Ha .u64 p0 ((DD .u64 p0 13)))) 7)))) 17))), (Ha .u64 ((Ha .u64 ((Ha .u64 p0 ((DD .u64 p0 13)))) ((E2 .u64 ((Ha .u64 p0 ((DD .u64 p0 13)))) 7)))) ((DD .u64 ((Ha .u64 ((Ha .u64 p0 ((DD .u64 p0 13)))) ((E2 .u64 ((Ha .u64 p0 ((DD .u64 p0 13)))) 7)))) 17))))
def Cj (N : Nat) (p1 : Int) (p2 : Int) (v2 : Int) (j3 : ((List Ah)) → Option ((List Ah))) : Nat → ((List Ah) × Int × Int) → Option ((List Ah))
 | 0, _ => none
 | n3 + 1, v3 =>
  AO ((decide (v3.2.2 ≤ (IntKind.wrap .i64 ((IntKind.wrap .i64 (p1 + (IntKind.wrap .i64 ((IntKind.wrap .i64 (Int.tdiv ((IntKind.wrap .i64 (p2 - p1))) 4)) * 2)))) + 1)))))
   ((EP N v3.2.1).bind fun v6 =>
   Bd (fun (v7 : Int) =>
    (A5 v3.1 ((IntKind.wrap .i64 (p1 + v7)))).bind fun v9 =>
    (A5 v3.1 v3.2.2).bind fun v10 =>
    (A5 v3.1 v3.2.2).bind fun _ =>
    (A5 (v3.1.set ((v3.2.2).toNat) v9) ((IntKind.wrap .i64 (p1 + v7)))).bind fun _ =>
    Cj N p1 p2 v2 j3 n3 ((v3.1.set ((v3.2.2).toNat) v9).set (((IntKind.wrap .i64 (p1 + v7))).toNat) v10, v6.2, (IntKind.wrap .i64 (v3.2.2 + 1))))
   fun j7 =>
   AO ((decide ((IntKind.wrap .i64 (p2 - p1)) ≤ (IntKind.wrap .i64 ((Gn .u64 v6.1 ((IntKind.wrap .u64 (v2 - 1)))))))))
    (j7 (IntKind.wrap .i64 ((IntKind.wrap .i64 ((Gn .u64 v6.1 ((IntKind.wrap .u64 (v2 - 1)))))) - (IntKind.wrap .i64 (p2 - p1)))))
    (j7 (IntKind.wrap .i64 ((Gn .u64 v6.1 ((IntKind.wrap .u64 (v2 - 1))))))))
   (j3 v3.1)
def DC (N : Nat) (p0 : List Ah) (p1 : Int) (p2 : Int) (_ : (Ah × Ah) → Option Int) : Option ((List Ah)) :=
 AO ((decide (8 ≤ (IntKind.wrap .i64 (p2 - p1)))))
  ((ED N ((IntKind.wrap .i64 (p2 - p1)))).bind fun v2 =>
  Cj N p1 p2 v2 (fun (v4 : (List Ah)) =>
   some v4) N (p0, (IntKind.wrap .u64 ((IntKind.wrap .i64 (p2 - p1)))), (IntKind.wrap .i64 ((IntKind.wrap .i64 (p1 + (IntKind.wrap .i64 ((IntKind.wrap .i64 (Int.tdiv ((IntKind.wrap .i64 (p2 - p1))) 4)) * 2)))) - 1))))
  (some p0)
def CP (_ : Nat) (p0 : List Ah) (p1 : Int) (p2 : Int) (p3 : Int) (p4 : (Ah × Ah) → Option Int) : Option (Int × Int × Int) :=
 (A5 p0 p2).bind fun v1 =>
 (A5 p0 p1).bind fun v2 =>
 (p4 ((v1, v2))).bind fun v3 =>
 AO ((decide (v3 < 0)))
  (some (p2, p1, (IntKind.wrap .i64 (p3 + 1))))
  (some (p1, p2, p3))
def Dv (N : Nat) (p0 : List Ah) (p1 : Int) (p2 : Int) (p3 : Int) (p4 : Int) (p5 : (Ah × Ah) → Option Int) : Option (Int × Int) :=
 (CP N p0 p1 p2 p4 p5).bind fun v1 =>
 (CP N p0 v1.2.1 p3 v1.2.2 p5).bind fun v2 =>
 (CP N p0 v1.1 v2.1 v2.2.2 p5).bind fun v3 =>
 some (v3.2.1, v3.2.2)
def BM (N : Nat) (p0 : List Ah) (p1 : Int) (p2 : Int) (p3 : (Ah × Ah) → Option Int) : Option (Int × Int) :=
 (Dv N p0 ((IntKind.wrap .i64 (p1 - 1))) p1 ((IntKind.wrap .i64 (p1 + 1))) p2 p3).bind fun v1 =>
 some (v1.1, v1.2)
def DM (N : Nat) (p0 : List Ah) (p1 : Int) (p2 : Int) (p3 : (Ah × Ah) → Option Int) : Option (Int × Int) :=
 Bd (fun (v1 : Int × Int) =>
  AO ((v1.1 == 0))
   (some (v1.2, 1))
   (AO ((v1.1 == 12))
    (some (v1.2, 2))
    (some (v1.2, 0))))
 fun j1 =>
 AO ((decide (8 ≤ (IntKind.wrap .i64 (p2 - p1)))))
  (Bd (fun (v3 : Int × Int × Int × Int) =>
   (Dv N p0 v3.2.1 v3.2.2.1 v3.2.2.2 v3.1 p3).bind fun v8 =>
   j1 (v8.2, v8.1))
  fun j3 =>
  AO ((decide (50 ≤ (IntKind.wrap .i64 (p2 - p1)))))
   ((BM N p0 ((IntKind.wrap .i64 (p1 + (IntKind.wrap .i64 ((IntKind.wrap .i64 (Int.tdiv ((IntKind.wrap .i64 (p2 - p1))) 4)) * 1))))) 0 p3).bind fun v5 =>
   (BM N p0 ((IntKind.wrap .i64 (p1 + (IntKind.wrap .i64 ((IntKind.wrap .i64 (Int.tdiv ((IntKind.wrap .i64 (p2 - p1))) 4)) * 2))))) v5.2 p3).bind fun v6 =>
   (BM N p0 ((IntKind.wrap .i64 (p1 + (IntKind.wrap .i64 ((IntKind.wrap .i64 (Int.tdiv ((IntKind.wrap .i64 (p2 - p1))) 4)) * 3))))) v6.2 p3).bind fun v7 =>
   j3 (v7.2, v5.1, v6.1, v7.1))
   (j3 (0, (IntKind.wrap .i64 (p1 + (IntKind.wrap .i64 ((IntKind.wrap .i64 (Int.tdiv ((IntKind.wrap .i64 (p2 - p1))) 4)) * 1)))), (IntKind.wrap .i64 (p1 + (IntKind.wrap .i64 ((IntKind.wrap .i64 (Int.tdiv ((IntKind.wrap .i64 (p2 - p1))) 4)) * 2)))), (IntKind.wrap .i64 (p1 + (IntKind.wrap .i64 ((IntKind.wrap .i64 (Int.tdiv ((IntKind.wrap .i64 (p2 - p1))) 4)) * 3)))))))
  (j1 (0, (IntKind.wrap .i64 (p1 + (IntKind.wrap .i64 ((IntKind.wrap .i64 (Int.tdiv ((IntKind.wrap .i64 (p2 - p1))) 4)) * 2))))))
def Cr (N : Nat) (j1 : ((List Ah)) → Option ((List Ah))) : Nat → ((List Ah) × Int × Int) → Option ((List Ah))
 | 0, _ => none
 | n1 + 1, v1 =>
  AO ((decide (v1.2.1 < v1.2.2)))
   ((A5 v1.1 v1.2.2).bind fun v4 =>
   (A5 v1.1 v1.2.1).bind fun v5 =>
   (A5 v1.1 v1.2.1).bind fun _ =>
   (A5 (v1.1.set ((v1.2.1).toNat) v4) v1.2.2).bind fun _ =>
   Cr N j1 n1 ((v1.1.set ((v1.2.1).toNat) v4).set ((v1.2.2).toNat) v5, (IntKind.wrap .i64 (v1.2.1 + 1)), (IntKind.wrap .i64 (v1.2.2 - 1))))
   (j1 v1.1)
def DI (N : Nat) (p0 : List Ah) (p1 : Int) (p2 : Int) (_ : (Ah × Ah) → Option Int) : Option ((List Ah)) :=
 Cr N (fun (v2 : (List Ah)) =>
  some v2) N (p0, p1, (IntKind.wrap .i64 (p2 - 1)))
def BE (N : Nat) (p2 : Int) (p3 : (Ah × Ah) → Option Int) (v1 : (List Ah) × Int × Int) (j5 : Int → Option (Bool × (List Ah))) : Nat → Int → Option (Bool × (List Ah))
 | 0, _ => none
 | n5 + 1, v5 =>
  Bd (fun (v7 : Bool) =>
   AO v7
    (BE N p2 p3 v1 j5 n5 (IntKind.wrap .i64 (v5 + 1)))
    (j5 v5))
  fun j7 =>
  AO ((decide (v5 < p2)))
   ((A5 v1.1 v5).bind fun v9 =>
   (A5 v1.1 ((IntKind.wrap .i64 (v5 - 1)))).bind fun v10 =>
   (p3 ((v9, v10))).bind fun v11 =>
   j7 (!((decide (v11 < 0)))))
   (j7 false)
def Bx (N : Nat) (p3 : (Ah × Ah) → Option Int) (j21 : ((List Ah)) → Option (Bool × (List Ah))) : Nat → ((List Ah) × Int) → Option (Bool × (List Ah))
 | 0, _ => none
 | n21 + 1, v21 =>
  AO ((decide (1 ≤ v21.2)))
   ((A5 v21.1 v21.2).bind fun v24 =>
   (A5 v21.1 ((IntKind.wrap .i64 (v21.2 - 1)))).bind fun v25 =>
   (p3 ((v24, v25))).bind fun v26 =>
   AO ((!((decide (v26 < 0)))))
    (j21 v21.1)
    ((A5 v21.1 ((IntKind.wrap .i64 (v21.2 - 1)))).bind fun v28 =>
    (A5 v21.1 v21.2).bind fun v29 =>
    (A5 v21.1 v21.2).bind fun _ =>
    (A5 (v21.1.set ((v21.2).toNat) v28) ((IntKind.wrap .i64 (v21.2 - 1)))).bind fun _ =>
    Bx N p3 j21 n21 ((v21.1.set ((v21.2).toNat) v28).set (((IntKind.wrap .i64 (v21.2 - 1))).toNat) v29, (IntKind.wrap .i64 (v21.2 - 1)))))
   (j21 v21.1)
def By (N : Nat) (p2 : Int) (p3 : (Ah × Ah) → Option Int) (j33 : ((List Ah)) → Option (Bool × (List Ah))) : Nat → ((List Ah) × Int) → Option (Bool × (List Ah))
 | 0, _ => none
 | n33 + 1, v33 =>
  AO ((decide (v33.2 < p2)))
   ((A5 v33.1 v33.2).bind fun v36 =>
   (A5 v33.1 ((IntKind.wrap .i64 (v33.2 - 1)))).bind fun v37 =>
   (p3 ((v36, v37))).bind fun v38 =>
   AO ((!((decide (v38 < 0)))))
    (j33 v33.1)
    ((A5 v33.1 ((IntKind.wrap .i64 (v33.2 - 1)))).bind fun v40 =>
    (A5 v33.1 v33.2).bind fun v41 =>
    (A5 v33.1 v33.2).bind fun _ =>
    (A5 (v33.1.set ((v33.2).toNat) v40) ((IntKind.wrap .i64 (v33.2 - 1)))).bind fun _ =>
    By N p2 p3 j33 n33 ((v33.1.set ((v33.2).toNat) v40).set (((IntKind.wrap .i64 (v33.2 - 1))).toNat) v41, (IntKind.wrap .i64 (v33.2 + 1)))))
   (j33 v33.1)
def BF (N : Nat) (p1 : Int) (p2 : Int) (p3 : (Ah × Ah) → Option Int) (j1 : ((List Ah)) → Option (Bool × (List Ah))) : Nat → ((List Ah) × Int × Int) → Option (Bool × (List Ah))
 | 0, _ => none
 | n1 + 1, v1 =>
  AO ((decide (v1.2.2 < 5)))
   (Bd (fun (v4 : (List Ah) × Int) =>
    BF N p1 p2 p3 j1 n1 (v4.1, v4.2, (IntKind.wrap .i64 (v1.2.2 + 1))))
   fun j4 =>
   BE N p2 p3 v1 (fun (v6 : Int) =>
    AO ((v6 == p2))
     (some (true, v1.1))
     (AO ((decide ((IntKind.wrap .i64 (p2 - p1)) < 50)))
      (some (false, v1.1))
      ((A5 v1.1 ((IntKind.wrap .i64 (v6 - 1)))).bind fun v15 =>
      (A5 v1.1 v6).bind fun v16 =>
      (A5 v1.1 v6).bind fun _ =>
      (A5 (v1.1.set ((v6).toNat) v15) ((IntKind.wrap .i64 (v6 - 1)))).bind fun _ =>
      Bd (fun (v19 : (List Ah)) =>
       AO ((decide (2 ≤ (IntKind.wrap .i64 (p2 - v6)))))
        (By N p2 p3 (fun (v34 : (List Ah)) =>
         j4 (v34, v6)) N (v19, (IntKind.wrap .i64 (v6 + 1))))
        (j4 (v19, v6)))
      fun j19 =>
      AO ((decide (2 ≤ (IntKind.wrap .i64 (v6 - p1)))))
       (Bx N p3 (fun (v22 : (List Ah)) =>
        j19 v22) N ((v1.1.set ((v6).toNat) v15).set (((IntKind.wrap .i64 (v6 - 1))).toNat) v16, (IntKind.wrap .i64 (v6 - 1))))
       (j19 ((v1.1.set ((v6).toNat) v15).set (((IntKind.wrap .i64 (v6 - 1))).toNat) v16))))) N v1.2.1)
   (j1 v1.1)
def CQ (N : Nat) (p0 : List Ah) (p1 : Int) (p2 : Int) (p3 : (Ah × Ah) → Option Int) : Option (Bool × (List Ah)) :=
 BF N p1 p2 p3 (fun (v2 : (List Ah)) =>
  some (false, v2)) N (p0, (IntKind.wrap .i64 (p1 + 1)), 0)
def B9 (N : Nat) (p1 : Int) (p4 : (Ah × Ah) → Option Int) (v5 : (List Ah) × Int × Int) (j7 : Int → Option (Int × (List Ah))) : Nat → Int → Option (Int × (List Ah))
 | 0, _ => none
 | n7 + 1, v7 =>
  Bd (fun (v9 : Bool) =>
   AO v9
    (B9 N p1 p4 v5 j7 n7 (IntKind.wrap .i64 (v7 + 1)))
    (j7 v7))
  fun j9 =>
  AO ((decide (v7 ≤ v5.2.2)))
   ((A5 v5.1 p1).bind fun v11 =>
   (A5 v5.1 v7).bind fun v12 =>
   (p4 ((v11, v12))).bind fun v13 =>
   j9 (!((decide (v13 < 0)))))
   (j9 false)
def BY (N : Nat) (p1 : Int) (p4 : (Ah × Ah) → Option Int) (v5 : (List Ah) × Int × Int) (v8 : Int) (j15 : Int → Option (Int × (List Ah))) : Nat → Int → Option (Int × (List Ah))
 | 0, _ => none
 | n15 + 1, v15 =>
  Bd (fun (v17 : Bool) =>
   AO v17
    (BY N p1 p4 v5 v8 j15 n15 (IntKind.wrap .i64 (v15 - 1)))
    (j15 v15))
  fun j17 =>
  AO ((decide (v8 ≤ v15)))
   ((A5 v5.1 p1).bind fun v19 =>
   (A5 v5.1 v15).bind fun v20 =>
   (p4 ((v19, v20))).bind fun v21 =>
   j17 (decide (v21 < 0)))
   (j17 false)
def Ca (N : Nat) (p1 : Int) (p4 : (Ah × Ah) → Option Int) (j5 : ((List Ah) × Int) → Option (Int × (List Ah))) : Nat → ((List Ah) × Int × Int) → Option (Int × (List Ah))
 | 0, _ => none
 | n5 + 1, v5 =>
  B9 N p1 p4 v5 (fun (v8 : Int) =>
   BY N p1 p4 v5 v8 (fun (v16 : Int) =>
    AO ((decide (v16 < v8)))
     (j5 (v5.1, v8))
     ((A5 v5.1 v16).bind fun v24 =>
     (A5 v5.1 v8).bind fun v25 =>
     (A5 v5.1 v8).bind fun _ =>
     (A5 (v5.1.set ((v8).toNat) v24) v16).bind fun _ =>
     Ca N p1 p4 j5 n5 ((v5.1.set ((v8).toNat) v24).set ((v16).toNat) v25, (IntKind.wrap .i64 (v8 + 1)), (IntKind.wrap .i64 (v16 - 1))))) N v5.2.2) N v5.2.1
def Dq (N : Nat) (p0 : List Ah) (p1 : Int) (p2 : Int) (p3 : Int) (p4 : (Ah × Ah) → Option Int) : Option (Int × (List Ah)) :=
 (A5 p0 p3).bind fun v1 =>
 (A5 p0 p1).bind fun v2 =>
 (A5 p0 p1).bind fun _ =>
 (A5 (p0.set ((p1).toNat) v1) p3).bind fun _ =>
 Ca N p1 p4 (fun (v6 : (List Ah) × Int) =>
  some (v6.2, v6.1)) N ((p0.set ((p1).toNat) v1).set ((p3).toNat) v2, (IntKind.wrap .i64 (p1 + 1)), (IntKind.wrap .i64 (p2 - 1)))
def CN (N : Nat) (p0 : List Ah) (p1 : Int) (p2 : Int) (p3 : Int) (p4 : (Ah × Ah) → Option Int) (v1 : Ah) (v2 : Ah) (j5 : Int → Option (Int × Bool × (List Ah))) : Nat → Int → Option (Int × Bool × (List Ah))
 | 0, _ => none
 | n5 + 1, v5 =>
  Bd (fun (v7 : Bool) =>
   AO v7
    (CN N p0 p1 p2 p3 p4 v1 v2 j5 n5 (IntKind.wrap .i64 (v5 + 1)))
    (j5 v5))
  fun j7 =>
  AO ((decide (v5 ≤ (IntKind.wrap .i64 (p2 - 1)))))
   ((A5 ((p0.set ((p1).toNat) v1).set ((p3).toNat) v2) v5).bind fun v9 =>
   (A5 ((p0.set ((p1).toNat) v1).set ((p3).toNat) v2) p1).bind fun v10 =>
   (p4 ((v9, v10))).bind fun v11 =>
   j7 (decide (v11 < 0)))
   (j7 false)
def CL (N : Nat) (p0 : List Ah) (p1 : Int) (p3 : Int) (p4 : (Ah × Ah) → Option Int) (v1 : Ah) (v2 : Ah) (v6 : Int) (j13 : Int → Option (Int × Bool × (List Ah))) : Nat → Int → Option (Int × Bool × (List Ah))
 | 0, _ => none
 | n13 + 1, v13 =>
  Bd (fun (v15 : Bool) =>
   AO v15
    (CL N p0 p1 p3 p4 v1 v2 v6 j13 n13 (IntKind.wrap .i64 (v13 - 1)))
    (j13 v13))
  fun j15 =>
  AO ((decide (v6 ≤ v13)))
   ((A5 ((p0.set ((p1).toNat) v1).set ((p3).toNat) v2) v13).bind fun v17 =>
   (A5 ((p0.set ((p1).toNat) v1).set ((p3).toNat) v2) p1).bind fun v18 =>
   (p4 ((v17, v18))).bind fun v19 =>
   j15 (!((decide (v19 < 0)))))
   (j15 false)
def CB (N : Nat) (p1 : Int) (p4 : (Ah × Ah) → Option Int) (v30 : (List Ah) × Int × Int) (j32 : Int → Option (Int × Bool × (List Ah))) : Nat → Int → Option (Int × Bool × (List Ah))
 | 0, _ => none
 | n32 + 1, v32 =>
  Bd (fun (v34 : Bool) =>
   AO v34
    (CB N p1 p4 v30 j32 n32 (IntKind.wrap .i64 (v32 + 1)))
    (j32 v32))
  fun j34 =>
  AO ((decide (v32 ≤ v30.2.2)))
   ((A5 v30.1 v32).bind fun v36 =>
   (A5 v30.1 p1).bind fun v37 =>
   (p4 ((v36, v37))).bind fun v38 =>
   j34 (decide (v38 < 0)))
   (j34 false)
def CH (N : Nat) (p1 : Int) (p4 : (Ah × Ah) → Option Int) (v30 : (List Ah) × Int × Int) (v33 : Int) (j40 : Int → Option (Int × Bool × (List Ah))) : Nat → Int → Option (Int × Bool × (List Ah))
 | 0, _ => none
 | n40 + 1, v40 =>
  Bd (fun (v42 : Bool) =>
   AO v42
    (CH N p1 p4 v30 v33 j40 n40 (IntKind.wrap .i64 (v40 - 1)))
    (j40 v40))
  fun j42 =>
  AO ((decide (v33 ≤ v40)))
   ((A5 v30.1 v40).bind fun v44 =>
   (A5 v30.1 p1).bind fun v45 =>
   (p4 ((v44, v45))).bind fun v46 =>
   j42 (!((decide (v46 < 0)))))
   (j42 false)
def CD (N : Nat) (p1 : Int) (p4 : (Ah × Ah) → Option Int) (j30 : ((List Ah) × Int) → Option (Int × Bool × (List Ah))) : Nat → ((List Ah) × Int × Int) → Option (Int × Bool × (List Ah))
 | 0, _ => none
 | n30 + 1, v30 =>
  CB N p1 p4 v30 (fun (v33 : Int) =>
   CH N p1 p4 v30 v33 (fun (v41 : Int) =>
    AO ((decide (v41 < v33)))
     (j30 (v30.1, v41))
     ((A5 v30.1 v41).bind fun v49 =>
     (A5 v30.1 v33).bind fun v50 =>
     (A5 v30.1 v33).bind fun _ =>
     (A5 (v30.1.set ((v33).toNat) v49) v41).bind fun _ =>
     CD N p1 p4 j30 n30 ((v30.1.set ((v33).toNat) v49).set ((v41).toNat) v50, (IntKind.wrap .i64 (v33 + 1)), (IntKind.wrap .i64 (v41 - 1))))) N v30.2.2) N v30.2.1
def DZ (N : Nat) (p0 : List Ah) (p1 : Int) (p2 : Int) (p3 : Int) (p4 : (Ah × Ah) → Option Int) : Option (Int × Bool × (List Ah)) :=
 (A5 p0 p3).bind fun v1 =>
 (A5 p0 p1).bind fun v2 =>
 (A5 p0 p1).bind fun _ =>
 (A5 (p0.set ((p1).toNat) v1) p3).bind fun _ =>
 CN N p0 p1 p2 p3 p4 v1 v2 (fun (v6 : Int) =>
  CL N p0 p1 p3 p4 v1 v2 v6 (fun (v14 : Int) =>
   AO ((decide (v14 < v6)))
    ((A5 ((p0.set ((p1).toNat) v1).set ((p3).toNat) v2) p1).bind fun v22 =>
    (A5 ((p0.set ((p1).toNat) v1).set ((p3).toNat) v2) v14).bind fun v23 =>
    (A5 ((p0.set ((p1).toNat) v1).set ((p3).toNat) v2) v14).bind fun _ =>
    (A5 (((p0.set ((p1).toNat) v1).set ((p3).toNat) v2).set ((v14).toNat) v22) p1).bind fun _ =>
    some (v14, true, (((p0.set ((p1).toNat) v1).set ((p3).toNat) v2).set ((v14).toNat) v22).set ((p1).toNat) v23))
    ((A5 ((p0.set ((p1).toNat) v1).set ((p3).toNat) v2) v14).bind fun v26 =>
    (A5 ((p0.set ((p1).toNat) v1).set ((p3).toNat) v2) v6).bind fun v27 =>
    (A5 ((p0.set ((p1).toNat) v1).set ((p3).toNat) v2) v6).bind fun _ =>
    (A5 (((p0.set ((p1).toNat) v1).set ((p3).toNat) v2).set ((v6).toNat) v26) v14).bind fun _ =>
    CD N p1 p4 (fun (v31 : (List Ah) × Int) =>
     (A5 v31.1 p1).bind fun v53 =>
     (A5 v31.1 v31.2).bind fun v54 =>
     (A5 v31.1 v31.2).bind fun _ =>
     (A5 (v31.1.set ((v31.2).toNat) v53) p1).bind fun _ =>
     some (v31.2, false, (v31.1.set ((v31.2).toNat) v53).set ((p1).toNat) v54)) N ((((p0.set ((p1).toNat) v1).set ((p3).toNat) v2).set ((v6).toNat) v26).set ((v14).toNat) v27, (IntKind.wrap .i64 (v6 + 1)), (IntKind.wrap .i64 (v14 - 1))))) N (IntKind.wrap .i64 (p2 - 1))) N (IntKind.wrap .i64 (p1 + 1))
def BC (N : Nat) (p4 : (Ah × Ah) → Option Int) (rc : (List Ah) → Int → Int → Int → ((Ah × Ah) → Option Int) → Option ((List Ah))) (j1 : Unit → Option ((List Ah))) : Nat → ((List Ah) × Int × Int × Int × Bool × Bool) → Option ((List Ah))
 | 0, _ => none
 | n1 + 1, v1 =>
  AO ((decide ((IntKind.wrap .i64 (v1.2.2.1 - v1.2.1)) ≤ 12)))
   ((Dy N v1.1 v1.2.1 v1.2.2.1 p4).bind fun v4 =>
   some v4)
   (AO ((v1.2.2.2.1 == 0))
    ((D8 N v1.1 v1.2.1 v1.2.2.1 p4).bind fun v6 =>
    some v6)
    (Bd (fun (v7 : (List Ah) × Int) =>
     (DM N v7.1 v1.2.1 v1.2.2.1 p4).bind fun v10 =>
     Bd (fun (v11 : (List Ah) × Int × Int) =>
      Bd (fun (v14 : (List Ah)) =>
       Bd (fun (v21 : Bool) =>
        AO v21
         ((Dq N v14 v1.2.1 v1.2.2.1 v11.2.1 p4).bind fun v27 =>
         BC N p4 rc j1 n1 (v27.2, v27.1, v1.2.2.1, v7.2, v1.2.2.2.2.1, v1.2.2.2.2.2))
         ((DZ N v14 v1.2.1 v1.2.2.1 v11.2.1 p4).bind fun v28 =>
         AO ((decide ((IntKind.wrap .i64 (v28.1 - v1.2.1)) < (IntKind.wrap .i64 (v1.2.2.1 - v28.1)))))
          ((rc v28.2.2 v1.2.1 v28.1 v7.2 p4).bind fun v30 =>
          BC N p4 rc j1 n1 (v30, (IntKind.wrap .i64 (v28.1 + 1)), v1.2.2.1, v7.2, (decide ((IntKind.wrap .i64 (Int.tdiv ((IntKind.wrap .i64 (v1.2.2.1 - v1.2.1))) 8)) ≤ (IntKind.wrap .i64 (v28.1 - v1.2.1)))), v28.2.1))
          ((rc v28.2.2 ((IntKind.wrap .i64 (v28.1 + 1))) v1.2.2.1 v7.2 p4).bind fun v31 =>
          BC N p4 rc j1 n1 (v31, v1.2.1, v28.1, v7.2, (decide ((IntKind.wrap .i64 (Int.tdiv ((IntKind.wrap .i64 (v1.2.2.1 - v1.2.1))) 8)) ≤ (IntKind.wrap .i64 (v1.2.2.1 - v28.1)))), v28.2.1))))
       fun j21 =>
       AO ((decide (0 < v1.2.1)))
        ((A5 v14 ((IntKind.wrap .i64 (v1.2.1 - 1)))).bind fun v23 =>
        (A5 v14 v11.2.1).bind fun v24 =>
        (p4 ((v23, v24))).bind fun v25 =>
        j21 (!((decide (v25 < 0)))))
        (j21 false))
      fun j14 =>
      Bd (fun (v15 : Bool) =>
       AO v15
        ((CQ N v11.1 v1.2.1 v1.2.2.1 p4).bind fun v19 =>
        AO v19.1
         (some v19.2)
         (j14 v19.2))
        (j14 v11.1))
      fun j15 =>
      AO v1.2.2.2.2.1
       (AO v1.2.2.2.2.2
        (j15 (v11.2.2 == 1))
        (j15 false))
       (j15 false))
     fun j11 =>
     AO ((v10.2 == 2))
      ((DI N v7.1 v1.2.1 v1.2.2.1 p4).bind fun v13 =>
      j11 (v13, (IntKind.wrap .i64 ((IntKind.wrap .i64 (v1.2.2.1 - 1)) - (IntKind.wrap .i64 (v10.1 - v1.2.1)))), 1))
      (j11 (v7.1, v10.1, v10.2)))
    fun j7 =>
    AO ((!v1.2.2.2.2.1))
     ((DC N v1.1 v1.2.1 v1.2.2.1 p4).bind fun v9 =>
     j7 (v9, (IntKind.wrap .i64 (v1.2.2.2.1 - 1))))
     (j7 (v1.1, v1.2.2.2.1))))
def D2 (N : Nat) (rc : (List Ah) → Int → Int → Int → ((Ah × Ah) → Option Int) → Option ((List Ah))) (p0 : List Ah) (p1 : Int) (p2 : Int) (p3 : Int) (p4 : (Ah × Ah) → Option Int) : Option ((List Ah)) :=
 BC N p4 rc (fun (_ : Unit) =>
  none) N (p0, p1, p2, p3, true, true)
def Dc (N : Nat) : Nat → (List Ah) → Int → Int → Int → ((Ah × Ah) → Option Int) → Option ((List Ah))
 | 0, _, _, _, _, _ => none
 | k + 1, p0, p1, p2, p3, p4 => D2 N (Dc N k) p0 p1 p2 p3 p4
def Fg (N : Nat) (p0 : List Ah) (p1 : Int) (p2 : Int) (p3 : Int) (p4 : (Ah × Ah) → Option Int) : Option ((List Ah)) := Dc N N p0 p1 p2 p3 p4
def D0 (N : Nat) (p0 : List Ah) (p1 : (Ah × Ah) → Option Int) : Option ((List Ah)) :=
 (FN N ((IntKind.wrap .u64 ((p0.length : Int))))).bind fun v1 =>
 (Fg N p0 0 ((p0.length : Int)) v1 p1).bind fun v2 =>
 some v2
def Gv (_ : Nat) (p0 : Int) : Option Bool :=
 some ((p0 != p0))
def Eu (N : Nat) (p0 : Int) (p1 : Int) : Option Int :=
 (Gv N p0).bind fun v1 =>
 (Gv N p1).bind fun v2 =>
 AO v1
  (AO v2
   (some 0)
   (some ((-1))))
  (AO v2
   (some 1)
   (AO ((decide (p0 < p1)))
    (some ((-1)))
    (AO ((decide (p1 < p0)))
     (some 1)
     (some 0))))
def DW (N : Nat) (p0 : List Int) (p1 : List Int) (j1 : Unit → Option Int) : Nat → Int → Option Int
 | 0, _ => none
 | n1 + 1, v1 =>
  AO ((decide (v1 < (p0.length : Int))))
   ((A5 p0 v1).bind fun v4 =>
   AO ((decide ((p1.length : Int) ≤ v1)))
    (some 1)
    ((A5 p1 v1).bind fun v6 =>
    (Eu N v4 v6).bind fun v7 =>
    AO ((v7 != 0))
     (some v7)
     (DW N p0 p1 j1 n1 (IntKind.wrap .i64 (v1 + 1)))))
   (j1 ())
def Er (N : Nat) (p0 : List Int) (p1 : List Int) : Option Int :=
 DW N p0 p1 (fun (_ : Unit) =>
  AO ((decide ((p0.length : Int) < (p1.length : Int))))
   (some ((-1)))
   (some 0)) N 0
def Fi (_ : Nat) (p0 : Int) : Option Bool :=
 some ((p0 != p0))
def FZ (N : Nat) (p0 : Int) (p1 : Int) : Option Int :=
 (Fi N p0).bind fun v1 =>
 (Fi N p1).bind fun v2 =>
 AO v1
  (AO v2
   (some 0)
   (some ((-1))))
  (AO v2
   (some 1)
   (AO ((decide (p0 < p1)))
    (some ((-1)))
    (AO ((decide (p1 < p0)))
     (some 1)
     (some 0))))
def CW (N : Nat) (p0 : List Int) (p1 : List Int) (j1 : Unit → Option Int) : Nat → Int → Option Int
 | 0, _ => none
 | n1 + 1, v1 =>
  AO ((decide (v1 < (p0.length : Int))))
   ((A5 p0 v1).bind fun v4 =>
   AO ((decide ((p1.length : Int) ≤ v1)))
    (some 1)
    ((A5 p1 v1).bind fun v6 =>
    (FZ N v4 v6).bind fun v7 =>
    AO ((v7 != 0))
     (some v7)
     (CW N p0 p1 j1 n1 (IntKind.wrap .i64 (v1 + 1)))))
   (j1 ())
def D9 (N : Nat) (p0 : List Int) (p1 : List Int) : Option Int :=
 CW N p0 p1 (fun (_ : Unit) =>
  AO ((decide ((p0.length : Int) < (p1.length : Int))))
   (some ((-1)))
   (some 0)) N 0
def GE (N : Nat) (p0 : List Int) (j1 : Unit → Option Int) : Nat → Int → Option Int
 | 0, _ => none
 | n1 + 1, v1 =>
  AO ((decide (v1 < (p0.length : Int))))
   ((A5 p0 v1).bind fun v4 =>
   AO ((v4 != 0))
    (some v4)
    (GE N p0 j1 n1 (IntKind.wrap .i64 (v1 + 1))))
   (j1 ())
def H5 (N : Nat) (p0 : List Int) : Option Int :=
 GE N p0 (fun (_ : Unit) =>
  some 0) N 0
def E7 (N : Nat) (p0 : Ah) (p1 : Ah) : Option Int :=
 (Er N p0.fBase p1.fBase).bind fun v1 =>
 (Er N p0.fNext p1.fNext).bind fun v2 =>
 (D9 N p0.fHeld p1.fHeld).bind fun v3 =>
 (H5 N (([v1, v2, v3] : List Int))).bind fun v4 =>
 some v4
def FH (N : Nat) (v10 : (List AH) × (List Ah)) (j11 : ((List Ah) × (List (ByteArray × Bool))) → Option ((List Ah) × Int)) : Nat → ((List Ah) × (List (ByteArray × Bool)) × Int) → Option ((List Ah) × Int)
 | 0, _ => none
 | n11 + 1, v11 =>
  AO ((decide (v11.2.2 < (v10.2.length : Int))))
   (Bd (fun (v14 : (List Ah) × (List (ByteArray × Bool))) =>
    FH N v10 j11 n11 (v14.1, v14.2, (IntKind.wrap .i64 (v11.2.2 + 1))))
   fun j14 =>
   (A5 v10.2 v11.2.2).bind fun v15 =>
   (Hz N v15).bind fun v16 =>
   AO ((!(((Lo v16 v11.2.1).getD false))))
    ((Hz N v15).bind fun v18 =>
    (Fu (v11.1.length + (([v15] : List Ah)).length ≤ Gf)).bind fun _ =>
    j14 (v11.1 ++ (([v15] : List Ah)), LA v18 true v11.2.1))
    (j14 (v11.1, v11.2.1)))
   (j11 (v11.1, v11.2.1))
def FU (N : Nat) (p0 : Al) (j6 : ((List Ah)) → Option ((List Ah) × Int)) : Nat → ((List Ah) × (List (ByteArray × Bool)) × Int) → Option ((List Ah) × Int)
 | 0, _ => none
 | n6 + 1, v6 =>
  AO ((decide (v6.2.2 < (v6.1.length : Int))))
   ((A5 v6.1 v6.2.2).bind fun v9 =>
   (Jo N p0 v9).bind fun v10 =>
   FH N v10 (fun (v12 : (List Ah) × (List (ByteArray × Bool))) =>
    AO ((decide (20000 < (v12.1.length : Int))))
     (some (([] : List Ah), 3))
     (FU N p0 j6 n6 (v12.1, v12.2, (IntKind.wrap .i64 (v6.2.2 + 1))))) N (v6.1, v6.2.1, 0))
   (j6 v6.1)
def Ie (N : Nat) (p0 : Al) : Option ((List Ah) × Int) :=
 (IN N p0).bind fun v1 =>
 Bd (fun (v2 : Bool) =>
  AO v2
   (some (([] : List Ah), v1.2.2))
   ((Hz N v1.1).bind fun v5 =>
   FU N p0 (fun (v7 : (List Ah)) =>
    (D0 N v7 ((fun (x : Ah × Ah) => E7 N x.1 x.2))).bind fun v21 =>
    some (v21, 0)) N (([v1.1] : List Ah), LA v5 true (([] : List (ByteArray × Bool))), 0)))
 fun j2 =>
 AO ((v1.2.2 != 0))
  (j2 true)
  (j2 (!v1.2.1))
def Eb (N : Nat) (p0 : List Int) (p1 : List Int) (j2 : Unit → Option Bool) : Nat → Int → Option Bool
 | 0, _ => none
 | n2 + 1, v2 =>
  AO ((decide (v2 < (p0.length : Int))))
   ((A5 p0 v2).bind fun v5 =>
   (A5 p1 v2).bind fun v6 =>
   AO ((v5 != v6))
    (some false)
    (Eb N p0 p1 j2 n2 (IntKind.wrap .i64 (v2 + 1))))
   (j2 ())
def FJ (N : Nat) (p0 : List Int) (p1 : List Int) : Option Bool :=
 AO (((p0.length : Int) != (p1.length : Int)))
  (some false)
  (Eb N p0 p1 (fun (_ : Unit) =>
   some true) N 0)
def DF (N : Nat) (p0 : List Int) (p1 : Int → Option Bool) (j1 : Unit → Option Int) : Nat → Int → Option Int
 | 0, _ => none
 | n1 + 1, v1 =>
  AO ((decide (v1 < (p0.length : Int))))
   ((A5 p0 v1).bind fun v4 =>
   (p1 v4).bind fun v5 =>
   AO v5
    (some v1)
    (DF N p0 p1 j1 n1 (IntKind.wrap .i64 (v1 + 1))))
   (j1 ())
def ET (N : Nat) (p0 : List Int) (p1 : Int → Option Bool) : Option Int :=
 DF N p0 p1 (fun (_ : Unit) =>
  some ((-1))) N 0
def Ey (N : Nat) (p0 : List Int) (p1 : Int → Option Bool) : Option Bool :=
 (ET N p0 p1).bind fun v1 =>
 some ((decide (0 ≤ v1)))
def H6 (_ : Nat) (p0 : Int) : Option Bool :=
 some ((decide (0 ≤ p0)))
def I1 (N : Nat) (p0 : Al) (p1 : Ah) : Option Bool :=
 Bd (fun (v1 : Bool) =>
  some v1)
 fun j1 =>
 (EW N p0 p1).bind fun v2 =>
 AO ((v2 == 0))
  ((FJ N p1.fBase p0.fTarget).bind fun v4 =>
  AO v4
   ((Ey N p1.fNext ((fun (x : Int) => H6 N x))).bind fun v6 =>
   j1 (!v6))
   (j1 false))
  (j1 false)
def Fr (N : Nat) (p0 : Ah) (p1 : List Int) (p2 : List Int) (p3 : List Int) (p4 : List AQ) : Option Bool :=
 (I1 N ((Al.mk p1 p2 p3 p4)) p0).bind fun v1 =>
 some v1
def CE (N : Nat) (p0 : List Ah) (p1 : Ah → Option Bool) (j1 : Unit → Option Int) : Nat → Int → Option Int
 | 0, _ => none
 | n1 + 1, v1 =>
  AO ((decide (v1 < (p0.length : Int))))
   ((A5 p0 v1).bind fun v4 =>
   (p1 v4).bind fun v5 =>
   AO v5
    (some v1)
    (CE N p0 p1 j1 n1 (IntKind.wrap .i64 (v1 + 1))))
   (j1 ())
def DU (N : Nat) (p0 : List Ah) (p1 : Ah → Option Bool) : Option Int :=
 CE N p0 p1 (fun (_ : Unit) =>
  some ((-1))) N 0
def DB (N : Nat) (p0 : List Ah) (p1 : Ah → Option Bool) : Option Bool :=
 (DU N p0 p1).bind fun v1 =>
 some ((decide (0 ≤ v1)))
def Ig (N : Nat) (p0 : Al) : Option ((List Ah) × Int) :=
 (Ie N p0).bind fun v1 =>
 AO ((v1.2 != 0))
  (some (([] : List Ah), v1.2))
  ((DB N v1.1 ((fun (x : Ah) => Fr N x p0.fVersions p0.fNow p0.fTarget p0.fTables))).bind fun v3 =>
  AO v3
   (some (([] : List Ah), 15))
   (some (v1.1, 0)))
def Fh (N : Nat) (p0 : Al) (p1 : Ah) (v1 : (List AH) × Int) (j3 : ((List CG)) → Option ((List CG) × Int)) : Nat → ((List CG) × Int) → Option ((List CG) × Int)
 | 0, _ => none
 | n3 + 1, v3 =>
  AO ((decide (v3.2 < (v1.1.length : Int))))
   (Bd (fun (v6 : (List CG)) =>
    Fh N p0 p1 v1 j3 n3 (v6, (IntKind.wrap .i64 (v3.2 + 1))))
   fun j6 =>
   (A5 v1.1 v3.2).bind fun v7 =>
   (GT N p0 p1 v7).bind fun v8 =>
   (Iw N p0 v8.1).bind fun v9 =>
   AO ((v9.2.2 == 0))
    ((Fu (v3.1.length + (([(CG.mk v7 v9.1 v9.2.1)] : List CG)).length ≤ Gf)).bind fun _ =>
    j6 (v3.1 ++ (([(CG.mk v7 v9.1 v9.2.1)] : List CG))))
    (j6 v3.1))
   (j3 v3.1)
def Hy (N : Nat) (p0 : Al) (p1 : Ah) : Option ((List CG) × Int) :=
 (F1 N p0 p1).bind fun v1 =>
 AO ((v1.2 != 0))
  (some (([] : List CG), v1.2))
  (Fh N p0 p1 v1 (fun (v4 : (List CG)) =>
   some (v4, 0)) N (([] : List CG), 0))
def FD (N : Nat) (p0 : Al) (p1 : List Ah) (j3 : ((List CG)) → Option ((List CG) × Int)) : Nat → ((List CG) × Int) → Option ((List CG) × Int)
 | 0, _ => none
 | n3 + 1, v3 =>
  AO ((decide (v3.2 < (p1.length : Int))))
   ((A5 p1 v3.2).bind fun v6 =>
   (Hy N p0 v6).bind fun v7 =>
   AO ((v7.2 != 0))
    (some (([] : List CG), v7.2))
    ((Fu (v3.1.length + v7.1.length ≤ Gf)).bind fun _ =>
    FD N p0 p1 j3 n3 (v3.1 ++ v7.1, (IntKind.wrap .i64 (v3.2 + 1)))))
   (j3 v3.1)
def GI (N : Nat) (p0 : Al) (p1 : List Ah) : Option ((List CG) × Int) :=
 (CS N p0).bind fun v1 =>
 AO ((v1 != 0))
  (some (([] : List CG), v1))
  (FD N p0 p1 (fun (v4 : (List CG)) =>
   some (v4, 0)) N (([] : List CG), 0))
def BO (N : Nat) (p1 : Int) (p3 : (Af × Af) → Option Int) (j4 : ((List Af)) → Option ((List Af))) : Nat → ((List Af) × Int) → Option ((List Af))
 | 0, _ => none
 | n4 + 1, v4 =>
  Bd (fun (v6 : Bool) =>
   AO v6
    ((A5 v4.1 ((IntKind.wrap .i64 (v4.2 - 1)))).bind fun v12 =>
    (A5 v4.1 v4.2).bind fun v13 =>
    (A5 v4.1 v4.2).bind fun _ =>
    (A5 (v4.1.set ((v4.2).toNat) v12) ((IntKind.wrap .i64 (v4.2 - 1)))).bind fun _ =>
    BO N p1 p3 j4 n4 ((v4.1.set ((v4.2).toNat) v12).set (((IntKind.wrap .i64 (v4.2 - 1))).toNat) v13, (IntKind.wrap .i64 (v4.2 - 1))))
    (j4 v4.1))
  fun j6 =>
  AO ((decide (p1 < v4.2)))
   ((A5 v4.1 v4.2).bind fun v8 =>
   (A5 v4.1 ((IntKind.wrap .i64 (v4.2 - 1)))).bind fun v9 =>
   (p3 ((v8, v9))).bind fun v10 =>
   j6 (decide (v10 < 0)))
   (j6 false)
def BP (N : Nat) (p1 : Int) (p2 : Int) (p3 : (Af × Af) → Option Int) (j1 : ((List Af)) → Option ((List Af))) : Nat → ((List Af) × Int) → Option ((List Af))
 | 0, _ => none
 | n1 + 1, v1 =>
  AO ((decide (v1.2 < p2)))
   (BO N p1 p3 (fun (v5 : (List Af)) =>
    BP N p1 p2 p3 j1 n1 (v5, (IntKind.wrap .i64 (v1.2 + 1)))) N (v1.1, v1.2))
   (j1 v1.1)
def C4 (N : Nat) (p0 : List Af) (p1 : Int) (p2 : Int) (p3 : (Af × Af) → Option Int) : Option ((List Af)) :=
 BP N p1 p2 p3 (fun (v2 : (List Af)) =>
  some v2) N (p0, (IntKind.wrap .i64 (p1 + 1)))
def Cm (N : Nat) (p2 : Int) (p3 : Int) (p4 : (Af × Af) → Option Int) (j1 : ((List Af)) → Option ((List Af))) : Nat → ((List Af) × Int) → Option ((List Af))
 | 0, _ => none
 | n1 + 1, v1 =>
  AO ((decide (p2 ≤ (IntKind.wrap .i64 ((IntKind.wrap .i64 (2 * v1.2)) + 1)))))
   (j1 v1.1)
   (Bd (fun (v4 : Int) =>
    (A5 v1.1 ((IntKind.wrap .i64 (p3 + v1.2)))).bind fun v11 =>
    (A5 v1.1 ((IntKind.wrap .i64 (p3 + v4)))).bind fun v12 =>
    (p4 ((v11, v12))).bind fun v13 =>
    AO ((!((decide (v13 < 0)))))
     (some v1.1)
     ((A5 v1.1 ((IntKind.wrap .i64 (p3 + v4)))).bind fun v15 =>
     (A5 v1.1 ((IntKind.wrap .i64 (p3 + v1.2)))).bind fun v16 =>
     (A5 v1.1 ((IntKind.wrap .i64 (p3 + v1.2)))).bind fun _ =>
     (A5 (v1.1.set (((IntKind.wrap .i64 (p3 + v1.2))).toNat) v15) ((IntKind.wrap .i64 (p3 + v4)))).bind fun _ =>
     Cm N p2 p3 p4 j1 n1 ((v1.1.set (((IntKind.wrap .i64 (p3 + v1.2))).toNat) v15).set (((IntKind.wrap .i64 (p3 + v4))).toNat) v16, v4)))
   fun j4 =>
   Bd (fun (v5 : Bool) =>
    AO v5
     (j4 (IntKind.wrap .i64 ((IntKind.wrap .i64 ((IntKind.wrap .i64 (2 * v1.2)) + 1)) + 1)))
     (j4 (IntKind.wrap .i64 ((IntKind.wrap .i64 (2 * v1.2)) + 1))))
   fun j5 =>
   AO ((decide ((IntKind.wrap .i64 ((IntKind.wrap .i64 ((IntKind.wrap .i64 (2 * v1.2)) + 1)) + 1)) < p2)))
    ((A5 v1.1 ((IntKind.wrap .i64 (p3 + (IntKind.wrap .i64 ((IntKind.wrap .i64 (2 * v1.2)) + 1)))))).bind fun v7 =>
    (A5 v1.1 ((IntKind.wrap .i64 ((IntKind.wrap .i64 (p3 + (IntKind.wrap .i64 ((IntKind.wrap .i64 (2 * v1.2)) + 1)))) + 1)))).bind fun v8 =>
    (p4 ((v7, v8))).bind fun v9 =>
    j5 (decide (v9 < 0)))
    (j5 false))
def CI (N : Nat) (p0 : List Af) (p1 : Int) (p2 : Int) (p3 : Int) (p4 : (Af × Af) → Option Int) : Option ((List Af)) :=
 Cm N p2 p3 p4 (fun (v2 : (List Af)) =>
  some v2) N (p0, p1)
def Cg (N : Nat) (p1 : Int) (p2 : Int) (p3 : (Af × Af) → Option Int) (j1 : ((List Af)) → Option ((List Af))) : Nat → ((List Af) × Int) → Option ((List Af))
 | 0, _ => none
 | n1 + 1, v1 =>
  AO ((decide (0 ≤ v1.2)))
   ((CI N v1.1 v1.2 ((IntKind.wrap .i64 (p2 - p1))) p1 p3).bind fun v4 =>
   Cg N p1 p2 p3 j1 n1 (v4, (IntKind.wrap .i64 (v1.2 - 1))))
   (j1 v1.1)
def Ck (N : Nat) (p1 : Int) (p3 : (Af × Af) → Option Int) (j5 : ((List Af)) → Option ((List Af))) : Nat → ((List Af) × Int) → Option ((List Af))
 | 0, _ => none
 | n5 + 1, v5 =>
  AO ((decide (0 ≤ v5.2)))
   ((A5 v5.1 ((IntKind.wrap .i64 (p1 + v5.2)))).bind fun v8 =>
   (A5 v5.1 p1).bind fun v9 =>
   (A5 v5.1 p1).bind fun _ =>
   (A5 (v5.1.set ((p1).toNat) v8) ((IntKind.wrap .i64 (p1 + v5.2)))).bind fun _ =>
   (CI N ((v5.1.set ((p1).toNat) v8).set (((IntKind.wrap .i64 (p1 + v5.2))).toNat) v9) 0 v5.2 p1 p3).bind fun v12 =>
   Ck N p1 p3 j5 n5 (v12, (IntKind.wrap .i64 (v5.2 - 1))))
   (j5 v5.1)
def DA (N : Nat) (p0 : List Af) (p1 : Int) (p2 : Int) (p3 : (Af × Af) → Option Int) : Option ((List Af)) :=
 Cg N p1 p2 p3 (fun (v2 : (List Af)) =>
  Ck N p1 p3 (fun (v6 : (List Af)) =>
   some v6) N (v2, (IntKind.wrap .i64 ((IntKind.wrap .i64 (p2 - p1)) - 1)))) N (p0, (IntKind.wrap .i64 (Int.tdiv ((IntKind.wrap .i64 ((IntKind.wrap .i64 (p2 - p1)) - 1))) 2)))
def BN (N : Nat) (p1 : Int) (p2 : Int) (v2 : Int) (j3 : ((List Af)) → Option ((List Af))) : Nat → ((List Af) × Int × Int) → Option ((List Af))
 | 0, _ => none
 | n3 + 1, v3 =>
  AO ((decide (v3.2.2 ≤ (IntKind.wrap .i64 ((IntKind.wrap .i64 (p1 + (IntKind.wrap .i64 ((IntKind.wrap .i64 (Int.tdiv ((IntKind.wrap .i64 (p2 - p1))) 4)) * 2)))) + 1)))))
   ((EP N v3.2.1).bind fun v6 =>
   Bd (fun (v7 : Int) =>
    (A5 v3.1 ((IntKind.wrap .i64 (p1 + v7)))).bind fun v9 =>
    (A5 v3.1 v3.2.2).bind fun v10 =>
    (A5 v3.1 v3.2.2).bind fun _ =>
    (A5 (v3.1.set ((v3.2.2).toNat) v9) ((IntKind.wrap .i64 (p1 + v7)))).bind fun _ =>
    BN N p1 p2 v2 j3 n3 ((v3.1.set ((v3.2.2).toNat) v9).set (((IntKind.wrap .i64 (p1 + v7))).toNat) v10, v6.2, (IntKind.wrap .i64 (v3.2.2 + 1))))
   fun j7 =>
   AO ((decide ((IntKind.wrap .i64 (p2 - p1)) ≤ (IntKind.wrap .i64 ((Gn .u64 v6.1 ((IntKind.wrap .u64 (v2 - 1)))))))))
    (j7 (IntKind.wrap .i64 ((IntKind.wrap .i64 ((Gn .u64 v6.1 ((IntKind.wrap .u64 (v2 - 1)))))) - (IntKind.wrap .i64 (p2 - p1)))))
    (j7 (IntKind.wrap .i64 ((Gn .u64 v6.1 ((IntKind.wrap .u64 (v2 - 1))))))))
   (j3 v3.1)
def C5 (N : Nat) (p0 : List Af) (p1 : Int) (p2 : Int) (_ : (Af × Af) → Option Int) : Option ((List Af)) :=
 AO ((decide (8 ≤ (IntKind.wrap .i64 (p2 - p1)))))
  ((ED N ((IntKind.wrap .i64 (p2 - p1)))).bind fun v2 =>
  BN N p1 p2 v2 (fun (v4 : (List Af)) =>
   some v4) N (p0, (IntKind.wrap .u64 ((IntKind.wrap .i64 (p2 - p1)))), (IntKind.wrap .i64 ((IntKind.wrap .i64 (p1 + (IntKind.wrap .i64 ((IntKind.wrap .i64 (Int.tdiv ((IntKind.wrap .i64 (p2 - p1))) 4)) * 2)))) - 1))))
  (some p0)
def B4 (_ : Nat) (p0 : List Af) (p1 : Int) (p2 : Int) (p3 : Int) (p4 : (Af × Af) → Option Int) : Option (Int × Int × Int) :=
 (A5 p0 p2).bind fun v1 =>
 (A5 p0 p1).bind fun v2 =>
 (p4 ((v1, v2))).bind fun v3 =>
 AO ((decide (v3 < 0)))
  (some (p2, p1, (IntKind.wrap .i64 (p3 + 1))))
  (some (p1, p2, p3))
def CX (N : Nat) (p0 : List Af) (p1 : Int) (p2 : Int) (p3 : Int) (p4 : Int) (p5 : (Af × Af) → Option Int) : Option (Int × Int) :=
 (B4 N p0 p1 p2 p4 p5).bind fun v1 =>
 (B4 N p0 v1.2.1 p3 v1.2.2 p5).bind fun v2 =>
 (B4 N p0 v1.1 v2.1 v2.2.2 p5).bind fun v3 =>
 some (v3.2.1, v3.2.2)
def Bn (N : Nat) (p0 : List Af) (p1 : Int) (p2 : Int) (p3 : (Af × Af) → Option Int) : Option (Int × Int) :=
 (CX N p0 ((IntKind.wrap .i64 (p1 - 1))) p1 ((IntKind.wrap .i64 (p1 + 1))) p2 p3).bind fun v1 =>
 some (v1.1, v1.2)
def Dg (N : Nat) (p0 : List Af) (p1 : Int) (p2 : Int) (p3 : (Af × Af) → Option Int) : Option (Int × Int) :=
 Bd (fun (v1 : Int × Int) =>
  AO ((v1.1 == 0))
   (some (v1.2, 1))
   (AO ((v1.1 == 12))
    (some (v1.2, 2))
    (some (v1.2, 0))))
 fun j1 =>
 AO ((decide (8 ≤ (IntKind.wrap .i64 (p2 - p1)))))
  (Bd (fun (v3 : Int × Int × Int × Int) =>
   (CX N p0 v3.2.1 v3.2.2.1 v3.2.2.2 v3.1 p3).bind fun v8 =>
   j1 (v8.2, v8.1))
  fun j3 =>
  AO ((decide (50 ≤ (IntKind.wrap .i64 (p2 - p1)))))
   ((Bn N p0 ((IntKind.wrap .i64 (p1 + (IntKind.wrap .i64 ((IntKind.wrap .i64 (Int.tdiv ((IntKind.wrap .i64 (p2 - p1))) 4)) * 1))))) 0 p3).bind fun v5 =>
   (Bn N p0 ((IntKind.wrap .i64 (p1 + (IntKind.wrap .i64 ((IntKind.wrap .i64 (Int.tdiv ((IntKind.wrap .i64 (p2 - p1))) 4)) * 2))))) v5.2 p3).bind fun v6 =>
   (Bn N p0 ((IntKind.wrap .i64 (p1 + (IntKind.wrap .i64 ((IntKind.wrap .i64 (Int.tdiv ((IntKind.wrap .i64 (p2 - p1))) 4)) * 3))))) v6.2 p3).bind fun v7 =>
   j3 (v7.2, v5.1, v6.1, v7.1))
   (j3 (0, (IntKind.wrap .i64 (p1 + (IntKind.wrap .i64 ((IntKind.wrap .i64 (Int.tdiv ((IntKind.wrap .i64 (p2 - p1))) 4)) * 1)))), (IntKind.wrap .i64 (p1 + (IntKind.wrap .i64 ((IntKind.wrap .i64 (Int.tdiv ((IntKind.wrap .i64 (p2 - p1))) 4)) * 2)))), (IntKind.wrap .i64 (p1 + (IntKind.wrap .i64 ((IntKind.wrap .i64 (Int.tdiv ((IntKind.wrap .i64 (p2 - p1))) 4)) * 3)))))))
  (j1 (0, (IntKind.wrap .i64 (p1 + (IntKind.wrap .i64 ((IntKind.wrap .i64 (Int.tdiv ((IntKind.wrap .i64 (p2 - p1))) 4)) * 2))))))
def BS (N : Nat) (j1 : ((List Af)) → Option ((List Af))) : Nat → ((List Af) × Int × Int) → Option ((List Af))
 | 0, _ => none
 | n1 + 1, v1 =>
  AO ((decide (v1.2.1 < v1.2.2)))
   ((A5 v1.1 v1.2.2).bind fun v4 =>
   (A5 v1.1 v1.2.1).bind fun v5 =>
   (A5 v1.1 v1.2.1).bind fun _ =>
   (A5 (v1.1.set ((v1.2.1).toNat) v4) v1.2.2).bind fun _ =>
   BS N j1 n1 ((v1.1.set ((v1.2.1).toNat) v4).set ((v1.2.2).toNat) v5, (IntKind.wrap .i64 (v1.2.1 + 1)), (IntKind.wrap .i64 (v1.2.2 - 1))))
   (j1 v1.1)
def Dd (N : Nat) (p0 : List Af) (p1 : Int) (p2 : Int) (_ : (Af × Af) → Option Int) : Option ((List Af)) :=
 BS N (fun (v2 : (List Af)) =>
  some v2) N (p0, p1, (IntKind.wrap .i64 (p2 - 1)))
def Bk (N : Nat) (p2 : Int) (p3 : (Af × Af) → Option Int) (v1 : (List Af) × Int × Int) (j5 : Int → Option (Bool × (List Af))) : Nat → Int → Option (Bool × (List Af))
 | 0, _ => none
 | n5 + 1, v5 =>
  Bd (fun (v7 : Bool) =>
   AO v7
    (Bk N p2 p3 v1 j5 n5 (IntKind.wrap .i64 (v5 + 1)))
    (j5 v5))
  fun j7 =>
  AO ((decide (v5 < p2)))
   ((A5 v1.1 v5).bind fun v9 =>
   (A5 v1.1 ((IntKind.wrap .i64 (v5 - 1)))).bind fun v10 =>
   (p3 ((v9, v10))).bind fun v11 =>
   j7 (!((decide (v11 < 0)))))
   (j7 false)
def Bh (N : Nat) (p3 : (Af × Af) → Option Int) (j21 : ((List Af)) → Option (Bool × (List Af))) : Nat → ((List Af) × Int) → Option (Bool × (List Af))
 | 0, _ => none
 | n21 + 1, v21 =>
  AO ((decide (1 ≤ v21.2)))
   ((A5 v21.1 v21.2).bind fun v24 =>
   (A5 v21.1 ((IntKind.wrap .i64 (v21.2 - 1)))).bind fun v25 =>
   (p3 ((v24, v25))).bind fun v26 =>
   AO ((!((decide (v26 < 0)))))
    (j21 v21.1)
    ((A5 v21.1 ((IntKind.wrap .i64 (v21.2 - 1)))).bind fun v28 =>
    (A5 v21.1 v21.2).bind fun v29 =>
    (A5 v21.1 v21.2).bind fun _ =>
    (A5 (v21.1.set ((v21.2).toNat) v28) ((IntKind.wrap .i64 (v21.2 - 1)))).bind fun _ =>
    Bh N p3 j21 n21 ((v21.1.set ((v21.2).toNat) v28).set (((IntKind.wrap .i64 (v21.2 - 1))).toNat) v29, (IntKind.wrap .i64 (v21.2 - 1)))))
   (j21 v21.1)
def Bi (N : Nat) (p2 : Int) (p3 : (Af × Af) → Option Int) (j33 : ((List Af)) → Option (Bool × (List Af))) : Nat → ((List Af) × Int) → Option (Bool × (List Af))
 | 0, _ => none
 | n33 + 1, v33 =>
  AO ((decide (v33.2 < p2)))
   ((A5 v33.1 v33.2).bind fun v36 =>
   (A5 v33.1 ((IntKind.wrap .i64 (v33.2 - 1)))).bind fun v37 =>
   (p3 ((v36, v37))).bind fun v38 =>
   AO ((!((decide (v38 < 0)))))
    (j33 v33.1)
    ((A5 v33.1 ((IntKind.wrap .i64 (v33.2 - 1)))).bind fun v40 =>
    (A5 v33.1 v33.2).bind fun v41 =>
    (A5 v33.1 v33.2).bind fun _ =>
    (A5 (v33.1.set ((v33.2).toNat) v40) ((IntKind.wrap .i64 (v33.2 - 1)))).bind fun _ =>
    Bi N p2 p3 j33 n33 ((v33.1.set ((v33.2).toNat) v40).set (((IntKind.wrap .i64 (v33.2 - 1))).toNat) v41, (IntKind.wrap .i64 (v33.2 + 1)))))
   (j33 v33.1)
def Bj (N : Nat) (p1 : Int) (p2 : Int) (p3 : (Af × Af) → Option Int) (j1 : ((List Af)) → Option (Bool × (List Af))) : Nat → ((List Af) × Int × Int) → Option (Bool × (List Af))
 | 0, _ => none
 | n1 + 1, v1 =>
  AO ((decide (v1.2.2 < 5)))
   (Bd (fun (v4 : (List Af) × Int) =>
    Bj N p1 p2 p3 j1 n1 (v4.1, v4.2, (IntKind.wrap .i64 (v1.2.2 + 1))))
   fun j4 =>
   Bk N p2 p3 v1 (fun (v6 : Int) =>
    AO ((v6 == p2))
     (some (true, v1.1))
     (AO ((decide ((IntKind.wrap .i64 (p2 - p1)) < 50)))
      (some (false, v1.1))
      ((A5 v1.1 ((IntKind.wrap .i64 (v6 - 1)))).bind fun v15 =>
      (A5 v1.1 v6).bind fun v16 =>
      (A5 v1.1 v6).bind fun _ =>
      (A5 (v1.1.set ((v6).toNat) v15) ((IntKind.wrap .i64 (v6 - 1)))).bind fun _ =>
      Bd (fun (v19 : (List Af)) =>
       AO ((decide (2 ≤ (IntKind.wrap .i64 (p2 - v6)))))
        (Bi N p2 p3 (fun (v34 : (List Af)) =>
         j4 (v34, v6)) N (v19, (IntKind.wrap .i64 (v6 + 1))))
        (j4 (v19, v6)))
      fun j19 =>
      AO ((decide (2 ≤ (IntKind.wrap .i64 (v6 - p1)))))
       (Bh N p3 (fun (v22 : (List Af)) =>
        j19 v22) N ((v1.1.set ((v6).toNat) v15).set (((IntKind.wrap .i64 (v6 - 1))).toNat) v16, (IntKind.wrap .i64 (v6 - 1))))
       (j19 ((v1.1.set ((v6).toNat) v15).set (((IntKind.wrap .i64 (v6 - 1))).toNat) v16))))) N v1.2.1)
   (j1 v1.1)
def Cn (N : Nat) (p0 : List Af) (p1 : Int) (p2 : Int) (p3 : (Af × Af) → Option Int) : Option (Bool × (List Af)) :=
 Bj N p1 p2 p3 (fun (v2 : (List Af)) =>
  some (false, v2)) N (p0, (IntKind.wrap .i64 (p1 + 1)), 0)
def BL (N : Nat) (p1 : Int) (p4 : (Af × Af) → Option Int) (v5 : (List Af) × Int × Int) (j7 : Int → Option (Int × (List Af))) : Nat → Int → Option (Int × (List Af))
 | 0, _ => none
 | n7 + 1, v7 =>
  Bd (fun (v9 : Bool) =>
   AO v9
    (BL N p1 p4 v5 j7 n7 (IntKind.wrap .i64 (v7 + 1)))
    (j7 v7))
  fun j9 =>
  AO ((decide (v7 ≤ v5.2.2)))
   ((A5 v5.1 p1).bind fun v11 =>
   (A5 v5.1 v7).bind fun v12 =>
   (p4 ((v11, v12))).bind fun v13 =>
   j9 (!((decide (v13 < 0)))))
   (j9 false)
def BG (N : Nat) (p1 : Int) (p4 : (Af × Af) → Option Int) (v5 : (List Af) × Int × Int) (v8 : Int) (j15 : Int → Option (Int × (List Af))) : Nat → Int → Option (Int × (List Af))
 | 0, _ => none
 | n15 + 1, v15 =>
  Bd (fun (v17 : Bool) =>
   AO v17
    (BG N p1 p4 v5 v8 j15 n15 (IntKind.wrap .i64 (v15 - 1)))
    (j15 v15))
  fun j17 =>
  AO ((decide (v8 ≤ v15)))
   ((A5 v5.1 p1).bind fun v19 =>
   (A5 v5.1 v15).bind fun v20 =>
   (p4 ((v19, v20))).bind fun v21 =>
   j17 (decide (v21 < 0)))
   (j17 false)
def BJ (N : Nat) (p1 : Int) (p4 : (Af × Af) → Option Int) (j5 : ((List Af) × Int) → Option (Int × (List Af))) : Nat → ((List Af) × Int × Int) → Option (Int × (List Af))
 | 0, _ => none
 | n5 + 1, v5 =>
  BL N p1 p4 v5 (fun (v8 : Int) =>
   BG N p1 p4 v5 v8 (fun (v16 : Int) =>
    AO ((decide (v16 < v8)))
     (j5 (v5.1, v8))
     ((A5 v5.1 v16).bind fun v24 =>
     (A5 v5.1 v8).bind fun v25 =>
     (A5 v5.1 v8).bind fun _ =>
     (A5 (v5.1.set ((v8).toNat) v24) v16).bind fun _ =>
     BJ N p1 p4 j5 n5 ((v5.1.set ((v8).toNat) v24).set ((v16).toNat) v25, (IntKind.wrap .i64 (v8 + 1)), (IntKind.wrap .i64 (v16 - 1))))) N v5.2.2) N v5.2.1
def CZ (N : Nat) (p0 : List Af) (p1 : Int) (p2 : Int) (p3 : Int) (p4 : (Af × Af) → Option Int) : Option (Int × (List Af)) :=
 (A5 p0 p3).bind fun v1 =>
 (A5 p0 p1).bind fun v2 =>
 (A5 p0 p1).bind fun _ =>
 (A5 (p0.set ((p1).toNat) v1) p3).bind fun _ =>
 BJ N p1 p4 (fun (v6 : (List Af) × Int) =>
  some (v6.2, v6.1)) N ((p0.set ((p1).toNat) v1).set ((p3).toNat) v2, (IntKind.wrap .i64 (p1 + 1)), (IntKind.wrap .i64 (p2 - 1)))
def Cb (N : Nat) (p0 : List Af) (p1 : Int) (p2 : Int) (p3 : Int) (p4 : (Af × Af) → Option Int) (v1 : Af) (v2 : Af) (j5 : Int → Option (Int × Bool × (List Af))) : Nat → Int → Option (Int × Bool × (List Af))
 | 0, _ => none
 | n5 + 1, v5 =>
  Bd (fun (v7 : Bool) =>
   AO v7
    (Cb N p0 p1 p2 p3 p4 v1 v2 j5 n5 (IntKind.wrap .i64 (v5 + 1)))
    (j5 v5))
  fun j7 =>
  AO ((decide (v5 ≤ (IntKind.wrap .i64 (p2 - 1)))))
   ((A5 ((p0.set ((p1).toNat) v1).set ((p3).toNat) v2) v5).bind fun v9 =>
   (A5 ((p0.set ((p1).toNat) v1).set ((p3).toNat) v2) p1).bind fun v10 =>
   (p4 ((v9, v10))).bind fun v11 =>
   j7 (decide (v11 < 0)))
   (j7 false)
def B0 (N : Nat) (p0 : List Af) (p1 : Int) (p3 : Int) (p4 : (Af × Af) → Option Int) (v1 : Af) (v2 : Af) (v6 : Int) (j13 : Int → Option (Int × Bool × (List Af))) : Nat → Int → Option (Int × Bool × (List Af))
 | 0, _ => none
 | n13 + 1, v13 =>
  Bd (fun (v15 : Bool) =>
   AO v15
    (B0 N p0 p1 p3 p4 v1 v2 v6 j13 n13 (IntKind.wrap .i64 (v13 - 1)))
    (j13 v13))
  fun j15 =>
  AO ((decide (v6 ≤ v13)))
   ((A5 ((p0.set ((p1).toNat) v1).set ((p3).toNat) v2) v13).bind fun v17 =>
   (A5 ((p0.set ((p1).toNat) v1).set ((p3).toNat) v2) p1).bind fun v18 =>
   (p4 ((v17, v18))).bind fun v19 =>
   j15 (!((decide (v19 < 0)))))
   (j15 false)
def B1 (N : Nat) (p1 : Int) (p4 : (Af × Af) → Option Int) (v30 : (List Af) × Int × Int) (j32 : Int → Option (Int × Bool × (List Af))) : Nat → Int → Option (Int × Bool × (List Af))
 | 0, _ => none
 | n32 + 1, v32 =>
  Bd (fun (v34 : Bool) =>
   AO v34
    (B1 N p1 p4 v30 j32 n32 (IntKind.wrap .i64 (v32 + 1)))
    (j32 v32))
  fun j34 =>
  AO ((decide (v32 ≤ v30.2.2)))
   ((A5 v30.1 v32).bind fun v36 =>
   (A5 v30.1 p1).bind fun v37 =>
   (p4 ((v36, v37))).bind fun v38 =>
   j34 (decide (v38 < 0)))
   (j34 false)
def B2 (N : Nat) (p1 : Int) (p4 : (Af × Af) → Option Int) (v30 : (List Af) × Int × Int) (v33 : Int) (j40 : Int → Option (Int × Bool × (List Af))) : Nat → Int → Option (Int × Bool × (List Af))
 | 0, _ => none
 | n40 + 1, v40 =>
  Bd (fun (v42 : Bool) =>
   AO v42
    (B2 N p1 p4 v30 v33 j40 n40 (IntKind.wrap .i64 (v40 - 1)))
    (j40 v40))
  fun j42 =>
  AO ((decide (v33 ≤ v40)))
   ((A5 v30.1 v40).bind fun v44 =>
   (A5 v30.1 p1).bind fun v45 =>
   (p4 ((v44, v45))).bind fun v46 =>
   j42 (!((decide (v46 < 0)))))
   (j42 false)
def B3 (N : Nat) (p1 : Int) (p4 : (Af × Af) → Option Int) (j30 : ((List Af) × Int) → Option (Int × Bool × (List Af))) : Nat → ((List Af) × Int × Int) → Option (Int × Bool × (List Af))
 | 0, _ => none
 | n30 + 1, v30 =>
  B1 N p1 p4 v30 (fun (v33 : Int) =>
   B2 N p1 p4 v30 v33 (fun (v41 : Int) =>
    AO ((decide (v41 < v33)))
     (j30 (v30.1, v41))
     ((A5 v30.1 v41).bind fun v49 =>
     (A5 v30.1 v33).bind fun v50 =>
     (A5 v30.1 v33).bind fun _ =>
     (A5 (v30.1.set ((v33).toNat) v49) v41).bind fun _ =>
     B3 N p1 p4 j30 n30 ((v30.1.set ((v33).toNat) v49).set ((v41).toNat) v50, (IntKind.wrap .i64 (v33 + 1)), (IntKind.wrap .i64 (v41 - 1))))) N v30.2.2) N v30.2.1
def Dt (N : Nat) (p0 : List Af) (p1 : Int) (p2 : Int) (p3 : Int) (p4 : (Af × Af) → Option Int) : Option (Int × Bool × (List Af)) :=
 (A5 p0 p3).bind fun v1 =>
 (A5 p0 p1).bind fun v2 =>
 (A5 p0 p1).bind fun _ =>
 (A5 (p0.set ((p1).toNat) v1) p3).bind fun _ =>
 Cb N p0 p1 p2 p3 p4 v1 v2 (fun (v6 : Int) =>
  B0 N p0 p1 p3 p4 v1 v2 v6 (fun (v14 : Int) =>
   AO ((decide (v14 < v6)))
    ((A5 ((p0.set ((p1).toNat) v1).set ((p3).toNat) v2) p1).bind fun v22 =>
    (A5 ((p0.set ((p1).toNat) v1).set ((p3).toNat) v2) v14).bind fun v23 =>
    (A5 ((p0.set ((p1).toNat) v1).set ((p3).toNat) v2) v14).bind fun _ =>
    (A5 (((p0.set ((p1).toNat) v1).set ((p3).toNat) v2).set ((v14).toNat) v22) p1).bind fun _ =>
    some (v14, true, (((p0.set ((p1).toNat) v1).set ((p3).toNat) v2).set ((v14).toNat) v22).set ((p1).toNat) v23))
    ((A5 ((p0.set ((p1).toNat) v1).set ((p3).toNat) v2) v14).bind fun v26 =>
    (A5 ((p0.set ((p1).toNat) v1).set ((p3).toNat) v2) v6).bind fun v27 =>
    (A5 ((p0.set ((p1).toNat) v1).set ((p3).toNat) v2) v6).bind fun _ =>
    (A5 (((p0.set ((p1).toNat) v1).set ((p3).toNat) v2).set ((v6).toNat) v26) v14).bind fun _ =>
    B3 N p1 p4 (fun (v31 : (List Af) × Int) =>
     (A5 v31.1 p1).bind fun v53 =>
     (A5 v31.1 v31.2).bind fun v54 =>
     (A5 v31.1 v31.2).bind fun _ =>
     (A5 (v31.1.set ((v31.2).toNat) v53) p1).bind fun _ =>
     some (v31.2, false, (v31.1.set ((v31.2).toNat) v53).set ((p1).toNat) v54)) N ((((p0.set ((p1).toNat) v1).set ((p3).toNat) v2).set ((v6).toNat) v26).set ((v14).toNat) v27, (IntKind.wrap .i64 (v6 + 1)), (IntKind.wrap .i64 (v14 - 1))))) N (IntKind.wrap .i64 (p2 - 1))) N (IntKind.wrap .i64 (p1 + 1))
def Be (N : Nat) (p4 : (Af × Af) → Option Int) (rc : (List Af) → Int → Int → Int → ((Af × Af) → Option Int) → Option ((List Af))) (j1 : Unit → Option ((List Af))) : Nat → ((List Af) × Int × Int × Int × Bool × Bool) → Option ((List Af))
 | 0, _ => none
 | n1 + 1, v1 =>
  AO ((decide ((IntKind.wrap .i64 (v1.2.2.1 - v1.2.1)) ≤ 12)))
   ((C4 N v1.1 v1.2.1 v1.2.2.1 p4).bind fun v4 =>
   some v4)
   (AO ((v1.2.2.2.1 == 0))
    ((DA N v1.1 v1.2.1 v1.2.2.1 p4).bind fun v6 =>
    some v6)
    (Bd (fun (v7 : (List Af) × Int) =>
     (Dg N v7.1 v1.2.1 v1.2.2.1 p4).bind fun v10 =>
     Bd (fun (v11 : (List Af) × Int × Int) =>
      Bd (fun (v14 : (List Af)) =>
       Bd (fun (v21 : Bool) =>
        AO v21
         ((CZ N v14 v1.2.1 v1.2.2.1 v11.2.1 p4).bind fun v27 =>
         Be N p4 rc j1 n1 (v27.2, v27.1, v1.2.2.1, v7.2, v1.2.2.2.2.1, v1.2.2.2.2.2))
         ((Dt N v14 v1.2.1 v1.2.2.1 v11.2.1 p4).bind fun v28 =>
         AO ((decide ((IntKind.wrap .i64 (v28.1 - v1.2.1)) < (IntKind.wrap .i64 (v1.2.2.1 - v28.1)))))
          ((rc v28.2.2 v1.2.1 v28.1 v7.2 p4).bind fun v30 =>
          Be N p4 rc j1 n1 (v30, (IntKind.wrap .i64 (v28.1 + 1)), v1.2.2.1, v7.2, (decide ((IntKind.wrap .i64 (Int.tdiv ((IntKind.wrap .i64 (v1.2.2.1 - v1.2.1))) 8)) ≤ (IntKind.wrap .i64 (v28.1 - v1.2.1)))), v28.2.1))
          ((rc v28.2.2 ((IntKind.wrap .i64 (v28.1 + 1))) v1.2.2.1 v7.2 p4).bind fun v31 =>
          Be N p4 rc j1 n1 (v31, v1.2.1, v28.1, v7.2, (decide ((IntKind.wrap .i64 (Int.tdiv ((IntKind.wrap .i64 (v1.2.2.1 - v1.2.1))) 8)) ≤ (IntKind.wrap .i64 (v1.2.2.1 - v28.1)))), v28.2.1))))
       fun j21 =>
       AO ((decide (0 < v1.2.1)))
        ((A5 v14 ((IntKind.wrap .i64 (v1.2.1 - 1)))).bind fun v23 =>
        (A5 v14 v11.2.1).bind fun v24 =>
        (p4 ((v23, v24))).bind fun v25 =>
        j21 (!((decide (v25 < 0)))))
        (j21 false))
      fun j14 =>
      Bd (fun (v15 : Bool) =>
       AO v15
        ((Cn N v11.1 v1.2.1 v1.2.2.1 p4).bind fun v19 =>
        AO v19.1
         (some v19.2)
         (j14 v19.2))
        (j14 v11.1))
      fun j15 =>
      AO v1.2.2.2.2.1
       (AO v1.2.2.2.2.2
        (j15 (v11.2.2 == 1))
        (j15 false))
       (j15 false))
     fun j11 =>
     AO ((v10.2 == 2))
      ((Dd N v7.1 v1.2.1 v1.2.2.1 p4).bind fun v13 =>
      j11 (v13, (IntKind.wrap .i64 ((IntKind.wrap .i64 (v1.2.2.1 - 1)) - (IntKind.wrap .i64 (v10.1 - v1.2.1)))), 1))
      (j11 (v7.1, v10.1, v10.2)))
    fun j7 =>
    AO ((!v1.2.2.2.2.1))
     ((C5 N v1.1 v1.2.1 v1.2.2.1 p4).bind fun v9 =>
     j7 (v9, (IntKind.wrap .i64 (v1.2.2.2.1 - 1))))
     (j7 (v1.1, v1.2.2.2.1))))
def Dr (N : Nat) (rc : (List Af) → Int → Int → Int → ((Af × Af) → Option Int) → Option ((List Af))) (p0 : List Af) (p1 : Int) (p2 : Int) (p3 : Int) (p4 : (Af × Af) → Option Int) : Option ((List Af)) :=
 Be N p4 rc (fun (_ : Unit) =>
  none) N (p0, p1, p2, p3, true, true)
def Cw (N : Nat) : Nat → (List Af) → Int → Int → Int → ((Af × Af) → Option Int) → Option ((List Af))
 | 0, _, _, _, _, _ => none
 | k + 1, p0, p1, p2, p3, p4 => Dr N (Cw N k) p0 p1 p2 p3 p4
def EO (N : Nat) (p0 : List Af) (p1 : Int) (p2 : Int) (p3 : Int) (p4 : (Af × Af) → Option Int) : Option ((List Af)) := Cw N N p0 p1 p2 p3 p4
def C1 (N : Nat) (p0 : List Af) (p1 : (Af × Af) → Option Int) : Option ((List Af)) :=
 (FN N ((IntKind.wrap .u64 ((p0.length : Int))))).bind fun v1 =>
 (EO N p0 0 ((p0.length : Int)) v1 p1).bind fun v2 =>
 some v2
def FG (N : Nat) (p0 : Af) (p1 : Af) : Option Int :=
 (Eu N p0.fTable p1.fTable).bind fun v1 =>
 (Eu N p0.fWriter p1.fWriter).bind fun v2 =>
 (Eu N p0.fReader p1.fReader).bind fun v3 =>
 (H5 N (([v1, v2, v3] : List Int))).bind fun v4 =>
 some v4
def BK (N : Nat) (p0 : List Af) (v2 : Int) (j10 : ((List Af) × Int) → Option (Nat × (List Af))) : Nat → ((List Af) × Int × Int) → Option (Nat × (List Af))
 | 0, _ => none
 | n10 + 1, v10 =>
  AO ((decide (v10.2.2 < ((((p0.length - (v2).toNat)) : Nat) : Int))))
   (Bd (fun (v13 : (List Af) × Int) =>
    BK N p0 v2 j10 n10 (v13.1, v13.2, (IntKind.wrap .i64 (v10.2.2 + 1))))
   fun j13 =>
   (Fu (((v2).toNat) + ((p0.length - (v2).toNat)) ≤ v10.1.length)).bind fun _ =>
   (A5 (((v10.1.drop ((v2).toNat)).take ((p0.length - (v2).toNat)))) v10.2.2).bind fun v14 =>
   (A5 (((v10.1.drop ((v2).toNat)).take ((p0.length - (v2).toNat)))) ((IntKind.wrap .i64 (v10.2.2 - 1)))).bind fun v16 =>
   AO ((!((v14.fTable == v16.fTable) && ((v14.fWriter == v16.fWriter) && ((v14.fReader == v16.fReader) && true)))))
    ((A5 (((v10.1.drop ((v2).toNat)).take ((p0.length - (v2).toNat)))) v10.2.2).bind fun v18 =>
    (A5 v10.1 v10.2.1).bind fun _ =>
    j13 (v10.1.set ((v10.2.1).toNat) v18, (IntKind.wrap .i64 (v10.2.1 + 1))))
    (j13 (v10.1, v10.2.1)))
   (j10 (v10.1, v10.2.1))
def BQ (N : Nat) (p0 : List Af) (j2 : Unit → Option (Nat × (List Af))) : Nat → Int → Option (Nat × (List Af))
 | 0, _ => none
 | n2 + 1, v2 =>
  AO ((decide (v2 < (p0.length : Int))))
   ((A5 p0 v2).bind fun v5 =>
   (A5 p0 ((IntKind.wrap .i64 (v2 - 1)))).bind fun v6 =>
   AO (((v5.fTable == v6.fTable) && ((v5.fWriter == v6.fWriter) && ((v5.fReader == v6.fReader) && true))))
    ((Fu ((0 : Int) ≤ v2 ∧ (v2).toNat ≤ p0.length ∧ p0.length ≤ p0.length)).bind fun _ =>
    BK N p0 v2 (fun (v11 : (List Af) × Int) =>
     (Fu ((0 : Int) ≤ v11.2 ∧ (v11.2).toNat ≤ v11.1.length ∧ v11.1.length ≤ v11.1.length)).bind fun _ =>
     (Fu ((0 : Int) ≤ v11.2 ∧ 0 ≤ (v11.2).toNat ∧ (v11.2).toNat ≤ (Jw v11.1 ((v11.2).toNat) (List.replicate ((v11.1.length - (v11.2).toNat)) ((Af.mk 0 0 0)))).length)).bind fun _ =>
     some ((v11.2).toNat, Jw v11.1 ((v11.2).toNat) (List.replicate ((v11.1.length - (v11.2).toNat)) ((Af.mk 0 0 0))))) N (p0, v2, 1))
    (BQ N p0 j2 n2 (IntKind.wrap .i64 (v2 + 1))))
   (j2 ())
def C3 (N : Nat) (p0 : List Af) : Option (Nat × (List Af)) :=
 AO ((decide ((p0.length : Int) < 2)))
  (some (p0.length, p0))
  (BQ N p0 (fun (_ : Unit) =>
   some (p0.length, p0)) N 1)
def Fq (N : Nat) (v1 : (List CG) × Int) (j3 : ((List Af)) → Option ((List Af) × Int)) : Nat → ((List Af) × Int) → Option ((List Af) × Int)
 | 0, _ => none
 | n3 + 1, v3 =>
  AO ((decide (v3.2 < (v1.1.length : Int))))
   ((A5 v1.1 v3.2).bind fun v6 =>
   (Fu (v3.1.length + (([(Af.mk v6.fConflict.fTable v6.fConflict.fWriter v6.fConflict.fReader)] : List Af)).length ≤ Gf)).bind fun _ =>
   Fq N v1 j3 n3 (v3.1 ++ (([(Af.mk v6.fConflict.fTable v6.fConflict.fWriter v6.fConflict.fReader)] : List Af)), (IntKind.wrap .i64 (v3.2 + 1))))
   (j3 v3.1)
def HC (N : Nat) (p0 : Al) (p1 : List Ah) : Option ((List Af) × Int) :=
 (GI N p0 p1).bind fun v1 =>
 AO ((v1.2 != 0))
  (some (([] : List Af), v1.2))
  (Fq N v1 (fun (v4 : (List Af)) =>
   (C1 N v4 ((fun (x : Af × Af) => FG N x.1 x.2))).bind fun v8 =>
   (C3 N v8).bind fun v9 =>
   (Fu (v9.1 ≤ v9.2.length)).bind fun _ =>
   some (v9.2.take v9.1, 0)) N (([] : List Af), 0))
def Ct (N : Nat) (p0 : Al) (v8 : Ah) (j11 : Int → Option (Int × Ah × Int)) : Nat → (Int × Int) → Option (Int × Ah × Int)
 | 0, _ => none
 | n11 + 1, v11 =>
  AO ((decide (v11.2 < (p0.fTarget.length : Int))))
   (Bd (fun (v14 : Int) =>
    Ct N p0 v8 j11 n11 (v14, (IntKind.wrap .i64 (v11.2 + 1))))
   fun j14 =>
   (A5 p0.fTarget v11.2).bind fun v15 =>
   Bd (fun (v16 : Bool) =>
    AO v16
     (j14 (IntKind.wrap .i64 (v11.1 + 1)))
     (j14 v11.1))
   fun j16 =>
   (A5 v8.fBase v11.2).bind fun v17 =>
   AO ((v17 == v15))
    ((A5 v8.fNext v11.2).bind fun v19 =>
    j16 (decide (v19 < 0)))
    (j16 false))
   (j11 v11.1)
def D6 (N : Nat) (p0 : Al) (p1 : List Ah) (j4 : (Int × Int) → Option (Int × Ah × Int)) : Nat → (Int × Int × Int) → Option (Int × Ah × Int)
 | 0, _ => none
 | n4 + 1, v4 =>
  AO ((decide (v4.2.2 < (p1.length : Int))))
   (Bd (fun (v7 : Int × Int) =>
    D6 N p0 p1 j4 n4 (v7.1, v7.2, (IntKind.wrap .i64 (v4.2.2 + 1))))
   fun j7 =>
   (A5 p1 v4.2.2).bind fun v8 =>
   (EW N p0 v8).bind fun v9 =>
   AO ((v9 != 0))
    (some (0, (Ah.mk (([] : List Int)) (([] : List Int)) (([] : List Int))), v9))
    (Ct N p0 v8 (fun (v12 : Int) =>
     AO ((decide (v4.1 < v12)))
      (j7 (v12, v4.2.2))
      (j7 (v4.1, v4.2.1))) N (0, 0)))
   (j4 (v4.1, v4.2.1))
def DR (N : Nat) (p0 : Al) (p1 : List Ah) : Option (Int × Ah × Int) :=
 (CS N p0).bind fun v1 =>
 AO ((v1 != 0))
  (some (0, (Ah.mk (([] : List Int)) (([] : List Int)) (([] : List Int))), v1))
  (AO (((p1.length : Int) == 0))
   (some (0, (Ah.mk (([] : List Int)) (([] : List Int)) (([] : List Int))), 10))
   (D6 N p0 p1 (fun (v5 : Int × Int) =>
    (A5 p1 v5.2).bind fun v22 =>
    (Bc N v22.fBase).bind fun v23 =>
    (Bc N v22.fNext).bind fun v24 =>
    (Bg N v22.fHeld).bind fun v25 =>
    some (v5.1, (Ah.mk v23 v24 v25), 0)) N ((-1), 0, 0)))
def DJ (N : Nat) (p0 : List Int) (p1 : List Int) (j1 : Unit → Option Int) : Nat → Int → Option Int
 | 0, _ => none
 | n1 + 1, v1 =>
  Bd (fun (v3 : Bool) =>
   AO v3
    ((A5 p0 v1).bind fun v6 =>
    (A5 p1 v1).bind fun v7 =>
    AO ((decide (v6 < v7)))
     (some ((-1)))
     ((A5 p0 v1).bind fun v9 =>
     (A5 p1 v1).bind fun v10 =>
     AO ((decide (v10 < v9)))
      (some 1)
      (DJ N p0 p1 j1 n1 (IntKind.wrap .i64 (v1 + 1)))))
    (j1 ()))
  fun j3 =>
  AO ((decide (v1 < (p0.length : Int))))
   (j3 (decide (v1 < (p1.length : Int))))
   (j3 false)
def DO (N : Nat) (p0 : List Int) (p1 : List Int) : Option Int :=
 DJ N p0 p1 (fun (_ : Unit) =>
  AO ((decide ((p0.length : Int) < (p1.length : Int))))
   (some ((-1)))
   (AO ((decide ((p1.length : Int) < (p0.length : Int))))
    (some 1)
    (some 0))) N 0
def C8 (N : Nat) (p0 : List Int) (j1 : ((List Int)) → Option ((List Int))) : Nat → ((List Int) × Int) → Option ((List Int))
 | 0, _ => none
 | n1 + 1, v1 =>
  AO ((decide (v1.2 < (p0.length : Int))))
   ((A5 p0 v1.2).bind fun v4 =>
   (Fu (v1.1.length + (([(IntKind.wrap .i64 v4)] : List Int)).length ≤ Gf)).bind fun _ =>
   C8 N p0 j1 n1 (v1.1 ++ (([(IntKind.wrap .i64 v4)] : List Int)), (IntKind.wrap .i64 (v1.2 + 1))))
   (j1 v1.1)
def DH (N : Nat) (p0 : List Int) : Option ((List Int)) :=
 C8 N p0 (fun (v2 : (List Int)) =>
  some v2) N (([] : List Int), 0)
def Eh (N : Nat) (p0 : Ah) (p1 : Ah) : Option Int :=
 (DO N p0.fBase p1.fBase).bind fun v1 =>
 AO ((v1 != 0))
  (some v1)
  ((DO N p0.fNext p1.fNext).bind fun v3 =>
  AO ((v3 != 0))
   (some v3)
   ((DH N p0.fHeld).bind fun v5 =>
   (DH N p1.fHeld).bind fun v6 =>
   (DO N v5 v6).bind fun v7 =>
   some v7))
def Bz (N : Nat) (p0 : Ah) (p1 : Ah) : Option Bool :=
 (Eh N p0 p1).bind fun v1 =>
 some ((v1 == 0))
def EU (N : Nat) (p0 : List Ah) (p1 : List Ah) (j2 : Unit → Option Bool) : Nat → Int → Option Bool
 | 0, _ => none
 | n2 + 1, v2 =>
  AO ((decide (v2 < (p0.length : Int))))
   ((A5 p0 v2).bind fun v5 =>
   (A5 p1 v2).bind fun v6 =>
   (Bz N v5 v6).bind fun v7 =>
   AO ((!v7))
    (some false)
    (EU N p0 p1 j2 n2 (IntKind.wrap .i64 (v2 + 1))))
   (j2 ())
def GJ (N : Nat) (p0 : List Ah) (p1 : List Ah) : Option Bool :=
 AO (((p0.length : Int) != (p1.length : Int)))
  (some false)
  (EU N p0 p1 (fun (_ : Unit) =>
   some true) N 0)
def Ba (N : Nat) (p0 : List Ah) (p1 : Ah) (p2 : (Ah × Ah) → Option Int) (j1 : Int → Option (Int × Bool)) : Nat → (Int × Int) → Option (Int × Bool)
 | 0, _ => none
 | n1 + 1, v1 =>
  AO ((decide (v1.1 < v1.2)))
   ((A5 p0 ((IntKind.wrap .i64 ((E2 .u64 ((IntKind.wrap .u64 ((IntKind.wrap .i64 (v1.1 + v1.2))))) 1))))).bind fun v4 =>
   (p2 ((v4, p1))).bind fun v5 =>
   AO ((decide (v5 < 0)))
    (Ba N p0 p1 p2 j1 n1 ((IntKind.wrap .i64 ((IntKind.wrap .i64 ((E2 .u64 ((IntKind.wrap .u64 ((IntKind.wrap .i64 (v1.1 + v1.2))))) 1))) + 1)), v1.2))
    (Ba N p0 p1 p2 j1 n1 (v1.1, (IntKind.wrap .i64 ((E2 .u64 ((IntKind.wrap .u64 ((IntKind.wrap .i64 (v1.1 + v1.2))))) 1))))))
   (j1 v1.1)
def Co (N : Nat) (p0 : List Ah) (p1 : Ah) (p2 : (Ah × Ah) → Option Int) : Option (Int × Bool) :=
 Ba N p0 p1 p2 (fun (v2 : Int) =>
  Bd (fun (v7 : Bool) =>
   some (v2, v7))
  fun j7 =>
  AO ((decide (v2 < (p0.length : Int))))
   ((A5 p0 v2).bind fun v9 =>
   (p2 ((v9, p1))).bind fun v10 =>
   j7 (v10 == 0))
   (j7 false)) N (0, (p0.length : Int))
def Gx (N : Nat) (p0 : List Ah) (p1 : Ah) : Option Bool :=
 (Co N p0 p1 ((fun (x : Ah × Ah) => E7 N x.1 x.2))).bind fun v1 =>
 some v1.2
def zFS (N : Nat) (p0 : Al) (p1 : List Ah) (j5 : Unit → Option Bool) : Nat → Int → Option Bool
 | 0, _ => none
 | n5 + 1, v5 =>
  AO ((decide (v5 < (p1.length : Int))))
   ((A5 p1 v5).bind fun v8 =>
   Bd (fun (v9 : Bool) =>
    AO v9
     (some false)
     ((FB N p0 v8).bind fun v14 =>
     Bd (fun (v15 : Bool) =>
      AO v15
       (some false)
       (zFS N p0 p1 j5 n5 (IntKind.wrap .i64 (v5 + 1))))
     fun j15 =>
     AO ((!v14.1))
      (j15 true)
      (AO ((v14.2 != 0))
       (j15 true)
       ((I1 N p0 v8).bind fun v18 =>
       j15 v18))))
   fun j9 =>
   AO ((decide (0 < v5)))
    ((A5 p1 ((IntKind.wrap .i64 (v5 - 1)))).bind fun v11 =>
    (E7 N v11 v8).bind fun v12 =>
    j9 (decide (0 ≤ v12)))
    (j9 false))
   (j5 ())
def FI (N : Nat) (p0 : Al) (p1 : List Ah) (v25 : Ah) (v26 : (List AH) × Int) (j27 : Unit → Option Bool) : Nat → Int → Option Bool
 | 0, _ => none
 | n27 + 1, v27 =>
  AO ((decide (v27 < (v26.1.length : Int))))
   ((A5 v26.1 v27).bind fun v30 =>
   (GT N p0 v25 v30).bind fun v31 =>
   (FB N p0 v31.1).bind fun v32 =>
   Bd (fun (v33 : Bool) =>
    AO v33
     (some false)
     (FI N p0 p1 v25 v26 j27 n27 (IntKind.wrap .i64 (v27 + 1))))
   fun j33 =>
   AO v32.1
    ((Gx N p1 v31.1).bind fun v35 =>
    j33 (!v35))
    (j33 false))
   (j27 ())
def FE (N : Nat) (p0 : Al) (p1 : List Ah) (j22 : Unit → Option Bool) : Nat → Int → Option Bool
 | 0, _ => none
 | n22 + 1, v22 =>
  AO ((decide (v22 < (p1.length : Int))))
   ((A5 p1 v22).bind fun v25 =>
   (F1 N p0 v25).bind fun v26 =>
   FI N p0 p1 v25 v26 (fun (_ : Unit) =>
    FE N p0 p1 j22 n22 (IntKind.wrap .i64 (v22 + 1))) N 0)
   (j22 ())
def F3 (N : Nat) (p0 : Al) (p1 : List Ah) : Option Bool :=
 (Iu N p0).bind fun v1 =>
 AO ((v1.2 != 0))
  (some false)
  ((FB N p0 v1.1).bind fun v3 =>
  AO ((!v3.1))
   (some (((p1.length : Int) == 0)))
   (zFS N p0 p1 (fun (_ : Unit) =>
    (Gx N p1 v1.1).bind fun v20 =>
    AO ((!v20))
     (some false)
     (FE N p0 p1 (fun (_ : Unit) =>
      some true) N 0)) N 0))
def DY (N : Nat) (p0 : List Af) (p1 : List Af) (j2 : Unit → Option Bool) : Nat → Int → Option Bool
 | 0, _ => none
 | n2 + 1, v2 =>
  AO ((decide (v2 < (p0.length : Int))))
   ((A5 p0 v2).bind fun v5 =>
   (A5 p1 v2).bind fun v6 =>
   AO ((!((v5.fTable == v6.fTable) && ((v5.fWriter == v6.fWriter) && ((v5.fReader == v6.fReader) && true)))))
    (some false)
    (DY N p0 p1 j2 n2 (IntKind.wrap .i64 (v2 + 1))))
   (j2 ())
def Fd (N : Nat) (p0 : List Af) (p1 : List Af) : Option Bool :=
 AO (((p0.length : Int) != (p1.length : Int)))
  (some false)
  (DY N p0 p1 (fun (_ : Unit) =>
   some true) N 0)
def EJ (N : Nat) : Option Bool :=
 (B6 N).bind fun v1 =>
 (Ig N v1).bind fun v2 =>
 (B6 N).bind fun v3 =>
 (GI N v3 v2.1).bind fun v4 =>
 (B6 N).bind fun v5 =>
 (HC N v5 v2.1).bind fun v6 =>
 (B6 N).bind fun v7 =>
 (DR N v7 v2.1).bind fun v8 =>
 Bd (fun (v9 : Bool) =>
  Bd (fun (v13 : Bool) =>
   Bd (fun (v25 : Bool) =>
    some v25)
   fun j25 =>
   AO v13
    (AO (((v4.1.length : Int) == 1))
     ((A5 v4.1 0).bind fun v28 =>
     AO (((v28.fStep.fKind == 1) && ((v28.fStep.fIndex == 0) && ((v28.fStep.fVersion == 1) && true))))
      ((A5 v4.1 0).bind fun v30 =>
      AO (((v30.fConflict.fTable == 0) && ((v30.fConflict.fWriter == 1) && ((v30.fConflict.fReader == 0) && true))))
       ((Fd N v6.1 (([(Af.mk 0 1 0)] : List Af))).bind fun v32 =>
       AO v32
        (AO ((v8.1 == 0))
         ((Bz N v8.2.1 ((Ah.mk (([0] : List Int)) (([(-1)] : List Int)) (([0] : List Int))))).bind fun v35 =>
         j25 v35)
         (j25 false))
        (j25 false))
       (j25 false))
      (j25 false))
     (j25 false))
    (j25 false))
  fun j13 =>
  AO v9
   ((GJ N v2.1 (([(Ah.mk (([0] : List Int)) (([(-1)] : List Int)) (([0] : List Int)))] : List Ah))).bind fun v15 =>
   AO v15
    ((B6 N).bind fun v17 =>
    (F3 N v17 v2.1).bind fun v18 =>
    AO v18
     ((B6 N).bind fun v20 =>
     (F3 N v20 (([] : List Ah))).bind fun v21 =>
     AO ((!v21))
      ((B6 N).bind fun v23 =>
      (F3 N v23 (([(Ah.mk (([0] : List Int)) (([(-1)] : List Int)) (([0] : List Int))), (Ah.mk (([1] : List Int)) (([(-1)] : List Int)) (([0] : List Int)))] : List Ah))).bind fun v24 =>
      j13 (!v24))
      (j13 false))
     (j13 false))
    (j13 false))
   (j13 false))
 fun j9 =>
 AO ((v2.2 == 0))
  (AO ((v4.2 == 0))
   (AO ((v6.2 == 0))
    (j9 (v8.2.2 == 0))
    (j9 false))
   (j9 false))
  (j9 false)
def DP (_ : Nat) (p0 : List Int) (p1 : Int) : Option Int :=
 AO ((decide (p1 < (p0.length : Int))))
  ((A5 p0 p1).bind fun v2 =>
  some ((IntKind.wrap .i64 v2)))
  (some 0)
def Da (_ : Nat) (p0 : Ah) (p1 : Int) : Option Int :=
 (A5 p0.fBase p1).bind fun v1 =>
 (Fu (0 ≤ v1)).bind fun _ =>
 Bd (fun (v3 : Int) =>
  some v3)
 fun j3 =>
 (A5 p0.fNext p1).bind fun v4 =>
 AO ((decide (0 ≤ v4)))
  ((A5 p0.fNext p1).bind fun v6 =>
  (Fu (0 ≤ v6)).bind fun _ =>
  j3 (Oy .u8 ((DD .u8 1 v1)) ((DD .u8 1 v6))))
  (j3 (DD .u8 1 v1))
def C6 (N : Nat) (p0 : Al) (p1 : BV) (j1 : ((List Int) × (List Int)) → Option Ah) : Nat → ((List Int) × (List Int) × Int) → Option Ah
 | 0, _ => none
 | n1 + 1, v1 =>
  AO ((decide (v1.2.2 < (p0.fVersions.length : Int))))
   ((A5 p0.fVersions v1.2.2).bind fun v4 =>
   (DP N p1.fBase v1.2.2).bind fun v5 =>
   (Fu (v4 ≠ 0)).bind fun _ =>
   Bd (fun (v7 : Int) =>
    (Fu (v1.1.length + (([(Int.tmod v5 v4)] : List Int)).length ≤ Gf)).bind fun _ =>
    (Fu (v1.2.1.length + (([v7] : List Int)).length ≤ Gf)).bind fun _ =>
    C6 N p0 p1 j1 n1 (v1.1 ++ (([(Int.tmod v5 v4)] : List Int)), v1.2.1 ++ (([v7] : List Int)), (IntKind.wrap .i64 (v1.2.2 + 1))))
   fun j7 =>
   (DP N p1.fNext v1.2.2).bind fun v8 =>
   (Fu (v4 ≠ 0)).bind fun _ =>
   AO ((decide (0 < (Int.tmod v8 v4))))
    ((Fu (v4 ≠ 0)).bind fun _ =>
    j7 (Int.tmod ((IntKind.wrap .i64 ((Int.tmod v5 v4) + (Int.tmod v8 v4)))) v4))
    (j7 (-1)))
   (j1 (v1.1, v1.2.1))
def Bo (N : Nat) (p0 : Al) (p1 : BV) (v2 : (List Int) × (List Int)) (j14 : ((List Int)) → Option Ah) : Nat → ((List Int) × Int) → Option Ah
 | 0, _ => none
 | n14 + 1, v14 =>
  AO ((decide (v14.2 < (p0.fTables.length : Int))))
   ((A5 p0.fTables v14.2).bind fun v17 =>
   Bd (fun (v18 : Int) =>
    (Fu (v14.1.length + (([v18] : List Int)).length ≤ Gf)).bind fun _ =>
    Bo N p0 p1 v2 j14 n14 (v14.1 ++ (([v18] : List Int)), (IntKind.wrap .i64 (v14.2 + 1))))
   fun j18 =>
   (BI N v17).bind fun v19 =>
   AO v19
    ((A5 p0.fVersions v17.fFrom).bind fun v21 =>
    (Fu (0 ≤ v21)).bind fun _ =>
    (Da N ((Ah.mk v2.1 v2.2 v14.1)) v17.fFrom).bind fun v23 =>
    (DP N p1.fHeld v14.2).bind fun v24 =>
    j18 (Oy .u8 v23 ((Gn .u8 ((IntKind.wrap .u8 v24)) ((IntKind.wrap .u8 ((DD .u8 1 v21) - 1)))))))
    (j18 0))
   (j14 v14.1)
def Fk (N : Nat) (p0 : Al) (p1 : BV) : Option Ah :=
 C6 N p0 p1 (fun (v2 : (List Int) × (List Int)) =>
  Bo N p0 p1 v2 (fun (v15 : (List Int)) =>
   some ((Ah.mk v2.1 v2.2 v15))) N (([] : List Int), 0)) N (([] : List Int), ([] : List Int), 0)
def CM (N : Nat) (p0 : List (List Bool)) (p1 : Int) (p2 : Int) (j2 : Unit → Option Bool) : Nat → Int → Option Bool
 | 0, _ => none
 | n2 + 1, v2 =>
  AO ((decide (v2 < p1)))
   ((A5 p0 v2).bind fun v5 =>
   AO (((v5.length : Int) != p2))
    (some false)
    (CM N p0 p1 p2 j2 n2 (IntKind.wrap .i64 (v2 + 1))))
   (j2 ())
def DS (N : Nat) (p0 : List (List Bool)) (p1 : Int) (p2 : Int) : Option Bool :=
 AO (((p0.length : Int) != p1))
  (some false)
  (CM N p0 p1 p2 (fun (_ : Unit) =>
   some true) N 0)
def Ce (N : Nat) (p1 : AQ) (j22 : Unit → Option Int) : Nat → Int → Option Int
 | 0, _ => none
 | n22 + 1, v22 =>
  AO ((decide (v22 < (p1.fRewrite.length : Int))))
   ((A5 p1.fRewrite v22).bind fun v25 =>
   (A5 v25 v22).bind fun v26 =>
   AO ((!v26))
    (some 1)
    (Ce N p1 j22 n22 (IntKind.wrap .i64 (v22 + 1))))
   (j22 ())
def EH (N : Nat) (p0 : Al) (p1 : AQ) : Option Int :=
 Bd (fun (v1 : Bool) =>
  AO v1
   (some 1)
   (Bd (fun (v7 : Bool) =>
    AO v7
     (some 4)
     ((A5 p0.fVersions p1.fFrom).bind fun v12 =>
     (A5 p0.fVersions p1.fTo).bind fun v13 =>
     (DS N p1.fOK v12 v13).bind fun v14 =>
     AO ((!v14))
      (some 6)
      (AO ((p1.fKind != 4))
       (AO (((p1.fRewrite.length : Int) != 0))
        (some 6)
        (some 0))
       ((A5 p0.fVersions p1.fFrom).bind fun v18 =>
       (A5 p0.fVersions p1.fFrom).bind fun v19 =>
       (DS N p1.fRewrite v18 v19).bind fun v20 =>
       AO ((!v20))
        (some 6)
        (Ce N p1 (fun (_ : Unit) =>
         some 0) N 0)))))
   fun j7 =>
   AO ((decide (p1.fFrom < 0)))
    (j7 true)
    (AO ((decide ((p0.fVersions.length : Int) ≤ p1.fFrom)))
     (j7 true)
     (AO ((decide (p1.fTo < 0)))
      (j7 true)
      (j7 (decide ((p0.fVersions.length : Int) ≤ p1.fTo)))))))
 fun j1 =>
 AO ((decide (p1.fKind < 1)))
  (j1 true)
  (AO ((decide (4 < p1.fKind)))
   (j1 true)
   (AO p1.fAware
    ((BI N p1).bind fun v5 =>
    j1 v5)
    (j1 false)))
def Bm (N : Nat) (p0 : Al) (j7 : Unit → Option Int) : Nat → Int → Option Int
 | 0, _ => none
 | n7 + 1, v7 =>
  AO ((decide (v7 < (p0.fVersions.length : Int))))
   ((A5 p0.fVersions v7).bind fun v10 =>
   Bd (fun (v11 : Bool) =>
    AO v11
     (some 7)
     (Bm N p0 j7 n7 (IntKind.wrap .i64 (v7 + 1))))
   fun j11 =>
   AO ((decide (v10 < 1)))
    (j11 true)
    (AO ((decide (6 < v10)))
     (j11 true)
     ((A5 p0.fNow v7).bind fun v14 =>
     AO ((decide (v14 < 0)))
      (j11 true)
      ((A5 p0.fNow v7).bind fun v16 =>
      AO ((decide (v10 ≤ v16)))
       (j11 true)
       ((A5 p0.fTarget v7).bind fun v18 =>
       AO ((decide (v18 < 0)))
        (j11 true)
        ((A5 p0.fTarget v7).bind fun v20 =>
        j11 (decide (v10 ≤ v20))))))))
   (j7 ())
def Bf (N : Nat) (p0 : Al) (j22 : Unit → Option Int) : Nat → Int → Option Int
 | 0, _ => none
 | n22 + 1, v22 =>
  AO ((decide (v22 < (p0.fTables.length : Int))))
   ((A5 p0.fTables v22).bind fun v25 =>
   (EH N p0 v25).bind fun v26 =>
   AO ((v26 != 0))
    (some v26)
    (Bf N p0 j22 n22 (IntKind.wrap .i64 (v22 + 1))))
   (j22 ())
def B7 (N : Nat) (p0 : Al) : Option Int :=
 Bd (fun (v1 : Bool) =>
  AO v1
   (some 3)
   (Bd (fun (v4 : Bool) =>
    AO v4
     (some 6)
     (Bm N p0 (fun (_ : Unit) =>
      Bf N p0 (fun (_ : Unit) =>
       some 0) N 0) N 0))
   fun j4 =>
   AO (((p0.fNow.length : Int) != (p0.fVersions.length : Int)))
    (j4 true)
    (j4 ((p0.fTarget.length : Int) != (p0.fVersions.length : Int)))))
 fun j1 =>
 AO ((decide (6 < (p0.fVersions.length : Int))))
  (j1 true)
  (j1 (decide (12 < (p0.fTables.length : Int))))
def Cu (N : Nat) (p0 : Al) (p1 : Ah) (j7 : Unit → Option Int) : Nat → Int → Option Int
 | 0, _ => none
 | n7 + 1, v7 =>
  AO ((decide (v7 < (p0.fVersions.length : Int))))
   (Bd (fun (v10 : Bool) =>
    AO v10
     (some 7)
     ((A5 p1.fBase v7).bind fun v21 =>
     (A5 p1.fNext v7).bind fun v22 =>
     AO ((v21 == v22))
      (some 1)
      (Cu N p0 p1 j7 n7 (IntKind.wrap .i64 (v7 + 1)))))
   fun j10 =>
   (A5 p1.fBase v7).bind fun v11 =>
   AO ((decide (v11 < 0)))
    (j10 true)
    ((A5 p1.fBase v7).bind fun v13 =>
    (A5 p0.fVersions v7).bind fun v14 =>
    AO ((decide (v14 ≤ v13)))
     (j10 true)
     ((A5 p1.fNext v7).bind fun v16 =>
     AO ((decide (v16 < (-1))))
      (j10 true)
      ((A5 p1.fNext v7).bind fun v18 =>
      (A5 p0.fVersions v7).bind fun v19 =>
      j10 (decide (v19 ≤ v18))))))
   (j7 ())
def Cd (N : Nat) (p0 : Al) (p1 : Ah) (j24 : Unit → Option Int) : Nat → Int → Option Int
 | 0, _ => none
 | n24 + 1, v24 =>
  AO ((decide (v24 < (p0.fTables.length : Int))))
   ((A5 p0.fTables v24).bind fun v27 =>
   (A5 p0.fVersions v27.fFrom).bind fun v28 =>
   (Fu (0 ≤ v28)).bind fun _ =>
   Bd (fun (v30 : Bool) =>
    AO v30
     (some 1)
     (Cd N p0 p1 j24 n24 (IntKind.wrap .i64 (v24 + 1))))
   fun j30 =>
   (BI N v27).bind fun v31 =>
   AO ((!v31))
    ((A5 p1.fHeld v24).bind fun v33 =>
    AO ((v33 != 0))
     (j30 true)
     ((BI N v27).bind fun v35 =>
     AO v35
      ((A5 p1.fHeld v24).bind fun v37 =>
      AO (((Ed .u8 v37 ((IntKind.wrap .u8 ((DD .u8 1 v28) - 1)))) != 0))
       (j30 true)
       ((Da N p1 v27.fFrom).bind fun v39 =>
       (A5 p1.fHeld v24).bind fun v40 =>
       j30 ((Ed .u8 v39 v40) != 0)))
      (j30 false)))
    ((BI N v27).bind fun v41 =>
    AO v41
     ((A5 p1.fHeld v24).bind fun v43 =>
     AO (((Ed .u8 v43 ((IntKind.wrap .u8 ((DD .u8 1 v28) - 1)))) != 0))
      (j30 true)
      ((Da N p1 v27.fFrom).bind fun v45 =>
      (A5 p1.fHeld v24).bind fun v46 =>
      j30 ((Ed .u8 v45 v46) != 0)))
     (j30 false)))
   (j24 ())
def EG (N : Nat) (p0 : Al) (p1 : Ah) : Option Int :=
 (B7 N p0).bind fun v1 =>
 AO ((v1 != 0))
  (some v1)
  (Bd (fun (v3 : Bool) =>
   AO v3
    (some 6)
    (Cu N p0 p1 (fun (_ : Unit) =>
     Cd N p0 p1 (fun (_ : Unit) =>
      some 0) N 0) N 0))
  fun j3 =>
  AO (((p1.fBase.length : Int) != (p0.fVersions.length : Int)))
   (j3 true)
   (AO (((p1.fNext.length : Int) != (p0.fVersions.length : Int)))
    (j3 true)
    (j3 ((p1.fHeld.length : Int) != (p0.fTables.length : Int)))))
def Cv (N : Nat) (p0 : Al) (p1 : List Ah) (j3 : Unit → Option Int) : Nat → Int → Option Int
 | 0, _ => none
 | n3 + 1, v3 =>
  AO ((decide (v3 < (p1.length : Int))))
   ((A5 p1 v3).bind fun v6 =>
   (EG N p0 v6).bind fun v7 =>
   AO ((v7 != 0))
    (some v7)
    (Cv N p0 p1 j3 n3 (IntKind.wrap .i64 (v3 + 1))))
   (j3 ())
def EF (N : Nat) (p0 : Al) (p1 : List Ah) : Option Int :=
 (B7 N p0).bind fun v1 =>
 AO ((v1 != 0))
  (some v1)
  (Cv N p0 p1 (fun (_ : Unit) =>
   some 0) N 0)
def Br (N : Nat) (p0 : Al) (p1 : List Ah) (v6 : Int × Int × Int) (j10 : Int → Option (Int × Ah × Int)) : Nat → (Int × Int) → Option (Int × Ah × Int)
 | 0, _ => none
 | n10 + 1, v10 =>
  AO ((decide (v10.2 < (p0.fTarget.length : Int))))
   (Bd (fun (v13 : Int) =>
    Br N p0 p1 v6 j10 n10 (v13, (IntKind.wrap .i64 (v10.2 + 1))))
   fun j13 =>
   Bd (fun (v14 : Bool) =>
    AO v14
     (j13 (IntKind.wrap .i64 (v10.1 + 1)))
     (j13 v10.1))
   fun j14 =>
   (A5 p1 v6.2.2).bind fun v15 =>
   (A5 v15.fNext v10.2).bind fun v16 =>
   AO ((decide (v16 < 0)))
    ((A5 p1 v6.2.2).bind fun v18 =>
    (A5 v18.fBase v10.2).bind fun v19 =>
    (A5 p0.fTarget v10.2).bind fun v20 =>
    j14 (v19 == v20))
    (j14 false))
   (j10 v10.1)
def C9 (N : Nat) (p0 : Al) (p1 : List Ah) (j6 : (Int × Int) → Option (Int × Ah × Int)) : Nat → (Int × Int × Int) → Option (Int × Ah × Int)
 | 0, _ => none
 | n6 + 1, v6 =>
  AO ((decide (v6.2.2 < (p1.length : Int))))
   (Bd (fun (v9 : Int × Int) =>
    C9 N p0 p1 j6 n6 (v9.1, v9.2, (IntKind.wrap .i64 (v6.2.2 + 1))))
   fun j9 =>
   Br N p0 p1 v6 (fun (v11 : Int) =>
    AO ((decide (v6.1 < v11)))
     (j9 (v11, v6.2.2))
     (j9 (v6.1, v6.2.1))) N (0, 0))
   (j6 (v6.1, v6.2.1))
def Db (N : Nat) (p0 : Al) (p1 : List Ah) : Option (Int × Ah × Int) :=
 (B7 N p0).bind fun v1 =>
 AO ((v1 != 0))
  (some (0, (Ah.mk (([] : List Int)) (([] : List Int)) (([] : List Int))), v1))
  (AO (((p1.length : Int) == 0))
   (some (0, (Ah.mk (([] : List Int)) (([] : List Int)) (([] : List Int))), 10))
   ((EF N p0 p1).bind fun v4 =>
   AO ((v4 != 0))
    (some (0, (Ah.mk (([] : List Int)) (([] : List Int)) (([] : List Int))), v4))
    (C9 N p0 p1 (fun (v7 : Int × Int) =>
     (A5 p1 v7.2).bind fun v23 =>
     some (v7.1, v23, 0)) N ((-1), 0, 0))))
def BB (N : Nat) (p1 : List BV) (v1 : Al × Bool) (j8 : ((List Ah)) → Option Bool) : Nat → ((List Ah) × Int) → Option Bool
 | 0, _ => none
 | n8 + 1, v8 =>
  AO ((decide (v8.2 < (p1.length : Int))))
   ((A5 p1 v8.2).bind fun v11 =>
   (Fk N v1.1 v11).bind fun v12 =>
   (Fu (v8.1.length + (([v12] : List Ah)).length ≤ Gf)).bind fun _ =>
   BB N p1 v1 j8 n8 (v8.1 ++ (([v12] : List Ah)), (IntKind.wrap .i64 (v8.2 + 1))))
   (j8 v8.1)
def Df (N : Nat) (p0 : C0) (p1 : List BV) : Option Bool :=
 (Fm N p0).bind fun v1 =>
 Bd (fun (v2 : Bool) =>
  AO v2
   ((EJ N).bind fun v7 =>
   some v7)
   (BB N p1 v1 (fun (v9 : (List Ah)) =>
    (DR N v1.1 v9).bind fun v14 =>
    (Db N v1.1 v9).bind fun v15 =>
    Bd (fun (v16 : Bool) =>
     some v16)
    fun j16 =>
    AO ((v14.1 == v15.1))
     (AO ((v14.2.2 == v15.2.2))
      ((Bz N v14.2.1 v15.2.1).bind fun v19 =>
      j16 v19)
      (j16 false))
     (j16 false)) N (([] : List Ah), 0)))
 fun j2 =>
 (EJ N).bind fun v3 =>
 AO ((!v3))
  (j2 true)
  (AO ((!v1.2))
   (j2 true)
   (j2 (decide (6 < (p1.length : Int)))))
def KY {α : Type} (w : α → Prop) (xs : List α) : Prop := ∀ x, x ∈ xs → w x
def J4 (n : Int) : Prop := (Lit.int .u8 n).wf = true
def TR (n : Int) : Prop := (Lit.int .u16 n).wf = true
def HS (x : If) : Prop := J4 x.fKind ∧ J4 x.fFrom ∧ J4 x.fTo ∧ (fun _ => True) x.fAware ∧ TR x.fBad ∧ TR x.fLost ∧ True
def Ge (x : C0) : Prop := (KY J4) x.fVersions ∧ (KY J4) x.fNow ∧ (KY J4) x.fTarget ∧ (KY HS) x.fLinks ∧ True
def Ft (x : BV) : Prop := (KY J4) x.fBase ∧ (KY J4) x.fNext ∧ (KY J4) x.fHeld ∧ True
end Go.Lift

/- That the code does what the shallow programs do, function by function. Written by a program (gen.py). -/
namespace Go.Lift
open Go.RowKit
open Go.Proofs
theorem Ad : Tryz.prog.follows .mixedOrders = true := by kernel_rfl
theorem UX : E9 Tryz.prog 101 true = true := by kernel_rfl
theorem MB : E9 Tryz.prog 195 false = true := by kernel_rfl
theorem OA : E9 Tryz.prog 22 false = true := by kernel_rfl
theorem Un : E9 Tryz.prog 23 false = true := by kernel_rfl
theorem Wg : E9 Tryz.prog 25 true = true := by kernel_rfl
theorem Bw : E9 Tryz.prog 26 false = true := by kernel_rfl
theorem JG : E9 Tryz.prog 27 false = true := by kernel_rfl
theorem EE : E9 Tryz.prog 29 true = true := by kernel_rfl
theorem Dn : E9 Tryz.prog 3 false = true := by kernel_rfl
theorem S9 : E9 Tryz.prog 4 false = true := by kernel_rfl
theorem VG : E9 Tryz.prog 41 true = true := by kernel_rfl
theorem It : E9 Tryz.prog 44 false = true := by kernel_rfl
theorem A6 : E9 Tryz.prog 46 true = true := by kernel_rfl
theorem Ur : E9 Tryz.prog 5 false = true := by kernel_rfl
theorem Dp : E9 Tryz.prog 66 true = true := by kernel_rfl
theorem Le : E9 Tryz.prog 67 false = true := by kernel_rfl
theorem IS : E9 Tryz.prog 69 true = true := by kernel_rfl
theorem Qr : E9 Tryz.prog 70 false = true := by kernel_rfl
theorem KO : E9 Tryz.prog 81 false = true := by kernel_rfl
theorem JP : E9 Tryz.prog 84 true = true := by kernel_rfl
theorem Wb : E9 Tryz.prog 86 true = true := by kernel_rfl
theorem VK : E9 Tryz.prog 99 false = true := by kernel_rfl
theorem Vl : N0 Tryz.prog 22 = true := by kernel_rfl
theorem Oa : F7 Tryz.prog 3 8 = true := by kernel_rfl
theorem Ub : F7 Tryz.prog 4 1 = true := by kernel_rfl
theorem P6 : F7 Tryz.prog 46 72 = true := by kernel_rfl
theorem VL : F7 Tryz.prog 5 1 = true := by kernel_rfl
theorem RK : F7 Tryz.prog 66 24 = true := by kernel_rfl
theorem UC : F7 Tryz.prog 69 80 = true := by kernel_rfl
theorem Vf : F7 Tryz.prog 70 24 = true := by kernel_rfl
theorem RF : F7 Tryz.prog 81 1 = true := by kernel_rfl
theorem Qf : F7 Tryz.prog 84 24 = true := by kernel_rfl
theorem TG : F7 Tryz.prog 86 120 = true := by kernel_rfl
theorem Q1 : CR Tryz.prog 101 0 0 = true := by kernel_rfl
theorem Ru : CR Tryz.prog 101 1 1 = true := by kernel_rfl
theorem RG : CR Tryz.prog 101 2 2 = true := by kernel_rfl
theorem RO : CR Tryz.prog 101 3 3 = true := by kernel_rfl
theorem RB : CR Tryz.prog 101 4 4 = true := by kernel_rfl
theorem Rg : CR Tryz.prog 101 5 5 = true := by kernel_rfl
theorem NZ : CR Tryz.prog 25 0 0 = true := by kernel_rfl
theorem S3 : CR Tryz.prog 25 1 1 = true := by kernel_rfl
theorem SV : CR Tryz.prog 25 2 2 = true := by kernel_rfl
theorem Ob : CR Tryz.prog 25 3 3 = true := by kernel_rfl
theorem BZ : CR Tryz.prog 29 0 0 = true := by kernel_rfl
theorem H7 : CR Tryz.prog 29 1 1 = true := by kernel_rfl
theorem Hx : CR Tryz.prog 29 2 2 = true := by kernel_rfl
theorem EC : CR Tryz.prog 29 3 3 = true := by kernel_rfl
theorem Sw : CR Tryz.prog 41 0 0 = true := by kernel_rfl
theorem SD : CR Tryz.prog 41 1 1 = true := by kernel_rfl
theorem SP : CR Tryz.prog 41 2 2 = true := by kernel_rfl
theorem Du : CR Tryz.prog 46 0 0 = true := by kernel_rfl
theorem CU : CR Tryz.prog 46 1 1 = true := by kernel_rfl
theorem DX : CR Tryz.prog 46 2 2 = true := by kernel_rfl
theorem PU : CR Tryz.prog 66 0 0 = true := by kernel_rfl
theorem PO : CR Tryz.prog 66 1 1 = true := by kernel_rfl
theorem PI : CR Tryz.prog 66 2 2 = true := by kernel_rfl
theorem GH : CR Tryz.prog 69 0 0 = true := by kernel_rfl
theorem Et : CR Tryz.prog 69 1 1 = true := by kernel_rfl
theorem JR : CR Tryz.prog 69 2 2 = true := by kernel_rfl
theorem Ku : CR Tryz.prog 69 3 3 = true := by kernel_rfl
theorem Lu : CR Tryz.prog 69 4 4 = true := by kernel_rfl
theorem Hw : CR Tryz.prog 69 5 5 = true := by kernel_rfl
theorem JO : CR Tryz.prog 84 0 0 = true := by kernel_rfl
theorem G4 : CR Tryz.prog 84 1 1 = true := by kernel_rfl
theorem Ks : CR Tryz.prog 84 2 2 = true := by kernel_rfl
theorem ST : CR Tryz.prog 86 0 0 = true := by kernel_rfl
theorem P4 : CR Tryz.prog 86 2 6 = true := by kernel_rfl
theorem Vj : AE Tryz.prog 100 = true := by kernel_rfl
theorem PJ : AE Tryz.prog 102 = true := by kernel_rfl
theorem U6 : AE Tryz.prog 103 = true := by kernel_rfl
theorem Q0 : AE Tryz.prog 104 = true := by kernel_rfl
theorem Rp : AE Tryz.prog 105 = true := by kernel_rfl
theorem Td : AE Tryz.prog 106 = true := by kernel_rfl
theorem RQ : AE Tryz.prog 107 = true := by kernel_rfl
theorem RJ : AE Tryz.prog 108 = true := by kernel_rfl
theorem Tb : AE Tryz.prog 109 = true := by kernel_rfl
theorem Vu : AE Tryz.prog 11 = true := by kernel_rfl
theorem TA : AE Tryz.prog 115 = true := by kernel_rfl
theorem Q5 : AE Tryz.prog 118 = true := by kernel_rfl
theorem VB : AE Tryz.prog 119 = true := by kernel_rfl
theorem WM : AE Tryz.prog 12 = true := by kernel_rfl
theorem U8 : AE Tryz.prog 120 = true := by kernel_rfl
theorem UG : AE Tryz.prog 121 = true := by kernel_rfl
theorem VA : AE Tryz.prog 122 = true := by kernel_rfl
theorem UH : AE Tryz.prog 123 = true := by kernel_rfl
theorem Vx : AE Tryz.prog 124 = true := by kernel_rfl
theorem Vm : AE Tryz.prog 125 = true := by kernel_rfl
theorem VH : AE Tryz.prog 126 = true := by kernel_rfl
theorem UQ : AE Tryz.prog 127 = true := by kernel_rfl
theorem Vz : AE Tryz.prog 130 = true := by kernel_rfl
theorem Ts : AE Tryz.prog 131 = true := by kernel_rfl
theorem Vc : AE Tryz.prog 132 = true := by kernel_rfl
theorem Vk : AE Tryz.prog 133 = true := by kernel_rfl
theorem VM : AE Tryz.prog 134 = true := by kernel_rfl
theorem UV : AE Tryz.prog 135 = true := by kernel_rfl
theorem Uz : AE Tryz.prog 136 = true := by kernel_rfl
theorem UO : AE Tryz.prog 137 = true := by kernel_rfl
theorem UA : AE Tryz.prog 138 = true := by kernel_rfl
theorem Vh : AE Tryz.prog 139 = true := by kernel_rfl
theorem V2 : AE Tryz.prog 14 = true := by kernel_rfl
theorem Ve : AE Tryz.prog 140 = true := by kernel_rfl
theorem VQ : AE Tryz.prog 141 = true := by kernel_rfl
theorem UL : AE Tryz.prog 145 = true := by kernel_rfl
theorem UD : AE Tryz.prog 146 = true := by kernel_rfl
theorem Vg : AE Tryz.prog 147 = true := by kernel_rfl
theorem UR : AE Tryz.prog 148 = true := by kernel_rfl
theorem VC : AE Tryz.prog 149 = true := by kernel_rfl
theorem TN : AE Tryz.prog 15 = true := by kernel_rfl
theorem Vp : AE Tryz.prog 150 = true := by kernel_rfl
theorem UZ : AE Tryz.prog 151 = true := by kernel_rfl
theorem VD : AE Tryz.prog 152 = true := by kernel_rfl
theorem U2 : AE Tryz.prog 153 = true := by kernel_rfl
theorem Vq : AE Tryz.prog 154 = true := by kernel_rfl
theorem TC : AE Tryz.prog 155 = true := by kernel_rfl
theorem Tg : AE Tryz.prog 156 = true := by kernel_rfl
theorem UY : AE Tryz.prog 157 = true := by kernel_rfl
theorem VN : AE Tryz.prog 158 = true := by kernel_rfl
theorem UE : AE Tryz.prog 159 = true := by kernel_rfl
theorem Wo : AE Tryz.prog 16 = true := by kernel_rfl
theorem VE : AE Tryz.prog 160 = true := by kernel_rfl
theorem Ty : AE Tryz.prog 161 = true := by kernel_rfl
theorem Tf : AE Tryz.prog 162 = true := by kernel_rfl
theorem Tm : AE Tryz.prog 163 = true := by kernel_rfl
theorem QP : AE Tryz.prog 164 = true := by kernel_rfl
theorem Tu : AE Tryz.prog 165 = true := by kernel_rfl
theorem Tk : AE Tryz.prog 166 = true := by kernel_rfl
theorem Rr : AE Tryz.prog 167 = true := by kernel_rfl
theorem Ti : AE Tryz.prog 168 = true := by kernel_rfl
theorem Vn : AE Tryz.prog 169 = true := by kernel_rfl
theorem V8 : AE Tryz.prog 17 = true := by kernel_rfl
theorem UJ : AE Tryz.prog 170 = true := by kernel_rfl
theorem RT : AE Tryz.prog 171 = true := by kernel_rfl
theorem RY : AE Tryz.prog 172 = true := by kernel_rfl
theorem Wz : AE Tryz.prog 18 = true := by kernel_rfl
theorem Uw : AE Tryz.prog 21 = true := by kernel_rfl
theorem Wq : AE Tryz.prog 22 = true := by kernel_rfl
theorem WP : AE Tryz.prog 24 = true := by kernel_rfl
theorem Vw : AE Tryz.prog 25 = true := by kernel_rfl
theorem WH : AE Tryz.prog 26 = true := by kernel_rfl
theorem TK : AE Tryz.prog 27 = true := by kernel_rfl
theorem Wa : AE Tryz.prog 30 = true := by kernel_rfl
theorem TT : AE Tryz.prog 35 = true := by kernel_rfl
theorem Pw : AE Tryz.prog 39 = true := by kernel_rfl
theorem Ww : AE Tryz.prog 40 = true := by kernel_rfl
theorem WF : AE Tryz.prog 41 = true := by kernel_rfl
theorem U9 : AE Tryz.prog 42 = true := by kernel_rfl
theorem UB : AE Tryz.prog 44 = true := by kernel_rfl
theorem Rc : AE Tryz.prog 45 = true := by kernel_rfl
theorem Um : AE Tryz.prog 46 = true := by kernel_rfl
theorem VO : AE Tryz.prog 47 = true := by kernel_rfl
theorem T3 : AE Tryz.prog 48 = true := by kernel_rfl
theorem Uc : AE Tryz.prog 49 = true := by kernel_rfl
theorem U4 : AE Tryz.prog 50 = true := by kernel_rfl
theorem Qu : AE Tryz.prog 51 = true := by kernel_rfl
theorem UN : AE Tryz.prog 52 = true := by kernel_rfl
theorem T0 : AE Tryz.prog 53 = true := by kernel_rfl
theorem TS : AE Tryz.prog 54 = true := by kernel_rfl
theorem US : AE Tryz.prog 55 = true := by kernel_rfl
theorem V3 : AE Tryz.prog 56 = true := by kernel_rfl
theorem Sj : AE Tryz.prog 58 = true := by kernel_rfl
theorem WJ : AE Tryz.prog 59 = true := by kernel_rfl
theorem WA : AE Tryz.prog 60 = true := by kernel_rfl
theorem Vt : AE Tryz.prog 61 = true := by kernel_rfl
theorem SI : AE Tryz.prog 62 = true := by kernel_rfl
theorem Wl : AE Tryz.prog 63 = true := by kernel_rfl
theorem RP : AE Tryz.prog 65 = true := by kernel_rfl
theorem PE : AE Tryz.prog 66 = true := by kernel_rfl
theorem Uo : AE Tryz.prog 67 = true := by kernel_rfl
theorem Wf : AE Tryz.prog 68 = true := by kernel_rfl
theorem WO : AE Tryz.prog 75 = true := by kernel_rfl
theorem WD : AE Tryz.prog 76 = true := by kernel_rfl
theorem V9 : AE Tryz.prog 78 = true := by kernel_rfl
theorem Wi : AE Tryz.prog 82 = true := by kernel_rfl
theorem Wj : AE Tryz.prog 83 = true := by kernel_rfl
theorem T8 : AE Tryz.prog 84 = true := by kernel_rfl
theorem Wu : AE Tryz.prog 85 = true := by kernel_rfl
theorem Wc : AE Tryz.prog 86 = true := by kernel_rfl
theorem VZ : AE Tryz.prog 87 = true := by kernel_rfl
theorem WQ : AE Tryz.prog 88 = true := by kernel_rfl
theorem V0 : AE Tryz.prog 89 = true := by kernel_rfl
theorem Wx : AE Tryz.prog 90 = true := by kernel_rfl
theorem Ug : AE Tryz.prog 91 = true := by kernel_rfl
theorem Uv : AE Tryz.prog 92 = true := by kernel_rfl
theorem WI : AE Tryz.prog 93 = true := by kernel_rfl
theorem Wv : AE Tryz.prog 94 = true := by kernel_rfl
theorem V1 : AE Tryz.prog 95 = true := by kernel_rfl
theorem Wn : AE Tryz.prog 96 = true := by kernel_rfl
theorem UF : AE Tryz.prog 97 = true := by kernel_rfl
theorem Wm : AE Tryz.prog 98 = true := by kernel_rfl
theorem WL : AE Tryz.prog 99 = true := by kernel_rfl
theorem Mb : Mi Tryz.prog 152 .u64 = true := by kernel_rfl
theorem OZ : Mi Tryz.prog 179 .u32 = true := by kernel_rfl
theorem TF : Mi Tryz.prog 181 .u64 = true := by kernel_rfl
theorem Tq : Mi Tryz.prog 195 .u64 = true := by kernel_rfl
theorem P7 : Mi Tryz.prog 3 .i64 = true := by kernel_rfl
theorem VX : Mi Tryz.prog 5 .u8 = true := by kernel_rfl
theorem Wy : Mi Tryz.prog 81 .u8 = true := by kernel_rfl
theorem Ua : Tryz.prog.underlying 9 = some .string := by kernel_rfl
theorem N7 : Tryz.prog.underlying 134 = some (.map 9 4) := by kernel_rfl
theorem Vb : Iq Tryz.prog 29 = some [(0, 1), (1, 1), (2, 1), (3, 1)] := by kernel_rfl
theorem Jv : Iq Tryz.prog 46 = some [(0, 1), (1, 1), (2, 1)] := by kernel_rfl
theorem QQ : Iq Tryz.prog 66 = some [(0, 1), (1, 1), (2, 1)] := by kernel_rfl
theorem Vd : Iq Tryz.prog 69 = some [(0, 1), (1, 1), (2, 1), (3, 1), (4, 1), (5, 1)] := by kernel_rfl
theorem Sg : Iq Tryz.prog 84 = some [(0, 1), (1, 1), (2, 1)] := by kernel_rfl
theorem V7 : Iq Tryz.prog 86 = some [(0, 3), (3, 3), (6, 3)] := by kernel_rfl
theorem Qg : Qj Tryz.prog 66 = some [0, 0, 0] := by kernel_rfl
theorem VP : Qj Tryz.prog 84 = some [0, 0, 0] := by kernel_rfl
theorem Jy : sliceB Tryz.prog 22 5 = true := by kernel_rfl
theorem Rl : sliceB Tryz.prog 23 101 = true := by kernel_rfl
theorem AJ : sliceB Tryz.prog 26 3 = true := by kernel_rfl
theorem FC : sliceB Tryz.prog 27 69 = true := by kernel_rfl
theorem AS : sliceB Tryz.prog 30 46 = true := by kernel_rfl
theorem EB : sliceB Tryz.prog 44 81 = true := by kernel_rfl
theorem KE : sliceB Tryz.prog 48 86 = true := by kernel_rfl
theorem Rj : sliceB Tryz.prog 54 41 = true := by kernel_rfl
theorem A2 : sliceB Tryz.prog 55 66 = true := by kernel_rfl
theorem Hp : sliceB Tryz.prog 67 70 = true := by kernel_rfl
theorem HQ : sliceB Tryz.prog 70 4 = true := by kernel_rfl
theorem FR : sliceB Tryz.prog 94 84 = true := by kernel_rfl
theorem MJ : (Tryz.prog.underlying 152).isSome = true := by kernel_rfl
theorem OR : (Tryz.prog.underlying 179).isSome = true := by kernel_rfl
theorem QI : (Tryz.prog.underlying 181).isSome = true := by kernel_rfl
theorem Rw : (Tryz.prog.underlying 3).isSome = true := by kernel_rfl
theorem Sq : (Tryz.prog.underlying 5).isSome = true := by kernel_rfl
theorem WN : (Tryz.prog.underlying 81).isSome = true := by kernel_rfl
theorem SS : NQ Tryz.prog 9 = true := by kernel_rfl
theorem Rk : HR Tryz.prog 101 6 = true := by kernel_rfl
theorem Pd : HR Tryz.prog 195 1 = true := by kernel_rfl
theorem WC : HR Tryz.prog 25 4 = true := by kernel_rfl
theorem RX : HR Tryz.prog 26 1 = true := by kernel_rfl
theorem Wr : HR Tryz.prog 27 1 = true := by kernel_rfl
theorem Ek : HR Tryz.prog 29 4 = true := by kernel_rfl
theorem Es : HR Tryz.prog 3 1 = true := by kernel_rfl
theorem PX : HR Tryz.prog 4 1 = true := by kernel_rfl
theorem Sd : HR Tryz.prog 41 3 = true := by kernel_rfl
theorem We : HR Tryz.prog 44 1 = true := by kernel_rfl
theorem Ay : HR Tryz.prog 46 3 = true := by kernel_rfl
theorem TV : HR Tryz.prog 5 1 = true := by kernel_rfl
theorem AN : HR Tryz.prog 66 3 = true := by kernel_rfl
theorem UP : HR Tryz.prog 67 1 = true := by kernel_rfl
theorem Fj : HR Tryz.prog 69 6 = true := by kernel_rfl
theorem Oe : HR Tryz.prog 70 1 = true := by kernel_rfl
theorem HM : HR Tryz.prog 81 1 = true := by kernel_rfl
theorem FQ : HR Tryz.prog 84 3 = true := by kernel_rfl
theorem OY : HR Tryz.prog 86 9 = true := by kernel_rfl
theorem U0 : ES Tryz.prog 101 = some (.agg #[.int .u8 0, .int .u8 0, .int .u8 0, .bool false, .int .u16 0, .int .u16 0]) := by kernel_rfl
theorem TD : ES Tryz.prog 195 = some (.int .u64 0) := by kernel_rfl
theorem QC : ES Tryz.prog 29 = some (.agg #[.slice none 0 0, .slice none 0 0, .slice none 0 0, .slice none 0 0]) := by kernel_rfl
theorem Lr : ES Tryz.prog 3 = some (.int .i64 0) := by kernel_rfl
theorem S7 : ES Tryz.prog 4 = some (.bool false) := by kernel_rfl
theorem V6 : ES Tryz.prog 41 = some (.agg #[.slice none 0 0, .slice none 0 0, .slice none 0 0]) := by kernel_rfl
theorem DN : ES Tryz.prog 46 = some (.agg #[.slice none 0 0, .slice none 0 0, .slice none 0 0]) := by kernel_rfl
theorem VU : ES Tryz.prog 5 = some (.int .u8 0) := by kernel_rfl
theorem Ko : ES Tryz.prog 66 = some (.agg #[.int .i64 0, .int .i64 0, .int .i64 0]) := by kernel_rfl
theorem K9 : ES Tryz.prog 69 = some (.agg #[.int .i64 0, .int .i64 0, .int .i64 0, .bool false, .slice none 0 0, .slice none 0 0]) := by kernel_rfl
theorem TL : ES Tryz.prog 70 = some (.slice none 0 0) := by kernel_rfl
theorem Pr : ES Tryz.prog 81 = some (.int .u8 0) := by kernel_rfl
theorem J9 : ES Tryz.prog 84 = some (.agg #[.int .i64 0, .int .i64 0, .int .i64 0]) := by kernel_rfl
theorem R2 : ES Tryz.prog 86 = some (.agg #[.int .i64 0, .int .i64 0, .int .i64 0, .slice none 0 0, .slice none 0 0, .slice none 0 0, .int .i64 0, .int .i64 0, .int .i64 0]) := by kernel_rfl
end Go.Lift

/- That the code does what the shallow programs do, function by function. Written by a program (gen.py). -/
namespace Go.Lift
open Go.RowKit
open Go.Proofs
set_option maxRecDepth 10000 in
theorem IF (N : Nat) (p0 : List Int) (p1 : Int) (r : Int) (h : Ej N p0 p1 = some r) : AA Tryz.prog 50 [.e (.one (.pure (.sl (p0.map Bv)))), .e (.one (.pure (.val (.int .i64 p1))))] [] (.e (.one (.pure (.val (.int .i64 r))))) := by
 unfold Ej at h
 refine Ar (n := 14) (rs := [.tmp 4]) Tryz.func50 rfl rfl rfl (AZ rfl) (AZ rfl) rfl fun w0 S0 => ?_
 refine Ab (Aa Ad rfl (qa rfl (Ae (Ab (Ab (Aa Ad rfl (qm rfl (qm rfl (AP Jy rfl (AR rfl (Ae ?_)))))))))))
 refine Ap rfl (fun c1 => ?_) (fun c1 => ?_)
 ·have h := An c1 h
  refine Ab (Aa Ad rfl (qm rfl (qm rfl ?_)))
  obtain ⟨v2, a2, b2, h⟩ := Aj h
  refine qi Jy TV a2 (Ag b2) rfl (qk Ur rfl (Gk Sq P7 rfl (qa rfl (Ae ?_))))
  obtain rfl := sj h
  refine Am (sm [] [(4, .e (.one (.pure (.val (.int .i64 ((IntKind.wrap .i64 v2)))))))] [] rfl rfl) (Ax ?_)
  exact ⟨⟨[_], ⟨.tmp _ _ rfl, trivial⟩, rfl⟩, trivial⟩
 ·have h := Ao c1 h
  refine Aq (Ab (Aa Ad rfl (qa rfl (Ae ?_))))
  obtain rfl := sj h
  refine Am (sm [] [(4, .e (.one (.pure (.val (.int .i64 0)))))] [] rfl rfl) (Ax ?_)
  exact ⟨⟨[_], ⟨.tmp _ _ rfl, trivial⟩, rfl⟩, trivial⟩
set_option maxRecDepth 10000 in
theorem D4 (N : Nat) (p0 : AQ) (r : Bool) (h : BI N p0 = some r) : AA Tryz.prog 51 [.e (.agg [.pure (.val (.int .i64 p0.fKind)), .pure (.val (.int .i64 p0.fFrom)), .pure (.val (.int .i64 p0.fTo)), .pure (.val (.bool p0.fAware)), .pure (.sl (p0.fOK.map (Gl eB))), .pure (.sl (p0.fRewrite.map (Gl eB)))])] [] (.e (.one (.pure (.val (.bool r))))) := by
 unfold BI at h
 refine Ar (n := 11) (rs := [.tmp 2]) Tryz.func51 rfl rfl rfl (AZ rfl) (AZ rfl) rfl fun w0 S0 => ?_
 refine Ab (Aa Ad rfl (qb rfl (qa rfl (Ae ?_))))
 refine AK h (fun v1 => mk [(2, .e (.one (.pure (.val (.bool v1)))))] []) (fun j1 h => ?_) (fun v1 h => ?_)
 ·refine Aa Ad rfl (qf GH rfl (ql Dn rfl (Cp rfl (qm rfl ?_))))
  refine AC (t := 6) rfl (fun c2 => ?_) (fun c2 => ?_)
  ·have h := An c2 h
   refine qn rfl (qn rfl (qn rfl (qp rfl (qa rfl (Ae ?_)))))
   exact Av _ h (sm [] _ _ rfl rfl)
  ·have h := Ao c2 h
   refine qf GH rfl (ql Dn rfl (Cp rfl (qp rfl (qa rfl (Ae ?_)))))
   exact Av _ h (sm [] _ _ rfl rfl)
 ·obtain rfl := sj h
  refine Am (sm [] [(2, .e (.one (.pure (.val (.bool v1)))))] [] rfl rfl) (Ax ?_)
  exact ⟨⟨[_], ⟨.tmp _ _ rfl, trivial⟩, rfl⟩, trivial⟩
set_option maxRecDepth 10000 in
theorem ID (N : Nat) (p0 : Int) (p1 : Int) (p2 : Int) (p3 : Bool) (r : (List (List Bool))) (h : Ei N p0 p1 p2 p3 = some r) : AA Tryz.prog 52 [.e (.one (.pure (.val (.int .i64 p0)))), .e (.one (.pure (.val (.int .i64 p1)))), .e (.one (.pure (.val (.int .u16 p2)))), .e (.one (.pure (.val (.bool p3))))] [(1, r.map (Gl eB))] (.e (.one (.own 0))) := by
 unfold Ei at h
 refine Ar (n := 47) (rs := [.tmp 8]) Tryz.func52 rfl rfl rfl (AZ rfl) (AZ rfl) rfl fun w0 S0 => ?_
 refine Ab (Aa Ad rfl (qa rfl (Ae (Ab (Aa Ad rfl (qa rfl (Ae (Ab (Ab (Aa Ad rfl (qa rfl (Ae ?_))))))))))))
 refine AB (L := CJ N p0 p1 p2 p3) h (fun v1 => mk [(0, .e (.one (.pure (.val (.int .i64 p0))))), (1, .e (.one (.pure (.val (.int .i64 p1))))), (2, .e (.one (.pure (.val (.int .u16 p2))))), (3, .e (.one (.pure (.val (.bool p3))))), (9, .e (.one (.own 2001))), (10, .e (.one (.pure (.val (.int .i64 v1.2)))))] [(2001, .vec 1 (v1.1.map (Gl eB)))]) (fun v2 => mk [(9, .e (.one (.own 2002)))] [(2002, .vec 1 (v2.map (Gl eB)))]) (fun _ _ => rfl) ((BR 9 2010 1 rfl rfl rfl).trans (sm [(2001, 2010)] _ _ rfl rfl)) (fun j1 n1 v1 h => ?_) (fun v2 s h hs => ?_)
 ·unfold CJ at h
  refine Ab (Ab (Aa Ad rfl (qm rfl (qm rfl (AR rfl (Ae ?_))))))
  refine Ap rfl (fun c3 => ?_) (fun c3 => ?_)
  ·have h := An c3 h
   refine Aq (Ab (AD (Ab (Aa Ad rfl (qa rfl (Ae (Ab (Ab (Aa Ad rfl (qa rfl (Ae ?_)))))))))))
   refine AB (L := CF N p1 p2 p3 v1) h (fun v4 => mk [(0, .e (.one (.pure (.val (.int .i64 p0))))), (1, .e (.one (.pure (.val (.int .i64 p1))))), (2, .e (.one (.pure (.val (.int .u16 p2))))), (3, .e (.one (.pure (.val (.bool p3))))), (9, .e (.one (.own 2003))), (10, .e (.one (.pure (.val (.int .i64 v1.2))))), (11, .e (.one (.own 2004))), (12, .e (.one (.pure (.val (.int .i64 v4.2)))))] [(2003, .vec 1 (v1.1.map (Gl eB))), (2004, .vec 1 (v4.1.map eB))]) (fun v5 => mk [(0, .e (.one (.pure (.val (.int .i64 p0))))), (1, .e (.one (.pure (.val (.int .i64 p1))))), (2, .e (.one (.pure (.val (.int .u16 p2))))), (3, .e (.one (.pure (.val (.bool p3))))), (9, .e (.one (.own 2005))), (10, .e (.one (.pure (.val (.int .i64 v1.2))))), (11, .e (.one (.own 2006)))] [(2005, .vec 1 (v1.1.map (Gl eB))), (2006, .vec 1 (v5.map eB))]) (fun _ _ => rfl) ((BR 11 2009 1 rfl rfl rfl).trans (sm [(2003, 2001), (2004, 2009)] _ _ rfl rfl)) (fun j4 n4 v4 h => ?_) (fun v5 s h hs => ?_)
   ·unfold CF at h
    refine Ab (Ab (Aa Ad rfl (qm rfl (qm rfl (AR rfl (Ae ?_))))))
    refine Ap rfl (fun c6 => ?_) (fun c6 => ?_)
    ·have h := An c6 h
     refine Aq ?_
     refine AK h (fun v7 => mk [(0, .e (.one (.pure (.val (.int .i64 p0))))), (1, .e (.one (.pure (.val (.int .i64 p1))))), (2, .e (.one (.pure (.val (.int .u16 p2))))), (3, .e (.one (.pure (.val (.bool p3))))), (9, .e (.one (.own 2007))), (10, .e (.one (.pure (.val (.int .i64 v1.2))))), (11, .e (.one (.own 2008))), (12, .e (.one (.pure (.val (.int .i64 v4.2)))))] [(2007, .vec 1 (v1.1.map (Gl eB))), (2008, .vec 1 (v7.map eB))]) (fun j7 h => ?_) (fun v7 h => ?_)
     ·refine AD (Aa Ad rfl (qm rfl (qm rfl (qm rfl ?_))))
      refine AC (t := 25) rfl (fun c8 => ?_) (fun c8 => ?_)
      ·have h := An c8 h
       refine qm rfl (qm rfl (Cp rfl (qp rfl (qm rfl ?_))))
       refine AC (t := 30) rfl (fun c9 => ?_) (fun c9 => ?_)
       ·have h := An c9 h
        refine qn rfl (qn rfl (qn rfl (qn rfl (qn rfl (qn rfl (qn rfl (qn rfl (qp rfl (EX HQ PX S7 rfl ?_)))))))))
        obtain ⟨c10, h⟩ := AW h
        refine Ep (f := eB) HQ HQ PX Ub S7 c10 rfl (qa rfl (Ae ?_))
        exact Av _ h (sm [(2007, 2003), (2008, 41)] _ _ rfl rfl)
       ·have h := Ao c9 h
        refine qm rfl (qm rfl (Hg rfl (qm rfl (AI rfl ?_))))
        obtain ⟨c11, h⟩ := AW h
        refine HP rfl c11 (Kr rfl (by decide) (Cp rfl (qp rfl (EX HQ PX S7 rfl ?_))))
        obtain ⟨c12, h⟩ := AW h
        refine Ep (f := eB) HQ HQ PX Ub S7 c12 rfl (qa rfl (Ae ?_))
        exact Av _ h (sm [(2007, 2003), (2008, 41)] _ _ rfl rfl)
      ·have h := Ao c8 h
       refine qn rfl (qn rfl (qn rfl (qp rfl (qm rfl (qm rfl (qm rfl (Hg rfl (qm rfl (AI rfl ?_)))))))))
       obtain ⟨c13, h⟩ := AW h
       refine HP rfl c13 (Kr rfl (by decide) (Cp rfl (qp rfl (EX HQ PX S7 rfl ?_))))
       obtain ⟨c14, h⟩ := AW h
       refine Ep (f := eB) HQ HQ PX Ub S7 c14 rfl (qa rfl (Ae ?_))
       exact Av _ h (sm [(2007, 2003), (2008, 41)] _ _ rfl rfl)
     ·refine Aa Ad rfl (qm rfl (AI rfl (qa rfl (Ae ?_))))
      exact Av _ h (sm [(2003, 2007), (2004, 2008)] _ _ rfl rfl)
    ·have h := Ao c6 h
     refine AL ?_
     exact Av _ h (sm [(2005, 2003), (2006, 2004)] _ _ rfl rfl)
   ·refine Am hs (Aa Ad rfl (qm rfl (qm rfl (En (Bl 2006 _ _ rfl rfl) (EX Hp Oe TL rfl ?_)))))
    obtain ⟨c15, h⟩ := AW h
    refine Ep (f := (Gl eB)) Hp Hp Oe Vf TL c15 rfl (qa rfl (Ae (Aa Ad rfl (qm rfl (AI rfl (qa rfl (Ae ?_)))))))
    exact Av _ h (sm [(2001, 45)] _ _ rfl rfl)
  ·have h := Ao c3 h
   refine AL ?_
   exact Av _ h (sm [(2002, 2001)] _ _ rfl rfl)
 ·refine Am hs (Ab (Aa Ad rfl (qm rfl (qa rfl (Ae ?_)))))
  obtain rfl := sj h
  refine Am (sm [(1000, 2002)] [(8, .e (.one (.own 1000)))] [(1000, .vec 1 (v2.map (Gl eB)))] rfl rfl) (Ax ?_)
  exact ⟨⟨[_], ⟨.tmp _ _ rfl, trivial⟩, rfl⟩, ⟨rfl, trivial⟩⟩
set_option maxRecDepth 10000 in
theorem Lz (N : Nat) (p0 : C0) (r : Al × Bool) (h : Fm N p0 = some r) : AA Tryz.prog 16 [.e (.agg [.pure (.sl (p0.fVersions.map Bv)), .pure (.sl (p0.fNow.map Bv)), .pure (.sl (p0.fTarget.map Bv)), .pure (.sl (p0.fLinks.map Cz))])] [(1, r.1.fVersions.map Ak), (1, r.1.fNow.map Ak), (1, r.1.fTarget.map Ak), (6, r.1.fTables.map Au)] (.tup [.agg [.own 0, .own 1, .own 2, .own 3], .one (.pure (.val (.bool r.2)))]) := by
 unfold Fm at h
 refine Ar (n := 152) (rs := [.cell 2 29, .tmp 3]) Tryz.func16 rfl rfl rfl (AZ rfl) (AZ rfl) rfl fun w0 S0 => ?_
 refine Ab (Aa Ad rfl (qb rfl (qz QC rfl (qa rfl (Ae (Ab ?_))))))
 refine AK h (fun v1 => mk [(1, .e (.one (.ptr 1 0))), (2, .e (.one (.ptr 2 0))), (19, .e (.one (.pure (.val (.bool v1)))))] [(1, .box [.pure (.sl (p0.fVersions.map Bv)), .pure (.sl (p0.fNow.map Bv)), .pure (.sl (p0.fTarget.map Bv)), .pure (.sl (p0.fLinks.map Cz))]), (2, .box [.pure (.nil0), .pure (.nil0), .pure (.nil0), .pure (.nil0)])]) (fun j1 h => ?_) (fun v1 h => ?_)
 ·refine Aa Ad rfl (qf NZ rfl (ql OA rfl (AP Jy rfl (EA rfl (qm rfl ?_)))))
  refine AC (t := 14) rfl (fun c2 => ?_) (fun c2 => ?_)
  ·have h := An c2 h
   refine qn rfl (qn rfl (qn rfl (qn rfl (qp rfl (Ae ?_)))))
   exact Av _ h (sm [] _ _ rfl rfl)
  ·have h := Ao c2 h
   refine qf Ob rfl (ql Un rfl (AP Rl rfl (EA rfl (qp rfl (Ae ?_)))))
   exact Av _ h (sm [] _ _ rfl rfl)
 ·refine Ap rfl (fun c3 => ?_) (fun c3 => ?_)
  ·have h := An c3 h
   refine Ab (Aa Ad rfl (CO QC Vb rfl (qs Ek rfl (qa rfl (Ae ?_)))))
   obtain rfl := sj h
   refine Am ((A1 2 0 2001 1 _ rfl rfl rfl rfl).trans ((A1 2 1 2002 1 _ rfl rfl rfl rfl).trans ((A1 2 2 2003 1 _ rfl rfl rfl rfl).trans ((A1 2 3 2004 6 _ rfl rfl rfl rfl).trans (sm [(1000, 2001), (1001, 2002), (1002, 2003), (1003, 2004)] [(2, .e (.one (.ptr 2 0))), (3, .e (.one (.pure (.val (.bool false)))))] [(2, .box [.own 1000, .own 1001, .own 1002, .own 1003]), (1000, .vec 1 ((([] : List Int)).map Ak)), (1001, .vec 1 ((([] : List Int)).map Ak)), (1002, .vec 1 ((([] : List Int)).map Ak)), (1003, .vec 6 ((([] : List AQ)).map Au))] rfl rfl))))) (Ax ?_)
   exact ⟨⟨[_, _], ⟨.cellN _ _ _ _ _ _ _ rfl rfl EE Ek rfl rfl (Kw rfl), ⟨.tmp _ _ rfl, trivial⟩⟩, rfl⟩, ⟨rfl, rfl, rfl, rfl, trivial⟩⟩
  ·have h := Ao c3 h
   refine Aq (Ab (Aa Ad rfl (qz QC rfl (Ae (Ab (Ab (Aa Ad rfl (qa rfl (Ae ?_)))))))))
   refine AB (L := C7 N p0) h (fun v4 => mk [(1, .e (.one (.ptr 1 0))), (2, .e (.one (.ptr 2 0))), (4, .e (.one (.ptr 4 0))), (5, .e (.one (.pure (.val (.int .i64 v4.2.2.2)))))] [(1, .box [.pure (.sl (p0.fVersions.map Bv)), .pure (.sl (p0.fNow.map Bv)), .pure (.sl (p0.fTarget.map Bv)), .pure (.sl (p0.fLinks.map Cz))]), (2, .box [.pure (.nil0), .pure (.nil0), .pure (.nil0), .pure (.nil0)]), (4, .box [.own 2005, .own 2006, .own 2007, .pure (.nil0)]), (2005, .vec 1 (v4.1.map Ak)), (2006, .vec 1 (v4.2.1.map Ak)), (2007, .vec 1 (v4.2.2.1.map Ak))]) (fun v5 => mk [(1, .e (.one (.ptr 1 0))), (2, .e (.one (.ptr 2 0))), (4, .e (.one (.ptr 4 0)))] [(1, .box [.pure (.sl (p0.fVersions.map Bv)), .pure (.sl (p0.fNow.map Bv)), .pure (.sl (p0.fTarget.map Bv)), .pure (.sl (p0.fLinks.map Cz))]), (2, .box [.pure (.nil0), .pure (.nil0), .pure (.nil0), .pure (.nil0)]), (4, .box [.own 2008, .own 2009, .own 2010, .pure (.nil0)]), (2008, .vec 1 (v5.1.map Ak)), (2009, .vec 1 (v5.2.1.map Ak)), (2010, .vec 1 (v5.2.2.map Ak))]) (fun _ _ => rfl) ((A1 4 0 2011 1 _ rfl rfl rfl rfl).trans ((A1 4 1 2012 1 _ rfl rfl rfl rfl).trans ((A1 4 2 2013 1 _ rfl rfl rfl rfl).trans (sm [(2005, 2011), (2006, 2012), (2007, 2013)] _ _ rfl rfl)))) (fun j4 n4 v4 h => ?_) (fun v5 s h hs => ?_)
   ·unfold C7 at h
    refine Ab (Ab (Aa Ad rfl (qm rfl (qf NZ rfl (ql OA rfl (AP Jy rfl (AR rfl (Ae ?_))))))))
    refine Ap rfl (fun c6 => ?_) (fun c6 => ?_)
    ·have h := An c6 h
     refine Aq (Ab (AD (Ab (Aa Ad rfl (qf NZ rfl (ql OA rfl (qm rfl ?_)))))))
     obtain ⟨v7, a7, b7, h⟩ := Aj h
     refine qi Jy TV a7 (Ag b7) rfl (qk Ur rfl (Kr rfl (by decide) (Gk Sq P7 rfl (AI rfl (qa rfl (Ae (Ab (Aa Ad rfl (qf BZ rfl (ql Bw rfl (qm rfl (EX AJ Es Lr rfl ?_))))))))))))
     obtain ⟨c8, h⟩ := AW h
     refine Ep (f := Ak) AJ AJ Es Oa Lr c8 rfl (qf BZ rfl (qs RX rfl (Ae (Ab (Aa Ad rfl (qf H7 rfl (ql Bw rfl (qf S3 rfl (ql OA rfl (qm rfl ?_))))))))))
     obtain ⟨v9, a9, h⟩ := bind_some h
     refine AG [] (IF N p0.fNow v4.2.2.2 v9 a9) U4 rfl (qm rfl ?_)
     obtain ⟨c10, h⟩ := AW h
     refine Kr rfl c10 (EX AJ Es Lr rfl ?_)
     obtain ⟨c11, h⟩ := AW h
     refine Ep (f := Ak) AJ AJ Es Oa Lr c11 rfl (qf H7 rfl (qs RX rfl (Az (by kernel_rfl) (Aa Ad rfl (qf Hx rfl (ql Bw rfl (qf SV rfl (ql OA rfl (qm rfl ?_)))))))))
     obtain ⟨v12, a12, h⟩ := bind_some h
     refine AG [] (IF N p0.fTarget v4.2.2.2 v12 a12) U4 rfl (qm rfl ?_)
     obtain ⟨c13, h⟩ := AW h
     refine Kr rfl c13 (EX AJ Es Lr rfl ?_)
     obtain ⟨c14, h⟩ := AW h
     refine Ep (f := Ak) AJ AJ Es Oa Lr c14 rfl (qf Hx rfl (qs RX rfl (Az (by kernel_rfl) (Aa Ad rfl (qm rfl (AI rfl (qa rfl (Ae ?_))))))))
     exact Av _ h (sm [(2005, 40), (2006, 51), (2007, 62)] _ _ rfl rfl)
    ·have h := Ao c6 h
     refine AL ?_
     exact Av _ h (sm [(2008, 2005), (2009, 2006), (2010, 2007)] _ _ rfl rfl)
   ·refine Am hs (Ab (Ab (Aa Ad rfl (qa rfl (Ae ?_)))))
    refine AB (L := BH N p0 v5) h (fun v15 => mk [(1, .e (.one (.ptr 1 0))), (2, .e (.one (.ptr 2 0))), (4, .e (.one (.ptr 4 0))), (7, .e (.one (.pure (.val (.int .i64 v15.2)))))] [(1, .box [.pure (.sl (p0.fVersions.map Bv)), .pure (.sl (p0.fNow.map Bv)), .pure (.sl (p0.fTarget.map Bv)), .pure (.sl (p0.fLinks.map Cz))]), (2, .box [.pure (.nil0), .pure (.nil0), .pure (.nil0), .pure (.nil0)]), (4, .box [.own 2014, .own 2015, .own 2016, .own 2017]), (2014, .vec 1 (v5.1.map Ak)), (2015, .vec 1 (v5.2.1.map Ak)), (2016, .vec 1 (v5.2.2.map Ak)), (2017, .vec 6 (v15.1.map Au))]) (fun v16 => mk [(2, .e (.one (.ptr 2 0))), (4, .e (.one (.ptr 4 0)))] [(2, .box [.pure (.nil0), .pure (.nil0), .pure (.nil0), .pure (.nil0)]), (4, .box [.own 2018, .own 2019, .own 2020, .own 2021]), (2018, .vec 1 (v5.1.map Ak)), (2019, .vec 1 (v5.2.1.map Ak)), (2020, .vec 1 (v5.2.2.map Ak)), (2021, .vec 6 (v16.map Au))]) (fun _ _ => rfl) ((A1 4 3 2039 6 _ rfl rfl rfl rfl).trans (sm [(2014, 2008), (2015, 2009), (2016, 2010), (2017, 2039)] _ _ rfl rfl)) (fun j15 n15 v15 h => ?_) (fun v16 s h hs => ?_)
    ·unfold BH at h
     refine Ab ?_
     refine AK h (fun v17 => mk [(1, .e (.one (.ptr 1 0))), (2, .e (.one (.ptr 2 0))), (4, .e (.one (.ptr 4 0))), (7, .e (.one (.pure (.val (.int .i64 v15.2))))), (74, .e (.one (.pure (.val (.bool v17)))))] [(1, .box [.pure (.sl (p0.fVersions.map Bv)), .pure (.sl (p0.fNow.map Bv)), .pure (.sl (p0.fTarget.map Bv)), .pure (.sl (p0.fLinks.map Cz))]), (2, .box [.pure (.nil0), .pure (.nil0), .pure (.nil0), .pure (.nil0)]), (4, .box [.own 2022, .own 2023, .own 2024, .own 2025]), (2022, .vec 1 (v5.1.map Ak)), (2023, .vec 1 (v5.2.1.map Ak)), (2024, .vec 1 (v5.2.2.map Ak)), (2025, .vec 6 (v15.1.map Au))]) (fun j17 h => ?_) (fun v17 h => ?_)
     ·refine Aa Ad rfl (qm rfl (qf Ob rfl (ql Un rfl (AP Rl rfl (AR rfl (qm rfl ?_))))))
      refine AC (t := 69) rfl (fun c18 => ?_) (fun c18 => ?_)
      ·have h := An c18 h
       refine qf BZ rfl (ql Bw rfl (Fz AJ rfl (EA rfl (qp rfl (Ae ?_)))))
       exact Av _ h (sm [(2022, 2014), (2023, 2015), (2024, 2016), (2025, 2017)] _ _ rfl rfl)
      ·have h := Ao c18 h
       refine qn rfl (qn rfl (qn rfl (qn rfl (qp rfl (Ae ?_)))))
       exact Av _ h (sm [(2022, 2014), (2023, 2015), (2024, 2016), (2025, 2017)] _ _ rfl rfl)
     ·refine Ap rfl (fun c19 => ?_) (fun c19 => ?_)
      ·have h := An c19 h
       refine Aq (Ab (AD (Ab (Aa Ad rfl (qf Ob rfl (ql Un rfl (qm rfl ?_)))))))
       obtain ⟨v20, a20, b20, h⟩ := Aj h
       refine qi Rl Rk a20 (Ag b20) rfl (qK UX Rk rfl (qz U0 rfl (qs Rk rfl (Ae (Ab (Aa Ad rfl (qf Q1 rfl (ql Ur rfl (Kr rfl (by decide) (Gk Sq P7 rfl (AI rfl (qf Ru rfl (ql Ur rfl (Gk Sq P7 rfl (qf BZ rfl (ql Bw rfl (Fz AJ rfl ?_)))))))))))))))))
       obtain ⟨c21, h⟩ := AW h
       refine Kr rfl c21 (qf RG rfl (ql Ur rfl (Gk Sq P7 rfl (qf BZ rfl (ql Bw rfl (Fz AJ rfl ?_))))))
       obtain ⟨c22, h⟩ := AW h
       refine Kr rfl c22 (CO K9 Vd rfl (qz K9 rfl (qs Fj rfl (Az (by kernel_rfl) ?_))))
       refine AK h (fun v23 => mk [(1, .e (.one (.ptr 1 0))), (2, .e (.one (.ptr 2 0))), (4, .e (.one (.ptr 4 0))), (7, .e (.one (.pure (.val (.int .i64 v15.2))))), (8, .e (.one (.ptr 8 0))), (9, .e (.one (.ptr 9 0)))] [(1, .box [.pure (.sl (p0.fVersions.map Bv)), .pure (.sl (p0.fNow.map Bv)), .pure (.sl (p0.fTarget.map Bv)), .pure (.sl (p0.fLinks.map Cz))]), (2, .box [.pure (.nil0), .pure (.nil0), .pure (.nil0), .pure (.nil0)]), (4, .box [.own 2026, .own 2027, .own 2028, .own 2029]), (8, .box [.pure (.val (.int .u8 v20.fKind)), .pure (.val (.int .u8 v20.fFrom)), .pure (.val (.int .u8 v20.fTo)), .pure (.val (.bool v20.fAware)), .pure (.val (.int .u16 v20.fBad)), .pure (.val (.int .u16 v20.fLost))]), (9, .box [.pure (.val (.int .i64 ((IntKind.wrap .i64 (1 + (IntKind.wrap .i64 ((Int.tmod v20.fKind 4)))))))), .pure (.val (.int .i64 ((Int.tmod ((IntKind.wrap .i64 v20.fFrom)) ((v5.1.length : Int)))))), .pure (.val (.int .i64 ((Int.tmod ((IntKind.wrap .i64 v20.fTo)) ((v5.1.length : Int)))))), .pure (.val (.bool v23)), .pure (.nil0), .pure (.nil0)]), (2026, .vec 1 (v5.1.map Ak)), (2027, .vec 1 (v5.2.1.map Ak)), (2028, .vec 1 (v5.2.2.map Ak)), (2029, .vec 6 (v15.1.map Au))]) (fun j23 h => ?_) (fun v23 h => ?_)
       ·refine Aa Ad rfl (qf RO rfl (ql S9 rfl (qm rfl ?_)))
        refine AC (t := 104) rfl (fun c24 => ?_) (fun c24 => ?_)
        ·have h := An c24 h
         refine qL IS Fj rfl ?_
         obtain ⟨v25, a25, h⟩ := bind_some h
         refine AG [] (D4 N ((AQ.mk ((IntKind.wrap .i64 (1 + (IntKind.wrap .i64 ((Int.tmod v20.fKind 4)))))) ((Int.tmod ((IntKind.wrap .i64 v20.fFrom)) ((v5.1.length : Int)))) ((Int.tmod ((IntKind.wrap .i64 v20.fTo)) ((v5.1.length : Int)))) false (([] : List (List Bool))) (([] : List (List Bool))))) v25 a25) Qu rfl (CC rfl (qp rfl (qf Ku rfl (qs PX rfl (Ae ?_)))))
         exact Av _ h (sm [(2026, 2022), (2027, 2023), (2028, 2024), (2029, 2025)] _ _ rfl rfl)
        ·have h := Ao c24 h
         refine qn rfl (qn rfl (qn rfl (qp rfl (qf Ku rfl (qs PX rfl (Ae ?_))))))
         exact Av _ h (sm [(2026, 2022), (2027, 2023), (2028, 2024), (2029, 2025)] _ _ rfl rfl)
       ·refine Ab (Aa Ad rfl (qf BZ rfl (ql Bw rfl (qf Et rfl (ql Dn rfl ?_)))))
        obtain ⟨v26, a26, b26, h⟩ := Aj h
        refine qI AJ Es a26 (Ag b26) rfl (qj Dn (Ag b26) rfl (qf BZ rfl (ql Bw rfl (qf JR rfl (ql Dn rfl ?_)))))
        obtain ⟨v27, a27, b27, h⟩ := Aj h
        refine qI AJ Es a27 (Ag b27) rfl (qj Dn (Ag b27) rfl (qf RB rfl (ql VK rfl ?_)))
        obtain ⟨v28, a28, h⟩ := bind_some h
        refine AG [2030] (ID N v26 v27 v20.fBad false v28 a28) UN rfl (qf Lu rfl (qs UP rfl (Az (by kernel_rfl) ?_)))
        refine AK h (fun v29 => mk [(1, .e (.one (.ptr 1 0))), (2, .e (.one (.ptr 2 0))), (4, .e (.one (.ptr 4 0))), (7, .e (.one (.pure (.val (.int .i64 v15.2))))), (9, .e (.one (.ptr 9 0)))] [(1, .box [.pure (.sl (p0.fVersions.map Bv)), .pure (.sl (p0.fNow.map Bv)), .pure (.sl (p0.fTarget.map Bv)), .pure (.sl (p0.fLinks.map Cz))]), (2, .box [.pure (.nil0), .pure (.nil0), .pure (.nil0), .pure (.nil0)]), (4, .box [.own 2031, .own 2032, .own 2033, .own 2034]), (9, .box [.pure (.val (.int .i64 ((IntKind.wrap .i64 (1 + (IntKind.wrap .i64 ((Int.tmod v20.fKind 4)))))))), .pure (.val (.int .i64 ((Int.tmod ((IntKind.wrap .i64 v20.fFrom)) ((v5.1.length : Int)))))), .pure (.val (.int .i64 ((Int.tmod ((IntKind.wrap .i64 v20.fTo)) ((v5.1.length : Int)))))), .pure (.val (.bool v23)), .own 2035, .own 2036]), (2031, .vec 1 (v5.1.map Ak)), (2032, .vec 1 (v5.2.1.map Ak)), (2033, .vec 1 (v5.2.2.map Ak)), (2034, .vec 6 (v15.1.map Au)), (2035, .vec 1 (v28.map (Gl eB))), (2036, .vec 1 (v29.map (Gl eB)))]) (fun j29 h => ?_) (fun v29 h => ?_)
        ·refine Ab (Aa Ad rfl (qf GH rfl (ql Dn rfl (Cp rfl (Ae ?_)))))
         refine Ap rfl (fun c30 => ?_) (fun c30 => ?_)
         ·have h := An c30 h
          refine Aa Ad rfl (qf BZ rfl (ql Bw rfl (qf Et rfl (ql Dn rfl ?_))))
          obtain ⟨v31, a31, b31, h⟩ := Aj h
          refine qI AJ Es a31 (Ag b31) rfl (qj Dn (Ag b31) rfl (qf BZ rfl (ql Bw rfl (qf Et rfl (ql Dn rfl ?_)))))
          obtain ⟨v32, a32, b32, h⟩ := Aj h
          refine qI AJ Es a32 (Ag b32) rfl (qj Dn (Ag b32) rfl (qf Rg rfl (ql VK rfl ?_)))
          obtain ⟨v33, a33, h⟩ := bind_some h
          refine AG [2037] (ID N v31 v32 v20.fLost true v33 a33) UN rfl (qf Hw rfl (qs UP rfl (Az (by kernel_rfl) ?_)))
          exact Av _ h (sm [(2031, 2026), (2032, 2027), (2033, 2028), (2034, 2029), (2035, 2030), (2036, 2037)] _ _ rfl rfl)
         ·have h := Ao c30 h
          refine Aq ?_
          exact Av _ h ((A1 9 5 2038 1 _ rfl rfl rfl rfl).trans (sm [(2031, 2026), (2032, 2027), (2033, 2028), (2034, 2029), (2035, 2030), (2036, 2038)] _ _ rfl rfl))
        ·refine Aa Ad rfl (qf EC rfl (ql JG rfl (qL IS Fj rfl (En (Bl 2035 _ _ rfl rfl) (En (Bl 2036 _ _ rfl rfl) (EX FC Fj K9 rfl ?_))))))
         obtain ⟨c34, h⟩ := AW h
         refine Ep (f := Au) FC FC Fj UC K9 c34 rfl (qf EC rfl (qs Wr rfl (Ae (Aa Ad rfl (qm rfl (AI rfl (qa rfl (Ae ?_))))))))
         exact Av _ h (sm [(2014, 2031), (2015, 2032), (2016, 2033), (2017, 149)] _ _ rfl rfl)
      ·have h := Ao c19 h
       refine AL ?_
       exact Av _ h (sm [(2018, 2022), (2019, 2023), (2020, 2024), (2021, 2025)] _ _ rfl rfl)
    ·refine Am hs (Ab (Aa Ad rfl (qL EE Ek rfl (qs Ek rfl (qa rfl (Ae ?_))))))
     obtain rfl := sj h
     refine Am (sm [(1000, 2018), (1001, 2019), (1002, 2020), (1003, 2021)] [(2, .e (.one (.ptr 2 0))), (3, .e (.one (.pure (.val (.bool true)))))] [(2, .box [.own 1000, .own 1001, .own 1002, .own 1003]), (1000, .vec 1 (v5.1.map Ak)), (1001, .vec 1 (v5.2.1.map Ak)), (1002, .vec 1 (v5.2.2.map Ak)), (1003, .vec 6 (v16.map Au))] rfl rfl) (Ax ?_)
     exact ⟨⟨[_, _], ⟨.cellN _ _ _ _ _ _ _ rfl rfl EE Ek rfl rfl (Kw rfl), ⟨.tmp _ _ rfl, trivial⟩⟩, rfl⟩, ⟨rfl, rfl, rfl, rfl, trivial⟩⟩
set_option maxRecDepth 10000 in
theorem Dm (N : Nat) (r : Al) (h : B6 N = some r) : AA Tryz.prog 39 [] [(1, r.fVersions.map Ak), (1, r.fNow.map Ak), (1, r.fTarget.map Ak), (6, r.fTables.map Au)] (.e (.agg [.own 0, .own 1, .own 2, .own 3])) := by
 unfold B6 at h
 refine Ar (n := 10) (rs := [.cell 0 29]) Tryz.func39 rfl rfl rfl (AZ rfl) (AZ rfl) rfl fun w0 S0 => ?_
 refine Ab (Aa Ad rfl (qz QC rfl (Ae (Ab (Aa Ad rfl (EX AJ Es Lr rfl (EX AJ Es Lr rfl (EX AJ Es Lr rfl (EX HQ PX S7 rfl (EX HQ PX S7 rfl (En (Bl 4 _ _ rfl rfl) (En (Bl 5 _ _ rfl rfl) (EX Hp Oe TL rfl (CO K9 Vd rfl (En (Bl 6 _ _ rfl rfl) (EX FC Fj K9 rfl (CO QC Vb rfl (qs Ek rfl (Ae ?_)))))))))))))))))))
 obtain rfl := sj h
 refine Am (sm [(1000, 1), (1001, 2), (1002, 3), (1003, 8)] [(0, .e (.one (.ptr 0 0)))] [(0, .box [.own 1000, .own 1001, .own 1002, .own 1003]), (1000, .vec 1 ((([2] : List Int)).map Ak)), (1001, .vec 1 ((([0] : List Int)).map Ak)), (1002, .vec 1 ((([1] : List Int)).map Ak)), (1003, .vec 6 ((([(AQ.mk 1 0 0 false (([([true, true] : List Bool), ([false, true] : List Bool)] : List (List Bool))) (([] : List (List Bool))))] : List AQ)).map Au))] rfl rfl) (Ax ?_)
 exact ⟨⟨[_], ⟨.cellN _ _ _ _ _ _ _ rfl rfl EE Ek rfl rfl (Kw rfl), trivial⟩, rfl⟩, ⟨rfl, rfl, rfl, rfl, trivial⟩⟩
set_option maxRecDepth 10000 in
theorem Hu (N : Nat) (p0 : Int) (p1 : Int) (r : Bool) (h : El N p0 p1 = some r) : AA Tryz.prog 102 [.e (.one (.pure (.val (.int .i64 p0)))), .e (.one (.pure (.val (.int .i64 p1))))] [] (.e (.one (.pure (.val (.bool r))))) := by
 unfold El at h
 refine Ar (n := 12) (rs := [.tmp 4]) Tryz.func102 rfl rfl rfl (AZ rfl) (AZ rfl) rfl fun w0 S0 => ?_
 refine Ab (Aa Ad rfl (qa rfl (Ae ?_)))
 refine AK h (fun v1 => mk [(4, .e (.one (.pure (.val (.bool v1)))))] []) (fun j1 h => ?_) (fun v1 h => ?_)
 ·refine Aa Ad rfl (qm rfl (Dl rfl (qm rfl ?_)))
  refine AC (t := 7) rfl (fun c2 => ?_) (fun c2 => ?_)
  ·have h := An c2 h
   refine qm rfl (qm rfl (AR rfl (qp rfl (qa rfl (Ae ?_)))))
   exact Av _ h (sm [] _ _ rfl rfl)
  ·have h := Ao c2 h
   refine qn rfl (qn rfl (qn rfl (qp rfl (qa rfl (Ae ?_)))))
   exact Av _ h (sm [] _ _ rfl rfl)
 ·obtain rfl := sj h
  refine Am (sm [] [(4, .e (.one (.pure (.val (.bool v1)))))] [] rfl rfl) (Ax ?_)
  exact ⟨⟨[_], ⟨.tmp _ _ rfl, trivial⟩, rfl⟩, trivial⟩
set_option maxRecDepth 10000 in
theorem Ot (N : Nat) (p0 : Int) (p1 : Bool) (r : Bool) (h : GP N p0 p1 = some r) : AA Tryz.prog 130 [.e (.one (.pure (.val (.int .i64 p0)))), .e (.one (.pure (.val (.bool p1))))] [] (.e (.one (.pure (.val (.bool r))))) := by
 unfold GP at h
 refine Ar (n := 23) (rs := [.tmp 4]) Tryz.func130 rfl rfl rfl (AZ rfl) (AZ rfl) rfl fun w0 S0 => ?_
 refine Ab (Aa Ad rfl (qa rfl (Ae ?_)))
 refine AK h (fun v1 => mk [(4, .e (.one (.pure (.val (.bool v1)))))] []) (fun j1 h => ?_) (fun v1 h => ?_)
 ·refine Aa Ad rfl (qm rfl (Cp rfl (qm rfl ?_)))
  refine AC (t := 7) rfl (fun c2 => ?_) (fun c2 => ?_)
  ·have h := An c2 h
   refine qn rfl (qn rfl (qp rfl (qm rfl (qn rfl (qn rfl (qn rfl (qu rfl (qu rfl (qn rfl (qn rfl (qu rfl (qu rfl (qn rfl (qp rfl (qa rfl (Ae ?_))))))))))))))))
   exact Av _ h (sm [] _ _ rfl rfl)
  ·have h := Ao c2 h
   refine qm rfl (Cp rfl (qp rfl (qm rfl ?_)))
   refine AC (t := 11) rfl (fun c3 => ?_) (fun c3 => ?_)
   ·have h := An c3 h
    refine qn rfl (qn rfl (qn rfl (qu rfl (qu rfl (qn rfl (qn rfl (qu rfl (qu rfl (qn rfl (qp rfl (qa rfl (Ae ?_))))))))))))
    exact Av _ h (sm [] _ _ rfl rfl)
   ·have h := Ao c3 h
    refine qm rfl (Cp rfl (qm rfl ?_))
    refine AC (t := 14) rfl (fun c4 => ?_) (fun c4 => ?_)
    ·have h := An c4 h
     refine qn rfl (qn rfl (qp rfl (qm rfl (qm rfl (CC rfl (qp rfl (qp rfl (qa rfl (Ae ?_)))))))))
     exact Av _ h (sm [] _ _ rfl rfl)
    ·have h := Ao c4 h
     refine qm rfl (Cp rfl (qp rfl (qm rfl ?_)))
     refine AC (t := 18) rfl (fun c5 => ?_) (fun c5 => ?_)
     ·have h := An c5 h
      refine qm rfl (CC rfl (qp rfl (qp rfl (qa rfl (Ae ?_)))))
      exact Av _ h (sm [] _ _ rfl rfl)
     ·have h := Ao c5 h
      refine qn rfl (qn rfl (qp rfl (qp rfl (qa rfl (Ae ?_)))))
      exact Av _ h (sm [] _ _ rfl rfl)
 ·obtain rfl := sj h
  refine Am (sm [] [(4, .e (.one (.pure (.val (.bool v1)))))] [] rfl rfl) (Ax ?_)
  exact ⟨⟨[_], ⟨.tmp _ _ rfl, trivial⟩, rfl⟩, trivial⟩
set_option maxRecDepth 10000 in
theorem LO (N : Nat) (p0 : List Bool) (p1 : Int) (r : Bool) (h : Ef N p0 p1 = some r) : AA Tryz.prog 160 [.e (.one (.pure (.sl (p0.map eB)))), .e (.one (.rop [.val (.int .i64 p1)]))] [] (.e (.one (.pure (.val (.bool r))))) := by
 unfold Ef at h
 refine Ar (n := 8) (rs := [.tmp 3]) Tryz.func160 rfl rfl rfl (AZ rfl) (AZ rfl) rfl fun w0 S0 => ?_
 refine Ab (Aa Ad rfl (qa rfl (Ae (Ab (Aa Ad rfl (qm rfl (AP HQ rfl (qk Dn rfl (Cy rfl (qa rfl (Ae ?_)))))))))))
 obtain rfl := sj h
 refine Am (sm [] [(3, .e (.one (.pure (.val (.bool (((p0.length : Int) != p1)))))))] [] rfl rfl) (Ax ?_)
 exact ⟨⟨[_], ⟨.tmp _ _ rfl, trivial⟩, rfl⟩, trivial⟩
set_option maxRecDepth 10000 in
theorem Ii (N : Nat) (p0 : List (List Bool)) (p1 : (List Bool) → Option Bool) (r : Int) (h : DQ N p0 p1 = some r) : AA Tryz.prog 170 [.e (.one (.pure (.sl (p0.map (Gl eB))))), .e (.one (.clo (A0 (L4 false (Gl eB)) tB p1)))] [] (.e (.one (.pure (.val (.int .i64 r))))) := by
 unfold DQ at h
 refine Ar (n := 19) (rs := [.tmp 4]) Tryz.func170 rfl rfl rfl (AZ rfl) (AZ rfl) rfl fun w0 S0 => ?_
 refine Ab (Aa Ad rfl (qa rfl (Ae (Ab (Ab (Aa Ad rfl (qm rfl (AP Hp rfl (qm rfl (Ae ?_))))))))))
 refine AB (L := Bs N p0 p1) h (fun v1 => mk [(0, .e (.one (.pure (.sl (p0.map (Gl eB)))))), (1, .e (.one (.clo (A0 (L4 false (Gl eB)) tB p1)))), (7, .e (.one (.pure (.val (.int .i64 ((p0.length : Int))))))), (8, .e (.one (.pure (.val (.int .i64 v1)))))] []) (fun v2 => mk [] []) (fun _ _ => rfl) (sm [] _ _ rfl rfl) (fun j1 n1 v1 h => ?_) (fun v2 s h hs => ?_)
 ·unfold Bs at h
  refine Ab (Aa Ad rfl (AR rfl (Ae (Ab ?_))))
  refine Ap rfl (fun c3 => ?_) (fun c3 => ?_)
  ·have h := An c3 h
   refine Aq (Ab (AD (Ab (Aa Ad rfl (qm rfl (qa rfl (Ae (Ab (Aa Ad rfl (qm rfl (qm rfl (qm rfl ?_))))))))))))
   obtain ⟨v4, a4, b4, h⟩ := Aj h
   refine qi Hp Oe a4 (Ag b4) rfl (qk Qr rfl ?_)
   obtain ⟨v5, a5, h⟩ := bind_some h
   refine CK (ds0 := [_]) (ar := (L4 false (Gl eB)) v4) (.p rfl) rfl rfl ⟨rfl, trivial⟩ rfl rfl rfl (CA (Lm _ _ (UM Wt)) a5) ?_
   refine Ae ?_
   refine Ap rfl (fun c6 => ?_) (fun c6 => ?_)
   ·have h := An c6 h
    refine Ab (Aa Ad rfl (qm rfl (qa rfl (Ae ?_))))
    obtain rfl := sj h
    refine Am (sm [] [(4, .e (.one (.pure (.val (.int .i64 v1)))))] [] rfl rfl) (Ax ?_)
    exact ⟨⟨[_], ⟨.tmp _ _ rfl, trivial⟩, rfl⟩, trivial⟩
   ·have h := Ao c6 h
    refine Aq (Aa Ad rfl (AI rfl (qm rfl (Ae ?_))))
    exact Av _ h (sm [] _ _ rfl rfl)
  ·have h := Ao c3 h
   refine AL ?_
   exact Av _ h (sm [] _ _ rfl rfl)
 ·refine Am hs (Ab (Aa Ad rfl (qa rfl (Ae ?_))))
  obtain rfl := sj h
  refine Am (sm [] [(4, .e (.one (.pure (.val (.int .i64 ((-1)))))))] [] rfl rfl) (Ax ?_)
  exact ⟨⟨[_], ⟨.tmp _ _ rfl, trivial⟩, rfl⟩, trivial⟩
set_option maxRecDepth 10000 in
theorem HL (N : Nat) (p0 : List (List Bool)) (p1 : (List Bool) → Option Bool) (r : Bool) (h : Do N p0 p1 = some r) : AA Tryz.prog 159 [.e (.one (.pure (.sl (p0.map (Gl eB))))), .e (.one (.clo (A0 (L4 false (Gl eB)) tB p1)))] [] (.e (.one (.pure (.val (.bool r))))) := by
 unfold Do at h
 refine Ar (n := 9) (rs := [.tmp 4]) Tryz.func159 rfl rfl rfl (AZ rfl) (AZ rfl) rfl fun w0 S0 => ?_
 refine Ab (Aa Ad rfl (qa rfl (Ae (Ab (Aa Ad rfl (qm rfl (qm rfl ?_)))))))
 obtain ⟨v1, a1, h⟩ := bind_some h
 refine AG [] (Ii N p0 p1 v1 a1) UJ rfl (Dl rfl (qa rfl (Ae ?_)))
 obtain rfl := sj h
 refine Am (sm [] [(4, .e (.one (.pure (.val (.bool ((decide (0 ≤ v1))))))))] [] rfl rfl) (Ax ?_)
 exact ⟨⟨[_], ⟨.tmp _ _ rfl, trivial⟩, rfl⟩, trivial⟩
set_option maxRecDepth 10000 in
theorem Kg (N : Nat) (p0 : List (List Bool)) (p1 : Int) (p2 : Int) (r : Bool) (h : Fe N p0 p1 p2 = some r) : AA Tryz.prog 131 [.e (.one (.pure (.sl (p0.map (Gl eB))))), .e (.one (.pure (.val (.int .i64 p1)))), .e (.one (.pure (.val (.int .i64 p2))))] [] (.e (.one (.pure (.val (.bool r))))) := by
 unfold Fe at h
 refine Ar (n := 17) (rs := [.tmp 6]) Tryz.func131 rfl rfl rfl (AZ rfl) (AZ rfl) rfl fun w0 S0 => ?_
 refine Ab (Aa Ad rfl (qb rfl (qa rfl (Ae ?_))))
 refine AK h (fun v1 => mk [(6, .e (.one (.pure (.val (.bool v1)))))] []) (fun j1 h => ?_) (fun v1 h => ?_)
 ·refine Aa Ad rfl (qm rfl (AP Hp rfl (qm rfl (Cp rfl (qm rfl ?_)))))
  refine AC (t := 11) rfl (fun c2 => ?_) (fun c2 => ?_)
  ·have h := An c2 h
   refine qm rfl (En (K8 5 [.val (.int .i64 p2)] rfl rfl) ?_)
   refine KM (capD := [_]) (A0 (L4 false (Gl eB)) tB ((fun (x : List Bool) => Ef N x p2))) (.g rfl rfl) VE rfl ⟨rfl, trivial⟩ rfl (fun ar t ht => by obtain ⟨x, r, rfl, hq, rfl⟩ := HV ht; exact LO N x p2 r hq) ?_
   obtain ⟨v3, a3, h⟩ := bind_some h
   refine AG [] (HL N p0 ((fun (x : List Bool) => Ef N x p2)) v3 a3) UE rfl (CC rfl (qp rfl (qa rfl (Ae ?_))))
   exact Av _ h (sm [] _ _ rfl rfl)
  ·have h := Ao c2 h
   refine qn rfl (qn rfl (qn rfl (qn rfl (qp rfl (qa rfl (Ae ?_))))))
   exact Av _ h (sm [] _ _ rfl rfl)
 ·obtain rfl := sj h
  refine Am (sm [] [(6, .e (.one (.pure (.val (.bool v1)))))] [] rfl rfl) (Ax ?_)
  exact ⟨⟨[_], ⟨.tmp _ _ rfl, trivial⟩, rfl⟩, trivial⟩
set_option maxRecDepth 10000 in
theorem Nk (N : Nat) (p0 : Al) (p1 : AQ) (r : Int) (h : Gp N p0 p1 = some r) : AA Tryz.prog 103 [.e (.agg [.pure (.sl (p0.fVersions.map Ak)), .pure (.sl (p0.fNow.map Ak)), .pure (.sl (p0.fTarget.map Ak)), .pure (.sl (p0.fTables.map Au))]), .e (.agg [.pure (.val (.int .i64 p1.fKind)), .pure (.val (.int .i64 p1.fFrom)), .pure (.val (.int .i64 p1.fTo)), .pure (.val (.bool p1.fAware)), .pure (.sl (p1.fOK.map (Gl eB))), .pure (.sl (p1.fRewrite.map (Gl eB)))])] [] (.e (.one (.pure (.val (.int .i64 r))))) := by
 unfold Gp at h
 refine Ar (n := 87) (rs := [.tmp 4]) Tryz.func103 rfl rfl rfl (AZ rfl) (AZ rfl) rfl fun w0 S0 => ?_
 refine Ab (Aa Ad rfl (qb rfl (qb rfl (qa rfl (Ae (Ab (Ab (Aa Ad rfl (qf GH rfl (ql Dn rfl (qf Ku rfl (ql S9 rfl ?_))))))))))))
 obtain ⟨v1, a1, h⟩ := bind_some h
 refine AG [] (Ot N p1.fKind p1.fAware v1 a1) Vz rfl (CC rfl (Ae ?_))
 refine Ap rfl (fun c2 => ?_) (fun c2 => ?_)
 ·have h := An c2 h
  refine Ab (Aa Ad rfl (qa rfl (Ae ?_)))
  obtain rfl := sj h
  refine Am (sm [] [(4, .e (.one (.pure (.val (.int .i64 1)))))] [] rfl rfl) (Ax ?_)
  exact ⟨⟨[_], ⟨.tmp _ _ rfl, trivial⟩, rfl⟩, trivial⟩
 ·have h := Ao c2 h
  refine Aq (Ab ?_)
  refine AK h (fun v3 => mk [(2, .e (.one (.ptr 2 0))), (3, .e (.one (.ptr 3 0))), (29, .e (.one (.pure (.val (.bool v3)))))] [(2, .box [.pure (.sl (p0.fVersions.map Ak)), .pure (.sl (p0.fNow.map Ak)), .pure (.sl (p0.fTarget.map Ak)), .pure (.sl (p0.fTables.map Au))]), (3, .box [.pure (.val (.int .i64 p1.fKind)), .pure (.val (.int .i64 p1.fFrom)), .pure (.val (.int .i64 p1.fTo)), .pure (.val (.bool p1.fAware)), .pure (.sl (p1.fOK.map (Gl eB))), .pure (.sl (p1.fRewrite.map (Gl eB)))])]) (fun j3 h => ?_) (fun v3 h => ?_)
  ·refine Aa Ad rfl (qf Et rfl (ql Dn rfl (qf BZ rfl (ql Bw rfl (AP AJ rfl ?_)))))
   obtain ⟨v4, a4, h⟩ := bind_some h
   refine AG [] (Hu N p1.fFrom ((p0.fVersions.length : Int)) v4 a4) PJ rfl (CC rfl (qm rfl ?_))
   refine AC (t := 21) rfl (fun c5 => ?_) (fun c5 => ?_)
   ·have h := An c5 h
    refine qn rfl (qn rfl (qn rfl (qn rfl (qn rfl (qn rfl (qn rfl (qp rfl (Ae ?_))))))))
    exact Av _ h (sm [] _ _ rfl rfl)
   ·have h := Ao c5 h
    refine qf JR rfl (ql Dn rfl (qf BZ rfl (ql Bw rfl (AP AJ rfl ?_))))
    obtain ⟨v6, a6, h⟩ := bind_some h
    refine AG [] (Hu N p1.fTo ((p0.fVersions.length : Int)) v6 a6) PJ rfl (CC rfl (qp rfl (Ae ?_)))
    exact Av _ h (sm [] _ _ rfl rfl)
  ·refine Ap rfl (fun c7 => ?_) (fun c7 => ?_)
   ·have h := An c7 h
    refine Ab (Aa Ad rfl (qa rfl (Ae ?_)))
    obtain rfl := sj h
    refine Am (sm [] [(4, .e (.one (.pure (.val (.int .i64 4)))))] [] rfl rfl) (Ax ?_)
    exact ⟨⟨[_], ⟨.tmp _ _ rfl, trivial⟩, rfl⟩, trivial⟩
   ·have h := Ao c7 h
    refine Aq (Ab (Aa Ad rfl (qf BZ rfl (ql Bw rfl (qf Et rfl (ql Dn rfl ?_))))))
    obtain ⟨v8, a8, b8, h⟩ := Aj h
    refine qi AJ Es a8 (Ag b8) rfl (qk Dn rfl (qa rfl (Ae (Ab (Aa Ad rfl (qf GH rfl (ql Dn rfl (Cp rfl (qa rfl (Ae (Ab ?_)))))))))))
    refine AK h (fun v9 => mk [(3, .e (.one (.ptr 3 0))), (70, .e (.one (.pure (.val (.bool v9)))))] [(3, .box [.pure (.val (.int .i64 p1.fKind)), .pure (.val (.int .i64 p1.fFrom)), .pure (.val (.int .i64 p1.fTo)), .pure (.val (.bool p1.fAware)), .pure (.sl (p1.fOK.map (Gl eB))), .pure (.sl (p1.fRewrite.map (Gl eB)))])]) (fun j9 h => ?_) (fun v9 h => ?_)
    ·refine Aa Ad rfl (qf Lu rfl (ql Le rfl (qm rfl (qf BZ rfl (ql Bw rfl (qf JR rfl (ql Dn rfl ?_)))))))
     obtain ⟨v10, a10, b10, h⟩ := Aj h
     refine qi AJ Es a10 (Ag b10) rfl (qk Dn rfl ?_)
     obtain ⟨v11, a11, h⟩ := bind_some h
     refine AG [] (Kg N p1.fOK v8 v10 v11 a11) Ts rfl (CC rfl (qm rfl ?_))
     refine AC (t := 50) rfl (fun c12 => ?_) (fun c12 => ?_)
     ·have h := An c12 h
      refine qn rfl (qn rfl (qu rfl (qu rfl (qu rfl (qu rfl (qu rfl (qu rfl (qn rfl (qp rfl (qm rfl (qn rfl (qn rfl (qn rfl (qu rfl (qu rfl (qu rfl (qu rfl (qn rfl (qp rfl (Az (by kernel_rfl) ?_))))))))))))))))))))
      exact Av _ h (sm [] _ _ rfl rfl)
     ·have h := Ao c12 h
      refine qm rfl (qm rfl ?_)
      refine AC (t := 52) rfl (fun c13 => ?_) (fun c13 => ?_)
      ·have h := An c13 h
       refine qf Hw rfl (ql Le rfl (qm rfl (qm rfl ?_)))
       obtain ⟨v14, a14, h⟩ := bind_some h
       refine AG [] (Kg N p1.fRewrite v8 v8 v14 a14) Ts rfl (CC rfl (qp rfl (qp rfl (qm rfl ?_))))
       refine AC (t := 61) rfl (fun c15 => ?_) (fun c15 => ?_)
       ·have h := An c15 h
        refine qn rfl (qn rfl (qn rfl (qu rfl (qu rfl (qu rfl (qu rfl (qn rfl (qp rfl (Az (by kernel_rfl) ?_)))))))))
        exact Av _ h (sm [] _ _ rfl rfl)
       ·have h := Ao c15 h
        refine qm rfl (CC rfl (qm rfl ?_))
        refine AC (t := 64) rfl (fun c16 => ?_) (fun c16 => ?_)
        ·have h := An c16 h
         refine qf Hw rfl (ql Le rfl (AP Hp rfl (EA rfl (qp rfl (qp rfl (Az (by kernel_rfl) ?_))))))
         exact Av _ h (sm [] _ _ rfl rfl)
        ·have h := Ao c16 h
         refine qn rfl (qn rfl (qn rfl (qn rfl (qp rfl (qp rfl (Az (by kernel_rfl) ?_))))))
         exact Av _ h (sm [] _ _ rfl rfl)
      ·have h := Ao c13 h
       refine qn rfl (qn rfl (qn rfl (qn rfl (qn rfl (qn rfl (qp rfl (qp rfl (qm rfl (qm rfl (CC rfl (qm rfl ?_)))))))))))
       refine AC (t := 64) rfl (fun c17 => ?_) (fun c17 => ?_)
       ·have h := An c17 h
        refine qf Hw rfl (ql Le rfl (AP Hp rfl (EA rfl (qp rfl (qp rfl (Az (by kernel_rfl) ?_))))))
        exact Av _ h (sm [] _ _ rfl rfl)
       ·have h := Ao c17 h
        refine qn rfl (qn rfl (qn rfl (qn rfl (qp rfl (qp rfl (Az (by kernel_rfl) ?_))))))
        exact Av _ h (sm [] _ _ rfl rfl)
    ·refine Ap rfl (fun c18 => ?_) (fun c18 => ?_)
     ·have h := An c18 h
      refine Ab (Aa Ad rfl (qa rfl (Ae ?_)))
      obtain rfl := sj h
      refine Am (sm [] [(4, .e (.one (.pure (.val (.int .i64 6)))))] [] rfl rfl) (Ax ?_)
      exact ⟨⟨[_], ⟨.tmp _ _ rfl, trivial⟩, rfl⟩, trivial⟩
     ·have h := Ao c18 h
      refine Aq (Ab (Ab (Aa Ad rfl (qf Hw rfl (ql Le rfl (AP Hp rfl (qm rfl (Ae ?_))))))))
      refine AB (L := Dw N p1) h (fun v19 => mk [(3, .e (.one (.ptr 3 0))), (73, .e (.one (.pure (.val (.int .i64 ((p1.fRewrite.length : Int))))))), (74, .e (.one (.pure (.val (.int .i64 v19)))))] [(3, .box [.pure (.val (.int .i64 p1.fKind)), .pure (.val (.int .i64 p1.fFrom)), .pure (.val (.int .i64 p1.fTo)), .pure (.val (.bool p1.fAware)), .pure (.sl (p1.fOK.map (Gl eB))), .pure (.sl (p1.fRewrite.map (Gl eB)))])]) (fun v20 => mk [] []) (fun _ _ => rfl) (sm [] _ _ rfl rfl) (fun j19 n19 v19 h => ?_) (fun v20 s h hs => ?_)
      ·unfold Dw at h
       refine Ab (Aa Ad rfl (AR rfl (Ae (Ab ?_))))
       refine Ap rfl (fun c21 => ?_) (fun c21 => ?_)
       ·have h := An c21 h
        refine Aq (Ab (AD (Ab (Aa Ad rfl (qm rfl (qa rfl (Ae (Ab (Aa Ad rfl (qf Hw rfl (ql Le rfl (qm rfl ?_))))))))))))
        obtain ⟨v22, a22, b22, h⟩ := Aj h
        refine qi Hp Oe a22 (Ag b22) rfl (qk Qr rfl (qm rfl ?_))
        obtain ⟨v23, a23, b23, h⟩ := Aj h
        refine qi HQ PX a23 (Ag b23) rfl (qk S9 rfl (CC rfl (Ae ?_)))
        refine Ap rfl (fun c24 => ?_) (fun c24 => ?_)
        ·have h := An c24 h
         refine Ab (Aa Ad rfl (qa rfl (Ae ?_)))
         obtain rfl := sj h
         refine Am (sm [] [(4, .e (.one (.pure (.val (.int .i64 1)))))] [] rfl rfl) (Ax ?_)
         exact ⟨⟨[_], ⟨.tmp _ _ rfl, trivial⟩, rfl⟩, trivial⟩
        ·have h := Ao c24 h
         refine Aq (Aa Ad rfl (AI rfl (qm rfl (Ae ?_))))
         exact Av _ h (sm [] _ _ rfl rfl)
       ·have h := Ao c21 h
        refine AL ?_
        exact Av _ h (sm [] _ _ rfl rfl)
      ·refine Am hs (Ab (Aa Ad rfl (qa rfl (Ae ?_))))
       obtain rfl := sj h
       refine Am (sm [] [(4, .e (.one (.pure (.val (.int .i64 0)))))] [] rfl rfl) (Ax ?_)
       exact ⟨⟨[_], ⟨.tmp _ _ rfl, trivial⟩, rfl⟩, trivial⟩
set_option maxRecDepth 10000 in
theorem Fl (N : Nat) (p0 : Al) (r : Int) (h : CS N p0 = some r) : AA Tryz.prog 58 [.e (.agg [.pure (.sl (p0.fVersions.map Ak)), .pure (.sl (p0.fNow.map Ak)), .pure (.sl (p0.fTarget.map Ak)), .pure (.sl (p0.fTables.map Au))])] [] (.e (.one (.pure (.val (.int .i64 r))))) := by
 unfold CS at h
 refine Ar (n := 81) (rs := [.tmp 2]) Tryz.func58 rfl rfl rfl (AZ rfl) (AZ rfl) rfl fun w0 S0 => ?_
 refine Ab (Aa Ad rfl (qb rfl (qa rfl (Ae (Ab (Aa Ad rfl (qf BZ rfl (ql Bw rfl (AP AJ rfl (qa rfl (Ae (Ab ?_))))))))))))
 refine AK h (fun v1 => mk [(1, .e (.one (.ptr 1 0))), (3, .e (.one (.pure (.val (.int .i64 ((p0.fVersions.length : Int))))))), (19, .e (.one (.pure (.val (.bool v1)))))] [(1, .box [.pure (.sl (p0.fVersions.map Ak)), .pure (.sl (p0.fNow.map Ak)), .pure (.sl (p0.fTarget.map Ak)), .pure (.sl (p0.fTables.map Au))])]) (fun j1 h => ?_) (fun v1 h => ?_)
 ·refine Aa Ad rfl (qm rfl (EA rfl (qm rfl ?_)))
  refine AC (t := 14) rfl (fun c2 => ?_) (fun c2 => ?_)
  ·have h := An c2 h
   refine qn rfl (qn rfl (qn rfl (qn rfl (qp rfl (Ae ?_)))))
   exact Av _ h (sm [] _ _ rfl rfl)
  ·have h := Ao c2 h
   refine qf EC rfl (ql JG rfl (AP FC rfl (EA rfl (qp rfl (Ae ?_)))))
   exact Av _ h (sm [] _ _ rfl rfl)
 ·refine Ap rfl (fun c3 => ?_) (fun c3 => ?_)
  ·have h := An c3 h
   refine Ab (Aa Ad rfl (qa rfl (Ae ?_)))
   obtain rfl := sj h
   refine Am (sm [] [(2, .e (.one (.pure (.val (.int .i64 3)))))] [] rfl rfl) (Ax ?_)
   exact ⟨⟨[_], ⟨.tmp _ _ rfl, trivial⟩, rfl⟩, trivial⟩
  ·have h := Ao c3 h
   refine Aq (Ab ?_)
   refine AK h (fun v4 => mk [(1, .e (.one (.ptr 1 0))), (31, .e (.one (.pure (.val (.bool v4)))))] [(1, .box [.pure (.sl (p0.fVersions.map Ak)), .pure (.sl (p0.fNow.map Ak)), .pure (.sl (p0.fTarget.map Ak)), .pure (.sl (p0.fTables.map Au))])]) (fun j4 h => ?_) (fun v4 h => ?_)
   ·refine Aa Ad rfl (qf H7 rfl (ql Bw rfl (AP AJ rfl (qm rfl (Cy rfl (qm rfl ?_))))))
    refine AC (t := 25) rfl (fun c5 => ?_) (fun c5 => ?_)
    ·have h := An c5 h
     refine qn rfl (qn rfl (qn rfl (qn rfl (qn rfl (qp rfl (Ae ?_))))))
     exact Av _ h (sm [] _ _ rfl rfl)
    ·have h := Ao c5 h
     refine qf Hx rfl (ql Bw rfl (AP AJ rfl (qm rfl (Cy rfl (qp rfl (Ae ?_))))))
     exact Av _ h (sm [] _ _ rfl rfl)
   ·refine Ap rfl (fun c6 => ?_) (fun c6 => ?_)
    ·have h := An c6 h
     refine Ab (Aa Ad rfl (qa rfl (Ae ?_)))
     obtain rfl := sj h
     refine Am (sm [] [(2, .e (.one (.pure (.val (.int .i64 6)))))] [] rfl rfl) (Ax ?_)
     exact ⟨⟨[_], ⟨.tmp _ _ rfl, trivial⟩, rfl⟩, trivial⟩
    ·have h := Ao c6 h
     refine Aq (Ab (Ab (Aa Ad rfl (qf BZ rfl (ql Bw rfl (AP AJ rfl (qm rfl (Ae ?_))))))))
     refine AB (L := Cc N p0) h (fun v7 => mk [(1, .e (.one (.ptr 1 0))), (33, .e (.one (.pure (.sl (p0.fVersions.map Ak))))), (34, .e (.one (.pure (.val (.int .i64 ((p0.fVersions.length : Int))))))), (35, .e (.one (.pure (.val (.int .i64 v7)))))] [(1, .box [.pure (.sl (p0.fVersions.map Ak)), .pure (.sl (p0.fNow.map Ak)), .pure (.sl (p0.fTarget.map Ak)), .pure (.sl (p0.fTables.map Au))])]) (fun v8 => mk [(1, .e (.one (.ptr 1 0)))] [(1, .box [.pure (.sl (p0.fVersions.map Ak)), .pure (.sl (p0.fNow.map Ak)), .pure (.sl (p0.fTarget.map Ak)), .pure (.sl (p0.fTables.map Au))])]) (fun _ _ => rfl) (sm [] _ _ rfl rfl) (fun j7 n7 v7 h => ?_) (fun v8 s h hs => ?_)
     ·unfold Cc at h
      refine Ab (Aa Ad rfl (AR rfl (Ae (Ab ?_))))
      refine Ap rfl (fun c9 => ?_) (fun c9 => ?_)
      ·have h := An c9 h
       refine Aq (Ab (AD (Ab (Aa Ad rfl (qm rfl ?_)))))
       obtain ⟨v10, a10, b10, h⟩ := Aj h
       refine qi AJ Es a10 (Ag b10) rfl (qk Dn rfl (qa rfl (qa rfl (Ae ?_))))
       refine AK h (fun v11 => mk [(1, .e (.one (.ptr 1 0))), (33, .e (.one (.pure (.sl (p0.fVersions.map Ak))))), (34, .e (.one (.pure (.val (.int .i64 ((p0.fVersions.length : Int))))))), (35, .e (.one (.pure (.val (.int .i64 v7))))), (65, .e (.one (.pure (.val (.bool v11)))))] [(1, .box [.pure (.sl (p0.fVersions.map Ak)), .pure (.sl (p0.fNow.map Ak)), .pure (.sl (p0.fTarget.map Ak)), .pure (.sl (p0.fTables.map Au))])]) (fun j11 h => ?_) (fun v11 h => ?_)
       ·refine Aa Ad rfl (qm rfl (AR rfl (qm rfl ?_)))
        refine AC (t := 42) rfl (fun c12 => ?_) (fun c12 => ?_)
        ·have h := An c12 h
         refine qn rfl (qn rfl (qp rfl (qm rfl (qn rfl (qn rfl (qn rfl (qn rfl (qn rfl (qn rfl (qn rfl (qn rfl (qp rfl (qm rfl (qn rfl (qn rfl (qn rfl (qn rfl (qn rfl (qn rfl (qn rfl (qn rfl (qp rfl (Ae ?_)))))))))))))))))))))))
         exact Av _ h (sm [] _ _ rfl rfl)
        ·have h := Ao c12 h
         refine qm rfl (EA rfl (qp rfl (qm rfl ?_)))
         refine AC (t := 46) rfl (fun c13 => ?_) (fun c13 => ?_)
         ·have h := An c13 h
          refine qn rfl (qn rfl (qn rfl (qn rfl (qn rfl (qn rfl (qn rfl (qn rfl (qp rfl (qm rfl (qn rfl (qn rfl (qn rfl (qn rfl (qn rfl (qn rfl (qn rfl (qn rfl (qp rfl (Ae ?_)))))))))))))))))))
          exact Av _ h (sm [] _ _ rfl rfl)
         ·have h := Ao c13 h
          refine qf H7 rfl (ql Bw rfl (qm rfl ?_))
          obtain ⟨v14, a14, b14, h⟩ := Aj h
          refine qi AJ Es a14 (Ag b14) rfl (qk Dn rfl (qm rfl ?_))
          obtain ⟨v15, a15, h⟩ := bind_some h
          refine AG [] (Hu N v14 v10 v15 a15) PJ rfl (CC rfl (qp rfl (qm rfl ?_)))
          refine AC (t := 56) rfl (fun c16 => ?_) (fun c16 => ?_)
          ·have h := An c16 h
           refine qn rfl (qn rfl (qn rfl (qn rfl (qn rfl (qn rfl (qn rfl (qn rfl (qp rfl (Ae ?_)))))))))
           exact Av _ h (sm [] _ _ rfl rfl)
          ·have h := Ao c16 h
           refine qf Hx rfl (ql Bw rfl (qm rfl ?_))
           obtain ⟨v17, a17, b17, h⟩ := Aj h
           refine qi AJ Es a17 (Ag b17) rfl (qk Dn rfl (qm rfl ?_))
           obtain ⟨v18, a18, h⟩ := bind_some h
           refine AG [] (Hu N v17 v10 v18 a18) PJ rfl (CC rfl (qp rfl (Ae ?_)))
           exact Av _ h (sm [] _ _ rfl rfl)
       ·refine Ap rfl (fun c19 => ?_) (fun c19 => ?_)
        ·have h := An c19 h
         refine Ab (Aa Ad rfl (qa rfl (Ae ?_)))
         obtain rfl := sj h
         refine Am (sm [] [(2, .e (.one (.pure (.val (.int .i64 7)))))] [] rfl rfl) (Ax ?_)
         exact ⟨⟨[_], ⟨.tmp _ _ rfl, trivial⟩, rfl⟩, trivial⟩
        ·have h := Ao c19 h
         refine Aq (Aa Ad rfl (AI rfl (qm rfl (Ae ?_))))
         exact Av _ h (sm [] _ _ rfl rfl)
      ·have h := Ao c9 h
       refine AL ?_
       exact Av _ h (sm [] _ _ rfl rfl)
     ·refine Am hs (Ab (Ab (Aa Ad rfl (qf EC rfl (ql JG rfl (AP FC rfl (qm rfl (Ae ?_))))))))
      refine AB (L := BX N p0) h (fun v20 => mk [(1, .e (.one (.ptr 1 0))), (68, .e (.one (.pure (.sl (p0.fTables.map Au))))), (69, .e (.one (.pure (.val (.int .i64 ((p0.fTables.length : Int))))))), (70, .e (.one (.pure (.val (.int .i64 v20)))))] [(1, .box [.pure (.sl (p0.fVersions.map Ak)), .pure (.sl (p0.fNow.map Ak)), .pure (.sl (p0.fTarget.map Ak)), .pure (.sl (p0.fTables.map Au))])]) (fun v21 => mk [] []) (fun _ _ => rfl) (sm [] _ _ rfl rfl) (fun j20 n20 v20 h => ?_) (fun v21 s h hs => ?_)
      ·unfold BX at h
       refine Ab (Aa Ad rfl (AR rfl (Ae (Ab ?_))))
       refine Ap rfl (fun c22 => ?_) (fun c22 => ?_)
       ·have h := An c22 h
        refine Aq (Ab (AD (Ab (Aa Ad rfl ?_))))
        obtain ⟨v23, a23, b23, h⟩ := Aj h
        refine qi FC Fj a23 (Ag b23) rfl (qK IS Fj rfl (qz K9 rfl (qs Fj rfl (Ae (Ab (Aa Ad rfl (qL EE Ek rfl (qL IS Fj rfl ?_))))))))
        obtain ⟨v24, a24, h⟩ := bind_some h
        refine AG [] (Nk N p0 v23 v24 a24) U6 rfl (qa rfl (Ae (Ab (Aa Ad rfl (qm rfl (Cy rfl (Ae ?_)))))))
        refine Ap rfl (fun c25 => ?_) (fun c25 => ?_)
        ·have h := An c25 h
         refine Ab (Aa Ad rfl (qm rfl (qa rfl (Ae ?_))))
         obtain rfl := sj h
         refine Am (sm [] [(2, .e (.one (.pure (.val (.int .i64 v24)))))] [] rfl rfl) (Ax ?_)
         exact ⟨⟨[_], ⟨.tmp _ _ rfl, trivial⟩, rfl⟩, trivial⟩
        ·have h := Ao c25 h
         refine Aq (Aa Ad rfl (AI rfl (qm rfl (Ae ?_))))
         exact Av _ h (sm [] _ _ rfl rfl)
       ·have h := Ao c22 h
        refine AL ?_
        exact Av _ h (sm [] _ _ rfl rfl)
      ·refine Am hs (Ab (Aa Ad rfl (qa rfl (Ae ?_))))
       obtain rfl := sj h
       refine Am (sm [] [(2, .e (.one (.pure (.val (.int .i64 0)))))] [] rfl rfl) (Ax ?_)
       exact ⟨⟨[_], ⟨.tmp _ _ rfl, trivial⟩, rfl⟩, trivial⟩
set_option maxRecDepth 10000 in
theorem De (N : Nat) (p0 : List Int) (r : (List Int)) (h : Bc N p0 = some r) : AA Tryz.prog 66 [.e (.one (.pure (.sl (p0.map Ak))))] [(1, r.map Ak)] (.e (.one (.own 0))) := by
 unfold Bc at h
 refine Ar (n := 8) (rs := [.tmp 2]) Tryz.func66 rfl rfl rfl (AZ rfl) (AZ rfl) rfl fun w0 S0 => ?_
 refine Ab (Aa Ad rfl (qa rfl (Ae (Ab (Ab (Aa Ad rfl (qm rfl ?_)))))))
 refine PW (.p rfl) rfl AJ ?_
 refine Ae ?_
 refine Qe rfl (fun c2 => ?_) ?_
 ·have c2 := List.map_eq_nil_iff.1 c2
  rw [c2] at h
  have h : (some (([] : List Int))) = some r := h
  refine Ab (Aa Ad rfl (qa rfl (Ae ?_)))
  obtain rfl := sj h
  refine Am ((BR 2 2001 1 rfl rfl rfl).trans (sm [(1000, 2001)] [(2, .e (.one (.own 1000)))] [(1000, .vec 1 ((([] : List Int)).map Ak))] rfl rfl)) (Ax ?_)
  exact ⟨⟨[_], ⟨.tmp _ _ rfl, trivial⟩, rfl⟩, ⟨rfl, trivial⟩⟩
 ·refine Aq (Ab (Aa Ad rfl (EX AJ Es Lr rfl (qm rfl ?_))))
  obtain ⟨c1, h⟩ := AW h
  refine QZ (f := Ak) AJ AJ Es Oa Lr (fun _ => rfl) c1 rfl (qa rfl (Ae ?_))
  obtain rfl := sj h
  refine Am (sm [(1000, 7)] [(2, .e (.one (.own 1000)))] [(1000, .vec 1 (((([] : List Int)) ++ p0).map Ak))] rfl rfl) (Ax ?_)
  exact ⟨⟨[_], ⟨.tmp _ _ rfl, trivial⟩, rfl⟩, ⟨rfl, trivial⟩⟩
set_option maxRecDepth 10000 in
theorem K7 (N : Nat) (p0 : Int) (p1 : Int) (r : Int × Int) (h : G9 N p0 p1 = some r) : AA Tryz.prog 153 [.e (.one (.pure (.val (.int .u32 p0)))), .e (.one (.pure (.val (.int .u32 p1))))] [] (.tup [.one (.pure (.val (.int .u32 r.1))), .one (.pure (.val (.int .u32 r.2)))]) := by
 unfold G9 at h
 refine Ar (n := 17) (rs := [.tmp 4, .tmp 5]) Tryz.func153 rfl rfl rfl (AZ rfl) (AZ rfl) rfl fun w0 S0 => ?_
 refine Ab (Aa Ad rfl (qa rfl (qa rfl (Ae (Ab (Aa Ad rfl (qm rfl (Gk OR TF rfl (qm rfl (Gk OR TF rfl (Hg rfl (qa rfl (Ae (Ab (Aa Ad rfl (qm rfl (HP rfl (by decide) (Gk QI OZ rfl (qm rfl (Gk QI OZ rfl (qa rfl (qa rfl (Ae ?_)))))))))))))))))))))))
 obtain rfl := sj h
 refine Am (sm [] [(4, .e (.one (.pure (.val (.int .u32 ((IntKind.wrap .u32 ((E2 .u64 ((IntKind.wrap .u64 ((IntKind.wrap .u64 p0) * (IntKind.wrap .u64 p1)))) 32))))))))), (5, .e (.one (.pure (.val (.int .u32 ((IntKind.wrap .u32 ((IntKind.wrap .u64 ((IntKind.wrap .u64 p0) * (IntKind.wrap .u64 p1)))))))))))] [] rfl rfl) (Ax ?_)
 exact ⟨⟨[_, _], ⟨.tmp _ _ rfl, ⟨.tmp _ _ rfl, trivial⟩⟩, rfl⟩, trivial⟩
set_option maxRecDepth 10000 in
theorem Ls (N : Nat) (p0 : Int) (p1 : Int) (r : Int × Int) (h : G5 N p0 p1 = some r) : AA Tryz.prog 154 [.e (.one (.pure (.val (.int .u64 p0)))), .e (.one (.pure (.val (.int .u64 p1))))] [] (.tup [.one (.pure (.val (.int .u64 r.1))), .one (.pure (.val (.int .u64 r.2)))]) := by
 unfold G5 at h
 refine Ar (n := 51) (rs := [.tmp 4, .tmp 5]) Tryz.func154 rfl rfl rfl (AZ rfl) (AZ rfl) rfl fun w0 S0 => ?_
 refine Ab (Aa Ad rfl (qa rfl (qa rfl (Ae (Ab (Aa Ad rfl (qm rfl (KD rfl (qa rfl (Ae (Ab (Aa Ad rfl (qm rfl (HP rfl (by decide) (qa rfl (Ae (Ab (Aa Ad rfl (qm rfl (KD rfl (qa rfl (Ae (Ab (Aa Ad rfl (qm rfl (HP rfl (by decide) (qa rfl (Ae (Ab (Aa Ad rfl (qm rfl (qm rfl (Hg rfl (qa rfl (Ae (Ab (Aa Ad rfl (qm rfl (qm rfl ?_)))))))))))))))))))))))))))))))))))))))
 refine Hg rfl (qm rfl (HP rfl (by decide) (AI rfl (qa rfl (Ae (Ab (Aa Ad rfl (qm rfl (KD rfl (qa rfl (Ae (Ab (Aa Ad rfl (qm rfl (HP rfl (by decide) (qa rfl (Ae (Ab (Aa Ad rfl (qm rfl (qm rfl (qm rfl (Hg rfl (AI rfl (qa rfl (Ae (Ab (Aa Ad rfl (qm rfl (qm rfl (Hg rfl (qm rfl (AI rfl (qm rfl (HP rfl (by decide) (AI rfl (qa rfl (Ae (Ab ?_)))))))))))))))))))))))))))))))))))))))
 refine Aa Ad rfl (qm rfl (qm rfl (Hg rfl (qa rfl (Ae ?_)))))
 obtain rfl := sj h
 refine Am (sm [] [(4, .e (.one (.pure (.val (.int .u64 ((IntKind.wrap .u64 ((IntKind.wrap .u64 ((IntKind.wrap .u64 ((E2 .u64 p0 32) * (E2 .u64 p1 32))) + (E2 .u64 ((IntKind.wrap .u64 ((IntKind.wrap .u64 ((E2 .u64 p0 32) * (Gn .u64 p1 4294967295))) + (E2 .u64 ((IntKind.wrap .u64 ((Gn .u64 p0 4294967295) * (Gn .u64 p1 4294967295)))) 32)))) 32))) + (E2 .u64 ((IntKind.wrap .u64 ((Gn .u64 ((IntKind.wrap .u64 ((IntKind.wrap .u64 ((E2 .u64 p0 32) * (Gn .u64 p1 4294967295))) + (E2 .u64 ((IntKind.wrap .u64 ((Gn .u64 p0 4294967295) * (Gn .u64 p1 4294967295)))) 32)))) 4294967295) + (IntKind.wrap .u64 ((Gn .u64 p0 4294967295) * (E2 .u64 p1 32)))))) 32))))))))), (5, .e (.one (.pure (.val (.int .u64 ((IntKind.wrap .u64 (p0 * p1))))))))] [] rfl rfl) (Ax ?_)
 exact ⟨⟨[_, _], ⟨.tmp _ _ rfl, ⟨.tmp _ _ rfl, trivial⟩⟩, rfl⟩, trivial⟩
set_option maxRecDepth 10000 in
theorem Ml (N : Nat) (p0 : Int) (p1 : Int) (r : Int × Int) (h : HX N p0 p1 = some r) : AA Tryz.prog 120 [.e (.one (.pure (.val (.int .u64 p0)))), .e (.one (.pure (.val (.int .u64 p1))))] [] (.tup [.one (.pure (.val (.int .u64 r.1))), .one (.pure (.val (.int .u64 r.2)))]) := by
 unfold HX at h
 refine Ar (n := 30) (rs := [.tmp 4, .tmp 5]) Tryz.func120 rfl rfl rfl (AZ rfl) (AZ rfl) rfl fun w0 S0 => ?_
 refine Ab (Aa Ad rfl (qa rfl (qa rfl (Ae (Ab ?_)))))
 refine Ap rfl (fun c1 => ?_) (fun c1 => ?_)
 ·have h := An c1 h
  refine Ab (Aa Ad rfl (qm rfl (Gk MJ OZ rfl (qm rfl (Gk MJ OZ rfl ?_)))))
  obtain ⟨v2, a2, h⟩ := bind_some h
  refine AG [] (K7 N ((IntKind.wrap .u32 p0)) ((IntKind.wrap .u32 p1)) v2 a2) U2 rfl (qm rfl (qx rfl (qx rfl (qa rfl (qa rfl (Ae (Ab (Aa Ad rfl (qm rfl (Gk OR Mb rfl (qm rfl (Gk OR Mb rfl (qa rfl (qa rfl (Ae ?_)))))))))))))))
  obtain rfl := sj h
  refine Am (sm [] [(4, .e (.one (.pure (.val (.int .u64 ((IntKind.wrap .u64 v2.1))))))), (5, .e (.one (.pure (.val (.int .u64 ((IntKind.wrap .u64 v2.2)))))))] [] rfl rfl) (Ax ?_)
  exact ⟨⟨[_, _], ⟨.tmp _ _ rfl, ⟨.tmp _ _ rfl, trivial⟩⟩, rfl⟩, trivial⟩
 ·have h := Ao c1 h
  refine Aq (Ab (Aa Ad rfl (qm rfl (qm rfl ?_))))
  obtain ⟨v3, a3, h⟩ := bind_some h
  refine AG [] (Ls N p0 p1 v3 a3) Vq rfl (qm rfl (qx rfl (qx rfl (qa rfl (qa rfl (Ae (Ab (Aa Ad rfl (qm rfl (qm rfl (qa rfl (qa rfl (Ae ?_)))))))))))))
  obtain rfl := sj h
  refine Am (sm [] [(4, .e (.one (.pure (.val (.int .u64 v3.1))))), (5, .e (.one (.pure (.val (.int .u64 v3.2)))))] [] rfl rfl) (Ax ?_)
  exact ⟨⟨[_, _], ⟨.tmp _ _ rfl, ⟨.tmp _ _ rfl, trivial⟩⟩, rfl⟩, trivial⟩
set_option maxRecDepth 10000 in
theorem Js (N : Nat) (p0 : List Int) (p1 : Int) (r : (List Int)) (h : Fx N p0 p1 = some r) : AA Tryz.prog 90 [.e (.one (.pure (.sl (p0.map Ak)))), .e (.one (.pure (.val (.int .i64 p1))))] [(1, r.map Ak)] (.e (.one (.own 0))) := by
 unfold Fx at h
 refine Ar (n := 48) (rs := [.tmp 4]) Tryz.func90 rfl rfl rfl (AZ rfl) (AZ rfl) rfl fun w0 S0 => ?_
 refine Ab (Aa Ad rfl (qa rfl (Ae ?_)))
 refine AK h (fun v1 => mk [(0, .e (.one (.pure (.sl (p0.map Ak))))), (1, .e (.one (.pure (.val (.int .i64 p1)))))] []) (fun j1 h => ?_) (fun v1 h => ?_)
 ·refine Ab (Aa Ad rfl (qm rfl (AR rfl (Ae ?_))))
  refine Ap rfl (fun c2 => ?_) (fun c2 => ?_)
  ·have h := An c2 h
   refine Aa Ad rfl ?_
   cases h
  ·have h := Ao c2 h
   refine Aq ?_
   exact Av _ h (sm [] _ _ rfl rfl)
 ·refine Ab (Aa Ad rfl (qm rfl (AP AJ rfl (Gk Rw Mb rfl (qm rfl (Gk Rw Mb rfl ?_))))))
  obtain ⟨v3, a3, h⟩ := bind_some h
  refine AG [] (Ml N ((IntKind.wrap .u64 ((p0.length : Int)))) ((IntKind.wrap .u64 p1)) v3 a3) U8 rfl (qm rfl (qx rfl (qx rfl (qa rfl (qa rfl (Ae ?_))))))
  refine AK h (fun v4 => mk [(0, .e (.one (.pure (.sl (p0.map Ak))))), (6, .e (.one (.pure (.val (.int .u64 v3.2)))))] []) (fun j4 h => ?_) (fun v4 h => ?_)
  ·refine AK h (fun v5 => mk [(0, .e (.one (.pure (.sl (p0.map Ak))))), (6, .e (.one (.pure (.val (.int .u64 v3.2))))), (26, .e (.one (.pure (.val (.bool v5)))))] []) (fun j5 h => ?_) (fun v5 h => ?_)
   ·refine Aa Ad rfl (qm rfl (EA rfl (qm rfl ?_)))
    refine AC (t := 23) rfl (fun c6 => ?_) (fun c6 => ?_)
    ·have h := An c6 h
     refine qn rfl (qn rfl (qp rfl (Ae ?_)))
     exact Av _ h (sm [] _ _ rfl rfl)
    ·have h := Ao c6 h
     refine qm rfl (EA rfl (qp rfl (Ae ?_)))
     exact Av _ h (sm [] _ _ rfl rfl)
   ·refine Ap rfl (fun c7 => ?_) (fun c7 => ?_)
    ·have h := An c7 h
     refine Aa Ad rfl ?_
     cases h
    ·have h := Ao c7 h
     refine Aq ?_
     exact Av _ h (sm [] _ _ rfl rfl)
  ·refine Ab (Aa Ad rfl (qm rfl (Gk MJ P7 rfl ?_)))
   obtain ⟨c8, h⟩ := AW h
   refine LY (.p rfl) rfl rfl rfl AJ Es Oa (AZ rfl) Lr rfl rfl rfl c8.1 c8.2.1 c8.2.2 (P2 Ak _ ((0 : Int))) ?_
   refine qa rfl (Ae (Ab (Aa Ad rfl (qm rfl (qm rfl ?_)))))
   refine P3 Ak (List.replicate ((IntKind.wrap .i64 v3.2)).toNat ((0 : Int))) p0 (.p rfl) rfl (Ib Ak _ _ (List.replicate ((IntKind.wrap .i64 v3.2)).toNat ((0 : Int)))) rfl rfl (SM Ak _ _ (fun _ => rfl)) trivial AJ Es ?_
   refine qa rfl (Ae (Ab ?_))
   refine AB (L := D7 N) h (fun v9 => mk [(7, .e (.one (.own 2001))), (8, .e (.one (.pure (.val (.int .i64 v9.2)))))] [(2001, .vec 1 (v9.1.map Ak))]) (fun v10 => mk [(7, .e (.one (.own 2002)))] [(2002, .vec 1 (v10.map Ak))]) (fun _ _ => rfl) (sm [(2001, 30)] _ _ rfl rfl) (fun j9 n9 v9 h => ?_) (fun v10 s h hs => ?_)
   ·unfold D7 at h
    refine Ab (Ab (Aa Ad rfl (qm rfl (qm rfl (Fz AJ rfl (AR rfl (Ae ?_)))))))
    refine Ap rfl (fun c11 => ?_) (fun c11 => ?_)
    ·have h := An c11 h
     refine Aq (AD (Aa Ad rfl (qm rfl (qm rfl (qm rfl ?_)))))
     obtain ⟨c12, h⟩ := AW h
     have w13 : ((v9.2).toNat) + ((v9.1.length - (v9.2).toNat)) ≤ v9.1.length := by have := c12.2.1; have := c12.2.2; omega
     refine IV Ak v9.1 (.p rfl) rfl (Ib Ak _ _ v9.1) rfl AJ Es (.some _ _ _ _ c12.1) (.none _) ⟨rfl, trivial⟩ trivial c12.2.1 (by rw [Nat.zero_add]; exact c12.2.2) (Nat.zero_add _) rfl ?_
     refine qm rfl (qm rfl ?_)
     obtain ⟨c14, h⟩ := AW h
     have w15 : 0 + ((v9.2).toNat) ≤ v9.1.length := by have := c14.2.1; have := c14.2.2; omega
     refine IV Ak v9.1 (.p rfl) rfl (Ib Ak _ _ v9.1) rfl AJ Es (.none _) (.some _ _ _ _ c14.1) trivial ⟨rfl, trivial⟩ c14.2.1 (by rw [Nat.zero_add]; exact c14.2.2) (Nat.zero_add _) rfl ?_
     refine P3 Ak v9.1 (((v9.1.drop 0).take ((v9.2).toNat))) (.p rfl) rfl (LQ Ak _ _ ((v9.2).toNat) ((v9.1.length - (v9.2).toNat)) v9.1 w13) rfl rfl (Ql Ak _ _ 0 ((v9.2).toNat) v9.1 w15) ⟨rfl, trivial⟩ AJ Es ?_
     refine AI rfl (qa rfl (Az (by kernel_rfl) ?_))
     exact Av _ h (sm [] _ _ rfl rfl)
    ·have h := Ao c11 h
     refine AL ?_
     exact Av _ h (sm [(2002, 2001)] _ _ rfl rfl)
   ·refine Am hs (Ab (Aa Ad rfl (qm rfl (qa rfl (Ae ?_)))))
    obtain rfl := sj h
    refine Am (sm [(1000, 2002)] [(4, .e (.one (.own 1000)))] [(1000, .vec 1 (v10.map Ak))] rfl rfl) (Ax ?_)
    exact ⟨⟨[_], ⟨.tmp _ _ rfl, trivial⟩, rfl⟩, ⟨rfl, trivial⟩⟩
set_option maxRecDepth 10000 in
theorem JJ (N : Nat) (p0 : AQ) (r : Bool) (h : Fy N p0 = some r) : AA Tryz.prog 91 [.e (.agg [.pure (.val (.int .i64 p0.fKind)), .pure (.val (.int .i64 p0.fFrom)), .pure (.val (.int .i64 p0.fTo)), .pure (.val (.bool p0.fAware)), .pure (.sl (p0.fOK.map (Gl eB))), .pure (.sl (p0.fRewrite.map (Gl eB)))])] [] (.e (.one (.pure (.val (.bool r))))) := by
 unfold Fy at h
 refine Ar (n := 11) (rs := [.tmp 2]) Tryz.func91 rfl rfl rfl (AZ rfl) (AZ rfl) rfl fun w0 S0 => ?_
 refine Ab (Aa Ad rfl (qb rfl (qa rfl (Ae ?_))))
 refine AK h (fun v1 => mk [(2, .e (.one (.pure (.val (.bool v1)))))] []) (fun j1 h => ?_) (fun v1 h => ?_)
 ·refine Aa Ad rfl (qf GH rfl (ql Dn rfl (Cp rfl (qm rfl ?_))))
  refine AC (t := 6) rfl (fun c2 => ?_) (fun c2 => ?_)
  ·have h := An c2 h
   refine qn rfl (qn rfl (qn rfl (qp rfl (qa rfl (Ae ?_)))))
   exact Av _ h (sm [] _ _ rfl rfl)
  ·have h := Ao c2 h
   refine qf GH rfl (ql Dn rfl (Cp rfl (qp rfl (qa rfl (Ae ?_)))))
   exact Av _ h (sm [] _ _ rfl rfl)
 ·obtain rfl := sj h
  refine Am (sm [] [(2, .e (.one (.pure (.val (.bool v1)))))] [] rfl rfl) (Ax ?_)
  exact ⟨⟨[_], ⟨.tmp _ _ rfl, trivial⟩, rfl⟩, trivial⟩
set_option maxRecDepth 10000 in
theorem L5 (N : Nat) (p0 : Al) (r : Ah × Int) (h : Iu N p0 = some r) : AA Tryz.prog 44 [.e (.agg [.pure (.sl (p0.fVersions.map Ak)), .pure (.sl (p0.fNow.map Ak)), .pure (.sl (p0.fTarget.map Ak)), .pure (.sl (p0.fTables.map Au))])] [(1, r.1.fBase.map Ak), (1, r.1.fNext.map Ak), (1, r.1.fHeld.map Bv)] (.tup [.agg [.own 0, .own 1, .own 2], .one (.pure (.val (.int .i64 r.2)))]) := by
 unfold Iu at h
 refine Ar (n := 50) (rs := [.cell 2 46, .tmp 3]) Tryz.func44 rfl rfl rfl (AZ rfl) (AZ rfl) rfl fun w0 S0 => ?_
 refine Ab (Aa Ad rfl (qb rfl (qz DN rfl (qa rfl (Ae (Ab (Ab (Aa Ad rfl (qL EE Ek rfl ?_)))))))))
 obtain ⟨v1, a1, h⟩ := bind_some h
 refine AG [] (Fl N p0 v1 a1) Sj rfl (qa rfl (Ae (Ab (Aa Ad rfl (qm rfl (Cy rfl (Ae ?_)))))))
 refine Ap rfl (fun c2 => ?_) (fun c2 => ?_)
 ·have h := An c2 h
  refine Ab (Aa Ad rfl (CO DN Jv rfl (qm rfl (qs Ay rfl (qa rfl (Ae ?_))))))
  obtain rfl := sj h
  refine Am ((A1 2 0 2001 1 _ rfl rfl rfl rfl).trans ((A1 2 1 2002 1 _ rfl rfl rfl rfl).trans ((A1 2 2 2003 1 _ rfl rfl rfl rfl).trans (sm [(1000, 2001), (1001, 2002), (1002, 2003)] [(2, .e (.one (.ptr 2 0))), (3, .e (.one (.pure (.val (.int .i64 v1)))))] [(2, .box [.own 1000, .own 1001, .own 1002]), (1000, .vec 1 ((([] : List Int)).map Ak)), (1001, .vec 1 ((([] : List Int)).map Ak)), (1002, .vec 1 ((([] : List Int)).map Bv))] rfl rfl)))) (Ax ?_)
  exact ⟨⟨[_, _], ⟨.cellN _ _ _ _ _ _ _ rfl rfl A6 Ay rfl rfl (Kw rfl), ⟨.tmp _ _ rfl, trivial⟩⟩, rfl⟩, ⟨rfl, rfl, rfl, trivial⟩⟩
 ·have h := Ao c2 h
  refine Aq (Ab (Aa Ad rfl (qf H7 rfl (ql Bw rfl ?_))))
  obtain ⟨v3, a3, h⟩ := bind_some h
  refine AG [2004] (De N p0.fNow v3 a3) PE rfl (EX AJ Es Lr rfl (qf H7 rfl (ql Bw rfl (AP AJ rfl ?_))))
  obtain ⟨v4, a4, h⟩ := bind_some h
  refine DE [2005] [17] (Js N (([(-1)] : List Int)) ((p0.fNow.length : Int)) v4 a4) Wx (E3 (fun _ => rfl) Cf) rfl (qf EC rfl (ql JG rfl (AP FC rfl ?_)))
  obtain ⟨c5, h⟩ := AW h
  refine LY (.p rfl) rfl rfl rfl EB HM RF (AZ rfl) Pr rfl rfl rfl c5.1 c5.2.1 c5.2.2 (P2 Bv _ ((0 : Int))) ?_
  refine CO DN Jv rfl (qz DN rfl (qs Ay rfl (Az (by kernel_rfl) (Ab (Ab (Aa Ad rfl (qf EC rfl (ql JG rfl (AP FC rfl (qm rfl (Ae ?_)))))))))))
  refine AB (L := GY N p0) h (fun v6 => mk [(1, .e (.one (.ptr 1 0))), (2, .e (.one (.ptr 2 0))), (5, .e (.one (.ptr 5 0))), (28, .e (.one (.pure (.sl (p0.fTables.map Au))))), (29, .e (.one (.pure (.val (.int .i64 ((p0.fTables.length : Int))))))), (30, .e (.one (.pure (.val (.int .i64 v6.2)))))] [(1, .box [.pure (.sl (p0.fVersions.map Ak)), .pure (.sl (p0.fNow.map Ak)), .pure (.sl (p0.fTarget.map Ak)), .pure (.sl (p0.fTables.map Au))]), (2, .box [.pure (.nil0), .pure (.nil0), .pure (.nil0)]), (5, .box [.own 2006, .own 2007, .own 2008]), (2006, .vec 1 (v3.map Ak)), (2007, .vec 1 (v4.map Ak)), (2008, .vec 1 (v6.1.map Bv))]) (fun v7 => mk [(2, .e (.one (.ptr 2 0))), (5, .e (.one (.ptr 5 0)))] [(2, .box [.pure (.nil0), .pure (.nil0), .pure (.nil0)]), (5, .box [.own 2009, .own 2010, .own 2011]), (2009, .vec 1 (v3.map Ak)), (2010, .vec 1 (v4.map Ak)), (2011, .vec 1 (v7.map Bv))]) (fun _ _ => rfl) (sm [(2006, 2004), (2007, 2005), (2008, 25)] _ _ rfl rfl) (fun j6 n6 v6 h => ?_) (fun v7 s h hs => ?_)
  ·unfold GY at h
   refine Ab (Aa Ad rfl (AR rfl (Ae (Ab ?_))))
   refine Ap rfl (fun c8 => ?_) (fun c8 => ?_)
   ·have h := An c8 h
    refine Aq ?_
    refine AK h (fun v9 => mk [(1, .e (.one (.ptr 1 0))), (2, .e (.one (.ptr 2 0))), (5, .e (.one (.ptr 5 0))), (28, .e (.one (.pure (.sl (p0.fTables.map Au))))), (29, .e (.one (.pure (.val (.int .i64 ((p0.fTables.length : Int))))))), (30, .e (.one (.pure (.val (.int .i64 v6.2)))))] [(1, .box [.pure (.sl (p0.fVersions.map Ak)), .pure (.sl (p0.fNow.map Ak)), .pure (.sl (p0.fTarget.map Ak)), .pure (.sl (p0.fTables.map Au))]), (2, .box [.pure (.nil0), .pure (.nil0), .pure (.nil0)]), (5, .box [.own 2012, .own 2013, .own 2014]), (2012, .vec 1 (v3.map Ak)), (2013, .vec 1 (v4.map Ak)), (2014, .vec 1 (v9.map Bv))]) (fun j9 h => ?_) (fun v9 h => ?_)
    ·refine AD (Ab (Aa Ad rfl (qm rfl ?_)))
     obtain ⟨v10, a10, b10, h⟩ := Aj h
     refine qi FC Fj a10 (Ag b10) rfl (qK IS Fj rfl (qz K9 rfl (qa rfl (qs Fj rfl (Ae (Ab (Aa Ad rfl (qL IS Fj rfl ?_))))))))
     obtain ⟨v11, a11, h⟩ := bind_some h
     refine AG [] (JJ N v10 v11 a11) Ug rfl (Ae ?_)
     refine Ap rfl (fun c12 => ?_) (fun c12 => ?_)
     ·have h := An c12 h
      refine Aa Ad rfl (qf DX rfl (ql It rfl (qm rfl (qf H7 rfl (ql Bw rfl (qf Et rfl (ql Dn rfl ?_)))))))
      obtain ⟨v13, a13, b13, h⟩ := Aj h
      refine qi AJ Es a13 (Ag b13) rfl (qk Dn rfl ?_)
      obtain ⟨c14, h⟩ := AW h
      refine IX rfl c14 ?_
      obtain ⟨v15, a15, b15, h⟩ := Aj h
      refine qI EB HM a15 (Ag b15) rfl ?_
      refine AT rfl rfl rfl rfl (Ag b15) rfl HM rfl (AZ rfl) (AU Bv v6.1 _ ((DD .u8 1 v13))) ?_
      refine Az (by kernel_rfl) ?_
      exact Av _ h (sm [(2012, 2006), (2013, 2007), (2014, 2008)] _ _ rfl rfl)
     ·have h := Ao c12 h
      refine Aq ?_
      exact Av _ h (sm [(2012, 2006), (2013, 2007), (2014, 2008)] _ _ rfl rfl)
    ·refine Aa Ad rfl (AI rfl (qm rfl (Ae ?_)))
     exact Av _ h (sm [(2006, 2012), (2007, 2013), (2008, 2014)] _ _ rfl rfl)
   ·have h := Ao c8 h
    refine AL ?_
    exact Av _ h (sm [(2009, 2006), (2010, 2007), (2011, 2008)] _ _ rfl rfl)
  ·refine Am hs (Ab (Aa Ad rfl (qL A6 Ay rfl (qs Ay rfl (qa rfl (Ae ?_))))))
   obtain rfl := sj h
   refine Am (sm [(1000, 2009), (1001, 2010), (1002, 2011)] [(2, .e (.one (.ptr 2 0))), (3, .e (.one (.pure (.val (.int .i64 0)))))] [(2, .box [.own 1000, .own 1001, .own 1002]), (1000, .vec 1 (v3.map Ak)), (1001, .vec 1 (v4.map Ak)), (1002, .vec 1 (v7.map Bv))] rfl rfl) (Ax ?_)
   exact ⟨⟨[_, _], ⟨.cellN _ _ _ _ _ _ _ rfl rfl A6 Ay rfl rfl (Kw rfl), ⟨.tmp _ _ rfl, trivial⟩⟩, rfl⟩, ⟨rfl, rfl, rfl, trivial⟩⟩
set_option maxRecDepth 10000 in
theorem Jg (N : Nat) (p0 : Ah) (p1 : Int) (r : Int) (h : E5 N p0 p1 = some r) : AA Tryz.prog 107 [.e (.agg [.pure (.sl (p0.fBase.map Ak)), .pure (.sl (p0.fNext.map Ak)), .pure (.sl (p0.fHeld.map Bv))]), .e (.one (.pure (.val (.int .i64 p1))))] [] (.e (.one (.pure (.val (.int .u8 r))))) := by
 unfold E5 at h
 refine Ar (n := 27) (rs := [.tmp 4]) Tryz.func107 rfl rfl rfl (AZ rfl) (AZ rfl) rfl fun w0 S0 => ?_
 refine Ab (Aa Ad rfl (qb rfl (qa rfl (Ae (Ab (Aa Ad rfl (qf Du rfl (ql Bw rfl (qm rfl ?_)))))))))
 obtain ⟨v1, a1, b1, h⟩ := Aj h
 refine qi AJ Es a1 (Ag b1) rfl (qk Dn rfl ?_)
 obtain ⟨c2, h⟩ := AW h
 refine IX rfl c2 (qa rfl (Ae ?_))
 refine AK h (fun v3 => mk [(5, .e (.one (.pure (.val (.int .u8 v3)))))] []) (fun j3 h => ?_) (fun v3 h => ?_)
 ·refine Ab (Aa Ad rfl (qf CU rfl (ql Bw rfl (qm rfl ?_))))
  obtain ⟨v4, a4, b4, h⟩ := Aj h
  refine qi AJ Es a4 (Ag b4) rfl (qk Dn rfl (Dl rfl (Ae ?_)))
  refine Ap rfl (fun c5 => ?_) (fun c5 => ?_)
  ·have h := An c5 h
   refine Aa Ad rfl (qm rfl (qf CU rfl (ql Bw rfl (qm rfl ?_))))
   obtain ⟨v6, a6, b6, h⟩ := Aj h
   refine qi AJ Es a6 (Ag b6) rfl (qk Dn rfl ?_)
   obtain ⟨c7, h⟩ := AW h
   refine IX rfl c7 (Ro rfl (qa rfl (Ae ?_)))
   exact Av _ h (sm [] _ _ rfl rfl)
  ·have h := Ao c5 h
   refine Aq ?_
   exact Av _ h (sm [] _ _ rfl rfl)
 ·refine Ab (Aa Ad rfl (qm rfl (qa rfl (Ae ?_))))
  obtain rfl := sj h
  refine Am (sm [] [(4, .e (.one (.pure (.val (.int .u8 v3)))))] [] rfl rfl) (Ax ?_)
  exact ⟨⟨[_], ⟨.tmp _ _ rfl, trivial⟩, rfl⟩, trivial⟩
set_option maxRecDepth 10000 in
theorem Id (N : Nat) (p0 : Al) (p1 : Ah) (r : Int) (h : EW N p0 p1 = some r) : AA Tryz.prog 65 [.e (.agg [.pure (.sl (p0.fVersions.map Ak)), .pure (.sl (p0.fNow.map Ak)), .pure (.sl (p0.fTarget.map Ak)), .pure (.sl (p0.fTables.map Au))]), .e (.agg [.pure (.sl (p1.fBase.map Ak)), .pure (.sl (p1.fNext.map Ak)), .pure (.sl (p1.fHeld.map Bv))])] [] (.e (.one (.pure (.val (.int .i64 r))))) := by
 unfold EW at h
 refine Ar (n := 135) (rs := [.tmp 4]) Tryz.func65 rfl rfl rfl (AZ rfl) (AZ rfl) rfl fun w0 S0 => ?_
 refine Ab (Aa Ad rfl (qb rfl (qb rfl (qa rfl (Ae (Ab (Ab (Aa Ad rfl (qL EE Ek rfl ?_)))))))))
 obtain ⟨v1, a1, h⟩ := bind_some h
 refine AG [] (Fl N p0 v1 a1) Sj rfl (qa rfl (Ae (Ab (Aa Ad rfl (qm rfl (Cy rfl (Ae ?_)))))))
 refine Ap rfl (fun c2 => ?_) (fun c2 => ?_)
 ·have h := An c2 h
  refine Ab (Aa Ad rfl (qm rfl (qa rfl (Ae ?_))))
  obtain rfl := sj h
  refine Am (sm [] [(4, .e (.one (.pure (.val (.int .i64 v1)))))] [] rfl rfl) (Ax ?_)
  exact ⟨⟨[_], ⟨.tmp _ _ rfl, trivial⟩, rfl⟩, trivial⟩
 ·have h := Ao c2 h
  refine Aq (Ab ?_)
  refine AK h (fun v3 => mk [(2, .e (.one (.ptr 2 0))), (3, .e (.one (.ptr 3 0))), (41, .e (.one (.pure (.val (.bool v3)))))] [(2, .box [.pure (.sl (p0.fVersions.map Ak)), .pure (.sl (p0.fNow.map Ak)), .pure (.sl (p0.fTarget.map Ak)), .pure (.sl (p0.fTables.map Au))]), (3, .box [.pure (.sl (p1.fBase.map Ak)), .pure (.sl (p1.fNext.map Ak)), .pure (.sl (p1.fHeld.map Bv))])]) (fun j3 h => ?_) (fun v3 h => ?_)
  ·refine Aa Ad rfl (qf Du rfl (ql Bw rfl (AP AJ rfl (qf BZ rfl (ql Bw rfl (AP AJ rfl (Cy rfl (qm rfl ?_))))))))
   refine AC (t := 24) rfl (fun c4 => ?_) (fun c4 => ?_)
   ·have h := An c4 h
    refine qn rfl (qn rfl (qn rfl (qn rfl (qn rfl (qn rfl (qn rfl (qp rfl (qm rfl (qn rfl (qn rfl (qn rfl (qn rfl (qn rfl (qn rfl (qn rfl (qp rfl (Ae ?_)))))))))))))))))
    exact Av _ h (sm [] _ _ rfl rfl)
   ·have h := Ao c4 h
    refine qf CU rfl (ql Bw rfl (AP AJ rfl (qf BZ rfl (ql Bw rfl (AP AJ rfl (Cy rfl (qp rfl (qm rfl ?_))))))))
    refine AC (t := 33) rfl (fun c5 => ?_) (fun c5 => ?_)
    ·have h := An c5 h
     refine qn rfl (qn rfl (qn rfl (qn rfl (qn rfl (qn rfl (qn rfl (qp rfl (Ae ?_))))))))
     exact Av _ h (sm [] _ _ rfl rfl)
    ·have h := Ao c5 h
     refine qf DX rfl (ql It rfl (AP EB rfl (qf EC rfl (ql JG rfl (AP FC rfl (Cy rfl (qp rfl (Ae ?_))))))))
     exact Av _ h (sm [] _ _ rfl rfl)
  ·refine Ap rfl (fun c6 => ?_) (fun c6 => ?_)
   ·have h := An c6 h
    refine Ab (Aa Ad rfl (qa rfl (Ae ?_)))
    obtain rfl := sj h
    refine Am (sm [] [(4, .e (.one (.pure (.val (.int .i64 6)))))] [] rfl rfl) (Ax ?_)
    exact ⟨⟨[_], ⟨.tmp _ _ rfl, trivial⟩, rfl⟩, trivial⟩
   ·have h := Ao c6 h
    refine Aq (Ab (Ab (Aa Ad rfl (qf BZ rfl (ql Bw rfl (AP AJ rfl (qm rfl (Ae ?_))))))))
    refine AB (L := Em N p0 p1) h (fun v7 => mk [(2, .e (.one (.ptr 2 0))), (3, .e (.one (.ptr 3 0))), (43, .e (.one (.pure (.sl (p0.fVersions.map Ak))))), (44, .e (.one (.pure (.val (.int .i64 ((p0.fVersions.length : Int))))))), (45, .e (.one (.pure (.val (.int .i64 v7)))))] [(2, .box [.pure (.sl (p0.fVersions.map Ak)), .pure (.sl (p0.fNow.map Ak)), .pure (.sl (p0.fTarget.map Ak)), .pure (.sl (p0.fTables.map Au))]), (3, .box [.pure (.sl (p1.fBase.map Ak)), .pure (.sl (p1.fNext.map Ak)), .pure (.sl (p1.fHeld.map Bv))])]) (fun v8 => mk [(2, .e (.one (.ptr 2 0))), (3, .e (.one (.ptr 3 0)))] [(2, .box [.pure (.sl (p0.fVersions.map Ak)), .pure (.sl (p0.fNow.map Ak)), .pure (.sl (p0.fTarget.map Ak)), .pure (.sl (p0.fTables.map Au))]), (3, .box [.pure (.sl (p1.fBase.map Ak)), .pure (.sl (p1.fNext.map Ak)), .pure (.sl (p1.fHeld.map Bv))])]) (fun _ _ => rfl) (sm [] _ _ rfl rfl) (fun j7 n7 v7 h => ?_) (fun v8 s h hs => ?_)
    ·unfold Em at h
     refine Ab (Aa Ad rfl (AR rfl (Ae (Ab ?_))))
     refine Ap rfl (fun c9 => ?_) (fun c9 => ?_)
     ·have h := An c9 h
      refine Aq (Ab (AD (Ab (Aa Ad rfl (qm rfl ?_)))))
      obtain ⟨v10, a10, b10, h⟩ := Aj h
      refine qi AJ Es a10 (Ag b10) rfl (qk Dn rfl (qa rfl (qa rfl (Ae (Ab ?_)))))
      refine AK h (fun v11 => mk [(2, .e (.one (.ptr 2 0))), (3, .e (.one (.ptr 3 0))), (6, .e (.one (.pure (.val (.int .i64 v7))))), (43, .e (.one (.pure (.sl (p0.fVersions.map Ak))))), (44, .e (.one (.pure (.val (.int .i64 ((p0.fVersions.length : Int))))))), (45, .e (.one (.pure (.val (.int .i64 v7))))), (81, .e (.one (.pure (.val (.bool v11)))))] [(2, .box [.pure (.sl (p0.fVersions.map Ak)), .pure (.sl (p0.fNow.map Ak)), .pure (.sl (p0.fTarget.map Ak)), .pure (.sl (p0.fTables.map Au))]), (3, .box [.pure (.sl (p1.fBase.map Ak)), .pure (.sl (p1.fNext.map Ak)), .pure (.sl (p1.fHeld.map Bv))])]) (fun j11 h => ?_) (fun v11 h => ?_)
      ·refine Aa Ad rfl (qf Du rfl (ql Bw rfl (qm rfl ?_)))
       obtain ⟨v12, a12, b12, h⟩ := Aj h
       refine qi AJ Es a12 (Ag b12) rfl (qk Dn rfl (AR rfl (qm rfl ?_)))
       refine AC (t := 56) rfl (fun c13 => ?_) (fun c13 => ?_)
       ·have h := An c13 h
        refine qn rfl (qn rfl (qn rfl (qn rfl (qn rfl (qn rfl (qn rfl (qp rfl (qm rfl (qn rfl (qn rfl (qn rfl (qn rfl (qn rfl (qn rfl (qp rfl (qm rfl (qn rfl (qn rfl (qn rfl (qn rfl (qn rfl (qn rfl (qn rfl (qp rfl (Ae ?_)))))))))))))))))))))))))
        exact Av _ h (sm [] _ _ rfl rfl)
       ·have h := Ao c13 h
        refine qf Du rfl (ql Bw rfl (qm rfl ?_))
        obtain ⟨v14, a14, b14, h⟩ := Aj h
        refine qi AJ Es a14 (Ag b14) rfl (qk Dn rfl (qm rfl (Dl rfl (qp rfl (qm rfl ?_)))))
        refine AC (t := 65) rfl (fun c15 => ?_) (fun c15 => ?_)
        ·have h := An c15 h
         refine qn rfl (qn rfl (qn rfl (qn rfl (qn rfl (qn rfl (qp rfl (qm rfl (qn rfl (qn rfl (qn rfl (qn rfl (qn rfl (qn rfl (qn rfl (qp rfl (Ae ?_))))))))))))))))
         exact Av _ h (sm [] _ _ rfl rfl)
        ·have h := Ao c15 h
         refine qf CU rfl (ql Bw rfl (qm rfl ?_))
         obtain ⟨v16, a16, b16, h⟩ := Aj h
         refine qi AJ Es a16 (Ag b16) rfl (qk Dn rfl (AR rfl (qp rfl (qm rfl ?_))))
         refine AC (t := 73) rfl (fun c17 => ?_) (fun c17 => ?_)
         ·have h := An c17 h
          refine qn rfl (qn rfl (qn rfl (qn rfl (qn rfl (qn rfl (qn rfl (qp rfl (Ae ?_))))))))
          exact Av _ h (sm [] _ _ rfl rfl)
         ·have h := Ao c17 h
          refine qf CU rfl (ql Bw rfl (qm rfl ?_))
          obtain ⟨v18, a18, b18, h⟩ := Aj h
          refine qi AJ Es a18 (Ag b18) rfl (qk Dn rfl (qm rfl (Dl rfl (qp rfl (Ae ?_)))))
          exact Av _ h (sm [] _ _ rfl rfl)
      ·refine Ap rfl (fun c19 => ?_) (fun c19 => ?_)
       ·have h := An c19 h
        refine Ab (Aa Ad rfl (qa rfl (Ae ?_)))
        obtain rfl := sj h
        refine Am (sm [] [(4, .e (.one (.pure (.val (.int .i64 7)))))] [] rfl rfl) (Ax ?_)
        exact ⟨⟨[_], ⟨.tmp _ _ rfl, trivial⟩, rfl⟩, trivial⟩
       ·have h := Ao c19 h
        refine Aq (Ab (Aa Ad rfl (qf Du rfl (ql Bw rfl (qm rfl ?_)))))
        obtain ⟨v20, a20, b20, h⟩ := Aj h
        refine qi AJ Es a20 (Ag b20) rfl (qk Dn rfl (qf CU rfl (ql Bw rfl (qm rfl ?_))))
        obtain ⟨v21, a21, b21, h⟩ := Aj h
        refine qi AJ Es a21 (Ag b21) rfl (qk Dn rfl (Cp rfl (Az (by kernel_rfl) ?_)))
        refine Ap rfl (fun c22 => ?_) (fun c22 => ?_)
        ·have h := An c22 h
         refine Ab (Aa Ad rfl (qa rfl (Ae ?_)))
         obtain rfl := sj h
         refine Am (sm [] [(4, .e (.one (.pure (.val (.int .i64 1)))))] [] rfl rfl) (Ax ?_)
         exact ⟨⟨[_], ⟨.tmp _ _ rfl, trivial⟩, rfl⟩, trivial⟩
        ·have h := Ao c22 h
         refine Aq (Aa Ad rfl (AI rfl (qm rfl (Ae ?_))))
         exact Av _ h (sm [] _ _ rfl rfl)
     ·have h := Ao c9 h
      refine AL ?_
      exact Av _ h (sm [] _ _ rfl rfl)
    ·refine Am hs (Ab (Ab (Aa Ad rfl (qf EC rfl (ql JG rfl (AP FC rfl (qm rfl (Ae ?_))))))))
     refine AB (L := D5 N p0 p1) h (fun v23 => mk [(2, .e (.one (.ptr 2 0))), (3, .e (.one (.ptr 3 0))), (95, .e (.one (.pure (.sl (p0.fTables.map Au))))), (96, .e (.one (.pure (.val (.int .i64 ((p0.fTables.length : Int))))))), (97, .e (.one (.pure (.val (.int .i64 v23)))))] [(2, .box [.pure (.sl (p0.fVersions.map Ak)), .pure (.sl (p0.fNow.map Ak)), .pure (.sl (p0.fTarget.map Ak)), .pure (.sl (p0.fTables.map Au))]), (3, .box [.pure (.sl (p1.fBase.map Ak)), .pure (.sl (p1.fNext.map Ak)), .pure (.sl (p1.fHeld.map Bv))])]) (fun v24 => mk [] []) (fun _ _ => rfl) (sm [] _ _ rfl rfl) (fun j23 n23 v23 h => ?_) (fun v24 s h hs => ?_)
     ·unfold D5 at h
      refine Ab (Aa Ad rfl (AR rfl (Ae (Ab ?_))))
      refine Ap rfl (fun c25 => ?_) (fun c25 => ?_)
      ·have h := An c25 h
       refine Aq (Ab (AD (Ab (Aa Ad rfl (qm rfl ?_)))))
       obtain ⟨v26, a26, b26, h⟩ := Aj h
       refine qi FC Fj a26 (Ag b26) rfl (qK IS Fj rfl (qz K9 rfl (qa rfl (qs Fj rfl (Ae (Ab (Aa Ad rfl (qa rfl (qa rfl (Ae ?_))))))))))
       refine AK h (fun v27 => mk [(2, .e (.one (.ptr 2 0))), (3, .e (.one (.ptr 3 0))), (8, .e (.one (.pure (.val (.int .i64 v23))))), (10, .e (.one (.pure (.val (.int .u8 v27.1))))), (11, .e (.one (.pure (.val (.int .u8 v27.2))))), (95, .e (.one (.pure (.sl (p0.fTables.map Au))))), (96, .e (.one (.pure (.val (.int .i64 ((p0.fTables.length : Int))))))), (97, .e (.one (.pure (.val (.int .i64 v23)))))] [(2, .box [.pure (.sl (p0.fVersions.map Ak)), .pure (.sl (p0.fNow.map Ak)), .pure (.sl (p0.fTarget.map Ak)), .pure (.sl (p0.fTables.map Au))]), (3, .box [.pure (.sl (p1.fBase.map Ak)), .pure (.sl (p1.fNext.map Ak)), .pure (.sl (p1.fHeld.map Bv))])]) (fun j27 h => ?_) (fun v27 h => ?_)
       ·refine Ab (Aa Ad rfl (qL IS Fj rfl ?_))
        obtain ⟨v28, a28, h⟩ := bind_some h
        refine AG [] (JJ N v26 v28 a28) Ug rfl (Ae ?_)
        refine Ap rfl (fun c29 => ?_) (fun c29 => ?_)
        ·have h := An c29 h
         refine Aa Ad rfl (qL A6 Ay rfl (qf Et rfl (ql Dn rfl ?_)))
         obtain ⟨v30, a30, h⟩ := bind_some h
         refine AG [] (Jg N p1 v26.fFrom v30 a30) RQ rfl (qf BZ rfl (ql Bw rfl (qf Et rfl (ql Dn rfl ?_))))
         obtain ⟨v31, a31, b31, h⟩ := Aj h
         refine qi AJ Es a31 (Ag b31) rfl (qk Dn rfl ?_)
         obtain ⟨c32, h⟩ := AW h
         refine IX rfl c32 (Bb rfl (qa rfl (qa rfl (Az (by kernel_rfl) ?_))))
         exact Av _ h (sm [] _ _ rfl rfl)
        ·have h := Ao c29 h
         refine Aq ?_
         exact Av _ h (sm [] _ _ rfl rfl)
       ·refine AK h (fun v33 => mk [(2, .e (.one (.ptr 2 0))), (3, .e (.one (.ptr 3 0))), (95, .e (.one (.pure (.sl (p0.fTables.map Au))))), (96, .e (.one (.pure (.val (.int .i64 ((p0.fTables.length : Int))))))), (97, .e (.one (.pure (.val (.int .i64 v23))))), (133, .e (.one (.pure (.val (.bool v33)))))] [(2, .box [.pure (.sl (p0.fVersions.map Ak)), .pure (.sl (p0.fNow.map Ak)), .pure (.sl (p0.fTarget.map Ak)), .pure (.sl (p0.fTables.map Au))]), (3, .box [.pure (.sl (p1.fBase.map Ak)), .pure (.sl (p1.fNext.map Ak)), .pure (.sl (p1.fHeld.map Bv))])]) (fun j33 h => ?_) (fun v33 h => ?_)
        ·refine Aa Ad rfl (qm rfl (qf DX rfl (ql It rfl (qm rfl ?_))))
         obtain ⟨v34, a34, b34, h⟩ := Aj h
         refine qi EB HM a34 (Ag b34) rfl (qk KO rfl (IM rfl (Cy rfl (qm rfl ?_))))
         refine AC (t := 124) rfl (fun c35 => ?_) (fun c35 => ?_)
         ·have h := An c35 h
          refine qn rfl (qn rfl (qn rfl (qn rfl (qn rfl (qn rfl (qn rfl (qn rfl (qp rfl (Ae ?_)))))))))
          exact Av _ h (sm [] _ _ rfl rfl)
         ·have h := Ao c35 h
          refine qf DX rfl (ql It rfl (qm rfl ?_))
          obtain ⟨v36, a36, b36, h⟩ := Aj h
          refine qi EB HM a36 (Ag b36) rfl (qk KO rfl (qm rfl (IM rfl (Cy rfl (qp rfl (Ae ?_))))))
          exact Av _ h (sm [] _ _ rfl rfl)
        ·refine Ap rfl (fun c37 => ?_) (fun c37 => ?_)
         ·have h := An c37 h
          refine Ab (Aa Ad rfl (qa rfl (Ae ?_)))
          obtain rfl := sj h
          refine Am (sm [] [(4, .e (.one (.pure (.val (.int .i64 1)))))] [] rfl rfl) (Ax ?_)
          exact ⟨⟨[_], ⟨.tmp _ _ rfl, trivial⟩, rfl⟩, trivial⟩
         ·have h := Ao c37 h
          refine Aq (Aa Ad rfl (AI rfl (qm rfl (Ae ?_))))
          exact Av _ h (sm [] _ _ rfl rfl)
      ·have h := Ao c25 h
       refine AL ?_
       exact Av _ h (sm [] _ _ rfl rfl)
     ·refine Am hs (Ab (Aa Ad rfl (qa rfl (Ae ?_))))
      obtain rfl := sj h
      refine Am (sm [] [(4, .e (.one (.pure (.val (.int .i64 0)))))] [] rfl rfl) (Ax ?_)
      exact ⟨⟨[_], ⟨.tmp _ _ rfl, trivial⟩, rfl⟩, trivial⟩
set_option maxRecDepth 10000 in
theorem Ew (N : Nat) (p0 : List Int) (r : (List Int)) (h : Bg N p0 = some r) : AA Tryz.prog 67 [.e (.one (.pure (.sl (p0.map Bv))))] [(1, r.map Bv)] (.e (.one (.own 0))) := by
 unfold Bg at h
 refine Ar (n := 8) (rs := [.tmp 2]) Tryz.func67 rfl rfl rfl (AZ rfl) (AZ rfl) rfl fun w0 S0 => ?_
 refine Ab (Aa Ad rfl (qa rfl (Ae (Ab (Ab (Aa Ad rfl (qm rfl ?_)))))))
 refine PW (.p rfl) rfl EB ?_
 refine Ae ?_
 refine Qe rfl (fun c2 => ?_) ?_
 ·have c2 := List.map_eq_nil_iff.1 c2
  rw [c2] at h
  have h : (some (([] : List Int))) = some r := h
  refine Ab (Aa Ad rfl (qa rfl (Ae ?_)))
  obtain rfl := sj h
  refine Am ((BR 2 2001 1 rfl rfl rfl).trans (sm [(1000, 2001)] [(2, .e (.one (.own 1000)))] [(1000, .vec 1 ((([] : List Int)).map Bv))] rfl rfl)) (Ax ?_)
  exact ⟨⟨[_], ⟨.tmp _ _ rfl, trivial⟩, rfl⟩, ⟨rfl, trivial⟩⟩
 ·refine Aq (Ab (Aa Ad rfl (EX EB HM Pr rfl (qm rfl ?_))))
  obtain ⟨c1, h⟩ := AW h
  refine QZ (f := Bv) EB EB HM RF Pr (fun _ => rfl) c1 rfl (qa rfl (Ae ?_))
  obtain rfl := sj h
  refine Am (sm [(1000, 7)] [(2, .e (.one (.own 1000)))] [(1000, .vec 1 (((([] : List Int)) ++ p0).map Bv))] rfl rfl) (Ax ?_)
  exact ⟨⟨[_], ⟨.tmp _ _ rfl, trivial⟩, rfl⟩, ⟨rfl, trivial⟩⟩
set_option maxRecDepth 10000 in
theorem N9 (N : Nat) (p0 : Al) (p1 : Ah) (r : (List Ah) × Int) (h : Jl N p0 p1 = some r) : AA Tryz.prog 99 [.e (.agg [.pure (.sl (p0.fVersions.map Ak)), .pure (.sl (p0.fNow.map Ak)), .pure (.sl (p0.fTarget.map Ak)), .pure (.sl (p0.fTables.map Au))]), .e (.agg [.pure (.sl (p1.fBase.map Ak)), .pure (.sl (p1.fNext.map Ak)), .pure (.sl (p1.fHeld.map Bv))])] [(3, r.1.map Ai)] (.tup [.one (.own 0), .one (.pure (.val (.int .i64 r.2)))]) := by
 unfold Jl at h
 refine Ar (n := 75) (rs := [.tmp 4, .tmp 5]) Tryz.func99 rfl rfl rfl (AZ rfl) (AZ rfl) rfl fun w0 S0 => ?_
 refine Ab (Aa Ad rfl (qb rfl (qb rfl (qa rfl (qa rfl (Ae (Ab (Ab (Aa Ad rfl (qL EE Ek rfl (qL A6 Ay rfl ?_)))))))))))
 obtain ⟨v1, a1, h⟩ := bind_some h
 refine AG [] (Id N p0 p1 v1 a1) RP rfl (qa rfl (Ae (Ab (Aa Ad rfl (qm rfl (Cy rfl (Ae ?_)))))))
 refine Ap rfl (fun c2 => ?_) (fun c2 => ?_)
 ·have h := An c2 h
  refine Ab (Aa Ad rfl (qm rfl (qa rfl (qa rfl (Ae ?_)))))
  obtain rfl := sj h
  refine Am ((BR 4 2001 3 rfl rfl rfl).trans (sm [(1000, 2001)] [(4, .e (.one (.own 1000))), (5, .e (.one (.pure (.val (.int .i64 v1)))))] [(1000, .vec 3 ((([] : List Ah)).map Ai))] rfl rfl)) (Ax ?_)
  exact ⟨⟨[_, _], ⟨.tmp _ _ rfl, ⟨.tmp _ _ rfl, trivial⟩⟩, rfl⟩, ⟨rfl, trivial⟩⟩
 ·have h := Ao c2 h
  refine Aq (Ab (Aa Ad rfl (qa rfl (Ae (Ab (Ab (Aa Ad rfl (qf CU rfl (ql Bw rfl (AP AJ rfl (qm rfl (Ae ?_))))))))))))
  refine AB (L := GB N p1) h (fun v3 => mk [(3, .e (.one (.ptr 3 0))), (7, .e (.one (.own 2002))), (22, .e (.one (.pure (.sl (p1.fNext.map Ak))))), (23, .e (.one (.pure (.val (.int .i64 ((p1.fNext.length : Int))))))), (24, .e (.one (.pure (.val (.int .i64 v3.2)))))] [(3, .box [.pure (.sl (p1.fBase.map Ak)), .pure (.sl (p1.fNext.map Ak)), .pure (.sl (p1.fHeld.map Bv))]), (2002, .vec 1 (v3.1.map Ak))]) (fun v4 => mk [(3, .e (.one (.ptr 3 0))), (7, .e (.one (.own 2003)))] [(3, .box [.pure (.sl (p1.fBase.map Ak)), .pure (.sl (p1.fNext.map Ak)), .pure (.sl (p1.fHeld.map Bv))]), (2003, .vec 1 (v4.map Ak))]) (fun _ _ => rfl) ((BR 7 2005 1 rfl rfl rfl).trans (sm [(2002, 2005)] _ _ rfl rfl)) (fun j3 n3 v3 h => ?_) (fun v4 s h hs => ?_)
  ·unfold GB at h
   refine Ab (Aa Ad rfl (AR rfl (Ae (Ab ?_))))
   refine Ap rfl (fun c5 => ?_) (fun c5 => ?_)
   ·have h := An c5 h
    refine Aq ?_
    refine AK h (fun v6 => mk [(3, .e (.one (.ptr 3 0))), (7, .e (.one (.own 2004))), (22, .e (.one (.pure (.sl (p1.fNext.map Ak))))), (23, .e (.one (.pure (.val (.int .i64 ((p1.fNext.length : Int))))))), (24, .e (.one (.pure (.val (.int .i64 v3.2)))))] [(3, .box [.pure (.sl (p1.fBase.map Ak)), .pure (.sl (p1.fNext.map Ak)), .pure (.sl (p1.fHeld.map Bv))]), (2004, .vec 1 (v6.map Ak))]) (fun j6 h => ?_) (fun v6 h => ?_)
    ·refine AD (Ab (Aa Ad rfl (qm rfl ?_)))
     obtain ⟨v7, a7, b7, h⟩ := Aj h
     refine qi AJ Es a7 (Ag b7) rfl (qk Dn rfl (qa rfl (qa rfl (Ae (Ab (Aa Ad rfl (qm rfl (Dl rfl (Ae ?_)))))))))
     refine Ap rfl (fun c8 => ?_) (fun c8 => ?_)
     ·have h := An c8 h
      refine Aa Ad rfl (qm rfl (qm rfl (EX AJ Es Lr rfl ?_)))
      obtain ⟨c9, h⟩ := AW h
      refine Ep (f := Ak) AJ AJ Es Oa Lr c9 rfl (qa rfl (Ae ?_))
      exact Av _ h (sm [(2004, 34)] _ _ rfl rfl)
     ·have h := Ao c8 h
      refine Aq ?_
      exact Av _ h (sm [(2004, 2002)] _ _ rfl rfl)
    ·refine Aa Ad rfl (AI rfl (qm rfl (Ae ?_)))
     exact Av _ h (sm [(2002, 2004)] _ _ rfl rfl)
   ·have h := Ao c5 h
    refine AL ?_
    exact Av _ h (sm [(2003, 2002)] _ _ rfl rfl)
  ·refine Am hs (Ab (Aa Ad rfl (qa rfl (Ae (Ab (Ab (Aa Ad rfl (qm rfl (Fz AJ rfl ?_)))))))))
   obtain ⟨c10, h⟩ := AW h
   refine IX rfl c10 (qm rfl (Ae ?_))
   refine AB (L := Gg N p1 v4) h (fun v11 => mk [(3, .e (.one (.ptr 3 0))), (7, .e (.one (.own 2006))), (10, .e (.one (.own 2007))), (38, .e (.one (.pure (.val (.int .i64 ((DD .i64 1 ((v4.length : Int))))))))), (39, .e (.one (.pure (.val (.int .i64 v11.2)))))] [(3, .box [.pure (.sl (p1.fBase.map Ak)), .pure (.sl (p1.fNext.map Ak)), .pure (.sl (p1.fHeld.map Bv))]), (2006, .vec 1 (v4.map Ak)), (2007, .vec 3 (v11.1.map Ai))]) (fun v12 => mk [(10, .e (.one (.own 2008)))] [(2008, .vec 3 (v12.map Ai))]) (fun _ _ => rfl) ((BR 10 2027 3 rfl rfl rfl).trans (sm [(2006, 2003), (2007, 2027)] _ _ rfl rfl)) (fun j11 n11 v11 h => ?_) (fun v12 s h hs => ?_)
   ·unfold Gg at h
    refine Ab (Aa Ad rfl (AR rfl (Ae (Ab ?_))))
    refine Ap rfl (fun c13 => ?_) (fun c13 => ?_)
    ·have h := An c13 h
     refine Aq (Ab (AD (Ab (Aa Ad rfl (qm rfl (qa rfl (Ae (Ab (Aa Ad rfl (qf Du rfl (ql Bw rfl ?_)))))))))))
     obtain ⟨v14, a14, h⟩ := bind_some h
     refine AG [2009] (De N p1.fBase v14 a14) PE rfl (qf CU rfl (ql Bw rfl ?_))
     obtain ⟨v15, a15, h⟩ := bind_some h
     refine AG [2010] (De N p1.fNext v15 a15) PE rfl (qf DX rfl (ql It rfl ?_))
     obtain ⟨v16, a16, h⟩ := bind_some h
     refine AG [2011] (Ew N p1.fHeld v16 a16) Uo rfl (CO DN Jv rfl (qz DN rfl (qs Ay rfl (Az (by kernel_rfl) (Ab (Ab (Aa Ad rfl (qm rfl (Fz AJ rfl (qm rfl (Ae ?_)))))))))))
     refine AB (L := Gd N v4 v11) h (fun v17 => mk [(3, .e (.one (.ptr 3 0))), (7, .e (.one (.own 2015))), (10, .e (.one (.own 2016))), (11, .e (.one (.pure (.val (.int .i64 v11.2))))), (12, .e (.one (.ptr 12 0))), (38, .e (.one (.pure (.val (.int .i64 ((DD .i64 1 ((v4.length : Int))))))))), (39, .e (.one (.pure (.val (.int .i64 v11.2))))), (52, .e (.one (.own 2015))), (53, .e (.one (.pure (.val (.int .i64 ((v4.length : Int))))))), (54, .e (.one (.pure (.val (.int .i64 v17.2)))))] [(3, .box [.pure (.sl (p1.fBase.map Ak)), .pure (.sl (p1.fNext.map Ak)), .pure (.sl (p1.fHeld.map Bv))]), (12, .box [.own 2012, .own 2013, .own 2014]), (2012, .vec 1 (v14.map Ak)), (2013, .vec 1 (v17.1.map Ak)), (2014, .vec 1 (v16.map Bv)), (2015, .vec 1 (v4.map Ak)), (2016, .vec 3 (v11.1.map Ai))]) (fun v18 => mk [(3, .e (.one (.ptr 3 0))), (7, .e (.one (.own 2020))), (10, .e (.one (.own 2021))), (12, .e (.one (.ptr 12 0))), (38, .e (.one (.pure (.val (.int .i64 ((DD .i64 1 ((v4.length : Int))))))))), (39, .e (.one (.pure (.val (.int .i64 v11.2)))))] [(3, .box [.pure (.sl (p1.fBase.map Ak)), .pure (.sl (p1.fNext.map Ak)), .pure (.sl (p1.fHeld.map Bv))]), (12, .box [.own 2017, .own 2018, .own 2019]), (2017, .vec 1 (v14.map Ak)), (2018, .vec 1 (v18.map Ak)), (2019, .vec 1 (v16.map Bv)), (2020, .vec 1 (v4.map Ak)), (2021, .vec 3 (v11.1.map Ai))]) (fun _ _ => rfl) (sm [(2012, 2009), (2013, 2010), (2014, 2011), (2015, 2006), (2016, 2007)] _ _ rfl rfl) (fun j17 n17 v17 h => ?_) (fun v18 s h hs => ?_)
     ·unfold Gd at h
      refine Ab (Aa Ad rfl (AR rfl (Ae (Ab ?_))))
      refine Ap rfl (fun c19 => ?_) (fun c19 => ?_)
      ·have h := An c19 h
       refine Aq ?_
       refine AK h (fun v20 => mk [(3, .e (.one (.ptr 3 0))), (7, .e (.one (.own 2025))), (10, .e (.one (.own 2026))), (11, .e (.one (.pure (.val (.int .i64 v11.2))))), (12, .e (.one (.ptr 12 0))), (38, .e (.one (.pure (.val (.int .i64 ((DD .i64 1 ((v4.length : Int))))))))), (39, .e (.one (.pure (.val (.int .i64 v11.2))))), (52, .e (.one (.own 2025))), (53, .e (.one (.pure (.val (.int .i64 ((v4.length : Int))))))), (54, .e (.one (.pure (.val (.int .i64 v17.2)))))] [(3, .box [.pure (.sl (p1.fBase.map Ak)), .pure (.sl (p1.fNext.map Ak)), .pure (.sl (p1.fHeld.map Bv))]), (12, .box [.own 2022, .own 2023, .own 2024]), (2022, .vec 1 (v14.map Ak)), (2023, .vec 1 (v20.map Ak)), (2024, .vec 1 (v16.map Bv)), (2025, .vec 1 (v4.map Ak)), (2026, .vec 3 (v11.1.map Ai))]) (fun j20 h => ?_) (fun v20 h => ?_)
       ·refine AD (Ab (Aa Ad rfl (qm rfl ?_)))
        obtain ⟨v21, a21, b21, h⟩ := Aj h
        refine qI AJ Es a21 (Ag b21) rfl (qj Dn (Ag b21) rfl (qa rfl (qa rfl (Ae (Ab (Aa Ad rfl (qm rfl (qm rfl ?_))))))))
        obtain ⟨c22, h⟩ := AW h
        refine HP rfl c22 (KD rfl (Cp rfl (Ae ?_)))
        refine Ap rfl (fun c23 => ?_) (fun c23 => ?_)
        ·have h := An c23 h
         refine Aa Ad rfl (qf CU rfl (ql Bw rfl (qm rfl ?_)))
         obtain ⟨v24, a24, b24, h⟩ := Aj h
         refine qI AJ Es a24 (Ag b24) rfl ?_
         refine AT rfl rfl rfl rfl (Ag b24) rfl Es rfl (AZ rfl) (AU Ak v17.1 _ ((-1))) ?_
         refine Ae ?_
         exact Av _ h (sm [(2022, 2012), (2023, 2013), (2024, 2014), (2025, 2015), (2026, 2016)] _ _ rfl rfl)
        ·have h := Ao c23 h
         refine Aq ?_
         exact Av _ h (sm [(2022, 2012), (2023, 2013), (2024, 2014), (2025, 2015), (2026, 2016)] _ _ rfl rfl)
       ·refine Aa Ad rfl (AI rfl (qm rfl (Ae ?_)))
        exact Av _ h (sm [(2012, 2022), (2013, 2023), (2014, 2024), (2015, 2025), (2016, 2026)] _ _ rfl rfl)
      ·have h := Ao c19 h
       refine AL ?_
       exact Av _ h (sm [(2017, 2012), (2018, 2013), (2019, 2014), (2020, 2015), (2021, 2016)] _ _ rfl rfl)
     ·refine Am hs (Aa Ad rfl (qm rfl (qL A6 Ay rfl (En (Bl 2017 _ _ rfl rfl) (En (Bl 2018 _ _ rfl rfl) (En (Bl 2019 _ _ rfl rfl) (EX AS Ay DN rfl ?_)))))))
      obtain ⟨c25, h⟩ := AW h
      refine Ep (f := Ai) AS AS Ay P6 DN c25 rfl (qa rfl (Ae (Aa Ad rfl (AI rfl (qm rfl (Ae ?_))))))
      exact Av _ h (sm [(2006, 2020), (2007, 72)] _ _ rfl rfl)
    ·have h := Ao c13 h
     refine AL ?_
     exact Av _ h (sm [(2008, 2007)] _ _ rfl rfl)
   ·refine Am hs (Ab (Aa Ad rfl (qm rfl (qa rfl (qa rfl (Ae ?_))))))
    obtain rfl := sj h
    refine Am (sm [(1000, 2008)] [(4, .e (.one (.own 1000))), (5, .e (.one (.pure (.val (.int .i64 0)))))] [(1000, .vec 3 (v12.map Ai))] rfl rfl) (Ax ?_)
    exact ⟨⟨[_, _], ⟨.tmp _ _ rfl, ⟨.tmp _ _ rfl, trivial⟩⟩, rfl⟩, ⟨rfl, trivial⟩⟩
set_option maxRecDepth 10000 in
theorem Mj (N : Nat) (p0 : Al) (p1 : Ah) (r : (List Af)) (h : HY N p0 p1 = some r) : AA Tryz.prog 100 [.e (.agg [.pure (.sl (p0.fVersions.map Ak)), .pure (.sl (p0.fNow.map Ak)), .pure (.sl (p0.fTarget.map Ak)), .pure (.sl (p0.fTables.map Au))]), .e (.agg [.pure (.sl (p1.fBase.map Ak)), .pure (.sl (p1.fNext.map Ak)), .pure (.sl (p1.fHeld.map Bv))])] [(3, r.map Ac)] (.e (.one (.own 0))) := by
 unfold HY at h
 refine Ar (n := 98) (rs := [.tmp 4]) Tryz.func100 rfl rfl rfl (AZ rfl) (AZ rfl) rfl fun w0 S0 => ?_
 refine Ab (Aa Ad rfl (qb rfl (qb rfl (qa rfl (Ae (Ab (Aa Ad rfl (qa rfl (Ae (Ab (Ab (Aa Ad rfl (qf EC rfl (ql JG rfl (AP FC rfl (qm rfl (Ae ?_)))))))))))))))))
 refine AB (L := FF N p0 p1) h (fun v1 => mk [(3, .e (.one (.ptr 3 0))), (5, .e (.one (.own 2001))), (15, .e (.one (.pure (.sl (p0.fTables.map Au))))), (16, .e (.one (.pure (.val (.int .i64 ((p0.fTables.length : Int))))))), (17, .e (.one (.pure (.val (.int .i64 v1.2)))))] [(3, .box [.pure (.sl (p1.fBase.map Ak)), .pure (.sl (p1.fNext.map Ak)), .pure (.sl (p1.fHeld.map Bv))]), (2001, .vec 3 (v1.1.map Ac))]) (fun v2 => mk [(5, .e (.one (.own 2002)))] [(2002, .vec 3 (v2.map Ac))]) (fun _ _ => rfl) ((BR 5 2013 3 rfl rfl rfl).trans (sm [(2001, 2013)] _ _ rfl rfl)) (fun j1 n1 v1 h => ?_) (fun v2 s h hs => ?_)
 ·unfold FF at h
  refine Ab (Aa Ad rfl (AR rfl (Ae (Ab ?_))))
  refine Ap rfl (fun c3 => ?_) (fun c3 => ?_)
  ·have h := An c3 h
   refine Aq (Ab (AD (Ab (Aa Ad rfl (qm rfl ?_)))))
   obtain ⟨v4, a4, b4, h⟩ := Aj h
   refine qi FC Fj a4 (Ag b4) rfl (qK IS Fj rfl (qz K9 rfl (qa rfl (qs Fj rfl (Ae (Ab (Aa Ad rfl (qL A6 Ay rfl (qf Et rfl (ql Dn rfl ?_))))))))))
   obtain ⟨v5, a5, h⟩ := bind_some h
   refine AG [] (Jg N p1 v4.fFrom v5 a5) RQ rfl (qL A6 Ay rfl (qf JR rfl (ql Dn rfl ?_)))
   obtain ⟨v6, a6, h⟩ := bind_some h
   refine AG [] (Jg N p1 v4.fTo v6 a6) RQ rfl (qa rfl (qa rfl (Az (by kernel_rfl) ?_)))
   refine AK h (fun v7 => mk [(3, .e (.one (.ptr 3 0))), (5, .e (.one (.own 2003))), (6, .e (.one (.pure (.val (.int .i64 v1.2))))), (7, .e (.one (.ptr 7 0))), (8, .e (.one (.pure (.val (.int .u8 v7))))), (9, .e (.one (.pure (.val (.int .u8 v6))))), (15, .e (.one (.pure (.sl (p0.fTables.map Au))))), (16, .e (.one (.pure (.val (.int .i64 ((p0.fTables.length : Int))))))), (17, .e (.one (.pure (.val (.int .i64 v1.2)))))] [(3, .box [.pure (.sl (p1.fBase.map Ak)), .pure (.sl (p1.fNext.map Ak)), .pure (.sl (p1.fHeld.map Bv))]), (7, .box [.pure (.val (.int .i64 v4.fKind)), .pure (.val (.int .i64 v4.fFrom)), .pure (.val (.int .i64 v4.fTo)), .pure (.val (.bool v4.fAware)), .pure (.sl (v4.fOK.map (Gl eB))), .pure (.sl (v4.fRewrite.map (Gl eB)))]), (2003, .vec 3 (v1.1.map Ac))]) (fun j7 h => ?_) (fun v7 h => ?_)
   ·refine Ab (Aa Ad rfl (qL IS Fj rfl ?_))
    obtain ⟨v8, a8, h⟩ := bind_some h
    refine AG [] (JJ N v4 v8 a8) Ug rfl (Ae ?_)
    refine Ap rfl (fun c9 => ?_) (fun c9 => ?_)
    ·have h := An c9 h
     refine Aa Ad rfl (qf DX rfl (ql It rfl (qm rfl ?_)))
     obtain ⟨v10, a10, b10, h⟩ := Aj h
     refine qi EB HM a10 (Ag b10) rfl (qk KO rfl (qa rfl (Ae ?_)))
     exact Av _ h (sm [(2003, 2001)] _ _ rfl rfl)
    ·have h := Ao c9 h
     refine Aq ?_
     exact Av _ h (sm [(2003, 2001)] _ _ rfl rfl)
   ·refine Ab (Aa Ad rfl (qf Lu rfl (ql Le rfl (AP Hp rfl (qm rfl (Ae ?_))))))
    refine AB (L := Fs N v1 v4 v6 v7) h (fun v11 => mk [(3, .e (.one (.ptr 3 0))), (5, .e (.one (.own 2004))), (6, .e (.one (.pure (.val (.int .i64 v1.2))))), (7, .e (.one (.ptr 7 0))), (8, .e (.one (.pure (.val (.int .u8 v7))))), (9, .e (.one (.pure (.val (.int .u8 v6))))), (15, .e (.one (.pure (.sl (p0.fTables.map Au))))), (16, .e (.one (.pure (.val (.int .i64 ((p0.fTables.length : Int))))))), (17, .e (.one (.pure (.val (.int .i64 v1.2))))), (39, .e (.one (.pure (.val (.int .i64 ((v4.fOK.length : Int))))))), (40, .e (.one (.pure (.val (.int .i64 v11.2)))))] [(3, .box [.pure (.sl (p1.fBase.map Ak)), .pure (.sl (p1.fNext.map Ak)), .pure (.sl (p1.fHeld.map Bv))]), (7, .box [.pure (.val (.int .i64 v4.fKind)), .pure (.val (.int .i64 v4.fFrom)), .pure (.val (.int .i64 v4.fTo)), .pure (.val (.bool v4.fAware)), .pure (.sl (v4.fOK.map (Gl eB))), .pure (.sl (v4.fRewrite.map (Gl eB)))]), (2004, .vec 3 (v11.1.map Ac))]) (fun v12 => mk [(3, .e (.one (.ptr 3 0))), (5, .e (.one (.own 2005))), (15, .e (.one (.pure (.sl (p0.fTables.map Au))))), (16, .e (.one (.pure (.val (.int .i64 ((p0.fTables.length : Int))))))), (17, .e (.one (.pure (.val (.int .i64 v1.2)))))] [(3, .box [.pure (.sl (p1.fBase.map Ak)), .pure (.sl (p1.fNext.map Ak)), .pure (.sl (p1.fHeld.map Bv))]), (2005, .vec 3 (v12.map Ac))]) (fun _ _ => rfl) (sm [(2004, 2003)] _ _ rfl rfl) (fun j11 n11 v11 h => ?_) (fun v12 s h hs => ?_)
    ·unfold Fs at h
     refine Ab (Aa Ad rfl (AR rfl (Ae (Ab ?_))))
     refine Ap rfl (fun c13 => ?_) (fun c13 => ?_)
     ·have h := An c13 h
      refine Aq ?_
      refine AK h (fun v14 => mk [(3, .e (.one (.ptr 3 0))), (5, .e (.one (.own 2006))), (6, .e (.one (.pure (.val (.int .i64 v1.2))))), (7, .e (.one (.ptr 7 0))), (8, .e (.one (.pure (.val (.int .u8 v7))))), (9, .e (.one (.pure (.val (.int .u8 v6))))), (15, .e (.one (.pure (.sl (p0.fTables.map Au))))), (16, .e (.one (.pure (.val (.int .i64 ((p0.fTables.length : Int))))))), (17, .e (.one (.pure (.val (.int .i64 v1.2))))), (39, .e (.one (.pure (.val (.int .i64 ((v4.fOK.length : Int))))))), (40, .e (.one (.pure (.val (.int .i64 v11.2)))))] [(3, .box [.pure (.sl (p1.fBase.map Ak)), .pure (.sl (p1.fNext.map Ak)), .pure (.sl (p1.fHeld.map Bv))]), (7, .box [.pure (.val (.int .i64 v4.fKind)), .pure (.val (.int .i64 v4.fFrom)), .pure (.val (.int .i64 v4.fTo)), .pure (.val (.bool v4.fAware)), .pure (.sl (v4.fOK.map (Gl eB))), .pure (.sl (v4.fRewrite.map (Gl eB)))]), (2006, .vec 3 (v14.map Ac))]) (fun j14 h => ?_) (fun v14 h => ?_)
      ·refine AD (Ab (Aa Ad rfl (qm rfl (qa rfl (Ae (Ab (Ab (Aa Ad rfl (qm rfl (qm rfl ?_))))))))))
       obtain ⟨c15, h⟩ := AW h
       refine HP rfl c15 (KD rfl (Cp rfl (Ae ?_)))
       refine Ap rfl (fun c16 => ?_) (fun c16 => ?_)
       ·have h := An c16 h
        refine AL ?_
        exact Av _ h (sm [(2006, 2004)] _ _ rfl rfl)
       ·have h := Ao c16 h
        refine Aq (Ab (Aa Ad rfl (qa rfl (Ae (Ab (Ab (Aa Ad rfl (qf Lu rfl (ql Le rfl (qm rfl ?_))))))))))
        obtain ⟨v17, a17, b17, h⟩ := Aj h
        refine qi Hp Oe a17 (Ag b17) rfl (qk Qr rfl (AP HQ rfl (qm rfl (Ae ?_))))
        refine AB (L := Ff N v1 v4 v6 v11 v17) h (fun v18 => mk [(3, .e (.one (.ptr 3 0))), (5, .e (.one (.own 2007))), (6, .e (.one (.pure (.val (.int .i64 v1.2))))), (7, .e (.one (.ptr 7 0))), (8, .e (.one (.pure (.val (.int .u8 v7))))), (9, .e (.one (.pure (.val (.int .u8 v6))))), (10, .e (.one (.pure (.val (.int .i64 v11.2))))), (11, .e (.one (.pure (.val (.bool v18.2.1))))), (15, .e (.one (.pure (.sl (p0.fTables.map Au))))), (16, .e (.one (.pure (.val (.int .i64 ((p0.fTables.length : Int))))))), (17, .e (.one (.pure (.val (.int .i64 v1.2))))), (39, .e (.one (.pure (.val (.int .i64 ((v4.fOK.length : Int))))))), (40, .e (.one (.pure (.val (.int .i64 v11.2))))), (52, .e (.one (.pure (.sl (v17.map eB))))), (53, .e (.one (.pure (.val (.int .i64 ((v17.length : Int))))))), (54, .e (.one (.pure (.val (.int .i64 v18.2.2)))))] [(3, .box [.pure (.sl (p1.fBase.map Ak)), .pure (.sl (p1.fNext.map Ak)), .pure (.sl (p1.fHeld.map Bv))]), (7, .box [.pure (.val (.int .i64 v4.fKind)), .pure (.val (.int .i64 v4.fFrom)), .pure (.val (.int .i64 v4.fTo)), .pure (.val (.bool v4.fAware)), .pure (.sl (v4.fOK.map (Gl eB))), .pure (.sl (v4.fRewrite.map (Gl eB)))]), (2007, .vec 3 (v18.1.map Ac))]) (fun v19 => mk [(3, .e (.one (.ptr 3 0))), (5, .e (.one (.own 2008))), (6, .e (.one (.pure (.val (.int .i64 v1.2))))), (7, .e (.one (.ptr 7 0))), (8, .e (.one (.pure (.val (.int .u8 v7))))), (9, .e (.one (.pure (.val (.int .u8 v6))))), (10, .e (.one (.pure (.val (.int .i64 v11.2))))), (11, .e (.one (.pure (.val (.bool v19.2))))), (15, .e (.one (.pure (.sl (p0.fTables.map Au))))), (16, .e (.one (.pure (.val (.int .i64 ((p0.fTables.length : Int))))))), (17, .e (.one (.pure (.val (.int .i64 v1.2))))), (39, .e (.one (.pure (.val (.int .i64 ((v4.fOK.length : Int))))))), (40, .e (.one (.pure (.val (.int .i64 v11.2)))))] [(3, .box [.pure (.sl (p1.fBase.map Ak)), .pure (.sl (p1.fNext.map Ak)), .pure (.sl (p1.fHeld.map Bv))]), (7, .box [.pure (.val (.int .i64 v4.fKind)), .pure (.val (.int .i64 v4.fFrom)), .pure (.val (.int .i64 v4.fTo)), .pure (.val (.bool v4.fAware)), .pure (.sl (v4.fOK.map (Gl eB))), .pure (.sl (v4.fRewrite.map (Gl eB)))]), (2008, .vec 3 (v19.1.map Ac))]) (fun _ _ => rfl) (sm [(2007, 2004)] _ _ rfl rfl) (fun j18 n18 v18 h => ?_) (fun v19 s h hs => ?_)
        ·unfold Ff at h
         refine Ab (Aa Ad rfl (AR rfl (Ae (Ab ?_))))
         refine Ap rfl (fun c20 => ?_) (fun c20 => ?_)
         ·have h := An c20 h
          refine Aq ?_
          refine AK h (fun v21 => mk [(3, .e (.one (.ptr 3 0))), (5, .e (.one (.own 2009))), (6, .e (.one (.pure (.val (.int .i64 v1.2))))), (7, .e (.one (.ptr 7 0))), (8, .e (.one (.pure (.val (.int .u8 v7))))), (9, .e (.one (.pure (.val (.int .u8 v6))))), (10, .e (.one (.pure (.val (.int .i64 v11.2))))), (11, .e (.one (.pure (.val (.bool v21.2))))), (15, .e (.one (.pure (.sl (p0.fTables.map Au))))), (16, .e (.one (.pure (.val (.int .i64 ((p0.fTables.length : Int))))))), (17, .e (.one (.pure (.val (.int .i64 v1.2))))), (39, .e (.one (.pure (.val (.int .i64 ((v4.fOK.length : Int))))))), (40, .e (.one (.pure (.val (.int .i64 v11.2))))), (52, .e (.one (.pure (.sl (v17.map eB))))), (53, .e (.one (.pure (.val (.int .i64 ((v17.length : Int))))))), (54, .e (.one (.pure (.val (.int .i64 v18.2.2)))))] [(3, .box [.pure (.sl (p1.fBase.map Ak)), .pure (.sl (p1.fNext.map Ak)), .pure (.sl (p1.fHeld.map Bv))]), (7, .box [.pure (.val (.int .i64 v4.fKind)), .pure (.val (.int .i64 v4.fFrom)), .pure (.val (.int .i64 v4.fTo)), .pure (.val (.bool v4.fAware)), .pure (.sl (v4.fOK.map (Gl eB))), .pure (.sl (v4.fRewrite.map (Gl eB)))]), (2009, .vec 3 (v21.1.map Ac))]) (fun j21 h => ?_) (fun v21 h => ?_)
          ·refine AD (Ab (Aa Ad rfl (qm rfl ?_)))
           obtain ⟨v22, a22, b22, h⟩ := Aj h
           refine qi HQ PX a22 (Ag b22) rfl (qk S9 rfl (qa rfl (qa rfl (Ae (Ab (Ab (Aa Ad rfl (qm rfl (qm rfl ?_)))))))))
           obtain ⟨c23, h⟩ := AW h
           refine HP rfl c23 (KD rfl (Cp rfl (Ae ?_)))
           refine Ap rfl (fun c24 => ?_) (fun c24 => ?_)
           ·have h := An c24 h
            refine AL ?_
            exact Av _ h (sm [(2009, 2007)] _ _ rfl rfl)
           ·have h := Ao c24 h
            refine Aq ?_
            refine AK h (fun v25 => mk [(3, .e (.one (.ptr 3 0))), (5, .e (.one (.own 2010))), (6, .e (.one (.pure (.val (.int .i64 v1.2))))), (7, .e (.one (.ptr 7 0))), (8, .e (.one (.pure (.val (.int .u8 v7))))), (9, .e (.one (.pure (.val (.int .u8 v6))))), (10, .e (.one (.pure (.val (.int .i64 v11.2))))), (11, .e (.one (.pure (.val (.bool v25))))), (12, .e (.one (.pure (.val (.int .i64 v18.2.2))))), (13, .e (.one (.pure (.val (.bool v22))))), (15, .e (.one (.pure (.sl (p0.fTables.map Au))))), (16, .e (.one (.pure (.val (.int .i64 ((p0.fTables.length : Int))))))), (17, .e (.one (.pure (.val (.int .i64 v1.2))))), (39, .e (.one (.pure (.val (.int .i64 ((v4.fOK.length : Int))))))), (40, .e (.one (.pure (.val (.int .i64 v11.2))))), (52, .e (.one (.pure (.sl (v17.map eB))))), (53, .e (.one (.pure (.val (.int .i64 ((v17.length : Int))))))), (54, .e (.one (.pure (.val (.int .i64 v18.2.2)))))] [(3, .box [.pure (.sl (p1.fBase.map Ak)), .pure (.sl (p1.fNext.map Ak)), .pure (.sl (p1.fHeld.map Bv))]), (7, .box [.pure (.val (.int .i64 v4.fKind)), .pure (.val (.int .i64 v4.fFrom)), .pure (.val (.int .i64 v4.fTo)), .pure (.val (.bool v4.fAware)), .pure (.sl (v4.fOK.map (Gl eB))), .pure (.sl (v4.fRewrite.map (Gl eB)))]), (2010, .vec 3 (v18.1.map Ac))]) (fun j25 h => ?_) (fun v25 h => ?_)
            ·refine Aa Ad rfl (qm rfl (qm rfl ?_))
             refine AC (t := 65) rfl (fun c26 => ?_) (fun c26 => ?_)
             ·have h := An c26 h
              refine qn rfl (qp rfl (qa rfl (Ae ?_)))
              exact Av _ h (sm [(2010, 2007)] _ _ rfl rfl)
             ·have h := Ao c26 h
              refine qm rfl (qp rfl (qa rfl (Ae ?_)))
              exact Av _ h (sm [(2010, 2007)] _ _ rfl rfl)
            ·refine AK h (fun v27 => mk [(3, .e (.one (.ptr 3 0))), (5, .e (.one (.own 2011))), (6, .e (.one (.pure (.val (.int .i64 v1.2))))), (7, .e (.one (.ptr 7 0))), (8, .e (.one (.pure (.val (.int .u8 v7))))), (9, .e (.one (.pure (.val (.int .u8 v6))))), (10, .e (.one (.pure (.val (.int .i64 v11.2))))), (11, .e (.one (.pure (.val (.bool v25))))), (12, .e (.one (.pure (.val (.int .i64 v18.2.2))))), (15, .e (.one (.pure (.sl (p0.fTables.map Au))))), (16, .e (.one (.pure (.val (.int .i64 ((p0.fTables.length : Int))))))), (17, .e (.one (.pure (.val (.int .i64 v1.2))))), (39, .e (.one (.pure (.val (.int .i64 ((v4.fOK.length : Int))))))), (40, .e (.one (.pure (.val (.int .i64 v11.2))))), (52, .e (.one (.pure (.sl (v17.map eB))))), (53, .e (.one (.pure (.val (.int .i64 ((v17.length : Int))))))), (54, .e (.one (.pure (.val (.int .i64 v18.2.2))))), (74, .e (.one (.pure (.val (.bool v27)))))] [(3, .box [.pure (.sl (p1.fBase.map Ak)), .pure (.sl (p1.fNext.map Ak)), .pure (.sl (p1.fHeld.map Bv))]), (7, .box [.pure (.val (.int .i64 v4.fKind)), .pure (.val (.int .i64 v4.fFrom)), .pure (.val (.int .i64 v4.fTo)), .pure (.val (.bool v4.fAware)), .pure (.sl (v4.fOK.map (Gl eB))), .pure (.sl (v4.fRewrite.map (Gl eB)))]), (2011, .vec 3 (v18.1.map Ac))]) (fun j27 h => ?_) (fun v27 h => ?_)
             ·refine Aa Ad rfl (qm rfl (CC rfl (qm rfl ?_)))
              refine AC (t := 70) rfl (fun c28 => ?_) (fun c28 => ?_)
              ·have h := An c28 h
               refine qf Ku rfl (ql S9 rfl (CC rfl (qp rfl (Ae ?_))))
               exact Av _ h (sm [(2011, 2010)] _ _ rfl rfl)
              ·have h := Ao c28 h
               refine qn rfl (qn rfl (qn rfl (qp rfl (Ae ?_))))
               exact Av _ h (sm [(2011, 2010)] _ _ rfl rfl)
             ·refine Ap rfl (fun c29 => ?_) (fun c29 => ?_)
              ·have h := An c29 h
               refine Aa Ad rfl (qm rfl (qm rfl (qm rfl (qm rfl (CO Ko QQ rfl (EX A2 AN Ko rfl ?_))))))
               obtain ⟨c30, h⟩ := AW h
               refine Ep (f := Ac) A2 A2 AN RK Ko c30 rfl (qa rfl (Ae ?_))
               exact Av _ h (sm [(2009, 81)] _ _ rfl rfl)
              ·have h := Ao c29 h
               refine Aq ?_
               exact Av _ h (sm [(2009, 2011)] _ _ rfl rfl)
          ·refine Aa Ad rfl (AI rfl (qm rfl (Ae ?_)))
           exact Av _ h (sm [(2007, 2009)] _ _ rfl rfl)
         ·have h := Ao c20 h
          refine AL ?_
          exact Av _ h (sm [(2008, 2007)] _ _ rfl rfl)
        ·refine Am hs ?_
         refine AK h (fun v31 => mk [(3, .e (.one (.ptr 3 0))), (5, .e (.one (.own 2012))), (6, .e (.one (.pure (.val (.int .i64 v1.2))))), (7, .e (.one (.ptr 7 0))), (8, .e (.one (.pure (.val (.int .u8 v7))))), (9, .e (.one (.pure (.val (.int .u8 v6))))), (10, .e (.one (.pure (.val (.int .i64 v11.2))))), (15, .e (.one (.pure (.sl (p0.fTables.map Au))))), (16, .e (.one (.pure (.val (.int .i64 ((p0.fTables.length : Int))))))), (17, .e (.one (.pure (.val (.int .i64 v1.2))))), (39, .e (.one (.pure (.val (.int .i64 ((v4.fOK.length : Int))))))), (40, .e (.one (.pure (.val (.int .i64 v11.2))))), (88, .e (.one (.pure (.val (.bool v31)))))] [(3, .box [.pure (.sl (p1.fBase.map Ak)), .pure (.sl (p1.fNext.map Ak)), .pure (.sl (p1.fHeld.map Bv))]), (7, .box [.pure (.val (.int .i64 v4.fKind)), .pure (.val (.int .i64 v4.fFrom)), .pure (.val (.int .i64 v4.fTo)), .pure (.val (.bool v4.fAware)), .pure (.sl (v4.fOK.map (Gl eB))), .pure (.sl (v4.fRewrite.map (Gl eB)))]), (2012, .vec 3 (v19.1.map Ac))]) (fun j31 h => ?_) (fun v31 h => ?_)
         ·refine Aa Ad rfl (qf Ku rfl (ql S9 rfl (qm rfl ?_)))
          refine AC (t := 85) rfl (fun c32 => ?_) (fun c32 => ?_)
          ·have h := An c32 h
           refine qm rfl (CC rfl (qp rfl (Ae ?_)))
           exact Av _ h (sm [(2012, 2008)] _ _ rfl rfl)
          ·have h := Ao c32 h
           refine qn rfl (qn rfl (qp rfl (Ae ?_)))
           exact Av _ h (sm [(2012, 2008)] _ _ rfl rfl)
         ·refine Ap rfl (fun c33 => ?_) (fun c33 => ?_)
          ·have h := An c33 h
           refine Aa Ad rfl (qm rfl (qm rfl (qm rfl (CO Ko QQ rfl (EX A2 AN Ko rfl ?_)))))
           obtain ⟨c34, h⟩ := AW h
           refine Ep (f := Ac) A2 A2 AN RK Ko c34 rfl (qa rfl (Ae ?_))
           exact Av _ h (sm [(2006, 94)] _ _ rfl rfl)
          ·have h := Ao c33 h
           refine Aq ?_
           exact Av _ h (sm [(2006, 2012)] _ _ rfl rfl)
      ·refine Aa Ad rfl (AI rfl (qm rfl (Ae ?_)))
       exact Av _ h (sm [(2004, 2006)] _ _ rfl rfl)
     ·have h := Ao c13 h
      refine AL ?_
      exact Av _ h (sm [(2005, 2004)] _ _ rfl rfl)
    ·refine Am hs (Aa Ad rfl (AI rfl (qm rfl (Ae ?_))))
     exact Av _ h (sm [(2001, 2005)] _ _ rfl rfl)
  ·have h := Ao c3 h
   refine AL ?_
   exact Av _ h (sm [(2002, 2001)] _ _ rfl rfl)
 ·refine Am hs (Ab (Aa Ad rfl (qm rfl (qa rfl (Ae ?_)))))
  obtain rfl := sj h
  refine Am (sm [(1000, 2002)] [(4, .e (.one (.own 1000)))] [(1000, .vec 3 (v2.map Ac))] rfl rfl) (Ax ?_)
  exact ⟨⟨[_], ⟨.tmp _ _ rfl, trivial⟩, rfl⟩, ⟨rfl, trivial⟩⟩
set_option maxRecDepth 10000 in
theorem L1 (N : Nat) (p0 : Al) (p1 : Ah) (r : Ah × Af × Int) (h : Iw N p0 p1 = some r) : AA Tryz.prog 55 [.e (.agg [.pure (.sl (p0.fVersions.map Ak)), .pure (.sl (p0.fNow.map Ak)), .pure (.sl (p0.fTarget.map Ak)), .pure (.sl (p0.fTables.map Au))]), .e (.agg [.pure (.sl (p1.fBase.map Ak)), .pure (.sl (p1.fNext.map Ak)), .pure (.sl (p1.fHeld.map Bv))])] [] (.tup [.agg [.pure (.sl (r.1.fBase.map Ak)), .pure (.sl (r.1.fNext.map Ak)), .pure (.sl (r.1.fHeld.map Bv))], .agg [.pure (.val (.int .i64 r.2.1.fTable)), .pure (.val (.int .i64 r.2.1.fWriter)), .pure (.val (.int .i64 r.2.1.fReader))], .one (.pure (.val (.int .i64 r.2.2)))]) := by
 unfold Iw at h
 refine Ar (n := 42) (rs := [.cell 4 46, .cell 5 66, .tmp 6]) Tryz.func55 rfl rfl rfl (AZ rfl) (AZ rfl) rfl fun w0 S0 => ?_
 refine Ab (Aa Ad rfl (qb rfl (qb rfl (qz DN rfl (qz Ko rfl (qa rfl (Ae (Ab (Aa Ad rfl (qL EE Ek rfl (qL A6 Ay rfl ?_)))))))))))
 obtain ⟨v1, a1, h⟩ := bind_some h
 refine AG [2001] (N9 N p0 p1 v1 a1) WL rfl (qm rfl (qx rfl (qx rfl (qa rfl (qa rfl (Ae (Ab (Ab (Aa Ad rfl (qm rfl (Cy rfl (Ae ?_))))))))))))
 refine Ap rfl (fun c2 => ?_) (fun c2 => ?_)
 ·have h := An c2 h
  refine Ab (Aa Ad rfl (CO DN Jv rfl (CO Ko QQ rfl (qm rfl (qs Ay rfl (qs AN rfl (qa rfl (Ae ?_))))))))
  obtain rfl := sj h
  refine Am ((Jp 4 _ rfl).trans (sm [] [(4, .e (.one (.ptr 4 0))), (5, .e (.one (.ptr 5 0))), (6, .e (.one (.pure (.val (.int .i64 v1.2)))))] [(4, .box [.pure (.sl ((([] : List Int)).map Ak)), .pure (.sl ((([] : List Int)).map Ak)), .pure (.sl ((([] : List Int)).map Bv))]), (5, .box [.pure (.val (.int .i64 0)), .pure (.val (.int .i64 0)), .pure (.val (.int .i64 0))])] rfl rfl)) (Ax ?_)
  exact ⟨⟨[_, _, _], ⟨.cellN _ _ _ _ _ _ _ rfl rfl A6 Ay rfl rfl (Kw rfl), ⟨.cellN _ _ _ _ _ _ _ rfl rfl Dp AN rfl rfl (Kw rfl), ⟨.tmp _ _ rfl, trivial⟩⟩⟩, rfl⟩, trivial⟩
 ·have h := Ao c2 h
  refine Aq (Ab (Ab (Aa Ad rfl (qm rfl (Fz AS rfl (qm rfl (Ae ?_)))))))
  refine AB (L := GW N p0 v1) h (fun v3 => mk [(2, .e (.one (.ptr 2 0))), (4, .e (.one (.ptr 4 0))), (5, .e (.one (.ptr 5 0))), (23, .e (.one (.own 2002))), (24, .e (.one (.pure (.val (.int .i64 ((v1.1.length : Int))))))), (25, .e (.one (.pure (.val (.int .i64 v3)))))] [(2, .box [.pure (.sl (p0.fVersions.map Ak)), .pure (.sl (p0.fNow.map Ak)), .pure (.sl (p0.fTarget.map Ak)), .pure (.sl (p0.fTables.map Au))]), (4, .box [.pure (.nil0), .pure (.nil0), .pure (.nil0)]), (5, .box [.pure (.val (.int .i64 0)), .pure (.val (.int .i64 0)), .pure (.val (.int .i64 0))]), (2002, .vec 3 (v1.1.map Ai))]) (fun v4 => mk [(4, .e (.one (.ptr 4 0))), (5, .e (.one (.ptr 5 0)))] [(4, .box [.pure (.nil0), .pure (.nil0), .pure (.nil0)]), (5, .box [.pure (.val (.int .i64 0)), .pure (.val (.int .i64 0)), .pure (.val (.int .i64 0))])]) (fun _ _ => rfl) (sm [(2002, 2001)] _ _ rfl rfl) (fun j3 n3 v3 h => ?_) (fun v4 s h hs => ?_)
  ·unfold GW at h
   refine Ab (Aa Ad rfl (AR rfl (Ae (Ab ?_))))
   refine Ap rfl (fun c5 => ?_) (fun c5 => ?_)
   ·have h := An c5 h
    refine Aq (Ab (AD (Ab (Aa Ad rfl ?_))))
    obtain ⟨v6, a6, b6, h⟩ := Aj h
    refine qI AS Ay a6 (Ag b6) rfl (qJ A6 Ay (Ag b6) rfl (qz DN rfl (qs Ay rfl (Ae (Ab (Aa Ad rfl (qL EE Ek rfl (qL A6 Ay rfl ?_))))))))
    obtain ⟨v7, a7, h⟩ := bind_some h
    refine AG [2003] (Mj N p0 v6 v7 a7) Vj rfl (qa rfl (Ae (Ab (Aa Ad rfl (qm rfl (Fz A2 rfl (EA rfl (Ae ?_))))))))
    refine Ap rfl (fun c8 => ?_) (fun c8 => ?_)
    ·have h := An c8 h
     refine Ab (Aa Ad rfl (qL A6 Ay rfl (qm rfl ?_)))
     obtain ⟨v9, a9, b9, h⟩ := Aj h
     refine qI A2 AN a9 (Ag b9) rfl (qJ Dp AN (Ag b9) rfl (qs Ay rfl (qs AN rfl (qa rfl (Az (by kernel_rfl) ?_)))))
     obtain rfl := sj h
     refine Am (sm [] [(4, .e (.one (.ptr 4 0))), (5, .e (.one (.ptr 5 0))), (6, .e (.one (.pure (.val (.int .i64 0)))))] [(4, .box [.pure (.sl (v6.fBase.map Ak)), .pure (.sl (v6.fNext.map Ak)), .pure (.sl (v6.fHeld.map Bv))]), (5, .box [.pure (.val (.int .i64 v9.fTable)), .pure (.val (.int .i64 v9.fWriter)), .pure (.val (.int .i64 v9.fReader))])] rfl rfl) (Ax ?_)
     exact ⟨⟨[_, _, _], ⟨.cellN _ _ _ _ _ _ _ rfl rfl A6 Ay rfl rfl (Kw rfl), ⟨.cellN _ _ _ _ _ _ _ rfl rfl Dp AN rfl rfl (Kw rfl), ⟨.tmp _ _ rfl, trivial⟩⟩⟩, rfl⟩, trivial⟩
    ·have h := Ao c8 h
     refine Aq (Aa Ad rfl (AI rfl (qm rfl (Ae ?_))))
     exact Av _ h (sm [] _ _ rfl rfl)
   ·have h := Ao c5 h
    refine AL ?_
    exact Av _ h (sm [] _ _ rfl rfl)
  ·refine Am hs (Ab (Aa Ad rfl (CO DN Jv rfl (CO Ko QQ rfl (qs Ay rfl (qs AN rfl (qa rfl (Ae ?_))))))))
   obtain rfl := sj h
   refine Am ((Jp 4 _ rfl).trans (sm [] [(4, .e (.one (.ptr 4 0))), (5, .e (.one (.ptr 5 0))), (6, .e (.one (.pure (.val (.int .i64 15)))))] [(4, .box [.pure (.sl ((([] : List Int)).map Ak)), .pure (.sl ((([] : List Int)).map Ak)), .pure (.sl ((([] : List Int)).map Bv))]), (5, .box [.pure (.val (.int .i64 0)), .pure (.val (.int .i64 0)), .pure (.val (.int .i64 0))])] rfl rfl)) (Ax ?_)
   exact ⟨⟨[_, _, _], ⟨.cellN _ _ _ _ _ _ _ rfl rfl A6 Ay rfl rfl (Kw rfl), ⟨.cellN _ _ _ _ _ _ _ rfl rfl Dp AN rfl rfl (Kw rfl), ⟨.tmp _ _ rfl, trivial⟩⟩⟩, rfl⟩, trivial⟩
set_option maxRecDepth 10000 in
theorem HJ (N : Nat) (p0 : Al) (p1 : Ah) (r : Bool × Int) (h : FB N p0 p1 = some r) : AA Tryz.prog 45 [.e (.agg [.pure (.sl (p0.fVersions.map Ak)), .pure (.sl (p0.fNow.map Ak)), .pure (.sl (p0.fTarget.map Ak)), .pure (.sl (p0.fTables.map Au))]), .e (.agg [.pure (.sl (p1.fBase.map Ak)), .pure (.sl (p1.fNext.map Ak)), .pure (.sl (p1.fHeld.map Bv))])] [] (.tup [.one (.pure (.val (.bool r.1))), .one (.pure (.val (.int .i64 r.2)))]) := by
 unfold FB at h
 refine Ar (n := 22) (rs := [.tmp 4, .tmp 5]) Tryz.func45 rfl rfl rfl (AZ rfl) (AZ rfl) rfl fun w0 S0 => ?_
 refine Ab (Aa Ad rfl (qb rfl (qb rfl (qa rfl (qa rfl (Ae (Ab (Aa Ad rfl (qL EE Ek rfl (qL A6 Ay rfl ?_))))))))))
 obtain ⟨v1, a1, h⟩ := bind_some h
 refine AG [] (L1 N p0 p1 v1 a1) US rfl (qm rfl (qx rfl (qx rfl (qx rfl (qz DN rfl (qz Ko rfl (qs Ay rfl (qs AN rfl (qa rfl (Ae (Ab (Aa Ad rfl (qm rfl (Ae (AD (Ab (Aa Ad rfl (Cp rfl (qa rfl (Ae ?_))))))))))))))))))))
 refine Ap rfl (fun c2 => ?_) (fun c2 => ?_)
 ·have h := An c2 h
  refine Ab (Aa Ad rfl (qa rfl (qa rfl (Ae ?_))))
  obtain rfl := sj h
  refine Am (sm [] [(4, .e (.one (.pure (.val (.bool false))))), (5, .e (.one (.pure (.val (.int .i64 0)))))] [] rfl rfl) (Ax ?_)
  exact ⟨⟨[_, _], ⟨.tmp _ _ rfl, ⟨.tmp _ _ rfl, trivial⟩⟩, rfl⟩, trivial⟩
 ·have h := Ao c2 h
  refine Ab (Aa Ad rfl (Cp rfl (qa rfl (Ae ?_))))
  refine Ap rfl (fun c3 => ?_) (fun c3 => ?_)
  ·have h := An c3 h
   refine Ab (Aa Ad rfl (qa rfl (qa rfl (Ae ?_))))
   obtain rfl := sj h
   refine Am (sm [] [(4, .e (.one (.pure (.val (.bool true))))), (5, .e (.one (.pure (.val (.int .i64 0)))))] [] rfl rfl) (Ax ?_)
   exact ⟨⟨[_, _], ⟨.tmp _ _ rfl, ⟨.tmp _ _ rfl, trivial⟩⟩, rfl⟩, trivial⟩
  ·have h := Ao c3 h
   refine Ab (Aa Ad rfl (qm rfl (qa rfl (qa rfl (Ae ?_)))))
   obtain rfl := sj h
   refine Am (sm [] [(4, .e (.one (.pure (.val (.bool false))))), (5, .e (.one (.pure (.val (.int .i64 v1.2.2)))))] [] rfl rfl) (Ax ?_)
   exact ⟨⟨[_, _], ⟨.tmp _ _ rfl, ⟨.tmp _ _ rfl, trivial⟩⟩, rfl⟩, trivial⟩
set_option maxRecDepth 10000 in
theorem Nm (N : Nat) (p0 : Al) (r : Ah × Bool × Int) (h : IN N p0 = some r) : AA Tryz.prog 83 [.e (.agg [.pure (.sl (p0.fVersions.map Ak)), .pure (.sl (p0.fNow.map Ak)), .pure (.sl (p0.fTarget.map Ak)), .pure (.sl (p0.fTables.map Au))])] [(1, r.1.fBase.map Ak), (1, r.1.fNext.map Ak), (1, r.1.fHeld.map Bv)] (.tup [.agg [.own 0, .own 1, .own 2], .one (.pure (.val (.bool r.2.1))), .one (.pure (.val (.int .i64 r.2.2)))]) := by
 unfold IN at h
 refine Ar (n := 26) (rs := [.cell 2 46, .tmp 3, .tmp 4]) Tryz.func83 rfl rfl rfl (AZ rfl) (AZ rfl) rfl fun w0 S0 => ?_
 refine Ab (Aa Ad rfl (qb rfl (qz DN rfl (qa rfl (qa rfl (Ae (Ab (Aa Ad rfl (qL EE Ek rfl ?_)))))))))
 obtain ⟨v1, a1, h⟩ := bind_some h
 refine AG [2001, 2002, 2003] (L5 N p0 v1 a1) UB rfl (qm rfl (qx rfl (qx rfl (qz DN rfl (qs Ay rfl (qa rfl (Ae (Ab (Ab (Aa Ad rfl (qm rfl (Cy rfl (Ae ?_)))))))))))))
 refine Ap rfl (fun c2 => ?_) (fun c2 => ?_)
 ·have h := An c2 h
  refine Ab (Aa Ad rfl (CO DN Jv rfl (qm rfl (qs Ay rfl (qa rfl (qa rfl (Ae ?_)))))))
  obtain rfl := sj h
  refine Am ((A1 2 0 2004 1 _ rfl rfl rfl rfl).trans ((A1 2 1 2005 1 _ rfl rfl rfl rfl).trans ((A1 2 2 2006 1 _ rfl rfl rfl rfl).trans (sm [(1000, 2004), (1001, 2005), (1002, 2006)] [(2, .e (.one (.ptr 2 0))), (3, .e (.one (.pure (.val (.bool false))))), (4, .e (.one (.pure (.val (.int .i64 v1.2)))))] [(2, .box [.own 1000, .own 1001, .own 1002]), (1000, .vec 1 ((([] : List Int)).map Ak)), (1001, .vec 1 ((([] : List Int)).map Ak)), (1002, .vec 1 ((([] : List Int)).map Bv))] rfl rfl)))) (Ax ?_)
  exact ⟨⟨[_, _, _], ⟨.cellN _ _ _ _ _ _ _ rfl rfl A6 Ay rfl rfl (Kw rfl), ⟨.tmp _ _ rfl, ⟨.tmp _ _ rfl, trivial⟩⟩⟩, rfl⟩, ⟨rfl, rfl, rfl, trivial⟩⟩
 ·have h := Ao c2 h
  refine Aq (Ab (Aa Ad rfl (qL EE Ek rfl (qL A6 Ay rfl ?_))))
  obtain ⟨v3, a3, h⟩ := bind_some h
  refine DE [] [2001, 2002, 2003] (HJ N p0 v1.1 v3 a3) Rc Cf rfl (qm rfl (qx rfl (qx rfl (qa rfl (qa rfl (Ae (Ab (Aa Ad rfl (qL A6 Ay rfl (qm rfl (qm rfl (qs Ay rfl (qa rfl (qa rfl (Ae ?_)))))))))))))))
  obtain rfl := sj h
  refine Am (sm [(1000, 2001), (1001, 2002), (1002, 2003)] [(2, .e (.one (.ptr 2 0))), (3, .e (.one (.pure (.val (.bool v3.1))))), (4, .e (.one (.pure (.val (.int .i64 v3.2)))))] [(2, .box [.own 1000, .own 1001, .own 1002]), (1000, .vec 1 (v1.1.fBase.map Ak)), (1001, .vec 1 (v1.1.fNext.map Ak)), (1002, .vec 1 (v1.1.fHeld.map Bv))] rfl rfl) (Ax ?_)
  exact ⟨⟨[_, _, _], ⟨.cellN _ _ _ _ _ _ _ rfl rfl A6 Ay rfl rfl (Kw rfl), ⟨.tmp _ _ rfl, ⟨.tmp _ _ rfl, trivial⟩⟩⟩, rfl⟩, ⟨rfl, rfl, rfl, trivial⟩⟩
set_option maxRecDepth 10000 in
theorem Kj (N : Nat) (p0 : Ah) (r : ByteArray) (h : Hz N p0 = some r) : AA Tryz.prog 84 [.e (.agg [.pure (.sl (p0.fBase.map Ak)), .pure (.sl (p0.fNext.map Ak)), .pure (.sl (p0.fHeld.map Bv))])] [] (.e (.one (.pure (.val (.string r))))) := by
 unfold Hz at h
 refine Ar (n := 44) (rs := [.tmp 2]) Tryz.func84 rfl rfl rfl (AZ rfl) (AZ rfl) rfl fun w0 S0 => ?_
 refine Ab (Aa Ad rfl (qb rfl (qa rfl (Ae (Ab (Aa Ad rfl (qa rfl (Ae (Ab (Ab (Aa Ad rfl (qf Du rfl (ql Bw rfl (AP AJ rfl (qm rfl (Ae ?_))))))))))))))))
 refine AB (L := GZ N p0) h (fun v1 => mk [(1, .e (.one (.ptr 1 0))), (3, .e (.one (.own 2001))), (9, .e (.one (.pure (.val (.int .i64 ((p0.fBase.length : Int))))))), (10, .e (.one (.pure (.val (.int .i64 v1.2)))))] [(1, .box [.pure (.sl (p0.fBase.map Ak)), .pure (.sl (p0.fNext.map Ak)), .pure (.sl (p0.fHeld.map Bv))]), (2001, .vec 1 (v1.1.map Bv))]) (fun v2 => mk [(1, .e (.one (.ptr 1 0))), (3, .e (.one (.own 2002)))] [(1, .box [.pure (.sl (p0.fBase.map Ak)), .pure (.sl (p0.fNext.map Ak)), .pure (.sl (p0.fHeld.map Bv))]), (2002, .vec 1 (v2.map Bv))]) (fun _ _ => rfl) ((BR 3 2003 1 rfl rfl rfl).trans (sm [(2001, 2003)] _ _ rfl rfl)) (fun j1 n1 v1 h => ?_) (fun v2 s h hs => ?_)
 ·unfold GZ at h
  refine Ab (Aa Ad rfl (AR rfl (Ae (Ab ?_))))
  refine Ap rfl (fun c3 => ?_) (fun c3 => ?_)
  ·have h := An c3 h
   refine Aq (Ab (AD (Ab (Aa Ad rfl (qm rfl (qa rfl (Ae (Aa Ad rfl (qm rfl (qf Du rfl (ql Bw rfl (qm rfl ?_))))))))))))
   obtain ⟨v4, a4, b4, h⟩ := Aj h
   refine qi AJ Es a4 (Ag b4) rfl (qk Dn rfl (Gk Rw VX rfl (qf CU rfl (ql Bw rfl (qm rfl ?_)))))
   obtain ⟨v5, a5, b5, h⟩ := Aj h
   refine qi AJ Es a5 (Ag b5) rfl (qk Dn rfl (AI rfl (Gk Rw VX rfl (EX Jy TV VU rfl ?_))))
   obtain ⟨c6, h⟩ := AW h
   refine Ep (f := Bv) Jy Jy TV VL VU c6 rfl (qa rfl (Az (by kernel_rfl) (Aa Ad rfl (AI rfl (qm rfl (Ae ?_))))))
   exact Av _ h (sm [(2001, 28)] _ _ rfl rfl)
  ·have h := Ao c3 h
   refine AL ?_
   exact Av _ h (sm [(2002, 2001)] _ _ rfl rfl)
 ·refine Am hs (Ab (Ab (Aa Ad rfl (qf DX rfl (ql It rfl (AP EB rfl (qm rfl (Ae ?_))))))))
  refine AB (L := G1 N p0) h (fun v7 => mk [(3, .e (.one (.own 2004))), (31, .e (.one (.pure (.sl (p0.fHeld.map Bv))))), (32, .e (.one (.pure (.val (.int .i64 ((p0.fHeld.length : Int))))))), (33, .e (.one (.pure (.val (.int .i64 v7.2)))))] [(2004, .vec 1 (v7.1.map Bv))]) (fun v8 => mk [(3, .e (.one (.own 2005)))] [(2005, .vec 1 (v8.map Bv))]) (fun _ _ => rfl) (sm [(2004, 2002)] _ _ rfl rfl) (fun j7 n7 v7 h => ?_) (fun v8 s h hs => ?_)
  ·unfold G1 at h
   refine Ab (Aa Ad rfl (AR rfl (Ae (Ab ?_))))
   refine Ap rfl (fun c9 => ?_) (fun c9 => ?_)
   ·have h := An c9 h
    refine Aq (Ab (AD (Ab (Aa Ad rfl ?_))))
    obtain ⟨v10, a10, b10, h⟩ := Aj h
    refine qi EB HM a10 (Ag b10) rfl (qk KO rfl (qa rfl (Ae (Aa Ad rfl (qm rfl (qm rfl (EX Jy TV VU rfl ?_)))))))
    obtain ⟨c11, h⟩ := AW h
    refine Ep (f := Bv) Jy Jy TV VL VU c11 rfl (qa rfl (Ae (Aa Ad rfl (AI rfl (qm rfl (Ae ?_))))))
    exact Av _ h (sm [(2004, 40)] _ _ rfl rfl)
   ·have h := Ao c9 h
    refine AL ?_
    exact Av _ h (sm [(2005, 2004)] _ _ rfl rfl)
  ·refine Am hs (Ab (Aa Ad rfl (qm rfl ?_)))
   refine Re v8 (.p rfl) rfl (RU Bv _ _ _) ⟨rfl, trivial⟩ rfl Vl SS ?_
   refine qa rfl (Ae ?_)
   obtain rfl := sj h
   refine Am (sm [] [(2, .e (.one (.pure (.val (.string ((I3 v8)))))))] [] rfl rfl) (Ax ?_)
   exact ⟨⟨[_], ⟨.tmp _ _ rfl, trivial⟩, rfl⟩, trivial⟩
end Go.Lift

