/- Lemmas for ReachAlongSaid, which YtfnobkfnohhmmaaGreatFinZ3 proves. -/
import Derived.Test.YtfnobkfnohhmmaaGreatTypes
import Derived.Test.YtfnobkfnohhmmaaGreatProg
import Derived.KernelRfl
namespace Go.Lift
open IntKind renaming wrap → wI
def DH (_ : Nat) (p0 : List Int) (p1 : Int) : Option Int :=
 AV ((decide (p1 < (p0.length : Int))))
  ((A5 p0 p1).bind fun v2 =>
  some ((wI .i64 v2)))
  (some 0)
def A8 (_ : Nat) (p0 : AI) : Option Bool :=
 Bb (fun (v1 : Bool) =>
  some v1)
 fun j1 =>
 AV ((p0.fKind == 3))
  (j1 true)
  (j1 (p0.fKind == 4))
def Cb (N : Nat) (p1 : Int) (p2 : Int) (p3 : Bool) (v1 : (List (List Bool)) × Int) (j4 : ((List Bool)) → Option ((List (List Bool)))) : Nat → ((List Bool) × Int) → Option ((List (List Bool)))
 | 0, _ => none
 | n4 + 1, v4 =>
  AV ((decide (v4.2 < p1)))
   (Bb (fun (v7 : (List Bool)) =>
    Cb N p1 p2 p3 v1 j4 n4 (v7, (wI .i64 (v4.2 + 1))))
   fun j7 =>
   AV p3
    (AV ((v1.2 == v4.2))
     ((DE (v4.1.length + (([true] : List Bool)).length ≤ Dw)).bind fun _ =>
     j7 (v4.1 ++ (([true] : List Bool))))
     ((DE (0 ≤ (wI .i64 ((wI .i64 (3 * v1.2)) + v4.2)))).bind fun _ =>
     (DE (v4.1.length + (([((Int.tmod ((D3 .u16 p2 ((wI .i64 ((wI .i64 (3 * v1.2)) + v4.2))))) 2) == 0)] : List Bool)).length ≤ Dw)).bind fun _ =>
     j7 (v4.1 ++ (([((Int.tmod ((D3 .u16 p2 ((wI .i64 ((wI .i64 (3 * v1.2)) + v4.2))))) 2) == 0)] : List Bool)))))
    ((DE (0 ≤ (wI .i64 ((wI .i64 (3 * v1.2)) + v4.2)))).bind fun _ =>
    (DE (v4.1.length + (([((Int.tmod ((D3 .u16 p2 ((wI .i64 ((wI .i64 (3 * v1.2)) + v4.2))))) 2) == 0)] : List Bool)).length ≤ Dw)).bind fun _ =>
    j7 (v4.1 ++ (([((Int.tmod ((D3 .u16 p2 ((wI .i64 ((wI .i64 (3 * v1.2)) + v4.2))))) 2) == 0)] : List Bool)))))
   (j4 v4.1)
def B8 (N : Nat) (p0 : Int) (p1 : Int) (p2 : Int) (p3 : Bool) (j1 : ((List (List Bool))) → Option ((List (List Bool)))) : Nat → ((List (List Bool)) × Int) → Option ((List (List Bool)))
 | 0, _ => none
 | n1 + 1, v1 =>
  AV ((decide (v1.2 < p0)))
   (Cb N p1 p2 p3 v1 (fun (v5 : (List Bool)) =>
    (DE (v1.1.length + (([v5] : List (List Bool))).length ≤ Dw)).bind fun _ =>
    B8 N p0 p1 p2 p3 j1 n1 (v1.1 ++ (([v5] : List (List Bool))), (wI .i64 (v1.2 + 1)))) N (([] : List Bool), 0))
   (j1 v1.1)
def DK (N : Nat) (p0 : Int) (p1 : Int) (p2 : Int) (p3 : Bool) : Option ((List (List Bool))) :=
 B8 N p0 p1 p2 p3 (fun (v2 : (List (List Bool))) =>
  some v2) N (([] : List (List Bool)), 0)
def Cq (N : Nat) (p0 : B5) (j4 : ((List Int) × (List Int) × (List Int)) → Option (Ah × Bool)) : Nat → ((List Int) × (List Int) × (List Int) × Int) → Option (Ah × Bool)
 | 0, _ => none
 | n4 + 1, v4 =>
  AV ((decide (v4.2.2.2 < (p0.fVersions.length : Int))))
   ((A5 p0.fVersions v4.2.2.2).bind fun v7 =>
   (DE (v4.1.length + (([(wI .i64 (1 + (wI .i64 ((Int.tmod v7 3)))))] : List Int)).length ≤ Dw)).bind fun _ =>
   (DH N p0.fNow v4.2.2.2).bind fun v9 =>
   (DE ((wI .i64 (1 + (wI .i64 ((Int.tmod v7 3))))) ≠ 0)).bind fun _ =>
   (DE (v4.2.1.length + (([(Int.tmod v9 ((wI .i64 (1 + (wI .i64 ((Int.tmod v7 3)))))))] : List Int)).length ≤ Dw)).bind fun _ =>
   (DH N p0.fTarget v4.2.2.2).bind fun v12 =>
   (DE ((wI .i64 (1 + (wI .i64 ((Int.tmod v7 3))))) ≠ 0)).bind fun _ =>
   (DE (v4.2.2.1.length + (([(Int.tmod v12 ((wI .i64 (1 + (wI .i64 ((Int.tmod v7 3)))))))] : List Int)).length ≤ Dw)).bind fun _ =>
   Cq N p0 j4 n4 (v4.1 ++ (([(wI .i64 (1 + (wI .i64 ((Int.tmod v7 3)))))] : List Int)), v4.2.1 ++ (([(Int.tmod v9 ((wI .i64 (1 + (wI .i64 ((Int.tmod v7 3)))))))] : List Int)), v4.2.2.1 ++ (([(Int.tmod v12 ((wI .i64 (1 + (wI .i64 ((Int.tmod v7 3)))))))] : List Int)), (wI .i64 (v4.2.2.2 + 1))))
   (j4 (v4.1, v4.2.1, v4.2.2.1))
def Bx (N : Nat) (p0 : B5) (v5 : (List Int) × (List Int) × (List Int)) (j15 : ((List AI)) → Option (Ah × Bool)) : Nat → ((List AI) × Int) → Option (Ah × Bool)
 | 0, _ => none
 | n15 + 1, v15 =>
  Bb (fun (v17 : Bool) =>
   AV v17
    ((A5 p0.fLinks v15.2).bind fun v20 =>
    (DE ((v5.1.length : Int) ≠ 0)).bind fun _ =>
    (DE ((v5.1.length : Int) ≠ 0)).bind fun _ =>
    Bb (fun (v23 : Bool) =>
     (A5 v5.1 ((Int.tmod ((wI .i64 v20.fFrom)) ((v5.1.length : Int))))).bind fun v26 =>
     (A5 v5.1 ((Int.tmod ((wI .i64 v20.fTo)) ((v5.1.length : Int))))).bind fun v27 =>
     (DK N v26 v27 v20.fBad false).bind fun v28 =>
     Bb (fun (v29 : (List (List Bool))) =>
      (DE (v15.1.length + (([(AI.mk ((wI .i64 (1 + (wI .i64 ((Int.tmod v20.fKind 4)))))) ((Int.tmod ((wI .i64 v20.fFrom)) ((v5.1.length : Int)))) ((Int.tmod ((wI .i64 v20.fTo)) ((v5.1.length : Int)))) v23 v28 v29)] : List AI)).length ≤ Dw)).bind fun _ =>
      Bx N p0 v5 j15 n15 (v15.1 ++ (([(AI.mk ((wI .i64 (1 + (wI .i64 ((Int.tmod v20.fKind 4)))))) ((Int.tmod ((wI .i64 v20.fFrom)) ((v5.1.length : Int)))) ((Int.tmod ((wI .i64 v20.fTo)) ((v5.1.length : Int)))) v23 v28 v29)] : List AI)), (wI .i64 (v15.2 + 1))))
     fun j29 =>
     AV (((wI .i64 (1 + (wI .i64 ((Int.tmod v20.fKind 4))))) == 4))
      ((A5 v5.1 ((Int.tmod ((wI .i64 v20.fFrom)) ((v5.1.length : Int))))).bind fun v31 =>
      (A5 v5.1 ((Int.tmod ((wI .i64 v20.fFrom)) ((v5.1.length : Int))))).bind fun v32 =>
      (DK N v31 v32 v20.fLost true).bind fun v33 =>
      j29 v33)
      (j29 ([] : List (List Bool))))
    fun j23 =>
    AV v20.fAware
     ((A8 N ((AI.mk ((wI .i64 (1 + (wI .i64 ((Int.tmod v20.fKind 4)))))) ((Int.tmod ((wI .i64 v20.fFrom)) ((v5.1.length : Int)))) ((Int.tmod ((wI .i64 v20.fTo)) ((v5.1.length : Int)))) false (([] : List (List Bool))) (([] : List (List Bool)))))).bind fun v25 =>
     j23 (!v25))
     (j23 false))
    (j15 v15.1))
  fun j17 =>
  AV ((decide (v15.2 < (p0.fLinks.length : Int))))
   (j17 (decide (0 < (v5.1.length : Int))))
   (j17 false)
def EQ (N : Nat) (p0 : B5) : Option (Ah × Bool) :=
 Bb (fun (v1 : Bool) =>
  AV v1
   (some ((Ah.mk (([] : List Int)) (([] : List Int)) (([] : List Int)) (([] : List AI))), false))
   (Cq N p0 (fun (v5 : (List Int) × (List Int) × (List Int)) =>
    Bx N p0 v5 (fun (v16 : (List AI)) =>
     some ((Ah.mk v5.1 v5.2.1 v5.2.2 v16), true)) N (([] : List AI), 0)) N (([] : List Int), ([] : List Int), ([] : List Int), 0)))
 fun j1 =>
 AV ((decide (3 < (p0.fVersions.length : Int))))
  (j1 true)
  (j1 (decide (4 < (p0.fLinks.length : Int))))
def Cv (_ : Nat) (p0 : Bool) : Option Ah :=
 some ((Ah.mk (([2] : List Int)) (([0] : List Int)) (([1] : List Int)) (([(AI.mk 1 0 0 false (([([true, true] : List Bool), ([p0, true] : List Bool)] : List (List Bool))) (([] : List (List Bool))))] : List AI))))
def DO (_ : Nat) (p0 : Int) (p1 : Int) : Option Bool :=
 Bb (fun (v1 : Bool) =>
  some v1)
 fun j1 =>
 AV ((decide (0 ≤ p0)))
  (j1 (decide (p0 < p1)))
  (j1 false)
def FV (_ : Nat) (p0 : Int) (p1 : Bool) : Option Bool :=
 Bb (fun (v1 : Bool) =>
  some v1)
 fun j1 =>
 AV ((p0 == 1))
  (j1 true)
  (AV ((p0 == 2))
   (j1 true)
   (AV ((p0 == 3))
    (j1 (!p1))
    (AV ((p0 == 4))
     (j1 (!p1))
     (j1 false))))
def DA (_ : Nat) (p0 : List Bool) (p1 : Int) : Option Bool :=
 some (((p0.length : Int) != p1))
def Bq (N : Nat) (p0 : List (List Bool)) (p1 : (List Bool) → Option Bool) (j1 : Unit → Option Int) : Nat → Int → Option Int
 | 0, _ => none
 | n1 + 1, v1 =>
  AV ((decide (v1 < (p0.length : Int))))
   ((A5 p0 v1).bind fun v4 =>
   (p1 v4).bind fun v5 =>
   AV v5
    (some v1)
    (Bq N p0 p1 j1 n1 (wI .i64 (v1 + 1))))
   (j1 ())
def C6 (N : Nat) (p0 : List (List Bool)) (p1 : (List Bool) → Option Bool) : Option Int :=
 Bq N p0 p1 (fun (_ : Unit) =>
  some ((-1))) N 0
def CD (N : Nat) (p0 : List (List Bool)) (p1 : (List Bool) → Option Bool) : Option Bool :=
 (C6 N p0 p1).bind fun v1 =>
 some ((decide (0 ≤ v1)))
def EI (N : Nat) (p0 : List (List Bool)) (p1 : Int) (p2 : Int) : Option Bool :=
 Bb (fun (v1 : Bool) =>
  some v1)
 fun j1 =>
 AV (((p0.length : Int) == p1))
  ((CD N p0 ((fun (x : List Bool) => DA N x p2))).bind fun v3 =>
  j1 (!v3))
  (j1 false)
def CP (N : Nat) (p1 : AI) (j19 : Unit → Option Int) : Nat → Int → Option Int
 | 0, _ => none
 | n19 + 1, v19 =>
  AV ((decide (v19 < (p1.fRewrite.length : Int))))
   ((A5 p1.fRewrite v19).bind fun v22 =>
   (A5 v22 v19).bind fun v23 =>
   AV ((!v23))
    (some 1)
    (CP N p1 j19 n19 (wI .i64 (v19 + 1))))
   (j19 ())
def FA (N : Nat) (p0 : Ah) (p1 : AI) : Option Int :=
 (FV N p1.fKind p1.fAware).bind fun v1 =>
 AV ((!v1))
  (some 1)
  (Bb (fun (v3 : Bool) =>
   AV v3
    (some 4)
    ((A5 p0.fVersions p1.fFrom).bind fun v8 =>
    Bb (fun (v9 : Bool) =>
     AV v9
      (some 6)
      (CP N p1 (fun (_ : Unit) =>
       some 0) N 0))
    fun j9 =>
    (A5 p0.fVersions p1.fTo).bind fun v10 =>
    (EI N p1.fOK v8 v10).bind fun v11 =>
    AV ((!v11))
     (j9 true)
     (AV ((p1.fKind == 4))
      ((EI N p1.fRewrite v8 v8).bind fun v14 =>
      AV ((!v14))
       (j9 true)
       (AV ((!((p1.fKind == 4))))
        (j9 (decide (0 < (p1.fRewrite.length : Int))))
        (j9 false)))
      (AV ((!((p1.fKind == 4))))
       (j9 (decide (0 < (p1.fRewrite.length : Int))))
       (j9 false)))))
  fun j3 =>
  (DO N p1.fFrom ((p0.fVersions.length : Int))).bind fun v4 =>
  AV ((!v4))
   (j3 true)
   ((DO N p1.fTo ((p0.fVersions.length : Int))).bind fun v6 =>
   j3 (!v6)))
def BS (N : Nat) (p0 : Ah) (j7 : Unit → Option Int) : Nat → Int → Option Int
 | 0, _ => none
 | n7 + 1, v7 =>
  AV ((decide (v7 < (p0.fVersions.length : Int))))
   ((A5 p0.fVersions v7).bind fun v10 =>
   Bb (fun (v11 : Bool) =>
    AV v11
     (some 7)
     (BS N p0 j7 n7 (wI .i64 (v7 + 1))))
   fun j11 =>
   AV ((decide (v10 < 1)))
    (j11 true)
    (AV ((decide (6 < v10)))
     (j11 true)
     ((A5 p0.fNow v7).bind fun v14 =>
     (DO N v14 v10).bind fun v15 =>
     AV ((!v15))
      (j11 true)
      ((A5 p0.fTarget v7).bind fun v17 =>
      (DO N v17 v10).bind fun v18 =>
      j11 (!v18)))))
   (j7 ())
def BI (N : Nat) (p0 : Ah) (j20 : Unit → Option Int) : Nat → Int → Option Int
 | 0, _ => none
 | n20 + 1, v20 =>
  AV ((decide (v20 < (p0.fTables.length : Int))))
   ((A5 p0.fTables v20).bind fun v23 =>
   (FA N p0 v23).bind fun v24 =>
   AV ((v24 != 0))
    (some v24)
    (BI N p0 j20 n20 (wI .i64 (v20 + 1))))
   (j20 ())
def C8 (N : Nat) (p0 : Ah) : Option Int :=
 Bb (fun (v1 : Bool) =>
  AV v1
   (some 3)
   (Bb (fun (v4 : Bool) =>
    AV v4
     (some 6)
     (BS N p0 (fun (_ : Unit) =>
      BI N p0 (fun (_ : Unit) =>
       some 0) N 0) N 0))
   fun j4 =>
   AV (((p0.fNow.length : Int) != (p0.fVersions.length : Int)))
    (j4 true)
    (j4 ((p0.fTarget.length : Int) != (p0.fVersions.length : Int)))))
 fun j1 =>
 AV ((decide (6 < (p0.fVersions.length : Int))))
  (j1 true)
  (j1 (decide (12 < (p0.fTables.length : Int))))
def BF (_ : Nat) (p0 : List Int) : Option ((List Int)) :=
 (DE ((([] : List Int)).length + p0.length ≤ Dw)).bind fun _ =>
 some ((([] : List Int)) ++ p0)
def Gl (_ : Nat) (p0 : Int) (p1 : Int) : Option (Int × Int) :=
 some ((wI .u32 ((D3 .u64 ((wI .u64 ((wI .u64 p0) * (wI .u64 p1)))) 32))), (wI .u32 ((wI .u64 ((wI .u64 p0) * (wI .u64 p1))))))
def Gn (_ : Nat) (p0 : Int) (p1 : Int) : Option (Int × Int) :=
 some ((wI .u64 ((wI .u64 ((wI .u64 ((D3 .u64 p0 32) * (D3 .u64 p1 32))) + (D3 .u64 ((wI .u64 ((wI .u64 ((D3 .u64 p0 32) * (Fp .u64 p1 4294967295))) + (D3 .u64 ((wI .u64 ((Fp .u64 p0 4294967295) * (Fp .u64 p1 4294967295)))) 32)))) 32))) + (D3 .u64 ((wI .u64 ((Fp .u64 ((wI .u64 ((wI .u64 ((D3 .u64 p0 32) * (Fp .u64 p1 4294967295))) + (D3 .u64 ((wI .u64 ((Fp .u64 p0 4294967295) * (Fp .u64 p1 4294967295)))) 32)))) 4294967295) + (wI .u64 ((Fp .u64 p0 4294967295) * (D3 .u64 p1 32)))))) 32))), (wI .u64 (p0 * p1)))
def Hf (N : Nat) (p0 : Int) (p1 : Int) : Option (Int × Int) :=
 AV false
  ((Gl N ((wI .u32 p0)) ((wI .u32 p1))).bind fun v2 =>
  some ((wI .u64 v2.1), (wI .u64 v2.2)))
  ((Gn N p0 p1).bind fun v3 =>
  some (v3.1, v3.2))
def Dv (N : Nat) (j9 : ((List Int)) → Option ((List Int))) : Nat → ((List Int) × Int) → Option ((List Int))
 | 0, _ => none
 | n9 + 1, v9 =>
  AV ((decide (v9.2 < (v9.1.length : Int))))
   ((DE ((0 : Int) ≤ v9.2 ∧ (v9.2).toNat ≤ v9.1.length ∧ v9.1.length ≤ v9.1.length)).bind fun _ =>
   (DE ((0 : Int) ≤ v9.2 ∧ 0 ≤ (v9.2).toNat ∧ (v9.2).toNat ≤ v9.1.length)).bind fun _ =>
   Dv N j9 n9 (HP v9.1 ((v9.2).toNat) ((((v9.1.drop 0).take ((v9.2).toNat))).take (Nat.min (((v9.1.drop 0).take ((v9.2).toNat))).length ((v9.1.length - (v9.2).toNat)))), (wI .i64 (v9.2 + (((Nat.min (((v9.1.drop 0).take ((v9.2).toNat))).length ((v9.1.length - (v9.2).toNat))) : Nat) : Int)))))
   (j9 v9.1)
def D4 (N : Nat) (p0 : List Int) (p1 : Int) : Option ((List Int)) :=
 Bb (fun (_ : Unit) =>
  (Hf N ((wI .u64 ((p0.length : Int)))) ((wI .u64 p1))).bind fun v3 =>
  Bb (fun (_ : Unit) =>
   (DE ((0 : Int) ≤ (wI .i64 v3.2) ∧ (wI .i64 v3.2) ≤ (wI .i64 v3.2) ∧ (wI .i64 v3.2) ≤ (Dw : Int))).bind fun _ =>
   Dv N (fun (v10 : (List Int)) =>
    some v10) N (HP (List.replicate ((wI .i64 v3.2)).toNat ((0 : Int))) 0 (p0.take (Nat.min p0.length ((List.replicate ((wI .i64 v3.2)).toNat ((0 : Int))).length))), (((Nat.min p0.length ((List.replicate ((wI .i64 v3.2)).toNat ((0 : Int))).length)) : Nat) : Int)))
  fun j4 =>
  Bb (fun (v5 : Bool) =>
   AV v5
    (none)
    (j4 ()))
  fun j5 =>
  AV ((decide (0 < v3.1)))
   (j5 true)
   (j5 (decide (9223372036854775807 < v3.2))))
 fun j1 =>
 AV ((decide (p1 < 0)))
  (none)
  (j1 ())
def EV (_ : Nat) (p0 : AI) : Option Bool :=
 Bb (fun (v1 : Bool) =>
  some v1)
 fun j1 =>
 AV ((p0.fKind == 3))
  (j1 true)
  (j1 (p0.fKind == 4))
def DL (N : Nat) (p0 : Ah) (j6 : ((List Int)) → Option (Ae × Int)) : Nat → ((List Int) × Int) → Option (Ae × Int)
 | 0, _ => none
 | n6 + 1, v6 =>
  AV ((decide (v6.2 < (p0.fTables.length : Int))))
   (Bb (fun (v9 : (List Int)) =>
    DL N p0 j6 n6 (v9, (wI .i64 (v6.2 + 1))))
   fun j9 =>
   (A5 p0.fTables v6.2).bind fun v10 =>
   (EV N v10).bind fun v11 =>
   AV v11
    ((A5 p0.fNow v10.fFrom).bind fun v13 =>
    (DE (0 ≤ v13)).bind fun _ =>
    (A5 v6.1 v6.2).bind fun _ =>
    j9 (v6.1.set ((v6.2).toNat) ((Cc .u8 1 v13))))
    (j9 v6.1))
   (j6 v6.1)
def FM (N : Nat) (p0 : Ah) : Option (Ae × Int) :=
 (C8 N p0).bind fun v1 =>
 AV ((v1 != 0))
  (some ((Ae.mk (([] : List Int)) (([] : List Int)) (([] : List Int))), v1))
  ((BF N p0.fNow).bind fun v3 =>
  (D4 N (([(-1)] : List Int)) ((p0.fNow.length : Int))).bind fun v4 =>
  (DE ((0 : Int) ≤ (p0.fTables.length : Int) ∧ (p0.fTables.length : Int) ≤ (p0.fTables.length : Int) ∧ (p0.fTables.length : Int) ≤ (Dw : Int))).bind fun _ =>
  DL N p0 (fun (v7 : (List Int)) =>
   some ((Ae.mk v3 v4 v7), 0)) N (List.replicate ((p0.fTables.length : Int)).toNat ((0 : Int)), 0))
def Ey (_ : Nat) (p0 : Ae) (p1 : Int) : Option Int :=
 (A5 p0.fBase p1).bind fun v1 =>
 (DE (0 ≤ v1)).bind fun _ =>
 Bb (fun (v3 : Int) =>
  some v3)
 fun j3 =>
 (A5 p0.fNext p1).bind fun v4 =>
 AV ((decide (0 ≤ v4)))
  ((A5 p0.fNext p1).bind fun v6 =>
  (DE (0 ≤ v6)).bind fun _ =>
  j3 (NC .u8 ((Cc .u8 1 v1)) ((Cc .u8 1 v6))))
  (j3 (Cc .u8 1 v1))
def DN (N : Nat) (p0 : Ah) (p1 : Ae) (j7 : Unit → Option Int) : Nat → Int → Option Int
 | 0, _ => none
 | n7 + 1, v7 =>
  AV ((decide (v7 < (p0.fVersions.length : Int))))
   ((A5 p0.fVersions v7).bind fun v10 =>
   Bb (fun (v11 : Bool) =>
    AV v11
     (some 7)
     ((A5 p1.fBase v7).bind fun v20 =>
     (A5 p1.fNext v7).bind fun v21 =>
     AV ((v20 == v21))
      (some 1)
      (DN N p0 p1 j7 n7 (wI .i64 (v7 + 1)))))
   fun j11 =>
   (A5 p1.fBase v7).bind fun v12 =>
   AV ((decide (v12 < 0)))
    (j11 true)
    ((A5 p1.fBase v7).bind fun v14 =>
    AV ((decide (v10 ≤ v14)))
     (j11 true)
     ((A5 p1.fNext v7).bind fun v16 =>
     AV ((decide (v16 < (-1))))
      (j11 true)
      ((A5 p1.fNext v7).bind fun v18 =>
      j11 (decide (v10 ≤ v18))))))
   (j7 ())
def Di (N : Nat) (p0 : Ah) (p1 : Ae) (j23 : Unit → Option Int) : Nat → Int → Option Int
 | 0, _ => none
 | n23 + 1, v23 =>
  AV ((decide (v23 < (p0.fTables.length : Int))))
   ((A5 p0.fTables v23).bind fun v26 =>
   Bb (fun (v27 : Int × Int) =>
    Bb (fun (v33 : Bool) =>
     AV v33
      (some 1)
      (Di N p0 p1 j23 n23 (wI .i64 (v23 + 1))))
    fun j33 =>
    (A5 p1.fHeld v23).bind fun v34 =>
    AV (((CX .u8 v27.1 v34) != 0))
     (j33 true)
     ((A5 p1.fHeld v23).bind fun v36 =>
     j33 ((CX .u8 v36 v27.2) != 0)))
   fun j27 =>
   (EV N v26).bind fun v28 =>
   AV v28
    ((Ey N p1 v26.fFrom).bind fun v30 =>
    (A5 p0.fVersions v26.fFrom).bind fun v31 =>
    (DE (0 ≤ v31)).bind fun _ =>
    j27 (v30, (wI .u8 ((Cc .u8 1 v31) - 1))))
    (j27 (0, 0)))
   (j23 ())
def ET (N : Nat) (p0 : Ah) (p1 : Ae) : Option Int :=
 (C8 N p0).bind fun v1 =>
 AV ((v1 != 0))
  (some v1)
  (Bb (fun (v3 : Bool) =>
   AV v3
    (some 6)
    (DN N p0 p1 (fun (_ : Unit) =>
     Di N p0 p1 (fun (_ : Unit) =>
      some 0) N 0) N 0))
  fun j3 =>
  AV (((p1.fBase.length : Int) != (p0.fVersions.length : Int)))
   (j3 true)
   (AV (((p1.fNext.length : Int) != (p0.fVersions.length : Int)))
    (j3 true)
    (j3 ((p1.fHeld.length : Int) != (p0.fTables.length : Int)))))
def BJ (_ : Nat) (p0 : List Int) : Option ((List Int)) :=
 (DE ((([] : List Int)).length + p0.length ≤ Dw)).bind fun _ =>
 some ((([] : List Int)) ++ p0)
def Do (N : Nat) (p1 : Ae) (j3 : ((List Int)) → Option ((List Ae) × Int)) : Nat → ((List Int) × Int) → Option ((List Ae) × Int)
 | 0, _ => none
 | n3 + 1, v3 =>
  AV ((decide (v3.2 < (p1.fNext.length : Int))))
   (Bb (fun (v6 : (List Int)) =>
    Do N p1 j3 n3 (v6, (wI .i64 (v3.2 + 1))))
   fun j6 =>
   (A5 p1.fNext v3.2).bind fun v7 =>
   AV ((decide (0 ≤ v7)))
    ((DE (v3.1.length + (([v3.2] : List Int)).length ≤ Dw)).bind fun _ =>
    j6 (v3.1 ++ (([v3.2] : List Int))))
    (j6 v3.1))
   (j3 v3.1)
def CI (N : Nat) (v4 : (List Int)) (v11 : (List Ae) × Int) (j17 : ((List Int)) → Option ((List Ae) × Int)) : Nat → ((List Int) × Int) → Option ((List Ae) × Int)
 | 0, _ => none
 | n17 + 1, v17 =>
  AV ((decide (v17.2 < (v4.length : Int))))
   (Bb (fun (v20 : (List Int)) =>
    CI N v4 v11 j17 n17 (v20, (wI .i64 (v17.2 + 1))))
   fun j20 =>
   (A5 v4 v17.2).bind fun v21 =>
   (DE (0 ≤ v17.2)).bind fun _ =>
   AV (((Fp .i64 ((D3 .i64 v11.2 v17.2)) 1) == 1))
    ((A5 v17.1 v21).bind fun _ =>
    j20 (v17.1.set ((v21).toNat) ((-1))))
    (j20 v17.1))
   (j17 v17.1)
def CG (N : Nat) (p1 : Ae) (v4 : (List Int)) (j11 : ((List Ae)) → Option ((List Ae) × Int)) : Nat → ((List Ae) × Int) → Option ((List Ae) × Int)
 | 0, _ => none
 | n11 + 1, v11 =>
  AV ((decide (v11.2 < (Cc .i64 1 ((v4.length : Int))))))
   ((BF N p1.fBase).bind fun v14 =>
   (BF N p1.fNext).bind fun v15 =>
   (BJ N p1.fHeld).bind fun v16 =>
   CI N v4 v11 (fun (v18 : (List Int)) =>
    (DE (v11.1.length + (([(Ae.mk v14 v18 v16)] : List Ae)).length ≤ Dw)).bind fun _ =>
    CG N p1 v4 j11 n11 (v11.1 ++ (([(Ae.mk v14 v18 v16)] : List Ae)), (wI .i64 (v11.2 + 1)))) N (v15, 0))
   (j11 v11.1)
def Fr (N : Nat) (p0 : Ah) (p1 : Ae) : Option ((List Ae) × Int) :=
 (ET N p0 p1).bind fun v1 =>
 AV ((v1 != 0))
  (some (([] : List Ae), v1))
  (Do N p1 (fun (v4 : (List Int)) =>
   (DE (0 ≤ (v4.length : Int))).bind fun _ =>
   CG N p1 v4 (fun (v12 : (List Ae)) =>
    some (v12, 0)) N (([] : List Ae), 0)) N (([] : List Int), 0))
def BO (N : Nat) (v1 : (List Av) × Int) (v4 : AI) (v6 : Int) (v11 : (List Av) × Int) (v17 : List Bool) (j18 : ((List Av) × Bool) → Option ((List Av))) : Nat → ((List Av) × Bool × Int) → Option ((List Av))
 | 0, _ => none
 | n18 + 1, v18 =>
  AV ((decide (v18.2.2 < (v17.length : Int))))
   (Bb (fun (v21 : (List Av) × Bool) =>
    BO N v1 v4 v6 v11 v17 j18 n18 (v21.1, v21.2, (wI .i64 (v18.2.2 + 1))))
   fun j21 =>
   (A5 v17 v18.2.2).bind fun v22 =>
   (DE (0 ≤ v18.2.2)).bind fun _ =>
   AV (((Fp .u8 ((D3 .u8 v6 v18.2.2)) 1) == 0))
    (j21 (v18.1, v18.2.1))
    (Bb (fun (v25 : Bool) =>
     Bb (fun (v27 : Bool) =>
      AV v27
       ((DE (v18.1.length + (([(Av.mk v1.2 v11.2 v18.2.2)] : List Av)).length ≤ Dw)).bind fun _ =>
       j21 (v18.1 ++ (([(Av.mk v1.2 v11.2 v18.2.2)] : List Av)), v25))
       (j21 (v18.1, v25)))
     fun j27 =>
     AV ((!v22))
      (j27 (!v4.fAware))
      (j27 false))
    fun j25 =>
    AV v18.2.1
     (j25 true)
     (j25 v22)))
   (j18 (v18.1, v18.2.1))
def B7 (N : Nat) (v1 : (List Av) × Int) (v4 : AI) (v6 : Int) (v7 : Int) (j11 : ((List Av)) → Option ((List Av))) : Nat → ((List Av) × Int) → Option ((List Av))
 | 0, _ => none
 | n11 + 1, v11 =>
  AV ((decide (v11.2 < (v4.fOK.length : Int))))
   (Bb (fun (v14 : (List Av)) =>
    B7 N v1 v4 v6 v7 j11 n11 (v14, (wI .i64 (v11.2 + 1))))
   fun j14 =>
   (DE (0 ≤ v11.2)).bind fun _ =>
   AV (((Fp .u8 ((D3 .u8 v7 v11.2)) 1) == 0))
    (j14 v11.1)
    ((A5 v4.fOK v11.2).bind fun v17 =>
    BO N v1 v4 v6 v11 v17 (fun (v19 : (List Av) × Bool) =>
     Bb (fun (v31 : Bool) =>
      AV v31
       ((DE (v19.1.length + (([(Av.mk v1.2 v11.2 ((-1)))] : List Av)).length ≤ Dw)).bind fun _ =>
       j14 (v19.1 ++ (([(Av.mk v1.2 v11.2 ((-1)))] : List Av))))
       (j14 v19.1))
     fun j31 =>
     AV v4.fAware
      (j31 (!v19.2))
      (j31 false)) N (v11.1, false, 0)))
   (j11 v11.1)
def C2 (N : Nat) (p0 : Ah) (p1 : Ae) (j1 : ((List Av)) → Option ((List Av))) : Nat → ((List Av) × Int) → Option ((List Av))
 | 0, _ => none
 | n1 + 1, v1 =>
  AV ((decide (v1.2 < (p0.fTables.length : Int))))
   ((A5 p0.fTables v1.2).bind fun v4 =>
   (Ey N p1 v4.fFrom).bind fun v5 =>
   (Ey N p1 v4.fTo).bind fun v6 =>
   Bb (fun (v7 : Int) =>
    B7 N v1 v4 v6 v7 (fun (v12 : (List Av)) =>
     C2 N p0 p1 j1 n1 (v12, (wI .i64 (v1.2 + 1)))) N (v1.1, 0))
   fun j7 =>
   (EV N v4).bind fun v8 =>
   AV v8
    ((A5 p1.fHeld v1.2).bind fun v10 =>
    j7 v10)
    (j7 v5))
   (j1 v1.1)
def Fa (N : Nat) (p0 : Ah) (p1 : Ae) : Option ((List Av)) :=
 C2 N p0 p1 (fun (v2 : (List Av)) =>
  some v2) N (([] : List Av), 0)
def Eh (N : Nat) (p0 : Ah) (v1 : (List Ae) × Int) (j3 : Unit → Option (Ae × Av × Int)) : Nat → Int → Option (Ae × Av × Int)
 | 0, _ => none
 | n3 + 1, v3 =>
  AV ((decide (v3 < (v1.1.length : Int))))
   ((A5 v1.1 v3).bind fun v6 =>
   (Fa N p0 v6).bind fun v7 =>
   AV ((decide (0 < (v7.length : Int))))
    ((A5 v7 0).bind fun v9 =>
    some (v6, v9, 0))
    (Eh N p0 v1 j3 n3 (wI .i64 (v3 + 1))))
   (j3 ())
def GN (N : Nat) (p0 : Ah) (p1 : Ae) : Option (Ae × Av × Int) :=
 (Fr N p0 p1).bind fun v1 =>
 AV ((v1.2 != 0))
  (some ((Ae.mk (([] : List Int)) (([] : List Int)) (([] : List Int))), (Av.mk 0 0 0), v1.2))
  (Eh N p0 v1 (fun (_ : Unit) =>
   some ((Ae.mk (([] : List Int)) (([] : List Int)) (([] : List Int))), (Av.mk 0 0 0), 15)) N 0)
def EW (N : Nat) (p0 : Ah) (p1 : Ae) : Option (Bool × Int) :=
 (GN N p0 p1).bind fun v1 =>
 AV ((v1.2.2 == 0))
  (some (false, 0))
  (AV ((v1.2.2 == 15))
   (some (true, 0))
   (some (false, v1.2.2)))
def GR (N : Nat) (p0 : Ah) : Option (Ae × Bool × Int) :=
 (FM N p0).bind fun v1 =>
 AV ((v1.2 != 0))
  (some ((Ae.mk (([] : List Int)) (([] : List Int)) (([] : List Int))), false, v1.2))
  ((EW N p0 v1.1).bind fun v3 =>
  some (v1.1, v3.1, v3.2))
def F8 (N : Nat) (p0 : Ae) (j1 : ((List Int)) → Option ByteArray) : Nat → ((List Int) × Int) → Option ByteArray
 | 0, _ => none
 | n1 + 1, v1 =>
  AV ((decide (v1.2 < (p0.fBase.length : Int))))
   ((A5 p0.fBase v1.2).bind fun v4 =>
   (A5 p0.fNext v1.2).bind fun v5 =>
   (DE (v1.1.length + (([(wI .u8 v4), (wI .u8 ((wI .i64 (v5 + 1))))] : List Int)).length ≤ Dw)).bind fun _ =>
   F8 N p0 j1 n1 (v1.1 ++ (([(wI .u8 v4), (wI .u8 ((wI .i64 (v5 + 1))))] : List Int)), (wI .i64 (v1.2 + 1))))
   (j1 v1.1)
def Gg (N : Nat) (p0 : Ae) (j7 : ((List Int)) → Option ByteArray) : Nat → ((List Int) × Int) → Option ByteArray
 | 0, _ => none
 | n7 + 1, v7 =>
  AV ((decide (v7.2 < (p0.fHeld.length : Int))))
   ((A5 p0.fHeld v7.2).bind fun v10 =>
   (DE (v7.1.length + (([v10] : List Int)).length ≤ Dw)).bind fun _ =>
   Gg N p0 j7 n7 (v7.1 ++ (([v10] : List Int)), (wI .i64 (v7.2 + 1))))
   (j7 v7.1)
def GF (N : Nat) (p0 : Ae) : Option ByteArray :=
 F8 N p0 (fun (v2 : (List Int)) =>
  Gg N p0 (fun (v8 : (List Int)) =>
   some ((If v8))) N (v2, 0)) N (([] : List Int), 0)
def GD (N : Nat) (v1 : (List Au) × Int) (v4 : Int) (j5 : ((List Au)) → Option ((List Au))) : Nat → ((List Au) × Int) → Option ((List Au))
 | 0, _ => none
 | n5 + 1, v5 =>
  AV ((decide (v5.2 < v4)))
   ((DE (v5.1.length + (([(Au.mk 1 v1.2 v5.2)] : List Au)).length ≤ Dw)).bind fun _ =>
   GD N v1 v4 j5 n5 (v5.1 ++ (([(Au.mk 1 v1.2 v5.2)] : List Au)), (wI .i64 (v5.2 + 1))))
   (j5 v5.1)
def GK (N : Nat) (p0 : Ah) (j1 : ((List Au)) → Option ((List Au))) : Nat → ((List Au) × Int) → Option ((List Au))
 | 0, _ => none
 | n1 + 1, v1 =>
  AV ((decide (v1.2 < (p0.fVersions.length : Int))))
   ((A5 p0.fVersions v1.2).bind fun v4 =>
   GD N v1 v4 (fun (v6 : (List Au)) =>
    GK N p0 j1 n1 (v6, (wI .i64 (v1.2 + 1)))) N (v1.1, 0))
   (j1 v1.1)
def GM (N : Nat) (p0 : Ah) (j9 : ((List Au)) → Option ((List Au))) : Nat → ((List Au) × Int) → Option ((List Au))
 | 0, _ => none
 | n9 + 1, v9 =>
  AV ((decide (v9.2 < (p0.fVersions.length : Int))))
   ((DE (v9.1.length + (([(Au.mk 2 v9.2 0)] : List Au)).length ≤ Dw)).bind fun _ =>
   GM N p0 j9 n9 (v9.1 ++ (([(Au.mk 2 v9.2 0)] : List Au)), (wI .i64 (v9.2 + 1))))
   (j9 v9.1)
def Gf (N : Nat) (p0 : Ah) (j13 : ((List Au)) → Option ((List Au))) : Nat → ((List Au) × Int) → Option ((List Au))
 | 0, _ => none
 | n13 + 1, v13 =>
  AV ((decide (v13.2 < (p0.fTables.length : Int))))
   ((DE (v13.1.length + (([(Au.mk 3 v13.2 0)] : List Au)).length ≤ Dw)).bind fun _ =>
   Gf N p0 j13 n13 (v13.1 ++ (([(Au.mk 3 v13.2 0)] : List Au)), (wI .i64 (v13.2 + 1))))
   (j13 v13.1)
def Jn (N : Nat) (p0 : Ah) : Option ((List Au)) :=
 GK N p0 (fun (v2 : (List Au)) =>
  GM N p0 (fun (v10 : (List Au)) =>
   Gf N p0 (fun (v14 : (List Au)) =>
    some v14) N (v10, 0)) N (v2, 0)) N (([] : List Au), 0)
def Fb (N : Nat) (p0 : Ae) : Option Ae :=
 (BF N p0.fBase).bind fun v1 =>
 (BF N p0.fNext).bind fun v2 =>
 (BJ N p0.fHeld).bind fun v3 =>
 some ((Ae.mk v1 v2 v3))
def Fc (_ : Nat) (p0 : AI) : Option Bool :=
 Bb (fun (v1 : Bool) =>
  some v1)
 fun j1 =>
 AV ((p0.fKind == 3))
  (j1 true)
  (j1 (p0.fKind == 4))
def Dk (N : Nat) (p0 : Ah) (p2 : Au) (j7 : ((List Int)) → Option (Bool × (List Int) × (List Int))) : Nat → ((List Int) × Int) → Option (Bool × (List Int) × (List Int))
 | 0, _ => none
 | n7 + 1, v7 =>
  AV ((decide (v7.2 < (p0.fTables.length : Int))))
   (Bb (fun (v10 : (List Int)) =>
    Dk N p0 p2 j7 n7 (v10, (wI .i64 (v7.2 + 1))))
   fun j10 =>
   (A5 p0.fTables v7.2).bind fun v11 =>
   Bb (fun (v12 : Bool) =>
    AV v12
     ((A5 v7.1 v7.2).bind fun v16 =>
     (DE (0 ≤ p2.fVersion)).bind fun _ =>
     (A5 v7.1 v7.2).bind fun _ =>
     j10 (v7.1.set ((v7.2).toNat) ((NC .u8 v16 ((Cc .u8 1 p2.fVersion))))))
     (j10 v7.1))
   fun j12 =>
   AV ((v11.fFrom == p2.fIndex))
    ((Fc N v11).bind fun v14 =>
    j12 v14)
    (j12 false))
   (j7 v7.1)
def Hk (N : Nat) (p0 : Ah) (p1 : Ae) (p2 : Au) : Option (Bool × (List Int) × (List Int)) :=
 Bb (fun (v1 : Bool) =>
  AV v1
   (some (false, p1.fNext, p1.fHeld))
   ((A5 p1.fNext p2.fIndex).bind fun _ =>
   Dk N p0 p2 (fun (v8 : (List Int)) =>
    some (true, p1.fNext.set ((p2.fIndex).toNat) p2.fVersion, v8)) N (p1.fHeld, 0)))
 fun j1 =>
 (A5 p1.fNext p2.fIndex).bind fun v2 =>
 AV ((decide (0 ≤ v2)))
  (j1 true)
  ((A5 p1.fBase p2.fIndex).bind fun v4 =>
  j1 (v4 == p2.fVersion))
def Fn (_ : Nat) (p0 : Ae) (p1 : Int) : Option Int :=
 (A5 p0.fBase p1).bind fun v1 =>
 (DE (0 ≤ v1)).bind fun _ =>
 Bb (fun (v3 : Int) =>
  some v3)
 fun j3 =>
 (A5 p0.fNext p1).bind fun v4 =>
 AV ((decide (0 ≤ v4)))
  ((A5 p0.fNext p1).bind fun v6 =>
  (DE (0 ≤ v6)).bind fun _ =>
  j3 (NC .u8 ((Cc .u8 1 v1)) ((Cc .u8 1 v6))))
  (j3 (Cc .u8 1 v1))
def CF (_ : Nat) (p0 : Int) : Option Int :=
 (RJ ((⟨⟨(List.append (List.append [8, 0, 1, 0, 2, 0, 1, 0, 3, 0, 1, 0, 2, 0, 1, 0, 4, 0, 1, 0, 2, 0, 1, 0, 3, 0, 1, 0, 2, 0, 1, 0, 5, 0, 1, 0, 2, 0, 1, 0, 3, 0, 1, 0, 2, 0, 1, 0, 4, 0, 1, 0, 2, 0, 1, 0, 3, 0, 1, 0, 2, 0, 1, 0] [6, 0, 1, 0, 2, 0, 1, 0, 3, 0, 1, 0, 2, 0, 1, 0, 4, 0, 1, 0, 2, 0, 1, 0, 3, 0, 1, 0, 2, 0, 1, 0, 5, 0, 1, 0, 2, 0, 1, 0, 3, 0, 1, 0, 2, 0, 1, 0, 4, 0, 1, 0, 2, 0, 1, 0, 3, 0, 1, 0, 2, 0, 1, 0]) (List.append [7, 0, 1, 0, 2, 0, 1, 0, 3, 0, 1, 0, 2, 0, 1, 0, 4, 0, 1, 0, 2, 0, 1, 0, 3, 0, 1, 0, 2, 0, 1, 0, 5, 0, 1, 0, 2, 0, 1, 0, 3, 0, 1, 0, 2, 0, 1, 0, 4, 0, 1, 0, 2, 0, 1, 0, 3, 0, 1, 0, 2, 0, 1, 0] [6, 0, 1, 0, 2, 0, 1, 0, 3, 0, 1, 0, 2, 0, 1, 0, 4, 0, 1, 0, 2, 0, 1, 0, 3, 0, 1, 0, 2, 0, 1, 0, 5, 0, 1, 0, 2, 0, 1, 0, 3, 0, 1, 0, 2, 0, 1, 0, 4, 0, 1, 0, 2, 0, 1, 0, 3, 0, 1, 0, 2, 0, 1, 0]))⟩⟩ : ByteArray)) p0).bind fun v1 =>
 some ((wI .i64 v1))
def C9 (N : Nat) (p0 : AI) (p2 : Int) (j1 : Unit → Option Bool) : Nat → Int → Option Bool
 | 0, _ => none
 | n1 + 1, v1 =>
  AV ((v1 != 0))
   ((CF N v1).bind fun v4 =>
   (A5 p0.fRewrite v4).bind fun v5 =>
   (A5 v5 p2).bind fun v6 =>
   AV ((!v6))
    (some false)
    (C9 N p0 p2 j1 n1 (Fp .u8 v1 ((wI .u8 (v1 - 1))))))
   (j1 ())
def Fl (N : Nat) (p0 : AI) (p1 : Int) (p2 : Int) : Option Bool :=
 C9 N p0 p2 (fun (_ : Unit) =>
  some true) N p1
def FW (N : Nat) (p0 : Ah) (p1 : Ae) (p2 : Int) : Option (Bool × (List Int)) :=
 (A5 p0.fTables p2).bind fun v1 =>
 (Fc N v1).bind fun v2 =>
 AV ((!v2))
  (some (false, p1.fHeld))
  ((Fn N p1 v1.fFrom).bind fun v4 =>
  (A5 p1.fHeld p2).bind fun v5 =>
  Bb (fun (v6 : Bool) =>
   AV v6
    (some (false, p1.fHeld))
    ((A5 p1.fHeld p2).bind fun _ =>
    some (true, p1.fHeld.set ((p2).toNat) v4)))
  fun j6 =>
  (A5 p1.fHeld p2).bind fun v7 =>
  AV ((v7 == v4))
   (j6 true)
   (AV ((v1.fKind == 4))
    ((A5 p1.fBase v1.fFrom).bind fun v10 =>
    (Fl N v1 ((CX .u8 v5 v4)) v10).bind fun v11 =>
    j6 (!v11))
    (j6 false)))
def Fs (N : Nat) (p0 : Ah) (p1 : Ae) (p2 : Au) : Option (Ae × Bool) :=
 (Fb N p1).bind fun v1 =>
 AV ((p2.fKind == 1))
  ((Hk N p0 v1 p2).bind fun v3 =>
  some ((Ae.mk v1.fBase v3.2.1 v3.2.2), v3.1))
  (AV ((p2.fKind == 3))
   ((FW N p0 v1 p2.fIndex).bind fun v5 =>
   some ((Ae.mk v1.fBase v1.fNext v5.2), v5.1))
   ((A5 v1.fNext p2.fIndex).bind fun v6 =>
   AV ((decide (v6 < 0)))
    (some (v1, false))
    ((A5 v1.fNext p2.fIndex).bind fun _ =>
    Bb (fun (v9 : (List Int)) =>
     some ((Ae.mk v9 (v1.fNext.set ((p2.fIndex).toNat) ((-1))) v1.fHeld), true))
    fun j9 =>
    AV ((p2.fKind == 2))
     ((A5 v1.fBase p2.fIndex).bind fun _ =>
     j9 (v1.fBase.set ((p2.fIndex).toNat) v6))
     (j9 v1.fBase))))
def EM (N : Nat) (p0 : Au) (p1 : List Int) (p2 : List Int) (p3 : List Int) (p4 : List AI) (p5 : List Int) (p6 : List Int) (p7 : List Int) : Option Bool :=
 (Fs N ((Ah.mk p1 p2 p3 p4)) ((Ae.mk p5 p6 p7)) p0).bind fun v1 =>
 some ((!v1.2))
def BW (N : Nat) (p0 : List Au) (p1 : Au → Option Bool) (j1 : Unit → Option Int) : Nat → Int → Option Int
 | 0, _ => none
 | n1 + 1, v1 =>
  AV ((decide (v1 < (p0.length : Int))))
   ((A5 p0 v1).bind fun v4 =>
   (p1 v4).bind fun v5 =>
   AV v5
    (some v1)
    (BW N p0 p1 j1 n1 (wI .i64 (v1 + 1))))
   (j1 ())
def CR (N : Nat) (p0 : List Au) (p1 : Au → Option Bool) : Option Int :=
 BW N p0 p1 (fun (_ : Unit) =>
  some ((-1))) N 0
def BV (N : Nat) (p1 : Au → Option Bool) (j3 : ((List Au) × Int) → Option (Nat × (List Au))) : Nat → ((List Au) × Int × Int) → Option (Nat × (List Au))
 | 0, _ => none
 | n3 + 1, v3 =>
  AV ((decide (v3.2.2 < (v3.1.length : Int))))
   (Bb (fun (v6 : (List Au) × Int) =>
    BV N p1 j3 n3 (v6.1, v6.2, (wI .i64 (v3.2.2 + 1))))
   fun j6 =>
   (A5 v3.1 v3.2.2).bind fun v7 =>
   (p1 v7).bind fun v8 =>
   AV ((!v8))
    ((A5 v3.1 v3.2.1).bind fun _ =>
    j6 (v3.1.set ((v3.2.1).toNat) v7, (wI .i64 (v3.2.1 + 1))))
    (j6 (v3.1, v3.2.1)))
   (j3 (v3.1, v3.2.1))
def CO (N : Nat) (p0 : List Au) (p1 : Au → Option Bool) : Option (Nat × (List Au)) :=
 (CR N p0 p1).bind fun v1 =>
 AV ((v1 == (-1)))
  (some (p0.length, p0))
  (BV N p1 (fun (v4 : (List Au) × Int) =>
   (DE ((0 : Int) ≤ v4.2 ∧ (v4.2).toNat ≤ v4.1.length ∧ v4.1.length ≤ v4.1.length)).bind fun _ =>
   (DE ((0 : Int) ≤ v4.2 ∧ 0 ≤ (v4.2).toNat ∧ (v4.2).toNat ≤ (HP v4.1 ((v4.2).toNat) (List.replicate ((v4.1.length - (v4.2).toNat)) ((Au.mk 0 0 0)))).length)).bind fun _ =>
   some ((v4.2).toNat, HP v4.1 ((v4.2).toNat) (List.replicate ((v4.1.length - (v4.2).toNat)) ((Au.mk 0 0 0))))) N (p0, v1, (wI .i64 (v1 + 1))))
def Hy (N : Nat) (p0 : Ah) (p1 : Ae) : Option ((List Au) × Int) :=
 (ET N p0 p1).bind fun v1 =>
 AV ((v1 != 0))
  (some (([] : List Au), v1))
  ((Jn N p0).bind fun v3 =>
  (CO N v3 ((fun (x : Au) => EM N x p0.fVersions p0.fNow p0.fTarget p0.fTables p1.fBase p1.fNext p1.fHeld))).bind fun v4 =>
  (DE (v4.1 ≤ v4.2.length)).bind fun _ =>
  some (v4.2.take v4.1, 0))
def F3 (_ : Nat) (p0 : Au) : Option Bool :=
 Bb (fun (v1 : Bool) =>
  AV v1
   (some false)
   (Bb (fun (v5 : Bool) =>
    some v5)
   fun j5 =>
   AV ((p0.fKind == 1))
    (j5 true)
    (j5 (p0.fVersion == 0))))
 fun j1 =>
 AV ((decide ((SA p0.fIndex p0.fVersion) < 0)))
  (j1 true)
  (AV ((decide (p0.fKind < 1)))
   (j1 true)
   (j1 (decide (4 < p0.fKind))))
def FF (_ : Nat) (p0 : Ah) (p1 : Au) : Option Bool :=
 AV ((p1.fKind == 3))
  (some ((decide (p1.fIndex < (p0.fTables.length : Int)))))
  (Bb (fun (v2 : Bool) =>
   some v2)
  fun j2 =>
  AV ((decide (p1.fIndex < (p0.fVersions.length : Int))))
   (AV ((p1.fKind != 1))
    (j2 true)
    ((A5 p0.fVersions p1.fIndex).bind fun v5 =>
    j2 (decide (p1.fVersion < v5))))
   (j2 false))
def Ft (N : Nat) (p0 : Ah) (p1 : Ae) (p2 : Au) : Option (Ae × Int) :=
 (F3 N p2).bind fun v1 =>
 AV ((!v1))
  (some ((Ae.mk (([] : List Int)) (([] : List Int)) (([] : List Int))), 1))
  ((FF N p0 p2).bind fun v3 =>
  AV ((!v3))
   (some ((Ae.mk (([] : List Int)) (([] : List Int)) (([] : List Int))), 4))
   ((Fs N p0 p1 p2).bind fun v5 =>
   AV ((!v5.2))
    (some ((Ae.mk (([] : List Int)) (([] : List Int)) (([] : List Int))), 11))
    (some (v5.1, 0))))
def Io (N : Nat) (p0 : Ah) (p1 : Ae) (p2 : Au) : Option (Ae × Int) :=
 (ET N p0 p1).bind fun v1 =>
 AV ((v1 != 0))
  (some ((Ae.mk (([] : List Int)) (([] : List Int)) (([] : List Int))), v1))
  ((Ft N p0 p1 p2).bind fun v3 =>
  some (v3.1, v3.2))
def FG (N : Nat) (p0 : Ah) (p1 : Ae) (v1 : (List Au) × Int) (j2 : ((List Au) × (List Ae)) → Option ((List Au) × (List Ae))) : Nat → ((List Au) × (List Ae) × Int) → Option ((List Au) × (List Ae))
 | 0, _ => none
 | n2 + 1, v2 =>
  AV ((decide (v2.2.2 < (v1.1.length : Int))))
   (Bb (fun (v5 : (List Au) × (List Ae)) =>
    FG N p0 p1 v1 j2 n2 (v5.1, v5.2, (wI .i64 (v2.2.2 + 1))))
   fun j5 =>
   (A5 v1.1 v2.2.2).bind fun v6 =>
   (Io N p0 p1 v6).bind fun v7 =>
   AV ((v7.2 != 0))
    (j5 (v2.1, v2.2.1))
    ((EW N p0 v7.1).bind fun v9 =>
    AV v9.1
     ((DE (v2.1.length + (([v6] : List Au)).length ≤ Dw)).bind fun _ =>
     (DE (v2.2.1.length + (([v7.1] : List Ae)).length ≤ Dw)).bind fun _ =>
     j5 (v2.1 ++ (([v6] : List Au)), v2.2.1 ++ (([v7.1] : List Ae))))
     (j5 (v2.1, v2.2.1))))
   (j2 (v2.1, v2.2.1))
def Hi (N : Nat) (p0 : Ah) (p1 : Ae) : Option ((List Au) × (List Ae)) :=
 (Hy N p0 p1).bind fun v1 =>
 FG N p0 p1 v1 (fun (v3 : (List Au) × (List Ae)) =>
  some (v3.1, v3.2)) N (([] : List Au), ([] : List Ae), 0)
def Gk (_ : Nat) (p0 : Int) : Option Int :=
 Bb (fun (v1 : Int × Int) =>
  Bb (fun (v3 : Int × Int) =>
   (RJ ((⟨⟨(List.append (List.append [0, 1, 2, 2, 3, 3, 3, 3, 4, 4, 4, 4, 4, 4, 4, 4, 5, 5, 5, 5, 5, 5, 5, 5, 5, 5, 5, 5, 5, 5, 5, 5, 6, 6, 6, 6, 6, 6, 6, 6, 6, 6, 6, 6, 6, 6, 6, 6, 6, 6, 6, 6, 6, 6, 6, 6, 6, 6, 6, 6, 6, 6, 6, 6] [7, 7, 7, 7, 7, 7, 7, 7, 7, 7, 7, 7, 7, 7, 7, 7, 7, 7, 7, 7, 7, 7, 7, 7, 7, 7, 7, 7, 7, 7, 7, 7, 7, 7, 7, 7, 7, 7, 7, 7, 7, 7, 7, 7, 7, 7, 7, 7, 7, 7, 7, 7, 7, 7, 7, 7, 7, 7, 7, 7, 7, 7, 7, 7]) (List.append [8, 8, 8, 8, 8, 8, 8, 8, 8, 8, 8, 8, 8, 8, 8, 8, 8, 8, 8, 8, 8, 8, 8, 8, 8, 8, 8, 8, 8, 8, 8, 8, 8, 8, 8, 8, 8, 8, 8, 8, 8, 8, 8, 8, 8, 8, 8, 8, 8, 8, 8, 8, 8, 8, 8, 8, 8, 8, 8, 8, 8, 8, 8, 8] [8, 8, 8, 8, 8, 8, 8, 8, 8, 8, 8, 8, 8, 8, 8, 8, 8, 8, 8, 8, 8, 8, 8, 8, 8, 8, 8, 8, 8, 8, 8, 8, 8, 8, 8, 8, 8, 8, 8, 8, 8, 8, 8, 8, 8, 8, 8, 8, 8, 8, 8, 8, 8, 8, 8, 8, 8, 8, 8, 8, 8, 8, 8, 8]))⟩⟩ : ByteArray)) ((wI .u8 v3.1))).bind fun v5 =>
   some ((wI .i64 (v3.2 + (wI .i64 v5)))))
  fun j3 =>
  AV ((decide (256 ≤ v1.1)))
   (j3 ((D3 .u32 v1.1 8), (wI .i64 (v1.2 + 8))))
   (j3 (v1.1, v1.2)))
 fun j1 =>
 AV ((decide (65536 ≤ p0)))
  (j1 ((D3 .u32 p0 16), 16))
  (j1 (p0, 0))
def Gj (_ : Nat) (p0 : Int) : Option Int :=
 Bb (fun (v1 : Int × Int) =>
  Bb (fun (v3 : Int × Int) =>
   Bb (fun (v5 : Int × Int) =>
    (RJ ((⟨⟨(List.append (List.append [0, 1, 2, 2, 3, 3, 3, 3, 4, 4, 4, 4, 4, 4, 4, 4, 5, 5, 5, 5, 5, 5, 5, 5, 5, 5, 5, 5, 5, 5, 5, 5, 6, 6, 6, 6, 6, 6, 6, 6, 6, 6, 6, 6, 6, 6, 6, 6, 6, 6, 6, 6, 6, 6, 6, 6, 6, 6, 6, 6, 6, 6, 6, 6] [7, 7, 7, 7, 7, 7, 7, 7, 7, 7, 7, 7, 7, 7, 7, 7, 7, 7, 7, 7, 7, 7, 7, 7, 7, 7, 7, 7, 7, 7, 7, 7, 7, 7, 7, 7, 7, 7, 7, 7, 7, 7, 7, 7, 7, 7, 7, 7, 7, 7, 7, 7, 7, 7, 7, 7, 7, 7, 7, 7, 7, 7, 7, 7]) (List.append [8, 8, 8, 8, 8, 8, 8, 8, 8, 8, 8, 8, 8, 8, 8, 8, 8, 8, 8, 8, 8, 8, 8, 8, 8, 8, 8, 8, 8, 8, 8, 8, 8, 8, 8, 8, 8, 8, 8, 8, 8, 8, 8, 8, 8, 8, 8, 8, 8, 8, 8, 8, 8, 8, 8, 8, 8, 8, 8, 8, 8, 8, 8, 8] [8, 8, 8, 8, 8, 8, 8, 8, 8, 8, 8, 8, 8, 8, 8, 8, 8, 8, 8, 8, 8, 8, 8, 8, 8, 8, 8, 8, 8, 8, 8, 8, 8, 8, 8, 8, 8, 8, 8, 8, 8, 8, 8, 8, 8, 8, 8, 8, 8, 8, 8, 8, 8, 8, 8, 8, 8, 8, 8, 8, 8, 8, 8, 8]))⟩⟩ : ByteArray)) ((wI .u8 v5.1))).bind fun v7 =>
    some ((wI .i64 (v5.2 + (wI .i64 v7)))))
   fun j5 =>
   AV ((decide (256 ≤ v3.1)))
    (j5 ((D3 .u64 v3.1 8), (wI .i64 (v3.2 + 8))))
    (j5 (v3.1, v3.2)))
  fun j3 =>
  AV ((decide (65536 ≤ v1.1)))
   (j3 ((D3 .u64 v1.1 16), (wI .i64 (v1.2 + 16))))
   (j3 (v1.1, v1.2)))
 fun j1 =>
 AV ((decide (4294967296 ≤ p0)))
  (j1 ((D3 .u64 p0 32), 32))
  (j1 (p0, 0))
def Dl (N : Nat) (p0 : Int) : Option Int :=
 AV false
  ((Gk N ((wI .u32 p0))).bind fun v2 =>
  some v2)
  ((Gj N p0).bind fun v3 =>
  some v3)
variable {α : Type}
def Gs.insertionSort_L4 (N : Nat) (p1 : Int) (p3 : (α × α) → Option Int) (j4 : ((List α)) → Option ((List α))) : Nat → ((List α) × Int) → Option ((List α))
 | 0, _ => none
 | n4 + 1, v4 =>
  Bb (fun (v6 : Bool) =>
   AV v6
    ((A5 v4.1 ((wI .i64 (v4.2 - 1)))).bind fun v12 =>
    (A5 v4.1 v4.2).bind fun v13 =>
    (A5 v4.1 v4.2).bind fun _ =>
    (A5 (v4.1.set ((v4.2).toNat) v12) ((wI .i64 (v4.2 - 1)))).bind fun _ =>
    Gs.insertionSort_L4 N p1 p3 j4 n4 ((v4.1.set ((v4.2).toNat) v12).set (((wI .i64 (v4.2 - 1))).toNat) v13, (wI .i64 (v4.2 - 1))))
    (j4 v4.1))
  fun j6 =>
  AV ((decide (p1 < v4.2)))
   ((A5 v4.1 v4.2).bind fun v8 =>
   (A5 v4.1 ((wI .i64 (v4.2 - 1)))).bind fun v9 =>
   (p3 ((v8, v9))).bind fun v10 =>
   j6 (decide (v10 < 0)))
   (j6 false)
def Gs.insertionSort_L1 (N : Nat) (p1 : Int) (p2 : Int) (p3 : (α × α) → Option Int) (j1 : ((List α)) → Option ((List α))) : Nat → ((List α) × Int) → Option ((List α))
 | 0, _ => none
 | n1 + 1, v1 =>
  AV ((decide (v1.2 < p2)))
   (Gs.insertionSort_L4 N p1 p3 (fun (v5 : (List α)) =>
    Gs.insertionSort_L1 N p1 p2 p3 j1 n1 (v5, (wI .i64 (v1.2 + 1)))) N (v1.1, v1.2))
   (j1 v1.1)
def Gs.insertionSort (N : Nat) (p0 : List α) (p1 : Int) (p2 : Int) (p3 : (α × α) → Option Int) : Option ((List α)) :=
 Gs.insertionSort_L1 N p1 p2 p3 (fun (v2 : (List α)) =>
  some v2) N (p0, (wI .i64 (p1 + 1)))
def Gs.siftDown_L1 (N : Nat) (p2 : Int) (p3 : Int) (p4 : (α × α) → Option Int) (j1 : ((List α)) → Option ((List α))) : Nat → ((List α) × Int) → Option ((List α))
 | 0, _ => none
 | n1 + 1, v1 =>
  AV ((decide (p2 ≤ (wI .i64 ((wI .i64 (2 * v1.2)) + 1)))))
   (j1 v1.1)
   (Bb (fun (v4 : Int) =>
    (A5 v1.1 ((wI .i64 (p3 + v1.2)))).bind fun v11 =>
    (A5 v1.1 ((wI .i64 (p3 + v4)))).bind fun v12 =>
    (p4 ((v11, v12))).bind fun v13 =>
    AV ((!((decide (v13 < 0)))))
     (some v1.1)
     ((A5 v1.1 ((wI .i64 (p3 + v4)))).bind fun v15 =>
     (A5 v1.1 ((wI .i64 (p3 + v1.2)))).bind fun v16 =>
     (A5 v1.1 ((wI .i64 (p3 + v1.2)))).bind fun _ =>
     (A5 (v1.1.set (((wI .i64 (p3 + v1.2))).toNat) v15) ((wI .i64 (p3 + v4)))).bind fun _ =>
     Gs.siftDown_L1 N p2 p3 p4 j1 n1 ((v1.1.set (((wI .i64 (p3 + v1.2))).toNat) v15).set (((wI .i64 (p3 + v4))).toNat) v16, v4)))
   fun j4 =>
   Bb (fun (v5 : Bool) =>
    AV v5
     (j4 (wI .i64 ((wI .i64 ((wI .i64 (2 * v1.2)) + 1)) + 1)))
     (j4 (wI .i64 ((wI .i64 (2 * v1.2)) + 1))))
   fun j5 =>
   AV ((decide ((wI .i64 ((wI .i64 ((wI .i64 (2 * v1.2)) + 1)) + 1)) < p2)))
    ((A5 v1.1 ((wI .i64 (p3 + (wI .i64 ((wI .i64 (2 * v1.2)) + 1)))))).bind fun v7 =>
    (A5 v1.1 ((wI .i64 ((wI .i64 (p3 + (wI .i64 ((wI .i64 (2 * v1.2)) + 1)))) + 1)))).bind fun v8 =>
    (p4 ((v7, v8))).bind fun v9 =>
    j5 (decide (v9 < 0)))
    (j5 false))
def Gs.siftDown (N : Nat) (p0 : List α) (p1 : Int) (p2 : Int) (p3 : Int) (p4 : (α × α) → Option Int) : Option ((List α)) :=
 Gs.siftDown_L1 N p2 p3 p4 (fun (v2 : (List α)) =>
  some v2) N (p0, p1)
def Gs.heapSort_L1 (N : Nat) (p1 : Int) (p2 : Int) (p3 : (α × α) → Option Int) (j1 : ((List α)) → Option ((List α))) : Nat → ((List α) × Int) → Option ((List α))
 | 0, _ => none
 | n1 + 1, v1 =>
  AV ((decide (0 ≤ v1.2)))
   ((Gs.siftDown N v1.1 v1.2 ((wI .i64 (p2 - p1))) p1 p3).bind fun v4 =>
   Gs.heapSort_L1 N p1 p2 p3 j1 n1 (v4, (wI .i64 (v1.2 - 1))))
   (j1 v1.1)
def Gs.heapSort_L5 (N : Nat) (p1 : Int) (p3 : (α × α) → Option Int) (j5 : ((List α)) → Option ((List α))) : Nat → ((List α) × Int) → Option ((List α))
 | 0, _ => none
 | n5 + 1, v5 =>
  AV ((decide (0 ≤ v5.2)))
   ((A5 v5.1 ((wI .i64 (p1 + v5.2)))).bind fun v8 =>
   (A5 v5.1 p1).bind fun v9 =>
   (A5 v5.1 p1).bind fun _ =>
   (A5 (v5.1.set ((p1).toNat) v8) ((wI .i64 (p1 + v5.2)))).bind fun _ =>
   (Gs.siftDown N ((v5.1.set ((p1).toNat) v8).set (((wI .i64 (p1 + v5.2))).toNat) v9) 0 v5.2 p1 p3).bind fun v12 =>
   Gs.heapSort_L5 N p1 p3 j5 n5 (v12, (wI .i64 (v5.2 - 1))))
   (j5 v5.1)
def Gs.heapSort (N : Nat) (p0 : List α) (p1 : Int) (p2 : Int) (p3 : (α × α) → Option Int) : Option ((List α)) :=
 Gs.heapSort_L1 N p1 p2 p3 (fun (v2 : (List α)) =>
  Gs.heapSort_L5 N p1 p3 (fun (v6 : (List α)) =>
   some v6) N (v2, (wI .i64 ((wI .i64 (p2 - p1)) - 1)))) N (p0, (wI .i64 (Int.tdiv ((wI .i64 ((wI .i64 (p2 - p1)) - 1))) 2)))
def Dg (N : Nat) (p0 : Int) : Option Int :=
 (Dl N ((wI .u64 p0))).bind fun v1 =>
 (DE (0 ≤ v1)).bind fun _ =>
 some ((Cc .u64 1 v1))
def Dj (_ : Nat) (p0 : Int) : Option (Int × Int) :=
 some ((FZ .u64 ((FZ .u64 ((FZ .u64 p0 ((Cc .u64 p0 13)))) ((D3 .u64 ((FZ .u64 p0 ((Cc .u64 p0 13)))) 7)))) ((Cc .u64 ((FZ .u64 ((FZ .u64 p0 ((Cc .u64 p0 13)))) ((D3 .u64 ((FZ .u64 p0 ((Cc .u64 p0 13)))) 7)))) 17))), (FZ .u64 ((FZ .u64 ((FZ .u64 p0 ((Cc .u64 p0 13)))) ((D3 .u64 ((FZ .u64 p0 ((Cc .u64 p0 13)))) 7)))) ((Cc .u64 ((FZ .u64 ((FZ .u64 p0 ((Cc .u64 p0 13)))) ((D3 .u64 ((FZ .u64 p0 ((Cc .u64 p0 13)))) 7)))) 17))))
def Gs.breakPatterns_L3 (N : Nat) (p1 : Int) (p2 : Int) (v2 : Int) (j3 : ((List α)) → Option ((List α))) : Nat → ((List α) × Int × Int) → Option ((List α))
 | 0, _ => none
 | n3 + 1, v3 =>
  AV ((decide (v3.2.2 ≤ (wI .i64 ((wI .i64 (p1 + (wI .i64 ((wI .i64 (Int.tdiv ((wI .i64 (p2 - p1))) 4)) * 2)))) + 1)))))
   ((Dj N v3.2.1).bind fun v6 =>
   Bb (fun (v7 : Int) =>
    (A5 v3.1 ((wI .i64 (p1 + v7)))).bind fun v9 =>
    (A5 v3.1 v3.2.2).bind fun v10 =>
    (A5 v3.1 v3.2.2).bind fun _ =>
    (A5 (v3.1.set ((v3.2.2).toNat) v9) ((wI .i64 (p1 + v7)))).bind fun _ =>
    Gs.breakPatterns_L3 N p1 p2 v2 j3 n3 ((v3.1.set ((v3.2.2).toNat) v9).set (((wI .i64 (p1 + v7))).toNat) v10, v6.2, (wI .i64 (v3.2.2 + 1))))
   fun j7 =>
   AV ((decide ((wI .i64 (p2 - p1)) ≤ (wI .i64 ((Fp .u64 v6.1 ((wI .u64 (v2 - 1)))))))))
    (j7 (wI .i64 ((wI .i64 ((Fp .u64 v6.1 ((wI .u64 (v2 - 1)))))) - (wI .i64 (p2 - p1)))))
    (j7 (wI .i64 ((Fp .u64 v6.1 ((wI .u64 (v2 - 1))))))))
   (j3 v3.1)
def Gs.breakPatterns (N : Nat) (p0 : List α) (p1 : Int) (p2 : Int) (_ : (α × α) → Option Int) : Option ((List α)) :=
 AV ((decide (8 ≤ (wI .i64 (p2 - p1)))))
  ((Dg N ((wI .i64 (p2 - p1)))).bind fun v2 =>
  Gs.breakPatterns_L3 N p1 p2 v2 (fun (v4 : (List α)) =>
   some v4) N (p0, (wI .u64 ((wI .i64 (p2 - p1)))), (wI .i64 ((wI .i64 (p1 + (wI .i64 ((wI .i64 (Int.tdiv ((wI .i64 (p2 - p1))) 4)) * 2)))) - 1))))
  (some p0)
def Gs.order2 (_ : Nat) (p0 : List α) (p1 : Int) (p2 : Int) (p3 : Int) (p4 : (α × α) → Option Int) : Option (Int × Int × Int) :=
 (A5 p0 p2).bind fun v1 =>
 (A5 p0 p1).bind fun v2 =>
 (p4 ((v1, v2))).bind fun v3 =>
 AV ((decide (v3 < 0)))
  (some (p2, p1, (wI .i64 (p3 + 1))))
  (some (p1, p2, p3))
def Gs.median (N : Nat) (p0 : List α) (p1 : Int) (p2 : Int) (p3 : Int) (p4 : Int) (p5 : (α × α) → Option Int) : Option (Int × Int) :=
 (Gs.order2 N p0 p1 p2 p4 p5).bind fun v1 =>
 (Gs.order2 N p0 v1.2.1 p3 v1.2.2 p5).bind fun v2 =>
 (Gs.order2 N p0 v1.1 v2.1 v2.2.2 p5).bind fun v3 =>
 some (v3.2.1, v3.2.2)
def Gs.medianAdjacent (N : Nat) (p0 : List α) (p1 : Int) (p2 : Int) (p3 : (α × α) → Option Int) : Option (Int × Int) :=
 (Gs.median N p0 ((wI .i64 (p1 - 1))) p1 ((wI .i64 (p1 + 1))) p2 p3).bind fun v1 =>
 some (v1.1, v1.2)
def Gs.choosePivot (N : Nat) (p0 : List α) (p1 : Int) (p2 : Int) (p3 : (α × α) → Option Int) : Option (Int × Int) :=
 Bb (fun (v1 : Int × Int) =>
  AV ((v1.1 == 0))
   (some (v1.2, 1))
   (AV ((v1.1 == 12))
    (some (v1.2, 2))
    (some (v1.2, 0))))
 fun j1 =>
 AV ((decide (8 ≤ (wI .i64 (p2 - p1)))))
  (Bb (fun (v3 : Int × Int × Int × Int) =>
   (Gs.median N p0 v3.2.1 v3.2.2.1 v3.2.2.2 v3.1 p3).bind fun v8 =>
   j1 (v8.2, v8.1))
  fun j3 =>
  AV ((decide (50 ≤ (wI .i64 (p2 - p1)))))
   ((Gs.medianAdjacent N p0 ((wI .i64 (p1 + (wI .i64 ((wI .i64 (Int.tdiv ((wI .i64 (p2 - p1))) 4)) * 1))))) 0 p3).bind fun v5 =>
   (Gs.medianAdjacent N p0 ((wI .i64 (p1 + (wI .i64 ((wI .i64 (Int.tdiv ((wI .i64 (p2 - p1))) 4)) * 2))))) v5.2 p3).bind fun v6 =>
   (Gs.medianAdjacent N p0 ((wI .i64 (p1 + (wI .i64 ((wI .i64 (Int.tdiv ((wI .i64 (p2 - p1))) 4)) * 3))))) v6.2 p3).bind fun v7 =>
   j3 (v7.2, v5.1, v6.1, v7.1))
   (j3 (0, (wI .i64 (p1 + (wI .i64 ((wI .i64 (Int.tdiv ((wI .i64 (p2 - p1))) 4)) * 1)))), (wI .i64 (p1 + (wI .i64 ((wI .i64 (Int.tdiv ((wI .i64 (p2 - p1))) 4)) * 2)))), (wI .i64 (p1 + (wI .i64 ((wI .i64 (Int.tdiv ((wI .i64 (p2 - p1))) 4)) * 3)))))))
  (j1 (0, (wI .i64 (p1 + (wI .i64 ((wI .i64 (Int.tdiv ((wI .i64 (p2 - p1))) 4)) * 2))))))
def Gs.reverseRange_L1 (N : Nat) (j1 : ((List α)) → Option ((List α))) : Nat → ((List α) × Int × Int) → Option ((List α))
 | 0, _ => none
 | n1 + 1, v1 =>
  AV ((decide (v1.2.1 < v1.2.2)))
   ((A5 v1.1 v1.2.2).bind fun v4 =>
   (A5 v1.1 v1.2.1).bind fun v5 =>
   (A5 v1.1 v1.2.1).bind fun _ =>
   (A5 (v1.1.set ((v1.2.1).toNat) v4) v1.2.2).bind fun _ =>
   Gs.reverseRange_L1 N j1 n1 ((v1.1.set ((v1.2.1).toNat) v4).set ((v1.2.2).toNat) v5, (wI .i64 (v1.2.1 + 1)), (wI .i64 (v1.2.2 - 1))))
   (j1 v1.1)
def Gs.reverseRange (N : Nat) (p0 : List α) (p1 : Int) (p2 : Int) (_ : (α × α) → Option Int) : Option ((List α)) :=
 Gs.reverseRange_L1 N (fun (v2 : (List α)) =>
  some v2) N (p0, p1, (wI .i64 (p2 - 1)))
def Gs.partialInsertionSort_L5 (N : Nat) (p2 : Int) (p3 : (α × α) → Option Int) (v1 : (List α) × Int × Int) (j5 : Int → Option (Bool × (List α))) : Nat → Int → Option (Bool × (List α))
 | 0, _ => none
 | n5 + 1, v5 =>
  Bb (fun (v7 : Bool) =>
   AV v7
    (Gs.partialInsertionSort_L5 N p2 p3 v1 j5 n5 (wI .i64 (v5 + 1)))
    (j5 v5))
  fun j7 =>
  AV ((decide (v5 < p2)))
   ((A5 v1.1 v5).bind fun v9 =>
   (A5 v1.1 ((wI .i64 (v5 - 1)))).bind fun v10 =>
   (p3 ((v9, v10))).bind fun v11 =>
   j7 (!((decide (v11 < 0)))))
   (j7 false)
def Gs.partialInsertionSort_L21 (N : Nat) (p3 : (α × α) → Option Int) (j21 : ((List α)) → Option (Bool × (List α))) : Nat → ((List α) × Int) → Option (Bool × (List α))
 | 0, _ => none
 | n21 + 1, v21 =>
  AV ((decide (1 ≤ v21.2)))
   ((A5 v21.1 v21.2).bind fun v24 =>
   (A5 v21.1 ((wI .i64 (v21.2 - 1)))).bind fun v25 =>
   (p3 ((v24, v25))).bind fun v26 =>
   AV ((!((decide (v26 < 0)))))
    (j21 v21.1)
    ((A5 v21.1 ((wI .i64 (v21.2 - 1)))).bind fun v28 =>
    (A5 v21.1 v21.2).bind fun v29 =>
    (A5 v21.1 v21.2).bind fun _ =>
    (A5 (v21.1.set ((v21.2).toNat) v28) ((wI .i64 (v21.2 - 1)))).bind fun _ =>
    Gs.partialInsertionSort_L21 N p3 j21 n21 ((v21.1.set ((v21.2).toNat) v28).set (((wI .i64 (v21.2 - 1))).toNat) v29, (wI .i64 (v21.2 - 1)))))
   (j21 v21.1)
def Gs.partialInsertionSort_L33 (N : Nat) (p2 : Int) (p3 : (α × α) → Option Int) (j33 : ((List α)) → Option (Bool × (List α))) : Nat → ((List α) × Int) → Option (Bool × (List α))
 | 0, _ => none
 | n33 + 1, v33 =>
  AV ((decide (v33.2 < p2)))
   ((A5 v33.1 v33.2).bind fun v36 =>
   (A5 v33.1 ((wI .i64 (v33.2 - 1)))).bind fun v37 =>
   (p3 ((v36, v37))).bind fun v38 =>
   AV ((!((decide (v38 < 0)))))
    (j33 v33.1)
    ((A5 v33.1 ((wI .i64 (v33.2 - 1)))).bind fun v40 =>
    (A5 v33.1 v33.2).bind fun v41 =>
    (A5 v33.1 v33.2).bind fun _ =>
    (A5 (v33.1.set ((v33.2).toNat) v40) ((wI .i64 (v33.2 - 1)))).bind fun _ =>
    Gs.partialInsertionSort_L33 N p2 p3 j33 n33 ((v33.1.set ((v33.2).toNat) v40).set (((wI .i64 (v33.2 - 1))).toNat) v41, (wI .i64 (v33.2 + 1)))))
   (j33 v33.1)
def Gs.partialInsertionSort_L1 (N : Nat) (p1 : Int) (p2 : Int) (p3 : (α × α) → Option Int) (j1 : ((List α)) → Option (Bool × (List α))) : Nat → ((List α) × Int × Int) → Option (Bool × (List α))
 | 0, _ => none
 | n1 + 1, v1 =>
  AV ((decide (v1.2.2 < 5)))
   (Bb (fun (v4 : (List α) × Int) =>
    Gs.partialInsertionSort_L1 N p1 p2 p3 j1 n1 (v4.1, v4.2, (wI .i64 (v1.2.2 + 1))))
   fun j4 =>
   Gs.partialInsertionSort_L5 N p2 p3 v1 (fun (v6 : Int) =>
    AV ((v6 == p2))
     (some (true, v1.1))
     (AV ((decide ((wI .i64 (p2 - p1)) < 50)))
      (some (false, v1.1))
      ((A5 v1.1 ((wI .i64 (v6 - 1)))).bind fun v15 =>
      (A5 v1.1 v6).bind fun v16 =>
      (A5 v1.1 v6).bind fun _ =>
      (A5 (v1.1.set ((v6).toNat) v15) ((wI .i64 (v6 - 1)))).bind fun _ =>
      Bb (fun (v19 : (List α)) =>
       AV ((decide (2 ≤ (wI .i64 (p2 - v6)))))
        (Gs.partialInsertionSort_L33 N p2 p3 (fun (v34 : (List α)) =>
         j4 (v34, v6)) N (v19, (wI .i64 (v6 + 1))))
        (j4 (v19, v6)))
      fun j19 =>
      AV ((decide (2 ≤ (wI .i64 (v6 - p1)))))
       (Gs.partialInsertionSort_L21 N p3 (fun (v22 : (List α)) =>
        j19 v22) N ((v1.1.set ((v6).toNat) v15).set (((wI .i64 (v6 - 1))).toNat) v16, (wI .i64 (v6 - 1))))
       (j19 ((v1.1.set ((v6).toNat) v15).set (((wI .i64 (v6 - 1))).toNat) v16))))) N v1.2.1)
   (j1 v1.1)
def Gs.partialInsertionSort (N : Nat) (p0 : List α) (p1 : Int) (p2 : Int) (p3 : (α × α) → Option Int) : Option (Bool × (List α)) :=
 Gs.partialInsertionSort_L1 N p1 p2 p3 (fun (v2 : (List α)) =>
  some (false, v2)) N (p0, (wI .i64 (p1 + 1)), 0)
def Gs.partitionEqual_L7 (N : Nat) (p1 : Int) (p4 : (α × α) → Option Int) (v5 : (List α) × Int × Int) (j7 : Int → Option (Int × (List α))) : Nat → Int → Option (Int × (List α))
 | 0, _ => none
 | n7 + 1, v7 =>
  Bb (fun (v9 : Bool) =>
   AV v9
    (Gs.partitionEqual_L7 N p1 p4 v5 j7 n7 (wI .i64 (v7 + 1)))
    (j7 v7))
  fun j9 =>
  AV ((decide (v7 ≤ v5.2.2)))
   ((A5 v5.1 p1).bind fun v11 =>
   (A5 v5.1 v7).bind fun v12 =>
   (p4 ((v11, v12))).bind fun v13 =>
   j9 (!((decide (v13 < 0)))))
   (j9 false)
def Gs.partitionEqual_L15 (N : Nat) (p1 : Int) (p4 : (α × α) → Option Int) (v5 : (List α) × Int × Int) (v8 : Int) (j15 : Int → Option (Int × (List α))) : Nat → Int → Option (Int × (List α))
 | 0, _ => none
 | n15 + 1, v15 =>
  Bb (fun (v17 : Bool) =>
   AV v17
    (Gs.partitionEqual_L15 N p1 p4 v5 v8 j15 n15 (wI .i64 (v15 - 1)))
    (j15 v15))
  fun j17 =>
  AV ((decide (v8 ≤ v15)))
   ((A5 v5.1 p1).bind fun v19 =>
   (A5 v5.1 v15).bind fun v20 =>
   (p4 ((v19, v20))).bind fun v21 =>
   j17 (decide (v21 < 0)))
   (j17 false)
def Gs.partitionEqual_L5 (N : Nat) (p1 : Int) (p4 : (α × α) → Option Int) (j5 : ((List α) × Int) → Option (Int × (List α))) : Nat → ((List α) × Int × Int) → Option (Int × (List α))
 | 0, _ => none
 | n5 + 1, v5 =>
  Gs.partitionEqual_L7 N p1 p4 v5 (fun (v8 : Int) =>
   Gs.partitionEqual_L15 N p1 p4 v5 v8 (fun (v16 : Int) =>
    AV ((decide (v16 < v8)))
     (j5 (v5.1, v8))
     ((A5 v5.1 v16).bind fun v24 =>
     (A5 v5.1 v8).bind fun v25 =>
     (A5 v5.1 v8).bind fun _ =>
     (A5 (v5.1.set ((v8).toNat) v24) v16).bind fun _ =>
     Gs.partitionEqual_L5 N p1 p4 j5 n5 ((v5.1.set ((v8).toNat) v24).set ((v16).toNat) v25, (wI .i64 (v8 + 1)), (wI .i64 (v16 - 1))))) N v5.2.2) N v5.2.1
def Gs.partitionEqual (N : Nat) (p0 : List α) (p1 : Int) (p2 : Int) (p3 : Int) (p4 : (α × α) → Option Int) : Option (Int × (List α)) :=
 (A5 p0 p3).bind fun v1 =>
 (A5 p0 p1).bind fun v2 =>
 (A5 p0 p1).bind fun _ =>
 (A5 (p0.set ((p1).toNat) v1) p3).bind fun _ =>
 Gs.partitionEqual_L5 N p1 p4 (fun (v6 : (List α) × Int) =>
  some (v6.2, v6.1)) N ((p0.set ((p1).toNat) v1).set ((p3).toNat) v2, (wI .i64 (p1 + 1)), (wI .i64 (p2 - 1)))
def Gs.partition_L5 (N : Nat) (p0 : List α) (p1 : Int) (p2 : Int) (p3 : Int) (p4 : (α × α) → Option Int) (v1 : α) (v2 : α) (j5 : Int → Option (Int × Bool × (List α))) : Nat → Int → Option (Int × Bool × (List α))
 | 0, _ => none
 | n5 + 1, v5 =>
  Bb (fun (v7 : Bool) =>
   AV v7
    (Gs.partition_L5 N p0 p1 p2 p3 p4 v1 v2 j5 n5 (wI .i64 (v5 + 1)))
    (j5 v5))
  fun j7 =>
  AV ((decide (v5 ≤ (wI .i64 (p2 - 1)))))
   ((A5 ((p0.set ((p1).toNat) v1).set ((p3).toNat) v2) v5).bind fun v9 =>
   (A5 ((p0.set ((p1).toNat) v1).set ((p3).toNat) v2) p1).bind fun v10 =>
   (p4 ((v9, v10))).bind fun v11 =>
   j7 (decide (v11 < 0)))
   (j7 false)
def Gs.partition_L13 (N : Nat) (p0 : List α) (p1 : Int) (p3 : Int) (p4 : (α × α) → Option Int) (v1 : α) (v2 : α) (v6 : Int) (j13 : Int → Option (Int × Bool × (List α))) : Nat → Int → Option (Int × Bool × (List α))
 | 0, _ => none
 | n13 + 1, v13 =>
  Bb (fun (v15 : Bool) =>
   AV v15
    (Gs.partition_L13 N p0 p1 p3 p4 v1 v2 v6 j13 n13 (wI .i64 (v13 - 1)))
    (j13 v13))
  fun j15 =>
  AV ((decide (v6 ≤ v13)))
   ((A5 ((p0.set ((p1).toNat) v1).set ((p3).toNat) v2) v13).bind fun v17 =>
   (A5 ((p0.set ((p1).toNat) v1).set ((p3).toNat) v2) p1).bind fun v18 =>
   (p4 ((v17, v18))).bind fun v19 =>
   j15 (!((decide (v19 < 0)))))
   (j15 false)
def Gs.partition_L32 (N : Nat) (p1 : Int) (p4 : (α × α) → Option Int) (v30 : (List α) × Int × Int) (j32 : Int → Option (Int × Bool × (List α))) : Nat → Int → Option (Int × Bool × (List α))
 | 0, _ => none
 | n32 + 1, v32 =>
  Bb (fun (v34 : Bool) =>
   AV v34
    (Gs.partition_L32 N p1 p4 v30 j32 n32 (wI .i64 (v32 + 1)))
    (j32 v32))
  fun j34 =>
  AV ((decide (v32 ≤ v30.2.2)))
   ((A5 v30.1 v32).bind fun v36 =>
   (A5 v30.1 p1).bind fun v37 =>
   (p4 ((v36, v37))).bind fun v38 =>
   j34 (decide (v38 < 0)))
   (j34 false)
def Gs.partition_L40 (N : Nat) (p1 : Int) (p4 : (α × α) → Option Int) (v30 : (List α) × Int × Int) (v33 : Int) (j40 : Int → Option (Int × Bool × (List α))) : Nat → Int → Option (Int × Bool × (List α))
 | 0, _ => none
 | n40 + 1, v40 =>
  Bb (fun (v42 : Bool) =>
   AV v42
    (Gs.partition_L40 N p1 p4 v30 v33 j40 n40 (wI .i64 (v40 - 1)))
    (j40 v40))
  fun j42 =>
  AV ((decide (v33 ≤ v40)))
   ((A5 v30.1 v40).bind fun v44 =>
   (A5 v30.1 p1).bind fun v45 =>
   (p4 ((v44, v45))).bind fun v46 =>
   j42 (!((decide (v46 < 0)))))
   (j42 false)
def Gs.partition_L30 (N : Nat) (p1 : Int) (p4 : (α × α) → Option Int) (j30 : ((List α) × Int) → Option (Int × Bool × (List α))) : Nat → ((List α) × Int × Int) → Option (Int × Bool × (List α))
 | 0, _ => none
 | n30 + 1, v30 =>
  Gs.partition_L32 N p1 p4 v30 (fun (v33 : Int) =>
   Gs.partition_L40 N p1 p4 v30 v33 (fun (v41 : Int) =>
    AV ((decide (v41 < v33)))
     (j30 (v30.1, v41))
     ((A5 v30.1 v41).bind fun v49 =>
     (A5 v30.1 v33).bind fun v50 =>
     (A5 v30.1 v33).bind fun _ =>
     (A5 (v30.1.set ((v33).toNat) v49) v41).bind fun _ =>
     Gs.partition_L30 N p1 p4 j30 n30 ((v30.1.set ((v33).toNat) v49).set ((v41).toNat) v50, (wI .i64 (v33 + 1)), (wI .i64 (v41 - 1))))) N v30.2.2) N v30.2.1
def Gs.partition (N : Nat) (p0 : List α) (p1 : Int) (p2 : Int) (p3 : Int) (p4 : (α × α) → Option Int) : Option (Int × Bool × (List α)) :=
 (A5 p0 p3).bind fun v1 =>
 (A5 p0 p1).bind fun v2 =>
 (A5 p0 p1).bind fun _ =>
 (A5 (p0.set ((p1).toNat) v1) p3).bind fun _ =>
 Gs.partition_L5 N p0 p1 p2 p3 p4 v1 v2 (fun (v6 : Int) =>
  Gs.partition_L13 N p0 p1 p3 p4 v1 v2 v6 (fun (v14 : Int) =>
   AV ((decide (v14 < v6)))
    ((A5 ((p0.set ((p1).toNat) v1).set ((p3).toNat) v2) p1).bind fun v22 =>
    (A5 ((p0.set ((p1).toNat) v1).set ((p3).toNat) v2) v14).bind fun v23 =>
    (A5 ((p0.set ((p1).toNat) v1).set ((p3).toNat) v2) v14).bind fun _ =>
    (A5 (((p0.set ((p1).toNat) v1).set ((p3).toNat) v2).set ((v14).toNat) v22) p1).bind fun _ =>
    some (v14, true, (((p0.set ((p1).toNat) v1).set ((p3).toNat) v2).set ((v14).toNat) v22).set ((p1).toNat) v23))
    ((A5 ((p0.set ((p1).toNat) v1).set ((p3).toNat) v2) v14).bind fun v26 =>
    (A5 ((p0.set ((p1).toNat) v1).set ((p3).toNat) v2) v6).bind fun v27 =>
    (A5 ((p0.set ((p1).toNat) v1).set ((p3).toNat) v2) v6).bind fun _ =>
    (A5 (((p0.set ((p1).toNat) v1).set ((p3).toNat) v2).set ((v6).toNat) v26) v14).bind fun _ =>
    Gs.partition_L30 N p1 p4 (fun (v31 : (List α) × Int) =>
     (A5 v31.1 p1).bind fun v53 =>
     (A5 v31.1 v31.2).bind fun v54 =>
     (A5 v31.1 v31.2).bind fun _ =>
     (A5 (v31.1.set ((v31.2).toNat) v53) p1).bind fun _ =>
     some (v31.2, false, (v31.1.set ((v31.2).toNat) v53).set ((p1).toNat) v54)) N ((((p0.set ((p1).toNat) v1).set ((p3).toNat) v2).set ((v6).toNat) v26).set ((v14).toNat) v27, (wI .i64 (v6 + 1)), (wI .i64 (v14 - 1))))) N (wI .i64 (p2 - 1))) N (wI .i64 (p1 + 1))
def Gs.pdqsort_L1 (N : Nat) (p4 : (α × α) → Option Int) (rc : (List α) → Int → Int → Int → ((α × α) → Option Int) → Option ((List α))) (j1 : Unit → Option ((List α))) : Nat → ((List α) × Int × Int × Int × Bool × Bool) → Option ((List α))
 | 0, _ => none
 | n1 + 1, v1 =>
  AV ((decide ((wI .i64 (v1.2.2.1 - v1.2.1)) ≤ 12)))
   ((Gs.insertionSort N v1.1 v1.2.1 v1.2.2.1 p4).bind fun v4 =>
   some v4)
   (AV ((v1.2.2.2.1 == 0))
    ((Gs.heapSort N v1.1 v1.2.1 v1.2.2.1 p4).bind fun v6 =>
    some v6)
    (Bb (fun (v7 : (List α) × Int) =>
     (Gs.choosePivot N v7.1 v1.2.1 v1.2.2.1 p4).bind fun v10 =>
     Bb (fun (v11 : (List α) × Int × Int) =>
      Bb (fun (v14 : (List α)) =>
       Bb (fun (v21 : Bool) =>
        AV v21
         ((Gs.partitionEqual N v14 v1.2.1 v1.2.2.1 v11.2.1 p4).bind fun v27 =>
         Gs.pdqsort_L1 N p4 rc j1 n1 (v27.2, v27.1, v1.2.2.1, v7.2, v1.2.2.2.2.1, v1.2.2.2.2.2))
         ((Gs.partition N v14 v1.2.1 v1.2.2.1 v11.2.1 p4).bind fun v28 =>
         AV ((decide ((wI .i64 (v28.1 - v1.2.1)) < (wI .i64 (v1.2.2.1 - v28.1)))))
          ((rc v28.2.2 v1.2.1 v28.1 v7.2 p4).bind fun v30 =>
          Gs.pdqsort_L1 N p4 rc j1 n1 (v30, (wI .i64 (v28.1 + 1)), v1.2.2.1, v7.2, (decide ((wI .i64 (Int.tdiv ((wI .i64 (v1.2.2.1 - v1.2.1))) 8)) ≤ (wI .i64 (v28.1 - v1.2.1)))), v28.2.1))
          ((rc v28.2.2 ((wI .i64 (v28.1 + 1))) v1.2.2.1 v7.2 p4).bind fun v31 =>
          Gs.pdqsort_L1 N p4 rc j1 n1 (v31, v1.2.1, v28.1, v7.2, (decide ((wI .i64 (Int.tdiv ((wI .i64 (v1.2.2.1 - v1.2.1))) 8)) ≤ (wI .i64 (v1.2.2.1 - v28.1)))), v28.2.1))))
       fun j21 =>
       AV ((decide (0 < v1.2.1)))
        ((A5 v14 ((wI .i64 (v1.2.1 - 1)))).bind fun v23 =>
        (A5 v14 v11.2.1).bind fun v24 =>
        (p4 ((v23, v24))).bind fun v25 =>
        j21 (!((decide (v25 < 0)))))
        (j21 false))
      fun j14 =>
      Bb (fun (v15 : Bool) =>
       AV v15
        ((Gs.partialInsertionSort N v11.1 v1.2.1 v1.2.2.1 p4).bind fun v19 =>
        AV v19.1
         (some v19.2)
         (j14 v19.2))
        (j14 v11.1))
      fun j15 =>
      AV v1.2.2.2.2.1
       (AV v1.2.2.2.2.2
        (j15 (v11.2.2 == 1))
        (j15 false))
       (j15 false))
     fun j11 =>
     AV ((v10.2 == 2))
      ((Gs.reverseRange N v7.1 v1.2.1 v1.2.2.1 p4).bind fun v13 =>
      j11 (v13, (wI .i64 ((wI .i64 (v1.2.2.1 - 1)) - (wI .i64 (v10.1 - v1.2.1)))), 1))
      (j11 (v7.1, v10.1, v10.2)))
    fun j7 =>
    AV ((!v1.2.2.2.2.1))
     ((Gs.breakPatterns N v1.1 v1.2.1 v1.2.2.1 p4).bind fun v9 =>
     j7 (v9, (wI .i64 (v1.2.2.2.1 - 1))))
     (j7 (v1.1, v1.2.2.2.1))))
def Gs.pdqsort_B (N : Nat) (rc : (List α) → Int → Int → Int → ((α × α) → Option Int) → Option ((List α))) (p0 : List α) (p1 : Int) (p2 : Int) (p3 : Int) (p4 : (α × α) → Option Int) : Option ((List α)) :=
 Gs.pdqsort_L1 N p4 rc (fun (_ : Unit) =>
  none) N (p0, p1, p2, p3, true, true)
def Gs.pdqsort_R (N : Nat) : Nat → (List α) → Int → Int → Int → ((α × α) → Option Int) → Option ((List α))
 | 0, _, _, _, _, _ => none
 | k + 1, p0, p1, p2, p3, p4 => Gs.pdqsort_B N (Gs.pdqsort_R N k) p0 p1 p2 p3 p4
def Gs.pdqsort (N : Nat) (p0 : List α) (p1 : Int) (p2 : Int) (p3 : Int) (p4 : (α × α) → Option Int) : Option ((List α)) := Gs.pdqsort_R N N p0 p1 p2 p3 p4
def Bk (N : Nat) (p0 : List Ae) (p1 : (Ae × Ae) → Option Int) : Option ((List Ae)) :=
 (Dl N ((wI .u64 ((p0.length : Int))))).bind fun v1 =>
 (Gs.pdqsort N p0 0 ((p0.length : Int)) v1 p1).bind fun v2 =>
 some v2
def E7 (_ : Nat) (p0 : Int) : Option Bool :=
 some ((p0 != p0))
def EB (N : Nat) (p0 : Int) (p1 : Int) : Option Int :=
 (E7 N p0).bind fun v1 =>
 (E7 N p1).bind fun v2 =>
 AV v1
  (AV v2
   (some 0)
   (some ((-1))))
  (AV v2
   (some 1)
   (AV ((decide (p0 < p1)))
    (some ((-1)))
    (AV ((decide (p1 < p0)))
     (some 1)
     (some 0))))
def B4 (N : Nat) (p0 : List Int) (p1 : List Int) (j1 : Unit → Option Int) : Nat → Int → Option Int
 | 0, _ => none
 | n1 + 1, v1 =>
  AV ((decide (v1 < (p0.length : Int))))
   ((A5 p0 v1).bind fun v4 =>
   AV ((decide ((p1.length : Int) ≤ v1)))
    (some 1)
    ((A5 p1 v1).bind fun v6 =>
    (EB N v4 v6).bind fun v7 =>
    AV ((v7 != 0))
     (some v7)
     (B4 N p0 p1 j1 n1 (wI .i64 (v1 + 1)))))
   (j1 ())
def Ct (N : Nat) (p0 : List Int) (p1 : List Int) : Option Int :=
 B4 N p0 p1 (fun (_ : Unit) =>
  AV ((decide ((p0.length : Int) < (p1.length : Int))))
   (some ((-1)))
   (some 0)) N 0
def Ef (_ : Nat) (p0 : Int) : Option Bool :=
 some ((p0 != p0))
def Dy (N : Nat) (p0 : Int) (p1 : Int) : Option Int :=
 (Ef N p0).bind fun v1 =>
 (Ef N p1).bind fun v2 =>
 AV v1
  (AV v2
   (some 0)
   (some ((-1))))
  (AV v2
   (some 1)
   (AV ((decide (p0 < p1)))
    (some ((-1)))
    (AV ((decide (p1 < p0)))
     (some 1)
     (some 0))))
def Br (N : Nat) (p0 : List Int) (p1 : List Int) (j1 : Unit → Option Int) : Nat → Int → Option Int
 | 0, _ => none
 | n1 + 1, v1 =>
  AV ((decide (v1 < (p0.length : Int))))
   ((A5 p0 v1).bind fun v4 =>
   AV ((decide ((p1.length : Int) ≤ v1)))
    (some 1)
    ((A5 p1 v1).bind fun v6 =>
    (Dy N v4 v6).bind fun v7 =>
    AV ((v7 != 0))
     (some v7)
     (Br N p0 p1 j1 n1 (wI .i64 (v1 + 1)))))
   (j1 ())
def B1 (N : Nat) (p0 : List Int) (p1 : List Int) : Option Int :=
 Br N p0 p1 (fun (_ : Unit) =>
  AV ((decide ((p0.length : Int) < (p1.length : Int))))
   (some ((-1)))
   (some 0)) N 0
def Es (N : Nat) (p0 : List Int) (j1 : Unit → Option Int) : Nat → Int → Option Int
 | 0, _ => none
 | n1 + 1, v1 =>
  AV ((decide (v1 < (p0.length : Int))))
   ((A5 p0 v1).bind fun v4 =>
   AV ((v4 != 0))
    (some v4)
    (Es N p0 j1 n1 (wI .i64 (v1 + 1))))
   (j1 ())
def F1 (N : Nat) (p0 : List Int) : Option Int :=
 Es N p0 (fun (_ : Unit) =>
  some 0) N 0
def Cl (N : Nat) (p0 : Ae) (p1 : Ae) : Option Int :=
 (Ct N p0.fBase p1.fBase).bind fun v1 =>
 (Ct N p0.fNext p1.fNext).bind fun v2 =>
 (B1 N p0.fHeld p1.fHeld).bind fun v3 =>
 (F1 N (([v1, v2, v3] : List Int))).bind fun v4 =>
 some v4
def E2 (N : Nat) (v10 : (List Au) × (List Ae)) (j11 : ((List Ae) × (List (ByteArray × Bool))) → Option ((List Ae) × Int)) : Nat → ((List Ae) × (List (ByteArray × Bool)) × Int) → Option ((List Ae) × Int)
 | 0, _ => none
 | n11 + 1, v11 =>
  AV ((decide (v11.2.2 < (v10.2.length : Int))))
   (Bb (fun (v14 : (List Ae) × (List (ByteArray × Bool))) =>
    E2 N v10 j11 n11 (v14.1, v14.2, (wI .i64 (v11.2.2 + 1))))
   fun j14 =>
   (A5 v10.2 v11.2.2).bind fun v15 =>
   (GF N v15).bind fun v16 =>
   AV ((!(((KV v16 v11.2.1).getD false))))
    ((GF N v15).bind fun v18 =>
    (DE (v11.1.length + (([v15] : List Ae)).length ≤ Dw)).bind fun _ =>
    j14 (v11.1 ++ (([v15] : List Ae)), Lg v18 true v11.2.1))
    (j14 (v11.1, v11.2.1)))
   (j11 (v11.1, v11.2.1))
def Fk (N : Nat) (p0 : Ah) (j6 : ((List Ae)) → Option ((List Ae) × Int)) : Nat → ((List Ae) × (List (ByteArray × Bool)) × Int) → Option ((List Ae) × Int)
 | 0, _ => none
 | n6 + 1, v6 =>
  AV ((decide (v6.2.2 < (v6.1.length : Int))))
   ((A5 v6.1 v6.2.2).bind fun v9 =>
   (Hi N p0 v9).bind fun v10 =>
   E2 N v10 (fun (v12 : (List Ae) × (List (ByteArray × Bool))) =>
    AV ((decide (20000 < (v12.1.length : Int))))
     (some (([] : List Ae), 3))
     (Fk N p0 j6 n6 (v12.1, v12.2, (wI .i64 (v6.2.2 + 1))))) N (v6.1, v6.2.1, 0))
   (j6 v6.1)
def Ga (N : Nat) (p0 : Ah) : Option ((List Ae) × Int) :=
 (GR N p0).bind fun v1 =>
 Bb (fun (v2 : Bool) =>
  AV v2
   (some (([] : List Ae), v1.2.2))
   ((GF N v1.1).bind fun v5 =>
   Fk N p0 (fun (v7 : (List Ae)) =>
    (Bk N v7 ((fun (x : Ae × Ae) => Cl N x.1 x.2))).bind fun v21 =>
    some (v21, 0)) N (([v1.1] : List Ae), Lg v5 true (([] : List (ByteArray × Bool))), 0)))
 fun j2 =>
 AV ((v1.2.2 != 0))
  (j2 true)
  (j2 (!v1.2.1))
def FL (N : Nat) (p0 : Ah) (p1 : List Int) (j5 : ((List Au)) → Option ((List Au) × Int)) : Nat → ((List Int) × (List Int) × (List Int) × (List Au) × Int) → Option ((List Au) × Int)
 | 0, _ => none
 | n5 + 1, v5 =>
  AV ((decide (v5.2.2.2.2 < (p1.length : Int))))
   ((A5 p1 v5.2.2.2.2).bind fun v8 =>
   (Hi N p0 ((Ae.mk v5.1 v5.2.1 v5.2.2.1))).bind fun v9 =>
   AV (((v9.1.length : Int) == 0))
    (j5 v5.2.2.2.1)
    ((DE ((v9.1.length : Int) ≠ 0)).bind fun _ =>
    (A5 v9.1 ((Int.tmod ((wI .i64 v8)) ((v9.1.length : Int))))).bind fun v12 =>
    (DE (v5.2.2.2.1.length + (([v12] : List Au)).length ≤ Dw)).bind fun _ =>
    (A5 v9.2 ((Int.tmod ((wI .i64 v8)) ((v9.1.length : Int))))).bind fun v14 =>
    FL N p0 p1 j5 n5 (v14.fBase, v14.fNext, v14.fHeld, v5.2.2.2.1 ++ (([v12] : List Au)), (wI .i64 (v5.2.2.2.2 + 1)))))
   (j5 v5.2.2.2.1)
def Iu (N : Nat) (p0 : Ah) (p1 : List Int) : Option ((List Au) × Int) :=
 (GR N p0).bind fun v1 =>
 Bb (fun (v2 : Bool) =>
  AV v2
   (some (([] : List Au), v1.2.2))
   (FL N p0 p1 (fun (v6 : (List Au)) =>
    some (v6, 0)) N (v1.1.fBase, v1.1.fNext, v1.1.fHeld, ([] : List Au), 0)))
 fun j2 =>
 AV ((v1.2.2 != 0))
  (j2 true)
  (j2 (!v1.2.1))
def E9 (N : Nat) (p0 : Ah) (p2 : List Au) (j4 : ((List Ae)) → Option ((List Ae) × Int × Int)) : Nat → ((List Ae) × Int) → Option ((List Ae) × Int × Int)
 | 0, _ => none
 | n4 + 1, v4 =>
  AV ((decide (v4.2 < (p2.length : Int))))
   ((A5 p2 v4.2).bind fun v7 =>
   (A5 v4.1 v4.2).bind fun v8 =>
   (Ft N p0 v8 v7).bind fun v9 =>
   AV ((v9.2 != 0))
    (some (([] : List Ae), v4.2, v9.2))
    ((DE (v4.1.length + (([v9.1] : List Ae)).length ≤ Dw)).bind fun _ =>
    E9 N p0 p2 j4 n4 (v4.1 ++ (([v9.1] : List Ae)), (wI .i64 (v4.2 + 1)))))
   (j4 v4.1)
def Ht (N : Nat) (p0 : Ah) (p1 : Ae) (p2 : List Au) : Option ((List Ae) × Int × Int) :=
 (ET N p0 p1).bind fun v1 =>
 AV ((v1 != 0))
  (some (([] : List Ae), 0, v1))
  ((Fb N p1).bind fun v3 =>
  E9 N p0 p2 (fun (v5 : (List Ae)) =>
   some (v5, (p2.length : Int), 0)) N (([v3] : List Ae), 0))
def FI (N : Nat) (p0 : Ah) (p1 : List Au) : Option ((List Ae) × Int × Int) :=
 (FM N p0).bind fun v1 =>
 AV ((v1.2 != 0))
  (some (([] : List Ae), 0, v1.2))
  ((Ht N p0 v1.1 p1).bind fun v3 =>
  some (v3.1, v3.2.1, v3.2.2))
def BU (N : Nat) (p0 : List Ae) (p1 : (Ae × Ae) → Option Bool) (v2 : Int) (j11 : ((List Ae) × Int) → Option (Nat × (List Ae))) : Nat → ((List Ae) × Int × Int) → Option (Nat × (List Ae))
 | 0, _ => none
 | n11 + 1, v11 =>
  AV ((decide (v11.2.2 < ((((p0.length - (v2).toNat)) : Nat) : Int))))
   (Bb (fun (v14 : (List Ae) × Int) =>
    BU N p0 p1 v2 j11 n11 (v14.1, v14.2, (wI .i64 (v11.2.2 + 1))))
   fun j14 =>
   (DE (((v2).toNat) + ((p0.length - (v2).toNat)) ≤ v11.1.length)).bind fun _ =>
   (A5 (((v11.1.drop ((v2).toNat)).take ((p0.length - (v2).toNat)))) v11.2.2).bind fun v15 =>
   (A5 (((v11.1.drop ((v2).toNat)).take ((p0.length - (v2).toNat)))) ((wI .i64 (v11.2.2 - 1)))).bind fun v17 =>
   (p1 ((v15, v17))).bind fun v18 =>
   AV ((!v18))
    ((A5 (((v11.1.drop ((v2).toNat)).take ((p0.length - (v2).toNat)))) v11.2.2).bind fun v20 =>
    (A5 v11.1 v11.2.1).bind fun _ =>
    j14 (v11.1.set ((v11.2.1).toNat) v20, (wI .i64 (v11.2.1 + 1))))
    (j14 (v11.1, v11.2.1)))
   (j11 (v11.1, v11.2.1))
def BX (N : Nat) (p0 : List Ae) (p1 : (Ae × Ae) → Option Bool) (j2 : Unit → Option (Nat × (List Ae))) : Nat → Int → Option (Nat × (List Ae))
 | 0, _ => none
 | n2 + 1, v2 =>
  AV ((decide (v2 < (p0.length : Int))))
   ((A5 p0 v2).bind fun v5 =>
   (A5 p0 ((wI .i64 (v2 - 1)))).bind fun v6 =>
   (p1 ((v5, v6))).bind fun v7 =>
   AV v7
    ((DE ((0 : Int) ≤ v2 ∧ (v2).toNat ≤ p0.length ∧ p0.length ≤ p0.length)).bind fun _ =>
    BU N p0 p1 v2 (fun (v12 : (List Ae) × Int) =>
     (DE ((0 : Int) ≤ v12.2 ∧ (v12.2).toNat ≤ v12.1.length ∧ v12.1.length ≤ v12.1.length)).bind fun _ =>
     (DE ((0 : Int) ≤ v12.2 ∧ 0 ≤ (v12.2).toNat ∧ (v12.2).toNat ≤ (HP v12.1 ((v12.2).toNat) (List.replicate ((v12.1.length - (v12.2).toNat)) ((Ae.mk (([] : List Int)) (([] : List Int)) (([] : List Int)))))).length)).bind fun _ =>
     some ((v12.2).toNat, HP v12.1 ((v12.2).toNat) (List.replicate ((v12.1.length - (v12.2).toNat)) ((Ae.mk (([] : List Int)) (([] : List Int)) (([] : List Int))))))) N (p0, v2, 1))
    (BX N p0 p1 j2 n2 (wI .i64 (v2 + 1))))
   (j2 ())
def BH (N : Nat) (p0 : List Ae) (p1 : (Ae × Ae) → Option Bool) : Option (Nat × (List Ae)) :=
 AV ((decide ((p0.length : Int) < 2)))
  (some (p0.length, p0))
  (BX N p0 p1 (fun (_ : Unit) =>
   some (p0.length, p0)) N 1)
def CY (N : Nat) (p0 : Ae) (p1 : Ae) : Option Bool :=
 (Cl N p0 p1).bind fun v1 =>
 some ((v1 == 0))
def Eg (N : Nat) (p0 : Ah) (v1 : (List Ae) × Int × Int) (j3 : ((List Ae)) → Option ((List Ae) × Int)) : Nat → ((List Ae) × Int) → Option ((List Ae) × Int)
 | 0, _ => none
 | n3 + 1, v3 =>
  AV ((decide (v3.2 < (v1.1.length : Int))))
   ((A5 v1.1 v3.2).bind fun v6 =>
   (Fr N p0 v6).bind fun v7 =>
   AV ((v7.2 != 0))
    (some (([] : List Ae), v7.2))
    ((DE (v3.1.length + v7.1.length ≤ Dw)).bind fun _ =>
    Eg N p0 v1 j3 n3 (v3.1 ++ v7.1, (wI .i64 (v3.2 + 1)))))
   (j3 v3.1)
def Ee (N : Nat) (p0 : Ah) (p1 : List Au) : Option ((List Ae) × Int) :=
 (FI N p0 p1).bind fun v1 =>
 AV ((v1.2.2 != 0))
  (some (([] : List Ae), v1.2.2))
  (Eg N p0 v1 (fun (v4 : (List Ae)) =>
   (Bk N v4 ((fun (x : Ae × Ae) => Cl N x.1 x.2))).bind fun v10 =>
   (BH N v10 ((fun (x : Ae × Ae) => CY N x.1 x.2))).bind fun v11 =>
   (DE (v11.1 ≤ v11.2.length)).bind fun _ =>
   some (v11.2.take v11.1, 0)) N (([] : List Ae), 0))
def Et (N : Nat) (p0 : Ah) (v1 : (List Ae) × Int × Int) (j3 : Unit → Option (Bool × Int)) : Nat → Int → Option (Bool × Int)
 | 0, _ => none
 | n3 + 1, v3 =>
  AV ((decide (v3 < (v1.1.length : Int))))
   ((A5 v1.1 v3).bind fun v6 =>
   (EW N p0 v6).bind fun v7 =>
   Bb (fun (v8 : Bool) =>
    AV v8
     (some (false, v7.2))
     (Et N p0 v1 j3 n3 (wI .i64 (v3 + 1))))
   fun j8 =>
   AV ((v7.2 != 0))
    (j8 true)
    (j8 (!v7.1)))
   (j3 ())
def Er (N : Nat) (p0 : Ah) (p1 : List Au) : Option (Bool × Int) :=
 (FI N p0 p1).bind fun v1 =>
 AV ((v1.2.2 != 0))
  (some (false, v1.2.2))
  (Et N p0 v1 (fun (_ : Unit) =>
   some (true, 0)) N 0)
def Dn (N : Nat) : Option Bool :=
 (Cv N false).bind fun v1 =>
 (Ga N v1).bind fun v2 =>
 (Cv N true).bind fun v3 =>
 (Ga N v3).bind fun v4 =>
 (Cv N false).bind fun v5 =>
 (Iu N v5 (([1, 2, 3] : List Int))).bind fun v6 =>
 (Cv N false).bind fun v7 =>
 (Ee N v7 (([(Au.mk 1 0 1)] : List Au))).bind fun v8 =>
 (Cv N false).bind fun v9 =>
 (Er N v9 (([(Au.mk 1 0 1)] : List Au))).bind fun v10 =>
 Bb (fun (v11 : Bool) =>
  some v11)
 fun j11 =>
 AV ((v2.2 == 0))
  (AV ((v4.2 == 0))
   (AV ((v6.2 == 0))
    (AV ((v8.2 == 0))
     (AV ((v10.2 == 0))
      (AV (((v2.1.length : Int) == 1))
       (AV (((v4.1.length : Int) == 4))
        (AV (((v6.1.length : Int) == 0))
         (AV (((v8.1.length : Int) == 2))
          (j11 (!v10.1))
          (j11 false))
         (j11 false))
        (j11 false))
       (j11 false))
      (j11 false))
     (j11 false))
    (j11 false))
   (j11 false))
  (j11 false)
def BD (_ : Nat) (p0 : List Au) : Option ((List Au)) :=
 (DE ((([] : List Au)).length + p0.length ≤ Dw)).bind fun _ =>
 some ((([] : List Au)) ++ p0)
def Ce (N : Nat) (p0 : List (List Bool)) (p1 : Int) (p2 : Int) (j2 : Unit → Option Bool) : Nat → Int → Option Bool
 | 0, _ => none
 | n2 + 1, v2 =>
  AV ((decide (v2 < p1)))
   ((A5 p0 v2).bind fun v5 =>
   AV (((v5.length : Int) != p2))
    (some false)
    (Ce N p0 p1 p2 j2 n2 (wI .i64 (v2 + 1))))
   (j2 ())
def Db (N : Nat) (p0 : List (List Bool)) (p1 : Int) (p2 : Int) : Option Bool :=
 AV (((p0.length : Int) != p1))
  (some false)
  (Ce N p0 p1 p2 (fun (_ : Unit) =>
   some true) N 0)
def BP (N : Nat) (p1 : AI) (j22 : Unit → Option Int) : Nat → Int → Option Int
 | 0, _ => none
 | n22 + 1, v22 =>
  AV ((decide (v22 < (p1.fRewrite.length : Int))))
   ((A5 p1.fRewrite v22).bind fun v25 =>
   (A5 v25 v22).bind fun v26 =>
   AV ((!v26))
    (some 1)
    (BP N p1 j22 n22 (wI .i64 (v22 + 1))))
   (j22 ())
def Eb (N : Nat) (p0 : Ah) (p1 : AI) : Option Int :=
 Bb (fun (v1 : Bool) =>
  AV v1
   (some 1)
   (Bb (fun (v7 : Bool) =>
    AV v7
     (some 4)
     ((A5 p0.fVersions p1.fFrom).bind fun v12 =>
     (A5 p0.fVersions p1.fTo).bind fun v13 =>
     (Db N p1.fOK v12 v13).bind fun v14 =>
     AV ((!v14))
      (some 6)
      (AV ((p1.fKind != 4))
       (AV (((p1.fRewrite.length : Int) != 0))
        (some 6)
        (some 0))
       ((A5 p0.fVersions p1.fFrom).bind fun v18 =>
       (A5 p0.fVersions p1.fFrom).bind fun v19 =>
       (Db N p1.fRewrite v18 v19).bind fun v20 =>
       AV ((!v20))
        (some 6)
        (BP N p1 (fun (_ : Unit) =>
         some 0) N 0)))))
   fun j7 =>
   AV ((decide (p1.fFrom < 0)))
    (j7 true)
    (AV ((decide ((p0.fVersions.length : Int) ≤ p1.fFrom)))
     (j7 true)
     (AV ((decide (p1.fTo < 0)))
      (j7 true)
      (j7 (decide ((p0.fVersions.length : Int) ≤ p1.fTo)))))))
 fun j1 =>
 AV ((decide (p1.fKind < 1)))
  (j1 true)
  (AV ((decide (4 < p1.fKind)))
   (j1 true)
   (AV p1.fAware
    ((A8 N p1).bind fun v5 =>
    j1 v5)
    (j1 false)))
def Bl (N : Nat) (p0 : Ah) (j7 : Unit → Option Int) : Nat → Int → Option Int
 | 0, _ => none
 | n7 + 1, v7 =>
  AV ((decide (v7 < (p0.fVersions.length : Int))))
   ((A5 p0.fVersions v7).bind fun v10 =>
   Bb (fun (v11 : Bool) =>
    AV v11
     (some 7)
     (Bl N p0 j7 n7 (wI .i64 (v7 + 1))))
   fun j11 =>
   AV ((decide (v10 < 1)))
    (j11 true)
    (AV ((decide (6 < v10)))
     (j11 true)
     ((A5 p0.fNow v7).bind fun v14 =>
     AV ((decide (v14 < 0)))
      (j11 true)
      ((A5 p0.fNow v7).bind fun v16 =>
      AV ((decide (v10 ≤ v16)))
       (j11 true)
       ((A5 p0.fTarget v7).bind fun v18 =>
       AV ((decide (v18 < 0)))
        (j11 true)
        ((A5 p0.fTarget v7).bind fun v20 =>
        j11 (decide (v10 ≤ v20))))))))
   (j7 ())
def Bi (N : Nat) (p0 : Ah) (j22 : Unit → Option Int) : Nat → Int → Option Int
 | 0, _ => none
 | n22 + 1, v22 =>
  AV ((decide (v22 < (p0.fTables.length : Int))))
   ((A5 p0.fTables v22).bind fun v25 =>
   (Eb N p0 v25).bind fun v26 =>
   AV ((v26 != 0))
    (some v26)
    (Bi N p0 j22 n22 (wI .i64 (v22 + 1))))
   (j22 ())
def Ch (N : Nat) (p0 : Ah) : Option Int :=
 Bb (fun (v1 : Bool) =>
  AV v1
   (some 3)
   (Bb (fun (v4 : Bool) =>
    AV v4
     (some 6)
     (Bl N p0 (fun (_ : Unit) =>
      Bi N p0 (fun (_ : Unit) =>
       some 0) N 0) N 0))
   fun j4 =>
   AV (((p0.fNow.length : Int) != (p0.fVersions.length : Int)))
    (j4 true)
    (j4 ((p0.fTarget.length : Int) != (p0.fVersions.length : Int)))))
 fun j1 =>
 AV ((decide (6 < (p0.fVersions.length : Int))))
  (j1 true)
  (j1 (decide (12 < (p0.fTables.length : Int))))
def BZ (N : Nat) (p0 : Ah) (j3 : ((List Int) × (List Int)) → Option (Ae × Int)) : Nat → ((List Int) × (List Int) × Int) → Option (Ae × Int)
 | 0, _ => none
 | n3 + 1, v3 =>
  AV ((decide (v3.2.2 < (p0.fVersions.length : Int))))
   ((A5 p0.fNow v3.2.2).bind fun v6 =>
   (DE (v3.1.length + (([v6] : List Int)).length ≤ Dw)).bind fun _ =>
   (DE (v3.2.1.length + (([(-1)] : List Int)).length ≤ Dw)).bind fun _ =>
   BZ N p0 j3 n3 (v3.1 ++ (([v6] : List Int)), v3.2.1 ++ (([(-1)] : List Int)), (wI .i64 (v3.2.2 + 1))))
   (j3 (v3.1, v3.2.1))
def Bn (N : Nat) (p0 : Ah) (j9 : ((List Int)) → Option (Ae × Int)) : Nat → ((List Int) × Int) → Option (Ae × Int)
 | 0, _ => none
 | n9 + 1, v9 =>
  AV ((decide (v9.2 < (p0.fTables.length : Int))))
   (Bb (fun (v12 : Int) =>
    (DE (v9.1.length + (([v12] : List Int)).length ≤ Dw)).bind fun _ =>
    Bn N p0 j9 n9 (v9.1 ++ (([v12] : List Int)), (wI .i64 (v9.2 + 1))))
   fun j12 =>
   (A5 p0.fTables v9.2).bind fun v13 =>
   (A8 N v13).bind fun v14 =>
   AV v14
    ((A5 p0.fTables v9.2).bind fun v16 =>
    (A5 p0.fNow v16.fFrom).bind fun v17 =>
    (DE (0 ≤ v17)).bind fun _ =>
    j12 (Cc .u8 1 v17))
    (j12 0))
   (j9 v9.1)
def D7 (N : Nat) (p0 : Ah) : Option (Ae × Int) :=
 (Ch N p0).bind fun v1 =>
 AV ((v1 != 0))
  (some ((Ae.mk (([] : List Int)) (([] : List Int)) (([] : List Int))), v1))
  (BZ N p0 (fun (v4 : (List Int) × (List Int)) =>
   Bn N p0 (fun (v10 : (List Int)) =>
    some ((Ae.mk v4.1 v4.2 v10), 0)) N (([] : List Int), 0)) N (([] : List Int), ([] : List Int), 0))
def BM (_ : Nat) (p0 : Ae) (p1 : Int) : Option Int :=
 (A5 p0.fBase p1).bind fun v1 =>
 (DE (0 ≤ v1)).bind fun _ =>
 Bb (fun (v3 : Int) =>
  some v3)
 fun j3 =>
 (A5 p0.fNext p1).bind fun v4 =>
 AV ((decide (0 ≤ v4)))
  ((A5 p0.fNext p1).bind fun v6 =>
  (DE (0 ≤ v6)).bind fun _ =>
  j3 (NC .u8 ((Cc .u8 1 v1)) ((Cc .u8 1 v6))))
  (j3 (Cc .u8 1 v1))
def BY (N : Nat) (p0 : Ah) (p1 : Ae) (j7 : Unit → Option Int) : Nat → Int → Option Int
 | 0, _ => none
 | n7 + 1, v7 =>
  AV ((decide (v7 < (p0.fVersions.length : Int))))
   (Bb (fun (v10 : Bool) =>
    AV v10
     (some 7)
     ((A5 p1.fBase v7).bind fun v21 =>
     (A5 p1.fNext v7).bind fun v22 =>
     AV ((v21 == v22))
      (some 1)
      (BY N p0 p1 j7 n7 (wI .i64 (v7 + 1)))))
   fun j10 =>
   (A5 p1.fBase v7).bind fun v11 =>
   AV ((decide (v11 < 0)))
    (j10 true)
    ((A5 p1.fBase v7).bind fun v13 =>
    (A5 p0.fVersions v7).bind fun v14 =>
    AV ((decide (v14 ≤ v13)))
     (j10 true)
     ((A5 p1.fNext v7).bind fun v16 =>
     AV ((decide (v16 < (-1))))
      (j10 true)
      ((A5 p1.fNext v7).bind fun v18 =>
      (A5 p0.fVersions v7).bind fun v19 =>
      j10 (decide (v19 ≤ v18))))))
   (j7 ())
def BQ (N : Nat) (p0 : Ah) (p1 : Ae) (j24 : Unit → Option Int) : Nat → Int → Option Int
 | 0, _ => none
 | n24 + 1, v24 =>
  AV ((decide (v24 < (p0.fTables.length : Int))))
   ((A5 p0.fTables v24).bind fun v27 =>
   (A5 p0.fVersions v27.fFrom).bind fun v28 =>
   (DE (0 ≤ v28)).bind fun _ =>
   Bb (fun (v30 : Bool) =>
    AV v30
     (some 1)
     (BQ N p0 p1 j24 n24 (wI .i64 (v24 + 1))))
   fun j30 =>
   (A8 N v27).bind fun v31 =>
   AV ((!v31))
    ((A5 p1.fHeld v24).bind fun v33 =>
    AV ((v33 != 0))
     (j30 true)
     ((A8 N v27).bind fun v35 =>
     AV v35
      ((A5 p1.fHeld v24).bind fun v37 =>
      AV (((CX .u8 v37 ((wI .u8 ((Cc .u8 1 v28) - 1)))) != 0))
       (j30 true)
       ((BM N p1 v27.fFrom).bind fun v39 =>
       (A5 p1.fHeld v24).bind fun v40 =>
       j30 ((CX .u8 v39 v40) != 0)))
      (j30 false)))
    ((A8 N v27).bind fun v41 =>
    AV v41
     ((A5 p1.fHeld v24).bind fun v43 =>
     AV (((CX .u8 v43 ((wI .u8 ((Cc .u8 1 v28) - 1)))) != 0))
      (j30 true)
      ((BM N p1 v27.fFrom).bind fun v45 =>
      (A5 p1.fHeld v24).bind fun v46 =>
      j30 ((CX .u8 v45 v46) != 0)))
     (j30 false)))
   (j24 ())
def Dq (N : Nat) (p0 : Ah) (p1 : Ae) : Option Int :=
 (Ch N p0).bind fun v1 =>
 AV ((v1 != 0))
  (some v1)
  (Bb (fun (v3 : Bool) =>
   AV v3
    (some 6)
    (BY N p0 p1 (fun (_ : Unit) =>
     BQ N p0 p1 (fun (_ : Unit) =>
      some 0) N 0) N 0))
  fun j3 =>
  AV (((p1.fBase.length : Int) != (p0.fVersions.length : Int)))
   (j3 true)
   (AV (((p1.fNext.length : Int) != (p0.fVersions.length : Int)))
    (j3 true)
    (j3 ((p1.fHeld.length : Int) != (p0.fTables.length : Int)))))
def D8 (_ : Nat) (p0 : Au) : Option Bool :=
 Bb (fun (v1 : Bool) =>
  some v1)
 fun j1 =>
 AV ((decide (1 ≤ p0.fKind)))
  (AV ((decide (p0.fKind ≤ 4)))
   (AV ((decide (0 ≤ p0.fIndex)))
    (AV ((decide (0 ≤ p0.fVersion)))
     (AV ((p0.fKind == 1))
      (j1 true)
      (j1 (p0.fVersion == 0)))
     (j1 false))
    (j1 false))
   (j1 false))
  (j1 false)
def Cf (_ : Nat) (p0 : Int) (p1 : Int) : Option Bool :=
 (DE (0 ≤ p1)).bind fun _ =>
 some (((Fp .u8 ((D3 .u8 p0 p1)) 1) == 1))
def BR (N : Nat) (p0 : Ah) (p2 : Au) (j12 : ((List Int)) → Option (Ae × Bool)) : Nat → ((List Int) × Int) → Option (Ae × Bool)
 | 0, _ => none
 | n12 + 1, v12 =>
  AV ((decide (v12.2 < (p0.fTables.length : Int))))
   (Bb (fun (v15 : (List Int)) =>
    BR N p0 p2 j12 n12 (v15, (wI .i64 (v12.2 + 1))))
   fun j15 =>
   Bb (fun (v16 : Bool) =>
    AV v16
     ((A5 v12.1 v12.2).bind fun v22 =>
     (DE (0 ≤ p2.fVersion)).bind fun _ =>
     (A5 v12.1 v12.2).bind fun _ =>
     j15 (v12.1.set ((v12.2).toNat) ((NC .u8 v22 ((Cc .u8 1 p2.fVersion))))))
     (j15 v12.1))
   fun j16 =>
   (A5 p0.fTables v12.2).bind fun v17 =>
   AV ((v17.fFrom == p2.fIndex))
    ((A5 p0.fTables v12.2).bind fun v19 =>
    (A8 N v19).bind fun v20 =>
    j16 v20)
    (j16 false))
   (j12 v12.1)
def BA (N : Nat) (p0 : Ah) (p1 : Ae) (p2 : Au) (v32 : AI) (v35 : Int) (j38 : Unit → Option (Ae × Bool)) : Nat → Int → Option (Ae × Bool)
 | 0, _ => none
 | n38 + 1, v38 =>
  (A5 p0.fVersions v32.fFrom).bind fun v40 =>
  AV ((decide (v38 < v40)))
   (Bb (fun (v42 : Bool) =>
    Bb (fun (v47 : Bool) =>
     AV v47
      (some ((Ae.mk (([] : List Int)) (([] : List Int)) (([] : List Int))), false))
      (BA N p0 p1 p2 v32 v35 j38 n38 (wI .i64 (v38 + 1))))
    fun j47 =>
    AV v42
     (AV ((v32.fKind == 4))
      ((A5 v32.fRewrite v38).bind fun v50 =>
      (A5 p1.fBase v32.fFrom).bind fun v51 =>
      (A5 v50 v51).bind fun v52 =>
      j47 (!v52))
      (j47 false))
     (j47 false))
   fun j42 =>
   (A5 p1.fHeld p2.fIndex).bind fun v43 =>
   (Cf N v43 v38).bind fun v44 =>
   AV v44
    ((Cf N v35 v38).bind fun v46 =>
    j42 (!v46))
    (j42 false))
   (j38 ())
def Dm (N : Nat) (p0 : Ah) (p1 : Ae) (p2 : Au) : Option (Ae × Bool) :=
 (DE ((([] : List Int)).length + p1.fBase.length ≤ Dw)).bind fun _ =>
 (DE ((([] : List Int)).length + p1.fNext.length ≤ Dw)).bind fun _ =>
 (DE ((([] : List Int)).length + p1.fHeld.length ≤ Dw)).bind fun _ =>
 Bb (fun (v4 : (List Int) × (List Int) × (List Int)) =>
  some ((Ae.mk v4.1 v4.2.1 v4.2.2), true))
 fun j4 =>
 AV ((p2.fKind == 1))
  (Bb (fun (v6 : Bool) =>
   AV v6
    (some ((Ae.mk (([] : List Int)) (([] : List Int)) (([] : List Int))), false))
    ((A5 ((([] : List Int)) ++ p1.fNext) p2.fIndex).bind fun _ =>
    BR N p0 p2 (fun (v13 : (List Int)) =>
     j4 ((([] : List Int)) ++ p1.fBase, ((([] : List Int)) ++ p1.fNext).set ((p2.fIndex).toNat) p2.fVersion, v13)) N ((([] : List Int)) ++ p1.fHeld, 0)))
  fun j6 =>
  (A5 p1.fNext p2.fIndex).bind fun v7 =>
  AV ((decide (0 ≤ v7)))
   (j6 true)
   ((A5 p1.fBase p2.fIndex).bind fun v9 =>
   j6 (p2.fVersion == v9)))
  (AV ((p2.fKind == 2))
   ((A5 p1.fNext p2.fIndex).bind fun v26 =>
   AV ((decide (v26 < 0)))
    (some ((Ae.mk (([] : List Int)) (([] : List Int)) (([] : List Int))), false))
    ((A5 p1.fNext p2.fIndex).bind fun v28 =>
    (A5 ((([] : List Int)) ++ p1.fBase) p2.fIndex).bind fun _ =>
    (A5 ((([] : List Int)) ++ p1.fNext) p2.fIndex).bind fun _ =>
    j4 (((([] : List Int)) ++ p1.fBase).set ((p2.fIndex).toNat) v28, ((([] : List Int)) ++ p1.fNext).set ((p2.fIndex).toNat) ((-1)), (([] : List Int)) ++ p1.fHeld)))
   (AV ((p2.fKind == 3))
    ((A5 p0.fTables p2.fIndex).bind fun v32 =>
    (A8 N v32).bind fun v33 =>
    AV ((!v33))
     (some ((Ae.mk (([] : List Int)) (([] : List Int)) (([] : List Int))), false))
     ((BM N p1 v32.fFrom).bind fun v35 =>
     (A5 p1.fHeld p2.fIndex).bind fun v36 =>
     AV ((v36 == v35))
      (some ((Ae.mk (([] : List Int)) (([] : List Int)) (([] : List Int))), false))
      (BA N p0 p1 p2 v32 v35 (fun (_ : Unit) =>
       (A5 ((([] : List Int)) ++ p1.fHeld) p2.fIndex).bind fun _ =>
       j4 ((([] : List Int)) ++ p1.fBase, (([] : List Int)) ++ p1.fNext, ((([] : List Int)) ++ p1.fHeld).set ((p2.fIndex).toNat) v35)) N 0)))
    ((A5 p1.fNext p2.fIndex).bind fun v55 =>
    AV ((decide (v55 < 0)))
     (some ((Ae.mk (([] : List Int)) (([] : List Int)) (([] : List Int))), false))
     ((A5 ((([] : List Int)) ++ p1.fNext) p2.fIndex).bind fun _ =>
     j4 ((([] : List Int)) ++ p1.fBase, ((([] : List Int)) ++ p1.fNext).set ((p2.fIndex).toNat) ((-1)), (([] : List Int)) ++ p1.fHeld)))))
def D9 (N : Nat) (p0 : Ah) (p1 : Ae) (p2 : Au) : Option (Ae × Int) :=
 (Dq N p0 p1).bind fun v1 =>
 AV ((v1 != 0))
  (some ((Ae.mk (([] : List Int)) (([] : List Int)) (([] : List Int))), v1))
  ((D8 N p2).bind fun v3 =>
  AV ((!v3))
   (some ((Ae.mk (([] : List Int)) (([] : List Int)) (([] : List Int))), 1))
   (Bb (fun (v5 : Bool) =>
    AV v5
     (some ((Ae.mk (([] : List Int)) (([] : List Int)) (([] : List Int))), 4))
     (Bb (fun (v11 : Bool) =>
      AV v11
       (some ((Ae.mk (([] : List Int)) (([] : List Int)) (([] : List Int))), 4))
       ((Dm N p0 p1 p2).bind fun v15 =>
       AV ((!v15.2))
        (some ((Ae.mk (([] : List Int)) (([] : List Int)) (([] : List Int))), 11))
        (some (v15.1, 0))))
     fun j11 =>
     AV ((p2.fKind == 1))
      ((A5 p0.fVersions p2.fIndex).bind fun v13 =>
      j11 (decide (v13 ≤ p2.fVersion)))
      (j11 false)))
   fun j5 =>
   AV ((p2.fKind == 3))
    (AV ((decide ((p0.fTables.length : Int) ≤ p2.fIndex)))
     (j5 true)
     (AV ((p2.fKind != 3))
      (j5 (decide ((p0.fVersions.length : Int) ≤ p2.fIndex)))
      (j5 false)))
    (AV ((p2.fKind != 3))
     (j5 (decide ((p0.fVersions.length : Int) ≤ p2.fIndex)))
     (j5 false))))
def Da (N : Nat) (p0 : Ah) (p2 : List Au) (j3 : ((List Ae)) → Option ((List Ae) × Int × Int)) : Nat → ((List Ae) × Int) → Option ((List Ae) × Int × Int)
 | 0, _ => none
 | n3 + 1, v3 =>
  AV ((decide (v3.2 < (p2.length : Int))))
   ((A5 v3.1 v3.2).bind fun v6 =>
   (A5 p2 v3.2).bind fun v7 =>
   (D9 N p0 v6 v7).bind fun v8 =>
   AV ((v8.2 != 0))
    (some (([] : List Ae), v3.2, v8.2))
    ((DE (v3.1.length + (([v8.1] : List Ae)).length ≤ Dw)).bind fun _ =>
    Da N p0 p2 j3 n3 (v3.1 ++ (([v8.1] : List Ae)), (wI .i64 (v3.2 + 1)))))
   (j3 v3.1)
def EC (N : Nat) (p0 : Ah) (p1 : Ae) (p2 : List Au) : Option ((List Ae) × Int × Int) :=
 (Dq N p0 p1).bind fun v1 =>
 AV ((v1 != 0))
  (some (([] : List Ae), 0, v1))
  (Da N p0 p2 (fun (v4 : (List Ae)) =>
   some (v4, (p2.length : Int), 0)) N (([p1] : List Ae), 0))
def DV (_ : Nat) (p0 : Ae) : Option Ae :=
 (DE ((([] : List Int)).length + p0.fBase.length ≤ Dw)).bind fun _ =>
 (DE ((([] : List Int)).length + p0.fNext.length ≤ Dw)).bind fun _ =>
 (DE ((([] : List Int)).length + p0.fHeld.length ≤ Dw)).bind fun _ =>
 some ((Ae.mk ((([] : List Int)) ++ p0.fBase) ((([] : List Int)) ++ p0.fNext) ((([] : List Int)) ++ p0.fHeld)))
def Ci (N : Nat) (p0 : Ae) (j1 : Int → Option ((List Ae))) : Nat → (Int × Int) → Option ((List Ae))
 | 0, _ => none
 | n1 + 1, v1 =>
  AV ((decide (v1.2 < (p0.fNext.length : Int))))
   (Bb (fun (v4 : Int) =>
    Ci N p0 j1 n1 (v4, (wI .i64 (v1.2 + 1))))
   fun j4 =>
   (A5 p0.fNext v1.2).bind fun v5 =>
   AV ((decide (0 ≤ v5)))
    (j4 (wI .i64 (v1.1 + 1)))
    (j4 v1.1))
   (j1 v1.1)
def BL (N : Nat) (p0 : Ae) (v7 : (List Ae) × Int) (j12 : ((List Int)) → Option ((List Ae))) : Nat → ((List Int) × Int × Int) → Option ((List Ae))
 | 0, _ => none
 | n12 + 1, v12 =>
  AV ((decide (v12.2.2 < (p0.fNext.length : Int))))
   (Bb (fun (v15 : (List Int) × Int) =>
    BL N p0 v7 j12 n12 (v15.1, v15.2, (wI .i64 (v12.2.2 + 1))))
   fun j15 =>
   (A5 p0.fNext v12.2.2).bind fun v16 =>
   AV ((decide (v16 < 0)))
    (j15 (v12.1, v12.2.1))
    (Bb (fun (v18 : (List Int)) =>
     j15 (v18, (wI .i64 (v12.2.1 + 1))))
    fun j18 =>
    (DE (0 ≤ v12.2.1)).bind fun _ =>
    AV (((Int.tmod ((D3 .i64 v7.2 v12.2.1)) 2) == 1))
     ((A5 v12.1 v12.2.2).bind fun _ =>
     j18 (v12.1.set ((v12.2.2).toNat) ((-1))))
     (j18 v12.1)))
   (j12 v12.1)
def Bv (N : Nat) (p0 : Ae) (v2 : Int) (j7 : ((List Ae)) → Option ((List Ae))) : Nat → ((List Ae) × Int) → Option ((List Ae))
 | 0, _ => none
 | n7 + 1, v7 =>
  (DE (0 ≤ v2)).bind fun _ =>
  AV ((decide (v7.2 < (Cc .i64 1 v2))))
   ((DV N p0).bind fun v11 =>
   BL N p0 v7 (fun (v13 : (List Int)) =>
    (DE (v7.1.length + (([(Ae.mk v11.fBase v13 v11.fHeld)] : List Ae)).length ≤ Dw)).bind fun _ =>
    Bv N p0 v2 j7 n7 (v7.1 ++ (([(Ae.mk v11.fBase v13 v11.fHeld)] : List Ae)), (wI .i64 (v7.2 + 1)))) N (v11.fNext, 0, 0))
   (j7 v7.1)
def DZ (N : Nat) (p0 : Ae) : Option ((List Ae)) :=
 Ci N p0 (fun (v2 : Int) =>
  Bv N p0 v2 (fun (v8 : (List Ae)) =>
   some v8) N (([] : List Ae), 0)) N (0, 0)
def CV (N : Nat) (p0 : List Int) (p1 : List Int) (j1 : Unit → Option Int) : Nat → Int → Option Int
 | 0, _ => none
 | n1 + 1, v1 =>
  Bb (fun (v3 : Bool) =>
   AV v3
    ((A5 p0 v1).bind fun v6 =>
    (A5 p1 v1).bind fun v7 =>
    AV ((decide (v6 < v7)))
     (some ((-1)))
     ((A5 p0 v1).bind fun v9 =>
     (A5 p1 v1).bind fun v10 =>
     AV ((decide (v10 < v9)))
      (some 1)
      (CV N p0 p1 j1 n1 (wI .i64 (v1 + 1)))))
    (j1 ()))
  fun j3 =>
  AV ((decide (v1 < (p0.length : Int))))
   (j3 (decide (v1 < (p1.length : Int))))
   (j3 false)
def C4 (N : Nat) (p0 : List Int) (p1 : List Int) : Option Int :=
 CV N p0 p1 (fun (_ : Unit) =>
  AV ((decide ((p0.length : Int) < (p1.length : Int))))
   (some ((-1)))
   (AV ((decide ((p1.length : Int) < (p0.length : Int))))
    (some 1)
    (some 0))) N 0
def Cs (N : Nat) (p0 : List Int) (j1 : ((List Int)) → Option ((List Int))) : Nat → ((List Int) × Int) → Option ((List Int))
 | 0, _ => none
 | n1 + 1, v1 =>
  AV ((decide (v1.2 < (p0.length : Int))))
   ((A5 p0 v1.2).bind fun v4 =>
   (DE (v1.1.length + (([(wI .i64 v4)] : List Int)).length ≤ Dw)).bind fun _ =>
   Cs N p0 j1 n1 (v1.1 ++ (([(wI .i64 v4)] : List Int)), (wI .i64 (v1.2 + 1))))
   (j1 v1.1)
def CT (N : Nat) (p0 : List Int) : Option ((List Int)) :=
 Cs N p0 (fun (v2 : (List Int)) =>
  some v2) N (([] : List Int), 0)
def Cw (N : Nat) (p0 : Ae) (p1 : Ae) : Option Int :=
 (C4 N p0.fBase p1.fBase).bind fun v1 =>
 AV ((v1 != 0))
  (some v1)
  ((C4 N p0.fNext p1.fNext).bind fun v3 =>
  AV ((v3 != 0))
   (some v3)
   ((CT N p0.fHeld).bind fun v5 =>
   (CT N p1.fHeld).bind fun v6 =>
   (C4 N v5 v6).bind fun v7 =>
   some v7))
def C7 (N : Nat) (p0 : List Ae) (p1 : Ae) (j1 : Unit → Option ((List Ae))) : Nat → Int → Option ((List Ae))
 | 0, _ => none
 | n1 + 1, v1 =>
  AV ((decide (v1 < (p0.length : Int))))
   ((A5 p0 v1).bind fun v4 =>
   (Cw N v4 p1).bind fun v5 =>
   AV ((v5 == 0))
    (some p0)
    (AV ((decide (0 < v5)))
     ((DE ((0 : Int) ≤ v1 ∧ 0 ≤ (v1).toNat ∧ (v1).toNat ≤ p0.length)).bind fun _ =>
     (DE ((([] : List Ae)).length + (((p0.drop 0).take ((v1).toNat))).length ≤ Dw)).bind fun _ =>
     (DE (((([] : List Ae)) ++ (((p0.drop 0).take ((v1).toNat)))).length + (([p1] : List Ae)).length ≤ Dw)).bind fun _ =>
     (DE ((0 : Int) ≤ v1 ∧ (v1).toNat ≤ p0.length ∧ p0.length ≤ p0.length)).bind fun _ =>
     (DE ((((([] : List Ae)) ++ (((p0.drop 0).take ((v1).toNat)))) ++ (([p1] : List Ae))).length + (((p0.drop ((v1).toNat)).take ((p0.length - (v1).toNat)))).length ≤ Dw)).bind fun _ =>
     some ((((([] : List Ae)) ++ (((p0.drop 0).take ((v1).toNat)))) ++ (([p1] : List Ae))) ++ (((p0.drop ((v1).toNat)).take ((p0.length - (v1).toNat))))))
     (C7 N p0 p1 j1 n1 (wI .i64 (v1 + 1)))))
   (j1 ())
def EA (N : Nat) (p0 : List Ae) (p1 : Ae) : Option ((List Ae)) :=
 C7 N p0 p1 (fun (_ : Unit) =>
  (DE (p0.length + (([p1] : List Ae)).length ≤ Dw)).bind fun _ =>
  some (p0 ++ (([p1] : List Ae)))) N 0
def CB (N : Nat) (v9 : (List Ae)) (j10 : ((List Ae)) → Option ((List Ae) × Int)) : Nat → ((List Ae) × Int) → Option ((List Ae) × Int)
 | 0, _ => none
 | n10 + 1, v10 =>
  AV ((decide (v10.2 < (v9.length : Int))))
   ((A5 v9 v10.2).bind fun v13 =>
   (EA N v10.1 v13).bind fun v14 =>
   CB N v9 j10 n10 (v14, (wI .i64 (v10.2 + 1))))
   (j10 v10.1)
def CK (N : Nat) (v3 : (List Ae) × Int × Int) (j5 : ((List Ae)) → Option ((List Ae) × Int)) : Nat → ((List Ae) × Int) → Option ((List Ae) × Int)
 | 0, _ => none
 | n5 + 1, v5 =>
  AV ((decide (v5.2 < (v3.1.length : Int))))
   ((A5 v3.1 v5.2).bind fun v8 =>
   (DZ N v8).bind fun v9 =>
   CB N v9 (fun (v11 : (List Ae)) =>
    CK N v3 j5 n5 (v11, (wI .i64 (v5.2 + 1)))) N (v5.1, 0))
   (j5 v5.1)
def Co (N : Nat) (p0 : Ah) (p1 : List Au) : Option ((List Ae) × Int) :=
 (D7 N p0).bind fun v1 =>
 AV ((v1.2 != 0))
  (some (([] : List Ae), v1.2))
  ((EC N p0 v1.1 p1).bind fun v3 =>
  AV ((v3.2.2 != 0))
   (some (([] : List Ae), v3.2.2))
   (CK N v3 (fun (v6 : (List Ae)) =>
    some (v6, 0)) N (([] : List Ae), 0)))
def Bo (N : Nat) (p0 : Ah) (p1 : Ae) (v1 : (List Av) × Int) (v4 : AI) (v10 : (List Av) × Int) (j17 : ((List Av) × Bool) → Option ((List Av))) : Nat → ((List Av) × Bool × Int) → Option ((List Av))
 | 0, _ => none
 | n17 + 1, v17 =>
  (A5 p0.fVersions v4.fTo).bind fun v19 =>
  AV ((decide (v17.2.2 < v19)))
   (Bb (fun (v21 : (List Av) × Bool) =>
    Bo N p0 p1 v1 v4 v10 j17 n17 (v21.1, v21.2, (wI .i64 (v17.2.2 + 1))))
   fun j21 =>
   (BM N p1 v4.fTo).bind fun v22 =>
   (Cf N v22 v17.2.2).bind fun v23 =>
   AV ((!v23))
    (j21 (v17.1, v17.2.1))
    (Bb (fun (v25 : Bool) =>
     Bb (fun (v29 : Bool) =>
      AV v29
       ((DE (v17.1.length + (([(Av.mk v1.2 v10.2 v17.2.2)] : List Av)).length ≤ Dw)).bind fun _ =>
       j21 (v17.1 ++ (([(Av.mk v1.2 v10.2 v17.2.2)] : List Av)), v25))
       (j21 (v17.1, v25)))
     fun j29 =>
     AV ((!v4.fAware))
      ((A5 v4.fOK v10.2).bind fun v31 =>
      (A5 v31 v17.2.2).bind fun v32 =>
      j29 (!v32))
      (j29 false))
    fun j25 =>
    AV v17.2.1
     (j25 true)
     ((A5 v4.fOK v10.2).bind fun v27 =>
     (A5 v27 v17.2.2).bind fun v28 =>
     j25 v28)))
   (j17 (v17.1, v17.2.1))
def BC (N : Nat) (p0 : Ah) (p1 : Ae) (v1 : (List Av) × Int) (v4 : AI) (v6 : Int) (j10 : ((List Av)) → Option ((List Av))) : Nat → ((List Av) × Int) → Option ((List Av))
 | 0, _ => none
 | n10 + 1, v10 =>
  (A5 p0.fVersions v4.fFrom).bind fun v12 =>
  AV ((decide (v10.2 < v12)))
   (Bb (fun (v14 : (List Av)) =>
    BC N p0 p1 v1 v4 v6 j10 n10 (v14, (wI .i64 (v10.2 + 1))))
   fun j14 =>
   (Cf N v6 v10.2).bind fun v15 =>
   AV ((!v15))
    (j14 v10.1)
    (Bo N p0 p1 v1 v4 v10 (fun (v18 : (List Av) × Bool) =>
     Bb (fun (v35 : Bool) =>
      AV v35
       ((DE (v18.1.length + (([(Av.mk v1.2 v10.2 ((-1)))] : List Av)).length ≤ Dw)).bind fun _ =>
       j14 (v18.1 ++ (([(Av.mk v1.2 v10.2 ((-1)))] : List Av))))
       (j14 v18.1))
     fun j35 =>
     AV v4.fAware
      (j35 (!v18.2))
      (j35 false)) N (v10.1, false, 0)))
   (j10 v10.1)
def Cj (N : Nat) (p0 : Ah) (p1 : Ae) (j1 : ((List Av)) → Option ((List Av))) : Nat → ((List Av) × Int) → Option ((List Av))
 | 0, _ => none
 | n1 + 1, v1 =>
  AV ((decide (v1.2 < (p0.fTables.length : Int))))
   ((A5 p0.fTables v1.2).bind fun v4 =>
   (BM N p1 v4.fFrom).bind fun v5 =>
   Bb (fun (v6 : Int) =>
    BC N p0 p1 v1 v4 v6 (fun (v11 : (List Av)) =>
     Cj N p0 p1 j1 n1 (v11, (wI .i64 (v1.2 + 1)))) N (v1.1, 0))
   fun j6 =>
   (A8 N v4).bind fun v7 =>
   AV v7
    ((A5 p1.fHeld v1.2).bind fun v9 =>
    j6 v9)
    (j6 v5))
   (j1 v1.1)
def Ea (N : Nat) (p0 : Ah) (p1 : Ae) : Option ((List Av)) :=
 Cj N p0 p1 (fun (v2 : (List Av)) =>
  some v2) N (([] : List Av), 0)
def DW (N : Nat) (p0 : Ah) (p1 : Ae) : Option Bool :=
 (Ea N p0 p1).bind fun v1 =>
 some (((v1.length : Int) == 0))
def CW (N : Nat) (p0 : Ah) (v1 : (List Ae) × Int) (j3 : Unit → Option (Bool × Int)) : Nat → Int → Option (Bool × Int)
 | 0, _ => none
 | n3 + 1, v3 =>
  AV ((decide (v3 < (v1.1.length : Int))))
   ((A5 v1.1 v3).bind fun v6 =>
   (DW N p0 v6).bind fun v7 =>
   AV ((!v7))
    (some (false, 0))
    (CW N p0 v1 j3 n3 (wI .i64 (v3 + 1))))
   (j3 ())
def C1 (N : Nat) (p0 : Ah) (p1 : List Au) : Option (Bool × Int) :=
 (Co N p0 p1).bind fun v1 =>
 AV ((v1.2 != 0))
  (some (false, v1.2))
  (CW N p0 v1 (fun (_ : Unit) =>
   some (true, 0)) N 0)
def Dt (N : Nat) (p0 : Ae) (p1 : Ae) : Option Bool :=
 (Cw N p0 p1).bind fun v1 =>
 some ((v1 == 0))
def Cy (N : Nat) (p0 : List Ae) (p1 : List Ae) (j2 : Unit → Option Bool) : Nat → Int → Option Bool
 | 0, _ => none
 | n2 + 1, v2 =>
  AV ((decide (v2 < (p0.length : Int))))
   ((A5 p0 v2).bind fun v5 =>
   (A5 p1 v2).bind fun v6 =>
   (Dt N v5 v6).bind fun v7 =>
   AV ((!v7))
    (some false)
    (Cy N p0 p1 j2 n2 (wI .i64 (v2 + 1))))
   (j2 ())
def El (N : Nat) (p0 : List Ae) (p1 : List Ae) : Option Bool :=
 AV (((p0.length : Int) != (p1.length : Int)))
  (some false)
  (Cy N p0 p1 (fun (_ : Unit) =>
   some true) N 0)
def Cr (N : Nat) (p0 : B5) (p1 : List Au) : Option Bool :=
 (EQ N p0).bind fun v1 =>
 Bb (fun (v2 : Bool) =>
  AV v2
   ((Dn N).bind fun v7 =>
   some v7)
   ((BD N p1).bind fun v8 =>
   (Ee N v1.1 v8).bind fun v9 =>
   (Co N v1.1 p1).bind fun v10 =>
   (BD N p1).bind fun v11 =>
   (Er N v1.1 v11).bind fun v12 =>
   (C1 N v1.1 p1).bind fun v13 =>
   Bb (fun (v14 : Bool) =>
    some v14)
   fun j14 =>
   AV ((v9.2 == v10.2))
    (AV ((v12.2 == v13.2))
     ((El N v9.1 v10.1).bind fun v17 =>
     AV v17
      (j14 (v12.1 == v13.1))
      (j14 false))
     (j14 false))
    (j14 false)))
 fun j2 =>
 (Dn N).bind fun v3 =>
 AV ((!v3))
  (j2 true)
  (AV ((!v1.2))
   (j2 true)
   (j2 (decide (12 < (p1.length : Int)))))
def Mq {α : Type} (w : α → Prop) (xs : List α) : Prop := ∀ x, x ∈ xs → w x
def T0 (n : Int) : Prop := (Lit.int .i64 n).wf = true
def Ku (n : Int) : Prop := (Lit.int .u8 n).wf = true
def VI (n : Int) : Prop := (Lit.int .u16 n).wf = true
def He (x : Hx) : Prop := Ku x.fKind ∧ Ku x.fFrom ∧ Ku x.fTo ∧ (fun _ => True) x.fAware ∧ VI x.fBad ∧ VI x.fLost ∧ True
def ES (x : B5) : Prop := (Mq Ku) x.fVersions ∧ (Mq Ku) x.fNow ∧ (Mq Ku) x.fTarget ∧ (Mq He) x.fLinks ∧ True
def KW (x : Au) : Prop := T0 x.fKind ∧ T0 x.fIndex ∧ T0 x.fVersion ∧ True
end Go.Lift
namespace Go.Lift
open Go.RowKit
open Go.Proofs
theorem Ac : Tryz.prog.follows .mixedOrders = true := by kernel_rfl
theorem KK : Fq Tryz.prog 100 false = true := by kernel_rfl
theorem RE : Fq Tryz.prog 113 true = true := by kernel_rfl
theorem MA : Fq Tryz.prog 144 false = true := by kernel_rfl
theorem S3 : Fq Tryz.prog 22 false = true := by kernel_rfl
theorem VV : Fq Tryz.prog 23 false = true := by kernel_rfl
theorem XH : Fq Tryz.prog 25 true = true := by kernel_rfl
theorem Bh : Fq Tryz.prog 27 false = true := by kernel_rfl
theorem G5 : Fq Tryz.prog 28 false = true := by kernel_rfl
theorem Cg : Fq Tryz.prog 3 false = true := by kernel_rfl
theorem Ec : Fq Tryz.prog 30 true = true := by kernel_rfl
theorem Rr : Fq Tryz.prog 4 false = true := by kernel_rfl
theorem IV : Fq Tryz.prog 40 true = true := by kernel_rfl
theorem Gr : Fq Tryz.prog 48 false = true := by kernel_rfl
theorem V6 : Fq Tryz.prog 5 false = true := by kernel_rfl
theorem A1 : Fq Tryz.prog 50 true = true := by kernel_rfl
theorem WB : Fq Tryz.prog 71 false = true := by kernel_rfl
theorem X8 : Fq Tryz.prog 73 true = true := by kernel_rfl
theorem Js : Fq Tryz.prog 74 false = true := by kernel_rfl
theorem G1 : Fq Tryz.prog 76 true = true := by kernel_rfl
theorem IY : Fq Tryz.prog 97 false = true := by kernel_rfl
theorem YA : N9 Tryz.prog 4 = true := by kernel_rfl
theorem Wl : OM Tryz.prog 22 = true := by kernel_rfl
theorem Vv : Fm Tryz.prog 100 24 = true := by kernel_rfl
theorem O9 : Fm Tryz.prog 113 24 = true := by kernel_rfl
theorem Lh : Fm Tryz.prog 3 8 = true := by kernel_rfl
theorem Vr : Fm Tryz.prog 4 1 = true := by kernel_rfl
theorem NX : Fm Tryz.prog 40 24 = true := by kernel_rfl
theorem W4 : Fm Tryz.prog 5 1 = true := by kernel_rfl
theorem Jl : Fm Tryz.prog 50 72 = true := by kernel_rfl
theorem Wc : Fm Tryz.prog 76 80 = true := by kernel_rfl
theorem Pt : Fm Tryz.prog 97 1 = true := by kernel_rfl
theorem O7 : Dd Tryz.prog 25 0 0 = true := by kernel_rfl
theorem UU : Dd Tryz.prog 25 1 1 = true := by kernel_rfl
theorem TQ : Dd Tryz.prog 25 2 2 = true := by kernel_rfl
theorem O0 : Dd Tryz.prog 25 3 3 = true := by kernel_rfl
theorem By : Dd Tryz.prog 30 0 0 = true := by kernel_rfl
theorem Ge : Dd Tryz.prog 30 1 1 = true := by kernel_rfl
theorem I9 : Dd Tryz.prog 30 2 2 = true := by kernel_rfl
theorem CH : Dd Tryz.prog 30 3 3 = true := by kernel_rfl
theorem Fj : Dd Tryz.prog 40 0 0 = true := by kernel_rfl
theorem ED : Dd Tryz.prog 40 1 1 = true := by kernel_rfl
theorem Gb : Dd Tryz.prog 40 2 2 = true := by kernel_rfl
theorem CE : Dd Tryz.prog 50 0 0 = true := by kernel_rfl
theorem BB : Dd Tryz.prog 50 1 1 = true := by kernel_rfl
theorem Cn : Dd Tryz.prog 50 2 2 = true := by kernel_rfl
theorem UA : Dd Tryz.prog 73 0 0 = true := by kernel_rfl
theorem TT : Dd Tryz.prog 73 1 1 = true := by kernel_rfl
theorem Uw : Dd Tryz.prog 73 2 2 = true := by kernel_rfl
theorem Ux : Dd Tryz.prog 73 3 3 = true := by kernel_rfl
theorem UG : Dd Tryz.prog 73 4 4 = true := by kernel_rfl
theorem Uz : Dd Tryz.prog 73 5 5 = true := by kernel_rfl
theorem Fx : Dd Tryz.prog 76 0 0 = true := by kernel_rfl
theorem C0 : Dd Tryz.prog 76 1 1 = true := by kernel_rfl
theorem HN : Dd Tryz.prog 76 2 2 = true := by kernel_rfl
theorem Im : Dd Tryz.prog 76 3 3 = true := by kernel_rfl
theorem I8 : Dd Tryz.prog 76 4 4 = true := by kernel_rfl
theorem F7 : Dd Tryz.prog 76 5 5 = true := by kernel_rfl
theorem Wx : AO Tryz.prog 10 = true := by kernel_rfl
theorem Q8 : AO Tryz.prog 100 = true := by kernel_rfl
theorem Xf : AO Tryz.prog 101 = true := by kernel_rfl
theorem WN : AO Tryz.prog 102 = true := by kernel_rfl
theorem W9 : AO Tryz.prog 103 = true := by kernel_rfl
theorem WY : AO Tryz.prog 104 = true := by kernel_rfl
theorem U8 : AO Tryz.prog 105 = true := by kernel_rfl
theorem Xq : AO Tryz.prog 106 = true := by kernel_rfl
theorem Wd : AO Tryz.prog 107 = true := by kernel_rfl
theorem Tj : AO Tryz.prog 108 = true := by kernel_rfl
theorem U3 : AO Tryz.prog 109 = true := by kernel_rfl
theorem WW : AO Tryz.prog 11 = true := by kernel_rfl
theorem U4 : AO Tryz.prog 110 = true := by kernel_rfl
theorem Va : AO Tryz.prog 111 = true := by kernel_rfl
theorem Xe : AO Tryz.prog 112 = true := by kernel_rfl
theorem Wa : AO Tryz.prog 113 = true := by kernel_rfl
theorem WJ : AO Tryz.prog 114 = true := by kernel_rfl
theorem WQ : AO Tryz.prog 115 = true := by kernel_rfl
theorem Vc : AO Tryz.prog 116 = true := by kernel_rfl
theorem WP : AO Tryz.prog 117 = true := by kernel_rfl
theorem WI : AO Tryz.prog 118 = true := by kernel_rfl
theorem Tw : AO Tryz.prog 119 = true := by kernel_rfl
theorem WV : AO Tryz.prog 12 = true := by kernel_rfl
theorem UW : AO Tryz.prog 120 = true := by kernel_rfl
theorem Wu : AO Tryz.prog 121 = true := by kernel_rfl
theorem Xo : AO Tryz.prog 122 = true := by kernel_rfl
theorem Wt : AO Tryz.prog 123 = true := by kernel_rfl
theorem Xr : AO Tryz.prog 124 = true := by kernel_rfl
theorem Xm : AO Tryz.prog 125 = true := by kernel_rfl
theorem WH : AO Tryz.prog 126 = true := by kernel_rfl
theorem We : AO Tryz.prog 13 = true := by kernel_rfl
theorem Xb : AO Tryz.prog 14 = true := by kernel_rfl
theorem Ym : AO Tryz.prog 15 = true := by kernel_rfl
theorem XV : AO Tryz.prog 16 = true := by kernel_rfl
theorem WR : AO Tryz.prog 18 = true := by kernel_rfl
theorem Ys : AO Tryz.prog 20 = true := by kernel_rfl
theorem Yc : AO Tryz.prog 24 = true := by kernel_rfl
theorem X0 : AO Tryz.prog 27 = true := by kernel_rfl
theorem Yb : AO Tryz.prog 30 = true := by kernel_rfl
theorem WM : AO Tryz.prog 32 = true := by kernel_rfl
theorem O4 : AO Tryz.prog 33 = true := by kernel_rfl
theorem WG : AO Tryz.prog 34 = true := by kernel_rfl
theorem SG : AO Tryz.prog 35 = true := by kernel_rfl
theorem W3 : AO Tryz.prog 36 = true := by kernel_rfl
theorem WK : AO Tryz.prog 37 = true := by kernel_rfl
theorem Wv : AO Tryz.prog 38 = true := by kernel_rfl
theorem VA : AO Tryz.prog 39 = true := by kernel_rfl
theorem XM : AO Tryz.prog 40 = true := by kernel_rfl
theorem XT : AO Tryz.prog 41 = true := by kernel_rfl
theorem XL : AO Tryz.prog 42 = true := by kernel_rfl
theorem XU : AO Tryz.prog 43 = true := by kernel_rfl
theorem Yq : AO Tryz.prog 44 = true := by kernel_rfl
theorem Vl : AO Tryz.prog 45 = true := by kernel_rfl
theorem Yu : AO Tryz.prog 46 = true := by kernel_rfl
theorem Xa : AO Tryz.prog 47 = true := by kernel_rfl
theorem Vs : AO Tryz.prog 48 = true := by kernel_rfl
theorem Wg : AO Tryz.prog 49 = true := by kernel_rfl
theorem WD : AO Tryz.prog 50 = true := by kernel_rfl
theorem Sg : AO Tryz.prog 52 = true := by kernel_rfl
theorem Un : AO Tryz.prog 53 = true := by kernel_rfl
theorem Wm : AO Tryz.prog 54 = true := by kernel_rfl
theorem Xl : AO Tryz.prog 55 = true := by kernel_rfl
theorem Yp : AO Tryz.prog 56 = true := by kernel_rfl
theorem TL : AO Tryz.prog 57 = true := by kernel_rfl
theorem SV : AO Tryz.prog 58 = true := by kernel_rfl
theorem WU : AO Tryz.prog 59 = true := by kernel_rfl
theorem VE : AO Tryz.prog 60 = true := by kernel_rfl
theorem Wn : AO Tryz.prog 61 = true := by kernel_rfl
theorem XN : AO Tryz.prog 62 = true := by kernel_rfl
theorem Wq : AO Tryz.prog 63 = true := by kernel_rfl
theorem Yt : AO Tryz.prog 64 = true := by kernel_rfl
theorem W0 : AO Tryz.prog 65 = true := by kernel_rfl
theorem XR : AO Tryz.prog 66 = true := by kernel_rfl
theorem Yr : AO Tryz.prog 67 = true := by kernel_rfl
theorem X1 : AO Tryz.prog 68 = true := by kernel_rfl
theorem X5 : AO Tryz.prog 69 = true := by kernel_rfl
theorem XW : AO Tryz.prog 70 = true := by kernel_rfl
theorem X6 : AO Tryz.prog 71 = true := by kernel_rfl
theorem XX : AO Tryz.prog 72 = true := by kernel_rfl
theorem VW : AO Tryz.prog 73 = true := by kernel_rfl
theorem WL : AO Tryz.prog 74 = true := by kernel_rfl
theorem Xp : AO Tryz.prog 75 = true := by kernel_rfl
theorem X3 : AO Tryz.prog 76 = true := by kernel_rfl
theorem VN : AO Tryz.prog 77 = true := by kernel_rfl
theorem Xg : AO Tryz.prog 78 = true := by kernel_rfl
theorem Wr : AO Tryz.prog 79 = true := by kernel_rfl
theorem VC : AO Tryz.prog 80 = true := by kernel_rfl
theorem Yf : AO Tryz.prog 81 = true := by kernel_rfl
theorem Yv : AO Tryz.prog 82 = true := by kernel_rfl
theorem XQ : AO Tryz.prog 83 = true := by kernel_rfl
theorem Yl : AO Tryz.prog 84 = true := by kernel_rfl
theorem XB : AO Tryz.prog 85 = true := by kernel_rfl
theorem XJ : AO Tryz.prog 86 = true := by kernel_rfl
theorem XI : AO Tryz.prog 87 = true := by kernel_rfl
theorem Yo : AO Tryz.prog 88 = true := by kernel_rfl
theorem XZ : AO Tryz.prog 89 = true := by kernel_rfl
theorem YB : AO Tryz.prog 9 = true := by kernel_rfl
theorem XS : AO Tryz.prog 90 = true := by kernel_rfl
theorem Yj : AO Tryz.prog 91 = true := by kernel_rfl
theorem XE : AO Tryz.prog 92 = true := by kernel_rfl
theorem Yn : AO Tryz.prog 93 = true := by kernel_rfl
theorem XD : AO Tryz.prog 94 = true := by kernel_rfl
theorem Ya : AO Tryz.prog 95 = true := by kernel_rfl
theorem X7 : AO Tryz.prog 96 = true := by kernel_rfl
theorem XP : AO Tryz.prog 97 = true := by kernel_rfl
theorem Xc : AO Tryz.prog 98 = true := by kernel_rfl
theorem WS : AO Tryz.prog 99 = true := by kernel_rfl
theorem N8 : Nf Tryz.prog 106 .u64 = true := by kernel_rfl
theorem P7 : Nf Tryz.prog 131 .u32 = true := by kernel_rfl
theorem UV : Nf Tryz.prog 133 .u64 = true := by kernel_rfl
theorem W5 : Nf Tryz.prog 144 .u64 = true := by kernel_rfl
theorem R7 : Nf Tryz.prog 3 .i64 = true := by kernel_rfl
theorem Xy : Nf Tryz.prog 5 .u8 = true := by kernel_rfl
theorem VU : Tryz.prog.underlying 9 = some .string := by kernel_rfl
theorem Rz : Tryz.prog.underlying 93 = some (.map 9 4) := by kernel_rfl
theorem Oc : Ib Tryz.prog 113 = some [(0, 1), (1, 1), (2, 1)] := by kernel_rfl
theorem WE : Ib Tryz.prog 30 = some [(0, 1), (1, 1), (2, 1), (3, 1)] := by kernel_rfl
theorem TS : Ib Tryz.prog 40 = some [(0, 1), (1, 1), (2, 1)] := by kernel_rfl
theorem Hu : Ib Tryz.prog 50 = some [(0, 1), (1, 1), (2, 1)] := by kernel_rfl
theorem W6 : Ib Tryz.prog 76 = some [(0, 1), (1, 1), (2, 1), (3, 1), (4, 1), (5, 1)] := by kernel_rfl
theorem EU : sliceB Tryz.prog 100 4 = true := by kernel_rfl
theorem Gi : sliceB Tryz.prog 116 113 = true := by kernel_rfl
theorem Ik : sliceB Tryz.prog 22 5 = true := by kernel_rfl
theorem Su : sliceB Tryz.prog 23 73 = true := by kernel_rfl
theorem Dp : sliceB Tryz.prog 26 40 = true := by kernel_rfl
theorem AJ : sliceB Tryz.prog 27 3 = true := by kernel_rfl
theorem D2 : sliceB Tryz.prog 28 76 = true := by kernel_rfl
theorem AN : sliceB Tryz.prog 34 50 = true := by kernel_rfl
theorem CQ : sliceB Tryz.prog 48 97 = true := by kernel_rfl
theorem FP : sliceB Tryz.prog 74 100 = true := by kernel_rfl
theorem P6 : (Tryz.prog.underlying 106).isSome = true := by kernel_rfl
theorem Qq : (Tryz.prog.underlying 131).isSome = true := by kernel_rfl
theorem Ss : (Tryz.prog.underlying 133).isSome = true := by kernel_rfl
theorem VT : (Tryz.prog.underlying 3).isSome = true := by kernel_rfl
theorem UR : (Tryz.prog.underlying 5).isSome = true := by kernel_rfl
theorem Ye : (Tryz.prog.underlying 97).isSome = true := by kernel_rfl
theorem TZ : Ou Tryz.prog 9 = true := by kernel_rfl
theorem Jg : Hb Tryz.prog 100 1 = true := by kernel_rfl
theorem Hn : Hb Tryz.prog 113 3 = true := by kernel_rfl
theorem Rt : Hb Tryz.prog 144 1 = true := by kernel_rfl
theorem Yd : Hb Tryz.prog 25 4 = true := by kernel_rfl
theorem SR : Hb Tryz.prog 27 1 = true := by kernel_rfl
theorem Yg : Hb Tryz.prog 28 1 = true := by kernel_rfl
theorem Dh : Hb Tryz.prog 3 1 = true := by kernel_rfl
theorem DQ : Hb Tryz.prog 30 4 = true := by kernel_rfl
theorem Qi : Hb Tryz.prog 4 1 = true := by kernel_rfl
theorem EH : Hb Tryz.prog 40 3 = true := by kernel_rfl
theorem XC : Hb Tryz.prog 48 1 = true := by kernel_rfl
theorem U2 : Hb Tryz.prog 5 1 = true := by kernel_rfl
theorem Ay : Hb Tryz.prog 50 3 = true := by kernel_rfl
theorem Vi : Hb Tryz.prog 73 6 = true := by kernel_rfl
theorem WT : Hb Tryz.prog 74 1 = true := by kernel_rfl
theorem DT : Hb Tryz.prog 76 6 = true := by kernel_rfl
theorem Fo : Hb Tryz.prog 97 1 = true := by kernel_rfl
theorem Sj : Ei Tryz.prog 100 = some (.slice none 0 0) := by kernel_rfl
theorem Hz : Ei Tryz.prog 113 = some (.agg #[.int .i64 0, .int .i64 0, .int .i64 0]) := by kernel_rfl
theorem WC : Ei Tryz.prog 144 = some (.int .u64 0) := by kernel_rfl
theorem Km : Ei Tryz.prog 3 = some (.int .i64 0) := by kernel_rfl
theorem RK : Ei Tryz.prog 30 = some (.agg #[.slice none 0 0, .slice none 0 0, .slice none 0 0, .slice none 0 0]) := by kernel_rfl
theorem Up : Ei Tryz.prog 4 = some (.bool false) := by kernel_rfl
theorem Ix : Ei Tryz.prog 40 = some (.agg #[.int .i64 0, .int .i64 0, .int .i64 0]) := by kernel_rfl
theorem Xk : Ei Tryz.prog 5 = some (.int .u8 0) := by kernel_rfl
theorem Cm : Ei Tryz.prog 50 = some (.agg #[.slice none 0 0, .slice none 0 0, .slice none 0 0]) := by kernel_rfl
theorem XY : Ei Tryz.prog 73 = some (.agg #[.int .u8 0, .int .u8 0, .int .u8 0, .bool false, .int .u16 0, .int .u16 0]) := by kernel_rfl
theorem JV : Ei Tryz.prog 76 = some (.agg #[.int .i64 0, .int .i64 0, .int .i64 0, .bool false, .slice none 0 0, .slice none 0 0]) := by kernel_rfl
theorem Pi : Ei Tryz.prog 97 = some (.int .u8 0) := by kernel_rfl
open IntKind renaming wrap → wI
set_option maxRecDepth 10000
theorem HX (N : Nat) (p0 : List Int) (p1 : Int) (r : Int) (h : DH N p0 p1 = some r) : AB Tryz.prog 32 [pD (.sl (p0.map Bj)), iD p1] [] (iD r) := by
 unfold DH at h
 refine Ar (n := 14) (rs := [.tmp 4]) Tryz.func32 rfl rfl rfl (A4 rfl) (A4 rfl) rfl fun w0 S0 => ?_
 refine Ab (Aa Ac rfl (qa rfl (Ad (Ab (Ab (Aa Ac rfl (qm rfl (qm rfl (AW Ik rfl (A0 rfl (Ad ?_)))))))))))
 refine An rfl (fun c1 => ?_) (fun c1 => ?_)
 ·have h := Am c1 h
  refine Ab (Aa Ac rfl (qm rfl (qm rfl ?_)))
  obtain ⟨v2, a2, b2, h⟩ := Aj h
  refine qi Ik U2 a2 (Ag b2) rfl (qk V6 rfl (Gz UR R7 rfl (qa rfl (Ad ?_))))
  obtain rfl := sj h
  refine Ak (sm [] [(4, iD ((wI .i64 v2)))] [] rfl rfl) (Az ?_)
  exact ⟨⟨[_], ⟨.tmp _ _ rfl, tv⟩, rfl⟩, tv⟩
 ·have h := Al c1 h
  refine Ap (Ab (Aa Ac rfl (qa rfl (Ad ?_))))
  obtain rfl := sj h
  refine Ak (sm [] [(4, iD 0)] [] rfl rfl) (Az ?_)
  exact ⟨⟨[_], ⟨.tmp _ _ rfl, tv⟩, rfl⟩, tv⟩
theorem B9 (N : Nat) (p0 : AI) (r : Bool) (h : A8 N p0 = some r) : AB Tryz.prog 33 [.e (.agg [iC p0.fKind, iC p0.fFrom, iC p0.fTo, .pure (.val (.bool p0.fAware)), sC (p0.fOK.map (Eu eB)), sC (p0.fRewrite.map (Eu eB))])] [] (bD r) := by
 unfold A8 at h
 refine Ar (n := 11) (rs := [.tmp 2]) Tryz.func33 rfl rfl rfl (A4 rfl) (A4 rfl) rfl fun w0 S0 => ?_
 refine Ab (Aa Ac rfl (qb rfl (qa rfl (Ad ?_))))
 refine AT h (fun v1 => mk [(2, bD v1)] []) (fun j1 h => ?_) (fun v1 h => ?_)
 ·refine Aa Ac rfl (qf Fx rfl (ql Cg rfl (BE rfl (qm rfl ?_))))
  refine AF (t := 6) rfl (fun c2 => ?_) (fun c2 => ?_)
  ·have h := Am c2 h
   refine qn rfl (qn rfl (qn rfl (qp rfl (qa rfl (Ad ?_)))))
   exact Aw _ h (sm [] _ _ rfl rfl)
  ·have h := Al c2 h
   refine qf Fx rfl (ql Cg rfl (BE rfl (qp rfl (qa rfl (Ad ?_)))))
   exact Aw _ h (sm [] _ _ rfl rfl)
 ·obtain rfl := sj h
  refine Ak (sm [] [(2, bD v1)] [] rfl rfl) (Az ?_)
  exact ⟨⟨[_], ⟨.tmp _ _ rfl, tv⟩, rfl⟩, tv⟩
theorem H4 (N : Nat) (p0 : Int) (p1 : Int) (p2 : Int) (p3 : Bool) (r : (List (List Bool))) (h : DK N p0 p1 p2 p3 = some r) : AB Tryz.prog 34 [iD p0, iD p1, pD (.val (.int .u16 p2)), bD p3] [(1, r.map (Eu eB))] (oD (.own 0)) := by
 unfold DK at h
 refine Ar (n := 47) (rs := [.tmp 8]) Tryz.func34 rfl rfl rfl (A4 rfl) (A4 rfl) rfl fun w0 S0 => ?_
 refine Ab (Aa Ac rfl (qa rfl (Ad (Ab (Aa Ac rfl (qa rfl (Ad (Ab (Ab (Aa Ac rfl (qa rfl (Ad ?_))))))))))))
 refine AM (L := B8 N p0 p1 p2 p3) h (fun v1 => mk [(0, iD p0), (1, iD p1), (2, pD (.val (.int .u16 p2))), (3, bD p3), (9, oD (.own 2001)), (10, iD v1.2)] [(2001, .vec 1 (v1.1.map (Eu eB)))]) (fun v2 => mk [(9, oD (.own 2002))] [(2002, .vec 1 (v2.map (Eu eB)))]) (fun _ _ => rfl) ((Bg 9 2010 1 rfl rfl rfl).trans (sm [(2001, 2010)] _ _ rfl rfl)) (fun j1 n1 v1 h => ?_) (fun v2 s h hs => ?_)
 ·unfold B8 at h
  refine Ab (Ab (Aa Ac rfl (qm rfl (qm rfl (A0 rfl (Ad ?_))))))
  refine An rfl (fun c3 => ?_) (fun c3 => ?_)
  ·have h := Am c3 h
   refine Ap (Ab (AR (Ab (Aa Ac rfl (qa rfl (Ad (Ab (Ab (Aa Ac rfl (qa rfl (Ad ?_)))))))))))
   refine AM (L := Cb N p1 p2 p3 v1) h (fun v4 => mk [(0, iD p0), (1, iD p1), (2, pD (.val (.int .u16 p2))), (3, bD p3), (9, oD (.own 2003)), (10, iD v1.2), (11, oD (.own 2004)), (12, iD v4.2)] [(2003, .vec 1 (v1.1.map (Eu eB))), (2004, .vec 1 (v4.1.map eB))]) (fun v5 => mk [(0, iD p0), (1, iD p1), (2, pD (.val (.int .u16 p2))), (3, bD p3), (9, oD (.own 2005)), (10, iD v1.2), (11, oD (.own 2006))] [(2005, .vec 1 (v1.1.map (Eu eB))), (2006, .vec 1 (v5.map eB))]) (fun _ _ => rfl) ((Bg 11 2009 1 rfl rfl rfl).trans (sm [(2003, 2001), (2004, 2009)] _ _ rfl rfl)) (fun j4 n4 v4 h => ?_) (fun v5 s h hs => ?_)
   ·unfold Cb at h
    refine Ab (Ab (Aa Ac rfl (qm rfl (qm rfl (A0 rfl (Ad ?_))))))
    refine An rfl (fun c6 => ?_) (fun c6 => ?_)
    ·have h := Am c6 h
     refine Ap ?_
     refine AT h (fun v7 => mk [(0, iD p0), (1, iD p1), (2, pD (.val (.int .u16 p2))), (3, bD p3), (9, oD (.own 2007)), (10, iD v1.2), (11, oD (.own 2008)), (12, iD v4.2)] [(2007, .vec 1 (v1.1.map (Eu eB))), (2008, .vec 1 (v7.map eB))]) (fun j7 h => ?_) (fun v7 h => ?_)
     ·refine AR (Aa Ac rfl (qm rfl (qm rfl (qm rfl ?_))))
      refine AF (t := 25) rfl (fun c8 => ?_) (fun c8 => ?_)
      ·have h := Am c8 h
       refine qm rfl (qm rfl (BE rfl (qp rfl (qm rfl ?_))))
       refine AF (t := 30) rfl (fun c9 => ?_) (fun c9 => ?_)
       ·have h := Am c9 h
        refine qn rfl (qn rfl (qn rfl (qn rfl (qn rfl (qn rfl (qn rfl (qn rfl (qp rfl (DX EU Qi Up rfl ?_)))))))))
        obtain ⟨c10, h⟩ := AL h
        refine De (f := eB) EU EU Qi Vr Up c10 rfl (qa rfl (Ad ?_))
        exact Aw _ h (sm [(2007, 2003), (2008, 41)] _ _ rfl rfl)
       ·have h := Al c9 h
        refine qm rfl (qm rfl (Ie rfl (qm rfl (AX rfl ?_))))
        obtain ⟨c11, h⟩ := AL h
        refine GC rfl c11 (J2 rfl (by decide) (BE rfl (qp rfl (DX EU Qi Up rfl ?_))))
        obtain ⟨c12, h⟩ := AL h
        refine De (f := eB) EU EU Qi Vr Up c12 rfl (qa rfl (Ad ?_))
        exact Aw _ h (sm [(2007, 2003), (2008, 41)] _ _ rfl rfl)
      ·have h := Al c8 h
       refine qn rfl (qn rfl (qn rfl (qp rfl (qm rfl (qm rfl (qm rfl (Ie rfl (qm rfl (AX rfl ?_)))))))))
       obtain ⟨c13, h⟩ := AL h
       refine GC rfl c13 (J2 rfl (by decide) (BE rfl (qp rfl (DX EU Qi Up rfl ?_))))
       obtain ⟨c14, h⟩ := AL h
       refine De (f := eB) EU EU Qi Vr Up c14 rfl (qa rfl (Ad ?_))
       exact Aw _ h (sm [(2007, 2003), (2008, 41)] _ _ rfl rfl)
     ·refine Aa Ac rfl (qm rfl (AX rfl (qa rfl (Ad ?_))))
      exact Aw _ h (sm [(2003, 2007), (2004, 2008)] _ _ rfl rfl)
    ·have h := Al c6 h
     refine AY ?_
     exact Aw _ h (sm [(2005, 2003), (2006, 2004)] _ _ rfl rfl)
   ·refine Ak hs (Aa Ac rfl (qm rfl (qm rfl (CJ (A3 2006 _ _ rfl rfl) (DX FP Jg Sj rfl ?_)))))
    obtain ⟨c15, h⟩ := AL h
    refine De (f := (Eu eB)) FP FP Jg Vv Sj c15 rfl (qa rfl (Ad (Aa Ac rfl (qm rfl (AX rfl (qa rfl (Ad ?_)))))))
    exact Aw _ h (sm [(2001, 45)] _ _ rfl rfl)
  ·have h := Al c3 h
   refine AY ?_
   exact Aw _ h (sm [(2002, 2001)] _ _ rfl rfl)
 ·refine Ak hs (Ab (Aa Ac rfl (qm rfl (qa rfl (Ad ?_)))))
  obtain rfl := sj h
  refine Ak (sm [(1000, 2002)] [(8, oD (.own 1000))] [(1000, .vec 1 (v2.map (Eu eB)))] rfl rfl) (Az ?_)
  exact ⟨⟨[_], ⟨.tmp _ _ rfl, tv⟩, rfl⟩, ⟨rfl, tv⟩⟩
theorem Le (N : Nat) (p0 : B5) (r : Ah × Bool) (h : EQ N p0 = some r) : AB Tryz.prog 9 [.e (.agg [sC (p0.fVersions.map Bj), sC (p0.fNow.map Bj), sC (p0.fTarget.map Bj), sC (p0.fLinks.map B6)])] [(1, r.1.fVersions.map Ai), (1, r.1.fNow.map Ai), (1, r.1.fTarget.map Ai), (6, r.1.fTables.map Ao)] (.tup [.agg [.own 0, .own 1, .own 2, .own 3], .one (.pure (.val (.bool r.2)))]) := by
 unfold EQ at h
 refine Ar (n := 152) (rs := [.cell 2 30, .tmp 3]) Tryz.func9 rfl rfl rfl (A4 rfl) (A4 rfl) rfl fun w0 S0 => ?_
 refine Ab (Aa Ac rfl (qb rfl (qz RK rfl (qa rfl (Ad (Ab ?_))))))
 refine AT h (fun v1 => mk [(1, oD (.ptr 1 0)), (2, oD (.ptr 2 0)), (19, bD v1)] [(1, .box [sC (p0.fVersions.map Bj), sC (p0.fNow.map Bj), sC (p0.fTarget.map Bj), sC (p0.fLinks.map B6)]), (2, .box [.pure (.nil0), .pure (.nil0), .pure (.nil0), .pure (.nil0)])]) (fun j1 h => ?_) (fun v1 h => ?_)
 ·refine Aa Ac rfl (qf O7 rfl (ql S3 rfl (AW Ik rfl (E0 rfl (qm rfl ?_)))))
  refine AF (t := 14) rfl (fun c2 => ?_) (fun c2 => ?_)
  ·have h := Am c2 h
   refine qn rfl (qn rfl (qn rfl (qn rfl (qp rfl (Ad ?_)))))
   exact Aw _ h (sm [] _ _ rfl rfl)
  ·have h := Al c2 h
   refine qf O0 rfl (ql VV rfl (AW Su rfl (E0 rfl (qp rfl (Ad ?_)))))
   exact Aw _ h (sm [] _ _ rfl rfl)
 ·refine An rfl (fun c3 => ?_) (fun c3 => ?_)
  ·have h := Am c3 h
   refine Ab (Aa Ac rfl (BK RK WE rfl (qs DQ rfl (qa rfl (Ad ?_)))))
   obtain rfl := sj h
   refine Ak ((AE 2 0 2001 1 _ rfl rfl rfl rfl).trans ((AE 2 1 2002 1 _ rfl rfl rfl rfl).trans ((AE 2 2 2003 1 _ rfl rfl rfl rfl).trans ((AE 2 3 2004 6 _ rfl rfl rfl rfl).trans (sm [(1000, 2001), (1001, 2002), (1002, 2003), (1003, 2004)] [(2, oD (.ptr 2 0)), (3, bD false)] [(2, .box [.own 1000, .own 1001, .own 1002, .own 1003]), (1000, .vec 1 ((([] : List Int)).map Ai)), (1001, .vec 1 ((([] : List Int)).map Ai)), (1002, .vec 1 ((([] : List Int)).map Ai)), (1003, .vec 6 ((([] : List AI)).map Ao))] rfl rfl))))) (Az ?_)
   exact ⟨⟨[_, _], ⟨.cellN _ _ _ _ _ _ _ rfl rfl Ec DQ rfl rfl (IQ rfl), ⟨.tmp _ _ rfl, tv⟩⟩, rfl⟩, ⟨rfl, rfl, rfl, rfl, tv⟩⟩
  ·have h := Al c3 h
   refine Ap (Ab (Aa Ac rfl (qz RK rfl (Ad (Ab (Ab (Aa Ac rfl (qa rfl (Ad ?_)))))))))
   refine AM (L := Cq N p0) h (fun v4 => mk [(1, oD (.ptr 1 0)), (2, oD (.ptr 2 0)), (4, oD (.ptr 4 0)), (5, iD v4.2.2.2)] [(1, .box [sC (p0.fVersions.map Bj), sC (p0.fNow.map Bj), sC (p0.fTarget.map Bj), sC (p0.fLinks.map B6)]), (2, .box [.pure (.nil0), .pure (.nil0), .pure (.nil0), .pure (.nil0)]), (4, .box [.own 2005, .own 2006, .own 2007, .pure (.nil0)]), (2005, .vec 1 (v4.1.map Ai)), (2006, .vec 1 (v4.2.1.map Ai)), (2007, .vec 1 (v4.2.2.1.map Ai))]) (fun v5 => mk [(1, oD (.ptr 1 0)), (2, oD (.ptr 2 0)), (4, oD (.ptr 4 0))] [(1, .box [sC (p0.fVersions.map Bj), sC (p0.fNow.map Bj), sC (p0.fTarget.map Bj), sC (p0.fLinks.map B6)]), (2, .box [.pure (.nil0), .pure (.nil0), .pure (.nil0), .pure (.nil0)]), (4, .box [.own 2008, .own 2009, .own 2010, .pure (.nil0)]), (2008, .vec 1 (v5.1.map Ai)), (2009, .vec 1 (v5.2.1.map Ai)), (2010, .vec 1 (v5.2.2.map Ai))]) (fun _ _ => rfl) ((AE 4 0 2011 1 _ rfl rfl rfl rfl).trans ((AE 4 1 2012 1 _ rfl rfl rfl rfl).trans ((AE 4 2 2013 1 _ rfl rfl rfl rfl).trans (sm [(2005, 2011), (2006, 2012), (2007, 2013)] _ _ rfl rfl)))) (fun j4 n4 v4 h => ?_) (fun v5 s h hs => ?_)
   ·unfold Cq at h
    refine Ab (Ab (Aa Ac rfl (qm rfl (qf O7 rfl (ql S3 rfl (AW Ik rfl (A0 rfl (Ad ?_))))))))
    refine An rfl (fun c6 => ?_) (fun c6 => ?_)
    ·have h := Am c6 h
     refine Ap (Ab (AR (Ab (Aa Ac rfl (qf O7 rfl (ql S3 rfl (qm rfl ?_)))))))
     obtain ⟨v7, a7, b7, h⟩ := Aj h
     refine qi Ik U2 a7 (Ag b7) rfl (qk V6 rfl (J2 rfl (by decide) (Gz UR R7 rfl (AX rfl (qa rfl (Ad (Ab (Aa Ac rfl (qf By rfl (ql Bh rfl (qm rfl (DX AJ Dh Km rfl ?_))))))))))))
     obtain ⟨c8, h⟩ := AL h
     refine De (f := Ai) AJ AJ Dh Lh Km c8 rfl (qf By rfl (qs SR rfl (Ad (Ab (Aa Ac rfl (qf Ge rfl (ql Bh rfl (qf UU rfl (ql S3 rfl (qm rfl ?_))))))))))
     obtain ⟨v9, a9, h⟩ := bind_some h
     refine AH [] (HX N p0.fNow v4.2.2.2 v9 a9) WM rfl (qm rfl ?_)
     obtain ⟨c10, h⟩ := AL h
     refine J2 rfl c10 (DX AJ Dh Km rfl ?_)
     obtain ⟨c11, h⟩ := AL h
     refine De (f := Ai) AJ AJ Dh Lh Km c11 rfl (qf Ge rfl (qs SR rfl (AQ (by kernel_rfl) (Aa Ac rfl (qf I9 rfl (ql Bh rfl (qf TQ rfl (ql S3 rfl (qm rfl ?_)))))))))
     obtain ⟨v12, a12, h⟩ := bind_some h
     refine AH [] (HX N p0.fTarget v4.2.2.2 v12 a12) WM rfl (qm rfl ?_)
     obtain ⟨c13, h⟩ := AL h
     refine J2 rfl c13 (DX AJ Dh Km rfl ?_)
     obtain ⟨c14, h⟩ := AL h
     refine De (f := Ai) AJ AJ Dh Lh Km c14 rfl (qf I9 rfl (qs SR rfl (AQ (by kernel_rfl) (Aa Ac rfl (qm rfl (AX rfl (qa rfl (Ad ?_))))))))
     exact Aw _ h (sm [(2005, 40), (2006, 51), (2007, 62)] _ _ rfl rfl)
    ·have h := Al c6 h
     refine AY ?_
     exact Aw _ h (sm [(2008, 2005), (2009, 2006), (2010, 2007)] _ _ rfl rfl)
   ·refine Ak hs (Ab (Ab (Aa Ac rfl (qa rfl (Ad ?_)))))
    refine AM (L := Bx N p0 v5) h (fun v15 => mk [(1, oD (.ptr 1 0)), (2, oD (.ptr 2 0)), (4, oD (.ptr 4 0)), (7, iD v15.2)] [(1, .box [sC (p0.fVersions.map Bj), sC (p0.fNow.map Bj), sC (p0.fTarget.map Bj), sC (p0.fLinks.map B6)]), (2, .box [.pure (.nil0), .pure (.nil0), .pure (.nil0), .pure (.nil0)]), (4, .box [.own 2014, .own 2015, .own 2016, .own 2017]), (2014, .vec 1 (v5.1.map Ai)), (2015, .vec 1 (v5.2.1.map Ai)), (2016, .vec 1 (v5.2.2.map Ai)), (2017, .vec 6 (v15.1.map Ao))]) (fun v16 => mk [(2, oD (.ptr 2 0)), (4, oD (.ptr 4 0))] [(2, .box [.pure (.nil0), .pure (.nil0), .pure (.nil0), .pure (.nil0)]), (4, .box [.own 2018, .own 2019, .own 2020, .own 2021]), (2018, .vec 1 (v5.1.map Ai)), (2019, .vec 1 (v5.2.1.map Ai)), (2020, .vec 1 (v5.2.2.map Ai)), (2021, .vec 6 (v16.map Ao))]) (fun _ _ => rfl) ((AE 4 3 2039 6 _ rfl rfl rfl rfl).trans (sm [(2014, 2008), (2015, 2009), (2016, 2010), (2017, 2039)] _ _ rfl rfl)) (fun j15 n15 v15 h => ?_) (fun v16 s h hs => ?_)
    ·unfold Bx at h
     refine Ab ?_
     refine AT h (fun v17 => mk [(1, oD (.ptr 1 0)), (2, oD (.ptr 2 0)), (4, oD (.ptr 4 0)), (7, iD v15.2), (74, bD v17)] [(1, .box [sC (p0.fVersions.map Bj), sC (p0.fNow.map Bj), sC (p0.fTarget.map Bj), sC (p0.fLinks.map B6)]), (2, .box [.pure (.nil0), .pure (.nil0), .pure (.nil0), .pure (.nil0)]), (4, .box [.own 2022, .own 2023, .own 2024, .own 2025]), (2022, .vec 1 (v5.1.map Ai)), (2023, .vec 1 (v5.2.1.map Ai)), (2024, .vec 1 (v5.2.2.map Ai)), (2025, .vec 6 (v15.1.map Ao))]) (fun j17 h => ?_) (fun v17 h => ?_)
     ·refine Aa Ac rfl (qm rfl (qf O0 rfl (ql VV rfl (AW Su rfl (A0 rfl (qm rfl ?_))))))
      refine AF (t := 69) rfl (fun c18 => ?_) (fun c18 => ?_)
      ·have h := Am c18 h
       refine qf By rfl (ql Bh rfl (DD AJ rfl (E0 rfl (qp rfl (Ad ?_)))))
       exact Aw _ h (sm [(2022, 2014), (2023, 2015), (2024, 2016), (2025, 2017)] _ _ rfl rfl)
      ·have h := Al c18 h
       refine qn rfl (qn rfl (qn rfl (qn rfl (qp rfl (Ad ?_)))))
       exact Aw _ h (sm [(2022, 2014), (2023, 2015), (2024, 2016), (2025, 2017)] _ _ rfl rfl)
     ·refine An rfl (fun c19 => ?_) (fun c19 => ?_)
      ·have h := Am c19 h
       refine Ap (Ab (AR (Ab (Aa Ac rfl (qf O0 rfl (ql VV rfl (qm rfl ?_)))))))
       obtain ⟨v20, a20, b20, h⟩ := Aj h
       refine qi Su Vi a20 (Ag b20) rfl (qK X8 Vi rfl (qz XY rfl (qs Vi rfl (Ad (Ab (Aa Ac rfl (qf UA rfl (ql V6 rfl (J2 rfl (by decide) (Gz UR R7 rfl (AX rfl (qf TT rfl (ql V6 rfl (Gz UR R7 rfl (qf By rfl (ql Bh rfl (DD AJ rfl ?_)))))))))))))))))
       obtain ⟨c21, h⟩ := AL h
       refine J2 rfl c21 (qf Uw rfl (ql V6 rfl (Gz UR R7 rfl (qf By rfl (ql Bh rfl (DD AJ rfl ?_))))))
       obtain ⟨c22, h⟩ := AL h
       refine J2 rfl c22 (BK JV W6 rfl (qz JV rfl (qs DT rfl (AQ (by kernel_rfl) ?_))))
       refine AT h (fun v23 => mk [(1, oD (.ptr 1 0)), (2, oD (.ptr 2 0)), (4, oD (.ptr 4 0)), (7, iD v15.2), (8, oD (.ptr 8 0)), (9, oD (.ptr 9 0))] [(1, .box [sC (p0.fVersions.map Bj), sC (p0.fNow.map Bj), sC (p0.fTarget.map Bj), sC (p0.fLinks.map B6)]), (2, .box [.pure (.nil0), .pure (.nil0), .pure (.nil0), .pure (.nil0)]), (4, .box [.own 2026, .own 2027, .own 2028, .own 2029]), (8, .box [.pure (.val (.int .u8 v20.fKind)), .pure (.val (.int .u8 v20.fFrom)), .pure (.val (.int .u8 v20.fTo)), .pure (.val (.bool v20.fAware)), .pure (.val (.int .u16 v20.fBad)), .pure (.val (.int .u16 v20.fLost))]), (9, .box [iC ((wI .i64 (1 + (wI .i64 ((Int.tmod v20.fKind 4)))))), iC ((Int.tmod ((wI .i64 v20.fFrom)) ((v5.1.length : Int)))), iC ((Int.tmod ((wI .i64 v20.fTo)) ((v5.1.length : Int)))), .pure (.val (.bool v23)), .pure (.nil0), .pure (.nil0)]), (2026, .vec 1 (v5.1.map Ai)), (2027, .vec 1 (v5.2.1.map Ai)), (2028, .vec 1 (v5.2.2.map Ai)), (2029, .vec 6 (v15.1.map Ao))]) (fun j23 h => ?_) (fun v23 h => ?_)
       ·refine Aa Ac rfl (qf Ux rfl (ql Rr rfl (qm rfl ?_)))
        refine AF (t := 104) rfl (fun c24 => ?_) (fun c24 => ?_)
        ·have h := Am c24 h
         refine qL G1 DT rfl ?_
         obtain ⟨v25, a25, h⟩ := bind_some h
         refine AH [] (B9 N ((AI.mk ((wI .i64 (1 + (wI .i64 ((Int.tmod v20.fKind 4)))))) ((Int.tmod ((wI .i64 v20.fFrom)) ((v5.1.length : Int)))) ((Int.tmod ((wI .i64 v20.fTo)) ((v5.1.length : Int)))) false (([] : List (List Bool))) (([] : List (List Bool))))) v25 a25) O4 rfl (Cd rfl (qp rfl (qf Im rfl (qs Qi rfl (Ad ?_)))))
         exact Aw _ h (sm [(2026, 2022), (2027, 2023), (2028, 2024), (2029, 2025)] _ _ rfl rfl)
        ·have h := Al c24 h
         refine qn rfl (qn rfl (qn rfl (qp rfl (qf Im rfl (qs Qi rfl (Ad ?_))))))
         exact Aw _ h (sm [(2026, 2022), (2027, 2023), (2028, 2024), (2029, 2025)] _ _ rfl rfl)
       ·refine Ab (Aa Ac rfl (qf By rfl (ql Bh rfl (qf C0 rfl (ql Cg rfl ?_)))))
        obtain ⟨v26, a26, b26, h⟩ := Aj h
        refine qI AJ Dh a26 (Ag b26) rfl (qj Cg (Ag b26) rfl (qf By rfl (ql Bh rfl (qf HN rfl (ql Cg rfl ?_)))))
        obtain ⟨v27, a27, b27, h⟩ := Aj h
        refine qI AJ Dh a27 (Ag b27) rfl (qj Cg (Ag b27) rfl (qf UG rfl (ql WB rfl ?_)))
        obtain ⟨v28, a28, h⟩ := bind_some h
        refine AH [2030] (H4 N v26 v27 v20.fBad false v28 a28) WG rfl (qf I8 rfl (qs WT rfl (AQ (by kernel_rfl) ?_)))
        refine AT h (fun v29 => mk [(1, oD (.ptr 1 0)), (2, oD (.ptr 2 0)), (4, oD (.ptr 4 0)), (7, iD v15.2), (9, oD (.ptr 9 0))] [(1, .box [sC (p0.fVersions.map Bj), sC (p0.fNow.map Bj), sC (p0.fTarget.map Bj), sC (p0.fLinks.map B6)]), (2, .box [.pure (.nil0), .pure (.nil0), .pure (.nil0), .pure (.nil0)]), (4, .box [.own 2031, .own 2032, .own 2033, .own 2034]), (9, .box [iC ((wI .i64 (1 + (wI .i64 ((Int.tmod v20.fKind 4)))))), iC ((Int.tmod ((wI .i64 v20.fFrom)) ((v5.1.length : Int)))), iC ((Int.tmod ((wI .i64 v20.fTo)) ((v5.1.length : Int)))), .pure (.val (.bool v23)), .own 2035, .own 2036]), (2031, .vec 1 (v5.1.map Ai)), (2032, .vec 1 (v5.2.1.map Ai)), (2033, .vec 1 (v5.2.2.map Ai)), (2034, .vec 6 (v15.1.map Ao)), (2035, .vec 1 (v28.map (Eu eB))), (2036, .vec 1 (v29.map (Eu eB)))]) (fun j29 h => ?_) (fun v29 h => ?_)
        ·refine Ab (Aa Ac rfl (qf Fx rfl (ql Cg rfl (BE rfl (Ad ?_)))))
         refine An rfl (fun c30 => ?_) (fun c30 => ?_)
         ·have h := Am c30 h
          refine Aa Ac rfl (qf By rfl (ql Bh rfl (qf C0 rfl (ql Cg rfl ?_))))
          obtain ⟨v31, a31, b31, h⟩ := Aj h
          refine qI AJ Dh a31 (Ag b31) rfl (qj Cg (Ag b31) rfl (qf By rfl (ql Bh rfl (qf C0 rfl (ql Cg rfl ?_)))))
          obtain ⟨v32, a32, b32, h⟩ := Aj h
          refine qI AJ Dh a32 (Ag b32) rfl (qj Cg (Ag b32) rfl (qf Uz rfl (ql WB rfl ?_)))
          obtain ⟨v33, a33, h⟩ := bind_some h
          refine AH [2037] (H4 N v31 v32 v20.fLost true v33 a33) WG rfl (qf F7 rfl (qs WT rfl (AQ (by kernel_rfl) ?_)))
          exact Aw _ h (sm [(2031, 2026), (2032, 2027), (2033, 2028), (2034, 2029), (2035, 2030), (2036, 2037)] _ _ rfl rfl)
         ·have h := Al c30 h
          refine Ap ?_
          exact Aw _ h ((AE 9 5 2038 1 _ rfl rfl rfl rfl).trans (sm [(2031, 2026), (2032, 2027), (2033, 2028), (2034, 2029), (2035, 2030), (2036, 2038)] _ _ rfl rfl))
        ·refine Aa Ac rfl (qf CH rfl (ql G5 rfl (qL G1 DT rfl (CJ (A3 2035 _ _ rfl rfl) (CJ (A3 2036 _ _ rfl rfl) (DX D2 DT JV rfl ?_))))))
         obtain ⟨c34, h⟩ := AL h
         refine De (f := Ao) D2 D2 DT Wc JV c34 rfl (qf CH rfl (qs Yg rfl (Ad (Aa Ac rfl (qm rfl (AX rfl (qa rfl (Ad ?_))))))))
         exact Aw _ h (sm [(2014, 2031), (2015, 2032), (2016, 2033), (2017, 149)] _ _ rfl rfl)
      ·have h := Al c19 h
       refine AY ?_
       exact Aw _ h (sm [(2018, 2022), (2019, 2023), (2020, 2024), (2021, 2025)] _ _ rfl rfl)
    ·refine Ak hs (Ab (Aa Ac rfl (qL Ec DQ rfl (qs DQ rfl (qa rfl (Ad ?_))))))
     obtain rfl := sj h
     refine Ak (sm [(1000, 2018), (1001, 2019), (1002, 2020), (1003, 2021)] [(2, oD (.ptr 2 0)), (3, bD true)] [(2, .box [.own 1000, .own 1001, .own 1002, .own 1003]), (1000, .vec 1 (v5.1.map Ai)), (1001, .vec 1 (v5.2.1.map Ai)), (1002, .vec 1 (v5.2.2.map Ai)), (1003, .vec 6 (v16.map Ao))] rfl rfl) (Az ?_)
     exact ⟨⟨[_, _], ⟨.cellN _ _ _ _ _ _ _ rfl rfl Ec DQ rfl rfl (IQ rfl), ⟨.tmp _ _ rfl, tv⟩⟩, rfl⟩, ⟨rfl, rfl, rfl, rfl, tv⟩⟩
theorem DR (N : Nat) (p0 : Bool) (r : Ah) (h : Cv N p0 = some r) : AB Tryz.prog 35 [bD p0] [(1, r.fVersions.map Ai), (1, r.fNow.map Ai), (1, r.fTarget.map Ai), (6, r.fTables.map Ao)] (.e (.agg [.own 0, .own 1, .own 2, .own 3])) := by
 unfold Cv at h
 refine Ar (n := 15) (rs := [.cell 2 30]) Tryz.func35 rfl rfl rfl (A4 rfl) (A4 rfl) rfl fun w0 S0 => ?_
 refine Ab (Aa Ac rfl (qz RK rfl (Ad (Ab (Aa Ac rfl (DX EU Qi Up rfl (qm rfl (DX EU Qi Up rfl (CJ (A3 4 _ _ rfl rfl) (CJ (A3 6 _ _ rfl rfl) (DX FP Jg Sj rfl (BK JV W6 rfl (qz JV rfl (qs DT rfl (Ad (Ab (Aa Ac rfl (DX AJ Dh Km rfl (DX AJ Dh Km rfl (DX AJ Dh Km rfl (qL G1 DT rfl (CJ (A3 7 _ _ rfl rfl) (DX D2 DT JV rfl (BK RK WE rfl (qs DQ rfl (Ad ?_))))))))))))))))))))))))))
 obtain rfl := sj h
 refine Ak (sm [(1000, 9), (1001, 10), (1002, 11), (1003, 13)] [(2, oD (.ptr 2 0))] [(2, .box [.own 1000, .own 1001, .own 1002, .own 1003]), (1000, .vec 1 ((([2] : List Int)).map Ai)), (1001, .vec 1 ((([0] : List Int)).map Ai)), (1002, .vec 1 ((([1] : List Int)).map Ai)), (1003, .vec 6 ((([(AI.mk 1 0 0 false (([([true, true] : List Bool), ([p0, true] : List Bool)] : List (List Bool))) (([] : List (List Bool))))] : List AI)).map Ao))] rfl rfl) (Az ?_)
 exact ⟨⟨[_], ⟨.cellN _ _ _ _ _ _ _ rfl rfl Ec DQ rfl rfl (IQ rfl), tv⟩, rfl⟩, ⟨rfl, rfl, rfl, rfl, tv⟩⟩
theorem GO (N : Nat) (p0 : Int) (p1 : Int) (r : Bool) (h : DO N p0 p1 = some r) : AB Tryz.prog 100 [iD p0, iD p1] [] (bD r) := by
 unfold DO at h
 refine Ar (n := 12) (rs := [.tmp 4]) Tryz.func100 rfl rfl rfl (A4 rfl) (A4 rfl) rfl fun w0 S0 => ?_
 refine Ab (Aa Ac rfl (qa rfl (Ad ?_)))
 refine AT h (fun v1 => mk [(4, bD v1)] []) (fun j1 h => ?_) (fun v1 h => ?_)
 ·refine Aa Ac rfl (qm rfl (Df rfl (qm rfl ?_)))
  refine AF (t := 7) rfl (fun c2 => ?_) (fun c2 => ?_)
  ·have h := Am c2 h
   refine qm rfl (qm rfl (A0 rfl (qp rfl (qa rfl (Ad ?_)))))
   exact Aw _ h (sm [] _ _ rfl rfl)
  ·have h := Al c2 h
   refine qn rfl (qn rfl (qn rfl (qp rfl (qa rfl (Ad ?_)))))
   exact Aw _ h (sm [] _ _ rfl rfl)
 ·obtain rfl := sj h
  refine Ak (sm [] [(4, bD v1)] [] rfl rfl) (Az ?_)
  exact ⟨⟨[_], ⟨.tmp _ _ rfl, tv⟩, rfl⟩, tv⟩
theorem OO (N : Nat) (p0 : Int) (p1 : Bool) (r : Bool) (h : FV N p0 p1 = some r) : AB Tryz.prog 115 [iD p0, bD p1] [] (bD r) := by
 unfold FV at h
 refine Ar (n := 23) (rs := [.tmp 4]) Tryz.func115 rfl rfl rfl (A4 rfl) (A4 rfl) rfl fun w0 S0 => ?_
 refine Ab (Aa Ac rfl (qa rfl (Ad ?_)))
 refine AT h (fun v1 => mk [(4, bD v1)] []) (fun j1 h => ?_) (fun v1 h => ?_)
 ·refine Aa Ac rfl (qm rfl (BE rfl (qm rfl ?_)))
  refine AF (t := 7) rfl (fun c2 => ?_) (fun c2 => ?_)
  ·have h := Am c2 h
   refine qn rfl (qn rfl (qp rfl (qm rfl (qn rfl (qn rfl (qn rfl (qu rfl (qu rfl (qn rfl (qn rfl (qu rfl (qu rfl (qn rfl (qp rfl (qa rfl (Ad ?_))))))))))))))))
   exact Aw _ h (sm [] _ _ rfl rfl)
  ·have h := Al c2 h
   refine qm rfl (BE rfl (qp rfl (qm rfl ?_)))
   refine AF (t := 11) rfl (fun c3 => ?_) (fun c3 => ?_)
   ·have h := Am c3 h
    refine qn rfl (qn rfl (qn rfl (qu rfl (qu rfl (qn rfl (qn rfl (qu rfl (qu rfl (qn rfl (qp rfl (qa rfl (Ad ?_))))))))))))
    exact Aw _ h (sm [] _ _ rfl rfl)
   ·have h := Al c3 h
    refine qm rfl (BE rfl (qm rfl ?_))
    refine AF (t := 14) rfl (fun c4 => ?_) (fun c4 => ?_)
    ·have h := Am c4 h
     refine qn rfl (qn rfl (qp rfl (qm rfl (qm rfl (Cd rfl (qp rfl (qp rfl (qa rfl (Ad ?_)))))))))
     exact Aw _ h (sm [] _ _ rfl rfl)
    ·have h := Al c4 h
     refine qm rfl (BE rfl (qp rfl (qm rfl ?_)))
     refine AF (t := 18) rfl (fun c5 => ?_) (fun c5 => ?_)
     ·have h := Am c5 h
      refine qm rfl (Cd rfl (qp rfl (qp rfl (qa rfl (Ad ?_)))))
      exact Aw _ h (sm [] _ _ rfl rfl)
     ·have h := Al c5 h
      refine qn rfl (qn rfl (qp rfl (qp rfl (qa rfl (Ad ?_)))))
      exact Aw _ h (sm [] _ _ rfl rfl)
 ·obtain rfl := sj h
  refine Ak (sm [] [(4, bD v1)] [] rfl rfl) (Az ?_)
  exact ⟨⟨[_], ⟨.tmp _ _ rfl, tv⟩, rfl⟩, tv⟩
theorem Ls (N : Nat) (p0 : List Bool) (p1 : Int) (r : Bool) (h : DA N p0 p1 = some r) : AB Tryz.prog 124 [pD (.sl (p0.map eB)), oD (.rop [.val (.int .i64 p1)])] [] (bD r) := by
 unfold DA at h
 refine Ar (n := 8) (rs := [.tmp 3]) Tryz.func124 rfl rfl rfl (A4 rfl) (A4 rfl) rfl fun w0 S0 => ?_
 refine Ab (Aa Ac rfl (qa rfl (Ad (Ab (Aa Ac rfl (qm rfl (AW EU rfl (qk Cg rfl (B2 rfl (qa rfl (Ad ?_)))))))))))
 obtain rfl := sj h
 refine Ak (sm [] [(3, bD (((p0.length : Int) != p1)))] [] rfl rfl) (Az ?_)
 exact ⟨⟨[_], ⟨.tmp _ _ rfl, tv⟩, rfl⟩, tv⟩
theorem Hw (N : Nat) (p0 : List (List Bool)) (p1 : (List Bool) → Option Bool) (r : Int) (h : C6 N p0 p1 = some r) : AB Tryz.prog 126 [pD (.sl (p0.map (Eu eB))), oD (.clo (BT (PH false (Eu eB)) tB p1))] [] (iD r) := by
 unfold C6 at h
 refine Ar (n := 19) (rs := [.tmp 4]) Tryz.func126 rfl rfl rfl (A4 rfl) (A4 rfl) rfl fun w0 S0 => ?_
 refine Ab (Aa Ac rfl (qa rfl (Ad (Ab (Ab (Aa Ac rfl (qm rfl (AW FP rfl (qm rfl (Ad ?_))))))))))
 refine AM (L := Bq N p0 p1) h (fun v1 => mk [(0, pD (.sl (p0.map (Eu eB)))), (1, oD (.clo (BT (PH false (Eu eB)) tB p1))), (7, iD ((p0.length : Int))), (8, iD v1)] []) (fun v2 => mk [] []) (fun _ _ => rfl) (sm [] _ _ rfl rfl) (fun j1 n1 v1 h => ?_) (fun v2 s h hs => ?_)
 ·unfold Bq at h
  refine Ab (Aa Ac rfl (A0 rfl (Ad (Ab ?_))))
  refine An rfl (fun c3 => ?_) (fun c3 => ?_)
  ·have h := Am c3 h
   refine Ap (Ab (AR (Ab (Aa Ac rfl (qm rfl (qa rfl (Ad (Ab (Aa Ac rfl (qm rfl (qm rfl (qm rfl ?_))))))))))))
   obtain ⟨v4, a4, b4, h⟩ := Aj h
   refine qi FP Jg a4 (Ag b4) rfl (qk KK rfl ?_)
   obtain ⟨v5, a5, h⟩ := bind_some h
   refine Em (ds0 := [_]) (ar := (PH false (Eu eB)) v4) (.p rfl) rfl rfl ⟨rfl, tv⟩ rfl rfl rfl (En (OY _ _ (Xh Yk)) a5) ?_
   refine Ad ?_
   refine An rfl (fun c6 => ?_) (fun c6 => ?_)
   ·have h := Am c6 h
    refine Ab (Aa Ac rfl (qm rfl (qa rfl (Ad ?_))))
    obtain rfl := sj h
    refine Ak (sm [] [(4, iD v1)] [] rfl rfl) (Az ?_)
    exact ⟨⟨[_], ⟨.tmp _ _ rfl, tv⟩, rfl⟩, tv⟩
   ·have h := Al c6 h
    refine Ap (Aa Ac rfl (AX rfl (qm rfl (Ad ?_))))
    exact Aw _ h (sm [] _ _ rfl rfl)
  ·have h := Al c3 h
   refine AY ?_
   exact Aw _ h (sm [] _ _ rfl rfl)
 ·refine Ak hs (Ab (Aa Ac rfl (qa rfl (Ad ?_))))
  obtain rfl := sj h
  refine Ak (sm [] [(4, iD ((-1)))] [] rfl rfl) (Az ?_)
  exact ⟨⟨[_], ⟨.tmp _ _ rfl, tv⟩, rfl⟩, tv⟩
theorem GY (N : Nat) (p0 : List (List Bool)) (p1 : (List Bool) → Option Bool) (r : Bool) (h : CD N p0 p1 = some r) : AB Tryz.prog 123 [pD (.sl (p0.map (Eu eB))), oD (.clo (BT (PH false (Eu eB)) tB p1))] [] (bD r) := by
 unfold CD at h
 refine Ar (n := 9) (rs := [.tmp 4]) Tryz.func123 rfl rfl rfl (A4 rfl) (A4 rfl) rfl fun w0 S0 => ?_
 refine Ab (Aa Ac rfl (qa rfl (Ad (Ab (Aa Ac rfl (qm rfl (qm rfl ?_)))))))
 obtain ⟨v1, a1, h⟩ := bind_some h
 refine AH [] (Hw N p0 p1 v1 a1) WH rfl (Df rfl (qa rfl (Ad ?_)))
 obtain rfl := sj h
 refine Ak (sm [] [(4, bD ((decide (0 ≤ v1))))] [] rfl rfl) (Az ?_)
 exact ⟨⟨[_], ⟨.tmp _ _ rfl, tv⟩, rfl⟩, tv⟩
theorem Jt (N : Nat) (p0 : List (List Bool)) (p1 : Int) (p2 : Int) (r : Bool) (h : EI N p0 p1 p2 = some r) : AB Tryz.prog 116 [pD (.sl (p0.map (Eu eB))), iD p1, iD p2] [] (bD r) := by
 unfold EI at h
 refine Ar (n := 17) (rs := [.tmp 6]) Tryz.func116 rfl rfl rfl (A4 rfl) (A4 rfl) rfl fun w0 S0 => ?_
 refine Ab (Aa Ac rfl (qb rfl (qa rfl (Ad ?_))))
 refine AT h (fun v1 => mk [(6, bD v1)] []) (fun j1 h => ?_) (fun v1 h => ?_)
 ·refine Aa Ac rfl (qm rfl (AW FP rfl (qm rfl (BE rfl (qm rfl ?_)))))
  refine AF (t := 11) rfl (fun c2 => ?_) (fun c2 => ?_)
  ·have h := Am c2 h
   refine qm rfl (CJ (M3 5 [.val (.int .i64 p2)] rfl rfl) ?_)
   refine M2 (capD := [_]) (BT (PH false (Eu eB)) tB ((fun (x : List Bool) => DA N x p2))) (.g rfl rfl) Xr rfl ⟨rfl, tv⟩ rfl (fun ar t ht => by obtain ⟨x, r, rfl, hq, rfl⟩ := IJ ht; exact Ls N x p2 r hq) ?_
   obtain ⟨v3, a3, h⟩ := bind_some h
   refine AH [] (GY N p0 ((fun (x : List Bool) => DA N x p2)) v3 a3) Wt rfl (Cd rfl (qp rfl (qa rfl (Ad ?_))))
   exact Aw _ h (sm [] _ _ rfl rfl)
  ·have h := Al c2 h
   refine qn rfl (qn rfl (qn rfl (qn rfl (qp rfl (qa rfl (Ad ?_))))))
   exact Aw _ h (sm [] _ _ rfl rfl)
 ·obtain rfl := sj h
  refine Ak (sm [] [(6, bD v1)] [] rfl rfl) (Az ?_)
  exact ⟨⟨[_], ⟨.tmp _ _ rfl, tv⟩, rfl⟩, tv⟩
theorem NR (N : Nat) (p0 : Ah) (p1 : AI) (r : Int) (h : FA N p0 p1 = some r) : AB Tryz.prog 101 [.e (.agg [sC (p0.fVersions.map Ai), sC (p0.fNow.map Ai), sC (p0.fTarget.map Ai), sC (p0.fTables.map Ao)]), .e (.agg [iC p1.fKind, iC p1.fFrom, iC p1.fTo, .pure (.val (.bool p1.fAware)), sC (p1.fOK.map (Eu eB)), sC (p1.fRewrite.map (Eu eB))])] [] (iD r) := by
 unfold FA at h
 refine Ar (n := 87) (rs := [.tmp 4]) Tryz.func101 rfl rfl rfl (A4 rfl) (A4 rfl) rfl fun w0 S0 => ?_
 refine Ab (Aa Ac rfl (qb rfl (qb rfl (qa rfl (Ad (Ab (Ab (Aa Ac rfl (qf Fx rfl (ql Cg rfl (qf Im rfl (ql Rr rfl ?_))))))))))))
 obtain ⟨v1, a1, h⟩ := bind_some h
 refine AH [] (OO N p1.fKind p1.fAware v1 a1) WQ rfl (Cd rfl (Ad ?_))
 refine An rfl (fun c2 => ?_) (fun c2 => ?_)
 ·have h := Am c2 h
  refine Ab (Aa Ac rfl (qa rfl (Ad ?_)))
  obtain rfl := sj h
  refine Ak (sm [] [(4, iD 1)] [] rfl rfl) (Az ?_)
  exact ⟨⟨[_], ⟨.tmp _ _ rfl, tv⟩, rfl⟩, tv⟩
 ·have h := Al c2 h
  refine Ap (Ab ?_)
  refine AT h (fun v3 => mk [(2, oD (.ptr 2 0)), (3, oD (.ptr 3 0)), (29, bD v3)] [(2, .box [sC (p0.fVersions.map Ai), sC (p0.fNow.map Ai), sC (p0.fTarget.map Ai), sC (p0.fTables.map Ao)]), (3, .box [iC p1.fKind, iC p1.fFrom, iC p1.fTo, .pure (.val (.bool p1.fAware)), sC (p1.fOK.map (Eu eB)), sC (p1.fRewrite.map (Eu eB))])]) (fun j3 h => ?_) (fun v3 h => ?_)
  ·refine Aa Ac rfl (qf C0 rfl (ql Cg rfl (qf By rfl (ql Bh rfl (AW AJ rfl ?_)))))
   obtain ⟨v4, a4, h⟩ := bind_some h
   refine AH [] (GO N p1.fFrom ((p0.fVersions.length : Int)) v4 a4) Q8 rfl (Cd rfl (qm rfl ?_))
   refine AF (t := 21) rfl (fun c5 => ?_) (fun c5 => ?_)
   ·have h := Am c5 h
    refine qn rfl (qn rfl (qn rfl (qn rfl (qn rfl (qn rfl (qn rfl (qp rfl (Ad ?_))))))))
    exact Aw _ h (sm [] _ _ rfl rfl)
   ·have h := Al c5 h
    refine qf HN rfl (ql Cg rfl (qf By rfl (ql Bh rfl (AW AJ rfl ?_))))
    obtain ⟨v6, a6, h⟩ := bind_some h
    refine AH [] (GO N p1.fTo ((p0.fVersions.length : Int)) v6 a6) Q8 rfl (Cd rfl (qp rfl (Ad ?_)))
    exact Aw _ h (sm [] _ _ rfl rfl)
  ·refine An rfl (fun c7 => ?_) (fun c7 => ?_)
   ·have h := Am c7 h
    refine Ab (Aa Ac rfl (qa rfl (Ad ?_)))
    obtain rfl := sj h
    refine Ak (sm [] [(4, iD 4)] [] rfl rfl) (Az ?_)
    exact ⟨⟨[_], ⟨.tmp _ _ rfl, tv⟩, rfl⟩, tv⟩
   ·have h := Al c7 h
    refine Ap (Ab (Aa Ac rfl (qf By rfl (ql Bh rfl (qf C0 rfl (ql Cg rfl ?_))))))
    obtain ⟨v8, a8, b8, h⟩ := Aj h
    refine qi AJ Dh a8 (Ag b8) rfl (qk Cg rfl (qa rfl (Ad (Ab (Aa Ac rfl (qf Fx rfl (ql Cg rfl (BE rfl (qa rfl (Ad (Ab ?_)))))))))))
    refine AT h (fun v9 => mk [(3, oD (.ptr 3 0)), (70, bD v9)] [(3, .box [iC p1.fKind, iC p1.fFrom, iC p1.fTo, .pure (.val (.bool p1.fAware)), sC (p1.fOK.map (Eu eB)), sC (p1.fRewrite.map (Eu eB))])]) (fun j9 h => ?_) (fun v9 h => ?_)
    ·refine Aa Ac rfl (qf I8 rfl (ql Js rfl (qm rfl (qf By rfl (ql Bh rfl (qf HN rfl (ql Cg rfl ?_)))))))
     obtain ⟨v10, a10, b10, h⟩ := Aj h
     refine qi AJ Dh a10 (Ag b10) rfl (qk Cg rfl ?_)
     obtain ⟨v11, a11, h⟩ := bind_some h
     refine AH [] (Jt N p1.fOK v8 v10 v11 a11) Vc rfl (Cd rfl (qm rfl ?_))
     refine AF (t := 50) rfl (fun c12 => ?_) (fun c12 => ?_)
     ·have h := Am c12 h
      refine qn rfl (qn rfl (qu rfl (qu rfl (qu rfl (qu rfl (qu rfl (qu rfl (qn rfl (qp rfl (qm rfl (qn rfl (qn rfl (qn rfl (qu rfl (qu rfl (qu rfl (qu rfl (qn rfl (qp rfl (AQ (by kernel_rfl) ?_))))))))))))))))))))
      exact Aw _ h (sm [] _ _ rfl rfl)
     ·have h := Al c12 h
      refine qm rfl (qm rfl ?_)
      refine AF (t := 52) rfl (fun c13 => ?_) (fun c13 => ?_)
      ·have h := Am c13 h
       refine qf F7 rfl (ql Js rfl (qm rfl (qm rfl ?_)))
       obtain ⟨v14, a14, h⟩ := bind_some h
       refine AH [] (Jt N p1.fRewrite v8 v8 v14 a14) Vc rfl (Cd rfl (qp rfl (qp rfl (qm rfl ?_))))
       refine AF (t := 61) rfl (fun c15 => ?_) (fun c15 => ?_)
       ·have h := Am c15 h
        refine qn rfl (qn rfl (qn rfl (qu rfl (qu rfl (qu rfl (qu rfl (qn rfl (qp rfl (AQ (by kernel_rfl) ?_)))))))))
        exact Aw _ h (sm [] _ _ rfl rfl)
       ·have h := Al c15 h
        refine qm rfl (Cd rfl (qm rfl ?_))
        refine AF (t := 64) rfl (fun c16 => ?_) (fun c16 => ?_)
        ·have h := Am c16 h
         refine qf F7 rfl (ql Js rfl (AW FP rfl (E0 rfl (qp rfl (qp rfl (AQ (by kernel_rfl) ?_))))))
         exact Aw _ h (sm [] _ _ rfl rfl)
        ·have h := Al c16 h
         refine qn rfl (qn rfl (qn rfl (qn rfl (qp rfl (qp rfl (AQ (by kernel_rfl) ?_))))))
         exact Aw _ h (sm [] _ _ rfl rfl)
      ·have h := Al c13 h
       refine qn rfl (qn rfl (qn rfl (qn rfl (qn rfl (qn rfl (qp rfl (qp rfl (qm rfl (qm rfl (Cd rfl (qm rfl ?_)))))))))))
       refine AF (t := 64) rfl (fun c17 => ?_) (fun c17 => ?_)
       ·have h := Am c17 h
        refine qf F7 rfl (ql Js rfl (AW FP rfl (E0 rfl (qp rfl (qp rfl (AQ (by kernel_rfl) ?_))))))
        exact Aw _ h (sm [] _ _ rfl rfl)
       ·have h := Al c17 h
        refine qn rfl (qn rfl (qn rfl (qn rfl (qp rfl (qp rfl (AQ (by kernel_rfl) ?_))))))
        exact Aw _ h (sm [] _ _ rfl rfl)
    ·refine An rfl (fun c18 => ?_) (fun c18 => ?_)
     ·have h := Am c18 h
      refine Ab (Aa Ac rfl (qa rfl (Ad ?_)))
      obtain rfl := sj h
      refine Ak (sm [] [(4, iD 6)] [] rfl rfl) (Az ?_)
      exact ⟨⟨[_], ⟨.tmp _ _ rfl, tv⟩, rfl⟩, tv⟩
     ·have h := Al c18 h
      refine Ap (Ab (Ab (Aa Ac rfl (qf F7 rfl (ql Js rfl (AW FP rfl (qm rfl (Ad ?_))))))))
      refine AM (L := CP N p1) h (fun v19 => mk [(3, oD (.ptr 3 0)), (73, iD ((p1.fRewrite.length : Int))), (74, iD v19)] [(3, .box [iC p1.fKind, iC p1.fFrom, iC p1.fTo, .pure (.val (.bool p1.fAware)), sC (p1.fOK.map (Eu eB)), sC (p1.fRewrite.map (Eu eB))])]) (fun v20 => mk [] []) (fun _ _ => rfl) (sm [] _ _ rfl rfl) (fun j19 n19 v19 h => ?_) (fun v20 s h hs => ?_)
      ·unfold CP at h
       refine Ab (Aa Ac rfl (A0 rfl (Ad (Ab ?_))))
       refine An rfl (fun c21 => ?_) (fun c21 => ?_)
       ·have h := Am c21 h
        refine Ap (Ab (AR (Ab (Aa Ac rfl (qm rfl (qa rfl (Ad (Ab (Aa Ac rfl (qf F7 rfl (ql Js rfl (qm rfl ?_))))))))))))
        obtain ⟨v22, a22, b22, h⟩ := Aj h
        refine qi FP Jg a22 (Ag b22) rfl (qk KK rfl (qm rfl ?_))
        obtain ⟨v23, a23, b23, h⟩ := Aj h
        refine qi EU Qi a23 (Ag b23) rfl (qk Rr rfl (Cd rfl (Ad ?_)))
        refine An rfl (fun c24 => ?_) (fun c24 => ?_)
        ·have h := Am c24 h
         refine Ab (Aa Ac rfl (qa rfl (Ad ?_)))
         obtain rfl := sj h
         refine Ak (sm [] [(4, iD 1)] [] rfl rfl) (Az ?_)
         exact ⟨⟨[_], ⟨.tmp _ _ rfl, tv⟩, rfl⟩, tv⟩
        ·have h := Al c24 h
         refine Ap (Aa Ac rfl (AX rfl (qm rfl (Ad ?_))))
         exact Aw _ h (sm [] _ _ rfl rfl)
       ·have h := Al c21 h
        refine AY ?_
        exact Aw _ h (sm [] _ _ rfl rfl)
      ·refine Ak hs (Ab (Aa Ac rfl (qa rfl (Ad ?_))))
       obtain rfl := sj h
       refine Ak (sm [] [(4, iD 0)] [] rfl rfl) (Az ?_)
       exact ⟨⟨[_], ⟨.tmp _ _ rfl, tv⟩, rfl⟩, tv⟩
theorem Hl (N : Nat) (p0 : Ah) (r : Int) (h : C8 N p0 = some r) : AB Tryz.prog 75 [.e (.agg [sC (p0.fVersions.map Ai), sC (p0.fNow.map Ai), sC (p0.fTarget.map Ai), sC (p0.fTables.map Ao)])] [] (iD r) := by
 unfold C8 at h
 refine Ar (n := 81) (rs := [.tmp 2]) Tryz.func75 rfl rfl rfl (A4 rfl) (A4 rfl) rfl fun w0 S0 => ?_
 refine Ab (Aa Ac rfl (qb rfl (qa rfl (Ad (Ab (Aa Ac rfl (qf By rfl (ql Bh rfl (AW AJ rfl (qa rfl (Ad (Ab ?_))))))))))))
 refine AT h (fun v1 => mk [(1, oD (.ptr 1 0)), (3, iD ((p0.fVersions.length : Int))), (19, bD v1)] [(1, .box [sC (p0.fVersions.map Ai), sC (p0.fNow.map Ai), sC (p0.fTarget.map Ai), sC (p0.fTables.map Ao)])]) (fun j1 h => ?_) (fun v1 h => ?_)
 ·refine Aa Ac rfl (qm rfl (E0 rfl (qm rfl ?_)))
  refine AF (t := 14) rfl (fun c2 => ?_) (fun c2 => ?_)
  ·have h := Am c2 h
   refine qn rfl (qn rfl (qn rfl (qn rfl (qp rfl (Ad ?_)))))
   exact Aw _ h (sm [] _ _ rfl rfl)
  ·have h := Al c2 h
   refine qf CH rfl (ql G5 rfl (AW D2 rfl (E0 rfl (qp rfl (Ad ?_)))))
   exact Aw _ h (sm [] _ _ rfl rfl)
 ·refine An rfl (fun c3 => ?_) (fun c3 => ?_)
  ·have h := Am c3 h
   refine Ab (Aa Ac rfl (qa rfl (Ad ?_)))
   obtain rfl := sj h
   refine Ak (sm [] [(2, iD 3)] [] rfl rfl) (Az ?_)
   exact ⟨⟨[_], ⟨.tmp _ _ rfl, tv⟩, rfl⟩, tv⟩
  ·have h := Al c3 h
   refine Ap (Ab ?_)
   refine AT h (fun v4 => mk [(1, oD (.ptr 1 0)), (31, bD v4)] [(1, .box [sC (p0.fVersions.map Ai), sC (p0.fNow.map Ai), sC (p0.fTarget.map Ai), sC (p0.fTables.map Ao)])]) (fun j4 h => ?_) (fun v4 h => ?_)
   ·refine Aa Ac rfl (qf Ge rfl (ql Bh rfl (AW AJ rfl (qm rfl (B2 rfl (qm rfl ?_))))))
    refine AF (t := 25) rfl (fun c5 => ?_) (fun c5 => ?_)
    ·have h := Am c5 h
     refine qn rfl (qn rfl (qn rfl (qn rfl (qn rfl (qp rfl (Ad ?_))))))
     exact Aw _ h (sm [] _ _ rfl rfl)
    ·have h := Al c5 h
     refine qf I9 rfl (ql Bh rfl (AW AJ rfl (qm rfl (B2 rfl (qp rfl (Ad ?_))))))
     exact Aw _ h (sm [] _ _ rfl rfl)
   ·refine An rfl (fun c6 => ?_) (fun c6 => ?_)
    ·have h := Am c6 h
     refine Ab (Aa Ac rfl (qa rfl (Ad ?_)))
     obtain rfl := sj h
     refine Ak (sm [] [(2, iD 6)] [] rfl rfl) (Az ?_)
     exact ⟨⟨[_], ⟨.tmp _ _ rfl, tv⟩, rfl⟩, tv⟩
    ·have h := Al c6 h
     refine Ap (Ab (Ab (Aa Ac rfl (qf By rfl (ql Bh rfl (AW AJ rfl (qm rfl (Ad ?_))))))))
     refine AM (L := BS N p0) h (fun v7 => mk [(1, oD (.ptr 1 0)), (33, pD (.sl (p0.fVersions.map Ai))), (34, iD ((p0.fVersions.length : Int))), (35, iD v7)] [(1, .box [sC (p0.fVersions.map Ai), sC (p0.fNow.map Ai), sC (p0.fTarget.map Ai), sC (p0.fTables.map Ao)])]) (fun v8 => mk [(1, oD (.ptr 1 0))] [(1, .box [sC (p0.fVersions.map Ai), sC (p0.fNow.map Ai), sC (p0.fTarget.map Ai), sC (p0.fTables.map Ao)])]) (fun _ _ => rfl) (sm [] _ _ rfl rfl) (fun j7 n7 v7 h => ?_) (fun v8 s h hs => ?_)
     ·unfold BS at h
      refine Ab (Aa Ac rfl (A0 rfl (Ad (Ab ?_))))
      refine An rfl (fun c9 => ?_) (fun c9 => ?_)
      ·have h := Am c9 h
       refine Ap (Ab (AR (Ab (Aa Ac rfl (qm rfl ?_)))))
       obtain ⟨v10, a10, b10, h⟩ := Aj h
       refine qi AJ Dh a10 (Ag b10) rfl (qk Cg rfl (qa rfl (qa rfl (Ad ?_))))
       refine AT h (fun v11 => mk [(1, oD (.ptr 1 0)), (33, pD (.sl (p0.fVersions.map Ai))), (34, iD ((p0.fVersions.length : Int))), (35, iD v7), (65, bD v11)] [(1, .box [sC (p0.fVersions.map Ai), sC (p0.fNow.map Ai), sC (p0.fTarget.map Ai), sC (p0.fTables.map Ao)])]) (fun j11 h => ?_) (fun v11 h => ?_)
       ·refine Aa Ac rfl (qm rfl (A0 rfl (qm rfl ?_)))
        refine AF (t := 42) rfl (fun c12 => ?_) (fun c12 => ?_)
        ·have h := Am c12 h
         refine qn rfl (qn rfl (qp rfl (qm rfl (qn rfl (qn rfl (qn rfl (qn rfl (qn rfl (qn rfl (qn rfl (qn rfl (qp rfl (qm rfl (qn rfl (qn rfl (qn rfl (qn rfl (qn rfl (qn rfl (qn rfl (qn rfl (qp rfl (Ad ?_)))))))))))))))))))))))
         exact Aw _ h (sm [] _ _ rfl rfl)
        ·have h := Al c12 h
         refine qm rfl (E0 rfl (qp rfl (qm rfl ?_)))
         refine AF (t := 46) rfl (fun c13 => ?_) (fun c13 => ?_)
         ·have h := Am c13 h
          refine qn rfl (qn rfl (qn rfl (qn rfl (qn rfl (qn rfl (qn rfl (qn rfl (qp rfl (qm rfl (qn rfl (qn rfl (qn rfl (qn rfl (qn rfl (qn rfl (qn rfl (qn rfl (qp rfl (Ad ?_)))))))))))))))))))
          exact Aw _ h (sm [] _ _ rfl rfl)
         ·have h := Al c13 h
          refine qf Ge rfl (ql Bh rfl (qm rfl ?_))
          obtain ⟨v14, a14, b14, h⟩ := Aj h
          refine qi AJ Dh a14 (Ag b14) rfl (qk Cg rfl (qm rfl ?_))
          obtain ⟨v15, a15, h⟩ := bind_some h
          refine AH [] (GO N v14 v10 v15 a15) Q8 rfl (Cd rfl (qp rfl (qm rfl ?_)))
          refine AF (t := 56) rfl (fun c16 => ?_) (fun c16 => ?_)
          ·have h := Am c16 h
           refine qn rfl (qn rfl (qn rfl (qn rfl (qn rfl (qn rfl (qn rfl (qn rfl (qp rfl (Ad ?_)))))))))
           exact Aw _ h (sm [] _ _ rfl rfl)
          ·have h := Al c16 h
           refine qf I9 rfl (ql Bh rfl (qm rfl ?_))
           obtain ⟨v17, a17, b17, h⟩ := Aj h
           refine qi AJ Dh a17 (Ag b17) rfl (qk Cg rfl (qm rfl ?_))
           obtain ⟨v18, a18, h⟩ := bind_some h
           refine AH [] (GO N v17 v10 v18 a18) Q8 rfl (Cd rfl (qp rfl (Ad ?_)))
           exact Aw _ h (sm [] _ _ rfl rfl)
       ·refine An rfl (fun c19 => ?_) (fun c19 => ?_)
        ·have h := Am c19 h
         refine Ab (Aa Ac rfl (qa rfl (Ad ?_)))
         obtain rfl := sj h
         refine Ak (sm [] [(2, iD 7)] [] rfl rfl) (Az ?_)
         exact ⟨⟨[_], ⟨.tmp _ _ rfl, tv⟩, rfl⟩, tv⟩
        ·have h := Al c19 h
         refine Ap (Aa Ac rfl (AX rfl (qm rfl (Ad ?_))))
         exact Aw _ h (sm [] _ _ rfl rfl)
      ·have h := Al c9 h
       refine AY ?_
       exact Aw _ h (sm [] _ _ rfl rfl)
     ·refine Ak hs (Ab (Ab (Aa Ac rfl (qf CH rfl (ql G5 rfl (AW D2 rfl (qm rfl (Ad ?_))))))))
      refine AM (L := BI N p0) h (fun v20 => mk [(1, oD (.ptr 1 0)), (68, pD (.sl (p0.fTables.map Ao))), (69, iD ((p0.fTables.length : Int))), (70, iD v20)] [(1, .box [sC (p0.fVersions.map Ai), sC (p0.fNow.map Ai), sC (p0.fTarget.map Ai), sC (p0.fTables.map Ao)])]) (fun v21 => mk [] []) (fun _ _ => rfl) (sm [] _ _ rfl rfl) (fun j20 n20 v20 h => ?_) (fun v21 s h hs => ?_)
      ·unfold BI at h
       refine Ab (Aa Ac rfl (A0 rfl (Ad (Ab ?_))))
       refine An rfl (fun c22 => ?_) (fun c22 => ?_)
       ·have h := Am c22 h
        refine Ap (Ab (AR (Ab (Aa Ac rfl ?_))))
        obtain ⟨v23, a23, b23, h⟩ := Aj h
        refine qi D2 DT a23 (Ag b23) rfl (qK G1 DT rfl (qz JV rfl (qs DT rfl (Ad (Ab (Aa Ac rfl (qL Ec DQ rfl (qL G1 DT rfl ?_))))))))
        obtain ⟨v24, a24, h⟩ := bind_some h
        refine AH [] (NR N p0 v23 v24 a24) Xf rfl (qa rfl (Ad (Ab (Aa Ac rfl (qm rfl (B2 rfl (Ad ?_)))))))
        refine An rfl (fun c25 => ?_) (fun c25 => ?_)
        ·have h := Am c25 h
         refine Ab (Aa Ac rfl (qm rfl (qa rfl (Ad ?_))))
         obtain rfl := sj h
         refine Ak (sm [] [(2, iD v24)] [] rfl rfl) (Az ?_)
         exact ⟨⟨[_], ⟨.tmp _ _ rfl, tv⟩, rfl⟩, tv⟩
        ·have h := Al c25 h
         refine Ap (Aa Ac rfl (AX rfl (qm rfl (Ad ?_))))
         exact Aw _ h (sm [] _ _ rfl rfl)
       ·have h := Al c22 h
        refine AY ?_
        exact Aw _ h (sm [] _ _ rfl rfl)
      ·refine Ak hs (Ab (Aa Ac rfl (qa rfl (Ad ?_))))
       obtain rfl := sj h
       refine Ak (sm [] [(2, iD 0)] [] rfl rfl) (Az ?_)
       exact ⟨⟨[_], ⟨.tmp _ _ rfl, tv⟩, rfl⟩, tv⟩
theorem DF (N : Nat) (p0 : List Int) (r : (List Int)) (h : BF N p0 = some r) : AB Tryz.prog 58 [pD (.sl (p0.map Ai))] [(1, r.map Ai)] (oD (.own 0)) := by
 unfold BF at h
 refine Ar (n := 8) (rs := [.tmp 2]) Tryz.func58 rfl rfl rfl (A4 rfl) (A4 rfl) rfl fun w0 S0 => ?_
 refine Ab (Aa Ac rfl (qa rfl (Ad (Ab (Ab (Aa Ac rfl (qm rfl ?_)))))))
 refine Pa (.p rfl) rfl AJ ?_
 refine Ad ?_
 refine OV rfl (fun c2 => ?_) ?_
 ·have c2 := List.map_eq_nil_iff.1 c2
  rw [c2] at h
  have h : (some (([] : List Int))) = some r := h
  refine Ab (Aa Ac rfl (qa rfl (Ad ?_)))
  obtain rfl := sj h
  refine Ak ((Bg 2 2001 1 rfl rfl rfl).trans (sm [(1000, 2001)] [(2, oD (.own 1000))] [(1000, .vec 1 ((([] : List Int)).map Ai))] rfl rfl)) (Az ?_)
  exact ⟨⟨[_], ⟨.tmp _ _ rfl, tv⟩, rfl⟩, ⟨rfl, tv⟩⟩
 ·refine Ap (Ab (Aa Ac rfl (DX AJ Dh Km rfl (qm rfl ?_))))
  obtain ⟨c1, h⟩ := AL h
  refine I1 (f := Ai) AJ AJ Dh Lh Km (fun _ => rfl) c1 rfl (qa rfl (Ad ?_))
  obtain rfl := sj h
  refine Ak (sm [(1000, 7)] [(2, oD (.own 1000))] [(1000, .vec 1 (((([] : List Int)) ++ p0).map Ai))] rfl rfl) (Az ?_)
  exact ⟨⟨[_], ⟨.tmp _ _ rfl, tv⟩, rfl⟩, ⟨rfl, tv⟩⟩
theorem Kx (N : Nat) (p0 : Int) (p1 : Int) (r : Int × Int) (h : Gl N p0 p1 = some r) : AB Tryz.prog 117 [pD (.val (.int .u32 p0)), pD (.val (.int .u32 p1))] [] (.tup [.one (.pure (.val (.int .u32 r.1))), .one (.pure (.val (.int .u32 r.2)))]) := by
 unfold Gl at h
 refine Ar (n := 17) (rs := [.tmp 4, .tmp 5]) Tryz.func117 rfl rfl rfl (A4 rfl) (A4 rfl) rfl fun w0 S0 => ?_
 refine Ab (Aa Ac rfl (qa rfl (qa rfl (Ad (Ab (Aa Ac rfl (qm rfl (Gz Qq UV rfl (qm rfl (Gz Qq UV rfl (Ie rfl (qa rfl (Ad (Ab (Aa Ac rfl (qm rfl (GC rfl (by decide) (Gz Ss P7 rfl (qm rfl (Gz Ss P7 rfl (qa rfl (qa rfl (Ad ?_)))))))))))))))))))))))
 obtain rfl := sj h
 refine Ak (sm [] [(4, pD (.val (.int .u32 ((wI .u32 ((D3 .u64 ((wI .u64 ((wI .u64 p0) * (wI .u64 p1)))) 32))))))), (5, pD (.val (.int .u32 ((wI .u32 ((wI .u64 ((wI .u64 p0) * (wI .u64 p1)))))))))] [] rfl rfl) (Az ?_)
 exact ⟨⟨[_, _], ⟨.tmp _ _ rfl, ⟨.tmp _ _ rfl, tv⟩⟩, rfl⟩, tv⟩
theorem KZ (N : Nat) (p0 : Int) (p1 : Int) (r : Int × Int) (h : Gn N p0 p1 = some r) : AB Tryz.prog 118 [pD (.val (.int .u64 p0)), pD (.val (.int .u64 p1))] [] (.tup [.one (.pure (.val (.int .u64 r.1))), .one (.pure (.val (.int .u64 r.2)))]) := by
 unfold Gn at h
 refine Ar (n := 51) (rs := [.tmp 4, .tmp 5]) Tryz.func118 rfl rfl rfl (A4 rfl) (A4 rfl) rfl fun w0 S0 => ?_
 refine Ab (Aa Ac rfl (qa rfl (qa rfl (Ad (Ab (Aa Ac rfl (qm rfl (Ky rfl (qa rfl (Ad (Ab (Aa Ac rfl (qm rfl (GC rfl (by decide) (qa rfl (Ad (Ab (Aa Ac rfl (qm rfl (Ky rfl (qa rfl (Ad (Ab (Aa Ac rfl (qm rfl (GC rfl (by decide) (qa rfl (Ad (Ab (Aa Ac rfl (qm rfl (qm rfl (Ie rfl (qa rfl (Ad (Ab (Aa Ac rfl (qm rfl (qm rfl ?_)))))))))))))))))))))))))))))))))))))))
 refine Ie rfl (qm rfl (GC rfl (by decide) (AX rfl (qa rfl (Ad (Ab (Aa Ac rfl (qm rfl (Ky rfl (qa rfl (Ad (Ab (Aa Ac rfl (qm rfl (GC rfl (by decide) (qa rfl (Ad (Ab (Aa Ac rfl (qm rfl (qm rfl (qm rfl (Ie rfl (AX rfl (qa rfl (Ad (Ab (Aa Ac rfl (qm rfl (qm rfl (Ie rfl (qm rfl (AX rfl (qm rfl (GC rfl (by decide) (AX rfl (qa rfl (Ad (Ab ?_)))))))))))))))))))))))))))))))))))))))
 refine Aa Ac rfl (qm rfl (qm rfl (Ie rfl (qa rfl (Ad ?_)))))
 obtain rfl := sj h
 refine Ak (sm [] [(4, pD (.val (.int .u64 ((wI .u64 ((wI .u64 ((wI .u64 ((D3 .u64 p0 32) * (D3 .u64 p1 32))) + (D3 .u64 ((wI .u64 ((wI .u64 ((D3 .u64 p0 32) * (Fp .u64 p1 4294967295))) + (D3 .u64 ((wI .u64 ((Fp .u64 p0 4294967295) * (Fp .u64 p1 4294967295)))) 32)))) 32))) + (D3 .u64 ((wI .u64 ((Fp .u64 ((wI .u64 ((wI .u64 ((D3 .u64 p0 32) * (Fp .u64 p1 4294967295))) + (D3 .u64 ((wI .u64 ((Fp .u64 p0 4294967295) * (Fp .u64 p1 4294967295)))) 32)))) 4294967295) + (wI .u64 ((Fp .u64 p0 4294967295) * (D3 .u64 p1 32)))))) 32))))))), (5, pD (.val (.int .u64 ((wI .u64 (p0 * p1))))))] [] rfl rfl) (Az ?_)
 exact ⟨⟨[_, _], ⟨.tmp _ _ rfl, ⟨.tmp _ _ rfl, tv⟩⟩, rfl⟩, tv⟩
theorem Mf (N : Nat) (p0 : Int) (p1 : Int) (r : Int × Int) (h : Hf N p0 p1 = some r) : AB Tryz.prog 102 [pD (.val (.int .u64 p0)), pD (.val (.int .u64 p1))] [] (.tup [.one (.pure (.val (.int .u64 r.1))), .one (.pure (.val (.int .u64 r.2)))]) := by
 unfold Hf at h
 refine Ar (n := 30) (rs := [.tmp 4, .tmp 5]) Tryz.func102 rfl rfl rfl (A4 rfl) (A4 rfl) rfl fun w0 S0 => ?_
 refine Ab (Aa Ac rfl (qa rfl (qa rfl (Ad (Ab ?_)))))
 refine An rfl (fun c1 => ?_) (fun c1 => ?_)
 ·have h := Am c1 h
  refine Ab (Aa Ac rfl (qm rfl (Gz P6 P7 rfl (qm rfl (Gz P6 P7 rfl ?_)))))
  obtain ⟨v2, a2, h⟩ := bind_some h
  refine AH [] (Kx N ((wI .u32 p0)) ((wI .u32 p1)) v2 a2) WP rfl (qm rfl (qx rfl (qx rfl (qa rfl (qa rfl (Ad (Ab (Aa Ac rfl (qm rfl (Gz Qq N8 rfl (qm rfl (Gz Qq N8 rfl (qa rfl (qa rfl (Ad ?_)))))))))))))))
  obtain rfl := sj h
  refine Ak (sm [] [(4, pD (.val (.int .u64 ((wI .u64 v2.1))))), (5, pD (.val (.int .u64 ((wI .u64 v2.2)))))] [] rfl rfl) (Az ?_)
  exact ⟨⟨[_, _], ⟨.tmp _ _ rfl, ⟨.tmp _ _ rfl, tv⟩⟩, rfl⟩, tv⟩
 ·have h := Al c1 h
  refine Ap (Ab (Aa Ac rfl (qm rfl (qm rfl ?_))))
  obtain ⟨v3, a3, h⟩ := bind_some h
  refine AH [] (KZ N p0 p1 v3 a3) WI rfl (qm rfl (qx rfl (qx rfl (qa rfl (qa rfl (Ad (Ab (Aa Ac rfl (qm rfl (qm rfl (qa rfl (qa rfl (Ad ?_)))))))))))))
  obtain rfl := sj h
  refine Ak (sm [] [(4, pD (.val (.int .u64 v3.1))), (5, pD (.val (.int .u64 v3.2)))] [] rfl rfl) (Az ?_)
  exact ⟨⟨[_, _], ⟨.tmp _ _ rfl, ⟨.tmp _ _ rfl, tv⟩⟩, rfl⟩, tv⟩
theorem IE (N : Nat) (p0 : List Int) (p1 : Int) (r : (List Int)) (h : D4 N p0 p1 = some r) : AB Tryz.prog 76 [pD (.sl (p0.map Ai)), iD p1] [(1, r.map Ai)] (oD (.own 0)) := by
 unfold D4 at h
 refine Ar (n := 48) (rs := [.tmp 4]) Tryz.func76 rfl rfl rfl (A4 rfl) (A4 rfl) rfl fun w0 S0 => ?_
 refine Ab (Aa Ac rfl (qa rfl (Ad ?_)))
 refine AT h (fun v1 => mk [(0, pD (.sl (p0.map Ai))), (1, iD p1)] []) (fun j1 h => ?_) (fun v1 h => ?_)
 ·refine Ab (Aa Ac rfl (qm rfl (A0 rfl (Ad ?_))))
  refine An rfl (fun c2 => ?_) (fun c2 => ?_)
  ·have h := Am c2 h
   refine Aa Ac rfl ?_
   cases h
  ·have h := Al c2 h
   refine Ap ?_
   exact Aw _ h (sm [] _ _ rfl rfl)
 ·refine Ab (Aa Ac rfl (qm rfl (AW AJ rfl (Gz VT N8 rfl (qm rfl (Gz VT N8 rfl ?_))))))
  obtain ⟨v3, a3, h⟩ := bind_some h
  refine AH [] (Mf N ((wI .u64 ((p0.length : Int)))) ((wI .u64 p1)) v3 a3) WN rfl (qm rfl (qx rfl (qx rfl (qa rfl (qa rfl (Ad ?_))))))
  refine AT h (fun v4 => mk [(0, pD (.sl (p0.map Ai))), (6, pD (.val (.int .u64 v3.2)))] []) (fun j4 h => ?_) (fun v4 h => ?_)
  ·refine AT h (fun v5 => mk [(0, pD (.sl (p0.map Ai))), (6, pD (.val (.int .u64 v3.2))), (26, bD v5)] []) (fun j5 h => ?_) (fun v5 h => ?_)
   ·refine Aa Ac rfl (qm rfl (E0 rfl (qm rfl ?_)))
    refine AF (t := 23) rfl (fun c6 => ?_) (fun c6 => ?_)
    ·have h := Am c6 h
     refine qn rfl (qn rfl (qp rfl (Ad ?_)))
     exact Aw _ h (sm [] _ _ rfl rfl)
    ·have h := Al c6 h
     refine qm rfl (E0 rfl (qp rfl (Ad ?_)))
     exact Aw _ h (sm [] _ _ rfl rfl)
   ·refine An rfl (fun c7 => ?_) (fun c7 => ?_)
    ·have h := Am c7 h
     refine Aa Ac rfl ?_
     cases h
    ·have h := Al c7 h
     refine Ap ?_
     exact Aw _ h (sm [] _ _ rfl rfl)
  ·refine Ab (Aa Ac rfl (qm rfl (Gz P6 R7 rfl ?_)))
   obtain ⟨c8, h⟩ := AL h
   refine LM (.p rfl) rfl rfl rfl AJ Dh Lh (A4 rfl) Km rfl rfl rfl c8.1 c8.2.1 c8.2.2 (Rx Ai _ ((0 : Int))) ?_
   refine qa rfl (Ad (Ab (Aa Ac rfl (qm rfl (qm rfl ?_)))))
   refine Ry Ai (List.replicate ((wI .i64 v3.2)).toNat ((0 : Int))) p0 (.p rfl) rfl (F4 Ai _ _ (List.replicate ((wI .i64 v3.2)).toNat ((0 : Int)))) rfl rfl (UO Ai _ _ (fun _ => rfl)) tv AJ Dh ?_
   refine qa rfl (Ad (Ab ?_))
   refine AM (L := Dv N) h (fun v9 => mk [(7, oD (.own 2001)), (8, iD v9.2)] [(2001, .vec 1 (v9.1.map Ai))]) (fun v10 => mk [(7, oD (.own 2002))] [(2002, .vec 1 (v10.map Ai))]) (fun _ _ => rfl) (sm [(2001, 30)] _ _ rfl rfl) (fun j9 n9 v9 h => ?_) (fun v10 s h hs => ?_)
   ·unfold Dv at h
    refine Ab (Ab (Aa Ac rfl (qm rfl (qm rfl (DD AJ rfl (A0 rfl (Ad ?_)))))))
    refine An rfl (fun c11 => ?_) (fun c11 => ?_)
    ·have h := Am c11 h
     refine Ap (AR (Aa Ac rfl (qm rfl (qm rfl (qm rfl ?_)))))
     obtain ⟨c12, h⟩ := AL h
     have w13 : ((v9.2).toNat) + ((v9.1.length - (v9.2).toNat)) ≤ v9.1.length := by have := c12.2.1; have := c12.2.2; omega
     refine GG Ai v9.1 (.p rfl) rfl (F4 Ai _ _ v9.1) rfl AJ Dh (.some _ _ _ _ c12.1) (.none _) ⟨rfl, tv⟩ tv c12.2.1 (by rw [Nat.zero_add]; exact c12.2.2) (Nat.zero_add _) rfl ?_
     refine qm rfl (qm rfl ?_)
     obtain ⟨c14, h⟩ := AL h
     have w15 : 0 + ((v9.2).toNat) ≤ v9.1.length := by have := c14.2.1; have := c14.2.2; omega
     refine GG Ai v9.1 (.p rfl) rfl (F4 Ai _ _ v9.1) rfl AJ Dh (.none _) (.some _ _ _ _ c14.1) tv ⟨rfl, tv⟩ c14.2.1 (by rw [Nat.zero_add]; exact c14.2.2) (Nat.zero_add _) rfl ?_
     refine Ry Ai v9.1 (((v9.1.drop 0).take ((v9.2).toNat))) (.p rfl) rfl (LE Ai _ _ ((v9.2).toNat) ((v9.1.length - (v9.2).toNat)) v9.1 w13) rfl rfl (LB Ai _ _ 0 ((v9.2).toNat) v9.1 w15) ⟨rfl, tv⟩ AJ Dh ?_
     refine AX rfl (qa rfl (AQ (by kernel_rfl) ?_))
     exact Aw _ h (sm [] _ _ rfl rfl)
    ·have h := Al c11 h
     refine AY ?_
     exact Aw _ h (sm [(2002, 2001)] _ _ rfl rfl)
   ·refine Ak hs (Ab (Aa Ac rfl (qm rfl (qa rfl (Ad ?_)))))
    obtain rfl := sj h
    refine Ak (sm [(1000, 2002)] [(4, oD (.own 1000))] [(1000, .vec 1 (v10.map Ai))] rfl rfl) (Az ?_)
    exact ⟨⟨[_], ⟨.tmp _ _ rfl, tv⟩, rfl⟩, ⟨rfl, tv⟩⟩
theorem I0 (N : Nat) (p0 : AI) (r : Bool) (h : EV N p0 = some r) : AB Tryz.prog 77 [.e (.agg [iC p0.fKind, iC p0.fFrom, iC p0.fTo, .pure (.val (.bool p0.fAware)), sC (p0.fOK.map (Eu eB)), sC (p0.fRewrite.map (Eu eB))])] [] (bD r) := by
 unfold EV at h
 refine Ar (n := 11) (rs := [.tmp 2]) Tryz.func77 rfl rfl rfl (A4 rfl) (A4 rfl) rfl fun w0 S0 => ?_
 refine Ab (Aa Ac rfl (qb rfl (qa rfl (Ad ?_))))
 refine AT h (fun v1 => mk [(2, bD v1)] []) (fun j1 h => ?_) (fun v1 h => ?_)
 ·refine Aa Ac rfl (qf Fx rfl (ql Cg rfl (BE rfl (qm rfl ?_))))
  refine AF (t := 6) rfl (fun c2 => ?_) (fun c2 => ?_)
  ·have h := Am c2 h
   refine qn rfl (qn rfl (qn rfl (qp rfl (qa rfl (Ad ?_)))))
   exact Aw _ h (sm [] _ _ rfl rfl)
  ·have h := Al c2 h
   refine qf Fx rfl (ql Cg rfl (BE rfl (qp rfl (qa rfl (Ad ?_)))))
   exact Aw _ h (sm [] _ _ rfl rfl)
 ·obtain rfl := sj h
  refine Ak (sm [] [(2, bD v1)] [] rfl rfl) (Az ?_)
  exact ⟨⟨[_], ⟨.tmp _ _ rfl, tv⟩, rfl⟩, tv⟩
theorem LW (N : Nat) (p0 : Ah) (r : Ae × Int) (h : FM N p0 = some r) : AB Tryz.prog 55 [.e (.agg [sC (p0.fVersions.map Ai), sC (p0.fNow.map Ai), sC (p0.fTarget.map Ai), sC (p0.fTables.map Ao)])] [(1, r.1.fBase.map Ai), (1, r.1.fNext.map Ai), (1, r.1.fHeld.map Bj)] (.tup [.agg [.own 0, .own 1, .own 2], .one (iC r.2)]) := by
 unfold FM at h
 refine Ar (n := 50) (rs := [.cell 2 50, .tmp 3]) Tryz.func55 rfl rfl rfl (A4 rfl) (A4 rfl) rfl fun w0 S0 => ?_
 refine Ab (Aa Ac rfl (qb rfl (qz Cm rfl (qa rfl (Ad (Ab (Ab (Aa Ac rfl (qL Ec DQ rfl ?_)))))))))
 obtain ⟨v1, a1, h⟩ := bind_some h
 refine AH [] (Hl N p0 v1 a1) Xp rfl (qa rfl (Ad (Ab (Aa Ac rfl (qm rfl (B2 rfl (Ad ?_)))))))
 refine An rfl (fun c2 => ?_) (fun c2 => ?_)
 ·have h := Am c2 h
  refine Ab (Aa Ac rfl (BK Cm Hu rfl (qm rfl (qs Ay rfl (qa rfl (Ad ?_))))))
  obtain rfl := sj h
  refine Ak ((AE 2 0 2001 1 _ rfl rfl rfl rfl).trans ((AE 2 1 2002 1 _ rfl rfl rfl rfl).trans ((AE 2 2 2003 1 _ rfl rfl rfl rfl).trans (sm [(1000, 2001), (1001, 2002), (1002, 2003)] [(2, oD (.ptr 2 0)), (3, iD v1)] [(2, .box [.own 1000, .own 1001, .own 1002]), (1000, .vec 1 ((([] : List Int)).map Ai)), (1001, .vec 1 ((([] : List Int)).map Ai)), (1002, .vec 1 ((([] : List Int)).map Bj))] rfl rfl)))) (Az ?_)
  exact ⟨⟨[_, _], ⟨.cellN _ _ _ _ _ _ _ rfl rfl A1 Ay rfl rfl (IQ rfl), ⟨.tmp _ _ rfl, tv⟩⟩, rfl⟩, ⟨rfl, rfl, rfl, tv⟩⟩
 ·have h := Al c2 h
  refine Ap (Ab (Aa Ac rfl (qf Ge rfl (ql Bh rfl ?_))))
  obtain ⟨v3, a3, h⟩ := bind_some h
  refine AH [2004] (DF N p0.fNow v3 a3) SV rfl (DX AJ Dh Km rfl (qf Ge rfl (ql Bh rfl (AW AJ rfl ?_))))
  obtain ⟨v4, a4, h⟩ := bind_some h
  refine F9 [2005] [17] (IE N (([(-1)] : List Int)) ((p0.fNow.length : Int)) v4 a4) X3 (Ng (fun _ => rfl) EJ) rfl (qf CH rfl (ql G5 rfl (AW D2 rfl ?_)))
  obtain ⟨c5, h⟩ := AL h
  refine LM (.p rfl) rfl rfl rfl CQ Fo Pt (A4 rfl) Pi rfl rfl rfl c5.1 c5.2.1 c5.2.2 (Rx Bj _ ((0 : Int))) ?_
  refine BK Cm Hu rfl (qz Cm rfl (qs Ay rfl (AQ (by kernel_rfl) (Ab (Ab (Aa Ac rfl (qf CH rfl (ql G5 rfl (AW D2 rfl (qm rfl (Ad ?_)))))))))))
  refine AM (L := DL N p0) h (fun v6 => mk [(1, oD (.ptr 1 0)), (2, oD (.ptr 2 0)), (5, oD (.ptr 5 0)), (28, pD (.sl (p0.fTables.map Ao))), (29, iD ((p0.fTables.length : Int))), (30, iD v6.2)] [(1, .box [sC (p0.fVersions.map Ai), sC (p0.fNow.map Ai), sC (p0.fTarget.map Ai), sC (p0.fTables.map Ao)]), (2, .box [.pure (.nil0), .pure (.nil0), .pure (.nil0)]), (5, .box [.own 2006, .own 2007, .own 2008]), (2006, .vec 1 (v3.map Ai)), (2007, .vec 1 (v4.map Ai)), (2008, .vec 1 (v6.1.map Bj))]) (fun v7 => mk [(2, oD (.ptr 2 0)), (5, oD (.ptr 5 0))] [(2, .box [.pure (.nil0), .pure (.nil0), .pure (.nil0)]), (5, .box [.own 2009, .own 2010, .own 2011]), (2009, .vec 1 (v3.map Ai)), (2010, .vec 1 (v4.map Ai)), (2011, .vec 1 (v7.map Bj))]) (fun _ _ => rfl) (sm [(2006, 2004), (2007, 2005), (2008, 25)] _ _ rfl rfl) (fun j6 n6 v6 h => ?_) (fun v7 s h hs => ?_)
  ·unfold DL at h
   refine Ab (Aa Ac rfl (A0 rfl (Ad (Ab ?_))))
   refine An rfl (fun c8 => ?_) (fun c8 => ?_)
   ·have h := Am c8 h
    refine Ap ?_
    refine AT h (fun v9 => mk [(1, oD (.ptr 1 0)), (2, oD (.ptr 2 0)), (5, oD (.ptr 5 0)), (28, pD (.sl (p0.fTables.map Ao))), (29, iD ((p0.fTables.length : Int))), (30, iD v6.2)] [(1, .box [sC (p0.fVersions.map Ai), sC (p0.fNow.map Ai), sC (p0.fTarget.map Ai), sC (p0.fTables.map Ao)]), (2, .box [.pure (.nil0), .pure (.nil0), .pure (.nil0)]), (5, .box [.own 2012, .own 2013, .own 2014]), (2012, .vec 1 (v3.map Ai)), (2013, .vec 1 (v4.map Ai)), (2014, .vec 1 (v9.map Bj))]) (fun j9 h => ?_) (fun v9 h => ?_)
    ·refine AR (Ab (Aa Ac rfl (qm rfl ?_)))
     obtain ⟨v10, a10, b10, h⟩ := Aj h
     refine qi D2 DT a10 (Ag b10) rfl (qK G1 DT rfl (qz JV rfl (qa rfl (qs DT rfl (Ad (Ab (Aa Ac rfl (qL G1 DT rfl ?_))))))))
     obtain ⟨v11, a11, h⟩ := bind_some h
     refine AH [] (I0 N v10 v11 a11) VN rfl (Ad ?_)
     refine An rfl (fun c12 => ?_) (fun c12 => ?_)
     ·have h := Am c12 h
      refine Aa Ac rfl (qf Cn rfl (ql Gr rfl (qm rfl (qf Ge rfl (ql Bh rfl (qf C0 rfl (ql Cg rfl ?_)))))))
      obtain ⟨v13, a13, b13, h⟩ := Aj h
      refine qi AJ Dh a13 (Ag b13) rfl (qk Cg rfl ?_)
      obtain ⟨c14, h⟩ := AL h
      refine Hs rfl c14 ?_
      obtain ⟨v15, a15, b15, h⟩ := Aj h
      refine qI CQ Fo a15 (Ag b15) rfl ?_
      refine Ba rfl rfl rfl rfl (Ag b15) rfl Fo rfl (A4 rfl) (A9 Bj v6.1 _ ((Cc .u8 1 v13))) ?_
      refine AQ (by kernel_rfl) ?_
      exact Aw _ h (sm [(2012, 2006), (2013, 2007), (2014, 2008)] _ _ rfl rfl)
     ·have h := Al c12 h
      refine Ap ?_
      exact Aw _ h (sm [(2012, 2006), (2013, 2007), (2014, 2008)] _ _ rfl rfl)
    ·refine Aa Ac rfl (AX rfl (qm rfl (Ad ?_)))
     exact Aw _ h (sm [(2006, 2012), (2007, 2013), (2008, 2014)] _ _ rfl rfl)
   ·have h := Al c8 h
    refine AY ?_
    exact Aw _ h (sm [(2009, 2006), (2010, 2007), (2011, 2008)] _ _ rfl rfl)
  ·refine Ak hs (Ab (Aa Ac rfl (qL A1 Ay rfl (qs Ay rfl (qa rfl (Ad ?_))))))
   obtain rfl := sj h
   refine Ak (sm [(1000, 2009), (1001, 2010), (1002, 2011)] [(2, oD (.ptr 2 0)), (3, iD 0)] [(2, .box [.own 1000, .own 1001, .own 1002]), (1000, .vec 1 (v3.map Ai)), (1001, .vec 1 (v4.map Ai)), (1002, .vec 1 (v7.map Bj))] rfl rfl) (Az ?_)
   exact ⟨⟨[_, _], ⟨.cellN _ _ _ _ _ _ _ rfl rfl A1 Ay rfl rfl (IQ rfl), ⟨.tmp _ _ rfl, tv⟩⟩, rfl⟩, ⟨rfl, rfl, rfl, tv⟩⟩
theorem Ip (N : Nat) (p0 : Ae) (p1 : Int) (r : Int) (h : Ey N p0 p1 = some r) : AB Tryz.prog 80 [.e (.agg [sC (p0.fBase.map Ai), sC (p0.fNext.map Ai), sC (p0.fHeld.map Bj)]), iD p1] [] (pD (.val (.int .u8 r))) := by
 unfold Ey at h
 refine Ar (n := 27) (rs := [.tmp 4]) Tryz.func80 rfl rfl rfl (A4 rfl) (A4 rfl) rfl fun w0 S0 => ?_
 refine Ab (Aa Ac rfl (qb rfl (qa rfl (Ad (Ab (Aa Ac rfl (qf CE rfl (ql Bh rfl (qm rfl ?_)))))))))
 obtain ⟨v1, a1, b1, h⟩ := Aj h
 refine qi AJ Dh a1 (Ag b1) rfl (qk Cg rfl ?_)
 obtain ⟨c2, h⟩ := AL h
 refine Hs rfl c2 (qa rfl (Ad ?_))
 refine AT h (fun v3 => mk [(5, pD (.val (.int .u8 v3)))] []) (fun j3 h => ?_) (fun v3 h => ?_)
 ·refine Ab (Aa Ac rfl (qf BB rfl (ql Bh rfl (qm rfl ?_))))
  obtain ⟨v4, a4, b4, h⟩ := Aj h
  refine qi AJ Dh a4 (Ag b4) rfl (qk Cg rfl (Df rfl (Ad ?_)))
  refine An rfl (fun c5 => ?_) (fun c5 => ?_)
  ·have h := Am c5 h
   refine Aa Ac rfl (qm rfl (qf BB rfl (ql Bh rfl (qm rfl ?_))))
   obtain ⟨v6, a6, b6, h⟩ := Aj h
   refine qi AJ Dh a6 (Ag b6) rfl (qk Cg rfl ?_)
   obtain ⟨c7, h⟩ := AL h
   refine Hs rfl c7 (SZ rfl (qa rfl (Ad ?_)))
   exact Aw _ h (sm [] _ _ rfl rfl)
  ·have h := Al c5 h
   refine Ap ?_
   exact Aw _ h (sm [] _ _ rfl rfl)
 ·refine Ab (Aa Ac rfl (qm rfl (qa rfl (Ad ?_))))
  obtain rfl := sj h
  refine Ak (sm [] [(4, pD (.val (.int .u8 v3)))] [] rfl rfl) (Az ?_)
  exact ⟨⟨[_], ⟨.tmp _ _ rfl, tv⟩, rfl⟩, tv⟩
theorem H9 (N : Nat) (p0 : Ah) (p1 : Ae) (r : Int) (h : ET N p0 p1 = some r) : AB Tryz.prog 57 [.e (.agg [sC (p0.fVersions.map Ai), sC (p0.fNow.map Ai), sC (p0.fTarget.map Ai), sC (p0.fTables.map Ao)]), .e (.agg [sC (p1.fBase.map Ai), sC (p1.fNext.map Ai), sC (p1.fHeld.map Bj)])] [] (iD r) := by
 unfold ET at h
 refine Ar (n := 135) (rs := [.tmp 4]) Tryz.func57 rfl rfl rfl (A4 rfl) (A4 rfl) rfl fun w0 S0 => ?_
 refine Ab (Aa Ac rfl (qb rfl (qb rfl (qa rfl (Ad (Ab (Ab (Aa Ac rfl (qL Ec DQ rfl ?_)))))))))
 obtain ⟨v1, a1, h⟩ := bind_some h
 refine AH [] (Hl N p0 v1 a1) Xp rfl (qa rfl (Ad (Ab (Aa Ac rfl (qm rfl (B2 rfl (Ad ?_)))))))
 refine An rfl (fun c2 => ?_) (fun c2 => ?_)
 ·have h := Am c2 h
  refine Ab (Aa Ac rfl (qm rfl (qa rfl (Ad ?_))))
  obtain rfl := sj h
  refine Ak (sm [] [(4, iD v1)] [] rfl rfl) (Az ?_)
  exact ⟨⟨[_], ⟨.tmp _ _ rfl, tv⟩, rfl⟩, tv⟩
 ·have h := Al c2 h
  refine Ap (Ab ?_)
  refine AT h (fun v3 => mk [(2, oD (.ptr 2 0)), (3, oD (.ptr 3 0)), (41, bD v3)] [(2, .box [sC (p0.fVersions.map Ai), sC (p0.fNow.map Ai), sC (p0.fTarget.map Ai), sC (p0.fTables.map Ao)]), (3, .box [sC (p1.fBase.map Ai), sC (p1.fNext.map Ai), sC (p1.fHeld.map Bj)])]) (fun j3 h => ?_) (fun v3 h => ?_)
  ·refine Aa Ac rfl (qf CE rfl (ql Bh rfl (AW AJ rfl (qf By rfl (ql Bh rfl (AW AJ rfl (B2 rfl (qm rfl ?_))))))))
   refine AF (t := 24) rfl (fun c4 => ?_) (fun c4 => ?_)
   ·have h := Am c4 h
    refine qn rfl (qn rfl (qn rfl (qn rfl (qn rfl (qn rfl (qn rfl (qp rfl (qm rfl (qn rfl (qn rfl (qn rfl (qn rfl (qn rfl (qn rfl (qn rfl (qp rfl (Ad ?_)))))))))))))))))
    exact Aw _ h (sm [] _ _ rfl rfl)
   ·have h := Al c4 h
    refine qf BB rfl (ql Bh rfl (AW AJ rfl (qf By rfl (ql Bh rfl (AW AJ rfl (B2 rfl (qp rfl (qm rfl ?_))))))))
    refine AF (t := 33) rfl (fun c5 => ?_) (fun c5 => ?_)
    ·have h := Am c5 h
     refine qn rfl (qn rfl (qn rfl (qn rfl (qn rfl (qn rfl (qn rfl (qp rfl (Ad ?_))))))))
     exact Aw _ h (sm [] _ _ rfl rfl)
    ·have h := Al c5 h
     refine qf Cn rfl (ql Gr rfl (AW CQ rfl (qf CH rfl (ql G5 rfl (AW D2 rfl (B2 rfl (qp rfl (Ad ?_))))))))
     exact Aw _ h (sm [] _ _ rfl rfl)
  ·refine An rfl (fun c6 => ?_) (fun c6 => ?_)
   ·have h := Am c6 h
    refine Ab (Aa Ac rfl (qa rfl (Ad ?_)))
    obtain rfl := sj h
    refine Ak (sm [] [(4, iD 6)] [] rfl rfl) (Az ?_)
    exact ⟨⟨[_], ⟨.tmp _ _ rfl, tv⟩, rfl⟩, tv⟩
   ·have h := Al c6 h
    refine Ap (Ab (Ab (Aa Ac rfl (qf By rfl (ql Bh rfl (AW AJ rfl (qm rfl (Ad ?_))))))))
    refine AM (L := DN N p0 p1) h (fun v7 => mk [(2, oD (.ptr 2 0)), (3, oD (.ptr 3 0)), (43, pD (.sl (p0.fVersions.map Ai))), (44, iD ((p0.fVersions.length : Int))), (45, iD v7)] [(2, .box [sC (p0.fVersions.map Ai), sC (p0.fNow.map Ai), sC (p0.fTarget.map Ai), sC (p0.fTables.map Ao)]), (3, .box [sC (p1.fBase.map Ai), sC (p1.fNext.map Ai), sC (p1.fHeld.map Bj)])]) (fun v8 => mk [(2, oD (.ptr 2 0)), (3, oD (.ptr 3 0))] [(2, .box [sC (p0.fVersions.map Ai), sC (p0.fNow.map Ai), sC (p0.fTarget.map Ai), sC (p0.fTables.map Ao)]), (3, .box [sC (p1.fBase.map Ai), sC (p1.fNext.map Ai), sC (p1.fHeld.map Bj)])]) (fun _ _ => rfl) (sm [] _ _ rfl rfl) (fun j7 n7 v7 h => ?_) (fun v8 s h hs => ?_)
    ·unfold DN at h
     refine Ab (Aa Ac rfl (A0 rfl (Ad (Ab ?_))))
     refine An rfl (fun c9 => ?_) (fun c9 => ?_)
     ·have h := Am c9 h
      refine Ap (Ab (AR (Ab (Aa Ac rfl (qm rfl ?_)))))
      obtain ⟨v10, a10, b10, h⟩ := Aj h
      refine qi AJ Dh a10 (Ag b10) rfl (qk Cg rfl (qa rfl (qa rfl (Ad (Ab ?_)))))
      refine AT h (fun v11 => mk [(2, oD (.ptr 2 0)), (3, oD (.ptr 3 0)), (6, iD v7), (43, pD (.sl (p0.fVersions.map Ai))), (44, iD ((p0.fVersions.length : Int))), (45, iD v7), (81, bD v11)] [(2, .box [sC (p0.fVersions.map Ai), sC (p0.fNow.map Ai), sC (p0.fTarget.map Ai), sC (p0.fTables.map Ao)]), (3, .box [sC (p1.fBase.map Ai), sC (p1.fNext.map Ai), sC (p1.fHeld.map Bj)])]) (fun j11 h => ?_) (fun v11 h => ?_)
      ·refine Aa Ac rfl (qf CE rfl (ql Bh rfl (qm rfl ?_)))
       obtain ⟨v12, a12, b12, h⟩ := Aj h
       refine qi AJ Dh a12 (Ag b12) rfl (qk Cg rfl (A0 rfl (qm rfl ?_)))
       refine AF (t := 56) rfl (fun c13 => ?_) (fun c13 => ?_)
       ·have h := Am c13 h
        refine qn rfl (qn rfl (qn rfl (qn rfl (qn rfl (qn rfl (qn rfl (qp rfl (qm rfl (qn rfl (qn rfl (qn rfl (qn rfl (qn rfl (qn rfl (qp rfl (qm rfl (qn rfl (qn rfl (qn rfl (qn rfl (qn rfl (qn rfl (qn rfl (qp rfl (Ad ?_)))))))))))))))))))))))))
        exact Aw _ h (sm [] _ _ rfl rfl)
       ·have h := Al c13 h
        refine qf CE rfl (ql Bh rfl (qm rfl ?_))
        obtain ⟨v14, a14, b14, h⟩ := Aj h
        refine qi AJ Dh a14 (Ag b14) rfl (qk Cg rfl (qm rfl (Df rfl (qp rfl (qm rfl ?_)))))
        refine AF (t := 65) rfl (fun c15 => ?_) (fun c15 => ?_)
        ·have h := Am c15 h
         refine qn rfl (qn rfl (qn rfl (qn rfl (qn rfl (qn rfl (qp rfl (qm rfl (qn rfl (qn rfl (qn rfl (qn rfl (qn rfl (qn rfl (qn rfl (qp rfl (Ad ?_))))))))))))))))
         exact Aw _ h (sm [] _ _ rfl rfl)
        ·have h := Al c15 h
         refine qf BB rfl (ql Bh rfl (qm rfl ?_))
         obtain ⟨v16, a16, b16, h⟩ := Aj h
         refine qi AJ Dh a16 (Ag b16) rfl (qk Cg rfl (A0 rfl (qp rfl (qm rfl ?_))))
         refine AF (t := 73) rfl (fun c17 => ?_) (fun c17 => ?_)
         ·have h := Am c17 h
          refine qn rfl (qn rfl (qn rfl (qn rfl (qn rfl (qn rfl (qn rfl (qp rfl (Ad ?_))))))))
          exact Aw _ h (sm [] _ _ rfl rfl)
         ·have h := Al c17 h
          refine qf BB rfl (ql Bh rfl (qm rfl ?_))
          obtain ⟨v18, a18, b18, h⟩ := Aj h
          refine qi AJ Dh a18 (Ag b18) rfl (qk Cg rfl (qm rfl (Df rfl (qp rfl (Ad ?_)))))
          exact Aw _ h (sm [] _ _ rfl rfl)
      ·refine An rfl (fun c19 => ?_) (fun c19 => ?_)
       ·have h := Am c19 h
        refine Ab (Aa Ac rfl (qa rfl (Ad ?_)))
        obtain rfl := sj h
        refine Ak (sm [] [(4, iD 7)] [] rfl rfl) (Az ?_)
        exact ⟨⟨[_], ⟨.tmp _ _ rfl, tv⟩, rfl⟩, tv⟩
       ·have h := Al c19 h
        refine Ap (Ab (Aa Ac rfl (qf CE rfl (ql Bh rfl (qm rfl ?_)))))
        obtain ⟨v20, a20, b20, h⟩ := Aj h
        refine qi AJ Dh a20 (Ag b20) rfl (qk Cg rfl (qf BB rfl (ql Bh rfl (qm rfl ?_))))
        obtain ⟨v21, a21, b21, h⟩ := Aj h
        refine qi AJ Dh a21 (Ag b21) rfl (qk Cg rfl (BE rfl (AQ (by kernel_rfl) ?_)))
        refine An rfl (fun c22 => ?_) (fun c22 => ?_)
        ·have h := Am c22 h
         refine Ab (Aa Ac rfl (qa rfl (Ad ?_)))
         obtain rfl := sj h
         refine Ak (sm [] [(4, iD 1)] [] rfl rfl) (Az ?_)
         exact ⟨⟨[_], ⟨.tmp _ _ rfl, tv⟩, rfl⟩, tv⟩
        ·have h := Al c22 h
         refine Ap (Aa Ac rfl (AX rfl (qm rfl (Ad ?_))))
         exact Aw _ h (sm [] _ _ rfl rfl)
     ·have h := Al c9 h
      refine AY ?_
      exact Aw _ h (sm [] _ _ rfl rfl)
    ·refine Ak hs (Ab (Ab (Aa Ac rfl (qf CH rfl (ql G5 rfl (AW D2 rfl (qm rfl (Ad ?_))))))))
     refine AM (L := Di N p0 p1) h (fun v23 => mk [(2, oD (.ptr 2 0)), (3, oD (.ptr 3 0)), (95, pD (.sl (p0.fTables.map Ao))), (96, iD ((p0.fTables.length : Int))), (97, iD v23)] [(2, .box [sC (p0.fVersions.map Ai), sC (p0.fNow.map Ai), sC (p0.fTarget.map Ai), sC (p0.fTables.map Ao)]), (3, .box [sC (p1.fBase.map Ai), sC (p1.fNext.map Ai), sC (p1.fHeld.map Bj)])]) (fun v24 => mk [] []) (fun _ _ => rfl) (sm [] _ _ rfl rfl) (fun j23 n23 v23 h => ?_) (fun v24 s h hs => ?_)
     ·unfold Di at h
      refine Ab (Aa Ac rfl (A0 rfl (Ad (Ab ?_))))
      refine An rfl (fun c25 => ?_) (fun c25 => ?_)
      ·have h := Am c25 h
       refine Ap (Ab (AR (Ab (Aa Ac rfl (qm rfl ?_)))))
       obtain ⟨v26, a26, b26, h⟩ := Aj h
       refine qi D2 DT a26 (Ag b26) rfl (qK G1 DT rfl (qz JV rfl (qa rfl (qs DT rfl (Ad (Ab (Aa Ac rfl (qa rfl (qa rfl (Ad ?_))))))))))
       refine AT h (fun v27 => mk [(2, oD (.ptr 2 0)), (3, oD (.ptr 3 0)), (8, iD v23), (10, pD (.val (.int .u8 v27.1))), (11, pD (.val (.int .u8 v27.2))), (95, pD (.sl (p0.fTables.map Ao))), (96, iD ((p0.fTables.length : Int))), (97, iD v23)] [(2, .box [sC (p0.fVersions.map Ai), sC (p0.fNow.map Ai), sC (p0.fTarget.map Ai), sC (p0.fTables.map Ao)]), (3, .box [sC (p1.fBase.map Ai), sC (p1.fNext.map Ai), sC (p1.fHeld.map Bj)])]) (fun j27 h => ?_) (fun v27 h => ?_)
       ·refine Ab (Aa Ac rfl (qL G1 DT rfl ?_))
        obtain ⟨v28, a28, h⟩ := bind_some h
        refine AH [] (I0 N v26 v28 a28) VN rfl (Ad ?_)
        refine An rfl (fun c29 => ?_) (fun c29 => ?_)
        ·have h := Am c29 h
         refine Aa Ac rfl (qL A1 Ay rfl (qf C0 rfl (ql Cg rfl ?_)))
         obtain ⟨v30, a30, h⟩ := bind_some h
         refine AH [] (Ip N p1 v26.fFrom v30 a30) VC rfl (qf By rfl (ql Bh rfl (qf C0 rfl (ql Cg rfl ?_))))
         obtain ⟨v31, a31, b31, h⟩ := Aj h
         refine qi AJ Dh a31 (Ag b31) rfl (qk Cg rfl ?_)
         obtain ⟨c32, h⟩ := AL h
         refine Hs rfl c32 (Cz rfl (qa rfl (qa rfl (AQ (by kernel_rfl) ?_))))
         exact Aw _ h (sm [] _ _ rfl rfl)
        ·have h := Al c29 h
         refine Ap ?_
         exact Aw _ h (sm [] _ _ rfl rfl)
       ·refine AT h (fun v33 => mk [(2, oD (.ptr 2 0)), (3, oD (.ptr 3 0)), (95, pD (.sl (p0.fTables.map Ao))), (96, iD ((p0.fTables.length : Int))), (97, iD v23), (133, bD v33)] [(2, .box [sC (p0.fVersions.map Ai), sC (p0.fNow.map Ai), sC (p0.fTarget.map Ai), sC (p0.fTables.map Ao)]), (3, .box [sC (p1.fBase.map Ai), sC (p1.fNext.map Ai), sC (p1.fHeld.map Bj)])]) (fun j33 h => ?_) (fun v33 h => ?_)
        ·refine Aa Ac rfl (qm rfl (qf Cn rfl (ql Gr rfl (qm rfl ?_))))
         obtain ⟨v34, a34, b34, h⟩ := Aj h
         refine qi CQ Fo a34 (Ag b34) rfl (qk IY rfl (H5 rfl (B2 rfl (qm rfl ?_))))
         refine AF (t := 124) rfl (fun c35 => ?_) (fun c35 => ?_)
         ·have h := Am c35 h
          refine qn rfl (qn rfl (qn rfl (qn rfl (qn rfl (qn rfl (qn rfl (qn rfl (qp rfl (Ad ?_)))))))))
          exact Aw _ h (sm [] _ _ rfl rfl)
         ·have h := Al c35 h
          refine qf Cn rfl (ql Gr rfl (qm rfl ?_))
          obtain ⟨v36, a36, b36, h⟩ := Aj h
          refine qi CQ Fo a36 (Ag b36) rfl (qk IY rfl (qm rfl (H5 rfl (B2 rfl (qp rfl (Ad ?_))))))
          exact Aw _ h (sm [] _ _ rfl rfl)
        ·refine An rfl (fun c37 => ?_) (fun c37 => ?_)
         ·have h := Am c37 h
          refine Ab (Aa Ac rfl (qa rfl (Ad ?_)))
          obtain rfl := sj h
          refine Ak (sm [] [(4, iD 1)] [] rfl rfl) (Az ?_)
          exact ⟨⟨[_], ⟨.tmp _ _ rfl, tv⟩, rfl⟩, tv⟩
         ·have h := Al c37 h
          refine Ap (Aa Ac rfl (AX rfl (qm rfl (Ad ?_))))
          exact Aw _ h (sm [] _ _ rfl rfl)
      ·have h := Al c25 h
       refine AY ?_
       exact Aw _ h (sm [] _ _ rfl rfl)
     ·refine Ak hs (Ab (Aa Ac rfl (qa rfl (Ad ?_))))
      obtain rfl := sj h
      refine Ak (sm [] [(4, iD 0)] [] rfl rfl) (Az ?_)
      exact ⟨⟨[_], ⟨.tmp _ _ rfl, tv⟩, rfl⟩, tv⟩
theorem E5 (N : Nat) (p0 : List Int) (r : (List Int)) (h : BJ N p0 = some r) : AB Tryz.prog 59 [pD (.sl (p0.map Bj))] [(1, r.map Bj)] (oD (.own 0)) := by
 unfold BJ at h
 refine Ar (n := 8) (rs := [.tmp 2]) Tryz.func59 rfl rfl rfl (A4 rfl) (A4 rfl) rfl fun w0 S0 => ?_
 refine Ab (Aa Ac rfl (qa rfl (Ad (Ab (Ab (Aa Ac rfl (qm rfl ?_)))))))
 refine Pa (.p rfl) rfl CQ ?_
 refine Ad ?_
 refine OV rfl (fun c2 => ?_) ?_
 ·have c2 := List.map_eq_nil_iff.1 c2
  rw [c2] at h
  have h : (some (([] : List Int))) = some r := h
  refine Ab (Aa Ac rfl (qa rfl (Ad ?_)))
  obtain rfl := sj h
  refine Ak ((Bg 2 2001 1 rfl rfl rfl).trans (sm [(1000, 2001)] [(2, oD (.own 1000))] [(1000, .vec 1 ((([] : List Int)).map Bj))] rfl rfl)) (Az ?_)
  exact ⟨⟨[_], ⟨.tmp _ _ rfl, tv⟩, rfl⟩, ⟨rfl, tv⟩⟩
 ·refine Ap (Ab (Aa Ac rfl (DX CQ Fo Pi rfl (qm rfl ?_))))
  obtain ⟨c1, h⟩ := AL h
  refine I1 (f := Bj) CQ CQ Fo Pt Pi (fun _ => rfl) c1 rfl (qa rfl (Ad ?_))
  obtain rfl := sj h
  refine Ak (sm [(1000, 7)] [(2, oD (.own 1000))] [(1000, .vec 1 (((([] : List Int)) ++ p0).map Bj))] rfl rfl) (Az ?_)
  exact ⟨⟨[_], ⟨.tmp _ _ rfl, tv⟩, rfl⟩, ⟨rfl, tv⟩⟩
theorem KJ (N : Nat) (p0 : Ah) (p1 : Ae) (r : (List Ae) × Int) (h : Fr N p0 p1 = some r) : AB Tryz.prog 37 [.e (.agg [sC (p0.fVersions.map Ai), sC (p0.fNow.map Ai), sC (p0.fTarget.map Ai), sC (p0.fTables.map Ao)]), .e (.agg [sC (p1.fBase.map Ai), sC (p1.fNext.map Ai), sC (p1.fHeld.map Bj)])] [(3, r.1.map Af)] (.tup [.one (.own 0), .one (iC r.2)]) := by
 unfold Fr at h
 refine Ar (n := 75) (rs := [.tmp 4, .tmp 5]) Tryz.func37 rfl rfl rfl (A4 rfl) (A4 rfl) rfl fun w0 S0 => ?_
 refine Ab (Aa Ac rfl (qb rfl (qb rfl (qa rfl (qa rfl (Ad (Ab (Ab (Aa Ac rfl (qL Ec DQ rfl (qL A1 Ay rfl ?_)))))))))))
 obtain ⟨v1, a1, h⟩ := bind_some h
 refine AH [] (H9 N p0 p1 v1 a1) TL rfl (qa rfl (Ad (Ab (Aa Ac rfl (qm rfl (B2 rfl (Ad ?_)))))))
 refine An rfl (fun c2 => ?_) (fun c2 => ?_)
 ·have h := Am c2 h
  refine Ab (Aa Ac rfl (qm rfl (qa rfl (qa rfl (Ad ?_)))))
  obtain rfl := sj h
  refine Ak ((Bg 4 2001 3 rfl rfl rfl).trans (sm [(1000, 2001)] [(4, oD (.own 1000)), (5, iD v1)] [(1000, .vec 3 ((([] : List Ae)).map Af))] rfl rfl)) (Az ?_)
  exact ⟨⟨[_, _], ⟨.tmp _ _ rfl, ⟨.tmp _ _ rfl, tv⟩⟩, rfl⟩, ⟨rfl, tv⟩⟩
 ·have h := Al c2 h
  refine Ap (Ab (Aa Ac rfl (qa rfl (Ad (Ab (Ab (Aa Ac rfl (qf BB rfl (ql Bh rfl (AW AJ rfl (qm rfl (Ad ?_))))))))))))
  refine AM (L := Do N p1) h (fun v3 => mk [(3, oD (.ptr 3 0)), (7, oD (.own 2002)), (22, pD (.sl (p1.fNext.map Ai))), (23, iD ((p1.fNext.length : Int))), (24, iD v3.2)] [(3, .box [sC (p1.fBase.map Ai), sC (p1.fNext.map Ai), sC (p1.fHeld.map Bj)]), (2002, .vec 1 (v3.1.map Ai))]) (fun v4 => mk [(3, oD (.ptr 3 0)), (7, oD (.own 2003))] [(3, .box [sC (p1.fBase.map Ai), sC (p1.fNext.map Ai), sC (p1.fHeld.map Bj)]), (2003, .vec 1 (v4.map Ai))]) (fun _ _ => rfl) ((Bg 7 2005 1 rfl rfl rfl).trans (sm [(2002, 2005)] _ _ rfl rfl)) (fun j3 n3 v3 h => ?_) (fun v4 s h hs => ?_)
  ·unfold Do at h
   refine Ab (Aa Ac rfl (A0 rfl (Ad (Ab ?_))))
   refine An rfl (fun c5 => ?_) (fun c5 => ?_)
   ·have h := Am c5 h
    refine Ap ?_
    refine AT h (fun v6 => mk [(3, oD (.ptr 3 0)), (7, oD (.own 2004)), (22, pD (.sl (p1.fNext.map Ai))), (23, iD ((p1.fNext.length : Int))), (24, iD v3.2)] [(3, .box [sC (p1.fBase.map Ai), sC (p1.fNext.map Ai), sC (p1.fHeld.map Bj)]), (2004, .vec 1 (v6.map Ai))]) (fun j6 h => ?_) (fun v6 h => ?_)
    ·refine AR (Ab (Aa Ac rfl (qm rfl ?_)))
     obtain ⟨v7, a7, b7, h⟩ := Aj h
     refine qi AJ Dh a7 (Ag b7) rfl (qk Cg rfl (qa rfl (qa rfl (Ad (Ab (Aa Ac rfl (qm rfl (Df rfl (Ad ?_)))))))))
     refine An rfl (fun c8 => ?_) (fun c8 => ?_)
     ·have h := Am c8 h
      refine Aa Ac rfl (qm rfl (qm rfl (DX AJ Dh Km rfl ?_)))
      obtain ⟨c9, h⟩ := AL h
      refine De (f := Ai) AJ AJ Dh Lh Km c9 rfl (qa rfl (Ad ?_))
      exact Aw _ h (sm [(2004, 34)] _ _ rfl rfl)
     ·have h := Al c8 h
      refine Ap ?_
      exact Aw _ h (sm [(2004, 2002)] _ _ rfl rfl)
    ·refine Aa Ac rfl (AX rfl (qm rfl (Ad ?_)))
     exact Aw _ h (sm [(2002, 2004)] _ _ rfl rfl)
   ·have h := Al c5 h
    refine AY ?_
    exact Aw _ h (sm [(2003, 2002)] _ _ rfl rfl)
  ·refine Ak hs (Ab (Aa Ac rfl (qa rfl (Ad (Ab (Ab (Aa Ac rfl (qm rfl (DD AJ rfl ?_)))))))))
   obtain ⟨c10, h⟩ := AL h
   refine Hs rfl c10 (qm rfl (Ad ?_))
   refine AM (L := CG N p1 v4) h (fun v11 => mk [(3, oD (.ptr 3 0)), (7, oD (.own 2006)), (10, oD (.own 2007)), (38, iD ((Cc .i64 1 ((v4.length : Int))))), (39, iD v11.2)] [(3, .box [sC (p1.fBase.map Ai), sC (p1.fNext.map Ai), sC (p1.fHeld.map Bj)]), (2006, .vec 1 (v4.map Ai)), (2007, .vec 3 (v11.1.map Af))]) (fun v12 => mk [(10, oD (.own 2008))] [(2008, .vec 3 (v12.map Af))]) (fun _ _ => rfl) ((Bg 10 2027 3 rfl rfl rfl).trans (sm [(2006, 2003), (2007, 2027)] _ _ rfl rfl)) (fun j11 n11 v11 h => ?_) (fun v12 s h hs => ?_)
   ·unfold CG at h
    refine Ab (Aa Ac rfl (A0 rfl (Ad (Ab ?_))))
    refine An rfl (fun c13 => ?_) (fun c13 => ?_)
    ·have h := Am c13 h
     refine Ap (Ab (AR (Ab (Aa Ac rfl (qm rfl (qa rfl (Ad (Ab (Aa Ac rfl (qf CE rfl (ql Bh rfl ?_)))))))))))
     obtain ⟨v14, a14, h⟩ := bind_some h
     refine AH [2009] (DF N p1.fBase v14 a14) SV rfl (qf BB rfl (ql Bh rfl ?_))
     obtain ⟨v15, a15, h⟩ := bind_some h
     refine AH [2010] (DF N p1.fNext v15 a15) SV rfl (qf Cn rfl (ql Gr rfl ?_))
     obtain ⟨v16, a16, h⟩ := bind_some h
     refine AH [2011] (E5 N p1.fHeld v16 a16) WU rfl (BK Cm Hu rfl (qz Cm rfl (qs Ay rfl (AQ (by kernel_rfl) (Ab (Ab (Aa Ac rfl (qm rfl (DD AJ rfl (qm rfl (Ad ?_)))))))))))
     refine AM (L := CI N v4 v11) h (fun v17 => mk [(3, oD (.ptr 3 0)), (7, oD (.own 2015)), (10, oD (.own 2016)), (11, iD v11.2), (12, oD (.ptr 12 0)), (38, iD ((Cc .i64 1 ((v4.length : Int))))), (39, iD v11.2), (52, oD (.own 2015)), (53, iD ((v4.length : Int))), (54, iD v17.2)] [(3, .box [sC (p1.fBase.map Ai), sC (p1.fNext.map Ai), sC (p1.fHeld.map Bj)]), (12, .box [.own 2012, .own 2013, .own 2014]), (2012, .vec 1 (v14.map Ai)), (2013, .vec 1 (v17.1.map Ai)), (2014, .vec 1 (v16.map Bj)), (2015, .vec 1 (v4.map Ai)), (2016, .vec 3 (v11.1.map Af))]) (fun v18 => mk [(3, oD (.ptr 3 0)), (7, oD (.own 2020)), (10, oD (.own 2021)), (12, oD (.ptr 12 0)), (38, iD ((Cc .i64 1 ((v4.length : Int))))), (39, iD v11.2)] [(3, .box [sC (p1.fBase.map Ai), sC (p1.fNext.map Ai), sC (p1.fHeld.map Bj)]), (12, .box [.own 2017, .own 2018, .own 2019]), (2017, .vec 1 (v14.map Ai)), (2018, .vec 1 (v18.map Ai)), (2019, .vec 1 (v16.map Bj)), (2020, .vec 1 (v4.map Ai)), (2021, .vec 3 (v11.1.map Af))]) (fun _ _ => rfl) (sm [(2012, 2009), (2013, 2010), (2014, 2011), (2015, 2006), (2016, 2007)] _ _ rfl rfl) (fun j17 n17 v17 h => ?_) (fun v18 s h hs => ?_)
     ·unfold CI at h
      refine Ab (Aa Ac rfl (A0 rfl (Ad (Ab ?_))))
      refine An rfl (fun c19 => ?_) (fun c19 => ?_)
      ·have h := Am c19 h
       refine Ap ?_
       refine AT h (fun v20 => mk [(3, oD (.ptr 3 0)), (7, oD (.own 2025)), (10, oD (.own 2026)), (11, iD v11.2), (12, oD (.ptr 12 0)), (38, iD ((Cc .i64 1 ((v4.length : Int))))), (39, iD v11.2), (52, oD (.own 2025)), (53, iD ((v4.length : Int))), (54, iD v17.2)] [(3, .box [sC (p1.fBase.map Ai), sC (p1.fNext.map Ai), sC (p1.fHeld.map Bj)]), (12, .box [.own 2022, .own 2023, .own 2024]), (2022, .vec 1 (v14.map Ai)), (2023, .vec 1 (v20.map Ai)), (2024, .vec 1 (v16.map Bj)), (2025, .vec 1 (v4.map Ai)), (2026, .vec 3 (v11.1.map Af))]) (fun j20 h => ?_) (fun v20 h => ?_)
       ·refine AR (Ab (Aa Ac rfl (qm rfl ?_)))
        obtain ⟨v21, a21, b21, h⟩ := Aj h
        refine qI AJ Dh a21 (Ag b21) rfl (qj Cg (Ag b21) rfl (qa rfl (qa rfl (Ad (Ab (Aa Ac rfl (qm rfl (qm rfl ?_))))))))
        obtain ⟨c22, h⟩ := AL h
        refine GC rfl c22 (Ky rfl (BE rfl (Ad ?_)))
        refine An rfl (fun c23 => ?_) (fun c23 => ?_)
        ·have h := Am c23 h
         refine Aa Ac rfl (qf BB rfl (ql Bh rfl (qm rfl ?_)))
         obtain ⟨v24, a24, b24, h⟩ := Aj h
         refine qI AJ Dh a24 (Ag b24) rfl ?_
         refine Ba rfl rfl rfl rfl (Ag b24) rfl Dh rfl (A4 rfl) (A9 Ai v17.1 _ ((-1))) ?_
         refine Ad ?_
         exact Aw _ h (sm [(2022, 2012), (2023, 2013), (2024, 2014), (2025, 2015), (2026, 2016)] _ _ rfl rfl)
        ·have h := Al c23 h
         refine Ap ?_
         exact Aw _ h (sm [(2022, 2012), (2023, 2013), (2024, 2014), (2025, 2015), (2026, 2016)] _ _ rfl rfl)
       ·refine Aa Ac rfl (AX rfl (qm rfl (Ad ?_)))
        exact Aw _ h (sm [(2012, 2022), (2013, 2023), (2014, 2024), (2015, 2025), (2016, 2026)] _ _ rfl rfl)
      ·have h := Al c19 h
       refine AY ?_
       exact Aw _ h (sm [(2017, 2012), (2018, 2013), (2019, 2014), (2020, 2015), (2021, 2016)] _ _ rfl rfl)
     ·refine Ak hs (Aa Ac rfl (qm rfl (qL A1 Ay rfl (CJ (A3 2017 _ _ rfl rfl) (CJ (A3 2018 _ _ rfl rfl) (CJ (A3 2019 _ _ rfl rfl) (DX AN Ay Cm rfl ?_)))))))
      obtain ⟨c25, h⟩ := AL h
      refine De (f := Af) AN AN Ay Jl Cm c25 rfl (qa rfl (Ad (Aa Ac rfl (AX rfl (qm rfl (Ad ?_))))))
      exact Aw _ h (sm [(2006, 2020), (2007, 72)] _ _ rfl rfl)
    ·have h := Al c13 h
     refine AY ?_
     exact Aw _ h (sm [(2008, 2007)] _ _ rfl rfl)
   ·refine Ak hs (Ab (Aa Ac rfl (qm rfl (qa rfl (qa rfl (Ad ?_))))))
    obtain rfl := sj h
    refine Ak (sm [(1000, 2008)] [(4, oD (.own 1000)), (5, iD 0)] [(1000, .vec 3 (v12.map Af))] rfl rfl) (Az ?_)
    exact ⟨⟨[_, _], ⟨.tmp _ _ rfl, ⟨.tmp _ _ rfl, tv⟩⟩, rfl⟩, ⟨rfl, tv⟩⟩
theorem Mi (N : Nat) (p0 : Ah) (p1 : Ae) (r : (List Av)) (h : Fa N p0 p1 = some r) : AB Tryz.prog 94 [.e (.agg [sC (p0.fVersions.map Ai), sC (p0.fNow.map Ai), sC (p0.fTarget.map Ai), sC (p0.fTables.map Ao)]), .e (.agg [sC (p1.fBase.map Ai), sC (p1.fNext.map Ai), sC (p1.fHeld.map Bj)])] [(3, r.map A2)] (oD (.own 0)) := by
 unfold Fa at h
 refine Ar (n := 98) (rs := [.tmp 4]) Tryz.func94 rfl rfl rfl (A4 rfl) (A4 rfl) rfl fun w0 S0 => ?_
 refine Ab (Aa Ac rfl (qb rfl (qb rfl (qa rfl (Ad (Ab (Aa Ac rfl (qa rfl (Ad (Ab (Ab (Aa Ac rfl (qf CH rfl (ql G5 rfl (AW D2 rfl (qm rfl (Ad ?_)))))))))))))))))
 refine AM (L := C2 N p0 p1) h (fun v1 => mk [(3, oD (.ptr 3 0)), (5, oD (.own 2001)), (15, pD (.sl (p0.fTables.map Ao))), (16, iD ((p0.fTables.length : Int))), (17, iD v1.2)] [(3, .box [sC (p1.fBase.map Ai), sC (p1.fNext.map Ai), sC (p1.fHeld.map Bj)]), (2001, .vec 3 (v1.1.map A2))]) (fun v2 => mk [(5, oD (.own 2002))] [(2002, .vec 3 (v2.map A2))]) (fun _ _ => rfl) ((Bg 5 2013 3 rfl rfl rfl).trans (sm [(2001, 2013)] _ _ rfl rfl)) (fun j1 n1 v1 h => ?_) (fun v2 s h hs => ?_)
 ·unfold C2 at h
  refine Ab (Aa Ac rfl (A0 rfl (Ad (Ab ?_))))
  refine An rfl (fun c3 => ?_) (fun c3 => ?_)
  ·have h := Am c3 h
   refine Ap (Ab (AR (Ab (Aa Ac rfl (qm rfl ?_)))))
   obtain ⟨v4, a4, b4, h⟩ := Aj h
   refine qi D2 DT a4 (Ag b4) rfl (qK G1 DT rfl (qz JV rfl (qa rfl (qs DT rfl (Ad (Ab (Aa Ac rfl (qL A1 Ay rfl (qf C0 rfl (ql Cg rfl ?_))))))))))
   obtain ⟨v5, a5, h⟩ := bind_some h
   refine AH [] (Ip N p1 v4.fFrom v5 a5) VC rfl (qL A1 Ay rfl (qf HN rfl (ql Cg rfl ?_)))
   obtain ⟨v6, a6, h⟩ := bind_some h
   refine AH [] (Ip N p1 v4.fTo v6 a6) VC rfl (qa rfl (qa rfl (AQ (by kernel_rfl) ?_)))
   refine AT h (fun v7 => mk [(3, oD (.ptr 3 0)), (5, oD (.own 2003)), (6, iD v1.2), (7, oD (.ptr 7 0)), (8, pD (.val (.int .u8 v7))), (9, pD (.val (.int .u8 v6))), (15, pD (.sl (p0.fTables.map Ao))), (16, iD ((p0.fTables.length : Int))), (17, iD v1.2)] [(3, .box [sC (p1.fBase.map Ai), sC (p1.fNext.map Ai), sC (p1.fHeld.map Bj)]), (7, .box [iC v4.fKind, iC v4.fFrom, iC v4.fTo, .pure (.val (.bool v4.fAware)), sC (v4.fOK.map (Eu eB)), sC (v4.fRewrite.map (Eu eB))]), (2003, .vec 3 (v1.1.map A2))]) (fun j7 h => ?_) (fun v7 h => ?_)
   ·refine Ab (Aa Ac rfl (qL G1 DT rfl ?_))
    obtain ⟨v8, a8, h⟩ := bind_some h
    refine AH [] (I0 N v4 v8 a8) VN rfl (Ad ?_)
    refine An rfl (fun c9 => ?_) (fun c9 => ?_)
    ·have h := Am c9 h
     refine Aa Ac rfl (qf Cn rfl (ql Gr rfl (qm rfl ?_)))
     obtain ⟨v10, a10, b10, h⟩ := Aj h
     refine qi CQ Fo a10 (Ag b10) rfl (qk IY rfl (qa rfl (Ad ?_)))
     exact Aw _ h (sm [(2003, 2001)] _ _ rfl rfl)
    ·have h := Al c9 h
     refine Ap ?_
     exact Aw _ h (sm [(2003, 2001)] _ _ rfl rfl)
   ·refine Ab (Aa Ac rfl (qf I8 rfl (ql Js rfl (AW FP rfl (qm rfl (Ad ?_))))))
    refine AM (L := B7 N v1 v4 v6 v7) h (fun v11 => mk [(3, oD (.ptr 3 0)), (5, oD (.own 2004)), (6, iD v1.2), (7, oD (.ptr 7 0)), (8, pD (.val (.int .u8 v7))), (9, pD (.val (.int .u8 v6))), (15, pD (.sl (p0.fTables.map Ao))), (16, iD ((p0.fTables.length : Int))), (17, iD v1.2), (39, iD ((v4.fOK.length : Int))), (40, iD v11.2)] [(3, .box [sC (p1.fBase.map Ai), sC (p1.fNext.map Ai), sC (p1.fHeld.map Bj)]), (7, .box [iC v4.fKind, iC v4.fFrom, iC v4.fTo, .pure (.val (.bool v4.fAware)), sC (v4.fOK.map (Eu eB)), sC (v4.fRewrite.map (Eu eB))]), (2004, .vec 3 (v11.1.map A2))]) (fun v12 => mk [(3, oD (.ptr 3 0)), (5, oD (.own 2005)), (15, pD (.sl (p0.fTables.map Ao))), (16, iD ((p0.fTables.length : Int))), (17, iD v1.2)] [(3, .box [sC (p1.fBase.map Ai), sC (p1.fNext.map Ai), sC (p1.fHeld.map Bj)]), (2005, .vec 3 (v12.map A2))]) (fun _ _ => rfl) (sm [(2004, 2003)] _ _ rfl rfl) (fun j11 n11 v11 h => ?_) (fun v12 s h hs => ?_)
    ·unfold B7 at h
     refine Ab (Aa Ac rfl (A0 rfl (Ad (Ab ?_))))
     refine An rfl (fun c13 => ?_) (fun c13 => ?_)
     ·have h := Am c13 h
      refine Ap ?_
      refine AT h (fun v14 => mk [(3, oD (.ptr 3 0)), (5, oD (.own 2006)), (6, iD v1.2), (7, oD (.ptr 7 0)), (8, pD (.val (.int .u8 v7))), (9, pD (.val (.int .u8 v6))), (15, pD (.sl (p0.fTables.map Ao))), (16, iD ((p0.fTables.length : Int))), (17, iD v1.2), (39, iD ((v4.fOK.length : Int))), (40, iD v11.2)] [(3, .box [sC (p1.fBase.map Ai), sC (p1.fNext.map Ai), sC (p1.fHeld.map Bj)]), (7, .box [iC v4.fKind, iC v4.fFrom, iC v4.fTo, .pure (.val (.bool v4.fAware)), sC (v4.fOK.map (Eu eB)), sC (v4.fRewrite.map (Eu eB))]), (2006, .vec 3 (v14.map A2))]) (fun j14 h => ?_) (fun v14 h => ?_)
      ·refine AR (Ab (Aa Ac rfl (qm rfl (qa rfl (Ad (Ab (Ab (Aa Ac rfl (qm rfl (qm rfl ?_))))))))))
       obtain ⟨c15, h⟩ := AL h
       refine GC rfl c15 (Ky rfl (BE rfl (Ad ?_)))
       refine An rfl (fun c16 => ?_) (fun c16 => ?_)
       ·have h := Am c16 h
        refine AY ?_
        exact Aw _ h (sm [(2006, 2004)] _ _ rfl rfl)
       ·have h := Al c16 h
        refine Ap (Ab (Aa Ac rfl (qa rfl (Ad (Ab (Ab (Aa Ac rfl (qf I8 rfl (ql Js rfl (qm rfl ?_))))))))))
        obtain ⟨v17, a17, b17, h⟩ := Aj h
        refine qi FP Jg a17 (Ag b17) rfl (qk KK rfl (AW EU rfl (qm rfl (Ad ?_))))
        refine AM (L := BO N v1 v4 v6 v11 v17) h (fun v18 => mk [(3, oD (.ptr 3 0)), (5, oD (.own 2007)), (6, iD v1.2), (7, oD (.ptr 7 0)), (8, pD (.val (.int .u8 v7))), (9, pD (.val (.int .u8 v6))), (10, iD v11.2), (11, bD v18.2.1), (15, pD (.sl (p0.fTables.map Ao))), (16, iD ((p0.fTables.length : Int))), (17, iD v1.2), (39, iD ((v4.fOK.length : Int))), (40, iD v11.2), (52, pD (.sl (v17.map eB))), (53, iD ((v17.length : Int))), (54, iD v18.2.2)] [(3, .box [sC (p1.fBase.map Ai), sC (p1.fNext.map Ai), sC (p1.fHeld.map Bj)]), (7, .box [iC v4.fKind, iC v4.fFrom, iC v4.fTo, .pure (.val (.bool v4.fAware)), sC (v4.fOK.map (Eu eB)), sC (v4.fRewrite.map (Eu eB))]), (2007, .vec 3 (v18.1.map A2))]) (fun v19 => mk [(3, oD (.ptr 3 0)), (5, oD (.own 2008)), (6, iD v1.2), (7, oD (.ptr 7 0)), (8, pD (.val (.int .u8 v7))), (9, pD (.val (.int .u8 v6))), (10, iD v11.2), (11, bD v19.2), (15, pD (.sl (p0.fTables.map Ao))), (16, iD ((p0.fTables.length : Int))), (17, iD v1.2), (39, iD ((v4.fOK.length : Int))), (40, iD v11.2)] [(3, .box [sC (p1.fBase.map Ai), sC (p1.fNext.map Ai), sC (p1.fHeld.map Bj)]), (7, .box [iC v4.fKind, iC v4.fFrom, iC v4.fTo, .pure (.val (.bool v4.fAware)), sC (v4.fOK.map (Eu eB)), sC (v4.fRewrite.map (Eu eB))]), (2008, .vec 3 (v19.1.map A2))]) (fun _ _ => rfl) (sm [(2007, 2004)] _ _ rfl rfl) (fun j18 n18 v18 h => ?_) (fun v19 s h hs => ?_)
        ·unfold BO at h
         refine Ab (Aa Ac rfl (A0 rfl (Ad (Ab ?_))))
         refine An rfl (fun c20 => ?_) (fun c20 => ?_)
         ·have h := Am c20 h
          refine Ap ?_
          refine AT h (fun v21 => mk [(3, oD (.ptr 3 0)), (5, oD (.own 2009)), (6, iD v1.2), (7, oD (.ptr 7 0)), (8, pD (.val (.int .u8 v7))), (9, pD (.val (.int .u8 v6))), (10, iD v11.2), (11, bD v21.2), (15, pD (.sl (p0.fTables.map Ao))), (16, iD ((p0.fTables.length : Int))), (17, iD v1.2), (39, iD ((v4.fOK.length : Int))), (40, iD v11.2), (52, pD (.sl (v17.map eB))), (53, iD ((v17.length : Int))), (54, iD v18.2.2)] [(3, .box [sC (p1.fBase.map Ai), sC (p1.fNext.map Ai), sC (p1.fHeld.map Bj)]), (7, .box [iC v4.fKind, iC v4.fFrom, iC v4.fTo, .pure (.val (.bool v4.fAware)), sC (v4.fOK.map (Eu eB)), sC (v4.fRewrite.map (Eu eB))]), (2009, .vec 3 (v21.1.map A2))]) (fun j21 h => ?_) (fun v21 h => ?_)
          ·refine AR (Ab (Aa Ac rfl (qm rfl ?_)))
           obtain ⟨v22, a22, b22, h⟩ := Aj h
           refine qi EU Qi a22 (Ag b22) rfl (qk Rr rfl (qa rfl (qa rfl (Ad (Ab (Ab (Aa Ac rfl (qm rfl (qm rfl ?_)))))))))
           obtain ⟨c23, h⟩ := AL h
           refine GC rfl c23 (Ky rfl (BE rfl (Ad ?_)))
           refine An rfl (fun c24 => ?_) (fun c24 => ?_)
           ·have h := Am c24 h
            refine AY ?_
            exact Aw _ h (sm [(2009, 2007)] _ _ rfl rfl)
           ·have h := Al c24 h
            refine Ap ?_
            refine AT h (fun v25 => mk [(3, oD (.ptr 3 0)), (5, oD (.own 2010)), (6, iD v1.2), (7, oD (.ptr 7 0)), (8, pD (.val (.int .u8 v7))), (9, pD (.val (.int .u8 v6))), (10, iD v11.2), (11, bD v25), (12, iD v18.2.2), (13, bD v22), (15, pD (.sl (p0.fTables.map Ao))), (16, iD ((p0.fTables.length : Int))), (17, iD v1.2), (39, iD ((v4.fOK.length : Int))), (40, iD v11.2), (52, pD (.sl (v17.map eB))), (53, iD ((v17.length : Int))), (54, iD v18.2.2)] [(3, .box [sC (p1.fBase.map Ai), sC (p1.fNext.map Ai), sC (p1.fHeld.map Bj)]), (7, .box [iC v4.fKind, iC v4.fFrom, iC v4.fTo, .pure (.val (.bool v4.fAware)), sC (v4.fOK.map (Eu eB)), sC (v4.fRewrite.map (Eu eB))]), (2010, .vec 3 (v18.1.map A2))]) (fun j25 h => ?_) (fun v25 h => ?_)
            ·refine Aa Ac rfl (qm rfl (qm rfl ?_))
             refine AF (t := 65) rfl (fun c26 => ?_) (fun c26 => ?_)
             ·have h := Am c26 h
              refine qn rfl (qp rfl (qa rfl (Ad ?_)))
              exact Aw _ h (sm [(2010, 2007)] _ _ rfl rfl)
             ·have h := Al c26 h
              refine qm rfl (qp rfl (qa rfl (Ad ?_)))
              exact Aw _ h (sm [(2010, 2007)] _ _ rfl rfl)
            ·refine AT h (fun v27 => mk [(3, oD (.ptr 3 0)), (5, oD (.own 2011)), (6, iD v1.2), (7, oD (.ptr 7 0)), (8, pD (.val (.int .u8 v7))), (9, pD (.val (.int .u8 v6))), (10, iD v11.2), (11, bD v25), (12, iD v18.2.2), (15, pD (.sl (p0.fTables.map Ao))), (16, iD ((p0.fTables.length : Int))), (17, iD v1.2), (39, iD ((v4.fOK.length : Int))), (40, iD v11.2), (52, pD (.sl (v17.map eB))), (53, iD ((v17.length : Int))), (54, iD v18.2.2), (74, bD v27)] [(3, .box [sC (p1.fBase.map Ai), sC (p1.fNext.map Ai), sC (p1.fHeld.map Bj)]), (7, .box [iC v4.fKind, iC v4.fFrom, iC v4.fTo, .pure (.val (.bool v4.fAware)), sC (v4.fOK.map (Eu eB)), sC (v4.fRewrite.map (Eu eB))]), (2011, .vec 3 (v18.1.map A2))]) (fun j27 h => ?_) (fun v27 h => ?_)
             ·refine Aa Ac rfl (qm rfl (Cd rfl (qm rfl ?_)))
              refine AF (t := 70) rfl (fun c28 => ?_) (fun c28 => ?_)
              ·have h := Am c28 h
               refine qf Im rfl (ql Rr rfl (Cd rfl (qp rfl (Ad ?_))))
               exact Aw _ h (sm [(2011, 2010)] _ _ rfl rfl)
              ·have h := Al c28 h
               refine qn rfl (qn rfl (qn rfl (qp rfl (Ad ?_))))
               exact Aw _ h (sm [(2011, 2010)] _ _ rfl rfl)
             ·refine An rfl (fun c29 => ?_) (fun c29 => ?_)
              ·have h := Am c29 h
               refine Aa Ac rfl (qm rfl (qm rfl (qm rfl (qm rfl (BK Hz Oc rfl (DX Gi Hn Hz rfl ?_))))))
               obtain ⟨c30, h⟩ := AL h
               refine De (f := A2) Gi Gi Hn O9 Hz c30 rfl (qa rfl (Ad ?_))
               exact Aw _ h (sm [(2009, 81)] _ _ rfl rfl)
              ·have h := Al c29 h
               refine Ap ?_
               exact Aw _ h (sm [(2009, 2011)] _ _ rfl rfl)
          ·refine Aa Ac rfl (AX rfl (qm rfl (Ad ?_)))
           exact Aw _ h (sm [(2007, 2009)] _ _ rfl rfl)
         ·have h := Al c20 h
          refine AY ?_
          exact Aw _ h (sm [(2008, 2007)] _ _ rfl rfl)
        ·refine Ak hs ?_
         refine AT h (fun v31 => mk [(3, oD (.ptr 3 0)), (5, oD (.own 2012)), (6, iD v1.2), (7, oD (.ptr 7 0)), (8, pD (.val (.int .u8 v7))), (9, pD (.val (.int .u8 v6))), (10, iD v11.2), (15, pD (.sl (p0.fTables.map Ao))), (16, iD ((p0.fTables.length : Int))), (17, iD v1.2), (39, iD ((v4.fOK.length : Int))), (40, iD v11.2), (88, bD v31)] [(3, .box [sC (p1.fBase.map Ai), sC (p1.fNext.map Ai), sC (p1.fHeld.map Bj)]), (7, .box [iC v4.fKind, iC v4.fFrom, iC v4.fTo, .pure (.val (.bool v4.fAware)), sC (v4.fOK.map (Eu eB)), sC (v4.fRewrite.map (Eu eB))]), (2012, .vec 3 (v19.1.map A2))]) (fun j31 h => ?_) (fun v31 h => ?_)
         ·refine Aa Ac rfl (qf Im rfl (ql Rr rfl (qm rfl ?_)))
          refine AF (t := 85) rfl (fun c32 => ?_) (fun c32 => ?_)
          ·have h := Am c32 h
           refine qm rfl (Cd rfl (qp rfl (Ad ?_)))
           exact Aw _ h (sm [(2012, 2008)] _ _ rfl rfl)
          ·have h := Al c32 h
           refine qn rfl (qn rfl (qp rfl (Ad ?_)))
           exact Aw _ h (sm [(2012, 2008)] _ _ rfl rfl)
         ·refine An rfl (fun c33 => ?_) (fun c33 => ?_)
          ·have h := Am c33 h
           refine Aa Ac rfl (qm rfl (qm rfl (qm rfl (BK Hz Oc rfl (DX Gi Hn Hz rfl ?_)))))
           obtain ⟨c34, h⟩ := AL h
           refine De (f := A2) Gi Gi Hn O9 Hz c34 rfl (qa rfl (Ad ?_))
           exact Aw _ h (sm [(2006, 94)] _ _ rfl rfl)
          ·have h := Al c33 h
           refine Ap ?_
           exact Aw _ h (sm [(2006, 2012)] _ _ rfl rfl)
      ·refine Aa Ac rfl (AX rfl (qm rfl (Ad ?_)))
       exact Aw _ h (sm [(2004, 2006)] _ _ rfl rfl)
     ·have h := Al c13 h
      refine AY ?_
      exact Aw _ h (sm [(2005, 2004)] _ _ rfl rfl)
    ·refine Ak hs (Aa Ac rfl (AX rfl (qm rfl (Ad ?_))))
     exact Aw _ h (sm [(2001, 2005)] _ _ rfl rfl)
  ·have h := Al c3 h
   refine AY ?_
   exact Aw _ h (sm [(2002, 2001)] _ _ rfl rfl)
 ·refine Ak hs (Ab (Aa Ac rfl (qm rfl (qa rfl (Ad ?_)))))
  obtain rfl := sj h
  refine Ak (sm [(1000, 2002)] [(4, oD (.own 1000))] [(1000, .vec 3 (v2.map A2))] rfl rfl) (Az ?_)
  exact ⟨⟨[_], ⟨.tmp _ _ rfl, tv⟩, rfl⟩, ⟨rfl, tv⟩⟩
theorem PC (N : Nat) (p0 : Ah) (p1 : Ae) (r : Ae × Av × Int) (h : GN N p0 p1 = some r) : AB Tryz.prog 68 [.e (.agg [sC (p0.fVersions.map Ai), sC (p0.fNow.map Ai), sC (p0.fTarget.map Ai), sC (p0.fTables.map Ao)]), .e (.agg [sC (p1.fBase.map Ai), sC (p1.fNext.map Ai), sC (p1.fHeld.map Bj)])] [] (.tup [.agg [sC (r.1.fBase.map Ai), sC (r.1.fNext.map Ai), sC (r.1.fHeld.map Bj)], .agg [iC r.2.1.fTable, iC r.2.1.fWriter, iC r.2.1.fReader], .one (iC r.2.2)]) := by
 unfold GN at h
 refine Ar (n := 42) (rs := [.cell 4 50, .cell 5 113, .tmp 6]) Tryz.func68 rfl rfl rfl (A4 rfl) (A4 rfl) rfl fun w0 S0 => ?_
 refine Ab (Aa Ac rfl (qb rfl (qb rfl (qz Cm rfl (qz Hz rfl (qa rfl (Ad (Ab (Aa Ac rfl (qL Ec DQ rfl (qL A1 Ay rfl ?_)))))))))))
 obtain ⟨v1, a1, h⟩ := bind_some h
 refine AH [2001] (KJ N p0 p1 v1 a1) WK rfl (qm rfl (qx rfl (qx rfl (qa rfl (qa rfl (Ad (Ab (Ab (Aa Ac rfl (qm rfl (B2 rfl (Ad ?_))))))))))))
 refine An rfl (fun c2 => ?_) (fun c2 => ?_)
 ·have h := Am c2 h
  refine Ab (Aa Ac rfl (BK Cm Hu rfl (BK Hz Oc rfl (qm rfl (qs Ay rfl (qs Hn rfl (qa rfl (Ad ?_))))))))
  obtain rfl := sj h
  refine Ak ((Oz 4 _ rfl).trans (sm [] [(4, oD (.ptr 4 0)), (5, oD (.ptr 5 0)), (6, iD v1.2)] [(4, .box [sC ((([] : List Int)).map Ai), sC ((([] : List Int)).map Ai), sC ((([] : List Int)).map Bj)]), (5, .box [iC 0, iC 0, iC 0])] rfl rfl)) (Az ?_)
  exact ⟨⟨[_, _, _], ⟨.cellN _ _ _ _ _ _ _ rfl rfl A1 Ay rfl rfl (IQ rfl), ⟨.cellN _ _ _ _ _ _ _ rfl rfl RE Hn rfl rfl (IQ rfl), ⟨.tmp _ _ rfl, tv⟩⟩⟩, rfl⟩, tv⟩
 ·have h := Al c2 h
  refine Ap (Ab (Ab (Aa Ac rfl (qm rfl (DD AN rfl (qm rfl (Ad ?_)))))))
  refine AM (L := Eh N p0 v1) h (fun v3 => mk [(2, oD (.ptr 2 0)), (4, oD (.ptr 4 0)), (5, oD (.ptr 5 0)), (23, oD (.own 2002)), (24, iD ((v1.1.length : Int))), (25, iD v3)] [(2, .box [sC (p0.fVersions.map Ai), sC (p0.fNow.map Ai), sC (p0.fTarget.map Ai), sC (p0.fTables.map Ao)]), (4, .box [.pure (.nil0), .pure (.nil0), .pure (.nil0)]), (5, .box [iC 0, iC 0, iC 0]), (2002, .vec 3 (v1.1.map Af))]) (fun v4 => mk [(4, oD (.ptr 4 0)), (5, oD (.ptr 5 0))] [(4, .box [.pure (.nil0), .pure (.nil0), .pure (.nil0)]), (5, .box [iC 0, iC 0, iC 0])]) (fun _ _ => rfl) (sm [(2002, 2001)] _ _ rfl rfl) (fun j3 n3 v3 h => ?_) (fun v4 s h hs => ?_)
  ·unfold Eh at h
   refine Ab (Aa Ac rfl (A0 rfl (Ad (Ab ?_))))
   refine An rfl (fun c5 => ?_) (fun c5 => ?_)
   ·have h := Am c5 h
    refine Ap (Ab (AR (Ab (Aa Ac rfl ?_))))
    obtain ⟨v6, a6, b6, h⟩ := Aj h
    refine qI AN Ay a6 (Ag b6) rfl (qJ A1 Ay (Ag b6) rfl (qz Cm rfl (qs Ay rfl (Ad (Ab (Aa Ac rfl (qL Ec DQ rfl (qL A1 Ay rfl ?_))))))))
    obtain ⟨v7, a7, h⟩ := bind_some h
    refine AH [2003] (Mi N p0 v6 v7 a7) XD rfl (qa rfl (Ad (Ab (Aa Ac rfl (qm rfl (DD Gi rfl (E0 rfl (Ad ?_))))))))
    refine An rfl (fun c8 => ?_) (fun c8 => ?_)
    ·have h := Am c8 h
     refine Ab (Aa Ac rfl (qL A1 Ay rfl (qm rfl ?_)))
     obtain ⟨v9, a9, b9, h⟩ := Aj h
     refine qI Gi Hn a9 (Ag b9) rfl (qJ RE Hn (Ag b9) rfl (qs Ay rfl (qs Hn rfl (qa rfl (AQ (by kernel_rfl) ?_)))))
     obtain rfl := sj h
     refine Ak (sm [] [(4, oD (.ptr 4 0)), (5, oD (.ptr 5 0)), (6, iD 0)] [(4, .box [sC (v6.fBase.map Ai), sC (v6.fNext.map Ai), sC (v6.fHeld.map Bj)]), (5, .box [iC v9.fTable, iC v9.fWriter, iC v9.fReader])] rfl rfl) (Az ?_)
     exact ⟨⟨[_, _, _], ⟨.cellN _ _ _ _ _ _ _ rfl rfl A1 Ay rfl rfl (IQ rfl), ⟨.cellN _ _ _ _ _ _ _ rfl rfl RE Hn rfl rfl (IQ rfl), ⟨.tmp _ _ rfl, tv⟩⟩⟩, rfl⟩, tv⟩
    ·have h := Al c8 h
     refine Ap (Aa Ac rfl (AX rfl (qm rfl (Ad ?_))))
     exact Aw _ h (sm [] _ _ rfl rfl)
   ·have h := Al c5 h
    refine AY ?_
    exact Aw _ h (sm [] _ _ rfl rfl)
  ·refine Ak hs (Ab (Aa Ac rfl (BK Cm Hu rfl (BK Hz Oc rfl (qs Ay rfl (qs Hn rfl (qa rfl (Ad ?_))))))))
   obtain rfl := sj h
   refine Ak ((Oz 4 _ rfl).trans (sm [] [(4, oD (.ptr 4 0)), (5, oD (.ptr 5 0)), (6, iD 15)] [(4, .box [sC ((([] : List Int)).map Ai), sC ((([] : List Int)).map Ai), sC ((([] : List Int)).map Bj)]), (5, .box [iC 0, iC 0, iC 0])] rfl rfl)) (Az ?_)
   exact ⟨⟨[_, _, _], ⟨.cellN _ _ _ _ _ _ _ rfl rfl A1 Ay rfl rfl (IQ rfl), ⟨.cellN _ _ _ _ _ _ _ rfl rfl RE Hn rfl rfl (IQ rfl), ⟨.tmp _ _ rfl, tv⟩⟩⟩, rfl⟩, tv⟩
theorem I2 (N : Nat) (p0 : Ah) (p1 : Ae) (r : Bool × Int) (h : EW N p0 p1 = some r) : AB Tryz.prog 45 [.e (.agg [sC (p0.fVersions.map Ai), sC (p0.fNow.map Ai), sC (p0.fTarget.map Ai), sC (p0.fTables.map Ao)]), .e (.agg [sC (p1.fBase.map Ai), sC (p1.fNext.map Ai), sC (p1.fHeld.map Bj)])] [] (.tup [.one (.pure (.val (.bool r.1))), .one (iC r.2)]) := by
 unfold EW at h
 refine Ar (n := 22) (rs := [.tmp 4, .tmp 5]) Tryz.func45 rfl rfl rfl (A4 rfl) (A4 rfl) rfl fun w0 S0 => ?_
 refine Ab (Aa Ac rfl (qb rfl (qb rfl (qa rfl (qa rfl (Ad (Ab (Aa Ac rfl (qL Ec DQ rfl (qL A1 Ay rfl ?_))))))))))
 obtain ⟨v1, a1, h⟩ := bind_some h
 refine AH [] (PC N p0 p1 v1 a1) X1 rfl (qm rfl (qx rfl (qx rfl (qx rfl (qz Cm rfl (qz Hz rfl (qs Ay rfl (qs Hn rfl (qa rfl (Ad (Ab (Aa Ac rfl (qm rfl (Ad (AR (Ab (Aa Ac rfl (BE rfl (qa rfl (Ad ?_))))))))))))))))))))
 refine An rfl (fun c2 => ?_) (fun c2 => ?_)
 ·have h := Am c2 h
  refine Ab (Aa Ac rfl (qa rfl (qa rfl (Ad ?_))))
  obtain rfl := sj h
  refine Ak (sm [] [(4, bD false), (5, iD 0)] [] rfl rfl) (Az ?_)
  exact ⟨⟨[_, _], ⟨.tmp _ _ rfl, ⟨.tmp _ _ rfl, tv⟩⟩, rfl⟩, tv⟩
 ·have h := Al c2 h
  refine Ab (Aa Ac rfl (BE rfl (qa rfl (Ad ?_))))
  refine An rfl (fun c3 => ?_) (fun c3 => ?_)
  ·have h := Am c3 h
   refine Ab (Aa Ac rfl (qa rfl (qa rfl (Ad ?_))))
   obtain rfl := sj h
   refine Ak (sm [] [(4, bD true), (5, iD 0)] [] rfl rfl) (Az ?_)
   exact ⟨⟨[_, _], ⟨.tmp _ _ rfl, ⟨.tmp _ _ rfl, tv⟩⟩, rfl⟩, tv⟩
  ·have h := Al c3 h
   refine Ab (Aa Ac rfl (qm rfl (qa rfl (qa rfl (Ad ?_)))))
   obtain rfl := sj h
   refine Ak (sm [] [(4, bD false), (5, iD v1.2.2)] [] rfl rfl) (Az ?_)
   exact ⟨⟨[_, _], ⟨.tmp _ _ rfl, ⟨.tmp _ _ rfl, tv⟩⟩, rfl⟩, tv⟩
theorem J8 (N : Nat) (p0 : Ah) (r : Ae × Bool × Int) (h : GR N p0 = some r) : AB Tryz.prog 47 [.e (.agg [sC (p0.fVersions.map Ai), sC (p0.fNow.map Ai), sC (p0.fTarget.map Ai), sC (p0.fTables.map Ao)])] [(1, r.1.fBase.map Ai), (1, r.1.fNext.map Ai), (1, r.1.fHeld.map Bj)] (.tup [.agg [.own 0, .own 1, .own 2], .one (.pure (.val (.bool r.2.1))), .one (iC r.2.2)]) := by
 unfold GR at h
 refine Ar (n := 26) (rs := [.cell 2 50, .tmp 3, .tmp 4]) Tryz.func47 rfl rfl rfl (A4 rfl) (A4 rfl) rfl fun w0 S0 => ?_
 refine Ab (Aa Ac rfl (qb rfl (qz Cm rfl (qa rfl (qa rfl (Ad (Ab (Aa Ac rfl (qL Ec DQ rfl ?_)))))))))
 obtain ⟨v1, a1, h⟩ := bind_some h
 refine AH [2001, 2002, 2003] (LW N p0 v1 a1) Xl rfl (qm rfl (qx rfl (qx rfl (qz Cm rfl (qs Ay rfl (qa rfl (Ad (Ab (Ab (Aa Ac rfl (qm rfl (B2 rfl (Ad ?_)))))))))))))
 refine An rfl (fun c2 => ?_) (fun c2 => ?_)
 ·have h := Am c2 h
  refine Ab (Aa Ac rfl (BK Cm Hu rfl (qm rfl (qs Ay rfl (qa rfl (qa rfl (Ad ?_)))))))
  obtain rfl := sj h
  refine Ak ((AE 2 0 2004 1 _ rfl rfl rfl rfl).trans ((AE 2 1 2005 1 _ rfl rfl rfl rfl).trans ((AE 2 2 2006 1 _ rfl rfl rfl rfl).trans (sm [(1000, 2004), (1001, 2005), (1002, 2006)] [(2, oD (.ptr 2 0)), (3, bD false), (4, iD v1.2)] [(2, .box [.own 1000, .own 1001, .own 1002]), (1000, .vec 1 ((([] : List Int)).map Ai)), (1001, .vec 1 ((([] : List Int)).map Ai)), (1002, .vec 1 ((([] : List Int)).map Bj))] rfl rfl)))) (Az ?_)
  exact ⟨⟨[_, _, _], ⟨.cellN _ _ _ _ _ _ _ rfl rfl A1 Ay rfl rfl (IQ rfl), ⟨.tmp _ _ rfl, ⟨.tmp _ _ rfl, tv⟩⟩⟩, rfl⟩, ⟨rfl, rfl, rfl, tv⟩⟩
 ·have h := Al c2 h
  refine Ap (Ab (Aa Ac rfl (qL Ec DQ rfl (qL A1 Ay rfl ?_))))
  obtain ⟨v3, a3, h⟩ := bind_some h
  refine F9 [] [2001, 2002, 2003] (I2 N p0 v1.1 v3 a3) Vl EJ rfl (qm rfl (qx rfl (qx rfl (qa rfl (qa rfl (Ad (Ab (Aa Ac rfl (qL A1 Ay rfl (qm rfl (qm rfl (qs Ay rfl (qa rfl (qa rfl (Ad ?_)))))))))))))))
  obtain rfl := sj h
  refine Ak (sm [(1000, 2001), (1001, 2002), (1002, 2003)] [(2, oD (.ptr 2 0)), (3, bD v3.1), (4, iD v3.2)] [(2, .box [.own 1000, .own 1001, .own 1002]), (1000, .vec 1 (v1.1.fBase.map Ai)), (1001, .vec 1 (v1.1.fNext.map Ai)), (1002, .vec 1 (v1.1.fHeld.map Bj))] rfl rfl) (Az ?_)
  exact ⟨⟨[_, _, _], ⟨.cellN _ _ _ _ _ _ _ rfl rfl A1 Ay rfl rfl (IQ rfl), ⟨.tmp _ _ rfl, ⟨.tmp _ _ rfl, tv⟩⟩⟩, rfl⟩, ⟨rfl, rfl, rfl, tv⟩⟩
theorem Jw (N : Nat) (p0 : Ae) (r : ByteArray) (h : GF N p0 = some r) : AB Tryz.prog 48 [.e (.agg [sC (p0.fBase.map Ai), sC (p0.fNext.map Ai), sC (p0.fHeld.map Bj)])] [] (pD (.val (.string r))) := by
 unfold GF at h
 refine Ar (n := 44) (rs := [.tmp 2]) Tryz.func48 rfl rfl rfl (A4 rfl) (A4 rfl) rfl fun w0 S0 => ?_
 refine Ab (Aa Ac rfl (qb rfl (qa rfl (Ad (Ab (Aa Ac rfl (qa rfl (Ad (Ab (Ab (Aa Ac rfl (qf CE rfl (ql Bh rfl (AW AJ rfl (qm rfl (Ad ?_))))))))))))))))
 refine AM (L := F8 N p0) h (fun v1 => mk [(1, oD (.ptr 1 0)), (3, oD (.own 2001)), (9, iD ((p0.fBase.length : Int))), (10, iD v1.2)] [(1, .box [sC (p0.fBase.map Ai), sC (p0.fNext.map Ai), sC (p0.fHeld.map Bj)]), (2001, .vec 1 (v1.1.map Bj))]) (fun v2 => mk [(1, oD (.ptr 1 0)), (3, oD (.own 2002))] [(1, .box [sC (p0.fBase.map Ai), sC (p0.fNext.map Ai), sC (p0.fHeld.map Bj)]), (2002, .vec 1 (v2.map Bj))]) (fun _ _ => rfl) ((Bg 3 2003 1 rfl rfl rfl).trans (sm [(2001, 2003)] _ _ rfl rfl)) (fun j1 n1 v1 h => ?_) (fun v2 s h hs => ?_)
 ·unfold F8 at h
  refine Ab (Aa Ac rfl (A0 rfl (Ad (Ab ?_))))
  refine An rfl (fun c3 => ?_) (fun c3 => ?_)
  ·have h := Am c3 h
   refine Ap (Ab (AR (Ab (Aa Ac rfl (qm rfl (qa rfl (Ad (Aa Ac rfl (qm rfl (qf CE rfl (ql Bh rfl (qm rfl ?_))))))))))))
   obtain ⟨v4, a4, b4, h⟩ := Aj h
   refine qi AJ Dh a4 (Ag b4) rfl (qk Cg rfl (Gz VT Xy rfl (qf BB rfl (ql Bh rfl (qm rfl ?_)))))
   obtain ⟨v5, a5, b5, h⟩ := Aj h
   refine qi AJ Dh a5 (Ag b5) rfl (qk Cg rfl (AX rfl (Gz VT Xy rfl (DX Ik U2 Xk rfl ?_))))
   obtain ⟨c6, h⟩ := AL h
   refine De (f := Bj) Ik Ik U2 W4 Xk c6 rfl (qa rfl (AQ (by kernel_rfl) (Aa Ac rfl (AX rfl (qm rfl (Ad ?_))))))
   exact Aw _ h (sm [(2001, 28)] _ _ rfl rfl)
  ·have h := Al c3 h
   refine AY ?_
   exact Aw _ h (sm [(2002, 2001)] _ _ rfl rfl)
 ·refine Ak hs (Ab (Ab (Aa Ac rfl (qf Cn rfl (ql Gr rfl (AW CQ rfl (qm rfl (Ad ?_))))))))
  refine AM (L := Gg N p0) h (fun v7 => mk [(3, oD (.own 2004)), (31, pD (.sl (p0.fHeld.map Bj))), (32, iD ((p0.fHeld.length : Int))), (33, iD v7.2)] [(2004, .vec 1 (v7.1.map Bj))]) (fun v8 => mk [(3, oD (.own 2005))] [(2005, .vec 1 (v8.map Bj))]) (fun _ _ => rfl) (sm [(2004, 2002)] _ _ rfl rfl) (fun j7 n7 v7 h => ?_) (fun v8 s h hs => ?_)
  ·unfold Gg at h
   refine Ab (Aa Ac rfl (A0 rfl (Ad (Ab ?_))))
   refine An rfl (fun c9 => ?_) (fun c9 => ?_)
   ·have h := Am c9 h
    refine Ap (Ab (AR (Ab (Aa Ac rfl ?_))))
    obtain ⟨v10, a10, b10, h⟩ := Aj h
    refine qi CQ Fo a10 (Ag b10) rfl (qk IY rfl (qa rfl (Ad (Aa Ac rfl (qm rfl (qm rfl (DX Ik U2 Xk rfl ?_)))))))
    obtain ⟨c11, h⟩ := AL h
    refine De (f := Bj) Ik Ik U2 W4 Xk c11 rfl (qa rfl (Ad (Aa Ac rfl (AX rfl (qm rfl (Ad ?_))))))
    exact Aw _ h (sm [(2004, 40)] _ _ rfl rfl)
   ·have h := Al c9 h
    refine AY ?_
    exact Aw _ h (sm [(2005, 2004)] _ _ rfl rfl)
  ·refine Ak hs (Ab (Aa Ac rfl (qm rfl ?_)))
   refine Tc v8 (.p rfl) rfl (Qn Bj _ _ _) ⟨rfl, tv⟩ rfl Wl TZ ?_
   refine qa rfl (Ad ?_)
   obtain rfl := sj h
   refine Ak (sm [] [(2, pD (.val (.string ((If v8)))))] [] rfl rfl) (Az ?_)
   exact ⟨⟨[_], ⟨.tmp _ _ rfl, tv⟩, rfl⟩, tv⟩
end Go.Lift
