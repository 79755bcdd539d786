/- Lemmas for ReachRegionSaid, which YtfnobkfnohhmmaaGreatFinZ4 proves. -/
import Derived.Test.YtfnobkfnohhmmaaGreatTypes
import Derived.Test.YtfnobkfnohhmmaaGreatProg
import Derived.KernelRfl
namespace Go.Lift
open IntKind renaming wrap → wI
def DT (_ : Nat) (p0 : List Int) (p1 : Int) : Option Int :=
 AV ((decide (p1 < (p0.length : Int))))
  ((A9 p0 p1).bind fun v2 =>
  some ((wI .i64 v2)))
  (some 0)
def Ba (_ : Nat) (p0 : AI) : Option Bool :=
 Bb (fun (v1 : Bool) =>
  some v1)
 fun j1 =>
 AV ((p0.fKind == 3))
  (j1 true)
  (j1 (p0.fKind == 4))
def Ci (N : Nat) (p1 : Int) (p2 : Int) (p3 : Bool) (v1 : (List (List Bool)) × Int) (j4 : ((List Bool)) → Option ((List (List Bool)))) : Nat → ((List Bool) × Int) → Option ((List (List Bool)))
 | 0, _ => none
 | n4 + 1, v4 =>
  AV ((decide (v4.2 < p1)))
   (Bb (fun (v7 : (List Bool)) =>
    Ci N p1 p2 p3 v1 j4 n4 (v7, (wI .i64 (v4.2 + 1))))
   fun j7 =>
   AV p3
    (AV ((v1.2 == v4.2))
     ((DP (v4.1.length + (([true] : List Bool)).length ≤ Dy)).bind fun _ =>
     j7 (v4.1 ++ (([true] : List Bool))))
     ((DP (0 ≤ (wI .i64 ((wI .i64 (3 * v1.2)) + v4.2)))).bind fun _ =>
     (DP (v4.1.length + (([((Int.tmod ((Ei .u16 p2 ((wI .i64 ((wI .i64 (3 * v1.2)) + v4.2))))) 2) == 0)] : List Bool)).length ≤ Dy)).bind fun _ =>
     j7 (v4.1 ++ (([((Int.tmod ((Ei .u16 p2 ((wI .i64 ((wI .i64 (3 * v1.2)) + v4.2))))) 2) == 0)] : List Bool)))))
    ((DP (0 ≤ (wI .i64 ((wI .i64 (3 * v1.2)) + v4.2)))).bind fun _ =>
    (DP (v4.1.length + (([((Int.tmod ((Ei .u16 p2 ((wI .i64 ((wI .i64 (3 * v1.2)) + v4.2))))) 2) == 0)] : List Bool)).length ≤ Dy)).bind fun _ =>
    j7 (v4.1 ++ (([((Int.tmod ((Ei .u16 p2 ((wI .i64 ((wI .i64 (3 * v1.2)) + v4.2))))) 2) == 0)] : List Bool)))))
   (j4 v4.1)
def Cl (N : Nat) (p0 : Int) (p1 : Int) (p2 : Int) (p3 : Bool) (j1 : ((List (List Bool))) → Option ((List (List Bool)))) : Nat → ((List (List Bool)) × Int) → Option ((List (List Bool)))
 | 0, _ => none
 | n1 + 1, v1 =>
  AV ((decide (v1.2 < p0)))
   (Ci N p1 p2 p3 v1 (fun (v5 : (List Bool)) =>
    (DP (v1.1.length + (([v5] : List (List Bool))).length ≤ Dy)).bind fun _ =>
    Cl N p0 p1 p2 p3 j1 n1 (v1.1 ++ (([v5] : List (List Bool))), (wI .i64 (v1.2 + 1)))) N (([] : List Bool), 0))
   (j1 v1.1)
def DW (N : Nat) (p0 : Int) (p1 : Int) (p2 : Int) (p3 : Bool) : Option ((List (List Bool))) :=
 Cl N p0 p1 p2 p3 (fun (v2 : (List (List Bool))) =>
  some v2) N (([] : List (List Bool)), 0)
def CE (N : Nat) (p0 : Cg) (j4 : ((List Int) × (List Int) × (List Int)) → Option (Ag × Bool)) : Nat → ((List Int) × (List Int) × (List Int) × Int) → Option (Ag × Bool)
 | 0, _ => none
 | n4 + 1, v4 =>
  AV ((decide (v4.2.2.2 < (p0.fVersions.length : Int))))
   ((A9 p0.fVersions v4.2.2.2).bind fun v7 =>
   (DP (v4.1.length + (([(wI .i64 (1 + (wI .i64 ((Int.tmod v7 3)))))] : List Int)).length ≤ Dy)).bind fun _ =>
   (DT N p0.fNow v4.2.2.2).bind fun v9 =>
   (DP ((wI .i64 (1 + (wI .i64 ((Int.tmod v7 3))))) ≠ 0)).bind fun _ =>
   (DP (v4.2.1.length + (([(Int.tmod v9 ((wI .i64 (1 + (wI .i64 ((Int.tmod v7 3)))))))] : List Int)).length ≤ Dy)).bind fun _ =>
   (DT N p0.fTarget v4.2.2.2).bind fun v12 =>
   (DP ((wI .i64 (1 + (wI .i64 ((Int.tmod v7 3))))) ≠ 0)).bind fun _ =>
   (DP (v4.2.2.1.length + (([(Int.tmod v12 ((wI .i64 (1 + (wI .i64 ((Int.tmod v7 3)))))))] : List Int)).length ≤ Dy)).bind fun _ =>
   CE N p0 j4 n4 (v4.1 ++ (([(wI .i64 (1 + (wI .i64 ((Int.tmod v7 3)))))] : List Int)), v4.2.1 ++ (([(Int.tmod v9 ((wI .i64 (1 + (wI .i64 ((Int.tmod v7 3)))))))] : List Int)), v4.2.2.1 ++ (([(Int.tmod v12 ((wI .i64 (1 + (wI .i64 ((Int.tmod v7 3)))))))] : List Int)), (wI .i64 (v4.2.2.2 + 1))))
   (j4 (v4.1, v4.2.1, v4.2.2.1))
def BD (N : Nat) (p0 : Cg) (v5 : (List Int) × (List Int) × (List Int)) (j15 : ((List AI)) → Option (Ag × Bool)) : Nat → ((List AI) × Int) → Option (Ag × Bool)
 | 0, _ => none
 | n15 + 1, v15 =>
  Bb (fun (v17 : Bool) =>
   AV v17
    ((A9 p0.fLinks v15.2).bind fun v20 =>
    (DP ((v5.1.length : Int) ≠ 0)).bind fun _ =>
    (DP ((v5.1.length : Int) ≠ 0)).bind fun _ =>
    Bb (fun (v23 : Bool) =>
     (A9 v5.1 ((Int.tmod ((wI .i64 v20.fFrom)) ((v5.1.length : Int))))).bind fun v26 =>
     (A9 v5.1 ((Int.tmod ((wI .i64 v20.fTo)) ((v5.1.length : Int))))).bind fun v27 =>
     (DW N v26 v27 v20.fBad false).bind fun v28 =>
     Bb (fun (v29 : (List (List Bool))) =>
      (DP (v15.1.length + (([(AI.mk ((wI .i64 (1 + (wI .i64 ((Int.tmod v20.fKind 4)))))) ((Int.tmod ((wI .i64 v20.fFrom)) ((v5.1.length : Int)))) ((Int.tmod ((wI .i64 v20.fTo)) ((v5.1.length : Int)))) v23 v28 v29)] : List AI)).length ≤ Dy)).bind fun _ =>
      BD N p0 v5 j15 n15 (v15.1 ++ (([(AI.mk ((wI .i64 (1 + (wI .i64 ((Int.tmod v20.fKind 4)))))) ((Int.tmod ((wI .i64 v20.fFrom)) ((v5.1.length : Int)))) ((Int.tmod ((wI .i64 v20.fTo)) ((v5.1.length : Int)))) v23 v28 v29)] : List AI)), (wI .i64 (v15.2 + 1))))
     fun j29 =>
     AV (((wI .i64 (1 + (wI .i64 ((Int.tmod v20.fKind 4))))) == 4))
      ((A9 v5.1 ((Int.tmod ((wI .i64 v20.fFrom)) ((v5.1.length : Int))))).bind fun v31 =>
      (A9 v5.1 ((Int.tmod ((wI .i64 v20.fFrom)) ((v5.1.length : Int))))).bind fun v32 =>
      (DW N v31 v32 v20.fLost true).bind fun v33 =>
      j29 v33)
      (j29 ([] : List (List Bool))))
    fun j23 =>
    AV v20.fAware
     ((Ba N ((AI.mk ((wI .i64 (1 + (wI .i64 ((Int.tmod v20.fKind 4)))))) ((Int.tmod ((wI .i64 v20.fFrom)) ((v5.1.length : Int)))) ((Int.tmod ((wI .i64 v20.fTo)) ((v5.1.length : Int)))) false (([] : List (List Bool))) (([] : List (List Bool)))))).bind fun v25 =>
     j23 (!v25))
     (j23 false))
    (j15 v15.1))
  fun j17 =>
  AV ((decide (v15.2 < (p0.fLinks.length : Int))))
   (j17 (decide (0 < (v5.1.length : Int))))
   (j17 false)
def E1 (N : Nat) (p0 : Cg) : Option (Ag × Bool) :=
 Bb (fun (v1 : Bool) =>
  AV v1
   (some ((Ag.mk (([] : List Int)) (([] : List Int)) (([] : List Int)) (([] : List AI))), false))
   (CE N p0 (fun (v5 : (List Int) × (List Int) × (List Int)) =>
    BD N p0 v5 (fun (v16 : (List AI)) =>
     some ((Ag.mk v5.1 v5.2.1 v5.2.2 v16), true)) N (([] : List AI), 0)) N (([] : List Int), ([] : List Int), ([] : List Int), 0)))
 fun j1 =>
 AV ((decide (3 < (p0.fVersions.length : Int))))
  (j1 true)
  (j1 (decide (4 < (p0.fLinks.length : Int))))
def CJ (_ : Nat) (p0 : Bool) : Option Ag :=
 some ((Ag.mk (([2] : List Int)) (([0] : List Int)) (([1] : List Int)) (([(AI.mk 1 0 0 false (([([true, true] : List Bool), ([p0, true] : List Bool)] : List (List Bool))) (([] : List (List Bool))))] : List AI))))
def D2 (_ : Nat) (p0 : Int) (p1 : Int) : Option Bool :=
 Bb (fun (v1 : Bool) =>
  some v1)
 fun j1 =>
 AV ((decide (0 ≤ p0)))
  (j1 (decide (p0 < p1)))
  (j1 false)
def Gz (_ : Nat) (p0 : Int) (p1 : Bool) : Option Bool :=
 Bb (fun (v1 : Bool) =>
  some v1)
 fun j1 =>
 AV ((p0 == 1))
  (j1 true)
  (AV ((p0 == 2))
   (j1 true)
   (AV ((p0 == 3))
    (j1 (!p1))
    (AV ((p0 == 4))
     (j1 (!p1))
     (j1 false))))
def DO (_ : Nat) (p0 : List Bool) (p1 : Int) : Option Bool :=
 some (((p0.length : Int) != p1))
def Bt (N : Nat) (p0 : List (List Bool)) (p1 : (List Bool) → Option Bool) (j1 : Unit → Option Int) : Nat → Int → Option Int
 | 0, _ => none
 | n1 + 1, v1 =>
  AV ((decide (v1 < (p0.length : Int))))
   ((A9 p0 v1).bind fun v4 =>
   (p1 v4).bind fun v5 =>
   AV v5
    (some v1)
    (Bt N p0 p1 j1 n1 (wI .i64 (v1 + 1))))
   (j1 ())
def Dm (N : Nat) (p0 : List (List Bool)) (p1 : (List Bool) → Option Bool) : Option Int :=
 Bt N p0 p1 (fun (_ : Unit) =>
  some ((-1))) N 0
def CU (N : Nat) (p0 : List (List Bool)) (p1 : (List Bool) → Option Bool) : Option Bool :=
 (Dm N p0 p1).bind fun v1 =>
 some ((decide (0 ≤ v1)))
def EZ (N : Nat) (p0 : List (List Bool)) (p1 : Int) (p2 : Int) : Option Bool :=
 Bb (fun (v1 : Bool) =>
  some v1)
 fun j1 =>
 AV (((p0.length : Int) == p1))
  ((CU N p0 ((fun (x : List Bool) => DO N x p2))).bind fun v3 =>
  j1 (!v3))
  (j1 false)
def C2 (N : Nat) (p1 : AI) (j19 : Unit → Option Int) : Nat → Int → Option Int
 | 0, _ => none
 | n19 + 1, v19 =>
  AV ((decide (v19 < (p1.fRewrite.length : Int))))
   ((A9 p1.fRewrite v19).bind fun v22 =>
   (A9 v22 v19).bind fun v23 =>
   AV ((!v23))
    (some 1)
    (C2 N p1 j19 n19 (wI .i64 (v19 + 1))))
   (j19 ())
def FZ (N : Nat) (p0 : Ag) (p1 : AI) : Option Int :=
 (Gz N p1.fKind p1.fAware).bind fun v1 =>
 AV ((!v1))
  (some 1)
  (Bb (fun (v3 : Bool) =>
   AV v3
    (some 4)
    ((A9 p0.fVersions p1.fFrom).bind fun v8 =>
    Bb (fun (v9 : Bool) =>
     AV v9
      (some 6)
      (C2 N p1 (fun (_ : Unit) =>
       some 0) N 0))
    fun j9 =>
    (A9 p0.fVersions p1.fTo).bind fun v10 =>
    (EZ N p1.fOK v8 v10).bind fun v11 =>
    AV ((!v11))
     (j9 true)
     (AV ((p1.fKind == 4))
      ((EZ N p1.fRewrite v8 v8).bind fun v14 =>
      AV ((!v14))
       (j9 true)
       (AV ((!((p1.fKind == 4))))
        (j9 (decide (0 < (p1.fRewrite.length : Int))))
        (j9 false)))
      (AV ((!((p1.fKind == 4))))
       (j9 (decide (0 < (p1.fRewrite.length : Int))))
       (j9 false)))))
  fun j3 =>
  (D2 N p1.fFrom ((p0.fVersions.length : Int))).bind fun v4 =>
  AV ((!v4))
   (j3 true)
   ((D2 N p1.fTo ((p0.fVersions.length : Int))).bind fun v6 =>
   j3 (!v6)))
def BT (N : Nat) (p0 : Ag) (j7 : Unit → Option Int) : Nat → Int → Option Int
 | 0, _ => none
 | n7 + 1, v7 =>
  AV ((decide (v7 < (p0.fVersions.length : Int))))
   ((A9 p0.fVersions v7).bind fun v10 =>
   Bb (fun (v11 : Bool) =>
    AV v11
     (some 7)
     (BT N p0 j7 n7 (wI .i64 (v7 + 1))))
   fun j11 =>
   AV ((decide (v10 < 1)))
    (j11 true)
    (AV ((decide (6 < v10)))
     (j11 true)
     ((A9 p0.fNow v7).bind fun v14 =>
     (D2 N v14 v10).bind fun v15 =>
     AV ((!v15))
      (j11 true)
      ((A9 p0.fTarget v7).bind fun v17 =>
      (D2 N v17 v10).bind fun v18 =>
      j11 (!v18)))))
   (j7 ())
def BN (N : Nat) (p0 : Ag) (j20 : Unit → Option Int) : Nat → Int → Option Int
 | 0, _ => none
 | n20 + 1, v20 =>
  AV ((decide (v20 < (p0.fTables.length : Int))))
   ((A9 p0.fTables v20).bind fun v23 =>
   (FZ N p0 v23).bind fun v24 =>
   AV ((v24 != 0))
    (some v24)
    (BN N p0 j20 n20 (wI .i64 (v20 + 1))))
   (j20 ())
def Dq (N : Nat) (p0 : Ag) : Option Int :=
 Bb (fun (v1 : Bool) =>
  AV v1
   (some 3)
   (Bb (fun (v4 : Bool) =>
    AV v4
     (some 6)
     (BT N p0 (fun (_ : Unit) =>
      BN N p0 (fun (_ : Unit) =>
       some 0) N 0) N 0))
   fun j4 =>
   AV (((p0.fNow.length : Int) != (p0.fVersions.length : Int)))
    (j4 true)
    (j4 ((p0.fTarget.length : Int) != (p0.fVersions.length : Int)))))
 fun j1 =>
 AV ((decide (6 < (p0.fVersions.length : Int))))
  (j1 true)
  (j1 (decide (12 < (p0.fTables.length : Int))))
def BL (_ : Nat) (p0 : List Int) : Option ((List Int)) :=
 (DP ((([] : List Int)).length + p0.length ≤ Dy)).bind fun _ =>
 some ((([] : List Int)) ++ p0)
def GJ (_ : Nat) (p0 : Int) (p1 : Int) : Option (Int × Int) :=
 some ((wI .u32 ((Ei .u64 ((wI .u64 ((wI .u64 p0) * (wI .u64 p1)))) 32))), (wI .u32 ((wI .u64 ((wI .u64 p0) * (wI .u64 p1))))))
def GK (_ : Nat) (p0 : Int) (p1 : Int) : Option (Int × Int) :=
 some ((wI .u64 ((wI .u64 ((wI .u64 ((Ei .u64 p0 32) * (Ei .u64 p1 32))) + (Ei .u64 ((wI .u64 ((wI .u64 ((Ei .u64 p0 32) * (FB .u64 p1 4294967295))) + (Ei .u64 ((wI .u64 ((FB .u64 p0 4294967295) * (FB .u64 p1 4294967295)))) 32)))) 32))) + (Ei .u64 ((wI .u64 ((FB .u64 ((wI .u64 ((wI .u64 ((Ei .u64 p0 32) * (FB .u64 p1 4294967295))) + (Ei .u64 ((wI .u64 ((FB .u64 p0 4294967295) * (FB .u64 p1 4294967295)))) 32)))) 4294967295) + (wI .u64 ((FB .u64 p0 4294967295) * (Ei .u64 p1 32)))))) 32))), (wI .u64 (p0 * p1)))
def Hr (N : Nat) (p0 : Int) (p1 : Int) : Option (Int × Int) :=
 AV false
  ((GJ N ((wI .u32 p0)) ((wI .u32 p1))).bind fun v2 =>
  some ((wI .u64 v2.1), (wI .u64 v2.2)))
  ((GK N p0 p1).bind fun v3 =>
  some (v3.1, v3.2))
def DL (N : Nat) (j9 : ((List Int)) → Option ((List Int))) : Nat → ((List Int) × Int) → Option ((List Int))
 | 0, _ => none
 | n9 + 1, v9 =>
  AV ((decide (v9.2 < (v9.1.length : Int))))
   ((DP ((0 : Int) ≤ v9.2 ∧ (v9.2).toNat ≤ v9.1.length ∧ v9.1.length ≤ v9.1.length)).bind fun _ =>
   (DP ((0 : Int) ≤ v9.2 ∧ 0 ≤ (v9.2).toNat ∧ (v9.2).toNat ≤ v9.1.length)).bind fun _ =>
   DL N j9 n9 (H4 v9.1 ((v9.2).toNat) ((((v9.1.drop 0).take ((v9.2).toNat))).take (Nat.min (((v9.1.drop 0).take ((v9.2).toNat))).length ((v9.1.length - (v9.2).toNat)))), (wI .i64 (v9.2 + (((Nat.min (((v9.1.drop 0).take ((v9.2).toNat))).length ((v9.1.length - (v9.2).toNat))) : Nat) : Int)))))
   (j9 v9.1)
def Ek (N : Nat) (p0 : List Int) (p1 : Int) : Option ((List Int)) :=
 Bb (fun (_ : Unit) =>
  (Hr N ((wI .u64 ((p0.length : Int)))) ((wI .u64 p1))).bind fun v3 =>
  Bb (fun (_ : Unit) =>
   (DP ((0 : Int) ≤ (wI .i64 v3.2) ∧ (wI .i64 v3.2) ≤ (wI .i64 v3.2) ∧ (wI .i64 v3.2) ≤ (Dy : Int))).bind fun _ =>
   DL N (fun (v10 : (List Int)) =>
    some v10) N (H4 (List.replicate ((wI .i64 v3.2)).toNat ((0 : Int))) 0 (p0.take (Nat.min p0.length ((List.replicate ((wI .i64 v3.2)).toNat ((0 : Int))).length))), (((Nat.min p0.length ((List.replicate ((wI .i64 v3.2)).toNat ((0 : Int))).length)) : Nat) : Int)))
  fun j4 =>
  Bb (fun (v5 : Bool) =>
   AV v5
    (none)
    (j4 ()))
  fun j5 =>
  AV ((decide (0 < v3.1)))
   (j5 true)
   (j5 (decide (9223372036854775807 < v3.2))))
 fun j1 =>
 AV ((decide (p1 < 0)))
  (none)
  (j1 ())
def Fg (_ : Nat) (p0 : AI) : Option Bool :=
 Bb (fun (v1 : Bool) =>
  some v1)
 fun j1 =>
 AV ((p0.fKind == 3))
  (j1 true)
  (j1 (p0.fKind == 4))
def D3 (N : Nat) (p0 : Ag) (j6 : ((List Int)) → Option (Ae × Int)) : Nat → ((List Int) × Int) → Option (Ae × Int)
 | 0, _ => none
 | n6 + 1, v6 =>
  AV ((decide (v6.2 < (p0.fTables.length : Int))))
   (Bb (fun (v9 : (List Int)) =>
    D3 N p0 j6 n6 (v9, (wI .i64 (v6.2 + 1))))
   fun j9 =>
   (A9 p0.fTables v6.2).bind fun v10 =>
   (Fg N v10).bind fun v11 =>
   AV v11
    ((A9 p0.fNow v10.fFrom).bind fun v13 =>
    (DP (0 ≤ v13)).bind fun _ =>
    (A9 v6.1 v6.2).bind fun _ =>
    j9 (v6.1.set ((v6.2).toNat) ((Co .u8 1 v13))))
    (j9 v6.1))
   (j6 v6.1)
def F6 (N : Nat) (p0 : Ag) : Option (Ae × Int) :=
 (Dq N p0).bind fun v1 =>
 AV ((v1 != 0))
  (some ((Ae.mk (([] : List Int)) (([] : List Int)) (([] : List Int))), v1))
  ((BL N p0.fNow).bind fun v3 =>
  (Ek N (([(-1)] : List Int)) ((p0.fNow.length : Int))).bind fun v4 =>
  (DP ((0 : Int) ≤ (p0.fTables.length : Int) ∧ (p0.fTables.length : Int) ≤ (p0.fTables.length : Int) ∧ (p0.fTables.length : Int) ≤ (Dy : Int))).bind fun _ =>
  D3 N p0 (fun (v7 : (List Int)) =>
   some ((Ae.mk v3 v4 v7), 0)) N (List.replicate ((p0.fTables.length : Int)).toNat ((0 : Int)), 0))
def EO (_ : Nat) (p0 : Ae) (p1 : Int) : Option Int :=
 (A9 p0.fBase p1).bind fun v1 =>
 (DP (0 ≤ v1)).bind fun _ =>
 Bb (fun (v3 : Int) =>
  some v3)
 fun j3 =>
 (A9 p0.fNext p1).bind fun v4 =>
 AV ((decide (0 ≤ v4)))
  ((A9 p0.fNext p1).bind fun v6 =>
  (DP (0 ≤ v6)).bind fun _ =>
  j3 (Oa .u8 ((Co .u8 1 v1)) ((Co .u8 1 v6))))
  (j3 (Co .u8 1 v1))
def DY (N : Nat) (p0 : Ag) (p1 : Ae) (j7 : Unit → Option Int) : Nat → Int → Option Int
 | 0, _ => none
 | n7 + 1, v7 =>
  AV ((decide (v7 < (p0.fVersions.length : Int))))
   ((A9 p0.fVersions v7).bind fun v10 =>
   Bb (fun (v11 : Bool) =>
    AV v11
     (some 7)
     ((A9 p1.fBase v7).bind fun v20 =>
     (A9 p1.fNext v7).bind fun v21 =>
     AV ((v20 == v21))
      (some 1)
      (DY N p0 p1 j7 n7 (wI .i64 (v7 + 1)))))
   fun j11 =>
   (A9 p1.fBase v7).bind fun v12 =>
   AV ((decide (v12 < 0)))
    (j11 true)
    ((A9 p1.fBase v7).bind fun v14 =>
    AV ((decide (v10 ≤ v14)))
     (j11 true)
     ((A9 p1.fNext v7).bind fun v16 =>
     AV ((decide (v16 < (-1))))
      (j11 true)
      ((A9 p1.fNext v7).bind fun v18 =>
      j11 (decide (v10 ≤ v18))))))
   (j7 ())
def DF (N : Nat) (p0 : Ag) (p1 : Ae) (j23 : Unit → Option Int) : Nat → Int → Option Int
 | 0, _ => none
 | n23 + 1, v23 =>
  AV ((decide (v23 < (p0.fTables.length : Int))))
   ((A9 p0.fTables v23).bind fun v26 =>
   Bb (fun (v27 : Int × Int) =>
    Bb (fun (v33 : Bool) =>
     AV v33
      (some 1)
      (DF N p0 p1 j23 n23 (wI .i64 (v23 + 1))))
    fun j33 =>
    (A9 p1.fHeld v23).bind fun v34 =>
    AV (((De .u8 v27.1 v34) != 0))
     (j33 true)
     ((A9 p1.fHeld v23).bind fun v36 =>
     j33 ((De .u8 v36 v27.2) != 0)))
   fun j27 =>
   (Fg N v26).bind fun v28 =>
   AV v28
    ((EO N p1 v26.fFrom).bind fun v30 =>
    (A9 p0.fVersions v26.fFrom).bind fun v31 =>
    (DP (0 ≤ v31)).bind fun _ =>
    j27 (v30, (wI .u8 ((Co .u8 1 v31) - 1))))
    (j27 (0, 0)))
   (j23 ())
def E7 (N : Nat) (p0 : Ag) (p1 : Ae) : Option Int :=
 (Dq N p0).bind fun v1 =>
 AV ((v1 != 0))
  (some v1)
  (Bb (fun (v3 : Bool) =>
   AV v3
    (some 6)
    (DY N p0 p1 (fun (_ : Unit) =>
     DF N p0 p1 (fun (_ : Unit) =>
      some 0) N 0) N 0))
  fun j3 =>
  AV (((p1.fBase.length : Int) != (p0.fVersions.length : Int)))
   (j3 true)
   (AV (((p1.fNext.length : Int) != (p0.fVersions.length : Int)))
    (j3 true)
    (j3 ((p1.fHeld.length : Int) != (p0.fTables.length : Int)))))
def BP (_ : Nat) (p0 : List Int) : Option ((List Int)) :=
 (DP ((([] : List Int)).length + p0.length ≤ Dy)).bind fun _ =>
 some ((([] : List Int)) ++ p0)
def DK (N : Nat) (p1 : Ae) (j3 : ((List Int)) → Option ((List Ae) × Int)) : Nat → ((List Int) × Int) → Option ((List Ae) × Int)
 | 0, _ => none
 | n3 + 1, v3 =>
  AV ((decide (v3.2 < (p1.fNext.length : Int))))
   (Bb (fun (v6 : (List Int)) =>
    DK N p1 j3 n3 (v6, (wI .i64 (v3.2 + 1))))
   fun j6 =>
   (A9 p1.fNext v3.2).bind fun v7 =>
   AV ((decide (0 ≤ v7)))
    ((DP (v3.1.length + (([v3.2] : List Int)).length ≤ Dy)).bind fun _ =>
    j6 (v3.1 ++ (([v3.2] : List Int))))
    (j6 v3.1))
   (j3 v3.1)
def CT (N : Nat) (v4 : (List Int)) (v11 : (List Ae) × Int) (j17 : ((List Int)) → Option ((List Ae) × Int)) : Nat → ((List Int) × Int) → Option ((List Ae) × Int)
 | 0, _ => none
 | n17 + 1, v17 =>
  AV ((decide (v17.2 < (v4.length : Int))))
   (Bb (fun (v20 : (List Int)) =>
    CT N v4 v11 j17 n17 (v20, (wI .i64 (v17.2 + 1))))
   fun j20 =>
   (A9 v4 v17.2).bind fun v21 =>
   (DP (0 ≤ v17.2)).bind fun _ =>
   AV (((FB .i64 ((Ei .i64 v11.2 v17.2)) 1) == 1))
    ((A9 v17.1 v21).bind fun _ =>
    j20 (v17.1.set ((v21).toNat) ((-1))))
    (j20 v17.1))
   (j17 v17.1)
def CV (N : Nat) (p1 : Ae) (v4 : (List Int)) (j11 : ((List Ae)) → Option ((List Ae) × Int)) : Nat → ((List Ae) × Int) → Option ((List Ae) × Int)
 | 0, _ => none
 | n11 + 1, v11 =>
  AV ((decide (v11.2 < (Co .i64 1 ((v4.length : Int))))))
   ((BL N p1.fBase).bind fun v14 =>
   (BL N p1.fNext).bind fun v15 =>
   (BP N p1.fHeld).bind fun v16 =>
   CT N v4 v11 (fun (v18 : (List Int)) =>
    (DP (v11.1.length + (([(Ae.mk v14 v18 v16)] : List Ae)).length ≤ Dy)).bind fun _ =>
    CV N p1 v4 j11 n11 (v11.1 ++ (([(Ae.mk v14 v18 v16)] : List Ae)), (wI .i64 (v11.2 + 1)))) N (v15, 0))
   (j11 v11.1)
def FL (N : Nat) (p0 : Ag) (p1 : Ae) : Option ((List Ae) × Int) :=
 (E7 N p0 p1).bind fun v1 =>
 AV ((v1 != 0))
  (some (([] : List Ae), v1))
  (DK N p1 (fun (v4 : (List Int)) =>
   (DP (0 ≤ (v4.length : Int))).bind fun _ =>
   CV N p1 v4 (fun (v12 : (List Ae)) =>
    some (v12, 0)) N (([] : List Ae), 0)) N (([] : List Int), 0))
def BX (N : Nat) (v1 : (List Av) × Int) (v4 : AI) (v6 : Int) (v11 : (List Av) × Int) (v17 : List Bool) (j18 : ((List Av) × Bool) → Option ((List Av))) : Nat → ((List Av) × Bool × Int) → Option ((List Av))
 | 0, _ => none
 | n18 + 1, v18 =>
  AV ((decide (v18.2.2 < (v17.length : Int))))
   (Bb (fun (v21 : (List Av) × Bool) =>
    BX N v1 v4 v6 v11 v17 j18 n18 (v21.1, v21.2, (wI .i64 (v18.2.2 + 1))))
   fun j21 =>
   (A9 v17 v18.2.2).bind fun v22 =>
   (DP (0 ≤ v18.2.2)).bind fun _ =>
   AV (((FB .u8 ((Ei .u8 v6 v18.2.2)) 1) == 0))
    (j21 (v18.1, v18.2.1))
    (Bb (fun (v25 : Bool) =>
     Bb (fun (v27 : Bool) =>
      AV v27
       ((DP (v18.1.length + (([(Av.mk v1.2 v11.2 v18.2.2)] : List Av)).length ≤ Dy)).bind fun _ =>
       j21 (v18.1 ++ (([(Av.mk v1.2 v11.2 v18.2.2)] : List Av)), v25))
       (j21 (v18.1, v25)))
     fun j27 =>
     AV ((!v22))
      (j27 (!v4.fAware))
      (j27 false))
    fun j25 =>
    AV v18.2.1
     (j25 true)
     (j25 v22)))
   (j18 (v18.1, v18.2.1))
def Cj (N : Nat) (v1 : (List Av) × Int) (v4 : AI) (v6 : Int) (v7 : Int) (j11 : ((List Av)) → Option ((List Av))) : Nat → ((List Av) × Int) → Option ((List Av))
 | 0, _ => none
 | n11 + 1, v11 =>
  AV ((decide (v11.2 < (v4.fOK.length : Int))))
   (Bb (fun (v14 : (List Av)) =>
    Cj N v1 v4 v6 v7 j11 n11 (v14, (wI .i64 (v11.2 + 1))))
   fun j14 =>
   (DP (0 ≤ v11.2)).bind fun _ =>
   AV (((FB .u8 ((Ei .u8 v7 v11.2)) 1) == 0))
    (j14 v11.1)
    ((A9 v4.fOK v11.2).bind fun v17 =>
    BX N v1 v4 v6 v11 v17 (fun (v19 : (List Av) × Bool) =>
     Bb (fun (v31 : Bool) =>
      AV v31
       ((DP (v19.1.length + (([(Av.mk v1.2 v11.2 ((-1)))] : List Av)).length ≤ Dy)).bind fun _ =>
       j14 (v19.1 ++ (([(Av.mk v1.2 v11.2 ((-1)))] : List Av))))
       (j14 v19.1))
     fun j31 =>
     AV v4.fAware
      (j31 (!v19.2))
      (j31 false)) N (v11.1, false, 0)))
   (j11 v11.1)
def Df (N : Nat) (p0 : Ag) (p1 : Ae) (j1 : ((List Av)) → Option ((List Av))) : Nat → ((List Av) × Int) → Option ((List Av))
 | 0, _ => none
 | n1 + 1, v1 =>
  AV ((decide (v1.2 < (p0.fTables.length : Int))))
   ((A9 p0.fTables v1.2).bind fun v4 =>
   (EO N p1 v4.fFrom).bind fun v5 =>
   (EO N p1 v4.fTo).bind fun v6 =>
   Bb (fun (v7 : Int) =>
    Cj N v1 v4 v6 v7 (fun (v12 : (List Av)) =>
     Df N p0 p1 j1 n1 (v12, (wI .i64 (v1.2 + 1)))) N (v1.1, 0))
   fun j7 =>
   (Fg N v4).bind fun v8 =>
   AV v8
    ((A9 p1.fHeld v1.2).bind fun v10 =>
    j7 v10)
    (j7 v5))
   (j1 v1.1)
def Fk (N : Nat) (p0 : Ag) (p1 : Ae) : Option ((List Av)) :=
 Df N p0 p1 (fun (v2 : (List Av)) =>
  some v2) N (([] : List Av), 0)
def Ey (N : Nat) (p0 : Ag) (v1 : (List Ae) × Int) (j3 : Unit → Option (Ae × Av × Int)) : Nat → Int → Option (Ae × Av × Int)
 | 0, _ => none
 | n3 + 1, v3 =>
  AV ((decide (v3 < (v1.1.length : Int))))
   ((A9 v1.1 v3).bind fun v6 =>
   (Fk N p0 v6).bind fun v7 =>
   AV ((decide (0 < (v7.length : Int))))
    ((A9 v7 0).bind fun v9 =>
    some (v6, v9, 0))
    (Ey N p0 v1 j3 n3 (wI .i64 (v3 + 1))))
   (j3 ())
def Hg (N : Nat) (p0 : Ag) (p1 : Ae) : Option (Ae × Av × Int) :=
 (FL N p0 p1).bind fun v1 =>
 AV ((v1.2 != 0))
  (some ((Ae.mk (([] : List Int)) (([] : List Int)) (([] : List Int))), (Av.mk 0 0 0), v1.2))
  (Ey N p0 v1 (fun (_ : Unit) =>
   some ((Ae.mk (([] : List Int)) (([] : List Int)) (([] : List Int))), (Av.mk 0 0 0), 15)) N 0)
def Fc (N : Nat) (p0 : Ag) (p1 : Ae) : Option (Bool × Int) :=
 (Hg N p0 p1).bind fun v1 =>
 AV ((v1.2.2 == 0))
  (some (false, 0))
  (AV ((v1.2.2 == 15))
   (some (true, 0))
   (some (false, v1.2.2)))
def Fr (N : Nat) (p0 : Ag) : Option (Ae × Bool × Int) :=
 (F6 N p0).bind fun v1 =>
 AV ((v1.2 != 0))
  (some ((Ae.mk (([] : List Int)) (([] : List Int)) (([] : List Int))), false, v1.2))
  ((Fc N p0 v1.1).bind fun v3 =>
  some (v1.1, v3.1, v3.2))
def D4 (N : Nat) (p0 : Ae) (j1 : ((List Int)) → Option ByteArray) : Nat → ((List Int) × Int) → Option ByteArray
 | 0, _ => none
 | n1 + 1, v1 =>
  AV ((decide (v1.2 < (p0.fBase.length : Int))))
   ((A9 p0.fBase v1.2).bind fun v4 =>
   (A9 p0.fNext v1.2).bind fun v5 =>
   (DP (v1.1.length + (([(wI .u8 v4), (wI .u8 ((wI .i64 (v5 + 1))))] : List Int)).length ≤ Dy)).bind fun _ =>
   D4 N p0 j1 n1 (v1.1 ++ (([(wI .u8 v4), (wI .u8 ((wI .i64 (v5 + 1))))] : List Int)), (wI .i64 (v1.2 + 1))))
   (j1 v1.1)
def C3 (N : Nat) (p0 : Ae) (j7 : ((List Int)) → Option ByteArray) : Nat → ((List Int) × Int) → Option ByteArray
 | 0, _ => none
 | n7 + 1, v7 =>
  AV ((decide (v7.2 < (p0.fHeld.length : Int))))
   ((A9 p0.fHeld v7.2).bind fun v10 =>
   (DP (v7.1.length + (([v10] : List Int)).length ≤ Dy)).bind fun _ =>
   C3 N p0 j7 n7 (v7.1 ++ (([v10] : List Int)), (wI .i64 (v7.2 + 1))))
   (j7 v7.1)
def Fv (N : Nat) (p0 : Ae) : Option ByteArray :=
 D4 N p0 (fun (v2 : (List Int)) =>
  C3 N p0 (fun (v8 : (List Int)) =>
   some ((CD v8))) N (v2, 0)) N (([] : List Int), 0)
def Ep (N : Nat) (v1 : (List Ak) × Int) (v4 : Int) (j5 : ((List Ak)) → Option ((List Ak))) : Nat → ((List Ak) × Int) → Option ((List Ak))
 | 0, _ => none
 | n5 + 1, v5 =>
  AV ((decide (v5.2 < v4)))
   ((DP (v5.1.length + (([(Ak.mk 1 v1.2 v5.2)] : List Ak)).length ≤ Dy)).bind fun _ =>
   Ep N v1 v4 j5 n5 (v5.1 ++ (([(Ak.mk 1 v1.2 v5.2)] : List Ak)), (wI .i64 (v5.2 + 1))))
   (j5 v5.1)
def CZ (N : Nat) (p0 : Ag) (j1 : ((List Ak)) → Option ((List Ak))) : Nat → ((List Ak) × Int) → Option ((List Ak))
 | 0, _ => none
 | n1 + 1, v1 =>
  AV ((decide (v1.2 < (p0.fVersions.length : Int))))
   ((A9 p0.fVersions v1.2).bind fun v4 =>
   Ep N v1 v4 (fun (v6 : (List Ak)) =>
    CZ N p0 j1 n1 (v6, (wI .i64 (v1.2 + 1)))) N (v1.1, 0))
   (j1 v1.1)
def Ck (N : Nat) (p0 : Ag) (j9 : ((List Ak)) → Option ((List Ak))) : Nat → ((List Ak) × Int) → Option ((List Ak))
 | 0, _ => none
 | n9 + 1, v9 =>
  AV ((decide (v9.2 < (p0.fVersions.length : Int))))
   ((DP (v9.1.length + (([(Ak.mk 2 v9.2 0)] : List Ak)).length ≤ Dy)).bind fun _ =>
   Ck N p0 j9 n9 (v9.1 ++ (([(Ak.mk 2 v9.2 0)] : List Ak)), (wI .i64 (v9.2 + 1))))
   (j9 v9.1)
def Bw (N : Nat) (p0 : Ag) (j13 : ((List Ak)) → Option ((List Ak))) : Nat → ((List Ak) × Int) → Option ((List Ak))
 | 0, _ => none
 | n13 + 1, v13 =>
  AV ((decide (v13.2 < (p0.fTables.length : Int))))
   ((DP (v13.1.length + (([(Ak.mk 3 v13.2 0)] : List Ak)).length ≤ Dy)).bind fun _ =>
   Bw N p0 j13 n13 (v13.1 ++ (([(Ak.mk 3 v13.2 0)] : List Ak)), (wI .i64 (v13.2 + 1))))
   (j13 v13.1)
def HE (N : Nat) (p0 : Ag) : Option ((List Ak)) :=
 CZ N p0 (fun (v2 : (List Ak)) =>
  Ck N p0 (fun (v10 : (List Ak)) =>
   Bw N p0 (fun (v14 : (List Ak)) =>
    some v14) N (v10, 0)) N (v2, 0)) N (([] : List Ak), 0)
def Fp (N : Nat) (p0 : Ae) : Option Ae :=
 (BL N p0.fBase).bind fun v1 =>
 (BL N p0.fNext).bind fun v2 =>
 (BP N p0.fHeld).bind fun v3 =>
 some ((Ae.mk v1 v2 v3))
def Fm (_ : Nat) (p0 : AI) : Option Bool :=
 Bb (fun (v1 : Bool) =>
  some v1)
 fun j1 =>
 AV ((p0.fKind == 3))
  (j1 true)
  (j1 (p0.fKind == 4))
def DH (N : Nat) (p0 : Ag) (p2 : Ak) (j7 : ((List Int)) → Option (Bool × (List Int) × (List Int))) : Nat → ((List Int) × Int) → Option (Bool × (List Int) × (List Int))
 | 0, _ => none
 | n7 + 1, v7 =>
  AV ((decide (v7.2 < (p0.fTables.length : Int))))
   (Bb (fun (v10 : (List Int)) =>
    DH N p0 p2 j7 n7 (v10, (wI .i64 (v7.2 + 1))))
   fun j10 =>
   (A9 p0.fTables v7.2).bind fun v11 =>
   Bb (fun (v12 : Bool) =>
    AV v12
     ((A9 v7.1 v7.2).bind fun v16 =>
     (DP (0 ≤ p2.fVersion)).bind fun _ =>
     (A9 v7.1 v7.2).bind fun _ =>
     j10 (v7.1.set ((v7.2).toNat) ((Oa .u8 v16 ((Co .u8 1 p2.fVersion))))))
     (j10 v7.1))
   fun j12 =>
   AV ((v11.fFrom == p2.fIndex))
    ((Fm N v11).bind fun v14 =>
    j12 v14)
    (j12 false))
   (j7 v7.1)
def Hy (N : Nat) (p0 : Ag) (p1 : Ae) (p2 : Ak) : Option (Bool × (List Int) × (List Int)) :=
 Bb (fun (v1 : Bool) =>
  AV v1
   (some (false, p1.fNext, p1.fHeld))
   ((A9 p1.fNext p2.fIndex).bind fun _ =>
   DH N p0 p2 (fun (v8 : (List Int)) =>
    some (true, p1.fNext.set ((p2.fIndex).toNat) p2.fVersion, v8)) N (p1.fHeld, 0)))
 fun j1 =>
 (A9 p1.fNext p2.fIndex).bind fun v2 =>
 AV ((decide (0 ≤ v2)))
  (j1 true)
  ((A9 p1.fBase p2.fIndex).bind fun v4 =>
  j1 (v4 == p2.fVersion))
def FD (_ : Nat) (p0 : Ae) (p1 : Int) : Option Int :=
 (A9 p0.fBase p1).bind fun v1 =>
 (DP (0 ≤ v1)).bind fun _ =>
 Bb (fun (v3 : Int) =>
  some v3)
 fun j3 =>
 (A9 p0.fNext p1).bind fun v4 =>
 AV ((decide (0 ≤ v4)))
  ((A9 p0.fNext p1).bind fun v6 =>
  (DP (0 ≤ v6)).bind fun _ =>
  j3 (Oa .u8 ((Co .u8 1 v1)) ((Co .u8 1 v6))))
  (j3 (Co .u8 1 v1))
def CW (_ : Nat) (p0 : Int) : Option Int :=
 (SE ((⟨⟨(List.append (List.append [8, 0, 1, 0, 2, 0, 1, 0, 3, 0, 1, 0, 2, 0, 1, 0, 4, 0, 1, 0, 2, 0, 1, 0, 3, 0, 1, 0, 2, 0, 1, 0, 5, 0, 1, 0, 2, 0, 1, 0, 3, 0, 1, 0, 2, 0, 1, 0, 4, 0, 1, 0, 2, 0, 1, 0, 3, 0, 1, 0, 2, 0, 1, 0] [6, 0, 1, 0, 2, 0, 1, 0, 3, 0, 1, 0, 2, 0, 1, 0, 4, 0, 1, 0, 2, 0, 1, 0, 3, 0, 1, 0, 2, 0, 1, 0, 5, 0, 1, 0, 2, 0, 1, 0, 3, 0, 1, 0, 2, 0, 1, 0, 4, 0, 1, 0, 2, 0, 1, 0, 3, 0, 1, 0, 2, 0, 1, 0]) (List.append [7, 0, 1, 0, 2, 0, 1, 0, 3, 0, 1, 0, 2, 0, 1, 0, 4, 0, 1, 0, 2, 0, 1, 0, 3, 0, 1, 0, 2, 0, 1, 0, 5, 0, 1, 0, 2, 0, 1, 0, 3, 0, 1, 0, 2, 0, 1, 0, 4, 0, 1, 0, 2, 0, 1, 0, 3, 0, 1, 0, 2, 0, 1, 0] [6, 0, 1, 0, 2, 0, 1, 0, 3, 0, 1, 0, 2, 0, 1, 0, 4, 0, 1, 0, 2, 0, 1, 0, 3, 0, 1, 0, 2, 0, 1, 0, 5, 0, 1, 0, 2, 0, 1, 0, 3, 0, 1, 0, 2, 0, 1, 0, 4, 0, 1, 0, 2, 0, 1, 0, 3, 0, 1, 0, 2, 0, 1, 0]))⟩⟩ : ByteArray)) p0).bind fun v1 =>
 some ((wI .i64 v1))
def Du (N : Nat) (p0 : AI) (p2 : Int) (j1 : Unit → Option Bool) : Nat → Int → Option Bool
 | 0, _ => none
 | n1 + 1, v1 =>
  AV ((v1 != 0))
   ((CW N v1).bind fun v4 =>
   (A9 p0.fRewrite v4).bind fun v5 =>
   (A9 v5 p2).bind fun v6 =>
   AV ((!v6))
    (some false)
    (Du N p0 p2 j1 n1 (FB .u8 v1 ((wI .u8 (v1 - 1))))))
   (j1 ())
def Fw (N : Nat) (p0 : AI) (p1 : Int) (p2 : Int) : Option Bool :=
 Du N p0 p2 (fun (_ : Unit) =>
  some true) N p1
def Gn (N : Nat) (p0 : Ag) (p1 : Ae) (p2 : Int) : Option (Bool × (List Int)) :=
 (A9 p0.fTables p2).bind fun v1 =>
 (Fm N v1).bind fun v2 =>
 AV ((!v2))
  (some (false, p1.fHeld))
  ((FD N p1 v1.fFrom).bind fun v4 =>
  (A9 p1.fHeld p2).bind fun v5 =>
  Bb (fun (v6 : Bool) =>
   AV v6
    (some (false, p1.fHeld))
    ((A9 p1.fHeld p2).bind fun _ =>
    some (true, p1.fHeld.set ((p2).toNat) v4)))
  fun j6 =>
  (A9 p1.fHeld p2).bind fun v7 =>
  AV ((v7 == v4))
   (j6 true)
   (AV ((v1.fKind == 4))
    ((A9 p1.fBase v1.fFrom).bind fun v10 =>
    (Fw N v1 ((De .u8 v5 v4)) v10).bind fun v11 =>
    j6 (!v11))
    (j6 false)))
def Ff (N : Nat) (p0 : Ag) (p1 : Ae) (p2 : Ak) : Option (Ae × Bool) :=
 (Fp N p1).bind fun v1 =>
 AV ((p2.fKind == 1))
  ((Hy N p0 v1 p2).bind fun v3 =>
  some ((Ae.mk v1.fBase v3.2.1 v3.2.2), v3.1))
  (AV ((p2.fKind == 3))
   ((Gn N p0 v1 p2.fIndex).bind fun v5 =>
   some ((Ae.mk v1.fBase v1.fNext v5.2), v5.1))
   ((A9 v1.fNext p2.fIndex).bind fun v6 =>
   AV ((decide (v6 < 0)))
    (some (v1, false))
    ((A9 v1.fNext p2.fIndex).bind fun _ =>
    Bb (fun (v9 : (List Int)) =>
     some ((Ae.mk v9 (v1.fNext.set ((p2.fIndex).toNat) ((-1))) v1.fHeld), true))
    fun j9 =>
    AV ((p2.fKind == 2))
     ((A9 v1.fBase p2.fIndex).bind fun _ =>
     j9 (v1.fBase.set ((p2.fIndex).toNat) v6))
     (j9 v1.fBase))))
def Dl (N : Nat) (p0 : Ak) (p1 : List Int) (p2 : List Int) (p3 : List Int) (p4 : List AI) (p5 : List Int) (p6 : List Int) (p7 : List Int) : Option Bool :=
 (Ff N ((Ag.mk p1 p2 p3 p4)) ((Ae.mk p5 p6 p7)) p0).bind fun v1 =>
 some ((!v1.2))
def A8 (N : Nat) (p0 : List Ak) (p1 : Ak → Option Bool) (j1 : Unit → Option Int) : Nat → Int → Option Int
 | 0, _ => none
 | n1 + 1, v1 =>
  AV ((decide (v1 < (p0.length : Int))))
   ((A9 p0 v1).bind fun v4 =>
   (p1 v4).bind fun v5 =>
   AV v5
    (some v1)
    (A8 N p0 p1 j1 n1 (wI .i64 (v1 + 1))))
   (j1 ())
def BJ (N : Nat) (p0 : List Ak) (p1 : Ak → Option Bool) : Option Int :=
 A8 N p0 p1 (fun (_ : Unit) =>
  some ((-1))) N 0
def A2 (N : Nat) (p1 : Ak → Option Bool) (j3 : ((List Ak) × Int) → Option (Nat × (List Ak))) : Nat → ((List Ak) × Int × Int) → Option (Nat × (List Ak))
 | 0, _ => none
 | n3 + 1, v3 =>
  AV ((decide (v3.2.2 < (v3.1.length : Int))))
   (Bb (fun (v6 : (List Ak) × Int) =>
    A2 N p1 j3 n3 (v6.1, v6.2, (wI .i64 (v3.2.2 + 1))))
   fun j6 =>
   (A9 v3.1 v3.2.2).bind fun v7 =>
   (p1 v7).bind fun v8 =>
   AV ((!v8))
    ((A9 v3.1 v3.2.1).bind fun _ =>
    j6 (v3.1.set ((v3.2.1).toNat) v7, (wI .i64 (v3.2.1 + 1))))
    (j6 (v3.1, v3.2.1)))
   (j3 (v3.1, v3.2.1))
def BI (N : Nat) (p0 : List Ak) (p1 : Ak → Option Bool) : Option (Nat × (List Ak)) :=
 (BJ N p0 p1).bind fun v1 =>
 AV ((v1 == (-1)))
  (some (p0.length, p0))
  (A2 N p1 (fun (v4 : (List Ak) × Int) =>
   (DP ((0 : Int) ≤ v4.2 ∧ (v4.2).toNat ≤ v4.1.length ∧ v4.1.length ≤ v4.1.length)).bind fun _ =>
   (DP ((0 : Int) ≤ v4.2 ∧ 0 ≤ (v4.2).toNat ∧ (v4.2).toNat ≤ (H4 v4.1 ((v4.2).toNat) (List.replicate ((v4.1.length - (v4.2).toNat)) ((Ak.mk 0 0 0)))).length)).bind fun _ =>
   some ((v4.2).toNat, H4 v4.1 ((v4.2).toNat) (List.replicate ((v4.1.length - (v4.2).toNat)) ((Ak.mk 0 0 0))))) N (p0, v1, (wI .i64 (v1 + 1))))
def FC (N : Nat) (p0 : Ag) (p1 : Ae) : Option ((List Ak) × Int) :=
 (E7 N p0 p1).bind fun v1 =>
 AV ((v1 != 0))
  (some (([] : List Ak), v1))
  ((HE N p0).bind fun v3 =>
  (BI N v3 ((fun (x : Ak) => Dl N x p0.fVersions p0.fNow p0.fTarget p0.fTables p1.fBase p1.fNext p1.fHeld))).bind fun v4 =>
  (DP (v4.1 ≤ v4.2.length)).bind fun _ =>
  some (v4.2.take v4.1, 0))
def Gp (_ : Nat) (p0 : Ak) : Option Bool :=
 Bb (fun (v1 : Bool) =>
  AV v1
   (some false)
   (Bb (fun (v5 : Bool) =>
    some v5)
   fun j5 =>
   AV ((p0.fKind == 1))
    (j5 true)
    (j5 (p0.fVersion == 0))))
 fun j1 =>
 AV ((decide ((T4 p0.fIndex p0.fVersion) < 0)))
  (j1 true)
  (AV ((decide (p0.fKind < 1)))
   (j1 true)
   (j1 (decide (4 < p0.fKind))))
def F2 (_ : Nat) (p0 : Ag) (p1 : Ak) : Option Bool :=
 AV ((p1.fKind == 3))
  (some ((decide (p1.fIndex < (p0.fTables.length : Int)))))
  (Bb (fun (v2 : Bool) =>
   some v2)
  fun j2 =>
  AV ((decide (p1.fIndex < (p0.fVersions.length : Int))))
   (AV ((p1.fKind != 1))
    (j2 true)
    ((A9 p0.fVersions p1.fIndex).bind fun v5 =>
    j2 (decide (p1.fVersion < v5))))
   (j2 false))
def FH (N : Nat) (p0 : Ag) (p1 : Ae) (p2 : Ak) : Option (Ae × Int) :=
 (Gp N p2).bind fun v1 =>
 AV ((!v1))
  (some ((Ae.mk (([] : List Int)) (([] : List Int)) (([] : List Int))), 1))
  ((F2 N p0 p2).bind fun v3 =>
  AV ((!v3))
   (some ((Ae.mk (([] : List Int)) (([] : List Int)) (([] : List Int))), 4))
   ((Ff N p0 p1 p2).bind fun v5 =>
   AV ((!v5.2))
    (some ((Ae.mk (([] : List Int)) (([] : List Int)) (([] : List Int))), 11))
    (some (v5.1, 0))))
def Gw (N : Nat) (p0 : Ag) (p1 : Ae) (p2 : Ak) : Option (Ae × Int) :=
 (E7 N p0 p1).bind fun v1 =>
 AV ((v1 != 0))
  (some ((Ae.mk (([] : List Int)) (([] : List Int)) (([] : List Int))), v1))
  ((FH N p0 p1 p2).bind fun v3 =>
  some (v3.1, v3.2))
def EH (N : Nat) (p0 : Ag) (p1 : Ae) (v1 : (List Ak) × Int) (j2 : ((List Ak) × (List Ae)) → Option ((List Ak) × (List Ae))) : Nat → ((List Ak) × (List Ae) × Int) → Option ((List Ak) × (List Ae))
 | 0, _ => none
 | n2 + 1, v2 =>
  AV ((decide (v2.2.2 < (v1.1.length : Int))))
   (Bb (fun (v5 : (List Ak) × (List Ae)) =>
    EH N p0 p1 v1 j2 n2 (v5.1, v5.2, (wI .i64 (v2.2.2 + 1))))
   fun j5 =>
   (A9 v1.1 v2.2.2).bind fun v6 =>
   (Gw N p0 p1 v6).bind fun v7 =>
   AV ((v7.2 != 0))
    (j5 (v2.1, v2.2.1))
    ((Fc N p0 v7.1).bind fun v9 =>
    AV v9.1
     ((DP (v2.1.length + (([v6] : List Ak)).length ≤ Dy)).bind fun _ =>
     (DP (v2.2.1.length + (([v7.1] : List Ae)).length ≤ Dy)).bind fun _ =>
     j5 (v2.1 ++ (([v6] : List Ak)), v2.2.1 ++ (([v7.1] : List Ae))))
     (j5 (v2.1, v2.2.1))))
   (j2 (v2.1, v2.2.1))
def FJ (N : Nat) (p0 : Ag) (p1 : Ae) : Option ((List Ak) × (List Ae)) :=
 (FC N p0 p1).bind fun v1 =>
 EH N p0 p1 v1 (fun (v3 : (List Ak) × (List Ae)) =>
  some (v3.1, v3.2)) N (([] : List Ak), ([] : List Ae), 0)
def GM (_ : Nat) (p0 : Int) : Option Int :=
 Bb (fun (v1 : Int × Int) =>
  Bb (fun (v3 : Int × Int) =>
   (SE ((⟨⟨(List.append (List.append [0, 1, 2, 2, 3, 3, 3, 3, 4, 4, 4, 4, 4, 4, 4, 4, 5, 5, 5, 5, 5, 5, 5, 5, 5, 5, 5, 5, 5, 5, 5, 5, 6, 6, 6, 6, 6, 6, 6, 6, 6, 6, 6, 6, 6, 6, 6, 6, 6, 6, 6, 6, 6, 6, 6, 6, 6, 6, 6, 6, 6, 6, 6, 6] [7, 7, 7, 7, 7, 7, 7, 7, 7, 7, 7, 7, 7, 7, 7, 7, 7, 7, 7, 7, 7, 7, 7, 7, 7, 7, 7, 7, 7, 7, 7, 7, 7, 7, 7, 7, 7, 7, 7, 7, 7, 7, 7, 7, 7, 7, 7, 7, 7, 7, 7, 7, 7, 7, 7, 7, 7, 7, 7, 7, 7, 7, 7, 7]) (List.append [8, 8, 8, 8, 8, 8, 8, 8, 8, 8, 8, 8, 8, 8, 8, 8, 8, 8, 8, 8, 8, 8, 8, 8, 8, 8, 8, 8, 8, 8, 8, 8, 8, 8, 8, 8, 8, 8, 8, 8, 8, 8, 8, 8, 8, 8, 8, 8, 8, 8, 8, 8, 8, 8, 8, 8, 8, 8, 8, 8, 8, 8, 8, 8] [8, 8, 8, 8, 8, 8, 8, 8, 8, 8, 8, 8, 8, 8, 8, 8, 8, 8, 8, 8, 8, 8, 8, 8, 8, 8, 8, 8, 8, 8, 8, 8, 8, 8, 8, 8, 8, 8, 8, 8, 8, 8, 8, 8, 8, 8, 8, 8, 8, 8, 8, 8, 8, 8, 8, 8, 8, 8, 8, 8, 8, 8, 8, 8]))⟩⟩ : ByteArray)) ((wI .u8 v3.1))).bind fun v5 =>
   some ((wI .i64 (v3.2 + (wI .i64 v5)))))
  fun j3 =>
  AV ((decide (256 ≤ v1.1)))
   (j3 ((Ei .u32 v1.1 8), (wI .i64 (v1.2 + 8))))
   (j3 (v1.1, v1.2)))
 fun j1 =>
 AV ((decide (65536 ≤ p0)))
  (j1 ((Ei .u32 p0 16), 16))
  (j1 (p0, 0))
def GR (_ : Nat) (p0 : Int) : Option Int :=
 Bb (fun (v1 : Int × Int) =>
  Bb (fun (v3 : Int × Int) =>
   Bb (fun (v5 : Int × Int) =>
    (SE ((⟨⟨(List.append (List.append [0, 1, 2, 2, 3, 3, 3, 3, 4, 4, 4, 4, 4, 4, 4, 4, 5, 5, 5, 5, 5, 5, 5, 5, 5, 5, 5, 5, 5, 5, 5, 5, 6, 6, 6, 6, 6, 6, 6, 6, 6, 6, 6, 6, 6, 6, 6, 6, 6, 6, 6, 6, 6, 6, 6, 6, 6, 6, 6, 6, 6, 6, 6, 6] [7, 7, 7, 7, 7, 7, 7, 7, 7, 7, 7, 7, 7, 7, 7, 7, 7, 7, 7, 7, 7, 7, 7, 7, 7, 7, 7, 7, 7, 7, 7, 7, 7, 7, 7, 7, 7, 7, 7, 7, 7, 7, 7, 7, 7, 7, 7, 7, 7, 7, 7, 7, 7, 7, 7, 7, 7, 7, 7, 7, 7, 7, 7, 7]) (List.append [8, 8, 8, 8, 8, 8, 8, 8, 8, 8, 8, 8, 8, 8, 8, 8, 8, 8, 8, 8, 8, 8, 8, 8, 8, 8, 8, 8, 8, 8, 8, 8, 8, 8, 8, 8, 8, 8, 8, 8, 8, 8, 8, 8, 8, 8, 8, 8, 8, 8, 8, 8, 8, 8, 8, 8, 8, 8, 8, 8, 8, 8, 8, 8] [8, 8, 8, 8, 8, 8, 8, 8, 8, 8, 8, 8, 8, 8, 8, 8, 8, 8, 8, 8, 8, 8, 8, 8, 8, 8, 8, 8, 8, 8, 8, 8, 8, 8, 8, 8, 8, 8, 8, 8, 8, 8, 8, 8, 8, 8, 8, 8, 8, 8, 8, 8, 8, 8, 8, 8, 8, 8, 8, 8, 8, 8, 8, 8]))⟩⟩ : ByteArray)) ((wI .u8 v5.1))).bind fun v7 =>
    some ((wI .i64 (v5.2 + (wI .i64 v7)))))
   fun j5 =>
   AV ((decide (256 ≤ v3.1)))
    (j5 ((Ei .u64 v3.1 8), (wI .i64 (v3.2 + 8))))
    (j5 (v3.1, v3.2)))
  fun j3 =>
  AV ((decide (65536 ≤ v1.1)))
   (j3 ((Ei .u64 v1.1 16), (wI .i64 (v1.2 + 16))))
   (j3 (v1.1, v1.2)))
 fun j1 =>
 AV ((decide (4294967296 ≤ p0)))
  (j1 ((Ei .u64 p0 32), 32))
  (j1 (p0, 0))
def DD (N : Nat) (p0 : Int) : Option Int :=
 AV false
  ((GM N ((wI .u32 p0))).bind fun v2 =>
  some v2)
  ((GR N p0).bind fun v3 =>
  some v3)
variable {α : Type}
def Gs.insertionSort_L4 (N : Nat) (p1 : Int) (p3 : (α × α) → Option Int) (j4 : ((List α)) → Option ((List α))) : Nat → ((List α) × Int) → Option ((List α))
 | 0, _ => none
 | n4 + 1, v4 =>
  Bb (fun (v6 : Bool) =>
   AV v6
    ((A9 v4.1 ((wI .i64 (v4.2 - 1)))).bind fun v12 =>
    (A9 v4.1 v4.2).bind fun v13 =>
    (A9 v4.1 v4.2).bind fun _ =>
    (A9 (v4.1.set ((v4.2).toNat) v12) ((wI .i64 (v4.2 - 1)))).bind fun _ =>
    Gs.insertionSort_L4 N p1 p3 j4 n4 ((v4.1.set ((v4.2).toNat) v12).set (((wI .i64 (v4.2 - 1))).toNat) v13, (wI .i64 (v4.2 - 1))))
    (j4 v4.1))
  fun j6 =>
  AV ((decide (p1 < v4.2)))
   ((A9 v4.1 v4.2).bind fun v8 =>
   (A9 v4.1 ((wI .i64 (v4.2 - 1)))).bind fun v9 =>
   (p3 ((v8, v9))).bind fun v10 =>
   j6 (decide (v10 < 0)))
   (j6 false)
def Gs.insertionSort_L1 (N : Nat) (p1 : Int) (p2 : Int) (p3 : (α × α) → Option Int) (j1 : ((List α)) → Option ((List α))) : Nat → ((List α) × Int) → Option ((List α))
 | 0, _ => none
 | n1 + 1, v1 =>
  AV ((decide (v1.2 < p2)))
   (Gs.insertionSort_L4 N p1 p3 (fun (v5 : (List α)) =>
    Gs.insertionSort_L1 N p1 p2 p3 j1 n1 (v5, (wI .i64 (v1.2 + 1)))) N (v1.1, v1.2))
   (j1 v1.1)
def Gs.insertionSort (N : Nat) (p0 : List α) (p1 : Int) (p2 : Int) (p3 : (α × α) → Option Int) : Option ((List α)) :=
 Gs.insertionSort_L1 N p1 p2 p3 (fun (v2 : (List α)) =>
  some v2) N (p0, (wI .i64 (p1 + 1)))
def Gs.siftDown_L1 (N : Nat) (p2 : Int) (p3 : Int) (p4 : (α × α) → Option Int) (j1 : ((List α)) → Option ((List α))) : Nat → ((List α) × Int) → Option ((List α))
 | 0, _ => none
 | n1 + 1, v1 =>
  AV ((decide (p2 ≤ (wI .i64 ((wI .i64 (2 * v1.2)) + 1)))))
   (j1 v1.1)
   (Bb (fun (v4 : Int) =>
    (A9 v1.1 ((wI .i64 (p3 + v1.2)))).bind fun v11 =>
    (A9 v1.1 ((wI .i64 (p3 + v4)))).bind fun v12 =>
    (p4 ((v11, v12))).bind fun v13 =>
    AV ((!((decide (v13 < 0)))))
     (some v1.1)
     ((A9 v1.1 ((wI .i64 (p3 + v4)))).bind fun v15 =>
     (A9 v1.1 ((wI .i64 (p3 + v1.2)))).bind fun v16 =>
     (A9 v1.1 ((wI .i64 (p3 + v1.2)))).bind fun _ =>
     (A9 (v1.1.set (((wI .i64 (p3 + v1.2))).toNat) v15) ((wI .i64 (p3 + v4)))).bind fun _ =>
     Gs.siftDown_L1 N p2 p3 p4 j1 n1 ((v1.1.set (((wI .i64 (p3 + v1.2))).toNat) v15).set (((wI .i64 (p3 + v4))).toNat) v16, v4)))
   fun j4 =>
   Bb (fun (v5 : Bool) =>
    AV v5
     (j4 (wI .i64 ((wI .i64 ((wI .i64 (2 * v1.2)) + 1)) + 1)))
     (j4 (wI .i64 ((wI .i64 (2 * v1.2)) + 1))))
   fun j5 =>
   AV ((decide ((wI .i64 ((wI .i64 ((wI .i64 (2 * v1.2)) + 1)) + 1)) < p2)))
    ((A9 v1.1 ((wI .i64 (p3 + (wI .i64 ((wI .i64 (2 * v1.2)) + 1)))))).bind fun v7 =>
    (A9 v1.1 ((wI .i64 ((wI .i64 (p3 + (wI .i64 ((wI .i64 (2 * v1.2)) + 1)))) + 1)))).bind fun v8 =>
    (p4 ((v7, v8))).bind fun v9 =>
    j5 (decide (v9 < 0)))
    (j5 false))
def Gs.siftDown (N : Nat) (p0 : List α) (p1 : Int) (p2 : Int) (p3 : Int) (p4 : (α × α) → Option Int) : Option ((List α)) :=
 Gs.siftDown_L1 N p2 p3 p4 (fun (v2 : (List α)) =>
  some v2) N (p0, p1)
def Gs.heapSort_L1 (N : Nat) (p1 : Int) (p2 : Int) (p3 : (α × α) → Option Int) (j1 : ((List α)) → Option ((List α))) : Nat → ((List α) × Int) → Option ((List α))
 | 0, _ => none
 | n1 + 1, v1 =>
  AV ((decide (0 ≤ v1.2)))
   ((Gs.siftDown N v1.1 v1.2 ((wI .i64 (p2 - p1))) p1 p3).bind fun v4 =>
   Gs.heapSort_L1 N p1 p2 p3 j1 n1 (v4, (wI .i64 (v1.2 - 1))))
   (j1 v1.1)
def Gs.heapSort_L5 (N : Nat) (p1 : Int) (p3 : (α × α) → Option Int) (j5 : ((List α)) → Option ((List α))) : Nat → ((List α) × Int) → Option ((List α))
 | 0, _ => none
 | n5 + 1, v5 =>
  AV ((decide (0 ≤ v5.2)))
   ((A9 v5.1 ((wI .i64 (p1 + v5.2)))).bind fun v8 =>
   (A9 v5.1 p1).bind fun v9 =>
   (A9 v5.1 p1).bind fun _ =>
   (A9 (v5.1.set ((p1).toNat) v8) ((wI .i64 (p1 + v5.2)))).bind fun _ =>
   (Gs.siftDown N ((v5.1.set ((p1).toNat) v8).set (((wI .i64 (p1 + v5.2))).toNat) v9) 0 v5.2 p1 p3).bind fun v12 =>
   Gs.heapSort_L5 N p1 p3 j5 n5 (v12, (wI .i64 (v5.2 - 1))))
   (j5 v5.1)
def Gs.heapSort (N : Nat) (p0 : List α) (p1 : Int) (p2 : Int) (p3 : (α × α) → Option Int) : Option ((List α)) :=
 Gs.heapSort_L1 N p1 p2 p3 (fun (v2 : (List α)) =>
  Gs.heapSort_L5 N p1 p3 (fun (v6 : (List α)) =>
   some v6) N (v2, (wI .i64 ((wI .i64 (p2 - p1)) - 1)))) N (p0, (wI .i64 (Int.tdiv ((wI .i64 ((wI .i64 (p2 - p1)) - 1))) 2)))
def Dw (N : Nat) (p0 : Int) : Option Int :=
 (DD N ((wI .u64 p0))).bind fun v1 =>
 (DP (0 ≤ v1)).bind fun _ =>
 some ((Co .u64 1 v1))
def DC (_ : Nat) (p0 : Int) : Option (Int × Int) :=
 some ((Gu .u64 ((Gu .u64 ((Gu .u64 p0 ((Co .u64 p0 13)))) ((Ei .u64 ((Gu .u64 p0 ((Co .u64 p0 13)))) 7)))) ((Co .u64 ((Gu .u64 ((Gu .u64 p0 ((Co .u64 p0 13)))) ((Ei .u64 ((Gu .u64 p0 ((Co .u64 p0 13)))) 7)))) 17))), (Gu .u64 ((Gu .u64 ((Gu .u64 p0 ((Co .u64 p0 13)))) ((Ei .u64 ((Gu .u64 p0 ((Co .u64 p0 13)))) 7)))) ((Co .u64 ((Gu .u64 ((Gu .u64 p0 ((Co .u64 p0 13)))) ((Ei .u64 ((Gu .u64 p0 ((Co .u64 p0 13)))) 7)))) 17))))
def Gs.breakPatterns_L3 (N : Nat) (p1 : Int) (p2 : Int) (v2 : Int) (j3 : ((List α)) → Option ((List α))) : Nat → ((List α) × Int × Int) → Option ((List α))
 | 0, _ => none
 | n3 + 1, v3 =>
  AV ((decide (v3.2.2 ≤ (wI .i64 ((wI .i64 (p1 + (wI .i64 ((wI .i64 (Int.tdiv ((wI .i64 (p2 - p1))) 4)) * 2)))) + 1)))))
   ((DC N v3.2.1).bind fun v6 =>
   Bb (fun (v7 : Int) =>
    (A9 v3.1 ((wI .i64 (p1 + v7)))).bind fun v9 =>
    (A9 v3.1 v3.2.2).bind fun v10 =>
    (A9 v3.1 v3.2.2).bind fun _ =>
    (A9 (v3.1.set ((v3.2.2).toNat) v9) ((wI .i64 (p1 + v7)))).bind fun _ =>
    Gs.breakPatterns_L3 N p1 p2 v2 j3 n3 ((v3.1.set ((v3.2.2).toNat) v9).set (((wI .i64 (p1 + v7))).toNat) v10, v6.2, (wI .i64 (v3.2.2 + 1))))
   fun j7 =>
   AV ((decide ((wI .i64 (p2 - p1)) ≤ (wI .i64 ((FB .u64 v6.1 ((wI .u64 (v2 - 1)))))))))
    (j7 (wI .i64 ((wI .i64 ((FB .u64 v6.1 ((wI .u64 (v2 - 1)))))) - (wI .i64 (p2 - p1)))))
    (j7 (wI .i64 ((FB .u64 v6.1 ((wI .u64 (v2 - 1))))))))
   (j3 v3.1)
def Gs.breakPatterns (N : Nat) (p0 : List α) (p1 : Int) (p2 : Int) (_ : (α × α) → Option Int) : Option ((List α)) :=
 AV ((decide (8 ≤ (wI .i64 (p2 - p1)))))
  ((Dw N ((wI .i64 (p2 - p1)))).bind fun v2 =>
  Gs.breakPatterns_L3 N p1 p2 v2 (fun (v4 : (List α)) =>
   some v4) N (p0, (wI .u64 ((wI .i64 (p2 - p1)))), (wI .i64 ((wI .i64 (p1 + (wI .i64 ((wI .i64 (Int.tdiv ((wI .i64 (p2 - p1))) 4)) * 2)))) - 1))))
  (some p0)
def Gs.order2 (_ : Nat) (p0 : List α) (p1 : Int) (p2 : Int) (p3 : Int) (p4 : (α × α) → Option Int) : Option (Int × Int × Int) :=
 (A9 p0 p2).bind fun v1 =>
 (A9 p0 p1).bind fun v2 =>
 (p4 ((v1, v2))).bind fun v3 =>
 AV ((decide (v3 < 0)))
  (some (p2, p1, (wI .i64 (p3 + 1))))
  (some (p1, p2, p3))
def Gs.median (N : Nat) (p0 : List α) (p1 : Int) (p2 : Int) (p3 : Int) (p4 : Int) (p5 : (α × α) → Option Int) : Option (Int × Int) :=
 (Gs.order2 N p0 p1 p2 p4 p5).bind fun v1 =>
 (Gs.order2 N p0 v1.2.1 p3 v1.2.2 p5).bind fun v2 =>
 (Gs.order2 N p0 v1.1 v2.1 v2.2.2 p5).bind fun v3 =>
 some (v3.2.1, v3.2.2)
def Gs.medianAdjacent (N : Nat) (p0 : List α) (p1 : Int) (p2 : Int) (p3 : (α × α) → Option Int) : Option (Int × Int) :=
 (Gs.median N p0 ((wI .i64 (p1 - 1))) p1 ((wI .i64 (p1 + 1))) p2 p3).bind fun v1 =>
 some (v1.1, v1.2)
def Gs.choosePivot (N : Nat) (p0 : List α) (p1 : Int) (p2 : Int) (p3 : (α × α) → Option Int) : Option (Int × Int) :=
 Bb (fun (v1 : Int × Int) =>
  AV ((v1.1 == 0))
   (some (v1.2, 1))
   (AV ((v1.1 == 12))
    (some (v1.2, 2))
    (some (v1.2, 0))))
 fun j1 =>
 AV ((decide (8 ≤ (wI .i64 (p2 - p1)))))
  (Bb (fun (v3 : Int × Int × Int × Int) =>
   (Gs.median N p0 v3.2.1 v3.2.2.1 v3.2.2.2 v3.1 p3).bind fun v8 =>
   j1 (v8.2, v8.1))
  fun j3 =>
  AV ((decide (50 ≤ (wI .i64 (p2 - p1)))))
   ((Gs.medianAdjacent N p0 ((wI .i64 (p1 + (wI .i64 ((wI .i64 (Int.tdiv ((wI .i64 (p2 - p1))) 4)) * 1))))) 0 p3).bind fun v5 =>
   (Gs.medianAdjacent N p0 ((wI .i64 (p1 + (wI .i64 ((wI .i64 (Int.tdiv ((wI .i64 (p2 - p1))) 4)) * 2))))) v5.2 p3).bind fun v6 =>
   (Gs.medianAdjacent N p0 ((wI .i64 (p1 + (wI .i64 ((wI .i64 (Int.tdiv ((wI .i64 (p2 - p1))) 4)) * 3))))) v6.2 p3).bind fun v7 =>
   j3 (v7.2, v5.1, v6.1, v7.1))
   (j3 (0, (wI .i64 (p1 + (wI .i64 ((wI .i64 (Int.tdiv ((wI .i64 (p2 - p1))) 4)) * 1)))), (wI .i64 (p1 + (wI .i64 ((wI .i64 (Int.tdiv ((wI .i64 (p2 - p1))) 4)) * 2)))), (wI .i64 (p1 + (wI .i64 ((wI .i64 (Int.tdiv ((wI .i64 (p2 - p1))) 4)) * 3)))))))
  (j1 (0, (wI .i64 (p1 + (wI .i64 ((wI .i64 (Int.tdiv ((wI .i64 (p2 - p1))) 4)) * 2))))))
def Gs.reverseRange_L1 (N : Nat) (j1 : ((List α)) → Option ((List α))) : Nat → ((List α) × Int × Int) → Option ((List α))
 | 0, _ => none
 | n1 + 1, v1 =>
  AV ((decide (v1.2.1 < v1.2.2)))
   ((A9 v1.1 v1.2.2).bind fun v4 =>
   (A9 v1.1 v1.2.1).bind fun v5 =>
   (A9 v1.1 v1.2.1).bind fun _ =>
   (A9 (v1.1.set ((v1.2.1).toNat) v4) v1.2.2).bind fun _ =>
   Gs.reverseRange_L1 N j1 n1 ((v1.1.set ((v1.2.1).toNat) v4).set ((v1.2.2).toNat) v5, (wI .i64 (v1.2.1 + 1)), (wI .i64 (v1.2.2 - 1))))
   (j1 v1.1)
def Gs.reverseRange (N : Nat) (p0 : List α) (p1 : Int) (p2 : Int) (_ : (α × α) → Option Int) : Option ((List α)) :=
 Gs.reverseRange_L1 N (fun (v2 : (List α)) =>
  some v2) N (p0, p1, (wI .i64 (p2 - 1)))
def Gs.partialInsertionSort_L5 (N : Nat) (p2 : Int) (p3 : (α × α) → Option Int) (v1 : (List α) × Int × Int) (j5 : Int → Option (Bool × (List α))) : Nat → Int → Option (Bool × (List α))
 | 0, _ => none
 | n5 + 1, v5 =>
  Bb (fun (v7 : Bool) =>
   AV v7
    (Gs.partialInsertionSort_L5 N p2 p3 v1 j5 n5 (wI .i64 (v5 + 1)))
    (j5 v5))
  fun j7 =>
  AV ((decide (v5 < p2)))
   ((A9 v1.1 v5).bind fun v9 =>
   (A9 v1.1 ((wI .i64 (v5 - 1)))).bind fun v10 =>
   (p3 ((v9, v10))).bind fun v11 =>
   j7 (!((decide (v11 < 0)))))
   (j7 false)
def Gs.partialInsertionSort_L21 (N : Nat) (p3 : (α × α) → Option Int) (j21 : ((List α)) → Option (Bool × (List α))) : Nat → ((List α) × Int) → Option (Bool × (List α))
 | 0, _ => none
 | n21 + 1, v21 =>
  AV ((decide (1 ≤ v21.2)))
   ((A9 v21.1 v21.2).bind fun v24 =>
   (A9 v21.1 ((wI .i64 (v21.2 - 1)))).bind fun v25 =>
   (p3 ((v24, v25))).bind fun v26 =>
   AV ((!((decide (v26 < 0)))))
    (j21 v21.1)
    ((A9 v21.1 ((wI .i64 (v21.2 - 1)))).bind fun v28 =>
    (A9 v21.1 v21.2).bind fun v29 =>
    (A9 v21.1 v21.2).bind fun _ =>
    (A9 (v21.1.set ((v21.2).toNat) v28) ((wI .i64 (v21.2 - 1)))).bind fun _ =>
    Gs.partialInsertionSort_L21 N p3 j21 n21 ((v21.1.set ((v21.2).toNat) v28).set (((wI .i64 (v21.2 - 1))).toNat) v29, (wI .i64 (v21.2 - 1)))))
   (j21 v21.1)
def Gs.partialInsertionSort_L33 (N : Nat) (p2 : Int) (p3 : (α × α) → Option Int) (j33 : ((List α)) → Option (Bool × (List α))) : Nat → ((List α) × Int) → Option (Bool × (List α))
 | 0, _ => none
 | n33 + 1, v33 =>
  AV ((decide (v33.2 < p2)))
   ((A9 v33.1 v33.2).bind fun v36 =>
   (A9 v33.1 ((wI .i64 (v33.2 - 1)))).bind fun v37 =>
   (p3 ((v36, v37))).bind fun v38 =>
   AV ((!((decide (v38 < 0)))))
    (j33 v33.1)
    ((A9 v33.1 ((wI .i64 (v33.2 - 1)))).bind fun v40 =>
    (A9 v33.1 v33.2).bind fun v41 =>
    (A9 v33.1 v33.2).bind fun _ =>
    (A9 (v33.1.set ((v33.2).toNat) v40) ((wI .i64 (v33.2 - 1)))).bind fun _ =>
    Gs.partialInsertionSort_L33 N p2 p3 j33 n33 ((v33.1.set ((v33.2).toNat) v40).set (((wI .i64 (v33.2 - 1))).toNat) v41, (wI .i64 (v33.2 + 1)))))
   (j33 v33.1)
def Gs.partialInsertionSort_L1 (N : Nat) (p1 : Int) (p2 : Int) (p3 : (α × α) → Option Int) (j1 : ((List α)) → Option (Bool × (List α))) : Nat → ((List α) × Int × Int) → Option (Bool × (List α))
 | 0, _ => none
 | n1 + 1, v1 =>
  AV ((decide (v1.2.2 < 5)))
   (Bb (fun (v4 : (List α) × Int) =>
    Gs.partialInsertionSort_L1 N p1 p2 p3 j1 n1 (v4.1, v4.2, (wI .i64 (v1.2.2 + 1))))
   fun j4 =>
   Gs.partialInsertionSort_L5 N p2 p3 v1 (fun (v6 : Int) =>
    AV ((v6 == p2))
     (some (true, v1.1))
     (AV ((decide ((wI .i64 (p2 - p1)) < 50)))
      (some (false, v1.1))
      ((A9 v1.1 ((wI .i64 (v6 - 1)))).bind fun v15 =>
      (A9 v1.1 v6).bind fun v16 =>
      (A9 v1.1 v6).bind fun _ =>
      (A9 (v1.1.set ((v6).toNat) v15) ((wI .i64 (v6 - 1)))).bind fun _ =>
      Bb (fun (v19 : (List α)) =>
       AV ((decide (2 ≤ (wI .i64 (p2 - v6)))))
        (Gs.partialInsertionSort_L33 N p2 p3 (fun (v34 : (List α)) =>
         j4 (v34, v6)) N (v19, (wI .i64 (v6 + 1))))
        (j4 (v19, v6)))
      fun j19 =>
      AV ((decide (2 ≤ (wI .i64 (v6 - p1)))))
       (Gs.partialInsertionSort_L21 N p3 (fun (v22 : (List α)) =>
        j19 v22) N ((v1.1.set ((v6).toNat) v15).set (((wI .i64 (v6 - 1))).toNat) v16, (wI .i64 (v6 - 1))))
       (j19 ((v1.1.set ((v6).toNat) v15).set (((wI .i64 (v6 - 1))).toNat) v16))))) N v1.2.1)
   (j1 v1.1)
def Gs.partialInsertionSort (N : Nat) (p0 : List α) (p1 : Int) (p2 : Int) (p3 : (α × α) → Option Int) : Option (Bool × (List α)) :=
 Gs.partialInsertionSort_L1 N p1 p2 p3 (fun (v2 : (List α)) =>
  some (false, v2)) N (p0, (wI .i64 (p1 + 1)), 0)
def Gs.partitionEqual_L7 (N : Nat) (p1 : Int) (p4 : (α × α) → Option Int) (v5 : (List α) × Int × Int) (j7 : Int → Option (Int × (List α))) : Nat → Int → Option (Int × (List α))
 | 0, _ => none
 | n7 + 1, v7 =>
  Bb (fun (v9 : Bool) =>
   AV v9
    (Gs.partitionEqual_L7 N p1 p4 v5 j7 n7 (wI .i64 (v7 + 1)))
    (j7 v7))
  fun j9 =>
  AV ((decide (v7 ≤ v5.2.2)))
   ((A9 v5.1 p1).bind fun v11 =>
   (A9 v5.1 v7).bind fun v12 =>
   (p4 ((v11, v12))).bind fun v13 =>
   j9 (!((decide (v13 < 0)))))
   (j9 false)
def Gs.partitionEqual_L15 (N : Nat) (p1 : Int) (p4 : (α × α) → Option Int) (v5 : (List α) × Int × Int) (v8 : Int) (j15 : Int → Option (Int × (List α))) : Nat → Int → Option (Int × (List α))
 | 0, _ => none
 | n15 + 1, v15 =>
  Bb (fun (v17 : Bool) =>
   AV v17
    (Gs.partitionEqual_L15 N p1 p4 v5 v8 j15 n15 (wI .i64 (v15 - 1)))
    (j15 v15))
  fun j17 =>
  AV ((decide (v8 ≤ v15)))
   ((A9 v5.1 p1).bind fun v19 =>
   (A9 v5.1 v15).bind fun v20 =>
   (p4 ((v19, v20))).bind fun v21 =>
   j17 (decide (v21 < 0)))
   (j17 false)
def Gs.partitionEqual_L5 (N : Nat) (p1 : Int) (p4 : (α × α) → Option Int) (j5 : ((List α) × Int) → Option (Int × (List α))) : Nat → ((List α) × Int × Int) → Option (Int × (List α))
 | 0, _ => none
 | n5 + 1, v5 =>
  Gs.partitionEqual_L7 N p1 p4 v5 (fun (v8 : Int) =>
   Gs.partitionEqual_L15 N p1 p4 v5 v8 (fun (v16 : Int) =>
    AV ((decide (v16 < v8)))
     (j5 (v5.1, v8))
     ((A9 v5.1 v16).bind fun v24 =>
     (A9 v5.1 v8).bind fun v25 =>
     (A9 v5.1 v8).bind fun _ =>
     (A9 (v5.1.set ((v8).toNat) v24) v16).bind fun _ =>
     Gs.partitionEqual_L5 N p1 p4 j5 n5 ((v5.1.set ((v8).toNat) v24).set ((v16).toNat) v25, (wI .i64 (v8 + 1)), (wI .i64 (v16 - 1))))) N v5.2.2) N v5.2.1
def Gs.partitionEqual (N : Nat) (p0 : List α) (p1 : Int) (p2 : Int) (p3 : Int) (p4 : (α × α) → Option Int) : Option (Int × (List α)) :=
 (A9 p0 p3).bind fun v1 =>
 (A9 p0 p1).bind fun v2 =>
 (A9 p0 p1).bind fun _ =>
 (A9 (p0.set ((p1).toNat) v1) p3).bind fun _ =>
 Gs.partitionEqual_L5 N p1 p4 (fun (v6 : (List α) × Int) =>
  some (v6.2, v6.1)) N ((p0.set ((p1).toNat) v1).set ((p3).toNat) v2, (wI .i64 (p1 + 1)), (wI .i64 (p2 - 1)))
def Gs.partition_L5 (N : Nat) (p0 : List α) (p1 : Int) (p2 : Int) (p3 : Int) (p4 : (α × α) → Option Int) (v1 : α) (v2 : α) (j5 : Int → Option (Int × Bool × (List α))) : Nat → Int → Option (Int × Bool × (List α))
 | 0, _ => none
 | n5 + 1, v5 =>
  Bb (fun (v7 : Bool) =>
   AV v7
    (Gs.partition_L5 N p0 p1 p2 p3 p4 v1 v2 j5 n5 (wI .i64 (v5 + 1)))
    (j5 v5))
  fun j7 =>
  AV ((decide (v5 ≤ (wI .i64 (p2 - 1)))))
   ((A9 ((p0.set ((p1).toNat) v1).set ((p3).toNat) v2) v5).bind fun v9 =>
   (A9 ((p0.set ((p1).toNat) v1).set ((p3).toNat) v2) p1).bind fun v10 =>
   (p4 ((v9, v10))).bind fun v11 =>
   j7 (decide (v11 < 0)))
   (j7 false)
def Gs.partition_L13 (N : Nat) (p0 : List α) (p1 : Int) (p3 : Int) (p4 : (α × α) → Option Int) (v1 : α) (v2 : α) (v6 : Int) (j13 : Int → Option (Int × Bool × (List α))) : Nat → Int → Option (Int × Bool × (List α))
 | 0, _ => none
 | n13 + 1, v13 =>
  Bb (fun (v15 : Bool) =>
   AV v15
    (Gs.partition_L13 N p0 p1 p3 p4 v1 v2 v6 j13 n13 (wI .i64 (v13 - 1)))
    (j13 v13))
  fun j15 =>
  AV ((decide (v6 ≤ v13)))
   ((A9 ((p0.set ((p1).toNat) v1).set ((p3).toNat) v2) v13).bind fun v17 =>
   (A9 ((p0.set ((p1).toNat) v1).set ((p3).toNat) v2) p1).bind fun v18 =>
   (p4 ((v17, v18))).bind fun v19 =>
   j15 (!((decide (v19 < 0)))))
   (j15 false)
def Gs.partition_L32 (N : Nat) (p1 : Int) (p4 : (α × α) → Option Int) (v30 : (List α) × Int × Int) (j32 : Int → Option (Int × Bool × (List α))) : Nat → Int → Option (Int × Bool × (List α))
 | 0, _ => none
 | n32 + 1, v32 =>
  Bb (fun (v34 : Bool) =>
   AV v34
    (Gs.partition_L32 N p1 p4 v30 j32 n32 (wI .i64 (v32 + 1)))
    (j32 v32))
  fun j34 =>
  AV ((decide (v32 ≤ v30.2.2)))
   ((A9 v30.1 v32).bind fun v36 =>
   (A9 v30.1 p1).bind fun v37 =>
   (p4 ((v36, v37))).bind fun v38 =>
   j34 (decide (v38 < 0)))
   (j34 false)
def Gs.partition_L40 (N : Nat) (p1 : Int) (p4 : (α × α) → Option Int) (v30 : (List α) × Int × Int) (v33 : Int) (j40 : Int → Option (Int × Bool × (List α))) : Nat → Int → Option (Int × Bool × (List α))
 | 0, _ => none
 | n40 + 1, v40 =>
  Bb (fun (v42 : Bool) =>
   AV v42
    (Gs.partition_L40 N p1 p4 v30 v33 j40 n40 (wI .i64 (v40 - 1)))
    (j40 v40))
  fun j42 =>
  AV ((decide (v33 ≤ v40)))
   ((A9 v30.1 v40).bind fun v44 =>
   (A9 v30.1 p1).bind fun v45 =>
   (p4 ((v44, v45))).bind fun v46 =>
   j42 (!((decide (v46 < 0)))))
   (j42 false)
def Gs.partition_L30 (N : Nat) (p1 : Int) (p4 : (α × α) → Option Int) (j30 : ((List α) × Int) → Option (Int × Bool × (List α))) : Nat → ((List α) × Int × Int) → Option (Int × Bool × (List α))
 | 0, _ => none
 | n30 + 1, v30 =>
  Gs.partition_L32 N p1 p4 v30 (fun (v33 : Int) =>
   Gs.partition_L40 N p1 p4 v30 v33 (fun (v41 : Int) =>
    AV ((decide (v41 < v33)))
     (j30 (v30.1, v41))
     ((A9 v30.1 v41).bind fun v49 =>
     (A9 v30.1 v33).bind fun v50 =>
     (A9 v30.1 v33).bind fun _ =>
     (A9 (v30.1.set ((v33).toNat) v49) v41).bind fun _ =>
     Gs.partition_L30 N p1 p4 j30 n30 ((v30.1.set ((v33).toNat) v49).set ((v41).toNat) v50, (wI .i64 (v33 + 1)), (wI .i64 (v41 - 1))))) N v30.2.2) N v30.2.1
def Gs.partition (N : Nat) (p0 : List α) (p1 : Int) (p2 : Int) (p3 : Int) (p4 : (α × α) → Option Int) : Option (Int × Bool × (List α)) :=
 (A9 p0 p3).bind fun v1 =>
 (A9 p0 p1).bind fun v2 =>
 (A9 p0 p1).bind fun _ =>
 (A9 (p0.set ((p1).toNat) v1) p3).bind fun _ =>
 Gs.partition_L5 N p0 p1 p2 p3 p4 v1 v2 (fun (v6 : Int) =>
  Gs.partition_L13 N p0 p1 p3 p4 v1 v2 v6 (fun (v14 : Int) =>
   AV ((decide (v14 < v6)))
    ((A9 ((p0.set ((p1).toNat) v1).set ((p3).toNat) v2) p1).bind fun v22 =>
    (A9 ((p0.set ((p1).toNat) v1).set ((p3).toNat) v2) v14).bind fun v23 =>
    (A9 ((p0.set ((p1).toNat) v1).set ((p3).toNat) v2) v14).bind fun _ =>
    (A9 (((p0.set ((p1).toNat) v1).set ((p3).toNat) v2).set ((v14).toNat) v22) p1).bind fun _ =>
    some (v14, true, (((p0.set ((p1).toNat) v1).set ((p3).toNat) v2).set ((v14).toNat) v22).set ((p1).toNat) v23))
    ((A9 ((p0.set ((p1).toNat) v1).set ((p3).toNat) v2) v14).bind fun v26 =>
    (A9 ((p0.set ((p1).toNat) v1).set ((p3).toNat) v2) v6).bind fun v27 =>
    (A9 ((p0.set ((p1).toNat) v1).set ((p3).toNat) v2) v6).bind fun _ =>
    (A9 (((p0.set ((p1).toNat) v1).set ((p3).toNat) v2).set ((v6).toNat) v26) v14).bind fun _ =>
    Gs.partition_L30 N p1 p4 (fun (v31 : (List α) × Int) =>
     (A9 v31.1 p1).bind fun v53 =>
     (A9 v31.1 v31.2).bind fun v54 =>
     (A9 v31.1 v31.2).bind fun _ =>
     (A9 (v31.1.set ((v31.2).toNat) v53) p1).bind fun _ =>
     some (v31.2, false, (v31.1.set ((v31.2).toNat) v53).set ((p1).toNat) v54)) N ((((p0.set ((p1).toNat) v1).set ((p3).toNat) v2).set ((v6).toNat) v26).set ((v14).toNat) v27, (wI .i64 (v6 + 1)), (wI .i64 (v14 - 1))))) N (wI .i64 (p2 - 1))) N (wI .i64 (p1 + 1))
def Gs.pdqsort_L1 (N : Nat) (p4 : (α × α) → Option Int) (rc : (List α) → Int → Int → Int → ((α × α) → Option Int) → Option ((List α))) (j1 : Unit → Option ((List α))) : Nat → ((List α) × Int × Int × Int × Bool × Bool) → Option ((List α))
 | 0, _ => none
 | n1 + 1, v1 =>
  AV ((decide ((wI .i64 (v1.2.2.1 - v1.2.1)) ≤ 12)))
   ((Gs.insertionSort N v1.1 v1.2.1 v1.2.2.1 p4).bind fun v4 =>
   some v4)
   (AV ((v1.2.2.2.1 == 0))
    ((Gs.heapSort N v1.1 v1.2.1 v1.2.2.1 p4).bind fun v6 =>
    some v6)
    (Bb (fun (v7 : (List α) × Int) =>
     (Gs.choosePivot N v7.1 v1.2.1 v1.2.2.1 p4).bind fun v10 =>
     Bb (fun (v11 : (List α) × Int × Int) =>
      Bb (fun (v14 : (List α)) =>
       Bb (fun (v21 : Bool) =>
        AV v21
         ((Gs.partitionEqual N v14 v1.2.1 v1.2.2.1 v11.2.1 p4).bind fun v27 =>
         Gs.pdqsort_L1 N p4 rc j1 n1 (v27.2, v27.1, v1.2.2.1, v7.2, v1.2.2.2.2.1, v1.2.2.2.2.2))
         ((Gs.partition N v14 v1.2.1 v1.2.2.1 v11.2.1 p4).bind fun v28 =>
         AV ((decide ((wI .i64 (v28.1 - v1.2.1)) < (wI .i64 (v1.2.2.1 - v28.1)))))
          ((rc v28.2.2 v1.2.1 v28.1 v7.2 p4).bind fun v30 =>
          Gs.pdqsort_L1 N p4 rc j1 n1 (v30, (wI .i64 (v28.1 + 1)), v1.2.2.1, v7.2, (decide ((wI .i64 (Int.tdiv ((wI .i64 (v1.2.2.1 - v1.2.1))) 8)) ≤ (wI .i64 (v28.1 - v1.2.1)))), v28.2.1))
          ((rc v28.2.2 ((wI .i64 (v28.1 + 1))) v1.2.2.1 v7.2 p4).bind fun v31 =>
          Gs.pdqsort_L1 N p4 rc j1 n1 (v31, v1.2.1, v28.1, v7.2, (decide ((wI .i64 (Int.tdiv ((wI .i64 (v1.2.2.1 - v1.2.1))) 8)) ≤ (wI .i64 (v1.2.2.1 - v28.1)))), v28.2.1))))
       fun j21 =>
       AV ((decide (0 < v1.2.1)))
        ((A9 v14 ((wI .i64 (v1.2.1 - 1)))).bind fun v23 =>
        (A9 v14 v11.2.1).bind fun v24 =>
        (p4 ((v23, v24))).bind fun v25 =>
        j21 (!((decide (v25 < 0)))))
        (j21 false))
      fun j14 =>
      Bb (fun (v15 : Bool) =>
       AV v15
        ((Gs.partialInsertionSort N v11.1 v1.2.1 v1.2.2.1 p4).bind fun v19 =>
        AV v19.1
         (some v19.2)
         (j14 v19.2))
        (j14 v11.1))
      fun j15 =>
      AV v1.2.2.2.2.1
       (AV v1.2.2.2.2.2
        (j15 (v11.2.2 == 1))
        (j15 false))
       (j15 false))
     fun j11 =>
     AV ((v10.2 == 2))
      ((Gs.reverseRange N v7.1 v1.2.1 v1.2.2.1 p4).bind fun v13 =>
      j11 (v13, (wI .i64 ((wI .i64 (v1.2.2.1 - 1)) - (wI .i64 (v10.1 - v1.2.1)))), 1))
      (j11 (v7.1, v10.1, v10.2)))
    fun j7 =>
    AV ((!v1.2.2.2.2.1))
     ((Gs.breakPatterns N v1.1 v1.2.1 v1.2.2.1 p4).bind fun v9 =>
     j7 (v9, (wI .i64 (v1.2.2.2.1 - 1))))
     (j7 (v1.1, v1.2.2.2.1))))
def Gs.pdqsort_B (N : Nat) (rc : (List α) → Int → Int → Int → ((α × α) → Option Int) → Option ((List α))) (p0 : List α) (p1 : Int) (p2 : Int) (p3 : Int) (p4 : (α × α) → Option Int) : Option ((List α)) :=
 Gs.pdqsort_L1 N p4 rc (fun (_ : Unit) =>
  none) N (p0, p1, p2, p3, true, true)
def Gs.pdqsort_R (N : Nat) : Nat → (List α) → Int → Int → Int → ((α × α) → Option Int) → Option ((List α))
 | 0, _, _, _, _, _ => none
 | k + 1, p0, p1, p2, p3, p4 => Gs.pdqsort_B N (Gs.pdqsort_R N k) p0 p1 p2 p3 p4
def Gs.pdqsort (N : Nat) (p0 : List α) (p1 : Int) (p2 : Int) (p3 : Int) (p4 : (α × α) → Option Int) : Option ((List α)) := Gs.pdqsort_R N N p0 p1 p2 p3 p4
def Bm (N : Nat) (p0 : List Ae) (p1 : (Ae × Ae) → Option Int) : Option ((List Ae)) :=
 (DD N ((wI .u64 ((p0.length : Int))))).bind fun v1 =>
 (Gs.pdqsort N p0 0 ((p0.length : Int)) v1 p1).bind fun v2 =>
 some v2
def Fl (_ : Nat) (p0 : Int) : Option Bool :=
 some ((p0 != p0))
def ES (N : Nat) (p0 : Int) (p1 : Int) : Option Int :=
 (Fl N p0).bind fun v1 =>
 (Fl N p1).bind fun v2 =>
 AV v1
  (AV v2
   (some 0)
   (some ((-1))))
  (AV v2
   (some 1)
   (AV ((decide (p0 < p1)))
    (some ((-1)))
    (AV ((decide (p1 < p0)))
     (some 1)
     (some 0))))
def Ch (N : Nat) (p0 : List Int) (p1 : List Int) (j1 : Unit → Option Int) : Nat → Int → Option Int
 | 0, _ => none
 | n1 + 1, v1 =>
  AV ((decide (v1 < (p0.length : Int))))
   ((A9 p0 v1).bind fun v4 =>
   AV ((decide ((p1.length : Int) ≤ v1)))
    (some 1)
    ((A9 p1 v1).bind fun v6 =>
    (ES N v4 v6).bind fun v7 =>
    AV ((v7 != 0))
     (some v7)
     (Ch N p0 p1 j1 n1 (wI .i64 (v1 + 1)))))
   (j1 ())
def CF (N : Nat) (p0 : List Int) (p1 : List Int) : Option Int :=
 Ch N p0 p1 (fun (_ : Unit) =>
  AV ((decide ((p0.length : Int) < (p1.length : Int))))
   (some ((-1)))
   (some 0)) N 0
def Eo (_ : Nat) (p0 : Int) : Option Bool :=
 some ((p0 != p0))
def DN (N : Nat) (p0 : Int) (p1 : Int) : Option Int :=
 (Eo N p0).bind fun v1 =>
 (Eo N p1).bind fun v2 =>
 AV v1
  (AV v2
   (some 0)
   (some ((-1))))
  (AV v2
   (some 1)
   (AV ((decide (p0 < p1)))
    (some ((-1)))
    (AV ((decide (p1 < p0)))
     (some 1)
     (some 0))))
def Bu (N : Nat) (p0 : List Int) (p1 : List Int) (j1 : Unit → Option Int) : Nat → Int → Option Int
 | 0, _ => none
 | n1 + 1, v1 =>
  AV ((decide (v1 < (p0.length : Int))))
   ((A9 p0 v1).bind fun v4 =>
   AV ((decide ((p1.length : Int) ≤ v1)))
    (some 1)
    ((A9 p1 v1).bind fun v6 =>
    (DN N v4 v6).bind fun v7 =>
    AV ((v7 != 0))
     (some v7)
     (Bu N p0 p1 j1 n1 (wI .i64 (v1 + 1)))))
   (j1 ())
def Cc (N : Nat) (p0 : List Int) (p1 : List Int) : Option Int :=
 Bu N p0 p1 (fun (_ : Unit) =>
  AV ((decide ((p0.length : Int) < (p1.length : Int))))
   (some ((-1)))
   (some 0)) N 0
def EI (N : Nat) (p0 : List Int) (j1 : Unit → Option Int) : Nat → Int → Option Int
 | 0, _ => none
 | n1 + 1, v1 =>
  AV ((decide (v1 < (p0.length : Int))))
   ((A9 p0 v1).bind fun v4 =>
   AV ((v4 != 0))
    (some v4)
    (EI N p0 j1 n1 (wI .i64 (v1 + 1))))
   (j1 ())
def GA (N : Nat) (p0 : List Int) : Option Int :=
 EI N p0 (fun (_ : Unit) =>
  some 0) N 0
def CA (N : Nat) (p0 : Ae) (p1 : Ae) : Option Int :=
 (CF N p0.fBase p1.fBase).bind fun v1 =>
 (CF N p0.fNext p1.fNext).bind fun v2 =>
 (Cc N p0.fHeld p1.fHeld).bind fun v3 =>
 (GA N (([v1, v2, v3] : List Int))).bind fun v4 =>
 some v4
def DV (N : Nat) (v10 : (List Ak) × (List Ae)) (j11 : ((List Ae) × (List (ByteArray × Bool))) → Option ((List Ae) × Int)) : Nat → ((List Ae) × (List (ByteArray × Bool)) × Int) → Option ((List Ae) × Int)
 | 0, _ => none
 | n11 + 1, v11 =>
  AV ((decide (v11.2.2 < (v10.2.length : Int))))
   (Bb (fun (v14 : (List Ae) × (List (ByteArray × Bool))) =>
    DV N v10 j11 n11 (v14.1, v14.2, (wI .i64 (v11.2.2 + 1))))
   fun j14 =>
   (A9 v10.2 v11.2.2).bind fun v15 =>
   (Fv N v15).bind fun v16 =>
   AV ((!(((Ko v16 v11.2.1).getD false))))
    ((Fv N v15).bind fun v18 =>
    (DP (v11.1.length + (([v15] : List Ae)).length ≤ Dy)).bind fun _ =>
    j14 (v11.1 ++ (([v15] : List Ae)), L5 v18 true v11.2.1))
    (j14 (v11.1, v11.2.1)))
   (j11 (v11.1, v11.2.1))
def DB (N : Nat) (p0 : Ag) (j6 : ((List Ae)) → Option ((List Ae) × Int)) : Nat → ((List Ae) × (List (ByteArray × Bool)) × Int) → Option ((List Ae) × Int)
 | 0, _ => none
 | n6 + 1, v6 =>
  AV ((decide (v6.2.2 < (v6.1.length : Int))))
   ((A9 v6.1 v6.2.2).bind fun v9 =>
   (FJ N p0 v9).bind fun v10 =>
   DV N v10 (fun (v12 : (List Ae) × (List (ByteArray × Bool))) =>
    AV ((decide (20000 < (v12.1.length : Int))))
     (some (([] : List Ae), 3))
     (DB N p0 j6 n6 (v12.1, v12.2, (wI .i64 (v6.2.2 + 1))))) N (v6.1, v6.2.1, 0))
   (j6 v6.1)
def D1 (N : Nat) (p0 : Ag) : Option ((List Ae) × Int) :=
 (Fr N p0).bind fun v1 =>
 Bb (fun (v2 : Bool) =>
  AV v2
   (some (([] : List Ae), v1.2.2))
   ((Fv N v1.1).bind fun v5 =>
   DB N p0 (fun (v7 : (List Ae)) =>
    (Bm N v7 ((fun (x : Ae × Ae) => CA N x.1 x.2))).bind fun v21 =>
    some (v21, 0)) N (([v1.1] : List Ae), L5 v5 true (([] : List (ByteArray × Bool))), 0)))
 fun j2 =>
 AV ((v1.2.2 != 0))
  (j2 true)
  (j2 (!v1.2.1))
def Gb (N : Nat) (p0 : Ag) (p1 : List Int) (j5 : ((List Ak)) → Option ((List Ak) × Int)) : Nat → ((List Int) × (List Int) × (List Int) × (List Ak) × Int) → Option ((List Ak) × Int)
 | 0, _ => none
 | n5 + 1, v5 =>
  AV ((decide (v5.2.2.2.2 < (p1.length : Int))))
   ((A9 p1 v5.2.2.2.2).bind fun v8 =>
   (FJ N p0 ((Ae.mk v5.1 v5.2.1 v5.2.2.1))).bind fun v9 =>
   AV (((v9.1.length : Int) == 0))
    (j5 v5.2.2.2.1)
    ((DP ((v9.1.length : Int) ≠ 0)).bind fun _ =>
    (A9 v9.1 ((Int.tmod ((wI .i64 v8)) ((v9.1.length : Int))))).bind fun v12 =>
    (DP (v5.2.2.2.1.length + (([v12] : List Ak)).length ≤ Dy)).bind fun _ =>
    (A9 v9.2 ((Int.tmod ((wI .i64 v8)) ((v9.1.length : Int))))).bind fun v14 =>
    Gb N p0 p1 j5 n5 (v14.fBase, v14.fNext, v14.fHeld, v5.2.2.2.1 ++ (([v12] : List Ak)), (wI .i64 (v5.2.2.2.2 + 1)))))
   (j5 v5.2.2.2.1)
def IK (N : Nat) (p0 : Ag) (p1 : List Int) : Option ((List Ak) × Int) :=
 (Fr N p0).bind fun v1 =>
 Bb (fun (v2 : Bool) =>
  AV v2
   (some (([] : List Ak), v1.2.2))
   (Gb N p0 p1 (fun (v6 : (List Ak)) =>
    some (v6, 0)) N (v1.1.fBase, v1.1.fNext, v1.1.fHeld, ([] : List Ak), 0)))
 fun j2 =>
 AV ((v1.2.2 != 0))
  (j2 true)
  (j2 (!v1.2.1))
def Hc (N : Nat) (p0 : Ag) (p2 : List Ak) (j4 : ((List Ae)) → Option ((List Ae) × Int × Int)) : Nat → ((List Ae) × Int) → Option ((List Ae) × Int × Int)
 | 0, _ => none
 | n4 + 1, v4 =>
  AV ((decide (v4.2 < (p2.length : Int))))
   ((A9 p2 v4.2).bind fun v7 =>
   (A9 v4.1 v4.2).bind fun v8 =>
   (FH N p0 v8 v7).bind fun v9 =>
   AV ((v9.2 != 0))
    (some (([] : List Ae), v4.2, v9.2))
    ((DP (v4.1.length + (([v9.1] : List Ae)).length ≤ Dy)).bind fun _ =>
    Hc N p0 p2 j4 n4 (v4.1 ++ (([v9.1] : List Ae)), (wI .i64 (v4.2 + 1)))))
   (j4 v4.1)
def J1 (N : Nat) (p0 : Ag) (p1 : Ae) (p2 : List Ak) : Option ((List Ae) × Int × Int) :=
 (E7 N p0 p1).bind fun v1 =>
 AV ((v1 != 0))
  (some (([] : List Ae), 0, v1))
  ((Fp N p1).bind fun v3 =>
  Hc N p0 p2 (fun (v5 : (List Ae)) =>
   some (v5, (p2.length : Int), 0)) N (([v3] : List Ae), 0))
def HY (N : Nat) (p0 : Ag) (p1 : List Ak) : Option ((List Ae) × Int × Int) :=
 (F6 N p0).bind fun v1 =>
 AV ((v1.2 != 0))
  (some (([] : List Ae), 0, v1.2))
  ((J1 N p0 v1.1 p1).bind fun v3 =>
  some (v3.1, v3.2.1, v3.2.2))
def B1 (N : Nat) (p0 : List Ae) (p1 : (Ae × Ae) → Option Bool) (v2 : Int) (j11 : ((List Ae) × Int) → Option (Nat × (List Ae))) : Nat → ((List Ae) × Int × Int) → Option (Nat × (List Ae))
 | 0, _ => none
 | n11 + 1, v11 =>
  AV ((decide (v11.2.2 < ((((p0.length - (v2).toNat)) : Nat) : Int))))
   (Bb (fun (v14 : (List Ae) × Int) =>
    B1 N p0 p1 v2 j11 n11 (v14.1, v14.2, (wI .i64 (v11.2.2 + 1))))
   fun j14 =>
   (DP (((v2).toNat) + ((p0.length - (v2).toNat)) ≤ v11.1.length)).bind fun _ =>
   (A9 (((v11.1.drop ((v2).toNat)).take ((p0.length - (v2).toNat)))) v11.2.2).bind fun v15 =>
   (A9 (((v11.1.drop ((v2).toNat)).take ((p0.length - (v2).toNat)))) ((wI .i64 (v11.2.2 - 1)))).bind fun v17 =>
   (p1 ((v15, v17))).bind fun v18 =>
   AV ((!v18))
    ((A9 (((v11.1.drop ((v2).toNat)).take ((p0.length - (v2).toNat)))) v11.2.2).bind fun v20 =>
    (A9 v11.1 v11.2.1).bind fun _ =>
    j14 (v11.1.set ((v11.2.1).toNat) v20, (wI .i64 (v11.2.1 + 1))))
    (j14 (v11.1, v11.2.1)))
   (j11 (v11.1, v11.2.1))
def B5 (N : Nat) (p0 : List Ae) (p1 : (Ae × Ae) → Option Bool) (j2 : Unit → Option (Nat × (List Ae))) : Nat → Int → Option (Nat × (List Ae))
 | 0, _ => none
 | n2 + 1, v2 =>
  AV ((decide (v2 < (p0.length : Int))))
   ((A9 p0 v2).bind fun v5 =>
   (A9 p0 ((wI .i64 (v2 - 1)))).bind fun v6 =>
   (p1 ((v5, v6))).bind fun v7 =>
   AV v7
    ((DP ((0 : Int) ≤ v2 ∧ (v2).toNat ≤ p0.length ∧ p0.length ≤ p0.length)).bind fun _ =>
    B1 N p0 p1 v2 (fun (v12 : (List Ae) × Int) =>
     (DP ((0 : Int) ≤ v12.2 ∧ (v12.2).toNat ≤ v12.1.length ∧ v12.1.length ≤ v12.1.length)).bind fun _ =>
     (DP ((0 : Int) ≤ v12.2 ∧ 0 ≤ (v12.2).toNat ∧ (v12.2).toNat ≤ (H4 v12.1 ((v12.2).toNat) (List.replicate ((v12.1.length - (v12.2).toNat)) ((Ae.mk (([] : List Int)) (([] : List Int)) (([] : List Int)))))).length)).bind fun _ =>
     some ((v12.2).toNat, H4 v12.1 ((v12.2).toNat) (List.replicate ((v12.1.length - (v12.2).toNat)) ((Ae.mk (([] : List Int)) (([] : List Int)) (([] : List Int))))))) N (p0, v2, 1))
    (B5 N p0 p1 j2 n2 (wI .i64 (v2 + 1))))
   (j2 ())
def C6 (N : Nat) (p0 : List Ae) (p1 : (Ae × Ae) → Option Bool) : Option (Nat × (List Ae)) :=
 AV ((decide ((p0.length : Int) < 2)))
  (some (p0.length, p0))
  (B5 N p0 p1 (fun (_ : Unit) =>
   some (p0.length, p0)) N 1)
def F9 (N : Nat) (p0 : Ae) (p1 : Ae) : Option Bool :=
 (CA N p0 p1).bind fun v1 =>
 some ((v1 == 0))
def FU (N : Nat) (p0 : Ag) (v1 : (List Ae) × Int × Int) (j3 : ((List Ae)) → Option ((List Ae) × Int)) : Nat → ((List Ae) × Int) → Option ((List Ae) × Int)
 | 0, _ => none
 | n3 + 1, v3 =>
  AV ((decide (v3.2 < (v1.1.length : Int))))
   ((A9 v1.1 v3.2).bind fun v6 =>
   (FL N p0 v6).bind fun v7 =>
   AV ((v7.2 != 0))
    (some (([] : List Ae), v7.2))
    ((DP (v3.1.length + v7.1.length ≤ Dy)).bind fun _ =>
    FU N p0 v1 j3 n3 (v3.1 ++ v7.1, (wI .i64 (v3.2 + 1)))))
   (j3 v3.1)
def Id (N : Nat) (p0 : Ag) (p1 : List Ak) : Option ((List Ae) × Int) :=
 (HY N p0 p1).bind fun v1 =>
 AV ((v1.2.2 != 0))
  (some (([] : List Ae), v1.2.2))
  (FU N p0 v1 (fun (v4 : (List Ae)) =>
   (Bm N v4 ((fun (x : Ae × Ae) => CA N x.1 x.2))).bind fun v10 =>
   (C6 N v10 ((fun (x : Ae × Ae) => F9 N x.1 x.2))).bind fun v11 =>
   (DP (v11.1 ≤ v11.2.length)).bind fun _ =>
   some (v11.2.take v11.1, 0)) N (([] : List Ae), 0))
def Gf (N : Nat) (p0 : Ag) (v1 : (List Ae) × Int × Int) (j3 : Unit → Option (Bool × Int)) : Nat → Int → Option (Bool × Int)
 | 0, _ => none
 | n3 + 1, v3 =>
  AV ((decide (v3 < (v1.1.length : Int))))
   ((A9 v1.1 v3).bind fun v6 =>
   (Fc N p0 v6).bind fun v7 =>
   Bb (fun (v8 : Bool) =>
    AV v8
     (some (false, v7.2))
     (Gf N p0 v1 j3 n3 (wI .i64 (v3 + 1))))
   fun j8 =>
   AV ((v7.2 != 0))
    (j8 true)
    (j8 (!v7.1)))
   (j3 ())
def IT (N : Nat) (p0 : Ag) (p1 : List Ak) : Option (Bool × Int) :=
 (HY N p0 p1).bind fun v1 =>
 AV ((v1.2.2 != 0))
  (some (false, v1.2.2))
  (Gf N p0 v1 (fun (_ : Unit) =>
   some (true, 0)) N 0)
def DE (N : Nat) : Option Bool :=
 (CJ N false).bind fun v1 =>
 (D1 N v1).bind fun v2 =>
 (CJ N true).bind fun v3 =>
 (D1 N v3).bind fun v4 =>
 (CJ N false).bind fun v5 =>
 (IK N v5 (([1, 2, 3] : List Int))).bind fun v6 =>
 (CJ N false).bind fun v7 =>
 (Id N v7 (([(Ak.mk 1 0 1)] : List Ak))).bind fun v8 =>
 (CJ N false).bind fun v9 =>
 (IT N v9 (([(Ak.mk 1 0 1)] : List Ak))).bind fun v10 =>
 Bb (fun (v11 : Bool) =>
  some v11)
 fun j11 =>
 AV ((v2.2 == 0))
  (AV ((v4.2 == 0))
   (AV ((v6.2 == 0))
    (AV ((v8.2 == 0))
     (AV ((v10.2 == 0))
      (AV (((v2.1.length : Int) == 1))
       (AV (((v4.1.length : Int) == 4))
        (AV (((v6.1.length : Int) == 0))
         (AV (((v8.1.length : Int) == 2))
          (j11 (!v10.1))
          (j11 false))
         (j11 false))
        (j11 false))
       (j11 false))
      (j11 false))
     (j11 false))
    (j11 false))
   (j11 false))
  (j11 false)
def Cp (N : Nat) (p0 : List (List Bool)) (p1 : Int) (p2 : Int) (j2 : Unit → Option Bool) : Nat → Int → Option Bool
 | 0, _ => none
 | n2 + 1, v2 =>
  AV ((decide (v2 < p1)))
   ((A9 p0 v2).bind fun v5 =>
   AV (((v5.length : Int) != p2))
    (some false)
    (Cp N p0 p1 p2 j2 n2 (wI .i64 (v2 + 1))))
   (j2 ())
def Dt (N : Nat) (p0 : List (List Bool)) (p1 : Int) (p2 : Int) : Option Bool :=
 AV (((p0.length : Int) != p1))
  (some false)
  (Cp N p0 p1 p2 (fun (_ : Unit) =>
   some true) N 0)
def BY (N : Nat) (p1 : AI) (j22 : Unit → Option Int) : Nat → Int → Option Int
 | 0, _ => none
 | n22 + 1, v22 =>
  AV ((decide (v22 < (p1.fRewrite.length : Int))))
   ((A9 p1.fRewrite v22).bind fun v25 =>
   (A9 v25 v22).bind fun v26 =>
   AV ((!v26))
    (some 1)
    (BY N p1 j22 n22 (wI .i64 (v22 + 1))))
   (j22 ())
def El (N : Nat) (p0 : Ag) (p1 : AI) : Option Int :=
 Bb (fun (v1 : Bool) =>
  AV v1
   (some 1)
   (Bb (fun (v7 : Bool) =>
    AV v7
     (some 4)
     ((A9 p0.fVersions p1.fFrom).bind fun v12 =>
     (A9 p0.fVersions p1.fTo).bind fun v13 =>
     (Dt N p1.fOK v12 v13).bind fun v14 =>
     AV ((!v14))
      (some 6)
      (AV ((p1.fKind != 4))
       (AV (((p1.fRewrite.length : Int) != 0))
        (some 6)
        (some 0))
       ((A9 p0.fVersions p1.fFrom).bind fun v18 =>
       (A9 p0.fVersions p1.fFrom).bind fun v19 =>
       (Dt N p1.fRewrite v18 v19).bind fun v20 =>
       AV ((!v20))
        (some 6)
        (BY N p1 (fun (_ : Unit) =>
         some 0) N 0)))))
   fun j7 =>
   AV ((decide (p1.fFrom < 0)))
    (j7 true)
    (AV ((decide ((p0.fVersions.length : Int) ≤ p1.fFrom)))
     (j7 true)
     (AV ((decide (p1.fTo < 0)))
      (j7 true)
      (j7 (decide ((p0.fVersions.length : Int) ≤ p1.fTo)))))))
 fun j1 =>
 AV ((decide (p1.fKind < 1)))
  (j1 true)
  (AV ((decide (4 < p1.fKind)))
   (j1 true)
   (AV p1.fAware
    ((Ba N p1).bind fun v5 =>
    j1 v5)
    (j1 false)))
def Bq (N : Nat) (p0 : Ag) (j7 : Unit → Option Int) : Nat → Int → Option Int
 | 0, _ => none
 | n7 + 1, v7 =>
  AV ((decide (v7 < (p0.fVersions.length : Int))))
   ((A9 p0.fVersions v7).bind fun v10 =>
   Bb (fun (v11 : Bool) =>
    AV v11
     (some 7)
     (Bq N p0 j7 n7 (wI .i64 (v7 + 1))))
   fun j11 =>
   AV ((decide (v10 < 1)))
    (j11 true)
    (AV ((decide (6 < v10)))
     (j11 true)
     ((A9 p0.fNow v7).bind fun v14 =>
     AV ((decide (v14 < 0)))
      (j11 true)
      ((A9 p0.fNow v7).bind fun v16 =>
      AV ((decide (v10 ≤ v16)))
       (j11 true)
       ((A9 p0.fTarget v7).bind fun v18 =>
       AV ((decide (v18 < 0)))
        (j11 true)
        ((A9 p0.fTarget v7).bind fun v20 =>
        j11 (decide (v10 ≤ v20))))))))
   (j7 ())
def Bk (N : Nat) (p0 : Ag) (j22 : Unit → Option Int) : Nat → Int → Option Int
 | 0, _ => none
 | n22 + 1, v22 =>
  AV ((decide (v22 < (p0.fTables.length : Int))))
   ((A9 p0.fTables v22).bind fun v25 =>
   (El N p0 v25).bind fun v26 =>
   AV ((v26 != 0))
    (some v26)
    (Bk N p0 j22 n22 (wI .i64 (v22 + 1))))
   (j22 ())
def Ct (N : Nat) (p0 : Ag) : Option Int :=
 Bb (fun (v1 : Bool) =>
  AV v1
   (some 3)
   (Bb (fun (v4 : Bool) =>
    AV v4
     (some 6)
     (Bq N p0 (fun (_ : Unit) =>
      Bk N p0 (fun (_ : Unit) =>
       some 0) N 0) N 0))
   fun j4 =>
   AV (((p0.fNow.length : Int) != (p0.fVersions.length : Int)))
    (j4 true)
    (j4 ((p0.fTarget.length : Int) != (p0.fVersions.length : Int)))))
 fun j1 =>
 AV ((decide (6 < (p0.fVersions.length : Int))))
  (j1 true)
  (j1 (decide (12 < (p0.fTables.length : Int))))
def B6 (N : Nat) (p0 : Ag) (j3 : ((List Int) × (List Int)) → Option (Ae × Int)) : Nat → ((List Int) × (List Int) × Int) → Option (Ae × Int)
 | 0, _ => none
 | n3 + 1, v3 =>
  AV ((decide (v3.2.2 < (p0.fVersions.length : Int))))
   ((A9 p0.fNow v3.2.2).bind fun v6 =>
   (DP (v3.1.length + (([v6] : List Int)).length ≤ Dy)).bind fun _ =>
   (DP (v3.2.1.length + (([(-1)] : List Int)).length ≤ Dy)).bind fun _ =>
   B6 N p0 j3 n3 (v3.1 ++ (([v6] : List Int)), v3.2.1 ++ (([(-1)] : List Int)), (wI .i64 (v3.2.2 + 1))))
   (j3 (v3.1, v3.2.1))
def Bp (N : Nat) (p0 : Ag) (j9 : ((List Int)) → Option (Ae × Int)) : Nat → ((List Int) × Int) → Option (Ae × Int)
 | 0, _ => none
 | n9 + 1, v9 =>
  AV ((decide (v9.2 < (p0.fTables.length : Int))))
   (Bb (fun (v12 : Int) =>
    (DP (v9.1.length + (([v12] : List Int)).length ≤ Dy)).bind fun _ =>
    Bp N p0 j9 n9 (v9.1 ++ (([v12] : List Int)), (wI .i64 (v9.2 + 1))))
   fun j12 =>
   (A9 p0.fTables v9.2).bind fun v13 =>
   (Ba N v13).bind fun v14 =>
   AV v14
    ((A9 p0.fTables v9.2).bind fun v16 =>
    (A9 p0.fNow v16.fFrom).bind fun v17 =>
    (DP (0 ≤ v17)).bind fun _ =>
    j12 (Co .u8 1 v17))
    (j12 0))
   (j9 v9.1)
def Er (N : Nat) (p0 : Ag) : Option (Ae × Int) :=
 (Ct N p0).bind fun v1 =>
 AV ((v1 != 0))
  (some ((Ae.mk (([] : List Int)) (([] : List Int)) (([] : List Int))), v1))
  (B6 N p0 (fun (v4 : (List Int) × (List Int)) =>
   Bp N p0 (fun (v10 : (List Int)) =>
    some ((Ae.mk v4.1 v4.2 v10), 0)) N (([] : List Int), 0)) N (([] : List Int), ([] : List Int), 0))
def Ea (_ : Nat) (p0 : Ae) : Option Ae :=
 (DP ((([] : List Int)).length + p0.fBase.length ≤ Dy)).bind fun _ =>
 (DP ((([] : List Int)).length + p0.fNext.length ≤ Dy)).bind fun _ =>
 (DP ((([] : List Int)).length + p0.fHeld.length ≤ Dy)).bind fun _ =>
 some ((Ae.mk ((([] : List Int)) ++ p0.fBase) ((([] : List Int)) ++ p0.fNext) ((([] : List Int)) ++ p0.fHeld)))
def Cv (N : Nat) (p0 : Ae) (j1 : Int → Option ((List Ae))) : Nat → (Int × Int) → Option ((List Ae))
 | 0, _ => none
 | n1 + 1, v1 =>
  AV ((decide (v1.2 < (p0.fNext.length : Int))))
   (Bb (fun (v4 : Int) =>
    Cv N p0 j1 n1 (v4, (wI .i64 (v1.2 + 1))))
   fun j4 =>
   (A9 p0.fNext v1.2).bind fun v5 =>
   AV ((decide (0 ≤ v5)))
    (j4 (wI .i64 (v1.1 + 1)))
    (j4 v1.1))
   (j1 v1.1)
def BQ (N : Nat) (p0 : Ae) (v7 : (List Ae) × Int) (j12 : ((List Int)) → Option ((List Ae))) : Nat → ((List Int) × Int × Int) → Option ((List Ae))
 | 0, _ => none
 | n12 + 1, v12 =>
  AV ((decide (v12.2.2 < (p0.fNext.length : Int))))
   (Bb (fun (v15 : (List Int) × Int) =>
    BQ N p0 v7 j12 n12 (v15.1, v15.2, (wI .i64 (v12.2.2 + 1))))
   fun j15 =>
   (A9 p0.fNext v12.2.2).bind fun v16 =>
   AV ((decide (v16 < 0)))
    (j15 (v12.1, v12.2.1))
    (Bb (fun (v18 : (List Int)) =>
     j15 (v18, (wI .i64 (v12.2.1 + 1))))
    fun j18 =>
    (DP (0 ≤ v12.2.1)).bind fun _ =>
    AV (((Int.tmod ((Ei .i64 v7.2 v12.2.1)) 2) == 1))
     ((A9 v12.1 v12.2.2).bind fun _ =>
     j18 (v12.1.set ((v12.2.2).toNat) ((-1))))
     (j18 v12.1)))
   (j12 v12.1)
def BE (N : Nat) (p0 : Ae) (v2 : Int) (j7 : ((List Ae)) → Option ((List Ae))) : Nat → ((List Ae) × Int) → Option ((List Ae))
 | 0, _ => none
 | n7 + 1, v7 =>
  (DP (0 ≤ v2)).bind fun _ =>
  AV ((decide (v7.2 < (Co .i64 1 v2))))
   ((Ea N p0).bind fun v11 =>
   BQ N p0 v7 (fun (v13 : (List Int)) =>
    (DP (v7.1.length + (([(Ae.mk v11.fBase v13 v11.fHeld)] : List Ae)).length ≤ Dy)).bind fun _ =>
    BE N p0 v2 j7 n7 (v7.1 ++ (([(Ae.mk v11.fBase v13 v11.fHeld)] : List Ae)), (wI .i64 (v7.2 + 1)))) N (v11.fNext, 0, 0))
   (j7 v7.1)
def Ef (N : Nat) (p0 : Ae) : Option ((List Ae)) :=
 Cv N p0 (fun (v2 : Int) =>
  BE N p0 v2 (fun (v8 : (List Ae)) =>
   some v8) N (([] : List Ae), 0)) N (0, 0)
def BR (_ : Nat) (p0 : Ae) (p1 : Int) : Option Int :=
 (A9 p0.fBase p1).bind fun v1 =>
 (DP (0 ≤ v1)).bind fun _ =>
 Bb (fun (v3 : Int) =>
  some v3)
 fun j3 =>
 (A9 p0.fNext p1).bind fun v4 =>
 AV ((decide (0 ≤ v4)))
  ((A9 p0.fNext p1).bind fun v6 =>
  (DP (0 ≤ v6)).bind fun _ =>
  j3 (Oa .u8 ((Co .u8 1 v1)) ((Co .u8 1 v6))))
  (j3 (Co .u8 1 v1))
def Cr (_ : Nat) (p0 : Int) (p1 : Int) : Option Bool :=
 (DP (0 ≤ p1)).bind fun _ =>
 some (((FB .u8 ((Ei .u8 p0 p1)) 1) == 1))
def Br (N : Nat) (p0 : Ag) (p1 : Ae) (v1 : (List Av) × Int) (v4 : AI) (v10 : (List Av) × Int) (j17 : ((List Av) × Bool) → Option ((List Av))) : Nat → ((List Av) × Bool × Int) → Option ((List Av))
 | 0, _ => none
 | n17 + 1, v17 =>
  (A9 p0.fVersions v4.fTo).bind fun v19 =>
  AV ((decide (v17.2.2 < v19)))
   (Bb (fun (v21 : (List Av) × Bool) =>
    Br N p0 p1 v1 v4 v10 j17 n17 (v21.1, v21.2, (wI .i64 (v17.2.2 + 1))))
   fun j21 =>
   (BR N p1 v4.fTo).bind fun v22 =>
   (Cr N v22 v17.2.2).bind fun v23 =>
   AV ((!v23))
    (j21 (v17.1, v17.2.1))
    (Bb (fun (v25 : Bool) =>
     Bb (fun (v29 : Bool) =>
      AV v29
       ((DP (v17.1.length + (([(Av.mk v1.2 v10.2 v17.2.2)] : List Av)).length ≤ Dy)).bind fun _ =>
       j21 (v17.1 ++ (([(Av.mk v1.2 v10.2 v17.2.2)] : List Av)), v25))
       (j21 (v17.1, v25)))
     fun j29 =>
     AV ((!v4.fAware))
      ((A9 v4.fOK v10.2).bind fun v31 =>
      (A9 v31 v17.2.2).bind fun v32 =>
      j29 (!v32))
      (j29 false))
    fun j25 =>
    AV v17.2.1
     (j25 true)
     ((A9 v4.fOK v10.2).bind fun v27 =>
     (A9 v27 v17.2.2).bind fun v28 =>
     j25 v28)))
   (j17 (v17.1, v17.2.1))
def BF (N : Nat) (p0 : Ag) (p1 : Ae) (v1 : (List Av) × Int) (v4 : AI) (v6 : Int) (j10 : ((List Av)) → Option ((List Av))) : Nat → ((List Av) × Int) → Option ((List Av))
 | 0, _ => none
 | n10 + 1, v10 =>
  (A9 p0.fVersions v4.fFrom).bind fun v12 =>
  AV ((decide (v10.2 < v12)))
   (Bb (fun (v14 : (List Av)) =>
    BF N p0 p1 v1 v4 v6 j10 n10 (v14, (wI .i64 (v10.2 + 1))))
   fun j14 =>
   (Cr N v6 v10.2).bind fun v15 =>
   AV ((!v15))
    (j14 v10.1)
    (Br N p0 p1 v1 v4 v10 (fun (v18 : (List Av) × Bool) =>
     Bb (fun (v35 : Bool) =>
      AV v35
       ((DP (v18.1.length + (([(Av.mk v1.2 v10.2 ((-1)))] : List Av)).length ≤ Dy)).bind fun _ =>
       j14 (v18.1 ++ (([(Av.mk v1.2 v10.2 ((-1)))] : List Av))))
       (j14 v18.1))
     fun j35 =>
     AV v4.fAware
      (j35 (!v18.2))
      (j35 false)) N (v10.1, false, 0)))
   (j10 v10.1)
def Cz (N : Nat) (p0 : Ag) (p1 : Ae) (j1 : ((List Av)) → Option ((List Av))) : Nat → ((List Av) × Int) → Option ((List Av))
 | 0, _ => none
 | n1 + 1, v1 =>
  AV ((decide (v1.2 < (p0.fTables.length : Int))))
   ((A9 p0.fTables v1.2).bind fun v4 =>
   (BR N p1 v4.fFrom).bind fun v5 =>
   Bb (fun (v6 : Int) =>
    BF N p0 p1 v1 v4 v6 (fun (v11 : (List Av)) =>
     Cz N p0 p1 j1 n1 (v11, (wI .i64 (v1.2 + 1)))) N (v1.1, 0))
   fun j6 =>
   (Ba N v4).bind fun v7 =>
   AV v7
    ((A9 p1.fHeld v1.2).bind fun v9 =>
    j6 v9)
    (j6 v5))
   (j1 v1.1)
def Es (N : Nat) (p0 : Ag) (p1 : Ae) : Option ((List Av)) :=
 Cz N p0 p1 (fun (v2 : (List Av)) =>
  some v2) N (([] : List Av), 0)
def D7 (N : Nat) (p0 : Ag) (p1 : Ae) : Option Bool :=
 (Es N p0 p1).bind fun v1 =>
 some (((v1.length : Int) == 0))
def B2 (N : Nat) (p0 : Ag) (v1 : (List Ae)) (j2 : Unit → Option Bool) : Nat → Int → Option Bool
 | 0, _ => none
 | n2 + 1, v2 =>
  AV ((decide (v2 < (v1.length : Int))))
   ((A9 v1 v2).bind fun v5 =>
   (D7 N p0 v5).bind fun v6 =>
   AV ((!v6))
    (some false)
    (B2 N p0 v1 j2 n2 (wI .i64 (v2 + 1))))
   (j2 ())
def Cx (N : Nat) (p0 : Ag) (p1 : Ae) : Option Bool :=
 (Ef N p1).bind fun v1 =>
 B2 N p0 v1 (fun (_ : Unit) =>
  some true) N 0
def Ca (N : Nat) (p0 : Ag) (p1 : Ae) (j7 : Unit → Option Int) : Nat → Int → Option Int
 | 0, _ => none
 | n7 + 1, v7 =>
  AV ((decide (v7 < (p0.fVersions.length : Int))))
   (Bb (fun (v10 : Bool) =>
    AV v10
     (some 7)
     ((A9 p1.fBase v7).bind fun v21 =>
     (A9 p1.fNext v7).bind fun v22 =>
     AV ((v21 == v22))
      (some 1)
      (Ca N p0 p1 j7 n7 (wI .i64 (v7 + 1)))))
   fun j10 =>
   (A9 p1.fBase v7).bind fun v11 =>
   AV ((decide (v11 < 0)))
    (j10 true)
    ((A9 p1.fBase v7).bind fun v13 =>
    (A9 p0.fVersions v7).bind fun v14 =>
    AV ((decide (v14 ≤ v13)))
     (j10 true)
     ((A9 p1.fNext v7).bind fun v16 =>
     AV ((decide (v16 < (-1))))
      (j10 true)
      ((A9 p1.fNext v7).bind fun v18 =>
      (A9 p0.fVersions v7).bind fun v19 =>
      j10 (decide (v19 ≤ v18))))))
   (j7 ())
def BU (N : Nat) (p0 : Ag) (p1 : Ae) (j24 : Unit → Option Int) : Nat → Int → Option Int
 | 0, _ => none
 | n24 + 1, v24 =>
  AV ((decide (v24 < (p0.fTables.length : Int))))
   ((A9 p0.fTables v24).bind fun v27 =>
   (A9 p0.fVersions v27.fFrom).bind fun v28 =>
   (DP (0 ≤ v28)).bind fun _ =>
   Bb (fun (v30 : Bool) =>
    AV v30
     (some 1)
     (BU N p0 p1 j24 n24 (wI .i64 (v24 + 1))))
   fun j30 =>
   (Ba N v27).bind fun v31 =>
   AV ((!v31))
    ((A9 p1.fHeld v24).bind fun v33 =>
    AV ((v33 != 0))
     (j30 true)
     ((Ba N v27).bind fun v35 =>
     AV v35
      ((A9 p1.fHeld v24).bind fun v37 =>
      AV (((De .u8 v37 ((wI .u8 ((Co .u8 1 v28) - 1)))) != 0))
       (j30 true)
       ((BR N p1 v27.fFrom).bind fun v39 =>
       (A9 p1.fHeld v24).bind fun v40 =>
       j30 ((De .u8 v39 v40) != 0)))
      (j30 false)))
    ((Ba N v27).bind fun v41 =>
    AV v41
     ((A9 p1.fHeld v24).bind fun v43 =>
     AV (((De .u8 v43 ((wI .u8 ((Co .u8 1 v28) - 1)))) != 0))
      (j30 true)
      ((BR N p1 v27.fFrom).bind fun v45 =>
      (A9 p1.fHeld v24).bind fun v46 =>
      j30 ((De .u8 v45 v46) != 0)))
     (j30 false)))
   (j24 ())
def Em (N : Nat) (p0 : Ag) (p1 : Ae) : Option Int :=
 (Ct N p0).bind fun v1 =>
 AV ((v1 != 0))
  (some v1)
  (Bb (fun (v3 : Bool) =>
   AV v3
    (some 6)
    (Ca N p0 p1 (fun (_ : Unit) =>
     BU N p0 p1 (fun (_ : Unit) =>
      some 0) N 0) N 0))
  fun j3 =>
  AV (((p1.fBase.length : Int) != (p0.fVersions.length : Int)))
   (j3 true)
   (AV (((p1.fNext.length : Int) != (p0.fVersions.length : Int)))
    (j3 true)
    (j3 ((p1.fHeld.length : Int) != (p0.fTables.length : Int)))))
def Ew (_ : Nat) (p0 : Ak) : Option Bool :=
 Bb (fun (v1 : Bool) =>
  some v1)
 fun j1 =>
 AV ((decide (1 ≤ p0.fKind)))
  (AV ((decide (p0.fKind ≤ 4)))
   (AV ((decide (0 ≤ p0.fIndex)))
    (AV ((decide (0 ≤ p0.fVersion)))
     (AV ((p0.fKind == 1))
      (j1 true)
      (j1 (p0.fVersion == 0)))
     (j1 false))
    (j1 false))
   (j1 false))
  (j1 false)
def BW (N : Nat) (p0 : Ag) (p2 : Ak) (j12 : ((List Int)) → Option (Ae × Bool)) : Nat → ((List Int) × Int) → Option (Ae × Bool)
 | 0, _ => none
 | n12 + 1, v12 =>
  AV ((decide (v12.2 < (p0.fTables.length : Int))))
   (Bb (fun (v15 : (List Int)) =>
    BW N p0 p2 j12 n12 (v15, (wI .i64 (v12.2 + 1))))
   fun j15 =>
   Bb (fun (v16 : Bool) =>
    AV v16
     ((A9 v12.1 v12.2).bind fun v22 =>
     (DP (0 ≤ p2.fVersion)).bind fun _ =>
     (A9 v12.1 v12.2).bind fun _ =>
     j15 (v12.1.set ((v12.2).toNat) ((Oa .u8 v22 ((Co .u8 1 p2.fVersion))))))
     (j15 v12.1))
   fun j16 =>
   (A9 p0.fTables v12.2).bind fun v17 =>
   AV ((v17.fFrom == p2.fIndex))
    ((A9 p0.fTables v12.2).bind fun v19 =>
    (Ba N v19).bind fun v20 =>
    j16 v20)
    (j16 false))
   (j12 v12.1)
def BG (N : Nat) (p0 : Ag) (p1 : Ae) (p2 : Ak) (v32 : AI) (v35 : Int) (j38 : Unit → Option (Ae × Bool)) : Nat → Int → Option (Ae × Bool)
 | 0, _ => none
 | n38 + 1, v38 =>
  (A9 p0.fVersions v32.fFrom).bind fun v40 =>
  AV ((decide (v38 < v40)))
   (Bb (fun (v42 : Bool) =>
    Bb (fun (v47 : Bool) =>
     AV v47
      (some ((Ae.mk (([] : List Int)) (([] : List Int)) (([] : List Int))), false))
      (BG N p0 p1 p2 v32 v35 j38 n38 (wI .i64 (v38 + 1))))
    fun j47 =>
    AV v42
     (AV ((v32.fKind == 4))
      ((A9 v32.fRewrite v38).bind fun v50 =>
      (A9 p1.fBase v32.fFrom).bind fun v51 =>
      (A9 v50 v51).bind fun v52 =>
      j47 (!v52))
      (j47 false))
     (j47 false))
   fun j42 =>
   (A9 p1.fHeld p2.fIndex).bind fun v43 =>
   (Cr N v43 v38).bind fun v44 =>
   AV v44
    ((Cr N v35 v38).bind fun v46 =>
    j42 (!v46))
    (j42 false))
   (j38 ())
def Cn (N : Nat) (p0 : Ag) (p1 : Ae) (p2 : Ak) : Option (Ae × Bool) :=
 (DP ((([] : List Int)).length + p1.fBase.length ≤ Dy)).bind fun _ =>
 (DP ((([] : List Int)).length + p1.fNext.length ≤ Dy)).bind fun _ =>
 (DP ((([] : List Int)).length + p1.fHeld.length ≤ Dy)).bind fun _ =>
 Bb (fun (v4 : (List Int) × (List Int) × (List Int)) =>
  some ((Ae.mk v4.1 v4.2.1 v4.2.2), true))
 fun j4 =>
 AV ((p2.fKind == 1))
  (Bb (fun (v6 : Bool) =>
   AV v6
    (some ((Ae.mk (([] : List Int)) (([] : List Int)) (([] : List Int))), false))
    ((A9 ((([] : List Int)) ++ p1.fNext) p2.fIndex).bind fun _ =>
    BW N p0 p2 (fun (v13 : (List Int)) =>
     j4 ((([] : List Int)) ++ p1.fBase, ((([] : List Int)) ++ p1.fNext).set ((p2.fIndex).toNat) p2.fVersion, v13)) N ((([] : List Int)) ++ p1.fHeld, 0)))
  fun j6 =>
  (A9 p1.fNext p2.fIndex).bind fun v7 =>
  AV ((decide (0 ≤ v7)))
   (j6 true)
   ((A9 p1.fBase p2.fIndex).bind fun v9 =>
   j6 (p2.fVersion == v9)))
  (AV ((p2.fKind == 2))
   ((A9 p1.fNext p2.fIndex).bind fun v26 =>
   AV ((decide (v26 < 0)))
    (some ((Ae.mk (([] : List Int)) (([] : List Int)) (([] : List Int))), false))
    ((A9 p1.fNext p2.fIndex).bind fun v28 =>
    (A9 ((([] : List Int)) ++ p1.fBase) p2.fIndex).bind fun _ =>
    (A9 ((([] : List Int)) ++ p1.fNext) p2.fIndex).bind fun _ =>
    j4 (((([] : List Int)) ++ p1.fBase).set ((p2.fIndex).toNat) v28, ((([] : List Int)) ++ p1.fNext).set ((p2.fIndex).toNat) ((-1)), (([] : List Int)) ++ p1.fHeld)))
   (AV ((p2.fKind == 3))
    ((A9 p0.fTables p2.fIndex).bind fun v32 =>
    (Ba N v32).bind fun v33 =>
    AV ((!v33))
     (some ((Ae.mk (([] : List Int)) (([] : List Int)) (([] : List Int))), false))
     ((BR N p1 v32.fFrom).bind fun v35 =>
     (A9 p1.fHeld p2.fIndex).bind fun v36 =>
     AV ((v36 == v35))
      (some ((Ae.mk (([] : List Int)) (([] : List Int)) (([] : List Int))), false))
      (BG N p0 p1 p2 v32 v35 (fun (_ : Unit) =>
       (A9 ((([] : List Int)) ++ p1.fHeld) p2.fIndex).bind fun _ =>
       j4 ((([] : List Int)) ++ p1.fBase, (([] : List Int)) ++ p1.fNext, ((([] : List Int)) ++ p1.fHeld).set ((p2.fIndex).toNat) v35)) N 0)))
    ((A9 p1.fNext p2.fIndex).bind fun v55 =>
    AV ((decide (v55 < 0)))
     (some ((Ae.mk (([] : List Int)) (([] : List Int)) (([] : List Int))), false))
     ((A9 ((([] : List Int)) ++ p1.fNext) p2.fIndex).bind fun _ =>
     j4 ((([] : List Int)) ++ p1.fBase, ((([] : List Int)) ++ p1.fNext).set ((p2.fIndex).toNat) ((-1)), (([] : List Int)) ++ p1.fHeld)))))
def Ev (N : Nat) (p0 : Ag) (p1 : Ae) (p2 : Ak) : Option (Ae × Int) :=
 (Em N p0 p1).bind fun v1 =>
 AV ((v1 != 0))
  (some ((Ae.mk (([] : List Int)) (([] : List Int)) (([] : List Int))), v1))
  ((Ew N p2).bind fun v3 =>
  AV ((!v3))
   (some ((Ae.mk (([] : List Int)) (([] : List Int)) (([] : List Int))), 1))
   (Bb (fun (v5 : Bool) =>
    AV v5
     (some ((Ae.mk (([] : List Int)) (([] : List Int)) (([] : List Int))), 4))
     (Bb (fun (v11 : Bool) =>
      AV v11
       (some ((Ae.mk (([] : List Int)) (([] : List Int)) (([] : List Int))), 4))
       ((Cn N p0 p1 p2).bind fun v15 =>
       AV ((!v15.2))
        (some ((Ae.mk (([] : List Int)) (([] : List Int)) (([] : List Int))), 11))
        (some (v15.1, 0))))
     fun j11 =>
     AV ((p2.fKind == 1))
      ((A9 p0.fVersions p2.fIndex).bind fun v13 =>
      j11 (decide (v13 ≤ p2.fVersion)))
      (j11 false)))
   fun j5 =>
   AV ((p2.fKind == 3))
    (AV ((decide ((p0.fTables.length : Int) ≤ p2.fIndex)))
     (j5 true)
     (AV ((p2.fKind != 3))
      (j5 (decide ((p0.fVersions.length : Int) ≤ p2.fIndex)))
      (j5 false)))
    (AV ((p2.fKind != 3))
     (j5 (decide ((p0.fVersions.length : Int) ≤ p2.fIndex)))
     (j5 false))))
def B8 (N : Nat) (p0 : Ag) (p1 : Ae) (v1 : (List Ak) × Int) (v4 : (List Ak) × Int) (j7 : ((List Ak)) → Option ((List Ak))) : Nat → ((List Ak) × Int) → Option ((List Ak))
 | 0, _ => none
 | n7 + 1, v7 =>
  AV ((decide (v7.2 < 6)))
   (Bb (fun (v10 : (List Ak)) =>
    B8 N p0 p1 v1 v4 j7 n7 (v10, (wI .i64 (v7.2 + 1))))
   fun j10 =>
   (Ev N p0 p1 ((Ak.mk v1.2 v4.2 v7.2))).bind fun v11 =>
   AV ((v11.2 == 0))
    ((DP (v7.1.length + (([(Ak.mk v1.2 v4.2 v7.2)] : List Ak)).length ≤ Dy)).bind fun _ =>
    j10 (v7.1 ++ (([(Ak.mk v1.2 v4.2 v7.2)] : List Ak))))
    (j10 v7.1))
   (j7 v7.1)
def B9 (N : Nat) (p0 : Ag) (p1 : Ae) (v1 : (List Ak) × Int) (j4 : ((List Ak)) → Option ((List Ak))) : Nat → ((List Ak) × Int) → Option ((List Ak))
 | 0, _ => none
 | n4 + 1, v4 =>
  AV ((decide (v4.2 < (SJ ((p0.fVersions.length : Int)) ((p0.fTables.length : Int))))))
   (B8 N p0 p1 v1 v4 (fun (v8 : (List Ak)) =>
    B9 N p0 p1 v1 j4 n4 (v8, (wI .i64 (v4.2 + 1)))) N (v4.1, 0))
   (j4 v4.1)
def BA (N : Nat) (p0 : Ag) (p1 : Ae) (j1 : ((List Ak)) → Option ((List Ak))) : Nat → ((List Ak) × Int) → Option ((List Ak))
 | 0, _ => none
 | n1 + 1, v1 =>
  AV ((decide (v1.2 ≤ 3)))
   (B9 N p0 p1 v1 (fun (v5 : (List Ak)) =>
    BA N p0 p1 j1 n1 (v5, (wI .i64 (v1.2 + 1)))) N (v1.1, 0))
   (j1 v1.1)
def Et (N : Nat) (p0 : Ag) (p1 : Ae) : Option ((List Ak)) :=
 BA N p0 p1 (fun (v2 : (List Ak)) =>
  some v2) N (([] : List Ak), 1)
def C8 (N : Nat) (p0 : Ag) (p1 : Ae) (v1 : (List Ak)) (j2 : ((List Ak)) → Option ((List Ak))) : Nat → ((List Ak) × Int) → Option ((List Ak))
 | 0, _ => none
 | n2 + 1, v2 =>
  AV ((decide (v2.2 < (v1.length : Int))))
   (Bb (fun (v5 : (List Ak)) =>
    C8 N p0 p1 v1 j2 n2 (v5, (wI .i64 (v2.2 + 1))))
   fun j5 =>
   (A9 v1 v2.2).bind fun v6 =>
   (Cn N p0 p1 v6).bind fun v7 =>
   (Cx N p0 v7.1).bind fun v8 =>
   AV v8
    ((A9 v1 v2.2).bind fun v10 =>
    (DP (v2.1.length + (([v10] : List Ak)).length ≤ Dy)).bind fun _ =>
    j5 (v2.1 ++ (([v10] : List Ak))))
    (j5 v2.1))
   (j2 v2.1)
def Ez (N : Nat) (p0 : Ag) (p1 : Ae) : Option ((List Ak)) :=
 (Et N p0 p1).bind fun v1 =>
 C8 N p0 p1 v1 (fun (v3 : (List Ak)) =>
  some v3) N (([] : List Ak), 0)
def Dd (N : Nat) (p0 : List Int) (p1 : List Int) (j1 : Unit → Option Int) : Nat → Int → Option Int
 | 0, _ => none
 | n1 + 1, v1 =>
  Bb (fun (v3 : Bool) =>
   AV v3
    ((A9 p0 v1).bind fun v6 =>
    (A9 p1 v1).bind fun v7 =>
    AV ((decide (v6 < v7)))
     (some ((-1)))
     ((A9 p0 v1).bind fun v9 =>
     (A9 p1 v1).bind fun v10 =>
     AV ((decide (v10 < v9)))
      (some 1)
      (Dd N p0 p1 j1 n1 (wI .i64 (v1 + 1)))))
    (j1 ()))
  fun j3 =>
  AV ((decide (v1 < (p0.length : Int))))
   (j3 (decide (v1 < (p1.length : Int))))
   (j3 false)
def Dk (N : Nat) (p0 : List Int) (p1 : List Int) : Option Int :=
 Dd N p0 p1 (fun (_ : Unit) =>
  AV ((decide ((p0.length : Int) < (p1.length : Int))))
   (some ((-1)))
   (AV ((decide ((p1.length : Int) < (p0.length : Int))))
    (some 1)
    (some 0))) N 0
def CG (N : Nat) (p0 : List Int) (j1 : ((List Int)) → Option ((List Int))) : Nat → ((List Int) × Int) → Option ((List Int))
 | 0, _ => none
 | n1 + 1, v1 =>
  AV ((decide (v1.2 < (p0.length : Int))))
   ((A9 p0 v1.2).bind fun v4 =>
   (DP (v1.1.length + (([(wI .i64 v4)] : List Int)).length ≤ Dy)).bind fun _ =>
   CG N p0 j1 n1 (v1.1 ++ (([(wI .i64 v4)] : List Int)), (wI .i64 (v1.2 + 1))))
   (j1 v1.1)
def C9 (N : Nat) (p0 : List Int) : Option ((List Int)) :=
 CG N p0 (fun (v2 : (List Int)) =>
  some v2) N (([] : List Int), 0)
def CI (N : Nat) (p0 : Ae) (p1 : Ae) : Option Int :=
 (Dk N p0.fBase p1.fBase).bind fun v1 =>
 AV ((v1 != 0))
  (some v1)
  ((Dk N p0.fNext p1.fNext).bind fun v3 =>
  AV ((v3 != 0))
   (some v3)
   ((C9 N p0.fHeld).bind fun v5 =>
   (C9 N p1.fHeld).bind fun v6 =>
   (Dk N v5 v6).bind fun v7 =>
   some v7))
def CX (N : Nat) (p0 : Ae) (p1 : Ae) : Option Bool :=
 (CI N p0 p1).bind fun v1 =>
 some ((v1 == 0))
def DI (N : Nat) (p0 : List Ae) (p1 : Ae) (j1 : Unit → Option Bool) : Nat → Int → Option Bool
 | 0, _ => none
 | n1 + 1, v1 =>
  AV ((decide (v1 < (p0.length : Int))))
   ((A9 p0 v1).bind fun v4 =>
   (CX N v4 p1).bind fun v5 =>
   AV v5
    (some true)
    (DI N p0 p1 j1 n1 (wI .i64 (v1 + 1))))
   (j1 ())
def FQ (N : Nat) (p0 : List Ae) (p1 : Ae) : Option Bool :=
 DI N p0 p1 (fun (_ : Unit) =>
  some false) N 0
def Dp (N : Nat) (p0 : List Ae) (p1 : Ae) (j1 : Unit → Option ((List Ae))) : Nat → Int → Option ((List Ae))
 | 0, _ => none
 | n1 + 1, v1 =>
  AV ((decide (v1 < (p0.length : Int))))
   ((A9 p0 v1).bind fun v4 =>
   (CI N v4 p1).bind fun v5 =>
   AV ((v5 == 0))
    (some p0)
    (AV ((decide (0 < v5)))
     ((DP ((0 : Int) ≤ v1 ∧ 0 ≤ (v1).toNat ∧ (v1).toNat ≤ p0.length)).bind fun _ =>
     (DP ((([] : List Ae)).length + (((p0.drop 0).take ((v1).toNat))).length ≤ Dy)).bind fun _ =>
     (DP (((([] : List Ae)) ++ (((p0.drop 0).take ((v1).toNat)))).length + (([p1] : List Ae)).length ≤ Dy)).bind fun _ =>
     (DP ((0 : Int) ≤ v1 ∧ (v1).toNat ≤ p0.length ∧ p0.length ≤ p0.length)).bind fun _ =>
     (DP ((((([] : List Ae)) ++ (((p0.drop 0).take ((v1).toNat)))) ++ (([p1] : List Ae))).length + (((p0.drop ((v1).toNat)).take ((p0.length - (v1).toNat)))).length ≤ Dy)).bind fun _ =>
     some ((((([] : List Ae)) ++ (((p0.drop 0).take ((v1).toNat)))) ++ (([p1] : List Ae))) ++ (((p0.drop ((v1).toNat)).take ((p0.length - (v1).toNat))))))
     (Dp N p0 p1 j1 n1 (wI .i64 (v1 + 1)))))
   (j1 ())
def EL (N : Nat) (p0 : List Ae) (p1 : Ae) : Option ((List Ae)) :=
 Dp N p0 p1 (fun (_ : Unit) =>
  (DP (p0.length + (([p1] : List Ae)).length ≤ Dy)).bind fun _ =>
  some (p0 ++ (([p1] : List Ae)))) N 0
def BV (N : Nat) (p0 : Ag) (p1 : Int) (v4 : (List Ae) × Int) (v8 : (List Ak)) (j9 : ((List Ae)) → Option ((List Ae) × Bool)) : Nat → ((List Ae) × Int) → Option ((List Ae) × Bool)
 | 0, _ => none
 | n9 + 1, v9 =>
  AV ((decide (v9.2 < (v8.length : Int))))
   ((A9 v9.1 v4.2).bind fun v12 =>
   (A9 v8 v9.2).bind fun v13 =>
   (Cn N p0 v12 v13).bind fun v14 =>
   Bb (fun (v15 : (List Ae)) =>
    AV ((decide (p1 < (v15.length : Int))))
     (some (([] : List Ae), false))
     (BV N p0 p1 v4 v8 j9 n9 (v15, (wI .i64 (v9.2 + 1)))))
   fun j15 =>
   (FQ N v9.1 v14.1).bind fun v16 =>
   AV ((!v16))
    ((DP (v9.1.length + (([v14.1] : List Ae)).length ≤ Dy)).bind fun _ =>
    j15 (v9.1 ++ (([v14.1] : List Ae))))
    (j15 v9.1))
   (j9 v9.1)
def Cq (N : Nat) (p0 : Ag) (p1 : Int) (j4 : ((List Ae)) → Option ((List Ae) × Bool)) : Nat → ((List Ae) × Int) → Option ((List Ae) × Bool)
 | 0, _ => none
 | n4 + 1, v4 =>
  AV ((decide (v4.2 < (v4.1.length : Int))))
   ((A9 v4.1 v4.2).bind fun v7 =>
   (Ez N p0 v7).bind fun v8 =>
   BV N p0 p1 v4 v8 (fun (v10 : (List Ae)) =>
    Cq N p0 p1 j4 n4 (v10, (wI .i64 (v4.2 + 1)))) N (v4.1, 0))
   (j4 v4.1)
def Ce (N : Nat) (v5 : (List Ae)) (j20 : ((List Ae)) → Option ((List Ae) × Bool)) : Nat → ((List Ae) × Int) → Option ((List Ae) × Bool)
 | 0, _ => none
 | n20 + 1, v20 =>
  AV ((decide (v20.2 < (v5.length : Int))))
   ((A9 v5 v20.2).bind fun v23 =>
   (EL N v20.1 v23).bind fun v24 =>
   Ce N v5 j20 n20 (v24, (wI .i64 (v20.2 + 1))))
   (j20 v20.1)
def Ec (N : Nat) (p0 : Ag) (p1 : Int) : Option ((List Ae) × Bool) :=
 (Er N p0).bind fun v1 =>
 (Cx N p0 v1.1).bind fun v2 =>
 AV ((!v2))
  (some (([] : List Ae), true))
  (Cq N p0 p1 (fun (v5 : (List Ae)) =>
   Ce N v5 (fun (v21 : (List Ae)) =>
    some (v21, true)) N (([] : List Ae), 0)) N (([v1.1] : List Ae), 0))
def CH (N : Nat) (p0 : List Ae) (p1 : List Ae) (j2 : Unit → Option Bool) : Nat → Int → Option Bool
 | 0, _ => none
 | n2 + 1, v2 =>
  AV ((decide (v2 < (p0.length : Int))))
   ((A9 p0 v2).bind fun v5 =>
   (A9 p1 v2).bind fun v6 =>
   (CX N v5 v6).bind fun v7 =>
   AV ((!v7))
    (some false)
    (CH N p0 p1 j2 n2 (wI .i64 (v2 + 1))))
   (j2 ())
def Dg (N : Nat) (p0 : List Ae) (p1 : List Ae) : Option Bool :=
 AV (((p0.length : Int) != (p1.length : Int)))
  (some false)
  (CH N p0 p1 (fun (_ : Unit) =>
   some true) N 0)
def BZ (N : Nat) (v1 : Ag × Bool) (v9 : (List Ae) × Int) (j10 : Unit → Option Bool) : Nat → Int → Option Bool
 | 0, _ => none
 | n10 + 1, v10 =>
  AV ((decide (v10 < (v9.1.length : Int))))
   ((A9 v9.1 v10).bind fun v13 =>
   (Cx N v1.1 v13).bind fun v14 =>
   AV ((!v14))
    (some false)
    (BZ N v1 v9 j10 n10 (wI .i64 (v10 + 1))))
   (j10 ())
def CB (N : Nat) (p0 : Cg) : Option Bool :=
 (E1 N p0).bind fun v1 =>
 Bb (fun (v2 : Bool) =>
  AV v2
   ((DE N).bind fun v6 =>
   some v6)
   ((Ec N v1.1 400).bind fun v7 =>
   AV ((!v7.2))
    (some true)
    ((D1 N v1.1).bind fun v9 =>
    BZ N v1 v9 (fun (_ : Unit) =>
     Bb (fun (v16 : Bool) =>
      some v16)
     fun j16 =>
     AV ((v9.2 == 0))
      ((Dg N v9.1 v7.1).bind fun v18 =>
      j16 v18)
      (j16 false)) N 0)))
 fun j2 =>
 (DE N).bind fun v3 =>
 AV ((!v3))
  (j2 true)
  (j2 (!v1.2))
def N8 {α : Type} (w : α → Prop) (xs : List α) : Prop := ∀ x, x ∈ xs → w x
def KY (n : Int) : Prop := (Lit.int .u8 n).wf = true
def WX (n : Int) : Prop := (Lit.int .u16 n).wf = true
def Hv (x : HM) : Prop := KY x.fKind ∧ KY x.fFrom ∧ KY x.fTo ∧ (fun _ => True) x.fAware ∧ WX x.fBad ∧ WX x.fLost ∧ True
def Fa (x : Cg) : Prop := (N8 KY) x.fVersions ∧ (N8 KY) x.fNow ∧ (N8 KY) x.fTarget ∧ (N8 Hv) x.fLinks ∧ True
end Go.Lift
namespace Go.Lift
open Go.RowKit
open Go.Proofs
theorem Ac : Tryz.prog.follows .mixedOrders = true := by kernel_rfl
theorem K0 : FF Tryz.prog 100 false = true := by kernel_rfl
theorem Sc : FF Tryz.prog 113 true = true := by kernel_rfl
theorem Nm : FF Tryz.prog 144 false = true := by kernel_rfl
theorem TN : FF Tryz.prog 22 false = true := by kernel_rfl
theorem Wv : FF Tryz.prog 23 false = true := by kernel_rfl
theorem ZD : FF Tryz.prog 25 true = true := by kernel_rfl
theorem Bh : FF Tryz.prog 27 false = true := by kernel_rfl
theorem He : FF Tryz.prog 28 false = true := by kernel_rfl
theorem Cs : FF Tryz.prog 3 false = true := by kernel_rfl
theorem Ee : FF Tryz.prog 30 true = true := by kernel_rfl
theorem Sx : FF Tryz.prog 4 false = true := by kernel_rfl
theorem Im : FF Tryz.prog 40 true = true := by kernel_rfl
theorem GN : FF Tryz.prog 48 false = true := by kernel_rfl
theorem Xk : FF Tryz.prog 5 false = true := by kernel_rfl
theorem A0 : FF Tryz.prog 50 true = true := by kernel_rfl
theorem X8 : FF Tryz.prog 71 false = true := by kernel_rfl
theorem YO : FF Tryz.prog 73 true = true := by kernel_rfl
theorem JL : FF Tryz.prog 74 false = true := by kernel_rfl
theorem Hn : FF Tryz.prog 76 true = true := by kernel_rfl
theorem Jl : FF Tryz.prog 97 false = true := by kernel_rfl
theorem XN : Pd Tryz.prog 22 = true := by kernel_rfl
theorem Wz : Fy Tryz.prog 100 24 = true := by kernel_rfl
theorem Pn : Fy Tryz.prog 113 24 = true := by kernel_rfl
theorem LQ : Fy Tryz.prog 3 8 = true := by kernel_rfl
theorem Ww : Fy Tryz.prog 4 1 = true := by kernel_rfl
theorem MW : Fy Tryz.prog 40 24 = true := by kernel_rfl
theorem Xs : Fy Tryz.prog 5 1 = true := by kernel_rfl
theorem JN : Fy Tryz.prog 50 72 = true := by kernel_rfl
theorem XR : Fy Tryz.prog 76 80 = true := by kernel_rfl
theorem QB : Fy Tryz.prog 97 1 = true := by kernel_rfl
theorem PB : Dx Tryz.prog 25 0 0 = true := by kernel_rfl
theorem Vm : Dx Tryz.prog 25 1 1 = true := by kernel_rfl
theorem UV : Dx Tryz.prog 25 2 2 = true := by kernel_rfl
theorem PT : Dx Tryz.prog 25 3 3 = true := by kernel_rfl
theorem BB : Dx Tryz.prog 30 0 0 = true := by kernel_rfl
theorem GE : Dx Tryz.prog 30 1 1 = true := by kernel_rfl
theorem Je : Dx Tryz.prog 30 2 2 = true := by kernel_rfl
theorem CO : Dx Tryz.prog 30 3 3 = true := by kernel_rfl
theorem Fu : Dx Tryz.prog 40 0 0 = true := by kernel_rfl
theorem ET : Dx Tryz.prog 40 1 1 = true := by kernel_rfl
theorem GD : Dx Tryz.prog 40 2 2 = true := by kernel_rfl
theorem CS : Dx Tryz.prog 50 0 0 = true := by kernel_rfl
theorem BH : Dx Tryz.prog 50 1 1 = true := by kernel_rfl
theorem CC : Dx Tryz.prog 50 2 2 = true := by kernel_rfl
theorem UQ : Dx Tryz.prog 73 0 0 = true := by kernel_rfl
theorem Vw : Dx Tryz.prog 73 1 1 = true := by kernel_rfl
theorem Vn : Dx Tryz.prog 73 2 2 = true := by kernel_rfl
theorem VM : Dx Tryz.prog 73 3 3 = true := by kernel_rfl
theorem VT : Dx Tryz.prog 73 4 4 = true := by kernel_rfl
theorem UY : Dx Tryz.prog 73 5 5 = true := by kernel_rfl
theorem FV : Dx Tryz.prog 76 0 0 = true := by kernel_rfl
theorem Db : Dx Tryz.prog 76 1 1 = true := by kernel_rfl
theorem H2 : Dx Tryz.prog 76 2 2 = true := by kernel_rfl
theorem IF : Dx Tryz.prog 76 3 3 = true := by kernel_rfl
theorem Jv : Dx Tryz.prog 76 4 4 = true := by kernel_rfl
theorem GC : Dx Tryz.prog 76 5 5 = true := by kernel_rfl
theorem Yc : AP Tryz.prog 10 = true := by kernel_rfl
theorem Sl : AP Tryz.prog 100 = true := by kernel_rfl
theorem XW : AP Tryz.prog 101 = true := by kernel_rfl
theorem Ym : AP Tryz.prog 102 = true := by kernel_rfl
theorem XS : AP Tryz.prog 103 = true := by kernel_rfl
theorem Yp : AP Tryz.prog 104 = true := by kernel_rfl
theorem V8 : AP Tryz.prog 105 = true := by kernel_rfl
theorem Xp : AP Tryz.prog 106 = true := by kernel_rfl
theorem Yu : AP Tryz.prog 107 = true := by kernel_rfl
theorem Uu : AP Tryz.prog 108 = true := by kernel_rfl
theorem Wj : AP Tryz.prog 109 = true := by kernel_rfl
theorem YX : AP Tryz.prog 11 = true := by kernel_rfl
theorem We : AP Tryz.prog 110 = true := by kernel_rfl
theorem V3 : AP Tryz.prog 111 = true := by kernel_rfl
theorem XU : AP Tryz.prog 112 = true := by kernel_rfl
theorem Yr : AP Tryz.prog 113 = true := by kernel_rfl
theorem X1 : AP Tryz.prog 114 = true := by kernel_rfl
theorem XK : AP Tryz.prog 115 = true := by kernel_rfl
theorem Wb : AP Tryz.prog 116 = true := by kernel_rfl
theorem Yq : AP Tryz.prog 117 = true := by kernel_rfl
theorem X6 : AP Tryz.prog 118 = true := by kernel_rfl
theorem Uw : AP Tryz.prog 119 = true := by kernel_rfl
theorem Wa : AP Tryz.prog 120 = true := by kernel_rfl
theorem XA : AP Tryz.prog 121 = true := by kernel_rfl
theorem Yd : AP Tryz.prog 122 = true := by kernel_rfl
theorem XJ : AP Tryz.prog 123 = true := by kernel_rfl
theorem Xz : AP Tryz.prog 124 = true := by kernel_rfl
theorem Yl : AP Tryz.prog 125 = true := by kernel_rfl
theorem Xt : AP Tryz.prog 126 = true := by kernel_rfl
theorem YW : AP Tryz.prog 14 = true := by kernel_rfl
theorem Zf : AP Tryz.prog 16 = true := by kernel_rfl
theorem YP : AP Tryz.prog 17 = true := by kernel_rfl
theorem WJ : AP Tryz.prog 18 = true := by kernel_rfl
theorem Wo : AP Tryz.prog 19 = true := by kernel_rfl
theorem Y0 : AP Tryz.prog 20 = true := by kernel_rfl
theorem ZB : AP Tryz.prog 24 = true := by kernel_rfl
theorem YQ : AP Tryz.prog 25 = true := by kernel_rfl
theorem Zv : AP Tryz.prog 26 = true := by kernel_rfl
theorem W1 : AP Tryz.prog 27 = true := by kernel_rfl
theorem Xm : AP Tryz.prog 30 = true := by kernel_rfl
theorem Yk : AP Tryz.prog 32 = true := by kernel_rfl
theorem P5 : AP Tryz.prog 33 = true := by kernel_rfl
theorem X5 : AP Tryz.prog 34 = true := by kernel_rfl
theorem Tj : AP Tryz.prog 35 = true := by kernel_rfl
theorem Yn : AP Tryz.prog 36 = true := by kernel_rfl
theorem X9 : AP Tryz.prog 37 = true := by kernel_rfl
theorem XL : AP Tryz.prog 38 = true := by kernel_rfl
theorem WQ : AP Tryz.prog 39 = true := by kernel_rfl
theorem YM : AP Tryz.prog 40 = true := by kernel_rfl
theorem Zz : AP Tryz.prog 41 = true := by kernel_rfl
theorem Zr : AP Tryz.prog 43 = true := by kernel_rfl
theorem YJ : AP Tryz.prog 44 = true := by kernel_rfl
theorem WK : AP Tryz.prog 45 = true := by kernel_rfl
theorem YL : AP Tryz.prog 46 = true := by kernel_rfl
theorem Xw : AP Tryz.prog 47 = true := by kernel_rfl
theorem WW : AP Tryz.prog 48 = true := by kernel_rfl
theorem Yi : AP Tryz.prog 49 = true := by kernel_rfl
theorem XY : AP Tryz.prog 50 = true := by kernel_rfl
theorem YN : AP Tryz.prog 51 = true := by kernel_rfl
theorem Tr : AP Tryz.prog 52 = true := by kernel_rfl
theorem VO : AP Tryz.prog 53 = true := by kernel_rfl
theorem XQ : AP Tryz.prog 54 = true := by kernel_rfl
theorem Xy : AP Tryz.prog 55 = true := by kernel_rfl
theorem Zu : AP Tryz.prog 56 = true := by kernel_rfl
theorem Vq : AP Tryz.prog 57 = true := by kernel_rfl
theorem Ui : AP Tryz.prog 58 = true := by kernel_rfl
theorem XM : AP Tryz.prog 59 = true := by kernel_rfl
theorem W6 : AP Tryz.prog 60 = true := by kernel_rfl
theorem Xn : AP Tryz.prog 61 = true := by kernel_rfl
theorem YT : AP Tryz.prog 62 = true := by kernel_rfl
theorem Yb : AP Tryz.prog 63 = true := by kernel_rfl
theorem YI : AP Tryz.prog 64 = true := by kernel_rfl
theorem YV : AP Tryz.prog 65 = true := by kernel_rfl
theorem Y8 : AP Tryz.prog 66 = true := by kernel_rfl
theorem Zg : AP Tryz.prog 67 = true := by kernel_rfl
theorem Zy : AP Tryz.prog 68 = true := by kernel_rfl
theorem Y3 : AP Tryz.prog 69 = true := by kernel_rfl
theorem Zw : AP Tryz.prog 70 = true := by kernel_rfl
theorem YK : AP Tryz.prog 71 = true := by kernel_rfl
theorem Y2 : AP Tryz.prog 72 = true := by kernel_rfl
theorem WR : AP Tryz.prog 73 = true := by kernel_rfl
theorem X2 : AP Tryz.prog 74 = true := by kernel_rfl
theorem Xx : AP Tryz.prog 75 = true := by kernel_rfl
theorem Y1 : AP Tryz.prog 76 = true := by kernel_rfl
theorem WV : AP Tryz.prog 77 = true := by kernel_rfl
theorem Yg : AP Tryz.prog 78 = true := by kernel_rfl
theorem Yj : AP Tryz.prog 79 = true := by kernel_rfl
theorem WC : AP Tryz.prog 80 = true := by kernel_rfl
theorem Zo : AP Tryz.prog 81 = true := by kernel_rfl
theorem Zq : AP Tryz.prog 82 = true := by kernel_rfl
theorem Zn : AP Tryz.prog 83 = true := by kernel_rfl
theorem YY : AP Tryz.prog 84 = true := by kernel_rfl
theorem YR : AP Tryz.prog 85 = true := by kernel_rfl
theorem Zd : AP Tryz.prog 86 = true := by kernel_rfl
theorem Zt : AP Tryz.prog 87 = true := by kernel_rfl
theorem YS : AP Tryz.prog 88 = true := by kernel_rfl
theorem Y7 : AP Tryz.prog 89 = true := by kernel_rfl
theorem ZJ : AP Tryz.prog 9 = true := by kernel_rfl
theorem Zl : AP Tryz.prog 90 = true := by kernel_rfl
theorem Y9 : AP Tryz.prog 91 = true := by kernel_rfl
theorem ZA : AP Tryz.prog 92 = true := by kernel_rfl
theorem Ze : AP Tryz.prog 93 = true := by kernel_rfl
theorem ZF : AP Tryz.prog 94 = true := by kernel_rfl
theorem YH : AP Tryz.prog 95 = true := by kernel_rfl
theorem Zh : AP Tryz.prog 96 = true := by kernel_rfl
theorem Zx : AP Tryz.prog 97 = true := by kernel_rfl
theorem XB : AP Tryz.prog 98 = true := by kernel_rfl
theorem XD : AP Tryz.prog 99 = true := by kernel_rfl
theorem OO : NP Tryz.prog 106 .u64 = true := by kernel_rfl
theorem QI : NP Tryz.prog 131 .u32 = true := by kernel_rfl
theorem Wd : NP Tryz.prog 133 .u64 = true := by kernel_rfl
theorem XC : NP Tryz.prog 144 .u64 = true := by kernel_rfl
theorem S5 : NP Tryz.prog 3 .i64 = true := by kernel_rfl
theorem YA : NP Tryz.prog 5 .u8 = true := by kernel_rfl
theorem Wx : Tryz.prog.underlying 9 = some .string := by kernel_rfl
theorem RW : Tryz.prog.underlying 93 = some (.map 9 4) := by kernel_rfl
theorem OT : IC Tryz.prog 113 = some [(0, 1), (1, 1), (2, 1)] := by kernel_rfl
theorem X7 : IC Tryz.prog 30 = some [(0, 1), (1, 1), (2, 1), (3, 1)] := by kernel_rfl
theorem Tk : IC Tryz.prog 40 = some [(0, 1), (1, 1), (2, 1)] := by kernel_rfl
theorem HQ : IC Tryz.prog 50 = some [(0, 1), (1, 1), (2, 1)] := by kernel_rfl
theorem Xo : IC Tryz.prog 76 = some [(0, 1), (1, 1), (2, 1), (3, 1), (4, 1), (5, 1)] := by kernel_rfl
theorem Fe : sliceB Tryz.prog 100 4 = true := by kernel_rfl
theorem GG : sliceB Tryz.prog 116 113 = true := by kernel_rfl
theorem IA : sliceB Tryz.prog 22 5 = true := by kernel_rfl
theorem TV : sliceB Tryz.prog 23 73 = true := by kernel_rfl
theorem Do : sliceB Tryz.prog 26 40 = true := by kernel_rfl
theorem AJ : sliceB Tryz.prog 27 3 = true := by kernel_rfl
theorem Ed : sliceB Tryz.prog 28 76 = true := by kernel_rfl
theorem AM : sliceB Tryz.prog 34 50 = true := by kernel_rfl
theorem C4 : sliceB Tryz.prog 48 97 = true := by kernel_rfl
theorem Gg : sliceB Tryz.prog 74 100 = true := by kernel_rfl
theorem QO : (Tryz.prog.underlying 106).isSome = true := by kernel_rfl
theorem P8 : (Tryz.prog.underlying 131).isSome = true := by kernel_rfl
theorem Uy : (Tryz.prog.underlying 133).isSome = true := by kernel_rfl
theorem W0 : (Tryz.prog.underlying 3).isSome = true := by kernel_rfl
theorem Vg : (Tryz.prog.underlying 5).isSome = true := by kernel_rfl
theorem Zb : (Tryz.prog.underlying 97).isSome = true := by kernel_rfl
theorem VE : OV Tryz.prog 9 = true := by kernel_rfl
theorem Jz : Hw Tryz.prog 100 1 = true := by kernel_rfl
theorem HK : Hw Tryz.prog 113 3 = true := by kernel_rfl
theorem RX : Hw Tryz.prog 144 1 = true := by kernel_rfl
theorem Zp : Hw Tryz.prog 25 4 = true := by kernel_rfl
theorem UD : Hw Tryz.prog 27 1 = true := by kernel_rfl
theorem Zj : Hw Tryz.prog 28 1 = true := by kernel_rfl
theorem DA : Hw Tryz.prog 3 1 = true := by kernel_rfl
theorem DQ : Hw Tryz.prog 30 4 = true := by kernel_rfl
theorem QC : Hw Tryz.prog 4 1 = true := by kernel_rfl
theorem Ej : Hw Tryz.prog 40 3 = true := by kernel_rfl
theorem Zs : Hw Tryz.prog 48 1 = true := by kernel_rfl
theorem V1 : Hw Tryz.prog 5 1 = true := by kernel_rfl
theorem Ay : Hw Tryz.prog 50 3 = true := by kernel_rfl
theorem Ws : Hw Tryz.prog 73 6 = true := by kernel_rfl
theorem XT : Hw Tryz.prog 74 1 = true := by kernel_rfl
theorem Eb : Hw Tryz.prog 76 6 = true := by kernel_rfl
theorem FE : Hw Tryz.prog 97 1 = true := by kernel_rfl
theorem TI : EB Tryz.prog 100 = some (.slice none 0 0) := by kernel_rfl
theorem HT : EB Tryz.prog 113 = some (.agg #[.int .i64 0, .int .i64 0, .int .i64 0]) := by kernel_rfl
theorem Yh : EB Tryz.prog 144 = some (.int .u64 0) := by kernel_rfl
theorem KE : EB Tryz.prog 3 = some (.int .i64 0) := by kernel_rfl
theorem SM : EB Tryz.prog 30 = some (.agg #[.slice none 0 0, .slice none 0 0, .slice none 0 0, .slice none 0 0]) := by kernel_rfl
theorem VP : EB Tryz.prog 4 = some (.bool false) := by kernel_rfl
theorem HO : EB Tryz.prog 40 = some (.agg #[.int .i64 0, .int .i64 0, .int .i64 0]) := by kernel_rfl
theorem Yx : EB Tryz.prog 5 = some (.int .u8 0) := by kernel_rfl
theorem Cu : EB Tryz.prog 50 = some (.agg #[.slice none 0 0, .slice none 0 0, .slice none 0 0]) := by kernel_rfl
theorem Zc : EB Tryz.prog 73 = some (.agg #[.int .u8 0, .int .u8 0, .int .u8 0, .bool false, .int .u16 0, .int .u16 0]) := by kernel_rfl
theorem Km : EB Tryz.prog 76 = some (.agg #[.int .i64 0, .int .i64 0, .int .i64 0, .bool false, .slice none 0 0, .slice none 0 0]) := by kernel_rfl
theorem PP : EB Tryz.prog 97 = some (.int .u8 0) := by kernel_rfl
open IntKind renaming wrap → wI
set_option maxRecDepth 10000
theorem Ib (N : Nat) (p0 : List Int) (p1 : Int) (r : Int) (h : DT N p0 p1 = some r) : AE Tryz.prog 32 [pD (.sl (p0.map Bg)), iD p1] [] (iD r) := by
 unfold DT at h
 refine Ar (n := 14) (rs := [.tmp 4]) Tryz.func32 rfl rfl rfl (A7 rfl) (A7 rfl) rfl fun w0 S0 => ?_
 refine Ab (Aa Ac rfl (qa rfl (Ad (Ab (Ab (Aa Ac rfl (qm rfl (qm rfl (AZ IA rfl (A1 rfl (Ad ?_)))))))))))
 refine Ap rfl (fun c1 => ?_) (fun c1 => ?_)
 ·have h := Am c1 h
  refine Ab (Aa Ac rfl (qm rfl (qm rfl ?_)))
  obtain ⟨v2, a2, b2, h⟩ := Aj h
  refine qi IA V1 a2 (Ah b2) rfl (qk Xk rfl (G5 Vg S5 rfl (qa rfl (Ad ?_))))
  obtain rfl := sj h
  refine Al (sm [] [(4, iD ((wI .i64 v2)))] [] rfl rfl) (Az ?_)
  exact ⟨⟨[_], ⟨.tmp _ _ rfl, tv⟩, rfl⟩, tv⟩
 ·have h := An c1 h
  refine Aq (Ab (Aa Ac rfl (qa rfl (Ad ?_))))
  obtain rfl := sj h
  refine Al (sm [] [(4, iD 0)] [] rfl rfl) (Az ?_)
  exact ⟨⟨[_], ⟨.tmp _ _ rfl, tv⟩, rfl⟩, tv⟩
theorem Cm (N : Nat) (p0 : AI) (r : Bool) (h : Ba N p0 = some r) : AE Tryz.prog 33 [.e (.agg [iC p0.fKind, iC p0.fFrom, iC p0.fTo, .pure (.val (.bool p0.fAware)), sC (p0.fOK.map (EN eB)), sC (p0.fRewrite.map (EN eB))])] [] (bD r) := by
 unfold Ba at h
 refine Ar (n := 11) (rs := [.tmp 2]) Tryz.func33 rfl rfl rfl (A7 rfl) (A7 rfl) rfl fun w0 S0 => ?_
 refine Ab (Aa Ac rfl (qb rfl (qa rfl (Ad ?_))))
 refine AU h (fun v1 => mk [(2, bD v1)] []) (fun j1 h => ?_) (fun v1 h => ?_)
 ·refine Aa Ac rfl (qf FV rfl (ql Cs rfl (BM rfl (qm rfl ?_))))
  refine AG (t := 6) rfl (fun c2 => ?_) (fun c2 => ?_)
  ·have h := Am c2 h
   refine qn rfl (qn rfl (qn rfl (qp rfl (qa rfl (Ad ?_)))))
   exact Aw _ h (sm [] _ _ rfl rfl)
  ·have h := An c2 h
   refine qf FV rfl (ql Cs rfl (BM rfl (qp rfl (qa rfl (Ad ?_)))))
   exact Aw _ h (sm [] _ _ rfl rfl)
 ·obtain rfl := sj h
  refine Al (sm [] [(2, bD v1)] [] rfl rfl) (Az ?_)
  exact ⟨⟨[_], ⟨.tmp _ _ rfl, tv⟩, rfl⟩, tv⟩
theorem Ie (N : Nat) (p0 : Int) (p1 : Int) (p2 : Int) (p3 : Bool) (r : (List (List Bool))) (h : DW N p0 p1 p2 p3 = some r) : AE Tryz.prog 34 [iD p0, iD p1, pD (.val (.int .u16 p2)), bD p3] [(1, r.map (EN eB))] (oD (.own 0)) := by
 unfold DW at h
 refine Ar (n := 47) (rs := [.tmp 8]) Tryz.func34 rfl rfl rfl (A7 rfl) (A7 rfl) rfl fun w0 S0 => ?_
 refine Ab (Aa Ac rfl (qa rfl (Ad (Ab (Aa Ac rfl (qa rfl (Ad (Ab (Ab (Aa Ac rfl (qa rfl (Ad ?_))))))))))))
 refine AK (L := Cl N p0 p1 p2 p3) h (fun v1 => mk [(0, iD p0), (1, iD p1), (2, pD (.val (.int .u16 p2))), (3, bD p3), (9, oD (.own 2001)), (10, iD v1.2)] [(2001, .vec 1 (v1.1.map (EN eB)))]) (fun v2 => mk [(9, oD (.own 2002))] [(2002, .vec 1 (v2.map (EN eB)))]) (fun _ _ => rfl) ((Bn 9 2010 1 rfl rfl rfl).trans (sm [(2001, 2010)] _ _ rfl rfl)) (fun j1 n1 v1 h => ?_) (fun v2 s h hs => ?_)
 ·unfold Cl at h
  refine Ab (Ab (Aa Ac rfl (qm rfl (qm rfl (A1 rfl (Ad ?_))))))
  refine Ap rfl (fun c3 => ?_) (fun c3 => ?_)
  ·have h := Am c3 h
   refine Aq (Ab (AR (Ab (Aa Ac rfl (qa rfl (Ad (Ab (Ab (Aa Ac rfl (qa rfl (Ad ?_)))))))))))
   refine AK (L := Ci N p1 p2 p3 v1) h (fun v4 => mk [(0, iD p0), (1, iD p1), (2, pD (.val (.int .u16 p2))), (3, bD p3), (9, oD (.own 2003)), (10, iD v1.2), (11, oD (.own 2004)), (12, iD v4.2)] [(2003, .vec 1 (v1.1.map (EN eB))), (2004, .vec 1 (v4.1.map eB))]) (fun v5 => mk [(0, iD p0), (1, iD p1), (2, pD (.val (.int .u16 p2))), (3, bD p3), (9, oD (.own 2005)), (10, iD v1.2), (11, oD (.own 2006))] [(2005, .vec 1 (v1.1.map (EN eB))), (2006, .vec 1 (v5.map eB))]) (fun _ _ => rfl) ((Bn 11 2009 1 rfl rfl rfl).trans (sm [(2003, 2001), (2004, 2009)] _ _ rfl rfl)) (fun j4 n4 v4 h => ?_) (fun v5 s h hs => ?_)
   ·unfold Ci at h
    refine Ab (Ab (Aa Ac rfl (qm rfl (qm rfl (A1 rfl (Ad ?_))))))
    refine Ap rfl (fun c6 => ?_) (fun c6 => ?_)
    ·have h := Am c6 h
     refine Aq ?_
     refine AU h (fun v7 => mk [(0, iD p0), (1, iD p1), (2, pD (.val (.int .u16 p2))), (3, bD p3), (9, oD (.own 2007)), (10, iD v1.2), (11, oD (.own 2008)), (12, iD v4.2)] [(2007, .vec 1 (v1.1.map (EN eB))), (2008, .vec 1 (v7.map eB))]) (fun j7 h => ?_) (fun v7 h => ?_)
     ·refine AR (Aa Ac rfl (qm rfl (qm rfl (qm rfl ?_))))
      refine AG (t := 25) rfl (fun c8 => ?_) (fun c8 => ?_)
      ·have h := Am c8 h
       refine qm rfl (qm rfl (BM rfl (qp rfl (qm rfl ?_))))
       refine AG (t := 30) rfl (fun c9 => ?_) (fun c9 => ?_)
       ·have h := Am c9 h
        refine qn rfl (qn rfl (qn rfl (qn rfl (qn rfl (qn rfl (qn rfl (qn rfl (qp rfl (D6 Fe QC VP rfl ?_)))))))))
        obtain ⟨c10, h⟩ := AN h
        refine Da (f := eB) Fe Fe QC Ww VP c10 rfl (qa rfl (Ad ?_))
        exact Aw _ h (sm [(2007, 2003), (2008, 41)] _ _ rfl rfl)
       ·have h := An c9 h
        refine qm rfl (qm rfl (Iz rfl (qm rfl (AY rfl ?_))))
        obtain ⟨c11, h⟩ := AN h
        refine Hi rfl c11 (Ky rfl (by decide) (BM rfl (qp rfl (D6 Fe QC VP rfl ?_))))
        obtain ⟨c12, h⟩ := AN h
        refine Da (f := eB) Fe Fe QC Ww VP c12 rfl (qa rfl (Ad ?_))
        exact Aw _ h (sm [(2007, 2003), (2008, 41)] _ _ rfl rfl)
      ·have h := An c8 h
       refine qn rfl (qn rfl (qn rfl (qp rfl (qm rfl (qm rfl (qm rfl (Iz rfl (qm rfl (AY rfl ?_)))))))))
       obtain ⟨c13, h⟩ := AN h
       refine Hi rfl c13 (Ky rfl (by decide) (BM rfl (qp rfl (D6 Fe QC VP rfl ?_))))
       obtain ⟨c14, h⟩ := AN h
       refine Da (f := eB) Fe Fe QC Ww VP c14 rfl (qa rfl (Ad ?_))
       exact Aw _ h (sm [(2007, 2003), (2008, 41)] _ _ rfl rfl)
     ·refine Aa Ac rfl (qm rfl (AY rfl (qa rfl (Ad ?_))))
      exact Aw _ h (sm [(2003, 2007), (2004, 2008)] _ _ rfl rfl)
    ·have h := An c6 h
     refine AW ?_
     exact Aw _ h (sm [(2005, 2003), (2006, 2004)] _ _ rfl rfl)
   ·refine Al hs (Aa Ac rfl (qm rfl (qm rfl (CL (A4 2006 _ _ rfl rfl) (D6 Gg Jz TI rfl ?_)))))
    obtain ⟨c15, h⟩ := AN h
    refine Da (f := (EN eB)) Gg Gg Jz Wz TI c15 rfl (qa rfl (Ad (Aa Ac rfl (qm rfl (AY rfl (qa rfl (Ad ?_)))))))
    exact Aw _ h (sm [(2001, 45)] _ _ rfl rfl)
  ·have h := An c3 h
   refine AW ?_
   exact Aw _ h (sm [(2002, 2001)] _ _ rfl rfl)
 ·refine Al hs (Ab (Aa Ac rfl (qm rfl (qa rfl (Ad ?_)))))
  obtain rfl := sj h
  refine Al (sm [(1000, 2002)] [(8, oD (.own 1000))] [(1000, .vec 1 (v2.map (EN eB)))] rfl rfl) (Az ?_)
  exact ⟨⟨[_], ⟨.tmp _ _ rfl, tv⟩, rfl⟩, ⟨rfl, tv⟩⟩
theorem L1 (N : Nat) (p0 : Cg) (r : Ag × Bool) (h : E1 N p0 = some r) : AE Tryz.prog 9 [.e (.agg [sC (p0.fVersions.map Bg), sC (p0.fNow.map Bg), sC (p0.fTarget.map Bg), sC (p0.fLinks.map Cf)])] [(1, r.1.fVersions.map Ai), (1, r.1.fNow.map Ai), (1, r.1.fTarget.map Ai), (6, r.1.fTables.map Ao)] (.tup [.agg [.own 0, .own 1, .own 2, .own 3], .one (.pure (.val (.bool r.2)))]) := by
 unfold E1 at h
 refine Ar (n := 152) (rs := [.cell 2 30, .tmp 3]) Tryz.func9 rfl rfl rfl (A7 rfl) (A7 rfl) rfl fun w0 S0 => ?_
 refine Ab (Aa Ac rfl (qb rfl (qz SM rfl (qa rfl (Ad (Ab ?_))))))
 refine AU h (fun v1 => mk [(1, oD (.ptr 1 0)), (2, oD (.ptr 2 0)), (19, bD v1)] [(1, .box [sC (p0.fVersions.map Bg), sC (p0.fNow.map Bg), sC (p0.fTarget.map Bg), sC (p0.fLinks.map Cf)]), (2, .box [.pure (.nil0), .pure (.nil0), .pure (.nil0), .pure (.nil0)])]) (fun j1 h => ?_) (fun v1 h => ?_)
 ·refine Aa Ac rfl (qf PB rfl (ql TN rfl (AZ IA rfl (Fh rfl (qm rfl ?_)))))
  refine AG (t := 14) rfl (fun c2 => ?_) (fun c2 => ?_)
  ·have h := Am c2 h
   refine qn rfl (qn rfl (qn rfl (qn rfl (qp rfl (Ad ?_)))))
   exact Aw _ h (sm [] _ _ rfl rfl)
  ·have h := An c2 h
   refine qf PT rfl (ql Wv rfl (AZ TV rfl (Fh rfl (qp rfl (Ad ?_)))))
   exact Aw _ h (sm [] _ _ rfl rfl)
 ·refine Ap rfl (fun c3 => ?_) (fun c3 => ?_)
  ·have h := Am c3 h
   refine Ab (Aa Ac rfl (BO SM X7 rfl (qs DQ rfl (qa rfl (Ad ?_)))))
   obtain rfl := sj h
   refine Al ((AF 2 0 2001 1 _ rfl rfl rfl rfl).trans ((AF 2 1 2002 1 _ rfl rfl rfl rfl).trans ((AF 2 2 2003 1 _ rfl rfl rfl rfl).trans ((AF 2 3 2004 6 _ rfl rfl rfl rfl).trans (sm [(1000, 2001), (1001, 2002), (1002, 2003), (1003, 2004)] [(2, oD (.ptr 2 0)), (3, bD false)] [(2, .box [.own 1000, .own 1001, .own 1002, .own 1003]), (1000, .vec 1 ((([] : List Int)).map Ai)), (1001, .vec 1 ((([] : List Int)).map Ai)), (1002, .vec 1 ((([] : List Int)).map Ai)), (1003, .vec 6 ((([] : List AI)).map Ao))] rfl rfl))))) (Az ?_)
   exact ⟨⟨[_, _], ⟨.cellN _ _ _ _ _ _ _ rfl rfl Ee DQ rfl rfl (Jb rfl), ⟨.tmp _ _ rfl, tv⟩⟩, rfl⟩, ⟨rfl, rfl, rfl, rfl, tv⟩⟩
  ·have h := An c3 h
   refine Aq (Ab (Aa Ac rfl (qz SM rfl (Ad (Ab (Ab (Aa Ac rfl (qa rfl (Ad ?_)))))))))
   refine AK (L := CE N p0) h (fun v4 => mk [(1, oD (.ptr 1 0)), (2, oD (.ptr 2 0)), (4, oD (.ptr 4 0)), (5, iD v4.2.2.2)] [(1, .box [sC (p0.fVersions.map Bg), sC (p0.fNow.map Bg), sC (p0.fTarget.map Bg), sC (p0.fLinks.map Cf)]), (2, .box [.pure (.nil0), .pure (.nil0), .pure (.nil0), .pure (.nil0)]), (4, .box [.own 2005, .own 2006, .own 2007, .pure (.nil0)]), (2005, .vec 1 (v4.1.map Ai)), (2006, .vec 1 (v4.2.1.map Ai)), (2007, .vec 1 (v4.2.2.1.map Ai))]) (fun v5 => mk [(1, oD (.ptr 1 0)), (2, oD (.ptr 2 0)), (4, oD (.ptr 4 0))] [(1, .box [sC (p0.fVersions.map Bg), sC (p0.fNow.map Bg), sC (p0.fTarget.map Bg), sC (p0.fLinks.map Cf)]), (2, .box [.pure (.nil0), .pure (.nil0), .pure (.nil0), .pure (.nil0)]), (4, .box [.own 2008, .own 2009, .own 2010, .pure (.nil0)]), (2008, .vec 1 (v5.1.map Ai)), (2009, .vec 1 (v5.2.1.map Ai)), (2010, .vec 1 (v5.2.2.map Ai))]) (fun _ _ => rfl) ((AF 4 0 2011 1 _ rfl rfl rfl rfl).trans ((AF 4 1 2012 1 _ rfl rfl rfl rfl).trans ((AF 4 2 2013 1 _ rfl rfl rfl rfl).trans (sm [(2005, 2011), (2006, 2012), (2007, 2013)] _ _ rfl rfl)))) (fun j4 n4 v4 h => ?_) (fun v5 s h hs => ?_)
   ·unfold CE at h
    refine Ab (Ab (Aa Ac rfl (qm rfl (qf PB rfl (ql TN rfl (AZ IA rfl (A1 rfl (Ad ?_))))))))
    refine Ap rfl (fun c6 => ?_) (fun c6 => ?_)
    ·have h := Am c6 h
     refine Aq (Ab (AR (Ab (Aa Ac rfl (qf PB rfl (ql TN rfl (qm rfl ?_)))))))
     obtain ⟨v7, a7, b7, h⟩ := Aj h
     refine qi IA V1 a7 (Ah b7) rfl (qk Xk rfl (Ky rfl (by decide) (G5 Vg S5 rfl (AY rfl (qa rfl (Ad (Ab (Aa Ac rfl (qf BB rfl (ql Bh rfl (qm rfl (D6 AJ DA KE rfl ?_))))))))))))
     obtain ⟨c8, h⟩ := AN h
     refine Da (f := Ai) AJ AJ DA LQ KE c8 rfl (qf BB rfl (qs UD rfl (Ad (Ab (Aa Ac rfl (qf GE rfl (ql Bh rfl (qf Vm rfl (ql TN rfl (qm rfl ?_))))))))))
     obtain ⟨v9, a9, h⟩ := bind_some h
     refine AH [] (Ib N p0.fNow v4.2.2.2 v9 a9) Yk rfl (qm rfl ?_)
     obtain ⟨c10, h⟩ := AN h
     refine Ky rfl c10 (D6 AJ DA KE rfl ?_)
     obtain ⟨c11, h⟩ := AN h
     refine Da (f := Ai) AJ AJ DA LQ KE c11 rfl (qf GE rfl (qs UD rfl (AQ (by kernel_rfl) (Aa Ac rfl (qf Je rfl (ql Bh rfl (qf UV rfl (ql TN rfl (qm rfl ?_)))))))))
     obtain ⟨v12, a12, h⟩ := bind_some h
     refine AH [] (Ib N p0.fTarget v4.2.2.2 v12 a12) Yk rfl (qm rfl ?_)
     obtain ⟨c13, h⟩ := AN h
     refine Ky rfl c13 (D6 AJ DA KE rfl ?_)
     obtain ⟨c14, h⟩ := AN h
     refine Da (f := Ai) AJ AJ DA LQ KE c14 rfl (qf Je rfl (qs UD rfl (AQ (by kernel_rfl) (Aa Ac rfl (qm rfl (AY rfl (qa rfl (Ad ?_))))))))
     exact Aw _ h (sm [(2005, 40), (2006, 51), (2007, 62)] _ _ rfl rfl)
    ·have h := An c6 h
     refine AW ?_
     exact Aw _ h (sm [(2008, 2005), (2009, 2006), (2010, 2007)] _ _ rfl rfl)
   ·refine Al hs (Ab (Ab (Aa Ac rfl (qa rfl (Ad ?_)))))
    refine AK (L := BD N p0 v5) h (fun v15 => mk [(1, oD (.ptr 1 0)), (2, oD (.ptr 2 0)), (4, oD (.ptr 4 0)), (7, iD v15.2)] [(1, .box [sC (p0.fVersions.map Bg), sC (p0.fNow.map Bg), sC (p0.fTarget.map Bg), sC (p0.fLinks.map Cf)]), (2, .box [.pure (.nil0), .pure (.nil0), .pure (.nil0), .pure (.nil0)]), (4, .box [.own 2014, .own 2015, .own 2016, .own 2017]), (2014, .vec 1 (v5.1.map Ai)), (2015, .vec 1 (v5.2.1.map Ai)), (2016, .vec 1 (v5.2.2.map Ai)), (2017, .vec 6 (v15.1.map Ao))]) (fun v16 => mk [(2, oD (.ptr 2 0)), (4, oD (.ptr 4 0))] [(2, .box [.pure (.nil0), .pure (.nil0), .pure (.nil0), .pure (.nil0)]), (4, .box [.own 2018, .own 2019, .own 2020, .own 2021]), (2018, .vec 1 (v5.1.map Ai)), (2019, .vec 1 (v5.2.1.map Ai)), (2020, .vec 1 (v5.2.2.map Ai)), (2021, .vec 6 (v16.map Ao))]) (fun _ _ => rfl) ((AF 4 3 2039 6 _ rfl rfl rfl rfl).trans (sm [(2014, 2008), (2015, 2009), (2016, 2010), (2017, 2039)] _ _ rfl rfl)) (fun j15 n15 v15 h => ?_) (fun v16 s h hs => ?_)
    ·unfold BD at h
     refine Ab ?_
     refine AU h (fun v17 => mk [(1, oD (.ptr 1 0)), (2, oD (.ptr 2 0)), (4, oD (.ptr 4 0)), (7, iD v15.2), (74, bD v17)] [(1, .box [sC (p0.fVersions.map Bg), sC (p0.fNow.map Bg), sC (p0.fTarget.map Bg), sC (p0.fLinks.map Cf)]), (2, .box [.pure (.nil0), .pure (.nil0), .pure (.nil0), .pure (.nil0)]), (4, .box [.own 2022, .own 2023, .own 2024, .own 2025]), (2022, .vec 1 (v5.1.map Ai)), (2023, .vec 1 (v5.2.1.map Ai)), (2024, .vec 1 (v5.2.2.map Ai)), (2025, .vec 6 (v15.1.map Ao))]) (fun j17 h => ?_) (fun v17 h => ?_)
     ·refine Aa Ac rfl (qm rfl (qf PT rfl (ql Wv rfl (AZ TV rfl (A1 rfl (qm rfl ?_))))))
      refine AG (t := 69) rfl (fun c18 => ?_) (fun c18 => ?_)
      ·have h := Am c18 h
       refine qf BB rfl (ql Bh rfl (Dh AJ rfl (Fh rfl (qp rfl (Ad ?_)))))
       exact Aw _ h (sm [(2022, 2014), (2023, 2015), (2024, 2016), (2025, 2017)] _ _ rfl rfl)
      ·have h := An c18 h
       refine qn rfl (qn rfl (qn rfl (qn rfl (qp rfl (Ad ?_)))))
       exact Aw _ h (sm [(2022, 2014), (2023, 2015), (2024, 2016), (2025, 2017)] _ _ rfl rfl)
     ·refine Ap rfl (fun c19 => ?_) (fun c19 => ?_)
      ·have h := Am c19 h
       refine Aq (Ab (AR (Ab (Aa Ac rfl (qf PT rfl (ql Wv rfl (qm rfl ?_)))))))
       obtain ⟨v20, a20, b20, h⟩ := Aj h
       refine qi TV Ws a20 (Ah b20) rfl (qK YO Ws rfl (qz Zc rfl (qs Ws rfl (Ad (Ab (Aa Ac rfl (qf UQ rfl (ql Xk rfl (Ky rfl (by decide) (G5 Vg S5 rfl (AY rfl (qf Vw rfl (ql Xk rfl (G5 Vg S5 rfl (qf BB rfl (ql Bh rfl (Dh AJ rfl ?_)))))))))))))))))
       obtain ⟨c21, h⟩ := AN h
       refine Ky rfl c21 (qf Vn rfl (ql Xk rfl (G5 Vg S5 rfl (qf BB rfl (ql Bh rfl (Dh AJ rfl ?_))))))
       obtain ⟨c22, h⟩ := AN h
       refine Ky rfl c22 (BO Km Xo rfl (qz Km rfl (qs Eb rfl (AQ (by kernel_rfl) ?_))))
       refine AU h (fun v23 => mk [(1, oD (.ptr 1 0)), (2, oD (.ptr 2 0)), (4, oD (.ptr 4 0)), (7, iD v15.2), (8, oD (.ptr 8 0)), (9, oD (.ptr 9 0))] [(1, .box [sC (p0.fVersions.map Bg), sC (p0.fNow.map Bg), sC (p0.fTarget.map Bg), sC (p0.fLinks.map Cf)]), (2, .box [.pure (.nil0), .pure (.nil0), .pure (.nil0), .pure (.nil0)]), (4, .box [.own 2026, .own 2027, .own 2028, .own 2029]), (8, .box [.pure (.val (.int .u8 v20.fKind)), .pure (.val (.int .u8 v20.fFrom)), .pure (.val (.int .u8 v20.fTo)), .pure (.val (.bool v20.fAware)), .pure (.val (.int .u16 v20.fBad)), .pure (.val (.int .u16 v20.fLost))]), (9, .box [iC ((wI .i64 (1 + (wI .i64 ((Int.tmod v20.fKind 4)))))), iC ((Int.tmod ((wI .i64 v20.fFrom)) ((v5.1.length : Int)))), iC ((Int.tmod ((wI .i64 v20.fTo)) ((v5.1.length : Int)))), .pure (.val (.bool v23)), .pure (.nil0), .pure (.nil0)]), (2026, .vec 1 (v5.1.map Ai)), (2027, .vec 1 (v5.2.1.map Ai)), (2028, .vec 1 (v5.2.2.map Ai)), (2029, .vec 6 (v15.1.map Ao))]) (fun j23 h => ?_) (fun v23 h => ?_)
       ·refine Aa Ac rfl (qf VM rfl (ql Sx rfl (qm rfl ?_)))
        refine AG (t := 104) rfl (fun c24 => ?_) (fun c24 => ?_)
        ·have h := Am c24 h
         refine qL Hn Eb rfl ?_
         obtain ⟨v25, a25, h⟩ := bind_some h
         refine AH [] (Cm N ((AI.mk ((wI .i64 (1 + (wI .i64 ((Int.tmod v20.fKind 4)))))) ((Int.tmod ((wI .i64 v20.fFrom)) ((v5.1.length : Int)))) ((Int.tmod ((wI .i64 v20.fTo)) ((v5.1.length : Int)))) false (([] : List (List Bool))) (([] : List (List Bool))))) v25 a25) P5 rfl (B7 rfl (qp rfl (qf IF rfl (qs QC rfl (Ad ?_)))))
         exact Aw _ h (sm [(2026, 2022), (2027, 2023), (2028, 2024), (2029, 2025)] _ _ rfl rfl)
        ·have h := An c24 h
         refine qn rfl (qn rfl (qn rfl (qp rfl (qf IF rfl (qs QC rfl (Ad ?_))))))
         exact Aw _ h (sm [(2026, 2022), (2027, 2023), (2028, 2024), (2029, 2025)] _ _ rfl rfl)
       ·refine Ab (Aa Ac rfl (qf BB rfl (ql Bh rfl (qf Db rfl (ql Cs rfl ?_)))))
        obtain ⟨v26, a26, b26, h⟩ := Aj h
        refine qI AJ DA a26 (Ah b26) rfl (qj Cs (Ah b26) rfl (qf BB rfl (ql Bh rfl (qf H2 rfl (ql Cs rfl ?_)))))
        obtain ⟨v27, a27, b27, h⟩ := Aj h
        refine qI AJ DA a27 (Ah b27) rfl (qj Cs (Ah b27) rfl (qf VT rfl (ql X8 rfl ?_)))
        obtain ⟨v28, a28, h⟩ := bind_some h
        refine AH [2030] (Ie N v26 v27 v20.fBad false v28 a28) X5 rfl (qf Jv rfl (qs XT rfl (AQ (by kernel_rfl) ?_)))
        refine AU h (fun v29 => mk [(1, oD (.ptr 1 0)), (2, oD (.ptr 2 0)), (4, oD (.ptr 4 0)), (7, iD v15.2), (9, oD (.ptr 9 0))] [(1, .box [sC (p0.fVersions.map Bg), sC (p0.fNow.map Bg), sC (p0.fTarget.map Bg), sC (p0.fLinks.map Cf)]), (2, .box [.pure (.nil0), .pure (.nil0), .pure (.nil0), .pure (.nil0)]), (4, .box [.own 2031, .own 2032, .own 2033, .own 2034]), (9, .box [iC ((wI .i64 (1 + (wI .i64 ((Int.tmod v20.fKind 4)))))), iC ((Int.tmod ((wI .i64 v20.fFrom)) ((v5.1.length : Int)))), iC ((Int.tmod ((wI .i64 v20.fTo)) ((v5.1.length : Int)))), .pure (.val (.bool v23)), .own 2035, .own 2036]), (2031, .vec 1 (v5.1.map Ai)), (2032, .vec 1 (v5.2.1.map Ai)), (2033, .vec 1 (v5.2.2.map Ai)), (2034, .vec 6 (v15.1.map Ao)), (2035, .vec 1 (v28.map (EN eB))), (2036, .vec 1 (v29.map (EN eB)))]) (fun j29 h => ?_) (fun v29 h => ?_)
        ·refine Ab (Aa Ac rfl (qf FV rfl (ql Cs rfl (BM rfl (Ad ?_)))))
         refine Ap rfl (fun c30 => ?_) (fun c30 => ?_)
         ·have h := Am c30 h
          refine Aa Ac rfl (qf BB rfl (ql Bh rfl (qf Db rfl (ql Cs rfl ?_))))
          obtain ⟨v31, a31, b31, h⟩ := Aj h
          refine qI AJ DA a31 (Ah b31) rfl (qj Cs (Ah b31) rfl (qf BB rfl (ql Bh rfl (qf Db rfl (ql Cs rfl ?_)))))
          obtain ⟨v32, a32, b32, h⟩ := Aj h
          refine qI AJ DA a32 (Ah b32) rfl (qj Cs (Ah b32) rfl (qf UY rfl (ql X8 rfl ?_)))
          obtain ⟨v33, a33, h⟩ := bind_some h
          refine AH [2037] (Ie N v31 v32 v20.fLost true v33 a33) X5 rfl (qf GC rfl (qs XT rfl (AQ (by kernel_rfl) ?_)))
          exact Aw _ h (sm [(2031, 2026), (2032, 2027), (2033, 2028), (2034, 2029), (2035, 2030), (2036, 2037)] _ _ rfl rfl)
         ·have h := An c30 h
          refine Aq ?_
          exact Aw _ h ((AF 9 5 2038 1 _ rfl rfl rfl rfl).trans (sm [(2031, 2026), (2032, 2027), (2033, 2028), (2034, 2029), (2035, 2030), (2036, 2038)] _ _ rfl rfl))
        ·refine Aa Ac rfl (qf CO rfl (ql He rfl (qL Hn Eb rfl (CL (A4 2035 _ _ rfl rfl) (CL (A4 2036 _ _ rfl rfl) (D6 Ed Eb Km rfl ?_))))))
         obtain ⟨c34, h⟩ := AN h
         refine Da (f := Ao) Ed Ed Eb XR Km c34 rfl (qf CO rfl (qs Zj rfl (Ad (Aa Ac rfl (qm rfl (AY rfl (qa rfl (Ad ?_))))))))
         exact Aw _ h (sm [(2014, 2031), (2015, 2032), (2016, 2033), (2017, 149)] _ _ rfl rfl)
      ·have h := An c19 h
       refine AW ?_
       exact Aw _ h (sm [(2018, 2022), (2019, 2023), (2020, 2024), (2021, 2025)] _ _ rfl rfl)
    ·refine Al hs (Ab (Aa Ac rfl (qL Ee DQ rfl (qs DQ rfl (qa rfl (Ad ?_))))))
     obtain rfl := sj h
     refine Al (sm [(1000, 2018), (1001, 2019), (1002, 2020), (1003, 2021)] [(2, oD (.ptr 2 0)), (3, bD true)] [(2, .box [.own 1000, .own 1001, .own 1002, .own 1003]), (1000, .vec 1 (v5.1.map Ai)), (1001, .vec 1 (v5.2.1.map Ai)), (1002, .vec 1 (v5.2.2.map Ai)), (1003, .vec 6 (v16.map Ao))] rfl rfl) (Az ?_)
     exact ⟨⟨[_, _], ⟨.cellN _ _ _ _ _ _ _ rfl rfl Ee DQ rfl rfl (Jb rfl), ⟨.tmp _ _ rfl, tv⟩⟩, rfl⟩, ⟨rfl, rfl, rfl, rfl, tv⟩⟩
theorem D9 (N : Nat) (p0 : Bool) (r : Ag) (h : CJ N p0 = some r) : AE Tryz.prog 35 [bD p0] [(1, r.fVersions.map Ai), (1, r.fNow.map Ai), (1, r.fTarget.map Ai), (6, r.fTables.map Ao)] (.e (.agg [.own 0, .own 1, .own 2, .own 3])) := by
 unfold CJ at h
 refine Ar (n := 15) (rs := [.cell 2 30]) Tryz.func35 rfl rfl rfl (A7 rfl) (A7 rfl) rfl fun w0 S0 => ?_
 refine Ab (Aa Ac rfl (qz SM rfl (Ad (Ab (Aa Ac rfl (D6 Fe QC VP rfl (qm rfl (D6 Fe QC VP rfl (CL (A4 4 _ _ rfl rfl) (CL (A4 6 _ _ rfl rfl) (D6 Gg Jz TI rfl (BO Km Xo rfl (qz Km rfl (qs Eb rfl (Ad (Ab (Aa Ac rfl (D6 AJ DA KE rfl (D6 AJ DA KE rfl (D6 AJ DA KE rfl (qL Hn Eb rfl (CL (A4 7 _ _ rfl rfl) (D6 Ed Eb Km rfl (BO SM X7 rfl (qs DQ rfl (Ad ?_))))))))))))))))))))))))))
 obtain rfl := sj h
 refine Al (sm [(1000, 9), (1001, 10), (1002, 11), (1003, 13)] [(2, oD (.ptr 2 0))] [(2, .box [.own 1000, .own 1001, .own 1002, .own 1003]), (1000, .vec 1 ((([2] : List Int)).map Ai)), (1001, .vec 1 ((([0] : List Int)).map Ai)), (1002, .vec 1 ((([1] : List Int)).map Ai)), (1003, .vec 6 ((([(AI.mk 1 0 0 false (([([true, true] : List Bool), ([p0, true] : List Bool)] : List (List Bool))) (([] : List (List Bool))))] : List AI)).map Ao))] rfl rfl) (Az ?_)
 exact ⟨⟨[_], ⟨.cellN _ _ _ _ _ _ _ rfl rfl Ee DQ rfl rfl (Jb rfl), tv⟩, rfl⟩, ⟨rfl, rfl, rfl, rfl, tv⟩⟩
theorem Hb (N : Nat) (p0 : Int) (p1 : Int) (r : Bool) (h : D2 N p0 p1 = some r) : AE Tryz.prog 100 [iD p0, iD p1] [] (bD r) := by
 unfold D2 at h
 refine Ar (n := 12) (rs := [.tmp 4]) Tryz.func100 rfl rfl rfl (A7 rfl) (A7 rfl) rfl fun w0 S0 => ?_
 refine Ab (Aa Ac rfl (qa rfl (Ad ?_)))
 refine AU h (fun v1 => mk [(4, bD v1)] []) (fun j1 h => ?_) (fun v1 h => ?_)
 ·refine Aa Ac rfl (qm rfl (Dz rfl (qm rfl ?_)))
  refine AG (t := 7) rfl (fun c2 => ?_) (fun c2 => ?_)
  ·have h := Am c2 h
   refine qm rfl (qm rfl (A1 rfl (qp rfl (qa rfl (Ad ?_)))))
   exact Aw _ h (sm [] _ _ rfl rfl)
  ·have h := An c2 h
   refine qn rfl (qn rfl (qn rfl (qp rfl (qa rfl (Ad ?_)))))
   exact Aw _ h (sm [] _ _ rfl rfl)
 ·obtain rfl := sj h
  refine Al (sm [] [(4, bD v1)] [] rfl rfl) (Az ?_)
  exact ⟨⟨[_], ⟨.tmp _ _ rfl, tv⟩, rfl⟩, tv⟩
theorem PF (N : Nat) (p0 : Int) (p1 : Bool) (r : Bool) (h : Gz N p0 p1 = some r) : AE Tryz.prog 115 [iD p0, bD p1] [] (bD r) := by
 unfold Gz at h
 refine Ar (n := 23) (rs := [.tmp 4]) Tryz.func115 rfl rfl rfl (A7 rfl) (A7 rfl) rfl fun w0 S0 => ?_
 refine Ab (Aa Ac rfl (qa rfl (Ad ?_)))
 refine AU h (fun v1 => mk [(4, bD v1)] []) (fun j1 h => ?_) (fun v1 h => ?_)
 ·refine Aa Ac rfl (qm rfl (BM rfl (qm rfl ?_)))
  refine AG (t := 7) rfl (fun c2 => ?_) (fun c2 => ?_)
  ·have h := Am c2 h
   refine qn rfl (qn rfl (qp rfl (qm rfl (qn rfl (qn rfl (qn rfl (qu rfl (qu rfl (qn rfl (qn rfl (qu rfl (qu rfl (qn rfl (qp rfl (qa rfl (Ad ?_))))))))))))))))
   exact Aw _ h (sm [] _ _ rfl rfl)
  ·have h := An c2 h
   refine qm rfl (BM rfl (qp rfl (qm rfl ?_)))
   refine AG (t := 11) rfl (fun c3 => ?_) (fun c3 => ?_)
   ·have h := Am c3 h
    refine qn rfl (qn rfl (qn rfl (qu rfl (qu rfl (qn rfl (qn rfl (qu rfl (qu rfl (qn rfl (qp rfl (qa rfl (Ad ?_))))))))))))
    exact Aw _ h (sm [] _ _ rfl rfl)
   ·have h := An c3 h
    refine qm rfl (BM rfl (qm rfl ?_))
    refine AG (t := 14) rfl (fun c4 => ?_) (fun c4 => ?_)
    ·have h := Am c4 h
     refine qn rfl (qn rfl (qp rfl (qm rfl (qm rfl (B7 rfl (qp rfl (qp rfl (qa rfl (Ad ?_)))))))))
     exact Aw _ h (sm [] _ _ rfl rfl)
    ·have h := An c4 h
     refine qm rfl (BM rfl (qp rfl (qm rfl ?_)))
     refine AG (t := 18) rfl (fun c5 => ?_) (fun c5 => ?_)
     ·have h := Am c5 h
      refine qm rfl (B7 rfl (qp rfl (qp rfl (qa rfl (Ad ?_)))))
      exact Aw _ h (sm [] _ _ rfl rfl)
     ·have h := An c5 h
      refine qn rfl (qn rfl (qp rfl (qp rfl (qa rfl (Ad ?_)))))
      exact Aw _ h (sm [] _ _ rfl rfl)
 ·obtain rfl := sj h
  refine Al (sm [] [(4, bD v1)] [] rfl rfl) (Az ?_)
  exact ⟨⟨[_], ⟨.tmp _ _ rfl, tv⟩, rfl⟩, tv⟩
theorem L2 (N : Nat) (p0 : List Bool) (p1 : Int) (r : Bool) (h : DO N p0 p1 = some r) : AE Tryz.prog 124 [pD (.sl (p0.map eB)), oD (.rop [.val (.int .i64 p1)])] [] (bD r) := by
 unfold DO at h
 refine Ar (n := 8) (rs := [.tmp 3]) Tryz.func124 rfl rfl rfl (A7 rfl) (A7 rfl) rfl fun w0 S0 => ?_
 refine Ab (Aa Ac rfl (qa rfl (Ad (Ab (Aa Ac rfl (qm rfl (AZ Fe rfl (qk Cs rfl (Cw rfl (qa rfl (Ad ?_)))))))))))
 obtain rfl := sj h
 refine Al (sm [] [(3, bD (((p0.length : Int) != p1)))] [] rfl rfl) (Az ?_)
 exact ⟨⟨[_], ⟨.tmp _ _ rfl, tv⟩, rfl⟩, tv⟩
theorem HN (N : Nat) (p0 : List (List Bool)) (p1 : (List Bool) → Option Bool) (r : Int) (h : Dm N p0 p1 = some r) : AE Tryz.prog 126 [pD (.sl (p0.map (EN eB))), oD (.clo (B0 (Q4 false (EN eB)) tB p1))] [] (iD r) := by
 unfold Dm at h
 refine Ar (n := 19) (rs := [.tmp 4]) Tryz.func126 rfl rfl rfl (A7 rfl) (A7 rfl) rfl fun w0 S0 => ?_
 refine Ab (Aa Ac rfl (qa rfl (Ad (Ab (Ab (Aa Ac rfl (qm rfl (AZ Gg rfl (qm rfl (Ad ?_))))))))))
 refine AK (L := Bt N p0 p1) h (fun v1 => mk [(0, pD (.sl (p0.map (EN eB)))), (1, oD (.clo (B0 (Q4 false (EN eB)) tB p1))), (7, iD ((p0.length : Int))), (8, iD v1)] []) (fun v2 => mk [] []) (fun _ _ => rfl) (sm [] _ _ rfl rfl) (fun j1 n1 v1 h => ?_) (fun v2 s h hs => ?_)
 ·unfold Bt at h
  refine Ab (Aa Ac rfl (A1 rfl (Ad (Ab ?_))))
  refine Ap rfl (fun c3 => ?_) (fun c3 => ?_)
  ·have h := Am c3 h
   refine Aq (Ab (AR (Ab (Aa Ac rfl (qm rfl (qa rfl (Ad (Ab (Aa Ac rfl (qm rfl (qm rfl (qm rfl ?_))))))))))))
   obtain ⟨v4, a4, b4, h⟩ := Aj h
   refine qi Gg Jz a4 (Ah b4) rfl (qk K0 rfl ?_)
   obtain ⟨v5, a5, h⟩ := bind_some h
   refine EF (ds0 := [_]) (ar := (Q4 false (EN eB)) v4) (.p rfl) rfl rfl ⟨rfl, tv⟩ rfl rfl rfl (EE (Pv _ _ (Xr Y4)) a5) ?_
   refine Ad ?_
   refine Ap rfl (fun c6 => ?_) (fun c6 => ?_)
   ·have h := Am c6 h
    refine Ab (Aa Ac rfl (qm rfl (qa rfl (Ad ?_))))
    obtain rfl := sj h
    refine Al (sm [] [(4, iD v1)] [] rfl rfl) (Az ?_)
    exact ⟨⟨[_], ⟨.tmp _ _ rfl, tv⟩, rfl⟩, tv⟩
   ·have h := An c6 h
    refine Aq (Aa Ac rfl (AY rfl (qm rfl (Ad ?_))))
    exact Aw _ h (sm [] _ _ rfl rfl)
  ·have h := An c3 h
   refine AW ?_
   exact Aw _ h (sm [] _ _ rfl rfl)
 ·refine Al hs (Ab (Aa Ac rfl (qa rfl (Ad ?_))))
  obtain rfl := sj h
  refine Al (sm [] [(4, iD ((-1)))] [] rfl rfl) (Az ?_)
  exact ⟨⟨[_], ⟨.tmp _ _ rfl, tv⟩, rfl⟩, tv⟩
theorem Hk (N : Nat) (p0 : List (List Bool)) (p1 : (List Bool) → Option Bool) (r : Bool) (h : CU N p0 p1 = some r) : AE Tryz.prog 123 [pD (.sl (p0.map (EN eB))), oD (.clo (B0 (Q4 false (EN eB)) tB p1))] [] (bD r) := by
 unfold CU at h
 refine Ar (n := 9) (rs := [.tmp 4]) Tryz.func123 rfl rfl rfl (A7 rfl) (A7 rfl) rfl fun w0 S0 => ?_
 refine Ab (Aa Ac rfl (qa rfl (Ad (Ab (Aa Ac rfl (qm rfl (qm rfl ?_)))))))
 obtain ⟨v1, a1, h⟩ := bind_some h
 refine AH [] (HN N p0 p1 v1 a1) Xt rfl (Dz rfl (qa rfl (Ad ?_)))
 obtain rfl := sj h
 refine Al (sm [] [(4, bD ((decide (0 ≤ v1))))] [] rfl rfl) (Az ?_)
 exact ⟨⟨[_], ⟨.tmp _ _ rfl, tv⟩, rfl⟩, tv⟩
theorem J7 (N : Nat) (p0 : List (List Bool)) (p1 : Int) (p2 : Int) (r : Bool) (h : EZ N p0 p1 p2 = some r) : AE Tryz.prog 116 [pD (.sl (p0.map (EN eB))), iD p1, iD p2] [] (bD r) := by
 unfold EZ at h
 refine Ar (n := 17) (rs := [.tmp 6]) Tryz.func116 rfl rfl rfl (A7 rfl) (A7 rfl) rfl fun w0 S0 => ?_
 refine Ab (Aa Ac rfl (qb rfl (qa rfl (Ad ?_))))
 refine AU h (fun v1 => mk [(6, bD v1)] []) (fun j1 h => ?_) (fun v1 h => ?_)
 ·refine Aa Ac rfl (qm rfl (AZ Gg rfl (qm rfl (BM rfl (qm rfl ?_)))))
  refine AG (t := 11) rfl (fun c2 => ?_) (fun c2 => ?_)
  ·have h := Am c2 h
   refine qm rfl (CL (Nw 5 [.val (.int .i64 p2)] rfl rfl) ?_)
   refine MU (capD := [_]) (B0 (Q4 false (EN eB)) tB ((fun (x : List Bool) => DO N x p2))) (.g rfl rfl) Xz rfl ⟨rfl, tv⟩ rfl (fun ar t ht => by obtain ⟨x, r, rfl, hq, rfl⟩ := IU ht; exact L2 N x p2 r hq) ?_
   obtain ⟨v3, a3, h⟩ := bind_some h
   refine AH [] (Hk N p0 ((fun (x : List Bool) => DO N x p2)) v3 a3) XJ rfl (B7 rfl (qp rfl (qa rfl (Ad ?_))))
   exact Aw _ h (sm [] _ _ rfl rfl)
  ·have h := An c2 h
   refine qn rfl (qn rfl (qn rfl (qn rfl (qp rfl (qa rfl (Ad ?_))))))
   exact Aw _ h (sm [] _ _ rfl rfl)
 ·obtain rfl := sj h
  refine Al (sm [] [(6, bD v1)] [] rfl rfl) (Az ?_)
  exact ⟨⟨[_], ⟨.tmp _ _ rfl, tv⟩, rfl⟩, tv⟩
theorem Om (N : Nat) (p0 : Ag) (p1 : AI) (r : Int) (h : FZ N p0 p1 = some r) : AE Tryz.prog 101 [.e (.agg [sC (p0.fVersions.map Ai), sC (p0.fNow.map Ai), sC (p0.fTarget.map Ai), sC (p0.fTables.map Ao)]), .e (.agg [iC p1.fKind, iC p1.fFrom, iC p1.fTo, .pure (.val (.bool p1.fAware)), sC (p1.fOK.map (EN eB)), sC (p1.fRewrite.map (EN eB))])] [] (iD r) := by
 unfold FZ at h
 refine Ar (n := 87) (rs := [.tmp 4]) Tryz.func101 rfl rfl rfl (A7 rfl) (A7 rfl) rfl fun w0 S0 => ?_
 refine Ab (Aa Ac rfl (qb rfl (qb rfl (qa rfl (Ad (Ab (Ab (Aa Ac rfl (qf FV rfl (ql Cs rfl (qf IF rfl (ql Sx rfl ?_))))))))))))
 obtain ⟨v1, a1, h⟩ := bind_some h
 refine AH [] (PF N p1.fKind p1.fAware v1 a1) XK rfl (B7 rfl (Ad ?_))
 refine Ap rfl (fun c2 => ?_) (fun c2 => ?_)
 ·have h := Am c2 h
  refine Ab (Aa Ac rfl (qa rfl (Ad ?_)))
  obtain rfl := sj h
  refine Al (sm [] [(4, iD 1)] [] rfl rfl) (Az ?_)
  exact ⟨⟨[_], ⟨.tmp _ _ rfl, tv⟩, rfl⟩, tv⟩
 ·have h := An c2 h
  refine Aq (Ab ?_)
  refine AU h (fun v3 => mk [(2, oD (.ptr 2 0)), (3, oD (.ptr 3 0)), (29, bD v3)] [(2, .box [sC (p0.fVersions.map Ai), sC (p0.fNow.map Ai), sC (p0.fTarget.map Ai), sC (p0.fTables.map Ao)]), (3, .box [iC p1.fKind, iC p1.fFrom, iC p1.fTo, .pure (.val (.bool p1.fAware)), sC (p1.fOK.map (EN eB)), sC (p1.fRewrite.map (EN eB))])]) (fun j3 h => ?_) (fun v3 h => ?_)
  ·refine Aa Ac rfl (qf Db rfl (ql Cs rfl (qf BB rfl (ql Bh rfl (AZ AJ rfl ?_)))))
   obtain ⟨v4, a4, h⟩ := bind_some h
   refine AH [] (Hb N p1.fFrom ((p0.fVersions.length : Int)) v4 a4) Sl rfl (B7 rfl (qm rfl ?_))
   refine AG (t := 21) rfl (fun c5 => ?_) (fun c5 => ?_)
   ·have h := Am c5 h
    refine qn rfl (qn rfl (qn rfl (qn rfl (qn rfl (qn rfl (qn rfl (qp rfl (Ad ?_))))))))
    exact Aw _ h (sm [] _ _ rfl rfl)
   ·have h := An c5 h
    refine qf H2 rfl (ql Cs rfl (qf BB rfl (ql Bh rfl (AZ AJ rfl ?_))))
    obtain ⟨v6, a6, h⟩ := bind_some h
    refine AH [] (Hb N p1.fTo ((p0.fVersions.length : Int)) v6 a6) Sl rfl (B7 rfl (qp rfl (Ad ?_)))
    exact Aw _ h (sm [] _ _ rfl rfl)
  ·refine Ap rfl (fun c7 => ?_) (fun c7 => ?_)
   ·have h := Am c7 h
    refine Ab (Aa Ac rfl (qa rfl (Ad ?_)))
    obtain rfl := sj h
    refine Al (sm [] [(4, iD 4)] [] rfl rfl) (Az ?_)
    exact ⟨⟨[_], ⟨.tmp _ _ rfl, tv⟩, rfl⟩, tv⟩
   ·have h := An c7 h
    refine Aq (Ab (Aa Ac rfl (qf BB rfl (ql Bh rfl (qf Db rfl (ql Cs rfl ?_))))))
    obtain ⟨v8, a8, b8, h⟩ := Aj h
    refine qi AJ DA a8 (Ah b8) rfl (qk Cs rfl (qa rfl (Ad (Ab (Aa Ac rfl (qf FV rfl (ql Cs rfl (BM rfl (qa rfl (Ad (Ab ?_)))))))))))
    refine AU h (fun v9 => mk [(3, oD (.ptr 3 0)), (70, bD v9)] [(3, .box [iC p1.fKind, iC p1.fFrom, iC p1.fTo, .pure (.val (.bool p1.fAware)), sC (p1.fOK.map (EN eB)), sC (p1.fRewrite.map (EN eB))])]) (fun j9 h => ?_) (fun v9 h => ?_)
    ·refine Aa Ac rfl (qf Jv rfl (ql JL rfl (qm rfl (qf BB rfl (ql Bh rfl (qf H2 rfl (ql Cs rfl ?_)))))))
     obtain ⟨v10, a10, b10, h⟩ := Aj h
     refine qi AJ DA a10 (Ah b10) rfl (qk Cs rfl ?_)
     obtain ⟨v11, a11, h⟩ := bind_some h
     refine AH [] (J7 N p1.fOK v8 v10 v11 a11) Wb rfl (B7 rfl (qm rfl ?_))
     refine AG (t := 50) rfl (fun c12 => ?_) (fun c12 => ?_)
     ·have h := Am c12 h
      refine qn rfl (qn rfl (qu rfl (qu rfl (qu rfl (qu rfl (qu rfl (qu rfl (qn rfl (qp rfl (qm rfl (qn rfl (qn rfl (qn rfl (qu rfl (qu rfl (qu rfl (qu rfl (qn rfl (qp rfl (AQ (by kernel_rfl) ?_))))))))))))))))))))
      exact Aw _ h (sm [] _ _ rfl rfl)
     ·have h := An c12 h
      refine qm rfl (qm rfl ?_)
      refine AG (t := 52) rfl (fun c13 => ?_) (fun c13 => ?_)
      ·have h := Am c13 h
       refine qf GC rfl (ql JL rfl (qm rfl (qm rfl ?_)))
       obtain ⟨v14, a14, h⟩ := bind_some h
       refine AH [] (J7 N p1.fRewrite v8 v8 v14 a14) Wb rfl (B7 rfl (qp rfl (qp rfl (qm rfl ?_))))
       refine AG (t := 61) rfl (fun c15 => ?_) (fun c15 => ?_)
       ·have h := Am c15 h
        refine qn rfl (qn rfl (qn rfl (qu rfl (qu rfl (qu rfl (qu rfl (qn rfl (qp rfl (AQ (by kernel_rfl) ?_)))))))))
        exact Aw _ h (sm [] _ _ rfl rfl)
       ·have h := An c15 h
        refine qm rfl (B7 rfl (qm rfl ?_))
        refine AG (t := 64) rfl (fun c16 => ?_) (fun c16 => ?_)
        ·have h := Am c16 h
         refine qf GC rfl (ql JL rfl (AZ Gg rfl (Fh rfl (qp rfl (qp rfl (AQ (by kernel_rfl) ?_))))))
         exact Aw _ h (sm [] _ _ rfl rfl)
        ·have h := An c16 h
         refine qn rfl (qn rfl (qn rfl (qn rfl (qp rfl (qp rfl (AQ (by kernel_rfl) ?_))))))
         exact Aw _ h (sm [] _ _ rfl rfl)
      ·have h := An c13 h
       refine qn rfl (qn rfl (qn rfl (qn rfl (qn rfl (qn rfl (qp rfl (qp rfl (qm rfl (qm rfl (B7 rfl (qm rfl ?_)))))))))))
       refine AG (t := 64) rfl (fun c17 => ?_) (fun c17 => ?_)
       ·have h := Am c17 h
        refine qf GC rfl (ql JL rfl (AZ Gg rfl (Fh rfl (qp rfl (qp rfl (AQ (by kernel_rfl) ?_))))))
        exact Aw _ h (sm [] _ _ rfl rfl)
       ·have h := An c17 h
        refine qn rfl (qn rfl (qn rfl (qn rfl (qp rfl (qp rfl (AQ (by kernel_rfl) ?_))))))
        exact Aw _ h (sm [] _ _ rfl rfl)
    ·refine Ap rfl (fun c18 => ?_) (fun c18 => ?_)
     ·have h := Am c18 h
      refine Ab (Aa Ac rfl (qa rfl (Ad ?_)))
      obtain rfl := sj h
      refine Al (sm [] [(4, iD 6)] [] rfl rfl) (Az ?_)
      exact ⟨⟨[_], ⟨.tmp _ _ rfl, tv⟩, rfl⟩, tv⟩
     ·have h := An c18 h
      refine Aq (Ab (Ab (Aa Ac rfl (qf GC rfl (ql JL rfl (AZ Gg rfl (qm rfl (Ad ?_))))))))
      refine AK (L := C2 N p1) h (fun v19 => mk [(3, oD (.ptr 3 0)), (73, iD ((p1.fRewrite.length : Int))), (74, iD v19)] [(3, .box [iC p1.fKind, iC p1.fFrom, iC p1.fTo, .pure (.val (.bool p1.fAware)), sC (p1.fOK.map (EN eB)), sC (p1.fRewrite.map (EN eB))])]) (fun v20 => mk [] []) (fun _ _ => rfl) (sm [] _ _ rfl rfl) (fun j19 n19 v19 h => ?_) (fun v20 s h hs => ?_)
      ·unfold C2 at h
       refine Ab (Aa Ac rfl (A1 rfl (Ad (Ab ?_))))
       refine Ap rfl (fun c21 => ?_) (fun c21 => ?_)
       ·have h := Am c21 h
        refine Aq (Ab (AR (Ab (Aa Ac rfl (qm rfl (qa rfl (Ad (Ab (Aa Ac rfl (qf GC rfl (ql JL rfl (qm rfl ?_))))))))))))
        obtain ⟨v22, a22, b22, h⟩ := Aj h
        refine qi Gg Jz a22 (Ah b22) rfl (qk K0 rfl (qm rfl ?_))
        obtain ⟨v23, a23, b23, h⟩ := Aj h
        refine qi Fe QC a23 (Ah b23) rfl (qk Sx rfl (B7 rfl (Ad ?_)))
        refine Ap rfl (fun c24 => ?_) (fun c24 => ?_)
        ·have h := Am c24 h
         refine Ab (Aa Ac rfl (qa rfl (Ad ?_)))
         obtain rfl := sj h
         refine Al (sm [] [(4, iD 1)] [] rfl rfl) (Az ?_)
         exact ⟨⟨[_], ⟨.tmp _ _ rfl, tv⟩, rfl⟩, tv⟩
        ·have h := An c24 h
         refine Aq (Aa Ac rfl (AY rfl (qm rfl (Ad ?_))))
         exact Aw _ h (sm [] _ _ rfl rfl)
       ·have h := An c21 h
        refine AW ?_
        exact Aw _ h (sm [] _ _ rfl rfl)
      ·refine Al hs (Ab (Aa Ac rfl (qa rfl (Ad ?_))))
       obtain rfl := sj h
       refine Al (sm [] [(4, iD 0)] [] rfl rfl) (Az ?_)
       exact ⟨⟨[_], ⟨.tmp _ _ rfl, tv⟩, rfl⟩, tv⟩
theorem HG (N : Nat) (p0 : Ag) (r : Int) (h : Dq N p0 = some r) : AE Tryz.prog 75 [.e (.agg [sC (p0.fVersions.map Ai), sC (p0.fNow.map Ai), sC (p0.fTarget.map Ai), sC (p0.fTables.map Ao)])] [] (iD r) := by
 unfold Dq at h
 refine Ar (n := 81) (rs := [.tmp 2]) Tryz.func75 rfl rfl rfl (A7 rfl) (A7 rfl) rfl fun w0 S0 => ?_
 refine Ab (Aa Ac rfl (qb rfl (qa rfl (Ad (Ab (Aa Ac rfl (qf BB rfl (ql Bh rfl (AZ AJ rfl (qa rfl (Ad (Ab ?_))))))))))))
 refine AU h (fun v1 => mk [(1, oD (.ptr 1 0)), (3, iD ((p0.fVersions.length : Int))), (19, bD v1)] [(1, .box [sC (p0.fVersions.map Ai), sC (p0.fNow.map Ai), sC (p0.fTarget.map Ai), sC (p0.fTables.map Ao)])]) (fun j1 h => ?_) (fun v1 h => ?_)
 ·refine Aa Ac rfl (qm rfl (Fh rfl (qm rfl ?_)))
  refine AG (t := 14) rfl (fun c2 => ?_) (fun c2 => ?_)
  ·have h := Am c2 h
   refine qn rfl (qn rfl (qn rfl (qn rfl (qp rfl (Ad ?_)))))
   exact Aw _ h (sm [] _ _ rfl rfl)
  ·have h := An c2 h
   refine qf CO rfl (ql He rfl (AZ Ed rfl (Fh rfl (qp rfl (Ad ?_)))))
   exact Aw _ h (sm [] _ _ rfl rfl)
 ·refine Ap rfl (fun c3 => ?_) (fun c3 => ?_)
  ·have h := Am c3 h
   refine Ab (Aa Ac rfl (qa rfl (Ad ?_)))
   obtain rfl := sj h
   refine Al (sm [] [(2, iD 3)] [] rfl rfl) (Az ?_)
   exact ⟨⟨[_], ⟨.tmp _ _ rfl, tv⟩, rfl⟩, tv⟩
  ·have h := An c3 h
   refine Aq (Ab ?_)
   refine AU h (fun v4 => mk [(1, oD (.ptr 1 0)), (31, bD v4)] [(1, .box [sC (p0.fVersions.map Ai), sC (p0.fNow.map Ai), sC (p0.fTarget.map Ai), sC (p0.fTables.map Ao)])]) (fun j4 h => ?_) (fun v4 h => ?_)
   ·refine Aa Ac rfl (qf GE rfl (ql Bh rfl (AZ AJ rfl (qm rfl (Cw rfl (qm rfl ?_))))))
    refine AG (t := 25) rfl (fun c5 => ?_) (fun c5 => ?_)
    ·have h := Am c5 h
     refine qn rfl (qn rfl (qn rfl (qn rfl (qn rfl (qp rfl (Ad ?_))))))
     exact Aw _ h (sm [] _ _ rfl rfl)
    ·have h := An c5 h
     refine qf Je rfl (ql Bh rfl (AZ AJ rfl (qm rfl (Cw rfl (qp rfl (Ad ?_))))))
     exact Aw _ h (sm [] _ _ rfl rfl)
   ·refine Ap rfl (fun c6 => ?_) (fun c6 => ?_)
    ·have h := Am c6 h
     refine Ab (Aa Ac rfl (qa rfl (Ad ?_)))
     obtain rfl := sj h
     refine Al (sm [] [(2, iD 6)] [] rfl rfl) (Az ?_)
     exact ⟨⟨[_], ⟨.tmp _ _ rfl, tv⟩, rfl⟩, tv⟩
    ·have h := An c6 h
     refine Aq (Ab (Ab (Aa Ac rfl (qf BB rfl (ql Bh rfl (AZ AJ rfl (qm rfl (Ad ?_))))))))
     refine AK (L := BT N p0) h (fun v7 => mk [(1, oD (.ptr 1 0)), (33, pD (.sl (p0.fVersions.map Ai))), (34, iD ((p0.fVersions.length : Int))), (35, iD v7)] [(1, .box [sC (p0.fVersions.map Ai), sC (p0.fNow.map Ai), sC (p0.fTarget.map Ai), sC (p0.fTables.map Ao)])]) (fun v8 => mk [(1, oD (.ptr 1 0))] [(1, .box [sC (p0.fVersions.map Ai), sC (p0.fNow.map Ai), sC (p0.fTarget.map Ai), sC (p0.fTables.map Ao)])]) (fun _ _ => rfl) (sm [] _ _ rfl rfl) (fun j7 n7 v7 h => ?_) (fun v8 s h hs => ?_)
     ·unfold BT at h
      refine Ab (Aa Ac rfl (A1 rfl (Ad (Ab ?_))))
      refine Ap rfl (fun c9 => ?_) (fun c9 => ?_)
      ·have h := Am c9 h
       refine Aq (Ab (AR (Ab (Aa Ac rfl (qm rfl ?_)))))
       obtain ⟨v10, a10, b10, h⟩ := Aj h
       refine qi AJ DA a10 (Ah b10) rfl (qk Cs rfl (qa rfl (qa rfl (Ad ?_))))
       refine AU h (fun v11 => mk [(1, oD (.ptr 1 0)), (33, pD (.sl (p0.fVersions.map Ai))), (34, iD ((p0.fVersions.length : Int))), (35, iD v7), (65, bD v11)] [(1, .box [sC (p0.fVersions.map Ai), sC (p0.fNow.map Ai), sC (p0.fTarget.map Ai), sC (p0.fTables.map Ao)])]) (fun j11 h => ?_) (fun v11 h => ?_)
       ·refine Aa Ac rfl (qm rfl (A1 rfl (qm rfl ?_)))
        refine AG (t := 42) rfl (fun c12 => ?_) (fun c12 => ?_)
        ·have h := Am c12 h
         refine qn rfl (qn rfl (qp rfl (qm rfl (qn rfl (qn rfl (qn rfl (qn rfl (qn rfl (qn rfl (qn rfl (qn rfl (qp rfl (qm rfl (qn rfl (qn rfl (qn rfl (qn rfl (qn rfl (qn rfl (qn rfl (qn rfl (qp rfl (Ad ?_)))))))))))))))))))))))
         exact Aw _ h (sm [] _ _ rfl rfl)
        ·have h := An c12 h
         refine qm rfl (Fh rfl (qp rfl (qm rfl ?_)))
         refine AG (t := 46) rfl (fun c13 => ?_) (fun c13 => ?_)
         ·have h := Am c13 h
          refine qn rfl (qn rfl (qn rfl (qn rfl (qn rfl (qn rfl (qn rfl (qn rfl (qp rfl (qm rfl (qn rfl (qn rfl (qn rfl (qn rfl (qn rfl (qn rfl (qn rfl (qn rfl (qp rfl (Ad ?_)))))))))))))))))))
          exact Aw _ h (sm [] _ _ rfl rfl)
         ·have h := An c13 h
          refine qf GE rfl (ql Bh rfl (qm rfl ?_))
          obtain ⟨v14, a14, b14, h⟩ := Aj h
          refine qi AJ DA a14 (Ah b14) rfl (qk Cs rfl (qm rfl ?_))
          obtain ⟨v15, a15, h⟩ := bind_some h
          refine AH [] (Hb N v14 v10 v15 a15) Sl rfl (B7 rfl (qp rfl (qm rfl ?_)))
          refine AG (t := 56) rfl (fun c16 => ?_) (fun c16 => ?_)
          ·have h := Am c16 h
           refine qn rfl (qn rfl (qn rfl (qn rfl (qn rfl (qn rfl (qn rfl (qn rfl (qp rfl (Ad ?_)))))))))
           exact Aw _ h (sm [] _ _ rfl rfl)
          ·have h := An c16 h
           refine qf Je rfl (ql Bh rfl (qm rfl ?_))
           obtain ⟨v17, a17, b17, h⟩ := Aj h
           refine qi AJ DA a17 (Ah b17) rfl (qk Cs rfl (qm rfl ?_))
           obtain ⟨v18, a18, h⟩ := bind_some h
           refine AH [] (Hb N v17 v10 v18 a18) Sl rfl (B7 rfl (qp rfl (Ad ?_)))
           exact Aw _ h (sm [] _ _ rfl rfl)
       ·refine Ap rfl (fun c19 => ?_) (fun c19 => ?_)
        ·have h := Am c19 h
         refine Ab (Aa Ac rfl (qa rfl (Ad ?_)))
         obtain rfl := sj h
         refine Al (sm [] [(2, iD 7)] [] rfl rfl) (Az ?_)
         exact ⟨⟨[_], ⟨.tmp _ _ rfl, tv⟩, rfl⟩, tv⟩
        ·have h := An c19 h
         refine Aq (Aa Ac rfl (AY rfl (qm rfl (Ad ?_))))
         exact Aw _ h (sm [] _ _ rfl rfl)
      ·have h := An c9 h
       refine AW ?_
       exact Aw _ h (sm [] _ _ rfl rfl)
     ·refine Al hs (Ab (Ab (Aa Ac rfl (qf CO rfl (ql He rfl (AZ Ed rfl (qm rfl (Ad ?_))))))))
      refine AK (L := BN N p0) h (fun v20 => mk [(1, oD (.ptr 1 0)), (68, pD (.sl (p0.fTables.map Ao))), (69, iD ((p0.fTables.length : Int))), (70, iD v20)] [(1, .box [sC (p0.fVersions.map Ai), sC (p0.fNow.map Ai), sC (p0.fTarget.map Ai), sC (p0.fTables.map Ao)])]) (fun v21 => mk [] []) (fun _ _ => rfl) (sm [] _ _ rfl rfl) (fun j20 n20 v20 h => ?_) (fun v21 s h hs => ?_)
      ·unfold BN at h
       refine Ab (Aa Ac rfl (A1 rfl (Ad (Ab ?_))))
       refine Ap rfl (fun c22 => ?_) (fun c22 => ?_)
       ·have h := Am c22 h
        refine Aq (Ab (AR (Ab (Aa Ac rfl ?_))))
        obtain ⟨v23, a23, b23, h⟩ := Aj h
        refine qi Ed Eb a23 (Ah b23) rfl (qK Hn Eb rfl (qz Km rfl (qs Eb rfl (Ad (Ab (Aa Ac rfl (qL Ee DQ rfl (qL Hn Eb rfl ?_))))))))
        obtain ⟨v24, a24, h⟩ := bind_some h
        refine AH [] (Om N p0 v23 v24 a24) XW rfl (qa rfl (Ad (Ab (Aa Ac rfl (qm rfl (Cw rfl (Ad ?_)))))))
        refine Ap rfl (fun c25 => ?_) (fun c25 => ?_)
        ·have h := Am c25 h
         refine Ab (Aa Ac rfl (qm rfl (qa rfl (Ad ?_))))
         obtain rfl := sj h
         refine Al (sm [] [(2, iD v24)] [] rfl rfl) (Az ?_)
         exact ⟨⟨[_], ⟨.tmp _ _ rfl, tv⟩, rfl⟩, tv⟩
        ·have h := An c25 h
         refine Aq (Aa Ac rfl (AY rfl (qm rfl (Ad ?_))))
         exact Aw _ h (sm [] _ _ rfl rfl)
       ·have h := An c22 h
        refine AW ?_
        exact Aw _ h (sm [] _ _ rfl rfl)
      ·refine Al hs (Ab (Aa Ac rfl (qa rfl (Ad ?_))))
       obtain rfl := sj h
       refine Al (sm [] [(2, iD 0)] [] rfl rfl) (Az ?_)
       exact ⟨⟨[_], ⟨.tmp _ _ rfl, tv⟩, rfl⟩, tv⟩
theorem DS (N : Nat) (p0 : List Int) (r : (List Int)) (h : BL N p0 = some r) : AE Tryz.prog 58 [pD (.sl (p0.map Ai))] [(1, r.map Ai)] (oD (.own 0)) := by
 unfold BL at h
 refine Ar (n := 8) (rs := [.tmp 2]) Tryz.func58 rfl rfl rfl (A7 rfl) (A7 rfl) rfl fun w0 S0 => ?_
 refine Ab (Aa Ac rfl (qa rfl (Ad (Ab (Ab (Aa Ac rfl (qm rfl ?_)))))))
 refine Sq (.p rfl) rfl AJ ?_
 refine Ad ?_
 refine R6 rfl (fun c2 => ?_) ?_
 ·have c2 := List.map_eq_nil_iff.1 c2
  rw [c2] at h
  have h : (some (([] : List Int))) = some r := h
  refine Ab (Aa Ac rfl (qa rfl (Ad ?_)))
  obtain rfl := sj h
  refine Al ((Bn 2 2001 1 rfl rfl rfl).trans (sm [(1000, 2001)] [(2, oD (.own 1000))] [(1000, .vec 1 ((([] : List Int)).map Ai))] rfl rfl)) (Az ?_)
  exact ⟨⟨[_], ⟨.tmp _ _ rfl, tv⟩, rfl⟩, ⟨rfl, tv⟩⟩
 ·refine Aq (Ab (Aa Ac rfl (D6 AJ DA KE rfl (qm rfl ?_))))
  obtain ⟨c1, h⟩ := AN h
  refine J5 (f := Ai) AJ AJ DA LQ KE (fun _ => rfl) c1 rfl (qa rfl (Ad ?_))
  obtain rfl := sj h
  refine Al (sm [(1000, 7)] [(2, oD (.own 1000))] [(1000, .vec 1 (((([] : List Int)) ++ p0).map Ai))] rfl rfl) (Az ?_)
  exact ⟨⟨[_], ⟨.tmp _ _ rfl, tv⟩, rfl⟩, ⟨rfl, tv⟩⟩
theorem Lu (N : Nat) (p0 : Int) (p1 : Int) (r : Int × Int) (h : GJ N p0 p1 = some r) : AE Tryz.prog 117 [pD (.val (.int .u32 p0)), pD (.val (.int .u32 p1))] [] (.tup [.one (.pure (.val (.int .u32 r.1))), .one (.pure (.val (.int .u32 r.2)))]) := by
 unfold GJ at h
 refine Ar (n := 17) (rs := [.tmp 4, .tmp 5]) Tryz.func117 rfl rfl rfl (A7 rfl) (A7 rfl) rfl fun w0 S0 => ?_
 refine Ab (Aa Ac rfl (qa rfl (qa rfl (Ad (Ab (Aa Ac rfl (qm rfl (G5 P8 Wd rfl (qm rfl (G5 P8 Wd rfl (Iz rfl (qa rfl (Ad (Ab (Aa Ac rfl (qm rfl (Hi rfl (by decide) (G5 Uy QI rfl (qm rfl (G5 Uy QI rfl (qa rfl (qa rfl (Ad ?_)))))))))))))))))))))))
 obtain rfl := sj h
 refine Al (sm [] [(4, pD (.val (.int .u32 ((wI .u32 ((Ei .u64 ((wI .u64 ((wI .u64 p0) * (wI .u64 p1)))) 32))))))), (5, pD (.val (.int .u32 ((wI .u32 ((wI .u64 ((wI .u64 p0) * (wI .u64 p1)))))))))] [] rfl rfl) (Az ?_)
 exact ⟨⟨[_, _], ⟨.tmp _ _ rfl, ⟨.tmp _ _ rfl, tv⟩⟩, rfl⟩, tv⟩
theorem Lf (N : Nat) (p0 : Int) (p1 : Int) (r : Int × Int) (h : GK N p0 p1 = some r) : AE Tryz.prog 118 [pD (.val (.int .u64 p0)), pD (.val (.int .u64 p1))] [] (.tup [.one (.pure (.val (.int .u64 r.1))), .one (.pure (.val (.int .u64 r.2)))]) := by
 unfold GK at h
 refine Ar (n := 51) (rs := [.tmp 4, .tmp 5]) Tryz.func118 rfl rfl rfl (A7 rfl) (A7 rfl) rfl fun w0 S0 => ?_
 refine Ab (Aa Ac rfl (qa rfl (qa rfl (Ad (Ab (Aa Ac rfl (qm rfl (Lh rfl (qa rfl (Ad (Ab (Aa Ac rfl (qm rfl (Hi rfl (by decide) (qa rfl (Ad (Ab (Aa Ac rfl (qm rfl (Lh rfl (qa rfl (Ad (Ab (Aa Ac rfl (qm rfl (Hi rfl (by decide) (qa rfl (Ad (Ab (Aa Ac rfl (qm rfl (qm rfl (Iz rfl (qa rfl (Ad (Ab (Aa Ac rfl (qm rfl (qm rfl ?_)))))))))))))))))))))))))))))))))))))))
 refine Iz rfl (qm rfl (Hi rfl (by decide) (AY rfl (qa rfl (Ad (Ab (Aa Ac rfl (qm rfl (Lh rfl (qa rfl (Ad (Ab (Aa Ac rfl (qm rfl (Hi rfl (by decide) (qa rfl (Ad (Ab (Aa Ac rfl (qm rfl (qm rfl (qm rfl (Iz rfl (AY rfl (qa rfl (Ad (Ab (Aa Ac rfl (qm rfl (qm rfl (Iz rfl (qm rfl (AY rfl (qm rfl (Hi rfl (by decide) (AY rfl (qa rfl (Ad (Ab ?_)))))))))))))))))))))))))))))))))))))))
 refine Aa Ac rfl (qm rfl (qm rfl (Iz rfl (qa rfl (Ad ?_)))))
 obtain rfl := sj h
 refine Al (sm [] [(4, pD (.val (.int .u64 ((wI .u64 ((wI .u64 ((wI .u64 ((Ei .u64 p0 32) * (Ei .u64 p1 32))) + (Ei .u64 ((wI .u64 ((wI .u64 ((Ei .u64 p0 32) * (FB .u64 p1 4294967295))) + (Ei .u64 ((wI .u64 ((FB .u64 p0 4294967295) * (FB .u64 p1 4294967295)))) 32)))) 32))) + (Ei .u64 ((wI .u64 ((FB .u64 ((wI .u64 ((wI .u64 ((Ei .u64 p0 32) * (FB .u64 p1 4294967295))) + (Ei .u64 ((wI .u64 ((FB .u64 p0 4294967295) * (FB .u64 p1 4294967295)))) 32)))) 4294967295) + (wI .u64 ((FB .u64 p0 4294967295) * (Ei .u64 p1 32)))))) 32))))))), (5, pD (.val (.int .u64 ((wI .u64 (p0 * p1))))))] [] rfl rfl) (Az ?_)
 exact ⟨⟨[_, _], ⟨.tmp _ _ rfl, ⟨.tmp _ _ rfl, tv⟩⟩, rfl⟩, tv⟩
theorem MD (N : Nat) (p0 : Int) (p1 : Int) (r : Int × Int) (h : Hr N p0 p1 = some r) : AE Tryz.prog 102 [pD (.val (.int .u64 p0)), pD (.val (.int .u64 p1))] [] (.tup [.one (.pure (.val (.int .u64 r.1))), .one (.pure (.val (.int .u64 r.2)))]) := by
 unfold Hr at h
 refine Ar (n := 30) (rs := [.tmp 4, .tmp 5]) Tryz.func102 rfl rfl rfl (A7 rfl) (A7 rfl) rfl fun w0 S0 => ?_
 refine Ab (Aa Ac rfl (qa rfl (qa rfl (Ad (Ab ?_)))))
 refine Ap rfl (fun c1 => ?_) (fun c1 => ?_)
 ·have h := Am c1 h
  refine Ab (Aa Ac rfl (qm rfl (G5 QO QI rfl (qm rfl (G5 QO QI rfl ?_)))))
  obtain ⟨v2, a2, h⟩ := bind_some h
  refine AH [] (Lu N ((wI .u32 p0)) ((wI .u32 p1)) v2 a2) Yq rfl (qm rfl (qx rfl (qx rfl (qa rfl (qa rfl (Ad (Ab (Aa Ac rfl (qm rfl (G5 P8 OO rfl (qm rfl (G5 P8 OO rfl (qa rfl (qa rfl (Ad ?_)))))))))))))))
  obtain rfl := sj h
  refine Al (sm [] [(4, pD (.val (.int .u64 ((wI .u64 v2.1))))), (5, pD (.val (.int .u64 ((wI .u64 v2.2)))))] [] rfl rfl) (Az ?_)
  exact ⟨⟨[_, _], ⟨.tmp _ _ rfl, ⟨.tmp _ _ rfl, tv⟩⟩, rfl⟩, tv⟩
 ·have h := An c1 h
  refine Aq (Ab (Aa Ac rfl (qm rfl (qm rfl ?_))))
  obtain ⟨v3, a3, h⟩ := bind_some h
  refine AH [] (Lf N p0 p1 v3 a3) X6 rfl (qm rfl (qx rfl (qx rfl (qa rfl (qa rfl (Ad (Ab (Aa Ac rfl (qm rfl (qm rfl (qa rfl (qa rfl (Ad ?_)))))))))))))
  obtain rfl := sj h
  refine Al (sm [] [(4, pD (.val (.int .u64 v3.1))), (5, pD (.val (.int .u64 v3.2)))] [] rfl rfl) (Az ?_)
  exact ⟨⟨[_, _], ⟨.tmp _ _ rfl, ⟨.tmp _ _ rfl, tv⟩⟩, rfl⟩, tv⟩
theorem I2 (N : Nat) (p0 : List Int) (p1 : Int) (r : (List Int)) (h : Ek N p0 p1 = some r) : AE Tryz.prog 76 [pD (.sl (p0.map Ai)), iD p1] [(1, r.map Ai)] (oD (.own 0)) := by
 unfold Ek at h
 refine Ar (n := 48) (rs := [.tmp 4]) Tryz.func76 rfl rfl rfl (A7 rfl) (A7 rfl) rfl fun w0 S0 => ?_
 refine Ab (Aa Ac rfl (qa rfl (Ad ?_)))
 refine AU h (fun v1 => mk [(0, pD (.sl (p0.map Ai))), (1, iD p1)] []) (fun j1 h => ?_) (fun v1 h => ?_)
 ·refine Ab (Aa Ac rfl (qm rfl (A1 rfl (Ad ?_))))
  refine Ap rfl (fun c2 => ?_) (fun c2 => ?_)
  ·have h := Am c2 h
   refine Aa Ac rfl ?_
   cases h
  ·have h := An c2 h
   refine Aq ?_
   exact Aw _ h (sm [] _ _ rfl rfl)
 ·refine Ab (Aa Ac rfl (qm rfl (AZ AJ rfl (G5 W0 OO rfl (qm rfl (G5 W0 OO rfl ?_))))))
  obtain ⟨v3, a3, h⟩ := bind_some h
  refine AH [] (MD N ((wI .u64 ((p0.length : Int)))) ((wI .u64 p1)) v3 a3) Ym rfl (qm rfl (qx rfl (qx rfl (qa rfl (qa rfl (Ad ?_))))))
  refine AU h (fun v4 => mk [(0, pD (.sl (p0.map Ai))), (6, pD (.val (.int .u64 v3.2)))] []) (fun j4 h => ?_) (fun v4 h => ?_)
  ·refine AU h (fun v5 => mk [(0, pD (.sl (p0.map Ai))), (6, pD (.val (.int .u64 v3.2))), (26, bD v5)] []) (fun j5 h => ?_) (fun v5 h => ?_)
   ·refine Aa Ac rfl (qm rfl (Fh rfl (qm rfl ?_)))
    refine AG (t := 23) rfl (fun c6 => ?_) (fun c6 => ?_)
    ·have h := Am c6 h
     refine qn rfl (qn rfl (qp rfl (Ad ?_)))
     exact Aw _ h (sm [] _ _ rfl rfl)
    ·have h := An c6 h
     refine qm rfl (Fh rfl (qp rfl (Ad ?_)))
     exact Aw _ h (sm [] _ _ rfl rfl)
   ·refine Ap rfl (fun c7 => ?_) (fun c7 => ?_)
    ·have h := Am c7 h
     refine Aa Ac rfl ?_
     cases h
    ·have h := An c7 h
     refine Aq ?_
     exact Aw _ h (sm [] _ _ rfl rfl)
  ·refine Ab (Aa Ac rfl (qm rfl (G5 QO S5 rfl ?_)))
   obtain ⟨c8, h⟩ := AN h
   refine MC (.p rfl) rfl rfl rfl AJ DA LQ (A7 rfl) KE rfl rfl rfl c8.1 c8.2.1 c8.2.2 (Sv Ai _ ((0 : Int))) ?_
   refine qa rfl (Ad (Ab (Aa Ac rfl (qm rfl (qm rfl ?_)))))
   refine Sm Ai (List.replicate ((wI .i64 v3.2)).toNat ((0 : Int))) p0 (.p rfl) rfl (Gt Ai _ _ (List.replicate ((wI .i64 v3.2)).toNat ((0 : Int)))) rfl rfl (VR Ai _ _ (fun _ => rfl)) tv AJ DA ?_
   refine qa rfl (Ad (Ab ?_))
   refine AK (L := DL N) h (fun v9 => mk [(7, oD (.own 2001)), (8, iD v9.2)] [(2001, .vec 1 (v9.1.map Ai))]) (fun v10 => mk [(7, oD (.own 2002))] [(2002, .vec 1 (v10.map Ai))]) (fun _ _ => rfl) (sm [(2001, 30)] _ _ rfl rfl) (fun j9 n9 v9 h => ?_) (fun v10 s h hs => ?_)
   ·unfold DL at h
    refine Ab (Ab (Aa Ac rfl (qm rfl (qm rfl (Dh AJ rfl (A1 rfl (Ad ?_)))))))
    refine Ap rfl (fun c11 => ?_) (fun c11 => ?_)
    ·have h := Am c11 h
     refine Aq (AR (Aa Ac rfl (qm rfl (qm rfl (qm rfl ?_)))))
     obtain ⟨c12, h⟩ := AN h
     have w13 : ((v9.2).toNat) + ((v9.1.length - (v9.2).toNat)) ≤ v9.1.length := by have := c12.2.1; have := c12.2.2; omega
     refine Hh Ai v9.1 (.p rfl) rfl (Gt Ai _ _ v9.1) rfl AJ DA (.some _ _ _ _ c12.1) (.none _) ⟨rfl, tv⟩ tv c12.2.1 (by rw [Nat.zero_add]; exact c12.2.2) (Nat.zero_add _) rfl ?_
     refine qm rfl (qm rfl ?_)
     obtain ⟨c14, h⟩ := AN h
     have w15 : 0 + ((v9.2).toNat) ≤ v9.1.length := by have := c14.2.1; have := c14.2.2; omega
     refine Hh Ai v9.1 (.p rfl) rfl (Gt Ai _ _ v9.1) rfl AJ DA (.none _) (.some _ _ _ _ c14.1) tv ⟨rfl, tv⟩ c14.2.1 (by rw [Nat.zero_add]; exact c14.2.2) (Nat.zero_add _) rfl ?_
     refine Sm Ai v9.1 (((v9.1.drop 0).take ((v9.2).toNat))) (.p rfl) rfl (L4 Ai _ _ ((v9.2).toNat) ((v9.1.length - (v9.2).toNat)) v9.1 w13) rfl rfl (LN Ai _ _ 0 ((v9.2).toNat) v9.1 w15) ⟨rfl, tv⟩ AJ DA ?_
     refine AY rfl (qa rfl (AQ (by kernel_rfl) ?_))
     exact Aw _ h (sm [] _ _ rfl rfl)
    ·have h := An c11 h
     refine AW ?_
     exact Aw _ h (sm [(2002, 2001)] _ _ rfl rfl)
   ·refine Al hs (Ab (Aa Ac rfl (qm rfl (qa rfl (Ad ?_)))))
    obtain rfl := sj h
    refine Al (sm [(1000, 2002)] [(4, oD (.own 1000))] [(1000, .vec 1 (v10.map Ai))] rfl rfl) (Az ?_)
    exact ⟨⟨[_], ⟨.tmp _ _ rfl, tv⟩, rfl⟩, ⟨rfl, tv⟩⟩
theorem Jj (N : Nat) (p0 : AI) (r : Bool) (h : Fg N p0 = some r) : AE Tryz.prog 77 [.e (.agg [iC p0.fKind, iC p0.fFrom, iC p0.fTo, .pure (.val (.bool p0.fAware)), sC (p0.fOK.map (EN eB)), sC (p0.fRewrite.map (EN eB))])] [] (bD r) := by
 unfold Fg at h
 refine Ar (n := 11) (rs := [.tmp 2]) Tryz.func77 rfl rfl rfl (A7 rfl) (A7 rfl) rfl fun w0 S0 => ?_
 refine Ab (Aa Ac rfl (qb rfl (qa rfl (Ad ?_))))
 refine AU h (fun v1 => mk [(2, bD v1)] []) (fun j1 h => ?_) (fun v1 h => ?_)
 ·refine Aa Ac rfl (qf FV rfl (ql Cs rfl (BM rfl (qm rfl ?_))))
  refine AG (t := 6) rfl (fun c2 => ?_) (fun c2 => ?_)
  ·have h := Am c2 h
   refine qn rfl (qn rfl (qn rfl (qp rfl (qa rfl (Ad ?_)))))
   exact Aw _ h (sm [] _ _ rfl rfl)
  ·have h := An c2 h
   refine qf FV rfl (ql Cs rfl (BM rfl (qp rfl (qa rfl (Ad ?_)))))
   exact Aw _ h (sm [] _ _ rfl rfl)
 ·obtain rfl := sj h
  refine Al (sm [] [(2, bD v1)] [] rfl rfl) (Az ?_)
  exact ⟨⟨[_], ⟨.tmp _ _ rfl, tv⟩, rfl⟩, tv⟩
theorem Me (N : Nat) (p0 : Ag) (r : Ae × Int) (h : F6 N p0 = some r) : AE Tryz.prog 55 [.e (.agg [sC (p0.fVersions.map Ai), sC (p0.fNow.map Ai), sC (p0.fTarget.map Ai), sC (p0.fTables.map Ao)])] [(1, r.1.fBase.map Ai), (1, r.1.fNext.map Ai), (1, r.1.fHeld.map Bg)] (.tup [.agg [.own 0, .own 1, .own 2], .one (iC r.2)]) := by
 unfold F6 at h
 refine Ar (n := 50) (rs := [.cell 2 50, .tmp 3]) Tryz.func55 rfl rfl rfl (A7 rfl) (A7 rfl) rfl fun w0 S0 => ?_
 refine Ab (Aa Ac rfl (qb rfl (qz Cu rfl (qa rfl (Ad (Ab (Ab (Aa Ac rfl (qL Ee DQ rfl ?_)))))))))
 obtain ⟨v1, a1, h⟩ := bind_some h
 refine AH [] (HG N p0 v1 a1) Xx rfl (qa rfl (Ad (Ab (Aa Ac rfl (qm rfl (Cw rfl (Ad ?_)))))))
 refine Ap rfl (fun c2 => ?_) (fun c2 => ?_)
 ·have h := Am c2 h
  refine Ab (Aa Ac rfl (BO Cu HQ rfl (qm rfl (qs Ay rfl (qa rfl (Ad ?_))))))
  obtain rfl := sj h
  refine Al ((AF 2 0 2001 1 _ rfl rfl rfl rfl).trans ((AF 2 1 2002 1 _ rfl rfl rfl rfl).trans ((AF 2 2 2003 1 _ rfl rfl rfl rfl).trans (sm [(1000, 2001), (1001, 2002), (1002, 2003)] [(2, oD (.ptr 2 0)), (3, iD v1)] [(2, .box [.own 1000, .own 1001, .own 1002]), (1000, .vec 1 ((([] : List Int)).map Ai)), (1001, .vec 1 ((([] : List Int)).map Ai)), (1002, .vec 1 ((([] : List Int)).map Bg))] rfl rfl)))) (Az ?_)
  exact ⟨⟨[_, _], ⟨.cellN _ _ _ _ _ _ _ rfl rfl A0 Ay rfl rfl (Jb rfl), ⟨.tmp _ _ rfl, tv⟩⟩, rfl⟩, ⟨rfl, rfl, rfl, tv⟩⟩
 ·have h := An c2 h
  refine Aq (Ab (Aa Ac rfl (qf GE rfl (ql Bh rfl ?_))))
  obtain ⟨v3, a3, h⟩ := bind_some h
  refine AH [2004] (DS N p0.fNow v3 a3) Ui rfl (D6 AJ DA KE rfl (qf GE rfl (ql Bh rfl (AZ AJ rfl ?_))))
  obtain ⟨v4, a4, h⟩ := bind_some h
  refine FT [2005] [17] (I2 N (([(-1)] : List Int)) ((p0.fNow.length : Int)) v4 a4) Y1 (Nq (fun _ => rfl) Ex) rfl (qf CO rfl (ql He rfl (AZ Ed rfl ?_)))
  obtain ⟨c5, h⟩ := AN h
  refine MC (.p rfl) rfl rfl rfl C4 FE QB (A7 rfl) PP rfl rfl rfl c5.1 c5.2.1 c5.2.2 (Sv Bg _ ((0 : Int))) ?_
  refine BO Cu HQ rfl (qz Cu rfl (qs Ay rfl (AQ (by kernel_rfl) (Ab (Ab (Aa Ac rfl (qf CO rfl (ql He rfl (AZ Ed rfl (qm rfl (Ad ?_)))))))))))
  refine AK (L := D3 N p0) h (fun v6 => mk [(1, oD (.ptr 1 0)), (2, oD (.ptr 2 0)), (5, oD (.ptr 5 0)), (28, pD (.sl (p0.fTables.map Ao))), (29, iD ((p0.fTables.length : Int))), (30, iD v6.2)] [(1, .box [sC (p0.fVersions.map Ai), sC (p0.fNow.map Ai), sC (p0.fTarget.map Ai), sC (p0.fTables.map Ao)]), (2, .box [.pure (.nil0), .pure (.nil0), .pure (.nil0)]), (5, .box [.own 2006, .own 2007, .own 2008]), (2006, .vec 1 (v3.map Ai)), (2007, .vec 1 (v4.map Ai)), (2008, .vec 1 (v6.1.map Bg))]) (fun v7 => mk [(2, oD (.ptr 2 0)), (5, oD (.ptr 5 0))] [(2, .box [.pure (.nil0), .pure (.nil0), .pure (.nil0)]), (5, .box [.own 2009, .own 2010, .own 2011]), (2009, .vec 1 (v3.map Ai)), (2010, .vec 1 (v4.map Ai)), (2011, .vec 1 (v7.map Bg))]) (fun _ _ => rfl) (sm [(2006, 2004), (2007, 2005), (2008, 25)] _ _ rfl rfl) (fun j6 n6 v6 h => ?_) (fun v7 s h hs => ?_)
  ·unfold D3 at h
   refine Ab (Aa Ac rfl (A1 rfl (Ad (Ab ?_))))
   refine Ap rfl (fun c8 => ?_) (fun c8 => ?_)
   ·have h := Am c8 h
    refine Aq ?_
    refine AU h (fun v9 => mk [(1, oD (.ptr 1 0)), (2, oD (.ptr 2 0)), (5, oD (.ptr 5 0)), (28, pD (.sl (p0.fTables.map Ao))), (29, iD ((p0.fTables.length : Int))), (30, iD v6.2)] [(1, .box [sC (p0.fVersions.map Ai), sC (p0.fNow.map Ai), sC (p0.fTarget.map Ai), sC (p0.fTables.map Ao)]), (2, .box [.pure (.nil0), .pure (.nil0), .pure (.nil0)]), (5, .box [.own 2012, .own 2013, .own 2014]), (2012, .vec 1 (v3.map Ai)), (2013, .vec 1 (v4.map Ai)), (2014, .vec 1 (v9.map Bg))]) (fun j9 h => ?_) (fun v9 h => ?_)
    ·refine AR (Ab (Aa Ac rfl (qm rfl ?_)))
     obtain ⟨v10, a10, b10, h⟩ := Aj h
     refine qi Ed Eb a10 (Ah b10) rfl (qK Hn Eb rfl (qz Km rfl (qa rfl (qs Eb rfl (Ad (Ab (Aa Ac rfl (qL Hn Eb rfl ?_))))))))
     obtain ⟨v11, a11, h⟩ := bind_some h
     refine AH [] (Jj N v10 v11 a11) WV rfl (Ad ?_)
     refine Ap rfl (fun c12 => ?_) (fun c12 => ?_)
     ·have h := Am c12 h
      refine Aa Ac rfl (qf CC rfl (ql GN rfl (qm rfl (qf GE rfl (ql Bh rfl (qf Db rfl (ql Cs rfl ?_)))))))
      obtain ⟨v13, a13, b13, h⟩ := Aj h
      refine qi AJ DA a13 (Ah b13) rfl (qk Cs rfl ?_)
      obtain ⟨c14, h⟩ := AN h
      refine HA rfl c14 ?_
      obtain ⟨v15, a15, b15, h⟩ := Aj h
      refine qI C4 FE a15 (Ah b15) rfl ?_
      refine Bd rfl rfl rfl rfl (Ah b15) rfl FE rfl (A7 rfl) (Bc Bg v6.1 _ ((Co .u8 1 v13))) ?_
      refine AQ (by kernel_rfl) ?_
      exact Aw _ h (sm [(2012, 2006), (2013, 2007), (2014, 2008)] _ _ rfl rfl)
     ·have h := An c12 h
      refine Aq ?_
      exact Aw _ h (sm [(2012, 2006), (2013, 2007), (2014, 2008)] _ _ rfl rfl)
    ·refine Aa Ac rfl (AY rfl (qm rfl (Ad ?_)))
     exact Aw _ h (sm [(2006, 2012), (2007, 2013), (2008, 2014)] _ _ rfl rfl)
   ·have h := An c8 h
    refine AW ?_
    exact Aw _ h (sm [(2009, 2006), (2010, 2007), (2011, 2008)] _ _ rfl rfl)
  ·refine Al hs (Ab (Aa Ac rfl (qL A0 Ay rfl (qs Ay rfl (qa rfl (Ad ?_))))))
   obtain rfl := sj h
   refine Al (sm [(1000, 2009), (1001, 2010), (1002, 2011)] [(2, oD (.ptr 2 0)), (3, iD 0)] [(2, .box [.own 1000, .own 1001, .own 1002]), (1000, .vec 1 (v3.map Ai)), (1001, .vec 1 (v4.map Ai)), (1002, .vec 1 (v7.map Bg))] rfl rfl) (Az ?_)
   exact ⟨⟨[_, _], ⟨.cellN _ _ _ _ _ _ _ rfl rfl A0 Ay rfl rfl (Jb rfl), ⟨.tmp _ _ rfl, tv⟩⟩, rfl⟩, ⟨rfl, rfl, rfl, tv⟩⟩
theorem IR (N : Nat) (p0 : Ae) (p1 : Int) (r : Int) (h : EO N p0 p1 = some r) : AE Tryz.prog 80 [.e (.agg [sC (p0.fBase.map Ai), sC (p0.fNext.map Ai), sC (p0.fHeld.map Bg)]), iD p1] [] (pD (.val (.int .u8 r))) := by
 unfold EO at h
 refine Ar (n := 27) (rs := [.tmp 4]) Tryz.func80 rfl rfl rfl (A7 rfl) (A7 rfl) rfl fun w0 S0 => ?_
 refine Ab (Aa Ac rfl (qb rfl (qa rfl (Ad (Ab (Aa Ac rfl (qf CS rfl (ql Bh rfl (qm rfl ?_)))))))))
 obtain ⟨v1, a1, b1, h⟩ := Aj h
 refine qi AJ DA a1 (Ah b1) rfl (qk Cs rfl ?_)
 obtain ⟨c2, h⟩ := AN h
 refine HA rfl c2 (qa rfl (Ad ?_))
 refine AU h (fun v3 => mk [(5, pD (.val (.int .u8 v3)))] []) (fun j3 h => ?_) (fun v3 h => ?_)
 ·refine Ab (Aa Ac rfl (qf BH rfl (ql Bh rfl (qm rfl ?_))))
  obtain ⟨v4, a4, b4, h⟩ := Aj h
  refine qi AJ DA a4 (Ah b4) rfl (qk Cs rfl (Dz rfl (Ad ?_)))
  refine Ap rfl (fun c5 => ?_) (fun c5 => ?_)
  ·have h := Am c5 h
   refine Aa Ac rfl (qm rfl (qf BH rfl (ql Bh rfl (qm rfl ?_))))
   obtain ⟨v6, a6, b6, h⟩ := Aj h
   refine qi AJ DA a6 (Ah b6) rfl (qk Cs rfl ?_)
   obtain ⟨c7, h⟩ := AN h
   refine HA rfl c7 (Tn rfl (qa rfl (Ad ?_)))
   exact Aw _ h (sm [] _ _ rfl rfl)
  ·have h := An c5 h
   refine Aq ?_
   exact Aw _ h (sm [] _ _ rfl rfl)
 ·refine Ab (Aa Ac rfl (qm rfl (qa rfl (Ad ?_))))
  obtain rfl := sj h
  refine Al (sm [] [(4, pD (.val (.int .u8 v3)))] [] rfl rfl) (Az ?_)
  exact ⟨⟨[_], ⟨.tmp _ _ rfl, tv⟩, rfl⟩, tv⟩
theorem Iv (N : Nat) (p0 : Ag) (p1 : Ae) (r : Int) (h : E7 N p0 p1 = some r) : AE Tryz.prog 57 [.e (.agg [sC (p0.fVersions.map Ai), sC (p0.fNow.map Ai), sC (p0.fTarget.map Ai), sC (p0.fTables.map Ao)]), .e (.agg [sC (p1.fBase.map Ai), sC (p1.fNext.map Ai), sC (p1.fHeld.map Bg)])] [] (iD r) := by
 unfold E7 at h
 refine Ar (n := 135) (rs := [.tmp 4]) Tryz.func57 rfl rfl rfl (A7 rfl) (A7 rfl) rfl fun w0 S0 => ?_
 refine Ab (Aa Ac rfl (qb rfl (qb rfl (qa rfl (Ad (Ab (Ab (Aa Ac rfl (qL Ee DQ rfl ?_)))))))))
 obtain ⟨v1, a1, h⟩ := bind_some h
 refine AH [] (HG N p0 v1 a1) Xx rfl (qa rfl (Ad (Ab (Aa Ac rfl (qm rfl (Cw rfl (Ad ?_)))))))
 refine Ap rfl (fun c2 => ?_) (fun c2 => ?_)
 ·have h := Am c2 h
  refine Ab (Aa Ac rfl (qm rfl (qa rfl (Ad ?_))))
  obtain rfl := sj h
  refine Al (sm [] [(4, iD v1)] [] rfl rfl) (Az ?_)
  exact ⟨⟨[_], ⟨.tmp _ _ rfl, tv⟩, rfl⟩, tv⟩
 ·have h := An c2 h
  refine Aq (Ab ?_)
  refine AU h (fun v3 => mk [(2, oD (.ptr 2 0)), (3, oD (.ptr 3 0)), (41, bD v3)] [(2, .box [sC (p0.fVersions.map Ai), sC (p0.fNow.map Ai), sC (p0.fTarget.map Ai), sC (p0.fTables.map Ao)]), (3, .box [sC (p1.fBase.map Ai), sC (p1.fNext.map Ai), sC (p1.fHeld.map Bg)])]) (fun j3 h => ?_) (fun v3 h => ?_)
  ·refine Aa Ac rfl (qf CS rfl (ql Bh rfl (AZ AJ rfl (qf BB rfl (ql Bh rfl (AZ AJ rfl (Cw rfl (qm rfl ?_))))))))
   refine AG (t := 24) rfl (fun c4 => ?_) (fun c4 => ?_)
   ·have h := Am c4 h
    refine qn rfl (qn rfl (qn rfl (qn rfl (qn rfl (qn rfl (qn rfl (qp rfl (qm rfl (qn rfl (qn rfl (qn rfl (qn rfl (qn rfl (qn rfl (qn rfl (qp rfl (Ad ?_)))))))))))))))))
    exact Aw _ h (sm [] _ _ rfl rfl)
   ·have h := An c4 h
    refine qf BH rfl (ql Bh rfl (AZ AJ rfl (qf BB rfl (ql Bh rfl (AZ AJ rfl (Cw rfl (qp rfl (qm rfl ?_))))))))
    refine AG (t := 33) rfl (fun c5 => ?_) (fun c5 => ?_)
    ·have h := Am c5 h
     refine qn rfl (qn rfl (qn rfl (qn rfl (qn rfl (qn rfl (qn rfl (qp rfl (Ad ?_))))))))
     exact Aw _ h (sm [] _ _ rfl rfl)
    ·have h := An c5 h
     refine qf CC rfl (ql GN rfl (AZ C4 rfl (qf CO rfl (ql He rfl (AZ Ed rfl (Cw rfl (qp rfl (Ad ?_))))))))
     exact Aw _ h (sm [] _ _ rfl rfl)
  ·refine Ap rfl (fun c6 => ?_) (fun c6 => ?_)
   ·have h := Am c6 h
    refine Ab (Aa Ac rfl (qa rfl (Ad ?_)))
    obtain rfl := sj h
    refine Al (sm [] [(4, iD 6)] [] rfl rfl) (Az ?_)
    exact ⟨⟨[_], ⟨.tmp _ _ rfl, tv⟩, rfl⟩, tv⟩
   ·have h := An c6 h
    refine Aq (Ab (Ab (Aa Ac rfl (qf BB rfl (ql Bh rfl (AZ AJ rfl (qm rfl (Ad ?_))))))))
    refine AK (L := DY N p0 p1) h (fun v7 => mk [(2, oD (.ptr 2 0)), (3, oD (.ptr 3 0)), (43, pD (.sl (p0.fVersions.map Ai))), (44, iD ((p0.fVersions.length : Int))), (45, iD v7)] [(2, .box [sC (p0.fVersions.map Ai), sC (p0.fNow.map Ai), sC (p0.fTarget.map Ai), sC (p0.fTables.map Ao)]), (3, .box [sC (p1.fBase.map Ai), sC (p1.fNext.map Ai), sC (p1.fHeld.map Bg)])]) (fun v8 => mk [(2, oD (.ptr 2 0)), (3, oD (.ptr 3 0))] [(2, .box [sC (p0.fVersions.map Ai), sC (p0.fNow.map Ai), sC (p0.fTarget.map Ai), sC (p0.fTables.map Ao)]), (3, .box [sC (p1.fBase.map Ai), sC (p1.fNext.map Ai), sC (p1.fHeld.map Bg)])]) (fun _ _ => rfl) (sm [] _ _ rfl rfl) (fun j7 n7 v7 h => ?_) (fun v8 s h hs => ?_)
    ·unfold DY at h
     refine Ab (Aa Ac rfl (A1 rfl (Ad (Ab ?_))))
     refine Ap rfl (fun c9 => ?_) (fun c9 => ?_)
     ·have h := Am c9 h
      refine Aq (Ab (AR (Ab (Aa Ac rfl (qm rfl ?_)))))
      obtain ⟨v10, a10, b10, h⟩ := Aj h
      refine qi AJ DA a10 (Ah b10) rfl (qk Cs rfl (qa rfl (qa rfl (Ad (Ab ?_)))))
      refine AU h (fun v11 => mk [(2, oD (.ptr 2 0)), (3, oD (.ptr 3 0)), (6, iD v7), (43, pD (.sl (p0.fVersions.map Ai))), (44, iD ((p0.fVersions.length : Int))), (45, iD v7), (81, bD v11)] [(2, .box [sC (p0.fVersions.map Ai), sC (p0.fNow.map Ai), sC (p0.fTarget.map Ai), sC (p0.fTables.map Ao)]), (3, .box [sC (p1.fBase.map Ai), sC (p1.fNext.map Ai), sC (p1.fHeld.map Bg)])]) (fun j11 h => ?_) (fun v11 h => ?_)
      ·refine Aa Ac rfl (qf CS rfl (ql Bh rfl (qm rfl ?_)))
       obtain ⟨v12, a12, b12, h⟩ := Aj h
       refine qi AJ DA a12 (Ah b12) rfl (qk Cs rfl (A1 rfl (qm rfl ?_)))
       refine AG (t := 56) rfl (fun c13 => ?_) (fun c13 => ?_)
       ·have h := Am c13 h
        refine qn rfl (qn rfl (qn rfl (qn rfl (qn rfl (qn rfl (qn rfl (qp rfl (qm rfl (qn rfl (qn rfl (qn rfl (qn rfl (qn rfl (qn rfl (qp rfl (qm rfl (qn rfl (qn rfl (qn rfl (qn rfl (qn rfl (qn rfl (qn rfl (qp rfl (Ad ?_)))))))))))))))))))))))))
        exact Aw _ h (sm [] _ _ rfl rfl)
       ·have h := An c13 h
        refine qf CS rfl (ql Bh rfl (qm rfl ?_))
        obtain ⟨v14, a14, b14, h⟩ := Aj h
        refine qi AJ DA a14 (Ah b14) rfl (qk Cs rfl (qm rfl (Dz rfl (qp rfl (qm rfl ?_)))))
        refine AG (t := 65) rfl (fun c15 => ?_) (fun c15 => ?_)
        ·have h := Am c15 h
         refine qn rfl (qn rfl (qn rfl (qn rfl (qn rfl (qn rfl (qp rfl (qm rfl (qn rfl (qn rfl (qn rfl (qn rfl (qn rfl (qn rfl (qn rfl (qp rfl (Ad ?_))))))))))))))))
         exact Aw _ h (sm [] _ _ rfl rfl)
        ·have h := An c15 h
         refine qf BH rfl (ql Bh rfl (qm rfl ?_))
         obtain ⟨v16, a16, b16, h⟩ := Aj h
         refine qi AJ DA a16 (Ah b16) rfl (qk Cs rfl (A1 rfl (qp rfl (qm rfl ?_))))
         refine AG (t := 73) rfl (fun c17 => ?_) (fun c17 => ?_)
         ·have h := Am c17 h
          refine qn rfl (qn rfl (qn rfl (qn rfl (qn rfl (qn rfl (qn rfl (qp rfl (Ad ?_))))))))
          exact Aw _ h (sm [] _ _ rfl rfl)
         ·have h := An c17 h
          refine qf BH rfl (ql Bh rfl (qm rfl ?_))
          obtain ⟨v18, a18, b18, h⟩ := Aj h
          refine qi AJ DA a18 (Ah b18) rfl (qk Cs rfl (qm rfl (Dz rfl (qp rfl (Ad ?_)))))
          exact Aw _ h (sm [] _ _ rfl rfl)
      ·refine Ap rfl (fun c19 => ?_) (fun c19 => ?_)
       ·have h := Am c19 h
        refine Ab (Aa Ac rfl (qa rfl (Ad ?_)))
        obtain rfl := sj h
        refine Al (sm [] [(4, iD 7)] [] rfl rfl) (Az ?_)
        exact ⟨⟨[_], ⟨.tmp _ _ rfl, tv⟩, rfl⟩, tv⟩
       ·have h := An c19 h
        refine Aq (Ab (Aa Ac rfl (qf CS rfl (ql Bh rfl (qm rfl ?_)))))
        obtain ⟨v20, a20, b20, h⟩ := Aj h
        refine qi AJ DA a20 (Ah b20) rfl (qk Cs rfl (qf BH rfl (ql Bh rfl (qm rfl ?_))))
        obtain ⟨v21, a21, b21, h⟩ := Aj h
        refine qi AJ DA a21 (Ah b21) rfl (qk Cs rfl (BM rfl (AQ (by kernel_rfl) ?_)))
        refine Ap rfl (fun c22 => ?_) (fun c22 => ?_)
        ·have h := Am c22 h
         refine Ab (Aa Ac rfl (qa rfl (Ad ?_)))
         obtain rfl := sj h
         refine Al (sm [] [(4, iD 1)] [] rfl rfl) (Az ?_)
         exact ⟨⟨[_], ⟨.tmp _ _ rfl, tv⟩, rfl⟩, tv⟩
        ·have h := An c22 h
         refine Aq (Aa Ac rfl (AY rfl (qm rfl (Ad ?_))))
         exact Aw _ h (sm [] _ _ rfl rfl)
     ·have h := An c9 h
      refine AW ?_
      exact Aw _ h (sm [] _ _ rfl rfl)
    ·refine Al hs (Ab (Ab (Aa Ac rfl (qf CO rfl (ql He rfl (AZ Ed rfl (qm rfl (Ad ?_))))))))
     refine AK (L := DF N p0 p1) h (fun v23 => mk [(2, oD (.ptr 2 0)), (3, oD (.ptr 3 0)), (95, pD (.sl (p0.fTables.map Ao))), (96, iD ((p0.fTables.length : Int))), (97, iD v23)] [(2, .box [sC (p0.fVersions.map Ai), sC (p0.fNow.map Ai), sC (p0.fTarget.map Ai), sC (p0.fTables.map Ao)]), (3, .box [sC (p1.fBase.map Ai), sC (p1.fNext.map Ai), sC (p1.fHeld.map Bg)])]) (fun v24 => mk [] []) (fun _ _ => rfl) (sm [] _ _ rfl rfl) (fun j23 n23 v23 h => ?_) (fun v24 s h hs => ?_)
     ·unfold DF at h
      refine Ab (Aa Ac rfl (A1 rfl (Ad (Ab ?_))))
      refine Ap rfl (fun c25 => ?_) (fun c25 => ?_)
      ·have h := Am c25 h
       refine Aq (Ab (AR (Ab (Aa Ac rfl (qm rfl ?_)))))
       obtain ⟨v26, a26, b26, h⟩ := Aj h
       refine qi Ed Eb a26 (Ah b26) rfl (qK Hn Eb rfl (qz Km rfl (qa rfl (qs Eb rfl (Ad (Ab (Aa Ac rfl (qa rfl (qa rfl (Ad ?_))))))))))
       refine AU h (fun v27 => mk [(2, oD (.ptr 2 0)), (3, oD (.ptr 3 0)), (8, iD v23), (10, pD (.val (.int .u8 v27.1))), (11, pD (.val (.int .u8 v27.2))), (95, pD (.sl (p0.fTables.map Ao))), (96, iD ((p0.fTables.length : Int))), (97, iD v23)] [(2, .box [sC (p0.fVersions.map Ai), sC (p0.fNow.map Ai), sC (p0.fTarget.map Ai), sC (p0.fTables.map Ao)]), (3, .box [sC (p1.fBase.map Ai), sC (p1.fNext.map Ai), sC (p1.fHeld.map Bg)])]) (fun j27 h => ?_) (fun v27 h => ?_)
       ·refine Ab (Aa Ac rfl (qL Hn Eb rfl ?_))
        obtain ⟨v28, a28, h⟩ := bind_some h
        refine AH [] (Jj N v26 v28 a28) WV rfl (Ad ?_)
        refine Ap rfl (fun c29 => ?_) (fun c29 => ?_)
        ·have h := Am c29 h
         refine Aa Ac rfl (qL A0 Ay rfl (qf Db rfl (ql Cs rfl ?_)))
         obtain ⟨v30, a30, h⟩ := bind_some h
         refine AH [] (IR N p1 v26.fFrom v30 a30) WC rfl (qf BB rfl (ql Bh rfl (qf Db rfl (ql Cs rfl ?_))))
         obtain ⟨v31, a31, b31, h⟩ := Aj h
         refine qi AJ DA a31 (Ah b31) rfl (qk Cs rfl ?_)
         obtain ⟨c32, h⟩ := AN h
         refine HA rfl c32 (CM rfl (qa rfl (qa rfl (AQ (by kernel_rfl) ?_))))
         exact Aw _ h (sm [] _ _ rfl rfl)
        ·have h := An c29 h
         refine Aq ?_
         exact Aw _ h (sm [] _ _ rfl rfl)
       ·refine AU h (fun v33 => mk [(2, oD (.ptr 2 0)), (3, oD (.ptr 3 0)), (95, pD (.sl (p0.fTables.map Ao))), (96, iD ((p0.fTables.length : Int))), (97, iD v23), (133, bD v33)] [(2, .box [sC (p0.fVersions.map Ai), sC (p0.fNow.map Ai), sC (p0.fTarget.map Ai), sC (p0.fTables.map Ao)]), (3, .box [sC (p1.fBase.map Ai), sC (p1.fNext.map Ai), sC (p1.fHeld.map Bg)])]) (fun j33 h => ?_) (fun v33 h => ?_)
        ·refine Aa Ac rfl (qm rfl (qf CC rfl (ql GN rfl (qm rfl ?_))))
         obtain ⟨v34, a34, b34, h⟩ := Aj h
         refine qi C4 FE a34 (Ah b34) rfl (qk Jl rfl (Is rfl (Cw rfl (qm rfl ?_))))
         refine AG (t := 124) rfl (fun c35 => ?_) (fun c35 => ?_)
         ·have h := Am c35 h
          refine qn rfl (qn rfl (qn rfl (qn rfl (qn rfl (qn rfl (qn rfl (qn rfl (qp rfl (Ad ?_)))))))))
          exact Aw _ h (sm [] _ _ rfl rfl)
         ·have h := An c35 h
          refine qf CC rfl (ql GN rfl (qm rfl ?_))
          obtain ⟨v36, a36, b36, h⟩ := Aj h
          refine qi C4 FE a36 (Ah b36) rfl (qk Jl rfl (qm rfl (Is rfl (Cw rfl (qp rfl (Ad ?_))))))
          exact Aw _ h (sm [] _ _ rfl rfl)
        ·refine Ap rfl (fun c37 => ?_) (fun c37 => ?_)
         ·have h := Am c37 h
          refine Ab (Aa Ac rfl (qa rfl (Ad ?_)))
          obtain rfl := sj h
          refine Al (sm [] [(4, iD 1)] [] rfl rfl) (Az ?_)
          exact ⟨⟨[_], ⟨.tmp _ _ rfl, tv⟩, rfl⟩, tv⟩
         ·have h := An c37 h
          refine Aq (Aa Ac rfl (AY rfl (qm rfl (Ad ?_))))
          exact Aw _ h (sm [] _ _ rfl rfl)
      ·have h := An c25 h
       refine AW ?_
       exact Aw _ h (sm [] _ _ rfl rfl)
     ·refine Al hs (Ab (Aa Ac rfl (qa rfl (Ad ?_))))
      obtain rfl := sj h
      refine Al (sm [] [(4, iD 0)] [] rfl rfl) (Az ?_)
      exact ⟨⟨[_], ⟨.tmp _ _ rfl, tv⟩, rfl⟩, tv⟩
theorem Fo (N : Nat) (p0 : List Int) (r : (List Int)) (h : BP N p0 = some r) : AE Tryz.prog 59 [pD (.sl (p0.map Bg))] [(1, r.map Bg)] (oD (.own 0)) := by
 unfold BP at h
 refine Ar (n := 8) (rs := [.tmp 2]) Tryz.func59 rfl rfl rfl (A7 rfl) (A7 rfl) rfl fun w0 S0 => ?_
 refine Ab (Aa Ac rfl (qa rfl (Ad (Ab (Ab (Aa Ac rfl (qm rfl ?_)))))))
 refine Sq (.p rfl) rfl C4 ?_
 refine Ad ?_
 refine R6 rfl (fun c2 => ?_) ?_
 ·have c2 := List.map_eq_nil_iff.1 c2
  rw [c2] at h
  have h : (some (([] : List Int))) = some r := h
  refine Ab (Aa Ac rfl (qa rfl (Ad ?_)))
  obtain rfl := sj h
  refine Al ((Bn 2 2001 1 rfl rfl rfl).trans (sm [(1000, 2001)] [(2, oD (.own 1000))] [(1000, .vec 1 ((([] : List Int)).map Bg))] rfl rfl)) (Az ?_)
  exact ⟨⟨[_], ⟨.tmp _ _ rfl, tv⟩, rfl⟩, ⟨rfl, tv⟩⟩
 ·refine Aq (Ab (Aa Ac rfl (D6 C4 FE PP rfl (qm rfl ?_))))
  obtain ⟨c1, h⟩ := AN h
  refine J5 (f := Bg) C4 C4 FE QB PP (fun _ => rfl) c1 rfl (qa rfl (Ad ?_))
  obtain rfl := sj h
  refine Al (sm [(1000, 7)] [(2, oD (.own 1000))] [(1000, .vec 1 (((([] : List Int)) ++ p0).map Bg))] rfl rfl) (Az ?_)
  exact ⟨⟨[_], ⟨.tmp _ _ rfl, tv⟩, rfl⟩, ⟨rfl, tv⟩⟩
theorem K1 (N : Nat) (p0 : Ag) (p1 : Ae) (r : (List Ae) × Int) (h : FL N p0 p1 = some r) : AE Tryz.prog 37 [.e (.agg [sC (p0.fVersions.map Ai), sC (p0.fNow.map Ai), sC (p0.fTarget.map Ai), sC (p0.fTables.map Ao)]), .e (.agg [sC (p1.fBase.map Ai), sC (p1.fNext.map Ai), sC (p1.fHeld.map Bg)])] [(3, r.1.map Af)] (.tup [.one (.own 0), .one (iC r.2)]) := by
 unfold FL at h
 refine Ar (n := 75) (rs := [.tmp 4, .tmp 5]) Tryz.func37 rfl rfl rfl (A7 rfl) (A7 rfl) rfl fun w0 S0 => ?_
 refine Ab (Aa Ac rfl (qb rfl (qb rfl (qa rfl (qa rfl (Ad (Ab (Ab (Aa Ac rfl (qL Ee DQ rfl (qL A0 Ay rfl ?_)))))))))))
 obtain ⟨v1, a1, h⟩ := bind_some h
 refine AH [] (Iv N p0 p1 v1 a1) Vq rfl (qa rfl (Ad (Ab (Aa Ac rfl (qm rfl (Cw rfl (Ad ?_)))))))
 refine Ap rfl (fun c2 => ?_) (fun c2 => ?_)
 ·have h := Am c2 h
  refine Ab (Aa Ac rfl (qm rfl (qa rfl (qa rfl (Ad ?_)))))
  obtain rfl := sj h
  refine Al ((Bn 4 2001 3 rfl rfl rfl).trans (sm [(1000, 2001)] [(4, oD (.own 1000)), (5, iD v1)] [(1000, .vec 3 ((([] : List Ae)).map Af))] rfl rfl)) (Az ?_)
  exact ⟨⟨[_, _], ⟨.tmp _ _ rfl, ⟨.tmp _ _ rfl, tv⟩⟩, rfl⟩, ⟨rfl, tv⟩⟩
 ·have h := An c2 h
  refine Aq (Ab (Aa Ac rfl (qa rfl (Ad (Ab (Ab (Aa Ac rfl (qf BH rfl (ql Bh rfl (AZ AJ rfl (qm rfl (Ad ?_))))))))))))
  refine AK (L := DK N p1) h (fun v3 => mk [(3, oD (.ptr 3 0)), (7, oD (.own 2002)), (22, pD (.sl (p1.fNext.map Ai))), (23, iD ((p1.fNext.length : Int))), (24, iD v3.2)] [(3, .box [sC (p1.fBase.map Ai), sC (p1.fNext.map Ai), sC (p1.fHeld.map Bg)]), (2002, .vec 1 (v3.1.map Ai))]) (fun v4 => mk [(3, oD (.ptr 3 0)), (7, oD (.own 2003))] [(3, .box [sC (p1.fBase.map Ai), sC (p1.fNext.map Ai), sC (p1.fHeld.map Bg)]), (2003, .vec 1 (v4.map Ai))]) (fun _ _ => rfl) ((Bn 7 2005 1 rfl rfl rfl).trans (sm [(2002, 2005)] _ _ rfl rfl)) (fun j3 n3 v3 h => ?_) (fun v4 s h hs => ?_)
  ·unfold DK at h
   refine Ab (Aa Ac rfl (A1 rfl (Ad (Ab ?_))))
   refine Ap rfl (fun c5 => ?_) (fun c5 => ?_)
   ·have h := Am c5 h
    refine Aq ?_
    refine AU h (fun v6 => mk [(3, oD (.ptr 3 0)), (7, oD (.own 2004)), (22, pD (.sl (p1.fNext.map Ai))), (23, iD ((p1.fNext.length : Int))), (24, iD v3.2)] [(3, .box [sC (p1.fBase.map Ai), sC (p1.fNext.map Ai), sC (p1.fHeld.map Bg)]), (2004, .vec 1 (v6.map Ai))]) (fun j6 h => ?_) (fun v6 h => ?_)
    ·refine AR (Ab (Aa Ac rfl (qm rfl ?_)))
     obtain ⟨v7, a7, b7, h⟩ := Aj h
     refine qi AJ DA a7 (Ah b7) rfl (qk Cs rfl (qa rfl (qa rfl (Ad (Ab (Aa Ac rfl (qm rfl (Dz rfl (Ad ?_)))))))))
     refine Ap rfl (fun c8 => ?_) (fun c8 => ?_)
     ·have h := Am c8 h
      refine Aa Ac rfl (qm rfl (qm rfl (D6 AJ DA KE rfl ?_)))
      obtain ⟨c9, h⟩ := AN h
      refine Da (f := Ai) AJ AJ DA LQ KE c9 rfl (qa rfl (Ad ?_))
      exact Aw _ h (sm [(2004, 34)] _ _ rfl rfl)
     ·have h := An c8 h
      refine Aq ?_
      exact Aw _ h (sm [(2004, 2002)] _ _ rfl rfl)
    ·refine Aa Ac rfl (AY rfl (qm rfl (Ad ?_)))
     exact Aw _ h (sm [(2002, 2004)] _ _ rfl rfl)
   ·have h := An c5 h
    refine AW ?_
    exact Aw _ h (sm [(2003, 2002)] _ _ rfl rfl)
  ·refine Al hs (Ab (Aa Ac rfl (qa rfl (Ad (Ab (Ab (Aa Ac rfl (qm rfl (Dh AJ rfl ?_)))))))))
   obtain ⟨c10, h⟩ := AN h
   refine HA rfl c10 (qm rfl (Ad ?_))
   refine AK (L := CV N p1 v4) h (fun v11 => mk [(3, oD (.ptr 3 0)), (7, oD (.own 2006)), (10, oD (.own 2007)), (38, iD ((Co .i64 1 ((v4.length : Int))))), (39, iD v11.2)] [(3, .box [sC (p1.fBase.map Ai), sC (p1.fNext.map Ai), sC (p1.fHeld.map Bg)]), (2006, .vec 1 (v4.map Ai)), (2007, .vec 3 (v11.1.map Af))]) (fun v12 => mk [(10, oD (.own 2008))] [(2008, .vec 3 (v12.map Af))]) (fun _ _ => rfl) ((Bn 10 2027 3 rfl rfl rfl).trans (sm [(2006, 2003), (2007, 2027)] _ _ rfl rfl)) (fun j11 n11 v11 h => ?_) (fun v12 s h hs => ?_)
   ·unfold CV at h
    refine Ab (Aa Ac rfl (A1 rfl (Ad (Ab ?_))))
    refine Ap rfl (fun c13 => ?_) (fun c13 => ?_)
    ·have h := Am c13 h
     refine Aq (Ab (AR (Ab (Aa Ac rfl (qm rfl (qa rfl (Ad (Ab (Aa Ac rfl (qf CS rfl (ql Bh rfl ?_)))))))))))
     obtain ⟨v14, a14, h⟩ := bind_some h
     refine AH [2009] (DS N p1.fBase v14 a14) Ui rfl (qf BH rfl (ql Bh rfl ?_))
     obtain ⟨v15, a15, h⟩ := bind_some h
     refine AH [2010] (DS N p1.fNext v15 a15) Ui rfl (qf CC rfl (ql GN rfl ?_))
     obtain ⟨v16, a16, h⟩ := bind_some h
     refine AH [2011] (Fo N p1.fHeld v16 a16) XM rfl (BO Cu HQ rfl (qz Cu rfl (qs Ay rfl (AQ (by kernel_rfl) (Ab (Ab (Aa Ac rfl (qm rfl (Dh AJ rfl (qm rfl (Ad ?_)))))))))))
     refine AK (L := CT N v4 v11) h (fun v17 => mk [(3, oD (.ptr 3 0)), (7, oD (.own 2015)), (10, oD (.own 2016)), (11, iD v11.2), (12, oD (.ptr 12 0)), (38, iD ((Co .i64 1 ((v4.length : Int))))), (39, iD v11.2), (52, oD (.own 2015)), (53, iD ((v4.length : Int))), (54, iD v17.2)] [(3, .box [sC (p1.fBase.map Ai), sC (p1.fNext.map Ai), sC (p1.fHeld.map Bg)]), (12, .box [.own 2012, .own 2013, .own 2014]), (2012, .vec 1 (v14.map Ai)), (2013, .vec 1 (v17.1.map Ai)), (2014, .vec 1 (v16.map Bg)), (2015, .vec 1 (v4.map Ai)), (2016, .vec 3 (v11.1.map Af))]) (fun v18 => mk [(3, oD (.ptr 3 0)), (7, oD (.own 2020)), (10, oD (.own 2021)), (12, oD (.ptr 12 0)), (38, iD ((Co .i64 1 ((v4.length : Int))))), (39, iD v11.2)] [(3, .box [sC (p1.fBase.map Ai), sC (p1.fNext.map Ai), sC (p1.fHeld.map Bg)]), (12, .box [.own 2017, .own 2018, .own 2019]), (2017, .vec 1 (v14.map Ai)), (2018, .vec 1 (v18.map Ai)), (2019, .vec 1 (v16.map Bg)), (2020, .vec 1 (v4.map Ai)), (2021, .vec 3 (v11.1.map Af))]) (fun _ _ => rfl) (sm [(2012, 2009), (2013, 2010), (2014, 2011), (2015, 2006), (2016, 2007)] _ _ rfl rfl) (fun j17 n17 v17 h => ?_) (fun v18 s h hs => ?_)
     ·unfold CT at h
      refine Ab (Aa Ac rfl (A1 rfl (Ad (Ab ?_))))
      refine Ap rfl (fun c19 => ?_) (fun c19 => ?_)
      ·have h := Am c19 h
       refine Aq ?_
       refine AU h (fun v20 => mk [(3, oD (.ptr 3 0)), (7, oD (.own 2025)), (10, oD (.own 2026)), (11, iD v11.2), (12, oD (.ptr 12 0)), (38, iD ((Co .i64 1 ((v4.length : Int))))), (39, iD v11.2), (52, oD (.own 2025)), (53, iD ((v4.length : Int))), (54, iD v17.2)] [(3, .box [sC (p1.fBase.map Ai), sC (p1.fNext.map Ai), sC (p1.fHeld.map Bg)]), (12, .box [.own 2022, .own 2023, .own 2024]), (2022, .vec 1 (v14.map Ai)), (2023, .vec 1 (v20.map Ai)), (2024, .vec 1 (v16.map Bg)), (2025, .vec 1 (v4.map Ai)), (2026, .vec 3 (v11.1.map Af))]) (fun j20 h => ?_) (fun v20 h => ?_)
       ·refine AR (Ab (Aa Ac rfl (qm rfl ?_)))
        obtain ⟨v21, a21, b21, h⟩ := Aj h
        refine qI AJ DA a21 (Ah b21) rfl (qj Cs (Ah b21) rfl (qa rfl (qa rfl (Ad (Ab (Aa Ac rfl (qm rfl (qm rfl ?_))))))))
        obtain ⟨c22, h⟩ := AN h
        refine Hi rfl c22 (Lh rfl (BM rfl (Ad ?_)))
        refine Ap rfl (fun c23 => ?_) (fun c23 => ?_)
        ·have h := Am c23 h
         refine Aa Ac rfl (qf BH rfl (ql Bh rfl (qm rfl ?_)))
         obtain ⟨v24, a24, b24, h⟩ := Aj h
         refine qI AJ DA a24 (Ah b24) rfl ?_
         refine Bd rfl rfl rfl rfl (Ah b24) rfl DA rfl (A7 rfl) (Bc Ai v17.1 _ ((-1))) ?_
         refine Ad ?_
         exact Aw _ h (sm [(2022, 2012), (2023, 2013), (2024, 2014), (2025, 2015), (2026, 2016)] _ _ rfl rfl)
        ·have h := An c23 h
         refine Aq ?_
         exact Aw _ h (sm [(2022, 2012), (2023, 2013), (2024, 2014), (2025, 2015), (2026, 2016)] _ _ rfl rfl)
       ·refine Aa Ac rfl (AY rfl (qm rfl (Ad ?_)))
        exact Aw _ h (sm [(2012, 2022), (2013, 2023), (2014, 2024), (2015, 2025), (2016, 2026)] _ _ rfl rfl)
      ·have h := An c19 h
       refine AW ?_
       exact Aw _ h (sm [(2017, 2012), (2018, 2013), (2019, 2014), (2020, 2015), (2021, 2016)] _ _ rfl rfl)
     ·refine Al hs (Aa Ac rfl (qm rfl (qL A0 Ay rfl (CL (A4 2017 _ _ rfl rfl) (CL (A4 2018 _ _ rfl rfl) (CL (A4 2019 _ _ rfl rfl) (D6 AM Ay Cu rfl ?_)))))))
      obtain ⟨c25, h⟩ := AN h
      refine Da (f := Af) AM AM Ay JN Cu c25 rfl (qa rfl (Ad (Aa Ac rfl (AY rfl (qm rfl (Ad ?_))))))
      exact Aw _ h (sm [(2006, 2020), (2007, 72)] _ _ rfl rfl)
    ·have h := An c13 h
     refine AW ?_
     exact Aw _ h (sm [(2008, 2007)] _ _ rfl rfl)
   ·refine Al hs (Ab (Aa Ac rfl (qm rfl (qa rfl (qa rfl (Ad ?_))))))
    obtain rfl := sj h
    refine Al (sm [(1000, 2008)] [(4, oD (.own 1000)), (5, iD 0)] [(1000, .vec 3 (v12.map Af))] rfl rfl) (Az ?_)
    exact ⟨⟨[_, _], ⟨.tmp _ _ rfl, ⟨.tmp _ _ rfl, tv⟩⟩, rfl⟩, ⟨rfl, tv⟩⟩
theorem MJ (N : Nat) (p0 : Ag) (p1 : Ae) (r : (List Av)) (h : Fk N p0 p1 = some r) : AE Tryz.prog 94 [.e (.agg [sC (p0.fVersions.map Ai), sC (p0.fNow.map Ai), sC (p0.fTarget.map Ai), sC (p0.fTables.map Ao)]), .e (.agg [sC (p1.fBase.map Ai), sC (p1.fNext.map Ai), sC (p1.fHeld.map Bg)])] [(3, r.map A3)] (oD (.own 0)) := by
 unfold Fk at h
 refine Ar (n := 98) (rs := [.tmp 4]) Tryz.func94 rfl rfl rfl (A7 rfl) (A7 rfl) rfl fun w0 S0 => ?_
 refine Ab (Aa Ac rfl (qb rfl (qb rfl (qa rfl (Ad (Ab (Aa Ac rfl (qa rfl (Ad (Ab (Ab (Aa Ac rfl (qf CO rfl (ql He rfl (AZ Ed rfl (qm rfl (Ad ?_)))))))))))))))))
 refine AK (L := Df N p0 p1) h (fun v1 => mk [(3, oD (.ptr 3 0)), (5, oD (.own 2001)), (15, pD (.sl (p0.fTables.map Ao))), (16, iD ((p0.fTables.length : Int))), (17, iD v1.2)] [(3, .box [sC (p1.fBase.map Ai), sC (p1.fNext.map Ai), sC (p1.fHeld.map Bg)]), (2001, .vec 3 (v1.1.map A3))]) (fun v2 => mk [(5, oD (.own 2002))] [(2002, .vec 3 (v2.map A3))]) (fun _ _ => rfl) ((Bn 5 2013 3 rfl rfl rfl).trans (sm [(2001, 2013)] _ _ rfl rfl)) (fun j1 n1 v1 h => ?_) (fun v2 s h hs => ?_)
 ·unfold Df at h
  refine Ab (Aa Ac rfl (A1 rfl (Ad (Ab ?_))))
  refine Ap rfl (fun c3 => ?_) (fun c3 => ?_)
  ·have h := Am c3 h
   refine Aq (Ab (AR (Ab (Aa Ac rfl (qm rfl ?_)))))
   obtain ⟨v4, a4, b4, h⟩ := Aj h
   refine qi Ed Eb a4 (Ah b4) rfl (qK Hn Eb rfl (qz Km rfl (qa rfl (qs Eb rfl (Ad (Ab (Aa Ac rfl (qL A0 Ay rfl (qf Db rfl (ql Cs rfl ?_))))))))))
   obtain ⟨v5, a5, h⟩ := bind_some h
   refine AH [] (IR N p1 v4.fFrom v5 a5) WC rfl (qL A0 Ay rfl (qf H2 rfl (ql Cs rfl ?_)))
   obtain ⟨v6, a6, h⟩ := bind_some h
   refine AH [] (IR N p1 v4.fTo v6 a6) WC rfl (qa rfl (qa rfl (AQ (by kernel_rfl) ?_)))
   refine AU h (fun v7 => mk [(3, oD (.ptr 3 0)), (5, oD (.own 2003)), (6, iD v1.2), (7, oD (.ptr 7 0)), (8, pD (.val (.int .u8 v7))), (9, pD (.val (.int .u8 v6))), (15, pD (.sl (p0.fTables.map Ao))), (16, iD ((p0.fTables.length : Int))), (17, iD v1.2)] [(3, .box [sC (p1.fBase.map Ai), sC (p1.fNext.map Ai), sC (p1.fHeld.map Bg)]), (7, .box [iC v4.fKind, iC v4.fFrom, iC v4.fTo, .pure (.val (.bool v4.fAware)), sC (v4.fOK.map (EN eB)), sC (v4.fRewrite.map (EN eB))]), (2003, .vec 3 (v1.1.map A3))]) (fun j7 h => ?_) (fun v7 h => ?_)
   ·refine Ab (Aa Ac rfl (qL Hn Eb rfl ?_))
    obtain ⟨v8, a8, h⟩ := bind_some h
    refine AH [] (Jj N v4 v8 a8) WV rfl (Ad ?_)
    refine Ap rfl (fun c9 => ?_) (fun c9 => ?_)
    ·have h := Am c9 h
     refine Aa Ac rfl (qf CC rfl (ql GN rfl (qm rfl ?_)))
     obtain ⟨v10, a10, b10, h⟩ := Aj h
     refine qi C4 FE a10 (Ah b10) rfl (qk Jl rfl (qa rfl (Ad ?_)))
     exact Aw _ h (sm [(2003, 2001)] _ _ rfl rfl)
    ·have h := An c9 h
     refine Aq ?_
     exact Aw _ h (sm [(2003, 2001)] _ _ rfl rfl)
   ·refine Ab (Aa Ac rfl (qf Jv rfl (ql JL rfl (AZ Gg rfl (qm rfl (Ad ?_))))))
    refine AK (L := Cj N v1 v4 v6 v7) h (fun v11 => mk [(3, oD (.ptr 3 0)), (5, oD (.own 2004)), (6, iD v1.2), (7, oD (.ptr 7 0)), (8, pD (.val (.int .u8 v7))), (9, pD (.val (.int .u8 v6))), (15, pD (.sl (p0.fTables.map Ao))), (16, iD ((p0.fTables.length : Int))), (17, iD v1.2), (39, iD ((v4.fOK.length : Int))), (40, iD v11.2)] [(3, .box [sC (p1.fBase.map Ai), sC (p1.fNext.map Ai), sC (p1.fHeld.map Bg)]), (7, .box [iC v4.fKind, iC v4.fFrom, iC v4.fTo, .pure (.val (.bool v4.fAware)), sC (v4.fOK.map (EN eB)), sC (v4.fRewrite.map (EN eB))]), (2004, .vec 3 (v11.1.map A3))]) (fun v12 => mk [(3, oD (.ptr 3 0)), (5, oD (.own 2005)), (15, pD (.sl (p0.fTables.map Ao))), (16, iD ((p0.fTables.length : Int))), (17, iD v1.2)] [(3, .box [sC (p1.fBase.map Ai), sC (p1.fNext.map Ai), sC (p1.fHeld.map Bg)]), (2005, .vec 3 (v12.map A3))]) (fun _ _ => rfl) (sm [(2004, 2003)] _ _ rfl rfl) (fun j11 n11 v11 h => ?_) (fun v12 s h hs => ?_)
    ·unfold Cj at h
     refine Ab (Aa Ac rfl (A1 rfl (Ad (Ab ?_))))
     refine Ap rfl (fun c13 => ?_) (fun c13 => ?_)
     ·have h := Am c13 h
      refine Aq ?_
      refine AU h (fun v14 => mk [(3, oD (.ptr 3 0)), (5, oD (.own 2006)), (6, iD v1.2), (7, oD (.ptr 7 0)), (8, pD (.val (.int .u8 v7))), (9, pD (.val (.int .u8 v6))), (15, pD (.sl (p0.fTables.map Ao))), (16, iD ((p0.fTables.length : Int))), (17, iD v1.2), (39, iD ((v4.fOK.length : Int))), (40, iD v11.2)] [(3, .box [sC (p1.fBase.map Ai), sC (p1.fNext.map Ai), sC (p1.fHeld.map Bg)]), (7, .box [iC v4.fKind, iC v4.fFrom, iC v4.fTo, .pure (.val (.bool v4.fAware)), sC (v4.fOK.map (EN eB)), sC (v4.fRewrite.map (EN eB))]), (2006, .vec 3 (v14.map A3))]) (fun j14 h => ?_) (fun v14 h => ?_)
      ·refine AR (Ab (Aa Ac rfl (qm rfl (qa rfl (Ad (Ab (Ab (Aa Ac rfl (qm rfl (qm rfl ?_))))))))))
       obtain ⟨c15, h⟩ := AN h
       refine Hi rfl c15 (Lh rfl (BM rfl (Ad ?_)))
       refine Ap rfl (fun c16 => ?_) (fun c16 => ?_)
       ·have h := Am c16 h
        refine AW ?_
        exact Aw _ h (sm [(2006, 2004)] _ _ rfl rfl)
       ·have h := An c16 h
        refine Aq (Ab (Aa Ac rfl (qa rfl (Ad (Ab (Ab (Aa Ac rfl (qf Jv rfl (ql JL rfl (qm rfl ?_))))))))))
        obtain ⟨v17, a17, b17, h⟩ := Aj h
        refine qi Gg Jz a17 (Ah b17) rfl (qk K0 rfl (AZ Fe rfl (qm rfl (Ad ?_))))
        refine AK (L := BX N v1 v4 v6 v11 v17) h (fun v18 => mk [(3, oD (.ptr 3 0)), (5, oD (.own 2007)), (6, iD v1.2), (7, oD (.ptr 7 0)), (8, pD (.val (.int .u8 v7))), (9, pD (.val (.int .u8 v6))), (10, iD v11.2), (11, bD v18.2.1), (15, pD (.sl (p0.fTables.map Ao))), (16, iD ((p0.fTables.length : Int))), (17, iD v1.2), (39, iD ((v4.fOK.length : Int))), (40, iD v11.2), (52, pD (.sl (v17.map eB))), (53, iD ((v17.length : Int))), (54, iD v18.2.2)] [(3, .box [sC (p1.fBase.map Ai), sC (p1.fNext.map Ai), sC (p1.fHeld.map Bg)]), (7, .box [iC v4.fKind, iC v4.fFrom, iC v4.fTo, .pure (.val (.bool v4.fAware)), sC (v4.fOK.map (EN eB)), sC (v4.fRewrite.map (EN eB))]), (2007, .vec 3 (v18.1.map A3))]) (fun v19 => mk [(3, oD (.ptr 3 0)), (5, oD (.own 2008)), (6, iD v1.2), (7, oD (.ptr 7 0)), (8, pD (.val (.int .u8 v7))), (9, pD (.val (.int .u8 v6))), (10, iD v11.2), (11, bD v19.2), (15, pD (.sl (p0.fTables.map Ao))), (16, iD ((p0.fTables.length : Int))), (17, iD v1.2), (39, iD ((v4.fOK.length : Int))), (40, iD v11.2)] [(3, .box [sC (p1.fBase.map Ai), sC (p1.fNext.map Ai), sC (p1.fHeld.map Bg)]), (7, .box [iC v4.fKind, iC v4.fFrom, iC v4.fTo, .pure (.val (.bool v4.fAware)), sC (v4.fOK.map (EN eB)), sC (v4.fRewrite.map (EN eB))]), (2008, .vec 3 (v19.1.map A3))]) (fun _ _ => rfl) (sm [(2007, 2004)] _ _ rfl rfl) (fun j18 n18 v18 h => ?_) (fun v19 s h hs => ?_)
        ·unfold BX at h
         refine Ab (Aa Ac rfl (A1 rfl (Ad (Ab ?_))))
         refine Ap rfl (fun c20 => ?_) (fun c20 => ?_)
         ·have h := Am c20 h
          refine Aq ?_
          refine AU h (fun v21 => mk [(3, oD (.ptr 3 0)), (5, oD (.own 2009)), (6, iD v1.2), (7, oD (.ptr 7 0)), (8, pD (.val (.int .u8 v7))), (9, pD (.val (.int .u8 v6))), (10, iD v11.2), (11, bD v21.2), (15, pD (.sl (p0.fTables.map Ao))), (16, iD ((p0.fTables.length : Int))), (17, iD v1.2), (39, iD ((v4.fOK.length : Int))), (40, iD v11.2), (52, pD (.sl (v17.map eB))), (53, iD ((v17.length : Int))), (54, iD v18.2.2)] [(3, .box [sC (p1.fBase.map Ai), sC (p1.fNext.map Ai), sC (p1.fHeld.map Bg)]), (7, .box [iC v4.fKind, iC v4.fFrom, iC v4.fTo, .pure (.val (.bool v4.fAware)), sC (v4.fOK.map (EN eB)), sC (v4.fRewrite.map (EN eB))]), (2009, .vec 3 (v21.1.map A3))]) (fun j21 h => ?_) (fun v21 h => ?_)
          ·refine AR (Ab (Aa Ac rfl (qm rfl ?_)))
           obtain ⟨v22, a22, b22, h⟩ := Aj h
           refine qi Fe QC a22 (Ah b22) rfl (qk Sx rfl (qa rfl (qa rfl (Ad (Ab (Ab (Aa Ac rfl (qm rfl (qm rfl ?_)))))))))
           obtain ⟨c23, h⟩ := AN h
           refine Hi rfl c23 (Lh rfl (BM rfl (Ad ?_)))
           refine Ap rfl (fun c24 => ?_) (fun c24 => ?_)
           ·have h := Am c24 h
            refine AW ?_
            exact Aw _ h (sm [(2009, 2007)] _ _ rfl rfl)
           ·have h := An c24 h
            refine Aq ?_
            refine AU h (fun v25 => mk [(3, oD (.ptr 3 0)), (5, oD (.own 2010)), (6, iD v1.2), (7, oD (.ptr 7 0)), (8, pD (.val (.int .u8 v7))), (9, pD (.val (.int .u8 v6))), (10, iD v11.2), (11, bD v25), (12, iD v18.2.2), (13, bD v22), (15, pD (.sl (p0.fTables.map Ao))), (16, iD ((p0.fTables.length : Int))), (17, iD v1.2), (39, iD ((v4.fOK.length : Int))), (40, iD v11.2), (52, pD (.sl (v17.map eB))), (53, iD ((v17.length : Int))), (54, iD v18.2.2)] [(3, .box [sC (p1.fBase.map Ai), sC (p1.fNext.map Ai), sC (p1.fHeld.map Bg)]), (7, .box [iC v4.fKind, iC v4.fFrom, iC v4.fTo, .pure (.val (.bool v4.fAware)), sC (v4.fOK.map (EN eB)), sC (v4.fRewrite.map (EN eB))]), (2010, .vec 3 (v18.1.map A3))]) (fun j25 h => ?_) (fun v25 h => ?_)
            ·refine Aa Ac rfl (qm rfl (qm rfl ?_))
             refine AG (t := 65) rfl (fun c26 => ?_) (fun c26 => ?_)
             ·have h := Am c26 h
              refine qn rfl (qp rfl (qa rfl (Ad ?_)))
              exact Aw _ h (sm [(2010, 2007)] _ _ rfl rfl)
             ·have h := An c26 h
              refine qm rfl (qp rfl (qa rfl (Ad ?_)))
              exact Aw _ h (sm [(2010, 2007)] _ _ rfl rfl)
            ·refine AU h (fun v27 => mk [(3, oD (.ptr 3 0)), (5, oD (.own 2011)), (6, iD v1.2), (7, oD (.ptr 7 0)), (8, pD (.val (.int .u8 v7))), (9, pD (.val (.int .u8 v6))), (10, iD v11.2), (11, bD v25), (12, iD v18.2.2), (15, pD (.sl (p0.fTables.map Ao))), (16, iD ((p0.fTables.length : Int))), (17, iD v1.2), (39, iD ((v4.fOK.length : Int))), (40, iD v11.2), (52, pD (.sl (v17.map eB))), (53, iD ((v17.length : Int))), (54, iD v18.2.2), (74, bD v27)] [(3, .box [sC (p1.fBase.map Ai), sC (p1.fNext.map Ai), sC (p1.fHeld.map Bg)]), (7, .box [iC v4.fKind, iC v4.fFrom, iC v4.fTo, .pure (.val (.bool v4.fAware)), sC (v4.fOK.map (EN eB)), sC (v4.fRewrite.map (EN eB))]), (2011, .vec 3 (v18.1.map A3))]) (fun j27 h => ?_) (fun v27 h => ?_)
             ·refine Aa Ac rfl (qm rfl (B7 rfl (qm rfl ?_)))
              refine AG (t := 70) rfl (fun c28 => ?_) (fun c28 => ?_)
              ·have h := Am c28 h
               refine qf IF rfl (ql Sx rfl (B7 rfl (qp rfl (Ad ?_))))
               exact Aw _ h (sm [(2011, 2010)] _ _ rfl rfl)
              ·have h := An c28 h
               refine qn rfl (qn rfl (qn rfl (qp rfl (Ad ?_))))
               exact Aw _ h (sm [(2011, 2010)] _ _ rfl rfl)
             ·refine Ap rfl (fun c29 => ?_) (fun c29 => ?_)
              ·have h := Am c29 h
               refine Aa Ac rfl (qm rfl (qm rfl (qm rfl (qm rfl (BO HT OT rfl (D6 GG HK HT rfl ?_))))))
               obtain ⟨c30, h⟩ := AN h
               refine Da (f := A3) GG GG HK Pn HT c30 rfl (qa rfl (Ad ?_))
               exact Aw _ h (sm [(2009, 81)] _ _ rfl rfl)
              ·have h := An c29 h
               refine Aq ?_
               exact Aw _ h (sm [(2009, 2011)] _ _ rfl rfl)
          ·refine Aa Ac rfl (AY rfl (qm rfl (Ad ?_)))
           exact Aw _ h (sm [(2007, 2009)] _ _ rfl rfl)
         ·have h := An c20 h
          refine AW ?_
          exact Aw _ h (sm [(2008, 2007)] _ _ rfl rfl)
        ·refine Al hs ?_
         refine AU h (fun v31 => mk [(3, oD (.ptr 3 0)), (5, oD (.own 2012)), (6, iD v1.2), (7, oD (.ptr 7 0)), (8, pD (.val (.int .u8 v7))), (9, pD (.val (.int .u8 v6))), (10, iD v11.2), (15, pD (.sl (p0.fTables.map Ao))), (16, iD ((p0.fTables.length : Int))), (17, iD v1.2), (39, iD ((v4.fOK.length : Int))), (40, iD v11.2), (88, bD v31)] [(3, .box [sC (p1.fBase.map Ai), sC (p1.fNext.map Ai), sC (p1.fHeld.map Bg)]), (7, .box [iC v4.fKind, iC v4.fFrom, iC v4.fTo, .pure (.val (.bool v4.fAware)), sC (v4.fOK.map (EN eB)), sC (v4.fRewrite.map (EN eB))]), (2012, .vec 3 (v19.1.map A3))]) (fun j31 h => ?_) (fun v31 h => ?_)
         ·refine Aa Ac rfl (qf IF rfl (ql Sx rfl (qm rfl ?_)))
          refine AG (t := 85) rfl (fun c32 => ?_) (fun c32 => ?_)
          ·have h := Am c32 h
           refine qm rfl (B7 rfl (qp rfl (Ad ?_)))
           exact Aw _ h (sm [(2012, 2008)] _ _ rfl rfl)
          ·have h := An c32 h
           refine qn rfl (qn rfl (qp rfl (Ad ?_)))
           exact Aw _ h (sm [(2012, 2008)] _ _ rfl rfl)
         ·refine Ap rfl (fun c33 => ?_) (fun c33 => ?_)
          ·have h := Am c33 h
           refine Aa Ac rfl (qm rfl (qm rfl (qm rfl (BO HT OT rfl (D6 GG HK HT rfl ?_)))))
           obtain ⟨c34, h⟩ := AN h
           refine Da (f := A3) GG GG HK Pn HT c34 rfl (qa rfl (Ad ?_))
           exact Aw _ h (sm [(2006, 94)] _ _ rfl rfl)
          ·have h := An c33 h
           refine Aq ?_
           exact Aw _ h (sm [(2006, 2012)] _ _ rfl rfl)
      ·refine Aa Ac rfl (AY rfl (qm rfl (Ad ?_)))
       exact Aw _ h (sm [(2004, 2006)] _ _ rfl rfl)
     ·have h := An c13 h
      refine AW ?_
      exact Aw _ h (sm [(2005, 2004)] _ _ rfl rfl)
    ·refine Al hs (Aa Ac rfl (AY rfl (qm rfl (Ad ?_))))
     exact Aw _ h (sm [(2001, 2005)] _ _ rfl rfl)
  ·have h := An c3 h
   refine AW ?_
   exact Aw _ h (sm [(2002, 2001)] _ _ rfl rfl)
 ·refine Al hs (Ab (Aa Ac rfl (qm rfl (qa rfl (Ad ?_)))))
  obtain rfl := sj h
  refine Al (sm [(1000, 2002)] [(4, oD (.own 1000))] [(1000, .vec 3 (v2.map A3))] rfl rfl) (Az ?_)
  exact ⟨⟨[_], ⟨.tmp _ _ rfl, tv⟩, rfl⟩, ⟨rfl, tv⟩⟩
theorem Qn (N : Nat) (p0 : Ag) (p1 : Ae) (r : Ae × Av × Int) (h : Hg N p0 p1 = some r) : AE Tryz.prog 68 [.e (.agg [sC (p0.fVersions.map Ai), sC (p0.fNow.map Ai), sC (p0.fTarget.map Ai), sC (p0.fTables.map Ao)]), .e (.agg [sC (p1.fBase.map Ai), sC (p1.fNext.map Ai), sC (p1.fHeld.map Bg)])] [] (.tup [.agg [sC (r.1.fBase.map Ai), sC (r.1.fNext.map Ai), sC (r.1.fHeld.map Bg)], .agg [iC r.2.1.fTable, iC r.2.1.fWriter, iC r.2.1.fReader], .one (iC r.2.2)]) := by
 unfold Hg at h
 refine Ar (n := 42) (rs := [.cell 4 50, .cell 5 113, .tmp 6]) Tryz.func68 rfl rfl rfl (A7 rfl) (A7 rfl) rfl fun w0 S0 => ?_
 refine Ab (Aa Ac rfl (qb rfl (qb rfl (qz Cu rfl (qz HT rfl (qa rfl (Ad (Ab (Aa Ac rfl (qL Ee DQ rfl (qL A0 Ay rfl ?_)))))))))))
 obtain ⟨v1, a1, h⟩ := bind_some h
 refine AH [2001] (K1 N p0 p1 v1 a1) X9 rfl (qm rfl (qx rfl (qx rfl (qa rfl (qa rfl (Ad (Ab (Ab (Aa Ac rfl (qm rfl (Cw rfl (Ad ?_))))))))))))
 refine Ap rfl (fun c2 => ?_) (fun c2 => ?_)
 ·have h := Am c2 h
  refine Ab (Aa Ac rfl (BO Cu HQ rfl (BO HT OT rfl (qm rfl (qs Ay rfl (qs HK rfl (qa rfl (Ad ?_))))))))
  obtain rfl := sj h
  refine Al ((OZ 4 _ rfl).trans (sm [] [(4, oD (.ptr 4 0)), (5, oD (.ptr 5 0)), (6, iD v1.2)] [(4, .box [sC ((([] : List Int)).map Ai), sC ((([] : List Int)).map Ai), sC ((([] : List Int)).map Bg)]), (5, .box [iC 0, iC 0, iC 0])] rfl rfl)) (Az ?_)
  exact ⟨⟨[_, _, _], ⟨.cellN _ _ _ _ _ _ _ rfl rfl A0 Ay rfl rfl (Jb rfl), ⟨.cellN _ _ _ _ _ _ _ rfl rfl Sc HK rfl rfl (Jb rfl), ⟨.tmp _ _ rfl, tv⟩⟩⟩, rfl⟩, tv⟩
 ·have h := An c2 h
  refine Aq (Ab (Ab (Aa Ac rfl (qm rfl (Dh AM rfl (qm rfl (Ad ?_)))))))
  refine AK (L := Ey N p0 v1) h (fun v3 => mk [(2, oD (.ptr 2 0)), (4, oD (.ptr 4 0)), (5, oD (.ptr 5 0)), (23, oD (.own 2002)), (24, iD ((v1.1.length : Int))), (25, iD v3)] [(2, .box [sC (p0.fVersions.map Ai), sC (p0.fNow.map Ai), sC (p0.fTarget.map Ai), sC (p0.fTables.map Ao)]), (4, .box [.pure (.nil0), .pure (.nil0), .pure (.nil0)]), (5, .box [iC 0, iC 0, iC 0]), (2002, .vec 3 (v1.1.map Af))]) (fun v4 => mk [(4, oD (.ptr 4 0)), (5, oD (.ptr 5 0))] [(4, .box [.pure (.nil0), .pure (.nil0), .pure (.nil0)]), (5, .box [iC 0, iC 0, iC 0])]) (fun _ _ => rfl) (sm [(2002, 2001)] _ _ rfl rfl) (fun j3 n3 v3 h => ?_) (fun v4 s h hs => ?_)
  ·unfold Ey at h
   refine Ab (Aa Ac rfl (A1 rfl (Ad (Ab ?_))))
   refine Ap rfl (fun c5 => ?_) (fun c5 => ?_)
   ·have h := Am c5 h
    refine Aq (Ab (AR (Ab (Aa Ac rfl ?_))))
    obtain ⟨v6, a6, b6, h⟩ := Aj h
    refine qI AM Ay a6 (Ah b6) rfl (qJ A0 Ay (Ah b6) rfl (qz Cu rfl (qs Ay rfl (Ad (Ab (Aa Ac rfl (qL Ee DQ rfl (qL A0 Ay rfl ?_))))))))
    obtain ⟨v7, a7, h⟩ := bind_some h
    refine AH [2003] (MJ N p0 v6 v7 a7) ZF rfl (qa rfl (Ad (Ab (Aa Ac rfl (qm rfl (Dh GG rfl (Fh rfl (Ad ?_))))))))
    refine Ap rfl (fun c8 => ?_) (fun c8 => ?_)
    ·have h := Am c8 h
     refine Ab (Aa Ac rfl (qL A0 Ay rfl (qm rfl ?_)))
     obtain ⟨v9, a9, b9, h⟩ := Aj h
     refine qI GG HK a9 (Ah b9) rfl (qJ Sc HK (Ah b9) rfl (qs Ay rfl (qs HK rfl (qa rfl (AQ (by kernel_rfl) ?_)))))
     obtain rfl := sj h
     refine Al (sm [] [(4, oD (.ptr 4 0)), (5, oD (.ptr 5 0)), (6, iD 0)] [(4, .box [sC (v6.fBase.map Ai), sC (v6.fNext.map Ai), sC (v6.fHeld.map Bg)]), (5, .box [iC v9.fTable, iC v9.fWriter, iC v9.fReader])] rfl rfl) (Az ?_)
     exact ⟨⟨[_, _, _], ⟨.cellN _ _ _ _ _ _ _ rfl rfl A0 Ay rfl rfl (Jb rfl), ⟨.cellN _ _ _ _ _ _ _ rfl rfl Sc HK rfl rfl (Jb rfl), ⟨.tmp _ _ rfl, tv⟩⟩⟩, rfl⟩, tv⟩
    ·have h := An c8 h
     refine Aq (Aa Ac rfl (AY rfl (qm rfl (Ad ?_))))
     exact Aw _ h (sm [] _ _ rfl rfl)
   ·have h := An c5 h
    refine AW ?_
    exact Aw _ h (sm [] _ _ rfl rfl)
  ·refine Al hs (Ab (Aa Ac rfl (BO Cu HQ rfl (BO HT OT rfl (qs Ay rfl (qs HK rfl (qa rfl (Ad ?_))))))))
   obtain rfl := sj h
   refine Al ((OZ 4 _ rfl).trans (sm [] [(4, oD (.ptr 4 0)), (5, oD (.ptr 5 0)), (6, iD 15)] [(4, .box [sC ((([] : List Int)).map Ai), sC ((([] : List Int)).map Ai), sC ((([] : List Int)).map Bg)]), (5, .box [iC 0, iC 0, iC 0])] rfl rfl)) (Az ?_)
   exact ⟨⟨[_, _, _], ⟨.cellN _ _ _ _ _ _ _ rfl rfl A0 Ay rfl rfl (Jb rfl), ⟨.cellN _ _ _ _ _ _ _ rfl rfl Sc HK rfl rfl (Jb rfl), ⟨.tmp _ _ rfl, tv⟩⟩⟩, rfl⟩, tv⟩
theorem Jn (N : Nat) (p0 : Ag) (p1 : Ae) (r : Bool × Int) (h : Fc N p0 p1 = some r) : AE Tryz.prog 45 [.e (.agg [sC (p0.fVersions.map Ai), sC (p0.fNow.map Ai), sC (p0.fTarget.map Ai), sC (p0.fTables.map Ao)]), .e (.agg [sC (p1.fBase.map Ai), sC (p1.fNext.map Ai), sC (p1.fHeld.map Bg)])] [] (.tup [.one (.pure (.val (.bool r.1))), .one (iC r.2)]) := by
 unfold Fc at h
 refine Ar (n := 22) (rs := [.tmp 4, .tmp 5]) Tryz.func45 rfl rfl rfl (A7 rfl) (A7 rfl) rfl fun w0 S0 => ?_
 refine Ab (Aa Ac rfl (qb rfl (qb rfl (qa rfl (qa rfl (Ad (Ab (Aa Ac rfl (qL Ee DQ rfl (qL A0 Ay rfl ?_))))))))))
 obtain ⟨v1, a1, h⟩ := bind_some h
 refine AH [] (Qn N p0 p1 v1 a1) Zy rfl (qm rfl (qx rfl (qx rfl (qx rfl (qz Cu rfl (qz HT rfl (qs Ay rfl (qs HK rfl (qa rfl (Ad (Ab (Aa Ac rfl (qm rfl (Ad (AR (Ab (Aa Ac rfl (BM rfl (qa rfl (Ad ?_))))))))))))))))))))
 refine Ap rfl (fun c2 => ?_) (fun c2 => ?_)
 ·have h := Am c2 h
  refine Ab (Aa Ac rfl (qa rfl (qa rfl (Ad ?_))))
  obtain rfl := sj h
  refine Al (sm [] [(4, bD false), (5, iD 0)] [] rfl rfl) (Az ?_)
  exact ⟨⟨[_, _], ⟨.tmp _ _ rfl, ⟨.tmp _ _ rfl, tv⟩⟩, rfl⟩, tv⟩
 ·have h := An c2 h
  refine Ab (Aa Ac rfl (BM rfl (qa rfl (Ad ?_))))
  refine Ap rfl (fun c3 => ?_) (fun c3 => ?_)
  ·have h := Am c3 h
   refine Ab (Aa Ac rfl (qa rfl (qa rfl (Ad ?_))))
   obtain rfl := sj h
   refine Al (sm [] [(4, bD true), (5, iD 0)] [] rfl rfl) (Az ?_)
   exact ⟨⟨[_, _], ⟨.tmp _ _ rfl, ⟨.tmp _ _ rfl, tv⟩⟩, rfl⟩, tv⟩
  ·have h := An c3 h
   refine Ab (Aa Ac rfl (qm rfl (qa rfl (qa rfl (Ad ?_)))))
   obtain rfl := sj h
   refine Al (sm [] [(4, bD false), (5, iD v1.2.2)] [] rfl rfl) (Az ?_)
   exact ⟨⟨[_, _], ⟨.tmp _ _ rfl, ⟨.tmp _ _ rfl, tv⟩⟩, rfl⟩, tv⟩
theorem Kt (N : Nat) (p0 : Ag) (r : Ae × Bool × Int) (h : Fr N p0 = some r) : AE Tryz.prog 47 [.e (.agg [sC (p0.fVersions.map Ai), sC (p0.fNow.map Ai), sC (p0.fTarget.map Ai), sC (p0.fTables.map Ao)])] [(1, r.1.fBase.map Ai), (1, r.1.fNext.map Ai), (1, r.1.fHeld.map Bg)] (.tup [.agg [.own 0, .own 1, .own 2], .one (.pure (.val (.bool r.2.1))), .one (iC r.2.2)]) := by
 unfold Fr at h
 refine Ar (n := 26) (rs := [.cell 2 50, .tmp 3, .tmp 4]) Tryz.func47 rfl rfl rfl (A7 rfl) (A7 rfl) rfl fun w0 S0 => ?_
 refine Ab (Aa Ac rfl (qb rfl (qz Cu rfl (qa rfl (qa rfl (Ad (Ab (Aa Ac rfl (qL Ee DQ rfl ?_)))))))))
 obtain ⟨v1, a1, h⟩ := bind_some h
 refine AH [2001, 2002, 2003] (Me N p0 v1 a1) Xy rfl (qm rfl (qx rfl (qx rfl (qz Cu rfl (qs Ay rfl (qa rfl (Ad (Ab (Ab (Aa Ac rfl (qm rfl (Cw rfl (Ad ?_)))))))))))))
 refine Ap rfl (fun c2 => ?_) (fun c2 => ?_)
 ·have h := Am c2 h
  refine Ab (Aa Ac rfl (BO Cu HQ rfl (qm rfl (qs Ay rfl (qa rfl (qa rfl (Ad ?_)))))))
  obtain rfl := sj h
  refine Al ((AF 2 0 2004 1 _ rfl rfl rfl rfl).trans ((AF 2 1 2005 1 _ rfl rfl rfl rfl).trans ((AF 2 2 2006 1 _ rfl rfl rfl rfl).trans (sm [(1000, 2004), (1001, 2005), (1002, 2006)] [(2, oD (.ptr 2 0)), (3, bD false), (4, iD v1.2)] [(2, .box [.own 1000, .own 1001, .own 1002]), (1000, .vec 1 ((([] : List Int)).map Ai)), (1001, .vec 1 ((([] : List Int)).map Ai)), (1002, .vec 1 ((([] : List Int)).map Bg))] rfl rfl)))) (Az ?_)
  exact ⟨⟨[_, _, _], ⟨.cellN _ _ _ _ _ _ _ rfl rfl A0 Ay rfl rfl (Jb rfl), ⟨.tmp _ _ rfl, ⟨.tmp _ _ rfl, tv⟩⟩⟩, rfl⟩, ⟨rfl, rfl, rfl, tv⟩⟩
 ·have h := An c2 h
  refine Aq (Ab (Aa Ac rfl (qL Ee DQ rfl (qL A0 Ay rfl ?_))))
  obtain ⟨v3, a3, h⟩ := bind_some h
  refine FT [] [2001, 2002, 2003] (Jn N p0 v1.1 v3 a3) WK Ex rfl (qm rfl (qx rfl (qx rfl (qa rfl (qa rfl (Ad (Ab (Aa Ac rfl (qL A0 Ay rfl (qm rfl (qm rfl (qs Ay rfl (qa rfl (qa rfl (Ad ?_)))))))))))))))
  obtain rfl := sj h
  refine Al (sm [(1000, 2001), (1001, 2002), (1002, 2003)] [(2, oD (.ptr 2 0)), (3, bD v3.1), (4, iD v3.2)] [(2, .box [.own 1000, .own 1001, .own 1002]), (1000, .vec 1 (v1.1.fBase.map Ai)), (1001, .vec 1 (v1.1.fNext.map Ai)), (1002, .vec 1 (v1.1.fHeld.map Bg))] rfl rfl) (Az ?_)
  exact ⟨⟨[_, _, _], ⟨.cellN _ _ _ _ _ _ _ rfl rfl A0 Ay rfl rfl (Jb rfl), ⟨.tmp _ _ rfl, ⟨.tmp _ _ rfl, tv⟩⟩⟩, rfl⟩, ⟨rfl, rfl, rfl, tv⟩⟩
theorem JW (N : Nat) (p0 : Ae) (r : ByteArray) (h : Fv N p0 = some r) : AE Tryz.prog 48 [.e (.agg [sC (p0.fBase.map Ai), sC (p0.fNext.map Ai), sC (p0.fHeld.map Bg)])] [] (pD (.val (.string r))) := by
 unfold Fv at h
 refine Ar (n := 44) (rs := [.tmp 2]) Tryz.func48 rfl rfl rfl (A7 rfl) (A7 rfl) rfl fun w0 S0 => ?_
 refine Ab (Aa Ac rfl (qb rfl (qa rfl (Ad (Ab (Aa Ac rfl (qa rfl (Ad (Ab (Ab (Aa Ac rfl (qf CS rfl (ql Bh rfl (AZ AJ rfl (qm rfl (Ad ?_))))))))))))))))
 refine AK (L := D4 N p0) h (fun v1 => mk [(1, oD (.ptr 1 0)), (3, oD (.own 2001)), (9, iD ((p0.fBase.length : Int))), (10, iD v1.2)] [(1, .box [sC (p0.fBase.map Ai), sC (p0.fNext.map Ai), sC (p0.fHeld.map Bg)]), (2001, .vec 1 (v1.1.map Bg))]) (fun v2 => mk [(1, oD (.ptr 1 0)), (3, oD (.own 2002))] [(1, .box [sC (p0.fBase.map Ai), sC (p0.fNext.map Ai), sC (p0.fHeld.map Bg)]), (2002, .vec 1 (v2.map Bg))]) (fun _ _ => rfl) ((Bn 3 2003 1 rfl rfl rfl).trans (sm [(2001, 2003)] _ _ rfl rfl)) (fun j1 n1 v1 h => ?_) (fun v2 s h hs => ?_)
 ·unfold D4 at h
  refine Ab (Aa Ac rfl (A1 rfl (Ad (Ab ?_))))
  refine Ap rfl (fun c3 => ?_) (fun c3 => ?_)
  ·have h := Am c3 h
   refine Aq (Ab (AR (Ab (Aa Ac rfl (qm rfl (qa rfl (Ad (Aa Ac rfl (qm rfl (qf CS rfl (ql Bh rfl (qm rfl ?_))))))))))))
   obtain ⟨v4, a4, b4, h⟩ := Aj h
   refine qi AJ DA a4 (Ah b4) rfl (qk Cs rfl (G5 W0 YA rfl (qf BH rfl (ql Bh rfl (qm rfl ?_)))))
   obtain ⟨v5, a5, b5, h⟩ := Aj h
   refine qi AJ DA a5 (Ah b5) rfl (qk Cs rfl (AY rfl (G5 W0 YA rfl (D6 IA V1 Yx rfl ?_))))
   obtain ⟨c6, h⟩ := AN h
   refine Da (f := Bg) IA IA V1 Xs Yx c6 rfl (qa rfl (AQ (by kernel_rfl) (Aa Ac rfl (AY rfl (qm rfl (Ad ?_))))))
   exact Aw _ h (sm [(2001, 28)] _ _ rfl rfl)
  ·have h := An c3 h
   refine AW ?_
   exact Aw _ h (sm [(2002, 2001)] _ _ rfl rfl)
 ·refine Al hs (Ab (Ab (Aa Ac rfl (qf CC rfl (ql GN rfl (AZ C4 rfl (qm rfl (Ad ?_))))))))
  refine AK (L := C3 N p0) h (fun v7 => mk [(3, oD (.own 2004)), (31, pD (.sl (p0.fHeld.map Bg))), (32, iD ((p0.fHeld.length : Int))), (33, iD v7.2)] [(2004, .vec 1 (v7.1.map Bg))]) (fun v8 => mk [(3, oD (.own 2005))] [(2005, .vec 1 (v8.map Bg))]) (fun _ _ => rfl) (sm [(2004, 2002)] _ _ rfl rfl) (fun j7 n7 v7 h => ?_) (fun v8 s h hs => ?_)
  ·unfold C3 at h
   refine Ab (Aa Ac rfl (A1 rfl (Ad (Ab ?_))))
   refine Ap rfl (fun c9 => ?_) (fun c9 => ?_)
   ·have h := Am c9 h
    refine Aq (Ab (AR (Ab (Aa Ac rfl ?_))))
    obtain ⟨v10, a10, b10, h⟩ := Aj h
    refine qi C4 FE a10 (Ah b10) rfl (qk Jl rfl (qa rfl (Ad (Aa Ac rfl (qm rfl (qm rfl (D6 IA V1 Yx rfl ?_)))))))
    obtain ⟨c11, h⟩ := AN h
    refine Da (f := Bg) IA IA V1 Xs Yx c11 rfl (qa rfl (Ad (Aa Ac rfl (AY rfl (qm rfl (Ad ?_))))))
    exact Aw _ h (sm [(2004, 40)] _ _ rfl rfl)
   ·have h := An c9 h
    refine AW ?_
    exact Aw _ h (sm [(2005, 2004)] _ _ rfl rfl)
  ·refine Al hs (Ab (Aa Ac rfl (qm rfl ?_)))
   refine Un v8 (.p rfl) rfl (Qc Bg _ _ _) ⟨rfl, tv⟩ rfl XN VE ?_
   refine qa rfl (Ad ?_)
   obtain rfl := sj h
   refine Al (sm [] [(2, pD (.val (.string ((CD v8)))))] [] rfl rfl) (Az ?_)
   exact ⟨⟨[_], ⟨.tmp _ _ rfl, tv⟩, rfl⟩, tv⟩
end Go.Lift
