/- Lemmas for PlanShortestSaid, which YtohibkdhajkmdaaFinP6 proves. -/
import Derived.Test.YtohibkdhajkmdaaTypes
import Derived.Test.YtohibkdhajkmdaaProg
import Derived.KernelRfl
/- The shallow programs. Written by a program (gen.py) out of the code. -/
namespace Go.Lift
def CB (_ : Nat) (p0 : Bool) (p1 : Bool) : Option Ad :=
 some ((Ad.mk (([2, 2] : List Int)) (([0, 0] : List Int)) (([1, 1] : List Int)) (([(AG.mk 1 0 1 p1 (([([true, (!p0)] : List Bool), ([false, true] : List Bool)] : List (List Bool))) (([] : List (List Bool))))] : List AG))))
def DK (_ : Nat) (p0 : Int) (p1 : Int) : Option Bool :=
 Bp (fun (v1 : Bool) =>
  some v1)
 fun j1 =>
 A0 ((decide (0 ≤ p0)))
  (j1 (decide (p0 < p1)))
  (j1 false)
def F7 (_ : Nat) (p0 : Int) (p1 : Bool) : Option Bool :=
 Bp (fun (v1 : Bool) =>
  some v1)
 fun j1 =>
 A0 ((p0 == 1))
  (j1 true)
  (A0 ((p0 == 2))
   (j1 true)
   (A0 ((p0 == 3))
    (j1 (!p1))
    (A0 ((p0 == 4))
     (j1 (!p1))
     (j1 false))))
def DC (_ : Nat) (p0 : List Bool) (p1 : Int) : Option Bool :=
 some (((p0.length : Int) != p1))
def Bm (N : Nat) (p0 : List (List Bool)) (p1 : (List Bool) → Option Bool) (j1 : Unit → Option Int) : Nat → Int → Option Int
 | 0, _ => none
 | n1 + 1, v1 =>
  A0 ((decide (v1 < (p0.length : Int))))
   ((BS p0 v1).bind fun v4 =>
   (p1 v4).bind fun v5 =>
   A0 v5
    (some v1)
    (Bm N p0 p1 j1 n1 (IntKind.wrap .i64 (v1 + 1))))
   (j1 ())
def C7 (N : Nat) (p0 : List (List Bool)) (p1 : (List Bool) → Option Bool) : Option Int :=
 Bm N p0 p1 (fun (_ : Unit) =>
  some ((-1))) N 0
def CP (N : Nat) (p0 : List (List Bool)) (p1 : (List Bool) → Option Bool) : Option Bool :=
 (C7 N p0 p1).bind fun v1 =>
 some ((decide (0 ≤ v1)))
def EH (N : Nat) (p0 : List (List Bool)) (p1 : Int) (p2 : Int) : Option Bool :=
 Bp (fun (v1 : Bool) =>
  some v1)
 fun j1 =>
 A0 (((p0.length : Int) == p1))
  ((CP N p0 ((fun (x : List Bool) => DC N x p2))).bind fun v3 =>
  j1 (!v3))
  (j1 false)
def CT (N : Nat) (p1 : AG) (j19 : Unit → Option Int) : Nat → Int → Option Int
 | 0, _ => none
 | n19 + 1, v19 =>
  A0 ((decide (v19 < (p1.fRewrite.length : Int))))
   ((BS p1.fRewrite v19).bind fun v22 =>
   (BS v22 v19).bind fun v23 =>
   A0 ((!v23))
    (some 1)
    (CT N p1 j19 n19 (IntKind.wrap .i64 (v19 + 1))))
   (j19 ())
def Fy (N : Nat) (p0 : Ad) (p1 : AG) : Option Int :=
 (F7 N p1.fKind p1.fAware).bind fun v1 =>
 A0 ((!v1))
  (some 1)
  (Bp (fun (v3 : Bool) =>
   A0 v3
    (some 4)
    ((BS p0.fVersions p1.fFrom).bind fun v8 =>
    Bp (fun (v9 : Bool) =>
     A0 v9
      (some 6)
      (CT N p1 (fun (_ : Unit) =>
       some 0) N 0))
    fun j9 =>
    (BS p0.fVersions p1.fTo).bind fun v10 =>
    (EH N p1.fOK v8 v10).bind fun v11 =>
    A0 ((!v11))
     (j9 true)
     (A0 ((p1.fKind == 4))
      ((EH N p1.fRewrite v8 v8).bind fun v14 =>
      A0 ((!v14))
       (j9 true)
       (A0 ((!((p1.fKind == 4))))
        (j9 (decide (0 < (p1.fRewrite.length : Int))))
        (j9 false)))
      (A0 ((!((p1.fKind == 4))))
       (j9 (decide (0 < (p1.fRewrite.length : Int))))
       (j9 false)))))
  fun j3 =>
  (DK N p1.fFrom ((p0.fVersions.length : Int))).bind fun v4 =>
  A0 ((!v4))
   (j3 true)
   ((DK N p1.fTo ((p0.fVersions.length : Int))).bind fun v6 =>
   j3 (!v6)))
def BW (N : Nat) (p0 : Ad) (j7 : Unit → Option Int) : Nat → Int → Option Int
 | 0, _ => none
 | n7 + 1, v7 =>
  A0 ((decide (v7 < (p0.fVersions.length : Int))))
   ((BS p0.fVersions v7).bind fun v10 =>
   Bp (fun (v11 : Bool) =>
    A0 v11
     (some 7)
     (BW N p0 j7 n7 (IntKind.wrap .i64 (v7 + 1))))
   fun j11 =>
   A0 ((decide (v10 < 1)))
    (j11 true)
    (A0 ((decide (6 < v10)))
     (j11 true)
     ((BS p0.fNow v7).bind fun v14 =>
     (DK N v14 v10).bind fun v15 =>
     A0 ((!v15))
      (j11 true)
      ((BS p0.fTarget v7).bind fun v17 =>
      (DK N v17 v10).bind fun v18 =>
      j11 (!v18)))))
   (j7 ())
def BN (N : Nat) (p0 : Ad) (j20 : Unit → Option Int) : Nat → Int → Option Int
 | 0, _ => none
 | n20 + 1, v20 =>
  A0 ((decide (v20 < (p0.fTables.length : Int))))
   ((BS p0.fTables v20).bind fun v23 =>
   (Fy N p0 v23).bind fun v24 =>
   A0 ((v24 != 0))
    (some v24)
    (BN N p0 j20 n20 (IntKind.wrap .i64 (v20 + 1))))
   (j20 ())
def Dd (N : Nat) (p0 : Ad) : Option Int :=
 Bp (fun (v1 : Bool) =>
  A0 v1
   (some 3)
   (Bp (fun (v4 : Bool) =>
    A0 v4
     (some 6)
     (BW N p0 (fun (_ : Unit) =>
      BN N p0 (fun (_ : Unit) =>
       some 0) N 0) N 0))
   fun j4 =>
   A0 (((p0.fNow.length : Int) != (p0.fVersions.length : Int)))
    (j4 true)
    (j4 ((p0.fTarget.length : Int) != (p0.fVersions.length : Int)))))
 fun j1 =>
 A0 ((decide (6 < (p0.fVersions.length : Int))))
  (j1 true)
  (j1 (decide (12 < (p0.fTables.length : Int))))
def BJ (_ : Nat) (p0 : List Int) : Option ((List Int)) :=
 (Ei ((([] : List Int)).length + p0.length ≤ Dz)).bind fun _ =>
 some ((([] : List Int)) ++ p0)
def Ge (_ : Nat) (p0 : Int) (p1 : Int) : Option (Int × Int) :=
 some ((IntKind.wrap .u32 ((E6 .u64 ((IntKind.wrap .u64 ((IntKind.wrap .u64 p0) * (IntKind.wrap .u64 p1)))) 32))), (IntKind.wrap .u32 ((IntKind.wrap .u64 ((IntKind.wrap .u64 p0) * (IntKind.wrap .u64 p1))))))
def Gg (_ : Nat) (p0 : Int) (p1 : Int) : Option (Int × Int) :=
 some ((IntKind.wrap .u64 ((IntKind.wrap .u64 ((IntKind.wrap .u64 ((E6 .u64 p0 32) * (E6 .u64 p1 32))) + (E6 .u64 ((IntKind.wrap .u64 ((IntKind.wrap .u64 ((E6 .u64 p0 32) * (FK .u64 p1 4294967295))) + (E6 .u64 ((IntKind.wrap .u64 ((FK .u64 p0 4294967295) * (FK .u64 p1 4294967295)))) 32)))) 32))) + (E6 .u64 ((IntKind.wrap .u64 ((FK .u64 ((IntKind.wrap .u64 ((IntKind.wrap .u64 ((E6 .u64 p0 32) * (FK .u64 p1 4294967295))) + (E6 .u64 ((IntKind.wrap .u64 ((FK .u64 p0 4294967295) * (FK .u64 p1 4294967295)))) 32)))) 4294967295) + (IntKind.wrap .u64 ((FK .u64 p0 4294967295) * (E6 .u64 p1 32)))))) 32))), (IntKind.wrap .u64 (p0 * p1)))
def GT (N : Nat) (p0 : Int) (p1 : Int) : Option (Int × Int) :=
 A0 false
  ((Ge N ((IntKind.wrap .u32 p0)) ((IntKind.wrap .u32 p1))).bind fun v2 =>
  some ((IntKind.wrap .u64 v2.1), (IntKind.wrap .u64 v2.2)))
  ((Gg N p0 p1).bind fun v3 =>
  some (v3.1, v3.2))
def Dw (N : Nat) (j9 : ((List Int)) → Option ((List Int))) : Nat → ((List Int) × Int) → Option ((List Int))
 | 0, _ => none
 | n9 + 1, v9 =>
  A0 ((decide (v9.2 < (v9.1.length : Int))))
   ((Ei ((0 : Int) ≤ v9.2 ∧ (v9.2).toNat ≤ v9.1.length ∧ v9.1.length ≤ v9.1.length)).bind fun _ =>
   (Ei ((0 : Int) ≤ v9.2 ∧ 0 ≤ (v9.2).toNat ∧ (v9.2).toNat ≤ v9.1.length)).bind fun _ =>
   Dw N j9 n9 (Ix v9.1 ((v9.2).toNat) ((((v9.1.drop 0).take ((v9.2).toNat))).take (Nat.min (((v9.1.drop 0).take ((v9.2).toNat))).length ((v9.1.length - (v9.2).toNat)))), (IntKind.wrap .i64 (v9.2 + (((Nat.min (((v9.1.drop 0).take ((v9.2).toNat))).length ((v9.1.length - (v9.2).toNat))) : Nat) : Int)))))
   (j9 v9.1)
def D2 (N : Nat) (p0 : List Int) (p1 : Int) : Option ((List Int)) :=
 Bp (fun (_ : Unit) =>
  (GT N ((IntKind.wrap .u64 ((p0.length : Int)))) ((IntKind.wrap .u64 p1))).bind fun v3 =>
  Bp (fun (_ : Unit) =>
   (Ei ((0 : Int) ≤ (IntKind.wrap .i64 v3.2) ∧ (IntKind.wrap .i64 v3.2) ≤ (IntKind.wrap .i64 v3.2) ∧ (IntKind.wrap .i64 v3.2) ≤ (Dz : Int))).bind fun _ =>
   Dw N (fun (v10 : (List Int)) =>
    some v10) N (Ix (List.replicate ((IntKind.wrap .i64 v3.2)).toNat ((0 : Int))) 0 (p0.take (Nat.min p0.length ((List.replicate ((IntKind.wrap .i64 v3.2)).toNat ((0 : Int))).length))), (((Nat.min p0.length ((List.replicate ((IntKind.wrap .i64 v3.2)).toNat ((0 : Int))).length)) : Nat) : Int)))
  fun j4 =>
  Bp (fun (v5 : Bool) =>
   A0 v5
    (none)
    (j4 ()))
  fun j5 =>
  A0 ((decide (0 < v3.1)))
   (j5 true)
   (j5 (decide (9223372036854775807 < v3.2))))
 fun j1 =>
 A0 ((decide (p1 < 0)))
  (none)
  (j1 ())
def ES (_ : Nat) (p0 : AG) : Option Bool :=
 Bp (fun (v1 : Bool) =>
  some v1)
 fun j1 =>
 A0 ((p0.fKind == 3))
  (j1 true)
  (j1 (p0.fKind == 4))
def DL (N : Nat) (p0 : Ad) (j6 : ((List Int)) → Option (Af × Int)) : Nat → ((List Int) × Int) → Option (Af × Int)
 | 0, _ => none
 | n6 + 1, v6 =>
  A0 ((decide (v6.2 < (p0.fTables.length : Int))))
   (Bp (fun (v9 : (List Int)) =>
    DL N p0 j6 n6 (v9, (IntKind.wrap .i64 (v6.2 + 1))))
   fun j9 =>
   (BS p0.fTables v6.2).bind fun v10 =>
   (ES N v10).bind fun v11 =>
   A0 v11
    ((BS p0.fNow v10.fFrom).bind fun v13 =>
    (Ei (0 ≤ v13)).bind fun _ =>
    (BS v6.1 v6.2).bind fun _ =>
    j9 (v6.1.set ((v6.2).toNat) ((DA .u8 1 v13))))
    (j9 v6.1))
   (j6 v6.1)
def FM (N : Nat) (p0 : Ad) : Option (Af × Int) :=
 (Dd N p0).bind fun v1 =>
 A0 ((v1 != 0))
  (some ((Af.mk (([] : List Int)) (([] : List Int)) (([] : List Int))), v1))
  ((BJ N p0.fNow).bind fun v3 =>
  (D2 N (([(-1)] : List Int)) ((p0.fNow.length : Int))).bind fun v4 =>
  (Ei ((0 : Int) ≤ (p0.fTables.length : Int) ∧ (p0.fTables.length : Int) ≤ (p0.fTables.length : Int) ∧ (p0.fTables.length : Int) ≤ (Dz : Int))).bind fun _ =>
  DL N p0 (fun (v7 : (List Int)) =>
   some ((Af.mk v3 v4 v7), 0)) N (List.replicate ((p0.fTables.length : Int)).toNat ((0 : Int)), 0))
def Ev (_ : Nat) (p0 : Af) (p1 : Int) : Option Int :=
 (BS p0.fBase p1).bind fun v1 =>
 (Ei (0 ≤ v1)).bind fun _ =>
 Bp (fun (v3 : Int) =>
  some v3)
 fun j3 =>
 (BS p0.fNext p1).bind fun v4 =>
 A0 ((decide (0 ≤ v4)))
  ((BS p0.fNext p1).bind fun v6 =>
  (Ei (0 ≤ v6)).bind fun _ =>
  j3 (Nq .u8 ((DA .u8 1 v1)) ((DA .u8 1 v6))))
  (j3 (DA .u8 1 v1))
def DJ (N : Nat) (p0 : Ad) (p1 : Af) (j7 : Unit → Option Int) : Nat → Int → Option Int
 | 0, _ => none
 | n7 + 1, v7 =>
  A0 ((decide (v7 < (p0.fVersions.length : Int))))
   ((BS p0.fVersions v7).bind fun v10 =>
   Bp (fun (v11 : Bool) =>
    A0 v11
     (some 7)
     ((BS p1.fBase v7).bind fun v20 =>
     (BS p1.fNext v7).bind fun v21 =>
     A0 ((v20 == v21))
      (some 1)
      (DJ N p0 p1 j7 n7 (IntKind.wrap .i64 (v7 + 1)))))
   fun j11 =>
   (BS p1.fBase v7).bind fun v12 =>
   A0 ((decide (v12 < 0)))
    (j11 true)
    ((BS p1.fBase v7).bind fun v14 =>
    A0 ((decide (v10 ≤ v14)))
     (j11 true)
     ((BS p1.fNext v7).bind fun v16 =>
     A0 ((decide (v16 < (-1))))
      (j11 true)
      ((BS p1.fNext v7).bind fun v18 =>
      j11 (decide (v10 ≤ v18))))))
   (j7 ())
def Dq (N : Nat) (p0 : Ad) (p1 : Af) (j23 : Unit → Option Int) : Nat → Int → Option Int
 | 0, _ => none
 | n23 + 1, v23 =>
  A0 ((decide (v23 < (p0.fTables.length : Int))))
   ((BS p0.fTables v23).bind fun v26 =>
   Bp (fun (v27 : Int × Int) =>
    Bp (fun (v33 : Bool) =>
     A0 v33
      (some 1)
      (Dq N p0 p1 j23 n23 (IntKind.wrap .i64 (v23 + 1))))
    fun j33 =>
    (BS p1.fHeld v23).bind fun v34 =>
    A0 (((C0 .u8 v27.1 v34) != 0))
     (j33 true)
     ((BS p1.fHeld v23).bind fun v36 =>
     j33 ((C0 .u8 v36 v27.2) != 0)))
   fun j27 =>
   (ES N v26).bind fun v28 =>
   A0 v28
    ((Ev N p1 v26.fFrom).bind fun v30 =>
    (BS p0.fVersions v26.fFrom).bind fun v31 =>
    (Ei (0 ≤ v31)).bind fun _ =>
    j27 (v30, (IntKind.wrap .u8 ((DA .u8 1 v31) - 1))))
    (j27 (0, 0)))
   (j23 ())
def EK (N : Nat) (p0 : Ad) (p1 : Af) : Option Int :=
 (Dd N p0).bind fun v1 =>
 A0 ((v1 != 0))
  (some v1)
  (Bp (fun (v3 : Bool) =>
   A0 v3
    (some 6)
    (DJ N p0 p1 (fun (_ : Unit) =>
     Dq N p0 p1 (fun (_ : Unit) =>
      some 0) N 0) N 0))
  fun j3 =>
  A0 (((p1.fBase.length : Int) != (p0.fVersions.length : Int)))
   (j3 true)
   (A0 (((p1.fNext.length : Int) != (p0.fVersions.length : Int)))
    (j3 true)
    (j3 ((p1.fHeld.length : Int) != (p0.fTables.length : Int)))))
def BO (_ : Nat) (p0 : List Int) : Option ((List Int)) :=
 (Ei ((([] : List Int)).length + p0.length ≤ Dz)).bind fun _ =>
 some ((([] : List Int)) ++ p0)
def Dp (N : Nat) (p1 : Af) (j3 : ((List Int)) → Option ((List Af) × Int)) : Nat → ((List Int) × Int) → Option ((List Af) × Int)
 | 0, _ => none
 | n3 + 1, v3 =>
  A0 ((decide (v3.2 < (p1.fNext.length : Int))))
   (Bp (fun (v6 : (List Int)) =>
    Dp N p1 j3 n3 (v6, (IntKind.wrap .i64 (v3.2 + 1))))
   fun j6 =>
   (BS p1.fNext v3.2).bind fun v7 =>
   A0 ((decide (0 ≤ v7)))
    ((Ei (v3.1.length + (([v3.2] : List Int)).length ≤ Dz)).bind fun _ =>
    j6 (v3.1 ++ (([v3.2] : List Int))))
    (j6 v3.1))
   (j3 v3.1)
def CO (N : Nat) (v4 : (List Int)) (v11 : (List Af) × Int) (j17 : ((List Int)) → Option ((List Af) × Int)) : Nat → ((List Int) × Int) → Option ((List Af) × Int)
 | 0, _ => none
 | n17 + 1, v17 =>
  A0 ((decide (v17.2 < (v4.length : Int))))
   (Bp (fun (v20 : (List Int)) =>
    CO N v4 v11 j17 n17 (v20, (IntKind.wrap .i64 (v17.2 + 1))))
   fun j20 =>
   (BS v4 v17.2).bind fun v21 =>
   (Ei (0 ≤ v17.2)).bind fun _ =>
   A0 (((FK .i64 ((E6 .i64 v11.2 v17.2)) 1) == 1))
    ((BS v17.1 v21).bind fun _ =>
    j20 (v17.1.set ((v21).toNat) ((-1))))
    (j20 v17.1))
   (j17 v17.1)
def CN (N : Nat) (p1 : Af) (v4 : (List Int)) (j11 : ((List Af)) → Option ((List Af) × Int)) : Nat → ((List Af) × Int) → Option ((List Af) × Int)
 | 0, _ => none
 | n11 + 1, v11 =>
  A0 ((decide (v11.2 < (DA .i64 1 ((v4.length : Int))))))
   ((BJ N p1.fBase).bind fun v14 =>
   (BJ N p1.fNext).bind fun v15 =>
   (BO N p1.fHeld).bind fun v16 =>
   CO N v4 v11 (fun (v18 : (List Int)) =>
    (Ei (v11.1.length + (([(Af.mk v14 v18 v16)] : List Af)).length ≤ Dz)).bind fun _ =>
    CN N p1 v4 j11 n11 (v11.1 ++ (([(Af.mk v14 v18 v16)] : List Af)), (IntKind.wrap .i64 (v11.2 + 1)))) N (v15, 0))
   (j11 v11.1)
def F3 (N : Nat) (p0 : Ad) (p1 : Af) : Option ((List Af) × Int) :=
 (EK N p0 p1).bind fun v1 =>
 A0 ((v1 != 0))
  (some (([] : List Af), v1))
  (Dp N p1 (fun (v4 : (List Int)) =>
   (Ei (0 ≤ (v4.length : Int))).bind fun _ =>
   CN N p1 v4 (fun (v12 : (List Af)) =>
    some (v12, 0)) N (([] : List Af), 0)) N (([] : List Int), 0))
def BT (N : Nat) (v1 : (List Ak) × Int) (v4 : AG) (v6 : Int) (v11 : (List Ak) × Int) (v17 : List Bool) (j18 : ((List Ak) × Bool) → Option ((List Ak))) : Nat → ((List Ak) × Bool × Int) → Option ((List Ak))
 | 0, _ => none
 | n18 + 1, v18 =>
  A0 ((decide (v18.2.2 < (v17.length : Int))))
   (Bp (fun (v21 : (List Ak) × Bool) =>
    BT N v1 v4 v6 v11 v17 j18 n18 (v21.1, v21.2, (IntKind.wrap .i64 (v18.2.2 + 1))))
   fun j21 =>
   (BS v17 v18.2.2).bind fun v22 =>
   (Ei (0 ≤ v18.2.2)).bind fun _ =>
   A0 (((FK .u8 ((E6 .u8 v6 v18.2.2)) 1) == 0))
    (j21 (v18.1, v18.2.1))
    (Bp (fun (v25 : Bool) =>
     Bp (fun (v27 : Bool) =>
      A0 v27
       ((Ei (v18.1.length + (([(Ak.mk v1.2 v11.2 v18.2.2)] : List Ak)).length ≤ Dz)).bind fun _ =>
       j21 (v18.1 ++ (([(Ak.mk v1.2 v11.2 v18.2.2)] : List Ak)), v25))
       (j21 (v18.1, v25)))
     fun j27 =>
     A0 ((!v22))
      (j27 (!v4.fAware))
      (j27 false))
    fun j25 =>
    A0 v18.2.1
     (j25 true)
     (j25 v22)))
   (j18 (v18.1, v18.2.1))
def Ce (N : Nat) (v1 : (List Ak) × Int) (v4 : AG) (v6 : Int) (v7 : Int) (j11 : ((List Ak)) → Option ((List Ak))) : Nat → ((List Ak) × Int) → Option ((List Ak))
 | 0, _ => none
 | n11 + 1, v11 =>
  A0 ((decide (v11.2 < (v4.fOK.length : Int))))
   (Bp (fun (v14 : (List Ak)) =>
    Ce N v1 v4 v6 v7 j11 n11 (v14, (IntKind.wrap .i64 (v11.2 + 1))))
   fun j14 =>
   (Ei (0 ≤ v11.2)).bind fun _ =>
   A0 (((FK .u8 ((E6 .u8 v7 v11.2)) 1) == 0))
    (j14 v11.1)
    ((BS v4.fOK v11.2).bind fun v17 =>
    BT N v1 v4 v6 v11 v17 (fun (v19 : (List Ak) × Bool) =>
     Bp (fun (v31 : Bool) =>
      A0 v31
       ((Ei (v19.1.length + (([(Ak.mk v1.2 v11.2 ((-1)))] : List Ak)).length ≤ Dz)).bind fun _ =>
       j14 (v19.1 ++ (([(Ak.mk v1.2 v11.2 ((-1)))] : List Ak))))
       (j14 v19.1))
     fun j31 =>
     A0 v4.fAware
      (j31 (!v19.2))
      (j31 false)) N (v11.1, false, 0)))
   (j11 v11.1)
def C4 (N : Nat) (p0 : Ad) (p1 : Af) (j1 : ((List Ak)) → Option ((List Ak))) : Nat → ((List Ak) × Int) → Option ((List Ak))
 | 0, _ => none
 | n1 + 1, v1 =>
  A0 ((decide (v1.2 < (p0.fTables.length : Int))))
   ((BS p0.fTables v1.2).bind fun v4 =>
   (Ev N p1 v4.fFrom).bind fun v5 =>
   (Ev N p1 v4.fTo).bind fun v6 =>
   Bp (fun (v7 : Int) =>
    Ce N v1 v4 v6 v7 (fun (v12 : (List Ak)) =>
     C4 N p0 p1 j1 n1 (v12, (IntKind.wrap .i64 (v1.2 + 1)))) N (v1.1, 0))
   fun j7 =>
   (ES N v4).bind fun v8 =>
   A0 v8
    ((BS p1.fHeld v1.2).bind fun v10 =>
    j7 v10)
    (j7 v5))
   (j1 v1.1)
def E2 (N : Nat) (p0 : Ad) (p1 : Af) : Option ((List Ak)) :=
 C4 N p0 p1 (fun (v2 : (List Ak)) =>
  some v2) N (([] : List Ak), 0)
def El (N : Nat) (p0 : Ad) (v1 : (List Af) × Int) (j3 : Unit → Option (Af × Ak × Int)) : Nat → Int → Option (Af × Ak × Int)
 | 0, _ => none
 | n3 + 1, v3 =>
  A0 ((decide (v3 < (v1.1.length : Int))))
   ((BS v1.1 v3).bind fun v6 =>
   (E2 N p0 v6).bind fun v7 =>
   A0 ((decide (0 < (v7.length : Int))))
    ((BS v7 0).bind fun v9 =>
    some (v6, v9, 0))
    (El N p0 v1 j3 n3 (IntKind.wrap .i64 (v3 + 1))))
   (j3 ())
def Fa (N : Nat) (p0 : Ad) (p1 : Af) : Option (Af × Ak × Int) :=
 (F3 N p0 p1).bind fun v1 =>
 A0 ((v1.2 != 0))
  (some ((Af.mk (([] : List Int)) (([] : List Int)) (([] : List Int))), (Ak.mk 0 0 0), v1.2))
  (El N p0 v1 (fun (_ : Unit) =>
   some ((Af.mk (([] : List Int)) (([] : List Int)) (([] : List Int))), (Ak.mk 0 0 0), 15)) N 0)
def Fl (N : Nat) (p0 : Ad) (p1 : Af) : Option (Bool × Int) :=
 (Fa N p0 p1).bind fun v1 =>
 A0 ((v1.2.2 == 0))
  (some (false, 0))
  (A0 ((v1.2.2 == 15))
   (some (true, 0))
   (some (false, v1.2.2)))
def Ef (N : Nat) (p0 : Af) (j2 : ((List Int)) → Option ByteArray) : Nat → ((List Int) × Int) → Option ByteArray
 | 0, _ => none
 | n2 + 1, v2 =>
  A0 ((decide (v2.2 < (p0.fBase.length : Int))))
   ((BS p0.fBase v2.2).bind fun v5 =>
   (BS p0.fNext v2.2).bind fun v6 =>
   (Ei (v2.1.length + (([(IntKind.wrap .u8 v5), (IntKind.wrap .u8 ((IntKind.wrap .i64 (v6 + 1))))] : List Int)).length ≤ Dz)).bind fun _ =>
   Ef N p0 j2 n2 (v2.1 ++ (([(IntKind.wrap .u8 v5), (IntKind.wrap .u8 ((IntKind.wrap .i64 (v6 + 1))))] : List Int)), (IntKind.wrap .i64 (v2.2 + 1))))
   (j2 v2.1)
def Di (N : Nat) (p0 : Af) (j8 : ((List Int)) → Option ByteArray) : Nat → ((List Int) × Int) → Option ByteArray
 | 0, _ => none
 | n8 + 1, v8 =>
  A0 ((decide (v8.2 < (p0.fHeld.length : Int))))
   ((BS p0.fHeld v8.2).bind fun v11 =>
   (Ei (v8.1.length + (([v11] : List Int)).length ≤ Dz)).bind fun _ =>
   Di N p0 j8 n8 (v8.1 ++ (([v11] : List Int)), (IntKind.wrap .i64 (v8.2 + 1))))
   (j8 v8.1)
def Gj (N : Nat) (p0 : Af) : Option ByteArray :=
 (Ei ((0 : Int) ≤ 0 ∧ 0 ≤ (IntKind.wrap .i64 ((IntKind.wrap .i64 (2 * (p0.fBase.length : Int))) + (p0.fHeld.length : Int))) ∧ (IntKind.wrap .i64 ((IntKind.wrap .i64 (2 * (p0.fBase.length : Int))) + (p0.fHeld.length : Int))) ≤ (Dz : Int))).bind fun _ =>
 Ef N p0 (fun (v3 : (List Int)) =>
  Di N p0 (fun (v9 : (List Int)) =>
   some ((Cp v9))) N (v3, 0)) N (List.replicate (0 : Int).toNat ((0 : Int)), 0)
def D6 (N : Nat) (v1 : (List Ah) × Int) (v4 : Int) (j5 : ((List Ah)) → Option ((List Ah))) : Nat → ((List Ah) × Int) → Option ((List Ah))
 | 0, _ => none
 | n5 + 1, v5 =>
  A0 ((decide (v5.2 < v4)))
   ((Ei (v5.1.length + (([(Ah.mk 1 v1.2 v5.2)] : List Ah)).length ≤ Dz)).bind fun _ =>
   D6 N v1 v4 j5 n5 (v5.1 ++ (([(Ah.mk 1 v1.2 v5.2)] : List Ah)), (IntKind.wrap .i64 (v5.2 + 1))))
   (j5 v5.1)
def CU (N : Nat) (p0 : Ad) (j1 : ((List Ah)) → Option ((List Ah))) : Nat → ((List Ah) × Int) → Option ((List Ah))
 | 0, _ => none
 | n1 + 1, v1 =>
  A0 ((decide (v1.2 < (p0.fVersions.length : Int))))
   ((BS p0.fVersions v1.2).bind fun v4 =>
   D6 N v1 v4 (fun (v6 : (List Ah)) =>
    CU N p0 j1 n1 (v6, (IntKind.wrap .i64 (v1.2 + 1)))) N (v1.1, 0))
   (j1 v1.1)
def Cc (N : Nat) (p0 : Ad) (j9 : ((List Ah)) → Option ((List Ah))) : Nat → ((List Ah) × Int) → Option ((List Ah))
 | 0, _ => none
 | n9 + 1, v9 =>
  A0 ((decide (v9.2 < (p0.fVersions.length : Int))))
   ((Ei (v9.1.length + (([(Ah.mk 2 v9.2 0)] : List Ah)).length ≤ Dz)).bind fun _ =>
   Cc N p0 j9 n9 (v9.1 ++ (([(Ah.mk 2 v9.2 0)] : List Ah)), (IntKind.wrap .i64 (v9.2 + 1))))
   (j9 v9.1)
def Br (N : Nat) (p0 : Ad) (j13 : ((List Ah)) → Option ((List Ah))) : Nat → ((List Ah) × Int) → Option ((List Ah))
 | 0, _ => none
 | n13 + 1, v13 =>
  A0 ((decide (v13.2 < (p0.fTables.length : Int))))
   ((Ei (v13.1.length + (([(Ah.mk 3 v13.2 0)] : List Ah)).length ≤ Dz)).bind fun _ =>
   Br N p0 j13 n13 (v13.1 ++ (([(Ah.mk 3 v13.2 0)] : List Ah)), (IntKind.wrap .i64 (v13.2 + 1))))
   (j13 v13.1)
def G5 (N : Nat) (p0 : Ad) : Option ((List Ah)) :=
 CU N p0 (fun (v2 : (List Ah)) =>
  Cc N p0 (fun (v10 : (List Ah)) =>
   Br N p0 (fun (v14 : (List Ah)) =>
    some v14) N (v10, 0)) N (v2, 0)) N (([] : List Ah), 0)
def FA (N : Nat) (p0 : Af) : Option Af :=
 (BJ N p0.fBase).bind fun v1 =>
 (BJ N p0.fNext).bind fun v2 =>
 (BO N p0.fHeld).bind fun v3 =>
 some ((Af.mk v1 v2 v3))
def E1 (_ : Nat) (p0 : AG) : Option Bool :=
 Bp (fun (v1 : Bool) =>
  some v1)
 fun j1 =>
 A0 ((p0.fKind == 3))
  (j1 true)
  (j1 (p0.fKind == 4))
def Dt (N : Nat) (p0 : Ad) (p2 : Ah) (j7 : ((List Int)) → Option (Bool × (List Int) × (List Int))) : Nat → ((List Int) × Int) → Option (Bool × (List Int) × (List Int))
 | 0, _ => none
 | n7 + 1, v7 =>
  A0 ((decide (v7.2 < (p0.fTables.length : Int))))
   (Bp (fun (v10 : (List Int)) =>
    Dt N p0 p2 j7 n7 (v10, (IntKind.wrap .i64 (v7.2 + 1))))
   fun j10 =>
   (BS p0.fTables v7.2).bind fun v11 =>
   Bp (fun (v12 : Bool) =>
    A0 v12
     ((BS v7.1 v7.2).bind fun v16 =>
     (Ei (0 ≤ p2.fVersion)).bind fun _ =>
     (BS v7.1 v7.2).bind fun _ =>
     j10 (v7.1.set ((v7.2).toNat) ((Nq .u8 v16 ((DA .u8 1 p2.fVersion))))))
     (j10 v7.1))
   fun j12 =>
   A0 ((v11.fFrom == p2.fIndex))
    ((E1 N v11).bind fun v14 =>
    j12 v14)
    (j12 false))
   (j7 v7.1)
def GX (N : Nat) (p0 : Ad) (p1 : Af) (p2 : Ah) : Option (Bool × (List Int) × (List Int)) :=
 Bp (fun (v1 : Bool) =>
  A0 v1
   (some (false, p1.fNext, p1.fHeld))
   ((BS p1.fNext p2.fIndex).bind fun _ =>
   Dt N p0 p2 (fun (v8 : (List Int)) =>
    some (true, p1.fNext.set ((p2.fIndex).toNat) p2.fVersion, v8)) N (p1.fHeld, 0)))
 fun j1 =>
 (BS p1.fNext p2.fIndex).bind fun v2 =>
 A0 ((decide (0 ≤ v2)))
  (j1 true)
  ((BS p1.fBase p2.fIndex).bind fun v4 =>
  j1 (v4 == p2.fVersion))
def Fi (_ : Nat) (p0 : Af) (p1 : Int) : Option Int :=
 (BS p0.fBase p1).bind fun v1 =>
 (Ei (0 ≤ v1)).bind fun _ =>
 Bp (fun (v3 : Int) =>
  some v3)
 fun j3 =>
 (BS p0.fNext p1).bind fun v4 =>
 A0 ((decide (0 ≤ v4)))
  ((BS p0.fNext p1).bind fun v6 =>
  (Ei (0 ≤ v6)).bind fun _ =>
  j3 (Nq .u8 ((DA .u8 1 v1)) ((DA .u8 1 v6))))
  (j3 (DA .u8 1 v1))
def CM (_ : Nat) (p0 : Int) : Option Int :=
 (Uj ((⟨⟨(List.append (List.append [8, 0, 1, 0, 2, 0, 1, 0, 3, 0, 1, 0, 2, 0, 1, 0, 4, 0, 1, 0, 2, 0, 1, 0, 3, 0, 1, 0, 2, 0, 1, 0, 5, 0, 1, 0, 2, 0, 1, 0, 3, 0, 1, 0, 2, 0, 1, 0, 4, 0, 1, 0, 2, 0, 1, 0, 3, 0, 1, 0, 2, 0, 1, 0] [6, 0, 1, 0, 2, 0, 1, 0, 3, 0, 1, 0, 2, 0, 1, 0, 4, 0, 1, 0, 2, 0, 1, 0, 3, 0, 1, 0, 2, 0, 1, 0, 5, 0, 1, 0, 2, 0, 1, 0, 3, 0, 1, 0, 2, 0, 1, 0, 4, 0, 1, 0, 2, 0, 1, 0, 3, 0, 1, 0, 2, 0, 1, 0]) (List.append [7, 0, 1, 0, 2, 0, 1, 0, 3, 0, 1, 0, 2, 0, 1, 0, 4, 0, 1, 0, 2, 0, 1, 0, 3, 0, 1, 0, 2, 0, 1, 0, 5, 0, 1, 0, 2, 0, 1, 0, 3, 0, 1, 0, 2, 0, 1, 0, 4, 0, 1, 0, 2, 0, 1, 0, 3, 0, 1, 0, 2, 0, 1, 0] [6, 0, 1, 0, 2, 0, 1, 0, 3, 0, 1, 0, 2, 0, 1, 0, 4, 0, 1, 0, 2, 0, 1, 0, 3, 0, 1, 0, 2, 0, 1, 0, 5, 0, 1, 0, 2, 0, 1, 0, 3, 0, 1, 0, 2, 0, 1, 0, 4, 0, 1, 0, 2, 0, 1, 0, 3, 0, 1, 0, 2, 0, 1, 0]))⟩⟩ : ByteArray)) p0).bind fun v1 =>
 some ((IntKind.wrap .i64 v1))
def Dc (N : Nat) (p0 : AG) (p2 : Int) (j1 : Unit → Option Bool) : Nat → Int → Option Bool
 | 0, _ => none
 | n1 + 1, v1 =>
  A0 ((v1 != 0))
   ((CM N v1).bind fun v4 =>
   (BS p0.fRewrite v4).bind fun v5 =>
   (BS v5 p2).bind fun v6 =>
   A0 ((!v6))
    (some false)
    (Dc N p0 p2 j1 n1 (FK .u8 v1 ((IntKind.wrap .u8 (v1 - 1))))))
   (j1 ())
def Fg (N : Nat) (p0 : AG) (p1 : Int) (p2 : Int) : Option Bool :=
 Dc N p0 p2 (fun (_ : Unit) =>
  some true) N p1
def F5 (N : Nat) (p0 : Ad) (p1 : Af) (p2 : Int) : Option (Bool × (List Int)) :=
 (BS p0.fTables p2).bind fun v1 =>
 (E1 N v1).bind fun v2 =>
 A0 ((!v2))
  (some (false, p1.fHeld))
  ((Fi N p1 v1.fFrom).bind fun v4 =>
  (BS p1.fHeld p2).bind fun v5 =>
  Bp (fun (v6 : Bool) =>
   A0 v6
    (some (false, p1.fHeld))
    ((BS p1.fHeld p2).bind fun _ =>
    some (true, p1.fHeld.set ((p2).toNat) v4)))
  fun j6 =>
  (BS p1.fHeld p2).bind fun v7 =>
  A0 ((v7 == v4))
   (j6 true)
   (A0 ((v1.fKind == 4))
    ((BS p1.fBase v1.fFrom).bind fun v10 =>
    (Fg N v1 ((C0 .u8 v5 v4)) v10).bind fun v11 =>
    j6 (!v11))
    (j6 false)))
def ET (N : Nat) (p0 : Ad) (p1 : Af) (p2 : Ah) : Option (Af × Bool) :=
 (FA N p1).bind fun v1 =>
 A0 ((p2.fKind == 1))
  ((GX N p0 v1 p2).bind fun v3 =>
  some ((Af.mk v1.fBase v3.2.1 v3.2.2), v3.1))
  (A0 ((p2.fKind == 3))
   ((F5 N p0 v1 p2.fIndex).bind fun v5 =>
   some ((Af.mk v1.fBase v1.fNext v5.2), v5.1))
   ((BS v1.fNext p2.fIndex).bind fun v6 =>
   A0 ((decide (v6 < 0)))
    (some (v1, false))
    ((BS v1.fNext p2.fIndex).bind fun _ =>
    Bp (fun (v9 : (List Int)) =>
     some ((Af.mk v9 (v1.fNext.set ((p2.fIndex).toNat) ((-1))) v1.fHeld), true))
    fun j9 =>
    A0 ((p2.fKind == 2))
     ((BS v1.fBase p2.fIndex).bind fun _ =>
     j9 (v1.fBase.set ((p2.fIndex).toNat) v6))
     (j9 v1.fBase))))
def C6 (N : Nat) (p0 : Ah) (p1 : List Int) (p2 : List Int) (p3 : List Int) (p4 : List AG) (p5 : List Int) (p6 : List Int) (p7 : List Int) : Option Bool :=
 (ET N ((Ad.mk p1 p2 p3 p4)) ((Af.mk p5 p6 p7)) p0).bind fun v1 =>
 some ((!v1.2))
def A4 (N : Nat) (p0 : List Ah) (p1 : Ah → Option Bool) (j1 : Unit → Option Int) : Nat → Int → Option Int
 | 0, _ => none
 | n1 + 1, v1 =>
  A0 ((decide (v1 < (p0.length : Int))))
   ((BS p0 v1).bind fun v4 =>
   (p1 v4).bind fun v5 =>
   A0 v5
    (some v1)
    (A4 N p0 p1 j1 n1 (IntKind.wrap .i64 (v1 + 1))))
   (j1 ())
def BK (N : Nat) (p0 : List Ah) (p1 : Ah → Option Bool) : Option Int :=
 A4 N p0 p1 (fun (_ : Unit) =>
  some ((-1))) N 0
def AX (N : Nat) (p1 : Ah → Option Bool) (j3 : ((List Ah) × Int) → Option (Nat × (List Ah))) : Nat → ((List Ah) × Int × Int) → Option (Nat × (List Ah))
 | 0, _ => none
 | n3 + 1, v3 =>
  A0 ((decide (v3.2.2 < (v3.1.length : Int))))
   (Bp (fun (v6 : (List Ah) × Int) =>
    AX N p1 j3 n3 (v6.1, v6.2, (IntKind.wrap .i64 (v3.2.2 + 1))))
   fun j6 =>
   (BS v3.1 v3.2.2).bind fun v7 =>
   (p1 v7).bind fun v8 =>
   A0 ((!v8))
    ((BS v3.1 v3.2.1).bind fun _ =>
    j6 (v3.1.set ((v3.2.1).toNat) v7, (IntKind.wrap .i64 (v3.2.1 + 1))))
    (j6 (v3.1, v3.2.1)))
   (j3 (v3.1, v3.2.1))
def BD (N : Nat) (p0 : List Ah) (p1 : Ah → Option Bool) : Option (Nat × (List Ah)) :=
 (BK N p0 p1).bind fun v1 =>
 A0 ((v1 == (-1)))
  (some (p0.length, p0))
  (AX N p1 (fun (v4 : (List Ah) × Int) =>
   (Ei ((0 : Int) ≤ v4.2 ∧ (v4.2).toNat ≤ v4.1.length ∧ v4.1.length ≤ v4.1.length)).bind fun _ =>
   (Ei ((0 : Int) ≤ v4.2 ∧ 0 ≤ (v4.2).toNat ∧ (v4.2).toNat ≤ (Ix v4.1 ((v4.2).toNat) (List.replicate ((v4.1.length - (v4.2).toNat)) ((Ah.mk 0 0 0)))).length)).bind fun _ =>
   some ((v4.2).toNat, Ix v4.1 ((v4.2).toNat) (List.replicate ((v4.1.length - (v4.2).toNat)) ((Ah.mk 0 0 0))))) N (p0, v1, (IntKind.wrap .i64 (v1 + 1))))
def Fh (N : Nat) (p0 : Ad) (p1 : Af) : Option ((List Ah) × Int) :=
 (EK N p0 p1).bind fun v1 =>
 A0 ((v1 != 0))
  (some (([] : List Ah), v1))
  ((G5 N p0).bind fun v3 =>
  (BD N v3 ((fun (x : Ah) => C6 N x p0.fVersions p0.fNow p0.fTarget p0.fTables p1.fBase p1.fNext p1.fHeld))).bind fun v4 =>
  (Ei (v4.1 ≤ v4.2.length)).bind fun _ =>
  some (v4.2.take v4.1, 0))
def FY (_ : Nat) (p0 : Ah) : Option Bool :=
 Bp (fun (v1 : Bool) =>
  A0 v1
   (some false)
   (Bp (fun (v5 : Bool) =>
    some v5)
   fun j5 =>
   A0 ((p0.fKind == 1))
    (j5 true)
    (j5 (p0.fVersion == 0))))
 fun j1 =>
 A0 ((decide ((SP p0.fIndex p0.fVersion) < 0)))
  (j1 true)
  (A0 ((decide (p0.fKind < 1)))
   (j1 true)
   (j1 (decide (4 < p0.fKind))))
def Fv (_ : Nat) (p0 : Ad) (p1 : Ah) : Option Bool :=
 A0 ((p1.fKind == 3))
  (some ((decide (p1.fIndex < (p0.fTables.length : Int)))))
  (Bp (fun (v2 : Bool) =>
   some v2)
  fun j2 =>
  A0 ((decide (p1.fIndex < (p0.fVersions.length : Int))))
   (A0 ((p1.fKind != 1))
    (j2 true)
    ((BS p0.fVersions p1.fIndex).bind fun v5 =>
    j2 (decide (p1.fVersion < v5))))
   (j2 false))
def F4 (N : Nat) (p0 : Ad) (p1 : Af) (p2 : Ah) : Option (Af × Int) :=
 (FY N p2).bind fun v1 =>
 A0 ((!v1))
  (some ((Af.mk (([] : List Int)) (([] : List Int)) (([] : List Int))), 1))
  ((Fv N p0 p2).bind fun v3 =>
  A0 ((!v3))
   (some ((Af.mk (([] : List Int)) (([] : List Int)) (([] : List Int))), 4))
   ((ET N p0 p1 p2).bind fun v5 =>
   A0 ((!v5.2))
    (some ((Af.mk (([] : List Int)) (([] : List Int)) (([] : List Int))), 11))
    (some (v5.1, 0))))
def Fk (N : Nat) (p0 : Ad) (p1 : Af) (p2 : Ah) : Option (Af × Int) :=
 (EK N p0 p1).bind fun v1 =>
 A0 ((v1 != 0))
  (some ((Af.mk (([] : List Int)) (([] : List Int)) (([] : List Int))), v1))
  ((F4 N p0 p1 p2).bind fun v3 =>
  some (v3.1, v3.2))
def Cg (N : Nat) (p0 : Ad) (v2 : (List AD) × (List (ByteArray × Int)) × Int) (v6 : (List Ah) × Int) (j8 : ((List AD) × (List (ByteArray × Int))) → Option ((List AD) × Int)) : Nat → ((List AD) × (List (ByteArray × Int)) × Int) → Option ((List AD) × Int)
 | 0, _ => none
 | n8 + 1, v8 =>
  A0 ((decide (v8.2.2 < (v6.1.length : Int))))
   ((BS v6.1 v8.2.2).bind fun v11 =>
   (BS v8.1 v2.2.2).bind fun v12 =>
   (Fk N p0 ((Af.mk v12.fM.fBase v12.fM.fNext v12.fM.fHeld)) v11).bind fun v13 =>
   A0 ((v13.2 != 0))
    (some (([] : List AD), v13.2))
    ((Gj N v13.1).bind fun v15 =>
    Bp (fun (v16 : (List AD) × (List (ByteArray × Int)) × Int) =>
     Bp (fun (v24 : (List AD)) =>
      A0 ((decide (20000 < (v24.length : Int))))
       (some (([] : List AD), 3))
       (Cg N p0 v2 v6 j8 n8 (v24, v16.2.1, (IntKind.wrap .i64 (v8.2.2 + 1)))))
     fun j24 =>
     A0 ((decide (0 ≤ v16.2.2)))
      ((BS v16.1 v2.2.2).bind fun v26 =>
      (Ei (v26.fNext.length + (([v16.2.2] : List Int)).length ≤ Dz)).bind fun _ =>
      (BS v16.1 v2.2.2).bind fun v28 =>
      j24 (v16.1.set ((v2.2.2).toNat) ((AD.mk ((Af.mk v28.fM.fBase v28.fM.fNext v28.fM.fHeld)) v28.fFrom ((Ah.mk v28.fBy.fKind v28.fBy.fIndex v28.fBy.fVersion)) (v26.fNext ++ (([v16.2.2] : List Int)))))))
      (j24 v16.1))
    fun j16 =>
    A0 ((!((JE v15 v8.2.1).isSome)))
     (Bp (fun (v18 : (List AD) × Int) =>
      j16 (v18.1, K2 v15 v18.2 v8.2.1, v18.2))
     fun j18 =>
     (Fl N p0 v13.1).bind fun v19 =>
     Bp (fun (v20 : Bool) =>
      A0 v20
       (j18 (v8.1, (-1)))
       ((Ei (v8.1.length + (([(AD.mk v13.1 v2.2.2 v11 (([] : List Int)))] : List AD)).length ≤ Dz)).bind fun _ =>
       j18 (v8.1 ++ (([(AD.mk v13.1 v2.2.2 v11 (([] : List Int)))] : List AD)), (v8.1.length : Int))))
     fun j20 =>
     A0 ((v19.2 != 0))
      (j20 true)
      (j20 (!v19.1)))
     (j16 (v8.1, v8.2.1, ((JE v15 v8.2.1).getD 0)))))
   (j8 (v8.1, v8.2.1))
def C9 (N : Nat) (p0 : Ad) (j2 : ((List AD)) → Option ((List AD) × Int)) : Nat → ((List AD) × (List (ByteArray × Int)) × Int) → Option ((List AD) × Int)
 | 0, _ => none
 | n2 + 1, v2 =>
  A0 ((decide (v2.2.2 < (v2.1.length : Int))))
   ((BS v2.1 v2.2.2).bind fun v5 =>
   (Fh N p0 ((Af.mk v5.fM.fBase v5.fM.fNext v5.fM.fHeld))).bind fun v6 =>
   A0 ((v6.2 != 0))
    (some (([] : List AD), v6.2))
    (Cg N p0 v2 v6 (fun (v9 : (List AD) × (List (ByteArray × Int))) =>
     C9 N p0 j2 n2 (v9.1, v9.2, (IntKind.wrap .i64 (v2.2.2 + 1)))) N (v2.1, v2.2.1, 0)))
   (j2 v2.1)
def FE (N : Nat) (p0 : Ad) (p1 : Af) : Option ((List AD) × Int) :=
 (Gj N p1).bind fun v1 =>
 C9 N p0 (fun (v3 : (List AD)) =>
  some (v3, 0)) N (([(AD.mk p1 ((-1)) ((Ah.mk 0 0 0)) (([] : List Int)))] : List AD), K2 v1 0 (([] : List (ByteArray × Int))), 0)
def BZ (N : Nat) (p0 : List Int) (p1 : List Int) (j2 : Unit → Option Bool) : Nat → Int → Option Bool
 | 0, _ => none
 | n2 + 1, v2 =>
  A0 ((decide (v2 < (p0.length : Int))))
   ((BS p0 v2).bind fun v5 =>
   (BS p1 v2).bind fun v6 =>
   A0 ((v5 != v6))
    (some false)
    (BZ N p0 p1 j2 n2 (IntKind.wrap .i64 (v2 + 1))))
   (j2 ())
def Do (N : Nat) (p0 : List Int) (p1 : List Int) : Option Bool :=
 A0 (((p0.length : Int) != (p1.length : Int)))
  (some false)
  (BZ N p0 p1 (fun (_ : Unit) =>
   some true) N 0)
def Bg (N : Nat) (p0 : List Int) (p1 : Int → Option Bool) (j1 : Unit → Option Int) : Nat → Int → Option Int
 | 0, _ => none
 | n1 + 1, v1 =>
  A0 ((decide (v1 < (p0.length : Int))))
   ((BS p0 v1).bind fun v4 =>
   (p1 v4).bind fun v5 =>
   A0 v5
    (some v1)
    (Bg N p0 p1 j1 n1 (IntKind.wrap .i64 (v1 + 1))))
   (j1 ())
def Dy (N : Nat) (p0 : List Int) (p1 : Int → Option Bool) : Option Int :=
 Bg N p0 p1 (fun (_ : Unit) =>
  some ((-1))) N 0
def Cq (N : Nat) (p0 : List Int) (p1 : Int → Option Bool) : Option Bool :=
 (Dy N p0 p1).bind fun v1 =>
 some ((decide (0 ≤ v1)))
def F1 (_ : Nat) (p0 : Int) : Option Bool :=
 some ((decide (0 ≤ p0)))
def Gq (N : Nat) (p0 : Ad) (p1 : Af) : Option Bool :=
 Bp (fun (v1 : Bool) =>
  some v1)
 fun j1 =>
 (EK N p0 p1).bind fun v2 =>
 A0 ((v2 == 0))
  ((Do N p1.fBase p0.fTarget).bind fun v4 =>
  A0 v4
   ((Cq N p1.fNext ((fun (x : Int) => F1 N x))).bind fun v6 =>
   j1 (!v6))
   (j1 false))
  (j1 false)
def D9 (N : Nat) (p0 : AD) (p1 : List Int) (p2 : List Int) (p3 : List Int) (p4 : List AG) : Option Bool :=
 (Gq N ((Ad.mk p1 p2 p3 p4)) ((Af.mk p0.fM.fBase p0.fM.fNext p0.fM.fHeld))).bind fun v1 =>
 some v1
def AU (N : Nat) (p0 : List AD) (p1 : AD → Option Bool) (j1 : Unit → Option Int) : Nat → Int → Option Int
 | 0, _ => none
 | n1 + 1, v1 =>
  A0 ((decide (v1 < (p0.length : Int))))
   ((BS p0 v1).bind fun v4 =>
   (p1 ((AD.mk ((Af.mk v4.fM.fBase v4.fM.fNext v4.fM.fHeld)) v4.fFrom ((Ah.mk v4.fBy.fKind v4.fBy.fIndex v4.fBy.fVersion)) v4.fNext))).bind fun v5 =>
   A0 v5
    (some v1)
    (AU N p0 p1 j1 n1 (IntKind.wrap .i64 (v1 + 1))))
   (j1 ())
def B5 (N : Nat) (p0 : List AD) (p1 : AD → Option Bool) : Option Int :=
 AU N p0 p1 (fun (_ : Unit) =>
  some ((-1))) N 0
def Bh (N : Nat) (j1 : ((List Ah)) → Option ((List Ah))) : Nat → ((List Ah) × Int × Int) → Option ((List Ah))
 | 0, _ => none
 | n1 + 1, v1 =>
  A0 ((decide (v1.2.1 < v1.2.2)))
   ((BS v1.1 v1.2.2).bind fun v4 =>
   (BS v1.1 v1.2.1).bind fun v5 =>
   (BS v1.1 v1.2.1).bind fun _ =>
   (BS (v1.1.set ((v1.2.1).toNat) v4) v1.2.2).bind fun _ =>
   Bh N j1 n1 ((v1.1.set ((v1.2.1).toNat) v4).set ((v1.2.2).toNat) v5, (IntKind.wrap .i64 (v1.2.1 + 1)), (IntKind.wrap .i64 (v1.2.2 - 1))))
   (j1 v1.1)
def Bs (N : Nat) (p0 : List Ah) : Option ((List Ah)) :=
 Bh N (fun (v2 : (List Ah)) =>
  some v2) N (p0, 0, (IntKind.wrap .i64 ((p0.length : Int) - 1)))
def E0 (N : Nat) (p0 : List AD) (j1 : ((List Ah)) → Option ((List Ah))) : Nat → (Int × (List Ah)) → Option ((List Ah))
 | 0, _ => none
 | n1 + 1, v1 =>
  (BS p0 v1.1).bind fun v3 =>
  A0 ((decide (0 ≤ v3.fFrom)))
   ((BS p0 v1.1).bind fun v5 =>
   (Ei (v1.2.length + (([(Ah.mk v5.fBy.fKind v5.fBy.fIndex v5.fBy.fVersion)] : List Ah)).length ≤ Dz)).bind fun _ =>
   (BS p0 v1.1).bind fun v7 =>
   E0 N p0 j1 n1 (v7.fFrom, v1.2 ++ (([(Ah.mk v5.fBy.fKind v5.fBy.fIndex v5.fBy.fVersion)] : List Ah))))
   (j1 v1.2)
def Ih (N : Nat) (p0 : List AD) (p1 : Int) : Option ((List Ah)) :=
 E0 N p0 (fun (v2 : (List Ah)) =>
  (Bs N v2).bind fun v8 =>
  some v8) N (p1, ([] : List Ah))
def EP (N : Nat) (p0 : Ad) (p1 : Af) : Option ((List Ah) × Int) :=
 (Fl N p0 p1).bind fun v1 =>
 A0 ((v1.2 != 0))
  (some (([] : List Ah), v1.2))
  (A0 ((!v1.1))
   (some (([] : List Ah), 13))
   ((FE N p0 p1).bind fun v4 =>
   A0 ((v4.2 != 0))
    (some (([] : List Ah), v4.2))
    ((B5 N v4.1 ((fun (x : AD) => D9 N x p0.fVersions p0.fNow p0.fTarget p0.fTables))).bind fun v6 =>
    A0 ((decide (v6 < 0)))
     (some (([] : List Ah), 14))
     ((Ih N v4.1 v6).bind fun v8 =>
     some (v8, 0)))))
def EN (N : Nat) (p0 : Ad) : Option ((List Ah) × Int) :=
 (FM N p0).bind fun v1 =>
 A0 ((v1.2 != 0))
  (some (([] : List Ah), v1.2))
  ((EP N p0 v1.1).bind fun v3 =>
  some (v3.1, v3.2))
def Fe (N : Nat) (p0 : Ad) (p1 : List Ah) (j5 : Af → Option (Int × Af × Ak × Int)) : Nat → (Af × Int) → Option (Int × Af × Ak × Int)
 | 0, _ => none
 | n5 + 1, v5 =>
  A0 ((decide (v5.2 < (p1.length : Int))))
   ((BS p1 v5.2).bind fun v8 =>
   (Fk N p0 v5.1 v8).bind fun v9 =>
   Bp (fun (v10 : Bool) =>
    A0 v10
     (some (v5.2, (Af.mk (([] : List Int)) (([] : List Int)) (([] : List Int))), (Ak.mk 0 0 0), 0))
     ((Fa N p0 v9.1).bind fun v13 =>
     A0 ((v13.2.2 == 0))
      (some (v5.2, v13.1, v13.2.1, 0))
      (Fe N p0 p1 j5 n5 (v9.1, (IntKind.wrap .i64 (v5.2 + 1))))))
   fun j10 =>
   A0 ((v9.2 != 0))
    (j10 true)
    (j10 (v8.fKind == 4)))
   (j5 v5.1)
def Ga (N : Nat) (p0 : Ad) (p1 : List Ah) : Option (Int × Af × Ak × Int) :=
 (FM N p0).bind fun v1 =>
 A0 ((v1.2 != 0))
  (some (0, (Af.mk (([] : List Int)) (([] : List Int)) (([] : List Int))), (Ak.mk 0 0 0), v1.2))
  ((Fa N p0 v1.1).bind fun v3 =>
  A0 ((v3.2.2 == 0))
   (some ((-1), v3.1, v3.2.1, 0))
   (Fe N p0 p1 (fun (v6 : Af) =>
    (Gq N p0 v6).bind fun v15 =>
    A0 ((!v15))
     (some ((p1.length : Int), (Af.mk (([] : List Int)) (([] : List Int)) (([] : List Int))), (Ak.mk 0 0 0), 14))
     (some (0, (Af.mk (([] : List Int)) (([] : List Int)) (([] : List Int))), (Ak.mk 0 0 0), 15))) N (v1.1, 0)))
def En (N : Nat) (p0 : List Ah) (p1 : List Ah) (j2 : Unit → Option Bool) : Nat → Int → Option Bool
 | 0, _ => none
 | n2 + 1, v2 =>
  A0 ((decide (v2 < (p0.length : Int))))
   ((BS p0 v2).bind fun v5 =>
   (BS p1 v2).bind fun v6 =>
   A0 ((!((v5.fKind == v6.fKind) && ((v5.fIndex == v6.fIndex) && ((v5.fVersion == v6.fVersion) && true)))))
    (some false)
    (En N p0 p1 j2 n2 (IntKind.wrap .i64 (v2 + 1))))
   (j2 ())
def FU (N : Nat) (p0 : List Ah) (p1 : List Ah) : Option Bool :=
 A0 (((p0.length : Int) != (p1.length : Int)))
  (some false)
  (En N p0 p1 (fun (_ : Unit) =>
   some true) N 0)
def Is (N : Nat) (p0 : Ad) (p1 : List Ah) : Option Bool :=
 (Ga N p0 p1).bind fun v1 =>
 some ((v1.2.2.2 == 15))
def Ec (N : Nat) : Option Bool :=
 (CB N false false).bind fun v1 =>
 (EN N v1).bind fun v2 =>
 (CB N true false).bind fun v3 =>
 (EN N v3).bind fun v4 =>
 (CB N true true).bind fun v5 =>
 (EN N v5).bind fun v6 =>
 (CB N false false).bind fun v7 =>
 (Ga N v7 (([(Ah.mk 1 0 1)] : List Ah))).bind fun v8 =>
 Bp (fun (v9 : Bool) =>
  some v9)
 fun j9 =>
 A0 ((v2.2 == 0))
  ((FU N v2.1 (([(Ah.mk 1 1 1), (Ah.mk 2 1 0), (Ah.mk 1 0 1), (Ah.mk 2 0 0)] : List Ah))).bind fun v11 =>
  A0 v11
   (A0 ((v4.2 == 14))
    (A0 ((v6.2 == 14))
     (A0 ((v8.2.2.2 == 0))
      (A0 ((v8.1 == 0))
       (A0 (((v8.2.2.1.fTable == 0) && ((v8.2.2.1.fWriter == 1) && ((v8.2.2.1.fReader == 0) && true))))
        ((CB N false false).bind fun v18 =>
        (Is N v18 (([(Ah.mk 1 1 1), (Ah.mk 2 1 0), (Ah.mk 1 0 1), (Ah.mk 2 0 0)] : List Ah))).bind fun v19 =>
        j9 v19)
        (j9 false))
       (j9 false))
      (j9 false))
     (j9 false))
    (j9 false))
   (j9 false))
  (j9 false)
def DI (_ : Nat) (p0 : List Int) (p1 : Int) : Option Int :=
 A0 ((decide (p1 < (p0.length : Int))))
  ((BS p0 p1).bind fun v2 =>
  some ((IntKind.wrap .i64 v2)))
  (some 0)
def A7 (_ : Nat) (p0 : AG) : Option Bool :=
 Bp (fun (v1 : Bool) =>
  some v1)
 fun j1 =>
 A0 ((p0.fKind == 3))
  (j1 true)
  (j1 (p0.fKind == 4))
def Cf (N : Nat) (p1 : Int) (p2 : Int) (p3 : Bool) (v1 : (List (List Bool)) × Int) (j4 : ((List Bool)) → Option ((List (List Bool)))) : Nat → ((List Bool) × Int) → Option ((List (List Bool)))
 | 0, _ => none
 | n4 + 1, v4 =>
  A0 ((decide (v4.2 < p1)))
   (Bp (fun (v7 : (List Bool)) =>
    Cf N p1 p2 p3 v1 j4 n4 (v7, (IntKind.wrap .i64 (v4.2 + 1))))
   fun j7 =>
   A0 p3
    (A0 ((v1.2 == v4.2))
     ((Ei (v4.1.length + (([true] : List Bool)).length ≤ Dz)).bind fun _ =>
     j7 (v4.1 ++ (([true] : List Bool))))
     ((Ei (0 ≤ (IntKind.wrap .i64 ((IntKind.wrap .i64 (3 * v1.2)) + v4.2)))).bind fun _ =>
     (Ei (v4.1.length + (([((Int.tmod ((E6 .u16 p2 ((IntKind.wrap .i64 ((IntKind.wrap .i64 (3 * v1.2)) + v4.2))))) 2) == 0)] : List Bool)).length ≤ Dz)).bind fun _ =>
     j7 (v4.1 ++ (([((Int.tmod ((E6 .u16 p2 ((IntKind.wrap .i64 ((IntKind.wrap .i64 (3 * v1.2)) + v4.2))))) 2) == 0)] : List Bool)))))
    ((Ei (0 ≤ (IntKind.wrap .i64 ((IntKind.wrap .i64 (3 * v1.2)) + v4.2)))).bind fun _ =>
    (Ei (v4.1.length + (([((Int.tmod ((E6 .u16 p2 ((IntKind.wrap .i64 ((IntKind.wrap .i64 (3 * v1.2)) + v4.2))))) 2) == 0)] : List Bool)).length ≤ Dz)).bind fun _ =>
    j7 (v4.1 ++ (([((Int.tmod ((E6 .u16 p2 ((IntKind.wrap .i64 ((IntKind.wrap .i64 (3 * v1.2)) + v4.2))))) 2) == 0)] : List Bool)))))
   (j4 v4.1)
def Ca (N : Nat) (p0 : Int) (p1 : Int) (p2 : Int) (p3 : Bool) (j1 : ((List (List Bool))) → Option ((List (List Bool)))) : Nat → ((List (List Bool)) × Int) → Option ((List (List Bool)))
 | 0, _ => none
 | n1 + 1, v1 =>
  A0 ((decide (v1.2 < p0)))
   (Cf N p1 p2 p3 v1 (fun (v5 : (List Bool)) =>
    (Ei (v1.1.length + (([v5] : List (List Bool))).length ≤ Dz)).bind fun _ =>
    Ca N p0 p1 p2 p3 j1 n1 (v1.1 ++ (([v5] : List (List Bool))), (IntKind.wrap .i64 (v1.2 + 1)))) N (([] : List Bool), 0))
   (j1 v1.1)
def DF (N : Nat) (p0 : Int) (p1 : Int) (p2 : Int) (p3 : Bool) : Option ((List (List Bool))) :=
 Ca N p0 p1 p2 p3 (fun (v2 : (List (List Bool))) =>
  some v2) N (([] : List (List Bool)), 0)
def Cx (N : Nat) (p0 : BG) (j4 : ((List Int) × (List Int) × (List Int)) → Option (Ad × Bool)) : Nat → ((List Int) × (List Int) × (List Int) × Int) → Option (Ad × Bool)
 | 0, _ => none
 | n4 + 1, v4 =>
  A0 ((decide (v4.2.2.2 < (p0.fVersions.length : Int))))
   ((BS p0.fVersions v4.2.2.2).bind fun v7 =>
   (Ei (v4.1.length + (([(IntKind.wrap .i64 (1 + (IntKind.wrap .i64 ((Int.tmod v7 3)))))] : List Int)).length ≤ Dz)).bind fun _ =>
   (DI N p0.fNow v4.2.2.2).bind fun v9 =>
   (Ei ((IntKind.wrap .i64 (1 + (IntKind.wrap .i64 ((Int.tmod v7 3))))) ≠ 0)).bind fun _ =>
   (Ei (v4.2.1.length + (([(Int.tmod v9 ((IntKind.wrap .i64 (1 + (IntKind.wrap .i64 ((Int.tmod v7 3)))))))] : List Int)).length ≤ Dz)).bind fun _ =>
   (DI N p0.fTarget v4.2.2.2).bind fun v12 =>
   (Ei ((IntKind.wrap .i64 (1 + (IntKind.wrap .i64 ((Int.tmod v7 3))))) ≠ 0)).bind fun _ =>
   (Ei (v4.2.2.1.length + (([(Int.tmod v12 ((IntKind.wrap .i64 (1 + (IntKind.wrap .i64 ((Int.tmod v7 3)))))))] : List Int)).length ≤ Dz)).bind fun _ =>
   Cx N p0 j4 n4 (v4.1 ++ (([(IntKind.wrap .i64 (1 + (IntKind.wrap .i64 ((Int.tmod v7 3)))))] : List Int)), v4.2.1 ++ (([(Int.tmod v9 ((IntKind.wrap .i64 (1 + (IntKind.wrap .i64 ((Int.tmod v7 3)))))))] : List Int)), v4.2.2.1 ++ (([(Int.tmod v12 ((IntKind.wrap .i64 (1 + (IntKind.wrap .i64 ((Int.tmod v7 3)))))))] : List Int)), (IntKind.wrap .i64 (v4.2.2.2 + 1))))
   (j4 (v4.1, v4.2.1, v4.2.2.1))
def Bw (N : Nat) (p0 : BG) (v5 : (List Int) × (List Int) × (List Int)) (j15 : ((List AG)) → Option (Ad × Bool)) : Nat → ((List AG) × Int) → Option (Ad × Bool)
 | 0, _ => none
 | n15 + 1, v15 =>
  Bp (fun (v17 : Bool) =>
   A0 v17
    ((BS p0.fLinks v15.2).bind fun v20 =>
    (Ei ((v5.1.length : Int) ≠ 0)).bind fun _ =>
    (Ei ((v5.1.length : Int) ≠ 0)).bind fun _ =>
    Bp (fun (v23 : Bool) =>
     (BS v5.1 ((Int.tmod ((IntKind.wrap .i64 v20.fFrom)) ((v5.1.length : Int))))).bind fun v26 =>
     (BS v5.1 ((Int.tmod ((IntKind.wrap .i64 v20.fTo)) ((v5.1.length : Int))))).bind fun v27 =>
     (DF N v26 v27 v20.fBad false).bind fun v28 =>
     Bp (fun (v29 : (List (List Bool))) =>
      (Ei (v15.1.length + (([(AG.mk ((IntKind.wrap .i64 (1 + (IntKind.wrap .i64 ((Int.tmod v20.fKind 4)))))) ((Int.tmod ((IntKind.wrap .i64 v20.fFrom)) ((v5.1.length : Int)))) ((Int.tmod ((IntKind.wrap .i64 v20.fTo)) ((v5.1.length : Int)))) v23 v28 v29)] : List AG)).length ≤ Dz)).bind fun _ =>
      Bw N p0 v5 j15 n15 (v15.1 ++ (([(AG.mk ((IntKind.wrap .i64 (1 + (IntKind.wrap .i64 ((Int.tmod v20.fKind 4)))))) ((Int.tmod ((IntKind.wrap .i64 v20.fFrom)) ((v5.1.length : Int)))) ((Int.tmod ((IntKind.wrap .i64 v20.fTo)) ((v5.1.length : Int)))) v23 v28 v29)] : List AG)), (IntKind.wrap .i64 (v15.2 + 1))))
     fun j29 =>
     A0 (((IntKind.wrap .i64 (1 + (IntKind.wrap .i64 ((Int.tmod v20.fKind 4))))) == 4))
      ((BS v5.1 ((Int.tmod ((IntKind.wrap .i64 v20.fFrom)) ((v5.1.length : Int))))).bind fun v31 =>
      (BS v5.1 ((Int.tmod ((IntKind.wrap .i64 v20.fFrom)) ((v5.1.length : Int))))).bind fun v32 =>
      (DF N v31 v32 v20.fLost true).bind fun v33 =>
      j29 v33)
      (j29 ([] : List (List Bool))))
    fun j23 =>
    A0 v20.fAware
     ((A7 N ((AG.mk ((IntKind.wrap .i64 (1 + (IntKind.wrap .i64 ((Int.tmod v20.fKind 4)))))) ((Int.tmod ((IntKind.wrap .i64 v20.fFrom)) ((v5.1.length : Int)))) ((Int.tmod ((IntKind.wrap .i64 v20.fTo)) ((v5.1.length : Int)))) false (([] : List (List Bool))) (([] : List (List Bool)))))).bind fun v25 =>
     j23 (!v25))
     (j23 false))
    (j15 v15.1))
  fun j17 =>
  A0 ((decide (v15.2 < (p0.fLinks.length : Int))))
   (j17 (decide (0 < (v5.1.length : Int))))
   (j17 false)
def EQ (N : Nat) (p0 : BG) : Option (Ad × Bool) :=
 Bp (fun (v1 : Bool) =>
  A0 v1
   (some ((Ad.mk (([] : List Int)) (([] : List Int)) (([] : List Int)) (([] : List AG))), false))
   (Cx N p0 (fun (v5 : (List Int) × (List Int) × (List Int)) =>
    Bw N p0 v5 (fun (v16 : (List AG)) =>
     some ((Ad.mk v5.1 v5.2.1 v5.2.2 v16), true)) N (([] : List AG), 0)) N (([] : List Int), ([] : List Int), ([] : List Int), 0)))
 fun j1 =>
 A0 ((decide (3 < (p0.fVersions.length : Int))))
  (j1 true)
  (j1 (decide (4 < (p0.fLinks.length : Int))))
def Ci (N : Nat) (p0 : List (List Bool)) (p1 : Int) (p2 : Int) (j2 : Unit → Option Bool) : Nat → Int → Option Bool
 | 0, _ => none
 | n2 + 1, v2 =>
  A0 ((decide (v2 < p1)))
   ((BS p0 v2).bind fun v5 =>
   A0 (((v5.length : Int) != p2))
    (some false)
    (Ci N p0 p1 p2 j2 n2 (IntKind.wrap .i64 (v2 + 1))))
   (j2 ())
def De (N : Nat) (p0 : List (List Bool)) (p1 : Int) (p2 : Int) : Option Bool :=
 A0 (((p0.length : Int) != p1))
  (some false)
  (Ci N p0 p1 p2 (fun (_ : Unit) =>
   some true) N 0)
def BX (N : Nat) (p1 : AG) (j22 : Unit → Option Int) : Nat → Int → Option Int
 | 0, _ => none
 | n22 + 1, v22 =>
  A0 ((decide (v22 < (p1.fRewrite.length : Int))))
   ((BS p1.fRewrite v22).bind fun v25 =>
   (BS v25 v22).bind fun v26 =>
   A0 ((!v26))
    (some 1)
    (BX N p1 j22 n22 (IntKind.wrap .i64 (v22 + 1))))
   (j22 ())
def D5 (N : Nat) (p0 : Ad) (p1 : AG) : Option Int :=
 Bp (fun (v1 : Bool) =>
  A0 v1
   (some 1)
   (Bp (fun (v7 : Bool) =>
    A0 v7
     (some 4)
     ((BS p0.fVersions p1.fFrom).bind fun v12 =>
     (BS p0.fVersions p1.fTo).bind fun v13 =>
     (De N p1.fOK v12 v13).bind fun v14 =>
     A0 ((!v14))
      (some 6)
      (A0 ((p1.fKind != 4))
       (A0 (((p1.fRewrite.length : Int) != 0))
        (some 6)
        (some 0))
       ((BS p0.fVersions p1.fFrom).bind fun v18 =>
       (BS p0.fVersions p1.fFrom).bind fun v19 =>
       (De N p1.fRewrite v18 v19).bind fun v20 =>
       A0 ((!v20))
        (some 6)
        (BX N p1 (fun (_ : Unit) =>
         some 0) N 0)))))
   fun j7 =>
   A0 ((decide (p1.fFrom < 0)))
    (j7 true)
    (A0 ((decide ((p0.fVersions.length : Int) ≤ p1.fFrom)))
     (j7 true)
     (A0 ((decide (p1.fTo < 0)))
      (j7 true)
      (j7 (decide ((p0.fVersions.length : Int) ≤ p1.fTo)))))))
 fun j1 =>
 A0 ((decide (p1.fKind < 1)))
  (j1 true)
  (A0 ((decide (4 < p1.fKind)))
   (j1 true)
   (A0 p1.fAware
    ((A7 N p1).bind fun v5 =>
    j1 v5)
    (j1 false)))
def Bj (N : Nat) (p0 : Ad) (j7 : Unit → Option Int) : Nat → Int → Option Int
 | 0, _ => none
 | n7 + 1, v7 =>
  A0 ((decide (v7 < (p0.fVersions.length : Int))))
   ((BS p0.fVersions v7).bind fun v10 =>
   Bp (fun (v11 : Bool) =>
    A0 v11
     (some 7)
     (Bj N p0 j7 n7 (IntKind.wrap .i64 (v7 + 1))))
   fun j11 =>
   A0 ((decide (v10 < 1)))
    (j11 true)
    (A0 ((decide (6 < v10)))
     (j11 true)
     ((BS p0.fNow v7).bind fun v14 =>
     A0 ((decide (v14 < 0)))
      (j11 true)
      ((BS p0.fNow v7).bind fun v16 =>
      A0 ((decide (v10 ≤ v16)))
       (j11 true)
       ((BS p0.fTarget v7).bind fun v18 =>
       A0 ((decide (v18 < 0)))
        (j11 true)
        ((BS p0.fTarget v7).bind fun v20 =>
        j11 (decide (v10 ≤ v20))))))))
   (j7 ())
def Ba (N : Nat) (p0 : Ad) (j22 : Unit → Option Int) : Nat → Int → Option Int
 | 0, _ => none
 | n22 + 1, v22 =>
  A0 ((decide (v22 < (p0.fTables.length : Int))))
   ((BS p0.fTables v22).bind fun v25 =>
   (D5 N p0 v25).bind fun v26 =>
   A0 ((v26 != 0))
    (some v26)
    (Ba N p0 j22 n22 (IntKind.wrap .i64 (v22 + 1))))
   (j22 ())
def Cl (N : Nat) (p0 : Ad) : Option Int :=
 Bp (fun (v1 : Bool) =>
  A0 v1
   (some 3)
   (Bp (fun (v4 : Bool) =>
    A0 v4
     (some 6)
     (Bj N p0 (fun (_ : Unit) =>
      Ba N p0 (fun (_ : Unit) =>
       some 0) N 0) N 0))
   fun j4 =>
   A0 (((p0.fNow.length : Int) != (p0.fVersions.length : Int)))
    (j4 true)
    (j4 ((p0.fTarget.length : Int) != (p0.fVersions.length : Int)))))
 fun j1 =>
 A0 ((decide (6 < (p0.fVersions.length : Int))))
  (j1 true)
  (j1 (decide (12 < (p0.fTables.length : Int))))
def B4 (N : Nat) (p0 : Ad) (j3 : ((List Int) × (List Int)) → Option (Af × Int)) : Nat → ((List Int) × (List Int) × Int) → Option (Af × Int)
 | 0, _ => none
 | n3 + 1, v3 =>
  A0 ((decide (v3.2.2 < (p0.fVersions.length : Int))))
   ((BS p0.fNow v3.2.2).bind fun v6 =>
   (Ei (v3.1.length + (([v6] : List Int)).length ≤ Dz)).bind fun _ =>
   (Ei (v3.2.1.length + (([(-1)] : List Int)).length ≤ Dz)).bind fun _ =>
   B4 N p0 j3 n3 (v3.1 ++ (([v6] : List Int)), v3.2.1 ++ (([(-1)] : List Int)), (IntKind.wrap .i64 (v3.2.2 + 1))))
   (j3 (v3.1, v3.2.1))
def Bi (N : Nat) (p0 : Ad) (j9 : ((List Int)) → Option (Af × Int)) : Nat → ((List Int) × Int) → Option (Af × Int)
 | 0, _ => none
 | n9 + 1, v9 =>
  A0 ((decide (v9.2 < (p0.fTables.length : Int))))
   (Bp (fun (v12 : Int) =>
    (Ei (v9.1.length + (([v12] : List Int)).length ≤ Dz)).bind fun _ =>
    Bi N p0 j9 n9 (v9.1 ++ (([v12] : List Int)), (IntKind.wrap .i64 (v9.2 + 1))))
   fun j12 =>
   (BS p0.fTables v9.2).bind fun v13 =>
   (A7 N v13).bind fun v14 =>
   A0 v14
    ((BS p0.fTables v9.2).bind fun v16 =>
    (BS p0.fNow v16.fFrom).bind fun v17 =>
    (Ei (0 ≤ v17)).bind fun _ =>
    j12 (DA .u8 1 v17))
    (j12 0))
   (j9 v9.1)
def CS (N : Nat) (p0 : Ad) : Option (Af × Int) :=
 (Cl N p0).bind fun v1 =>
 A0 ((v1 != 0))
  (some ((Af.mk (([] : List Int)) (([] : List Int)) (([] : List Int))), v1))
  (B4 N p0 (fun (v4 : (List Int) × (List Int)) =>
   Bi N p0 (fun (v10 : (List Int)) =>
    some ((Af.mk v4.1 v4.2 v10), 0)) N (([] : List Int), 0)) N (([] : List Int), ([] : List Int), 0))
def DR (_ : Nat) (p0 : Af) : Option Af :=
 (Ei ((([] : List Int)).length + p0.fBase.length ≤ Dz)).bind fun _ =>
 (Ei ((([] : List Int)).length + p0.fNext.length ≤ Dz)).bind fun _ =>
 (Ei ((([] : List Int)).length + p0.fHeld.length ≤ Dz)).bind fun _ =>
 some ((Af.mk ((([] : List Int)) ++ p0.fBase) ((([] : List Int)) ++ p0.fNext) ((([] : List Int)) ++ p0.fHeld)))
def Co (N : Nat) (p0 : Af) (j1 : Int → Option ((List Af))) : Nat → (Int × Int) → Option ((List Af))
 | 0, _ => none
 | n1 + 1, v1 =>
  A0 ((decide (v1.2 < (p0.fNext.length : Int))))
   (Bp (fun (v4 : Int) =>
    Co N p0 j1 n1 (v4, (IntKind.wrap .i64 (v1.2 + 1))))
   fun j4 =>
   (BS p0.fNext v1.2).bind fun v5 =>
   A0 ((decide (0 ≤ v5)))
    (j4 (IntKind.wrap .i64 (v1.1 + 1)))
    (j4 v1.1))
   (j1 v1.1)
def BR (N : Nat) (p0 : Af) (v7 : (List Af) × Int) (j12 : ((List Int)) → Option ((List Af))) : Nat → ((List Int) × Int × Int) → Option ((List Af))
 | 0, _ => none
 | n12 + 1, v12 =>
  A0 ((decide (v12.2.2 < (p0.fNext.length : Int))))
   (Bp (fun (v15 : (List Int) × Int) =>
    BR N p0 v7 j12 n12 (v15.1, v15.2, (IntKind.wrap .i64 (v12.2.2 + 1))))
   fun j15 =>
   (BS p0.fNext v12.2.2).bind fun v16 =>
   A0 ((decide (v16 < 0)))
    (j15 (v12.1, v12.2.1))
    (Bp (fun (v18 : (List Int)) =>
     j15 (v18, (IntKind.wrap .i64 (v12.2.1 + 1))))
    fun j18 =>
    (Ei (0 ≤ v12.2.1)).bind fun _ =>
    A0 (((Int.tmod ((E6 .i64 v7.2 v12.2.1)) 2) == 1))
     ((BS v12.1 v12.2.2).bind fun _ =>
     j18 (v12.1.set ((v12.2.2).toNat) ((-1))))
     (j18 v12.1)))
   (j12 v12.1)
def Bx (N : Nat) (p0 : Af) (v2 : Int) (j7 : ((List Af)) → Option ((List Af))) : Nat → ((List Af) × Int) → Option ((List Af))
 | 0, _ => none
 | n7 + 1, v7 =>
  (Ei (0 ≤ v2)).bind fun _ =>
  A0 ((decide (v7.2 < (DA .i64 1 v2))))
   ((DR N p0).bind fun v11 =>
   BR N p0 v7 (fun (v13 : (List Int)) =>
    (Ei (v7.1.length + (([(Af.mk v11.fBase v13 v11.fHeld)] : List Af)).length ≤ Dz)).bind fun _ =>
    Bx N p0 v2 j7 n7 (v7.1 ++ (([(Af.mk v11.fBase v13 v11.fHeld)] : List Af)), (IntKind.wrap .i64 (v7.2 + 1)))) N (v11.fNext, 0, 0))
   (j7 v7.1)
def Dj (N : Nat) (p0 : Af) : Option ((List Af)) :=
 Co N p0 (fun (v2 : Int) =>
  Bx N p0 v2 (fun (v8 : (List Af)) =>
   some v8) N (([] : List Af), 0)) N (0, 0)
def BP (_ : Nat) (p0 : Af) (p1 : Int) : Option Int :=
 (BS p0.fBase p1).bind fun v1 =>
 (Ei (0 ≤ v1)).bind fun _ =>
 Bp (fun (v3 : Int) =>
  some v3)
 fun j3 =>
 (BS p0.fNext p1).bind fun v4 =>
 A0 ((decide (0 ≤ v4)))
  ((BS p0.fNext p1).bind fun v6 =>
  (Ei (0 ≤ v6)).bind fun _ =>
  j3 (Nq .u8 ((DA .u8 1 v1)) ((DA .u8 1 v6))))
  (j3 (DA .u8 1 v1))
def Cj (_ : Nat) (p0 : Int) (p1 : Int) : Option Bool :=
 (Ei (0 ≤ p1)).bind fun _ =>
 some (((FK .u8 ((E6 .u8 p0 p1)) 1) == 1))
def Bl (N : Nat) (p0 : Ad) (p1 : Af) (v1 : (List Ak) × Int) (v4 : AG) (v10 : (List Ak) × Int) (j17 : ((List Ak) × Bool) → Option ((List Ak))) : Nat → ((List Ak) × Bool × Int) → Option ((List Ak))
 | 0, _ => none
 | n17 + 1, v17 =>
  (BS p0.fVersions v4.fTo).bind fun v19 =>
  A0 ((decide (v17.2.2 < v19)))
   (Bp (fun (v21 : (List Ak) × Bool) =>
    Bl N p0 p1 v1 v4 v10 j17 n17 (v21.1, v21.2, (IntKind.wrap .i64 (v17.2.2 + 1))))
   fun j21 =>
   (BP N p1 v4.fTo).bind fun v22 =>
   (Cj N v22 v17.2.2).bind fun v23 =>
   A0 ((!v23))
    (j21 (v17.1, v17.2.1))
    (Bp (fun (v25 : Bool) =>
     Bp (fun (v29 : Bool) =>
      A0 v29
       ((Ei (v17.1.length + (([(Ak.mk v1.2 v10.2 v17.2.2)] : List Ak)).length ≤ Dz)).bind fun _ =>
       j21 (v17.1 ++ (([(Ak.mk v1.2 v10.2 v17.2.2)] : List Ak)), v25))
       (j21 (v17.1, v25)))
     fun j29 =>
     A0 ((!v4.fAware))
      ((BS v4.fOK v10.2).bind fun v31 =>
      (BS v31 v17.2.2).bind fun v32 =>
      j29 (!v32))
      (j29 false))
    fun j25 =>
    A0 v17.2.1
     (j25 true)
     ((BS v4.fOK v10.2).bind fun v27 =>
     (BS v27 v17.2.2).bind fun v28 =>
     j25 v28)))
   (j17 (v17.1, v17.2.1))
def BA (N : Nat) (p0 : Ad) (p1 : Af) (v1 : (List Ak) × Int) (v4 : AG) (v6 : Int) (j10 : ((List Ak)) → Option ((List Ak))) : Nat → ((List Ak) × Int) → Option ((List Ak))
 | 0, _ => none
 | n10 + 1, v10 =>
  (BS p0.fVersions v4.fFrom).bind fun v12 =>
  A0 ((decide (v10.2 < v12)))
   (Bp (fun (v14 : (List Ak)) =>
    BA N p0 p1 v1 v4 v6 j10 n10 (v14, (IntKind.wrap .i64 (v10.2 + 1))))
   fun j14 =>
   (Cj N v6 v10.2).bind fun v15 =>
   A0 ((!v15))
    (j14 v10.1)
    (Bl N p0 p1 v1 v4 v10 (fun (v18 : (List Ak) × Bool) =>
     Bp (fun (v35 : Bool) =>
      A0 v35
       ((Ei (v18.1.length + (([(Ak.mk v1.2 v10.2 ((-1)))] : List Ak)).length ≤ Dz)).bind fun _ =>
       j14 (v18.1 ++ (([(Ak.mk v1.2 v10.2 ((-1)))] : List Ak))))
       (j14 v18.1))
     fun j35 =>
     A0 v4.fAware
      (j35 (!v18.2))
      (j35 false)) N (v10.1, false, 0)))
   (j10 v10.1)
def Cr (N : Nat) (p0 : Ad) (p1 : Af) (j1 : ((List Ak)) → Option ((List Ak))) : Nat → ((List Ak) × Int) → Option ((List Ak))
 | 0, _ => none
 | n1 + 1, v1 =>
  A0 ((decide (v1.2 < (p0.fTables.length : Int))))
   ((BS p0.fTables v1.2).bind fun v4 =>
   (BP N p1 v4.fFrom).bind fun v5 =>
   Bp (fun (v6 : Int) =>
    BA N p0 p1 v1 v4 v6 (fun (v11 : (List Ak)) =>
     Cr N p0 p1 j1 n1 (v11, (IntKind.wrap .i64 (v1.2 + 1)))) N (v1.1, 0))
   fun j6 =>
   (A7 N v4).bind fun v7 =>
   A0 v7
    ((BS p1.fHeld v1.2).bind fun v9 =>
    j6 v9)
    (j6 v5))
   (j1 v1.1)
def Dr (N : Nat) (p0 : Ad) (p1 : Af) : Option ((List Ak)) :=
 Cr N p0 p1 (fun (v2 : (List Ak)) =>
  some v2) N (([] : List Ak), 0)
def DU (N : Nat) (p0 : Ad) (p1 : Af) : Option Bool :=
 (Dr N p0 p1).bind fun v1 =>
 some (((v1.length : Int) == 0))
def B0 (N : Nat) (p0 : Ad) (v1 : (List Af)) (j2 : Unit → Option Bool) : Nat → Int → Option Bool
 | 0, _ => none
 | n2 + 1, v2 =>
  A0 ((decide (v2 < (v1.length : Int))))
   ((BS v1 v2).bind fun v5 =>
   (DU N p0 v5).bind fun v6 =>
   A0 ((!v6))
    (some false)
    (B0 N p0 v1 j2 n2 (IntKind.wrap .i64 (v2 + 1))))
   (j2 ())
def Cs (N : Nat) (p0 : Ad) (p1 : Af) : Option Bool :=
 (Dj N p1).bind fun v1 =>
 B0 N p0 v1 (fun (_ : Unit) =>
  some true) N 0
def B2 (N : Nat) (p0 : Ad) (p1 : Af) (j7 : Unit → Option Int) : Nat → Int → Option Int
 | 0, _ => none
 | n7 + 1, v7 =>
  A0 ((decide (v7 < (p0.fVersions.length : Int))))
   (Bp (fun (v10 : Bool) =>
    A0 v10
     (some 7)
     ((BS p1.fBase v7).bind fun v21 =>
     (BS p1.fNext v7).bind fun v22 =>
     A0 ((v21 == v22))
      (some 1)
      (B2 N p0 p1 j7 n7 (IntKind.wrap .i64 (v7 + 1)))))
   fun j10 =>
   (BS p1.fBase v7).bind fun v11 =>
   A0 ((decide (v11 < 0)))
    (j10 true)
    ((BS p1.fBase v7).bind fun v13 =>
    (BS p0.fVersions v7).bind fun v14 =>
    A0 ((decide (v14 ≤ v13)))
     (j10 true)
     ((BS p1.fNext v7).bind fun v16 =>
     A0 ((decide (v16 < (-1))))
      (j10 true)
      ((BS p1.fNext v7).bind fun v18 =>
      (BS p0.fVersions v7).bind fun v19 =>
      j10 (decide (v19 ≤ v18))))))
   (j7 ())
def BU (N : Nat) (p0 : Ad) (p1 : Af) (j24 : Unit → Option Int) : Nat → Int → Option Int
 | 0, _ => none
 | n24 + 1, v24 =>
  A0 ((decide (v24 < (p0.fTables.length : Int))))
   ((BS p0.fTables v24).bind fun v27 =>
   (BS p0.fVersions v27.fFrom).bind fun v28 =>
   (Ei (0 ≤ v28)).bind fun _ =>
   Bp (fun (v30 : Bool) =>
    A0 v30
     (some 1)
     (BU N p0 p1 j24 n24 (IntKind.wrap .i64 (v24 + 1))))
   fun j30 =>
   (A7 N v27).bind fun v31 =>
   A0 ((!v31))
    ((BS p1.fHeld v24).bind fun v33 =>
    A0 ((v33 != 0))
     (j30 true)
     ((A7 N v27).bind fun v35 =>
     A0 v35
      ((BS p1.fHeld v24).bind fun v37 =>
      A0 (((C0 .u8 v37 ((IntKind.wrap .u8 ((DA .u8 1 v28) - 1)))) != 0))
       (j30 true)
       ((BP N p1 v27.fFrom).bind fun v39 =>
       (BS p1.fHeld v24).bind fun v40 =>
       j30 ((C0 .u8 v39 v40) != 0)))
      (j30 false)))
    ((A7 N v27).bind fun v41 =>
    A0 v41
     ((BS p1.fHeld v24).bind fun v43 =>
     A0 (((C0 .u8 v43 ((IntKind.wrap .u8 ((DA .u8 1 v28) - 1)))) != 0))
      (j30 true)
      ((BP N p1 v27.fFrom).bind fun v45 =>
      (BS p1.fHeld v24).bind fun v46 =>
      j30 ((C0 .u8 v45 v46) != 0)))
     (j30 false)))
   (j24 ())
def Cu (N : Nat) (p0 : Ad) (p1 : Af) : Option Int :=
 (Cl N p0).bind fun v1 =>
 A0 ((v1 != 0))
  (some v1)
  (Bp (fun (v3 : Bool) =>
   A0 v3
    (some 6)
    (B2 N p0 p1 (fun (_ : Unit) =>
     BU N p0 p1 (fun (_ : Unit) =>
      some 0) N 0) N 0))
  fun j3 =>
  A0 (((p1.fBase.length : Int) != (p0.fVersions.length : Int)))
   (j3 true)
   (A0 (((p1.fNext.length : Int) != (p0.fVersions.length : Int)))
    (j3 true)
    (j3 ((p1.fHeld.length : Int) != (p0.fTables.length : Int)))))
def Eg (_ : Nat) (p0 : Ah) : Option Bool :=
 Bp (fun (v1 : Bool) =>
  some v1)
 fun j1 =>
 A0 ((decide (1 ≤ p0.fKind)))
  (A0 ((decide (p0.fKind ≤ 4)))
   (A0 ((decide (0 ≤ p0.fIndex)))
    (A0 ((decide (0 ≤ p0.fVersion)))
     (A0 ((p0.fKind == 1))
      (j1 true)
      (j1 (p0.fVersion == 0)))
     (j1 false))
    (j1 false))
   (j1 false))
  (j1 false)
def BV (N : Nat) (p0 : Ad) (p2 : Ah) (j12 : ((List Int)) → Option (Af × Bool)) : Nat → ((List Int) × Int) → Option (Af × Bool)
 | 0, _ => none
 | n12 + 1, v12 =>
  A0 ((decide (v12.2 < (p0.fTables.length : Int))))
   (Bp (fun (v15 : (List Int)) =>
    BV N p0 p2 j12 n12 (v15, (IntKind.wrap .i64 (v12.2 + 1))))
   fun j15 =>
   Bp (fun (v16 : Bool) =>
    A0 v16
     ((BS v12.1 v12.2).bind fun v22 =>
     (Ei (0 ≤ p2.fVersion)).bind fun _ =>
     (BS v12.1 v12.2).bind fun _ =>
     j15 (v12.1.set ((v12.2).toNat) ((Nq .u8 v22 ((DA .u8 1 p2.fVersion))))))
     (j15 v12.1))
   fun j16 =>
   (BS p0.fTables v12.2).bind fun v17 =>
   A0 ((v17.fFrom == p2.fIndex))
    ((BS p0.fTables v12.2).bind fun v19 =>
    (A7 N v19).bind fun v20 =>
    j16 v20)
    (j16 false))
   (j12 v12.1)
def Bz (N : Nat) (p0 : Ad) (p1 : Af) (p2 : Ah) (v32 : AG) (v35 : Int) (j38 : Unit → Option (Af × Bool)) : Nat → Int → Option (Af × Bool)
 | 0, _ => none
 | n38 + 1, v38 =>
  (BS p0.fVersions v32.fFrom).bind fun v40 =>
  A0 ((decide (v38 < v40)))
   (Bp (fun (v42 : Bool) =>
    Bp (fun (v47 : Bool) =>
     A0 v47
      (some ((Af.mk (([] : List Int)) (([] : List Int)) (([] : List Int))), false))
      (Bz N p0 p1 p2 v32 v35 j38 n38 (IntKind.wrap .i64 (v38 + 1))))
    fun j47 =>
    A0 v42
     (A0 ((v32.fKind == 4))
      ((BS v32.fRewrite v38).bind fun v50 =>
      (BS p1.fBase v32.fFrom).bind fun v51 =>
      (BS v50 v51).bind fun v52 =>
      j47 (!v52))
      (j47 false))
     (j47 false))
   fun j42 =>
   (BS p1.fHeld p2.fIndex).bind fun v43 =>
   (Cj N v43 v38).bind fun v44 =>
   A0 v44
    ((Cj N v35 v38).bind fun v46 =>
    j42 (!v46))
    (j42 false))
   (j38 ())
def Cw (N : Nat) (p0 : Ad) (p1 : Af) (p2 : Ah) : Option (Af × Bool) :=
 (Ei ((([] : List Int)).length + p1.fBase.length ≤ Dz)).bind fun _ =>
 (Ei ((([] : List Int)).length + p1.fNext.length ≤ Dz)).bind fun _ =>
 (Ei ((([] : List Int)).length + p1.fHeld.length ≤ Dz)).bind fun _ =>
 Bp (fun (v4 : (List Int) × (List Int) × (List Int)) =>
  some ((Af.mk v4.1 v4.2.1 v4.2.2), true))
 fun j4 =>
 A0 ((p2.fKind == 1))
  (Bp (fun (v6 : Bool) =>
   A0 v6
    (some ((Af.mk (([] : List Int)) (([] : List Int)) (([] : List Int))), false))
    ((BS ((([] : List Int)) ++ p1.fNext) p2.fIndex).bind fun _ =>
    BV N p0 p2 (fun (v13 : (List Int)) =>
     j4 ((([] : List Int)) ++ p1.fBase, ((([] : List Int)) ++ p1.fNext).set ((p2.fIndex).toNat) p2.fVersion, v13)) N ((([] : List Int)) ++ p1.fHeld, 0)))
  fun j6 =>
  (BS p1.fNext p2.fIndex).bind fun v7 =>
  A0 ((decide (0 ≤ v7)))
   (j6 true)
   ((BS p1.fBase p2.fIndex).bind fun v9 =>
   j6 (p2.fVersion == v9)))
  (A0 ((p2.fKind == 2))
   ((BS p1.fNext p2.fIndex).bind fun v26 =>
   A0 ((decide (v26 < 0)))
    (some ((Af.mk (([] : List Int)) (([] : List Int)) (([] : List Int))), false))
    ((BS p1.fNext p2.fIndex).bind fun v28 =>
    (BS ((([] : List Int)) ++ p1.fBase) p2.fIndex).bind fun _ =>
    (BS ((([] : List Int)) ++ p1.fNext) p2.fIndex).bind fun _ =>
    j4 (((([] : List Int)) ++ p1.fBase).set ((p2.fIndex).toNat) v28, ((([] : List Int)) ++ p1.fNext).set ((p2.fIndex).toNat) ((-1)), (([] : List Int)) ++ p1.fHeld)))
   (A0 ((p2.fKind == 3))
    ((BS p0.fTables p2.fIndex).bind fun v32 =>
    (A7 N v32).bind fun v33 =>
    A0 ((!v33))
     (some ((Af.mk (([] : List Int)) (([] : List Int)) (([] : List Int))), false))
     ((BP N p1 v32.fFrom).bind fun v35 =>
     (BS p1.fHeld p2.fIndex).bind fun v36 =>
     A0 ((v36 == v35))
      (some ((Af.mk (([] : List Int)) (([] : List Int)) (([] : List Int))), false))
      (Bz N p0 p1 p2 v32 v35 (fun (_ : Unit) =>
       (BS ((([] : List Int)) ++ p1.fHeld) p2.fIndex).bind fun _ =>
       j4 ((([] : List Int)) ++ p1.fBase, (([] : List Int)) ++ p1.fNext, ((([] : List Int)) ++ p1.fHeld).set ((p2.fIndex).toNat) v35)) N 0)))
    ((BS p1.fNext p2.fIndex).bind fun v55 =>
    A0 ((decide (v55 < 0)))
     (some ((Af.mk (([] : List Int)) (([] : List Int)) (([] : List Int))), false))
     ((BS ((([] : List Int)) ++ p1.fNext) p2.fIndex).bind fun _ =>
     j4 ((([] : List Int)) ++ p1.fBase, ((([] : List Int)) ++ p1.fNext).set ((p2.fIndex).toNat) ((-1)), (([] : List Int)) ++ p1.fHeld)))))
def Dn (N : Nat) (p0 : Ad) (p1 : Af) (p2 : Ah) : Option (Af × Int) :=
 (Cu N p0 p1).bind fun v1 =>
 A0 ((v1 != 0))
  (some ((Af.mk (([] : List Int)) (([] : List Int)) (([] : List Int))), v1))
  ((Eg N p2).bind fun v3 =>
  A0 ((!v3))
   (some ((Af.mk (([] : List Int)) (([] : List Int)) (([] : List Int))), 1))
   (Bp (fun (v5 : Bool) =>
    A0 v5
     (some ((Af.mk (([] : List Int)) (([] : List Int)) (([] : List Int))), 4))
     (Bp (fun (v11 : Bool) =>
      A0 v11
       (some ((Af.mk (([] : List Int)) (([] : List Int)) (([] : List Int))), 4))
       ((Cw N p0 p1 p2).bind fun v15 =>
       A0 ((!v15.2))
        (some ((Af.mk (([] : List Int)) (([] : List Int)) (([] : List Int))), 11))
        (some (v15.1, 0))))
     fun j11 =>
     A0 ((p2.fKind == 1))
      ((BS p0.fVersions p2.fIndex).bind fun v13 =>
      j11 (decide (v13 ≤ p2.fVersion)))
      (j11 false)))
   fun j5 =>
   A0 ((p2.fKind == 3))
    (A0 ((decide ((p0.fTables.length : Int) ≤ p2.fIndex)))
     (j5 true)
     (A0 ((p2.fKind != 3))
      (j5 (decide ((p0.fVersions.length : Int) ≤ p2.fIndex)))
      (j5 false)))
    (A0 ((p2.fKind != 3))
     (j5 (decide ((p0.fVersions.length : Int) ≤ p2.fIndex)))
     (j5 false))))
def B3 (N : Nat) (p0 : Ad) (p1 : Af) (v1 : (List Ah) × Int) (v4 : (List Ah) × Int) (j7 : ((List Ah)) → Option ((List Ah))) : Nat → ((List Ah) × Int) → Option ((List Ah))
 | 0, _ => none
 | n7 + 1, v7 =>
  A0 ((decide (v7.2 < 6)))
   (Bp (fun (v10 : (List Ah)) =>
    B3 N p0 p1 v1 v4 j7 n7 (v10, (IntKind.wrap .i64 (v7.2 + 1))))
   fun j10 =>
   (Dn N p0 p1 ((Ah.mk v1.2 v4.2 v7.2))).bind fun v11 =>
   A0 ((v11.2 == 0))
    ((Ei (v7.1.length + (([(Ah.mk v1.2 v4.2 v7.2)] : List Ah)).length ≤ Dz)).bind fun _ =>
    j10 (v7.1 ++ (([(Ah.mk v1.2 v4.2 v7.2)] : List Ah))))
    (j10 v7.1))
   (j7 v7.1)
def B1 (N : Nat) (p0 : Ad) (p1 : Af) (v1 : (List Ah) × Int) (j4 : ((List Ah)) → Option ((List Ah))) : Nat → ((List Ah) × Int) → Option ((List Ah))
 | 0, _ => none
 | n4 + 1, v4 =>
  A0 ((decide (v4.2 < (R3 ((p0.fVersions.length : Int)) ((p0.fTables.length : Int))))))
   (B3 N p0 p1 v1 v4 (fun (v8 : (List Ah)) =>
    B1 N p0 p1 v1 j4 n4 (v8, (IntKind.wrap .i64 (v4.2 + 1)))) N (v4.1, 0))
   (j4 v4.1)
def Bt (N : Nat) (p0 : Ad) (p1 : Af) (j1 : ((List Ah)) → Option ((List Ah))) : Nat → ((List Ah) × Int) → Option ((List Ah))
 | 0, _ => none
 | n1 + 1, v1 =>
  A0 ((decide (v1.2 ≤ 3)))
   (B1 N p0 p1 v1 (fun (v5 : (List Ah)) =>
    Bt N p0 p1 j1 n1 (v5, (IntKind.wrap .i64 (v1.2 + 1)))) N (v1.1, 0))
   (j1 v1.1)
def D7 (N : Nat) (p0 : Ad) (p1 : Af) : Option ((List Ah)) :=
 Bt N p0 p1 (fun (v2 : (List Ah)) =>
  some v2) N (([] : List Ah), 1)
def CZ (N : Nat) (p0 : List Int) (p1 : List Int) (j1 : Unit → Option Int) : Nat → Int → Option Int
 | 0, _ => none
 | n1 + 1, v1 =>
  Bp (fun (v3 : Bool) =>
   A0 v3
    ((BS p0 v1).bind fun v6 =>
    (BS p1 v1).bind fun v7 =>
    A0 ((decide (v6 < v7)))
     (some ((-1)))
     ((BS p0 v1).bind fun v9 =>
     (BS p1 v1).bind fun v10 =>
     A0 ((decide (v10 < v9)))
      (some 1)
      (CZ N p0 p1 j1 n1 (IntKind.wrap .i64 (v1 + 1)))))
    (j1 ()))
  fun j3 =>
  A0 ((decide (v1 < (p0.length : Int))))
   (j3 (decide (v1 < (p1.length : Int))))
   (j3 false)
def C5 (N : Nat) (p0 : List Int) (p1 : List Int) : Option Int :=
 CZ N p0 p1 (fun (_ : Unit) =>
  A0 ((decide ((p0.length : Int) < (p1.length : Int))))
   (some ((-1)))
   (A0 ((decide ((p1.length : Int) < (p0.length : Int))))
    (some 1)
    (some 0))) N 0
def Cy (N : Nat) (p0 : List Int) (j1 : ((List Int)) → Option ((List Int))) : Nat → ((List Int) × Int) → Option ((List Int))
 | 0, _ => none
 | n1 + 1, v1 =>
  A0 ((decide (v1.2 < (p0.length : Int))))
   ((BS p0 v1.2).bind fun v4 =>
   (Ei (v1.1.length + (([(IntKind.wrap .i64 v4)] : List Int)).length ≤ Dz)).bind fun _ =>
   Cy N p0 j1 n1 (v1.1 ++ (([(IntKind.wrap .i64 v4)] : List Int)), (IntKind.wrap .i64 (v1.2 + 1))))
   (j1 v1.1)
def CY (N : Nat) (p0 : List Int) : Option ((List Int)) :=
 Cy N p0 (fun (v2 : (List Int)) =>
  some v2) N (([] : List Int), 0)
def DE (N : Nat) (p0 : Af) (p1 : Af) : Option Int :=
 (C5 N p0.fBase p1.fBase).bind fun v1 =>
 A0 ((v1 != 0))
  (some v1)
  ((C5 N p0.fNext p1.fNext).bind fun v3 =>
  A0 ((v3 != 0))
   (some v3)
   ((CY N p0.fHeld).bind fun v5 =>
   (CY N p1.fHeld).bind fun v6 =>
   (C5 N v5 v6).bind fun v7 =>
   some v7))
def D3 (N : Nat) (p0 : Af) (p1 : Af) : Option Bool :=
 (DE N p0 p1).bind fun v1 =>
 some ((v1 == 0))
def Ch (N : Nat) (p0 : List AC) (p1 : Af) (j1 : Unit → Option Int) : Nat → Int → Option Int
 | 0, _ => none
 | n1 + 1, v1 =>
  A0 ((decide (v1 < (p0.length : Int))))
   ((BS p0 v1).bind fun v4 =>
   (D3 N ((Af.mk v4.fMix.fBase v4.fMix.fNext v4.fMix.fHeld)) p1).bind fun v5 =>
   A0 v5
    (some v1)
    (Ch N p0 p1 j1 n1 (IntKind.wrap .i64 (v1 + 1))))
   (j1 ())
def DG (N : Nat) (p0 : List AC) (p1 : Af) : Option Int :=
 Ch N p0 p1 (fun (_ : Unit) =>
  some ((-1))) N 0
def BL (N : Nat) (p0 : Ad) (p2 : Int) (v1 : (List AC) × Int) (v5 : (List Ah)) (j6 : ((List AC)) → Option ((List AC) × Bool)) : Nat → ((List AC) × Int) → Option ((List AC) × Bool)
 | 0, _ => none
 | n6 + 1, v6 =>
  A0 ((decide (v6.2 < (v5.length : Int))))
   ((BS v6.1 v1.2).bind fun v9 =>
   (BS v5 v6.2).bind fun v10 =>
   (Cw N p0 ((Af.mk v9.fMix.fBase v9.fMix.fNext v9.fMix.fHeld)) v10).bind fun v11 =>
   Bp (fun (v12 : (List AC)) =>
    A0 ((decide (p2 < (v12.length : Int))))
     (some (([] : List AC), false))
     (BL N p0 p2 v1 v5 j6 n6 (v12, (IntKind.wrap .i64 (v6.2 + 1)))))
   fun j12 =>
   Bp (fun (v13 : Bool) =>
    A0 v13
     ((BS v5 v6.2).bind fun v18 =>
     (Ei (v6.1.length + (([(AC.mk v11.1 v1.2 v18)] : List AC)).length ≤ Dz)).bind fun _ =>
     j12 (v6.1 ++ (([(AC.mk v11.1 v1.2 v18)] : List AC))))
     (j12 v6.1))
   fun j13 =>
   (Cs N p0 v11.1).bind fun v14 =>
   A0 v14
    ((DG N v6.1 v11.1).bind fun v16 =>
    j13 (decide (v16 < 0)))
    (j13 false))
   (j6 v6.1)
def BH (N : Nat) (p0 : Ad) (p2 : Int) (j1 : ((List AC)) → Option ((List AC) × Bool)) : Nat → ((List AC) × Int) → Option ((List AC) × Bool)
 | 0, _ => none
 | n1 + 1, v1 =>
  A0 ((decide (v1.2 < (v1.1.length : Int))))
   ((BS v1.1 v1.2).bind fun v4 =>
   (D7 N p0 ((Af.mk v4.fMix.fBase v4.fMix.fNext v4.fMix.fHeld))).bind fun v5 =>
   BL N p0 p2 v1 v5 (fun (v7 : (List AC)) =>
    BH N p0 p2 j1 n1 (v7, (IntKind.wrap .i64 (v1.2 + 1)))) N (v1.1, 0))
   (j1 v1.1)
def Cv (N : Nat) (p0 : Ad) (p1 : Af) (p2 : Int) : Option ((List AC) × Bool) :=
 BH N p0 p2 (fun (v2 : (List AC)) =>
  some (v2, true)) N (([(AC.mk p1 ((-1)) ((Ah.mk 0 0 0)))] : List AC), 0)
def Ed (N : Nat) (p0 : Ad) (p1 : Int) : Option Bool :=
 (CS N p0).bind fun v1 =>
 Bp (fun (v2 : Bool) =>
  A0 v2
   (some true)
   ((Cv N p0 v1.1 p1).bind fun v6 =>
   some v6.2))
 fun j2 =>
 A0 ((v1.2 != 0))
  (j2 true)
  ((Cs N p0 v1.1).bind fun v4 =>
  j2 (!v4))
def EJ (N : Nat) (p0 : BG) : Option (Ad × Bool) :=
 (EQ N p0).bind fun v1 =>
 Bp (fun (v2 : Bool) =>
  some (v1.1, v2))
 fun j2 =>
 A0 v1.2
  ((Ed N v1.1 120).bind fun v4 =>
  j2 v4)
  (j2 false)
def EC (N : Nat) (p0 : Ad) (p1 : Af) : Option ((List Af) × Int) :=
 (Cu N p0 p1).bind fun v1 =>
 A0 ((v1 != 0))
  (some (([] : List Af), v1))
  ((Dj N p1).bind fun v3 =>
  some (v3, 0))
def Ct (N : Nat) (p0 : Ad) (v1 : (List Af) × Int) (j3 : Unit → Option (Af × Ak × Int)) : Nat → Int → Option (Af × Ak × Int)
 | 0, _ => none
 | n3 + 1, v3 =>
  A0 ((decide (v3 < (v1.1.length : Int))))
   ((BS v1.1 v3).bind fun v6 =>
   (Dr N p0 v6).bind fun v7 =>
   A0 ((decide (0 < (v7.length : Int))))
    ((BS v1.1 v3).bind fun v9 =>
    (BS v7 0).bind fun v10 =>
    some (v9, v10, 0))
    (Ct N p0 v1 j3 n3 (IntKind.wrap .i64 (v3 + 1))))
   (j3 ())
def D4 (N : Nat) (p0 : Ad) (p1 : Af) : Option (Af × Ak × Int) :=
 (EC N p0 p1).bind fun v1 =>
 A0 ((v1.2 != 0))
  (some ((Af.mk (([] : List Int)) (([] : List Int)) (([] : List Int))), (Ak.mk 0 0 0), v1.2))
  (Ct N p0 v1 (fun (_ : Unit) =>
   some ((Af.mk (([] : List Int)) (([] : List Int)) (([] : List Int))), (Ak.mk 0 0 0), 15)) N 0)
def CD (N : Nat) (p0 : Ad) (p1 : Af) (j3 : Unit → Option Bool) : Nat → Int → Option Bool
 | 0, _ => none
 | n3 + 1, v3 =>
  A0 ((decide (v3 < (p1.fBase.length : Int))))
   (Bp (fun (v6 : Bool) =>
    A0 v6
     (some false)
     (CD N p0 p1 j3 n3 (IntKind.wrap .i64 (v3 + 1))))
   fun j6 =>
   (BS p1.fNext v3).bind fun v7 =>
   A0 ((decide (0 ≤ v7)))
    (j6 true)
    ((BS p1.fBase v3).bind fun v9 =>
    (BS p0.fTarget v3).bind fun v10 =>
    j6 (v9 != v10)))
   (j3 ())
def C1 (N : Nat) (p0 : Ad) (p1 : Af) : Option Bool :=
 (Cu N p0 p1).bind fun v1 =>
 A0 ((v1 != 0))
  (some false)
  (CD N p0 p1 (fun (_ : Unit) =>
   some true) N 0)
def B7 (N : Nat) (p0 : Ad) (p1 : List Ah) (j3 : Af → Option (Int × Af × Ak × Int)) : Nat → ((List Int) × (List Int) × (List Int) × Int) → Option (Int × Af × Ak × Int)
 | 0, _ => none
 | n3 + 1, v3 =>
  A0 ((decide (v3.2.2.2 < (p1.length : Int))))
   (Bp (fun (v6 : (List Int) × (List Int) × (List Int)) =>
    (D4 N p0 ((Af.mk v6.1 v6.2.1 v6.2.2))).bind fun v14 =>
    A0 ((v14.2.2 == 0))
     (some (v3.2.2.2, v14.1, v14.2.1, 0))
     (B7 N p0 p1 j3 n3 (v6.1, v6.2.1, v6.2.2, (IntKind.wrap .i64 (v3.2.2.2 + 1)))))
   fun j6 =>
   A0 ((decide (0 ≤ v3.2.2.2)))
    ((BS p1 v3.2.2.2).bind fun v8 =>
    (Dn N p0 ((Af.mk v3.1 v3.2.1 v3.2.2.1)) v8).bind fun v9 =>
    Bp (fun (v10 : Bool) =>
     A0 v10
      (some (v3.2.2.2, (Af.mk (([] : List Int)) (([] : List Int)) (([] : List Int))), (Ak.mk 0 0 0), 0))
      (j6 (v9.1.fBase, v9.1.fNext, v9.1.fHeld)))
    fun j10 =>
    A0 ((v9.2 != 0))
     (j10 true)
     ((BS p1 v3.2.2.2).bind fun v12 =>
     j10 (v12.fKind == 4)))
    (j6 (v3.1, v3.2.1, v3.2.2.1)))
   (j3 (Af.mk v3.1 v3.2.1 v3.2.2.1))
def DB (N : Nat) (p0 : Ad) (p1 : List Ah) : Option (Int × Af × Ak × Int) :=
 (CS N p0).bind fun v1 =>
 A0 ((v1.2 != 0))
  (some (0, (Af.mk (([] : List Int)) (([] : List Int)) (([] : List Int))), (Ak.mk 0 0 0), v1.2))
  (B7 N p0 p1 (fun (v4 : Af) =>
   (C1 N p0 v4).bind fun v16 =>
   A0 ((!v16))
    (some ((p1.length : Int), (Af.mk (([] : List Int)) (([] : List Int)) (([] : List Int))), (Ak.mk 0 0 0), 14))
    (some (0, (Af.mk (([] : List Int)) (([] : List Int)) (([] : List Int))), (Ak.mk 0 0 0), 15))) N (v1.1.fBase, v1.1.fNext, v1.1.fHeld, (-1)))
def Eb (N : Nat) (p0 : Ad) (p1 : List Ah) : Option Bool :=
 (DB N p0 p1).bind fun v1 =>
 some ((v1.2.2.2 == 15))
def CL (N : Nat) (p0 : BG) (p1 : List Ah) : Option Bool :=
 Bp (fun (v1 : Bool) =>
  A0 v1
   ((Ec N).bind fun v5 =>
   some v5)
   ((EJ N p0).bind fun v6 =>
   A0 ((!v6.2))
    (some true)
    ((EN N v6.1).bind fun v8 =>
    (Eb N v6.1 p1).bind fun v9 =>
    A0 ((!v9))
     (some true)
     (Bp (fun (v11 : Bool) =>
      some v11)
     fun j11 =>
     A0 ((v8.2 == 0))
      (j11 (decide ((v8.1.length : Int) ≤ (p1.length : Int))))
      (j11 false)))))
 fun j1 =>
 (Ec N).bind fun v2 =>
 A0 ((!v2))
  (j1 true)
  (j1 (decide (12 < (p1.length : Int))))
def Ez (N : Nat) (p0 : List AC) (j1 : ((List Ah)) → Option ((List Ah))) : Nat → (Int × (List Ah)) → Option ((List Ah))
 | 0, _ => none
 | n1 + 1, v1 =>
  (BS p0 v1.1).bind fun v3 =>
  A0 ((decide (0 ≤ v3.fBefore)))
   ((BS p0 v1.1).bind fun v5 =>
   (Ei ((([(Ah.mk v5.fBy.fKind v5.fBy.fIndex v5.fBy.fVersion)] : List Ah)).length + v1.2.length ≤ Dz)).bind fun _ =>
   (BS p0 v1.1).bind fun v7 =>
   Ez N p0 j1 n1 (v7.fBefore, (([(Ah.mk v5.fBy.fKind v5.fBy.fIndex v5.fBy.fVersion)] : List Ah)) ++ v1.2))
   (j1 v1.2)
def HU (N : Nat) (p0 : List AC) (p1 : Int) : Option ((List Ah)) :=
 Ez N p0 (fun (v2 : (List Ah)) =>
  some v2) N (p1, ([] : List Ah))
def CW (N : Nat) (p0 : Ad) (v5 : (List AC) × Bool) (j7 : Unit → Option ((List Ah) × Int)) : Nat → Int → Option ((List Ah) × Int)
 | 0, _ => none
 | n7 + 1, v7 =>
  A0 ((decide (v7 < (v5.1.length : Int))))
   ((BS v5.1 v7).bind fun v10 =>
   (C1 N p0 ((Af.mk v10.fMix.fBase v10.fMix.fNext v10.fMix.fHeld))).bind fun v11 =>
   A0 v11
    ((HU N v5.1 v7).bind fun v13 =>
    some (v13, 0))
    (CW N p0 v5 j7 n7 (IntKind.wrap .i64 (v7 + 1))))
   (j7 ())
def DH (N : Nat) (p0 : Ad) (p1 : Af) : Option ((List Ah) × Int) :=
 (Cu N p0 p1).bind fun v1 =>
 A0 ((v1 != 0))
  (some (([] : List Ah), v1))
  ((Cs N p0 p1).bind fun v3 =>
  A0 ((!v3))
   (some (([] : List Ah), 13))
   ((Cv N p0 p1 20000).bind fun v5 =>
   A0 ((!v5.2))
    (some (([] : List Ah), 3))
    (CW N p0 v5 (fun (_ : Unit) =>
     some (([] : List Ah), 14)) N 0)))
def Hq (N : Nat) (p0 : Ad) : Option ((List Ah) × Int) :=
 (CS N p0).bind fun v1 =>
 A0 ((v1.2 != 0))
  (some (([] : List Ah), v1.2))
  ((DH N p0 v1.1).bind fun v3 =>
  some (v3.1, v3.2))
def LE {α : Type} (w : α → Prop) (xs : List α) : Prop := ∀ x, x ∈ xs → w x
def UP (n : Int) : Prop := (Lit.int .i64 n).wf = true
def J3 (n : Int) : Prop := (Lit.int .u8 n).wf = true
def VD (n : Int) : Prop := (Lit.int .u16 n).wf = true
def GW (x : Hj) : Prop := J3 x.fKind ∧ J3 x.fFrom ∧ J3 x.fTo ∧ (fun _ => True) x.fAware ∧ VD x.fBad ∧ VD x.fLost ∧ True
def EL (x : BG) : Prop := (LE J3) x.fVersions ∧ (LE J3) x.fNow ∧ (LE J3) x.fTarget ∧ (LE GW) x.fLinks ∧ True
def KX (x : Ah) : Prop := UP x.fKind ∧ UP x.fIndex ∧ UP x.fVersion ∧ True
end Go.Lift

/- That the code does what the shallow programs do, function by function. Written by a program (gen.py). -/
namespace Go.Lift
open Go.RowKit
open Go.Proofs
theorem Ae : Try.prog.follows .mixedOrders = true := by kernel_rfl
theorem Xm : ED Try.prog 101 true = true := by kernel_rfl
theorem Su : ED Try.prog 22 false = true := by kernel_rfl
theorem VP : ED Try.prog 23 false = true := by kernel_rfl
theorem WP : ED Try.prog 25 true = true := by kernel_rfl
theorem A9 : ED Try.prog 27 false = true := by kernel_rfl
theorem GE : ED Try.prog 28 false = true := by kernel_rfl
theorem Cb : ED Try.prog 3 false = true := by kernel_rfl
theorem Dl : ED Try.prog 30 true = true := by kernel_rfl
theorem Rb : ED Try.prog 4 false = true := by kernel_rfl
theorem Gs : ED Try.prog 41 false = true := by kernel_rfl
theorem Be : ED Try.prog 43 true = true := by kernel_rfl
theorem H0 : ED Try.prog 45 true = true := by kernel_rfl
theorem Xk : ED Try.prog 5 false = true := by kernel_rfl
theorem GS : ED Try.prog 63 true = true := by kernel_rfl
theorem Jo : ED Try.prog 73 false = true := by kernel_rfl
theorem GK : ED Try.prog 75 true = true := by kernel_rfl
theorem OS : ED Try.prog 76 false = true := by kernel_rfl
theorem Xb : ED Try.prog 82 false = true := by kernel_rfl
theorem XK : ED Try.prog 84 true = true := by kernel_rfl
theorem Jz : ED Try.prog 87 false = true := by kernel_rfl
theorem Xi : OK Try.prog 22 = true := by kernel_rfl
theorem VF : EZ Try.prog 101 128 = true := by kernel_rfl
theorem K6 : EZ Try.prog 3 8 = true := by kernel_rfl
theorem Vl : EZ Try.prog 4 1 = true := by kernel_rfl
theorem UY : EZ Try.prog 43 72 = true := by kernel_rfl
theorem Rd : EZ Try.prog 45 24 = true := by kernel_rfl
theorem VR : EZ Try.prog 5 1 = true := by kernel_rfl
theorem Pu : EZ Try.prog 63 24 = true := by kernel_rfl
theorem WD : EZ Try.prog 75 80 = true := by kernel_rfl
theorem Xn : EZ Try.prog 76 24 = true := by kernel_rfl
theorem Qt : EZ Try.prog 87 1 = true := by kernel_rfl
theorem Wt : EZ Try.prog 92 104 = true := by kernel_rfl
theorem MT : Cz Try.prog 101 0 0 = true := by kernel_rfl
theorem P7 : Cz Try.prog 101 1 3 = true := by kernel_rfl
theorem Tm : Cz Try.prog 101 2 4 = true := by kernel_rfl
theorem PS : Cz Try.prog 101 3 7 = true := by kernel_rfl
theorem Ph : Cz Try.prog 25 0 0 = true := by kernel_rfl
theorem Ub : Cz Try.prog 25 1 1 = true := by kernel_rfl
theorem UI : Cz Try.prog 25 2 2 = true := by kernel_rfl
theorem Pf : Cz Try.prog 25 3 3 = true := by kernel_rfl
theorem Bu : Cz Try.prog 30 0 0 = true := by kernel_rfl
theorem F9 : Cz Try.prog 30 1 1 = true := by kernel_rfl
theorem Hx : Cz Try.prog 30 2 2 = true := by kernel_rfl
theorem CG : Cz Try.prog 30 3 3 = true := by kernel_rfl
theorem CA : Cz Try.prog 43 0 0 = true := by kernel_rfl
theorem By : Cz Try.prog 43 1 1 = true := by kernel_rfl
theorem CC : Cz Try.prog 43 2 2 = true := by kernel_rfl
theorem EO : Cz Try.prog 63 0 0 = true := by kernel_rfl
theorem EA : Cz Try.prog 63 1 1 = true := by kernel_rfl
theorem Gb : Cz Try.prog 63 2 2 = true := by kernel_rfl
theorem Fr : Cz Try.prog 75 0 0 = true := by kernel_rfl
theorem CX : Cz Try.prog 75 1 1 = true := by kernel_rfl
theorem HA : Cz Try.prog 75 2 2 = true := by kernel_rfl
theorem Ib : Cz Try.prog 75 3 3 = true := by kernel_rfl
theorem I4 : Cz Try.prog 75 4 4 = true := by kernel_rfl
theorem Gd : Cz Try.prog 75 5 5 = true := by kernel_rfl
theorem TP : Cz Try.prog 84 0 0 = true := by kernel_rfl
theorem Uy : Cz Try.prog 84 1 1 = true := by kernel_rfl
theorem TY : Cz Try.prog 84 2 2 = true := by kernel_rfl
theorem Ug : Cz Try.prog 84 3 3 = true := by kernel_rfl
theorem UV : Cz Try.prog 84 4 4 = true := by kernel_rfl
theorem UK : Cz Try.prog 84 5 5 = true := by kernel_rfl
theorem OO : Cz Try.prog 92 0 0 = true := by kernel_rfl
theorem W9 : AP Try.prog 100 = true := by kernel_rfl
theorem Wi : AP Try.prog 101 = true := by kernel_rfl
theorem U0 : AP Try.prog 102 = true := by kernel_rfl
theorem WZ : AP Try.prog 103 = true := by kernel_rfl
theorem WJ : AP Try.prog 104 = true := by kernel_rfl
theorem Xl : AP Try.prog 105 = true := by kernel_rfl
theorem Wu : AP Try.prog 106 = true := by kernel_rfl
theorem U6 : AP Try.prog 107 = true := by kernel_rfl
theorem Wf : AP Try.prog 11 = true := by kernel_rfl
theorem W2 : AP Try.prog 110 = true := by kernel_rfl
theorem Wo : AP Try.prog 111 = true := by kernel_rfl
theorem W7 : AP Try.prog 112 = true := by kernel_rfl
theorem Xr : AP Try.prog 113 = true := by kernel_rfl
theorem Wd : AP Try.prog 114 = true := by kernel_rfl
theorem WE : AP Try.prog 115 = true := by kernel_rfl
theorem WM : AP Try.prog 116 = true := by kernel_rfl
theorem Vh : AP Try.prog 119 = true := by kernel_rfl
theorem XH : AP Try.prog 12 = true := by kernel_rfl
theorem WU : AP Try.prog 120 = true := by kernel_rfl
theorem WW : AP Try.prog 121 = true := by kernel_rfl
theorem W6 : AP Try.prog 122 = true := by kernel_rfl
theorem W4 : AP Try.prog 123 = true := by kernel_rfl
theorem UB : AP Try.prog 13 = true := by kernel_rfl
theorem Yc : AP Try.prog 15 = true := by kernel_rfl
theorem X0 : AP Try.prog 16 = true := by kernel_rfl
theorem Yg : AP Try.prog 18 = true := by kernel_rfl
theorem WC : AP Try.prog 19 = true := by kernel_rfl
theorem Yk : AP Try.prog 20 = true := by kernel_rfl
theorem XM : AP Try.prog 21 = true := by kernel_rfl
theorem XV : AP Try.prog 22 = true := by kernel_rfl
theorem Vw : AP Try.prog 24 = true := by kernel_rfl
theorem Wz : AP Try.prog 25 = true := by kernel_rfl
theorem XQ : AP Try.prog 26 = true := by kernel_rfl
theorem XG : AP Try.prog 27 = true := by kernel_rfl
theorem We : AP Try.prog 29 = true := by kernel_rfl
theorem Xp : AP Try.prog 30 = true := by kernel_rfl
theorem WO : AP Try.prog 33 = true := by kernel_rfl
theorem Sy : AP Try.prog 35 = true := by kernel_rfl
theorem XL : AP Try.prog 36 = true := by kernel_rfl
theorem Wp : AP Try.prog 37 = true := by kernel_rfl
theorem V4 : AP Try.prog 38 = true := by kernel_rfl
theorem Xe : AP Try.prog 39 = true := by kernel_rfl
theorem Wx : AP Try.prog 40 = true := by kernel_rfl
theorem Wh : AP Try.prog 41 = true := by kernel_rfl
theorem X8 : AP Try.prog 42 = true := by kernel_rfl
theorem X1 : AP Try.prog 43 = true := by kernel_rfl
theorem Ym : AP Try.prog 44 = true := by kernel_rfl
theorem Xc : AP Try.prog 45 = true := by kernel_rfl
theorem O0 : AP Try.prog 46 = true := by kernel_rfl
theorem WS : AP Try.prog 47 = true := by kernel_rfl
theorem SA : AP Try.prog 49 = true := by kernel_rfl
theorem Wm : AP Try.prog 50 = true := by kernel_rfl
theorem X4 : AP Try.prog 51 = true := by kernel_rfl
theorem Yb : AP Try.prog 52 = true := by kernel_rfl
theorem Yj : AP Try.prog 53 = true := by kernel_rfl
theorem Xg : AP Try.prog 54 = true := by kernel_rfl
theorem XJ : AP Try.prog 55 = true := by kernel_rfl
theorem Yi : AP Try.prog 56 = true := by kernel_rfl
theorem XC : AP Try.prog 57 = true := by kernel_rfl
theorem XZ : AP Try.prog 58 = true := by kernel_rfl
theorem T7 : AP Try.prog 60 = true := by kernel_rfl
theorem WQ : AP Try.prog 61 = true := by kernel_rfl
theorem XO : AP Try.prog 64 = true := by kernel_rfl
theorem XY : AP Try.prog 65 = true := by kernel_rfl
theorem XB : AP Try.prog 66 = true := by kernel_rfl
theorem Sn : AP Try.prog 72 = true := by kernel_rfl
theorem XX : AP Try.prog 73 = true := by kernel_rfl
theorem Vx : AP Try.prog 74 = true := by kernel_rfl
theorem XP : AP Try.prog 75 = true := by kernel_rfl
theorem Yo : AP Try.prog 76 = true := by kernel_rfl
theorem Ur : AP Try.prog 77 = true := by kernel_rfl
theorem X3 : AP Try.prog 78 = true := by kernel_rfl
theorem Yf : AP Try.prog 79 = true := by kernel_rfl
theorem XW : AP Try.prog 80 = true := by kernel_rfl
theorem XU : AP Try.prog 81 = true := by kernel_rfl
theorem WY : AP Try.prog 82 = true := by kernel_rfl
theorem VK : AP Try.prog 83 = true := by kernel_rfl
theorem Ww : AP Try.prog 84 = true := by kernel_rfl
theorem Yh : AP Try.prog 85 = true := by kernel_rfl
theorem Xq : AP Try.prog 86 = true := by kernel_rfl
theorem XI : AP Try.prog 87 = true := by kernel_rfl
theorem X6 : AP Try.prog 88 = true := by kernel_rfl
theorem T9 : AP Try.prog 89 = true := by kernel_rfl
theorem Ye : AP Try.prog 90 = true := by kernel_rfl
theorem Xf : AP Try.prog 91 = true := by kernel_rfl
theorem XD : AP Try.prog 92 = true := by kernel_rfl
theorem XT : AP Try.prog 93 = true := by kernel_rfl
theorem Yd : AP Try.prog 97 = true := by kernel_rfl
theorem W8 : AP Try.prog 98 = true := by kernel_rfl
theorem V2 : AP Try.prog 99 = true := by kernel_rfl
theorem Rw : Nu Try.prog 133 .u64 = true := by kernel_rfl
theorem RK : Nu Try.prog 143 .u32 = true := by kernel_rfl
theorem U3 : Nu Try.prog 146 .u64 = true := by kernel_rfl
theorem Vb : Nu Try.prog 3 .i64 = true := by kernel_rfl
theorem Yp : Nu Try.prog 5 .u8 = true := by kernel_rfl
theorem VW : Try.prog.underlying 9 = some .string := by kernel_rfl
theorem Pg : Try.prog.underlying 125 = some (.map 9 3) := by kernel_rfl
theorem U4 : GZ Try.prog 101 = some [(0, 3), (3, 1), (4, 3), (7, 1)] := by kernel_rfl
theorem W5 : GZ Try.prog 30 = some [(0, 1), (1, 1), (2, 1), (3, 1)] := by kernel_rfl
theorem FN : GZ Try.prog 43 = some [(0, 1), (1, 1), (2, 1)] := by kernel_rfl
theorem JI : GZ Try.prog 45 = some [(0, 1), (1, 1), (2, 1)] := by kernel_rfl
theorem Ox : GZ Try.prog 63 = some [(0, 1), (1, 1), (2, 1)] := by kernel_rfl
theorem WR : GZ Try.prog 75 = some [(0, 1), (1, 1), (2, 1), (3, 1), (4, 1), (5, 1)] := by kernel_rfl
theorem Xd : GZ Try.prog 92 = some [(0, 3), (3, 1), (4, 3)] := by kernel_rfl
theorem Wk : R7 Try.prog 45 = some [0, 0, 0] := by kernel_rfl
theorem Wn : R7 Try.prog 63 = some [0, 0, 0] := by kernel_rfl
theorem FC : sliceB Try.prog 118 45 = true := by kernel_rfl
theorem Jg : sliceB Try.prog 22 5 = true := by kernel_rfl
theorem Tz : sliceB Try.prog 23 84 = true := by kernel_rfl
theorem AF : sliceB Try.prog 27 3 = true := by kernel_rfl
theorem DQ : sliceB Try.prog 28 75 = true := by kernel_rfl
theorem CI : sliceB Try.prog 33 63 = true := by kernel_rfl
theorem Du : sliceB Try.prog 41 87 = true := by kernel_rfl
theorem Kp : sliceB Try.prog 55 92 = true := by kernel_rfl
theorem FR : sliceB Try.prog 73 76 = true := by kernel_rfl
theorem F6 : sliceB Try.prog 76 4 = true := by kernel_rfl
theorem IM : sliceB Try.prog 89 43 = true := by kernel_rfl
theorem Hs : sliceB Try.prog 96 101 = true := by kernel_rfl
theorem S9 : (Try.prog.underlying 133).isSome = true := by kernel_rfl
theorem Rv : (Try.prog.underlying 143).isSome = true := by kernel_rfl
theorem Vk : (Try.prog.underlying 146).isSome = true := by kernel_rfl
theorem Xv : (Try.prog.underlying 3).isSome = true := by kernel_rfl
theorem Wa : (Try.prog.underlying 5).isSome = true := by kernel_rfl
theorem Yn : (Try.prog.underlying 87).isSome = true := by kernel_rfl
theorem Xh : N5 Try.prog 9 = true := by kernel_rfl
theorem Jc : GI Try.prog 101 8 = true := by kernel_rfl
theorem WT : GI Try.prog 25 4 = true := by kernel_rfl
theorem RQ : GI Try.prog 27 1 = true := by kernel_rfl
theorem XE : GI Try.prog 28 1 = true := by kernel_rfl
theorem Df : GI Try.prog 3 1 = true := by kernel_rfl
theorem CV : GI Try.prog 30 4 = true := by kernel_rfl
theorem Pw : GI Try.prog 4 1 = true := by kernel_rfl
theorem X9 : GI Try.prog 41 1 = true := by kernel_rfl
theorem AQ : GI Try.prog 43 3 = true := by kernel_rfl
theorem DN : GI Try.prog 45 3 = true := by kernel_rfl
theorem V5 : GI Try.prog 5 1 = true := by kernel_rfl
theorem Dk : GI Try.prog 63 3 = true := by kernel_rfl
theorem WI : GI Try.prog 73 1 = true := by kernel_rfl
theorem DV : GI Try.prog 75 6 = true := by kernel_rfl
theorem Mk : GI Try.prog 76 1 = true := by kernel_rfl
theorem VO : GI Try.prog 84 6 = true := by kernel_rfl
theorem Ft : GI Try.prog 87 1 = true := by kernel_rfl
theorem R6 : GI Try.prog 92 7 = true := by kernel_rfl
theorem PY : Ej Try.prog 101 = some (.agg #[.slice none 0 0, .slice none 0 0, .slice none 0 0, .int .i64 0, .int .i64 0, .int .i64 0, .int .i64 0, .slice none 0 0]) := by kernel_rfl
theorem Ko : Ej Try.prog 3 = some (.int .i64 0) := by kernel_rfl
theorem PB : Ej Try.prog 30 = some (.agg #[.slice none 0 0, .slice none 0 0, .slice none 0 0, .slice none 0 0]) := by kernel_rfl
theorem Ve : Ej Try.prog 4 = some (.bool false) := by kernel_rfl
theorem CF : Ej Try.prog 43 = some (.agg #[.slice none 0 0, .slice none 0 0, .slice none 0 0]) := by kernel_rfl
theorem Fs : Ej Try.prog 45 = some (.agg #[.int .i64 0, .int .i64 0, .int .i64 0]) := by kernel_rfl
theorem WB : Ej Try.prog 5 = some (.int .u8 0) := by kernel_rfl
theorem He : Ej Try.prog 63 = some (.agg #[.int .i64 0, .int .i64 0, .int .i64 0]) := by kernel_rfl
theorem Kc : Ej Try.prog 75 = some (.agg #[.int .i64 0, .int .i64 0, .int .i64 0, .bool false, .slice none 0 0, .slice none 0 0]) := by kernel_rfl
theorem VH : Ej Try.prog 76 = some (.slice none 0 0) := by kernel_rfl
theorem XF : Ej Try.prog 84 = some (.agg #[.int .u8 0, .int .u8 0, .int .u8 0, .bool false, .int .u16 0, .int .u16 0]) := by kernel_rfl
theorem OR : Ej Try.prog 87 = some (.int .u8 0) := by kernel_rfl
theorem SJ : Ej Try.prog 92 = some (.agg #[.slice none 0 0, .slice none 0 0, .slice none 0 0, .int .i64 0, .int .i64 0, .int .i64 0, .int .i64 0]) := by kernel_rfl
end Go.Lift

/- That the code does what the shallow programs do, function by function. Written by a program (gen.py). -/
namespace Go.Lift
open Go.RowKit
open Go.Proofs
set_option maxRecDepth 10000 in
theorem DW (N : Nat) (p0 : Bool) (p1 : Bool) (r : Ad) (h : CB N p0 p1 = some r) : AB Try.prog 35 [.e (.one (.pure (.val (.bool p0)))), .e (.one (.pure (.val (.bool p1))))] [(1, r.fVersions.map Ag), (1, r.fNow.map Ag), (1, r.fTarget.map Ag), (6, r.fTables.map Ai)] (.e (.agg [.own 0, .own 1, .own 2, .own 3])) := by
 unfold CB at h
 refine Ao (n := 19) (rs := [.cell 4 30]) Try.func35 rfl rfl rfl (BE rfl) (BE rfl) rfl fun w0 S0 => ?_
 refine Ab (Aa Ae rfl (qz PB rfl (Ac (Ab (Aa Ae rfl (qm rfl (qm rfl (CE rfl (Ex F6 Pw Ve rfl (Ex F6 Pw Ve rfl (D1 (Bq 9 _ _ rfl rfl) (D1 (Bq 10 _ _ rfl rfl) (Ex FR Mk VH rfl (AZ Kc WR rfl (qz Kc rfl (qs DV rfl (Ac (Ab (Aa Ae rfl (Ex AF Df Ko rfl (Ex AF Df Ko rfl (Ex AF Df Ko rfl (qL GK DV rfl (D1 (Bq 11 _ _ rfl rfl) (Ex DQ DV Kc rfl (AZ PB W5 rfl (qs CV rfl (Ac ?_))))))))))))))))))))))))))))
 obtain rfl := sj h
 refine Al (sm [(1000, 13), (1001, 14), (1002, 15), (1003, 17)] [(4, .e (.one (.ptr 4 0)))] [(4, .box [.own 1000, .own 1001, .own 1002, .own 1003]), (1000, .vec 1 ((([2, 2] : List Int)).map Ag)), (1001, .vec 1 ((([0, 0] : List Int)).map Ag)), (1002, .vec 1 ((([1, 1] : List Int)).map Ag)), (1003, .vec 6 ((([(AG.mk 1 0 1 p1 (([([true, (!p0)] : List Bool), ([false, true] : List Bool)] : List (List Bool))) (([] : List (List Bool))))] : List AG)).map Ai))] rfl rfl) (AA ?_)
 exact ⟨⟨[_], ⟨.cellN _ _ _ _ _ _ _ rfl rfl Dl CV rfl rfl (FT rfl), trivial⟩, rfl⟩, ⟨rfl, rfl, rfl, rfl, trivial⟩⟩
set_option maxRecDepth 10000 in
theorem GF (N : Nat) (p0 : Int) (p1 : Int) (r : Bool) (h : DK N p0 p1 = some r) : AB Try.prog 89 [.e (.one (.pure (.val (.int .i64 p0)))), .e (.one (.pure (.val (.int .i64 p1))))] [] (.e (.one (.pure (.val (.bool r))))) := by
 unfold DK at h
 refine Ao (n := 12) (rs := [.tmp 4]) Try.func89 rfl rfl rfl (BE rfl) (BE rfl) rfl fun w0 S0 => ?_
 refine Ab (Aa Ae rfl (qa rfl (Ac ?_)))
 refine AW h (fun v1 => mk [(4, .e (.one (.pure (.val (.bool v1)))))] []) (fun j1 h => ?_) (fun v1 h => ?_)
 ·refine Aa Ae rfl (qm rfl (EE rfl (qm rfl ?_)))
  refine AI (t := 7) rfl (fun c2 => ?_) (fun c2 => ?_)
  ·have h := Aq c2 h
   refine qm rfl (qm rfl (A8 rfl (qp rfl (qa rfl (Ac ?_)))))
   exact Aw _ h (sm [] _ _ rfl rfl)
  ·have h := Ap c2 h
   refine qn rfl (qn rfl (qn rfl (qp rfl (qa rfl (Ac ?_)))))
   exact Aw _ h (sm [] _ _ rfl rfl)
 ·obtain rfl := sj h
  refine Al (sm [] [(4, .e (.one (.pure (.val (.bool v1)))))] [] rfl rfl) (AA ?_)
  exact ⟨⟨[_], ⟨.tmp _ _ rfl, trivial⟩, rfl⟩, trivial⟩
set_option maxRecDepth 10000 in
theorem Or (N : Nat) (p0 : Int) (p1 : Bool) (r : Bool) (h : F7 N p0 p1 = some r) : AB Try.prog 106 [.e (.one (.pure (.val (.int .i64 p0)))), .e (.one (.pure (.val (.bool p1))))] [] (.e (.one (.pure (.val (.bool r))))) := by
 unfold F7 at h
 refine Ao (n := 23) (rs := [.tmp 4]) Try.func106 rfl rfl rfl (BE rfl) (BE rfl) rfl fun w0 S0 => ?_
 refine Ab (Aa Ae rfl (qa rfl (Ac ?_)))
 refine AW h (fun v1 => mk [(4, .e (.one (.pure (.val (.bool v1)))))] []) (fun j1 h => ?_) (fun v1 h => ?_)
 ·refine Aa Ae rfl (qm rfl (BY rfl (qm rfl ?_)))
  refine AI (t := 7) rfl (fun c2 => ?_) (fun c2 => ?_)
  ·have h := Aq c2 h
   refine qn rfl (qn rfl (qp rfl (qm rfl (qn rfl (qn rfl (qn rfl (qu rfl (qu rfl (qn rfl (qn rfl (qu rfl (qu rfl (qn rfl (qp rfl (qa rfl (Ac ?_))))))))))))))))
   exact Aw _ h (sm [] _ _ rfl rfl)
  ·have h := Ap c2 h
   refine qm rfl (BY rfl (qp rfl (qm rfl ?_)))
   refine AI (t := 11) rfl (fun c3 => ?_) (fun c3 => ?_)
   ·have h := Aq c3 h
    refine qn rfl (qn rfl (qn rfl (qu rfl (qu rfl (qn rfl (qn rfl (qu rfl (qu rfl (qn rfl (qp rfl (qa rfl (Ac ?_))))))))))))
    exact Aw _ h (sm [] _ _ rfl rfl)
   ·have h := Ap c3 h
    refine qm rfl (BY rfl (qm rfl ?_))
    refine AI (t := 14) rfl (fun c4 => ?_) (fun c4 => ?_)
    ·have h := Aq c4 h
     refine qn rfl (qn rfl (qp rfl (qm rfl (qm rfl (CE rfl (qp rfl (qp rfl (qa rfl (Ac ?_)))))))))
     exact Aw _ h (sm [] _ _ rfl rfl)
    ·have h := Ap c4 h
     refine qm rfl (BY rfl (qp rfl (qm rfl ?_)))
     refine AI (t := 18) rfl (fun c5 => ?_) (fun c5 => ?_)
     ·have h := Aq c5 h
      refine qm rfl (CE rfl (qp rfl (qp rfl (qa rfl (Ac ?_)))))
      exact Aw _ h (sm [] _ _ rfl rfl)
     ·have h := Ap c5 h
      refine qn rfl (qn rfl (qp rfl (qp rfl (qa rfl (Ac ?_)))))
      exact Aw _ h (sm [] _ _ rfl rfl)
 ·obtain rfl := sj h
  refine Al (sm [] [(4, .e (.one (.pure (.val (.bool v1)))))] [] rfl rfl) (AA ?_)
  exact ⟨⟨[_], ⟨.tmp _ _ rfl, trivial⟩, rfl⟩, trivial⟩
set_option maxRecDepth 10000 in
theorem LL (N : Nat) (p0 : List Bool) (p1 : Int) (r : Bool) (h : DC N p0 p1 = some r) : AB Try.prog 116 [.e (.one (.pure (.sl (p0.map eB)))), .e (.one (.rop [.val (.int .i64 p1)]))] [] (.e (.one (.pure (.val (.bool r))))) := by
 unfold DC at h
 refine Ao (n := 8) (rs := [.tmp 3]) Try.func116 rfl rfl rfl (BE rfl) (BE rfl) rfl fun w0 S0 => ?_
 refine Ab (Aa Ae rfl (qa rfl (Ac (Ab (Aa Ae rfl (qm rfl (AT F6 rfl (qk Cb rfl (Cn rfl (qa rfl (Ac ?_)))))))))))
 obtain rfl := sj h
 refine Al (sm [] [(3, .e (.one (.pure (.val (.bool (((p0.length : Int) != p1)))))))] [] rfl rfl) (AA ?_)
 exact ⟨⟨[_], ⟨.tmp _ _ rfl, trivial⟩, rfl⟩, trivial⟩
set_option maxRecDepth 10000 in
theorem Hg (N : Nat) (p0 : List (List Bool)) (p1 : (List Bool) → Option Bool) (r : Int) (h : C7 N p0 p1 = some r) : AB Try.prog 122 [.e (.one (.pure (.sl (p0.map (Es eB))))), .e (.one (.clo (Io (Mm false (Es eB)) tB p1)))] [] (.e (.one (.pure (.val (.int .i64 r))))) := by
 unfold C7 at h
 refine Ao (n := 19) (rs := [.tmp 4]) Try.func122 rfl rfl rfl (BE rfl) (BE rfl) rfl fun w0 S0 => ?_
 refine Ab (Aa Ae rfl (qa rfl (Ac (Ab (Ab (Aa Ae rfl (qm rfl (AT FR rfl (qm rfl (Ac ?_))))))))))
 refine AS (L := Bm N p0 p1) h (fun v1 => mk [(0, .e (.one (.pure (.sl (p0.map (Es eB)))))), (1, .e (.one (.clo (Io (Mm false (Es eB)) tB p1)))), (7, .e (.one (.pure (.val (.int .i64 ((p0.length : Int))))))), (8, .e (.one (.pure (.val (.int .i64 v1)))))] []) (fun v2 => mk [] []) (fun _ _ => rfl) (sm [] _ _ rfl rfl) (fun j1 n1 v1 h => ?_) (fun v2 s h hs => ?_)
 ·unfold Bm at h
  refine Ab (Aa Ae rfl (A8 rfl (Ac (Ab ?_))))
  refine As rfl (fun c3 => ?_) (fun c3 => ?_)
  ·have h := Aq c3 h
   refine Au (Ab (AV (Ab (Aa Ae rfl (qm rfl (qa rfl (Ac (Ab (Aa Ae rfl (qm rfl (qm rfl (qm rfl ?_))))))))))))
   obtain ⟨v4, a4, b4, h⟩ := An h
   refine qi FR Mk a4 (Aj b4) rfl (qk OS rfl ?_)
   obtain ⟨v5, a5, h⟩ := bind_some h
   refine KZ (ds0 := [_]) (ar := (Mm false (Es eB)) v4) (.p rfl) rfl rfl ⟨rfl, trivial⟩ rfl rfl rfl (KO (Li _ _ (WL X2)) a5) ?_
   refine Ac ?_
   refine As rfl (fun c6 => ?_) (fun c6 => ?_)
   ·have h := Aq c6 h
    refine Ab (Aa Ae rfl (qm rfl (qa rfl (Ac ?_))))
    obtain rfl := sj h
    refine Al (sm [] [(4, .e (.one (.pure (.val (.int .i64 v1)))))] [] rfl rfl) (AA ?_)
    exact ⟨⟨[_], ⟨.tmp _ _ rfl, trivial⟩, rfl⟩, trivial⟩
   ·have h := Ap c6 h
    refine Au (Aa Ae rfl (Bo rfl (qm rfl (Ac ?_))))
    exact Aw _ h (sm [] _ _ rfl rfl)
  ·have h := Ap c3 h
   refine A5 ?_
   exact Aw _ h (sm [] _ _ rfl rfl)
 ·refine Al hs (Ab (Aa Ae rfl (qa rfl (Ac ?_))))
  obtain rfl := sj h
  refine Al (sm [] [(4, .e (.one (.pure (.val (.int .i64 ((-1)))))))] [] rfl rfl) (AA ?_)
  exact ⟨⟨[_], ⟨.tmp _ _ rfl, trivial⟩, rfl⟩, trivial⟩
set_option maxRecDepth 10000 in
theorem GJ (N : Nat) (p0 : List (List Bool)) (p1 : (List Bool) → Option Bool) (r : Bool) (h : CP N p0 p1 = some r) : AB Try.prog 115 [.e (.one (.pure (.sl (p0.map (Es eB))))), .e (.one (.clo (Io (Mm false (Es eB)) tB p1)))] [] (.e (.one (.pure (.val (.bool r))))) := by
 unfold CP at h
 refine Ao (n := 9) (rs := [.tmp 4]) Try.func115 rfl rfl rfl (BE rfl) (BE rfl) rfl fun w0 S0 => ?_
 refine Ab (Aa Ae rfl (qa rfl (Ac (Ab (Aa Ae rfl (qm rfl (qm rfl ?_)))))))
 obtain ⟨v1, a1, h⟩ := bind_some h
 refine AJ [] (Hg N p0 p1 v1 a1) W6 rfl (EE rfl (qa rfl (Ac ?_)))
 obtain rfl := sj h
 refine Al (sm [] [(4, .e (.one (.pure (.val (.bool ((decide (0 ≤ v1))))))))] [] rfl rfl) (AA ?_)
 exact ⟨⟨[_], ⟨.tmp _ _ rfl, trivial⟩, rfl⟩, trivial⟩
set_option maxRecDepth 10000 in
theorem JS (N : Nat) (p0 : List (List Bool)) (p1 : Int) (p2 : Int) (r : Bool) (h : EH N p0 p1 p2 = some r) : AB Try.prog 107 [.e (.one (.pure (.sl (p0.map (Es eB))))), .e (.one (.pure (.val (.int .i64 p1)))), .e (.one (.pure (.val (.int .i64 p2))))] [] (.e (.one (.pure (.val (.bool r))))) := by
 unfold EH at h
 refine Ao (n := 17) (rs := [.tmp 6]) Try.func107 rfl rfl rfl (BE rfl) (BE rfl) rfl fun w0 S0 => ?_
 refine Ab (Aa Ae rfl (qb rfl (qa rfl (Ac ?_))))
 refine AW h (fun v1 => mk [(6, .e (.one (.pure (.val (.bool v1)))))] []) (fun j1 h => ?_) (fun v1 h => ?_)
 ·refine Aa Ae rfl (qm rfl (AT FR rfl (qm rfl (BY rfl (qm rfl ?_)))))
  refine AI (t := 11) rfl (fun c2 => ?_) (fun c2 => ?_)
  ·have h := Aq c2 h
   refine qm rfl (D1 (KP 5 [.val (.int .i64 p2)] rfl rfl) ?_)
   refine KC (capD := [_]) (Io (Mm false (Es eB)) tB ((fun (x : List Bool) => DC N x p2))) (.g rfl rfl) WM rfl ⟨rfl, trivial⟩ rfl (fun ar t ht => by obtain ⟨x, r, rfl, hq, rfl⟩ := J4 ht; exact LL N x p2 r hq) ?_
   obtain ⟨v3, a3, h⟩ := bind_some h
   refine AJ [] (GJ N p0 ((fun (x : List Bool) => DC N x p2)) v3 a3) WE rfl (CE rfl (qp rfl (qa rfl (Ac ?_))))
   exact Aw _ h (sm [] _ _ rfl rfl)
  ·have h := Ap c2 h
   refine qn rfl (qn rfl (qn rfl (qn rfl (qp rfl (qa rfl (Ac ?_))))))
   exact Aw _ h (sm [] _ _ rfl rfl)
 ·obtain rfl := sj h
  refine Al (sm [] [(6, .e (.one (.pure (.val (.bool v1)))))] [] rfl rfl) (AA ?_)
  exact ⟨⟨[_], ⟨.tmp _ _ rfl, trivial⟩, rfl⟩, trivial⟩
set_option maxRecDepth 10000 in
theorem NI (N : Nat) (p0 : Ad) (p1 : AG) (r : Int) (h : Fy N p0 p1 = some r) : AB Try.prog 90 [.e (.agg [.pure (.sl (p0.fVersions.map Ag)), .pure (.sl (p0.fNow.map Ag)), .pure (.sl (p0.fTarget.map Ag)), .pure (.sl (p0.fTables.map Ai))]), .e (.agg [.pure (.val (.int .i64 p1.fKind)), .pure (.val (.int .i64 p1.fFrom)), .pure (.val (.int .i64 p1.fTo)), .pure (.val (.bool p1.fAware)), .pure (.sl (p1.fOK.map (Es eB))), .pure (.sl (p1.fRewrite.map (Es eB)))])] [] (.e (.one (.pure (.val (.int .i64 r))))) := by
 unfold Fy at h
 refine Ao (n := 87) (rs := [.tmp 4]) Try.func90 rfl rfl rfl (BE rfl) (BE rfl) rfl fun w0 S0 => ?_
 refine Ab (Aa Ae rfl (qb rfl (qb rfl (qa rfl (Ac (Ab (Ab (Aa Ae rfl (qf Fr rfl (ql Cb rfl (qf Ib rfl (ql Rb rfl ?_))))))))))))
 obtain ⟨v1, a1, h⟩ := bind_some h
 refine AJ [] (Or N p1.fKind p1.fAware v1 a1) Wu rfl (CE rfl (Ac ?_))
 refine As rfl (fun c2 => ?_) (fun c2 => ?_)
 ·have h := Aq c2 h
  refine Ab (Aa Ae rfl (qa rfl (Ac ?_)))
  obtain rfl := sj h
  refine Al (sm [] [(4, .e (.one (.pure (.val (.int .i64 1)))))] [] rfl rfl) (AA ?_)
  exact ⟨⟨[_], ⟨.tmp _ _ rfl, trivial⟩, rfl⟩, trivial⟩
 ·have h := Ap c2 h
  refine Au (Ab ?_)
  refine AW h (fun v3 => mk [(2, .e (.one (.ptr 2 0))), (3, .e (.one (.ptr 3 0))), (29, .e (.one (.pure (.val (.bool v3)))))] [(2, .box [.pure (.sl (p0.fVersions.map Ag)), .pure (.sl (p0.fNow.map Ag)), .pure (.sl (p0.fTarget.map Ag)), .pure (.sl (p0.fTables.map Ai))]), (3, .box [.pure (.val (.int .i64 p1.fKind)), .pure (.val (.int .i64 p1.fFrom)), .pure (.val (.int .i64 p1.fTo)), .pure (.val (.bool p1.fAware)), .pure (.sl (p1.fOK.map (Es eB))), .pure (.sl (p1.fRewrite.map (Es eB)))])]) (fun j3 h => ?_) (fun v3 h => ?_)
  ·refine Aa Ae rfl (qf CX rfl (ql Cb rfl (qf Bu rfl (ql A9 rfl (AT AF rfl ?_)))))
   obtain ⟨v4, a4, h⟩ := bind_some h
   refine AJ [] (GF N p1.fFrom ((p0.fVersions.length : Int)) v4 a4) T9 rfl (CE rfl (qm rfl ?_))
   refine AI (t := 21) rfl (fun c5 => ?_) (fun c5 => ?_)
   ·have h := Aq c5 h
    refine qn rfl (qn rfl (qn rfl (qn rfl (qn rfl (qn rfl (qn rfl (qp rfl (Ac ?_))))))))
    exact Aw _ h (sm [] _ _ rfl rfl)
   ·have h := Ap c5 h
    refine qf HA rfl (ql Cb rfl (qf Bu rfl (ql A9 rfl (AT AF rfl ?_))))
    obtain ⟨v6, a6, h⟩ := bind_some h
    refine AJ [] (GF N p1.fTo ((p0.fVersions.length : Int)) v6 a6) T9 rfl (CE rfl (qp rfl (Ac ?_)))
    exact Aw _ h (sm [] _ _ rfl rfl)
  ·refine As rfl (fun c7 => ?_) (fun c7 => ?_)
   ·have h := Aq c7 h
    refine Ab (Aa Ae rfl (qa rfl (Ac ?_)))
    obtain rfl := sj h
    refine Al (sm [] [(4, .e (.one (.pure (.val (.int .i64 4)))))] [] rfl rfl) (AA ?_)
    exact ⟨⟨[_], ⟨.tmp _ _ rfl, trivial⟩, rfl⟩, trivial⟩
   ·have h := Ap c7 h
    refine Au (Ab (Aa Ae rfl (qf Bu rfl (ql A9 rfl (qf CX rfl (ql Cb rfl ?_))))))
    obtain ⟨v8, a8, b8, h⟩ := An h
    refine qi AF Df a8 (Aj b8) rfl (qk Cb rfl (qa rfl (Ac (Ab (Aa Ae rfl (qf Fr rfl (ql Cb rfl (BY rfl (qa rfl (Ac (Ab ?_)))))))))))
    refine AW h (fun v9 => mk [(3, .e (.one (.ptr 3 0))), (70, .e (.one (.pure (.val (.bool v9)))))] [(3, .box [.pure (.val (.int .i64 p1.fKind)), .pure (.val (.int .i64 p1.fFrom)), .pure (.val (.int .i64 p1.fTo)), .pure (.val (.bool p1.fAware)), .pure (.sl (p1.fOK.map (Es eB))), .pure (.sl (p1.fRewrite.map (Es eB)))])]) (fun j9 h => ?_) (fun v9 h => ?_)
    ·refine Aa Ae rfl (qf I4 rfl (ql Jo rfl (qm rfl (qf Bu rfl (ql A9 rfl (qf HA rfl (ql Cb rfl ?_)))))))
     obtain ⟨v10, a10, b10, h⟩ := An h
     refine qi AF Df a10 (Aj b10) rfl (qk Cb rfl ?_)
     obtain ⟨v11, a11, h⟩ := bind_some h
     refine AJ [] (JS N p1.fOK v8 v10 v11 a11) U6 rfl (CE rfl (qm rfl ?_))
     refine AI (t := 50) rfl (fun c12 => ?_) (fun c12 => ?_)
     ·have h := Aq c12 h
      refine qn rfl (qn rfl (qu rfl (qu rfl (qu rfl (qu rfl (qu rfl (qu rfl (qn rfl (qp rfl (qm rfl (qn rfl (qn rfl (qn rfl (qu rfl (qu rfl (qu rfl (qu rfl (qn rfl (qp rfl (AY (by kernel_rfl) ?_))))))))))))))))))))
      exact Aw _ h (sm [] _ _ rfl rfl)
     ·have h := Ap c12 h
      refine qm rfl (qm rfl ?_)
      refine AI (t := 52) rfl (fun c13 => ?_) (fun c13 => ?_)
      ·have h := Aq c13 h
       refine qf Gd rfl (ql Jo rfl (qm rfl (qm rfl ?_)))
       obtain ⟨v14, a14, h⟩ := bind_some h
       refine AJ [] (JS N p1.fRewrite v8 v8 v14 a14) U6 rfl (CE rfl (qp rfl (qp rfl (qm rfl ?_))))
       refine AI (t := 61) rfl (fun c15 => ?_) (fun c15 => ?_)
       ·have h := Aq c15 h
        refine qn rfl (qn rfl (qn rfl (qu rfl (qu rfl (qu rfl (qu rfl (qn rfl (qp rfl (AY (by kernel_rfl) ?_)))))))))
        exact Aw _ h (sm [] _ _ rfl rfl)
       ·have h := Ap c15 h
        refine qm rfl (CE rfl (qm rfl ?_))
        refine AI (t := 64) rfl (fun c16 => ?_) (fun c16 => ?_)
        ·have h := Aq c16 h
         refine qf Gd rfl (ql Jo rfl (AT FR rfl (FP rfl (qp rfl (qp rfl (AY (by kernel_rfl) ?_))))))
         exact Aw _ h (sm [] _ _ rfl rfl)
        ·have h := Ap c16 h
         refine qn rfl (qn rfl (qn rfl (qn rfl (qp rfl (qp rfl (AY (by kernel_rfl) ?_))))))
         exact Aw _ h (sm [] _ _ rfl rfl)
      ·have h := Ap c13 h
       refine qn rfl (qn rfl (qn rfl (qn rfl (qn rfl (qn rfl (qp rfl (qp rfl (qm rfl (qm rfl (CE rfl (qm rfl ?_)))))))))))
       refine AI (t := 64) rfl (fun c17 => ?_) (fun c17 => ?_)
       ·have h := Aq c17 h
        refine qf Gd rfl (ql Jo rfl (AT FR rfl (FP rfl (qp rfl (qp rfl (AY (by kernel_rfl) ?_))))))
        exact Aw _ h (sm [] _ _ rfl rfl)
       ·have h := Ap c17 h
        refine qn rfl (qn rfl (qn rfl (qn rfl (qp rfl (qp rfl (AY (by kernel_rfl) ?_))))))
        exact Aw _ h (sm [] _ _ rfl rfl)
    ·refine As rfl (fun c18 => ?_) (fun c18 => ?_)
     ·have h := Aq c18 h
      refine Ab (Aa Ae rfl (qa rfl (Ac ?_)))
      obtain rfl := sj h
      refine Al (sm [] [(4, .e (.one (.pure (.val (.int .i64 6)))))] [] rfl rfl) (AA ?_)
      exact ⟨⟨[_], ⟨.tmp _ _ rfl, trivial⟩, rfl⟩, trivial⟩
     ·have h := Ap c18 h
      refine Au (Ab (Ab (Aa Ae rfl (qf Gd rfl (ql Jo rfl (AT FR rfl (qm rfl (Ac ?_))))))))
      refine AS (L := CT N p1) h (fun v19 => mk [(3, .e (.one (.ptr 3 0))), (73, .e (.one (.pure (.val (.int .i64 ((p1.fRewrite.length : Int))))))), (74, .e (.one (.pure (.val (.int .i64 v19)))))] [(3, .box [.pure (.val (.int .i64 p1.fKind)), .pure (.val (.int .i64 p1.fFrom)), .pure (.val (.int .i64 p1.fTo)), .pure (.val (.bool p1.fAware)), .pure (.sl (p1.fOK.map (Es eB))), .pure (.sl (p1.fRewrite.map (Es eB)))])]) (fun v20 => mk [] []) (fun _ _ => rfl) (sm [] _ _ rfl rfl) (fun j19 n19 v19 h => ?_) (fun v20 s h hs => ?_)
      ·unfold CT at h
       refine Ab (Aa Ae rfl (A8 rfl (Ac (Ab ?_))))
       refine As rfl (fun c21 => ?_) (fun c21 => ?_)
       ·have h := Aq c21 h
        refine Au (Ab (AV (Ab (Aa Ae rfl (qm rfl (qa rfl (Ac (Ab (Aa Ae rfl (qf Gd rfl (ql Jo rfl (qm rfl ?_))))))))))))
        obtain ⟨v22, a22, b22, h⟩ := An h
        refine qi FR Mk a22 (Aj b22) rfl (qk OS rfl (qm rfl ?_))
        obtain ⟨v23, a23, b23, h⟩ := An h
        refine qi F6 Pw a23 (Aj b23) rfl (qk Rb rfl (CE rfl (Ac ?_)))
        refine As rfl (fun c24 => ?_) (fun c24 => ?_)
        ·have h := Aq c24 h
         refine Ab (Aa Ae rfl (qa rfl (Ac ?_)))
         obtain rfl := sj h
         refine Al (sm [] [(4, .e (.one (.pure (.val (.int .i64 1)))))] [] rfl rfl) (AA ?_)
         exact ⟨⟨[_], ⟨.tmp _ _ rfl, trivial⟩, rfl⟩, trivial⟩
        ·have h := Ap c24 h
         refine Au (Aa Ae rfl (Bo rfl (qm rfl (Ac ?_))))
         exact Aw _ h (sm [] _ _ rfl rfl)
       ·have h := Ap c21 h
        refine A5 ?_
        exact Aw _ h (sm [] _ _ rfl rfl)
      ·refine Al hs (Ab (Aa Ae rfl (qa rfl (Ac ?_))))
       obtain rfl := sj h
       refine Al (sm [] [(4, .e (.one (.pure (.val (.int .i64 0)))))] [] rfl rfl) (AA ?_)
       exact ⟨⟨[_], ⟨.tmp _ _ rfl, trivial⟩, rfl⟩, trivial⟩
set_option maxRecDepth 10000 in
theorem G9 (N : Nat) (p0 : Ad) (r : Int) (h : Dd N p0 = some r) : AB Try.prog 61 [.e (.agg [.pure (.sl (p0.fVersions.map Ag)), .pure (.sl (p0.fNow.map Ag)), .pure (.sl (p0.fTarget.map Ag)), .pure (.sl (p0.fTables.map Ai))])] [] (.e (.one (.pure (.val (.int .i64 r))))) := by
 unfold Dd at h
 refine Ao (n := 81) (rs := [.tmp 2]) Try.func61 rfl rfl rfl (BE rfl) (BE rfl) rfl fun w0 S0 => ?_
 refine Ab (Aa Ae rfl (qb rfl (qa rfl (Ac (Ab (Aa Ae rfl (qf Bu rfl (ql A9 rfl (AT AF rfl (qa rfl (Ac (Ab ?_))))))))))))
 refine AW h (fun v1 => mk [(1, .e (.one (.ptr 1 0))), (3, .e (.one (.pure (.val (.int .i64 ((p0.fVersions.length : Int))))))), (19, .e (.one (.pure (.val (.bool v1)))))] [(1, .box [.pure (.sl (p0.fVersions.map Ag)), .pure (.sl (p0.fNow.map Ag)), .pure (.sl (p0.fTarget.map Ag)), .pure (.sl (p0.fTables.map Ai))])]) (fun j1 h => ?_) (fun v1 h => ?_)
 ·refine Aa Ae rfl (qm rfl (FP rfl (qm rfl ?_)))
  refine AI (t := 14) rfl (fun c2 => ?_) (fun c2 => ?_)
  ·have h := Aq c2 h
   refine qn rfl (qn rfl (qn rfl (qn rfl (qp rfl (Ac ?_)))))
   exact Aw _ h (sm [] _ _ rfl rfl)
  ·have h := Ap c2 h
   refine qf CG rfl (ql GE rfl (AT DQ rfl (FP rfl (qp rfl (Ac ?_)))))
   exact Aw _ h (sm [] _ _ rfl rfl)
 ·refine As rfl (fun c3 => ?_) (fun c3 => ?_)
  ·have h := Aq c3 h
   refine Ab (Aa Ae rfl (qa rfl (Ac ?_)))
   obtain rfl := sj h
   refine Al (sm [] [(2, .e (.one (.pure (.val (.int .i64 3)))))] [] rfl rfl) (AA ?_)
   exact ⟨⟨[_], ⟨.tmp _ _ rfl, trivial⟩, rfl⟩, trivial⟩
  ·have h := Ap c3 h
   refine Au (Ab ?_)
   refine AW h (fun v4 => mk [(1, .e (.one (.ptr 1 0))), (31, .e (.one (.pure (.val (.bool v4)))))] [(1, .box [.pure (.sl (p0.fVersions.map Ag)), .pure (.sl (p0.fNow.map Ag)), .pure (.sl (p0.fTarget.map Ag)), .pure (.sl (p0.fTables.map Ai))])]) (fun j4 h => ?_) (fun v4 h => ?_)
   ·refine Aa Ae rfl (qf F9 rfl (ql A9 rfl (AT AF rfl (qm rfl (Cn rfl (qm rfl ?_))))))
    refine AI (t := 25) rfl (fun c5 => ?_) (fun c5 => ?_)
    ·have h := Aq c5 h
     refine qn rfl (qn rfl (qn rfl (qn rfl (qn rfl (qp rfl (Ac ?_))))))
     exact Aw _ h (sm [] _ _ rfl rfl)
    ·have h := Ap c5 h
     refine qf Hx rfl (ql A9 rfl (AT AF rfl (qm rfl (Cn rfl (qp rfl (Ac ?_))))))
     exact Aw _ h (sm [] _ _ rfl rfl)
   ·refine As rfl (fun c6 => ?_) (fun c6 => ?_)
    ·have h := Aq c6 h
     refine Ab (Aa Ae rfl (qa rfl (Ac ?_)))
     obtain rfl := sj h
     refine Al (sm [] [(2, .e (.one (.pure (.val (.int .i64 6)))))] [] rfl rfl) (AA ?_)
     exact ⟨⟨[_], ⟨.tmp _ _ rfl, trivial⟩, rfl⟩, trivial⟩
    ·have h := Ap c6 h
     refine Au (Ab (Ab (Aa Ae rfl (qf Bu rfl (ql A9 rfl (AT AF rfl (qm rfl (Ac ?_))))))))
     refine AS (L := BW N p0) h (fun v7 => mk [(1, .e (.one (.ptr 1 0))), (33, .e (.one (.pure (.sl (p0.fVersions.map Ag))))), (34, .e (.one (.pure (.val (.int .i64 ((p0.fVersions.length : Int))))))), (35, .e (.one (.pure (.val (.int .i64 v7)))))] [(1, .box [.pure (.sl (p0.fVersions.map Ag)), .pure (.sl (p0.fNow.map Ag)), .pure (.sl (p0.fTarget.map Ag)), .pure (.sl (p0.fTables.map Ai))])]) (fun v8 => mk [(1, .e (.one (.ptr 1 0)))] [(1, .box [.pure (.sl (p0.fVersions.map Ag)), .pure (.sl (p0.fNow.map Ag)), .pure (.sl (p0.fTarget.map Ag)), .pure (.sl (p0.fTables.map Ai))])]) (fun _ _ => rfl) (sm [] _ _ rfl rfl) (fun j7 n7 v7 h => ?_) (fun v8 s h hs => ?_)
     ·unfold BW at h
      refine Ab (Aa Ae rfl (A8 rfl (Ac (Ab ?_))))
      refine As rfl (fun c9 => ?_) (fun c9 => ?_)
      ·have h := Aq c9 h
       refine Au (Ab (AV (Ab (Aa Ae rfl (qm rfl ?_)))))
       obtain ⟨v10, a10, b10, h⟩ := An h
       refine qi AF Df a10 (Aj b10) rfl (qk Cb rfl (qa rfl (qa rfl (Ac ?_))))
       refine AW h (fun v11 => mk [(1, .e (.one (.ptr 1 0))), (33, .e (.one (.pure (.sl (p0.fVersions.map Ag))))), (34, .e (.one (.pure (.val (.int .i64 ((p0.fVersions.length : Int))))))), (35, .e (.one (.pure (.val (.int .i64 v7))))), (65, .e (.one (.pure (.val (.bool v11)))))] [(1, .box [.pure (.sl (p0.fVersions.map Ag)), .pure (.sl (p0.fNow.map Ag)), .pure (.sl (p0.fTarget.map Ag)), .pure (.sl (p0.fTables.map Ai))])]) (fun j11 h => ?_) (fun v11 h => ?_)
       ·refine Aa Ae rfl (qm rfl (A8 rfl (qm rfl ?_)))
        refine AI (t := 42) rfl (fun c12 => ?_) (fun c12 => ?_)
        ·have h := Aq c12 h
         refine qn rfl (qn rfl (qp rfl (qm rfl (qn rfl (qn rfl (qn rfl (qn rfl (qn rfl (qn rfl (qn rfl (qn rfl (qp rfl (qm rfl (qn rfl (qn rfl (qn rfl (qn rfl (qn rfl (qn rfl (qn rfl (qn rfl (qp rfl (Ac ?_)))))))))))))))))))))))
         exact Aw _ h (sm [] _ _ rfl rfl)
        ·have h := Ap c12 h
         refine qm rfl (FP rfl (qp rfl (qm rfl ?_)))
         refine AI (t := 46) rfl (fun c13 => ?_) (fun c13 => ?_)
         ·have h := Aq c13 h
          refine qn rfl (qn rfl (qn rfl (qn rfl (qn rfl (qn rfl (qn rfl (qn rfl (qp rfl (qm rfl (qn rfl (qn rfl (qn rfl (qn rfl (qn rfl (qn rfl (qn rfl (qn rfl (qp rfl (Ac ?_)))))))))))))))))))
          exact Aw _ h (sm [] _ _ rfl rfl)
         ·have h := Ap c13 h
          refine qf F9 rfl (ql A9 rfl (qm rfl ?_))
          obtain ⟨v14, a14, b14, h⟩ := An h
          refine qi AF Df a14 (Aj b14) rfl (qk Cb rfl (qm rfl ?_))
          obtain ⟨v15, a15, h⟩ := bind_some h
          refine AJ [] (GF N v14 v10 v15 a15) T9 rfl (CE rfl (qp rfl (qm rfl ?_)))
          refine AI (t := 56) rfl (fun c16 => ?_) (fun c16 => ?_)
          ·have h := Aq c16 h
           refine qn rfl (qn rfl (qn rfl (qn rfl (qn rfl (qn rfl (qn rfl (qn rfl (qp rfl (Ac ?_)))))))))
           exact Aw _ h (sm [] _ _ rfl rfl)
          ·have h := Ap c16 h
           refine qf Hx rfl (ql A9 rfl (qm rfl ?_))
           obtain ⟨v17, a17, b17, h⟩ := An h
           refine qi AF Df a17 (Aj b17) rfl (qk Cb rfl (qm rfl ?_))
           obtain ⟨v18, a18, h⟩ := bind_some h
           refine AJ [] (GF N v17 v10 v18 a18) T9 rfl (CE rfl (qp rfl (Ac ?_)))
           exact Aw _ h (sm [] _ _ rfl rfl)
       ·refine As rfl (fun c19 => ?_) (fun c19 => ?_)
        ·have h := Aq c19 h
         refine Ab (Aa Ae rfl (qa rfl (Ac ?_)))
         obtain rfl := sj h
         refine Al (sm [] [(2, .e (.one (.pure (.val (.int .i64 7)))))] [] rfl rfl) (AA ?_)
         exact ⟨⟨[_], ⟨.tmp _ _ rfl, trivial⟩, rfl⟩, trivial⟩
        ·have h := Ap c19 h
         refine Au (Aa Ae rfl (Bo rfl (qm rfl (Ac ?_))))
         exact Aw _ h (sm [] _ _ rfl rfl)
      ·have h := Ap c9 h
       refine A5 ?_
       exact Aw _ h (sm [] _ _ rfl rfl)
     ·refine Al hs (Ab (Ab (Aa Ae rfl (qf CG rfl (ql GE rfl (AT DQ rfl (qm rfl (Ac ?_))))))))
      refine AS (L := BN N p0) h (fun v20 => mk [(1, .e (.one (.ptr 1 0))), (68, .e (.one (.pure (.sl (p0.fTables.map Ai))))), (69, .e (.one (.pure (.val (.int .i64 ((p0.fTables.length : Int))))))), (70, .e (.one (.pure (.val (.int .i64 v20)))))] [(1, .box [.pure (.sl (p0.fVersions.map Ag)), .pure (.sl (p0.fNow.map Ag)), .pure (.sl (p0.fTarget.map Ag)), .pure (.sl (p0.fTables.map Ai))])]) (fun v21 => mk [] []) (fun _ _ => rfl) (sm [] _ _ rfl rfl) (fun j20 n20 v20 h => ?_) (fun v21 s h hs => ?_)
      ·unfold BN at h
       refine Ab (Aa Ae rfl (A8 rfl (Ac (Ab ?_))))
       refine As rfl (fun c22 => ?_) (fun c22 => ?_)
       ·have h := Aq c22 h
        refine Au (Ab (AV (Ab (Aa Ae rfl ?_))))
        obtain ⟨v23, a23, b23, h⟩ := An h
        refine qi DQ DV a23 (Aj b23) rfl (qK GK DV rfl (qz Kc rfl (qs DV rfl (Ac (Ab (Aa Ae rfl (qL Dl CV rfl (qL GK DV rfl ?_))))))))
        obtain ⟨v24, a24, h⟩ := bind_some h
        refine AJ [] (NI N p0 v23 v24 a24) Ye rfl (qa rfl (Ac (Ab (Aa Ae rfl (qm rfl (Cn rfl (Ac ?_)))))))
        refine As rfl (fun c25 => ?_) (fun c25 => ?_)
        ·have h := Aq c25 h
         refine Ab (Aa Ae rfl (qm rfl (qa rfl (Ac ?_))))
         obtain rfl := sj h
         refine Al (sm [] [(2, .e (.one (.pure (.val (.int .i64 v24)))))] [] rfl rfl) (AA ?_)
         exact ⟨⟨[_], ⟨.tmp _ _ rfl, trivial⟩, rfl⟩, trivial⟩
        ·have h := Ap c25 h
         refine Au (Aa Ae rfl (Bo rfl (qm rfl (Ac ?_))))
         exact Aw _ h (sm [] _ _ rfl rfl)
       ·have h := Ap c22 h
        refine A5 ?_
        exact Aw _ h (sm [] _ _ rfl rfl)
      ·refine Al hs (Ab (Aa Ae rfl (qa rfl (Ac ?_))))
       obtain rfl := sj h
       refine Al (sm [] [(2, .e (.one (.pure (.val (.int .i64 0)))))] [] rfl rfl) (AA ?_)
       exact ⟨⟨[_], ⟨.tmp _ _ rfl, trivial⟩, rfl⟩, trivial⟩
set_option maxRecDepth 10000 in
theorem DD (N : Nat) (p0 : List Int) (r : (List Int)) (h : BJ N p0 = some r) : AB Try.prog 72 [.e (.one (.pure (.sl (p0.map Ag))))] [(1, r.map Ag)] (.e (.one (.own 0))) := by
 unfold BJ at h
 refine Ao (n := 8) (rs := [.tmp 2]) Try.func72 rfl rfl rfl (BE rfl) (BE rfl) rfl fun w0 S0 => ?_
 refine Ab (Aa Ae rfl (qa rfl (Ac (Ab (Ab (Aa Ae rfl (qm rfl ?_)))))))
 refine RA (.p rfl) rfl AF ?_
 refine Ac ?_
 refine Rk rfl (fun c2 => ?_) ?_
 ·have c2 := List.map_eq_nil_iff.1 c2
  rw [c2] at h
  have h : (some (([] : List Int))) = some r := h
  refine Ab (Aa Ae rfl (qa rfl (Ac ?_)))
  obtain rfl := sj h
  refine Al ((B8 2 2001 1 rfl rfl rfl).trans (sm [(1000, 2001)] [(2, .e (.one (.own 1000)))] [(1000, .vec 1 ((([] : List Int)).map Ag))] rfl rfl)) (AA ?_)
  exact ⟨⟨[_], ⟨.tmp _ _ rfl, trivial⟩, rfl⟩, ⟨rfl, trivial⟩⟩
 ·refine Au (Ab (Aa Ae rfl (Ex AF Df Ko rfl (qm rfl ?_))))
  obtain ⟨c1, h⟩ := AO h
  refine JN (f := Ag) AF AF Df K6 Ko (fun _ => rfl) c1 rfl (qa rfl (Ac ?_))
  obtain rfl := sj h
  refine Al (sm [(1000, 7)] [(2, .e (.one (.own 1000)))] [(1000, .vec 1 (((([] : List Int)) ++ p0).map Ag))] rfl rfl) (AA ?_)
  exact ⟨⟨[_], ⟨.tmp _ _ rfl, trivial⟩, rfl⟩, ⟨rfl, trivial⟩⟩
set_option maxRecDepth 10000 in
theorem LD (N : Nat) (p0 : Int) (p1 : Int) (r : Int × Int) (h : Ge N p0 p1 = some r) : AB Try.prog 110 [.e (.one (.pure (.val (.int .u32 p0)))), .e (.one (.pure (.val (.int .u32 p1))))] [] (.tup [.one (.pure (.val (.int .u32 r.1))), .one (.pure (.val (.int .u32 r.2)))]) := by
 unfold Ge at h
 refine Ao (n := 17) (rs := [.tmp 4, .tmp 5]) Try.func110 rfl rfl rfl (BE rfl) (BE rfl) rfl fun w0 S0 => ?_
 refine Ab (Aa Ae rfl (qa rfl (qa rfl (Ac (Ab (Aa Ae rfl (qm rfl (IC Rv U3 rfl (qm rfl (IC Rv U3 rfl (Lo rfl (qa rfl (Ac (Ab (Aa Ae rfl (qm rfl (IE rfl (by decide) (IC Vk RK rfl (qm rfl (IC Vk RK rfl (qa rfl (qa rfl (Ac ?_)))))))))))))))))))))))
 obtain rfl := sj h
 refine Al (sm [] [(4, .e (.one (.pure (.val (.int .u32 ((IntKind.wrap .u32 ((E6 .u64 ((IntKind.wrap .u64 ((IntKind.wrap .u64 p0) * (IntKind.wrap .u64 p1)))) 32))))))))), (5, .e (.one (.pure (.val (.int .u32 ((IntKind.wrap .u32 ((IntKind.wrap .u64 ((IntKind.wrap .u64 p0) * (IntKind.wrap .u64 p1)))))))))))] [] rfl rfl) (AA ?_)
 exact ⟨⟨[_, _], ⟨.tmp _ _ rfl, ⟨.tmp _ _ rfl, trivial⟩⟩, rfl⟩, trivial⟩
set_option maxRecDepth 10000 in
theorem Lj (N : Nat) (p0 : Int) (p1 : Int) (r : Int × Int) (h : Gg N p0 p1 = some r) : AB Try.prog 111 [.e (.one (.pure (.val (.int .u64 p0)))), .e (.one (.pure (.val (.int .u64 p1))))] [] (.tup [.one (.pure (.val (.int .u64 r.1))), .one (.pure (.val (.int .u64 r.2)))]) := by
 unfold Gg at h
 refine Ao (n := 51) (rs := [.tmp 4, .tmp 5]) Try.func111 rfl rfl rfl (BE rfl) (BE rfl) rfl fun w0 S0 => ?_
 refine Ab (Aa Ae rfl (qa rfl (qa rfl (Ac (Ab (Aa Ae rfl (qm rfl (L3 rfl (qa rfl (Ac (Ab (Aa Ae rfl (qm rfl (IE rfl (by decide) (qa rfl (Ac (Ab (Aa Ae rfl (qm rfl (L3 rfl (qa rfl (Ac (Ab (Aa Ae rfl (qm rfl (IE rfl (by decide) (qa rfl (Ac (Ab (Aa Ae rfl (qm rfl (qm rfl (Lo rfl (qa rfl (Ac (Ab (Aa Ae rfl (qm rfl (qm rfl ?_)))))))))))))))))))))))))))))))))))))))
 refine Lo rfl (qm rfl (IE rfl (by decide) (Bo rfl (qa rfl (Ac (Ab (Aa Ae rfl (qm rfl (L3 rfl (qa rfl (Ac (Ab (Aa Ae rfl (qm rfl (IE rfl (by decide) (qa rfl (Ac (Ab (Aa Ae rfl (qm rfl (qm rfl (qm rfl (Lo rfl (Bo rfl (qa rfl (Ac (Ab (Aa Ae rfl (qm rfl (qm rfl (Lo rfl (qm rfl (Bo rfl (qm rfl (IE rfl (by decide) (Bo rfl (qa rfl (Ac (Ab ?_)))))))))))))))))))))))))))))))))))))))
 refine Aa Ae rfl (qm rfl (qm rfl (Lo rfl (qa rfl (Ac ?_)))))
 obtain rfl := sj h
 refine Al (sm [] [(4, .e (.one (.pure (.val (.int .u64 ((IntKind.wrap .u64 ((IntKind.wrap .u64 ((IntKind.wrap .u64 ((E6 .u64 p0 32) * (E6 .u64 p1 32))) + (E6 .u64 ((IntKind.wrap .u64 ((IntKind.wrap .u64 ((E6 .u64 p0 32) * (FK .u64 p1 4294967295))) + (E6 .u64 ((IntKind.wrap .u64 ((FK .u64 p0 4294967295) * (FK .u64 p1 4294967295)))) 32)))) 32))) + (E6 .u64 ((IntKind.wrap .u64 ((FK .u64 ((IntKind.wrap .u64 ((IntKind.wrap .u64 ((E6 .u64 p0 32) * (FK .u64 p1 4294967295))) + (E6 .u64 ((IntKind.wrap .u64 ((FK .u64 p0 4294967295) * (FK .u64 p1 4294967295)))) 32)))) 4294967295) + (IntKind.wrap .u64 ((FK .u64 p0 4294967295) * (E6 .u64 p1 32)))))) 32))))))))), (5, .e (.one (.pure (.val (.int .u64 ((IntKind.wrap .u64 (p0 * p1))))))))] [] rfl rfl) (AA ?_)
 exact ⟨⟨[_, _], ⟨.tmp _ _ rfl, ⟨.tmp _ _ rfl, trivial⟩⟩, rfl⟩, trivial⟩
set_option maxRecDepth 10000 in
theorem Ml (N : Nat) (p0 : Int) (p1 : Int) (r : Int × Int) (h : GT N p0 p1 = some r) : AB Try.prog 97 [.e (.one (.pure (.val (.int .u64 p0)))), .e (.one (.pure (.val (.int .u64 p1))))] [] (.tup [.one (.pure (.val (.int .u64 r.1))), .one (.pure (.val (.int .u64 r.2)))]) := by
 unfold GT at h
 refine Ao (n := 30) (rs := [.tmp 4, .tmp 5]) Try.func97 rfl rfl rfl (BE rfl) (BE rfl) rfl fun w0 S0 => ?_
 refine Ab (Aa Ae rfl (qa rfl (qa rfl (Ac (Ab ?_)))))
 refine As rfl (fun c1 => ?_) (fun c1 => ?_)
 ·have h := Aq c1 h
  refine Ab (Aa Ae rfl (qm rfl (IC S9 RK rfl (qm rfl (IC S9 RK rfl ?_)))))
  obtain ⟨v2, a2, h⟩ := bind_some h
  refine AJ [] (LD N ((IntKind.wrap .u32 p0)) ((IntKind.wrap .u32 p1)) v2 a2) W2 rfl (qm rfl (qx rfl (qx rfl (qa rfl (qa rfl (Ac (Ab (Aa Ae rfl (qm rfl (IC Rv Rw rfl (qm rfl (IC Rv Rw rfl (qa rfl (qa rfl (Ac ?_)))))))))))))))
  obtain rfl := sj h
  refine Al (sm [] [(4, .e (.one (.pure (.val (.int .u64 ((IntKind.wrap .u64 v2.1))))))), (5, .e (.one (.pure (.val (.int .u64 ((IntKind.wrap .u64 v2.2)))))))] [] rfl rfl) (AA ?_)
  exact ⟨⟨[_, _], ⟨.tmp _ _ rfl, ⟨.tmp _ _ rfl, trivial⟩⟩, rfl⟩, trivial⟩
 ·have h := Ap c1 h
  refine Au (Ab (Aa Ae rfl (qm rfl (qm rfl ?_))))
  obtain ⟨v3, a3, h⟩ := bind_some h
  refine AJ [] (Lj N p0 p1 v3 a3) Wo rfl (qm rfl (qx rfl (qx rfl (qa rfl (qa rfl (Ac (Ab (Aa Ae rfl (qm rfl (qm rfl (qa rfl (qa rfl (Ac ?_)))))))))))))
  obtain rfl := sj h
  refine Al (sm [] [(4, .e (.one (.pure (.val (.int .u64 v3.1))))), (5, .e (.one (.pure (.val (.int .u64 v3.2)))))] [] rfl rfl) (AA ?_)
  exact ⟨⟨[_, _], ⟨.tmp _ _ rfl, ⟨.tmp _ _ rfl, trivial⟩⟩, rfl⟩, trivial⟩
set_option maxRecDepth 10000 in
theorem IJ (N : Nat) (p0 : List Int) (p1 : Int) (r : (List Int)) (h : D2 N p0 p1 = some r) : AB Try.prog 73 [.e (.one (.pure (.sl (p0.map Ag)))), .e (.one (.pure (.val (.int .i64 p1))))] [(1, r.map Ag)] (.e (.one (.own 0))) := by
 unfold D2 at h
 refine Ao (n := 48) (rs := [.tmp 4]) Try.func73 rfl rfl rfl (BE rfl) (BE rfl) rfl fun w0 S0 => ?_
 refine Ab (Aa Ae rfl (qa rfl (Ac ?_)))
 refine AW h (fun v1 => mk [(0, .e (.one (.pure (.sl (p0.map Ag))))), (1, .e (.one (.pure (.val (.int .i64 p1)))))] []) (fun j1 h => ?_) (fun v1 h => ?_)
 ·refine Ab (Aa Ae rfl (qm rfl (A8 rfl (Ac ?_))))
  refine As rfl (fun c2 => ?_) (fun c2 => ?_)
  ·have h := Aq c2 h
   refine Aa Ae rfl ?_
   cases h
  ·have h := Ap c2 h
   refine Au ?_
   exact Aw _ h (sm [] _ _ rfl rfl)
 ·refine Ab (Aa Ae rfl (qm rfl (AT AF rfl (IC Xv Rw rfl (qm rfl (IC Xv Rw rfl ?_))))))
  obtain ⟨v3, a3, h⟩ := bind_some h
  refine AJ [] (Ml N ((IntKind.wrap .u64 ((p0.length : Int)))) ((IntKind.wrap .u64 p1)) v3 a3) Yd rfl (qm rfl (qx rfl (qx rfl (qa rfl (qa rfl (Ac ?_))))))
  refine AW h (fun v4 => mk [(0, .e (.one (.pure (.sl (p0.map Ag))))), (6, .e (.one (.pure (.val (.int .u64 v3.2)))))] []) (fun j4 h => ?_) (fun v4 h => ?_)
  ·refine AW h (fun v5 => mk [(0, .e (.one (.pure (.sl (p0.map Ag))))), (6, .e (.one (.pure (.val (.int .u64 v3.2))))), (26, .e (.one (.pure (.val (.bool v5)))))] []) (fun j5 h => ?_) (fun v5 h => ?_)
   ·refine Aa Ae rfl (qm rfl (FP rfl (qm rfl ?_)))
    refine AI (t := 23) rfl (fun c6 => ?_) (fun c6 => ?_)
    ·have h := Aq c6 h
     refine qn rfl (qn rfl (qp rfl (Ac ?_)))
     exact Aw _ h (sm [] _ _ rfl rfl)
    ·have h := Ap c6 h
     refine qm rfl (FP rfl (qp rfl (Ac ?_)))
     exact Aw _ h (sm [] _ _ rfl rfl)
   ·refine As rfl (fun c7 => ?_) (fun c7 => ?_)
    ·have h := Aq c7 h
     refine Aa Ae rfl ?_
     cases h
    ·have h := Ap c7 h
     refine Au ?_
     exact Aw _ h (sm [] _ _ rfl rfl)
  ·refine Ab (Aa Ae rfl (qm rfl (IC S9 Vb rfl ?_)))
   obtain ⟨c8, h⟩ := AO h
   refine Jt (.p rfl) rfl rfl rfl AF Df K6 (BE rfl) Ko rfl rfl rfl c8.1 c8.2.1 c8.2.2 (OT Ag _ ((0 : Int))) ?_
   refine qa rfl (Ac (Ab (Aa Ae rfl (qm rfl (qm rfl ?_)))))
   refine Ry Ag (List.replicate ((IntKind.wrap .i64 v3.2)).toNat ((0 : Int))) p0 (.p rfl) rfl (JO Ag _ _ (List.replicate ((IntKind.wrap .i64 v3.2)).toNat ((0 : Int)))) rfl rfl (T8 Ag _ _ (fun _ => rfl)) trivial AF Df ?_
   refine qa rfl (Ac (Ab ?_))
   refine AS (L := Dw N) h (fun v9 => mk [(7, .e (.one (.own 2001))), (8, .e (.one (.pure (.val (.int .i64 v9.2)))))] [(2001, .vec 1 (v9.1.map Ag))]) (fun v10 => mk [(7, .e (.one (.own 2002)))] [(2002, .vec 1 (v10.map Ag))]) (fun _ _ => rfl) (sm [(2001, 30)] _ _ rfl rfl) (fun j9 n9 v9 h => ?_) (fun v10 s h hs => ?_)
   ·unfold Dw at h
    refine Ab (Ab (Aa Ae rfl (qm rfl (qm rfl (Fc AF rfl (A8 rfl (Ac ?_)))))))
    refine As rfl (fun c11 => ?_) (fun c11 => ?_)
    ·have h := Aq c11 h
     refine Au (AV (Aa Ae rfl (qm rfl (qm rfl (qm rfl ?_)))))
     obtain ⟨c12, h⟩ := AO h
     have w13 : ((v9.2).toNat) + ((v9.1.length - (v9.2).toNat)) ≤ v9.1.length := by have := c12.2.1; have := c12.2.2; omega
     refine Lm Ag v9.1 (.p rfl) rfl (JO Ag _ _ v9.1) rfl AF Df (.some _ _ _ _ c12.1) (.none _) ⟨rfl, trivial⟩ trivial c12.2.1 (by rw [Nat.zero_add]; exact c12.2.2) (Nat.zero_add _) rfl ?_
     refine qm rfl (qm rfl ?_)
     obtain ⟨c14, h⟩ := AO h
     have w15 : 0 + ((v9.2).toNat) ≤ v9.1.length := by have := c14.2.1; have := c14.2.2; omega
     refine Lm Ag v9.1 (.p rfl) rfl (JO Ag _ _ v9.1) rfl AF Df (.none _) (.some _ _ _ _ c14.1) trivial ⟨rfl, trivial⟩ c14.2.1 (by rw [Nat.zero_add]; exact c14.2.2) (Nat.zero_add _) rfl ?_
     refine Ry Ag v9.1 (((v9.1.drop 0).take ((v9.2).toNat))) (.p rfl) rfl (Oi Ag _ _ ((v9.2).toNat) ((v9.1.length - (v9.2).toNat)) v9.1 w13) rfl rfl (RS Ag _ _ 0 ((v9.2).toNat) v9.1 w15) ⟨rfl, trivial⟩ AF Df ?_
     refine Bo rfl (qa rfl (AY (by kernel_rfl) ?_))
     exact Aw _ h (sm [] _ _ rfl rfl)
    ·have h := Ap c11 h
     refine A5 ?_
     exact Aw _ h (sm [(2002, 2001)] _ _ rfl rfl)
   ·refine Al hs (Ab (Aa Ae rfl (qm rfl (qa rfl (Ac ?_)))))
    obtain rfl := sj h
    refine Al (sm [(1000, 2002)] [(4, .e (.one (.own 1000)))] [(1000, .vec 1 (v10.map Ag))] rfl rfl) (AA ?_)
    exact ⟨⟨[_], ⟨.tmp _ _ rfl, trivial⟩, rfl⟩, ⟨rfl, trivial⟩⟩
set_option maxRecDepth 10000 in
theorem IZ (N : Nat) (p0 : AG) (r : Bool) (h : ES N p0 = some r) : AB Try.prog 74 [.e (.agg [.pure (.val (.int .i64 p0.fKind)), .pure (.val (.int .i64 p0.fFrom)), .pure (.val (.int .i64 p0.fTo)), .pure (.val (.bool p0.fAware)), .pure (.sl (p0.fOK.map (Es eB))), .pure (.sl (p0.fRewrite.map (Es eB)))])] [] (.e (.one (.pure (.val (.bool r))))) := by
 unfold ES at h
 refine Ao (n := 11) (rs := [.tmp 2]) Try.func74 rfl rfl rfl (BE rfl) (BE rfl) rfl fun w0 S0 => ?_
 refine Ab (Aa Ae rfl (qb rfl (qa rfl (Ac ?_))))
 refine AW h (fun v1 => mk [(2, .e (.one (.pure (.val (.bool v1)))))] []) (fun j1 h => ?_) (fun v1 h => ?_)
 ·refine Aa Ae rfl (qf Fr rfl (ql Cb rfl (BY rfl (qm rfl ?_))))
  refine AI (t := 6) rfl (fun c2 => ?_) (fun c2 => ?_)
  ·have h := Aq c2 h
   refine qn rfl (qn rfl (qn rfl (qp rfl (qa rfl (Ac ?_)))))
   exact Aw _ h (sm [] _ _ rfl rfl)
  ·have h := Ap c2 h
   refine qf Fr rfl (ql Cb rfl (BY rfl (qp rfl (qa rfl (Ac ?_)))))
   exact Aw _ h (sm [] _ _ rfl rfl)
 ·obtain rfl := sj h
  refine Al (sm [] [(2, .e (.one (.pure (.val (.bool v1)))))] [] rfl rfl) (AA ?_)
  exact ⟨⟨[_], ⟨.tmp _ _ rfl, trivial⟩, rfl⟩, trivial⟩
set_option maxRecDepth 10000 in
theorem L9 (N : Nat) (p0 : Ad) (r : Af × Int) (h : FM N p0 = some r) : AB Try.prog 37 [.e (.agg [.pure (.sl (p0.fVersions.map Ag)), .pure (.sl (p0.fNow.map Ag)), .pure (.sl (p0.fTarget.map Ag)), .pure (.sl (p0.fTables.map Ai))])] [(1, r.1.fBase.map Ag), (1, r.1.fNext.map Ag), (1, r.1.fHeld.map A6)] (.tup [.agg [.own 0, .own 1, .own 2], .one (.pure (.val (.int .i64 r.2)))]) := by
 unfold FM at h
 refine Ao (n := 50) (rs := [.cell 2 43, .tmp 3]) Try.func37 rfl rfl rfl (BE rfl) (BE rfl) rfl fun w0 S0 => ?_
 refine Ab (Aa Ae rfl (qb rfl (qz CF rfl (qa rfl (Ac (Ab (Ab (Aa Ae rfl (qL Dl CV rfl ?_)))))))))
 obtain ⟨v1, a1, h⟩ := bind_some h
 refine AJ [] (G9 N p0 v1 a1) WQ rfl (qa rfl (Ac (Ab (Aa Ae rfl (qm rfl (Cn rfl (Ac ?_)))))))
 refine As rfl (fun c2 => ?_) (fun c2 => ?_)
 ·have h := Aq c2 h
  refine Ab (Aa Ae rfl (AZ CF FN rfl (qm rfl (qs AQ rfl (qa rfl (Ac ?_))))))
  obtain rfl := sj h
  refine Al ((AE 2 0 2001 1 _ rfl rfl rfl rfl).trans ((AE 2 1 2002 1 _ rfl rfl rfl rfl).trans ((AE 2 2 2003 1 _ rfl rfl rfl rfl).trans (sm [(1000, 2001), (1001, 2002), (1002, 2003)] [(2, .e (.one (.ptr 2 0))), (3, .e (.one (.pure (.val (.int .i64 v1)))))] [(2, .box [.own 1000, .own 1001, .own 1002]), (1000, .vec 1 ((([] : List Int)).map Ag)), (1001, .vec 1 ((([] : List Int)).map Ag)), (1002, .vec 1 ((([] : List Int)).map A6))] rfl rfl)))) (AA ?_)
  exact ⟨⟨[_, _], ⟨.cellN _ _ _ _ _ _ _ rfl rfl Be AQ rfl rfl (FT rfl), ⟨.tmp _ _ rfl, trivial⟩⟩, rfl⟩, ⟨rfl, rfl, rfl, trivial⟩⟩
 ·have h := Ap c2 h
  refine Au (Ab (Aa Ae rfl (qf F9 rfl (ql A9 rfl ?_))))
  obtain ⟨v3, a3, h⟩ := bind_some h
  refine AJ [2004] (DD N p0.fNow v3 a3) Sn rfl (Ex AF Df Ko rfl (qf F9 rfl (ql A9 rfl (AT AF rfl ?_))))
  obtain ⟨v4, a4, h⟩ := bind_some h
  refine EB [2005] [17] (IJ N (([(-1)] : List Int)) ((p0.fNow.length : Int)) v4 a4) XX (GO (fun _ => rfl) Db) rfl (qf CG rfl (ql GE rfl (AT DQ rfl ?_)))
  obtain ⟨c5, h⟩ := AO h
  refine Jt (.p rfl) rfl rfl rfl Du Ft Qt (BE rfl) OR rfl rfl rfl c5.1 c5.2.1 c5.2.2 (OT A6 _ ((0 : Int))) ?_
  refine AZ CF FN rfl (qz CF rfl (qs AQ rfl (AY (by kernel_rfl) (Ab (Ab (Aa Ae rfl (qf CG rfl (ql GE rfl (AT DQ rfl (qm rfl (Ac ?_)))))))))))
  refine AS (L := DL N p0) h (fun v6 => mk [(1, .e (.one (.ptr 1 0))), (2, .e (.one (.ptr 2 0))), (5, .e (.one (.ptr 5 0))), (28, .e (.one (.pure (.sl (p0.fTables.map Ai))))), (29, .e (.one (.pure (.val (.int .i64 ((p0.fTables.length : Int))))))), (30, .e (.one (.pure (.val (.int .i64 v6.2)))))] [(1, .box [.pure (.sl (p0.fVersions.map Ag)), .pure (.sl (p0.fNow.map Ag)), .pure (.sl (p0.fTarget.map Ag)), .pure (.sl (p0.fTables.map Ai))]), (2, .box [.pure (.nil0), .pure (.nil0), .pure (.nil0)]), (5, .box [.own 2006, .own 2007, .own 2008]), (2006, .vec 1 (v3.map Ag)), (2007, .vec 1 (v4.map Ag)), (2008, .vec 1 (v6.1.map A6))]) (fun v7 => mk [(2, .e (.one (.ptr 2 0))), (5, .e (.one (.ptr 5 0)))] [(2, .box [.pure (.nil0), .pure (.nil0), .pure (.nil0)]), (5, .box [.own 2009, .own 2010, .own 2011]), (2009, .vec 1 (v3.map Ag)), (2010, .vec 1 (v4.map Ag)), (2011, .vec 1 (v7.map A6))]) (fun _ _ => rfl) (sm [(2006, 2004), (2007, 2005), (2008, 25)] _ _ rfl rfl) (fun j6 n6 v6 h => ?_) (fun v7 s h hs => ?_)
  ·unfold DL at h
   refine Ab (Aa Ae rfl (A8 rfl (Ac (Ab ?_))))
   refine As rfl (fun c8 => ?_) (fun c8 => ?_)
   ·have h := Aq c8 h
    refine Au ?_
    refine AW h (fun v9 => mk [(1, .e (.one (.ptr 1 0))), (2, .e (.one (.ptr 2 0))), (5, .e (.one (.ptr 5 0))), (28, .e (.one (.pure (.sl (p0.fTables.map Ai))))), (29, .e (.one (.pure (.val (.int .i64 ((p0.fTables.length : Int))))))), (30, .e (.one (.pure (.val (.int .i64 v6.2)))))] [(1, .box [.pure (.sl (p0.fVersions.map Ag)), .pure (.sl (p0.fNow.map Ag)), .pure (.sl (p0.fTarget.map Ag)), .pure (.sl (p0.fTables.map Ai))]), (2, .box [.pure (.nil0), .pure (.nil0), .pure (.nil0)]), (5, .box [.own 2012, .own 2013, .own 2014]), (2012, .vec 1 (v3.map Ag)), (2013, .vec 1 (v4.map Ag)), (2014, .vec 1 (v9.map A6))]) (fun j9 h => ?_) (fun v9 h => ?_)
    ·refine AV (Ab (Aa Ae rfl (qm rfl ?_)))
     obtain ⟨v10, a10, b10, h⟩ := An h
     refine qi DQ DV a10 (Aj b10) rfl (qK GK DV rfl (qz Kc rfl (qa rfl (qs DV rfl (Ac (Ab (Aa Ae rfl (qL GK DV rfl ?_))))))))
     obtain ⟨v11, a11, h⟩ := bind_some h
     refine AJ [] (IZ N v10 v11 a11) Vx rfl (Ac ?_)
     refine As rfl (fun c12 => ?_) (fun c12 => ?_)
     ·have h := Aq c12 h
      refine Aa Ae rfl (qf CC rfl (ql Gs rfl (qm rfl (qf F9 rfl (ql A9 rfl (qf CX rfl (ql Cb rfl ?_)))))))
      obtain ⟨v13, a13, b13, h⟩ := An h
      refine qi AF Df a13 (Aj b13) rfl (qk Cb rfl ?_)
      obtain ⟨c14, h⟩ := AO h
      refine Id rfl c14 ?_
      obtain ⟨v15, a15, b15, h⟩ := An h
      refine qI Du Ft a15 (Aj b15) rfl ?_
      refine Ee rfl rfl rfl rfl (Aj b15) rfl Ft rfl (BE rfl) (DS A6 v6.1 _ ((DA .u8 1 v13))) ?_
      refine AY (by kernel_rfl) ?_
      exact Aw _ h (sm [(2012, 2006), (2013, 2007), (2014, 2008)] _ _ rfl rfl)
     ·have h := Ap c12 h
      refine Au ?_
      exact Aw _ h (sm [(2012, 2006), (2013, 2007), (2014, 2008)] _ _ rfl rfl)
    ·refine Aa Ae rfl (Bo rfl (qm rfl (Ac ?_)))
     exact Aw _ h (sm [(2006, 2012), (2007, 2013), (2008, 2014)] _ _ rfl rfl)
   ·have h := Ap c8 h
    refine A5 ?_
    exact Aw _ h (sm [(2009, 2006), (2010, 2007), (2011, 2008)] _ _ rfl rfl)
  ·refine Al hs (Ab (Aa Ae rfl (qL Be AQ rfl (qs AQ rfl (qa rfl (Ac ?_))))))
   obtain rfl := sj h
   refine Al (sm [(1000, 2009), (1001, 2010), (1002, 2011)] [(2, .e (.one (.ptr 2 0))), (3, .e (.one (.pure (.val (.int .i64 0)))))] [(2, .box [.own 1000, .own 1001, .own 1002]), (1000, .vec 1 (v3.map Ag)), (1001, .vec 1 (v4.map Ag)), (1002, .vec 1 (v7.map A6))] rfl rfl) (AA ?_)
   exact ⟨⟨[_, _], ⟨.cellN _ _ _ _ _ _ _ rfl rfl Be AQ rfl rfl (FT rfl), ⟨.tmp _ _ rfl, trivial⟩⟩, rfl⟩, ⟨rfl, rfl, rfl, trivial⟩⟩
set_option maxRecDepth 10000 in
theorem Ir (N : Nat) (p0 : Af) (p1 : Int) (r : Int) (h : Ev N p0 p1 = some r) : AB Try.prog 99 [.e (.agg [.pure (.sl (p0.fBase.map Ag)), .pure (.sl (p0.fNext.map Ag)), .pure (.sl (p0.fHeld.map A6))]), .e (.one (.pure (.val (.int .i64 p1))))] [] (.e (.one (.pure (.val (.int .u8 r))))) := by
 unfold Ev at h
 refine Ao (n := 27) (rs := [.tmp 4]) Try.func99 rfl rfl rfl (BE rfl) (BE rfl) rfl fun w0 S0 => ?_
 refine Ab (Aa Ae rfl (qb rfl (qa rfl (Ac (Ab (Aa Ae rfl (qf CA rfl (ql A9 rfl (qm rfl ?_)))))))))
 obtain ⟨v1, a1, b1, h⟩ := An h
 refine qi AF Df a1 (Aj b1) rfl (qk Cb rfl ?_)
 obtain ⟨c2, h⟩ := AO h
 refine Id rfl c2 (qa rfl (Ac ?_))
 refine AW h (fun v3 => mk [(5, .e (.one (.pure (.val (.int .u8 v3)))))] []) (fun j3 h => ?_) (fun v3 h => ?_)
 ·refine Ab (Aa Ae rfl (qf By rfl (ql A9 rfl (qm rfl ?_))))
  obtain ⟨v4, a4, b4, h⟩ := An h
  refine qi AF Df a4 (Aj b4) rfl (qk Cb rfl (EE rfl (Ac ?_)))
  refine As rfl (fun c5 => ?_) (fun c5 => ?_)
  ·have h := Aq c5 h
   refine Aa Ae rfl (qm rfl (qf By rfl (ql A9 rfl (qm rfl ?_))))
   obtain ⟨v6, a6, b6, h⟩ := An h
   refine qi AF Df a6 (Aj b6) rfl (qk Cb rfl ?_)
   obtain ⟨c7, h⟩ := AO h
   refine Id rfl c7 (Tf rfl (qa rfl (Ac ?_)))
   exact Aw _ h (sm [] _ _ rfl rfl)
  ·have h := Ap c5 h
   refine Au ?_
   exact Aw _ h (sm [] _ _ rfl rfl)
 ·refine Ab (Aa Ae rfl (qm rfl (qa rfl (Ac ?_))))
  obtain rfl := sj h
  refine Al (sm [] [(4, .e (.one (.pure (.val (.int .u8 v3)))))] [] rfl rfl) (AA ?_)
  exact ⟨⟨[_], ⟨.tmp _ _ rfl, trivial⟩, rfl⟩, trivial⟩
set_option maxRecDepth 10000 in
theorem Ie (N : Nat) (p0 : Ad) (p1 : Af) (r : Int) (h : EK N p0 p1 = some r) : AB Try.prog 77 [.e (.agg [.pure (.sl (p0.fVersions.map Ag)), .pure (.sl (p0.fNow.map Ag)), .pure (.sl (p0.fTarget.map Ag)), .pure (.sl (p0.fTables.map Ai))]), .e (.agg [.pure (.sl (p1.fBase.map Ag)), .pure (.sl (p1.fNext.map Ag)), .pure (.sl (p1.fHeld.map A6))])] [] (.e (.one (.pure (.val (.int .i64 r))))) := by
 unfold EK at h
 refine Ao (n := 135) (rs := [.tmp 4]) Try.func77 rfl rfl rfl (BE rfl) (BE rfl) rfl fun w0 S0 => ?_
 refine Ab (Aa Ae rfl (qb rfl (qb rfl (qa rfl (Ac (Ab (Ab (Aa Ae rfl (qL Dl CV rfl ?_)))))))))
 obtain ⟨v1, a1, h⟩ := bind_some h
 refine AJ [] (G9 N p0 v1 a1) WQ rfl (qa rfl (Ac (Ab (Aa Ae rfl (qm rfl (Cn rfl (Ac ?_)))))))
 refine As rfl (fun c2 => ?_) (fun c2 => ?_)
 ·have h := Aq c2 h
  refine Ab (Aa Ae rfl (qm rfl (qa rfl (Ac ?_))))
  obtain rfl := sj h
  refine Al (sm [] [(4, .e (.one (.pure (.val (.int .i64 v1)))))] [] rfl rfl) (AA ?_)
  exact ⟨⟨[_], ⟨.tmp _ _ rfl, trivial⟩, rfl⟩, trivial⟩
 ·have h := Ap c2 h
  refine Au (Ab ?_)
  refine AW h (fun v3 => mk [(2, .e (.one (.ptr 2 0))), (3, .e (.one (.ptr 3 0))), (41, .e (.one (.pure (.val (.bool v3)))))] [(2, .box [.pure (.sl (p0.fVersions.map Ag)), .pure (.sl (p0.fNow.map Ag)), .pure (.sl (p0.fTarget.map Ag)), .pure (.sl (p0.fTables.map Ai))]), (3, .box [.pure (.sl (p1.fBase.map Ag)), .pure (.sl (p1.fNext.map Ag)), .pure (.sl (p1.fHeld.map A6))])]) (fun j3 h => ?_) (fun v3 h => ?_)
  ·refine Aa Ae rfl (qf CA rfl (ql A9 rfl (AT AF rfl (qf Bu rfl (ql A9 rfl (AT AF rfl (Cn rfl (qm rfl ?_))))))))
   refine AI (t := 24) rfl (fun c4 => ?_) (fun c4 => ?_)
   ·have h := Aq c4 h
    refine qn rfl (qn rfl (qn rfl (qn rfl (qn rfl (qn rfl (qn rfl (qp rfl (qm rfl (qn rfl (qn rfl (qn rfl (qn rfl (qn rfl (qn rfl (qn rfl (qp rfl (Ac ?_)))))))))))))))))
    exact Aw _ h (sm [] _ _ rfl rfl)
   ·have h := Ap c4 h
    refine qf By rfl (ql A9 rfl (AT AF rfl (qf Bu rfl (ql A9 rfl (AT AF rfl (Cn rfl (qp rfl (qm rfl ?_))))))))
    refine AI (t := 33) rfl (fun c5 => ?_) (fun c5 => ?_)
    ·have h := Aq c5 h
     refine qn rfl (qn rfl (qn rfl (qn rfl (qn rfl (qn rfl (qn rfl (qp rfl (Ac ?_))))))))
     exact Aw _ h (sm [] _ _ rfl rfl)
    ·have h := Ap c5 h
     refine qf CC rfl (ql Gs rfl (AT Du rfl (qf CG rfl (ql GE rfl (AT DQ rfl (Cn rfl (qp rfl (Ac ?_))))))))
     exact Aw _ h (sm [] _ _ rfl rfl)
  ·refine As rfl (fun c6 => ?_) (fun c6 => ?_)
   ·have h := Aq c6 h
    refine Ab (Aa Ae rfl (qa rfl (Ac ?_)))
    obtain rfl := sj h
    refine Al (sm [] [(4, .e (.one (.pure (.val (.int .i64 6)))))] [] rfl rfl) (AA ?_)
    exact ⟨⟨[_], ⟨.tmp _ _ rfl, trivial⟩, rfl⟩, trivial⟩
   ·have h := Ap c6 h
    refine Au (Ab (Ab (Aa Ae rfl (qf Bu rfl (ql A9 rfl (AT AF rfl (qm rfl (Ac ?_))))))))
    refine AS (L := DJ N p0 p1) h (fun v7 => mk [(2, .e (.one (.ptr 2 0))), (3, .e (.one (.ptr 3 0))), (43, .e (.one (.pure (.sl (p0.fVersions.map Ag))))), (44, .e (.one (.pure (.val (.int .i64 ((p0.fVersions.length : Int))))))), (45, .e (.one (.pure (.val (.int .i64 v7)))))] [(2, .box [.pure (.sl (p0.fVersions.map Ag)), .pure (.sl (p0.fNow.map Ag)), .pure (.sl (p0.fTarget.map Ag)), .pure (.sl (p0.fTables.map Ai))]), (3, .box [.pure (.sl (p1.fBase.map Ag)), .pure (.sl (p1.fNext.map Ag)), .pure (.sl (p1.fHeld.map A6))])]) (fun v8 => mk [(2, .e (.one (.ptr 2 0))), (3, .e (.one (.ptr 3 0)))] [(2, .box [.pure (.sl (p0.fVersions.map Ag)), .pure (.sl (p0.fNow.map Ag)), .pure (.sl (p0.fTarget.map Ag)), .pure (.sl (p0.fTables.map Ai))]), (3, .box [.pure (.sl (p1.fBase.map Ag)), .pure (.sl (p1.fNext.map Ag)), .pure (.sl (p1.fHeld.map A6))])]) (fun _ _ => rfl) (sm [] _ _ rfl rfl) (fun j7 n7 v7 h => ?_) (fun v8 s h hs => ?_)
    ·unfold DJ at h
     refine Ab (Aa Ae rfl (A8 rfl (Ac (Ab ?_))))
     refine As rfl (fun c9 => ?_) (fun c9 => ?_)
     ·have h := Aq c9 h
      refine Au (Ab (AV (Ab (Aa Ae rfl (qm rfl ?_)))))
      obtain ⟨v10, a10, b10, h⟩ := An h
      refine qi AF Df a10 (Aj b10) rfl (qk Cb rfl (qa rfl (qa rfl (Ac (Ab ?_)))))
      refine AW h (fun v11 => mk [(2, .e (.one (.ptr 2 0))), (3, .e (.one (.ptr 3 0))), (6, .e (.one (.pure (.val (.int .i64 v7))))), (43, .e (.one (.pure (.sl (p0.fVersions.map Ag))))), (44, .e (.one (.pure (.val (.int .i64 ((p0.fVersions.length : Int))))))), (45, .e (.one (.pure (.val (.int .i64 v7))))), (81, .e (.one (.pure (.val (.bool v11)))))] [(2, .box [.pure (.sl (p0.fVersions.map Ag)), .pure (.sl (p0.fNow.map Ag)), .pure (.sl (p0.fTarget.map Ag)), .pure (.sl (p0.fTables.map Ai))]), (3, .box [.pure (.sl (p1.fBase.map Ag)), .pure (.sl (p1.fNext.map Ag)), .pure (.sl (p1.fHeld.map A6))])]) (fun j11 h => ?_) (fun v11 h => ?_)
      ·refine Aa Ae rfl (qf CA rfl (ql A9 rfl (qm rfl ?_)))
       obtain ⟨v12, a12, b12, h⟩ := An h
       refine qi AF Df a12 (Aj b12) rfl (qk Cb rfl (A8 rfl (qm rfl ?_)))
       refine AI (t := 56) rfl (fun c13 => ?_) (fun c13 => ?_)
       ·have h := Aq c13 h
        refine qn rfl (qn rfl (qn rfl (qn rfl (qn rfl (qn rfl (qn rfl (qp rfl (qm rfl (qn rfl (qn rfl (qn rfl (qn rfl (qn rfl (qn rfl (qp rfl (qm rfl (qn rfl (qn rfl (qn rfl (qn rfl (qn rfl (qn rfl (qn rfl (qp rfl (Ac ?_)))))))))))))))))))))))))
        exact Aw _ h (sm [] _ _ rfl rfl)
       ·have h := Ap c13 h
        refine qf CA rfl (ql A9 rfl (qm rfl ?_))
        obtain ⟨v14, a14, b14, h⟩ := An h
        refine qi AF Df a14 (Aj b14) rfl (qk Cb rfl (qm rfl (EE rfl (qp rfl (qm rfl ?_)))))
        refine AI (t := 65) rfl (fun c15 => ?_) (fun c15 => ?_)
        ·have h := Aq c15 h
         refine qn rfl (qn rfl (qn rfl (qn rfl (qn rfl (qn rfl (qp rfl (qm rfl (qn rfl (qn rfl (qn rfl (qn rfl (qn rfl (qn rfl (qn rfl (qp rfl (Ac ?_))))))))))))))))
         exact Aw _ h (sm [] _ _ rfl rfl)
        ·have h := Ap c15 h
         refine qf By rfl (ql A9 rfl (qm rfl ?_))
         obtain ⟨v16, a16, b16, h⟩ := An h
         refine qi AF Df a16 (Aj b16) rfl (qk Cb rfl (A8 rfl (qp rfl (qm rfl ?_))))
         refine AI (t := 73) rfl (fun c17 => ?_) (fun c17 => ?_)
         ·have h := Aq c17 h
          refine qn rfl (qn rfl (qn rfl (qn rfl (qn rfl (qn rfl (qn rfl (qp rfl (Ac ?_))))))))
          exact Aw _ h (sm [] _ _ rfl rfl)
         ·have h := Ap c17 h
          refine qf By rfl (ql A9 rfl (qm rfl ?_))
          obtain ⟨v18, a18, b18, h⟩ := An h
          refine qi AF Df a18 (Aj b18) rfl (qk Cb rfl (qm rfl (EE rfl (qp rfl (Ac ?_)))))
          exact Aw _ h (sm [] _ _ rfl rfl)
      ·refine As rfl (fun c19 => ?_) (fun c19 => ?_)
       ·have h := Aq c19 h
        refine Ab (Aa Ae rfl (qa rfl (Ac ?_)))
        obtain rfl := sj h
        refine Al (sm [] [(4, .e (.one (.pure (.val (.int .i64 7)))))] [] rfl rfl) (AA ?_)
        exact ⟨⟨[_], ⟨.tmp _ _ rfl, trivial⟩, rfl⟩, trivial⟩
       ·have h := Ap c19 h
        refine Au (Ab (Aa Ae rfl (qf CA rfl (ql A9 rfl (qm rfl ?_)))))
        obtain ⟨v20, a20, b20, h⟩ := An h
        refine qi AF Df a20 (Aj b20) rfl (qk Cb rfl (qf By rfl (ql A9 rfl (qm rfl ?_))))
        obtain ⟨v21, a21, b21, h⟩ := An h
        refine qi AF Df a21 (Aj b21) rfl (qk Cb rfl (BY rfl (AY (by kernel_rfl) ?_)))
        refine As rfl (fun c22 => ?_) (fun c22 => ?_)
        ·have h := Aq c22 h
         refine Ab (Aa Ae rfl (qa rfl (Ac ?_)))
         obtain rfl := sj h
         refine Al (sm [] [(4, .e (.one (.pure (.val (.int .i64 1)))))] [] rfl rfl) (AA ?_)
         exact ⟨⟨[_], ⟨.tmp _ _ rfl, trivial⟩, rfl⟩, trivial⟩
        ·have h := Ap c22 h
         refine Au (Aa Ae rfl (Bo rfl (qm rfl (Ac ?_))))
         exact Aw _ h (sm [] _ _ rfl rfl)
     ·have h := Ap c9 h
      refine A5 ?_
      exact Aw _ h (sm [] _ _ rfl rfl)
    ·refine Al hs (Ab (Ab (Aa Ae rfl (qf CG rfl (ql GE rfl (AT DQ rfl (qm rfl (Ac ?_))))))))
     refine AS (L := Dq N p0 p1) h (fun v23 => mk [(2, .e (.one (.ptr 2 0))), (3, .e (.one (.ptr 3 0))), (95, .e (.one (.pure (.sl (p0.fTables.map Ai))))), (96, .e (.one (.pure (.val (.int .i64 ((p0.fTables.length : Int))))))), (97, .e (.one (.pure (.val (.int .i64 v23)))))] [(2, .box [.pure (.sl (p0.fVersions.map Ag)), .pure (.sl (p0.fNow.map Ag)), .pure (.sl (p0.fTarget.map Ag)), .pure (.sl (p0.fTables.map Ai))]), (3, .box [.pure (.sl (p1.fBase.map Ag)), .pure (.sl (p1.fNext.map Ag)), .pure (.sl (p1.fHeld.map A6))])]) (fun v24 => mk [] []) (fun _ _ => rfl) (sm [] _ _ rfl rfl) (fun j23 n23 v23 h => ?_) (fun v24 s h hs => ?_)
     ·unfold Dq at h
      refine Ab (Aa Ae rfl (A8 rfl (Ac (Ab ?_))))
      refine As rfl (fun c25 => ?_) (fun c25 => ?_)
      ·have h := Aq c25 h
       refine Au (Ab (AV (Ab (Aa Ae rfl (qm rfl ?_)))))
       obtain ⟨v26, a26, b26, h⟩ := An h
       refine qi DQ DV a26 (Aj b26) rfl (qK GK DV rfl (qz Kc rfl (qa rfl (qs DV rfl (Ac (Ab (Aa Ae rfl (qa rfl (qa rfl (Ac ?_))))))))))
       refine AW h (fun v27 => mk [(2, .e (.one (.ptr 2 0))), (3, .e (.one (.ptr 3 0))), (8, .e (.one (.pure (.val (.int .i64 v23))))), (10, .e (.one (.pure (.val (.int .u8 v27.1))))), (11, .e (.one (.pure (.val (.int .u8 v27.2))))), (95, .e (.one (.pure (.sl (p0.fTables.map Ai))))), (96, .e (.one (.pure (.val (.int .i64 ((p0.fTables.length : Int))))))), (97, .e (.one (.pure (.val (.int .i64 v23)))))] [(2, .box [.pure (.sl (p0.fVersions.map Ag)), .pure (.sl (p0.fNow.map Ag)), .pure (.sl (p0.fTarget.map Ag)), .pure (.sl (p0.fTables.map Ai))]), (3, .box [.pure (.sl (p1.fBase.map Ag)), .pure (.sl (p1.fNext.map Ag)), .pure (.sl (p1.fHeld.map A6))])]) (fun j27 h => ?_) (fun v27 h => ?_)
       ·refine Ab (Aa Ae rfl (qL GK DV rfl ?_))
        obtain ⟨v28, a28, h⟩ := bind_some h
        refine AJ [] (IZ N v26 v28 a28) Vx rfl (Ac ?_)
        refine As rfl (fun c29 => ?_) (fun c29 => ?_)
        ·have h := Aq c29 h
         refine Aa Ae rfl (qL Be AQ rfl (qf CX rfl (ql Cb rfl ?_)))
         obtain ⟨v30, a30, h⟩ := bind_some h
         refine AJ [] (Ir N p1 v26.fFrom v30 a30) V2 rfl (qf Bu rfl (ql A9 rfl (qf CX rfl (ql Cb rfl ?_))))
         obtain ⟨v31, a31, b31, h⟩ := An h
         refine qi AF Df a31 (Aj b31) rfl (qk Cb rfl ?_)
         obtain ⟨c32, h⟩ := AO h
         refine Id rfl c32 (PL rfl (qa rfl (qa rfl (AY (by kernel_rfl) ?_))))
         exact Aw _ h (sm [] _ _ rfl rfl)
        ·have h := Ap c29 h
         refine Au ?_
         exact Aw _ h (sm [] _ _ rfl rfl)
       ·refine AW h (fun v33 => mk [(2, .e (.one (.ptr 2 0))), (3, .e (.one (.ptr 3 0))), (95, .e (.one (.pure (.sl (p0.fTables.map Ai))))), (96, .e (.one (.pure (.val (.int .i64 ((p0.fTables.length : Int))))))), (97, .e (.one (.pure (.val (.int .i64 v23))))), (133, .e (.one (.pure (.val (.bool v33)))))] [(2, .box [.pure (.sl (p0.fVersions.map Ag)), .pure (.sl (p0.fNow.map Ag)), .pure (.sl (p0.fTarget.map Ag)), .pure (.sl (p0.fTables.map Ai))]), (3, .box [.pure (.sl (p1.fBase.map Ag)), .pure (.sl (p1.fNext.map Ag)), .pure (.sl (p1.fHeld.map A6))])]) (fun j33 h => ?_) (fun v33 h => ?_)
        ·refine Aa Ae rfl (qm rfl (qf CC rfl (ql Gs rfl (qm rfl ?_))))
         obtain ⟨v34, a34, b34, h⟩ := An h
         refine qi Du Ft a34 (Aj b34) rfl (qk Jz rfl (HN rfl (Cn rfl (qm rfl ?_))))
         refine AI (t := 124) rfl (fun c35 => ?_) (fun c35 => ?_)
         ·have h := Aq c35 h
          refine qn rfl (qn rfl (qn rfl (qn rfl (qn rfl (qn rfl (qn rfl (qn rfl (qp rfl (Ac ?_)))))))))
          exact Aw _ h (sm [] _ _ rfl rfl)
         ·have h := Ap c35 h
          refine qf CC rfl (ql Gs rfl (qm rfl ?_))
          obtain ⟨v36, a36, b36, h⟩ := An h
          refine qi Du Ft a36 (Aj b36) rfl (qk Jz rfl (qm rfl (HN rfl (Cn rfl (qp rfl (Ac ?_))))))
          exact Aw _ h (sm [] _ _ rfl rfl)
        ·refine As rfl (fun c37 => ?_) (fun c37 => ?_)
         ·have h := Aq c37 h
          refine Ab (Aa Ae rfl (qa rfl (Ac ?_)))
          obtain rfl := sj h
          refine Al (sm [] [(4, .e (.one (.pure (.val (.int .i64 1)))))] [] rfl rfl) (AA ?_)
          exact ⟨⟨[_], ⟨.tmp _ _ rfl, trivial⟩, rfl⟩, trivial⟩
         ·have h := Ap c37 h
          refine Au (Aa Ae rfl (Bo rfl (qm rfl (Ac ?_))))
          exact Aw _ h (sm [] _ _ rfl rfl)
      ·have h := Ap c25 h
       refine A5 ?_
       exact Aw _ h (sm [] _ _ rfl rfl)
     ·refine Al hs (Ab (Aa Ae rfl (qa rfl (Ac ?_))))
      obtain rfl := sj h
      refine Al (sm [] [(4, .e (.one (.pure (.val (.int .i64 0)))))] [] rfl rfl) (AA ?_)
      exact ⟨⟨[_], ⟨.tmp _ _ rfl, trivial⟩, rfl⟩, trivial⟩
set_option maxRecDepth 10000 in
theorem E5 (N : Nat) (p0 : List Int) (r : (List Int)) (h : BO N p0 = some r) : AB Try.prog 98 [.e (.one (.pure (.sl (p0.map A6))))] [(1, r.map A6)] (.e (.one (.own 0))) := by
 unfold BO at h
 refine Ao (n := 8) (rs := [.tmp 2]) Try.func98 rfl rfl rfl (BE rfl) (BE rfl) rfl fun w0 S0 => ?_
 refine Ab (Aa Ae rfl (qa rfl (Ac (Ab (Ab (Aa Ae rfl (qm rfl ?_)))))))
 refine RA (.p rfl) rfl Du ?_
 refine Ac ?_
 refine Rk rfl (fun c2 => ?_) ?_
 ·have c2 := List.map_eq_nil_iff.1 c2
  rw [c2] at h
  have h : (some (([] : List Int))) = some r := h
  refine Ab (Aa Ae rfl (qa rfl (Ac ?_)))
  obtain rfl := sj h
  refine Al ((B8 2 2001 1 rfl rfl rfl).trans (sm [(1000, 2001)] [(2, .e (.one (.own 1000)))] [(1000, .vec 1 ((([] : List Int)).map A6))] rfl rfl)) (AA ?_)
  exact ⟨⟨[_], ⟨.tmp _ _ rfl, trivial⟩, rfl⟩, ⟨rfl, trivial⟩⟩
 ·refine Au (Ab (Aa Ae rfl (Ex Du Ft OR rfl (qm rfl ?_))))
  obtain ⟨c1, h⟩ := AO h
  refine JN (f := A6) Du Du Ft Qt OR (fun _ => rfl) c1 rfl (qa rfl (Ac ?_))
  obtain rfl := sj h
  refine Al (sm [(1000, 7)] [(2, .e (.one (.own 1000)))] [(1000, .vec 1 (((([] : List Int)) ++ p0).map A6))] rfl rfl) (AA ?_)
  exact ⟨⟨[_], ⟨.tmp _ _ rfl, trivial⟩, rfl⟩, ⟨rfl, trivial⟩⟩
set_option maxRecDepth 10000 in
theorem O9 (N : Nat) (p0 : Ad) (p1 : Af) (r : (List Af) × Int) (h : F3 N p0 p1 = some r) : AB Try.prog 75 [.e (.agg [.pure (.sl (p0.fVersions.map Ag)), .pure (.sl (p0.fNow.map Ag)), .pure (.sl (p0.fTarget.map Ag)), .pure (.sl (p0.fTables.map Ai))]), .e (.agg [.pure (.sl (p1.fBase.map Ag)), .pure (.sl (p1.fNext.map Ag)), .pure (.sl (p1.fHeld.map A6))])] [(3, r.1.map Dx)] (.tup [.one (.own 0), .one (.pure (.val (.int .i64 r.2)))]) := by
 unfold F3 at h
 refine Ao (n := 75) (rs := [.tmp 4, .tmp 5]) Try.func75 rfl rfl rfl (BE rfl) (BE rfl) rfl fun w0 S0 => ?_
 refine Ab (Aa Ae rfl (qb rfl (qb rfl (qa rfl (qa rfl (Ac (Ab (Ab (Aa Ae rfl (qL Dl CV rfl (qL Be AQ rfl ?_)))))))))))
 obtain ⟨v1, a1, h⟩ := bind_some h
 refine AJ [] (Ie N p0 p1 v1 a1) Ur rfl (qa rfl (Ac (Ab (Aa Ae rfl (qm rfl (Cn rfl (Ac ?_)))))))
 refine As rfl (fun c2 => ?_) (fun c2 => ?_)
 ·have h := Aq c2 h
  refine Ab (Aa Ae rfl (qm rfl (qa rfl (qa rfl (Ac ?_)))))
  obtain rfl := sj h
  refine Al ((B8 4 2001 3 rfl rfl rfl).trans (sm [(1000, 2001)] [(4, .e (.one (.own 1000))), (5, .e (.one (.pure (.val (.int .i64 v1)))))] [(1000, .vec 3 ((([] : List Af)).map Dx))] rfl rfl)) (AA ?_)
  exact ⟨⟨[_, _], ⟨.tmp _ _ rfl, ⟨.tmp _ _ rfl, trivial⟩⟩, rfl⟩, ⟨rfl, trivial⟩⟩
 ·have h := Ap c2 h
  refine Au (Ab (Aa Ae rfl (qa rfl (Ac (Ab (Ab (Aa Ae rfl (qf By rfl (ql A9 rfl (AT AF rfl (qm rfl (Ac ?_))))))))))))
  refine AS (L := Dp N p1) h (fun v3 => mk [(3, .e (.one (.ptr 3 0))), (7, .e (.one (.own 2002))), (22, .e (.one (.pure (.sl (p1.fNext.map Ag))))), (23, .e (.one (.pure (.val (.int .i64 ((p1.fNext.length : Int))))))), (24, .e (.one (.pure (.val (.int .i64 v3.2)))))] [(3, .box [.pure (.sl (p1.fBase.map Ag)), .pure (.sl (p1.fNext.map Ag)), .pure (.sl (p1.fHeld.map A6))]), (2002, .vec 1 (v3.1.map Ag))]) (fun v4 => mk [(3, .e (.one (.ptr 3 0))), (7, .e (.one (.own 2003)))] [(3, .box [.pure (.sl (p1.fBase.map Ag)), .pure (.sl (p1.fNext.map Ag)), .pure (.sl (p1.fHeld.map A6))]), (2003, .vec 1 (v4.map Ag))]) (fun _ _ => rfl) ((B8 7 2005 1 rfl rfl rfl).trans (sm [(2002, 2005)] _ _ rfl rfl)) (fun j3 n3 v3 h => ?_) (fun v4 s h hs => ?_)
  ·unfold Dp at h
   refine Ab (Aa Ae rfl (A8 rfl (Ac (Ab ?_))))
   refine As rfl (fun c5 => ?_) (fun c5 => ?_)
   ·have h := Aq c5 h
    refine Au ?_
    refine AW h (fun v6 => mk [(3, .e (.one (.ptr 3 0))), (7, .e (.one (.own 2004))), (22, .e (.one (.pure (.sl (p1.fNext.map Ag))))), (23, .e (.one (.pure (.val (.int .i64 ((p1.fNext.length : Int))))))), (24, .e (.one (.pure (.val (.int .i64 v3.2)))))] [(3, .box [.pure (.sl (p1.fBase.map Ag)), .pure (.sl (p1.fNext.map Ag)), .pure (.sl (p1.fHeld.map A6))]), (2004, .vec 1 (v6.map Ag))]) (fun j6 h => ?_) (fun v6 h => ?_)
    ·refine AV (Ab (Aa Ae rfl (qm rfl ?_)))
     obtain ⟨v7, a7, b7, h⟩ := An h
     refine qi AF Df a7 (Aj b7) rfl (qk Cb rfl (qa rfl (qa rfl (Ac (Ab (Aa Ae rfl (qm rfl (EE rfl (Ac ?_)))))))))
     refine As rfl (fun c8 => ?_) (fun c8 => ?_)
     ·have h := Aq c8 h
      refine Aa Ae rfl (qm rfl (qm rfl (Ex AF Df Ko rfl ?_)))
      obtain ⟨c9, h⟩ := AO h
      refine DM (f := Ag) AF AF Df K6 Ko c9 rfl (qa rfl (Ac ?_))
      exact Aw _ h (sm [(2004, 34)] _ _ rfl rfl)
     ·have h := Ap c8 h
      refine Au ?_
      exact Aw _ h (sm [(2004, 2002)] _ _ rfl rfl)
    ·refine Aa Ae rfl (Bo rfl (qm rfl (Ac ?_)))
     exact Aw _ h (sm [(2002, 2004)] _ _ rfl rfl)
   ·have h := Ap c5 h
    refine A5 ?_
    exact Aw _ h (sm [(2003, 2002)] _ _ rfl rfl)
  ·refine Al hs (Ab (Aa Ae rfl (qa rfl (Ac (Ab (Ab (Aa Ae rfl (qm rfl (Fc AF rfl ?_)))))))))
   obtain ⟨c10, h⟩ := AO h
   refine Id rfl c10 (qm rfl (Ac ?_))
   refine AS (L := CN N p1 v4) h (fun v11 => mk [(3, .e (.one (.ptr 3 0))), (7, .e (.one (.own 2006))), (10, .e (.one (.own 2007))), (38, .e (.one (.pure (.val (.int .i64 ((DA .i64 1 ((v4.length : Int))))))))), (39, .e (.one (.pure (.val (.int .i64 v11.2)))))] [(3, .box [.pure (.sl (p1.fBase.map Ag)), .pure (.sl (p1.fNext.map Ag)), .pure (.sl (p1.fHeld.map A6))]), (2006, .vec 1 (v4.map Ag)), (2007, .vec 3 (v11.1.map Dx))]) (fun v12 => mk [(10, .e (.one (.own 2008)))] [(2008, .vec 3 (v12.map Dx))]) (fun _ _ => rfl) ((B8 10 2027 3 rfl rfl rfl).trans (sm [(2006, 2003), (2007, 2027)] _ _ rfl rfl)) (fun j11 n11 v11 h => ?_) (fun v12 s h hs => ?_)
   ·unfold CN at h
    refine Ab (Aa Ae rfl (A8 rfl (Ac (Ab ?_))))
    refine As rfl (fun c13 => ?_) (fun c13 => ?_)
    ·have h := Aq c13 h
     refine Au (Ab (AV (Ab (Aa Ae rfl (qm rfl (qa rfl (Ac (Ab (Aa Ae rfl (qf CA rfl (ql A9 rfl ?_)))))))))))
     obtain ⟨v14, a14, h⟩ := bind_some h
     refine AJ [2009] (DD N p1.fBase v14 a14) Sn rfl (qf By rfl (ql A9 rfl ?_))
     obtain ⟨v15, a15, h⟩ := bind_some h
     refine AJ [2010] (DD N p1.fNext v15 a15) Sn rfl (qf CC rfl (ql Gs rfl ?_))
     obtain ⟨v16, a16, h⟩ := bind_some h
     refine AJ [2011] (E5 N p1.fHeld v16 a16) W8 rfl (AZ CF FN rfl (qz CF rfl (qs AQ rfl (AY (by kernel_rfl) (Ab (Ab (Aa Ae rfl (qm rfl (Fc AF rfl (qm rfl (Ac ?_)))))))))))
     refine AS (L := CO N v4 v11) h (fun v17 => mk [(3, .e (.one (.ptr 3 0))), (7, .e (.one (.own 2015))), (10, .e (.one (.own 2016))), (11, .e (.one (.pure (.val (.int .i64 v11.2))))), (12, .e (.one (.ptr 12 0))), (38, .e (.one (.pure (.val (.int .i64 ((DA .i64 1 ((v4.length : Int))))))))), (39, .e (.one (.pure (.val (.int .i64 v11.2))))), (52, .e (.one (.own 2015))), (53, .e (.one (.pure (.val (.int .i64 ((v4.length : Int))))))), (54, .e (.one (.pure (.val (.int .i64 v17.2)))))] [(3, .box [.pure (.sl (p1.fBase.map Ag)), .pure (.sl (p1.fNext.map Ag)), .pure (.sl (p1.fHeld.map A6))]), (12, .box [.own 2012, .own 2013, .own 2014]), (2012, .vec 1 (v14.map Ag)), (2013, .vec 1 (v17.1.map Ag)), (2014, .vec 1 (v16.map A6)), (2015, .vec 1 (v4.map Ag)), (2016, .vec 3 (v11.1.map Dx))]) (fun v18 => mk [(3, .e (.one (.ptr 3 0))), (7, .e (.one (.own 2020))), (10, .e (.one (.own 2021))), (12, .e (.one (.ptr 12 0))), (38, .e (.one (.pure (.val (.int .i64 ((DA .i64 1 ((v4.length : Int))))))))), (39, .e (.one (.pure (.val (.int .i64 v11.2)))))] [(3, .box [.pure (.sl (p1.fBase.map Ag)), .pure (.sl (p1.fNext.map Ag)), .pure (.sl (p1.fHeld.map A6))]), (12, .box [.own 2017, .own 2018, .own 2019]), (2017, .vec 1 (v14.map Ag)), (2018, .vec 1 (v18.map Ag)), (2019, .vec 1 (v16.map A6)), (2020, .vec 1 (v4.map Ag)), (2021, .vec 3 (v11.1.map Dx))]) (fun _ _ => rfl) (sm [(2012, 2009), (2013, 2010), (2014, 2011), (2015, 2006), (2016, 2007)] _ _ rfl rfl) (fun j17 n17 v17 h => ?_) (fun v18 s h hs => ?_)
     ·unfold CO at h
      refine Ab (Aa Ae rfl (A8 rfl (Ac (Ab ?_))))
      refine As rfl (fun c19 => ?_) (fun c19 => ?_)
      ·have h := Aq c19 h
       refine Au ?_
       refine AW h (fun v20 => mk [(3, .e (.one (.ptr 3 0))), (7, .e (.one (.own 2025))), (10, .e (.one (.own 2026))), (11, .e (.one (.pure (.val (.int .i64 v11.2))))), (12, .e (.one (.ptr 12 0))), (38, .e (.one (.pure (.val (.int .i64 ((DA .i64 1 ((v4.length : Int))))))))), (39, .e (.one (.pure (.val (.int .i64 v11.2))))), (52, .e (.one (.own 2025))), (53, .e (.one (.pure (.val (.int .i64 ((v4.length : Int))))))), (54, .e (.one (.pure (.val (.int .i64 v17.2)))))] [(3, .box [.pure (.sl (p1.fBase.map Ag)), .pure (.sl (p1.fNext.map Ag)), .pure (.sl (p1.fHeld.map A6))]), (12, .box [.own 2022, .own 2023, .own 2024]), (2022, .vec 1 (v14.map Ag)), (2023, .vec 1 (v20.map Ag)), (2024, .vec 1 (v16.map A6)), (2025, .vec 1 (v4.map Ag)), (2026, .vec 3 (v11.1.map Dx))]) (fun j20 h => ?_) (fun v20 h => ?_)
       ·refine AV (Ab (Aa Ae rfl (qm rfl ?_)))
        obtain ⟨v21, a21, b21, h⟩ := An h
        refine qI AF Df a21 (Aj b21) rfl (qj Cb (Aj b21) rfl (qa rfl (qa rfl (Ac (Ab (Aa Ae rfl (qm rfl (qm rfl ?_))))))))
        obtain ⟨c22, h⟩ := AO h
        refine IE rfl c22 (L3 rfl (BY rfl (Ac ?_)))
        refine As rfl (fun c23 => ?_) (fun c23 => ?_)
        ·have h := Aq c23 h
         refine Aa Ae rfl (qf By rfl (ql A9 rfl (qm rfl ?_)))
         obtain ⟨v24, a24, b24, h⟩ := An h
         refine qI AF Df a24 (Aj b24) rfl ?_
         refine Ee rfl rfl rfl rfl (Aj b24) rfl Df rfl (BE rfl) (DS Ag v17.1 _ ((-1))) ?_
         refine Ac ?_
         exact Aw _ h (sm [(2022, 2012), (2023, 2013), (2024, 2014), (2025, 2015), (2026, 2016)] _ _ rfl rfl)
        ·have h := Ap c23 h
         refine Au ?_
         exact Aw _ h (sm [(2022, 2012), (2023, 2013), (2024, 2014), (2025, 2015), (2026, 2016)] _ _ rfl rfl)
       ·refine Aa Ae rfl (Bo rfl (qm rfl (Ac ?_)))
        exact Aw _ h (sm [(2012, 2022), (2013, 2023), (2014, 2024), (2015, 2025), (2016, 2026)] _ _ rfl rfl)
      ·have h := Ap c19 h
       refine A5 ?_
       exact Aw _ h (sm [(2017, 2012), (2018, 2013), (2019, 2014), (2020, 2015), (2021, 2016)] _ _ rfl rfl)
     ·refine Al hs (Aa Ae rfl (qm rfl (qL Be AQ rfl (D1 (Bq 2017 _ _ rfl rfl) (D1 (Bq 2018 _ _ rfl rfl) (D1 (Bq 2019 _ _ rfl rfl) (Ex IM AQ CF rfl ?_)))))))
      obtain ⟨c25, h⟩ := AO h
      refine DM (f := Dx) IM IM AQ UY CF c25 rfl (qa rfl (Ac (Aa Ae rfl (Bo rfl (qm rfl (Ac ?_))))))
      exact Aw _ h (sm [(2006, 2020), (2007, 72)] _ _ rfl rfl)
    ·have h := Ap c13 h
     refine A5 ?_
     exact Aw _ h (sm [(2008, 2007)] _ _ rfl rfl)
   ·refine Al hs (Ab (Aa Ae rfl (qm rfl (qa rfl (qa rfl (Ac ?_))))))
    obtain rfl := sj h
    refine Al (sm [(1000, 2008)] [(4, .e (.one (.own 1000))), (5, .e (.one (.pure (.val (.int .i64 0)))))] [(1000, .vec 3 (v12.map Dx))] rfl rfl) (AA ?_)
    exact ⟨⟨[_, _], ⟨.tmp _ _ rfl, ⟨.tmp _ _ rfl, trivial⟩⟩, rfl⟩, ⟨rfl, trivial⟩⟩
set_option maxRecDepth 10000 in
theorem Mo (N : Nat) (p0 : Ad) (p1 : Af) (r : (List Ak)) (h : E2 N p0 p1 = some r) : AB Try.prog 76 [.e (.agg [.pure (.sl (p0.fVersions.map Ag)), .pure (.sl (p0.fNow.map Ag)), .pure (.sl (p0.fTarget.map Ag)), .pure (.sl (p0.fTables.map Ai))]), .e (.agg [.pure (.sl (p1.fBase.map Ag)), .pure (.sl (p1.fNext.map Ag)), .pure (.sl (p1.fHeld.map A6))])] [(3, r.map A1)] (.e (.one (.own 0))) := by
 unfold E2 at h
 refine Ao (n := 98) (rs := [.tmp 4]) Try.func76 rfl rfl rfl (BE rfl) (BE rfl) rfl fun w0 S0 => ?_
 refine Ab (Aa Ae rfl (qb rfl (qb rfl (qa rfl (Ac (Ab (Aa Ae rfl (qa rfl (Ac (Ab (Ab (Aa Ae rfl (qf CG rfl (ql GE rfl (AT DQ rfl (qm rfl (Ac ?_)))))))))))))))))
 refine AS (L := C4 N p0 p1) h (fun v1 => mk [(3, .e (.one (.ptr 3 0))), (5, .e (.one (.own 2001))), (15, .e (.one (.pure (.sl (p0.fTables.map Ai))))), (16, .e (.one (.pure (.val (.int .i64 ((p0.fTables.length : Int))))))), (17, .e (.one (.pure (.val (.int .i64 v1.2)))))] [(3, .box [.pure (.sl (p1.fBase.map Ag)), .pure (.sl (p1.fNext.map Ag)), .pure (.sl (p1.fHeld.map A6))]), (2001, .vec 3 (v1.1.map A1))]) (fun v2 => mk [(5, .e (.one (.own 2002)))] [(2002, .vec 3 (v2.map A1))]) (fun _ _ => rfl) ((B8 5 2013 3 rfl rfl rfl).trans (sm [(2001, 2013)] _ _ rfl rfl)) (fun j1 n1 v1 h => ?_) (fun v2 s h hs => ?_)
 ·unfold C4 at h
  refine Ab (Aa Ae rfl (A8 rfl (Ac (Ab ?_))))
  refine As rfl (fun c3 => ?_) (fun c3 => ?_)
  ·have h := Aq c3 h
   refine Au (Ab (AV (Ab (Aa Ae rfl (qm rfl ?_)))))
   obtain ⟨v4, a4, b4, h⟩ := An h
   refine qi DQ DV a4 (Aj b4) rfl (qK GK DV rfl (qz Kc rfl (qa rfl (qs DV rfl (Ac (Ab (Aa Ae rfl (qL Be AQ rfl (qf CX rfl (ql Cb rfl ?_))))))))))
   obtain ⟨v5, a5, h⟩ := bind_some h
   refine AJ [] (Ir N p1 v4.fFrom v5 a5) V2 rfl (qL Be AQ rfl (qf HA rfl (ql Cb rfl ?_)))
   obtain ⟨v6, a6, h⟩ := bind_some h
   refine AJ [] (Ir N p1 v4.fTo v6 a6) V2 rfl (qa rfl (qa rfl (AY (by kernel_rfl) ?_)))
   refine AW h (fun v7 => mk [(3, .e (.one (.ptr 3 0))), (5, .e (.one (.own 2003))), (6, .e (.one (.pure (.val (.int .i64 v1.2))))), (7, .e (.one (.ptr 7 0))), (8, .e (.one (.pure (.val (.int .u8 v7))))), (9, .e (.one (.pure (.val (.int .u8 v6))))), (15, .e (.one (.pure (.sl (p0.fTables.map Ai))))), (16, .e (.one (.pure (.val (.int .i64 ((p0.fTables.length : Int))))))), (17, .e (.one (.pure (.val (.int .i64 v1.2)))))] [(3, .box [.pure (.sl (p1.fBase.map Ag)), .pure (.sl (p1.fNext.map Ag)), .pure (.sl (p1.fHeld.map A6))]), (7, .box [.pure (.val (.int .i64 v4.fKind)), .pure (.val (.int .i64 v4.fFrom)), .pure (.val (.int .i64 v4.fTo)), .pure (.val (.bool v4.fAware)), .pure (.sl (v4.fOK.map (Es eB))), .pure (.sl (v4.fRewrite.map (Es eB)))]), (2003, .vec 3 (v1.1.map A1))]) (fun j7 h => ?_) (fun v7 h => ?_)
   ·refine Ab (Aa Ae rfl (qL GK DV rfl ?_))
    obtain ⟨v8, a8, h⟩ := bind_some h
    refine AJ [] (IZ N v4 v8 a8) Vx rfl (Ac ?_)
    refine As rfl (fun c9 => ?_) (fun c9 => ?_)
    ·have h := Aq c9 h
     refine Aa Ae rfl (qf CC rfl (ql Gs rfl (qm rfl ?_)))
     obtain ⟨v10, a10, b10, h⟩ := An h
     refine qi Du Ft a10 (Aj b10) rfl (qk Jz rfl (qa rfl (Ac ?_)))
     exact Aw _ h (sm [(2003, 2001)] _ _ rfl rfl)
    ·have h := Ap c9 h
     refine Au ?_
     exact Aw _ h (sm [(2003, 2001)] _ _ rfl rfl)
   ·refine Ab (Aa Ae rfl (qf I4 rfl (ql Jo rfl (AT FR rfl (qm rfl (Ac ?_))))))
    refine AS (L := Ce N v1 v4 v6 v7) h (fun v11 => mk [(3, .e (.one (.ptr 3 0))), (5, .e (.one (.own 2004))), (6, .e (.one (.pure (.val (.int .i64 v1.2))))), (7, .e (.one (.ptr 7 0))), (8, .e (.one (.pure (.val (.int .u8 v7))))), (9, .e (.one (.pure (.val (.int .u8 v6))))), (15, .e (.one (.pure (.sl (p0.fTables.map Ai))))), (16, .e (.one (.pure (.val (.int .i64 ((p0.fTables.length : Int))))))), (17, .e (.one (.pure (.val (.int .i64 v1.2))))), (39, .e (.one (.pure (.val (.int .i64 ((v4.fOK.length : Int))))))), (40, .e (.one (.pure (.val (.int .i64 v11.2)))))] [(3, .box [.pure (.sl (p1.fBase.map Ag)), .pure (.sl (p1.fNext.map Ag)), .pure (.sl (p1.fHeld.map A6))]), (7, .box [.pure (.val (.int .i64 v4.fKind)), .pure (.val (.int .i64 v4.fFrom)), .pure (.val (.int .i64 v4.fTo)), .pure (.val (.bool v4.fAware)), .pure (.sl (v4.fOK.map (Es eB))), .pure (.sl (v4.fRewrite.map (Es eB)))]), (2004, .vec 3 (v11.1.map A1))]) (fun v12 => mk [(3, .e (.one (.ptr 3 0))), (5, .e (.one (.own 2005))), (15, .e (.one (.pure (.sl (p0.fTables.map Ai))))), (16, .e (.one (.pure (.val (.int .i64 ((p0.fTables.length : Int))))))), (17, .e (.one (.pure (.val (.int .i64 v1.2)))))] [(3, .box [.pure (.sl (p1.fBase.map Ag)), .pure (.sl (p1.fNext.map Ag)), .pure (.sl (p1.fHeld.map A6))]), (2005, .vec 3 (v12.map A1))]) (fun _ _ => rfl) (sm [(2004, 2003)] _ _ rfl rfl) (fun j11 n11 v11 h => ?_) (fun v12 s h hs => ?_)
    ·unfold Ce at h
     refine Ab (Aa Ae rfl (A8 rfl (Ac (Ab ?_))))
     refine As rfl (fun c13 => ?_) (fun c13 => ?_)
     ·have h := Aq c13 h
      refine Au ?_
      refine AW h (fun v14 => mk [(3, .e (.one (.ptr 3 0))), (5, .e (.one (.own 2006))), (6, .e (.one (.pure (.val (.int .i64 v1.2))))), (7, .e (.one (.ptr 7 0))), (8, .e (.one (.pure (.val (.int .u8 v7))))), (9, .e (.one (.pure (.val (.int .u8 v6))))), (15, .e (.one (.pure (.sl (p0.fTables.map Ai))))), (16, .e (.one (.pure (.val (.int .i64 ((p0.fTables.length : Int))))))), (17, .e (.one (.pure (.val (.int .i64 v1.2))))), (39, .e (.one (.pure (.val (.int .i64 ((v4.fOK.length : Int))))))), (40, .e (.one (.pure (.val (.int .i64 v11.2)))))] [(3, .box [.pure (.sl (p1.fBase.map Ag)), .pure (.sl (p1.fNext.map Ag)), .pure (.sl (p1.fHeld.map A6))]), (7, .box [.pure (.val (.int .i64 v4.fKind)), .pure (.val (.int .i64 v4.fFrom)), .pure (.val (.int .i64 v4.fTo)), .pure (.val (.bool v4.fAware)), .pure (.sl (v4.fOK.map (Es eB))), .pure (.sl (v4.fRewrite.map (Es eB)))]), (2006, .vec 3 (v14.map A1))]) (fun j14 h => ?_) (fun v14 h => ?_)
      ·refine AV (Ab (Aa Ae rfl (qm rfl (qa rfl (Ac (Ab (Ab (Aa Ae rfl (qm rfl (qm rfl ?_))))))))))
       obtain ⟨c15, h⟩ := AO h
       refine IE rfl c15 (L3 rfl (BY rfl (Ac ?_)))
       refine As rfl (fun c16 => ?_) (fun c16 => ?_)
       ·have h := Aq c16 h
        refine A5 ?_
        exact Aw _ h (sm [(2006, 2004)] _ _ rfl rfl)
       ·have h := Ap c16 h
        refine Au (Ab (Aa Ae rfl (qa rfl (Ac (Ab (Ab (Aa Ae rfl (qf I4 rfl (ql Jo rfl (qm rfl ?_))))))))))
        obtain ⟨v17, a17, b17, h⟩ := An h
        refine qi FR Mk a17 (Aj b17) rfl (qk OS rfl (AT F6 rfl (qm rfl (Ac ?_))))
        refine AS (L := BT N v1 v4 v6 v11 v17) h (fun v18 => mk [(3, .e (.one (.ptr 3 0))), (5, .e (.one (.own 2007))), (6, .e (.one (.pure (.val (.int .i64 v1.2))))), (7, .e (.one (.ptr 7 0))), (8, .e (.one (.pure (.val (.int .u8 v7))))), (9, .e (.one (.pure (.val (.int .u8 v6))))), (10, .e (.one (.pure (.val (.int .i64 v11.2))))), (11, .e (.one (.pure (.val (.bool v18.2.1))))), (15, .e (.one (.pure (.sl (p0.fTables.map Ai))))), (16, .e (.one (.pure (.val (.int .i64 ((p0.fTables.length : Int))))))), (17, .e (.one (.pure (.val (.int .i64 v1.2))))), (39, .e (.one (.pure (.val (.int .i64 ((v4.fOK.length : Int))))))), (40, .e (.one (.pure (.val (.int .i64 v11.2))))), (52, .e (.one (.pure (.sl (v17.map eB))))), (53, .e (.one (.pure (.val (.int .i64 ((v17.length : Int))))))), (54, .e (.one (.pure (.val (.int .i64 v18.2.2)))))] [(3, .box [.pure (.sl (p1.fBase.map Ag)), .pure (.sl (p1.fNext.map Ag)), .pure (.sl (p1.fHeld.map A6))]), (7, .box [.pure (.val (.int .i64 v4.fKind)), .pure (.val (.int .i64 v4.fFrom)), .pure (.val (.int .i64 v4.fTo)), .pure (.val (.bool v4.fAware)), .pure (.sl (v4.fOK.map (Es eB))), .pure (.sl (v4.fRewrite.map (Es eB)))]), (2007, .vec 3 (v18.1.map A1))]) (fun v19 => mk [(3, .e (.one (.ptr 3 0))), (5, .e (.one (.own 2008))), (6, .e (.one (.pure (.val (.int .i64 v1.2))))), (7, .e (.one (.ptr 7 0))), (8, .e (.one (.pure (.val (.int .u8 v7))))), (9, .e (.one (.pure (.val (.int .u8 v6))))), (10, .e (.one (.pure (.val (.int .i64 v11.2))))), (11, .e (.one (.pure (.val (.bool v19.2))))), (15, .e (.one (.pure (.sl (p0.fTables.map Ai))))), (16, .e (.one (.pure (.val (.int .i64 ((p0.fTables.length : Int))))))), (17, .e (.one (.pure (.val (.int .i64 v1.2))))), (39, .e (.one (.pure (.val (.int .i64 ((v4.fOK.length : Int))))))), (40, .e (.one (.pure (.val (.int .i64 v11.2)))))] [(3, .box [.pure (.sl (p1.fBase.map Ag)), .pure (.sl (p1.fNext.map Ag)), .pure (.sl (p1.fHeld.map A6))]), (7, .box [.pure (.val (.int .i64 v4.fKind)), .pure (.val (.int .i64 v4.fFrom)), .pure (.val (.int .i64 v4.fTo)), .pure (.val (.bool v4.fAware)), .pure (.sl (v4.fOK.map (Es eB))), .pure (.sl (v4.fRewrite.map (Es eB)))]), (2008, .vec 3 (v19.1.map A1))]) (fun _ _ => rfl) (sm [(2007, 2004)] _ _ rfl rfl) (fun j18 n18 v18 h => ?_) (fun v19 s h hs => ?_)
        ·unfold BT at h
         refine Ab (Aa Ae rfl (A8 rfl (Ac (Ab ?_))))
         refine As rfl (fun c20 => ?_) (fun c20 => ?_)
         ·have h := Aq c20 h
          refine Au ?_
          refine AW h (fun v21 => mk [(3, .e (.one (.ptr 3 0))), (5, .e (.one (.own 2009))), (6, .e (.one (.pure (.val (.int .i64 v1.2))))), (7, .e (.one (.ptr 7 0))), (8, .e (.one (.pure (.val (.int .u8 v7))))), (9, .e (.one (.pure (.val (.int .u8 v6))))), (10, .e (.one (.pure (.val (.int .i64 v11.2))))), (11, .e (.one (.pure (.val (.bool v21.2))))), (15, .e (.one (.pure (.sl (p0.fTables.map Ai))))), (16, .e (.one (.pure (.val (.int .i64 ((p0.fTables.length : Int))))))), (17, .e (.one (.pure (.val (.int .i64 v1.2))))), (39, .e (.one (.pure (.val (.int .i64 ((v4.fOK.length : Int))))))), (40, .e (.one (.pure (.val (.int .i64 v11.2))))), (52, .e (.one (.pure (.sl (v17.map eB))))), (53, .e (.one (.pure (.val (.int .i64 ((v17.length : Int))))))), (54, .e (.one (.pure (.val (.int .i64 v18.2.2)))))] [(3, .box [.pure (.sl (p1.fBase.map Ag)), .pure (.sl (p1.fNext.map Ag)), .pure (.sl (p1.fHeld.map A6))]), (7, .box [.pure (.val (.int .i64 v4.fKind)), .pure (.val (.int .i64 v4.fFrom)), .pure (.val (.int .i64 v4.fTo)), .pure (.val (.bool v4.fAware)), .pure (.sl (v4.fOK.map (Es eB))), .pure (.sl (v4.fRewrite.map (Es eB)))]), (2009, .vec 3 (v21.1.map A1))]) (fun j21 h => ?_) (fun v21 h => ?_)
          ·refine AV (Ab (Aa Ae rfl (qm rfl ?_)))
           obtain ⟨v22, a22, b22, h⟩ := An h
           refine qi F6 Pw a22 (Aj b22) rfl (qk Rb rfl (qa rfl (qa rfl (Ac (Ab (Ab (Aa Ae rfl (qm rfl (qm rfl ?_)))))))))
           obtain ⟨c23, h⟩ := AO h
           refine IE rfl c23 (L3 rfl (BY rfl (Ac ?_)))
           refine As rfl (fun c24 => ?_) (fun c24 => ?_)
           ·have h := Aq c24 h
            refine A5 ?_
            exact Aw _ h (sm [(2009, 2007)] _ _ rfl rfl)
           ·have h := Ap c24 h
            refine Au ?_
            refine AW h (fun v25 => mk [(3, .e (.one (.ptr 3 0))), (5, .e (.one (.own 2010))), (6, .e (.one (.pure (.val (.int .i64 v1.2))))), (7, .e (.one (.ptr 7 0))), (8, .e (.one (.pure (.val (.int .u8 v7))))), (9, .e (.one (.pure (.val (.int .u8 v6))))), (10, .e (.one (.pure (.val (.int .i64 v11.2))))), (11, .e (.one (.pure (.val (.bool v25))))), (12, .e (.one (.pure (.val (.int .i64 v18.2.2))))), (13, .e (.one (.pure (.val (.bool v22))))), (15, .e (.one (.pure (.sl (p0.fTables.map Ai))))), (16, .e (.one (.pure (.val (.int .i64 ((p0.fTables.length : Int))))))), (17, .e (.one (.pure (.val (.int .i64 v1.2))))), (39, .e (.one (.pure (.val (.int .i64 ((v4.fOK.length : Int))))))), (40, .e (.one (.pure (.val (.int .i64 v11.2))))), (52, .e (.one (.pure (.sl (v17.map eB))))), (53, .e (.one (.pure (.val (.int .i64 ((v17.length : Int))))))), (54, .e (.one (.pure (.val (.int .i64 v18.2.2)))))] [(3, .box [.pure (.sl (p1.fBase.map Ag)), .pure (.sl (p1.fNext.map Ag)), .pure (.sl (p1.fHeld.map A6))]), (7, .box [.pure (.val (.int .i64 v4.fKind)), .pure (.val (.int .i64 v4.fFrom)), .pure (.val (.int .i64 v4.fTo)), .pure (.val (.bool v4.fAware)), .pure (.sl (v4.fOK.map (Es eB))), .pure (.sl (v4.fRewrite.map (Es eB)))]), (2010, .vec 3 (v18.1.map A1))]) (fun j25 h => ?_) (fun v25 h => ?_)
            ·refine Aa Ae rfl (qm rfl (qm rfl ?_))
             refine AI (t := 65) rfl (fun c26 => ?_) (fun c26 => ?_)
             ·have h := Aq c26 h
              refine qn rfl (qp rfl (qa rfl (Ac ?_)))
              exact Aw _ h (sm [(2010, 2007)] _ _ rfl rfl)
             ·have h := Ap c26 h
              refine qm rfl (qp rfl (qa rfl (Ac ?_)))
              exact Aw _ h (sm [(2010, 2007)] _ _ rfl rfl)
            ·refine AW h (fun v27 => mk [(3, .e (.one (.ptr 3 0))), (5, .e (.one (.own 2011))), (6, .e (.one (.pure (.val (.int .i64 v1.2))))), (7, .e (.one (.ptr 7 0))), (8, .e (.one (.pure (.val (.int .u8 v7))))), (9, .e (.one (.pure (.val (.int .u8 v6))))), (10, .e (.one (.pure (.val (.int .i64 v11.2))))), (11, .e (.one (.pure (.val (.bool v25))))), (12, .e (.one (.pure (.val (.int .i64 v18.2.2))))), (15, .e (.one (.pure (.sl (p0.fTables.map Ai))))), (16, .e (.one (.pure (.val (.int .i64 ((p0.fTables.length : Int))))))), (17, .e (.one (.pure (.val (.int .i64 v1.2))))), (39, .e (.one (.pure (.val (.int .i64 ((v4.fOK.length : Int))))))), (40, .e (.one (.pure (.val (.int .i64 v11.2))))), (52, .e (.one (.pure (.sl (v17.map eB))))), (53, .e (.one (.pure (.val (.int .i64 ((v17.length : Int))))))), (54, .e (.one (.pure (.val (.int .i64 v18.2.2))))), (74, .e (.one (.pure (.val (.bool v27)))))] [(3, .box [.pure (.sl (p1.fBase.map Ag)), .pure (.sl (p1.fNext.map Ag)), .pure (.sl (p1.fHeld.map A6))]), (7, .box [.pure (.val (.int .i64 v4.fKind)), .pure (.val (.int .i64 v4.fFrom)), .pure (.val (.int .i64 v4.fTo)), .pure (.val (.bool v4.fAware)), .pure (.sl (v4.fOK.map (Es eB))), .pure (.sl (v4.fRewrite.map (Es eB)))]), (2011, .vec 3 (v18.1.map A1))]) (fun j27 h => ?_) (fun v27 h => ?_)
             ·refine Aa Ae rfl (qm rfl (CE rfl (qm rfl ?_)))
              refine AI (t := 70) rfl (fun c28 => ?_) (fun c28 => ?_)
              ·have h := Aq c28 h
               refine qf Ib rfl (ql Rb rfl (CE rfl (qp rfl (Ac ?_))))
               exact Aw _ h (sm [(2011, 2010)] _ _ rfl rfl)
              ·have h := Ap c28 h
               refine qn rfl (qn rfl (qn rfl (qp rfl (Ac ?_))))
               exact Aw _ h (sm [(2011, 2010)] _ _ rfl rfl)
             ·refine As rfl (fun c29 => ?_) (fun c29 => ?_)
              ·have h := Aq c29 h
               refine Aa Ae rfl (qm rfl (qm rfl (qm rfl (qm rfl (AZ Fs JI rfl (Ex FC DN Fs rfl ?_))))))
               obtain ⟨c30, h⟩ := AO h
               refine DM (f := A1) FC FC DN Rd Fs c30 rfl (qa rfl (Ac ?_))
               exact Aw _ h (sm [(2009, 81)] _ _ rfl rfl)
              ·have h := Ap c29 h
               refine Au ?_
               exact Aw _ h (sm [(2009, 2011)] _ _ rfl rfl)
          ·refine Aa Ae rfl (Bo rfl (qm rfl (Ac ?_)))
           exact Aw _ h (sm [(2007, 2009)] _ _ rfl rfl)
         ·have h := Ap c20 h
          refine A5 ?_
          exact Aw _ h (sm [(2008, 2007)] _ _ rfl rfl)
        ·refine Al hs ?_
         refine AW h (fun v31 => mk [(3, .e (.one (.ptr 3 0))), (5, .e (.one (.own 2012))), (6, .e (.one (.pure (.val (.int .i64 v1.2))))), (7, .e (.one (.ptr 7 0))), (8, .e (.one (.pure (.val (.int .u8 v7))))), (9, .e (.one (.pure (.val (.int .u8 v6))))), (10, .e (.one (.pure (.val (.int .i64 v11.2))))), (15, .e (.one (.pure (.sl (p0.fTables.map Ai))))), (16, .e (.one (.pure (.val (.int .i64 ((p0.fTables.length : Int))))))), (17, .e (.one (.pure (.val (.int .i64 v1.2))))), (39, .e (.one (.pure (.val (.int .i64 ((v4.fOK.length : Int))))))), (40, .e (.one (.pure (.val (.int .i64 v11.2))))), (88, .e (.one (.pure (.val (.bool v31)))))] [(3, .box [.pure (.sl (p1.fBase.map Ag)), .pure (.sl (p1.fNext.map Ag)), .pure (.sl (p1.fHeld.map A6))]), (7, .box [.pure (.val (.int .i64 v4.fKind)), .pure (.val (.int .i64 v4.fFrom)), .pure (.val (.int .i64 v4.fTo)), .pure (.val (.bool v4.fAware)), .pure (.sl (v4.fOK.map (Es eB))), .pure (.sl (v4.fRewrite.map (Es eB)))]), (2012, .vec 3 (v19.1.map A1))]) (fun j31 h => ?_) (fun v31 h => ?_)
         ·refine Aa Ae rfl (qf Ib rfl (ql Rb rfl (qm rfl ?_)))
          refine AI (t := 85) rfl (fun c32 => ?_) (fun c32 => ?_)
          ·have h := Aq c32 h
           refine qm rfl (CE rfl (qp rfl (Ac ?_)))
           exact Aw _ h (sm [(2012, 2008)] _ _ rfl rfl)
          ·have h := Ap c32 h
           refine qn rfl (qn rfl (qp rfl (Ac ?_)))
           exact Aw _ h (sm [(2012, 2008)] _ _ rfl rfl)
         ·refine As rfl (fun c33 => ?_) (fun c33 => ?_)
          ·have h := Aq c33 h
           refine Aa Ae rfl (qm rfl (qm rfl (qm rfl (AZ Fs JI rfl (Ex FC DN Fs rfl ?_)))))
           obtain ⟨c34, h⟩ := AO h
           refine DM (f := A1) FC FC DN Rd Fs c34 rfl (qa rfl (Ac ?_))
           exact Aw _ h (sm [(2006, 94)] _ _ rfl rfl)
          ·have h := Ap c33 h
           refine Au ?_
           exact Aw _ h (sm [(2006, 2012)] _ _ rfl rfl)
      ·refine Aa Ae rfl (Bo rfl (qm rfl (Ac ?_)))
       exact Aw _ h (sm [(2004, 2006)] _ _ rfl rfl)
     ·have h := Ap c13 h
      refine A5 ?_
      exact Aw _ h (sm [(2005, 2004)] _ _ rfl rfl)
    ·refine Al hs (Aa Ae rfl (Bo rfl (qm rfl (Ac ?_))))
     exact Aw _ h (sm [(2001, 2005)] _ _ rfl rfl)
  ·have h := Ap c3 h
   refine A5 ?_
   exact Aw _ h (sm [(2002, 2001)] _ _ rfl rfl)
 ·refine Al hs (Ab (Aa Ae rfl (qm rfl (qa rfl (Ac ?_)))))
  obtain rfl := sj h
  refine Al (sm [(1000, 2002)] [(4, .e (.one (.own 1000)))] [(1000, .vec 3 (v2.map A1))] rfl rfl) (AA ?_)
  exact ⟨⟨[_], ⟨.tmp _ _ rfl, trivial⟩, rfl⟩, ⟨rfl, trivial⟩⟩
set_option maxRecDepth 10000 in
theorem JQ (N : Nat) (p0 : Ad) (p1 : Af) (r : Af × Ak × Int) (h : Fa N p0 p1 = some r) : AB Try.prog 38 [.e (.agg [.pure (.sl (p0.fVersions.map Ag)), .pure (.sl (p0.fNow.map Ag)), .pure (.sl (p0.fTarget.map Ag)), .pure (.sl (p0.fTables.map Ai))]), .e (.agg [.pure (.sl (p1.fBase.map Ag)), .pure (.sl (p1.fNext.map Ag)), .pure (.sl (p1.fHeld.map A6))])] [] (.tup [.agg [.pure (.sl (r.1.fBase.map Ag)), .pure (.sl (r.1.fNext.map Ag)), .pure (.sl (r.1.fHeld.map A6))], .agg [.pure (.val (.int .i64 r.2.1.fTable)), .pure (.val (.int .i64 r.2.1.fWriter)), .pure (.val (.int .i64 r.2.1.fReader))], .one (.pure (.val (.int .i64 r.2.2)))]) := by
 unfold Fa at h
 refine Ao (n := 42) (rs := [.cell 4 43, .cell 5 45, .tmp 6]) Try.func38 rfl rfl rfl (BE rfl) (BE rfl) rfl fun w0 S0 => ?_
 refine Ab (Aa Ae rfl (qb rfl (qb rfl (qz CF rfl (qz Fs rfl (qa rfl (Ac (Ab (Aa Ae rfl (qL Dl CV rfl (qL Be AQ rfl ?_)))))))))))
 obtain ⟨v1, a1, h⟩ := bind_some h
 refine AJ [2001] (O9 N p0 p1 v1 a1) XP rfl (qm rfl (qx rfl (qx rfl (qa rfl (qa rfl (Ac (Ab (Ab (Aa Ae rfl (qm rfl (Cn rfl (Ac ?_))))))))))))
 refine As rfl (fun c2 => ?_) (fun c2 => ?_)
 ·have h := Aq c2 h
  refine Ab (Aa Ae rfl (AZ CF FN rfl (AZ Fs JI rfl (qm rfl (qs AQ rfl (qs DN rfl (qa rfl (Ac ?_))))))))
  obtain rfl := sj h
  refine Al ((EI 4 _ rfl).trans (sm [] [(4, .e (.one (.ptr 4 0))), (5, .e (.one (.ptr 5 0))), (6, .e (.one (.pure (.val (.int .i64 v1.2)))))] [(4, .box [.pure (.sl ((([] : List Int)).map Ag)), .pure (.sl ((([] : List Int)).map Ag)), .pure (.sl ((([] : List Int)).map A6))]), (5, .box [.pure (.val (.int .i64 0)), .pure (.val (.int .i64 0)), .pure (.val (.int .i64 0))])] rfl rfl)) (AA ?_)
  exact ⟨⟨[_, _, _], ⟨.cellN _ _ _ _ _ _ _ rfl rfl Be AQ rfl rfl (FT rfl), ⟨.cellN _ _ _ _ _ _ _ rfl rfl H0 DN rfl rfl (FT rfl), ⟨.tmp _ _ rfl, trivial⟩⟩⟩, rfl⟩, trivial⟩
 ·have h := Ap c2 h
  refine Au (Ab (Ab (Aa Ae rfl (qm rfl (Fc IM rfl (qm rfl (Ac ?_)))))))
  refine AS (L := El N p0 v1) h (fun v3 => mk [(2, .e (.one (.ptr 2 0))), (4, .e (.one (.ptr 4 0))), (5, .e (.one (.ptr 5 0))), (23, .e (.one (.own 2002))), (24, .e (.one (.pure (.val (.int .i64 ((v1.1.length : Int))))))), (25, .e (.one (.pure (.val (.int .i64 v3)))))] [(2, .box [.pure (.sl (p0.fVersions.map Ag)), .pure (.sl (p0.fNow.map Ag)), .pure (.sl (p0.fTarget.map Ag)), .pure (.sl (p0.fTables.map Ai))]), (4, .box [.pure (.nil0), .pure (.nil0), .pure (.nil0)]), (5, .box [.pure (.val (.int .i64 0)), .pure (.val (.int .i64 0)), .pure (.val (.int .i64 0))]), (2002, .vec 3 (v1.1.map Dx))]) (fun v4 => mk [(4, .e (.one (.ptr 4 0))), (5, .e (.one (.ptr 5 0)))] [(4, .box [.pure (.nil0), .pure (.nil0), .pure (.nil0)]), (5, .box [.pure (.val (.int .i64 0)), .pure (.val (.int .i64 0)), .pure (.val (.int .i64 0))])]) (fun _ _ => rfl) (sm [(2002, 2001)] _ _ rfl rfl) (fun j3 n3 v3 h => ?_) (fun v4 s h hs => ?_)
  ·unfold El at h
   refine Ab (Aa Ae rfl (A8 rfl (Ac (Ab ?_))))
   refine As rfl (fun c5 => ?_) (fun c5 => ?_)
   ·have h := Aq c5 h
    refine Au (Ab (AV (Ab (Aa Ae rfl ?_))))
    obtain ⟨v6, a6, b6, h⟩ := An h
    refine qI IM AQ a6 (Aj b6) rfl (qJ Be AQ (Aj b6) rfl (qz CF rfl (qs AQ rfl (Ac (Ab (Aa Ae rfl (qL Dl CV rfl (qL Be AQ rfl ?_))))))))
    obtain ⟨v7, a7, h⟩ := bind_some h
    refine AJ [2003] (Mo N p0 v6 v7 a7) Yo rfl (qa rfl (Ac (Ab (Aa Ae rfl (qm rfl (Fc FC rfl (FP rfl (Ac ?_))))))))
    refine As rfl (fun c8 => ?_) (fun c8 => ?_)
    ·have h := Aq c8 h
     refine Ab (Aa Ae rfl (qL Be AQ rfl (qm rfl ?_)))
     obtain ⟨v9, a9, b9, h⟩ := An h
     refine qI FC DN a9 (Aj b9) rfl (qJ H0 DN (Aj b9) rfl (qs AQ rfl (qs DN rfl (qa rfl (AY (by kernel_rfl) ?_)))))
     obtain rfl := sj h
     refine Al (sm [] [(4, .e (.one (.ptr 4 0))), (5, .e (.one (.ptr 5 0))), (6, .e (.one (.pure (.val (.int .i64 0)))))] [(4, .box [.pure (.sl (v6.fBase.map Ag)), .pure (.sl (v6.fNext.map Ag)), .pure (.sl (v6.fHeld.map A6))]), (5, .box [.pure (.val (.int .i64 v9.fTable)), .pure (.val (.int .i64 v9.fWriter)), .pure (.val (.int .i64 v9.fReader))])] rfl rfl) (AA ?_)
     exact ⟨⟨[_, _, _], ⟨.cellN _ _ _ _ _ _ _ rfl rfl Be AQ rfl rfl (FT rfl), ⟨.cellN _ _ _ _ _ _ _ rfl rfl H0 DN rfl rfl (FT rfl), ⟨.tmp _ _ rfl, trivial⟩⟩⟩, rfl⟩, trivial⟩
    ·have h := Ap c8 h
     refine Au (Aa Ae rfl (Bo rfl (qm rfl (Ac ?_))))
     exact Aw _ h (sm [] _ _ rfl rfl)
   ·have h := Ap c5 h
    refine A5 ?_
    exact Aw _ h (sm [] _ _ rfl rfl)
  ·refine Al hs (Ab (Aa Ae rfl (AZ CF FN rfl (AZ Fs JI rfl (qs AQ rfl (qs DN rfl (qa rfl (Ac ?_))))))))
   obtain rfl := sj h
   refine Al ((EI 4 _ rfl).trans (sm [] [(4, .e (.one (.ptr 4 0))), (5, .e (.one (.ptr 5 0))), (6, .e (.one (.pure (.val (.int .i64 15)))))] [(4, .box [.pure (.sl ((([] : List Int)).map Ag)), .pure (.sl ((([] : List Int)).map Ag)), .pure (.sl ((([] : List Int)).map A6))]), (5, .box [.pure (.val (.int .i64 0)), .pure (.val (.int .i64 0)), .pure (.val (.int .i64 0))])] rfl rfl)) (AA ?_)
   exact ⟨⟨[_, _, _], ⟨.cellN _ _ _ _ _ _ _ rfl rfl Be AQ rfl rfl (FT rfl), ⟨.cellN _ _ _ _ _ _ _ rfl rfl H0 DN rfl rfl (FT rfl), ⟨.tmp _ _ rfl, trivial⟩⟩⟩, rfl⟩, trivial⟩
set_option maxRecDepth 10000 in
theorem Lb (N : Nat) (p0 : Ad) (p1 : Af) (r : Bool × Int) (h : Fl N p0 p1 = some r) : AB Try.prog 54 [.e (.agg [.pure (.sl (p0.fVersions.map Ag)), .pure (.sl (p0.fNow.map Ag)), .pure (.sl (p0.fTarget.map Ag)), .pure (.sl (p0.fTables.map Ai))]), .e (.agg [.pure (.sl (p1.fBase.map Ag)), .pure (.sl (p1.fNext.map Ag)), .pure (.sl (p1.fHeld.map A6))])] [] (.tup [.one (.pure (.val (.bool r.1))), .one (.pure (.val (.int .i64 r.2)))]) := by
 unfold Fl at h
 refine Ao (n := 22) (rs := [.tmp 4, .tmp 5]) Try.func54 rfl rfl rfl (BE rfl) (BE rfl) rfl fun w0 S0 => ?_
 refine Ab (Aa Ae rfl (qb rfl (qb rfl (qa rfl (qa rfl (Ac (Ab (Aa Ae rfl (qL Dl CV rfl (qL Be AQ rfl ?_))))))))))
 obtain ⟨v1, a1, h⟩ := bind_some h
 refine AJ [] (JQ N p0 p1 v1 a1) V4 rfl (qm rfl (qx rfl (qx rfl (qx rfl (qz CF rfl (qz Fs rfl (qs AQ rfl (qs DN rfl (qa rfl (Ac (Ab (Aa Ae rfl (qm rfl (Ac (AV (Ab (Aa Ae rfl (BY rfl (qa rfl (Ac ?_))))))))))))))))))))
 refine As rfl (fun c2 => ?_) (fun c2 => ?_)
 ·have h := Aq c2 h
  refine Ab (Aa Ae rfl (qa rfl (qa rfl (Ac ?_))))
  obtain rfl := sj h
  refine Al (sm [] [(4, .e (.one (.pure (.val (.bool false))))), (5, .e (.one (.pure (.val (.int .i64 0)))))] [] rfl rfl) (AA ?_)
  exact ⟨⟨[_, _], ⟨.tmp _ _ rfl, ⟨.tmp _ _ rfl, trivial⟩⟩, rfl⟩, trivial⟩
 ·have h := Ap c2 h
  refine Ab (Aa Ae rfl (BY rfl (qa rfl (Ac ?_))))
  refine As rfl (fun c3 => ?_) (fun c3 => ?_)
  ·have h := Aq c3 h
   refine Ab (Aa Ae rfl (qa rfl (qa rfl (Ac ?_))))
   obtain rfl := sj h
   refine Al (sm [] [(4, .e (.one (.pure (.val (.bool true))))), (5, .e (.one (.pure (.val (.int .i64 0)))))] [] rfl rfl) (AA ?_)
   exact ⟨⟨[_, _], ⟨.tmp _ _ rfl, ⟨.tmp _ _ rfl, trivial⟩⟩, rfl⟩, trivial⟩
  ·have h := Ap c3 h
   refine Ab (Aa Ae rfl (qm rfl (qa rfl (qa rfl (Ac ?_)))))
   obtain rfl := sj h
   refine Al (sm [] [(4, .e (.one (.pure (.val (.bool false))))), (5, .e (.one (.pure (.val (.int .i64 v1.2.2)))))] [] rfl rfl) (AA ?_)
   exact ⟨⟨[_, _], ⟨.tmp _ _ rfl, ⟨.tmp _ _ rfl, trivial⟩⟩, rfl⟩, trivial⟩
set_option maxRecDepth 10000 in
theorem Na (N : Nat) (p0 : Af) (r : ByteArray) (h : Gj N p0 = some r) : AB Try.prog 86 [.e (.agg [.pure (.sl (p0.fBase.map Ag)), .pure (.sl (p0.fNext.map Ag)), .pure (.sl (p0.fHeld.map A6))])] [] (.e (.one (.pure (.val (.string r))))) := by
 unfold Gj at h
 refine Ao (n := 53) (rs := [.tmp 2]) Try.func86 rfl rfl rfl (BE rfl) (BE rfl) rfl fun w0 S0 => ?_
 refine Ab (Aa Ae rfl (qb rfl (qa rfl (Ac (Ab (Aa Ae rfl (qf CA rfl (ql A9 rfl (AT AF rfl (Lo rfl (qf CC rfl (ql Gs rfl (AT Du rfl (Bo rfl ?_))))))))))))))
 obtain ⟨c1, h⟩ := AO h
 refine Jt (.p rfl) rfl rfl rfl Jg V5 VR (BE rfl) WB rfl rfl rfl c1.1 c1.2.1 c1.2.2 (OT A6 _ ((0 : Int))) ?_
 refine qa rfl (Ac (Ab (Ab (Aa Ae rfl (qf CA rfl (ql A9 rfl (AT AF rfl (qm rfl (Ac ?_)))))))))
 refine AS (L := Ef N p0) h (fun v2 => mk [(1, .e (.one (.ptr 1 0))), (3, .e (.one (.own 2001))), (18, .e (.one (.pure (.val (.int .i64 ((p0.fBase.length : Int))))))), (19, .e (.one (.pure (.val (.int .i64 v2.2)))))] [(1, .box [.pure (.sl (p0.fBase.map Ag)), .pure (.sl (p0.fNext.map Ag)), .pure (.sl (p0.fHeld.map A6))]), (2001, .vec 1 (v2.1.map A6))]) (fun v3 => mk [(1, .e (.one (.ptr 1 0))), (3, .e (.one (.own 2002)))] [(1, .box [.pure (.sl (p0.fBase.map Ag)), .pure (.sl (p0.fNext.map Ag)), .pure (.sl (p0.fHeld.map A6))]), (2002, .vec 1 (v3.map A6))]) (fun _ _ => rfl) (sm [(2001, 15)] _ _ rfl rfl) (fun j2 n2 v2 h => ?_) (fun v3 s h hs => ?_)
 ·unfold Ef at h
  refine Ab (Aa Ae rfl (A8 rfl (Ac (Ab ?_))))
  refine As rfl (fun c4 => ?_) (fun c4 => ?_)
  ·have h := Aq c4 h
   refine Au (Ab (AV (Ab (Aa Ae rfl (qm rfl (qa rfl (Ac (Aa Ae rfl (qm rfl (qf CA rfl (ql A9 rfl (qm rfl ?_))))))))))))
   obtain ⟨v5, a5, b5, h⟩ := An h
   refine qi AF Df a5 (Aj b5) rfl (qk Cb rfl (IC Xv Yp rfl (qf By rfl (ql A9 rfl (qm rfl ?_)))))
   obtain ⟨v6, a6, b6, h⟩ := An h
   refine qi AF Df a6 (Aj b6) rfl (qk Cb rfl (Bo rfl (IC Xv Yp rfl (Ex Jg V5 WB rfl ?_))))
   obtain ⟨c7, h⟩ := AO h
   refine DM (f := A6) Jg Jg V5 VR WB c7 rfl (qa rfl (AY (by kernel_rfl) (Aa Ae rfl (Bo rfl (qm rfl (Ac ?_))))))
   exact Aw _ h (sm [(2001, 37)] _ _ rfl rfl)
  ·have h := Ap c4 h
   refine A5 ?_
   exact Aw _ h (sm [(2002, 2001)] _ _ rfl rfl)
 ·refine Al hs (Ab (Ab (Aa Ae rfl (qf CC rfl (ql Gs rfl (AT Du rfl (qm rfl (Ac ?_))))))))
  refine AS (L := Di N p0) h (fun v8 => mk [(3, .e (.one (.own 2003))), (40, .e (.one (.pure (.sl (p0.fHeld.map A6))))), (41, .e (.one (.pure (.val (.int .i64 ((p0.fHeld.length : Int))))))), (42, .e (.one (.pure (.val (.int .i64 v8.2)))))] [(2003, .vec 1 (v8.1.map A6))]) (fun v9 => mk [(3, .e (.one (.own 2004)))] [(2004, .vec 1 (v9.map A6))]) (fun _ _ => rfl) (sm [(2003, 2002)] _ _ rfl rfl) (fun j8 n8 v8 h => ?_) (fun v9 s h hs => ?_)
  ·unfold Di at h
   refine Ab (Aa Ae rfl (A8 rfl (Ac (Ab ?_))))
   refine As rfl (fun c10 => ?_) (fun c10 => ?_)
   ·have h := Aq c10 h
    refine Au (Ab (AV (Ab (Aa Ae rfl ?_))))
    obtain ⟨v11, a11, b11, h⟩ := An h
    refine qi Du Ft a11 (Aj b11) rfl (qk Jz rfl (qa rfl (Ac (Aa Ae rfl (qm rfl (qm rfl (Ex Jg V5 WB rfl ?_)))))))
    obtain ⟨c12, h⟩ := AO h
    refine DM (f := A6) Jg Jg V5 VR WB c12 rfl (qa rfl (Ac (Aa Ae rfl (Bo rfl (qm rfl (Ac ?_))))))
    exact Aw _ h (sm [(2003, 49)] _ _ rfl rfl)
   ·have h := Ap c10 h
    refine A5 ?_
    exact Aw _ h (sm [(2004, 2003)] _ _ rfl rfl)
  ·refine Al hs (Ab (Aa Ae rfl (qm rfl ?_)))
   refine SR v9 (.p rfl) rfl (SK A6 _ _ _) ⟨rfl, trivial⟩ rfl Xi Xh ?_
   refine qa rfl (Ac ?_)
   obtain rfl := sj h
   refine Al (sm [] [(2, .e (.one (.pure (.val (.string ((Cp v9)))))))] [] rfl rfl) (AA ?_)
   exact ⟨⟨[_], ⟨.tmp _ _ rfl, trivial⟩, rfl⟩, trivial⟩
set_option maxRecDepth 10000 in
theorem Q5 (N : Nat) (p0 : Ad) (r : (List Ah)) (h : G5 N p0 = some r) : AB Try.prog 104 [.e (.agg [.pure (.sl (p0.fVersions.map Ag)), .pure (.sl (p0.fNow.map Ag)), .pure (.sl (p0.fTarget.map Ag)), .pure (.sl (p0.fTables.map Ai))])] [(3, r.map Ay)] (.e (.one (.own 0))) := by
 unfold G5 at h
 refine Ao (n := 54) (rs := [.tmp 2]) Try.func104 rfl rfl rfl (BE rfl) (BE rfl) rfl fun w0 S0 => ?_
 refine Ab (Aa Ae rfl (qb rfl (qa rfl (Ac (Ab (Aa Ae rfl (qa rfl (Ac (Ab (Ab (Aa Ae rfl (qf Bu rfl (ql A9 rfl (AT AF rfl (qm rfl (Ac ?_))))))))))))))))
 refine AS (L := CU N p0) h (fun v1 => mk [(1, .e (.one (.ptr 1 0))), (3, .e (.one (.own 2001))), (10, .e (.one (.pure (.sl (p0.fVersions.map Ag))))), (11, .e (.one (.pure (.val (.int .i64 ((p0.fVersions.length : Int))))))), (12, .e (.one (.pure (.val (.int .i64 v1.2)))))] [(1, .box [.pure (.sl (p0.fVersions.map Ag)), .pure (.sl (p0.fNow.map Ag)), .pure (.sl (p0.fTarget.map Ag)), .pure (.sl (p0.fTables.map Ai))]), (2001, .vec 3 (v1.1.map Ay))]) (fun v2 => mk [(1, .e (.one (.ptr 1 0))), (3, .e (.one (.own 2002)))] [(1, .box [.pure (.sl (p0.fVersions.map Ag)), .pure (.sl (p0.fNow.map Ag)), .pure (.sl (p0.fTarget.map Ag)), .pure (.sl (p0.fTables.map Ai))]), (2002, .vec 3 (v2.map Ay))]) (fun _ _ => rfl) ((B8 3 2005 3 rfl rfl rfl).trans (sm [(2001, 2005)] _ _ rfl rfl)) (fun j1 n1 v1 h => ?_) (fun v2 s h hs => ?_)
 ·unfold CU at h
  refine Ab (Aa Ae rfl (A8 rfl (Ac (Ab ?_))))
  refine As rfl (fun c3 => ?_) (fun c3 => ?_)
  ·have h := Aq c3 h
   refine Au (Ab (AV (Ab (Aa Ae rfl (qm rfl ?_)))))
   obtain ⟨v4, a4, b4, h⟩ := An h
   refine qi AF Df a4 (Aj b4) rfl (qk Cb rfl (qa rfl (qa rfl (Ac (Ab (Aa Ae rfl (qm rfl (qm rfl (Ac ?_)))))))))
   refine AS (L := D6 N v1 v4) h (fun v5 => mk [(1, .e (.one (.ptr 1 0))), (3, .e (.one (.own 2003))), (4, .e (.one (.pure (.val (.int .i64 v1.2))))), (10, .e (.one (.pure (.sl (p0.fVersions.map Ag))))), (11, .e (.one (.pure (.val (.int .i64 ((p0.fVersions.length : Int))))))), (12, .e (.one (.pure (.val (.int .i64 v1.2))))), (17, .e (.one (.pure (.val (.int .i64 v4))))), (18, .e (.one (.pure (.val (.int .i64 v5.2)))))] [(1, .box [.pure (.sl (p0.fVersions.map Ag)), .pure (.sl (p0.fNow.map Ag)), .pure (.sl (p0.fTarget.map Ag)), .pure (.sl (p0.fTables.map Ai))]), (2003, .vec 3 (v5.1.map Ay))]) (fun v6 => mk [(1, .e (.one (.ptr 1 0))), (3, .e (.one (.own 2004))), (10, .e (.one (.pure (.sl (p0.fVersions.map Ag))))), (11, .e (.one (.pure (.val (.int .i64 ((p0.fVersions.length : Int))))))), (12, .e (.one (.pure (.val (.int .i64 v1.2)))))] [(1, .box [.pure (.sl (p0.fVersions.map Ag)), .pure (.sl (p0.fNow.map Ag)), .pure (.sl (p0.fTarget.map Ag)), .pure (.sl (p0.fTables.map Ai))]), (2004, .vec 3 (v6.map Ay))]) (fun _ _ => rfl) (sm [(2003, 2001)] _ _ rfl rfl) (fun j5 n5 v5 h => ?_) (fun v6 s h hs => ?_)
   ·unfold D6 at h
    refine Ab (Aa Ae rfl (A8 rfl (Ac (Ab ?_))))
    refine As rfl (fun c7 => ?_) (fun c7 => ?_)
    ·have h := Aq c7 h
     refine Au (Ab (AV (Ab (Aa Ae rfl (qm rfl (qa rfl (Ac (Aa Ae rfl (qm rfl (qm rfl (qm rfl (AZ He Ox rfl (Ex CI Dk He rfl ?_)))))))))))))
     obtain ⟨c8, h⟩ := AO h
     refine DM (f := Ay) CI CI Dk Pu He c8 rfl (qa rfl (Ac (Aa Ae rfl (Bo rfl (qm rfl (Ac ?_))))))
     exact Aw _ h (sm [(2003, 26)] _ _ rfl rfl)
    ·have h := Ap c7 h
     refine A5 ?_
     exact Aw _ h (sm [(2004, 2003)] _ _ rfl rfl)
   ·refine Al hs (Aa Ae rfl (Bo rfl (qm rfl (Ac ?_))))
    exact Aw _ h (sm [(2001, 2004)] _ _ rfl rfl)
  ·have h := Ap c3 h
   refine A5 ?_
   exact Aw _ h (sm [(2002, 2001)] _ _ rfl rfl)
 ·refine Al hs (Ab (Ab (Aa Ae rfl (qf Bu rfl (ql A9 rfl (AT AF rfl (qm rfl (Ac ?_))))))))
  refine AS (L := Cc N p0) h (fun v9 => mk [(1, .e (.one (.ptr 1 0))), (3, .e (.one (.own 2006))), (31, .e (.one (.pure (.val (.int .i64 ((p0.fVersions.length : Int))))))), (32, .e (.one (.pure (.val (.int .i64 v9.2)))))] [(1, .box [.pure (.sl (p0.fVersions.map Ag)), .pure (.sl (p0.fNow.map Ag)), .pure (.sl (p0.fTarget.map Ag)), .pure (.sl (p0.fTables.map Ai))]), (2006, .vec 3 (v9.1.map Ay))]) (fun v10 => mk [(1, .e (.one (.ptr 1 0))), (3, .e (.one (.own 2007)))] [(1, .box [.pure (.sl (p0.fVersions.map Ag)), .pure (.sl (p0.fNow.map Ag)), .pure (.sl (p0.fTarget.map Ag)), .pure (.sl (p0.fTables.map Ai))]), (2007, .vec 3 (v10.map Ay))]) (fun _ _ => rfl) (sm [(2006, 2002)] _ _ rfl rfl) (fun j9 n9 v9 h => ?_) (fun v10 s h hs => ?_)
  ·unfold Cc at h
   refine Ab (Aa Ae rfl (A8 rfl (Ac (Ab ?_))))
   refine As rfl (fun c11 => ?_) (fun c11 => ?_)
   ·have h := Aq c11 h
    refine Au (Ab (AV (Ab (Aa Ae rfl (qm rfl (qa rfl (Ac (Aa Ae rfl (qm rfl (qm rfl (AZ He Ox rfl (Ex CI Dk He rfl ?_))))))))))))
    obtain ⟨c12, h⟩ := AO h
    refine DM (f := Ay) CI CI Dk Pu He c12 rfl (qa rfl (Ac (Aa Ae rfl (Bo rfl (qm rfl (Ac ?_))))))
    exact Aw _ h (sm [(2006, 39)] _ _ rfl rfl)
   ·have h := Ap c11 h
    refine A5 ?_
    exact Aw _ h (sm [(2007, 2006)] _ _ rfl rfl)
  ·refine Al hs (Ab (Ab (Aa Ae rfl (qf CG rfl (ql GE rfl (AT DQ rfl (qm rfl (Ac ?_))))))))
   refine AS (L := Br N p0) h (fun v13 => mk [(3, .e (.one (.own 2008))), (43, .e (.one (.pure (.val (.int .i64 ((p0.fTables.length : Int))))))), (44, .e (.one (.pure (.val (.int .i64 v13.2)))))] [(2008, .vec 3 (v13.1.map Ay))]) (fun v14 => mk [(3, .e (.one (.own 2009)))] [(2009, .vec 3 (v14.map Ay))]) (fun _ _ => rfl) (sm [(2008, 2007)] _ _ rfl rfl) (fun j13 n13 v13 h => ?_) (fun v14 s h hs => ?_)
   ·unfold Br at h
    refine Ab (Aa Ae rfl (A8 rfl (Ac (Ab ?_))))
    refine As rfl (fun c15 => ?_) (fun c15 => ?_)
    ·have h := Aq c15 h
     refine Au (Ab (AV (Ab (Aa Ae rfl (qm rfl (qa rfl (Ac (Aa Ae rfl (qm rfl (qm rfl (AZ He Ox rfl (Ex CI Dk He rfl ?_))))))))))))
     obtain ⟨c16, h⟩ := AO h
     refine DM (f := Ay) CI CI Dk Pu He c16 rfl (qa rfl (Ac (Aa Ae rfl (Bo rfl (qm rfl (Ac ?_))))))
     exact Aw _ h (sm [(2008, 51)] _ _ rfl rfl)
    ·have h := Ap c15 h
     refine A5 ?_
     exact Aw _ h (sm [(2009, 2008)] _ _ rfl rfl)
   ·refine Al hs (Ab (Aa Ae rfl (qm rfl (qa rfl (Ac ?_)))))
    obtain rfl := sj h
    refine Al (sm [(1000, 2009)] [(2, .e (.one (.own 1000)))] [(1000, .vec 3 (v14.map Ay))] rfl rfl) (AA ?_)
    exact ⟨⟨[_], ⟨.tmp _ _ rfl, trivial⟩, rfl⟩, ⟨rfl, trivial⟩⟩
set_option maxRecDepth 10000 in
theorem Nz (N : Nat) (p0 : Af) (r : Af) (h : FA N p0 = some r) : AB Try.prog 93 [.e (.agg [.pure (.sl (p0.fBase.map Ag)), .pure (.sl (p0.fNext.map Ag)), .pure (.sl (p0.fHeld.map A6))])] [(1, r.fBase.map Ag), (1, r.fNext.map Ag), (1, r.fHeld.map A6)] (.e (.agg [.own 0, .own 1, .own 2])) := by
 unfold FA at h
 refine Ao (n := 13) (rs := [.cell 2 43]) Try.func93 rfl rfl rfl (BE rfl) (BE rfl) rfl fun w0 S0 => ?_
 refine Ab (Aa Ae rfl (qb rfl (qz CF rfl (Ac (Ab (Aa Ae rfl (qf CA rfl (ql A9 rfl ?_))))))))
 obtain ⟨v1, a1, h⟩ := bind_some h
 refine AJ [2001] (DD N p0.fBase v1 a1) Sn rfl (qf By rfl (ql A9 rfl ?_))
 obtain ⟨v2, a2, h⟩ := bind_some h
 refine AJ [2002] (DD N p0.fNext v2 a2) Sn rfl (qf CC rfl (ql Gs rfl ?_))
 obtain ⟨v3, a3, h⟩ := bind_some h
 refine AJ [2003] (E5 N p0.fHeld v3 a3) W8 rfl (AZ CF FN rfl (qs AQ rfl (AY (by kernel_rfl) ?_)))
 obtain rfl := sj h
 refine Al (sm [(1000, 2001), (1001, 2002), (1002, 2003)] [(2, .e (.one (.ptr 2 0)))] [(2, .box [.own 1000, .own 1001, .own 1002]), (1000, .vec 1 (v1.map Ag)), (1001, .vec 1 (v2.map Ag)), (1002, .vec 1 (v3.map A6))] rfl rfl) (AA ?_)
 exact ⟨⟨[_], ⟨.cellN _ _ _ _ _ _ _ rfl rfl Be AQ rfl rfl (FT rfl), trivial⟩, rfl⟩, ⟨rfl, rfl, rfl, trivial⟩⟩
set_option maxRecDepth 10000 in
theorem Kr (N : Nat) (p0 : AG) (r : Bool) (h : E1 N p0 = some r) : AB Try.prog 119 [.e (.agg [.pure (.val (.int .i64 p0.fKind)), .pure (.val (.int .i64 p0.fFrom)), .pure (.val (.int .i64 p0.fTo)), .pure (.val (.bool p0.fAware)), .pure (.sl (p0.fOK.map (Es eB))), .pure (.sl (p0.fRewrite.map (Es eB)))])] [] (.e (.one (.pure (.val (.bool r))))) := by
 unfold E1 at h
 refine Ao (n := 11) (rs := [.tmp 2]) Try.func119 rfl rfl rfl (BE rfl) (BE rfl) rfl fun w0 S0 => ?_
 refine Ab (Aa Ae rfl (qb rfl (qa rfl (Ac ?_))))
 refine AW h (fun v1 => mk [(2, .e (.one (.pure (.val (.bool v1)))))] []) (fun j1 h => ?_) (fun v1 h => ?_)
 ·refine Aa Ae rfl (qf Fr rfl (ql Cb rfl (BY rfl (qm rfl ?_))))
  refine AI (t := 6) rfl (fun c2 => ?_) (fun c2 => ?_)
  ·have h := Aq c2 h
   refine qn rfl (qn rfl (qn rfl (qp rfl (qa rfl (Ac ?_)))))
   exact Aw _ h (sm [] _ _ rfl rfl)
  ·have h := Ap c2 h
   refine qf Fr rfl (ql Cb rfl (BY rfl (qp rfl (qa rfl (Ac ?_)))))
   exact Aw _ h (sm [] _ _ rfl rfl)
 ·obtain rfl := sj h
  refine Al (sm [] [(2, .e (.one (.pure (.val (.bool v1)))))] [] rfl rfl) (AA ?_)
  exact ⟨⟨[_], ⟨.tmp _ _ rfl, trivial⟩, rfl⟩, trivial⟩
set_option maxRecDepth 10000 in
theorem Pd (N : Nat) (p0 : Ad) (p1 : Af) (p2 : Ah) (r : Bool × (List Int) × (List Int)) (h : GX N p0 p1 p2 = some r) : FG Try.prog 112 [.e (.agg [.pure (.sl (p0.fVersions.map Ag)), .pure (.sl (p0.fNow.map Ag)), .pure (.sl (p0.fTarget.map Ag)), .pure (.sl (p0.fTables.map Ai))]), .e (.one (.ptr 90000 0)), .e (.agg [.pure (.val (.int .i64 p2.fKind)), .pure (.val (.int .i64 p2.fIndex)), .pure (.val (.int .i64 p2.fVersion))])] [(.box [.own 90001, .own 90002, .own 90003], .box [.own 90001, .own 90002, .own 90003]), (.vec 1 (p1.fBase.map Ag), .vec 1 (p1.fBase.map Ag)), (.vec 1 (p1.fNext.map Ag), .vec 1 (r.2.1.map Ag)), (.vec 1 (p1.fHeld.map A6), .vec 1 (r.2.2.map A6))] [] (.e (.one (.pure (.val (.bool r.1))))) := by
 unfold GX at h
 refine GC (n := 70) (rs := [.tmp 6]) Try.func112 rfl rfl rfl (BE rfl) (BE rfl) rfl rfl (BE rfl) rfl (BE rfl) fun w0 S0 GL => ?_
 refine Al (sm [] [(0, .e (.agg [.pure (.sl (p0.fVersions.map Ag)), .pure (.sl (p0.fNow.map Ag)), .pure (.sl (p0.fTarget.map Ag)), .pure (.sl (p0.fTables.map Ai))])), (1, .e (.one (.ptr 90000 0))), (2, .e (.agg [.pure (.val (.int .i64 p2.fKind)), .pure (.val (.int .i64 p2.fIndex)), .pure (.val (.int .i64 p2.fVersion))]))] [(90000, .box [.own 90001, .own 90002, .own 90003]), (90001, .vec 1 (p1.fBase.map Ag)), (90002, .vec 1 (p1.fNext.map Ag)), (90003, .vec 1 (p1.fHeld.map A6))] rfl rfl) (Ab (Aa Ae rfl (qb rfl (qb rfl (qa rfl (Ac (Ab ?_)))))))
 refine AW h (fun v1 => mk [(1, .e (.one (.ptr 90000 0))), (3, .e (.one (.ptr 3 0))), (5, .e (.one (.ptr 5 0))), (30, .e (.one (.pure (.val (.bool v1)))))] [(3, .box [.pure (.sl (p0.fVersions.map Ag)), .pure (.sl (p0.fNow.map Ag)), .pure (.sl (p0.fTarget.map Ag)), .pure (.sl (p0.fTables.map Ai))]), (5, .box [.pure (.val (.int .i64 p2.fKind)), .pure (.val (.int .i64 p2.fIndex)), .pure (.val (.int .i64 p2.fVersion))]), (90000, .box [.own 90001, .own 90002, .own 90003]), (90001, .vec 1 (p1.fBase.map Ag)), (90002, .vec 1 (p1.fNext.map Ag)), (90003, .vec 1 (p1.fHeld.map A6))]) (fun j1 h => ?_) (fun v1 h => ?_)
 ·refine Aa Ae rfl (qm rfl (Uk rfl (qf By rfl (ql A9 rfl (qf EA rfl (ql Cb rfl ?_))))))
  obtain ⟨v2, a2, b2, h⟩ := An h
  refine qI AF Df a2 (Aj b2) rfl (qj Cb (Aj b2) rfl (EE rfl (qm rfl ?_)))
  refine AI (t := 18) rfl (fun c3 => ?_) (fun c3 => ?_)
  ·have h := Aq c3 h
   refine qn rfl (qn rfl (qn rfl (qn rfl (qn rfl (qn rfl (qn rfl (qn rfl (qn rfl (qn rfl (qn rfl (qp rfl (AY (by kernel_rfl) ?_))))))))))))
   exact Aw _ h (sm [] _ _ rfl rfl)
  ·have h := Ap c3 h
   refine qm rfl (Uk rfl (qf CA rfl (ql A9 rfl (qf EA rfl (ql Cb rfl ?_)))))
   obtain ⟨v4, a4, b4, h⟩ := An h
   refine qI AF Df a4 (Aj b4) rfl (qj Cb (Aj b4) rfl (qf Gb rfl (ql Cb rfl (BY rfl (qp rfl (AY (by kernel_rfl) ?_))))))
   exact Aw _ h (sm [] _ _ rfl rfl)
 ·refine As rfl (fun c5 => ?_) (fun c5 => ?_)
  ·have h := Aq c5 h
   refine Ab (Aa Ae rfl (qa rfl (Ac ?_)))
   obtain rfl := sj h
   refine Al (sm [] [(6, .e (.one (.pure (.val (.bool false)))))] [(90000, .box [.own 90001, .own 90002, .own 90003]), (90001, .vec 1 (p1.fBase.map Ag)), (90002, .vec 1 (p1.fNext.map Ag)), (90003, .vec 1 (p1.fHeld.map A6))] rfl rfl) (AA ?_)
   exact ⟨⟨[_], ⟨.tmp _ _ rfl, trivial⟩, rfl⟩, ⟨rfl, rfl, rfl, rfl, trivial⟩, trivial⟩
  ·have h := Ap c5 h
   refine Au (Ab (Aa Ae rfl (qm rfl (Uk rfl (qf By rfl (ql A9 rfl (qf EA rfl (ql Cb rfl (qf Gb rfl (ql Cb rfl ?_))))))))))
   obtain ⟨v6, a6, b6, h⟩ := An h
   refine qI AF Df a6 (Aj b6) rfl ?_
   refine Ee rfl rfl rfl rfl (Aj b6) rfl Df rfl (BE rfl) (DS Ag p1.fNext _ p2.fVersion) ?_
   refine AY (by kernel_rfl) (Ab (Ab (Aa Ae rfl (qf CG rfl (ql GE rfl (AT DQ rfl (qm rfl (Ac ?_))))))))
   refine AS (L := Dt N p0 p2) h (fun v7 => mk [(1, .e (.one (.ptr 90000 0))), (5, .e (.one (.ptr 5 0))), (41, .e (.one (.pure (.sl (p0.fTables.map Ai))))), (42, .e (.one (.pure (.val (.int .i64 ((p0.fTables.length : Int))))))), (43, .e (.one (.pure (.val (.int .i64 v7.2)))))] [(5, .box [.pure (.val (.int .i64 p2.fKind)), .pure (.val (.int .i64 p2.fIndex)), .pure (.val (.int .i64 p2.fVersion))]), (90000, .box [.own 90001, .own 90002, .own 90003]), (90001, .vec 1 (p1.fBase.map Ag)), (90002, .vec 1 ((p1.fNext.set ((p2.fIndex).toNat) p2.fVersion).map Ag)), (90003, .vec 1 (v7.1.map A6))]) (fun v8 => mk [] [(90000, .box [.own 90001, .own 90002, .own 90003]), (90001, .vec 1 (p1.fBase.map Ag)), (90002, .vec 1 ((p1.fNext.set ((p2.fIndex).toNat) p2.fVersion).map Ag)), (90003, .vec 1 (v8.map A6))]) (fun _ _ => rfl) (sm [] _ _ rfl rfl) (fun j7 n7 v7 h => ?_) (fun v8 s h hs => ?_)
   ·unfold Dt at h
    refine Ab (Aa Ae rfl (A8 rfl (Ac (Ab ?_))))
    refine As rfl (fun c9 => ?_) (fun c9 => ?_)
    ·have h := Aq c9 h
     refine Au ?_
     refine AW h (fun v10 => mk [(1, .e (.one (.ptr 90000 0))), (5, .e (.one (.ptr 5 0))), (41, .e (.one (.pure (.sl (p0.fTables.map Ai))))), (42, .e (.one (.pure (.val (.int .i64 ((p0.fTables.length : Int))))))), (43, .e (.one (.pure (.val (.int .i64 v7.2)))))] [(5, .box [.pure (.val (.int .i64 p2.fKind)), .pure (.val (.int .i64 p2.fIndex)), .pure (.val (.int .i64 p2.fVersion))]), (90000, .box [.own 90001, .own 90002, .own 90003]), (90001, .vec 1 (p1.fBase.map Ag)), (90002, .vec 1 ((p1.fNext.set ((p2.fIndex).toNat) p2.fVersion).map Ag)), (90003, .vec 1 (v10.map A6))]) (fun j10 h => ?_) (fun v10 h => ?_)
     ·refine AV (Ab (Aa Ae rfl (qm rfl ?_)))
      obtain ⟨v11, a11, b11, h⟩ := An h
      refine qi DQ DV a11 (Aj b11) rfl (qK GK DV rfl (qz Kc rfl (qa rfl (qs DV rfl (Ac ?_)))))
      refine AW h (fun v12 => mk [(1, .e (.one (.ptr 90000 0))), (5, .e (.one (.ptr 5 0))), (7, .e (.one (.pure (.val (.int .i64 v7.2))))), (41, .e (.one (.pure (.sl (p0.fTables.map Ai))))), (42, .e (.one (.pure (.val (.int .i64 ((p0.fTables.length : Int))))))), (43, .e (.one (.pure (.val (.int .i64 v7.2))))), (56, .e (.one (.pure (.val (.bool v12)))))] [(5, .box [.pure (.val (.int .i64 p2.fKind)), .pure (.val (.int .i64 p2.fIndex)), .pure (.val (.int .i64 p2.fVersion))]), (90000, .box [.own 90001, .own 90002, .own 90003]), (90001, .vec 1 (p1.fBase.map Ag)), (90002, .vec 1 ((p1.fNext.set ((p2.fIndex).toNat) p2.fVersion).map Ag)), (90003, .vec 1 (v7.1.map A6))]) (fun j12 h => ?_) (fun v12 h => ?_)
      ·refine Aa Ae rfl (qf CX rfl (ql Cb rfl (qf EA rfl (ql Cb rfl (BY rfl (qm rfl ?_))))))
       refine AI (t := 53) rfl (fun c13 => ?_) (fun c13 => ?_)
       ·have h := Aq c13 h
        refine qL GK DV rfl ?_
        obtain ⟨v14, a14, h⟩ := bind_some h
        refine AJ [] (Kr N v11 v14 a14) Vh rfl (qp rfl (Ac ?_))
        exact Aw _ h (sm [] _ _ rfl rfl)
       ·have h := Ap c13 h
        refine qn rfl (qn rfl (qp rfl (Ac ?_)))
        exact Aw _ h (sm [] _ _ rfl rfl)
      ·refine As rfl (fun c15 => ?_) (fun c15 => ?_)
       ·have h := Aq c15 h
        refine Aa Ae rfl (qm rfl (Uk rfl (qf CC rfl (ql Gs rfl (qm rfl ?_)))))
        obtain ⟨v16, a16, b16, h⟩ := An h
        refine qI Du Ft a16 (Aj b16) rfl (qj Jz (Aj b16) rfl (qf Gb rfl (ql Cb rfl ?_)))
        obtain ⟨c17, h⟩ := AO h
        refine Id rfl c17 (Tf rfl ?_)
        obtain ⟨v18, a18, b18, h⟩ := An h
        refine qI Du Ft a18 (Aj b18) rfl ?_
        refine Ee rfl rfl rfl rfl (Aj b18) rfl Ft rfl (BE rfl) (DS A6 v7.1 _ ((Nq .u8 v16 ((DA .u8 1 p2.fVersion))))) ?_
        refine AY (by kernel_rfl) ?_
        exact Aw _ h (sm [] _ _ rfl rfl)
       ·have h := Ap c15 h
        refine Au ?_
        exact Aw _ h (sm [] _ _ rfl rfl)
     ·refine Aa Ae rfl (Bo rfl (qm rfl (Ac ?_)))
      exact Aw _ h (sm [] _ _ rfl rfl)
    ·have h := Ap c9 h
     refine A5 ?_
     exact Aw _ h (sm [] _ _ rfl rfl)
   ·refine Al hs (Ab (Aa Ae rfl (qa rfl (Ac ?_))))
    obtain rfl := sj h
    refine Al (sm [] [(6, .e (.one (.pure (.val (.bool true)))))] [(90000, .box [.own 90001, .own 90002, .own 90003]), (90001, .vec 1 (p1.fBase.map Ag)), (90002, .vec 1 ((p1.fNext.set ((p2.fIndex).toNat) p2.fVersion).map Ag)), (90003, .vec 1 (v8.map A6))] rfl rfl) (AA ?_)
    exact ⟨⟨[_], ⟨.tmp _ _ rfl, trivial⟩, rfl⟩, ⟨rfl, rfl, rfl, rfl, trivial⟩, trivial⟩
set_option maxRecDepth 10000 in
theorem M6 (N : Nat) (p0 : Af) (p1 : Int) (r : Int) (h : Fi N p0 p1 = some r) : AB Try.prog 120 [.e (.agg [.pure (.sl (p0.fBase.map Ag)), .pure (.sl (p0.fNext.map Ag)), .pure (.sl (p0.fHeld.map A6))]), .e (.one (.pure (.val (.int .i64 p1))))] [] (.e (.one (.pure (.val (.int .u8 r))))) := by
 unfold Fi at h
 refine Ao (n := 27) (rs := [.tmp 4]) Try.func120 rfl rfl rfl (BE rfl) (BE rfl) rfl fun w0 S0 => ?_
 refine Ab (Aa Ae rfl (qb rfl (qa rfl (Ac (Ab (Aa Ae rfl (qf CA rfl (ql A9 rfl (qm rfl ?_)))))))))
 obtain ⟨v1, a1, b1, h⟩ := An h
 refine qi AF Df a1 (Aj b1) rfl (qk Cb rfl ?_)
 obtain ⟨c2, h⟩ := AO h
 refine Id rfl c2 (qa rfl (Ac ?_))
 refine AW h (fun v3 => mk [(5, .e (.one (.pure (.val (.int .u8 v3)))))] []) (fun j3 h => ?_) (fun v3 h => ?_)
 ·refine Ab (Aa Ae rfl (qf By rfl (ql A9 rfl (qm rfl ?_))))
  obtain ⟨v4, a4, b4, h⟩ := An h
  refine qi AF Df a4 (Aj b4) rfl (qk Cb rfl (EE rfl (Ac ?_)))
  refine As rfl (fun c5 => ?_) (fun c5 => ?_)
  ·have h := Aq c5 h
   refine Aa Ae rfl (qm rfl (qf By rfl (ql A9 rfl (qm rfl ?_))))
   obtain ⟨v6, a6, b6, h⟩ := An h
   refine qi AF Df a6 (Aj b6) rfl (qk Cb rfl ?_)
   obtain ⟨c7, h⟩ := AO h
   refine Id rfl c7 (Tf rfl (qa rfl (Ac ?_)))
   exact Aw _ h (sm [] _ _ rfl rfl)
  ·have h := Ap c5 h
   refine Au ?_
   exact Aw _ h (sm [] _ _ rfl rfl)
 ·refine Ab (Aa Ae rfl (qm rfl (qa rfl (Ac ?_))))
  obtain rfl := sj h
  refine Al (sm [] [(4, .e (.one (.pure (.val (.int .u8 v3)))))] [] rfl rfl) (AA ?_)
  exact ⟨⟨[_], ⟨.tmp _ _ rfl, trivial⟩, rfl⟩, trivial⟩
set_option maxRecDepth 10000 in
theorem HF (N : Nat) (p0 : Int) (r : Int) (h : CM N p0 = some r) : AB Try.prog 123 [.e (.one (.pure (.val (.int .u8 p0))))] [] (.e (.one (.pure (.val (.int .i64 r))))) := by
 unfold CM at h
 refine Ao (n := 6) (rs := [.tmp 2]) Try.func123 rfl rfl rfl (BE rfl) (BE rfl) rfl fun w0 S0 => ?_
 refine Ab (Aa Ae rfl (qa rfl (Ac (Ab (Aa Ae rfl (qm rfl ?_))))))
 obtain ⟨v1, a1, h⟩ := bind_some h
 refine R0 (.p rfl) rfl rfl Xh a1 ?_
 refine IC Wa Vb rfl (qa rfl (Ac ?_))
 obtain rfl := sj h
 refine Al (sm [] [(2, .e (.one (.pure (.val (.int .i64 ((IntKind.wrap .i64 v1)))))))] [] rfl rfl) (AA ?_)
 exact ⟨⟨[_], ⟨.tmp _ _ rfl, trivial⟩, rfl⟩, trivial⟩
set_option maxRecDepth 10000 in
theorem Lu (N : Nat) (p0 : AG) (p1 : Int) (p2 : Int) (r : Bool) (h : Fg N p0 p1 p2 = some r) : AB Try.prog 121 [.e (.agg [.pure (.val (.int .i64 p0.fKind)), .pure (.val (.int .i64 p0.fFrom)), .pure (.val (.int .i64 p0.fTo)), .pure (.val (.bool p0.fAware)), .pure (.sl (p0.fOK.map (Es eB))), .pure (.sl (p0.fRewrite.map (Es eB)))]), .e (.one (.pure (.val (.int .u8 p1)))), .e (.one (.pure (.val (.int .i64 p2))))] [] (.e (.one (.pure (.val (.bool r))))) := by
 unfold Fg at h
 refine Ao (n := 25) (rs := [.tmp 6]) Try.func121 rfl rfl rfl (BE rfl) (BE rfl) rfl fun w0 S0 => ?_
 refine Ab (Aa Ae rfl (qb rfl (qa rfl (Ac (Ab (Ab (Aa Ae rfl (qm rfl (qa rfl (Ac ?_))))))))))
 refine AS (L := Dc N p0 p2) h (fun v1 => mk [(2, .e (.one (.pure (.val (.int .i64 p2))))), (3, .e (.one (.ptr 3 0))), (7, .e (.one (.pure (.val (.int .u8 v1)))))] [(3, .box [.pure (.val (.int .i64 p0.fKind)), .pure (.val (.int .i64 p0.fFrom)), .pure (.val (.int .i64 p0.fTo)), .pure (.val (.bool p0.fAware)), .pure (.sl (p0.fOK.map (Es eB))), .pure (.sl (p0.fRewrite.map (Es eB)))])]) (fun v2 => mk [] []) (fun _ _ => rfl) (sm [] _ _ rfl rfl) (fun j1 n1 v1 h => ?_) (fun v2 s h hs => ?_)
 ·unfold Dc at h
  refine Ab (Ab (Aa Ae rfl (qm rfl (Cn rfl (Ac ?_)))))
  refine As rfl (fun c3 => ?_) (fun c3 => ?_)
  ·have h := Aq c3 h
   refine Au (Ab (AV (Ab (Aa Ae rfl (qf Gd rfl (ql Jo rfl (qm rfl ?_)))))))
   obtain ⟨v4, a4, h⟩ := bind_some h
   refine AJ [] (HF N v1 v4 a4) W4 rfl ?_
   obtain ⟨v5, a5, b5, h⟩ := An h
   refine qi FR Mk a5 (Aj b5) rfl (qk OS rfl (qm rfl ?_))
   obtain ⟨v6, a6, b6, h⟩ := An h
   refine qi F6 Pw a6 (Aj b6) rfl (qk Rb rfl (CE rfl (AY (by kernel_rfl) ?_)))
   refine As rfl (fun c7 => ?_) (fun c7 => ?_)
   ·have h := Aq c7 h
    refine Ab (Aa Ae rfl (qa rfl (Ac ?_)))
    obtain rfl := sj h
    refine Al (sm [] [(6, .e (.one (.pure (.val (.bool false)))))] [] rfl rfl) (AA ?_)
    exact ⟨⟨[_], ⟨.tmp _ _ rfl, trivial⟩, rfl⟩, trivial⟩
   ·have h := Ap c7 h
    refine Au (Aa Ae rfl (qm rfl (qm rfl (PL rfl (L3 rfl (qa rfl (Ac ?_)))))))
    exact Aw _ h (sm [] _ _ rfl rfl)
  ·have h := Ap c3 h
   refine A5 ?_
   exact Aw _ h (sm [] _ _ rfl rfl)
 ·refine Al hs (Ab (Aa Ae rfl (qa rfl (Ac ?_))))
  obtain rfl := sj h
  refine Al (sm [] [(6, .e (.one (.pure (.val (.bool true)))))] [] rfl rfl) (AA ?_)
  exact ⟨⟨[_], ⟨.tmp _ _ rfl, trivial⟩, rfl⟩, trivial⟩
set_option maxRecDepth 10000 in
theorem O1 (N : Nat) (p0 : Ad) (p1 : Af) (p2 : Int) (r : Bool × (List Int)) (h : F5 N p0 p1 p2 = some r) : FG Try.prog 113 [.e (.agg [.pure (.sl (p0.fVersions.map Ag)), .pure (.sl (p0.fNow.map Ag)), .pure (.sl (p0.fTarget.map Ag)), .pure (.sl (p0.fTables.map Ai))]), .e (.one (.ptr 90000 0)), .e (.one (.pure (.val (.int .i64 p2))))] [(.box [.own 90001, .own 90002, .own 90003], .box [.own 90001, .own 90002, .own 90003]), (.vec 1 (p1.fBase.map Ag), .vec 1 (p1.fBase.map Ag)), (.vec 1 (p1.fNext.map Ag), .vec 1 (p1.fNext.map Ag)), (.vec 1 (p1.fHeld.map A6), .vec 1 (r.2.map A6))] [] (.e (.one (.pure (.val (.bool r.1))))) := by
 unfold F5 at h
 refine GC (n := 68) (rs := [.tmp 6]) Try.func113 rfl rfl rfl (BE rfl) (BE rfl) rfl rfl (BE rfl) rfl (BE rfl) fun w0 S0 GL => ?_
 refine Al (sm [] [(0, .e (.agg [.pure (.sl (p0.fVersions.map Ag)), .pure (.sl (p0.fNow.map Ag)), .pure (.sl (p0.fTarget.map Ag)), .pure (.sl (p0.fTables.map Ai))])), (1, .e (.one (.ptr 90000 0))), (2, .e (.one (.pure (.val (.int .i64 p2)))))] [(90000, .box [.own 90001, .own 90002, .own 90003]), (90001, .vec 1 (p1.fBase.map Ag)), (90002, .vec 1 (p1.fNext.map Ag)), (90003, .vec 1 (p1.fHeld.map A6))] rfl rfl) (Ab (Aa Ae rfl (qb rfl (qa rfl (Ac (Ab (Aa Ae rfl (qf CG rfl (ql GE rfl (qm rfl ?_))))))))))
 obtain ⟨v1, a1, b1, h⟩ := An h
 refine qi DQ DV a1 (Aj b1) rfl (qK GK DV rfl (qz Kc rfl (qs DV rfl (Ac (Ab (Ab (Aa Ae rfl (qL GK DV rfl ?_))))))))
 obtain ⟨v2, a2, h⟩ := bind_some h
 refine AJ [] (Kr N v1 v2 a2) Vh rfl (CE rfl (Ac ?_))
 refine As rfl (fun c3 => ?_) (fun c3 => ?_)
 ·have h := Aq c3 h
  refine Ab (Aa Ae rfl (qa rfl (Ac ?_)))
  obtain rfl := sj h
  refine Al (sm [] [(6, .e (.one (.pure (.val (.bool false)))))] [(90000, .box [.own 90001, .own 90002, .own 90003]), (90001, .vec 1 (p1.fBase.map Ag)), (90002, .vec 1 (p1.fNext.map Ag)), (90003, .vec 1 (p1.fHeld.map A6))] rfl rfl) (AA ?_)
  exact ⟨⟨[_], ⟨.tmp _ _ rfl, trivial⟩, rfl⟩, ⟨rfl, rfl, rfl, rfl, trivial⟩, trivial⟩
 ·have h := Ap c3 h
  refine Au (Ab (Aa Ae rfl (qm rfl (Uk rfl (qL Be AQ rfl (qf CX rfl (ql Cb rfl ?_)))))))
  obtain ⟨v4, a4, h⟩ := bind_some h
  refine EB [] [90001, 90002, 90003] (M6 N p1 v1.fFrom v4 a4) WU Db rfl (qa rfl (AY (by kernel_rfl) (Ab (Aa Ae rfl (qm rfl (Uk rfl (qf CC rfl (ql Gs rfl (qm rfl ?_)))))))))
  obtain ⟨v5, a5, b5, h⟩ := An h
  refine qI Du Ft a5 (Aj b5) rfl (qj Jz (Aj b5) rfl (qm rfl (HN rfl (qa rfl (Ac (Ab ?_))))))
  refine AW h (fun v6 => mk [(1, .e (.one (.ptr 90000 0))), (2, .e (.one (.pure (.val (.int .i64 p2))))), (8, .e (.one (.pure (.val (.int .u8 v4))))), (60, .e (.one (.pure (.val (.bool v6)))))] [(90000, .box [.own 90001, .own 90002, .own 90003]), (90001, .vec 1 (p1.fBase.map Ag)), (90002, .vec 1 (p1.fNext.map Ag)), (90003, .vec 1 (p1.fHeld.map A6))]) (fun j6 h => ?_) (fun v6 h => ?_)
  ·refine Aa Ae rfl (qm rfl (Uk rfl (qf CC rfl (ql Gs rfl (qm rfl ?_)))))
   obtain ⟨v7, a7, b7, h⟩ := An h
   refine qI Du Ft a7 (Aj b7) rfl (qj Jz (Aj b7) rfl (qm rfl (BY rfl (qm rfl ?_))))
   refine AI (t := 42) rfl (fun c8 => ?_) (fun c8 => ?_)
   ·have h := Aq c8 h
    refine qn rfl (qn rfl (qn rfl (qn rfl (qu rfl (qu rfl (qu rfl (qu rfl (qu rfl (qu rfl (qu rfl (qu rfl (qu rfl (qu rfl (qu rfl (qu rfl (qn rfl (qp rfl (AY (by kernel_rfl) ?_))))))))))))))))))
    exact Aw _ h (sm [] _ _ rfl rfl)
   ·have h := Ap c8 h
    refine qf Fr rfl (ql Cb rfl (BY rfl (qm rfl ?_)))
    refine AI (t := 46) rfl (fun c9 => ?_) (fun c9 => ?_)
    ·have h := Aq c9 h
     refine qL GK DV rfl (qm rfl (qm rfl (Uk rfl (qf CA rfl (ql A9 rfl (qf CX rfl (ql Cb rfl ?_)))))))
     obtain ⟨v10, a10, b10, h⟩ := An h
     refine qI AF Df a10 (Aj b10) rfl (qj Cb (Aj b10) rfl ?_)
     obtain ⟨v11, a11, h⟩ := bind_some h
     refine AJ [] (Lu N v1 ((C0 .u8 v5 v4)) v10 v11 a11) WW rfl (CE rfl (qp rfl (qp rfl (AY (by kernel_rfl) ?_))))
     exact Aw _ h (sm [] _ _ rfl rfl)
    ·have h := Ap c9 h
     refine qn rfl (qn rfl (qn rfl (qn rfl (qn rfl (qn rfl (qn rfl (qn rfl (qn rfl (qn rfl (qn rfl (qn rfl (qp rfl (qp rfl (AY (by kernel_rfl) ?_))))))))))))))
     exact Aw _ h (sm [] _ _ rfl rfl)
  ·refine As rfl (fun c12 => ?_) (fun c12 => ?_)
   ·have h := Aq c12 h
    refine Ab (Aa Ae rfl (qa rfl (Ac ?_)))
    obtain rfl := sj h
    refine Al (sm [] [(6, .e (.one (.pure (.val (.bool false)))))] [(90000, .box [.own 90001, .own 90002, .own 90003]), (90001, .vec 1 (p1.fBase.map Ag)), (90002, .vec 1 (p1.fNext.map Ag)), (90003, .vec 1 (p1.fHeld.map A6))] rfl rfl) (AA ?_)
    exact ⟨⟨[_], ⟨.tmp _ _ rfl, trivial⟩, rfl⟩, ⟨rfl, rfl, rfl, rfl, trivial⟩, trivial⟩
   ·have h := Ap c12 h
    refine Au (Ab (Aa Ae rfl (qm rfl (Uk rfl (qf CC rfl (ql Gs rfl (qm rfl (qm rfl ?_))))))))
    obtain ⟨v13, a13, b13, h⟩ := An h
    refine qI Du Ft a13 (Aj b13) rfl ?_
    refine Ee rfl rfl rfl rfl (Aj b13) rfl Ft rfl (BE rfl) (DS A6 p1.fHeld _ v4) ?_
    refine Ac (Ab (Aa Ae rfl (qa rfl (Ac ?_))))
    obtain rfl := sj h
    refine Al (sm [] [(6, .e (.one (.pure (.val (.bool true)))))] [(90000, .box [.own 90001, .own 90002, .own 90003]), (90001, .vec 1 (p1.fBase.map Ag)), (90002, .vec 1 (p1.fNext.map Ag)), (90003, .vec 1 ((p1.fHeld.set ((p2).toNat) v4).map A6))] rfl rfl) (AA ?_)
    exact ⟨⟨[_], ⟨.tmp _ _ rfl, trivial⟩, rfl⟩, ⟨rfl, rfl, rfl, rfl, trivial⟩, trivial⟩
end Go.Lift

