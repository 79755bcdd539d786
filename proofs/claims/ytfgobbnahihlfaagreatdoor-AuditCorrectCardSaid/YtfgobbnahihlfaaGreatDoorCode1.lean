/- Lemmas for AuditCorrectCardSaid, which YtfgobbnahihlfaaGreatDoorFinA6 proves. -/
import Derived.Test.YtfgobbnahihlfaaGreatDoorTypes
import Derived.Test.YtfgobbnahihlfaaGreatDoorProg
import Derived.KernelRfl
open Int renaming tdiv → y5, tmod → zJ
open List renaming replicate → zO
open Nat renaming min → y7, zero_add → zI
open Go.Proofs.Tryz renaming prog → zA
namespace Go.Lift
open IntKind renaming wrap → wI
def Ey (_ : Nat) (p0 : Int) (p1 : Int) : Option Bool :=
 A7 (fun (v1 : Bool) =>
  some v1)
 fun j1 =>
 AL ((decide (0 ≤ p0)))
  (j1 (decide (p0 < p1)))
  (j1 false)
def Hs (_ : Nat) (p0 : Int) (p1 : Bool) : Option Bool :=
 A7 (fun (v1 : Bool) =>
  some v1)
 fun j1 =>
 AL ((p0 == 1))
  (j1 true)
  (AL ((p0 == 2))
   (j1 true)
   (AL ((p0 == 3))
    (j1 (!p1))
    (AL ((p0 == 4))
     (j1 (!p1))
     (j1 false))))
def Ej (_ : Nat) (p0 : List Bool) (p1 : Int) : Option Bool :=
 some (((p0.length : Int) != p1))
def BC (N : Nat) (p0 : List (List Bool)) (p1 : (List Bool) → Option Bool) (j1 : Unit → Option Int) : Nat → Int → Option Int
 | 0, _ => none
 | n1 + 1, v1 =>
  AL ((decide (v1 < (p0.length : Int))))
   ((Bg p0 v1).bind fun v4 =>
   (p1 v4).bind fun v5 =>
   AL v5
    (some v1)
    (BC N p0 p1 j1 n1 (wI .i64 (v1 + 1))))
   (j1 ())
def DI (N : Nat) (p0 : List (List Bool)) (p1 : (List Bool) → Option Bool) : Option Int :=
 BC N p0 p1 (fun (_ : Unit) =>
  some ((-1))) N 0
def Dk (N : Nat) (p0 : List (List Bool)) (p1 : (List Bool) → Option Bool) : Option Bool :=
 (DI N p0 p1).bind fun v1 =>
 some ((decide (0 ≤ v1)))
def FD (N : Nat) (p0 : List (List Bool)) (p1 : Int) (p2 : Int) : Option Bool :=
 A7 (fun (v1 : Bool) =>
  some v1)
 fun j1 =>
 AL (((p0.length : Int) == p1))
  ((Dk N p0 ((fun (x : List Bool) => Ej N x p2))).bind fun v3 =>
  j1 (!v3))
  (j1 false)
def Dq (N : Nat) (p1 : AA) (j19 : Unit → Option Int) : Nat → Int → Option Int
 | 0, _ => none
 | n19 + 1, v19 =>
  AL ((decide (v19 < (p1.g9.length : Int))))
   ((Bg p1.g9 v19).bind fun v22 =>
   (Bg v22 v19).bind fun v23 =>
   AL ((!v23))
    (some 1)
    (Dq N p1 j19 n19 (wI .i64 (v19 + 1))))
   (j19 ())
def GW (N : Nat) (p0 : Aa) (p1 : AA) : Option Int :=
 (Hs N p1.gD p1.qr).bind fun v1 =>
 AL ((!v1))
  (some 1)
  (A7 (fun (v3 : Bool) =>
   AL v3
    (some 4)
    ((Bg p0.gH p1.gM).bind fun v8 =>
    A7 (fun (v9 : Bool) =>
     AL v9
      (some 6)
      (Dq N p1 (fun (_ : Unit) =>
       some 0) N 0))
    fun j9 =>
    (Bg p0.gH p1.gW).bind fun v10 =>
    (FD N p1.gY v8 v10).bind fun v11 =>
    AL ((!v11))
     (j9 true)
     (AL ((p1.gD == 4))
      ((FD N p1.g9 v8 v8).bind fun v14 =>
      AL ((!v14))
       (j9 true)
       (AL ((!((p1.gD == 4))))
        (j9 (decide (0 < (p1.g9.length : Int))))
        (j9 false)))
      (AL ((!((p1.gD == 4))))
       (j9 (decide (0 < (p1.g9.length : Int))))
       (j9 false)))))
  fun j3 =>
  (Ey N p1.gM ((p0.gH.length : Int))).bind fun v4 =>
  AL ((!v4))
   (j3 true)
   ((Ey N p1.gW ((p0.gH.length : Int))).bind fun v6 =>
   j3 (!v6)))
def Cb (N : Nat) (p0 : Aa) (j7 : Unit → Option Int) : Nat → Int → Option Int
 | 0, _ => none
 | n7 + 1, v7 =>
  AL ((decide (v7 < (p0.gH.length : Int))))
   ((Bg p0.gH v7).bind fun v10 =>
   A7 (fun (v11 : Bool) =>
    AL v11
     (some 7)
     (Cb N p0 j7 n7 (wI .i64 (v7 + 1))))
   fun j11 =>
   AL ((decide (v10 < 1)))
    (j11 true)
    (AL ((decide (6 < v10)))
     (j11 true)
     ((Bg p0.gR v7).bind fun v14 =>
     (Ey N v14 v10).bind fun v15 =>
     AL ((!v15))
      (j11 true)
      ((Bg p0.gU v7).bind fun v17 =>
      (Ey N v17 v10).bind fun v18 =>
      j11 (!v18)))))
   (j7 ())
def B7 (N : Nat) (p0 : Aa) (j20 : Unit → Option Int) : Nat → Int → Option Int
 | 0, _ => none
 | n20 + 1, v20 =>
  AL ((decide (v20 < (p0.gJ.length : Int))))
   ((Bg p0.gJ v20).bind fun v23 =>
   (GW N p0 v23).bind fun v24 =>
   AL ((v24 != 0))
    (some v24)
    (B7 N p0 j20 n20 (wI .i64 (v20 + 1))))
   (j20 ())
def CP (N : Nat) (p0 : Aa) : Option Int :=
 A7 (fun (v1 : Bool) =>
  AL v1
   (some 3)
   (A7 (fun (v4 : Bool) =>
    AL v4
     (some 6)
     (Cb N p0 (fun (_ : Unit) =>
      B7 N p0 (fun (_ : Unit) =>
       some 0) N 0) N 0))
   fun j4 =>
   AL (((p0.gR.length : Int) != (p0.gH.length : Int)))
    (j4 true)
    (j4 ((p0.gU.length : Int) != (p0.gH.length : Int)))))
 fun j1 =>
 AL ((decide (6 < (p0.gH.length : Int))))
  (j1 true)
  (j1 (decide (12 < (p0.gJ.length : Int))))
def Bv (N : Nat) (p0 : List Int) (p1 : Int → Option Bool) (j1 : Unit → Option Int) : Nat → Int → Option Int
 | 0, _ => none
 | n1 + 1, v1 =>
  AL ((decide (v1 < (p0.length : Int))))
   ((Bg p0 v1).bind fun v4 =>
   (p1 v4).bind fun v5 =>
   AL v5
    (some v1)
    (Bv N p0 p1 j1 n1 (wI .i64 (v1 + 1))))
   (j1 ())
def Ed (N : Nat) (p0 : List Int) (p1 : Int → Option Bool) : Option Int :=
 Bv N p0 p1 (fun (_ : Unit) =>
  some ((-1))) N 0
def CX (N : Nat) (p0 : List Int) (p1 : Int → Option Bool) : Option Bool :=
 (Ed N p0 p1).bind fun v1 =>
 some ((decide (0 ≤ v1)))
def Fu (_ : Nat) (p0 : Int) : Option Bool :=
 A7 (fun (v1 : Bool) =>
  some v1)
 fun j1 =>
 AL ((decide (p0 < 1)))
  (j1 true)
  (j1 (decide (4 < p0)))
def F9 (N : Nat) (p0 : Aa) (p1 : List Int) : Option Int :=
 AL (((p1.length : Int) != (p0.gH.length : Int)))
  (some 6)
  ((CX N p1 ((fun (x : Int) => Fu N x))).bind fun v2 =>
  AL v2
   (some 7)
   (some 0))
def Bc (N : Nat) (p0 : List Ae) (p1 : Ae → Option Bool) (j1 : Unit → Option Int) : Nat → Int → Option Int
 | 0, _ => none
 | n1 + 1, v1 =>
  AL ((decide (v1 < (p0.length : Int))))
   ((Bg p0 v1).bind fun v4 =>
   (p1 v4).bind fun v5 =>
   AL v5
    (some v1)
    (Bc N p0 p1 j1 n1 (wI .i64 (v1 + 1))))
   (j1 ())
def B4 (N : Nat) (p0 : List Ae) (p1 : Ae → Option Bool) : Option Int :=
 Bc N p0 p1 (fun (_ : Unit) =>
  some ((-1))) N 0
def BM (N : Nat) (p0 : List Ae) (p1 : Ae → Option Bool) : Option Bool :=
 (B4 N p0 p1).bind fun v1 =>
 some ((decide (0 ≤ v1)))
def E3 (_ : Nat) (p0 : Ae) : Option Bool :=
 some ((p0.gD == 4))
def CU (_ : Nat) (p0 : List Int) : Option ((List Int)) :=
 (ES ((([] : List Int)).length + p0.length ≤ EI)).bind fun _ =>
 some ((([] : List Int)) ++ p0)
def HF (_ : Nat) (p0 : Int) (p1 : Int) : Option (Int × Int) :=
 some ((wI .u32 ((Gy .u64 ((wI .u64 ((wI .u64 p0) * (wI .u64 p1)))) 32))), (wI .u32 ((wI .u64 ((wI .u64 p0) * (wI .u64 p1))))))
def HJ (_ : Nat) (p0 : Int) (p1 : Int) : Option (Int × Int) :=
 some ((wI .u64 ((wI .u64 ((wI .u64 ((Gy .u64 p0 32) * (Gy .u64 p1 32))) + (Gy .u64 ((wI .u64 ((wI .u64 ((Gy .u64 p0 32) * (Ho .u64 p1 4294967295))) + (Gy .u64 ((wI .u64 ((Ho .u64 p0 4294967295) * (Ho .u64 p1 4294967295)))) 32)))) 32))) + (Gy .u64 ((wI .u64 ((Ho .u64 ((wI .u64 ((wI .u64 ((Gy .u64 p0 32) * (Ho .u64 p1 4294967295))) + (Gy .u64 ((wI .u64 ((Ho .u64 p0 4294967295) * (Ho .u64 p1 4294967295)))) 32)))) 4294967295) + (wI .u64 ((Ho .u64 p0 4294967295) * (Gy .u64 p1 32)))))) 32))), (wI .u64 (p0 * p1)))
def IC (N : Nat) (p0 : Int) (p1 : Int) : Option (Int × Int) :=
 AL false
  ((HF N ((wI .u32 p0)) ((wI .u32 p1))).bind fun v2 =>
  some ((wI .u64 v2.1), (wI .u64 v2.2)))
  ((HJ N p0 p1).bind fun v3 =>
  some (v3.1, v3.2))
def Ee (N : Nat) (j9 : ((List Int)) → Option ((List Int))) : Nat → ((List Int) × Int) → Option ((List Int))
 | 0, _ => none
 | n9 + 1, v9 =>
  AL ((decide (v9.2 < (v9.1.length : Int))))
   ((ES ((0 : Int) ≤ v9.2 ∧ (v9.2).toNat ≤ v9.1.length ∧ v9.1.length ≤ v9.1.length)).bind fun _ =>
   (ES ((0 : Int) ≤ v9.2 ∧ 0 ≤ (v9.2).toNat ∧ (v9.2).toNat ≤ v9.1.length)).bind fun _ =>
   Ee N j9 n9 (Sq v9.1 ((v9.2).toNat) ((((v9.1.drop 0).take ((v9.2).toNat))).take (y7 (((v9.1.drop 0).take ((v9.2).toNat))).length ((v9.1.length - (v9.2).toNat)))), (wI .i64 (v9.2 + (((y7 (((v9.1.drop 0).take ((v9.2).toNat))).length ((v9.1.length - (v9.2).toNat))) : Nat) : Int)))))
   (j9 v9.1)
def EQ (N : Nat) (p0 : List Int) (p1 : Int) : Option ((List Int)) :=
 A7 (fun (_ : Unit) =>
  (IC N ((wI .u64 ((p0.length : Int)))) ((wI .u64 p1))).bind fun v3 =>
  A7 (fun (_ : Unit) =>
   (ES ((0 : Int) ≤ (wI .i64 v3.2) ∧ (wI .i64 v3.2) ≤ (wI .i64 v3.2) ∧ (wI .i64 v3.2) ≤ (EI : Int))).bind fun _ =>
   Ee N (fun (v10 : (List Int)) =>
    some v10) N (Sq (zO ((wI .i64 v3.2)).toNat ((0 : Int))) 0 (p0.take (y7 p0.length ((zO ((wI .i64 v3.2)).toNat ((0 : Int))).length))), (((y7 p0.length ((zO ((wI .i64 v3.2)).toNat ((0 : Int))).length)) : Nat) : Int)))
  fun j4 =>
  A7 (fun (v5 : Bool) =>
   AL v5
    (none)
    (j4 ()))
  fun j5 =>
  AL ((decide (0 < v3.1)))
   (j5 true)
   (j5 (decide (9223372036854775807 < v3.2))))
 fun j1 =>
 AL ((decide (p1 < 0)))
  (none)
  (j1 ())
def GD (_ : Nat) (p0 : AA) : Option Bool :=
 A7 (fun (v1 : Bool) =>
  some v1)
 fun j1 =>
 AL ((p0.gD == 3))
  (j1 true)
  (j1 (p0.gD == 4))
def Ex (N : Nat) (p0 : Aa) (j6 : ((List Int)) → Option (Ab × Int)) : Nat → ((List Int) × Int) → Option (Ab × Int)
 | 0, _ => none
 | n6 + 1, v6 =>
  AL ((decide (v6.2 < (p0.gJ.length : Int))))
   (A7 (fun (v9 : (List Int)) =>
    Ex N p0 j6 n6 (v9, (wI .i64 (v6.2 + 1))))
   fun j9 =>
   (Bg p0.gJ v6.2).bind fun v10 =>
   (GD N v10).bind fun v11 =>
   AL v11
    ((Bg p0.gR v10.gM).bind fun v13 =>
    (ES (0 ≤ v13)).bind fun _ =>
    (Bg v6.1 v6.2).bind fun _ =>
    j9 (v6.1.set ((v6.2).toNat) ((EK .u8 1 v13))))
    (j9 v6.1))
   (j6 v6.1)
def HY (N : Nat) (p0 : Aa) : Option (Ab × Int) :=
 (CP N p0).bind fun v1 =>
 AL ((v1 != 0))
  (some ((Ab.mk (([] : List Int)) (([] : List Int)) (([] : List Int))), v1))
  ((CU N p0.gR).bind fun v3 =>
  (EQ N (([(-1)] : List Int)) ((p0.gR.length : Int))).bind fun v4 =>
  (ES ((0 : Int) ≤ (p0.gJ.length : Int) ∧ (p0.gJ.length : Int) ≤ (p0.gJ.length : Int) ∧ (p0.gJ.length : Int) ≤ (EI : Int))).bind fun _ =>
  Ex N p0 (fun (v7 : (List Int)) =>
   some ((Ab.mk v3 v4 v7), 0)) N (zO ((p0.gJ.length : Int)).toNat ((0 : Int)), 0))
def G7 (_ : Nat) (p0 : Ab) (p1 : Int) : Option Int :=
 (Bg p0.gI p1).bind fun v1 =>
 (ES (0 ≤ v1)).bind fun _ =>
 A7 (fun (v3 : Int) =>
  some v3)
 fun j3 =>
 (Bg p0.gF p1).bind fun v4 =>
 AL ((decide (0 ≤ v4)))
  ((Bg p0.gF p1).bind fun v6 =>
  (ES (0 ≤ v6)).bind fun _ =>
  j3 (Pb .u8 ((EK .u8 1 v1)) ((EK .u8 1 v6))))
  (j3 (EK .u8 1 v1))
def Ew (N : Nat) (p0 : Aa) (p1 : Ab) (j7 : Unit → Option Int) : Nat → Int → Option Int
 | 0, _ => none
 | n7 + 1, v7 =>
  AL ((decide (v7 < (p0.gH.length : Int))))
   ((Bg p0.gH v7).bind fun v10 =>
   A7 (fun (v11 : Bool) =>
    AL v11
     (some 7)
     ((Bg p1.gI v7).bind fun v20 =>
     (Bg p1.gF v7).bind fun v21 =>
     AL ((v20 == v21))
      (some 1)
      (Ew N p0 p1 j7 n7 (wI .i64 (v7 + 1)))))
   fun j11 =>
   (Bg p1.gI v7).bind fun v12 =>
   AL ((decide (v12 < 0)))
    (j11 true)
    ((Bg p1.gI v7).bind fun v14 =>
    AL ((decide (v10 ≤ v14)))
     (j11 true)
     ((Bg p1.gF v7).bind fun v16 =>
     AL ((decide (v16 < (-1))))
      (j11 true)
      ((Bg p1.gF v7).bind fun v18 =>
      j11 (decide (v10 ≤ v18))))))
   (j7 ())
def D6 (N : Nat) (p0 : Aa) (p1 : Ab) (j23 : Unit → Option Int) : Nat → Int → Option Int
 | 0, _ => none
 | n23 + 1, v23 =>
  AL ((decide (v23 < (p0.gJ.length : Int))))
   ((Bg p0.gJ v23).bind fun v26 =>
   A7 (fun (v27 : Int × Int) =>
    A7 (fun (v33 : Bool) =>
     AL v33
      (some 1)
      (D6 N p0 p1 j23 n23 (wI .i64 (v23 + 1))))
    fun j33 =>
    (Bg p1.gG v23).bind fun v34 =>
    AL (((Dy .u8 v27.1 v34) != 0))
     (j33 true)
     ((Bg p1.gG v23).bind fun v36 =>
     j33 ((Dy .u8 v36 v27.2) != 0)))
   fun j27 =>
   (GD N v26).bind fun v28 =>
   AL v28
    ((G7 N p1 v26.gM).bind fun v30 =>
    (Bg p0.gH v26.gM).bind fun v31 =>
    (ES (0 ≤ v31)).bind fun _ =>
    j27 (v30, (wI .u8 ((EK .u8 1 v31) - 1))))
    (j27 (0, 0)))
   (j23 ())
def He (N : Nat) (p0 : Aa) (p1 : Ab) : Option Int :=
 (CP N p0).bind fun v1 =>
 AL ((v1 != 0))
  (some v1)
  (A7 (fun (v3 : Bool) =>
   AL v3
    (some 6)
    (Ew N p0 p1 (fun (_ : Unit) =>
     D6 N p0 p1 (fun (_ : Unit) =>
      some 0) N 0) N 0))
  fun j3 =>
  AL (((p1.gI.length : Int) != (p0.gH.length : Int)))
   (j3 true)
   (AL (((p1.gF.length : Int) != (p0.gH.length : Int)))
    (j3 true)
    (j3 ((p1.gG.length : Int) != (p0.gJ.length : Int)))))
def CK (_ : Nat) (p0 : List Int) : Option ((List Int)) :=
 (ES ((([] : List Int)).length + p0.length ≤ EI)).bind fun _ =>
 some ((([] : List Int)) ++ p0)
def F7 (N : Nat) (p0 : Ab) : Option Ab :=
 (CU N p0.gI).bind fun v1 =>
 (CU N p0.gF).bind fun v2 =>
 (CK N p0.gG).bind fun v3 =>
 some ((Ab.mk v1 v2 v3))
def Hv (_ : Nat) (p0 : Ae) : Option Bool :=
 A7 (fun (v1 : Bool) =>
  AL v1
   (some false)
   (A7 (fun (v5 : Bool) =>
    some v5)
   fun j5 =>
   AL ((p0.gD == 1))
    (j5 true)
    (j5 (p0.gV == 0))))
 fun j1 =>
 AL ((decide ((XM p0.gL p0.gV) < 0)))
  (j1 true)
  (AL ((decide (p0.gD < 1)))
   (j1 true)
   (j1 (decide (4 < p0.gD))))
def GX (_ : Nat) (p0 : Aa) (p1 : Ae) : Option Bool :=
 AL ((p1.gD == 3))
  (some ((decide (p1.gL < (p0.gJ.length : Int)))))
  (A7 (fun (v2 : Bool) =>
   some v2)
  fun j2 =>
  AL ((decide (p1.gL < (p0.gH.length : Int))))
   (AL ((p1.gD != 1))
    (j2 true)
    ((Bg p0.gH p1.gL).bind fun v5 =>
    j2 (decide (p1.gV < v5))))
   (j2 false))
def F4 (_ : Nat) (p0 : AA) : Option Bool :=
 A7 (fun (v1 : Bool) =>
  some v1)
 fun j1 =>
 AL ((p0.gD == 3))
  (j1 true)
  (j1 (p0.gD == 4))
def D8 (N : Nat) (p0 : Aa) (p2 : Ae) (j7 : ((List Int)) → Option (Bool × (List Int) × (List Int))) : Nat → ((List Int) × Int) → Option (Bool × (List Int) × (List Int))
 | 0, _ => none
 | n7 + 1, v7 =>
  AL ((decide (v7.2 < (p0.gJ.length : Int))))
   (A7 (fun (v10 : (List Int)) =>
    D8 N p0 p2 j7 n7 (v10, (wI .i64 (v7.2 + 1))))
   fun j10 =>
   (Bg p0.gJ v7.2).bind fun v11 =>
   A7 (fun (v12 : Bool) =>
    AL v12
     ((Bg v7.1 v7.2).bind fun v16 =>
     (ES (0 ≤ p2.gV)).bind fun _ =>
     (Bg v7.1 v7.2).bind fun _ =>
     j10 (v7.1.set ((v7.2).toNat) ((Pb .u8 v16 ((EK .u8 1 p2.gV))))))
     (j10 v7.1))
   fun j12 =>
   AL ((v11.gM == p2.gL))
    ((F4 N v11).bind fun v14 =>
    j12 v14)
    (j12 false))
   (j7 v7.1)
def IH (N : Nat) (p0 : Aa) (p1 : Ab) (p2 : Ae) : Option (Bool × (List Int) × (List Int)) :=
 A7 (fun (v1 : Bool) =>
  AL v1
   (some (false, p1.gF, p1.gG))
   ((Bg p1.gF p2.gL).bind fun _ =>
   D8 N p0 p2 (fun (v8 : (List Int)) =>
    some (true, p1.gF.set ((p2.gL).toNat) p2.gV, v8)) N (p1.gG, 0)))
 fun j1 =>
 (Bg p1.gF p2.gL).bind fun v2 =>
 AL ((decide (0 ≤ v2)))
  (j1 true)
  ((Bg p1.gI p2.gL).bind fun v4 =>
  j1 (v4 == p2.gV))
def GA (_ : Nat) (p0 : Ab) (p1 : Int) : Option Int :=
 (Bg p0.gI p1).bind fun v1 =>
 (ES (0 ≤ v1)).bind fun _ =>
 A7 (fun (v3 : Int) =>
  some v3)
 fun j3 =>
 (Bg p0.gF p1).bind fun v4 =>
 AL ((decide (0 ≤ v4)))
  ((Bg p0.gF p1).bind fun v6 =>
  (ES (0 ≤ v6)).bind fun _ =>
  j3 (Pb .u8 ((EK .u8 1 v1)) ((EK .u8 1 v6))))
  (j3 (EK .u8 1 v1))
def Dl (_ : Nat) (p0 : Int) : Option Int :=
 (ZQ ((⟨⟨(List.append (List.append [8, 0, 1, 0, 2, 0, 1, 0, 3, 0, 1, 0, 2, 0, 1, 0, 4, 0, 1, 0, 2, 0, 1, 0, 3, 0, 1, 0, 2, 0, 1, 0, 5, 0, 1, 0, 2, 0, 1, 0, 3, 0, 1, 0, 2, 0, 1, 0, 4, 0, 1, 0, 2, 0, 1, 0, 3, 0, 1, 0, 2, 0, 1, 0] [6, 0, 1, 0, 2, 0, 1, 0, 3, 0, 1, 0, 2, 0, 1, 0, 4, 0, 1, 0, 2, 0, 1, 0, 3, 0, 1, 0, 2, 0, 1, 0, 5, 0, 1, 0, 2, 0, 1, 0, 3, 0, 1, 0, 2, 0, 1, 0, 4, 0, 1, 0, 2, 0, 1, 0, 3, 0, 1, 0, 2, 0, 1, 0]) (List.append [7, 0, 1, 0, 2, 0, 1, 0, 3, 0, 1, 0, 2, 0, 1, 0, 4, 0, 1, 0, 2, 0, 1, 0, 3, 0, 1, 0, 2, 0, 1, 0, 5, 0, 1, 0, 2, 0, 1, 0, 3, 0, 1, 0, 2, 0, 1, 0, 4, 0, 1, 0, 2, 0, 1, 0, 3, 0, 1, 0, 2, 0, 1, 0] [6, 0, 1, 0, 2, 0, 1, 0, 3, 0, 1, 0, 2, 0, 1, 0, 4, 0, 1, 0, 2, 0, 1, 0, 3, 0, 1, 0, 2, 0, 1, 0, 5, 0, 1, 0, 2, 0, 1, 0, 3, 0, 1, 0, 2, 0, 1, 0, 4, 0, 1, 0, 2, 0, 1, 0, 3, 0, 1, 0, 2, 0, 1, 0]))⟩⟩ : ByteArray)) p0).bind fun v1 =>
 some ((wI .i64 v1))
def DP (N : Nat) (p0 : AA) (p2 : Int) (j1 : Unit → Option Bool) : Nat → Int → Option Bool
 | 0, _ => none
 | n1 + 1, v1 =>
  AL ((v1 != 0))
   ((Dl N v1).bind fun v4 =>
   (Bg p0.g9 v4).bind fun v5 =>
   (Bg v5 p2).bind fun v6 =>
   AL ((!v6))
    (some false)
    (DP N p0 p2 j1 n1 (Ho .u8 v1 ((wI .u8 (v1 - 1))))))
   (j1 ())
def Gm (N : Nat) (p0 : AA) (p1 : Int) (p2 : Int) : Option Bool :=
 DP N p0 p2 (fun (_ : Unit) =>
  some true) N p1
def Hu (N : Nat) (p0 : Aa) (p1 : Ab) (p2 : Int) : Option (Bool × (List Int)) :=
 (Bg p0.gJ p2).bind fun v1 =>
 (F4 N v1).bind fun v2 =>
 AL ((!v2))
  (some (false, p1.gG))
  ((GA N p1 v1.gM).bind fun v4 =>
  (Bg p1.gG p2).bind fun v5 =>
  A7 (fun (v6 : Bool) =>
   AL v6
    (some (false, p1.gG))
    ((Bg p1.gG p2).bind fun _ =>
    some (true, p1.gG.set ((p2).toNat) v4)))
  fun j6 =>
  (Bg p1.gG p2).bind fun v7 =>
  AL ((v7 == v4))
   (j6 true)
   (AL ((v1.gD == 4))
    ((Bg p1.gI v1.gM).bind fun v10 =>
    (Gm N v1 ((Dy .u8 v5 v4)) v10).bind fun v11 =>
    j6 (!v11))
    (j6 false)))
def Hz (N : Nat) (p0 : Aa) (p1 : Ab) (p2 : Ae) : Option (Ab × Bool) :=
 (F7 N p1).bind fun v1 =>
 AL ((p2.gD == 1))
  ((IH N p0 v1 p2).bind fun v3 =>
  some ((Ab.mk v1.gI v3.2.1 v3.2.2), v3.1))
  (AL ((p2.gD == 3))
   ((Hu N p0 v1 p2.gL).bind fun v5 =>
   some ((Ab.mk v1.gI v1.gF v5.2), v5.1))
   ((Bg v1.gF p2.gL).bind fun v6 =>
   AL ((decide (v6 < 0)))
    (some (v1, false))
    ((Bg v1.gF p2.gL).bind fun _ =>
    A7 (fun (v9 : (List Int)) =>
     some ((Ab.mk v9 (v1.gF.set ((p2.gL).toNat) ((-1))) v1.gG), true))
    fun j9 =>
    AL ((p2.gD == 2))
     ((Bg v1.gI p2.gL).bind fun _ =>
     j9 (v1.gI.set ((p2.gL).toNat) v6))
     (j9 v1.gI))))
def GC (N : Nat) (p0 : Aa) (p1 : Ab) (p2 : Ae) : Option (Ab × Int) :=
 (Hv N p2).bind fun v1 =>
 AL ((!v1))
  (some ((Ab.mk (([] : List Int)) (([] : List Int)) (([] : List Int))), 1))
  ((GX N p0 p2).bind fun v3 =>
  AL ((!v3))
   (some ((Ab.mk (([] : List Int)) (([] : List Int)) (([] : List Int))), 4))
   ((Hz N p0 p1 p2).bind fun v5 =>
   AL ((!v5.2))
    (some ((Ab.mk (([] : List Int)) (([] : List Int)) (([] : List Int))), 11))
    (some (v5.1, 0))))
def Gd (N : Nat) (p0 : Aa) (p2 : List Ae) (j4 : ((List Ab)) → Option ((List Ab) × Int × Int)) : Nat → ((List Ab) × Int) → Option ((List Ab) × Int × Int)
 | 0, _ => none
 | n4 + 1, v4 =>
  AL ((decide (v4.2 < (p2.length : Int))))
   ((Bg p2 v4.2).bind fun v7 =>
   (Bg v4.1 v4.2).bind fun v8 =>
   (GC N p0 v8 v7).bind fun v9 =>
   AL ((v9.2 != 0))
    (some (([] : List Ab), v4.2, v9.2))
    ((ES (v4.1.length + (([v9.1] : List Ab)).length ≤ EI)).bind fun _ =>
    Gd N p0 p2 j4 n4 (v4.1 ++ (([v9.1] : List Ab)), (wI .i64 (v4.2 + 1)))))
   (j4 v4.1)
def IQ (N : Nat) (p0 : Aa) (p1 : Ab) (p2 : List Ae) : Option ((List Ab) × Int × Int) :=
 (He N p0 p1).bind fun v1 =>
 AL ((v1 != 0))
  (some (([] : List Ab), 0, v1))
  ((F7 N p1).bind fun v3 =>
  Gd N p0 p2 (fun (v5 : (List Ab)) =>
   some (v5, (p2.length : Int), 0)) N (([v3] : List Ab), 0))
def EN (N : Nat) (p0 : Aa) (p1 : List Ae) : Option (Ab × Int) :=
 (BM N p1 ((fun (x : Ae) => E3 N x))).bind fun v1 =>
 AL v1
  (some ((Ab.mk (([] : List Int)) (([] : List Int)) (([] : List Int))), 1))
  ((HY N p0).bind fun v3 =>
  AL ((v3.2 != 0))
   (some ((Ab.mk (([] : List Int)) (([] : List Int)) (([] : List Int))), v3.2))
   ((IQ N p0 v3.1 p1).bind fun v5 =>
   some (v3.1, v5.2.2)))
def GF (_ : Nat) (p0 : Int) : Option ByteArray :=
 A7 (fun (v1 : Bool) =>
  AL v1
   (some ((⟨#[]⟩ : ByteArray)))
   ((Bg ([⟨#[]⟩, (⟨#[114, 101, 97, 100]⟩ : ByteArray), (⟨#[98, 101, 103, 105, 110]⟩ : ByteArray), (⟨#[100, 111, 110, 101]⟩ : ByteArray), (⟨#[97, 98, 111, 114, 116]⟩ : ByteArray), (⟨#[114, 101, 115, 117, 109, 101]⟩ : ByteArray), (⟨#[115, 119, 105, 116, 99, 104]⟩ : ByteArray), (⟨#[108, 101, 97, 115, 101]⟩ : ByteArray)] : List ByteArray) p0).bind fun v4 =>
   some v4))
 fun j1 =>
 AL ((decide (p0 < 0)))
  (j1 true)
  (j1 (decide (8 ≤ p0)))
def Fd (_ : Nat) (p0 : Ad) : Option ((List Int)) :=
 AL ((p0.gD == 1))
  (some (([p0.gX, p0.g8, p0.hJ] : List Int)))
  (AL ((p0.gD == 6))
   (some (([p0.gO, p0.gV, p0.gP] : List Int)))
   (AL ((p0.gD == 7))
    (some (([p0.qv, p0.gN] : List Int)))
    (some (([p0.gL, p0.gN] : List Int)))))
def F5 (_ : Nat) (p0 : Int) (p1 : Int) (p2 : List Int) : Option Ad :=
 A7 (fun (v1 : Int × Int × Int × Int × Int × Int × Int × Int × Int) =>
  some ((Ad.mk p0 p1 v1.1 v1.2.1 v1.2.2.1 v1.2.2.2.1 v1.2.2.2.2.1 v1.2.2.2.2.2.1 v1.2.2.2.2.2.2.1 v1.2.2.2.2.2.2.2.1 v1.2.2.2.2.2.2.2.2)))
 fun j1 =>
 AL ((p1 == 1))
  ((Bg p2 0).bind fun v3 =>
  (Bg p2 1).bind fun v4 =>
  (Bg p2 2).bind fun v5 =>
  j1 (v3, v4, v5, 0, 0, 0, 0, 0, 0))
  (AL ((p1 == 6))
   ((Bg p2 0).bind fun v7 =>
   (Bg p2 1).bind fun v8 =>
   (Bg p2 2).bind fun v9 =>
   j1 (0, 0, 0, 0, 0, v9, v7, v8, 0))
   (AL ((p1 == 7))
    ((Bg p2 0).bind fun v11 =>
    (Bg p2 1).bind fun v12 =>
    j1 (0, 0, 0, 0, v12, 0, 0, 0, v11))
    ((Bg p2 0).bind fun v13 =>
    (Bg p2 1).bind fun v14 =>
    j1 (0, 0, 0, v13, v14, 0, 0, 0, 0))))
def Br (N : Nat) (p0 : List Int) (p1 : Int → Option Bool) (j1 : Unit → Option Int) : Nat → Int → Option Int
 | 0, _ => none
 | n1 + 1, v1 =>
  AL ((decide (v1 < (p0.length : Int))))
   ((Bg p0 v1).bind fun v4 =>
   (p1 v4).bind fun v5 =>
   AL v5
    (some v1)
    (Br N p0 p1 j1 n1 (wI .i64 (v1 + 1))))
   (j1 ())
def Dp (N : Nat) (p0 : List Int) (p1 : Int → Option Bool) : Option Int :=
 Br N p0 p1 (fun (_ : Unit) =>
  some ((-1))) N 0
def BR (N : Nat) (p0 : List Int) (p1 : Int → Option Bool) : Option Bool :=
 (Dp N p0 p1).bind fun v1 =>
 some ((decide (0 ≤ v1)))
def Fo (_ : Nat) (p0 : Int) : Option Bool :=
 some ((decide (p0 < 0)))
def GU (N : Nat) (p0 : Ad) : Option Bool :=
 A7 (fun (v1 : Bool) =>
  AL v1
   (some false)
   ((Fd N p0).bind fun v5 =>
   A7 (fun (v6 : Bool) =>
    some v6)
   fun j6 =>
   (F5 N p0.gE p0.gD v5).bind fun v7 =>
   AL (((p0.gE == v7.gE) && ((p0.gD == v7.gD) && ((p0.gX == v7.gX) && ((p0.g8 == v7.g8) && ((p0.hJ == v7.hJ) && ((p0.gL == v7.gL) && ((p0.gN == v7.gN) && ((p0.gP == v7.gP) && ((p0.gO == v7.gO) && ((p0.gV == v7.gV) && ((p0.qv == v7.qv) && true))))))))))))
    ((BR N v5 ((fun (x : Int) => Fo N x))).bind fun v9 =>
    j6 (!v9))
    (j6 false)))
 fun j1 =>
 (GF N p0.gD).bind fun v2 =>
 AL ((v2.toList == ((⟨#[]⟩ : ByteArray)).toList))
  (j1 true)
  (j1 (decide (p0.gE < 0)))
def E6 (N : Nat) (p0 : List Ad) (j2 : Unit → Option Int) : Nat → Int → Option Int
 | 0, _ => none
 | n2 + 1, v2 =>
  AL ((decide (v2 < (p0.length : Int))))
   ((Bg p0 v2).bind fun v5 =>
   A7 (fun (v6 : Bool) =>
    AL v6
     (some 1)
     (E6 N p0 j2 n2 (wI .i64 (v2 + 1))))
   fun j6 =>
   (GU N v5).bind fun v7 =>
   AL ((!v7))
    (j6 true)
    (AL ((decide (0 < v2)))
     ((Bg p0 ((wI .i64 (v2 - 1)))).bind fun v10 =>
     j6 (decide (v5.gE < v10.gE)))
     (j6 false)))
   (j2 ())
def ET (N : Nat) (p0 : List Ad) : Option Int :=
 AL ((decide (10000 < (p0.length : Int))))
  (some 3)
  (E6 N p0 (fun (_ : Unit) =>
   some 0) N 0)
def Gq (_ : Nat) : Option BI :=
 some ((BI.mk 0 0 false (([] : List (Int × Int)))))
def FW (_ : Nat) (p0 : Aa) (p1 : Ad) : Option Bool :=
 AL ((decide ((p0.gJ.length : Int) ≤ p1.gX)))
  (some false)
  ((Bg p0.gJ p1.gX).bind fun v2 =>
  A7 (fun (v3 : Bool) =>
   some v3)
  fun j3 =>
  AL ((decide (p1.g8 < (v2.gY.length : Int))))
   ((Bg p0.gH v2.gW).bind fun v5 =>
   AL ((decide (p1.hJ < v5)))
    ((Bg v2.gY p1.g8).bind fun v7 =>
    (Bg v7 p1.hJ).bind fun v8 =>
    j3 v8)
    (j3 false))
   (j3 false))
def Ez (_ : Nat) (p0 : Ad) : Option Bool :=
 A7 (fun (v1 : Bool) =>
  some v1)
 fun j1 =>
 AL ((decide (2 ≤ p0.gD)))
  (j1 (decide (p0.gD ≤ 5)))
  (j1 false)
def Cr (_ : Nat) (p0 : Ao) (p1 : Ad) : Option Bool :=
 A7 (fun (v1 : Bool) =>
  AL v1
   (some false)
   (AL ((p1.gD == 2))
    (some ((p0.gQ == 0)))
    (AL ((p1.gD == 3))
     (some ((p0.gQ == 1)))
     (AL ((p1.gD == 4))
      (A7 (fun (v7 : Bool) =>
       some v7)
      fun j7 =>
      AL ((p0.gQ == 1))
       ((Bg p0.gZ p0.gE).bind fun v9 =>
       j7 (v9.gD == 1))
       (j7 false))
      (some ((p0.gQ == 2)))))))
 fun j1 =>
 AL ((p1.gL != p0.gE))
  (j1 true)
  (j1 (decide ((p0.gZ.length : Int) ≤ p0.gE)))
def EG (N : Nat) (p0 : BI) (p1 : Ad) : Option (Bool × BI × (List (Int × Int))) :=
 A7 (fun (v1 : (List (Int × Int)) × Int × Int × Bool) =>
  some (true, (BI.mk v1.2.1 v1.2.2.1 v1.2.2.2 v1.1), v1.1))
 fun j1 =>
 (Ez N p1).bind fun v2 =>
 AL v2
  (AL ((decide (p1.gN < p0.hM)))
   (some (false, p0, p0.qo))
   (j1 (p0.qo, p1.gN, p0.hO, p0.qc)))
  (AL ((p1.gD == 6))
   (AL ((decide (p1.gP < ((HG p1.gO p0.qo).getD 0))))
    (some (false, p0, p0.qo))
    (j1 (LA p1.gO p1.gP p0.qo, p0.hM, p0.hO, p0.qc)))
   (AL ((p1.gD == 7))
    (A7 (fun (v8 : Bool) =>
     AL v8
      (some (false, p0, p0.qo))
      (j1 (p0.qo, p0.hM, p1.gN, true)))
    fun j8 =>
    AL p0.qc
     (j8 (decide (p1.gN ≤ p0.hO)))
     (j8 false))
    (j1 (p0.qo, p0.hM, p0.hO, p0.qc))))
def Fb (N : Nat) (p0 : List Int) (j1 : Unit → Option Int) : Nat → (Int × Int) → Option Int
 | 0, _ => none
 | n1 + 1, v1 =>
  AL ((decide (v1.2 < (p0.length : Int))))
   ((Bg p0 v1.2).bind fun v4 =>
   AL ((decide (v1.1 < v4)))
    (some v1.2)
    (Fb N p0 j1 n1 ((wI .i64 (v1.1 - v4)), (wI .i64 (v1.2 + 1)))))
   (j1 ())
def F8 (N : Nat) (p0 : List Int) (p1 : Int) : Option Int :=
 Fb N p0 (fun (_ : Unit) =>
  some ((-1))) N (p1, 0)
def Dw (_ : Nat) (p0 : Ab) (p1 : Int) (p2 : Int) : Option Bool :=
 A7 (fun (v1 : Bool) =>
  some v1)
 fun j1 =>
 (Bg p0.gI p1).bind fun v2 =>
 AL ((v2 == p2))
  (j1 true)
  ((Bg p0.gF p1).bind fun v4 =>
  j1 (v4 == p2))
def Fp (N : Nat) (p0 : Aa) (p1 : Ab) (p2 : Ad) : Option Bool :=
 (Bg p0.gJ p2.gX).bind fun v1 =>
 (Dw N p1 v1.gW p2.hJ).bind fun v2 =>
 AL ((!v2))
  (some false)
  (A7 (fun (v4 : Bool) =>
   AL v4
    ((Bg p1.gG p2.gX).bind fun v7 =>
    (ES (0 ≤ p2.g8)).bind fun _ =>
    some (((Ho .u8 ((Gy .u8 v7 p2.g8)) 1) == 1)))
    ((Dw N p1 v1.gM p2.g8).bind fun v9 =>
    some v9))
  fun j4 =>
  AL ((v1.gD == 3))
   (j4 true)
   (j4 (v1.gD == 4)))
def Hp (N : Nat) (p0 : Aa) (p1 : Ab) (p2 : Ae) : Option (Ab × Int) :=
 (He N p0 p1).bind fun v1 =>
 AL ((v1 != 0))
  (some ((Ab.mk (([] : List Int)) (([] : List Int)) (([] : List Int))), v1))
  ((GC N p0 p1 p2).bind fun v3 =>
  some (v3.1, v3.2))
def C9 (N : Nat) (p0 : Ao) (p1 : Ae) : Option Ao :=
 (Hp N ((Aa.mk p0.gK.gH p0.gK.gR p0.gK.gU p0.gK.gJ)) ((Ab.mk p0.gB.gI p0.gB.gF p0.gB.gG)) p1).bind fun v1 =>
 AL ((v1.2 == 0))
  (some ((Ao.mk ((Aa.mk p0.gK.gH p0.gK.gR p0.gK.gU p0.gK.gJ)) p0.gZ p0.gE p0.gQ v1.1)))
  (some ((Ao.mk ((Aa.mk p0.gK.gH p0.gK.gR p0.gK.gU p0.gK.gJ)) p0.gZ p0.gE p0.gQ ((Ab.mk p0.gB.gI p0.gB.gF p0.gB.gG)))))
def Ci (N : Nat) (p0 : Ao) (p1 : Ad) : Option Ao :=
 (Bg p0.gZ p0.gE).bind fun v1 =>
 AL ((p1.gD == 2))
  (AL ((v1.gD == 1))
   ((C9 N ((Ao.mk ((Aa.mk p0.gK.gH p0.gK.gR p0.gK.gU p0.gK.gJ)) p0.gZ p0.gE 1 ((Ab.mk p0.gB.gI p0.gB.gF p0.gB.gG)))) v1).bind fun v4 =>
   some ((Ao.mk ((Aa.mk v4.gK.gH v4.gK.gR v4.gK.gU v4.gK.gJ)) v4.gZ v4.gE v4.gQ ((Ab.mk v4.gB.gI v4.gB.gF v4.gB.gG)))))
   (some ((Ao.mk ((Aa.mk p0.gK.gH p0.gK.gR p0.gK.gU p0.gK.gJ)) p0.gZ p0.gE 1 ((Ab.mk p0.gB.gI p0.gB.gF p0.gB.gG))))))
  (AL ((p1.gD == 3))
   (A7 (fun (v6 : Ao) =>
    some ((Ao.mk ((Aa.mk v6.gK.gH v6.gK.gR v6.gK.gU v6.gK.gJ)) v6.gZ ((wI .i64 (v6.gE + 1))) 0 ((Ab.mk v6.gB.gI v6.gB.gF v6.gB.gG)))))
   fun j6 =>
   AL ((v1.gD != 1))
    ((C9 N ((Ao.mk ((Aa.mk p0.gK.gH p0.gK.gR p0.gK.gU p0.gK.gJ)) p0.gZ p0.gE p0.gQ ((Ab.mk p0.gB.gI p0.gB.gF p0.gB.gG)))) v1).bind fun v8 =>
    j6 (Ao.mk ((Aa.mk v8.gK.gH v8.gK.gR v8.gK.gU v8.gK.gJ)) v8.gZ v8.gE v8.gQ ((Ab.mk v8.gB.gI v8.gB.gF v8.gB.gG))))
    (j6 (Ao.mk ((Aa.mk p0.gK.gH p0.gK.gR p0.gK.gU p0.gK.gJ)) p0.gZ p0.gE p0.gQ ((Ab.mk p0.gB.gI p0.gB.gF p0.gB.gG)))))
   (AL ((p1.gD == 4))
    (some ((Ao.mk ((Aa.mk p0.gK.gH p0.gK.gR p0.gK.gU p0.gK.gJ)) p0.gZ p0.gE 2 ((Ab.mk p0.gB.gI p0.gB.gF p0.gB.gG)))))
    (AL ((p1.gD == 5))
     ((C9 N ((Ao.mk ((Aa.mk p0.gK.gH p0.gK.gR p0.gK.gU p0.gK.gJ)) p0.gZ p0.gE 0 ((Ab.mk p0.gB.gI p0.gB.gF p0.gB.gG)))) ((Ae.mk 4 v1.gL 0))).bind fun v11 =>
     some ((Ao.mk ((Aa.mk v11.gK.gH v11.gK.gR v11.gK.gU v11.gK.gJ)) v11.gZ v11.gE v11.gQ ((Ab.mk v11.gB.gI v11.gB.gF v11.gB.gG)))))
     (some ((Ao.mk ((Aa.mk p0.gK.gH p0.gK.gR p0.gK.gU p0.gK.gJ)) p0.gZ p0.gE p0.gQ ((Ab.mk p0.gB.gI p0.gB.gF p0.gB.gG))))))))
def EO (N : Nat) (p0 : Ao) (p1 : BI) (p2 : List Int) (p3 : Ad) : Option (Int × Ao × BI × (List (Int × Int))) :=
 A7 (fun (v1 : (List (Int × Int)) × Ao × Int × Int × Bool) =>
  some (0, (Ao.mk ((Aa.mk v1.2.1.gK.gH v1.2.1.gK.gR v1.2.1.gK.gU v1.2.1.gK.gJ)) v1.2.1.gZ v1.2.1.gE v1.2.1.gQ ((Ab.mk v1.2.1.gB.gI v1.2.1.gB.gF v1.2.1.gB.gG))), (BI.mk v1.2.2.1 v1.2.2.2.1 v1.2.2.2.2 v1.1), v1.1))
 fun j1 =>
 A7 (fun (v2 : Bool) =>
  AL v2
   (some (1, (Ao.mk ((Aa.mk p0.gK.gH p0.gK.gR p0.gK.gU p0.gK.gJ)) p0.gZ p0.gE p0.gQ ((Ab.mk p0.gB.gI p0.gB.gF p0.gB.gG))), p1, p1.qo))
   (A7 (fun (v6 : Bool) =>
    AL v6
     (some (2, (Ao.mk ((Aa.mk p0.gK.gH p0.gK.gR p0.gK.gU p0.gK.gJ)) p0.gZ p0.gE p0.gQ ((Ab.mk p0.gB.gI p0.gB.gF p0.gB.gG))), p1, p1.qo))
     ((EG N p1 p3).bind fun v11 =>
     AL ((!v11.1))
      (some (3, (Ao.mk ((Aa.mk p0.gK.gH p0.gK.gR p0.gK.gU p0.gK.gJ)) p0.gZ p0.gE p0.gQ ((Ab.mk p0.gB.gI p0.gB.gF p0.gB.gG))), (BI.mk v11.2.1.hM v11.2.1.hO v11.2.1.qc v11.2.2), v11.2.2))
      (AL ((p3.gD == 6))
       ((F8 N p2 p3.gO).bind fun v14 =>
       A7 (fun (v15 : Bool) =>
        AL v15
         (some (4, (Ao.mk ((Aa.mk p0.gK.gH p0.gK.gR p0.gK.gU p0.gK.gJ)) p0.gZ p0.gE p0.gQ ((Ab.mk p0.gB.gI p0.gB.gF p0.gB.gG))), (BI.mk v11.2.1.hM v11.2.1.hO v11.2.1.qc v11.2.2), v11.2.2))
         (j1 (v11.2.2, (Ao.mk ((Aa.mk p0.gK.gH p0.gK.gR p0.gK.gU p0.gK.gJ)) p0.gZ p0.gE p0.gQ ((Ab.mk p0.gB.gI p0.gB.gF p0.gB.gG))), v11.2.1.hM, v11.2.1.hO, v11.2.1.qc)))
       fun j15 =>
       AL ((decide (v14 < 0)))
        (j15 true)
        ((Dw N ((Ab.mk p0.gB.gI p0.gB.gF p0.gB.gG)) v14 p3.gV).bind fun v17 =>
        j15 (!v17)))
       (AL ((p3.gD == 1))
        ((Fp N ((Aa.mk p0.gK.gH p0.gK.gR p0.gK.gU p0.gK.gJ)) ((Ab.mk p0.gB.gI p0.gB.gF p0.gB.gG)) p3).bind fun v20 =>
        AL ((!v20))
         (some (5, (Ao.mk ((Aa.mk p0.gK.gH p0.gK.gR p0.gK.gU p0.gK.gJ)) p0.gZ p0.gE p0.gQ ((Ab.mk p0.gB.gI p0.gB.gF p0.gB.gG))), (BI.mk v11.2.1.hM v11.2.1.hO v11.2.1.qc v11.2.2), v11.2.2))
         (j1 (v11.2.2, (Ao.mk ((Aa.mk p0.gK.gH p0.gK.gR p0.gK.gU p0.gK.gJ)) p0.gZ p0.gE p0.gQ ((Ab.mk p0.gB.gI p0.gB.gF p0.gB.gG))), v11.2.1.hM, v11.2.1.hO, v11.2.1.qc)))
        ((Ez N p3).bind fun v22 =>
        AL v22
         ((Ci N ((Ao.mk ((Aa.mk p0.gK.gH p0.gK.gR p0.gK.gU p0.gK.gJ)) p0.gZ p0.gE p0.gQ ((Ab.mk p0.gB.gI p0.gB.gF p0.gB.gG)))) p3).bind fun v24 =>
         j1 (v11.2.2, (Ao.mk ((Aa.mk v24.gK.gH v24.gK.gR v24.gK.gU v24.gK.gJ)) v24.gZ v24.gE v24.gQ ((Ab.mk v24.gB.gI v24.gB.gF v24.gB.gG))), v11.2.1.hM, v11.2.1.hO, v11.2.1.qc))
         (j1 (v11.2.2, (Ao.mk ((Aa.mk p0.gK.gH p0.gK.gR p0.gK.gU p0.gK.gJ)) p0.gZ p0.gE p0.gQ ((Ab.mk p0.gB.gI p0.gB.gF p0.gB.gG))), v11.2.1.hM, v11.2.1.hO, v11.2.1.qc)))))))
   fun j6 =>
   (Ez N p3).bind fun v7 =>
   AL v7
    ((Cr N ((Ao.mk ((Aa.mk p0.gK.gH p0.gK.gR p0.gK.gU p0.gK.gJ)) p0.gZ p0.gE p0.gQ ((Ab.mk p0.gB.gI p0.gB.gF p0.gB.gG)))) p3).bind fun v9 =>
    j6 (!v9))
    (j6 false)))
 fun j2 =>
 AL ((p3.gD == 1))
  ((FW N ((Aa.mk p0.gK.gH p0.gK.gR p0.gK.gU p0.gK.gJ)) p3).bind fun v4 =>
  j2 (!v4))
  (j2 false)
def EJ (N : Nat) (p1 : List Int) (p3 : List Ad) (j11 : Ao → Option (Int × Int × (Option Ao) × Int)) : Nat → (Ao × Int × Int × Bool × (List (Int × Int)) × Int) → Option (Int × Int × (Option Ao) × Int)
 | 0, _ => none
 | n11 + 1, v11 =>
  AL ((decide (v11.2.2.2.2.2 < (p3.length : Int))))
   ((Bg p3 v11.2.2.2.2.2).bind fun v14 =>
   (EO N ((Ao.mk ((Aa.mk v11.1.gK.gH v11.1.gK.gR v11.1.gK.gU v11.1.gK.gJ)) v11.1.gZ v11.1.gE v11.1.gQ ((Ab.mk v11.1.gB.gI v11.1.gB.gF v11.1.gB.gG)))) ((BI.mk v11.2.1 v11.2.2.1 v11.2.2.2.1 v11.2.2.2.2.1)) p1 v14).bind fun v15 =>
   AL ((v15.1 != 0))
    (some (v11.2.2.2.2.2, v15.1, (none : Option Ao), 0))
    (EJ N p1 p3 j11 n11 ((Ao.mk ((Aa.mk v15.2.1.gK.gH v15.2.1.gK.gR v15.2.1.gK.gU v15.2.1.gK.gJ)) v15.2.1.gZ v15.2.1.gE v15.2.1.gQ ((Ab.mk v15.2.1.gB.gI v15.2.1.gB.gF v15.2.1.gB.gG))), v15.2.2.1.hM, v15.2.2.1.hO, v15.2.2.1.qc, v15.2.2.2, (wI .i64 (v11.2.2.2.2.2 + 1)))))
   (j11 (Ao.mk ((Aa.mk v11.1.gK.gH v11.1.gK.gR v11.1.gK.gU v11.1.gK.gJ)) v11.1.gZ v11.1.gE v11.1.gQ ((Ab.mk v11.1.gB.gI v11.1.gB.gF v11.1.gB.gG))))
def GV (N : Nat) (p0 : Aa) (p1 : List Int) (p2 : List Ae) (p3 : List Ad) : Option (Int × Int × (Option Ao) × Int) :=
 (CP N p0).bind fun v1 =>
 AL ((v1 != 0))
  (some (0, 0, (none : Option Ao), v1))
  ((F9 N p0 p1).bind fun v3 =>
  AL ((v3 != 0))
   (some (0, 0, (none : Option Ao), v3))
   ((EN N p0 p2).bind fun v5 =>
   A7 (fun (v6 : Int) =>
    AL ((v6 != 0))
     (some (0, 0, (none : Option Ao), v6))
     ((Gq N).bind fun v10 =>
     EJ N p1 p3 (fun (v12 : Ao) =>
      some (0, 0, (some ((Ao.mk ((Aa.mk v12.gK.gH v12.gK.gR v12.gK.gU v12.gK.gJ)) v12.gZ v12.gE v12.gQ ((Ab.mk v12.gB.gI v12.gB.gF v12.gB.gG))))), 15)) N ((Ao.mk p0 p2 0 0 v5.1), v10.hM, v10.hO, v10.qc, v10.qo, 0)))
   fun j6 =>
   AL ((v5.2 == 0))
    ((ET N p3).bind fun v8 =>
    j6 v8)
    (j6 v5.2)))
def Ft (N : Nat) (p0 : Aa) (p1 : List Int) (p2 : List Ae) (p3 : List Ad) : Option (Int × Int × Int) :=
 (GV N p0 p1 p2 p3).bind fun v1 =>
 some (v1.1, v1.2.1, v1.2.2.2)
def D3 (N : Nat) (p2 : List Ad) (j8 : Ao → Option ((Option Ao) × Int × Int)) : Nat → (Ao × Int) → Option ((Option Ao) × Int × Int)
 | 0, _ => none
 | n8 + 1, v8 =>
  AL ((decide (v8.2 < (p2.length : Int))))
   (A7 (fun (v11 : Ao) =>
    D3 N p2 j8 n8 ((Ao.mk ((Aa.mk v11.gK.gH v11.gK.gR v11.gK.gU v11.gK.gJ)) v11.gZ v11.gE v11.gQ ((Ab.mk v11.gB.gI v11.gB.gF v11.gB.gG))), (wI .i64 (v8.2 + 1))))
   fun j11 =>
   (Bg p2 v8.2).bind fun v12 =>
   (Ez N v12).bind fun v13 =>
   AL ((!v13))
    (j11 (Ao.mk ((Aa.mk v8.1.gK.gH v8.1.gK.gR v8.1.gK.gU v8.1.gK.gJ)) v8.1.gZ v8.1.gE v8.1.gQ ((Ab.mk v8.1.gB.gI v8.1.gB.gF v8.1.gB.gG))))
    ((Cr N ((Ao.mk ((Aa.mk v8.1.gK.gH v8.1.gK.gR v8.1.gK.gU v8.1.gK.gJ)) v8.1.gZ v8.1.gE v8.1.gQ ((Ab.mk v8.1.gB.gI v8.1.gB.gF v8.1.gB.gG)))) v12).bind fun v15 =>
    AL ((!v15))
     (some ((some ((Ao.mk ((Aa.mk v8.1.gK.gH v8.1.gK.gR v8.1.gK.gU v8.1.gK.gJ)) v8.1.gZ v8.1.gE v8.1.gQ ((Ab.mk v8.1.gB.gI v8.1.gB.gF v8.1.gB.gG))))), v8.2, 0))
     ((Ci N ((Ao.mk ((Aa.mk v8.1.gK.gH v8.1.gK.gR v8.1.gK.gU v8.1.gK.gJ)) v8.1.gZ v8.1.gE v8.1.gQ ((Ab.mk v8.1.gB.gI v8.1.gB.gF v8.1.gB.gG)))) v12).bind fun v17 =>
     j11 (Ao.mk ((Aa.mk v17.gK.gH v17.gK.gR v17.gK.gU v17.gK.gJ)) v17.gZ v17.gE v17.gQ ((Ab.mk v17.gB.gI v17.gB.gF v17.gB.gG))))))
   (j8 (Ao.mk ((Aa.mk v8.1.gK.gH v8.1.gK.gR v8.1.gK.gU v8.1.gK.gJ)) v8.1.gZ v8.1.gE v8.1.gQ ((Ab.mk v8.1.gB.gI v8.1.gB.gF v8.1.gB.gG))))
def FT (N : Nat) (p0 : Aa) (p1 : List Ae) (p2 : List Ad) : Option ((Option Ao) × Int × Int) :=
 (CP N p0).bind fun v1 =>
 AL ((v1 != 0))
  (some ((none : Option Ao), 0, v1))
  ((EN N p0 p1).bind fun v3 =>
  A7 (fun (v4 : Int) =>
   AL ((v4 != 0))
    (some ((none : Option Ao), 0, v4))
    (D3 N p2 (fun (v9 : Ao) =>
     some ((some ((Ao.mk ((Aa.mk v9.gK.gH v9.gK.gR v9.gK.gU v9.gK.gJ)) v9.gZ v9.gE v9.gQ ((Ab.mk v9.gB.gI v9.gB.gF v9.gB.gG))))), (-1), 0)) N ((Ao.mk p0 p1 0 0 v3.1), 0)))
  fun j4 =>
  AL ((v3.2 == 0))
   ((ET N p2).bind fun v6 =>
   j4 v6)
   (j4 v3.2))
def G9 (N : Nat) (p0 : Aa) (p1 : List Ae) (p2 : List Ad) : Option (Ab × Int) :=
 (FT N p0 p1 p2).bind fun v1 =>
 AL ((v1.2.2 != 0))
  (some ((Ab.mk (([] : List Int)) (([] : List Int)) (([] : List Int))), v1.2.2))
  (AL ((decide (0 ≤ v1.2.1)))
   (some ((Ab.mk (([] : List Int)) (([] : List Int)) (([] : List Int))), 11))
   (v1.1.bind fun v4 =>
   some ((Ab.mk v4.gB.gI v4.gB.gF v4.gB.gG), 0)))
def G6 (_ : Nat) (p0 p1 : Int) : Option ByteArray := (ES (p1 = 10)).bind fun _ => Rs p0
def Hd (N : Nat) (v5 : (List Int)) (j6 : ByteArray → Option ByteArray) : Nat → (ByteArray × Int) → Option ByteArray
 | 0, _ => none
 | n6 + 1, v6 =>
  AL ((decide (v6.2 < (v5.length : Int))))
   ((Bg v5 v6.2).bind fun v9 =>
   (G6 N v9 10).bind fun v10 =>
   (ES (((⟨#[32]⟩ : ByteArray)).size + v10.size ≤ 9223372036854775807)).bind fun _ =>
   (ES (v6.1.size + (((⟨#[32]⟩ : ByteArray) ++ v10)).size ≤ 9223372036854775807)).bind fun _ =>
   Hd N v5 j6 n6 ((v6.1 ++ ((⟨#[32]⟩ : ByteArray) ++ v10)), (wI .i64 (v6.2 + 1))))
   (j6 v6.1)
def GB (N : Nat) (p0 : Ad) : Option ByteArray :=
 (G6 N p0.gE 10).bind fun v1 =>
 (ES (v1.size + ((⟨#[32]⟩ : ByteArray)).size ≤ 9223372036854775807)).bind fun _ =>
 (GF N p0.gD).bind fun v3 =>
 (ES (((v1 ++ (⟨#[32]⟩ : ByteArray))).size + v3.size ≤ 9223372036854775807)).bind fun _ =>
 (Fd N p0).bind fun v5 =>
 Hd N v5 (fun (v7 : ByteArray) =>
  (ES (v7.size + ((⟨#[10]⟩ : ByteArray)).size ≤ 9223372036854775807)).bind fun _ =>
  some ((v7 ++ (⟨#[10]⟩ : ByteArray)))) N (((v1 ++ (⟨#[32]⟩ : ByteArray)) ++ v3), 0)
def FP (line : Ad → Option ByteArray) : List Ad → ByteArray → Option ByteArray
 | [], a => some a
 | x :: xs, a => (line x).bind fun s => (ES (a.size + s.size ≤ 140737488355328)).bind fun _ => FP line xs (a ++ s)
def Lg (N : Nat) (p0 : List Ad) : Option (ByteArray × Int) :=
 (ES (p0.length ≤ 1000000)).bind fun _ =>
 (ET N p0).bind fun v1 =>
 AL (v1 != 0)
  (some (⟨#[]⟩, v1))
  ((FP (fun x => GB N x) p0 ⟨#[]⟩).bind fun s =>
  AL (decide (65536 < s.size)) (some (⟨#[]⟩, 3)) (some (s, 0)))
def Kn (_ : Nat) (p0 : Int) : Option ByteArray :=
 (Bg (([(⟨#[]⟩ : ByteArray), (⟨#[114, 101, 97, 100]⟩ : ByteArray), (⟨#[111, 114, 100, 101, 114]⟩ : ByteArray), (⟨#[116, 111, 107, 101, 110]⟩ : ByteArray), (⟨#[115, 119, 105, 116, 99, 104]⟩ : ByteArray), (⟨#[109, 105, 120]⟩ : ByteArray)] : List ByteArray)) p0).bind fun v1 =>
 some v1
def Le (_ : Nat) (p0 : Int) : Option ByteArray := Rs p0
def Ef (_ : Nat) (p0 : ByteArray) (p1 : ByteArray) : Option Bool :=
 A7 (fun (v1 : Bool) =>
  some v1)
 fun j1 =>
 AL ((decide ((p1.size : Int) ≤ (p0.size : Int))))
  ((ES ((0 : Int) ≤ (wI .i64 ((p0.size : Int) - (p1.size : Int))) ∧ ((wI .i64 ((p0.size : Int) - (p1.size : Int)))).toNat ≤ p0.size ∧ p0.size ≤ p0.size)).bind fun _ =>
  j1 (((p0.extract (((wI .i64 ((p0.size : Int) - (p1.size : Int)))).toNat) p0.size)).toList == p1.toList))
  (j1 false)
def DW (N : Nat) (p0 : ByteArray) (p1 : ByteArray) : Option ByteArray :=
 (Ef N p0 p1).bind fun v1 =>
 AL v1
  ((ES ((0 : Int) ≤ (wI .i64 ((p0.size : Int) - (p1.size : Int))) ∧ 0 ≤ ((wI .i64 ((p0.size : Int) - (p1.size : Int)))).toNat ∧ ((wI .i64 ((p0.size : Int) - (p1.size : Int)))).toNat ≤ p0.size)).bind fun _ =>
  some ((p0.extract 0 (((wI .i64 ((p0.size : Int) - (p1.size : Int)))).toNat))))
  (some p0)
def GK (N : Nat) (p0 : ByteArray) (p1 : ByteArray) : Option ByteArray :=
 (DW N p0 p1).bind fun v1 =>
 some v1
def IZ (N : Nat) (p0 : List Ad) (p1 : Int) (p2 : Int) : Option (ByteArray × Int) :=
 (ET N p0).bind fun v1 =>
 AL ((v1 != 0))
  (some ((⟨#[]⟩ : ByteArray), v1))
  (A7 (fun (v3 : Bool) =>
   AL v3
    (some ((⟨#[]⟩ : ByteArray), 7))
    (A7 (fun (v6 : Bool) =>
     AL v6
      (some ((⟨#[]⟩ : ByteArray), 1))
      ((ES ((0 : Int) ≤ p1 ∧ (0 : Int) ≤ (wI .i64 (p1 + 1)) ∧ (p1).toNat ≤ ((wI .i64 (p1 + 1))).toNat ∧ ((wI .i64 (p1 + 1))).toNat ≤ p0.length)).bind fun _ =>
      (Lg N (((p0.drop (p1).toNat).take (((wI .i64 (p1 + 1))).toNat - (p1).toNat)))).bind fun v10 =>
      AL ((v10.2 != 0))
       (some ((⟨#[]⟩ : ByteArray), v10.2))
       ((Kn N p2).bind fun v12 =>
       (ES (v12.size + ((⟨#[32]⟩ : ByteArray)).size ≤ 9223372036854775807)).bind fun _ =>
       (Le N p1).bind fun v14 =>
       (ES (((v12 ++ (⟨#[32]⟩ : ByteArray))).size + v14.size ≤ 9223372036854775807)).bind fun _ =>
       (ES ((((v12 ++ (⟨#[32]⟩ : ByteArray)) ++ v14)).size + ((⟨#[58, 32]⟩ : ByteArray)).size ≤ 9223372036854775807)).bind fun _ =>
       (GK N v10.1 ((⟨#[10]⟩ : ByteArray))).bind fun v17 =>
       (ES (((((v12 ++ (⟨#[32]⟩ : ByteArray)) ++ v14) ++ (⟨#[58, 32]⟩ : ByteArray))).size + v17.size ≤ 9223372036854775807)).bind fun _ =>
       some (((((v12 ++ (⟨#[32]⟩ : ByteArray)) ++ v14) ++ (⟨#[58, 32]⟩ : ByteArray)) ++ v17), 0))))
    fun j6 =>
    AL ((decide (p2 < 1)))
     (j6 true)
     (j6 (decide (5 < p2)))))
  fun j3 =>
  AL ((decide (p1 < 0)))
   (j3 true)
   (j3 (decide ((p0.length : Int) ≤ p1))))
def EU (N : Nat) : Option Bool :=
 (ES ((0 : Int) ≤ 3 ∧ 0 ≤ (3 : Int).toNat ∧ (3 : Int).toNat ≤ (([(Ad.mk 0 7 0 0 0 0 1 0 0 0 0), (Ad.mk 0 2 0 0 0 0 1 0 0 0 0), (Ad.mk 1 6 0 0 0 0 0 1 0 1 0), (Ad.mk 2 3 0 0 0 1 1 0 0 0 0)] : List Ad)).length)).bind fun _ =>
 (Ft N ((Aa.mk (([2] : List Int)) (([0] : List Int)) (([1] : List Int)) (([] : List AA)))) (([1] : List Int)) (([(Ae.mk 1 0 1), (Ae.mk 2 0 0)] : List Ae)) ((((([(Ad.mk 0 7 0 0 0 0 1 0 0 0 0), (Ad.mk 0 2 0 0 0 0 1 0 0 0 0), (Ad.mk 1 6 0 0 0 0 0 1 0 1 0), (Ad.mk 2 3 0 0 0 1 1 0 0 0 0)] : List Ad)).drop 0).take ((3 : Int).toNat - 0)))).bind fun v2 =>
 (ES ((0 : Int) ≤ 3 ∧ 0 ≤ (3 : Int).toNat ∧ (3 : Int).toNat ≤ (([(Ad.mk 0 7 0 0 0 0 1 0 0 0 0), (Ad.mk 0 2 0 0 0 0 1 0 0 0 0), (Ad.mk 1 6 0 0 0 0 0 1 0 1 0), (Ad.mk 2 3 0 0 0 1 1 0 0 0 0)] : List Ad)).length)).bind fun _ =>
 (G9 N ((Aa.mk (([2] : List Int)) (([0] : List Int)) (([1] : List Int)) (([] : List AA)))) (([(Ae.mk 1 0 1), (Ae.mk 2 0 0)] : List Ae)) ((((([(Ad.mk 0 7 0 0 0 0 1 0 0 0 0), (Ad.mk 0 2 0 0 0 0 1 0 0 0 0), (Ad.mk 1 6 0 0 0 0 0 1 0 1 0), (Ad.mk 2 3 0 0 0 1 1 0 0 0 0)] : List Ad)).drop 0).take ((3 : Int).toNat - 0)))).bind fun v4 =>
 (Ft N ((Aa.mk (([2] : List Int)) (([0] : List Int)) (([1] : List Int)) (([] : List AA)))) (([1] : List Int)) (([(Ae.mk 1 0 1), (Ae.mk 2 0 0)] : List Ae)) (([(Ad.mk 0 7 0 0 0 0 1 0 0 0 0), (Ad.mk 0 2 0 0 0 0 1 0 0 0 0), (Ad.mk 1 6 0 0 0 0 0 1 0 1 0), (Ad.mk 2 3 0 0 0 1 1 0 0 0 0)] : List Ad))).bind fun v5 =>
 (IZ N (([(Ad.mk 0 7 0 0 0 0 1 0 0 0 0), (Ad.mk 0 2 0 0 0 0 1 0 0 0 0), (Ad.mk 1 6 0 0 0 0 0 1 0 1 0), (Ad.mk 2 3 0 0 0 1 1 0 0 0 0)] : List Ad)) 3 2).bind fun v6 =>
 A7 (fun (v7 : Bool) =>
  some v7)
 fun j7 =>
 AL ((v2.2.2 == 15))
  (AL ((v4.2 == 0))
   (AL ((v5.2.2 == 0))
    (AL ((v6.2 == 0))
     (AL (((v4.1.gF.length : Int) == 1))
      ((Bg v4.1.gF 0).bind fun v13 =>
      AL ((v13 == 1))
       (AL ((v5.1 == 3))
        (AL ((v5.2.1 == 2))
         (j7 (v6.1.toList == ((⟨#[111, 114, 100, 101, 114, 32, 51, 58, 32, 50, 32, 100, 111, 110, 101, 32, 49, 32, 49]⟩ : ByteArray)).toList))
         (j7 false))
        (j7 false))
       (j7 false))
      (j7 false))
     (j7 false))
    (j7 false))
   (j7 false))
  (j7 false)
def Es (_ : Nat) (p0 : List Int) (p1 : Int) : Option Int :=
 AL ((decide (p1 < (p0.length : Int))))
  ((Bg p0 p1).bind fun v2 =>
  some ((wI .i64 v2)))
  (some 0)
def Bd (_ : Nat) (p0 : AA) : Option Bool :=
 A7 (fun (v1 : Bool) =>
  some v1)
 fun j1 =>
 AL ((p0.gD == 3))
  (j1 true)
  (j1 (p0.gD == 4))
def CA (N : Nat) (p1 : Int) (p2 : Int) (p3 : Bool) (v1 : (List (List Bool)) × Int) (j4 : ((List Bool)) → Option ((List (List Bool)))) : Nat → ((List Bool) × Int) → Option ((List (List Bool)))
 | 0, _ => none
 | n4 + 1, v4 =>
  AL ((decide (v4.2 < p1)))
   (A7 (fun (v7 : (List Bool)) =>
    CA N p1 p2 p3 v1 j4 n4 (v7, (wI .i64 (v4.2 + 1))))
   fun j7 =>
   AL p3
    (AL ((v1.2 == v4.2))
     ((ES (v4.1.length + (([true] : List Bool)).length ≤ EI)).bind fun _ =>
     j7 (v4.1 ++ (([true] : List Bool))))
     ((ES (0 ≤ (wI .i64 ((wI .i64 (3 * v1.2)) + v4.2)))).bind fun _ =>
     (ES (v4.1.length + (([((zJ ((Gy .u16 p2 ((wI .i64 ((wI .i64 (3 * v1.2)) + v4.2))))) 2) == 0)] : List Bool)).length ≤ EI)).bind fun _ =>
     j7 (v4.1 ++ (([((zJ ((Gy .u16 p2 ((wI .i64 ((wI .i64 (3 * v1.2)) + v4.2))))) 2) == 0)] : List Bool)))))
    ((ES (0 ≤ (wI .i64 ((wI .i64 (3 * v1.2)) + v4.2)))).bind fun _ =>
    (ES (v4.1.length + (([((zJ ((Gy .u16 p2 ((wI .i64 ((wI .i64 (3 * v1.2)) + v4.2))))) 2) == 0)] : List Bool)).length ≤ EI)).bind fun _ =>
    j7 (v4.1 ++ (([((zJ ((Gy .u16 p2 ((wI .i64 ((wI .i64 (3 * v1.2)) + v4.2))))) 2) == 0)] : List Bool)))))
   (j4 v4.1)
def CC (N : Nat) (p0 : Int) (p1 : Int) (p2 : Int) (p3 : Bool) (j1 : ((List (List Bool))) → Option ((List (List Bool)))) : Nat → ((List (List Bool)) × Int) → Option ((List (List Bool)))
 | 0, _ => none
 | n1 + 1, v1 =>
  AL ((decide (v1.2 < p0)))
   (CA N p1 p2 p3 v1 (fun (v5 : (List Bool)) =>
    (ES (v1.1.length + (([v5] : List (List Bool))).length ≤ EI)).bind fun _ =>
    CC N p0 p1 p2 p3 j1 n1 (v1.1 ++ (([v5] : List (List Bool))), (wI .i64 (v1.2 + 1)))) N (([] : List Bool), 0))
   (j1 v1.1)
def Et (N : Nat) (p0 : Int) (p1 : Int) (p2 : Int) (p3 : Bool) : Option ((List (List Bool))) :=
 CC N p0 p1 p2 p3 (fun (v2 : (List (List Bool))) =>
  some v2) N (([] : List (List Bool)), 0)
def C2 (N : Nat) (p0 : BG) (j4 : ((List Int) × (List Int) × (List Int)) → Option (Aa × Bool)) : Nat → ((List Int) × (List Int) × (List Int) × Int) → Option (Aa × Bool)
 | 0, _ => none
 | n4 + 1, v4 =>
  AL ((decide (v4.2.2.2 < (p0.gH.length : Int))))
   ((Bg p0.gH v4.2.2.2).bind fun v7 =>
   (ES (v4.1.length + (([(wI .i64 (1 + (wI .i64 ((zJ v7 3)))))] : List Int)).length ≤ EI)).bind fun _ =>
   (Es N p0.gR v4.2.2.2).bind fun v9 =>
   (ES ((wI .i64 (1 + (wI .i64 ((zJ v7 3))))) ≠ 0)).bind fun _ =>
   (ES (v4.2.1.length + (([(zJ v9 ((wI .i64 (1 + (wI .i64 ((zJ v7 3)))))))] : List Int)).length ≤ EI)).bind fun _ =>
   (Es N p0.gU v4.2.2.2).bind fun v12 =>
   (ES ((wI .i64 (1 + (wI .i64 ((zJ v7 3))))) ≠ 0)).bind fun _ =>
   (ES (v4.2.2.1.length + (([(zJ v12 ((wI .i64 (1 + (wI .i64 ((zJ v7 3)))))))] : List Int)).length ≤ EI)).bind fun _ =>
   C2 N p0 j4 n4 (v4.1 ++ (([(wI .i64 (1 + (wI .i64 ((zJ v7 3)))))] : List Int)), v4.2.1 ++ (([(zJ v9 ((wI .i64 (1 + (wI .i64 ((zJ v7 3)))))))] : List Int)), v4.2.2.1 ++ (([(zJ v12 ((wI .i64 (1 + (wI .i64 ((zJ v7 3)))))))] : List Int)), (wI .i64 (v4.2.2.2 + 1))))
   (j4 (v4.1, v4.2.1, v4.2.2.1))
def BN (N : Nat) (p0 : BG) (v5 : (List Int) × (List Int) × (List Int)) (j15 : ((List AA)) → Option (Aa × Bool)) : Nat → ((List AA) × Int) → Option (Aa × Bool)
 | 0, _ => none
 | n15 + 1, v15 =>
  A7 (fun (v17 : Bool) =>
   AL v17
    ((Bg p0.qy v15.2).bind fun v20 =>
    (ES ((v5.1.length : Int) ≠ 0)).bind fun _ =>
    (ES ((v5.1.length : Int) ≠ 0)).bind fun _ =>
    A7 (fun (v23 : Bool) =>
     (Bg v5.1 ((zJ ((wI .i64 v20.gM)) ((v5.1.length : Int))))).bind fun v26 =>
     (Bg v5.1 ((zJ ((wI .i64 v20.gW)) ((v5.1.length : Int))))).bind fun v27 =>
     (Et N v26 v27 v20.qE false).bind fun v28 =>
     A7 (fun (v29 : (List (List Bool))) =>
      (ES (v15.1.length + (([(AA.mk ((wI .i64 (1 + (wI .i64 ((zJ v20.gD 4)))))) ((zJ ((wI .i64 v20.gM)) ((v5.1.length : Int)))) ((zJ ((wI .i64 v20.gW)) ((v5.1.length : Int)))) v23 v28 v29)] : List AA)).length ≤ EI)).bind fun _ =>
      BN N p0 v5 j15 n15 (v15.1 ++ (([(AA.mk ((wI .i64 (1 + (wI .i64 ((zJ v20.gD 4)))))) ((zJ ((wI .i64 v20.gM)) ((v5.1.length : Int)))) ((zJ ((wI .i64 v20.gW)) ((v5.1.length : Int)))) v23 v28 v29)] : List AA)), (wI .i64 (v15.2 + 1))))
     fun j29 =>
     AL (((wI .i64 (1 + (wI .i64 ((zJ v20.gD 4))))) == 4))
      ((Bg v5.1 ((zJ ((wI .i64 v20.gM)) ((v5.1.length : Int))))).bind fun v31 =>
      (Bg v5.1 ((zJ ((wI .i64 v20.gM)) ((v5.1.length : Int))))).bind fun v32 =>
      (Et N v31 v32 v20.qF true).bind fun v33 =>
      j29 v33)
      (j29 ([] : List (List Bool))))
    fun j23 =>
    AL v20.qr
     ((Bd N ((AA.mk ((wI .i64 (1 + (wI .i64 ((zJ v20.gD 4)))))) ((zJ ((wI .i64 v20.gM)) ((v5.1.length : Int)))) ((zJ ((wI .i64 v20.gW)) ((v5.1.length : Int)))) false (([] : List (List Bool))) (([] : List (List Bool)))))).bind fun v25 =>
     j23 (!v25))
     (j23 false))
    (j15 v15.1))
  fun j17 =>
  AL ((decide (v15.2 < (p0.qy.length : Int))))
   (j17 (decide (0 < (v5.1.length : Int))))
   (j17 false)
def Fc (N : Nat) (p0 : BG) : Option (Aa × Bool) :=
 A7 (fun (v1 : Bool) =>
  AL v1
   (some ((Aa.mk (([] : List Int)) (([] : List Int)) (([] : List Int)) (([] : List AA))), false))
   (C2 N p0 (fun (v5 : (List Int) × (List Int) × (List Int)) =>
    BN N p0 v5 (fun (v16 : (List AA)) =>
     some ((Aa.mk v5.1 v5.2.1 v5.2.2 v16), true)) N (([] : List AA), 0)) N (([] : List Int), ([] : List Int), ([] : List Int), 0)))
 fun j1 =>
 AL ((decide (3 < (p0.gH.length : Int))))
  (j1 true)
  (j1 (decide (4 < (p0.qy.length : Int))))
def CJ (N : Nat) (p0 : List (List Bool)) (p1 : Int) (p2 : Int) (j2 : Unit → Option Bool) : Nat → Int → Option Bool
 | 0, _ => none
 | n2 + 1, v2 =>
  AL ((decide (v2 < p1)))
   ((Bg p0 v2).bind fun v5 =>
   AL (((v5.length : Int) != p2))
    (some false)
    (CJ N p0 p1 p2 j2 n2 (wI .i64 (v2 + 1))))
   (j2 ())
def DO (N : Nat) (p0 : List (List Bool)) (p1 : Int) (p2 : Int) : Option Bool :=
 AL (((p0.length : Int) != p1))
  (some false)
  (CJ N p0 p1 p2 (fun (_ : Unit) =>
   some true) N 0)
def Cf (N : Nat) (p1 : AA) (j22 : Unit → Option Int) : Nat → Int → Option Int
 | 0, _ => none
 | n22 + 1, v22 =>
  AL ((decide (v22 < (p1.g9.length : Int))))
   ((Bg p1.g9 v22).bind fun v25 =>
   (Bg v25 v22).bind fun v26 =>
   AL ((!v26))
    (some 1)
    (Cf N p1 j22 n22 (wI .i64 (v22 + 1))))
   (j22 ())
def E2 (N : Nat) (p0 : Aa) (p1 : AA) : Option Int :=
 A7 (fun (v1 : Bool) =>
  AL v1
   (some 1)
   (A7 (fun (v7 : Bool) =>
    AL v7
     (some 4)
     ((Bg p0.gH p1.gM).bind fun v12 =>
     (Bg p0.gH p1.gW).bind fun v13 =>
     (DO N p1.gY v12 v13).bind fun v14 =>
     AL ((!v14))
      (some 6)
      (AL ((p1.gD != 4))
       (AL (((p1.g9.length : Int) != 0))
        (some 6)
        (some 0))
       ((Bg p0.gH p1.gM).bind fun v18 =>
       (Bg p0.gH p1.gM).bind fun v19 =>
       (DO N p1.g9 v18 v19).bind fun v20 =>
       AL ((!v20))
        (some 6)
        (Cf N p1 (fun (_ : Unit) =>
         some 0) N 0)))))
   fun j7 =>
   AL ((decide (p1.gM < 0)))
    (j7 true)
    (AL ((decide ((p0.gH.length : Int) ≤ p1.gM)))
     (j7 true)
     (AL ((decide (p1.gW < 0)))
      (j7 true)
      (j7 (decide ((p0.gH.length : Int) ≤ p1.gW)))))))
 fun j1 =>
 AL ((decide (p1.gD < 1)))
  (j1 true)
  (AL ((decide (4 < p1.gD)))
   (j1 true)
   (AL p1.qr
    ((Bd N p1).bind fun v5 =>
    j1 v5)
    (j1 false)))
def Bt (N : Nat) (p0 : Aa) (j7 : Unit → Option Int) : Nat → Int → Option Int
 | 0, _ => none
 | n7 + 1, v7 =>
  AL ((decide (v7 < (p0.gH.length : Int))))
   ((Bg p0.gH v7).bind fun v10 =>
   A7 (fun (v11 : Bool) =>
    AL v11
     (some 7)
     (Bt N p0 j7 n7 (wI .i64 (v7 + 1))))
   fun j11 =>
   AL ((decide (v10 < 1)))
    (j11 true)
    (AL ((decide (6 < v10)))
     (j11 true)
     ((Bg p0.gR v7).bind fun v14 =>
     AL ((decide (v14 < 0)))
      (j11 true)
      ((Bg p0.gR v7).bind fun v16 =>
      AL ((decide (v10 ≤ v16)))
       (j11 true)
       ((Bg p0.gU v7).bind fun v18 =>
       AL ((decide (v18 < 0)))
        (j11 true)
        ((Bg p0.gU v7).bind fun v20 =>
        j11 (decide (v10 ≤ v20))))))))
   (j7 ())
def Bq (N : Nat) (p0 : Aa) (j22 : Unit → Option Int) : Nat → Int → Option Int
 | 0, _ => none
 | n22 + 1, v22 =>
  AL ((decide (v22 < (p0.gJ.length : Int))))
   ((Bg p0.gJ v22).bind fun v25 =>
   (E2 N p0 v25).bind fun v26 =>
   AL ((v26 != 0))
    (some v26)
    (Bq N p0 j22 n22 (wI .i64 (v22 + 1))))
   (j22 ())
def BQ (N : Nat) (p0 : Aa) : Option Int :=
 A7 (fun (v1 : Bool) =>
  AL v1
   (some 3)
   (A7 (fun (v4 : Bool) =>
    AL v4
     (some 6)
     (Bt N p0 (fun (_ : Unit) =>
      Bq N p0 (fun (_ : Unit) =>
       some 0) N 0) N 0))
   fun j4 =>
   AL (((p0.gR.length : Int) != (p0.gH.length : Int)))
    (j4 true)
    (j4 ((p0.gU.length : Int) != (p0.gH.length : Int)))))
 fun j1 =>
 AL ((decide (6 < (p0.gH.length : Int))))
  (j1 true)
  (j1 (decide (12 < (p0.gJ.length : Int))))
def Cq (N : Nat) (p0 : Aa) (j3 : ((List Int) × (List Int)) → Option (Ab × Int)) : Nat → ((List Int) × (List Int) × Int) → Option (Ab × Int)
 | 0, _ => none
 | n3 + 1, v3 =>
  AL ((decide (v3.2.2 < (p0.gH.length : Int))))
   ((Bg p0.gR v3.2.2).bind fun v6 =>
   (ES (v3.1.length + (([v6] : List Int)).length ≤ EI)).bind fun _ =>
   (ES (v3.2.1.length + (([(-1)] : List Int)).length ≤ EI)).bind fun _ =>
   Cq N p0 j3 n3 (v3.1 ++ (([v6] : List Int)), v3.2.1 ++ (([(-1)] : List Int)), (wI .i64 (v3.2.2 + 1))))
   (j3 (v3.1, v3.2.1))
def Bw (N : Nat) (p0 : Aa) (j9 : ((List Int)) → Option (Ab × Int)) : Nat → ((List Int) × Int) → Option (Ab × Int)
 | 0, _ => none
 | n9 + 1, v9 =>
  AL ((decide (v9.2 < (p0.gJ.length : Int))))
   (A7 (fun (v12 : Int) =>
    (ES (v9.1.length + (([v12] : List Int)).length ≤ EI)).bind fun _ =>
    Bw N p0 j9 n9 (v9.1 ++ (([v12] : List Int)), (wI .i64 (v9.2 + 1))))
   fun j12 =>
   (Bg p0.gJ v9.2).bind fun v13 =>
   (Bd N v13).bind fun v14 =>
   AL v14
    ((Bg p0.gJ v9.2).bind fun v16 =>
    (Bg p0.gR v16.gM).bind fun v17 =>
    (ES (0 ≤ v17)).bind fun _ =>
    j12 (EK .u8 1 v17))
    (j12 0))
   (j9 v9.1)
def CH (N : Nat) (p0 : Aa) : Option (Ab × Int) :=
 (BQ N p0).bind fun v1 =>
 AL ((v1 != 0))
  (some ((Ab.mk (([] : List Int)) (([] : List Int)) (([] : List Int))), v1))
  (Cq N p0 (fun (v4 : (List Int) × (List Int)) =>
   Bw N p0 (fun (v10 : (List Int)) =>
    some ((Ab.mk v4.1 v4.2 v10), 0)) N (([] : List Int), 0)) N (([] : List Int), ([] : List Int), 0))
def EE (_ : Nat) (p0 : Ab) : Option Ab :=
 (ES ((([] : List Int)).length + p0.gI.length ≤ EI)).bind fun _ =>
 (ES ((([] : List Int)).length + p0.gF.length ≤ EI)).bind fun _ =>
 (ES ((([] : List Int)).length + p0.gG.length ≤ EI)).bind fun _ =>
 some ((Ab.mk ((([] : List Int)) ++ p0.gI) ((([] : List Int)) ++ p0.gF) ((([] : List Int)) ++ p0.gG)))
def CO (N : Nat) (p0 : Ab) (j1 : Int → Option ((List Ab))) : Nat → (Int × Int) → Option ((List Ab))
 | 0, _ => none
 | n1 + 1, v1 =>
  AL ((decide (v1.2 < (p0.gF.length : Int))))
   (A7 (fun (v4 : Int) =>
    CO N p0 j1 n1 (v4, (wI .i64 (v1.2 + 1))))
   fun j4 =>
   (Bg p0.gF v1.2).bind fun v5 =>
   AL ((decide (0 ≤ v5)))
    (j4 (wI .i64 (v1.1 + 1)))
    (j4 v1.1))
   (j1 v1.1)
def B9 (N : Nat) (p0 : Ab) (v7 : (List Ab) × Int) (j12 : ((List Int)) → Option ((List Ab))) : Nat → ((List Int) × Int × Int) → Option ((List Ab))
 | 0, _ => none
 | n12 + 1, v12 =>
  AL ((decide (v12.2.2 < (p0.gF.length : Int))))
   (A7 (fun (v15 : (List Int) × Int) =>
    B9 N p0 v7 j12 n12 (v15.1, v15.2, (wI .i64 (v12.2.2 + 1))))
   fun j15 =>
   (Bg p0.gF v12.2.2).bind fun v16 =>
   AL ((decide (v16 < 0)))
    (j15 (v12.1, v12.2.1))
    (A7 (fun (v18 : (List Int)) =>
     j15 (v18, (wI .i64 (v12.2.1 + 1))))
    fun j18 =>
    (ES (0 ≤ v12.2.1)).bind fun _ =>
    AL (((zJ ((Gy .i64 v7.2 v12.2.1)) 2) == 1))
     ((Bg v12.1 v12.2.2).bind fun _ =>
     j18 (v12.1.set ((v12.2.2).toNat) ((-1))))
     (j18 v12.1)))
   (j12 v12.1)
def BP (N : Nat) (p0 : Ab) (v2 : Int) (j7 : ((List Ab)) → Option ((List Ab))) : Nat → ((List Ab) × Int) → Option ((List Ab))
 | 0, _ => none
 | n7 + 1, v7 =>
  (ES (0 ≤ v2)).bind fun _ =>
  AL ((decide (v7.2 < (EK .i64 1 v2))))
   ((EE N p0).bind fun v11 =>
   B9 N p0 v7 (fun (v13 : (List Int)) =>
    (ES (v7.1.length + (([(Ab.mk v11.gI v13 v11.gG)] : List Ab)).length ≤ EI)).bind fun _ =>
    BP N p0 v2 j7 n7 (v7.1 ++ (([(Ab.mk v11.gI v13 v11.gG)] : List Ab)), (wI .i64 (v7.2 + 1)))) N (v11.gF, 0, 0))
   (j7 v7.1)
def DZ (N : Nat) (p0 : Ab) : Option ((List Ab)) :=
 CO N p0 (fun (v2 : Int) =>
  BP N p0 v2 (fun (v8 : (List Ab)) =>
   some v8) N (([] : List Ab), 0)) N (0, 0)
def Ca (_ : Nat) (p0 : Ab) (p1 : Int) : Option Int :=
 (Bg p0.gI p1).bind fun v1 =>
 (ES (0 ≤ v1)).bind fun _ =>
 A7 (fun (v3 : Int) =>
  some v3)
 fun j3 =>
 (Bg p0.gF p1).bind fun v4 =>
 AL ((decide (0 ≤ v4)))
  ((Bg p0.gF p1).bind fun v6 =>
  (ES (0 ≤ v6)).bind fun _ =>
  j3 (Pb .u8 ((EK .u8 1 v1)) ((EK .u8 1 v6))))
  (j3 (EK .u8 1 v1))
def Cm (_ : Nat) (p0 : Int) (p1 : Int) : Option Bool :=
 (ES (0 ≤ p1)).bind fun _ =>
 some (((Ho .u8 ((Gy .u8 p0 p1)) 1) == 1))
def BA (N : Nat) (p0 : Aa) (p1 : Ab) (v1 : (List Az) × Int) (v4 : AA) (v10 : (List Az) × Int) (j17 : ((List Az) × Bool) → Option ((List Az))) : Nat → ((List Az) × Bool × Int) → Option ((List Az))
 | 0, _ => none
 | n17 + 1, v17 =>
  (Bg p0.gH v4.gW).bind fun v19 =>
  AL ((decide (v17.2.2 < v19)))
   (A7 (fun (v21 : (List Az) × Bool) =>
    BA N p0 p1 v1 v4 v10 j17 n17 (v21.1, v21.2, (wI .i64 (v17.2.2 + 1))))
   fun j21 =>
   (Ca N p1 v4.gW).bind fun v22 =>
   (Cm N v22 v17.2.2).bind fun v23 =>
   AL ((!v23))
    (j21 (v17.1, v17.2.1))
    (A7 (fun (v25 : Bool) =>
     A7 (fun (v29 : Bool) =>
      AL v29
       ((ES (v17.1.length + (([(Az.mk v1.2 v10.2 v17.2.2)] : List Az)).length ≤ EI)).bind fun _ =>
       j21 (v17.1 ++ (([(Az.mk v1.2 v10.2 v17.2.2)] : List Az)), v25))
       (j21 (v17.1, v25)))
     fun j29 =>
     AL ((!v4.qr))
      ((Bg v4.gY v10.2).bind fun v31 =>
      (Bg v31 v17.2.2).bind fun v32 =>
      j29 (!v32))
      (j29 false))
    fun j25 =>
    AL v17.2.1
     (j25 true)
     ((Bg v4.gY v10.2).bind fun v27 =>
     (Bg v27 v17.2.2).bind fun v28 =>
     j25 v28)))
   (j17 (v17.1, v17.2.1))
def BT (N : Nat) (p0 : Aa) (p1 : Ab) (v1 : (List Az) × Int) (v4 : AA) (v6 : Int) (j10 : ((List Az)) → Option ((List Az))) : Nat → ((List Az) × Int) → Option ((List Az))
 | 0, _ => none
 | n10 + 1, v10 =>
  (Bg p0.gH v4.gM).bind fun v12 =>
  AL ((decide (v10.2 < v12)))
   (A7 (fun (v14 : (List Az)) =>
    BT N p0 p1 v1 v4 v6 j10 n10 (v14, (wI .i64 (v10.2 + 1))))
   fun j14 =>
   (Cm N v6 v10.2).bind fun v15 =>
   AL ((!v15))
    (j14 v10.1)
    (BA N p0 p1 v1 v4 v10 (fun (v18 : (List Az) × Bool) =>
     A7 (fun (v35 : Bool) =>
      AL v35
       ((ES (v18.1.length + (([(Az.mk v1.2 v10.2 ((-1)))] : List Az)).length ≤ EI)).bind fun _ =>
       j14 (v18.1 ++ (([(Az.mk v1.2 v10.2 ((-1)))] : List Az))))
       (j14 v18.1))
     fun j35 =>
     AL v4.qr
      (j35 (!v18.2))
      (j35 false)) N (v10.1, false, 0)))
   (j10 v10.1)
def CV (N : Nat) (p0 : Aa) (p1 : Ab) (j1 : ((List Az)) → Option ((List Az))) : Nat → ((List Az) × Int) → Option ((List Az))
 | 0, _ => none
 | n1 + 1, v1 =>
  AL ((decide (v1.2 < (p0.gJ.length : Int))))
   ((Bg p0.gJ v1.2).bind fun v4 =>
   (Ca N p1 v4.gM).bind fun v5 =>
   A7 (fun (v6 : Int) =>
    BT N p0 p1 v1 v4 v6 (fun (v11 : (List Az)) =>
     CV N p0 p1 j1 n1 (v11, (wI .i64 (v1.2 + 1)))) N (v1.1, 0))
   fun j6 =>
   (Bd N v4).bind fun v7 =>
   AL v7
    ((Bg p1.gG v1.2).bind fun v9 =>
    j6 v9)
    (j6 v5))
   (j1 v1.1)
def D5 (N : Nat) (p0 : Aa) (p1 : Ab) : Option ((List Az)) :=
 CV N p0 p1 (fun (v2 : (List Az)) =>
  some v2) N (([] : List Az), 0)
def EH (N : Nat) (p0 : Aa) (p1 : Ab) : Option Bool :=
 (D5 N p0 p1).bind fun v1 =>
 some (((v1.length : Int) == 0))
def Co (N : Nat) (p0 : Aa) (v1 : (List Ab)) (j2 : Unit → Option Bool) : Nat → Int → Option Bool
 | 0, _ => none
 | n2 + 1, v2 =>
  AL ((decide (v2 < (v1.length : Int))))
   ((Bg v1 v2).bind fun v5 =>
   (EH N p0 v5).bind fun v6 =>
   AL ((!v6))
    (some false)
    (Co N p0 v1 j2 n2 (wI .i64 (v2 + 1))))
   (j2 ())
def CW (N : Nat) (p0 : Aa) (p1 : Ab) : Option Bool :=
 (DZ N p1).bind fun v1 =>
 Co N p0 v1 (fun (_ : Unit) =>
  some true) N 0
def Cu (N : Nat) (p0 : Aa) (p1 : Ab) (j7 : Unit → Option Int) : Nat → Int → Option Int
 | 0, _ => none
 | n7 + 1, v7 =>
  AL ((decide (v7 < (p0.gH.length : Int))))
   (A7 (fun (v10 : Bool) =>
    AL v10
     (some 7)
     ((Bg p1.gI v7).bind fun v21 =>
     (Bg p1.gF v7).bind fun v22 =>
     AL ((v21 == v22))
      (some 1)
      (Cu N p0 p1 j7 n7 (wI .i64 (v7 + 1)))))
   fun j10 =>
   (Bg p1.gI v7).bind fun v11 =>
   AL ((decide (v11 < 0)))
    (j10 true)
    ((Bg p1.gI v7).bind fun v13 =>
    (Bg p0.gH v7).bind fun v14 =>
    AL ((decide (v14 ≤ v13)))
     (j10 true)
     ((Bg p1.gF v7).bind fun v16 =>
     AL ((decide (v16 < (-1))))
      (j10 true)
      ((Bg p1.gF v7).bind fun v18 =>
      (Bg p0.gH v7).bind fun v19 =>
      j10 (decide (v19 ≤ v18))))))
   (j7 ())
def Cg (N : Nat) (p0 : Aa) (p1 : Ab) (j24 : Unit → Option Int) : Nat → Int → Option Int
 | 0, _ => none
 | n24 + 1, v24 =>
  AL ((decide (v24 < (p0.gJ.length : Int))))
   ((Bg p0.gJ v24).bind fun v27 =>
   (Bg p0.gH v27.gM).bind fun v28 =>
   (ES (0 ≤ v28)).bind fun _ =>
   A7 (fun (v30 : Bool) =>
    AL v30
     (some 1)
     (Cg N p0 p1 j24 n24 (wI .i64 (v24 + 1))))
   fun j30 =>
   (Bd N v27).bind fun v31 =>
   AL ((!v31))
    ((Bg p1.gG v24).bind fun v33 =>
    AL ((v33 != 0))
     (j30 true)
     ((Bd N v27).bind fun v35 =>
     AL v35
      ((Bg p1.gG v24).bind fun v37 =>
      AL (((Dy .u8 v37 ((wI .u8 ((EK .u8 1 v28) - 1)))) != 0))
       (j30 true)
       ((Ca N p1 v27.gM).bind fun v39 =>
       (Bg p1.gG v24).bind fun v40 =>
       j30 ((Dy .u8 v39 v40) != 0)))
      (j30 false)))
    ((Bd N v27).bind fun v41 =>
    AL v41
     ((Bg p1.gG v24).bind fun v43 =>
     AL (((Dy .u8 v43 ((wI .u8 ((EK .u8 1 v28) - 1)))) != 0))
      (j30 true)
      ((Ca N p1 v27.gM).bind fun v45 =>
      (Bg p1.gG v24).bind fun v46 =>
      j30 ((Dy .u8 v45 v46) != 0)))
     (j30 false)))
   (j24 ())
def Ce (N : Nat) (p0 : Aa) (p1 : Ab) : Option Int :=
 (BQ N p0).bind fun v1 =>
 AL ((v1 != 0))
  (some v1)
  (A7 (fun (v3 : Bool) =>
   AL v3
    (some 6)
    (Cu N p0 p1 (fun (_ : Unit) =>
     Cg N p0 p1 (fun (_ : Unit) =>
      some 0) N 0) N 0))
  fun j3 =>
  AL (((p1.gI.length : Int) != (p0.gH.length : Int)))
   (j3 true)
   (AL (((p1.gF.length : Int) != (p0.gH.length : Int)))
    (j3 true)
    (j3 ((p1.gG.length : Int) != (p0.gJ.length : Int)))))
def EW (_ : Nat) (p0 : Ae) : Option Bool :=
 A7 (fun (v1 : Bool) =>
  some v1)
 fun j1 =>
 AL ((decide (1 ≤ p0.gD)))
  (AL ((decide (p0.gD ≤ 4)))
   (AL ((decide (0 ≤ p0.gL)))
    (AL ((decide (0 ≤ p0.gV)))
     (AL ((p0.gD == 1))
      (j1 true)
      (j1 (p0.gV == 0)))
     (j1 false))
    (j1 false))
   (j1 false))
  (j1 false)
def Ch (N : Nat) (p0 : Aa) (p2 : Ae) (j12 : ((List Int)) → Option (Ab × Bool)) : Nat → ((List Int) × Int) → Option (Ab × Bool)
 | 0, _ => none
 | n12 + 1, v12 =>
  AL ((decide (v12.2 < (p0.gJ.length : Int))))
   (A7 (fun (v15 : (List Int)) =>
    Ch N p0 p2 j12 n12 (v15, (wI .i64 (v12.2 + 1))))
   fun j15 =>
   A7 (fun (v16 : Bool) =>
    AL v16
     ((Bg v12.1 v12.2).bind fun v22 =>
     (ES (0 ≤ p2.gV)).bind fun _ =>
     (Bg v12.1 v12.2).bind fun _ =>
     j15 (v12.1.set ((v12.2).toNat) ((Pb .u8 v22 ((EK .u8 1 p2.gV))))))
     (j15 v12.1))
   fun j16 =>
   (Bg p0.gJ v12.2).bind fun v17 =>
   AL ((v17.gM == p2.gL))
    ((Bg p0.gJ v12.2).bind fun v19 =>
    (Bd N v19).bind fun v20 =>
    j16 v20)
    (j16 false))
   (j12 v12.1)
def BV (N : Nat) (p0 : Aa) (p1 : Ab) (p2 : Ae) (v32 : AA) (v35 : Int) (j38 : Unit → Option (Ab × Bool)) : Nat → Int → Option (Ab × Bool)
 | 0, _ => none
 | n38 + 1, v38 =>
  (Bg p0.gH v32.gM).bind fun v40 =>
  AL ((decide (v38 < v40)))
   (A7 (fun (v42 : Bool) =>
    A7 (fun (v47 : Bool) =>
     AL v47
      (some ((Ab.mk (([] : List Int)) (([] : List Int)) (([] : List Int))), false))
      (BV N p0 p1 p2 v32 v35 j38 n38 (wI .i64 (v38 + 1))))
    fun j47 =>
    AL v42
     (AL ((v32.gD == 4))
      ((Bg v32.g9 v38).bind fun v50 =>
      (Bg p1.gI v32.gM).bind fun v51 =>
      (Bg v50 v51).bind fun v52 =>
      j47 (!v52))
      (j47 false))
     (j47 false))
   fun j42 =>
   (Bg p1.gG p2.gL).bind fun v43 =>
   (Cm N v43 v38).bind fun v44 =>
   AL v44
    ((Cm N v35 v38).bind fun v46 =>
    j42 (!v46))
    (j42 false))
   (j38 ())
def Bu (N : Nat) (p0 : Aa) (p1 : Ab) (p2 : Ae) : Option (Ab × Bool) :=
 (ES ((([] : List Int)).length + p1.gI.length ≤ EI)).bind fun _ =>
 (ES ((([] : List Int)).length + p1.gF.length ≤ EI)).bind fun _ =>
 (ES ((([] : List Int)).length + p1.gG.length ≤ EI)).bind fun _ =>
 A7 (fun (v4 : (List Int) × (List Int) × (List Int)) =>
  some ((Ab.mk v4.1 v4.2.1 v4.2.2), true))
 fun j4 =>
 AL ((p2.gD == 1))
  (A7 (fun (v6 : Bool) =>
   AL v6
    (some ((Ab.mk (([] : List Int)) (([] : List Int)) (([] : List Int))), false))
    ((Bg ((([] : List Int)) ++ p1.gF) p2.gL).bind fun _ =>
    Ch N p0 p2 (fun (v13 : (List Int)) =>
     j4 ((([] : List Int)) ++ p1.gI, ((([] : List Int)) ++ p1.gF).set ((p2.gL).toNat) p2.gV, v13)) N ((([] : List Int)) ++ p1.gG, 0)))
  fun j6 =>
  (Bg p1.gF p2.gL).bind fun v7 =>
  AL ((decide (0 ≤ v7)))
   (j6 true)
   ((Bg p1.gI p2.gL).bind fun v9 =>
   j6 (p2.gV == v9)))
  (AL ((p2.gD == 2))
   ((Bg p1.gF p2.gL).bind fun v26 =>
   AL ((decide (v26 < 0)))
    (some ((Ab.mk (([] : List Int)) (([] : List Int)) (([] : List Int))), false))
    ((Bg p1.gF p2.gL).bind fun v28 =>
    (Bg ((([] : List Int)) ++ p1.gI) p2.gL).bind fun _ =>
    (Bg ((([] : List Int)) ++ p1.gF) p2.gL).bind fun _ =>
    j4 (((([] : List Int)) ++ p1.gI).set ((p2.gL).toNat) v28, ((([] : List Int)) ++ p1.gF).set ((p2.gL).toNat) ((-1)), (([] : List Int)) ++ p1.gG)))
   (AL ((p2.gD == 3))
    ((Bg p0.gJ p2.gL).bind fun v32 =>
    (Bd N v32).bind fun v33 =>
    AL ((!v33))
     (some ((Ab.mk (([] : List Int)) (([] : List Int)) (([] : List Int))), false))
     ((Ca N p1 v32.gM).bind fun v35 =>
     (Bg p1.gG p2.gL).bind fun v36 =>
     AL ((v36 == v35))
      (some ((Ab.mk (([] : List Int)) (([] : List Int)) (([] : List Int))), false))
      (BV N p0 p1 p2 v32 v35 (fun (_ : Unit) =>
       (Bg ((([] : List Int)) ++ p1.gG) p2.gL).bind fun _ =>
       j4 ((([] : List Int)) ++ p1.gI, (([] : List Int)) ++ p1.gF, ((([] : List Int)) ++ p1.gG).set ((p2.gL).toNat) v35)) N 0)))
    ((Bg p1.gF p2.gL).bind fun v55 =>
    AL ((decide (v55 < 0)))
     (some ((Ab.mk (([] : List Int)) (([] : List Int)) (([] : List Int))), false))
     ((Bg ((([] : List Int)) ++ p1.gF) p2.gL).bind fun _ =>
     j4 ((([] : List Int)) ++ p1.gI, ((([] : List Int)) ++ p1.gF).set ((p2.gL).toNat) ((-1)), (([] : List Int)) ++ p1.gG)))))
def Dt (N : Nat) (p0 : Aa) (p1 : Ab) (p2 : Ae) : Option (Ab × Int) :=
 (Ce N p0 p1).bind fun v1 =>
 AL ((v1 != 0))
  (some ((Ab.mk (([] : List Int)) (([] : List Int)) (([] : List Int))), v1))
  ((EW N p2).bind fun v3 =>
  AL ((!v3))
   (some ((Ab.mk (([] : List Int)) (([] : List Int)) (([] : List Int))), 1))
   (A7 (fun (v5 : Bool) =>
    AL v5
     (some ((Ab.mk (([] : List Int)) (([] : List Int)) (([] : List Int))), 4))
     (A7 (fun (v11 : Bool) =>
      AL v11
       (some ((Ab.mk (([] : List Int)) (([] : List Int)) (([] : List Int))), 4))
       ((Bu N p0 p1 p2).bind fun v15 =>
       AL ((!v15.2))
        (some ((Ab.mk (([] : List Int)) (([] : List Int)) (([] : List Int))), 11))
        (some (v15.1, 0))))
     fun j11 =>
     AL ((p2.gD == 1))
      ((Bg p0.gH p2.gL).bind fun v13 =>
      j11 (decide (v13 ≤ p2.gV)))
      (j11 false)))
   fun j5 =>
   AL ((p2.gD == 3))
    (AL ((decide ((p0.gJ.length : Int) ≤ p2.gL)))
     (j5 true)
     (AL ((p2.gD != 3))
      (j5 (decide ((p0.gH.length : Int) ≤ p2.gL)))
      (j5 false)))
    (AL ((p2.gD != 3))
     (j5 (decide ((p0.gH.length : Int) ≤ p2.gL)))
     (j5 false))))
def Cs (N : Nat) (p0 : Aa) (p1 : Ab) (v1 : (List Ae) × Int) (v4 : (List Ae) × Int) (j7 : ((List Ae)) → Option ((List Ae))) : Nat → ((List Ae) × Int) → Option ((List Ae))
 | 0, _ => none
 | n7 + 1, v7 =>
  AL ((decide (v7.2 < 6)))
   (A7 (fun (v10 : (List Ae)) =>
    Cs N p0 p1 v1 v4 j7 n7 (v10, (wI .i64 (v7.2 + 1))))
   fun j10 =>
   (Dt N p0 p1 ((Ae.mk v1.2 v4.2 v7.2))).bind fun v11 =>
   AL ((v11.2 == 0))
    ((ES (v7.1.length + (([(Ae.mk v1.2 v4.2 v7.2)] : List Ae)).length ≤ EI)).bind fun _ =>
    j10 (v7.1 ++ (([(Ae.mk v1.2 v4.2 v7.2)] : List Ae))))
    (j10 v7.1))
   (j7 v7.1)
def Cp (N : Nat) (p0 : Aa) (p1 : Ab) (v1 : (List Ae) × Int) (j4 : ((List Ae)) → Option ((List Ae))) : Nat → ((List Ae) × Int) → Option ((List Ae))
 | 0, _ => none
 | n4 + 1, v4 =>
  AL ((decide (v4.2 < (Wk ((p0.gH.length : Int)) ((p0.gJ.length : Int))))))
   (Cs N p0 p1 v1 v4 (fun (v8 : (List Ae)) =>
    Cp N p0 p1 v1 j4 n4 (v8, (wI .i64 (v4.2 + 1)))) N (v4.1, 0))
   (j4 v4.1)
def BL (N : Nat) (p0 : Aa) (p1 : Ab) (j1 : ((List Ae)) → Option ((List Ae))) : Nat → ((List Ae) × Int) → Option ((List Ae))
 | 0, _ => none
 | n1 + 1, v1 =>
  AL ((decide (v1.2 ≤ 3)))
   (Cp N p0 p1 v1 (fun (v5 : (List Ae)) =>
    BL N p0 p1 j1 n1 (v5, (wI .i64 (v1.2 + 1)))) N (v1.1, 0))
   (j1 v1.1)
def EV (N : Nat) (p0 : Aa) (p1 : Ab) : Option ((List Ae)) :=
 BL N p0 p1 (fun (v2 : (List Ae)) =>
  some v2) N (([] : List Ae), 1)
def Dz (N : Nat) (p0 : List Int) (p1 : List Int) (j1 : Unit → Option Int) : Nat → Int → Option Int
 | 0, _ => none
 | n1 + 1, v1 =>
  A7 (fun (v3 : Bool) =>
   AL v3
    ((Bg p0 v1).bind fun v6 =>
    (Bg p1 v1).bind fun v7 =>
    AL ((decide (v6 < v7)))
     (some ((-1)))
     ((Bg p0 v1).bind fun v9 =>
     (Bg p1 v1).bind fun v10 =>
     AL ((decide (v10 < v9)))
      (some 1)
      (Dz N p0 p1 j1 n1 (wI .i64 (v1 + 1)))))
    (j1 ()))
  fun j3 =>
  AL ((decide (v1 < (p0.length : Int))))
   (j3 (decide (v1 < (p1.length : Int))))
   (j3 false)
def DC (N : Nat) (p0 : List Int) (p1 : List Int) : Option Int :=
 Dz N p0 p1 (fun (_ : Unit) =>
  AL ((decide ((p0.length : Int) < (p1.length : Int))))
   (some ((-1)))
   (AL ((decide ((p1.length : Int) < (p0.length : Int))))
    (some 1)
    (some 0))) N 0
def C5 (N : Nat) (p0 : List Int) (j1 : ((List Int)) → Option ((List Int))) : Nat → ((List Int) × Int) → Option ((List Int))
 | 0, _ => none
 | n1 + 1, v1 =>
  AL ((decide (v1.2 < (p0.length : Int))))
   ((Bg p0 v1.2).bind fun v4 =>
   (ES (v1.1.length + (([(wI .i64 v4)] : List Int)).length ≤ EI)).bind fun _ =>
   C5 N p0 j1 n1 (v1.1 ++ (([(wI .i64 v4)] : List Int)), (wI .i64 (v1.2 + 1))))
   (j1 v1.1)
def Dv (N : Nat) (p0 : List Int) : Option ((List Int)) :=
 C5 N p0 (fun (v2 : (List Int)) =>
  some v2) N (([] : List Int), 0)
def Ek (N : Nat) (p0 : Ab) (p1 : Ab) : Option Int :=
 (DC N p0.gI p1.gI).bind fun v1 =>
 AL ((v1 != 0))
  (some v1)
  ((DC N p0.gF p1.gF).bind fun v3 =>
  AL ((v3 != 0))
   (some v3)
   ((Dv N p0.gG).bind fun v5 =>
   (Dv N p1.gG).bind fun v6 =>
   (DC N v5 v6).bind fun v7 =>
   some v7))
def Bm (N : Nat) (p0 : Ab) (p1 : Ab) : Option Bool :=
 (Ek N p0 p1).bind fun v1 =>
 some ((v1 == 0))
def CD (N : Nat) (p0 : List AD) (p1 : Ab) (j1 : Unit → Option Int) : Nat → Int → Option Int
 | 0, _ => none
 | n1 + 1, v1 =>
  AL ((decide (v1 < (p0.length : Int))))
   ((Bg p0 v1).bind fun v4 =>
   (Bm N ((Ab.mk v4.gB.gI v4.gB.gF v4.gB.gG)) p1).bind fun v5 =>
   AL v5
    (some v1)
    (CD N p0 p1 j1 n1 (wI .i64 (v1 + 1))))
   (j1 ())
def Er (N : Nat) (p0 : List AD) (p1 : Ab) : Option Int :=
 CD N p0 p1 (fun (_ : Unit) =>
  some ((-1))) N 0
def B3 (N : Nat) (p0 : Aa) (p2 : Int) (v1 : (List AD) × Int) (v5 : (List Ae)) (j6 : ((List AD)) → Option ((List AD) × Bool)) : Nat → ((List AD) × Int) → Option ((List AD) × Bool)
 | 0, _ => none
 | n6 + 1, v6 =>
  AL ((decide (v6.2 < (v5.length : Int))))
   ((Bg v6.1 v1.2).bind fun v9 =>
   (Bg v5 v6.2).bind fun v10 =>
   (Bu N p0 ((Ab.mk v9.gB.gI v9.gB.gF v9.gB.gG)) v10).bind fun v11 =>
   A7 (fun (v12 : (List AD)) =>
    AL ((decide (p2 < (v12.length : Int))))
     (some (([] : List AD), false))
     (B3 N p0 p2 v1 v5 j6 n6 (v12, (wI .i64 (v6.2 + 1)))))
   fun j12 =>
   A7 (fun (v13 : Bool) =>
    AL v13
     ((Bg v5 v6.2).bind fun v18 =>
     (ES (v6.1.length + (([(AD.mk v11.1 v1.2 v18)] : List AD)).length ≤ EI)).bind fun _ =>
     j12 (v6.1 ++ (([(AD.mk v11.1 v1.2 v18)] : List AD))))
     (j12 v6.1))
   fun j13 =>
   (CW N p0 v11.1).bind fun v14 =>
   AL v14
    ((Er N v6.1 v11.1).bind fun v16 =>
    j13 (decide (v16 < 0)))
    (j13 false))
   (j6 v6.1)
def B5 (N : Nat) (p0 : Aa) (p2 : Int) (j1 : ((List AD)) → Option ((List AD) × Bool)) : Nat → ((List AD) × Int) → Option ((List AD) × Bool)
 | 0, _ => none
 | n1 + 1, v1 =>
  AL ((decide (v1.2 < (v1.1.length : Int))))
   ((Bg v1.1 v1.2).bind fun v4 =>
   (EV N p0 ((Ab.mk v4.gB.gI v4.gB.gF v4.gB.gG))).bind fun v5 =>
   B3 N p0 p2 v1 v5 (fun (v7 : (List AD)) =>
    B5 N p0 p2 j1 n1 (v7, (wI .i64 (v1.2 + 1)))) N (v1.1, 0))
   (j1 v1.1)
def C1 (N : Nat) (p0 : Aa) (p1 : Ab) (p2 : Int) : Option ((List AD) × Bool) :=
 B5 N p0 p2 (fun (v2 : (List AD)) =>
  some (v2, true)) N (([(AD.mk p1 ((-1)) ((Ae.mk 0 0 0)))] : List AD), 0)
def EZ (N : Nat) (p0 : Aa) (p1 : Int) : Option Bool :=
 (CH N p0).bind fun v1 =>
 A7 (fun (v2 : Bool) =>
  AL v2
   (some true)
   ((C1 N p0 v1.1 p1).bind fun v6 =>
   some v6.2))
 fun j2 =>
 AL ((v1.2 != 0))
  (j2 true)
  ((CW N p0 v1.1).bind fun v4 =>
  j2 (!v4))
def C8 (N : Nat) (p0 : Aa) (p1 : Ab) (j3 : Unit → Option Bool) : Nat → Int → Option Bool
 | 0, _ => none
 | n3 + 1, v3 =>
  AL ((decide (v3 < (p1.gI.length : Int))))
   (A7 (fun (v6 : Bool) =>
    AL v6
     (some false)
     (C8 N p0 p1 j3 n3 (wI .i64 (v3 + 1))))
   fun j6 =>
   (Bg p1.gF v3).bind fun v7 =>
   AL ((decide (0 ≤ v7)))
    (j6 true)
    ((Bg p1.gI v3).bind fun v9 =>
    (Bg p0.gU v3).bind fun v10 =>
    j6 (v9 != v10)))
   (j3 ())
def DD (N : Nat) (p0 : Aa) (p1 : Ab) : Option Bool :=
 (Ce N p0 p1).bind fun v1 =>
 AL ((v1 != 0))
  (some false)
  (C8 N p0 p1 (fun (_ : Unit) =>
   some true) N 0)
def DN (N : Nat) (p0 : List AD) (j1 : ((List Ae)) → Option ((List Ae))) : Nat → (Int × (List Ae)) → Option ((List Ae))
 | 0, _ => none
 | n1 + 1, v1 =>
  (Bg p0 v1.1).bind fun v3 =>
  AL ((decide (0 ≤ v3.qN)))
   ((Bg p0 v1.1).bind fun v5 =>
   (ES ((([(Ae.mk v5.qC.gD v5.qC.gL v5.qC.gV)] : List Ae)).length + v1.2.length ≤ EI)).bind fun _ =>
   (Bg p0 v1.1).bind fun v7 =>
   DN N p0 j1 n1 (v7.qN, (([(Ae.mk v5.qC.gD v5.qC.gL v5.qC.gV)] : List Ae)) ++ v1.2))
   (j1 v1.2)
def Gs (N : Nat) (p0 : List AD) (p1 : Int) : Option ((List Ae)) :=
 DN N p0 (fun (v2 : (List Ae)) =>
  some v2) N (p1, ([] : List Ae))
def CF (N : Nat) (p0 : Aa) (v5 : (List AD) × Bool) (j7 : Unit → Option ((List Ae) × Int)) : Nat → Int → Option ((List Ae) × Int)
 | 0, _ => none
 | n7 + 1, v7 =>
  AL ((decide (v7 < (v5.1.length : Int))))
   ((Bg v5.1 v7).bind fun v10 =>
   (DD N p0 ((Ab.mk v10.gB.gI v10.gB.gF v10.gB.gG))).bind fun v11 =>
   AL v11
    ((Gs N v5.1 v7).bind fun v13 =>
    some (v13, 0))
    (CF N p0 v5 j7 n7 (wI .i64 (v7 + 1))))
   (j7 ())
def Eo (N : Nat) (p0 : Aa) (p1 : Ab) : Option ((List Ae) × Int) :=
 (Ce N p0 p1).bind fun v1 =>
 AL ((v1 != 0))
  (some (([] : List Ae), v1))
  ((CW N p0 p1).bind fun v3 =>
  AL ((!v3))
   (some (([] : List Ae), 13))
   ((C1 N p0 p1 20000).bind fun v5 =>
   AL ((!v5.2))
    (some (([] : List Ae), 3))
    (CF N p0 v5 (fun (_ : Unit) =>
     some (([] : List Ae), 14)) N 0)))
def Fh (N : Nat) (p0 : Aa) : Option ((List Ae) × Int) :=
 (CH N p0).bind fun v1 =>
 AL ((v1.2 != 0))
  (some (([] : List Ae), v1.2))
  ((Eo N p0 v1.1).bind fun v3 =>
  some (v3.1, v3.2))
def C4 (N : Nat) (p1 : List Int) (j4 : Unit → Option Int) : Nat → Int → Option Int
 | 0, _ => none
 | n4 + 1, v4 =>
  AL ((decide (v4 < (p1.length : Int))))
   (A7 (fun (v7 : Bool) =>
    AL v7
     (some 7)
     (C4 N p1 j4 n4 (wI .i64 (v4 + 1))))
   fun j7 =>
   (Bg p1 v4).bind fun v8 =>
   AL ((decide (v8 < 1)))
    (j7 true)
    ((Bg p1 v4).bind fun v10 =>
    j7 (decide (4 < v10))))
   (j4 ())
def C7 (N : Nat) (p0 : Aa) (p1 : List Int) : Option Int :=
 (BQ N p0).bind fun v1 =>
 AL ((v1 != 0))
  (some v1)
  (AL (((p1.length : Int) != (p0.gH.length : Int)))
   (some 6)
   (C4 N p1 (fun (_ : Unit) =>
    some 0) N 0))
def Fz (N : Nat) (p0 : Aa) (p1 : Ab) : Option ((List Ab) × Int) :=
 (Ce N p0 p1).bind fun v1 =>
 AL ((v1 != 0))
  (some (([] : List Ab), v1))
  ((DZ N p1).bind fun v3 =>
  some (v3, 0))
def CY (N : Nat) (p0 : Aa) (v1 : (List Ab) × Int) (j3 : Unit → Option (Ab × Az × Int)) : Nat → Int → Option (Ab × Az × Int)
 | 0, _ => none
 | n3 + 1, v3 =>
  AL ((decide (v3 < (v1.1.length : Int))))
   ((Bg v1.1 v3).bind fun v6 =>
   (D5 N p0 v6).bind fun v7 =>
   AL ((decide (0 < (v7.length : Int))))
    ((Bg v1.1 v3).bind fun v9 =>
    (Bg v7 0).bind fun v10 =>
    some (v9, v10, 0))
    (CY N p0 v1 j3 n3 (wI .i64 (v3 + 1))))
   (j3 ())
def EX (N : Nat) (p0 : Aa) (p1 : Ab) : Option (Ab × Az × Int) :=
 (Fz N p0 p1).bind fun v1 =>
 AL ((v1.2 != 0))
  (some ((Ab.mk (([] : List Int)) (([] : List Int)) (([] : List Int))), (Az.mk 0 0 0), v1.2))
  (CY N p0 v1 (fun (_ : Unit) =>
   some ((Ab.mk (([] : List Int)) (([] : List Int)) (([] : List Int))), (Az.mk 0 0 0), 15)) N 0)
def Cx (N : Nat) (p0 : Aa) (p1 : List Ae) (j3 : Ab → Option (Int × Ab × Az × Int)) : Nat → ((List Int) × (List Int) × (List Int) × Int) → Option (Int × Ab × Az × Int)
 | 0, _ => none
 | n3 + 1, v3 =>
  AL ((decide (v3.2.2.2 < (p1.length : Int))))
   (A7 (fun (v6 : (List Int) × (List Int) × (List Int)) =>
    (EX N p0 ((Ab.mk v6.1 v6.2.1 v6.2.2))).bind fun v14 =>
    AL ((v14.2.2 == 0))
     (some (v3.2.2.2, v14.1, v14.2.1, 0))
     (Cx N p0 p1 j3 n3 (v6.1, v6.2.1, v6.2.2, (wI .i64 (v3.2.2.2 + 1)))))
   fun j6 =>
   AL ((decide (0 ≤ v3.2.2.2)))
    ((Bg p1 v3.2.2.2).bind fun v8 =>
    (Dt N p0 ((Ab.mk v3.1 v3.2.1 v3.2.2.1)) v8).bind fun v9 =>
    A7 (fun (v10 : Bool) =>
     AL v10
      (some (v3.2.2.2, (Ab.mk (([] : List Int)) (([] : List Int)) (([] : List Int))), (Az.mk 0 0 0), 0))
      (j6 (v9.1.gI, v9.1.gF, v9.1.gG)))
    fun j10 =>
    AL ((v9.2 != 0))
     (j10 true)
     ((Bg p1 v3.2.2.2).bind fun v12 =>
     j10 (v12.gD == 4)))
    (j6 (v3.1, v3.2.1, v3.2.2.1)))
   (j3 (Ab.mk v3.1 v3.2.1 v3.2.2.1))
def El (N : Nat) (p0 : Aa) (p1 : List Ae) : Option (Int × Ab × Az × Int) :=
 (CH N p0).bind fun v1 =>
 AL ((v1.2 != 0))
  (some (0, (Ab.mk (([] : List Int)) (([] : List Int)) (([] : List Int))), (Az.mk 0 0 0), v1.2))
  (Cx N p0 p1 (fun (v4 : Ab) =>
   (DD N p0 v4).bind fun v16 =>
   AL ((!v16))
    (some ((p1.length : Int), (Ab.mk (([] : List Int)) (([] : List Int)) (([] : List Int))), (Az.mk 0 0 0), 14))
    (some (0, (Ab.mk (([] : List Int)) (([] : List Int)) (([] : List Int))), (Az.mk 0 0 0), 15))) N (v1.1.gI, v1.1.gF, v1.1.gG, (-1)))
def Ec (N : Nat) (p0 : Aa) (p1 : List Ae) : Option Bool :=
 (El N p0 p1).bind fun v1 =>
 some ((v1.2.2.2 == 15))
def EM (N : Nat) (p0 : Aa) (p1 : List Int) (p2 : List Ae) : Option (Ak × Int) :=
 (C7 N p0 p1).bind fun v1 =>
 AL ((v1 != 0))
  (some ((Ak.mk (([] : List Ae)) 0 0 0 0 0 ((Ab.mk (([] : List Int)) (([] : List Int)) (([] : List Int))))), v1))
  ((Ec N p0 p2).bind fun v3 =>
  AL ((!v3))
   (some ((Ak.mk (([] : List Ae)) 0 0 0 0 0 ((Ab.mk (([] : List Int)) (([] : List Int)) (([] : List Int))))), 13))
   ((CH N p0).bind fun v5 =>
   (ES ((([] : List Ae)).length + p2.length ≤ EI)).bind fun _ =>
   A7 (fun (v7 : Int) =>
    some ((Ak.mk ((([] : List Ae)) ++ p2) 0 v7 0 0 0 v5.1), 0))
   fun j7 =>
   AL (((p2.length : Int) == 0))
    (j7 6)
    (j7 0)))
def AZ (_ : Nat) (p0 : Ak) : Option Int :=
 (Bg p0.gT p0.gE).bind fun v1 =>
 AL ((p0.gQ == 3))
  ((Bg p0.gB.gI v1.gL).bind fun v3 =>
  some v3)
  ((Bg p0.gB.gF v1.gL).bind fun v4 =>
  some v4)
def Dh (N : Nat) (p0 : Ak) (p1 : Int) : Option Ct :=
 AL ((p0.gN == 0))
  (some ((Ct.mk 1 ((wI .i64 (1 + (wI .i64 ((wI .u8 (y5 p1 32))))))) 0 0 0 false 0)))
  (A7 (fun (v2 : Int) =>
   AL (((zJ p1 16) == 12))
    (some ((Ct.mk 3 0 0 0 0 false 0)))
    (AL (((zJ p1 16) == 13))
     (some ((Ct.mk 2 0 0 0 0 false 0)))
     (AL (((zJ p1 16) == 14))
      (some ((Ct.mk 1 ((wI .i64 (p0.gN + (wI .i64 ((wI .u8 (y5 p1 128))))))) 0 0 0 false 0)))
      (A7 (fun (v7 : Bool) =>
       AL v7
        ((AZ N ((Ak.mk p0.gT p0.gE p0.gQ p0.gO p0.gP p0.gN ((Ab.mk p0.gB.gI p0.gB.gF p0.gB.gG))))).bind fun v10 =>
        some ((Ct.mk 4 0 v2 p0.gO v10 false 0)))
        (AL ((p0.gQ == 2))
         (some ((Ct.mk 5 0 v2 0 0 (((zJ p1 4) != 3)) 0)))
         (AL ((p0.gQ == 4))
          ((Bg p0.gT p0.gE).bind fun v13 =>
          some ((Ct.mk 6 0 v2 0 0 false v13.gL)))
          (AL ((p0.gQ == 5))
           (some ((Ct.mk 7 0 0 0 0 false 0)))
           (some ((Ct.mk 3 0 0 0 0 false 0)))))))
      fun j7 =>
      AL ((p0.gQ == 1))
       (j7 (p0.gQ == 1))
       (j7 (p0.gQ == 3))))))
  fun j2 =>
  AL (((zJ p1 16) == 15))
   (j2 (wI .i64 (p0.gP - 1)))
   (j2 p0.gP))
def A3 (N : Nat) (p0 : Ak) : Option ((List Bk)) :=
 A7 (fun (v1 : Bool) =>
  AL v1
   ((AZ N ((Ak.mk p0.gT p0.gE p0.gQ p0.gO p0.gP p0.gN ((Ab.mk p0.gB.gI p0.gB.gF p0.gB.gG))))).bind fun v4 =>
   some (([(Bk.mk 2 ((Fw.mk 0 0 0 (⟨#[]⟩))) ((DY.mk p0.gP p0.gO v4)) 0 0)] : List Bk)))
   (AL ((p0.gQ == 2))
    ((Bg p0.gT p0.gE).bind fun v6 =>
    (AZ N ((Ak.mk p0.gT p0.gE p0.gQ p0.gO p0.gP p0.gN ((Ab.mk p0.gB.gI p0.gB.gF p0.gB.gG))))).bind fun v7 =>
    some (([(Bk.mk 3 ((Fw.mk 0 0 0 (⟨#[]⟩))) ((DY.mk p0.gP p0.gO v7)) v6.gL 0)] : List Bk)))
    (AL ((p0.gQ == 4))
     ((Bg p0.gT p0.gE).bind fun v9 =>
     some (([(Bk.mk 4 ((Fw.mk 0 0 0 (⟨#[]⟩))) ((DY.mk p0.gP 0 0)) 0 v9.gL)] : List Bk)))
     (some (([] : List Bk))))))
 fun j1 =>
 AL ((p0.gQ == 1))
  (j1 (p0.gQ == 1))
  (j1 (p0.gQ == 3))
def Cd (_ : Nat) (p0 : Ak) (p1 : Int) : Option (Ak × (List Bk)) :=
 some ((Ak.mk p0.gT p0.gE p0.gQ p0.gO ((wI .i64 (p0.gP + 1))) p0.gN ((Ab.mk p0.gB.gI p0.gB.gF p0.gB.gG))), ([(Bk.mk 1 ((Fw.mk p1 p0.gN p0.gE (⟨#[]⟩))) ((DY.mk 0 0 0)) 0 0)] : List Bk))
def Do (N : Nat) (p0 : List Int) (p1 : Int) (j1 : Int → Option Int) : Nat → (Int × Int) → Option Int
 | 0, _ => none
 | n1 + 1, v1 =>
  AL ((decide (v1.2 < p1)))
   ((Bg p0 v1.2).bind fun v4 =>
   Do N p0 p1 j1 n1 ((wI .i64 (v1.1 + v4)), (wI .i64 (v1.2 + 1))))
   (j1 v1.1)
def CI (N : Nat) (p0 : List Int) (p1 : Int) : Option Int :=
 Do N p0 p1 (fun (v2 : Int) =>
  some v2) N (0, 0)
def DE (N : Nat) (p0 : Aa) (p1 : List Int) (p2 : Ak) : Option (Ak × (List Bk)) :=
 AL ((p2.gQ != 0))
  ((A3 N ((Ak.mk p2.gT p2.gE p2.gQ p2.gO p2.gP p2.gN ((Ab.mk p2.gB.gI p2.gB.gF p2.gB.gG))))).bind fun v2 =>
  some ((Ak.mk p2.gT p2.gE p2.gQ p2.gO p2.gP p2.gN ((Ab.mk p2.gB.gI p2.gB.gF p2.gB.gG))), v2))
  ((Cd N ((Ak.mk p2.gT p2.gE p2.gQ p2.gO p2.gP p2.gN ((Ab.mk p2.gB.gI p2.gB.gF p2.gB.gG)))) 1).bind fun v3 =>
  (Bg v3.1.gT v3.1.gE).bind fun v4 =>
  A7 (fun (v5 : Int × Int) =>
   A7 (fun (v8 : (List Int) × (List Int) × (List Int)) =>
    (A3 N ((Ak.mk v3.1.gT v3.1.gE v5.1 v5.2 v3.1.gP v3.1.gN ((Ab.mk v8.1 v8.2.1 v8.2.2))))).bind fun v11 =>
    (ES (v3.2.length + v11.length ≤ EI)).bind fun _ =>
    some ((Ak.mk v3.1.gT v3.1.gE v5.1 v5.2 v3.1.gP v3.1.gN ((Ab.mk v8.1 v8.2.1 v8.2.2))), v3.2 ++ v11))
   fun j8 =>
   AL ((v4.gD == 1))
    ((Bu N p0 ((Ab.mk v3.1.gB.gI v3.1.gB.gF v3.1.gB.gG)) v4).bind fun v10 =>
    j8 (v10.1.gI, v10.1.gF, v10.1.gG))
    (j8 (v3.1.gB.gI, v3.1.gB.gF, v3.1.gB.gG)))
  fun j5 =>
  AL ((v4.gD == 3))
   (j5 (4, v3.1.gO))
   ((CI N p1 v4.gL).bind fun v7 =>
   j5 (1, v7)))
def DM (N : Nat) (p0 : Aa) (p2 : List Ae) (j3 : ((List Ab)) → Option ((List Ab) × Int × Int)) : Nat → ((List Ab) × Int) → Option ((List Ab) × Int × Int)
 | 0, _ => none
 | n3 + 1, v3 =>
  AL ((decide (v3.2 < (p2.length : Int))))
   ((Bg v3.1 v3.2).bind fun v6 =>
   (Bg p2 v3.2).bind fun v7 =>
   (Dt N p0 v6 v7).bind fun v8 =>
   AL ((v8.2 != 0))
    (some (([] : List Ab), v3.2, v8.2))
    ((ES (v3.1.length + (([v8.1] : List Ab)).length ≤ EI)).bind fun _ =>
    DM N p0 p2 j3 n3 (v3.1 ++ (([v8.1] : List Ab)), (wI .i64 (v3.2 + 1)))))
   (j3 v3.1)
def Fx (N : Nat) (p0 : Aa) (p1 : Ab) (p2 : List Ae) : Option ((List Ab) × Int × Int) :=
 (Ce N p0 p1).bind fun v1 =>
 AL ((v1 != 0))
  (some (([] : List Ab), 0, v1))
  (DM N p0 p2 (fun (v4 : (List Ab)) =>
   some (v4, (p2.length : Int), 0)) N (([p1] : List Ab), 0))
def D0 (N : Nat) (p0 : Aa) (p1 : List Ae) : Option ((List Ab)) :=
 (CH N p0).bind fun v1 =>
 (Fx N p0 v1.1 p1).bind fun v2 =>
 some v2.1
def CE (N : Nat) (p0 : Aa) (p1 : List Ae) (p2 : Int) : Option Ab :=
 (D0 N p0 p1).bind fun v1 =>
 (Bg v1 ((wI .i64 (p2 + 1)))).bind fun v2 =>
 (Bg p1 p2).bind fun v3 =>
 (Bu N p0 v2 ((Ae.mk 4 v3.gL 0))).bind fun v4 =>
 some v4.1
def DF (N : Nat) (p0 : Aa) (p1 : Ak) : Option (Ak × (List Bk)) :=
 (Cd N ((Ak.mk p1.gT p1.gE p1.gQ p1.gO p1.gP p1.gN ((Ab.mk p1.gB.gI p1.gB.gF p1.gB.gG)))) 2).bind fun v1 =>
 A7 (fun (v2 : (List Int) × (List Int) × (List Int)) =>
  A7 (fun (v7 : Int) =>
   some ((Ak.mk v1.1.gT ((wI .i64 (v1.1.gE + 1))) v7 0 v1.1.gP v1.1.gN ((Ab.mk v2.1 v2.2.1 v2.2.2))), v1.2))
  fun j7 =>
  AL (((wI .i64 (v1.1.gE + 1)) == (v1.1.gT.length : Int)))
   (j7 6)
   (j7 0))
 fun j2 =>
 (Bg v1.1.gT v1.1.gE).bind fun v3 =>
 AL ((v3.gD != 1))
  ((Bg v1.1.gT v1.1.gE).bind fun v5 =>
  (Bu N p0 ((Ab.mk v1.1.gB.gI v1.1.gB.gF v1.1.gB.gG)) v5).bind fun v6 =>
  j2 (v6.1.gI, v6.1.gF, v6.1.gG))
  (j2 (v1.1.gB.gI, v1.1.gB.gF, v1.1.gB.gG))
def A6 (N : Nat) (p0 : Aa) (p1 : List Int) (p2 : Ak) (p3 : Ct) : Option (Ak × (List Bk)) :=
 AL ((p3.gD == 1))
  (AL ((decide (p3.gN ≤ p2.gN)))
   (some ((Ak.mk p2.gT p2.gE p2.gQ p2.gO p2.gP p2.gN ((Ab.mk p2.gB.gI p2.gB.gF p2.gB.gG))), ([] : List Bk)))
   ((DE N p0 p1 ((Ak.mk p2.gT p2.gE p2.gQ p2.gO p2.gP p3.gN ((Ab.mk p2.gB.gI p2.gB.gF p2.gB.gG))))).bind fun v3 =>
   some ((Ak.mk v3.1.gT v3.1.gE v3.1.gQ v3.1.gO v3.1.gP v3.1.gN ((Ab.mk v3.1.gB.gI v3.1.gB.gF v3.1.gB.gG))), v3.2)))
  (AL ((p2.gN == 0))
   (some ((Ak.mk p2.gT p2.gE p2.gQ p2.gO p2.gP p2.gN ((Ab.mk p2.gB.gI p2.gB.gF p2.gB.gG))), ([] : List Bk)))
   (A7 (fun (v5 : Int) =>
    some ((Ak.mk p2.gT p2.gE p2.gQ p2.gO p2.gP v5 ((Ab.mk p2.gB.gI p2.gB.gF p2.gB.gG))), ([] : List Bk)))
   fun j5 =>
   AL ((p3.gD == 2))
    (j5 0)
    (AL ((p3.gD == 3))
     ((DE N p0 p1 ((Ak.mk p2.gT p2.gE p2.gQ p2.gO p2.gP p2.gN ((Ab.mk p2.gB.gI p2.gB.gF p2.gB.gG))))).bind fun v8 =>
     some ((Ak.mk v8.1.gT v8.1.gE v8.1.gQ v8.1.gO v8.1.gP v8.1.gN ((Ab.mk v8.1.gB.gI v8.1.gB.gF v8.1.gB.gG))), v8.2))
     (A7 (fun (v9 : Bool) =>
      AL v9
       (A7 (fun (v14 : Bool) =>
        AL v14
         (some ((Ak.mk p2.gT p2.gE p2.gQ p2.gO p2.gP p2.gN ((Ab.mk p2.gB.gI p2.gB.gF p2.gB.gG))), ([] : List Bk)))
         ((Bg p2.gT p2.gE).bind fun v18 =>
         AL ((p2.gQ == 3))
          ((CE N p0 p2.gT p2.gE).bind fun v20 =>
          some ((Ak.mk p2.gT p2.gE 5 0 p2.gP p2.gN v20), ([] : List Bk)))
          (AL ((v18.gD == 1))
           ((A3 N ((Ak.mk p2.gT p2.gE 2 p2.gO p2.gP p2.gN ((Ab.mk p2.gB.gI p2.gB.gF p2.gB.gG))))).bind fun v22 =>
           some ((Ak.mk p2.gT p2.gE 2 p2.gO p2.gP p2.gN ((Ab.mk p2.gB.gI p2.gB.gF p2.gB.gG))), v22))
           ((CI N p1 v18.gL).bind fun v23 =>
           (Bg p1 v18.gL).bind fun v24 =>
           AL ((p2.gO == (wI .i64 ((wI .i64 (v23 + v24)) - 1))))
            ((DF N p0 ((Ak.mk p2.gT p2.gE p2.gQ p2.gO p2.gP p2.gN ((Ab.mk p2.gB.gI p2.gB.gF p2.gB.gG))))).bind fun v26 =>
            some ((Ak.mk v26.1.gT v26.1.gE v26.1.gQ v26.1.gO v26.1.gP v26.1.gN ((Ab.mk v26.1.gB.gI v26.1.gB.gF v26.1.gB.gG))), v26.2))
            ((A3 N ((Ak.mk p2.gT p2.gE p2.gQ ((wI .i64 (p2.gO + 1))) p2.gP p2.gN ((Ab.mk p2.gB.gI p2.gB.gF p2.gB.gG))))).bind fun v27 =>
            some ((Ak.mk p2.gT p2.gE p2.gQ ((wI .i64 (p2.gO + 1))) p2.gP p2.gN ((Ab.mk p2.gB.gI p2.gB.gF p2.gB.gG))), v27))))))
       fun j14 =>
       AL ((p3.gO != p2.gO))
        (j14 true)
        ((AZ N ((Ak.mk p2.gT p2.gE p2.gQ p2.gO p2.gP p2.gN ((Ab.mk p2.gB.gI p2.gB.gF p2.gB.gG))))).bind fun v16 =>
        j14 (p3.gV != v16)))
       (A7 (fun (v28 : Bool) =>
        AL v28
         (AL p3.qG
          ((DF N p0 ((Ak.mk p2.gT p2.gE p2.gQ p2.gO p2.gP p2.gN ((Ab.mk p2.gB.gI p2.gB.gF p2.gB.gG))))).bind fun v33 =>
          some ((Ak.mk v33.1.gT v33.1.gE v33.1.gQ v33.1.gO v33.1.gP v33.1.gN ((Ab.mk v33.1.gB.gI v33.1.gB.gF v33.1.gB.gG))), v33.2))
          ((Cd N ((Ak.mk p2.gT p2.gE p2.gQ p2.gO p2.gP p2.gN ((Ab.mk p2.gB.gI p2.gB.gF p2.gB.gG)))) 3).bind fun v34 =>
          (A3 N ((Ak.mk v34.1.gT v34.1.gE 3 v34.1.gO v34.1.gP v34.1.gN ((Ab.mk v34.1.gB.gI v34.1.gB.gF v34.1.gB.gG))))).bind fun v35 =>
          (ES (v34.2.length + v35.length ≤ EI)).bind fun _ =>
          some ((Ak.mk v34.1.gT v34.1.gE 3 v34.1.gO v34.1.gP v34.1.gN ((Ab.mk v34.1.gB.gI v34.1.gB.gF v34.1.gB.gG))), v34.2 ++ v35)))
         (A7 (fun (v37 : Bool) =>
          AL v37
           ((DF N p0 ((Ak.mk p2.gT p2.gE p2.gQ p2.gO p2.gP p2.gN ((Ab.mk p2.gB.gI p2.gB.gF p2.gB.gG))))).bind fun v43 =>
           some ((Ak.mk v43.1.gT v43.1.gE v43.1.gQ v43.1.gO v43.1.gP v43.1.gN ((Ab.mk v43.1.gB.gI v43.1.gB.gF v43.1.gB.gG))), v43.2))
           (A7 (fun (v44 : Bool) =>
            AL v44
             ((Cd N ((Ak.mk p2.gT p2.gE p2.gQ p2.gO p2.gP p2.gN ((Ab.mk p2.gB.gI p2.gB.gF p2.gB.gG)))) 4).bind fun v47 =>
             some ((Ak.mk v47.1.gT v47.1.gE 0 v47.1.gO v47.1.gP v47.1.gN ((Ab.mk v47.1.gB.gI v47.1.gB.gF v47.1.gB.gG))), v47.2))
             (j5 p2.gN))
           fun j44 =>
           AL ((p3.gD == 7))
            (j44 (p2.gQ == 5))
            (j44 false)))
         fun j37 =>
         AL ((p3.gD == 6))
          (AL ((p3.gP == p2.gP))
           (AL ((p2.gQ == 4))
            ((Bg p2.gT p2.gE).bind fun v41 =>
            j37 (p3.gX == v41.gL))
            (j37 false))
           (j37 false))
          (j37 false)))
       fun j28 =>
       AL ((p3.gD == 5))
        (AL ((p3.gP == p2.gP))
         (j28 (p2.gQ == 2))
         (j28 false))
        (j28 false)))
     fun j9 =>
     AL ((p3.gD == 4))
      (AL ((p3.gP == p2.gP))
       (AL ((p2.gQ == 1))
        (j9 true)
        (j9 (p2.gQ == 3)))
       (j9 false))
      (j9 false)))))
def Du (N : Nat) (p0 : Bz) (v1 : Aa × Bool) (j9 : ((List Int)) → Option (Aa × (List Int) × Ak × Bool)) : Nat → ((List Int) × Int) → Option (Aa × (List Int) × Ak × Bool)
 | 0, _ => none
 | n9 + 1, v9 =>
  AL ((decide (v9.2 < (v1.1.gH.length : Int))))
   (A7 (fun (v12 : Int) =>
    (ES (v9.1.length + (([v12] : List Int)).length ≤ EI)).bind fun _ =>
    Du N p0 v1 j9 n9 (v9.1 ++ (([v12] : List Int)), (wI .i64 (v9.2 + 1))))
   fun j12 =>
   AL ((decide (v9.2 < (p0.qA.length : Int))))
    ((Bg p0.qA v9.2).bind fun v14 =>
    j12 (wI .i64 (1 + (wI .i64 ((zJ v14 3))))))
    (j12 1))
   (j9 v9.1)
def Di (N : Nat) (p0 : Bz) (j17 : (Aa × Ak × (List Int)) → Option (Aa × (List Int) × Ak × Bool)) : Nat → ((List Int) × (List Int) × (List Int) × (List AA) × (List Ae) × Int × Int × Int × Int × Int × (List Int) × (List Int) × (List Int) × (List Int) × Int) → Option (Aa × (List Int) × Ak × Bool)
 | 0, _ => none
 | n17 + 1, v17 =>
  AL ((decide (v17.2.2.2.2.2.2.2.2.2.2.2.2.2.2 < (p0.qD.length : Int))))
   ((Bg p0.qD v17.2.2.2.2.2.2.2.2.2.2.2.2.2.2).bind fun v20 =>
   (Dh N ((Ak.mk v17.2.2.2.2.1 v17.2.2.2.2.2.1 v17.2.2.2.2.2.2.1 v17.2.2.2.2.2.2.2.1 v17.2.2.2.2.2.2.2.2.1 v17.2.2.2.2.2.2.2.2.2.1 ((Ab.mk v17.2.2.2.2.2.2.2.2.2.2.1 v17.2.2.2.2.2.2.2.2.2.2.2.1 v17.2.2.2.2.2.2.2.2.2.2.2.2.1)))) v20).bind fun v21 =>
   (A6 N ((Aa.mk v17.1 v17.2.1 v17.2.2.1 v17.2.2.2.1)) v17.2.2.2.2.2.2.2.2.2.2.2.2.2.1 ((Ak.mk v17.2.2.2.2.1 v17.2.2.2.2.2.1 v17.2.2.2.2.2.2.1 v17.2.2.2.2.2.2.2.1 v17.2.2.2.2.2.2.2.2.1 v17.2.2.2.2.2.2.2.2.2.1 ((Ab.mk v17.2.2.2.2.2.2.2.2.2.2.1 v17.2.2.2.2.2.2.2.2.2.2.2.1 v17.2.2.2.2.2.2.2.2.2.2.2.2.1)))) v21).bind fun v22 =>
   Di N p0 j17 n17 (v17.1, v17.2.1, v17.2.2.1, v17.2.2.2.1, v22.1.gT, v22.1.gE, v22.1.gQ, v22.1.gO, v22.1.gP, v22.1.gN, v22.1.gB.gI, v22.1.gB.gF, v22.1.gB.gG, v17.2.2.2.2.2.2.2.2.2.2.2.2.2.1, (wI .i64 (v17.2.2.2.2.2.2.2.2.2.2.2.2.2.2 + 1))))
   (j17 ((Aa.mk v17.1 v17.2.1 v17.2.2.1 v17.2.2.2.1), (Ak.mk v17.2.2.2.2.1 v17.2.2.2.2.2.1 v17.2.2.2.2.2.2.1 v17.2.2.2.2.2.2.2.1 v17.2.2.2.2.2.2.2.2.1 v17.2.2.2.2.2.2.2.2.2.1 ((Ab.mk v17.2.2.2.2.2.2.2.2.2.2.1 v17.2.2.2.2.2.2.2.2.2.2.2.1 v17.2.2.2.2.2.2.2.2.2.2.2.2.1))), v17.2.2.2.2.2.2.2.2.2.2.2.2.2.1))
def E7 (N : Nat) (p0 : Bz) : Option (Aa × (List Int) × Ak × Bool) :=
 (Fc N ((BG.mk p0.gK.gH p0.gK.gR p0.gK.gU p0.gK.qy))).bind fun v1 =>
 A7 (fun (v2 : Bool) =>
  AL v2
   (some (v1.1, ([] : List Int), (Ak.mk (([] : List Ae)) 0 0 0 0 0 ((Ab.mk (([] : List Int)) (([] : List Int)) (([] : List Int))))), false))
   ((Fh N v1.1).bind fun v7 =>
   AL ((v7.2 != 0))
    (some (v1.1, ([] : List Int), (Ak.mk (([] : List Ae)) 0 0 0 0 0 ((Ab.mk (([] : List Int)) (([] : List Int)) (([] : List Int))))), false))
    (Du N p0 v1 (fun (v10 : (List Int)) =>
     (EM N v1.1 v10 v7.1).bind fun v16 =>
     Di N p0 (fun (v18 : Aa × Ak × (List Int)) =>
      some (v18.1, v18.2.2, (Ak.mk v18.2.1.gT v18.2.1.gE v18.2.1.gQ v18.2.1.gO v18.2.1.gP v18.2.1.gN ((Ab.mk v18.2.1.gB.gI v18.2.1.gB.gF v18.2.1.gB.gG))), (v16.2 == 0))) N (v1.1.gH, v1.1.gR, v1.1.gU, v1.1.gJ, v16.1.gT, v16.1.gE, v16.1.gQ, v16.1.gO, v16.1.gP, v16.1.gN, v16.1.gB.gI, v16.1.gB.gF, v16.1.gB.gG, v10, 0)) N (([] : List Int), 0))))
 fun j2 =>
 AL ((!v1.2))
  (j2 true)
  (AL ((decide (40 < (p0.qD.length : Int))))
   (j2 true)
   ((EZ N v1.1 120).bind fun v5 =>
   j2 (!v5)))
def Da (_ : Nat) (p0 : Ab) (p1 : Int) (p2 : Int) : Option Bool :=
 A7 (fun (v1 : Bool) =>
  some v1)
 fun j1 =>
 AL ((decide (0 ≤ p2)))
  ((Bg p0.gI p1).bind fun v3 =>
  AL ((p2 == v3))
   (j1 true)
   ((Bg p0.gF p1).bind fun v5 =>
   j1 (p2 == v5)))
  (j1 false)
def B0 (N : Nat) (p0 : Aa) (p1 : Ab) (v1 : (List Ad) × Int) (v4 : AA) (v5 : (List Ad) × Int) (j9 : ((List Ad)) → Option ((List Ad))) : Nat → ((List Ad) × Int) → Option ((List Ad))
 | 0, _ => none
 | n9 + 1, v9 =>
  (Bg p0.gH v4.gW).bind fun v11 =>
  AL ((decide (v9.2 < v11)))
   (A7 (fun (v13 : (List Ad)) =>
    B0 N p0 p1 v1 v4 v5 j9 n9 (v13, (wI .i64 (v9.2 + 1))))
   fun j13 =>
   (Da N p1 v4.gM v5.2).bind fun v14 =>
   A7 (fun (v15 : Bool) =>
    A7 (fun (v20 : Bool) =>
     AL v20
      ((ES (v9.1.length + (([(Ad.mk 0 1 v1.2 v5.2 v9.2 0 0 0 0 0 0)] : List Ad)).length ≤ EI)).bind fun _ =>
      j13 (v9.1 ++ (([(Ad.mk 0 1 v1.2 v5.2 v9.2 0 0 0 0 0 0)] : List Ad))))
      (j13 v9.1))
    fun j20 =>
    AL v15
     ((Da N p1 v4.gW v9.2).bind fun v22 =>
     AL v22
      ((Bg v4.gY v5.2).bind fun v24 =>
      (Bg v24 v9.2).bind fun v25 =>
      j20 v25)
      (j20 false))
     (j20 false))
   fun j15 =>
   (Bd N v4).bind fun v16 =>
   AL v16
    ((Bg p1.gG v1.2).bind fun v18 =>
    (Cm N v18 v5.2).bind fun v19 =>
    j15 v19)
    (j15 v14))
   (j9 v9.1)
def Ck (N : Nat) (p0 : Aa) (p1 : Ab) (v1 : (List Ad) × Int) (v4 : AA) (j5 : ((List Ad)) → Option ((List Ad))) : Nat → ((List Ad) × Int) → Option ((List Ad))
 | 0, _ => none
 | n5 + 1, v5 =>
  (Bg p0.gH v4.gM).bind fun v7 =>
  AL ((decide (v5.2 < v7)))
   (B0 N p0 p1 v1 v4 v5 (fun (v10 : (List Ad)) =>
    Ck N p0 p1 v1 v4 j5 n5 (v10, (wI .i64 (v5.2 + 1)))) N (v5.1, 0))
   (j5 v5.1)
def Cn (N : Nat) (p0 : Aa) (p1 : Ab) (j1 : ((List Ad)) → Option ((List Ad))) : Nat → ((List Ad) × Int) → Option ((List Ad))
 | 0, _ => none
 | n1 + 1, v1 =>
  AL ((decide (v1.2 < (p0.gJ.length : Int))))
   ((Bg p0.gJ v1.2).bind fun v4 =>
   Ck N p0 p1 v1 v4 (fun (v6 : (List Ad)) =>
    Cn N p0 p1 j1 n1 (v6, (wI .i64 (v1.2 + 1)))) N (v1.1, 0))
   (j1 v1.1)
def D2 (N : Nat) (p0 : Aa) (p1 : Ab) : Option ((List Ad)) :=
 Cn N p0 p1 (fun (v2 : (List Ad)) =>
  some v2) N (([] : List Ad), 0)
def CN (N : Nat) (p0 : Ak) (p1 : Int) (p2 : Int) : Option (Ct × (List Ad)) :=
 AL ((p0.gN == 0))
  (some ((Ct.mk 1 p2 0 0 0 false 0), ([(Ad.mk 0 7 0 0 0 0 p2 0 0 0 ((wI .i64 ((zJ p1 2)))))] : List Ad)))
  (AL (((zJ p1 8) == 5))
   (some ((Ct.mk 2 0 0 0 0 false 0), ([] : List Ad)))
   ((Dh N ((Ak.mk p0.gT p0.gE p0.gQ p0.gO p0.gP p0.gN ((Ab.mk p0.gB.gI p0.gB.gF p0.gB.gG)))) 0).bind fun v3 =>
   A7 (fun (v4 : Bool) =>
    AL ((v3.gD == 4))
     (some ((Ct.mk v3.gD v3.gN v3.gP v3.gO v3.gV v4 v3.gX), ([(Ad.mk 0 6 0 0 0 0 0 v3.gP v3.gO v3.gV 0)] : List Ad)))
     (some ((Ct.mk v3.gD v3.gN v3.gP v3.gO v3.gV v4 v3.gX), ([] : List Ad))))
   fun j4 =>
   AL ((v3.gD == 5))
    (j4 ((zJ p1 16) != 3))
    (j4 v3.qG)))
def Cv (_ : Nat) (p0 : List Ae) (p1 : Int) : Option Int :=
 AL ((decide (p1 < (p0.length : Int))))
  ((Bg p0 p1).bind fun v2 =>
  some v2.gD)
  (some 0)
def CT (N : Nat) (p0 : Aa) (p1 : List Ae) (p2 : Int) (p3 : Int) : Option (Ab × Int) :=
 (BQ N p0).bind fun v1 =>
 AL ((v1 != 0))
  (some ((Ab.mk (([] : List Int)) (([] : List Int)) (([] : List Int))), v1))
  ((Ec N p0 p1).bind fun v3 =>
  AL ((!v3))
   (some ((Ab.mk (([] : List Int)) (([] : List Int)) (([] : List Int))), 13))
   (A7 (fun (v5 : Bool) =>
    AL v5
     (some ((Ab.mk (([] : List Int)) (([] : List Int)) (([] : List Int))), 7))
     ((D0 N p0 p1).bind fun v9 =>
     (Cv N p1 p2).bind fun v10 =>
     A7 (fun (v11 : Bool) =>
      AL v11
       ((Bg v9 p2).bind fun v19 =>
       some (v19, 0))
       (A7 (fun (v20 : Bool) =>
        AL v20
         ((Bg v9 ((wI .i64 (p2 + 1)))).bind fun v25 =>
         some (v25, 0))
         (A7 (fun (v26 : Bool) =>
          AL v26
           ((CE N p0 p1 p2).bind fun v29 =>
           some (v29, 0))
           (some ((Ab.mk (([] : List Int)) (([] : List Int)) (([] : List Int))), 7)))
         fun j26 =>
         AL ((p3 == 5))
          (j26 (v10 == 1))
          (j26 false)))
       fun j20 =>
       AL ((p3 == 1))
        (j20 (v10 == 1))
        (AL ((p3 == 2))
         (j20 (v10 == 1))
         (AL ((p3 == 3))
          (j20 (v10 == 1))
          (j20 false)))))
     fun j11 =>
     AL ((p3 == 0))
      (j11 true)
      (AL ((p3 == 6))
       (j11 true)
       (AL ((p3 == 1))
        (AL ((v10 == 2))
         (j11 true)
         (AL ((p3 == 4))
          (j11 (v10 == 3))
          (j11 false)))
        (AL ((p3 == 4))
         (j11 (v10 == 3))
         (j11 false))))))
   fun j5 =>
   AL ((decide (p2 < 0)))
    (j5 true)
    (AL ((decide ((p1.length : Int) < p2)))
     (j5 true)
     (j5 (!((p3 == 6) == (p2 == (p1.length : Int))))))))
def D9 (N : Nat) (p0 : Aa) (p1 : List Int) (p2 : Ak) : Option Bool :=
 A7 (fun (v1 : Bool) =>
  AL v1
   (some false)
   ((CT N p0 p2.gT p2.gE p2.gQ).bind fun v5 =>
   AL ((v5.2 != 0))
    (some false)
    (A7 (fun (v7 : Int) =>
     A7 (fun (v15 : Int × Int) =>
      AL ((decide (p2.gP < (wI .i64 ((wI .i64 (2 * p2.gE)) + v7)))))
       (some false)
       (A7 (fun (v25 : Bool) =>
        AL v25
         (some false)
         ((Bm N ((Ab.mk p2.gB.gI p2.gB.gF p2.gB.gG)) v5.1).bind fun v29 =>
         AL v29
          (some true)
          (A7 (fun (v31 : Bool) =>
           some v31)
          fun j31 =>
          AL ((p2.gQ == 0))
           ((Cv N p2.gT p2.gE).bind fun v33 =>
           AL ((v33 == 1))
            (AL ((decide (3 ≤ (wI .i64 ((wI .i64 (p2.gP - (wI .i64 (2 * p2.gE)))) - v7)))))
             ((CE N p0 p2.gT p2.gE).bind fun v36 =>
             (Bm N ((Ab.mk p2.gB.gI p2.gB.gF p2.gB.gG)) v36).bind fun v37 =>
             j31 v37)
             (j31 false))
            (j31 false))
           (j31 false))))
       fun j25 =>
       AL (((zJ ((wI .i64 ((wI .i64 (p2.gP - (wI .i64 (2 * p2.gE)))) - v7))) 3) != 0))
        (j25 true)
        (AL ((decide (p2.gO < v15.1)))
         (j25 true)
         (j25 (decide (v15.2 < p2.gO))))))
     fun j15 =>
     A7 (fun (v16 : Bool) =>
      AL v16
       ((Bg p2.gT p2.gE).bind fun v20 =>
       (CI N p1 v20.gL).bind fun v21 =>
       AL ((v20.gD == 2))
        ((Bg p1 v20.gL).bind fun v23 =>
        j15 (v21, (wI .i64 ((wI .i64 (v21 + v23)) - 1))))
        (j15 (v21, v21)))
       (j15 (0, 0)))
     fun j16 =>
     AL ((p2.gQ == 1))
      (j16 true)
      (AL ((p2.gQ == 2))
       (j16 true)
       (j16 (p2.gQ == 3))))
    fun j7 =>
    A7 (fun (v8 : Bool) =>
     AL v8
      (j7 1)
      (A7 (fun (v11 : Bool) =>
       AL v11
        (j7 2)
        (AL ((p2.gQ == 4))
         (j7 1)
         (j7 0)))
      fun j11 =>
      AL ((p2.gQ == 3))
       (j11 (p2.gQ == 3))
       (j11 (p2.gQ == 5))))
    fun j8 =>
    AL ((p2.gQ == 1))
     (j8 (p2.gQ == 1))
     (j8 (p2.gQ == 2)))))
 fun j1 =>
 (C7 N p0 p1).bind fun v2 =>
 AL ((v2 != 0))
  (j1 true)
  (j1 (decide (p2.gN < 0)))
def FI (N : Nat) (p0 : Aa) (p1 : List Int) (p2 : Ak) : Option Int :=
 (C7 N p0 p1).bind fun v1 =>
 AL ((v1 != 0))
  (some v1)
  ((D9 N p0 p1 ((Ak.mk p2.gT p2.gE p2.gQ p2.gO p2.gP p2.gN ((Ab.mk p2.gB.gI p2.gB.gF p2.gB.gG))))).bind fun v3 =>
  AL ((!v3))
   (some 1)
   (some 0))
def Dg (N : Nat) (p0 : Aa) (p1 : List Int) (p2 : Ak) (p3 : Ct) : Option (Ak × (List Bk) × Int) :=
 (FI N p0 p1 ((Ak.mk p2.gT p2.gE p2.gQ p2.gO p2.gP p2.gN ((Ab.mk p2.gB.gI p2.gB.gF p2.gB.gG))))).bind fun v1 =>
 AL ((v1 != 0))
  (some ((Ak.mk (([] : List Ae)) 0 0 0 0 0 ((Ab.mk (([] : List Int)) (([] : List Int)) (([] : List Int))))), ([] : List Bk), v1))
  ((A6 N p0 p1 ((Ak.mk p2.gT p2.gE p2.gQ p2.gO p2.gP p2.gN ((Ab.mk p2.gB.gI p2.gB.gF p2.gB.gG)))) p3).bind fun v3 =>
  some ((Ak.mk v3.1.gT v3.1.gE v3.1.gQ v3.1.gO v3.1.gP v3.1.gN ((Ab.mk v3.1.gB.gI v3.1.gB.gF v3.1.gB.gG))), v3.2, 0))
def D1 (_ : Nat) (p0 : Int) (p1 : Bk) : Option Ad :=
 (Bg (([2, 3, 4, 5] : List Int)) ((wI .i64 (p1.qt.gD - 1)))).bind fun v1 =>
 some ((Ad.mk p0 v1 0 0 0 p1.qt.gL p1.qt.gN 0 0 0 0))
def Bo (N : Nat) (v3 : Ak × (List Ad) × Int × Int) (j18 : ((List Ad)) → Option (Aa × (List Int) × (List Ae) × (List Ad) × Bool)) : Nat → ((List Ad) × (List Ad) × Int) → Option (Aa × (List Int) × (List Ae) × (List Ad) × Bool)
 | 0, _ => none
 | n18 + 1, v18 =>
  AL ((decide (v18.2.2 < (v18.2.1.length : Int))))
   ((Bg v18.2.1 v18.2.2).bind fun v21 =>
   (Bg (v18.2.1.set ((v18.2.2).toNat) ((Ad.mk ((wI .i64 (y5 v3.2.2.2 2))) v21.gD v21.gX v21.g8 v21.hJ v21.gL v21.gN v21.gP v21.gO v21.gV v21.qv))) v18.2.2).bind fun v22 =>
   (ES (v18.1.length + (([v22] : List Ad)).length ≤ EI)).bind fun _ =>
   Bo N v3 j18 n18 (v18.1 ++ (([v22] : List Ad)), v18.2.1.set ((v18.2.2).toNat) ((Ad.mk ((wI .i64 (y5 v3.2.2.2 2))) v21.gD v21.gX v21.g8 v21.hJ v21.gL v21.gN v21.gP v21.gO v21.gV v21.qv)), (wI .i64 (v18.2.2 + 1))))
   (j18 v18.1)
def BW (N : Nat) (v3 : Ak × (List Ad) × Int × Int) (v24 : Ak × (List Bk) × Int) (j25 : ((List Ad)) → Option (Aa × (List Int) × (List Ae) × (List Ad) × Bool)) : Nat → ((List Ad) × Int) → Option (Aa × (List Int) × (List Ae) × (List Ad) × Bool)
 | 0, _ => none
 | n25 + 1, v25 =>
  AL ((decide (v25.2 < (v24.2.1.length : Int))))
   (A7 (fun (v28 : (List Ad)) =>
    BW N v3 v24 j25 n25 (v28, (wI .i64 (v25.2 + 1))))
   fun j28 =>
   (Bg v24.2.1 v25.2).bind fun v29 =>
   AL ((v29.gD == 1))
    ((Bg v24.2.1 v25.2).bind fun v31 =>
    (D1 N ((wI .i64 (y5 v3.2.2.2 2))) ((Bk.mk v31.gD ((Fw.mk v31.qt.gD v31.qt.gN v31.qt.gL v31.qt.qH)) ((DY.mk v31.qB.gP v31.qB.gO v31.qB.gV)) v31.qM v31.gX))).bind fun v32 =>
    (ES (v25.1.length + (([v32] : List Ad)).length ≤ EI)).bind fun _ =>
    j28 (v25.1 ++ (([v32] : List Ad))))
    (j28 v25.1))
   (j25 v25.1)
def BK (N : Nat) (p1 : List Int) (v1 : Aa × (List Int) × Ak × Bool) (j3 : (Ak × (List Ad)) → Option (Aa × (List Int) × (List Ae) × (List Ad) × Bool)) : Nat → (Ak × (List Ad) × Int × Int) → Option (Aa × (List Int) × (List Ae) × (List Ad) × Bool)
 | 0, _ => none
 | n3 + 1, v3 =>
  AL ((decide (v3.2.2.2 < (p1.length : Int))))
   (A7 (fun (v6 : Ak × (List Ad) × Int) =>
    BK N p1 v1 j3 n3 ((Ak.mk v6.1.gT v6.1.gE v6.1.gQ v6.1.gO v6.1.gP v6.1.gN ((Ab.mk v6.1.gB.gI v6.1.gB.gF v6.1.gB.gG))), v6.2.1, v6.2.2, (wI .i64 (v3.2.2.2 + 1))))
   fun j6 =>
   (Bg p1 v3.2.2.2).bind fun v7 =>
   (D2 N v1.1 ((Ab.mk v3.1.gB.gI v3.1.gB.gF v3.1.gB.gG))).bind fun v8 =>
   A7 (fun (v9 : Bool) =>
    AL v9
     ((ES ((v8.length : Int) ≠ 0)).bind fun _ =>
     (Bg v8 ((zJ ((wI .i64 ((wI .u8 (y5 v7 8))))) ((v8.length : Int))))).bind fun v13 =>
     (ES (v3.2.1.length + (([(Ad.mk ((wI .i64 (y5 v3.2.2.2 2))) v13.gD v13.gX v13.g8 v13.hJ v13.gL v13.gN v13.gP v13.gO v13.gV v13.qv)] : List Ad)).length ≤ EI)).bind fun _ =>
     j6 ((Ak.mk v3.1.gT v3.1.gE v3.1.gQ v3.1.gO v3.1.gP v3.1.gN ((Ab.mk v3.1.gB.gI v3.1.gB.gF v3.1.gB.gG))), v3.2.1 ++ (([(Ad.mk ((wI .i64 (y5 v3.2.2.2 2))) v13.gD v13.gX v13.g8 v13.hJ v13.gL v13.gN v13.gP v13.gO v13.gV v13.qv)] : List Ad)), v3.2.2.1))
     (A7 (fun (v15 : Int) =>
      (CN N ((Ak.mk v3.1.gT v3.1.gE v3.1.gQ v3.1.gO v3.1.gP v3.1.gN ((Ab.mk v3.1.gB.gI v3.1.gB.gF v3.1.gB.gG)))) v7 v15).bind fun v17 =>
      Bo N v3 (fun (v19 : (List Ad)) =>
       (Dg N v1.1 v1.2.1 ((Ak.mk v3.1.gT v3.1.gE v3.1.gQ v3.1.gO v3.1.gP v3.1.gN ((Ab.mk v3.1.gB.gI v3.1.gB.gF v3.1.gB.gG)))) v17.1).bind fun v24 =>
       BW N v3 v24 (fun (v26 : (List Ad)) =>
        j6 ((Ak.mk v24.1.gT v24.1.gE v24.1.gQ v24.1.gO v24.1.gP v24.1.gN ((Ab.mk v24.1.gB.gI v24.1.gB.gF v24.1.gB.gG))), v26, v15)) N (v19, 0)) N (v3.2.1, v17.2, 0))
     fun j15 =>
     AL ((v3.1.gN == 0))
      (j15 (wI .i64 (v3.2.2.1 + 1)))
      (j15 v3.2.2.1)))
   fun j9 =>
   AL ((decide (6 ≤ (zJ v7 8))))
    (j9 (decide (0 < (v8.length : Int))))
    (j9 false))
   (j3 ((Ak.mk v3.1.gT v3.1.gE v3.1.gQ v3.1.gO v3.1.gP v3.1.gN ((Ab.mk v3.1.gB.gI v3.1.gB.gF v3.1.gB.gG))), v3.2.1))
def C0 (N : Nat) (p0 : Bz) (p1 : List Int) : Option (Aa × (List Int) × (List Ae) × (List Ad) × Bool) :=
 (E7 N ((Bz.mk ((BG.mk p0.gK.gH p0.gK.gR p0.gK.gU p0.gK.qy)) p0.qA (([] : List Int))))).bind fun v1 =>
 AL ((!v1.2.2.2))
  (some (v1.1, ([] : List Int), ([] : List Ae), ([] : List Ad), false))
  (BK N p1 v1 (fun (v4 : Ak × (List Ad)) =>
   some (v1.1, v1.2.1, v4.1.gT, v4.2, true)) N ((Ak.mk v1.2.2.1.gT v1.2.2.1.gE v1.2.2.1.gQ v1.2.2.1.gO v1.2.2.1.gP v1.2.2.1.gN ((Ab.mk v1.2.2.1.gB.gI v1.2.2.1.gB.gF v1.2.2.1.gB.gG))), ([] : List Ad), 0, 0))
def Dn (N : Nat) (p0 : Bz) (p1 : List Int) : Option Bool :=
 A7 (fun (v1 : Bool) =>
  AL v1
   ((EU N).bind fun v5 =>
   some v5)
   ((C0 N ((Bz.mk ((BG.mk p0.gK.gH p0.gK.gR p0.gK.gU p0.gK.qy)) p0.qA p0.qD)) p1).bind fun v6 =>
   AL ((!v6.2.2.2.2))
    (some true)
    ((Ft N v6.1 v6.2.1 v6.2.2.1 v6.2.2.2.1).bind fun v8 =>
    (G9 N v6.1 v6.2.2.1 v6.2.2.2.1).bind fun v9 =>
    A7 (fun (v10 : Bool) =>
     some v10)
    fun j10 =>
    AL ((v8.2.2 == 15))
     (AL ((v9.2 == 0))
      ((Ce N v6.1 v9.1).bind fun v13 =>
      j10 (v13 == 0))
      (j10 false))
     (j10 false))))
 fun j1 =>
 (EU N).bind fun v2 =>
 AL ((!v2))
  (j1 true)
  (j1 (decide (60 < (p1.length : Int))))
def Ip (_ : Nat) (p0 : Ad) : Option ((List Int)) :=
 AL ((p0.gD == 1))
  (some (([p0.gX, p0.g8, p0.hJ] : List Int)))
  (AL ((p0.gD == 6))
   (some (([p0.gO, p0.gV, p0.gP] : List Int)))
   (AL ((p0.gD == 7))
    (some (([p0.qv, p0.gN] : List Int)))
    (some (([p0.gL, p0.gN] : List Int)))))
def I7 (_ : Nat) (p0 : Int) (p1 : Int) (p2 : List Int) : Option Ad :=
 A7 (fun (v1 : Int × Int × Int × Int × Int × Int × Int × Int × Int) =>
  some ((Ad.mk p0 p1 v1.1 v1.2.1 v1.2.2.1 v1.2.2.2.1 v1.2.2.2.2.1 v1.2.2.2.2.2.1 v1.2.2.2.2.2.2.1 v1.2.2.2.2.2.2.2.1 v1.2.2.2.2.2.2.2.2)))
 fun j1 =>
 AL ((p1 == 1))
  ((Bg p2 0).bind fun v3 =>
  (Bg p2 1).bind fun v4 =>
  (Bg p2 2).bind fun v5 =>
  j1 (v3, v4, v5, 0, 0, 0, 0, 0, 0))
  (AL ((p1 == 6))
   ((Bg p2 0).bind fun v7 =>
   (Bg p2 1).bind fun v8 =>
   (Bg p2 2).bind fun v9 =>
   j1 (0, 0, 0, 0, 0, v9, v7, v8, 0))
   (AL ((p1 == 7))
    ((Bg p2 0).bind fun v11 =>
    (Bg p2 1).bind fun v12 =>
    j1 (0, 0, 0, 0, v12, 0, 0, 0, v11))
    ((Bg p2 0).bind fun v13 =>
    (Bg p2 1).bind fun v14 =>
    j1 (0, 0, 0, v13, v14, 0, 0, 0, 0))))
def J7 (_ : Nat) (p0 : Ad) : Option Bool :=
 A7 (fun (v1 : Bool) =>
  some v1)
 fun j1 =>
 AL ((decide (2 ≤ p0.gD)))
  (j1 (decide (p0.gD ≤ 5)))
  (j1 false)
def I9 (_ : Nat) (p0 : Aa) (p1 : Ad) : Option Bool :=
 AL ((p1.gD != 1))
  (some false)
  (AL ((decide ((p0.gJ.length : Int) ≤ p1.gX)))
   (some true)
   ((Bg p0.gJ p1.gX).bind fun v3 =>
   A7 (fun (v4 : Bool) =>
    some v4)
   fun j4 =>
   (Bg p0.gH v3.gM).bind fun v5 =>
   AL ((decide (v5 ≤ p1.g8)))
    (j4 true)
    ((Bg p0.gH v3.gW).bind fun v7 =>
    AL ((decide (v7 ≤ p1.hJ)))
     (j4 true)
     ((Bg v3.gY p1.g8).bind fun v9 =>
     (Bg v9 p1.hJ).bind fun v10 =>
     j4 (!v10)))))
def ED (N : Nat) (p0 : List Int) (j1 : Unit → Option Int) : Nat → (Int × Int) → Option Int
 | 0, _ => none
 | n1 + 1, v1 =>
  AL ((decide (v1.2 < (p0.length : Int))))
   ((Bg p0 v1.2).bind fun v4 =>
   AL ((decide (v1.1 < v4)))
    (some v1.2)
    ((Bg p0 v1.2).bind fun v6 =>
    ED N p0 j1 n1 ((wI .i64 (v1.1 - v6)), (wI .i64 (v1.2 + 1)))))
   (j1 ())
def Gu (N : Nat) (p0 : List Int) (p1 : Int) : Option Int :=
 ED N p0 (fun (_ : Unit) =>
  some ((-1))) N (p1, 0)
def Oq {α : Type} (w : α → Prop) (xs : List α) : Prop := ∀ x, x ∈ xs → w x
def Lr (n : Int) : Prop := (Lit.int .u8 n).wf = true
def cG (n : Int) : Prop := (Lit.int .u16 n).wf = true
def Iw (x : HE) : Prop := Lr x.gD ∧ Lr x.gM ∧ Lr x.gW ∧ (fun _ => True) x.qr ∧ cG x.qE ∧ cG x.qF ∧ True
def GR (x : BG) : Prop := (Oq Lr) x.gH ∧ (Oq Lr) x.gR ∧ (Oq Lr) x.gU ∧ (Oq Iw) x.qy ∧ True
def Iq (x : Bz) : Prop := GR x.gK ∧ (Oq Lr) x.qA ∧ (Oq Lr) x.qD ∧ True
open Go.RowKit
open Go.Proofs
abbrev Ob (x : HE) : List C := [.pure (.val (.int .u8 x.gD)), .pure (.val (.int .u8 x.gM)), .pure (.val (.int .u8 x.gW)), .pure (.val (.bool x.qr)), .pure (.val (.int .u16 x.qE)), .pure (.val (.int .u16 x.qF))]
abbrev DG (x : BG) : List C := [sC (x.gH.map Cy), sC (x.gR.map Cy), sC (x.gU.map Cy), sC (x.qy.map Fs)]
abbrev DA (x : Bz) : List C := [sC (x.gK.gH.map Cy), sC (x.gK.gR.map Cy), sC (x.gK.gU.map Cy), sC (x.gK.qy.map Fs), sC (x.qA.map Cy), sC (x.qD.map Cy)]
abbrev Dd (x : Ae) : List C := [iC x.gD, iC x.gL, iC x.gV]
abbrev C3 (x : Ad) : List C := [iC x.gE, iC x.gD, iC x.gX, iC x.g8, iC x.hJ, iC x.gL, iC x.gN, iC x.gP, iC x.gO, iC x.gV, iC x.qv]
abbrev BJ (x : AA) : List C := [iC x.gD, iC x.gM, iC x.gW, .pure (.val (.bool x.qr)), sC (x.gY.map (Nv eB)), sC (x.g9.map (Nv eB))]
abbrev Ag (x : Aa) : List C := [sC (x.gH.map Aq), sC (x.gR.map Aq), sC (x.gU.map Aq), sC (x.gJ.map Bs)]
abbrev AH (x : Ab) : List C := [sC (x.gI.map Aq), sC (x.gF.map Aq), sC (x.gG.map Cy)]
abbrev AP (x : Ao) : List C := [sC (x.gK.gH.map Aq), sC (x.gK.gR.map Aq), sC (x.gK.gU.map Aq), sC (x.gK.gJ.map Bs), sC (x.gZ.map Ax), iC x.gE, iC x.gQ, sC (x.gB.gI.map Aq), sC (x.gB.gF.map Aq), sC (x.gB.gG.map Cy)]
abbrev Ji (x : Az) : List C := [iC x.gX, iC x.g8, iC x.hJ]
abbrev AM (x : Ak) : List C := [sC (x.gT.map Ax), iC x.gE, iC x.gQ, iC x.gO, iC x.gP, iC x.gN, sC (x.gB.gI.map Aq), sC (x.gB.gF.map Aq), sC (x.gB.gG.map Cy)]
abbrev Gi (x : Ct) : List C := [iC x.gD, iC x.gN, iC x.gP, iC x.gO, iC x.gV, .pure (.val (.bool x.qG)), iC x.gX]
abbrev Y8 (x : Bk) : List C := [iC x.gD, iC x.qt.gD, iC x.qt.gN, iC x.qt.gL, .pure (.val (.string x.qt.qH)), iC x.qB.gP, iC x.qB.gO, iC x.qB.gV, iC x.qM, iC x.gX]
theorem Aw : Tryz.prog.follows .mixedOrders = true := by kernel_rfl
theorem wq {X : IT} {y : Code} {id : Nat} {ops : Array Oper} {dr : Bool} {Q : Exit → St → Prop} {st : St} {n : Nat} (hn : ops.size = n) (h : By zA X ops dr (fun st' => W zA X y Q st') n 0 st []) : W zA X (.seq (.region id ops dr) y) Q st := gv Aw hn h
theorem wp {X : IT} {y z : Code} {id : Nat} {ops : Array Oper} {dr : Bool} {Q : Exit → St → Prop} {st : St} {n : Nat} (hn : ops.size = n) (h : By zA X ops dr (fun st' => W zA X y (RV (W zA X z Q) Q) st') n 0 st []) : W zA X (.seq (.seq (.region id ops dr) y) z) Q st := A5 (gv Aw hn h)
theorem aY : E4 zA 107 true = true := by kernel_rfl
theorem In : E4 zA 110 false = true := by kernel_rfl
theorem FK : E4 zA 112 true = true := by kernel_rfl
theorem IN : E4 zA 113 false = true := by kernel_rfl
theorem MK : E4 zA 125 false = true := by kernel_rfl
theorem bp : E4 zA 164 false = true := by kernel_rfl
theorem aP : E4 zA 184 false = true := by kernel_rfl
theorem dW : E4 zA 186 true = true := by kernel_rfl
theorem Lq : E4 zA 2 false = true := by kernel_rfl
theorem Bi : E4 zA 22 false = true := by kernel_rfl
theorem MU : E4 zA 226 true = true := by kernel_rfl
theorem Hy : E4 zA 23 false = true := by kernel_rfl
theorem BZ : E4 zA 25 true = true := by kernel_rfl
theorem KW : E4 zA 26 false = true := by kernel_rfl
theorem A8 : E4 zA 3 false = true := by kernel_rfl
theorem I0 : E4 zA 37 true = true := by kernel_rfl
theorem Il : E4 zA 38 false = true := by kernel_rfl
theorem Uw : E4 zA 4 false = true := by kernel_rfl
theorem Bf : E4 zA 40 true = true := by kernel_rfl
theorem QX : E4 zA 47 false = true := by kernel_rfl
theorem cJ : E4 zA 48 false = true := by kernel_rfl
theorem bb : E4 zA 5 false = true := by kernel_rfl
theorem fI : E4 zA 50 true = true := by kernel_rfl
theorem d5 : E4 zA 52 true = true := by kernel_rfl
theorem IE : E4 zA 67 true = true := by kernel_rfl
theorem gu : E4 zA 9 false = true := by kernel_rfl
theorem Dx : E4 zA 91 true = true := by kernel_rfl
theorem LZ : E4 zA 96 true = true := by kernel_rfl
theorem WY : XY zA 209 8 9 = true := by kernel_rfl
theorem gA : Rh zA 4 = true := by kernel_rfl
theorem XH : F6 zA 107 88 = true := by kernel_rfl
theorem cI : F6 zA 112 80 = true := by kernel_rfl
theorem PF : F6 zA 113 1 = true := by kernel_rfl
theorem cx : F6 zA 125 24 = true := by kernel_rfl
theorem cB : F6 zA 221 104 = true := by kernel_rfl
theorem YC : F6 zA 226 24 = true := by kernel_rfl
theorem Ok : F6 zA 3 8 = true := by kernel_rfl
theorem VF : F6 zA 37 88 = true := by kernel_rfl
theorem cy : F6 zA 4 1 = true := by kernel_rfl
theorem YL : F6 zA 40 72 = true := by kernel_rfl
theorem Xd : F6 zA 67 24 = true := by kernel_rfl
theorem X6 : Ba zA 103 0 0 = true := by kernel_rfl
theorem Xi : Ba zA 103 1 1 = true := by kernel_rfl
theorem Xh : Ba zA 103 2 2 = true := by kernel_rfl
theorem WS : Ba zA 107 0 0 = true := by kernel_rfl
theorem PN : Ba zA 107 1 1 = true := by kernel_rfl
theorem Fi : Ba zA 112 0 0 = true := by kernel_rfl
theorem CB : Ba zA 112 1 1 = true := by kernel_rfl
theorem Gx : Ba zA 112 2 2 = true := by kernel_rfl
theorem KH : Ba zA 112 3 3 = true := by kernel_rfl
theorem IP : Ba zA 112 4 4 = true := by kernel_rfl
theorem Gv : Ba zA 112 5 5 = true := by kernel_rfl
theorem TM : Ba zA 166 0 0 = true := by kernel_rfl
theorem Tm : Ba zA 166 1 1 = true := by kernel_rfl
theorem Ty : Ba zA 166 2 2 = true := by kernel_rfl
theorem TO : Ba zA 166 3 3 = true := by kernel_rfl
theorem WQ : Ba zA 186 0 0 = true := by kernel_rfl
theorem Yv : Ba zA 186 1 1 = true := by kernel_rfl
theorem XB : Ba zA 186 2 2 = true := by kernel_rfl
theorem XT : Ba zA 186 3 3 = true := by kernel_rfl
theorem W3 : Ba zA 186 4 4 = true := by kernel_rfl
theorem YH : Ba zA 186 5 5 = true := by kernel_rfl
theorem NS : Ba zA 221 0 0 = true := by kernel_rfl
theorem TB : Ba zA 221 1 3 = true := by kernel_rfl
theorem XI : Ba zA 221 2 4 = true := by kernel_rfl
theorem Bx : Ba zA 25 0 0 = true := by kernel_rfl
theorem HA : Ba zA 25 1 1 = true := by kernel_rfl
theorem J2 : Ba zA 25 2 2 = true := by kernel_rfl
theorem CS : Ba zA 25 3 3 = true := by kernel_rfl
theorem KY : Ba zA 37 0 0 = true := by kernel_rfl
theorem Hc : Ba zA 37 1 1 = true := by kernel_rfl
theorem TK : Ba zA 37 10 10 = true := by kernel_rfl
theorem Mq : Ba zA 37 2 2 = true := by kernel_rfl
theorem Mm : Ba zA 37 3 3 = true := by kernel_rfl
theorem N7 : Ba zA 37 4 4 = true := by kernel_rfl
theorem SH : Ba zA 37 5 5 = true := by kernel_rfl
theorem JY : Ba zA 37 6 6 = true := by kernel_rfl
theorem Po : Ba zA 37 7 7 = true := by kernel_rfl
theorem Nn : Ba zA 37 8 8 = true := by kernel_rfl
theorem So : Ba zA 37 9 9 = true := by kernel_rfl
theorem Dj : Ba zA 40 0 0 = true := by kernel_rfl
theorem BU : Ba zA 40 1 1 = true := by kernel_rfl
theorem Dm : Ba zA 40 2 2 = true := by kernel_rfl
theorem SP : Ba zA 50 0 0 = true := by kernel_rfl
theorem ZW : Ba zA 50 1 1 = true := by kernel_rfl
theorem ZA : Ba zA 50 2 2 = true := by kernel_rfl
theorem SX : Ba zA 50 3 3 = true := by kernel_rfl
theorem Y6 : Ba zA 52 0 0 = true := by kernel_rfl
theorem Vr : Ba zA 52 1 4 = true := by kernel_rfl
theorem Pl : Ba zA 52 2 5 = true := by kernel_rfl
theorem DK : Ba zA 67 0 0 = true := by kernel_rfl
theorem Db : Ba zA 67 1 1 = true := by kernel_rfl
theorem HB : Ba zA 67 2 2 = true := by kernel_rfl
theorem Sw : Ba zA 81 0 0 = true := by kernel_rfl
theorem R7 : Ba zA 81 1 4 = true := by kernel_rfl
theorem Mr : Ba zA 81 2 5 = true := by kernel_rfl
theorem Kb : Ba zA 81 3 6 = true := by kernel_rfl
theorem Nw : Ba zA 81 4 7 = true := by kernel_rfl
theorem F0 : Ba zA 91 0 0 = true := by kernel_rfl
theorem E5 : Ba zA 91 1 1 = true := by kernel_rfl
theorem DT : Ba zA 91 2 2 = true := by kernel_rfl
theorem HD : Ba zA 91 3 3 = true := by kernel_rfl
theorem Jf : Ba zA 91 4 4 = true := by kernel_rfl
theorem IJ : Ba zA 91 5 5 = true := by kernel_rfl
theorem IL : Ba zA 91 6 6 = true := by kernel_rfl
theorem Jn : Ba zA 96 0 0 = true := by kernel_rfl
theorem VL : Ba zA 96 1 1 = true := by kernel_rfl
theorem Vx : Ba zA 96 2 2 = true := by kernel_rfl
theorem Vm : Ba zA 96 3 3 = true := by kernel_rfl
theorem Vj : Ba zA 96 4 4 = true := by kernel_rfl
theorem Vo : Ba zA 96 5 5 = true := by kernel_rfl
theorem Y9 : Ba zA 96 6 6 = true := by kernel_rfl
theorem fd : AE zA 100 = true := by kernel_rfl
theorem eJ : AE zA 101 = true := by kernel_rfl
theorem VH : AE zA 102 = true := by kernel_rfl
theorem e8 : AE zA 103 = true := by kernel_rfl
theorem dk : AE zA 108 = true := by kernel_rfl
theorem ez : AE zA 109 = true := by kernel_rfl
theorem ft : AE zA 11 = true := by kernel_rfl
theorem dh : AE zA 110 = true := by kernel_rfl
theorem eR : AE zA 111 = true := by kernel_rfl
theorem dP : AE zA 112 = true := by kernel_rfl
theorem fu : AE zA 113 = true := by kernel_rfl
theorem fc : AE zA 114 = true := by kernel_rfl
theorem XN : AE zA 115 = true := by kernel_rfl
theorem fb : AE zA 116 = true := by kernel_rfl
theorem Xl : AE zA 117 = true := by kernel_rfl
theorem W9 : AE zA 118 = true := by kernel_rfl
theorem bt : AE zA 119 = true := by kernel_rfl
theorem bd : AE zA 120 = true := by kernel_rfl
theorem dG : AE zA 121 = true := by kernel_rfl
theorem eK : AE zA 122 = true := by kernel_rfl
theorem dN : AE zA 123 = true := by kernel_rfl
theorem aB : AE zA 125 = true := by kernel_rfl
theorem ex : AE zA 127 = true := by kernel_rfl
theorem aW : AE zA 129 = true := by kernel_rfl
theorem bV : AE zA 13 = true := by kernel_rfl
theorem bf : AE zA 130 = true := by kernel_rfl
theorem Yu : AE zA 131 = true := by kernel_rfl
theorem bv : AE zA 132 = true := by kernel_rfl
theorem d6 : AE zA 133 = true := by kernel_rfl
theorem bm : AE zA 134 = true := by kernel_rfl
theorem bq : AE zA 135 = true := by kernel_rfl
theorem V8 : AE zA 136 = true := by kernel_rfl
theorem Xf : AE zA 137 = true := by kernel_rfl
theorem Uc : AE zA 138 = true := by kernel_rfl
theorem XQ : AE zA 139 = true := by kernel_rfl
theorem Yi : AE zA 140 = true := by kernel_rfl
theorem V6 : AE zA 141 = true := by kernel_rfl
theorem dI : AE zA 142 = true := by kernel_rfl
theorem aR : AE zA 143 = true := by kernel_rfl
theorem df : AE zA 144 = true := by kernel_rfl
theorem bo : AE zA 145 = true := by kernel_rfl
theorem db : AE zA 147 = true := by kernel_rfl
theorem eM : AE zA 148 = true := by kernel_rfl
theorem Xe : AE zA 149 = true := by kernel_rfl
theorem eI : AE zA 150 = true := by kernel_rfl
theorem aT : AE zA 151 = true := by kernel_rfl
theorem aX : AE zA 152 = true := by kernel_rfl
theorem aU : AE zA 153 = true := by kernel_rfl
theorem bu : AE zA 154 = true := by kernel_rfl
theorem eH : AE zA 155 = true := by kernel_rfl
theorem dF : AE zA 156 = true := by kernel_rfl
theorem eq : AE zA 157 = true := by kernel_rfl
theorem eg : AE zA 16 = true := by kernel_rfl
theorem bg : AE zA 163 = true := by kernel_rfl
theorem ey : AE zA 164 = true := by kernel_rfl
theorem eX : AE zA 165 = true := by kernel_rfl
theorem dn : AE zA 166 = true := by kernel_rfl
theorem bh : AE zA 167 = true := by kernel_rfl
theorem d4 : AE zA 168 = true := by kernel_rfl
theorem dt : AE zA 169 = true := by kernel_rfl
theorem aA : AE zA 170 = true := by kernel_rfl
theorem dq : AE zA 171 = true := by kernel_rfl
theorem bk : AE zA 172 = true := by kernel_rfl
theorem eQ : AE zA 173 = true := by kernel_rfl
theorem eU : AE zA 174 = true := by kernel_rfl
theorem fr : AE zA 175 = true := by kernel_rfl
theorem dQ : AE zA 176 = true := by kernel_rfl
theorem dm : AE zA 177 = true := by kernel_rfl
theorem dZ : AE zA 178 = true := by kernel_rfl
theorem dz : AE zA 179 = true := by kernel_rfl
theorem cl : AE zA 18 = true := by kernel_rfl
theorem dw : AE zA 180 = true := by kernel_rfl
theorem eo : AE zA 186 = true := by kernel_rfl
theorem aV : AE zA 187 = true := by kernel_rfl
theorem di : AE zA 188 = true := by kernel_rfl
theorem fk : AE zA 189 = true := by kernel_rfl
theorem gj : AE zA 19 = true := by kernel_rfl
theorem fi : AE zA 190 = true := by kernel_rfl
theorem eb : AE zA 191 = true := by kernel_rfl
theorem fm : AE zA 192 = true := by kernel_rfl
theorem dS : AE zA 193 = true := by kernel_rfl
theorem dU : AE zA 196 = true := by kernel_rfl
theorem aI : AE zA 197 = true := by kernel_rfl
theorem dT : AE zA 198 = true := by kernel_rfl
theorem dg : AE zA 199 = true := by kernel_rfl
theorem eL : AE zA 200 = true := by kernel_rfl
theorem gi : AE zA 21 = true := by kernel_rfl
theorem Wc : AE zA 22 = true := by kernel_rfl
theorem fM : AE zA 35 = true := by kernel_rfl
theorem fB : AE zA 39 = true := by kernel_rfl
theorem f8 : AE zA 42 = true := by kernel_rfl
theorem bT : AE zA 43 = true := by kernel_rfl
theorem fH : AE zA 44 = true := by kernel_rfl
theorem fC : AE zA 45 = true := by kernel_rfl
theorem fN : AE zA 46 = true := by kernel_rfl
theorem fO : AE zA 47 = true := by kernel_rfl
theorem gg : AE zA 50 = true := by kernel_rfl
theorem gp : AE zA 51 = true := by kernel_rfl
theorem gq : AE zA 52 = true := by kernel_rfl
theorem gl : AE zA 53 = true := by kernel_rfl
theorem fZ : AE zA 54 = true := by kernel_rfl
theorem Y4 : AE zA 55 = true := by kernel_rfl
theorem QL : AE zA 56 = true := by kernel_rfl
theorem YB : AE zA 57 = true := by kernel_rfl
theorem cC : AE zA 58 = true := by kernel_rfl
theorem Z9 : AE zA 59 = true := by kernel_rfl
theorem fE : AE zA 62 = true := by kernel_rfl
theorem fD : AE zA 64 = true := by kernel_rfl
theorem fW : AE zA 66 = true := by kernel_rfl
theorem gd : AE zA 71 = true := by kernel_rfl
theorem fp : AE zA 72 = true := by kernel_rfl
theorem f7 : AE zA 73 = true := by kernel_rfl
theorem Xa : AE zA 74 = true := by kernel_rfl
theorem Xn : AE zA 76 = true := by kernel_rfl
theorem ep : AE zA 78 = true := by kernel_rfl
theorem Yk : AE zA 79 = true := by kernel_rfl
theorem Zy : AE zA 80 = true := by kernel_rfl
theorem dC : AE zA 81 = true := by kernel_rfl
theorem ec : AE zA 82 = true := by kernel_rfl
theorem gf : AE zA 83 = true := by kernel_rfl
theorem co : AE zA 84 = true := by kernel_rfl
theorem ei : AE zA 85 = true := by kernel_rfl
theorem gc : AE zA 86 = true := by kernel_rfl
theorem fF : AE zA 92 = true := by kernel_rfl
theorem fT : AE zA 94 = true := by kernel_rfl
theorem fU : AE zA 95 = true := by kernel_rfl
theorem f9 : AE zA 96 = true := by kernel_rfl
theorem gh : AE zA 97 = true := by kernel_rfl
theorem eC : AE zA 98 = true := by kernel_rfl
theorem fq : AE zA 99 = true := by kernel_rfl
theorem gt : QJ zA 2 .i64 = true := by kernel_rfl
theorem bi : QJ zA 214 .u64 = true := by kernel_rfl
theorem Vz : QJ zA 234 .u64 = true := by kernel_rfl
theorem VT : QJ zA 242 .u32 = true := by kernel_rfl
theorem Xt : QJ zA 3 .i64 = true := by kernel_rfl
theorem dJ : Tryz.prog.underlying 3 = some (.int .i64) := by kernel_rfl
theorem Ut : Tryz.prog.underlying 164 = some (.map 3 3) := by kernel_rfl
theorem dD : FH zA 103 = some [(0, 1), (1, 1), (2, 1), (3, 1)] := by kernel_rfl
theorem Xq : FH zA 105 = some [(0, 1), (1, 1), (2, 1)] := by kernel_rfl
theorem Vt : FH zA 107 = some [(0, 1), (1, 4), (5, 3), (8, 1), (9, 1)] := by kernel_rfl
theorem ee : FH zA 112 = some [(0, 1), (1, 1), (2, 1), (3, 1), (4, 1), (5, 1)] := by kernel_rfl
theorem dO : FH zA 166 = some [(0, 1), (1, 1), (2, 1), (3, 1)] := by kernel_rfl
theorem aH : FH zA 221 = some [(0, 3), (3, 1), (4, 3)] := by kernel_rfl
theorem OJ : FH zA 226 = some [(0, 1), (1, 1), (2, 1)] := by kernel_rfl
theorem dj : FH zA 25 = some [(0, 1), (1, 1), (2, 1), (3, 1)] := by kernel_rfl
theorem Sg : FH zA 37 = some [(0, 1), (1, 1), (2, 1), (3, 1), (4, 1), (5, 1), (6, 1), (7, 1), (8, 1), (9, 1), (10, 1)] := by kernel_rfl
theorem G1 : FH zA 40 = some [(0, 1), (1, 1), (2, 1)] := by kernel_rfl
theorem Xg : FH zA 67 = some [(0, 1), (1, 1), (2, 1)] := by kernel_rfl
theorem dM : FH zA 81 = some [(0, 4), (4, 1), (5, 1), (6, 1), (7, 3)] := by kernel_rfl
theorem Wo : FH zA 91 = some [(0, 1), (1, 1), (2, 1), (3, 1), (4, 1), (5, 1), (6, 3)] := by kernel_rfl
theorem Qe : FH zA 96 = some [(0, 1), (1, 1), (2, 1), (3, 1), (4, 1), (5, 1), (6, 1)] := by kernel_rfl
theorem et : Zl zA 37 = some [0, 0, 0, 0, 0, 0, 0, 0, 0, 0, 0] := by kernel_rfl
theorem FA : sliceB zA 110 125 = true := by kernel_rfl
theorem Gl : sliceB zA 125 4 = true := by kernel_rfl
theorem FV : sliceB zA 135 40 = true := by kernel_rfl
theorem GH : sliceB zA 167 2 = true := by kernel_rfl
theorem HI : sliceB zA 189 221 = true := by kernel_rfl
theorem AF : sliceB zA 22 3 = true := by kernel_rfl
theorem Ev : sliceB zA 23 112 = true := by kernel_rfl
theorem Lb : sliceB zA 245 226 = true := by kernel_rfl
theorem DB : sliceB zA 26 67 = true := by kernel_rfl
theorem E9 : sliceB zA 27 37 = true := by kernel_rfl
theorem Ei : sliceB zA 38 113 = true := by kernel_rfl
theorem KA : sliceB zA 47 5 = true := by kernel_rfl
theorem X9 : sliceB zA 48 186 = true := by kernel_rfl
theorem aK : sliceB zA 89 9 = true := by kernel_rfl
theorem Mg : sliceB zA 99 107 = true := by kernel_rfl
theorem eY : (Tryz.prog.underlying 113).isSome = true := by kernel_rfl
theorem aO : (Tryz.prog.underlying 214).isSome = true := by kernel_rfl
theorem W8 : (Tryz.prog.underlying 234).isSome = true := by kernel_rfl
theorem VV : (Tryz.prog.underlying 242).isSome = true := by kernel_rfl
theorem gr : (Tryz.prog.underlying 3).isSome = true := by kernel_rfl
theorem W7 : (Tryz.prog.underlying 5).isSome = true := by kernel_rfl
theorem Sx : OX zA 9 = true := by kernel_rfl
theorem LT : Hn zA 107 10 = true := by kernel_rfl
theorem aN : Hn zA 110 1 = true := by kernel_rfl
theorem CG : Hn zA 112 6 = true := by kernel_rfl
theorem EP : Hn zA 113 1 = true := by kernel_rfl
theorem Lf : Hn zA 125 1 = true := by kernel_rfl
theorem Ym : Hn zA 186 6 = true := by kernel_rfl
theorem Pg : Hn zA 2 1 = true := by kernel_rfl
theorem eP : Hn zA 209 8 = true := by kernel_rfl
theorem YG : Hn zA 22 1 = true := by kernel_rfl
theorem MJ : Hn zA 221 7 = true := by kernel_rfl
theorem Gw : Hn zA 226 3 = true := by kernel_rfl
theorem fY : Hn zA 23 1 = true := by kernel_rfl
theorem BB : Hn zA 25 4 = true := by kernel_rfl
theorem CQ : Hn zA 3 1 = true := by kernel_rfl
theorem ER : Hn zA 37 11 = true := by kernel_rfl
theorem fJ : Hn zA 38 1 = true := by kernel_rfl
theorem S6 : Hn zA 4 1 = true := by kernel_rfl
theorem AQ : Hn zA 40 3 = true := by kernel_rfl
theorem fA : Hn zA 47 1 = true := by kernel_rfl
theorem ej : Hn zA 5 1 = true := by kernel_rfl
theorem fK : Hn zA 50 4 = true := by kernel_rfl
theorem dE : Hn zA 52 6 = true := by kernel_rfl
theorem Ea : Hn zA 67 3 = true := by kernel_rfl
theorem fw : Hn zA 9 1 = true := by kernel_rfl
theorem B1 : Hn zA 91 9 = true := by kernel_rfl
theorem Ht : Hn zA 96 7 = true := by kernel_rfl
theorem eV : DH zA 103 = some (.agg #[.int .i64 0, .int .i64 0, .int .i64 0, .string ⟨#[]⟩]) := by kernel_rfl
theorem YR : DH zA 105 = some (.agg #[.int .i64 0, .int .i64 0, .int .i64 0]) := by kernel_rfl
theorem Lv : DH zA 107 = some (.agg #[.int .i64 0, .int .i64 0, .int .i64 0, .int .i64 0, .string ⟨#[]⟩, .int .i64 0, .int .i64 0, .int .i64 0, .int .i64 0, .int .i64 0]) := by kernel_rfl
theorem JD : DH zA 112 = some (.agg #[.int .i64 0, .int .i64 0, .int .i64 0, .bool false, .slice none 0 0, .slice none 0 0]) := by kernel_rfl
theorem NH : DH zA 113 = some (.int .u8 0) := by kernel_rfl
theorem bz : DH zA 125 = some (.slice none 0 0) := by kernel_rfl
theorem e9 : DH zA 166 = some (.agg #[.int .i64 0, .int .i64 0, .bool false, .map none]) := by kernel_rfl
theorem dV : DH zA 186 = some (.agg #[.int .u8 0, .int .u8 0, .int .u8 0, .bool false, .int .u16 0, .int .u16 0]) := by kernel_rfl
theorem fx : DH zA 2 = some (.int .i64 0) := by kernel_rfl
theorem aJ : DH zA 209 = some (.agg #[.string ⟨#[]⟩, .string ⟨#[]⟩, .string ⟨#[]⟩, .string ⟨#[]⟩, .string ⟨#[]⟩, .string ⟨#[]⟩, .string ⟨#[]⟩, .string ⟨#[]⟩]) := by kernel_rfl
theorem Tr : DH zA 221 = some (.agg #[.slice none 0 0, .slice none 0 0, .slice none 0 0, .int .i64 0, .int .i64 0, .int .i64 0, .int .i64 0]) := by kernel_rfl
theorem I2 : DH zA 226 = some (.agg #[.int .i64 0, .int .i64 0, .int .i64 0]) := by kernel_rfl
theorem QM : DH zA 25 = some (.agg #[.slice none 0 0, .slice none 0 0, .slice none 0 0, .slice none 0 0]) := by kernel_rfl
theorem MD : DH zA 3 = some (.int .i64 0) := by kernel_rfl
theorem Iu : DH zA 37 = some (.agg #[.int .i64 0, .int .i64 0, .int .i64 0, .int .i64 0, .int .i64 0, .int .i64 0, .int .i64 0, .int .i64 0, .int .i64 0, .int .i64 0, .int .i64 0]) := by kernel_rfl
theorem cY : DH zA 4 = some (.bool false) := by kernel_rfl
theorem CM : DH zA 40 = some (.agg #[.slice none 0 0, .slice none 0 0, .slice none 0 0]) := by kernel_rfl
theorem KU : DH zA 67 = some (.agg #[.int .i64 0, .int .i64 0, .int .i64 0]) := by kernel_rfl
theorem eE : DH zA 81 = some (.agg #[.slice none 0 0, .slice none 0 0, .slice none 0 0, .slice none 0 0, .slice none 0 0, .int .i64 0, .int .i64 0, .slice none 0 0, .slice none 0 0, .slice none 0 0]) := by kernel_rfl
theorem gy : DH zA 9 = some (.string ⟨#[]⟩) := by kernel_rfl
theorem KF : DH zA 91 = some (.agg #[.slice none 0 0, .int .i64 0, .int .i64 0, .int .i64 0, .int .i64 0, .int .i64 0, .slice none 0 0, .slice none 0 0, .slice none 0 0]) := by kernel_rfl
theorem Nc : DH zA 96 = some (.agg #[.int .i64 0, .int .i64 0, .int .i64 0, .int .i64 0, .int .i64 0, .bool false, .int .i64 0]) := by kernel_rfl
set_option maxRecDepth 10000
theorem H0 (N : Nat) (p0 : Int) (p1 : Int) (r : Bool) (h : Ey N p0 p1 = some r) : Au zA 102 [iD p0, iD p1] [] (bD r) := by
 unfold Ey at h
 refine cw (n := 12) (rs := [.tmp 4]) Tryz.func102 fun w0 S0 => ?_
 refine wq rfl (qe rfl ?_)
 refine AI h (fun v1 => mk [(4, bD v1)] []) (fun j1 h => ?_) (fun v1 h => ?_)
 ·refine Ai Aw rfl (qm rfl (Eh rfl (qm rfl ?_)))
  refine Dc 7 h rfl (fun h => ?_) fun h => ?_
  ·refine qw 2 rfl (A9 rfl (qp rfl (qe rfl ?_)))
   exact sn [] h
  ·refine qw 3 rfl (qp rfl (qe rfl ?_))
   exact sn [] h
 ·obtain rfl := sj h
  refine Ah (sm [] [(4, bD v1)] [] rfl rfl) (As ?_)
  exact ⟨⟨[_], tm, rfl⟩, tv⟩
theorem SM (N : Nat) (p0 : Int) (p1 : Bool) (r : Bool) (h : Hs N p0 p1 = some r) : Au zA 144 [iD p0, bD p1] [] (bD r) := by
 unfold Hs at h
 refine cw (n := 23) (rs := [.tmp 4]) Tryz.func144 fun w0 S0 => ?_
 refine wq rfl (qe rfl ?_)
 refine AI h (fun v1 => mk [(4, bD v1)] []) (fun j1 h => ?_) (fun v1 h => ?_)
 ·refine Ai Aw rfl (qm rfl (AN rfl (qm rfl ?_)))
  refine Dc 7 h rfl (fun h => ?_) fun h => ?_
  ·refine qw 2 rfl (qp rfl (qw 4 rfl (qu rfl (qu rfl (qw 2 rfl (qu rfl (qu rfl (qn rfl (qp rfl (qe rfl ?_))))))))))
   exact sn [] h
  ·refine qm rfl (AN rfl (qp rfl (qm rfl ?_)))
   refine Dc 11 h rfl (fun h => ?_) fun h => ?_
   ·refine qw 3 rfl (qu rfl (qu rfl (qw 2 rfl (qu rfl (qu rfl (qn rfl (qp rfl (qe rfl ?_))))))))
    exact sn [] h
   ·refine qm rfl (AN rfl (qm rfl ?_))
    refine Dc 14 h rfl (fun h => ?_) fun h => ?_
    ·refine qw 2 rfl (qp rfl (qw 2 rfl (CL rfl (qp rfl (qp rfl (qe rfl ?_))))))
     exact sn [] h
    ·refine qm rfl (AN rfl (qp rfl (qm rfl ?_)))
     refine Dc 18 h rfl (fun h => ?_) fun h => ?_
     ·refine qm rfl (CL rfl (qp rfl (qp rfl (qe rfl ?_))))
      exact sn [] h
     ·refine qw 2 rfl (qp rfl (qp rfl (qe rfl ?_)))
      exact sn [] h
 ·obtain rfl := sj h
  refine Ah (sm [] [(4, bD v1)] [] rfl rfl) (As ?_)
  exact ⟨⟨[_], tm, rfl⟩, tv⟩
theorem Or (N : Nat) (p0 : List Bool) (p1 : Int) (r : Bool) (h : Ej N p0 p1 = some r) : Au zA 174 [pD (.sl (p0.map eB)), oD (.rop [.val (.int .i64 p1)])] [] (bD r) := by
 unfold Ej at h
 refine cw (n := 8) (rs := [.tmp 3]) Tryz.func174 fun w0 S0 => ?_
 refine wq rfl (qa rfl (Ac (wq rfl (qm rfl (AU Gl rfl (qk A8 rfl (BH rfl (qe rfl ?_))))))))
 obtain rfl := sj h
 refine Ah (sm [] [(3, bD (((p0.length : Int) != p1)))] [] rfl rfl) (As ?_)
 exact ⟨⟨[_], tm, rfl⟩, tv⟩
theorem IW (N : Nat) (p0 : List (List Bool)) (p1 : (List Bool) → Option Bool) (r : Int) (h : DI N p0 p1 = some r) : Au zA 189 [pD (.sl (p0.map (Nv eB))), oD (.clo (Lz (Rd false (Nv eB)) tB p1))] [] (iD r) := by
 unfold DI at h
 refine cw (n := 19) (rs := [.tmp 4]) Tryz.func189 fun w0 S0 => ?_
 refine wq rfl (qa rfl (Ac (wp rfl (qm rfl (AU FA rfl (qm rfl (Ac ?_)))))))
 refine AY (L := BC N p0 p1) h (fun v1 => mk [(0, pD (.sl (p0.map (Nv eB)))), (1, oD (.clo (Lz (Rd false (Nv eB)) tB p1))), (7, iD ((p0.length : Int))), (8, iD v1)] []) (fun v2 => mk [] []) (fun _ _ => rfl) (sm [] _ _ rfl rfl) (fun j1 n1 v1 h => ?_) (fun v2 s h hs => ?_)
 ·unfold BC at h
  refine wq rfl (A9 rfl (Ac (A5 ?_)))
  refine Bb h (fun h => ?_) fun h => ?_
  ·refine Al (A5 (AX (wq rfl (qm rfl (qa rfl (Ac (wq rfl (qw 3 rfl ?_))))))))
   refine BY h fun v4 a4 b4 h => qi FA Lf a4 (Aj b4) rfl (qk MK rfl ?_)
   refine BF h fun v5 a5 h => Pj (ds0 := [_]) (ar := (Rd false (Nv eB)) v4) (.p rfl) rfl rfl ⟨rfl, tv⟩ rfl rfl rfl (Pe (Pm _ _ (dY ge)) a5) ?_
   refine Ac ?_
   refine Bb h (fun h => ?_) fun h => ?_
   ·refine wq rfl (qm rfl (qe rfl ?_))
    obtain rfl := sj h
    refine Ah (sm [] [(4, iD v1)] [] rfl rfl) (As ?_)
    exact ⟨⟨[_], tm, rfl⟩, tv⟩
   ·refine Al (Ai Aw rfl (Bp rfl (qm rfl (Ac ?_))))
    exact sn [] h
  ·refine Bh ?_
   exact sn [] h
 ·refine Ah hs (wq rfl (qe rfl ?_))
  obtain rfl := sj h
  refine Ah (sm [] [(4, iD ((-1)))] [] rfl rfl) (As ?_)
  exact ⟨⟨[_], tm, rfl⟩, tv⟩
theorem Ik (N : Nat) (p0 : List (List Bool)) (p1 : (List Bool) → Option Bool) (r : Bool) (h : Dk N p0 p1 = some r) : Au zA 173 [pD (.sl (p0.map (Nv eB))), oD (.clo (Lz (Rd false (Nv eB)) tB p1))] [] (bD r) := by
 unfold Dk at h
 refine cw (n := 9) (rs := [.tmp 4]) Tryz.func173 fun w0 S0 => ?_
 refine wq rfl (qa rfl (Ac (wq rfl (qw 2 rfl ?_))))
 refine BF h fun v1 a1 h => Av [] (IW N p0 p1 v1 a1) fk rfl (Eh rfl (qe rfl ?_))
 obtain rfl := sj h
 refine Ah (sm [] [(4, bD ((decide (0 ≤ v1))))] [] rfl rfl) (As ?_)
 exact ⟨⟨[_], tm, rfl⟩, tv⟩
theorem LK (N : Nat) (p0 : List (List Bool)) (p1 : Int) (p2 : Int) (r : Bool) (h : FD N p0 p1 p2 = some r) : Au zA 145 [pD (.sl (p0.map (Nv eB))), iD p1, iD p2] [] (bD r) := by
 unfold FD at h
 refine cw (n := 17) (rs := [.tmp 6]) Tryz.func145 fun w0 S0 => ?_
 refine wq rfl (qb rfl (qe rfl ?_))
 refine AI h (fun v1 => mk [(6, bD v1)] []) (fun j1 h => ?_) (fun v1 h => ?_)
 ·refine Ai Aw rfl (qm rfl (AU FA rfl (qm rfl (AN rfl (qm rfl ?_)))))
  refine Dc 11 h rfl (fun h => ?_) fun h => ?_
  ·refine qm rfl (FO (Lu 5 [.val (.int .i64 p2)] rfl rfl) ?_)
   refine Uy (capD := [_]) (Lz (Rd false (Nv eB)) tB ((fun (x : List Bool) => Ej N x p2))) (.g rfl rfl) eU rfl ⟨rfl, tv⟩ rfl (fun ar t ht => by obtain ⟨x, r, rfl, hq, rfl⟩ := Mp ht; exact Or N x p2 r hq) ?_
   refine BF h fun v3 a3 h => Av [] (Ik N p0 ((fun (x : List Bool) => Ej N x p2)) v3 a3) eQ rfl (CL rfl (qp rfl (qe rfl ?_)))
   exact sn [] h
  ·refine qw 4 rfl (qp rfl (qe rfl ?_))
   exact sn [] h
 ·obtain rfl := sj h
  refine Ah (sm [] [(6, bD v1)] [] rfl rfl) (As ?_)
  exact ⟨⟨[_], tm, rfl⟩, tv⟩
theorem QZ (N : Nat) (p0 : Aa) (p1 : AA) (r : Int) (h : GW N p0 p1 = some r) : Au zA 103 [.e (.agg (Ag p0)), .e (.agg (BJ p1))] [] (iD r) := by
 unfold GW at h
 refine cw (n := 87) (rs := [.tmp 4]) Tryz.func103 fun w0 S0 => ?_
 refine wq rfl (qb rfl (qb rfl (qa rfl (Ac (wp rfl (qf Fi rfl (ql A8 rfl (qf KH rfl (ql Uw rfl ?_)))))))))
 refine BF h fun v1 a1 h => Av [] (SM N p1.gD p1.qr v1 a1) df rfl (CL rfl (Ac ?_))
 refine Bb h (fun h => ?_) fun h => ?_
 ·refine wq rfl (qe rfl ?_)
  obtain rfl := sj h
  refine Ah (sm [] [(4, iD 1)] [] rfl rfl) (As ?_)
  exact ⟨⟨[_], tm, rfl⟩, tv⟩
 ·refine Al (A5 ?_)
  refine AI h (fun v3 => mk [(2, oD (.ptr 2 0)), (3, oD (.ptr 3 0)), (29, bD v3)] [(2, .box (Ag p0)), (3, .box (BJ p1))]) (fun j3 h => ?_) (fun v3 h => ?_)
  ·refine Ai Aw rfl (qf CB rfl (ql A8 rfl (qf Bx rfl (ql Bi rfl (AU AF rfl ?_)))))
   refine BF h fun v4 a4 h => Av [] (H0 N p1.gM ((p0.gH.length : Int)) v4 a4) VH rfl (CL rfl (qm rfl ?_))
   refine Dc 21 h rfl (fun h => ?_) fun h => ?_
   ·refine qw 7 rfl (qp rfl (Ac ?_))
    exact sn [] h
   ·refine qf Gx rfl (ql A8 rfl (qf Bx rfl (ql Bi rfl (AU AF rfl ?_))))
    refine BF h fun v6 a6 h => Av [] (H0 N p1.gW ((p0.gH.length : Int)) v6 a6) VH rfl (CL rfl (qp rfl (Ac ?_)))
    exact sn [] h
  ·refine Bb h (fun h => ?_) fun h => ?_
   ·refine wq rfl (qe rfl ?_)
    obtain rfl := sj h
    refine Ah (sm [] [(4, iD 4)] [] rfl rfl) (As ?_)
    exact ⟨⟨[_], tm, rfl⟩, tv⟩
   ·refine Al (wq rfl (qf Bx rfl (ql Bi rfl (qf CB rfl (ql A8 rfl ?_)))))
    refine BY h fun v8 a8 b8 h => qi AF CQ a8 (Aj b8) rfl (qk A8 rfl (qa rfl (Ac (wq rfl (qf Fi rfl (ql A8 rfl (AN rfl (qa rfl (Ac (A5 ?_))))))))))
    refine AI h (fun v9 => mk [(3, oD (.ptr 3 0)), (70, bD v9)] [(3, .box (BJ p1))]) (fun j9 h => ?_) (fun v9 h => ?_)
    ·refine Ai Aw rfl (qf IP rfl (ql In rfl (qm rfl (qf Bx rfl (ql Bi rfl (qf Gx rfl (ql A8 rfl ?_)))))))
     refine BY h fun v10 a10 b10 h => qi AF CQ a10 (Aj b10) rfl (qk A8 rfl ?_)
     refine BF h fun v11 a11 h => Av [] (LK N p1.gY v8 v10 v11 a11) bo rfl (CL rfl (qm rfl ?_))
     refine Dc 50 h rfl (fun h => ?_) fun h => ?_
     ·refine qw 2 rfl (qu rfl (qu rfl (qu rfl (qu rfl (qu rfl (qu rfl (qn rfl (qp rfl (qw 4 rfl (qu rfl (qu rfl (qu rfl (qu rfl (qn rfl (qp rfl (AJ (by kernel_rfl) ?_))))))))))))))))
      exact sn [] h
     ·refine qw 2 rfl ?_
      refine Dc 52 h rfl (fun h => ?_) fun h => ?_
      ·refine qf Gv rfl (ql In rfl (qw 2 rfl ?_))
       refine BF h fun v14 a14 h => Av [] (LK N p1.g9 v8 v8 v14 a14) bo rfl (CL rfl (qp rfl (qp rfl (qm rfl ?_))))
       refine Dc 61 h rfl (fun h => ?_) fun h => ?_
       ·refine qw 3 rfl (qu rfl (qu rfl (qu rfl (qu rfl (qn rfl (qp rfl (AJ (by kernel_rfl) ?_)))))))
        exact sn [] h
       ·refine qm rfl (CL rfl (qm rfl ?_))
        refine Dc 64 h rfl (fun h => ?_) fun h => ?_
        ·refine qf Gv rfl (ql In rfl (AU FA rfl (FQ rfl (qp rfl (qp rfl (AJ (by kernel_rfl) ?_))))))
         exact sn [] h
        ·refine qw 4 rfl (qp rfl (qp rfl (AJ (by kernel_rfl) ?_)))
         exact sn [] h
      ·refine qw 6 rfl (qp rfl (qp rfl (qw 2 rfl (CL rfl (qm rfl ?_)))))
       refine Dc 64 h rfl (fun h => ?_) fun h => ?_
       ·refine qf Gv rfl (ql In rfl (AU FA rfl (FQ rfl (qp rfl (qp rfl (AJ (by kernel_rfl) ?_))))))
        exact sn [] h
       ·refine qw 4 rfl (qp rfl (qp rfl (AJ (by kernel_rfl) ?_)))
        exact sn [] h
    ·refine Bb h (fun h => ?_) fun h => ?_
     ·refine wq rfl (qe rfl ?_)
      obtain rfl := sj h
      refine Ah (sm [] [(4, iD 6)] [] rfl rfl) (As ?_)
      exact ⟨⟨[_], tm, rfl⟩, tv⟩
     ·refine Al (wp rfl (qf Gv rfl (ql In rfl (AU FA rfl (qm rfl (Ac ?_))))))
      refine AY (L := Dq N p1) h (fun v19 => mk [(3, oD (.ptr 3 0)), (73, iD ((p1.g9.length : Int))), (74, iD v19)] [(3, .box (BJ p1))]) (fun v20 => mk [] []) (fun _ _ => rfl) (sm [] _ _ rfl rfl) (fun j19 n19 v19 h => ?_) (fun v20 s h hs => ?_)
      ·unfold Dq at h
       refine wq rfl (A9 rfl (Ac (A5 ?_)))
       refine Bb h (fun h => ?_) fun h => ?_
       ·refine Al (A5 (AX (wq rfl (qm rfl (qa rfl (Ac (wq rfl (qf Gv rfl (ql In rfl (qm rfl ?_))))))))))
        refine BY h fun v22 a22 b22 h => qi FA Lf a22 (Aj b22) rfl (qk MK rfl (qm rfl ?_))
        refine BY h fun v23 a23 b23 h => qi Gl S6 a23 (Aj b23) rfl (qk Uw rfl (CL rfl (Ac ?_)))
        refine Bb h (fun h => ?_) fun h => ?_
        ·refine wq rfl (qe rfl ?_)
         obtain rfl := sj h
         refine Ah (sm [] [(4, iD 1)] [] rfl rfl) (As ?_)
         exact ⟨⟨[_], tm, rfl⟩, tv⟩
        ·refine Al (Ai Aw rfl (Bp rfl (qm rfl (Ac ?_))))
         exact sn [] h
       ·refine Bh ?_
        exact sn [] h
      ·refine Ah hs (wq rfl (qe rfl ?_))
       obtain rfl := sj h
       refine Ah (sm [] [(4, iD 0)] [] rfl rfl) (As ?_)
       exact ⟨⟨[_], tm, rfl⟩, tv⟩
theorem FR (N : Nat) (p0 : Aa) (r : Int) (h : CP N p0 = some r) : Au zA 59 [.e (.agg (Ag p0))] [] (iD r) := by
 unfold CP at h
 refine cw (n := 81) (rs := [.tmp 2]) Tryz.func59 fun w0 S0 => ?_
 refine wq rfl (qb rfl (qa rfl (Ac (wq rfl (qf Bx rfl (ql Bi rfl (AU AF rfl (qa rfl (Ac (A5 ?_))))))))))
 refine AI h (fun v1 => mk [(1, oD (.ptr 1 0)), (3, iD ((p0.gH.length : Int))), (19, bD v1)] [(1, .box (Ag p0))]) (fun j1 h => ?_) (fun v1 h => ?_)
 ·refine Ai Aw rfl (qm rfl (FQ rfl (qm rfl ?_)))
  refine Dc 14 h rfl (fun h => ?_) fun h => ?_
  ·refine qw 4 rfl (qp rfl (Ac ?_))
   exact sn [] h
  ·refine qf CS rfl (ql Hy rfl (AU Ev rfl (FQ rfl (qp rfl (Ac ?_)))))
   exact sn [] h
 ·refine Bb h (fun h => ?_) fun h => ?_
  ·refine wq rfl (qe rfl ?_)
   obtain rfl := sj h
   refine Ah (sm [] [(2, iD 3)] [] rfl rfl) (As ?_)
   exact ⟨⟨[_], tm, rfl⟩, tv⟩
  ·refine Al (A5 ?_)
   refine AI h (fun v4 => mk [(1, oD (.ptr 1 0)), (31, bD v4)] [(1, .box (Ag p0))]) (fun j4 h => ?_) (fun v4 h => ?_)
   ·refine Ai Aw rfl (qf HA rfl (ql Bi rfl (AU AF rfl (qm rfl (BH rfl (qm rfl ?_))))))
    refine Dc 25 h rfl (fun h => ?_) fun h => ?_
    ·refine qw 5 rfl (qp rfl (Ac ?_))
     exact sn [] h
    ·refine qf J2 rfl (ql Bi rfl (AU AF rfl (qm rfl (BH rfl (qp rfl (Ac ?_))))))
     exact sn [] h
   ·refine Bb h (fun h => ?_) fun h => ?_
    ·refine wq rfl (qe rfl ?_)
     obtain rfl := sj h
     refine Ah (sm [] [(2, iD 6)] [] rfl rfl) (As ?_)
     exact ⟨⟨[_], tm, rfl⟩, tv⟩
    ·refine Al (wp rfl (qf Bx rfl (ql Bi rfl (AU AF rfl (qm rfl (Ac ?_))))))
     refine AY (L := Cb N p0) h (fun v7 => mk [(1, oD (.ptr 1 0)), (33, pD (.sl (p0.gH.map Aq))), (34, iD ((p0.gH.length : Int))), (35, iD v7)] [(1, .box (Ag p0))]) (fun v8 => mk [(1, oD (.ptr 1 0))] [(1, .box (Ag p0))]) (fun _ _ => rfl) (sm [] _ _ rfl rfl) (fun j7 n7 v7 h => ?_) (fun v8 s h hs => ?_)
     ·unfold Cb at h
      refine wq rfl (A9 rfl (Ac (A5 ?_)))
      refine Bb h (fun h => ?_) fun h => ?_
      ·refine Al (A5 (AX (wq rfl (qm rfl ?_))))
       refine BY h fun v10 a10 b10 h => qi AF CQ a10 (Aj b10) rfl (qk A8 rfl (qa rfl (qe rfl ?_)))
       refine AI h (fun v11 => mk [(1, oD (.ptr 1 0)), (33, pD (.sl (p0.gH.map Aq))), (34, iD ((p0.gH.length : Int))), (35, iD v7), (65, bD v11)] [(1, .box (Ag p0))]) (fun j11 h => ?_) (fun v11 h => ?_)
       ·refine Ai Aw rfl (qm rfl (A9 rfl (qm rfl ?_)))
        refine Dc 42 h rfl (fun h => ?_) fun h => ?_
        ·refine qw 2 rfl (qp rfl (qw 9 rfl (qp rfl (qw 9 rfl (qp rfl (Ac ?_))))))
         exact sn [] h
        ·refine qm rfl (FQ rfl (qp rfl (qm rfl ?_)))
         refine Dc 46 h rfl (fun h => ?_) fun h => ?_
         ·refine qw 8 rfl (qp rfl (qw 9 rfl (qp rfl (Ac ?_))))
          exact sn [] h
         ·refine qf HA rfl (ql Bi rfl (qm rfl ?_))
          refine BY h fun v14 a14 b14 h => qi AF CQ a14 (Aj b14) rfl (qk A8 rfl (qm rfl ?_))
          refine BF h fun v15 a15 h => Av [] (H0 N v14 v10 v15 a15) VH rfl (CL rfl (qp rfl (qm rfl ?_)))
          refine Dc 56 h rfl (fun h => ?_) fun h => ?_
          ·refine qw 8 rfl (qp rfl (Ac ?_))
           exact sn [] h
          ·refine qf J2 rfl (ql Bi rfl (qm rfl ?_))
           refine BY h fun v17 a17 b17 h => qi AF CQ a17 (Aj b17) rfl (qk A8 rfl (qm rfl ?_))
           refine BF h fun v18 a18 h => Av [] (H0 N v17 v10 v18 a18) VH rfl (CL rfl (qp rfl (Ac ?_)))
           exact sn [] h
       ·refine Bb h (fun h => ?_) fun h => ?_
        ·refine wq rfl (qe rfl ?_)
         obtain rfl := sj h
         refine Ah (sm [] [(2, iD 7)] [] rfl rfl) (As ?_)
         exact ⟨⟨[_], tm, rfl⟩, tv⟩
        ·refine Al (Ai Aw rfl (Bp rfl (qm rfl (Ac ?_))))
         exact sn [] h
      ·refine Bh ?_
       exact sn [] h
     ·refine Ah hs (wp rfl (qf CS rfl (ql Hy rfl (AU Ev rfl (qm rfl (Ac ?_))))))
      refine AY (L := B7 N p0) h (fun v20 => mk [(1, oD (.ptr 1 0)), (68, pD (.sl (p0.gJ.map Bs))), (69, iD ((p0.gJ.length : Int))), (70, iD v20)] [(1, .box (Ag p0))]) (fun v21 => mk [] []) (fun _ _ => rfl) (sm [] _ _ rfl rfl) (fun j20 n20 v20 h => ?_) (fun v21 s h hs => ?_)
      ·unfold B7 at h
       refine wq rfl (A9 rfl (Ac (A5 ?_)))
       refine Bb h (fun h => ?_) fun h => ?_
       ·refine Al (A5 (AX (wq rfl ?_)))
        refine BY h fun v23 a23 b23 h => qi Ev CG a23 (Aj b23) rfl (qK FK CG rfl (qz JD rfl (qs CG rfl (Ac (wq rfl (qL BZ BB rfl (qL FK CG rfl ?_)))))))
        refine BF h fun v24 a24 h => Av [] (QZ N p0 v23 v24 a24) e8 rfl (qa rfl (Ac (wq rfl (qm rfl (BH rfl (Ac ?_))))))
        refine Bb h (fun h => ?_) fun h => ?_
        ·refine wq rfl (qm rfl (qe rfl ?_))
         obtain rfl := sj h
         refine Ah (sm [] [(2, iD v24)] [] rfl rfl) (As ?_)
         exact ⟨⟨[_], tm, rfl⟩, tv⟩
        ·refine Al (Ai Aw rfl (Bp rfl (qm rfl (Ac ?_))))
         exact sn [] h
       ·refine Bh ?_
        exact sn [] h
      ·refine Ah hs (wq rfl (qe rfl ?_))
       obtain rfl := sj h
       refine Ah (sm [] [(2, iD 0)] [] rfl rfl) (As ?_)
       exact ⟨⟨[_], tm, rfl⟩, tv⟩
theorem JI (N : Nat) (p0 : List Int) (p1 : Int → Option Bool) (r : Int) (h : Ed N p0 p1 = some r) : Au zA 147 [pD (.sl (p0.map Aq)), oD (.clo (Lz (Rd false Aq) tB p1))] [] (iD r) := by
 unfold Ed at h
 refine cw (n := 19) (rs := [.tmp 4]) Tryz.func147 fun w0 S0 => ?_
 refine wq rfl (qa rfl (Ac (wp rfl (qm rfl (AU AF rfl (qm rfl (Ac ?_)))))))
 refine AY (L := Bv N p0 p1) h (fun v1 => mk [(0, pD (.sl (p0.map Aq))), (1, oD (.clo (Lz (Rd false Aq) tB p1))), (7, iD ((p0.length : Int))), (8, iD v1)] []) (fun v2 => mk [] []) (fun _ _ => rfl) (sm [] _ _ rfl rfl) (fun j1 n1 v1 h => ?_) (fun v2 s h hs => ?_)
 ·unfold Bv at h
  refine wq rfl (A9 rfl (Ac (A5 ?_)))
  refine Bb h (fun h => ?_) fun h => ?_
  ·refine Al (A5 (AX (wq rfl (qm rfl (qa rfl (Ac (wq rfl (qw 3 rfl ?_))))))))
   refine BY h fun v4 a4 b4 h => qi AF CQ a4 (Aj b4) rfl (qk A8 rfl ?_)
   refine BF h fun v5 a5 h => Pj (ds0 := [_]) (ar := (Rd false Aq) v4) (.p rfl) rfl rfl ⟨rfl, tv⟩ rfl rfl rfl (Pe (Pm _ _ YV) a5) ?_
   refine Ac ?_
   refine Bb h (fun h => ?_) fun h => ?_
   ·refine wq rfl (qm rfl (qe rfl ?_))
    obtain rfl := sj h
    refine Ah (sm [] [(4, iD v1)] [] rfl rfl) (As ?_)
    exact ⟨⟨[_], tm, rfl⟩, tv⟩
   ·refine Al (Ai Aw rfl (Bp rfl (qm rfl (Ac ?_))))
    exact sn [] h
  ·refine Bh ?_
   exact sn [] h
 ·refine Ah hs (wq rfl (qe rfl ?_))
  obtain rfl := sj h
  refine Ah (sm [] [(4, iD ((-1)))] [] rfl rfl) (As ?_)
  exact ⟨⟨[_], tm, rfl⟩, tv⟩
theorem IR (N : Nat) (p0 : List Int) (p1 : Int → Option Bool) (r : Bool) (h : CX N p0 p1 = some r) : Au zA 108 [pD (.sl (p0.map Aq)), oD (.clo (Lz (Rd false Aq) tB p1))] [] (bD r) := by
 unfold CX at h
 refine cw (n := 9) (rs := [.tmp 4]) Tryz.func108 fun w0 S0 => ?_
 refine wq rfl (qa rfl (Ac (wq rfl (qw 2 rfl ?_))))
 refine BF h fun v1 a1 h => Av [] (JI N p0 p1 v1 a1) db rfl (Eh rfl (qe rfl ?_))
 obtain rfl := sj h
 refine Ah (sm [] [(4, bD ((decide (0 ≤ v1))))] [] rfl rfl) (As ?_)
 exact ⟨⟨[_], tm, rfl⟩, tv⟩
theorem NJ (N : Nat) (p0 : Int) (r : Bool) (h : Fu N p0 = some r) : Au zA 109 [iD p0] [] (bD r) := by
 unfold Fu at h
 refine cw (n := 9) (rs := [.tmp 2]) Tryz.func109 fun w0 S0 => ?_
 refine wq rfl (qe rfl ?_)
 refine AI h (fun v1 => mk [(2, bD v1)] []) (fun j1 h => ?_) (fun v1 h => ?_)
 ·refine Ai Aw rfl (qm rfl (A9 rfl (qm rfl ?_)))
  refine Dc 5 h rfl (fun h => ?_) fun h => ?_
  ·refine qw 2 rfl (qp rfl (qe rfl ?_))
   exact sn [] h
  ·refine qm rfl (FQ rfl (qp rfl (qe rfl ?_)))
   exact sn [] h
 ·obtain rfl := sj h
  refine Ah (sm [] [(2, bD v1)] [] rfl rfl) (As ?_)
  exact ⟨⟨[_], tm, rfl⟩, tv⟩
theorem O5 (N : Nat) (p0 : Aa) (p1 : List Int) (r : Int) (h : F9 N p0 p1 = some r) : Au zA 71 [.e (.agg (Ag p0)), pD (.sl (p1.map Aq))] [] (iD r) := by
 unfold F9 at h
 refine cw (n := 15) (rs := [.tmp 4]) Tryz.func71 fun w0 S0 => ?_
 refine wq rfl (qb rfl (qa rfl (Ac (A5 (AX (wq rfl (qm rfl (AU AF rfl (qf Bx rfl (ql Bi rfl (AU AF rfl (BH rfl (qe rfl ?_)))))))))))))
 refine Bb h (fun h => ?_) fun h => ?_
 ·refine wq rfl (qe rfl ?_)
  obtain rfl := sj h
  refine Ah (sm [] [(4, iD 6)] [] rfl rfl) (As ?_)
  exact ⟨⟨[_], tm, rfl⟩, tv⟩
 ·refine wq rfl (qm rfl ?_)
  refine BF h fun v2 a2 h => Av [] (Au.weak (ds' := [pD (.sl (p1.map Aq)), oD (.fnc 109)]) (IR N p1 ((fun (x : Int) => Fu N x)) v2 a2) ⟨(fun _ _ _ hh => hh), (fun _ _ _ hh => Sv ez (fun ar t ht => by obtain ⟨x, r, rfl, hq, rfl⟩ := Mp ht; exact NJ N x r hq) hh), tv⟩) dk rfl ?_
  refine qa rfl (Ac ?_)
  refine Bb h (fun h => ?_) fun h => ?_
  ·refine wq rfl (qe rfl ?_)
   obtain rfl := sj h
   refine Ah (sm [] [(4, iD 7)] [] rfl rfl) (As ?_)
   exact ⟨⟨[_], tm, rfl⟩, tv⟩
  ·refine Al (wq rfl (qe rfl ?_))
   obtain rfl := sj h
   refine Ah (sm [] [(4, iD 0)] [] rfl rfl) (As ?_)
   exact ⟨⟨[_], tm, rfl⟩, tv⟩
theorem Hm (N : Nat) (p0 : List Ae) (p1 : Ae → Option Bool) (r : Int) (h : B4 N p0 p1 = some r) : Au zA 148 [pD (.sl (p0.map Ax)), oD (.clo (Lz (Rd true Ax) tB p1))] [] (iD r) := by
 unfold B4 at h
 refine cw (n := 19) (rs := [.tmp 4]) Tryz.func148 fun w0 S0 => ?_
 refine wq rfl (qa rfl (Ac (wp rfl (qm rfl (AU DB rfl (qm rfl (Ac ?_)))))))
 refine AY (L := Bc N p0 p1) h (fun v1 => mk [(0, pD (.sl (p0.map Ax))), (1, oD (.clo (Lz (Rd true Ax) tB p1))), (7, iD ((p0.length : Int))), (8, iD v1)] []) (fun v2 => mk [] []) (fun _ _ => rfl) (sm [] _ _ rfl rfl) (fun j1 n1 v1 h => ?_) (fun v2 s h hs => ?_)
 ·unfold Bc at h
  refine wq rfl (A9 rfl (Ac (A5 ?_)))
  refine Bb h (fun h => ?_) fun h => ?_
  ·refine Al (A5 (AX (wq rfl (qm rfl (qa rfl (Ac (wq rfl (qw 3 rfl ?_))))))))
   refine BY h fun v4 a4 b4 h => qi DB Ea a4 (Aj b4) rfl (qK IE Ea rfl ?_)
   refine BF h fun v5 a5 h => Pj (ds0 := [_]) (ar := (Rd true Ax) v4) (.p rfl) rfl rfl ⟨rfl, tv⟩ rfl rfl rfl (Pe (Pm _ _ Us) a5) ?_
   refine Ac ?_
   refine Bb h (fun h => ?_) fun h => ?_
   ·refine wq rfl (qm rfl (qe rfl ?_))
    obtain rfl := sj h
    refine Ah (sm [] [(4, iD v1)] [] rfl rfl) (As ?_)
    exact ⟨⟨[_], tm, rfl⟩, tv⟩
   ·refine Al (Ai Aw rfl (Bp rfl (qm rfl (Ac ?_))))
    exact sn [] h
  ·refine Bh ?_
   exact sn [] h
 ·refine Ah hs (wq rfl (qe rfl ?_))
  obtain rfl := sj h
  refine Ah (sm [] [(4, iD ((-1)))] [] rfl rfl) (As ?_)
  exact ⟨⟨[_], tm, rfl⟩, tv⟩
theorem GT (N : Nat) (p0 : List Ae) (p1 : Ae → Option Bool) (r : Bool) (h : BM N p0 p1 = some r) : Au zA 110 [pD (.sl (p0.map Ax)), oD (.clo (Lz (Rd true Ax) tB p1))] [] (bD r) := by
 unfold BM at h
 refine cw (n := 9) (rs := [.tmp 4]) Tryz.func110 fun w0 S0 => ?_
 refine wq rfl (qa rfl (Ac (wq rfl (qw 2 rfl ?_))))
 refine BF h fun v1 a1 h => Av [] (Hm N p0 p1 v1 a1) eM rfl (Eh rfl (qe rfl ?_))
 obtain rfl := sj h
 refine Ah (sm [] [(4, bD ((decide (0 ≤ v1))))] [] rfl rfl) (As ?_)
 exact ⟨⟨[_], tm, rfl⟩, tv⟩
theorem Mz (N : Nat) (p0 : Ae) (r : Bool) (h : E3 N p0 = some r) : Au zA 111 [.e (.agg (Dd p0))] [] (bD r) := by
 unfold E3 at h
 refine cw (n := 6) (rs := [.tmp 2]) Tryz.func111 fun w0 S0 => ?_
 refine wq rfl (qb rfl (qa rfl (Ac (wq rfl (qf DK rfl (ql A8 rfl (AN rfl (qe rfl ?_))))))))
 obtain rfl := sj h
 refine Ah (sm [] [(2, bD ((p0.gD == 4)))] [] rfl rfl) (As ?_)
 exact ⟨⟨[_], tm, rfl⟩, tv⟩
theorem Gt (N : Nat) (p0 : List Int) (r : (List Int)) (h : CU N p0 = some r) : Au zA 149 [pD (.sl (p0.map Aq))] [(1, r.map Aq)] (oD (.own 0)) := by
 unfold CU at h
 refine cw (n := 8) (rs := [.tmp 2]) Tryz.func149 fun w0 S0 => ?_
 refine wq rfl (qa rfl (Ac (wp rfl (qm rfl ?_))))
 refine Vg (.p rfl) rfl AF ?_
 refine Ac ?_
 refine Vq rfl (fun c2 => ?_) ?_
 ·have c2 := List.map_eq_nil_iff.1 c2
  rw [c2] at h
  have h : (some (([] : List Int))) = some r := h
  refine wq rfl (qe rfl ?_)
  obtain rfl := sj h
  refine Ah ((Bl 2 2001 1 rfl rfl rfl).trans (sm [(1000, 2001)] [(2, oD (.own 1000))] [(1000, .vec 1 ((([] : List Int)).map Aq))] rfl rfl)) (As ?_)
  exact ⟨⟨[_], tm, rfl⟩, ⟨rfl, tv⟩⟩
 ·refine Al (wq rfl (EB AF CQ MD rfl (qm rfl ?_)))
  refine GJ h fun c1 h => K8 (f := Aq) AF AF CQ Ok MD (fun _ => rfl) c1 rfl (qe rfl ?_)
  obtain rfl := sj h
  refine Ah (sm [(1000, 7)] [(2, oD (.own 1000))] [(1000, .vec 1 (((([] : List Int)) ++ p0).map Aq))] rfl rfl) (As ?_)
  exact ⟨⟨[_], tm, rfl⟩, ⟨rfl, tv⟩⟩
theorem NM (N : Nat) (p0 : Int) (p1 : Int) (r : Int × Int) (h : HF N p0 p1 = some r) : Au zA 190 [pD (.val (.int .u32 p0)), pD (.val (.int .u32 p1))] [] (.tup [.one (.pure (.val (.int .u32 r.1))), .one (.pure (.val (.int .u32 r.2)))]) := by
 unfold HF at h
 refine cw (n := 17) (rs := [.tmp 4, .tmp 5]) Tryz.func190 fun w0 S0 => ?_
 refine wq rfl (qa rfl (qa rfl (Ac (wq rfl (qm rfl (JN VV bi rfl (qm rfl (JN VV bi rfl (MN rfl (qa rfl (Ac (wq rfl (qm rfl (L6 rfl (by decide) (JN aO VT rfl (qm rfl (JN aO VT rfl (qa rfl (qe rfl ?_)))))))))))))))))))
 obtain rfl := sj h
 refine Ah (sm [] [(4, pD (.val (.int .u32 ((wI .u32 ((Gy .u64 ((wI .u64 ((wI .u64 p0) * (wI .u64 p1)))) 32))))))), (5, pD (.val (.int .u32 ((wI .u32 ((wI .u64 ((wI .u64 p0) * (wI .u64 p1)))))))))] [] rfl rfl) (As ?_)
 exact ⟨⟨[_, _], ⟨.tmp _ _ rfl, tm⟩, rfl⟩, tv⟩
theorem NF (N : Nat) (p0 : Int) (p1 : Int) (r : Int × Int) (h : HJ N p0 p1 = some r) : Au zA 191 [pD (.val (.int .u64 p0)), pD (.val (.int .u64 p1))] [] (.tup [.one (.pure (.val (.int .u64 r.1))), .one (.pure (.val (.int .u64 r.2)))]) := by
 unfold HJ at h
 refine cw (n := 51) (rs := [.tmp 4, .tmp 5]) Tryz.func191 fun w0 S0 => ?_
 refine wq rfl (qa rfl (qa rfl (Ac (wq rfl (qm rfl (RM rfl (qa rfl (Ac (wq rfl (qm rfl (L6 rfl (by decide) (qa rfl (Ac (wq rfl (qm rfl (RM rfl (qa rfl (Ac (wq rfl (qm rfl (L6 rfl (by decide) (qa rfl (Ac (wq rfl (qw 2 rfl (MN rfl (qa rfl (Ac (wq rfl (qw 2 rfl ?_))))))))))))))))))))))))))))))
 refine MN rfl (qm rfl (L6 rfl (by decide) (Bp rfl (qa rfl (Ac (wq rfl (qm rfl (RM rfl (qa rfl (Ac (wq rfl (qm rfl (L6 rfl (by decide) (qa rfl (Ac (wq rfl (qw 3 rfl (MN rfl (Bp rfl (qa rfl (Ac (wq rfl (qw 2 rfl (MN rfl (qm rfl (Bp rfl (qm rfl (L6 rfl (by decide) (Bp rfl (qa rfl (Ac (A5 ?_))))))))))))))))))))))))))))))))
 refine Ai Aw rfl (qw 2 rfl (MN rfl (qe rfl ?_)))
 obtain rfl := sj h
 refine Ah (sm [] [(4, pD (.val (.int .u64 ((wI .u64 ((wI .u64 ((wI .u64 ((Gy .u64 p0 32) * (Gy .u64 p1 32))) + (Gy .u64 ((wI .u64 ((wI .u64 ((Gy .u64 p0 32) * (Ho .u64 p1 4294967295))) + (Gy .u64 ((wI .u64 ((Ho .u64 p0 4294967295) * (Ho .u64 p1 4294967295)))) 32)))) 32))) + (Gy .u64 ((wI .u64 ((Ho .u64 ((wI .u64 ((wI .u64 ((Gy .u64 p0 32) * (Ho .u64 p1 4294967295))) + (Gy .u64 ((wI .u64 ((Ho .u64 p0 4294967295) * (Ho .u64 p1 4294967295)))) 32)))) 4294967295) + (wI .u64 ((Ho .u64 p0 4294967295) * (Gy .u64 p1 32)))))) 32))))))), (5, pD (.val (.int .u64 ((wI .u64 (p0 * p1))))))] [] rfl rfl) (As ?_)
 exact ⟨⟨[_, _], ⟨.tmp _ _ rfl, tm⟩, rfl⟩, tv⟩
theorem O6 (N : Nat) (p0 : Int) (p1 : Int) (r : Int × Int) (h : IC N p0 p1 = some r) : Au zA 175 [pD (.val (.int .u64 p0)), pD (.val (.int .u64 p1))] [] (.tup [.one (.pure (.val (.int .u64 r.1))), .one (.pure (.val (.int .u64 r.2)))]) := by
 unfold IC at h
 refine cw (n := 30) (rs := [.tmp 4, .tmp 5]) Tryz.func175 fun w0 S0 => ?_
 refine wq rfl (qa rfl (qa rfl (Ac (A5 ?_))))
 refine Bb h (fun h => ?_) fun h => ?_
 ·refine wq rfl (qm rfl (JN W8 VT rfl (qm rfl (JN W8 VT rfl ?_))))
  refine BF h fun v2 a2 h => Av [] (NM N ((wI .u32 p0)) ((wI .u32 p1)) v2 a2) fi rfl (qm rfl (qx rfl (qx rfl (qa rfl (qa rfl (Ac (wq rfl (qm rfl (JN VV Vz rfl (qm rfl (JN VV Vz rfl (qa rfl (qe rfl ?_)))))))))))))
  obtain rfl := sj h
  refine Ah (sm [] [(4, pD (.val (.int .u64 ((wI .u64 v2.1))))), (5, pD (.val (.int .u64 ((wI .u64 v2.2)))))] [] rfl rfl) (As ?_)
  exact ⟨⟨[_, _], ⟨.tmp _ _ rfl, tm⟩, rfl⟩, tv⟩
 ·refine Al (wq rfl (qw 2 rfl ?_))
  refine BF h fun v3 a3 h => Av [] (NF N p0 p1 v3 a3) eb rfl (qm rfl (qx rfl (qx rfl (qa rfl (qa rfl (Ac (wq rfl (qw 2 rfl (qa rfl (qe rfl ?_))))))))))
  obtain rfl := sj h
  refine Ah (sm [] [(4, pD (.val (.int .u64 v3.1))), (5, pD (.val (.int .u64 v3.2)))] [] rfl rfl) (As ?_)
  exact ⟨⟨[_, _], ⟨.tmp _ _ rfl, tm⟩, rfl⟩, tv⟩
theorem KI (N : Nat) (p0 : List Int) (p1 : Int) (r : (List Int)) (h : EQ N p0 p1 = some r) : Au zA 150 [pD (.sl (p0.map Aq)), iD p1] [(1, r.map Aq)] (oD (.own 0)) := by
 unfold EQ at h
 refine cw (n := 48) (rs := [.tmp 4]) Tryz.func150 fun w0 S0 => ?_
 refine wq rfl (qe rfl ?_)
 refine AI h (fun v1 => mk [(0, pD (.sl (p0.map Aq))), (1, iD p1)] []) (fun j1 h => ?_) (fun v1 h => ?_)
 ·refine wq rfl (qm rfl (A9 rfl (Ac ?_)))
  refine Bb h (fun h => ?_) fun h => ?_
  ·refine Ai Aw rfl ?_
   cases h
  ·refine Al ?_
   exact sn [] h
 ·refine wq rfl (qm rfl (AU AF rfl (JN gr Vz rfl (qm rfl (JN gr Vz rfl ?_)))))
  refine BF h fun v3 a3 h => Av [] (O6 N ((wI .u64 ((p0.length : Int)))) ((wI .u64 p1)) v3 a3) fr rfl (qm rfl (qx rfl (qx rfl (qa rfl (qe rfl ?_)))))
  refine AI h (fun v4 => mk [(0, pD (.sl (p0.map Aq))), (6, pD (.val (.int .u64 v3.2)))] []) (fun j4 h => ?_) (fun v4 h => ?_)
  ·refine AI h (fun v5 => mk [(0, pD (.sl (p0.map Aq))), (6, pD (.val (.int .u64 v3.2))), (26, bD v5)] []) (fun j5 h => ?_) (fun v5 h => ?_)
   ·refine Ai Aw rfl (qm rfl (FQ rfl (qm rfl ?_)))
    refine Dc 23 h rfl (fun h => ?_) fun h => ?_
    ·refine qw 2 rfl (qp rfl (Ac ?_))
     exact sn [] h
    ·refine qm rfl (FQ rfl (qp rfl (Ac ?_)))
     exact sn [] h
   ·refine Bb h (fun h => ?_) fun h => ?_
    ·refine Ai Aw rfl ?_
     cases h
    ·refine Al ?_
     exact sn [] h
  ·refine wq rfl (qm rfl (JN W8 Xt rfl ?_))
   refine GJ h fun c8 h => OU (.p rfl) rfl rfl rfl AF CQ Ok (Jd rfl) MD rfl rfl rfl c8.1 c8.2.1 c8.2.2 (VM Aq _ ((0 : Int))) ?_
   refine qa rfl (Ac (wq rfl (qw 2 rfl ?_)))
   refine Vk Aq (zO ((wI .i64 v3.2)).toNat ((0 : Int))) p0 (.p rfl) rfl (Qs Aq _ _ (zO ((wI .i64 v3.2)).toNat ((0 : Int)))) rfl rfl (Ze Aq _ _ (fun _ => rfl)) tv AF CQ ?_
   refine qa rfl (Ac (A5 ?_))
   refine AY (L := Ee N) h (fun v9 => mk [(7, oD (.own 2001)), (8, iD v9.2)] [(2001, .vec 1 (v9.1.map Aq))]) (fun v10 => mk [(7, oD (.own 2002))] [(2002, .vec 1 (v10.map Aq))]) (fun _ _ => rfl) (sm [(2001, 30)] _ _ rfl rfl) (fun j9 n9 v9 h => ?_) (fun v10 s h hs => ?_)
   ·unfold Ee at h
    refine wp rfl (qw 2 rfl (GG AF rfl (A9 rfl (Ac ?_))))
    refine Bb h (fun h => ?_) fun h => ?_
    ·refine Al (AX (Ai Aw rfl (qw 3 rfl ?_)))
     obtain ⟨c12, h⟩ := JC h
     have w13 : ((v9.2).toNat) + ((v9.1.length - (v9.2).toNat)) ≤ v9.1.length := by have := c12.2.1; have := c12.2.2; omega
     refine Tj Aq v9.1 (.p rfl) rfl (Qs Aq _ _ v9.1) rfl AF CQ (.some _ _ _ _ c12.1) (.none _) ⟨rfl, tv⟩ tv c12.2.1 (by rw [zI]; exact c12.2.2) (zI _) rfl ?_
     refine qw 2 rfl ?_
     obtain ⟨c14, h⟩ := JC h
     have w15 : 0 + ((v9.2).toNat) ≤ v9.1.length := by have := c14.2.1; have := c14.2.2; omega
     refine Tj Aq v9.1 (.p rfl) rfl (Qs Aq _ _ v9.1) rfl AF CQ (.none _) (.some _ _ _ _ c14.1) tv ⟨rfl, tv⟩ c14.2.1 (by rw [zI]; exact c14.2.2) (zI _) rfl ?_
     refine Vk Aq v9.1 (((v9.1.drop 0).take ((v9.2).toNat))) (.p rfl) rfl (Wx Aq _ _ ((v9.2).toNat) ((v9.1.length - (v9.2).toNat)) v9.1 w13) rfl rfl (WH Aq _ _ 0 ((v9.2).toNat) v9.1 w15) ⟨rfl, tv⟩ AF CQ ?_
     refine Bp rfl (qa rfl (AJ (by kernel_rfl) ?_))
     exact sn [] h
    ·refine Bh ?_
     exact sn [(2002, 2001)] h
   ·refine Ah hs (wq rfl (qm rfl (qe rfl ?_)))
    obtain rfl := sj h
    refine Ah (sm [(1000, 2002)] [(4, oD (.own 1000))] [(1000, .vec 1 (v10.map Aq))] rfl rfl) (As ?_)
    exact ⟨⟨[_], tm, rfl⟩, ⟨rfl, tv⟩⟩
theorem NY (N : Nat) (p0 : AA) (r : Bool) (h : GD N p0 = some r) : Au zA 151 [.e (.agg (BJ p0))] [] (bD r) := by
 unfold GD at h
 refine cw (n := 11) (rs := [.tmp 2]) Tryz.func151 fun w0 S0 => ?_
 refine wq rfl (qb rfl (qe rfl ?_))
 refine AI h (fun v1 => mk [(2, bD v1)] []) (fun j1 h => ?_) (fun v1 h => ?_)
 ·refine Ai Aw rfl (qf Fi rfl (ql A8 rfl (AN rfl (qm rfl ?_))))
  refine Dc 6 h rfl (fun h => ?_) fun h => ?_
  ·refine qw 3 rfl (qp rfl (qe rfl ?_))
   exact sn [] h
  ·refine qf Fi rfl (ql A8 rfl (AN rfl (qp rfl (qe rfl ?_))))
   exact sn [] h
 ·obtain rfl := sj h
  refine Ah (sm [] [(2, bD v1)] [] rfl rfl) (As ?_)
  exact ⟨⟨[_], tm, rfl⟩, tv⟩
theorem Ub (N : Nat) (p0 : Aa) (r : Ab × Int) (h : HY N p0 = some r) : Au zA 112 [.e (.agg (Ag p0))] [(1, r.1.gI.map Aq), (1, r.1.gF.map Aq), (1, r.1.gG.map Cy)] (.tup [.agg [.own 0, .own 1, .own 2], .one (iC r.2)]) := by
 unfold HY at h
 refine cw (n := 50) (rs := [.cell 2 40, .tmp 3]) Tryz.func112 fun w0 S0 => ?_
 refine wq rfl (qb rfl (qz CM rfl (qa rfl (Ac (wp rfl (qL BZ BB rfl ?_))))))
 refine BF h fun v1 a1 h => Av [] (FR N p0 v1 a1) Z9 rfl (qa rfl (Ac (wq rfl (qm rfl (BH rfl (Ac ?_))))))
 refine Bb h (fun h => ?_) fun h => ?_
 ·refine wq rfl (AS CM G1 rfl (qm rfl (qs AQ rfl (qe rfl ?_))))
  obtain rfl := sj h
  refine Ah ((Ay 2 0 2001 1 _ rfl rfl rfl rfl).trans ((Ay 2 1 2002 1 _ rfl rfl rfl rfl).trans ((Ay 2 2 2003 1 _ rfl rfl rfl rfl).trans (sm [(1000, 2001), (1001, 2002), (1002, 2003)] [(2, oD (.ptr 2 0)), (3, iD v1)] [(2, .box [.own 1000, .own 1001, .own 1002]), (1000, .vec 1 ((([] : List Int)).map Aq)), (1001, .vec 1 ((([] : List Int)).map Aq)), (1002, .vec 1 ((([] : List Int)).map Cy))] rfl rfl)))) (As ?_)
  exact ⟨⟨[_, _], ⟨.cellN _ _ _ _ _ _ _ rfl rfl Bf AQ rfl rfl (E1 rfl), tm⟩, rfl⟩, ⟨rfl, rfl, rfl, tv⟩⟩
 ·refine Al (wq rfl (qf HA rfl (ql Bi rfl ?_)))
  refine BF h fun v3 a3 h => Av [2004] (Gt N p0.gR v3 a3) Xe rfl (EB AF CQ MD rfl (qf HA rfl (ql Bi rfl (AU AF rfl ?_))))
  refine BF h fun v4 a4 h => FN [2005] [17] (KI N (([(-1)] : List Int)) ((p0.gR.length : Int)) v4 a4) eI (G4 (fun _ => rfl) Eb) rfl (qf CS rfl (ql Hy rfl (AU Ev rfl ?_)))
  refine GJ h fun c5 h => OU (.p rfl) rfl rfl rfl Ei EP PF (Jd rfl) NH rfl rfl rfl c5.1 c5.2.1 c5.2.2 (VM Cy _ ((0 : Int))) ?_
  refine AS CM G1 rfl (qz CM rfl (qs AQ rfl (AJ (by kernel_rfl) (wp rfl (qf CS rfl (ql Hy rfl (AU Ev rfl (qm rfl (Ac ?_)))))))))
  refine AY (L := Ex N p0) h (fun v6 => mk [(1, oD (.ptr 1 0)), (2, oD (.ptr 2 0)), (5, oD (.ptr 5 0)), (28, pD (.sl (p0.gJ.map Bs))), (29, iD ((p0.gJ.length : Int))), (30, iD v6.2)] [(1, .box (Ag p0)), (2, .box [.pure (.nil0), .pure (.nil0), .pure (.nil0)]), (5, .box [.own 2006, .own 2007, .own 2008]), (2006, .vec 1 (v3.map Aq)), (2007, .vec 1 (v4.map Aq)), (2008, .vec 1 (v6.1.map Cy))]) (fun v7 => mk [(2, oD (.ptr 2 0)), (5, oD (.ptr 5 0))] [(2, .box [.pure (.nil0), .pure (.nil0), .pure (.nil0)]), (5, .box [.own 2009, .own 2010, .own 2011]), (2009, .vec 1 (v3.map Aq)), (2010, .vec 1 (v4.map Aq)), (2011, .vec 1 (v7.map Cy))]) (fun _ _ => rfl) (sm [(2006, 2004), (2007, 2005), (2008, 25)] _ _ rfl rfl) (fun j6 n6 v6 h => ?_) (fun v7 s h hs => ?_)
  ·unfold Ex at h
   refine wq rfl (A9 rfl (Ac (A5 ?_)))
   refine Bb h (fun h => ?_) fun h => ?_
   ·refine Al ?_
    refine AI h (fun v9 => mk [(1, oD (.ptr 1 0)), (2, oD (.ptr 2 0)), (5, oD (.ptr 5 0)), (28, pD (.sl (p0.gJ.map Bs))), (29, iD ((p0.gJ.length : Int))), (30, iD v6.2)] [(1, .box (Ag p0)), (2, .box [.pure (.nil0), .pure (.nil0), .pure (.nil0)]), (5, .box [.own 2012, .own 2013, .own 2014]), (2012, .vec 1 (v3.map Aq)), (2013, .vec 1 (v4.map Aq)), (2014, .vec 1 (v9.map Cy))]) (fun j9 h => ?_) (fun v9 h => ?_)
    ·refine AX (wq rfl (qm rfl ?_))
     refine BY h fun v10 a10 b10 h => qi Ev CG a10 (Aj b10) rfl (qK FK CG rfl (qz JD rfl (qa rfl (qs CG rfl (Ac (wq rfl (qL FK CG rfl ?_)))))))
     refine BF h fun v11 a11 h => Av [] (NY N v10 v11 a11) aT rfl (Ac ?_)
     refine Bb h (fun h => ?_) fun h => ?_
     ·refine Ai Aw rfl (qf Dm rfl (ql Il rfl (qm rfl (qf HA rfl (ql Bi rfl (qf CB rfl (ql A8 rfl ?_)))))))
      refine BY h fun v13 a13 b13 h => qi AF CQ a13 (Aj b13) rfl (qk A8 rfl ?_)
      refine GJ h fun c14 h => Kt rfl c14 ?_
      refine BY h fun v15 a15 b15 h => qI Ei EP a15 (Aj b15) rfl ?_
      refine FE rfl rfl rfl rfl (Aj b15) rfl EP rfl (Jd rfl) (FL Cy v6.1 _ ((EK .u8 1 v13))) ?_
      refine AJ (by kernel_rfl) ?_
      exact sn [(2012, 2006), (2013, 2007), (2014, 2008)] h
     ·refine Al ?_
      exact sn [(2012, 2006), (2013, 2007), (2014, 2008)] h
    ·refine Ai Aw rfl (Bp rfl (qm rfl (Ac ?_)))
     exact sn [(2006, 2012), (2007, 2013), (2008, 2014)] h
   ·refine Bh ?_
    exact sn [(2009, 2006), (2010, 2007), (2011, 2008)] h
  ·refine Ah hs (wq rfl (qL Bf AQ rfl (qs AQ rfl (qe rfl ?_))))
   obtain rfl := sj h
   refine Ah (sm [(1000, 2009), (1001, 2010), (1002, 2011)] [(2, oD (.ptr 2 0)), (3, iD 0)] [(2, .box [.own 1000, .own 1001, .own 1002]), (1000, .vec 1 (v3.map Aq)), (1001, .vec 1 (v4.map Aq)), (1002, .vec 1 (v7.map Cy))] rfl rfl) (As ?_)
   exact ⟨⟨[_, _], ⟨.cellN _ _ _ _ _ _ _ rfl rfl Bf AQ rfl rfl (E1 rfl), tm⟩, rfl⟩, ⟨rfl, rfl, rfl, tv⟩⟩
theorem Q2 (N : Nat) (p0 : Ab) (p1 : Int) (r : Int) (h : G7 N p0 p1 = some r) : Au zA 176 [.e (.agg (AH p0)), iD p1] [] (pD (.val (.int .u8 r))) := by
 unfold G7 at h
 refine cw (n := 27) (rs := [.tmp 4]) Tryz.func176 fun w0 S0 => ?_
 refine wq rfl (qb rfl (qa rfl (Ac (wq rfl (qf Dj rfl (ql Bi rfl (qm rfl ?_)))))))
 refine BY h fun v1 a1 b1 h => qi AF CQ a1 (Aj b1) rfl (qk A8 rfl ?_)
 refine GJ h fun c2 h => Kt rfl c2 (qe rfl ?_)
 refine AI h (fun v3 => mk [(5, pD (.val (.int .u8 v3)))] []) (fun j3 h => ?_) (fun v3 h => ?_)
 ·refine wq rfl (qf BU rfl (ql Bi rfl (qm rfl ?_)))
  refine BY h fun v4 a4 b4 h => qi AF CQ a4 (Aj b4) rfl (qk A8 rfl (Eh rfl (Ac ?_)))
  refine Bb h (fun h => ?_) fun h => ?_
  ·refine Ai Aw rfl (qm rfl (qf BU rfl (ql Bi rfl (qm rfl ?_))))
   refine BY h fun v6 a6 b6 h => qi AF CQ a6 (Aj b6) rfl (qk A8 rfl ?_)
   refine GJ h fun c7 h => Kt rfl c7 (Yx rfl (qe rfl ?_))
   exact sn [] h
  ·refine Al ?_
   exact sn [] h
 ·refine wq rfl (qm rfl (qe rfl ?_))
  obtain rfl := sj h
  refine Ah (sm [] [(4, pD (.val (.int .u8 v3)))] [] rfl rfl) (As ?_)
  exact ⟨⟨[_], tm, rfl⟩, tv⟩
theorem OV (N : Nat) (p0 : Aa) (p1 : Ab) (r : Int) (h : He N p0 p1 = some r) : Au zA 152 [.e (.agg (Ag p0)), .e (.agg (AH p1))] [] (iD r) := by
 unfold He at h
 refine cw (n := 135) (rs := [.tmp 4]) Tryz.func152 fun w0 S0 => ?_
 refine wq rfl (qb rfl (qb rfl (qa rfl (Ac (wp rfl (qL BZ BB rfl ?_))))))
 refine BF h fun v1 a1 h => Av [] (FR N p0 v1 a1) Z9 rfl (qa rfl (Ac (wq rfl (qm rfl (BH rfl (Ac ?_))))))
 refine Bb h (fun h => ?_) fun h => ?_
 ·refine wq rfl (qm rfl (qe rfl ?_))
  obtain rfl := sj h
  refine Ah (sm [] [(4, iD v1)] [] rfl rfl) (As ?_)
  exact ⟨⟨[_], tm, rfl⟩, tv⟩
 ·refine Al (A5 ?_)
  refine AI h (fun v3 => mk [(2, oD (.ptr 2 0)), (3, oD (.ptr 3 0)), (41, bD v3)] [(2, .box (Ag p0)), (3, .box (AH p1))]) (fun j3 h => ?_) (fun v3 h => ?_)
  ·refine Ai Aw rfl (qf Dj rfl (ql Bi rfl (AU AF rfl (qf Bx rfl (ql Bi rfl (AU AF rfl (BH rfl (qm rfl ?_))))))))
   refine Dc 24 h rfl (fun h => ?_) fun h => ?_
   ·refine qw 7 rfl (qp rfl (qw 8 rfl (qp rfl (Ac ?_))))
    exact sn [] h
   ·refine qf BU rfl (ql Bi rfl (AU AF rfl (qf Bx rfl (ql Bi rfl (AU AF rfl (BH rfl (qp rfl (qm rfl ?_))))))))
    refine Dc 33 h rfl (fun h => ?_) fun h => ?_
    ·refine qw 7 rfl (qp rfl (Ac ?_))
     exact sn [] h
    ·refine qf Dm rfl (ql Il rfl (AU Ei rfl (qf CS rfl (ql Hy rfl (AU Ev rfl (BH rfl (qp rfl (Ac ?_))))))))
     exact sn [] h
  ·refine Bb h (fun h => ?_) fun h => ?_
   ·refine wq rfl (qe rfl ?_)
    obtain rfl := sj h
    refine Ah (sm [] [(4, iD 6)] [] rfl rfl) (As ?_)
    exact ⟨⟨[_], tm, rfl⟩, tv⟩
   ·refine Al (wp rfl (qf Bx rfl (ql Bi rfl (AU AF rfl (qm rfl (Ac ?_))))))
    refine AY (L := Ew N p0 p1) h (fun v7 => mk [(2, oD (.ptr 2 0)), (3, oD (.ptr 3 0)), (43, pD (.sl (p0.gH.map Aq))), (44, iD ((p0.gH.length : Int))), (45, iD v7)] [(2, .box (Ag p0)), (3, .box (AH p1))]) (fun v8 => mk [(2, oD (.ptr 2 0)), (3, oD (.ptr 3 0))] [(2, .box (Ag p0)), (3, .box (AH p1))]) (fun _ _ => rfl) (sm [] _ _ rfl rfl) (fun j7 n7 v7 h => ?_) (fun v8 s h hs => ?_)
    ·unfold Ew at h
     refine wq rfl (A9 rfl (Ac (A5 ?_)))
     refine Bb h (fun h => ?_) fun h => ?_
     ·refine Al (A5 (AX (wq rfl (qm rfl ?_))))
      refine BY h fun v10 a10 b10 h => qi AF CQ a10 (Aj b10) rfl (qk A8 rfl (qa rfl (qa rfl (Ac (A5 ?_)))))
      refine AI h (fun v11 => mk [(2, oD (.ptr 2 0)), (3, oD (.ptr 3 0)), (6, iD v7), (43, pD (.sl (p0.gH.map Aq))), (44, iD ((p0.gH.length : Int))), (45, iD v7), (81, bD v11)] [(2, .box (Ag p0)), (3, .box (AH p1))]) (fun j11 h => ?_) (fun v11 h => ?_)
      ·refine Ai Aw rfl (qf Dj rfl (ql Bi rfl (qm rfl ?_)))
       refine BY h fun v12 a12 b12 h => qi AF CQ a12 (Aj b12) rfl (qk A8 rfl (A9 rfl (qm rfl ?_)))
       refine Dc 56 h rfl (fun h => ?_) fun h => ?_
       ·refine qw 7 rfl (qp rfl (qw 7 rfl (qp rfl (qw 8 rfl (qp rfl (Ac ?_))))))
        exact sn [] h
       ·refine qf Dj rfl (ql Bi rfl (qm rfl ?_))
        refine BY h fun v14 a14 b14 h => qi AF CQ a14 (Aj b14) rfl (qk A8 rfl (qm rfl (Eh rfl (qp rfl (qm rfl ?_)))))
        refine Dc 65 h rfl (fun h => ?_) fun h => ?_
        ·refine qw 6 rfl (qp rfl (qw 8 rfl (qp rfl (Ac ?_))))
         exact sn [] h
        ·refine qf BU rfl (ql Bi rfl (qm rfl ?_))
         refine BY h fun v16 a16 b16 h => qi AF CQ a16 (Aj b16) rfl (qk A8 rfl (A9 rfl (qp rfl (qm rfl ?_))))
         refine Dc 73 h rfl (fun h => ?_) fun h => ?_
         ·refine qw 7 rfl (qp rfl (Ac ?_))
          exact sn [] h
         ·refine qf BU rfl (ql Bi rfl (qm rfl ?_))
          refine BY h fun v18 a18 b18 h => qi AF CQ a18 (Aj b18) rfl (qk A8 rfl (qm rfl (Eh rfl (qp rfl (Ac ?_)))))
          exact sn [] h
      ·refine Bb h (fun h => ?_) fun h => ?_
       ·refine wq rfl (qe rfl ?_)
        obtain rfl := sj h
        refine Ah (sm [] [(4, iD 7)] [] rfl rfl) (As ?_)
        exact ⟨⟨[_], tm, rfl⟩, tv⟩
       ·refine Al (wq rfl (qf Dj rfl (ql Bi rfl (qm rfl ?_))))
        refine BY h fun v20 a20 b20 h => qi AF CQ a20 (Aj b20) rfl (qk A8 rfl (qf BU rfl (ql Bi rfl (qm rfl ?_))))
        refine BY h fun v21 a21 b21 h => qi AF CQ a21 (Aj b21) rfl (qk A8 rfl (AN rfl (AJ (by kernel_rfl) ?_)))
        refine Bb h (fun h => ?_) fun h => ?_
        ·refine wq rfl (qe rfl ?_)
         obtain rfl := sj h
         refine Ah (sm [] [(4, iD 1)] [] rfl rfl) (As ?_)
         exact ⟨⟨[_], tm, rfl⟩, tv⟩
        ·refine Al (Ai Aw rfl (Bp rfl (qm rfl (Ac ?_))))
         exact sn [] h
     ·refine Bh ?_
      exact sn [] h
    ·refine Ah hs (wp rfl (qf CS rfl (ql Hy rfl (AU Ev rfl (qm rfl (Ac ?_))))))
     refine AY (L := D6 N p0 p1) h (fun v23 => mk [(2, oD (.ptr 2 0)), (3, oD (.ptr 3 0)), (95, pD (.sl (p0.gJ.map Bs))), (96, iD ((p0.gJ.length : Int))), (97, iD v23)] [(2, .box (Ag p0)), (3, .box (AH p1))]) (fun v24 => mk [] []) (fun _ _ => rfl) (sm [] _ _ rfl rfl) (fun j23 n23 v23 h => ?_) (fun v24 s h hs => ?_)
     ·unfold D6 at h
      refine wq rfl (A9 rfl (Ac (A5 ?_)))
      refine Bb h (fun h => ?_) fun h => ?_
      ·refine Al (A5 (AX (wq rfl (qm rfl ?_))))
       refine BY h fun v26 a26 b26 h => qi Ev CG a26 (Aj b26) rfl (qK FK CG rfl (qz JD rfl (qa rfl (qs CG rfl (Ac (wq rfl (qa rfl (qe rfl ?_))))))))
       refine AI h (fun v27 => mk [(2, oD (.ptr 2 0)), (3, oD (.ptr 3 0)), (8, iD v23), (10, pD (.val (.int .u8 v27.1))), (11, pD (.val (.int .u8 v27.2))), (95, pD (.sl (p0.gJ.map Bs))), (96, iD ((p0.gJ.length : Int))), (97, iD v23)] [(2, .box (Ag p0)), (3, .box (AH p1))]) (fun j27 h => ?_) (fun v27 h => ?_)
       ·refine wq rfl (qL FK CG rfl ?_)
        refine BF h fun v28 a28 h => Av [] (NY N v26 v28 a28) aT rfl (Ac ?_)
        refine Bb h (fun h => ?_) fun h => ?_
        ·refine Ai Aw rfl (qL Bf AQ rfl (qf CB rfl (ql A8 rfl ?_)))
         refine BF h fun v30 a30 h => Av [] (Q2 N p1 v26.gM v30 a30) dQ rfl (qf Bx rfl (ql Bi rfl (qf CB rfl (ql A8 rfl ?_))))
         refine BY h fun v31 a31 b31 h => qi AF CQ a31 (Aj b31) rfl (qk A8 rfl ?_)
         refine GJ h fun c32 h => Kt rfl c32 (Kx rfl (qa rfl (qa rfl (AJ (by kernel_rfl) ?_))))
         exact sn [] h
        ·refine Al ?_
         exact sn [] h
       ·refine AI h (fun v33 => mk [(2, oD (.ptr 2 0)), (3, oD (.ptr 3 0)), (95, pD (.sl (p0.gJ.map Bs))), (96, iD ((p0.gJ.length : Int))), (97, iD v23), (133, bD v33)] [(2, .box (Ag p0)), (3, .box (AH p1))]) (fun j33 h => ?_) (fun v33 h => ?_)
        ·refine Ai Aw rfl (qm rfl (qf Dm rfl (ql Il rfl (qm rfl ?_))))
         refine BY h fun v34 a34 b34 h => qi Ei EP a34 (Aj b34) rfl (qk IN rfl (Js rfl (BH rfl (qm rfl ?_))))
         refine Dc 124 h rfl (fun h => ?_) fun h => ?_
         ·refine qw 8 rfl (qp rfl (Ac ?_))
          exact sn [] h
         ·refine qf Dm rfl (ql Il rfl (qm rfl ?_))
          refine BY h fun v36 a36 b36 h => qi Ei EP a36 (Aj b36) rfl (qk IN rfl (qm rfl (Js rfl (BH rfl (qp rfl (Ac ?_))))))
          exact sn [] h
        ·refine Bb h (fun h => ?_) fun h => ?_
         ·refine wq rfl (qe rfl ?_)
          obtain rfl := sj h
          refine Ah (sm [] [(4, iD 1)] [] rfl rfl) (As ?_)
          exact ⟨⟨[_], tm, rfl⟩, tv⟩
         ·refine Al (Ai Aw rfl (Bp rfl (qm rfl (Ac ?_))))
          exact sn [] h
      ·refine Bh ?_
       exact sn [] h
     ·refine Ah hs (wq rfl (qe rfl ?_))
      obtain rfl := sj h
      refine Ah (sm [] [(4, iD 0)] [] rfl rfl) (As ?_)
      exact ⟨⟨[_], tm, rfl⟩, tv⟩
theorem IF (N : Nat) (p0 : List Int) (r : (List Int)) (h : CK N p0 = some r) : Au zA 177 [pD (.sl (p0.map Cy))] [(1, r.map Cy)] (oD (.own 0)) := by
 unfold CK at h
 refine cw (n := 8) (rs := [.tmp 2]) Tryz.func177 fun w0 S0 => ?_
 refine wq rfl (qa rfl (Ac (wp rfl (qm rfl ?_))))
 refine Vg (.p rfl) rfl Ei ?_
 refine Ac ?_
 refine Vq rfl (fun c2 => ?_) ?_
 ·have c2 := List.map_eq_nil_iff.1 c2
  rw [c2] at h
  have h : (some (([] : List Int))) = some r := h
  refine wq rfl (qe rfl ?_)
  obtain rfl := sj h
  refine Ah ((Bl 2 2001 1 rfl rfl rfl).trans (sm [(1000, 2001)] [(2, oD (.own 1000))] [(1000, .vec 1 ((([] : List Int)).map Cy))] rfl rfl)) (As ?_)
  exact ⟨⟨[_], tm, rfl⟩, ⟨rfl, tv⟩⟩
 ·refine Al (wq rfl (EB Ei EP NH rfl (qm rfl ?_)))
  refine GJ h fun c1 h => K8 (f := Cy) Ei Ei EP PF NH (fun _ => rfl) c1 rfl (qe rfl ?_)
  obtain rfl := sj h
  refine Ah (sm [(1000, 7)] [(2, oD (.own 1000))] [(1000, .vec 1 (((([] : List Int)) ++ p0).map Cy))] rfl rfl) (As ?_)
  exact ⟨⟨[_], tm, rfl⟩, ⟨rfl, tv⟩⟩
theorem MP (N : Nat) (p0 : Ab) (r : Ab) (h : F7 N p0 = some r) : Au zA 153 [.e (.agg (AH p0))] [(1, r.gI.map Aq), (1, r.gF.map Aq), (1, r.gG.map Cy)] (.e (.agg [.own 0, .own 1, .own 2])) := by
 unfold F7 at h
 refine cw (n := 13) (rs := [.cell 2 40]) Tryz.func153 fun w0 S0 => ?_
 refine wq rfl (qb rfl (qz CM rfl (Ac (wq rfl (qf Dj rfl (ql Bi rfl ?_))))))
 refine BF h fun v1 a1 h => Av [2001] (Gt N p0.gI v1 a1) Xe rfl (qf BU rfl (ql Bi rfl ?_))
 refine BF h fun v2 a2 h => Av [2002] (Gt N p0.gF v2 a2) Xe rfl (qf Dm rfl (ql Il rfl ?_))
 refine BF h fun v3 a3 h => Av [2003] (IF N p0.gG v3 a3) dm rfl (AS CM G1 rfl (qs AQ rfl (AJ (by kernel_rfl) ?_)))
 obtain rfl := sj h
 refine Ah (sm [(1000, 2001), (1001, 2002), (1002, 2003)] [(2, oD (.ptr 2 0))] [(2, .box [.own 1000, .own 1001, .own 1002]), (1000, .vec 1 (v1.map Aq)), (1001, .vec 1 (v2.map Aq)), (1002, .vec 1 (v3.map Cy))] rfl rfl) (As ?_)
 exact ⟨⟨[_], ⟨.cellN _ _ _ _ _ _ _ rfl rfl Bf AQ rfl rfl (E1 rfl), tv⟩, rfl⟩, ⟨rfl, rfl, rfl, tv⟩⟩
theorem SN (N : Nat) (p0 : Ae) (r : Bool) (h : Hv N p0 = some r) : Au zA 178 [.e (.agg (Dd p0))] [] (bD r) := by
 unfold Hv at h
 refine cw (n := 27) (rs := [.tmp 2]) Tryz.func178 fun w0 S0 => ?_
 refine wq rfl (qb rfl (qa rfl (Ac (A5 ?_))))
 refine AI h (fun v1 => mk [(1, oD (.ptr 1 0)), (18, bD v1)] [(1, .box (Dd p0))]) (fun j1 h => ?_) (fun v1 h => ?_)
 ·refine Ai Aw rfl (qf Db rfl (ql A8 rfl (qf HB rfl (ql A8 rfl ?_))))
  refine dA (.p rfl) rfl rfl ?_
  refine A9 rfl (qm rfl ?_)
  refine Dc 9 h rfl (fun h => ?_) fun h => ?_
  ·refine qw 3 rfl (qp rfl (qw 4 rfl (qp rfl (Ac ?_))))
   exact sn [] h
  ·refine qf DK rfl (ql A8 rfl (A9 rfl (qp rfl (qm rfl ?_))))
   refine Dc 14 h rfl (fun h => ?_) fun h => ?_
   ·refine qw 3 rfl (qp rfl (Ac ?_))
    exact sn [] h
   ·refine qf DK rfl (ql A8 rfl (FQ rfl (qp rfl (Ac ?_))))
    exact sn [] h
 ·refine Bb h (fun h => ?_) fun h => ?_
  ·refine wq rfl (qe rfl ?_)
   obtain rfl := sj h
   refine Ah (sm [] [(2, bD false)] [] rfl rfl) (As ?_)
   exact ⟨⟨[_], tm, rfl⟩, tv⟩
  ·refine Al ?_
   refine AI h (fun v5 => mk [(2, bD v5)] []) (fun j5 h => ?_) (fun v5 h => ?_)
   ·refine Ai Aw rfl (qf DK rfl (ql A8 rfl (AN rfl (qm rfl ?_))))
    refine Dc 22 h rfl (fun h => ?_) fun h => ?_
    ·refine qw 3 rfl (qp rfl (qe rfl ?_))
     exact sn [] h
    ·refine qf HB rfl (ql A8 rfl (AN rfl (qp rfl (qe rfl ?_))))
     exact sn [] h
   ·obtain rfl := sj h
    refine Ah (sm [] [(2, bD v5)] [] rfl rfl) (As ?_)
    exact ⟨⟨[_], tm, rfl⟩, tv⟩
theorem QW (N : Nat) (p0 : Aa) (p1 : Ae) (r : Bool) (h : GX N p0 p1 = some r) : Au zA 179 [.e (.agg (Ag p0)), .e (.agg (Dd p1))] [] (bD r) := by
 unfold GX at h
 refine cw (n := 36) (rs := [.tmp 4]) Tryz.func179 fun w0 S0 => ?_
 refine wq rfl (qb rfl (qb rfl (qa rfl (Ac (wp rfl (qf DK rfl (ql A8 rfl (AN rfl (Ac ?_)))))))))
 refine Bb h (fun h => ?_) fun h => ?_
 ·refine wq rfl (qf Db rfl (ql A8 rfl (qf CS rfl (ql Hy rfl (AU Ev rfl (A9 rfl (qe rfl ?_)))))))
  obtain rfl := sj h
  refine Ah (sm [] [(4, bD ((decide (p1.gL < (p0.gJ.length : Int)))))] [] rfl rfl) (As ?_)
  exact ⟨⟨[_], tm, rfl⟩, tv⟩
 ·refine Al ?_
  refine AI h (fun v2 => mk [(4, bD v2)] []) (fun j2 h => ?_) (fun v2 h => ?_)
  ·refine Ai Aw rfl (qf Db rfl (ql A8 rfl (qf Bx rfl (ql Bi rfl (AU AF rfl (A9 rfl (qm rfl ?_)))))))
   refine Dc 20 h rfl (fun h => ?_) fun h => ?_
   ·refine qf DK rfl (ql A8 rfl (BH rfl (qm rfl ?_)))
    refine Dc 24 h rfl (fun h => ?_) fun h => ?_
    ·refine qw 9 rfl (qp rfl (qp rfl (qa rfl (AJ (by kernel_rfl) ?_))))
     exact sn [] h
    ·refine qf HB rfl (ql A8 rfl (qf Bx rfl (ql Bi rfl (qf Db rfl (ql A8 rfl ?_)))))
     refine BY h fun v5 a5 b5 h => qi AF CQ a5 (Aj b5) rfl (qk A8 rfl (A9 rfl (qp rfl (qp rfl (qa rfl (AJ (by kernel_rfl) ?_))))))
     exact sn [] h
   ·refine qw 4 rfl (qu rfl (qu rfl (qu rfl (qu rfl (qu rfl (qu rfl (qu rfl (qu rfl (qu rfl (qn rfl (qp rfl (qa rfl (AJ (by kernel_rfl) ?_)))))))))))))
    exact sn [] h
  ·obtain rfl := sj h
   refine Ah (sm [] [(4, bD v2)] [] rfl rfl) (As ?_)
   exact ⟨⟨[_], tm, rfl⟩, tv⟩
theorem MT (N : Nat) (p0 : AA) (r : Bool) (h : F4 N p0 = some r) : Au zA 197 [.e (.agg (BJ p0))] [] (bD r) := by
 unfold F4 at h
 refine cw (n := 11) (rs := [.tmp 2]) Tryz.func197 fun w0 S0 => ?_
 refine wq rfl (qb rfl (qe rfl ?_))
 refine AI h (fun v1 => mk [(2, bD v1)] []) (fun j1 h => ?_) (fun v1 h => ?_)
 ·refine Ai Aw rfl (qf Fi rfl (ql A8 rfl (AN rfl (qm rfl ?_))))
  refine Dc 6 h rfl (fun h => ?_) fun h => ?_
  ·refine qw 3 rfl (qp rfl (qe rfl ?_))
   exact sn [] h
  ·refine qf Fi rfl (ql A8 rfl (AN rfl (qp rfl (qe rfl ?_))))
   exact sn [] h
 ·obtain rfl := sj h
  refine Ah (sm [] [(2, bD v1)] [] rfl rfl) (As ?_)
  exact ⟨⟨[_], tm, rfl⟩, tv⟩
theorem SJ (N : Nat) (p0 : Aa) (p1 : Ab) (p2 : Ae) (r : Bool × (List Int) × (List Int)) (h : IH N p0 p1 p2 = some r) : E8 zA 192 [.e (.agg (Ag p0)), oD (.ptr 90000 0), .e (.agg (Dd p2))] [(.box [.own 90001, .own 90002, .own 90003], .box [.own 90001, .own 90002, .own 90003]), (.vec 1 (p1.gI.map Aq), .vec 1 (p1.gI.map Aq)), (.vec 1 (p1.gF.map Aq), .vec 1 (r.2.1.map Aq)), (.vec 1 (p1.gG.map Cy), .vec 1 (r.2.2.map Cy))] [] (bD r.1) := by
 unfold IH at h
 refine EY (n := 70) (rs := [.tmp 6]) Tryz.func192 rfl rfl rfl (Jd rfl) (Jd rfl) rfl rfl (Jd rfl) rfl (Jd rfl) fun w0 S0 GL => ?_
 refine Ah (sm [] [(0, .e (.agg (Ag p0))), (1, oD (.ptr 90000 0)), (2, .e (.agg (Dd p2)))] [(90000, .box [.own 90001, .own 90002, .own 90003]), (90001, .vec 1 (p1.gI.map Aq)), (90002, .vec 1 (p1.gF.map Aq)), (90003, .vec 1 (p1.gG.map Cy))] rfl rfl) (wq rfl (qb rfl (qb rfl (qa rfl (Ac (A5 ?_))))))
 refine AI h (fun v1 => mk [(1, oD (.ptr 90000 0)), (3, oD (.ptr 3 0)), (5, oD (.ptr 5 0)), (30, bD v1)] [(3, .box (Ag p0)), (5, .box (Dd p2)), (90000, .box [.own 90001, .own 90002, .own 90003]), (90001, .vec 1 (p1.gI.map Aq)), (90002, .vec 1 (p1.gF.map Aq)), (90003, .vec 1 (p1.gG.map Cy))]) (fun j1 h => ?_) (fun v1 h => ?_)
 ·refine Ai Aw rfl (qm rfl (KK rfl (qf BU rfl (ql Bi rfl (qf Db rfl (ql A8 rfl ?_))))))
  refine BY h fun v2 a2 b2 h => qI AF CQ a2 (Aj b2) rfl (qj A8 (Aj b2) rfl (Eh rfl (qm rfl ?_)))
  refine Dc 18 h rfl (fun h => ?_) fun h => ?_
  ·refine qw 11 rfl (qp rfl (AJ (by kernel_rfl) ?_))
   exact sn [] h
  ·refine qm rfl (KK rfl (qf Dj rfl (ql Bi rfl (qf Db rfl (ql A8 rfl ?_)))))
   refine BY h fun v4 a4 b4 h => qI AF CQ a4 (Aj b4) rfl (qj A8 (Aj b4) rfl (qf HB rfl (ql A8 rfl (AN rfl (qp rfl (AJ (by kernel_rfl) ?_))))))
   exact sn [] h
 ·refine Bb h (fun h => ?_) fun h => ?_
  ·refine wq rfl (qe rfl ?_)
   obtain rfl := sj h
   refine Ah (sm [] [(6, bD false)] [(90000, .box [.own 90001, .own 90002, .own 90003]), (90001, .vec 1 (p1.gI.map Aq)), (90002, .vec 1 (p1.gF.map Aq)), (90003, .vec 1 (p1.gG.map Cy))] rfl rfl) (As ?_)
   exact ⟨⟨[_], tm, rfl⟩, ⟨rfl, rfl, rfl, rfl, tv⟩, tv⟩
  ·refine Al (wq rfl (qm rfl (KK rfl (qf BU rfl (ql Bi rfl (qf Db rfl (ql A8 rfl (qf HB rfl (ql A8 rfl ?_)))))))))
   refine BY h fun v6 a6 b6 h => qI AF CQ a6 (Aj b6) rfl ?_
   refine FE rfl rfl rfl rfl (Aj b6) rfl CQ rfl (Jd rfl) (FL Aq p1.gF _ p2.gV) ?_
   refine AJ (by kernel_rfl) (wp rfl (qf CS rfl (ql Hy rfl (AU Ev rfl (qm rfl (Ac ?_))))))
   refine AY (L := D8 N p0 p2) h (fun v7 => mk [(1, oD (.ptr 90000 0)), (5, oD (.ptr 5 0)), (41, pD (.sl (p0.gJ.map Bs))), (42, iD ((p0.gJ.length : Int))), (43, iD v7.2)] [(5, .box (Dd p2)), (90000, .box [.own 90001, .own 90002, .own 90003]), (90001, .vec 1 (p1.gI.map Aq)), (90002, .vec 1 ((p1.gF.set ((p2.gL).toNat) p2.gV).map Aq)), (90003, .vec 1 (v7.1.map Cy))]) (fun v8 => mk [] [(90000, .box [.own 90001, .own 90002, .own 90003]), (90001, .vec 1 (p1.gI.map Aq)), (90002, .vec 1 ((p1.gF.set ((p2.gL).toNat) p2.gV).map Aq)), (90003, .vec 1 (v8.map Cy))]) (fun _ _ => rfl) (sm [] _ _ rfl rfl) (fun j7 n7 v7 h => ?_) (fun v8 s h hs => ?_)
   ·unfold D8 at h
    refine wq rfl (A9 rfl (Ac (A5 ?_)))
    refine Bb h (fun h => ?_) fun h => ?_
    ·refine Al ?_
     refine AI h (fun v10 => mk [(1, oD (.ptr 90000 0)), (5, oD (.ptr 5 0)), (41, pD (.sl (p0.gJ.map Bs))), (42, iD ((p0.gJ.length : Int))), (43, iD v7.2)] [(5, .box (Dd p2)), (90000, .box [.own 90001, .own 90002, .own 90003]), (90001, .vec 1 (p1.gI.map Aq)), (90002, .vec 1 ((p1.gF.set ((p2.gL).toNat) p2.gV).map Aq)), (90003, .vec 1 (v10.map Cy))]) (fun j10 h => ?_) (fun v10 h => ?_)
     ·refine AX (wq rfl (qm rfl ?_))
      refine BY h fun v11 a11 b11 h => qi Ev CG a11 (Aj b11) rfl (qK FK CG rfl (qz JD rfl (qa rfl (qs CG rfl (Ac ?_)))))
      refine AI h (fun v12 => mk [(1, oD (.ptr 90000 0)), (5, oD (.ptr 5 0)), (7, iD v7.2), (41, pD (.sl (p0.gJ.map Bs))), (42, iD ((p0.gJ.length : Int))), (43, iD v7.2), (56, bD v12)] [(5, .box (Dd p2)), (90000, .box [.own 90001, .own 90002, .own 90003]), (90001, .vec 1 (p1.gI.map Aq)), (90002, .vec 1 ((p1.gF.set ((p2.gL).toNat) p2.gV).map Aq)), (90003, .vec 1 (v7.1.map Cy))]) (fun j12 h => ?_) (fun v12 h => ?_)
      ·refine Ai Aw rfl (qf CB rfl (ql A8 rfl (qf Db rfl (ql A8 rfl (AN rfl (qm rfl ?_))))))
       refine Dc 53 h rfl (fun h => ?_) fun h => ?_
       ·refine qL FK CG rfl ?_
        refine BF h fun v14 a14 h => Av [] (MT N v11 v14 a14) aI rfl (qp rfl (Ac ?_))
        exact sn [] h
       ·refine qw 2 rfl (qp rfl (Ac ?_))
        exact sn [] h
      ·refine Bb h (fun h => ?_) fun h => ?_
       ·refine Ai Aw rfl (qm rfl (KK rfl (qf Dm rfl (ql Il rfl (qm rfl ?_)))))
        refine BY h fun v16 a16 b16 h => qI Ei EP a16 (Aj b16) rfl (qj IN (Aj b16) rfl (qf HB rfl (ql A8 rfl ?_)))
        refine GJ h fun c17 h => Kt rfl c17 (Yx rfl ?_)
        refine BY h fun v18 a18 b18 h => qI Ei EP a18 (Aj b18) rfl ?_
        refine FE rfl rfl rfl rfl (Aj b18) rfl EP rfl (Jd rfl) (FL Cy v7.1 _ ((Pb .u8 v16 ((EK .u8 1 p2.gV))))) ?_
        refine AJ (by kernel_rfl) ?_
        exact sn [] h
       ·refine Al ?_
        exact sn [] h
     ·refine Ai Aw rfl (Bp rfl (qm rfl (Ac ?_)))
      exact sn [] h
    ·refine Bh ?_
     exact sn [] h
   ·refine Ah hs (wq rfl (qe rfl ?_))
    obtain rfl := sj h
    refine Ah (sm [] [(6, bD true)] [(90000, .box [.own 90001, .own 90002, .own 90003]), (90001, .vec 1 (p1.gI.map Aq)), (90002, .vec 1 ((p1.gF.set ((p2.gL).toNat) p2.gV).map Aq)), (90003, .vec 1 (v8.map Cy))] rfl rfl) (As ?_)
    exact ⟨⟨[_], tm, rfl⟩, ⟨rfl, rfl, rfl, rfl, tv⟩, tv⟩
theorem Qb (N : Nat) (p0 : Ab) (p1 : Int) (r : Int) (h : GA N p0 p1 = some r) : Au zA 198 [.e (.agg (AH p0)), iD p1] [] (pD (.val (.int .u8 r))) := by
 unfold GA at h
 refine cw (n := 27) (rs := [.tmp 4]) Tryz.func198 fun w0 S0 => ?_
 refine wq rfl (qb rfl (qa rfl (Ac (wq rfl (qf Dj rfl (ql Bi rfl (qm rfl ?_)))))))
 refine BY h fun v1 a1 b1 h => qi AF CQ a1 (Aj b1) rfl (qk A8 rfl ?_)
 refine GJ h fun c2 h => Kt rfl c2 (qe rfl ?_)
 refine AI h (fun v3 => mk [(5, pD (.val (.int .u8 v3)))] []) (fun j3 h => ?_) (fun v3 h => ?_)
 ·refine wq rfl (qf BU rfl (ql Bi rfl (qm rfl ?_)))
  refine BY h fun v4 a4 b4 h => qi AF CQ a4 (Aj b4) rfl (qk A8 rfl (Eh rfl (Ac ?_)))
  refine Bb h (fun h => ?_) fun h => ?_
  ·refine Ai Aw rfl (qm rfl (qf BU rfl (ql Bi rfl (qm rfl ?_))))
   refine BY h fun v6 a6 b6 h => qi AF CQ a6 (Aj b6) rfl (qk A8 rfl ?_)
   refine GJ h fun c7 h => Kt rfl c7 (Yx rfl (qe rfl ?_))
   exact sn [] h
  ·refine Al ?_
   exact sn [] h
 ·refine wq rfl (qm rfl (qe rfl ?_))
  obtain rfl := sj h
  refine Ah (sm [] [(4, pD (.val (.int .u8 v3)))] [] rfl rfl) (As ?_)
  exact ⟨⟨[_], tm, rfl⟩, tv⟩
theorem JB (N : Nat) (p0 : Int) (r : Int) (h : Dl N p0 = some r) : Au zA 200 [pD (.val (.int .u8 p0))] [] (iD r) := by
 unfold Dl at h
 refine cw (n := 6) (rs := [.tmp 2]) Tryz.func200 fun w0 S0 => ?_
 refine wq rfl (qa rfl (Ac (wq rfl (qm rfl ?_))))
 refine BF h fun v1 a1 h => WL (.p rfl) rfl rfl Sx a1 ?_
 refine JN W7 Xt rfl (qe rfl ?_)
 obtain rfl := sj h
 refine Ah (sm [] [(2, iD ((wI .i64 v1)))] [] rfl rfl) (As ?_)
 exact ⟨⟨[_], tm, rfl⟩, tv⟩
theorem NC (N : Nat) (p0 : AA) (p1 : Int) (p2 : Int) (r : Bool) (h : Gm N p0 p1 p2 = some r) : Au zA 199 [.e (.agg (BJ p0)), pD (.val (.int .u8 p1)), iD p2] [] (bD r) := by
 unfold Gm at h
 refine cw (n := 25) (rs := [.tmp 6]) Tryz.func199 fun w0 S0 => ?_
 refine wq rfl (qb rfl (qa rfl (Ac (wp rfl (qm rfl (qe rfl ?_))))))
 refine AY (L := DP N p0 p2) h (fun v1 => mk [(2, iD p2), (3, oD (.ptr 3 0)), (7, pD (.val (.int .u8 v1)))] [(3, .box (BJ p0))]) (fun v2 => mk [] []) (fun _ _ => rfl) (sm [] _ _ rfl rfl) (fun j1 n1 v1 h => ?_) (fun v2 s h hs => ?_)
 ·unfold DP at h
  refine wp rfl (qm rfl (BH rfl (Ac ?_)))
  refine Bb h (fun h => ?_) fun h => ?_
  ·refine Al (A5 (AX (wq rfl (qf Gv rfl (ql In rfl (qm rfl ?_))))))
   refine BF h fun v4 a4 h => Av [] (JB N v1 v4 a4) eL rfl ?_
   refine BY h fun v5 a5 b5 h => qi FA Lf a5 (Aj b5) rfl (qk MK rfl (qm rfl ?_))
   refine BY h fun v6 a6 b6 h => qi Gl S6 a6 (Aj b6) rfl (qk Uw rfl (CL rfl (AJ (by kernel_rfl) ?_)))
   refine Bb h (fun h => ?_) fun h => ?_
   ·refine wq rfl (qe rfl ?_)
    obtain rfl := sj h
    refine Ah (sm [] [(6, bD false)] [] rfl rfl) (As ?_)
    exact ⟨⟨[_], tm, rfl⟩, tv⟩
   ·refine Al (Ai Aw rfl (qw 2 rfl (Kx rfl (RM rfl (qe rfl ?_)))))
    exact sn [] h
  ·refine Bh ?_
   exact sn [] h
 ·refine Ah hs (wq rfl (qe rfl ?_))
  obtain rfl := sj h
  refine Ah (sm [] [(6, bD true)] [] rfl rfl) (As ?_)
  exact ⟨⟨[_], tm, rfl⟩, tv⟩
theorem R3 (N : Nat) (p0 : Aa) (p1 : Ab) (p2 : Int) (r : Bool × (List Int)) (h : Hu N p0 p1 p2 = some r) : E8 zA 193 [.e (.agg (Ag p0)), oD (.ptr 90000 0), iD p2] [(.box [.own 90001, .own 90002, .own 90003], .box [.own 90001, .own 90002, .own 90003]), (.vec 1 (p1.gI.map Aq), .vec 1 (p1.gI.map Aq)), (.vec 1 (p1.gF.map Aq), .vec 1 (p1.gF.map Aq)), (.vec 1 (p1.gG.map Cy), .vec 1 (r.2.map Cy))] [] (bD r.1) := by
 unfold Hu at h
 refine EY (n := 68) (rs := [.tmp 6]) Tryz.func193 rfl rfl rfl (Jd rfl) (Jd rfl) rfl rfl (Jd rfl) rfl (Jd rfl) fun w0 S0 GL => ?_
 refine Ah (sm [] [(0, .e (.agg (Ag p0))), (1, oD (.ptr 90000 0)), (2, iD p2)] [(90000, .box [.own 90001, .own 90002, .own 90003]), (90001, .vec 1 (p1.gI.map Aq)), (90002, .vec 1 (p1.gF.map Aq)), (90003, .vec 1 (p1.gG.map Cy))] rfl rfl) (wq rfl (qb rfl (qa rfl (Ac (wq rfl (qf CS rfl (ql Hy rfl (qm rfl ?_))))))))
 refine BY h fun v1 a1 b1 h => qi Ev CG a1 (Aj b1) rfl (qK FK CG rfl (qz JD rfl (qs CG rfl (Ac (wp rfl (qL FK CG rfl ?_))))))
 refine BF h fun v2 a2 h => Av [] (MT N v1 v2 a2) aI rfl (CL rfl (Ac ?_))
 refine Bb h (fun h => ?_) fun h => ?_
 ·refine wq rfl (qe rfl ?_)
  obtain rfl := sj h
  refine Ah (sm [] [(6, bD false)] [(90000, .box [.own 90001, .own 90002, .own 90003]), (90001, .vec 1 (p1.gI.map Aq)), (90002, .vec 1 (p1.gF.map Aq)), (90003, .vec 1 (p1.gG.map Cy))] rfl rfl) (As ?_)
  exact ⟨⟨[_], tm, rfl⟩, ⟨rfl, rfl, rfl, rfl, tv⟩, tv⟩
 ·refine Al (wq rfl (qm rfl (KK rfl (qL Bf AQ rfl (qf CB rfl (ql A8 rfl ?_))))))
  refine BF h fun v4 a4 h => FN [] [90001, 90002, 90003] (Qb N p1 v1.gM v4 a4) dT Eb rfl (qa rfl (AJ (by kernel_rfl) (wq rfl (qm rfl (KK rfl (qf Dm rfl (ql Il rfl (qm rfl ?_))))))))
  refine BY h fun v5 a5 b5 h => qI Ei EP a5 (Aj b5) rfl (qj IN (Aj b5) rfl (qm rfl (Js rfl (qa rfl (Ac (A5 ?_))))))
  refine AI h (fun v6 => mk [(1, oD (.ptr 90000 0)), (2, iD p2), (8, pD (.val (.int .u8 v4))), (60, bD v6)] [(90000, .box [.own 90001, .own 90002, .own 90003]), (90001, .vec 1 (p1.gI.map Aq)), (90002, .vec 1 (p1.gF.map Aq)), (90003, .vec 1 (p1.gG.map Cy))]) (fun j6 h => ?_) (fun v6 h => ?_)
  ·refine Ai Aw rfl (qm rfl (KK rfl (qf Dm rfl (ql Il rfl (qm rfl ?_)))))
   refine BY h fun v7 a7 b7 h => qI Ei EP a7 (Aj b7) rfl (qj IN (Aj b7) rfl (qm rfl (AN rfl (qm rfl ?_))))
   refine Dc 42 h rfl (fun h => ?_) fun h => ?_
   ·refine qw 4 rfl (qu rfl (qu rfl (qu rfl (qu rfl (qu rfl (qu rfl (qu rfl (qu rfl (qu rfl (qu rfl (qu rfl (qu rfl (qn rfl (qp rfl (AJ (by kernel_rfl) ?_)))))))))))))))
    exact sn [] h
   ·refine qf Fi rfl (ql A8 rfl (AN rfl (qm rfl ?_)))
    refine Dc 46 h rfl (fun h => ?_) fun h => ?_
    ·refine qL FK CG rfl (qw 2 rfl (KK rfl (qf Dj rfl (ql Bi rfl (qf CB rfl (ql A8 rfl ?_))))))
     refine BY h fun v10 a10 b10 h => qI AF CQ a10 (Aj b10) rfl (qj A8 (Aj b10) rfl ?_)
     refine BF h fun v11 a11 h => Av [] (NC N v1 ((Dy .u8 v5 v4)) v10 v11 a11) dg rfl (CL rfl (qp rfl (qp rfl (AJ (by kernel_rfl) ?_))))
     exact sn [] h
    ·refine qw 12 rfl (qp rfl (qp rfl (AJ (by kernel_rfl) ?_)))
     exact sn [] h
  ·refine Bb h (fun h => ?_) fun h => ?_
   ·refine wq rfl (qe rfl ?_)
    obtain rfl := sj h
    refine Ah (sm [] [(6, bD false)] [(90000, .box [.own 90001, .own 90002, .own 90003]), (90001, .vec 1 (p1.gI.map Aq)), (90002, .vec 1 (p1.gF.map Aq)), (90003, .vec 1 (p1.gG.map Cy))] rfl rfl) (As ?_)
    exact ⟨⟨[_], tm, rfl⟩, ⟨rfl, rfl, rfl, rfl, tv⟩, tv⟩
   ·refine Al (wq rfl (qm rfl (KK rfl (qf Dm rfl (ql Il rfl (qw 2 rfl ?_))))))
    refine BY h fun v13 a13 b13 h => qI Ei EP a13 (Aj b13) rfl ?_
    refine FE rfl rfl rfl rfl (Aj b13) rfl EP rfl (Jd rfl) (FL Cy p1.gG _ v4) ?_
    refine Ac (wq rfl (qe rfl ?_))
    obtain rfl := sj h
    refine Ah (sm [] [(6, bD true)] [(90000, .box [.own 90001, .own 90002, .own 90003]), (90001, .vec 1 (p1.gI.map Aq)), (90002, .vec 1 (p1.gF.map Aq)), (90003, .vec 1 ((p1.gG.set ((p2).toNat) v4).map Cy))] rfl rfl) (As ?_)
    exact ⟨⟨[_], tm, rfl⟩, ⟨rfl, rfl, rfl, rfl, tv⟩, tv⟩
theorem SR (N : Nat) (p0 : Aa) (p1 : Ab) (p2 : Ae) (r : Ab × Bool) (h : Hz N p0 p1 p2 = some r) : Au zA 180 [.e (.agg (Ag p0)), .e (.agg (AH p1)), .e (.agg (Dd p2))] [(1, r.1.gI.map Aq), (1, r.1.gF.map Aq), (1, r.1.gG.map Cy)] (.tup [.agg [.own 0, .own 1, .own 2], .one (.pure (.val (.bool r.2)))]) := by
 unfold Hz at h
 refine cw (n := 51) (rs := [.cell 6 40, .tmp 7]) Tryz.func180 fun w0 S0 => ?_
 refine wq rfl (qb rfl (qb rfl (qb rfl (qz CM rfl (qa rfl (Ac (wq rfl (qL Bf AQ rfl ?_))))))))
 refine BF h fun v1 a1 h => Av [2001, 2002, 2003] (MP N p1 v1 a1) aU rfl (qz CM rfl (qs AQ rfl (Ac (wp rfl (qf DK rfl (ql A8 rfl (Ac (AX (wq rfl (AN rfl (qe rfl ?_)))))))))))
 refine Bb h (fun h => ?_) fun h => ?_
 ·refine wq rfl (qL Bf AQ rfl (qL BZ BB rfl (qL IE Ea rfl ?_)))
  refine BF h fun v3 a3 h => HC (ds0 := [_, _, _]) [8, 2001, 2002, 2003] [] [false, false, true, true] (SJ N p0 v1 p2 v3 a3) (.p rfl) fm rfl ⟨rfl, rfl, rfl, tv⟩ rfl rfl (Ge rfl) ⟨rfl, rfl, rfl, rfl, tv⟩ rfl (EA rfl) tv ⟨(fun _ => rfl), (fun _ => rfl), (fun h => by cases h), (fun h => by cases h), tv⟩ rfl rfl rfl ?_
  refine qs AQ rfl (qa rfl (AJ (by kernel_rfl) ?_))
  obtain rfl := sj h
  refine Ah (sm [(1000, 2001), (1001, 2002), (1002, 2003)] [(6, oD (.ptr 6 0)), (7, bD v3.1)] [(6, .box [.own 1000, .own 1001, .own 1002]), (1000, .vec 1 (v1.gI.map Aq)), (1001, .vec 1 (v3.2.1.map Aq)), (1002, .vec 1 (v3.2.2.map Cy))] rfl rfl) (As ?_)
  exact ⟨⟨[_, _], ⟨.cellN _ _ _ _ _ _ _ rfl rfl Bf AQ rfl rfl (E1 rfl), tm⟩, rfl⟩, ⟨rfl, rfl, rfl, tv⟩⟩
 ·refine wq rfl (AN rfl (qe rfl ?_))
  refine Bb h (fun h => ?_) fun h => ?_
  ·refine wq rfl (qL Bf AQ rfl (qL BZ BB rfl (qf Db rfl (ql A8 rfl ?_))))
   refine BF h fun v5 a5 h => HC (ds0 := [_, _, _]) [8, 2001, 2002, 2003] [] [false, false, false, true] (R3 N p0 v1 p2.gL v5 a5) (.p rfl) dS rfl ⟨rfl, rfl, rfl, tv⟩ rfl rfl (Ge rfl) ⟨rfl, rfl, rfl, rfl, tv⟩ rfl (EA rfl) tv ⟨(fun _ => rfl), (fun _ => rfl), (fun _ => rfl), (fun h => by cases h), tv⟩ rfl rfl rfl ?_
   refine qs AQ rfl (qa rfl (AJ (by kernel_rfl) ?_))
   obtain rfl := sj h
   refine Ah (sm [(1000, 2001), (1001, 2002), (1002, 2003)] [(6, oD (.ptr 6 0)), (7, bD v5.1)] [(6, .box [.own 1000, .own 1001, .own 1002]), (1000, .vec 1 (v1.gI.map Aq)), (1001, .vec 1 (v1.gF.map Aq)), (1002, .vec 1 (v5.2.map Cy))] rfl rfl) (As ?_)
   exact ⟨⟨[_, _], ⟨.cellN _ _ _ _ _ _ _ rfl rfl Bf AQ rfl rfl (E1 rfl), tm⟩, rfl⟩, ⟨rfl, rfl, rfl, tv⟩⟩
  ·refine Al (wq rfl (qf BU rfl (ql Bi rfl (qf Db rfl (ql A8 rfl ?_)))))
   refine BY h fun v6 a6 b6 h => qI AF CQ a6 (Aj b6) rfl (qj A8 (Aj b6) rfl (qa rfl (Ac (wp rfl (qm rfl (A9 rfl (Ac ?_)))))))
   refine Bb h (fun h => ?_) fun h => ?_
   ·refine wq rfl (qL Bf AQ rfl (qs AQ rfl (qe rfl ?_)))
    obtain rfl := sj h
    refine Ah (sm [(1000, 2001), (1001, 2002), (1002, 2003)] [(6, oD (.ptr 6 0)), (7, bD false)] [(6, .box [.own 1000, .own 1001, .own 1002]), (1000, .vec 1 (v1.gI.map Aq)), (1001, .vec 1 (v1.gF.map Aq)), (1002, .vec 1 (v1.gG.map Cy))] rfl rfl) (As ?_)
    exact ⟨⟨[_, _], ⟨.cellN _ _ _ _ _ _ _ rfl rfl Bf AQ rfl rfl (E1 rfl), tm⟩, rfl⟩, ⟨rfl, rfl, rfl, tv⟩⟩
   ·refine Al (wq rfl (qf BU rfl (ql Bi rfl (qf Db rfl (ql A8 rfl ?_)))))
    refine BY h fun v8 a8 b8 h => qI AF CQ a8 (Aj b8) rfl ?_
    refine FE rfl rfl rfl rfl (Aj b8) rfl CQ rfl (Jd rfl) (FL Aq v1.gF _ ((-1))) ?_
    refine Ac ?_
    refine AI h (fun v9 => mk [(6, oD (.ptr 6 0)), (8, oD (.ptr 8 0))] [(6, .box [.pure (.nil0), .pure (.nil0), .pure (.nil0)]), (8, .box [.own 2004, .own 2005, .own 2006]), (2004, .vec 1 (v9.map Aq)), (2005, .vec 1 ((v1.gF.set ((p2.gL).toNat) ((-1))).map Aq)), (2006, .vec 1 (v1.gG.map Cy))]) (fun j9 h => ?_) (fun v9 h => ?_)
    ·refine wq rfl (qf DK rfl (ql A8 rfl (AN rfl (Ac ?_))))
     refine Bb h (fun h => ?_) fun h => ?_
     ·refine Ai Aw rfl (qf Dj rfl (ql Bi rfl (qf Db rfl (ql A8 rfl (qm rfl ?_)))))
      refine BY h fun v11 a11 b11 h => qI AF CQ a11 (Aj b11) rfl ?_
      refine FE rfl rfl rfl rfl (Aj b11) rfl CQ rfl (Jd rfl) (FL Aq v1.gI _ v6) ?_
      refine Ac ?_
      exact sn [(2004, 2001), (2005, 2002), (2006, 2003)] h
     ·refine Al ?_
      exact sn [(2004, 2001), (2005, 2002), (2006, 2003)] h
    ·refine wq rfl (qL Bf AQ rfl (qs AQ rfl (qe rfl ?_)))
     obtain rfl := sj h
     refine Ah (sm [(1000, 2004), (1001, 2005), (1002, 2006)] [(6, oD (.ptr 6 0)), (7, bD true)] [(6, .box [.own 1000, .own 1001, .own 1002]), (1000, .vec 1 (v9.map Aq)), (1001, .vec 1 ((v1.gF.set ((p2.gL).toNat) ((-1))).map Aq)), (1002, .vec 1 (v1.gG.map Cy))] rfl rfl) (As ?_)
     exact ⟨⟨[_, _], ⟨.cellN _ _ _ _ _ _ _ rfl rfl Bf AQ rfl rfl (E1 rfl), tm⟩, rfl⟩, ⟨rfl, rfl, rfl, tv⟩⟩
theorem NZ (N : Nat) (p0 : Aa) (p1 : Ab) (p2 : Ae) (r : Ab × Int) (h : GC N p0 p1 p2 = some r) : Au zA 154 [.e (.agg (Ag p0)), .e (.agg (AH p1)), .e (.agg (Dd p2))] [(1, r.1.gI.map Aq), (1, r.1.gF.map Aq), (1, r.1.gG.map Cy)] (.tup [.agg [.own 0, .own 1, .own 2], .one (iC r.2)]) := by
 unfold GC at h
 refine cw (n := 32) (rs := [.cell 6 40, .tmp 7]) Tryz.func154 fun w0 S0 => ?_
 refine wq rfl (qb rfl (qb rfl (qb rfl (qz CM rfl (qa rfl (Ac (A5 (AX (wq rfl (qL IE Ea rfl ?_))))))))))
 refine BF h fun v1 a1 h => Av [] (SN N p2 v1 a1) dZ rfl (CL rfl (qe rfl ?_))
 refine Bb h (fun h => ?_) fun h => ?_
 ·refine wq rfl (AS CM G1 rfl (qs AQ rfl (qe rfl ?_)))
  obtain rfl := sj h
  refine Ah ((Ay 6 0 2001 1 _ rfl rfl rfl rfl).trans ((Ay 6 1 2002 1 _ rfl rfl rfl rfl).trans ((Ay 6 2 2003 1 _ rfl rfl rfl rfl).trans (sm [(1000, 2001), (1001, 2002), (1002, 2003)] [(6, oD (.ptr 6 0)), (7, iD 1)] [(6, .box [.own 1000, .own 1001, .own 1002]), (1000, .vec 1 ((([] : List Int)).map Aq)), (1001, .vec 1 ((([] : List Int)).map Aq)), (1002, .vec 1 ((([] : List Int)).map Cy))] rfl rfl)))) (As ?_)
  exact ⟨⟨[_, _], ⟨.cellN _ _ _ _ _ _ _ rfl rfl Bf AQ rfl rfl (E1 rfl), tm⟩, rfl⟩, ⟨rfl, rfl, rfl, tv⟩⟩
 ·refine wq rfl (qL BZ BB rfl (qL IE Ea rfl ?_))
  refine BF h fun v3 a3 h => Av [] (QW N p0 p2 v3 a3) dz rfl (CL rfl (qe rfl ?_))
  refine Bb h (fun h => ?_) fun h => ?_
  ·refine wq rfl (AS CM G1 rfl (qs AQ rfl (qe rfl ?_)))
   obtain rfl := sj h
   refine Ah ((Ay 6 0 2004 1 _ rfl rfl rfl rfl).trans ((Ay 6 1 2005 1 _ rfl rfl rfl rfl).trans ((Ay 6 2 2006 1 _ rfl rfl rfl rfl).trans (sm [(1000, 2004), (1001, 2005), (1002, 2006)] [(6, oD (.ptr 6 0)), (7, iD 4)] [(6, .box [.own 1000, .own 1001, .own 1002]), (1000, .vec 1 ((([] : List Int)).map Aq)), (1001, .vec 1 ((([] : List Int)).map Aq)), (1002, .vec 1 ((([] : List Int)).map Cy))] rfl rfl)))) (As ?_)
   exact ⟨⟨[_, _], ⟨.cellN _ _ _ _ _ _ _ rfl rfl Bf AQ rfl rfl (E1 rfl), tm⟩, rfl⟩, ⟨rfl, rfl, rfl, tv⟩⟩
  ·refine Al (wq rfl (qL BZ BB rfl (qL Bf AQ rfl (qL IE Ea rfl ?_))))
   refine BF h fun v5 a5 h => Av [2007, 2008, 2009] (SR N p0 p1 p2 v5 a5) dw rfl (qm rfl (qx rfl (qx rfl (qz CM rfl (qs AQ rfl (qa rfl (Ac (wp rfl (qm rfl (CL rfl (Ac ?_)))))))))))
   refine Bb h (fun h => ?_) fun h => ?_
   ·refine wq rfl (AS CM G1 rfl (qs AQ rfl (qe rfl ?_)))
    obtain rfl := sj h
    refine Ah ((Ay 6 0 2010 1 _ rfl rfl rfl rfl).trans ((Ay 6 1 2011 1 _ rfl rfl rfl rfl).trans ((Ay 6 2 2012 1 _ rfl rfl rfl rfl).trans (sm [(1000, 2010), (1001, 2011), (1002, 2012)] [(6, oD (.ptr 6 0)), (7, iD 11)] [(6, .box [.own 1000, .own 1001, .own 1002]), (1000, .vec 1 ((([] : List Int)).map Aq)), (1001, .vec 1 ((([] : List Int)).map Aq)), (1002, .vec 1 ((([] : List Int)).map Cy))] rfl rfl)))) (As ?_)
    exact ⟨⟨[_, _], ⟨.cellN _ _ _ _ _ _ _ rfl rfl Bf AQ rfl rfl (E1 rfl), tm⟩, rfl⟩, ⟨rfl, rfl, rfl, tv⟩⟩
   ·refine Al (wq rfl (qL Bf AQ rfl (qs AQ rfl (qe rfl ?_))))
    obtain rfl := sj h
    refine Ah (sm [(1000, 2007), (1001, 2008), (1002, 2009)] [(6, oD (.ptr 6 0)), (7, iD 0)] [(6, .box [.own 1000, .own 1001, .own 1002]), (1000, .vec 1 (v5.1.gI.map Aq)), (1001, .vec 1 (v5.1.gF.map Aq)), (1002, .vec 1 (v5.1.gG.map Cy))] rfl rfl) (As ?_)
    exact ⟨⟨[_, _], ⟨.cellN _ _ _ _ _ _ _ rfl rfl Bf AQ rfl rfl (E1 rfl), tm⟩, rfl⟩, ⟨rfl, rfl, rfl, tv⟩⟩
theorem UL (N : Nat) (p0 : Aa) (p1 : Ab) (p2 : List Ae) (r : (List Ab) × Int × Int) (h : IQ N p0 p1 p2 = some r) : Au zA 113 [.e (.agg (Ag p0)), .e (.agg (AH p1)), pD (.sl (p2.map Ax))] [(3, r.1.map CZ)] (.tup [.one (.own 0), .one (iC r.2.1), .one (iC r.2.2)]) := by
 unfold IQ at h
 refine cw (n := 53) (rs := [.tmp 6, .tmp 7, .tmp 8]) Tryz.func113 fun w0 S0 => ?_
 refine wq rfl (qb rfl (qb rfl (qa rfl (qa rfl (qa rfl (Ac (wp rfl (qL BZ BB rfl (qL Bf AQ rfl ?_)))))))))
 refine BF h fun v1 a1 h => Av [] (OV N p0 p1 v1 a1) aX rfl (qa rfl (Ac (wq rfl (qm rfl (BH rfl (Ac ?_))))))
 refine Bb h (fun h => ?_) fun h => ?_
 ·refine wq rfl (qm rfl (qa rfl (qa rfl (qe rfl ?_))))
  obtain rfl := sj h
  refine Ah ((Bl 6 2001 3 rfl rfl rfl).trans (sm [(1000, 2001)] [(6, oD (.own 1000)), (7, iD 0), (8, iD v1)] [(1000, .vec 3 ((([] : List Ab)).map CZ))] rfl rfl)) (As ?_)
  exact ⟨⟨[_, _, _], ⟨.tmp _ _ rfl, ⟨.tmp _ _ rfl, tm⟩⟩, rfl⟩, ⟨rfl, tv⟩⟩
 ·refine Al (wq rfl (qL Bf AQ rfl ?_))
  refine BF h fun v3 a3 h => Av [2002, 2003, 2004] (MP N p1 v3 a3) aU rfl (FO (AV 2002 _ _ rfl rfl) (FO (AV 2003 _ _ rfl rfl) (FO (AV 2004 _ _ rfl rfl) (EB FV AQ CM rfl (qa rfl (Ac (wp rfl (qm rfl (AU DB rfl (qm rfl (Ac ?_)))))))))))
  refine AY (L := Gd N p0 p2) h (fun v4 => mk [(2, pD (.sl (p2.map Ax))), (3, oD (.ptr 3 0)), (10, oD (.own 2005)), (24, pD (.sl (p2.map Ax))), (25, iD ((p2.length : Int))), (26, iD v4.2)] [(3, .box (Ag p0)), (2005, .vec 3 (v4.1.map CZ))]) (fun v5 => mk [(2, pD (.sl (p2.map Ax))), (10, oD (.own 2006))] [(2006, .vec 3 (v5.map CZ))]) (fun _ _ => rfl) (sm [(2005, 23)] _ _ rfl rfl) (fun j4 n4 v4 h => ?_) (fun v5 s h hs => ?_)
  ·unfold Gd at h
   refine wq rfl (A9 rfl (Ac (A5 ?_)))
   refine Bb h (fun h => ?_) fun h => ?_
   ·refine Al (A5 (AX (wq rfl (qm rfl ?_))))
    refine BY h fun v7 a7 b7 h => qi DB Ea a7 (Aj b7) rfl (qK IE Ea rfl (qz KU rfl (qa rfl (qs Ea rfl (Ac (wq rfl (qL BZ BB rfl (qw 2 rfl ?_))))))))
    refine BY h fun v8 a8 b8 h => qI FV AQ a8 (Aj b8) rfl (qJ Bf AQ (Aj b8) rfl (qL IE Ea rfl ?_))
    refine BF h fun v9 a9 h => Av [2007, 2008, 2009] (NZ N p0 v8 v7 v9 a9) bu rfl (qm rfl (qx rfl (qx rfl (qz CM rfl (qs AQ rfl (qa rfl (AJ (by kernel_rfl) (wp rfl (qm rfl (BH rfl (Ac ?_)))))))))))
    refine Bb h (fun h => ?_) fun h => ?_
    ·refine wq rfl (qw 2 rfl (qa rfl (qa rfl (qe rfl ?_))))
     obtain rfl := sj h
     refine Ah ((Bl 6 2010 3 rfl rfl rfl).trans (sm [(1000, 2010)] [(6, oD (.own 1000)), (7, iD v4.2), (8, iD v9.2)] [(1000, .vec 3 ((([] : List Ab)).map CZ))] rfl rfl)) (As ?_)
     exact ⟨⟨[_, _, _], ⟨.tmp _ _ rfl, ⟨.tmp _ _ rfl, tm⟩⟩, rfl⟩, ⟨rfl, tv⟩⟩
    ·refine Al (Ai Aw rfl (qm rfl (qL Bf AQ rfl (FO (AV 2007 _ _ rfl rfl) (FO (AV 2008 _ _ rfl rfl) (FO (AV 2009 _ _ rfl rfl) (EB FV AQ CM rfl ?_)))))))
     refine GJ h fun c11 h => EL (f := CZ) FV FV AQ YL CM c11 rfl (qa rfl (Ac (Ai Aw rfl (Bp rfl (qm rfl (Ac ?_))))))
     exact sn [(2005, 48)] h
   ·refine Bh ?_
    exact sn [(2006, 2005)] h
  ·refine Ah hs (wq rfl (qw 2 rfl (AU DB rfl (qa rfl (qa rfl (qe rfl ?_))))))
   obtain rfl := sj h
   refine Ah (sm [(1000, 2006)] [(6, oD (.own 1000)), (7, iD ((p2.length : Int))), (8, iD 0)] [(1000, .vec 3 (v5.map CZ))] rfl rfl) (As ?_)
   exact ⟨⟨[_, _, _], ⟨.tmp _ _ rfl, ⟨.tmp _ _ rfl, tm⟩⟩, rfl⟩, ⟨rfl, tv⟩⟩
theorem Kc (N : Nat) (p0 : Aa) (p1 : List Ae) (r : Ab × Int) (h : EN N p0 p1 = some r) : Au zA 72 [.e (.agg (Ag p0)), pD (.sl (p1.map Ax))] [] (.tup [.agg (AH r.1), .one (iC r.2)]) := by
 unfold EN at h
 refine cw (n := 30) (rs := [.cell 4 40, .tmp 5]) Tryz.func72 fun w0 S0 => ?_
 refine wq rfl (qb rfl (qz CM rfl (qa rfl (Ac (wp rfl (qm rfl ?_))))))
 refine BF h fun v1 a1 h => Av [] (Au.weak (ds' := [pD (.sl (p1.map Ax)), oD (.fnc 111)]) (GT N p1 ((fun (x : Ae) => E3 N x)) v1 a1) ⟨(fun _ _ _ hh => hh), (fun _ _ _ hh => Sv eR (fun ar t ht => by obtain ⟨x, r, rfl, hq, rfl⟩ := Mp ht; exact Mz N x r hq) hh), tv⟩) dh rfl ?_
 refine Ac ?_
 refine Bb h (fun h => ?_) fun h => ?_
 ·refine wq rfl (AS CM G1 rfl (qs AQ rfl (qe rfl ?_)))
  obtain rfl := sj h
  refine Ah ((D4 4 _ rfl).trans (sm [] [(4, oD (.ptr 4 0)), (5, iD 1)] [(4, .box [sC ((([] : List Int)).map Aq), sC ((([] : List Int)).map Aq), sC ((([] : List Int)).map Cy)])] rfl rfl)) (As ?_)
  exact ⟨⟨[_, _], ⟨.cellN _ _ _ _ _ _ _ rfl rfl Bf AQ rfl rfl (E1 rfl), tm⟩, rfl⟩, tv⟩
 ·refine Al (wq rfl (qL BZ BB rfl ?_))
  refine BF h fun v3 a3 h => Av [2001, 2002, 2003] (Ub N p0 v3 a3) dP rfl (qm rfl (qx rfl (qx rfl (qz CM rfl (qs AQ rfl (qa rfl (Ac (wp rfl (qm rfl (BH rfl (Ac ?_)))))))))))
  refine Bb h (fun h => ?_) fun h => ?_
  ·refine wq rfl (AS CM G1 rfl (qm rfl (qs AQ rfl (qe rfl ?_))))
   obtain rfl := sj h
   refine Ah ((D4 4 _ rfl).trans (sm [] [(4, oD (.ptr 4 0)), (5, iD v3.2)] [(4, .box [sC ((([] : List Int)).map Aq), sC ((([] : List Int)).map Aq), sC ((([] : List Int)).map Cy)])] rfl rfl)) (As ?_)
   exact ⟨⟨[_, _], ⟨.cellN _ _ _ _ _ _ _ rfl rfl Bf AQ rfl rfl (E1 rfl), tm⟩, rfl⟩, tv⟩
  ·refine Al (wq rfl (qL BZ BB rfl (qL Bf AQ rfl (qm rfl (FO (AV 2001 _ _ rfl rfl) (FO (AV 2002 _ _ rfl rfl) (FO (AV 2003 _ _ rfl rfl) ?_)))))))
   refine BF h fun v5 a5 h => Av [2004] (UL N p0 v3.1 p1 v5 a5) fu rfl (qm rfl (qx rfl (qx rfl (qx rfl (qa rfl (Ac (wq rfl (qL Bf AQ rfl (qm rfl (qs AQ rfl (qe rfl ?_)))))))))))
   obtain rfl := sj h
   refine Ah (sm [] [(4, oD (.ptr 4 0)), (5, iD v5.2.2)] [(4, .box (AH v3.1))] rfl rfl) (As ?_)
   exact ⟨⟨[_, _], ⟨.cellN _ _ _ _ _ _ _ rfl rfl Bf AQ rfl rfl (E1 rfl), tm⟩, rfl⟩, tv⟩
theorem Nz (N : Nat) (p0 : Int) (r : ByteArray) (h : GF N p0 = some r) : Au zA 119 [iD p0] [] (pD (.val (.string r))) := by
 unfold GF at h
 refine cw (n := 14) (rs := [.tmp 2]) Tryz.func119 fun w0 S0 => ?_
 refine wq rfl (qa rfl (Ac (wq rfl ?_)))
 refine Yj [(1, .const (.string ⟨#[114, 101, 97, 100]⟩), _), (2, .const (.string ⟨#[98, 101, 103, 105, 110]⟩), _), (3, .const (.string ⟨#[100, 111, 110, 101]⟩), _), (4, .const (.string ⟨#[97, 98, 111, 114, 116]⟩), _), (5, .const (.string ⟨#[114, 101, 115, 117, 109, 101]⟩), _), (6, .const (.string ⟨#[115, 119, 105, 116, 99, 104]⟩), _), (7, .const (.string ⟨#[108, 101, 97, 115, 101]⟩), _)] (.p rfl) rfl ⟨rfl, rfl, rfl, rfl, rfl, rfl, rfl, tv⟩ aJ rfl rfl WY fw rfl ?_
 refine qz aJ rfl (qs eP rfl (Ac (A5 ?_)))
 refine AI h (fun v1 => mk [(0, iD p0), (3, oD (.ptr 3 0)), (10, bD v1)] [(3, .box [.pure (.val (.string (⟨#[]⟩))), .pure (.val (.string ((⟨#[114, 101, 97, 100]⟩ : ByteArray)))), .pure (.val (.string ((⟨#[98, 101, 103, 105, 110]⟩ : ByteArray)))), .pure (.val (.string ((⟨#[100, 111, 110, 101]⟩ : ByteArray)))), .pure (.val (.string ((⟨#[97, 98, 111, 114, 116]⟩ : ByteArray)))), .pure (.val (.string ((⟨#[114, 101, 115, 117, 109, 101]⟩ : ByteArray)))), .pure (.val (.string ((⟨#[115, 119, 105, 116, 99, 104]⟩ : ByteArray)))), .pure (.val (.string ((⟨#[108, 101, 97, 115, 101]⟩ : ByteArray))))])]) (fun j1 h => ?_) (fun v1 h => ?_)
 ·refine Ai Aw rfl (qm rfl (A9 rfl (qm rfl ?_)))
  refine Dc 7 h rfl (fun h => ?_) fun h => ?_
  ·refine qw 2 rfl (qp rfl (Ac ?_))
   exact sn [] h
  ·refine qm rfl (Eh rfl (qp rfl (Ac ?_)))
   exact sn [] h
 ·refine Bb h (fun h => ?_) fun h => ?_
  ·refine wq rfl (qe rfl ?_)
   obtain rfl := sj h
   refine Ah (sm [] [(2, pD (.val (.string ((⟨#[]⟩ : ByteArray)))))] [] rfl rfl) (As ?_)
   exact ⟨⟨[_], tm, rfl⟩, tv⟩
  ·refine Al (wq rfl (qm rfl (FO (Lu 3 [.val (.string (⟨#[]⟩)), .val (.string ((⟨#[114, 101, 97, 100]⟩ : ByteArray))), .val (.string ((⟨#[98, 101, 103, 105, 110]⟩ : ByteArray))), .val (.string ((⟨#[100, 111, 110, 101]⟩ : ByteArray))), .val (.string ((⟨#[97, 98, 111, 114, 116]⟩ : ByteArray))), .val (.string ((⟨#[114, 101, 115, 117, 109, 101]⟩ : ByteArray))), .val (.string ((⟨#[115, 119, 105, 116, 99, 104]⟩ : ByteArray))), .val (.string ((⟨#[108, 101, 97, 115, 101]⟩ : ByteArray)))] rfl rfl) ?_)))
   refine BY h fun v4 a4 b4 h => Yp (.p rfl) rfl rfl WY fw rfl a4 (Aj (f := fun q : ByteArray => T.val (.string q)) b4) ?_
   refine qk gu rfl (qe rfl ?_)
   obtain rfl := sj h
   refine Ah (sm [] [(2, pD (.val (.string v4)))] [] rfl rfl) (As ?_)
   exact ⟨⟨[_], tm, rfl⟩, tv⟩
theorem LU (N : Nat) (p0 : Ad) (r : (List Int)) (h : Fd N p0 = some r) : Au zA 120 [.e (.agg (C3 p0))] [(1, r.map Aq)] (oD (.own 0)) := by
 unfold Fd at h
 refine cw (n := 35) (rs := [.tmp 2]) Tryz.func120 fun w0 S0 => ?_
 refine wq rfl (qb rfl (qa rfl (Ac (wp rfl (qf Hc rfl (ql A8 rfl (Ac (AX (wq rfl (AN rfl (qe rfl ?_)))))))))))
 refine Bb h (fun h => ?_) fun h => ?_
 ·refine wq rfl (qf Mq rfl (ql A8 rfl (qf Mm rfl (ql A8 rfl (qf N7 rfl (ql A8 rfl (EB GH Pg fx rfl (qe rfl ?_))))))))
  obtain rfl := sj h
  refine Ah (sm [(1000, 13)] [(2, oD (.own 1000))] [(1000, .vec 1 ((([p0.gX, p0.g8, p0.hJ] : List Int)).map Aq))] rfl rfl) (As ?_)
  exact ⟨⟨[_], tm, rfl⟩, ⟨rfl, tv⟩⟩
 ·refine wq rfl (AN rfl (qe rfl ?_))
  refine Bb h (fun h => ?_) fun h => ?_
  ·refine wq rfl (qf Nn rfl (ql A8 rfl (qf So rfl (ql A8 rfl (qf Po rfl (ql A8 rfl (EB GH Pg fx rfl (qe rfl ?_))))))))
   obtain rfl := sj h
   refine Ah (sm [(1000, 22)] [(2, oD (.own 1000))] [(1000, .vec 1 ((([p0.gO, p0.gV, p0.gP] : List Int)).map Aq))] rfl rfl) (As ?_)
   exact ⟨⟨[_], tm, rfl⟩, ⟨rfl, tv⟩⟩
  ·refine wq rfl (AN rfl (qe rfl ?_))
   refine Bb h (fun h => ?_) fun h => ?_
   ·refine wq rfl (qf TK rfl (ql A8 rfl (qf JY rfl (ql Lq rfl (EB GH Pg fx rfl (qe rfl ?_))))))
    obtain rfl := sj h
    refine Ah (sm [(1000, 29)] [(2, oD (.own 1000))] [(1000, .vec 1 ((([p0.qv, p0.gN] : List Int)).map Aq))] rfl rfl) (As ?_)
    exact ⟨⟨[_], tm, rfl⟩, ⟨rfl, tv⟩⟩
   ·refine Al (wq rfl (qf SH rfl (ql A8 rfl (qf JY rfl (ql Lq rfl (EB GH Pg fx rfl (qe rfl ?_)))))))
    obtain rfl := sj h
    refine Ah (sm [(1000, 34)] [(2, oD (.own 1000))] [(1000, .vec 1 ((([p0.gL, p0.gN] : List Int)).map Aq))] rfl rfl) (As ?_)
    exact ⟨⟨[_], tm, rfl⟩, ⟨rfl, tv⟩⟩
theorem QV (N : Nat) (p0 : Int) (p1 : Int) (p2 : List Int) (r : Ad) (h : F5 N p0 p1 p2 = some r) : Au zA 121 [iD p0, iD p1, pD (.sl (p2.map Aq))] [] (.e (.agg (C3 r))) := by
 unfold F5 at h
 refine cw (n := 59) (rs := [.cell 6 37]) Tryz.func121 fun w0 S0 => ?_
 refine wq rfl (qz Iu rfl (Ac (wq rfl (qw 2 rfl (AS Iu Sg rfl (qz Iu rfl (qs ER rfl (Ac ?_))))))))
 refine AI h (fun v1 => mk [(6, oD (.ptr 6 0)), (7, oD (.ptr 7 0))] [(6, .box [iC 0, iC 0, iC 0, iC 0, iC 0, iC 0, iC 0, iC 0, iC 0, iC 0, iC 0]), (7, .box [iC p0, iC p1, iC v1.1, iC v1.2.1, iC v1.2.2.1, iC v1.2.2.2.1, iC v1.2.2.2.2.1, iC v1.2.2.2.2.2.1, iC v1.2.2.2.2.2.2.1, iC v1.2.2.2.2.2.2.2.1, iC v1.2.2.2.2.2.2.2.2])]) (fun j1 h => ?_) (fun v1 h => ?_)
 ·refine wq rfl (qm rfl (Ac (AX (wq rfl (AN rfl (qe rfl ?_))))))
  refine Bb h (fun h => ?_) fun h => ?_
  ·refine Ai Aw rfl (qm rfl ?_)
   refine BY h fun v3 a3 b3 h => qi GH Pg a3 (Aj b3) rfl (qk Lq rfl (qm rfl ?_))
   refine BY h fun v4 a4 b4 h => qi GH Pg a4 (Aj b4) rfl (qk Lq rfl (qm rfl ?_))
   refine BY h fun v5 a5 b5 h => qi GH Pg a5 (Aj b5) rfl (qk Lq rfl (qf Mq rfl (qs CQ rfl (qf Mm rfl (qs CQ rfl (qf N7 rfl (qs CQ rfl (AJ (by kernel_rfl) ?_))))))))
   exact sn [] h
  ·refine wq rfl (AN rfl (qe rfl ?_))
   refine Bb h (fun h => ?_) fun h => ?_
   ·refine Ai Aw rfl (qm rfl ?_)
    refine BY h fun v7 a7 b7 h => qi GH Pg a7 (Aj b7) rfl (qk Lq rfl (qm rfl ?_))
    refine BY h fun v8 a8 b8 h => qi GH Pg a8 (Aj b8) rfl (qk Lq rfl (qm rfl ?_))
    refine BY h fun v9 a9 b9 h => qi GH Pg a9 (Aj b9) rfl (qk Lq rfl (qf Nn rfl (qs CQ rfl (qf So rfl (qs CQ rfl (qf Po rfl (qs CQ rfl (AJ (by kernel_rfl) ?_))))))))
    exact sn [] h
   ·refine wq rfl (AN rfl (qe rfl ?_))
    refine Bb h (fun h => ?_) fun h => ?_
    ·refine Ai Aw rfl (qm rfl ?_)
     refine BY h fun v11 a11 b11 h => qi GH Pg a11 (Aj b11) rfl (qk Lq rfl (qm rfl ?_))
     refine BY h fun v12 a12 b12 h => qi GH Pg a12 (Aj b12) rfl (qk Lq rfl (qf TK rfl (qs CQ rfl (qf JY rfl (qs Pg rfl (AJ (by kernel_rfl) ?_))))))
     exact sn [] h
    ·refine Ai Aw rfl (qm rfl ?_)
     refine BY h fun v13 a13 b13 h => qi GH Pg a13 (Aj b13) rfl (qk Lq rfl (qm rfl ?_))
     refine BY h fun v14 a14 b14 h => qi GH Pg a14 (Aj b14) rfl (qk Lq rfl (qf SH rfl (qs CQ rfl (qf JY rfl (qs Pg rfl (AJ (by kernel_rfl) ?_))))))
     exact sn [] h
 ·refine wq rfl (qL I0 ER rfl (qs ER rfl (Ac ?_)))
  obtain rfl := sj h
  refine Ah (sm [] [(6, oD (.ptr 6 0))] [(6, .box [iC p0, iC p1, iC v1.1, iC v1.2.1, iC v1.2.2.1, iC v1.2.2.2.1, iC v1.2.2.2.2.1, iC v1.2.2.2.2.2.1, iC v1.2.2.2.2.2.2.1, iC v1.2.2.2.2.2.2.2.1, iC v1.2.2.2.2.2.2.2.2])] rfl rfl) (As ?_)
  exact ⟨⟨[_], ⟨.cellN _ _ _ _ _ _ _ rfl rfl I0 ER rfl rfl (E1 rfl), tv⟩, rfl⟩, tv⟩
theorem It (N : Nat) (p0 : List Int) (p1 : Int → Option Bool) (r : Int) (h : Dp N p0 p1 = some r) : Au zA 157 [pD (.sl (p0.map Aq)), oD (.clo (Lz (Rd false Aq) tB p1))] [] (iD r) := by
 unfold Dp at h
 refine cw (n := 19) (rs := [.tmp 4]) Tryz.func157 fun w0 S0 => ?_
 refine wq rfl (qa rfl (Ac (wp rfl (qm rfl (AU GH rfl (qm rfl (Ac ?_)))))))
 refine AY (L := Br N p0 p1) h (fun v1 => mk [(0, pD (.sl (p0.map Aq))), (1, oD (.clo (Lz (Rd false Aq) tB p1))), (7, iD ((p0.length : Int))), (8, iD v1)] []) (fun v2 => mk [] []) (fun _ _ => rfl) (sm [] _ _ rfl rfl) (fun j1 n1 v1 h => ?_) (fun v2 s h hs => ?_)
 ·unfold Br at h
  refine wq rfl (A9 rfl (Ac (A5 ?_)))
  refine Bb h (fun h => ?_) fun h => ?_
  ·refine Al (A5 (AX (wq rfl (qm rfl (qa rfl (Ac (wq rfl (qw 3 rfl ?_))))))))
   refine BY h fun v4 a4 b4 h => qi GH Pg a4 (Aj b4) rfl (qk Lq rfl ?_)
   refine BF h fun v5 a5 h => Pj (ds0 := [_]) (ar := (Rd false Aq) v4) (.p rfl) rfl rfl ⟨rfl, tv⟩ rfl rfl rfl (Pe (Pm _ _ YV) a5) ?_
   refine Ac ?_
   refine Bb h (fun h => ?_) fun h => ?_
   ·refine wq rfl (qm rfl (qe rfl ?_))
    obtain rfl := sj h
    refine Ah (sm [] [(4, iD v1)] [] rfl rfl) (As ?_)
    exact ⟨⟨[_], tm, rfl⟩, tv⟩
   ·refine Al (Ai Aw rfl (Bp rfl (qm rfl (Ac ?_))))
    exact sn [] h
  ·refine Bh ?_
   exact sn [] h
 ·refine Ah hs (wq rfl (qe rfl ?_))
  obtain rfl := sj h
  refine Ah (sm [] [(4, iD ((-1)))] [] rfl rfl) (As ?_)
  exact ⟨⟨[_], tm, rfl⟩, tv⟩
theorem HW (N : Nat) (p0 : List Int) (p1 : Int → Option Bool) (r : Bool) (h : BR N p0 p1 = some r) : Au zA 122 [pD (.sl (p0.map Aq)), oD (.clo (Lz (Rd false Aq) tB p1))] [] (bD r) := by
 unfold BR at h
 refine cw (n := 9) (rs := [.tmp 4]) Tryz.func122 fun w0 S0 => ?_
 refine wq rfl (qa rfl (Ac (wq rfl (qw 2 rfl ?_))))
 refine BF h fun v1 a1 h => Av [] (It N p0 p1 v1 a1) eq rfl (Eh rfl (qe rfl ?_))
 obtain rfl := sj h
 refine Ah (sm [] [(4, bD ((decide (0 ≤ v1))))] [] rfl rfl) (As ?_)
 exact ⟨⟨[_], tm, rfl⟩, tv⟩
theorem O2 (N : Nat) (p0 : Int) (r : Bool) (h : Fo N p0 = some r) : Au zA 123 [iD p0] [] (bD r) := by
 unfold Fo at h
 refine cw (n := 5) (rs := [.tmp 2]) Tryz.func123 fun w0 S0 => ?_
 refine wq rfl (qa rfl (Ac (wq rfl (qm rfl (A9 rfl (qe rfl ?_))))))
 obtain rfl := sj h
 refine Ah (sm [] [(2, bD ((decide (p0 < 0))))] [] rfl rfl) (As ?_)
 exact ⟨⟨[_], tm, rfl⟩, tv⟩
end Go.Lift
